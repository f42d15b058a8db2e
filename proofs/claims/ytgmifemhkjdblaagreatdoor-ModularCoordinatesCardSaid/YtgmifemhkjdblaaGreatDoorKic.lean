/- Merged out of 28 texts. -/
import Derived.Test.YtgmifemhkjdblaaGreatDoorKib
namespace Go.Proofs.YtgmifemhkjdblaaGreatDoor
open Go.Lg
def JF {α:Type}(f:Nat→α) (i:Nat) (x:α):Nat→α:=λj=>if j=i then x else f j
theorem ZT {α:Type}(f:Nat→α) (i:Nat) (x:α):JF f i x i=x:=by simp[JF]
theorem Yd {α:Type}(f:Nat→α) {i j:Nat}(x:α) (h:j≠i):JF f i x j=f j:=by simp[JF,h]
theorem jo {α β:Type}(k:α→β) (n:Nat) (f:Nat→α) (i:Nat) (x:α):((List.range n).map λj=>k (f j)).set i (k x)=(List.range n).map λj=>k (JF f i x j):=by
 apply List.ext_getElem
 ·simp
 ·intro j h1 h2
  rw[List.getElem_set]
  by_cases e:i=j
  ·subst e;simp[ZT]
  ·rw[if_neg e];simp[Yd _ _ (Ne.symm e)]
structure J1 (base:Nat) (w:World) (n:Nat) (f:Nat→Value) (g:Nat→LI):Prop where
 own:∀i,i<n→Qt 3 base w (f i) (g i)
 dj:∀i j,i<n→j<n→i≠j→Dj (f i) (f j)
theorem J1.app {base n i:Nat}{w w':World}{f:Nat→Value}{g:Nat→LI}{v':Value}{l:LI}(h:J1 base w n f g) (hi:i<n) (ho:Qt 3 base w' v' l) (hs:Step (ob (f i)) w w')
  (hn:∀b∈ob v',b∈ob (f i)∨w.heap.size≤b):J1 base w' n (JF f i v') (JF g i l):=by
 refine ⟨λj hj=>?_,λj k hj hk hjk=>?_⟩
 ·by_cases e:j=i
  ·subst e;rw[ZT,ZT];exact ho
  ·rw[Yd _ _ e,Yd _ _ e]
   exact Qm (h.own j hj) hs (h.dj j i hj hi e)
 ·have key:∀j,j<n→j≠i→Dj v' (f j):=λj hj e b hb hbj=>by
   rcases hn b hb with h1 | h1
   ·exact h.dj i j hi hj (Ne.symm e) b h1 hbj
   ·have:=Q0 (h.own j hj) b hbj;omega
  by_cases e1:j=i
  ·subst e1
   rw[ZT,Yd _ _ (Ne.symm hjk)]
   exact key k hk (Ne.symm hjk)
  ·rw[Yd _ _ e1]
   by_cases e2:k=i
   ·subst e2;rw[ZT];exact (key j hj e1).symm
   ·rw[Yd _ _ e2];exact h.dj j k hj hk hjk
theorem J1.step {base n:Nat}{X:LN}{w w':World}{f:Nat→Value}{g:Nat→LI}(h:J1 base w n f g) (hs:Step X w w') (hX:∀i,i<n→∀b∈ob (f i),b∉X):J1 base w' n f g :=
 ⟨λi hi=>Qm (h.own i hi) hs (hX i hi),h.dj⟩
theorem J1.ext {base n:Nat}{w w':World}{f:Nat→Value}{g:Nat→LI}(h:J1 base w n f g) (hs:Step [] w w'):J1 base w' n f g:=h.step hs (λ_ _ _ _=>by simp)
def Zz (es:List Ed) (s:Nat):LI:=(es.filter λe=>decide (e.2.2=(s:Int))).map (·.1)
theorem U2 (es:List Ed) (e:Ed) (h0:0≤e.2.2):∀s,JF (Zz es) e.2.2.toNat (Zz es e.2.2.toNat++[e.1]) s=Zz (es++[e]) s:=by
 intro s
 unfold Zz
 rw[List.filter_append,List.map_append]
 by_cases h:s=e.2.2.toNat
 ·subst h
  rw[ZT]
  have:e.2.2=(e.2.2.toNat:Int):=by omega
  simp[←this]
 ·rw[Yd _ _ h]
  have:¬e.2.2=(s:Int):=by omega
  simp[this]
theorem Jc {es:List Ed}{s:Nat}{p:Int}(h:p∈Zz es s):∃e∈es,e.1=p∧e.2.2=(s:Int):=by
 unfold Zz at h
 simp only[List.mem_map,List.mem_filter,decide_eq_true_eq] at h
 obtain ⟨e,⟨h1,h2⟩,h3⟩:=h
 exact ⟨e,h1,h3,h2⟩
theorem Xn (es:List Ed) (s:Nat):(Zz es s).length≤es.length:=by
 unfold Zz;rw[List.length_map];exact List.length_filter_le _ _
def KZ (s:Int) (st:LI×LI) (p:Int):LI×LI:=if cget st.1 p.toNat<0 then (st.1.set p.toNat (cget st.1 s.toNat+1),st.2++[p]) else st
def bwL (es:List Ed):Nat→LI→LI→LI
 | 0,o,_=>o
 | _+1,o,[]=>o
 | f+1,o,s::q=>bwL es f ((Zz es s.toNat).foldl (KZ s) (o,q)).1 ((Zz es s.toNat).foldl (KZ s) (o,q)).2
def Kk (n:Nat) (to:LI):LI:=(List.range n).map λi:Nat=>if (i:Int)∈to then 0 else -1
def bwd (n:Nat) (es:List Ed) (to:LI):LI:=bwL es (n+to.length) (Kk n to) to
theorem QiD (es:List Ed) (f:Nat) (o:LI):bwL es f o []=o:=by cases f <;> rfl
structure qQ (n:Nat) (o q:LI):Prop where
 len:o.length=n
 q:∀x∈q,0≤x∧x<(n:Int)
 le:∀x∈o,-1≤x∧x+(neg o:Int)≤n
theorem yE (l:LI):neg l≤l.length:=List.length_filter_le _ _
theorem QbG {n:Nat}{s p:Int}{st:LI×LI}(h:qQ n st.1 st.2) (hs:0≤s∧s<(n:Int)) (hos:0≤cget st.1 s.toNat) (hp:0≤p∧p<(n:Int)) :
  qQ n (KZ s st p).1 (KZ s st p).2∧neg (KZ s st p).1+(KZ s st p).2.length=neg st.1+st.2.length∧0≤cget (KZ s st p).1 s.toNat:=by
 unfold KZ
 have hl:=h.len
 have hpl:p.toNat<st.1.length:=by omega
 have hsl:s.toNat<st.1.length:=by omega
 by_cases hc:cget st.1 p.toNat<0
 ·rw[if_pos hc]
  have hc':st.1[p.toNat]'hpl<0:=by rw[Zg hpl];exact hc
  have hv:=h.le _ (Xz hsl)
  have hng:=Vb st.1 p.toNat (cget st.1 s.toNat+1) hpl hc' (by omega)
  refine ⟨⟨by simp[hl],λx hx=>?_,λx hx=>?_⟩,?_,?_⟩
  ·simp only[List.mem_append,List.mem_singleton] at hx
   rcases hx with hx | rfl
   ·exact h.q x hx
   ·exact hp
  ·simp only[] at hx ⊢
   rcases List.mem_or_eq_of_mem_set hx with h1 | h1
   ·have:=h.le x h1;omega
   ·subst h1;omega
  ·simp only[List.length_append,List.length_singleton];omega
  ·simp only[]
   have hne:s.toNat≠p.toNat:=λe=>by rw[e] at hos;omega
   have:cget (st.1.set p.toNat (cget st.1 s.toNat+1)) s.toNat=cget st.1 s.toNat:=by
    unfold cget;simp[List.getD,List.getElem?_set_ne (Ne.symm hne)]
   rw[this];exact hos
 ·rw[if_neg hc]
  exact ⟨h,rfl,hos⟩
theorem YS (n:Nat) (to:LI):(Kk n to).length=n:=by simp[Kk]
theorem QbH {n:Nat}{to:LI}(h:∀x∈to,0≤x∧x<(n:Int)):qQ n (Kk n to) to:=by
 refine ⟨YS n to,h,λx hx=>?_⟩
 have hn:=yE (Kk n to)
 rw[YS] at hn
 unfold Kk at hx
 simp only[List.mem_map] at hx
 obtain ⟨i,_,rfl⟩:=hx
 split <;> omega
theorem Uw {n:Nat}{to:LI}{x:Int}(h:0≤x∧x<(n:Int)) (hx:x∈to):cget (Kk n to) x.toNat=0:=by
 have h1:x.toNat<(Kk n to).length:=by rw[YS];omega
 rw[←Zg h1]
 have:((x.toNat:Nat):Int)=x:=by omega
 simp[Kk,this,hx]
def QaN (o q:LI):Prop:=∀x∈q,0≤cget o x.toNat
theorem qA {n:Nat}{s p:Int}{st:LI×LI}(h:qQ n st.1 st.2) (hos:0≤cget st.1 s.toNat) (hp:0≤p∧p<(n:Int)) (h0:QaN st.1 st.2):QaN (KZ s st p).1 (KZ s st p).2:=by
 unfold KZ
 have hpl:p.toNat<st.1.length:=by have:=h.len;omega
 by_cases hc:cget st.1 p.toNat<0
 ·rw[if_pos hc]
  intro x hx
  simp only[] at hx ⊢
  have e1:cget (st.1.set p.toNat (cget st.1 s.toNat+1)) x.toNat=if x.toNat=p.toNat then cget st.1 s.toNat+1 else cget st.1 x.toNat:=by
   by_cases e:x.toNat=p.toNat
   ·rw[if_pos e,e];unfold cget;simp[List.getD,hpl]
   ·rw[if_neg e];unfold cget;simp[List.getD,List.getElem?_set_ne (Ne.symm e)]
  rw[e1]
  split
  ·omega
  ·rename_i e
   simp only[List.mem_append,List.mem_singleton] at hx
   rcases hx with hx | rfl
   ·exact h0 x hx
   ·exact absurd rfl e
 ·rw[if_neg hc];exact h0
open Tryz
theorem jH (n:Nat):(List.replicate n (nS).cells.toList).flatten=(List.range n).map (λ_=>nS):=by
 apply List.ext_getElem
 ·simp[Value.cells]
 ·intro i h1 h2
  simp[Value.cells]
theorem zL (n:Nat):(List.replicate n (Value.int .i64 0).cells.toList).flatten=(gA n (λj=>if j<0 then -1 else 0)).map (Value.int .i64):=by
 apply List.ext_getElem
 ·simp[Value.cells,gA]
 ·intro i h1 h2
  simp[Value.cells,gA]
theorem K7 {rv:Nat→Value}{n i:Nat}(hi:i<n):((List.range n).map rv)[0+i*1]?=some (rv i):=by simp[hi]
theorem QaE {w:World}{va vm ve vf vt:Value}{a:QM}{n:Nat}{to:LI}(h:Zm [] w.heap va vm ve a) (hn:a.st=(n:Int)) (hst1:a.st≤4096) (hed:∀e∈a.ed,0≤e.1∧e.1<a.st∧0≤e.2.2∧e.2.2<a.st)
  (hel:a.ed.length≤1000000) (hto:QL [] w.heap vt to) (htb:∀s∈to,0≤s∧s<a.st) (htl:to.length≤4096) :
  QG prog 70 [.agg #[va,.int .i64 a.st,vm,ve,vf],vt] w λr w'=>Step [] w w'∧∃b,r=.slice (some ⟨b,0,none⟩) n n∧w.heap.size≤b∧QS w'.heap b 3 ((bwd n a.ed to).map (Value.int .i64)):=by
 refine QG.of_W func70 rfl ntmps70 results70 (by simp) ?_
 refine Qc<|xl rfl<|QQ (us:=[va,.int .i64 a.st,vm,ve,vf]) rfl λb2 w1 hs1 hb2 hB2=>Qf<|Qc<|x (Qa rfl)<|x (Qa rfl)<|x (Qd hB2 rfl rfl)<|xl rfl<|Xa (n:=n) (congrArg (Value.int .i64) hn) (congrArg (Value.int .i64) hn) (by omega) λbI w2 hs2 hbI hBI=>Qf ?_
 rw[jH] at hBI
 have hs12:=hs1.trans hs2
 have hz1:=hs1.size
 have hz2:=hs2.size
 have hlI:=hBI.lt
 have hl2:=hB2.lt
 have htb':∀s∈to,0≤s∧s<(n:Int):=λs hs=>by have:=htb s hs;omega
 refine Qg<|Qc<|x (Qa rfl)<|x (Qa rfl)<|x (Qd (hB2.ext hs2) rfl rfl)<|x (Qs h.ed rfl)<|Qb<|xe ?_
 refine Qh<|QA (α:=Nat×(Nat→Value)) [(7,7),(24,41)] (λz=>[(24,.int .i64 z.1)]) (λz w'=>z.1≤a.ed.length∧Step [bI] w2 w'∧QS w'.heap bI 40 ((List.range n).map z.2)∧J1 w2.heap.size w' n z.2 (Zz (a.ed.take z.1))) (λz=>a.ed.length - z.1) (by rfl) (0,λ_=>nS) ⟨rfl,trivial⟩
  ⟨Nat.zero_le _,Step.refl _ _,hBI,⟨λi _=>QP _ _ _ _,λi j _ _ _=>Dj.nil _⟩⟩ ?_
 rintro ⟨k,rv⟩ g w3 ⟨hk,hs3,hBI3,hR3⟩
 simp only[] at hk hBI3 hR3
 have hz3:=hs3.size
 have hs23:Step [] w1 w3:=hs2.then1 hs3 hbI
 refine Qc<|x (QB rfl rfl)<|xe ?_
 refine Qg<|QD rfl (λh25=>?_) (λh25=>?_)
 ·refine Qz ?_
  have hke:a.ed.length≤k:=by have h18:¬(k:Int)<(a.ed.length:Int):=h25;omega
  rw[List.take_of_length_le hke] at hR3
  have hI3:∀i,i<n→QL [] w3.heap (rv i) (Zz a.ed i):=λi hi=>QV (hR3.own i hi) (by have:=Xn a.ed i;omega) (by simp)
  have hto3:=(hto.ext hs1).ext hs23
  refine Qc<|x (Qa rfl)<|x (Qa rfl)<|x (Qd (hB2.ext hs23) rfl rfl)<|xl rfl<|Xa (n:=n) (congrArg (Value.int .i64) hn) (congrArg (Value.int .i64) hn) (by omega) λbO w4 hs4 hbO hBO=>Qf ?_
  rw[zL] at hBO
  refine Qg<|Qc<|Qb<|x (Qs (L:=[]) (hBO.arr (by simp) (n:=n) (cap:=n) (sz:=1) (by simp[gA]) (by omega) (Nat.le_refl _)) rfl)<|Qb<|xe ?_
  refine Qh<|QA (α:=Nat) [(9,9),(48,54)] (λz=>[(48,.int .i64 z)]) (λz w'=>z≤n∧Step [] w3 w'∧QS w'.heap bO 3 ((gA n (λj=>if j<z then -1 else 0)).map (Value.int .i64))) (λz=>n - z) (by rfl) 0 ⟨rfl,trivial⟩ ⟨Nat.zero_le _,hs4,hBO⟩ ?_
  rintro j g w5 ⟨hj,hs5,hBO5⟩
  refine Qc<|x (QB rfl rfl)<|xe ?_
  refine Qg<|QD rfl (λh49=>?_) (λh49=>?_)
  ·refine Qz ?_
   have hjn:j=n:=by have h50:¬(j:Int)<(n:Int):=h49;omega
   have hg0:gA n (λi=>if i<j then -1 else 0)=gA n (λi:Nat=>if (i:Int)∈to.take 0 then 0 else -1):=U7 λi hi=>by rw[if_pos (by omega),if_neg (by simp)]
   rw[hg0] at hBO5
   refine Qc<|Qb<|xl rfl<|xf<|(Yw (hto3.ext hs5)).mono ?_
   rintro vq w6 ⟨hs6,hQ6⟩
   have hlO:=hBO5.lt
   have hs36:=hs5.trans hs6
   have hz5:=hs5.size
   refine Qf<|Qg<|Qc<|Qb<|x (Qs (hto3.ext hs36) rfl)<|Qb<|xe ?_
   refine Qh<|QA (α:=Nat) [(12,12),(59,66)] (λz=>[(59,.int .i64 z)]) (λz w'=>z≤to.length∧Step [] w3 w'∧QS w'.heap bO 3 ((gA n (λi:Nat=>if (i:Int)∈to.take z then 0 else -1)).map (Value.int .i64))∧Qt 3 w5.heap.size w' vq to∧w5.heap.size≤w'.heap.size) (λz=>to.length - z) (by rfl) 0 ⟨rfl,trivial⟩
    ⟨Nat.zero_le _,hs36,hBO5.ext hs6,hQ6,hs6.size⟩ ?_
   rintro i g w7 ⟨hi,hs7,hBO7,hQ7,hz7⟩
   refine Qc<|x (QB rfl rfl)<|xe ?_
   refine Qg<|QD rfl (λh60=>?_) (λh60=>?_)
   ·refine Qz ?_
    have hie:to.length≤i:=by have h61:¬(i:Int)<(to.length:Int):=h60;omega
    rw[List.take_of_length_le hie] at hBO7
    have hBO7':QS w7.heap bO 3 ((Kk n to).map (Value.int .i64)):=hBO7
    refine Qg<|Qh<|QA (α:=Nat×Value×LI×LI) [(10,10),(13,13),(15,15),(67,101)] (λz=>[(10,z.2.1)])
     (λz w'=>Step [] w3 w'∧w5.heap.size≤w'.heap.size∧QS w'.heap bO 3 (z.2.2.1.map (Value.int .i64))∧JE 3 w5.heap.size w' z.2.1 z.2.2.2∧qQ n z.2.2.1 z.2.2.2∧QaN z.2.2.1 z.2.2.2∧neg z.2.2.1+z.2.2.2.length≤z.1∧z.1≤8192∧bwL a.ed z.1 z.2.2.1 z.2.2.2=bwd n a.ed to)
     (λz=>z.1+1 - (if z.2.2.2=[] then 1 else 0)) (by rfl) (n+to.length,vq,Kk n to,to) ⟨rfl,trivial⟩
     ⟨hs7,hz7,hBO7',YJ.of_row hQ7,QbH htb',λx hx=>by rw[Uw (htb' x hx) hx];omega,by have:=yE (Kk n to);rw[YS] at this;simp only[];omega,by simp only[];omega,rfl⟩ ?_
    rintro ⟨fu,vq,o,q⟩ g w8 ⟨hs8,hz8,hBO8,hQ8,hok,hset,hfu,hfu2,hres⟩
    simp only[] at hz8 hBO8 hQ8 hok hset hfu hfu2 hres
    have hnq:neg o+q.length≤8192:=by omega
    refine Qg<|Qc<|Qb<|x (Qs (Qi1 (L:=[]) hQ8 (by omega) (by simp)) rfl)<|x (ZL rfl rfl)<|xe ?_
    refine QD rfl (λh69=>?_) (λh69=>?_)
    ·refine Qz ?_
     have hq0:q=[]:=List.eq_nil_of_length_eq_zero (by have h70:¬(q.length:Int) > 0:=h69;omega)
     rw[hq0,QiD] at hres
     rw[hres] at hBO8
     refine Qc<|Qb<|Qf ?_
     exact Qk ⟨[.slice (some ⟨bO,0,none⟩) n n],⟨rfl,trivial⟩,hs1.trans (hs23.trans hs8),bO,rfl,by omega,hBO8⟩
    refine Qi ?_
    have hq1:0<q.length:=by have h70:(q.length:Int) > 0:=h69;omega
    refine Exists.elim (List.exists_cons_of_length_pos hq1) λs hq'=>Exists.elim hq' λq' hqq=>?_
    subst hqq
    have hfu1:0<fu:=by simp only[List.length_cons] at hfu;omega
    refine Exists.elim (Nat.exists_eq_succ_of_ne_zero (show fu≠0 by omega)) λfu' hfe=>?_
    subst hfe
    have hsr:=hok.q s List.mem_cons_self
    have hos:=hset s List.mem_cons_self
    have hsn:s=(s.toNat:Int):=by omega
    rw[bwL] at hres
    simp only[List.length_cons] at hfu
    refine Qh<|Qc<|Qb<|xii (i:=0) (Qi1 (L:=[]) hQ8 (by simp only[List.length_cons];omega) (by simp)) rfl rfl (by simp) λa71 h71=>x (Qw h71 rfl)<|Qf<|Qc<|Qb<|QlE (lo:=1) hQ8 rfl rfl (by simp only[List.length_cons];omega) λvq1 hQ81 hobq=>Qf ?_
    have hQ9:JE 3 w5.heap.size w8 vq1 q':=JE.tail hQ81
    refine Qc<|Qb<|Qb<|x (QR (i:=s.toNat) rfl (congrArg (Value.int .i64) hsn) (by omega))<|x (Qd (u:=rv s.toNat) (hBI3.ext hs8) rfl (K7 (by omega)))<|x (Qs ((hI3 s.toNat (by omega)).ext hs8) rfl)<|Qb<|xe ?_
    have hil:=Xn a.ed s.toNat
    refine Qh<|QA (α:=Nat×Value×LI×LI) [(10,10),(15,15),(80,101)] (λz=>[(10,z.2.1),(80,.int .i64 z.1)])
     (λz w'=>z.1≤(Zz a.ed s.toNat).length∧Step [] w3 w'∧w5.heap.size≤w'.heap.size∧QS w'.heap bO 3 (z.2.2.1.map (Value.int .i64))∧JE 3 w5.heap.size w' z.2.1 z.2.2.2∧qQ n z.2.2.1 z.2.2.2∧QaN z.2.2.1 z.2.2.2∧0≤cget z.2.2.1 s.toNat∧neg z.2.2.1+z.2.2.2.length≤fu'∧((Zz a.ed s.toNat).drop z.1).foldl (KZ s) (z.2.2.1,z.2.2.2)=(Zz a.ed s.toNat).foldl (KZ s) (o,q'))
     (λz=>(Zz a.ed s.toNat).length - z.1) (by rfl) (0,vq1,o,q') ⟨rfl,rfl,trivial⟩
     ⟨Nat.zero_le _,hs8,hz8,hBO8,hQ9,⟨hok.len,λx hx=>hok.q x (List.mem_cons_of_mem _ hx),hok.le⟩,λx hx=>hset x (List.mem_cons_of_mem _ hx),hos,by simp only[];omega,rfl⟩ ?_
    rintro ⟨m,vq2,o2,q2⟩ g w9 ⟨hm,hs9,hz9,hBO9,hQ9,hok9,hset9,hos9,hfu9,hfo⟩
    simp only[] at hm hz9 hBO9 hQ9 hok9 hset9 hos9 hfu9 hfo
    refine Qc<|x (QB rfl rfl)<|xe ?_
    refine Qg<|QD rfl (λh81=>?_) (λh81=>?_)
    ·refine Qz ?_
     have hme:(Zz a.ed s.toNat).length≤m:=by have h82:¬(m:Int)<((Zz a.ed s.toNat).length:Int):=h81;omega
     rw[List.drop_of_length_le hme] at hfo
     rw[←hfo] at hres
     exact ⟨(fu',vq2,o2,q2),by simp only[];split <;> simp <;> omega,⟨rfl,trivial⟩,hs9,hz9,hBO9,hQ9,hok9,hset9,hfu9,by simp only[];omega,hres⟩
    refine Qi ?_
    have hmlt:m<(Zz a.ed s.toNat).length:=by have h82:(m:Int)<((Zz a.ed s.toNat).length:Int):=h81;omega
    have hpm:=Jc (List.getElem_mem hmlt)
    have hdr:=Q6 hmlt
    rw[hdr,List.foldl_cons] at hfo
    refine Zc ((Zz a.ed s.toNat)[m]'hmlt) λp hp=>?_
    rw[hp] at hpm hfo
    have hpb:0≤p∧p<(n:Int):=by
     obtain ⟨e,he,h1,_⟩:=hpm
     have:=hed e he
     omega
    have hpn:p=(p.toNat:Int):=by omega
    have hol:=hok9.len
    have hpl:p.toNat<o2.length:=by omega
    have hsl:s.toNat<o2.length:=by omega
    have hvs:=hok9.le _ (Xz hsl)
    have hEk:=QbG (st:=(o2,q2)) hok9 hsr hos9 hpb
    have hE0:=qA (st:=(o2,q2)) hok9 hos9 hpb hset9
    refine Qg<|Qh<|Qc<|xii (i:=m) ((hI3 s.toNat (by omega)).ext hs9) rfl rfl hmlt λa82 h82=>?_
    rw[hp] at h82
    refine x (Qw h82 rfl)<|Qf<|Qc<|Qb<|Qb<|x (QR (i:=p.toNat) rfl (congrArg (Value.int .i64) hpn) (by omega))<|x (J9 (i:=p.toNat) hBO9 rfl hpl)<|x (QB rfl rfl)<|xe ?_
    refine QD rfl (λh88=>?_) (λh88=>?_)
    ·refine Qi ?_
     have hc:¬cget o2 p.toNat<0:=by rw[←Zg hpl];exact h88
     have hEq:KZ s (o2,q2) p=(o2,q2):=by unfold KZ;rw[if_neg hc]
     rw[hEq] at hfo
     refine Qx<|x (Qy rfl rfl ⟨by omega,by omega⟩)<|Qb<|xe ?_
     exact ⟨(m+1,vq2,o2,q2),by simp only[];omega,⟨rfl,rfl,trivial⟩,hmlt,hs9,hz9,hBO9,hQ9,hok9,hset9,hos9,hfu9,hfo⟩
    have hc:cget o2 p.toNat<0:=by rw[←Zg hpl];exact h88
    have hEq:KZ s (o2,q2) p=(o2.set p.toNat (cget o2 s.toNat+1),q2++[p]):=by unfold KZ;rw[if_pos hc]
    rw[hEq] at hfo hEk hE0
    have hcs:=Zg hsl
    refine Qc<|Qb<|Qb<|Qb<|Qb<|x (QR (i:=s.toNat) rfl (congrArg (Value.int .i64) hsn) (by omega))<|x (J9 (i:=s.toNat) hBO9 rfl hsl)<|x (Qy rfl rfl ⟨by omega,by omega⟩) <|
     x (QR (i:=p.toNat) rfl (congrArg (Value.int .i64) hpn) (by omega))<|xl rfl<|Xt (i:=p.toNat) hBO9 rfl rfl hpl λw10 hs10 hBO10=>xe ?_
    rw[hcs] at hBO10
    have hz10:=hs10.size
    have hnO:∀b∈ob vq2,b∉[bO]:=λb hb=>by have:=Qjv hQ9 b hb;simp;omega
    have hQ10:=QeS hQ9 hs10 hnO
    have hs3a:Step [] w3 w10:=hs9.then1 hs10 (by omega)
    refine Qx<|Qb<|Qb<|xl rfl<|QH (us:=[[.int .i64 p]]) rfl rfl (by decide) (by simp) ⟨rfl,rfl,trivial⟩ λb99 w11 hs11 hb99 hB99=>xl rfl<|QjA (m:=1) (news:=[.int .i64 p]) (QkS hQ10 hs11) rfl rfl rfl (by omega) (hB99.at (L:=[]) (by simp)) (by simp[Value.oneCell']) (by omega) (by have:=hs11.size;omega) λvq3 w12 hQ12 hs12 hn12 =>
     Qf ?_
    have hz11:=hs11.size
    have hz12:=hs12.size
    have hQ12':JE 3 w5.heap.size w12 vq3 (q2++[p]):=JE.snoc hQ12
    have hz3O:w3.heap.size≤w5.heap.size:=by omega
    refine Qx<|x (Qy rfl rfl ⟨by omega,by omega⟩)<|Qb<|xe ?_
    refine ⟨(m+1,vq3,_,q2++[p]),by simp only[];omega,⟨rfl,rfl,trivial⟩,hmlt,(hs3a.trans hs11).then hs12 (λb hb=>.inr (by have:=Qjv hQ9 b hb;omega)),by omega,(hBO10.ext hs11).step hs12 (λhb=>by have:=Qjv hQ9 _ hb;omega),hQ12',hEk.1,hE0,hEk.2.2,?_,hfo⟩
    have h5:neg (o2.set p.toNat (cget o2 s.toNat+1))+(q2++[p]).length=neg o2+q2.length:=hEk.2.1
    simp only[];omega
   refine Qi ?_
   have hilt:i<to.length:=by have h61:(i:Int)<(to.length:Int):=h60;omega
   have hti:=htb' _ (List.getElem_mem hilt)
   have htk:to.take (i+1)=to.take i++[to[i]'hilt]:=List.take_succ_eq_append_getElem hilt
   refine Zc (to[i]'hilt) λs hs=>?_
   rw[hs] at hti htk
   have hsn:s=(s.toNat:Int):=by omega
   have hst:(gA n (λj:Nat=>if (j:Int)∈to.take i then 0 else -1)).set s.toNat 0=gA n (λj:Nat=>if (j:Int)∈to.take (i+1) then 0 else -1):=U6 (by rw[htk];simp;omega) (λj _ hj=>by
    rw[htk]
    have:¬(j:Int)=s:=by omega
    simp[this])
   refine Qg<|Qh<|Qc<|xii (i:=i) (hto3.ext hs7) rfl rfl hilt λa61 h61=>?_
   rw[hs] at h61
   refine x (Qw h61 rfl)<|Qf<|Qx<|Qb<|Qb<|x (QR (i:=s.toNat) rfl (congrArg (Value.int .i64) hsn) (by omega))<|xl rfl<|JR (i:=s.toNat) hBO7 rfl rfl (by omega) hst λw8 hs8 hBO8=>xe ?_
   refine Qx<|x (Qy rfl rfl ⟨by omega,by omega⟩)<|Qb<|xe ?_
   have hz8:=hs8.size
   exact ⟨i+1,by omega,⟨rfl,trivial⟩,hilt,hs7.then1 hs8 (by omega),hBO8,Qm hQ7 hs8 (λb hb=>by have:=Qq hQ7 b hb;simp;omega),by omega⟩
  refine Qi ?_
  have hjn:j<n:=by have h50:(j:Int)<(n:Int):=h49;omega
  refine Qg<|Qh<|Qc<|Qb<|Qf<|Qx ?_
  have hst:(gA n (λi=>if i<j then -1 else 0)).set j (-1)=gA n (λi=>if i<j+1 then -1 else 0):=U6 (by rw[if_pos (by omega)]) (λi _ hi=>by
   by_cases e:i<j
   ·rw[if_pos e,if_pos (by omega)]
   ·rw[if_neg e,if_neg (by omega)])
  refine Qb<|Qb<|x (QR (i:=j) rfl rfl (by omega))<|xl rfl<|JR (i:=j) hBO5 rfl rfl hjn hst λw6 hs6 hBO6=>xe ?_
  refine Qx<|x (Qy rfl rfl ⟨by omega,by omega⟩)<|Qb<|xe ?_
  exact ⟨j+1,by omega,⟨rfl,trivial⟩,hjn,hs5.then1 hs6 (by omega),hBO6⟩
 refine Qi ?_
 have hlt:k<a.ed.length:=by have h18:(k:Int)<(a.ed.length:Int):=h25;omega
 have htk:a.ed.take (k+1)=a.ed.take k++[a.ed[k]'hlt]:=List.take_succ_eq_append_getElem hlt
 have hek:=hed _ (List.getElem_mem hlt)
 refine Zc (a.ed[k]'hlt) λe he=>?_
 rw[he] at htk hek
 have hto':e.2.2=(e.2.2.toNat:Int):=by omega
 have htn:e.2.2.toNat<n:=by omega
 have hil:=Xn (a.ed.take k) e.2.2.toNat
 rw[List.length_take] at hil
 have hsn:=U2 (a.ed.take k) e hek.2.2.1
 refine Qg<|Qh<|Qc<|xie ((h.ed.ext hs1).ext hs23) rfl rfl hlt λa18 h18=>?_
 rw[he] at h18
 refine x (QJ h18 rfl rfl)<|xl rfl<|Qr (us:=[.int .i64 0,.int .i64 0,.int .i64 0]) rfl λb7 w4 hs4 hb7 hB7=>xl rfl<|Ql (us:=QC e) hB7 rfl rfl rfl rfl ⟨rfl,rfl,rfl,trivial⟩ λw5 hs5 hB7'=>xe ?_
 have hs35:Step [] w3 w5:=hs4.then1 hs5 hb7
 have hz5:=hs35.size
 have hR5:=hR3.ext hs35
 have hrow:=hR5.own _ htn
 have hIn:∀b∈ob (rv e.2.2.toNat),w2.heap.size≤b∧b<w3.heap.size:=λb hb=>⟨(Qq (hR3.own _ htn) b hb).1,Q0 (hR3.own _ htn) b hb⟩
 have hbIn:bI∉ob (rv e.2.2.toNat):=λhb=>by have:=hIn _ hb;omega
 have hb7n:b7∉ob (rv e.2.2.toNat):=λhb=>by have:=hIn _ hb;omega
 have hBI5:=hBI3.ext hs35
 refine QT (Step (ob (rv e.2.2.toNat)) w5) [(0,true),(1,true),(2,true),(3,true),(4,true),(5,true),(6,true),(7,true),(8,true),(9,true),(10,false),(11,false),(12,true),(13,false)] mixed (by rfl) (by kernel_rfl) (Step.drew _ _) ?_
 refine p (λ_=>Qo)<|p (λ_=>Qa rfl)<|pq (λ_ hc=>Qd (hB7'.step hc hb7n) rfl rfl)<|p (λ_=>Qo)<|p (λ_=>Qa rfl)<|pq (λ_ hc=>Qd (hB7'.step hc hb7n) rfl rfl) <|
  p (λ_=>QR (i:=e.2.2.toNat) rfl (congrArg (Value.int .i64) hto') htn)<|pq (λ_ hc=>Qd (u:=rv e.2.2.toNat) (hBI5.step hc hbIn) rfl (K7 htn))<|p (λ_=>Qa rfl)<|pq (λ_ hc=>Qd (hB7'.step hc hb7n) rfl rfl) <|
  pk<|QH (us:=[[.int .i64 e.1]]) rfl rfl (by decide) (by simp) ⟨rfl,rfl,trivial⟩ λb38 w6 hs6 hb38 hB38=>⟨(Step.drew _ _).trans hs6,?_⟩
 have hs56:Step [] w5 w6:=(Step.drew _ _).trans hs6
 have hz6:=hs56.size
 refine pk<|Q5 (m:=1) (news:=[.int .i64 e.1]) (Qu hrow hs56) rfl rfl rfl (hB38.at (L:=[]) (by simp)) (by simp[Value.oneCell']) (by omega) (by omega) λvr w7 ho7 hs7 hn7=>⟨hs56.any.trans' hs7,?_⟩
 have hBI7:=(hBI5.ext hs56).step hs7 hbIn
 have hlen:((List.range n).map rv).length=n:=by simp
 refine p (λ_=>QR (i:=e.2.2.toNat) rfl (congrArg (Value.int .i64) hto') htn)<|pkl (hl:=by kernel_rfl)<|QF (j:=0+e.2.2.toNat*1) (u:=vr) hBI7 rfl rfl (by rw[hlen];omega) (QV (L:=[]) ho7 (by omega) (by simp)).one λw8 hs8 hBI8=>pe ?_
 have hb8:QS w8.heap bI 40 ((List.range n).map (JF rv e.2.2.toNat vr)):=by
  have e1:=jo id n rv e.2.2.toNat vr
  simp only[id] at e1
  rw[←e1]
  simpa using hBI8
 have hvn:∀b∈ob vr,b∈ob (rv e.2.2.toNat)∨w5.heap.size≤b:=λb hb=>(hn7 b hb).imp id (λh=>by omega)
 have hR7:=hR5.app htn (Qt.snoc ho7) (hs56.any.trans' hs7) hvn
 have hR8:=hR7.step hs8 (λi hi b hb=>by have:=(Qq (hR7.own i hi) b hb).1;simp;omega)
 have hfe:JF (Zz (a.ed.take k)) e.2.2.toNat (Zz (a.ed.take k) e.2.2.toNat++[e.1])=Zz (a.ed.take (k+1)):=by rw[htk];exact funext hsn
 rw[hfe] at hR8
 refine Qx<|x (Qy rfl rfl ⟨by omega,by omega⟩)<|Qb<|xe ?_
 refine ⟨(k+1,JF rv e.2.2.toNat vr),by simp only[];omega,⟨rfl,trivial⟩,hlt,?_,hb8,hR8⟩
 exact (((hs3.trans hs35).trans hs56).then hs7 (λb hb=>.inr (hIn b hb).1)).trans' hs8
def KM (d:LI) (k:Nat):LI:=((List.range k).filter λi=>decide (0≤cget d i)).map λi:Nat=>(i:Int)
def cor (a:QM):LI:=KM (bwd a.st.toNat a.ed a.mr) a.st.toNat
theorem zS (d:LI) (k:Nat):KM d (k+1)=if 0≤cget d k then KM d k++[(k:Int)] else KM d k:=by
 unfold KM
 rw[List.range_succ,List.filter_append,List.map_append]
 by_cases h:0≤cget d k
 ·simp[h]
 ·simp[h]
theorem Qf7 (d:LI) (k:Nat):(KM d k).length≤k:=by
 unfold KM;rw[List.length_map];have:=List.length_filter_le (λi=>decide (0≤cget d i)) (List.range k);simpa using this
theorem QiE (s:Int) (st:LI×LI) (p:Int):(KZ s st p).1.length=st.1.length:=by unfold KZ;split <;> simp
theorem QaC (s:Int):∀(ps:LI) (st:LI×LI),(ps.foldl (KZ s) st).1.length=st.1.length
 | [],_=>rfl
 | p::ps,st=>by rw[List.foldl_cons,QaC s ps,QiE]
theorem QcU (es:List Ed):∀(f:Nat) (o q:LI),(bwL es f o q).length=o.length
 | 0,_,_=>rfl
 | _+1,_,[]=>rfl
 | f+1,o,s::q=>by rw[bwL,QcU es f,QaC]
theorem QiB (n:Nat) (es:List Ed) (to:LI):(bwd n es to).length=n:=by unfold bwd;rw[QcU,YS]
theorem J6 {w:World}{va vm ve:Value}{a:QM}(h:Zm [] w.heap va vm ve a) :
  QG prog 26 [.agg #[va,.int .i64 a.st,vm,ve]] w λr w'=>Step [] w w'∧∃v,r=.tuple #[v,.int .i64 (Y2 a)]∧Qt 3 w.heap.size w' v (if Y2 a=0 then cor a else []):=by
 refine QG.of_W func26 rfl ntmps26 results26 (by simp) ?_
 refine Qc<|xl rfl<|QQ (us:=[va,.int .i64 a.st,vm,ve]) rfl λb1 w1 hs1 hb1 hB1=>x Qe<|Qf<|Qg<|Qc<|x (Qn hB1 rfl rfl)<|xl rfl<|xf<|(YR (h.ext hs1)).mono ?_
 rintro r2 w2 ⟨rfl,hs2⟩
 refine Qf<|Qc<|Qb<|x (Q4 rfl rfl)<|xe ?_
 have hz1:=hs1.size
 have hz2:=hs2.size
 refine Q3 rfl (λh11=>?_) (λh11=>?_)
 ·refine Qc<|Qb<|x Qe<|Qf<|Qk ⟨[nS,.int .i64 (Y2 a)],⟨rfl,rfl,trivial⟩,hs1.trans hs2,_,rfl,?_⟩
  rw[if_neg h11];exact QP _ _ _ _
 have hck:Y2 a=0:=Decidable.not_not.1 h11
 have ho:=(Zs a).1 hck
 refine exN ho.st0 λn hn=>?_
 have hnt:a.st.toNat=n:=by omega
 have hst1:=ho.st1
 have hml:=ho.mr_le
 have hel:=ho.ed_le
 refine Qi<|Qc<|Qf ?_
 have hA2:=(h.ext hs1).ext hs2
 have hd0:Step [] w2 { w2 with drawn:=w2.drawn+1 }:=Step.drew _ _
 refine Qg<|Qg<|QT (Step [] w2) [(0,true),(2,true),(3,true),(6,true),(1,false),(4,false),(5,true)] mixed (by rfl) (by kernel_rfl) (Step.drew _ _) ?_
 refine pq (λ_ hc=>Qn ((hB1.ext hs2).ext hc) rfl rfl)<|p (λ_=>Qa rfl)<|pq (λ_ hc=>Qd ((hB1.ext hs2).ext hc) rfl rfl) <|
  p (λ_=>Qo)<|pk<|xf<|(V5 (hA2.ext hd0) hn hst1 (λe he=>⟨(ho.ed e he).1,(ho.ed e he).2.1⟩)).mono ?_
 rintro r3 w3 ⟨hs3,bF,rfl,_,_⟩
 refine ⟨hd0.trans hs3,?_⟩
 have hs23:=hd0.trans hs3
 refine pk<|xf<|(QaE (hA2.ext hs23) hn hst1 (λe he=>⟨(ho.ed e he).1,(ho.ed e he).2.1,(ho.ed e he).2.2.2⟩) (by omega) (hA2.mr.ext hs23) ho.mr hml).mono ?_
 rintro r4 w4 ⟨hs4,bO,rfl,hbO,hBO⟩
 refine ⟨hs23.trans hs4,?_⟩
 have hs24:=hs23.trans hs4
 have hdl:=QiB n a.ed a.mr
 have hAO:Zw [] w4.heap (.slice (some ⟨bO,0,none⟩) n n) n 1 ((bwd n a.ed a.mr).map (Value.int .i64)):=hBO.arr (by simp) (by simp[hdl]) (by omega) (Nat.le_refl _)
 refine p (λ_=>Qs hAO rfl)<|pe ?_
 have hz4:=hs24.size
 have hcor:cor a=KM (bwd n a.ed a.mr) n:=by unfold cor;rw[hnt]
 refine Qh<|QA (α:=Nat×Value) [(5,7),(19,30)] (λz=>[(5,z.2),(19,.int .i64 z.1)]) (λz w'=>z.1≤n∧Step [] w4 w'∧Qt 3 w4.heap.size w' z.2 (KM (bwd n a.ed a.mr) z.1)) (λz=>n - z.1) (by rfl) (0,nS) ⟨rfl,rfl,trivial⟩
  ⟨Nat.zero_le _,Step.refl _ _,QP _ _ _ _⟩ ?_
 rintro ⟨k,v⟩ g w5 ⟨hk,hs5,ho5⟩
 simp only[] at hk ho5
 refine Qc<|x (QB rfl rfl)<|xe ?_
 refine Qg<|QD rfl (λh20=>?_) (λh20=>?_)
 ·refine Qz ?_
  have hkn:k=n:=by have h21:¬(k:Int)<(n:Int):=h20;omega
  rw[hkn,←hcor] at ho5
  refine Qc<|Qb<|x Qe<|Qf<|Qk ⟨[v,.int .i64 0],⟨rfl,rfl,trivial⟩,(hs1.trans hs2).trans (hs24.trans hs5),_,by rw[hck];rfl,?_⟩
  rw[if_pos hck];exact Zb ho5 (by omega)
 have hkn:k<n:=by have h21:(k:Int)<(n:Int):=h20;omega
 have hsu:=zS (bwd n a.ed a.mr) k
 have hcl:=Qf7 (bwd n a.ed a.mr) k
 refine Qi<|Qg<|Qh<|Qc ?_
 have hA5:QL [] w5.heap (.slice (some ⟨bO,0,none⟩) n n) (bwd n a.ed a.mr):=by unfold QL;rw[hdl];exact hAO.ext hs5
 refine Qb<|xic (i:=k) hA5 rfl rfl (by omega) λa22 h22=>x (Qw h22 rfl)<|x Qe<|Qf<|Qc<|Qb<|x (ZM rfl rfl)<|xe ?_
 refine QD rfl (λh25=>?_) (λh25=>?_)
 ·refine Qi ?_
  rw[if_neg h25] at hsu
  refine Qx<|x (Qy rfl rfl ⟨by omega,by omega⟩)<|Qb<|xe ?_
  exact ⟨(k+1,v),by simp only[];omega,⟨rfl,rfl,trivial⟩,hkn,hs5,by rw[hsu];exact ho5⟩
 rw[if_pos h25] at hsu
 have hz5:=hs5.size
 refine Qx<|Qb<|Qb<|xl rfl<|QH (us:=[[.int .i64 k]]) rfl rfl (by decide) (by simp) ⟨rfl,rfl,trivial⟩ λb28 w6 hs6 hb28 hB28=>xl rfl<|Q5 (m:=1) (news:=[.int .i64 k]) (Qu ho5 hs6) rfl rfl rfl (hB28.at (L:=[]) (by simp)) (by simp[Value.oneCell']) (by omega) (by have:=hs6.size;omega) λv7 w7 ho7 hs7 hn7 =>
  Qf<|Qx<|x (Qy rfl rfl ⟨by omega,by omega⟩)<|Qb<|xe ?_
 exact ⟨(k+1,v7),by simp only[];omega,⟨rfl,rfl,trivial⟩,hkn,(hs5.trans hs6).then hs7 (λb hb=>.inr (Qq ho5 b hb).1),by rw[hsu];exact Qt.snoc ho7⟩
theorem QlQ {P:Program}{ops:List Oper}{K:Fr→World→Prop}{f:Fr}{w:World}{d:Option Nat}{ty:Nat}{ps:String}{af:Array Edge}{gd:Option (Nat×Bool)}{C:World→Prop}{pl:List (Nat×Bool)}{i0:Nat}
  {t e sz bys:Nat} {z:Value} {x y1 y2:Operand} {L:LN} {v:Value} {n:Nat} {cs:LV} {H:Array Obj} {k k':IntKind} {lo hi:Nat} [h:Sl P t e sz bys z]
  (ho:QK ops i0=⟨d,.slice t x (some y1) (some y2) none,ty,ps,af,gd⟩) (hA:Zw L H v n sz cs) (hx:ev f x=v) (hl:ev f y1=.int k lo) (hh:ev f y2=.int k' hi) (h1:lo≤hi) (h2:hi≤n)
  (hK:∀v',Zw L H v' (hi - lo) sz ((cs.drop (lo*sz)).take ((hi - lo)*sz))→XP P ops C K pl (QU f d v') w)
  (hg:ZZ ops f (QK ops i0)=true:=by rfl):XP P ops C K ((i0,true)::pl) f w:=by
 obtain ⟨v',h3,h4⟩:=Qce (P:=P) (d:=d) (ty:=ty) (ps:=ps) (af:=af) (gd:=gd) (t:=t) hA hx hl hh h1 h2
 exact Lg.p (λw'=>by rw[ho];exact h4 w') (by rw[ho];exact hK v' h3) hg
theorem QcJ {es:List Ed}(hs:es.Pairwise λx y=>x.1≤y.1) (s:Nat):∀(m:Nat) (hm:m<es.length),(m:Int)<fS es s↔(es[m]'hm).1<(s:Int):=by
 unfold fS cnE
 induction es with
 | nil=>intro m hm;simp at hm
 | cons e es ih =>
  intro m hm
  simp only[List.pairwise_cons] at hs
  have ih:=ih hs.2
  simp only[List.filter_cons]
  by_cases h1:e.1<(s:Int)
  ·simp only[h1,decide_true,if_true,List.length_cons]
   cases m with
   | zero=>simp only[List.getElem_cons_zero];omega
   | succ m =>
    have:=ih m (by simpa using hm)
    simp only[List.getElem_cons_succ]
    rw[←this];omega
  ·have h0:(es.filter λe=>decide (e.1<(s:Int)))=[]:=List.filter_eq_nil_iff.2 (λd hd=>by have:=hs.1 d hd;simp;omega)
   simp only[h1,decide_false,Bool.false_eq_true,if_false,h0,List.length_nil]
   cases m with
   | zero=>simp only[List.getElem_cons_zero];omega
   | succ m =>
    have hd:es[m]'(by simpa using hm)∈es:=List.getElem_mem _
    have:=hs.1 _ hd
    simp only[List.getElem_cons_succ];omega
theorem Qii (es:List Ed) (s:Nat):fS es s≤fS es (s+1):=by
 have h:=QcI es s
 have:=(KN (λe:Ed=>decide (e.1+1=((s+1:Nat):Int))) es).1
 unfold cN at h;omega
theorem Qhn {es:List Ed}(hs:es.Pairwise λx y=>x.1≤y.1) (s lo hi:Nat) (h1:fS es s=(lo:Int)) (h2:fS es (s+1)=(hi:Int)):(es.drop lo).take (hi - lo)=ZF es s∧hi≤es.length∧lo≤hi:=by
 have hm:=Qii es s
 have hl:=(KN (λe:Ed=>decide (e.1<((s+1:Nat):Int))) es).2
 have hhi:hi≤es.length:=by unfold fS at h2;omega
 refine ⟨?_,hhi,by omega⟩
 exact qj (λe:Ed=>decide (e.1=(s:Int))) es lo hi (by omega) hhi
  (λm hm hml=>by have:=(QcJ hs s m hm).1 (by omega);simp;omega)
  (λm hm h3 h4=>by
   have h5:¬(es[m]'hm).1<(s:Int):=λh=>by have:=(QcJ hs s m hm).2 h;omega
   have h6:=(QcJ hs (s+1) m hm).1 (by omega)
   simp;omega)
  (λm hm h3=>by
   have h6:¬(es[m]'hm).1<((s+1:Nat):Int):=λh=>by have:=(QcJ hs (s+1) m hm).2 h;omega
   simp;omega)
theorem zO:∀(l:List Ed) (k:Nat),(l.flatMap QC).drop (k*3)=(l.drop k).flatMap QC
 | [],k=>by simp
 | e::l,0=>by simp
 | e::l,k+1=>by
  simp only[List.flatMap_cons,List.drop_succ_cons,Nat.add_mul,Nat.one_mul]
  rw[Nat.add_comm,←List.drop_drop,show (QC e++l.flatMap QC).drop 3=l.flatMap QC from rfl,zO l k]
theorem zN:∀(l:List Ed) (k:Nat),(l.flatMap QC).take (k*3)=(l.take k).flatMap QC
 | [],k=>by simp
 | e::l,0=>by simp
 | e::l,k+1=>by
  simp only[List.flatMap_cons,List.take_succ_cons,Nat.add_mul,Nat.one_mul]
  rw[Nat.add_comm,List.take_append,show (QC e).length=3 from rfl,show 3+k*3 - 3=k*3 by omega,zN l k,List.take_of_length_le (by rw[show (QC e).length=3 from rfl];omega)]
theorem Qf3 {w:World}{va vm ve vf:Value}{st s:Int} :
  QG prog 160 [.agg #[va,.int .i64 st,vm,ve,vf],.int .i64 s] w λr w'=>Step [] w w'∧∃b1 b2,r=.func (.func 196) #[] #[.pointer (some ⟨b1,0,none⟩),.pointer (some ⟨b2,0,none⟩)] ∧
   w.heap.size≤b1∧w.heap.size≤b2∧QS w'.heap b1 156 [va,.int .i64 st,vm,ve,vf]∧QS w'.heap b2 3 [.int .i64 s]:=by
 refine QG.of_W func160 rfl ntmps160 results160 (by simp) ?_
 refine Qc<|xl rfl<|QQ (us:=[va,.int .i64 st,vm,ve,vf]) rfl λb2 w1 hs1 hb2 hB2=>xl rfl<|QQ (us:=[.int .i64 s]) rfl λb3 w2 hs2 hb3 hB3=>Qf<|Qc<|x Zk<|Qf ?_
 have hz1:=hs1.size
 exact Qk ⟨[_],⟨rfl,trivial⟩,hs1.trans hs2,b2,b3,rfl,hb2,by omega,hB2.ext hs2,hB3⟩
theorem Qbu {L:LN}{w:World}{b1 b2 bF n s m:Nat}{va vm ve:Value}{a:QM}(hB1:QS w.heap b1 156 [va,.int .i64 a.st,vm,ve,.slice (some ⟨bF,0,none⟩) (n+1) (n+1)]) (hB2:QS w.heap b2 3 [.int .i64 s])
  (hBF:QS w.heap bF 3 ((gA (n+1) (fS a.ed)).map (Value.int .i64))) (hE:Uz L w.heap ve a.ed) (hso:a.ed.Pairwise λx y=>x.1≤y.1) (hs:s<n) (hn:n≤4096) :
  SeqStopsK (fen none) m prog 196 [.pointer (some ⟨b1,0,none⟩),.pointer (some ⟨b2,0,none⟩)].toArray (λx:{ e:Ed // e∈a.ed }=>#[.agg (QC x.1).toArray]) (Lw w.heap.size L)
   (λys=>ys.map (·.1)=ZF a.ed s) (λ_=>True) (a.ed.length+1) w:=by
 intro l J Jx W hbel hJ hJx hY h0
 have hwW:Step [] w W:=Step.of_below hbel
 have ab:∀{ys:List { e:Ed // e∈a.ed }} {W1 W2:World},J ys W1→Step [] W1 W2→J ys W2:=λ{ys W1 W2} hj hst=>hJ ys W1 W2 none hj ⟨hst.os,hst.tape,hst.output,hst.size,λk hk _=>hst.block k hk (by simp)⟩ (λr e=>by cases e)
 have hcl:=KN (λe:Ed=>decide (e.1<(s:Int))) a.ed
 have hcl':=KN (λe:Ed=>decide (e.1<((s+1:Nat):Int))) a.ed
 obtain ⟨lo,hlo⟩:∃lo:Nat,fS a.ed s=(lo:Int):=⟨(fS a.ed s).toNat,by unfold fS;omega⟩
 obtain ⟨hi,hhi⟩:∃hi:Nat,fS a.ed (s+1)=(hi:Int):=⟨(fS a.ed (s+1)).toNat,by unfold fS;omega⟩
 obtain ⟨hseg,hhl,hlh⟩:=Qhn hso s lo hi hlo hhi
 have hel:=hE.le
 have hol:(ZF a.ed s).length=hi - lo:=by rw[←hseg,List.length_take,List.length_drop];omega
 have hmem:∀e∈ZF a.ed s,e∈a.ed:=λe he=>(Yi he).1
 have key:QG prog 196 [.func (.yield l) #[] #[],.pointer (some ⟨b1,0,none⟩),.pointer (some ⟨b2,0,none⟩)] W (λ_ W'=>(∃ys,ys.map (·.1)=ZF a.ed s∧J ys W')∨(∃pre,True∧Jx pre W')):=by
  refine QG.of_G m func196 rfl ntmps196 results196 (by simp) ?_
  have hB1':=hB1.ext hwW
  have hB2':=hB2.ext hwW
  have hBF':=hBF.ext hwW
  refine QZ<|jh (Step [] W) [(0,true),(1,true),(2,true),(3,true),(4,true),(5,true),(6,true),(7,true),(8,true),(9,true),(10,true),(11,true),(12,true),(13,true),(14,true),(15,true),(16,true)] mixed (by rfl) (by rfl) (by kernel_rfl) (Step.drew _ _) ?_
  refine p (λ_=>Qa rfl)<|p (λ_=>Qa rfl)<|pq (λ_ hc=>Qd (hB1'.ext hc) rfl rfl)<|p (λ_=>Qa rfl)<|pq (λ_ hc=>Qd (hB1'.ext hc) rfl rfl)<|pq (λ_ hc=>Qd (hB2'.ext hc) rfl rfl) <|
   p (λ_=>QR (i:=s) rfl rfl (by omega))<|pq (λ_ hc=>K8 (i:=s) (hBF'.ext hc) rfl (by omega))<|p (λ_=>Qa rfl)<|pq (λ_ hc=>Qd (hB1'.ext hc) rfl rfl) <|
   pq (λ_ hc=>Qd (hB2'.ext hc) rfl rfl)<|p (λ_=>Qy rfl rfl ⟨by omega,by omega⟩)<|p (λ_=>QR (i:=s+1) rfl rfl (by omega))<|pq (λ_ hc=>K8 (i:=s+1) (hBF'.ext hc) rfl (by omega)) <|
   QlQ (lo:=lo) (hi:=hi) rfl hE rfl (congrArg (Value.int .i64) hlo) (congrArg (Value.int .i64) hhi) hlh hhl λv20 hA20=>p (λ_=>Qs hA20 rfl)<|p (λ_=>Qo)<|pe ?_
  have hS:Uz L w.heap v20 (ZF a.ed s):=by
   unfold Uz
   rw[hol,←hseg,←zN,←zO];exact hA20
  have hd0:Step [] W { W with drawn:=W.drawn+1 }:=Step.drew _ _
  refine ZJ<|KU (α:=Nat×List { e:Ed // e∈a.ed }) [(5,5),(22,30)] (λz=>[(22,.int .i64 z.1)]) (λz ds W'=>ds=[]∧z.1≤(ZF a.ed s).length∧Step L w W'∧z.2.map (·.1)=(ZF a.ed s).take z.1∧J z.2 W') (λz=>(ZF a.ed s).length - z.1) (by rfl) (0,[]) ⟨rfl,trivial⟩
   ⟨rfl,Nat.zero_le _,(hwW.trans hd0).any,rfl,ab h0 hd0⟩ ?_
  rintro ⟨k,ys⟩ g ds w1 ⟨rfl,hk,hs1,hys,hJ1⟩
  simp only[] at hk hys hJ1
  refine QZ<|QI (by rfl) (by rfl) ?_
  refine x (QB rfl rfl)<|xe ?_
  refine QZ<|qM rfl (λh23=>?_) (λh23=>?_)
  ·refine Jv ?_
   have hke:(ZF a.ed s).length≤k:=by
    have h24:¬(k:Int)<((hi - lo:Nat):Int):=h23
    omega
   rw[List.take_of_length_le hke] at hys
   exact ⟨λ_ h=>(by cases h),List.nodup_nil,[],λW' hW'=>⟨trivial,.inl ⟨ys,hys,ab hJ1 hW'⟩⟩⟩
  refine Z3 ?_
  have hlt:k<(ZF a.ed s).length:=by
   have h24:(k:Int)<((hi - lo:Nat):Int):=h23
   omega
  have hel2:=X8 a.ed s
  have htk:(ZF a.ed s).take (k+1)=(ZF a.ed s).take k++[(ZF a.ed s)[k]'hlt]:=List.take_succ_eq_append_getElem hlt
  have hme:=hmem _ (List.getElem_mem hlt)
  have hyl:ys.length=k:=by have:=congrArg List.length hys;rw[List.length_map,List.length_take] at this;omega
  refine Zc ((ZF a.ed s)[k]'hlt) λe he=>?_
  rw[he] at htk hme
  refine QZ<|ZJ<|QZ<|QI (by rfl) (by rfl) ?_
  refine xie (i:=k) (hS.st hs1) rfl rfl hlt λa24 h24=>?_
  rw[he] at h24
  refine x (QJ h24 rfl rfl)<|xl rfl<|Qr (us:=[.int .i64 0,.int .i64 0,.int .i64 0]) rfl λb5 w2 hs2 hb5 hB5=>xl rfl<|Ql (us:=QC e) hB5 rfl rfl rfl rfl ⟨rfl,rfl,rfl,trivial⟩ λw3 hs3 hB5'=>xe ?_
  have hs13:Step [] w1 w3:=hs2.then1 hs3 hb5
  refine QZ<|Kl (by rfl) ?_
  refine XI.pre2 ?_
  refine Qb<|x (Qn hB5' rfl rfl)<|xe ?_
  refine xy (l:=l) rfl (hY ys ⟨e,hme⟩ w3 (ab hJ1 hs13) (by omega)) λen W3 hen=>Or.elim hen (λh1=>⟨.bool true,h1.1,?_⟩) (λh1=>⟨.bool false,h1.1,?_⟩)
  ·refine XI.of_XL<|x (Zp rfl)<|xe ?_
   refine Km rfl<|Z3 ?_
   refine QI (by rfl) (by rfl) ?_
   refine x (Qy rfl rfl ⟨by omega,by omega⟩)<|Qb<|xe ?_
   exact ⟨(k+1,ys++[⟨e,hme⟩]),by simp only[];omega,⟨rfl,trivial⟩,rfl,hlt,(hs1.trans hs13).lw h1.2.2,by rw[htk,List.map_append,hys];rfl,h1.2.1⟩
  ·refine XI.of_XL<|x (Zp rfl)<|xe ?_
   refine jg rfl ?_
   refine J4 ⟨λ_ h=>(by cases h),List.nodup_nil,[],λW' hW'=>⟨trivial,.inr ⟨ys++[⟨e,hme⟩],trivial,?_⟩⟩⟩
   exact hJx _ W3 W' none h1.2 ⟨hW'.os,hW'.tape,hW'.output,hW'.size,λk hk _=>hW'.block k hk (by simp)⟩ (λr e=>by cases e)
 refine (callsIn_wide (n:=m)).2 ?_
 have ea:(#[.func (.yield l) #[] #[]]++[.pointer (some ⟨b1,0,none⟩),.pointer (some ⟨b2,0,none⟩)].toArray:Array Value)=[.func (.yield l) #[] #[],.pointer (some ⟨b1,0,none⟩),.pointer (some ⟨b2,0,none⟩)].toArray:=by simp
 rw[ea]
 unfold QG at key
 refine Calls.mono key λe w' he=>?_
 cases e with
 | returned v=>exact ⟨⟨v,rfl⟩,he⟩
 | panicked c=>exact he.elim
 | outgrown=>exact he.elim
def Par (n:Nat) (ed:List Ed):Prop:=∀j:Nat,0<j→j<n→∃e∈ed,e.2.2=(j:Int)∧e.1<(j:Int)
theorem Qg6 {aa:List QM}{i:Nat}{t:LI}{s s':Sy}{v:Int}(h:Par s.tup.length s.ed) (hi:i<s.tup.length) (e:syE aa i t s v=some s'):Par s'.tup.length s'.ed∧i<s'.tup.length:=by
 unfold syE at e
 cases hs:Zu v aa t with
 | none=>rw[hs] at e;cases e;exact ⟨h,hi⟩
 | some u =>
  rw[hs] at e
  simp only[] at e
  by_cases hu:u∈s.tup
  ·rw[if_pos hu] at e
   cases e
   refine ⟨λj h0 hj=>?_,hi⟩
   obtain ⟨d,hd,h1⟩:=h j h0 hj
   exact ⟨d,List.mem_append_left _ hd,h1⟩
  ·rw[if_neg hu] at e
   split at e
   ·cases e
   ·cases e
    refine ⟨λj h0 hj=>?_,by simp;omega⟩
    simp only[List.length_append,List.length_singleton] at hj
    by_cases hjl:j=s.tup.length
    ·exact ⟨((i:Int),v,(s.tup.length:Int)),by simp,by rw[hjl],by simp only[];omega⟩
    ·obtain ⟨d,hd,h1⟩:=h j h0 (by omega)
     exact ⟨d,List.mem_append_left _ hd,h1⟩
theorem jt {aa:List QM}{i:Nat}{t:LI}:∀(vs:LI) (s s':Sy),Par s.tup.length s.ed→i<s.tup.length→KH aa i t vs s=some s'→Par s'.tup.length s'.ed
 | [],s,s',h,_,e=>by cases e;exact h
 | v::vs,s,s',h,hi,e=>by
  rw[KH] at e
  obtain ⟨s1,h1,h2⟩:=Option.bind_eq_some_iff.1 e
  have:=Qg6 h hi h1
  exact jt vs s1 s' this.1 this.2 h2
theorem Qb0 {aa:List QM}:∀(f i:Nat) (s s':Sy),Par s.tup.length s.ed→jr aa f i s=some s'→Par s'.tup.length s'.ed
 | 0,i,s,s',h,e=>by cases e;exact h
 | f+1,i,s,s',h,e=>by
  rw[jr] at e
  split at e
  ·rename_i hi
   obtain ⟨s1,h1,h2⟩:=Option.bind_eq_some_iff.1 e
   have ht:(ZA aa i (V3 s i) s).tup=s.tup:=by unfold ZA;split <;> rfl
   have hed:(ZA aa i (V3 s i) s).ed=s.ed:=by unfold ZA;split <;> rfl
   refine Qb0 f (i+1) s1 s' (jt _ _ s1 (by rw[ht,hed];exact h) (by rw[ht];exact hi) h1) h2
  ·cases e;exact h
theorem Qeb {aa:List QM}{A:QM}{Q:List (LI)}(h:sync aa=some (A,Q)):Par Q.length A.ed:=by
 unfold sync at h
 split at h
 ·cases h;intro j _ hj;simp at hj
 ·obtain ⟨s,h1,h2⟩:=Option.map_eq_some_iff.1 h
  cases h2
  exact Qb0 4096 0 (Ue aa) s (λj h0 hj=>by simp[Ue] at hj;omega) h1
def stS (st:List Ed):LI:=st.map (·.1)
def gE (st:List Ed) (k:Nat):Ed:=st.getD k (0,-1,0)
theorem QfC {st:List Ed}{k:Nat}(h:k<st.length):st[k]'h=gE st k:=by simp[gE,List.getD,h]
theorem QjO {st:List Ed}{k:Nat}(h:k<st.length):gE st k∈st:=by rw[←QfC h];exact List.getElem_mem h
def JI (pm:Ed→Bool) (i:Nat) (st:List Ed) (e:Ed):List Ed:=if e.2.2∉stS st∧pm e=true then st++[(e.2.2,(i:Int),e.2.1)] else st
def wrd (st:List Ed):Nat→Nat→LI
 | 0,_=>[]
 | f+1,k=>if 0≤(gE st k).2.1 then (gE st k).2.2::wrd st f (gE st k).2.1.toNat else []
def Qdl (wt:Int→Bool) (pm:Ed→Bool) (es:List Ed):Nat→Nat→List Ed→LI×Bool
 | 0,_,_=>([],false)
 | f+1,i,st=>if i<st.length then (if wt (gE st i).1=true then ((wrd st (i+1) i).reverse,true) else Qdl wt pm es f (i+1) ((ZF es (gE st i).1).foldl (JI pm i) st)) else ([],false)
def pth (wt:Int→Bool) (pm:Ed→Bool) (es:List Ed) (n from0:Nat):LI×Bool:=Qdl wt pm es (n+1) 0 [((from0:Int),-1,-1)]
structure QbP (n:Nat) (st:List Ed):Prop where
 nd:(stS st).Nodup
 rg:∀x∈st,0≤x.1∧x.1<(n:Int)
 par:∀k,k<st.length→(gE st k).2.1=-1∨(0≤(gE st k).2.1∧(gE st k).2.1<(k:Int))
theorem QbP.le {n:Nat}{st:List Ed}(h:QbP n st):st.length≤n:=by
 have:=pig n (stS st) h.nd (λx hx=>by
  unfold stS at hx
  obtain ⟨y,hy,rfl⟩:=List.mem_map.1 hx
  exact h.rg y hy)
 simpa[stS] using this
theorem Qh4 {st:List Ed}{x:Ed}{k:Nat}(h:k<st.length):gE (st++[x]) k=gE st k:=by
 unfold gE;simp[List.getD,List.getElem?_append_left h]
theorem Qh5 (st:List Ed) (x:Ed):gE (st++[x]) st.length=x:=by
 unfold gE;simp[List.getD]
theorem QiI {n i:Nat}{pm:Ed→Bool}{st:List Ed}{e:Ed}(h:QbP n st) (hi:i<st.length) (he:0≤e.2.2∧e.2.2<(n:Int)):QbP n (JI pm i st e)∧i<(JI pm i st e).length:=by
 unfold JI
 split
 ·rename_i hc
  refine ⟨⟨?_,λx hx=>?_,λk hk=>?_⟩,by simp;omega⟩
  ·unfold stS at hc ⊢
   rw[List.map_append]
   exact Jn h.nd hc.1
  ·simp only[List.mem_append,List.mem_singleton] at hx
   rcases hx with hx | rfl
   ·exact h.rg x hx
   ·exact he
  ·by_cases hkl:k<st.length
   ·rw[Qh4 hkl];exact h.par k hkl
   ·have:k=st.length:=by simp at hk;omega
    subst this
    rw[Qh5]
    simp only[];omega
 ·exact ⟨h,hi⟩
theorem Qjw {n from0:Nat}(h:from0<n):QbP n [((from0:Int),-1,-1)]:=by
 refine ⟨by simp[stS],λx hx=>?_,λk hk=>?_⟩
 ·simp at hx;subst hx;simp only[];omega
 ·simp at hk;subst hk;exact .inl rfl
theorem Qdk {wt:Int→Bool}{pm:Ed→Bool}{es:List Ed}{f i:Nat}{st:List Ed}(h:¬i<st.length):Qdl wt pm es f i st=([],false):=by
 cases f with
 | zero=>rfl
 | succ f=>rw[Qdl,if_neg h]
abbrev Lf:=List Bool
def lft (l:Lf) (s:Int):Bool:=l.getD s.toNat false
def cut (l:Lf) (s:Int):Lf:=l.set s.toNat false
def JS (ul:LI) (lf:Lf) (out:List (Int×Int)) (e:Ed):List (Int×Int) :=
 if lft lf e.1=false∨lft lf e.2.2=true∨e.2.1∉ul then out else if out.getLast?.map (·.1)=some e.1 then out else out++[(e.1,e.2.1)]
def lost (a:QM) (ul:LI) (lf:Lf):List (Int×Int):=a.ed.foldl (JS ul lf) []
def Uk (lf:Lf) (x:Int) (z:LI×LI) (y:Int):LI×LI:=if lft lf y=true∧cget z.1 y.toNat<0 then (z.1.set y.toNat (cget z.1 x.toNat+1),z.2++[y]) else z
def dsL (es:List Ed) (lf:Lf):Nat→Nat→LI×LI→LI×LI
 | 0,_,z=>z
 | f+1,i,z=>if i<z.2.length then dsL es lf f (i+1) ((Zz es (cget z.2 i).toNat).foldl (Uk lf (cget z.2 i)) z) else z
def jj (lf:Lf) (z:LI×LI) (x:Int):LI×LI:=if lft lf x=true then (z.1.set x.toNat 0,z.2++[x]) else z
def ds0 (a:QM) (lf:Lf):LI×LI:=a.mr.foldl (jj lf) (List.replicate a.st.toNat (-1),[])
def dsts (a:QM) (lf:Lf):LI:=(dsL a.ed lf a.st.toNat 0 (ds0 a lf)).1
def Ju (lf:Lf):Nat→LI→LI
 | _,[]=>[]
 | i,d::l=>if lf.getD i false=true∧d<0 then (i:Int)::Ju lf (i+1) l else Ju lf (i+1) l
def nxs (a:QM) (ul:LI) (lf:Lf):LI:=if (lost a ul lf).length≠0 then (lost a ul lf).map (·.1) else Ju lf 0 (dsts a lf)
def Ui (a:QM) (ul:LI):Nat→Lf→Lf
 | 0,lf=>lf
 | f+1,lf=>if (nxs a ul lf).length=0 then lf else Ui a ul f ((nxs a ul lf).foldl cut lf)
def lf0 (n:Nat) (fb:LI):Lf:=fb.foldl cut (List.replicate n true)
def QeG (a:QM) (fb ul:LI):Lf:=Ui a ul (a.st.toNat+1) (lf0 a.st.toNat fb)
def rstr (a:QM) (lf:Lf):QM:=⟨a.al,a.st,a.mr,a.ed.filter λe=>lft lf e.2.2⟩
def JH (a:QM) (lf:Lf):QM:=if a.st=0∨lft lf 0=false then ⟨a.al,0,[],[]⟩ else YL (rstr a lf)
def KG (a:QM) (fb ul:LI):Int:=if Y2 a≠0 then Y2 a else if YK a.st none fb≠0 then YK a.st none fb else YK 32 none ul
def JG (a:QM) (fb ul:LI):QM:=JH a (QeG a fb ul)
def fbs (s:Spc):LI:=s.fb.map (·.st)
def suE (c:ZB):Int:=Y4 c
def Un (c:ZB):QM:=JG (spc c).a (fbs (spc c)) (unc c.ev)
def orB (b:Nat) (k:Nat):Nat:=b ||| (1 <<< k)
def rqB (x:Jj):Nat→Nat→List Jj→Nat
 | _,b,[]=>b
 | k,b,y::l=>rqB x (k+1) (if (y.a.al.any λe=>decide (e∈x.a.al))=true then orB b k else b) l
def prB (ls:List (Int×Int)):Nat:=ls.foldl (λb l=>orB b l.1.toNat) 0
def srR (c:ZB):LN:=c.rq.map λx=>rqB x 0 0 c.co
def srX (c:ZB):LN:=c.ex.map λx=>prB x.ls
def srC (c:ZB):LN:=c.cs.map λx=>prB x.ts
def srK (c:ZB) (k:Int):LN:=if k=1 then srR c else if k=2 then srX c else srC c
structure Mdl where
 kd:Int
 ix:Int
 co:LI
def UV (k:Int):Nat→LN→List Mdl
 | _,[]=>[]
 | i,b::l=>⟨k,i,setK b 8⟩::UV k (i+1) l
def mods (c:ZB):List Mdl:=UV 1 0 (srR c)++(UV 2 0 (srX c)++UV 3 0 (srC c))
def sets (c:ZB):LN:=srR c++(srX c++srC c)
def Qa7 (c:ZB):Nat:=(sets c).foldl (λl b=>l &&& (65535 ^^^ b)) (2 ^ c.co.length - 1)
def rem (c:ZB):LI:=setK (Qa7 c) 8
def mdE (c:ZB) (m:Mdl):Int:=if Zh c≠0 then Zh c else if m.kd<1∨3<m.kd then 11 else if m.ix<0∨((srK c m.kd).length:Int)≤m.ix then 10 else if m.co=setK ((srK c m.kd).getD m.ix.toNat 0) 8 then 0 else 13
structure Prt where
 co:LI
 rq:LI
 ex:LI
 cs:LI
def chs (l:List Jj) (ix:LI):List Jj:=ix.map λi=>l.getD i.toNat ⟨.empty,⟨[],0,[],[]⟩⟩
def ixP (co:LI) (ls:List (Int×Int)):List (Int×Int):=ls.map λl=>((co.idxOf l.1:Int),l.2)
def mis (co:LI) (ls:List (Int×Int)):Bool:=ls.any λl=>decide (l.1∉co)
def Qhk (c:ZB) (p:Prt):List Exc:=p.ex.map λi=>⟨(c.ex.getD i.toNat ⟨.empty,[]⟩).nm,ixP p.co (c.ex.getD i.toNat ⟨.empty,[]⟩).ls⟩
def Qhm (c:ZB) (p:Prt):List X5:=p.cs.map λi=>⟨(c.cs.getD i.toNat ⟨.empty,[],0⟩).nm,ixP p.co (c.cs.getD i.toNat ⟨.empty,[],0⟩).ts,(c.cs.getD i.toNat ⟨.empty,[],0⟩).bd⟩
def Qdc (c:ZB) (p:Prt):ZB:=⟨c.ev,chs c.co p.co,chs c.rq p.rq,Qhk c p,Qhm c p⟩
def QkO (c:ZB) (p:Prt):Bool:=(p.ex.any λi=>mis p.co (c.ex.getD i.toNat ⟨.empty,[]⟩).ls) || (p.cs.any λi=>mis p.co (c.cs.getD i.toNat ⟨.empty,[],0⟩).ts)
def yn (c:ZB) (p:Prt):Int :=
 if Zh c≠0 then Zh c else if YK c.co.length none p.co≠0 then YK c.co.length none p.co else if YK c.rq.length none p.rq≠0 then YK c.rq.length none p.rq else
 if YK c.ex.length none p.ex≠0 then YK c.ex.length none p.ex else if YK c.cs.length none p.cs≠0 then YK c.cs.length none p.cs else if QkO c p=true then 13 else Zh (Qdc c p)
def prt (m:Mdl):Prt:=⟨m.co,if m.kd=1 then [m.ix] else [],if m.kd=2 then [m.ix] else [],if m.kd≠1∧m.kd≠2 then [m.ix] else []⟩
def mcE (c:ZB) (m:Mdl):Int:=if mdE c m≠0 then mdE c m else yn c (prt m)
def mcC (c:ZB) (m:Mdl):ZB:=Qdc c (prt m)
def msE (c:ZB) (m:Mdl):Int:=if mcE c m≠0 then mcE c m else suE (mcC c m)
def msA (c:ZB) (m:Mdl):QM:=Un (mcC c m)
def msL (c:ZB):List Mdl→Int
 | []=>0
 | m::l=>if msE c m≠0 then msE c m else msL c l
def K5 (c:ZB):Int:=if Zh c≠0 then Zh c else msL c (mods c)
def Xr (c:ZB):List QM:=(mods c).map (msA c)++(rem c).map λi=>(c.co.getD i.toNat ⟨.empty,⟨[],0,[],[]⟩⟩).a
def XG (l:List QM):Int:=if JB l≠0 then JB l else match sync l with | none=>3 | some _=>0
def Y9 (c:ZB):Int:=if K5 c≠0 then K5 c else XG (Xr c)
def YI (c:ZB):QM:=syA (Xr c)
def tgQ (c:ZB):List (LI):=syQ (Xr c)
def ownr (c:ZB) (v:Int):LI:=ixs (λx:Jj=>decide (v∈x.a.al)) 0 c.co
def shd (c:ZB):LI→Option (Int×Int×Int)
 | []=>none
 | v::l=>if 2≤(ownr c v).length then some (v,cget (ownr c v) 0,cget (ownr c v) 1) else shd c l
def UH (c:ZB):Option (Int×Int×Int):=shd c (Kp c.ev.length)
theorem QjZ (lf:Lf) (x:Int) (z:LI×LI) (y:Int):Uk lf x z y=if lft lf y=true then KZ x z y else z:=by
 unfold Uk KZ
 by_cases h:lft lf y=true <;> by_cases h2:cget z.1 y.toNat<0 <;> simp[h,h2]
structure DsI (n:Nat) (z:LI×LI):Prop where
 ok:qQ n z.1 z.2
 cnt:neg z.1+z.2.length=n
 s0:QaN z.1 z.2
theorem DsI.le {n:Nat}{z:LI×LI}(h:DsI n z):z.2.length≤n:=by have:=h.cnt;omega
theorem Qf5 {n:Nat}{lf:Lf}{x y:Int}{z:LI×LI}(h:DsI n z) (hx:0≤x∧x<(n:Int)) (hx0:0≤cget z.1 x.toNat) (hy:0≤y∧y<(n:Int)) :
  DsI n (Uk lf x z y)∧0≤cget (Uk lf x z y).1 x.toNat:=by
 rw[QjZ]
 split
 ·obtain ⟨h1,h2,h3⟩:=QbG h.ok hx hx0 hy
  exact ⟨⟨h1,by have:=h.cnt;omega,qA h.ok hx0 hy h.s0⟩,h3⟩
 ·exact ⟨h,hx0⟩
theorem Qip (lf:Lf) (x:Int) (z:LI×LI) (y:Int):∃r,(Uk lf x z y).2=z.2++r:=by
 unfold Uk;split
 ·exact ⟨[y],rfl⟩
 ·exact ⟨[],by simp⟩
theorem Qio {n:Nat}{lf:Lf}{x:Int}(hx:0≤x∧x<(n:Int)):∀(l:LI) (z:LI×LI),DsI n z→0≤cget z.1 x.toNat→(∀y∈l,0≤y∧y<(n:Int)) →
  DsI n (l.foldl (Uk lf x) z)∧∃r,(l.foldl (Uk lf x) z).2=z.2++r
 | [],z,h,_,_=>⟨h,[],by simp⟩
 | y::l,z,h,h0,hl=>by
  obtain ⟨h1,h2⟩:=Qf5 (lf:=lf) h hx h0 (hl y List.mem_cons_self)
  obtain ⟨h3,r2,h4⟩:=Qio hx l _ h1 h2 (λy hy=>hl y (List.mem_cons_of_mem _ hy))
  obtain ⟨r1,h5⟩:=Qip lf x z y
  exact ⟨h3,r1++r2,by rw[List.foldl_cons,h4,h5,List.append_assoc]⟩
theorem Qf4 {es:List Ed}{lf:Lf}{f i:Nat}{z:LI×LI}(h:¬i<z.2.length):dsL es lf f i z=z:=by
 cases f with
 | zero=>rfl
 | succ f=>rw[dsL,if_neg h]
theorem QcW {n:Nat}{l:LI}{x:Int}(h0:0≤x):(Kk n l).set x.toNat 0=Kk n (l++[x]):=by
 apply List.ext_getElem
 ·simp[Kk]
 ·intro i h2 h3
  rw[List.getElem_set]
  by_cases e:x.toNat=i
  ·have:(i:Int)=x:=by omega
   rw[if_pos e];simp[Kk,this]
  ·have:(i:Int)≠x:=by omega
   rw[if_neg e];simp[Kk,this]
theorem Qan {a:QM}{lf:Lf}(hm:∀x∈a.mr,0≤x) (k:Nat):(a.mr.take k).foldl (jj lf) (List.replicate a.st.toNat (-1),[])=(Kk a.st.toNat ((a.mr.take k).filter (lft lf)),(a.mr.take k).filter (lft lf)):=by
 induction k with
 | zero =>
  simp only[List.take_zero,List.foldl_nil,List.filter_nil]
  congr 1
  apply List.ext_getElem
  ·simp[Kk]
  ·intro i h1 h2;simp[Kk]
 | succ k ih =>
  by_cases hk:k<a.mr.length
  ·rw[List.take_succ_eq_append_getElem hk,List.foldl_append,ih,List.filter_append]
   simp only[List.foldl_cons,List.foldl_nil,jj]
   by_cases hl:lft lf (a.mr[k]'hk)=true
   ·rw[if_pos hl,QcW (hm _ (List.getElem_mem hk))]
    simp[hl]
   ·rw[if_neg hl]
    simp[hl]
  ·have e:a.mr.take (k+1)=a.mr.take k:=by rw[List.take_of_length_le (by omega),List.take_of_length_le (by omega)]
   rw[e];exact ih
theorem Qbv {a:QM}{lf:Lf}(hm:∀x∈a.mr,0≤x):ds0 a lf=(Kk a.st.toNat (a.mr.filter (lft lf)),a.mr.filter (lft lf)):=by
 have:=Qan (lf:=lf) hm a.mr.length
 rw[List.take_length] at this
 exact this
theorem QhB {n:Nat}(l:LI) (hn:l.Nodup) (hb:∀x∈l,0≤x∧x<(n:Int)):neg (Kk n l)+l.length=n:=by
 have key:∀k,k≤l.length→neg (Kk n (l.take k))+k=n:=by
  intro k
  induction k with
  | zero =>
   intro _
   have e:Kk n (l.take 0)=List.replicate n (-1):=by
    apply List.ext_getElem
    ·simp[Kk]
    ·intro i h1 h2;simp[Kk]
   rw[e]
   unfold neg
   simp
  | succ k ih =>
   intro hk
   have h1:=ih (by omega)
   have hx:=hb _ (List.getElem_mem (show k<l.length by omega))
   rw[List.take_succ_eq_append_getElem (show k<l.length by omega),←QcW hx.1]
   have hxl:(l[k]'(by omega)).toNat<(Kk n (l.take k)).length:=by rw[YS];omega
   have hng:=Vb (Kk n (l.take k)) (l[k]'(by omega)).toNat 0 hxl (by
    have e:(((l[k]'(by omega)).toNat:Nat):Int)=l[k]'(by omega):=by omega
    have hnm:(l[k]'(by omega))∉l.take k:=λh=>by
     obtain ⟨j,hj,he⟩:=List.getElem_of_mem h
     rw[List.getElem_take] at he
     have hj':j<k:=by simp at hj;omega
     have:=(List.pairwise_iff_getElem.1 hn) j k (by omega) (by omega) hj'
     exact this he
    simp[Kk,e,hnm]) (Int.le_refl _)
   omega
 have:=key l.length (Nat.le_refl _)
 rwa [List.take_length] at this
theorem Qj0 {a:QM}{lf:Lf}{n:Nat}(ho:Q2 a) (hn:a.st=(n:Int)):DsI n (ds0 a lf):=by
 have hb:∀x∈a.mr.filter (lft lf),0≤x∧x<(n:Int):=λx hx=>by rw[←hn];exact ho.mr x (List.mem_filter.1 hx).1
 have e:a.st.toNat=n:=by omega
 rw[Qbv (λx hx=>(ho.mr x hx).1),e]
 refine ⟨QbH hb,QhB _ ((ho.mri.imp (λh=>by omega)).filter _) hb,λx hx=>?_⟩
 rw[Uw (hb x hx) hx];exact Int.le_refl _
def Ks (l:Lf):Nat:=l.countP (· == true)
theorem QcO (l:Lf):Ks l≤l.length:=List.countP_le_length
theorem QcL (l:Lf) (s:Int):(cut l s).length=l.length:=by simp[cut]
theorem qi:∀(xs:LI) (l:Lf),(xs.foldl cut l).length=l.length
 | [],_=>rfl
 | x::xs,l=>by rw[List.foldl_cons,qi xs,QcL]
theorem QcM:∀(l:Lf) (i:Nat),Ks (l.set i false)+(if l.getD i false=true then 1 else 0)=Ks l
 | [],i=>by simp[Ks]
 | b::l,0=>by cases b <;> simp[Ks]
 | b::l,i+1=>by
  have ih:=QcM l i
  unfold Ks at *
  simp only[List.set_cons_succ,List.countP_cons,List.getD_cons_succ]
  omega
theorem QcN (l:Lf) (s:Int):Ks (cut l s)+(if lft l s=true then 1 else 0)=Ks l:=QcM l s.toNat
theorem Qaq:∀(xs:LI) (l:Lf),Ks (xs.foldl cut l)≤Ks l
 | [],_=>Nat.le_refl _
 | x::xs,l=>by
  have h1:=Qaq xs (cut l x)
  have h2:=QcN l x
  rw[List.foldl_cons];omega
theorem Qga {xs:LI}{l:Lf}(h:0<xs.length) (h0:∀x∈xs,lft l x=true):Ks (xs.foldl cut l)<Ks l:=by
 cases xs with
 | nil=>simp at h
 | cons x xs =>
  have h1:=Qaq xs (cut l x)
  have h2:=QcN l x
  rw[if_pos (h0 x List.mem_cons_self)] at h2
  rw[List.foldl_cons];omega
def QgF (a:QM) (lf:Lf) (out:List (Int×Int)):Prop:=∀p∈out,lft lf p.1=true∧∃e∈a.ed,e.1=p.1∧e.2.1=p.2
theorem QhJ {a:QM}{ul:LI}{lf:Lf}{out:List (Int×Int)}{e:Ed}(h:QgF a lf out) (he:e∈a.ed):QgF a lf (JS ul lf out e)∧(JS ul lf out e).length≤out.length+1:=by
 unfold JS
 split
 ·exact ⟨h,by omega⟩
 ·rename_i hc
  split
  ·exact ⟨h,by omega⟩
  ·refine ⟨λp hp=>?_,by simp⟩
   simp only[List.mem_append,List.mem_singleton] at hp
   rcases hp with hp | rfl
   ·exact h p hp
   ·exact ⟨by cases hl:lft lf e.1 with | true=>rfl | false=>exact absurd (.inl hl) hc,e,he,rfl,rfl⟩
theorem UX {a:QM}{ul:LI}{lf:Lf}:∀(l:List Ed) (out:List (Int×Int)),(∀e∈l,e∈a.ed)→QgF a lf out→QgF a lf (l.foldl (JS ul lf) out)∧(l.foldl (JS ul lf) out).length≤out.length+l.length
 | [],out,_,h=>⟨h,by simp⟩
 | e::l,out,hl,h=>by
  obtain ⟨h1,h2⟩:=QhJ (ul:=ul) h (hl e List.mem_cons_self)
  obtain ⟨h3,h4⟩:=UX l _ (λe he=>hl e (List.mem_cons_of_mem _ he)) h1
  exact ⟨h3,by rw[List.foldl_cons,List.length_cons];omega⟩
theorem yI (a:QM) (ul:LI) (lf:Lf):QgF a lf (lost a ul lf)∧(lost a ul lf).length≤a.ed.length:=by
 have:=UX (ul:=ul) (lf:=lf) a.ed [] (λ_ h=>h) (λp hp=>by cases hp)
 unfold lost
 simpa using this
theorem Vz (lf:Lf):∀(l:LI) (i:Nat),(∀x∈Ju lf i l,lft lf x=true∧(i:Int)≤x∧x<(i:Int)+l.length)∧(Ju lf i l).length≤l.length
 | [],i=>⟨λx hx=>(by cases hx),Nat.le_refl _⟩
 | d::l,i=>by
  obtain ⟨h1,h2⟩:=Vz lf l (i+1)
  unfold Ju
  split
  ·rename_i hc
   refine ⟨λx hx=>?_,by simp;omega⟩
   rcases List.mem_cons.1 hx with rfl | hx
   ·exact ⟨by unfold lft;simpa using hc.1,Int.le_refl _,by simp;omega⟩
   ·have:=h1 x hx
    exact ⟨this.1,by omega,by simp only[List.length_cons];omega⟩
  ·refine ⟨λx hx=>?_,by simp;omega⟩
   have:=h1 x hx
   exact ⟨this.1,by omega,by simp only[List.length_cons];omega⟩
theorem Qe5 {a:QM}{ul:LI}{lf:Lf}(x:Int) (hx:x∈nxs a ul lf):lft lf x=true:=by
 unfold nxs at hx
 split at hx
 ·obtain ⟨p,hp,rfl⟩:=List.mem_map.1 hx
  exact ((yI a ul lf).1 p hp).1
 ·exact ((Vz lf (dsts a lf) 0).1 x hx).1
theorem Qdg {a:QM}{ul:LI}{f:Nat}{lf:Lf}(h:(nxs a ul lf).length=0):Ui a ul f lf=lf:=by
 cases f with
 | zero=>rfl
 | succ f=>rw[Ui,if_pos h]
theorem zt {a:QM}{ul:LI}{f:Nat}{lf:Lf}(h:(nxs a ul lf).length≠0):Ui a ul (f+1) lf=Ui a ul f ((nxs a ul lf).foldl cut lf):=by rw[Ui,if_neg h]
theorem jR {a:QM}{ul:LI}{lf:Lf}(h:(nxs a ul lf).length≠0):Ks ((nxs a ul lf).foldl cut lf)<Ks lf:=Qga (by omega) (λx hx=>Qe5 x hx)
theorem J8 {a:QM}(h:Q2 a) (lf:Lf):Q2 (rstr a lf) :=
 ⟨h.al,h.ali,h.st0,h.st1,h.mr,h.mri,λe he=>h.ed e (List.mem_filter.1 he).1,h.edi.filter _⟩
structure PI (w0:World) (b4 b7 b10 b11 bS n:Nat) (gc:LV) (pf:Value) (bi i:Nat) (vs:Value) (st:List Ed) (W:World):Prop where
 stp:Step [] w0 W
 B4:QS W.heap b4 156 gc
 B7:QS W.heap b7 225 [pf]
 B10:QS W.heap b10 263 [vs]
 B11:QS W.heap b11 222 [.slice (some ⟨bS,0,none⟩) n n]
 BS:QS W.heap bS 4 ((flg n (stS st)).map Value.bool)
 BI:QS W.heap bi 3 [.int .i64 i]
 R:ZV 262 w0.heap.size W vs st
 ne:∀b∈ob vs,b≠b4∧b≠b7∧b≠b10∧b≠b11∧b≠bS∧b≠bi
theorem PI.ext {w0:World}{b4 b7 b10 b11 bS n:Nat}{gc:LV}{pf:Value}{bi i:Nat}{vs:Value}{st:List Ed}{W W':World}(h:PI w0 b4 b7 b10 b11 bS n gc pf bi i vs st W) (hs:Step [] W W'):PI w0 b4 b7 b10 b11 bS n gc pf bi i vs st W' :=
 ⟨h.stp.trans hs,h.B4.ext hs,h.B7.ext hs,h.B10.ext hs,h.B11.ext hs,h.BS.ext hs,h.BI.ext hs,Qu h.R hs,h.ne⟩
theorem PI.stb {w0:World}{b4 b7 b10 b11 bS n:Nat}{gc:LV}{pf:Value}{bi i:Nat}{vs:Value}{st:List Ed}{B:Nat}(hB:w0.heap.size≤B):ZX B (λW=>PI w0 b4 b7 b10 b11 bS n gc pf bi i vs st W):=λW W' X h hs hX =>
 ⟨ZX.step hB W W' X h.stp hs hX,ZX.blk W W' X h.B4 hs hX,ZX.blk W W' X h.B7 hs hX,ZX.blk W W' X h.B10 hs hX,ZX.blk W W' X h.B11 hs hX,ZX.blk W W' X h.BS hs hX,ZX.blk W W' X h.BI hs hX,ZX.row W W' X h.R hs hX,h.ne⟩
def Kn (lo hi:Nat) (ds:LN) (W:World):Prop:=ds.Nodup∧∀D∈ds,lo≤D∧D<hi∧W.heap[D]?=some (.deferred (some []))
theorem Kn.step {lo hi:Nat}{ds:LN}{W W':World}{X:LN}(h:Kn lo hi ds W) (hs:Step X W W') (hX:∀b∈X,∃o:Obj,W.heap[b]?=some o∧o.isCells=true):Kn lo hi ds W':=by
 refine ⟨h.1,λD hD=>⟨(h.2 D hD).1,(h.2 D hD).2.1,?_⟩⟩
 have h3:=(h.2 D hD).2.2
 refine (hs.block D (Array.getElem?_eq_some_iff.1 h3).1 (λhx=>?_)).trans h3
 obtain ⟨o,h4,h5⟩:=hX D hx
 rw[h3] at h4;cases h4;cases h5
theorem Kn.ext {lo hi:Nat}{ds:LN}{W W':World}(h:Kn lo hi ds W) (hs:Step [] W W'):Kn lo hi ds W':=h.step hs (λ_ hb=>by cases hb)
theorem Kn.blk {lo hi:Nat}{ds:LN}{W W':World}{b T:Nat}{cs:LV}(h:Kn lo hi ds W) (hs:Step [b] W W') (hb:QS W.heap b T cs):Kn lo hi ds W' :=
 h.step hs (λc hc=>by
  have e:c=b:=by simpa using hc
  subst e;exact hb.cells)
theorem Kn.up {lo hi hi':Nat}{ds:LN}{W:World}(h:Kn lo hi ds W) (hh:hi≤hi'):Kn lo hi' ds W:=⟨h.1,λD hD=>⟨(h.2 D hD).1,by have:=(h.2 D hD).2.1;omega,(h.2 D hD).2.2⟩⟩
theorem Kn.cons {lo hi:Nat}{ds:LN}{W:World}{D:Nat}(h:Kn lo hi ds W) (hl:lo≤hi) (hD:hi≤D) (hd:W.heap[D]?=some (.deferred (some []))):Kn lo W.heap.size (D::ds) W:=by
 have hlt:=(Array.getElem?_eq_some_iff.1 hd).1
 refine ⟨List.nodup_cons.2 ⟨λhm=>by have:=(h.2 D hm).2.1;omega,h.1⟩,λE hE=>?_⟩
 rcases List.mem_cons.1 hE with rfl | hE
 ·exact ⟨by omega,hlt,hd⟩
 ·have:=h.2 E hE
  exact ⟨this.1,(Array.getElem?_eq_some_iff.1 this.2.2).1,this.2.2⟩
theorem Kn.stb {lo hi B:Nat}{ds:LN}(hh:hi≤B):ZX B (λW=>Kn lo hi ds W):=λW W' X h hs hX=>by
 refine ⟨h.1,λD hD=>⟨(h.2 D hD).1,(h.2 D hD).2.1,?_⟩⟩
 have h3:=(h.2 D hD).2.2
 refine (hs.block D (Array.getElem?_eq_some_iff.1 h3).1 (λhx=>?_)).trans h3
 have:=(hX D hx).1
 have:=(h.2 D hD).2.1
 omega
theorem Kn.own {lo hi:Nat}{ds:LN}{W:World}{base e sz n:Nat}{v:Value}{cs:LV}(h:Kn lo hi ds W) (ho:W.ownsRow base e sz v n cs):∀b∈ob v,b∉ds:=λb hb hd=>by
 obtain ⟨o,h1,h2⟩:=Zl ho b hb
 rw[(h.2 b hd).2.2] at h1;cases h1;cases h2
theorem Kn.rst {lo hi B:Nat}{L ds:LN}{W W':World}(h:Kn lo hi ds W) (hs:Xp B L W W'):Kn lo hi ds W':=⟨h.1,λD hD=>⟨(h.2 D hD).1,(h.2 D hD).2.1,hs.other D _ (h.2 D hD).2.2 rfl⟩⟩
theorem PI.add {w0:World}{b4 b7 b10 b11 bS n:Nat}{gc:LV}{pf:Value}{bi i:Nat}{v v':Value}{st:List Ed}{x:Ed}{W W1 W2 W3 W4:World}{B:Nat}{L0:LN}(h:PI w0 b4 b7 b10 b11 bS n gc pf bi i v st W)
  (hd:bS≠b4∧bS≠b7∧bS≠b10∧bS≠b11∧bS≠bi∧b10≠b4∧b10≠b7∧b10≠b11∧b10≠bi) (hB:B≤W.heap.size) (hbS:w0.heap.size≤bS) (hb10:w0.heap.size≤b10) (hlt:b4<W.heap.size∧b7<W.heap.size∧b11<W.heap.size∧bi<W.heap.size)
  (h1:Step [bS] W W1) (hS:QS W1.heap bS 4 ((flg n (stS (st++[x]))).map Value.bool)) (h2:Step [] W1 W2) (h3:Step (ob v) W2 W3) (hR:ZV 262 w0.heap.size W3 v' (st++[x])) (hn:∀b∈ob v',b∈ob v∨W2.heap.size≤b)
  (h4:Step [b10] W3 W4) (h10:QS W4.heap b10 263 [v']) (hv:∀b∈ob v,b∈L0∨B≤b) :
  PI w0 b4 b7 b10 b11 bS n gc pf bi i v' (st++[x]) W4∧Xp B (bS::b10::L0) W W4∧(∀b∈ob v',b∈L0∨B≤b):=by
 have hz1:=h1.size
 have hz2:=h2.size
 have hz3:=h3.size
 have hlS:=h.BS.lt
 have hl10:=h.B10.lt
 have key:∀b T cs,QS W.heap b T cs→b≠bS→b∉ob v→b≠b10→QS W4.heap b T cs:=λb T cs hb e1 e2 e3=>(((hb.step h1 (by simpa using e1)).ext h2).step h3 e2).step h4 (by simpa using e3)
 have hne:=h.ne
 have nin:∀b,(∀c∈ob v,c≠b)→b∉ob v:=λb hb hm=>hb b hm rfl
 have hb10v:b10∉ob v:=nin _ λc hc=>(hne c hc).2.2.1
 have hbSv:bS∉ob v:=nin _ λc hc=>(hne c hc).2.2.2.2.1
 have hRow:W2.ownsRow w0.heap.size 262 3 v st.length (st.flatMap QC):=Qu (Qm h.R h1 (λb hb=>by have:=(hne b hb).2.2.2.2.1;simpa using this)) h2
 have hge:∀b∈ob v',b≠b4∧b≠b7∧b≠b10∧b≠b11∧b≠bS∧b≠bi:=λb hb=>by
  rcases hn b hb with hb | hb
  ·exact hne b hb
  ·omega
 refine ⟨⟨?_,key _ _ _ h.B4 hd.1.symm (nin _ λc hc=>(hne c hc).1) hd.2.2.2.2.2.1.symm,key _ _ _ h.B7 hd.2.1.symm (nin _ λc hc=>(hne c hc).2.1) hd.2.2.2.2.2.2.1.symm,h10,
  key _ _ _ h.B11 hd.2.2.2.1.symm (nin _ λc hc=>(hne c hc).2.2.2.1) hd.2.2.2.2.2.2.2.1.symm,((hS.ext h2).step h3 hbSv).step h4 (by have:=hd.2.2.1;simpa using this),key _ _ _ h.BI hd.2.2.2.2.1.symm (nin _ λc hc=>(hne c hc).2.2.2.2.2) hd.2.2.2.2.2.2.2.2.symm,
  Qm hR h4 (λb hb=>by have:=(hge b hb).2.2.1;simpa using this),hge⟩,?_,λb hb=>?_⟩
 ·exact (((h.stp.then1 h1 hbS).trans h2).then h3 (λb hb=>.inr (Qq h.R b hb).1)).then1 h4 hb10
 ·have r1:Xp B (bS::b10::L0) W W1:=Xp.blk h1 hB h.BS (.inl (by simp))
  have r2:Xp B (bS::b10::L0) W1 W2:=Xp.ext h2 (by omega)
  have r3:Xp B (bS::b10::L0) W2 W3:=Xp.step h3 (by omega) (λb hb=>⟨(hv b hb).imp (λh=>by simp[h]) id,Zl hRow b hb⟩)
  have r4:Xp B (bS::b10::L0) W3 W4:=Xp.blk h4 (by omega) ((((h.B10.step h1 (by have:=hd.2.2.1;simpa using this.symm)).ext h2).step h3 hb10v)) (.inl (by simp))
  exact ((r1.trans r2).trans r3).trans r4
 ·rcases hn b hb with hb | hb
  ·exact hv b hb
  ·exact .inr (by omega)
theorem yT {n:Nat}{l:LI}{x:Int}(h0:0≤x) (h1:x<(n:Int)):((flg n l).map Value.bool)[0+x.toNat*1]?=some (.bool (decide (x∈l))):=by
 have hlt:x.toNat<(flg n l).length:=by rw[Ut];omega
 have e:((x.toNat:Nat):Int)=x:=by omega
 simp only[Nat.zero_add,Nat.mul_one,List.getElem?_map,List.getElem?_eq_getElem hlt,Option.map_some,yS,e]
theorem Qhu {w:World}{va vm ve:Value}{a:QM}{n bF from0 gw gp:Nat}{fw fp:Func}[Fu prog gw fw] [Fu prog gp fp] {cw cp:LV}{wt:Int→Bool}{pm:Ed→Bool}
  (hA:Zm [] w.heap va vm ve a) (hn:a.st=(n:Int)) (hst1:n≤4096) (hed:∀e∈a.ed,0≤e.2.2∧e.2.2<(n:Int)) (hso:a.ed.Pairwise λx y=>x.1≤y.1) (hBF:QS w.heap bF 3 ((gA (n+1) (fS a.ed)).map (Value.int .i64))) (hf:from0<n)
  (hwt:∀(s:Int) (w':World),0≤s→s<(n:Int)→Step [] w w'→QG prog gw (.int .i64 s::cw) w' λr w''=>r=.bool (wt s)∧Step [] w' w'')
  (hpm:∀(e:Ed) (w':World),e∈a.ed→Step [] w w'→QG prog gp (.agg (QC e).toArray::cp) w' λr w''=>r=.bool (pm e)∧Step [] w' w'') :
  QG prog 113 [.agg #[va,.int .i64 a.st,vm,ve,.slice (some ⟨bF,0,none⟩) (n+1) (n+1)],.int .i64 from0,.func (.func gw) #[] cw.toArray,.func (.func gp) #[] cp.toArray] w λr w' =>
   Step [] w w'∧∃v,r=.tuple #[v,.bool (pth wt pm a.ed n from0).2]∧Qt 3 w.heap.size w' v (pth wt pm a.ed n from0).1:=by
 refine QG.of_G 3 func113 rfl ntmps113 results113 (by simp) ?_
 refine QZ<|QI (by rfl) (by rfl) ?_
 refine xl rfl<|QQ (us:=[va,.int .i64 a.st,vm,ve,.slice (some ⟨bF,0,none⟩) (n+1) (n+1)]) rfl λb4 w1 hs1 hb4 hB4=>xl rfl<|QQ (us:=[.func (.func gp) #[] cp.toArray]) rfl λb7 w2 hs2 hb7 hB7=>x Qe<|Qf<|QZ<|QI (by rfl) (by rfl) ?_
 refine Qb<|x (QN ⟨rfl,rfl,rfl,trivial⟩)<|xl rfl<|QH (us:=[[.int .i64 from0,.int .i64 (-1),.int .i64 (-1)]]) rfl rfl (by decide) (by simp) ⟨rfl,rfl,trivial⟩ λbL w3 hs3 hbL hBL =>
  xl rfl<|Qr (us:=[nS]) rfl λb10 w4 hs4 hb10 hB10=>xl rfl<|QF (u:=.slice (some ⟨bL,0,none⟩) 1 1) hB10 rfl rfl (by decide) rfl λw5 hs5 hB10'=>xe ?_
 have hl4:=hB4.lt
 have hl7:=hB7.lt
 have hlL:=hBL.lt
 have hl10:=hB10.lt
 have hz1:=hs1.size
 have hz2:=hs2.size
 have hz3:=hs3.size
 have hz4:=hs4.size
 have hz5:=hs5.size
 have hs15:Step [] w1 w5:=((hs2.trans hs3).trans hs4).then1 hs5 (by omega)
 have hs25:Step [] w2 w5:=(hs3.trans hs4).then1 hs5 (by omega)
 have hs35:Step [] w3 w5:=hs4.then1 hs5 (by omega)
 refine QZ<|QI (by rfl) (by rfl) ?_
 refine x (Qa rfl)<|x (Qa rfl)<|x (Qd (hB4.ext hs15) rfl rfl)<|xl rfl<|Xa (n:=n) (congrArg (Value.int .i64) hn) (congrArg (Value.int .i64) hn) (by omega) λbS w6 hs6 hbS hBS=>xl rfl<|Qr (us:=[nS]) rfl λb11 w7 hs7 hb11 hB11 =>
  xl rfl<|QF (u:=.slice (some ⟨bS,0,none⟩) n n) hB11 rfl rfl (by decide) rfl λw8 hs8 hB11'=>xe ?_
 have hlS:=hBS.lt
 have hl11:=hB11.lt
 have hz6:=hs6.size
 have hz7:=hs7.size
 have hz8:=hs8.size
 have hs58:Step [] w5 w8:=(hs6.trans hs7).then1 hs8 (by omega)
 have hs68:Step [] w6 w8:=hs7.then1 hs8 (by omega)
 have hBS0:QS w6.heap bS 4 ((flg n []).map Value.bool):=by
  have e:(List.replicate n (Value.bool false).cells.toList).flatten=(flg n []).map Value.bool:=by
   simp only[flg,List.not_mem_nil,decide_false,List.map_map]
   apply List.ext_getElem
   ·simp[Value.cells]
   ·intro i h1 h2
    simp[Value.cells]
  rw[←e];exact hBS
 refine QZ<|QI (by rfl) (by rfl) ?_
 refine x (Qd hB11' rfl rfl)<|Qb<|x (QR (i:=from0) rfl rfl hf)<|xl rfl<|QF (j:=0+from0*1) (u:=.bool true) (hBS0.ext hs68) rfl rfl (by rw[List.length_map,Ut];omega) rfl λw9 hs9 hBS9=>xe ?_
 have hz9:=hs9.size
 have hBS9':QS w9.heap bS 4 ((flg n [(from0:Int)]).map Value.bool):=by
  have e1:=yR (n:=n) (l:=[]) (x:=(from0:Int)) (by omega)
  rw[List.nil_append] at e1
  rw[←e1,List.map_set]
  simpa using hBS9
 refine QZ<|QZ<|QI (by rfl) (by rfl) ?_
 refine xl rfl<|Qr (us:=[.int .i64 0]) rfl λb12 w10 hs10 hb12 hB12=>xl rfl<|QF (u:=.int .i64 0) hB12 rfl rfl (by decide) rfl λw11 hs11 hB12'=>xe ?_
 have hl12:=hB12.lt
 have hz10:=hs10.size
 have hz11:=hs11.size
 have hs911:Step [] w9 w11:=hs10.then1 hs11 hb12
 have hst0:Step [] w w11:=(((hs1.trans hs15).trans hs58).then1 hs9 (by omega)).trans hs911
 have hPI:PI w b4 b7 b10 b11 bS n [va,.int .i64 a.st,vm,ve,.slice (some ⟨bF,0,none⟩) (n+1) (n+1)] (.func (.func gp) #[] cp.toArray) b12 0 (.slice (some ⟨bL,0,none⟩) 1 1) [((from0:Int),-1,-1)] w11:=by
  refine ⟨hst0,(((hB4.ext hs15).ext hs58).step hs9 (by simp;omega)).ext hs911,(((hB7.ext hs25).ext hs58).step hs9 (by simp;omega)).ext hs911,((hB10'.ext hs58).step hs9 (by simp;omega)).ext hs911,
   (hB11'.step hs9 (by simp;omega)).ext hs911,hBS9'.ext hs911,hB12',?_,λb hb=>?_⟩
  ·have hBL11:=(((hBL.ext hs35).ext hs58).step hs9 (by simp;omega)).ext hs911
   exact hBL11.own (n:=1) (sz:=3) rfl (by omega) (by omega)
  ·have e:b=bL:=by simpa[ob] using hb
   subst e;omega
 have hel:=hA.ed.le
 refine ZJ<|KU (α:=Nat×Nat×Nat×Value×List Ed) [(8,9),(12,15),(26,68),(70,94)] (λz=>[(12,.pointer (some ⟨z.2.1,0,none⟩))])
  (λz ds W=>PI w b4 b7 b10 b11 bS n [va,.int .i64 a.st,vm,ve,.slice (some ⟨bF,0,none⟩) (n+1) (n+1)] (.func (.func gp) #[] cp.toArray) z.2.1 z.1 z.2.2.2.1 z.2.2.2.2 W∧QbP n z.2.2.2.2∧Kn w.heap.size W.heap.size ds W∧w11.heap.size≤W.heap.size ∧
   (z.2.1≠b4∧z.2.1≠b7∧z.2.1≠b10∧z.2.1≠b11∧z.2.1≠bS)∧w.heap.size≤z.2.1∧z.1≤z.2.2.2.2.length∧n+1≤z.2.2.1+z.1∧Qdl wt pm a.ed z.2.2.1 z.1 z.2.2.2.2=pth wt pm a.ed n from0)
  (λz=>n+1 - z.1) (by rfl) (0,b12,n+1,.slice (some ⟨bL,0,none⟩) 1 1,[((from0:Int),-1,-1)]) ⟨rfl,trivial⟩
  ⟨hPI,Qjw hf,⟨List.nodup_nil,λ_ h=>by cases h⟩,Nat.le_refl _,by simp only[];omega,by simp only[];omega,by simp,by simp,rfl⟩ ?_
 rintro ⟨i,bi,fu,vs,st⟩ g ds w12 ⟨hP,hok,hds,hz12,hbi,hbi0,hil,hfu,hres⟩
 simp only[] at hP hok hds hbi hbi0 hil hfu hres
 have hstl:=hok.le
 refine QZ<|QZ<|QI (by rfl) (by rfl) ?_
 refine x (Qd hP.BI rfl rfl)<|x (Qd hP.B10 rfl rfl)<|x (Qs (QV (L:=[]) hP.R (by omega) (by simp)) rfl)<|x (QB rfl rfl)<|xe ?_
 refine qM rfl (λh29=>?_) (λh29=>?_)
 ·refine Jv ?_
  have hie:¬i<st.length:=by have h30:¬(i:Int)<(st.length:Int):=h29;omega
  rw[Qdk hie] at hres
  refine QZ<|QI (by rfl) (by rfl) ?_
  refine x Qe<|Qf<|J4 ⟨λD hD=>(hds.2 D hD).2.2,hds.1,[nS,.bool false],λw' hw'=>⟨⟨rfl,rfl,trivial⟩,hP.stp.then hw' (λD hD=>.inr (hds.2 D hD).1),_,by rw[←hres];rfl,?_⟩⟩
  rw[←hres];exact QP _ _ _ _
 have hlt:i<st.length:=by have h30:(i:Int)<(st.length:Int):=h29;omega
 refine Exists.elim (Nat.exists_eq_succ_of_ne_zero (show fu≠0 by omega)) λfu' hfe=>?_
 subst hfe
 rw[Qdl,if_pos hlt] at hres
 have hrg:=hok.rg _ (QjO hlt)
 have hge:=QfC hlt
 refine Zc (gE st i) λs0 hs0=>?_
 rw[hs0] at hres hrg hge
 refine Z3 ?_
 refine QZ<|ZJ<|QZ<|QZ<|QI (by rfl) (by rfl) ?_
 refine Qb<|x (Qd hP.B10 rfl rfl)<|x (Qd hP.BI rfl rfl)<|xie (i:=i) (QV (L:=[]) hP.R (by omega) (by simp)) rfl rfl hlt λa35 h35=>?_
 rw[hge] at h35
 refine x (Zd rfl)<|x (Qw (h35.fld 0 (.int .i64 s0.1) rfl) rfl)<|xl rfl<|xc (first:=[]) (capt:=cw) rfl<|(hwt s0.1 _ hrg.1 hrg.2 hP.stp).mono ?_
 rintro r13 w13 ⟨rfl,hs13⟩
 have hz13:=hs13.size
 have hP13:=hP.ext hs13
 have hds13:=hds.ext hs13
 refine xe ?_
 refine J5 rfl (λh38=>?_) (λh38=>?_)
 ·rw[if_pos h38] at hres
  have hds0:Kn w.heap.size w12.heap.size ds w13:=hds13
  refine QZ<|QI (by rfl) (by rfl) ?_
  refine Qf<|QZ<|QZ<|QI (by rfl) (by rfl) ?_
  refine x (Qd hP13.BI rfl rfl)<|Qf<|ZJ<|KU (α:=Nat×Nat×Value×LI) [(13,14),(40,58)] (λz=>[(13,z.2.2.1),(14,.int .i64 z.2.1)])
   (λz ds' W=>ds'=ds∧Step [] w13 W∧Kn w.heap.size w12.heap.size ds W∧z.2.1<z.1∧z.2.1<st.length∧Qt 3 w13.heap.size W z.2.2.1 z.2.2.2∧z.2.2.2.length+z.1≤i+1∧z.2.2.2++wrd st z.1 z.2.1=wrd st (i+1) i)
   (λz=>z.1) (by rfl) (i+1,i,nS,[]) ⟨rfl,rfl,trivial⟩ ⟨rfl,Step.refl _ _,hds0,by simp,hlt,QP _ _ _ _,by simp,rfl⟩ ?_
  rintro ⟨f,k,v,acc⟩ g ds' w14 ⟨rfl,hs14,hds14,hkf,hkl,hO14,hal,hwr⟩
  simp only[] at hkf hkl hO14 hal hwr
  refine Exists.elim (Nat.exists_eq_succ_of_ne_zero (show f≠0 by omega)) λf' hfe=>?_
  subst hfe
  rw[wrd] at hwr
  have hgk:=QfC hkl
  have hpk:=hok.par k hkl
  refine Zc (gE st k) λs1 hs1'=>?_
  rw[hs1'] at hwr hgk hpk
  have hP14:=hP13.ext hs14
  have hz14:=hs14.size
  refine QZ<|QZ<|QI (by rfl) (by rfl) ?_
  refine x (Qd hP14.B10 rfl rfl)<|Qb<|xie (i:=k) (QV (L:=[]) hP14.R (by omega) (by simp)) rfl rfl hkl λa42 h42=>?_
  rw[hgk] at h42
  refine x (Zd rfl)<|x (Qw (h42.fld 1 (.int .i64 s1.2.1) rfl) rfl)<|x (ZM rfl rfl)<|xe ?_
  refine qM rfl (λh45=>?_) (λh45=>?_)
  ·refine Jv ?_
   rw[if_neg h45,List.append_nil] at hwr
   refine QZ<|QI (by rfl) (by rfl) ?_
   refine Qb<|xl rfl<|xf<|(qK hO14 (by omega)).mono ?_
   rintro r15 w15 ⟨hO15,hs15'⟩
   have hds15:=hds14.step hs15' (Zl hO14)
   refine xe ?_
   refine QZ<|QI (by rfl) (by rfl) ?_
   refine Qb<|x Qe<|Qf<|J4 ⟨λD hD=>(hds15.2 D hD).2.2,hds15.1,[v,.bool true],λw' hw'=>⟨⟨rfl,rfl,trivial⟩,?_,v,by rw[←hres];rfl,?_⟩⟩
   ·exact ((hP14.stp).then hs15' (λb hb=>.inr (by have:=(Qq hO14 b hb).1;omega))).then hw' (λD hD=>.inr (hds15.2 D hD).1)
   ·rw[←hres,←hwr]
    exact Zb (Qm hO15 hw' (hds15.own hO15)) (by omega)
  rw[if_pos h45] at hwr
  have h46:0≤s1.2.1:=h45
  refine Z3 ?_
  refine QZ<|ZJ<|QI (by rfl) (by rfl) ?_
  refine Qb<|x (Qd hP14.B10 rfl rfl)<|Qb<|xie (i:=k) (QV (L:=[]) hP14.R (by omega) (by simp)) rfl rfl hkl λa54 h54=>?_
  rw[hgk] at h54
  refine x (Zd rfl)<|x (Qw (h54.fld 2 (.int .i64 s1.2.2) rfl) rfl)<|xl rfl<|QH (us:=[[.int .i64 s1.2.2]]) rfl rfl (by decide) (by simp) ⟨rfl,rfl,trivial⟩ λb57 w16 hs16 hb57 hB57=>xl rfl<|Q5 (m:=1) (news:=[.int .i64 s1.2.2]) (Qu hO14 hs16) rfl rfl rfl (hB57.at (L:=[]) (by simp)) (by simp[Value.oneCell']) (by omega) (by have:=hs16.size;omega) λv17 w17 hO17 hs17 hn17 =>
   Qf ?_
  have hs1417:Step [] w13 w17:=(hs14.trans hs16).then hs17 (λb hb=>.inr (Qq hO14 b hb).1)
  have hP17:=hP13.ext hs1417
  have hds17:=(hds14.ext hs16).step hs17 (Zl (Qu hO14 hs16))
  refine QI (by rfl) (by rfl) ?_
  refine x (Qd hP17.B10 rfl rfl)<|Qb<|xie (i:=k) (QV (L:=[]) hP17.R (by omega) (by simp)) rfl rfl hkl λa48 h48=>?_
  rw[hgk] at h48
  refine x (Zd rfl)<|x (Qw (h48.fld 1 (.int .i64 s1.2.1) rfl) rfl)<|Qf ?_
  have hkn:s1.2.1=(s1.2.1.toNat:Int):=by omega
  refine ⟨(f',s1.2.1.toNat,v17,acc++[s1.2.2]),by simp only[];omega,⟨rfl,congrArg (Value.int .i64) hkn,trivial⟩,rfl,hs1417,hds17,by simp only[];omega,by simp only[];omega,Qt.snoc hO17,?_,?_⟩
  ·simp only[List.length_append,List.length_singleton];omega
  ·rw[List.append_assoc];exact hwr
 rw[if_neg (by rw[h38];decide)] at hres
 have hsn:s0.1=(s0.1.toNat:Int):=by omega
 refine Z3 ?_
 have hd0:Step [] w13 { w13 with drawn:=w13.drawn+1 }:=Step.drew _ _
 refine QZ<|jh (Step [] w13) [(0,true),(1,true),(2,true),(3,true),(4,true),(5,true),(6,false)] mixed (by rfl) (by rfl) (by kernel_rfl) (Step.drew _ _) ?_
 refine pq (λ_ hc=>Qn (hP13.B4.ext hc) rfl rfl)<|pq (λ_ hc=>Qd (hP13.B10.ext hc) rfl rfl)<|pq (λ_ hc=>Qd (hP13.BI.ext hc) rfl rfl) <|
  pie (i:=i) rfl (QV (L:=[]) hP13.R (by omega) (by simp)) rfl rfl hlt λa65 h65=>?_
 rw[hge] at h65
 refine p (λ_=>Zd rfl)<|pq (λ_ hc=>Qw ((h65.fld 0 (.int .i64 s0.1) rfl).ext hc) rfl)<|pk<|xf<|(Qf3 (va:=va) (vm:=vm) (ve:=ve) (vf:=.slice (some ⟨bF,0,none⟩) (n+1) (n+1)) (st:=a.st) (s:=s0.1)).mono ?_
 rintro r18 w14 ⟨hs14,b1,b2,rfl,hb1,hb2,hB1,hB2⟩
 have hs1314:=hd0.trans hs14
 refine ⟨hs1314,pe ?_⟩
 have hP14:=hP13.ext hs1314
 have hds14:Kn w.heap.size w12.heap.size ds w14:=hds13.ext hs1314
 have hz14:=hs1314.size
 have hE14:Uz (bS::b10::ob vs) w14.heap ve a.ed:=by
  refine (hA.ed.up (L':=bS::b10::ob vs) (λb hb=>.inr ?_)).step hP14.stp (λ_ hb=>by cases hb)
  rcases List.mem_cons.1 hb with rfl | hb
  ·omega
  ·rcases List.mem_cons.1 hb with rfl | hb
   ·omega
   ·exact (Qq hP14.R b hb).1
 rw[hsn] at hB2
 have hzw:w.heap.size≤w14.heap.size:=hP14.stp.size
 have hdist:bS≠b4∧bS≠b7∧bS≠b10∧bS≠b11∧bS≠bi∧b10≠b4∧b10≠b7∧b10≠b11∧b10≠bi:=by omega
 have hq4:=hP14.B4.lt
 have hq7:=hP14.B7.lt
 have hq10:=hP14.B10.lt
 have hq11:=hP14.B11.lt
 have hqS:=hP14.BS.lt
 have hqi:=hP14.BI.lt
 refine ZJ<|QiR (α:={ e:Ed // e∈a.ed }) (bS::b10::ob vs) (by omega) (capt:=[.pointer (some ⟨b1,0,none⟩),.pointer (some ⟨b2,0,none⟩)]) rfl (enc:=λx=>.agg (QC x.1).toArray) (by decide)
  (Qbu hB1 hB2 (hBF.ext hP14.stp) hE14 hso (by omega) hst1)
  (λpre W=>∃v,PI w b4 b7 b10 b11 bS n [va,.int .i64 a.st,vm,ve,.slice (some ⟨bF,0,none⟩) (n+1) (n+1)] (.func (.func gp) #[] cp.toArray) bi i v ((pre.map (·.1)).foldl (JI pm i) st) W∧QbP n ((pre.map (·.1)).foldl (JI pm i) st)∧i<((pre.map (·.1)).foldl (JI pm i) st).length ∧
   (∀b∈ob v,b∈ob vs∨w14.heap.size≤b)∧Kn w.heap.size w12.heap.size ds W∧w14.heap.size≤W.heap.size)
  (λpre=>ZX.ex λv=>(PI.stb hzw).and ((ZX.pure _).and ((ZX.pure _).and ((ZX.pure _).and ((Kn.stb (by omega)).and (λW W' X h hs _=>Nat.le_trans h hs.size))))))
  ⟨vs,hP14,hok,hlt,λb hb=>.inl hb,hds14,Nat.le_refl _⟩
  (λf x f' W=>∃b,f'=upd (upd f 69 (.agg (QC x.1).toArray)) 15 (.pointer (some ⟨b,0,none⟩))∧w14.heap.size≤b∧QS W.heap b 126 (QC x.1))
  (λx f'=>ZX.ex λb=>(ZX.pure _).and ((ZX.pure _).and ZX.blk)) ?_ ?_ ?_
 ·rintro l pre ⟨e,he⟩ W ⟨v,hPv,hokv,hiv,hobv,hdv,hzv⟩
  refine QI (by rfl) (by rfl) ?_
  refine xl rfl<|Qr (us:=[.int .i64 0,.int .i64 0,.int .i64 0]) rfl λb15 w15 hs15' hb15 hB15=>xl rfl<|Ql (us:=QC e) hB15 rfl rfl rfl rfl ⟨rfl,rfl,rfl,trivial⟩ λw16 hs16 hB15'=>xe ?_
  have hsW:Step [] W w16:=hs15'.then1 hs16 hb15
  have hzs:=hsW.size
  exact ⟨rfl,Xp.ext hsW hzv,⟨v,hPv.ext hsW,hokv,hiv,hobv,hdv.ext hsW,by omega⟩,b15,rfl,by omega,hB15'⟩
 ·rintro l pre ⟨e,he⟩ f' W ⟨v,hPv,hokv,hiv,hobv,hdv,hzv⟩ ⟨b15,rfl,hb15,hB15⟩ _
  have hfo:((pre++[(⟨e,he⟩:{ e:Ed // e∈a.ed })]).map (·.1)).foldl (JI pm i) st=JI pm i ((pre.map (·.1)).foldl (JI pm i) st) e:=by rw[List.map_append,List.foldl_append];rfl
  refine Zc ((pre.map (·.1)).foldl (JI pm i) st) λst' hst'=>?_
  rw[hst'] at hPv hokv hiv hfo
  have heb:=hed e he
  have hetn:e.2.2=(e.2.2.toNat:Int):=by omega
  have hadd:=QiI (pm:=pm) hokv hiv heb
  have hfla:=yT (l:=stS st') heb.1 heb.2
  have hsl:=hokv.le
  have hzs:=hPv.stp.size
  refine ZJ<|QZ<|QI (by rfl) (by rfl) ?_
  by_cases hin:e.2.2∈stS st'
  ·rw[decide_eq_true hin] at hfla
   have hst2:JI pm i st' e=st':=by unfold JI;rw[if_neg (λh=>h.1 hin)]
   refine x (Qd hPv.B11 rfl rfl)<|x (Qa rfl)<|x (Qd hB15 rfl rfl)<|x (QR (i:=e.2.2.toNat) rfl (congrArg (Value.int .i64) hetn) (by omega))<|x (Qd hPv.BS rfl hfla)<|x (Zp rfl)<|x Qo <|
    xs rfl<|xs rfl<|xs rfl<|x (Qp rfl)<|xe ?_
   refine Km rfl<|Z3 ?_
   refine ⟨Xp.refl _ _ _,v,?_⟩
   rw[hfo,hst2]
   exact ⟨hPv,hokv,hiv,hobv,hdv,hzv⟩
  rw[decide_eq_false hin] at hfla
  refine x (Qd hPv.B11 rfl rfl)<|x (Qa rfl)<|x (Qd hB15 rfl rfl)<|x (QR (i:=e.2.2.toNat) rfl (congrArg (Value.int .i64) hetn) (by omega))<|x (Qd hPv.BS rfl hfla)<|x (Zp rfl)<|x Qo <|
   x (Qd hPv.B7 rfl rfl)<|x (Qn hB15 rfl rfl)<|xl rfl<|xc (first:=[]) (capt:=cp) rfl<|(hpm e _ he hPv.stp).mono ?_
  rintro r19 w15 ⟨rfl,hs15'⟩
  refine x (Qp rfl)<|xe ?_
  have hPv15:=hPv.ext hs15'
  have hz15:=hs15'.size
  refine J5 rfl (λhp=>?_) (λhp=>?_)
  ·have hst2:JI pm i st' e=st'++[(e.2.2,(i:Int),e.2.1)]:=by unfold JI;rw[if_pos ⟨hin,hp⟩]
   rw[hst2] at hfo hadd
   have hB15b:=hB15.ext hs15'
   refine QZ<|QI (by rfl) (by rfl) ?_
   refine x (Qd hPv15.B11 rfl rfl)<|x (Qa rfl)<|x (Qd hB15b rfl rfl)<|x (QR (i:=e.2.2.toNat) rfl (congrArg (Value.int .i64) hetn) (by omega))<|xl rfl<|QF (j:=0+e.2.2.toNat*1) (u:=.bool true) hPv15.BS rfl rfl (by rw[List.length_map,Ut];omega) rfl λw16 hs16 hBS16=>xe ?_
   have hBS16':QS w16.heap bS 4 ((flg n (stS (st'++[(e.2.2,(i:Int),e.2.1)]))).map Value.bool):=by
    have e1:=yR (n:=n) (l:=stS st') heb.1
    have e2:stS (st'++[(e.2.2,(i:Int),e.2.1)])=stS st'++[e.2.2]:=by unfold stS;rw[List.map_append];rfl
    rw[e2,←e1,List.map_set]
    simpa using hBS16
   have hz16:=hs16.size
   have hB10':=hPv15.B10.step hs16 (by have:=hdist.2.2.1;simpa using this.symm)
   have hBI':=hPv15.BI.step hs16 (by have:=hdist.2.2.2.2.1;simpa using this.symm)
   have hR16:ZV 262 w.heap.size w16 v st':=Qm hPv15.R hs16 (λb hb=>by have:=(hPv15.ne b hb).2.2.2.2.1;simpa using this)
   have hB15c:=hB15b.step hs16 (by simp;omega)
   refine QI (by rfl) (by rfl) ?_
   refine x (Qd hB10' rfl rfl)<|x (Qa rfl)<|x (Qd hB15c rfl rfl)<|x (Qd hBI' rfl rfl)<|x (Qa rfl)<|x (Qd hB15c rfl rfl)<|x (QN ⟨rfl,rfl,rfl,trivial⟩) <|
    xl rfl<|QH (us:=[[.int .i64 e.2.2,.int .i64 i,.int .i64 e.2.1]]) rfl rfl (by decide) (by simp) ⟨rfl,rfl,trivial⟩ λb92 w17 hs17 hb92 hB92 =>
    xl rfl<|Q5 (m:=1) (news:=[.int .i64 e.2.2,.int .i64 i,.int .i64 e.2.1]) (Qu hR16 hs17) rfl rfl rfl (hB92.at (L:=[]) (by simp)) (by simp[Value.oneCell']) (by omega) (by have:=hs17.size;omega) λv18 w18 hO18 hs18 hn18=>?_
   have hB10v:b10∉ob v:=λhm=>(hPv15.ne b10 hm).2.2.1 rfl
   refine xl rfl<|QF (u:=v18) ((hB10'.ext hs17).step hs18 hB10v) rfl rfl (by simp) (QV (L:=[]) hO18 (by omega) (by simp)).one λw19 hs19 hB19=>xe ?_
   have hfin:=hPv15.add (B:=w14.heap.size) (L0:=ob vs) hdist (by omega) (by omega) (by omega) ⟨by omega,by omega,by omega,by omega⟩ hs16 hBS16' hs17 hs18 (ZV.snoc hO18) hn18 hs19 hB19 hobv
   have hrs:Xp w14.heap.size (bS::b10::ob vs) W w19:=(Xp.ext hs15' hzv).trans hfin.2.1
   have hzf:=hrs.lw.size
   refine ⟨hrs,v18,?_⟩
   rw[hfo]
   exact ⟨hfin.1,hadd.1,hadd.2,hfin.2.2,hdv.rst hrs,by omega⟩
  ·have hst2:JI pm i st' e=st':=by unfold JI;rw[if_neg (λh=>by rw[hp] at h;exact absurd h.2 (by decide))]
   refine Z3 ?_
   refine ⟨Xp.ext hs15' hzv,v,?_⟩
   rw[hfo,hst2]
   exact ⟨hPv15,hokv,hiv,hobv,hdv.ext hs15',by omega⟩
 ·rintro D xs W hD hxs ⟨v,hPv,hokv,hiv,hobv,hdv,hzv⟩ hdD
  rw[hxs,←hsn] at hPv hokv hiv
  refine Zc ((ZF a.ed s0.1).foldl (JI pm i) st) λst' hst'=>?_
  rw[hst'] at hPv hokv hiv hres
  have hsl:=hokv.le
  have hdn:=hdv.cons (by omega) (by omega) hdD
  have hzW:=hPv.stp.size
  refine QZ<|QZ<|QI (by rfl) (by rfl) ?_
  refine x (Qd hPv.BI rfl rfl)<|xe ?_
  refine QI (by rfl) (by rfl) ?_
  refine xl rfl<|Qr (us:=[.int .i64 0]) rfl λbj w20 hs20 hbj hBj=>xl rfl<|QF (u:=.int .i64 i) hBj rfl rfl (by simp) rfl λw21 hs21 hBj'=>xe ?_
  refine QI (by rfl) (by rfl) ?_
  refine x (Qd hBj' rfl rfl)<|x (Qy rfl rfl ⟨by omega,by omega⟩)<|xl rfl<|QF (u:=.int .i64 ((i:Int)+1)) hBj' rfl rfl (by simp) rfl λw22 hs22 hBj2=>xe ?_
  have hs2022:Step [] W w22:=(hs20.then1 hs21 hbj).then1 hs22 hbj
  have hz22:=hs2022.size
  have hPn:=hPv.ext hs2022
  have hdf:=(hdn.ext hs2022).up hz22
  have hjn:∀b∈ob v,b≠bj:=λb hb e=>by have:=Q0 hPv.R b hb;omega
  refine ⟨(i+1,bj,fu',v,st'),by simp only[];omega,⟨rfl,trivial⟩,⟨hPn.stp,hPn.B4,hPn.B7,hPn.B10,hPn.B11,hPn.BS,hBj2,hPn.R,λb hb=>⟨(hPn.ne b hb).1,(hPn.ne b hb).2.1,(hPn.ne b hb).2.2.1,(hPn.ne b hb).2.2.2.1,(hPn.ne b hb).2.2.2.2.1,hjn b hb⟩⟩,hokv,hdf,by omega,?_,by simp only[];omega,hiv,by simp only[];omega,hres⟩
  have t4:=hPv.B4.lt
  have t7:=hPv.B7.lt
  have t10:=hPv.B10.lt
  have t11:=hPv.B11.lt
  have tS:=hPv.BS.lt
  simp only[];omega
end Go.Proofs.YtgmifemhkjdblaaGreatDoor
namespace Go.Lg
open Go.RowKit
def sl (d:Option Nat) (f:Fr):Value:=match d with | some d=>f d | none=>undef
def ow:Value→LN
 | .slice (some a) _ _=>[a.block]
 | .pointer (some a)=>[a.block]
 | .map (some b)=>[b]
 | _=>[]
def Fa (p:Nat→Prop):LN→Prop
 | []=>True
 | i::l=>p i∧Fa p l
theorem Fa.all {p:Nat→Prop}:∀{l:LN},Fa p l→∀i∈l,p i
 | [],_,_,hi=>by cases hi
 | j::l,h,i,hi=>by
  rcases List.mem_cons.1 hi with rfl | hi
  ·exact h.1
  ·exact Fa.all h.2 i hi
theorem Fa.of {p:Nat→Prop}:∀{l:LN},(∀i∈l,p i)→Fa p l
 | [],_=>trivial
 | i::_,h=>⟨h i List.mem_cons_self,Fa.of λj hj=>h j (List.mem_cons_of_mem _ hj)⟩
def UR (all:Array Oper) (opn:LN) (rest:List (Nat×Bool)):Nat→Array Bool→Bool
 | 0,ls=>YB all rest ls && opn.all λi=>ls.getD i false
 | k+1,ls=>!(Region.ready .any all ls).isEmpty && (Region.ready .any all ls).all λi=>opn.contains i && UR all opn rest k (ls.setIfInBounds i true)
def V4 (all:List Oper) (D:List (Nat×Nat)):LN→Bool
 | []=>true
 | i::l=>(QK all i).guard.isNone && (match (QK all i).dst with | some d=>YT D d && l.all (λj=>!((QK all j).dst == some d)) | none=>false) && !l.contains i && V4 all D l
theorem ZW {all:List Oper}{D:List (Nat×Nat)}:∀{l:LN},V4 all D l=true→(∀i∈l,(QK all i).guard=none∧∃d,(QK all i).dst=some d∧YT D d=true)∧∀i∈l,∀j∈l,i≠j→(QK all i).dst≠(QK all j).dst
 | [],_=>⟨λ_ h=>(by cases h),λ_ h=>(by cases h)⟩
 | i::l,h=>by
  simp only[V4,Bool.and_eq_true,Option.isNone_iff_eq_none] at h
  obtain ⟨⟨⟨hg,hd⟩,hc⟩,hl⟩:=h
  have ih:=ZW hl
  cases hdd:(QK all i).dst with
  | none=>rw[hdd] at hd;cases hd
  | some d =>
   rw[hdd] at hd
   simp only[Bool.and_eq_true,List.all_eq_true,Bool.not_eq_true',beq_eq_false_iff_ne,ne_eq] at hd
   have hij:∀j∈l,(QK all j).dst≠some d:=λj hj=>hd.2 j hj
   refine ⟨λj hj=>?_,λj hj k hk hjk=>?_⟩
   ·rcases List.mem_cons.1 hj with rfl | hj
    ·exact ⟨hg,d,hdd,hd.1⟩
    ·exact ih.1 j hj
   ·rcases List.mem_cons.1 hj with hj1 | hj1
    ·rcases List.mem_cons.1 hk with hk1 | hk1
     ·exact absurd (hj1.trans hk1.symm) hjk
     ·rw[hj1,hdd];exact λe=>hij k hk1 e.symm
    ·rcases List.mem_cons.1 hk with hk1 | hk1
     ·rw[hk1,hdd];exact hij j hj1
     ·exact ih.2 j hj1 k hk1 hjk
def Qla (all:List Oper) (pre:List (Nat×Bool)) (opn:LN) (rest:List (Nat×Bool)) (D:List (Nat×Nat)):Bool :=
 Region.noSelect all.toArray && (pre.length+(opn.length+rest.length) == all.length) && Y1 all.toArray pre (Array.replicate all.length false) && V4 all D opn && UR all.toArray opn rest opn.length (Zr pre (Array.replicate all.length false))
  && opn.all λi=>!((Zr pre (Array.replicate all.length false)).getD i false)
section
variable {P:Program} {n:Nat} {f:Fr} {w:World} {all:List Oper} {C:World→Prop} {K:Fr→World→Prop}
theorem Xx {o:Oper}(h:o.guard=none):ZZ all f o=true:=by unfold ZZ;rw[h]
theorem Qc6 {α:Type}{D:List (Nat×Nat)}{opn:LN}{rest:List (Nat×Bool)}{Φ:Nat→Value→World→Prop}{S:α→List (Nat×Value)}{I:α→World→Prop}{f1:Fr}(hs:Region.noSelect all.toArray=true) (hop:V4 all D opn=true)
  (hCs:∀w w',C w→Step [] w w'→C w') (stab:∀i v w w',Φ i v w→Step [] w w'→Φ i v w')
  (hconv:∀(g:Fr) w,Fa (λi=>Φ i (sl (QK all i).dst g) w) opn→(∀i∈opn,∀j∈opn,i≠j→∀b∈ow (sl (QK all i).dst g),b∉ow (sl (QK all j).dst g))→∃z,Yy g (S z)∧I z w)
  (spec:Fa (λi=>∀g w,C w→XO P (QK all i) (mix D f1 g) w (λf' w'=>Step [] w w'∧Φ i (sl (QK all i).dst f') w'∧∀b∈ow (sl (QK all i).dst f'),w.heap.size≤b∧b<w'.heap.size)) opn)
  (fin:∀z g w,C w→I z w→XP P all C K rest (KE (S z) (mix D f1 g)) w) :
  ∀(k:Nat) (ls:Array Bool) (f:Fr) (w:World),ls.size=all.length→C w→UR all.toArray opn rest k ls=true→(∀t,YT D t=false→f t=f1 t)→(∀i∈opn,ls.getD i false=true→Φ i (sl (QK all i).dst f) w) →
   (∀i∈opn,ls.getD i false=true→(∀b∈ow (sl (QK all i).dst f),b<w.heap.size)∧∀j∈opn,ls.getD j false=true→i≠j→∀b∈ow (sl (QK all i).dst f),b∉ow (sl (QK all j).dst f))→XA P all C K (k+rest.length) ls f w
 | 0,ls,f,w,hsz,hC,hp,hf,hphi,hdj=>by
  simp only[UR,Bool.and_eq_true,List.all_eq_true] at hp
  obtain ⟨z,h1,h2⟩:=hconv f w (Fa.of λi hi=>hphi i hi (hp.2 i hi)) (λi hi j hj hij=>(hdj i hi (hp.2 i hi)).2 j hj (hp.2 j hj) hij)
  have h3:=fin z f w hC h2
  rw[YO hf,Yc h1] at h3
  rw[Nat.zero_add]
  exact Zt hs rest ls f w hsz (.inl hC) hp.1 h3
 | k+1,ls,f,w,hsz,hC,hp,hf,hphi,hdj=>by
  simp only[UR,Bool.and_eq_true,List.all_eq_true,List.contains_iff_mem] at hp
  obtain ⟨hne,hp⟩:=hp
  rw[Nat.add_right_comm]
  refine YA (λh0=>(by rw[h0] at hne;cases hne)) ?_
  intro i hi o ho
  obtain ⟨hio,hgo⟩:=hp i hi
  obtain ⟨hg,d,hd,hdD⟩:=(ZW hop).1 i hio
  have hdis:=(ZW hop).2
  have hsp:=Fa.all spec i hio f w hC
  rw[YO hf] at hsp
  have hoi:=Za ho
  rw[hoi] at hg hd hsp
  rw[Xx hg,cond_true]
  refine hsp.mono λv w' hx=>?_
  have hC':=hCs w w' hC hx.1
  have hz:=hx.1.size
  have old:∀j∈opn,j≠i→sl (QK all j).dst (QU f o.dst v)=sl (QK all j).dst f:=λj hj hij=>by
   obtain ⟨_,dj,hdj',_⟩:=(ZW hop).1 j hj
   have hne:o.dst≠some dj:=λe=>hdis j hj i hio hij (by rw[hdj',hoi];exact e.symm)
   rw[hdj']
   exact ZN hne v
  have lsj:∀j,j≠i→(ls.setIfInBounds i true).getD j false=true→ls.getD j false=true:=λj hij h=>by rw[getD_set_ne false (Ne.symm hij)] at h;exact h
  refine ⟨.inr (.inr hC'),Qc6 hs hop hCs stab hconv spec fin k _ _ _ (by simpa using hsz) hC' hgo (λt ht=>?_) (λj hj hlj=>?_) (λj hj hlj=>⟨λb hb=>?_,λk hk hlk hjk b hb hbk=>?_⟩)⟩
  ·rw[ZN (by rw[hd];intro e;cases e;rw[hdD] at ht;cases ht)];exact hf t ht
  ·by_cases hij:j=i
   ·subst hij
    have h2:=hx.2.1
    rw[hoi];exact h2
   ·rw[old j hj hij]
    exact stab _ _ _ _ (hphi j hj (lsj j hij hlj)) hx.1
  ·by_cases hij:j=i
   ·subst hij
    rw[hoi] at hb
    exact (hx.2.2 b hb).2
   ·rw[old j hj hij] at hb
    have:=(hdj j hj (lsj j hij hlj)).1 b hb
    omega
  ·by_cases hij:j=i
   ·subst hij
    have hki:k≠j:=Ne.symm hjk
    rw[old k hk hki] at hbk
    rw[hoi] at hb
    have h1:=(hdj k hk (lsj k hki hlk)).1 b hbk
    have h2:=(hx.2.2 b hb).1
    omega
   ·rw[old j hj hij] at hb
    have h1:=(hdj j hj (lsj j hij hlj)).1 b hb
    by_cases hki:k=i
    ·subst hki
     rw[hoi] at hbk
     have h2:=(hx.2.2 b hbk).1
     omega
    ·rw[old k hk hki] at hbk
     exact (hdj j hj (lsj j hij hlj)).2 k hk (lsj k hki hlk) hjk b hb hbk
theorem Qc7 {α:Type}{Q:Exit→Fr→World→Prop}{id:Nat}(C:World→Prop) (pre:List (Nat×Bool)) (opn:LN) (rest:List (Nat×Bool)) (D:List (Nat×Nat)) (Φ:Nat→Value→World→Prop) (S:α→List (Nat×Value)) (I:α→World→Prop)
  (hm:P.follows .mixedOrders=true) (hn:YW n all=true) (hp:Qla all pre opn rest D=true) (hC:C { w with drawn:=w.drawn+1 }) (hCs:∀w w',C w→Step [] w w'→C w') (stab:∀i v w w',Φ i v w→Step [] w w'→Φ i v w')
  (hconv:∀(g:Fr) w,Fa (λi=>Φ i (sl (QK all i).dst g) w) opn→(∀i∈opn,∀j∈opn,i≠j→∀b∈ow (sl (QK all i).dst g),b∉ow (sl (QK all j).dst g))→∃z,Yy g (S z)∧I z w)
  (h:XP P all C (λf1 _=>Fa (λi=>∀g w,C w→XO P (QK all i) (mix D f1 g) w (λf' w'=>Step [] w w'∧Φ i (sl (QK all i).dst f') w'∧∀b∈ow (sl (QK all i).dst f'),w.heap.size≤b∧b<w'.heap.size)) opn ∧
   ∀z g w,C w→I z w→XP P all C (λf w=>Q .normal f w) rest (KE (S z) (mix D f1 g)) w) pre f { w with drawn:=w.drawn+1 }):W P n (.region id all.toArray true) Q f w:=by
 simp only[Qla,Bool.and_eq_true,beq_iff_eq,List.all_eq_true,Bool.not_eq_true'] at hp
 obtain ⟨⟨⟨⟨⟨hs,hl⟩,hq⟩,hop⟩,hgo⟩,hun⟩:=hp
 refine YF C hm hn ?_
 rw[←hl]
 have hsz:(Array.replicate all.length false).size=all.length:=by simp
 have h1:=ZI (K:=λf w=>Q .normal f w) (m:=opn.length+rest.length) hs pre (Array.replicate all.length false) f _ hC hq (λf1 hB=>Qc6 (P:=P) (C:=C) hs hop hCs stab hconv hB.1 hB.2 opn.length (Zr pre (Array.replicate all.length false)) f1 _ (by rw[ZG];exact hsz) hC hgo (λ_ _=>rfl) (λi hi ht=>by rw[hun i hi] at ht;cases ht) (λi hi ht=>by rw[hun i hi] at ht;cases ht)) h
 rw[hl] at h1 ⊢
 exact h1
end
end Go.Lg
namespace Go.Proofs.YtgmifemhkjdblaaGreatDoor
open Tryz
open Go.Lg
theorem QeP {P:Program}{f:Fr}{w:World}{d:Option Nat}{ty:Nat}{ps:String}{af:Array Edge}{gd:Option (Nat×Bool)}{x y:Operand}{t m e:Nat}[h:Ay P t m e 1] [h1:Xe P e] {cs:LV}{k:IntKind}{i:Nat}{u:Value}(hx:ev f x=.agg cs.toArray) (hy:ev f y=.int k i) (hi:i<m) (hu:cs[i]?=some u) :
  (execOp (ev f) ⟨d,.index t x y,ty,ps,af,gd⟩).run P w=.ok (.value u) w:=by
 have hz:=UG (P:=P) (w:=w) (t:=e)
 have hg:=zK (P:=P) (w:=w) (t:=e)
 simp[execOp,hx,hy,Instr.index,asIntOf,run_underlying h.u,hz,part,hg,hu]
 intro h2;omega
theorem QgE {w:World}{b bs n:Nat}{l:LI}{s:Int}(hB:QS w.heap b 222 [.slice (some ⟨bs,0,none⟩) n n]) (hS:QS w.heap bs 4 ((flg n l).map Value.bool)) (h0:0≤s) (h1:s<(n:Int)) :
  QG prog 114 [.int .i64 s,.pointer (some ⟨b,0,none⟩)] w λr w'=>r=.bool (decide (s∈l))∧Step [] w w':=by
 refine QG.of_W func114 rfl ntmps114 results114 (by simp) ?_
 have hsn:s=(s.toNat:Int):=by omega
 refine Qc<|Qf<|Qc<|x (Qd hB rfl rfl)<|Qb<|x (QR (i:=s.toNat) rfl (congrArg (Value.int .i64) hsn) (by omega))<|x (Qd hS rfl (yT h0 h1))<|Qf ?_
 exact Qk ⟨[_],⟨rfl,trivial⟩,rfl,Step.refl _ _⟩
theorem QgD {w:World}{b bs n:Nat}{l:LI}{e:Ed}(hB:QS w.heap b 222 [.slice (some ⟨bs,0,none⟩) n n]) (hS:QS w.heap bs 4 ((flg n l).map Value.bool)) (h0:0≤e.2.2) (h1:e.2.2<(n:Int)) :
  QG prog 115 [.agg (QC e).toArray,.pointer (some ⟨b,0,none⟩)] w λr w'=>r=.bool (decide (e.2.2∈l))∧Step [] w w':=by
 refine QG.of_W func115 rfl ntmps115 results115 (by simp) ?_
 have hsn:e.2.2=(e.2.2.toNat:Int):=by omega
 refine Qc<|xl rfl<|QQ (us:=QC e) rfl λb2 w1 hs1 hb2 hB2=>Qf<|Qc<|x (Qd (hB.ext hs1) rfl rfl)<|x (Qa rfl)<|x (Qd hB2 rfl rfl)<|x (QR (i:=e.2.2.toNat) rfl (congrArg (Value.int .i64) hsn) (by omega))<|x (Qd (hS.ext hs1) rfl (yT h0 h1))<|Qf ?_
 exact Qk ⟨[_],⟨rfl,trivial⟩,rfl,hs1⟩
instance:Ay prog 221 2 40 1:=⟨by kernel_rfl,by kernel_rfl⟩
def ptR (a:QM) (n from0:Nat) (tg wi:LI):LI×Bool:=pth (λs=>decide (s∈tg)) (λe=>decide (e.2.2∈wi)) a.ed n from0
def phP (N n:Nat) (tg wi:LI) (i:Nat) (v:Value) (w:World):Prop :=
 if i=2 then ∃b,v=.slice (some ⟨b,0,none⟩) n n∧N≤b∧QS w.heap b 4 ((flg n wi).map Value.bool)
 else if i=5 then ∃b,v=.slice (some ⟨b,0,none⟩) n n∧N≤b∧QS w.heap b 4 ((flg n tg).map Value.bool)
 else ∃b,v=.pointer (some ⟨b,0,none⟩)∧N≤b∧QS w.heap b 222 [nS]
theorem Qht {N n:Nat}{tg wi:LI}(i:Nat) (v:Value) (w w':World) (h:phP N n tg wi i v w) (hs:Step [] w w'):phP N n tg wi i v w':=by
 unfold phP at *
 split
 ·rename_i e;rw[if_pos e] at h;obtain ⟨b,h1,h2,h3⟩:=h;exact ⟨b,h1,h2,h3.ext hs⟩
 ·rename_i e
  rw[if_neg e] at h
  split
  ·rename_i e2;rw[if_pos e2] at h;obtain ⟨b,h1,h2,h3⟩:=h;exact ⟨b,h1,h2,h3.ext hs⟩
  ·rename_i e2;rw[if_neg e2] at h;obtain ⟨b,h1,h2,h3⟩:=h;exact ⟨b,h1,h2,h3.ext hs⟩
structure PhZ where
 bi:Nat
 bt:Nat
 b15:Nat
 b16:Nat
theorem QiO {w:World}{va vm ve vt vi:Value}{a:QM}{n from0:Nat}{tg wi:LI}(h:Zm [] w.heap va vm ve a) (hck:Y2 a=0) (hn:a.st=(n:Int)) (hf:from0<n) (ht:QL [] w.heap vt tg) (hi:QL [] w.heap vi wi)
  (htk:YK a.st none tg=0) (hik:YK a.st none wi=0) (hin:(from0:Int)∈wi) :
  QG prog 66 [.agg #[va,.int .i64 a.st,vm,ve],.int .i64 from0,vt,vi] w λr w'=>Step [] w w'∧∃v,r=.tuple #[v,.bool (ptR a n from0 tg wi).2,.int .i64 0]∧Qt 3 w.heap.size w' v (ptR a n from0 tg wi).1:=by
 have ho:=(Zs a).1 hck
 have hst1:=ho.st1
 refine QG.of_W func66 rfl ntmps66 results66 (by simp) ?_
 refine Qc<|xl rfl<|QQ (us:=[va,.int .i64 a.st,vm,ve]) rfl λb4 w1 hs1 hb4 hB4=>x Qe<|x Qe<|Qf<|Qg<|Qc<|x (Qn hB4 rfl rfl)<|xl rfl<|xf<|(YR (h.ext hs1)).mono ?_
 rintro r2 w2 ⟨rfl,hs2⟩
 refine Qf<|Qc<|Qb<|x (Q4 rfl rfl)<|xe ?_
 refine Q3 rfl (λh20=>absurd hck h20) (λh20=>?_)
 refine Qi ?_
 have hs12:=hs1.trans hs2
 have hB42:=hB4.ext hs2
 have hfst:¬(from0:Int)≥a.st:=by omega
 refine Qg<|Qc<|Qb<|xb (QB rfl rfl) (λh23=>absurd h23 (by omega)) (λh23=>?_)
 refine Qb<|Qb<|x (Qa rfl)<|x (Qd hB42 rfl rfl)<|x (ZM rfl rfl)<|x (Qp rfl)<|xe ?_
 refine Q3 rfl (λh29=>absurd h29 hfst) (λh29=>?_)
 refine Qi<|Qg<|Qc<|Qb<|Qb<|x (QN ⟨ht.cells,hi.cells,trivial⟩)<|Qb<|xe ?_
 refine Qh<|QA (α:=Nat) [(8,10),(13,14),(33,42)] (λz=>[(33,.int .i64 z)]) (λz w'=>z≤2∧Step [] w2 w') (λz=>2 - z) (by rfl) 0 ⟨rfl,trivial⟩ ⟨by omega,Step.refl _ _⟩ ?_
 rintro k g w4 ⟨hk,hs4⟩
 refine Qc<|x (QB rfl rfl)<|xe ?_
 refine Qg<|QD rfl (λh34=>?_) (λh34=>?_)
 ·refine Qz ?_
  have hs04:=hs12.trans hs4
  have hA4:=h.ext hs04
  have hz04:=hs04.size
  have hB44:=hB42.ext hs4
  have htm:=((Z1 a.st tg none).1 htk).1
  have him:=((Z1 a.st wi none).1 hik).1
  refine Qg<|Qc7 (α:=PhZ) (Step [] w4) [(0,true),(1,true),(3,true),(4,true)] [2,5,6,7] [(8,false),(9,false)] [(15,16),(45,45),(48,48)] (phP w4.heap.size n tg wi)
   (λz=>[(45,.slice (some ⟨z.bi,0,none⟩) n n),(48,.slice (some ⟨z.bt,0,none⟩) n n),(15,.pointer (some ⟨z.b15,0,none⟩)),(16,.pointer (some ⟨z.b16,0,none⟩))])
   (λz w'=>QS w'.heap z.bi 4 ((flg n wi).map Value.bool)∧QS w'.heap z.bt 4 ((flg n tg).map Value.bool)∧QS w'.heap z.b15 222 [nS]∧QS w'.heap z.b16 222 [nS]∧(z.b15≠z.b16∧z.bi≠z.b15∧z.bi≠z.b16∧z.bt≠z.b15∧z.bt≠z.b16)∧w4.heap.size≤z.b15∧w4.heap.size≤z.b16)
   mixed (by rfl) (by kernel_rfl) (Step.drew _ _) (λ_ _ h1 h2=>h1.trans h2) Qht ?_ ?_
  ·rintro g w' ⟨⟨bi,e1,_,hbi⟩,⟨bt,e2,_,hbt⟩,⟨b15,e3,h15,hb15⟩,⟨b16,e4,h16,hb16⟩,_⟩ hdj
   refine ⟨⟨bi,bt,b15,b16⟩,⟨e1,e2,e3,e4,trivial⟩,hbi,hbt,hb15,hb16,?_,h15,h16⟩
   have d1:=hdj 6 (by simp) 7 (by simp) (by decide)
   have d2:=hdj 2 (by simp) 6 (by simp) (by decide)
   have d3:=hdj 2 (by simp) 7 (by simp) (by decide)
   have d4:=hdj 5 (by simp) 6 (by simp) (by decide)
   have d5:=hdj 5 (by simp) 7 (by simp) (by decide)
   rw[e3,e4] at d1
   rw[e1,e3] at d2
   rw[e1,e4] at d3
   rw[e2,e3] at d4
   rw[e2,e4] at d5
   simp only[ow,List.mem_singleton,forall_eq] at d1 d2 d3 d4 d5
   exact ⟨d1,d2,d3,d4,d5⟩
  ·refine pq (λ_ hc=>Qn (hB44.ext hc) rfl rfl)<|p (λ_=>Qo)<|pq (λ_ hc=>Qn (hB44.ext hc) rfl rfl)<|p (λ_=>Qo)<|pe ⟨⟨?_,?_,?_,?_,trivial⟩,?_⟩
   ·intro g w' hc
    refine xf<|(Qah ((hi.ext hs04).ext hc) hn hst1 him).mono ?_
    rintro r5 w5 ⟨hs5,b,rfl,hb,hB⟩
    exact ⟨hs5,⟨b,rfl,Nat.le_trans hc.size hb,hB⟩,λc hc'=>by rw[List.mem_singleton.1 (show c∈[b] from hc')];exact ⟨hb,hB.lt⟩⟩
   ·intro g w' hc
    refine xf<|(Qah ((ht.ext hs04).ext hc) hn hst1 htm).mono ?_
    rintro r5 w5 ⟨hs5,b,rfl,hb,hB⟩
    exact ⟨hs5,⟨b,rfl,Nat.le_trans hc.size hb,hB⟩,λc hc'=>by rw[List.mem_singleton.1 (show c∈[b] from hc')];exact ⟨hb,hB.lt⟩⟩
   ·intro g w' hc
    exact Qr (us:=[nS]) rfl λb w5 hs5 hb hB=>⟨hs5,⟨b,rfl,Nat.le_trans hc.size hb,hB⟩,λc hc'=>by rw[List.mem_singleton.1 (show c∈[b] from hc')];exact ⟨hb,hB.lt⟩⟩
   ·intro g w' hc
    exact Qr (us:=[nS]) rfl λb w5 hs5 hb hB=>⟨hs5,⟨b,rfl,Nat.le_trans hc.size hb,hB⟩,λc hc'=>by rw[List.mem_singleton.1 (show c∈[b] from hc')];exact ⟨hb,hB.lt⟩⟩
   rintro ⟨bi,bt,b15,b16⟩ g w5 hc5 ⟨hbi,hbt,hb15,hb16,hne,h15,h16⟩
   simp only[] at hbi hbt hb15 hb16 hne h15 h16
   refine pk<|QF (u:=.slice (some ⟨bi,0,none⟩) n n) hb15 rfl rfl (by simp) rfl λw6 hs6 hb15'=>⟨hc5.then1 hs6 h15,?_⟩
   refine pk<|QF (u:=.slice (some ⟨bt,0,none⟩) n n) (hb16.step hs6 (by simp;omega)) rfl rfl (by simp) rfl λw7 hs7 hb16'=>⟨(hc5.then1 hs6 h15).then1 hs7 h16,pe ?_⟩
   have hs47:Step [] w4 w7:=(hc5.then1 hs6 h15).then1 hs7 h16
   have hb15'':=hb15'.step hs7 (by simp;omega)
   have hbi7:=(hbi.step hs6 (by simp;omega)).step hs7 (by simp;omega)
   have hbt7:=(hbt.step hs6 (by simp;omega)).step hs7 (by simp;omega)
   have hz47:=hs47.size
   have hfl:((flg n wi).map Value.bool)[0+from0*1]?=some (.bool true):=by
    have e1:=yT (n:=n) (l:=wi) (x:=(from0:Int)) (by omega) (by omega)
    rw[decide_eq_true hin] at e1;exact e1
   refine Qg<|Qc<|x (Qd hb15'' rfl rfl)<|Qb<|x (QR (i:=from0) rfl rfl hf)<|x (Qd hbi7 rfl hfl)<|x (Zp rfl)<|xe ?_
   refine Yr rfl<|Qi<|Qc<|x (Qn (hB44.ext hs47) rfl rfl)<|xl rfl<|xf<|(V5 (hA4.ext hs47) hn hst1 (λe he=>⟨(ho.ed e he).1,(ho.ed e he).2.1⟩)).mono ?_
   rintro r8 w8 ⟨hs8,bF,rfl,hbF,hBF⟩
   have hs48:=hs47.trans hs8
   have hz8:=hs8.size
   refine Qb<|x (Zk (l:=[]) (l':=[_]))<|x (Zk (l:=[]) (l':=[_]))<|xl rfl<|xf <|
    (Qhu (wt:=λs=>decide (s∈tg)) (pm:=λe=>decide (e.2.2∈wi)) (cw:=[.pointer (some ⟨b16,0,none⟩)]) (cp:=[.pointer (some ⟨b15,0,none⟩)]) (gw:=114) (gp:=115) (hA4.ext hs48) hn (by omega) (λe he=>by have:=(ho.ed e he).2.2.2;omega) ho.eds hBF hf
     (λs w' h0 h1 hs'=>QgE ((hb16'.ext hs8).ext hs') ((hbt7.ext hs8).ext hs') h0 h1) (λe w' he hs'=>QgD ((hb15''.ext hs8).ext hs') ((hbi7.ext hs8).ext hs') (by have:=(ho.ed e he).2.2.2;omega) (by have:=(ho.ed e he).2.2.2;omega))).mono ?_
   rintro r9 w9 ⟨hs9,v,rfl,hv⟩
   refine Qb<|x (Qj rfl rfl)<|x (Qj rfl rfl)<|x Qe<|Qf<|Qc<|Qb<|Qb<|x Qe<|x Qe<|Qf ?_
   exact Qk ⟨[_,_,_],⟨rfl,rfl,rfl,trivial⟩,hs04.trans (hs48.trans hs9),v,rfl,Zb hv (by omega)⟩
 refine Qi ?_
 have hk2:k<2:=by have h35:(k:Int)<2:=h34;omega
 have hex:∃u l,[vt,vi][k]?=some u∧QL [] w.heap u l∧YK a.st none l=0:=by
  rcases k with _ | k
  ·exact ⟨vt,tg,rfl,ht,htk⟩
  ·have:k=0:=by omega
   subst this;exact ⟨vi,wi,rfl,hi,hik⟩
 refine Exists.elim hex λu hu=>Exists.elim hu λl hl=>?_
 refine Qg<|Qh<|Qc<|x (QeP (i:=k) (cs:=[vt,vi]) rfl rfl hk2 hl.1)<|Qf<|Qc<|x (Qn (hB42.ext hs4) rfl rfl)<|Qb<|xl rfl<|xf<|(qt (va:=va) (vm:=vm) (ve:=ve) (a:=a) ((hl.2.1.ext hs12).ext hs4)).mono ?_
 rintro r5 w5 ⟨rfl,hs5⟩
 refine Qf<|Qc<|Qb<|x (Q4 rfl rfl)<|xe ?_
 refine Q3 rfl (λh40=>absurd hl.2.2 h40) (λh40=>?_)
 refine Qi<|Qx<|x (Qy rfl rfl ⟨by omega,by omega⟩)<|Qb<|xe ?_
 exact ⟨k+1,by omega,⟨rfl,trivial⟩,by omega,hs4.trans hs5⟩
theorem Qcg {P:Program}{f:Fr}{w:World}{d:Option Nat}{ty:Nat}{ps:String}{af:Array Edge}{gd:Option (Nat×Bool)}{t kt et:Nat}[hm:Mp P t kt et (.int .i64 0)] [hk:Key P kt ZO] {x y:Operand}{b:Nat}{s:QM}{q v:Int}(h:ZE ZO w.heap b (Jz [] s.ed))
  (hs:s.ed.Pairwise λx y=>x.1<y.1∨(x.1=y.1∧x.2.1<y.2.1)) (hx:ev f x=.map (some b)) (hy:ev f y=ZO (q,v)) :
  (execOp (ev f) ⟨d,.lookup t x y true,ty,ps,af,gd⟩).run P w=.ok (.value (.tuple #[.int .i64 ((eget s.ed q v).getD 0),.bool (decide ((eget s.ed q v).isSome=true))])) w:=by
 rw[JQ h hx hy,VQ s.ed [] q v hs]
 cases eget s.ed q v <;> rfl
def Kq (k:Nat):LI:=(List.range k).map λi:Nat=>(i:Int)
theorem jT (k:Nat):(Kq k).length=k:=by simp[Kq]
theorem zz (k:Nat):Kq (k+1)=Kq k++[(k:Int)]:=by unfold Kq;rw[List.range_succ,List.map_append];rfl
theorem Vc (k:Nat) (x:Int):x∈Kq k↔0≤x∧x<(k:Int):=by
 unfold Kq
 simp only[List.mem_map,List.mem_range]
 constructor
 ·rintro ⟨i,hi,rfl⟩;omega
 ·intro h;exact ⟨x.toNat,by omega,by omega⟩
theorem UT (k:Nat):Yt (Kq k):=by
 induction k with
 | zero=>exact List.Pairwise.nil
 | succ k ih =>
  rw[zz]
  refine List.pairwise_append.2 ⟨ih,List.pairwise_singleton _ _,λx hx y hy=>?_⟩
  have:=(Vc k x).1 hx
  simp at hy;omega
theorem Qf6 (d:LI) (k:Nat) (x:Int):x∈KM d k→0≤x∧x<(k:Int):=by
 unfold KM
 simp only[List.mem_map,List.mem_filter,List.mem_range]
 rintro ⟨i,hi,rfl⟩;omega
theorem Qap (d:LI) (k:Nat):Yt (KM d k):=by
 induction k with
 | zero=>exact List.Pairwise.nil
 | succ k ih =>
  rw[zS]
  split
  ·refine List.pairwise_append.2 ⟨ih,List.pairwise_singleton _ _,λx hx y hy=>?_⟩
   have:=Qf6 d k x hx
   simp at hy;omega
  ·exact ih
theorem Qir (A:QM):Yt (cor A):=Qap _ _
def XC (A:QM):LI:=mrg (λp q=>p && !q) (Kq A.st.toNat) (cor A)
theorem qD (A:QM):Yt (XC A):=yF _ _ _ _ (Nat.le_refl _) (UT _) (Qap _ _)
theorem qC (A:QM) (x:Int):x∈XC A↔(0≤x∧x<(A.st.toNat:Int))∧x∉cor A:=by
 unfold XC
 rw[Us (UT _) (Qir A)]
 have hm:=Vc A.st.toNat x
 by_cases h1:x∈cor A
 ·simp[h1]
 ·by_cases h2:x∈Kq A.st.toNat
  ·have:=hm.1 h2
   simp[h1,h2];omega
  ·have:¬(0≤x∧x<(A.st.toNat:Int)):=λh=>h2 (hm.2 h)
   simp only[h1,h2,false_or,false_and,this]
theorem QbA {n:Int}{l:LI}(h1:∀x∈l,0≤x∧x<n) (h2:Yt l):YK n none l=0:=(Z1 n l none).2 ⟨h1,h2,λy hy=>by cases hy⟩
structure Vs where
 x:Int
 y:Int
 b:Int
 v:Int
def Vs.ky (p:Vs):Int×Int:=(p.x,p.y)
def zI (a b:QM) (i:Nat) (p:Vs) (v:Int):Vs:=⟨nxt a.ed p.x v,nxt b.ed p.y v,(i:Int),v⟩
def UY (a:QM) (kd x:Int):Bool:=decide (0≤x) && (decide (kd=1) || decide (x∈a.mr))
def lgC (a b:QM) (kd:Int) (p:Vs):Bool:=!(UY a kd p.x == UY b kd p.y)
def lgA (a b:QM) (i:Nat) (p:Vs) (V:List Vs) (v:Int):List Vs:=if (zI a b i p v).ky≠(-1,-1)∧(zI a b i p v).ky∉V.map Vs.ky then V++[zI a b i p v] else V
def vs0:Vs:=⟨-1,-1,-1,0⟩
def gV (V:List Vs) (k:Nat):Vs:=V.getD k vs0
def lgW (V:List Vs):Nat→Nat→LI
 | 0,_=>[]
 | f+1,k=>if 0≤(gV V k).b then (gV V k).v::lgW V f (gV V k).b.toNat else []
def lgL (a b:QM) (kd:Int) (al:LI):Nat→Nat→List Vs→Option (LI)
 | 0,_,_=>none
 | f+1,i,V=>if i<V.length then (if lgC a b kd (gV V i)=true then some (lgW V (i+1) i).reverse else lgL a b kd al f (i+1) (al.foldl (lgA a b i (gV V i)) V)) else none
def fst (a:QM):Int:=if a.st=0 then -1 else 0
def lgq (a b:QM) (kd:Int):Option (LI):=lgL a b kd (mrg (· || ·) a.al b.al) ((a.st.toNat+1)*(b.st.toNat+1)+1) 0 [⟨fst a,fst b,-1,0⟩]
def lgE (a b:QM) (kd:Int):Int:=if Y2 a≠0 then Y2 a else if Y2 b≠0 then Y2 b else if kd≠1∧kd≠2 then 11 else 0
structure Rpt where
 ps:Bool
 ev:Int
 f1:Int
 f2:Int
 nc:Bool
 wd:LI
 sts:LI
 tg:Int
def Uh (s:Option (Int×Int×Int)):Int×Int×Int:=s.getD (0,0,0)
def QeB (A:QM):LI:=if (XC A).length=0 then [] else (ptR A A.st.toNat 0 (XC A) (Kq A.st.toNat)).1
def KR (c:ZB):Rpt:=⟨(UH c).isNone,(Uh (UH c)).1,(Uh (UH c)).2.1,(Uh (UH c)).2.2,decide ((XC (YI c)).length=0),QeB (YI c),(Xr c).map (·.st),(YI c).st⟩
def VC (c:ZB):QM:=JG (YI c) [] (unc c.ev)
def cdE (c:ZB):Int:=if Y9 c≠0 then Y9 c else KG (YI c) [] (unc c.ev)
def ccE (c:ZB):Int:=if cdE c≠0 then cdE c else XG [YI c,VC c]
def ccA (c:ZB):QM:=syA [YI c,VC c]
def Qdu:LI→LI→Bool
 | a::v,b::w=>if a=b then Qdu v w else decide (a<b)
 | _,_=>false
def less (v w:LI):Bool:=if v.length≠w.length then decide (v.length<w.length) else Qdu v w
def own (c:ZB) (k:Bool):QM:=if k=true then ccA c else YI c
def cmE (c:ZB) (k:Bool):Int:=if Y9 c≠0 then Y9 c else if suE c≠0 then suE c else if k=true∧ccE c≠0 then ccE c else lgE (own c k) (Un c) 1
def cm1 (z:Option (LI)) (w:Option (LI)):Option (LI):=match w with
 | none=>z
 | some w=>match z with
  | none=>some w
  | some v=>if less w v=true then some w else some v
def cmW (a b:QM):Option (LI):=cm1 (cm1 none (lgq a b 1)) (lgq a b 2)
abbrev Q9 (p:Int×Int):LV:=[.int .i64 p.1,.int .i64 p.2]
theorem X1 (p:Int×Int):(Q9 p).length=2:=rfl
abbrev P2s (L:LN) (H:Array Obj) (v:Value) (l:List (Int×Int)):Prop:=Zw L H v l.length 2 (l.flatMap Q9)
abbrev Zo (e:KA):LV:=[.string e.nm,.bool e.co,.bool e.ob,.bool e.fo,.int .i64 e.fl]
theorem yX (e:KA):(Zo e).length=5:=rfl
abbrev Uj (s:ByteArray):Prop:=s.size≤9223372036854775807
structure JK (L:LN) (H:Array Obj) (v:Value) (l:List KA):Prop where
 arr:Zw L H v l.length 5 (l.flatMap Zo)
 nm:∀e∈l,Uj e.nm
theorem JK.ext {L:LN}{w w':World}{v:Value}{l:List KA}(h:JK L w.heap v l) (hs:Step [] w w'):JK L w'.heap v l:=⟨h.arr.ext hs,h.nm⟩
theorem JK.st {L:LN}{w w':World}{v:Value}{l:List KA}(h:JK L w.heap v l) (hs:Step L w w'):JK L w'.heap v l:=⟨h.arr.st hs,h.nm⟩
theorem JK.up {L L':LN}{H:Array Obj}{v:Value}{l:List KA}(h:JK L H v l) (hL:∀b∈L',b∈L∨H.size≤b):JK L' H v l:=⟨h.arr.up hL,h.nm⟩
structure IV where
 nm:ByteArray
 p:AV
def IV.it (q:IV):Jj:=⟨q.nm,q.p.a⟩
abbrev Zi (q:IV):LV:=[.string q.nm,q.p.va,.int .i64 q.p.a.st,q.p.vm,q.p.ve]
theorem Xb (q:IV):(Zi q).length=5:=rfl
structure YU (L:LN) (H:Array Obj) (v:Value) (qs:List IV):Prop where
 arr:Zw L H v qs.length 5 (qs.flatMap Zi)
 each:∀q∈qs,Zm L H q.p.va q.p.vm q.p.ve q.p.a
 nm:∀q∈qs,Uj q.nm
structure XV where
 nm:ByteArray
 v:Value
 ls:List (Int×Int)
def XV.x (q:XV):Exc:=⟨q.nm,q.ls⟩
abbrev Zy (q:XV):LV:=[.string q.nm,q.v]
theorem JL (q:XV):(Zy q).length=2:=rfl
structure Ux (L:LN) (H:Array Obj) (v:Value) (qs:List XV):Prop where
 arr:Zw L H v qs.length 2 (qs.flatMap Zy)
 each:∀q∈qs,P2s L H q.v q.ls
 nm:∀q∈qs,Uj q.nm
structure KV where
 nm:ByteArray
 v:Value
 ts:List (Int×Int)
 bd:Int
def KV.k (q:KV):X5:=⟨q.nm,q.ts,q.bd⟩
abbrev ZC (q:KV):LV:=[.string q.nm,q.v,.int .i64 q.bd]
theorem Jq (q:KV):(ZC q).length=3:=rfl
structure yd (L:LN) (H:Array Obj) (v:Value) (qs:List KV):Prop where
 arr:Zw L H v qs.length 3 (qs.flatMap ZC)
 each:∀q∈qs,P2s L H q.v q.ts
 nm:∀q∈qs,Uj q.nm
theorem YU.ext {L:LN}{w w':World}{v:Value}{qs:List IV}(h:YU L w.heap v qs) (hs:Step [] w w'):YU L w'.heap v qs:=⟨h.arr.ext hs,λq hq=>(h.each q hq).ext hs,h.nm⟩
theorem YU.st {L:LN}{w w':World}{v:Value}{qs:List IV}(h:YU L w.heap v qs) (hs:Step L w w'):YU L w'.heap v qs:=⟨h.arr.st hs,λq hq=>(h.each q hq).st hs,h.nm⟩
theorem YU.up {L L':LN}{H:Array Obj}{v:Value}{qs:List IV}(h:YU L H v qs) (hL:∀b∈L',b∈L∨H.size≤b):YU L' H v qs:=⟨h.arr.up hL,λq hq=>(h.each q hq).up hL,h.nm⟩
theorem Ux.ext {L:LN}{w w':World}{v:Value}{qs:List XV}(h:Ux L w.heap v qs) (hs:Step [] w w'):Ux L w'.heap v qs:=⟨h.arr.ext hs,λq hq=>(h.each q hq).ext hs,h.nm⟩
theorem Ux.st {L:LN}{w w':World}{v:Value}{qs:List XV}(h:Ux L w.heap v qs) (hs:Step L w w'):Ux L w'.heap v qs:=⟨h.arr.st hs,λq hq=>(h.each q hq).st hs,h.nm⟩
theorem Ux.up {L L':LN}{H:Array Obj}{v:Value}{qs:List XV}(h:Ux L H v qs) (hL:∀b∈L',b∈L∨H.size≤b):Ux L' H v qs:=⟨h.arr.up hL,λq hq=>(h.each q hq).up hL,h.nm⟩
theorem yd.ext {L:LN}{w w':World}{v:Value}{qs:List KV}(h:yd L w.heap v qs) (hs:Step [] w w'):yd L w'.heap v qs:=⟨h.arr.ext hs,λq hq=>(h.each q hq).ext hs,h.nm⟩
theorem yd.st {L:LN}{w w':World}{v:Value}{qs:List KV}(h:yd L w.heap v qs) (hs:Step L w w'):yd L w'.heap v qs:=⟨h.arr.st hs,λq hq=>(h.each q hq).st hs,h.nm⟩
theorem yd.up {L L':LN}{H:Array Obj}{v:Value}{qs:List KV}(h:yd L H v qs) (hL:∀b∈L',b∈L∨H.size≤b):yd L' H v qs:=⟨h.arr.up hL,λq hq=>(h.each q hq).up hL,h.nm⟩
structure CL where
 ve:Value
 vc:Value
 vr:Value
 vx:Value
 vk:Value
 ev:List KA
 co:List IV
 rq:List IV
 ex:List XV
 cs:List KV
def CL.cel (c:CL):ZB:=⟨c.ev,c.co.map (·.it),c.rq.map (·.it),c.ex.map (·.x),c.cs.map (·.k)⟩
abbrev CL.cells (c:CL):LV:=[c.ve,c.vc,c.vr,c.vx,c.vk]
abbrev CL.val (c:CL):Value:=.agg #[c.ve,c.vc,c.vr,c.vx,c.vk]
structure ZH (L:LN) (H:Array Obj) (c:CL):Prop where
 ev:JK L H c.ve c.ev
 co:YU L H c.vc c.co
 rq:YU L H c.vr c.rq
 ex:Ux L H c.vx c.ex
 cs:yd L H c.vk c.cs
theorem ZH.ext {L:LN}{w w':World}{c:CL}(h:ZH L w.heap c) (hs:Step [] w w'):ZH L w'.heap c:=⟨h.ev.ext hs,h.co.ext hs,h.rq.ext hs,h.ex.ext hs,h.cs.ext hs⟩
theorem ZH.st {L:LN}{w w':World}{c:CL}(h:ZH L w.heap c) (hs:Step L w w'):ZH L w'.heap c:=⟨h.ev.st hs,h.co.st hs,h.rq.st hs,h.ex.st hs,h.cs.st hs⟩
theorem ZH.up {L L':LN}{H:Array Obj}{c:CL}(h:ZH L H c) (hL:∀b∈L',b∈L∨H.size≤b):ZH L' H c:=⟨h.ev.up hL,h.co.up hL,h.rq.up hL,h.ex.up hL,h.cs.up hL⟩
theorem ZH.ones {L:LN}{H:Array Obj}{c:CL}(h:ZH L H c):ZD c.cells:=⟨h.ev.arr.one,h.co.arr.one,h.rq.arr.one,h.ex.arr.one,h.cs.arr.one,trivial⟩
def QiV (N:Nat) (H:Array Obj) (v:Value) (k:ZB):Prop:=∃c:CL,v=c.val∧c.cel=k∧∀L:LN,(∀b∈L,b<N)→ZH L H c
theorem V2 (s:ByteArray) (hnb:Uj s) (w:World):QG prog 161 [.string s] w λr w'=>r=.bool (KL s)∧w'=w:=by
 unfold Uj at hnb
 refine QG.of_W func161 rfl ntmps161 results161 (by simp) ?_
 refine Qc<|Qf<|Qg<|Qc<|Qb<|x (Qbd rfl)<|Qb<|xe ?_
 refine Qh<|QA (α:=Nat) [(2,5),(8,46)] (λz=>[(8,.int .i64 z)]) (λz w'=>w'=w∧z≤s.size∧(List.range' z (s.size - z)).all (nmQ s)=(List.range' 0 s.size).all (nmQ s)) (λz=>s.size - z) (by rfl) 0 ⟨rfl,trivial⟩ ⟨rfl,Nat.zero_le _,by rw[Nat.sub_zero]⟩ ?_
 rintro k g w1 ⟨rfl,hk,hall⟩
 refine Qc<|x (QB rfl rfl)<|xe ?_
 refine Qg<|QD rfl (λh9=>?_) (λh9=>?_)
 ·refine Qz ?_
  have hke:s.size≤k:=by have h10:¬(k:Int)<(s.size:Int):=h9;omega
  rw[Qhq hke] at hall
  have hr:KL s=decide (0<s.size∧s.size≤32):=by unfold KL;rw[←hall];simp
  rw[hr]
  refine QW (α:=Bool) [(2,2),(47,54)] (λz=>[(2,.bool z)]) (λz w'=>w'=w1∧z=decide (0<s.size∧s.size≤32)) (by rfl) ?_ ?_
  ·refine Qx<|Qb<|x (Qbd rfl)<|xb (ZL rfl rfl) (λh49=>?_) (λh49=>?_)
   ·refine Qb<|Qb<|x (Qbd rfl)<|x (Jy rfl rfl)<|x (Qp rfl)<|Qf ?_
    exact ⟨_,⟨rfl,trivial⟩,rfl,by first | exact bT (by omega) | exact bF (by omega) | exact bD (by omega)⟩
   refine Qb<|xs rfl<|xs rfl<|xs rfl<|x (Qp rfl)<|Qf ?_
   exact ⟨_,⟨rfl,trivial⟩,rfl,by first | exact bT (by omega) | exact bF (by omega) | exact bD (by omega)⟩
  rintro z g w2 ⟨rfl,rfl⟩
  exact Qk ⟨[_],⟨rfl,trivial⟩,rfl,rfl⟩
 have hlt:k<s.size:=by have h10:(k:Int)<(s.size:Int):=h9;omega
 rw[QeC hlt,List.all_cons] at hall
 refine Qi<|Qg<|Qh<|Qc<|Qb<|Qf<|Qc<|Qb<|Qb<|x (QeQ (i:=k) rfl rfl hlt)<|Qf ?_
 have hq:nmQ s k=decide (nmP k (chr s k)):=rfl
 refine Zc (chr s k) λc hc=>?_
 rw[hc] at hq
 refine QW (α:=Bool) [(5,5),(14,31)] (λz=>[(5,.bool z)]) (λz w'=>w'=w1∧z=decide ((97≤c∧c≤122)∨(65≤c∧c≤90)∨c=95)) (by rfl) ?_ ?_
 ·rw[←hc]
  refine Qx<|Qb<|xb (ZM rfl rfl) (λh15=>?_) (λh15=>?_)
  ·refine Qb<|Qb<|xb (Jy rfl rfl) (λh18=>?_) (λh18=>?_)
   ·refine x (Qp rfl)<|Qb<|xs rfl<|xs rfl<|xs rfl<|xs rfl<|xs rfl<|xs rfl<|x (Qp rfl)<|Qb<|xs rfl<|xs rfl<|x (Qp rfl) <|
     Qf ?_
    exact ⟨_,⟨rfl,trivial⟩,rfl,by first | exact bT (by omega) | exact bF (by omega) | exact bD (by omega)⟩
   refine x (Qp rfl)<|Qb<|Qb<|xb (ZM rfl rfl) (λh22=>?_) (λh22=>?_)
   ·refine Qb<|Qb<|xb (Jy rfl rfl) (λh25=>?_) (λh25=>?_)
    ·refine x (Qp rfl)<|x (Qp rfl)<|Qb<|xs rfl<|xs rfl<|x (Qp rfl)<|Qf ?_
     exact ⟨_,⟨rfl,trivial⟩,rfl,by first | exact bT (by omega) | exact bF (by omega) | exact bD (by omega)⟩
    refine x (Qp rfl)<|x (Qp rfl)<|Qb<|Qb<|x (Zn rfl rfl)<|x (Qp rfl)<|Qf ?_
    exact ⟨_,⟨rfl,trivial⟩,rfl,by first | exact bT (by omega) | exact bF (by omega) | exact bD (by omega)⟩
   refine Qb<|xs rfl<|xs rfl<|x (Qp rfl)<|x (Qp rfl)<|Qb<|Qb<|x (Zn rfl rfl)<|x (Qp rfl)<|x Qe <|
    xe ?_
   exact ⟨_,⟨rfl,trivial⟩,rfl,by first | exact bT (by omega) | exact bF (by omega) | exact bD (by omega)⟩
  refine Qb<|xs rfl<|xs rfl<|x (Qp rfl)<|Qb<|Qb<|xb (ZM rfl rfl) (λh22=>?_) (λh22=>?_)
  ·refine Qb<|Qb<|xb (Jy rfl rfl) (λh25=>?_) (λh25=>?_)
   ·refine x (Qp rfl)<|x (Qp rfl)<|Qb<|xs rfl<|xs rfl<|x (Qp rfl)<|Qf ?_
    exact ⟨_,⟨rfl,trivial⟩,rfl,by first | exact bT (by omega) | exact bF (by omega) | exact bD (by omega)⟩
   refine x (Qp rfl)<|x (Qp rfl)<|Qb<|Qb<|x (Zn rfl rfl)<|x (Qp rfl)<|Qf ?_
   exact ⟨_,⟨rfl,trivial⟩,rfl,by first | exact bT (by omega) | exact bF (by omega) | exact bD (by omega)⟩
  refine Qb<|xs rfl<|xs rfl<|x (Qp rfl)<|x (Qp rfl)<|Qb<|Qb<|x (Zn rfl rfl)<|x (Qp rfl)<|x Qe <|
   xe ?_
  exact ⟨_,⟨rfl,trivial⟩,rfl,by first | exact bT (by omega) | exact bF (by omega) | exact bD (by omega)⟩
 rintro z g w4 ⟨rfl,rfl⟩
 refine QW (α:=Bool) [(32,45)] (λz=>[(45,.bool z)]) (λz w'=>w'=w4∧z=decide (¬nmP k c)) (by rfl) ?_ ?_
 ·unfold nmP
  rw[←hc]
  refine Qx<|Qb<|xb (UP rfl) (λh33=>?_) (λh33=>?_)
  ·refine Qb<|Qb<|xb (Zn rfl rfl) (λh36=>?_) (λh36=>?_)
   ·refine Qb<|xs rfl<|xs rfl<|x (Qp rfl)<|Qb<|xs rfl<|xs rfl<|x (Qp rfl)<|x (Qp rfl)<|xe ?_
    exact ⟨_,⟨rfl,trivial⟩,rfl,by first | exact bT (by omega) | exact bF (by omega) | exact bD (by omega)⟩
   refine Qb<|Qb<|xb (QB rfl rfl) (λh39=>?_) (λh39=>?_)
   ·refine x (Qp rfl)<|Qb<|xs rfl<|xs rfl<|x (Qp rfl)<|x (Qp rfl)<|xe ?_
    exact ⟨_,⟨rfl,trivial⟩,rfl,by first | exact bT (by omega) | exact bF (by omega) | exact bD (by omega)⟩
   refine x (Qp rfl)<|Qb<|Qb<|x (ZL rfl rfl)<|x (Qp rfl)<|x (Qp rfl)<|xe ?_
   exact ⟨_,⟨rfl,trivial⟩,rfl,by first | exact bT (by omega) | exact bF (by omega) | exact bD (by omega)⟩
  refine Qb<|xs rfl<|xs rfl<|xs rfl<|xs rfl<|xs rfl<|xs rfl<|xs rfl<|xs rfl<|xs rfl<|xs rfl<|x (Qp rfl)<|xe ?_
  exact ⟨_,⟨rfl,trivial⟩,rfl,by first | exact bT (by omega) | exact bF (by omega) | exact bD (by omega)⟩
 rintro z g w5 ⟨rfl,rfl⟩
 refine Q3 rfl (λh45=>?_) (λh45=>?_)
 ·refine Qc<|Qf ?_
  have hr:KL s=false:=by
   unfold KL
   rw[←hall,hq,decide_eq_false h45];rfl
  exact Qk ⟨[_],⟨rfl,trivial⟩,by rw[hr];rfl,rfl⟩
 refine Qi ?_
 have h46:nmP k c:=Decidable.not_not.1 h45
 refine Qx<|x (Qy rfl rfl ⟨by omega,by omega⟩)<|Qb<|xe ?_
 rw[hq,decide_eq_true h46,Bool.true_and] at hall
 exact ⟨k+1,by omega,⟨rfl,trivial⟩,rfl,hlt,hall⟩
def nmM (l:List ByteArray):List (ByteArray×Value):=l.map λs=>(s,.bool true)
theorem QhA (l:List ByteArray) (s:ByteArray):mget (nmM l) s=if s∈l then some (.bool true) else none:=by
 induction l with
 | nil=>rfl
 | cons a l ih =>
  show (if a=s then some (Value.bool true) else mget (nmM l) s)=_
  rw[ih]
  by_cases h:a=s
  ·subst h;simp
  ·have:s≠a:=λe=>h e.symm
   simp[h,this]
theorem Qcn {l:List ByteArray}{s:ByteArray}(h:s∉l):mput (nmM l) s (.bool true)=nmM (l++[s]):=by
 induction l with
 | nil=>rfl
 | cons a l ih =>
  have h1:a≠s:=λe=>h (by subst e;exact List.mem_cons_self)
  show (if a=s then (a,Value.bool true)::nmM l else (a,Value.bool true)::mput (nmM l) s (.bool true))=_
  rw[if_neg h1,ih (λhm=>h (List.mem_cons_of_mem _ hm))]
  rfl
section
variable {P:Program} {f:Fr} {w:World} {d:Option Nat} {ty:Nat} {ps:String} {af:Array Edge} {gd:Option (Nat×Bool)}
theorem jM {t kt et:Nat}[hm:Mp P t kt et (.bool false)] [hk:Key P kt Xv] {x y:Operand}{b:Nat}{l:List ByteArray}{s:ByteArray}(h:ZE Xv w.heap b (nmM l)) (hx:ev f x=.map (some b)) (hy:ev f y=.string s) :
  (execOp (ev f) ⟨d,.lookup t x y false,ty,ps,af,gd⟩).run P w=.ok (.value (.bool (decide (s∈l)))) w:=by
 rw[X7 h hx hy,QhA]
 by_cases hs:s∈l <;> simp[hs]
end
theorem QbC {s:List ByteArray}{l:List KA}{k:Nat}(h:k<l.length):qq s (l.drop k)=if XZ s (l[k]'h)≠0 then XZ s (l[k]'h) else qq (s++[(l[k]'h).nm]) (l.drop (k+1)):=by
 rw[Q6 h];rfl
theorem qg {L:LN}{w:World}{v:Value}{l:List KA}(h:JK L w.heap v l):QG prog 117 [v] w λr w'=>r=.int .i64 (Jt l)∧Step [] w w':=by
 have hle:=h.arr.le
 refine QG.of_W func117 rfl ntmps117 results117 (by simp) ?_
 refine Qc<|Qf<|Qg<|Qc<|Qb<|x (Qs h.arr rfl)<|x (ZL rfl rfl)<|xe ?_
 refine Q3 rfl (λh8=>?_) (λh8=>?_)
 ·refine Qc<|Qf ?_
  exact Qk ⟨[_],⟨rfl,trivial⟩,by unfold Jt;rw[if_pos (by have h9:(32:Int)<(l.length:Int):=h8;omega)];rfl,Step.refl _ _⟩
 have hck:Jt l=qq [] l:=by unfold Jt;rw[if_neg (by have h9:¬(32:Int)<(l.length:Int):=h8;omega)]
 rw[hck]
 refine Qi<|Qc<|xl rfl<|ZU Xv λb9 w1 hs1 hb9 hm9=>Qf<|Qg<|Qc<|Qb<|x (Qs (h.arr.ext hs1) rfl)<|Qb<|xe ?_
 refine Qh<|QA (α:=Nat×List ByteArray) [(2,2),(5,5),(12,50)] (λz=>[(12,.int .i64 z.1)]) (λz w'=>z.1≤l.length∧Step [] w w'∧ZE Xv w'.heap b9 (nmM z.2)∧qq z.2 (l.drop z.1)=qq [] l) (λz=>l.length - z.1) (by rfl) (0,[]) ⟨rfl,trivial⟩
  ⟨Nat.zero_le _,hs1,hm9,rfl⟩ ?_
 rintro ⟨k,sn⟩ g w2 ⟨hk,hs2,hm2,hcl⟩
 simp only[] at hk hm2 hcl
 refine Qc<|x (QB rfl rfl)<|xe ?_
 refine Qg<|QD rfl (λh13=>?_) (λh13=>?_)
 ·refine Qz ?_
  have hke:l.length≤k:=by have h10:¬(k:Int)<(l.length:Int):=h13;omega
  rw[List.drop_of_length_le hke] at hcl
  refine Qc<|Qf ?_
  exact Qk ⟨[_],⟨rfl,trivial⟩,by rw[←hcl];rfl,hs2⟩
 have hlt:k<l.length:=by have h10:(k:Int)<(l.length:Int):=h13;omega
 rw[QbC hlt] at hcl
 have hnm:=h.nm _ (List.getElem_mem hlt)
 refine Qi<|Qg<|Qh<|Qc<|xig yX (h.arr.ext hs2) rfl rfl hlt λa14 h14=>?_
 refine Zc (l[k]'hlt) λe he=>?_
 rw[he] at h14 hcl hnm
 refine x (QJ h14 rfl rfl)<|xl rfl<|Qr (us:=[.string .empty,.bool false,.bool false,.bool false,.int .i64 0]) rfl λb5 w3 hs3 hb5 hB5=>xl rfl<|Ql (us:=Zo e) hB5 rfl rfl rfl rfl ⟨rfl,rfl,rfl,rfl,rfl,trivial⟩ λw4 hs4 hB5 =>
  xe ?_
 have hs24:Step [] w2 w4:=hs3.then1 hs4 hb5
 have hm4:=hm2.ext hs24
 refine Qg<|Qh<|Qc<|x (Qa rfl)<|x (Qd hB5 rfl rfl)<|xl rfl<|xf<|(V2 e.nm hnm _).mono ?_
 rintro r5 w5 ⟨rfl,rfl⟩
 refine x (Zp rfl)<|Qf<|QY rfl (λh16=>?_) (λh16=>?_)
 ·have hn:KL e.nm=false:=by simpa using h16
  have h1:XZ sn e=7:=by unfold XZ;rw[if_pos hn]
  refine Qc<|Qf ?_
  exact Qk ⟨[_],⟨rfl,trivial⟩,by rw[←hcl,h1];rfl,hs2.trans hs24⟩
 have hn:¬KL e.nm=false:=by simpa using h16
 refine Qc<|Qb<|x (Qa rfl)<|x (Qd hB5 rfl rfl)<|x (jM hm4 rfl rfl)<|Qf<|Q3 rfl (λh21=>?_) (λh21=>?_)
 ·have h1:XZ sn e=8:=by unfold XZ;rw[if_neg hn,if_pos h21]
  refine Qc<|Qf ?_
  exact Qk ⟨[_],⟨rfl,trivial⟩,by rw[←hcl,h1];rfl,hs2.trans hs24⟩
 refine QW (α:=Bool) [(26,34)] (λz=>[(26,.bool z)]) (λz w'=>w'=w5∧z=decide (e.fl<0∨4<e.fl)) (by rfl) ?_ ?_
 ·refine Qx<|x (Qa rfl)<|x (Qd hB5 rfl rfl)<|xb (QB rfl rfl) (λh29=>?_) (λh29=>?_)
  ·refine Qb<|xs rfl<|xs rfl<|xs rfl<|x (Qp rfl)<|Qf ?_
   exact ⟨_,⟨rfl,trivial⟩,rfl,by first | exact bT (by omega) | exact bF (by omega) | exact bD (by omega)⟩
  refine Qb<|x (Qa rfl)<|x (Qd hB5 rfl rfl)<|x (ZL rfl rfl)<|x (Qp rfl)<|Qf ?_
  exact ⟨_,⟨rfl,trivial⟩,rfl,by first | exact bT (by omega) | exact bF (by omega) | exact bD (by omega)⟩
 rintro z g w6 ⟨rfl,rfl⟩
 refine Q3 rfl (λh26=>?_) (λh26=>?_)
 ·have h1:XZ sn e=2:=by unfold XZ;rw[if_neg hn,if_neg h21,if_pos h26]
  refine Qc<|Qf ?_
  exact Qk ⟨[_],⟨rfl,trivial⟩,by rw[←hcl,h1];rfl,hs2.trans hs24⟩
 refine QW (α:=Bool) [(35,46)] (λz=>[(35,.bool z)]) (λz w'=>w'=w6∧z=decide (e.fl≠0∧(e.co || e.ob)=true)) (by rfl) ?_ ?_
 ·refine Qx<|x (Qa rfl)<|x (Qd hB5 rfl rfl)<|xb (Q4 rfl rfl) (λh38=>?_) (λh38=>?_)
  ·refine Qb<|x (Qa rfl)<|xB (Qd hB5 rfl rfl) (λh41=>?_) (λh41=>?_)
   ·refine Qb<|xs rfl<|xs rfl<|x (Qp rfl)<|x (Qp rfl)<|Qf ?_
    exact ⟨_,⟨rfl,trivial⟩,rfl,by rw[h41,decide_eq_true ⟨h38,by simp⟩]⟩
   ·refine Qb<|x (Qa rfl)<|x (Qd hB5 rfl rfl)<|x (Qp rfl)<|x (Qp rfl)<|Qf<|⟨_,⟨rfl,trivial⟩,rfl,?_⟩
    show e.ob=_
    rw[h41];cases e.ob <;> simp[show ¬e.fl=0 from h38]
  refine Qb<|xs rfl<|xs rfl<|xs rfl<|xs rfl<|xs rfl<|xs rfl<|x (Qp rfl)<|Qf ?_
  exact ⟨_,⟨rfl,trivial⟩,rfl,bF (λh1=>h38 h1.1)⟩
 rintro z g w7 ⟨rfl,rfl⟩
 refine Q3 rfl (λh35=>?_) (λh35=>?_)
 ·have h1:XZ sn e=13:=by unfold XZ;rw[if_neg hn,if_neg h21,if_neg h26,if_pos h35]
  refine Qc<|Qf ?_
  exact Qk ⟨[_],⟨rfl,trivial⟩,by rw[←hcl,h1];rfl,hs2.trans hs24⟩
 have h1:XZ sn e=0:=by unfold XZ;rw[if_neg hn,if_neg h21,if_neg h26,if_neg h35]
 rw[h1,if_neg (λh=>h rfl)] at hcl
 refine Qi<|Qx<|Qb<|x (Qa rfl)<|x (Qd hB5 rfl rfl)<|xl rfl<|Yv (k:=e.nm) hm4 rfl rfl λw8 hs8 hm8=>xe ?_
 refine Qx<|x (Qy rfl rfl ⟨by omega,by omega⟩)<|Qb<|xe ?_
 have hm8':ZE Xv w8.heap b9 (nmM (sn++[e.nm])):=by rw[←Qcn h21];exact hm8
 exact ⟨(k+1,sn++[e.nm]),by simp only[];omega,⟨rfl,trivial⟩,hlt,(hs2.trans hs24).then1 hs8 hb9,hm8',hcl⟩
theorem j9 {α:Type}(q:α→Bool) (x:α):∀(l:List α) (i:Nat),ixs q i (l++[x])=ixs q i l++if q x=true then [((i+l.length:Nat):Int)] else []
 | [],i=>by simp[ixs]
 | a::l,i=>by
  have ih:=j9 q x l (i+1)
  simp only[List.cons_append,ixs,ih,List.length_cons]
  rw[show i+1+l.length=i+(l.length+1) by omega]
  split <;> simp
theorem Kd {α:Type}(q:α→Bool):∀(l:List α) (i:Nat),(ixs q i l).length≤l.length
 | [],i=>by simp[ixs]
 | a::l,i=>by
  have ih:=Kd q l (i+1)
  unfold ixs;split <;> simp <;> omega
theorem j8 {α:Type}(q:α→Bool) {l:List α}{k:Nat}(h:k<l.length):ixs q 0 (l.take (k+1))=ixs q 0 (l.take k)++if q (l[k]'h)=true then [(k:Int)] else []:=by
 rw[List.take_succ_eq_append_getElem h,j9]
 simp[Nat.min_eq_left (Nat.le_of_lt h)]
theorem QdI {g:Nat}{fn:Func}[Fu prog g fn] {q:KA→Bool}(hq:∀(e:KA) (w:World),QG prog g [.agg (Zo e).toArray] w λr w'=>r=.bool (q e)∧Step [] w w') {L:LN}{w:World}{v:Value}{l:List KA}(h:JK L w.heap v l) :
  QG prog 124 [v,.func (.func g) #[] #[]] w λr w'=>Step [] w w'∧Qt 3 w.heap.size w' r (ixs q 0 l):=by
 have hle:=h.arr.le
 refine QG.of_W func124 rfl ntmps124 results124 (by simp) ?_
 refine Qc<|Qf<|Qc<|Qf<|Qg<|Qc<|Qb<|x (Qs h.arr rfl)<|Qb<|xe ?_
 refine Qh<|QA (α:=Nat×Value) [(5,7),(10,22)] (λz=>[(5,z.2),(10,.int .i64 z.1)]) (λz w'=>z.1≤l.length∧Step [] w w'∧Qt 3 w.heap.size w' z.2 (ixs q 0 (l.take z.1))) (λz=>l.length - z.1) (by rfl) (0,nS) ⟨rfl,rfl,trivial⟩
  ⟨Nat.zero_le _,Step.refl _ _,QP _ _ _ _⟩ ?_
 rintro ⟨k,vo⟩ g w1 ⟨hk,hs1,ho1⟩
 simp only[] at hk ho1
 refine Qc<|x (QB rfl rfl)<|xe ?_
 refine Qg<|QD rfl (λh11=>?_) (λh11=>?_)
 ·refine Qz ?_
  have hke:l.length≤k:=by have h10:¬(k:Int)<(l.length:Int):=h11;omega
  rw[List.take_of_length_le hke] at ho1
  refine Qc<|Qb<|Qf ?_
  exact Qk ⟨[_],⟨rfl,trivial⟩,hs1,ho1⟩
 have hlt:k<l.length:=by have h10:(k:Int)<(l.length:Int):=h11;omega
 have htk:=j8 q hlt
 have hil:=Kd q (l.take k) 0
 have htl:(l.take k).length=k:=by simp;omega
 refine Qi<|Qg<|Qh<|Qc<|Qb<|xig yX (h.arr.ext hs1) rfl rfl hlt λa13 h13=>?_
 refine Zc (l[k]'hlt) λe he=>?_
 rw[he] at h13 htk
 refine x (QJ h13 rfl rfl)<|xl rfl<|Qr (us:=[.string .empty,.bool false,.bool false,.bool false,.int .i64 0]) rfl λb7 w2 hs2 hb7 hB7=>x Qe <|
  xl rfl<|Ql (us:=Zo e) hB7 rfl rfl rfl rfl ⟨rfl,rfl,rfl,rfl,rfl,trivial⟩ λw3 hs3 hB7=>xe ?_
 have hs13:Step [] w1 w3:=hs2.then1 hs3 hb7
 refine Qc<|Qb<|x (Qn hB7 rfl rfl)<|xl rfl<|xc (first:=[]) (capt:=[]) rfl<|(hq e w3).mono ?_
 rintro r4 w4 ⟨rfl,hs4⟩
 have hs14:=hs13.trans hs4
 have ho4:=Qu ho1 hs14
 have hz4:=(hs1.trans hs14).size
 refine xe ?_
 refine QY rfl (λh17=>?_) (λh17=>?_)
 ·rw[if_pos h17] at htk
  refine Qx<|Qb<|Qb<|xl rfl<|QH (us:=[[.int .i64 k]]) rfl rfl (by decide) (by simp) ⟨rfl,rfl,trivial⟩ λb20 w5 hs5 hb20 hB20=>?_
  have ho5:=Qu ho4 hs5
  have hz5:=hs5.size
  refine xl rfl<|Q5 (news:=[.int .i64 k]) (L:=[]) ho5 rfl rfl rfl (hB20.at (by simp)) (by simp[Value.oneCell']) (by omega) (by omega) λv6 w6 ho6 hs6 hn6 =>
   Qf ?_
  have hge:=Qq ho4
  refine Qx<|x (Qy rfl rfl ⟨by omega,by omega⟩)<|Qb<|xe ?_
  refine ⟨(k+1,v6),by simp only[];omega,⟨rfl,rfl,trivial⟩,hlt,((hs1.trans hs14).trans hs5).then hs6 (λb hb=>.inr (hge b hb).1),?_⟩
  simp only[]
  rw[htk];exact Qt.snoc ho6
 rw[if_neg (by rw[h17];decide),List.append_nil] at htk
 refine Qi<|Qx<|x (Qy rfl rfl ⟨by omega,by omega⟩)<|Qb<|xe ?_
 exact ⟨(k+1,vo),by simp only[];omega,⟨rfl,rfl,trivial⟩,hlt,hs1.trans hs14,by simp only[];rw[htk];exact ho4⟩
theorem QbN (e:KA) (w:World):QG prog 119 [.agg (Zo e).toArray] w λr w'=>r=.bool (!e.co)∧Step [] w w':=by
 refine QG.of_W func119 rfl ntmps119 results119 (by simp) ?_
 refine Qc<|xl rfl<|QQ (us:=Zo e) rfl λb1 w1 hs1 hb1 hB1=>Qf<|Qc<|x (Qa rfl)<|x (Qd hB1 rfl rfl)<|x (Zp rfl)<|Qf ?_
 exact Qk ⟨[_],⟨rfl,trivial⟩,rfl,hs1⟩
theorem V0 {L:LN}{w:World}{v:Value}{l:List KA}(h:JK L w.heap v l):QG prog 72 [v,.int .i64 2] w λr w'=>Step [] w w' ∧
  ∃vo,r=.tuple #[vo,.int .i64 (Jt l)]∧Qt 3 w.heap.size w' vo (if Jt l=0 then unc l else []):=by
 refine QG.of_W func72 rfl ntmps72 results72 (by simp) ?_
 refine Qc<|x Qe<|Qf<|Qg<|Qc<|Qb<|xl rfl<|xf<|(qg h).mono ?_
 rintro r1 w1 ⟨rfl,hs1⟩
 refine Qf<|Qc<|Qb<|x (Q4 rfl rfl)<|xe ?_
 refine Q3 rfl (λh13=>?_) (λh13=>?_)
 ·refine Qc<|Qb<|x Qe<|Qf ?_
  exact Qk ⟨[_,_],⟨rfl,rfl,trivial⟩,hs1,_,rfl,by rw[if_neg h13];exact QP _ _ _ _⟩
 have h14:Jt l=0:=Decidable.not_not.1 h13
 refine Qi<|Qc<|xl rfl<|ZU X2 λb15 w2 hs2 hb15 hm2=>xl rfl<|Z9 (k:=1) hm2 rfl rfl λw3 hs3 hm3=>xl rfl<|Z9 (k:=2) hm3 rfl rfl λw4 hs4 hm4 =>
  xl rfl<|Z9 (k:=3) hm4 rfl rfl λw5 hs5 hm5=>xl rfl<|Z9 (k:=4) hm5 rfl rfl λw6 hs6 hm6=>xl rfl<|Z9 (k:=5) hm6 rfl rfl λw7 hs7 hm7=>xl rfl<|Z9 (k:=6) hm7 rfl rfl λw8 hs8 hm8 =>
  Qb<|Qf ?_
 have hb15':w1.heap.size≤b15:=hb15
 have hs18:Step [] w1 w8:=(((((hs2.then1 hs3 hb15).then1 hs4 hb15).then1 hs5 hb15).then1 hs6 hb15).then1 hs7 hb15).then1 hs8 hb15
 refine Qc<|Qb<|Qb<|x (zu (k:=(2:Int)) hm8 rfl rfl rfl)<|Qb<|x (Qj rfl rfl)<|x (Qj rfl rfl)<|x Qe<|Qf<|Qg<|Qc<|Qb<|x (Zp rfl)<|xe ?_
 refine Yr rfl ?_
 refine Qi ?_
 have hs08:=hs1.trans hs18
 refine Qc<|Qb<|Qb<|xl rfl<|xf<|(QdI QbN (h.ext hs08)).mono ?_
 rintro r9 w9 ⟨hs9,ho9⟩
 refine x Qe<|Qf<|Qk ⟨[_,_],⟨rfl,rfl,trivial⟩,hs08.trans hs9,_,by rw[h14];rfl,?_⟩
 rw[if_pos h14];exact Zb ho9 hs08.size
theorem Qad (n:Int) (w:World):QG prog 218 [.int .i64 n] w λr w'=>r=.bool (grt n)∧w'=w:=by
 refine QG.of_W func218 rfl ntmps218 results218 (by simp) ?_
 refine Qc<|Qf<|QW (α:=Bool) [(2,8)] (λz=>[(2,.bool z)]) (λz w'=>w'=w∧z=grt n) (by rfl) ?_ ?_
 ·refine Qx<|Qb<|xb (QB rfl rfl) (λh4=>?_) (λh4=>?_)
  ·refine Qb<|xs rfl<|xs rfl<|x (Qp rfl)<|Qf ?_
   exact ⟨_,⟨rfl,trivial⟩,rfl,by unfold grt;rw[decide_eq_true h4];rfl⟩
  refine Qb<|Qb<|x (ZL rfl rfl)<|x (Qp rfl)<|Qf ?_
  exact ⟨_,⟨rfl,trivial⟩,rfl,by unfold grt;rw[decide_eq_false h4];rfl⟩
 rintro z g w1 ⟨rfl,rfl⟩
 exact Qk ⟨[_],⟨rfl,trivial⟩,rfl,rfl⟩
theorem QbB {sz:LI}{ls:List (Int×Int)}{k:Nat}(h:k<ls.length):Vu sz (pv (ls.map (·.1)) k) (ls.drop k)=if (ls[k]'h).1<0∨(sz.length:Int)≤(ls[k]'h).1 then 2 else if yL (pv (ls.map (·.1)) k) (ls[k]'h).1=true then 5 else if (ls[k]'h).2<0∨cget sz (ls[k]'h).1.toNat≤(ls[k]'h).2 then 2 else Vu sz (pv (ls.map (·.1)) (k+1)) (ls.drop (k+1)):=by
 rw[Q6 h,Jm (by simpa using h),List.getElem_map];rfl
theorem Vx {w:World}{vs vx vk vl:Value}{sz:LI}{ls:List (Int×Int)}{nm:ByteArray}(hS:QL [] w.heap vs sz) (hl:P2s [] w.heap vl ls) :
  QG prog 184 [.agg #[vs,vx,vk],.agg #[.string nm,vl]] w λr w'=>r=.int .i64 (JC sz ls)∧Step [] w w':=by
 have hle:=hl.le
 have hsl:=hS.le
 refine QG.of_W func184 rfl ntmps184 results184 (by simp) ?_
 refine Qc<|xl rfl<|QQ (us:=[vs,vx,vk]) rfl λb2 w1 hs1 hb2 hB2=>xl rfl<|QQ (us:=[.string nm,vl]) rfl λb3 w2 hs2 hb3 hB3=>Qf ?_
 have hW2:=hs1.trans hs2
 replace hB2:=hB2.ext hs2
 refine Qg<|Qc<|x (Qa rfl)<|x (Qd hB3 rfl rfl)<|x (Qs (hl.ext hW2) rfl)<|x (Zn rfl rfl)<|xe ?_
 refine Q3 rfl (λh10=>?_) (λh10=>?_)
 ·refine Qc<|Qf ?_
  exact Qk ⟨[_],⟨rfl,trivial⟩,by unfold JC;rw[if_pos (by have h11:(ls.length:Int)=0:=h10;omega)];rfl,hW2⟩
 have hne:ls.length≠0:=by have h11:¬(ls.length:Int)=0:=h10;omega
 have hun:JC sz ls=Vu sz none ls:=by unfold JC;rw[if_neg hne]
 rw[hun]
 refine Qi<|Qg<|Qc<|x (Qa rfl)<|x (Qd hB3 rfl rfl)<|x (Qs (hl.ext hW2) rfl)<|Qb<|xe ?_
 refine Qh<|QA (α:=Nat) [(4,6),(14,61)] (λz=>[(14,.int .i64 z)]) (λz w'=>z≤ls.length∧Step [] w2 w'∧Vu sz (pv (ls.map (·.1)) z) (ls.drop z)=Vu sz none ls) (λz=>ls.length - z) (by rfl) 0 ⟨rfl,trivial⟩
  ⟨Nat.zero_le _,Step.refl _ _,rfl⟩ ?_
 rintro k g w3 ⟨hk,hs3,hck⟩
 have hW3:=hW2.trans hs3
 have hB23:=hB2.ext hs3
 have hB33:=hB3.ext hs3
 have hl3:=hl.ext hW3
 have hS3:=hS.ext hW3
 refine Qc<|x (QB rfl rfl)<|xe ?_
 refine Qg<|QD rfl (λh15=>?_) (λh15=>?_)
 ·refine Qz ?_
  have hke:ls.length≤k:=by have h16:¬(k:Int)<(ls.length:Int):=h15;omega
  rw[List.drop_of_length_le hke] at hck
  refine Qc<|Qf ?_
  exact Qk ⟨[_],⟨rfl,trivial⟩,by rw[←hck];rfl,hW3⟩
 have hlt:k<ls.length:=by have h16:(k:Int)<(ls.length:Int):=h15;omega
 rw[QbB hlt] at hck
 refine Qi<|Qg<|Qh<|Qc<|Qb<|xig X1 hl3 rfl rfl hlt λa17 h17=>?_
 refine Zc (ls[k]'hlt) λe he=>?_
 rw[he] at h17 hck
 refine x (QJ h17 rfl rfl)<|xl rfl<|Qr (us:=[.int .i64 0,.int .i64 0]) rfl λb6 w4 hs4 hb6 hB6=>x Qe<|xl rfl<|Ql (us:=Q9 e) hB6 rfl rfl rfl rfl ⟨rfl,rfl,trivial⟩ λw5 hs5 hB6=>xe ?_
 have hs35:Step [] w3 w5:=hs4.then1 hs5 hb6
 have hW5:=hs3.trans hs35
 refine Qh<|QW (α:=Bool) [(19,30)] (λz=>[(19,.bool z)]) (λz w'=>w'=w5∧z=decide (e.1<0∨(sz.length:Int)≤e.1)) (by rfl) ?_ ?_
 ·refine Qx<|x (Qa rfl)<|x (Qd hB6 rfl rfl)<|xb (QB rfl rfl) (λh22=>?_) (λh22=>?_)
  ·refine Qb<|xs rfl<|xs rfl<|xs rfl<|xs rfl<|xs rfl<|xs rfl<|x (Qp rfl)<|Qf ?_
   exact ⟨_,⟨rfl,trivial⟩,rfl,by first | exact bT (by omega) | exact bF (by omega) | exact bD (by omega)⟩
  refine Qb<|x (Qa rfl)<|x (Qd hB6 rfl rfl)<|x (Qa rfl)<|x (Qd (hB23.ext hs35) rfl rfl)<|x (Qs (hS3.ext hs35) rfl)<|x (ZM rfl rfl) <|
   x (Qp rfl)<|Qf ?_
  exact ⟨_,⟨rfl,trivial⟩,rfl,by first | exact bT (by omega) | exact bF (by omega) | exact bD (by omega)⟩
 rintro z g w6 ⟨rfl,rfl⟩
 refine Q3 rfl (λh19=>?_) (λh19=>?_)
 ·rw[if_pos h19] at hck
  refine Qc<|Qf ?_
  exact Qk ⟨[_],⟨rfl,trivial⟩,by rw[←hck];rfl,hW2.trans hW5⟩
 rw[if_neg h19] at hck
 have he0:e.1=((e.1.toNat:Nat):Int):=by omega
 have hes:e.1.toNat<sz.length:=by omega
 refine QW (α:=Bool) [(31,45)] (λz=>[(31,.bool z)]) (λz w'=>Step [] w6 w'∧z=yL (pv (ls.map (·.1)) k) e.1) (by rfl) ?_ ?_
 ·refine QT (Step [] w6) [(0,true),(1,true),(2,true),(3,true),(4,true),(5,true),(6,true),(7,true),(8,true),(9,true),(10,true),(11,true),(12,true),(13,true),(14,true)] mixed (by rfl) (by kernel_rfl) (Step.drew _ _) ?_
  refine p (λ_=>Qo)<|pb (λ_=>ZL rfl rfl) (λh33=>?_) (λh33=>?_)
  ·have hk0:k≠0:=by have h34:(0:Int)<(k:Int):=h33;omega
   have hk1:((k:Int) - 1)=((k - 1:Nat):Int):=by omega
   have hkl:k - 1<ls.length:=by omega
   refine p (λ_=>Qo)<|p (λ_=>Qa rfl)<|pq (λ_ hc=>Qd (hB6.ext hc) rfl rfl)<|p (λ_=>Qa rfl)<|pq (λ_ hc=>Qd ((hB33.ext hs35).ext hc) rfl rfl) <|
    p (λ_=>Qo)<|p (λ_=>X6 rfl rfl ⟨by omega,by omega⟩)<|Lg.pig (g:=Q9) (i:=k - 1) rfl X1 (hl3.ext hs35) rfl (congrArg (Value.int .i64) hk1) hkl λa41 h41=>p (λ_=>Zd rfl) <|
    pq (λ_ hc=>Qw ((h41.fld 0 _ rfl).ext hc) rfl)<|p (λ_=>Jy rfl rfl)<|p (λ_=>Qp rfl)<|p (λ_=>Qe)<|pe ?_
   refine ⟨_,⟨rfl,trivial⟩,Step.drew _ _,?_⟩
   have:pv (ls.map (·.1)) k=some (ls[k - 1]'hkl).1:=by simp[pv,hk0,hkl]
   rw[this];rfl
  have hk0:k=0:=by have h34:¬(0:Int)<(k:Int):=h33;omega
  refine p (λ_=>Qo)<|ps<|ps<|ps<|ps<|ps<|ps<|ps<|ps<|ps<|ps<|p (λ_=>Qp rfl)<|p (λ_=>Qe)<|pe ?_
  exact ⟨false,⟨rfl,trivial⟩,Step.drew _ _,by simp[pv,hk0,yL]⟩
 rintro z g w7 ⟨hs7,rfl⟩
 have hW7:=hW5.trans hs7
 refine QY rfl (λh31=>?_) (λh31=>?_)
 ·rw[if_pos h31] at hck
  refine Qc<|Qf ?_
  exact Qk ⟨[_],⟨rfl,trivial⟩,by rw[←hck];rfl,hW2.trans hW7⟩
 rw[if_neg (by simp[h31])] at hck
 have hB67:=hB6.ext hs7
 refine QW (α:=Bool) [(46,60)] (λz=>[(46,.bool z)]) (λz w'=>Step [] w7 w'∧z=decide (e.2<0∨cget sz e.1.toNat≤e.2)) (by rfl) ?_ ?_
 ·refine QT (Step [] w7) [(0,true),(1,true),(2,true),(3,true),(4,true),(5,true),(6,true),(7,true),(8,true),(9,true),(10,true),(11,true),(12,true),(13,true),(14,true)] mixed (by rfl) (by kernel_rfl) (Step.drew _ _) ?_
  refine p (λ_=>Qa rfl)<|pq (λ_ hc=>Qd (hB67.ext hc) rfl rfl)<|pb (λ_=>QB rfl rfl) (λh49=>?_) (λh49=>?_)
  ·refine p (λ_=>Qo)<|ps<|ps<|ps<|ps<|ps<|ps<|ps<|ps<|ps<|p (λ_=>Qp rfl)<|p (λ_=>Qe)<|pe ?_
   exact ⟨_,⟨rfl,trivial⟩,Step.drew _ _,by first | exact bT (by omega) | exact bF (by omega) | exact bD (by omega)⟩
  refine p (λ_=>Qo)<|p (λ_=>Qa rfl)<|pq (λ_ hc=>Qd (hB67.ext hc) rfl rfl)<|p (λ_=>Qa rfl)<|pq (λ_ hc=>Qd (((hB23.ext hs35).ext hs7).ext hc) rfl rfl) <|
   p (λ_=>Qa rfl)<|pq (λ_ hc=>Qd (hB67.ext hc) rfl rfl)<|pic (i:=e.1.toNat) rfl ((hS3.ext hs35).ext hs7) rfl (congrArg (Value.int .i64) he0) hes λa57 h57=>pq (λ_ hc=>Qw (h57.ext hc) rfl) <|
   p (λ_=>ZM rfl rfl)<|p (λ_=>Qp rfl)<|p (λ_=>Qe)<|pe ?_
  exact ⟨_,⟨rfl,trivial⟩,Step.drew _ _,by first | exact bT (by omega) | exact bF (by omega) | exact bD (by omega)⟩
 rintro z g w8 ⟨hs8,rfl⟩
 have hW8:=hW7.trans hs8
 refine Q3 rfl (λh46=>?_) (λh46=>?_)
 ·rw[if_pos h46] at hck
  refine Qc<|Qf ?_
  exact Qk ⟨[_],⟨rfl,trivial⟩,by rw[←hck];rfl,hW2.trans hW8⟩
 rw[if_neg h46] at hck
 refine Qi<|Qx<|x (Qy rfl rfl ⟨by omega,by omega⟩)<|Qb<|xe ?_
 exact ⟨k+1,by omega,⟨rfl,trivial⟩,hlt,hW8,hck⟩
theorem Qby {sz:LI}{ls:List (Int×Int)}{k:Nat}(h:k<ls.length):JA sz (pv (ls.map (·.1)) k) (ls.drop k)=if (ls[k]'h).1<0∨(sz.length:Int)≤(ls[k]'h).1 then 2 else if yL (pv (ls.map (·.1)) k) (ls[k]'h).1=true then 5 else if (ls[k]'h).2=0∨grt (ls[k]'h).2=true then 2 else JA sz (pv (ls.map (·.1)) (k+1)) (ls.drop (k+1)):=by
 rw[Q6 h,Jm (by simpa using h),List.getElem_map];rfl
theorem KP {w:World}{vs vx vk vl:Value}{sz:LI}{ls:List (Int×Int)}{nm:ByteArray}{bd:Int}(hS:QL [] w.heap vs sz) (hl:P2s [] w.heap vl ls) :
  QG prog 186 [.agg #[vs,vx,vk],.agg #[.string nm,vl,.int .i64 bd]] w λr w'=>r=.int .i64 (JD sz ⟨nm,ls,bd⟩)∧Step [] w w':=by
 have hle:=hl.le
 have hsl:=hS.le
 refine QG.of_W func186 rfl ntmps186 results186 (by simp) ?_
 refine Qc<|xl rfl<|QQ (us:=[vs,vx,vk]) rfl λb2 w1 hs1 hb2 hB2=>xl rfl<|QQ (us:=[.string nm,vl,.int .i64 bd]) rfl λb3 w2 hs2 hb3 hB3=>Qf ?_
 have hW2:=hs1.trans hs2
 replace hB2:=hB2.ext hs2
 refine Qg<|Qc<|x (Qa rfl)<|x (Qd hB3 rfl rfl)<|x (Qs (hl.ext hW2) rfl)<|x (Zn rfl rfl)<|xe ?_
 refine Q3 rfl (λh10=>?_) (λh10=>?_)
 ·refine Qc<|Qf ?_
  exact Qk ⟨[_],⟨rfl,trivial⟩,by unfold JD;rw[if_pos (by have h11:(ls.length:Int)=0:=h10;show ls.length=0;omega)];rfl,hW2⟩
 have hne:ls.length≠0:=by have h11:¬(ls.length:Int)=0:=h10;omega
 have hun:JD sz ⟨nm,ls,bd⟩=if JA sz none ls≠0 then JA sz none ls else if grt bd=true then 2 else 0:=by unfold JD;rw[if_neg hne]
 rw[hun]
 refine Qi<|Qg<|Qc<|x (Qa rfl)<|x (Qd hB3 rfl rfl)<|x (Qs (hl.ext hW2) rfl)<|Qb<|xe ?_
 refine Qh<|QA (α:=Nat) [(4,6),(14,55)] (λz=>[(14,.int .i64 z)]) (λz w'=>z≤ls.length∧Step [] w2 w'∧JA sz (pv (ls.map (·.1)) z) (ls.drop z)=JA sz none ls) (λz=>ls.length - z) (by rfl) 0 ⟨rfl,trivial⟩
  ⟨Nat.zero_le _,Step.refl _ _,rfl⟩ ?_
 rintro k g w3 ⟨hk,hs3,hck⟩
 have hW3:=hW2.trans hs3
 have hB23:=hB2.ext hs3
 have hB33:=hB3.ext hs3
 have hl3:=hl.ext hW3
 have hS3:=hS.ext hW3
 refine Qc<|x (QB rfl rfl)<|xe ?_
 refine Qg<|QD rfl (λh15=>?_) (λh15=>?_)
 ·refine Qz ?_
  have hke:ls.length≤k:=by have h16:¬(k:Int)<(ls.length:Int):=h15;omega
  rw[List.drop_of_length_le hke] at hck
  have hck0:JA sz none ls=0:=hck.symm
  rw[hck0,if_neg (λh=>h rfl)]
  refine Qg<|Qc<|x (Qa rfl)<|x (Qd hB33 rfl rfl)<|xl rfl<|xf<|(Qad bd _).mono ?_
  rintro r4 w4 ⟨rfl,rfl⟩
  refine xe ?_
  refine QY rfl (λh58=>?_) (λh58=>?_)
  ·rw[if_pos h58]
   refine Qc<|Qf ?_
   exact Qk ⟨[_],⟨rfl,trivial⟩,rfl,hW3⟩
  rw[if_neg (by simp[h58])]
  refine Qi<|Qc<|Qf ?_
  exact Qk ⟨[_],⟨rfl,trivial⟩,rfl,hW3⟩
 have hlt:k<ls.length:=by have h16:(k:Int)<(ls.length:Int):=h15;omega
 rw[Qby hlt] at hck
 refine Qi<|Qg<|Qh<|Qc<|Qb<|xig X1 hl3 rfl rfl hlt λa17 h17=>?_
 refine Zc (ls[k]'hlt) λe he=>?_
 rw[he] at h17 hck
 refine x (QJ h17 rfl rfl)<|xl rfl<|Qr (us:=[.int .i64 0,.int .i64 0]) rfl λb6 w4 hs4 hb6 hB6=>x Qe<|xl rfl<|Ql (us:=Q9 e) hB6 rfl rfl rfl rfl ⟨rfl,rfl,trivial⟩ λw5 hs5 hB6=>xe ?_
 have hs35:Step [] w3 w5:=hs4.then1 hs5 hb6
 have hW5:=hs3.trans hs35
 refine Qh<|QW (α:=Bool) [(19,30)] (λz=>[(19,.bool z)]) (λz w'=>w'=w5∧z=decide (e.1<0∨(sz.length:Int)≤e.1)) (by rfl) ?_ ?_
 ·refine Qx<|x (Qa rfl)<|x (Qd hB6 rfl rfl)<|xb (QB rfl rfl) (λh22=>?_) (λh22=>?_)
  ·refine Qb<|xs rfl<|xs rfl<|xs rfl<|xs rfl<|xs rfl<|xs rfl<|x (Qp rfl)<|Qf ?_
   exact ⟨_,⟨rfl,trivial⟩,rfl,by first | exact bT (by omega) | exact bF (by omega) | exact bD (by omega)⟩
  refine Qb<|x (Qa rfl)<|x (Qd hB6 rfl rfl)<|x (Qa rfl)<|x (Qd (hB23.ext hs35) rfl rfl)<|x (Qs (hS3.ext hs35) rfl)<|x (ZM rfl rfl) <|
   x (Qp rfl)<|Qf ?_
  exact ⟨_,⟨rfl,trivial⟩,rfl,by first | exact bT (by omega) | exact bF (by omega) | exact bD (by omega)⟩
 rintro z g w6 ⟨rfl,rfl⟩
 refine Q3 rfl (λh19=>?_) (λh19=>?_)
 ·rw[if_pos h19] at hck
  refine Qc<|Qf ?_
  exact Qk ⟨[_],⟨rfl,trivial⟩,by rw[←hck,if_pos (by decide)];rfl,hW2.trans hW5⟩
 rw[if_neg h19] at hck
 have he0:e.1=((e.1.toNat:Nat):Int):=by omega
 have hes:e.1.toNat<sz.length:=by omega
 refine QW (α:=Bool) [(31,45)] (λz=>[(31,.bool z)]) (λz w'=>Step [] w6 w'∧z=yL (pv (ls.map (·.1)) k) e.1) (by rfl) ?_ ?_
 ·refine QT (Step [] w6) [(0,true),(1,true),(2,true),(3,true),(4,true),(5,true),(6,true),(7,true),(8,true),(9,true),(10,true),(11,true),(12,true),(13,true),(14,true)] mixed (by rfl) (by kernel_rfl) (Step.drew _ _) ?_
  refine p (λ_=>Qo)<|pb (λ_=>ZL rfl rfl) (λh33=>?_) (λh33=>?_)
  ·have hk0:k≠0:=by have h34:(0:Int)<(k:Int):=h33;omega
   have hk1:((k:Int) - 1)=((k - 1:Nat):Int):=by omega
   have hkl:k - 1<ls.length:=by omega
   refine p (λ_=>Qo)<|p (λ_=>Qa rfl)<|pq (λ_ hc=>Qd (hB6.ext hc) rfl rfl)<|p (λ_=>Qa rfl)<|pq (λ_ hc=>Qd ((hB33.ext hs35).ext hc) rfl rfl) <|
    p (λ_=>Qo)<|p (λ_=>X6 rfl rfl ⟨by omega,by omega⟩)<|Lg.pig (g:=Q9) (i:=k - 1) rfl X1 (hl3.ext hs35) rfl (congrArg (Value.int .i64) hk1) hkl λa41 h41=>p (λ_=>Zd rfl) <|
    pq (λ_ hc=>Qw ((h41.fld 0 _ rfl).ext hc) rfl)<|p (λ_=>Jy rfl rfl)<|p (λ_=>Qp rfl)<|p (λ_=>Qe)<|pe ?_
   refine ⟨_,⟨rfl,trivial⟩,Step.drew _ _,?_⟩
   have:pv (ls.map (·.1)) k=some (ls[k - 1]'hkl).1:=by simp[pv,hk0,hkl]
   rw[this];rfl
  have hk0:k=0:=by have h34:¬(0:Int)<(k:Int):=h33;omega
  refine p (λ_=>Qo)<|ps<|ps<|ps<|ps<|ps<|ps<|ps<|ps<|ps<|ps<|p (λ_=>Qp rfl)<|p (λ_=>Qe)<|pe ?_
  exact ⟨false,⟨rfl,trivial⟩,Step.drew _ _,by simp[pv,hk0,yL]⟩
 rintro z g w7 ⟨hs7,rfl⟩
 have hW7:=hW5.trans hs7
 refine QY rfl (λh31=>?_) (λh31=>?_)
 ·rw[if_pos h31] at hck
  refine Qc<|Qf ?_
  exact Qk ⟨[_],⟨rfl,trivial⟩,by rw[←hck,if_pos (by decide)];rfl,hW2.trans hW7⟩
 rw[if_neg (by simp[h31])] at hck
 have hB67:=hB6.ext hs7
 refine QW (α:=Bool) [(46,54)] (λz=>[(46,.bool z)]) (λz w'=>Step [] w7 w'∧z=decide (e.2=0∨grt e.2=true)) (by rfl) ?_ ?_
 ·refine Qx<|x (Qa rfl)<|x (Qd hB67 rfl rfl)<|xb (Zn rfl rfl) (λh49=>?_) (λh49=>?_)
  ·refine Qb<|xs rfl<|xs rfl<|xs rfl<|x (Qp rfl)<|Qf ?_
   exact ⟨_,⟨rfl,trivial⟩,Step.refl _ _,bT (.inl h49)⟩
  refine Qb<|x (Qa rfl)<|x (Qd hB67 rfl rfl)<|xl rfl<|xf<|(Qad e.2 _).mono ?_
  rintro r9 w9 ⟨rfl,rfl⟩
  refine x (Qp rfl)<|Qf<|⟨grt e.2,⟨rfl,trivial⟩,Step.refl _ _,?_⟩
  cases hg:grt e.2 with
  | true=>exact bT (.inr rfl)
  | false=>exact bF (λh=>by rcases h with h | h;exact h49 h;cases h)
 rintro z g w8 ⟨hs8,rfl⟩
 have hW8:=hW7.trans hs8
 refine Q3 rfl (λh46=>?_) (λh46=>?_)
 ·rw[if_pos h46] at hck
  refine Qc<|Qf ?_
  exact Qk ⟨[_],⟨rfl,trivial⟩,by rw[←hck,if_pos (by decide)];rfl,hW2.trans hW8⟩
 rw[if_neg h46] at hck
 refine Qi<|Qx<|x (Qy rfl rfl ⟨by omega,by omega⟩)<|Qb<|xe ?_
 exact ⟨k+1,by omega,⟨rfl,trivial⟩,hlt,hW8,hck⟩
end Go.Proofs.YtgmifemhkjdblaaGreatDoor
namespace Go.Lg
open Go.RowKit
def QaY:Fr→LN→LV→Fr
 | f,p::ps,v::vs=>QaY (upd f p v) ps vs
 | f,_,_=>f
theorem VJ {n:Nat}{ds:LN}:∀(ps:LN) (vs:LV) (a:Act) (f:Fr),Ys n ds a f→(∀p∈ps,p<n) →
  Ys n ds { tmps:=(ps.zip vs).foldl (λt (x:Nat×Value)=>t.setIfInBounds x.1 x.2) a.tmps,defers:=a.defers } (QaY f ps vs)
 | [],_,a,f,h,_=>by cases h;exact ⟨by assumption,by assumption,by assumption⟩
 | p::ps,[],a,f,h,_=>by cases h;exact ⟨by assumption,by assumption,by assumption⟩
 | p::ps,v::vs,a,f,h,hp=>by
  have h2:=h.put (dst:=some p) (λd e=>by cases e;exact hp p List.mem_cons_self) v
  exact VJ ps vs _ _ h2 (λq hq=>hp q (List.mem_cons_of_mem _ hq))
def rdE {α:Type}(B:Nat) (L:LN) (I:List α→World→Prop) (X:Exit→List α→World→Prop) (xs:List α) (W:World):Exit→LN→Fr→World→Prop
 | .normal,_,_,W'=>Xp B L W W'∧I xs W'
 | .ret,_,_,W'=>Xp B L W W'∧X .ret xs W'
 | .exit i,_,_,W'=>Xp B L W W'∧X (.exit i) xs W'
 | _,_,_,_=>False
theorem QgH {α:Type}{m:Nat}{P:Program}{n:Nat}{Q:Exit→LN→Fr→World→Prop}{ds:LN}{f:Fr}{w:World}{g:Operand}{ps:LN}{assign body:Code}(L:LN) (h1:1≤m)
  {gf:Nat} {fn:Func} [hF:Fu P gf fn] {capt:LV} (hg:ev f g=.func (.func gf) #[] capt.toArray) {encs:α→LV} {S Sp:List α→Prop} {N:Nat} (hp:∀p∈ps,p<n) (hlen:∀x,(encs x).length=ps.length)
  (hseq:SeqStopsK (fen none) (m - 1) P gf capt.toArray (λx=>(encs x).toArray) (Lw w.heap.size L) S Sp N w)
  (I:List α→World→Prop) (hI:∀s,ZX w.heap.size (I s)) (X:Exit→List α→World→Prop) (hX:∀e s,ZX w.heap.size (X e s)) (h0:I [] w) (A:Fr→α→Fr→World→Prop) (hA:∀x f',ZX w.heap.size (A f x f'))
  (hassign:∀l pre x W,I pre W→WG (some l) (m - 1 - 1) P n assign (QaZ (λds' f' W'=>ds'=[]∧Xp w.heap.size L W W'∧I pre W'∧A f x f' W') (λ_ _ _ _=>False)) [] (QaY f ps (encs x)) W)
  (hbody:∀l pre x f' W,I pre W→A f x f' W→pre.length<N→WG (some l) (m - 1 - 1) P n body (rdE w.heap.size L I X (pre++[x]) W) [] f' W)
  (hdone:∀D xs W,w.heap.size≤D→S xs→I xs W→W.heap[D]?=some (.deferred (some []))→Q .normal (D::ds) f W)
  (hstop:∀D e pre W,w.heap.size≤D→Sp pre→X e pre W→W.heap[D]?=some (.deferred (some []))→(e=.ret∨∃i,e=.exit i)→Q e (D::ds) f W) :
  WG none m P n (.rangeFunc g ps.toArray assign body) Q ds f w:=by
 unfold WG at hassign hbody ⊢
 intro a ha
 have eg:∀args w,(callFunc gf args).run P w=.ok (.enter gf args) w:=by
  intro args w
  have h1:¬fn.name = "runtime.NumGoroutine" := by simpa using hF.nm
  have h2:¬fn.body=none:=by have:=hF.b;intro e;rw[e] at this;cases this
  simp[callFunc,hF.f,h1,h2]
 have keep:∀{W W':World},Xp w.heap.size L W W'→KeepsFrom w.heap.size W W':=λh=>⟨h.lw.size,λk o _ hk ho=>h.other k o hk ho⟩
 refine wpIn_rangeFunc_ownH (F:=fen none) rfl h1 (gf:=gf) (lb:=capt.toArray) (by rw[ha.eval];exact hg) trivial eg hseq (λh k=>h.trans k)
  (λW l o o' hl ho _ _=>⟨rfl,rfl,rfl,by simp,λk hk _=>World.putObj_heap_other (by omega)⟩) (Below.refl _ _) (λx=>by simp[hlen x]) I
  (λc pre W=>match c with | .ret=>X .ret pre W | .exit i=>X (.exit i) pre W | _=>False) (ZX.own hI) (λc=>ZX.own λs=>?_) h0
  (λx a' W=>∃f',Ys n [] a' f'∧A f x f' W) (λx a'=>ZX.own λ_=>ZX.ex λf'=>ZX.and (ZX.pure _) (hA x f')) ?_ ?_ ?_ ?_
 ·cases c <;> first | exact hX _ s | exact ZX.pure _
 ·intro l pre x W K hi hK
  have hr:Ys n [] { tmps:=(ps.toArray.zip (encs x).toArray).foldl (λt (p,v)=>t.setIfInBounds p v) a.tmps,defers:=[] } (QaY f ps (encs x)):=by
   have h2:Ys n [] { a with defers:=[] } f:=⟨ha.size,rfl,ha.get⟩
   have h3:=VJ ps (encs x) _ _ h2 hp
   have e:(ps.toArray.zip (encs x).toArray).foldl (λt (p,v)=>t.setIfInBounds p v) a.tmps=(ps.zip (encs x)).foldl (λt (x:Nat×Value)=>t.setIfInBounds x.1 x.2) a.tmps:=by simp
   rw[e];exact h3
  refine wpIn_mono (hassign l pre x W hi _ hr) ?_
  rintro e a' W' ⟨ds',f',h2,_,h3⟩
  cases e with
  | normal=>obtain ⟨rfl,h4,h5,h6⟩:=h3;exact hK a' W' (keep h4) h4.lw h5 ⟨f',h2,h6⟩
  | exit id=>exact h3.elim
  | goto l=>exact h3.elim
  | ret=>exact h3.elim
  | panic ch=>exact h3.elim
  | outgrown=>exact h3.elim
 ·rintro l pre x a' W _ _ hi ⟨f',h2,h3⟩ hlt
  refine wpIn_mono (hbody l pre x f' W hi h3 hlt a' h2) ?_
  rintro e a'' W' ⟨ds',f'',h4,_,h5⟩
  cases e with
  | normal=>exact ⟨keep h5.1,h5.1.lw,h5.2⟩
  | exit id=>exact ⟨keep h5.1,h5.2⟩
  | goto l=>exact h5.elim
  | ret=>exact ⟨keep h5.1,h5.2⟩
  | panic ch=>exact h5.elim
  | outgrown=>exact h5.elim
 ·intro D xs W hD hS hi hd
  exact ⟨D::ds,f,⟨ha.size,by rw[show coll (D::ds)={ target:=.collected D,args:=#[] }::coll ds from rfl,ha.defers],ha.get⟩,λ_ _=>rfl,hdone D xs W hD hS hi hd⟩
 ·intro D c pre W hD hS hx hd
  have hrel:Ys n (D::ds) { a with defers:={ target:=.collected D,args:=#[] }::a.defers } f:=⟨ha.size,by rw[show coll (D::ds)={ target:=.collected D,args:=#[] }::coll ds from rfl,ha.defers],ha.get⟩
  cases c with
  | ret=>exact wpIn_ret ⟨_,f,hrel,λ_ _=>rfl,hstop D .ret pre W hD hS hx hd (.inl rfl)⟩
  | exit i=>exact wpIn_exit ⟨_,f,hrel,λ_ _=>rfl,hstop D (.exit i) pre W hD hS hx hd (.inr ⟨i,rfl⟩)⟩
  | _=>exact hx.elim
end Go.Lg
namespace Go.Proofs.YtgmifemhkjdblaaGreatDoor
open Tryz
open Go.Lg
theorem QfJ {α:Type}(g:α→LV) (sz:Nat) (hg:∀x,(g x).length=sz):∀(l:List α) (k:Nat),(l.flatMap g).take (k*sz)=(l.take k).flatMap g
 | [],k=>by simp
 | e::l,0=>by simp
 | e::l,k+1=>by
  simp only[List.flatMap_cons,List.take_succ_cons,Nat.add_mul,Nat.one_mul]
  rw[Nat.add_comm,List.take_append,hg,show sz+k*sz - sz=k*sz by omega,QfJ g sz hg l k,List.take_of_length_le (by rw[hg];omega)]
theorem Qco {gf:Nat}{fn:Func}[Fu prog gf fn] {capt:LV}{nms:List ByteArray}{s:ByteArray}(hnb:Uj s) {w:World}{N:Nat}
  (hseq:∀(w':World) (L:LN),Step [] w w'→(∀b∈L,w.heap.size≤b)→SeqStopsK (fen none) 9 prog gf capt.toArray (λx:{ x:ByteArray // x∈nms }=>[Value.string x.1].toArray) (Lw w'.heap.size L) (λys=>ys.map (·.1)=nms) (λ_=>True) N w') :
  QG prog 183 [.string s,.func (.func gf) #[] capt.toArray] w λr w'=>r=.int .i64 (VU nms s)∧Step [] w w':=by
 refine QG.of_G 10 func183 rfl ntmps183 results183 (by simp) ?_
 refine QZ<|QI (by rfl) (by rfl) ?_
 refine xl rfl<|QQ (us:=[.string s]) rfl λb2 w1 hs1 hb2 hB2=>xl rfl<|Qr (us:=[.int .i64 0]) rfl λb4 w2 hs2 hb4 hB4=>xe ?_
 have hW2:=hs1.trans hs2
 have hz1:=hs1.size
 have hl4:=hB4.lt
 have hB22:=hB2.ext hs2
 have hl2:=hB2.lt
 refine QZ<|QZ<|QI (by rfl) (by rfl) ?_
 refine x (Qd hB22 rfl rfl)<|xl rfl<|xf<|(V2 s hnb _).mono ?_
 rintro r3 w3 ⟨rfl,rfl⟩
 refine x (Zp rfl)<|xe ?_
 refine J5 rfl (λh8=>?_) (λh8=>?_)
 ·have hn:KL s=false:=by simpa using h8
  have hr:VU nms s=7:=by unfold VU;rw[if_pos hn]
  refine QZ<|QI (by rfl) (by rfl) ?_
  refine xl rfl<|QF (j:=0) (u:=.int .i64 7) hB4 rfl rfl (by decide) rfl λw4 hs4 hB4'=>xe ?_
  refine J4 ⟨λ_ h=>(by cases h),List.nodup_nil,[.int .i64 7],λW' hW'=>⟨⟨⟨_,rfl,Yz (At.one ((hB4'.ext hW').at (L:=[]) (by simp)))⟩,trivial⟩,by rw[hr];rfl,(hW2.then1 hs4 (by omega)).trans hW'⟩⟩
 have hn:¬KL s=false:=by simpa using h8
 refine Z3 ?_
 refine QZ<|QZ<|QI (by rfl) (by rfl) ?_
 refine Qb<|xe ?_
 refine ZJ<|QgH (α:={ x:ByteArray // x∈nms }) (ps:=[10]) [b4] (by omega) (capt:=capt) rfl (encs:=λx=>[.string x.1]) (by simp) (λ_=>rfl)
  (hseq w3 [b4] hW2 (λb hb=>by simp at hb;omega))
  (λpre W=>Step [b4] w3 W∧QS W.heap b2 9 [.string s]∧QS W.heap b4 41 [.int .i64 0]∧∀x∈pre,x.1≠s)
  (λpre=>(ZX.step (Nat.le_refl _)).and (ZX.blk.and (ZX.blk.and (ZX.pure _))))
  (λe pre W=>e=.ret∧Step [b4] w3 W∧QS W.heap b4 41 [.int .i64 8]∧s∈nms)
  (λe pre=>(ZX.pure _).and ((ZX.step (Nat.le_refl _)).and (ZX.blk.and (ZX.pure _))))
  ⟨Step.refl _ _,hB22,hB4,λx hx=>by cases hx⟩
  (λf x f' W=>f'=upd (QaY f [10] [.string x.1]) 5 (.string x.1)) (λx f'=>ZX.pure _) ?_ ?_ ?_ ?_
 ·rintro l pre x W ⟨h1,h2,h3,h4⟩
  refine QI (by rfl) (by rfl) ?_
  refine Lg.Qf ?_
  exact ⟨rfl,Xp.refl _ _ _,⟨h1,h2,h3,h4⟩,rfl⟩
 ·rintro l pre x f' W ⟨h1,h2,h3,h4⟩ rfl _
  refine ZJ<|QZ<|QI (by rfl) (by rfl) ?_
  refine Lg.Qb<|Lg.x (Qd h2 rfl rfl)<|Lg.x (yw rfl rfl)<|xe ?_
  refine Qkl rfl (λh13=>?_) (λh13=>?_)
  ·refine QZ<|QI (by rfl) (by rfl) ?_
   refine xl rfl<|QF (j:=0) (u:=.int .i64 8) h3 rfl rfl (by decide) rfl λw4 hs4 hB4'=>xe ?_
   refine J4 ?_
   exact ⟨Xp.blk hs4 h1.size h3 (.inl (by simp)),rfl,h1.trans' hs4,hB4',by rw[←h13];exact x.2⟩
  ·refine Z3 ?_
   refine ⟨Xp.refl _ _ _,h1,h2,h3,λy hy=>?_⟩
   rcases List.mem_append.1 hy with hy | hy
   ·exact h4 y hy
   ·simp only[List.mem_singleton] at hy;subst hy;exact h13
 ·rintro D xs W hD hxs ⟨h1,h2,h3,h4⟩ hdD
  have hr:VU nms s=0:=by
   unfold VU
   rw[if_neg hn,if_neg]
   intro hm
   rw[←hxs] at hm
   obtain ⟨y,hy,e⟩:=List.mem_map.1 hm
   exact h4 y hy e
  refine QZ<|QI (by rfl) (by rfl) ?_
  refine xl rfl<|QF (j:=0) (u:=.int .i64 0) h3 rfl rfl (by decide) rfl λw4 hs4 hB4'=>xe ?_
  have hne:D≠b4:=by omega
  have hD4:w4.heap[D]?=some (.deferred (some [])):=by rw[hs4.block D (Array.getElem?_eq_some_iff.1 hdD).1 (by simpa using hne)];exact hdD
  refine J4 ⟨λE hE=>by simp only[List.mem_singleton] at hE;subst hE;exact hD4,by simp,[.int .i64 0],λW' hW'=>?_⟩
  refine ⟨⟨⟨_,rfl,Yz (At.one ((hB4'.step hW' (by simpa using hne.symm)).at (L:=[]) (by simp)))⟩,trivial⟩,by rw[hr];rfl,?_⟩
  exact ((hW2.then h1 (λb hb=>.inr (by simp at hb;omega))).then1 hs4 (by omega)).then hW' (λb hb=>.inr (by simp at hb;have:=hW2.size;omega))
 ·rintro D e pre W hD _ ⟨rfl,h1,h3,h4⟩ hdD _
  have hr:VU nms s=8:=by unfold VU;rw[if_neg hn,if_pos h4]
  have hne:D≠b4:=by omega
  refine ⟨λE hE=>by simp only[List.mem_singleton] at hE;subst hE;exact hdD,by simp,[.int .i64 8],λW' hW'=>?_⟩
  refine ⟨⟨⟨_,rfl,Yz (At.one ((h3.step hW' (by simpa using hne.symm)).at (L:=[]) (by simp)))⟩,trivial⟩,by rw[hr];rfl,?_⟩
  exact (hW2.then h1 (λb hb=>.inr (by simp at hb;omega))).then hW' (λb hb=>.inr (by simp at hb;have:=hW2.size;omega))
end Go.Proofs.YtgmifemhkjdblaaGreatDoor
namespace Go.Lg
theorem XI.pre3 {P:Program}{m:Nat}{ops:List Oper}{K:Fr→World→Prop}{o1 o2 o3:Oper}{l2:List Oper}{f:Fr}{w:World}(h:XL P ops (λf w=>XI P m ops K l2 f w) [o1,o2,o3] f w):XI P m ops K (o1::o2::o3::l2) f w:=XI.pre [o1,o2,o3] f w h
end Go.Lg
namespace Go.Proofs.YtgmifemhkjdblaaGreatDoor
open Tryz
open Go.Lg
theorem QfW {L:LN}{w:World}{b1 b2 i m:Nat}{vs vx vk:Value}{qs:List XV}{nms:List ByteArray}(hB1:QS w.heap b1 252 [vs,vx,vk]) (hB2:QS w.heap b2 3 [.int .i64 i]) (hX:Ux L w.heap vx qs) (hi:i≤qs.length) (hn:nms=(qs.take i).map (·.nm)) :
  SeqStopsK (fen none) m prog 182 [.pointer (some ⟨b1,0,none⟩),.pointer (some ⟨b2,0,none⟩)].toArray (λx:{ x:ByteArray // x∈nms }=>[Value.string x.1].toArray) (Lw w.heap.size L)
   (λys=>ys.map (·.1)=nms) (λ_=>True) (nms.length+1) w:=by
 intro l J Jx W hbel hJ hJx hY h0
 have hwW:Step [] w W:=Step.of_below hbel
 have ab:∀{ys:List { x:ByteArray // x∈nms }} {W1 W2:World},J ys W1→Step [] W1 W2→J ys W2:=λ{ys W1 W2} hj hst=>hJ ys W1 W2 none hj ⟨hst.os,hst.tape,hst.output,hst.size,λk hk _=>hst.block k hk (by simp)⟩ (λr e=>by cases e)
 have hle:=hX.arr.le
 have hnl:nms.length=i:=by rw[hn];simp;omega
 have key:QG prog 182 [.func (.yield l) #[] #[],.pointer (some ⟨b1,0,none⟩),.pointer (some ⟨b2,0,none⟩)] W (λ_ W'=>(∃ys,ys.map (·.1)=nms∧J ys W')∨(∃pre,True∧Jx pre W')):=by
  refine QG.of_G m func182 rfl ntmps182 results182 (by simp) ?_
  have hB1':=hB1.ext hwW
  have hB2':=hB2.ext hwW
  refine QZ<|QI (by rfl) (by rfl) ?_
  refine x (Qa rfl)<|x (Qd hB1' rfl rfl)<|x (Qd hB2' rfl rfl)<|QkH hX.arr rfl rfl hi λv9 hA9=>x (Qs hA9 rfl)<|Qb<|xe ?_
  have hel:(qs.take i).length=i:=by simp;omega
  have hS:Zw L w.heap v9 (qs.take i).length 2 ((qs.take i).flatMap Zy):=by
   rw[hel,←QfJ Zy 2 JL];exact hA9
  refine ZJ<|KU (α:=Nat×List { x:ByteArray // x∈nms }) [(5,5),(11,20)] (λz=>[(11,.int .i64 z.1)]) (λz ds W'=>ds=[]∧z.1≤i∧Step L w W'∧z.2.map (·.1)=nms.take z.1∧J z.2 W') (λz=>i - z.1) (by rfl) (0,[]) ⟨rfl,trivial⟩
   ⟨rfl,Nat.zero_le _,hwW.any,rfl,h0⟩ ?_
  rintro ⟨k,ys⟩ g ds w1 ⟨rfl,hk,hs1,hys,hJ1⟩
  simp only[] at hk hys hJ1
  refine QZ<|QI (by rfl) (by rfl) ?_
  refine x (QB rfl rfl)<|xe ?_
  refine QZ<|qM rfl (λh12=>?_) (λh12=>?_)
  ·refine Jv ?_
   have hke:i≤k:=by have h13:¬(k:Int)<(i:Int):=h12;omega
   rw[List.take_of_length_le (by omega)] at hys
   exact ⟨λ_ h=>(by cases h),List.nodup_nil,[],λW' hW'=>⟨trivial,.inl ⟨ys,hys,ab hJ1 hW'⟩⟩⟩
  refine Z3 ?_
  have hlt:k<i:=by have h13:(k:Int)<(i:Int):=h12;omega
  have hkq:k<(qs.take i).length:=by omega
  have hkn:k<nms.length:=by omega
  have htk:nms.take (k+1)=nms.take k++[nms[k]'hkn]:=List.take_succ_eq_append_getElem hkn
  have hyl:ys.length=k:=by have:=congrArg List.length hys;rw[List.length_map,List.length_take] at this;omega
  have hnq:nms[k]'hkn=((qs.take i)[k]'hkq).nm:=by subst hn;simp
  have hme:=List.getElem_mem hkn
  rw[hnq] at htk hme
  refine QZ<|ZJ<|QZ<|QI (by rfl) (by rfl) ?_
  refine xig JL (i:=k) (hS.st hs1) rfl rfl hkq λa13 h13=>?_
  refine Zc ((qs.take i)[k]'hkq) λq hq=>?_
  rw[hq] at h13 htk hme
  have h1c:=(hX.each q (List.mem_of_mem_take (by rw[←hq];exact List.getElem_mem hkq))).one
  refine x (QJ h13 rfl rfl)<|xl rfl<|Qr (us:=[.string .empty,nS]) rfl λb5 w2 hs2 hb5 hB5=>xl rfl<|Ql (us:=Zy q) hB5 rfl rfl rfl rfl ⟨rfl,h1c,trivial⟩ λw3 hs3 hB5'=>xe ?_
  have hs13:Step [] w1 w3:=hs2.then1 hs3 hb5
  refine QZ<|Kl (by rfl) ?_
  refine XI.pre3 ?_
  refine Qb<|x (Qa rfl)<|x (Qd hB5' rfl rfl)<|xe ?_
  refine xy (l:=l) rfl (hY ys ⟨q.nm,hme⟩ w3 (ab hJ1 hs13) (by omega)) λen W3 hen=>Or.elim hen (λh1=>⟨.bool true,h1.1,?_⟩) (λh1=>⟨.bool false,h1.1,?_⟩)
  ·refine XI.of_XL<|x (Zp rfl)<|xe ?_
   refine Km rfl<|Z3 ?_
   refine QI (by rfl) (by rfl) ?_
   refine x (Qy rfl rfl ⟨by omega,by omega⟩)<|Qb<|xe ?_
   exact ⟨(k+1,ys++[⟨q.nm,hme⟩]),by simp only[];omega,⟨rfl,trivial⟩,rfl,hlt,(hs1.trans hs13).lw h1.2.2,by rw[htk,List.map_append,hys];rfl,h1.2.1⟩
  ·refine XI.of_XL<|x (Zp rfl)<|xe ?_
   refine jg rfl ?_
   refine J4 ⟨λ_ h=>(by cases h),List.nodup_nil,[],λW' hW'=>⟨trivial,.inr ⟨ys++[⟨q.nm,hme⟩],trivial,?_⟩⟩⟩
   exact hJx _ W3 W' none h1.2 ⟨hW'.os,hW'.tape,hW'.output,hW'.size,λk hk _=>hW'.block k hk (by simp)⟩ (λr e=>by cases e)
 refine (callsIn_wide (n:=m)).2 ?_
 have ea:(#[.func (.yield l) #[] #[]]++[.pointer (some ⟨b1,0,none⟩),.pointer (some ⟨b2,0,none⟩)].toArray:Array Value)=[.func (.yield l) #[] #[],.pointer (some ⟨b1,0,none⟩),.pointer (some ⟨b2,0,none⟩)].toArray:=by simp
 rw[ea]
 unfold QG at key
 refine Calls.mono key λe w' he=>?_
 cases e with
 | returned v=>exact ⟨⟨v,rfl⟩,he⟩
 | panicked c=>exact he.elim
 | outgrown=>exact he.elim
theorem Qf9 {L:LN}{w:World}{b1 b2 i m:Nat}{vs vx vk:Value}{qs:List KV}{nms:List ByteArray}(hB1:QS w.heap b1 252 [vs,vx,vk]) (hB2:QS w.heap b2 3 [.int .i64 i]) (hX:yd L w.heap vk qs) (hi:i≤qs.length) (hn:nms=(qs.take i).map (·.nm)) :
  SeqStopsK (fen none) m prog 185 [.pointer (some ⟨b1,0,none⟩),.pointer (some ⟨b2,0,none⟩)].toArray (λx:{ x:ByteArray // x∈nms }=>[Value.string x.1].toArray) (Lw w.heap.size L)
   (λys=>ys.map (·.1)=nms) (λ_=>True) (nms.length+1) w:=by
 intro l J Jx W hbel hJ hJx hY h0
 have hwW:Step [] w W:=Step.of_below hbel
 have ab:∀{ys:List { x:ByteArray // x∈nms }} {W1 W2:World},J ys W1→Step [] W1 W2→J ys W2:=λ{ys W1 W2} hj hst=>hJ ys W1 W2 none hj ⟨hst.os,hst.tape,hst.output,hst.size,λk hk _=>hst.block k hk (by simp)⟩ (λr e=>by cases e)
 have hle:=hX.arr.le
 have hnl:nms.length=i:=by rw[hn];simp;omega
 have key:QG prog 185 [.func (.yield l) #[] #[],.pointer (some ⟨b1,0,none⟩),.pointer (some ⟨b2,0,none⟩)] W (λ_ W'=>(∃ys,ys.map (·.1)=nms∧J ys W')∨(∃pre,True∧Jx pre W')):=by
  refine QG.of_G m func185 rfl ntmps185 results185 (by simp) ?_
  have hB1':=hB1.ext hwW
  have hB2':=hB2.ext hwW
  refine QZ<|QI (by rfl) (by rfl) ?_
  refine x (Qa rfl)<|x (Qd hB1' rfl rfl)<|x (Qd hB2' rfl rfl)<|QkH hX.arr rfl rfl hi λv9 hA9=>x (Qs hA9 rfl)<|Qb<|xe ?_
  have hel:(qs.take i).length=i:=by simp;omega
  have hS:Zw L w.heap v9 (qs.take i).length 3 ((qs.take i).flatMap ZC):=by
   rw[hel,←QfJ ZC 3 Jq];exact hA9
  refine ZJ<|KU (α:=Nat×List { x:ByteArray // x∈nms }) [(5,5),(11,20)] (λz=>[(11,.int .i64 z.1)]) (λz ds W'=>ds=[]∧z.1≤i∧Step L w W'∧z.2.map (·.1)=nms.take z.1∧J z.2 W') (λz=>i - z.1) (by rfl) (0,[]) ⟨rfl,trivial⟩
   ⟨rfl,Nat.zero_le _,hwW.any,rfl,h0⟩ ?_
  rintro ⟨k,ys⟩ g ds w1 ⟨rfl,hk,hs1,hys,hJ1⟩
  simp only[] at hk hys hJ1
  refine QZ<|QI (by rfl) (by rfl) ?_
  refine x (QB rfl rfl)<|xe ?_
  refine QZ<|qM rfl (λh12=>?_) (λh12=>?_)
  ·refine Jv ?_
   have hke:i≤k:=by have h13:¬(k:Int)<(i:Int):=h12;omega
   rw[List.take_of_length_le (by omega)] at hys
   exact ⟨λ_ h=>(by cases h),List.nodup_nil,[],λW' hW'=>⟨trivial,.inl ⟨ys,hys,ab hJ1 hW'⟩⟩⟩
  refine Z3 ?_
  have hlt:k<i:=by have h13:(k:Int)<(i:Int):=h12;omega
  have hkq:k<(qs.take i).length:=by omega
  have hkn:k<nms.length:=by omega
  have htk:nms.take (k+1)=nms.take k++[nms[k]'hkn]:=List.take_succ_eq_append_getElem hkn
  have hyl:ys.length=k:=by have:=congrArg List.length hys;rw[List.length_map,List.length_take] at this;omega
  have hnq:nms[k]'hkn=((qs.take i)[k]'hkq).nm:=by subst hn;simp
  have hme:=List.getElem_mem hkn
  rw[hnq] at htk hme
  refine QZ<|ZJ<|QZ<|QI (by rfl) (by rfl) ?_
  refine xig Jq (i:=k) (hS.st hs1) rfl rfl hkq λa13 h13=>?_
  refine Zc ((qs.take i)[k]'hkq) λq hq=>?_
  rw[hq] at h13 htk hme
  have h1c:=(hX.each q (List.mem_of_mem_take (by rw[←hq];exact List.getElem_mem hkq))).one
  refine x (QJ h13 rfl rfl)<|xl rfl<|Qr (us:=[.string .empty,nS,.int .i64 0]) rfl λb5 w2 hs2 hb5 hB5=>xl rfl<|Ql (us:=ZC q) hB5 rfl rfl rfl rfl ⟨rfl,h1c,rfl,trivial⟩ λw3 hs3 hB5'=>xe ?_
  have hs13:Step [] w1 w3:=hs2.then1 hs3 hb5
  refine QZ<|Kl (by rfl) ?_
  refine XI.pre3 ?_
  refine Qb<|x (Qa rfl)<|x (Qd hB5' rfl rfl)<|xe ?_
  refine xy (l:=l) rfl (hY ys ⟨q.nm,hme⟩ w3 (ab hJ1 hs13) (by omega)) λen W3 hen=>Or.elim hen (λh1=>⟨.bool true,h1.1,?_⟩) (λh1=>⟨.bool false,h1.1,?_⟩)
  ·refine XI.of_XL<|x (Zp rfl)<|xe ?_
   refine Km rfl<|Z3 ?_
   refine QI (by rfl) (by rfl) ?_
   refine x (Qy rfl rfl ⟨by omega,by omega⟩)<|Qb<|xe ?_
   exact ⟨(k+1,ys++[⟨q.nm,hme⟩]),by simp only[];omega,⟨rfl,trivial⟩,rfl,hlt,(hs1.trans hs13).lw h1.2.2,by rw[htk,List.map_append,hys];rfl,h1.2.1⟩
  ·refine XI.of_XL<|x (Zp rfl)<|xe ?_
   refine jg rfl ?_
   refine J4 ⟨λ_ h=>(by cases h),List.nodup_nil,[],λW' hW'=>⟨trivial,.inr ⟨ys++[⟨q.nm,hme⟩],trivial,?_⟩⟩⟩
   exact hJx _ W3 W' none h1.2 ⟨hW'.os,hW'.tape,hW'.output,hW'.size,λk hk _=>hW'.block k hk (by simp)⟩ (λr e=>by cases e)
 refine (callsIn_wide (n:=m)).2 ?_
 have ea:(#[.func (.yield l) #[] #[]]++[.pointer (some ⟨b1,0,none⟩),.pointer (some ⟨b2,0,none⟩)].toArray:Array Value)=[.func (.yield l) #[] #[],.pointer (some ⟨b1,0,none⟩),.pointer (some ⟨b2,0,none⟩)].toArray:=by simp
 rw[ea]
 unfold QG at key
 refine Calls.mono key λe w' he=>?_
 cases e with
 | returned v=>exact ⟨⟨v,rfl⟩,he⟩
 | panicked c=>exact he.elim
 | outgrown=>exact he.elim
set_option maxHeartbeats 4000000 in
theorem qf {w:World}{vs vx vk:Value}{sz:LI}{qx:List XV}{ks:List KV}(hS:QL [] w.heap vs sz) (hX:Ux [] w.heap vx qx) (hK:yd [] w.heap vk ks) :
  QG prog 145 [.agg #[vs,vx,vk]] w λr w'=>r=.int .i64 (YD sz (qx.map (·.x)) (ks.map (·.k)))∧Step [] w w':=by
 have hsl:=hS.le
 have hxl:=hX.arr.le
 have hkl:=hK.arr.le
 refine QG.of_W func145 rfl ntmps145 results145 (by simp) ?_
 refine Qc<|xl rfl<|QQ (us:=[vs,vx,vk]) rfl λb1 w1 hs1 hb1 hB1=>Qf<|Qg<|Qc<|x (Qa rfl)<|x (Qd hB1 rfl rfl)<|x (Qs (hS.ext hs1) rfl)<|x (ZL rfl rfl)<|xe ?_
 refine Q3 rfl (λh18=>?_) (λh18=>?_)
 ·refine Qc<|Qf ?_
  exact Qk ⟨[_],⟨rfl,trivial⟩,by unfold YD;rw[if_pos (by have h19:(8:Int)<(sz.length:Int):=h18;omega)];rfl,hs1⟩
 have hn8:¬8<sz.length:=by have h19:¬(8:Int)<(sz.length:Int):=h18;omega
 refine Qi<|Qg<|Qc<|x (Qa rfl)<|x (Qd hB1 rfl rfl)<|x (Qs (hS.ext hs1) rfl)<|Qb<|xe ?_
 refine Qh<|QA (α:=Nat) [(2,2),(4,4),(22,32)] (λz=>[(22,.int .i64 z)]) (λz w'=>z≤sz.length∧w'=w1∧(sz.drop z).any Kx=sz.any Kx) (λz=>sz.length - z) (by rfl) 0 ⟨rfl,trivial⟩
  ⟨Nat.zero_le _,rfl,rfl⟩ ?_
 rintro k g w2 ⟨hk,rfl,hany⟩
 refine Qc<|x (QB rfl rfl)<|xe ?_
 refine Qg<|QD rfl (λh23=>?_) (λh23=>?_)
 ·refine Qz ?_
  have hke:sz.length≤k:=by have h24:¬(k:Int)<(sz.length:Int):=h23;omega
  rw[List.drop_of_length_le hke] at hany
  have hany0:¬sz.any Kx=true:=by rw[←hany];decide
  refine Qg<|QW (α:=Bool) [(33,42)] (λz=>[(42,.bool z)]) (λz w'=>w'=w2∧z=decide (32<qx.length∨32<ks.length)) (by rfl) ?_ ?_
  ·refine Qx<|x (Qa rfl)<|x (Qd hB1 rfl rfl)<|x (Qs (hX.ext hs1).arr rfl)<|xb (ZL rfl rfl) (λh36=>?_) (λh36=>?_)
   ·refine Qb<|xs rfl<|xs rfl<|xs rfl<|xs rfl<|x (Qp rfl)<|xe ?_
    exact ⟨_,⟨rfl,trivial⟩,rfl,by first | exact bT (by omega) | exact bF (by omega) | exact bD (by omega)⟩
   refine Qb<|x (Qa rfl)<|x (Qd hB1 rfl rfl)<|x (Qs (hK.ext hs1).arr rfl)<|x (ZL rfl rfl)<|x (Qp rfl)<|xe ?_
   exact ⟨_,⟨rfl,trivial⟩,rfl,by first | exact bT (by omega) | exact bF (by omega) | exact bD (by omega)⟩
  rintro z g w3 ⟨rfl,rfl⟩
  refine Q3 rfl (λh42=>?_) (λh42=>?_)
  ·refine Qc<|Qf ?_
   exact Qk ⟨[_],⟨rfl,trivial⟩,by unfold YD;rw[if_neg hn8,if_neg hany0,if_pos (by simpa using h42)];rfl,hs1⟩
  have hn32:¬(32<(qx.map (·.x)).length∨32<(ks.map (·.k)).length):=by simpa using h42
  have hcx:Ym sz [] (qx.map (·.x))≠0→YD sz (qx.map (·.x)) (ks.map (·.k))=Ym sz [] (qx.map (·.x)):=λh=>by
   unfold YD;rw[if_neg hn8,if_neg hany0,if_neg hn32,if_pos h]
  have hcc0:Ym sz [] (qx.map (·.x))=0→YD sz (qx.map (·.x)) (ks.map (·.k))=YQ sz [] (ks.map (·.k)):=λh=>by
   unfold YD;rw[if_neg hn8,if_neg hany0,if_neg hn32,if_neg (by rw[h];exact λh=>h rfl)]
  refine Qi<|Qg<|Qc<|x (Qa rfl)<|x (Qd (hB1.ext (Step.refl [] w3)) rfl rfl)<|x (Qs ((hX.ext hs1).ext (Step.refl [] w3)).arr rfl)<|Qb<|xe ?_
  refine Qh<|QA (α:=Nat) [(2,2),(5,9),(46,65)] (λz=>[(46,.int .i64 z)]) (λz w'=>z≤qx.length∧Step [] w3 w'∧Ym sz ((qx.take z).map (·.nm)) ((qx.drop z).map (·.x))=Ym sz [] (qx.map (·.x))) (λz=>qx.length - z) (by rfl) 0 ⟨rfl,trivial⟩
   ⟨Nat.zero_le _,(Step.refl [] w3),rfl⟩ ?_
  rintro k g wA ⟨hk,hsA,hck⟩
  refine Qc<|x (QB rfl rfl)<|xe ?_
  refine Qg<|QD rfl (λhc1=>?_) (λhc1=>?_)
  ·refine Qz ?_
   have hke:qx.length≤k:=by have h16:¬(k:Int)<(qx.length:Int):=hc1;omega
   rw[List.drop_of_length_le hke] at hck
   have hz1:Ym sz [] (qx.map (·.x))=0:=hck.symm
   have hcc:=hcc0 hz1
   refine Qg<|Qc<|x (Qa rfl)<|x (Qd (hB1.ext hsA) rfl rfl)<|x (Qs ((hK.ext hs1).ext hsA).arr rfl)<|Qb<|xe ?_
   refine Qh<|QA (α:=Nat) [(2,2),(10,14),(69,88)] (λz=>[(69,.int .i64 z)]) (λz w'=>z≤ks.length∧Step [] w3 w'∧YQ sz ((ks.take z).map (·.nm)) ((ks.drop z).map (·.k))=YQ sz [] (ks.map (·.k))) (λz=>ks.length - z) (by rfl) 0 ⟨rfl,trivial⟩
    ⟨Nat.zero_le _,hsA,rfl⟩ ?_
   rintro k g wA ⟨hk,hsA,hck⟩
   refine Qc<|x (QB rfl rfl)<|xe ?_
   refine Qg<|QD rfl (λhc1=>?_) (λhc1=>?_)
   ·refine Qz ?_
    have hke:ks.length≤k:=by have h16:¬(k:Int)<(ks.length:Int):=hc1;omega
    rw[List.drop_of_length_le hke] at hck
    have hz2:YQ sz [] (ks.map (·.k))=0:=hck.symm
    refine Qc<|Qf ?_
    exact Qk ⟨[_],⟨rfl,trivial⟩,by rw[hcc,hz2];rfl,hs1.trans hsA⟩
   have hlt:k<ks.length:=by have h16:(k:Int)<(ks.length:Int):=hc1;omega
   have htk:(ks.take (k+1)).map (·.nm)=(ks.take k).map (·.nm)++[(ks[k]'hlt).nm]:=by rw[List.take_succ_eq_append_getElem hlt,List.map_append];rfl
   rw[Q6 hlt,List.map_cons] at hck
   have hmem:=List.getElem_mem hlt
   have hXA:=(hK.ext hs1).ext hsA
   have hB1A:=hB1.ext hsA
   refine Qi<|Qg<|Qh<|Qc<|Qb<|xig Jq hXA.arr rfl rfl hlt λaA hA=>?_
   refine Zc (ks[k]'hlt) λq hq=>?_
   rw[hq] at hA hck htk hmem
   have hqA:=hXA.each q hmem
   refine x (QJ hA rfl rfl)<|xl rfl<|Qr (us:=[.int .i64 0]) rfl λb5 w3 hs3 hb5 hB5=>xl rfl<|Qr (us:=[.string .empty,nS,.int .i64 0]) rfl λb6 w4 hs4 hb6 hB6 =>
    xl rfl<|QF (j:=0) (u:=.int .i64 k) (hB5.ext hs4) rfl rfl (by decide) rfl λw5 hs5 hB5'=>xl rfl<|Ql (us:=ZC q) (hB6.step hs5 (by have:=hB5.lt;simp;omega)) rfl rfl rfl rfl ⟨rfl,hqA.one,rfl,trivial⟩ λw6 hs6 hB6'=>xe ?_
   have hb56:b5<b6:=by have:=hB5.lt;omega
   have hsA6:Step [] wA w6:=((hs3.trans hs4).then1 hs5 hb5).then1 hs6 (by have:=hs3.size;omega)
   have hB56:QS w6.heap b5 3 [.int .i64 k]:=hB5'.step hs6 (by simp;omega)
   have hB16:=hB1A.ext hsA6
   have hX6:=hXA.ext hsA6
   refine Qc<|x Zk<|Qf<|Qg<|Qc<|x (Qa rfl)<|x (Qd hB6' rfl rfl)<|Qb<|xl rfl<|xf<|(Qco (nms:=(ks.take k).map (·.nm)) (capt:=[.pointer (some ⟨b1,0,none⟩),.pointer (some ⟨b5,0,none⟩)]) (hXA.nm q hmem) (λw' L hw' hL=>Qf9 (hB16.ext hw') (hB56.ext hw') ((hX6.up (λb hb=>.inr (hL b hb))).ext hw') hk rfl)).mono ?_
   rintro r7 w7 ⟨rfl,hs7⟩
   refine Qf ?_
   have hsA7:=hsA6.trans hs7
   refine Qc<|Qb<|x (Q4 rfl rfl)<|xe ?_
   refine Q3 rfl (λhc2=>?_) (λhc2=>?_)
   ·have e1:YQ sz [] (ks.map (·.k))=VU ((ks.take k).map (·.nm)) q.nm:=by rw[←hck];exact if_pos hc2
    refine Qc<|Qb<|Qf ?_
    exact Qk ⟨[_],⟨rfl,trivial⟩,by rw[hcc,e1];rfl,hs1.trans (hsA.trans hsA7)⟩
   have hck1:(if JD sz q.k≠0 then JD sz q.k else YQ sz ((ks.take k).map (·.nm)++[q.nm]) ((ks.drop (k+1)).map (·.k)))=YQ sz [] (ks.map (·.k)):=by rw[←hck];exact (if_neg hc2).symm
   refine Qi ?_
   have hB17:=hB16.ext hs7
   have hB67:=hB6'.ext hs7
   refine Qc<|x (Qn hB17 rfl rfl)<|x (Qn hB67 rfl rfl)<|xl rfl<|xf<|(KP (((hS.ext hs1).ext hsA).ext hsA7) (hqA.ext hsA7)).mono ?_
   rintro r8 w8 ⟨rfl,hs8⟩
   refine Qf ?_
   have hsA8:=hsA7.trans hs8
   refine Qc<|Qb<|x (Q4 rfl rfl)<|xe ?_
   refine Q3 rfl (λhc3=>?_) (λhc3=>?_)
   ·have e1:YQ sz [] (ks.map (·.k))=JD sz q.k:=by rw[←hck1];exact if_pos hc3
    have hc3':JD sz q.k≠0:=hc3
    refine Qc<|Qb<|Qf ?_
    exact Qk ⟨[_],⟨rfl,trivial⟩,by rw[hcc,e1];rfl,hs1.trans (hsA.trans hsA8)⟩
   have hck2:YQ sz ((ks.take k).map (·.nm)++[q.nm]) ((ks.drop (k+1)).map (·.k))=YQ sz [] (ks.map (·.k)):=by rw[←hck1];exact (if_neg hc3).symm
   refine Qi<|Qx<|x (Qy rfl rfl ⟨by omega,by omega⟩)<|Qb<|xe ?_
   exact ⟨k+1,by omega,⟨rfl,trivial⟩,hlt,hsA.trans hsA8,by rw[htk];exact hck2⟩
  have hlt:k<qx.length:=by have h16:(k:Int)<(qx.length:Int):=hc1;omega
  have htk:(qx.take (k+1)).map (·.nm)=(qx.take k).map (·.nm)++[(qx[k]'hlt).nm]:=by rw[List.take_succ_eq_append_getElem hlt,List.map_append];rfl
  rw[Q6 hlt,List.map_cons] at hck
  have hmem:=List.getElem_mem hlt
  have hXA:=(hX.ext hs1).ext hsA
  have hB1A:=hB1.ext hsA
  refine Qi<|Qg<|Qh<|Qc<|Qb<|xig JL hXA.arr rfl rfl hlt λaA hA=>?_
  refine Zc (qx[k]'hlt) λq hq=>?_
  rw[hq] at hA hck htk hmem
  have hqA:=hXA.each q hmem
  refine x (QJ hA rfl rfl)<|xl rfl<|Qr (us:=[.int .i64 0]) rfl λb5 w3 hs3 hb5 hB5=>xl rfl<|Qr (us:=[.string .empty,nS]) rfl λb6 w4 hs4 hb6 hB6 =>
   xl rfl<|QF (j:=0) (u:=.int .i64 k) (hB5.ext hs4) rfl rfl (by decide) rfl λw5 hs5 hB5'=>xl rfl<|Ql (us:=Zy q) (hB6.step hs5 (by have:=hB5.lt;simp;omega)) rfl rfl rfl rfl ⟨rfl,hqA.one,trivial⟩ λw6 hs6 hB6'=>xe ?_
  have hb56:b5<b6:=by have:=hB5.lt;omega
  have hsA6:Step [] wA w6:=((hs3.trans hs4).then1 hs5 hb5).then1 hs6 (by have:=hs3.size;omega)
  have hB56:QS w6.heap b5 3 [.int .i64 k]:=hB5'.step hs6 (by simp;omega)
  have hB16:=hB1A.ext hsA6
  have hX6:=hXA.ext hsA6
  refine Qc<|x Zk<|Qf<|Qg<|Qc<|x (Qa rfl)<|x (Qd hB6' rfl rfl)<|Qb<|xl rfl<|xf<|(Qco (nms:=(qx.take k).map (·.nm)) (capt:=[.pointer (some ⟨b1,0,none⟩),.pointer (some ⟨b5,0,none⟩)]) (hXA.nm q hmem) (λw' L hw' hL=>QfW (hB16.ext hw') (hB56.ext hw') ((hX6.up (λb hb=>.inr (hL b hb))).ext hw') hk rfl)).mono ?_
  rintro r7 w7 ⟨rfl,hs7⟩
  refine Qf ?_
  have hsA7:=hsA6.trans hs7
  refine Qc<|Qb<|x (Q4 rfl rfl)<|xe ?_
  refine Q3 rfl (λhc2=>?_) (λhc2=>?_)
  ·have e1:Ym sz [] (qx.map (·.x))=VU ((qx.take k).map (·.nm)) q.nm:=by rw[←hck];exact if_pos hc2
   refine Qc<|Qb<|Qf ?_
   exact Qk ⟨[_],⟨rfl,trivial⟩,by rw[hcx (by rw[e1];exact hc2),e1];rfl,hs1.trans (hsA.trans hsA7)⟩
  have hck1:(if JC sz q.ls≠0 then JC sz q.ls else Ym sz ((qx.take k).map (·.nm)++[q.nm]) ((qx.drop (k+1)).map (·.x)))=Ym sz [] (qx.map (·.x)):=by rw[←hck];exact (if_neg hc2).symm
  refine Qi ?_
  have hB17:=hB16.ext hs7
  have hB67:=hB6'.ext hs7
  refine Qc<|x (Qn hB17 rfl rfl)<|x (Qn hB67 rfl rfl)<|xl rfl<|xf<|(Vx (((hS.ext hs1).ext hsA).ext hsA7) (hqA.ext hsA7)).mono ?_
  rintro r8 w8 ⟨rfl,hs8⟩
  refine Qf ?_
  have hsA8:=hsA7.trans hs8
  refine Qc<|Qb<|x (Q4 rfl rfl)<|xe ?_
  refine Q3 rfl (λhc3=>?_) (λhc3=>?_)
  ·have e1:Ym sz [] (qx.map (·.x))=JC sz q.ls:=by rw[←hck1];exact if_pos hc3
   have hc3':JC sz q.ls≠0:=hc3
   refine Qc<|Qb<|Qf ?_
   exact Qk ⟨[_],⟨rfl,trivial⟩,by rw[hcx (by rw[e1];exact hc3'),e1];rfl,hs1.trans (hsA.trans hsA8)⟩
  have hck2:Ym sz ((qx.take k).map (·.nm)++[q.nm]) ((qx.drop (k+1)).map (·.x))=Ym sz [] (qx.map (·.x)):=by rw[←hck1];exact (if_neg hc3).symm
  refine Qi<|Qx<|x (Qy rfl rfl ⟨by omega,by omega⟩)<|Qb<|xe ?_
  exact ⟨k+1,by omega,⟨rfl,trivial⟩,hlt,hsA.trans hsA8,by rw[htk];exact hck2⟩
 have hlt:k<sz.length:=by have h24:(k:Int)<(sz.length:Int):=h23;omega
 rw[Q6 hlt,List.any_cons] at hany
 refine Qi<|Qg<|Qh<|Qc<|xii (hS.ext hs1) rfl rfl hlt λa24 h24=>?_
 refine Zc (sz[k]'hlt) λn hn=>?_
 rw[hn] at h24 hany
 refine x (Qw h24 rfl)<|Qf<|QW (α:=Bool) [(26,31)] (λz=>[(31,.bool z)]) (λz w'=>w'=w2∧z=Kx n) (by rfl) ?_ ?_
 ·refine Qx<|Qb<|xb (QB rfl rfl) (λh27=>?_) (λh27=>?_)
  ·refine Qb<|xs rfl<|xs rfl<|x (Qp rfl)<|xe ?_
   exact ⟨_,⟨rfl,trivial⟩,rfl,by unfold Kx;rw[decide_eq_true h27];rfl⟩
  refine Qb<|Qb<|x (ZL rfl rfl)<|x (Qp rfl)<|xe ?_
  exact ⟨_,⟨rfl,trivial⟩,rfl,by unfold Kx;rw[decide_eq_false h27];rfl⟩
 rintro z g w3 ⟨rfl,rfl⟩
 refine QY rfl (λh31=>?_) (λh31=>?_)
 ·refine Qc<|Qf ?_
  exact Qk ⟨[_],⟨rfl,trivial⟩,by unfold YD;rw[if_neg hn8,if_pos (by rw[←hany,h31];rfl)];rfl,hs1⟩
 rw[h31,Bool.false_or] at hany
 refine Qi<|Qx<|x (Qy rfl rfl ⟨by omega,by omega⟩)<|Qb<|xe ?_
 exact ⟨k+1,by omega,⟨rfl,trivial⟩,hlt,rfl,hany⟩
theorem Z0 {α:Type}(q:α→Bool) (i:Nat) (a:α) (l:List α):fix q i (a::l)=if q a=true then (i:Int) else fix q (i+1) l:=rfl
theorem Qbq {α:Type}(q:α→Bool):∀(l:List α) (i:Nat),fix q i l=-1∨((i:Int)≤fix q i l∧fix q i l<(i:Int)+l.length)
 | [],i=>.inl rfl
 | a::l,i=>by
  rw[Z0]
  split
  ·right;simp only[List.length_cons];omega
  ·rcases Qbq q l (i+1) with h | h
   ·exact .inl h
   ·right;simp only[List.length_cons];omega
theorem yU {α:Type}(q:α→Bool):∀(l:List α) (i:Nat),decide (0≤fix q i l)=l.any q
 | [],i=>rfl
 | a::l,i=>by
  rw[Z0,List.any_cons]
  cases h:q a with
  | true=>rw[if_pos rfl];simp
  | false=>rw[if_neg (by decide),yU q l (i+1)];rfl
theorem qb {α:Type}(q:α→Bool) (m:List α):∀(l:List α) (i:Nat),fix q i (l++m)=if 0≤fix q i l then fix q i l else fix q (i+l.length) m
 | [],i=>by
  show fix q i m=if (0:Int)≤-1 then (-1) else fix q i m
  rw[if_neg (by decide)]
 | a::l,i=>by
  rw[List.cons_append,Z0,Z0]
  by_cases h:q a=true
  ·rw[if_pos h,if_pos h,if_pos (by omega)]
  ·rw[if_neg h,if_neg h,qb q m l (i+1),List.length_cons]
   rw[show i+1+l.length=i+(l.length+1) by omega]
theorem zP {α:Type}(q:α→Bool) (d:Nat):∀(l:List α) (i:Nat),fix q (i+d) l=if 0≤fix q i l then fix q i l+d else -1
 | [],i=>rfl
 | a::l,i=>by
  rw[Z0,Z0]
  by_cases h:q a=true
  ·rw[if_pos h,if_pos h,if_pos (by omega)];omega
  ·rw[if_neg h,if_neg h,show i+d+1=(i+1)+d by omega,zP q d l (i+1)]
theorem Kg {α β:Type}(q:β→Bool) (g:α→β):∀(l:List α) (i:Nat),fix q i (l.map g)=fix (λa=>q (g a)) i l
 | [],i=>rfl
 | a::l,i=>by rw[List.map_cons,Z0,Z0,Kg q g l (i+1)]
theorem Qdz {α:Type}{q q':α→Bool}:∀{l:List α}{i:Nat},(∀a∈l,q a=q' a)→fix q i l=fix q' i l
 | [],i,_=>rfl
 | a::l,i,h=>by rw[Z0,Z0,h a List.mem_cons_self,Qdz (λb hb=>h b (List.mem_cons_of_mem _ hb))]
theorem QjH {gp:Nat}{fn:Func}[Fu prog gp fn] {cap:LV}{q:(Int×Int)→Bool}{L:LN}{w:World}{v:Value}{l:List (Int×Int)}(h:Zw L w.heap v l.length 2 (l.flatMap Q9))
  (hk:∀e∈l,∀(w1:World),Step [] w w1→QG prog gp ([.agg (Q9 e).toArray]++cap) w1 λr w'=>r=.bool (q e)∧Step [] w1 w') :
  QG prog 258 [v,.func (.func gp) #[] cap.toArray] w λr w'=>r=.int .i64 (fix q 0 l)∧Step [] w w':=by
 have hle:=h.le
 refine QG.of_W func258 rfl ntmps258 results258 (by simp) ?_
 refine Qc<|Qf<|Qg<|Qc<|Qb<|x (Qs h rfl)<|Qb<|xe ?_
 refine Qh<|QA (α:=Nat) [(4,5),(8,18)] (λz=>[(8,.int .i64 z)]) (λz w'=>z≤l.length∧Step [] w w'∧fix q z (l.drop z)=fix q 0 l) (λz=>l.length - z) (by rfl) 0 ⟨rfl,trivial⟩
  ⟨Nat.zero_le _,Step.refl _ _,rfl⟩ ?_
 rintro k g w1 ⟨hk1,hs1,hfx⟩
 refine Qc<|x (QB rfl rfl)<|xe ?_
 refine Qg<|QD rfl (λh9=>?_) (λh9=>?_)
 ·refine Qz ?_
  have hke:l.length≤k:=by have h10:¬(k:Int)<(l.length:Int):=h9;omega
  rw[List.drop_of_length_le hke] at hfx
  refine Qc<|Qf ?_
  exact Qk ⟨[_],⟨rfl,trivial⟩,by rw[←hfx];rfl,hs1⟩
 have hlt:k<l.length:=by have h10:(k:Int)<(l.length:Int):=h9;omega
 rw[Q6 hlt,Z0] at hfx
 have hmem:=List.getElem_mem hlt
 refine Qi<|Qg<|Qh<|Qc<|Qb<|Qf<|Qc<|Qb<|Qb<|Qb<|xig X1 (h.ext hs1) rfl rfl hlt λa14 h14=>?_
 refine Zc (l[k]'hlt) λe he=>?_
 rw[he] at h14 hfx hmem
 refine x (QJ h14 rfl rfl)<|xl rfl<|xc (first:=[]) (capt:=cap) rfl<|(hk e hmem w1 hs1).mono ?_
 rintro r2 w2 ⟨rfl,hs2⟩
 refine xe ?_
 refine QY rfl (λh16=>?_) (λh16=>?_)
 ·rw[if_pos h16] at hfx
  refine Qc<|Qb<|Qf ?_
  exact Qk ⟨[_],⟨rfl,trivial⟩,by rw[←hfx];rfl,hs1.trans hs2⟩
 rw[if_neg (by rw[h16];decide)] at hfx
 refine Qi<|Qx<|x (Qy rfl rfl ⟨by omega,by omega⟩)<|Qb<|xe ?_
 exact ⟨k+1,by omega,⟨rfl,trivial⟩,hlt,hs1.trans hs2,hfx⟩
theorem Qj5 {gp:Nat}{fn:Func}[Fu prog gp fn] {cap:LV}{q:(Int×Int)→Bool}{L:LN}{w:World}{v:Value}{l:List (Int×Int)}(h:Zw L w.heap v l.length 2 (l.flatMap Q9))
  (hk:∀e∈l,∀(w1:World),Step [] w w1→QG prog gp ([.agg (Q9 e).toArray]++cap) w1 λr w'=>r=.bool (q e)∧Step [] w1 w') :
  QG prog 251 [v,.func (.func gp) #[] cap.toArray] w λr w'=>r=.bool (l.any q)∧Step [] w w':=by
 refine QG.of_W func251 rfl ntmps251 results251 (by simp) ?_
 refine Qc<|Qf<|Qc<|Qb<|Qb<|xl rfl<|xf<|(QjH h hk).mono ?_
 rintro r1 w1 ⟨rfl,hs1⟩
 refine x (ZM rfl rfl)<|Qf ?_
 exact Qk ⟨[_],⟨rfl,trivial⟩,congrArg Value.bool (yU q l 0),hs1⟩
theorem qn (sz:LI):∀(ls:List (Int×Int)) (pr:Option Int),Vu sz pr ls=0→(∀p∈ls,0≤p.1∧p.1<(sz.length:Int))∧Yt (ls.map (·.1))∧∀y,pr=some y→∀p∈ls,y<p.1
 | [],pr,_=>⟨λp hp=>(by cases hp),List.Pairwise.nil,λy _ p hp=>(by cases hp)⟩
 | l::ls,pr,h=>by
  unfold Vu at h
  split at h
  ·cases h
  ·rename_i h1
   split at h
   ·cases h
   ·rename_i h2
    split at h
    ·cases h
    ·obtain ⟨h4,h5,h6⟩:=qn sz ls (some l.1) h
     have h7:=h6 l.1 rfl
     refine ⟨λp hp=>?_,List.pairwise_cons.2 ⟨λx hx=>?_,h5⟩,λy hy p hp=>?_⟩
     ·rcases List.mem_cons.1 hp with rfl | hp
      ·omega
      ·exact h4 p hp
     ·obtain ⟨p,hp,rfl⟩:=List.mem_map.1 hx
      exact h7 p hp
     ·subst hy
      have h8:¬l.1≤y:=λe=>h2 (decide_eq_true e)
      rcases List.mem_cons.1 hp with rfl | hp
      ·omega
      ·have:=h7 p hp;omega
theorem ql (sz:LI):∀(ls:List (Int×Int)) (pr:Option Int),JA sz pr ls=0→(∀p∈ls,0≤p.1∧p.1<(sz.length:Int)∧-65536≤p.2∧p.2≤65536)∧Yt (ls.map (·.1))∧∀y,pr=some y→∀p∈ls,y<p.1
 | [],pr,_=>⟨λp hp=>(by cases hp),List.Pairwise.nil,λy _ p hp=>(by cases hp)⟩
 | l::ls,pr,h=>by
  unfold JA at h
  split at h
  ·cases h
  ·rename_i h1
   split at h
   ·cases h
   ·rename_i h2
    split at h
    ·cases h
    ·rename_i h3
     obtain ⟨h4,h5,h6⟩:=ql sz ls (some l.1) h
     have h7:=h6 l.1 rfl
     have h9:grt l.2=false:=by cases hg:grt l.2 with | true=>exact absurd (.inr hg) h3 | false=>rfl
     unfold grt at h9
     simp only[Bool.or_eq_false_iff,decide_eq_false_iff_not] at h9
     refine ⟨λp hp=>?_,List.pairwise_cons.2 ⟨λx hx=>?_,h5⟩,λy hy p hp=>?_⟩
     ·rcases List.mem_cons.1 hp with rfl | hp
      ·omega
      ·exact h4 p hp
     ·obtain ⟨p,hp,rfl⟩:=List.mem_map.1 hx
      exact h7 p hp
     ·subst hy
      have h8:¬l.1≤y:=λe=>h2 (decide_eq_true e)
      rcases List.mem_cons.1 hp with rfl | hp
      ·omega
      ·have:=h7 p hp;omega
theorem V8 (sz:LI):∀(l:List Exc) (sn:List ByteArray),Ym sz sn l=0→∀x∈l,JC sz x.ls=0
 | [],_,_,x,hx=>by cases hx
 | a::l,sn,h,x,hx=>by
  unfold Ym at h
  split at h
  ·rename_i h1;exact absurd h h1
  ·split at h
   ·rename_i h1;exact absurd h h1
   ·rename_i h1
    rcases List.mem_cons.1 hx with rfl | hx
    ·exact Decidable.not_not.1 h1
    ·exact V8 sz l _ h x hx
theorem V9 (sz:LI):∀(l:List X5) (sn:List ByteArray),YQ sz sn l=0→∀x∈l,JD sz x=0
 | [],_,_,x,hx=>by cases hx
 | a::l,sn,h,x,hx=>by
  unfold YQ at h
  split at h
  ·rename_i h1;exact absurd h h1
  ·split at h
   ·rename_i h1;exact absurd h h1
   ·rename_i h1
    rcases List.mem_cons.1 hx with rfl | hx
    ·exact Decidable.not_not.1 h1
    ·exact V9 sz l _ h x hx
structure Qmb (sz:LI) (ex:List Exc) (cs:List X5):Prop where
 s8:sz.length≤8
 s:∀n∈sz,1≤n∧n≤4096
 xl:ex.length≤32
 kl:cs.length≤32
 x:∀e∈ex,∀p∈e.ls,0≤p.1∧p.1<(sz.length:Int)
 k:∀e∈cs,(∀p∈e.ts,0≤p.1∧p.1<(sz.length:Int)∧-65536≤p.2∧p.2≤65536)∧e.ts.length≤8
theorem Ua {sz:LI}{ex:List Exc}{cs:List X5}(h:YD sz ex cs=0):Qmb sz ex cs:=by
 unfold YD at h
 split at h
 ·cases h
 ·rename_i h8
  split at h
  ·cases h
  ·rename_i hs
   split at h
   ·cases h
   ·rename_i h32
    split at h
    ·rename_i hx;exact absurd h hx
    ·rename_i hx
     have hx0:=Decidable.not_not.1 hx
     refine ⟨by omega,λn hn=>?_,by omega,by omega,λe he p hp=>?_,λe he=>?_⟩
     ·have h1:Kx n=false:=by
       cases hb:Kx n with
       | false=>rfl
       | true=>exact absurd (List.any_eq_true.2 ⟨n,hn,hb⟩) hs
      unfold Kx at h1
      simp only[Bool.or_eq_false_iff,decide_eq_false_iff_not] at h1
      omega
     ·have h1:=V8 sz ex [] hx0 e he
      unfold JC at h1
      split at h1
      ·cases h1
      ·exact (qn sz e.ls none h1).1 p hp
     ·have h1:=V9 sz cs [] h e he
      unfold JD at h1
      split at h1
      ·cases h1
      ·split at h1
       ·rename_i h2;exact absurd h1 h2
       ·rename_i h2
        obtain ⟨h3,h4,_⟩:=ql sz e.ts none (Decidable.not_not.1 h2)
        refine ⟨h3,?_⟩
        have:=Go.Proofs.YtgmifemhkjdblaaGreatDoor.pig sz.length (e.ts.map (·.1)) (List.Pairwise.imp (λ{a b} (h:a<b)=>(by omega:a≠b)) h4) (λx hx=>by
         obtain ⟨p,hp,rfl⟩:=List.mem_map.1 hx
         exact ⟨(h3 p hp).1,(h3 p hp).2.1⟩)
        rw[List.length_map] at this
        omega
def QiN (sz t:LI):Prop:=t.length=sz.length∧∀i,i<t.length→0≤cget t i∧cget t i<cget sz i
theorem Qc9 (t:LI) (p:Int×Int) (l:List (Int×Int)) (s:Int):(l++[p]).foldl (λs p=>s+p.2*t.getD p.1.toNat 0) s=l.foldl (λs p=>s+p.2*t.getD p.1.toNat 0) s+p.2*cget t p.1.toNat:=by
 rw[List.foldl_append];rfl
theorem Qd5 {w:World}{vl vt:Value}{nm:ByteArray}{ts:List (Int×Int)}{bd:Int}{t:LI}(hl:P2s [] w.heap vl ts) (ht:QL [] w.heap vt t)
  (hts:∀p∈ts,0≤p.1∧p.1<(t.length:Int)∧-65536≤p.2∧p.2≤65536) (h8:ts.length≤8) (htb:∀i,i<t.length→0≤cget t i∧cget t i≤4096) :
  QG prog 254 [.agg #[.string nm,vl,.int .i64 bd],vt] w λr w'=>r=.int .i64 (QkM t ⟨nm,ts,bd⟩)∧Step [] w w':=by
 refine QG.of_W func254 rfl ntmps254 results254 (by simp) ?_
 refine Qc<|xl rfl<|QQ (us:=[.string nm,vl,.int .i64 bd]) rfl λb2 w1 hs1 hb2 hB2=>Qf<|Qc<|Qf<|Qg<|Qc<|x (Qa rfl)<|x (Qd hB2 rfl rfl)<|x (Qs (hl.ext hs1) rfl)<|Qb<|xe ?_
 refine Qh<|QA (α:=Nat×Int) [(5,5),(7,7),(11,25)] (λz=>[(5,.int .i64 z.2),(11,.int .i64 z.1)]) (λz w'=>z.1≤ts.length∧Step [] w w'∧z.2=(ts.take z.1).foldl (λs p=>s+p.2*t.getD p.1.toNat 0) 0∧-(268435456*(z.1:Int))≤z.2∧z.2≤268435456*(z.1:Int)) (λz=>ts.length - z.1) (by rfl) (0,0) ⟨rfl,rfl,trivial⟩
  ⟨Nat.zero_le _,hs1,rfl,by simp only[];omega,by simp only[];omega⟩ ?_
 rintro ⟨k,s⟩ g w2 ⟨hk,hs2,hsum,hlo,hhi⟩
 simp only[] at hk hsum hlo hhi
 refine Qc<|x (QB rfl rfl)<|xe ?_
 refine Qg<|QD rfl (λh12=>?_) (λh12=>?_)
 ·refine Qz ?_
  have hke:ts.length≤k:=by have h13:¬(k:Int)<(ts.length:Int):=h12;omega
  rw[List.take_of_length_le hke] at hsum
  refine Qc<|Qb<|Qf ?_
  exact Qk ⟨[_],⟨rfl,trivial⟩,by rw[hsum];rfl,hs2⟩
 have hlt:k<ts.length:=by have h13:(k:Int)<(ts.length:Int):=h12;omega
 have hmem:=hts _ (List.getElem_mem hlt)
 have htk:ts.take (k+1)=ts.take k++[ts[k]'hlt]:=List.take_succ_eq_append_getElem hlt
 refine Qi<|Qg<|Qh<|Qc<|xig X1 (hl.ext hs2) rfl rfl hlt λa13 h13=>?_
 refine Zc (ts[k]'hlt) λe he=>?_
 rw[he] at h13 hmem htk
 refine x (QJ h13 rfl rfl)<|xl rfl<|Qr (us:=[.int .i64 0,.int .i64 0]) rfl λb7 w3 hs3 hb7 hB7=>xl rfl<|Ql (us:=Q9 e) hB7 rfl rfl rfl rfl ⟨rfl,rfl,trivial⟩ λw4 hs4 hB7=>xe ?_
 have hs24:Step [] w2 w4:=hs3.then1 hs4 hb7
 have hW4:=hs2.trans hs24
 have he0:e.1=((e.1.toNat:Nat):Int):=by omega
 have het:e.1.toNat<t.length:=by omega
 have hcb:=htb _ het
 have hmul:-268435456≤e.2*cget t e.1.toNat∧e.2*cget t e.1.toNat≤268435456:=by
  have h1:(-65536)*cget t e.1.toNat≤e.2*cget t e.1.toNat:=Int.mul_le_mul_of_nonneg_right hmem.2.2.1 hcb.1
  have h2:e.2*cget t e.1.toNat≤65536*cget t e.1.toNat:=Int.mul_le_mul_of_nonneg_right hmem.2.2.2 hcb.1
  omega
 refine Zc (e.2*cget t e.1.toNat) λpr hpr=>?_
 refine QT (Step [] w4) [(0,true),(1,true),(2,true),(3,true),(4,true),(5,true),(6,true),(7,true),(8,true),(9,true),(10,true)] mixed (by rfl) (by kernel_rfl) (Step.drew _ _) ?_
 refine p (λ_=>Qo)<|p (λ_=>Qa rfl)<|pq (λ_ hc=>Qd (hB7.ext hc) rfl rfl)<|p (λ_=>Qo)<|p (λ_=>Qa rfl) <|
  pq (λ_ hc=>Qd (hB7.ext hc) rfl rfl)<|pic (i:=e.1.toNat) rfl (ht.ext hW4) rfl (congrArg (Value.int .i64) he0) het λa21 h21=>pq (λ_ hc=>Qw (h21.ext hc) rfl) <|
  p (λ_=>QkR rfl rfl ⟨by omega,by omega⟩)<|p (λ_=>Qy rfl rfl ⟨by omega,by omega⟩)<|p (λ_=>Qe)<|pe ?_
 refine Qx<|x (Qy rfl rfl ⟨by omega,by omega⟩)<|Qb<|xe ?_
 refine ⟨(k+1,s+e.2*cget t e.1.toNat),by simp only[];omega,⟨rfl,rfl,trivial⟩,hlt,hW4.trans (Step.drew _ _),?_,by simp only[];omega,by simp only[];omega⟩
 simp only[]
 rw[htk,Qc9,←hsum]
theorem QfV {w:World}{bt:Nat}{vt:Value}{t:LI}(hB:QS w.heap bt 40 [vt]) (ht:QL [] w.heap vt t) (e:Int×Int) (he:0≤e.1∧e.1<(t.length:Int)) :
  QG prog 252 ([.agg (Q9 e).toArray]++[.pointer (some ⟨bt,0,none⟩)]) w λr w'=>r=.bool (!decide (t.getD e.1.toNat 0=e.2))∧Step [] w w':=by
 refine QG.of_W func252 rfl ntmps252 results252 (by simp) ?_
 refine Qc<|xl rfl<|QQ (us:=Q9 e) rfl λb2 w1 hs1 hb2 hB2=>Qf ?_
 have he0:e.1=((e.1.toNat:Nat):Int):=by omega
 have het:e.1.toNat<t.length:=by omega
 refine Qg<|QT (Step [] w1) [(0,true),(1,true),(2,true),(3,true),(4,true),(5,true),(6,true),(7,true),(8,true)] mixed (by rfl) (by kernel_rfl) (Step.drew _ _) ?_
 refine pq (λ_ hc=>Qd ((hB.ext hs1).ext hc) rfl rfl)<|p (λ_=>Qa rfl)<|pq (λ_ hc=>Qd (hB2.ext hc) rfl rfl)<|pic (i:=e.1.toNat) rfl (ht.ext hs1) rfl (congrArg (Value.int .i64) he0) het λa7 h7 =>
  pq (λ_ hc=>Qw (h7.ext hc) rfl)<|p (λ_=>Qa rfl)<|pq (λ_ hc=>Qd (hB2.ext hc) rfl rfl)<|p (λ_=>Q4 rfl rfl) <|
  p (λ_=>Qe)<|pe ?_
 refine Qk ⟨[_],⟨rfl,trivial⟩,?_,hs1.trans (Step.drew _ _)⟩
 show Value.bool (decide (¬cget t e.1.toNat=e.2))=_
 unfold cget
 simp
theorem Qd3 (t:LI) (x:Exc):(!(x.ls.any λl=>!decide (t.getD l.1.toNat 0=l.2)))=KD t x:=by
 unfold KD
 induction x.ls with
 | nil=>rfl
 | cons a l ih=>rw[List.any_cons,List.all_cons,←ih];cases decide (t.getD a.1.toNat 0=a.2) <;> simp
theorem Qik {w:World}{b:Nat}{q:XV}{vt:Value}{t:LI}(hB:QS w.heap b 107 (Zy q)) (hq:P2s [] w.heap q.v q.ls) (ht:QL [] w.heap vt t) (hr:∀p∈q.ls,0≤p.1∧p.1<(t.length:Int)) :
  QG prog 250 ([vt]++[.pointer (some ⟨b,0,none⟩)]) w λr w'=>r=.bool (KD t q.x)∧Step [] w w':=by
 refine QG.of_W func250 rfl ntmps250 results250 (by simp) ?_
 refine Qc<|xl rfl<|QQ (us:=[vt]) ht.cells λb2 w1 hs1 hb2 hB2=>Qf<|Qc<|x (Qa rfl)<|x (Qd (hB.ext hs1) rfl rfl)<|x Zk<|xl rfl<|xf<|(Qj5 (q:=λl=>!decide (t.getD l.1.toNat 0=l.2)) (cap:=[.pointer (some ⟨b2,0,none⟩)]) (hq.ext hs1) (λe he w2 hs2=>QfV (hB2.ext hs2) ((ht.ext hs1).ext hs2) e (hr e he))).mono ?_
 rintro r2 w2 ⟨rfl,hs2⟩
 refine x (Zp rfl)<|Qf ?_
 exact Qk ⟨[_],⟨rfl,trivial⟩,congrArg Value.bool (Qd3 t q.x),hs1.trans hs2⟩
theorem Qij {w:World}{b:Nat}{q:KV}{vt:Value}{t:LI}(hB:QS w.heap b 173 (ZC q)) (hq:P2s [] w.heap q.v q.ts) (ht:QL [] w.heap vt t)
  (hts:∀p∈q.ts,0≤p.1∧p.1<(t.length:Int)∧-65536≤p.2∧p.2≤65536) (h8:q.ts.length≤8) (htb:∀i,i<t.length→0≤cget t i∧cget t i≤4096) :
  QG prog 253 ([vt]++[.pointer (some ⟨b,0,none⟩)]) w λr w'=>r=.bool (VE t q.k)∧Step [] w w':=by
 refine QG.of_W func253 rfl ntmps253 results253 (by simp) ?_
 refine Qc<|Qf ?_
 have hd:Step [] w { w with drawn:=w.drawn+1 }:=Step.drew _ _
 refine Qg<|QT (Step [] { w with drawn:=w.drawn+1 }) [(0,true),(1,true),(3,true),(4,true),(2,false),(5,true),(6,true)] mixed (by rfl) (by kernel_rfl) (Step.refl _ _) ?_
 refine pq (λ_ hc=>Qn ((hB.ext hd).ext hc) rfl rfl)<|p (λ_=>Qo)<|p (λ_=>Qa rfl)<|pq (λ_ hc=>Qd ((hB.ext hd).ext hc) rfl rfl)<|pk<|xf<|(Qd5 (hq.ext hd) (ht.ext hd) hts h8 htb).mono ?_
 rintro r1 w1 ⟨rfl,hs1⟩
 refine ⟨hs1,?_⟩
 refine p (λ_=>ZL rfl rfl)<|p (λ_=>Qe)<|pe ?_
 exact Qk ⟨[_],⟨rfl,trivial⟩,rfl,hd.trans hs1⟩
inductive Cd where
 | ex (b:Nat) (q:XV)
 | co (b:Nat) (q:KV)
def Cd.val:Cd→Value
 | .ex b _=>.func (.func 250) #[] #[.pointer (some ⟨b,0,none⟩)]
 | .co b _=>.func (.func 253) #[] #[.pointer (some ⟨b,0,none⟩)]
def Cd.src:Cd→Sum XV KV
 | .ex _ q=>.inl q
 | .co _ q=>.inr q
def Qda (t:LI):Sum XV KV→Bool
 | .inl q=>KD t q.x
 | .inr q=>VE t q.k
def Cd.vio (t:LI) (c:Cd):Bool:=Qda t c.src
abbrev Vy (c:Cd):LV:=[c.val]
theorem Qj7 (c:Cd):(Vy c).length=1:=rfl
def CdA (H:Array Obj):Cd→Prop
 | .ex b q=>QS H b 107 (Zy q)∧P2s [] H q.v q.ls
 | .co b q=>QS H b 173 (ZC q)∧P2s [] H q.v q.ts
theorem CdA.ext {w w':World}{c:Cd}(h:CdA w.heap c) (hs:Step [] w w'):CdA w'.heap c:=by
 cases c with
 | ex b q=>exact ⟨h.1.ext hs,h.2.ext hs⟩
 | co b q=>exact ⟨h.1.ext hs,h.2.ext hs⟩
def Cd.rg (n:Nat):Cd→Prop
 | .ex _ q=>∀p∈q.ls,0≤p.1∧p.1<(n:Int)
 | .co _ q=>(∀p∈q.ts,0≤p.1∧p.1<(n:Int)∧-65536≤p.2∧p.2≤65536)∧q.ts.length≤8
theorem Qai {q:XV}(w:World):QG prog 239 [.agg (Zy q).toArray] w λr w'=>Step [] w w'∧∃b,r=(Cd.ex b q).val∧w.heap.size≤b∧QS w'.heap b 107 (Zy q):=by
 refine QG.of_W func239 rfl ntmps239 results239 (by simp) ?_
 refine Qc<|xl rfl<|QQ (us:=Zy q) rfl λb1 w1 hs1 hb1 hB1=>Qf<|Qc<|x Zk<|Qf ?_
 exact Qk ⟨[_],⟨rfl,trivial⟩,hs1,b1,rfl,hb1,hB1⟩
theorem Qbr {q:KV}(w:World):QG prog 240 [.agg (ZC q).toArray] w λr w'=>Step [] w w'∧∃b,r=(Cd.co b q).val∧w.heap.size≤b∧QS w'.heap b 173 (ZC q):=by
 refine QG.of_W func240 rfl ntmps240 results240 (by simp) ?_
 refine Qc<|xl rfl<|QQ (us:=ZC q) rfl λb1 w1 hs1 hb1 hB1=>Qf<|Qc<|x Zk<|Qf ?_
 exact Qk ⟨[_],⟨rfl,trivial⟩,hs1,b1,rfl,hb1,hB1⟩
def CdB (H:Array Obj):Cd→Prop
 | .ex b q=>QS H b 107 (Zy q)
 | .co b q=>QS H b 173 (ZC q)
def Cd.blk:Cd→Nat
 | .ex b _=>b
 | .co b _=>b
theorem CdB.lt {H:Array Obj}{c:Cd}(h:CdB H c):c.blk<H.size:=by cases c <;> exact QS.lt h
theorem CdB.step {X:LN}{w w':World}{c:Cd}(h:CdB w.heap c) (hs:Step X w w') (hX:c.blk∉X):CdB w'.heap c:=by
 cases c <;> exact QS.step h hs hX
structure CdL (base:Nat) (w:World) (v:Value) (cds:List Cd):Prop where
 own:w.ownsRow base 355 1 v cds.length (cds.flatMap Vy)
 bx:∀c∈cds,CdB w.heap c∧c.blk∉ob v
theorem CdL.add {base:Nat}{w w7 w8:World}{v v8:Value}{cds:List Cd}{c:Cd}(h:CdL base w v cds) (hs:Step [] w w7) (hc:CdB w7.heap c) (hb:w.heap.size≤c.blk)
  (ho:w8.ownsRow base 355 1 v8 (cds.length+1) (cds.flatMap Vy++[c.val])) (hs8:Step (ob v) w7 w8) (hn:∀b∈ob v8,b∈ob v∨w7.heap.size≤b):CdL base w8 v8 (cds++[c]):=by
 have hlt:=Q0 h.own
 have hcv:c.blk∉ob v:=λhm=>by have:=hlt _ hm;omega
 refine ⟨?_,λd hd=>?_⟩
 ·rw[List.length_append,List.flatMap_append];simpa using ho
 ·have key:CdB w7.heap d∧d.blk∉ob v:=by
   rcases List.mem_append.1 hd with hd | hd
   ·exact ⟨(h.bx d hd).1.step hs (by simp),(h.bx d hd).2⟩
   ·simp only[List.mem_singleton] at hd;subst hd;exact ⟨hc,hcv⟩
  refine ⟨key.1.step hs8 key.2,λhm=>?_⟩
  rcases hn _ hm with h1 | h1
  ·exact key.2 h1
  ·have:=key.1.lt;omega
set_option maxHeartbeats 4000000 in
theorem Qf8 {w:World}{vs vx vk:Value}{qx:List XV}{ks:List KV}(hX:Ux [] w.heap vx qx) (hK:yd [] w.heap vk ks) (hxl:qx.length≤32) (hkl:ks.length≤32) :
  QG prog 214 [.agg #[vs,vx,vk]] w λr w'=>Step [] w w'∧∃cds,CdL w.heap.size w' r cds∧cds.map Cd.src=qx.map Sum.inl++ks.map Sum.inr:=by
 refine QG.of_W func214 rfl ntmps214 results214 (by simp) ?_
 refine Qc<|xl rfl<|QQ (us:=[vs,vx,vk]) rfl λb1 w1 hs1 hb1 hB1=>Qf ?_
 have hz1:=hs1.size
 refine Qc<|Qf<|Qg<|Qc<|x (Qa rfl)<|x (Qd hB1 rfl rfl)<|x (Qs (hX.ext hs1).arr rfl)<|Qb<|xe ?_
 refine Qh<|QA (α:=Nat×Value×List Cd) [(3,3),(5,5),(11,20)] (λz=>[(3,z.2.1),(11,.int .i64 z.1)]) (λz w'=>z.1≤qx.length∧Step [] w1 w'∧CdL w1.heap.size w' z.2.1 z.2.2∧z.2.2.map Cd.src=(qx.take z.1).map Sum.inl) (λz=>qx.length - z.1) (by rfl) (0,nS,[]) ⟨rfl,rfl,trivial⟩
  ⟨Nat.zero_le _,Step.refl _ _,⟨QP _ _ _ _,λc hc=>(by cases hc)⟩,rfl⟩ ?_
 rintro ⟨k,vo,cds⟩ g wA ⟨hk,hsA,hL,hsrc⟩
 simp only[] at hk hL hsrc
 have hcl:cds.length=k:=by have:=congrArg List.length hsrc;simp at this;omega
 refine Qc<|x (QB rfl rfl)<|xe ?_
 refine Qg<|QD rfl (λhc1=>?_) (λhc1=>?_)
 ·refine Qz ?_
  have hke:qx.length≤k:=by have h16:¬(k:Int)<(qx.length:Int):=hc1;omega
  rw[List.take_of_length_le hke] at hsrc
  refine Qg<|Qc<|x (Qa rfl)<|x (Qd (hB1.ext hsA) rfl rfl)<|x (Qs ((hK.ext hs1).ext hsA).arr rfl)<|Qb<|xe ?_
  refine Qh<|QA (α:=Nat×Value×List Cd) [(3,3),(7,7),(24,33)] (λz=>[(3,z.2.1),(24,.int .i64 z.1)]) (λz w'=>z.1≤ks.length∧Step [] w1 w'∧CdL w1.heap.size w' z.2.1 z.2.2∧z.2.2.map Cd.src=qx.map Sum.inl++(ks.take z.1).map Sum.inr) (λz=>ks.length - z.1) (by rfl) (0,vo,cds) ⟨rfl,rfl,trivial⟩
   ⟨Nat.zero_le _,hsA,hL,by simp only[];rw[hsrc];simp⟩ ?_
  rintro ⟨j,vp,cdt⟩ g wB ⟨hj,hsB,hLB,hsrcB⟩
  simp only[] at hj hLB hsrcB
  have hclB:cdt.length=qx.length+j:=by have:=congrArg List.length hsrcB;simp at this;omega
  refine Qc<|x (QB rfl rfl)<|xe ?_
  refine Qg<|QD rfl (λhc2=>?_) (λhc2=>?_)
  ·refine Qz ?_
   have hje:ks.length≤j:=by have h16:¬(j:Int)<(ks.length:Int):=hc2;omega
   rw[List.take_of_length_le hje] at hsrcB
   refine Qc<|Qb<|Qf ?_
   exact Qk ⟨[_],⟨rfl,trivial⟩,hs1.trans hsB,cdt,⟨Zb hLB.own hz1,hLB.bx⟩,hsrcB⟩
  have hltB:j<ks.length:=by have h16:(j:Int)<(ks.length:Int):=hc2;omega
  have hmemB:=List.getElem_mem hltB
  have htkB:ks.take (j+1)=ks.take j++[ks[j]'hltB]:=List.take_succ_eq_append_getElem hltB
  refine Qi<|Qg<|Qh<|Qc<|xig Jq ((hK.ext hs1).ext hsB).arr rfl rfl hltB λaA hA=>?_
  refine Zc (ks[j]'hltB) λq hq=>?_
  rw[hq] at hA hmemB htkB
  have hqA:=((hK.ext hs1).ext hsB).each q hmemB
  refine x (QJ hA rfl rfl)<|xl rfl<|Qr (us:=[.string .empty,nS,.int .i64 0]) rfl λb7 w4 hs4 hb7 hB7=>xl rfl<|Ql (us:=ZC q) hB7 rfl rfl rfl rfl ⟨rfl,hqA.one,rfl,trivial⟩ λw5 hs5 hB7'=>xe ?_
  have hsB5:Step [] wB w5:=hs4.then1 hs5 hb7
  refine Qx<|Qb<|x (Qn hB7' rfl rfl)<|xl rfl<|xf<|(Qbr w5).mono ?_
  rintro r6 w6 ⟨hs6,b6,rfl,hb6,hB6⟩
  refine xl rfl<|QH (us:=[[(Cd.co b6 q).val]]) rfl rfl (by decide) (by simp) ⟨rfl,rfl,trivial⟩ λb31 w7 hs7 hb31 hB31=>?_
  have hsB7:=(hsB5.trans hs6).trans hs7
  have hz7:=(hsB.trans hsB7).size
  have hz5:=hsB5.size
  refine xl rfl<|Q5 (news:=[(Cd.co b6 q).val]) (L:=[]) (Qu hLB.own hsB7) rfl rfl rfl (hB31.at (by simp)) (by simp[Cd.val,Value.oneCell']) (by omega) (by omega) λv8 w8 ho8 hs8 hn8 =>
   Qf ?_
  have hge:=Qq hLB.own
  have hL8:=hLB.add (c:=Cd.co b6 q) hsB7 (QS.ext hB6 hs7) (by show _≤b6;omega) ho8 hs8 hn8
  have hsB8:Step [] w1 w8:=(hsB.trans hsB7).then hs8 (λb hb=>.inr (hge b hb).1)
  refine Qx<|x (Qy rfl rfl ⟨by omega,by omega⟩)<|Qb<|xe ?_
  exact ⟨(j+1,v8,cdt++[Cd.co b6 q]),by simp only[];omega,⟨rfl,rfl,trivial⟩,hltB,hsB8,hL8,by simp only[];rw[List.map_append,hsrcB,htkB];simp[Cd.src]⟩
 have hltA:k<qx.length:=by have h16:(k:Int)<(qx.length:Int):=hc1;omega
 have hmemA:=List.getElem_mem hltA
 have htkA:qx.take (k+1)=qx.take k++[qx[k]'hltA]:=List.take_succ_eq_append_getElem hltA
 refine Qi<|Qg<|Qh<|Qc<|xig JL ((hX.ext hs1).ext hsA).arr rfl rfl hltA λaA hA=>?_
 refine Zc (qx[k]'hltA) λq hq=>?_
 rw[hq] at hA hmemA htkA
 have hqA:=((hX.ext hs1).ext hsA).each q hmemA
 refine x (QJ hA rfl rfl)<|xl rfl<|Qr (us:=[.string .empty,nS]) rfl λb7 w4 hs4 hb7 hB7=>xl rfl<|Ql (us:=Zy q) hB7 rfl rfl rfl rfl ⟨rfl,hqA.one,trivial⟩ λw5 hs5 hB7'=>xe ?_
 have hsB5:Step [] wA w5:=hs4.then1 hs5 hb7
 refine Qx<|Qb<|x (Qn hB7' rfl rfl)<|xl rfl<|xf<|(Qai w5).mono ?_
 rintro r6 w6 ⟨hs6,b6,rfl,hb6,hB6⟩
 refine xl rfl<|QH (us:=[[(Cd.ex b6 q).val]]) rfl rfl (by decide) (by simp) ⟨rfl,rfl,trivial⟩ λb31 w7 hs7 hb31 hB31=>?_
 have hsB7:=(hsB5.trans hs6).trans hs7
 have hz7:=(hsA.trans hsB7).size
 have hz5:=hsB5.size
 refine xl rfl<|Q5 (news:=[(Cd.ex b6 q).val]) (L:=[]) (Qu hL.own hsB7) rfl rfl rfl (hB31.at (by simp)) (by simp[Cd.val,Value.oneCell']) (by omega) (by omega) λv8 w8 ho8 hs8 hn8 =>
  Qf ?_
 have hge:=Qq hL.own
 have hL8:=hL.add (c:=Cd.ex b6 q) hsB7 (QS.ext hB6 hs7) (by show _≤b6;omega) ho8 hs8 hn8
 have hsB8:Step [] w1 w8:=(hsA.trans hsB7).then hs8 (λb hb=>.inr (hge b hb).1)
 refine Qx<|x (Qy rfl rfl ⟨by omega,by omega⟩)<|Qb<|xe ?_
 exact ⟨(k+1,v8,cds++[Cd.ex b6 q]),by simp only[];omega,⟨rfl,rfl,trivial⟩,hltA,hsB8,hL8,by simp only[];rw[List.map_append,hsrc,htkA];simp[Cd.src]⟩
theorem QjJ {gp:Nat}{fn:Func}[Fu prog gp fn] {cap:LV}{q:Cd→Bool}{L:LN}{w:World}{v:Value}{l:List Cd}(h:Zw L w.heap v l.length 1 (l.flatMap Vy))
  (hk:∀e∈l,∀(w1:World),Step [] w w1→QG prog gp ([e.val]++cap) w1 λr w'=>r=.bool (q e)∧Step [] w1 w') :
  QG prog 237 [v,.func (.func gp) #[] cap.toArray] w λr w'=>r=.int .i64 (fix q 0 l)∧Step [] w w':=by
 have hle:=h.le
 refine QG.of_W func237 rfl ntmps237 results237 (by simp) ?_
 refine Qc<|Qf<|Qg<|Qc<|Qb<|x (Qs h rfl)<|Qb<|xe ?_
 refine Qh<|QA (α:=Nat) [(4,5),(8,18)] (λz=>[(8,.int .i64 z)]) (λz w'=>z≤l.length∧Step [] w w'∧fix q z (l.drop z)=fix q 0 l) (λz=>l.length - z) (by rfl) 0 ⟨rfl,trivial⟩
  ⟨Nat.zero_le _,Step.refl _ _,rfl⟩ ?_
 rintro k g w1 ⟨hk1,hs1,hfx⟩
 refine Qc<|x (QB rfl rfl)<|xe ?_
 refine Qg<|QD rfl (λh9=>?_) (λh9=>?_)
 ·refine Qz ?_
  have hke:l.length≤k:=by have h10:¬(k:Int)<(l.length:Int):=h9;omega
  rw[List.drop_of_length_le hke] at hfx
  refine Qc<|Qf ?_
  exact Qk ⟨[_],⟨rfl,trivial⟩,by rw[←hfx];rfl,hs1⟩
 have hlt:k<l.length:=by have h10:(k:Int)<(l.length:Int):=h9;omega
 rw[Q6 hlt,Z0] at hfx
 have hmem:=List.getElem_mem hlt
 refine Qi<|Qg<|Qh<|Qc<|Qb<|Qf<|Qc<|Qb<|Qb<|Qb<|xig Qj7 (h.ext hs1) rfl rfl hlt λa14 h14=>?_
 refine Zc (l[k]'hlt) λe he=>?_
 rw[he] at h14 hfx hmem
 refine x (Qw h14 rfl)<|xl rfl<|xc (first:=[]) (capt:=cap) rfl<|(hk e hmem w1 hs1).mono ?_
 rintro r2 w2 ⟨rfl,hs2⟩
 refine xe ?_
 refine QY rfl (λh16=>?_) (λh16=>?_)
 ·rw[if_pos h16] at hfx
  refine Qc<|Qb<|Qf ?_
  exact Qk ⟨[_],⟨rfl,trivial⟩,by rw[←hfx];rfl,hs1.trans hs2⟩
 rw[if_neg (by rw[h16];decide)] at hfx
 refine Qi<|Qx<|x (Qy rfl rfl ⟨by omega,by omega⟩)<|Qb<|xe ?_
 exact ⟨k+1,by omega,⟨rfl,trivial⟩,hlt,hs1.trans hs2,hfx⟩
theorem Qit {w:World}{c:Cd}{vt:Value}{t:LI}(hc:CdA w.heap c) (ht:QL [] w.heap vt t) (hr:c.rg t.length) (htb:∀i,i<t.length→0≤cget t i∧cget t i≤4096) :
  ∃g fn cap,c.val=.func (.func g) #[] [cap].toArray∧Fu prog g fn∧QG prog g ([vt]++[cap]) w λr w'=>r=.bool (c.vio t)∧Step [] w w':=by
 cases c with
 | ex b q=>exact ⟨_,_,_,rfl,inferInstance,Qik hc.1 hc.2 ht hr⟩
 | co b q=>exact ⟨_,_,_,rfl,inferInstance,Qij hc.1 hc.2 ht hr.1 hr.2 htb⟩
theorem Qd1 {w:World}{bt:Nat}{c:Cd}{vt:Value}{t:LI}(hB:QS w.heap bt 40 [vt]) (hc:CdA w.heap c) (ht:QL [] w.heap vt t) (hr:c.rg t.length) (htb:∀i,i<t.length→0≤cget t i∧cget t i≤4096) :
  QG prog 238 ([c.val]++[.pointer (some ⟨bt,0,none⟩)]) w λr w'=>r=.bool (c.vio t)∧Step [] w w':=by
 obtain ⟨gq,fn,cap,hv,hF,hcall⟩:=Qit hc ht hr htb
 rw[hv]
 refine QG.of_W func238 rfl ntmps238 results238 (by simp) ?_
 refine Qc<|Qf<|Qc<|Qb<|x (Qd hB rfl rfl)<|xl rfl<|xc (g:=gq) (fn:=fn) (first:=[]) (capt:=[cap]) rfl<|hcall.mono ?_
 rintro r1 w1 ⟨rfl,hs1⟩
 refine Qf ?_
 exact Qk ⟨[_],⟨rfl,trivial⟩,rfl,hs1⟩
theorem jn {L:LN}{w:World}{v vt:Value}{cds:List Cd}{t:LI}(h:Zw L w.heap v cds.length 1 (cds.flatMap Vy)) (hc:∀c∈cds,CdA w.heap c) (ht:QL [] w.heap vt t) (hr:∀c∈cds,c.rg t.length) (htb:∀i,i<t.length→0≤cget t i∧cget t i≤4096) :
  QG prog 213 [v,vt] w λr w'=>r=.int .i64 (fix (Cd.vio t) 0 cds)∧Step [] w w':=by
 refine QG.of_W func213 rfl ntmps213 results213 (by simp) ?_
 refine Qc<|xl rfl<|QQ (us:=[vt]) ht.cells λb3 w1 hs1 hb3 hB3=>Qf<|Qc<|Qb<|x Zk<|xl rfl<|xf<|(QjJ (q:=Cd.vio t) (cap:=[.pointer (some ⟨b3,0,none⟩)]) (h.ext hs1) (λc hm w2 hs2=>Qd1 (hB3.ext hs2) (((hc c hm).ext hs1).ext hs2) ((ht.ext hs1).ext hs2) (hr c hm) htb)).mono ?_
 rintro r2 w2 ⟨rfl,hs2⟩
 refine Qf ?_
 exact Qk ⟨[_],⟨rfl,trivial⟩,rfl,hs1.trans hs2⟩
theorem Qge {w:World}{vs vx vk vt:Value}{sz t:LI}(hS:QL [] w.heap vs sz) (ht:QL [] w.heap vt t) (h:QiN sz t) :
  QG prog 236 [.agg #[vs,vx,vk],vt] w λr w'=>r=.int .i64 0∧Step [] w w':=by
 have htl:=ht.le
 have h0:=h.1
 refine QG.of_W func236 rfl ntmps236 results236 (by simp) ?_
 refine Qc<|xl rfl<|QQ (us:=[vs,vx,vk]) rfl λb2 w1 hs1 hb2 hB2=>Qf<|Qg<|Qc<|Qb<|x (Qs (ht.ext hs1) rfl)<|x (Qa rfl)<|x (Qd hB2 rfl rfl)<|x (Qs (hS.ext hs1) rfl)<|x (Q4 rfl rfl) <|
  xe ?_
 refine QD rfl (λh12=>?_) (λh12=>?_)
 ·refine Qi<|Qg<|Qc<|Qb<|x (Qs (ht.ext hs1) rfl)<|Qb<|xe ?_
  refine Qh<|QA (α:=Nat) [(4,6),(15,31)] (λz=>[(15,.int .i64 z)]) (λz w'=>z≤t.length∧w'=w1) (λz=>t.length - z) (by rfl) 0 ⟨rfl,trivial⟩ ⟨Nat.zero_le _,rfl⟩ ?_
  rintro k g w2 ⟨hk,rfl⟩
  refine Qc<|x (QB rfl rfl)<|xe ?_
  refine Qg<|QD rfl (λh16=>?_) (λh16=>?_)
  ·refine Qz ?_
   refine Qc<|Qf ?_
   exact Qk ⟨[_],⟨rfl,trivial⟩,rfl,hs1⟩
  have hlt:k<t.length:=by have h17:(k:Int)<(t.length:Int):=h16;omega
  have hb:=h.2 k hlt
  refine Qi<|Qg<|Qh<|Qc<|Qb<|xic (i:=k) (ht.ext hs1) rfl rfl hlt λa18 h18=>x (Qw h18 rfl)<|x Qe<|Qf<|QW (α:=Unit) [(20,30)] (λz=>[(30,.bool false)]) (λz w'=>w'=w2) (by rfl) ?_ ?_
  ·refine Qx<|Qb<|xb (QB rfl rfl) (λh21=>by omega) (λh21=>?_)
   refine Qb<|Qb<|x (Qa rfl)<|x (Qd hB2 rfl rfl)<|Qb<|xic (i:=k) (hS.ext hs1) rfl rfl (by omega) λa27 h27=>x (Qw h27 rfl) <|
    x (ZM rfl rfl)<|x (Qp rfl)<|xe ?_
   exact ⟨(),⟨congrArg Value.bool (decide_eq_false (by omega)),trivial⟩,rfl⟩
  rintro _ g w3 rfl
  refine Yr rfl ?_
  refine Qi<|Qx<|x (Qy rfl rfl ⟨by omega,by omega⟩)<|Qb<|xe ?_
  exact ⟨k+1,by omega,⟨rfl,trivial⟩,hlt,rfl⟩
 ·exact absurd (show (t.length:Int)=(sz.length:Int) by omega) h12
theorem zf {w:World}{vs vx vk vt:Value}{sz t:LI}{qx:List XV}{ks:List KV}(hS:QL [] w.heap vs sz) (hX:Ux [] w.heap vx qx) (hK:yd [] w.heap vk ks) (ht:QL [] w.heap vt t) (hc:YD sz (qx.map (·.x)) (ks.map (·.k))=0) (h:QiN sz t) :
  QG prog 212 [.agg #[vs,vx,vk],vt] w λr w'=>r=.int .i64 0∧Step [] w w':=by
 refine QG.of_W func212 rfl ntmps212 results212 (by simp) ?_
 refine Qc<|xl rfl<|QQ (us:=[vs,vx,vk]) rfl λb2 w1 hs1 hb2 hB2=>Qf<|Qg<|Qc<|x (Qn hB2 rfl rfl)<|xl rfl<|xf<|(qf (hS.ext hs1) (hX.ext hs1) (hK.ext hs1)).mono ?_
 rintro r2 w2 ⟨hr2,hs2⟩
 rw[hc] at hr2
 subst hr2
 refine Qf<|Qc<|Qb<|x (Q4 rfl rfl)<|xe ?_
 refine Yr rfl ?_
 refine Qi ?_
 have hs12:=hs1.trans hs2
 refine Qc<|x (Qn (hB2.ext hs2) rfl rfl)<|Qb<|xl rfl<|xf<|(Qge (hS.ext hs12) (ht.ext hs12) h).mono ?_
 rintro r3 w3 ⟨rfl,hs3⟩
 refine Qf ?_
 exact Qk ⟨[_],⟨rfl,trivial⟩,rfl,hs12.trans hs3⟩
def qU (qx:List Exc) (ks:List X5) (t:LI):Int×Int×Bool :=
 if 0≤fix (KD t) 0 qx then (1,fix (KD t) 0 qx,true) else if 0≤fix (VE t) 0 ks then (2,fix (VE t) 0 ks,true) else (0,0,false)
theorem Qh7 {cds:List Cd}{qx:List XV}{ks:List KV}(t:LI) (h:cds.map Cd.src=qx.map Sum.inl++ks.map Sum.inr) :
  fix (Cd.vio t) 0 cds=if 0≤fix (KD t) 0 (qx.map (·.x)) then fix (KD t) 0 (qx.map (·.x)) else if 0≤fix (VE t) 0 (ks.map (·.k)) then fix (VE t) 0 (ks.map (·.k))+qx.length else -1:=by
 have h1:fix (Cd.vio t) 0 cds=fix (Qda t) 0 (cds.map Cd.src):=(Kg (Qda t) Cd.src cds 0).symm
 rw[h1,h,qb,Kg,List.length_map,zP,Kg (Qda t) Sum.inr ks 0]
 have e1:fix (λa=>Qda t (Sum.inl a)) 0 qx=fix (KD t) 0 (qx.map (·.x)):=(Kg (KD t) XV.x qx 0).symm
 have e2:fix (λa=>Qda t (Sum.inr a)) 0 ks=fix (VE t) 0 (ks.map (·.k)):=(Kg (VE t) KV.k ks 0).symm
 rw[e1,e2]
theorem Qjk {P:Int×Int×Bool}{a b:Int}{c:Bool}(h:P=(a,b,c)):(Value.tuple #[.int .i64 a,.int .i64 b,.bool c,.int .i64 0])=.tuple #[.int .i64 P.1,.int .i64 P.2.1,.bool P.2.2,.int .i64 0]:=by rw[h]
set_option maxHeartbeats 4000000 in
theorem QaM {w:World}{vs vx vk vt:Value}{sz t:LI}{qx:List XV}{ks:List KV}(hS:QL [] w.heap vs sz) (hX:Ux [] w.heap vx qx) (hK:yd [] w.heap vk ks) (ht:QL [] w.heap vt t) (hc:YD sz (qx.map (·.x)) (ks.map (·.k))=0) (h:QiN sz t) :
  QG prog 176 [.agg #[vs,vx,vk],vt] w λr w'=>Step [] w w'∧r=.tuple #[.int .i64 (qU (qx.map (·.x)) (ks.map (·.k)) t).1,.int .i64 (qU (qx.map (·.x)) (ks.map (·.k)) t).2.1,.bool (qU (qx.map (·.x)) (ks.map (·.k)) t).2.2,.int .i64 0]:=by
 have hok:=Ua hc
 have hxl:qx.length≤32:=by have:=hok.xl;simpa using this
 have hkl:ks.length≤32:=by have:=hok.kl;simpa using this
 refine QG.of_W func176 rfl ntmps176 results176 (by simp) ?_
 refine Qc<|xl rfl<|QQ (us:=[vs,vx,vk]) rfl λb2 w1 hs1 hb2 hB2=>x Qe<|x Qe<|x Qe<|Qf<|Qg<|Qc<|x (Qn hB2 rfl rfl)<|Qb<|xl rfl<|xf<|(zf (hS.ext hs1) (hX.ext hs1) (hK.ext hs1) (ht.ext hs1) hc h).mono ?_
 rintro r2 w2 ⟨rfl,hs2⟩
 refine Qf<|Qc<|Qb<|x (Q4 rfl rfl)<|xe ?_
 refine Yr rfl ?_
 refine Qi ?_
 have hs12:=hs1.trans hs2
 have hB22:=hB2.ext hs2
 refine Qc<|x (Qn hB22 rfl rfl)<|xl rfl<|xf<|(Qf8 (hX.ext hs12) (hK.ext hs12) hxl hkl).mono ?_
 rintro r3 w3 ⟨hs3,cds,hL,hsrc⟩
 have hs13:=hs12.trans hs3
 have hcl:cds.length=qx.length+ks.length:=by have:=congrArg List.length hsrc;simpa using this
 have htb:∀i,i<t.length→0≤cget t i∧cget t i≤4096:=λi hi=>by
  have h1:=h.2 i hi
  have h2:i<sz.length:=by rw[←h.1];exact hi
  have h3:=hok.s _ (List.getElem_mem h2)
  rw[Zg h2] at h3
  omega
 have hmem:∀c∈cds,c.src∈qx.map Sum.inl++ks.map Sum.inr:=λc hm=>by rw[←hsrc];exact List.mem_map_of_mem hm
 have hcA:∀c∈cds,CdA w3.heap c:=λc hm=>by
  have h1:=hmem c hm
  have h2:=(hL.bx c hm).1
  cases c with
  | ex b q =>
   have hq:q∈qx:=by simpa[Cd.src] using h1
   exact ⟨h2,(hX.each q hq).ext hs13⟩
  | co b q =>
   have hq:q∈ks:=by simpa[Cd.src] using h1
   exact ⟨h2,(hK.each q hq).ext hs13⟩
 have hrg:∀c∈cds,c.rg t.length:=λc hm=>by
  have h1:=hmem c hm
  rw[h.1]
  cases c with
  | ex b q =>
   have hq:q∈qx:=by simpa[Cd.src] using h1
   exact hok.x q.x (List.mem_map_of_mem hq)
  | co b q =>
   have hq:q∈ks:=by simpa[Cd.src] using h1
   exact hok.k q.k (List.mem_map_of_mem hq)
 have hfx:=Qh7 t hsrc
 have g1:=Qbq (KD t) (qx.map (·.x)) 0
 have g2:=Qbq (VE t) (ks.map (·.k)) 0
 simp only[List.length_map] at g1 g2
 refine Qb<|xl rfl<|xf<|(jn (QV (L:=[]) hL.own (by omega) (by simp)) hcA (ht.ext hs13) hrg htb).mono ?_
 rintro r4 w4 ⟨rfl,hs4⟩
 rw[hfx]
 have hs14:=hs13.trans hs4
 refine Zc (qU (qx.map (·.x)) (ks.map (·.k)) t) λP hP=>?_
 rw[hP]
 unfold qU at hP
 refine Zc (fix (KD t) 0 (qx.map (·.x))) λi1 hi1=>?_
 refine Zc (fix (VE t) 0 (ks.map (·.k))) λi2 hi2=>?_
 rw[hi1,hi2] at hP
 rw[hi1] at g1
 rw[hi2] at g2
 refine Zc (if 0≤i1 then i1 else if 0≤i2 then i2+(qx.length:Int) else -1) λr hr=>?_
 rw[hi1,hi2,hr]
 refine Qf<|Qh<|Qc<|Qb<|x (QB rfl rfl)<|Qf<|Q3 rfl (λh25=>?_) (λh25=>?_)
 ·have n1:¬0≤i1:=λh=>by rw[if_pos h] at hr;omega
  have n2:¬0≤i2:=λh=>by rw[if_neg n1,if_pos h] at hr;omega
  refine Qc<|x Qe<|x Qe<|x Qe<|Qf ?_
  exact Qk ⟨[_,_,_,_],⟨rfl,rfl,rfl,rfl,trivial⟩,hs14,Qjk (by rw[←hP,if_neg n1,if_neg n2])⟩
 have hB24:=(hB22.ext hs3).ext hs4
 refine Qc<|Qb<|x (Qa rfl)<|x (Qd hB24 rfl rfl)<|x (Qs (hX.ext hs14).arr rfl)<|x (QB rfl rfl)<|Qf<|Q3 rfl (λh28=>?_) (λh28=>?_)
 ·have p1:0≤i1:=by
   refine Decidable.not_not.1 λn1=>?_
   by_cases h:0≤i2
   ·rw[if_neg n1,if_pos h] at hr;omega
   ·rw[if_neg n1,if_neg h] at hr;omega
  have e:r=i1:=by rw[if_pos p1] at hr;exact hr.symm
  refine Qc<|Qb<|x Qe<|x Qe<|x Qe<|Qf ?_
  exact Qk ⟨[_,_,_,_],⟨rfl,rfl,rfl,rfl,trivial⟩,hs14,Qjk (by rw[←hP,if_pos p1,e])⟩
 have n1:¬0≤i1:=λh=>by rw[if_pos h] at hr;omega
 have p2:0≤i2:=by
  refine Decidable.not_not.1 λn2=>?_
  rw[if_neg n1,if_neg n2] at hr;omega
 have e:r - (qx.length:Int)=i2:=by rw[if_neg n1,if_pos p2] at hr;omega
 refine Qg<|QT (Step [] w4) [(0,true),(1,true),(2,true),(3,true),(4,true),(5,true),(6,true),(7,true),(8,true)] mixed (by rfl) (by kernel_rfl) (Step.drew _ _) ?_
 refine p (λ_=>Qo)<|p (λ_=>Qa rfl)<|pq (λ_ hc=>Qd (hB24.ext hc) rfl rfl)<|p (λ_=>Qs (hX.ext hs14).arr rfl) <|
  p (λ_=>X6 rfl rfl ⟨by omega,by omega⟩)<|p (λ_=>Qe)<|p (λ_=>Qe)<|p (λ_=>Qe)<|p (λ_=>Qe) <|
  pe ?_
 exact Qk ⟨[_,_,_,_],⟨rfl,rfl,rfl,rfl,trivial⟩,hs14.trans (Step.drew _ _),Qjk (by rw[←hP,if_neg n1,if_pos p2,←e])⟩
def ZQ (base:Nat) (av:LN) (H:Array Obj) (v:Value) (n sz:Nat) (cs:LV):Prop:=∀L:LN,(∀b∈L,b<base∨b∈av)→Zw L H v n sz cs
theorem ZQ.ext {base:Nat}{av:LN}{w w':World}{v:Value}{n sz:Nat}{cs:LV}(h:ZQ base av w.heap v n sz cs) (hs:Step [] w w'):ZQ base av w'.heap v n sz cs:=λL hL=>(h L hL).ext hs
theorem ZQ.app {base:Nat}{av av':LN}{w w':World}{v:Value}{n sz:Nat}{cs:LV}(h:ZQ base av w.heap v n sz cs) (hs:Step av w w') (hn:∀b∈av',b∈av∨w.heap.size≤b):ZQ base av' w'.heap v n sz cs:=by
 intro L hL
 have h1:Zw (av++L.filter λb=>decide (b<base)) w.heap v n sz cs:=h _ (λb hb=>by
  rcases List.mem_append.1 hb with hb | hb
  ·exact .inr hb
  ·exact .inl (by simpa using (List.mem_filter.1 hb).2))
 refine h1.grow hs (λb hb=>List.mem_append.2 (.inl hb)) λb hb=>?_
 rcases hL b hb with h2 | h2
 ·exact .inl (List.mem_append.2 (.inr (List.mem_filter.2 ⟨hb,by simpa using h2⟩)))
 ·rcases hn b h2 with h3 | h3
  ·exact .inl (List.mem_append.2 (.inl h3))
  ·exact .inr h3
theorem ZQ.of_own {base N:Nat}{av:LN}{w:World}{v:Value}{e n sz:Nat}{cs:LV}(h:w.ownsRow N e sz v n cs) (hn:n≤1099511627776) (hb:base≤N) (hav:∀b∈av,b<N):ZQ base av w.heap v n sz cs:=λL hL =>
 QV h hn λb hb hbL=>by
  have h1:=(Qq h b hb).1
  rcases hL b hbL with h2 | h2
  ·omega
  ·have:=hav b h2;omega
structure ZY {α:Type}(g:α→LV) (sz T:Nat) (p:α→Value×Nat×Nat×LV) (base:Nat) (w:World) (v:Value) (l:List α):Prop where
 own:w.ownsRow base T sz v l.length (l.flatMap g)
 each:∀q∈l,ZQ base (ob v) w.heap (p q).1 (p q).2.1 (p q).2.2.1 (p q).2.2.2
theorem ZY.nil {α:Type}{g:α→LV}{sz T:Nat}{p:α→Value×Nat×Nat×LV}{base:Nat}{w:World}:ZY g sz T p base w (nS) []:=⟨QP _ _ _ _,λq hq=>by cases hq⟩
theorem ZY.ext {α:Type}{g:α→LV}{sz T:Nat}{p:α→Value×Nat×Nat×LV}{base:Nat}{w w':World}{v:Value}{l:List α}(h:ZY g sz T p base w v l) (hs:Step [] w w'):ZY g sz T p base w' v l:=⟨Qu h.own hs,λq hq=>(h.each q hq).ext hs⟩
theorem ZY.app {α:Type}{g:α→LV}{sz T:Nat}{p:α→Value×Nat×Nat×LV}{base N e:Nat}{w w7 w8:World}{v v8:Value}{l:List α}{q:α}(h:ZY g sz T p base w v l) (hs:Step [] w w7)
  (hq:w7.ownsRow N e (p q).2.2.1 (p q).1 (p q).2.1 (p q).2.2.2) (hqn:(p q).2.1≤1099511627776) (hN:w.heap.size≤N) (hb:base≤w.heap.size)
  (ho:w8.ownsRow base T sz v8 (l.length+1) (l.flatMap g++g q)) (hs8:Step (ob v) w7 w8) (hn:∀b∈ob v8,b∈ob v∨w7.heap.size≤b):ZY g sz T p base w8 v8 (l++[q]):=by
 have hlt:=Q0 h.own
 refine ⟨?_,λd hd=>?_⟩
 ·rw[List.length_append,List.flatMap_append];simpa using ho
 ·rcases List.mem_append.1 hd with hd | hd
  ·exact ((h.each d hd).ext hs).app hs8 hn
  ·simp only[List.mem_singleton] at hd;subst hd
   exact (ZQ.of_own hq hqn (by omega) (λb hb=>by have:=hlt b hb;omega)).app hs8 hn
theorem qN {L L':LN}{w:World}{va vm ve va' vm' ve':Value}{a b:QM}(h:Zm L w.heap va vm ve a) (h':Zm L' w.heap va' vm' ve' b) :
  QG prog 27 [.agg #[va,.int .i64 a.st,vm,ve],.agg #[va',.int .i64 b.st,vm',ve']] w λr w'=>r=.bool (decide (a.st=b.st∧a.al=b.al∧a.mr=b.mr∧a.ed=b.ed))∧Step [] w w':=by
 refine QG.of_W func27 rfl ntmps27 results27 (by simp) ?_
 refine Qc<|xl rfl<|QQ (us:=[va,.int .i64 a.st,vm,ve]) rfl λb2 w1 hs1 hb2 hB2=>xl rfl<|QQ (us:=[va',.int .i64 b.st,vm',ve']) rfl λb3 w2 hs2 hb3 hB3=>Qf ?_
 have hs12:=hs1.trans hs2
 have hB22:=hB2.ext hs2
 refine QW (α:=Bool) [(4,30)] (λz=>[(4,.bool z)]) (λz w'=>Step [] w w'∧z=decide (a.st=b.st∧a.al=b.al∧a.mr=b.mr∧a.ed=b.ed)) (by rfl) ?_ ?_
 ·refine Qx<|x (Qa rfl)<|x (Qd hB22 rfl rfl)<|x (Qa rfl)<|x (Qd hB3 rfl rfl)<|xb (Zn rfl rfl) (λh9=>?_) (λh9=>?_)
  ·refine Qb<|x (Qa rfl)<|x (Qd hB22 rfl rfl)<|x (Qa rfl)<|x (Qd hB3 rfl rfl)<|xl rfl<|xf<|(Kh (h.al.ext hs12) (h'.al.ext hs12)).mono ?_
   rintro r3 w3 ⟨hr3,hs3⟩
   have hs13:=hs12.trans hs3
   refine QfX (decide (a.al=b.al)) (λhb3=>?_) (λhb3=>?_)
   ·rw[hb3] at hr3;subst hr3
    refine x (Qp rfl)<|Qb<|x (Qa rfl)<|x (Qd (hB22.ext hs3) rfl rfl)<|x (Qa rfl)<|x (Qd (hB3.ext hs3) rfl rfl)<|xl rfl<|xf<|(Kh (h.mr.ext hs13) (h'.mr.ext hs13)).mono ?_
    rintro r4 w4 ⟨hr4,hs4⟩
    have hs14:=hs13.trans hs4
    have hs34:=hs3.trans hs4
    refine QfX (decide (a.mr=b.mr)) (λhb4=>?_) (λhb4=>?_)
    ·rw[hb4] at hr4;subst hr4
     refine x (Qp rfl)<|Qb<|x (Qa rfl)<|x (Qd (hB22.ext hs34) rfl rfl)<|x (Qa rfl)<|x (Qd (hB3.ext hs34) rfl rfl)<|xl rfl<|xf<|(QdC (h.ed.ext hs14) (h'.ed.ext hs14)).mono ?_
     rintro r5 w5 ⟨rfl,hs5⟩
     refine x (Qp rfl)<|Qf ?_
     exact ⟨_,⟨rfl,trivial⟩,hs14.trans hs5,bD ⟨λe=>⟨h9,of_decide_eq_true hb3,of_decide_eq_true hb4,e⟩,λe=>e.2.2.2⟩⟩
    rw[hb4] at hr4;subst hr4
    refine x (Qp rfl)<|Qb<|xs rfl<|xs rfl<|xs rfl<|xs rfl<|xs rfl<|x (Qp rfl)<|Qf ?_
    exact ⟨_,⟨rfl,trivial⟩,hs14,bF (λe=>of_decide_eq_false hb4 e.2.2.1)⟩
   rw[hb3] at hr3;subst hr3
   refine x (Qp rfl)<|Qb<|xs rfl<|xs rfl<|xs rfl<|xs rfl<|xs rfl<|x (Qp rfl)<|Qb<|xs rfl<|xs rfl<|xs rfl<|xs rfl<|xs rfl<|x (Qp rfl) <|
    Qf ?_
   exact ⟨_,⟨rfl,trivial⟩,hs13,bF (λe=>of_decide_eq_false hb3 e.2.1)⟩
  refine Qb<|xs rfl<|xs rfl<|xs rfl<|xs rfl<|xs rfl<|x (Qp rfl)<|Qb<|xs rfl<|xs rfl<|xs rfl<|xs rfl<|xs rfl<|x (Qp rfl) <|
   Qb<|xs rfl<|xs rfl<|xs rfl<|xs rfl<|xs rfl<|x (Qp rfl)<|Qf ?_
  exact ⟨_,⟨rfl,trivial⟩,hs12,bF (λe=>h9 e.1)⟩
 rintro z g w6 ⟨hs6,rfl⟩
 exact Qk ⟨[_],⟨rfl,trivial⟩,rfl,hs6⟩
theorem QgG {L:LN}{w:World}{va vm ve:Value}{a:QM}(h:Zm L w.heap va vm ve a) :
  QG prog 179 [.agg #[va,.int .i64 a.st,vm,ve]] w λr w'=>r=.bool (V6 a)∧Step [] w w':=by
 refine QG.of_W func179 rfl ntmps179 results179 (by simp) ?_
 refine Qc<|xl rfl<|QQ (us:=[va,.int .i64 a.st,vm,ve]) rfl λb1 w1 hs1 hb1 hB1=>Qf<|QW (α:=Bool) [(2,11)] (λz=>[(2,.bool z)]) (λz w'=>Step [] w w'∧z=V6 a) (by rfl) ?_ ?_
 ·refine QT (Step [] w1) [(0,true),(1,false),(2,true),(3,true),(4,true),(5,true),(6,false),(7,false),(8,true),(9,true)] mixed (by rfl) (by kernel_rfl) (Step.drew _ _) ?_
  have hs1d:=hs1.trans (Step.drew [] w1)
  refine pq (λ_ hc=>Qn (hB1.step hc (by simp)) rfl rfl)<|pk<|xf<|(YR (h.ext hs1d)).mono ?_
  rintro r2 w2 ⟨rfl,hs2⟩
  have hs12:=hs1d.trans hs2
  have hd2:=(Step.drew [] w1).trans hs2
  refine ⟨hd2,?_⟩
  refine pb (λ_=>Zn rfl rfl) (λh5=>?_) (λh5=>?_)
  ·have hc:Y2 a=0:=h5
   refine p (λ_=>Qo)<|pq (λ_ hc=>Qn (hB1.step hc (by simp)) rfl rfl)<|pq (λ_ hc=>Qn (hB1.step hc (by simp)) rfl rfl) <|
    pk<|xf<|(y9 (h.ext hs12) ((Zs a).1 hc)).mono ?_
   rintro r3 w3 ⟨hs3,va3,vm3,ve3,rfl,hA3⟩
   have hs13:=hs12.trans hs3
   refine ⟨hd2.trans hs3,?_⟩
   refine pk<|xf<|(qN (h.ext hs13) (hA3 [] (by simp))).mono ?_
   rintro r4 w4 ⟨rfl,hs4⟩
   refine ⟨(hd2.trans hs3).trans hs4,?_⟩
   refine p (λ_=>Qp rfl)<|p (λ_=>Qe)<|pe ?_
   refine ⟨_,⟨rfl,trivial⟩,hs13.trans hs4,?_⟩
   unfold V6
   rw[decide_eq_true hc,Bool.true_and]
   exact bD ⟨λe=>⟨e.1.symm,e.2.1.symm,e.2.2.1.symm,e.2.2.2.symm⟩,λe=>⟨e.1.symm,e.2.1.symm,e.2.2.1.symm,e.2.2.2.symm⟩⟩
  have hc:¬Y2 a=0:=h5
  refine p (λ_=>Qo)<|ps<|ps<|ps<|ps<|p (λ_=>Qp rfl)<|p (λ_=>Qe)<|pe ?_
  exact ⟨_,⟨rfl,trivial⟩,hs12,by unfold V6;rw[decide_eq_false hc];rfl⟩
 rintro z g w5 ⟨hs5,rfl⟩
 exact Qk ⟨[_],⟨rfl,trivial⟩,rfl,hs5⟩
section
variable {P:Program} {f:Fr} {w:World} {d:Option Nat} {ty:Nat} {ps:String} {af:Array Edge} {gd:Option (Nat×Bool)}
theorem Zv {t sz:Nat}[Ag P t sz] {x:Operand}{b T o:Nat}{cs us:LV}(h:QS w.heap b T cs) (hx:ev f x=.pointer (some ⟨b,o,none⟩)) (hl:us.length=sz) (hu:(cs.drop o).take sz=us) :
  (execOp (ev f) ⟨d,.load t x,ty,ps,af,gd⟩).run P w=.ok (.value (.agg us.toArray)) w:=Up hx hl λj v hv=>by
 rw[Yk,Xo,h.cell]
 rw[←hu,List.getElem?_take] at hv
 split at hv
 ·simpa using hv
 ·cases hv
end
theorem Qbn {L:LN}{w:World}{v:Value}{qs:List IV}(h:YU L w.heap v qs) :
  QG prog 211 [v] w λr w'=>Step [] w w'∧w'.ownsRow w.heap.size 50 4 r (qs.map (·.p)).length ((qs.map (·.p)).flatMap Q7):=by
 have hle:=h.arr.le
 refine QG.of_W func211 rfl ntmps211 results211 (by simp) ?_
 refine Qc<|Qf<|Qc<|Qf<|Qg<|Qc<|Qb<|x (Qs h.arr rfl)<|Qb<|xe ?_
 refine Qh<|QA (α:=Nat×Value) [(3,3),(5,5),(8,17)] (λz=>[(3,z.2),(8,.int .i64 z.1)]) (λz w'=>z.1≤qs.length∧Step [] w w'∧w'.ownsRow w.heap.size 50 4 z.2 z.1 (((qs.take z.1).map (·.p)).flatMap Q7)) (λz=>qs.length - z.1) (by rfl) (0,nS) ⟨rfl,rfl,trivial⟩
  ⟨Nat.zero_le _,Step.refl _ _,QP _ _ _ _⟩ ?_
 rintro ⟨k,vo⟩ g w1 ⟨hk,hs1,ho1⟩
 simp only[] at hk ho1
 refine Qc<|x (QB rfl rfl)<|xe ?_
 refine Qg<|QD rfl (λh9=>?_) (λh9=>?_)
 ·refine Qz ?_
  have hke:k=qs.length:=by have h10:¬(k:Int)<(qs.length:Int):=h9;omega
  subst hke
  rw[List.take_of_length_le (Nat.le_refl _)] at ho1
  refine Qc<|Qb<|Qf ?_
  exact Qk ⟨[_],⟨rfl,trivial⟩,hs1,by rw[List.length_map];exact ho1⟩
 have hlt:k<qs.length:=by have h10:(k:Int)<(qs.length:Int):=h9;omega
 have hmem:=List.getElem_mem hlt
 have htk:qs.take (k+1)=qs.take k++[qs[k]'hlt]:=List.take_succ_eq_append_getElem hlt
 refine Qi<|Qg<|Qh<|Qc<|xig Xb (h.arr.ext hs1) rfl rfl hlt λa10 h10=>?_
 refine Zc (qs[k]'hlt) λq hq=>?_
 rw[hq] at h10 hmem htk
 have hqA:=h.each q hmem
 refine x (QJ h10 rfl rfl)<|xl rfl<|Qr (us:=[.string .empty,nS,.int .i64 0,nS,nS]) rfl λb5 w2 hs2 hb5 hB5=>xl rfl<|Ql (us:=Zi q) hB5 rfl rfl rfl rfl ⟨rfl,hqA.al.one,rfl,hqA.mr.one,hqA.ed.one,trivial⟩ λw3 hs3 hB5 =>
  xe ?_
 have hs13:Step [] w1 w3:=hs2.then1 hs3 hb5
 refine Qx<|Qb<|x (Qa rfl)<|x (Zv (us:=Q7 q.p) hB5 rfl rfl rfl)<|xl rfl<|QH (us:=[Q7 q.p]) rfl rfl (by decide) (by simp) ⟨rfl,rfl,trivial⟩ λb15 w4 hs4 hb15 hB15=>?_
 have hs14:=hs13.trans hs4
 have ho4:=Qu ho1 hs14
 have hz4:=(hs1.trans hs14).size
 have h1s:∀u∈Q7 q.p,u.oneCell'=true:=by
  intro u hu
  simp only[List.mem_cons,List.not_mem_nil,or_false] at hu
  rcases hu with rfl | rfl | rfl | rfl
  ·exact hqA.al.one
  ·rfl
  ·exact hqA.mr.one
  ·exact hqA.ed.one
 refine xl rfl<|Q5 (news:=Q7 q.p) (L:=[]) ho4 rfl rfl rfl (hB15.at (by simp)) h1s (by omega) (by omega) λv5 w5 ho5 hs5 hn5=>Qf ?_
 have hge:=Qq ho4
 refine Qx<|x (Qy rfl rfl ⟨by omega,by omega⟩)<|Qb<|xe ?_
 refine ⟨(k+1,v5),by simp only[];omega,⟨rfl,rfl,trivial⟩,hlt,(hs1.trans hs14).then hs5 (λb hb=>.inr (hge b hb).1),?_⟩
 simp only[]
 rw[htk,List.map_append,List.flatMap_append]
 simpa using ho5
theorem Qfw {L:LN}{w:World}{r:Value}{base e:Nat}{ps:List AV}(h:w.ownsRow base e 4 r ps.length (ps.flatMap Q7)) (hn:ps.length≤1099511627776) (hL:∀b∈L,b<base) (he:∀p∈ps,Zm L w.heap p.va p.vm p.ve p.a):YG L w.heap r ps :=
 ⟨QV h hn (λb hb hbL=>by have:=(Qq h b hb).1;have:=hL b hbL;omega),he⟩
theorem Qfv {w:World}{b:Nat}{n m:Int}(hB:QS w.heap b 3 [.int .i64 m]) :
  QG prog 180 ([.int .i64 n]++[.pointer (some ⟨b,0,none⟩)]) w λr w'=>r=.bool (decide (m≤n))∧Step [] w w':=by
 refine QG.of_W func180 rfl ntmps180 results180 (by simp) ?_
 refine Qc<|Qf<|Qc<|Qb<|x (Qd hB rfl rfl)<|x (ZM rfl rfl)<|Qf ?_
 exact Qk ⟨[_],⟨rfl,trivial⟩,rfl,Step.refl _ _⟩
abbrev Vi (n:Int):LV:=[.int .i64 n]
theorem QjK (n:Int):(Vi n).length=1:=rfl
theorem Qi8:∀l:LI,l.flatMap Vi=l.map (.int .i64)
 | []=>rfl
 | a::l=>by rw[List.flatMap_cons,Qi8 l];rfl
theorem QL.fl {L:LN}{H:Array Obj}{v:Value}{l:LI}(h:QL L H v l):Zw L H v l.length 1 (l.flatMap Vi):=by
 rw[Qi8 l];exact h
theorem QjI {gp:Nat}{fn:Func}[Fu prog gp fn] {cap:LV}{q:Int→Bool}{L:LN}{w:World}{v:Value}{l:LI}(h:Zw L w.heap v l.length 1 (l.flatMap Vi))
  (hk:∀e∈l,∀(w1:World),Step [] w w1→QG prog gp ([.int .i64 e]++cap) w1 λr w'=>r=.bool (q e)∧Step [] w1 w') :
  QG prog 103 [v,.func (.func gp) #[] cap.toArray] w λr w'=>r=.int .i64 (fix q 0 l)∧Step [] w w':=by
 have hle:=h.le
 refine QG.of_W func103 rfl ntmps103 results103 (by simp) ?_
 refine Qc<|Qf<|Qg<|Qc<|Qb<|x (Qs h rfl)<|Qb<|xe ?_
 refine Qh<|QA (α:=Nat) [(4,5),(8,18)] (λz=>[(8,.int .i64 z)]) (λz w'=>z≤l.length∧Step [] w w'∧fix q z (l.drop z)=fix q 0 l) (λz=>l.length - z) (by rfl) 0 ⟨rfl,trivial⟩
  ⟨Nat.zero_le _,Step.refl _ _,rfl⟩ ?_
 rintro k g w1 ⟨hk1,hs1,hfx⟩
 refine Qc<|x (QB rfl rfl)<|xe ?_
 refine Qg<|QD rfl (λh9=>?_) (λh9=>?_)
 ·refine Qz ?_
  have hke:l.length≤k:=by have h10:¬(k:Int)<(l.length:Int):=h9;omega
  rw[List.drop_of_length_le hke] at hfx
  refine Qc<|Qf ?_
  exact Qk ⟨[_],⟨rfl,trivial⟩,by rw[←hfx];rfl,hs1⟩
 have hlt:k<l.length:=by have h10:(k:Int)<(l.length:Int):=h9;omega
 rw[Q6 hlt,Z0] at hfx
 have hmem:=List.getElem_mem hlt
 refine Qi<|Qg<|Qh<|Qc<|Qb<|Qf<|Qc<|Qb<|Qb<|Qb<|xig QjK (h.ext hs1) rfl rfl hlt λa14 h14=>?_
 refine Zc (l[k]'hlt) λe he=>?_
 rw[he] at h14 hfx hmem
 refine x (Qw h14 rfl)<|xl rfl<|xc (first:=[]) (capt:=cap) rfl<|(hk e hmem w1 hs1).mono ?_
 rintro r2 w2 ⟨rfl,hs2⟩
 refine xe ?_
 refine QY rfl (λh16=>?_) (λh16=>?_)
 ·rw[if_pos h16] at hfx
  refine Qc<|Qb<|Qf ?_
  exact Qk ⟨[_],⟨rfl,trivial⟩,by rw[←hfx];rfl,hs1.trans hs2⟩
 rw[if_neg (by rw[h16];decide)] at hfx
 refine Qi<|Qx<|x (Qy rfl rfl ⟨by omega,by omega⟩)<|Qb<|xe ?_
 exact ⟨k+1,by omega,⟨rfl,trivial⟩,hlt,hs1.trans hs2,hfx⟩
theorem Qj6 {gp:Nat}{fn:Func}[Fu prog gp fn] {cap:LV}{q:Int→Bool}{L:LN}{w:World}{v:Value}{l:LI}(h:Zw L w.heap v l.length 1 (l.flatMap Vi))
  (hk:∀e∈l,∀(w1:World),Step [] w w1→QG prog gp ([.int .i64 e]++cap) w1 λr w'=>r=.bool (q e)∧Step [] w1 w') :
  QG prog 55 [v,.func (.func gp) #[] cap.toArray] w λr w'=>r=.bool (l.any q)∧Step [] w w':=by
 refine QG.of_W func55 rfl ntmps55 results55 (by simp) ?_
 refine Qc<|Qf<|Qc<|Qb<|Qb<|xl rfl<|xf<|(QjI h hk).mono ?_
 rintro r1 w1 ⟨rfl,hs1⟩
 refine x (ZM rfl rfl)<|Qf ?_
 exact Qk ⟨[_],⟨rfl,trivial⟩,congrArg Value.bool (yU q l 0),hs1⟩
theorem QcC {L L':LN}{w:World}{q:IV}{nev:Nat}{vg:Value}{amg:LI}{bm:Nat}{seen:List ByteArray}(hA:Zm L w.heap q.p.va q.p.vm q.p.ve q.p.a) (hnm:Uj q.nm) (hg:QL L' w.heap vg amg) (hgl:amg.length≤4096) (hm:ZE Xv w.heap bm (nmM seen)) (hbL:bm∈L) (hbL':bm∈L') :
  QG prog 144 [.agg (Zi q).toArray,.int .i64 nev,vg,.map (some bm)] w λr w'=>r=.int .i64 (Ya nev amg seen q.it)∧Step [bm] w w'∧(Ya nev amg seen q.it=0→ZE Xv w'.heap bm (nmM (seen++[q.nm]))):=by
 have hr:Ya nev amg seen q.it=(if KL q.nm=false then 7 else if q.nm∈seen then 8 else if Y2 q.p.a≠0 then Y2 q.p.a else if V6 q.p.a=false then 6 else if q.p.a.st=0 then 12 else
  if (q.p.a.al.any λe=>decide ((nev:Int)≤e))=true then 2 else if (mns q.p.a.al amg).length≠0 then 9 else 0):=rfl
 refine Zc (Ya nev amg seen q.it) λR hR=>?_
 rw[hR] at hr ⊢
 refine QG.of_W func144 rfl ntmps144 results144 (by simp) ?_
 refine Qc<|xl rfl<|QQ (us:=Zi q) rfl λb4 w1 hs1 hb4 hB4=>xl rfl<|QQ (us:=[.int .i64 nev]) rfl λb5 w2 hs2 hb5 hB5=>Qf ?_
 have hs12:=hs1.trans hs2
 have hB42:=hB4.ext hs2
 refine Qg<|Qh<|Qc<|x (Qa rfl)<|x (Qd hB42 rfl rfl)<|xl rfl<|xf<|(V2 q.nm hnm w2).mono ?_
 rintro r3 w3 ⟨rfl,rfl⟩
 refine x (Zp rfl)<|Qf<|QY rfl (λh10=>?_) (λh10=>?_)
 ·have hn:KL q.nm=false:=by simpa using h10
  rw[if_pos hn] at hr
  subst hr
  refine Qc<|Qf ?_
  exact Qk ⟨[_],⟨rfl,trivial⟩,rfl,hs12.any,λe=>absurd e (by decide)⟩
 have hn:¬KL q.nm=false:=by simpa using h10
 rw[if_neg hn] at hr
 have hm2:=hm.ext hs12
 refine Qc<|Qb<|x (Qa rfl)<|x (Qd hB42 rfl rfl)<|x (jM hm2 rfl rfl)<|Qf<|Q3 rfl (λh15=>?_) (λh15=>?_)
 ·rw[if_pos h15] at hr
  subst hr
  refine Qc<|Qf ?_
  exact Qk ⟨[_],⟨rfl,trivial⟩,rfl,hs12.any,λe=>absurd e (by decide)⟩
 rw[if_neg h15] at hr
 refine Qi ?_
 have hbm:=hm.lt
 refine Qc<|Qb<|x (Qa rfl)<|x (Qd hB42 rfl rfl)<|xl rfl<|Yv (k:=q.nm) hm2 rfl rfl λw4 hs4 hm4=>xe ?_
 rw[show ev _ _=Value.bool true from rfl,Qcn h15] at hm4
 have hsb4:Step [bm] w w4:=hs12.any.trans' hs4
 have hz1:=hs1.size
 have hB4':=hB42.step hs4 (by simp;omega)
 have hB5':=hB5.step hs4 (by simp;omega)
 have hA4:Zm L w4.heap q.p.va q.p.vm q.p.ve q.p.a:=hA.st (hsb4.mono (λb hb=>by simp at hb;subst hb;exact hbL))
 have hg4:QL L' w4.heap vg amg:=hg.st (hsb4.mono (λb hb=>by simp at hb;subst hb;exact hbL'))
 refine Qg<|Qc<|x (Qa rfl)<|x (Zv (us:=Q7 q.p) hB4' rfl rfl rfl)<|xl rfl<|xf<|(YR hA4).mono ?_
 rintro r5 w5 ⟨rfl,hs5⟩
 refine Qf<|Qc<|Qb<|x (Q4 rfl rfl)<|xe ?_
 refine Q3 rfl (λh27=>?_) (λh27=>?_)
 ·rw[if_pos h27] at hr
  subst hr
  refine Qc<|Qb<|Qf ?_
  exact Qk ⟨[_],⟨rfl,trivial⟩,rfl,hsb4.trans hs5,λe=>absurd e h27⟩
 rw[if_neg h27] at hr
 have hok:=(Zs q.p.a).1 (Decidable.not_not.1 h27)
 refine Qi<|Qg<|Qh<|Qc<|x (Qa rfl)<|x (Zv (us:=Q7 q.p) (hB4'.ext hs5) rfl rfl rfl)<|xl rfl<|xf<|(QgG (hA4.ext hs5)).mono ?_
 rintro r6 w6 ⟨rfl,hs6⟩
 have hs46:=hs5.trans hs6
 have hsb6:=hsb4.trans hs46
 have hB46:=hB4'.ext hs46
 refine x (Zp rfl)<|Qf<|QY rfl (λh29=>?_) (λh29=>?_)
 ·have hn:V6 q.p.a=false:=by simpa using h29
  rw[if_pos hn] at hr
  subst hr
  refine Qc<|Qf ?_
  exact Qk ⟨[_],⟨rfl,trivial⟩,rfl,hsb6,λe=>absurd e (by decide)⟩
 have hn:¬V6 q.p.a=false:=by simpa using h29
 rw[if_neg hn] at hr
 refine Qc<|x (Qa rfl)<|x (Qa rfl)<|x (Qd hB46 rfl rfl)<|x (Zn rfl rfl)<|Qf<|Q3 rfl (λh34=>?_) (λh34=>?_)
 ·have h35:q.p.a.st=0:=h34
  rw[if_pos h35] at hr
  subst hr
  refine Qc<|Qf ?_
  exact Qk ⟨[_],⟨rfl,trivial⟩,rfl,hsb6,λe=>absurd e (by decide)⟩
 have h35:¬q.p.a.st=0:=h34
 rw[if_neg h35] at hr
 refine Qc<|x (Qa rfl)<|x (Qa rfl)<|x (Qd hB46 rfl rfl)<|x Zk<|xl rfl<|xf<|(Qj6 (q:=λe=>decide ((nev:Int)≤e)) (cap:=[.pointer (some ⟨b5,0,none⟩)]) (QL.fl (hA4.al.ext hs46)) (λe he w2 hs2=>Qfv ((hB5'.ext hs46).ext hs2))).mono ?_
 rintro r7 w7 ⟨rfl,hs7⟩
 have hs47:=hs46.trans hs7
 have hsb7:=hsb4.trans hs47
 refine Qf<|QY rfl (λh39=>?_) (λh39=>?_)
 ·rw[if_pos h39] at hr
  subst hr
  refine Qc<|Qf ?_
  exact Qk ⟨[_],⟨rfl,trivial⟩,rfl,hsb7,λe=>absurd e (by decide)⟩
 rw[if_neg (by rw[h39];decide)] at hr
 have hall:=hok.al_le
 refine Qc<|x (Qa rfl)<|x (Qa rfl)<|x (Qd (hB4'.ext hs47) rfl rfl)<|Qb<|xl rfl<|xf<|(QdP (hA4.al.ext hs47) (hg4.ext hs47) (by omega)).mono ?_
 rintro r8 w8 ⟨hs8,rfl⟩
 have hs48:=hs47.trans hs8
 have hsb8:=hsb4.trans hs48
 refine x (UP rfl)<|Qf<|Q3 rfl (λh45=>?_) (λh45=>?_)
 ·have h46:(mns q.p.a.al amg).length≠0:=λe=>h45 (List.eq_nil_of_length_eq_zero e)
  rw[if_pos h46] at hr
  subst hr
  refine Qc<|Qf ?_
  exact Qk ⟨[_],⟨rfl,trivial⟩,rfl,hsb8,λe=>absurd e (by decide)⟩
 have h46:¬(mns q.p.a.al amg).length≠0:=λe=>h45 (λh=>e (by rw[show mns q.p.a.al amg=[] from h];rfl))
 rw[if_neg h46] at hr
 subst hr
 refine Qi<|Qc<|Qf ?_
 exact Qk ⟨[_],⟨rfl,trivial⟩,rfl,hsb8,λ_=>hm4.ext hs48⟩
theorem QdH {L:LN}{w:World}{v:Value}{l:List (Int×Int)}(h:P2s L w.heap v l) :
  QG prog 187 [v] w λr w'=>Step [] w w'∧w'.ownsRow w.heap.size 109 2 r l.length (l.flatMap Q9):=by
 have hle:=h.le
 refine QG.of_W func187 rfl ntmps187 results187 (by simp) ?_
 refine Qc<|Qf ?_
 obtain ⟨ao,cap,hv⟩:=h.shape
 refine Qg<|Qc<|Qb<|x (K9 (show ev _ _=_ from hv) rfl)<|xe ?_
 refine QY rfl (λh4=>?_) (λh4=>?_)
 ·refine Qc<|Qf<|Qk ⟨[nS],⟨rfl,trivial⟩,Step.refl _ _,?_⟩
  rcases h.2.2 with ⟨h1,h2⟩ | ⟨a,c,h1,_⟩
  ·have:l=[]:=List.eq_nil_of_length_eq_zero h2
   subst this;exact QP _ _ _ _
  ·rw[h1] at hv;cases hv;cases h4
 rcases h.2.2 with ⟨h1,h2⟩ | ⟨a,c,h1,h2,h3⟩
 ·rw[h1] at hv;injection hv with e1;subst e1;cases h4
 refine Qi<|Qc ?_
 have ho:∀u∈l.flatMap Q9,u.oneCell'=true:=by
  intro u hu
  obtain ⟨p,_,hp⟩:=List.mem_flatMap.1 hu
  simp only[List.mem_cons,List.not_mem_nil,or_false] at hp
  rcases hp with rfl | rfl <;> rfl
 refine xl rfl<|VM λb5 w1 hs1 hb5 hB5=>Qb<|xl rfl<|Q5 (base:=w.heap.size) (hB5.own (n:=0) (sz:=2) rfl (by omega) hb5) rfl (show ev _ _=_ from h1) h.1 (h3.ext hs1) ho (by omega) (by have:=hB5.lt;omega) λv2 w2 ho2 hs2 hn2=>Qf<|Qk ⟨[v2],⟨rfl,trivial⟩,hs1.then1 hs2 hb5,?_⟩
 simpa[tup] using ho2
theorem QdG {L:LN}{w:World}{v:Value}{l:List (Int×Int)}(h:P2s L w.heap v l) :
  QG prog 188 [v] w λr w'=>Step [] w w'∧w'.ownsRow w.heap.size 175 2 r l.length (l.flatMap Q9):=by
 have hle:=h.le
 refine QG.of_W func188 rfl ntmps188 results188 (by simp) ?_
 refine Qc<|Qf ?_
 obtain ⟨ao,cap,hv⟩:=h.shape
 refine Qg<|Qc<|Qb<|x (K9 (show ev _ _=_ from hv) rfl)<|xe ?_
 refine QY rfl (λh4=>?_) (λh4=>?_)
 ·refine Qc<|Qf<|Qk ⟨[nS],⟨rfl,trivial⟩,Step.refl _ _,?_⟩
  rcases h.2.2 with ⟨h1,h2⟩ | ⟨a,c,h1,_⟩
  ·have:l=[]:=List.eq_nil_of_length_eq_zero h2
   subst this;exact QP _ _ _ _
  ·rw[h1] at hv;cases hv;cases h4
 rcases h.2.2 with ⟨h1,h2⟩ | ⟨a,c,h1,h2,h3⟩
 ·rw[h1] at hv;injection hv with e1;subst e1;cases h4
 refine Qi<|Qc ?_
 have ho:∀u∈l.flatMap Q9,u.oneCell'=true:=by
  intro u hu
  obtain ⟨p,_,hp⟩:=List.mem_flatMap.1 hu
  simp only[List.mem_cons,List.not_mem_nil,or_false] at hp
  rcases hp with rfl | rfl <;> rfl
 refine xl rfl<|VM λb5 w1 hs1 hb5 hB5=>Qb<|xl rfl<|Q5 (base:=w.heap.size) (hB5.own (n:=0) (sz:=2) rfl (by omega) hb5) rfl (show ev _ _=_ from h1) h.1 (h3.ext hs1) ho (by omega) (by have:=hB5.lt;omega) λv2 w2 ho2 hs2 hn2=>Qf<|Qk ⟨[v2],⟨rfl,trivial⟩,hs1.then1 hs2 hb5,?_⟩
 simpa[tup] using ho2
theorem ZQ.low {base:Nat}{av X:LN}{w w':World}{v:Value}{n sz:Nat}{cs:LV}(h:ZQ base av w.heap v n sz cs) (hs:Step X w w') (hX:∀b∈X,b<base):ZQ base av w'.heap v n sz cs:=by
 intro L hL
 have h1:Zw (X++L) w.heap v n sz cs:=h _ (λb hb=>by
  rcases List.mem_append.1 hb with hb | hb
  ·exact .inl (hX b hb)
  ·exact hL b hb)
 exact (h1.step hs (λb hb=>List.mem_append.2 (.inl hb))).up (λb hb=>.inl (List.mem_append.2 (.inr hb)))
theorem ZY.low {α:Type}{g:α→LV}{sz T:Nat}{p:α→Value×Nat×Nat×LV}{base:Nat}{X:LN}{w w':World}{v:Value}{l:List α}(h:ZY g sz T p base w v l) (hs:Step X w w') (hX:∀b∈X,b<base):ZY g sz T p base w' v l :=
 ⟨Qm h.own hs (λb hb hm=>by have:=(Qq h.own b hb).1;have:=hX b hm;omega),λq hq=>(h.each q hq).low hs hX⟩
theorem ZY.arr {α:Type}{g:α→LV}{sz T:Nat}{p:α→Value×Nat×Nat×LV}{base:Nat}{w:World}{v:Value}{l:List α}{L:LN}(h:ZY g sz T p base w v l) (hn:l.length≤1099511627776) (hL:∀b∈L,b<base):Zw L w.heap v l.length sz (l.flatMap g) :=
 QV h.own hn (λb hb hbL=>by have:=(Qq h.own b hb).1;have:=hL b hbL;omega)
abbrev xvP (q:XV):Value×Nat×Nat×LV:=(q.v,q.ls.length,2,q.ls.flatMap Q9)
abbrev kvP (q:KV):Value×Nat×Nat×LV:=(q.v,q.ts.length,2,q.ts.flatMap Q9)
abbrev XvN (base:Nat) (w:World) (v:Value) (l:List XV):Prop:=ZY Zy 2 107 xvP base w v l
abbrev KvN (base:Nat) (w:World) (v:Value) (l:List KV):Prop:=ZY ZC 3 173 kvP base w v l
theorem XvN.xcs {base:Nat}{w:World}{v:Value}{l:List XV}{qs:List XV}{L:LN}(h:XvN base w v l) (he:l.map (·.x)=qs.map (·.x)) (hq:∀q∈qs,Uj q.nm) (hn:l.length≤1099511627776) (hL:∀b∈L,b<base):Ux L w.heap v l:=by
 refine ⟨h.arr hn hL,λq hq=>h.each q hq L (λb hb=>.inl (hL b hb)),λq hm=>?_⟩
 have h1:q.x∈qs.map (·.x):=by rw[←he];exact List.mem_map_of_mem hm
 obtain ⟨q',hq',e⟩:=List.mem_map.1 h1
 have h2:=hq q' hq'
 have h3:q'.nm=q.nm:=congrArg Exc.nm e
 rw[h3] at h2;exact h2
theorem KvN.kcs {base:Nat}{w:World}{v:Value}{l:List KV}{qs:List KV}{L:LN}(h:KvN base w v l) (he:l.map (·.k)=qs.map (·.k)) (hq:∀q∈qs,Uj q.nm) (hn:l.length≤1099511627776) (hL:∀b∈L,b<base):yd L w.heap v l:=by
 refine ⟨h.arr hn hL,λq hq=>h.each q hq L (λb hb=>.inl (hL b hb)),λq hm=>?_⟩
 have h1:q.k∈qs.map (·.k):=by rw[←he];exact List.mem_map_of_mem hm
 obtain ⟨q',hq',e⟩:=List.mem_map.1 h1
 have h2:=hq q' hq'
 have h3:q'.nm=q.nm:=congrArg X5.nm e
 rw[h3] at h2;exact h2
theorem QO {w:World}{base e sz n:Nat}{v:Value}{cs:LV}(h:w.ownsRow base e sz v n cs):v.oneCell'=true:=by
 rcases h.2 with ⟨h1,_⟩ | ⟨g,cap,cur,h1,_⟩ <;> subst h1 <;> rfl
theorem Zl {w:World}{base e sz n:Nat}{v:Value}{cs:LV}(h:w.ownsRow base e sz v n cs):v.cells=[v].toArray:=by
 rcases h.2 with ⟨h1,_⟩ | ⟨g,cap,cur,h1,_⟩ <;> subst h1 <;> rfl
theorem yf {q:XV}(h:q.v.oneCell'=true):∀u∈Zy q,u.oneCell'=true:=by
 intro u hu
 simp only[List.mem_cons,List.not_mem_nil,or_false] at hu
 rcases hu with rfl | rfl
 ·rfl
 ·exact h
theorem Qcx {q:KV}(h:q.v.oneCell'=true):∀u∈ZC q,u.oneCell'=true:=by
 intro u hu
 simp only[List.mem_cons,List.not_mem_nil,or_false] at hu
 rcases hu with rfl | rfl | rfl
 ·rfl
 ·exact h
 ·rfl
def Qma (N:Nat) (w:World) (r:Value) (sz:LI) (ex:List Exc) (cs:List X5):Prop:=∃vs vx vk qx ks,r=.agg #[vs,vx,vk]∧qx.map (·.x)=ex∧ks.map (·.k)=cs∧∀L:LN,(∀b∈L,b<N)→QL L w.heap vs sz∧Ux L w.heap vx qx∧yd L w.heap vk ks
set_option maxHeartbeats 4000000 in
theorem zZ {L:LN}{w:World}{c:CL}(h:ZH L w.heap c) :
  QG prog 146 [c.val] w λr w'=>Step [] w w'∧Qma w.heap.size w' r (szs c.cel.co) c.cel.ex c.cel.cs:=by
 have hcl:=h.co.arr.le
 have hxl:=h.ex.arr.le
 have hkl:=h.cs.arr.le
 refine QG.of_W func146 rfl ntmps146 results146 (by simp) ?_
 refine Qc<|xl rfl<|QQ (us:=c.cells) rfl λb1 w1 hs1 hb1 hB1=>xl rfl<|Qr (us:=[nS,nS,nS]) rfl λb2 w2 hs2 hb2 hB2=>xe ?_
 have hz1:=hs1.size
 have hz2:=hs2.size
 have hl1:=hB1.lt
 have hl2:=hB2.lt
 refine Qc<|x (QN trivial)<|xl rfl<|Qr (us:=[nS,nS,nS]) rfl λb3 w3 hs3 hb3 hB3=>xl rfl<|Ql (us:=[nS,nS,nS]) hB3 rfl rfl rfl rfl ⟨rfl,rfl,rfl,trivial⟩ λw4 hs4 hB3 =>
  xe ?_
 have hl3:=hB3.lt
 have hs24:Step [] w2 w4:=hs3.then1 hs4 hb3
 have hs04:Step [] w w4:=(hs1.trans hs2).trans hs24
 have hz4:=hs04.size
 have hB14:=(hB1.ext hs2).ext hs24
 have hB24:=hB2.ext hs24
 have h4:=h.ext hs04
 have hlt1:b1<b3:=by omega
 have hlt2:b2<b3:=by omega
 have hge3:w.heap.size≤b3:=by omega
 have hbk:∀{wa wb:World},Step [b3] wa wb→Step [] w wa→Step [] w wb:=λha hb=>hb.then1 ha hge3
 refine Qg<|Qc<|x (Qa rfl)<|x (Qd hB14 rfl rfl)<|x (Qs h4.co.arr rfl)<|Qb<|xe ?_
 refine Qh<|QA (α:=Nat×Value) [(5,5),(14,26)] (λz=>[(14,.int .i64 z.1)]) (λz w'=>z.1≤c.co.length∧Step [b3] w4 w'∧QS w'.heap b3 252 [z.2,nS,nS]∧Qt 3 w4.heap.size w' z.2 ((c.co.take z.1).map (·.p.a.st))) (λz=>c.co.length - z.1) (by rfl) (0,nS) ⟨rfl,trivial⟩
  ⟨Nat.zero_le _,Step.refl _ _,hB3,QP _ _ _ _⟩ ?_
 rintro ⟨k,vs⟩ g w5 ⟨hk,hs5,hB35,ho5⟩
 simp only[] at hk hB35 ho5
 have hs05:=hbk hs5 hs04
 have h5:=h.ext hs05
 have hB15:=hB14.step hs5 (by simp;omega)
 have hB25:=hB24.step hs5 (by simp;omega)
 have hz5:=hs5.size
 refine Qc<|x (QB rfl rfl)<|xe ?_
 refine Qg<|QD rfl (λh15=>?_) (λh15=>?_)
 ·refine Qz ?_
  have hke:c.co.length≤k:=by have h16:¬(k:Int)<(c.co.length:Int):=h15;omega
  rw[List.take_of_length_le hke] at ho5
  refine Qg<|Qc<|x (Qa rfl)<|x (Qd hB15 rfl rfl)<|x (Qs h5.ex.arr rfl)<|Qb<|xe ?_
  refine Qh<|QA (α:=Nat×Value×List XV) [(7,7),(30,45)] (λz=>[(30,.int .i64 z.1)]) (λz w'=>z.1≤c.ex.length∧Step [b3] w5 w'∧QS w'.heap b3 252 [vs,z.2.1,nS]∧XvN w5.heap.size w' z.2.1 z.2.2∧z.2.2.map (·.x)=(c.ex.take z.1).map (·.x)) (λz=>c.ex.length - z.1) (by rfl) (0,nS,[]) ⟨rfl,trivial⟩
   ⟨Nat.zero_le _,Step.refl _ _,hB35,ZY.nil,rfl⟩ ?_
  rintro ⟨j,vx,qx⟩ g w6 ⟨hj,hs6,hB36,hX6,hx6⟩
  simp only[] at hj hB36 hX6 hx6
  have hs06:=hbk hs6 hs05
  have h6:=h.ext hs06
  have hB16:=hB15.step hs6 (by simp;omega)
  have hB26:=hB25.step hs6 (by simp;omega)
  have hz6:=hs6.size
  have hqxl:qx.length=j:=by have:=congrArg List.length hx6;simp at this;omega
  refine Qc<|x (QB rfl rfl)<|xe ?_
  refine Qg<|QD rfl (λh31=>?_) (λh31=>?_)
  ·refine Qz ?_
   have hje:c.ex.length≤j:=by have h16:¬(j:Int)<(c.ex.length:Int):=h31;omega
   rw[List.take_of_length_le hje] at hx6
   refine Qg<|Qc<|x (Qa rfl)<|x (Qd hB16 rfl rfl)<|x (Qs h6.cs.arr rfl)<|Qb<|xe ?_
   refine Qh<|QA (α:=Nat×Value×List KV) [(9,9),(49,66)] (λz=>[(49,.int .i64 z.1)]) (λz w'=>z.1≤c.cs.length∧Step [b3] w6 w'∧QS w'.heap b3 252 [vs,vx,z.2.1]∧KvN w6.heap.size w' z.2.1 z.2.2∧z.2.2.map (·.k)=(c.cs.take z.1).map (·.k)) (λz=>c.cs.length - z.1) (by rfl) (0,nS,[]) ⟨rfl,trivial⟩
    ⟨Nat.zero_le _,Step.refl _ _,hB36,ZY.nil,rfl⟩ ?_
   rintro ⟨i,vk,ks⟩ g w7 ⟨hi,hs7,hB37,hK7,hk7⟩
   simp only[] at hi hB37 hK7 hk7
   have hs07:=hbk hs7 hs06
   have h7:=h.ext hs07
   have hB27:=hB26.step hs7 (by simp;omega)
   have hz7:=hs7.size
   have hksl:ks.length=i:=by have:=congrArg List.length hk7;simp at this;omega
   refine Qc<|x (QB rfl rfl)<|xe ?_
   refine Qg<|QD rfl (λh50=>?_) (λh50=>?_)
   ·refine Qz ?_
    have hie:c.cs.length≤i:=by have h16:¬(i:Int)<(c.cs.length:Int):=h50;omega
    rw[List.take_of_length_le hie] at hk7
    have hvs1:=(ho5.1)
    have hone:ZD [vs,vx,vk]:=⟨QO ho5,QO hX6.own,QO hK7.own,trivial⟩
    refine Qc<|x (Qn hB37 rfl rfl)<|xl rfl<|Ql (us:=[vs,vx,vk]) hB27 rfl rfl rfl rfl hone λw8 hs8 hB28=>xe ?_
    have hs78:Step [b2] w7 w8:=hs8
    refine Qk ⟨[.agg #[vs,vx,vk]],⟨⟨_,rfl,Qv rfl (hB28.at (L:=[]) (by simp)).cells⟩,trivial⟩,hs07.then1 hs8 (by omega),?_⟩
    have ho8:=Qm ((Qm ho5 hs6 (λb hb hm=>by have:=(Qq ho5 b hb).1;simp at hm;omega))) hs7 (λb hb hm=>by have:=(Qq ho5 b hb).1;simp at hm;omega)
    have ho9:=Qm ho8 hs8 (λb hb hm=>by have:=(Qq ho5 b hb).1;simp at hm;omega)
    have hX8:=(ZY.low hX6 hs7 (by simp;omega)).low hs8 (by simp;omega)
    have hK8:=ZY.low hK7 hs8 (by simp;omega)
    refine ⟨vs,vx,vk,qx,ks,rfl,hx6,hk7,λL hL=>⟨?_,XvN.xcs hX8 hx6 h.ex.nm (by omega) (λb hb=>by have:=hL b hb;omega),KvN.kcs hK8 hk7 h.cs.nm (by omega) (λb hb=>by have:=hL b hb;omega)⟩⟩
    have he:szs c.cel.co=c.co.map (·.p.a.st):=by show ((c.co.map IV.it).map _)=_;rw[List.map_map];rfl
    rw[he]
    exact Qt.ints ho9 (by rw[List.length_map];omega) (λb hb=>by have:=hL b hb;omega)
   have hltC:i<c.cs.length:=by have h16:(i:Int)<(c.cs.length:Int):=h50;omega
   have hmemC:=List.getElem_mem hltC
   have htkC:c.cs.take (i+1)=c.cs.take i++[c.cs[i]'hltC]:=List.take_succ_eq_append_getElem hltC
   refine Qi<|Qg<|Qh<|Qc<|xig Jq h7.cs.arr rfl rfl hltC λa51 h51=>?_
   refine Zc (c.cs[i]'hltC) λq hq=>?_
   rw[hq] at h51 hmemC htkC
   have hqA:=h7.cs.each q hmemC
   refine x (QJ h51 rfl rfl)<|xl rfl<|Qr (us:=[.string .empty,nS,.int .i64 0]) rfl λb9 w9 hs9 hb9 hB9=>xl rfl<|Ql (us:=ZC q) hB9 rfl rfl rfl rfl ⟨rfl,hqA.one,rfl,trivial⟩ λw10 hs10 hB9 =>
    xe ?_
   have hs710:Step [] w7 w10:=hs9.then1 hs10 hb9
   have hB310:=hB37.ext hs710
   have hKlt:=Qq hK7.own
   have hb3v:b3∉ob vk:=λhm=>by have:=(hKlt b3 hm).1;omega
   have hb9v:b9∉ob vk:=λhm=>by have:=(hKlt b9 hm).2;omega
   refine QT (Step (ob vk) w10) [(0,true),(1,true),(2,true),(3,true),(4,true),(5,true),(7,true),(8,true),(6,false),(9,true),(10,false),(11,false),(12,true),(13,false)] mixed (by rfl) (by kernel_rfl) (Step.drew _ _) ?_
   have hs710d:=hs710.trans (Step.drew [] w10)
   refine p (λ_=>Qa rfl)<|pq (λ_ hc=>Qd (hB310.step hc hb3v) rfl rfl)<|p (λ_=>Qa rfl)<|pq (λ_ hc=>Qd (hB9.step hc hb9v) rfl rfl) <|
    p (λ_=>Qa rfl)<|pq (λ_ hc=>Qd (hB9.step hc hb9v) rfl rfl)<|p (λ_=>Qa rfl)<|pq (λ_ hc=>Qd (hB9.step hc hb9v) rfl rfl) <|
    pk<|xf<|(QdG (hqA.ext hs710d)).mono ?_
   rintro r11 w11 ⟨hs11,ho11⟩
   have hs1011:=(Step.drew [] w10).trans hs11
   refine ⟨hs1011.any,?_⟩
   refine p (λ_=>QN ⟨rfl,Zl ho11,rfl,trivial⟩)<|pk<|QH (us:=[ZC ⟨q.nm,r11,q.ts,q.bd⟩]) rfl rfl (by decide) (by simp) ⟨rfl,rfl,trivial⟩ λb63 w12 hs12 hb63 hB63=>⟨(hs1011.trans hs12).any,?_⟩
   have hs712:=(hs710.trans hs1011).trans hs12
   have hzd:w10.heap.size=({ w10 with drawn:=w10.drawn+1 }:World).heap.size:=rfl
   have hz710:=hs710.size
   have hz712:=hs712.size
   refine pk<|Q5 (news:=ZC ⟨q.nm,r11,q.ts,q.bd⟩) (L:=[]) (Qu hK7.own hs712) rfl rfl rfl (hB63.at (by simp)) (Qcx (q:=⟨q.nm,r11,q.ts,q.bd⟩) (QO ho11)) (by omega) (by omega) λv13 w13 ho13 hs13 hn13=>⟨((hs1011.trans hs12).any (L:=ob vk)).trans' hs13,?_⟩
   have hK13:KvN w6.heap.size w13 v13 (ks++[⟨q.nm,r11,q.ts,q.bd⟩]):=ZY.app hK7 hs712 (Qu ho11 hs12) hqA.le (by rw[←hzd];omega) (by omega) ho13 hs13 hn13
   have hB313:=(hB310.step ((hs1011.trans hs12).any (L:=ob vk)) hb3v).step hs13 hb3v
   refine p (λ_=>Qa rfl)<|pkl (hl:=by kernel_rfl)<|QF (j:=2) (u:=v13) hB313 rfl rfl (by simp) (QO ho13) λw14 hs14 hB314=>pe ?_
   have hs613:Step [b3] w6 w13:=(hs7.trans hs712).then hs13 (λb hb=>.inr (hKlt b hb).1)
   refine Qx<|x (Qy rfl rfl ⟨by omega,by omega⟩)<|Qb<|xe ?_
   refine ⟨(i+1,v13,ks++[⟨q.nm,r11,q.ts,q.bd⟩]),by simp only[];omega,⟨rfl,trivial⟩,hltC,?_,hB314,ZY.low hK13 hs14 (by simp;omega),?_⟩
   ·exact hs613.trans' hs14
   ·simp only[];rw[List.map_append,hk7,htkC,List.map_append];rfl
  have hltB:j<c.ex.length:=by have h16:(j:Int)<(c.ex.length:Int):=h31;omega
  have hmemB:=List.getElem_mem hltB
  have htkB:c.ex.take (j+1)=c.ex.take j++[c.ex[j]'hltB]:=List.take_succ_eq_append_getElem hltB
  refine Qi<|Qg<|Qh<|Qc<|xig JL h6.ex.arr rfl rfl hltB λa32 h32=>?_
  refine Zc (c.ex[j]'hltB) λq hq=>?_
  rw[hq] at h32 hmemB htkB
  have hqA:=h6.ex.each q hmemB
  refine x (QJ h32 rfl rfl)<|xl rfl<|Qr (us:=[.string .empty,nS]) rfl λb7 w15 hs15 hb7 hB7=>xl rfl<|Ql (us:=Zy q) hB7 rfl rfl rfl rfl ⟨rfl,hqA.one,trivial⟩ λw16 hs16 hB7 =>
   xe ?_
  have hs616:Step [] w6 w16:=hs15.then1 hs16 hb7
  have hB316:=hB36.ext hs616
  have hXlt:=Qq hX6.own
  have hb3v:b3∉ob vx:=λhm=>by have:=(hXlt b3 hm).1;omega
  have hb7v:b7∉ob vx:=λhm=>by have:=(hXlt b7 hm).2;omega
  refine QT (Step (ob vx) w16) [(0,true),(1,true),(2,true),(3,true),(4,true),(5,true),(6,false),(7,true),(8,false),(9,false),(10,true),(11,false)] mixed (by rfl) (by kernel_rfl) (Step.drew _ _) ?_
  have hs616d:=hs616.trans (Step.drew [] w16)
  refine p (λ_=>Qa rfl)<|pq (λ_ hc=>Qd (hB316.step hc hb3v) rfl rfl)<|p (λ_=>Qa rfl)<|pq (λ_ hc=>Qd (hB7.step hc hb7v) rfl rfl) <|
   p (λ_=>Qa rfl)<|pq (λ_ hc=>Qd (hB7.step hc hb7v) rfl rfl)<|pk<|xf<|(QdH (hqA.ext hs616d)).mono ?_
  rintro r17 w17 ⟨hs17,ho17⟩
  have hs1617:=(Step.drew [] w16).trans hs17
  refine ⟨hs1617.any,?_⟩
  refine p (λ_=>QN ⟨rfl,Zl ho17,trivial⟩)<|pk<|QH (us:=[Zy ⟨q.nm,r17,q.ls⟩]) rfl rfl (by decide) (by simp) ⟨rfl,rfl,trivial⟩ λb42 w18 hs18 hb42 hB42=>⟨(hs1617.trans hs18).any,?_⟩
  have hs618:=(hs616.trans hs1617).trans hs18
  have hzd:w16.heap.size=({ w16 with drawn:=w16.drawn+1 }:World).heap.size:=rfl
  have hz616:=hs616.size
  have hz618:=hs618.size
  refine pk<|Q5 (news:=Zy ⟨q.nm,r17,q.ls⟩) (L:=[]) (Qu hX6.own hs618) rfl rfl rfl (hB42.at (by simp)) (yf (q:=⟨q.nm,r17,q.ls⟩) (QO ho17)) (by omega) (by omega) λv19 w19 ho19 hs19 hn19=>⟨((hs1617.trans hs18).any (L:=ob vx)).trans' hs19,?_⟩
  have hX19:XvN w5.heap.size w19 v19 (qx++[⟨q.nm,r17,q.ls⟩]):=ZY.app hX6 hs618 (Qu ho17 hs18) hqA.le (by rw[←hzd];omega) (by omega) ho19 hs19 hn19
  have hB319:=(hB316.step ((hs1617.trans hs18).any (L:=ob vx)) hb3v).step hs19 hb3v
  have hs519:Step [b3] w5 w19:=(hs6.trans hs618).then hs19 (λb hb=>.inr (hXlt b hb).1)
  refine p (λ_=>Qa rfl)<|pkl (hl:=by kernel_rfl)<|QF (j:=1) (u:=v19) hB319 rfl rfl (by simp) (QO ho19) λw20 hs20 hB320=>pe ?_
  refine Qx<|x (Qy rfl rfl ⟨by omega,by omega⟩)<|Qb<|xe ?_
  refine ⟨(j+1,v19,qx++[⟨q.nm,r17,q.ls⟩]),by simp only[];omega,⟨rfl,trivial⟩,hltB,?_,hB320,ZY.low hX19 hs20 (by simp;omega),?_⟩
  ·exact hs519.trans' hs20
  ·simp only[];rw[List.map_append,hx6,htkB,List.map_append];rfl
 have hltA:k<c.co.length:=by have h16:(k:Int)<(c.co.length:Int):=h15;omega
 have hmemA:=List.getElem_mem hltA
 have htkA:c.co.take (k+1)=c.co.take k++[c.co[k]'hltA]:=List.take_succ_eq_append_getElem hltA
 have htl:((c.co.take k).map (·.p.a.st)).length=k:=by simp;omega
 refine Qi<|Qg<|Qh<|Qc<|xig Xb h5.co.arr rfl rfl hltA λa16 h16=>?_
 refine Zc (c.co[k]'hltA) λq hq=>?_
 rw[hq] at h16 hmemA htkA
 have hqA:=h5.co.each q hmemA
 refine x (QJ h16 rfl rfl)<|xl rfl<|Qr (us:=[.string .empty,nS,.int .i64 0,nS,nS]) rfl λb5 w21 hs21 hb5 hB5=>xl rfl<|Ql (us:=Zi q) hB5 rfl rfl rfl rfl ⟨rfl,hqA.al.one,rfl,hqA.mr.one,hqA.ed.one,trivial⟩ λw22 hs22 hB5 =>
  xe ?_
 have hs522:Step [] w5 w22:=hs21.then1 hs22 hb5
 have hB322:=hB35.ext hs522
 refine Qx<|x (Qa rfl)<|x (Qd hB322 rfl rfl)<|x (Qa rfl)<|x (Qa rfl)<|x (Qd hB5 rfl rfl)<|xl rfl<|QH (us:=[[.int .i64 q.p.a.st]]) rfl rfl (by decide) (by simp) ⟨rfl,rfl,trivial⟩ λb23 w23 hs23 hb23 hB23=>?_
 have hs523:=hs522.trans hs23
 have hz523:=hs523.size
 have hlt5:=Qq ho5
 have hb3v:b3∉ob vs:=λhm=>by have:=(hlt5 b3 hm).1;omega
 refine xl rfl<|Q5 (news:=[.int .i64 q.p.a.st]) (L:=[]) (Qu ho5 hs523) rfl rfl rfl (hB23.at (by simp)) (by simp[Value.oneCell']) (by omega) (by omega) λv24 w24 ho24 hs24 hn24=>?_
 have hB324:=(hB35.ext hs523).step hs24 hb3v
 have hs424:Step [b3] w4 w24:=(hs5.trans hs523).then hs24 (λb hb=>.inr (hlt5 b hb).1)
 refine x (Qa rfl)<|xl rfl<|QF (j:=0) (u:=v24) hB324 rfl rfl (by simp) (QO ho24) λw25 hs25 hB325 =>
  xe ?_
 have ho25:=Qm ho24 hs25 (λb hb hm=>by have:=(Qq ho24 b hb).1;simp at hm;omega)
 refine Qx<|x (Qy rfl rfl ⟨by omega,by omega⟩)<|Qb<|xe ?_
 refine ⟨(k+1,v24),by simp only[];omega,⟨rfl,trivial⟩,hltA,hs424.trans' hs25,hB325,?_⟩
 simp only[]
 rw[htkA,List.map_append]
 exact Qt.snoc (n:=q.p.a.st) ho25
theorem Qd6 (n:Nat):Kp (n+1)=Kp n++[(n:Int)]:=by unfold Kp;rw[List.range_succ,List.map_append];rfl
theorem yi (n:Nat):(Kp n).length=n:=by unfold Kp;simp
theorem XY {k:Nat}{l:List IV}(h:k<l.length):(l.drop k).map (·.it)=(l[k]'h).it::(l.drop (k+1)).map (·.it):=by rw[Q6 h];rfl
theorem qp {n:Nat}{u:LI}{s:List ByteArray}{x:Jj}(h:Ya n u s x=0):Q2 x.a:=by
 unfold Ya at h
 split at h
 ·cases h
 ·split at h
  ·cases h
  ·split at h
   ·rename_i h1 h2;exact absurd h h2
   ·rename_i h1;exact (Zs _).1 (Decidable.not_not.1 h1)
theorem KO {n:Nat}{al:LI}{s:List ByteArray}{u:LI}{x:Jj}{l:List Jj}:Yn n al s u (x::l)=if Ya n al s x≠0 then (Ya n al s x,s,u) else Yn n al (s++[x.nm]) (mrg (· || ·) u x.a.al) l:=rfl
theorem qm {n:Nat}{u:LI}{s:List ByteArray}{x:Jj}{l:List Jj}:JY n u s (x::l)=if Ya n u s x≠0 then Ya n u s x else JY n u (s++[x.nm]) l:=rfl
set_option maxHeartbeats 4000000 in
theorem YY {L:LN}{w:World}{c:CL}(h:ZH L w.heap c) :
  QG prog 91 [c.val] w λr w'=>r=.int .i64 (Zh c.cel)∧Step [] w w':=by
 have hcl:=h.co.arr.le
 have hql:=h.rq.arr.le
 have hr:Zh c.cel=(if Jt c.ev≠0 then Jt c.ev else if c.co.length=0 then 12 else if 8<c.co.length∨12<c.co.length+c.rq.length then 3 else
  if (Yn c.ev.length (Kp c.ev.length) [] [] (c.co.map (·.it))).1≠0 then (Yn c.ev.length (Kp c.ev.length) [] [] (c.co.map (·.it))).1 else
  if JY c.ev.length (Yn c.ev.length (Kp c.ev.length) [] [] (c.co.map (·.it))).2.2 (Yn c.ev.length (Kp c.ev.length) [] [] (c.co.map (·.it))).2.1 (c.rq.map (·.it))≠0 then JY c.ev.length (Yn c.ev.length (Kp c.ev.length) [] [] (c.co.map (·.it))).2.2 (Yn c.ev.length (Kp c.ev.length) [] [] (c.co.map (·.it))).2.1 (c.rq.map (·.it)) else
  YD (szs c.cel.co) c.cel.ex c.cel.cs):=by
  unfold Zh
  rw[show c.cel.co.length=c.co.length from List.length_map ..,show c.cel.rq.length=c.rq.length from List.length_map ..]
  rfl
 refine Zc (Zh c.cel) λR hR=>?_
 rw[hR] at hr ⊢
 refine Zc (Yn c.ev.length (Kp c.ev.length) [] [] (c.co.map (·.it))) λCO hCO=>?_
 rw[hCO] at hr
 refine QG.of_W func91 rfl ntmps91 results91 (by simp) ?_
 refine Qc<|xl rfl<|QQ (us:=c.cells) rfl λb1 w1 hs1 hb1 hB1=>Qf ?_
 have hz1:=hs1.size
 have hl1:=hB1.lt
 refine Qg<|Qc<|x (Qa rfl)<|x (Qd hB1 rfl rfl)<|xl rfl<|xf<|(qg (h.ev.ext hs1)).mono ?_
 rintro r2 w2 ⟨rfl,hs2⟩
 refine Qf ?_
 have hs02:=hs1.trans hs2
 have hB12:=hB1.ext hs2
 have h2:=h.ext hs02
 refine Qc<|Qb<|x (Q4 rfl rfl)<|xe ?_
 refine Q3 rfl (λh19=>?_) (λh19=>?_)
 ·rw[if_pos h19] at hr
  subst hr
  refine Qc<|Qb<|Qf ?_
  exact Qk ⟨[_],⟨rfl,trivial⟩,rfl,hs02⟩
 rw[if_neg h19] at hr
 have hev:c.ev.length≤32:=by
  refine Decidable.not_not.1 λhn=>?_
  apply h19
  unfold Jt
  rw[if_pos (by omega)];decide
 refine Qi<|Qg<|Qc<|x (Qa rfl)<|x (Qd hB12 rfl rfl)<|x (Qs h2.co.arr rfl)<|Qf<|Qh<|Qc<|Qb<|x (Zn rfl rfl)<|Qf<|Q3 rfl (λh24=>?_) (λh24=>?_)
 ·have h25:c.co.length=0:=by have h26:(c.co.length:Int)=0:=h24;omega
  rw[if_pos h25] at hr
  subst hr
  refine Qc<|Qf ?_
  exact Qk ⟨[_],⟨rfl,trivial⟩,rfl,hs02⟩
 have h25:¬c.co.length=0:=by have h26:¬(c.co.length:Int)=0:=h24;omega
 rw[if_neg h25] at hr
 refine QW (α:=Bool) [(27,37)] (λz=>[(27,.bool z)]) (λz w'=>w'=w2∧z=decide (8<c.co.length∨12<c.co.length+c.rq.length)) (by rfl) ?_ ?_
 ·refine Qx<|Qb<|xb (ZL rfl rfl) (λh29=>?_) (λh29=>?_)
  ·refine Qb<|xs rfl<|xs rfl<|xs rfl<|xs rfl<|xs rfl<|xs rfl<|x (Qp rfl)<|Qf ?_
   exact ⟨_,⟨rfl,trivial⟩,rfl,bT (.inl (by omega))⟩
  refine Qb<|Qb<|x (Qa rfl)<|x (Qd hB12 rfl rfl)<|x (Qs h2.rq.arr rfl)<|x (Qy rfl rfl ⟨by omega,by omega⟩) <|
   x (ZL rfl rfl)<|x (Qp rfl)<|Qf ?_
  exact ⟨_,⟨rfl,trivial⟩,rfl,bD (by omega)⟩
 rintro z g w3 ⟨rfl,rfl⟩
 refine Q3 rfl (λh27=>?_) (λh27=>?_)
 ·rw[if_pos h27] at hr
  subst hr
  refine Qc<|Qf ?_
  exact Qk ⟨[_],⟨rfl,trivial⟩,rfl,hs02⟩
 rw[if_neg h27] at hr
 refine Qi<|Qc<|xl rfl<|ZU Xv λbm w4 hs4 hbm hm4=>Qf ?_
 have hlm:=hm4.lt
 have hl12:=hB12.lt
 have hz2:=hs02.size
 have hs04:=hs02.trans hs4
 have hB14:=hB12.ext hs4
 have hnm1:b1≠bm:=by omega
 have hge:w.heap.size≤bm:=by omega
 have hM:ZH [bm] w.heap c:=h.up (λb hb=>.inr (by simp at hb;omega))
 have hM4:=hM.ext hs04
 refine Qc<|x Qe<|Qf<|Qg<|Qc<|x (Qa rfl)<|x (Qd hB14 rfl rfl)<|x (Qs hM4.ev.arr rfl)<|Qb<|xe ?_
 refine Qh<|QA (α:=Nat×Value) [(6,6),(8,8),(42,49)] (λz=>[(6,z.2),(42,.int .i64 z.1)]) (λz w'=>z.1≤c.ev.length∧Step [] w4 w'∧Qt 3 w4.heap.size w' z.2 (Kp z.1)) (λz=>c.ev.length - z.1) (by rfl) (0,nS) ⟨rfl,rfl,trivial⟩
  ⟨Nat.zero_le _,Step.refl _ _,QP _ _ _ _⟩ ?_
 rintro ⟨k,vg⟩ g w5 ⟨hk,hs5,ho5⟩
 simp only[] at hk ho5
 have hul:=yi k
 refine Qc<|x (QB rfl rfl)<|xe ?_
 refine Qg<|QD rfl (λh43=>?_) (λh43=>?_)
 ·refine Qz ?_
  have hke:k=c.ev.length:=by have h16:¬(k:Int)<(c.ev.length:Int):=h43;omega
  subst hke
  have hg5:QL [bm] w5.heap vg (Kp c.ev.length):=Qt.ints ho5 (by omega) (by simp;omega)
  have hm5:=hm4.ext hs5
  have hB15:=hB14.ext hs5
  have hM5:=hM4.ext hs5
  have hs05:=hs04.trans hs5
  refine Qg<|Qc<|x (Qa rfl)<|x (Qd hB15 rfl rfl)<|x (Qs hM5.co.arr rfl)<|Qb<|xe ?_
  refine Qh<|QA (α:=Nat×Value×List ByteArray×LI) [(2,2),(7,7),(10,11),(53,72)] (λz=>[(7,z.2.1),(53,.int .i64 z.1)]) (λz w'=>z.1≤c.co.length∧Step [bm] w5 w'∧ZE Xv w'.heap bm (nmM z.2.2.1)∧QL [bm] w'.heap z.2.1 z.2.2.2∧z.2.2.2.length≤32*z.1∧Yn c.ev.length (Kp c.ev.length) z.2.2.1 z.2.2.2 ((c.co.drop z.1).map (·.it))=CO) (λz=>c.co.length - z.1) (by rfl) (0,nS,[],[]) ⟨rfl,rfl,trivial⟩
   ⟨Nat.zero_le _,Step.refl _ _,hm5,Zw.nil _ _ _,by simp,hCO⟩ ?_
  rintro ⟨k,vu,sn,u⟩ g w6 ⟨hk,hs6,hm6,hu6,hul6,hco⟩
  simp only[] at hk hm6 hu6 hul6 hco
  have hs06:Step [] w w6:=hs05.then1 hs6 hge
  have hB16:=hB15.step hs6 (by simpa using hnm1)
  have hM6:=hM5.st hs6
  refine Qc<|x (QB rfl rfl)<|xe ?_
  refine Qg<|QD rfl (λh54=>?_) (λh54=>?_)
  ·refine Qz ?_
   have hke:k=c.co.length:=by have h16:¬(k:Int)<(c.co.length:Int):=h54;omega
   subst hke
   rw[List.drop_of_length_le (Nat.le_refl _)] at hco
   have hco':CO=(0,sn,u):=hco.symm
   subst hco'
   rw[if_neg (by simp)] at hr
   simp only[] at hr
   refine Zc (JY c.ev.length u sn (c.rq.map (·.it))) λRQ hRQ=>?_
   rw[hRQ] at hr
   refine Qg<|Qc<|x (Qa rfl)<|x (Qd hB16 rfl rfl)<|x (Qs hM6.rq.arr rfl)<|Qb<|xe ?_
   refine Qh<|QA (α:=Nat×List ByteArray) [(2,2),(13,14),(76,90)] (λz=>[(76,.int .i64 z.1)]) (λz w'=>z.1≤c.rq.length∧Step [bm] w6 w'∧ZE Xv w'.heap bm (nmM z.2)∧JY c.ev.length u z.2 ((c.rq.drop z.1).map (·.it))=RQ) (λz=>c.rq.length - z.1) (by rfl) (0,sn) ⟨rfl,trivial⟩
    ⟨Nat.zero_le _,Step.refl _ _,hm6,hRQ⟩ ?_
   rintro ⟨k,sm⟩ g w7 ⟨hk,hs7,hm7,hrq⟩
   simp only[] at hk hm7 hrq
   have hs07:Step [] w w7:=hs06.then1 hs7 hge
   have hB17:=hB16.step hs7 (by simpa using hnm1)
   have hM7:=hM6.st hs7
   have hu7:=hu6.st hs7
   refine Qc<|x (QB rfl rfl)<|xe ?_
   refine Qg<|QD rfl (λh77=>?_) (λh77=>?_)
   ·refine Qz ?_
    have hke:c.rq.length≤k:=by have h16:¬(k:Int)<(c.rq.length:Int):=h77;omega
    rw[List.drop_of_length_le hke] at hrq
    have hRQ0:RQ=0:=hrq.symm
    rw[if_neg (by rw[hRQ0];decide)] at hr
    refine Qc<|x (Qn hB17 rfl rfl)<|xl rfl<|xf<|(zZ hM7).mono ?_
    rintro r8 w8 ⟨hs8,vs,vx,vk,qx,ks,rfl,hqx,hks,hF⟩
    obtain ⟨hS8,hX8,hK8⟩:=hF [] (by simp)
    refine xl rfl<|xf<|(qf hS8 hX8 hK8).mono ?_
    rintro r9 w9 ⟨rfl,hs9⟩
    rw[hqx,hks,←hr]
    refine Qf ?_
    exact Qk ⟨[_],⟨rfl,trivial⟩,rfl,(hs07.trans hs8).trans hs9⟩
   have hlt:k<c.rq.length:=by have h16:(k:Int)<(c.rq.length:Int):=h77;omega
   have hmem:=List.getElem_mem hlt
   rw[XY hlt,qm] at hrq
   refine Qi<|Qg<|Qh<|Qc<|xig Xb hM7.rq.arr rfl rfl hlt λa78 h78=>?_
   refine Zc (c.rq[k]'hlt) λq hq=>?_
   rw[hq] at h78 hmem hrq
   have hqA:=hM7.rq.each q hmem
   refine x (QJ h78 rfl rfl)<|xl rfl<|Qr (us:=[.string .empty,nS,.int .i64 0,nS,nS]) rfl λb13 w10 hs10 hb13 hB13=>xl rfl<|Ql (us:=Zi q) hB13 rfl rfl rfl rfl ⟨rfl,hqA.al.one,rfl,hqA.mr.one,hqA.ed.one,trivial⟩ λw11 hs11 hB13 =>
    xe ?_
   have hs711:Step [] w7 w11:=hs10.then1 hs11 hb13
   refine Qc<|x (Qn hB13 rfl rfl)<|x (Qa rfl)<|x (Qd (hB17.ext hs711) rfl rfl)<|x (Qs (hM7.ev.ext hs711).arr rfl)<|Qb<|Qb<|xl rfl<|xf<|(QcC (hqA.ext hs711) (hM7.rq.nm q hmem) (hu7.ext hs711) (by omega) (hm7.ext hs711) (by simp) (by simp)).mono ?_
   rintro r12 w12 ⟨rfl,hs12,hm12⟩
   refine Qf<|Qc<|Qb<|x (Q4 rfl rfl)<|xe ?_
   refine Q3 rfl (λh88=>?_) (λh88=>?_)
   ·rw[if_pos h88] at hrq
    rw[if_pos (by rw[←hrq];exact h88)] at hr
    refine Qc<|Qb<|Qf ?_
    exact Qk ⟨[_],⟨rfl,trivial⟩,by rw[hr,←hrq];rfl,(hs07.trans hs711).then1 hs12 hge⟩
   rw[if_neg h88] at hrq
   refine Qi<|Qx<|x (Qy rfl rfl ⟨by omega,by omega⟩)<|Qb<|xe ?_
   exact ⟨(k+1,sm++[q.nm]),by simp only[];omega,⟨rfl,trivial⟩,hlt,(hs7.trans hs711).trans' hs12,hm12 (Decidable.not_not.1 h88),hrq⟩
  have hlt:k<c.co.length:=by have h16:(k:Int)<(c.co.length:Int):=h54;omega
  have hmem:=List.getElem_mem hlt
  rw[XY hlt,KO] at hco
  refine Qi<|Qg<|Qh<|Qc<|xig Xb hM6.co.arr rfl rfl hlt λa55 h55=>?_
  refine Zc (c.co[k]'hlt) λq hq=>?_
  rw[hq] at h55 hmem hco
  have hqA:=hM6.co.each q hmem
  have hg6:=hg5.st hs6
  refine x (QJ h55 rfl rfl)<|xl rfl<|Qr (us:=[.string .empty,nS,.int .i64 0,nS,nS]) rfl λb10 w13 hs13 hb10 hB10=>xl rfl<|Ql (us:=Zi q) hB10 rfl rfl rfl rfl ⟨rfl,hqA.al.one,rfl,hqA.mr.one,hqA.ed.one,trivial⟩ λw14 hs14 hB10 =>
   xe ?_
  have hs614:Step [] w6 w14:=hs13.then1 hs14 hb10
  have hl6:=hm6.lt
  refine Qg<|Qc<|x (Qn hB10 rfl rfl)<|x (Qa rfl)<|x (Qd (hB16.ext hs614) rfl rfl)<|x (Qs (hM6.ev.ext hs614).arr rfl)<|Qb<|Qb<|xl rfl<|xf<|(QcC (hqA.ext hs614) (hM6.co.nm q hmem) (hg6.ext hs614) (by omega) (hm6.ext hs614) (by simp) (by simp)).mono ?_
  rintro r15 w15 ⟨rfl,hs15,hm15⟩
  refine Qf<|Qc<|Qb<|x (Q4 rfl rfl)<|xe ?_
  refine Q3 rfl (λh65=>?_) (λh65=>?_)
  ·rw[if_pos h65] at hco
   rw[if_pos (by rw[←hco];exact h65)] at hr
   refine Qc<|Qb<|Qf ?_
   exact Qk ⟨[_],⟨rfl,trivial⟩,by rw[hr,←hco];rfl,(hs06.trans hs614).then1 hs15 hge⟩
  rw[if_neg h65] at hco
  have hz0:Ya c.ev.length (Kp c.ev.length) sn q.it=0:=Decidable.not_not.1 h65
  have hal:=(qp hz0).al_le
  have hal':q.p.a.al.length≤32:=hal
  refine Qi ?_
  have hs615:Step [bm] w6 w15:=hs614.any.trans' hs15
  have hu15:=hu6.st hs615
  have hz615:=hs615.size
  refine Qx<|Qb<|x (Qa rfl)<|x (Qa rfl)<|x (Qd (hB10.step hs15 (by simp;omega)) rfl rfl)<|xl rfl<|xf<|(qH hu15 (hM6.st hs615 |>.co.each q hmem |>.al) (by omega)).mono ?_
  rintro r16 w16 ⟨hs16,ho16⟩
  refine Qf ?_
  have hml:=Vd (· || ·) u q.p.a.al
  refine Qx<|x (Qy rfl rfl ⟨by omega,by omega⟩)<|Qb<|xe ?_
  exact ⟨(k+1,r16,sn++[q.nm],mrg (· || ·) u q.p.a.al),by simp only[];omega,⟨rfl,rfl,trivial⟩,hlt,(hs6.trans' hs615).trans hs16,(hm15 hz0).ext hs16,Qt.ints ho16 (by show (mrg _ _ _).length≤_;omega) (by simp;omega),by simp only[];omega,hco⟩
 have hlt:k<c.ev.length:=by have h16:(k:Int)<(c.ev.length:Int):=h43;omega
 refine Qi<|Qg<|Qh<|Qc<|Qb<|Qf<|Qx<|Qb<|Qb<|xl rfl<|QH (us:=[[.int .i64 k]]) rfl rfl (by decide) (by simp) ⟨rfl,rfl,trivial⟩ λb47 w17 hs17 hb47 hB47=>?_
 have hs517:=hs5.trans hs17
 have hz517:=hs517.size
 have hge5:=Qq ho5
 refine xl rfl<|Q5 (news:=[.int .i64 k]) (L:=[]) (Qu ho5 hs17) rfl rfl rfl (hB47.at (by simp)) (by simp[Value.oneCell']) (by omega) (by omega) λv18 w18 ho18 hs18 hn18 =>
  Qf<|Qx<|x (Qy rfl rfl ⟨by omega,by omega⟩)<|Qb<|xe ?_
 refine ⟨(k+1,v18),by simp only[];omega,⟨rfl,rfl,trivial⟩,hlt,hs517.then hs18 (λb hb=>.inr (hge5 b hb).1),?_⟩
 simp only[]
 rw[Qd6]
 exact Qt.snoc (n:=(k:Int)) ho18
end Go.Proofs.YtgmifemhkjdblaaGreatDoor
namespace Go.Lg
theorem QlR {P:Program}{ops:List Oper}{K:Fr→World→Prop}{f:Fr}{w:World}{d:Option Nat}{ty:Nat}{ps:String}{af:Array Edge}{gd:Option (Nat×Bool)}{C:World→Prop}{pl:List (Nat×Bool)}{i0:Nat}
  {t e sz bys:Nat} {z:Value} {x y1 y2:Operand} {L:LN} {v:Value} {n:Nat} {cs:LV} {H:Array Obj} {k k':IntKind} {hi:Nat} [h:Sl P t e sz bys z]
  (ho:QK ops i0=⟨d,.slice t x none (some y1) (some y2),ty,ps,af,gd⟩) (hA:Zw L H v n sz cs) (hx:ev f x=v) (hh:ev f y1=.int k hi) (hm:ev f y2=.int k' hi) (h1:hi≤n)
  (hK:∀v',Zw L H v' hi sz (cs.take (hi*sz))→XP P ops C K pl (QU f d v') w)
  (hg:ZZ ops f (QK ops i0)=true:=by rfl):XP P ops C K ((i0,true)::pl) f w:=by
 obtain ⟨v',h3,h4⟩:=QeK (P:=P) (d:=d) (ty:=ty) (ps:=ps) (af:=af) (gd:=gd) (t:=t) hA hx hh hm h1
 exact Lg.p (λw'=>by rw[ho];exact h4 w') (by rw[ho];exact hK v' h3) hg
end Go.Lg
namespace Go.Proofs.YtgmifemhkjdblaaGreatDoor
open Tryz
open Go.Lg
structure QgK (c:ZB):Prop where
 ev:c.ev.length≤32
 c0:c.co.length≠0
 c8:c.co.length≤8
 cr:c.co.length+c.rq.length≤12
 co:∀x∈c.co,Q2 x.a
 rq:∀x∈c.rq,Q2 x.a
 ce:∀x∈c.co,∀e∈x.a.al,e<(c.ev.length:Int)
 re:∀x∈c.rq,∀e∈x.a.al,e<(c.ev.length:Int)
 cd:YD (szs c.co) c.ex c.cs=0
 e0:Jt c.ev=0
theorem Qav {n:Nat}{u:LI}{s:List ByteArray}{x:Jj}(h:Ya n u s x=0):∀e∈x.a.al,e<(n:Int):=by
 unfold Ya at h
 split at h
 ·cases h
 ·split at h
  ·cases h
  ·split at h
   ·rename_i h1 h2;exact absurd h h2
   ·split at h
    ·cases h
    ·split at h
     ·cases h
     ·split at h
      ·cases h
      ·rename_i h1
       intro e he
       refine Decidable.not_not.1 λhn=>h1 ?_
       rw[List.any_eq_true]
       exact ⟨e,he,decide_eq_true (by omega)⟩
theorem Qay {n:Nat}{al:LI}:∀{l:List Jj}{s:List ByteArray}{u:LI},(Yn n al s u l).1=0→∀x∈l,Q2 x.a∧∀e∈x.a.al,e<(n:Int)
 | [],_,_,_,x,hx=>by cases hx
 | y::l,s,u,h,x,hx=>by
  rw[KO] at h
  by_cases h1:Ya n al s y≠0
  ·rw[if_pos h1] at h;exact absurd h h1
  ·rw[if_neg h1] at h
   have h2:Ya n al s y=0:=Decidable.not_not.1 h1
   rcases List.mem_cons.1 hx with rfl | hx
   ·exact ⟨qp h2,Qav h2⟩
   ·exact Qay h x hx
theorem Qau {n:Nat}{u:LI}:∀{l:List Jj}{s:List ByteArray},JY n u s l=0→∀x∈l,Q2 x.a∧∀e∈x.a.al,e<(n:Int)
 | [],_,_,x,hx=>by cases hx
 | y::l,s,h,x,hx=>by
  rw[qm] at h
  by_cases h1:Ya n u s y≠0
  ·rw[if_pos h1] at h;exact absurd h h1
  ·rw[if_neg h1] at h
   have h2:Ya n u s y=0:=Decidable.not_not.1 h1
   rcases List.mem_cons.1 hx with rfl | hx
   ·exact ⟨qp h2,Qav h2⟩
   ·exact Qau h x hx
theorem ZP {c:ZB}(h:Zh c=0):QgK c:=by
 unfold Zh at h
 by_cases h1:Jt c.ev≠0
 ·rw[if_pos h1] at h;exact absurd h h1
 rw[if_neg h1] at h
 by_cases h2:c.co.length=0
 ·rw[if_pos h2] at h;cases h
 rw[if_neg h2] at h
 by_cases h3:8<c.co.length∨12<c.co.length+c.rq.length
 ·rw[if_pos h3] at h;cases h
 rw[if_neg h3] at h
 by_cases h4:(Yn c.ev.length (Kp c.ev.length) [] [] c.co).1≠0
 ·rw[if_pos h4] at h;exact absurd h h4
 rw[if_neg h4] at h
 by_cases h5:JY c.ev.length (Yn c.ev.length (Kp c.ev.length) [] [] c.co).2.2 (Yn c.ev.length (Kp c.ev.length) [] [] c.co).2.1 c.rq≠0
 ·rw[if_pos h5] at h;exact absurd h h5
 rw[if_neg h5] at h
 have a4:=Qay (Decidable.not_not.1 h4)
 have a5:=Qau (Decidable.not_not.1 h5)
 have hev:c.ev.length≤32:=by
  refine Decidable.not_not.1 λhn=>?_
  apply h1
  unfold Jt
  rw[if_pos (by omega)];decide
 exact ⟨hev,h2,by omega,by omega,λx hx=>(a4 x hx).1,λx hx=>(a5 x hx).1,λx hx=>(a4 x hx).2,λx hx=>(a5 x hx).2,h,Decidable.not_not.1 h1⟩
theorem Yb.e {N:Nat}{H:Array Obj}{aa:List QM}{va vt:Value}{c:Int}(h:Yb N H aa va vt c):c=XG aa:=by
 unfold Yb at h;unfold XG
 by_cases h1:JB aa≠0
 ·rw[if_pos h1] at h ⊢;exact h.1
 ·rw[if_neg h1] at h ⊢
  cases hs:sync aa with
  | none=>rw[hs] at h;exact h.1
  | some z=>rw[hs] at h;exact h.1
theorem Yb.bad {N:Nat}{H:Array Obj}{aa:List QM}{va vt:Value}{c:Int}(h:Yb N H aa va vt c) (hc:c≠0):va=zA∧vt=Zf:=by
 unfold Yb at h
 by_cases h1:JB aa≠0
 ·rw[if_pos h1] at h;exact h.2
 ·rw[if_neg h1] at h
  cases hs:sync aa with
  | none=>rw[hs] at h;exact h.2
  | some z=>rw[hs] at h;exact absurd h.1 hc
theorem Yb.good {N:Nat}{H:Array Obj}{aa:List QM}{va vt:Value}{c:Int}(h:Yb N H aa va vt c) (hc:c=0):YV N H va (syA aa)∧QbM N H vt (syQ aa)∧sync aa=some (syA aa,syQ aa)∧JB aa=0:=by
 unfold Yb at h;unfold syA syQ
 by_cases h1:JB aa≠0
 ·rw[if_pos h1] at h;exact absurd (h.1.symm.trans hc) h1
 ·rw[if_neg h1] at h
  cases hs:sync aa with
  | none=>rw[hs] at h;rw[h.1] at hc;cases hc
  | some z=>rw[hs] at h;exact ⟨h.2.1,h.2.2,rfl,Decidable.not_not.1 h1⟩
theorem Yb.st1 {N b:Nat}{w w':World}{aa:List QM}{va vt:Value}{c:Int}(h:Yb N w.heap aa va vt c) (hb:b<N) (hs:Step [b] w w'):Yb N w'.heap aa va vt c:=by
 unfold Yb at *
 split
 ·rename_i h1;rw[if_pos h1] at h;exact h
 ·rename_i h1;rw[if_neg h1] at h
  cases hq:sync aa with
  | none=>rw[hq] at h;exact h
  | some z=>rw[hq] at h;exact ⟨h.1,Z4 h.2.1 hb hs,Qgz h.2.2 hb hs⟩
theorem Yb.mono {N M:Nat}{H:Array Obj}{aa:List QM}{va vt:Value}{c:Int}(h:Yb N H aa va vt c) (hM:M≤N):Yb M H aa va vt c:=by
 unfold Yb at *
 split
 ·rename_i h1;rw[if_pos h1] at h;exact h
 ·rename_i h1;rw[if_neg h1] at h
  cases hq:sync aa with
  | none=>rw[hq] at h;exact h
  | some z=>rw[hq] at h;exact ⟨h.1,h.2.1.mono hM,h.2.2.mono hM⟩
theorem Qhf (c:ZB):Y4 c=if Zh c≠0 then Zh c else if XG (auts c.co)≠0 then XG (auts c.co) else XG (auts c.co++auts c.rq):=by
 unfold Y4
 split
 ·rfl
 ·have e:XG (auts c.co)=if JB (auts c.co)≠0 then JB (auts c.co) else match sync (auts c.co) with | none=>3 | some _=>0:=rfl
  by_cases h1:JB (auts c.co)≠0
  ·rw[if_pos h1] at e
   rw[if_pos h1,e,if_pos h1]
  ·rw[if_neg h1] at e
   rw[if_neg h1]
   cases hs:sync (auts c.co) with
   | none=>rw[hs] at e;simp only[] at e;rw[e];rfl
   | some z=>rw[hs] at e;simp only[] at e;rw[e];rfl
theorem QcZ (c:CL):(c.co.map (·.p)).map (·.a)=auts c.cel.co:=by unfold auts;show _=(c.co.map IV.it).map _;rw[List.map_map,List.map_map];rfl
theorem QiG (c:CL):(c.rq.map (·.p)).map (·.a)=auts c.cel.rq:=by unfold auts;show _=(c.rq.map IV.it).map _;rw[List.map_map,List.map_map];rfl
theorem Ur {ps:List AV}(h:∀p∈ps,Q2 p.a):∀p∈ps,p.a.st≤4096:=λp hp=>(h p hp).st1
def yc (N:Nat) (H:Array Obj) (c:ZB) (va vt:Value) (e:Int):Prop:=if Zh c≠0 then e=Zh c∧va=zA∧vt=Zf else Yb N H (auts c.co) va vt e
theorem QgC {L:LN}{w:World}{c:CL}(h:ZH L w.heap c) (hkb:Kb w 4096) :
  QG prog 210 [c.val] w λr w'=>Step [] w w'∧∃va vt e,r=.tuple #[va,vt,.int .i64 e]∧yc w.heap.size w'.heap c.cel va vt e:=by
 refine QG.of_W func210 rfl ntmps210 results210 (by simp) ?_
 refine Qc<|xl rfl<|QQ (us:=c.cells) rfl λb1 w1 hs1 hb1 hB1=>xl rfl<|Qr (us:=[nS,.int .i64 0,nS,nS]) rfl λb2 w2 hs2 hb2 hB2=>x Qe<|Qf ?_
 have hs02:=hs1.trans hs2
 have hz1:=hs1.size
 have hB12:=hB1.ext hs2
 refine Qg<|Qc<|x (Qn hB12 rfl rfl)<|xl rfl<|xf<|(YY (h.ext hs02)).mono ?_
 rintro r3 w3 ⟨rfl,hs3⟩
 refine Qf ?_
 have hs03:=hs02.trans hs3
 have hl2:=hB2.lt
 refine Qc<|Qb<|x (Q4 rfl rfl)<|xe ?_
 refine Q3 rfl (λh9=>?_) (λh9=>?_)
 ·refine Qc<|x (QN trivial)<|Qb<|xl rfl<|Ql (us:=[nS,.int .i64 0,nS,nS]) (hB2.ext hs3) rfl rfl rfl rfl ⟨rfl,rfl,rfl,rfl,trivial⟩ λw4 hs4 hB4=>x Qe<|Qf ?_
  exact Qk ⟨[zA,Zf,.int .i64 (Zh c.cel)],⟨⟨_,rfl,Qv rfl (hB4.at (L:=[]) (by simp)).cells⟩,rfl,rfl,trivial⟩,hs03.then1 hs4 (by omega),zA,Zf,_,rfl,by unfold yc;rw[if_pos h9];exact ⟨rfl,rfl,rfl⟩⟩
 have hok:=ZP (Decidable.not_not.1 h9)
 refine Qi<|Qc ?_
 have h3:=h.ext hs03
 refine x (Qa rfl)<|x (Qd (hB12.ext hs3) rfl rfl)<|xl rfl<|xf<|(Qbn h3.co).mono ?_
 rintro r5 w5 ⟨hs5,ho5⟩
 have hs05:=hs03.trans hs5
 have hco:∀p∈c.co.map (·.p),Q2 p.a:=λp hp=>by
  obtain ⟨q,hq,rfl⟩:=List.mem_map.1 hp
  exact hok.co q.it (List.mem_map_of_mem hq)
 have hcl:=h.co.arr.le
 have hA5:YG [] w5.heap r5 (c.co.map (·.p)):=Qfw ho5 (by rw[List.length_map];omega) (by simp) (λp hp=>by
  obtain ⟨q,hq,rfl⟩:=List.mem_map.1 hp
  exact (((h.co.each q hq).up (L':=[]) (by simp)).ext hs05))
 refine xl rfl<|xf<|(VA (km:=4096) hA5 (hkb.ext hs05) (by decide) (Ur hco)).mono ?_
 rintro r6 w6 ⟨hs6,va,vt,e,rfl,hR⟩
 rw[QcZ] at hR
 have hs06:=hs05.trans hs6
 have hz5:=hs05.size
 have hsh:∃us,va=.agg us.toArray∧us.length=4∧ZD us:=by
  by_cases he:e=0
  ·exact YH (hR.good he).1
  ·exact ⟨[nS,.int .i64 0,nS,nS],(hR.bad he).1,rfl,rfl,rfl,rfl,rfl,trivial⟩
 refine Exists.elim hsh λus hus=>?_
 refine x (Qj rfl rfl)<|x (Qj rfl rfl)<|x (Qj rfl rfl)<|xl rfl<|Ql (us:=us) ((hB2.ext hs3).ext (hs5.trans hs6)) rfl hus.1 hus.2.1 rfl hus.2.2 λw7 hs7 hB7 =>
  x Qe<|Qf<|Qk ⟨[.agg us.toArray,vt,.int .i64 e],⟨⟨_,rfl,Qv hus.2.1 (hB7.at (L:=[]) (by simp)).cells⟩,rfl,rfl,trivial⟩,hs06.then1 hs7 (by omega),va,vt,e,by rw[hus.1];rfl,?_⟩
 unfold yc
 rw[if_neg h9]
 exact (hR.st1 (by have:=hs5.size;have:=hs3.size;omega) hs7).mono hz5
theorem QcT {L:LN}{w:World}{v:Value}{l:LI}{m:Int}(h:QL L w.heap v l) (hkb:Kb w m) (hb:∀n∈l,0≤n∧n<m) (hl:l.length≤1000000) :
  QG prog 175 [v] w λr w'=>r=.string ⟨(XH l).toArray⟩∧Step [] w w':=by
 refine QG.of_W func175 rfl ntmps175 results175 (by simp) ?_
 refine Qc<|Qf<|Qc<|xl rfl<|Qr (us:=[.pointer none,nS]) rfl λb3 w1 hs1 hb3 hB3=>xe ?_
 refine Qg<|Qc<|Qb<|x (Qs h rfl)<|Qb<|xe ?_
 refine Qh<|QA (α:=Nat×Value) [(5,5),(8,16)] (λz=>[(8,.int .i64 z.1)]) (λz w'=>z.1≤l.length∧Step [] w w'∧(z.2=.pointer none∨z.2=me b3)∧Bl z.2 b3 (XH (l.take z.1)) w'∧(XH (l.take z.1)).length≤8*z.1) (λz=>l.length - z.1) (by rfl) (0,.pointer none) ⟨rfl,trivial⟩
  ⟨Nat.zero_le _,hs1,.inl rfl,⟨_,hB3,QP _ _ _ _⟩,Nat.le_refl _⟩ ?_
 rintro ⟨k,p⟩ g w2 ⟨hk,hs2,hp,hBl,hlen⟩
 simp only[] at hk hp hBl hlen
 refine Qc<|x (QB rfl rfl)<|xe ?_
 refine Qg<|QD rfl (λh9=>?_) (λh9=>?_)
 ·refine Qz ?_
  refine Qc ?_
  rw[List.take_of_length_le (by omega)] at hBl
  refine xl rfl<|xf<|(zl hs2 hb3 hp hBl).mono ?_
  rintro r3 w3 ⟨rfl,hs3⟩
  refine Qf ?_
  exact Qk ⟨[.string ⟨(XH l).toArray⟩],⟨rfl,trivial⟩,rfl,hs3⟩
 have hlt:k<l.length:=by omega
 have hbd:=hb l[k] (List.getElem_mem hlt)
 obtain ⟨q,hq⟩:∃q:Nat,l[k]=q:=⟨l[k].toNat,by omega⟩
 have hqn:l[k].toNat=q:=by omega
 have hds:=VT 7 q (by have:=hkb.le;omega)
 have htk:XH (l.take (k+1))=XH (l.take k)++(Lib.decDigits q++[32]):=by
  rw[List.take_succ_eq_append_getElem hlt]
  unfold XH
  rw[List.flatMap_append,List.flatMap_singleton,hqn]
 refine Qi<|Qg<|Qh<|Qc<|xii (h.ext hs2) rfl rfl hlt λa10 h10=>x (Qw h10 rfl)<|Qf<|Qx<|Qb<|xl rfl<|xf ?_
 refine (show QG _ _ [.int .i64 l[k]] _ _ by rw[hq];exact (QcB q (by omega) w2 (hkb.ext hs2))).mono ?_
 rintro r4 w4 ⟨rfl,hs4⟩
 have hsz:(⟨(Lib.decDigits q).toArray⟩:ByteArray).size+(⟨#[32]⟩:ByteArray).size≤1000000000:=by show (Lib.decDigits q).toArray.size+1≤_;simp;omega
 refine x (Jl rfl rfl hsz)<|xl rfl<|xf<|(JN (hs2.trans hs4) hb3 hp (hBl.ext hs4) ((⟨(Lib.decDigits q).toArray⟩:ByteArray)++(⟨#[32]⟩:ByteArray)) (by rw[ByteArray.size_append];show _+((Lib.decDigits q).toArray.size+1)≤_;simp;omega)).mono ?_
 rintro r5 w5 ⟨hs5,hBl5⟩
 refine xe ?_
 refine Qx<|x (Qy rfl rfl ⟨by omega,by omega⟩)<|Qb<|xe ?_
 refine ⟨(k+1,me b3),by simp only[];omega,⟨rfl,trivial⟩,by simp only[];omega,hs5,.inr rfl,?_,?_⟩
 ·simp only[];rw[htk]
  have e:((⟨(Lib.decDigits q).toArray⟩++⟨#[32]⟩:ByteArray)).data.toList=Lib.decDigits q++[32]:=by rw[ByteArray.data_append];simp
  rw[e] at hBl5
  exact hBl5
 ·simp only[];rw[htk];simp;omega
end Go.Proofs.YtgmifemhkjdblaaGreatDoor
