/- Merged out of 29 texts. -/
import Derived.Test.YtgmifemhkjdblaaGreatDoorKhd
import Derived.Test.YtgmifemhkjdblaaGreatDoorKhb
import Derived.Test.YtgmifemhkjdblaaGreatDoorKhc
namespace Go.Lg
theorem At.from {L:LN}{H:Array Obj}{a:Addr}{us:LV}(h:At L H a us) (j:Nat):At L H (a.add j) (us.drop j) :=
 ⟨by rw[Z1];exact h.out,by rw[Z1];exact h.lt,fun i v hv=>by
  rw[Addr.add_add];exact h.cell (j+i) v (by rw[←List.getElem?_drop];exact hv)⟩
end Go.Lg
namespace Go.Proofs.YtgmifemhkjdblaaGreatDoor
open Go.Lg
def lwB (l:LI) (n:Int):Nat:=(l.filter fun x=>decide (x<n)).length
theorem Qjg {l:LI}{n:Int}{i:Nat}(_:Yu l) (hi:i≤l.length) (h1:∀m (hm:m<l.length),m<i→l[m]<n) (h2:∀m (hm:m<l.length),i≤m→n≤l[m]):lwB l n=i:=by
 unfold lwB
 have e1:(l.take i).filter (fun x=>decide (x<n))=l.take i:=List.filter_eq_self.2 fun x hx=>by
  obtain ⟨m,hm,rfl⟩:=List.getElem_of_mem hx
  rw[List.getElem_take]
  have hm':m<i∧m<l.length:=by rw[List.length_take] at hm;omega
  exact decide_eq_true (h1 m hm'.2 hm'.1)
 have e2:(l.drop i).filter (fun x=>decide (x<n))=[]:=List.filter_eq_nil_iff.2 fun x hx=>by
  obtain ⟨m,hm,rfl⟩:=List.getElem_of_mem hx
  rw[List.getElem_drop]
  have hm':i+m<l.length:=by rw[List.length_drop] at hm;omega
  have:=h2 (i+m) hm' (by omega)
  simp;omega
 have e3:l.filter (fun x=>decide (x<n))=l.take i:=by
  conv=>lhs;rw[←List.take_append_drop i l]
  rw[List.filter_append,e1,e2,List.append_nil]
 rw[e3,List.length_take];omega
theorem Qca:∀{l:LI}{n:Int},Yu l→n∈l→lwB l n=l.idxOf n
 | [],_,_,h=>by cases h
 | a::l,n,hi,h=>by
  have hi':=List.pairwise_cons.1 hi
  unfold lwB
  by_cases e:a=n
  ·subst e
   have e2:l.filter (fun x=>decide (x<a))=[]:=List.filter_eq_nil_iff.2 fun x hx=>by have:=hi'.1 x hx;simp;omega
   rw[List.filter_cons,if_neg (by simp),e2]
   simp
  ·have hm:n∈l:=by
    rcases List.mem_cons.1 h with h1 | h1
    ·exact absurd h1.symm e
    ·exact h1
   have ih:=Qca hi'.2 hm
   unfold lwB at ih
   have ha:=hi'.1 n hm
   rw[List.filter_cons,if_pos (decide_eq_true ha),List.length_cons,ih,List.idxOf_cons]
   have:(a == n)=false:=by simpa using e
   rw[this];rfl
theorem Qal {L:LN}{w:World}{v:Value}{l:LI}(h:QL L w.heap v l) (hi:Yu l) (n:Int) :
  QG Tryz.prog 110 [v,.int .i64 n] w fun r w'=>w'=w∧r=.tuple #[.int .i64 (lwB l n),.bool (decide (n∈l))]:=by
 have hle:=h.le
 refine QG.of_W Tryz.func110 rfl Tryz.ntmps110 Tryz.results110 (by simp) ?_
 refine Qc<|x Qe<|Qf ?_
 refine Qc<|Qb<|x (Qr h rfl)<|Qf ?_
 refine Qc<|Qb<|x Qe<|Qf ?_
 refine Qg<|Qh<|QA (α:=Nat×Nat) [(7,9),(13,30)] (fun z=>[(7,.int .i64 z.1),(8,.int .i64 z.2)])
  (fun z w'=>w'=w∧z.1≤z.2∧z.2≤l.length∧(∀m (hm:m<l.length),m<z.1→l[m]<n)∧(∀m (hm:m<l.length),z.2≤m→n≤l[m])) (fun z=>z.2 - z.1) (by rfl) (0,l.length) ⟨rfl,rfl,trivial⟩
  ⟨rfl,Nat.zero_le _,Nat.le_refl _,fun m _ h0=>absurd h0 (Nat.not_lt_zero m),fun m h1 h0=>absurd h1 (by simp only[] at h0;omega)⟩ ?_
 rintro ⟨i,j⟩ g w1 ⟨rfl,hij,hj,hlo,hhi⟩
 simp only[] at hij hj hlo hhi
 refine Qg<|Qc<|Qb<|Qb<|x (QB rfl rfl)<|xe ?_
 refine QD rfl (fun h15=>?_) (fun h15=>?_)
 ·have e:i=j:=by omega
  subst e
  refine Qz ?_
  refine QV (α:=Bool) [(4,5),(31,53)] (fun z=>[(4,.int .i64 i),(5,.bool z)]) (fun z w'=>w'=w1∧z=decide (n∈l)) (by rfl) ?_ ?_
  ·refine Qw<|Qb<|Qb<|Qb<|xb (QB rfl rfl) (fun h34=>?_) (fun h34=>?_)
   ·have hlt:i<l.length:=by omega
    refine Qb<|Qb<|Qb<|xii h rfl rfl hlt fun a38 h38=>x (Qv h38 rfl)<|Qb<|xb (Zm rfl rfl) (fun h41=>?_) (fun h41=>?_)
    ·refine Qb<|xs rfl<|xs rfl<|xs rfl<|xs rfl<|xs rfl<|xs rfl<|xs rfl<|xs rfl<|xs rfl<|x (Qn rfl)<|x (Qn rfl)<|x Qe<|Qf ?_
     have:n∈l:=by rw[←h41];exact List.getElem_mem hlt
     exact ⟨true,⟨rfl,rfl,trivial⟩,rfl,by simp[this]⟩
    refine Qb<|Qb<|Qb<|xii h rfl rfl hlt fun a45 h45=>x (Qv h45 rfl)<|xl rfl<|xf<|(jL _).mono ?_
    rintro r3 w3 ⟨rfl,rfl⟩
    refine Qb<|xs rfl<|xs rfl<|x (Qn rfl)<|x (Qn rfl)<|x (Qn rfl)<|x Qe<|Qf ?_
    refine ⟨false,⟨rfl,rfl,trivial⟩,rfl,?_⟩
    have:n∉l:=by
     intro hm
     obtain ⟨m,hm1,hm2⟩:=List.getElem_of_mem hm
     by_cases hmi:m<i
     ·have:=hlo m hm1 hmi;omega
     ·by_cases hme:m=i
      ·subst hme;exact h41 hm2
      ·have:=Yu.get hi hm1 (show i<m by omega)
       have:=hhi i hlt (Nat.le_refl _)
       omega
    simp[this]
   refine Qb<|xs rfl<|xs rfl<|xs rfl<|xs rfl<|xs rfl<|xs rfl<|xs rfl<|xs rfl<|xs rfl<|xs rfl<|xs rfl<|xs rfl<|xs rfl<|xs rfl<|xs rfl<|xs rfl<|xs rfl <|
    x (Qn rfl)<|x Qe<|Qf ?_
   refine ⟨false,⟨rfl,rfl,trivial⟩,rfl,?_⟩
   have:n∉l:=by
    intro hm
    obtain ⟨m,hm1,hm2⟩:=List.getElem_of_mem hm
    have:=hlo m hm1 (by omega);omega
   simp[this]
  rintro z g w7 ⟨rfl,rfl⟩
  exact Ql ⟨[.int .i64 i,.bool (decide (n∈l))],⟨rfl,rfl,trivial⟩,rfl,by rw[Qjg hi (show i≤l.length by omega) hlo hhi];rfl⟩
 have hij':i<j:=by omega
 refine Qi ?_
 refine Qh<|Qc<|Qb<|Qb<|x (Qy rfl rfl ⟨by omega,by omega⟩)<|x (YU rfl (by exact ⟨by omega,by omega⟩))<|x (Ut (n:=1) rfl rfl (by decide))<|x (YU rfl (by exact ⟨by omega,by omega⟩))<|Qf ?_
 have hh:(((i:Int)+(j:Int)) / 2 ^ 1)=(((i+j) / 2:Nat):Int):=by omega
 rw[hh]
 generalize hq:(i+j) / 2=q
 have hqi:i≤q:=by omega
 have hqj:q<j:=by omega
 have hql:q<l.length:=by omega
 refine Qc<|Qb<|Qb<|xii h rfl rfl hql fun a24 h24=>x (Qv h24 rfl)<|Qb<|xl rfl<|xf<|(Qcg _ _).mono ?_
 rintro r8 w8 ⟨rfl,rfl⟩
 refine xe ?_
 refine QD rfl (fun h27=>?_) (fun h27=>?_)
 ·refine Qw<|Qb<|Qf ?_
  refine ⟨(i,q),by simp only[];omega,⟨rfl,rfl,trivial⟩,rfl,hqi,by omega,hlo,fun m hm hqm=>?_⟩
  by_cases e:q=m
  ·subst e;omega
  ·have:=Yu.get hi hm (show q<m by simp only[] at hqm;omega);omega
 refine Qw<|Qb<|x (Qy rfl rfl ⟨by omega,by omega⟩)<|Qf ?_
 refine ⟨(q+1,j),by simp only[];omega,⟨rfl,rfl,trivial⟩,rfl,hqj,hj,fun m hm hmq=>?_,hhi⟩
 by_cases e:m=q
 ·subst e;exact h27
 ·have:=Yu.get hi hql (show m<q by simp only[] at hmq;omega);omega
theorem U0 {L:LN}{w:World}{v:Value}{l:List Ed}(h:Zs L w.heap v l.length 3 (l.flatMap QC)) :
  QG Tryz.prog 45 [v] w fun r w'=>Step [] w w'∧w'.ownsRow w.heap.size 126 3 r l.length (l.flatMap QC):=by
 have hle:=h.le
 refine QG.of_W Tryz.func45 rfl Tryz.ntmps45 Tryz.results45 (by simp) ?_
 refine Qc<|Qf ?_
 obtain ⟨ao,cap,hv⟩:=h.shape
 refine Qg<|Qc<|Qb<|x (KU (show ev _ _=_ from hv) rfl)<|xe ?_
 refine QW rfl (fun h4=>?_) (fun h4=>?_)
 ·refine Qc<|Qf ?_
  refine Ql ⟨[nS],⟨rfl,trivial⟩,Step.refl _ _,?_⟩
  rcases h.2.2 with ⟨h1,h2⟩ | ⟨a,c,h1,_⟩
  ·have:l=[]:=List.eq_nil_of_length_eq_zero h2
   subst this;exact QP _ _ _ _
  ·rw[h1] at hv;cases hv;cases h4
 rcases h.2.2 with ⟨h1,h2⟩ | ⟨a,c,h1,h2,h3⟩
 ·rw[h1] at hv;injection hv with e1;subst e1;cases h4
 refine Qi ?_
 refine Qc ?_
 have ho:∀u∈l.flatMap QC,u.oneCell'=true:=by
  intro u hu
  obtain ⟨p,_,hp⟩:=List.mem_flatMap.1 hu
  simp only[QC,List.mem_cons,List.not_mem_nil,or_false] at hp
  rcases hp with rfl | rfl | rfl <;> rfl
 refine xl rfl<|Vx fun b5 w1 hs1 hb5 hB5=>Qb<|xl rfl<|Q2 (base:=w.heap.size) (hB5.own (n:=0) (sz:=3) rfl (by omega) hb5) rfl (show ev _ _=_ from h1) h.1 (h3.ext hs1) ho (by omega) (by have:=hB5.lt;omega) fun v2 w2 ho2 hs2 hn2=>Qf ?_
 refine Ql ⟨[v2],⟨rfl,trivial⟩,hs1.then1 hs2 hb5,?_⟩
 simpa[tup] using ho2
theorem Qbl {L:LN}{w:World}{v:Value}{l:List KK}(h:Zs L w.heap v l.length 5 (l.flatMap Zn)) :
  QG Tryz.prog 191 [v] w fun r w'=>Step [] w w'∧w'.ownsRow w.heap.size 97 5 r l.length (l.flatMap Zn):=by
 have hle:=h.le
 refine QG.of_W Tryz.func191 rfl Tryz.ntmps191 Tryz.results191 (by simp) ?_
 refine Qc<|Qf ?_
 obtain ⟨ao,cap,hv⟩:=h.shape
 refine Qg<|Qc<|Qb<|x (KU (show ev _ _=_ from hv) rfl)<|xe ?_
 refine QW rfl (fun h4=>?_) (fun h4=>?_)
 ·refine Qc<|Qf ?_
  refine Ql ⟨[nS],⟨rfl,trivial⟩,Step.refl _ _,?_⟩
  rcases h.2.2 with ⟨h1,h2⟩ | ⟨a,c,h1,_⟩
  ·have:l=[]:=List.eq_nil_of_length_eq_zero h2
   subst this;exact QP _ _ _ _
  ·rw[h1] at hv;cases hv;cases h4
 rcases h.2.2 with ⟨h1,h2⟩ | ⟨a,c,h1,h2,h3⟩
 ·rw[h1] at hv;injection hv with e1;subst e1;cases h4
 refine Qi ?_
 refine Qc ?_
 have ho:∀u∈l.flatMap Zn,u.oneCell'=true:=by
  intro u hu
  obtain ⟨p,_,hp⟩:=List.mem_flatMap.1 hu
  simp only[Zn,List.mem_cons,List.not_mem_nil,or_false] at hp
  rcases hp with rfl | rfl | rfl | rfl | rfl <;> rfl
 refine xl rfl<|Vx fun b5 w1 hs1 hb5 hB5=>Qb<|xl rfl<|Q2 (base:=w.heap.size) (hB5.own (n:=0) (sz:=5) rfl (by omega) hb5) rfl (show ev _ _=_ from h1) h.1 (h3.ext hs1) ho (by omega) (by have:=hB5.lt;omega) fun v2 w2 ho2 hs2 hn2=>Qf ?_
 refine Ql ⟨[v2],⟨rfl,trivial⟩,hs1.then1 hs2 hb5,?_⟩
 simpa[tup] using ho2
structure Xe {α:Type}(g:α→LV) (sz T:Nat) (ps:α→List (Value×Nat×Nat×LV)) (base:Nat) (w:World) (v:Value) (l:List α):Prop where
 own:w.ownsRow base T sz v l.length (l.flatMap g)
 each:∀q∈l,∀t∈ps q,ZO base (ob v) w.heap t.1 t.2.1 t.2.2.1 t.2.2.2
section
variable {α:Type} {g:α→LV} {sz T:Nat} {ps:α→List (Value×Nat×Nat×LV)} {base:Nat} {w w':World} {v:Value} {l:List α}
theorem Xe.nil:Xe g sz T ps base w (nS) []:=⟨QP _ _ _ _,fun q hq=>by cases hq⟩
theorem Xe.ext (h:Xe g sz T ps base w v l) (hs:Step [] w w'):Xe g sz T ps base w' v l:=⟨Qt h.own hs,fun q hq t ht=>(h.each q hq t ht).ext hs⟩
theorem Xe.low {X:LN}(h:Xe g sz T ps base w v l) (hs:Step X w w') (hX:∀b∈X,b<base):Xe g sz T ps base w' v l :=
 ⟨Qk h.own hs (fun b hb hm=>by have:=(Qp h.own b hb).1;have:=hX b hm;omega),fun q hq t ht=>(h.each q hq t ht).low hs hX⟩
theorem Xe.app {w7 w8:World}{v8:Value}{q:α}(h:Xe g sz T ps base w v l) (hs:Step [] w w7)
  (hq:∀t∈ps q,∃N e,w7.ownsRow N e t.2.2.1 t.1 t.2.1 t.2.2.2∧t.2.1≤1099511627776∧w.heap.size≤N) (hb:base≤w.heap.size)
  (ho:w8.ownsRow base T sz v8 (l.length+1) (l.flatMap g++g q)) (hs8:Step (ob v) w7 w8) (hn:∀b∈ob v8,b∈ob v∨w7.heap.size≤b):Xe g sz T ps base w8 v8 (l++[q]):=by
 have hlt:=Q0 h.own
 refine ⟨?_,fun d hd t ht=>?_⟩
 ·rw[List.length_append,List.flatMap_append];simpa using ho
 ·rcases List.mem_append.1 hd with hd | hd
  ·exact ((h.each d hd t ht).ext hs).app hs8 hn
  ·simp only[List.mem_singleton] at hd;subst hd
   obtain ⟨N,e,h1,h2,h3⟩:=hq t ht
   exact (ZO.of_own h1 h2 (by omega) (fun b hb=>by have:=hlt b hb;omega)).app hs8 hn
end
abbrev QhJ (q:IV):List (Value×Nat×Nat×LV):=[(q.p.va,q.p.a.al.length,1,q.p.a.al.map (.int .i64)),(q.p.vm,q.p.a.mr.length,1,q.p.a.mr.map (.int .i64)),(q.p.ve,q.p.a.ed.length,3,q.p.a.ed.flatMap QC)]
abbrev IvP (base:Nat) (w:World) (v:Value) (l:List IV):Prop:=Xe Zh 5 100 QhJ base w v l
def Kl (N:Nat) (H:Array Obj) (v:Value) (l:List Jb):Prop:=∃qs:List IV,qs.map IV.it=l∧∀L:LN,(∀b∈L,b<N)→YR L H v qs
theorem IvP.itms {base:Nat}{w:World}{v:Value}{l:List IV}{L:LN}(h:IvP base w v l) (hn:l.length≤1099511627776) (hm:∀q∈l,VZ q.nm) (hL:∀b∈L,b<base):YR L w.heap v l :=
 ⟨QX h.own hn (fun b hb hbL=>by have:=(Qp h.own b hb).1;have:=hL b hbL;omega),fun q hq=>⟨h.each q hq (q.p.va,q.p.a.al.length,1,q.p.a.al.map (.int .i64)) (by simp) L (fun b hb=>.inl (hL b hb)),h.each q hq (q.p.vm,q.p.a.mr.length,1,q.p.a.mr.map (.int .i64)) (by simp) L (fun b hb=>.inl (hL b hb)),h.each q hq (q.p.ve,q.p.a.ed.length,3,q.p.a.ed.flatMap QC) (by simp) L (fun b hb=>.inl (hL b hb))⟩,hm⟩
instance:Bw Tryz.prog 100 [.string .empty,nS,.int .i64 0,nS,nS] [(0,1),(1,4)]:=⟨by kernel_rfl,by decide⟩
set_option maxHeartbeats 4000000 in
theorem U9 {L:LN}{w:World}{v vi:Value}{qs:List IV}{ix:LI}(h0:YR L w.heap v qs) (hi0:QL L w.heap vi ix) (hb:∀i∈ix,0≤i∧i<(qs.length:Int)) :
  QG Tryz.prog 192 [v,vi] w fun r w'=>Step [] w w'∧Kl w.heap.size w'.heap r (chs (qs.map IV.it) ix)∧r.oneCell'=true:=by
 have h:YR [] w.heap v qs:=h0.up (by simp)
 have hi:QL [] w.heap vi ix:=hi0.up (by simp)
 have hil:=hi.le
 refine QG.of_W Tryz.func192 rfl Tryz.ntmps192 Tryz.results192 (by simp) ?_
 refine Qc<|Qf ?_
 refine Qc<|Qf ?_
 refine Qg<|Qc<|Qb<|x (Qr hi rfl)<|Qb<|xe ?_
 refine Qh<|QA (α:=Nat×Value×List IV) [(5,5),(7,8),(11,41)] (fun z=>[(5,z.2.1),(11,.int .i64 z.1)]) (fun z w'=>z.1≤ix.length∧Step [] w w'∧IvP w.heap.size w' z.2.1 z.2.2∧z.2.2.map IV.it=chs (qs.map IV.it) (ix.take z.1)∧∀q∈z.2.2,VZ q.nm) (fun z=>ix.length - z.1) (by rfl) (0,nS,[]) ⟨rfl,rfl,trivial⟩
  ⟨Nat.zero_le _,Step.refl _ _,Xe.nil,rfl,fun q hq=>by cases hq⟩ ?_
 rintro ⟨k,vo,qo⟩ g w1 ⟨hk,hs1,hR1,hq1,hnm1⟩
 simp only[] at hk hR1 hq1 hnm1
 have hqol:qo.length=k:=by have:=congrArg List.length hq1;unfold chs at this;rw[List.length_map,List.length_map,List.length_take] at this;omega
 refine Qc<|x (QB rfl rfl)<|xe ?_
 refine Qg<|QD rfl (fun h12=>?_) (fun h12=>?_)
 ·refine Qz ?_
  have hke:ix.length≤k:=by have h13:¬(k:Int)<(ix.length:Int):=h12;omega
  rw[List.take_of_length_le hke] at hq1
  refine Qc<|Qb<|Qf ?_
  exact Ql ⟨[_],⟨rfl,trivial⟩,hs1,⟨qo,hq1,fun L hL=>hR1.itms (by omega) hnm1 hL⟩,QO hR1.own⟩
 refine Qi ?_
 have hlt:k<ix.length:=by have h13:(k:Int)<(ix.length:Int):=h12;omega
 have hik:=hb _ (List.getElem_mem hlt)
 have htk:ix.take (k+1)=ix.take k++[ix[k]'hlt]:=List.take_succ_eq_append_getElem hlt
 refine Zf (ix[k]'hlt) fun i hii=>?_
 rw[hii] at hik htk
 have hin:i=(i.toNat:Int):=by omega
 have hil2:i.toNat<qs.length:=by omega
 have hchs:chs (qs.map IV.it) (ix.take (k+1))=chs (qs.map IV.it) (ix.take k)++[(qs[i.toNat]'hil2).it]:=by
  rw[htk];unfold chs;rw[List.map_append];simp[List.getD,hil2]
 have h1:=h.ext hs1
 have hmem:=List.getElem_mem hil2
 refine Zf (qs[i.toNat]'hil2) fun q hq=>?_
 rw[hq] at hchs hmem
 have hqA:=h1.each q hmem
 have hqn:=h1.nm q hmem
 refine Qg<|Qh<|Qc<|xii (i:=k) (hi.ext hs1) rfl rfl hlt fun a13 h13=>?_
 rw[hii] at h13
 refine x (Qv h13 rfl)<|Qf ?_
 refine Qc<|Qb<|Qb<|xig (g:=Zh) (i:=i.toNat) Y6 h1.arr rfl (congrArg (Value.int .i64) hin) hil2 fun a17 h17=>?_
 rw[hq] at h17
 refine x (Zd rfl)<|x (QK (us:=[q.p.va,.int .i64 q.p.a.st,q.p.vm,q.p.ve]) (h17.from 1) rfl rfl)<|xl rfl<|Qu (us:=[nS,.int .i64 0,nS,nS]) rfl fun b8 w2 hs2 hb8 hB8 =>
  xl rfl<|Qo (us:=[q.p.va,.int .i64 q.p.a.st,q.p.vm,q.p.ve]) hB8 rfl rfl rfl rfl ⟨hqA.al.one,rfl,hqA.mr.one,hqA.ed.one,trivial⟩ fun w3 hs3 hB8=>xe ?_
 have hs13:Step [] w1 w3:=hs2.then1 hs3 hb8
 have hd3:Step [] w3 { w3 with drawn:=w3.drawn+1 }:=Step.drew _ _
 have hz13:=hs13.size
 have hz1:=hs1.size
 have hvoL:=Qp hR1.own
 have h3:YR (ob vo) w3.heap v qs:=(h.up (L':=ob vo) (fun b hb=>.inr (hvoL b hb).1)).ext (hs1.trans hs13)
 have hb8v:b8∉ob vo:=fun hm=>by have:=(hvoL b8 hm).2;omega
 have hqA3:=hqA.ext hs13
 refine QT (Step (ob vo) w3) [(0,true),(1,true),(2,true),(3,true),(4,true),(5,true),(6,true),(7,true),(9,true),(10,true),(11,true),(12,true),(14,true),(15,true),(8,false),(13,false),(16,false),(17,true),(18,true),(19,false),(20,false),(21,true)] Tryz.mixed (by rfl) (by kernel_rfl) (Step.drew _ _) ?_
 refine p (fun _=>Qm)<|p (fun _=>Qm)<|p (fun _=>Qm)<|Go.Lg.pig (g:=Zh) (i:=i.toNat) rfl Y6 h3.arr rfl (congrArg (Value.int .i64) hin) hil2 fun a23 h23=>?_
 rw[hq] at h23
 refine p (fun _=>Zd rfl)<|pq (fun _ hc=>Qv ((h23.fld 0 (.string q.nm) rfl).st hc) rfl)<|p (fun _=>Qa rfl)<|pq (fun _ hc=>Qd (hB8.step hc hb8v) rfl rfl)<|p (fun _=>Qa rfl) <|
  pq (fun _ hc=>Qd (hB8.step hc hb8v) rfl rfl)<|p (fun _=>Qa rfl)<|pq (fun _ hc=>Qd (hB8.step hc hb8v) rfl rfl) <|
  p (fun _=>Qa rfl)<|pq (fun _ hc=>Qd (hB8.step hc hb8v) rfl rfl)<|pk<|xf<|(Yx (hqA3.al.ext hd3)).mono ?_
 rintro r4 w4 ⟨hs4,ho4⟩
 refine ⟨(hd3.trans hs4).any,?_⟩
 refine pk<|xf<|(Yx ((hqA3.mr.ext hd3).ext hs4)).mono ?_
 rintro r5 w5 ⟨hs5,ho5⟩
 refine ⟨((hd3.trans hs4).trans hs5).any,?_⟩
 refine pk<|xf<|(U0 (((hqA3.ed.ext hd3).ext hs4).ext hs5)).mono ?_
 rintro r6 w6 ⟨hs6,ho6⟩
 have hs36:=((hd3.trans hs4).trans hs5).trans hs6
 refine ⟨hs36.any,?_⟩
 refine p (fun _=>QN ⟨Zk ho4,rfl,Zk ho5,Zk ho6,trivial⟩)<|p (fun _=>Zw [(0,[.string q.nm]),(1,[r4,.int .i64 q.p.a.st,r5,r6])] ⟨rfl,rfl,rfl,rfl,trivial⟩)<|pk<|QI (us:=[Zh ⟨q.nm,⟨r4,r5,r6,q.p.a⟩⟩]) rfl rfl (by decide) (by simp) ⟨rfl,rfl,trivial⟩ fun b39 w7 hs7 hb39 hB39=>⟨(hs36.trans hs7).any,?_⟩
 have hs17:=(hs13.trans hs36).trans hs7
 have hz17:=hs17.size
 have hzd:({ w3 with drawn:=w3.drawn+1 }:World).heap.size=w3.heap.size:=rfl
 have hz4:=hs4.size
 have hz5:=hs5.size
 refine pk<|Q2 (m:=1) (news:=Zh ⟨q.nm,⟨r4,r5,r6,q.p.a⟩⟩) (L:=[]) (Qt hR1.own hs17) rfl rfl rfl (hB39.at (by simp)) (fun u hu=>by
   simp only[List.mem_cons,List.not_mem_nil,or_false] at hu
   rcases hu with rfl | rfl | rfl | rfl | rfl
   ·rfl
   ·exact QO ho4
   ·rfl
   ·exact QO ho5
   ·exact QO ho6) (by omega) (by omega) fun v8 w8 ho8 hs8 hn8=>⟨(hs36.trans hs7).any.trans' hs8,?_⟩
 refine p (fun _=>Qe)<|pe ?_
 have hal:=hqA.al.le
 have hml:=hqA.mr.le
 have hedl:=hqA.ed.le
 have hR8:IvP w.heap.size w8 v8 (qo++[⟨q.nm,⟨r4,r5,r6,q.p.a⟩⟩]):=hR1.app hs17 (fun t ht=>by
  simp only[List.mem_cons,List.not_mem_nil,or_false] at ht
  rcases ht with rfl | rfl | rfl
  ·exact ⟨_,_,Qt (Qt (Qt ho4 hs5) hs6) hs7,hal,by omega⟩
  ·exact ⟨_,_,Qt (Qt ho5 hs6) hs7,hml,by omega⟩
  ·exact ⟨_,_,Qt ho6 hs7,hedl,by omega⟩) (by omega) ho8 hs8 hn8
 refine Qw<|x (Qy rfl rfl ⟨by omega,by omega⟩)<|Qb<|xe ?_
 refine ⟨(k+1,v8,_),by simp only[];omega,⟨rfl,rfl,trivial⟩,hlt,(hs1.trans hs17).then hs8 (fun b hb=>.inr (hvoL b hb).1),hR8,?_,fun q' hq'=>?_⟩
 ·simp only[]
  rw[hchs,List.map_append,hq1];rfl
 ·rcases List.mem_append.1 hq' with h9 | h9
  ·exact hnm1 q' h9
  ·simp only[List.mem_singleton] at h9;subst h9;exact hqn
theorem qV {L:LN}{w:World}{bp bm:Nat}{v0 v1 v2 v3:Value}{co:LI}{mi:Bool}(hB:QS w.heap bp 256 [v0,v1,v2,v3]) (hm:QS w.heap bm 4 [.bool mi]) (hco:QL L w.heap v0 co) (hi:Yu co) (n:Int) :
  QG Tryz.prog 193 [.int .i64 n,.pointer (some ⟨bp,0,none⟩),.pointer (some ⟨bm,0,none⟩)] w fun r w'=>Step [bm] w w'∧r=.int .i64 (lwB co n)∧QS w'.heap bm 4 [.bool (mi || !decide (n∈co))]:=by
 refine QG.of_W Tryz.func193 rfl Tryz.ntmps193 Tryz.results193 (by simp) ?_
 refine Qc<|Qf ?_
 refine Qc<|x (Qa rfl)<|x (Qd hB rfl rfl)<|Qb<|xl rfl<|xf<|(Qal hco hi n).mono ?_
 rintro r1 w1 ⟨rfl,rfl⟩
 refine Qb<|x (Qj rfl rfl)<|x (Qj rfl rfl)<|x Qe<|Qf ?_
 refine QV (α:=Bool) [(14,18)] (fun z=>[]) (fun z w'=>Step [bm] w1 w'∧QS w'.heap bm 4 [.bool (mi || !decide (n∈co))]) (by rfl) ?_ ?_
 ·refine Qw<|xB (Qd hm rfl rfl) (fun h14=>?_) (fun h14=>?_)
  ·refine Qb<|xs rfl<|xs rfl<|x (Qn rfl)<|xl rfl<|QF (j:=0) (u:=.bool true) hm rfl rfl (by simp) rfl fun w2 hs2 hB2=>xe ?_
   exact ⟨true,trivial,hs2,by rw[h14];exact hB2⟩
  refine Qb<|Qb<|x (Zo rfl)<|x (Qn rfl)<|xl rfl<|QF (j:=0) (u:=.bool (!decide (n∈co))) hm rfl rfl (by simp) rfl fun w3 hs3 hB3=>xe ?_
  exact ⟨true,trivial,hs3,by rw[h14];exact hB3⟩
 rintro z g w4 ⟨hs4,hB4⟩
 refine Qc<|Qb<|Qf ?_
 exact Ql ⟨[_],⟨rfl,trivial⟩,hs4,rfl,hB4⟩
end Go.Proofs.YtgmifemhkjdblaaGreatDoor
namespace Go.Lg
open Go.RowKit
def qf (P:Program) (all:List Oper) (C:World→Prop) (K:LN→Fr→World→Prop):List (Nat×Bool)→LN→Fr→World→Prop
 | [],own,f,w=>K own f w
 | (j,true)::l,own,f,w=>ZY all f (QJ all j)=true∧∃v,(∀w',(qu (QJ all j)=true→C w')→(execOp (ev f) (QJ all j)).run P w'=.ok (.value v) w')∧qf P all C K l own (QU f (QJ all j).dst v) w
 | (j,false)::l,own,f,w=>ZY all f (QJ all j)=true∧∀w1,Step [] w w1→C w1→XO P (QJ all j) f w1 fun f' w'=>C w'∧∃own',Step own w1 w'∧(∀b∈own',b∈own∨(w1.heap.size≤b∧b<w'.heap.size))∧qf P all C K l own' f' w'
section
variable {P:Program} {n:Nat} {f:Fr} {w:World} {all:List Oper} {C:World→Prop} {K:Fr→World→Prop} {KF:LN→Fr→World→Prop}
theorem qf.ext (hK:∀own f w w',KF own f w→Step [] w w'→KF own f w'):∀{l:List (Nat×Bool)}{own:LN}{f:Fr}{w w':World},qf P all C KF l own f w→Step [] w w'→qf P all C KF l own f w'
 | [],_,_,_,_,h,hs=>hK _ _ _ _ h hs
 | (_,true)::_,_,_,_,_,h,hs=>by
  obtain ⟨hg,v,hv,hx⟩:=h
  exact ⟨hg,v,hv,qf.ext hK hx hs⟩
 | (_,false)::_,_,_,_,_,h,hs=>⟨h.1,fun w1 h1 hc=>h.2 w1 (hs.trans h1) hc⟩
structure Fl2 (P:Program) (all:List Oper) (C:World→Prop) (K:Fr→World→Prop) (KF:LN→Fr→World→Prop) (i d:Nat) (rest:List (Nat×Bool)) (Φ:Value→World→Prop) (Dc:List (Nat×Nat)) (f1:Fr):Prop where
 stab:∀v (own:LN) w w',Φ v w→Step own w w'→(∀b∈ow v,b∉own)→Φ v w'
 spec:∀f w,(∀t,YQ Dc t=false→f t=f1 t)→C w→XO P (QJ all i) f w fun f' w'=>Step [] w w'∧C w'∧Φ (f' d) w'∧∀b∈ow (f' d),w.heap.size≤b∧b<w'.heap.size
 fin:∀own f w,KF own f w→∀v,C w→Φ v w→(∀b∈ow v,b∉own∧b<w.heap.size)→XP P all C K rest (QU f (some d) v) w
 mono:∀own f w w',KF own f w→Step [] w w'→KF own f w'
attribute [local semireducible] XP in
theorem VJ {i d:Nat}{rest:List (Nat×Bool)}{Φ:Value→World→Prop}{Dc:List (Nat×Nat)}{f1:Fr}(hF:Fl2 P all C K KF i d rest Φ Dc f1) (hs:Region.noSelect all.toArray=true) {v:Value}:∀(l:List (Nat×Bool)) (own:LN) (f:Fr) (w:World),Z6 all d l=true→qf P all C KF l own f w→C w→Φ v w →
  (∀b∈ow v,b∉own∧b<w.heap.size)→XP P all C K (l++rest) (QU f (some d) v) w
 | [],own,f,w,_,h,hC,hv,hb=>hF.fin own f w h v hC hv hb
 | (j,q)::l,own,f,w,hfr,h,hC,hv,hb=>by
  simp only[Z6,List.all_cons,Bool.and_eq_true,Bool.not_eq_true',List.contains_eq_mem,decide_eq_false_iff_not,beq_eq_false_iff_ne,ne_eq] at hfr
  obtain ⟨⟨h1,h2⟩,hfr⟩:=hfr
  have hfr':Z6 all d l=true:=by simpa[Z6] using hfr
  have hsel:∀cs b,(QJ all j).op≠.select cs b:=by
   intro cs b
   cases ho:all[j]? with
   | none =>
    have:QJ all j=default:=by
     clear h h1 h2 hfr hfr'
     have key:∀(l:List Oper) (j:Nat),l[j]?=none→QJ l j=default:=by
      intro l
      induction l with
      | nil=>intro j _;rfl
      | cons a l ih=>intro j hj;cases j with | zero=>simp at hj | succ j=>exact ih j (by simpa using hj)
     exact key all j ho
    rw[this]
    intro e;cases e
   | some o=>rw[Q9 ho];exact Region.noSelect_spec hs j o cs b (by simpa using ho)
  have hd:∀e,some d=some e→e∉(QJ all j).looksAt all.toArray:=fun e he=>by cases he;exact h1
  cases q with
  | true =>
   obtain ⟨hg,u,hu,hx⟩:=h
   simp only[List.cons_append,XP]
   rw[X4 (QJ all j) f (some d) v hd,hg,cond_true,cond_true]
   refine ⟨u,fun w' hc=>?_,?_⟩
   ·rw[Y2 (all:=all) hsel f (some d) v hd];exact hu w' hc
   ·rw[J3 f v u (fun e he=>by cases he;exact h2)]
    exact VJ hF hs l own _ w hfr' hx hC hv hb
  | false =>
   simp only[List.cons_append,XP]
   rw[X4 (QJ all j) f (some d) v hd,h.1,cond_true,cond_false]
   refine QcO (all:=all) hsel h1 h2 (fun u w' hx=>?_) (h.2 w (Step.refl _ _) hC)
   obtain ⟨hC',own',hst,how,hx⟩:=hx
   refine ⟨.inr (.inr hC'),VJ hF hs l own' _ w' hfr' hx hC' (hF.stab v own w w' hv hst (fun b hbb=>(hb b hbb).1)) (fun b hbb=>⟨fun hm=>?_,Nat.lt_of_lt_of_le (hb b hbb).2 hst.size⟩)⟩
   rcases how b hm with h3 | h3
   ·exact (hb b hbb).1 h3
   ·exact Nat.lt_irrefl _ (Nat.lt_of_lt_of_le (hb b hbb).2 h3.1)
theorem Qbw {i d:Nat}{rest:List (Nat×Bool)}{Φ:Value→World→Prop}{Dc:List (Nat×Nat)}{f1:Fr}(hF:Fl2 P all C K KF i d rest Φ Dc f1) (hs:Region.noSelect all.toArray=true) (hg:(QJ all i).guard=none) (hd:(QJ all i).dst=some d):∀(l:List (Nat×Bool)) (ls:Array Bool) (own:LN) (f:Fr) (w:World),ls.size=all.length→Z6 all d l=true→Z3 all Dc l=true→(∀t,YQ Dc t=false→f t=f1 t) →
  qf P all C KF l own f w→C w→(∀b∈own,b<w.heap.size)→UR all.toArray i rest l ls=true→XA P all C K (l.length+1+rest.length) ls f w
 | [],ls,own,f,w,hsz,hfr,hin,hk1,h,hC,hown,hp=>by
  simp only[UR,Bool.and_eq_true,beq_iff_eq] at hp
  obtain ⟨hr,hp⟩:=hp
  rw[show ([]:List (Nat×Bool)).length+1+rest.length=rest.length+1 by simp;omega]
  refine YB (fun h0=>(by rw[h0] at hr;cases hr)) ?_
  rw[hr]
  intro k hk o ho
  have hki:k=i:=by simpa using hk
  subst hki
  have hoi:=Q9 ho
  have hx:=hF.spec f w hk1 hC
  rw[hoi] at hg hd hx
  rw[Xq hg,cond_true]
  refine hx.mono fun v w' hx=>?_
  rw[hd] at hx ⊢
  obtain ⟨h1,h2,h3,h4⟩:=hx
  simp only[QU,Yv] at h3 h4
  refine ⟨.inr (.inr h2),Zr hs rest _ _ _ (by simpa using hsz) (.inl h2) hp (hF.fin own f w' (hF.mono own f w w' h h1) v h2 h3 (fun b hb=>⟨fun hm=>Nat.lt_irrefl _ (Nat.lt_of_lt_of_le (hown b hm) (h4 b hb).1),(h4 b hb).2⟩))⟩
 | (j,true)::l,ls,own,f,w,hsz,hfr,hin,hk1,h,hC,hown,hp=>by
  simp only[UR,Bool.and_eq_true] at hp
  obtain ⟨⟨hr,hf⟩,hp'⟩:=hp
  have hri:j∈Region.ready .any all.toArray ls:=by simpa using hr
  have e:(List.length ((j,true)::l))+1+rest.length=(l.length+1+rest.length)+1:=by simp;omega
  rw[e]
  have hfr':Z6 all d l=true:=by simp only[Z6,List.all_cons,Bool.and_eq_true] at hfr;exact hfr.2
  simp only[Z3,List.all_cons,Bool.and_eq_true] at hin
  have hin':Z3 all Dc l=true:=hin.2
  cases ho:all[j]? with
  | none =>
   exfalso
   obtain ⟨_,o,hoo,_⟩:=mem_ready.1 hri
   simp[ho] at hoo
  | some o =>
   obtain ⟨hgj,v,hv,hx⟩:=h
   rw[Q9 ho] at hgj hv hx
   have hsel:∀(j:Nat) (o:Oper) cs b,all[j]?=some o→o.op≠.select cs b:=fun j o cs b hj=>Region.noSelect_spec hs j o cs b (by simpa using hj)
   have hfree:=fun k ok hk=>Region.free_spec (ops:=all.toArray) (md:=.any) (i:=j) (oi:=o) (listed:=ls) (by simpa using ho) hf k ok (by simpa using hk)
   exact Y3 (v:=v) (D:=fun w=>qu o=true→C w) ho (fun _ h=>h) hsel _ ls f w (fun _=>hC) hfree hri (.inl ⟨hgj,hv⟩) (Qbw hF hs hg hd l _ own _ w (by simpa using hsz) hfr' hin' (by have:=JM (v:=v) hin.1 hk1;rw[Q9 ho] at this;exact this) hx hC hown hp')
 | (j,false)::l,ls,own,f,w,hsz,hfr,hin,hk1,h,hC,hown,hp=>by
  simp only[UR,Bool.and_eq_true,List.all_eq_true,Bool.or_eq_true,beq_iff_eq,Bool.not_eq_true'] at hp
  obtain ⟨⟨⟨hne,hr⟩,hpl⟩,hp'⟩:=hp
  have e:(List.length ((j,false)::l))+1+rest.length=(l.length+1+rest.length)+1:=by simp;omega
  rw[e]
  have hfr':Z6 all d l=true:=by simp only[Z6,List.all_cons,Bool.and_eq_true] at hfr;exact hfr.2
  simp only[Z3,List.all_cons,Bool.and_eq_true] at hin
  have hin':Z3 all Dc l=true:=hin.2
  refine YB (fun h0=>(by rw[h0] at hne;cases hne)) ?_
  intro k hk o ho
  have hoi:=Q9 ho
  have hsz':(ls.setIfInBounds k true).size=all.length:=by simpa using hsz
  by_cases hki:k=i
  ·subst hki
   have hx:=hF.spec f w hk1 hC
   rw[hoi] at hg hd hx
   rw[Xq hg,cond_true]
   refine hx.mono fun v w' hx=>?_
   rw[hd] at hx ⊢
   obtain ⟨h1,h2,h3,h4⟩:=hx
   simp only[QU,Yv] at h3 h4
   refine ⟨.inr (.inr h2),?_⟩
   have hx:=VJ hF hs ((j,false)::l) own f w' hfr (qf.ext hF.mono h h1) h2 h3 (fun b hb=>⟨fun hm=>Nat.lt_irrefl _ (Nat.lt_of_lt_of_le (hown b hm) (h4 b hb).1),(h4 b hb).2⟩)
   have:=Zr hs ((j,false)::(l++rest)) _ _ _ hsz' (.inl h2) hpl hx
   rw[show ((j,false)::(l++rest)).length=l.length+1+rest.length by simp;omega] at this
   exact this
  ·have hkj:k=j:=(hr k hk).resolve_right hki
   subst hkj
   have h1:=h.1
   have h2:=h.2 w (Step.refl _ _) hC
   rw[hoi] at h1 h2
   rw[h1,cond_true]
   refine h2.mono fun v w' hx=>?_
   obtain ⟨hC',own',hst,how,hx⟩:=hx
   refine ⟨.inr (.inr hC'),Qbw hF hs hg hd l _ own' _ w' hsz' hfr' hin' (by have:=JM (v:=v) hin.1 hk1;rw[hoi] at this;exact this) hx hC' (fun b hb=>?_) hp'⟩
   rcases how b hb with h3 | h3
   ·exact Nat.lt_of_lt_of_le (hown b h3) hst.size
   ·exact h3.2
theorem qf.keeps {D:List (Nat×Nat)}{f0:Fr}:∀(l:List (Nat×Bool)) (own:LN) (f:Fr) (w:World),Z3 all D l=true→(∀t,YQ D t=false→f t=f0 t)→qf P all C KF l own f w→qf P all C (fun o f' w'=>(∀t,YQ D t=false→f' t=f0 t)∧KF o f' w') l own f w
 | [],own,f,w,_,hf,h=>⟨hf,h⟩
 | (j,true)::l,own,f,w,hd,hf,h=>by
  simp only[Z3,List.all_cons,Bool.and_eq_true] at hd
  obtain ⟨hg,v,hv,hx⟩:=h
  exact ⟨hg,v,hv,qf.keeps l own _ _ hd.2 (JM hd.1 hf) hx⟩
 | (j,false)::l,own,f,w,hd,hf,h=>by
  simp only[Z3,List.all_cons,Bool.and_eq_true] at hd
  refine ⟨h.1,fun w1 h1 hc=>XO.mono (fun v w' hx=>?_) (h.2 w1 h1 hc)⟩
  obtain ⟨hC',own',hst,how,hx⟩:=hx
  exact ⟨hC',own',hst,how,qf.keeps l own' _ _ hd.2 (JM hd.1 hf) hx⟩
theorem f2p {j:Nat}{l:List (Nat×Bool)}{own:LN}{v:Value}(hr:∀w',(execOp (ev f) (QJ all j)).run P w'=.ok (.value v) w') (h:qf P all C KF l own (QU f (QJ all j).dst v) w)
  (hg:ZY all f (QJ all j)=true:=by rfl):qf P all C KF ((j,true)::l) own f w:=⟨hg,v,fun w' _=>hr w',h⟩
theorem f2k {j:Nat}{l:List (Nat×Bool)}{own:LN}(h:∀w1,Step [] w w1→C w1→XO P (QJ all j) f w1 fun f' w'=>C w'∧∃own',Step own w1 w'∧(∀b∈own',b∈own∨(w1.heap.size≤b∧b<w'.heap.size))∧qf P all C KF l own' f' w')
  (hg:ZY all f (QJ all j)=true:=by rfl):qf P all C KF ((j,false)::l) own f w:=⟨hg,h⟩
theorem f2e {own:LN}(h:KF own f w):qf P all C KF [] own f w:=h
theorem zI {Q:Exit→Fr→World→Prop}{id:Nat}{α:Type}(C:World→Prop) (pre l:List (Nat×Bool)) (i d:Nat) (rest:List (Nat×Bool)) (own:LN) (D Dc:List (Nat×Nat)) (S:α→List (Nat×Value)) (I:α→LN→World→Prop) (Φ:Value→World→Prop) (hm:P.follows .mixedOrders=true) (hn:YS n all=true)
  (hp:Qfw all pre l i rest=true) (hin:(Z3 all D pre && Z3 all D l && Z3 all Dc l)=true) (hd:(QJ all i).dst=some d) (hC:C { w with drawn:=w.drawn+1 }) (hown:∀b∈own,b<w.heap.size)
  (stab:∀v (own:LN) w w',Φ v w→Step own w w'→(∀b∈ow v,b∉own)→Φ v w') (mono:∀z own w w',I z own w→Step [] w w'→I z own w')
  (fin:∀z g own w v,I z own w→C w→Φ v w→(∀b∈ow v,b∉own∧b<w.heap.size)→XP P all C (fun f w=>Q .normal f w) rest (QU (Kt (S z) (mix D f g)) (some d) v) w)
  (h:XP P all C (fun f1 _=>(∀g w,C w→XO P (QJ all i) (mix Dc f1 g) w fun f' w'=>Step [] w w'∧C w'∧Φ (f' d) w'∧∀b∈ow (f' d),w.heap.size≤b∧b<w'.heap.size)∧qf P all C (fun o f' w'=>∃z,Yz f' (S z)∧I z o w') l own f1 { w with drawn:=w.drawn+1 }) pre f { w with drawn:=w.drawn+1 }):W P n (.region id all.toArray true) Q f w:=by
 rw[Bool.and_eq_true,Bool.and_eq_true] at hin
 simp only[Qfw,Bool.and_eq_true,beq_iff_eq,Option.isNone_iff_eq_none] at hp
 obtain ⟨⟨⟨⟨⟨hs,hl⟩,hq⟩,hgo⟩,hg⟩,hfr⟩:=hp
 rw[hd] at hfr
 refine YH C hm hn ?_
 have h1:=ZF (K:=fun f w=>Q .normal f w) (m:=l.length+1+rest.length) hs pre (Array.replicate all.length false) f _ hC hq
  (B:=fun f1 _=>Fl2 P all C (fun f w=>Q .normal f w) (fun o f' w'=>(∀t,YQ D t=false→f' t=f t)∧∃z,Yz f' (S z)∧I z o w') i d rest Φ Dc f1∧qf P all C (fun o f' w'=>(∀t,YQ D t=false→f' t=f t)∧∃z,Yz f' (S z)∧I z o w') l own f1 { w with drawn:=w.drawn+1 })
  (fun f1 hB=>Qbw hB.1 hs hg hd l (Zq pre (Array.replicate all.length false)) own f1 _ (by rw[ZD];simp) hfr hin.2 (fun _ _=>rfl) hB.2 hC hown hgo)
  (XP.keeps_mono _ _ _ (XP.keeps pre f _ hin.1.1 (fun _ _=>rfl) h) (fun f1 w1 hx=>⟨⟨stab,?_,?_,?_⟩,qf.keeps l own _ _ hin.1.2 hx.1 hx.2.2⟩))
 ·rw[hl] at h1
  exact h1
 ·intro f' w' hk hC'
  have:=hx.2.1 f' w' hC'
  rw[YM hk] at this
  exact this
 ·rintro o f' w' ⟨hk,z,hs,hi⟩ v hC' hv hb
  have:=fin z f' o w' v hi hC' hv hb
  rw[YM hk,Ye hs] at this
  exact this
 ·rintro o f' w' w'' ⟨hk,z,hs,hi⟩ hst
  exact ⟨hk,z,hs,mono z o _ _ hi hst⟩
end
attribute [irreducible] qf
end Go.Lg
namespace Go.Proofs.YtgmifemhkjdblaaGreatDoor
open Go.Lg
def Kn (co:LI) (ls:List (Int×Int)):List (Int×Int):=ls.map fun l=>((lwB co l.1:Int),l.2)
theorem Qci {co:LI}(hi:Yu co) {ls:List (Int×Int)}(h:mis co ls=false):Kn co ls=ixP co ls:=by
 unfold Kn ixP
 refine List.map_congr_left fun l hl=>?_
 unfold mis at h
 have h1:=List.any_eq_false.1 h l hl
 have hm:l.1∈co:=by simpa using h1
 rw[Qca hi hm]
abbrev exG (c:Zy) (i:Int):Exc:=c.ex.getD i.toNat ⟨.empty,[]⟩
abbrev csG (c:Zy) (i:Int):XS:=c.cs.getD i.toNat ⟨.empty,[],0⟩
def exB (c:Zy) (co ix:LI):List Exc:=ix.map fun i=>⟨(exG c i).nm,Kn co (exG c i).ls⟩
def csB (c:Zy) (co ix:LI):List XS:=ix.map fun i=>⟨(csG c i).nm,Kn co (csG c i).ts,(csG c i).bd⟩
def exM (c:Zy) (co ix:LI):Bool:=ix.any fun i=>mis co (exG c i).ls
def csM (c:Zy) (co ix:LI):Bool:=ix.any fun i=>mis co (csG c i).ts
theorem Qg4 (c:Zy) (p:Prt):Qkt c p=(exM c p.co p.ex || csM c p.co p.cs):=rfl
theorem Qh4 {c:Zy}{p:Prt}(hi:Yu p.co) (h:exM c p.co p.ex=false):exB c p.co p.ex=Qg3 c p:=by
 unfold exB Qg3
 refine List.map_congr_left fun i hi'=>?_
 rw[Qci hi (by have:=List.any_eq_false.1 h i hi';simpa using this)]
theorem Qh8 {c:Zy}{p:Prt}(hi:Yu p.co) (h:csM c p.co p.cs=false):csB c p.co p.cs=Qg5 c p:=by
 unfold csB Qg5
 refine List.map_congr_left fun i hi'=>?_
 rw[Qci hi (by have:=List.any_eq_false.1 h i hi';simpa using this)]
def ck4:List (Value×LI×Int)→Int
 | []=>0
 | (_,s,n)::l=>if YT n none s≠0 then YT n none s else ck4 l
abbrev skC (x:Value×LI×Int):LV:=[x.1,.int .i64 x.2.2]
theorem Qi1 (x:Value×LI×Int):(skC x).length=2:=rfl
theorem Qag:∀{l:List (Value×LI×Int)},ck4 l=0→∀x∈l,YT x.2.2 none x.2.1=0
 | [],_,x,hx=>by cases hx
 | (v,s,n)::l,h,x,hx=>by
  rw[ck4] at h
  by_cases h1:YT n none s≠0
  ·rw[if_pos h1] at h;exact absurd h h1
  ·rw[if_neg h1] at h
   rcases List.mem_cons.1 hx with rfl | hx
   ·exact Decidable.not_not.1 h1
   ·exact Qag h x hx
theorem ZX.app2 {α:Type}{g:α→LV}{sz T:Nat}{p:α→Value×Nat×Nat×LV}{base N e:Nat}{w7 w8:World}{v v8:Value}{l:List α}{q:α}(h:ZX g sz T p base w7 v l)
  (hq:w7.ownsRow N e (p q).2.2.1 (p q).1 (p q).2.1 (p q).2.2.2) (hqn:(p q).2.1≤1099511627776) (hb:base≤N) (hav:∀b∈ob v,b<N)
  (ho:w8.ownsRow base T sz v8 (l.length+1) (l.flatMap g++g q)) (hs8:Step (ob v) w7 w8) (hn:∀b∈ob v8,b∈ob v∨w7.heap.size≤b):ZX g sz T p base w8 v8 (l++[q]):=by
 refine ⟨?_,fun d hd=>?_⟩
 ·rw[List.length_append,List.flatMap_append];simpa using ho
 ·rcases List.mem_append.1 hd with hd | hd
  ·exact (h.each d hd).app hs8 hn
  ·simp only[List.mem_singleton] at hd;subst hd
   exact (ZO.of_own hq hqn hb hav).app hs8 hn
instance:Bw Tryz.prog 38 [nS,nS,nS,nS,nS] [(0,1),(1,1),(2,1),(3,1),(4,1)]:=⟨by kernel_rfl,by decide⟩
abbrev YL:LV:=[nS,nS,nS,nS,nS]
theorem Xf {v:Value}(h:v.oneCell'=true):v.cells=[v].toArray:=by
 cases v <;> first | rfl | cases h
def rgB (N M:Nat):LN:=(List.range M).filter fun b=>decide (N≤b)
theorem XH {N M b:Nat}:b∈rgB N M↔N≤b∧b<M:=by
 unfold rgB
 rw[List.mem_filter,List.mem_range,decide_eq_true_iff]
 exact And.comm
theorem Qfj {N M:Nat}{w':World}{v:Value}{qs:List IV}(h:∀L:LN,(∀b∈L,b<N)→YR L w'.heap v qs) (hM:w'.heap.size=M) {L:LN}(hL:∀b∈L,b∉rgB N M):YR L w'.heap v qs:=by
 refine (h (L.filter fun b=>decide (b<N)) (fun b hb=>by have:=(List.mem_filter.1 hb).2;exact of_decide_eq_true this)).up (fun b hb=>?_)
 by_cases hbN:b<N
 ·exact .inl (List.mem_filter.2 ⟨hb,decide_eq_true hbN⟩)
 ·refine .inr ?_
  have:=hL b hb
  rw[XH] at this
  omega
structure EiA (L:LN) (H:Array Obj) (z:Value×Value×Value) (ev:List KK) (qc qr:List IV):Prop where
 ev:Jz L H z.1 ev
 co:YR L H z.2.1 qc
 rq:YR L H z.2.2 qr
theorem EiA.ext {L:LN}{w w':World}{z:Value×Value×Value}{ev:List KK}{qc qr:List IV}(h:EiA L w.heap z ev qc qr) (hs:Step [] w w'):EiA L w'.heap z ev qc qr:=⟨h.ev.ext hs,h.co.ext hs,h.rq.ext hs⟩
theorem EiA.st {L:LN}{w w':World}{z:Value×Value×Value}{ev:List KK}{qc qr:List IV}(h:EiA L w.heap z ev qc qr) (hs:Step L w w'):EiA L w'.heap z ev qc qr:=⟨h.ev.st hs,h.co.st hs,h.rq.st hs⟩
theorem EiA.up {L L':LN}{H:Array Obj}{z:Value×Value×Value}{ev:List KK}{qc qr:List IV}(h:EiA L H z ev qc qr) (hL:∀b∈L',b∈L∨H.size≤b):EiA L' H z ev qc qr:=⟨h.ev.up hL,h.co.up hL,h.rq.up hL⟩
set_option maxRecDepth 4096 in
set_option maxHeartbeats 16000000 in
theorem Qbr {L:LN}{w:World}{c:CL}{v0 v1 v2 v3:Value}{p:Prt}(h0:ZI L w.heap c) (hc0:QL L w.heap v0 p.co) (hr0:QL L w.heap v1 p.rq) (hx0:QL L w.heap v2 p.ex) (hk0:QL L w.heap v3 p.cs) :
  QG Tryz.prog 152 [c.val,.agg #[v0,v1,v2,v3]] w fun r w'=>Step [] w w'∧∃us,r=.tuple #[.agg us.toArray,.int .i64 (zX c.cel p)]∧us.length=5∧ZB us∧(zX c.cel p≠0→us=YL)∧(zX c.cel p=0→QiB w.heap.size w'.heap (.agg us.toArray) (QcZ c.cel p)):=by
 have h:=h0.up (L':=[]) (by simp)
 have hc:=hc0.up (L':=[]) (by simp)
 have hr:=hr0.up (L':=[]) (by simp)
 have hx:=hx0.up (L':=[]) (by simp)
 have hk:=hk0.up (L':=[]) (by simp)
 have hsel:zX c.cel p=if Zg c.cel≠0 then Zg c.cel else if ck4 [(v0,p.co,(c.co.length:Int)),(v1,p.rq,(c.rq.length:Int)),(v2,p.ex,(c.ex.length:Int)),(v3,p.cs,(c.cs.length:Int))]≠0 then ck4 [(v0,p.co,(c.co.length:Int)),(v1,p.rq,(c.rq.length:Int)),(v2,p.ex,(c.ex.length:Int)),(v3,p.cs,(c.cs.length:Int))]
   else if (exM c.cel p.co p.ex || csM c.cel p.co p.cs)=true then 13 else Zg (QcZ c.cel p):=by
  have e1:c.cel.co.length=c.co.length:=List.length_map ..
  have e2:c.cel.rq.length=c.rq.length:=List.length_map ..
  have e3:c.cel.ex.length=c.ex.length:=List.length_map ..
  have e4:c.cel.cs.length=c.cs.length:=List.length_map ..
  unfold zX
  rw[e1,e2,e3,e4,Qg4]
  simp only[ck4]
  by_cases q0:Zg c.cel≠0
  ·rw[if_pos q0,if_pos q0]
  rw[if_neg q0,if_neg q0]
  by_cases q1:YT (c.co.length:Int) none p.co≠0
  ·simp only[if_pos q1]
  simp only[if_neg q1]
  by_cases q2:YT (c.rq.length:Int) none p.rq≠0
  ·simp only[if_pos q2]
  simp only[if_neg q2]
  by_cases q3:YT (c.ex.length:Int) none p.ex≠0
  ·simp only[if_pos q3]
  simp only[if_neg q3]
  by_cases q4:YT (c.cs.length:Int) none p.cs≠0
  ·simp only[if_pos q4]
  simp only[if_neg q4]
  simp
 refine Zf (zX c.cel p) fun E hE=>?_
 rw[hE] at hsel ⊢
 refine Zf [(v0,p.co,(c.co.length:Int)),(v1,p.rq,(c.rq.length:Int)),(v2,p.ex,(c.ex.length:Int)),(v3,p.cs,(c.cs.length:Int))] fun l4 hl4=>?_
 rw[hl4] at hsel
 have hl4n:l4.length=4:=by rw[←hl4];rfl
 have hl4i:∀x∈l4,QL [] w.heap x.1 x.2.1:=by
  rw[←hl4]
  intro x hm
  simp only[List.mem_cons,List.not_mem_nil,or_false] at hm
  rcases hm with rfl | rfl | rfl | rfl
  ·exact hc
  ·exact hr
  ·exact hx
  ·exact hk
 have hl4z:ck4 l4=0→YT (c.co.length:Int) none p.co=0∧YT (c.rq.length:Int) none p.rq=0∧YT (c.ex.length:Int) none p.ex=0∧YT (c.cs.length:Int) none p.cs=0:=by
  intro h0
  have h1:=Qag h0
  rw[←hl4] at h1
  exact ⟨h1 (v0,p.co,_) (by simp),h1 (v1,p.rq,_) (by simp),h1 (v2,p.ex,_) (by simp),h1 (v3,p.cs,_) (by simp)⟩
 have hcl:=hc.le
 have hrl:=hr.le
 have hxl:=hx.le
 have hkl:=hk.le
 have hexl:=h.ex.arr.le
 have hcsl:=h.cs.arr.le
 refine QG.of_W Tryz.func152 rfl Tryz.ntmps152 Tryz.results152 (by simp) ?_
 refine Qc<|xl rfl<|QR (us:=c.cells) rfl fun b2 w1 hs1 hb2 hB2=>xl rfl<|QR (us:=[v0,v1,v2,v3]) rfl fun b3 w2 hs2 hb3 hB3=>xl rfl<|Qu (us:=YL) rfl fun b4 w3 hs3 hb4 hB4=>Qf ?_
 have hz1:=hs1.size
 have hz2:=hs2.size
 have hz3:=hs3.size
 have hl2:=hB2.lt
 have hl3:=hB3.lt
 have hl4':=hB4.lt
 have hs03:=(hs1.trans hs2).trans hs3
 refine Qg<|Qc<|x (Qq ((hB2.ext hs2).ext hs3) rfl rfl)<|xl rfl<|xf<|(YV (h.ext hs03)).mono ?_
 rintro r4 w4 ⟨rfl,hs4⟩
 refine Qf ?_
 have hs04:=hs03.trans hs4
 have hz4:=hs4.size
 have hB24:=((hB2.ext hs2).ext hs3).ext hs4
 have hB34:=(hB3.ext hs3).ext hs4
 have hB44:=hB4.ext hs4
 refine Qc<|Qb<|x (Q6 rfl rfl)<|xe ?_
 refine Q3 rfl (fun h27=>?_) (fun h27=>?_)
 ·rw[if_pos h27] at hsel
  subst hsel
  refine Qc<|x (QN trivial)<|Qb<|xl rfl<|Qo (us:=YL) hB44 rfl rfl rfl rfl ⟨rfl,rfl,rfl,rfl,rfl,trivial⟩ fun w5 hs5 hB45=>Qf ?_
  exact Ql ⟨[.agg YL.toArray,.int .i64 (Zg c.cel)],⟨⟨_,rfl,Qx rfl (hB45.at (L:=[]) (by simp)).cells⟩,rfl,trivial⟩,hs04.then1 hs5 (by omega),YL,rfl,rfl,⟨rfl,rfl,rfl,rfl,rfl,trivial⟩,fun _=>rfl,fun h0=>absurd h0 h27⟩
 rw[if_neg h27] at hsel
 refine Qi ?_
 have h4:=h.ext hs04
 refine Qg<|Qc<|x (Qa rfl)<|x (Qd hB34 rfl rfl)<|x (Qa rfl)<|x (Qd hB24 rfl rfl)<|x (Qr h4.co.arr rfl)<|x (QN ⟨hc.cells,rfl,trivial⟩) <|
  x (Qa rfl)<|x (Qd hB34 rfl rfl)<|x (Qa rfl)<|x (Qd hB24 rfl rfl)<|x (Qr h4.rq.arr rfl)<|x (QN ⟨hr.cells,rfl,trivial⟩) <|
  x (Qa rfl)<|x (Qd hB34 rfl rfl)<|x (Qa rfl)<|x (Qd hB24 rfl rfl)<|x (Qr h4.ex.arr rfl)<|x (QN ⟨hx.cells,rfl,trivial⟩) <|
  x (Qa rfl)<|x (Qd hB34 rfl rfl)<|x (Qa rfl)<|x (Qd hB24 rfl rfl)<|x (Qr h4.cs.arr rfl)<|x (QN ⟨hk.cells,rfl,trivial⟩) <|
  xl rfl<|QI (us:=[skC (v0,p.co,(c.co.length:Int)),skC (v1,p.rq,(c.rq.length:Int)),skC (v2,p.ex,(c.ex.length:Int)),skC (v3,p.cs,(c.cs.length:Int))]) rfl rfl (by decide) (by simp) ⟨rfl,rfl,rfl,rfl,rfl,rfl,rfl,rfl,trivial⟩ fun b54 w6 hs6 hb54 hB54=>?_
 have hA54:Zs [] w6.heap (.slice (some ⟨b54,0,none⟩) 4 4) l4.length 2 (l4.flatMap skC):=by
  have:=hB54.arr (L:=[]) (by simp) (n:=4) (cap:=4) (sz:=2) (by rfl) (by omega) (Nat.le_refl _)
  rw[hl4n,←hl4];exact this
 refine x (Qr hA54 rfl)<|Qb<|xe ?_
 have hs06:=hs04.trans hs6
 have hz6:=hs6.size
 refine Qh<|QA (α:=Nat) [(5,5),(8,9),(56,69)] (fun z=>[(56,.int .i64 z)]) (fun z w'=>z≤l4.length∧Step [] w6 w'∧ck4 (l4.drop z)=ck4 l4) (fun z=>l4.length - z) (by rfl) 0 ⟨rfl,trivial⟩ ⟨Nat.zero_le _,Step.refl _ _,rfl⟩ ?_
 rintro k g w7 ⟨hkl4,hs67,hck⟩
 have hs07:=hs06.trans hs67
 have hz7:=hs67.size
 refine Qc<|x (QB rfl rfl)<|xe ?_
 refine Qg<|QD rfl (fun h57=>?_) (fun h57=>?_)
 ·refine Qz ?_
  have hke:l4.length≤k:=by have h16:¬(k:Int)<(l4.length:Int):=h57;omega
  rw[List.drop_of_length_le hke] at hck
  have hck0:ck4 l4=0:=hck.symm
  rw[if_neg (fun h0=>h0 hck0)] at hsel
  obtain ⟨zco,zrq,zex,zcs⟩:=hl4z hck0
  have hco:=(Ya _ _ _).1 zco
  have hrq:=(Ya _ _ _).1 zrq
  have hexz:=(Ya _ _ _).1 zex
  have hcsz:=(Ya _ _ _).1 zcs
  have h7:=h.ext hs07
  have hB27:QS w7.heap b2 38 c.cells:=(hB24.ext hs6).ext hs67
  have hB37:QS w7.heap b3 256 [v0,v1,v2,v3]:=(hB34.ext hs6).ext hs67
  have hB47:QS w7.heap b4 38 YL:=(hB44.ext hs6).ext hs67
  have hsd:Step [] w7 { w7 with drawn:=w7.drawn+1 }:=Step.drew _ _
  refine QV (α:=Nat×(Value×Value×Value)×List IV×List IV) [(70,83),(10,10)] (fun z=>[(10,.pointer (some ⟨z.1,0,none⟩))]) (fun z w'=>Step [] w7 w'∧w7.heap.size≤z.1∧QS w'.heap z.1 38 [z.2.1.1,z.2.1.2.1,z.2.1.2.2,nS,nS] ∧
   z.2.2.1.map IV.it=chs c.cel.co p.co∧z.2.2.2.map IV.it=chs c.cel.rq p.rq∧ZB [z.2.1.1,z.2.1.2.1,z.2.1.2.2]∧∀L:LN,(∀b∈L,b<w7.heap.size∨b=z.1)→EiA L w'.heap z.2.1 c.ev z.2.2.1 z.2.2.2) (by rfl) ?_ ?_
  ·refine zI (α:=(Value×Value×Value)×List IV×List IV) (Step [] w7) [(0,true),(1,true),(3,true),(4,true),(5,true),(6,true),(8,true),(9,true),(10,true),(11,true)] [(2,false),(7,false),(12,false),(13,true)] 14 10 [(15,false)] []
    [(70,83)] [(72,72),(77,77),(82,83)] (fun z=>[(83,.agg [z.1.1,z.1.2.1,z.1.2.2,nS,nS].toArray)])
    (fun z own w'=>(∀b∈own,w7.heap.size≤b)∧z.2.1.map IV.it=chs c.cel.co p.co∧z.2.2.map IV.it=chs c.cel.rq p.rq∧ZB [z.1.1,z.1.2.1,z.1.2.2]∧∀L:LN,(∀b∈L,b∉own)→EiA L w'.heap z.1 c.ev z.2.1 z.2.2)
    (fun v w'=>∃b,v=.pointer (some ⟨b,0,none⟩)∧w7.heap.size≤b∧QS w'.heap b 38 YL) Tryz.mixed (by rfl) (by kernel_rfl) (by rfl) rfl hsd (by simp) ?_ ?_ ?_ ?_
   ·rintro v own wa wb ⟨b,rfl,hb,hB⟩ hs hn
    exact ⟨b,rfl,hb,hB.step hs (hn b (by simp[ow]))⟩
   ·rintro z own wa wb ⟨h1,h2,h3,h4,h5⟩ hs
    exact ⟨h1,h2,h3,h4,fun L hL=>(h5 L hL).ext hs⟩
   ·rintro ⟨zv,qc,qr⟩ g own wz v ⟨i1,i2,i3,i4,i5⟩ hCz ⟨b10,rfl,hb10,hB10⟩ hbo
    simp only[] at i2 i3 i4 i5
    have hb10o:=(hbo b10 (by simp[ow])).1
    refine pkl (hl:=by kernel_rfl)<|Qo (us:=[zv.1,zv.2.1,zv.2.2,nS,nS]) hB10 rfl rfl rfl rfl ⟨i4.1,i4.2.1,i4.2.2.1,rfl,rfl,trivial⟩ fun w8 hs8 hB108=>pe ?_
    refine ⟨(b10,zv,qc,qr),⟨rfl,trivial⟩,hCz.then1 hs8 hb10,hb10,hB108,i2,i3,i4,fun L hL=>?_⟩
    have h1:=i5 (b10::L) (fun b hb=>by
     rcases List.mem_cons.1 hb with rfl | hb
     ·exact hb10o
     ·rcases hL b hb with h2 | h2
      ·exact fun h3=>by have:=i1 b h3;omega
      ·subst h2;exact hb10o)
    exact (h1.st (hs8.mono (by simp))).up (fun b hb=>.inl (by simp[hb]))
   refine Go.Lg.p (fun _=>Qa rfl)<|pq (fun _ hc=>Qd (hB27.ext hc) rfl rfl)<|Go.Lg.p (fun _=>Qa rfl)<|pq (fun _ hc=>Qd (hB27.ext hc) rfl rfl) <|
    Go.Lg.p (fun _=>Qa rfl)<|pq (fun _ hc=>Qd (hB37.ext hc) rfl rfl)<|Go.Lg.p (fun _=>Qa rfl)<|pq (fun _ hc=>Qd (hB27.ext hc) rfl rfl) <|
    Go.Lg.p (fun _=>Qa rfl)<|pq (fun _ hc=>Qd (hB37.ext hc) rfl rfl)<|pe ⟨fun g wf hCf=>Qu (us:=YL) rfl fun b wf' hsf hbf hBf=>⟨hsf,hCf.trans hsf,⟨b,rfl,Nat.le_trans hCf.size hbf,hBf⟩,fun x hx=>?_⟩,?_⟩
   ·have hxe:x=b:=by
     have hx':x∈[b]:=hx
     simpa using hx'
    subst hxe
    exact ⟨hbf,hBf.lt⟩
   refine f2k fun x1 p1 c1=>xf<|(Qbl (h7.ev.ext c1).arr).mono ?_
   rintro r72 y1 ⟨hs1',ho1⟩
   refine ⟨c1.trans hs1',rgB x1.heap.size y1.heap.size,hs1'.any,fun b hb=>.inr (XH.1 hb),?_⟩
   refine f2k fun x2 p2 c2=>xf<|(U9 (h7.co.ext c2) (hc.ext (hs07.trans c2)) (fun i hi=>hco.1 i hi)).mono ?_
   rintro r77 y2 ⟨hs2',⟨qc,hqc,hqcI⟩,ho2⟩
   refine ⟨c2.trans hs2',rgB x1.heap.size y1.heap.size++rgB x2.heap.size y2.heap.size,hs2'.any,fun b hb=>(List.mem_append.1 hb).imp id fun hb=>XH.1 hb,?_⟩
   refine f2k fun x3 p3 c3=>xf<|(U9 (h7.rq.ext c3) (hr.ext (hs07.trans c3)) (fun i hi=>hrq.1 i hi)).mono ?_
   rintro r82 y3 ⟨hs3',⟨qr,hqr,hqrI⟩,ho3⟩
   refine ⟨c3.trans hs3',(rgB x1.heap.size y1.heap.size++rgB x2.heap.size y2.heap.size)++rgB x3.heap.size y3.heap.size,hs3'.any,fun b hb=>(List.mem_append.1 hb).imp id fun hb=>XH.1 hb,?_⟩
   refine f2p (fun _=>Zw [(0,[r72]),(1,[r77]),(2,[r82])] ⟨Zk ho1,rfl,Xf ho2,rfl,Xf ho3,rfl,trivial⟩)<|f2e ?_
   refine ⟨((r72,r77,r82),qc,qr),⟨rfl,trivial⟩,fun b hb=>?_,hqc,hqr,⟨QO ho1,ho2,ho3,trivial⟩,fun L hL=>?_⟩
   ·have e1:=c1.size
    have e2:=c2.size
    have e3:=c3.size
    rcases List.mem_append.1 hb with hb | hb
    ·rcases List.mem_append.1 hb with hb | hb
     ·have:=XH.1 hb;omega
     ·have:=XH.1 hb;omega
    ·have:=XH.1 hb;omega
   ·have hL1:∀b∈L,b∉rgB x1.heap.size y1.heap.size:=fun b hb hm=>hL b hb (by simp[hm])
    have hL2:∀b∈L,b∉rgB x2.heap.size y2.heap.size:=fun b hb hm=>hL b hb (by simp[hm])
    have hL3:∀b∈L,b∉rgB x3.heap.size y3.heap.size:=fun b hb hm=>hL b hb (by simp[hm])
    have hev1:Jz L y1.heap r72 c.ev:=⟨QX ho1 h.ev.arr.le (fun b hb hm=>hL1 b hm (XH.2 (Qp ho1 b hb))),h.ev.nm⟩
    exact ⟨(((hev1.ext p2).ext hs2').ext p3).ext hs3',((Qfj hqcI rfl hL2).ext p3).ext hs3',Qfj hqrI rfl hL3⟩
  rintro ⟨b10,zv,qc,qr⟩ g wc ⟨hsc,hb10,hB10c,hqc,hqr,hone,hEi⟩
  simp only[] at hb10 hB10c hqc hqr hone hEi
  have hl10:=hB10c.lt
  have hzc:=hsc.size
  refine Qc<|xl rfl<|Qu (us:=[.bool false]) rfl fun b11 w8 hs8 hb11 hB11=>xl rfl<|QF (j:=0) (u:=.bool false) hB11 rfl rfl (by simp) rfl fun w9 hs9 hB119=>xe ?_
  have hsc9:Step [] wc w9:=hs8.then1 hs9 hb11
  have hs79:=hsc.trans hsc9
  have hs09:=hs07.trans hs79
  have hz9:=hsc9.size
  have hl11:=hB119.lt
  have hB109:=hB10c.ext hsc9
  have hB29:=hB27.ext hs79
  have hB39:=hB37.ext hs79
  have hB49:=hB47.ext hs79
  have h9:=h.ext hs09
  have hn10:b10≠b11:=by omega
  have hup:∀b∈[b10,b11],w.heap.size≤b:=fun b hb=>by simp only[List.mem_cons,List.not_mem_nil,or_false] at hb;omega
  have hlt9:∀b∈[b10,b11],b<w9.heap.size:=fun b hb=>by simp only[List.mem_cons,List.not_mem_nil,or_false] at hb;omega
  have hn2:b2∉[b10,b11]:=fun hb=>by simp only[List.mem_cons,List.not_mem_nil,or_false] at hb;omega
  have hn3:b3∉[b10,b11]:=fun hb=>by simp only[List.mem_cons,List.not_mem_nil,or_false] at hb;omega
  have hn4:b4∉[b10,b11]:=fun hb=>by simp only[List.mem_cons,List.not_mem_nil,or_false] at hb;omega
  have hm10:∀b∈[b10],b∈[b10,b11]:=fun b hb=>by simp only[List.mem_singleton] at hb;simp[hb]
  have hm11:∀b∈[b11],b∈[b10,b11]:=fun b hb=>by simp only[List.mem_singleton] at hb;simp[hb]
  have ho1:=hone.1
  have ho2:=hone.2.1
  have ho3:=hone.2.2.1
  refine Qc<|x (Zj (l:=[]) (l':=[_,_]))<|Qf ?_
  refine Qg<|Qc<|x (Qa rfl)<|x (Qd hB39 rfl rfl)<|x (Qr (hx.ext hs09) rfl)<|Qb<|xe ?_
  refine Qh<|QA (α:=Nat×Bool×Value×List XV) [(14,15),(17,17),(88,129)] (fun z=>[(88,.int .i64 z.1)]) (fun z w'=>z.1≤p.ex.length∧Step [b10,b11] w9 w'∧QS w'.heap b10 38 [zv.1,zv.2.1,zv.2.2,z.2.2.1,nS]∧QS w'.heap b11 4 [.bool z.2.1] ∧
   XvN w9.heap.size w' z.2.2.1 z.2.2.2∧z.2.2.2.map (·.x)=exB c.cel p.co (p.ex.take z.1)∧z.2.1=exM c.cel p.co (p.ex.take z.1)∧∀q∈z.2.2.2,VZ q.nm) (fun z=>p.ex.length - z.1) (by rfl) (0,false,nS,[]) ⟨rfl,trivial⟩
   ⟨Nat.zero_le _,Step.refl _ _,hB109,hB119,ZX.nil,rfl,rfl,fun q hq=>by cases hq⟩ ?_
  rintro ⟨k,mi,vx,qx⟩ g w10 ⟨hk10,hs910,hB1010,hB1110,hX10,hx10,hmi,hnx⟩
  simp only[] at hk10 hB1010 hB1110 hX10 hx10 hmi hnx
  have hs010:Step [] w w10:=hs09.then hs910 (fun b hb=>.inr (hup b hb))
  have h10:=h.ext hs010
  have hB210:=hB29.step hs910 hn2
  have hB310:=hB39.step hs910 hn3
  have hB410:=hB49.step hs910 hn4
  have hz10:=hs910.size
  have hqxl:qx.length=k:=by have:=congrArg List.length hx10;unfold exB at this;rw[List.length_map,List.length_map,List.length_take] at this;omega
  refine Qc<|x (QB rfl rfl)<|xe ?_
  refine Qg<|QD rfl (fun h89=>?_) (fun h89=>?_)
  ·refine Qz ?_
   have hke2:p.ex.length≤k:=by have h16:¬(k:Int)<(p.ex.length:Int):=h89;omega
   rw[List.take_of_length_le hke2] at hx10 hmi
   have hlt10:∀b∈[b10,b11],b<w10.heap.size:=fun b hb=>by have:=hlt9 b hb;omega
   refine Qg<|Qc<|x (Qa rfl)<|x (Qd hB310 rfl rfl)<|x (Qr (hk.ext hs010) rfl)<|Qb<|xe ?_
   refine Qh<|QA (α:=Nat×Bool×Value×List KV) [(19,20),(22,22),(133,180)] (fun z=>[(133,.int .i64 z.1)]) (fun z w'=>z.1≤p.cs.length∧Step [b10,b11] w10 w'∧QS w'.heap b10 38 [zv.1,zv.2.1,zv.2.2,vx,z.2.2.1]∧QS w'.heap b11 4 [.bool z.2.1] ∧
    KvN w10.heap.size w' z.2.2.1 z.2.2.2∧z.2.2.2.map (·.k)=csB c.cel p.co (p.cs.take z.1)∧z.2.1=(mi || csM c.cel p.co (p.cs.take z.1))∧∀q∈z.2.2.2,VZ q.nm) (fun z=>p.cs.length - z.1) (by rfl) (0,mi,nS,[]) ⟨rfl,trivial⟩
    ⟨Nat.zero_le _,Step.refl _ _,hB1010,hB1110,ZX.nil,rfl,by simp[csM],fun q hq=>by cases hq⟩ ?_
   rintro ⟨k,mk,vk,kx⟩ g u10 ⟨hkk10,ks910,kB1010,kB1110,kX10,hxk10,hmk,hnk⟩
   simp only[] at hkk10 kB1010 kB1110 kX10 hxk10 hmk hnk
   have ks010:Step [] w u10:=hs010.then ks910 (fun b hb=>.inr (hup b hb))
   have k10:=h.ext ks010
   have kB210:=hB210.step ks910 hn2
   have kB310:=hB310.step ks910 hn3
   have kB410:=hB410.step ks910 hn4
   have kz10:=ks910.size
   have hkxl:kx.length=k:=by have:=congrArg List.length hxk10;unfold csB at this;rw[List.length_map,List.length_map,List.length_take] at this;omega
   refine Qc<|x (QB rfl rfl)<|xe ?_
   refine Qg<|QD rfl (fun h89=>?_) (fun h89=>?_)
   ·refine Qz ?_
    have hke2:p.cs.length≤k:=by have h16:¬(k:Int)<(p.cs.length:Int):=h89;omega
    rw[List.take_of_length_le hke2] at hxk10 hmk
    have hmm:mk=(exM c.cel p.co p.ex || csM c.cel p.co p.cs):=by rw[hmk,hmi]
    rw[←hmm] at hsel
    have kXu:XvN w9.heap.size u10 vx qx:=ZX.low hX10 ks910 hlt9
    refine Qg<|Qc<|x (Qd kB1110 rfl rfl)<|xe ?_
    refine QW rfl (fun h181=>?_) (fun h181=>?_)
    ·rw[if_pos h181] at hsel
     subst hsel
     refine Qc<|x (QN trivial)<|xl rfl<|Qo (us:=YL) kB410 rfl rfl rfl rfl ⟨rfl,rfl,rfl,rfl,rfl,trivial⟩ fun u11 ks11 kB411=>Qf ?_
     exact Ql ⟨[.agg YL.toArray,.int .i64 13],⟨⟨_,rfl,Qx rfl (kB411.at (L:=[]) (by simp)).cells⟩,rfl,trivial⟩,ks010.then1 ks11 (by omega),YL,rfl,rfl,⟨rfl,rfl,rfl,rfl,rfl,trivial⟩,fun _=>rfl,fun h0=>absurd h0 (by decide)⟩
    rw[if_neg (by rw[h181];simp)] at hsel
    refine Qi ?_
    have hmf:(exM c.cel p.co p.ex || csM c.cel p.co p.cs)=false:=by rw[←hmm];exact h181
    have hmf2:=Bool.or_eq_false_iff.1 hmf
    have hE1:qx.map (·.x)=Qg3 c.cel p:=hx10.trans (Qh4 hco.2.1 hmf2.1)
    have hE2:kx.map (·.k)=Qg5 c.cel p:=hxk10.trans (Qh8 hco.2.1 hmf2.2)
    have hcel:(CL.mk zv.1 zv.2.1 zv.2.2 vx vk c.ev qc qr qx kx).cel=QcZ c.cel p:=by
     show Zy.mk c.ev (qc.map IV.it) (qr.map IV.it) (qx.map (·.x)) (kx.map (·.k))=Zy.mk c.cel.ev _ _ _ _
     rw[hqc,hqr,hE1,hE2];rfl
    have hCu:∀L:LN,(∀b∈L,b<w.heap.size)→ZI (b4::L) u10.heap (CL.mk zv.1 zv.2.1 zv.2.2 vx vk c.ev qc qr qx kx):=by
     intro L hL
     have e1:=hEi (b4::b10::L) (fun b hb=>by
      rcases List.mem_cons.1 hb with rfl | hb
      ·exact .inl (by omega)
      ·rcases List.mem_cons.1 hb with rfl | hb
       ·exact .inr rfl
       ·have:=hL b hb;exact .inl (by omega))
     have e2:EiA (b11::b4::b10::L) wc.heap zv c.ev qc qr:=e1.up (fun b hb=>by
      rcases List.mem_cons.1 hb with rfl | hb
      ·exact .inr hb11
      ·exact .inl hb)
     have hm2:∀b∈[b10,b11],b∈b11::b4::b10::L:=fun b hb=>by
      simp only[List.mem_cons,List.not_mem_nil,or_false] at hb
      rcases hb with rfl | rfl <;> simp
     have e3:=((e2.ext hsc9).st (hs910.mono hm2)).st (ks910.mono hm2)
     have e4:EiA (b4::L) u10.heap zv c.ev qc qr:=e3.up (fun b hb=>by
      rcases List.mem_cons.1 hb with rfl | hb
      ·exact .inl (by simp)
      ·exact .inl (by simp[hb]))
     have hqx40:qx.length≤1099511627776:=by omega
     have hkx40:kx.length≤1099511627776:=by omega
     have hLt9:∀b∈b4::L,b<w9.heap.size:=fun b hb=>by
      rcases List.mem_cons.1 hb with rfl | hb
      ·omega
      ·have:=hL b hb;omega
     have hLt10:∀b∈b4::L,b<w10.heap.size:=fun b hb=>by have:=hLt9 b hb;omega
     exact ⟨e4.ev,e4.co,e4.rq,⟨ZX.arr kXu hqx40 hLt9,fun q hq=>kXu.each q hq _ (fun b hb=>.inl (hLt9 b hb)),hnx⟩,⟨ZX.arr kX10 hkx40 hLt10,fun q hq=>kX10.each q hq _ (fun b hb=>.inl (hLt10 b hb)),hnk⟩⟩
    rw[←hcel] at hsel
    subst hsel
    refine Qg<|Qc<|x (Qq kB1010 rfl rfl)<|xl rfl<|xf<|(YV (hCu [] (by simp))).mono ?_
    rintro r12 u12 ⟨rfl,ks12⟩
    refine Qf ?_
    have ks012:=ks010.trans ks12
    have kB412:=kB410.ext ks12
    refine Qc<|Qb<|x (Q6 rfl rfl)<|xe ?_
    refine Q3 rfl (fun h186=>?_) (fun h186=>?_)
    ·refine Qc<|x (QN trivial)<|Qb<|xl rfl<|Qo (us:=YL) kB412 rfl rfl rfl rfl ⟨rfl,rfl,rfl,rfl,rfl,trivial⟩ fun u13 ks13 kB413=>Qf ?_
     exact Ql ⟨[.agg YL.toArray,.int .i64 (Zg (CL.mk zv.1 zv.2.1 zv.2.2 vx vk c.ev qc qr qx kx).cel)],⟨⟨_,rfl,Qx rfl (kB413.at (L:=[]) (by simp)).cells⟩,rfl,trivial⟩,ks012.then1 ks13 (by omega),YL,rfl,rfl,⟨rfl,rfl,rfl,rfl,rfl,trivial⟩,fun _=>rfl,fun h0=>absurd h0 h186⟩
    refine Qi ?_
    have hone5:ZB [zv.1,zv.2.1,zv.2.2,vx,vk]:=⟨ho1,ho2,ho3,QO kXu.own,QO kX10.own,trivial⟩
    refine Qc<|x (Qq (kB1010.ext ks12) rfl rfl)<|xl rfl<|Qo (us:=[zv.1,zv.2.1,zv.2.2,vx,vk]) kB412 rfl rfl rfl rfl hone5 fun u13 ks13 kB413=>Qf ?_
    refine Ql ⟨[.agg [zv.1,zv.2.1,zv.2.2,vx,vk].toArray,.int .i64 0],⟨⟨_,rfl,Qx rfl (kB413.at (L:=[]) (by simp)).cells⟩,rfl,trivial⟩,ks012.then1 ks13 (by omega),[zv.1,zv.2.1,zv.2.2,vx,vk],?_,rfl,hone5,fun h0=>absurd h0 h186,fun _=>⟨(CL.mk zv.1 zv.2.1 zv.2.2 vx vk c.ev qc qr qx kx),rfl,hcel,fun L hL=>?_⟩⟩
    ·have h0:Zg (CL.mk zv.1 zv.2.1 zv.2.2 vx vk c.ev qc qr qx kx).cel=0:=Decidable.not_not.1 h186
     rw[h0];rfl
    ·exact ((((hCu L hL).ext ks12).st (ks13.mono (by simp)))).up (fun b hb=>.inl (by simp[hb]))
   refine Qi ?_
   have hltE:k<p.cs.length:=by have h16:(k:Int)<(p.cs.length:Int):=h89;omega
   have htkE:p.cs.take (k+1)=p.cs.take k++[p.cs[k]'hltE]:=List.take_succ_eq_append_getElem hltE
   have hiE:=hcsz.1 _ (List.getElem_mem hltE)
   refine Zf (p.cs[k]'hltE) fun i hii=>?_
   rw[hii] at htkE hiE
   have hin:i=(i.toNat:Int):=by omega
   have hil:i.toNat<c.cs.length:=by omega
   have hmemE:=List.getElem_mem hil
   have hgE:csG c.cel i=(c.cs[i.toNat]'hil).k:=by
    show (c.cs.map (·.k)).getD i.toNat ⟨.empty,[],0⟩=_
    simp[List.getD,hil]
   refine Zf (c.cs[i.toNat]'hil) fun q hq=>?_
   rw[hq] at hmemE hgE
   have hqA:=k10.cs.each q hmemE
   have hqn:=k10.cs.nm q hmemE
   have hql:=hqA.le
   have hcsB:csB c.cel p.co (p.cs.take (k+1))=csB c.cel p.co (p.cs.take k)++[⟨q.nm,Kn p.co q.ts,q.bd⟩]:=by
    rw[htkE];unfold csB;rw[List.map_append,List.map_singleton,hgE];rfl
   have hcsM:csM c.cel p.co (p.cs.take (k+1))=(csM c.cel p.co (p.cs.take k) || mis p.co q.ts):=by
    rw[htkE];unfold csM;rw[List.any_append,List.any_cons,List.any_nil,Bool.or_false,hgE];rfl
   refine Qg<|Qh<|Qc<|xii (i:=k) (hk.ext ks010) rfl rfl hltE fun a90 h90=>?_
   rw[hii] at h90
   refine x (Qv h90 rfl)<|Qf ?_
   refine Qg<|QT (Step [] u10) [(0,true),(1,true),(2,true),(3,true),(4,true),(5,true),(6,true),(7,true),(8,true),(9,true),(10,true),(11,true),(12,true),(13,false),(14,false)] Tryz.mixed (by rfl) (by kernel_rfl) (Step.drew _ _) ?_
   refine Go.Lg.p (fun _=>Qa rfl)<|pq (fun _ hc=>Qd (kB210.ext hc) rfl rfl)<|Go.Lg.p (fun _=>Qm)<|Go.Lg.pig (g:=Zx) (i:=i.toNat) rfl Jg k10.cs.arr rfl (congrArg (Value.int .i64) hin) hil fun a140 h140=>?_
   rw[hq] at h140
   refine Go.Lg.p (fun _=>Zd rfl)<|pq (fun _ hc=>Qv ((h140.fld 0 (.string q.nm) rfl).st hc) rfl)<|Go.Lg.p (fun _=>Qa rfl)<|pq (fun _ hc=>Qd (kB210.ext hc) rfl rfl)<|Go.Lg.p (fun _=>Qm)<|Go.Lg.pig (g:=Zx) (i:=i.toNat) rfl Jg k10.cs.arr rfl (congrArg (Value.int .i64) hin) hil fun a146 h146=>?_
   rw[hq] at h146
   refine Go.Lg.p (fun _=>Zd rfl)<|pq (fun _ hc=>Qv ((h146.fld 2 (.int .i64 q.bd) rfl).st hc) rfl)<|Go.Lg.p (fun _=>QN ⟨rfl,rfl,trivial⟩)<|pk<|Qu (us:=[.string .empty,nS,.int .i64 0]) rfl fun b20 u11 ks11 hb15 kB15=>⟨(Step.drew [] u10).trans ks11,?_⟩
   refine pkl (hl:=by kernel_rfl)<|Qo (us:=[.string q.nm,nS,.int .i64 q.bd]) kB15 rfl rfl rfl rfl ⟨rfl,rfl,rfl,trivial⟩ fun u12 ks12 kB15=>pe ?_
   have hb15:u10.heap.size≤b20:=hb15
   have ks1012:Step [] u10 u12:=((Step.drew [] u10).trans ks11).then1 ks12 hb15
   have ks012:=ks010.trans ks1012
   have k12:=h.ext ks012
   have kB212:=kB210.ext ks1012
   have kz12:=ks1012.size
   have hl15:=kB15.lt
   have hqA12:=hqA.ext ks1012
   refine Qg<|Qc<|x (Qa rfl)<|x (Qd kB212 rfl rfl)<|Qb<|xig (g:=Zx) (i:=i.toNat) Jg k12.cs.arr rfl (congrArg (Value.int .i64) hin) hil fun a102 h102=>?_
   rw[hq] at h102
   refine x (Zd rfl)<|x (Qv (h102.fld 1 q.v rfl) rfl)<|x (Qr hqA12 rfl)<|Qb<|xe ?_
   have hup15:∀b∈[b20,b11],w.heap.size≤b:=fun b hb=>by simp only[List.mem_cons,List.not_mem_nil,or_false] at hb;omega
   have hn153:b3∉[b20,b11]:=fun hb=>by simp only[List.mem_cons,List.not_mem_nil,or_false] at hb;omega
   have hn1510:b10∉[b20,b11]:=fun hb=>by simp only[List.mem_cons,List.not_mem_nil,or_false] at hb;omega
   refine Qh<|QA (α:=Nat×Bool×Value) [(22,22),(157,173)] (fun z=>[(157,.int .i64 z.1)]) (fun z w'=>z.1≤q.ts.length∧Step [b20,b11] u12 w'∧QS w'.heap b20 173 [.string q.nm,z.2.2,.int .i64 q.bd]∧QS w'.heap b11 4 [.bool z.2.1] ∧
    w'.ownsRow u12.heap.size 175 2 z.2.2 z.1 ((Kn p.co (q.ts.take z.1)).flatMap Q8)∧z.2.1=(mk || mis p.co (q.ts.take z.1))) (fun z=>q.ts.length - z.1) (by rfl) (0,mk,nS) ⟨rfl,trivial⟩
    ⟨Nat.zero_le _,Step.refl _ _,kB15,kB1110.ext ks1012,QP _ _ _ _,by simp[mis]⟩ ?_
   rintro ⟨j,mj,vl⟩ g u13 ⟨hj,ks1213,kB1513,kB1113,kO13,hmj⟩
   simp only[] at hj kB1513 kB1113 kO13 hmj
   have ks013:Step [] w u13:=ks012.then ks1213 (fun b hb=>.inr (hup15 b hb))
   have kz13:=ks1213.size
   have hOge:=Qp kO13
   refine Qc<|x (QB rfl rfl)<|xe ?_
   refine Qg<|QD rfl (fun h107=>?_) (fun h107=>?_)
   ·refine Qz ?_
    have hje:j=q.ts.length:=by have h16:¬(j:Int)<(q.ts.length:Int):=h107;omega
    rw[hje,List.take_length] at kO13
    rw[hje,List.take_length] at hmj
    have ks1013:Step [b11] u10 u13:=(ks1012.any (L:=[b11])).then ks1213 (fun b hb=>by
     simp only[List.mem_cons,List.not_mem_nil,or_false] at hb
     rcases hb with rfl | rfl
     ·exact .inr hb15
     ·exact .inl (by simp))
    have kB1013:=kB1010.step ks1013 (by simpa using hn10)
    have kX13:KvN w10.heap.size u13 vk kx:=ZX.low kX10 ks1013 (fun b hb=>hlt10 b (hm11 b hb))
    have kXge:=Qp kX10.own
    have hixl:(Kn p.co q.ts).length=q.ts.length:=List.length_map ..
    refine Qw<|x (Qa rfl)<|x (Qd kB1013 rfl rfl)<|x (Qq kB1513 rfl rfl)<|xl rfl<|QI (us:=[Zx ⟨q.nm,vl,Kn p.co q.ts,q.bd⟩]) rfl rfl (by decide) (by simp) ⟨rfl,rfl,trivial⟩ fun b126 u14 ks14 hb126 kB126 =>
     xl rfl<|Q2 (news:=Zx ⟨q.nm,vl,Kn p.co q.ts,q.bd⟩) (L:=[]) (Qt kX13.own ks14) rfl rfl rfl (kB126.at (by simp)) (Qch (q:=⟨q.nm,vl,Kn p.co q.ts,q.bd⟩) (QO kO13)) (by omega) (by have:=ks14.size;omega) fun v15 u15 ho15 ks15 hn15=>?_
    have kz14:=ks14.size
    have kX15:KvN w10.heap.size u15 v15 (kx++[⟨q.nm,vl,Kn p.co q.ts,q.bd⟩]):=ZX.app2 (N:=u12.heap.size) (kX13.ext ks14) (by show u14.ownsRow _ _ 2 vl (Kn p.co q.ts).length _;rw[hixl];exact Qt kO13 ks14) (by show (Kn p.co q.ts).length≤_;omega) (by omega) (fun b hb=>by have:=kXge b hb;omega) ho15 ks15 hn15
    have hb10x:b10∉ob vk:=fun hm=>by have:=(kXge b10 hm).1;omega
    have hb11x:b11∉ob vk:=fun hm=>by have:=(kXge b11 hm).1;omega
    have ks915:Step [b10,b11] w10 u15:=((ks910.trans' (ks1013.mono hm11)).trans ks14).then ks15 (fun b hb=>.inr (kXge b hb).1)
    have kB1015:=(kB1013.ext ks14).step ks15 hb10x
    have kB1115:=(kB1113.ext ks14).step ks15 hb11x
    refine x (Qa rfl)<|xl rfl<|QF (j:=4) (u:=v15) kB1015 rfl rfl (by simp) (QO ho15) fun u16 ks16 kB1016=>xe ?_
    refine Qw<|x (Qy rfl rfl ⟨by omega,by omega⟩)<|Qb<|xe ?_
    refine ⟨(k+1,mj,v15,kx++[⟨q.nm,vl,Kn p.co q.ts,q.bd⟩]),by simp only[];omega,⟨rfl,trivial⟩,hltE,ks915.trans' (ks16.mono hm10),kB1016,kB1115.step ks16 (by simp only[List.mem_singleton];omega),ZX.low kX15 ks16 (fun b hb=>hlt10 b (hm10 b hb)),?_,?_,?_⟩
    ·simp only[]
     rw[hcsB,List.map_append,hxk10];rfl
    ·simp only[]
     rw[hcsM,hmj,hmk,Bool.or_assoc]
    ·intro q' hq'
     rcases List.mem_append.1 hq' with h9' | h9'
     ·exact hnk q' h9'
     ·simp only[List.mem_singleton] at h9';subst h9';exact hqn
   refine Qi ?_
   have hltL:j<q.ts.length:=by have h16:(j:Int)<(q.ts.length:Int):=h107;omega
   have htkL:q.ts.take (j+1)=q.ts.take j++[q.ts[j]'hltL]:=List.take_succ_eq_append_getElem hltL
   have ks1013:Step [b11] u10 u13:=(ks1012.any (L:=[b11])).then ks1213 (fun b hb=>by
    simp only[List.mem_cons,List.not_mem_nil,or_false] at hb
    rcases hb with rfl | rfl
    ·exact .inr hb15
    ·exact .inl (by simp))
   have hqA13:P2s [] u13.heap q.v q.ts:=(h.ext ks013).cs.each q hmemE
   refine Qg<|Qh<|Qc<|xig (g:=Q8) XM hqA13 rfl rfl hltL fun a108 h108=>?_
   refine Zf (q.ts[j]'hltL) fun lc hlc=>?_
   rw[hlc] at h108 htkL
   have hixt:Kn p.co (q.ts.take (j+1))=Kn p.co (q.ts.take j)++[((lwB p.co lc.1:Int),lc.2)]:=by
    rw[htkL];unfold Kn;rw[List.map_append];rfl
   have hmst:mis p.co (q.ts.take (j+1))=(mis p.co (q.ts.take j) || !decide (lc.1∈p.co)):=by
    rw[htkL];unfold mis;rw[List.any_append];simp
   refine x (QK h108 rfl rfl)<|xl rfl<|Qu (us:=[.int .i64 0,.int .i64 0]) rfl fun b22 u14 ks14 hb17 kB17=>xl rfl<|Qo (us:=Q8 lc) kB17 rfl rfl rfl rfl ⟨rfl,rfl,trivial⟩ fun u15 ks15 kB17=>xe ?_
   have ks1315:Step [] u13 u15:=ks14.then1 ks15 hb17
   have ks015:=ks013.trans ks1315
   have kz15:=ks1315.size
   have kB1515:=kB1513.ext ks1315
   have kB1115:=kB1113.ext ks1315
   have kB315:QS u15.heap b3 256 [v0,v1,v2,v3]:=(((kB310.ext ks1012).step ks1213 hn153)).ext ks1315
   have hb15l:b20∉b11::ob vl:=fun hb=>by
    rcases List.mem_cons.1 hb with rfl | hb
    ·omega
    ·have:=(hOge b20 hb).1;omega
   have hb17l:b22∉b11::ob vl:=fun hb=>by
    rcases List.mem_cons.1 hb with rfl | hb
    ·omega
    ·have:=(hOge b22 hb).2;omega
   have hb11l:b11∉ob vl:=fun hb=>by have:=(hOge b11 hb).1;omega
   have hb15v:b20∉ob vl:=fun hb=>hb15l (List.mem_cons_of_mem _ hb)
   refine QT (Step (b11::ob vl) u15) [(0,true),(1,true),(2,true),(3,true),(4,true),(6,true),(7,true),(5,false),(8,true),(9,false),(10,false),(11,true),(12,false)] Tryz.mixed (by rfl) (by kernel_rfl) (Step.drew _ _) ?_
   have kd15:Step [] u15 { u15 with drawn:=u15.drawn+1 }:=Step.drew _ _
   have hzd:({ u15 with drawn:=u15.drawn+1 }:World).heap.size=u15.heap.size:=rfl
   refine Go.Lg.p (fun _=>Qa rfl)<|pq (fun _ hc=>Qd (kB1515.step hc hb15l) rfl rfl)<|Go.Lg.p (fun _=>Qm)<|Go.Lg.p (fun _=>Qa rfl)<|pq (fun _ hc=>Qd (kB17.step hc hb17l) rfl rfl) <|
    Go.Lg.p (fun _=>Qa rfl)<|pq (fun _ hc=>Qd (kB17.step hc hb17l) rfl rfl)<|pk<|xc (first:=[]) (capt:=[.pointer (some ⟨b3,0,none⟩),.pointer (some ⟨b11,0,none⟩)]) rfl<|(qV (kB315.ext kd15) (kB1115.ext kd15) (hc.ext (ks015.trans kd15)) hco.2.1 lc.1).mono ?_
   rintro r16 u16 ⟨ks16,rfl,kB1116⟩
   have ks1516:=kd15.any.trans' ks16
   have kz16:=ks1516.size
   have hm11l:∀b∈[b11],b∈b11::ob vl:=fun b hb=>by simp only[List.mem_singleton] at hb;simp[hb]
   refine ⟨ks1516.mono hm11l,?_⟩
   refine Go.Lg.p (fun _=>QN ⟨rfl,rfl,trivial⟩)<|pk<|QI (us:=[Q8 ((lwB p.co lc.1:Int),lc.2)]) rfl rfl (by decide) (by simp) ⟨rfl,rfl,trivial⟩ fun b119 u17 ks17 hb119 hB1110=>⟨(ks1516.trans ks17).mono hm11l,?_⟩
   have ks1517:=ks1516.trans ks17
   have kO17:u17.ownsRow u12.heap.size 175 2 vl j ((Kn p.co (q.ts.take j)).flatMap Q8):=Qk (Qt kO13 ks1315) ks1517 (fun b hb hm=>by simp only[List.mem_singleton] at hm;subst hm;exact hb11l hb)
   have kz17:=ks1517.size
   refine pk<|Q2 (news:=Q8 ((lwB p.co lc.1:Int),lc.2)) (L:=[]) kO17 rfl rfl rfl (hB1110.at (by simp)) (fun u hu=>by
    simp only[List.mem_cons,List.not_mem_nil,or_false] at hu
    rcases hu with rfl | rfl <;> rfl) (by omega) (by omega) fun v18 u18 ho18 ks18 hn18=>⟨(ks1517.mono hm11l).trans' (ks18.mono (fun b hb=>List.mem_cons_of_mem _ hb)),?_⟩
   have kB1518:=((kB1515.step ks1517 (by simp only[List.mem_singleton];omega))).step ks18 hb15v
   have kB1118:=(kB1116.ext ks17).step ks18 hb11l
   refine Go.Lg.p (fun _=>Qa rfl)<|pkl (hl:=by kernel_rfl)<|QF (j:=1) (u:=v18) kB1518 rfl rfl (by simp) (QO ho18) fun u19 ks19 kB1519=>pe ?_
   refine Qw<|x (Qy rfl rfl ⟨by omega,by omega⟩)<|Qb<|xe ?_
   have hm1511:∀b∈[b11],b∈[b20,b11]:=fun b hb=>by simp only[List.mem_singleton] at hb;simp[hb]
   have hm1515:∀b∈[b20],b∈[b20,b11]:=fun b hb=>by simp only[List.mem_singleton] at hb;simp[hb]
   have ks1218:Step [b20,b11] u12 u18:=((ks1213.trans ks1315).trans' (ks1517.mono hm1511)).then ks18 (fun b hb=>.inr (hOge b hb).1)
   refine ⟨(j+1,mj || !decide (lc.1∈p.co),v18),by simp only[];omega,⟨rfl,trivial⟩,hltL,ks1218.trans' (ks19.mono hm1515),kB1519,kB1118.step ks19 (by simp only[List.mem_singleton];omega),?_,?_⟩
   ·simp only[]
    rw[hixt,List.flatMap_append]
    have:=Qk ho18 ks19 (fun b hb=>by
     simp only[List.mem_singleton]
     have:=(Qp ho18 b hb).1
     omega)
    simpa using this
   ·simp only[]
    rw[hmst,hmj,Bool.or_assoc]
  refine Qi ?_
  have hltE:k<p.ex.length:=by have h16:(k:Int)<(p.ex.length:Int):=h89;omega
  have htkE:p.ex.take (k+1)=p.ex.take k++[p.ex[k]'hltE]:=List.take_succ_eq_append_getElem hltE
  have hiE:=hexz.1 _ (List.getElem_mem hltE)
  refine Zf (p.ex[k]'hltE) fun i hii=>?_
  rw[hii] at htkE hiE
  have hin:i=(i.toNat:Int):=by omega
  have hil:i.toNat<c.ex.length:=by omega
  have hmemE:=List.getElem_mem hil
  have hgE:exG c.cel i=(c.ex[i.toNat]'hil).x:=by
   show (c.ex.map (·.x)).getD i.toNat ⟨.empty,[]⟩=_
   simp[List.getD,hil]
  refine Zf (c.ex[i.toNat]'hil) fun q hq=>?_
  rw[hq] at hmemE hgE
  have hqA:=h10.ex.each q hmemE
  have hqn:=h10.ex.nm q hmemE
  have hql:=hqA.le
  have hexB:exB c.cel p.co (p.ex.take (k+1))=exB c.cel p.co (p.ex.take k)++[⟨q.nm,Kn p.co q.ls⟩]:=by
   rw[htkE];unfold exB;rw[List.map_append,List.map_singleton,hgE];rfl
  have hexM:exM c.cel p.co (p.ex.take (k+1))=(exM c.cel p.co (p.ex.take k) || mis p.co q.ls):=by
   rw[htkE];unfold exM;rw[List.any_append,List.any_cons,List.any_nil,Bool.or_false,hgE];rfl
  refine Qg<|Qh<|Qc<|xii (i:=k) (hx.ext hs010) rfl rfl hltE fun a90 h90=>?_
  rw[hii] at h90
  refine x (Qv h90 rfl)<|Qf ?_
  refine Qc<|x (Qa rfl)<|x (Qd hB210 rfl rfl)<|Qb<|xig (g:=Zu) (i:=i.toNat) JA h10.ex.arr rfl (congrArg (Value.int .i64) hin) hil fun a95 h95=>?_
  rw[hq] at h95
  refine x (Zd rfl)<|x (Qv (h95.fld 0 (.string q.nm) rfl) rfl)<|x (QN ⟨rfl,trivial⟩)<|xl rfl<|Qu (us:=[.string .empty,nS]) rfl fun b15 w11 hs11 hb15 hB15 =>
   xl rfl<|Qo (us:=[.string q.nm,nS]) hB15 rfl rfl rfl rfl ⟨rfl,rfl,trivial⟩ fun w12 hs12 hB15=>xe ?_
  have hs1012:Step [] w10 w12:=hs11.then1 hs12 hb15
  have hs012:=hs010.trans hs1012
  have h12:=h.ext hs012
  have hB212:=hB210.ext hs1012
  have hz12:=hs1012.size
  have hl15:=hB15.lt
  have hqA12:=hqA.ext hs1012
  refine Qg<|Qc<|x (Qa rfl)<|x (Qd hB212 rfl rfl)<|Qb<|xig (g:=Zu) (i:=i.toNat) JA h12.ex.arr rfl (congrArg (Value.int .i64) hin) hil fun a102 h102=>?_
  rw[hq] at h102
  refine x (Zd rfl)<|x (Qv (h102.fld 1 q.v rfl) rfl)<|x (Qr hqA12 rfl)<|Qb<|xe ?_
  have hup15:∀b∈[b15,b11],w.heap.size≤b:=fun b hb=>by simp only[List.mem_cons,List.not_mem_nil,or_false] at hb;omega
  have hn153:b3∉[b15,b11]:=fun hb=>by simp only[List.mem_cons,List.not_mem_nil,or_false] at hb;omega
  have hn1510:b10∉[b15,b11]:=fun hb=>by simp only[List.mem_cons,List.not_mem_nil,or_false] at hb;omega
  refine Qh<|QA (α:=Nat×Bool×Value) [(17,17),(106,122)] (fun z=>[(106,.int .i64 z.1)]) (fun z w'=>z.1≤q.ls.length∧Step [b15,b11] w12 w'∧QS w'.heap b15 107 [.string q.nm,z.2.2]∧QS w'.heap b11 4 [.bool z.2.1] ∧
   w'.ownsRow w12.heap.size 109 2 z.2.2 z.1 ((Kn p.co (q.ls.take z.1)).flatMap Q8)∧z.2.1=(mi || mis p.co (q.ls.take z.1))) (fun z=>q.ls.length - z.1) (by rfl) (0,mi,nS) ⟨rfl,trivial⟩
   ⟨Nat.zero_le _,Step.refl _ _,hB15,hB1110.ext hs1012,QP _ _ _ _,by simp[mis]⟩ ?_
  rintro ⟨j,mj,vl⟩ g w13 ⟨hj,hs1213,hB1513,hB1113,hO13,hmj⟩
  simp only[] at hj hB1513 hB1113 hO13 hmj
  have hs013:Step [] w w13:=hs012.then hs1213 (fun b hb=>.inr (hup15 b hb))
  have hz13:=hs1213.size
  have hOge:=Qp hO13
  refine Qc<|x (QB rfl rfl)<|xe ?_
  refine Qg<|QD rfl (fun h107=>?_) (fun h107=>?_)
  ·refine Qz ?_
   have hje:j=q.ls.length:=by have h16:¬(j:Int)<(q.ls.length:Int):=h107;omega
   rw[hje,List.take_length] at hO13
   rw[hje,List.take_length] at hmj
   have hs1013:Step [b11] w10 w13:=(hs1012.any (L:=[b11])).then hs1213 (fun b hb=>by
    simp only[List.mem_cons,List.not_mem_nil,or_false] at hb
    rcases hb with rfl | rfl
    ·exact .inr hb15
    ·exact .inl (by simp))
   have hB1013:=hB1010.step hs1013 (by simpa using hn10)
   have hX13:XvN w9.heap.size w13 vx qx:=ZX.low hX10 hs1013 (fun b hb=>hlt9 b (hm11 b hb))
   have hXge:=Qp hX10.own
   have hixl:(Kn p.co q.ls).length=q.ls.length:=List.length_map ..
   refine Qw<|x (Qa rfl)<|x (Qd hB1013 rfl rfl)<|x (Qq hB1513 rfl rfl)<|xl rfl<|QI (us:=[Zu ⟨q.nm,vl,Kn p.co q.ls⟩]) rfl rfl (by decide) (by simp) ⟨rfl,rfl,trivial⟩ fun b126 w14 hs14 hb126 hB126 =>
    xl rfl<|Q2 (news:=Zu ⟨q.nm,vl,Kn p.co q.ls⟩) (L:=[]) (Qt hX13.own hs14) rfl rfl rfl (hB126.at (by simp)) (zN (q:=⟨q.nm,vl,Kn p.co q.ls⟩) (QO hO13)) (by omega) (by have:=hs14.size;omega) fun v15 w15 ho15 hs15 hn15=>?_
   have hz14:=hs14.size
   have hX15:XvN w9.heap.size w15 v15 (qx++[⟨q.nm,vl,Kn p.co q.ls⟩]):=ZX.app2 (N:=w12.heap.size) (hX13.ext hs14) (by show w14.ownsRow _ _ 2 vl (Kn p.co q.ls).length _;rw[hixl];exact Qt hO13 hs14) (by show (Kn p.co q.ls).length≤_;omega) (by omega) (fun b hb=>by have:=hXge b hb;omega) ho15 hs15 hn15
   have hb10x:b10∉ob vx:=fun hm=>by have:=(hXge b10 hm).1;omega
   have hb11x:b11∉ob vx:=fun hm=>by have:=(hXge b11 hm).1;omega
   have hs915:Step [b10,b11] w9 w15:=((hs910.trans' (hs1013.mono hm11)).trans hs14).then hs15 (fun b hb=>.inr (hXge b hb).1)
   have hB1015:=(hB1013.ext hs14).step hs15 hb10x
   have hB1115:=(hB1113.ext hs14).step hs15 hb11x
   refine x (Qa rfl)<|xl rfl<|QF (j:=3) (u:=v15) hB1015 rfl rfl (by simp) (QO ho15) fun w16 hs16 hB1016=>xe ?_
   refine Qw<|x (Qy rfl rfl ⟨by omega,by omega⟩)<|Qb<|xe ?_
   refine ⟨(k+1,mj,v15,qx++[⟨q.nm,vl,Kn p.co q.ls⟩]),by simp only[];omega,⟨rfl,trivial⟩,hltE,hs915.trans' (hs16.mono hm10),hB1016,hB1115.step hs16 (by simp only[List.mem_singleton];omega),ZX.low hX15 hs16 (fun b hb=>hlt9 b (hm10 b hb)),?_,?_,?_⟩
   ·simp only[]
    rw[hexB,List.map_append,hx10];rfl
   ·simp only[]
    rw[hexM,hmj,hmi]
   ·intro q' hq'
    rcases List.mem_append.1 hq' with h9' | h9'
    ·exact hnx q' h9'
    ·simp only[List.mem_singleton] at h9';subst h9';exact hqn
  refine Qi ?_
  have hltL:j<q.ls.length:=by have h16:(j:Int)<(q.ls.length:Int):=h107;omega
  have htkL:q.ls.take (j+1)=q.ls.take j++[q.ls[j]'hltL]:=List.take_succ_eq_append_getElem hltL
  have hs1013:Step [b11] w10 w13:=(hs1012.any (L:=[b11])).then hs1213 (fun b hb=>by
   simp only[List.mem_cons,List.not_mem_nil,or_false] at hb
   rcases hb with rfl | rfl
   ·exact .inr hb15
   ·exact .inl (by simp))
  have hqA13:P2s [] w13.heap q.v q.ls:=(h.ext hs013).ex.each q hmemE
  refine Qg<|Qh<|Qc<|xig (g:=Q8) XM hqA13 rfl rfl hltL fun a108 h108=>?_
  refine Zf (q.ls[j]'hltL) fun lc hlc=>?_
  rw[hlc] at h108 htkL
  have hixt:Kn p.co (q.ls.take (j+1))=Kn p.co (q.ls.take j)++[((lwB p.co lc.1:Int),lc.2)]:=by
   rw[htkL];unfold Kn;rw[List.map_append];rfl
  have hmst:mis p.co (q.ls.take (j+1))=(mis p.co (q.ls.take j) || !decide (lc.1∈p.co)):=by
   rw[htkL];unfold mis;rw[List.any_append];simp
  refine x (QK h108 rfl rfl)<|xl rfl<|Qu (us:=[.int .i64 0,.int .i64 0]) rfl fun b17 w14 hs14 hb17 hB17=>xl rfl<|Qo (us:=Q8 lc) hB17 rfl rfl rfl rfl ⟨rfl,rfl,trivial⟩ fun w15 hs15 hB17=>xe ?_
  have hs1315:Step [] w13 w15:=hs14.then1 hs15 hb17
  have hs015:=hs013.trans hs1315
  have hz15:=hs1315.size
  have hB1515:=hB1513.ext hs1315
  have hB1115:=hB1113.ext hs1315
  have hB315:QS w15.heap b3 256 [v0,v1,v2,v3]:=(((hB310.ext hs1012).step hs1213 hn153)).ext hs1315
  have hb15l:b15∉b11::ob vl:=fun hb=>by
   rcases List.mem_cons.1 hb with rfl | hb
   ·omega
   ·have:=(hOge b15 hb).1;omega
  have hb17l:b17∉b11::ob vl:=fun hb=>by
   rcases List.mem_cons.1 hb with rfl | hb
   ·omega
   ·have:=(hOge b17 hb).2;omega
  have hb11l:b11∉ob vl:=fun hb=>by have:=(hOge b11 hb).1;omega
  have hb15v:b15∉ob vl:=fun hb=>hb15l (List.mem_cons_of_mem _ hb)
  refine QT (Step (b11::ob vl) w15) [(0,true),(1,true),(2,true),(3,true),(4,true),(6,true),(7,true),(5,false),(8,true),(9,false),(10,false),(11,true),(12,false)] Tryz.mixed (by rfl) (by kernel_rfl) (Step.drew _ _) ?_
  have hd15:Step [] w15 { w15 with drawn:=w15.drawn+1 }:=Step.drew _ _
  have hzd:({ w15 with drawn:=w15.drawn+1 }:World).heap.size=w15.heap.size:=rfl
  refine Go.Lg.p (fun _=>Qa rfl)<|pq (fun _ hc=>Qd (hB1515.step hc hb15l) rfl rfl)<|Go.Lg.p (fun _=>Qm)<|Go.Lg.p (fun _=>Qa rfl)<|pq (fun _ hc=>Qd (hB17.step hc hb17l) rfl rfl) <|
   Go.Lg.p (fun _=>Qa rfl)<|pq (fun _ hc=>Qd (hB17.step hc hb17l) rfl rfl)<|pk<|xc (first:=[]) (capt:=[.pointer (some ⟨b3,0,none⟩),.pointer (some ⟨b11,0,none⟩)]) rfl<|(qV (hB315.ext hd15) (hB1115.ext hd15) (hc.ext (hs015.trans hd15)) hco.2.1 lc.1).mono ?_
  rintro r16 w16 ⟨hs16,rfl,hB1116⟩
  have hs1516:=hd15.any.trans' hs16
  have hz16:=hs1516.size
  have hm11l:∀b∈[b11],b∈b11::ob vl:=fun b hb=>by simp only[List.mem_singleton] at hb;simp[hb]
  refine ⟨hs1516.mono hm11l,?_⟩
  refine Go.Lg.p (fun _=>QN ⟨rfl,rfl,trivial⟩)<|pk<|QI (us:=[Q8 ((lwB p.co lc.1:Int),lc.2)]) rfl rfl (by decide) (by simp) ⟨rfl,rfl,trivial⟩ fun b119 w17 hs17 hb119 hB119=>⟨(hs1516.trans hs17).mono hm11l,?_⟩
  have hs1517:=hs1516.trans hs17
  have hO17:w17.ownsRow w12.heap.size 109 2 vl j ((Kn p.co (q.ls.take j)).flatMap Q8):=Qk (Qt hO13 hs1315) hs1517 (fun b hb hm=>by simp only[List.mem_singleton] at hm;subst hm;exact hb11l hb)
  have hz17:=hs1517.size
  refine pk<|Q2 (news:=Q8 ((lwB p.co lc.1:Int),lc.2)) (L:=[]) hO17 rfl rfl rfl (hB119.at (by simp)) (fun u hu=>by
   simp only[List.mem_cons,List.not_mem_nil,or_false] at hu
   rcases hu with rfl | rfl <;> rfl) (by omega) (by omega) fun v18 w18 ho18 hs18 hn18=>⟨(hs1517.mono hm11l).trans' (hs18.mono (fun b hb=>List.mem_cons_of_mem _ hb)),?_⟩
  have hB1518:=((hB1515.step hs1517 (by simp only[List.mem_singleton];omega))).step hs18 hb15v
  have hB1118:=(hB1116.ext hs17).step hs18 hb11l
  refine Go.Lg.p (fun _=>Qa rfl)<|pkl (hl:=by kernel_rfl)<|QF (j:=1) (u:=v18) hB1518 rfl rfl (by simp) (QO ho18) fun w19 hs19 hB1519=>pe ?_
  refine Qw<|x (Qy rfl rfl ⟨by omega,by omega⟩)<|Qb<|xe ?_
  have hm1511:∀b∈[b11],b∈[b15,b11]:=fun b hb=>by simp only[List.mem_singleton] at hb;simp[hb]
  have hm1515:∀b∈[b15],b∈[b15,b11]:=fun b hb=>by simp only[List.mem_singleton] at hb;simp[hb]
  have hs1218:Step [b15,b11] w12 w18:=((hs1213.trans hs1315).trans' (hs1517.mono hm1511)).then hs18 (fun b hb=>.inr (hOge b hb).1)
  refine ⟨(j+1,mj || !decide (lc.1∈p.co),v18),by simp only[];omega,⟨rfl,trivial⟩,hltL,hs1218.trans' (hs19.mono hm1515),hB1519,hB1118.step hs19 (by simp only[List.mem_singleton];omega),?_,?_⟩
  ·simp only[]
   rw[hixt,List.flatMap_append]
   have:=Qk ho18 hs19 (fun b hb=>by
    simp only[List.mem_singleton]
    have:=(Qp ho18 b hb).1
    omega)
   simpa using this
  ·simp only[]
   rw[hmst,hmj,Bool.or_assoc]
 refine Qi ?_
 have hlt:k<l4.length:=by have h16:(k:Int)<(l4.length:Int):=h57;omega
 have hmem:=List.getElem_mem hlt
 have hdr:l4.drop k=l4[k]'hlt::l4.drop (k+1):=List.drop_eq_getElem_cons hlt
 refine Qg<|Qh<|Qc<|xig (g:=skC) Qi1 (hA54.ext hs67) rfl rfl hlt fun a58 h58=>?_
 refine Zf (l4[k]'hlt) fun q hq=>?_
 rw[hq] at h58 hmem hdr
 have hqi:=hl4i q hmem
 rw[hdr,show q=(q.1,q.2.1,q.2.2) from rfl,ck4] at hck
 refine x (QK h58 rfl rfl)<|xl rfl<|Qu (us:=[nS,.int .i64 0]) rfl fun b8 w8 hs8 hb8 hB8=>xl rfl<|Qo (us:=skC q) hB8 rfl rfl rfl rfl ⟨hqi.one,rfl,trivial⟩ fun w9 hs9 hB8=>xe ?_
 have hs79:Step [] w7 w9:=hs8.then1 hs9 hb8
 have hs09:=hs07.trans hs79
 refine Qc<|x (Qa rfl)<|x (Qd hB8 rfl rfl)<|x (Qa rfl)<|x (Qd hB8 rfl rfl)<|xl rfl<|xf<|(Qaz (hqi.ext hs09) q.2.2).mono ?_
 rintro r10 w10 ⟨rfl,rfl⟩
 refine Qf ?_
 refine Qc<|Qb<|x (Q6 rfl rfl)<|xe ?_
 refine Q3 rfl (fun h66=>?_) (fun h66=>?_)
 ·rw[if_pos h66] at hck
  have hne:ck4 l4≠0:=by rw[←hck];exact h66
  rw[if_pos hne,←hck] at hsel
  subst hsel
  have hB410:QS w10.heap b4 38 YL:=((hB44.ext hs6).ext hs67).ext hs79
  refine Qc<|x (QN trivial)<|Qb<|xl rfl<|Qo (us:=YL) hB410 rfl rfl rfl rfl ⟨rfl,rfl,rfl,rfl,rfl,trivial⟩ fun w11 hs11 hB411=>Qf ?_
  exact Ql ⟨[.agg YL.toArray,.int .i64 (YT q.2.2 none q.2.1)],⟨⟨_,rfl,Qx rfl (hB411.at (L:=[]) (by simp)).cells⟩,rfl,trivial⟩,hs09.then1 hs11 (by omega),YL,rfl,rfl,⟨rfl,rfl,rfl,rfl,rfl,trivial⟩,fun _=>rfl,fun h0=>absurd h0 h66⟩
 rw[if_neg h66] at hck
 refine Qi ?_
 refine Qw<|x (Qy rfl rfl ⟨by omega,by omega⟩)<|Qb<|xe ?_
 exact ⟨k+1,by omega,⟨rfl,trivial⟩,hlt,hs67.trans hs79,hck⟩
theorem je (n:Nat):(1:Int)*(2:Int) ^ n=((1 <<< n:Nat):Int):=by
 rw[Nat.shiftLeft_eq,Nat.one_mul,Int.one_mul,Int.natCast_pow];rfl
theorem JD {n:Nat}(h:n<16):1 <<< n<65536:=by
 rw[Nat.shiftLeft_eq,Nat.one_mul]
 exact Nat.pow_lt_pow_right (by decide) h
theorem Qa3 {b k:Nat}(hb:b<65536) (hk:k<16):orB b k<65536:=Qb3 hb (JD hk)
theorem QhL {n:Nat}(h:n<16):inK .u16 ((1:Int)*(2:Int) ^ n):=by
 rw[je]
 have h1:=JD h
 generalize 1 <<< n=m at h1
 exact ⟨by omega,by omega⟩
theorem Qeo {x:Jb}:∀(l:List Jb) (k b:Nat),b<65536→k+l.length≤16→rqB x k b l<65536
 | [],_,_,hb,_=>hb
 | y::l,k,b,hb,hk=>by
  rw[rqB]
  refine Qeo l _ _ ?_ (by simp at hk;omega)
  by_cases h:(y.a.al.any fun e=>decide (e∈x.a.al))=true
  ·rw[if_pos h];exact Qa3 hb (by simp at hk;omega)
  ·rw[if_neg h];exact hb
theorem jr (ls:List (Int×Int)) (l:Int×Int):prB (ls++[l])=orB (prB ls) l.1.toNat:=by
 unfold prB;rw[List.foldl_append];rfl
theorem yf:∀(ls:List (Int×Int)),(∀l∈ls,0≤l.1∧l.1<16)→prB ls<65536:=by
 intro ls
 unfold prB
 have key:∀(ls:List (Int×Int)) (b:Nat),b<65536→(∀l∈ls,0≤l.1∧l.1<16)→ls.foldl (fun b l=>orB b l.1.toNat) b<65536:=by
  intro ls
  induction ls with
  | nil=>intro b hb _;exact hb
  | cons l ls ih =>
   intro b hb h
   exact ih _ (Qa3 hb (by have:=h l List.mem_cons_self;omega)) (fun l' hl=>h l' (List.mem_cons_of_mem _ hl))
 exact key ls 0 (by decide)
theorem yn (m:Nat) (hm:m<65536) (w:World):QG Tryz.prog 93 [.int .u16 m] w fun r w'=>Step [] w w'∧Qs 3 w.heap.size w' r (setK m 8):=by
 refine QG.of_W Tryz.func93 rfl Tryz.ntmps93 Tryz.results93 (by simp) ?_
 refine Qc<|Qf ?_
 refine Qc<|Qf ?_
 refine Qg<|Qc<|Qb<|xe ?_
 refine Qh<|QA (α:=Nat×Value) [(3,17)] (fun z=>[(3,z.2),(5,.int .i64 z.1)]) (fun z w'=>z.1≤8∧Step [] w w'∧Qs 3 w.heap.size w' z.2 (setK m z.1)) (fun z=>8 - z.1) (by rfl) (0,nS) ⟨rfl,rfl,trivial⟩
  ⟨Nat.zero_le _,Step.refl _ _,QP _ _ _ _⟩ ?_
 rintro ⟨k,v⟩ g w1 ⟨hk,hs1,ho1⟩
 simp only[] at hk ho1
 have hlen:=Xm m k
 have hz1:=hs1.size
 refine Qc<|x (QB rfl rfl)<|xe ?_
 refine Qg<|QD rfl (fun h6=>?_) (fun h6=>?_)
 ·refine Qz ?_
  refine Qc<|Qb<|Qf ?_
  have hke:k=8:=by omega
  rw[hke] at ho1
  exact Ql ⟨[v],⟨rfl,trivial⟩,hs1,ho1⟩
 have hlt:k<8:=by omega
 have hdv:m / 2 ^ k<65536:=Nat.lt_of_le_of_lt (Nat.div_le_self _ _) hm
 have hsucc:=Vr m k
 refine Qi ?_
 refine Qg<|Qh<|Qc<|Qb<|Qf ?_
 refine Qc<|Qb<|Qb<|x (Ut (n:=k) rfl rfl (by show k≤16;omega))<|x (Qhc (a:=m / 2 ^ k) (b:=1) (congrArg (Value.int .u16) (V3 m k)) rfl hdv (by decide))<|x (Zm rfl rfl)<|xe ?_
 refine QD rfl (fun h12=>?_) (fun h12=>?_)
 ·rw[if_neg (fun e=>h12 (by rw[e];rfl))] at hsucc
  refine Qi ?_
  refine Qw<|x (Qy rfl rfl ⟨by omega,by omega⟩)<|Qb<|xe ?_
  exact ⟨(k+1,v),by simp only[];omega,⟨rfl,rfl,trivial⟩,hlt,hs1,by simp only[];rw[hsucc];exact ho1⟩
 rw[if_pos (by omega)] at hsucc
 refine Qw<|Qb<|Qb<|xl rfl<|QI (us:=[[.int .i64 k]]) rfl rfl (by decide) (by simp) ⟨rfl,rfl,trivial⟩ fun b15 w2 hs2 hb15 hB15=>?_
 have ho2:=Qt ho1 hs2
 have hz2:=hs2.size
 refine xl rfl<|Q2 (news:=[.int .i64 k]) (L:=[]) ho2 rfl rfl rfl (hB15.at (by simp)) (by simp[Value.oneCell']) (by omega) (by omega) fun v3 w3 ho3 hs3 hn3 =>
  Qf ?_
 have hge:=Qp ho1
 refine Qw<|x (Qy rfl rfl ⟨by omega,by omega⟩)<|Qb<|xe ?_
 refine ⟨(k+1,v3),by simp only[];omega,⟨rfl,rfl,trivial⟩,hlt,(hs1.trans hs2).then hs3 (fun b hb=>.inr (hge b hb).1),?_⟩
 simp only[]
 rw[hsucc];exact Qs.snoc ho3
theorem Qec {w:World}{c:CL}{b1 b2 i:Nat}(hB1:QS w.heap b1 38 c.cells) (hB2:QS w.heap b2 3 [.int .i64 i]) (hc:ZI [] w.heap c) {q:IV}(hi:c.rq[i]?=some q) (e:Int) :
  QG Tryz.prog 148 [.int .i64 e,.pointer (some ⟨b1,0,none⟩),.pointer (some ⟨b2,0,none⟩)] w fun r w'=>r=.bool (decide (e∈q.p.a.al))∧Step [] w w':=by
 obtain ⟨hlt,hq⟩:=List.getElem?_eq_some_iff.1 hi
 have hqA:=hc.rq.each q (hq ▸ List.getElem_mem hlt)
 refine QG.of_W Tryz.func148 rfl Tryz.ntmps148 Tryz.results148 (by simp) ?_
 refine Qc<|Qf ?_
 refine Qc<|x (Qa rfl)<|x (Qd hB1 rfl rfl)<|x (Qd hB2 rfl rfl)<|xig (g:=Zh) (i:=i) Y6 hc.rq.arr rfl rfl hlt fun a8 h8=>?_
 rw[hq] at h8
 refine x (Zd rfl)<|x (Zd rfl)<|x (Qv ((h8.fld 1 q.p.va rfl)) rfl)<|Qb<|xl rfl<|xf<|(Yn hqA.al e).mono ?_
 rintro r1 w1 ⟨rfl,rfl⟩
 refine Qf ?_
 exact Ql ⟨[_],⟨rfl,trivial⟩,rfl,Step.refl _ _⟩
theorem QgW {w:World}{c:CL}{b1 i:Nat}(hB1:QS w.heap b1 38 c.cells) (hc:ZI [] w.heap c) (h8:c.co.length≤8) {q:IV}(hi:c.rq[i]?=some q) :
  QG Tryz.prog 147 [.int .i64 i,.pointer (some ⟨b1,0,none⟩)] w fun r w'=>r=.int .u16 (rqB q.it 0 0 c.cel.co)∧Step [] w w':=by
 refine QG.of_W Tryz.func147 rfl Tryz.ntmps147 Tryz.results147 (by simp) ?_
 refine Qc<|xl rfl<|QR (us:=[.int .i64 i]) rfl fun b2 w1 hs1 hb2 hB2=>Qf ?_
 refine Qc<|Qf ?_
 refine Qg<|Qc<|x (Qa rfl)<|x (Qd (hB1.ext hs1) rfl rfl)<|x (Qr (hc.ext hs1).co.arr rfl)<|Qb<|xe ?_
 refine Qh<|QA (α:=Nat×Nat) [(4,6),(10,24)] (fun z=>[(4,.int .u16 z.2),(10,.int .i64 z.1)]) (fun z w'=>z.1≤c.co.length∧Step [] w1 w'∧z.2<65536∧rqB q.it z.1 z.2 ((c.co.drop z.1).map (·.it))=rqB q.it 0 0 c.cel.co) (fun z=>c.co.length - z.1) (by rfl) (0,0) ⟨rfl,rfl,trivial⟩
  ⟨Nat.zero_le _,Step.refl _ _,by decide,rfl⟩ ?_
 rintro ⟨k,b⟩ g w2 ⟨hk,hs2,hb,hr⟩
 simp only[] at hk hb hr
 have hs02:=hs1.trans hs2
 have h2:=hc.ext hs02
 refine Qc<|x (QB rfl rfl)<|xe ?_
 refine Qg<|QD rfl (fun h11=>?_) (fun h11=>?_)
 ·refine Qz ?_
  have hke:c.co.length≤k:=by have h16:¬(k:Int)<(c.co.length:Int):=h11;omega
  rw[List.drop_of_length_le hke] at hr
  have hr':b=rqB q.it 0 0 c.cel.co:=hr
  refine Qc<|Qb<|Qf ?_
  exact Ql ⟨[.int .u16 b],⟨rfl,trivial⟩,by rw[hr'];rfl,hs02⟩
 have hlt:k<c.co.length:=by have h16:(k:Int)<(c.co.length:Int):=h11;omega
 have hmem:=List.getElem_mem hlt
 rw[XI hlt,rqB] at hr
 refine Qi ?_
 refine Qg<|Qh<|Qc<|Qb<|xig (g:=Zh) (i:=k) Y6 h2.co.arr rfl rfl hlt fun a13 h13=>?_
 refine Zf (c.co[k]'hlt) fun y hy=>?_
 rw[hy] at h13 hmem hr
 have hyA:=h2.co.each y hmem
 refine x (QK h13 rfl rfl)<|xl rfl<|Qu (us:=[.string .empty,nS,.int .i64 0,nS,nS]) rfl fun b6 w3 hs3 hb6 hB6=>x Qe <|
  xl rfl<|Qo (us:=Zh y) hB6 rfl rfl rfl rfl ⟨rfl,hyA.al.one,rfl,hyA.mr.one,hyA.ed.one,trivial⟩ fun w4 hs4 hB6=>xe ?_
 have hs24:Step [] w2 w4:=hs3.then1 hs4 hb6
 have hs04:=hs02.trans hs24
 refine Qc<|x (Qa rfl)<|x (Qa rfl)<|x (Qd hB6 rfl rfl)<|x (Zj (l:=[]) (l':=[_,_]))<|xl rfl<|xf<|(QcB (q:=fun e=>decide (e∈q.p.a.al)) (cap:=[.pointer (some ⟨b1,0,none⟩),.pointer (some ⟨b2,0,none⟩)]) (hyA.al.ext hs24)
  (fun e w5 hs5=>Qec ((hB1.ext hs04).ext hs5) ((hB2.ext (hs2.trans hs24)).ext hs5) ((hc.ext hs04).ext hs5) hi e)).mono ?_
 rintro r5 w5 ⟨rfl,hs5⟩
 refine xe ?_
 refine QW rfl (fun h19=>?_) (fun h19=>?_)
 ·rw[if_pos (by exact h19)] at hr
  refine Qw<|Qb<|Qb<|x (QbY (n:=k) rfl rfl (by show k≤16;omega) (QhL (by omega)))<|x (QaV (a:=b) (b:=1 <<< k) rfl (congrArg (Value.int .u16) (je k)) hb (JD (by omega)))<|Qf ?_
  refine Qw<|x (Qy rfl rfl ⟨by omega,by omega⟩)<|Qb<|xe ?_
  exact ⟨(k+1,orB b k),by simp only[];omega,⟨rfl,rfl,trivial⟩,hlt,(hs2.trans hs24).trans hs5,Qa3 hb (by omega),hr⟩
 rw[if_neg (by intro h0;have h19':(y.p.a.al.any fun e=>decide (e∈q.p.a.al))=false:=h19;have h0':(y.p.a.al.any fun e=>decide (e∈q.p.a.al))=true:=h0;rw[h19'] at h0';cases h0')] at hr
 refine Qi ?_
 refine Qw<|x (Qy rfl rfl ⟨by omega,by omega⟩)<|Qb<|xe ?_
 exact ⟨(k+1,b),by simp only[];omega,⟨rfl,rfl,trivial⟩,hlt,(hs2.trans hs24).trans hs5,hb,hr⟩
theorem QgV {w:World}{c:CL}{b1 i:Nat}(hB1:QS w.heap b1 38 c.cells) (hc:ZI [] w.heap c) {q:XV}(hi:c.ex[i]?=some q) (hm:∀l∈q.ls,0≤l.1∧l.1<16) :
  QG Tryz.prog 149 [.int .i64 i,.pointer (some ⟨b1,0,none⟩)] w fun r w'=>r=.int .u16 (prB q.ls)∧Step [] w w':=by
 obtain ⟨hlt,hq⟩:=List.getElem?_eq_some_iff.1 hi
 have hqA:=hc.ex.each q (hq ▸ List.getElem_mem hlt)
 have hql:=hqA.le
 refine QG.of_W Tryz.func149 rfl Tryz.ntmps149 Tryz.results149 (by simp) ?_
 refine Qc<|Qf ?_
 refine Qc<|Qf ?_
 refine Qg<|Qc<|x (Qa rfl)<|x (Qd hB1 rfl rfl)<|Qb<|xig (g:=Zu) (i:=i) JA hc.ex.arr rfl rfl hlt fun a10 h10=>?_
 rw[hq] at h10
 refine x (Zd rfl)<|x (Qv (h10.fld 1 q.v rfl) rfl)<|x (Qr hqA rfl)<|Qb<|xe ?_
 refine Qh<|QA (α:=Nat×Nat) [(4,4),(6,6),(14,23)] (fun z=>[(4,.int .u16 z.2),(14,.int .i64 z.1)]) (fun z w'=>z.1≤q.ls.length∧Step [] w w'∧z.2=prB (q.ls.take z.1)) (fun z=>q.ls.length - z.1) (by rfl) (0,0) ⟨rfl,rfl,trivial⟩
  ⟨Nat.zero_le _,Step.refl _ _,rfl⟩ ?_
 rintro ⟨k,b⟩ g w1 ⟨hk,hs1,hb⟩
 simp only[] at hk hb
 have hlb:b<65536:=by rw[hb];exact yf _ (fun l hl=>hm l (List.mem_of_mem_take hl))
 refine Qc<|x (QB rfl rfl)<|xe ?_
 refine Qg<|QD rfl (fun h15=>?_) (fun h15=>?_)
 ·refine Qz ?_
  have hke:q.ls.length≤k:=by have h16:¬(k:Int)<(q.ls.length:Int):=h15;omega
  rw[List.take_of_length_le hke] at hb
  refine Qc<|Qb<|Qf ?_
  exact Ql ⟨[.int .u16 b],⟨rfl,trivial⟩,by rw[hb];rfl,hs1⟩
 have hltL:k<q.ls.length:=by have h16:(k:Int)<(q.ls.length:Int):=h15;omega
 have htk:q.ls.take (k+1)=q.ls.take k++[q.ls[k]'hltL]:=List.take_succ_eq_append_getElem hltL
 have hml:=hm _ (List.getElem_mem hltL)
 refine Qi ?_
 refine Qg<|Qh<|Qc<|xig (g:=Q8) XM (hqA.ext hs1) rfl rfl hltL fun a16 h16=>?_
 refine Zf (q.ls[k]'hltL) fun l hl=>?_
 rw[hl] at h16 htk hml
 have hln:l.1=(l.1.toNat:Int):=by omega
 have hl16:l.1.toNat<16:=by omega
 refine x (QK h16 rfl rfl)<|xl rfl<|Qu (us:=[.int .i64 0,.int .i64 0]) rfl fun b6 w2 hs2 hb6 hB6=>xl rfl<|Qo (us:=Q8 l) hB6 rfl rfl rfl rfl ⟨rfl,rfl,trivial⟩ fun w3 hs3 hB6 =>
  xe ?_
 have hs13:Step [] w1 w3:=hs2.then1 hs3 hb6
 refine Qw<|Qb<|x (Qa rfl)<|x (Qd hB6 rfl rfl)<|x (QbY (n:=l.1.toNat) rfl (congrArg (Value.int .i64) hln) (by show l.1.toNat≤16;omega) (QhL hl16))<|x (QaV (a:=b) (b:=1 <<< l.1.toNat) rfl (congrArg (Value.int .u16) (je _)) hlb (JD hl16))<|Qf ?_
 refine Qw<|x (Qy rfl rfl ⟨by omega,by omega⟩)<|Qb<|xe ?_
 exact ⟨(k+1,orB b l.1.toNat),by simp only[];omega,⟨rfl,rfl,trivial⟩,hltL,hs1.trans hs13,by simp only[];rw[htk,jr,hb]⟩
theorem QgU {w:World}{c:CL}{b1 i:Nat}(hB1:QS w.heap b1 38 c.cells) (hc:ZI [] w.heap c) {q:KV}(hi:c.cs[i]?=some q) (hm:∀l∈q.ts,0≤l.1∧l.1<16) :
  QG Tryz.prog 150 [.int .i64 i,.pointer (some ⟨b1,0,none⟩)] w fun r w'=>r=.int .u16 (prB q.ts)∧Step [] w w':=by
 obtain ⟨hlt,hq⟩:=List.getElem?_eq_some_iff.1 hi
 have hqA:=hc.cs.each q (hq ▸ List.getElem_mem hlt)
 have hql:=hqA.le
 refine QG.of_W Tryz.func150 rfl Tryz.ntmps150 Tryz.results150 (by simp) ?_
 refine Qc<|Qf ?_
 refine Qc<|Qf ?_
 refine Qg<|Qc<|x (Qa rfl)<|x (Qd hB1 rfl rfl)<|Qb<|xig (g:=Zx) (i:=i) Jg hc.cs.arr rfl rfl hlt fun a10 h10=>?_
 rw[hq] at h10
 refine x (Zd rfl)<|x (Qv (h10.fld 1 q.v rfl) rfl)<|x (Qr hqA rfl)<|Qb<|xe ?_
 refine Qh<|QA (α:=Nat×Nat) [(4,4),(6,6),(14,23)] (fun z=>[(4,.int .u16 z.2),(14,.int .i64 z.1)]) (fun z w'=>z.1≤q.ts.length∧Step [] w w'∧z.2=prB (q.ts.take z.1)) (fun z=>q.ts.length - z.1) (by rfl) (0,0) ⟨rfl,rfl,trivial⟩
  ⟨Nat.zero_le _,Step.refl _ _,rfl⟩ ?_
 rintro ⟨k,b⟩ g w1 ⟨hk,hs1,hb⟩
 simp only[] at hk hb
 have hlb:b<65536:=by rw[hb];exact yf _ (fun l hl=>hm l (List.mem_of_mem_take hl))
 refine Qc<|x (QB rfl rfl)<|xe ?_
 refine Qg<|QD rfl (fun h15=>?_) (fun h15=>?_)
 ·refine Qz ?_
  have hke:q.ts.length≤k:=by have h16:¬(k:Int)<(q.ts.length:Int):=h15;omega
  rw[List.take_of_length_le hke] at hb
  refine Qc<|Qb<|Qf ?_
  exact Ql ⟨[.int .u16 b],⟨rfl,trivial⟩,by rw[hb];rfl,hs1⟩
 have hltL:k<q.ts.length:=by have h16:(k:Int)<(q.ts.length:Int):=h15;omega
 have htk:q.ts.take (k+1)=q.ts.take k++[q.ts[k]'hltL]:=List.take_succ_eq_append_getElem hltL
 have hml:=hm _ (List.getElem_mem hltL)
 refine Qi ?_
 refine Qg<|Qh<|Qc<|xig (g:=Q8) XM (hqA.ext hs1) rfl rfl hltL fun a16 h16=>?_
 refine Zf (q.ts[k]'hltL) fun l hl=>?_
 rw[hl] at h16 htk hml
 have hln:l.1=(l.1.toNat:Int):=by omega
 have hl16:l.1.toNat<16:=by omega
 refine x (QK h16 rfl rfl)<|xl rfl<|Qu (us:=[.int .i64 0,.int .i64 0]) rfl fun b6 w2 hs2 hb6 hB6=>xl rfl<|Qo (us:=Q8 l) hB6 rfl rfl rfl rfl ⟨rfl,rfl,trivial⟩ fun w3 hs3 hB6 =>
  xe ?_
 have hs13:Step [] w1 w3:=hs2.then1 hs3 hb6
 refine Qw<|Qb<|x (Qa rfl)<|x (Qd hB6 rfl rfl)<|x (QbY (n:=l.1.toNat) rfl (congrArg (Value.int .i64) hln) (by show l.1.toNat≤16;omega) (QhL hl16))<|x (QaV (a:=b) (b:=1 <<< l.1.toNat) rfl (congrArg (Value.int .u16) (je _)) hlb (JD hl16))<|Qf ?_
 refine Qw<|x (Qy rfl rfl ⟨by omega,by omega⟩)<|Qb<|xe ?_
 exact ⟨(k+1,orB b l.1.toNat),by simp only[];omega,⟨rfl,rfl,trivial⟩,hltL,hs1.trans hs13,by simp only[];rw[htk,jr,hb]⟩
end Go.Proofs.YtgmifemhkjdblaaGreatDoor
namespace Go.Lg
theorem xcG {P:Program}{f:Fr}{w:World}{K:Fr→World→Prop}{d:Option Nat}{ty:Nat}{ps:String}{af:Array Edge}{gd:Option (Nat×Bool)}{x:Operand}{l:List Operand}{at_:Array Nat}
  {g:Nat} {first capt:LV} (hg:∃fn,Fu P g fn) (hx:ev f x=.func (.func g) first.toArray capt.toArray) (h:QG P g (first++l.map (ev f)++capt) w fun v w'=>K (QU f d v) w') :
  XO P ⟨d,.call ⟨.value x,l.toArray,at_⟩,ty,ps,af,gd⟩ f w K:=by
 obtain ⟨fn,hF⟩:=hg
 exact xc (fn:=fn) hx h
end Go.Lg
namespace Go.Proofs.YtgmifemhkjdblaaGreatDoor
open Go.Lg
def gK (m:Nat):Nat:=if m=0 then 147 else if m=1 then 149 else 150
theorem Qfp (m:Nat):∃fn,Fu Tryz.prog (gK m) fn:=by
 unfold gK
 split
 ·exact ⟨_,inferInstance⟩
 ·split
  ·exact ⟨_,inferInstance⟩
  ·exact ⟨_,inferInstance⟩
abbrev Xa (c:Zy) (m:Nat):LN:=srK c ((m:Int)+1)
theorem Qef (c:Zy):Xa c 0=srR c:=rfl
theorem Qee (c:Zy):Xa c 1=srX c:=rfl
theorem Qed (c:Zy):Xa c 2=srC c:=rfl
structure V0 (c:Zy):Prop where
 c8:c.co.length≤8
 r:c.rq.length≤32
 x:c.ex.length≤32
 k:c.cs.length≤32
 xl:∀e∈c.ex,∀l∈e.ls,0≤l.1∧l.1<16
 kl:∀e∈c.cs,∀l∈e.ts,0≤l.1∧l.1<16
theorem Qgx.sr {c:Zy}(h:Qgx c):V0 c:=by
 have h1:=VR h.cd
 have h2:(szs c.co).length=c.co.length:=List.length_map ..
 have h8:=h.c8
 have hr:=h.cr
 refine ⟨h8,by omega,h1.xl,h1.kl,fun e he l hl=>?_,fun e he l hl=>?_⟩
 ·have:=h1.x e he l hl;omega
 ·have:=(h1.k e he).1 l hl;omega
theorem KR {c:Zy}(h:V0 c) {m:Nat}(hm:m<3):(Xa c m).length≤32:=by
 have h1:=h.r
 have h2:=h.x
 have h3:=h.k
 rcases m with _ | _ | _ | m
 ·rw[Qef];unfold srR;rw[List.length_map];exact h1
 ·rw[Qee];unfold srX;rw[List.length_map];exact h2
 ·rw[Qed];unfold srC;rw[List.length_map];exact h3
 ·omega
theorem Ul {c:Zy}(h:V0 c) {m:Nat}(hm:m<3):∀b∈Xa c m,b<65536:=by
 have h8:=h.c8
 rcases m with _ | _ | _ | m
 ·rw[Qef];unfold srR
  intro b hb
  obtain ⟨x,_,rfl⟩:=List.mem_map.1 hb
  exact Qeo _ _ _ (by decide) (by omega)
 ·rw[Qee];unfold srX
  intro b hb
  obtain ⟨x,hx,rfl⟩:=List.mem_map.1 hb
  exact yf _ (h.xl x hx)
 ·rw[Qed];unfold srC
  intro b hb
  obtain ⟨x,hx,rfl⟩:=List.mem_map.1 hb
  exact yf _ (h.kl x hx)
 ·omega
abbrev yR (b1:Nat) (c:Zy) (m:Nat):LV:=[.int .i64 ((m:Int)+1),.int .i64 (Xa c m).length,.func (.func (gK m)) #[] #[.pointer (some ⟨b1,0,none⟩)]]
theorem Uk (b1:Nat) (c:Zy) (m:Nat):(yR b1 c m).length=3:=rfl
theorem QaP {w:World}{c:CL}{b1 m i:Nat}(hB1:QS w.heap b1 38 c.cells) (hc:ZI [] w.heap c) (hok:V0 c.cel) (hm:m<3) (hi:i<(Xa c.cel m).length) :
  QG Tryz.prog (gK m) [.int .i64 i,.pointer (some ⟨b1,0,none⟩)] w fun r w'=>r=.int .u16 ((Xa c.cel m)[i]'hi:Nat)∧Step [] w w':=by
 rcases m with _ | _ | _ | m
 ·have hl:(Xa c.cel 0).length=c.rq.length:=by rw[Qef];unfold srR;rw[List.length_map];exact List.length_map ..
  have hi':i<c.rq.length:=Nat.lt_of_lt_of_eq hi hl
  have e:(Xa c.cel 0)[i]'hi=rqB (c.rq[i]'hi').it 0 0 c.cel.co:=by
   show (srR c.cel)[i]'_=_
   simp[srR,CL.cel]
  rw[e]
  have h8:c.co.length≤8:=by have:=hok.c8;rw[show c.cel.co.length=c.co.length from List.length_map ..] at this;exact this
  exact QgW hB1 hc h8 (List.getElem?_eq_getElem hi')
 ·have hl:(Xa c.cel 1).length=c.ex.length:=by rw[Qee];unfold srX;rw[List.length_map];exact List.length_map ..
  have hi':i<c.ex.length:=Nat.lt_of_lt_of_eq hi hl
  have e:(Xa c.cel 1)[i]'hi=prB (c.ex[i]'hi').ls:=by
   show (srX c.cel)[i]'_=_
   simp[srX,CL.cel,XV.x]
  rw[e]
  exact QgV hB1 hc (List.getElem?_eq_getElem hi') (fun l hl=>hok.xl (c.ex[i]'hi').x (List.mem_map_of_mem (List.getElem_mem hi')) l hl)
 ·have hl:(Xa c.cel 2).length=c.cs.length:=by rw[Qed];unfold srC;rw[List.length_map];exact List.length_map ..
  have hi':i<c.cs.length:=Nat.lt_of_lt_of_eq hi hl
  have e:(Xa c.cel 2)[i]'hi=prB (c.cs[i]'hi').ts:=by
   show (srC c.cel)[i]'_=_
   simp[srC,CL.cel,KV.k]
  rw[e]
  exact QgU hB1 hc (List.getElem?_eq_getElem hi') (fun l hl=>hok.kl (c.cs[i]'hi').k (List.mem_map_of_mem (List.getElem_mem hi')) l hl)
 ·omega
structure QlL (N:Nat) (w:World) (c:CL) (r:Value) (b1 b:Nat):Prop where
 r:r=.slice (some ⟨b,0,none⟩) 3 3
 n1:N≤b1
 n:N≤b
 B1:QS w.heap b1 38 c.cells
 B:QS w.heap b 195 ([0,1,2].flatMap (yR b1 c.cel))
theorem Kv {L:LN}{w:World}{c:CL}(h0:ZI L w.heap c) :
  QG Tryz.prog 92 [c.val] w fun r w'=>Step [] w w'∧∃b1 b,QlL w.heap.size w' c r b1 b:=by
 have h:=h0.up (L':=[]) (by simp)
 have e0:(Xa c.cel 0).length=c.rq.length:=by rw[Qef];unfold srR;rw[List.length_map];exact List.length_map ..
 have e1:(Xa c.cel 1).length=c.ex.length:=by rw[Qee];unfold srX;rw[List.length_map];exact List.length_map ..
 have e2:(Xa c.cel 2).length=c.cs.length:=by rw[Qed];unfold srC;rw[List.length_map];exact List.length_map ..
 refine QG.of_W Tryz.func92 rfl Tryz.ntmps92 Tryz.results92 (by simp) ?_
 refine Qc<|xl rfl<|QR (us:=c.cells) rfl fun b1 w1 hs1 hb1 hB1=>Qf ?_
 have h1:=h.ext hs1
 refine Qc<|x (Qa rfl)<|x (Qd hB1 rfl rfl)<|x (Qr h1.rq.arr rfl)<|x (Zj (l:=[]) (l':=[_]))<|x (QN ⟨rfl,rfl,rfl,trivial⟩)<|x (Qa rfl) <|
  x (Qd hB1 rfl rfl)<|x (Qr h1.ex.arr rfl)<|x (Zj (l:=[]) (l':=[_]))<|x (QN ⟨rfl,rfl,rfl,trivial⟩)<|x (Qa rfl)<|x (Qd hB1 rfl rfl) <|
  x (Qr h1.cs.arr rfl)<|x (Zj (l:=[]) (l':=[_]))<|x (QN ⟨rfl,rfl,rfl,trivial⟩) <|
  xl rfl<|QI (us:=[[.int .i64 1,.int .i64 c.rq.length,.func (.func 147) #[] #[.pointer (some ⟨b1,0,none⟩)]],[.int .i64 2,.int .i64 c.ex.length,.func (.func 149) #[] #[.pointer (some ⟨b1,0,none⟩)]],[.int .i64 3,.int .i64 c.cs.length,.func (.func 150) #[] #[.pointer (some ⟨b1,0,none⟩)]]]) rfl rfl (by decide) (by simp) ⟨rfl,rfl,rfl,rfl,rfl,rfl,trivial⟩ fun b18 w2 hs2 hb18 hB18 =>
  Qf ?_
 have hz1:=hs1.size
 have hz2:=hs2.size
 refine Ql ⟨[_],⟨rfl,trivial⟩,hs1.trans hs2,b1,b18,rfl,hb1,by omega,hB1.ext hs2,?_⟩
 have e:[0,1,2].flatMap (yR b1 c.cel)=[.int .i64 1,.int .i64 c.rq.length,.func (.func 147) #[] #[.pointer (some ⟨b1,0,none⟩)],.int .i64 2,.int .i64 c.ex.length,.func (.func 149) #[] #[.pointer (some ⟨b1,0,none⟩)],.int .i64 3,.int .i64 c.cs.length,.func (.func 150) #[] #[.pointer (some ⟨b1,0,none⟩)]]:=by
  simp only[List.flatMap_cons,List.flatMap_nil,yR,e0,e1,e2]
  rfl
 rw[e];exact hB18
def srP (c:Zy):Nat→LN
 | 0=>[]
 | m+1=>srP c m++Xa c m
theorem jd (c:Zy):srP c 3=sets c:=by
 simp only[srP,Qef,Qee,Qed,sets,List.nil_append,List.append_assoc]
theorem zW {c:Zy}(h:V0 c):∀m,m≤3→(srP c m).length≤32*m
 | 0,_=>Nat.zero_le _
 | m+1,hm=>by
  have h1:=zW h m (by omega)
  have h2:=KR h (show m<3 by omega)
  rw[srP,List.length_append];omega
abbrev QdZ (l:LN):LV:=l.map fun b=>.int .u16 (b:Nat)
abbrev qp (base:Nat) (w:World) (v:Value) (l:LN):Prop:=w.ownsRow base 197 1 v l.length (QdZ l)
theorem qp.snoc {base:Nat}{w:World}{v:Value}{l:LN}{b:Nat}(h:w.ownsRow base 197 1 v (l.length+1) (QdZ l++[.int .u16 (b:Nat)])):qp base w v (l++[b]):=by
 unfold qp QdZ
 rw[List.length_append,List.map_append];exact h
set_option maxHeartbeats 4000000 in
theorem Qg0 {L:LN}{w:World}{c:CL}(h0:ZI L w.heap c) (hok:V0 c.cel) :
  QG Tryz.prog 95 [c.val] w fun r w'=>Step [] w w'∧qp w.heap.size w' r (sets c.cel):=by
 have h:=h0.up (L':=[]) (by simp)
 refine QG.of_W Tryz.func95 rfl Tryz.ntmps95 Tryz.results95 (by simp) ?_
 refine Qc<|xl rfl<|QR (us:=c.cells) rfl fun b1 w1 hs1 hb1 hB1=>Qf ?_
 refine Qc<|Qf ?_
 refine Qg<|Qc<|x (Qq hB1 rfl rfl)<|xl rfl<|xf<|(Kv (h.ext hs1)).mono ?_
 rintro r2 w2 ⟨hs2,c1,bs,hS⟩
 have hrS:=hS.r
 subst hrS
 have hs02:=hs1.trans hs2
 have hz1:=hs1.size
 have hz2:=hs2.size
 have hlb:=hS.B.lt
 have hlc:=hS.B1.lt
 have hA:∀{w':World},Step [] w2 w'→Zs [] w'.heap (.slice (some ⟨bs,0,none⟩) 3 3) [0,1,2].length 3 ([0,1,2].flatMap (yR c1 c.cel)):=fun hs =>
  (hS.B.ext hs).arr (by simp) (n:=3) (cap:=3) (sz:=3) (by rfl) (by omega) (Nat.le_refl _)
 refine x (Qr (hA (Step.refl _ _)) rfl)<|Qb<|xe ?_
 refine Qh<|QA (α:=Nat×Value) [(3,3),(5,6),(10,27)] (fun z=>[(3,z.2),(10,.int .i64 z.1)]) (fun z w'=>z.1≤3∧Step [] w2 w'∧qp w2.heap.size w' z.2 (srP c.cel z.1)) (fun z=>3 - z.1) (by rfl) (0,nS) ⟨rfl,rfl,trivial⟩
  ⟨Nat.zero_le _,Step.refl _ _,QP _ _ _ _⟩ ?_
 rintro ⟨m,v⟩ g w3 ⟨hm,hs3,ho3⟩
 simp only[] at hm ho3
 have hpl:=zW hok m hm
 refine Qc<|x (QB rfl rfl)<|xe ?_
 refine Qg<|QD rfl (fun h11=>?_) (fun h11=>?_)
 ·refine Qz ?_
  have hme:m=3:=by have h16:¬(m:Int)<(3:Nat):=h11;omega
  rw[hme,jd] at ho3
  refine Qc<|Qb<|Qf ?_
  exact Ql ⟨[v],⟨rfl,trivial⟩,hs02.trans hs3,Zc ho3 hs02.size⟩
 have hm3:m<3:=by have h16:(m:Int)<(3:Nat):=h11;omega
 have hgl:=KR hok hm3
 refine Qi ?_
 have hz3:=hs3.size
 have hge:=Qp ho3
 have hgm:([0,1,2]:LN)[m]'hm3=m:=by rcases m with _ | _ | _ | m <;> first | rfl | omega
 refine Qg<|Qh<|Qc<|xig (g:=yR c1 c.cel) (i:=m) (Uk c1 c.cel) (hA hs3) rfl rfl hm3 fun a12 h12=>?_
 rw[hgm] at h12
 refine x (QK h12 rfl rfl)<|xl rfl<|Qu (us:=[.int .i64 0,.int .i64 0,.nilFunc]) rfl fun b5 w4 hs4 hb5 hB5=>xl rfl<|Qo (us:=yR c1 c.cel m) hB5 rfl rfl rfl rfl ⟨rfl,rfl,rfl,trivial⟩ fun w5 hs5 hB5 =>
  xe ?_
 have hs35:Step [] w3 w5:=hs4.then1 hs5 hb5
 have hz35:=hs35.size
 refine Qc<|x (Qa rfl)<|x (Qd hB5 rfl rfl)<|Qb<|xe ?_
 refine Qh<|QA (α:=Nat×Value) [(3,3),(6,6),(16,26)] (fun z=>[(3,z.2),(16,.int .i64 z.1)]) (fun z w'=>z.1≤(Xa c.cel m).length∧Step (ob v) w5 w'∧qp w2.heap.size w' z.2 (srP c.cel m++(Xa c.cel m).take z.1)∧∀b∈ob z.2,b∈ob v∨w5.heap.size≤b) (fun z=>(Xa c.cel m).length - z.1) (by rfl) (0,v) ⟨rfl,rfl,trivial⟩
  ⟨Nat.zero_le _,Step.refl _ _,by simp only[List.take_zero,List.append_nil];exact Qt ho3 hs35,fun b hb=>.inl hb⟩ ?_
 rintro ⟨i,vi⟩ g w6 ⟨hi,hs6,ho6,hn6⟩
 simp only[] at hi ho6 hn6
 have hz6:=hs6.size
 have hge6:=Qp ho6
 have hs26:Step [] w2 w6:=(hs3.trans hs35).then hs6 (fun b hb=>.inr (hge b hb).1)
 have hb5v:b5∉ob v:=fun hb=>by have:=(hge b5 hb).2;omega
 have hB56:=hB5.step hs6 hb5v
 have h6:=h.ext (hs02.trans hs26)
 have hB16:QS w6.heap c1 38 c.cells:=hS.B1.ext hs26
 refine Qc<|x (QB rfl rfl)<|xe ?_
 refine Qg<|QD rfl (fun h17=>?_) (fun h17=>?_)
 ·refine Qz ?_
  have hie:(Xa c.cel m).length≤i:=by have h16:¬(i:Int)<((Xa c.cel m).length:Int):=h17;omega
  rw[List.take_of_length_le hie] at ho6
  refine Qw<|x (Qy rfl rfl ⟨by omega,by omega⟩)<|Qb<|xe ?_
  exact ⟨(m+1,vi),by simp only[];omega,⟨rfl,rfl,trivial⟩,hm3,hs26,ho6⟩
 have hlt:i<(Xa c.cel m).length:=by have h16:(i:Int)<((Xa c.cel m).length:Int):=h17;omega
 have htk:(Xa c.cel m).take (i+1)=(Xa c.cel m).take i++[(Xa c.cel m)[i]'hlt]:=List.take_succ_eq_append_getElem hlt
 have hln:(srP c.cel m++(Xa c.cel m).take i).length≤200:=by rw[List.length_append,List.length_take];omega
 refine Qi ?_
 refine Qg<|Qh<|Qc<|Qb<|Qf ?_
 refine Qw<|Qb<|x (Qa rfl)<|x (Qd hB56 rfl rfl)<|Qb<|xl rfl<|xcG (first:=[]) (capt:=[.pointer (some ⟨c1,0,none⟩)]) (Qfp m) rfl<|(QaP hB16 h6 hok hm3 hlt).mono ?_
 rintro r7 w7 ⟨rfl,hs7⟩
 refine Zf ((Xa c.cel m)[i]'hlt) fun bv hbv=>?_
 rw[hbv] at htk ⊢
 refine xl rfl<|QI (us:=[[.int .u16 (bv:Nat)]]) rfl rfl (by decide) (by simp) ⟨rfl,rfl,trivial⟩ fun b24 w8 hs8 hb24 hB24=>?_
 have hs68:=hs7.trans hs8
 have hz68:=hs68.size
 refine xl rfl<|Q2 (news:=[.int .u16 (bv:Nat)]) (L:=[]) (Qt ho6 hs68) rfl rfl rfl (hB24.at (by simp)) (by simp[Value.oneCell']) (by omega) (by omega) fun v9 w9 ho9 hs9 hn9 =>
  Qf ?_
 refine Qw<|x (Qy rfl rfl ⟨by omega,by omega⟩)<|Qb<|xe ?_
 refine ⟨(i+1,v9),by simp only[];omega,⟨rfl,rfl,trivial⟩,hlt,(hs6.trans hs68).then hs9 hn6,?_,fun b hb=>?_⟩
 ·simp only[]
  rw[htk,←List.append_assoc]
  exact qp.snoc ho9
 ·rcases hn9 b hb with h9 | h9
  ·exact hn6 b h9
  ·exact .inr (by omega)
structure MV where
 kd:Int
 ix:Int
 v:Value
 co:LI
def MV.m (q:MV):Mdl:=⟨q.kd,q.ix,q.co⟩
abbrev Yr (q:MV):LV:=[.int .i64 q.kd,.int .i64 q.ix,q.v]
theorem Qjd (q:MV):(Yr q).length=3:=rfl
abbrev mvP (q:MV):Value×Nat×Nat×LV:=(q.v,q.co.length,1,q.co.map (.int .i64))
abbrev MvN (base:Nat) (w:World) (v:Value) (l:List MV):Prop:=ZX Yr 3 120 mvP base w v l
theorem Qhm {q:MV}(h:q.v.oneCell'=true):∀u∈Yr q,u.oneCell'=true:=by
 intro u hu
 simp only[Yr,List.mem_cons,List.not_mem_nil,or_false] at hu
 rcases hu with rfl | rfl | rfl
 ·rfl
 ·rfl
 ·exact h
theorem KY (k:Int):∀(l:LN) (i:Nat),(UB k i l).length=l.length
 | [],_=>rfl
 | _::l,i=>by rw[UB,List.length_cons,KY k l,List.length_cons]
theorem zd (k:Int):∀(l:LN) (i j:Nat) (h:j<l.length),(UB k i l).take (j+1)=(UB k i l).take j++[⟨k,((i+j:Nat):Int),setK (l[j]'h) 8⟩]
 | [],_,j,h=>absurd h (Nat.not_lt_zero _)
 | b::l,i,0,h=>by rw[UB];rfl
 | b::l,i,j+1,h=>by
  rw[UB,List.take_succ_cons,List.take_succ_cons,zd k l (i+1) j (by simpa using h),List.cons_append]
  have e:((i+1+j:Nat):Int)=((i+(j+1):Nat):Int):=by omega
  rw[e];rfl
abbrev mdG (c:Zy) (m:Nat):List Mdl:=UB ((m:Int)+1) 0 (Xa c m)
def mdP (c:Zy):Nat→List Mdl
 | 0=>[]
 | m+1=>mdP c m++mdG c m
theorem jB (c:Zy):mdP c 3=mods c:=by
 simp only[mdP,mods,List.nil_append,List.append_assoc]
 rfl
theorem yj {c:Zy}(h:V0 c):∀m,m≤3→(mdP c m).length≤32*m
 | 0,_=>Nat.zero_le _
 | m+1,hm=>by
  have h1:=yj h m (by omega)
  have h2:=KR h (show m<3 by omega)
  rw[mdP,List.length_append,KY];omega
set_option maxHeartbeats 4000000 in
theorem QbD {L:LN}{w:World}{c:CL}(h0:ZI L w.heap c) :
  QG Tryz.prog 41 [c.val] w fun r w'=>Step [] w w'∧∃v l,r=.tuple #[v,.int .i64 (Zg c.cel)]∧MvN w.heap.size w' v l∧(Zg c.cel≠0→v=nS∧l=[])∧(Zg c.cel=0→l.map MV.m=mods c.cel):=by
 have h:=h0.up (L':=[]) (by simp)
 refine Zf (Zg c.cel) fun E hE=>?_
 rw[hE]
 refine QG.of_W Tryz.func41 rfl Tryz.ntmps41 Tryz.results41 (by simp) ?_
 refine Qc<|xl rfl<|QR (us:=c.cells) rfl fun b1 w1 hs1 hb1 hB1=>x Qe<|Qf ?_
 refine Qg<|Qc<|x (Qq hB1 rfl rfl)<|xl rfl<|xf<|(YV (h.ext hs1)).mono ?_
 rintro rc wc ⟨hrc,hsc⟩
 rw[hE] at hrc
 subst hrc
 have hB1c:=hB1.ext hsc
 have hs0c:=hs1.trans hsc
 refine Qf ?_
 refine Qc<|Qb<|x (Q6 rfl rfl)<|xe ?_
 refine Q3 rfl (fun h12=>?_) (fun h12=>?_)
 ·refine Qc<|Qb<|x Qe<|Qf ?_
  exact Ql ⟨[nS,.int .i64 E],⟨rfl,rfl,trivial⟩,hs0c,nS,[],rfl,ZX.nil,fun _=>⟨rfl,rfl⟩,fun h0=>absurd h0 h12⟩
 have hE0:E=0:=Decidable.not_not.1 h12
 have hok:V0 c.cel:=(Yc (hE.trans hE0)).sr
 refine Qi ?_
 refine Qc<|Qf ?_
 refine Qg<|Qc<|x (Qq hB1c rfl rfl)<|xl rfl<|xf<|(Kv (h.ext hs0c)).mono ?_
 rintro r2 w2 ⟨hs2,c1,bs,hS⟩
 have hrS:=hS.r
 subst hrS
 have hs02:=hs0c.trans hs2
 have hz1:=hs0c.size
 have hz2:=hs2.size
 have hlb:=hS.B.lt
 have hlc:=hS.B1.lt
 have hA:∀{w':World},Step [] w2 w'→Zs [] w'.heap (.slice (some ⟨bs,0,none⟩) 3 3) [0,1,2].length 3 ([0,1,2].flatMap (yR c1 c.cel)):=fun hs =>
  (hS.B.ext hs).arr (by simp) (n:=3) (cap:=3) (sz:=3) (by rfl) (by omega) (Nat.le_refl _)
 refine x (Qr (hA (Step.refl _ _)) rfl)<|Qb<|xe ?_
 refine Qh<|QA (α:=Nat×Value×List MV) [(5,5),(7,8),(17,39)] (fun z=>[(5,z.2.1),(17,.int .i64 z.1)]) (fun z w'=>z.1≤3∧Step [] w2 w'∧MvN w2.heap.size w' z.2.1 z.2.2∧z.2.2.map MV.m=mdP c.cel z.1) (fun z=>3 - z.1) (by rfl) (0,nS,[]) ⟨rfl,rfl,trivial⟩
  ⟨Nat.zero_le _,Step.refl _ _,ZX.nil,rfl⟩ ?_
 rintro ⟨m,v,l⟩ g w3 ⟨hm,hs3,ho3,hl3⟩
 simp only[] at hm ho3 hl3
 have hpl:=yj hok m hm
 have hll:l.length=(mdP c.cel m).length:=by rw[←hl3,List.length_map]
 refine Qc<|x (QB rfl rfl)<|xe ?_
 refine Qg<|QD rfl (fun h11=>?_) (fun h11=>?_)
 ·refine Qz ?_
  have hme:m=3:=by have h16:¬(m:Int)<(3:Nat):=h11;omega
  rw[hme,jB] at hl3
  refine Qc<|Qb<|x Qe<|Qf ?_
  have hz02:=hs02.size
  exact Ql ⟨[v,.int .i64 0],⟨rfl,rfl,trivial⟩,hs02.trans hs3,v,l,by rw[hE0];rfl,⟨Zc ho3.own hz02,fun q hq L hL=>ho3.each q hq L (fun b hb=>(hL b hb).imp (fun h=>by omega) id)⟩,fun h0=>absurd hE0 h0,fun _=>hl3⟩
 have hm3:m<3:=by have h16:(m:Int)<(3:Nat):=h11;omega
 have hgl:=KR hok hm3
 refine Qi ?_
 have hz3:=hs3.size
 have hge:=Qp ho3.own
 have hgm:([0,1,2]:LN)[m]'hm3=m:=by rcases m with _ | _ | _ | m <;> first | rfl | omega
 refine Qg<|Qh<|Qc<|xig (g:=yR c1 c.cel) (i:=m) (Uk c1 c.cel) (hA hs3) rfl rfl hm3 fun a12 h12=>?_
 rw[hgm] at h12
 refine x (QK h12 rfl rfl)<|xl rfl<|Qu (us:=[.int .i64 0,.int .i64 0,.nilFunc]) rfl fun b7 w4 hs4 hb7 hB7=>xl rfl<|Qo (us:=yR c1 c.cel m) hB7 rfl rfl rfl rfl ⟨rfl,rfl,rfl,trivial⟩ fun w5 hs5 hB7 =>
  xe ?_
 have hs35:Step [] w3 w5:=hs4.then1 hs5 hb7
 have hz35:=hs35.size
 refine Qc<|x (Qa rfl)<|x (Qd hB7 rfl rfl)<|Qb<|xe ?_
 refine Qh<|QA (α:=Nat×Value×List MV) [(5,5),(8,8),(23,38)] (fun z=>[(5,z.2.1),(23,.int .i64 z.1)]) (fun z w'=>z.1≤(Xa c.cel m).length∧Step (ob v) w5 w'∧MvN w2.heap.size w' z.2.1 z.2.2∧z.2.2.map MV.m=mdP c.cel m++(mdG c.cel m).take z.1∧∀b∈ob z.2.1,b∈ob v∨w5.heap.size≤b) (fun z=>(Xa c.cel m).length - z.1) (by rfl) (0,v,l) ⟨rfl,rfl,trivial⟩
  ⟨Nat.zero_le _,Step.refl _ _,ho3.ext hs35,by simp only[List.take_zero,List.append_nil];exact hl3,fun b hb=>.inl hb⟩ ?_
 rintro ⟨i,vi,li⟩ g w6 ⟨hi,hs6,ho6,hl6,hn6⟩
 simp only[] at hi ho6 hl6 hn6
 have hz6:=hs6.size
 have hge6:=Qp ho6.own
 have hs26:Step [] w2 w6:=(hs3.trans hs35).then hs6 (fun b hb=>.inr (hge b hb).1)
 have hb7v:b7∉ob v:=fun hb=>by have:=(hge b7 hb).2;omega
 have hB76:=hB7.step hs6 hb7v
 have h6:=h.ext (hs02.trans hs26)
 have hB16:QS w6.heap c1 38 c.cells:=hS.B1.ext hs26
 have hlil:li.length≤200:=by
  have e1:=congrArg List.length hl6
  rw[List.length_map,List.length_append,List.length_take] at e1
  have e2:(mdG c.cel m).length=(Xa c.cel m).length:=KY _ _ _
  omega
 refine Qc<|x (QB rfl rfl)<|xe ?_
 refine Qg<|QD rfl (fun h17=>?_) (fun h17=>?_)
 ·refine Qz ?_
  have hie:(Xa c.cel m).length≤i:=by have h16:¬(i:Int)<((Xa c.cel m).length:Int):=h17;omega
  rw[List.take_of_length_le (by rw[KY];exact hie)] at hl6
  refine Qw<|x (Qy rfl rfl ⟨by omega,by omega⟩)<|Qb<|xe ?_
  exact ⟨(m+1,vi,li),by simp only[];omega,⟨rfl,rfl,trivial⟩,hm3,hs26,ho6,hl6⟩
 have hlt:i<(Xa c.cel m).length:=by have h16:(i:Int)<((Xa c.cel m).length:Int):=h17;omega
 have htk:(mdG c.cel m).take (i+1)=(mdG c.cel m).take i++[⟨(m:Int)+1,((0+i:Nat):Int),setK ((Xa c.cel m)[i]'hlt) 8⟩]:=zd _ _ _ _ hlt
 rw[Nat.zero_add] at htk
 have hbl:=Ul hok hm3 _ (List.getElem_mem hlt)
 refine Qi ?_
 refine Qg<|Qh<|Qc<|Qb<|Qf ?_
 have hb7i:b7∉ob vi:=fun hb=>by
  rcases hn6 b7 hb with h9 | h9
  ·exact hb7v h9
  ·have:=hB7.lt;omega
 have hd6:Step [] w6 { w6 with drawn:=w6.drawn+1 }:=Step.drew _ _
 have hzd:({ w6 with drawn:=w6.drawn+1 }:World).heap.size=w6.heap.size:=rfl
 refine QT (Step (ob vi) w6) [(0,true),(1,true),(2,true),(3,true),(4,true),(5,true),(6,true),(7,false),(8,false),(9,true),(10,false),(11,false),(12,true)] Tryz.mixed (by rfl) (by kernel_rfl) (Step.drew _ _) ?_
 refine p (fun _=>Qm)<|p (fun _=>Qa rfl)<|pq (fun _ hc=>Qd (hB76.step hc hb7i) rfl rfl)<|p (fun _=>Qm)<|p (fun _=>Qa rfl) <|
  pq (fun _ hc=>Qd (hB76.step hc hb7i) rfl rfl)<|p (fun _=>Qm)<|pk<|xcG (first:=[]) (capt:=[.pointer (some ⟨c1,0,none⟩)]) (Qfp m) rfl<|(QaP (hB16.ext hd6) (h6.ext hd6) hok hm3 hlt).mono ?_
 rintro r8 w8 ⟨rfl,hs8⟩
 refine Zf ((Xa c.cel m)[i]'hlt) fun bv hbv=>?_
 rw[hbv] at htk hbl ⊢
 have hs68:=hd6.trans hs8
 refine ⟨hs68.any,?_⟩
 refine pk<|xf<|(yn bv hbl w8).mono ?_
 rintro r9 w9 ⟨hs9,ho9⟩
 have hs69:=hs68.trans hs9
 have hz68:=hs68.size
 have hz69:=hs69.size
 refine ⟨hs69.any,?_⟩
 refine p (fun _=>QN ⟨rfl,rfl,Zk ho9,trivial⟩)<|pk<|QI (us:=[Yr ⟨(m:Int)+1,i,r9,setK bv 8⟩]) rfl rfl (by decide) (by simp) ⟨rfl,rfl,trivial⟩ fun b36 w10 hs10 hb36 hB36=>⟨(hs69.trans hs10).any,?_⟩
 have hs610:=hs69.trans hs10
 have hz610:=hs610.size
 have hz10:=hs10.size
 refine pk<|Q2 (news:=Yr ⟨(m:Int)+1,i,r9,setK bv 8⟩) (L:=[]) (Qt ho6.own hs610) rfl rfl rfl (hB36.at (by simp)) (Qhm (q:=⟨(m:Int)+1,i,r9,setK bv 8⟩) (QO ho9)) (by omega) (by omega) fun v11 w11 ho11 hs11 hn11=>⟨hs610.any.trans' hs11,?_⟩
 refine p (fun _=>Qe)<|pe ?_
 have hkl:=Xm bv 8
 have ho11':MvN w2.heap.size w11 v11 (li++[⟨(m:Int)+1,i,r9,setK bv 8⟩]):=ZX.app2 (N:=w8.heap.size) (ho6.ext hs610) (Qt ho9 hs10) (by show (setK bv 8).length≤_;omega) (by have:=hs26.size;omega) (fun b hb=>by have:=hge6 b hb;omega) ho11 hs11 hn11
 refine Qw<|x (Qy rfl rfl ⟨by omega,by omega⟩)<|Qb<|xe ?_
 refine ⟨(i+1,v11,li++[⟨(m:Int)+1,i,r9,setK bv 8⟩]),by simp only[];omega,⟨rfl,rfl,trivial⟩,hlt,(hs6.trans hs610).then hs11 hn6,ho11',?_,fun b hb=>?_⟩
 ·simp only[]
  rw[htk,List.map_append,hl6,List.append_assoc];rfl
 ·rcases hn11 b hb with h9 | h9
  ·exact hn6 b h9
  ·exact .inr (by omega)
theorem Qlv {n:Nat}(h:n≤8):2 ^ n≤256:=Nat.pow_le_pow_right (by decide) h
set_option maxHeartbeats 4000000 in
theorem yJ {L:LN}{w:World}{c:CL}(h0:ZI L w.heap c) :
  QG Tryz.prog 43 [c.val] w fun r w'=>Step [] w w'∧∃v,r=.tuple #[v,.int .i64 (Zg c.cel)]∧(Zg c.cel≠0→v=nS)∧(Zg c.cel=0→Qs 3 w.heap.size w' v (rem c.cel)):=by
 have h:=h0.up (L':=[]) (by simp)
 refine Zf (Zg c.cel) fun E hE=>?_
 rw[hE]
 refine QG.of_W Tryz.func43 rfl Tryz.ntmps43 Tryz.results43 (by simp) ?_
 refine Qc<|xl rfl<|QR (us:=c.cells) rfl fun b1 w1 hs1 hb1 hB1=>x Qe<|Qf ?_
 refine Qg<|Qc<|x (Qq hB1 rfl rfl)<|xl rfl<|xf<|(YV (h.ext hs1)).mono ?_
 rintro rc wc ⟨hrc,hsc⟩
 rw[hE] at hrc
 subst hrc
 have hB1c:=hB1.ext hsc
 have hs0c:=hs1.trans hsc
 refine Qf ?_
 refine Qc<|Qb<|x (Q6 rfl rfl)<|xe ?_
 refine Q3 rfl (fun h12=>?_) (fun h12=>?_)
 ·refine Qc<|Qb<|x Qe<|Qf ?_
  exact Ql ⟨[nS,.int .i64 E],⟨rfl,rfl,trivial⟩,hs0c,nS,rfl,fun _=>rfl,fun h0=>absurd h0 h12⟩
 have hE0:E=0:=Decidable.not_not.1 h12
 have hok:V0 c.cel:=(Yc (hE.trans hE0)).sr
 have hcc:c.cel.co.length=c.co.length:=List.length_map ..
 have h8:c.co.length≤8:=by have:=hok.c8;omega
 have hp8:=Qlv h8
 have hp1:0<2 ^ c.co.length:=Nat.pow_pos (by decide)
 have he:(1:Int)*(2:Int) ^ c.co.length - 1=((2 ^ c.co.length - 1:Nat):Int):=by
  rw[je,Nat.shiftLeft_eq,Nat.one_mul];omega
 have hin:inK .u16 ((1:Int)*(2:Int) ^ c.co.length - 1):=by rw[he];exact ⟨by omega,by omega⟩
 have hb0:2 ^ c.co.length - 1<65536:=by omega
 have hsl:=zW hok 3 (by omega)
 rw[jd] at hsl
 have hrb:QaR c.cel=(sets c.cel).foldl (fun l b=>l &&& (65535 ^^^ b)) (2 ^ c.co.length - 1):=by unfold QaR;rw[hcc]
 have hbl:∀b∈sets c.cel,b<65536:=by
  intro b hb
  unfold sets at hb
  rcases List.mem_append.1 hb with hb | hb
  ·exact Ul hok (m:=0) (by omega) b hb
  ·rcases List.mem_append.1 hb with hb | hb
   ·exact Ul hok (m:=1) (by omega) b hb
   ·exact Ul hok (m:=2) (by omega) b hb
 refine Zf (2 ^ c.co.length - 1) fun b0 hb0'=>?_
 rw[hb0'] at he hrb hb0
 have hc':=h.ext hs0c
 refine Qi ?_
 refine Qc<|x (Qa rfl)<|x (Qd hB1c rfl rfl)<|x (Qr hc'.co.arr rfl)<|x (QbY (n:=c.co.length) rfl rfl (by show c.co.length≤16;omega) (QhL (by omega)))<|x (XY rfl rfl hin)<|Qf ?_
 refine Qg<|Qc<|x (Qq hB1c rfl rfl)<|xl rfl<|xf<|(Qg0 hc' hok).mono ?_
 rintro r2 w2 ⟨hs2,ho2⟩
 have hA:Zs [] w2.heap r2 (sets c.cel).length 1 (QdZ (sets c.cel)):=QX ho2 (by omega) (by simp)
 have hA':Zs [] w2.heap r2 (sets c.cel).length 1 ((sets c.cel).flatMap fun b=>[.int .u16 (b:Nat)]):=by
  have e:(sets c.cel).flatMap (fun b=>[Value.int .u16 (b:Nat)])=QdZ (sets c.cel):=by
   generalize sets c.cel=l
   induction l with
   | nil=>rfl
   | cons a l ih=>rw[List.flatMap_cons,ih];rfl
  rw[e];exact hA
 refine x (Qr hA rfl)<|Qb<|xe ?_
 refine Qh<|QA (α:=Nat×Nat) [(5,5),(7,7),(21,28)] (fun z=>[(5,.int .u16 z.2),(21,.int .i64 z.1)]) (fun z w'=>z.1≤(sets c.cel).length∧Step [] w2 w'∧z.2<65536∧((sets c.cel).drop z.1).foldl (fun l b=>l &&& (65535 ^^^ b)) z.2=QaR c.cel) (fun z=>(sets c.cel).length - z.1) (by rfl) (0,b0) ⟨congrArg (Value.int .u16) he,rfl,trivial⟩
  ⟨Nat.zero_le _,Step.refl _ _,hb0,hrb.symm⟩ ?_
 rintro ⟨k,b⟩ g w3 ⟨hk,hs3,hb,hr⟩
 simp only[] at hk hb hr
 have hs03:=(hs0c.trans hs2).trans hs3
 refine Qc<|x (QB rfl rfl)<|xe ?_
 refine Qg<|QD rfl (fun h11=>?_) (fun h11=>?_)
 ·refine Qz ?_
  have hke:(sets c.cel).length≤k:=by have h16:¬(k:Int)<((sets c.cel).length:Int):=h11;omega
  rw[List.drop_of_length_le hke] at hr
  have hr':b=QaR c.cel:=hr
  refine Qc<|Qb<|xl rfl<|xf<|(yn b hb w3).mono ?_
  rintro r4 w4 ⟨hs4,ho4⟩
  refine x Qe<|Qf ?_
  rw[hr'] at ho4
  exact Ql ⟨[r4,.int .i64 0],⟨rfl,rfl,trivial⟩,hs03.trans hs4,r4,by rw[hE0];rfl,fun h0=>absurd hE0 h0,fun _=>Zc ho4 hs03.size⟩
 have hlt:k<(sets c.cel).length:=by have h16:(k:Int)<((sets c.cel).length:Int):=h11;omega
 have hbk:=hbl _ (List.getElem_mem hlt)
 rw[List.drop_eq_getElem_cons hlt,List.foldl_cons] at hr
 refine Qi ?_
 refine Qg<|Qh<|Qc<|xig (g:=fun b:Nat=>[.int .u16 (b:Nat)]) (i:=k) (fun _=>rfl) (hA'.ext hs3) rfl rfl hlt fun a23 h23=>?_
 refine Zf ((sets c.cel)[k]'hlt) fun y hy=>?_
 rw[hy] at h23 hbk hr
 refine x (Qv h23 rfl)<|Qf ?_
 refine Qw<|Qb<|Qb<|x (QaZ (a:=b) (b:=y) rfl rfl hb hbk)<|Qf ?_
 refine Qw<|x (Qy rfl rfl ⟨by omega,by omega⟩)<|Qb<|xe ?_
 exact ⟨(k+1,b &&& (65535 ^^^ y)),by simp only[];omega,⟨rfl,rfl,trivial⟩,hlt,hs3,Nat.lt_of_le_of_lt Nat.and_le_left hb,hr⟩
theorem QhG {L:LN}{w:World}{v:Value}{b1:Nat}{c:Zy}{es:LN}{g:Nat}{fn:Func}[Fu Tryz.prog g fn] {cap:LV}{q:Nat→Bool}(h:Zs L w.heap v es.length 3 (es.flatMap (yR b1 c)))
  (hk:∀(m:Nat) (w1:World),Step [] w w1→QG Tryz.prog g ([.agg (yR b1 c m).toArray]++cap) w1 fun r w'=>r=.bool (q m)∧Step [] w1 w') :
  QG Tryz.prog 189 [v,.func (.func g) #[] cap.toArray] w fun r w'=>Step [] w w'∧∃i:Int,r=.int .i64 i∧((i=-1∧∀m∈es,q m=false)∨∃k:Nat,∃m,es[k]?=some m∧i=(k:Int)∧q m=true):=by
 have hle:=h.le
 refine QG.of_W Tryz.func189 rfl Tryz.ntmps189 Tryz.results189 (by simp) ?_
 refine Qc<|Qf ?_
 refine Qg<|Qc<|Qb<|x (Qr h rfl)<|Qb<|xe ?_
 refine Qh<|QA (α:=Nat) [(4,5),(8,18)] (fun z=>[(8,.int .i64 z)]) (fun z w'=>z≤es.length∧Step [] w w'∧∀m∈es.take z,q m=false) (fun z=>es.length - z) (by rfl) 0 ⟨rfl,trivial⟩ ⟨Nat.zero_le _,Step.refl _ _,fun m hm=>by simp at hm⟩ ?_
 rintro k g' w1 ⟨hk',hs1,hq1⟩
 refine Qc<|x (QB rfl rfl)<|xe ?_
 refine Qg<|QD rfl (fun h9=>?_) (fun h9=>?_)
 ·refine Qz ?_
  have hke:es.length≤k:=by have h16:¬(k:Int)<(es.length:Int):=h9;omega
  rw[List.take_of_length_le hke] at hq1
  refine Qc<|Qf ?_
  exact Ql ⟨[.int .i64 (-1)],⟨rfl,trivial⟩,hs1,-1,rfl,.inl ⟨rfl,hq1⟩⟩
 have hlt:k<es.length:=by have h16:(k:Int)<(es.length:Int):=h9;omega
 have htk:es.take (k+1)=es.take k++[es[k]'hlt]:=List.take_succ_eq_append_getElem hlt
 have hget:es[k]?=some (es[k]'hlt):=List.getElem?_eq_getElem hlt
 refine Qi ?_
 refine Qg<|Qh<|Qc<|Qb<|Qf ?_
 refine Qc<|Qb<|Qb<|Qb<|xig (g:=yR b1 c) (i:=k) (Uk b1 c) (h.ext hs1) rfl rfl hlt fun a14 h14=>?_
 refine Zf (es[k]'hlt) fun m hm=>?_
 rw[hm] at h14 htk hget
 refine x (QK h14 rfl rfl)<|xl rfl<|xc (first:=[]) (capt:=cap) rfl<|(hk m w1 hs1).mono ?_
 rintro r2 w2 ⟨rfl,hs2⟩
 refine xe ?_
 refine QW rfl (fun h16=>?_) (fun h16=>?_)
 ·refine Qc<|Qb<|Qf ?_
  exact Ql ⟨[.int .i64 k],⟨rfl,trivial⟩,hs1.trans hs2,k,rfl,.inr ⟨k,m,hget,rfl,h16⟩⟩
 refine Qi ?_
 refine Qw<|x (Qy rfl rfl ⟨by omega,by omega⟩)<|Qb<|xe ?_
 refine ⟨k+1,by omega,⟨rfl,trivial⟩,hlt,hs1.trans hs2,fun m' hm'=>?_⟩
 rw[htk] at hm'
 rcases List.mem_append.1 hm' with h1 | h1
 ·exact hq1 m' h1
 ·simp only[List.mem_singleton] at h1;subst h1;exact h16
theorem Qie {w:World}{b1 b3 m:Nat}{c:Zy}{q:MV}(hB:QS w.heap b3 120 (Yr q)) :
  QG Tryz.prog 190 [.agg (yR b1 c m).toArray,.pointer (some ⟨b3,0,none⟩)] w fun r w'=>r=.bool (decide ((m:Int)+1=q.kd))∧Step [] w w':=by
 refine QG.of_W Tryz.func190 rfl Tryz.ntmps190 Tryz.results190 (by simp) ?_
 refine Qc<|xl rfl<|QR (us:=yR b1 c m) rfl fun b2 w1 hs1 hb2 hB2=>Qf ?_
 refine Qc<|x (Qa rfl)<|x (Qd hB2 rfl rfl)<|x (Qa rfl)<|x (Qd (hB.ext hs1) rfl rfl)<|x (Zm rfl rfl)<|Qf ?_
 exact Ql ⟨[_],⟨rfl,trivial⟩,rfl,hs1⟩
set_option maxHeartbeats 4000000 in
theorem Qdh {L:LN}{w:World}{c:CL}{q:MV}(h0:ZI L w.heap c) (hm0:QL L w.heap q.v q.co) :
  QG Tryz.prog 151 [c.val,.agg #[.int .i64 q.kd,.int .i64 q.ix,q.v]] w fun r w'=>r=.int .i64 (mdE c.cel q.m)∧Step [] w w':=by
 have h:=h0.up (L':=[]) (by simp)
 have hm:=hm0.up (L':=[]) (by simp)
 have hr:mdE c.cel q.m=if Zg c.cel≠0 then Zg c.cel else if q.kd<1∨3<q.kd then 11 else if q.ix<0∨((srK c.cel q.kd).length:Int)≤q.ix then 10 else if q.co=setK ((srK c.cel q.kd).getD q.ix.toNat 0) 8 then 0 else 13:=rfl
 refine Zf (mdE c.cel q.m) fun E hE=>?_
 rw[hE] at hr ⊢
 refine QG.of_W Tryz.func151 rfl Tryz.ntmps151 Tryz.results151 (by simp) ?_
 refine Qc<|xl rfl<|QR (us:=c.cells) rfl fun b2 w1 hs1 hb2 hB2=>xl rfl<|QR (us:=Yr q) rfl fun b3 w2 hs2 hb3 hB3=>Qf ?_
 have hs02:=hs1.trans hs2
 refine Qg<|Qc<|x (Qq (hB2.ext hs2) rfl rfl)<|xl rfl<|xf<|(YV (h.ext hs02)).mono ?_
 rintro r3 w3 ⟨rfl,hs3⟩
 refine Qf ?_
 have hs03:=hs02.trans hs3
 have hB23:=(hB2.ext hs2).ext hs3
 have hB33:=hB3.ext hs3
 refine Qc<|Qb<|x (Q6 rfl rfl)<|xe ?_
 refine Q3 rfl (fun h11=>?_) (fun h11=>?_)
 ·rw[if_pos h11] at hr
  subst hr
  refine Qc<|Qb<|Qf ?_
  exact Ql ⟨[_],⟨rfl,trivial⟩,rfl,hs03⟩
 rw[if_neg h11] at hr
 have hok:V0 c.cel:=(Yc (Decidable.not_not.1 h11)).sr
 refine Qi ?_
 refine Qc<|x (Qq hB23 rfl rfl)<|xl rfl<|xf<|(Kv (h.ext hs03)).mono ?_
 rintro r4 w4 ⟨hs4,c1,bs,hS⟩
 have hrS:=hS.r
 subst hrS
 refine Qf ?_
 have hs04:=hs03.trans hs4
 have hB34:=hB33.ext hs4
 have hA:Zs [] w4.heap (.slice (some ⟨bs,0,none⟩) 3 3) [0,1,2].length 3 ([0,1,2].flatMap (yR c1 c.cel)):=hS.B.arr (by simp) (n:=3) (cap:=3) (sz:=3) (by rfl) (by omega) (Nat.le_refl _)
 refine Qc<|Qb<|x (Zj (l:=[]) (l':=[_]))<|xl rfl<|xf<|(QhG (q:=fun m=>decide ((m:Int)+1=q.kd)) (cap:=[.pointer (some ⟨b3,0,none⟩)]) hA (fun m w5 hs5=>Qie (hB34.ext hs5))).mono ?_
 rintro r5 w5 ⟨hs5,i,rfl,hi⟩
 refine Qf ?_
 have hs05:=hs04.trans hs5
 have hB35:=hB34.ext hs5
 have hA5:=hA.ext hs5
 have hB15:QS w5.heap c1 38 c.cells:=hS.B1.ext hs5
 refine Qg<|Qh<|Qc<|Qb<|x (QB rfl rfl)<|Qf ?_
 refine Q3 rfl (fun h18=>?_) (fun h18=>?_)
 ·have hkd:q.kd<1∨3<q.kd:=by
   rcases hi with ⟨_,hi⟩ | ⟨k,m,_,hi,_⟩
   ·have e0:=of_decide_eq_false (hi 0 (by simp))
    have e1:=of_decide_eq_false (hi 1 (by simp))
    have e2:=of_decide_eq_false (hi 2 (by simp))
    omega
   ·have h19:i<0:=h18
    omega
  rw[if_pos hkd] at hr
  subst hr
  refine Qc<|Qf ?_
  exact Ql ⟨[_],⟨rfl,trivial⟩,rfl,hs05⟩
 obtain ⟨m,hm3,him,hkd⟩:∃m:Nat,m<3∧i=(m:Int)∧q.kd=(m:Int)+1:=by
  rcases hi with ⟨hi,_⟩ | ⟨k,m,hk,hi,hq⟩
  ·exact absurd (by rw[hi];decide:i<0) h18
  ·have hq':=of_decide_eq_true hq
   obtain ⟨hk3,hk⟩:=List.getElem?_eq_some_iff.1 hk
   have hk3':k<3:=hk3
   have hmk:m=k:=by rcases k with _ | _ | _ | k <;> first | exact hk.symm | omega
   exact ⟨k,hk3',hi,by omega⟩
 subst him
 rw[if_neg (by omega),show srK c.cel q.kd=Xa c.cel m by rw[hkd]] at hr
 have hgl:=KR hok hm3
 have hgm:([0,1,2]:LN)[m]'hm3=m:=by rcases m with _ | _ | _ | m <;> first | rfl | omega
 refine QV (α:=Bool) [(21,34)] (fun z=>[(21,.bool z)]) (fun z w'=>Step [] w5 w'∧z=decide (q.ix<0∨((Xa c.cel m).length:Int)≤q.ix)) (by rfl) ?_ ?_
 ·refine QT (Step [] w5) [(0,true),(1,true),(2,true),(3,true),(4,true),(5,true),(6,true),(7,true),(8,true),(9,true),(10,true),(11,true),(12,true),(13,true)] Tryz.mixed (by rfl) (by kernel_rfl) (Step.drew _ _) ?_
  refine p (fun _=>Qa rfl)<|pq (fun _ hc=>Qd (hB35.ext hc) rfl rfl)<|pb (fun _=>QB rfl rfl) (fun h24=>?_) (fun h24=>?_)
  ·refine p (fun _=>Qm)<|ps<|ps<|ps<|ps<|ps<|ps<|ps<|ps<|p (fun _=>Qn rfl)<|p (fun _=>Qe)<|pe ?_
   have h25:q.ix<0:=h24
   exact ⟨true,⟨rfl,trivial⟩,Step.drew _ _,by rw[decide_eq_true (.inl h25)]⟩
  refine p (fun _=>Qm)<|p (fun _=>Qa rfl)<|pq (fun _ hc=>Qd (hB35.ext hc) rfl rfl)<|p (fun _=>Qm)<|p (fun _=>Qm) <|
   Go.Lg.pig (g:=yR c1 c.cel) (i:=m) rfl (Uk c1 c.cel) hA5 rfl rfl hm3 fun a30 h30=>?_
  rw[hgm] at h30
  refine p (fun _=>Zd rfl)<|pq (fun _ hc=>Qv ((h30.fld 1 (.int .i64 (Xa c.cel m).length) rfl).st hc) rfl)<|p (fun _=>ZH rfl rfl) <|
   p (fun _=>Qn rfl)<|p (fun _=>Qe)<|pe ?_
  have h25:¬q.ix<0:=h24
  refine ⟨decide (((Xa c.cel m).length:Int)≤q.ix),⟨rfl,trivial⟩,Step.drew _ _,?_⟩
  rw[decide_eq_decide]
  exact ⟨.inr,fun h=>h.resolve_left h25⟩
 rintro z g w6 ⟨hs6,hz⟩
 have hs06:=hs05.trans hs6
 refine QW rfl (fun h21=>?_) (fun h21=>?_)
 ·rw[if_pos (of_decide_eq_true (hz.symm.trans h21))] at hr
  subst hr
  refine Qc<|Qf ?_
  exact Ql ⟨[_],⟨rfl,trivial⟩,rfl,hs06⟩
 have hnix:=of_decide_eq_false (hz.symm.trans h21)
 rw[if_neg hnix] at hr
 have hixn:q.ix=(q.ix.toNat:Int):=by omega
 have hixl:q.ix.toNat<(Xa c.cel m).length:=by omega
 have hgd:(Xa c.cel m).getD q.ix.toNat 0=(Xa c.cel m)[q.ix.toNat]'hixl:=by simp[List.getD,hixl]
 have hbl:=Ul hok hm3 _ (List.getElem_mem hixl)
 rw[hgd] at hr
 have hB36:=hB35.ext hs6
 have hA6:=hA5.ext hs6
 have hd6:Step [] w6 { w6 with drawn:=w6.drawn+1 }:=Step.drew _ _
 have hs06d:=hs06.trans hd6
 have hcallA:∀{w':World},Step [] w6 w'→QG Tryz.prog (gK m) [.int .i64 q.ix,.pointer (some ⟨c1,0,none⟩)] w' fun r w''=>r=.int .u16 ((Xa c.cel m)[q.ix.toNat]'hixl:Nat)∧Step [] w' w'':=by
  intro w' hs
  have:=QaP ((hB15.ext hs6).ext hs) ((h.ext hs06).ext hs) hok hm3 hixl
  rw[←hixn] at this
  exact this
 refine Qg<|QT (Step [] w6) [(0,true),(1,true),(2,true),(3,true),(4,true),(5,true),(6,true),(7,true),(8,true),(9,false),(10,false),(11,false),(12,true),(13,true)] Tryz.mixed (by rfl) (by kernel_rfl) (Step.drew _ _) ?_
 refine p (fun _=>Qa rfl)<|pq (fun _ hc=>Qd (hB36.ext hc) rfl rfl)<|p (fun _=>Qm)<|p (fun _=>Qm)<|Go.Lg.pig (g:=yR c1 c.cel) (i:=m) rfl (Uk c1 c.cel) hA6 rfl rfl hm3 fun a40 h40=>?_
 rw[hgm] at h40
 refine p (fun _=>Zd rfl)<|pq (fun _ hc=>Qv ((h40.fld 2 (.func (.func (gK m)) #[] #[.pointer (some ⟨c1,0,none⟩)]) rfl).st hc) rfl)<|p (fun _=>Qa rfl)<|pq (fun _ hc=>Qd (hB36.ext hc) rfl rfl) <|
  pk<|xcG (first:=[]) (capt:=[.pointer (some ⟨c1,0,none⟩)]) (Qfp m) rfl<|(hcallA hd6).mono ?_
 rintro r7 w7 ⟨rfl,hs7⟩
 refine Zf ((Xa c.cel m)[q.ix.toNat]'hixl) fun bv hbv=>?_
 rw[hbv] at hr hbl ⊢
 have hs67:=hd6.trans hs7
 refine ⟨hs67,?_⟩
 refine pk<|xf<|(yn bv hbl w7).mono ?_
 rintro r8 w8 ⟨hs8,ho8⟩
 have hs68:=hs67.trans hs8
 refine ⟨hs68,?_⟩
 have hkl:=Xm bv 8
 refine pk<|xf<|(J9 (hm.ext (hs06.trans hs68)) (Qs.ints (L:=[]) ho8 (by omega) (by simp))).mono ?_
 rintro r9 w9 ⟨rfl,hs9⟩
 refine ⟨hs68.trans hs9,?_⟩
 refine p (fun _=>Zo rfl)<|p (fun _=>Qe)<|pe ?_
 have hs09:=(hs06.trans hs68).trans hs9
 refine QW rfl (fun h35=>?_) (fun h35=>?_)
 ·have hne:¬q.co=setK bv 8:=by
   intro e
   have h36:(!decide (q.co=setK bv 8))=true:=h35
   rw[decide_eq_true e] at h36;cases h36
  rw[if_neg hne] at hr
  subst hr
  refine Qc<|Qf ?_
  exact Ql ⟨[_],⟨rfl,trivial⟩,rfl,hs09⟩
 have heq:q.co=setK bv 8:=by
  refine Decidable.byContradiction fun e=>?_
  have h36:(!decide (q.co=setK bv 8))=false:=h35
  rw[decide_eq_false e] at h36;cases h36
 rw[if_pos heq] at hr
 subst hr
 refine Qi ?_
 refine Qc<|Qf ?_
 exact Ql ⟨[_],⟨rfl,trivial⟩,rfl,hs09⟩
theorem J5 (L:LN) (H:Array Obj):QL L H (nS) []:=Zs.nil L H 1
theorem ym {L:LN}{H:Array Obj}{b T:Nat}{n:Int}(h:QS H b T [.int .i64 n]) (hb:b∉L):QL L H (.slice (some ⟨b,0,none⟩) 1 1) [n] :=
 h.arr hb (n:=1) (cap:=1) (sz:=1) rfl (by omega) (Nat.le_refl _)
set_option maxHeartbeats 4000000 in
theorem Qe4 {L:LN}{w:World}{c:CL}{q:MV}(h0:ZI L w.heap c) (hm0:QL L w.heap q.v q.co) :
  QG Tryz.prog 94 [c.val,.agg #[.int .i64 q.kd,.int .i64 q.ix,q.v]] w fun r w'=>Step [] w w'∧∃us,r=.tuple #[.agg us.toArray,.int .i64 (mcE c.cel q.m)]∧us.length=5∧ZB us∧(mcE c.cel q.m≠0→us=YL)∧(mcE c.cel q.m=0→QiB w.heap.size w'.heap (.agg us.toArray) (mcC c.cel q.m)):=by
 have h:=h0.up (L':=[]) (by simp)
 have hm:=hm0.up (L':=[]) (by simp)
 have hr:mcE c.cel q.m=if mdE c.cel q.m≠0 then mdE c.cel q.m else zX c.cel (prt q.m):=rfl
 have hcc:mcC c.cel q.m=QcZ c.cel (prt q.m):=rfl
 rw[hcc]
 refine Zf (mcE c.cel q.m) fun E hE=>?_
 rw[hE] at hr ⊢
 refine QG.of_W Tryz.func94 rfl Tryz.ntmps94 Tryz.results94 (by simp) ?_
 refine Qc<|xl rfl<|QR (us:=c.cells) rfl fun b2 w1 hs1 hb2 hB2=>xl rfl<|QR (us:=Yr q) rfl fun b3 w2 hs2 hb3 hB3=>xl rfl<|Qu (us:=YL) rfl fun b4 w3 hs3 hb4 hB4=>Qf ?_
 have hs03:=(hs1.trans hs2).trans hs3
 have hz1:=hs1.size
 have hz2:=hs2.size
 have hz3:=hs3.size
 have hl4:=hB4.lt
 refine Qg<|Qc<|x (Qq ((hB2.ext hs2).ext hs3) rfl rfl)<|x (Qq (hB3.ext hs3) rfl rfl)<|xl rfl<|xf<|(Qdh (h.ext hs03) (hm.ext hs03)).mono ?_
 rintro r4 w4 ⟨rfl,hs4⟩
 refine Qf ?_
 have hs04:=hs03.trans hs4
 have hz4:=hs4.size
 have hB24:=((hB2.ext hs2).ext hs3).ext hs4
 have hB34:=(hB3.ext hs3).ext hs4
 have hB44:=hB4.ext hs4
 refine Qc<|Qb<|x (Q6 rfl rfl)<|xe ?_
 refine Q3 rfl (fun h13=>?_) (fun h13=>?_)
 ·rw[if_pos h13] at hr
  subst hr
  refine Qc<|x (QN trivial)<|Qb<|xl rfl<|Qo (us:=YL) hB44 rfl rfl rfl rfl ⟨rfl,rfl,rfl,rfl,rfl,trivial⟩ fun w5 hs5 hB45=>Qf ?_
  exact Ql ⟨[.agg YL.toArray,.int .i64 (mdE c.cel q.m)],⟨⟨_,rfl,Qx rfl (hB45.at (L:=[]) (by simp)).cells⟩,rfl,trivial⟩,hs04.then1 hs5 (by omega),YL,rfl,rfl,⟨rfl,rfl,rfl,rfl,rfl,trivial⟩,fun _=>rfl,fun h0=>absurd h0 h13⟩
 rw[if_neg h13] at hr
 subst hr
 refine Qi ?_
 refine Qc<|x (Qa rfl)<|x (Qd hB34 rfl rfl)<|x (QN ⟨hm.cells,trivial⟩)<|xl rfl<|Qu (us:=[nS,nS,nS,nS]) rfl fun b7 w6 hs6 hb7 hB7=>xl rfl<|Qo (us:=[q.v,nS,nS,nS]) hB7 rfl rfl rfl rfl ⟨hm.one,rfl,rfl,rfl,trivial⟩ fun w7 hs7 hB77 =>
  xe ?_
 have hs47:Step [] w4 w7:=hs6.then1 hs7 hb7
 have hz47:=hs47.size
 have hl7:=hB77.lt
 refine Qc<|x (Qa rfl)<|x (Qd (hB34.ext hs47) rfl rfl)<|xl rfl<|QI (us:=[[.int .i64 q.ix]]) rfl rfl (by decide) (by simp) ⟨rfl,rfl,trivial⟩ fun b21 w8 hs8 hb21 hB21 =>
  Qf ?_
 have hs48:=hs47.trans hs8
 have hs08:=hs04.trans hs48
 have hz8:=hs8.size
 have hB78:=hB77.ext hs8
 have hb7u:w.heap.size≤b7:=by omega
 refine QV (α:=Value×Value×Value) [(22,33)] (fun _=>[]) (fun z w'=>Step [b7] w8 w'∧QS w'.heap b7 256 [q.v,z.1,z.2.1,z.2.2]∧QL [] w'.heap z.1 (prt q.m).rq∧QL [] w'.heap z.2.1 (prt q.m).ex∧QL [] w'.heap z.2.2 (prt q.m).cs) (by rfl) ?_ ?_
 ·have hlit:∀{w':World},Step [b7] w8 w'→QL [] w'.heap (.slice (some ⟨b21,0,none⟩) 1 1) [q.ix]:=fun hs=>ym (hB21.step hs (by simp only[List.mem_singleton];omega)) (by simp)
  refine Qc<|x (Qa rfl)<|x (Qd (hB34.ext hs48) rfl rfl)<|xe ?_
  refine Qh<|Qc<|x (Zm rfl rfl)<|Qf ?_
  refine Q3 rfl (fun h26=>?_) (fun h26=>?_)
  ·have hk1:q.kd=1:=h26
   refine Qw<|Qb<|x (Qa rfl)<|xl rfl<|QF (j:=1) (u:=.slice (some ⟨b21,0,none⟩) 1 1) hB78 rfl rfl (by simp) rfl fun w9 hs9 hB79=>xe ?_
   refine ⟨(.slice (some ⟨b21,0,none⟩) 1 1,nS,nS),trivial,hs9,hB79,?_,?_,?_⟩
   ·show QL _ _ _ (if q.kd=1 then [q.ix] else []);rw[if_pos hk1];exact hlit hs9
   ·show QL _ _ _ (if q.kd=2 then [q.ix] else []);rw[if_neg (by omega)];exact J5 _ _
   ·show QL _ _ _ (if q.kd≠1∧q.kd≠2 then [q.ix] else []);rw[if_neg (by omega)];exact J5 _ _
  have hk1:¬q.kd=1:=h26
  refine Qc<|x (Zm rfl rfl)<|Qf ?_
  refine Q3 rfl (fun h30=>?_) (fun h30=>?_)
  ·have hk2:q.kd=2:=h30
   refine Qw<|Qb<|x (Qa rfl)<|xl rfl<|QF (j:=2) (u:=.slice (some ⟨b21,0,none⟩) 1 1) hB78 rfl rfl (by simp) rfl fun w9 hs9 hB79=>xe ?_
   refine ⟨(nS,.slice (some ⟨b21,0,none⟩) 1 1,nS),trivial,hs9,hB79,?_,?_,?_⟩
   ·show QL _ _ _ (if q.kd=1 then [q.ix] else []);rw[if_neg hk1];exact J5 _ _
   ·show QL _ _ _ (if q.kd=2 then [q.ix] else []);rw[if_pos hk2];exact hlit hs9
   ·show QL _ _ _ (if q.kd≠1∧q.kd≠2 then [q.ix] else []);rw[if_neg (by omega)];exact J5 _ _
  have hk2:¬q.kd=2:=h30
  refine Qw<|Qb<|x (Qa rfl)<|xl rfl<|QF (j:=3) (u:=.slice (some ⟨b21,0,none⟩) 1 1) hB78 rfl rfl (by simp) rfl fun w9 hs9 hB79=>xe ?_
  refine ⟨(nS,nS,.slice (some ⟨b21,0,none⟩) 1 1),trivial,hs9,hB79,?_,?_,?_⟩
  ·show QL _ _ _ (if q.kd=1 then [q.ix] else []);rw[if_neg hk1];exact J5 _ _
  ·show QL _ _ _ (if q.kd=2 then [q.ix] else []);rw[if_neg hk2];exact J5 _ _
  ·show QL _ _ _ (if q.kd≠1∧q.kd≠2 then [q.ix] else []);rw[if_pos ⟨hk1,hk2⟩];exact hlit hs9
 rintro ⟨v1,v2,v3⟩ g w9 ⟨hs9,hB79,hI1,hI2,hI3⟩
 simp only[] at hB79 hI1 hI2 hI3
 have hs09:Step [] w w9:=hs08.then1 hs9 hb7u
 have hz9:=hs9.size
 have hB29:QS w9.heap b2 38 c.cells:=(hB24.ext hs48).step hs9 (by have:=hB2.lt;simp only[List.mem_singleton];omega)
 have hB49:QS w9.heap b4 38 YL:=(hB44.ext hs48).step hs9 (by simp only[List.mem_singleton];omega)
 refine Qc<|x (Qq hB29 rfl rfl)<|x (Qq hB79 rfl rfl)<|xl rfl<|xf<|(Qbr (p:=prt q.m) (h.ext hs09) (hm.ext hs09) hI1 hI2 hI3).mono ?_
 rintro r10 w10 ⟨hs10,us,rfl,hul,huo,hbad,hgood⟩
 have hz10:=hs10.size
 refine x (Qj rfl rfl)<|x (Qj rfl rfl)<|xl rfl<|Qo (us:=us) (hB49.ext hs10) rfl rfl hul rfl huo fun w11 hs11 hB411=>Qf ?_
 refine Ql ⟨[.agg us.toArray,.int .i64 (zX c.cel (prt q.m))],⟨⟨_,rfl,Qx hul (hB411.at (L:=[]) (by simp)).cells⟩,rfl,trivial⟩,(hs09.trans hs10).then1 hs11 (by omega),us,rfl,hul,huo,hbad,fun e=>?_⟩
 obtain ⟨cl,e1,e2,e3⟩:=hgood e
 refine ⟨cl,e1,e2,fun L hL=>?_⟩
 have h1:=e3 (b4::L) (fun b hb=>by
  rcases List.mem_cons.1 hb with rfl | hb
  ·omega
  ·have:=hL b hb;have:=hs09.size;omega)
 exact (h1.st (hs11.mono (by simp))).up (fun b hb=>.inl (by simp[hb]))
set_option maxHeartbeats 4000000 in
theorem Qhq {L:LN}{w:World}{c:CL}{q:MV}(h0:ZI L w.heap c) (hm0:QL L w.heap q.v q.co) (hkb:Kb w 4096) :
  QG Tryz.prog 42 [c.val,.agg #[.int .i64 q.kd,.int .i64 q.ix,q.v]] w fun r w'=>Step [] w w'∧∃sa st sm se,r=.tuple #[.agg #[sa,.int .i64 st,sm,se],.int .i64 (msE c.cel q.m)]∧ZB [sa,sm,se] ∧
   (msE c.cel q.m=0→st=(msA c.cel q.m).st∧∀L:LN,(∀b∈L,b<w.heap.size)→Zp L w'.heap sa sm se (msA c.cel q.m)):=by
 have h:=h0.up (L':=[]) (by simp)
 have hm:=hm0.up (L':=[]) (by simp)
 have hr:msE c.cel q.m=if mcE c.cel q.m≠0 then mcE c.cel q.m else suE (mcC c.cel q.m):=rfl
 have hcc:msA c.cel q.m=V2 (mcC c.cel q.m):=rfl
 rw[hcc]
 refine Zf (msE c.cel q.m) fun E hE=>?_
 rw[hE] at hr ⊢
 refine QG.of_W Tryz.func42 rfl Tryz.ntmps42 Tryz.results42 (by simp) ?_
 refine Qc<|xl rfl<|QR (us:=c.cells) rfl fun b2 w1 hs1 hb2 hB2=>xl rfl<|QR (us:=Yr q) rfl fun b3 w2 hs2 hb3 hB3=>xl rfl<|Qu (us:=[nS,.int .i64 0,nS,nS]) rfl fun b4 w3 hs3 hb4 hB4=>Qf ?_
 have hs03:=(hs1.trans hs2).trans hs3
 have hz1:=hs1.size
 have hz2:=hs2.size
 have hz3:=hs3.size
 have hl4:=hB4.lt
 refine Qc<|x (Qq ((hB2.ext hs2).ext hs3) rfl rfl)<|x (Qq (hB3.ext hs3) rfl rfl)<|xl rfl<|xf<|(Qe4 (h.ext hs03) (hm.ext hs03)).mono ?_
 rintro r4 w4 ⟨hs4,us,rfl,hul,huo,hbad,hgood⟩
 have hz4:=hs4.size
 have hs04:=hs03.trans hs4
 refine Qb<|x (Qj rfl rfl)<|x (Qj rfl rfl)<|xl rfl<|Qu (us:=YL) rfl fun b6 w5 hs5 hb6 hB6=>xl rfl<|Qo (us:=us) hB6 rfl rfl hul rfl huo fun w6 hs6 hB66 =>
  Qf ?_
 have hs46:Step [] w4 w6:=hs5.then1 hs6 hb6
 have hs06:=hs04.trans hs46
 have hz46:=hs46.size
 have hB46:=(hB4.ext hs4).ext hs46
 refine Qg<|Qc<|Qb<|x (Q6 rfl rfl)<|xe ?_
 refine Q3 rfl (fun h15=>?_) (fun h15=>?_)
 ·rw[if_pos h15] at hr
  subst hr
  refine Qc<|x (QN trivial)<|Qb<|xl rfl<|Qo (us:=[nS,.int .i64 0,nS,nS]) hB46 rfl rfl rfl rfl ⟨rfl,rfl,rfl,rfl,trivial⟩ fun w7 hs7 hB47=>Qf ?_
  exact Ql ⟨[.agg [nS,.int .i64 0,nS,nS].toArray,.int .i64 (mcE c.cel q.m)],⟨⟨_,rfl,Qx rfl (hB47.at (L:=[]) (by simp)).cells⟩,rfl,trivial⟩,hs06.then1 hs7 (by omega),nS,0,nS,nS,rfl,⟨rfl,rfl,rfl,trivial⟩,fun h0=>absurd h0 h15⟩
 rw[if_neg h15] at hr
 subst hr
 obtain ⟨cl,hv,hcel,hCA⟩:=hgood (Decidable.not_not.1 h15)
 have hCA6:ZI [] w6.heap cl:=(hCA [] (by simp)).ext hs46
 have hsup:=Kp hCA6 (hkb.ext hs06)
 rw[hcel] at hsup
 have hsup1:∀R,QG Tryz.prog 33 [cl.val] w6 R→QG Tryz.prog 33 [.agg us.toArray] w6 R:=fun R hR=>by rw[hv];exact hR
 have hsup':=hsup1 _ hsup
 refine Qi ?_
 refine Qc<|x (Qq hB66 rfl hul)<|xl rfl<|xf<|hsup'.mono ?_
 rintro r8 w8 ⟨hs8,sa,sm,se,rfl,hone,_,hgood8⟩
 refine Zf (if Y0 (mcC c.cel q.m)=0 then (V2 (mcC c.cel q.m)).st else 0) fun N hN=>?_
 rw[hN]
 have hz8:=hs8.size
 refine x (Qj rfl rfl)<|x (Qj rfl rfl)<|xl rfl<|Qo (us:=[sa,.int .i64 N,sm,se]) (hB46.ext hs8) rfl rfl rfl rfl ⟨hone.1,rfl,hone.2.1,hone.2.2.1,trivial⟩ fun w9 hs9 hB49=>Qf ?_
 refine Ql ⟨[.agg [sa,.int .i64 N,sm,se].toArray,.int .i64 (suE (mcC c.cel q.m))],⟨⟨_,rfl,Qx rfl (hB49.at (L:=[]) (by simp)).cells⟩,rfl,trivial⟩,(hs06.trans hs8).then1 hs9 (by omega),sa,N,sm,se,rfl,hone,fun e=>⟨?_,fun L hL=>?_⟩⟩
 ·have e':Y0 (mcC c.cel q.m)=0:=e
  rw[if_pos e'] at hN
  exact hN.symm
 have h1:=hgood8 e (b4::L) (fun b hb=>by
  rcases List.mem_cons.1 hb with rfl | hb
  ·omega
  ·have:=hL b hb;have:=hs06.size;omega)
 exact (h1.st (hs9.mono (by simp))).up (fun b hb=>.inl (by simp[hb]))
theorem ZO.of_lt {base N:Nat}{av:LN}{H:Array Obj}{v:Value}{n sz:Nat}{cs:LV}(h:∀L:LN,(∀b∈L,b<N)→Zs L H v n sz cs) (hb:base≤N) (hav:∀b∈av,b<N):ZO base av H v n sz cs:=fun L hL =>
 h L (fun b hbL=>(hL b hbL).elim (fun h=>by omega) (hav b))
theorem Xe.app3 {α:Type}{g:α→LV}{sz T:Nat}{ps:α→List (Value×Nat×Nat×LV)}{base:Nat}{w7 w8:World}{v v8:Value}{l:List α}{q:α}(h:Xe g sz T ps base w7 v l)
  (hq:∀t∈ps q,ZO base (ob v) w7.heap t.1 t.2.1 t.2.2.1 t.2.2.2)
  (ho:w8.ownsRow base T sz v8 (l.length+1) (l.flatMap g++g q)) (hs8:Step (ob v) w7 w8) (hn:∀b∈ob v8,b∈ob v∨w7.heap.size≤b):Xe g sz T ps base w8 v8 (l++[q]):=by
 refine ⟨?_,fun d hd t ht=>?_⟩
 ·rw[List.length_append,List.flatMap_append];simpa using ho
 ·rcases List.mem_append.1 hd with hd | hd
  ·exact (h.each d hd t ht).app hs8 hn
  ·simp only[List.mem_singleton] at hd;subst hd
   exact (hq t ht).app hs8 hn
abbrev QkX (p:AV):List (Value×Nat×Nat×LV):=[(p.va,p.a.al.length,1,p.a.al.map (.int .i64)),(p.vm,p.a.mr.length,1,p.a.mr.map (.int .i64)),(p.ve,p.a.ed.length,3,p.a.ed.flatMap QC)]
abbrev AvP (base:Nat) (w:World) (v:Value) (l:List AV):Prop:=Xe Zb 4 50 QkX base w v l
theorem AvP.auts {base:Nat}{w:World}{v:Value}{l:List AV}{L:LN}(h:AvP base w v l) (hn:l.length≤1099511627776) (hL:∀b∈L,b<base):YJ L w.heap v l :=
 ⟨QX h.own hn (fun b hb hbL=>by have:=(Qp h.own b hb).1;have:=hL b hbL;omega),fun p hp=>⟨h.each p hp (p.va,p.a.al.length,1,p.a.al.map (.int .i64)) (by simp) L (fun b hb=>.inl (hL b hb)),h.each p hp (p.vm,p.a.mr.length,1,p.a.mr.map (.int .i64)) (by simp) L (fun b hb=>.inl (hL b hb)),h.each p hp (p.ve,p.a.ed.length,3,p.a.ed.flatMap QC) (by simp) L (fun b hb=>.inl (hL b hb))⟩⟩
def Qk3 (N:Nat) (H:Array Obj) (v:Value) (l:List QM):Prop:=∃ps:List AV,ps.map (·.a)=l∧∀L:LN,(∀b∈L,b<N)→YJ L H v ps
theorem Qge {p:AV}(h1:p.va.oneCell'=true) (h2:p.vm.oneCell'=true) (h3:p.ve.oneCell'=true):∀u∈Zb p,u.oneCell'=true:=by
 intro u hu
 simp only[Zb,List.mem_cons,List.not_mem_nil,or_false] at hu
 rcases hu with rfl | rfl | rfl | rfl
 ·exact h1
 ·rfl
 ·exact h2
 ·exact h3
theorem Zp.parts {base N:Nat}{av:LN}{H:Array Obj}{p:AV}(h:∀L:LN,(∀b∈L,b<N)→Zp L H p.va p.vm p.ve p.a) (hb:base≤N) (hav:∀b∈av,b<N):∀t∈QkX p,ZO base av H t.1 t.2.1 t.2.2.1 t.2.2.2:=by
 intro t ht
 simp only[List.mem_cons,List.not_mem_nil,or_false] at ht
 rcases ht with rfl | rfl | rfl
 ·exact ZO.of_lt (fun L hL=>(h L hL).al) hb hav
 ·exact ZO.of_lt (fun L hL=>(h L hL).mr) hb hav
 ·exact ZO.of_lt (fun L hL=>(h L hL).ed) hb hav
theorem QeY {c:Zy}(h:V0 c):(mods c).length≤96:=by have:=yj h 3 (by omega);rw[jB] at this;omega
theorem QbW:∀(l:LN) (b:Nat),l.foldl (fun l b=>l &&& (65535 ^^^ b)) b≤b
 | [],_=>Nat.le_refl _
 | _::l,_=>Nat.le_trans (QbW l _) Nat.and_le_left
theorem Qet {c:Zy}:∀i∈rem c,0≤i∧i<(c.co.length:Int):=by
 intro i hi
 unfold rem setK at hi
 obtain ⟨j,hj,rfl⟩:=List.mem_map.1 hi
 have h1:=(List.mem_filter.1 hj).2
 have h2:=of_decide_eq_true h1
 refine ⟨by omega,?_⟩
 refine Decidable.byContradiction fun hn=>?_
 have hn':c.co.length≤j:=by omega
 have hle:QaR c≤2 ^ c.co.length - 1:=QbW _ _
 have hp:0<2 ^ c.co.length:=Nat.pow_pos (by decide)
 have hpj:2 ^ c.co.length≤2 ^ j:=Nat.pow_le_pow_right (by decide) hn'
 have h0:QaR c / 2 ^ j=0:=Nat.div_eq_of_lt (by omega)
 rw[h0] at h2
 cases h2
theorem QaK (c:Zy):KQ c=if Zg c≠0 then Zg c else msL c (mods c):=rfl
theorem jz (c:Zy) (m:Mdl) (l:List Mdl):msL c (m::l)=if msE c m≠0 then msE c m else msL c l:=rfl
abbrev coA (c:Zy) (i:Int):QM:=(c.co.getD i.toNat ⟨.empty,⟨[],0,[],[]⟩⟩).a
set_option maxRecDepth 4096 in
set_option maxHeartbeats 8000000 in
theorem JU {L:LN}{w:World}{c:CL}(h0:ZI L w.heap c) (hkb:Kb w 4096) :
  QG Tryz.prog 13 [c.val] w fun r w'=>Step [] w w'∧∃v,r=.tuple #[v,.int .i64 (KQ c.cel)]∧(KQ c.cel≠0→v=nS)∧(KQ c.cel=0→v.oneCell'=true∧Qk3 w.heap.size w'.heap v (Xl c.cel)):=by
 have h:=h0.up (L':=[]) (by simp)
 have hsv:=QaK c.cel
 have hsl:Xl c.cel=(mods c.cel).map (msA c.cel)++(rem c.cel).map (coA c.cel):=rfl
 refine Zf (KQ c.cel) fun E hE=>?_
 rw[hE] at hsv ⊢
 refine QG.of_W Tryz.func13 rfl Tryz.ntmps13 Tryz.results13 (by simp) ?_
 refine Qc<|xl rfl<|QR (us:=c.cells) rfl fun b1 w1 hs1 hb1 hB1=>x Qe<|Qf ?_
 refine Qc<|x (Qq hB1 rfl rfl)<|xl rfl<|xf<|(QbD (h.ext hs1)).mono ?_
 rintro r2 w2 ⟨hs2,vM,lM,rfl,hM,hMbad,hMgood⟩
 have hs02:=hs1.trans hs2
 have hz1:=hs1.size
 have hz2:=hs2.size
 refine Qb<|x (Qj rfl rfl)<|x (Qj rfl rfl)<|x Qe<|Qf ?_
 refine Qg<|Qc<|Qb<|x (Q6 rfl rfl)<|xe ?_
 refine Q3 rfl (fun h21=>?_) (fun h21=>?_)
 ·rw[if_pos h21] at hsv
  subst hsv
  refine Qc<|Qb<|x Qe<|Qf ?_
  exact Ql ⟨[nS,.int .i64 (Zg c.cel)],⟨rfl,rfl,trivial⟩,hs02,nS,rfl,fun _=>rfl,fun h0=>absurd h0 h21⟩
 rw[if_neg h21] at hsv
 have hck:=Decidable.not_not.1 h21
 have hok:V0 c.cel:=(Yc hck).sr
 have hMm:=hMgood hck
 have hMl:lM.length≤96:=by have:=QeY hok;rw[←hMm,List.length_map] at this;exact this
 have hMA:Zs [] w2.heap vM lM.length 3 (lM.flatMap Yr):=hM.arr (by omega) (by simp)
 have hrl:(rem c.cel).length≤8:=Xm _ _
 have hB12:=hB1.ext hs2
 refine Qi ?_
 refine Qc<|Qf ?_
 refine Qg<|Qc<|Qb<|x (Qr hMA rfl)<|Qb<|xe ?_
 refine Qh<|QA (α:=Nat×Value×List AV) [(2,3),(6,6),(8,10),(25,42)] (fun z=>[(6,z.2.1),(25,.int .i64 z.1)]) (fun z w'=>z.1≤lM.length∧Step [] w2 w'∧AvP w2.heap.size w' z.2.1 z.2.2∧z.2.2.map (·.a)=(lM.take z.1).map (fun q=>msA c.cel q.m)∧msL c.cel ((lM.drop z.1).map MV.m)=E) (fun z=>lM.length - z.1) (by rfl) (0,nS,[]) ⟨rfl,rfl,trivial⟩
  ⟨Nat.zero_le _,Step.refl _ _,Xe.nil,rfl,by rw[List.drop_zero,hMm];exact hsv.symm⟩ ?_
 rintro ⟨k,v,l⟩ g w3 ⟨hk,hs3,hV3,hl3,hE3⟩
 simp only[] at hk hV3 hl3 hE3
 have hs03:=hs02.trans hs3
 have hz3:=hs3.size
 have hll:l.length=k:=by have:=congrArg List.length hl3;rw[List.length_map,List.length_map,List.length_take] at this;omega
 have hB13:=hB12.ext hs3
 have h3:=h.ext hs03
 refine Qc<|x (QB rfl rfl)<|xe ?_
 refine Qg<|QD rfl (fun h26=>?_) (fun h26=>?_)
 ·refine Qz ?_
  have hke:lM.length≤k:=by have h16:¬(k:Int)<(lM.length:Int):=h26;omega
  rw[List.take_of_length_le hke] at hl3
  rw[List.drop_of_length_le hke] at hE3
  have hE0:E=0:=hE3.symm
  have hl3':l.map (·.a)=(mods c.cel).map (msA c.cel):=by rw[hl3,←hMm,List.map_map];rfl
  refine Qc<|x (Qq hB13 rfl rfl)<|xl rfl<|xf<|(yJ h3).mono ?_
  rintro r4 w4 ⟨hs4,vR,rfl,_,hRgood⟩
  have hR:=hRgood hck
  have hs04:=hs03.trans hs4
  have hz4:=hs4.size
  refine Qb<|x (Qj rfl rfl)<|x (Qj rfl rfl)<|x Qe<|Qf ?_
  refine Qg<|Qc<|Qb<|x (Q6 rfl rfl)<|xe ?_
  refine Q3 rfl (fun h49=>?_) (fun h49=>?_)
  ·exact absurd hck h49
  refine Qi ?_
  have hRA:QL [] w4.heap vR (rem c.cel):=Qs.ints hR (by omega) (by simp)
  refine Qg<|Qc<|Qb<|x (Qr hRA rfl)<|Qb<|xe ?_
  refine Qh<|QA (α:=Nat×Value×List AV) [(6,6),(13,14),(53,78)] (fun z=>[(6,z.2.1),(53,.int .i64 z.1)]) (fun z w'=>z.1≤(rem c.cel).length∧Step (ob v) w4 w'∧AvP w2.heap.size w' z.2.1 z.2.2∧z.2.2.map (·.a)=(mods c.cel).map (msA c.cel)++((rem c.cel).take z.1).map (coA c.cel)∧∀b∈ob z.2.1,b∈ob v∨w4.heap.size≤b) (fun z=>(rem c.cel).length - z.1) (by rfl) (0,v,l) ⟨rfl,rfl,trivial⟩
   ⟨Nat.zero_le _,Step.refl _ _,Xe.ext hV3 hs4,by simp only[List.take_zero,List.map_nil,List.append_nil];exact hl3',fun b hb=>.inl hb⟩ ?_
  rintro ⟨j,vj,lj⟩ g w5 ⟨hj,hs5,hV5,hl5,hn5⟩
  simp only[] at hj hV5 hl5 hn5
  have hvge:=Qp hV3.own
  have hvge5:=Qp hV5.own
  have hs05:Step [] w w5:=hs04.then hs5 (fun b hb=>.inr (by have:=(hvge b hb).1;omega))
  have h5:=h.ext hs05
  have hz5:=hs5.size
  have hljl:lj.length≤200:=by
   have e1:=congrArg List.length hl5
   rw[List.length_map,List.length_append,List.length_map,List.length_map,List.length_take,←hMm,List.length_map] at e1
   omega
  have hB15:QS w5.heap b1 38 c.cells:=(hB13.ext hs4).step hs5 (fun hb=>by have:=(hvge b1 hb).1;have:=hB12.lt;omega)
  have hRA5:QL [] w5.heap vR (rem c.cel):=(((Qs.ints hR (by omega) (L:=ob v) (fun b hb=>(hvge b hb).2)).st hs5)).up (by simp)
  refine Qc<|x (QB rfl rfl)<|xe ?_
  refine Qg<|QD rfl (fun h54=>?_) (fun h54=>?_)
  ·refine Qz ?_
   have hje:(rem c.cel).length≤j:=by have h16:¬(j:Int)<((rem c.cel).length:Int):=h54;omega
   rw[List.take_of_length_le hje,←hsl] at hl5
   refine Qc<|Qb<|x Qe<|Qf ?_
   exact Ql ⟨[vj,.int .i64 0],⟨rfl,rfl,trivial⟩,hs05,vj,by rw[hE0];rfl,fun h0=>absurd hE0 h0,fun _=>⟨QO hV5.own,lj,hl5,fun L hL=>AvP.auts hV5 (by omega) (fun b hb=>by have:=hL b hb;omega)⟩⟩
  have hltR:j<(rem c.cel).length:=by have h16:(j:Int)<((rem c.cel).length:Int):=h54;omega
  have htkR:(rem c.cel).take (j+1)=(rem c.cel).take j++[(rem c.cel)[j]'hltR]:=List.take_succ_eq_append_getElem hltR
  have hig:=Qet _ (List.getElem_mem hltR)
  refine Qi ?_
  refine Qg<|Qh<|Qc<|xii (i:=j) hRA5 rfl rfl hltR fun a55 h55=>?_
  refine Zf ((rem c.cel)[j]'hltR) fun i hi=>?_
  rw[hi] at h55 htkR hig
  have hcl:c.cel.co.length=c.co.length:=List.length_map ..
  rw[hcl] at hig
  have hin:i=(i.toNat:Int):=by omega
  have hil:i.toNat<c.co.length:=by omega
  have hmem:=List.getElem_mem hil
  have hco:coA c.cel i=(c.co[i.toNat]'hil).p.a:=by
   show ((c.co.map IV.it).getD i.toNat _).a=_
   simp[List.getD,hil,IV.it]
  refine x (Qv h55 rfl)<|Qf ?_
  refine Qc<|x (Qa rfl)<|x (Qd hB15 rfl rfl)<|Qb<|xig (g:=Zh) (i:=i.toNat) Y6 h5.co.arr rfl (congrArg (Value.int .i64) hin) hil fun a60 h60=>?_
  refine Zf (c.co[i.toNat]'hil) fun q hq=>?_
  rw[hq] at h60 hmem hco
  have hqA:=h5.co.each q hmem
  refine x (Zd rfl)<|x (QK (us:=[q.p.va,.int .i64 q.p.a.st,q.p.vm,q.p.ve]) (h60.from 1) rfl rfl)<|xl rfl<|Qu (us:=[nS,.int .i64 0,nS,nS]) rfl fun b14 w6 hs6 hb14 hB14 =>
   xl rfl<|Qo (us:=[q.p.va,.int .i64 q.p.a.st,q.p.vm,q.p.ve]) hB14 rfl rfl rfl rfl ⟨hqA.al.one,rfl,hqA.mr.one,hqA.ed.one,trivial⟩ fun w7 hs7 hB14=>xe ?_
  have hs57:Step [] w5 w7:=hs6.then1 hs7 hb14
  have hd7:Step [] w7 { w7 with drawn:=w7.drawn+1 }:=Step.drew _ _
  have hz57:=hs57.size
  have hb14v:b14∉ob vj:=fun hm=>by have:=(hvge5 b14 hm).2;omega
  have hqA7:=hqA.ext hs57
  refine QT (Step (ob vj) w7) [(0,true),(1,true),(2,true),(4,true),(5,true),(6,true),(7,true),(9,true),(10,true),(3,false),(8,false),(11,false),(12,true),(13,false),(14,false),(15,true)] Tryz.mixed (by rfl) (by kernel_rfl) (Step.drew _ _) ?_
  refine p (fun _=>Qm)<|p (fun _=>Qa rfl)<|pq (fun _ hc=>Qd (hB14.step hc hb14v) rfl rfl)<|p (fun _=>Qa rfl)<|pq (fun _ hc=>Qd (hB14.step hc hb14v) rfl rfl) <|
   p (fun _=>Qa rfl)<|pq (fun _ hc=>Qd (hB14.step hc hb14v) rfl rfl)<|p (fun _=>Qa rfl)<|pq (fun _ hc=>Qd (hB14.step hc hb14v) rfl rfl) <|
   pk<|xf<|(Yx (hqA7.al.ext hd7)).mono ?_
  rintro r8 w8 ⟨hs8,ho8⟩
  refine ⟨(hd7.trans hs8).any,?_⟩
  refine pk<|xf<|(Yx ((hqA7.mr.ext hd7).ext hs8)).mono ?_
  rintro r9 w9 ⟨hs9,ho9⟩
  refine ⟨((hd7.trans hs8).trans hs9).any,?_⟩
  refine pk<|xf<|(U0 (((hqA7.ed.ext hd7).ext hs8).ext hs9)).mono ?_
  rintro r10 w10 ⟨hs10,ho10⟩
  have hs710:=((hd7.trans hs8).trans hs9).trans hs10
  refine ⟨hs710.any,?_⟩
  refine p (fun _=>QN ⟨Zk ho8,rfl,Zk ho9,Zk ho10,trivial⟩)<|pk<|QI (us:=[Zb ⟨r8,r9,r10,q.p.a⟩]) rfl rfl (by decide) (by simp) ⟨rfl,rfl,trivial⟩ fun b76 w11 hs11 hb76 hB76=>⟨(hs710.trans hs11).any,?_⟩
  have hs511:=(hs57.trans hs710).trans hs11
  have hz511:=hs511.size
  have hz8:=hs8.size
  have hz9:=hs9.size
  have hzd:({ w7 with drawn:=w7.drawn+1 }:World).heap.size=w7.heap.size:=rfl
  refine pk<|Q2 (news:=Zb ⟨r8,r9,r10,q.p.a⟩) (L:=[]) (Qt hV5.own hs511) rfl rfl rfl (hB76.at (by simp)) (Qge (p:=⟨r8,r9,r10,q.p.a⟩) (QO ho8) (QO ho9) (QO ho10)) (by omega) (by omega) fun v12 w12 ho12 hs12 hn12=>⟨(hs710.trans hs11).any.trans' hs12,?_⟩
  refine p (fun _=>Qe)<|pe ?_
  have hvl:∀b∈ob vj,b<w7.heap.size:=fun b hb=>by have:=(hvge5 b hb).2;omega
  have hV12:AvP w2.heap.size w12 v12 (lj++[⟨r8,r9,r10,q.p.a⟩]):=Xe.app3 (Xe.ext hV5 hs511) (fun t ht=>by
   simp only[List.mem_cons,List.not_mem_nil,or_false] at ht
   rcases ht with rfl | rfl | rfl
   ·exact ZO.of_own (Qt (Qt (Qt ho8 hs9) hs10) hs11) hqA.al.le (by omega) (fun b hb=>by have:=hvl b hb;omega)
   ·exact ZO.of_own (Qt (Qt ho9 hs10) hs11) hqA.mr.le (by omega) (fun b hb=>by have:=hvl b hb;omega)
   ·exact ZO.of_own (Qt ho10 hs11) hqA.ed.le (by omega) (fun b hb=>by have:=hvl b hb;omega)) ho12 hs12 hn12
  refine Qw<|x (Qy rfl rfl ⟨by omega,by omega⟩)<|Qb<|xe ?_
  refine ⟨(j+1,v12,lj++[⟨r8,r9,r10,q.p.a⟩]),by simp only[];omega,⟨rfl,rfl,trivial⟩,hltR,(hs5.trans hs511).then hs12 hn5,hV12,?_,fun b hb=>?_⟩
  ·simp only[]
   rw[htkR,List.map_append,hl5,List.map_append,List.append_assoc,List.map_singleton,List.map_singleton,hco]
  ·rcases hn12 b hb with h9 | h9
   ·exact hn5 b h9
   ·exact .inr (by omega)
 have hlt:k<lM.length:=by have h16:(k:Int)<(lM.length:Int):=h26;omega
 have htk:lM.take (k+1)=lM.take k++[lM[k]'hlt]:=List.take_succ_eq_append_getElem hlt
 have hmem:=List.getElem_mem hlt
 rw[List.drop_eq_getElem_cons hlt,List.map_cons,jz] at hE3
 have hM3:=ZX.ext hM hs3
 have hMA3:=hMA.ext hs3
 refine Qi ?_
 refine Qg<|Qh<|Qc<|xig (g:=Yr) (i:=k) Qjd hMA3 rfl rfl hlt fun a27 h27=>?_
 refine Zf (lM[k]'hlt) fun q hq=>?_
 rw[hq] at h27 htk hmem hE3
 have hqI:QL [] w3.heap q.v q.co:=hM3.each q hmem [] (by simp)
 refine x (QK h27 rfl rfl)<|xl rfl<|Qu (us:=[.int .i64 0,.int .i64 0,nS]) rfl fun b8 w13 hs13 hb8 hB8=>xl rfl<|Qo (us:=Yr q) hB8 rfl rfl rfl rfl ⟨rfl,rfl,hqI.one,trivial⟩ fun w14 hs14 hB8 =>
  xe ?_
 have hs314:Step [] w3 w14:=hs13.then1 hs14 hb8
 have hs014:=hs03.trans hs314
 have hz314:=hs314.size
 refine Qc<|x (Qq (hB13.ext hs314) rfl rfl)<|x (Qq hB8 rfl rfl)<|xl rfl<|xf<|(Qhq (q:=q) (h.ext hs014) (hqI.ext hs314) (hkb.ext hs014)).mono ?_
 rintro r15 w15 ⟨hs15,sa,st,sm,se,rfl,hone,hgood⟩
 refine Qb<|x (Qj rfl rfl)<|x (Qj rfl rfl)<|xl rfl<|Qu (us:=[nS,.int .i64 0,nS,nS]) rfl fun b9 w16 hs16 hb9 hB9=>xl rfl<|Qo (us:=[sa,.int .i64 st,sm,se]) hB9 rfl rfl rfl rfl ⟨hone.1,rfl,hone.2.1,hone.2.2.1,trivial⟩ fun w17 hs17 hB9 =>
  Qf ?_
 have hs1517:Step [] w15 w17:=hs16.then1 hs17 hb9
 have hs317:=(hs314.trans hs15).trans hs1517
 refine Qg<|Qc<|Qb<|x (Q6 rfl rfl)<|xe ?_
 refine Q3 rfl (fun h36=>?_) (fun h36=>?_)
 ·rw[if_pos h36] at hE3
  subst hE3
  refine Qc<|Qb<|x Qe<|Qf ?_
  exact Ql ⟨[nS,.int .i64 (msE c.cel q.m)],⟨rfl,rfl,trivial⟩,hs03.trans hs317,nS,rfl,fun _=>rfl,fun h0=>absurd h0 h36⟩
 rw[if_neg h36] at hE3
 obtain ⟨hst,hA⟩:=hgood (Decidable.not_not.1 h36)
 subst hst
 have hge:=Qp hV3.own
 refine Qi ?_
 refine Qw<|Qb<|x (Qq hB9 rfl rfl)<|xl rfl<|QI (us:=[Zb ⟨sa,sm,se,msA c.cel q.m⟩]) rfl rfl (by decide) (by simp) ⟨rfl,rfl,trivial⟩ fun b40 w18 hs18 hb40 hB40=>?_
 have hs318:=hs317.trans hs18
 have hz318:=hs318.size
 refine xl rfl<|Q2 (news:=Zb ⟨sa,sm,se,msA c.cel q.m⟩) (L:=[]) (Qt hV3.own hs318) rfl rfl rfl (hB40.at (by simp)) (Qge (p:=⟨sa,sm,se,msA c.cel q.m⟩) hone.1 hone.2.1 hone.2.2.1) (by omega) (by omega) fun v19 w19 ho19 hs19 hn19 =>
  Qf ?_
 have hV19:AvP w2.heap.size w19 v19 (l++[⟨sa,sm,se,msA c.cel q.m⟩]):=Xe.app3 (Xe.ext hV3 hs318) (Zp.parts (N:=w14.heap.size) (p:=⟨sa,sm,se,msA c.cel q.m⟩) (fun L hL=>((hA L hL).ext hs1517).ext hs18) (by omega) (fun b hb=>by have:=(hge b hb).2;omega)) ho19 hs19 hn19
 refine Qw<|x (Qy rfl rfl ⟨by omega,by omega⟩)<|Qb<|xe ?_
 refine ⟨(k+1,v19,l++[⟨sa,sm,se,msA c.cel q.m⟩]),by simp only[];omega,⟨rfl,rfl,trivial⟩,hlt,(hs3.trans hs318).then hs19 (fun b hb=>.inr (hge b hb).1),hV19,?_,hE3⟩
 simp only[]
 rw[htk,List.map_append,hl3,List.map_append];rfl
abbrev gtA (aa:List QM) (i:Nat):QM:=aa.getD i ⟨[],0,[],[]⟩
def rfP (aa:List QM) (t:LI) (v:Int) (i:Nat):Bool:=!(eget (gtA aa i).ed (cget t i) v).isSome && decide (v∈(gtA aa i).al)
def rfN (aa:List QM) (t:LI) (v:Int) (n:Nat):LI:=((List.range n).filter (rfP aa t v)).map fun i:Nat=>(i:Int)
def rfL (aa:List QM) (t:LI) (v:Int):LI:=rfN aa t v aa.length
theorem Qes (aa:List QM) (t:LI) (v:Int) (n:Nat):rfN aa t v (n+1)=rfN aa t v n++if rfP aa t v n=true then [(n:Int)] else []:=by
 unfold rfN
 rw[List.range_succ,List.filter_append,List.map_append]
 congr 1
 by_cases h:rfP aa t v n=true
 ·rw[if_pos h];simp[h]
 ·rw[if_neg h];simp[h]
theorem Qhb (aa:List QM) (t:LI) (v:Int) (n:Nat):(rfN aa t v n).length≤n:=by
 unfold rfN;rw[List.length_map];have:=List.length_filter_le (rfP aa t v) (List.range n);rw[List.length_range] at this;exact this
set_option maxHeartbeats 4000000 in
theorem yh {w:World}{v vt:Value}{ps:List AV}{ts:LI}(h:YJ [] w.heap v ps) (ht:QL [] w.heap vt ts) (e:Int) :
  QG Tryz.prog 19 [v,vt,.int .i64 e] w fun r w'=>Step [] w w'∧∃vr,r=.tuple #[vr,.int .i64 (ckV (ps.map (·.a)) ts e)]∧(ckV (ps.map (·.a)) ts e≠0→vr=Za)∧(ckV (ps.map (·.a)) ts e=0→Qs 3 w.heap.size w' vr (rfL (ps.map (·.a)) ts e)):=by
 refine Zf (ckV (ps.map (·.a)) ts e) fun E hE=>?_
 rw[hE]
 refine QG.of_W Tryz.func19 rfl Tryz.ntmps19 Tryz.results19 (by simp) ?_
 refine Qc<|x Qe<|Qf ?_
 refine Qg<|Qc<|Qb<|Qb<|Qb<|xl rfl<|xf<|(qH h ht e).mono ?_
 rintro r1 w1 ⟨hr1,hs1⟩
 rw[hE] at hr1
 subst hr1
 refine Qf ?_
 refine Qc<|Qb<|x (Q6 rfl rfl)<|xe ?_
 refine Q3 rfl (fun h20=>?_) (fun h20=>?_)
 ·refine Qc<|Qb<|x Qe<|Qf ?_
  exact Ql ⟨[Za,.int .i64 E],⟨rfl,rfl,trivial⟩,hs1,Za,rfl,fun _=>rfl,fun e=>absurd e h20⟩
 have hE0:E=0:=Decidable.not_not.1 h20
 have hc:ckV (ps.map (·.a)) ts e=0:=hE.trans hE0
 have hct:ckT (ps.map (·.a)) ts=0:=by
  unfold ckV at hc
  split at hc
  ·rename_i h1;exact absurd hc h1
  ·rename_i h1;exact Decidable.not_not.1 h1
 obtain ⟨h1,h2,h3⟩:=Qaa hct
 rw[List.length_map] at h1
 have hl:ts.length=ps.length:=by have:=h3.1;rw[List.length_map] at this;exact this
 refine Qi ?_
 refine Qc<|Qb<|xl rfl<|xf<|(Qb4 (h.ext hs1) h1 (fun p hp=>(h2 p.a (List.mem_map_of_mem hp)).al_le) (by simp)).mono ?_
 rintro r2 w2 ⟨hs2,ve,vs,ms,rfl,hM,hveO⟩
 have hs02:=hs1.trans hs2
 have hvs:=hM.sl.one
 refine xl rfl<|Qu (us:=[nS,nS,nS]) rfl fun b9 w3 hs3 hb9 hB9=>xl rfl<|Qo (us:=[v,ve,vs]) hB9 rfl rfl rfl rfl ⟨h.arr.one,QO hveO,hvs,trivial⟩ fun w4 hs4 hB94=>xe ?_
 have hs24:Step [] w2 w4:=hs3.then1 hs4 hb9
 have hs04:=hs02.trans hs24
 have hz04:=hs04.size
 have hz24:=hs24.size
 refine Qc<|Qf ?_
 refine Qg<|Qc<|Qb<|x (Qr (h.ext hs04).arr rfl)<|Qb<|xe ?_
 refine Qh<|QA (α:=Nat×Value) [(10,14),(26,58)] (fun z=>[(10,z.2),(26,.int .i64 z.1)]) (fun z w'=>z.1≤ps.length∧Step [] w4 w'∧Qs 3 w4.heap.size w' z.2 (rfN (ps.map (·.a)) ts e z.1)) (fun z=>ps.length - z.1) (by rfl) (0,nS) ⟨rfl,rfl,trivial⟩
  ⟨Nat.zero_le _,Step.refl _ _,QP _ _ _ _⟩ ?_
 rintro ⟨k,vo⟩ g w5 ⟨hk,hs5,ho5⟩
 simp only[] at hk ho5
 have hs05:=hs04.trans hs5
 have hlo:=Qhb (ps.map (·.a)) ts e k
 have hz5:=hs5.size
 refine Qc<|x (QB rfl rfl)<|xe ?_
 refine Qg<|QD rfl (fun h27=>?_) (fun h27=>?_)
 ·refine Qz ?_
  have hke:k=ps.length:=by have h16:¬(k:Int)<(ps.length:Int):=h27;omega
  have hfin:rfN (ps.map (·.a)) ts e k=rfL (ps.map (·.a)) ts e:=by unfold rfL;rw[List.length_map,hke]
  rw[hfin] at ho5
  refine Qc<|Qb<|x Qe<|Qf ?_
  exact Ql ⟨[vo,.int .i64 0],⟨rfl,rfl,trivial⟩,hs05,vo,by rw[hE0];rfl,fun e=>absurd hE0 e,fun _=>Zc ho5 hz04⟩
 have hlt:k<ps.length:=by have h16:(k:Int)<(ps.length:Int):=h27;omega
 have hlt':k<ts.length:=by omega
 have hltm:k<ms.length:=by rw[hM.ml];exact hlt
 have hM5:=(hM.ext hs24).ext hs5
 obtain ⟨hmk,_⟩:=hM5.mp k hltm hlt
 have hmem:=List.getElem_mem hlt
 have hgk:gtA (ps.map (·.a)) k=(ps[k]'hlt).a:=by unfold gtA;simp[List.getD,hlt]
 have hgt:cget ts k=ts[k]'hlt':=by unfold cget;simp[List.getD,hlt']
 have hsucc:=Qes (ps.map (·.a)) ts e k
 have hP:rfP (ps.map (·.a)) ts e k=(!(eget (ps[k]'hlt).a.ed (ts[k]'hlt') e).isSome && decide (e∈(ps[k]'hlt).a.al)):=by unfold rfP;rw[hgk,hgt]
 rw[hP] at hsucc
 have h5:=h.ext hs05
 refine Qi ?_
 refine Qg<|Qh<|Qc<|Qb<|xig (g:=Zb) (i:=k) XR h5.arr rfl rfl hlt fun a29 h29=>?_
 refine Zf (ps[k]'hlt) fun q hq=>?_
 refine Zf (ts[k]'hlt') fun tk htk=>?_
 rw[hq] at h29 hmem hmk hsucc
 rw[htk] at hsucc
 have hqA:=h5.each q hmem
 have hqo:=h2 q.a (List.mem_map_of_mem hmem)
 refine x (QK h29 rfl rfl)<|xl rfl<|Qu (us:=[nS,.int .i64 0,nS,nS]) rfl fun b12 w6 hs6 hb12 hB12=>x Qe <|
  xl rfl<|Qo (us:=Zb q) hB12 rfl rfl rfl rfl ⟨hqA.al.one,rfl,hqA.mr.one,hqA.ed.one,trivial⟩ fun w7 hs7 hB127=>xe ?_
 have hs57:Step [] w5 w7:=hs6.then1 hs7 hb12
 have hB97:=(hB94.ext hs5).ext hs57
 have hM7:=hM5.ext hs57
 have hmk7:=hmk.ext hs57
 refine Qg<|QT (Step [] w7) [(0,true),(1,true),(2,true),(3,true),(4,true),(5,true),(6,true),(7,true),(8,true),(9,true),(10,true),(11,true),(12,true),(13,true),(14,true),(15,true),(16,true)] Tryz.mixed (by rfl) (by kernel_rfl) (Step.drew _ _) ?_
 refine p (fun _=>Qa rfl)<|pq (fun _ hc=>Qd (hB97.ext hc) rfl rfl)<|p (fun _=>Qm)<|Go.Lg.pig rfl (g:=jC) (fun _=>rfl) hM7.sl rfl rfl hltm fun a35 h35 =>
  pq (fun _ hc=>Qv (h35.ext hc) rfl)<|p (fun _=>Qm)<|p (fun _=>Qm)<|pii rfl ((ht.ext hs05).ext hs57) rfl rfl hlt' fun a39 h39=>?_
 rw[htk] at h39
 refine pq (fun _ hc=>Qv (h39.ext hc) rfl) <|
  p (fun _=>Qm)<|p (fun _=>QN ⟨rfl,rfl,trivial⟩)<|pq (fun _ hc=>QbZ (s:=q.a) (q:=tk) (v:=e) (hmk7.ext hc) hqo.edi rfl rfl)<|p (fun _=>Qm)<|p (fun _=>Qj rfl rfl) <|
  p (fun _=>Qj rfl rfl)<|p (fun _=>Qe)<|p (fun _=>Qe)<|pe ?_
 have hd7:Step [] w7 { w7 with drawn:=w7.drawn+1 }:=Step.drew _ _
 have hs57d:=hs57.trans hd7
 refine QV (α:=Bool) [(46,53)] (fun z=>[(53,.bool z)]) (fun z w'=>Step [] w5 w'∧z=(!(eget q.a.ed tk e).isSome && decide (e∈q.a.al))) (by rfl) ?_ ?_
 ·refine Qw<|Qb<|xB (Zo rfl) (fun h47=>?_) (fun h47=>?_)
  ·refine Qb<|x (Qa rfl)<|x (Qd (hB127.ext hd7) rfl rfl)<|Qb<|xl rfl<|xf<|(Yy ((hqA.al.ext hs57d)) hqo.ali e).mono ?_
   rintro r8 w8 ⟨rfl,rfl⟩
   refine x (Qn rfl)<|xe ?_
   refine ⟨decide (e∈q.a.al),⟨rfl,trivial⟩,hs57d,?_⟩
   have h48:(!decide ((eget q.a.ed tk e).isSome=true))=true:=h47
   have h49:(eget q.a.ed tk e).isSome=false:=by simpa using h48
   rw[h49];rfl
  refine Qb<|xs rfl<|xs rfl<|xs rfl<|xs rfl<|x (Qn rfl)<|xe ?_
  refine ⟨false,⟨rfl,trivial⟩,hs57d,?_⟩
  have h48:(!decide ((eget q.a.ed tk e).isSome=true))=false:=h47
  have h49:(eget q.a.ed tk e).isSome=true:=by simpa using h48
  rw[h49];rfl
 rintro z g w9 ⟨hs9,hz⟩
 rw[←hz] at hsucc
 refine QW rfl (fun h53=>?_) (fun h53=>?_)
 ·rw[if_pos h53] at hsucc
  refine Qw<|Qb<|Qb<|xl rfl<|QI (us:=[[.int .i64 k]]) rfl rfl (by decide) (by simp) ⟨rfl,rfl,trivial⟩ fun b56 w10 hs10 hb56 hB56=>?_
  have hs510:=hs9.trans hs10
  have hz510:=hs510.size
  refine xl rfl<|Q2 (news:=[.int .i64 k]) (L:=[]) (Qt ho5 hs510) rfl rfl rfl (hB56.at (by simp)) (by simp[Value.oneCell']) (by omega) (by omega) fun v11 w11 ho11 hs11 hn11 =>
   Qf ?_
  refine Qw<|x (Qy rfl rfl ⟨by omega,by omega⟩)<|Qb<|xe ?_
  have hge:=Qp ho5
  refine ⟨(k+1,v11),by simp only[];omega,⟨rfl,rfl,trivial⟩,hlt,(hs5.trans hs510).then hs11 (fun b hb=>.inr (hge b hb).1),?_⟩
  simp only[]
  rw[hsucc];exact Qs.snoc ho11
 rw[if_neg (by rw[h53];simp),List.append_nil] at hsucc
 refine Qi ?_
 refine Qw<|x (Qy rfl rfl ⟨by omega,by omega⟩)<|Qb<|xe ?_
 exact ⟨(k+1,vo),by simp only[];omega,⟨rfl,rfl,trivial⟩,hlt,hs5.trans hs9,by simp only[];rw[hsucc];exact Qt ho5 hs9⟩
section
variable {s:QM} {l:List KO} {n:Nat}
end
section
variable {s:QM} {l:List KO} {n:Nat}
end
section
variable {s:QM} {l:List KO} {n:Nat}
end
section
variable {p s:QM} {pairs:List (LI)}
end
section
variable {s:QM} {l:List KO} {n:Nat}
end
section
variable {s:QM} {l:List KO} {n:Nat} {nm:LI}
end
def cnF (ord:LI) (j:Nat) (e:Ed):Ed:=((j:Int),e.2.1,(ord.idxOf e.2.2:Int))
def cnR (a:QM) (ord:LI) (j:Nat):List Ed:=(Zv a.ed (ZN ord j)).map (cnF ord j)
theorem jO {l r:LI}{j:Nat}(h:j<l.length):ZN (l++r) j=ZN l j:=by unfold ZN;rw[Int.toNat_natCast];exact U7 h
structure NuI (st:Int) (ord num:LI):Prop where
 nd:ord.Nodup
 bd:∀s∈ord,0≤s∧s<st
 nl:num.length=st.toNat
 nu:∀k,0≤k→k<st→ZN num k=if k∈ord then (ord.idxOf k:Int) else -1
theorem QaO {st:Int}{i:Nat}{c:Cs}(h:NuI st c.ord c.num) {e:Ed}(h0:0≤e.2.2) (h1:e.2.2<st):NuI st (Zi i c e).ord (Zi i c e).num∧(∃r,(Zi i c e).ord=c.ord++r)∧(Zi i c e).mk'=c.mk'∧(Zi i c e).ed=c.ed++[cnF (Zi i c e).ord i e]∧e.2.2∈(Zi i c e).ord:=by
 have hn:=h.nu e.2.2 h0 h1
 have hlt:e.2.2.toNat<c.num.length:=by rw[h.nl];omega
 unfold Zi
 by_cases hm:e.2.2∈c.ord
 ·rw[if_pos hm] at hn
  rw[if_neg (by rw[hn];omega)]
  refine ⟨h,⟨[],by simp⟩,rfl,?_,hm⟩
  simp only[cnF]
  rw[hn]
 ·rw[if_neg hm] at hn
  rw[if_pos (by rw[hn];decide)]
  have hidx:(c.ord++[e.2.2]).idxOf e.2.2=c.ord.length:=by rw[List.idxOf_append,if_neg hm];simp
  refine ⟨⟨Kx h.nd hm,fun s hs=>?_,by simp[h.nl],fun k k0 k1=>?_⟩,⟨[e.2.2],rfl⟩,rfl,?_,by simp⟩
  ·rcases List.mem_append.1 hs with hs | hs
   ·exact h.bd s hs
   ·simp only[List.mem_singleton] at hs;subst hs;exact ⟨h0,h1⟩
  ·simp only[]
   by_cases ek:k=e.2.2
   ·subst ek
    rw[if_pos (by simp),hidx]
    unfold ZN
    simp[List.getD,List.getElem?_set_self hlt]
   ·have hne:e.2.2.toNat≠k.toNat:=by omega
    have e1:ZN (c.num.set e.2.2.toNat c.ord.length) k=ZN c.num k:=by unfold ZN;simp[List.getD,List.getElem?_set_ne hne]
    rw[e1,h.nu k k0 k1]
    by_cases hk:k∈c.ord
    ·rw[if_pos hk,if_pos (List.mem_append_left _ hk),List.idxOf_append,if_pos hk]
    ·rw[if_neg hk,if_neg (fun hmm=>by
      rcases List.mem_append.1 hmm with h2 | h2
      ·exact hk h2
      ·simp only[List.mem_singleton] at h2;exact ek h2)]
  ·simp only[cnF]
   rw[hidx]
theorem Uj {st:Int}{i:Nat}:∀(es:List Ed) (c:Cs),NuI st c.ord c.num→(∀e∈es,0≤e.2.2∧e.2.2<st)→NuI st (es.foldl (Zi i) c).ord (es.foldl (Zi i) c).num∧(∃r,(es.foldl (Zi i) c).ord=c.ord++r)∧(es.foldl (Zi i) c).mk'=c.mk' ∧
  (es.foldl (Zi i) c).ed=c.ed++es.map (cnF (es.foldl (Zi i) c).ord i)∧∀e∈es,e.2.2∈(es.foldl (Zi i) c).ord
 | [],c,h,_=>⟨h,⟨[],by simp⟩,rfl,by simp,fun e he=>by cases he⟩
 | e::es,c,h,hb=>by
  obtain ⟨b0,b1⟩:=hb e List.mem_cons_self
  obtain ⟨h1,⟨r1,h2⟩,h3,h4,h5⟩:=QaO (i:=i) h b0 b1
  obtain ⟨k1,⟨r2,k2⟩,k3,k4,k5⟩:=Uj (i:=i) es (Zi i c e) h1 (fun d hd=>hb d (List.mem_cons_of_mem _ hd))
  rw[List.foldl_cons]
  refine ⟨k1,⟨r1++r2,by rw[k2,h2,List.append_assoc]⟩,k3.trans h3,?_,fun d hd=>?_⟩
  ·rw[k4,h4,List.append_assoc,List.map_cons]
   have:cnF (Zi i c e).ord i e=cnF (es.foldl (Zi i) (Zi i c e)).ord i e:=by
    unfold cnF
    rw[k2,List.idxOf_append,if_pos h5]
   rw[this];rfl
  ·rcases List.mem_cons.1 hd with rfl | hd
   ·rw[k2];exact List.mem_append_left _ h5
   ·exact k5 d hd
structure CnG (a:QM) (i:Nat) (c:Cs):Prop where
 nu:NuI a.st c.ord c.num
 le:i≤c.ord.length
 hd:ZN c.ord 0=0∧0<c.ord.length
 mk2:c.mk'=((List.range' 0 i).filter fun j:Nat=>decide (ZN c.ord j∈a.mr)).map fun j:Nat=>(j:Int)
 ed:c.ed=(List.range' 0 i).flatMap (cnR a c.ord)
 cl:∀j,j<i→∀e∈Zv a.ed (ZN c.ord j),e.2.2∈c.ord
theorem Qid {a:QM}{ord r:LI}{j:Nat}(hj:j<ord.length) (hc:∀e∈Zv a.ed (ZN ord j),e.2.2∈ord):cnR a (ord++r) j=cnR a ord j:=by
 unfold cnR
 rw[jO hj]
 refine List.map_congr_left fun e he=>?_
 unfold cnF
 rw[List.idxOf_append,if_pos (hc e he)]
theorem CnG.next {a:QM}(ho:Q4 a) {i:Nat}{c:Cs}(h:CnG a i c) (hi:i<c.ord.length):CnG a (i+1) (qD a i c):=by
 unfold qD
 have hmo:(ZP a i c).ord=c.ord:=by unfold ZP;split <;> rfl
 have hmn:(ZP a i c).num=c.num:=by unfold ZP;split <;> rfl
 have hme:(ZP a i c).ed=c.ed:=by unfold ZP;split <;> rfl
 obtain ⟨k1,⟨r,k2⟩,k3,k4,k5⟩:=Uj (st:=a.st) (i:=i) (Zv a.ed (ZN c.ord i)) (ZP a i c) (by rw[hmo,hmn];exact h.nu) (fun e he=>(ho.ed e (Z8 he).1).2.2.2)
 generalize (Zv a.ed (ZN c.ord i)).foldl (Zi i) (ZP a i c)=d at k1 k2 k3 k4 k5
 rw[hmo] at k2
 rw[hme] at k4
 have pre:∀j:Nat,j≤i→ZN d.ord j=ZN c.ord j:=fun j hj=>by rw[k2];exact jO (by omega)
 refine ⟨k1,by rw[k2];simp;omega,⟨by have:=pre 0 (by omega);rw[show ((0:Nat):Int)=0 from rfl] at this;rw[this];exact h.hd.1,by rw[k2];simp;omega⟩,?_,?_,fun j hj=>?_⟩
 ·rw[k3,List.range'_1_concat,List.filter_append,List.map_append,Nat.zero_add]
  have e1:((List.range' 0 i).filter fun j:Nat=>decide (ZN d.ord j∈a.mr))=(List.range' 0 i).filter fun j:Nat=>decide (ZN c.ord j∈a.mr):=by
   refine List.filter_congr fun j hj=>?_
   rw[List.mem_range'_1] at hj
   rw[pre j (by omega)]
  rw[e1]
  unfold ZP
  by_cases hm:ZN c.ord i∈a.mr
  ·rw[if_pos hm]
   simp only[]
   rw[List.filter_cons,if_pos (by rw[pre i (Nat.le_refl _)];exact decide_eq_true hm),List.filter_nil,h.mk2];rfl
  ·rw[if_neg hm]
   rw[List.filter_cons,if_neg (by rw[pre i (Nat.le_refl _),decide_eq_false hm];simp),List.filter_nil,h.mk2];simp
 ·rw[k4,List.range'_1_concat,List.flatMap_append,Nat.zero_add,h.ed]
  congr 1
  ·refine Xr fun j hj=>?_
   rw[List.mem_range'_1] at hj
   rw[k2]
   exact (Qid (by omega) (h.cl j (by omega))).symm
  ·simp only[List.flatMap_cons,List.flatMap_nil,List.append_nil]
   unfold cnR
   rw[pre i (Nat.le_refl _)]
 ·by_cases e:j=i
  ·subst e;rw[pre j (Nat.le_refl _)];exact k5
  ·intro d' hd'
   rw[pre j (by omega)] at hd'
   rw[k2];exact List.mem_append_left _ (h.cl j (by omega) d' hd')
theorem zC {a:QM}(ho:Q4 a):∀(f i:Nat) (c:Cs),CnG a i c→∃i',CnG a i' (Xt a f i c)∧((Xt a f i c).ord.length=i'∨i'=i+f)
 | 0,i,c,h=>⟨i,h,.inr rfl⟩
 | f+1,i,c,h=>by
  rw[Xt]
  split
  ·rename_i hi
   obtain ⟨i',h1,h2⟩:=zC ho f (i+1) _ (h.next ho hi)
   exact ⟨i',h1,by omega⟩
  ·exact ⟨i,h,.inl (by have:=h.le;omega)⟩
structure CnP (a:QM) (ord:LI):Prop where
 nd:ord.Nodup
 bd:∀s∈ord,0≤s∧s<a.st
 hd:ZN ord 0=0∧0<ord.length
 al:(Jw a).al=a.al
 st:(Jw a).st=(ord.length:Int)
 mk2:(Jw a).mr=((List.range' 0 ord.length).filter fun j:Nat=>decide (ZN ord j∈a.mr)).map fun j:Nat=>(j:Int)
 ed:(Jw a).ed=(List.range' 0 ord.length).flatMap (cnR a ord)
 cl:∀j,j<ord.length→∀e∈Zv a.ed (ZN ord j),e.2.2∈ord
theorem Qdx {a:QM}(ho:Q4 a) (h0:0<a.st):∃ord,CnP a ord:=by
 have hpos:0<a.st.toNat:=by omega
 have hI:CnG a 0 (Yh a):=by
  refine ⟨⟨by simp[Yh],fun s hs=>by simp[Yh] at hs;subst hs;omega,by simp[Yh],fun k k0 k1=>?_⟩,Nat.zero_le _,⟨by simp[Yh,ZN],by simp[Yh]⟩,by simp[Yh],by simp[Yh],fun j hj=>by omega⟩
  by_cases ek:k=0
  ·subst ek
   rw[if_pos (by simp[Yh])]
   unfold ZN Yh
   simp[List.getD,hpos]
  ·rw[if_neg (by simpa[Yh] using ek)]
   unfold Yh
   have hne:0≠k.toNat:=by omega
   have hlt:k.toNat<a.st.toNat:=by omega
   unfold ZN
   rw[List.getD_eq_getElem?_getD,List.getElem?_set_ne hne]
   simp[hlt]
 obtain ⟨i',h1,h2⟩:=zC ho a.st.toNat 0 (Yh a) hI
 have hlen:(Xt a a.st.toNat 0 (Yh a)).ord.length≤a.st.toNat:=pig _ _ h1.nu.nd (fun x hx=>by have:=h1.nu.bd x hx;omega)
 have hi':i'=(Xt a a.st.toNat 0 (Yh a)).ord.length:=by have:=h1.le;omega
 subst hi'
 have hcan:Jw a=⟨a.al,((Xt a a.st.toNat 0 (Yh a)).ord.length:Int),(Xt a a.st.toNat 0 (Yh a)).mk',(Xt a a.st.toNat 0 (Yh a)).ed⟩:=by unfold Jw;rw[if_neg (by omega)]
 refine ⟨(Xt a a.st.toNat 0 (Yh a)).ord,h1.nu.nd,h1.nu.bd,h1.hd,by rw[hcan],by rw[hcan],?_,?_,h1.cl⟩
 ·rw[hcan];exact h1.mk2
 ·rw[hcan];exact h1.ed
section
variable {p s:QM} {pn xn v:Int}
end
section
variable {s:QM} {l:List KO} {n:Nat}
end
theorem Qdy {a:QM}(ho:Q4 a):Q4 (Jw a):=by
 have h0:=ho.st0
 have h1:=ho.st1
 by_cases hz:a.st=0
 ·unfold Jw
  rw[if_pos hz]
  exact ⟨ho.al,ho.ali,by simp,by simp,by simp,by simp,by simp,by simp⟩
 ·obtain ⟨ord,h⟩:=Qdx ho (by omega)
  have hl:ord.length≤a.st.toNat:=pig _ _ h.nd (fun x hx=>by have:=h.bd x hx;omega)
  refine ⟨by rw[h.al];exact ho.al,by rw[h.al];exact ho.ali,by rw[h.st];omega,by rw[h.st];omega,fun s hs=>?_,?_,fun e he=>?_,?_⟩
  ·rw[h.mk2] at hs
   simp only[List.mem_map,List.mem_filter,List.mem_range'_1] at hs
   obtain ⟨i,⟨hi,_⟩,rfl⟩:=hs
   rw[h.st];omega
  ·rw[h.mk2]
   unfold Yu
   rw[List.pairwise_map]
   refine List.Pairwise.sublist List.filter_sublist ?_
   exact (List.pairwise_lt_range' (s:=0) (n:=ord.length)).imp (fun h=>by omega)
  ·rw[h.ed] at he
   obtain ⟨j,hj,hd⟩:=List.mem_flatMap.1 he
   rw[List.mem_range'_1] at hj
   unfold cnR at hd
   obtain ⟨d,hd2,rfl⟩:=List.mem_map.1 hd
   have hm:=h.cl j (by omega) d hd2
   have:=List.idxOf_lt_length_of_mem hm
   have hda:=(ho.ed d (Z8 hd2).1).2.2.1
   rw[h.st,h.al]
   unfold cnF
   exact ⟨by simp only[];omega,by simp only[];omega,hda,by simp only[];omega,by simp only[];omega⟩
  ·rw[h.ed]
   have key:∀n,((List.range' 0 n).flatMap (cnR a ord)).Pairwise fun x y:Ed=>x.1<y.1∨(x.1=y.1∧x.2.1<y.2.1):=by
    intro n
    induction n with
    | zero=>simp
    | succ n ih =>
     rw[List.range'_1_concat,List.flatMap_append,Nat.zero_add,List.pairwise_append]
     refine ⟨ih,?_,fun x hx y hy=>?_⟩
     ·simp only[List.flatMap_cons,List.flatMap_nil,List.append_nil]
      unfold cnR
      rw[List.pairwise_map]
      have h2:(Zv a.ed (ZN ord n)).Pairwise fun x y:Ed=>x.1<y.1∨(x.1=y.1∧x.2.1<y.2.1):=List.Pairwise.sublist List.filter_sublist ho.edi
      refine List.Pairwise.imp_of_mem (fun {x y} hx hy hxy=>?_) h2
      have e1:=(Z8 hx).2
      have e2:=(Z8 hy).2
      right
      exact ⟨rfl,by show x.2.1<y.2.1;omega⟩
     ·obtain ⟨j,hj,hx2⟩:=List.mem_flatMap.1 hx
      rw[List.mem_range'_1] at hj
      simp only[List.flatMap_cons,List.flatMap_nil,List.append_nil] at hy
      unfold cnR at hx2 hy
      obtain ⟨d,_,rfl⟩:=List.mem_map.1 hx2
      obtain ⟨d',_,rfl⟩:=List.mem_map.1 hy
      left
      show (j:Int)<(n:Int)
      omega
   exact key _
theorem Qdd {a:QM}(ho:Q4 a):Q4 ⟨a.al,0,[],[]⟩ :=
 ⟨ho.al,ho.ali,Int.le_refl _,(by decide:(0:Int)≤4096),(fun s hs=>by cases hs),List.Pairwise.nil,(fun e he=>by cases he),List.Pairwise.nil⟩
theorem QcV {a:QM}(ho:Q4 a) (lf:Lf):Q4 (QaL a lf):=by
 unfold QaL
 split
 ·exact Qdd ho
 ·exact Qdy (qX ho lf)
theorem y8 {c:Zy}(h:suE c=0):Q4 (V2 c):=QcV (Qeh h).1 _
theorem QeX {c:Zy}{m:Mdl}(h:msE c m=0):Q4 (msA c m):=by
 have h1:msE c m=if mcE c m≠0 then mcE c m else suE (mcC c m):=rfl
 rw[h1] at h
 split at h
 ·rename_i h2;exact absurd h h2
 ·exact y8 h
theorem jy {c:Zy}:∀{l:List Mdl},msL c l=0→∀m∈l,msE c m=0
 | [],_,m,hm=>by cases hm
 | x::l,h,m,hm=>by
  rw[jz] at h
  by_cases h1:msE c x≠0
  ·rw[if_pos h1] at h;exact absurd h h1
  ·rw[if_neg h1] at h
   rcases List.mem_cons.1 hm with rfl | hm
   ·exact Decidable.not_not.1 h1
   ·exact jy h m hm
theorem Uh {c:Zy}(h:KQ c=0):∀a∈Xl c,Q4 a:=by
 rw[QaK] at h
 by_cases h1:Zg c≠0
 ·rw[if_pos h1] at h;exact absurd h h1
 rw[if_neg h1] at h
 have hok:=Yc (Decidable.not_not.1 h1)
 have hsl:Xl c=(mods c).map (msA c)++(rem c).map (coA c):=rfl
 intro a ha
 rw[hsl] at ha
 rcases List.mem_append.1 ha with ha | ha
 ·obtain ⟨m,hm,rfl⟩:=List.mem_map.1 ha
  exact QeX (jy h m hm)
 ·obtain ⟨i,hi,rfl⟩:=List.mem_map.1 ha
  have hr:=Qet i hi
  have hil:i.toNat<c.co.length:=by omega
  have e:coA c i=(c.co[i.toNat]'hil).a:=by unfold coA;simp[List.getD,hil]
  rw[e]
  exact hok.co _ (List.getElem_mem hil)
theorem Qd0 (c:Zy):XW c=if KQ c≠0 then KQ c else XX (Xl c):=rfl
theorem zS {c:Zy}(h:XW c=0):KQ c=0∧XX (Xl c)=0:=by
 rw[Qd0] at h
 by_cases h1:KQ c≠0
 ·rw[if_pos h1] at h;exact absurd h h1
 ·rw[if_neg h1] at h;exact ⟨Decidable.not_not.1 h1,h⟩
theorem QbM {l:List QM}(h:XX l=0):sync l=some (syA l,syQ l)∧Kc l=0:=by
 unfold XX at h
 by_cases h1:Kc l≠0
 ·rw[if_pos h1] at h;exact absurd h h1
 ·rw[if_neg h1] at h
  refine ⟨?_,Decidable.not_not.1 h1⟩
  unfold syA syQ
  cases hs:sync l with
  | none=>rw[hs] at h;cases h
  | some z=>rfl
theorem Ku {c:Zy}(h:XW c=0):SyP (Xl c) (Z7 c) (tgQ c)∧Q4 (Z7 c):=by
 obtain ⟨h1,h2⟩:=zS h
 have ho:=Uh h1
 have hs:=(J1 ho (QbM h2).1).1
 exact ⟨hs,SyP.okay ho hs⟩
structure TmV where
 vl:Value
 va:Value
 vm:Value
 ve:Value
 vt:Value
 A:QM
 ps:List AV
 qs:List TV
abbrev J0 (t:TmV):LV:=[t.vl,t.va,.int .i64 t.A.st,t.vm,t.ve,t.vt]
structure qw (L:LN) (H:Array Obj) (t:TmV):Prop where
 l:YJ L H t.vl t.ps
 a:Zp L H t.va t.vm t.ve t.A
 q:Xv L H t.vt t.qs
theorem qw.ext {L:LN}{w w':World}{t:TmV}(h:qw L w.heap t) (hs:Step [] w w'):qw L w'.heap t:=⟨h.l.ext hs,h.a.ext hs,h.q.ext hs⟩
theorem qw.st {L:LN}{w w':World}{t:TmV}(h:qw L w.heap t) (hs:Step L w w'):qw L w'.heap t:=⟨h.l.st hs,h.a.st hs,h.q.st hs⟩
theorem qw.up {L L':LN}{H:Array Obj}{t:TmV}(h:qw L H t) (hL:∀b∈L',b∈L∨H.size≤b):qw L' H t:=⟨h.l.up hL,h.a.up hL,h.q.up hL⟩
structure QkZ (c:Zy) (t:TmV):Prop where
 A:t.A=Z7 c
 l:t.ps.map (·.a)=Xl c
 q:t.qs.map (·.2)=tgQ c
instance:Bw Tryz.prog 111 [nS,nS,.int .i64 0,nS,nS,nS] [(0,1),(1,4),(5,1)]:=⟨by kernel_rfl,by decide⟩
abbrev jw:LV:=[nS,nS,.int .i64 0,nS,nS,nS]
set_option maxHeartbeats 4000000 in
theorem KZ {L:LN}{w:World}{c:CL}(h0:ZI L w.heap c) (hkb:Kb w 4096) :
  QG Tryz.prog 39 [c.val] w fun r w'=>Step [] w w'∧∃us,r=.tuple #[.agg us.toArray,.int .i64 (XW c.cel)]∧us.length=6∧ZB us∧(XW c.cel=0→∃t,us=J0 t∧QkZ c.cel t∧∀L:LN,(∀b∈L,b<w.heap.size)→qw L w'.heap t):=by
 have h:=h0.up (L':=[]) (by simp)
 have htg:=Qd0 c.cel
 refine Zf (XW c.cel) fun E hE=>?_
 rw[hE] at htg ⊢
 refine QG.of_W Tryz.func39 rfl Tryz.ntmps39 Tryz.results39 (by simp) ?_
 refine Qc<|xl rfl<|QR (us:=c.cells) rfl fun b1 w1 hs1 hb1 hB1=>xl rfl<|Qu (us:=jw) rfl fun b2 w2 hs2 hb2 hB2=>Qf ?_
 have hs02:=hs1.trans hs2
 have hz1:=hs1.size
 have hz2:=hs2.size
 have hl2:=hB2.lt
 refine Qc<|x (Qq (hB1.ext hs2) rfl rfl)<|xl rfl<|xf<|(JU (h.ext hs02) (hkb.ext hs02)).mono ?_
 rintro r3 w3 ⟨hs3,vl,rfl,hbad,hgood⟩
 refine Qb<|x (Qj rfl rfl)<|x (Qj rfl rfl)<|x Qe<|Qf ?_
 have hs03:=hs02.trans hs3
 have hz3:=hs3.size
 have hB23:=hB2.ext hs3
 refine Qg<|Qc<|Qb<|x (Q6 rfl rfl)<|xe ?_
 refine Q3 rfl (fun h14=>?_) (fun h14=>?_)
 ·rw[if_pos h14] at htg
  subst htg
  refine Qc<|x (Zw [] trivial)<|Qb<|xl rfl<|Qo (us:=jw) hB23 rfl rfl rfl rfl ⟨rfl,rfl,rfl,rfl,rfl,rfl,trivial⟩ fun w4 hs4 hB24=>Qf ?_
  exact Ql ⟨[.agg jw.toArray,.int .i64 (KQ c.cel)],⟨⟨_,rfl,Qx rfl (hB24.at (L:=[]) (by simp)).cells⟩,rfl,trivial⟩,hs03.then1 hs4 (by omega),jw,rfl,rfl,⟨rfl,rfl,rfl,rfl,rfl,rfl,trivial⟩,fun h0=>absurd h0 h14⟩
 rw[if_neg h14] at htg
 subst htg
 have hsv:=Decidable.not_not.1 h14
 obtain ⟨hv1,ps,hps,hpA⟩:=hgood hsv
 have hok:∀p∈ps,Q4 p.a:=fun p hp=>Uh hsv p.a (by rw[←hps];exact List.mem_map_of_mem hp)
 refine Qi ?_
 refine Qc<|Qb<|xl rfl<|xf<|(Vj (km:=4096) (hpA [] (by simp)) (hkb.ext hs03) (by decide) (V6 hok)).mono ?_
 rintro r5 w5 ⟨hs5,vA,vt,e,rfl,hR⟩
 rw[hps] at hR
 have he:=hR.e
 subst he
 have hsh:∃us,vA=.agg us.toArray∧us.length=4∧ZB us:=by
  by_cases he:XX (Xl c.cel)=0
  ·exact Jn (hR.good he).1
  ·exact ⟨[nS,.int .i64 0,nS,nS],(hR.bad he).1,rfl,rfl,rfl,rfl,rfl,trivial⟩
 have hvt:vt.oneCell'=true:=by
  by_cases he:XX (Xl c.cel)=0
  ·obtain ⟨qs,_,hq⟩:=(hR.good he).2.1
   exact (hq [] (by simp)).arr.one
  ·rw[(hR.bad he).2];rfl
 obtain ⟨us,hva,hul,huo⟩:=hsh
 subst hva
 obtain ⟨u0,u1,u2,u3,rfl⟩:∃u0 u1 u2 u3,us=[u0,u1,u2,u3]:=by
  match us,hul with
  | [u0,u1,u2,u3],_=>exact ⟨u0,u1,u2,u3,rfl⟩
 have hz5:=hs5.size
 refine Qb<|x (Qj rfl rfl)<|x (Qj rfl rfl)<|x (Qj rfl rfl)<|xl rfl<|Qu (us:=[nS,.int .i64 0,nS,nS]) rfl fun b6 w6 hs6 hb6 hB6=>xl rfl<|Qo (us:=[u0,u1,u2,u3]) hB6 rfl rfl rfl rfl huo fun w7 hs7 hB67 =>
  x Qe<|Qf ?_
 have hs57:Step [] w5 w7:=hs6.then1 hs7 hb6
 have hs37:=hs5.trans hs57
 have hones:ZB [vl,u0,u1,u2,u3,vt]:=⟨hv1,huo.1,huo.2.1,huo.2.2.1,huo.2.2.2.1,hvt,trivial⟩
 refine Qc<|Qb<|x (Qq hB67 rfl rfl)<|Qb<|x (Zw [(0,[vl]),(1,[u0,u1,u2,u3]),(2,[vt])] ⟨Xf hv1,rfl,rfl,rfl,Xf hvt,rfl,trivial⟩)<|Qb<|xl rfl<|Qo (us:=[vl,u0,u1,u2,u3,vt]) (hB23.ext hs37) rfl rfl rfl rfl hones fun w8 hs8 hB28 =>
  Qf ?_
 refine Ql ⟨[.agg [vl,u0,u1,u2,u3,vt].toArray,.int .i64 (XX (Xl c.cel))],⟨⟨_,rfl,Qx rfl (hB28.at (L:=[]) (by simp)).cells⟩,rfl,trivial⟩,(hs03.trans hs37).then1 hs8 (by omega),[vl,u0,u1,u2,u3,vt],rfl,rfl,hones,fun he=>?_⟩
 obtain ⟨⟨va,vm,ve,hv,hA⟩,⟨qs,hqs,hQ⟩,_⟩:=hR.good he
 have hv':u0=va∧u1=.int .i64 (syA (Xl c.cel)).st∧u2=vm∧u3=ve:=by
  have e1:=Value.agg.inj hv
  simpa using e1
 obtain ⟨rfl,rfl,rfl,rfl⟩:=hv'
 refine ⟨⟨vl,u0,u2,u3,vt,Z7 c.cel,ps,qs⟩,rfl,⟨rfl,hps,hqs⟩,fun L hL=>?_⟩
 have hL2:∀b∈b2::L,b<w3.heap.size:=fun b hb=>by
  rcases List.mem_cons.1 hb with rfl | hb
  ·omega
  ·have:=hL b hb;omega
 have hL3:∀b∈L,b<w2.heap.size:=fun b hb=>by have:=hL b hb;omega
 have hL2':∀b∈b2::L,b<w2.heap.size:=fun b hb=>by
  rcases List.mem_cons.1 hb with rfl | hb
  ·exact hl2
  ·exact hL3 b hb
 have t1:qw (b2::L) w7.heap ⟨vl,u0,u2,u3,vt,Z7 c.cel,ps,qs⟩:=⟨((hpA (b2::L) hL2').ext hs37),(hA (b2::L) hL2).ext hs57,(hQ (b2::L) hL2).ext hs57⟩
 exact (t1.st (hs8.mono (by simp))).up (fun b hb=>.inl (by simp[hb]))
theorem UL {A:QM}(ho:Q4 A) {aa:List QM}{Q:List (LI)}(h:SyP aa A Q) {u:LI}(hg:gens A u=true):QaQ A 0 u=0∧∃j:Nat,j<Q.length∧(flw A 0 u).1=(j:Int):=by
 obtain ⟨j,hj,hf,_⟩:=QhN ho h hg
 have h1:=Qbe ho u 0 (by rw[hf])
 have hst:=h.st
 refine ⟨?_,j,hj,by rw[hf]⟩
 have hck:cks A 0=0:=by
  unfold cks
  rw[if_neg (by simpa using (Zt A).2 ho),if_neg (by omega)]
 unfold QaQ
 rw[if_neg (by simpa using hck),if_neg]
 intro h2
 obtain ⟨e,he,h3⟩:=List.any_eq_true.1 h2
 exact of_decide_eq_true h3 (h1 e he)
theorem zg {w:World}{t:TmV}{c:Zy}{vw:Value}{u:LI}(hT:qw [] w.heap t) (hok:QkZ c t) (he:XW c=0) (hu:QL [] w.heap vw u) :
  QG Tryz.prog 40 [.agg (J0 t).toArray,vw] w fun r w'=>Step [] w w'∧r=.tuple #[.int .i64 (if gens (Z7 c) u=true then (flw (Z7 c) 0 u).1 else 0),.bool (gens (Z7 c) u)]:=by
 obtain ⟨hsy,hoA⟩:=Ku he
 refine QG.of_W Tryz.func40 rfl Tryz.ntmps40 Tryz.results40 (by simp) ?_
 refine Qc<|xl rfl<|QR (us:=J0 t) rfl fun b2 w1 hs1 hb2 hB2=>x Qe<|Qf ?_
 refine Qg<|Qc<|x (Qa rfl)<|x (ZE (us:=[t.va,.int .i64 t.A.st,t.vm,t.ve]) hB2 rfl rfl rfl)<|Qb<|xl rfl<|xf<|(yN (hT.a.ext hs1) (hu.ext hs1)).mono ?_
 rintro r2 w2 ⟨rfl,hs2⟩
 refine Qb<|x (Qj rfl rfl)<|x (Qj rfl rfl)<|x Qe<|Qf ?_
 have hs02:=hs1.trans hs2
 rw[←hok.A]
 refine Qc<|Qb<|x (Zo rfl)<|xe ?_
 refine QW rfl (fun h19=>?_) (fun h19=>?_)
 ·have hg:gens t.A u=false:=by simpa using h19
  refine Qc<|x Qe<|Qf ?_
  exact Ql ⟨[.int .i64 0,.bool false],⟨rfl,rfl,trivial⟩,hs02,by rw[hg];rfl⟩
 have hg:gens t.A u=true:=by simpa using h19
 obtain ⟨hrun,_⟩:=UL (A:=t.A) (by rw[hok.A];exact hoA) (by rw[hok.A];exact hsy) hg
 refine Qi ?_
 refine Qc<|x (Qa rfl)<|x (ZE (us:=[t.va,.int .i64 t.A.st,t.vm,t.ve]) (hB2.ext hs2) rfl rfl rfl)<|Qb<|xl rfl<|xf<|(QbA (hT.a.ext hs02) (hu.ext hs02) 0).mono ?_
 rintro r3 w3 ⟨hs3,hr3⟩
 rw[if_neg (by simpa using hrun)] at hr3
 subst hr3
 refine Qb<|x (Qj rfl rfl)<|x (Qj rfl rfl)<|x (Qj rfl rfl)<|x Qe<|x Qe<|Qf ?_
 refine Qc<|Qb<|x Qe<|Qf ?_
 exact Ql ⟨[.int .i64 (flw t.A 0 u).1,.bool true],⟨rfl,rfl,trivial⟩,hs02.trans hs3,by rw[hg];rfl⟩
def pmE (c:Zy) (u:LI):Int:=if XW c≠0 then XW c else if gens (Z7 c) u=true then 0 else 10
def pmL (c:Zy) (u:LI):LI:=enb (Z7 c) (flw (Z7 c) 0 u).1
theorem yK {L:LN}{w:World}{c:CL}{vw:Value}{u:LI}(h0:ZI L w.heap c) (hu0:QL L w.heap vw u) (hkb:Kb w 4096) :
  QG Tryz.prog 11 [c.val,vw] w fun r w'=>Step [] w w'∧∃v,r=.tuple #[v,.int .i64 (pmE c.cel u)]∧(pmE c.cel u≠0→v=Za)∧(pmE c.cel u=0→Qs 3 w.heap.size w' v (pmL c.cel u)):=by
 have h:=h0.up (L':=[]) (by simp)
 have hu:=hu0.up (L':=[]) (by simp)
 have hp:pmE c.cel u=if XW c.cel≠0 then XW c.cel else if gens (Z7 c.cel) u=true then 0 else 10:=rfl
 refine Zf (pmE c.cel u) fun E hE=>?_
 rw[hE] at hp ⊢
 refine QG.of_W Tryz.func11 rfl Tryz.ntmps11 Tryz.results11 (by simp) ?_
 refine Qc<|xl rfl<|QR (us:=c.cells) rfl fun b2 w1 hs1 hb2 hB2=>x Qe<|Qf ?_
 refine Qc<|x (Qq hB2 rfl rfl)<|xl rfl<|xf<|(KZ (h.ext hs1) (hkb.ext hs1)).mono ?_
 rintro r2 w2 ⟨hs2,us,rfl,hul,huo,hgood⟩
 refine Qb<|x (Qj rfl rfl)<|x (Qj rfl rfl)<|xl rfl<|Qu (us:=jw) rfl fun b6 w3 hs3 hb6 hB6=>xl rfl<|Qo (us:=us) hB6 rfl rfl hul rfl huo fun w4 hs4 hB64 =>
  Qf ?_
 have hs24:Step [] w2 w4:=hs3.then1 hs4 hb6
 have hs04:=(hs1.trans hs2).trans hs24
 refine Qg<|Qc<|Qb<|x (Q6 rfl rfl)<|xe ?_
 refine Q3 rfl (fun h16=>?_) (fun h16=>?_)
 ·rw[if_pos h16] at hp
  subst hp
  refine Qc<|Qb<|x Qe<|Qf ?_
  exact Ql ⟨[Za,.int .i64 (XW c.cel)],⟨rfl,rfl,trivial⟩,hs04,Za,rfl,fun _=>rfl,fun h0=>absurd h0 h16⟩
 rw[if_neg h16] at hp
 have he:=Decidable.not_not.1 h16
 obtain ⟨t,ht,hok,hT⟩:=hgood he
 subst ht
 have hT4:qw [] w4.heap t:=(hT [] (by simp)).ext hs24
 refine Qi ?_
 refine Qc<|x (Qq hB64 rfl rfl)<|Qb<|xl rfl<|xf<|(zg hT4 hok he (hu.ext hs04)).mono ?_
 rintro r5 w5 ⟨hs5,rfl⟩
 refine Qb<|x (Qj rfl rfl)<|x (Qj rfl rfl)<|x Qe<|Qf ?_
 have hs05:=hs04.trans hs5
 have hz05:=hs05.size
 refine Qg<|Qc<|Qb<|x (Zo rfl)<|xe ?_
 refine QW rfl (fun h25=>?_) (fun h25=>?_)
 ·have hg:gens (Z7 c.cel) u=false:=by simpa using h25
  rw[hg,if_neg (by decide)] at hp
  subst hp
  refine Qc<|x Qe<|Qf ?_
  exact Ql ⟨[Za,.int .i64 10],⟨rfl,rfl,trivial⟩,hs05,Za,rfl,fun _=>rfl,fun h0=>absurd h0 (by decide)⟩
 have hg:gens (Z7 c.cel) u=true:=by simpa using h25
 rw[if_pos hg] at hp
 subst hp
 obtain ⟨hsy,hoA⟩:=Ku he
 obtain ⟨_,j,hj,hfj⟩:=UL hoA hsy hg
 have hst:=hsy.st
 have hcks:cks (Z7 c.cel) (flw (Z7 c.cel) 0 u).1=0:=by
  unfold cks
  rw[if_neg (by simpa using (Zt _).2 hoA),if_neg (by omega)]
 refine Qi ?_
 refine Qc<|x (Qa rfl)<|x (ZE (us:=[t.va,.int .i64 t.A.st,t.vm,t.ve]) (hB64.ext hs5) rfl rfl rfl)<|Qb<|?_
 have hen:=KL (hT4.a.ext hs5) (flw (Z7 c.cel) 0 u).1
 rw[hok.A] at hen
 have hift:(if gens (Z7 c.cel) u=true then (flw (Z7 c.cel) 0 u).1 else 0)=(flw (Z7 c.cel) 0 u).1:=if_pos hg
 rw[←hok.A] at hen
 have hen':QG Tryz.prog 17 [.agg #[t.va,.int .i64 t.A.st,t.vm,t.ve],.int .i64 (if gens (Z7 c.cel) u=true then (flw (Z7 c.cel) 0 u).1 else 0)] w5 fun r w'=>Step [] w5 w'∧∃v,r=.tuple #[v,.int .i64 0]∧Qs 3 w5.heap.size w' v (pmL c.cel u):=by
  rw[hift]
  refine (KL (hT4.a.ext hs5) (flw (Z7 c.cel) 0 u).1).mono ?_
  rintro r w' ⟨a1,v,a2,a3,a4⟩
  have hcks':cks t.A (flw (Z7 c.cel) 0 u).1=0:=by rw[hok.A];exact hcks
  refine ⟨a1,v,by rw[a2,hcks'],?_⟩
  have:=a4 hcks'
  unfold pmL
  rw[hok.A] at this
  exact this
 refine xl rfl<|xf<|hen'.mono ?_
 rintro r6 w6 ⟨hs6,v6,rfl,ho6⟩
 refine x (Qj rfl rfl)<|x (Qj rfl rfl)<|x Qe<|Qf ?_
 exact Ql ⟨[v6,.int .i64 0],⟨rfl,rfl,trivial⟩,hs05.trans hs6,v6,rfl,fun h0=>absurd rfl h0,fun _=>Zc ho6 hz05⟩
def mrT (c:Zy) (u:LI):LI:=(tgQ c).getD (flw (Z7 c) 0 u).1.toNat []
def mrE (c:Zy) (u:LI) (e:Int):Int:=if XW c≠0 then XW c else if gens (Z7 c) u=true then ckV (Xl c) (mrT c u) e else 10
def mrL (c:Zy) (u:LI) (e:Int):LI:=rfL (Xl c) (mrT c u) e
theorem yk {L:LN}{w:World}{c:CL}{vw:Value}{u:LI}(h0:ZI L w.heap c) (hu0:QL L w.heap vw u) (e:Int) (hkb:Kb w 4096) :
  QG Tryz.prog 12 [c.val,vw,.int .i64 e] w fun r w'=>Step [] w w'∧∃v,r=.tuple #[v,.int .i64 (mrE c.cel u e)]∧(mrE c.cel u e≠0→v=Za)∧(mrE c.cel u e=0→Qs 3 w.heap.size w' v (mrL c.cel u e)):=by
 have h:=h0.up (L':=[]) (by simp)
 have hu:=hu0.up (L':=[]) (by simp)
 have hp:mrE c.cel u e=if XW c.cel≠0 then XW c.cel else if gens (Z7 c.cel) u=true then ckV (Xl c.cel) (mrT c.cel u) e else 10:=rfl
 have hml:mrL c.cel u e=rfL (Xl c.cel) (mrT c.cel u) e:=rfl
 rw[hml]
 refine Zf (mrE c.cel u e) fun E hE=>?_
 rw[hE] at hp ⊢
 refine QG.of_W Tryz.func12 rfl Tryz.ntmps12 Tryz.results12 (by simp) ?_
 refine Qc<|xl rfl<|QR (us:=c.cells) rfl fun b2 w1 hs1 hb2 hB2=>x Qe<|Qf ?_
 refine Qc<|x (Qq hB2 rfl rfl)<|xl rfl<|xf<|(KZ (h.ext hs1) (hkb.ext hs1)).mono ?_
 rintro r2 w2 ⟨hs2,us,rfl,hul,huo,hgood⟩
 refine Qb<|x (Qj rfl rfl)<|x (Qj rfl rfl)<|xl rfl<|Qu (us:=jw) rfl fun b6 w3 hs3 hb6 hB6=>xl rfl<|Qo (us:=us) hB6 rfl rfl hul rfl huo fun w4 hs4 hB64 =>
  Qf ?_
 have hs24:Step [] w2 w4:=hs3.then1 hs4 hb6
 have hs04:=(hs1.trans hs2).trans hs24
 refine Qg<|Qc<|Qb<|x (Q6 rfl rfl)<|xe ?_
 refine Q3 rfl (fun h16=>?_) (fun h16=>?_)
 ·rw[if_pos h16] at hp
  subst hp
  refine Qc<|Qb<|x Qe<|Qf ?_
  exact Ql ⟨[Za,.int .i64 (XW c.cel)],⟨rfl,rfl,trivial⟩,hs04,Za,rfl,fun _=>rfl,fun h0=>absurd h0 h16⟩
 rw[if_neg h16] at hp
 have he:=Decidable.not_not.1 h16
 obtain ⟨t,ht,hok,hT⟩:=hgood he
 subst ht
 have hT4:qw [] w4.heap t:=(hT [] (by simp)).ext hs24
 refine Qi ?_
 refine Qc<|x (Qq hB64 rfl rfl)<|Qb<|xl rfl<|xf<|(zg hT4 hok he (hu.ext hs04)).mono ?_
 rintro r5 w5 ⟨hs5,rfl⟩
 refine Qb<|x (Qj rfl rfl)<|x (Qj rfl rfl)<|x Qe<|Qf ?_
 have hs05:=hs04.trans hs5
 have hz05:=hs05.size
 refine Qg<|Qc<|Qb<|x (Zo rfl)<|xe ?_
 refine QW rfl (fun h25=>?_) (fun h25=>?_)
 ·have hg:gens (Z7 c.cel) u=false:=by simpa using h25
  rw[hg,if_neg (by decide)] at hp
  subst hp
  refine Qc<|x Qe<|Qf ?_
  exact Ql ⟨[Za,.int .i64 10],⟨rfl,rfl,trivial⟩,hs05,Za,rfl,fun _=>rfl,fun h0=>absurd h0 (by decide)⟩
 have hg:gens (Z7 c.cel) u=true:=by simpa using h25
 rw[if_pos hg] at hp
 subst hp
 obtain ⟨hsy,hoA⟩:=Ku he
 obtain ⟨_,j,hj,hfj⟩:=UL hoA hsy hg
 have hT5:=hT4.ext hs5
 have hB65:=hB64.ext hs5
 have hqj:j<t.qs.length:=by have:=congrArg List.length hok.q;rw[List.length_map] at this;omega
 have hift:(if gens (Z7 c.cel) u=true then (flw (Z7 c.cel) 0 u).1 else 0)=(j:Int):=by rw[if_pos hg,hfj]
 have hmt:mrT c.cel u=(t.qs[j]'hqj).2:=by
  unfold mrT
  rw[hfj,←hok.q]
  simp[List.getD,hqj]
 have hmem:=List.getElem_mem hqj
 refine Qi ?_
 refine Qg<|QT (Step [] w5) [(0,true),(1,true),(2,true),(3,true),(4,true),(5,true),(6,true),(7,true),(8,false),(9,true),(10,true),(11,true),(12,true)] Tryz.mixed (by rfl) (by kernel_rfl) (Step.drew _ _) ?_
 refine p (fun _=>Qa rfl)<|pq (fun _ hc=>Qd (hB65.ext hc) rfl rfl)<|p (fun _=>Qa rfl)<|pq (fun _ hc=>Qd (hB65.ext hc) rfl rfl) <|
  p (fun _=>Qm)<|Go.Lg.pig rfl (g:=Z5) (i:=j) (fun _=>rfl) hT5.q.arr rfl (congrArg (Value.int .i64) hift) hqj fun a33 h33=>?_
 refine Zf (t.qs[j]'hqj) fun tq htq=>?_
 rw[htq] at h33 hmt hmem
 have hd5:Step [] w5 { w5 with drawn:=w5.drawn+1 }:=Step.drew _ _
 have hTd:=hT5.ext hd5
 have hR:=yh hTd.l (hTd.q.each tq hmem) e
 rw[hok.l,←hmt] at hR
 refine pq (fun _ hc=>Qv (h33.st hc) rfl)<|p (fun _=>Qm)<|pk<|xf<|hR.mono ?_
 rintro r6 w6 ⟨hs6,v6,rfl,hbad6,hgood6⟩
 refine ⟨hd5.trans hs6,?_⟩
 refine p (fun _=>Qj rfl rfl)<|p (fun _=>Qj rfl rfl)<|p (fun _=>Qe)<|p (fun _=>Qe)<|pe ?_
 exact Ql ⟨[v6,.int .i64 (ckV (Xl c.cel) (mrT c.cel u) e)],⟨rfl,rfl,trivial⟩,(hs05.trans hd5).trans hs6,v6,rfl,hbad6,fun h0=>Zc (hgood6 h0) hz05⟩
theorem Qhr {w:World}{va vm ve:Value}{n:Nat}(hn:n≤4096) :
  QG Tryz.prog 65 [.agg #[va,.int .i64 n,vm,ve]] w fun r w'=>Step [] w w'∧Qs 3 w.heap.size w' r (X1 n):=by
  refine QG.of_W Tryz.func65 rfl Tryz.ntmps65 Tryz.results65 (by simp) ?_
  refine Qc<|xl rfl<|QR (us:=[va,.int .i64 n,vm,ve]) rfl fun b1 w1 hs1 hb1 hB1=>Qf ?_
  refine Qc<|Qf ?_
  refine Qg<|Qc<|x (Qa rfl)<|x (Qd hB1 rfl rfl)<|Qb<|xe ?_
  refine Qh<|QA (α:=Nat×Value) [(3,4),(7,14)] (fun z=>[(3,z.2),(7,.int .i64 z.1)]) (fun z w'=>z.1≤n∧Step [] w1 w'∧Qs 3 w1.heap.size w' z.2 (X1 z.1)) (fun z=>n - z.1) (by rfl) (0,nS) ⟨rfl,rfl,trivial⟩
   ⟨Nat.zero_le _,Step.refl _ _,QP _ _ _ _⟩ ?_
  rintro ⟨k,v⟩ g w2 ⟨hk,hs2,ho2⟩
  simp only[] at hk ho2
  have hl:=jx k
  have hz2:=hs2.size
  have hz1:=hs1.size
  refine Qc<|x (QB rfl rfl)<|xe ?_
  refine Qg<|QD rfl (fun h8=>?_) (fun h8=>?_)
  ·refine Qz ?_
   have hke:k=n:=by have h16:¬(k:Int)<(n:Int):=h8;omega
   rw[hke] at ho2
   refine Qc<|Qb<|Qf ?_
   exact Ql ⟨[v],⟨rfl,trivial⟩,hs1.trans hs2,Zc ho2 hz1⟩
  have hlt:k<n:=by have h16:(k:Int)<(n:Int):=h8;omega
  refine Qi ?_
  refine Qg<|Qh<|Qc<|Qb<|Qf ?_
  refine Qw<|Qb<|Qb<|xl rfl<|QI (us:=[[.int .i64 k]]) rfl rfl (by decide) (by simp) ⟨rfl,rfl,trivial⟩ fun b12 w3 hs3 hb12 hB12=>?_
  have hz3:=hs3.size
  refine xl rfl<|Q2 (news:=[.int .i64 k]) (L:=[]) (Qt ho2 hs3) rfl rfl rfl (hB12.at (by simp)) (by simp[Value.oneCell']) (by omega) (by omega) fun v4 w4 ho4 hs4 hn4 =>
   Qf ?_
  have hge:=Qp ho2
  refine Qw<|x (Qy rfl rfl ⟨by omega,by omega⟩)<|Qb<|xe ?_
  refine ⟨(k+1,v4),by simp only[];omega,⟨rfl,rfl,trivial⟩,hlt,(hs2.trans hs3).then hs4 (fun b hb=>.inr (hge b hb).1),?_⟩
  simp only[]
  rw[q8];exact Qs.snoc ho4
theorem QdX {n k:Nat}(h:k<n):(Ki n).drop k=(k:Int)::(Ki n).drop (k+1):=by
 have hl:k<(Ki n).length:=by rw[zQ];exact h
 rw[List.drop_eq_getElem_cons hl]
 congr 1
 simp[Ki]
theorem Qek (c:Zy) (v:Int) (l:LI):shd c (v::l)=if 2≤(ownr c v).length then some (v,cget (ownr c v) 0,cget (ownr c v) 1) else shd c l:=rfl
def shR (c:Zy):Option (Int×Int×Int):=if Zg c≠0 then none else Un c
set_option maxHeartbeats 4000000 in
theorem QdD {L:LN}{w:World}{c:CL}(h0:ZI L w.heap c) :
  QG Tryz.prog 63 [c.val] w fun r w'=>Step [] w w'∧r=.tuple #[.int .i64 (VY (shR c.cel)).1,.int .i64 (VY (shR c.cel)).2.1,.int .i64 (VY (shR c.cel)).2.2,.bool (shR c.cel).isSome,.int .i64 (Zg c.cel)]:=by
 have h:=h0.up (L':=[]) (by simp)
 have hsr:shR c.cel=if Zg c.cel≠0 then none else Un c.cel:=rfl
 refine Zf (Zg c.cel) fun E hE=>?_
 refine Zf (shR c.cel) fun S hS=>?_
 rw[hS,hE] at hsr
 rw[hS,hE]
 have hcl:=h.co.arr.le
 have hel:=h.ev.arr.le
 refine QG.of_W Tryz.func63 rfl Tryz.ntmps63 Tryz.results63 (by simp) ?_
 refine Qc<|xl rfl<|QR (us:=c.cells) rfl fun b1 w1 hs1 hb1 hB1=>x Qe<|x Qe<|x Qe<|x Qe<|Qf ?_
 refine Qg<|Qc<|x (Qq hB1 rfl rfl)<|xl rfl<|xf<|(YV (h.ext hs1)).mono ?_
 rintro r2 w2 ⟨hr2,hs2⟩
 rw[hE] at hr2
 subst hr2
 refine Qf ?_
 have hs02:=hs1.trans hs2
 have hB12:=hB1.ext hs2
 refine Qc<|Qb<|x (Q6 rfl rfl)<|xe ?_
 refine Q3 rfl (fun h15=>?_) (fun h15=>?_)
 ·rw[if_pos h15] at hsr
  subst hsr
  refine Qc<|Qb<|x Qe<|x Qe<|x Qe<|x Qe<|Qf ?_
  exact Ql ⟨[.int .i64 0,.int .i64 0,.int .i64 0,.bool false,.int .i64 E],⟨rfl,rfl,rfl,rfl,rfl,trivial⟩,hs02,rfl⟩
 rw[if_neg h15] at hsr
 have hE0:E=0:=Decidable.not_not.1 h15
 have hev:c.cel.ev.length=c.ev.length:=rfl
 have hsd:Un c.cel=shd c.cel (Ki c.ev.length):=rfl
 rw[hsd] at hsr
 refine Qi ?_
 refine Qg<|Qc<|x (Qa rfl)<|x (Qd hB12 rfl rfl)<|x (Qr (h.ext hs02).ev.arr rfl)<|Qb<|xe ?_
 refine Qh<|QA (α:=Nat) [(2,6),(8,11),(20,51)] (fun z=>[(20,.int .i64 z)]) (fun z w'=>z≤c.ev.length∧Step [] w2 w'∧shd c.cel ((Ki c.ev.length).drop z)=S) (fun z=>c.ev.length - z) (by rfl) 0 ⟨rfl,trivial⟩
  ⟨Nat.zero_le _,Step.refl _ _,hsr.symm⟩ ?_
 rintro k g w3 ⟨hk,hs3,hS3⟩
 have hs03:=hs02.trans hs3
 have hB13:=hB12.ext hs3
 have h3:=h.ext hs03
 refine Qc<|x (QB rfl rfl)<|xe ?_
 refine Qg<|QD rfl (fun h21=>?_) (fun h21=>?_)
 ·refine Qz ?_
  have hke:c.ev.length≤k:=by have h16:¬(k:Int)<(c.ev.length:Int):=h21;omega
  rw[List.drop_of_length_le (by rw[zQ];exact hke)] at hS3
  have hS0:S=none:=hS3.symm
  subst hS0
  refine Qc<|x Qe<|x Qe<|x Qe<|x Qe<|Qf ?_
  exact Ql ⟨[.int .i64 0,.int .i64 0,.int .i64 0,.bool false,.int .i64 0],⟨rfl,rfl,rfl,rfl,rfl,trivial⟩,hs03,by rw[hE0];rfl⟩
 have hlt:k<c.ev.length:=by have h16:(k:Int)<(c.ev.length:Int):=h21;omega
 rw[QdX hlt,Qek] at hS3
 refine Qi ?_
 refine Qg<|Qh<|Qc<|Qb<|Qf ?_
 refine Qc<|Qf ?_
 refine Qg<|Qc<|x (Qa rfl)<|x (Qd hB13 rfl rfl)<|x (Qr h3.co.arr rfl)<|Qb<|xe ?_
 have how:ownr c.cel (k:Int)=ixs (fun q:IV=>decide ((k:Int)∈q.p.a.al)) 0 c.co:=by
  show ixs (fun x:Jb=>decide ((k:Int)∈x.a.al)) 0 (c.co.map (·.it))=_
  generalize 0=i0
  generalize c.co=l
  induction l generalizing i0 with
  | nil=>rfl
  | cons a l ih=>rw[List.map_cons,ixs,ixs,ih (i0+1)];rfl
 rw[how] at hS3
 refine Qh<|QA (α:=Nat×Value) [(9,11),(26,40)] (fun z=>[(9,z.2),(26,.int .i64 z.1)]) (fun z w'=>z.1≤c.co.length∧Step [] w3 w'∧Qs 3 w3.heap.size w' z.2 (ixs (fun q:IV=>decide ((k:Int)∈q.p.a.al)) 0 (c.co.take z.1))) (fun z=>c.co.length - z.1) (by rfl) (0,nS) ⟨rfl,rfl,trivial⟩
  ⟨Nat.zero_le _,Step.refl _ _,QP _ _ _ _⟩ ?_
 rintro ⟨i,v⟩ g w4 ⟨hi,hs4,ho4⟩
 simp only[] at hi ho4
 have hs04:=hs03.trans hs4
 have h4:=h.ext hs04
 have hz4:=hs4.size
 have hlen:=V9 (fun q:IV=>decide ((k:Int)∈q.p.a.al)) (c.co.take i) 0
 rw[List.length_take] at hlen
 refine Qc<|x (QB rfl rfl)<|xe ?_
 refine Qg<|QD rfl (fun h27=>?_) (fun h27=>?_)
 ·refine Qz ?_
  have hie:c.co.length≤i:=by have h16:¬(i:Int)<(c.co.length:Int):=h27;omega
  rw[List.take_of_length_le hie] at ho4
  rw[List.take_of_length_le hie] at hlen
  refine Zf (ixs (fun q:IV=>decide ((k:Int)∈q.p.a.al)) 0 c.co) fun ow how=>?_
  rw[how] at ho4 hlen hS3
  have hA:QL [] w4.heap v ow:=Qs.ints ho4 (by omega) (by simp)
  refine Qc<|Qb<|x (Qr hA rfl)<|x (ZH rfl rfl)<|xe ?_
  refine Q3 rfl (fun h43=>?_) (fun h43=>?_)
  ·have h2:2≤ow.length:=by have h44:(2:Int)≤(ow.length:Int):=h43;omega
   rw[if_pos h2] at hS3
   subst hS3
   have e0:cget ow 0=ow[0]'(by omega):=by unfold cget;simp[List.getD,show 0<ow.length by omega]
   have e1:cget ow 1=ow[1]'(by omega):=by unfold cget;simp[List.getD,show 1<ow.length by omega]
   refine Qg<|QT (Step [] w4) [(0,true),(1,true),(2,true),(3,true),(4,true),(5,true),(6,true),(7,true),(8,true),(9,true),(10,true),(11,true)] Tryz.mixed (by rfl) (by kernel_rfl) (Step.drew _ _) ?_
   refine p (fun _=>Qm)<|p (fun _=>Qm)<|pii (i:=0) rfl hA rfl rfl (by omega) fun a46 h46=>?_
   rw[←e0] at h46
   refine pq (fun _ hc=>Qv (h46.st hc) rfl) <|
    p (fun _=>Qm)<|pii (i:=1) rfl hA rfl rfl (by omega) fun a49 h49=>?_
   rw[←e1] at h49
   refine pq (fun _ hc=>Qv (h49.st hc) rfl)<|p (fun _=>Qe) <|
    p (fun _=>Qe)<|p (fun _=>Qe)<|p (fun _=>Qe)<|p (fun _=>Qe)<|pe ?_
   exact Ql ⟨[.int .i64 k,.int .i64 (cget ow 0),.int .i64 (cget ow 1),.bool true,.int .i64 0],⟨rfl,rfl,rfl,rfl,rfl,trivial⟩,hs04.trans (Step.drew _ _),by rw[hE0];rfl⟩
  have h2:¬2≤ow.length:=by have h44:¬(2:Int)≤(ow.length:Int):=h43;omega
  rw[if_neg h2] at hS3
  refine Qi ?_
  refine Qw<|x (Qy rfl rfl ⟨by omega,by omega⟩)<|Qb<|xe ?_
  exact ⟨k+1,by omega,⟨rfl,trivial⟩,hlt,hs3.trans hs4,hS3⟩
 have hlti:i<c.co.length:=by have h16:(i:Int)<(c.co.length:Int):=h27;omega
 have hmem:=List.getElem_mem hlti
 have hsucc:=jI (fun q:IV=>decide ((k:Int)∈q.p.a.al)) hlti
 refine Qi ?_
 refine Qg<|Qh<|Qc<|Qb<|xig (g:=Zh) (i:=i) Y6 h4.co.arr rfl rfl hlti fun a29 h29=>?_
 refine Zf (c.co[i]'hlti) fun q hq=>?_
 rw[hq] at h29 hmem hsucc
 have hqA:=h4.co.each q hmem
 refine x (QK h29 rfl rfl)<|xl rfl<|Qu (us:=[.string .empty,nS,.int .i64 0,nS,nS]) rfl fun b11 w5 hs5 hb11 hB11=>x Qe <|
  xl rfl<|Qo (us:=Zh q) hB11 rfl rfl rfl rfl ⟨rfl,hqA.al.one,rfl,hqA.mr.one,hqA.ed.one,trivial⟩ fun w6 hs6 hB11=>xe ?_
 have hs46:Step [] w4 w6:=hs5.then1 hs6 hb11
 refine Qc<|x (Qa rfl)<|x (Qa rfl)<|x (Qd hB11 rfl rfl)<|Qb<|xl rfl<|xf<|(Yn (hqA.al.ext hs46) (k:Int)).mono ?_
 rintro r7 w7 ⟨rfl,rfl⟩
 refine xe ?_
 refine Q3 rfl (fun h35=>?_) (fun h35=>?_)
 ·rw[if_pos (decide_eq_true h35)] at hsucc
  refine Qw<|Qb<|Qb<|xl rfl<|QI (us:=[[.int .i64 i]]) rfl rfl (by decide) (by simp) ⟨rfl,rfl,trivial⟩ fun b38 w8 hs8 hb38 hB38=>?_
  have hs48:=hs46.trans hs8
  have hz48:=hs48.size
  refine xl rfl<|Q2 (news:=[.int .i64 i]) (L:=[]) (Qt ho4 hs48) rfl rfl rfl (hB38.at (by simp)) (by simp[Value.oneCell']) (by omega) (by omega) fun v9 w9 ho9 hs9 hn9 =>
   Qf ?_
  have hge:=Qp ho4
  refine Qw<|x (Qy rfl rfl ⟨by omega,by omega⟩)<|Qb<|xe ?_
  refine ⟨(i+1,v9),by simp only[];omega,⟨rfl,rfl,trivial⟩,hlti,(hs4.trans hs48).then hs9 (fun b hb=>.inr (hge b hb).1),?_⟩
  simp only[]
  rw[hsucc];exact Qs.snoc ho9
 rw[if_neg (by simpa using h35),List.append_nil] at hsucc
 refine Qi ?_
 refine Qw<|x (Qy rfl rfl ⟨by omega,by omega⟩)<|Qb<|xe ?_
 exact ⟨(i+1,v),by simp only[];omega,⟨rfl,rfl,trivial⟩,hlti,hs4.trans hs46,by simp only[];rw[hsucc];exact Qt ho4 hs46⟩
abbrev rp0:LV:=[.bool false,.int .i64 0,.int .i64 0,.int .i64 0,.bool false,nS,nS,.int .i64 0]
abbrev rpV (S:Option (Int×Int×Int)) (nc:Bool) (vw vs:Value) (st:Int):LV:=[.bool (!S.isSome),.int .i64 (VY S).1,.int .i64 (VY S).2.1,.int .i64 (VY S).2.2,.bool nc,vw,vs,.int .i64 st]
theorem rpA {c:Zy}{vw vs:Value}:rpV (Un c) (decide ((Yi (Z7 c)).length=0)) vw vs (Z7 c).st=[.bool (Ja c).ps,.int .i64 (Ja c).ev,.int .i64 (Ja c).f1,.int .i64 (Ja c).f2,.bool (Ja c).nc,vw,vs,.int .i64 (Ja c).tg]:=by
 unfold Ja rpV
 cases Un c <;> rfl
theorem Qf3 {c:Zy}(h:XW c=0):Zg c=0:=by
 have h1:=(zS h).1
 rw[QaK] at h1
 by_cases h2:Zg c≠0
 ·rw[if_pos h2] at h1;exact absurd h1 h2
 ·exact Decidable.not_not.1 h2
set_option maxRecDepth 4096 in
set_option maxHeartbeats 8000000 in
theorem VU {L:LN}{w:World}{c:CL}(h0:ZI L w.heap c) (hkb:Kb w 4096) :
  QG Tryz.prog 20 [c.val] w fun r w'=>Step [] w w'∧∃us,r=.tuple #[.agg us.toArray,.int .i64 (XW c.cel)]∧us.length=8∧ZB us ∧
   (XW c.cel=0→∃vw vs,us=[.bool (Ja c.cel).ps,.int .i64 (Ja c.cel).ev,.int .i64 (Ja c.cel).f1,.int .i64 (Ja c.cel).f2,.bool (Ja c.cel).nc,vw,vs,.int .i64 (Ja c.cel).tg]∧Qs 3 w.heap.size w' vw (Ja c.cel).wd∧Qs 3 w.heap.size w' vs (Ja c.cel).sts)∧(XW c.cel≠0→us=rp0):=by
 have h:=h0.up (L':=[]) (by simp)
 have hwd:(Ja c.cel).wd=Y1 (Z7 c.cel):=rfl
 have hsts:(Ja c.cel).sts=(Xl c.cel).map (·.st):=rfl
 rw[hwd,hsts]
 refine QG.of_W Tryz.func20 rfl Tryz.ntmps20 Tryz.results20 (by simp) ?_
 refine Qc<|xl rfl<|QR (us:=c.cells) rfl fun b1 w1 hs1 hb1 hB1=>xl rfl<|Qu (us:=rp0) rfl fun b2 w2 hs2 hb2 hB2=>Qf ?_
 have hs02:=hs1.trans hs2
 have hz1:=hs1.size
 have hz2:=hs2.size
 have hl2:=hB2.lt
 refine Qc<|x (Qq (hB1.ext hs2) rfl rfl)<|xl rfl<|xf<|(KZ (h.ext hs02) (hkb.ext hs02)).mono ?_
 rintro r3 w3 ⟨hs3,us,rfl,hul,huo,hgood⟩
 refine Qb<|x (Qj rfl rfl)<|x (Qj rfl rfl)<|xl rfl<|Qu (us:=jw) rfl fun b4 w4 hs4 hb4 hB4=>xl rfl<|Qo (us:=us) hB4 rfl rfl hul rfl huo fun w5 hs5 hB45 =>
  Qf ?_
 have hs35:Step [] w3 w5:=hs4.then1 hs5 hb4
 have hs25:=hs3.trans hs35
 have hs05:=hs02.trans hs25
 have hz3:=hs3.size
 have hz5:=hs35.size
 have hl4:=hB45.lt
 have hB25:=hB2.ext hs25
 refine Qg<|Qc<|Qb<|x (Q6 rfl rfl)<|xe ?_
 refine Q3 rfl (fun h22=>?_) (fun h22=>?_)
 ·refine Qc<|x (QN trivial)<|Qb<|xl rfl<|Qo (us:=rp0) hB25 rfl rfl rfl rfl ⟨rfl,rfl,rfl,rfl,rfl,rfl,rfl,rfl,trivial⟩ fun w6 hs6 hB26=>Qf ?_
  exact Ql ⟨[.agg rp0.toArray,.int .i64 (XW c.cel)],⟨⟨_,rfl,Qx rfl (hB26.at (L:=[]) (by simp)).cells⟩,rfl,trivial⟩,hs05.then1 hs6 (by omega),rp0,rfl,rfl,⟨rfl,rfl,rfl,rfl,rfl,rfl,rfl,rfl,trivial⟩,fun h0=>absurd h0 h22,fun _=>rfl⟩
 have he:=Decidable.not_not.1 h22
 have hck:=Qf3 he
 have hshR:shR c.cel=Un c.cel:=by unfold shR;rw[if_neg (by simpa using hck)]
 obtain ⟨t,ht,hok,hT⟩:=hgood he
 subst ht
 obtain ⟨hsy,hoA⟩:=Ku he
 have hst0:=hoA.st0
 have hst1:=hoA.st1
 have hsl:(Xl c.cel).map (·.st)=t.ps.map (fun p=>p.a.st):=by rw[←hok.l,List.map_map];rfl
 rw[hsl]
 have hT3:qw [] w3.heap t:=hT [] (by simp)
 have hT5:qw [] w5.heap t:=hT3.ext hs35
 rw[←hok.A] at hsy hoA hst0 hst1
 obtain ⟨n,hn⟩:∃n:Nat,t.A.st=n:=⟨t.A.st.toNat,by omega⟩
 have hnt:t.A.st.toNat=n:=by omega
 have hckA:Y8 t.A=0:=(Zt _).2 hoA
 have hpl:=hT5.l.arr.le
 refine Qi ?_
 refine Qc<|x (Qq ((hB1.ext hs2).ext hs25) rfl rfl)<|xl rfl<|xf<|(QdD (h.ext hs05)).mono ?_
 rintro r7 w7 ⟨hs7,rfl⟩
 rw[hshR]
 refine Zf (Un c.cel) fun S hS=>?_
 rw[hS]
 refine Qb<|x (Qj rfl rfl)<|x (Qj rfl rfl)<|x (Qj rfl rfl)<|x (Qj rfl rfl)<|x (Qj rfl rfl)<|x Qe <|
  x Qe<|x Qe<|x Qe<|Qf ?_
 have hs07:=hs05.trans hs7
 have hB47:=hB45.ext hs7
 have hB27:=hB25.ext hs7
 have hz7:=hs7.size
 refine Qg<|Qc<|Qb<|x (Q6 rfl rfl)<|xe ?_
 refine Q3 rfl (fun h34=>?_) (fun h34=>?_)
 ·exact absurd hck h34
 refine Qi ?_
 refine Qc<|Qb<|x (Zo rfl)<|x (Qa rfl)<|x (Qa rfl)<|x (Qd hB47 rfl rfl)<|x (QN ⟨rfl,rfl,rfl,trivial⟩)<|xl rfl<|Qu (us:=rp0) rfl fun b10 w9 hs9 hb10 hB10 =>
  xl rfl<|Qo (us:=[.bool (!S.isSome),.int .i64 0,.int .i64 0,.int .i64 0,.bool true,nS,nS,.int .i64 t.A.st]) hB10 rfl rfl rfl rfl ⟨rfl,rfl,rfl,rfl,rfl,rfl,rfl,rfl,trivial⟩ fun w10 hs10 hB1010=>xe ?_
 have hs710:Step [] w7 w10:=hs9.then1 hs10 hb10
 have hs010:=hs07.trans hs710
 have hz710:=hs710.size
 have hl10:=hB1010.lt
 have hB410:=hB47.ext hs710
 have hB210:=hB27.ext hs710
 have hn24:b2≠b10:=by omega
 have hn44:b4≠b10:=by omega
 have hu10:w.heap.size≤b10:=by omega
 refine QV (α:=Unit) [(43,49)] (fun z=>[]) (fun z w'=>Step [b10] w10 w'∧QS w'.heap b10 63 (rpV S true (nS) (nS) t.A.st)) (by rfl) ?_ ?_
 ·refine Qc<|Qb<|xe ?_
  refine QW rfl (fun h43=>?_) (fun h43=>?_)
  ·refine Qw<|Qb<|Qb<|Qb<|x (Qa rfl)<|xl rfl<|QF (j:=1) (u:=.int .i64 (VY S).1) hB1010 rfl rfl (by simp) rfl fun w11 hs11 hB1011=>x (Qa rfl) <|
    xl rfl<|QF (j:=2) (u:=.int .i64 (VY S).2.1) hB1011 rfl rfl (by simp) rfl fun w12 hs12 hB1012=>x (Qa rfl)<|xl rfl<|QF (j:=3) (u:=.int .i64 (VY S).2.2) hB1012 rfl rfl (by simp) rfl fun w13 hs13 hB1013 =>
    xe ?_
   exact ⟨(),trivial,(hs11.trans' hs12).trans' hs13,hB1013⟩
  refine Qi ?_
  have hSn:S=none:=by cases S with | none=>rfl | some z=>cases h43
  exact ⟨(),trivial,Step.refl _ _,by rw[hSn] at hB1010 ⊢;exact hB1010⟩
 rintro z g w14 ⟨hs14,hB1014⟩
 have hs014:Step [] w w14:=hs010.then1 hs14 hu10
 have hz14:=hs14.size
 have hB414:QS w14.heap b4 111 (J0 t):=hB410.step hs14 (by simpa using hn44)
 have hB214:QS w14.heap b2 63 rp0:=hB210.step hs14 (by simpa using hn24)
 have hT10:qw [b10] w14.heap t:=((((hT5.ext hs7).up (L':=[b10]) (fun b hb=>by simp only[List.mem_singleton] at hb;subst hb;exact .inr hb10)).ext hs710).st hs14)
 refine Qg<|Qc<|x (Qa rfl)<|x (Qd hB414 rfl rfl)<|x (Qr hT10.l.arr rfl)<|Qb<|xe ?_
 refine Qh<|QA (α:=Nat×Value) [(12,12),(53,64)] (fun z=>[(53,.int .i64 z.1)]) (fun z w'=>z.1≤t.ps.length∧Step [b10] w14 w'∧QS w'.heap b10 63 (rpV S true (nS) z.2 t.A.st)∧Qs 3 w14.heap.size w' z.2 ((t.ps.take z.1).map (fun p=>p.a.st))) (fun z=>t.ps.length - z.1) (by rfl) (0,nS) ⟨rfl,trivial⟩
  ⟨Nat.zero_le _,Step.refl _ _,hB1014,QP _ _ _ _⟩ ?_
 rintro ⟨k,vs⟩ g w15 ⟨hk,hs15,hB1015,ho15⟩
 simp only[] at hk hB1015 ho15
 have hs015:Step [] w w15:=hs014.then1 hs15 hu10
 have hz15:=hs15.size
 have hB415:QS w15.heap b4 111 (J0 t):=hB414.step hs15 (by simpa using hn44)
 have hB215:QS w15.heap b2 63 rp0:=hB214.step hs15 (by simpa using hn24)
 have hT15:qw [b10] w15.heap t:=hT10.st hs15
 have hge15:=Qp ho15
 have hlk:((t.ps.take k).map (fun p=>p.a.st)).length=k:=by rw[List.length_map,List.length_take];omega
 refine Qc<|x (QB rfl rfl)<|xe ?_
 refine Qg<|QD rfl (fun h54=>?_) (fun h54=>?_)
 ·refine Qz ?_
  have hke:t.ps.length≤k:=by have h16:¬(k:Int)<(t.ps.length:Int):=h54;omega
  rw[List.take_of_length_le hke] at ho15
  have hTn:qw [] w15.heap t:=hT15.up (by simp)
  refine Qc<|x (Qa rfl)<|x (ZE (us:=[t.va,.int .i64 t.A.st,t.vm,t.ve]) hB415 rfl rfl rfl)<|xl rfl<|xf<|(qn hTn.a).mono ?_
  rintro r16 w16 ⟨hs16,vc,rfl,hoc⟩
  rw[if_pos hckA] at hoc
  refine Qb<|x (Qj rfl rfl)<|x (Qj rfl rfl)<|x Qe<|Qf ?_
  have hs016:=hs015.trans hs16
  have hz16:=hs16.size
  have hB416:=hB415.ext hs16
  have hTn16:=hTn.ext hs16
  have hcorl:(cor t.A).length≤4096:=by
   have:(cor t.A).length≤t.A.st.toNat:=by
    unfold cor Vc
    rw[List.length_map]
    have:=List.length_filter_le (fun i=>decide (0≤cget (bwd t.A.st.toNat t.A.ed t.A.mr) i)) (List.range t.A.st.toNat)
    rw[List.length_range] at this;exact this
   omega
  have hblk:mrg (fun p q=>p && !q) (X1 n) (cor t.A)=Yi t.A:=by unfold Yi;rw[hnt]
  have hnl:=jx n
  have hn40:n≤4096:=by omega
  have hmall:∀w:World,QG Tryz.prog 65 [.agg #[t.va,.int .i64 t.A.st,t.vm,t.ve]] w fun r w'=>Step [] w w'∧Qs 3 w.heap.size w' r (X1 n):=by
   intro w;rw[hn];exact Qhr hn40
  refine QV (α:=Bool×Value) [(15,15),(71,91)] (fun z=>[]) (fun z w'=>Step [b10] w16 w'∧QS w'.heap b10 63 (rpV S z.1 z.2 vs t.A.st)∧z.1=decide ((Yi t.A).length=0)∧Qs 3 w16.heap.size w' z.2 (Y1 t.A)) (by rfl) ?_ ?_
  ·refine Qc<|x (Qa rfl)<|x (ZE (us:=[t.va,.int .i64 t.A.st,t.vm,t.ve]) hB416 rfl rfl rfl)<|xl rfl<|xf<|(hmall w16).mono ?_
   rintro r17 w17 ⟨hs17,ho17⟩
   have hz17:=hs17.size
   refine Qb<|xl rfl<|xf<|(Qax (Qs.ints (L:=[]) ho17 (by omega) (by simp)) (Qs.ints (L:=[]) (Qt hoc hs17) (by omega) (by simp)) (by omega)).mono ?_
   rintro r18 w18 ⟨hs18,ho18⟩
   rw[hblk] at ho18
   refine Qf ?_
   have hs1618:=hs17.trans hs18
   have hz18:=hs18.size
   have hB1018:=(hB1015.ext hs16).ext hs1618
   have hB418:=hB416.ext hs1618
   have hbl:(Yi t.A).length≤4096:=by
    have h1:(Yi t.A).length≤n:=by
     have:=yu (S:=n) (fun x hx=>by have:=((Xu t.A x).1 hx).1;omega) (qd t.A)
     exact this
    omega
   have hA18:QL [] w18.heap r18 (Yi t.A):=Qs.ints ho18 (by omega) (by simp)
   refine Qc<|Qb<|x (Qr hA18 rfl)<|x (ZK rfl rfl)<|xe ?_
   refine QD rfl (fun h78=>?_) (fun h78=>?_)
   ·have hb0:(Yi t.A).length=0:=by have h79:¬(0:Int)<((Yi t.A).length:Int):=h78;omega
    refine Qi ?_
    refine ⟨(true,nS),trivial,hs1618.any,hB1018,by rw[decide_eq_true hb0],?_⟩
    unfold Y1
    rw[if_pos hb0];exact QP _ _ _ _
   have hb0:¬(Yi t.A).length=0:=by have h79:(0:Int)<((Yi t.A).length:Int):=h78;omega
   have hn0:0<n:=by
    refine Nat.pos_of_ne_zero fun e=>hb0 ?_
    subst e
    exact Nat.eq_zero_of_le_zero (yu (S:=0) (fun x hx=>by have:=((Xu t.A x).1 hx).1;omega) (qd t.A))
   refine Qc<|x (Qa rfl)<|xl rfl<|QF (j:=4) (u:=.bool false) hB1018 rfl rfl (by simp) rfl fun w19 hs19 hB1019=>xe ?_
   have hB419:QS w19.heap b4 111 (J0 t):=hB418.step hs19 (by simpa using hn44)
   have hT19:qw [] w19.heap t:=((hT15.ext (hs16.trans hs1618)).st hs19).up (by simp)
   have hge18:=Qp ho18
   have hA19:QL [] w19.heap r18 (Yi t.A):=(((Qs.ints (L:=[b10]) ho18 (by omega) (by simp only[List.mem_singleton];omega)).st hs19)).up (by simp)
   have hz19:=hs19.size
   refine QT (Step [] w19) [(0,true),(1,true),(2,true),(3,true),(4,true),(5,false),(6,false),(7,true),(8,true),(9,true),(10,true),(11,true),(12,false)] Tryz.mixed (by rfl) (by kernel_rfl) (Step.drew _ _) ?_
   have hd19:Step [] w19 { w19 with drawn:=w19.drawn+1 }:=Step.drew _ _
   refine p (fun _=>Qa rfl)<|pq (fun _ hc=>ZE (us:=[t.va,.int .i64 t.A.st,t.vm,t.ve]) (hB419.ext hc) rfl rfl rfl)<|p (fun _=>Qm)<|p (fun _=>Qa rfl)<|pq (fun _ hc=>ZE (us:=[t.va,.int .i64 t.A.st,t.vm,t.ve]) (hB419.ext hc) rfl rfl rfl) <|
    pk<|xf<|(hmall _).mono ?_
   rintro r20 w20 ⟨hs20,ho20⟩
   have hs1920:=hd19.trans hs20
   have hz20:=hs1920.size
   refine ⟨hs1920,?_⟩
   have hnin:YT t.A.st none (X1 n)=0:=Qbo (fun x hx=>by have:=(JK n x).1 hx;omega) (Uz n)
   have hbin:YT t.A.st none (Yi t.A)=0:=Qbo (fun x hx=>by have:=((Xu t.A x).1 hx).1;omega) (qd t.A)
   have hPath:=Qiu (from0:=0) ((hT19.a).ext hs1920) hckA hn hn0 (hA19.ext hs1920) (Qs.ints (L:=[]) ho20 (by omega) (by simp)) hbin hnin ((JK n _).2 ⟨by omega,by omega⟩)
   refine pk<|xf<|hPath.mono ?_
   rintro r21 w21 ⟨hs21,vp,rfl,hop⟩
   have hs1921:=hs1920.trans hs21
   refine ⟨hs1921,?_⟩
   have hB1021:=hB1019.ext hs1921
   refine p (fun _=>Qm)<|p (fun _=>Qj rfl rfl)<|p (fun _=>Qj rfl rfl)<|p (fun _=>Qj rfl rfl)<|p (fun _=>Qa rfl) <|
    pkl (hl:=by kernel_rfl)<|QF (j:=5) (u:=vp) hB1021 rfl rfl (by simp) (QO hop) fun w22 hs22 hB1022=>pe ?_
   refine ⟨(false,vp),trivial,((hs1618.any.trans' hs19).trans hs1921).trans' hs22,hB1022,by rw[decide_eq_false hb0],?_⟩
   unfold Y1
   rw[if_neg hb0,hnt]
   have hop2:=Zc (base':=w16.heap.size) hop (by omega)
   exact Qk hop2 hs22 (fun b hb=>by have:=(Qp hop2 b hb).1;simp only[List.mem_singleton];omega)
  rintro ⟨nc,vw⟩ g w23 ⟨hs23,hB1023,hnc,how⟩
  simp only[] at hB1023 hnc how
  subst hnc
  have hs023:Step [] w w23:=hs016.then1 hs23 hu10
  have hz23:=hs23.size
  have hB223:QS w23.heap b2 63 rp0:=(hB215.ext hs16).step hs23 (by simpa using hn24)
  have hos23:=Qk (Qt ho15 hs16) hs23 (fun b hb=>by have:=(hge15 b hb).1;simp only[List.mem_singleton];omega)
  have hones:ZB (rpV S (decide ((Yi t.A).length=0)) vw vs t.A.st):=⟨rfl,rfl,rfl,rfl,rfl,QO how,QO ho15,rfl,trivial⟩
  refine Qc<|x (Qq hB1023 rfl rfl)<|xl rfl<|Qo (us:=rpV S (decide ((Yi t.A).length=0)) vw vs t.A.st) hB223 rfl rfl rfl rfl hones fun w24 hs24 hB224=>Qf ?_
  have hl224:b2<w14.heap.size:=by omega
  refine Ql ⟨[.agg (rpV S (decide ((Yi t.A).length=0)) vw vs t.A.st).toArray,.int .i64 0],⟨⟨_,rfl,Qx rfl (hB224.at (L:=[]) (by simp)).cells⟩,rfl,trivial⟩,hs023.then1 hs24 (by omega),rpV S (decide ((Yi t.A).length=0)) vw vs t.A.st,by rw[he];rfl,rfl,hones,fun _=>⟨vw,vs,?_,?_,?_⟩,fun h0=>absurd he h0⟩
  ·rw[←rpA,hS,hok.A]
  ·rw[←hok.A]
   have:=Qk how hs24 (fun b hb=>by have:=(Qp how b hb).1;simp only[List.mem_singleton];omega)
   exact Zc this (by have:=hs016.size;omega)
  ·have:=Qk hos23 hs24 (fun b hb=>by have:=(Qp hos23 b hb).1;simp only[List.mem_singleton];omega)
   exact Zc this hs014.size
 have hlt:k<t.ps.length:=by have h16:(k:Int)<(t.ps.length:Int):=h54;omega
 have htk:t.ps.take (k+1)=t.ps.take k++[t.ps[k]'hlt]:=List.take_succ_eq_append_getElem hlt
 have hmem:=List.getElem_mem hlt
 refine Qi ?_
 refine Qg<|Qh<|Qc<|xig (g:=Zb) (i:=k) XR hT15.l.arr rfl rfl hlt fun a55 h55=>?_
 refine Zf (t.ps[k]'hlt) fun q hq=>?_
 rw[hq] at h55 hmem htk
 have hqA:=hT15.l.each q hmem
 refine x (QK h55 rfl rfl)<|xl rfl<|Qu (us:=[nS,.int .i64 0,nS,nS]) rfl fun b12 w25 hs25' hb12 hB12=>xl rfl<|Qo (us:=Zb q) hB12 rfl rfl rfl rfl ⟨hqA.al.one,rfl,hqA.mr.one,hqA.ed.one,trivial⟩ fun w26 hs26 hB1226 =>
  xe ?_
 have hs1526:Step [] w15 w26:=hs25'.then1 hs26 hb12
 have hB1026:=hB1015.ext hs1526
 refine Qw<|x (Qa rfl)<|x (Qd hB1026 rfl rfl)<|x (Qa rfl)<|x (Qd hB1226 rfl rfl)<|xl rfl<|QI (us:=[[.int .i64 q.a.st]]) rfl rfl (by decide) (by simp) ⟨rfl,rfl,trivial⟩ fun b61 w27 hs27 hb61 hB61=>?_
 have hs1527:=hs1526.trans hs27
 have hz27:=hs1527.size
 have hb10v:b10∉ob vs:=fun hb=>by have:=(hge15 b10 hb).1;omega
 refine xl rfl<|Q2 (news:=[.int .i64 q.a.st]) (L:=[]) (Qt ho15 hs1527) rfl rfl rfl (hB61.at (by simp)) (by simp[Value.oneCell']) (by omega) (by omega) fun v28 w28 ho28 hs28 hn28=>?_
 have hB1028:=(hB1015.ext hs1527).step hs28 hb10v
 refine x (Qa rfl)<|xl rfl<|QF (j:=6) (u:=v28) hB1028 rfl rfl (by simp) (QO ho28) fun w29 hs29 hB1029 =>
  xe ?_
 refine Qw<|x (Qy rfl rfl ⟨by omega,by omega⟩)<|Qb<|xe ?_
 have hs1428:Step [b10] w14 w28:=(hs15.trans hs1527).then hs28 (fun b hb=>.inr (hge15 b hb).1)
 refine ⟨(k+1,v28),by simp only[];omega,⟨rfl,trivial⟩,hlt,hs1428.trans' hs29,hB1029,?_⟩
 simp only[]
 rw[htk,List.map_append]
 have:=Qk ho28 hs29 (fun b hb=>by have:=(Qp ho28 b hb).1;simp only[List.mem_singleton];omega)
 exact Qs.snoc (n:=q.a.st) this
theorem QbK {L:LN}{w:World}{c:CL}(h0:ZI L w.heap c) (hkb:Kb w 4096) :
  QG Tryz.prog 20 [c.val] w fun r w'=>Step [] w w'∧∃us,r=.tuple #[.agg us.toArray,.int .i64 (XW c.cel)]∧us.length=8∧ZB us ∧
   (XW c.cel=0→∃vw vs,us=[.bool (Ja c.cel).ps,.int .i64 (Ja c.cel).ev,.int .i64 (Ja c.cel).f1,.int .i64 (Ja c.cel).f2,.bool (Ja c.cel).nc,vw,vs,.int .i64 (Ja c.cel).tg]∧Qs 3 w.heap.size w' vw (Ja c.cel).wd∧Qs 3 w.heap.size w' vs (Ja c.cel).sts) :=
 (VU h0 hkb).mono fun _ _ ⟨h1,us,h2,h3,h4,h5,_⟩=>⟨h1,us,h2,h3,h4,h5⟩
theorem Qcw:∀{es:List Ed},(es.Pairwise fun x y=>x.1<y.1∨(x.1=y.1∧x.2.1<y.2.1))→∀{s v t:Int},(s,v,t)∈es→eget es s v=some t
 | [],_,_,_,_,h=>by cases h
 | e::es,hp,s,v,t,h=>by
  simp only[List.pairwise_cons] at hp
  rw[eget]
  rcases List.mem_cons.1 h with h | h
  ·rw[←h,if_pos ⟨rfl,rfl⟩]
  ·have h1:=hp.1 _ h
   simp only[] at h1
   rw[if_neg (by omega)]
   exact Qcw hp.2 h
theorem Qja {a:QM}(ho:Q4 a) {s v t:Int}(h:(s,v,t)∈a.ed):nxt a.ed s v=t:=by rw[JI,Qcw ho.edi h]
theorem jR {a:QM}:∀{u:LI}{s x v:Int},flw a s u=(x,u.length)→0≤nxt a.ed x v→flw a s (u++[v])=(nxt a.ed x v,u.length+1)
 | [],s,x,v,h,hn=>by
  have h1:s=x:=congrArg Prod.fst h
  subst h1
  rw[List.nil_append,flw,if_neg (by omega)];rfl
 | y::u,s,x,v,h,hn=>by
  rw[flw] at h
  rw[List.cons_append,flw]
  split at h
  ·simp at h
  ·rename_i h0
   rw[if_neg h0]
   have h1:(flw a (nxt a.ed s y) u).1=x:=congrArg Prod.fst h
   have h2:(flw a (nxt a.ed s y) u).2+1=u.length+1:=congrArg Prod.snd h
   have h3:flw a (nxt a.ed s y) u=(x,u.length):=Prod.ext h1 (by show (flw a (nxt a.ed s y) u).2=u.length;omega)
   rw[jR h3 hn]
   rfl
def Lk (es:List Ed) (st:List Ed):Prop:=∀k,k<st.length→((gE st k).2.1=-1∧(gE st k).1=0)∨∃j:Nat,j<k∧(gE st k).2.1=(j:Int)∧((gE st j).1,(gE st k).2.2,(gE st k).1)∈es
theorem Lk.add {es st:List Ed}{pm:Ed→Bool}{i:Nat}{e:Ed}(h:Lk es st) (hi:i<st.length) (he:e∈Zv es (gE st i).1):Lk es (YG pm i st e)∧i<(YG pm i st e).length:=by
 unfold YG
 split
 ·refine ⟨fun k hk=>?_,by simp;omega⟩
  rw[List.length_append,List.length_singleton] at hk
  by_cases e1:k=st.length
  ·subst e1
   refine .inr ⟨i,hi,?_,?_⟩
   ·rw[yv]
   ·rw[yv,Ua hi]
    have h1:=Z8 he
    rw[←h1.2]
    exact h1.1
  ·have hks:k<st.length:=by omega
   rw[Ua hks]
   rcases h k hks with h1 | ⟨j,h1,h2,h3⟩
   ·exact .inl h1
   ·exact .inr ⟨j,h1,h2,by rw[Ua (by omega)];exact h3⟩
 ·exact ⟨h,hi⟩
theorem Lk.adds {es:List Ed}{pm:Ed→Bool}{i:Nat}{x:Int}:∀(l st:List Ed),Lk es st→i<st.length→(gE st i).1=x→(∀e∈l,e∈Zv es x)→Lk es (l.foldl (YG pm i) st)
 | [],_,h,_,_,_=>h
 | e::l,st,h,hi,hx,hl=>by
  have h1:=h.add (pm:=pm) hi (by rw[hx];exact hl e List.mem_cons_self)
  exact Lk.adds l _ h1.1 h1.2 (by rw[UM (Qap pm i st e) hi];exact hx) (fun d hd=>hl d (List.mem_cons_of_mem _ hd))
structure QlJ (a:QM) (st:List Ed) (k:Nat) (w:LI):Prop where
 eq:∀f,k<f→(wrd st f k).reverse=w
 to:flw a 0 w=((gE st k).1,w.length)
 pre:∀m,m<w.length→∃j,j<k∧flw a 0 (w.take m)=((gE st j).1,m)
theorem Qkm {a:QM}(ho:Q4 a) {st:List Ed}(h:Lk a.ed st):∀(n k:Nat),k<n→k<st.length→∃w,QlJ a st k w
 | 0,k,hk,_=>by omega
 | n+1,k,hk,hl=>by
  rcases h k hl with ⟨h1,h2⟩ | ⟨j,h1,h2,h3⟩
  ·refine ⟨[],⟨fun f hf=>?_,by rw[h2];rfl,fun m hm=>by simp at hm⟩⟩
   cases f with
   | zero=>omega
   | succ f=>rw[wrd,if_neg (by omega)];rfl
  ·obtain ⟨w,hw⟩:=Qkm ho h n j (by omega) (by omega)
   have hn:=Qja ho h3
   have h0:0≤(gE st k).1:=(ho.ed _ h3).2.2.2.1
   have hs:=jR (v:=(gE st k).2.2) hw.to (by rw[hn];exact h0)
   rw[hn] at hs
   refine ⟨w++[(gE st k).2.2],⟨fun f hf=>?_,by rw[hs];simp,fun m hm=>?_⟩⟩
   ·cases f with
    | zero=>omega
    | succ f =>
     rw[wrd,if_pos (by omega),List.reverse_cons,show (gE st k).2.1.toNat=j by omega,hw.eq f (by omega)]
   ·rw[List.length_append,List.length_singleton] at hm
    by_cases hmw:m=w.length
    ·subst hmw
     exact ⟨j,h1,by rw[List.take_left];exact hw.to⟩
    ·obtain ⟨i,hi,h4⟩:=hw.pre m (by omega)
     exact ⟨i,by omega,by rw[List.take_append_of_le_length (by omega)];exact h4⟩
theorem q5 {a:QM}(ho:Q4 a) {wt:Int→Bool}{pm:Ed→Bool}:∀(f i:Nat) (st:List Ed),Lk a.ed st→(∀j,j<i→j<st.length→wt (gE st j).1=false)→(JG wt pm a.ed f i st).2=true →
  ∃s,wt s=true∧flw a 0 (JG wt pm a.ed f i st).1=(s,(JG wt pm a.ed f i st).1.length)∧∀m,m<(JG wt pm a.ed f i st).1.length→∃s',wt s'=false∧flw a 0 ((JG wt pm a.ed f i st).1.take m)=(s',m)
 | 0,_,_,_,_,h=>by cases h
 | f+1,i,st,hk,hw,h=>by
  rw[JG] at h ⊢
  by_cases hi:i<st.length
  ·rw[if_pos hi] at h ⊢
   by_cases hwt:wt (gE st i).1=true
   ·rw[if_pos hwt] at h ⊢
    obtain ⟨w,hW⟩:=Qkm ho hk (i+1) i (by omega) hi
    have e:=hW.eq (i+1) (by omega)
    simp only[e]
    refine ⟨_,hwt,hW.to,fun m hm=>?_⟩
    obtain ⟨j,hj,h1⟩:=hW.pre m hm
    exact ⟨_,hw j hj (by omega),h1⟩
   ·rw[if_neg hwt] at h ⊢
    have hpre:=Kd pm i (Zv a.ed (gE st i).1) st
    have hl:=hpre.length_le
    refine q5 ho f (i+1) _ (Lk.adds (Zv a.ed (gE st i).1) st hk hi rfl (fun e he=>he)) (fun j hj hjl=>?_) h
    by_cases e1:j=i
    ·subst e1;rw[UM hpre hi];simpa using hwt
    ·rw[UM hpre (by omega)];exact hw j (by omega) (by omega)
  ·rw[if_neg hi] at h;cases h
theorem QeF {aa:List QM}{A:QM}{Q:List (LI)}(ho:Q4 A) (hs:sync aa=some (A,Q)) (hst:A.st=(Q.length:Int)) (hb:(Yi A).length≠0) :
  ∃s,s∈Yi A∧flw A 0 (Y1 A)=(s,(Y1 A).length)∧∀m,m<(Y1 A).length→∃s',s'∉Yi A∧flw A 0 ((Y1 A).take m)=(s',m):=by
 have hn:A.st.toNat=Q.length:=by omega
 have hr:Y1 A=(ptR A A.st.toNat 0 (Yi A) (X1 A.st.toNat)).1:=by unfold Y1;rw[if_neg hb]
 obtain ⟨x,hx⟩:=List.exists_mem_of_length_pos (l:=Yi A) (by omega)
 have hxb:=((Xu A x).1 hx).1
 have hpar:Par A.st.toNat A.ed:=by rw[hn];exact Qd1 hs
 have hf:(ptR A A.st.toNat 0 (Yi A) (X1 A.st.toNat)).2=true:=by
  unfold ptR
  refine Qc9 hpar (fun e he=>?_) (fun e he=>?_) (s:=x.toNat) (by omega) (by rw[show ((x.toNat:Nat):Int)=x by omega];exact decide_eq_true hx)
  ·have:=ho.ed e he;omega
  ·have:=ho.ed e he
   exact decide_eq_true ((JK _ _).2 (by omega))
 have hL0:Lk A.ed [(((0:Nat):Int),-1,-1)]:=fun k hk=>by
  have:k=0:=by simp at hk;omega
  subst this
  exact .inl ⟨rfl,rfl⟩
 have h:=q5 ho (wt:=fun s=>decide (s∈Yi A)) (pm:=fun e=>decide (e.2.2∈X1 A.st.toNat)) (A.st.toNat+1) 0 _ hL0 (fun j hj=>by omega) hf
 rw[hr]
 obtain ⟨s,h1,h2,h3⟩:=h
 refine ⟨s,of_decide_eq_true h1,h2,fun m hm=>?_⟩
 obtain ⟨s',h4,h5⟩:=h3 m hm
 exact ⟨s',of_decide_eq_false h4,h5⟩
end Go.Proofs.YtgmifemhkjdblaaGreatDoor
namespace Go.Lg
open Go.RowKit
def XG (all:Array Oper) (dp:Nat→LN) (opn:LN) (rest:List (Nat×Bool)):Nat→Array Bool→Bool
 | 0,ls=>YC all rest ls && opn.all fun i=>ls.getD i false
 | k+1,ls=>!(Region.ready .any all ls).isEmpty && (Region.ready .any all ls).all fun i=>opn.contains i && (dp i).all (fun j=>opn.contains j && ls.getD j false) && XG all dp opn rest k (ls.setIfInBounds i true)
def Qcx (all:List Oper) (dp:Nat→LN) (pre:List (Nat×Bool)) (opn:LN) (rest:List (Nat×Bool)) (D:List (Nat×Nat)):Bool :=
 Region.noSelect all.toArray && (pre.length+(opn.length+rest.length) == all.length) && YY all.toArray pre (Array.replicate all.length false) && VN all D opn && XG all.toArray dp opn rest opn.length (Zq pre (Array.replicate all.length false))
  && opn.all fun i=>!((Zq pre (Array.replicate all.length false)).getD i false)
section
variable {P:Program} {n:Nat} {f:Fr} {w:World} {all:List Oper} {C:World→Prop} {K:Fr→World→Prop}
theorem Qas {α:Type}{D:List (Nat×Nat)}{dp:Nat→LN}{opn:LN}{rest:List (Nat×Bool)}{Φ:Nat→Value→World→Prop}{S:α→List (Nat×Value)}{I:α→World→Prop}{f1:Fr}(hs:Region.noSelect all.toArray=true) (hop:VN all D opn=true)
  (hCs:∀w w',C w→Step [] w w'→C w') (stab:∀i v w w',Φ i v w→Step [] w w'→Φ i v w')
  (hconv:∀(g:Fr) w,Fa (fun i=>Φ i (sl (QJ all i).dst g) w) opn→(∀i∈opn,∀j∈opn,i≠j→∀b∈ow (sl (QJ all i).dst g),b∉ow (sl (QJ all j).dst g))→∃z,Yz g (S z)∧I z w)
  (spec:Fa (fun i=>∀g w,C w→Fa (fun j=>Φ j (sl (QJ all j).dst (mix D f1 g)) w) (dp i)→XO P (QJ all i) (mix D f1 g) w (fun f' w'=>Step [] w w'∧Φ i (sl (QJ all i).dst f') w'∧∀b∈ow (sl (QJ all i).dst f'),w.heap.size≤b∧b<w'.heap.size)) opn)
  (fin:∀z g w,C w→I z w→XP P all C K rest (Kt (S z) (mix D f1 g)) w) :
  ∀(k:Nat) (ls:Array Bool) (f:Fr) (w:World),ls.size=all.length→C w→XG all.toArray dp opn rest k ls=true→(∀t,YQ D t=false→f t=f1 t)→(∀i∈opn,ls.getD i false=true→Φ i (sl (QJ all i).dst f) w) →
   (∀i∈opn,ls.getD i false=true→(∀b∈ow (sl (QJ all i).dst f),b<w.heap.size)∧∀j∈opn,ls.getD j false=true→i≠j→∀b∈ow (sl (QJ all i).dst f),b∉ow (sl (QJ all j).dst f))→XA P all C K (k+rest.length) ls f w
 | 0,ls,f,w,hsz,hC,hp,hf,hphi,hdj=>by
  simp only[XG,Bool.and_eq_true,List.all_eq_true] at hp
  obtain ⟨z,h1,h2⟩:=hconv f w (Fa.of fun i hi=>hphi i hi (hp.2 i hi)) (fun i hi j hj hij=>(hdj i hi (hp.2 i hi)).2 j hj (hp.2 j hj) hij)
  have h3:=fin z f w hC h2
  rw[YM hf,Ye h1] at h3
  rw[Nat.zero_add]
  exact Zr hs rest ls f w hsz (.inl hC) hp.1 h3
 | k+1,ls,f,w,hsz,hC,hp,hf,hphi,hdj=>by
  simp only[XG,Bool.and_eq_true,List.all_eq_true,List.contains_iff_mem] at hp
  obtain ⟨hne,hp⟩:=hp
  rw[Nat.add_right_comm]
  refine YB (fun h0=>(by rw[h0] at hne;cases hne)) ?_
  intro i hi o ho
  obtain ⟨⟨hio,hdp⟩,hgo⟩:=hp i hi
  obtain ⟨hg,d,hd,hdD⟩:=(ZU hop).1 i hio
  have hdis:=(ZU hop).2
  have hsp:=Fa.all spec i hio f w hC
  rw[YM hf] at hsp
  have hsp:=hsp (Fa.of fun j hj=>hphi j (hdp j hj).1 (hdp j hj).2)
  have hoi:=Q9 ho
  rw[hoi] at hg hd hsp
  rw[Xq hg,cond_true]
  refine hsp.mono fun v w' hx=>?_
  have hC':=hCs w w' hC hx.1
  have hz:=hx.1.size
  have old:∀j∈opn,j≠i→sl (QJ all j).dst (QU f o.dst v)=sl (QJ all j).dst f:=fun j hj hij=>by
   obtain ⟨_,dj,hdj',_⟩:=(ZU hop).1 j hj
   have hne:o.dst≠some dj:=fun e=>hdis j hj i hio hij (by rw[hdj',hoi];exact e.symm)
   rw[hdj']
   exact ZL hne v
  have lsj:∀j,j≠i→(ls.setIfInBounds i true).getD j false=true→ls.getD j false=true:=fun j hij h=>by rw[getD_set_ne false (Ne.symm hij)] at h;exact h
  refine ⟨.inr (.inr hC'),Qas hs hop hCs stab hconv spec fin k _ _ _ (by simpa using hsz) hC' hgo (fun t ht=>?_) (fun j hj hlj=>?_) (fun j hj hlj=>⟨fun b hb=>?_,fun k hk hlk hjk b hb hbk=>?_⟩)⟩
  ·rw[ZL (by rw[hd];intro e;cases e;rw[hdD] at ht;cases ht)];exact hf t ht
  ·by_cases hij:j=i
   ·subst hij
    have h2:=hx.2.1
    rw[hoi];exact h2
   ·rw[old j hj hij]
    exact stab _ _ _ _ (hphi j hj (lsj j hij hlj)) hx.1
  ·by_cases hij:j=i
   ·subst hij
    rw[hoi] at hb
    exact (hx.2.2 b hb).2
   ·rw[old j hj hij] at hb
    have:=(hdj j hj (lsj j hij hlj)).1 b hb
    omega
  ·by_cases hij:j=i
   ·subst hij
    have hki:k≠j:=Ne.symm hjk
    rw[old k hk hki] at hbk
    rw[hoi] at hb
    have h1:=(hdj k hk (lsj k hki hlk)).1 b hbk
    have h2:=(hx.2.2 b hb).1
    omega
   ·rw[old j hj hij] at hb
    have h1:=(hdj j hj (lsj j hij hlj)).1 b hb
    by_cases hki:k=i
    ·subst hki
     rw[hoi] at hbk
     have h2:=(hx.2.2 b hbk).1
     omega
    ·rw[old k hk hki] at hbk
     exact (hdj j hj (lsj j hij hlj)).2 k hk (lsj k hki hlk) hjk b hb hbk
theorem Qgj {α:Type}{Q:Exit→Fr→World→Prop}{id:Nat}(C:World→Prop) (pre:List (Nat×Bool)) (dp:Nat→LN) (opn:LN) (rest:List (Nat×Bool)) (D:List (Nat×Nat)) (Φ:Nat→Value→World→Prop) (S:α→List (Nat×Value)) (I:α→World→Prop)
  (hm:P.follows .mixedOrders=true) (hn:YS n all=true) (hp:Qcx all dp pre opn rest D=true) (hC:C { w with drawn:=w.drawn+1 }) (hCs:∀w w',C w→Step [] w w'→C w') (stab:∀i v w w',Φ i v w→Step [] w w'→Φ i v w')
  (hconv:∀(g:Fr) w,Fa (fun i=>Φ i (sl (QJ all i).dst g) w) opn→(∀i∈opn,∀j∈opn,i≠j→∀b∈ow (sl (QJ all i).dst g),b∉ow (sl (QJ all j).dst g))→∃z,Yz g (S z)∧I z w)
  (h:XP P all C (fun f1 _=>Fa (fun i=>∀g w,C w→Fa (fun j=>Φ j (sl (QJ all j).dst (mix D f1 g)) w) (dp i)→XO P (QJ all i) (mix D f1 g) w (fun f' w'=>Step [] w w'∧Φ i (sl (QJ all i).dst f') w'∧∀b∈ow (sl (QJ all i).dst f'),w.heap.size≤b∧b<w'.heap.size)) opn ∧
   ∀z g w,C w→I z w→XP P all C (fun f w=>Q .normal f w) rest (Kt (S z) (mix D f1 g)) w) pre f { w with drawn:=w.drawn+1 }):W P n (.region id all.toArray true) Q f w:=by
 simp only[Qcx,Bool.and_eq_true,beq_iff_eq,List.all_eq_true,Bool.not_eq_true'] at hp
 obtain ⟨⟨⟨⟨⟨hs,hl⟩,hq⟩,hop⟩,hgo⟩,hun⟩:=hp
 refine YH C hm hn ?_
 rw[←hl]
 have hsz:(Array.replicate all.length false).size=all.length:=by simp
 have h1:=ZF (K:=fun f w=>Q .normal f w) (m:=opn.length+rest.length) hs pre (Array.replicate all.length false) f _ hC hq (fun f1 hB=>Qas (P:=P) (C:=C) hs hop hCs stab hconv hB.1 hB.2 opn.length (Zq pre (Array.replicate all.length false)) f1 _ (by rw[ZD];exact hsz) hC hgo (fun _ _=>rfl) (fun i hi ht=>by rw[hun i hi] at ht;cases ht) (fun i hi ht=>by rw[hun i hi] at ht;cases ht)) h
 rw[hl] at h1 ⊢
 exact h1
end
theorem jf {κ:Type}[DecidableEq κ] {l:List κ}{s:κ}(h:s∉l):mput (l.map fun s=>(s,Value.bool true)) s (.bool true)=(l++[s]).map fun s=>(s,Value.bool true):=by
 induction l with
 | nil=>rfl
 | cons a l ih =>
  have h1:a≠s:=fun e=>h (by subst e;exact List.mem_cons_self)
  show (if a=s then (a,Value.bool true)::(l.map fun s=>(s,Value.bool true)) else (a,Value.bool true)::mput (l.map fun s=>(s,Value.bool true)) s (.bool true))=_
  rw[if_neg h1,ih (fun hm=>h (List.mem_cons_of_mem _ hm))];rfl
theorem Qel {κ:Type}[DecidableEq κ] (l:List κ) (s:κ):mget (l.map fun s=>(s,Value.bool true)) s=if s∈l then some (.bool true) else none:=by
 induction l with
 | nil=>rfl
 | cons a l ih =>
  show (if a=s then some (Value.bool true) else mget (l.map fun s=>(s,Value.bool true)) s)=_
  rw[ih]
  by_cases h:a=s
  ·subst h;simp
  ·rw[if_neg h]
   have h':¬s=a:=fun e=>h e.symm
   simp[h']
section
variable {P:Program} {f:Fr} {w:World} {d:Option Nat} {ty:Nat} {ps:String} {af:Array Edge} {gd:Option (Nat×Bool)} {κ:Type} [DecidableEq κ]
theorem qZ {t kt et:Nat}[hm:Mp P t kt et (.bool false)] {enc:κ→Value}[hk:Key P kt enc] {x y:Operand}{b:Nat}{l:List κ}{s:κ}(h:ZA enc w.heap b (l.map fun s=>(s,Value.bool true))) (hx:ev f x=.map (some b)) (hy:ev f y=enc s) :
  (execOp (ev f) ⟨d,.lookup t x y false,ty,ps,af,gd⟩).run P w=.ok (.value (.bool (decide (s∈l)))) w:=by
 rw[XZ h hx hy,Qel]
 by_cases hs:s∈l <;> simp[hs]
end
end Go.Lg
namespace Go.Proofs.YtgmifemhkjdblaaGreatDoor
open Go.Lg
instance:Ay Tryz.prog 239 2 3 1:=⟨by kernel_rfl,by kernel_rfl⟩
def VG:List QM→Int
 | []=>0
 | a::l=>if Y8 a≠0 then Y8 a else VG l
def QfZ (kd:Int) (l:List QM):Int:=if VG l≠0 then VG l else if kd≠1∧kd≠2 then 11 else 0
theorem QkV (a b:QM) (kd:Int):QfZ kd [a,b]=lgE a b kd:=by
 unfold QfZ lgE VG
 by_cases h1:Y8 a≠0
 ·simp only[if_pos h1]
 ·rw[if_neg h1,if_neg h1]
  unfold VG
  by_cases h2:Y8 b≠0
  ·simp only[if_pos h2]
  ·rw[if_neg h2,if_neg h2]
   unfold VG
   simp
theorem Qba {L:LN}{w:World}{v:Value}{ps:List AV}(h0:YJ L w.heap v ps) (kd:Int) :
  QG Tryz.prog 130 [.int .i64 kd,v] w fun r w'=>r=.int .i64 (QfZ kd (ps.map (·.a)))∧Step [] w w':=by
 have h:=h0.up (L':=[]) (by simp)
 have hle:=h.arr.le
 have hr:QfZ kd (ps.map (·.a))=if VG (ps.map (·.a))≠0 then VG (ps.map (·.a)) else if kd≠1∧kd≠2 then 11 else 0:=rfl
 refine Zf (QfZ kd (ps.map (·.a))) fun E hE=>?_
 rw[hE] at hr ⊢
 refine QG.of_W Tryz.func130 rfl Tryz.ntmps130 Tryz.results130 (by simp) ?_
 refine Qc<|Qf ?_
 refine Qg<|Qc<|Qb<|x (Qr h.arr rfl)<|Qb<|xe ?_
 refine Qh<|QA (α:=Nat) [(4,4),(6,7),(10,19)] (fun z=>[(10,.int .i64 z)]) (fun z w'=>z≤ps.length∧Step [] w w'∧VG ((ps.drop z).map (·.a))=VG (ps.map (·.a))) (fun z=>ps.length - z) (by rfl) 0 ⟨rfl,trivial⟩ ⟨Nat.zero_le _,Step.refl _ _,rfl⟩ ?_
 rintro k g w1 ⟨hk,hs1,hk1⟩
 refine Qc<|x (QB rfl rfl)<|xe ?_
 refine Qg<|QD rfl (fun h11=>?_) (fun h11=>?_)
 ·refine Qz ?_
  have hke:ps.length≤k:=by have h16:¬(k:Int)<(ps.length:Int):=h11;omega
  rw[List.drop_of_length_le hke] at hk1
  have hz:VG (ps.map (·.a))=0:=hk1.symm
  rw[if_neg (by simpa using hz)] at hr
  refine Qg<|QV (α:=Bool) [(20,25)] (fun z=>[(25,.bool z)]) (fun z w'=>w'=w1∧z=decide (kd≠1∧kd≠2)) (by rfl) ?_ ?_
  ·refine Qw<|Qb<|xb (Q6 rfl rfl) (fun h21=>?_) (fun h21=>?_)
   ·refine Qb<|Qb<|x (Q6 rfl rfl)<|x (Qn rfl)<|xe ?_
    have h22:¬kd=1:=h21
    exact ⟨decide (¬kd=2),⟨rfl,trivial⟩,rfl,by simp[h22]⟩
   refine Qb<|xs rfl<|xs rfl<|x (Qn rfl)<|xe ?_
   have h22:kd=1:=Decidable.not_not.1 h21
   exact ⟨false,⟨rfl,trivial⟩,rfl,by simp[h22]⟩
  rintro z g w2 ⟨rfl,hz2⟩
  refine QW rfl (fun h25=>?_) (fun h25=>?_)
  ·rw[if_pos (of_decide_eq_true (hz2.symm.trans h25))] at hr
   subst hr
   refine Qc<|Qf ?_
   exact Ql ⟨[_],⟨rfl,trivial⟩,rfl,hs1⟩
  rw[if_neg (of_decide_eq_false (hz2.symm.trans h25))] at hr
  subst hr
  refine Qi ?_
  refine Qc<|Qf ?_
  exact Ql ⟨[_],⟨rfl,trivial⟩,rfl,hs1⟩
 have hlt:k<ps.length:=by have h16:(k:Int)<(ps.length:Int):=h11;omega
 have hmem:=List.getElem_mem hlt
 rw[List.drop_eq_getElem_cons hlt,List.map_cons,VG] at hk1
 refine Qi ?_
 refine Qg<|Qh<|Qc<|xig (g:=Zb) (i:=k) XR (h.ext hs1).arr rfl rfl hlt fun a12 h12=>?_
 refine Zf (ps[k]'hlt) fun q hq=>?_
 rw[hq] at h12 hmem hk1
 have hqA:=(h.ext hs1).each q hmem
 refine x (QK h12 rfl rfl)<|xl rfl<|Qu (us:=[nS,.int .i64 0,nS,nS]) rfl fun b6 w3 hs3 hb6 hB6=>xl rfl<|Qo (us:=Zb q) hB6 rfl rfl rfl rfl ⟨hqA.al.one,rfl,hqA.mr.one,hqA.ed.one,trivial⟩ fun w4 hs4 hB64 =>
  xe ?_
 have hs14:Step [] w1 w4:=hs3.then1 hs4 hb6
 refine Qc<|x (Qq hB64 rfl rfl)<|xl rfl<|xf<|(YP (hqA.ext hs14)).mono ?_
 rintro r5 w5 ⟨rfl,hs5⟩
 refine Qf ?_
 have hs05:=(hs1.trans hs14).trans hs5
 refine Qc<|Qb<|x (Q6 rfl rfl)<|xe ?_
 refine Q3 rfl (fun h17=>?_) (fun h17=>?_)
 ·rw[if_pos h17] at hk1
  have hne:VG (ps.map (·.a))≠0:=by rw[←hk1];exact h17
  rw[if_pos hne,←hk1] at hr
  subst hr
  refine Qc<|Qb<|Qf ?_
  exact Ql ⟨[_],⟨rfl,trivial⟩,rfl,hs05⟩
 rw[if_neg h17] at hk1
 refine Qi ?_
 refine Qw<|x (Qy rfl rfl ⟨by omega,by omega⟩)<|Qb<|xe ?_
 exact ⟨k+1,by omega,⟨rfl,trivial⟩,hlt,hs05,hk1⟩
abbrev stI (l:LI):List (Int×Value):=l.map fun s=>(s,Value.bool true)
structure yL (H:Array Obj) (b m1 m2:Nat) (a:QM):Prop where
 B:QS H b 284 [.map (some m1),.map (some m2),.int .i64 (fst a)]
 e:ZA ZM H m1 (Jq [] a.ed)
 m:ZA XN H m2 (stI a.mr)
theorem yL.step {X:LN}{w w':World}{b m1 m2:Nat}{a:QM}(h:yL w.heap b m1 m2 a) (hs:Step X w w') (h0:b∉X) (h1:m1∉X) (h2:m2∉X):yL w'.heap b m1 m2 a:=⟨h.B.step hs h0,h.e.step hs h1,h.m.step hs h2⟩
theorem yL.ext {w w':World}{b m1 m2:Nat}{a:QM}(h:yL w.heap b m1 m2 a) (hs:Step [] w w'):yL w'.heap b m1 m2 a:=h.step hs (by simp) (by simp) (by simp)
theorem zh {w:World}{b m1 m2:Nat}{a:QM}(h:yL w.heap b m1 m2 a) (ho:Q4 a) (s v:Int) :
  QG Tryz.prog 171 [.pointer (some ⟨b,0,none⟩),.int .i64 s,.int .i64 v] w fun r w'=>r=.int .i64 (nxt a.ed s v)∧Step [] w w':=by
 have hn:nxt a.ed s v=(if (eget a.ed s v).isSome=true then (eget a.ed s v).getD 0 else -1):=by rw[JI];cases eget a.ed s v <;> rfl
 refine QG.of_W Tryz.func171 rfl Tryz.ntmps171 Tryz.results171 (by simp) ?_
 refine Qc<|Qf ?_
 refine Qg<|Qc<|Qb<|x (QE rfl)<|x (Qa rfl)<|x (Qd h.B rfl rfl)<|Qb<|Qb<|x (QN ⟨rfl,rfl,trivial⟩)<|x (QbZ (s:=a) (q:=s) (v:=v) h.e ho.edi rfl rfl) <|
  Qb<|x (Qj rfl rfl)<|x (Qj rfl rfl)<|x Qe<|Qf ?_
 refine Qc<|Qb<|xe ?_
 refine Q3 rfl (fun h20=>?_) (fun h20=>?_)
 ·rw[if_pos h20] at hn
  refine Qc<|Qb<|Qf ?_
  exact Ql ⟨[_],⟨rfl,trivial⟩,by rw[hn];rfl,Step.refl _ _⟩
 rw[if_neg h20] at hn
 refine Qi ?_
 refine Qc<|Qf ?_
 exact Ql ⟨[_],⟨rfl,trivial⟩,by rw[hn];rfl,Step.refl _ _⟩
theorem Qcf {w:World}{b m1 m2:Nat}{a:QM}(h:yL w.heap b m1 m2 a) (s kd:Int) :
  QG Tryz.prog 135 [.pointer (some ⟨b,0,none⟩),.int .i64 s,.int .i64 kd] w fun r w'=>r=.bool (UE a kd s)∧Step [] w w':=by
 refine QG.of_W Tryz.func135 rfl Tryz.ntmps135 Tryz.results135 (by simp) ?_
 refine Qc<|Qf ?_
 refine QV (α:=Bool) [(6,20)] (fun z=>[(6,.bool z)]) (fun z w'=>w'=w∧z=UE a kd s) (by rfl) ?_ ?_
 ·refine Qw<|Qb<|xb (ZH rfl rfl) (fun h8=>?_) (fun h8=>?_)
  ·have h9:0≤s:=h8
   refine Qb<|Qb<|xb (Zm rfl rfl) (fun h11=>?_) (fun h11=>?_)
   ·refine Qb<|xs rfl<|xs rfl<|xs rfl<|xs rfl<|xs rfl<|xs rfl<|x (Qn rfl)<|x (Qn rfl)<|Qf ?_
    have h12:kd=1:=h11
    exact ⟨true,⟨rfl,trivial⟩,rfl,by simp[UE,h9,h12]⟩
   have h12:¬kd=1:=h11
   refine Qb<|Qb<|x (QE rfl)<|x (Qa rfl)<|x (Qd h.B rfl rfl)<|Qb<|x (qZ (s:=s) h.m rfl rfl)<|x (Qn rfl)<|x (Qn rfl) <|
    Qf ?_
   exact ⟨decide (s∈a.mr),⟨rfl,trivial⟩,rfl,by simp[UE,h9,h12]⟩
  have h9:¬0≤s:=h8
  refine Qb<|xs rfl<|xs rfl<|xs rfl<|xs rfl<|xs rfl<|xs rfl<|xs rfl<|xs rfl<|xs rfl<|xs rfl<|x (Qn rfl)<|x Qe <|
   xe ?_
  exact ⟨false,⟨rfl,trivial⟩,rfl,by simp[UE];omega⟩
 rintro z g w1 ⟨rfl,rfl⟩
 exact Ql ⟨[_],⟨rfl,trivial⟩,rfl,Step.refl _ _⟩
theorem Qe9 {w:World}{b10 b5 b11 ba1 ba2 ba3 bb1 bb2 bb3:Nat}{a b:QM}{kd:Int}(h10:QS w.heap b10 236 [.pointer (some ⟨ba1,0,none⟩)]) (h11:QS w.heap b11 236 [.pointer (some ⟨bb1,0,none⟩)])
  (h5:QS w.heap b5 3 [.int .i64 kd]) (ha:yL w.heap ba1 ba2 ba3 a) (hb:yL w.heap bb1 bb2 bb3 b) (s t:Int) :
  QG Tryz.prog 134 [.agg #[.int .i64 s,.int .i64 t],.pointer (some ⟨b10,0,none⟩),.pointer (some ⟨b5,0,none⟩),.pointer (some ⟨b11,0,none⟩)] w fun r w'=>r=.bool (!(UE a kd s == UE b kd t))∧Step [] w w':=by
 refine QG.of_W Tryz.func134 rfl Tryz.ntmps134 Tryz.results134 (by simp) ?_
 refine Qc<|xl rfl<|QR (us:=[.int .i64 s,.int .i64 t]) rfl fun b4 w1 hs1 hb4 hB4=>Qf ?_
 have hd:Step [] w1 { w1 with drawn:=w1.drawn+1 }:=Step.drew _ _
 refine Qg<|QT (Step [] w1) [(0,true),(1,true),(2,true),(3,true),(5,true),(6,true),(7,true),(8,true),(4,false),(9,false),(10,true),(11,true)] Tryz.mixed (by rfl) (by kernel_rfl) (Step.drew _ _) ?_
 refine pq (fun _ hc=>Qd ((h10.ext hs1).ext hc) rfl rfl)<|p (fun _=>YK (i:=0) rfl rfl (by decide))<|pq (fun _ hc=>Qd (hB4.ext hc) rfl rfl)<|pq (fun _ hc=>Qd ((h5.ext hs1).ext hc) rfl rfl)<|pq (fun _ hc=>Qd ((h11.ext hs1).ext hc) rfl rfl) <|
  p (fun _=>YK (i:=1) rfl rfl (by decide))<|pq (fun _ hc=>Qd (hB4.ext hc) rfl rfl)<|pq (fun _ hc=>Qd ((h5.ext hs1).ext hc) rfl rfl)<|pk<|xf<|(Qcf ((ha.ext hs1).ext hd) s kd).mono ?_
 rintro r2 w2 ⟨rfl,hs2⟩
 refine ⟨hd.trans hs2,?_⟩
 refine pk<|xf<|(Qcf (((hb.ext hs1).ext hd).ext hs2) t kd).mono ?_
 rintro r3 w3 ⟨rfl,hs3⟩
 refine ⟨(hd.trans hs2).trans hs3,?_⟩
 refine p (fun _=>QaW rfl rfl)<|p (fun _=>Qe)<|pe ?_
 exact Ql ⟨[_],⟨rfl,trivial⟩,rfl,((hs1.trans hd).trans hs2).trans hs3⟩
set_option maxHeartbeats 4000000 in
theorem zi {w:World}{va vm ve:Value}{a:QM}(h:Zp [] w.heap va vm ve a) (ho:Q4 a) :
  QG Tryz.prog 131 [.agg #[va,.int .i64 a.st,vm,ve]] w fun r w'=>Step [] w w'∧∃b m1 m2,r=.pointer (some ⟨b,0,none⟩)∧w.heap.size≤b∧w.heap.size≤m1∧w.heap.size≤m2∧yL w'.heap b m1 m2 a:=by
 have hel:=h.ed.le
 have hml:=h.mr.le
 refine QG.of_W Tryz.func131 rfl Tryz.ntmps131 Tryz.results131 (by simp) ?_
 refine Qc<|xl rfl<|QR (us:=[va,.int .i64 a.st,vm,ve]) rfl fun b1 w1 hs1 hb1 hB1=>Qf ?_
 refine Qc<|xl rfl<|ZS ZM fun m1 w2 hs2 hm1 hM1=>xl rfl<|ZS XN fun m2 w3 hs3 hm2 hM2=>x (QN ⟨rfl,rfl,rfl,trivial⟩)<|xl rfl<|QR (us:=[.map (some m1),.map (some m2),.int .i64 0]) rfl fun b11 w4 hs4 hb11 hB11 =>
  Qf ?_
 have hz1:=hs1.size
 have hz2:=hs2.size
 have hz3:=hs3.size
 have hz4:=hs4.size
 have hl1:=hM1.lt
 have hl2:=hM2.lt
 have hl11:=hB11.lt
 have hs14:=(hs2.trans hs3).trans hs4
 have hB14:=hB1.ext hs14
 have hlb1:=hB1.lt
 have hM14:ZA ZM w4.heap m1 []:=((hM1.step hs3 (by simp)).step hs4 (by simp))
 have hM24:ZA XN w4.heap m2 []:=hM2.step hs4 (by simp)
 have hst:∀{b:Nat},b∈[b11,m1,m2]→w1.heap.size≤b:=fun hb=>by simp only[List.mem_cons,List.not_mem_nil,or_false] at hb;omega
 have hn1:b1∉[b11,m1,m2]:=fun hb=>by have:=hst hb;omega
 have hup:∀b∈[b11,m1,m2],w.heap.size≤b:=fun b hb=>by have:=hst hb;omega
 have hA:∀{w':World},Step [b11,m1,m2] w4 w'→Zp [] w'.heap va vm ve a:=fun hs =>
  ((((h.ext hs1).up (L':=[b11,m1,m2]) (fun b hb=>.inr (hst hb))).ext hs14).st hs).up (by simp)
 have k11:∀b∈[b11],b∈[b11,m1,m2]:=fun b hb=>by simp only[List.mem_singleton] at hb;simp[hb]
 have k1:∀b∈[m1],b∈[b11,m1,m2]:=fun b hb=>by simp only[List.mem_singleton] at hb;simp[hb]
 have k2:∀b∈[m2],b∈[b11,m1,m2]:=fun b hb=>by simp only[List.mem_singleton] at hb;simp[hb]
 refine QV (α:=Unit) [(12,17)] (fun z=>[]) (fun z w'=>Step [b11] w4 w'∧QS w'.heap b11 284 [.map (some m1),.map (some m2),.int .i64 (fst a)]) (by rfl) ?_ ?_
 ·refine Qc<|x (Qa rfl)<|x (Qd hB14 rfl rfl)<|x (Zm rfl rfl)<|xe ?_
  refine Q3 rfl (fun h14=>?_) (fun h14=>?_)
  ·have hf:fst a=-1:=by unfold fst;rw[if_pos h14]
   refine Qw<|Qb<|x (QE rfl)<|x (Qa rfl)<|xl rfl<|QF (j:=2) (u:=.int .i64 (-1)) hB11 rfl rfl (by simp) rfl fun w5 hs5 hB115=>xe ?_
   exact ⟨(),trivial,hs5,by rw[hf];exact hB115⟩
  have hf:fst a=0:=by unfold fst;rw[if_neg h14]
  refine Qi ?_
  exact ⟨(),trivial,Step.refl _ _,by rw[hf];exact hB11⟩
 rintro z g w6 ⟨hs6,hB116⟩
 have hs6':=hs6.mono k11
 have hz6:=hs6.size
 have hM16:ZA ZM w6.heap m1 []:=hM14.step hs6 (by simp only[List.mem_singleton];omega)
 have hM26:ZA XN w6.heap m2 []:=hM24.step hs6 (by simp only[List.mem_singleton];omega)
 have hB16:=hB14.step hs6' hn1
 have h6:=hA hs6'
 refine Qg<|Qc<|x (Qa rfl)<|x (Qd hB16 rfl rfl)<|x (Qr h6.ed rfl)<|Qb<|xe ?_
 refine Qh<|QA (α:=Nat) [(5,5),(21,36)] (fun z=>[(21,.int .i64 z)]) (fun z w'=>z≤a.ed.length∧Step [m1] w6 w'∧ZA ZM w'.heap m1 (Jq [] (a.ed.take z))) (fun z=>a.ed.length - z) (by rfl) 0 ⟨rfl,trivial⟩
  ⟨Nat.zero_le _,Step.refl _ _,hM16⟩ ?_
 rintro k g w7 ⟨hk,hs7,hM17⟩
 have hs47:Step [b11,m1,m2] w4 w7:=hs6'.trans' (hs7.mono k1)
 have h7:=hA hs47
 have hz7:=hs7.size
 have hB117:=hB116.step hs7 (by simp only[List.mem_singleton];omega)
 have hM27:=hM26.step hs7 (by simp only[List.mem_singleton];omega)
 have hB17:=hB14.step hs47 hn1
 refine Qc<|x (QB rfl rfl)<|xe ?_
 refine Qg<|QD rfl (fun h22=>?_) (fun h22=>?_)
 ·refine Qz ?_
  have hke:a.ed.length≤k:=by have h16:¬(k:Int)<(a.ed.length:Int):=h22;omega
  rw[List.take_of_length_le hke] at hM17
  refine Qg<|Qc<|x (Qa rfl)<|x (Qd hB17 rfl rfl)<|x (Qr h7.mr rfl)<|Qb<|xe ?_
  refine Qh<|QA (α:=Nat) [(7,7),(40,49)] (fun z=>[(40,.int .i64 z)]) (fun z w'=>z≤a.mr.length∧Step [m2] w7 w'∧ZA XN w'.heap m2 (stI (a.mr.take z))) (fun z=>a.mr.length - z) (by rfl) 0 ⟨rfl,trivial⟩
   ⟨Nat.zero_le _,Step.refl _ _,hM27⟩ ?_
  rintro j g w8 ⟨hj,hs8,hM28⟩
  have hs48:Step [b11,m1,m2] w4 w8:=hs47.trans' (hs8.mono k2)
  have h8:=hA hs48
  have hB118:=hB117.step hs8 (by simp only[List.mem_singleton];omega)
  have hM18:=hM17.step hs8 (by simp only[List.mem_singleton];omega)
  refine Qc<|x (QB rfl rfl)<|xe ?_
  refine Qg<|QD rfl (fun h41=>?_) (fun h41=>?_)
  ·refine Qz ?_
   have hje:a.mr.length≤j:=by have h16:¬(j:Int)<(a.mr.length:Int):=h41;omega
   rw[List.take_of_length_le hje] at hM28
   refine Qc<|Qb<|Qf ?_
   exact Ql ⟨[.pointer (some ⟨b11,0,none⟩)],⟨rfl,trivial⟩,(hs1.trans hs14).then hs48 (fun b hb=>.inr (hup b hb)),b11,m1,m2,rfl,by omega,by omega,by omega,hB118,hM18,hM28⟩
  have hltj:j<a.mr.length:=by have h16:(j:Int)<(a.mr.length:Int):=h41;omega
  have htj:a.mr.take (j+1)=a.mr.take j++[a.mr[j]'hltj]:=List.take_succ_eq_append_getElem hltj
  have hnj:(a.mr[j]'hltj)∉a.mr.take j:=by
   intro hm
   obtain ⟨i,hi,e⟩:=List.getElem_of_mem hm
   rw[List.getElem_take] at e
   have hi':i<j:=by rw[List.length_take] at hi;omega
   have:=Yu.get ho.mri hltj hi'
   omega
  refine Qi ?_
  refine Qg<|Qh<|Qc<|xii (i:=j) h8.mr rfl rfl hltj fun a42 h42=>?_
  refine Zf (a.mr[j]'hltj) fun s hs=>?_
  rw[hs] at h42 htj hnj
  refine x (Qv h42 rfl)<|Qf ?_
  refine Qw<|Qb<|x (QE rfl)<|x (Qa rfl)<|x (Qd hB118 rfl rfl)<|Qb<|xl rfl<|Yw (k:=s) hM28 rfl rfl fun w9 hs9 hM29=>xe ?_
  refine Qw<|x (Qy rfl rfl ⟨by omega,by omega⟩)<|Qb<|xe ?_
  refine ⟨j+1,by omega,⟨rfl,trivial⟩,hltj,hs8.trans' hs9,?_⟩
  rw[htj]
  have hM29':ZA XN w9.heap m2 (mput ((a.mr.take j).map fun s=>(s,Value.bool true)) s (.bool true)):=hM29
  rw[jf hnj] at hM29'
  exact hM29'
 have hlt:k<a.ed.length:=by have h16:(k:Int)<(a.ed.length:Int):=h22;omega
 have hsn:=UX (m:=[]) hlt
 refine Qi ?_
 refine Qg<|Qh<|Qc<|xie (i:=k) h7.ed rfl rfl hlt fun a23 h23=>?_
 refine Zf (a.ed[k]'hlt) fun e he=>?_
 rw[he] at h23 hsn
 refine x (QK h23 rfl rfl)<|xl rfl<|Qu (us:=[.int .i64 0,.int .i64 0,.int .i64 0]) rfl fun b5 w10 hs10 hb5 hB5=>xl rfl<|Qo (us:=QC e) hB5 rfl rfl rfl rfl ⟨rfl,rfl,rfl,trivial⟩ fun w11 hs11 hB511 =>
  xe ?_
 have hs711:Step [] w7 w11:=hs10.then1 hs11 hb5
 have hB1111:=hB117.ext hs711
 have hM111:ZA ZM w11.heap m1 (Jq [] (a.ed.take k)):=hM17.step hs711 (by simp)
 refine QT (Step [] w11) [(0,true),(1,true),(2,true),(3,true),(4,true),(5,true),(6,true),(7,true),(8,true),(9,true),(10,true),(11,false)] Tryz.mixed (by rfl) (by kernel_rfl) (Step.drew _ _) ?_
 refine p (fun _=>Qm)<|p (fun _=>QE rfl)<|p (fun _=>Qa rfl)<|pq (fun _ hc=>Qd (hB1111.ext hc) rfl rfl) <|
  p (fun _=>Qa rfl)<|pq (fun _ hc=>Qd (hB511.ext hc) rfl rfl)<|p (fun _=>Qa rfl)<|pq (fun _ hc=>Qd (hB511.ext hc) rfl rfl) <|
  p (fun _=>QN ⟨rfl,rfl,trivial⟩)<|p (fun _=>Qa rfl)<|pq (fun _ hc=>Qd (hB511.ext hc) rfl rfl)<|pkl (hl:=by kernel_rfl)<|Yw (k:=(e.1,e.2.1)) (hM111.step (Step.drew [] w11) (by simp)) rfl rfl fun w12 hs12 hM112 =>
  pe ?_
 refine Qw<|x (Qy rfl rfl ⟨by omega,by omega⟩)<|Qb<|xe ?_
 refine ⟨k+1,by omega,⟨rfl,trivial⟩,hlt,((hs7.trans hs711).trans (Step.drew [] w11)).trans' hs12,?_⟩
 rw[hsn];exact hM112
theorem Qdi (a b:Int) (v w:LI):Qdj (a::v) (b::w)=if a=b then Qdj v w else decide (a<b):=rfl
theorem Qe3 {L L':LN}{w:World}{v v':Value}{l l':LI}(h:QL L w.heap v l) (h':QL L' w.heap v' l') :
  QG Tryz.prog 83 [v,v'] w fun r w'=>r=.bool (less l l')∧Step [] w w':=by
 have hle:=h.le
 have hle':=h'.le
 have hr:less l l'=if l.length≠l'.length then decide (l.length<l'.length) else Qdj l l':=rfl
 refine Zf (less l l') fun R hR=>?_
 rw[hR] at hr ⊢
 have g1:QL [] w.heap v l:=h.up (by simp)
 have g2:QL [] w.heap v' l':=h'.up (by simp)
 refine QG.of_W Tryz.func83 rfl Tryz.ntmps83 Tryz.results83 (by simp) ?_
 refine Qc<|Qf ?_
 refine Qg<|Qc<|Qb<|x (Qr g1 rfl)<|Qb<|x (Qr g2 rfl)<|x (Q6 rfl rfl)<|xe ?_
 refine Q3 rfl (fun h10=>?_) (fun h10=>?_)
 ·have hne:l.length≠l'.length:=fun e=>h10 (by rw[e])
  rw[if_pos hne] at hr
  refine Qc<|Qb<|x (Qr g1 rfl)<|Qb<|x (Qr g2 rfl)<|x (QB rfl rfl)<|Qf ?_
  refine Ql ⟨[_],⟨rfl,trivial⟩,?_,Step.refl _ _⟩
  rw[hr]
  have:decide ((l.length:Int)<(l'.length:Int))=decide (l.length<l'.length):=by rw[decide_eq_decide];omega
  show Value.bool (decide ((l.length:Int)<(l'.length:Int)))=_
  rw[this]
 have heq:l.length=l'.length:=by
  have h11:(l.length:Int)=(l'.length:Int):=Decidable.not_not.1 h10
  omega
 rw[if_neg (by simpa using heq)] at hr
 refine Qi ?_
 refine Qg<|Qc<|Qb<|x (Qr g1 rfl)<|Qb<|xe ?_
 refine Qh<|QA (α:=Nat) [(4,5),(18,39)] (fun z=>[(18,.int .i64 z)]) (fun z w'=>z≤l.length∧Step [] w w'∧Qdj (l.drop z) (l'.drop z)=R) (fun z=>l.length - z) (by rfl) 0 ⟨rfl,trivial⟩ ⟨Nat.zero_le _,Step.refl _ _,hr.symm⟩ ?_
 rintro k g w1 ⟨hk,hs1,hk1⟩
 refine Qc<|x (QB rfl rfl)<|xe ?_
 refine Qg<|QD rfl (fun h19=>?_) (fun h19=>?_)
 ·refine Qz ?_
  have hke:l.length≤k:=by have h16:¬(k:Int)<(l.length:Int):=h19;omega
  rw[List.drop_of_length_le hke] at hk1
  have hR0:R=false:=hk1.symm
  refine Qc<|Qf ?_
  exact Ql ⟨[_],⟨rfl,trivial⟩,by rw[hR0];rfl,hs1⟩
 have hlt:k<l.length:=by have h16:(k:Int)<(l.length:Int):=h19;omega
 have hlt':k<l'.length:=by omega
 rw[List.drop_eq_getElem_cons hlt,List.drop_eq_getElem_cons hlt',Qdi] at hk1
 refine Qi ?_
 refine Qg<|Qh<|Qc<|Qb<|Qf ?_
 refine Qg<|QT (Step [] w1) [(0,true),(1,true),(2,true),(3,true),(4,true),(5,true),(6,true),(7,true),(8,true)] Tryz.mixed (by rfl) (by kernel_rfl) (Step.drew _ _) ?_
 refine p (fun _=>Qm)<|p (fun _=>Qm)<|pii (i:=k) rfl (g1.ext hs1) rfl rfl hlt fun a23 h23=>?_
 refine Zf (l[k]'hlt) fun x1 hx1=>?_
 rw[hx1] at h23 hk1
 refine pq (fun _ hc=>Qv (h23.st hc) rfl) <|
  p (fun _=>Qm)<|p (fun _=>Qm)<|pii (i:=k) rfl (g2.ext hs1) rfl rfl hlt' fun a27 h27=>?_
 refine Zf (l'[k]'hlt') fun x2 hx2=>?_
 rw[hx2] at h27 hk1
 refine pq (fun _ hc=>Qv (h27.st hc) rfl)<|p (fun _=>Q6 rfl rfl)<|pe ?_
 have hd:Step [] w1 { w1 with drawn:=w1.drawn+1 }:=Step.drew _ _
 have hs1d:=hs1.trans hd
 refine Q3 rfl (fun h29=>?_) (fun h29=>?_)
 ·rw[if_neg h29] at hk1
  refine Qg<|QT (Step [] { w1 with drawn:=w1.drawn+1 }) [(0,true),(1,true),(2,true),(3,true),(4,true),(5,true),(6,true),(7,true),(8,true),(9,true)] Tryz.mixed (by rfl) (by kernel_rfl) (Step.drew _ _) ?_
  refine p (fun _=>Qm)<|p (fun _=>Qm)<|pii (i:=k) rfl (g1.ext hs1d) rfl rfl hlt fun a32 h32=>?_
  rw[hx1] at h32
  refine pq (fun _ hc=>Qv (h32.st hc) rfl) <|
   p (fun _=>Qm)<|p (fun _=>Qm)<|pii (i:=k) rfl (g2.ext hs1d) rfl rfl hlt' fun a36 h36=>?_
  rw[hx2] at h36
  refine pq (fun _ hc=>Qv (h36.st hc) rfl)<|p (fun _=>QB rfl rfl) <|
   p (fun _=>Qe)<|pe ?_
  exact Ql ⟨[.bool (decide (x1<x2))],⟨rfl,trivial⟩,by rw[←hk1];rfl,hs1d.trans (Step.drew _ _)⟩
 rw[if_pos (Decidable.not_not.1 h29)] at hk1
 refine Qi ?_
 refine Qw<|x (Qy rfl rfl ⟨by omega,by omega⟩)<|Qb<|xe ?_
 exact ⟨k+1,by omega,⟨rfl,trivial⟩,hlt,hs1d,hk1⟩
end Go.Proofs.YtgmifemhkjdblaaGreatDoor
namespace Go.Lg
section
variable {P:Program} {n:Nat} {f:Fr} {w:World} {all:List Oper} {K:Fr→World→Prop}
def Qks (all:List Oper) (pre:List (Nat×Bool)) (k:Nat) (t:Pt):Bool :=
 Region.noSelect all.toArray && (pre.length+(t.len+1) == all.length) && YY all.toArray pre (Array.replicate all.length false) && (Region.ready .any all.toArray (Zq pre (Array.replicate all.length false)) == [k]) && QeG all.toArray t ((Zq pre (Array.replicate all.length false)).setIfInBounds k true)
theorem Qir {Q:Exit→Fr→World→Prop}{id:Nat}(C:World→Prop) (pre:List (Nat×Bool)) (k:Nat) (t:Pt) (hm:P.follows .mixedOrders=true) (hn:YS n all=true) (hp:Qks all pre k t=true)
  (hC:C { w with drawn:=w.drawn+1 }) (h:XP P all C (fun f1 w1=>ZY all f1 (QJ all k)=true∧XO P (QJ all k) f1 w1 fun f' w'=>C w'∧XT P all C (fun f w=>Q .normal f w) t f' w') pre f { w with drawn:=w.drawn+1 }):W P n (.region id all.toArray true) Q f w:=by
 simp only[Qks,Bool.and_eq_true,beq_iff_eq] at hp
 obtain ⟨⟨⟨⟨hs,hl⟩,hq⟩,hr⟩,ht⟩:=hp
 refine YH C hm hn ?_
 have h1:=ZF (K:=fun f w=>Q .normal f w) (m:=t.len+1) hs pre (Array.replicate all.length false) f _ hC hq
  (B:=fun f1 w1=>ZY all f1 (QJ all k)=true∧XO P (QJ all k) f1 w1 fun f' w'=>C w'∧XT P all C (fun f w=>Q .normal f w) t f' w')
  (fun f1 hB=>by
   refine YB (fun h0=>(by rw[h0] at hr;cases hr)) ?_
   rw[hr]
   intro j hj o ho
   have hjk:j=k:=by simpa using hj
   subst hjk
   rw[Q9 ho] at hB
   rw[hB.1,cond_true]
   exact hB.2.mono fun v w' hx=>⟨.inr (.inr hx.1),KH hs t _ _ _ (by simp[ZD]) hx.1 ht hx.2⟩) h
 rw[hl] at h1
 exact h1
end
end Go.Lg
namespace Go.Proofs.YtgmifemhkjdblaaGreatDoor
open Go.Lg
theorem At.sub {L:LN}{H:Array Obj}{a:Addr}{us:LV}(h:At L H a us) (n:Nat):At L H a (us.take n) :=
 ⟨h.out,h.lt,fun j u hu=>by
  rw[List.getElem?_take] at hu
  split at hu
  ·exact h.cell j u hu
  ·cases hu⟩
abbrev Z4 (p:Vs):LV:=[.int .i64 p.x,.int .i64 p.y,.int .i64 p.b,.int .i64 p.v]
theorem Ug (p:Vs):(Z4 p).length=4:=rfl
theorem QeR:∀(es:List Ed) (s v:Int),(∀e∈es,0≤e.2.2)→-1≤nxt es s v
 | [],_,_,_=>Int.le_refl _
 | e::es,s,v,h=>by
  rw[nxt]
  split
  ·have:=h e List.mem_cons_self;omega
  ·exact QeR es s v (fun x hx=>h x (List.mem_cons_of_mem _ hx))
theorem QeN {a:QM}(ho:Q4 a) (s v:Int):-1≤nxt a.ed s v∧(nxt a.ed s v<a.st∨nxt a.ed s v=-1):=by
 have h1:=QeR a.ed s v (fun e he=>(ho.ed e he).2.2.2.1)
 refine ⟨h1,?_⟩
 by_cases h:nxt a.ed s v<0
 ·right;omega
 ·left;exact QeP ho h
structure VsI (a b:QM) (V:List Vs):Prop where
 nd:(V.map Vs.ky).Nodup
 rg:∀p∈V,-1≤p.x∧(p.x<a.st∨p.x=-1)∧-1≤p.y∧(p.y<b.st∨p.y=-1)
 bk:∀(k:Nat) (h:k<V.length),V[k].b<(k:Int)
def cdV (m:Nat) (p:Int×Int):Int:=(p.1+1)*(m+1)+(p.2+1)
theorem QjK {n m:Nat}{x y:Int}(hx:-1≤x∧(x<n∨x=-1)) (hy:-1≤y∧(y<m∨y=-1)):0≤cdV m (x,y)∧cdV m (x,y)<(((n+1)*(m+1):Nat):Int):=by
 unfold cdV
 obtain ⟨u,hu⟩:∃u:Nat,x+1=u:=⟨(x+1).toNat,by omega⟩
 obtain ⟨v,hv⟩:∃v:Nat,y+1=v:=⟨(y+1).toNat,by omega⟩
 have hu1:u≤n:=by omega
 have hv1:v≤m:=by omega
 show 0≤(x+1)*((m:Int)+1)+(y+1)∧(x+1)*((m:Int)+1)+(y+1)<_
 rw[hu,hv]
 have h1:u*(m+1)+v<(n+1)*(m+1):=by
  have h2:u*(m+1)≤n*(m+1):=Nat.mul_le_mul_right _ hu1
  have h3:(n+1)*(m+1)=n*(m+1)+(m+1):=by rw[Nat.add_mul,Nat.one_mul]
  omega
 have e:((u:Int)*((m:Int)+1)+(v:Int))=((u*(m+1)+v:Nat):Int):=by push_cast;rfl
 rw[e]
 constructor <;> omega
theorem Qif {m:Nat}{x y x' y':Int}(hx:-1≤x) (hx':-1≤x') (hy:-1≤y∧(y<m∨y=-1)) (hy':-1≤y'∧(y'<m∨y'=-1)) (h:cdV m (x,y)=cdV m (x',y')):(x,y)=(x',y'):=by
 unfold cdV at h
 have h':(x+1)*((m:Int)+1)+(y+1)=(x'+1)*((m:Int)+1)+(y'+1):=h
 obtain ⟨u,hu⟩:∃u:Nat,x+1=u:=⟨(x+1).toNat,by omega⟩
 obtain ⟨u',hu'⟩:∃u':Nat,x'+1=u':=⟨(x'+1).toNat,by omega⟩
 obtain ⟨v,hv⟩:∃v:Nat,y+1=v:=⟨(y+1).toNat,by omega⟩
 obtain ⟨v',hv'⟩:∃v':Nat,y'+1=v':=⟨(y'+1).toNat,by omega⟩
 rw[hu,hu',hv,hv'] at h'
 have h1:u*(m+1)+v=u'*(m+1)+v':=by exact_mod_cast h'
 have hvm:v<m+1:=by omega
 have hvm':v'<m+1:=by omega
 have e1:u=u':=by
  have a1:(u*(m+1)+v) / (m+1)=u:=by rw[Nat.mul_comm,Nat.mul_add_div (by omega),Nat.div_eq_of_lt hvm,Nat.add_zero]
  have a2:(u'*(m+1)+v') / (m+1)=u':=by rw[Nat.mul_comm,Nat.mul_add_div (by omega),Nat.div_eq_of_lt hvm',Nat.add_zero]
  rw[←a1,←a2,h1]
 subst e1
 have e2:v=v':=by omega
 have:x=x'∧y=y':=⟨by omega,by omega⟩
 rw[this.1,this.2]
theorem VsI.len {a b:QM}(ha:Q4 a) (hb:Q4 b) {V:List Vs}(h:VsI a b V):V.length≤(a.st.toNat+1)*(b.st.toNat+1):=by
 have ha0:=ha.st0
 have hb0:=hb.st0
 have h1:=pig ((a.st.toNat+1)*(b.st.toNat+1)) ((V.map Vs.ky).map (cdV b.st.toNat)) (by
  unfold List.Nodup
  rw[List.pairwise_map]
  refine (List.Pairwise.imp_of_mem ?_ h.nd)
  intro p q hp hq hne e
  obtain ⟨p',hp',rfl⟩:=List.mem_map.1 hp
  obtain ⟨q',hq',rfl⟩:=List.mem_map.1 hq
  have r1:=h.rg p' hp'
  have r2:=h.rg q' hq'
  exact hne (Qif r1.1 r2.1 ⟨r1.2.2.1,by omega⟩ ⟨r2.2.2.1,by omega⟩ e)) (fun x hx=>by
  obtain ⟨k,hk,rfl⟩:=List.mem_map.1 hx
  obtain ⟨p,hp,rfl⟩:=List.mem_map.1 hk
  have r1:=h.rg p hp
  exact QjK ⟨r1.1,by omega⟩ ⟨r1.2.2.1,by omega⟩)
 simpa using h1
theorem Qjn {V W:List Vs}{i:Nat}(h:i<V.length):gV (V++W) i=gV V i:=by unfold gV;simp[List.getD,List.getElem?_append_left h]
theorem Qbd {V:List Vs}{i:Nat}(h:i<V.length):gV V i=V[i]'h:=by unfold gV;simp[List.getD,h]
theorem Qfr {a:QM}(ho:Q4 a):-1≤fst a∧(fst a<a.st∨fst a=-1):=by
 have:=ho.st0
 unfold fst
 split
 ·exact ⟨by omega,.inr rfl⟩
 ·exact ⟨by omega,.inl (by omega)⟩
theorem VsI.one {a b:QM}(ha:Q4 a) (hb:Q4 b):VsI a b [⟨fst a,fst b,-1,0⟩]:=by
 have h1:=Qfr ha
 have h2:=Qfr hb
 refine ⟨by simp,fun p hp=>?_,fun k h=>?_⟩
 ·simp only[List.mem_singleton] at hp;subst hp;exact ⟨h1.1,h1.2,h2.1,h2.2⟩
 ·have hk:k=0:=by simpa using h
  subst hk;exact (by decide:(-1:Int)<0)
theorem VsI.add {a b:QM}(ha:Q4 a) (hb:Q4 b) {V:List Vs}(h:VsI a b V) {i:Nat}(hi:i<V.length) {p:Vs}{v:Int}(hk:(zj a b i p v).ky∉V.map Vs.ky):VsI a b (V++[zj a b i p v]):=by
 refine ⟨?_,fun q hq=>?_,fun k hk'=>?_⟩
 ·rw[List.map_append,List.nodup_append]
  refine ⟨h.nd,by simp,fun x hx y hy e=>?_⟩
  simp only[List.map_cons,List.map_nil,List.mem_singleton] at hy
  subst hy;subst e;exact hk hx
 ·rcases List.mem_append.1 hq with hq | hq
  ·exact h.rg q hq
  ·simp only[List.mem_singleton] at hq;subst hq
   have r1:=QeN ha p.x v
   have r2:=QeN hb p.y v
   exact ⟨r1.1,r1.2,r2.1,r2.2⟩
 ·rw[List.getElem_append]
  split
  ·rename_i h1;exact h.bk k h1
  ·have:V.length≤k:=by omega
   simp only[List.getElem_singleton,zj]
   omega
theorem jE (V:List Vs) (f k:Nat):lgW V (f+1) k=if 0≤(gV V k).b then (gV V k).v::lgW V f (gV V k).b.toNat else []:=rfl
instance:Bw Tryz.prog 286 [.int .i64 0,.int .i64 0,.int .i64 0,.int .i64 0] [(0,2),(2,1),(3,1)]:=⟨by kernel_rfl,by decide⟩
abbrev stP (l:List (Int×Int)):List ((Int×Int)×Value):=l.map fun s=>(s,Value.bool true)
abbrev VsO (base:Nat) (w:World) (v:Value) (l:List Vs):Prop:=w.ownsRow base 286 4 v l.length (l.flatMap Z4)
theorem VsO.snoc {base:Nat}{w:World}{v:Value}{l:List Vs}{p:Vs}(h:w.ownsRow base 286 4 v (l.length+1) (l.flatMap Z4++Z4 p)):VsO base w v (l++[p]):=by
 unfold VsO
 rw[List.length_append,List.flatMap_append];simpa using h
theorem Qhl {p:Prop}{i:Decidable p}(h:(!@decide p i)=true):¬p:=by
 cases i with
 | isTrue hp=>cases h
 | isFalse hp=>exact hp
theorem QeW {p:Prop}{i:Decidable p}(h:(!@decide p i)=false):p:=by
 cases i with
 | isTrue hp=>exact hp
 | isFalse hp=>cases h
structure zK (H:Array Obj) (m:Nat) (V:List Vs):Prop where
 h:∃K:List (Int×Int),ZA ZM H m (stP K)∧∀k,k∈K↔k=(-1,-1)∨k∈V.map Vs.ky
theorem JE {H:Array Obj}{m:Nat}{K:List (Int×Int)}{k:Int×Int}(h:ZA ZM H m (mput (stP K) k (.bool true))):∃K',ZA ZM H m (stP K')∧∀x,x∈K'↔x=k∨x∈K:=by
 by_cases hk:k∈K
 ·refine ⟨K,?_,fun x=>⟨.inr,fun hx=>hx.elim (fun e=>e ▸ hk) id⟩⟩
  have key:∀K:List (Int×Int),k∈K→mput (stP K) k (.bool true)=stP K:=by
   intro K
   induction K with
   | nil=>intro h;cases h
   | cons a K ih =>
    intro hm
    show (if a=k then (a,Value.bool true)::stP K else (a,Value.bool true)::mput (stP K) k (.bool true))=_
    by_cases e:a=k
    ·rw[if_pos e];rfl
    ·rw[if_neg e,ih ((List.mem_cons.1 hm).resolve_left (fun h=>e h.symm))];rfl
  rw[key K hk] at h;exact h
 ·refine ⟨K++[k],?_,fun x=>by rw[List.mem_append,List.mem_singleton];exact Or.comm⟩
  have:=jf hk
  rw[show mput (stP K) k (.bool true)=stP (K++[k]) from this] at h;exact h
theorem zK.ext {w w':World}{m:Nat}{V:List Vs}(h:zK w.heap m V) (hs:Step [] w w'):zK w'.heap m V:=let ⟨K,h1,h2⟩:=h.h;⟨K,h1.step hs (by simp),h2⟩
theorem zk (a b:QM) (i:Nat) (p:Vs) (V:List Vs) (v:Int):((zj a b i p v).ky≠(-1,-1)∧(zj a b i p v).ky∉V.map Vs.ky∧lgA a b i p V v=V++[zj a b i p v])∨(((zj a b i p v).ky=(-1,-1)∨(zj a b i p v).ky∈V.map Vs.ky)∧lgA a b i p V v=V):=by
 unfold lgA
 by_cases h:(zj a b i p v).ky≠(-1,-1)∧(zj a b i p v).ky∉V.map Vs.ky
 ·exact .inl ⟨h.1,h.2,if_pos h⟩
 ·refine .inr ⟨?_,if_neg h⟩
  by_cases h1:(zj a b i p v).ky=(-1,-1)
  ·exact .inl h1
  ·exact .inr (Decidable.not_not.1 fun h2=>h ⟨h1,h2⟩)
set_option maxRecDepth 4096 in
set_option maxHeartbeats 16000000 in
theorem Qc0 {w:World}{vl:Value}{al:LI}{ba1 ba2 ba3 bb1 bb2 bb3:Nat}{a b:QM}{kd:Int}{g:Nat}{fn:Func}[Fu Tryz.prog g fn] {cap:LV}(hal:QL [] w.heap vl al) (hMa:yL w.heap ba1 ba2 ba3 a) (hMb:yL w.heap bb1 bb2 bb3 b) (hoa:Q4 a) (hob:Q4 b)
  (hk:∀(s t:Int) (w1:World),Step [] w w1→QG Tryz.prog g ([.agg #[.int .i64 s,.int .i64 t]]++cap) w1 fun r w'=>r=.bool (!(UE a kd s == UE b kd t))∧Step [] w1 w') :
  QG Tryz.prog 132 [vl,.pointer (some ⟨ba1,0,none⟩),.pointer (some ⟨bb1,0,none⟩),.func (.func g) #[] cap.toArray] w fun r w'=>Step [] w w' ∧
   match lgL a b kd al ((a.st.toNat+1)*(b.st.toNat+1)+1) 0 [⟨fst a,fst b,-1,0⟩] with | none=>r=.tuple #[Za,.bool false] | some u=>∃v,r=.tuple #[v,.bool true]∧Qs 3 w.heap.size w' v u:=by
 have hall:=hal.le
 have ha1:=hoa.st1
 have hb1:=hob.st1
 have hNle:(a.st.toNat+1)*(b.st.toNat+1)≤4097*4097:=Nat.mul_le_mul (by omega) (by omega)
 refine Zf ((a.st.toNat+1)*(b.st.toNat+1)) fun N hN=>?_
 rw[hN] at hNle ⊢
 refine Zf (lgL a b kd al (N+1) 0 [⟨fst a,fst b,-1,0⟩]) fun R hR=>?_
 rw[hR]
 refine QG.of_W Tryz.func132 rfl Tryz.ntmps132 Tryz.results132 (by simp) ?_
 refine Qc<|x Qe<|Qf ?_
 refine Qg<|QT (Step [] w) [(0,true),(1,true),(2,true),(3,true),(4,true),(5,true),(6,true),(7,true),(8,true),(9,false),(10,false)] Tryz.mixed (by rfl) (by kernel_rfl) (Step.drew _ _) ?_
 refine p (fun _=>Qm)<|p (fun _=>QE rfl)<|p (fun _=>Qa rfl)<|pq (fun _ hc=>Qd (hMa.B.ext hc) rfl rfl)<|p (fun _=>Qm)<|p (fun _=>QE rfl) <|
  p (fun _=>Qa rfl)<|pq (fun _ hc=>Qd (hMb.B.ext hc) rfl rfl)<|p (fun _=>QN ⟨rfl,rfl,trivial⟩)<|pk<|Qu (us:=[.int .i64 0,.int .i64 0]) rfl fun b10 w1 hs1 hb10 hB10=>⟨(Step.drew [] w).trans hs1,?_⟩
 refine pkl (hl:=by kernel_rfl)<|Qo (us:=[.int .i64 (fst a),.int .i64 (fst b)]) hB10 rfl rfl rfl rfl ⟨rfl,rfl,trivial⟩ fun w2 hs2 hB102=>pe ?_
 have hb10':w.heap.size≤b10:=hb10
 have hs02:Step [] w w2:=((Step.drew [] w).trans hs1).then1 hs2 hb10'
 have hz02:=hs02.size
 have hl10:=hB102.lt
 refine Qc<|x (Qq hB102 rfl rfl)<|x (Zw [(0,[.int .i64 (fst a),.int .i64 (fst b)]),(1,[.int .i64 (-1)]),(2,[.int .i64 0])] ⟨rfl,rfl,rfl,rfl,rfl,rfl,trivial⟩)<|xl rfl<|QI (us:=[Z4 ⟨fst a,fst b,-1,0⟩]) rfl rfl (by decide) (by simp) ⟨rfl,rfl,trivial⟩ fun b29 w3 hs3 hb29 hB29 =>
  Qf ?_
 have hs03:=hs02.trans hs3
 have hz3:=hs3.size
 have hl29:=hB29.lt
 have hB103:=hB102.ext hs3
 have hV3:VsO w.heap.size w3 (.slice (some ⟨b29,0,none⟩) 1 1) [⟨fst a,fst b,-1,0⟩]:=hB29.own (n:=1) (sz:=4) rfl (by omega) (by omega)
 refine QV (α:=Nat) [(30,33),(12,12)] (fun z=>[(12,.map (some z))]) (fun z w'=>Step [] w3 w'∧w3.heap.size≤z∧zK w'.heap z [⟨fst a,fst b,-1,0⟩]) (by rfl) ?_ ?_
 ·have hd3:Step [] w3 { w3 with drawn:=w3.drawn+1 }:=Step.drew _ _
  have hkm:∀(k:Int×Int),k∈[⟨fst a,fst b,-1,0⟩].map Vs.ky↔k=(fst a,fst b):=fun k=>by simp[Vs.ky]
  refine Qir (Step [] w3) [(1,true),(3,true)] 0 (.fk [] 2 4 (.pl [(4,false),(5,true),(6,true)]) (.pl [(2,false),(5,true),(6,true)])) Tryz.mixed (by rfl) (by kernel_rfl) (Step.drew _ _) ?_
  refine pq (fun _ hc=>Qq (hB103.ext hc) rfl rfl)<|p (fun _=>QN ⟨rfl,rfl,trivial⟩)<|pe ⟨rfl,ZS ZM fun m w4 hs4 hm hM=>⟨hd3.trans hs4,tf<|pe ⟨⟨rfl,?_⟩,rfl,?_⟩⟩⟩
  ·have hm':w3.heap.size≤m:=hm
   refine Z9 (k:=(fst a,fst b)) hM rfl rfl fun w5 hs5 hM5=>?_
   have hs35:=(hd3.trans hs4).then1 hs5 hm'
   obtain ⟨K1,hM5',hK1⟩:=JE (K:=[]) hM5
   refine ⟨hs35,?_⟩
   refine tp<|pk<|Z9 (k:=(-1,-1)) hM5' rfl rfl fun w6 hs6 hM6=>⟨hs35.then1 hs6 hm',?_⟩
   refine p (fun _=>Qm)<|p (fun _=>Qe)<|pe ?_
   obtain ⟨K2,hM6',hK2⟩:=JE hM6
   exact ⟨m,⟨rfl,trivial⟩,hs35.then1 hs6 hm',hm',⟨K2,hM6',fun k=>by rw[hK2,hK1,hkm];simp⟩⟩
  ·have hm':w3.heap.size≤m:=hm
   refine Z9 (k:=(-1,-1)) hM rfl rfl fun w5 hs5 hM5=>?_
   have hs35:=(hd3.trans hs4).then1 hs5 hm'
   obtain ⟨K1,hM5',hK1⟩:=JE (K:=[]) hM5
   refine ⟨hs35,?_⟩
   refine tp<|pk<|Z9 (k:=(fst a,fst b)) hM5' rfl rfl fun w6 hs6 hM6=>⟨hs35.then1 hs6 hm',?_⟩
   refine p (fun _=>Qm)<|p (fun _=>Qe)<|pe ?_
   obtain ⟨K2,hM6',hK2⟩:=JE hM6
   exact ⟨m,⟨rfl,trivial⟩,hs35.then1 hs6 hm',hm',⟨K2,hM6',fun k=>by rw[hK2,hK1,hkm];simp[or_comm]⟩⟩
 rintro m g0 w4 ⟨hs4,hm4,hK4⟩
 have hs04:=hs03.trans hs4
 have hz4:=hs4.size
 have hmw:w.heap.size≤m:=by omega
 have hmob:m∉ob (.slice (some ⟨b29,0,none⟩) 1 1):=by
  intro h
  have h':m∈[b29]:=h
  simp only[List.mem_singleton] at h'
  omega
 refine Qg<|Qc<|Qf ?_
 refine Qh<|QA (α:=Nat×Value×List Vs×Nat) [(8,9),(11,11),(13,14),(16,17),(34,108)] (fun z=>[(8,Za),(11,z.2.1),(13,.int .i64 z.1)]) (fun z w'=>z.1≤z.2.2.1.length∧Step [] w w'∧VsO w.heap.size w' z.2.1 z.2.2.1∧zK w'.heap m z.2.2.1∧m∉ob z.2.1∧VsI a b z.2.2.1∧z.2.2.2+z.1=N+1∧lgL a b kd al z.2.2.2 z.1 z.2.2.1=R) (fun z=>z.2.2.2) (by rfl) (0,.slice (some ⟨b29,0,none⟩) 1 1,[⟨fst a,fst b,-1,0⟩],N+1) ⟨rfl,rfl,rfl,trivial⟩
  ⟨Nat.zero_le _,hs04,Qt hV3 hs4,hK4,hmob,VsI.one hoa hob,rfl,hR⟩ ?_
 rintro ⟨i,vV,V,f⟩ g1 w5 ⟨hi,hs5,hV5,hK5,hmV,hVI,hf,hL⟩
 simp only[] at hi hV5 hK5 hmV hVI hf hL
 have hVlen:V.length≤N:=by rw[←hN];exact VsI.len hoa hob hVI
 have hge5:=Qp hV5
 have hz5:=hs5.size
 have hVA:Zs [] w5.heap vV V.length 4 (V.flatMap Z4):=QX hV5 (by omega) (by simp)
 refine Qg<|Qc<|Qb<|Qb<|x (Qr hVA rfl)<|x (QB rfl rfl)<|xe ?_
 refine QD rfl (fun h37=>?_) (fun h37=>?_)
 ·refine Qz ?_
  have hie:¬i<V.length:=by have h16:¬(i:Int)<(V.length:Int):=h37;omega
  have hR0:R=none:=by
   rw[←hL]
   cases f with
   | zero=>rfl
   | succ f=>rw[lgL,if_neg hie]
  rw[hR0]
  refine Qc<|x Qe<|Qf ?_
  exact Ql ⟨[Za,.bool false],⟨rfl,rfl,trivial⟩,hs5,rfl⟩
 have hlt:i<V.length:=by have h16:(i:Int)<(V.length:Int):=h37;omega
 refine Exists.elim (show ∃f',f=f'+1 from ⟨f - 1,by omega⟩) fun f' hff=>?_
 rw[hff] at hL
 rw[lgL,if_pos hlt] at hL
 have hgi:=Qbd hlt
 refine Qi ?_
 refine Qg<|Qh<|Qg<|Qc<|Qb<|Qb<|Qb<|xig (g:=Z4) (i:=i) Ug hVA rfl rfl hlt fun a43 h43=>?_
 rw[←hgi] at h43
 refine Zf (gV V i) fun pi hpi=>?_
 rw[hpi] at h43 hL
 refine x (Zd rfl)<|x (QK (us:=[.int .i64 pi.x,.int .i64 pi.y]) (At.sub (h43.from 0) 2) rfl rfl) <|
  xl rfl<|xc (first:=[]) (capt:=cap) rfl<|(hk pi.x pi.y w5 hs5).mono ?_
 rintro r6 w6 ⟨rfl,hs6⟩
 refine xe ?_
 have hs06:=hs5.trans hs6
 have hz6:=hs6.size
 have hV6:=Qt hV5 hs6
 have hVA6:=hVA.ext hs6
 refine QW rfl (fun h46=>?_) (fun h46=>?_)
 ·have hc:lgC a b kd pi=true:=h46
  rw[if_pos hc] at hL
  rw[←hL]
  refine Qg<|Qc<|Qb<|Qf ?_
  refine Qh<|QA (α:=Nat×Nat×Value×LI) [(8,8),(14,14),(48,66)] (fun z=>[(8,z.2.2.1),(14,.int .i64 z.2.1)]) (fun z w'=>z.2.1<V.length∧Step [] w6 w'∧Qs 3 w6.heap.size w' z.2.2.1 z.2.2.2∧z.2.2.2++lgW V z.1 z.2.1=lgW V (i+1) i∧z.2.1+1≤z.1∧z.2.2.2.length+z.1=i+1) (fun z=>z.1) (by rfl) (i+1,i,Za,[]) ⟨rfl,rfl,trivial⟩
   ⟨hlt,Step.refl _ _,QP _ _ _ _,rfl,Nat.le_refl _,by simp⟩ ?_
  rintro ⟨fu,k,vo,wd⟩ g2 w7 ⟨hkV,hs7,ho7,hw7,hfu,hwl⟩
  simp only[] at hkV ho7 hw7 hfu hwl
  have hVA7:=hVA6.ext hs7
  have hgk:=Qbd hkV
  have hbk:=hVI.bk k hkV
  have hge7:=Qp ho7
  have hz7:=hs7.size
  refine Exists.elim (show ∃fu',fu=fu'+1 from ⟨fu - 1,by omega⟩) fun fu' hff2=>?_
  rw[hff2] at hw7
  rw[jE] at hw7
  refine Qg<|Qc<|Qb<|Qb<|xig (g:=Z4) (i:=k) Ug hVA7 rfl rfl hkV fun a50 h50=>?_
  rw[←hgk] at h50 hbk
  refine Zf (gV V k) fun pq' hpq=>?_
  rw[hpq] at h50 hbk hw7
  refine x (Zd rfl)<|x (Qv (h50.fld 2 (.int .i64 pq'.b) rfl) rfl)<|x (ZH rfl rfl)<|xe ?_
  refine QD rfl (fun h53=>?_) (fun h53=>?_)
  ·refine Qz ?_
   have hb0:¬0≤pq'.b:=h53
   rw[if_neg hb0,List.append_nil] at hw7
   refine Qc<|Qb<|xl rfl<|xf<|(qj ho7 (by omega)).mono ?_
   rintro r8 w8 ⟨ho8,hs8⟩
   refine xe ?_
   refine Qc<|Qb<|x Qe<|Qf ?_
   rw[hw7] at ho8
   have hz06:=hs06.size
   exact Ql ⟨[vo,.bool true],⟨rfl,rfl,trivial⟩,(hs06.trans hs7).then hs8 (fun b hb=>.inr (by have:=(hge7 b hb).1;omega)),vo,rfl,Zc ho8 hz06⟩
  have hb0:0≤pq'.b:=h53
  rw[if_pos hb0] at hw7
  have hbn:pq'.b=(pq'.b.toNat:Int):=by omega
  refine Qi ?_
  refine Qg<|Qh<|Qw<|Qb<|Qb<|Qb<|xig (g:=Z4) (i:=k) Ug hVA7 rfl rfl hkV fun a62 h62=>?_
  rw[←hgk,hpq] at h62
  refine x (Zd rfl)<|x (Qv (h62.fld 3 (.int .i64 pq'.v) rfl) rfl) <|
   xl rfl<|QI (us:=[[.int .i64 pq'.v]]) rfl rfl (by decide) (by simp) ⟨rfl,rfl,trivial⟩ fun b65 w9 hs9 hb65 hB65=>?_
  have hz9:=hs9.size
  refine xl rfl<|Q2 (news:=[.int .i64 pq'.v]) (L:=[]) (Qt ho7 hs9) rfl rfl rfl (hB65.at (by simp)) (by simp[Value.oneCell']) (by omega) (by omega) fun v10 w10 ho10 hs10 hn10 =>
   Qf ?_
  have hs610:Step [] w6 w10:=(hs7.trans hs9).then hs10 (fun b hb=>.inr (hge7 b hb).1)
  have hVA10:=hVA6.ext hs610
  refine Qw<|Qb<|Qb<|xig (g:=Z4) (i:=k) Ug hVA10 rfl rfl hkV fun a56 h56=>?_
  rw[←hgk,hpq] at h56
  refine x (Zd rfl)<|x (Qv (h56.fld 2 (.int .i64 pq'.b) rfl) rfl)<|x Qe <|
   xe ?_
  refine ⟨(fu',pq'.b.toNat,v10,wd++[pq'.v]),by simp only[];omega,⟨rfl,congrArg (Value.int .i64) hbn,trivial⟩,by simp only[];omega,hs610,Qs.snoc ho10,?_,by simp only[];omega,by simp only[List.length_append,List.length_singleton];omega⟩
  simp only[]
  rw[List.append_assoc];exact hw7
 have hc:¬lgC a b kd pi=true:=by
  intro h
  have h46':lgC a b kd pi=false:=h46
  rw[h46'] at h;cases h
 rw[if_neg hc] at hL
 refine Qi ?_
 refine Qc<|Qb<|x (Qr (hal.ext hs06) rfl)<|Qb<|xe ?_
 refine Qh<|QA (α:=Nat×Value×List Vs) [(11,11),(16,17),(72,108)] (fun z=>[(11,z.2.1),(72,.int .i64 z.1)]) (fun z w'=>z.1≤al.length∧Step [] w w'∧VsO w.heap.size w' z.2.1 z.2.2∧zK w'.heap m z.2.2∧m∉ob z.2.1∧VsI a b z.2.2∧z.2.2=(al.take z.1).foldl (lgA a b i pi) V∧∃W,z.2.2=V++W) (fun z=>al.length - z.1) (by rfl) (0,vV,V) ⟨rfl,rfl,trivial⟩
  ⟨Nat.zero_le _,hs06,hV6,hK5.ext hs6,hmV,hVI,rfl,[],by simp⟩ ?_
 rintro ⟨j,vU,U⟩ g3 w11 ⟨hj,hs11,hU11,hK11,hmU,hUI,hUf,⟨W,hUW⟩⟩
 simp only[] at hj hU11 hK11 hmU hUI hUf hUW
 have hUlen:U.length≤N:=by rw[←hN];exact VsI.len hoa hob hUI
 have hUl:V.length≤U.length:=by rw[hUW,List.length_append];omega
 have hiU:i<U.length:=by omega
 have hgeU:=Qp hU11
 have hz11:=hs11.size
 refine Qc<|x (QB rfl rfl)<|xe ?_
 refine Qg<|QD rfl (fun h73=>?_) (fun h73=>?_)
 ·refine Qz ?_
  have hje:al.length≤j:=by have h16:¬(j:Int)<(al.length:Int):=h73;omega
  rw[List.take_of_length_le hje] at hUf
  rw[←hUf] at hL
  refine Qw<|Qb<|x (Qy rfl rfl ⟨by omega,by omega⟩)<|Qf ?_
  exact ⟨(i+1,vU,U,f'),by simp only[];omega,⟨rfl,rfl,rfl,trivial⟩,hiU,hs11,hU11,hK11,hmU,hUI,by simp only[];omega,hL⟩
 have hltA:j<al.length:=by have h16:(j:Int)<(al.length:Int):=h73;omega
 have htj:al.take (j+1)=al.take j++[al[j]'hltA]:=List.take_succ_eq_append_getElem hltA
 have hgU:gV U i=pi:=by rw[hUW,Qjn hlt];exact hpi
 refine Qi ?_
 refine Qg<|Qh<|Qc<|xii (i:=j) (hal.ext hs11) rfl rfl hltA fun a74 h74=>?_
 refine Zf (al[j]'hltA) fun v hv=>?_
 rw[hv] at h74 htj
 have hUf':(al.take (j+1)).foldl (lgA a b i pi) V=lgA a b i pi U v:=by rw[htj,List.foldl_append,←hUf];rfl
 refine x (Qv h74 rfl)<|Qf ?_
 refine Exists.elim (Vw hU11 (by omega)) fun g9 hg9=>Exists.elim hg9 fun cap9 hvU=>?_
 have hUA:Zs [] w11.heap vU U.length 4 (U.flatMap Z4):=QX hU11 (by omega) (by simp)
 have hat:At [] w11.heap ⟨g9,0+i*4,none⟩ (Z4 pi):=by
  obtain ⟨a9,c9,e1,e2⟩:=Zs.at hUA hiU
  rw[Ji Z4 4 Ug U i hiU,←Qbd hiU,hgU] at e2
  rw[hvU] at e1
  have e3:(⟨g9,0,none⟩:Addr)=a9:=by
   have:=Value.slice.inj e1
   exact Option.some.inj this.1
  rw[←e3,Ym] at e2
  exact e2
 have hat0:At [] w11.heap ⟨g9,0+i*4+0+0*1,none⟩ [.int .i64 pi.x]:=by
  have:=hat.fld 0 (.int .i64 pi.x) rfl
  rw[Ym] at this;exact this
 have hat1:At [] w11.heap ⟨g9,0+i*4+0+1*1,none⟩ [.int .i64 pi.y]:=by
  have:=hat.fld 1 (.int .i64 pi.y) rfl
  rw[Ym] at this;exact this
 have hMa11:=hMa.ext hs11
 have hMb11:=hMb.ext hs11
 refine QV (α:=Nat) [(76,94),(17,17)] (fun z=>[(17,.pointer (some ⟨z,0,none⟩))]) (fun z w'=>Step [] w11 w'∧w11.heap.size≤z∧QS w'.heap z 239 [.int .i64 (nxt a.ed pi.x v),.int .i64 (nxt b.ed pi.y v)]) (by rfl) ?_ ?_
 ·refine zI (α:=Unit) (Step [] w11) [(0,true),(1,true),(2,true),(3,true),(4,true),(5,true),(6,true),(7,true),(9,true),(10,true),(11,true),(12,true),(13,true),(14,true),(15,true),(16,true)] [(8,false),(17,false),(18,true)] 19 17 [(20,false)] []
   [(76,94)] [(84,84),(93,94)] (fun _=>[(94,.agg [.int .i64 (nxt a.ed pi.x v),.int .i64 (nxt b.ed pi.y v)].toArray)]) (fun _ _ _=>True)
   (fun v w'=>∃b,v=.pointer (some ⟨b,0,none⟩)∧w11.heap.size≤b∧QS w'.heap b 239 [.int .i64 0,.int .i64 0]) Tryz.mixed (by rfl) (by kernel_rfl) (by rfl) rfl (Step.drew _ _) (by simp) ?_ ?_ ?_ ?_
  ·rintro v own wa wb ⟨b,rfl,hb,hB⟩ hs hn
   exact ⟨b,rfl,hb,hB.step hs (hn b (by simp[ow]))⟩
  ·intro z own wa wb h hs
   trivial
  ·rintro z g5 own wz v5 _ hCz ⟨b17,rfl,hb17,hB17⟩ _
   refine pkl (hl:=by kernel_rfl)<|Qo (us:=[.int .i64 (nxt a.ed pi.x v),.int .i64 (nxt b.ed pi.y v)]) hB17 rfl rfl rfl rfl ⟨rfl,rfl,trivial⟩ fun w8 hs8 hB178=>pe ?_
   exact ⟨b17,⟨rfl,trivial⟩,hCz.then1 hs8 hb17,hb17,hB178⟩
  refine p (fun _=>Qm)<|p (fun _=>Qm)<|p (fun _=>Qm)<|p (fun _=>QQ (show ev _ _=_ from hvU) rfl hiU)<|p (fun _=>Qa rfl) <|
   p (fun _=>YK (i:=0) rfl rfl (by decide))<|pq (fun _ hc=>Qv (hat0.st hc) rfl)<|p (fun _=>Qm)<|p (fun _=>Qm)<|p (fun _=>Qm)<|p (fun _=>Qm) <|
   p (fun _=>QQ (show ev _ _=_ from hvU) rfl hiU)<|p (fun _=>Qa rfl)<|p (fun _=>YK (i:=1) rfl rfl (by decide))<|pq (fun _ hc=>Qv (hat1.st hc) rfl) <|
   p (fun _=>Qm)<|pe ⟨fun g6 wf hCf=>Qu (us:=[.int .i64 0,.int .i64 0]) rfl fun b wf' hsf hbf hBf=>⟨hsf,hCf.trans hsf,⟨b,rfl,Nat.le_trans hCf.size hbf,hBf⟩,fun x hx=>?_⟩,?_⟩
  ·have hxe:x=b:=by
    have hx':x∈[b]:=hx
    simpa using hx'
   subst hxe
   exact ⟨hbf,hBf.lt⟩
  refine f2k fun x1 p1 c1=>xf<|(zh (hMa11.ext c1) hoa pi.x v).mono ?_
  rintro r84 y1 ⟨rfl,hs1'⟩
  refine ⟨c1.trans hs1',[],hs1',(fun b hb=>by cases hb),?_⟩
  refine f2k fun x2 p2 c2=>xf<|(zh (hMb11.ext c2) hob pi.y v).mono ?_
  rintro r93 y2 ⟨rfl,hs2'⟩
  refine ⟨c2.trans hs2',[],hs2',(fun b hb=>by cases hb),?_⟩
  refine f2p (fun _=>QN ⟨rfl,rfl,trivial⟩)<|f2e ?_
  exact ⟨(),⟨rfl,trivial⟩,trivial⟩
 rintro b17 g7 w12 ⟨hs12,hb17,hB17⟩
 have hs012:=hs11.trans hs12
 have hz12:=hs12.size
 have hl17:=hB17.lt
 refine Exists.elim (hK11.ext hs12).h fun K hKKK=>And.elim (fun hMK hKK=>?_) hKKK
 have hky:(zj a b i pi v).ky=(nxt a.ed pi.x v,nxt b.ed pi.y v):=rfl
 refine Qc<|Qb<|x (Qq hB17 rfl rfl)<|x (qZ (s:=(nxt a.ed pi.x v,nxt b.ed pi.y v)) hMK rfl rfl)<|x (Zo rfl)<|xe ?_
 refine QW rfl (fun h98=>?_) (fun h98=>?_)
 ·have hnK:(nxt a.ed pi.x v,nxt b.ed pi.y v)∉K:=Qhl h98
  have hnn:=fun h=>hnK ((hKK _).2 h)
  rw[←hky] at hnn
  have hadd:lgA a b i pi U v=U++[zj a b i pi v]:=by
   rcases zk a b i pi U v with ⟨_,_,h⟩ | ⟨h,_⟩
   ·exact h
   ·exact absurd h hnn
  rw[hadd] at hUf'
  have hmb:m∉ob vU:=hmU
  have hb17l:b17∉m::ob vU:=fun hb=>by
   rcases List.mem_cons.1 hb with rfl | hb
   ·obtain ⟨K0,hM0,_⟩:=hK11.h
    have:=hM0.lt;omega
   ·have:=(hgeU b17 hb).2;omega
  have hm12:m<w12.heap.size:=hMK.lt
  have hd12:Step [] w12 { w12 with drawn:=w12.drawn+1 }:=Step.drew _ _
  refine QT (Step (m::ob vU) w12) [(0,true),(1,true),(2,true),(3,true),(4,true),(5,true),(6,true),(7,false),(8,false),(9,false),(10,true)] Tryz.mixed (by rfl) (by kernel_rfl) (Step.drew _ _) ?_
  refine p (fun _=>Qm)<|pq (fun _ hc=>Qq (hB17.step hc hb17l) rfl rfl)<|p (fun _=>Qm)<|pq (fun _ hc=>Qq (hB17.step hc hb17l) rfl rfl) <|
   p (fun _=>Qm)<|p (fun _=>Qm)<|p (fun _=>Zw [(0,[.int .i64 (nxt a.ed pi.x v),.int .i64 (nxt b.ed pi.y v)]),(1,[.int .i64 i]),(2,[.int .i64 v])] ⟨rfl,rfl,rfl,rfl,rfl,rfl,trivial⟩)<|pk<|QI (us:=[Z4 (zj a b i pi v)]) rfl rfl (by decide) (by simp) ⟨rfl,rfl,trivial⟩ fun b106 w13 hs13 hb106 hB106=>⟨(hd12.trans hs13).any,?_⟩
  have hs1113:=hs12.trans (hd12.trans hs13)
  have hz13:=(hd12.trans hs13).size
  refine pk<|Q2 (news:=Z4 (zj a b i pi v)) (L:=[]) (Qt hU11 hs1113) rfl rfl rfl (hB106.at (by simp)) (fun u hu=>by
   simp only[List.mem_cons,List.not_mem_nil,or_false] at hu
   rcases hu with rfl | rfl | rfl | rfl <;> rfl) (by omega) (by have:=hs1113.size;omega) fun v14 w14 ho14 hs14 hn14=>⟨(hd12.trans hs13).any.trans' (hs14.mono (fun b hb=>List.mem_cons_of_mem _ hb)),?_⟩
  have hM14:ZA ZM w14.heap m (stP K):=(hMK.step (hd12.trans hs13) (by simp)).step hs14 hmb
  refine pk<|Yw (k:=(nxt a.ed pi.x v,nxt b.ed pi.y v)) hM14 rfl rfl fun w15 hs15 hM15=>⟨((hd12.trans hs13).any.trans' (hs14.mono (fun b hb=>List.mem_cons_of_mem _ hb))).trans' (hs15.mono (by simp)),?_⟩
  refine p (fun _=>Qe)<|pe ?_
  refine Exists.elim (JE hM15) fun K' hKKK'=>And.elim (fun hM15' hKK'=>?_) hKKK'
  have hm14:m∉ob v14:=fun hb=>by
   rcases hn14 m hb with h9 | h9
   ·exact hmb h9
   ·have:=hm12;omega
  refine Qw<|x (Qy rfl rfl ⟨by omega,by omega⟩)<|Qb<|xe ?_
  have hs014:Step [] w w14:=(hs11.trans hs1113).then hs14 (fun b hb=>.inr (hgeU b hb).1)
  refine ⟨(j+1,v14,U++[zj a b i pi v]),by simp only[];omega,⟨rfl,rfl,trivial⟩,hltA,hs014.then1 hs15 hmw,Qk (VsO.snoc ho14) hs15 (fun b hb hmm=>by simp only[List.mem_singleton] at hmm;subst hmm;exact hm14 hb),⟨K',hM15',fun k=>?_⟩,hm14,VsI.add hoa hob hUI hiU (fun h=>hnn (.inr h)),hUf'.symm,W++[zj a b i pi v],by rw[hUW,List.append_assoc]⟩
  rw[hKK',hKK,List.map_append,List.mem_append]
  constructor
  ·rintro (h | h | h)
   ·exact .inr (.inr (by rw[h];simp[hky]))
   ·exact .inl h
   ·exact .inr (.inl h)
  ·rintro (h | h | h)
   ·exact .inr (.inl h)
   ·exact .inr (.inr h)
   ·exact .inl (by simpa[hky] using h)
 have hK:(nxt a.ed pi.x v,nxt b.ed pi.y v)∈K:=QeW h98
 have hnn:=(hKK _).1 hK
 rw[←hky] at hnn
 have hadd:lgA a b i pi U v=U:=by
  rcases zk a b i pi U v with ⟨h1,h2,_⟩ | ⟨_,h⟩
  ·exact absurd hnn (fun h=>h.elim h1 h2)
  ·exact h
 rw[hadd] at hUf'
 refine Qi ?_
 refine Qw<|x (Qy rfl rfl ⟨by omega,by omega⟩)<|Qb<|xe ?_
 exact ⟨(j+1,vU,U),by simp only[];omega,⟨rfl,rfl,trivial⟩,hltA,hs012,Qt hU11 hs12,hK11.ext hs12,hmU,hUI,hUf'.symm,W,hUW⟩
end Go.Proofs.YtgmifemhkjdblaaGreatDoor
