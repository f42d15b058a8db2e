/- Merged out of 45 texts. -/
import Derived.Test.YtgmifemhkjdblaaGreatDoorKha
import Derived.Laws.Strings
import Derived.RangeFuncNested
import Derived.RangeFuncLeaves
import Derived.RangeFuncCalls
import Derived.OrdersIn
import Derived.TacticsIn
namespace Go.Proofs.YtgmifemhkjdblaaGreatDoor
open Go.Lg
theorem XR (p:AV):(Zb p).length=4:=rfl
theorem zR (p:TV):(Z5 p).length=1:=rfl
theorem YJ.le {L:LN}{H:Array Obj}{v:Value}{ps:List AV}(h:YJ L H v ps):ps.length≤1099511627776:=h.arr.le
theorem Qf0 {l:List QM}{k:Nat}(h:k<l.length):ckL (l.drop k)=if Y8 l[k]≠0 then Y8 l[k] else ckL (l.drop (k+1)):=by
 rw[List.drop_eq_getElem_cons h,ckL]
theorem q6 {L:LN}{w:World}{v:Value}{ps:List AV}(h:YJ L w.heap v ps) :
  QG Tryz.prog 46 [v] w fun r w'=>r=.int .i64 (Kc (ps.map (·.a)))∧Step [] w w':=by
 have hle:=YJ.le h
 refine QG.of_W Tryz.func46 rfl Tryz.ntmps46 Tryz.results46 (by simp) ?_
 refine Qc<|Qf ?_
 refine Qg<|Qc<|Qb<|x (Qr h.arr rfl)<|x (ZK rfl rfl)<|xe ?_
 refine Q3 rfl (fun h8=>?_) (fun h8=>?_)
 ·refine Qc<|Qf ?_
  refine Ql ⟨[.int .i64 3],⟨rfl,trivial⟩,?_,Step.refl _ _⟩
  unfold Kc;rw[if_pos (by simp;omega)];rfl
 refine Qi ?_
 have hP:Kc (ps.map (·.a))=ckL (ps.map (·.a)):=by unfold Kc;rw[if_neg (by simp;omega)]
 rw[hP]
 refine Qg<|Qc<|Qb<|x (Qr h.arr rfl)<|Qb<|xe ?_
 refine Qh<|QA (α:=Nat) [(2,2),(4,5),(11,20)] (fun z=>[(11,.int .i64 z)]) (fun z w'=>z≤ps.length∧Step [] w w'∧ckL (ps.map (·.a))=ckL ((ps.map (·.a)).drop z)) (fun z=>ps.length - z) (by rfl) 0 ⟨rfl,trivial⟩
  ⟨Nat.zero_le _,Step.refl _ _,rfl⟩ ?_
 rintro k g w1 ⟨hk,hs1,hck⟩
 refine Qc<|x (QB rfl rfl)<|xe ?_
 refine Qg<|QD rfl (fun h12=>?_) (fun h12=>?_)
 ·refine Qz ?_
  refine Qc<|Qf ?_
  refine Ql ⟨[.int .i64 0],⟨rfl,trivial⟩,?_,hs1⟩
  rw[hck,List.drop_of_length_le (by simp;omega)];rfl
 have hlt:k<ps.length:=by omega
 have hlt':k<(ps.map (·.a)).length:=by simpa using hlt
 rw[Qf0 hlt',List.getElem_map] at hck
 refine Qi ?_
 refine Qg<|Qh<|Qc<|xig XR (h.ext hs1).arr rfl rfl hlt fun a13 h13=>x (QK h13 rfl rfl)<|xl rfl<|Qu (us:=[nS,.int .i64 0,nS,nS]) rfl fun b4 w2 hs2 hb4 hB4=>?_
 have hA:=h.each ps[k] (List.getElem_mem hlt)
 refine xl rfl<|Qo (us:=Zb ps[k]) hB4 rfl rfl rfl rfl ⟨hA.al.one,rfl,hA.mr.one,hA.ed.one,trivial⟩ fun w3 hs3 hB4=>xe ?_
 have hs13:Step [] w1 w3:=hs2.then1 hs3 hb4
 refine Qc<|x (Qq hB4 rfl rfl)<|xl rfl<|xf<|(YP ((hA.ext hs1).ext hs13)).mono ?_
 rintro r4 w4 ⟨rfl,hs4⟩
 refine Qf ?_
 have hst:=(hs1.trans hs13).trans hs4
 refine Qc<|Qb<|x (Q6 rfl rfl)<|xe ?_
 refine Q3 rfl (fun h18=>?_) (fun h18=>?_)
 ·refine Qc<|Qb<|Qf ?_
  refine Ql ⟨[.int .i64 (Y8 ps[k].a)],⟨rfl,trivial⟩,?_,hst⟩
  rw[hck,if_pos h18];rfl
 refine Qi ?_
 refine Qw<|x (Qy rfl rfl ⟨by omega,by omega⟩)<|Qb<|xe ?_
 refine ⟨k+1,by omega,⟨rfl,trivial⟩,hlt,hst,?_⟩
 rw[hck,if_neg h18]
theorem QfL {l:List QM}{k:Nat}(h:k<l.length):evs (l.take (k+1))=mrg (· || ·) (evs (l.take k)) l[k].al:=by
 unfold evs
 rw[List.take_succ_eq_append_getElem h,List.foldl_append];rfl
theorem Uc (l:List QM) (h:∀a∈l,a.al.length≤32):(evs l).length≤32*l.length:=by
 have key:∀(l:List QM) (acc:LI),(∀a∈l,a.al.length≤32)→(l.foldl (fun acc a=>mrg (· || ·) acc a.al) acc).length≤acc.length+32*l.length:=by
  intro l
  induction l with
  | nil=>intro acc _;simp
  | cons a l ih =>
   intro acc h
   have h1:=ih (mrg (· || ·) acc a.al) (fun a ha=>h a (List.mem_cons_of_mem _ ha))
   have h2:=KX (· || ·) acc a.al
   have h3:=h a List.mem_cons_self
   simp only[List.foldl_cons,List.length_cons]
   omega
 have:=key l [] h
 unfold evs;simpa using this
theorem zt {L:LN}{w:World}{v:Value}{ps:List AV}(h:YJ L w.heap v ps) (hn:ps.length≤12) (hal:∀p∈ps,p.a.al.length≤32) :
  QG Tryz.prog 96 [v] w fun r w'=>Step [] w w'∧Qs 3 w.heap.size w' r (evs (ps.map (·.a))):=by
 refine QG.of_W Tryz.func96 rfl Tryz.ntmps96 Tryz.results96 (by simp) ?_
 refine Qc<|Qf ?_
 refine Qc<|Qf ?_
 refine Qg<|Qc<|Qb<|x (Qr h.arr rfl)<|Qb<|xe ?_
 refine Qh<|QA (α:=Nat×Value) [(3,3),(5,5),(8,16)] (fun z=>[(3,z.2),(8,.int .i64 z.1)]) (fun z w'=>z.1≤ps.length∧Step [] w w'∧Qs 3 w.heap.size w' z.2 (evs ((ps.map (·.a)).take z.1))) (fun z=>ps.length - z.1) (by rfl) (0,nS) ⟨rfl,rfl,trivial⟩
  ⟨Nat.zero_le _,Step.refl _ _,QP _ _ _ _⟩ ?_
 rintro ⟨k,vo⟩ g w1 ⟨hk,hs1,ho⟩
 simp only[] at hk ho
 have hel:=Uc ((ps.map (·.a)).take k) (fun a ha=>by obtain ⟨p,hp,rfl⟩:=List.mem_map.1 (List.mem_of_mem_take ha);exact hal p hp)
 have htl:((ps.map (·.a)).take k).length≤12:=by simp;omega
 refine Qc<|x (QB rfl rfl)<|xe ?_
 refine Qg<|QD rfl (fun h9=>?_) (fun h9=>?_)
 ·refine Qz ?_
  refine Qc<|Qb<|Qf ?_
  refine Ql ⟨[vo],⟨rfl,trivial⟩,hs1,?_⟩
  rw[List.take_of_length_le (by simp;omega)] at ho
  exact ho
 have hlt:k<ps.length:=by omega
 refine Qi ?_
 refine Qg<|Qh<|Qc<|xig XR (h.ext hs1).arr rfl rfl hlt fun a10 h10=>x (QK h10 rfl rfl)<|xl rfl<|Qu (us:=[nS,.int .i64 0,nS,nS]) rfl fun b5 w2 hs2 hb5 hB5=>?_
 have hA:=h.each ps[k] (List.getElem_mem hlt)
 have hal':=hal ps[k] (List.getElem_mem hlt)
 refine xl rfl<|Qo (us:=Zb ps[k]) hB5 rfl rfl rfl rfl ⟨hA.al.one,rfl,hA.mr.one,hA.ed.one,trivial⟩ fun w3 hs3 hB5=>xe ?_
 have hs13:Step [] w1 w3:=hs2.then1 hs3 hb5
 have hst:=hs1.trans hs13
 refine Qw<|Qb<|x (Qa rfl)<|x (Qd hB5 rfl rfl)<|xl rfl<|xf<|(qh (Qs.ints (L:=[]) (Qt ho hs13) (by omega) (by simp)) (hA.al.ext hst) (by omega)).mono ?_
 rintro r4 w4 ⟨hs4,ho4⟩
 refine Qf ?_
 refine Qw<|x (Qy rfl rfl ⟨by omega,by omega⟩)<|Qb<|xe ?_
 refine ⟨(k+1,r4),by simp only[];omega,⟨rfl,rfl,trivial⟩,hlt,hst.trans hs4,?_⟩
 simp only[]
 rw[QfL (by simpa using hlt),List.getElem_map]
 exact Zc ho4 hst.size
abbrev jC (b:Nat):LV:=[.map (some b)]
structure JX (L:LN) (H:Array Obj) (vl ve vs:Value) (ps:List AV) (ms:LN):Prop where
 al:YJ L H vl ps
 ev:QL L H ve (evs (ps.map (·.a)))
 ml:ms.length=ps.length
 sl:Zs L H vs ms.length 1 (ms.flatMap jC)
 mp:∀i (h:i<ms.length) (h':i<ps.length),ZA ZM H ms[i] (Jq [] ps[i].a.ed)∧ms[i]∉L
theorem JX.ext {L:LN}{w w':World}{vl ve vs:Value}{ps:List AV}{ms:LN}(h:JX L w.heap vl ve vs ps ms) (hs:Step [] w w'):JX L w'.heap vl ve vs ps ms :=
 ⟨h.al.ext hs,h.ev.ext hs,h.ml,h.sl.ext hs,fun i h1 h2=>⟨(h.mp i h1 h2).1.ext hs,(h.mp i h1 h2).2⟩⟩
theorem JX.st {L:LN}{w w':World}{vl ve vs:Value}{ps:List AV}{ms:LN}(h:JX L w.heap vl ve vs ps ms) (hs:Step L w w'):JX L w'.heap vl ve vs ps ms :=
 ⟨h.al.st hs,h.ev.st hs,h.ml,h.sl.st hs,fun i h1 h2=>⟨(h.mp i h1 h2).1.step hs (h.mp i h1 h2).2,(h.mp i h1 h2).2⟩⟩
theorem JX.up {L L':LN}{H:Array Obj}{vl ve vs:Value}{ps:List AV}{ms:LN}(h:JX L H vl ve vs ps ms) (hL:∀b∈L',b∈L∨H.size≤b):JX L' H vl ve vs ps ms :=
 ⟨h.al.up hL,h.ev.up hL,h.ml,h.sl.up hL,fun i h1 h2=>⟨(h.mp i h1 h2).1,fun hm=>by rcases hL _ hm with h3 | h3;exact (h.mp i h1 h2).2 h3;have:=(h.mp i h1 h2).1.lt;omega⟩⟩
theorem UX {m:List ((Int×Int)×Value)}{es:List Ed}{k:Nat}(h:k<es.length):Jq m (es.take (k+1))=mput (Jq m (es.take k)) (es[k].1,es[k].2.1) (.int .i64 es[k].2.2):=by
 unfold Jq
 rw[List.take_succ_eq_append_getElem h,List.foldl_append];rfl
theorem Qb4 {L:LN}{w:World}{vl:Value}{ps:List AV}(h:YJ L w.heap vl ps) (hn:ps.length≤12) (hal:∀p∈ps,p.a.al.length≤32) (hL:∀b∈L,b<w.heap.size) :
  QG Tryz.prog 47 [vl] w fun r w'=>Step [] w w'∧∃ve vs ms,r=.agg #[vl,ve,vs]∧JX L w'.heap vl ve vs ps ms∧Qs 3 w.heap.size w' ve (evs (ps.map (·.a))):=by
 refine QG.of_W Tryz.func47 rfl Tryz.ntmps47 Tryz.results47 (by simp) ?_
 refine Qc<|xl rfl<|Qu (us:=[nS,nS,nS]) rfl fun b2 w1 hs1 hb2 hB2=>xe ?_
 refine Qc<|Qb<|Qb<|xl rfl<|xf<|(zt (h.ext hs1) hn hal).mono ?_
 rintro ve w2 ⟨hs2,hve⟩
 have hel:=Uc (ps.map (·.a)) (fun a ha=>by obtain ⟨p,hp,rfl⟩:=List.mem_map.1 ha;exact hal p hp)
 have hevl:(evs (ps.map (·.a))).length≤1000:=by simp at hel;omega
 have hveA:=Qs.ints (L:=[]) hve (by omega) (by simp)
 refine x (QN ⟨h.arr.cells,hveA.cells,trivial⟩)<|xl rfl<|Qu (us:=[nS,nS,nS]) rfl fun b3 w3 hs3 hb3 hB3 =>
  xl rfl<|Qo (us:=[vl,ve,nS]) hB3 rfl rfl rfl rfl ⟨h.arr.one,hveA.one,rfl,trivial⟩ fun w4 hs4 hB3=>xe ?_
 have hz1:=hs1.size
 have hz2:=hs2.size
 have hS4:Step [] w2 w4:=hs3.then1 hs4 hb3
 have hz4:=hS4.size
 have hl2:=hB2.lt
 have hl3:=hB3.lt
 have hW4:Step [] w w4:=(hs1.trans hs2).trans hS4
 have hve4:=Qt hve hS4
 refine Qg<|Qc<|Qb<|x (Qr h.arr rfl)<|Qb<|xe ?_
 have hevlt:=Q0 hve
 refine Qh<|QA (α:=Nat×LN×Value) [(5,6),(8,8),(15,42)] (fun z=>[(15,.int .i64 z.1)])
  (fun z w'=>z.1≤ps.length∧z.2.1.length=z.1∧Step [b3] w4 w'∧QS w'.heap b3 130 [vl,ve,z.2.2]∧w'.ownsRow w4.heap.size 147 1 z.2.2 z.2.1.length (z.2.1.flatMap jC) ∧
   (∀i (h:i<z.2.1.length) (h':i<ps.length),ZA ZM w'.heap z.2.1[i] (Jq [] ps[i].a.ed)∧w4.heap.size≤z.2.1[i]∧z.2.1[i]∉ob z.2.2)) (fun z=>ps.length - z.1) (by rfl) (0,[],nS) ⟨rfl,trivial⟩
  ⟨Nat.zero_le _,rfl,Step.refl _ _,hB3,QP _ _ _ _,fun i h=>by simp at h⟩ ?_
 rintro ⟨k,ms,vs⟩ g w5 ⟨hk,hml,hs5,hB5,ho5,hmp5⟩
 simp only[] at hk hml hs5 hB5 ho5 hmp5
 have hW5:Step [] w w5:=hW4.then1 hs5 (by omega)
 have hz5:=hs5.size
 have hge5:=Qp ho5
 refine Qc<|x (QB rfl rfl)<|xe ?_
 refine Qg<|QD rfl (fun h16=>?_) (fun h16=>?_)
 ·have hke:k=ps.length:=by omega
  subst hke
  refine Qz ?_
  refine Qc ?_
  have hvsA:=QX (L:=[]) ho5 (by omega) (by simp)
  refine x (Qq hB5 rfl rfl)<|xl rfl<|Qo (us:=[vl,ve,vs]) (((hB2.ext hs2).ext hS4).step hs5 (by simp;omega)) rfl rfl rfl rfl ⟨h.arr.one,hveA.one,hvsA.one,trivial⟩ fun w6 hs6 hB6=>xe ?_
  have hW6:=hW5.then1 hs6 hb2
  have hve6:Qs 3 w1.heap.size w6 ve _:=Qk (Qk hve4 hs5 (fun b hb=>by have:=hevlt b hb;simp;omega)) hs6 (fun b hb=>by have:=(Qp hve b hb).1;simp;omega)
  have ho6:=Qk ho5 hs6 (fun b hb=>by have:=(hge5 b hb).1;simp;omega)
  refine Ql ⟨[.agg #[vl,ve,vs]],⟨⟨_,rfl,Qx rfl (hB6.at (L:=[]) (by simp)).cells⟩,trivial⟩,hW6,ve,vs,ms,rfl,⟨h.ext hW6,Qs.ints hve6 (by omega) (fun b hb=>by have:=hL b hb;omega),hml,QX ho6 (by omega) (fun b hb hbL=>by have:=hL b hbL;have:=(Qp ho6 b hb).1;omega),fun i h1 h2=>⟨?_,fun hbL=>by have:=hL _ hbL;have:=(hmp5 i h1 h2).2.1;omega⟩⟩,Zc hve6 hz1⟩
  obtain ⟨m1,m2,_⟩:=hmp5 i h1 h2
  exact m1.step hs6 (fun hb=>by
   simp only[List.mem_singleton] at hb
   have h7:=(((hB2.ext hs2).ext hS4).step hs5 (by simp;omega))
   rw[hb] at m1
   obtain ⟨es,c,m4,_⟩:=m1
   unfold QS at h7
   rw[h7] at m4;cases m4)
 have hlt:k<ps.length:=by omega
 have hA:=h.each ps[k] (List.getElem_mem hlt)
 refine Qi ?_
 refine Qg<|Qh<|Qc<|xig XR (h.ext hW5).arr rfl rfl hlt fun a17 h17=>x (QK h17 rfl rfl)<|xl rfl<|Qu (us:=[nS,.int .i64 0,nS,nS]) rfl fun b5 w7 hs7 hb5 hB5' =>
  xl rfl<|Qo (us:=Zb ps[k]) hB5' rfl rfl rfl rfl ⟨hA.al.one,rfl,hA.mr.one,hA.ed.one,trivial⟩ fun w8 hs8 hBa=>xe ?_
 have hs58:Step [] w5 w8:=hs7.then1 hs8 hb5
 have hz8:=hs58.size
 have hl5:=hBa.lt
 refine Qc<|xl rfl<|ZS ZM fun bm w9 hs9 hbm hm9=>Qf ?_
 have hz9:=hs9.size
 have hlm:=hm9.lt
 have hs59:=hs58.trans hs9
 have hW9:=hW5.trans hs59
 refine Qg<|Qc<|x (Qa rfl)<|x (Qd (hBa.ext hs9) rfl rfl)<|x (Qr hA.ed rfl)<|Qb<|xe ?_
 have hed9:=(hA.ed.up (L':=[bm]) (fun b hb=>.inr (by simp at hb;have:=hW5.size;omega))).ext hW9
 have hedl:=hA.ed.le
 refine Qh<|QA (α:=Nat) [(8,8),(23,35)] (fun z=>[(23,.int .i64 z)]) (fun z w'=>z≤ps[k].a.ed.length∧Step [bm] w9 w'∧ZA ZM w'.heap bm (Jq [] (ps[k].a.ed.take z))) (fun z=>ps[k].a.ed.length - z) (by rfl) 0 ⟨rfl,trivial⟩
  ⟨Nat.zero_le _,Step.refl _ _,hm9⟩ ?_
 rintro j g2 w10 ⟨hj,hs10,hm10⟩
 have hz10:=hs10.size
 refine Qc<|x (QB rfl rfl)<|xe ?_
 refine Qg<|QD rfl (fun h24=>?_) (fun h24=>?_)
 ·refine Qz ?_
  rw[List.take_of_length_le (by omega)] at hm10
  have hs510:Step [] w5 w10:=hs59.then1 hs10 (by omega)
  have hB10:QS w10.heap b3 130 [vl,ve,vs]:=hB5.ext hs510
  refine Qw<|x (Qa rfl)<|x (Qd hB10 rfl rfl)<|Qb<|xl rfl<|QI (us:=[[.map (some bm)]]) rfl rfl (by decide) (by simp) ⟨rfl,rfl,trivial⟩ fun b39 w11 hs11 hb39 hB39=>?_
  have hs511:=hs510.trans hs11
  have ho11:=Qt ho5 hs511
  have hz11:=hs511.size
  refine xl rfl<|Q2 (news:=[.map (some bm)]) (L:=[]) ho11 rfl rfl rfl (hB39.at (by simp)) (by simp[Value.oneCell']) (by omega) (by omega) fun v12 w12 ho12 hs12 hn12=>?_
  have ho12':w12.ownsRow w4.heap.size 147 1 v12 (ms++[bm]).length ((ms++[bm]).flatMap jC):=by
   rw[List.length_append,List.flatMap_append];simpa using ho12
  have hB12:=(hB10.ext hs11).step hs12 (QY ho5 (by omega))
  refine x (Qa rfl)<|xl rfl<|QF hB12 rfl rfl (by simp) (QX (L:=[]) ho12' (by simp;omega) (by simp)).one fun w13 hs13 hB13=>xe ?_
  refine Qw<|x (Qy rfl rfl ⟨by omega,by omega⟩)<|Qb<|xe ?_
  have hnew:∀b∈ob v12,w4.heap.size≤b:=fun b hb=>(Qp ho12' b hb).1
  have hz10':w10.heap.size≤w11.heap.size:=hs11.size
  refine ⟨(k+1,ms++[bm],v12),by simp only[];omega,⟨rfl,trivial⟩,hlt,by simp[hml],?_,hB13,Qk ho12' hs13 (fun b hb=>by have:=hnew b hb;simp;omega),?_⟩
  ·exact ((hs5.trans hs511).then hs12 (fun b hb=>.inr (hge5 b hb).1)).trans' hs13
  ·intro i h1 h2
   simp only[List.length_append,List.length_singleton] at h1
   have keep:∀(c:Nat) (m:List ((Int×Int)×Value)),ZA ZM w10.heap c m→c≠b3→c∉ob vs→ZA ZM w13.heap c m:=fun c m hm hc3 hcv =>
    ((hm.ext hs11).step hs12 hcv).step hs13 (by simpa using hc3)
   by_cases hi:i<ms.length
   ·obtain ⟨m1,m2,m3⟩:=hmp5 i hi h2
    simp only[List.getElem_append_left hi]
    refine ⟨keep _ _ (m1.ext hs510) (by omega) m3,m2,fun hb=>?_⟩
    have hlt5:=m1.lt
    rcases hn12 _ hb with h5 | h5
    ·exact m3 h5
    ·omega
   ·have hi':i=ms.length:=by omega
    subst hi'
    simp only[List.getElem_append_right (Nat.le_refl _),Nat.sub_self,List.getElem_singleton]
    have hq:ms.length=k:=hml
    have e2:ps[ms.length]=ps[k]:=by simp only[hq]
    rw[e2]
    refine ⟨keep _ _ hm10 (by omega) (fun hb=>by have:=(hge5 _ hb).2;omega),by omega,fun hb=>?_⟩
    rcases hn12 _ hb with h5 | h5
    ·have:=(hge5 _ h5).2;omega
    ·omega
 have hlt2:j<ps[k].a.ed.length:=by omega
 refine Qi ?_
 refine Qg<|Qh<|Qc<|xie (hed9.st hs10) rfl rfl hlt2 fun a25 h25=>x (QK h25 rfl rfl)<|xl rfl<|Qu (us:=[.int .i64 0,.int .i64 0,.int .i64 0]) rfl fun b8 w14 hs14 hb8 hB8=>xl rfl<|Qo (us:=QC ps[k].a.ed[j]) hB8 rfl rfl rfl rfl ⟨rfl,rfl,rfl,trivial⟩ fun w15 hs15 hB8=>xe ?_
 have hs1015:Step [] w10 w15:=hs14.then1 hs15 hb8
 refine Qw<|Qb<|x (Qa rfl)<|x (Qd hB8 rfl rfl)<|x (Qa rfl)<|x (Qd hB8 rfl rfl)<|x (QN ⟨rfl,rfl,trivial⟩)<|x (Qa rfl) <|
  x (Qd hB8 rfl rfl)<|xl rfl<|Yw (k:=(ps[k].a.ed[j].1,ps[k].a.ed[j].2.1)) (hm10.ext hs1015) rfl rfl fun w16 hs16 hm16=>xe ?_
 refine Qw<|x (Qy rfl rfl ⟨by omega,by omega⟩)<|Qb<|xe ?_
 refine ⟨j+1,by omega,⟨rfl,trivial⟩,hlt2,(hs10.trans hs1015).trans' hs16,?_⟩
 rw[UX hlt2]
 exact hm16
theorem Qbc {L:LN}{w:World}{vl ve vs:Value}{ps:List AV}{ms:LN}(h:JX L w.heap vl ve vs ps ms) (hn:ps.length≤12) :
  QG Tryz.prog 48 [.agg #[vl,ve,vs]] w fun r w'=>Step [] w w' ∧
   if ∃p∈ps,p.a.st=0 then r=.tuple #[nS,.bool false] else ∃v,r=.tuple #[v,.bool true]∧Qs 3 w.heap.size w' v (List.replicate ps.length 0):=by
 refine QG.of_W Tryz.func48 rfl Tryz.ntmps48 Tryz.results48 (by simp) ?_
 refine Qc<|xl rfl<|QR (us:=[vl,ve,vs]) rfl fun b1 w1 hs1 hb1 hB1=>x Qe<|Qf ?_
 refine Qg<|Qc<|x (Qa rfl)<|x (Qd hB1 rfl rfl)<|x (Qr h.al.arr rfl)<|Qb<|xe ?_
 refine Qh<|QA (α:=Nat) [(2,3),(5,5),(9,16)] (fun z=>[(9,.int .i64 z)]) (fun z w'=>z≤ps.length∧Step [] w1 w'∧∀i (h:i<ps.length),i<z→ps[i].a.st≠0) (fun z=>ps.length - z) (by rfl) 0 ⟨rfl,trivial⟩
  ⟨Nat.zero_le _,Step.refl _ _,fun i _ h=>by omega⟩ ?_
 rintro k g w2 ⟨hk,hs2,hnz⟩
 refine Qc<|x (QB rfl rfl)<|xe ?_
 refine Qg<|QD rfl (fun h10=>?_) (fun h10=>?_)
 ·refine Qz ?_
  refine Qc<|x (Qa rfl)<|x (Qd (hB1.ext hs2) rfl rfl)<|x (Qr h.al.arr rfl)<|xl rfl<|Y5 (n:=ps.length) rfl rfl (by omega) fun b20 w3 hs3 hb20 hB20=>x Qe<|Qf ?_
  rw[show (List.replicate ps.length (Value.int .i64 0).cells.toList).flatten=((List.replicate ps.length 0).map (Value.int .i64)) by rw[show (Value.int .i64 0).cells.toList=[Value.int .i64 0] from rfl,jo,List.map_replicate]] at hB20
  have hz:=(hs1.trans hs2).size
  refine Ql ⟨[.slice (some ⟨b20,0,none⟩) ps.length ps.length,.bool true],⟨rfl,rfl,trivial⟩,(hs1.trans hs2).trans hs3,?_⟩
  rw[if_neg (by
   rintro ⟨p,hp,h0⟩
   obtain ⟨i,hi,rfl⟩:=List.getElem_of_mem hp
   exact hnz i hi (by omega) h0)]
  refine ⟨_,rfl,?_⟩
  have:=hB20.own (n:=ps.length) (sz:=1) (base:=w.heap.size) (by simp) (by omega) (by omega)
  unfold Qs
  rw[List.length_replicate];exact this
 have hlt:k<ps.length:=by omega
 have hA:=h.al.each ps[k] (List.getElem_mem hlt)
 refine Qi ?_
 refine Qg<|Qh<|Qc<|xig XR ((h.al.ext hs1).ext hs2).arr rfl rfl hlt fun a11 h11=>x (QK h11 rfl rfl)<|xl rfl<|Qu (us:=[nS,.int .i64 0,nS,nS]) rfl fun b5 w4 hs4 hb5 hB5 =>
  xl rfl<|Qo (us:=Zb ps[k]) hB5 rfl rfl rfl rfl ⟨hA.al.one,rfl,hA.mr.one,hA.ed.one,trivial⟩ fun w5 hs5 hB5=>xe ?_
 have hs25:Step [] w2 w5:=hs4.then1 hs5 hb5
 refine Qc<|x (Qa rfl)<|x (Qd hB5 rfl rfl)<|x (Zm rfl rfl)<|xe ?_
 refine Q3 rfl (fun h15=>?_) (fun h15=>?_)
 ·refine Qc<|x Qe<|Qf ?_
  refine Ql ⟨[nS,.bool false],⟨rfl,rfl,trivial⟩,(hs1.trans hs2).trans hs25,?_⟩
  rw[if_pos ⟨ps[k],List.getElem_mem hlt,h15⟩];rfl
 refine Qi ?_
 refine Qw<|x (Qy rfl rfl ⟨by omega,by omega⟩)<|Qb<|xe ?_
 refine ⟨k+1,by omega,⟨rfl,trivial⟩,hlt,hs2.trans hs25,fun i hi hik=>?_⟩
 by_cases e:i=k
 ·subst e;exact h15
 ·exact hnz i hi (by omega)
theorem Qa8 {aa:List QM}{ts:LI}{k:Nat}(h:k<aa.length) (h':k<ts.length):Xo (aa.drop k) (ts.drop k)=(decide (ts[k]∈aa[k].mr) && Xo (aa.drop (k+1)) (ts.drop (k+1))):=by
 rw[List.drop_eq_getElem_cons h,List.drop_eq_getElem_cons h',Xo]
theorem Qdf {L:LN}{w:World}{vl ve vs vt:Value}{ps:List AV}{ms:LN}{ts:LI}(h:JX L w.heap vl ve vs ps ms) (ht:QL L w.heap vt ts) (hl:ts.length=ps.length) (hi:∀p∈ps,Yu p.a.mr) (hn:ps.length≤12) :
  QG Tryz.prog 50 [.agg #[vl,ve,vs],vt] w fun r w'=>r=.bool (Xo (ps.map (·.a)) ts)∧Step [] w w':=by
 refine QG.of_W Tryz.func50 rfl Tryz.ntmps50 Tryz.results50 (by simp) ?_
 refine Qc<|xl rfl<|QR (us:=[vl,ve,vs]) rfl fun b2 w1 hs1 hb2 hB2=>Qf ?_
 refine Qg<|Qc<|x (Qa rfl)<|x (Qd hB2 rfl rfl)<|x (Qr h.al.arr rfl)<|Qb<|xe ?_
 refine Qh<|QA (α:=Nat) [(4,6),(10,23)] (fun z=>[(10,.int .i64 z)]) (fun z w'=>z≤ps.length∧Step [] w w'∧Xo (ps.map (·.a)) ts=Xo ((ps.map (·.a)).drop z) (ts.drop z)) (fun z=>ps.length - z) (by rfl) 0 ⟨rfl,trivial⟩
  ⟨Nat.zero_le _,hs1,rfl⟩ ?_
 rintro k g w2 ⟨hk,hs2,hmk⟩
 refine Qc<|x (QB rfl rfl)<|xe ?_
 refine Qg<|QD rfl (fun h11=>?_) (fun h11=>?_)
 ·refine Qz ?_
  refine Qc<|Qf ?_
  refine Ql ⟨[.bool true],⟨rfl,trivial⟩,?_,hs2⟩
  rw[hmk,List.drop_of_length_le (by simp;omega)];rfl
 have hlt:k<ps.length:=by omega
 have hlt':k<ts.length:=by omega
 have hA:=h.al.each ps[k] (List.getElem_mem hlt)
 rw[Qa8 (by simpa using hlt) hlt',List.getElem_map] at hmk
 refine Qi ?_
 refine Qg<|Qh<|Qc<|Qb<|xig XR (h.al.ext hs2).arr rfl rfl hlt fun a13 h13=>x (QK h13 rfl rfl)<|xl rfl<|Qu (us:=[nS,.int .i64 0,nS,nS]) rfl fun b6 w3 hs3 hb6 hB6=>x Qe <|
  xl rfl<|Qo (us:=Zb ps[k]) hB6 rfl rfl rfl rfl ⟨hA.al.one,rfl,hA.mr.one,hA.ed.one,trivial⟩ fun w4 hs4 hB6=>xe ?_
 have hs24:Step [] w2 w4:=hs3.then1 hs4 hb6
 have hst:=hs2.trans hs24
 refine Qg<|QT (Step [] w4) [(0,true),(1,true),(2,true),(3,true),(4,true),(5,true),(6,false),(7,true)] Tryz.mixed (by rfl) (by kernel_rfl) (Step.drew _ _) ?_
 refine p (fun _=>Qa rfl)<|pq (fun _ hc=>Qd (hB6.ext hc) rfl rfl)<|p (fun _=>Qm)<|p (fun _=>Qm)<|pii rfl (ht.ext hst) rfl rfl hlt' fun a19 h19 =>
  pq (fun _ hc=>Qv (h19.ext hc) rfl)<|pk<|xf<|(Yy ((hA.mr.ext hst).ext (Step.drew _ _)) (hi ps[k] (List.getElem_mem hlt)) _).mono ?_
 rintro r5 w5 ⟨rfl,rfl⟩
 refine ⟨Step.drew _ _,?_⟩
 refine p (fun _=>Zo rfl)<|pe ?_
 have hst5:=hst.trans (Step.drew [] w4)
 refine QW rfl (fun h22=>?_) (fun h22=>?_)
 ·refine Qc<|Qf ?_
  refine Ql ⟨[.bool false],⟨rfl,trivial⟩,?_,hst5⟩
  rw[hmk,show decide (ts[k]∈ps[k].a.mr)=false by simpa using h22];rfl
 refine Qi ?_
 refine Qw<|x (Qy rfl rfl ⟨by omega,by omega⟩)<|Qb<|xe ?_
 refine ⟨k+1,by omega,⟨rfl,trivial⟩,hlt,hst5,?_⟩
 rw[hmk,show decide (ts[k]∈ps[k].a.mr)=true by simpa using h22,Bool.true_and]
theorem QaN {aa:List QM}{ts:LI}{k:Nat}{v:Int}(h:k<aa.length) (h':k<ts.length):ZV v (aa.drop k) (ts.drop k) =
  if v∉aa[k].al then (ZV v (aa.drop (k+1)) (ts.drop (k+1))).map (ts[k]::·) else match eget aa[k].ed ts[k] v with | none=>none | some u=>(ZV v (aa.drop (k+1)) (ts.drop (k+1))).map (u::·):=by
 rw[List.drop_eq_getElem_cons h,List.drop_eq_getElem_cons h']
 show (if v∉aa[k].al then _ else _)=_
 split
 ·rfl
 ·cases eget aa[k].ed ts[k] v <;> rfl
theorem QeI {L:LN}{w:World}{vl ve vs vt:Value}{ps:List AV}{ms:LN}{ts:LI}(h:JX L w.heap vl ve vs ps ms) (ht:QL L w.heap vt ts) (hl:ts.length=ps.length) (hi:∀p∈ps,Yu p.a.al)
  (hed:∀p∈ps,p.a.ed.Pairwise fun x y=>x.1<y.1∨(x.1=y.1∧x.2.1<y.2.1)) (hn:ps.length≤12) (v:Int) :
  QG Tryz.prog 51 [.agg #[vl,ve,vs],vt,.int .i64 v] w fun r w'=>Step [] w w' ∧
   match ZV v (ps.map (·.a)) ts with | none=>r=.tuple #[nS,.bool false] | some u=>∃v',r=.tuple #[v',.bool true]∧Qs 3 w.heap.size w' v' u:=by
 refine QG.of_W Tryz.func51 rfl Tryz.ntmps51 Tryz.results51 (by simp) ?_
 refine Qc<|xl rfl<|QR (us:=[vl,ve,vs]) rfl fun b3 w1 hs1 hb3 hB3=>x Qe<|Qf ?_
 refine Qc<|Qb<|xl rfl<|xf<|(Yx (ht.ext hs1)).mono ?_
 rintro vx w2 ⟨hs2,hx2⟩
 refine Qf ?_
 have hz1:=hs1.size
 have hz2:=hs2.size
 have hl3:=hB3.lt
 have hW2:=hs1.trans hs2
 refine Qg<|Qc<|x (Qa rfl)<|x (Qd (hB3.ext hs2) rfl rfl)<|x (Qr h.al.arr rfl)<|Qb<|xe ?_
 have hge:=Qp hx2
 have hM2:JX (ob vx) w2.heap vl ve vs ps ms:=((h.up (L':=ob vx) (fun b hb=>.inr (by have:=(hge b hb).1;omega))).ext hW2)
 have hT2:QL (ob vx) w2.heap vt ts:=((ht.up (L':=ob vx) (fun b hb=>.inr (by have:=(hge b hb).1;omega))).ext hW2)
 refine Qh<|QA (α:=Nat×LI) [(6,7),(9,12),(18,49)] (fun z=>[(18,.int .i64 z.1)])
  (fun z w'=>z.1≤ps.length∧z.2.length=z.1∧Step (ob vx) w2 w'∧Qs 3 w1.heap.size w' vx (z.2++ts.drop z.1)∧ZV v (ps.map (·.a)) ts=(ZV v ((ps.map (·.a)).drop z.1) (ts.drop z.1)).map (z.2++·)) (fun z=>ps.length - z.1) (by rfl) (0,[]) ⟨rfl,trivial⟩
  ⟨Nat.zero_le _,rfl,Step.refl _ _,hx2,by simp⟩ ?_
 rintro ⟨k,pre⟩ g w3 ⟨hk,hpl,hs3,hx3,hst⟩
 simp only[] at hk hpl hx3 hst
 have hz3:=hs3.size
 have hW3:Step [] w w3:=hW2.then hs3 (fun b hb=>.inr (by have:=(hge b hb).1;omega))
 refine Qc<|x (QB rfl rfl)<|xe ?_
 refine Qg<|QD rfl (fun h19=>?_) (fun h19=>?_)
 ·refine Qz ?_
  refine Qc<|Qb<|x Qe<|Qf ?_
  refine Ql ⟨[vx,.bool true],⟨rfl,rfl,trivial⟩,hW3,?_⟩
  rw[List.drop_of_length_le (by simp;omega),List.drop_of_length_le (by omega)] at hst
  rw[List.drop_of_length_le (by omega)] at hx3
  rw[hst]
  simp only[ZV,Option.map_some]
  exact ⟨vx,rfl,Zc hx3 hz1⟩
 have hlt:k<ps.length:=by omega
 have hlt':k<ts.length:=by omega
 have hltm:k<ms.length:=by rw[h.ml];exact hlt
 have hA:=h.al.each ps[k] (List.getElem_mem hlt)
 rw[QaN (by simpa using hlt) hlt',List.getElem_map] at hst
 have hM3:=hM2.st hs3
 have hT3:=hT2.st hs3
 refine Qi ?_
 refine Qg<|Qh<|Qc<|Qb<|xig XR hM3.al.arr rfl rfl hlt fun a21 h21=>x (QK h21 rfl rfl)<|xl rfl<|Qu (us:=[nS,.int .i64 0,nS,nS]) rfl fun b10 w4 hs4 hb10 hB10=>x Qe <|
  xl rfl<|Qo (us:=Zb ps[k]) hB10 rfl rfl rfl rfl ⟨hA.al.one,rfl,hA.mr.one,hA.ed.one,trivial⟩ fun w5 hs5 hB10=>xe ?_
 have hs35:Step [] w3 w5:=hs4.then1 hs5 hb10
 have hW5:=hW3.trans hs35
 refine Qg<|Qc<|x (Qa rfl)<|x (Qd hB10 rfl rfl)<|Qb<|xl rfl<|xf<|(Yy (hA.al.ext hW5) (hi ps[k] (List.getElem_mem hlt)) v).mono ?_
 rintro r6 w6 ⟨rfl,rfl⟩
 refine x (Zo rfl)<|xe ?_
 have hdr:=Q5 hlt'
 refine QW rfl (fun h27=>?_) (fun h27=>?_)
 ·have hna:v∉ps[k].a.al:=by simpa using h27
  refine Qz ?_
  refine Qw<|x (Qy rfl rfl ⟨by omega,by omega⟩)<|Qb<|xe ?_
  refine ⟨(k+1,pre++[ts[k]]),by simp only[];omega,⟨rfl,trivial⟩,hlt,by simp[hpl],hs3.trans hs35,?_,?_⟩
  ·simp only[List.append_assoc,List.singleton_append]
   rw[←hdr];exact Qt hx3 hs35
  ·simp only[]
   rw[hst,if_pos hna,Option.map_map]
   congr 1;funext l;simp
 have hya:¬(v∉ps[k].a.al):=by simpa using h27
 rw[if_neg hya] at hst
 refine Qi ?_
 have hB3':=(hB3.ext hs2).step hs3 (fun hb=>by have:=(hge b3 hb).1;omega)
 have hM5:=hM3.ext hs35
 obtain ⟨hmk,hmo⟩:=hM5.mp k hltm hlt
 refine Qg<|QT (Step [] w6) [(0,true),(1,true),(2,true),(3,true),(4,true),(5,true),(6,true),(7,true),(8,true),(9,true),(10,true),(11,true),(12,true),(13,true),(14,true),(15,true),(16,true)] Tryz.mixed (by rfl) (by kernel_rfl) (Step.drew _ _) ?_
 refine p (fun _=>Qa rfl)<|pq (fun _ hc=>Qd ((hB3'.ext hs35).ext hc) rfl rfl)<|p (fun _=>Qm)<|pig rfl (g:=jC) (fun _=>rfl) hM5.sl rfl rfl hltm fun a32 h32 =>
  pq (fun _ hc=>Qv (h32.ext hc) rfl)<|p (fun _=>Qm)<|p (fun _=>Qm)<|pii rfl (hT3.ext hs35) rfl rfl hlt' fun a36 h36=>pq (fun _ hc=>Qv (h36.ext hc) rfl) <|
  p (fun _=>Qm)<|p (fun _=>QN ⟨rfl,rfl,trivial⟩)<|pq (fun _ hc=>JF (k:=(ts[k],v)) (hmk.ext hc) rfl rfl)<|?_
 rw[VB ps[k].a.ed [] ts[k] v (hed ps[k] (List.getElem_mem hlt))]
 have hs36:Step [] w3 { w6 with drawn:=w6.drawn+1 }:=hs35.trans (Step.drew [] w6)
 cases he:eget ps[k].a.ed ts[k] v with
 | none =>
  rw[he] at hst
  refine p (fun _=>Qm)<|p (fun _=>Qj rfl rfl)<|p (fun _=>Qj rfl rfl)<|p (fun _=>Qe)<|p (fun _=>Qe)<|pe ?_
  refine Qg<|Qc<|Qb<|x (Zo rfl)<|xe ?_
  refine qg rfl ?_
  refine Qc<|x Qe<|Qf ?_
  refine Ql ⟨[nS,.bool false],⟨rfl,rfl,trivial⟩,hW3.trans hs36,?_⟩
  rw[hst];rfl
 | some u =>
  rw[he] at hst
  refine p (fun _=>Qm)<|p (fun _=>Qj rfl rfl)<|p (fun _=>Qj rfl rfl)<|p (fun _=>Qe)<|p (fun _=>Qe)<|pe ?_
  refine Qg<|Qc<|Qb<|x (Zo rfl)<|xe ?_
  refine ZZ rfl ?_
  refine Qi ?_
  have hx6:=Qt hx3 hs36
  have hlen:(pre++ts.drop k).length=ts.length:=by simp;omega
  obtain ⟨gx,cx,hvx⟩:=Vw hx3 (by omega)
  have hobx:ob vx=[gx]:=by rw[hvx];rfl
  refine Qw<|Qb<|Qb<|Qb<|x (QQ hvx rfl (by omega))<|xl rfl<|ju (u:=.int .i64 u) (by rw[hvx] at hx6;exact hx6) rfl rfl (by omega) rfl fun w7 hs7 hx7=>xe ?_
  refine Qw<|x (Qy rfl rfl ⟨by omega,by omega⟩)<|Qb<|xe ?_
  have hset:(pre++ts.drop k).set k u=(pre++[u])++ts.drop (k+1):=by
   rw[hdr,List.set_append_right _ _ (by omega),hpl,Nat.sub_self,List.set_cons_zero,List.append_assoc];rfl
  refine ⟨(k+1,pre++[u]),by simp only[];omega,⟨rfl,trivial⟩,hlt,by simp[hpl],(hs3.trans hs36).then hs7 (fun b hb=>.inl (by rw[hobx];exact hb)),?_,?_⟩
  ·simp only[]
   rw[←hset]
   unfold Qs
   rw[List.length_set,List.map_set,hvx];exact hx7
  ·simp only[]
   rw[hst,Option.map_map]
   congr 1;funext l;simp
theorem KP {n:Nat}(h:n<256):(UInt8.ofNat n).toNat=n:=by
 simp[Nat.mod_eq_of_lt h]
theorem j5 (u:Nat):(32:UInt8)∉Lib.decDigits u:=by
 induction u using Nat.strongRecOn with
 | _ u ih =>
  unfold Lib.decDigits
  split
  ·intro h
   simp only[List.mem_singleton] at h
   have:=congrArg UInt8.toNat h
   rw[KP (by omega)] at this
   have h32:(32:UInt8).toNat=32:=rfl
   omega
  ·intro h
   rcases List.mem_append.1 h with h | h
   ·exact ih _ (by omega) h
   ·simp only[List.mem_singleton] at h
    have:=congrArg UInt8.toNat h
    rw[KP (by omega)] at this
    have h32:(32:UInt8).toNat=32:=rfl
    omega
def dval (l:List UInt8):Nat:=l.foldl (fun a b=>a*10+(b.toNat - 48)) 0
theorem jZ (u:Nat):dval (Lib.decDigits u)=u:=by
 induction u using Nat.strongRecOn with
 | _ u ih =>
  unfold Lib.decDigits
  split
  ·simp only[dval,List.foldl_cons,List.foldl_nil]
   rw[KP (by omega)];omega
  ·have:=ih (u / 10) (by omega)
   unfold dval at *
   rw[List.foldl_append,this]
   simp only[List.foldl_cons,List.foldl_nil]
   rw[KP (by omega)];omega
theorem QbR:∀{a b r r':List UInt8},(32:UInt8)∉a→(32:UInt8)∉b→a++32::r=b++32::r'→a=b∧r=r'
 | [],[],_,_,_,_,h=>by simpa using h
 | [],y::b,_,_,_,hb,h=>by simp at h;exact absurd h.1 (by intro e;exact hb (by simp[e]))
 | x::a,[],_,_,ha,_,h=>by simp at h;exact absurd h.1 (by intro e;exact ha (by simp[e]))
 | x::a,y::b,_,_,ha,hb,h=>by
  simp only[List.cons_append,List.cons.injEq] at h
  have:=QbR (fun e=>ha (List.mem_cons_of_mem _ e)) (fun e=>hb (List.mem_cons_of_mem _ e)) h.2
  exact ⟨by rw[h.1,this.1],this.2⟩
theorem jH:∀{l l':LI},(∀n∈l,0≤n)→(∀n∈l',0≤n)→Xw l=Xw l'→l=l'
 | [],[],_,_,_=>rfl
 | [],y::b,_,_,h=>by simp[Xw] at h
 | x::a,[],_,_,h=>by simp[Xw] at h
 | x::a,y::b,ha,hb,h=>by
  have h':Lib.decDigits x.toNat++32::Xw a=Lib.decDigits y.toNat++32::Xw b:=by simpa[Xw] using h
  obtain ⟨h1,h2⟩:=QbR (j5 _) (j5 _) h'
  have h3:x.toNat=y.toNat:=by rw[←jZ x.toNat,←jZ y.toNat,h1]
  have h4:=jH (fun n hn=>ha n (List.mem_cons_of_mem _ hn)) (fun n hn=>hb n (List.mem_cons_of_mem _ hn)) h2
  have h5:=ha x List.mem_cons_self
  have h6:=hb y List.mem_cons_self
  rw[h4,show x=y by omega]
def Kj (l:LI):ByteArray:=⟨(Xw l).toArray⟩
theorem Qfc {l l':LI}(h1:∀n∈l,0≤n) (h2:∀n∈l',0≤n) (h:Kj l=Kj l'):l=l':=by
 refine jH h1 h2 ?_
 have:=congrArg (fun b:ByteArray=>b.data.toList) h
 simpa[Kj] using this
def VL (n:Nat) (m:List (ByteArray×Value)) (tup:List (LI)):Prop :=
 ∀u:LI,u.length=n→(∀x∈u,0≤x)→mget m (Kj u)=if u∈tup then some (.int .i64 (tup.idxOf u:Int)) else none
theorem VL.add {n:Nat}{m:List (ByteArray×Value)}{tup:List (LI)}(h:VL n m tup) {u:LI}(hu:u∉tup) (h0:∀x∈u,0≤x):VL n (mput m (Kj u) (.int .i64 (tup.length:Int))) (tup++[u]):=by
 intro v hv h1
 rw[X3]
 by_cases e:u=v
 ·subst e
  rw[if_pos rfl,if_pos (by simp),List.idxOf_append,if_neg hu];simp
 ·rw[if_neg (fun hk=>e (Qfc h0 h1 hk)),h v hv h1]
  by_cases hm:v∈tup
  ·rw[if_pos hm,if_pos (by simp[hm]),List.idxOf_append,if_pos hm]
  ·rw[if_neg hm,if_neg (by simp[hm,Ne.symm e])]
structure zJ (N b2 b38 b37:Nat) (ve:Value) (wS:World) (s:Sy) (m:List (ByteArray×Value)) (qs:List TV) (vt vk vd:Value) (w:World):Prop where
 st:Step [b2,b38,b37] wS w
 A:QS w.heap b2 50 [ve,.int .i64 0,vk,vd]
 M:ZA Xp w.heap b38 m
 t:Qbx 40 N w vt qs
 tb:∀b∈ob vt,b=b37∨wS.heap.size≤b
 k:Qs 3 wS.heap.size w vk s.mk'
 e:ZT 126 wS.heap.size w vd s.ed
 q:qs.map (·.2)=s.tup
 el:∀p∈qs,Qs 3 N w p.1 p.2
 sep:∀p∈qs,∀b∈ob p.1,b≠b38∧b∉ob vt∧b∉ob vk∧b∉ob vd
 d1:Dj vt vk
 d2:Dj vt vd
 d3:Dj vk vd
section
variable {N b2 b38 b37:Nat} {ve:Value} {wS:World} {s:Sy} {m:List (ByteArray×Value)} {qs:List TV} {vt vk vd:Value} {w w' w'':World}
theorem zJ.ext (h:zJ N b2 b38 b37 ve wS s m qs vt vk vd w) (hs:Step [] w w'):zJ N b2 b38 b37 ve wS s m qs vt vk vd w' :=
 ⟨h.st.trans hs,h.A.ext hs,h.M.ext hs,Qt h.t hs,h.tb,Qt h.k hs,Qt h.e hs,h.q,fun p hp=>Qt (h.el p hp) hs,h.sep,h.d1,h.d2,h.d3⟩
structure SyN (N b2 b38 b37:Nat) (wS:World):Prop where
 l2:b2<N
 l38:b38<wS.heap.size
 l37:b37<wS.heap.size
 n37:N≤b37
 n38:b37<b38
 nS:N≤wS.heap.size
theorem zJ.setK (h:zJ N b2 b38 b37 ve wS s m qs vt vk vd w) (n:SyN N b2 b38 b37 wS) {vk':Value}{l:LI}(hs:Step (ob vk) w w') (hk':Qs 3 wS.heap.size w' vk' l)
  (hn:∀b∈ob vk',b∈ob vk∨w.heap.size≤b) (hs2:Step [b2] w' w'') (hB:QS w''.heap b2 50 [ve,.int .i64 0,vk',vd]):zJ N b2 b38 b37 ve wS ⟨s.tup,l,s.ed⟩ m qs vt vk' vd w'':=by
 have hge:=Qp h.k
 have l2:=n.l2;have l38:=n.l38;have n37:=n.n37;have n38:=n.n38;have nS:=n.nS
 refine ⟨(h.st.then hs (fun b hb=>.inr (hge b hb).1)).then hs2 (fun b hb=>.inl (by simp at hb;simp[hb])),hB,(h.M.step hs (QY h.k (by omega))).step hs2 (by simp;omega),
  Qk (Qk h.t hs h.d1) hs2 (fun b hb=>by have:=(Qp h.t b hb).1;simp;omega),h.tb,Qk hk' hs2 (fun b hb=>by have:=(Qp hk' b hb).1;simp;omega),
  Qk (Qk h.e hs h.d3.symm) hs2 (fun b hb=>by have:=(Qp h.e b hb).1;simp;omega),h.q,
  fun p hp=>Qk (Qk (h.el p hp) hs (fun b hb=>(h.sep p hp b hb).2.2.1)) hs2 (fun b hb=>by have:=(Qp (h.el p hp) b hb).1;simp;omega),
  fun p hp b hb=>⟨(h.sep p hp b hb).1,(h.sep p hp b hb).2.1,fun hb'=>?_,(h.sep p hp b hb).2.2.2⟩,h.d1.grow hn (Q0 h.t),h.d2,(h.d3.symm.grow hn (Q0 h.e)).symm⟩
 rcases hn b hb' with h1 | h1
 ·exact (h.sep p hp b hb).2.2.1 h1
 ·have:=Q0 (h.el p hp) b hb;omega
theorem zJ.setE (h:zJ N b2 b38 b37 ve wS s m qs vt vk vd w) (n:SyN N b2 b38 b37 wS) {vd':Value}{l:List Ed}(hs:Step (ob vd) w w') (hk':ZT 126 wS.heap.size w' vd' l)
  (hn:∀b∈ob vd',b∈ob vd∨w.heap.size≤b) (hs2:Step [b2] w' w'') (hB:QS w''.heap b2 50 [ve,.int .i64 0,vk,vd']):zJ N b2 b38 b37 ve wS ⟨s.tup,s.mk',l⟩ m qs vt vk vd' w'':=by
 have hge:=Qp h.e
 have l2:=n.l2;have l38:=n.l38;have n37:=n.n37;have n38:=n.n38;have nS:=n.nS
 refine ⟨(h.st.then hs (fun b hb=>.inr (hge b hb).1)).then hs2 (fun b hb=>.inl (by simp at hb;simp[hb])),hB,(h.M.step hs (QY h.e (by omega))).step hs2 (by simp;omega),
  Qk (Qk h.t hs h.d2) hs2 (fun b hb=>by have:=(Qp h.t b hb).1;simp;omega),h.tb,Qk (Qk h.k hs h.d3) hs2 (fun b hb=>by have:=(Qp h.k b hb).1;simp;omega),
  Qk hk' hs2 (fun b hb=>by have:=(Qp hk' b hb).1;simp;omega),h.q,
  fun p hp=>Qk (Qk (h.el p hp) hs (fun b hb=>(h.sep p hp b hb).2.2.2)) hs2 (fun b hb=>by have:=(Qp (h.el p hp) b hb).1;simp;omega),
  fun p hp b hb=>⟨(h.sep p hp b hb).1,(h.sep p hp b hb).2.1,(h.sep p hp b hb).2.2.1,fun hb'=>?_⟩,h.d1,h.d2.grow hn (Q0 h.t),h.d3.grow hn (Q0 h.k)⟩
 rcases hn b hb' with h1 | h1
 ·exact (h.sep p hp b hb).2.2.2 h1
 ·have:=Q0 (h.el p hp) b hb;omega
theorem zJ.setM (h:zJ N b2 b38 b37 ve wS s m qs vt vk vd w) (n:SyN N b2 b38 b37 wS) {m':List (ByteArray×Value)}(hs:Step [b38] w w') (hm:ZA Xp w'.heap b38 m'):zJ N b2 b38 b37 ve wS s m' qs vt vk vd w':=by
 have l2:=n.l2;have l38:=n.l38;have n37:=n.n37;have n38:=n.n38;have nS:=n.nS
 exact ⟨h.st.then hs (fun b hb=>.inl (by simp at hb;simp[hb])),h.A.step hs (by simp;omega),hm,Qk h.t hs (fun b hb=>by have:=h.tb b hb;simp;omega),h.tb,
  Qk h.k hs (fun b hb=>by have:=(Qp h.k b hb).1;simp;omega),Qk h.e hs (fun b hb=>by have:=(Qp h.e b hb).1;simp;omega),h.q,
  fun p hp=>Qk (h.el p hp) hs (fun b hb=>by have:=(h.sep p hp b hb).1;simpa using this),h.sep,h.d1,h.d2,h.d3⟩
theorem zJ.setT (h:zJ N b2 b38 b37 ve wS s m qs vt vk vd w) (n:SyN N b2 b38 b37 wS) {vt' vx:Value}{u:LI}(hx:Qs 3 wS.heap.size w vx u) (hxs:∀b∈ob vx,b∉ob vt∧b∉ob vk∧b∉ob vd) (hs:Step (ob vt) w w')
  (ht':Qbx 40 N w' vt' (qs++[(vx,u)])) (hn:∀b∈ob vt',b∈ob vt∨w.heap.size≤b):zJ N b2 b38 b37 ve wS ⟨s.tup++[u],s.mk',s.ed⟩ m (qs++[(vx,u)]) vt' vk vd w':=by
 have l2:=n.l2;have l38:=n.l38;have n37:=n.n37;have n38:=n.n38;have nS:=n.nS
 have hwz:=h.st.size
 have nott:∀c,c<w.heap.size→c∉ob vt→c∉ob vt':=fun c hc hv hv'=>by
  rcases hn c hv' with h1 | h1
  ·exact hv h1
  ·omega
 refine ⟨h.st.then hs (fun b hb=>by have:=h.tb b hb;simp;omega),h.A.step hs (fun hb=>by have:=h.tb b2 hb;omega),h.M.step hs (fun hb=>by have:=h.tb b38 hb;omega),ht',
  fun b hb=>?_,Qk h.k hs h.d1.symm,Qk h.e hs h.d2.symm,by rw[List.map_append,h.q];rfl,fun p hp=>?_,fun p hp b hb=>?_,(h.d1.symm.grow hn (Q0 h.k)).symm,(h.d2.symm.grow hn (Q0 h.e)).symm,h.d3⟩
 ·rcases hn b hb with h1 | h1
  ·exact h.tb b h1
  ·exact .inr (by omega)
 ·rcases List.mem_append.1 hp with hp | hp
  ·exact Qk (h.el p hp) hs (fun b hb=>(h.sep p hp b hb).2.1)
  ·simp only[List.mem_singleton] at hp
   subst hp
   exact Zc (Qk hx hs (fun b hb=>(hxs b hb).1)) nS
 ·rcases List.mem_append.1 hp with hp | hp
  ·have:=h.sep p hp b hb
   exact ⟨this.1,nott b (Q0 (h.el p hp) b hb) this.2.1,this.2.2⟩
  ·simp only[List.mem_singleton] at hp
   subst hp
   have h1:=(Qp hx b hb)
   have h2:=hxs b hb
   exact ⟨by omega,nott b h1.2 h2.1,h2.2⟩
end
theorem Qlw {α:Type}(o:Option α):o=none∨∃t,o=some t:=by cases o;exact .inl rfl;exact .inr ⟨_,rfl⟩
def zA:Value:=.agg #[nS,.int .i64 0,nS,nS]
def Za:Value:=nS
def Yd (N:Nat) (H:Array Obj) (aa:List QM) (va vt:Value) (c:Int):Prop :=
 if Kc aa≠0 then c=Kc aa∧va=zA∧vt=Za else match sync aa with
  | none=>c=3∧va=zA∧vt=Za
  | some z=>c=0∧X9 N H va z.1∧Qby N H vt z.2
def Yj (s:Sy) (u:LI):Sy:=if u∈s.tup then s else ⟨s.tup++[u],s.mk',s.ed⟩
theorem Qd9 (s:Sy) (u:LI):(Yj s u).mk'=s.mk':=by unfold Yj;split <;> rfl
theorem Qea (s:Sy) (u:LI):(Yj s u).ed=s.ed:=by unfold Yj;split <;> rfl
theorem QgT {aa:List QM}{i:Nat}{t u:LI}{s:Sy}{v:Int}(h:ZV v aa t=some u) (hl:u∈s.tup∨s.tup.length≠4096) :
  syE aa i t s v=some ⟨(Yj s u).tup,(Yj s u).mk',(Yj s u).ed++[((i:Int),v,((Yj s u).tup.idxOf u:Int))]⟩:=by
 unfold syE Yj
 rw[h]
 simp only[]
 by_cases hu:u∈s.tup
 ·simp only[if_pos hu]
 ·simp only[if_neg hu]
  rw[if_neg (by rcases hl with h1 | h1;exact absurd h1 hu;exact h1),List.idxOf_append,if_neg hu];simp
theorem Qd8 {aa:List QM}{i:Nat}{t u:LI}{s:Sy}{v:Int}(h:ZV v aa t=some u) (hu:u∉s.tup) (hl:s.tup.length=4096):syE aa i t s v=none:=by
 unfold syE
 rw[h]
 simp only[]
 rw[if_neg hu,if_pos hl]
theorem Qd6 {aa:List QM}{i:Nat}{t:LI}{s:Sy}{v:Int}(h:ZV v aa t=none):syE aa i t s v=some s:=by
 unfold syE;rw[h]
theorem Qkq {s:Sy}{qs:List TV}{i:Nat}(hq:qs.map (·.2)=s.tup) (h:i<qs.length):qq s i=qs[i].2:=by
 unfold qq;rw[←hq];simp[List.getD,h]
theorem Vt.bd {aa:List QM}{t:LI}(h:Vt aa t) {m:Int}(hm:∀a∈aa,a.st≤m):∀x∈t,0≤x∧x<m:=by
 intro x hx
 obtain ⟨i,hi,rfl⟩:=List.getElem_of_mem hx
 have hi':i<aa.length:=by rw[←h.1];exact hi
 have:=h.2 i hi hi'
 have:=hm aa[i] (List.getElem_mem hi')
 omega
set_option maxHeartbeats 20000000 in
theorem Vj {L:LN}{w:World}{vl:Value}{ps:List AV}{km:Int}(h:YJ L w.heap vl ps) (hkb:Kb w km) (hk0:0<km) (hst:∀p∈ps,p.a.st≤km) :
  QG Tryz.prog 14 [vl] w fun r w'=>Step [] w w'∧∃va vt c,r=.tuple #[va,vt,.int .i64 c]∧Yd w.heap.size w'.heap (ps.map (·.a)) va vt c:=by
 refine QG.of_W Tryz.func14 rfl Tryz.ntmps14 Tryz.results14 (by simp) ?_
 generalize haa:ps.map (·.a)=aa
 refine Qc<|xl rfl<|Qu (us:=[nS,.int .i64 0,nS,nS]) rfl fun b2 w1 hs1 hb2 hB2=>x Qe<|Qf ?_
 have hz1:=hs1.size
 have hl2:=hB2.lt
 refine Qg<|Qc<|Qb<|xl rfl<|xf<|(q6 (h.ext hs1)).mono ?_
 rintro r2 w2 ⟨rfl,hs2⟩
 refine Qf ?_
 rw[haa]
 refine Qc<|Qb<|x (Q6 rfl rfl)<|xe ?_
 refine Q3 rfl (fun h20=>?_) (fun h20=>?_)
 ·refine Qc<|x (QN trivial)<|Qb<|xl rfl<|Qo (us:=[nS,.int .i64 0,nS,nS]) (hB2.ext hs2) rfl rfl rfl rfl ⟨rfl,rfl,rfl,rfl,trivial⟩ fun w3 hs3 hB3=>x Qe<|Qf ?_
  refine Ql ⟨[zA,Za,.int .i64 (Kc aa)],⟨⟨_,rfl,Qx rfl (hB3.at (L:=[]) (by simp)).cells⟩,rfl,rfl,trivial⟩,(hs1.trans hs2).then1 hs3 hb2,zA,Za,Kc aa,rfl,?_⟩
  unfold Yd;rw[if_pos h20];exact ⟨rfl,rfl,rfl⟩
 have hck:Kc aa=0:=Decidable.not_not.1 h20
 have hn:ps.length≤12:=by
  unfold Kc at hck
  split at hck
  ·cases hck
  ·rename_i h1;rw[←haa] at h1;simp at h1;exact h1
 have hokA:∀a∈aa,Q4 a:=by
  unfold Kc at hck
  split at hck
  ·cases hck
  ·exact (U4 aa).1 hck
 have hok:∀p∈ps,Q4 p.a:=fun p hp=>hokA p.a (by rw[←haa];exact List.mem_map_of_mem hp)
 have hal:∀p∈ps,p.a.al.length≤32:=fun p hp=>(hok p hp).al_le
 have hstA:∀a∈aa,a.st≤km:=fun a ha=>by rw[←haa] at ha;obtain ⟨p,hp,rfl⟩:=List.mem_map.1 ha;exact hst p hp
 have hlenA:aa.length=ps.length:=by rw[←haa];simp
 refine Qi ?_
 refine Qc<|Qb<|xl rfl<|xf<|(Qb4 (L:=[b2]) (((h.up (fun b hb=>.inr (by simp at hb;omega))).ext hs1).ext hs2) hn hal (fun b hb=>by simp at hb;have:=hs2.size;omega)).mono ?_
 rintro r4 w4 ⟨hs4,ve,vs,ms,rfl,hM4,hve4⟩
 rw[haa] at hve4
 have hvl:=h.arr.one
 have hel:=Uc aa (fun a ha=>(hokA a ha).al_le)
 have hevl:(evs aa).length≤1000:=by omega
 have hveA:=Qs.ints (L:=[]) hve4 (by omega) (by simp)
 refine xl rfl<|Qu (us:=[nS,nS,nS]) rfl fun b6 w5 hs5 hb6 hB6=>xl rfl<|Qo (us:=[vl,ve,vs]) hB6 rfl rfl rfl rfl ⟨hvl,hveA.one,hM4.sl.one,trivial⟩ fun w6 hs6 hB6=>xe ?_
 have hs46:Step [] w4 w6:=hs5.then1 hs6 hb6
 have hz2:=hs2.size
 have hz4:=hs4.size
 have hz6:=hs46.size
 have hl6:=hB6.lt
 refine Qc ?_
 have hB2':=((hB2.ext hs2).ext hs4).ext hs46
 refine x (Qa rfl)<|x (Qd hB6 rfl rfl)<|x (Qa rfl)<|xl rfl<|QF hB2' rfl rfl (by simp) hveA.one fun w7 hs7 hB7=>xe ?_
 have hz7:=hs7.size
 have hW7:Step [] w w7:=((((hs1.trans hs2).trans hs4).trans hs46).then1 hs7 hb2)
 have hM7:JX [b2] w7.heap vl ve vs ps ms:=(hM4.ext hs46).st hs7
 have hve7:Qs 3 w2.heap.size w7 ve (evs aa):=Qk (Qt hve4 hs46) hs7 (fun b hb=>by have:=(Qp hve4 b hb).1;simp;omega)
 have hB6':=hB6.step hs7 (by simp;omega)
 refine Qc<|x (Qq hB6' rfl rfl)<|xl rfl<|xf<|(Qbc hM7 hn).mono ?_
 rintro r8 w8 ⟨hs8,hr8⟩
 have hz8:=hs8.size
 have hB8:=hB7.ext hs8
 have hexA:(∃p∈ps,p.a.st=0)↔(∃a∈aa,a.st=0):=by
  rw[←haa]
  constructor
  ·rintro ⟨p,hp,h0⟩;exact ⟨p.a,List.mem_map_of_mem hp,h0⟩
  ·rintro ⟨a,ha,h0⟩;obtain ⟨p,hp,rfl⟩:=List.mem_map.1 ha;exact ⟨p,hp,h0⟩
 by_cases hz:∃p∈ps,p.a.st=0
 ·rw[if_pos hz] at hr8
  subst hr8
  refine Qb<|x (Qj rfl rfl)<|x (Qj rfl rfl)<|x Qe<|Qf ?_
  refine Qg<|Qc<|Qb<|x (Zo rfl)<|xe ?_
  refine qg rfl ?_
  refine Qc<|x (Qq hB8 rfl rfl)<|xl rfl<|Qo (us:=[ve,.int .i64 0,nS,nS]) hB8 rfl rfl rfl rfl ⟨hveA.one,rfl,rfl,rfl,trivial⟩ fun w9 hs9 hB9=>x Qe<|Qf ?_
  refine Ql ⟨[.agg #[ve,.int .i64 0,nS,nS],Za,.int .i64 0],⟨⟨_,rfl,Qx rfl (hB9.at (L:=[]) (by simp)).cells⟩,rfl,rfl,trivial⟩,(hW7.trans hs8).then1 hs9 hb2,_,Za,0,rfl,?_⟩
  unfold Yd
  rw[if_neg h20]
  unfold sync
  rw[if_pos (hexA.1 hz)]
  have hve9:=Qk (Qt hve7 hs8) hs9 (fun b hb=>by have:=(Qp hve4 b hb).1;simp;omega)
  refine ⟨rfl,⟨ve,_,_,rfl,fun L' hL'=>⟨Qs.ints hve9 (by show (evs aa).length≤_;omega) (fun b hb=>by have:=hL' b hb;omega),Zs.nil _ _ _,Zs.nil _ _ _⟩⟩,[],rfl,fun L' hL'=>⟨Zs.nil _ _ _,fun p hp=>by cases hp⟩⟩
 rw[if_neg hz] at hr8
 obtain ⟨vf,rfl,hf8⟩:=hr8
 have hfA:=Qs.ints (L:=[]) hf8 (by simp;omega) (by simp)
 refine Qb<|x (Qj rfl rfl)<|x (Qj rfl rfl)<|x Qe<|Qf ?_
 refine Qg<|Qc<|Qb<|x (Zo rfl)<|xe ?_
 refine ZZ rfl ?_
 refine Qi ?_
 refine Qc<|Qb<|xl rfl<|QI (us:=[[vf]]) rfl rfl (by decide) (by simp) ⟨hfA.cells,rfl,trivial⟩ fun b37 w10 hs10 hb37 hB37=>Qf ?_
 have hz10:=hs10.size
 have hl37:=hB37.lt
 refine Qc<|xl rfl<|ZS Xp fun b38 w11 hs11 hb38 hm11=>?_
 have hz11:=hs11.size
 have hl38:=hm11.lt
 refine Qb<|xl rfl<|xf<|(yr ((hfA.ext hs10).ext hs11) (hkb.ext ((hW7.trans hs8).trans (hs10.trans hs11))) (fun n hn=>by have:=List.eq_of_mem_replicate hn;omega) (by simp;omega)).mono ?_
 rintro r12 w12 ⟨rfl,hs12⟩
 have hz12:=hs12.size
 refine xl rfl<|Z9 (k:=Kj (List.replicate ps.length 0)) (hm11.ext hs12) rfl rfl fun wS hs13 hmS=>Qb<|Qf ?_
 have hzS:=hs13.size
 have hs812:Step [] w8 w12:=(hs10.trans hs11).trans hs12
 have hs8S:Step [] w8 wS:=hs812.then1 hs13 (by omega)
 have hWS:Step [] w wS:=(hW7.trans hs8).trans hs8S
 have hzWS:=hWS.size
 have hnew:∀b∈[b2,b38,b37],b∈[b2]∨w8.heap.size≤b:=fun b hb=>by
  simp only[List.mem_cons,List.not_mem_nil,or_false] at hb
  rcases hb with rfl | rfl | rfl
  ·exact .inl (by simp)
  ·exact .inr (by omega)
  ·exact .inr (by omega)
 have hMS:JX [b2,b38,b37] wS.heap vl ve vs ps ms:=((hM7.ext hs8).up hnew).ext hs8S
 have hB6S:QS wS.heap b6 130 [vl,ve,vs]:=(hB6'.ext hs8).ext hs8S
 have hveS:Qs 3 w2.heap.size wS ve (evs aa):=Qt (Qt hve7 hs8) hs8S
 have hvelt:=Q0 hve4
 have hgef:=Qp hf8
 have hSN:SyN w1.heap.size b2 b38 b37 wS:=⟨by omega,by omega,by omega,by omega,by omega,by omega⟩
 have hSI:zJ w1.heap.size b2 b38 b37 ve wS (qt aa) (mput [] (Kj (List.replicate ps.length 0)) (.int .i64 0)) [(vf,List.replicate ps.length 0)] (.slice (some ⟨b37,0,none⟩) 1 1) Za Za wS:=by
  refine ⟨Step.refl _ _,hB8.ext hs8S,hmS,?_,fun b hb=>by simp[ob] at hb;exact .inl hb,QP _ _ _ _,QP _ _ _ _,by simp[qt,hlenA],fun p hp=>?_,fun p hp b hb=>?_,Dj.nil' _,Dj.nil' _,Dj.nil' _⟩
  ·exact (((hB37.ext hs11).ext hs12).step hs13 (by simp;omega)).own (n:=1) (sz:=1) rfl (by omega) (by omega)
  ·simp only[List.mem_singleton] at hp;subst hp
   exact Zc (Qt hf8 hs8S) (by omega)
  ·simp only[List.mem_singleton] at hp;subst hp
   have:=hgef b hb
   refine ⟨by omega,?_,by simp[ob,Za],by simp[ob,Za]⟩
   simp[ob];omega
 have hkn0:VL ps.length (mput [] (Kj (List.replicate ps.length 0)) (.int .i64 0)) (qt aa).tup:=by
  have hk0:VL ps.length [] []:=fun u _ _=>rfl
  have:=hk0.add (u:=List.replicate ps.length 0) (by simp) (fun x hx=>by have:=List.eq_of_mem_replicate hx;omega)
  simpa[qt,hlenA] using this
 have hok0:VK aa (qt aa):=by
  refine ⟨fun t ht=>?_,by simp[qt]⟩
  simp only[qt,List.mem_singleton] at ht
  subst ht
  refine ⟨by simp,fun i h1 h2=>?_⟩
  have h3:=(hokA aa[i] (List.getElem_mem h2)).st0
  have h4:aa[i].st≠0:=fun e=>hz (hexA.2 ⟨aa[i],List.getElem_mem h2,e⟩)
  simp only[List.getElem_replicate];omega
 generalize hT:syL aa 4096 0 (qt aa)=T
 have hfinal:∀s,T=some s→sync aa=some (⟨evs aa,s.tup.length,s.mk',s.ed⟩,s.tup):=fun s hs=>by
  unfold sync;rw[if_neg (fun e=>hz (hexA.2 e)),hT,hs];rfl
 have hfinalN:T=none→sync aa=none:=fun hs=>by unfold sync;rw[if_neg (fun e=>hz (hexA.2 e)),hT,hs];rfl
 refine Qg<|Qc<|Qf ?_
 have hb6S:b6∉[b2,b38,b37]:=by simp;omega
 refine Qh<|QA (α:=Nat×Sy×List (ByteArray×Value)×List TV×Value×Value×Value) [(3,4),(10,10),(12,16),(42,111)] (fun z=>[(3,z.2.2.2.2.1),(10,.int .i64 z.1)])
  (fun z w'=>zJ w1.heap.size b2 b38 b37 ve wS z.2.1 z.2.2.1 z.2.2.2.1 z.2.2.2.2.1 z.2.2.2.2.2.1 z.2.2.2.2.2.2 w'∧VK aa z.2.1∧VL ps.length z.2.2.1 z.2.1.tup∧z.1≤z.2.1.tup.length∧z.2.1.mk'.length≤z.1∧z.2.1.ed.length≤z.1*1000∧syL aa (4096 - z.1) z.1 z.2.1=T)
  (fun z=>4096 - z.1) (by rfl) (0,qt aa,_,_,_,Za,Za) ⟨rfl,rfl,trivial⟩ ⟨hSI,hok0,hkn0,Nat.zero_le _,Nat.zero_le _,Nat.zero_le _,hT⟩ ?_
 rintro ⟨i,s,m,qs,vt,vk,vd⟩ g w14 ⟨hI,hsk,hkn,hi,hmk,hed,hrun⟩
 simp only[] at hI hsk hkn hi hmk hed hrun
 have hle:=hsk.le
 have hql:qs.length=s.tup.length:=by rw[←hI.q];simp
 have hqv:∀p∈qs,Vt aa p.2:=fun p hp=>hsk.v p.2 (by rw[←hI.q];exact List.mem_map_of_mem hp)
 have hqn:∀p∈qs,p.2.length≤12:=fun p hp=>by have:=(hqv p hp).1;omega
 have htA:=QX (L:=[]) hI.t (by omega) (by simp)
 refine Qg<|Qc<|Qb<|Qb<|x (Qr htA rfl)<|x (QB rfl rfl)<|xe ?_
 refine QD rfl (fun h45=>?_) (fun h45=>?_)
 ·have hend:T=some s:=by rw[←hrun,Qd3 (by omega)]
  refine Qz ?_
  refine Qc<|Qb<|x (Qr htA rfl)<|x (Qa rfl)<|xl rfl<|QF hI.A rfl rfl (by simp) rfl fun w15 hs15 hB15=>xe ?_
  refine Qc ?_
  have hkA:=Qs.ints (L:=[]) hI.k (by omega) (by simp)
  have heA:=ZT.eds (L:=[]) hI.e (by omega) (by simp)
  refine x (Qq hB15 rfl rfl)<|Qb<|xl rfl<|Qo (us:=[ve,.int .i64 qs.length,vk,vd]) hB15 rfl rfl rfl rfl ⟨hveA.one,rfl,hkA.one,heA.one,trivial⟩ fun w16 hs16 hB16=>x Qe<|Qf ?_
  have hs1516:Step [b2] w14 w16:=hs15.trans' hs16
  have hfin:Step [] w w16:=(hWS.then hI.st (fun b hb=>.inr (by simp at hb;omega))).then1 hs1516 hb2
  refine Ql ⟨[.agg #[ve,.int .i64 qs.length,vk,vd],vt,.int .i64 0],⟨⟨_,rfl,Qx rfl (hB16.at (L:=[]) (by simp)).cells⟩,rfl,rfl,trivial⟩,hfin,_,vt,0,rfl,?_⟩
  unfold Yd
  rw[if_neg h20,hfinal s hend]
  have e1:(qs.length:Int)=s.tup.length:=by rw[hql]
  have k0:Qs 3 w2.heap.size w16 ve (evs aa):=Qk (Qk hveS hI.st (fun b hb=>by have:=(Qp hve4 b hb).1;have:=hvelt b hb;simp;omega)) hs1516 (fun b hb=>by have:=(Qp hve4 b hb).1;simp;omega)
  have k1:=Qk hI.k hs1516 (fun b hb=>by have:=(Qp hI.k b hb).1;simp;omega)
  have k2:=Qk hI.e hs1516 (fun b hb=>by have:=(Qp hI.e b hb).1;simp;omega)
  have k3:=Qk hI.t hs1516 (fun b hb=>by have:=(Qp hI.t b hb).1;simp;omega)
  refine ⟨rfl,⟨ve,vk,vd,by rw[e1],fun L' hL'=>⟨Qs.ints k0 (by show (evs aa).length≤_;omega) (fun b hb=>by have:=hL' b hb;omega),Qs.ints k1 (by show s.mk'.length≤_;omega) (fun b hb=>by have:=hL' b hb;omega),ZT.eds k2 (by show s.ed.length≤_;omega) (fun b hb=>by have:=hL' b hb;omega)⟩⟩,qs,hI.q,fun L' hL'=>⟨?_,fun p hp=>?_⟩⟩
  ·exact QX k3 (by omega) (fun b hb hbL=>by have:=(Qp hI.t b hb).1;have:=hL' b hbL;omega)
  ·exact Qs.ints (Qk (hI.el p hp) hs1516 (fun b hb=>by have:=(Qp (hI.el p hp) b hb).1;simp;omega)) (by have:=hqn p hp;omega) (fun b hb=>by have:=hL' b hb;omega)
 have hlt:i<s.tup.length:=by omega
 have hltq:i<qs.length:=by omega
 have hsyT:=Qkq hI.q hltq
 have htv:=hqv (qs[i]'hltq) (List.getElem_mem hltq)
 obtain ⟨t,htdef⟩:∃t,(qs[i]'hltq).2=t:=⟨_,rfl⟩
 rw[htdef] at hsyT htv
 refine Qi ?_
 have hrun2:(Vp aa i t (evs aa) (ZC aa i t s)).bind (syL aa (4096 - (i+1)) (i+1))=T:=by
  rw[←hrun]
  obtain ⟨f,hf⟩:∃f,4096 - i=f+1:=⟨4096 - i - 1,by omega⟩
  rw[hf,syL,if_pos hlt,hsyT,show 4096 - (i+1)=f by omega]
 have hM14:=hMS.st hI.st
 have hM14':JX [] w14.heap vl ve vs ps ms:=hM14.up (fun _ hb=>by cases hb)
 have hB614:=hB6S.step hI.st hb6S
 have htI:QL [] w14.heap (qs[i]'hltq).1 t:=by rw[←htdef];exact Qs.ints (hI.el (qs[i]'hltq) (List.getElem_mem hltq)) (by have:=hqn (qs[i]'hltq) (List.getElem_mem hltq);omega) (by simp)
 refine Qg<|Qh<|QV (α:=Value) [(48,59)] (fun z=>[]) (fun z w'=>zJ w1.heap.size b2 b38 b37 ve wS (ZC aa i t s) m qs vt z vd w') (by rfl) ?_ ?_
 ·refine Qg<|QT (Step [] w14) [(0,true),(1,true),(2,true),(3,true),(4,true),(5,false)] Tryz.mixed (by rfl) (by kernel_rfl) (Step.drew _ _) ?_
  refine pq (fun _ hc=>Qq (hB614.ext hc) rfl rfl)<|p (fun _=>Qm)<|p (fun _=>Qm)<|pig rfl zR htA rfl rfl hltq fun a51 h51 =>
   pq (fun _ hc=>Qv (h51.ext hc) rfl)<|pk<|xf<|(Qdf (hM14'.ext (Step.drew _ _)) (htI.ext (Step.drew _ _)) (by rw[htv.1,hlenA]) (fun p hp=>(hok p hp).mri) hn).mono ?_
  rintro r17 w17 ⟨rfl,hs17⟩
  have hs17':=(Step.drew [] w14).trans hs17
  refine ⟨hs17',?_⟩
  refine pe ?_
  have hI17:=hI.ext hs17'
  refine QW rfl (fun h53=>?_) (fun h53=>?_)
  rotate_left
  ·refine Qi ?_
   refine ⟨vk,trivial,?_⟩
   rw[haa] at h53
   unfold ZC;rw[if_neg (by rw[h53];simp)];exact hI17
  refine Qw<|x (Qa rfl)<|x (Qd hI17.A rfl rfl)<|Qb<|xl rfl<|QI (us:=[[.int .i64 i]]) rfl rfl (by decide) (by simp) ⟨rfl,rfl,trivial⟩ fun b57 w18 hs18 hb57 hB57=>?_
  have hI18:=hI17.ext hs18
  refine xl rfl<|Q2 (news:=[.int .i64 i]) (L:=[]) hI18.k rfl rfl rfl (hB57.at (by simp)) (by simp[Value.oneCell']) (by omega) hI18.st.size fun v19 w19 ho19 hs19 hn19=>?_
  have hk19:Qs 3 wS.heap.size w19 v19 (s.mk'++[(i:Int)]):=Qs.snoc ho19
  refine x (Qa rfl)<|xl rfl<|QF (hI18.A.step hs19 (QY hI18.k (by omega))) rfl rfl (by simp) (Qs.ints (L:=[]) hk19 (by simp;omega) (by simp)).one fun w20 hs20 hB20=>xe ?_
  refine ⟨v19,trivial,?_⟩
  rw[haa] at h53
  unfold ZC;rw[if_pos h53]
  exact hI18.setK hSN hs19 hk19 hn19 hs20 hB20
 rintro vk2 g3 w21 hI2
 have hsk2:VK aa (ZC aa i t s):=qP hsk
 have htup2:(ZC aa i t s).tup=s.tup:=by unfold ZC;split <;> rfl
 have hed2:(ZC aa i t s).ed=s.ed:=by unfold ZC;split <;> rfl
 have hmk2:(ZC aa i t s).mk'.length≤i+1:=by
  unfold ZC;split
  ·simp only[List.length_append,List.length_singleton];omega
  ·omega
 have hveI:QL [b2,b38,b37] wS.heap ve (evs aa):=by have:=hMS.ev;rw[haa] at this;exact this
 refine Qc<|x (Qa rfl)<|x (Qd (hB6S.step hI2.st hb6S) rfl rfl)<|x (Qr hveI rfl)<|Qb<|xe ?_
 refine Qh<|QA (α:=Nat×Sy×List (ByteArray×Value)×List TV×Value×Value) [(3,4),(12,16),(63,111)] (fun z=>[(3,z.2.2.2.2.1),(63,.int .i64 z.1)])
  (fun z w'=>zJ w1.heap.size b2 b38 b37 ve wS z.2.1 z.2.2.1 z.2.2.2.1 z.2.2.2.2.1 vk2 z.2.2.2.2.2 w'∧VK aa z.2.1∧VL ps.length z.2.2.1 z.2.1.tup∧z.1≤(evs aa).length∧z.2.1.mk'=(ZC aa i t s).mk'∧z.2.1.ed.length≤i*1000+z.1 ∧
   (∃h:i<z.2.2.2.1.length,(z.2.2.2.1[i]'h).2=t)∧(Vp aa i t ((evs aa).drop z.1) z.2.1).bind (syL aa (4096 - (i+1)) (i+1))=T)
  (fun z=>(evs aa).length - z.1) (by rfl) (0,ZC aa i t s,m,qs,vt,vd) ⟨rfl,rfl,trivial⟩
  ⟨hI2,hsk2,by rw[htup2];exact hkn,Nat.zero_le _,rfl,by rw[hed2];simpa using hed,⟨hltq,htdef⟩,hrun2⟩ ?_
 rintro ⟨j,s4,m4,qs4,vt4,vd4⟩ g4 w22 ⟨hI4,hsk4,hkn4,hj,hmk4,hed4,⟨hlt4,ht4⟩,hrun4⟩
 simp only[] at hI4 hsk4 hkn4 hj hmk4 hed4 hrun4 hlt4 ht4
 have hql4:qs4.length=s4.tup.length:=by rw[←hI4.q];simp
 have hle4:=hsk4.le
 refine Qc<|x (QB rfl rfl)<|xe ?_
 refine Qg<|QD rfl (fun h64=>?_) (fun h64=>?_)
 ·rw[List.drop_of_length_le (by omega),Vp] at hrun4
  refine Qz ?_
  refine Qw<|Qb<|x (Qy rfl rfl ⟨by omega,by omega⟩)<|Qf ?_
  refine ⟨(i+1,s4,m4,qs4,vt4,vk2,vd4),by simp only[];omega,⟨rfl,rfl,trivial⟩,hI4,hsk4,hkn4,by simp only[];omega,by simp only[];rw[hmk4];exact hmk2,by simp only[];omega,hrun4⟩
 have hltj:j<(evs aa).length:=by omega
 rw[Q5 hltj,Vp] at hrun4
 obtain ⟨v,hvj⟩:∃v,(evs aa)[j]=v:=⟨_,rfl⟩
 rw[hvj] at hrun4
 refine Qi ?_
 refine Qg<|Qh<|Qc ?_
 have hveI4:=hveI.st hI4.st
 refine xii hveI4 rfl rfl hltj fun a65 h65=>?_
 rw[hvj] at h65
 refine x (Qv h65 rfl)<|Qf ?_
 have hM22:=(hMS.st hI4.st).up (L':=[]) (fun _ hb=>by cases hb)
 have hB622:=hB6S.step hI4.st hb6S
 have htA4:=QX (L:=[]) hI4.t (by omega) (by simp)
 have htI4:QL [] w22.heap (qs4[i]'hlt4).1 t:=by rw[←ht4];exact Qs.ints (hI4.el (qs4[i]'hlt4) (List.getElem_mem hlt4)) (by rw[ht4,htv.1];omega) (by simp)
 refine Qg<|QT (Step [] w22) [(0,true),(1,true),(2,true),(3,true),(4,true),(5,true),(6,false),(7,true),(8,true),(9,true),(10,true),(11,true)] Tryz.mixed (by rfl) (by kernel_rfl) (Step.drew _ _) ?_
 refine pq (fun _ hc=>Qq (hB622.ext hc) rfl rfl)<|p (fun _=>Qm)<|p (fun _=>Qm)<|pig rfl zR htA4 rfl rfl hlt4 fun a71 h71 =>
  pq (fun _ hc=>Qv (h71.ext hc) rfl)<|p (fun _=>Qm)<|pk<|xf<|(QeI (hM22.ext (Step.drew _ _)) (htI4.ext (Step.drew _ _)) (by rw[htv.1,hlenA]) (fun p hp=>(hok p hp).ali) (fun p hp=>(hok p hp).edi) hn _).mono ?_
 rintro r23 w23 ⟨hs23,hr23⟩
 rw[haa] at hr23
 have hs23':=(Step.drew [] w22).trans hs23
 refine ⟨hs23',?_⟩
 have hI5:=hI4.ext hs23'
 have hz23:=hs23'.size
 have hz22:=hI4.st.size
 rcases Qlw (ZV v aa t) with hstp | ⟨u,hstp⟩
 ·rw[hstp] at hr23
  subst hr23
  rw[Qd6 hstp] at hrun4
  refine p (fun _=>Qm)<|p (fun _=>Qj rfl rfl)<|p (fun _=>Qj rfl rfl)<|p (fun _=>Qe)<|p (fun _=>Qe)<|pe ?_
  refine Qg<|Qc<|Qb<|x (Zo rfl)<|xe ?_
  refine qg rfl ?_
  refine Qz ?_
  refine Qw<|x (Qy rfl rfl ⟨by omega,by omega⟩)<|Qb<|xe ?_
  exact ⟨(j+1,s4,m4,qs4,vt4,vd4),by simp only[];omega,⟨rfl,rfl,trivial⟩,hI5,hsk4,hkn4,hltj,hmk4,by simp only[];omega,⟨hlt4,ht4⟩,hrun4⟩
 ·rw[hstp] at hr23
  obtain ⟨vx,rfl,hx23⟩:=hr23
  have huv:=Xz hokA htv hstp
  have hul:u.length=ps.length:=by rw[huv.1,hlenA]
  have hub:=huv.bd hstA
  have hu0:∀x∈u,0≤x:=fun x hx=>(hub x hx).1
  refine p (fun _=>Qm)<|p (fun _=>Qj rfl rfl)<|p (fun _=>Qj rfl rfl)<|p (fun _=>Qe)<|p (fun _=>Qe)<|pe ?_
  refine Qg<|Qc<|Qb<|x (Zo rfl)<|xe ?_
  refine ZZ rfl ?_
  refine Qi ?_
  have hxA:=Qs.ints (L:=[]) hx23 (by omega) (by simp)
  have hgex:=Qp hx23
  refine QV (α:=Unit) [(15,16),(79,85)] (fun z=>[(15,.int .i64 (if u∈s4.tup then (s4.tup.idxOf u:Int) else 0)),(16,.bool (decide (u∈s4.tup)))]) (fun z w'=>Step [] w23 w') (by rfl) ?_ ?_
  ·refine Qw<|Qb<|Qb<|xl rfl<|xf<|(yr hxA (hkb.ext (hWS.then hI5.st (fun b hb=>.inr (by simp at hb;omega)))) hub (by omega)).mono ?_
   rintro r24 w24 ⟨rfl,hs24⟩
   by_cases hu:u∈s4.tup
   ·refine x (qY (k:=Kj u) ((hI5.ext hs24).M) rfl rfl (by rw[hkn4 u hul hu0,if_pos hu]))<|Qb<|x (Qj rfl rfl)<|x (Qj rfl rfl)<|x Qe<|Qf ?_
    exact ⟨(),⟨congrArg (Value.int .i64) (if_pos hu).symm,congrArg Value.bool (decide_eq_true hu).symm,trivial⟩,hs24⟩
   ·refine x (Qc7 (k:=Kj u) ((hI5.ext hs24).M) rfl rfl (by rw[hkn4 u hul hu0,if_neg hu]))<|Qb<|x (Qj rfl rfl)<|x (Qj rfl rfl)<|x Qe<|Qf ?_
    exact ⟨(),⟨congrArg (Value.int .i64) (if_neg hu).symm,congrArg Value.bool (decide_eq_false hu).symm,trivial⟩,hs24⟩
  rintro _ g6 w25 hs25
  have hI6:=hI5.ext hs25
  have hx25:=Qt hx23 hs25
  have hxA25:=hxA.ext hs25
  have hz25:=hs25.size
  have hadd:∀b∈ob vx,b∉ob vt4∧b∉ob vk2∧b∉ob vd4:=fun b hb=>by
   have h1:=(hgex b hb).1
   have h1':w22.heap.size≤b:=h1
   exact ⟨fun hb'=>by have:=Q0 hI4.t b hb';omega,fun hb'=>by have:=Q0 hI4.k b hb';omega,fun hb'=>by have:=Q0 hI4.e b hb';omega⟩
  refine QV (α:=List (ByteArray×Value)×List TV×Value) [(3,4),(15,15),(86,101)] (fun z=>[(3,z.2.2),(15,.int .i64 ((Yj s4 u).tup.idxOf u:Int))])
   (fun z w'=>zJ w1.heap.size b2 b38 b37 ve wS (Yj s4 u) z.1 z.2.1 z.2.2 vk2 vd4 w'∧(u∈s4.tup∨s4.tup.length≠4096)∧VL ps.length z.1 (Yj s4 u).tup∧∃h:i<z.2.1.length,(z.2.1[i]'h).2=t) (by rfl) ?_ ?_
  ·refine Qc<|Qb<|x (Zo rfl)<|xe ?_
   refine QW rfl (fun h87=>?_) (fun h87=>?_)
   rotate_left
   ·have hu:u∈s4.tup:=by simpa using h87
    refine Qi ?_
    have e1:Yj s4 u=s4:=by unfold Yj;rw[if_pos hu]
    have e2:(if u∈s4.tup then (s4.tup.idxOf u:Int) else 0)=((Yj s4 u).tup.idxOf u:Int):=by rw[e1,if_pos hu]
    refine ⟨(m4,qs4,vt4),⟨rfl,congrArg (Value.int .i64) e2,trivial⟩,?_,.inl hu,?_,hlt4,ht4⟩
    ·rw[e1];exact hI6
    ·rw[e1];exact hkn4
   have hu:u∉s4.tup:=by simpa using h87
   have htA6:=QX (L:=[]) hI6.t (by omega) (by simp)
   refine Qg<|Qc<|Qb<|x (Qr htA6 rfl)<|x (Zm rfl rfl)<|xe ?_
   refine Q3 rfl (fun h90=>?_) (fun h90=>?_)
   ·refine Qc<|x (QN trivial)<|xl rfl<|Qo (us:=[nS,.int .i64 0,nS,nS]) hI6.A rfl rfl rfl rfl ⟨rfl,rfl,rfl,rfl,trivial⟩ fun w26 hs26 hB26=>x Qe<|Qf ?_
    refine Ql ⟨[zA,Za,.int .i64 3],⟨⟨_,rfl,Qx rfl (hB26.at (L:=[]) (by simp)).cells⟩,rfl,rfl,trivial⟩,(hWS.then hI6.st (fun b hb=>.inr (by simp at hb;omega))).then1 hs26 hb2,zA,Za,3,rfl,?_⟩
    unfold Yd
    rw[Qd8 hstp hu (by omega)] at hrun4
    rw[if_neg h20,hfinalN hrun4.symm]
    exact ⟨rfl,rfl,rfl⟩
   have hl4:s4.tup.length≠4096:=by omega
   refine Qi ?_
   refine Qc<|Qb<|x (Qr htA6 rfl)<|Qf ?_
   refine Qc<|Qb<|Qb<|xl rfl<|xf<|(yr hxA25 (hkb.ext (hWS.then hI6.st (fun b hb=>.inr (by simp at hb;omega)))) hub (by omega)).mono ?_
   rintro r26 w26 ⟨rfl,hs26⟩
   have hI7:=hI6.ext hs26
   refine Qb<|xl rfl<|Yw (k:=Kj u) hI7.M rfl rfl fun w27 hs27 hm27=>xe ?_
   have hI8:=hI7.setM hSN hs27 hm27
   have hx27:=Qk (Qt hx25 hs26) hs27 (fun b hb=>by have:=(hgex b hb).1;have h1':w22.heap.size≤b:=this;simp;omega)
   refine Qw<|Qb<|Qb<|xl rfl<|QI (us:=[[vx]]) rfl rfl (by decide) (by simp) ⟨hxA.cells,rfl,trivial⟩ fun b100 w28 hs28 hb100 hB100=>?_
   have hI9:=hI8.ext hs28
   refine xl rfl<|Q2 (news:=[vx]) (L:=[]) hI9.t rfl rfl rfl (hB100.at (by simp)) (fun y hy=>by simp only[List.mem_singleton] at hy;subst hy;exact hxA.one) (by omega) (by have:=hI9.st.size;have:=hSN.nS;omega) fun v29 w29 ho29 hs29 hn29=>Qf ?_
   have hk29:Qbx 40 w1.heap.size w29 v29 (qs4++[(vx,u)]):=Qbx.snoc ho29
   have hIA:=hI9.setT hSN (u:=u) (Zc (Qt hx27 hs28) (by show wS.heap.size≤w22.heap.size;omega)) hadd hs29 hk29 hn29
   have e1:Yj s4 u=⟨s4.tup++[u],s4.mk',s4.ed⟩:=by unfold Yj;rw[if_neg hu]
   have e2:(qs4.length:Int)=((Yj s4 u).tup.idxOf u:Int):=by
    rw[e1]
    simp only[]
    rw[List.idxOf_append,if_neg hu,←hql4];simp
   refine ⟨(mput m4 (Kj u) (.int .i64 (qs4.length:Int)),qs4++[(vx,u)],v29),⟨rfl,congrArg (Value.int .i64) e2,trivial⟩,?_,.inr hl4,?_,by simp;omega,?_⟩
   ·rw[e1];exact hIA
   ·rw[e1]
    simp only[]
    rw[hql4];exact hkn4.add hu hu0
   ·simp only[]
    rw[List.getElem_append_left hlt4];exact ht4
  rintro ⟨m5,qs5,vt5⟩ g7 w30 ⟨hI10,hlim,hkn5,hlt5,ht5⟩
  simp only[] at hI10 hkn5 hlt5 ht5
  have hed5:(Yj s4 u).ed.length≤i*1000+j:=by rw[Qea];exact hed4
  have hsy:=QgT (aa:=aa) (i:=i) (s:=s4) hstp hlim
  have hsk5:=Qd7 hokA hsk4 htv hsy
  rw[hsy] at hrun4
  refine Qw<|x (Qa rfl)<|x (Qd hI10.A rfl rfl)<|Qb<|Qb<|Qb<|x (QN ⟨rfl,rfl,rfl,trivial⟩)<|xl rfl<|QI (us:=[QC ((i:Int),v,((Yj s4 u).tup.idxOf u:Int))]) rfl rfl (by decide) (by exact (by decide:1*3≤1000000)) ⟨rfl,rfl,trivial⟩ fun b108 w31 hs31 hb108 hB108=>?_
  have hI11:=hI10.ext hs31
  refine xl rfl<|Q2 (news:=QC ((i:Int),v,((Yj s4 u).tup.idxOf u:Int))) (L:=[]) hI11.e rfl rfl rfl (hB108.at (by simp)) (fun y hy=>by simp only[QC,List.mem_cons,List.not_mem_nil,or_false] at hy;rcases hy with rfl | rfl | rfl <;> rfl) (by omega) hI11.st.size fun v32 w32 ho32 hs32 hn32=>?_
  have hk32:ZT 126 wS.heap.size w32 v32 ((Yj s4 u).ed++[((i:Int),v,((Yj s4 u).tup.idxOf u:Int))]):=ZT.snoc ho32
  refine x (Qa rfl)<|xl rfl<|QF (hI11.A.step hs32 (QY hI11.e (by omega))) rfl rfl (by simp) (ZT.eds (L:=[]) hk32 (by simp;omega) (by simp)).one fun w33 hs33 hB33=>xe ?_
  have hI12:=hI11.setE hSN hs32 hk32 hn32 hs33 hB33
  refine Qw<|x (Qy rfl rfl ⟨by omega,by omega⟩)<|Qb<|xe ?_
  refine ⟨(j+1,_,m5,qs5,vt5,v32),by simp only[];omega,⟨rfl,rfl,trivial⟩,hI12,hsk5,hkn5,hltj,?_,?_,⟨hlt5,ht5⟩,hrun4⟩
  ·simp only[];rw[Qd9];exact hmk4
  ·simp only[List.length_append,List.length_singleton];omega
structure KO where
 en:LI
 dis:LI
 mk':Bool
 ps:Bool
def QjD:KO:=⟨[],[],false,false⟩
def QiV (l:LI) (v:Int):LI:=mrg (· || ·) l [v]
def QlD (p s:QM) (x y:Int) (c:KO) (v:Int):KO :=
 match eget p.ed x v with
 | none=>c
 | some _=>match eget s.ed y v with
  | some _=>⟨QiV c.en v,c.dis,c.mk',c.ps⟩
  | none=>⟨c.en,QiV c.dis v,c.mk',c.ps⟩
def QlE (p s:QM) (x y:Int) (c:KO):KO:=⟨c.en,c.dis,decide (y∈s.mr),c.ps || decide (x∈p.mr)⟩
def QlC (p s:QM) (x y:Int) (c:KO):KO:=s.al.foldl (QlD p s x y) (QlE p s x y c)
def px (q:LI):Int:=q.getD 0 0
def py (q:LI):Int:=q.getD 1 0
def QlB (p s:QM) (l:List KO) (q:LI):List KO:=l.set (py q).toNat (QlC p s (px q) (py q) (l.getD (py q).toNat QjD))
def ctls (p s:QM) (pairs:List (LI)):List KO:=pairs.foldl (QlB p s) (List.replicate s.st.toNat QjD)
def occs (n:Nat) (pairs:List (LI)):List Bool:=pairs.foldl (fun o q=>o.set (py q).toNat true) (List.replicate n false)
def meets (a b:LI):LI:=mrg (· && ·) a b
def QkR (a b:KO):Bool:=decide ((meets a.en b.dis).length+(meets b.en a.dis).length=0) && (!a.ps || !b.ps || a.mk' == b.mk')
def cget (l:LI) (i:Nat):Int:=l.getD i 0
def Qe0 (cl:LI) (x y:Nat):LI:=cl.map fun c=>if c=cget cl y then cget cl x else c
def lget (l:List KO) (i:Nat):KO:=l.getD i QjD
def to0 (s:QM) (x:Nat) (v:Int):Int:=match eget s.ed x v with | some u=>u | none=>0
def clE (s:QM) (x y:Nat) (z:LI×Bool) (v:Int):LI×Bool :=
 if cget z.1 (to0 s x v).toNat≠cget z.1 (to0 s y v).toNat then (Qe0 z.1 (to0 s x v).toNat (to0 s y v).toNat,true) else z
def clY (s:QM) (l:List KO) (x:Nat) (z:LI×Bool) (y:Nat):LI×Bool :=
 if cget z.1 x<0∨cget z.1 x≠cget z.1 y then z else (meets (lget l x).en (lget l y).en).foldl (clE s x y) z
def clX (s:QM) (l:List KO) (n:Nat) (z:LI×Bool) (x:Nat):LI×Bool:=(List.range' (x+1) (n - (x+1))).foldl (clY s l x) z
def pass (s:QM) (l:List KO) (cl:LI):LI×Bool:=(List.range' 0 cl.length).foldl (clX s l cl.length) (cl,false)
def QfV (s:QM) (l:List KO):Nat→LI→LI
 | 0,cl=>cl
 | f+1,cl=>if (pass s l cl).2=true then QfV s l f (pass s l cl).1 else (pass s l cl).1
def Qia (l:List KO) (cl:LI):Bool :=
 (List.range' 0 cl.length).all fun x=>(List.range' 0 x).all fun y=>!(decide (0≤cget cl x∧cget cl x=cget cl y) && !QkR (lget l x) (lget l y))
def Qlk (s:QM) (l:List KO) (cl:LI) (x y:Nat):LI :=
 if cget cl x<0∨cget cl y<0∨cget cl x=cget cl y then cl else
  let d:=QfV s l (cl.length*cl.length+1) (Qe0 cl x y)
  if Qia l d=true then d else cl
def Qlj (s:QM) (l:List KO) (n:Nat) (cl:LI) (x:Nat):LI:=(List.range' (x+1) (n - (x+1))).foldl (fun c y=>Qlk s l c x y) cl
def QlI (o:List Bool):LI:=(List.range' 0 o.length).map fun i=>if o.getD i false=true then (i:Int) else -1
def QlH (s:QM) (l:List KO) (cl:LI):LI:=(List.range' 0 cl.length).foldl (Qlj s l cl.length) cl
def Qly (z:LI×LI) (c:Int):LI×LI :=
 if c∈z.1 then (z.1,z.2++[(z.1.idxOf c:Int) - 1]) else (z.1++[c],z.2++[(z.1.length:Int) - 1])
def nums (cl:LI):LI:=(cl.foldl Qly ([-1],[])).2
def QkU (p s:QM) (pairs:List (LI)):LI:=nums (QlH s (ctls p s pairs) (QlI (occs s.st.toNat pairs)))
end Go.Proofs.YtgmifemhkjdblaaGreatDoor
namespace Go.Lg
section
variable {P:Program} {n:Nat} {f:Fr} {w:World} {all:List Oper} {C:World→Prop} {K:Fr→World→Prop}
def UQ (all:Array Oper) (i j:Nat) (p1 p2:List (Nat×Bool)):List (Nat×Bool)→Array Bool→Bool
 | [],ls=>Region.ready .any all ls == [i,j] && YC all p1 (ls.setIfInBounds i true) && YC all p2 (ls.setIfInBounds j true)
 | (k,q)::pl,ls=>q && (Region.ready .any all ls).contains k && Region.free .any all ls k && UQ all i j p1 p2 pl (ls.setIfInBounds k true)
def Qfs (all:List Oper) (pl:List (Nat×Bool)) (i j:Nat) (p1 p2:List (Nat×Bool)):Bool :=
 Region.noSelect all.toArray && pl.length+1+p1.length == all.length && p1.length == p2.length && UQ all.toArray i j p1 p2 pl (Array.replicate all.length false)
def Fk (P:Program) (all:List Oper) (C:World→Prop) (K:Fr→World→Prop) (i j:Nat) (p1 p2:List (Nat×Bool)) (f:Fr) (w:World):Prop :=
 (ZY all f (QJ all i)=true∧XO P (QJ all i) f w fun f' w'=>C w'∧XP P all C K p1 f' w') ∧
 (ZY all f (QJ all j)=true∧XO P (QJ all j) f w fun f' w'=>C w'∧XP P all C K p2 f' w')
theorem KI {i j:Nat}{p1 p2:List (Nat×Bool)}(hl:p1.length=p2.length) (hs:Region.noSelect all.toArray=true):∀(pl:List (Nat×Bool)) (ls:Array Bool) (f:Fr) (w:World),ls.size=all.length→C w→UQ all.toArray i j p1 p2 pl ls=true →
  XP P all C (Fk P all C K i j p1 p2) pl f w→XA P all C K (pl.length+(1+p1.length)) ls f w
 | [],ls,f,w,hsz,hC,hp,h=>by
  simp only[UQ,Bool.and_eq_true,beq_iff_eq] at hp
  obtain ⟨⟨hr,h1⟩,h2⟩:=hp
  simp only[XP] at h
  rw[List.length_nil,Nat.zero_add,Nat.add_comm]
  refine YB (fun h0=>(by rw[h0] at hr;cases hr)) ?_
  rw[hr]
  intro k hk o ho
  have hsz':(ls.setIfInBounds k true).size=all.length:=by simpa using hsz
  simp only[List.mem_cons,List.not_mem_nil,or_false] at hk
  rcases hk with rfl | rfl
  ·have:=h.1
   rw[Q9 ho] at this
   rw[this.1,cond_true]
   exact this.2.mono fun v w' hx=>⟨.inr (.inr hx.1),Zr hs p1 _ _ _ hsz' (.inl hx.1) h1 hx.2⟩
  ·have:=h.2
   rw[Q9 ho] at this
   rw[this.1,cond_true,hl]
   exact this.2.mono fun v w' hx=>⟨.inr (.inr hx.1),Zr hs p2 _ _ _ hsz' (.inl hx.1) h2 hx.2⟩
 | (i0,q)::pl,ls,f,w,hsz,hC,hp,h=>by
  simp only[UQ,Bool.and_eq_true] at hp
  obtain ⟨⟨⟨rfl,hr⟩,hf⟩,hp'⟩:=hp
  simp only[XP] at h
  have hri:i0∈Region.ready .any all.toArray ls:=by simpa using hr
  have e:(List.length ((i0,true)::pl))+(1+p1.length)=(pl.length+(1+p1.length))+1:=by simp;omega
  rw[e]
  cases ho:all[i0]? with
  | none =>
   exfalso
   obtain ⟨_,o,hoo,_⟩:=mem_ready.1 hri
   simp[ho] at hoo
  | some o =>
   rw[Q9 ho] at h
   have hsel:∀(j:Nat) (o:Oper) cs b,all[j]?=some o→o.op≠.select cs b:=fun j o cs b hj=>Region.noSelect_spec hs j o cs b (by simpa using hj)
   have hfree:=fun j oj hj=>Region.free_spec (ops:=all.toArray) (md:=.any) (i:=i0) (oi:=o) (listed:=ls) (by simpa using ho) hf j oj (by simpa using hj)
   have hsz':(ls.setIfInBounds i0 true).size=all.length:=by simpa using hsz
   cases hg:ZY all f o with
   | false =>
    rw[hg] at h
    exact Y3 (v:=undef) (D:=fun w=>qu o=true→C w) ho (fun _ h=>h) hsel _ ls f w (fun _=>hC) hfree hri (.inr ⟨hg,rfl⟩) (KI hl hs pl _ _ _ hsz' hC hp' h)
   | true =>
    rw[hg] at h
    simp only[cond_true] at h
    obtain ⟨v,hv,hx⟩:=h
    exact Y3 (v:=v) (D:=fun w=>qu o=true→C w) ho (fun _ h=>h) hsel _ ls f w (fun _=>hC) hfree hri (.inl ⟨hg,hv⟩) (KI hl hs pl _ _ _ hsz' hC hp' hx)
theorem Qis {Q:Exit→Fr→World→Prop}{id:Nat}(C:World→Prop) (pl:List (Nat×Bool)) (i j:Nat) (p1 p2:List (Nat×Bool)) (hm:P.follows .mixedOrders=true) (hn:YS n all=true) (hp:Qfs all pl i j p1 p2=true)
  (hC:C { w with drawn:=w.drawn+1 }) (h:XP P all C (Fk P all C (fun f w=>Q .normal f w) i j p1 p2) pl f { w with drawn:=w.drawn+1 }):W P n (.region id all.toArray true) Q f w:=by
 simp only[Qfs,Bool.and_eq_true,beq_iff_eq] at hp
 obtain ⟨⟨⟨hs,hl⟩,hl2⟩,hp⟩:=hp
 refine YH C hm hn ?_
 have h1:=KI hl2 hs pl _ _ _ (by simp) hC hp h
 rw[←Nat.add_assoc,hl] at h1
 exact h1
end
end Go.Lg
namespace Go.Proofs.YtgmifemhkjdblaaGreatDoor
open Go.Lg
end Go.Proofs.YtgmifemhkjdblaaGreatDoor
namespace Go.Lg
open Go.Proofs.YtgmifemhkjdblaaGreatDoor
theorem Zl {l:LI}{i:Nat}(h:i<l.length):l[i]=cget l i:=by simp[cget,List.getD,h]
section
variable {P:Program} {ops l:List Oper} {K:Fr→World→Prop} {f:Fr} {w:World} {d:Option Nat} {ty:Nat} {ps:String} {af:Array Edge} {gd:Option (Nat×Bool)} {C:World→Prop} {pl:List (Nat×Bool)} {i0:Nat}
theorem xic {x y:Operand}{t e bys:Nat}{z:Value}[Sl P t e 1 bys z] {L:LN}{li:LI}{v:Value}{k:IntKind}{i:Nat}
  (h:QL L w.heap v li) (hv:ev f x=v) (hy:ev f y=.int k i) (hi:i<li.length)
  (hK:∀a,At L w.heap a [.int .i64 (cget li i)]→XL P ops K l (QU f d (.pointer (some a))) w) (hg:ZY ops f ⟨d,.indexAddr t x y,ty,ps,af,gd⟩=true:=by rfl) :
  XL P ops K (⟨d,.indexAddr t x y,ty,ps,af,gd⟩::l) f w :=
 xii h hv hy hi (fun a ha=>hK a (by rw[←Zl hi];exact ha)) hg
theorem pic {x y:Operand}{t e bys:Nat}{z:Value}[Sl P t e 1 bys z] {L:LN}{li:LI}{v:Value}{H:Array Obj}{k:IntKind}{i:Nat}
  (ho:QJ ops i0=⟨d,.indexAddr t x y,ty,ps,af,gd⟩) (h:QL L H v li) (hv:ev f x=v) (hy:ev f y=.int k i) (hi:i<li.length)
  (hK:∀a,At L H a [.int .i64 (cget li i)]→XP P ops C K pl (QU f d (.pointer (some a))) w) (hg:ZY ops f (QJ ops i0)=true:=by rfl):XP P ops C K ((i0,true)::pl) f w :=
 pii ho h hv hy hi (fun a ha=>hK a (by rw[←Zl hi];exact ha)) hg
theorem q7 {t:Nat}[h1:Y9 P t] {x y:Operand}{base e g cap i:Nat}{li:LI}{v:Value}{u:Int}(h:Qs e base w v li) (hv:v=.slice (some ⟨g,0,none⟩) li.length cap) (hx:ev f x=.pointer (some ⟨g,0+i*1,none⟩)) (hy:ev f y=.int .i64 u) (hi:i<li.length)
  (hK:∀w',Step (ob v) w w'→Qs e base w' v (li.set i u)→K (QU f d undef) w'):XO P ⟨d,.store t x y,ty,ps,af,gd⟩ f w K:=by
 have h':=h
 unfold Qs at h'
 rw[hv] at h'
 refine ju h' hx hy hi rfl fun w' hs hw=>hK w' (by rw[hv];exact hs) ?_
 unfold Qs
 rw[List.length_set,List.map_set,hv];exact hw
end
theorem Qeq {a n:Nat}(h:a<n):List.range' a (n - a)=a::List.range' (a+1) (n - (a+1)):=by
 rw[show n - a=(n - (a+1))+1 by omega,List.range'_succ]
theorem Qha {a n:Nat}(h:n≤a):List.range' a (n - a)=[]:=by rw[show n - a=0 by omega];rfl
end Go.Lg
namespace Go.Proofs.YtgmifemhkjdblaaGreatDoor
open Go.Lg
end Go.Proofs.YtgmifemhkjdblaaGreatDoor
namespace Go.Lg
section
variable {P:Program} {f:Fr} {w:World} {d:Option Nat} {ty:Nat} {ps:String} {af:Array Edge} {gd:Option (Nat×Bool)} {κ:Type} [DecidableEq κ]
end
end Go.Lg
namespace Go.Proofs.YtgmifemhkjdblaaGreatDoor
open Go.Lg
theorem QbP {aa:List QM}{i:Nat}{t:LI}(ho:∀a∈aa,Q4 a) (ht:Vt aa t):∀(vs:LI) (s s':Sy),VK aa s→Vp aa i t vs s=some s'→VK aa s'
 | [],s,s',h,e=>by cases e;exact h
 | v::vs,s,s',h,e=>by
  rw[Vp] at e
  obtain ⟨s1,h1,h2⟩:=Option.bind_eq_some_iff.1 e
  exact QbP ho ht vs s1 s' (Qd7 ho h ht h1) h2
theorem Qd2 {aa:List QM}(ho:∀a∈aa,Q4 a):∀(f i:Nat) (s s':Sy),VK aa s→syL aa f i s=some s'→VK aa s'
 | 0,i,s,s',h,e=>by cases e;exact h
 | f+1,i,s,s',h,e=>by
  rw[syL] at e
  split at e
  ·rename_i hi
   obtain ⟨s1,h1,h2⟩:=Option.bind_eq_some_iff.1 e
   have hv:Vt aa (qq s i):=h.v _ (by unfold qq;simp[List.getD,hi])
   exact Qd2 ho f _ s1 s' (QbP ho hv _ _ _ (qP h) h1) h2
  ·cases e;exact h
theorem QiX {aa:List QM}(ho:∀a∈aa,Q4 a) (hz:¬∃a∈aa,a.st=0):VK aa (qt aa):=by
 refine ⟨fun t ht=>?_,by simp[qt]⟩
 simp only[qt,List.mem_singleton] at ht
 subst ht
 refine ⟨by simp,fun i h1 h2=>?_⟩
 have h3:=(ho aa[i] (List.getElem_mem h2)).st0
 have h4:aa[i].st≠0:=fun e=>hz ⟨aa[i],List.getElem_mem h2,e⟩
 simp only[List.getElem_replicate];omega
theorem zT {aa:List QM}(ho:∀a∈aa,Q4 a) {z:QM×List (LI)}(h:sync aa=some z):(∀t∈z.2,Vt aa t)∧z.2.length≤4096:=by
 unfold sync at h
 split at h
 ·cases h;simp
 ·rename_i hz
  obtain ⟨s,h1,rfl⟩:=Option.map_eq_some_iff.1 h
  have:=Qd2 ho _ _ _ _ (QiX ho hz) h1
  exact ⟨this.v,this.le⟩
def opC (p s:QM):Int:=if Y8 p≠0 then Y8 p else if Y8 s≠0 then Y8 s else if mrg (fun p q=>p && !q) s.al p.al=[] then 0 else 9
def opE (p s:QM):Int:=if opC p s≠0 then opC p s else match sync [p,s] with | none=>3 | some _=>0
def opQ (p s:QM):List (LI):=match sync [p,s] with | none=>[] | some z=>z.2
def QkF (l:LI):Int:=(l.drop 1).foldl max (cget l 0)
theorem Vl {N b:Nat}{w w':World}{v:Value}{a:QM}(h:X9 N w.heap v a) (hb:b<N) (hs:Step [b] w w'):X9 N w'.heap v a:=by
 obtain ⟨va,vm,ve,h1,h2⟩:=h
 refine ⟨va,vm,ve,h1,fun L hL=>?_⟩
 exact ((h2 (b::L) (fun c hc=>by rcases List.mem_cons.1 hc with rfl | hc;exact hb;exact hL c hc)).st (hs.mono (by simp))).up (fun c hc=>.inl (List.mem_cons_of_mem _ hc))
theorem Qgk {N b:Nat}{w w':World}{v:Value}{l:List (LI)}(h:Qby N w.heap v l) (hb:b<N) (hs:Step [b] w w'):Qby N w'.heap v l:=by
 obtain ⟨ps,h1,h2⟩:=h
 refine ⟨ps,h1,fun L hL=>?_⟩
 exact ((h2 (b::L) (fun c hc=>by rcases List.mem_cons.1 hc with rfl | hc;exact hb;exact hL c hc)).st (hs.mono (by simp))).up (fun c hc=>.inl (List.mem_cons_of_mem _ hc))
theorem Jn {N:Nat}{H:Array Obj}{v:Value}{a:QM}(h:X9 N H v a):∃us,v=.agg us.toArray∧us.length=4∧ZB us:=by
 obtain ⟨va,vm,ve,h1,h2⟩:=h
 have:=h2 [] (by simp)
 exact ⟨[va,.int .i64 a.st,vm,ve],h1,rfl,this.al.one,rfl,this.mr.one,this.ed.one,trivial⟩
def gget:List ((Int×Int)×Int)→Int×Int→Option Int
 | [],_=>none
 | (k',v)::m,k=>if k'=k then some v else gget m k
def gput:List ((Int×Int)×Int)→Int×Int→Int→List ((Int×Int)×Int)
 | [],k,v=>[(k,v)]
 | (k',v')::m,k,v=>if k'=k then (k',v)::m else (k',v')::gput m k v
def Qlq (s:QM) (cls:LI) (x:Nat) (m:List ((Int×Int)×Int)) (v:Int):List ((Int×Int)×Int):=gput m (cget cls x,v) (cget cls (to0 s x v).toNat)
def Qln (s:QM) (l:List KO) (cls:LI) (z:LI×List ((Int×Int)×Int)) (x:Nat):LI×List ((Int×Int)×Int) :=
 if cget cls x<0 then z else (if ((lget l x).mk' && (lget l x).ps)=true then QiV z.1 (cget cls x) else z.1,(lget l x).en.foldl (Qlq s cls x) z.2)
def Qkw (s:QM) (l:List KO) (cls:LI):LI×List ((Int×Int)×Int):=(List.range' 0 cls.length).foldl (Qln s l cls) ([],[])
def Qlp (m:List ((Int×Int)×Int)) (c:Nat) (v:Int):Option Ed:=(gget m ((c:Int),v)).map fun t=>((c:Int),v,t)
def Qlo (m:List ((Int×Int)×Int)) (al:LI) (n:Nat):List Ed:=(List.range' 0 n).flatMap fun c=>al.filterMap (Qlp m c)
def Qlr (s:QM) (l:List KO) (cls:LI):QM:=⟨s.al,QkF cls+1,(Qkw s l cls).1,Qlo (Qkw s l cls).2 s.al (QkF cls+1).toNat⟩
def red (p s:QM):QM:=Qlr s (ctls p s (opQ p s)) (QkU p s (opQ p s))
def rdE (p s:QM):Int:=if opE p s≠0 then opE p s else if opQ p s=[] then 0 else Y8 (red p s)
theorem Xs {l:LI}{i:Nat}(h:i<l.length):cget l i∈l:=by rw[←Zl h];exact List.getElem_mem h
theorem Zf {α:Type}(a:α) {Q:Prop}(h:∀b,a=b→Q):Q:=h a rfl
theorem exN {a:Int}(h0:0≤a) {Q:Prop}(h:∀u:Nat,a=u→Q):Q:=h a.toNat (Int.toNat_of_nonneg h0).symm
theorem qO {L L':LN}{w:World}{v v':Value}{l l':LI}(h:QL L w.heap v l) (h':QL L' w.heap v' l') :
  QG Tryz.prog 18 [v,v'] w fun r w'=>r=.bool (decide (l=l'))∧Step [] w w':=by
 refine QG.of_W Tryz.func18 rfl Tryz.ntmps18 Tryz.results18 (by simp) ?_
 refine Qc<|Qf ?_
 refine Qc<|Qb<|Qb<|xl rfl<|xf<|(J9 h h').mono ?_
 rintro r1 w1 ⟨rfl,hs1⟩
 refine Qf ?_
 exact Ql ⟨[.bool (decide (l=l'))],⟨rfl,trivial⟩,rfl,hs1⟩
end Go.Proofs.YtgmifemhkjdblaaGreatDoor
namespace Go.Lg
section
variable {P:Program} {n:Nat} {f:Fr} {w:World} {d:Option Nat} {ty:Nat} {ps:String} {af:Array Edge} {gd:Option (Nat×Bool)}
class Ay (P:Program) (t:Nat) (m e sz:outParam Nat):Prop where
 u:P.underlying t=some (.array m e)
 i:(P.info? e).map (·.size)=some sz
theorem YK {x y:Operand}{t m e sz:Nat}[h:Ay P t m e sz] {b o:Nat}{k:IntKind}{i:Nat}(hx:ev f x=.pointer (some ⟨b,o,none⟩)) (hy:ev f y=.int k i) (h1:i<m) :
  (execOp (ev f) ⟨d,.indexAddr t x y,ty,ps,af,gd⟩).run P w=.ok (.value (.pointer (some ⟨b,o+i*sz,none⟩))) w:=by
 have hi:=h.i
 cases hn:P.info? e with
 | none=>simp[hn] at hi
 | some ii =>
  simp[hn] at hi
  simp[execOp,hx,hy,Instr.indexAt,asIntOf,run_underlying h.u,Instr.sureAddr,sizeOf,typeInfo,hn,hi,Ym]
  intro h2;omega
theorem Qio {a b:Nat}(ha:a<256):inK .u8 ((a &&& b:Nat):Int):=by
 have:a &&& b≤a:=Nat.and_le_left
 exact ⟨by omega,by omega⟩
theorem Qa0 {t t':Nat}{x y:Operand}{a b:Nat}(hx:ev f x=.int .u8 a) (hy:ev f y=.int .u8 b) (ha:a<256) (hb:b<256) :
  (execOp (ev f) ⟨d,.binOp .and t x y t',ty,ps,af,gd⟩).run P w=.ok (.value (.int .u8 ((a &&& b:Nat):Int))) w:=by
 refine Y7 hx hy ?_
 simp only[binOp,Op.intBits,BitVec.ofInt_natCast,ne_eq,not_true_eq_false,if_false,Sem.run_pure]
 rw[BitVec.toNat_and,BitVec.toNat_ofNat,BitVec.toNat_ofNat,Nat.mod_eq_of_lt (show a<2 ^ IntKind.u8.bits from ha),Nat.mod_eq_of_lt (show b<2 ^ IntKind.u8.bits from hb),YW (Qio ha)]
theorem V3 (m i:Nat):((m:Int) / 2 ^ i)=((m / 2 ^ i:Nat):Int):=by rw[Int.natCast_ediv,Int.natCast_pow];rfl
end
inductive Pt where
 | pl (l:List (Nat×Bool))
 | fk (pre:List (Nat×Bool)) (i j:Nat) (t1 t2:Pt)
def Pt.len:Pt→Nat
 | .pl l=>l.length
 | .fk pre _ _ t1 _=>pre.length+(1+t1.len)
def YY (all:Array Oper):List (Nat×Bool)→Array Bool→Bool
 | [],_=>true
 | (k,q)::pl,ls=>q && (Region.ready .any all ls).contains k && Region.free .any all ls k && YY all pl (ls.setIfInBounds k true)
def Zq:List (Nat×Bool)→Array Bool→Array Bool
 | [],ls=>ls
 | (k,_)::pl,ls=>Zq pl (ls.setIfInBounds k true)
def QeG (all:Array Oper):Pt→Array Bool→Bool
 | .pl l,ls=>YC all l ls
 | .fk pre i j t1 t2,ls=>YY all pre ls && Region.ready .any all (Zq pre ls) == [i,j] && t1.len == t2.len && QeG all t1 ((Zq pre ls).setIfInBounds i true) && QeG all t2 ((Zq pre ls).setIfInBounds j true)
def XT (P:Program) (all:List Oper) (C:World→Prop) (K:Fr→World→Prop):Pt→Fr→World→Prop
 | .pl l=>XP P all C K l
 | .fk pre i j t1 t2=>XP P all C (fun f w=>(ZY all f (QJ all i)=true∧XO P (QJ all i) f w fun f' w'=>C w'∧XT P all C K t1 f' w') ∧
   (ZY all f (QJ all j)=true∧XO P (QJ all j) f w fun f' w'=>C w'∧XT P all C K t2 f' w')) pre
section
variable {P:Program} {n:Nat} {f:Fr} {w:World} {all:List Oper} {C:World→Prop} {K B:Fr→World→Prop}
theorem ZD:∀(pl:List (Nat×Bool)) (ls:Array Bool),(Zq pl ls).size=ls.size
 | [],_=>rfl
 | (k,q)::pl,ls=>by rw[Zq,ZD];simp
theorem ZF {m:Nat}(hs:Region.noSelect all.toArray=true):∀(pl:List (Nat×Bool)) (ls:Array Bool) (f:Fr) (w:World),C w→YY all.toArray pl ls=true →
  (∀f,B f w→XA P all C K m (Zq pl ls) f w)→XP P all C B pl f w→XA P all C K (pl.length+m) ls f w
 | [],ls,f,w,hC,hp,hB,h=>by
  simp only[XP] at h
  rw[List.length_nil,Nat.zero_add]
  exact hB f h
 | (i0,q)::pl,ls,f,w,hC,hp,hB,h=>by
  simp only[YY,Bool.and_eq_true] at hp
  obtain ⟨⟨⟨rfl,hr⟩,hf⟩,hp'⟩:=hp
  simp only[XP] at h
  have hri:i0∈Region.ready .any all.toArray ls:=by simpa using hr
  have e:(List.length ((i0,true)::pl))+m=(pl.length+m)+1:=by simp;omega
  rw[e]
  cases ho:all[i0]? with
  | none =>
   exfalso
   obtain ⟨_,o,hoo,_⟩:=mem_ready.1 hri
   simp[ho] at hoo
  | some o =>
   rw[Q9 ho] at h
   have hsel:∀(j:Nat) (o:Oper) cs b,all[j]?=some o→o.op≠.select cs b:=fun j o cs b hj=>Region.noSelect_spec hs j o cs b (by simpa using hj)
   have hfree:=fun j oj hj=>Region.free_spec (ops:=all.toArray) (md:=.any) (i:=i0) (oi:=o) (listed:=ls) (by simpa using ho) hf j oj (by simpa using hj)
   cases hg:ZY all f o with
   | false =>
    rw[hg] at h
    exact Y3 (v:=undef) (D:=fun w=>qu o=true→C w) ho (fun _ h=>h) hsel _ ls f w (fun _=>hC) hfree hri (.inr ⟨hg,rfl⟩) (ZF hs pl _ _ _ hC hp' hB h)
   | true =>
    rw[hg] at h
    simp only[cond_true] at h
    obtain ⟨v,hv,hx⟩:=h
    exact Y3 (v:=v) (D:=fun w=>qu o=true→C w) ho (fun _ h=>h) hsel _ ls f w (fun _=>hC) hfree hri (.inl ⟨hg,hv⟩) (ZF hs pl _ _ _ hC hp' hB hx)
theorem KH (hs:Region.noSelect all.toArray=true):∀(t:Pt) (ls:Array Bool) (f:Fr) (w:World),ls.size=all.length→C w→QeG all.toArray t ls=true→XT P all C K t f w→XA P all C K t.len ls f w
 | .pl l,ls,f,w,hsz,hC,hp,h=>Zr hs l ls f w hsz (.inl hC) hp h
 | .fk pre i j t1 t2,ls,f,w,hsz,hC,hp,h=>by
  simp only[QeG,Bool.and_eq_true,beq_iff_eq] at hp
  obtain ⟨⟨⟨⟨hq,hr⟩,hl⟩,h1⟩,h2⟩:=hp
  rw[Pt.len]
  refine ZF (B:=fun f w=>(ZY all f (QJ all i)=true∧XO P (QJ all i) f w fun f' w'=>C w'∧XT P all C K t1 f' w') ∧
   (ZY all f (QJ all j)=true∧XO P (QJ all j) f w fun f' w'=>C w'∧XT P all C K t2 f' w')) hs pre ls f w hC hq (fun f hB=>?_) h
  have hsz':∀k,((Zq pre ls).setIfInBounds k true).size=all.length:=fun k=>by simp[ZD,hsz]
  rw[Nat.add_comm 1]
  refine YB (fun h0=>(by rw[h0] at hr;cases hr)) ?_
  rw[hr]
  intro k hk o ho
  simp only[List.mem_cons,List.not_mem_nil,or_false] at hk
  rcases hk with rfl | rfl
  ·have:=hB.1
   rw[Q9 ho] at this
   rw[this.1,cond_true]
   exact this.2.mono fun v w' hx=>⟨.inr (.inr hx.1),KH hs t1 _ _ _ (hsz' _) hx.1 h1 hx.2⟩
  ·have:=hB.2
   rw[Q9 ho] at this
   rw[this.1,cond_true,hl]
   exact this.2.mono fun v w' hx=>⟨.inr (.inr hx.1),KH hs t2 _ _ _ (hsz' _) hx.1 h2 hx.2⟩
end
end Go.Lg
namespace Go.Proofs.YtgmifemhkjdblaaGreatDoor
open Go.Lg
theorem Yu.lt_of {a:Int}{l:LI}(h:Yu (a::l)) {x:Int}(hx:x∈l):a<x:=(List.pairwise_cons.1 h).1 x hx
theorem Yu.tail {a:Int}{l:LI}(h:Yu (a::l)):Yu l:=(List.pairwise_cons.1 h).2
theorem Qhn (keep:Bool→Bool→Bool):∀(n:Nat) (a b:LI),a.length+b.length≤n→Yu a→Yu b→∀x,x∈mrg keep a b↔(x∈a∨x∈b)∧keep (decide (x∈a)) (decide (x∈b))=true:=by
 intro n
 induction n with
 | zero =>
  intro a b h _ _ x
  have ha:a=[]:=List.eq_nil_of_length_eq_zero (by omega)
  have hb:b=[]:=List.eq_nil_of_length_eq_zero (by omega)
  subst ha hb;simp[Je]
 | succ n ih =>
  intro a b hn ia ib x
  cases a with
  | nil =>
   cases b with
   | nil=>simp[Je]
   | cons y b =>
    rw[X2 keep (by simp)]
    have:=ih [] b (by simp at hn ⊢;omega) ia ib.tail x
    have hy:y∉b:=fun h=>by have:=ib.lt_of h;omega
    simp only[Xd,tl,hx,cond_true,cond_false,List.tail_cons,List.headD_cons,List.mem_append]
    rw[this]
    by_cases e:x=y
    ·subst e
     cases hk:keep false true <;> simp[hk,hy]
    ·cases keep false true <;> simp[e]
  | cons u a =>
   cases b with
   | nil =>
    rw[X2 keep (by simp)]
    have:=ih a [] (by simp at hn ⊢;omega) ia.tail ib x
    have hy:u∉a:=fun h=>by have:=ia.lt_of h;omega
    simp only[Xd,tl,hx,cond_true,cond_false,List.tail_cons,List.headD_cons,List.mem_append]
    rw[this]
    by_cases e:x=u
    ·subst e
     cases hk:keep true false <;> simp[hk,hy]
    ·cases keep true false <;> simp[e]
   | cons y b =>
    rw[X2 keep (by simp)]
    have hu:u∉a:=fun h=>by have:=ia.lt_of h;omega
    have hy:y∉b:=fun h=>by have:=ib.lt_of h;omega
    rcases Int.lt_trichotomy u y with h1 | h1 | h1
    ·have hub:u∉y::b:=fun h=>by
      rcases List.mem_cons.1 h with h | h
      ·omega
      ·have:=ib.lt_of h;omega
     have:=ih a (y::b) (by simp at hn ⊢;omega) ia.tail ib x
     have e1:decide (u≤y)=true:=decide_eq_true (by omega)
     have e2:decide (y≤u)=false:=decide_eq_false (by omega)
     simp only[Xd,tl,hx,e1,e2,cond_true,cond_false,List.tail_cons,List.headD_cons,List.mem_append]
     rw[this]
     by_cases e:x=u
     ·subst e
      cases hk:keep true false <;> simp[hk,hu,hub]
     ·cases keep true false <;> simp[e]
    ·subst h1
     have:=ih a b (by simp at hn ⊢;omega) ia.tail ib.tail x
     have e1:decide (u≤u)=true:=decide_eq_true (by omega)
     simp only[Xd,tl,hx,e1,cond_true,List.tail_cons,List.headD_cons,List.mem_append]
     rw[this]
     by_cases e:x=u
     ·subst e
      cases hk:keep true true <;> simp[hk,hu,hy]
     ·cases keep true true <;> simp[e]
    ·have hub:y∉u::a:=fun h=>by
      rcases List.mem_cons.1 h with h | h
      ·omega
      ·have:=ia.lt_of h;omega
     have:=ih (u::a) b (by simp at hn ⊢;omega) ia ib.tail x
     have e1:decide (u≤y)=false:=decide_eq_false (by omega)
     have e2:decide (y≤u)=true:=decide_eq_true (by omega)
     simp only[Xd,tl,hx,e1,e2,cond_true,cond_false,List.tail_cons,List.headD_cons,List.mem_append]
     rw[this]
     by_cases e:x=y
     ·subst e
      cases hk:keep false true <;> simp[hk,hy,hub]
     ·cases keep false true <;> simp[e]
theorem V8 {keep:Bool→Bool→Bool}{a b:LI}(ia:Yu a) (ib:Yu b) (x:Int):x∈mrg keep a b↔(x∈a∨x∈b)∧keep (decide (x∈a)) (decide (x∈b))=true :=
 Qhn keep _ a b (Nat.le_refl _) ia ib x
def setK (m k:Nat):LI:=((List.range' 0 k).filter fun i=>decide (((m / 2 ^ i) &&& 1)=1)).map fun i:Nat=>(i:Int)
theorem Vr (m k:Nat):setK m (k+1)=if (m / 2 ^ k) &&& 1=1 then setK m k++[(k:Int)] else setK m k:=by
 unfold setK
 rw[List.range'_1_concat,List.filter_append,List.map_append,Nat.zero_add]
 by_cases h:(m / 2 ^ k) &&& 1=1
 ·rw[if_pos h,List.filter_cons,if_pos (decide_eq_true h)];rfl
 ·rw[if_neg h,List.filter_cons,if_neg (by rw[decide_eq_false h];simp),List.filter_nil,List.map_nil,List.append_nil]
theorem Xm (m:Nat):∀k,(setK m k).length≤k
 | 0=>by simp[setK]
 | k+1=>by
  have:=Xm m k
  rw[Vr]
  split
  ·simp;omega
  ·omega
theorem ji (m k:Nat):Yu (setK m k):=by
 unfold setK Yu
 rw[List.pairwise_map]
 refine List.Pairwise.sublist List.filter_sublist ?_
 exact (List.pairwise_lt_range' (s:=0) (n:=k)).imp (fun h=>by omega)
end Go.Proofs.YtgmifemhkjdblaaGreatDoor
namespace Go.Lg
section
variable {P:Program} {f:Fr} {w:World} {K:Fr→World→Prop} {d:Option Nat} {ty:Nat} {ps:String} {af:Array Edge} {gd:Option (Nat×Bool)}
theorem VX {t ty e sz bys:Nat}{z:Value}[h:Sl P t e sz bys z] {base:Nat}{v:Value}{n:Nat}{cs:LV}(hown:w.ownsRow base e sz v n cs) :
  (Builtin.append_ #[t,t] ty #[v,nS]).run P w=.ok v w:=by
 obtain ⟨i,hi,_,hsz,_⟩:=Sl.info h
 rcases hown.2 with ⟨rfl,rfl⟩ | ⟨g,cap,cur,rfl,hbg,hgg,hnc,hcm,hcs,htake⟩
 ·simp[Builtin.append_,run_underlying h.u,sizeOf,typeInfo,hi,Builtin.lenOf,Builtin.firstCells]
 ·simp[Builtin.append_,run_underlying h.u,sizeOf,typeInfo,hi,Builtin.lenOf,Builtin.firstCells,hnc,storeCells]
theorem QeM {t e sz bys:Nat}{z:Value}[h:Sl P t e sz bys z] {s y:Operand}{base:Nat}{v:Value}{n:Nat}{cs:LV}(hown:w.ownsRow base e sz v n cs) (hs:ev f s=v)
  {v2:Value} {m:Nat} {news:LV} {L:LN} (hA:Zs L w.heap v2 m sz news) (hy:ev f y=v2) (h1:∀u∈news,u.oneCell'=true)
  (hb:n+m≤1099511627776) (hbase:base≤w.heap.size)
  (hK:∀v' w',w'.ownsRow base e sz v' (n+m) (cs++news)→Step (ob v) w w'→(∀b∈ob v',b∈ob v∨w.heap.size≤b)→K (QU f d v') w') (hby:bys≤128:=by decide) :
  XO P ⟨d,.call ⟨.builtin .append,#[s,y],#[t,t]⟩,ty,ps,af,gd⟩ f w K:=by
 rcases hA.2.2 with ⟨e1,e2⟩ | ⟨a,c,e1,_,e3⟩
 ·subst e2
  have hn:news=[]:=List.eq_nil_of_length_eq_zero (by have:=hA.1;simpa using this)
  subst hn
  have hr':(execOp (ev f) ⟨d,.call ⟨.builtin .append,#[s,y],#[t,t]⟩,ty,ps,af,gd⟩).run P w=.ok (.value v) w:=by
   simp[execOp,resolve,invoke,builtin,hs,hy,e1,VX (ty:=ty) hown]
  exact xv hr' (hK v w (by simpa using hown) (Step.refl _ _) (fun b hb=>.inl hb))
 ·exact Q2 hown hs (hy.trans e1) hA.1 e3 h1 hb hbase hK hby
end
end Go.Lg
namespace Go.Proofs.YtgmifemhkjdblaaGreatDoor
open Go.Lg
theorem Qcm {L:LN}{w:World}{v:Value}{l:LI}(h:QL L w.heap v l) (x:Int) :
  QG Tryz.prog 141 [v,.int .i64 x] w fun r w'=>r=.bool (decide (x∈l))∧w'=w:=by
 have hle:=h.le
 refine QG.of_W Tryz.func141 rfl Tryz.ntmps141 Tryz.results141 (by simp) ?_
 refine Qc<|Lg.Qf ?_
 refine Qg<|Qc<|Lg.Qf ?_
 refine Qh<|QA (α:=Nat) [(4,17)] (fun k=>[(5,.int .i64 k)]) (fun k w'=>w'=w∧k≤l.length∧(x∈l↔x∈l.drop k)) (fun k=>l.length - k) (by rfl) 0 ⟨rfl,trivial⟩ ⟨rfl,Nat.zero_le _,by simp⟩ ?_
 rintro k g w' ⟨rfl,hk,hm⟩
 refine Qg<|Qc<|Lg.Qb<|Lg.Qb<|Lg.x (Qr h rfl)<|Lg.x (QB rfl rfl)<|xe ?_
 refine QD rfl (fun h9=>?_) (fun h9=>?_)
 ·refine Qz ?_
  refine Qc<|Lg.Qf ?_
  refine Ql ⟨[.bool false],⟨rfl,trivial⟩,?_,rfl⟩
  rw[List.drop_of_length_le (by omega)] at hm
  simp[tup,hm]
 have hlt:k<l.length:=by omega
 have hd:=Q5 hlt
 refine Qi ?_
 refine Qg<|Qh<|Qc<|Lg.Qb<|Lg.Qb<|xii h rfl rfl hlt fun a14 h14=>Lg.x (Qv h14 rfl)<|Lg.Qb<|Lg.x (Zm rfl rfl)<|xe ?_
 refine Q3 rfl (fun h17=>?_) (fun h17=>?_)
 ·refine Qc<|Lg.Qf ?_
  refine Ql ⟨[.bool true],⟨rfl,trivial⟩,?_,rfl⟩
  have:x∈l:=by rw[hm,hd,h17];exact List.mem_cons_self
  simp[tup,this]
 refine Qi ?_
 refine Qw<|Lg.Qb<|Lg.x (Qy rfl rfl ⟨by omega,by omega⟩)<|Lg.Qf ?_
 refine ⟨k+1,by omega,⟨rfl,trivial⟩,rfl,by omega,?_⟩
 rw[hm,hd,List.mem_cons]
 exact ⟨fun h=>h.resolve_left (fun e=>h17 e.symm),.inr⟩
theorem y9 {L:LN}{w:World}{va vm ve:Value}{a:QM}(h:Uf L w.heap ve a.ed) (s e:Int) (st:Int) :
  QG Tryz.prog 142 [.agg #[va,.int .i64 st,vm,ve],.int .i64 s,.int .i64 e] w fun r w'=>r=.int .i64 (nxt a.ed s e)∧Step [] w w':=by
 have hle:=h.le
 refine QG.of_W Tryz.func142 rfl Tryz.ntmps142 Tryz.results142 (by simp) ?_
 refine Qc<|xl rfl<|QR (us:=[va,.int .i64 st,vm,ve]) rfl fun b3 w1 hs1 hb3 hB3=>Lg.Qf ?_
 replace h:=h.ext hs1
 refine Qg<|Qc<|Lg.Qf ?_
 refine Qh<|QA (α:=Nat) [(6,38)] (fun k=>[(7,.int .i64 k)]) (fun k w'=>w'=w1∧k≤a.ed.length∧nxt (a.ed.drop k) s e=nxt a.ed s e) (fun k=>a.ed.length - k) (by rfl) 0 ⟨rfl,trivial⟩ ⟨rfl,Nat.zero_le _,rfl⟩ ?_
 rintro k g w2 ⟨rfl,hk,hn⟩
 refine Qg<|Qc<|Lg.Qb<|Lg.x (Qa rfl)<|Lg.x (Qd hB3 rfl rfl)<|Lg.x (Qr h rfl)<|Lg.x (QB rfl rfl)<|xe ?_
 refine QD rfl (fun h12=>?_) (fun h12=>?_)
 ·refine Qz ?_
  refine Qc<|Lg.Qf ?_
  refine Ql ⟨[.int .i64 (-1)],⟨rfl,trivial⟩,?_,hs1⟩
  rw[List.drop_of_length_le (by omega)] at hn
  rw[←hn];rfl
 have hlt:k<a.ed.length:=by omega
 have hd:=Q5 hlt
 refine Qi ?_
 refine Qg<|Qh<|QV (α:=Bool) [(15,32)] (fun z=>[(32,.bool z)]) (fun z w'=>w'=w2∧z=decide (a.ed[k].1=s∧a.ed[k].2.1=e)) (by rfl) ?_ ?_
 ·refine Qw<|Lg.x (Qa rfl)<|Lg.x (Qd hB3 rfl rfl)<|Lg.Qb<|xie h rfl rfl hlt fun a18 h18=>Lg.x (Zd rfl)<|Lg.x (Qv (h18.fld 0 _ rfl) rfl) <|
   Lg.Qb<|xb (Zm rfl rfl) (fun h22=>?_) (fun h22=>?_)
  ·refine Lg.Qb<|Lg.x (Qa rfl)<|Lg.x (Qd hB3 rfl rfl)<|Lg.Qb<|xie h rfl rfl hlt fun a27 h27=>Lg.x (Zd rfl)<|Lg.x (Qv (h27.fld 1 _ rfl) rfl) <|
    Lg.Qb<|Lg.x (Zm rfl rfl)<|Lg.x (Qn rfl)<|xe ?_
   exact ⟨_,⟨rfl,trivial⟩,rfl,by simp[h22]⟩
  refine Lg.Qb<|xs rfl<|xs rfl<|xs rfl<|xs rfl<|xs rfl<|xs rfl<|xs rfl<|xs rfl<|Lg.x (Qn rfl)<|xe ?_
  exact ⟨_,⟨rfl,trivial⟩,rfl,by simp[h22]⟩
 rintro z g w3 ⟨rfl,rfl⟩
 refine Q3 rfl (fun h32=>?_) (fun h32=>?_)
 ·refine Qc<|Lg.x (Qa rfl)<|Lg.x (Qd hB3 rfl rfl)<|Lg.Qb<|xie h rfl rfl hlt fun a36 h36=>Lg.x (Zd rfl)<|Lg.x (Qv (h36.fld 2 _ rfl) rfl) <|
   Lg.Qf ?_
  refine Ql ⟨[.int .i64 a.ed[k].2.2],⟨rfl,trivial⟩,?_,hs1⟩
  rw[←hn,hd,nxt,if_pos h32];rfl
 refine Qi ?_
 refine Qw<|Lg.Qb<|Lg.x (Qy rfl rfl ⟨by omega,by omega⟩)<|Lg.Qf ?_
 refine ⟨k+1,by omega,⟨rfl,trivial⟩,rfl,by omega,?_⟩
 rw[←hn,hd,nxt,if_neg h32]
def ixR (l:LI) (n:Int):Int:=if n∈l then (l.idxOf n:Int) else -1
theorem Qfh {l:LI}{n:Int}{k:Nat}(h:n∉l.take k) (hk:k<l.length) (he:cget l k=n):ixR l n=k:=by
 have hm:n∈l:=by rw[←he,←Zl hk];exact List.getElem_mem hk
 unfold ixR
 rw[if_pos hm]
 have hs:l=l.take k++l.drop k:=(List.take_append_drop k l).symm
 have:l.idxOf n=k:=by
  rw[hs,List.idxOf_append,if_neg h,List.drop_eq_getElem_cons hk,List.idxOf_cons,show l[k]=n by rw[Zl hk];exact he]
  simp;omega
 rw[this]
theorem Qdl {L:LN}{w:World}{v:Value}{l:LI}(h:QL L w.heap v l) (n:Int) :
  QG Tryz.prog 143 [v,.int .i64 n] w fun r w'=>r=.int .i64 (ixR l n)∧w'=w:=by
 have hle:=h.le
 refine QG.of_W Tryz.func143 rfl Tryz.ntmps143 Tryz.results143 (by simp) ?_
 refine Qc<|Qf ?_
 refine Qg<|Qc<|Qf ?_
 refine Qh<|QA (α:=Nat) [(4,18)] (fun z=>[(5,.int .i64 z)]) (fun z w'=>w'=w∧z≤l.length∧n∉l.take z) (fun z=>l.length - z) (by rfl) 0 ⟨rfl,trivial⟩ ⟨rfl,Nat.zero_le _,by simp⟩ ?_
 rintro k g w1 ⟨rfl,hk,hm⟩
 refine Qg<|Qc<|Qb<|Qb<|x (Qr h rfl)<|x (QB rfl rfl)<|xe ?_
 refine QD rfl (fun h9=>?_) (fun h9=>?_)
 ·refine Qz ?_
  refine Qc<|Qf ?_
  rw[List.take_of_length_le (by omega)] at hm
  exact Ql ⟨[.int .i64 (-1)],⟨rfl,trivial⟩,by unfold ixR;rw[if_neg hm];rfl,rfl⟩
 have hlt:k<l.length:=by omega
 refine Qi ?_
 refine Qg<|Qh<|Qc<|Qb<|Qb<|xic (i:=k) h rfl rfl hlt fun a14 h14=>x (Qv h14 rfl)<|Qb<|x (Zm rfl rfl)<|xe ?_
 refine Q3 rfl (fun h17=>?_) (fun h17=>?_)
 ·refine Qc<|Qb<|Qf ?_
  exact Ql ⟨[.int .i64 k],⟨rfl,trivial⟩,by rw[Qfh hm hlt h17];rfl,rfl⟩
 refine Qi ?_
 refine Qw<|Qb<|x (Qy rfl rfl ⟨by omega,by omega⟩)<|Qf ?_
 refine ⟨k+1,by omega,⟨rfl,trivial⟩,rfl,hlt,?_⟩
 rw[List.take_succ_eq_append_getElem hlt,Zl hlt]
 simp only[List.mem_append,List.mem_singleton,not_or]
 exact ⟨hm,fun e=>h17 e.symm⟩
theorem VA {L:LN}{w:World}{v:Value}{l:LI}(h:QL L w.heap v l) (hl:l.length≤1000000) :
  QG Tryz.prog 87 [v] w fun r w'=>Step [] w w'∧∃va,r=.agg #[va,.int .i64 0,nS,nS]∧Qs 3 w.heap.size w' va l:=by
 refine QG.of_W Tryz.func87 rfl Tryz.ntmps87 Tryz.results87 (by simp) ?_
 refine Qc<|xl rfl<|Qu (us:=[nS,.int .i64 0,nS,nS]) rfl fun b2 w1 hs1 hb2 hB2=>xe ?_
 have hz1:=hs1.size
 have hl2:=hB2.lt
 refine Qc<|xl rfl<|Vx fun b3 w2 hs2 hb3 hB3=>Qb<|?_
 have hs12:=hs1.trans hs2
 have hz2:=hs2.size
 have ho2:w2.ownsRow w1.heap.size 3 1 (.slice (some ⟨b3,0,none⟩) 0 0) 0 []:=hB3.own (n:=0) (sz:=1) rfl (by omega) hb3
 refine xl rfl<|QeM ho2 rfl (h.ext hs12) rfl (jt l) (by omega) (by omega) fun va w3 ho3 hs3 hn3=>?_
 have ho3':Qs 3 w1.heap.size w3 va l:=by
  have:w3.ownsRow w1.heap.size 3 1 va (0+l.length) ([]++l.map (.int .i64)):=ho3
  rw[Nat.zero_add,List.nil_append] at this;exact this
 have hA:=Qs.ints (L:=[]) ho3' (by omega) (by simp)
 have hB23:=(hB2.ext hs2).step hs3 (QY ho2 hl2)
 have hW3:Step [] w w3:=hs12.then hs3 (fun b hb=>.inr (by have:=(Qp ho2 b hb).1;omega))
 refine x (QN ⟨hA.cells,trivial⟩)<|xl rfl<|Qo (us:=[va,.int .i64 0,nS,nS]) hB23 rfl rfl rfl rfl ⟨hA.one,rfl,rfl,rfl,trivial⟩ fun w4 hs4 hB4=>xe ?_
 have ho4:=Qk ho3' hs4 (fun b hb=>by have:=(Qp ho3' b hb).1;simp;omega)
 exact Ql ⟨[.agg #[va,.int .i64 0,nS,nS]],⟨⟨_,rfl,Qx rfl (hB4.at (L:=[]) (by simp)).cells⟩,trivial⟩,hW3.then1 hs4 hb2,va,rfl,Zc ho4 hz1⟩
theorem pig:∀(n:Nat) (l:LI),l.Nodup→(∀x∈l,0≤x∧x<n)→l.length≤n
 | 0,l,_,h=>by
  cases l with
  | nil=>simp
  | cons a l=>have:=h a List.mem_cons_self;omega
 | n+1,l,hd,h=>by
  by_cases hm:(n:Int)∈l
  ·have h1:=pig n (l.erase (n:Int)) (hd.erase _) (fun x hx=>by
    have h2:=(List.Nodup.mem_erase_iff hd).1 hx
    have h3:=h x h2.2
    have h4:x≠(n:Int):=h2.1
    omega)
   rw[List.length_erase_of_mem hm] at h1
   omega
  ·have:=pig n l hd (fun x hx=>by
    have h3:=h x hx
    have h4:x≠(n:Int):=fun e=>hm (by rw[←e];exact hx)
    omega)
   omega
def fdE (a:QM) (s:Int) (out:LI) (v:Int):LI:=if 0≤nxt a.ed s v∧nxt a.ed s v∉out then out++[nxt a.ed s v] else out
def fdR (a:QM) (out:LI) (s:Int):LI:=a.al.foldl (fdE a s) out
def fdL (a:QM):Nat→Nat→LI→LI
 | 0,_,out=>out
 | f+1,i,out=>if i<out.length then fdL a f (i+1) (fdR a out (cget out i)) else out
def fd0 (a:QM):LI:=if 0<a.st then [0] else []
def found (a:QM):LI:=fdL a a.st.toNat 0 (fd0 a)
structure V1 (a:QM) (out:LI):Prop where
 b:∀x∈out,0≤x∧x<a.st
 d:out.Nodup
theorem V1.len {a:QM}{out:LI}(h:V1 a out) (h0:0≤a.st):out.length≤a.st.toNat:=pig _ _ h.d (fun x hx=>by have:=h.b x hx;omega)
theorem V7 {es:List Ed}{s v:Int}(h:0≤nxt es s v):(s,v,nxt es s v)∈es:=by
 induction es with
 | nil=>simp[nxt] at h
 | cons e es ih =>
  rw[nxt] at h ⊢
  split at h
  ·rename_i he
   rw[if_pos he]
   obtain ⟨p,q,r⟩:=e
   obtain ⟨h1,h2⟩:=he
   simp only[] at h1 h2
   subst h1 h2
   exact List.mem_cons_self
  ·rename_i he
   rw[if_neg he]
   exact List.mem_cons_of_mem _ (ih h)
theorem QfB {a:QM}(ho:Q4 a) {out:LI}(h:V1 a out) (s v:Int):V1 a (fdE a s out v):=by
 unfold fdE
 split
 ·rename_i hc
  have hm:=ho.ed _ (V7 hc.1)
  refine ⟨fun x hx=>?_,?_⟩
  ·rcases List.mem_append.1 hx with hx | hx
   ·exact h.b x hx
   ·simp only[List.mem_singleton] at hx;subst hx;exact ⟨hc.1,hm.2.2.2.2⟩
  ·rw[List.nodup_append]
   refine ⟨h.d,by simp,fun x hx y hy=>?_⟩
   simp only[List.mem_singleton] at hy
   subst hy
   exact fun e=>hc.2 (by rw[←e];exact hx)
 ·exact h
theorem QhQ {a:QM}{out:LI}{s v:Int}:∀x∈out,x∈fdE a s out v:=fun x hx=>by unfold fdE;split;exact List.mem_append_left _ hx;exact hx
theorem Qjt {a:QM}{out:LI}{s v:Int}(h:0≤nxt a.ed s v):nxt a.ed s v∈fdE a s out v:=by
 unfold fdE
 by_cases hm:nxt a.ed s v∈out
 ·rw[if_neg (fun e=>e.2 hm)];exact hm
 ·rw[if_pos ⟨h,hm⟩];simp
theorem Qfz {a:QM}(ho:Q4 a) (s:Int):∀(vs:LI) (out:LI),V1 a out→V1 a (vs.foldl (fdE a s) out)
 | [],_,h=>h
 | v::vs,_,h=>Qfz ho s vs _ (QfB ho h s v)
theorem yB {a:QM}{s:Int}:∀(vs:LI) (out:LI),∀x∈out,x∈vs.foldl (fdE a s) out
 | [],_,_,hx=>hx
 | _::vs,_,x,hx=>yB vs _ x (QhQ x hx)
theorem QfA {a:QM}{s:Int}:∀(vs:LI) (out:LI),∀v∈vs,0≤nxt a.ed s v→nxt a.ed s v∈vs.foldl (fdE a s) out
 | v::vs,out,u,hu,h=>by
  rcases List.mem_cons.1 hu with rfl | hu
  ·exact yB vs _ _ (Qjt h)
  ·exact QfA vs _ u hu h
theorem Qcq {a:QM}{s:Int}:∀(vs:LI) (out:LI),∃r,vs.foldl (fdE a s) out=out++r
 | [],out=>⟨[],by simp⟩
 | v::vs,out=>by
  obtain ⟨r,hr⟩:=Qcq (a:=a) (s:=s) vs (fdE a s out v)
  rw[List.foldl_cons,hr]
  unfold fdE
  split
  ·exact ⟨[nxt a.ed s v]++r,by simp⟩
  ·exact ⟨r,rfl⟩
theorem U7 {l r:LI}{i:Nat}(h:i<l.length):cget (l++r) i=cget l i:=by
 rw[←Zl h,←Zl (by simp;omega),List.getElem_append_left h]
def Cl (a:QM) (out:LI) (i:Nat):Prop:=∀j,j<i→j<out.length→∀v∈a.al,0≤nxt a.ed (cget out j) v→nxt a.ed (cget out j) v∈out
theorem Cl.next {a:QM}{out:LI}{i:Nat}(h:Cl a out i) (hi:i<out.length):Cl a (fdR a out (cget out i)) (i+1):=by
 intro j hj hjl v hv hn
 obtain ⟨r,hr⟩:=Qcq (a:=a) (s:=cget out i) a.al out
 have hr':fdR a out (cget out i)=out++r:=hr
 have hjo:j<out.length:=by omega
 rw[hr',U7 hjo] at hn ⊢
 by_cases e:j=i
 ·subst e
  have:=QfA a.al out v hv hn
  rw[←hr'];exact this
 ·exact List.mem_append_left _ (h j (by omega) hjo v hv hn)
theorem Qfy {a:QM}(ho:Q4 a):∀(f i:Nat) (out:LI),V1 a out→Cl a out i→i+f=a.st.toNat→V1 a (fdL a f i out)∧Cl a (fdL a f i out) (fdL a f i out).length
 | 0,i,out,h,hc,hf=>by
  have:=h.len ho.st0
  exact ⟨h,fun j hj hjl=>hc j (by rw[fdL] at hj;omega) hjl⟩
 | f+1,i,out,h,hc,hf=>by
  rw[fdL]
  split
  ·rename_i hi
   exact Qfy ho f (i+1) _ (Qfz ho _ _ _ h) (hc.next hi) (by omega)
  ·rename_i hi
   exact ⟨h,fun j hj hjl=>hc j (by omega) hjl⟩
theorem QfC (a:QM):V1 a (fd0 a):=by
 unfold fd0
 split
 ·rename_i h
  exact ⟨fun x hx=>by simp only[List.mem_singleton] at hx;subst hx;exact ⟨by omega,h⟩,by simp⟩
 ·exact ⟨by simp,by simp⟩
theorem UP {a:QM}(ho:Q4 a):V1 a (found a)∧∀s∈found a,∀v∈a.al,0≤nxt a.ed s v→nxt a.ed s v∈found a:=by
 obtain ⟨h1,h2⟩:=Qfy ho a.st.toNat 0 (fd0 a) (QfC a) (fun j hj=>by omega) (by omega)
 refine ⟨h1,fun s hs v hv hn=>?_⟩
 obtain ⟨j,hj,rfl⟩:=List.getElem_of_mem hs
 have:=h2 j hj hj v hv
 unfold found at hj hn ⊢
 rw[Zl hj] at hn ⊢
 exact this hn
def qK (a:QM) (fd:LI) (i:Nat) (v:Int):Option Ed:=if 0≤nxt a.ed (cget fd i) v then some ((i:Int),v,ixR fd (nxt a.ed (cget fd i) v)) else none
def KE (a:QM) (fd:LI) (n:Nat):LI:=((List.range' 0 n).filter fun i=>decide (cget fd i∈a.mr)).map fun i:Nat=>(i:Int)
def VH (a:QM) (fd:LI) (n:Nat):List Ed:=(List.range' 0 n).flatMap fun i=>a.al.filterMap (qK a fd i)
def X6 (a:QM):QM:=⟨a.al,(found a).length,KE a (found a) (found a).length,VH a (found a) (found a).length⟩
theorem Xc {β:Type}{r:Int→Int→Prop}{q:β→β→Prop}{g:Int→Option β}(hg:∀x y u v,r x y→g x=some u→g y=some v→q u v):∀{l:LI},l.Pairwise r→(l.filterMap g).Pairwise q
 | [],_=>by simp
 | x::l,h=>by
  obtain ⟨h1,h2⟩:=List.pairwise_cons.1 h
  rw[List.filterMap_cons]
  split
  ·exact Xc hg h2
  ·rename_i u hu
   refine List.pairwise_cons.2 ⟨fun v hv=>?_,Xc hg h2⟩
   obtain ⟨y,hy,hyv⟩:=List.mem_filterMap.1 hv
   exact hg x y u v (h1 y hy) hu hyv
theorem QcC {a:QM}(ho:Q4 a):Q4 (X6 a)∧(X6 a).al=a.al∧(X6 a).st≤a.st:=by
 obtain ⟨h1,h2⟩:=UP ho
 have hl:=h1.len ho.st0
 have h0:=ho.st0
 have h4:=ho.st1
 refine ⟨⟨ho.al,ho.ali,by simp[X6],by simp only[X6];omega,fun s hs=>?_,?_,fun e he=>?_,?_⟩,rfl,by simp only[X6];omega⟩
 ·simp only[X6,KE,List.mem_map,List.mem_filter,List.mem_range'_1] at hs
  obtain ⟨i,⟨hi,_⟩,rfl⟩:=hs
  simp only[X6];omega
 ·simp only[X6,KE]
  unfold Yu
  rw[List.pairwise_map]
  refine List.Pairwise.sublist List.filter_sublist ?_
  exact (List.pairwise_lt_range' (s:=0) (n:=(found a).length)).imp (fun h=>by omega)
 ·simp only[X6,VH,List.mem_flatMap,List.mem_filterMap,List.mem_range'_1] at he
  obtain ⟨i,⟨_,hi⟩,v,hv,hf⟩:=he
  unfold qK at hf
  split at hf
  ·rename_i hn
   cases hf
   have hi':i<(found a).length:=by omega
   have hm:=h2 (cget (found a) i) (by rw[←Zl hi'];exact List.getElem_mem hi') v hv hn
   have hx:=List.idxOf_lt_length_of_mem hm
   simp only[X6]
   unfold ixR
   rw[if_pos hm]
   exact ⟨by omega,by omega,hv,by omega,by omega⟩
  ·cases hf
 ·simp only[X6,VH]
  have key:∀(is:LN),is.Pairwise (·<·)→(is.flatMap fun i=>a.al.filterMap (qK a (found a) i)).Pairwise fun x y:Ed=>x.1<y.1∨(x.1=y.1∧x.2.1<y.2.1):=by
   intro is
   induction is with
   | nil=>intro _;simp
   | cons i is ih =>
    intro hp
    obtain ⟨p1,p2⟩:=List.pairwise_cons.1 hp
    rw[List.flatMap_cons,List.pairwise_append]
    have from_i:∀(i:Nat) (e:Ed),e∈a.al.filterMap (qK a (found a) i)→e.1=i:=by
     intro i e he
     obtain ⟨v,_,hf⟩:=List.mem_filterMap.1 he
     unfold qK at hf
     split at hf
     ·cases hf;rfl
     ·cases hf
    refine ⟨?_,ih p2,fun e he e' he'=>?_⟩
    ·refine Xc (r:=(·<·)) (fun x y u v hxy hu hv=>?_) ho.ali
     unfold qK at hu hv
     split at hu
     ·cases hu
      split at hv
      ·cases hv
       exact .inr ⟨rfl,hxy⟩
      ·cases hv
     ·cases hu
    ·obtain ⟨j,hj,he2⟩:=List.mem_flatMap.1 he'
     have e1:=from_i i e he
     have e2:=from_i j e' he2
     have:=p1 j hj
     left;omega
  exact key _ (List.pairwise_lt_range' (s:=0) (n:=(found a).length))
set_option maxHeartbeats 1000000 in
theorem Qdn {L:LN}{w:World}{va vm ve:Value}{a:QM}(h:Zp L w.heap va vm ve a) (ho:Q4 a) :
  QG Tryz.prog 140 [.agg #[va,.int .i64 a.st,vm,ve]] w fun r w'=>Step [] w w'∧Qs 3 w.heap.size w' r (found a):=by
 have h0:=ho.st0
 have h1:=ho.st1
 have hal:=ho.al_le
 refine QG.of_W Tryz.func140 rfl Tryz.ntmps140 Tryz.results140 (by simp) ?_
 refine Qc<|xl rfl<|QR (us:=[va,.int .i64 a.st,vm,ve]) rfl fun b1 w1 hs1 hb1 hB1=>Qf ?_
 refine Qc<|Qf ?_
 have hz1:=hs1.size
 have hl1:=hB1.lt
 refine QV (α:=Value) [(3,3),(7,12)] (fun z=>[(3,z)]) (fun z w'=>Step [] w1 w'∧Qs 3 w1.heap.size w' z (fd0 a)) (by rfl) ?_ ?_
 ·refine Qc<|x (Qa rfl)<|x (Qd hB1 rfl rfl)<|x (ZK rfl rfl)<|xe ?_
  refine QD rfl (fun h9=>?_) (fun h9=>?_)
  ·refine Qi ?_
   exact ⟨nS,⟨rfl,trivial⟩,Step.refl _ _,by unfold fd0;rw[if_neg h9];exact QP _ _ _ _⟩
  refine Qw<|Qb<|xl rfl<|QI (us:=[[.int .i64 0]]) rfl rfl (by decide) (by simp) ⟨rfl,rfl,trivial⟩ fun b11 w2 hs2 hb11 hB11=>?_
  have hn:w2.ownsRow w1.heap.size 3 1 (nS) 0 []:=QP _ _ _ _
  have hz2:=hs2.size
  refine xl rfl<|Q2 (news:=[.int .i64 0]) (L:=[]) hn rfl rfl rfl (hB11.at (by simp)) (by simp[Value.oneCell']) (by omega) (by omega) fun v3 w3 ho3 hs3 hn3 =>
   Qf ?_
  refine ⟨v3,⟨rfl,trivial⟩,hs2.then hs3 (fun b hb=>by simp[ob] at hb),?_⟩
  unfold fd0
  rw[if_pos h9];exact ho3
 rintro v0 g4 w4 ⟨hs4,ho4⟩
 have hW4:=hs1.trans hs4
 have hz4:=hs4.size
 refine Zf (found a) fun T hT=>?_
 have hT':fdL a a.st.toNat 0 (fd0 a)=T:=hT
 refine Qg<|Qc<|Qf ?_
 refine Qh<|QA (α:=Nat×LI×Value) [(3,6),(13,48)] (fun z=>[(3,z.2.2),(4,.int .i64 z.1)])
  (fun z w'=>Step [] w1 w'∧Qs 3 w1.heap.size w' z.2.2 z.2.1∧V1 a z.2.1∧z.1≤z.2.1.length∧fdL a (a.st.toNat - z.1) z.1 z.2.1=T) (fun z=>a.st.toNat - z.1) (by rfl) (0,fd0 a,v0) ⟨rfl,rfl,trivial⟩
  ⟨hs4,ho4,QfC a,Nat.zero_le _,hT'⟩ ?_
 rintro ⟨i,out,v⟩ g5 w5 ⟨hs5,ho5,hfd,hi,hr5⟩
 simp only[] at ho5 hfd hi hr5
 have hlen:=hfd.len h0
 have hI5:=Qs.ints (L:=[]) ho5 (by omega) (by simp)
 refine Qg<|Qc<|Qb<|Qb<|x (Qr hI5 rfl)<|x (QB rfl rfl)<|xe ?_
 refine QD rfl (fun h16=>?_) (fun h16=>?_)
 ·have e:out=T:=by
   rw[←hr5]
   generalize a.st.toNat - i=f
   cases f with
   | zero=>rfl
   | succ f=>rw[fdL,if_neg (by omega)]
  refine Qz ?_
  refine Qc<|Qb<|Qf ?_
  rw[e] at ho5
  exact Ql ⟨[v],⟨rfl,trivial⟩,hs1.trans hs5,by rw[hT];exact Zc ho5 hz1⟩
 have hlt:i<out.length:=by omega
 have hfu:a.st.toNat - i=(a.st.toNat - (i+1))+1:=by omega
 rw[hfu,fdL,if_pos hlt] at hr5
 refine Zf (cget out i) fun s hse=>?_
 rw[hse] at hr5
 refine Zf (fdR a out s) fun R hR=>?_
 rw[hR] at hr5
 unfold fdR at hR
 refine Qi ?_
 refine Qg<|Qh<|Qc<|Qf ?_
 refine Qh<|QA (α:=Nat×LI×Value) [(3,3),(5,6),(19,48)] (fun z=>[(3,z.2.2),(5,.int .i64 z.1)])
  (fun z w'=>Step [] w1 w'∧Qs 3 w1.heap.size w' z.2.2 z.2.1∧V1 a z.2.1∧z.1≤a.al.length∧i<z.2.1.length∧cget z.2.1 i=s∧(a.al.drop z.1).foldl (fdE a s) z.2.1=R) (fun z=>a.al.length - z.1) (by rfl) (0,out,v) ⟨rfl,rfl,trivial⟩
  ⟨hs5,ho5,hfd,Nat.zero_le _,hlt,hse,hR⟩ ?_
 clear hs5 ho5 hfd hi hlen hI5 hlt hse hR h16
 rintro ⟨k,out,v⟩ g6 w6 ⟨hs6,ho6,hfd,hk,hlt,hse,hr6⟩
 simp only[] at ho6 hfd hk hlt hse hr6
 have hlen:=hfd.len h0
 have hal6:=(h.al.ext hs1).ext hs6
 have hB16:=hB1.ext hs6
 have hI6:=Qs.ints (L:=[]) ho6 (by omega) (by simp)
 refine Qg<|Qc<|Qb<|x (Qa rfl)<|x (Qd hB16 rfl rfl)<|x (Qr hal6 rfl)<|x (QB rfl rfl)<|xe ?_
 refine QD rfl (fun h23=>?_) (fun h23=>?_)
 ·refine Qz ?_
  refine Qw<|Qb<|x (Qy rfl rfl ⟨by omega,by omega⟩)<|Qf ?_
  rw[List.drop_of_length_le (by omega)] at hr6
  have hr6':out=R:=hr6
  exact ⟨(i+1,out,v),by simp only[];omega,⟨rfl,rfl,trivial⟩,hs6,ho6,hfd,hlt,by simp only[];rw[hr6'];exact hr5⟩
 have hltk:k<a.al.length:=by omega
 rw[List.drop_eq_getElem_cons hltk,List.foldl_cons,Zl hltk] at hr6
 refine Zf (cget a.al k) fun u hu=>?_
 rw[hu] at hr6
 have hed6:=(h.ed.ext hs1).ext hs6
 refine Zf (nxt a.ed s u) fun t ht=>?_
 have hfe:fdE a s out u=if 0≤t∧t∉out then out++[t] else out:=by unfold fdE;rw[ht]
 have hok':=QfB ho hfd s u
 rw[hfe] at hr6 hok'
 refine Qi ?_
 refine Qg<|Qh<|Qg<|QT (Step [] w6) [(0,true),(1,true),(2,true),(3,true),(4,true),(5,true),(6,true),(7,true),(8,true),(9,true),(10,false),(11,true)] Tryz.mixed (by rfl) (by kernel_rfl) (Step.drew _ _) ?_
 refine pq (fun _ hc=>Qq (hB16.ext hc) rfl rfl)<|p (fun _=>Qm)<|p (fun _=>Qm)<|pic (i:=i) rfl hI6 rfl rfl hlt fun a29 h29=>?_
 rw[hse] at h29
 refine pq (fun _ hc=>Qv (h29.ext hc) rfl)<|p (fun _=>Qa rfl)<|pq (fun _ hc=>Qd (hB16.ext hc) rfl rfl)<|p (fun _=>Qm) <|
  pic (i:=k) rfl hal6 rfl rfl hltk fun a34 h34=>?_
 rw[hu] at h34
 have hsr:=y9 (va:=va) (vm:=vm) (a:=a) (hed6.ext (Step.drew [] w6)) s u a.st
 rw[ht] at hsr
 refine pq (fun _ hc=>Qv (h34.ext hc) rfl)<|pk<|xf<|hsr.mono ?_
 rintro r7 w7 ⟨rfl,hs7⟩
 have hs67:=(Step.drew [] w6).trans hs7
 refine ⟨hs67,p (fun _=>Qe)<|pe ?_⟩
 have ho7:=Qt ho6 hs67
 have hI7:=hI6.ext hs67
 refine QV (α:=Unit) [(37,44)] (fun z=>[(44,.bool (decide (0≤t∧t∉out)))]) (fun z w'=>w'=w7) (by rfl) ?_ ?_
 ·refine Qw<|Qb<|xb (ZH rfl rfl) (fun h38=>?_) (fun h38=>?_)
  ·refine Qb<|Qb<|Qb<|xl rfl<|xf<|(Qcm hI7 t).mono ?_
   rintro r8 w8 ⟨rfl,rfl⟩
   refine x (Zo rfl)<|x (Qn rfl)<|xe ?_
   refine ⟨(),⟨congrArg Value.bool ?_,trivial⟩,rfl⟩
   show (!decide (t∈out))=_
   rw[Bool.eq_iff_iff];simp[h38]
  refine Qb<|xs rfl<|xs rfl<|xs rfl<|xs rfl<|x (Qn rfl)<|xe ?_
  exact ⟨(),⟨congrArg Value.bool (decide_eq_false (fun e=>h38 e.1)).symm,trivial⟩,rfl⟩
 rintro _ g9 w9 rfl
 refine QD rfl (fun h44=>?_) (fun h44=>?_)
 ·rw[if_neg h44] at hr6
  refine Qi ?_
  refine Qw<|Qb<|x (Qy rfl rfl ⟨by omega,by omega⟩)<|Qf ?_
  exact ⟨(k+1,out,v),by simp only[];omega,⟨rfl,rfl,trivial⟩,hs6.trans hs67,ho7,hfd,hltk,hlt,hse,hr6⟩
 rw[if_pos h44] at hr6 hok'
 have hs17:=hs6.trans hs67
 have hz7:=hs17.size
 refine Qw<|Qb<|Qb<|xl rfl<|QI (us:=[[.int .i64 t]]) rfl rfl (by decide) (by simp) ⟨rfl,rfl,trivial⟩ fun b47 w10 hs10 hb47 hB47=>?_
 have ho10:=Qt ho7 hs10
 have hz10:=hs10.size
 refine xl rfl<|Q2 (news:=[.int .i64 t]) (L:=[]) ho10 rfl rfl rfl (hB47.at (by simp)) (by simp[Value.oneCell']) (by omega) (by omega) fun v11 w11 ho11 hs11 hn11 =>
  Qf ?_
 have hge:=Qp ho6
 refine Qw<|Qb<|x (Qy rfl rfl ⟨by omega,by omega⟩)<|Qf ?_
 refine ⟨(k+1,out++[t],v11),by simp only[];omega,⟨rfl,rfl,trivial⟩,(hs17.trans hs10).then hs11 (fun b hb=>.inr (hge b hb).1),Qs.snoc ho11,hok',hltk,by simp;omega,?_,hr6⟩
 simp only[]
 rw[U7 hlt];exact hse
structure CrI (w7:World) (b4:Nat) (vcl:Value) (n:Int) (vm vd:Value) (M:LI) (E:List Ed) (w:World):Prop where
 st:Step [b4] w7 w
 B:QS w.heap b4 50 [vcl,.int .i64 n,vm,vd]
 m:Qs 3 w7.heap.size w vm M
 e:ZT 126 w7.heap.size w vd E
 dj:Dj vm vd
section
variable {w7 w w' w'':World} {b4:Nat} {vcl:Value} {n:Int} {vm vd:Value} {M:LI} {E:List Ed}
theorem CrI.ext (h:CrI w7 b4 vcl n vm vd M E w) (hs:Step [] w w'):CrI w7 b4 vcl n vm vd M E w':=⟨h.st.trans hs,h.B.ext hs,Qt h.m hs,Qt h.e hs,h.dj⟩
theorem CrI.setM (h:CrI w7 b4 vcl n vm vd M E w) (hb:b4<w7.heap.size) {vm':Value}{M':LI}(hs:Step (ob vm) w w') (hm:Qs 3 w7.heap.size w' vm' M') (hn:∀b∈ob vm',b∈ob vm∨w.heap.size≤b) (hs2:Step [b4] w' w'')
  (hB:QS w''.heap b4 50 [vcl,.int .i64 n,vm',vd]):CrI w7 b4 vcl n vm' vd M' E w'' :=
 ⟨(h.st.then hs (fun b hb=>.inr (Qp h.m b hb).1)).trans' hs2,hB,Qk hm hs2 (fun b hb'=>by have:=(Qp hm b hb').1;simp;omega),
  Qk (Qk h.e hs h.dj.symm) hs2 (fun b hb'=>by have:=(Qp h.e b hb').1;simp;omega),(h.dj.symm.grow hn (Q0 h.e)).symm⟩
theorem CrI.setE (h:CrI w7 b4 vcl n vm vd M E w) (hb:b4<w7.heap.size) {vd':Value}{E':List Ed}(hs:Step (ob vd) w w') (hm:ZT 126 w7.heap.size w' vd' E') (hn:∀b∈ob vd',b∈ob vd∨w.heap.size≤b) (hs2:Step [b4] w' w'')
  (hB:QS w''.heap b4 50 [vcl,.int .i64 n,vm,vd']):CrI w7 b4 vcl n vm vd' M E' w'' :=
 ⟨(h.st.then hs (fun b hb=>.inr (Qp h.e b hb).1)).trans' hs2,hB,Qk (Qk h.m hs h.dj) hs2 (fun b hb'=>by have:=(Qp h.m b hb').1;simp;omega),
  Qk hm hs2 (fun b hb'=>by have:=(Qp hm b hb').1;simp;omega),h.dj.grow hn (Q0 h.m)⟩
end
theorem zB (a:QM) (fd:LI) (k:Nat):KE a fd (k+1)=if cget fd k∈a.mr then KE a fd k++[(k:Int)] else KE a fd k:=by
 unfold KE
 rw[List.range'_1_concat,List.filter_append,List.map_append,Nat.zero_add]
 by_cases h:cget fd k∈a.mr
 ·rw[if_pos h,List.filter_cons,if_pos (decide_eq_true h)];rfl
 ·rw[if_neg h,List.filter_cons,if_neg (by rw[decide_eq_false h];simp),List.filter_nil,List.map_nil,List.append_nil]
theorem Qah (a:QM) (fd:LI):∀k,(KE a fd k).length≤k
 | 0=>by simp[KE]
 | k+1=>by
  have:=Qah a fd k
  rw[zB]
  split
  ·simp;omega
  ·omega
theorem Qdw (a:QM) (fd:LI) (k:Nat):VH a fd (k+1)=VH a fd k++a.al.filterMap (qK a fd k):=by
 unfold VH
 rw[List.range'_1_concat,List.flatMap_append,Nat.zero_add];simp
set_option maxHeartbeats 2000000 in
theorem qJ {L:LN}{w:World}{va vm ve:Value}{a:QM}(h:Zp L w.heap va vm ve a) (ho:Q4 a) :
  QG Tryz.prog 88 [.agg #[va,.int .i64 a.st,vm,ve]] w fun r w'=>Step [] w w'∧X9 w.heap.size w'.heap r (X6 a):=by
 have h0:=ho.st0
 have h1:=ho.st1
 have hal:=ho.al_le
 have hfo:=(UP ho).1
 have hfl:=hfo.len h0
 refine QG.of_W Tryz.func88 rfl Tryz.ntmps88 Tryz.results88 (by simp) ?_
 refine Zf (found a) fun fd hfd=>?_
 rw[hfd] at hfl
 have hcan:X6 a=⟨a.al,fd.length,KE a fd fd.length,VH a fd fd.length⟩:=by unfold X6;rw[hfd]
 refine Qc<|xl rfl<|QR (us:=[va,.int .i64 a.st,vm,ve]) rfl fun b1 w1 hs1 hb1 hB1=>xl rfl<|Qu (us:=[nS,.int .i64 0,nS,nS]) rfl fun b2 w2 hs2 hb2 hB2=>xe ?_
 have hs12:=hs1.trans hs2
 have hfr:=Qdn (h.ext hs12) ho
 rw[hfd] at hfr
 refine Qc<|x (Qq (hB1.ext hs2) rfl rfl)<|xl rfl<|xf<|hfr.mono ?_
 rintro vf w3 ⟨hs3,hof⟩
 refine Qf ?_
 have hs13:=hs12.trans hs3
 have hB13:=(hB1.ext hs2).ext hs3
 refine Qc<|x (Qa rfl)<|x (Qd hB13 rfl rfl)<|xl rfl<|xf<|(VA (h.al.ext hs13) (by omega)).mono ?_
 rintro r4 w4 ⟨hs4,vcl,rfl,hcl⟩
 have hclA:=Qs.ints (L:=[]) hcl (by omega) (by simp)
 refine xl rfl<|Qu (us:=[nS,.int .i64 0,nS,nS]) rfl fun b4 w5 hs5 hb4 hB4 =>
  xl rfl<|Qo (us:=[vcl,.int .i64 0,nS,nS]) hB4 rfl rfl rfl rfl ⟨hclA.one,rfl,rfl,rfl,trivial⟩ fun w6 hs6 hB6=>xe ?_
 have hs46:Step [] w4 w6:=hs5.then1 hs6 hb4
 have hs36:=hs4.trans hs46
 have hfA3:=Qs.ints (L:=[]) hof (by omega) (by simp)
 have hz1:=hs1.size
 have hz2:=hs2.size
 have hz3:=hs3.size
 have hz4:=hs4.size
 have hz46:=hs46.size
 have hl1:=hB1.lt
 have hl2:=hB2.lt
 have hl4:=hB6.lt
 refine Qc<|Qb<|x (Qr hfA3 rfl)<|x (Qa rfl)<|xl rfl<|QF (u:=.int .i64 fd.length) hB6 rfl rfl (by simp) rfl fun w7 hs7 hB7=>xe ?_
 have hz7:=hs7.size
 have hs37:Step [b4] w3 w7:=(hs36.any (L:=[b4])).trans' hs7
 have hW7:Step [] w w7:=(hs13.trans hs36).then1 hs7 (by omega)
 have hf7:QL [b4] w7.heap vf fd:=((hfA3.up (L':=[b4]) (fun b hb=>.inr (by simp at hb;omega))).ext hs36).st hs7
 have ha7:Zp [b4] w7.heap va vm ve a:=(h.up (fun b hb=>.inr (by simp at hb;omega))).ext hW7
 have hc7:Qs 3 w3.heap.size w7 vcl a.al:=Qk (Qt hcl hs46) hs7 (fun b hb=>by have:=Q0 hcl b hb;simp;omega)
 have hB17:=(hB13.ext hs36).step hs7 (by simp;omega)
 have hB27:=((hB2.ext hs3).ext hs36).step hs7 (by simp;omega)
 have hl7:b4<w7.heap.size:=by omega
 have n1:b1∉[b4]:=by simp;omega
 have n2:b2∉[b4]:=by simp;omega
 refine Qg<|Qc<|Qf ?_
 refine Qh<|QA (α:=Nat×Value×Value) [(5,7),(16,69)] (fun z=>[(5,.int .i64 z.1)])
  (fun z w'=>z.1≤fd.length∧CrI w7 b4 vcl fd.length z.2.1 z.2.2 (KE a fd z.1) (VH a fd z.1) w'∧(VH a fd z.1).length≤z.1*32) (fun z=>fd.length - z.1) (by rfl) (0,nS,nS) ⟨rfl,trivial⟩
  ⟨Nat.zero_le _,⟨Step.refl _ _,hB7,QP _ _ _ _,QP _ _ _ _,Dj.nil' _⟩,Nat.zero_le _⟩ ?_
 rintro ⟨i,v1,v2⟩ g8 w8 ⟨hi,hI,hel⟩
 simp only[] at hi hI hel
 have hml:=Qah a fd i
 have hf8:=hf7.st hI.st
 refine Qg<|Qc<|Qb<|Qb<|x (Qr hf8 rfl)<|x (QB rfl rfl)<|xe ?_
 refine QD rfl (fun h19=>?_) (fun h19=>?_)
 ·have hie:i=fd.length:=by omega
  rw[hie] at hI hel hml
  refine Qz ?_
  have hmA:=Qs.ints (L:=[]) hI.m (by omega) (by simp)
  have heA:=ZT.eds (L:=[]) hI.e (by omega) (by simp)
  refine Qc<|x (Qq hI.B rfl rfl)<|xl rfl<|Qo (us:=[vcl,.int .i64 fd.length,v1,v2]) (hB27.step hI.st n2) rfl rfl rfl rfl ⟨hclA.one,rfl,hmA.one,heA.one,trivial⟩ fun w9 hs9 hB9=>xe ?_
  refine Ql ⟨[.agg #[vcl,.int .i64 fd.length,v1,v2]],⟨⟨_,rfl,Qx rfl (hB9.at (L:=[]) (by simp)).cells⟩,trivial⟩,(hW7.then1 hI.st (by omega)).then1 hs9 (by omega),?_⟩
  rw[hcan]
  have k1:=Qk (Qk hc7 hI.st (fun b hb=>by have:=Q0 hcl b hb;simp;omega)) hs9 (fun b hb=>by have:=(Qp hcl b hb).1;simp;omega)
  have k2:=Qk hI.m hs9 (fun b hb=>by have:=(Qp hI.m b hb).1;simp;omega)
  have k3:=Qk hI.e hs9 (fun b hb=>by have:=(Qp hI.e b hb).1;simp;omega)
  refine ⟨vcl,v1,v2,rfl,fun L' hL'=>⟨?_,?_,?_⟩⟩
  ·exact Qs.ints k1 (by show a.al.length≤_;omega) (fun b hb=>by have:=hL' b hb;omega)
  ·exact Qs.ints k2 (by show (KE a fd fd.length).length≤_;omega) (fun b hb=>by have:=hL' b hb;omega)
  ·exact ZT.eds k3 (by show (VH a fd fd.length).length≤_;omega) (fun b hb=>by have:=hL' b hb;omega)
 have hlt:i<fd.length:=by omega
 refine Zf (cget fd i) fun s hse=>?_
 have hms:=zB a fd i
 rw[hse] at hms
 refine Qi ?_
 refine Qg<|Qh<|QV (α:=Value) [(22,34)] (fun z=>[]) (fun z w'=>CrI w7 b4 vcl fd.length z v2 (KE a fd (i+1)) (VH a fd i) w') (by rfl) ?_ ?_
 ·have ha8:=ha7.st hI.st
  have hB18:=hB17.step hI.st n1
  refine Qg<|QT (Step [] w8) [(0,true),(1,true),(2,true),(3,true),(4,true),(5,true),(6,false)] Tryz.mixed (by rfl) (by kernel_rfl) (Step.drew _ _) ?_
  refine p (fun _=>Qa rfl)<|pq (fun _ hc=>Qd (hB18.ext hc) rfl rfl)<|p (fun _=>Qm)<|p (fun _=>Qm)<|pic (i:=i) rfl hf8 rfl rfl hlt fun a26 h26=>?_
  rw[hse] at h26
  refine pq (fun _ hc=>Qv (h26.ext hc) rfl)<|pk<|xf<|(Qcm (ha8.mr.ext (Step.drew [] w8)) s).mono ?_
  rintro r10 w10 ⟨rfl,rfl⟩
  have hI10:=hI.ext (Step.drew [] w8)
  refine ⟨Step.drew _ _,pe ?_⟩
  refine QD rfl (fun h28=>?_) (fun h28=>?_)
  ·rw[if_neg h28] at hms
   refine Qi ?_
   exact ⟨v1,trivial,by rw[hms];exact hI10⟩
  rw[if_pos h28] at hms
  refine Qw<|x (Qa rfl)<|x (Qd hI10.B rfl rfl)<|Qb<|xl rfl<|QI (us:=[[.int .i64 i]]) rfl rfl (by decide) (by simp) ⟨rfl,rfl,trivial⟩ fun b32 w11 hs11 hb32 hB32=>?_
  have hI11:=hI10.ext hs11
  refine xl rfl<|Q2 (news:=[.int .i64 i]) (L:=[]) hI11.m rfl rfl rfl (hB32.at (by simp)) (by simp[Value.oneCell']) (by omega) hI11.st.size fun v12 w12 ho12 hs12 hn12=>?_
  have ho12':Qs 3 w7.heap.size w12 v12 (KE a fd i++[(i:Int)]):=Qs.snoc ho12
  refine x (Qa rfl)<|xl rfl<|QF (hI11.B.step hs12 (QY hI11.m hl7)) rfl rfl (by simp) (Qs.ints (L:=[]) ho12' (by simp;omega) (by simp)).one fun w13 hs13' hB13' =>
   xe ?_
  exact ⟨v12,trivial,by rw[hms];exact hI11.setM hl7 hs12 ho12' hn12 hs13' hB13'⟩
 rintro v3 g14 w14 hI14
 refine Zf (VH a fd (i+1)) fun E1 hE1=>?_
 have hE1':=Qdw a fd i
 rw[hE1] at hE1'
 refine Qc<|Qf ?_
 refine Qh<|QA (α:=Nat×List Ed×Value) [(6,7),(35,69)] (fun z=>[(6,.int .i64 z.1)])
  (fun z w'=>z.1≤a.al.length∧CrI w7 b4 vcl fd.length v3 z.2.2 (KE a fd (i+1)) z.2.1 w'∧z.2.1.length≤i*32+z.1∧z.2.1++(a.al.drop z.1).filterMap (qK a fd i)=E1) (fun z=>a.al.length - z.1) (by rfl) (0,VH a fd i,v2) ⟨rfl,trivial⟩
  ⟨Nat.zero_le _,hI14,hel,hE1'.symm⟩ ?_
 rintro ⟨k,E,vd⟩ g15 w15 ⟨hk,hI15,hl15,hr15⟩
 simp only[] at hk hI15 hl15 hr15
 have ha15:=ha7.st hI15.st
 have hB115:=hB17.step hI15.st n1
 have hf15:=hf7.st hI15.st
 refine Qg<|Qc<|Qb<|x (Qa rfl)<|x (Qd hB115 rfl rfl)<|x (Qr ha15.al rfl)<|x (QB rfl rfl)<|xe ?_
 refine QD rfl (fun h39=>?_) (fun h39=>?_)
 ·refine Qz ?_
  refine Qw<|Qb<|x (Qy rfl rfl ⟨by omega,by omega⟩)<|Qf ?_
  rw[List.drop_of_length_le (by omega),List.filterMap_nil,List.append_nil] at hr15
  refine ⟨(i+1,v3,vd),by simp only[];omega,⟨rfl,trivial⟩,hlt,?_,?_⟩
  ·simp only[];rw[hE1,←hr15];exact hI15
  ·simp only[];rw[hE1,←hr15];omega
 have hltk:k<a.al.length:=by omega
 refine Zf (cget a.al k) fun u hu=>?_
 rw[List.drop_eq_getElem_cons hltk,Zl hltk,hu,List.filterMap_cons] at hr15
 refine Zf (nxt a.ed s u) fun t ht=>?_
 have hcf:qK a fd i u=if 0≤t then some ((i:Int),u,ixR fd t) else none:=by unfold qK;rw[hse,ht]
 rw[hcf] at hr15
 have hsr:=y9 (va:=va) (vm:=vm) (a:=a) (ha15.ed.ext (Step.drew [] w15)) s u a.st
 rw[ht] at hsr
 refine Qi ?_
 refine Qg<|Qh<|Qg<|QT (Step [] w15) [(0,true),(1,true),(2,true),(3,true),(4,true),(5,true),(6,true),(7,true),(8,true),(9,true),(10,false),(11,true)] Tryz.mixed (by rfl) (by kernel_rfl) (Step.drew _ _) ?_
 refine pq (fun _ hc=>Qq (hB115.ext hc) rfl rfl)<|p (fun _=>Qm)<|p (fun _=>Qm)<|pic (i:=i) rfl hf15 rfl rfl hlt fun a45 h45=>?_
 rw[hse] at h45
 refine pq (fun _ hc=>Qv (h45.ext hc) rfl)<|p (fun _=>Qa rfl)<|pq (fun _ hc=>Qd (hB115.ext hc) rfl rfl)<|p (fun _=>Qm) <|
  pic (i:=k) rfl ha15.al rfl rfl hltk fun a50 h50=>?_
 rw[hu] at h50
 refine pq (fun _ hc=>Qv (h50.ext hc) rfl)<|pk<|xf<|hsr.mono ?_
 rintro r16 w16 ⟨rfl,hs16⟩
 have hs1516:=(Step.drew [] w15).trans hs16
 refine ⟨hs1516,p (fun _=>Qe)<|pe ?_⟩
 have hI16:=hI15.ext hs1516
 have hB116:=hB115.ext hs1516
 have hf16:=hf15.ext hs1516
 refine Qc<|Qb<|x (ZH rfl rfl)<|xe ?_
 refine QD rfl (fun h54=>?_) (fun h54=>?_)
 ·rw[if_neg h54] at hr15
  refine Qi ?_
  refine Qw<|Qb<|x (Qy rfl rfl ⟨by omega,by omega⟩)<|Qf ?_
  exact ⟨(k+1,E,vd),by simp only[];omega,⟨rfl,trivial⟩,hltk,hI16,by simp only[];omega,hr15⟩
 rw[if_pos h54] at hr15
 have hvd:=Qp hI15.e
 have haD:QL (b4::ob vd) w16.heap va a.al:=(((ha7.al.up (L':=b4::ob vd) (fun b hb=>by
  rcases List.mem_cons.1 hb with rfl | hb
  ·exact .inl (by simp)
  ·exact .inr (hvd b hb).1)).step hI15.st (by simp)).ext hs1516)
 have nb4:=QY hI16.e hl7
 have nb1:b1∉ob vd:=QY hI16.e (by omega)
 refine QT (Step (ob vd) w16) [(0,true),(1,true),(2,true),(3,true),(4,true),(5,true),(6,true),(7,true),(8,true),(9,true),(10,false),(11,true),(12,false),(13,false),(14,true),(15,false)] Tryz.mixed (by rfl) (by kernel_rfl) (Step.drew _ _) ?_
 refine p (fun _=>Qa rfl)<|pq (fun _ hc=>Qd (hI16.B.step hc nb4) rfl rfl)<|p (fun _=>Qm)<|p (fun _=>Qa rfl)<|pq (fun _ hc=>Qd (hB116.step hc nb1) rfl rfl) <|
  p (fun _=>Qm)<|pic (i:=k) rfl haD rfl rfl hltk fun a61 h61=>?_
 rw[hu] at h61
 refine pq (fun _ hc=>Qv (h61.step hc (fun b hb=>List.mem_cons_of_mem _ hb)) rfl)<|p (fun _=>Qm)<|p (fun _=>Qm) <|
  pk<|xf<|(Qdl (hf16.ext (Step.drew [] w16)) t).mono ?_
 rintro r17 w17 ⟨rfl,rfl⟩
 refine ⟨Step.drew _ _,p (fun _=>QN ⟨rfl,rfl,rfl,trivial⟩)<|pk<|QI (us:=[QC ((i:Int),u,ixR fd t)]) rfl rfl (by decide) (by exact (by decide:1*3≤1000000)) ⟨rfl,rfl,trivial⟩ fun b67 w18 hs18 hb67 hB67=>?_⟩
 have hs1618:=(Step.drew [] w16).trans hs18
 have hI18:=hI16.ext hs1618
 refine ⟨hs1618.any,?_⟩
 refine pk<|Q2 (news:=QC ((i:Int),u,ixR fd t)) (L:=[]) hI18.e rfl rfl rfl (hB67.at (by simp)) (fun y hy=>by simp only[QC,List.mem_cons,List.not_mem_nil,or_false] at hy;rcases hy with rfl | rfl | rfl <;> rfl) (by omega) hI18.st.size fun v19 w19 ho19 hs19 hn19=>⟨(hs1618.any (L:=ob vd)).trans' hs19,?_⟩
 have ho19':ZT 126 w7.heap.size w19 v19 (E++[((i:Int),u,ixR fd t)]):=ZT.snoc ho19
 refine p (fun _=>Qa rfl)<|pkl (hl:=by kernel_rfl)<|QF (hI18.B.step hs19 (QY hI18.e hl7)) rfl rfl (by simp) (ZT.eds (L:=[]) ho19' (by simp;omega) (by simp)).one fun w20 hs20 hB20 =>
  pe ?_
 have hI20:=hI18.setE hl7 hs19 ho19' hn19 hs20 hB20
 refine Qw<|Qb<|x (Qy rfl rfl ⟨by omega,by omega⟩)<|Qf ?_
 refine ⟨(k+1,E++[((i:Int),u,ixR fd t)],v19),by simp only[];omega,⟨rfl,trivial⟩,hltk,hI20,by simp;omega,?_⟩
 simp only[List.append_assoc,List.singleton_append]
 exact hr15
end Go.Proofs.YtgmifemhkjdblaaGreatDoor
namespace Go.Lg
section
variable {P:Program} {f:Fr} {w:World} {d:Option Nat} {ty:Nat} {ps:String} {af:Array Edge} {gd:Option (Nat×Bool)}
theorem Uu {t t':Nat}{x y:Operand}{k:IntKind}{a b:Int}(hx:ev f x=.int k a) (hy:ev f y=.int k b) (ha:0≤a) (hb:0<b) :
  (execOp (ev f) ⟨d,.binOp .rem t x y t',ty,ps,af,gd⟩).run P w=.ok (.value (.int k (a % b))) w:=by
 refine Y7 hx hy ?_
 have h1:¬b=0:=by omega
 simp[binOp,Op.intDiv,h1,Int.tmod_eq_emod_of_nonneg ha]
end
end Go.Lg
namespace Go.Proofs.YtgmifemhkjdblaaGreatDoor
open Go.Lg
theorem Qbh (m:Nat) (hm:m<256) (w:World):QG Tryz.prog 38 [.int .u8 m] w fun r w'=>Step [] w w'∧Qs 3 w.heap.size w' r (setK m 5):=by
 refine QG.of_W Tryz.func38 rfl Tryz.ntmps38 Tryz.results38 (by simp) ?_
 refine Qc<|Qf ?_
 refine Qc<|Qf ?_
 refine Qg<|Qc<|Qf ?_
 refine Qh<|QA (α:=Nat×Value) [(3,17)] (fun z=>[(3,z.2),(4,.int .i64 z.1)]) (fun z w'=>z.1≤5∧Step [] w w'∧Qs 3 w.heap.size w' z.2 (setK m z.1)) (fun z=>5 - z.1) (by rfl) (0,nS) ⟨rfl,rfl,trivial⟩
  ⟨Nat.zero_le _,Step.refl _ _,QP _ _ _ _⟩ ?_
 rintro ⟨k,v⟩ g w1 ⟨hk,hs1,ho1⟩
 simp only[] at hk ho1
 have hlen:=Xm m k
 have hz1:=hs1.size
 refine Qg<|Qc<|Qb<|x (QB rfl rfl)<|xe ?_
 refine QD rfl (fun h6=>?_) (fun h6=>?_)
 ·refine Qz ?_
  refine Qc<|Qb<|Qf ?_
  have hke:k=5:=by omega
  rw[hke] at ho1
  exact Ql ⟨[v],⟨rfl,trivial⟩,hs1,ho1⟩
 have hlt:k<5:=by omega
 have hdv:m / 2 ^ k<256:=Nat.lt_of_le_of_lt (Nat.div_le_self _ _) hm
 have hsucc:=Vr m k
 refine Qi ?_
 refine Qg<|Qh<|Qc<|Qb<|Qb<|x (Ut (n:=k) rfl rfl (by show k≤8;omega))<|x (Qa0 (a:=m / 2 ^ k) (b:=1) (congrArg (Value.int .u8) (V3 m k)) rfl hdv (by decide))<|x (Zm rfl rfl)<|xe ?_
 refine QD rfl (fun h12=>?_) (fun h12=>?_)
 ·rw[if_neg (fun e=>h12 (by rw[e];rfl))] at hsucc
  refine Qi ?_
  refine Qw<|Qb<|x (Qy rfl rfl ⟨by omega,by omega⟩)<|Qf ?_
  exact ⟨(k+1,v),by simp only[];omega,⟨rfl,rfl,trivial⟩,hlt,hs1,by simp only[];rw[hsucc];exact ho1⟩
 rw[if_pos (by omega)] at hsucc
 refine Qw<|Qb<|Qb<|xl rfl<|QI (us:=[[.int .i64 k]]) rfl rfl (by decide) (by simp) ⟨rfl,rfl,trivial⟩ fun b15 w2 hs2 hb15 hB15=>?_
 have ho2:=Qt ho1 hs2
 have hz2:=hs2.size
 refine xl rfl<|Q2 (news:=[.int .i64 k]) (L:=[]) ho2 rfl rfl rfl (hB15.at (by simp)) (by simp[Value.oneCell']) (by omega) (by omega) fun v3 w3 ho3 hs3 hn3 =>
  Qf ?_
 have hge:=Qp ho1
 refine Qw<|Qb<|x (Qy rfl rfl ⟨by omega,by omega⟩)<|Qf ?_
 refine ⟨(k+1,v3),by simp only[];omega,⟨rfl,rfl,trivial⟩,hlt,(hs1.trans hs2).then hs3 (fun b hb=>.inr (hge b hb).1),?_⟩
 simp only[]
 rw[hsucc];exact Qs.snoc ho3
instance:Ay Tryz.prog 23 5 22 5:=⟨by kernel_rfl,by kernel_rfl⟩
instance:Ay Tryz.prog 22 5 5 1:=⟨by kernel_rfl,by kernel_rfl⟩
abbrev bys (ns:LN):LV:=ns.map fun n:Nat=>.int .u8 (n:Int)
theorem VI {ns:LN}{j:Nat}(h:j<ns.length):(bys ns)[j]?=some (.int .u8 ((ns.getD j 0:Nat):Int)):=by simp[bys,List.getD,h]
theorem qa:∀(ns:LN),ZB (bys ns)
 | []=>trivial
 | _::ns=>⟨rfl,qa ns⟩
theorem J7 {ns:LN}(h:∀n∈ns,n<256) (j:Nat):ns.getD j 0<256:=by
 by_cases hj:j<ns.length
 ·simp only[List.getD,List.getElem?_eq_getElem hj,Option.getD_some];exact h _ (List.getElem_mem hj)
 ·simp[List.getD,hj]
structure GrI (al:LI) (S i k:Nat) (M:LI) (E:List Ed):Prop where
 mb:∀x∈M,0≤x∧x<S
 mi:Yu M
 ml:∀x∈M,x<(i:Int)+1
 mn:M.length≤S
 eb:∀e∈E,0≤e.1∧e.1<S∧e.2.1∈al∧0≤e.2.2∧e.2.2<S
 ei:E.Pairwise fun x y=>x.1<y.1∨(x.1=y.1∧x.2.1<y.2.1)
 el:∀e∈E,e.1<i∨(e.1=i∧e.2.1∈al.take k)
 en:E.length≤i*5+k
theorem yu {S:Nat}{M:LI}(hb:∀x∈M,0≤x∧x<S) (hi:Yu M):M.length≤S:=pig S M (hi.imp (fun h=>by omega)) hb
theorem GrI.mark {al:LI}{S i:Nat}{M:LI}{E:List Ed}(h:GrI al S i 0 M E) (hm:∀x∈M,x<(i:Int)) (hi:i<S):GrI al S i 0 (M++[(i:Int)]) E:=by
 have hmb:∀x∈M++[(i:Int)],0≤x∧x<S:=fun x hx=>by
  rcases List.mem_append.1 hx with hx | hx
  ·exact h.mb x hx
  ·simp only[List.mem_singleton] at hx;omega
 have hmi:Yu (M++[(i:Int)]):=by
  refine List.pairwise_append.2 ⟨h.mi,by simp,fun x hx y hy=>?_⟩
  simp only[List.mem_singleton] at hy
  subst hy;exact hm x hx
 refine ⟨hmb,hmi,fun x hx=>?_,yu hmb hmi,h.eb,h.ei,h.el,h.en⟩
 rcases List.mem_append.1 hx with hx | hx
 ·have:=hm x hx;omega
 ·simp only[List.mem_singleton] at hx;omega
theorem GrI.skip {al:LI}{S i k:Nat}{M:LI}{E:List Ed}(h:GrI al S i k M E) (hk:k<al.length):GrI al S i (k+1) M E :=
 ⟨h.mb,h.mi,h.ml,h.mn,h.eb,h.ei,fun e he=>(h.el e he).imp id (fun x=>⟨x.1,by rw[List.take_succ_eq_append_getElem hk];exact List.mem_append_left _ x.2⟩),by have:=h.en;omega⟩
theorem GrI.edge {al:LI}{S i k:Nat}{M:LI}{E:List Ed}(h:GrI al S i k M E) (hk:k<al.length) (ha:Yu al) (hi:i<S) {t:Int}(h0:0≤t) (ht:t<S):GrI al S i (k+1) M (E++[((i:Int),cget al k,t)]):=by
 have hmem:cget al k∈al:=Xs hk
 refine ⟨h.mb,h.mi,h.ml,h.mn,fun e he=>?_,?_,fun e he=>?_,by have:=h.en;simp;omega⟩
 ·rcases List.mem_append.1 he with he | he
  ·exact h.eb e he
  ·simp only[List.mem_singleton] at he;subst he;exact ⟨by simp only[];omega,by simp only[];omega,hmem,h0,ht⟩
 ·refine List.pairwise_append.2 ⟨h.ei,by simp,fun x hx y hy=>?_⟩
  simp only[List.mem_singleton] at hy
  subst hy
  rcases h.el x hx with h1 | ⟨h1,h2⟩
  ·left;exact h1
  ·right
   refine ⟨h1,?_⟩
   simp only[]
   have hp:Yu (al.take k++al.drop k):=by rw[List.take_append_drop];exact ha
   refine (List.pairwise_append.1 hp).2.2 _ h2 _ ?_
   rw[List.drop_eq_getElem_cons hk,Zl hk];exact List.mem_cons_self
 ·rw[List.take_succ_eq_append_getElem hk,Zl hk]
  rcases List.mem_append.1 he with he | he
  ·exact (h.el e he).imp id (fun x=>⟨x.1,List.mem_append_left _ x.2⟩)
  ·simp only[List.mem_singleton] at he;subst he;exact .inr ⟨rfl,List.mem_append_right _ (by simp)⟩
theorem GrI.next {al:LI}{S i k:Nat}{M:LI}{E:List Ed}(h:GrI al S i k M E) (hk:k≤5):GrI al S (i+1) 0 M E :=
 ⟨h.mb,h.mi,fun x hx=>by have:=h.ml x hx;omega,h.mn,h.eb,h.ei,fun e he=>by rcases h.el e he with h1 | h1 <;> (left;omega),by have:=h.en;omega⟩
set_option maxHeartbeats 2000000 in
theorem zf {L:LN}{w:World}{v:Value}{al:LI}{ns:LN}(h:QL L w.heap v al) (hb:∀e∈al,0≤e∧e<32) (hi:Yu al) (hn:ns.length=27) (hns:∀n∈ns,n<256) :
  QG Tryz.prog 36 [v,.agg (bys ns).toArray] w fun r w'=>Step [] w w'∧∃a:QM,X9 w.heap.size w'.heap r a∧Q4 a∧a.st≤5∧a.al=al ∧
   (ns.getD 0 0<250→∃a0:QM,Q4 a0∧0<a0.st∧a0.st≤((1+ns.getD 0 0 % 5:Nat):Int)∧a=X6 a0):=by
 have hall:al.length≤32:=pig 32 al (hi.imp (fun h=>by omega)) (fun x hx=>by have:=hb x hx;omega)
 refine QG.of_W Tryz.func36 rfl Tryz.ntmps36 Tryz.results36 (by simp) ?_
 have g0:=VI (ns:=ns) (j:=0) (by omega)
 have g1:=VI (ns:=ns) (j:=1) (by omega)
 have l0:=J7 hns 0
 have l1:=J7 hns 1
 refine Zf (ns.getD 0 0) fun s0 hs0=>?_
 refine Zf (ns.getD 1 0) fun m1 hm1=>?_
 rw[hs0] at g0 l0
 rw[hm1] at g1 l1
 refine Qc<|xl rfl<|QR (us:=bys ns) rfl fun b3 w1 hs1 hb3 hB3=>xl rfl<|Qu (us:=[nS,.int .i64 0,nS,nS]) rfl fun b4 w2 hs2 hb4 hB4=>xe ?_
 have hs12:=hs1.trans hs2
 have hB32:=hB3.ext hs2
 have hz1:=hs1.size
 have hz2:=hs2.size
 have hl3:=hB3.lt
 have hl4:=hB4.lt
 refine Qg<|Qc<|x (Qa rfl)<|x (Qd hB32 rfl g0)<|x (ZH rfl rfl)<|xe ?_
 refine Q3 rfl (fun h11=>?_) (fun h11=>?_)
 ·refine Qc<|Qb<|xl rfl<|xf<|(VA (h.ext hs12) (by omega)).mono ?_
  rintro r3 w3 ⟨hs3,vcl,rfl,hcl⟩
  have hclA:=Qs.ints (L:=[]) hcl (by omega) (by simp)
  refine xl rfl<|Qo (us:=[vcl,.int .i64 0,nS,nS]) (hB4.ext hs3) rfl rfl rfl rfl ⟨hclA.one,rfl,rfl,rfl,trivial⟩ fun w4 hs4 hB4'=>xe ?_
  have hcl4:=Qk hcl hs4 (fun b hb=>by have:=(Qp hcl b hb).1;simp;omega)
  refine Ql ⟨[.agg #[vcl,.int .i64 0,nS,nS]],⟨⟨_,rfl,Qx rfl (hB4'.at (L:=[]) (by simp)).cells⟩,trivial⟩,(hs12.trans hs3).then1 hs4 (by omega),⟨al,0,[],[]⟩,?_,?_,(by decide:(0:Int)≤5),rfl,fun h=>absurd h (by omega)⟩
  ·exact ⟨vcl,_,_,rfl,fun L' hL'=>⟨Qs.ints hcl4 (by show al.length≤_;omega) (fun b hb=>by have:=hL' b hb;omega),Zs.nil _ _ _,Zs.nil _ _ _⟩⟩
  ·exact ⟨hb,hi,(by decide:(0:Int)≤0),(by decide:(0:Int)≤4096),by simp,by simp,by simp,by simp⟩
 refine Qi ?_
 refine Qc<|Qb<|xl rfl<|xf<|(VA (h.ext hs12) (by omega)).mono ?_
 rintro r5 w5 ⟨hs5,vcl,rfl,hcl⟩
 have hclA:=Qs.ints (L:=[]) hcl (by omega) (by simp)
 refine xl rfl<|Qu (us:=[nS,.int .i64 0,nS,nS]) rfl fun b5 w6 hs6 hb5 hB5 =>
  xl rfl<|Qo (us:=[vcl,.int .i64 0,nS,nS]) hB5 rfl rfl rfl rfl ⟨hclA.one,rfl,rfl,rfl,trivial⟩ fun w7 hs7 hB7=>xe ?_
 have hs57:Step [] w5 w7:=hs6.then1 hs7 hb5
 have hs27:=hs5.trans hs57
 have hz5:=hs5.size
 have hz57:=hs57.size
 have hl5:=hB7.lt
 refine Zf (1+s0 % 5) fun S hS=>?_
 have hS1:1≤S∧S≤5:=by omega
 have hSe:(1:Int)+(s0:Int) % 5=(S:Int):=by omega
 refine Qc<|x (Qa rfl)<|x (Qd (hB32.ext hs27) rfl g0)<|x (Uu (a:=(s0:Int)) (b:=5) rfl rfl (by omega) (by omega))<|x (YU (k':=.i64) rfl ⟨by omega,by omega⟩)<|x (Qy rfl rfl ⟨by omega,by omega⟩)<|x (Qa rfl) <|
  xl rfl<|QF (u:=.int .i64 S) hB7 rfl (congrArg (Value.int .i64) hSe) (by simp) rfl fun w8 hs8 hB8=>xe ?_
 have hz8:=hs8.size
 have hs28:Step [b5] w2 w8:=(hs27.any (L:=[b5])).trans' hs8
 have hW8:Step [] w w8:=(hs12.trans hs27).then1 hs8 (by omega)
 have hal8:QL [b5] w8.heap v al:=(h.up (L':=[b5]) (fun b hb=>.inr (by simp at hb;omega))).ext hW8
 have hc8:Qs 3 w2.heap.size w8 vcl al:=Qk (Qt hcl hs57) hs8 (fun b hb=>by have:=Q0 hcl b hb;simp;omega)
 have hB38:=(hB32.ext hs27).step hs8 (by simp;omega)
 have hB48:=(hB4.ext hs27).step hs8 (by simp;omega)
 have hl8:b5<w8.heap.size:=by omega
 have n3:b3∉[b5]:=by simp;omega
 have n4:b4∉[b5]:=by simp;omega
 refine Qg<|Qc<|Qf ?_
 refine Qh<|QA (α:=Nat×Value×Value×LI×List Ed) [(6,8),(22,76)] (fun z=>[(6,.int .i64 z.1)])
  (fun z w'=>z.1≤S∧CrI w8 b5 vcl S z.2.1 z.2.2.1 z.2.2.2.1 z.2.2.2.2 w'∧GrI al S z.1 0 z.2.2.2.1 z.2.2.2.2∧∀x∈z.2.2.2.1,x<(z.1:Int)) (fun z=>S - z.1) (by rfl) (0,nS,nS,[],[]) ⟨rfl,trivial⟩
  ⟨Nat.zero_le _,⟨Step.refl _ _,hB8,QP _ _ _ _,QP _ _ _ _,Dj.nil' _⟩,⟨by simp,by simp,by simp,by simp,by simp,by simp,by simp,by simp⟩,by simp⟩ ?_
 rintro ⟨i,v1,v2,M,E⟩ g9 w9 ⟨hi9,hI,hG,hM⟩
 simp only[] at hi9 hI hG hM
 have hmn:=hG.mn
 have hen:=hG.en
 refine Qg<|Qc<|Qb<|x (Qa rfl)<|x (Qd hI.B rfl rfl)<|x (QB rfl rfl)<|xe ?_
 refine QD rfl (fun h25=>?_) (fun h25=>?_)
 ·have hie:i=S:=by omega
  refine Qz ?_
  have hmA:=Qs.ints (L:=[]) hI.m (by omega) (by simp)
  have heA:=ZT.eds (L:=[]) hI.e (by omega) (by simp)
  have hc9:Qs 3 w2.heap.size w9 vcl al:=Qk hc8 hI.st (fun b hb=>by have:=Q0 hcl b hb;simp;omega)
  have hA9:Zp [] w9.heap vcl v1 v2 ⟨al,(S:Int),M,E⟩:=⟨Qs.ints hc9 (by show al.length≤_;omega) (by simp),hmA,heA⟩
  have hok:Q4 ⟨al,(S:Int),M,E⟩:=⟨hb,hi,by simp only[];omega,by simp only[];omega,hG.mb,hG.mi,hG.eb,hG.ei⟩
  have hcan:=QcC hok
  have hW9:Step [] w w9:=hW8.then1 hI.st (by omega)
  have hB49:=hB48.step hI.st n4
  have hz9:=hI.st.size
  refine Qc<|x (Qq hI.B rfl rfl)<|xl rfl<|xf<|(qJ (a:=⟨al,(S:Int),M,E⟩) hA9 hok).mono ?_
  rintro vr w10 ⟨hs10,hF⟩
  obtain ⟨us,hva,husl,hus⟩:=Jn hF
  refine xl rfl<|Qo (us:=us) (hB49.ext hs10) rfl hva husl rfl hus fun w11 hs11 hB11=>xe ?_
  have hzW:=hW9.size
  refine Ql ⟨[.agg us.toArray],⟨⟨_,rfl,Qx husl (hB11.at (L:=[]) (by simp)).cells⟩,trivial⟩,(hW9.trans hs10).then1 hs11 (by omega),X6 ⟨al,(S:Int),M,E⟩,?_,hcan.1,?_,hcan.2.1,fun _=>⟨⟨al,(S:Int),M,E⟩,hok,by simp only[];omega,by simp only[];omega,rfl⟩⟩
  ·show X9 _ _ (.agg us.toArray) _
   rw[←hva]
   exact (Vl hF (by omega) hs11).mono hzW
  ·have:=hcan.2.2
   simp only[] at this
   omega
 have hlt:i<S:=by omega
 refine Qi ?_
 refine Qg<|Qh<|QV (α:=Value×LI) [(28,39)] (fun z=>[]) (fun z w'=>CrI w8 b5 vcl S z.1 v2 z.2 E w'∧GrI al S i 0 z.2 E) (by rfl) ?_ ?_
 ·have hdv:m1 / 2 ^ i<256:=Nat.lt_of_le_of_lt (Nat.div_le_self _ _) l1
  refine Qc<|x (Qa rfl)<|x (Qd (hB38.step hI.st n3) rfl g1)<|Qb<|x (Ut (n:=i) rfl rfl (by show i≤8;omega))<|x (Qa0 (a:=m1 / 2 ^ i) (b:=1) (congrArg (Value.int .u8) (V3 m1 i)) rfl hdv (by decide))<|x (Zm rfl rfl)<|xe ?_
  refine QD rfl (fun h33=>?_) (fun h33=>?_)
  ·refine Qi ?_
   exact ⟨(v1,M),trivial,hI,hG⟩
  refine Qw<|x (Qa rfl)<|x (Qd hI.B rfl rfl)<|Qb<|xl rfl<|QI (us:=[[.int .i64 i]]) rfl rfl (by decide) (by simp) ⟨rfl,rfl,trivial⟩ fun b37 w12 hs12' hb37 hB37=>?_
  have hI12:=hI.ext hs12'
  refine xl rfl<|Q2 (news:=[.int .i64 i]) (L:=[]) hI12.m rfl rfl rfl (hB37.at (by simp)) (by simp[Value.oneCell']) (by omega) hI12.st.size fun v13 w13 ho13 hs13 hn13=>?_
  have ho13':Qs 3 w8.heap.size w13 v13 (M++[(i:Int)]):=Qs.snoc ho13
  refine x (Qa rfl)<|xl rfl<|QF (hI12.B.step hs13 (QY hI12.m hl8)) rfl rfl (by simp) (Qs.ints (L:=[]) ho13' (by simp;omega) (by simp)).one fun w14 hs14 hB14 =>
   xe ?_
  exact ⟨(v13,M++[(i:Int)]),trivial,hI12.setM hl8 hs13 ho13' hn13 hs14 hB14,hG.mark hM hlt⟩
 rintro ⟨v3,M3⟩ g15 w15 ⟨hI15,hG15⟩
 simp only[] at hI15 hG15
 refine Qc<|Qf ?_
 refine Qh<|QA (α:=Nat×Value×List Ed) [(7,8),(40,76)] (fun z=>[(7,.int .i64 z.1)])
  (fun z w'=>z.1≤al.length∧z.1≤5∧CrI w8 b5 vcl S v3 z.2.1 M3 z.2.2 w'∧GrI al S i z.1 M3 z.2.2) (fun z=>5 - z.1) (by rfl) (0,v2,E) ⟨rfl,trivial⟩
  ⟨Nat.zero_le _,Nat.zero_le _,hI15,hG15⟩ ?_
 rintro ⟨k,vd,F⟩ g16 w16 ⟨hk,hk5,hI16,hG16⟩
 simp only[] at hk hk5 hI16 hG16
 have hal16:=hal8.st hI16.st
 have hfn:=hG16.en
 refine Qg<|QV (α:=Unit) [(40,47)] (fun z=>[(47,.bool (decide (k<al.length∧k<5)))]) (fun z w'=>w'=w16) (by rfl) ?_ ?_
 ·refine Qw<|Qb<|Qb<|x (Qr hal16 rfl)<|xb (QB rfl rfl) (fun h43=>?_) (fun h43=>?_)
  ·refine Qb<|Qb<|x (QB rfl rfl)<|x (Qn rfl)<|xe ?_
   refine ⟨(),⟨congrArg Value.bool ?_,trivial⟩,rfl⟩
   exact decide_eq_decide.2 ⟨fun e=>⟨by omega,by omega⟩,fun e=>by omega⟩
  refine Qb<|xs rfl<|xs rfl<|x (Qn rfl)<|xe ?_
  exact ⟨(),⟨congrArg Value.bool (decide_eq_false (fun e=>h43 (by omega))).symm,trivial⟩,rfl⟩
 rintro _ g17 w17 rfl
 refine QD rfl (fun h47=>?_) (fun h47=>?_)
 ·refine Qz ?_
  refine Qw<|Qb<|x (Qy rfl rfl ⟨by omega,by omega⟩)<|Qf ?_
  exact ⟨(i+1,v3,vd,M3,F),by simp only[];omega,⟨rfl,trivial⟩,hlt,hI16,hG16.next hk5,fun x hx=>by have:=hG16.ml x hx;simp only[];omega⟩
 have hk1:k<al.length:=h47.1
 have hk2:k<5:=h47.2
 have gj:=VI (ns:=ns) (j:=0+2+i*5+k*1) (by omega)
 have lj:=J7 hns (0+2+i*5+k*1)
 refine Zf (ns.getD (0+2+i*5+k*1) 0) fun q hq=>?_
 rw[hq] at gj lj
 have hB316:=hB38.step hI16.st n3
 have hmod:0≤(q:Int) % ((S:Int)+2):=Int.emod_nonneg _ (by omega)
 have hmod2:(q:Int) % ((S:Int)+2)<(S:Int)+2:=Int.emod_lt_of_pos _ (by omega)
 refine Qi ?_
 refine Qg<|Qh<|Qg<|QT (Step [] w17) [(0,true),(1,true),(2,true),(3,true),(4,true),(5,true),(6,true),(7,true),(8,true),(9,true),(10,true),(11,true)] Tryz.mixed (by rfl) (by kernel_rfl) (Step.drew _ _) ?_
 refine p (fun _=>Qm)<|p (fun _=>Qm)<|p (fun _=>Qa rfl)<|p (fun _=>YK (i:=i) rfl rfl (by omega))<|p (fun _=>YK (i:=k) rfl rfl hk2)<|pq (fun _ hc=>Qd (hB316.ext hc) rfl gj) <|
  p (fun _=>YU (k':=.i64) rfl ⟨by omega,by omega⟩)<|p (fun _=>Qa rfl)<|pq (fun _ hc=>Qd (hI16.B.ext hc) rfl rfl)<|p (fun _=>Qy rfl rfl ⟨by omega,by omega⟩) <|
  p (fun _=>Uu (a:=(q:Int)) (b:=(S:Int)+2) rfl rfl (by omega) (by omega))<|p (fun _=>Qe)<|pe ?_
 have hI17:=hI16.ext (Step.drew [] w17)
 refine Zf ((q:Int) % ((S:Int)+2)) fun t ht=>?_
 have ht0:0≤t:=by omega
 refine Qc<|Qb<|x (Qa rfl)<|x (Qd hI17.B rfl rfl)<|x (QB rfl rfl)<|xe ?_
 refine QD rfl (fun h64=>?_) (fun h64=>?_)
 ·refine Qi ?_
  refine Qw<|Qb<|x (Qy rfl rfl ⟨by omega,by omega⟩)<|Qf ?_
  exact ⟨(k+1,vd,F),by simp only[];omega,⟨rfl,trivial⟩,hk1,hk2,hI17,hG16.skip hk1⟩
 have hvd:=Qp hI17.e
 have haD:QL (b5::ob vd) { w17 with drawn:=w17.drawn+1 }.heap v al:=((hal8.up (L':=b5::ob vd) (fun b hb=>by
  rcases List.mem_cons.1 hb with rfl | hb
  ·exact .inl (by simp)
  ·exact .inr (hvd b hb).1)).step hI17.st (by simp))
 have nb5:=QY hI17.e hl8
 refine QT (Step (ob vd) { w17 with drawn:=w17.drawn+1 }) [(0,true),(1,true),(2,true),(3,true),(4,true),(5,true),(6,true),(7,true),(8,true),(9,false),(10,false),(11,true),(12,false)] Tryz.mixed (by rfl) (by kernel_rfl) (Step.drew _ _) ?_
 refine p (fun _=>Qa rfl)<|pq (fun _ hc=>Qd (hI17.B.step hc nb5) rfl rfl)<|p (fun _=>Qm)<|p (fun _=>Qm)<|p (fun _=>Qm) <|
  pic (i:=k) rfl haD rfl rfl hk1 fun a70 h70=>pq (fun _ hc=>Qv (h70.step hc (fun b hb=>List.mem_cons_of_mem _ hb)) rfl)<|p (fun _=>Qm)<|p (fun _=>QN ⟨rfl,rfl,rfl,trivial⟩) <|
  pk<|QI (us:=[QC ((i:Int),cget al k,(q:Int) % ((S:Int)+2))]) rfl rfl (by decide) (by exact (by decide:1*3≤1000000)) ⟨rfl,rfl,trivial⟩ fun b74 w18 hs18 hb74 hB74=>?_
 have hs1718:=(Step.drew [] { w17 with drawn:=w17.drawn+1 }).trans hs18
 have hI18:=hI17.ext hs1718
 refine ⟨hs1718.any,?_⟩
 refine pk<|Q2 (news:=QC ((i:Int),cget al k,(q:Int) % ((S:Int)+2))) (L:=[]) hI18.e rfl rfl rfl (hB74.at (by simp)) (fun y hy=>by simp only[QC,List.mem_cons,List.not_mem_nil,or_false] at hy;rcases hy with rfl | rfl | rfl <;> rfl) (by omega) hI18.st.size fun v19 w19 ho19 hs19 hn19=>⟨(hs1718.any (L:=ob vd)).trans' hs19,?_⟩
 have ho19':ZT 126 w8.heap.size w19 v19 (F++[((i:Int),cget al k,(q:Int) % ((S:Int)+2))]):=ZT.snoc ho19
 refine p (fun _=>Qa rfl)<|pkl (hl:=by kernel_rfl)<|QF (hI18.B.step hs19 (QY hI18.e hl8)) rfl rfl (by simp) (ZT.eds (L:=[]) ho19' (by simp;omega) (by simp)).one fun w20 hs20 hB20=>pe ?_
 have hI20:=hI18.setE hl8 hs19 ho19' hn19 hs20 hB20
 refine Qw<|Qb<|x (Qy rfl rfl ⟨by omega,by omega⟩)<|Qf ?_
 exact ⟨(k+1,v19,F++[((i:Int),cget al k,(q:Int) % ((S:Int)+2))]),by simp only[];omega,⟨rfl,trivial⟩,hk1,hk2,hI20,hG16.edge hk1 hi hlt hmod (by omega)⟩
end Go.Proofs.YtgmifemhkjdblaaGreatDoor
namespace Go.Lg
section
variable {P:Program} {f:Fr} {w:World} {d:Option Nat} {ty:Nat} {ps:String} {af:Array Edge} {gd:Option (Nat×Bool)}
theorem Qc8 {t sz:Nat}[Ag P t sz] {x:Operand}{b o T:Nat}{cs us:LV}(h:QS w.heap b T cs) (hx:ev f x=.pointer (some ⟨b,o,none⟩)) (hl:us.length=sz) (hsub:∀j u,us[j]?=some u→cs[o+j]?=some u) :
  (execOp (ev f) ⟨d,.load t x,ty,ps,af,gd⟩).run P w=.ok (.value (.agg us.toArray)) w:=by
 refine V4 hx hl fun j u hu=>?_
 rw[Xi,Ym,h.cell]
 exact hsub j u hu
end
end Go.Lg
namespace Go.Proofs.YtgmifemhkjdblaaGreatDoor
open Go.Lg
theorem Qih {ns:LN}{o n:Nat}:∀j u,(bys ((ns.drop o).take n))[j]?=some u→(bys ns)[o+j]?=some u:=by
 intro j u h
 simp only[bys,List.getElem?_map,List.getElem?_take,List.getElem?_drop] at h ⊢
 split at h
 ·exact h
 ·cases h
theorem Qii {ns:LN}(h:∀n∈ns,n<256) (o n:Nat):∀m∈(ns.drop o).take n,m<256:=fun m hm=>h m (List.mem_of_mem_drop (List.mem_of_mem_take hm))
theorem Qg1 (m k:Nat):∀e∈setK m k,0≤e∧e<k:=by
 intro e he
 simp only[setK,List.mem_map,List.mem_filter,List.mem_range'_1] at he
 obtain ⟨i,⟨hi,_⟩,rfl⟩:=he
 omega
theorem yi (keep:Bool→Bool→Bool):∀(n:Nat) (a b:LI),a.length+b.length≤n→Yu a→Yu b→Yu (mrg keep a b):=by
 intro n
 induction n with
 | zero =>
  intro a b h _ _
  have ha:a=[]:=List.eq_nil_of_length_eq_zero (by omega)
  have hb:b=[]:=List.eq_nil_of_length_eq_zero (by omega)
  subst ha hb;rw[Je];exact List.Pairwise.nil
 | succ n ih =>
  intro a b hn ia ib
  by_cases h:a=[]∧b=[]
  ·obtain ⟨rfl,rfl⟩:=h;rw[Je];exact List.Pairwise.nil
  ·have hlt:=UJ h
   have itl:∀(c:Bool) (l:LI),Yu l→Yu (tl c l):=fun c l hl=>by
    cases c
    ·exact hl
    ·cases l with
     | nil=>exact hl
     | cons y l=>exact hl.tail
   have ih':=ih (tl (Xd a b) a) (tl (Xd b a) b) (by omega) (itl _ _ ia) (itl _ _ ib)
   rw[X2 keep h]
   cases keep (Xd a b) (Xd b a) with
   | false=>simpa using ih'
   | true =>
    simp only[cond_true,List.singleton_append]
    refine List.pairwise_cons.2 ⟨fun x hx=>?_,ih'⟩
    have hm:=(V8 (itl _ _ ia) (itl _ _ ib) x).1 hx
    cases a with
    | nil =>
     cases b with
     | nil=>exact absurd ⟨rfl,rfl⟩ h
     | cons y b =>
      simp only[Xd,tl,cond_true,cond_false,List.tail_cons,List.not_mem_nil,false_or,Go.Proofs.YtgmifemhkjdblaaGreatDoor.hx,List.headD_cons] at hm ⊢
      exact ib.lt_of hm.1
    | cons u a =>
     cases b with
     | nil =>
      simp only[Xd,tl,cond_true,cond_false,List.tail_cons,List.not_mem_nil,or_false,Go.Proofs.YtgmifemhkjdblaaGreatDoor.hx,List.headD_cons] at hm ⊢
      exact ia.lt_of hm.1
     | cons y b =>
      rcases Int.lt_trichotomy u y with h1 | h1 | h1
      ·have e1:decide (u≤y)=true:=decide_eq_true (by omega)
       have e2:decide (y≤u)=false:=decide_eq_false (by omega)
       simp only[Xd,tl,e1,e2,cond_true,cond_false,List.tail_cons,Go.Proofs.YtgmifemhkjdblaaGreatDoor.hx,List.headD_cons] at hm ⊢
       rcases hm.1 with h2 | h2
       ·exact ia.lt_of h2
       ·rcases List.mem_cons.1 h2 with h2 | h2
        ·omega
        ·have:=ib.lt_of h2;omega
      ·have e1:decide (u≤y)=true:=decide_eq_true (by omega)
       have e2:decide (y≤u)=true:=decide_eq_true (by omega)
       simp only[Xd,tl,e1,e2,cond_true,List.tail_cons,Go.Proofs.YtgmifemhkjdblaaGreatDoor.hx,List.headD_cons] at hm ⊢
       rcases hm.1 with h2 | h2
       ·have:=ia.lt_of h2;omega
       ·have:=ib.lt_of h2;omega
      ·have e1:decide (u≤y)=false:=decide_eq_false (by omega)
       have e2:decide (y≤u)=true:=decide_eq_true (by omega)
       simp only[Xd,tl,e1,e2,cond_true,cond_false,List.tail_cons,Go.Proofs.YtgmifemhkjdblaaGreatDoor.hx,List.headD_cons] at hm ⊢
       rcases hm.1 with h2 | h2
       ·rcases List.mem_cons.1 h2 with h2 | h2
        ·omega
        ·have:=ia.lt_of h2;omega
       ·exact ib.lt_of h2
end Go.Proofs.YtgmifemhkjdblaaGreatDoor
namespace Go.Lg
section
variable {P:Program} {f:Fr} {w:World} {d:Option Nat} {ty:Nat} {ps:String} {af:Array Edge} {gd:Option (Nat×Bool)} {all:List Oper} {C:World→Prop} {K:Fr→World→Prop}
theorem tf {pre:List (Nat×Bool)}{i j:Nat}{t1 t2:Pt}(h:XP P all C (fun f w=>(ZY all f (QJ all i)=true∧XO P (QJ all i) f w fun f' w'=>C w'∧XT P all C K t1 f' w') ∧
   (ZY all f (QJ all j)=true∧XO P (QJ all j) f w fun f' w'=>C w'∧XT P all C K t2 f' w')) pre f w):XT P all C K (.fk pre i j t1 t2) f w:=h
theorem tp {l:List (Nat×Bool)}(h:XP P all C K l f w):XT P all C K (.pl l) f w:=h
end
end Go.Lg
namespace Go.Proofs.YtgmifemhkjdblaaGreatDoor
open Go.Lg
theorem JI (es:List Ed) (s v:Int):nxt es s v=match eget es s v with | some u=>u | none=>-1:=by
 induction es with
 | nil=>rfl
 | cons e es ih =>
  rw[nxt,eget]
  split
  ·rfl
  ·exact ih
end Go.Proofs.YtgmifemhkjdblaaGreatDoor
namespace Go.Lg
section
variable {P:Program} {f:Fr} {w:World} {d:Option Nat} {ty:Nat} {ps:String} {af:Array Edge} {gd:Option (Nat×Bool)}
end
end Go.Lg
namespace Go.Proofs.YtgmifemhkjdblaaGreatDoor
open Go.Lg
section
variable {w4 w w' w'':World} {b:Nat} {m q:Bool} {ve vd:Value} {E D:LI}
end
end Go.Proofs.YtgmifemhkjdblaaGreatDoor
namespace Go.Lg
section
variable {P:Program} {f:Fr} {w:World} {d:Option Nat} {ty:Nat} {ps:String} {af:Array Edge} {gd:Option (Nat×Bool)}
end
end Go.Lg
namespace Go.Proofs.YtgmifemhkjdblaaGreatDoor
open Go.Lg
def grid (g:Nat→Int→Option Ed) (vs:LI) (n:Nat):List Ed:=(List.range' 0 n).flatMap fun j=>vs.filterMap (g j)
theorem Vz (g:Nat→Int→Option Ed) (vs:LI) (n:Nat):grid g vs (n+1)=grid g vs n++vs.filterMap (g n):=by
 unfold grid;rw[List.range'_1_concat,List.flatMap_append];simp
theorem jY (l m:List Ed) (s v:Int):eget (l++m) s v=match eget l s v with | some u=>some u | none=>eget m s v:=by
 induction l with
 | nil=>rfl
 | cons e l ih =>
  rw[List.cons_append,eget,eget]
  split
  ·rfl
  ·exact ih
def ql (g:Nat→Int→Option Ed):Prop:=∀j v e,g j v=some e→e.1=(j:Int)∧e.2.1=v
theorem jW {g:Nat→Int→Option Ed}(hg:ql g) (j:Nat) (v:Int):∀(vs:LI),eget (vs.filterMap (g j)) j v=if v∈vs then (g j v).map (·.2.2) else none
 | []=>by simp[eget]
 | u::vs=>by
  have ih:=jW hg j v vs
  rw[List.filterMap_cons]
  cases hu:g j u with
  | none =>
   simp only[]
   rw[ih]
   by_cases e:v=u
   ·subst e;simp[hu]
   ·simp[e]
  | some e =>
   have he:=hg j u e hu
   simp only[]
   rw[eget]
   by_cases e2:u=v
   ·subst e2
    rw[if_pos he,if_pos List.mem_cons_self,hu];rfl
   ·rw[if_neg (fun h=>e2 (he.2.symm.trans h.2)),ih]
    simp[Ne.symm e2]
theorem jV {g:Nat→Int→Option Ed}(hg:ql g) {j i:Nat}(h:j≠i) (v:Int) (vs:LI):eget (vs.filterMap (g j)) i v=none:=by
 refine zu fun e he h2=>?_
 obtain ⟨u,_,hu⟩:=List.mem_filterMap.1 he
 have:=hg j u e hu
 omega
theorem zw {g:Nat→Int→Option Ed}(hg:ql g) (vs:LI) (j:Nat) (v:Int):∀n,eget (grid g vs n) j v=if j<n∧v∈vs then (g j v).map (·.2.2) else none
 | 0=>by simp[grid,eget]
 | n+1=>by
  rw[Vz,jY,zw hg vs j v n]
  by_cases e:j=n
  ·subst e
   rw[if_neg (by omega),jW hg]
   simp
  ·rw[jV hg (Ne.symm e)]
   by_cases h:j<n∧v∈vs
   ·rw[if_pos h,if_pos ⟨by omega,h.2⟩]
    cases (g j v).map (·.2.2) <;> rfl
   ·rw[if_neg h,if_neg (fun h2=>h ⟨by omega,h2.2⟩)]
theorem jM {g:Nat→Int→Option Ed}{vs:LI}{n:Nat}{e:Ed}(h:e∈grid g vs n):∃j v,j<n∧v∈vs∧g j v=some e:=by
 unfold grid at h
 obtain ⟨j,hj,h2⟩:=List.mem_flatMap.1 h
 obtain ⟨v,hv,h3⟩:=List.mem_filterMap.1 h2
 rw[List.mem_range'_1] at hj
 exact ⟨j,v,by omega,hv,h3⟩
theorem Qcn {g:Nat→Int→Option Ed}(hg:ql g) {vs:LI}(hi:Yu vs):∀n,(grid g vs n).Pairwise fun x y:Ed=>x.1<y.1∨(x.1=y.1∧x.2.1<y.2.1)
 | 0=>by simp[grid]
 | n+1=>by
  rw[Vz,List.pairwise_append]
  refine ⟨Qcn hg hi n,Xc (r:=(·<·)) (fun x y u v hxy hu hv=>?_) hi,fun e he e' he'=>?_⟩
  ·have h1:=hg n x u hu
   have h2:=hg n y v hv
   right;omega
  ·obtain ⟨j,v,hj,_,h1⟩:=jM he
   obtain ⟨v',_,h2⟩:=List.mem_filterMap.1 he'
   have h3:=hg j v e h1
   have h4:=hg n v' e' h2
   left;omega
theorem QkO (l:List QM):∀(acc:LI),(∀a∈l,Yu a.al)→Yu acc→Yu (l.foldl (fun acc a=>mrg (· || ·) acc a.al) acc)∧∀x,x∈l.foldl (fun acc a=>mrg (· || ·) acc a.al) acc↔x∈acc∨∃a∈l,x∈a.al:=by
 induction l with
 | nil=>intro acc _ h;exact ⟨h,fun x=>by simp⟩
 | cons a l ih =>
  intro acc hl h
  have ha:=hl a List.mem_cons_self
  obtain ⟨h1,h2⟩:=ih (mrg (· || ·) acc a.al) (fun b hb=>hl b (List.mem_cons_of_mem _ hb)) (yi _ _ _ _ (Nat.le_refl _) h ha)
  rw[List.foldl_cons]
  refine ⟨h1,fun x=>?_⟩
  rw[h2 x,V8 h ha]
  simp only[List.mem_cons,exists_eq_or_imp]
  constructor
  ·rintro (⟨h3 | h3,_⟩ | h3)
   ·exact .inl h3
   ·exact .inr (.inl h3)
   ·exact .inr (.inr h3)
  ·rintro (h3 | h3 | h3)
   ·exact .inl ⟨.inl h3,by simp[h3]⟩
   ·exact .inl ⟨.inr h3,by simp[h3]⟩
   ·exact .inr h3
theorem yE {l:List QM}(h:∀a∈l,Q4 a):Yu (evs l):=(QkO l [] (fun a ha=>(h a ha).ali) (by simp)).1
theorem Qcv {l:List QM}(h:∀a∈l,Q4 a) (x:Int):x∈evs l↔∃a∈l,x∈a.al:=by
 have:=(QkO l [] (fun a ha=>(h a ha).ali) (by simp)).2 x
 unfold evs;rw[this];simp
def syF (aa:List QM) (tup:List (LI)) (j:Nat) (v:Int):Option Ed:=(ZV v aa (tup.getD j [])).map fun u=>((j:Int),v,(tup.idxOf u:Int))
theorem Qd4 (aa:List QM) (tup:List (LI)):ql (syF aa tup):=by
 intro j v e h
 unfold syF at h
 obtain ⟨u,_,rfl⟩:=Option.map_eq_some_iff.1 h
 exact ⟨rfl,rfl⟩
theorem jQ {α β:Type}{f g:α→Option β}:∀{l:List α},(∀x∈l,f x=g x)→l.filterMap f=l.filterMap g
 | [],_=>rfl
 | x::l,h=>by rw[List.filterMap_cons,List.filterMap_cons,h x List.mem_cons_self,jQ (fun y hy=>h y (List.mem_cons_of_mem _ hy))]
theorem Qft {α β:Type}{f:α→Option β}{v:α}{e:β}(h:f v=some e):[v].filterMap f=[e]:=by rw[List.filterMap_cons,h];rfl
theorem QhO {α β:Type}{f:α→Option β}{v:α}(h:f v=none):[v].filterMap f=[]:=by rw[List.filterMap_cons,h];rfl
theorem Qd5 {aa:List QM}{tup:List (LI)}{j:Nat}{v:Int}(h:ZV v aa (tup.getD j [])=none):syF aa tup j v=none:=by unfold syF;rw[h];rfl
theorem yZ {aa:List QM}{tup:List (LI)}{j:Nat}{v:Int}{u:LI}(h:ZV v aa (tup.getD j [])=some u):syF aa tup j v=some ((j:Int),v,(tup.idxOf u:Int)):=by unfold syF;rw[h];rfl
def Clo (aa:List QM) (tup:List (LI)) (j:Nat) (vs:LI):Prop:=∀v∈vs,∀u,ZV v aa (tup.getD j [])=some u→u∈tup
theorem JO {tup r:List (LI)}{j:Nat}(h:j<tup.length):(tup++r).getD j []=tup.getD j []:=by simp[List.getD,List.getElem?_append_left h]
theorem QbO {aa:List QM}{tup r:List (LI)}{j:Nat}{vs:LI}(hj:j<tup.length) (hc:Clo aa tup j vs):vs.filterMap (syF aa (tup++r) j)=vs.filterMap (syF aa tup j):=by
 refine jQ fun v hv=>?_
 unfold syF
 rw[JO hj]
 cases hs:ZV v aa (tup.getD j []) with
 | none=>rfl
 | some u =>
  have hu:=hc v hv u hs
  simp only[Option.map_some,Option.some.injEq,Prod.mk.injEq,true_and]
  rw[List.idxOf_append,if_pos hu]
theorem Clo.pre {aa:List QM}{tup r:List (LI)}{j:Nat}{vs:LI}(hj:j<tup.length) (hc:Clo aa tup j vs):Clo aa (tup++r) j vs:=by
 intro v hv u hu
 rw[JO hj] at hu
 exact List.mem_append_left _ (hc v hv u hu)
theorem Kx {α:Type}{l:List α}{u:α}(h:l.Nodup) (hu:u∉l):(l++[u]).Nodup:=by
 rw[List.nodup_append]
 exact ⟨h,by simp,fun a ha b hb=>by simp only[List.mem_singleton] at hb;subst hb;exact fun e=>hu (by rw[←e];exact ha)⟩
theorem qQ {aa:List QM}{i:Nat}:∀(vs:LI) (s s':Sy),i<s.tup.length→s.tup.Nodup→Vp aa i (qq s i) vs s=some s' →
  ∃r,s'.tup=s.tup++r∧s'.mk'=s.mk'∧s'.ed=s.ed++vs.filterMap (syF aa s'.tup i)∧Clo aa s'.tup i vs∧s'.tup.Nodup
 | [],s,s',_,hd,e=>by cases e;exact ⟨[],by simp,rfl,by simp,fun v hv=>(by cases hv),hd⟩
 | v::vs,s,s',hi,hd,e=>by
  rw[Vp] at e
  obtain ⟨s1,h1,h2⟩:=Option.bind_eq_some_iff.1 e
  have key:∃r1,s1.tup=s.tup++r1∧s1.mk'=s.mk'∧s1.ed=s.ed++[v].filterMap (syF aa s1.tup i)∧Clo aa s1.tup i [v]∧s1.tup.Nodup:=by
   unfold syE at h1
   have eT:qq s i=s.tup.getD i []:=rfl
   rw[eT] at h1
   cases hs:ZV v aa (s.tup.getD i []) with
   | none =>
    rw[hs] at h1
    cases h1
    refine ⟨[],by simp,rfl,by rw[QhO (Qd5 hs),List.append_nil],fun v' hv' u hu=>?_,hd⟩
    simp only[List.mem_singleton] at hv';subst hv'
    rw[hs] at hu;cases hu
   | some u =>
    rw[hs] at h1
    simp only[] at h1
    by_cases hu:u∈s.tup
    ·rw[if_pos hu] at h1
     cases h1
     refine ⟨[],by simp,rfl,by rw[Qft (yZ hs)],fun v' hv' u' hu'=>?_,hd⟩
     simp only[List.mem_singleton] at hv';subst hv'
     simp only[] at hu' ⊢
     rw[hs] at hu';cases hu';exact hu
    ·rw[if_neg hu] at h1
     split at h1
     ·cases h1
     ·cases h1
      have e2:(s.tup++[u]).getD i []=s.tup.getD i []:=JO hi
      have e3:(s.tup++[u]).idxOf u=s.tup.length:=by rw[List.idxOf_append,if_neg hu];simp
      refine ⟨[u],rfl,rfl,?_,fun v' hv' u' hu'=>?_,Kx hd hu⟩
      ·rw[Qft (yZ (tup:=s.tup++[u]) (u:=u) (by rw[e2];exact hs)),e3]
      ·simp only[List.mem_singleton] at hv';subst hv'
       simp only[] at hu' ⊢
       rw[e2,hs] at hu';cases hu';simp
  obtain ⟨r1,k1,k2,k3,k4,k5⟩:=key
  have hi1:i<s1.tup.length:=by rw[k1];simp;omega
  have eT:qq s1 i=qq s i:=by unfold qq;rw[k1];exact JO hi
  rw[←eT] at h2
  obtain ⟨r2,g1,g2,g3,g4,g5⟩:=qQ vs s1 s' hi1 k5 h2
  refine ⟨r1++r2,by rw[g1,k1,List.append_assoc],g2.trans k2,?_,?_,g5⟩
  ·rw[g3,k3,List.append_assoc]
   congr 1
   rw[show v::vs=[v]++vs from rfl,List.filterMap_append]
   congr 1
   rw[g1]
   exact (QbO hi1 k4).symm
  ·intro v' hv' u hu
   rcases List.mem_cons.1 hv' with rfl | hv'
   ·have:=k4.pre (r:=r2) hi1
    rw[←g1] at this
    exact this v' List.mem_cons_self u hu
   ·exact g4 v' hv' u hu
structure SyG (aa:List QM) (i:Nat) (s:Sy):Prop where
 nd:s.tup.Nodup
 le:i≤s.tup.length
 hd:s.tup.getD 0 []=List.replicate aa.length 0∧0<s.tup.length
 mk2:s.mk'=((List.range' 0 i).filter fun j=>Xo aa (s.tup.getD j [])).map fun j:Nat=>(j:Int)
 ed:s.ed=grid (syF aa s.tup) (evs aa) i
 cl:∀j,j<i→Clo aa s.tup j (evs aa)
theorem Xr {α β:Type}{f g:α→List β}:∀{l:List α},(∀x∈l,f x=g x)→l.flatMap f=l.flatMap g
 | [],_=>rfl
 | x::l,h=>by rw[List.flatMap_cons,List.flatMap_cons,h x List.mem_cons_self,Xr (fun y hy=>h y (List.mem_cons_of_mem _ hy))]
theorem SyG.next {aa:List QM}{i:Nat}{s s':Sy}(h:SyG aa i s) (hi:i<s.tup.length) (e:Vp aa i (qq s i) (evs aa) (ZC aa i (qq s i) s)=some s'):SyG aa (i+1) s':=by
 have ht:(ZC aa i (qq s i) s).tup=s.tup:=by unfold ZC;split <;> rfl
 have hed:(ZC aa i (qq s i) s).ed=s.ed:=by unfold ZC;split <;> rfl
 have hT:qq (ZC aa i (qq s i) s) i=qq s i:=by show (ZC aa i (qq s i) s).tup.getD i []=s.tup.getD i [];rw[ht]
 rw[←hT] at e
 obtain ⟨r,g1,g2,g3,g4,g5⟩:=qQ (evs aa) _ s' (by rw[ht];exact hi) (by rw[ht];exact h.nd) (by rw[hT] at e ⊢;exact e)
 rw[ht] at g1
 rw[hed] at g3
 have pre:∀j,j≤i→s'.tup.getD j []=s.tup.getD j []:=fun j hj=>by rw[g1];exact JO (by omega)
 refine ⟨g5,by rw[g1];simp;omega,⟨by rw[pre 0 (by omega)];exact h.hd.1,by rw[g1];simp;omega⟩,?_,?_,fun j hj=>?_⟩
 ·rw[g2,List.range'_1_concat,List.filter_append,List.map_append,Nat.zero_add]
  have e1:((List.range' 0 i).filter fun j=>Xo aa (s'.tup.getD j []))=(List.range' 0 i).filter fun j=>Xo aa (s.tup.getD j []):=by
   refine List.filter_congr fun j hj=>?_
   rw[List.mem_range'_1] at hj
   rw[pre j (by omega)]
  rw[e1]
  unfold ZC
  by_cases hm:Xo aa (qq s i)=true
  ·rw[if_pos hm]
   have hm':Xo aa (s'.tup.getD i [])=true:=by rw[pre i (Nat.le_refl _)];exact hm
   simp only[List.filter_cons,hm',if_true,List.filter_nil,List.map_cons,List.map_nil]
   rw[h.mk2]
  ·rw[if_neg hm]
   have hm':Xo aa (s'.tup.getD i [])=false:=by rw[pre i (Nat.le_refl _)];exact eq_false_of_ne_true hm
   rw[List.filter_cons,if_neg (by rw[hm'];simp),List.filter_nil,h.mk2];simp
 ·rw[g3,Vz,h.ed]
  congr 1
  unfold grid
  refine Xr fun j hj=>?_
  rw[List.mem_range'_1] at hj
  rw[g1]
  exact (QbO (by omega) (h.cl j (by omega))).symm
 ·by_cases e2:j=i
  ·subst e2;exact g4
  ·have:=(h.cl j (by omega)).pre (r:=r) (by omega)
   rw[←g1] at this
   exact this
theorem yY {aa:List QM}:∀(f i:Nat) (s s':Sy),SyG aa i s→syL aa f i s=some s'→∃i',SyG aa i' s'∧(s'.tup.length=i'∨i'=i+f)
 | 0,i,s,s',h,e=>by cases e;exact ⟨i,h,.inr rfl⟩
 | f+1,i,s,s',h,e=>by
  rw[syL] at e
  split at e
  ·rename_i hi
   obtain ⟨s1,h1,h2⟩:=Option.bind_eq_some_iff.1 e
   obtain ⟨i',h3,h4⟩:=yY f (i+1) s1 s' (h.next hi h1) h2
   exact ⟨i',h3,by omega⟩
  ·cases e;exact ⟨i,h,.inl (by have:=h.le;omega)⟩
structure SyP (aa:List QM) (A:QM) (Q:List (LI)):Prop where
 al:A.al=evs aa
 st:A.st=(Q.length:Int)
 nd:Q.Nodup
 v:∀t∈Q,Vt aa t
 le:Q.length≤4096
 hd:0<Q.length→Q.getD 0 []=List.replicate aa.length 0
 mk2:A.mr=((List.range' 0 Q.length).filter fun j=>Xo aa (Q.getD j [])).map fun j:Nat=>(j:Int)
 ed:A.ed=grid (syF aa Q) (evs aa) Q.length
 cl:∀j,j<Q.length→Clo aa Q j (evs aa)
theorem J1 {aa:List QM}(ho:∀a∈aa,Q4 a) {A:QM}{Q:List (LI)}(h:sync aa=some (A,Q)):SyP aa A Q∧(Q.length=0↔∃a∈aa,a.st=0):=by
 have hok:=zT ho h
 unfold sync at h
 split at h
 ·rename_i hz
  cases h
  exact ⟨⟨rfl,rfl,by simp,by simp,by simp,fun h=>by simp at h,by simp,by simp[grid],fun j hj=>by simp at hj⟩,by simpa using hz⟩
 ·rename_i hz
  obtain ⟨s,h1,h2⟩:=Option.map_eq_some_iff.1 h
  have h0:SyG aa 0 (qt aa):=⟨by simp[qt],by simp,⟨by simp[qt],by simp[qt]⟩,by simp[qt],by simp[qt,grid],fun j hj=>by omega⟩
  obtain ⟨i',h3,h4⟩:=yY 4096 0 (qt aa) s h0 h1
  cases h2
  have hl:i'=s.tup.length:=by
   have h5:=h3.le
   have h6:=hok.2
   simp only[] at h6
   omega
  subst hl
  refine ⟨⟨rfl,rfl,h3.nd,hok.1,hok.2,fun _=>h3.hd.1,h3.mk2,h3.ed,h3.cl⟩,?_⟩
  have:=h3.hd.2
  constructor
  ·intro h;have h7:s.tup.length=0:=h;omega
  ·intro h;exact absurd h hz
theorem SyP.step {aa:List QM}{A:QM}{Q:List (LI)}(h:SyP aa A Q) {j:Nat}(hj:j<Q.length) (v:Int) :
  eget A.ed j v=if v∈evs aa then (ZV v aa (Q.getD j [])).map fun u=>(Q.idxOf u:Int) else none:=by
 rw[h.ed,zw (Qd4 aa Q)]
 by_cases hv:v∈evs aa
 ·rw[if_pos ⟨hj,hv⟩,if_pos hv]
  unfold syF
  rw[Option.map_map];rfl
 ·rw[if_neg (fun e=>hv e.2),if_neg hv]
theorem SyP.to {aa:List QM}{A:QM}{Q:List (LI)}(h:SyP aa A Q) {j:Nat}(hj:j<Q.length) {v:Int}(hv:v∈evs aa) {u:LI}(hu:ZV v aa (Q.getD j [])=some u):Q.idxOf u<Q.length∧Q.getD (Q.idxOf u) []=u:=by
 have hm:=h.cl j hj v hv u hu
 have hl:=List.idxOf_lt_length_of_mem hm
 refine ⟨hl,?_⟩
 simp[List.getD,hl]
theorem SyP.okay {aa:List QM}(ho:∀a∈aa,Q4 a) {A:QM}{Q:List (LI)}(h:SyP aa A Q):Q4 A:=by
 have hle:=h.le
 refine ⟨fun e he=>?_,by rw[h.al];exact yE ho,by rw[h.st];omega,by rw[h.st];omega,fun s hs=>?_,?_,fun e he=>?_,by rw[h.ed];exact Qcn (Qd4 aa Q) (yE ho) _⟩
 ·rw[h.al] at he
  obtain ⟨a,ha,hx⟩:=(Qcv ho e).1 he
  exact (ho a ha).al e hx
 ·rw[h.mk2] at hs
  simp only[List.mem_map,List.mem_filter,List.mem_range'_1] at hs
  obtain ⟨i,⟨hi,_⟩,rfl⟩:=hs
  rw[h.st];omega
 ·rw[h.mk2]
  unfold Yu
  rw[List.pairwise_map]
  refine List.Pairwise.sublist List.filter_sublist ?_
  exact (List.pairwise_lt_range' (s:=0) (n:=Q.length)).imp (fun h=>by omega)
 ·rw[h.ed] at he
  obtain ⟨j,v,hj,hv,hg⟩:=jM he
  unfold syF at hg
  obtain ⟨u,hu,rfl⟩:=Option.map_eq_some_iff.1 hg
  have:=(h.to hj hv hu).1
  rw[h.st,h.al]
  exact ⟨by simp only[];omega,by simp only[];omega,hv,by simp only[];omega,by simp only[];omega⟩
end Go.Proofs.YtgmifemhkjdblaaGreatDoor
namespace Go.Lg
open Go.RowKit
instance:LawfulBEq ByteArray where
 eq_of_beq h:=(MapKept.bytes_beq _ _).1 h
 rfl:=(MapKept.bytes_beq _ _).2 rfl
def chr (s:ByteArray) (i:Nat):Nat:=(s.get! i).toNat
theorem QjG {s:ByteArray}{i:Nat}(h:i<s.size):(s[i]'h).toNat=chr s i:=by
 unfold chr
 obtain ⟨d⟩:=s
 have hd:i<d.size:=h
 simp[ByteArray.get!,hd,ByteArray.getElem_eq_getElem_data]
theorem Qdz {a b:ByteArray}(h:a.data.toList=b.data.toList):a=b:=by
 obtain ⟨⟨x⟩⟩:=a
 obtain ⟨⟨y⟩⟩:=b
 have h':x=y:=h
 rw[h']
theorem bytes_beq (a b:ByteArray):(a.toList == b.toList)=decide (a=b):=by
 rw[ByteArray.toList_eq,ByteArray.toList_eq]
 by_cases h:a=b
 ·subst h;simp
 ·rw[decide_eq_false h]
  have:a.data.toList≠b.data.toList:=fun e=>h (Qdz e)
  simpa using this
section
variable {P:Program} {f:Fr} {w:World} {d:Option Nat} {ty:Nat} {ps:String} {af:Array Edge} {gd:Option (Nat×Bool)} {t t':Nat} {x y:Operand}
theorem QeB [h:St P t] {s:ByteArray}{k:IntKind}{i:Nat}(hx:ev f x=.string s) (hy:ev f y=.int k i) (hi:i<s.size) :
  (execOp (ev f) ⟨d,.index t x y,ty,ps,af,gd⟩).run P w=.ok (.value (.int .u8 (chr s i))) w:=by
 have h1:=run_index_string (P:=P) w t s k i h.u
 rw[dif_pos ⟨by omega,by omega⟩] at h1
 have e:(s[(i:Int).toNat]'(by simpa using hi)).toNat=chr s i:=QjG hi
 simp only[execOp,hx,hy,Sem.run_bind,h1,Result.andThen_ok,Sem.run_pure,e]
theorem QaX [h:St P t] {s:ByteArray}(hx:ev f x=.string s) :
  (execOp (ev f) ⟨d,.call ⟨.builtin .len,#[x],#[t]⟩,ty,ps,af,gd⟩).run P w=.ok (.value (.int .i64 s.size)) w:=Qey h.u hx
theorem yb {a b:ByteArray}(hx:ev f x=.string a) (hy:ev f y=.string b) :
  (execOp (ev f) ⟨d,.binOp .eql t x y t',ty,ps,af,gd⟩).run P w=.ok (.value (.bool (decide (a=b)))) w:=by
 have hg:(eqGuard .eql t x y (.string a) (.string b)).run P w=.ok () w:=by simp[eqGuard]
 simp only[execOp,hx,hy,Sem.run_bind,hg,Result.andThen_ok,binOp_string_eql,Sem.run_pure,bytes_beq]
theorem Jc {a b:ByteArray}(hx:ev f x=.string a) (hy:ev f y=.string b) (hl:a.size+b.size≤1000000000) :
  (execOp (ev f) ⟨d,.binOp .add t x y t',ty,ps,af,gd⟩).run P w=.ok (.value (.string (a++b))) w:=by
 have hg:(eqGuard .add t x y (.string a) (.string b)).run P w=.ok () w:=by simp[eqGuard]
 have hl':¬(((a.size+b.size:Nat):Int) > IntKind.i64.max):=by
  rw[show IntKind.i64.max=9223372036854775807 from rfl];omega
 simp only[execOp,hx,hy,Sem.run_bind,hg,Result.andThen_ok,binOp_string_add,Op.stringOp,if_neg hl',Sem.run_pure]
theorem Qhc {a b:Nat}(hx:ev f x=.int .u16 a) (hy:ev f y=.int .u16 b) (ha:a<65536) (hb:b<65536) :
  (execOp (ev f) ⟨d,.binOp .and t x y t',ty,ps,af,gd⟩).run P w=.ok (.value (.int .u16 ((a &&& b:Nat):Int))) w:=by
 refine Y7 hx hy ?_
 have hi:inK .u16 ((a &&& b:Nat):Int):=by
  have:a &&& b≤a:=Nat.and_le_left
  exact ⟨by omega,by omega⟩
 simp only[binOp,Op.intBits,BitVec.ofInt_natCast,ne_eq,not_true_eq_false,if_false,Sem.run_pure]
 rw[BitVec.toNat_and,BitVec.toNat_ofNat,BitVec.toNat_ofNat,Nat.mod_eq_of_lt (show a<2 ^ IntKind.u16.bits from ha),Nat.mod_eq_of_lt (show b<2 ^ IntKind.u16.bits from hb),YW hi]
theorem Qb3 {a b:Nat}(ha:a<65536) (hb:b<65536):a ||| b<65536:=Nat.or_lt_two_pow (n:=16) ha hb
theorem QaV {a b:Nat}(hx:ev f x=.int .u16 a) (hy:ev f y=.int .u16 b) (ha:a<65536) (hb:b<65536) :
  (execOp (ev f) ⟨d,.binOp .or t x y t',ty,ps,af,gd⟩).run P w=.ok (.value (.int .u16 ((a ||| b:Nat):Int))) w:=by
 refine Y7 hx hy ?_
 have hi:inK .u16 ((a ||| b:Nat):Int):=by
  have:=Qb3 ha hb
  exact ⟨by omega,by omega⟩
 simp only[binOp,Op.intBits,BitVec.ofInt_natCast,ne_eq,not_true_eq_false,if_false,Sem.run_pure]
 rw[BitVec.toNat_or,BitVec.toNat_ofNat,BitVec.toNat_ofNat,Nat.mod_eq_of_lt (show a<2 ^ IntKind.u16.bits from ha),Nat.mod_eq_of_lt (show b<2 ^ IntKind.u16.bits from hb),YW hi]
theorem QaZ {a b:Nat}(hx:ev f x=.int .u16 a) (hy:ev f y=.int .u16 b) (ha:a<65536) (hb:b<65536) :
  (execOp (ev f) ⟨d,.binOp .andNot t x y t',ty,ps,af,gd⟩).run P w=.ok (.value (.int .u16 ((a &&& (65535 ^^^ b):Nat):Int))) w:=by
 refine Y7 hx hy ?_
 have hi:inK .u16 ((a &&& (65535 ^^^ b):Nat):Int):=by
  have:a &&& (65535 ^^^ b)≤a:=Nat.and_le_left
  exact ⟨by omega,by omega⟩
 have e:(~~~(BitVec.ofNat IntKind.u16.bits b))=BitVec.ofNat IntKind.u16.bits (65535 ^^^ b):=by
  have hall:BitVec.allOnes 16=BitVec.ofNat 16 65535:=by decide
  have hx1:∀z:BitVec 16,~~~z=BitVec.allOnes 16 ^^^ z:=fun z=>by
   first
   | exact BitVec.allOnes_xor.symm
   | exact (BitVec.xor_allOnes.symm.trans (BitVec.xor_comm _ _))
  show ~~~(BitVec.ofNat 16 b)=BitVec.ofNat 16 (65535 ^^^ b)
  rw[hx1,hall]
  apply BitVec.eq_of_toNat_eq
  simp only[BitVec.toNat_xor,BitVec.toNat_ofNat]
  rw[Nat.mod_eq_of_lt (show 65535<2 ^ 16 by decide),Nat.mod_eq_of_lt (show b<2 ^ 16 from hb)]
  rw[Nat.mod_eq_of_lt (Nat.xor_lt_two_pow (n:=16) (by decide) hb)]
 simp only[binOp,Op.intBits,BitVec.ofInt_natCast,ne_eq,not_true_eq_false,if_false,Sem.run_pure]
 rw[e,BitVec.toNat_and,BitVec.toNat_ofNat,BitVec.toNat_ofNat,Nat.mod_eq_of_lt (show a<2 ^ IntKind.u16.bits from ha),Nat.mod_eq_of_lt (show 65535 ^^^ b<2 ^ IntKind.u16.bits from Nat.xor_lt_two_pow (n:=16) (by decide) hb),YW hi]
theorem QbY {k k':IntKind}{a:Int}{n:Nat}(hx:ev f x=.int k a) (hy:ev f y=.int k' n) (hn:n≤k.bits) (hi:inK k (a*2 ^ n)) :
  (execOp (ev f) ⟨d,.binOp .shl t x y t',ty,ps,af,gd⟩).run P w=.ok (.value (.int k (a*2 ^ n))) w:=by
 refine Y7 hx hy ?_
 have h1:¬((n:Int)<0):=by omega
 simp only[binOp,Op.shift,h1,if_false,Int.toNat_natCast,Nat.min_eq_left hn,Sem.run_pure]
 rw[YW hi]
end
section
variable {P:Program} {ops:List Oper} {K:Fr→World→Prop} {f:Fr} {w:World} {d:Option Nat} {ty:Nat} {ps:String} {af:Array Edge} {gd:Option (Nat×Bool)} {l:List Oper}
 {t e sz bys:Nat} {z:Value} {x y1 y2:Operand} {L:LN} {v:Value} {n:Nat} {cs:LV} {H:Array Obj} {k k':IntKind} {hi:Nat}
theorem Qev [h:Sl P t e sz bys z] (hA:Zs L H v n sz cs) (hx:ev f x=v) (hh:ev f y1=.int k hi) (hm:ev f y2=.int k' hi) (h1:hi≤n) :
  ∃v',Zs L H v' hi sz (cs.take (hi*sz))∧∀w,(execOp (ev f) ⟨d,.slice t x none (some y1) (some y2),ty,ps,af,gd⟩).run P w=.ok (.value v') w:=by
 obtain ⟨ii,hii,_,hs,_⟩:=Sl.info h
 rcases hA.2.2 with ⟨rfl,rfl⟩ | ⟨a,cap,rfl,hc,hat⟩
 ·have h0:hi=0:=by omega
  subst h0
  refine ⟨nS,?_,fun w=>?_⟩
  ·rw[Nat.zero_mul,List.take_zero];exact Zs.nil _ _ _
  ·simp[execOp,hx,hh,hm,Instr.sliceAt,Instr.slice,Instr.sliceBounds,Instr.sliceBound,asIntOf,run_underlying h.u,sizeOf,typeInfo,hii]
 ·refine ⟨.slice (some a) hi hi,⟨?_,by have:=hA.2.1;omega,.inr ⟨a,hi,rfl,Nat.le_refl _,hat.out,hat.lt,fun j u hu=>?_⟩⟩,fun w=>?_⟩
  ·rw[List.length_take,hA.1,Nat.min_eq_left (Nat.mul_le_mul_right _ h1)]
  ·rw[List.getElem?_take] at hu
   split at hu
   ·exact hat.cell j u hu
   ·cases hu
  ·by_cases h0:hi=0
   ·subst h0
    simp[execOp,hx,hh,hm,Instr.sliceAt,Instr.slice,Instr.sliceBounds,Instr.sliceBound,asIntOf,run_underlying h.u,sizeOf,typeInfo,hii]
   ·simp[execOp,hx,hh,hm,Instr.sliceAt,Instr.slice,Instr.sliceBounds,Instr.sliceBound,asIntOf,run_underlying h.u,sizeOf,typeInfo,hii,Addr.add]
    intro h9;omega
end
section
variable {P:Program} {ops l:List Oper} {K:Fr→World→Prop} {f:Fr} {w:World} {o:Oper} {C:World→Prop} {pl:List (Nat×Bool)} {i:Nat}
theorem xB {b:Bool}(hr:(execOp (ev f) o).run P w=.ok (.value (.bool b)) w) (ht:b=true→XL P ops K l (QU f o.dst (.bool true)) w) (hf:b=false→XL P ops K l (QU f o.dst (.bool false)) w)
  (hg:ZY ops f o=true:=by rfl):XL P ops K (o::l) f w:=by
 cases hb:b with
 | true=>rw[hb] at hr;exact x hr (ht hb) hg
 | false=>rw[hb] at hr;exact x hr (hf hb) hg
theorem pB {b:Bool}(hr:∀w',(execOp (ev f) (QJ ops i)).run P w'=.ok (.value (.bool b)) w') (ht:b=true→XP P ops C K pl (QU f (QJ ops i).dst (.bool true)) w) (hf:b=false→XP P ops C K pl (QU f (QJ ops i).dst (.bool false)) w)
  (hg:ZY ops f (QJ ops i)=true:=by rfl):XP P ops C K ((i,true)::pl) f w:=by
 cases hb:b with
 | true=>rw[hb] at hr;exact p hr (ht hb) hg
 | false=>rw[hb] at hr;exact p hr (hf hb) hg
theorem QfJ {G:Prop} (b:Bool) (ht:b=true→G) (hf:b=false→G):G:=by cases h:b with | true=>exact ht h | false=>exact hf h
theorem bT {q:Prop}[Decidable q] (h:q):true=decide q:=(decide_eq_true h).symm
theorem bF {q:Prop}[Decidable q] (h:¬q):false=decide q:=(decide_eq_false h).symm
theorem bD {q r:Prop}[Decidable q] [Decidable r] (h:q↔r):decide q=decide r:=decide_eq_decide.2 h
end
section
variable {P:Program} {f:Fr} {w:World} {d:Option Nat} {ty:Nat} {ps:String} {af:Array Edge} {gd:Option (Nat×Bool)} {t:Nat} {x:Operand}
theorem Uv {q:Prop}[Decidable q] (hx:ev f x=.bool (decide q)):(execOp (ev f) ⟨d,.unOp .not t x,ty,ps,af,gd⟩).run P w=.ok (.value (.bool (decide (¬q)))) w:=by
 rw[Zo hx];simp
end
end Go.Lg
namespace Go.Proofs.YtgmifemhkjdblaaGreatDoor
open Go.Lg
structure KK where
 nm:ByteArray
 co:Bool
 ob:Bool
 fo:Bool
 fl:Int
structure Jb where
 nm:ByteArray
 a:QM
structure Exc where
 nm:ByteArray
 ls:List (Int×Int)
structure XS where
 nm:ByteArray
 ts:List (Int×Int)
 bd:Int
structure Zy where
 ev:List KK
 co:List Jb
 rq:List Jb
 ex:List Exc
 cs:List XS
def Ki (n:Nat):LI:=(List.range n).map fun i:Nat=>(i:Int)
def nmP (i c:Nat):Prop:=((97≤c∧c≤122)∨(65≤c∧c≤90)∨c=95)∨(i≠0∧48≤c∧c≤57)
instance (i c:Nat):Decidable (nmP i c):=by unfold nmP;infer_instance
def nmQ (s:ByteArray) (i:Nat):Bool:=decide (nmP i (chr s i))
def Kz (s:ByteArray):Bool:=(List.range' 0 s.size).all (nmQ s) && decide (0<s.size∧s.size≤32)
def XJ (seen:List ByteArray) (e:KK):Int:=if Kz e.nm=false then 7 else if e.nm∈seen then 8 else if e.fl<0∨4<e.fl then 2 else if e.fl≠0∧(e.co || e.ob)=true then 13 else 0
def U6:List ByteArray→List KK→Int
 | _,[]=>0
 | seen,e::l=>if XJ seen e≠0 then XJ seen e else U6 (seen++[e.nm]) l
def JR (l:List KK):Int:=if 32<l.length then 3 else U6 [] l
def ixs {α:Type}(q:α→Bool):Nat→List α→LI
 | _,[]=>[]
 | i,e::l=>if q e=true then (i:Int)::ixs q (i+1) l else ixs q (i+1) l
def unc (l:List KK):LI:=ixs (fun e=>!e.co) 0 l
def Ve (sz:LI):Option Int→List (Int×Int)→Int
 | _,[]=>0
 | pr,l::ls=>if l.1<0∨(sz.length:Int)≤l.1 then 2 else if yo pr l.1=true then 5 else if l.2<0∨cget sz l.1.toNat≤l.2 then 2 else Ve sz (some l.1) ls
def Js (sz:LI) (ls:List (Int×Int)):Int:=if ls.length=0 then 12 else Ve sz none ls
def grt (n:Int):Bool:=decide (n < -65536) || decide (65536<n)
def Jr (sz:LI):Option Int→List (Int×Int)→Int
 | _,[]=>0
 | pr,l::ls=>if l.1<0∨(sz.length:Int)≤l.1 then 2 else if yo pr l.1=true then 5 else if l.2=0∨grt l.2=true then 2 else Jr sz (some l.1) ls
def Jt (sz:LI) (k:XS):Int:=if k.ts.length=0 then 12 else if Jr sz none k.ts≠0 then Jr sz none k.ts else if grt k.bd=true then 2 else 0
def VF (seen:List ByteArray) (s:ByteArray):Int:=if Kz s=false then 7 else if s∈seen then 8 else 0
def Yo (sz:LI):List ByteArray→List Exc→Int
 | _,[]=>0
 | seen,x::l=>if VF seen x.nm≠0 then VF seen x.nm else if Js sz x.ls≠0 then Js sz x.ls else Yo sz (seen++[x.nm]) l
def YO (sz:LI):List ByteArray→List XS→Int
 | _,[]=>0
 | seen,x::l=>if VF seen x.nm≠0 then VF seen x.nm else if Jt sz x≠0 then Jt sz x else YO sz (seen++[x.nm]) l
def Ko (n:Int):Bool:=decide (n<1) || decide (4096<n)
def YE (sz:LI) (ex:List Exc) (cs:List XS):Int:=if 8<sz.length then 3 else if sz.any Ko=true then 2 else if 32<ex.length∨32<cs.length then 3 else if Yo sz [] ex≠0 then Yo sz [] ex else YO sz [] cs
def mns (a b:LI):LI:=mrg (fun p q=>p && !q) a b
def VO (a:QM):Bool:=decide (Y8 a=0) && decide ((Jw a).st=a.st∧(Jw a).al=a.al∧(Jw a).mr=a.mr∧(Jw a).ed=a.ed)
def Yb (nev:Nat) (amg:LI) (seen:List ByteArray) (x:Jb):Int :=
 if Kz x.nm=false then 7 else if x.nm∈seen then 8 else if Y8 x.a≠0 then Y8 x.a else if VO x.a=false then 6 else if x.a.st=0 then 12 else
 if (x.a.al.any fun e=>decide ((nev:Int)≤e))=true then 2 else if (mns x.a.al amg).length≠0 then 9 else 0
def Yp (nev:Nat) (al:LI):List ByteArray→LI→List Jb→Int×List ByteArray×LI
 | s,u,[]=>(0,s,u)
 | s,u,x::l=>if Yb nev al s x≠0 then (Yb nev al s x,s,u) else Yp nev al (s++[x.nm]) (mrg (· || ·) u x.a.al) l
def JQ (nev:Nat) (u:LI):List ByteArray→List Jb→Int
 | _,[]=>0
 | s,x::l=>if Yb nev u s x≠0 then Yb nev u s x else JQ nev u (s++[x.nm]) l
def szs (l:List Jb):LI:=l.map (·.a.st)
def auts (l:List Jb):List QM:=l.map (·.a)
def Zg (c:Zy):Int :=
 if JR c.ev≠0 then JR c.ev else if c.co.length=0 then 12 else if 8<c.co.length∨12<c.co.length+c.rq.length then 3 else
 if (Yp c.ev.length (Ki c.ev.length) [] [] c.co).1≠0 then (Yp c.ev.length (Ki c.ev.length) [] [] c.co).1 else
 if JQ c.ev.length (Yp c.ev.length (Ki c.ev.length) [] [] c.co).2.2 (Yp c.ev.length (Ki c.ev.length) [] [] c.co).2.1 c.rq≠0 then JQ c.ev.length (Yp c.ev.length (Ki c.ev.length) [] [] c.co).2.2 (Yp c.ev.length (Ki c.ev.length) [] [] c.co).2.1 c.rq else
 YE (szs c.co) c.ex c.cs
def Ks (t:LI) (x:Exc):Bool:=x.ls.all fun l=>decide (t.getD l.1.toNat 0=l.2)
def Qkr (t:LI) (k:XS):Int:=k.ts.foldl (fun s p=>s+p.2*t.getD p.1.toNat 0) 0
def Vn (t:LI) (k:XS):Bool:=decide (k.bd<Qkr t k)
def fix {α:Type}(q:α→Bool):Nat→List α→Int
 | _,[]=>-1
 | i,e::l=>if q e=true then (i:Int) else fix q (i+1) l
def vio (c:Zy) (t:LI):Option (Int×Int) :=
 if 0≤fix (Ks t) 0 c.ex then some (1,fix (Ks t) 0 c.ex) else if 0≤fix (Vn t) 0 c.cs then some (2,fix (Vn t) 0 c.cs) else none
def rfr (v:Int):Nat→List Jb→LI→Int
 | i,x::l,s::ss=>if v∈x.a.al∧(eget x.a.ed s v).isSome=false then (i:Int) else rfr v (i+1) l ss
 | _,_,_=>-1
structure Rsn where
 st:Int
 kd:Int
 ix:Int
 ev:Int
def rfd (c:Zy) (rs:LI):LI→Option (Int×Int)
 | []=>none
 | v::l=>if 0≤rfr v 0 c.rq rs∧(c.ev.getD v.toNat ⟨.empty,false,false,false,0⟩).co=false then some (rfr v 0 c.rq rs,v) else rfd c rs l
def Qdq (a:QM) (s:Int):LI:=(Zv a.ed s).map (·.2.1)
def rsn (c:Zy) (pl:QM) (plc:Int) (i:Nat) (t:LI):Option Rsn :=
 match vio c (t.take c.co.length) with
 | some (k,j)=>some ⟨i,k,j,-1⟩
 | none=>match rfd c (t.drop c.co.length) (Qdq pl plc) with
  | some (j,v)=>some ⟨i,3,j,v⟩
  | none=>none
structure Spc where
 a:QM
 co:List (LI)
 rq:List (LI)
 pl:LI
 fb:List Rsn
def plx (ps:List (LI)) (t:LI):Int:=if t∈ps then (ps.idxOf t:Int) else 0
def QiZ (c:Zy) (pl:QM) (ps:List (LI)) (s:Spc) (p:LI×Nat):Spc :=
 ⟨s.a,s.co++[p.1.take c.co.length],s.rq++[p.1.drop c.co.length],s.pl++[plx ps (p.1.take c.co.length)],
  match rsn c pl (plx ps (p.1.take c.co.length)) p.2 p.1 with | some r=>s.fb++[r] | none=>s.fb⟩
def Y0 (c:Zy):Int:=if Zg c≠0 then Zg c else if Kc (auts c.co)≠0 then Kc (auts c.co) else match sync (auts c.co) with
 | none=>3
 | some _=>if Kc (auts c.co++auts c.rq)≠0 then Kc (auts c.co++auts c.rq) else match sync (auts c.co++auts c.rq) with
  | none=>3
  | some _=>0
def syA (l:List QM):QM:=match sync l with | none=>⟨[],0,[],[]⟩ | some z=>z.1
def syQ (l:List QM):List (LI):=match sync l with | none=>[] | some z=>z.2
def spc (c:Zy):Spc:=(syQ (auts c.co++auts c.rq)).zipIdx.foldl (QiZ c (syA (auts c.co)) (syQ (auts c.co))) ⟨syA (auts c.co++auts c.rq),[],[],[],[]⟩
end Go.Proofs.YtgmifemhkjdblaaGreatDoor
namespace Go.Lg
section
variable {P:Program} {f:Fr} {w:World} {d:Option Nat} {ty:Nat} {ps:String} {af:Array Edge} {gd:Option (Nat×Bool)}
theorem QaW {t t':Nat}[h:Bk P t] {x y:Operand}{a b:Bool}(hx:ev f x=.bool a) (hy:ev f y=.bool b) :
  (execOp (ev f) ⟨d,.binOp .neq t x y t',ty,ps,af,gd⟩).run P w=.ok (.value (.bool (!(a == b)))) w:=by
 have hg:(eqGuard .neq t x y (.bool a) (.bool b)).run P w=.ok () w:=by simp[eqGuard]
 simp[execOp,hx,hy,hg,run_neq_bool (P:=P) (w:=w) t a b h.u]
end
inductive Pu where
 | pl (l:List (Nat×Bool))
 | f2 (pre:List (Nat×Bool)) (i j:Nat) (t1 t2:Pu)
 | f3 (pre:List (Nat×Bool)) (i j k:Nat) (t1 t2 t3:Pu)
def Pu.len:Pu→Nat
 | .pl l=>l.length
 | .f2 pre _ _ t1 _=>pre.length+(1+t1.len)
 | .f3 pre _ _ _ t1 _ _=>pre.length+(1+t1.len)
def yd (all:Array Oper):Pu→Array Bool→Bool
 | .pl l,ls=>YC all l ls
 | .f2 pre i j t1 t2,ls=>YY all pre ls && Region.ready .any all (Zq pre ls) == [i,j] && t1.len == t2.len && yd all t1 ((Zq pre ls).setIfInBounds i true) && yd all t2 ((Zq pre ls).setIfInBounds j true)
 | .f3 pre i j k t1 t2 t3,ls=>YY all pre ls && Region.ready .any all (Zq pre ls) == [i,j,k] && t1.len == t2.len && t1.len == t3.len && yd all t1 ((Zq pre ls).setIfInBounds i true) && yd all t2 ((Zq pre ls).setIfInBounds j true) && yd all t3 ((Zq pre ls).setIfInBounds k true)
def Qkz (all:List Oper) (t:Pu):Bool:=Region.noSelect all.toArray && t.len == all.length && yd all.toArray t (Array.replicate all.length false)
def XE (P:Program) (all:List Oper) (C:World→Prop) (i:Nat) (N:Fr→World→Prop) (f:Fr) (w:World):Prop:=ZY all f (QJ all i)=true∧XO P (QJ all i) f w fun f' w'=>C w'∧N f' w'
def XU (P:Program) (all:List Oper) (C:World→Prop) (K:Fr→World→Prop):Pu→Fr→World→Prop
 | .pl l=>XP P all C K l
 | .f2 pre i j t1 t2=>XP P all C (fun f w=>XE P all C i (XU P all C K t1) f w∧XE P all C j (XU P all C K t2) f w) pre
 | .f3 pre i j k t1 t2 t3=>XP P all C (fun f w=>XE P all C i (XU P all C K t1) f w∧XE P all C j (XU P all C K t2) f w∧XE P all C k (XU P all C K t3) f w) pre
section
variable {P:Program} {n:Nat} {f:Fr} {w:World} {all:List Oper} {C:World→Prop} {K B:Fr→World→Prop}
theorem X7 (hs:Region.noSelect all.toArray=true):∀(t:Pu) (ls:Array Bool) (f:Fr) (w:World),ls.size=all.length→C w→yd all.toArray t ls=true→XU P all C K t f w→XA P all C K t.len ls f w
 | .pl l,ls,f,w,hsz,hC,hp,h=>Zr hs l ls f w hsz (.inl hC) hp h
 | .f2 pre i j t1 t2,ls,f,w,hsz,hC,hp,h=>by
  simp only[yd,Bool.and_eq_true,beq_iff_eq] at hp
  obtain ⟨⟨⟨⟨hq,hr⟩,hl⟩,h1⟩,h2⟩:=hp
  rw[Pu.len]
  refine ZF (B:=fun f w=>XE P all C i (XU P all C K t1) f w∧XE P all C j (XU P all C K t2) f w) hs pre ls f w hC hq (fun f hB=>?_) h
  have hsz':∀k,((Zq pre ls).setIfInBounds k true).size=all.length:=fun k=>by simp[ZD,hsz]
  rw[Nat.add_comm 1]
  refine YB (fun h0=>(by rw[h0] at hr;cases hr)) ?_
  rw[hr]
  intro k hk o ho
  simp only[List.mem_cons,List.not_mem_nil,or_false] at hk
  rcases hk with rfl | rfl
  ·have:=hB.1
   unfold XE at this
   rw[Q9 ho] at this
   rw[this.1,cond_true]
   exact this.2.mono fun v w' hx=>⟨.inr (.inr hx.1),X7 hs t1 _ _ _ (hsz' _) hx.1 h1 hx.2⟩
  ·have:=hB.2
   unfold XE at this
   rw[Q9 ho] at this
   rw[this.1,cond_true,hl]
   exact this.2.mono fun v w' hx=>⟨.inr (.inr hx.1),X7 hs t2 _ _ _ (hsz' _) hx.1 h2 hx.2⟩
 | .f3 pre i j k t1 t2 t3,ls,f,w,hsz,hC,hp,h=>by
  simp only[yd,Bool.and_eq_true,beq_iff_eq] at hp
  obtain ⟨⟨⟨⟨⟨⟨hq,hr⟩,hl⟩,hl3⟩,h1⟩,h2⟩,h3⟩:=hp
  rw[Pu.len]
  refine ZF (B:=fun f w=>XE P all C i (XU P all C K t1) f w∧XE P all C j (XU P all C K t2) f w∧XE P all C k (XU P all C K t3) f w) hs pre ls f w hC hq (fun f hB=>?_) h
  have hsz':∀k,((Zq pre ls).setIfInBounds k true).size=all.length:=fun k=>by simp[ZD,hsz]
  rw[Nat.add_comm 1]
  refine YB (fun h0=>(by rw[h0] at hr;cases hr)) ?_
  rw[hr]
  intro q hk o ho
  simp only[List.mem_cons,List.not_mem_nil,or_false] at hk
  rcases hk with rfl | rfl | rfl
  ·have:=hB.1
   unfold XE at this
   rw[Q9 ho] at this
   rw[this.1,cond_true]
   exact this.2.mono fun v w' hx=>⟨.inr (.inr hx.1),X7 hs t1 _ _ _ (hsz' _) hx.1 h1 hx.2⟩
  ·have:=hB.2.1
   unfold XE at this
   rw[Q9 ho] at this
   rw[this.1,cond_true,hl]
   exact this.2.mono fun v w' hx=>⟨.inr (.inr hx.1),X7 hs t2 _ _ _ (hsz' _) hx.1 h2 hx.2⟩
  ·have:=hB.2.2
   unfold XE at this
   rw[Q9 ho] at this
   rw[this.1,cond_true,hl3]
   exact this.2.mono fun v w' hx=>⟨.inr (.inr hx.1),X7 hs t3 _ _ _ (hsz' _) hx.1 h3 hx.2⟩
theorem Qiq {Q:Exit→Fr→World→Prop}{id:Nat}(C:World→Prop) (t:Pu) (hm:P.follows .mixedOrders=true) (hn:YS n all=true) (hp:Qkz all t=true)
  (hC:C { w with drawn:=w.drawn+1 }) (h:XU P all C (fun f w=>Q .normal f w) t f { w with drawn:=w.drawn+1 }):W P n (.region id all.toArray true) Q f w:=by
 simp only[Qkz,Bool.and_eq_true,beq_iff_eq] at hp
 obtain ⟨⟨hs,hl⟩,hp⟩:=hp
 refine YH C hm hn ?_
 have h1:=X7 hs t _ _ _ (by simp) hC hp h
 rw[hl] at h1
 exact h1
theorem uP {l:List (Nat×Bool)}(h:XP P all C K l f w):XU P all C K (.pl l) f w:=h
theorem u2 {pre:List (Nat×Bool)}{i j:Nat}{t1 t2:Pu}(h:XP P all C (fun f w=>XE P all C i (XU P all C K t1) f w∧XE P all C j (XU P all C K t2) f w) pre f w):XU P all C K (.f2 pre i j t1 t2) f w:=h
theorem u3 {pre:List (Nat×Bool)}{i j k:Nat}{t1 t2 t3:Pu}(h:XP P all C (fun f w=>XE P all C i (XU P all C K t1) f w∧XE P all C j (XU P all C K t2) f w∧XE P all C k (XU P all C K t3) f w) pre f w):XU P all C K (.f3 pre i j k t1 t2 t3) f w:=h
theorem ue {i:Nat}{N:Fr→World→Prop}(h:XO P (QJ all i) f w fun f' w'=>C w'∧N f' w') (hg:ZY all f (QJ all i)=true:=by rfl):XE P all C i N f w:=⟨hg,h⟩
end
attribute [irreducible] XU XE
open Go.RowKit
abbrev fen (ro:Option Nat):Fence:={ Fence.wide with round:=ro }
def coll (ds:LN):List Deferred:=ds.map fun D=>{ target:=.collected D,args:=#[] }
structure Yt (n:Nat) (ds:LN) (a:Act) (f:Fr):Prop where
 size:a.tmps.size=n
 defers:a.defers=coll ds
 get:∀t,a.tmps.getD t undef=f t
theorem Yt.rel {n:Nat} {ds:LN} {a:Act} {f:Fr} (h:Yt n ds a f):yT n { a with defers:=[] } f:=⟨h.size,rfl,h.get⟩
theorem Yt.eval {n:Nat}{ds:LN}{a:Act}{f:Fr}(h:Yt n ds a f):a.eval=ev f:=by
 have:=h.rel.eval
 rw[←this];funext x;cases x <;> rfl
theorem Yt.put {n:Nat}{ds:LN}{a:Act}{f:Fr}(h:Yt n ds a f) {dst:Option Nat}(hd:∀d,dst=some d→d<n) (v:Value):Yt n ds (a.put dst v) (QU f dst v):=by
 have:=h.rel.put hd v
 cases dst with
 | none=>exact h
 | some d=>exact ⟨this.size,h.defers,this.get⟩
def Y4:Code→Nat→Bool
 | .region _ ops _,t=>ZJ ops.toList t
 | .seq a b,t=>Y4 a t || Y4 b t
 | .cond _ a b,t=>Y4 a t || Y4 b t
 | .block _ a,t=>Y4 a t
 | .loop a,t=>Y4 a t
 | .skip,_ | .exit _,_ | .label _,_ | .goto _,_ | .ret,_ | .rangeFunc ..,_=>false
 | _,_=>true
def wrG (D:List (Nat×Nat)):Code→Bool
 | .region _ ops _=>QbL D ops.toList
 | .seq a b=>wrG D a && wrG D b
 | .cond _ a b=>wrG D a && wrG D b
 | .block _ a=>wrG D a
 | .loop a=>wrG D a
 | .skip | .exit _ | .label _ | .goto _ | .ret | .rangeFunc ..=>true
 | _=>false
theorem Xy {D:List (Nat×Nat)}{t:Nat}(ht:YQ D t=false):∀c:Code,wrG D c=true→Y4 c t=false
 | .region _ ops _,h=>qN h ht
 | .seq a b,h=>by simp only[wrG,Bool.and_eq_true] at h;simp[Y4,Xy ht a h.1,Xy ht b h.2]
 | .cond _ a b,h=>by simp only[wrG,Bool.and_eq_true] at h;simp[Y4,Xy ht a h.1,Xy ht b h.2]
 | .block _ a,h=>Xy ht a (by simpa[wrG] using h)
 | .loop a,h=>Xy ht a (by simpa[wrG] using h)
 | .skip,_=>rfl
 | .exit _,_=>rfl
 | .label _,_=>rfl
 | .goto _,_=>rfl
 | .ret,_=>rfl
 | .rangeFunc ..,_=>rfl
 | .scope _,h=>by simp[wrG] at h
 | .refuse _,h=>by simp[wrG] at h
def WG (ro:Option Nat) (m:Nat) (P:Program) (n:Nat) (c:Code) (Q:Exit→LN→Fr→World→Prop) (ds:LN) (f:Fr) (w:World):Prop :=
 ∀a,Yt n ds a f→c.wpIn (fen ro) m P (fun e a' w'=>∃ds' f',Yt n ds' a' f'∧(∀t,Y4 c t=false→f' t=f t)∧Q e ds' f' w') a w
def QaG (K:LN→Fr→World→Prop) (Q:Exit→LN→Fr→World→Prop):Exit→LN→Fr→World→Prop
 | .normal,ds,f,w=>K ds f w
 | e,ds,f,w=>Q e ds f w
def QkW (id:Nat) (Q:Exit→LN→Fr→World→Prop):Exit→LN→Fr→World→Prop
 | .exit i,ds,f,w=>bif Nat.beq i id then Q .normal ds f w else Q (.exit i) ds f w
 | e,ds,f,w=>Q e ds f w
section
variable {ro:Option Nat} {m:Nat} {P:Program} {n:Nat} {Q:Exit→LN→Fr→World→Prop} {ds:LN} {f:Fr} {w:World}
theorem WG.mono {c:Code}{Q':Exit→LN→Fr→World→Prop}(h:WG ro m P n c Q ds f w) (hq:∀e ds f w,Q e ds f w→Q' e ds f w):WG ro m P n c Q' ds f w :=
 fun a ha=>wpIn_mono (h a ha) fun _ _ _ ⟨ds',f',h1,h2,h3⟩=>⟨ds',f',h1,h2,hq _ _ _ _ h3⟩
theorem WG.keeps {c:Code}(h:WG ro m P n c Q ds f w):WG ro m P n c (fun e ds' f' w'=>(∀t,Y4 c t=false→f' t=f t)∧Q e ds' f' w') ds f w :=
 fun a ha=>wpIn_mono (h a ha) fun _ _ _ ⟨ds',f',h1,h2,h3⟩=>⟨ds',f',h1,h2,h2,h3⟩
theorem Z2 (h:Q .normal ds f w):WG ro m P n .skip Q ds f w:=fun _ ha=>wpIn_skip ⟨ds,f,ha,fun _ _=>rfl,h⟩
theorem Jl {i:Nat}(h:Q (.exit i) ds f w):WG ro m P n (.exit i) Q ds f w:=fun _ ha=>wpIn_exit ⟨ds,f,ha,fun _ _=>rfl,h⟩
theorem JY (h:Q .ret ds f w):WG ro m P n .ret Q ds f w:=fun _ ha=>wpIn_ret ⟨ds,f,ha,fun _ _=>rfl,h⟩
theorem QZ {x y:Code}(h:WG ro m P n x (QaG (fun ds f w=>WG ro m P n y Q ds f w) Q) ds f w):WG ro m P n (.seq x y) Q ds f w:=by
 intro a ha
 refine wpIn_seq (wpIn_mono (h a ha) ?_)
 rintro e a' w' ⟨ds',f',h1,h2,h3⟩
 have k1:∀t,Y4 (.seq x y) t=false→f' t=f t:=fun t ht=>h2 t (by simp only[Y4,Bool.or_eq_false_iff] at ht;exact ht.1)
 cases e with
 | normal =>
  refine wpIn_mono (h3 a' h1) fun _ _ _ ⟨ds'',f'',g1,g2,g3⟩=>⟨ds'',f'',g1,fun t ht=>(g2 t ?_).trans (k1 t ht),g3⟩
  simp only[Y4,Bool.or_eq_false_iff] at ht;exact ht.2
 | exit id=>exact ⟨ds',f',h1,k1,h3⟩
 | goto l=>exact ⟨ds',f',h1,k1,h3⟩
 | ret=>exact ⟨ds',f',h1,k1,h3⟩
 | panic ch=>exact ⟨ds',f',h1,k1,h3⟩
 | outgrown=>exact ⟨ds',f',h1,k1,h3⟩
theorem QiR {α:Type}{x y:Code}(D:List (Nat×Nat)) (S:α→List (Nat×Value)) (I:α→LN→World→Prop) (hD:wrG D x=true)
  (h1:WG ro m P n x (QaG (fun ds' f' w'=>∃z,Yz f' (S z)∧I z ds' w') Q) ds f w)
  (h2:∀z g ds' w',I z ds' w'→WG ro m P n y Q ds' (Kt (S z) (mix D f g)) w'):WG ro m P n (.seq x y) Q ds f w:=by
 refine QZ (h1.keeps.mono ?_)
 rintro e ds' f' w' ⟨hk,hq⟩
 cases e with
 | normal =>
  obtain ⟨z,hs,hi⟩:=hq
  have h3:=h2 z f' ds' w' hi
  rw[YM (fun t ht=>hk t (Xy ht x hD)),Ye hs] at h3
  exact h3
 | exit id=>exact hq
 | goto l=>exact hq
 | ret=>exact hq
 | panic ch=>exact hq
 | outgrown=>exact hq
theorem JZ {c:Operand}{x y:Code}{t:Bool}(hc:ev f c=.bool t) (ht:t=true→WG ro m P n x Q ds f w) (hf:t=false→WG ro m P n y Q ds f w) :
  WG ro m P n (.cond c x y) Q ds f w:=by
 intro a ha
 have hc':a.eval c=.bool t:=by rw[ha.eval];exact hc
 refine wpIn_cond_split hc' (fun e=>wpIn_mono (ht e a ha) ?_) (fun e=>wpIn_mono (hf e a ha) ?_) <;>
  (rintro e a' w' ⟨ds',f',h1,h2,h3⟩
   refine ⟨ds',f',h1,fun t ht=>h2 t ?_,h3⟩
   simp only[Y4,Bool.or_eq_false_iff] at ht
   first | exact ht.1 | exact ht.2)
theorem QjY {c:Operand}{x y:Code}{p:Prop}[Decidable p] (hc:ev f c=.bool (decide p)) (ht:p→WG ro m P n x Q ds f w) (hf:¬p→WG ro m P n y Q ds f w) :
  WG ro m P n (.cond c x y) Q ds f w :=
 JZ hc (fun e=>ht (of_decide_eq_true e)) (fun e=>hf (of_decide_eq_false e))
theorem qm {c:Operand}{x y:Code}{p:Prop}[Decidable p] (hc:ev f c=.bool (decide p)) (hf:¬p→WG ro m P n y Q ds f w) (ht:p→WG ro m P n x Q ds f w) :
  WG ro m P n (.cond c x y) Q ds f w:=QjY hc ht hf
theorem yO {c:Operand}{x y:Code}(hc:ev f c=.bool true) (h:WG ro m P n x Q ds f w):WG ro m P n (.cond c x y) Q ds f w:=JZ hc (fun _=>h) (fun e=>by cases e)
theorem Kf {c:Operand}{x y:Code}(hc:ev f c=.bool false) (h:WG ro m P n y Q ds f w):WG ro m P n (.cond c x y) Q ds f w:=JZ hc (fun e=>by cases e) (fun _=>h)
theorem ZG {id:Nat}{c:Code}(h:WG ro m P n c (QkW id Q) ds f w):WG ro m P n (.block id c) Q ds f w:=by
 intro a ha
 refine wpIn_block (wpIn_mono (h a ha) ?_)
 rintro e a' w' ⟨ds',f',h1,h2,h3⟩
 have k1:∀t,Y4 (.block id c) t=false→f' t=f t:=fun t ht=>h2 t (by simpa[Y4] using ht)
 cases e with
 | exit i =>
  simp only[Exit.inBlock]
  simp only[QkW] at h3
  by_cases hi:i=id
  ·subst hi
   simp only[Nat.beq_refl,cond_true] at h3
   simp only[if_true]
   exact ⟨ds',f',h1,k1,h3⟩
  ·have hb:Nat.beq i id=false:=by
    cases e:Nat.beq i id with
    | false=>rfl
    | true=>exact absurd (Nat.eq_of_beq_eq_true e) hi
   rw[hb] at h3
   rw[if_neg hi]
   exact ⟨ds',f',h1,k1,h3⟩
 | normal=>exact ⟨ds',f',h1,k1,h3⟩
 | goto l=>exact ⟨ds',f',h1,k1,h3⟩
 | ret=>exact ⟨ds',f',h1,k1,h3⟩
 | panic ch=>exact ⟨ds',f',h1,k1,h3⟩
 | outgrown=>exact ⟨ds',f',h1,k1,h3⟩
end
def jv (l:List Oper):Bool:=l.all fun o=>match o.op with | .defer _=>false | _=>true
theorem Ky {l:List Oper}(h:jv l=true):∀o∈l,∀c,o.op≠.defer c:=fun o ho c e=>by
 have:=List.all_eq_true.1 h o ho
 rw[e] at this;cases this
section
variable {ro:Option Nat} {m:Nat} {P:Program} {n:Nat} {ds:LN}
theorem QcN {o:Oper}{a:Act}{f:Fr}{w:World}{K:Fr→World→Prop}{K':Act→World→Prop}{Q:Exit→Act→World→Prop}(h:Yt n ds a f) (hnd:∀c,o.op≠.defer c)
  (hK:∀v w',K (QU f o.dst v) w'→K' (a.put o.dst v) w') (hx:XO P o f w K):o.wpIn (fen ro) m P a w K' Q:=by
 unfold XO at hx
 refine ⟨fun _ _=>trivial,?_⟩
 have e:Oper.semAt (fen ro).round a.eval o=execOp (ev f) o:=by
  rw[h.eval]
  cases ro with
  | none=>rfl
  | some l=>exact Oper.semAt_some l _ _ hnd
 rw[e]
 generalize (execOp (ev f) o).run P w=r at hx
 cases r with
 | ok nx w' =>
  cases nx <;> simp only[upF] at hx <;> simp only[Oper.uponIn]
  case value v=>exact hK v w' hx
  case skip=>exact hK _ w' hx
  case enter g args =>
   refine ⟨fun h=>by simp[Fence.wide] at h,?_⟩
   refine (callsIn_wide (n:=m - 1)).2 (Calls.mono hx fun e w'' he=>?_)
   cases e with
   | returned v=>exact hK v w'' he
   | panicked c=>exact he.elim
   | outgrown=>exact he.elim
 | halt x w'=>exact hx.elim
theorem Kr {l:List Oper}{a:Act}{f:Fr}(h:Yt n ds a f) (hn:∀o∈l,∀d,o.dst=some d→d<n) (o:Oper):Region.wanted o (yielded l.toArray a.tmps)=ZY l f o:=Vm h.rel hn o
theorem QcP {Q:Exit→LN→Fr→World→Prop}{all:List Oper}(hn:∀o∈all,∀d,o.dst=some d→d<n) (hd:∀o∈all,∀c,o.op≠.defer c) (f0:Fr) :
  ∀(l:List Oper) (k:Nat) (a:Act) (f:Fr) (w:World),(∀j,l[j]?=all[k+j]?)→Yt n ds a f→(∀t,ZJ all t=false→f t=f0 t) →
   XL P all (fun f w=>Q .normal ds f w) l f w →
   wpOpsIn (fen ro) m P all.toArray (fun e a' w'=>∃ds' f',Yt n ds' a' f'∧(∀t,ZJ all t=false→f' t=f0 t)∧Q e ds' f' w') (List.range' k l.length) a w
 | [],_,a,f,w,_,hr,hk,h=>⟨ds,f,hr,hk,by unfold XL at h;exact h⟩
 | o::l,k,a,f,w,hl,hr,hk,h=>by
  have h0:all[k]?=some o:=by simpa using (hl 0).symm
  have hmem:o∈all:=List.mem_of_getElem? h0
  have ih:=fun a f w=>QcP (Q:=Q) hn hd f0 l (k+1) a f w (fun j=>by have:=hl (j+1);simpa[Nat.add_assoc,Nat.add_comm 1 j] using this)
  have next:∀v,(∀t,ZJ all t=false→QU f o.dst v t=f0 t):=fun v t ht=>(ZL (Xk hmem ht) v).trans (hk t ht)
  simp only[List.length_cons,List.range'_succ,wpOpsIn,List.getElem?_toArray,h0]
  rw[Kr hr hn o]
  unfold XL at h
  cases hg:ZY all f o with
  | false =>
   rw[hg] at h
   exact ⟨fun _ _=>trivial,ih _ _ _ (hr.put (hn o hmem) _) (next _) h⟩
  | true =>
   rw[hg] at h
   exact QcN hr (hd o hmem) (fun v w' hx=>ih _ _ _ (hr.put (hn o hmem) v) (next v) hx) h
theorem QH {Q:Exit→LN→Fr→World→Prop}{f:Fr}{w:World}{id:Nat}{l:List Oper}(hn:YS n l=true) (hd:jv l=true) (h:XL P l (fun f w=>Q .normal ds f w) l f w):WG ro m P n (.region id l.toArray false) Q ds f w:=by
 intro a ha
 refine wpIn_region ?_
 have:=QcP (ro:=ro) (m:=m) (YD hn) (Ky hd) f l 0 a f w (by simp) ha (fun _ _=>rfl) h
 simpa[List.range_eq_range',Y4] using this
attribute [local semireducible] XA in
theorem Ue {Q:Exit→Act→World→Prop}{all:List Oper}{C:World→Prop}{K:Fr→World→Prop}(hn:∀o∈all,∀d,o.dst=some d→d<n) (hd:∀o∈all,∀c,o.op≠.defer c) (f0:Fr)
  (hQ:∀a f w,Yt n ds a f→(∀t,ZJ all t=false→f t=f0 t)→K f w→Q .normal a w) :
  ∀(k:Nat) (ls:Array Bool) (a:Act) (f:Fr) (w:World),Yt n ds a f→(∀t,ZJ all t=false→f t=f0 t)→XA P all C K k ls f w→wpAnyIn (fen ro) m P .any all.toArray Q k ls a w
 | 0,_,a,f,w,hr,hk,h=>⟨h.1,hQ a f w hr hk h.2⟩
 | k+1,ls,a,f,w,hr,hk,h=>by
  refine ⟨fun h0=>hQ a f w hr hk (h.1 h0),fun i hi=>?_⟩
  unfold wpOpIn
  simp only[List.getElem?_toArray]
  cases ho:all[i]? with
  | none =>
   exfalso
   obtain ⟨_,o,hoo,_⟩:=mem_ready.1 hi
   simp[ho] at hoo
  | some o =>
   have hmem:o∈all:=List.mem_of_getElem? ho
   have h1:=h.2 i hi o ho
   have next:∀v,(∀t,ZJ all t=false→QU f o.dst v t=f0 t):=fun v t ht=>(ZL (Xk hmem ht) v).trans (hk t ht)
   simp only[]
   rw[Kr hr hn o]
   cases hg:ZY all f o with
   | false =>
    rw[hg] at h1
    exact ⟨fun _ _=>trivial,Ue hn hd f0 hQ k _ _ _ _ (hr.put (hn o hmem) _) (next _) h1⟩
   | true =>
    rw[hg] at h1
    exact QcN hr (hd o hmem) (fun v w' hx=>Ue hn hd f0 hQ k _ _ _ _ (hr.put (hn o hmem) v) (next v) hx.2) h1
theorem yP {Q:Exit→LN→Fr→World→Prop}{f:Fr}{w:World}{all:List Oper}{id:Nat}(C:World→Prop) (pl:List (Nat×Bool)) (hm:P.follows .mixedOrders=true) (hn:YS n all=true) (hd:jv all=true) (hp:yg all pl=true)
  (hC:C { w with drawn:=w.drawn+1 }) (h:XP P all C (fun f w=>Q .normal ds f w) pl f { w with drawn:=w.drawn+1 }):WG ro m P n (.region id all.toArray true) Q ds f w:=by
 intro a ha
 simp only[yg,Bool.and_eq_true,beq_iff_eq] at hp
 obtain ⟨⟨hs,hl⟩,hp⟩:=hp
 refine wpIn_region_any hm ?_
 have h1:=Zr hs pl _ _ _ (by simp) (.inl hC) hp h
 rw[hl] at h1
 have h2:=Ue (ro:=ro) (m:=m) (n:=n) (ds:=ds) (Q:=fun e a' w'=>∃ds' f',Yt n ds' a' f'∧(∀t,ZJ all t=false→f' t=f t)∧Q e ds' f' w') (YD hn) (Ky hd) f
  (fun a f' w hr hk hq=>⟨ds,f',hr,hk,hq⟩) _ _ a f _ ha (fun _ _=>rfl) h1
 simpa[Y4] using h2
end
section
variable {ro:Option Nat} {m:Nat} {P:Program} {n:Nat} {Q:Exit→LN→Fr→World→Prop} {ds:LN} {f:Fr} {w:World}
theorem VV {α:Type}{F:Fence}{c:Code}{Q:Exit→Act→World→Prop}{a:Act}{w:World}(J:α→Act→World→Prop) (μ:α→Nat) (z:α) (h₀:J z a w)
  (round:∀x a w,J x a w→c.wpIn F m P (Exit.then (fun a' w'=>∃x',μ x'<μ x∧J x' a' w') Q) a w):(Code.loop c).wpIn F m P Q a w:=by
 intro b k cs hro hb hr
 have key:∀j x a w,μ x=j→J x a w →
   ∃e a' w',Q e a' w'∧ArrivesIn (Machine.fenced P F) P (lone (b.atR a (.code c::.inLoop c::k)) cs w) b k cs e a' w':=by
  intro j
  induction j using Nat.strongRecOn with
  | _ j ih =>
   intro x a w hn hJ
   obtain ⟨e,a₁,w₁,hq,harr⟩:=round x a w hJ b (.inLoop c::k) cs hro hb hr
   cases e with
   | normal =>
    obtain ⟨x',hlt,hJ'⟩:=hq
    obtain ⟨e₂,a₂,w₂,hq₂,harr₂⟩:=ih (μ x') (hn ▸ hlt) x' a₁ w₁ rfl hJ'
    exact ⟨e₂,a₂,w₂,hq₂,.of_steps (StepsIn.trans harr (.one (fenced_calm hb hr rfl) stepR_inLoop)) harr₂⟩
   | exit id=>exact ⟨_,a₁,w₁,hq,.pass (x:=.inLoop c) rfl (fun _ _=>.inl (by simp)) harr⟩
   | goto l=>exact ⟨_,a₁,w₁,hq,.pass (x:=.inLoop c) rfl (fun _ _=>.inl (by simp)) harr⟩
   | ret=>exact ⟨_,a₁,w₁,hq,.pass (x:=.inLoop c) rfl (fun _ _=>.inl (by simp)) harr⟩
   | panic ch=>exact ⟨_,a₁,w₁,hq,.pass (x:=.inLoop c) rfl (fun _ _=>.inl (by simp)) harr⟩
   | outgrown=>exact ⟨_,a₁,w₁,hq,.pass (x:=.inLoop c) rfl (fun _ _=>.inl (by simp)) harr⟩
 obtain ⟨e,a',w',hq,harr⟩:=key _ z a w rfl h₀
 exact ⟨e,a',w',hq,.of_steps (.one (fenced_calm hb hr rfl) stepR_loop) harr⟩
theorem KJ {α:Type}{c:Code}(D:List (Nat×Nat)) (S:α→List (Nat×Value)) (I:α→LN→World→Prop) (μ:α→Nat) (hD:wrG D c=true) (z:α)
  (h0:Yz f (S z)) (hI:I z ds w)
  (round:∀x g ds' w',I x ds' w'→WG ro m P n c (QaG (fun ds'' f' w''=>∃x',μ x'<μ x∧Yz f' (S x')∧I x' ds'' w'') Q) ds' (Kt (S x) (mix D f g)) w'):WG ro m P n (.loop c) Q ds f w:=by
 intro a ha
 refine VV (fun (x:α) a' w'=>∃ds' f',Yt n ds' a' f'∧(∀t,Y4 c t=false→f' t=f t)∧Yz f' (S x)∧I x ds' w') μ z ⟨ds,f,ha,fun _ _=>rfl,h0,hI⟩ ?_
 rintro x a' w' ⟨ds',f',h1,h2,h3,h4⟩
 have h5:=round x f' ds' w' h4
 rw[YM (fun t ht=>h2 t (Xy ht c hD)),Ye h3] at h5
 refine wpIn_mono (h5 a' h1) ?_
 rintro e a'' w'' ⟨ds'',f'',g1,g2,g3⟩
 have k1:∀t,Y4 c t=false→f'' t=f t:=fun t ht=>(g2 t ht).trans (h2 t ht)
 have k2:∀t,Y4 (.loop c) t=false→f'' t=f t:=fun t ht=>k1 t (by simpa[Y4] using ht)
 cases e with
 | normal=>obtain ⟨x',hm,hs,hi⟩:=g3;exact ⟨x',hm,ds'',f'',g1,k1,hs,hi⟩
 | exit id=>exact ⟨ds'',f'',g1,k2,g3⟩
 | goto l=>exact ⟨ds'',f'',g1,k2,g3⟩
 | ret=>exact ⟨ds'',f'',g1,k2,g3⟩
 | panic ch=>exact ⟨ds'',f'',g1,k2,g3⟩
 | outgrown=>exact ⟨ds'',f'',g1,k2,g3⟩
end
def rqG (P:Program) (rs:List ResultVar) (R:Value→World→Prop):Exit→LN→Fr→World→Prop
 | .normal,ds,f,w=>(∀D∈ds,w.heap[D]?=some (.deferred (some [])))∧ds.Nodup∧∃vs,∀w',Step ds w w'→Vk P f w' rs vs∧R (tup vs) w'
 | .ret,ds,f,w=>(∀D∈ds,w.heap[D]?=some (.deferred (some [])))∧ds.Nodup∧∃vs,∀w',Step ds w w'→Vk P f w' rs vs∧R (tup vs) w'
 | _,_,_,_=>False
theorem Step.putObj (w:World) (D:Nat) (o:Obj):Step [D] w (w.putObj D o):=⟨rfl,rfl,rfl,by simp,fun k _ hk=>World.putObj_heap_other (fun e=>hk (by simp[e]))⟩
theorem UF {F:Fence}{m:Nat}{P:Program}{fn:Func}{tmps:Array Value}{R:Ending→World→Prop}:∀(ds:LN) (w:World),(∀D∈ds,w.heap[D]?=some (.deferred (some [])))→ds.Nodup →
  (∀w',Step ds w w'→∃v,(results fn tmps).run P w'=.ok v w'∧R (.returned v) w')→LeavesInM F m P fn tmps R (coll ds) .returning w
 | [],w,_,_,h=>h w (Step.refl _ _)
 | D::ds,w,hD,hn,h=>by
  refine ⟨by simp,.inl ⟨D,_,rfl,run_takeDeferred (hD D List.mem_cons_self),?_⟩⟩
  have hs:=Step.putObj w D (.deferred none)
  have hn':=List.nodup_cons.1 hn
  refine UF ds _ (fun E hE=>?_) hn'.2 (fun w' hw'=>h w' ?_)
  ·rw[World.putObj_heap_other (fun e=>hn'.1 (by rw[←e];exact hE))]
   exact hD E (List.mem_cons_of_mem _ hE)
  ·exact (hs.mono (fun b hb=>by simp at hb;simp[hb])).trans' (hw'.mono (fun b hb=>List.mem_cons_of_mem _ hb))
theorem QG.of_G {P:Program}{g:Nat}{fn:Func}{c:Code}{args:LV}{w:World}{R:Value→World→Prop}{n:Nat}{rs:List ResultVar}(m:Nat)
  (hf:P.funcs[g]?=some fn) (hb:fn.body=some c) (hn:fn.ntmps=n) (hrs:fn.results=rs.toArray) (hl:args.length≤n)
  (h:WG none m P n c (rqG P rs R) [] (ent args) w):QG P g args w R:=by
 unfold QG
 refine (callsIn_wide (n:=m)).1 (callsIn_of_wp_marks hf hb trivial (wpIn_mono (h _ ?_) ?_))
 ·refine ⟨by simp[hn];omega,rfl,fun t=>?_⟩
  have key:∀(l:LV) (t:Nat),l[t]?.getD undef=ent l t:=by
   intro l
   induction l with
   | nil=>intro t;rfl
   | cons v l ih=>intro t;cases t with | zero=>rfl | succ t=>simpa[ent] using ih t
  rw[←key]
  simp only[Array.getD_eq_getD_getElem?,Array.getElem?_append,List.size_toArray,List.getElem?_toArray]
  by_cases ht:t<args.length
  ·simp[ht]
  ·simp[ht,Array.getElem?_replicate];split <;> rfl
 ·rintro e a' w' ⟨ds',f',h1,_,h3⟩
  have fin:((∀D∈ds',w'.heap[D]?=some (.deferred (some [])))∧ds'.Nodup∧∃vs,∀w'',Step ds' w' w''→Vk P f' w'' rs vs∧R (tup vs) w'') →
    LeavesInM Fence.wide m P fn a'.tmps (fun e w'=>match e with | .returned v=>R v w' | _=>False) a'.defers .returning w':=by
   rintro ⟨hd,hnd,vs,hv⟩
   rw[h1.defers]
   refine UF ds' w' hd hnd fun w'' hw=>⟨tup vs,?_,(hv w'' hw).2⟩
   simp only[results,hrs,List.mapM_toArray,Sem.run_bind,Sem.run_map]
   rw[XB (a:={ a' with defers:=[] }) h1.rel _ (fun _=>rfl) (fun _ _=>rfl) rs vs (hv w'' hw).1]
   cases vs with
   | nil=>rfl
   | cons v vs=>cases vs with | nil=>rfl | cons u us=>rfl
  cases e with
  | normal=>exact fin h3
  | ret=>exact fin h3
  | exit id=>exact h3.elim
  | goto l=>exact h3.elim
  | panic c=>exact h3.elim
  | outgrown=>exact h3.elim
attribute [irreducible] WG
end Go.Lg
namespace Go.Proofs.YtgmifemhkjdblaaGreatDoor
open Go.Lg
def IxQ {α:Type}(q:α→Bool) (es:List α) (r:Value):Prop:=(r=.int .i64 (-1)∧∀m (hm:m<es.length),q (es[m]'hm)=false)∨∃(i:Nat) (hi:i<es.length),r=.int .i64 i∧q (es[i]'hi)=true∧∀m (hm:m<i),q (es[m]'(by omega))=false
theorem QhI {g:Nat}{fn:Func}[Fu Tryz.prog g fn] {cap:LV}{q:Ed→Bool}{L:LN}{w:World}{v:Value}{es:List Ed}(h:Uf L w.heap v es)
  (hk:∀(e:Ed) (w1:World),Step [] w w1→QG Tryz.prog g ([.agg (QC e).toArray]++cap) w1 fun r w'=>r=.bool (q e)∧Step [] w1 w') :
  QG Tryz.prog 155 [v,.func (.func g) #[] cap.toArray] w fun r w'=>Step [] w w'∧IxQ q es r:=by
 have hle:=h.le
 refine QG.of_W Tryz.func155 rfl Tryz.ntmps155 Tryz.results155 (by simp) ?_
 refine Qc<|Qf ?_
 refine Qg<|Qc<|Qb<|x (Qr h rfl)<|Qb<|xe ?_
 refine Qh<|QA (α:=Nat) [(4,5),(8,18)] (fun z=>[(8,.int .i64 z)]) (fun z w'=>z≤es.length∧Step [] w w'∧∀m (hm:m<es.length),m<z→q (es[m]'hm)=false) (fun z=>es.length - z) (by rfl) 0 ⟨rfl,trivial⟩ ⟨Nat.zero_le _,Step.refl _ _,fun m _ h0=>absurd h0 (Nat.not_lt_zero m)⟩ ?_
 rintro k g1 w1 ⟨hk1,hs1,hq⟩
 refine Qc<|x (QB rfl rfl)<|xe ?_
 refine Qg<|QD rfl (fun h9=>?_) (fun h9=>?_)
 ·refine Qz ?_
  refine Qc<|Qf ?_
  exact Ql ⟨[.int .i64 (-1)],⟨rfl,trivial⟩,hs1,.inl ⟨rfl,fun m hm=>hq m hm (by omega)⟩⟩
 have hlt:k<es.length:=by omega
 refine Qi ?_
 refine Qg<|Qh<|Qc<|Qb<|Qf ?_
 refine Qc<|Qb<|Qb<|Qb<|xie (h.ext hs1) rfl rfl hlt fun a14 h14=>x (QK h14 rfl rfl)<|xl rfl<|xc (first:=[]) (capt:=cap) rfl<|(hk (es[k]'hlt) w1 hs1).mono ?_
 rintro r2 w2 ⟨rfl,hs2⟩
 refine xe ?_
 refine QW rfl (fun h16=>?_) (fun h16=>?_)
 ·refine Qc<|Qb<|Qf ?_
  exact Ql ⟨[.int .i64 k],⟨rfl,trivial⟩,hs1.trans hs2,.inr ⟨k,hlt,rfl,h16,fun m hm=>hq m (by omega) hm⟩⟩
 refine Qi ?_
 refine Qw<|x (Qy rfl rfl ⟨by omega,by omega⟩)<|Qb<|xe ?_
 refine ⟨k+1,by omega,⟨rfl,trivial⟩,hlt,hs1.trans hs2,fun m hm hmk=>?_⟩
 by_cases e:m=k
 ·subst e;exact h16
 ·exact hq m hm (by omega)
theorem QhH {g:Nat}{fn:Func}[Fu Tryz.prog g fn] {cap:LV}{q:Int→Bool}{L:LN}{w:World}{v:Value}{es:LI}(h:QL L w.heap v es)
  (hk:∀(e:Int) (w1:World),Step [] w w1→QG Tryz.prog g ([.int .i64 e]++cap) w1 fun r w'=>r=.bool (q e)∧Step [] w1 w') :
  QG Tryz.prog 103 [v,.func (.func g) #[] cap.toArray] w fun r w'=>Step [] w w'∧IxQ q es r:=by
 have hle:=h.le
 refine QG.of_W Tryz.func103 rfl Tryz.ntmps103 Tryz.results103 (by simp) ?_
 refine Qc<|Qf ?_
 refine Qg<|Qc<|Qb<|x (Qr h rfl)<|Qb<|xe ?_
 refine Qh<|QA (α:=Nat) [(4,5),(8,18)] (fun z=>[(8,.int .i64 z)]) (fun z w'=>z≤es.length∧Step [] w w'∧∀m (hm:m<es.length),m<z→q (es[m]'hm)=false) (fun z=>es.length - z) (by rfl) 0 ⟨rfl,trivial⟩ ⟨Nat.zero_le _,Step.refl _ _,fun m _ h0=>absurd h0 (Nat.not_lt_zero m)⟩ ?_
 rintro k g1 w1 ⟨hk1,hs1,hq⟩
 refine Qc<|x (QB rfl rfl)<|xe ?_
 refine Qg<|QD rfl (fun h9=>?_) (fun h9=>?_)
 ·refine Qz ?_
  refine Qc<|Qf ?_
  exact Ql ⟨[.int .i64 (-1)],⟨rfl,trivial⟩,hs1,.inl ⟨rfl,fun m hm=>hq m hm (by omega)⟩⟩
 have hlt:k<es.length:=by omega
 refine Qi ?_
 refine Qg<|Qh<|Qc<|Qb<|Qf ?_
 refine Qc<|Qb<|Qb<|Qb<|xii (h.ext hs1) rfl rfl hlt fun a14 h14=>x (Qv h14 rfl)<|xl rfl<|xc (first:=[]) (capt:=cap) rfl<|(hk (es[k]'hlt) w1 hs1).mono ?_
 rintro r2 w2 ⟨rfl,hs2⟩
 refine xe ?_
 refine QW rfl (fun h16=>?_) (fun h16=>?_)
 ·refine Qc<|Qb<|Qf ?_
  exact Ql ⟨[.int .i64 k],⟨rfl,trivial⟩,hs1.trans hs2,.inr ⟨k,hlt,rfl,h16,fun m hm=>hq m (by omega) hm⟩⟩
 refine Qi ?_
 refine Qw<|x (Qy rfl rfl ⟨by omega,by omega⟩)<|Qb<|xe ?_
 refine ⟨k+1,by omega,⟨rfl,trivial⟩,hlt,hs1.trans hs2,fun m hm hmk=>?_⟩
 by_cases e:m=k
 ·subst e;exact h16
 ·exact hq m hm (by omega)
theorem QcB {g:Nat}{fn:Func}[Fu Tryz.prog g fn] {cap:LV}{q:Int→Bool}{L:LN}{w:World}{v:Value}{es:LI}(h:QL L w.heap v es)
  (hk:∀(e:Int) (w1:World),Step [] w w1→QG Tryz.prog g ([.int .i64 e]++cap) w1 fun r w'=>r=.bool (q e)∧Step [] w1 w') :
  QG Tryz.prog 55 [v,.func (.func g) #[] cap.toArray] w fun r w'=>r=.bool (es.any q)∧Step [] w w':=by
 refine QG.of_W Tryz.func55 rfl Tryz.ntmps55 Tryz.results55 (by simp) ?_
 refine Qc<|Qf ?_
 refine Qc<|Qb<|Qb<|xl rfl<|xf<|(QhH h hk).mono ?_
 rintro r1 w1 ⟨hs1,hr⟩
 refine Or.elim hr (fun hr=>?_) (fun hr=>?_)
 ·obtain ⟨rfl,hq⟩:=hr
  have e:es.any q=false:=by
   rw[List.any_eq_false]
   intro z hz
   obtain ⟨i,hi,rfl⟩:=List.getElem_of_mem hz
   rw[hq i hi];simp
  refine x (ZH rfl rfl)<|Qf ?_
  exact Ql ⟨[.bool false],⟨rfl,trivial⟩,by rw[e];rfl,hs1⟩
 ·obtain ⟨i,hi,rfl,h1,_⟩:=hr
  have e:es.any q=true:=List.any_eq_true.2 ⟨_,List.getElem_mem hi,h1⟩
  have e2:decide ((0:Int)≤(i:Int))=true:=by simp
  refine x (ZH rfl rfl)<|Qf ?_
  exact Ql ⟨[.bool (decide ((0:Int)≤(i:Int)))],⟨rfl,trivial⟩,by rw[e,e2];rfl,hs1⟩
theorem Qhi (es:List Ed) (s v:Int):nxt es s v=nxt (Zv es s) s v:=by
 induction es with
 | nil=>rfl
 | cons e es ih =>
  unfold Zv at *
  rw[List.filter_cons]
  by_cases h:e.1=s
  ·rw[if_pos (by simpa using h),nxt,nxt,ih]
  ·rw[if_neg (by simpa using h),nxt,if_neg (fun c=>h c.1),ih]
theorem QeS:∀(l:List Ed) (s v:Int) (i:Nat) (hi:i<l.length),(∀e∈l,e.1=s)→(l[i]'hi).2.1=v→(∀m (hm:m<i),(l[m]'(by omega)).2.1≠v)→nxt l s v=(l[i]'hi).2.2
 | e::l,s,v,0,_,hs,hv,_=>by rw[nxt,if_pos ⟨hs e List.mem_cons_self,hv⟩];rfl
 | e::l,s,v,i+1,hi,hs,hv,hm=>by
  rw[nxt,if_neg (fun c=>hm 0 (by omega) c.2)]
  exact QeS l s v i (by simpa using hi) (fun e he=>hs e (List.mem_cons_of_mem _ he)) hv (fun m hm'=>hm (m+1) (by omega))
theorem QeO:∀(l:List Ed) (s v:Int),(∀e∈l,e.2.1≠v)→nxt l s v=-1
 | [],_,_,_=>rfl
 | e::l,s,v,h=>by rw[nxt,if_neg (fun c=>h e List.mem_cons_self c.2)];exact QeO l s v (fun e he=>h e (List.mem_cons_of_mem _ he))
theorem QeV {b T:Nat}{n:Int}(e:Ed) (w:World) (hB:QS w.heap b T [.int .i64 n]) :
  QG Tryz.prog 156 ([.agg (QC e).toArray]++[.pointer (some ⟨b,0,none⟩)]) w fun r w'=>r=.bool (decide (e.2.1=n))∧Step [] w w':=by
 refine QG.of_W Tryz.func156 rfl Tryz.ntmps156 Tryz.results156 (by simp) ?_
 refine Qc<|xl rfl<|QR (us:=QC e) rfl fun b2 w1 hs1 hb2 hB2=>Qf ?_
 refine Qc<|x (Qa rfl)<|x (Qd hB2 rfl rfl)<|x (Qd (hB.ext hs1) rfl rfl)<|x (Zm rfl rfl)<|Qf ?_
 exact Ql ⟨[_],⟨rfl,trivial⟩,rfl,hs1⟩
theorem Qam {L:LN}{w:World}{va vm ve:Value}{st:Int}{a:QM}(h:Uf L w.heap ve a.ed) (ho:Q4 a) (s v:Int) (hs0:0≤s) (hs1:s<a.st) :
  QG Tryz.prog 105 [.agg #[va,.int .i64 st,vm,ve],.int .i64 s,.int .i64 v] w fun r w'=>r=.int .i64 (nxt a.ed s v)∧Step [] w w':=by
 have hst:=ho.st1
 refine QG.of_W Tryz.func105 rfl Tryz.ntmps105 Tryz.results105 (by simp) ?_
 refine Qc<|xl rfl<|QR (us:=[va,.int .i64 st,vm,ve]) rfl fun b3 w1 hs1 hb3 hB3=>xl rfl<|QR (us:=[.int .i64 v]) rfl fun b5 w2 hs2 hb5 hB5=>Qf ?_
 refine Qc<|x (Qq (hB3.ext hs2) rfl rfl)<|Qb<|xl rfl<|xf<|(Qa2 ((h.ext hs1).ext hs2) ho.eds (fun e he=>⟨(ho.ed e he).1,by have:=(ho.ed e he).2.1;omega⟩) s hs0 (by omega)).mono ?_
 rintro vo w3 ⟨hs3,hE⟩
 refine Qf ?_
 have hall:∀e∈Zv a.ed s,e.1=s:=fun e he=>(Z8 he).2
 rw[Qhi]
 refine Qc<|Qb<|x (Zj (l:=[]) (l':=[.tmp 5]))<|xl rfl<|xf<|(QhI (q:=fun e=>decide (e.2.1=v)) (cap:=[.pointer (some ⟨b5,0,none⟩)]) hE (fun e w4 hs4=>QeV e w4 ((hB5.ext hs3).ext hs4))).mono ?_
 rintro r4 w4 ⟨hs4,hr⟩
 have hW:=((hs1.trans hs2).trans hs3).trans hs4
 refine Or.elim hr (fun hr=>?_) (fun hr=>?_)
 ·obtain ⟨rfl,hq⟩:=hr
  have e1:nxt (Zv a.ed s) s v=-1:=QeO _ _ _ fun e he=>by
   obtain ⟨i,hi,rfl⟩:=List.getElem_of_mem he
   simpa using hq i hi
  rw[e1]
  refine Qf ?_
  refine Qg<|Qc<|Qb<|x (QB rfl rfl)<|xe ?_
  refine qg rfl ?_
  refine Qc<|Qf ?_
  exact Ql ⟨[.int .i64 (-1)],⟨rfl,trivial⟩,rfl,hW⟩
 ·obtain ⟨i,hi,rfl,h1,h2⟩:=hr
  have e1:nxt (Zv a.ed s) s v=((Zv a.ed s)[i]'hi).2.2:=QeS _ s v i hi hall (by simpa using h1) (fun m hm=>by simpa using h2 m hm)
  rw[e1]
  refine Qf ?_
  refine Qg<|Qc<|Qb<|x (QB rfl rfl)<|xe ?_
  refine Q3 rfl (fun h16=>absurd h16 (by omega)) (fun h16=>?_)
  refine Qi ?_
  refine Qc<|Qb<|Qb<|xie (hE.ext hs4) rfl rfl hi fun a19 h19=>x (Zd rfl)<|x (Qv (h19.fld 2 _ rfl) rfl)<|Qf ?_
  exact Ql ⟨[_],⟨rfl,trivial⟩,rfl,hW⟩
def flw (a:QM):Int→LI→Int×Nat
 | s,[]=>(s,0)
 | s,v::u=>if nxt a.ed s v<0 then (s,0) else ((flw a (nxt a.ed s v) u).1,(flw a (nxt a.ed s v) u).2+1)
theorem QeP {a:QM}(ho:Q4 a) {s v:Int}(h:¬nxt a.ed s v<0):nxt a.ed s v<a.st:=(ho.ed _ (V7 (by omega))).2.2.2.2
theorem zo {L L':LN}{w:World}{va vm ve vw:Value}{st:Int}{a:QM}{u:LI}(h:Uf L w.heap ve a.ed) (hw:QL L' w.heap vw u) (ho:Q4 a) (s:Int) (hs0:0≤s) (hs1:s<a.st) :
  QG Tryz.prog 58 [.agg #[va,.int .i64 st,vm,ve],.int .i64 s,vw] w fun r w'=>r=.tuple #[.int .i64 (flw a s u).1,.int .i64 (flw a s u).2]∧Step [] w w':=by
 have hle:=hw.le
 refine QG.of_W Tryz.func58 rfl Tryz.ntmps58 Tryz.results58 (by simp) ?_
 refine Qc<|xl rfl<|QR (us:=[va,.int .i64 st,vm,ve]) rfl fun b3 w1 hs1 hb3 hB3=>x Qe<|Qf ?_
 refine Qg<|Qc<|Qb<|x (Qr hw rfl)<|Qb<|xe ?_
 refine Qh<|QA (α:=Nat×Int) [(1,1),(6,10),(13,27)] (fun z=>[(1,.int .i64 z.2),(13,.int .i64 z.1)]) (fun z w'=>z.1≤u.length∧0≤z.2∧z.2<a.st∧Step [] w1 w'∧flw a s u=((flw a z.2 (u.drop z.1)).1,(flw a z.2 (u.drop z.1)).2+z.1)) (fun z=>u.length - z.1) (by rfl) (0,s) ⟨rfl,rfl,trivial⟩ ⟨Nat.zero_le _,hs0,by assumption,Step.refl _ _,by simp⟩ ?_
 rintro ⟨k,t⟩ g w2 ⟨hk,ht0,ht1,hs2,hf⟩
 simp only[] at hk ht0 ht1 hf
 have hW2:=hs1.trans hs2
 refine Qc<|x (QB rfl rfl)<|xe ?_
 refine Qg<|QD rfl (fun h14=>?_) (fun h14=>?_)
 ·refine Qz ?_
  refine Qc<|Qb<|Qb<|x (Qr hw rfl)<|x Qe<|Qf ?_
  rw[List.drop_of_length_le (by omega)] at hf
  have hk2:k=u.length:=by have h15:¬(k:Int)<(u.length:Int):=h14;omega
  refine Ql ⟨[.int .i64 t,.int .i64 u.length],⟨rfl,rfl,trivial⟩,?_,hW2⟩
  rw[hf,hk2]
  simp[flw,tup]
 have hlt:k<u.length:=by omega
 rw[Q5 hlt,flw] at hf
 refine Qi ?_
 refine Qg<|Qh<|Qc<|Qb<|xii (hw.ext hW2) rfl rfl hlt fun a16 h16=>x (Qv h16 rfl)<|x Qe<|Qf ?_
 refine Qc<|x (Qq (hB3.ext hs2) rfl rfl)<|Qb<|Qb<|xl rfl<|xf<|(Qam (h.ext hW2) ho t (u[k]'hlt) ht0 ht1).mono ?_
 rintro r3 w3 ⟨rfl,hs3⟩
 refine Qf ?_
 refine Qg<|Qc<|Qb<|x (QB rfl rfl)<|xe ?_
 refine Q3 rfl (fun h23=>?_) (fun h23=>?_)
 ·rw[if_pos h23] at hf
  refine Qc<|Qb<|Qb<|x Qe<|Qf ?_
  refine Ql ⟨[.int .i64 t,.int .i64 k],⟨rfl,rfl,trivial⟩,?_,hW2.trans hs3⟩
  rw[hf]
  simp[tup]
 rw[if_neg h23] at hf
 have hn:=QeP ho h23
 refine Qi ?_
 refine Qw<|Qb<|Qf ?_
 refine Qw<|x (Qy rfl rfl ⟨by omega,by omega⟩)<|Qb<|xe ?_
 refine ⟨(k+1,nxt a.ed t (u[k]'hlt)),by simp only[];omega,⟨rfl,rfl,trivial⟩,hlt,by simp only[];omega,hn,hs2.trans hs3,?_⟩
 simp only[]
 rw[hf]
 simp;omega
def rchd (a:QM) (u:LI):Int×Bool:=if a.st=0 then (0,false) else ((flw a 0 u).1,decide (((flw a 0 u).2:Int)=(u.length:Int)))
theorem QaT {L L':LN}{w:World}{va vm ve vw:Value}{a:QM}{u:LI}(h:Uf L w.heap ve a.ed) (hw:QL L' w.heap vw u) (ho:Q4 a) :
  QG Tryz.prog 53 [.agg #[va,.int .i64 a.st,vm,ve],vw] w fun r w'=>r=.tuple #[.int .i64 (rchd a u).1,.bool (rchd a u).2]∧Step [] w w':=by
 have h0:=ho.st0
 refine QG.of_W Tryz.func53 rfl Tryz.ntmps53 Tryz.results53 (by simp) ?_
 refine Qc<|xl rfl<|QR (us:=[va,.int .i64 a.st,vm,ve]) rfl fun b2 w1 hs1 hb2 hB2=>x Qe<|Qf ?_
 refine Qg<|Qc<|x (Qa rfl)<|x (Qd hB2 rfl rfl)<|x (Zm rfl rfl)<|xe ?_
 unfold rchd
 refine Q3 rfl (fun h10=>?_) (fun h10=>?_)
 ·refine Qc<|x Qe<|Qf ?_
  exact Ql ⟨[.int .i64 0,.bool false],⟨rfl,rfl,trivial⟩,by rw[if_pos h10];rfl,hs1⟩
 rw[if_neg h10]
 refine Qi ?_
 refine Qc<|x (Qq hB2 rfl rfl)<|Qb<|xl rfl<|xf<|(zo (h.ext hs1) (hw.ext hs1) ho 0 (by omega) (by omega)).mono ?_
 rintro r2 w2 ⟨rfl,hs2⟩
 refine Qb<|x (Qj rfl rfl)<|x (Qj rfl rfl) <|
  x Qe<|Qf ?_
 refine Qc<|Qb<|Qb<|Qb<|x (Qr hw rfl)<|x (Zm rfl rfl)<|x Qe<|Qf ?_
 exact Ql ⟨[_,_],⟨rfl,rfl,trivial⟩,rfl,hs1.trans hs2⟩
def gens (a:QM) (u:LI):Bool:=if Y8 a≠0 then false else (rchd a u).2
theorem yN {L L':LN}{w:World}{va vm ve vw:Value}{a:QM}{u:LI}(h:Zp L w.heap va vm ve a) (hw:QL L' w.heap vw u) :
  QG Tryz.prog 15 [.agg #[va,.int .i64 a.st,vm,ve],vw] w fun r w'=>r=.tuple #[.bool (gens a u),.int .i64 (Y8 a)]∧Step [] w w':=by
 refine QG.of_W Tryz.func15 rfl Tryz.ntmps15 Tryz.results15 (by simp) ?_
 refine Qc<|xl rfl<|QR (us:=[va,.int .i64 a.st,vm,ve]) rfl fun b2 w1 hs1 hb2 hB2=>x Qe<|Qf ?_
 refine Qg<|Qc<|x (Qq hB2 rfl rfl)<|xl rfl<|xf<|(YP (h.ext hs1)).mono ?_
 rintro r2 w2 ⟨rfl,hs2⟩
 refine Qf ?_
 refine Qc<|Qb<|x (Q6 rfl rfl)<|xe ?_
 unfold gens
 refine Q3 rfl (fun h12=>?_) (fun h12=>?_)
 ·refine Qc<|Qb<|x Qe<|Qf ?_
  exact Ql ⟨[_,_],⟨rfl,rfl,trivial⟩,by rw[if_pos h12];rfl,hs1.trans hs2⟩
 have hc:Y8 a=0:=Decidable.not_not.1 h12
 rw[if_neg h12,hc]
 have hs12:=hs1.trans hs2
 refine Qi ?_
 refine Qc<|x (Qq (hB2.ext hs2) rfl rfl)<|Qb<|xl rfl<|xf<|(QaT (h.ed.ext hs12) (hw.ext hs12) ((Zt a).1 hc)).mono ?_
 rintro r3 w3 ⟨rfl,hs3⟩
 refine Qb<|x (Qj rfl rfl) <|
  x (Qj rfl rfl)<|x Qe<|Qf ?_
 refine Qc<|Qb<|x Qe<|Qf ?_
 exact Ql ⟨[_,_],⟨rfl,rfl,trivial⟩,rfl,hs12.trans hs3⟩
def cks (a:QM) (s:Int):Int:=if Y8 a≠0 then Y8 a else if s<0∨a.st≤s then 2 else 0
theorem XQ {L:LN}{w:World}{va vm ve:Value}{a:QM}(h:Zp L w.heap va vm ve a) (s:Int) :
  QG Tryz.prog 54 [.agg #[va,.int .i64 a.st,vm,ve],.int .i64 s] w fun r w'=>r=.int .i64 (cks a s)∧Step [] w w':=by
 refine QG.of_W Tryz.func54 rfl Tryz.ntmps54 Tryz.results54 (by simp) ?_
 refine Qc<|xl rfl<|QR (us:=[va,.int .i64 a.st,vm,ve]) rfl fun b2 w1 hs1 hb2 hB2=>Qf ?_
 refine Qg<|Qc<|x (Qq hB2 rfl rfl)<|xl rfl<|xf<|(YP (h.ext hs1)).mono ?_
 rintro r2 w2 ⟨rfl,hs2⟩
 refine Qf ?_
 unfold cks
 have hs12:=hs1.trans hs2
 refine Qc<|Qb<|x (Q6 rfl rfl)<|xe ?_
 refine Q3 rfl (fun h9=>?_) (fun h9=>?_)
 ·refine Qc<|Qb<|Qf ?_
  exact Ql ⟨[_],⟨rfl,trivial⟩,by rw[if_pos h9];rfl,hs12⟩
 rw[if_neg h9]
 refine Qi ?_
 refine Qg<|QV (α:=Unit) [(11,18)] (fun z=>[(18,.bool (decide (s<0∨a.st≤s)))]) (fun z w'=>w'=w2) (by rfl) ?_ ?_
 ·refine Qw<|Qb<|xb (QB rfl rfl) (fun h12=>?_) (fun h12=>?_)
  ·refine Qb<|xs rfl<|xs rfl<|xs rfl<|xs rfl<|x (Qn rfl)<|xe ?_
   exact ⟨(),⟨by rw[decide_eq_true (Or.inl h12)];rfl,trivial⟩,rfl⟩
  refine Qb<|Qb<|x (Qa rfl)<|x (Qd (hB2.ext hs2) rfl rfl)<|x (ZH rfl rfl)<|x (Qn rfl)<|xe ?_
  exact ⟨(),⟨by show Value.bool (decide (a.st≤s))=_;simp[h12],trivial⟩,rfl⟩
 rintro z g w3 rfl
 refine Q3 rfl (fun h18=>?_) (fun h18=>?_)
 ·refine Qc<|Qf ?_
  exact Ql ⟨[_],⟨rfl,trivial⟩,by rw[if_pos h18];rfl,hs12⟩
 refine Qi ?_
 refine Qc<|Qf ?_
 exact Ql ⟨[_],⟨rfl,trivial⟩,by rw[if_neg h18];rfl,hs12⟩
theorem j9 {a:QM}{s:Int}(h:cks a s=0):Q4 a∧0≤s∧s<a.st:=by
 unfold cks at h
 split at h
 ·rename_i h1;exact absurd h h1
 ·rename_i h1
  split at h
  ·cases h
  ·rename_i h2;exact ⟨(Zt a).1 (Decidable.not_not.1 h1),by omega,by omega⟩
theorem Qg7 {L:LN}{b T:Nat}{va:Value}{al:LI}{us:LV}(e:Int) (w:World) (hB:QS w.heap b T (va::us)) (hA:QL L w.heap va al) :
  QG Tryz.prog 56 ([.int .i64 e]++[.pointer (some ⟨b,0,none⟩)]) w fun r w'=>r=.bool (decide (e∉al))∧Step [] w w':=by
 refine QG.of_W Tryz.func56 rfl Tryz.ntmps56 Tryz.results56 (by simp) ?_
 refine Qc<|Qf ?_
 refine Qc<|x (Qa rfl)<|x (Qd hB rfl rfl)<|Qb<|xl rfl<|xf<|(Yn hA e).mono ?_
 rintro r1 w1 ⟨rfl,rfl⟩
 refine x (Zo rfl)<|Qf ?_
 refine Ql ⟨[_],⟨rfl,trivial⟩,?_,Step.refl _ _⟩
 show Value.bool (!decide (e∈al))=_
 rw[decide_not]
def QaQ (a:QM) (s:Int) (u:LI):Int:=if cks a s≠0 then cks a s else if (u.any fun e=>decide (e∉a.al))=true then 9 else 0
theorem QbA {L L':LN}{w:World}{va vm ve vw:Value}{a:QM}{u:LI}(h:Zp L w.heap va vm ve a) (hw:QL L' w.heap vw u) (s:Int) :
  QG Tryz.prog 16 [.agg #[va,.int .i64 a.st,vm,ve],.int .i64 s,vw] w fun r w'=>Step [] w w'∧r=if QaQ a s u≠0 then .tuple #[.int .i64 0,.int .i64 0,.int .i64 (QaQ a s u)] else .tuple #[.int .i64 (flw a s u).1,.int .i64 (flw a s u).2,.int .i64 0]:=by
 refine QG.of_W Tryz.func16 rfl Tryz.ntmps16 Tryz.results16 (by simp) ?_
 refine Qc<|xl rfl<|QR (us:=[va,.int .i64 a.st,vm,ve]) rfl fun b3 w1 hs1 hb3 hB3=>x Qe<|x Qe<|Qf ?_
 refine Qg<|Qc<|x (Qq hB3 rfl rfl)<|Qb<|xl rfl<|xf<|(XQ (h.ext hs1) s).mono ?_
 rintro r2 w2 ⟨rfl,hs2⟩
 refine Qf ?_
 have hs12:=hs1.trans hs2
 unfold QaQ
 refine Qc<|Qb<|x (Q6 rfl rfl)<|xe ?_
 refine Q3 rfl (fun h13=>?_) (fun h13=>?_)
 ·refine Qc<|Qb<|x Qe<|x Qe<|Qf ?_
  exact Ql ⟨[_,_,_],⟨rfl,rfl,rfl,trivial⟩,hs12,by rw[if_pos h13,if_pos h13];rfl⟩
 have hc:cks a s=0:=Decidable.not_not.1 h13
 obtain ⟨ho,h0,h1⟩:=j9 hc
 rw[if_neg h13]
 refine Qi ?_
 refine Qg<|Qc<|Qb<|x (Zj (l:=[]) (l':=[.tmp 3]))<|xl rfl<|xf<|(QcB (q:=fun e=>decide (e∉a.al)) (cap:=[.pointer (some ⟨b3,0,none⟩)]) (hw.ext hs12) (fun e w4 hs4=>Qg7 e w4 ((hB3.ext hs2).ext hs4) ((h.al.ext hs12).ext hs4))).mono ?_
 rintro r3 w3 ⟨rfl,hs3⟩
 refine xe ?_
 have hs13:=hs12.trans hs3
 refine QW rfl (fun h17=>?_) (fun h17=>?_)
 ·rw[if_pos h17]
  refine Qc<|x Qe<|x Qe<|Qf ?_
  exact Ql ⟨[_,_,_],⟨rfl,rfl,rfl,trivial⟩,hs13,by rw[if_pos (by decide)];rfl⟩
 rw[if_neg (by rw[h17];simp)]
 refine Qi ?_
 refine Qc<|x (Qq ((hB3.ext hs2).ext hs3) rfl rfl)<|Qb<|Qb<|xl rfl<|xf<|(zo (h.ed.ext hs13) (hw.ext hs13) ho s h0 h1).mono ?_
 rintro r4 w4 ⟨rfl,hs4⟩
 refine Qb<|x (Qj rfl rfl) <|
  x (Qj rfl rfl)<|x Qe<|Qf ?_
 refine Qc<|Qb<|Qb<|x Qe<|x Qe<|Qf ?_
 exact Ql ⟨[_,_,_],⟨rfl,rfl,rfl,trivial⟩,hs13.trans hs4,rfl⟩
def enb (a:QM) (s:Int):LI:=(Zv a.ed s).map (·.2.1)
theorem QfM {l:List Ed}{k:Nat}(h:k<l.length):(l.take (k+1)).map (·.2.1)=(l.take k).map (·.2.1)++[(l[k]'h).2.1]:=by
 rw[List.take_add_one,List.getElem?_eq_getElem h,List.map_append];rfl
theorem KL {L:LN}{w:World}{va vm ve:Value}{a:QM}(h:Zp L w.heap va vm ve a) (s:Int) :
  QG Tryz.prog 17 [.agg #[va,.int .i64 a.st,vm,ve],.int .i64 s] w fun r w'=>Step [] w w'∧∃v,r=.tuple #[v,.int .i64 (cks a s)]∧(cks a s≠0→v=Za)∧(cks a s=0→Qs 3 w.heap.size w' v (enb a s)):=by
 refine QG.of_W Tryz.func17 rfl Tryz.ntmps17 Tryz.results17 (by simp) ?_
 refine Qc<|xl rfl<|QR (us:=[va,.int .i64 a.st,vm,ve]) rfl fun b2 w1 hs1 hb2 hB2=>x Qe<|Qf ?_
 refine Qg<|Qc<|x (Qq hB2 rfl rfl)<|Qb<|xl rfl<|xf<|(XQ (h.ext hs1) s).mono ?_
 rintro r2 w2 ⟨rfl,hs2⟩
 refine Qf ?_
 have hs12:=hs1.trans hs2
 refine Qc<|Qb<|x (Q6 rfl rfl)<|xe ?_
 refine Q3 rfl (fun h14=>?_) (fun h14=>?_)
 ·refine Qc<|Qb<|x Qe<|Qf ?_
  exact Ql ⟨[Za,_],⟨rfl,rfl,trivial⟩,hs12,Za,rfl,fun _=>rfl,fun e=>absurd e h14⟩
 have hc:cks a s=0:=Decidable.not_not.1 h14
 obtain ⟨ho,h0,h1⟩:=j9 hc
 have hst:=ho.st1
 rw[hc]
 refine Qi ?_
 refine Qc<|Qf ?_
 refine Qg<|Qc<|x (Qq (hB2.ext hs2) rfl rfl)<|Qb<|xl rfl<|xf<|(Qa2 (h.ed.ext hs12) ho.eds (fun e he=>⟨(ho.ed e he).1,by have:=(ho.ed e he).2.1;omega⟩) s h0 (by omega)).mono ?_
 rintro vo w3 ⟨hs3,hE⟩
 refine x (Qr hE rfl)<|Qb<|xe ?_
 have hW3:=hs12.trans hs3
 have hz3:=hW3.size
 have hlen:=X0 a.ed s
 have hel:=ho.ed_le
 refine Zf (Zv a.ed s) fun os hos=>?_
 rw[hos] at hE hlen
 refine Qh<|QA (α:=Nat×Value) [(7,7),(9,9),(20,29)] (fun z=>[(7,z.2),(20,.int .i64 z.1)]) (fun z w'=>z.1≤os.length∧Step [] w3 w'∧Qs 3 w3.heap.size w' z.2 ((os.take z.1).map (·.2.1))) (fun z=>os.length - z.1) (by rfl) (0,nS) ⟨rfl,by rw[hos];rfl,trivial⟩ ⟨Nat.zero_le _,Step.refl _ _,QP _ _ _ _⟩ ?_
 rintro ⟨k,v⟩ g w4 ⟨hk,hs4,ho4⟩
 simp only[] at hk ho4
 have hz4:=hs4.size
 refine Qc<|x (QB rfl rfl)<|xe ?_
 refine Qg<|QD rfl (fun h21=>?_) (fun h21=>?_)
 ·refine Qz ?_
  refine Qc<|Qb<|x Qe<|Qf ?_
  rw[List.take_of_length_le (by rw[hos] at h21;omega)] at ho4
  refine Ql ⟨[v,_],⟨rfl,rfl,trivial⟩,hW3.trans hs4,v,rfl,fun e=>absurd rfl e,fun _=>?_⟩
  unfold enb
  rw[hos];exact Zc ho4 hz3
 have hlt:k<os.length:=by rw[hos] at h21;omega
 refine Qi ?_
 refine Qg<|Qh<|Qc<|xie (hE.ext hs4) rfl rfl hlt fun a22 h22=>x (QK h22 rfl rfl)<|xl rfl<|Qu (us:=[.int .i64 0,.int .i64 0,.int .i64 0]) rfl fun b9 w5 hs5 hb9 hB9=>xl rfl<|Qo (us:=QC (os[k]'hlt)) hB9 rfl rfl rfl rfl ⟨rfl,rfl,rfl,trivial⟩ fun w6 hs6 hB96 =>
  xe ?_
 have hs46:Step [] w4 w6:=hs5.then1 hs6 hb9
 have ho6:=Qt ho4 hs46
 refine Qw<|Qb<|x (Qa rfl)<|x (Qd hB96 rfl rfl)<|xl rfl<|QI (us:=[[.int .i64 (os[k]'hlt).2.1]]) rfl rfl (by decide) (by simp) ⟨rfl,rfl,trivial⟩ fun b27 w7 hs7 hb27 hB27=>?_
 have ho7:=Qt ho6 hs7
 have hz7:=(hs46.trans hs7).size
 have htl:((os.take k).map (·.2.1)).length≤131072:=by simp;omega
 refine xl rfl<|Q2 (news:=[.int .i64 (os[k]'hlt).2.1]) (L:=[]) ho7 rfl rfl rfl (hB27.at (by simp)) (by simp[Value.oneCell']) (by omega) (by omega) fun v8 w8 ho8 hs8 hn8=>Qf ?_
 have hge:=Qp ho4
 refine Qw<|x (Qy rfl rfl ⟨by omega,by omega⟩)<|Qb<|xe ?_
 refine ⟨(k+1,v8),by simp only[];omega,⟨rfl,rfl,trivial⟩,hlt,((hs4.trans hs46).trans hs7).then hs8 (fun b hb=>.inr (hge b hb).1),?_⟩
 simp only[]
 rw[QfM hlt]
 exact Qs.snoc ho8
def Qbn:List QM→LI→Int
 | a::l,t::ts=>if t<0∨a.st≤t then 2 else Qbn l ts
 | _,_=>0
def ckT (l:List QM) (t:LI):Int:=if Kc l≠0 then Kc l else if t.length≠l.length then 4 else Qbn l t
theorem qG {L L':LN}{w:World}{v vt:Value}{ps:List AV}{ts:LI}(h:YJ L w.heap v ps) (ht:QL L' w.heap vt ts) :
  QG Tryz.prog 109 [v,vt] w fun r w'=>r=.int .i64 (ckT (ps.map (·.a)) ts)∧Step [] w w':=by
 have hle:=YJ.le h
 have hle2:=ht.le
 refine QG.of_W Tryz.func109 rfl Tryz.ntmps109 Tryz.results109 (by simp) ?_
 refine Qc<|Qf ?_
 refine Qg<|Qc<|Qb<|xl rfl<|xf<|(q6 h).mono ?_
 rintro r1 w1 ⟨rfl,hs1⟩
 refine Qf ?_
 unfold ckT
 refine Qc<|Qb<|x (Q6 rfl rfl)<|xe ?_
 refine Q3 rfl (fun h11=>?_) (fun h11=>?_)
 ·refine Qc<|Qb<|Qf ?_
  exact Ql ⟨[_],⟨rfl,trivial⟩,by rw[if_pos h11];rfl,hs1⟩
 rw[if_neg h11]
 refine Qi ?_
 refine Qg<|Qc<|Qb<|x (Qr ht rfl)<|Qb<|x (Qr h.arr rfl)<|x (Q6 rfl rfl)<|xe ?_
 refine Q3 rfl (fun h17=>?_) (fun h17=>?_)
 ·refine Qc<|Qf ?_
  exact Ql ⟨[_],⟨rfl,trivial⟩,by rw[if_pos (by rw[List.length_map];omega)];rfl,hs1⟩
 have hl:ts.length=ps.length:=by omega
 rw[if_neg (by rw[List.length_map];omega)]
 refine Qi ?_
 refine Qg<|Qc<|Qb<|x (Qr h.arr rfl)<|Qb<|xe ?_
 refine Qh<|QA (α:=Nat) [(4,4),(6,7),(20,39)] (fun z=>[(20,.int .i64 z)]) (fun z w'=>z≤ps.length∧Step [] w1 w'∧Qbn (ps.map (·.a)) ts=Qbn ((ps.drop z).map (·.a)) (ts.drop z)) (fun z=>ps.length - z) (by rfl) 0 ⟨rfl,trivial⟩ ⟨Nat.zero_le _,Step.refl _ _,rfl⟩ ?_
 rintro k g w2 ⟨hk,hs2,hr⟩
 have hW2:=hs1.trans hs2
 refine Qc<|x (QB rfl rfl)<|xe ?_
 refine Qg<|QD rfl (fun h21=>?_) (fun h21=>?_)
 ·refine Qz ?_
  refine Qc<|Qf ?_
  refine Ql ⟨[_],⟨rfl,trivial⟩,?_,hW2⟩
  rw[hr,List.drop_of_length_le (by omega)];rfl
 have hlt:k<ps.length:=by omega
 have hlt':k<ts.length:=by omega
 rw[Q5 hlt,Q5 hlt',List.map_cons,Qbn] at hr
 have hA:=h.each _ (List.getElem_mem hlt)
 refine Zf (ps[k]'hlt) fun pk hpk=>?_
 rw[hpk] at hA hr
 refine Qi ?_
 refine Qg<|Qh<|Qc<|Qb<|xig XR (h.arr.ext hW2) rfl rfl hlt fun a23 h23=>?_
 rw[hpk] at h23
 refine x (QK h23 rfl rfl)<|xl rfl<|Qu (us:=[nS,.int .i64 0,nS,nS]) rfl fun b7 w3 hs3 hb7 hB7=>x Qe <|
  xl rfl<|Qo (us:=Zb pk) hB7 rfl rfl rfl rfl ⟨hA.al.one,rfl,hA.mr.one,hA.ed.one,trivial⟩ fun w4 hs4 hB74=>xe ?_
 have hs24:Step [] w2 w4:=hs3.then1 hs4 hb7
 have hW4:=hW2.trans hs24
 refine Zf (ts[k]'hlt') fun tk htk=>?_
 rw[htk] at hr
 refine QV (α:=Unit) [(25,38)] (fun z=>[(38,.bool (decide (tk<0∨pk.a.st≤tk)))]) (fun z w'=>Step [] w4 w') (by rfl) ?_ ?_
 ·refine QT (Step [] w4) [(0,true),(1,true),(2,true),(3,true),(4,true),(5,true),(6,true),(7,true),(8,true),(9,true),(10,true),(11,true),(12,true),(13,true)] Tryz.mixed (by rfl) (by kernel_rfl) (Step.drew _ _) ?_
  refine p (fun _=>Qm)<|p (fun _=>Qm)<|pii rfl (ht.ext hW4) rfl rfl hlt' fun a27 h27=>?_
  rw[htk] at h27
  refine pq (fun _ hc=>Qv (h27.ext hc) rfl) <|
   pb (fun _=>QB rfl rfl) (fun h29=>?_) (fun h29=>?_)
  ·refine p (fun _=>Qm)<|Lg.ps<|Lg.ps<|Lg.ps<|Lg.ps<|Lg.ps<|Lg.ps<|Lg.ps<|p (fun _=>Qn rfl)<|pe ?_
   exact ⟨(),⟨by rw[decide_eq_true (Or.inl h29)];rfl,trivial⟩,Step.drew _ _⟩
  refine p (fun _=>Qm)<|p (fun _=>Qm)<|p (fun _=>Qm)<|pii rfl (ht.ext hW4) rfl rfl hlt' fun a33 h33=>?_
  rw[htk] at h33
  refine pq (fun _ hc=>Qv (h33.ext hc) rfl) <|
   p (fun _=>Qa rfl)<|pq (fun _ hc=>Qd (hB74.ext hc) rfl rfl)<|p (fun _=>ZH rfl rfl)<|p (fun _=>Qn rfl)<|pe ?_
  exact ⟨(),⟨by show Value.bool (decide (pk.a.st≤tk))=_;simp[h29],trivial⟩,Step.drew _ _⟩
 rintro z g w5 hs5
 refine Q3 rfl (fun h38=>?_) (fun h38=>?_)
 ·refine Qc<|Qf ?_
  exact Ql ⟨[_],⟨rfl,trivial⟩,by rw[hr,if_pos h38];rfl,hW4.trans hs5⟩
 refine Qi ?_
 refine Qw<|x (Qy rfl rfl ⟨by omega,by omega⟩)<|Qb<|xe ?_
 exact ⟨k+1,by omega,⟨rfl,trivial⟩,hlt,(hs2.trans hs24).trans hs5,by rw[hr,if_neg h38]⟩
theorem QfY {l:List QM}(h:Kc l=0):l.length≤12∧∀a∈l,Q4 a:=by
 unfold Kc at h
 split at h
 ·cases h
 ·rename_i h1;exact ⟨by omega,(U4 l).1 h⟩
theorem zy:∀{l:List QM}{t:LI},t.length=l.length→(Qbn l t=0↔Vt l t)
 | [],t,hl=>by
  have:t=[]:=List.eq_nil_of_length_eq_zero hl
  subst this
  exact ⟨fun _=>⟨rfl,fun i h=>by simp at h⟩,fun _=>rfl⟩
 | a::l,[],hl=>by simp at hl
 | a::l,t::ts,hl=>by
  rw[Qbn]
  have ih:=zy (l:=l) (t:=ts) (by simpa using hl)
  constructor
  ·intro h
   split at h
   ·cases h
   ·rename_i h1
    exact Vt.cons (by omega) (by omega) (ih.1 h)
  ·intro h
   have h0:=h.2 0 (by simp) (by simp)
   simp only[List.getElem_cons_zero] at h0
   rw[if_neg (by omega),ih]
   exact ⟨by simpa using hl,fun i h2 h3=>h.2 (i+1) (by simpa using h2) (by simpa using h3)⟩
theorem Qaa {l:List QM}{t:LI}(h:ckT l t=0):l.length≤12∧(∀a∈l,Q4 a)∧Vt l t:=by
 unfold ckT at h
 split at h
 ·rename_i h1;exact absurd h h1
 ·rename_i h1
  split at h
  ·cases h
  ·rename_i h2
   obtain ⟨h3,h4⟩:=QfY (Decidable.not_not.1 h1)
   exact ⟨h3,h4,(zy (by omega)).1 h⟩
def ckV (l:List QM) (t:LI) (v:Int):Int:=if ckT l t≠0 then ckT l t else if v∉evs l then 9 else 0
theorem qH {L L':LN}{w:World}{v vt:Value}{ps:List AV}{ts:LI}(h:YJ L w.heap v ps) (ht:QL L' w.heap vt ts) (e:Int) :
  QG Tryz.prog 61 [v,vt,.int .i64 e] w fun r w'=>r=.int .i64 (ckV (ps.map (·.a)) ts e)∧Step [] w w':=by
 refine QG.of_W Tryz.func61 rfl Tryz.ntmps61 Tryz.results61 (by simp) ?_
 refine Qc<|Qf ?_
 refine Qg<|Qc<|Qb<|Qb<|xl rfl<|xf<|(qG h ht).mono ?_
 rintro r1 w1 ⟨rfl,hs1⟩
 refine Qf ?_
 unfold ckV
 refine Qc<|Qb<|x (Q6 rfl rfl)<|xe ?_
 refine Q3 rfl (fun h12=>?_) (fun h12=>?_)
 ·refine Qc<|Qb<|Qf ?_
  exact Ql ⟨[_],⟨rfl,trivial⟩,by rw[if_pos h12];rfl,hs1⟩
 rw[if_neg h12]
 obtain ⟨h1,h2,h3⟩:=Qaa (Decidable.not_not.1 h12)
 rw[List.length_map] at h1
 have hev:(evs (ps.map (·.a))).length≤1099511627776:=by have:=Uc (ps.map (·.a)) (fun a ha=>(h2 a ha).al_le);rw[List.length_map] at this;omega
 refine Qi ?_
 refine Qg<|Qc<|Qb<|xl rfl<|xf<|(zt (h.ext hs1) h1 (fun p hp=>(h2 p.a (List.mem_map_of_mem hp)).al_le)).mono ?_
 rintro r2 w2 ⟨hs2,ho2⟩
 refine Qb<|xl rfl<|xf<|(Yy (Qs.ints (L:=[]) ho2 hev (by simp)) (yE h2) e).mono ?_
 rintro r3 w3 ⟨rfl,rfl⟩
 refine x (Zo rfl)<|xe ?_
 have hs12:=hs1.trans hs2
 refine QW rfl (fun h18=>?_) (fun h18=>?_)
 ·have hn:e∉evs (ps.map (·.a)):=by simpa using h18
  refine Qc<|Qf ?_
  exact Ql ⟨[_],⟨rfl,trivial⟩,by rw[if_pos hn];rfl,hs12⟩
 have hn:¬e∉evs (ps.map (·.a)):=by simpa using h18
 refine Qi ?_
 refine Qc<|Qf ?_
 exact Ql ⟨[_],⟨rfl,trivial⟩,by rw[if_neg hn];rfl,hs12⟩
def goT (aa:List QM):LI→LI→Option (LI)
 | t,[]=>some t
 | t,v::u=>if v∉evs aa then none else match ZV v aa t with | none=>none | some t'=>goT aa t' u
theorem Qfo {aa:List QM}{A:QM}{Q:List (LI)}(h:SyP aa A Q):∀(u:LI) (j:Nat),j<Q.length →
  (∃j':Nat,j'<Q.length∧flw A j u=((j':Int),u.length)∧goT aa (Q.getD j []) u=some (Q.getD j' []))∨((flw A j u).2<u.length∧goT aa (Q.getD j []) u=none)
 | [],j,hj=>.inl ⟨j,hj,rfl,rfl⟩
 | v::u,j,hj=>by
  have hs:=h.step hj v
  by_cases hv:v∈evs aa
  ·rw[if_pos hv] at hs
   cases ht:ZV v aa (Q.getD j []) with
   | none =>
    rw[ht] at hs
    have hn:nxt A.ed j v=-1:=by rw[JI,hs];rfl
    right
    rw[flw,if_pos (by rw[hn];decide),goT,if_neg (fun e=>e hv),ht]
    exact ⟨by simp,rfl⟩
   | some t' =>
    obtain ⟨h1,h2⟩:=h.to hj hv ht
    rw[ht] at hs
    have hn:nxt A.ed j v=(Q.idxOf t':Int):=by rw[JI,hs];rfl
    rw[flw,hn,if_neg (by omega),goT,if_neg (fun e=>e hv),ht]
    rcases Qfo h u (Q.idxOf t') h1 with ⟨j',k1,k2,k3⟩ | ⟨k1,k2⟩
    ·left
     refine ⟨j',k1,?_,?_⟩
     ·rw[k2];simp
     ·rw[h2] at k3;exact k3
    ·right
     rw[h2] at k2
     exact ⟨by simp;omega,k2⟩
  ·rw[if_neg hv] at hs
   have hn:nxt A.ed j v=-1:=by rw[JI,hs]
   right
   rw[flw,if_pos (by rw[hn];decide),goT,if_pos hv]
   exact ⟨by simp,rfl⟩
theorem QhN {A:QM}(ho:Q4 A) {aa:List QM}{Q:List (LI)}(h:SyP aa A Q) {u:LI}(hg:gens A u=true):∃j:Nat,j<Q.length∧flw A 0 u=((j:Int),u.length)∧goT aa (Q.getD 0 []) u=some (Q.getD j []):=by
 unfold gens at hg
 rw[if_neg (by simpa using (Zt A).2 ho)] at hg
 unfold rchd at hg
 split at hg
 ·cases hg
 ·rename_i hz
  have hst:=h.st
  have h0:0<Q.length:=by omega
  rcases Qfo h u 0 h0 with ⟨j,k1,k2,k3⟩ | ⟨k1,_⟩
  ·exact ⟨j,k1,k2,k3⟩
  ·simp only[decide_eq_true_eq] at hg
   have:((0:Nat):Int)=0:=rfl
   rw[this] at k1
   omega
theorem Qbe {a:QM}(ho:Q4 a):∀(u:LI) (s:Int),(flw a s u).2=u.length→∀e∈u,e∈a.al
 | [],_,_,e,he=>by cases he
 | v::u,s,h,e,he=>by
  rw[flw] at h
  split at h
  ·simp at h
  ·rename_i hn
   rcases List.mem_cons.1 he with rfl | he
   ·exact (ho.ed _ (V7 (show 0≤nxt a.ed s e by omega))).2.2.1
   ·exact Qbe ho u _ (by simpa using h) e he
theorem z8 {L:LN}{w:World}{v:Value}{l:LI}(h:QL L w.heap v l) (n:Int) :
  QG Tryz.prog 116 [v,.int .i64 n] w fun r w'=>r=.int .i64 (YT n none l)∧w'=w:=by
 have hle:=h.le
 refine QG.of_W Tryz.func116 rfl Tryz.ntmps116 Tryz.results116 (by simp) ?_
 refine Qc<|Qf ?_
 refine Qg<|Qc<|Qb<|x (Qr h rfl)<|Qb<|xe ?_
 refine Qh<|QA (α:=Nat) [(4,6),(9,34)] (fun k=>[(9,.int .i64 k)]) (fun k w'=>w'=w∧k≤l.length∧YT n (pv l k) (l.drop k)=YT n none l) (fun k=>l.length - k) (by rfl) 0 ⟨rfl,trivial⟩ ⟨rfl,Nat.zero_le _,rfl⟩ ?_
 rintro k g w1 ⟨rfl,hk,hm⟩
 refine Qc<|x (QB rfl rfl)<|xe ?_
 refine Qg<|QD rfl (fun h10=>?_) (fun h10=>?_)
 ·refine Qz ?_
  refine Qc<|Qf ?_
  refine Ql ⟨[.int .i64 0],⟨rfl,trivial⟩,?_,rfl⟩
  rw[←hm,List.drop_of_length_le (by omega)];rfl
 have hlt:k<l.length:=by omega
 have hd:=Q5 hlt
 rw[hd,YT] at hm
 refine Qi ?_
 refine Qg<|Qh<|Qc<|Qb<|xii h rfl rfl hlt fun a12 h12=>x (Qv h12 rfl)<|x Qe<|Qf ?_
 refine Qh<|QV (α:=Bool) [(14,21)] (fun z=>[(14,.bool z)]) (fun z w'=>w'=w1∧z=decide (l[k]<0∨n≤l[k])) (by rfl) ?_ ?_
 ·refine Qw<|Qb<|xb (QB rfl rfl) (fun h16=>?_) (fun h16=>?_)
  ·refine Qb<|xs rfl<|xs rfl<|xs rfl<|x (Qn rfl)<|Qf ?_
   exact ⟨true,⟨rfl,trivial⟩,rfl,by simp[h16]⟩
  refine Qb<|Qb<|Qb<|x (ZH rfl rfl)<|x (Qn rfl)<|Qf ?_
  exact ⟨_,⟨rfl,trivial⟩,rfl,by simp[h16]⟩
 rintro z g w2 ⟨rfl,rfl⟩
 refine Q3 rfl (fun h14=>?_) (fun h14=>?_)
 ·refine Qc<|Qf ?_
  refine Ql ⟨[.int .i64 2],⟨rfl,trivial⟩,?_,rfl⟩
  rw[←hm,if_pos h14];rfl
 rw[if_neg h14] at hm
 refine QV (α:=Bool) [(22,33)] (fun z=>[(22,.bool z)]) (fun z w'=>w'=w2∧z=yo (pv l k) l[k]) (by rfl) ?_ ?_
 ·refine Qw<|Qb<|xb (ZK rfl rfl) (fun h24=>?_) (fun h24=>?_)
  ·have hk1:((k:Int) - 1)=((k - 1:Nat):Int):=by omega
   refine Qb<|Qb<|Qb<|Qb<|x (XY rfl rfl ⟨by omega,by omega⟩)<|xii (i:=k - 1) h rfl (by show Value.int _ ((k:Int) - 1)=_;rw[hk1]) (by omega) fun a30 h30=>x (Qv h30 rfl)<|x (Jp rfl rfl)<|x (Qn rfl)<|Qf ?_
   refine ⟨_,⟨rfl,trivial⟩,rfl,?_⟩
   have:pv l k=some l[k - 1]:=by
    have h0:k≠0:=by omega
    simp[pv,h0,show k - 1<l.length by omega]
   rw[this];rfl
  refine Qb<|xs rfl<|xs rfl<|xs rfl<|xs rfl<|xs rfl<|xs rfl<|xs rfl<|x (Qn rfl)<|Qf ?_
  have h0:k=0:=by omega
  exact ⟨false,⟨rfl,trivial⟩,rfl,by simp[pv,h0,yo]⟩
 rintro z g w3 ⟨rfl,rfl⟩
 refine QW rfl (fun h22=>?_) (fun h22=>?_)
 ·refine Qc<|Qf ?_
  refine Ql ⟨[.int .i64 5],⟨rfl,trivial⟩,?_,rfl⟩
  rw[←hm,if_pos h22];rfl
 rw[if_neg (by simp[h22])] at hm
 refine Qi ?_
 refine Qw<|x (Qy rfl rfl ⟨by omega,by omega⟩)<|Qb<|xe ?_
 exact ⟨k+1,by omega,⟨rfl,trivial⟩,rfl,by omega,by rw[Jd hlt];exact hm⟩
theorem Qaz {L:LN}{w:World}{v:Value}{l:LI}(h:QL L w.heap v l) (n:Int) :
  QG Tryz.prog 162 [v,.int .i64 n] w fun r w'=>r=.int .i64 (YT n none l)∧w'=w:=by
 have hle:=h.le
 refine QG.of_W Tryz.func162 rfl Tryz.ntmps162 Tryz.results162 (by simp) ?_
 refine Qc<|Qf ?_
 refine Qg<|Qc<|Qb<|x (Qr h rfl)<|Qb<|xe ?_
 refine Qh<|QA (α:=Nat) [(4,6),(9,32)] (fun k=>[(9,.int .i64 k)]) (fun k w'=>w'=w∧k≤l.length∧YT n (pv l k) (l.drop k)=YT n none l) (fun k=>l.length - k) (by rfl) 0 ⟨rfl,trivial⟩ ⟨rfl,Nat.zero_le _,rfl⟩ ?_
 rintro k g w1 ⟨rfl,hk,hm⟩
 refine Qc<|x (QB rfl rfl)<|xe ?_
 refine Qg<|QD rfl (fun h10=>?_) (fun h10=>?_)
 ·refine Qz ?_
  refine Qc<|Qf ?_
  refine Ql ⟨[.int .i64 0],⟨rfl,trivial⟩,?_,rfl⟩
  rw[←hm,List.drop_of_length_le (by omega)];rfl
 have hlt:k<l.length:=by omega
 have hd:=Q5 hlt
 rw[hd,YT] at hm
 refine Qi ?_
 refine Qg<|Qh<|Qc<|Qb<|xii h rfl rfl hlt fun a12 h12=>x (Qv h12 rfl)<|x Qe<|Qf ?_
 refine Qg<|QV (α:=Bool) [(14,20)] (fun z=>[(20,.bool z)]) (fun z w'=>w'=w1∧z=decide (l[k]<0∨n≤l[k])) (by rfl) ?_ ?_
 ·refine Qw<|Qb<|xb (QB rfl rfl) (fun h16=>?_) (fun h16=>?_)
  ·refine Qb<|xs rfl<|xs rfl<|xs rfl<|x (Qn rfl)<|xe ?_
   exact ⟨true,⟨rfl,trivial⟩,rfl,by simp[h16]⟩
  refine Qb<|Qb<|Qb<|x (ZH rfl rfl)<|x (Qn rfl)<|xe ?_
  exact ⟨_,⟨rfl,trivial⟩,rfl,by simp[h16]⟩
 rintro z g w2 ⟨rfl,rfl⟩
 refine Q3 rfl (fun h14=>?_) (fun h14=>?_)
 ·refine Qc<|Qf ?_
  refine Ql ⟨[.int .i64 2],⟨rfl,trivial⟩,?_,rfl⟩
  rw[←hm,if_pos h14];rfl
 rw[if_neg h14] at hm
 refine Qi ?_
 refine QV (α:=Bool) [(21,31)] (fun z=>[(31,.bool z)]) (fun z w'=>w'=w2∧z=yo (pv l k) l[k]) (by rfl) ?_ ?_
 ·refine Qw<|Qb<|xb (ZK rfl rfl) (fun h24=>?_) (fun h24=>?_)
  ·have hk1:((k:Int) - 1)=((k - 1:Nat):Int):=by omega
   refine Qb<|Qb<|Qb<|Qb<|x (XY rfl rfl ⟨by omega,by omega⟩)<|xii (i:=k - 1) h rfl (by show Value.int _ ((k:Int) - 1)=_;rw[hk1]) (by omega) fun a30 h30=>x (Qv h30 rfl)<|x (Jp rfl rfl)<|x (Qn rfl)<|xe ?_
   refine ⟨_,⟨rfl,trivial⟩,rfl,?_⟩
   have:pv l k=some l[k - 1]:=by
    have h0:k≠0:=by omega
    simp[pv,h0,show k - 1<l.length by omega]
   rw[this];rfl
  refine Qb<|xs rfl<|xs rfl<|xs rfl<|xs rfl<|xs rfl<|xs rfl<|xs rfl<|x (Qn rfl)<|xe ?_
  have h0:k=0:=by omega
  exact ⟨false,⟨rfl,trivial⟩,rfl,by simp[pv,h0,yo]⟩
 rintro z g w3 ⟨rfl,rfl⟩
 refine QW rfl (fun h22=>?_) (fun h22=>?_)
 ·refine Qc<|Qf ?_
  refine Ql ⟨[.int .i64 5],⟨rfl,trivial⟩,?_,rfl⟩
  rw[←hm,if_pos h22];rfl
 rw[if_neg (by simp[h22])] at hm
 refine Qi ?_
 refine Qw<|x (Qy rfl rfl ⟨by omega,by omega⟩)<|Qb<|xe ?_
 exact ⟨k+1,by omega,⟨rfl,trivial⟩,rfl,by omega,by rw[Jd hlt];exact hm⟩
theorem JS {L:LN}{w:World}{va vm ve v:Value}{a:QM}{l:LI}(h:QL L w.heap v l) :
  QG Tryz.prog 68 [.agg #[va,.int .i64 a.st,vm,ve],v] w fun r w'=>r=.int .i64 (YT a.st none l)∧Step [] w w':=by
 refine QG.of_W Tryz.func68 rfl Tryz.ntmps68 Tryz.results68 (by simp) ?_
 refine Qc<|xl rfl<|QR (us:=[va,.int .i64 a.st,vm,ve]) rfl fun b2 w1 hs1 hb2 hB2=>Qf ?_
 refine Qc<|Qb<|x (Qa rfl)<|x (Qd hB2 rfl rfl)<|xl rfl<|xf<|(z8 (h.ext hs1) a.st).mono ?_
 rintro r2 w2 ⟨rfl,rfl⟩
 refine Qf ?_
 exact Ql ⟨[.int .i64 (YT a.st none l)],⟨rfl,trivial⟩,rfl,hs1⟩
def flg (n:Nat) (l:LI):List Bool:=(List.range n).map fun i:Nat=>decide ((i:Int)∈l)
theorem Ub (n:Nat) (l:LI):(flg n l).length=n:=by simp[flg]
theorem yy {n:Nat}{l:LI}{i:Nat}(h:i<(flg n l).length):(flg n l)[i]'h=decide ((i:Int)∈l):=by simp[flg]
theorem yx {n:Nat}{l:LI}{x:Int}(h0:0≤x):(flg n l).set x.toNat true=flg n (l++[x]):=by
 apply List.ext_getElem
 ·simp[flg]
 ·intro i h2 h3
  rw[List.getElem_set,yy h3]
  by_cases e:x.toNat=i
  ·have:(i:Int)=x:=by omega
   rw[if_pos e,this];simp
  ·have:(i:Int)≠x:=by omega
   rw[if_neg e,yy]
   simp[this]
theorem jS {L:LN}{w:World}{va vm ve v:Value}{a:QM}{l:LI}{n:Nat}(h:QL L w.heap v l) (hn:a.st=(n:Int)) (hst1:a.st≤4096) (hl:∀s∈l,0≤s∧s<a.st) :
  QG Tryz.prog 112 [.agg #[va,.int .i64 a.st,vm,ve],v] w fun r w'=>Step [] w w'∧∃b,r=.slice (some ⟨b,0,none⟩) n n∧w.heap.size≤b∧QS w'.heap b 4 ((flg n l).map Value.bool):=by
 have hle:=h.le
 refine QG.of_W Tryz.func112 rfl Tryz.ntmps112 Tryz.results112 (by simp) ?_
 refine Qc<|xl rfl<|QR (us:=[va,.int .i64 a.st,vm,ve]) rfl fun b2 w1 hs1 hb2 hB2=>Qf ?_
 refine Qc<|x (Qa rfl)<|x (Qd hB2 rfl rfl)<|xl rfl<|Y5 (n:=n) (congrArg (Value.int .i64) hn) (congrArg (Value.int .i64) hn) (by omega) fun b10 w2 hs2 hb10 hB10=>Qf ?_
 have hs12:=hs1.trans hs2
 have hB0:QS w2.heap b10 4 ((flg n (l.take 0)).map Value.bool):=by
  have e:(List.replicate n (Value.bool false).cells.toList).flatten=(flg n (l.take 0)).map Value.bool:=by
   simp only[flg,List.take_zero,List.not_mem_nil,decide_false,List.map_map]
   apply List.ext_getElem
   ·simp[Value.cells]
   ·intro i h1 h2
    simp[Value.cells]
  rw[←e];exact hB10
 refine Qg<|Qc<|Qb<|x (Qr (h.ext hs12) rfl)<|Qb<|xe ?_
 refine Qh<|QA (α:=Nat) [(7,7),(13,20)] (fun z=>[(13,.int .i64 z)]) (fun z w'=>z≤l.length∧Step [] w1 w'∧QS w'.heap b10 4 ((flg n (l.take z)).map Value.bool)) (fun z=>l.length - z) (by rfl) 0 ⟨rfl,trivial⟩ ⟨Nat.zero_le _,hs2,hB0⟩ ?_
 rintro k g w3 ⟨hk,hs3,hB3⟩
 refine Qc<|x (QB rfl rfl)<|xe ?_
 refine Qg<|QD rfl (fun h14=>?_) (fun h14=>?_)
 ·refine Qz ?_
  have hke:l.length≤k:=by have h15:¬(k:Int)<(l.length:Int):=h14;omega
  rw[List.take_of_length_le hke] at hB3
  refine Qc<|Qb<|Qf ?_
  have hz1:=hs1.size
  exact Ql ⟨[.slice (some ⟨b10,0,none⟩) n n],⟨rfl,trivial⟩,hs1.trans hs3,b10,rfl,by omega,hB3⟩
 have hlt:k<l.length:=by have h15:(k:Int)<(l.length:Int):=h14;omega
 have hx:=hl _ (List.getElem_mem hlt)
 have htk:l.take (k+1)=l.take k++[l[k]'hlt]:=List.take_succ_eq_append_getElem hlt
 refine Zf (l[k]'hlt) fun s hs=>?_
 rw[hs] at hx htk
 have hsn:s=(s.toNat:Int):=by omega
 have hset:=yx (n:=n) (l:=l.take k) hx.1
 refine Qi ?_
 refine Qg<|Qh<|Qc<|xii (i:=k) ((h.ext hs1).ext hs3) rfl rfl hlt fun a15 h15=>?_
 rw[hs] at h15
 refine x (Qv h15 rfl)<|Qf ?_
 refine Qw<|Qb<|Qb<|x (QQ (i:=s.toNat) rfl (congrArg (Value.int .i64) hsn) (by omega))<|xl rfl<|QF (j:=0+s.toNat*1) (u:=.bool true) hB3 rfl rfl (by rw[List.length_map,Ub];omega) rfl fun w4 hs4 hB4=>xe ?_
 have hB4':QS w4.heap b10 4 ((flg n (l.take (k+1))).map Value.bool):=by
  rw[htk,←hset,List.map_set]
  simpa using hB4
 refine Qw<|x (Qy rfl rfl ⟨by omega,by omega⟩)<|Qb<|xe ?_
 exact ⟨k+1,by omega,⟨rfl,trivial⟩,hlt,hs3.then1 hs4 hb10,hB4'⟩
def Rv (l:LI) (i:Nat) (li:LI):Prop:=∃h:li.length=l.length,∀k (hk:k<l.length),li[k]'(by omega)=if k<i∨l.length≤k+i then l[l.length - 1 - k]'(by omega) else l[k]'hk
theorem Rv.start (l:LI):Rv l 0 l:=⟨rfl,fun k hk=>by rw[if_neg (by omega)]⟩
theorem Rv.next {l li:LI}{i:Nat}(h:Rv l i li) (hi:i<l.length - 1 - i):Rv l (i+1) ((li.set i (l[l.length - 1 - i]'(by omega))).set (l.length - 1 - i) (l[i]'(by omega))):=by
 obtain ⟨h1,h2⟩:=h
 refine ⟨by simp[h1],fun k hk=>?_⟩
 rw[List.getElem_set,List.getElem_set]
 by_cases e1:l.length - 1 - i=k
 ·rw[if_pos e1,if_pos (by omega)]
  congr 1;omega
 ·rw[if_neg e1]
  by_cases e2:i=k
  ·rw[if_pos e2,if_pos (by omega)]
   subst e2;rfl
  ·rw[if_neg e2,h2 k hk]
   by_cases e3:k<i∨l.length≤k+i
   ·rw[if_pos e3,if_pos (by omega)]
   ·rw[if_neg e3,if_neg (by omega)]
theorem Rv.fin {l li:LI}{i:Nat}(h:Rv l i li) (hi:l.length - 1 - i≤i) (hle:2*i≤l.length):li=l.reverse:=by
 obtain ⟨h1,h2⟩:=h
 apply List.ext_getElem
 ·simp[h1]
 ·intro k hk hk'
  have hk2:k<l.length:=by omega
  rw[h2 k hk2,List.getElem_reverse]
  by_cases e:k<i∨l.length≤k+i
  ·rw[if_pos e]
  ·rw[if_neg e]
   congr 1;omega
theorem Rv.at_i {l li:LI}{i:Nat}(h:Rv l i li) (hi:i<l.length - 1 - i):∃(h0:i<li.length) (h3:l.length - 1 - i<li.length),li[i]'h0=l[i]'(by omega)∧li[l.length - 1 - i]'h3=l[l.length - 1 - i]'(by omega):=by
 obtain ⟨h1,h2⟩:=h
 refine ⟨by omega,by omega,?_,?_⟩
 ·rw[h2 i (by omega),if_neg (by omega)]
 ·rw[h2 _ (by omega),if_neg (by omega)]
theorem qj {w:World}{base:Nat}{v:Value}{l:LI}(h:Qs 3 base w v l) (hle:l.length≤1099511627776) :
  QG Tryz.prog 159 [v] w fun _ w'=>Qs 3 base w' v l.reverse∧Step (ob v) w w':=by
 refine QG.of_W Tryz.func159 rfl Tryz.ntmps159 Tryz.results159 (by simp) ?_
 refine Qc<|Qb<|x (Qr (QX (L:=[]) h hle (by simp)) rfl)<|x (XY rfl rfl ⟨by omega,by omega⟩)<|x Qe<|Qf ?_
 refine Qh<|QA (α:=Nat×LI) [(2,3),(7,27)] (fun z=>[(2,.int .i64 z.1),(3,.int .i64 ((l.length:Int) - 1 - z.1))])
  (fun z w'=>Rv l z.1 z.2∧2*z.1≤l.length∧Step (ob v) w w'∧Qs 3 base w' v z.2) (fun z=>l.length - z.1) (by rfl) (0,l) ⟨rfl,congrArg (Value.int .i64) (by simp),trivial⟩ ⟨Rv.start l,by simp,Step.refl _ _,h⟩ ?_
 rintro ⟨i,li⟩ g w1 ⟨hR,hi2,hs1,hO⟩
 simp only[] at hR hi2 hO
 refine Qg<|Qc<|Qb<|Qb<|x (QB rfl rfl)<|xe ?_
 refine QD rfl (fun h9=>?_) (fun h9=>?_)
 ·refine Qz ?_
  have h10:¬(i:Int)<(l.length:Int) - 1 - (i:Int):=h9
  rw[hR.fin (by omega) hi2] at hO
  exact ⟨[],trivial,hO,hs1⟩
 have h10:(i:Int)<(l.length:Int) - 1 - (i:Int):=h9
 have hij:i<l.length - 1 - i:=by omega
 have hj:(l.length:Int) - 1 - (i:Int)=((l.length - 1 - i:Nat):Int):=by omega
 have hlen:li.length=l.length:=hR.1
 have hnx:=hR.next hij
 refine Exists.elim (hR.at_i hij) fun h0 hr=>Exists.elim hr fun h3 hr=>?_
 refine Exists.elim (Vw hO (by omega)) fun gg hg=>Exists.elim hg fun cap hv=>?_
 have hA1:QL [] w1.heap v li:=QX hO (by omega) (by simp)
 refine Qi ?_
 refine Qg<|Qh<|QT (Step [] w1) [(0,true),(1,true),(2,true),(3,true),(4,true),(5,true),(6,true),(7,true),(8,true),(9,true),(10,true),(11,true),(12,true),(13,false),(14,true),(15,false)] Tryz.mixed (by rfl) (by kernel_rfl) (Step.drew _ _) ?_
 refine p (fun _=>Qm)<|p (fun _=>Qm)<|p (fun _=>Qm)<|p (fun _=>Qm)<|p (fun _=>Qm)<|p (fun _=>Qm)<|pii (i:=l.length - 1 - i) rfl hA1 rfl (congrArg (Value.int .i64) hj) h3 fun a20 h20=>?_
 rw[hr.2] at h20
 refine pq (fun _ hc=>Qv (h20.ext hc) rfl)<|p (fun _=>Qm)<|p (fun _=>Qm)<|pii (i:=i) rfl hA1 rfl rfl h0 fun a24 h24=>?_
 rw[hr.1] at h24
 refine pq (fun _ hc=>Qv (h24.ext hc) rfl)<|p (fun _=>QQ (i:=i) (show ev _ _=_ from hv) rfl (by omega)) <|
  pkl (hl:=by kernel_rfl)<|q7 (Qt hO (Step.drew [] w1)) hv rfl rfl h0 fun w2 hs2 hO2=>p (fun _=>QQ (i:=l.length - 1 - i) (show ev _ _=_ from hv) (congrArg (Value.int .i64) hj) (by omega)) <|
  pkl (hl:=by kernel_rfl)<|q7 hO2 (by rw[List.length_set];exact hv) rfl rfl (by rw[List.length_set];exact h3) fun w3 hs3 hO3=>pe ?_
 refine Qw<|Qb<|x (Qy rfl rfl ⟨by omega,by omega⟩)<|Qb<|x (XY rfl rfl ⟨by omega,by omega⟩)<|x Qe<|Qf ?_
 exact ⟨(i+1,_),by simp only[];omega,⟨rfl,congrArg (Value.int .i64) (by omega),trivial⟩,hnx,by simp only[];omega,((hs1.trans (Step.drew [] w1)).trans' hs2).trans' hs3,hO3⟩
end Go.Proofs.YtgmifemhkjdblaaGreatDoor
namespace Go.Lg
open Go.RowKit
def upY (P:Program) (m:Nat) (dst:Option Nat) (f:Fr) (K:Fr→World→Prop):Result Next→Prop
 | .ok (.value v) w'=>K (QU f dst v) w'
 | .ok .skip w'=>K (QU f dst undef) w'
 | .ok (.enter g args) w'=>Calls P g args w' fun e w''=>match e with | .returned v=>K (QU f dst v) w'' | _=>False
 | .ok (.round l fn tmps assign body) w'=>RoundIn (fen none) (m - 1) P l fn tmps assign body w' fun e w''=>match e with | .returned v=>K (QU f dst v) w'' | _=>False
 | _=>False
def XOY (P:Program) (m:Nat) (o:Oper) (f:Fr) (w:World) (K:Fr→World→Prop):Prop:=upY P m o.dst f K ((execOp (ev f) o).run P w)
def Xx (P:Program) (m:Nat) (ops:List Oper) (K:Fr→World→Prop):List Oper→Fr→World→Prop
 | [],f,w=>K f w
 | o::l,f,w=>bif ZY ops f o then XOY P m o f w (Xx P m ops K l) else Xx P m ops K l (QU f o.dst undef) w
section
variable {m:Nat} {P:Program} {n:Nat} {ds:LN}
theorem XOY.of_XO {o:Oper}{f:Fr}{w:World}{K K':Fr→World→Prop}(hK:∀f w,K f w→K' f w) (h:XO P o f w K):XOY P m o f w K':=by
 unfold XO at h;unfold XOY
 generalize (execOp (ev f) o).run P w=r at h
 cases r with
 | ok nx w' =>
  cases nx <;> simp only[upF] at h <;> simp only[upY]
  case value v=>exact hK _ _ h
  case skip=>exact hK _ _ h
  case enter g args =>
   refine Calls.mono h fun e w'' he=>?_
   cases e with
   | returned v=>exact hK _ _ he
   | panicked c=>exact he.elim
   | outgrown=>exact he.elim
 | halt x w'=>exact h.elim
theorem Xx.pre {ops:List Oper}{K:Fr→World→Prop}{l2:List Oper}:∀(l1:List Oper) (f:Fr) (w:World),XL P ops (fun f w=>Xx P m ops K l2 f w) l1 f w→Xx P m ops K (l1++l2) f w
 | [],f,w,h=>by unfold XL at h;exact h
 | o::l1,f,w,h=>by
  unfold XL at h
  show (bif ZY ops f o then XOY P m o f w (Xx P m ops K (l1++l2)) else Xx P m ops K (l1++l2) (QU f o.dst undef) w)
  cases hg:ZY ops f o with
  | false=>rw[hg] at h;exact Xx.pre l1 _ _ h
  | true=>rw[hg] at h;exact XOY.of_XO (fun f w h=>Xx.pre l1 f w h) h
theorem Xx.pre2 {ops:List Oper}{K:Fr→World→Prop}{o1 o2:Oper}{l2:List Oper}{f:Fr}{w:World}(h:XL P ops (fun f w=>Xx P m ops K l2 f w) [o1,o2] f w):Xx P m ops K (o1::o2::l2) f w:=Xx.pre [o1,o2] f w h
theorem Xx.of_XL {ops:List Oper}{K:Fr→World→Prop}{l:List Oper}{f:Fr}{w:World}(h:XL P ops K l f w):Xx P m ops K l f w:=by
 have:=Xx.pre (m:=m) (l2:=[]) l f w h
 rwa [List.append_nil] at this
theorem Qgh {o:Oper}{a:Act}{f:Fr}{w:World}{K:Fr→World→Prop}{K':Act→World→Prop}{Q:Exit→Act→World→Prop}(h:Yt n ds a f)
  (hK:∀v w',K (QU f o.dst v) w'→K' (a.put o.dst v) w') (hx:XOY P m o f w K):o.wpIn (fen none) m P a w K' Q:=by
 unfold XOY at hx
 refine ⟨fun _ _=>trivial,?_⟩
 have e:Oper.semAt (fen none).round a.eval o=execOp (ev f) o:=by rw[h.eval];rfl
 rw[e]
 generalize (execOp (ev f) o).run P w=r at hx
 cases r with
 | ok nx w' =>
  cases nx <;> simp only[upY] at hx <;> simp only[Oper.uponIn]
  case value v=>exact hK v w' hx
  case skip=>exact hK _ w' hx
  case enter g args =>
   refine ⟨fun h=>by simp[Fence.wide] at h,?_⟩
   refine (callsIn_wide (n:=m - 1)).2 (Calls.mono hx fun e w'' he=>?_)
   cases e with
   | returned v=>exact hK v w'' he
   | panicked c=>exact he.elim
   | outgrown=>exact he.elim
  case round l fn tmps assign body =>
   refine ⟨fun h=>by simp[Fence.wide] at h,?_⟩
   refine RoundIn.mono hx fun e w'' he=>?_
   cases e with
   | returned v=>exact hK v w'' he
   | panicked c=>exact he.elim
   | outgrown=>exact he.elim
 | halt x w'=>exact hx.elim
theorem Qaq {Q:Exit→LN→Fr→World→Prop}{all:List Oper}(hn:∀o∈all,∀d,o.dst=some d→d<n) (f0:Fr) :
  ∀(l:List Oper) (k:Nat) (a:Act) (f:Fr) (w:World),(∀j,l[j]?=all[k+j]?)→Yt n ds a f→(∀t,ZJ all t=false→f t=f0 t) →
   Xx P m all (fun f w=>Q .normal ds f w) l f w →
   wpOpsIn (fen none) m P all.toArray (fun e a' w'=>∃ds' f',Yt n ds' a' f'∧(∀t,ZJ all t=false→f' t=f0 t)∧Q e ds' f' w') (List.range' k l.length) a w
 | [],_,a,f,w,_,hr,hk,h=>⟨ds,f,hr,hk,by unfold Xx at h;exact h⟩
 | o::l,k,a,f,w,hl,hr,hk,h=>by
  have h0:all[k]?=some o:=by simpa using (hl 0).symm
  have hmem:o∈all:=List.mem_of_getElem? h0
  have ih:=fun a f w=>Qaq (Q:=Q) hn f0 l (k+1) a f w (fun j=>by have:=hl (j+1);simpa[Nat.add_assoc,Nat.add_comm 1 j] using this)
  have next:∀v,(∀t,ZJ all t=false→QU f o.dst v t=f0 t):=fun v t ht=>(ZL (Xk hmem ht) v).trans (hk t ht)
  simp only[List.length_cons,List.range'_succ,wpOpsIn,List.getElem?_toArray,h0]
  rw[Kr hr hn o]
  unfold Xx at h
  cases hg:ZY all f o with
  | false =>
   rw[hg] at h
   exact ⟨fun _ _=>trivial,ih _ _ _ (hr.put (hn o hmem) _) (next _) h⟩
  | true =>
   rw[hg] at h
   exact Qgh hr (fun v w' hx=>ih _ _ _ (hr.put (hn o hmem) v) (next v) hx) h
theorem Ke {Q:Exit→LN→Fr→World→Prop}{f:Fr}{w:World}{id:Nat}{l:List Oper}(hn:YS n l=true) (h:Xx P m l (fun f w=>Q .normal ds f w) l f w):WG none m P n (.region id l.toArray false) Q ds f w:=by
 unfold WG
 intro a ha
 refine wpIn_region ?_
 have:=Qaq (m:=m) (YD hn) f l 0 a f w (by simp) ha (fun _ _=>rfl) h
 simpa[List.range_eq_range',Y4] using this
theorem xy {ops:List Oper}{rest:List Oper}{f:Fr}{w:World}{K:Fr→World→Prop}{d:Option Nat}{ty:Nat}{ps:String}{af:Array Edge}{gd:Option (Nat×Bool)}{x y:Operand}{at_:Array Nat}{l:Nat}{R:Ending→World→Prop}
  (hx:ev f x=.func (.yield l) #[] #[]) (hy:YieldAt (fen none) (m - 1) P l #[ev f y] w R) (hK:∀e w',R e w'→∃v,e=.returned v∧Xx P m ops K rest (QU f d v) w')
  (hg:ZY ops f ⟨d,.call ⟨.value x,[y].toArray,at_⟩,ty,ps,af,gd⟩=true:=by rfl) :
  Xx P m ops K (⟨d,.call ⟨.value x,[y].toArray,at_⟩,ty,ps,af,gd⟩::rest) f w:=by
 obtain ⟨fn,tmps,assign,body,h1,h2⟩:=hy
 have hr:(execOp (ev f) ⟨d,.call ⟨.value x,[y].toArray,at_⟩,ty,ps,af,gd⟩).run P w=.ok (.round l fn tmps assign body) w:=by
  simp[execOp,resolve,hx,Deferred.ofValue,invoke,h1]
 unfold Xx
 rw[hg]
 simp only[XOY,hr,upY,cond_true]
 exact h2.mono fun e w' h=>by obtain ⟨v,rfl,hk⟩:=hK e w' h;exact hk
end
attribute [irreducible] Xx
structure Lw (B:Nat) (L:LN) (w w':World):Prop where
 os:w'.os=w.os
 tape:w'.tape=w.tape
 output:w'.output=w.output
 size:w.heap.size≤w'.heap.size
 low:∀k,k<B→k∉L→w'.heap[k]?=w.heap[k]?
theorem Lw.refl (B:Nat) (L:LN) (w:World):Lw B L w w:=⟨rfl,rfl,rfl,Nat.le_refl _,fun _ _ _=>rfl⟩
theorem Lw.trans {B:Nat}{L:LN}{w0 w w':World}(h:Lw B L w0 w) (k:Lw B L w w'):Lw B L w0 w' :=
 ⟨k.os.trans h.os,k.tape.trans h.tape,k.output.trans h.output,Nat.le_trans h.size k.size,fun i hi hn=>(k.low i hi hn).trans (h.low i hi hn)⟩
theorem Step.lw {L:LN}{w w' w'':World}(h:Step L w w') (k:Lw w.heap.size L w' w''):Step L w w'' :=
 ⟨k.os.trans h.os,k.tape.trans h.tape,k.output.trans h.output,Nat.le_trans h.size k.size,fun i hi hn=>(k.low i hi hn).trans (h.block i hi hn)⟩
structure Xj (B:Nat) (L:LN) (W W':World):Prop where
 lw:Lw B L W W'
 other:∀(k:Nat) (o:Obj),W.heap[k]?=some o→o.isCells=false→W'.heap[k]?=some o
theorem Xj.refl (B:Nat) (L:LN) (w:World):Xj B L w w:=⟨Lw.refl _ _ _,fun _ _ h _=>h⟩
theorem Xj.trans {B:Nat}{L:LN}{w0 w w':World}(h:Xj B L w0 w) (k:Xj B L w w'):Xj B L w0 w':=⟨h.lw.trans k.lw,fun i o hi ho=>k.other i o (h.other i o hi ho) ho⟩
theorem Xj.step {B:Nat}{L X:LN}{W W':World}(h:Step X W W') (hB:B≤W.heap.size) (hX:∀b∈X,(b∈L∨B≤b)∧∃o:Obj,W.heap[b]?=some o∧o.isCells=true):Xj B L W W':=by
 refine ⟨⟨h.os,h.tape,h.output,h.size,fun k hk hn=>h.block k (by omega) (fun hx=>?_)⟩,fun k o hk ho=>?_⟩
 ·rcases (hX k hx).1 with h1 | h1
  ·exact hn h1
  ·omega
 ·refine (h.block k (Array.getElem?_eq_some_iff.1 hk).1 (fun hx=>?_)).trans hk
  obtain ⟨o',h1,h2⟩:=(hX k hx).2
  rw[hk] at h1;cases h1;rw[ho] at h2;cases h2
theorem Xj.ext {B:Nat}{L:LN}{W W':World}(h:Step [] W W') (hB:B≤W.heap.size):Xj B L W W':=Xj.step h hB (fun _ hb=>by cases hb)
theorem QS.cells {H:Array Obj}{b T:Nat}{cs:LV}(h:QS H b T cs):∃o:Obj,H[b]?=some o∧o.isCells=true:=⟨_,h,rfl⟩
theorem Xj.blk {B:Nat}{L:LN}{W W':World}{b T:Nat}{cs:LV}(h:Step [b] W W') (hB:B≤W.heap.size) (hb:QS W.heap b T cs) (hL:b∈L∨B≤b):Xj B L W W' :=
 Xj.step h hB (fun c hc=>by
  have e:c=b:=by simpa using hc
  subst e;exact ⟨hL,hb.cells⟩)
def ZW (B:Nat) (I:World→Prop):Prop:=∀W W' X,I W→Step X W W'→(∀r∈X,B≤r∧∃o:Obj,W.heap[r]?=some o∧o.isCells=false)→I W'
theorem ZW.own {β:Type}{B:Nat}{I:β→World→Prop}(h:∀s,ZW B (I s)):OwnFrom B I:=fun s W W' row hs hg hr =>
 h s W W' _ hs (Step.of_grown hg) (fun r hr'=>hr r (by cases row <;> simp at hr' ⊢;exact hr'.symm))
theorem ZW.blk {B:Nat}{b T:Nat}{cs:LV}:ZW B (fun W=>QS W.heap b T cs):=fun W W' X h hs hX=>h.step hs (fun hb=>by
 obtain ⟨_,o,h1,h2⟩:=hX b hb
 unfold QS at h;rw[h] at h1;cases h1;cases h2)
theorem ZW.and {B:Nat}{I J:World→Prop}(h:ZW B I) (k:ZW B J):ZW B (fun W=>I W∧J W):=fun W W' X hi hs hX=>⟨h W W' X hi.1 hs hX,k W W' X hi.2 hs hX⟩
theorem ZW.ex {B:Nat}{β:Type}{I:β→World→Prop}(h:∀z,ZW B (I z)):ZW B (fun W=>∃z,I z W):=fun W W' X ⟨z,hi⟩ hs hX=>⟨z,h z W W' X hi hs hX⟩
theorem ZW.pure {B:Nat}(p:Prop):ZW B (fun _=>p):=fun _ _ _ h _ _=>h
theorem ZW.step {B:Nat}{L:LN}{w:World}(hB:w.heap.size≤B):ZW B (fun W=>Step L w W):=fun W W' X h hs hX=>h.then hs (fun b hb=>.inr (by have:=(hX b hb).1;omega))
theorem Zk {w:World}{base e sz n:Nat}{v:Value}{cs:LV}(h:w.ownsRow base e sz v n cs):∀b∈ob v,∃o:Obj,w.heap[b]?=some o∧o.isCells=true:=by
 intro b hb
 rcases h.2 with ⟨h1,_⟩ | ⟨g,cap,cur,h1,h2,h3,_⟩
 ·subst h1;simp[ob] at hb
 ·subst h1;simp[ob] at hb;subst hb;exact ⟨_,h3,rfl⟩
theorem ZW.row {B base e sz n:Nat}{v:Value}{cs:LV}:ZW B (fun W=>W.ownsRow base e sz v n cs):=fun W W' X h hs hX=>Qk h hs (fun b hb hx=>by
 obtain ⟨_,o,h1,h2⟩:=hX b hx
 obtain ⟨o',h3,h4⟩:=Zk h b hb
 rw[h1] at h3;cases h3;rw[h2] at h4;cases h4)
theorem Qix {α:Type}{m:Nat}{P:Program}{n:Nat}{Q:Exit→LN→Fr→World→Prop}{ds:LN}{f:Fr}{w:World}{g:Operand}{p:Nat}{assign body:Code}(L:LN) (h1:1≤m)
  {gf:Nat} {fn:Func} [hF:Fu P gf fn] {capt:LV} (hg:ev f g=.func (.func gf) #[] capt.toArray) {enc:α→Value} {S:List α→Prop} {N:Nat} (hp:p<n)
  (hseq:SeqStopsK (fen none) (m - 1) P gf capt.toArray (fun x=>#[enc x]) (Lw w.heap.size L) S (fun _=>True) N w)
  (I:List α→World→Prop) (hI:∀s,ZW w.heap.size (I s)) (h0:I [] w) (A:Fr→α→Fr→World→Prop) (hA:∀x f',ZW w.heap.size (A f x f'))
  (hassign:∀l pre x W,I pre W→WG (some l) (m - 1 - 1) P n assign (QaG (fun ds' f' W'=>ds'=[]∧Xj w.heap.size L W W'∧I pre W'∧A f x f' W') (fun _ _ _ _=>False)) [] (upd f p (enc x)) W)
  (hbody:∀l pre x f' W,I pre W→A f x f' W→pre.length<N→WG (some l) (m - 1 - 1) P n body (QaG (fun _ _ W'=>Xj w.heap.size L W W'∧I (pre++[x]) W') (fun _ _ _ _=>False)) [] f' W)
  (hdone:∀D xs W,w.heap.size≤D→S xs→I xs W→W.heap[D]?=some (.deferred (some []))→Q .normal (D::ds) f W) :
  WG none m P n (.rangeFunc g #[p] assign body) Q ds f w:=by
 unfold WG at hassign hbody ⊢
 intro a ha
 have eg:∀args w,(callFunc gf args).run P w=.ok (.enter gf args) w:=by
  intro args w
  have h1:¬fn.name = "runtime.NumGoroutine" := by simpa using hF.nm
  have h2:¬fn.body=none:=by have:=hF.b;intro e;rw[e] at this;cases this
  simp[callFunc,hF.f,h1,h2]
 have keep:∀{W W':World},Xj w.heap.size L W W'→KeepsFrom w.heap.size W W':=fun h=>⟨h.lw.size,fun k o _ hk ho=>h.other k o hk ho⟩
 refine wpIn_rangeFunc_ownH (F:=fen none) rfl h1 (gf:=gf) (lb:=capt.toArray) (by rw[ha.eval];exact hg) trivial eg hseq (fun h k=>h.trans k)
  (fun W l o o' hl ho _ _=>⟨rfl,rfl,rfl,by simp,fun k hk _=>World.putObj_heap_other (by omega)⟩) (Below.refl _ _) (fun _=>rfl) I (fun _ _ _=>False) (ZW.own hI) (fun _ _ _ _ _ hs _ _=>hs) h0
  (fun x a' W=>∃f',Yt n [] a' f'∧A f x f' W) (fun x a'=>ZW.own fun _=>ZW.ex fun f'=>ZW.and (ZW.pure _) (hA x f')) ?_ ?_ ?_ ?_
 ·intro l pre x W K hi hK
  have hr:Yt n [] { tmps:=((#[p]:Array Nat).zip #[enc x]).foldl (fun t (p,v)=>t.setIfInBounds p v) a.tmps,defers:=[] } (upd f p (enc x)):=by
   have h2:Yt n [] { a with defers:=[] } f:=⟨ha.size,rfl,ha.get⟩
   have h3:=h2.put (dst:=some p) (fun d e=>by cases e;exact hp) (enc x)
   have e:((#[p]:Array Nat).zip #[enc x]).foldl (fun t (p,v)=>t.setIfInBounds p v) a.tmps=a.tmps.setIfInBounds p (enc x):=by simp
   rw[e];exact h3
  refine wpIn_mono (hassign l pre x W hi _ hr) ?_
  rintro e a' W' ⟨ds',f',h2,_,h3⟩
  cases e with
  | normal=>obtain ⟨rfl,h4,h5,h6⟩:=h3;exact hK a' W' (keep h4) h4.lw h5 ⟨f',h2,h6⟩
  | exit id=>exact h3.elim
  | goto l=>exact h3.elim
  | ret=>exact h3.elim
  | panic ch=>exact h3.elim
  | outgrown=>exact h3.elim
 ·rintro l pre x a' W _ _ hi ⟨f',h2,h3⟩ hlt
  refine wpIn_mono (hbody l pre x f' W hi h3 hlt a' h2) ?_
  rintro e a'' W' ⟨ds',f'',h4,_,h5⟩
  cases e with
  | normal=>exact ⟨keep h5.1,h5.1.lw,h5.2⟩
  | exit id=>exact h5.elim
  | goto l=>exact h5.elim
  | ret=>exact h5.elim
  | panic ch=>exact h5.elim
  | outgrown=>exact h5.elim
 ·intro D xs W hD hS hi hd
  exact ⟨D::ds,f,⟨ha.size,by rw[show coll (D::ds)={ target:=.collected D,args:=#[] }::coll ds from rfl,ha.defers],ha.get⟩,fun _ _=>rfl,hdone D xs W hD hS hi hd⟩
 ·intro D c pre W _ _ h _
  exact h.elim
def QjM (P:Program) (t:Nat):Option (LV×List (Nat×Nat)):=match P.info? t,P.underlying t with
 | some it,some (.struct fs)=>match it.zero,fs.toList.mapM (fun f=>(P.info? f.type).map fun i=>(f.offset,i.size)) with
  | some (.agg zs),some pl=>some (zs.toList,pl)
  | _,_=>none
 | _,_=>none
class Bw (P:Program) (t:Nat) (zs:outParam (LV)) (pl:outParam (List (Nat×Nat))):Prop where
 h:QjM P t=some (zs,pl)
 b:pl.all (fun x=>x.1+x.2≤zs.length)=true
def jh:LV→Nat→LV→LV
 | zs,_,[]=>zs
 | zs,o,u::us=>jh (zs.set o u) (o+1) us
def Qgc (pl:List (Nat×Nat)) (zs:LV):List (Nat×LV)→LV
 | []=>zs
 | (j,us)::ps=>Qgc pl (jh zs (pl.getD j (0,0)).1 us) ps
def QiA:List (Nat×Value)→List (Nat×LV)→Prop
 | [],[]=>True
 | (j,v)::vs,(j',us)::uss=>v.cells=us.toArray∧j=j'∧QiA vs uss
 | _,_=>False
theorem jg:∀(us zs:LV) (o:Nat),(jh zs o us).length=zs.length
 | [],_,_=>rfl
 | u::us,zs,o=>by rw[jh,jg us,List.length_set]
theorem qU (o:Nat):∀(us:LV) (k:Nat) (zs:LV),(us.zipIdx k).foldl (fun (cs:Array Value) (x:Value×Nat)=>cs.setIfInBounds (o+x.2) x.1) zs.toArray=(jh zs (o+k) us).toArray
 | [],_,_=>rfl
 | u::us,k,zs=>by
  rw[List.zipIdx_cons,List.foldl_cons,jh]
  have:=qU o us (k+1) (zs.set (o+k) u)
  rw[←List.setIfInBounds_toArray] at this
  exact this
theorem Qfx {pl:List (Nat×Nat)}:∀(vs:List (Nat×Value)) (uss:List (Nat×LV)) (zs:LV),QiA vs uss→uss.all (fun p=>p.1<pl.length && (p.2.length == (pl.getD p.1 (0,0)).2))=true →
  (∀x∈pl,x.1+x.2≤zs.length)→Instr.fill (pl.toArray[·]?) zs.toArray vs=some (Qgc pl zs uss).toArray
 | [],[],zs,_,_,_=>rfl
 | [],_::_,_,h,_,_=>h.elim
 | _::_,[],_,h,_,_=>h.elim
 | (j,v)::vs,(j',us)::uss,zs,h1,h2,h3=>by
  obtain ⟨hc,rfl,h1⟩:=h1
  simp only[List.all_cons,Bool.and_eq_true,decide_eq_true_eq,beq_iff_eq] at h2
  obtain ⟨⟨hj,hl⟩,h2⟩:=h2
  have hg:pl.getD j (0,0)=pl[j]'hj:=by simp[List.getD,hj]
  have hm:=h3 _ (List.getElem_mem hj)
  unfold Instr.fill
  simp only[List.getElem?_toArray,List.getElem?_eq_getElem hj,hc]
  rw[hg] at hl
  rw[if_neg (by simp only[List.size_toArray,hl,ne_eq,not_true,decide_false,Bool.false_or,decide_eq_true_eq];omega)]
  have e:=qU (pl[j]'hj).1 us 0 zs
  rw[Nat.add_zero] at e
  have e2:(us.toArray.zipIdx).foldl (fun (cs:Array Value) (x:Value×Nat)=>cs.setIfInBounds ((pl[j]'hj).1+x.2) x.1) zs.toArray=(jh zs (pl[j]'hj).1 us).toArray:=by
   rw[←e];simp
  rw[e2,Qgc,hg]
  have e3:=Qfx vs uss (jh zs (pl[j]'hj).1 us) h1 h2 (fun x hx=>by rw[jg];exact h3 x hx)
  simpa only[List.getElem?_toArray] using e3
theorem Qbt {P:Program}{t:Nat}{zs:LV}{pl:List (Nat×Nat)}(h:QjM P t=some (zs,pl)) (hb:pl.all (fun x=>x.1+x.2≤zs.length)=true) (vs:List (Nat×Value)) (uss:List (Nat×LV)) (h1:QiA vs uss)
  (h2:uss.all (fun p=>p.1<pl.length && (p.2.length == (pl.getD p.1 (0,0)).2))=true):P.built t vs=some (Qgc pl zs uss).toArray:=by
 have h3:∀x∈pl,x.1+x.2≤zs.length:=fun o ho=>by simpa using List.all_eq_true.1 hb o ho
 unfold QjM at h
 unfold Program.built
 cases hi:P.info? t with
 | none=>simp[hi] at h
 | some it =>
  cases hu:P.underlying t with
  | none=>simp[hi,hu] at h
  | some dd =>
   simp only[hi,hu] at h
   cases dd <;> simp only[] at h <;> try (cases h)
   case struct fs =>
    cases hz:it.zero with
    | none=>simp[hz] at h
    | some z =>
     cases z <;> simp only[hz] at h <;> try (cases h)
     rename_i za
     cases hm:fs.toList.mapM (fun f=>(P.info? f.type).map fun i=>(f.offset,i.size)) with
     | none=>simp[hm] at h
     | some pl' =>
      simp only[hm,Option.some.injEq,Prod.mk.injEq] at h
      obtain ⟨rfl,rfl⟩:=h
      simp only[hz,hm,Value.cells]
      exact Qfx vs uss za.toList h1 h2 h3
theorem Zw {P:Program}{f:Fr}{w:World}{d:Option Nat}{ty:Nat}{ps:String}{af:Array Edge}{gd:Option (Nat×Bool)}{t:Nat}{zs:LV}{pl:List (Nat×Nat)}[h:Bw P t zs pl] {parts:List (Nat×Operand)}(uss:List (Nat×LV))
  (h1:QiA (parts.map fun x=>(x.1,ev f x.2)) uss) (h2:uss.all (fun p=>p.1<pl.length && (p.2.length == (pl.getD p.1 (0,0)).2))=true:=by rfl) :
  (execOp (ev f) ⟨d,.build t parts.toArray,ty,ps,af,gd⟩).run P w=.ok (.value (.agg (Qgc pl zs uss).toArray)) w:=by
 have hb:=Qbt h.h h.b _ uss h1 h2
 have hr:=run_build (P:=P) w t (parts.toArray.map fun (i,x)=>(i,ev f x)) _ (by simpa using hb)
 simp only[execOp,Sem.run_bind,hr,Result.andThen_ok,Sem.run_pure]
end Go.Lg
