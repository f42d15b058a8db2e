/- Merged out of 46 texts. -/
import Derived.Test.YtgmifemhkjdblaaGreatDoorKia
import Derived.Laws.Strings
import Derived.RangeFuncNested
import Derived.RangeFuncLeaves
import Derived.RangeFuncCalls
import Derived.OrdersIn
import Derived.TacticsIn
namespace Go.Proofs.YtgmifemhkjdblaaGreatDoor
open Tryz
open Go.Lg
theorem qh {m:List ((Int×Int)×Value)}{es:List Ed}{k:Nat}(h:k<es.length):Jz m (es.take (k+1))=mput (Jz m (es.take k)) (es[k].1,es[k].2.1) (.int .i64 es[k].2.2):=by
 unfold Jz
 rw[List.take_succ_eq_append_getElem h,List.foldl_append];rfl
theorem Qck {L:LN}{w:World}{vl:Value}{ps:List AV}(h:YG L w.heap vl ps) (hn:ps.length≤12) (hal:∀p∈ps,p.a.al.length≤32) (hL:∀b∈L,b<w.heap.size) :
  QG prog 47 [vl] w λr w'=>Step [] w w'∧∃ve vs ms,r=.agg #[vl,ve,vs]∧J3 L w'.heap vl ve vs ps ms∧Qt 3 w.heap.size w' ve (evs (ps.map (·.a))):=by
 refine QG.of_W func47 rfl ntmps47 results47 (by simp) ?_
 refine Qc<|xl rfl<|Qr (us:=[nS,nS,nS]) rfl λb2 w1 hs1 hb2 hB2=>xe ?_
 refine Qc<|Qb<|Qb<|xl rfl<|xf<|(zQ (h.ext hs1) hn hal).mono ?_
 rintro ve w2 ⟨hs2,hve⟩
 have hel:=Uv (ps.map (·.a)) (λa ha=>by obtain ⟨p,hp,rfl⟩:=List.mem_map.1 ha;exact hal p hp)
 have hevl:(evs (ps.map (·.a))).length≤1000:=by simp at hel;omega
 have hveA:=Qt.ints (L:=[]) hve (by omega) (by simp)
 refine x (QN ⟨h.arr.cells,hveA.cells,trivial⟩)<|xl rfl<|Qr (us:=[nS,nS,nS]) rfl λb3 w3 hs3 hb3 hB3 =>
  xl rfl<|Ql (us:=[vl,ve,nS]) hB3 rfl rfl rfl rfl ⟨h.arr.one,hveA.one,rfl,trivial⟩ λw4 hs4 hB3=>xe ?_
 have hz1:=hs1.size
 have hz2:=hs2.size
 have hS4:Step [] w2 w4:=hs3.then1 hs4 hb3
 have hz4:=hS4.size
 have hl2:=hB2.lt
 have hl3:=hB3.lt
 have hW4:Step [] w w4:=(hs1.trans hs2).trans hS4
 have hve4:=Qu hve hS4
 refine Qg<|Qc<|Qb<|x (Qs h.arr rfl)<|Qb<|xe ?_
 have hevlt:=Q0 hve
 refine Qh<|QA (α:=Nat×LN×Value) [(5,6),(8,8),(15,42)] (λz=>[(15,.int .i64 z.1)])
  (λz w'=>z.1≤ps.length∧z.2.1.length=z.1∧Step [b3] w4 w'∧QS w'.heap b3 130 [vl,ve,z.2.2]∧w'.ownsRow w4.heap.size 147 1 z.2.2 z.2.1.length (z.2.1.flatMap jY) ∧
   (∀i (h:i<z.2.1.length) (h':i<ps.length),ZE ZO w'.heap z.2.1[i] (Jz [] ps[i].a.ed)∧w4.heap.size≤z.2.1[i]∧z.2.1[i]∉ob z.2.2)) (λz=>ps.length - z.1) (by rfl) (0,[],nS) ⟨rfl,trivial⟩
  ⟨Nat.zero_le _,rfl,Step.refl _ _,hB3,QP _ _ _ _,λi h=>by simp at h⟩ ?_
 rintro ⟨k,ms,vs⟩ g w5 ⟨hk,hml,hs5,hB5,ho5,hmp5⟩
 simp only[] at hk hml hs5 hB5 ho5 hmp5
 have hW5:Step [] w w5:=hW4.then1 hs5 (by omega)
 have hz5:=hs5.size
 have hge5:=Qq ho5
 refine Qc<|x (QB rfl rfl)<|xe ?_
 refine Qg<|QD rfl (λh16=>?_) (λh16=>?_)
 ·have hke:k=ps.length:=by omega
  subst hke
  refine Qz ?_
  refine Qc ?_
  have hvsA:=QV (L:=[]) ho5 (by omega) (by simp)
  refine x (Qn hB5 rfl rfl)<|xl rfl<|Ql (us:=[vl,ve,vs]) (((hB2.ext hs2).ext hS4).step hs5 (by simp;omega)) rfl rfl rfl rfl ⟨h.arr.one,hveA.one,hvsA.one,trivial⟩ λw6 hs6 hB6=>xe ?_
  have hW6:=hW5.then1 hs6 hb2
  have hve6:Qt 3 w1.heap.size w6 ve _:=Qm (Qm hve4 hs5 (λb hb=>by have:=hevlt b hb;simp;omega)) hs6 (λb hb=>by have:=(Qq hve b hb).1;simp;omega)
  have ho6:=Qm ho5 hs6 (λb hb=>by have:=(hge5 b hb).1;simp;omega)
  refine Qk ⟨[.agg #[vl,ve,vs]],⟨⟨_,rfl,Qv rfl (hB6.at (L:=[]) (by simp)).cells⟩,trivial⟩,hW6,ve,vs,ms,rfl,⟨h.ext hW6,Qt.ints hve6 (by omega) (λb hb=>by have:=hL b hb;omega),hml,QV ho6 (by omega) (λb hb hbL=>by have:=hL b hbL;have:=(Qq ho6 b hb).1;omega),λi h1 h2=>⟨?_,λhbL=>by have:=hL _ hbL;have:=(hmp5 i h1 h2).2.1;omega⟩⟩,Zb hve6 hz1⟩
  obtain ⟨m1,m2,_⟩:=hmp5 i h1 h2
  exact m1.step hs6 (λhb=>by
   simp only[List.mem_singleton] at hb
   have h7:=(((hB2.ext hs2).ext hS4).step hs5 (by simp;omega))
   rw[hb] at m1
   obtain ⟨es,c,m4,_⟩:=m1
   unfold QS at h7
   rw[h7] at m4;cases m4)
 have hlt:k<ps.length:=by omega
 have hA:=h.each ps[k] (List.getElem_mem hlt)
 refine Qi<|Qg<|Qh<|Qc<|xig X4 (h.ext hW5).arr rfl rfl hlt λa17 h17=>x (QJ h17 rfl rfl)<|xl rfl<|Qr (us:=[nS,.int .i64 0,nS,nS]) rfl λb5 w7 hs7 hb5 hB5' =>
  xl rfl<|Ql (us:=Q7 ps[k]) hB5' rfl rfl rfl rfl ⟨hA.al.one,rfl,hA.mr.one,hA.ed.one,trivial⟩ λw8 hs8 hBa=>xe ?_
 have hs58:Step [] w5 w8:=hs7.then1 hs8 hb5
 have hz8:=hs58.size
 have hl5:=hBa.lt
 refine Qc<|xl rfl<|ZU ZO λbm w9 hs9 hbm hm9=>Qf ?_
 have hz9:=hs9.size
 have hlm:=hm9.lt
 have hs59:=hs58.trans hs9
 have hW9:=hW5.trans hs59
 refine Qg<|Qc<|x (Qa rfl)<|x (Qd (hBa.ext hs9) rfl rfl)<|x (Qs hA.ed rfl)<|Qb<|xe ?_
 have hed9:=(hA.ed.up (L':=[bm]) (λb hb=>.inr (by simp at hb;have:=hW5.size;omega))).ext hW9
 have hedl:=hA.ed.le
 refine Qh<|QA (α:=Nat) [(8,8),(23,35)] (λz=>[(23,.int .i64 z)]) (λz w'=>z≤ps[k].a.ed.length∧Step [bm] w9 w'∧ZE ZO w'.heap bm (Jz [] (ps[k].a.ed.take z))) (λz=>ps[k].a.ed.length - z) (by rfl) 0 ⟨rfl,trivial⟩
  ⟨Nat.zero_le _,Step.refl _ _,hm9⟩ ?_
 rintro j g2 w10 ⟨hj,hs10,hm10⟩
 have hz10:=hs10.size
 refine Qc<|x (QB rfl rfl)<|xe ?_
 refine Qg<|QD rfl (λh24=>?_) (λh24=>?_)
 ·refine Qz ?_
  rw[List.take_of_length_le (by omega)] at hm10
  have hs510:Step [] w5 w10:=hs59.then1 hs10 (by omega)
  have hB10:QS w10.heap b3 130 [vl,ve,vs]:=hB5.ext hs510
  refine Qx<|x (Qa rfl)<|x (Qd hB10 rfl rfl)<|Qb<|xl rfl<|QH (us:=[[.map (some bm)]]) rfl rfl (by decide) (by simp) ⟨rfl,rfl,trivial⟩ λb39 w11 hs11 hb39 hB39=>?_
  have hs511:=hs510.trans hs11
  have ho11:=Qu ho5 hs511
  have hz11:=hs511.size
  refine xl rfl<|Q5 (news:=[.map (some bm)]) (L:=[]) ho11 rfl rfl rfl (hB39.at (by simp)) (by simp[Value.oneCell']) (by omega) (by omega) λv12 w12 ho12 hs12 hn12=>?_
  have ho12':w12.ownsRow w4.heap.size 147 1 v12 (ms++[bm]).length ((ms++[bm]).flatMap jY):=by
   rw[List.length_append,List.flatMap_append];simpa using ho12
  have hB12:=(hB10.ext hs11).step hs12 (QX ho5 (by omega))
  refine x (Qa rfl)<|xl rfl<|QF hB12 rfl rfl (by simp) (QV (L:=[]) ho12' (by simp;omega) (by simp)).one λw13 hs13 hB13=>xe ?_
  refine Qx<|x (Qy rfl rfl ⟨by omega,by omega⟩)<|Qb<|xe ?_
  have hnew:∀b∈ob v12,w4.heap.size≤b:=λb hb=>(Qq ho12' b hb).1
  have hz10':w10.heap.size≤w11.heap.size:=hs11.size
  refine ⟨(k+1,ms++[bm],v12),by simp only[];omega,⟨rfl,trivial⟩,hlt,by simp[hml],?_,hB13,Qm ho12' hs13 (λb hb=>by have:=hnew b hb;simp;omega),?_⟩
  ·exact ((hs5.trans hs511).then hs12 (λb hb=>.inr (hge5 b hb).1)).trans' hs13
  ·intro i h1 h2
   simp only[List.length_append,List.length_singleton] at h1
   have keep:∀(c:Nat) (m:List ((Int×Int)×Value)),ZE ZO w10.heap c m→c≠b3→c∉ob vs→ZE ZO w13.heap c m:=λc m hm hc3 hcv =>
    ((hm.ext hs11).step hs12 hcv).step hs13 (by simpa using hc3)
   by_cases hi:i<ms.length
   ·obtain ⟨m1,m2,m3⟩:=hmp5 i hi h2
    simp only[List.getElem_append_left hi]
    refine ⟨keep _ _ (m1.ext hs510) (by omega) m3,m2,λhb=>?_⟩
    have hlt5:=m1.lt
    rcases hn12 _ hb with h5 | h5
    ·exact m3 h5
    ·omega
   ·have hi':i=ms.length:=by omega
    subst hi'
    simp only[List.getElem_append_right (Nat.le_refl _),Nat.sub_self,List.getElem_singleton]
    have hq:ms.length=k:=hml
    have e2:ps[ms.length]=ps[k]:=by simp only[hq]
    rw[e2]
    refine ⟨keep _ _ hm10 (by omega) (λhb=>by have:=(hge5 _ hb).2;omega),by omega,λhb=>?_⟩
    rcases hn12 _ hb with h5 | h5
    ·have:=(hge5 _ h5).2;omega
    ·omega
 have hlt2:j<ps[k].a.ed.length:=by omega
 refine Qi<|Qg<|Qh<|Qc<|xie (hed9.st hs10) rfl rfl hlt2 λa25 h25=>x (QJ h25 rfl rfl)<|xl rfl<|Qr (us:=[.int .i64 0,.int .i64 0,.int .i64 0]) rfl λb8 w14 hs14 hb8 hB8=>xl rfl<|Ql (us:=QC ps[k].a.ed[j]) hB8 rfl rfl rfl rfl ⟨rfl,rfl,rfl,trivial⟩ λw15 hs15 hB8=>xe ?_
 have hs1015:Step [] w10 w15:=hs14.then1 hs15 hb8
 refine Qx<|Qb<|x (Qa rfl)<|x (Qd hB8 rfl rfl)<|x (Qa rfl)<|x (Qd hB8 rfl rfl)<|x (QN ⟨rfl,rfl,trivial⟩)<|x (Qa rfl) <|
  x (Qd hB8 rfl rfl)<|xl rfl<|Yv (k:=(ps[k].a.ed[j].1,ps[k].a.ed[j].2.1)) (hm10.ext hs1015) rfl rfl λw16 hs16 hm16=>xe ?_
 refine Qx<|x (Qy rfl rfl ⟨by omega,by omega⟩)<|Qb<|xe ?_
 refine ⟨j+1,by omega,⟨rfl,trivial⟩,hlt2,(hs10.trans hs1015).trans' hs16,?_⟩
 rw[qh hlt2]
 exact hm16
theorem Qbo {L:LN}{w:World}{vl ve vs:Value}{ps:List AV}{ms:LN}(h:J3 L w.heap vl ve vs ps ms) (hn:ps.length≤12) :
  QG prog 48 [.agg #[vl,ve,vs]] w λr w'=>Step [] w w' ∧
   if ∃p∈ps,p.a.st=0 then r=.tuple #[nS,.bool false] else ∃v,r=.tuple #[v,.bool true]∧Qt 3 w.heap.size w' v (List.replicate ps.length 0):=by
 refine QG.of_W func48 rfl ntmps48 results48 (by simp) ?_
 refine Qc<|xl rfl<|QQ (us:=[vl,ve,vs]) rfl λb1 w1 hs1 hb1 hB1=>x Qe<|Qf<|Qg<|Qc<|x (Qa rfl)<|x (Qd hB1 rfl rfl)<|x (Qs h.al.arr rfl)<|Qb<|xe ?_
 refine Qh<|QA (α:=Nat) [(2,3),(5,5),(9,16)] (λz=>[(9,.int .i64 z)]) (λz w'=>z≤ps.length∧Step [] w1 w'∧∀i (h:i<ps.length),i<z→ps[i].a.st≠0) (λz=>ps.length - z) (by rfl) 0 ⟨rfl,trivial⟩
  ⟨Nat.zero_le _,Step.refl _ _,λi _ h=>by omega⟩ ?_
 rintro k g w2 ⟨hk,hs2,hnz⟩
 refine Qc<|x (QB rfl rfl)<|xe ?_
 refine Qg<|QD rfl (λh10=>?_) (λh10=>?_)
 ·refine Qz ?_
  refine Qc<|x (Qa rfl)<|x (Qd (hB1.ext hs2) rfl rfl)<|x (Qs h.al.arr rfl)<|xl rfl<|Xa (n:=ps.length) rfl rfl (by omega) λb20 w3 hs3 hb20 hB20=>x Qe<|Qf ?_
  rw[show (List.replicate ps.length (Value.int .i64 0).cells.toList).flatten=((List.replicate ps.length 0).map (Value.int .i64)) by rw[show (Value.int .i64 0).cells.toList=[Value.int .i64 0] from rfl,jL,List.map_replicate]] at hB20
  have hz:=(hs1.trans hs2).size
  refine Qk ⟨[.slice (some ⟨b20,0,none⟩) ps.length ps.length,.bool true],⟨rfl,rfl,trivial⟩,(hs1.trans hs2).trans hs3,?_⟩
  rw[if_neg (by
   rintro ⟨p,hp,h0⟩
   obtain ⟨i,hi,rfl⟩:=List.getElem_of_mem hp
   exact hnz i hi (by omega) h0)]
  refine ⟨_,rfl,?_⟩
  have:=hB20.own (n:=ps.length) (sz:=1) (base:=w.heap.size) (by simp) (by omega) (by omega)
  unfold Qt
  rw[List.length_replicate];exact this
 have hlt:k<ps.length:=by omega
 have hA:=h.al.each ps[k] (List.getElem_mem hlt)
 refine Qi<|Qg<|Qh<|Qc<|xig X4 ((h.al.ext hs1).ext hs2).arr rfl rfl hlt λa11 h11=>x (QJ h11 rfl rfl)<|xl rfl<|Qr (us:=[nS,.int .i64 0,nS,nS]) rfl λb5 w4 hs4 hb5 hB5 =>
  xl rfl<|Ql (us:=Q7 ps[k]) hB5 rfl rfl rfl rfl ⟨hA.al.one,rfl,hA.mr.one,hA.ed.one,trivial⟩ λw5 hs5 hB5=>xe ?_
 have hs25:Step [] w2 w5:=hs4.then1 hs5 hb5
 refine Qc<|x (Qa rfl)<|x (Qd hB5 rfl rfl)<|x (Zn rfl rfl)<|xe ?_
 refine Q3 rfl (λh15=>?_) (λh15=>?_)
 ·refine Qc<|x Qe<|Qf<|Qk ⟨[nS,.bool false],⟨rfl,rfl,trivial⟩,(hs1.trans hs2).trans hs25,?_⟩
  rw[if_pos ⟨ps[k],List.getElem_mem hlt,h15⟩];rfl
 refine Qi<|Qx<|x (Qy rfl rfl ⟨by omega,by omega⟩)<|Qb<|xe ?_
 refine ⟨k+1,by omega,⟨rfl,trivial⟩,hlt,hs2.trans hs25,λi hi hik=>?_⟩
 by_cases e:i=k
 ·subst e;exact h15
 ·exact hnz i hi (by omega)
theorem Qbk {aa:List QM}{ts:LI}{k:Nat}(h:k<aa.length) (h':k<ts.length):Xd (aa.drop k) (ts.drop k)=(decide (ts[k]∈aa[k].mr) && Xd (aa.drop (k+1)) (ts.drop (k+1))):=by
 rw[List.drop_eq_getElem_cons h,List.drop_eq_getElem_cons h',Xd]
theorem Qdq {L:LN}{w:World}{vl ve vs vt:Value}{ps:List AV}{ms:LN}{ts:LI}(h:J3 L w.heap vl ve vs ps ms) (ht:QL L w.heap vt ts) (hl:ts.length=ps.length) (hi:∀p∈ps,Yt p.a.mr) (hn:ps.length≤12) :
  QG prog 50 [.agg #[vl,ve,vs],vt] w λr w'=>r=.bool (Xd (ps.map (·.a)) ts)∧Step [] w w':=by
 refine QG.of_W func50 rfl ntmps50 results50 (by simp) ?_
 refine Qc<|xl rfl<|QQ (us:=[vl,ve,vs]) rfl λb2 w1 hs1 hb2 hB2=>Qf<|Qg<|Qc<|x (Qa rfl)<|x (Qd hB2 rfl rfl)<|x (Qs h.al.arr rfl)<|Qb<|xe ?_
 refine Qh<|QA (α:=Nat) [(4,6),(10,23)] (λz=>[(10,.int .i64 z)]) (λz w'=>z≤ps.length∧Step [] w w'∧Xd (ps.map (·.a)) ts=Xd ((ps.map (·.a)).drop z) (ts.drop z)) (λz=>ps.length - z) (by rfl) 0 ⟨rfl,trivial⟩
  ⟨Nat.zero_le _,hs1,rfl⟩ ?_
 rintro k g w2 ⟨hk,hs2,hmk⟩
 refine Qc<|x (QB rfl rfl)<|xe ?_
 refine Qg<|QD rfl (λh11=>?_) (λh11=>?_)
 ·refine Qz ?_
  refine Qc<|Qf<|Qk ⟨[.bool true],⟨rfl,trivial⟩,?_,hs2⟩
  rw[hmk,List.drop_of_length_le (by simp;omega)];rfl
 have hlt:k<ps.length:=by omega
 have hlt':k<ts.length:=by omega
 have hA:=h.al.each ps[k] (List.getElem_mem hlt)
 rw[Qbk (by simpa using hlt) hlt',List.getElem_map] at hmk
 refine Qi<|Qg<|Qh<|Qc<|Qb<|xig X4 (h.al.ext hs2).arr rfl rfl hlt λa13 h13=>x (QJ h13 rfl rfl)<|xl rfl<|Qr (us:=[nS,.int .i64 0,nS,nS]) rfl λb6 w3 hs3 hb6 hB6=>x Qe <|
  xl rfl<|Ql (us:=Q7 ps[k]) hB6 rfl rfl rfl rfl ⟨hA.al.one,rfl,hA.mr.one,hA.ed.one,trivial⟩ λw4 hs4 hB6=>xe ?_
 have hs24:Step [] w2 w4:=hs3.then1 hs4 hb6
 have hst:=hs2.trans hs24
 refine Qg<|QT (Step [] w4) [(0,true),(1,true),(2,true),(3,true),(4,true),(5,true),(6,false),(7,true)] mixed (by rfl) (by kernel_rfl) (Step.drew _ _) ?_
 refine p (λ_=>Qa rfl)<|pq (λ_ hc=>Qd (hB6.ext hc) rfl rfl)<|p (λ_=>Qo)<|p (λ_=>Qo)<|pii rfl (ht.ext hst) rfl rfl hlt' λa19 h19 =>
  pq (λ_ hc=>Qw (h19.ext hc) rfl)<|pk<|xf<|(Yx ((hA.mr.ext hst).ext (Step.drew _ _)) (hi ps[k] (List.getElem_mem hlt)) _).mono ?_
 rintro r5 w5 ⟨rfl,rfl⟩
 refine ⟨Step.drew _ _,?_⟩
 refine p (λ_=>Zp rfl)<|pe ?_
 have hst5:=hst.trans (Step.drew [] w4)
 refine QY rfl (λh22=>?_) (λh22=>?_)
 ·refine Qc<|Qf<|Qk ⟨[.bool false],⟨rfl,trivial⟩,?_,hst5⟩
  rw[hmk,show decide (ts[k]∈ps[k].a.mr)=false by simpa using h22];rfl
 refine Qi<|Qx<|x (Qy rfl rfl ⟨by omega,by omega⟩)<|Qb<|xe ?_
 refine ⟨k+1,by omega,⟨rfl,trivial⟩,hlt,hst5,?_⟩
 rw[hmk,show decide (ts[k]∈ps[k].a.mr)=true by simpa using h22,Bool.true_and]
theorem Qa4 {aa:List QM}{ts:LI}{k:Nat}{v:Int}(h:k<aa.length) (h':k<ts.length):Zu v (aa.drop k) (ts.drop k) =
  if v∉aa[k].al then (Zu v (aa.drop (k+1)) (ts.drop (k+1))).map (ts[k]::·) else match eget aa[k].ed ts[k] v with | none=>none | some u=>(Zu v (aa.drop (k+1)) (ts.drop (k+1))).map (u::·):=by
 rw[List.drop_eq_getElem_cons h,List.drop_eq_getElem_cons h']
 show (if v∉aa[k].al then _ else _)=_
 split
 ·rfl
 ·cases eget aa[k].ed ts[k] v <;> rfl
theorem QeU {L:LN}{w:World}{vl ve vs vt:Value}{ps:List AV}{ms:LN}{ts:LI}(h:J3 L w.heap vl ve vs ps ms) (ht:QL L w.heap vt ts) (hl:ts.length=ps.length) (hi:∀p∈ps,Yt p.a.al)
  (hed:∀p∈ps,p.a.ed.Pairwise λx y=>x.1<y.1∨(x.1=y.1∧x.2.1<y.2.1)) (hn:ps.length≤12) (v:Int) :
  QG prog 51 [.agg #[vl,ve,vs],vt,.int .i64 v] w λr w'=>Step [] w w' ∧
   match Zu v (ps.map (·.a)) ts with | none=>r=.tuple #[nS,.bool false] | some u=>∃v',r=.tuple #[v',.bool true]∧Qt 3 w.heap.size w' v' u:=by
 refine QG.of_W func51 rfl ntmps51 results51 (by simp) ?_
 refine Qc<|xl rfl<|QQ (us:=[vl,ve,vs]) rfl λb3 w1 hs1 hb3 hB3=>x Qe<|Qf<|Qc<|Qb<|xl rfl<|xf<|(Yw (ht.ext hs1)).mono ?_
 rintro vx w2 ⟨hs2,hx2⟩
 refine Qf ?_
 have hz1:=hs1.size
 have hz2:=hs2.size
 have hl3:=hB3.lt
 have hW2:=hs1.trans hs2
 refine Qg<|Qc<|x (Qa rfl)<|x (Qd (hB3.ext hs2) rfl rfl)<|x (Qs h.al.arr rfl)<|Qb<|xe ?_
 have hge:=Qq hx2
 have hM2:J3 (ob vx) w2.heap vl ve vs ps ms:=((h.up (L':=ob vx) (λb hb=>.inr (by have:=(hge b hb).1;omega))).ext hW2)
 have hT2:QL (ob vx) w2.heap vt ts:=((ht.up (L':=ob vx) (λb hb=>.inr (by have:=(hge b hb).1;omega))).ext hW2)
 refine Qh<|QA (α:=Nat×LI) [(6,7),(9,12),(18,49)] (λz=>[(18,.int .i64 z.1)])
  (λz w'=>z.1≤ps.length∧z.2.length=z.1∧Step (ob vx) w2 w'∧Qt 3 w1.heap.size w' vx (z.2++ts.drop z.1)∧Zu v (ps.map (·.a)) ts=(Zu v ((ps.map (·.a)).drop z.1) (ts.drop z.1)).map (z.2++·)) (λz=>ps.length - z.1) (by rfl) (0,[]) ⟨rfl,trivial⟩
  ⟨Nat.zero_le _,rfl,Step.refl _ _,hx2,by simp⟩ ?_
 rintro ⟨k,pre⟩ g w3 ⟨hk,hpl,hs3,hx3,hst⟩
 simp only[] at hk hpl hx3 hst
 have hz3:=hs3.size
 have hW3:Step [] w w3:=hW2.then hs3 (λb hb=>.inr (by have:=(hge b hb).1;omega))
 refine Qc<|x (QB rfl rfl)<|xe ?_
 refine Qg<|QD rfl (λh19=>?_) (λh19=>?_)
 ·refine Qz ?_
  refine Qc<|Qb<|x Qe<|Qf<|Qk ⟨[vx,.bool true],⟨rfl,rfl,trivial⟩,hW3,?_⟩
  rw[List.drop_of_length_le (by simp;omega),List.drop_of_length_le (by omega)] at hst
  rw[List.drop_of_length_le (by omega)] at hx3
  rw[hst]
  simp only[Zu,Option.map_some]
  exact ⟨vx,rfl,Zb hx3 hz1⟩
 have hlt:k<ps.length:=by omega
 have hlt':k<ts.length:=by omega
 have hltm:k<ms.length:=by rw[h.ml];exact hlt
 have hA:=h.al.each ps[k] (List.getElem_mem hlt)
 rw[Qa4 (by simpa using hlt) hlt',List.getElem_map] at hst
 have hM3:=hM2.st hs3
 have hT3:=hT2.st hs3
 refine Qi<|Qg<|Qh<|Qc<|Qb<|xig X4 hM3.al.arr rfl rfl hlt λa21 h21=>x (QJ h21 rfl rfl)<|xl rfl<|Qr (us:=[nS,.int .i64 0,nS,nS]) rfl λb10 w4 hs4 hb10 hB10=>x Qe <|
  xl rfl<|Ql (us:=Q7 ps[k]) hB10 rfl rfl rfl rfl ⟨hA.al.one,rfl,hA.mr.one,hA.ed.one,trivial⟩ λw5 hs5 hB10=>xe ?_
 have hs35:Step [] w3 w5:=hs4.then1 hs5 hb10
 have hW5:=hW3.trans hs35
 refine Qg<|Qc<|x (Qa rfl)<|x (Qd hB10 rfl rfl)<|Qb<|xl rfl<|xf<|(Yx (hA.al.ext hW5) (hi ps[k] (List.getElem_mem hlt)) v).mono ?_
 rintro r6 w6 ⟨rfl,rfl⟩
 refine x (Zp rfl)<|xe ?_
 have hdr:=Q6 hlt'
 refine QY rfl (λh27=>?_) (λh27=>?_)
 ·have hna:v∉ps[k].a.al:=by simpa using h27
  refine Qz ?_
  refine Qx<|x (Qy rfl rfl ⟨by omega,by omega⟩)<|Qb<|xe ?_
  refine ⟨(k+1,pre++[ts[k]]),by simp only[];omega,⟨rfl,trivial⟩,hlt,by simp[hpl],hs3.trans hs35,?_,?_⟩
  ·simp only[List.append_assoc,List.singleton_append]
   rw[←hdr];exact Qu hx3 hs35
  ·simp only[]
   rw[hst,if_pos hna,Option.map_map]
   congr 1;funext l;simp
 have hya:¬(v∉ps[k].a.al):=by simpa using h27
 rw[if_neg hya] at hst
 refine Qi ?_
 have hB3':=(hB3.ext hs2).step hs3 (λhb=>by have:=(hge b3 hb).1;omega)
 have hM5:=hM3.ext hs35
 obtain ⟨hmk,hmo⟩:=hM5.mp k hltm hlt
 refine Qg<|QT (Step [] w6) [(0,true),(1,true),(2,true),(3,true),(4,true),(5,true),(6,true),(7,true),(8,true),(9,true),(10,true),(11,true),(12,true),(13,true),(14,true),(15,true),(16,true)] mixed (by rfl) (by kernel_rfl) (Step.drew _ _) ?_
 refine p (λ_=>Qa rfl)<|pq (λ_ hc=>Qd ((hB3'.ext hs35).ext hc) rfl rfl)<|p (λ_=>Qo)<|pig rfl (g:=jY) (λ_=>rfl) hM5.sl rfl rfl hltm λa32 h32 =>
  pq (λ_ hc=>Qw (h32.ext hc) rfl)<|p (λ_=>Qo)<|p (λ_=>Qo)<|pii rfl (hT3.ext hs35) rfl rfl hlt' λa36 h36=>pq (λ_ hc=>Qw (h36.ext hc) rfl) <|
  p (λ_=>Qo)<|p (λ_=>QN ⟨rfl,rfl,trivial⟩)<|pq (λ_ hc=>JQ (k:=(ts[k],v)) (hmk.ext hc) rfl rfl)<|?_
 rw[VQ ps[k].a.ed [] ts[k] v (hed ps[k] (List.getElem_mem hlt))]
 have hs36:Step [] w3 { w6 with drawn:=w6.drawn+1 }:=hs35.trans (Step.drew [] w6)
 cases he:eget ps[k].a.ed ts[k] v with
 | none =>
  rw[he] at hst
  refine p (λ_=>Qo)<|p (λ_=>Qj rfl rfl)<|p (λ_=>Qj rfl rfl)<|p (λ_=>Qe)<|p (λ_=>Qe)<|pe ?_
  refine Qg<|Qc<|Qb<|x (Zp rfl)<|xe ?_
  refine qG rfl ?_
  refine Qc<|x Qe<|Qf<|Qk ⟨[nS,.bool false],⟨rfl,rfl,trivial⟩,hW3.trans hs36,?_⟩
  rw[hst];rfl
 | some u =>
  rw[he] at hst
  refine p (λ_=>Qo)<|p (λ_=>Qj rfl rfl)<|p (λ_=>Qj rfl rfl)<|p (λ_=>Qe)<|p (λ_=>Qe)<|pe ?_
  refine Qg<|Qc<|Qb<|x (Zp rfl)<|xe ?_
  refine Yr rfl ?_
  refine Qi ?_
  have hx6:=Qu hx3 hs36
  have hlen:(pre++ts.drop k).length=ts.length:=by simp;omega
  obtain ⟨gx,cx,hvx⟩:=VL hx3 (by omega)
  have hobx:ob vx=[gx]:=by rw[hvx];rfl
  refine Qx<|Qb<|Qb<|Qb<|x (QR hvx rfl (by omega))<|xl rfl<|jQ (u:=.int .i64 u) (by rw[hvx] at hx6;exact hx6) rfl rfl (by omega) rfl λw7 hs7 hx7=>xe ?_
  refine Qx<|x (Qy rfl rfl ⟨by omega,by omega⟩)<|Qb<|xe ?_
  have hset:(pre++ts.drop k).set k u=(pre++[u])++ts.drop (k+1):=by
   rw[hdr,List.set_append_right _ _ (by omega),hpl,Nat.sub_self,List.set_cons_zero,List.append_assoc];rfl
  refine ⟨(k+1,pre++[u]),by simp only[];omega,⟨rfl,trivial⟩,hlt,by simp[hpl],(hs3.trans hs36).then hs7 (λb hb=>.inl (by rw[hobx];exact hb)),?_,?_⟩
  ·simp only[]
   rw[←hset]
   unfold Qt
   rw[List.length_set,List.map_set,hvx];exact hx7
  ·simp only[]
   rw[hst,Option.map_map]
   congr 1;funext l;simp
theorem K4 {n:Nat}(h:n<256):(UInt8.ofNat n).toNat=n:=by
 simp[Nat.mod_eq_of_lt h]
theorem Qao (u:Nat):(32:UInt8)∉Lib.decDigits u:=by
 induction u using Nat.strongRecOn with
 | _ u ih =>
  unfold Lib.decDigits
  split
  ·intro h
   simp only[List.mem_singleton] at h
   have:=congrArg UInt8.toNat h
   rw[K4 (by omega)] at this
   have h32:(32:UInt8).toNat=32:=rfl
   omega
  ·intro h
   rcases List.mem_append.1 h with h | h
   ·exact ih _ (by omega) h
   ·simp only[List.mem_singleton] at h
    have:=congrArg UInt8.toNat h
    rw[K4 (by omega)] at this
    have h32:(32:UInt8).toNat=32:=rfl
    omega
def dval (l:List UInt8):Nat:=l.foldl (λa b=>a*10+(b.toNat - 48)) 0
theorem Qam (u:Nat):dval (Lib.decDigits u)=u:=by
 induction u using Nat.strongRecOn with
 | _ u ih =>
  unfold Lib.decDigits
  split
  ·simp only[dval,List.foldl_cons,List.foldl_nil]
   rw[K4 (by omega)];omega
  ·have:=ih (u / 10) (by omega)
   unfold dval at *
   rw[List.foldl_append,this]
   simp only[List.foldl_cons,List.foldl_nil]
   rw[K4 (by omega)];omega
theorem Qb8:∀{a b r r':List UInt8},(32:UInt8)∉a→(32:UInt8)∉b→a++32::r=b++32::r'→a=b∧r=r'
 | [],[],_,_,_,_,h=>by simpa using h
 | [],y::b,_,_,_,hb,h=>by simp at h;exact absurd h.1 (by intro e;exact hb (by simp[e]))
 | x::a,[],_,_,ha,_,h=>by simp at h;exact absurd h.1 (by intro e;exact ha (by simp[e]))
 | x::a,y::b,_,_,ha,hb,h=>by
  simp only[List.cons_append,List.cons.injEq] at h
  have:=Qb8 (λe=>ha (List.mem_cons_of_mem _ e)) (λe=>hb (List.mem_cons_of_mem _ e)) h.2
  exact ⟨by rw[h.1,this.1],this.2⟩
theorem j7:∀{l l':LI},(∀n∈l,0≤n)→(∀n∈l',0≤n)→XH l=XH l'→l=l'
 | [],[],_,_,_=>rfl
 | [],y::b,_,_,h=>by simp[XH] at h
 | x::a,[],_,_,h=>by simp[XH] at h
 | x::a,y::b,ha,hb,h=>by
  have h':Lib.decDigits x.toNat++32::XH a=Lib.decDigits y.toNat++32::XH b:=by simpa[XH] using h
  obtain ⟨h1,h2⟩:=Qb8 (Qao _) (Qao _) h'
  have h3:x.toNat=y.toNat:=by rw[←Qam x.toNat,←Qam y.toNat,h1]
  have h4:=j7 (λn hn=>ha n (List.mem_cons_of_mem _ hn)) (λn hn=>hb n (List.mem_cons_of_mem _ hn)) h2
  have h5:=ha x List.mem_cons_self
  have h6:=hb y List.mem_cons_self
  rw[h4,show x=y by omega]
def Kr (l:LI):ByteArray:=⟨(XH l).toArray⟩
theorem Qfn {l l':LI}(h1:∀n∈l,0≤n) (h2:∀n∈l',0≤n) (h:Kr l=Kr l'):l=l':=by
 refine j7 h1 h2 ?_
 have:=congrArg (λb:ByteArray=>b.data.toList) h
 simpa[Kr] using this
def V1 (n:Nat) (m:List (ByteArray×Value)) (tup:List (LI)):Prop :=
 ∀u:LI,u.length=n→(∀x∈u,0≤x)→mget m (Kr u)=if u∈tup then some (.int .i64 (tup.idxOf u:Int)) else none
theorem V1.add {n:Nat}{m:List (ByteArray×Value)}{tup:List (LI)}(h:V1 n m tup) {u:LI}(hu:u∉tup) (h0:∀x∈u,0≤x):V1 n (mput m (Kr u) (.int .i64 (tup.length:Int))) (tup++[u]):=by
 intro v hv h1
 rw[Ja]
 by_cases e:u=v
 ·subst e
  rw[if_pos rfl,if_pos (by simp),List.idxOf_append,if_neg hu];simp
 ·rw[if_neg (λhk=>e (Qfn h0 h1 hk)),h v hv h1]
  by_cases hm:v∈tup
  ·rw[if_pos hm,if_pos (by simp[hm]),List.idxOf_append,if_pos hm]
  ·rw[if_neg hm,if_neg (by simp[hm,Ne.symm e])]
structure z8 (N b2 b38 b37:Nat) (ve:Value) (wS:World) (s:Sy) (m:List (ByteArray×Value)) (qs:List TV) (vt vk vd:Value) (w:World):Prop where
 st:Step [b2,b38,b37] wS w
 A:QS w.heap b2 50 [ve,.int .i64 0,vk,vd]
 M:ZE Xv w.heap b38 m
 t:QbL 40 N w vt qs
 tb:∀b∈ob vt,b=b37∨wS.heap.size≤b
 k:Qt 3 wS.heap.size w vk s.mk'
 e:ZV 126 wS.heap.size w vd s.ed
 q:qs.map (·.2)=s.tup
 el:∀p∈qs,Qt 3 N w p.1 p.2
 sep:∀p∈qs,∀b∈ob p.1,b≠b38∧b∉ob vt∧b∉ob vk∧b∉ob vd
 d1:Dj vt vk
 d2:Dj vt vd
 d3:Dj vk vd
section
variable {N b2 b38 b37:Nat} {ve:Value} {wS:World} {s:Sy} {m:List (ByteArray×Value)} {qs:List TV} {vt vk vd:Value} {w w' w'':World}
theorem z8.ext (h:z8 N b2 b38 b37 ve wS s m qs vt vk vd w) (hs:Step [] w w'):z8 N b2 b38 b37 ve wS s m qs vt vk vd w' :=
 ⟨h.st.trans hs,h.A.ext hs,h.M.ext hs,Qu h.t hs,h.tb,Qu h.k hs,Qu h.e hs,h.q,λp hp=>Qu (h.el p hp) hs,h.sep,h.d1,h.d2,h.d3⟩
structure SyN (N b2 b38 b37:Nat) (wS:World):Prop where
 l2:b2<N
 l38:b38<wS.heap.size
 l37:b37<wS.heap.size
 n37:N≤b37
 n38:b37<b38
 nS:N≤wS.heap.size
theorem z8.setK (h:z8 N b2 b38 b37 ve wS s m qs vt vk vd w) (n:SyN N b2 b38 b37 wS) {vk':Value}{l:LI}(hs:Step (ob vk) w w') (hk':Qt 3 wS.heap.size w' vk' l)
  (hn:∀b∈ob vk',b∈ob vk∨w.heap.size≤b) (hs2:Step [b2] w' w'') (hB:QS w''.heap b2 50 [ve,.int .i64 0,vk',vd]):z8 N b2 b38 b37 ve wS ⟨s.tup,l,s.ed⟩ m qs vt vk' vd w'':=by
 have hge:=Qq h.k
 have l2:=n.l2;have l38:=n.l38;have n37:=n.n37;have n38:=n.n38;have nS:=n.nS
 refine ⟨(h.st.then hs (λb hb=>.inr (hge b hb).1)).then hs2 (λb hb=>.inl (by simp at hb;simp[hb])),hB,(h.M.step hs (QX h.k (by omega))).step hs2 (by simp;omega),
  Qm (Qm h.t hs h.d1) hs2 (λb hb=>by have:=(Qq h.t b hb).1;simp;omega),h.tb,Qm hk' hs2 (λb hb=>by have:=(Qq hk' b hb).1;simp;omega),
  Qm (Qm h.e hs h.d3.symm) hs2 (λb hb=>by have:=(Qq h.e b hb).1;simp;omega),h.q,
  λp hp=>Qm (Qm (h.el p hp) hs (λb hb=>(h.sep p hp b hb).2.2.1)) hs2 (λb hb=>by have:=(Qq (h.el p hp) b hb).1;simp;omega),
  λp hp b hb=>⟨(h.sep p hp b hb).1,(h.sep p hp b hb).2.1,λhb'=>?_,(h.sep p hp b hb).2.2.2⟩,h.d1.grow hn (Q0 h.t),h.d2,(h.d3.symm.grow hn (Q0 h.e)).symm⟩
 rcases hn b hb' with h1 | h1
 ·exact (h.sep p hp b hb).2.2.1 h1
 ·have:=Q0 (h.el p hp) b hb;omega
theorem z8.setE (h:z8 N b2 b38 b37 ve wS s m qs vt vk vd w) (n:SyN N b2 b38 b37 wS) {vd':Value}{l:List Ed}(hs:Step (ob vd) w w') (hk':ZV 126 wS.heap.size w' vd' l)
  (hn:∀b∈ob vd',b∈ob vd∨w.heap.size≤b) (hs2:Step [b2] w' w'') (hB:QS w''.heap b2 50 [ve,.int .i64 0,vk,vd']):z8 N b2 b38 b37 ve wS ⟨s.tup,s.mk',l⟩ m qs vt vk vd' w'':=by
 have hge:=Qq h.e
 have l2:=n.l2;have l38:=n.l38;have n37:=n.n37;have n38:=n.n38;have nS:=n.nS
 refine ⟨(h.st.then hs (λb hb=>.inr (hge b hb).1)).then hs2 (λb hb=>.inl (by simp at hb;simp[hb])),hB,(h.M.step hs (QX h.e (by omega))).step hs2 (by simp;omega),
  Qm (Qm h.t hs h.d2) hs2 (λb hb=>by have:=(Qq h.t b hb).1;simp;omega),h.tb,Qm (Qm h.k hs h.d3) hs2 (λb hb=>by have:=(Qq h.k b hb).1;simp;omega),
  Qm hk' hs2 (λb hb=>by have:=(Qq hk' b hb).1;simp;omega),h.q,
  λp hp=>Qm (Qm (h.el p hp) hs (λb hb=>(h.sep p hp b hb).2.2.2)) hs2 (λb hb=>by have:=(Qq (h.el p hp) b hb).1;simp;omega),
  λp hp b hb=>⟨(h.sep p hp b hb).1,(h.sep p hp b hb).2.1,(h.sep p hp b hb).2.2.1,λhb'=>?_⟩,h.d1,h.d2.grow hn (Q0 h.t),h.d3.grow hn (Q0 h.k)⟩
 rcases hn b hb' with h1 | h1
 ·exact (h.sep p hp b hb).2.2.2 h1
 ·have:=Q0 (h.el p hp) b hb;omega
theorem z8.setM (h:z8 N b2 b38 b37 ve wS s m qs vt vk vd w) (n:SyN N b2 b38 b37 wS) {m':List (ByteArray×Value)}(hs:Step [b38] w w') (hm:ZE Xv w'.heap b38 m'):z8 N b2 b38 b37 ve wS s m' qs vt vk vd w':=by
 have l2:=n.l2;have l38:=n.l38;have n37:=n.n37;have n38:=n.n38;have nS:=n.nS
 exact ⟨h.st.then hs (λb hb=>.inl (by simp at hb;simp[hb])),h.A.step hs (by simp;omega),hm,Qm h.t hs (λb hb=>by have:=h.tb b hb;simp;omega),h.tb,
  Qm h.k hs (λb hb=>by have:=(Qq h.k b hb).1;simp;omega),Qm h.e hs (λb hb=>by have:=(Qq h.e b hb).1;simp;omega),h.q,
  λp hp=>Qm (h.el p hp) hs (λb hb=>by have:=(h.sep p hp b hb).1;simpa using this),h.sep,h.d1,h.d2,h.d3⟩
theorem z8.setT (h:z8 N b2 b38 b37 ve wS s m qs vt vk vd w) (n:SyN N b2 b38 b37 wS) {vt' vx:Value}{u:LI}(hx:Qt 3 wS.heap.size w vx u) (hxs:∀b∈ob vx,b∉ob vt∧b∉ob vk∧b∉ob vd) (hs:Step (ob vt) w w')
  (ht':QbL 40 N w' vt' (qs++[(vx,u)])) (hn:∀b∈ob vt',b∈ob vt∨w.heap.size≤b):z8 N b2 b38 b37 ve wS ⟨s.tup++[u],s.mk',s.ed⟩ m (qs++[(vx,u)]) vt' vk vd w':=by
 have l2:=n.l2;have l38:=n.l38;have n37:=n.n37;have n38:=n.n38;have nS:=n.nS
 have hwz:=h.st.size
 have nott:∀c,c<w.heap.size→c∉ob vt→c∉ob vt':=λc hc hv hv'=>by
  rcases hn c hv' with h1 | h1
  ·exact hv h1
  ·omega
 refine ⟨h.st.then hs (λb hb=>by have:=h.tb b hb;simp;omega),h.A.step hs (λhb=>by have:=h.tb b2 hb;omega),h.M.step hs (λhb=>by have:=h.tb b38 hb;omega),ht',
  λb hb=>?_,Qm h.k hs h.d1.symm,Qm h.e hs h.d2.symm,by rw[List.map_append,h.q];rfl,λp hp=>?_,λp hp b hb=>?_,(h.d1.symm.grow hn (Q0 h.k)).symm,(h.d2.symm.grow hn (Q0 h.e)).symm,h.d3⟩
 ·rcases hn b hb with h1 | h1
  ·exact h.tb b h1
  ·exact .inr (by omega)
 ·rcases List.mem_append.1 hp with hp | hp
  ·exact Qm (h.el p hp) hs (λb hb=>(h.sep p hp b hb).2.1)
  ·simp only[List.mem_singleton] at hp
   subst hp
   exact Zb (Qm hx hs (λb hb=>(hxs b hb).1)) nS
 ·rcases List.mem_append.1 hp with hp | hp
  ·have:=h.sep p hp b hb
   exact ⟨this.1,nott b (Q0 (h.el p hp) b hb) this.2.1,this.2.2⟩
  ·simp only[List.mem_singleton] at hp
   subst hp
   have h1:=(Qq hx b hb)
   have h2:=hxs b hb
   exact ⟨by omega,nott b h1.2 h2.1,h2.2⟩
end
theorem QlT {α:Type}(o:Option α):o=none∨∃t,o=some t:=by cases o;exact .inl rfl;exact .inr ⟨_,rfl⟩
def zA:Value:=.agg #[nS,.int .i64 0,nS,nS]
def Zf:Value:=nS
def Yb (N:Nat) (H:Array Obj) (aa:List QM) (va vt:Value) (c:Int):Prop :=
 if JB aa≠0 then c=JB aa∧va=zA∧vt=Zf else match sync aa with
  | none=>c=3∧va=zA∧vt=Zf
  | some z=>c=0∧YV N H va z.1∧QbM N H vt z.2
def Yg (s:Sy) (u:LI):Sy:=if u∈s.tup then s else ⟨s.tup++[u],s.mk',s.ed⟩
theorem Qek (s:Sy) (u:LI):(Yg s u).mk'=s.mk':=by unfold Yg;split <;> rfl
theorem Qel (s:Sy) (u:LI):(Yg s u).ed=s.ed:=by unfold Yg;split <;> rfl
theorem Qg7 {aa:List QM}{i:Nat}{t u:LI}{s:Sy}{v:Int}(h:Zu v aa t=some u) (hl:u∈s.tup∨s.tup.length≠4096) :
  syE aa i t s v=some ⟨(Yg s u).tup,(Yg s u).mk',(Yg s u).ed++[((i:Int),v,((Yg s u).tup.idxOf u:Int))]⟩:=by
 unfold syE Yg
 rw[h]
 simp only[]
 by_cases hu:u∈s.tup
 ·simp only[if_pos hu]
 ·simp only[if_neg hu]
  rw[if_neg (by rcases hl with h1 | h1;exact absurd h1 hu;exact h1),List.idxOf_append,if_neg hu];simp
theorem Qej {aa:List QM}{i:Nat}{t u:LI}{s:Sy}{v:Int}(h:Zu v aa t=some u) (hu:u∉s.tup) (hl:s.tup.length=4096):syE aa i t s v=none:=by
 unfold syE
 rw[h]
 simp only[]
 rw[if_neg hu,if_pos hl]
theorem Qeh {aa:List QM}{i:Nat}{t:LI}{s:Sy}{v:Int}(h:Zu v aa t=none):syE aa i t s v=some s:=by
 unfold syE;rw[h]
theorem QkL {s:Sy}{qs:List TV}{i:Nat}(hq:qs.map (·.2)=s.tup) (h:i<qs.length):V3 s i=qs[i].2:=by
 unfold V3;rw[←hq];simp[List.getD,h]
theorem Vt.bd {aa:List QM}{t:LI}(h:Vt aa t) {m:Int}(hm:∀a∈aa,a.st≤m):∀x∈t,0≤x∧x<m:=by
 intro x hx
 obtain ⟨i,hi,rfl⟩:=List.getElem_of_mem hx
 have hi':i<aa.length:=by rw[←h.1];exact hi
 have:=h.2 i hi hi'
 have:=hm aa[i] (List.getElem_mem hi')
 omega
set_option maxHeartbeats 20000000 in
theorem VA {L:LN}{w:World}{vl:Value}{ps:List AV}{km:Int}(h:YG L w.heap vl ps) (hkb:Kb w km) (hk0:0<km) (hst:∀p∈ps,p.a.st≤km) :
  QG prog 14 [vl] w λr w'=>Step [] w w'∧∃va vt c,r=.tuple #[va,vt,.int .i64 c]∧Yb w.heap.size w'.heap (ps.map (·.a)) va vt c:=by
 refine QG.of_W func14 rfl ntmps14 results14 (by simp) ?_
 generalize haa:ps.map (·.a)=aa
 refine Qc<|xl rfl<|Qr (us:=[nS,.int .i64 0,nS,nS]) rfl λb2 w1 hs1 hb2 hB2=>x Qe<|Qf ?_
 have hz1:=hs1.size
 have hl2:=hB2.lt
 refine Qg<|Qc<|Qb<|xl rfl<|xf<|(zx (h.ext hs1)).mono ?_
 rintro r2 w2 ⟨rfl,hs2⟩
 refine Qf ?_
 rw[haa]
 refine Qc<|Qb<|x (Q4 rfl rfl)<|xe ?_
 refine Q3 rfl (λh20=>?_) (λh20=>?_)
 ·refine Qc<|x (QN trivial)<|Qb<|xl rfl<|Ql (us:=[nS,.int .i64 0,nS,nS]) (hB2.ext hs2) rfl rfl rfl rfl ⟨rfl,rfl,rfl,rfl,trivial⟩ λw3 hs3 hB3=>x Qe<|Qf<|Qk ⟨[zA,Zf,.int .i64 (JB aa)],⟨⟨_,rfl,Qv rfl (hB3.at (L:=[]) (by simp)).cells⟩,rfl,rfl,trivial⟩,(hs1.trans hs2).then1 hs3 hb2,zA,Zf,JB aa,rfl,?_⟩
  unfold Yb;rw[if_pos h20];exact ⟨rfl,rfl,rfl⟩
 have hck:JB aa=0:=Decidable.not_not.1 h20
 have hn:ps.length≤12:=by
  unfold JB at hck
  split at hck
  ·cases hck
  ·rename_i h1;rw[←haa] at h1;simp at h1;exact h1
 have hokA:∀a∈aa,Q2 a:=by
  unfold JB at hck
  split at hck
  ·cases hck
  ·exact (Vv aa).1 hck
 have hok:∀p∈ps,Q2 p.a:=λp hp=>hokA p.a (by rw[←haa];exact List.mem_map_of_mem hp)
 have hal:∀p∈ps,p.a.al.length≤32:=λp hp=>(hok p hp).al_le
 have hstA:∀a∈aa,a.st≤km:=λa ha=>by rw[←haa] at ha;obtain ⟨p,hp,rfl⟩:=List.mem_map.1 ha;exact hst p hp
 have hlenA:aa.length=ps.length:=by rw[←haa];simp
 refine Qi<|Qc<|Qb<|xl rfl<|xf<|(Qck (L:=[b2]) (((h.up (λb hb=>.inr (by simp at hb;omega))).ext hs1).ext hs2) hn hal (λb hb=>by simp at hb;have:=hs2.size;omega)).mono ?_
 rintro r4 w4 ⟨hs4,ve,vs,ms,rfl,hM4,hve4⟩
 rw[haa] at hve4
 have hvl:=h.arr.one
 have hel:=Uv aa (λa ha=>(hokA a ha).al_le)
 have hevl:(evs aa).length≤1000:=by omega
 have hveA:=Qt.ints (L:=[]) hve4 (by omega) (by simp)
 refine xl rfl<|Qr (us:=[nS,nS,nS]) rfl λb6 w5 hs5 hb6 hB6=>xl rfl<|Ql (us:=[vl,ve,vs]) hB6 rfl rfl rfl rfl ⟨hvl,hveA.one,hM4.sl.one,trivial⟩ λw6 hs6 hB6=>xe ?_
 have hs46:Step [] w4 w6:=hs5.then1 hs6 hb6
 have hz2:=hs2.size
 have hz4:=hs4.size
 have hz6:=hs46.size
 have hl6:=hB6.lt
 refine Qc ?_
 have hB2':=((hB2.ext hs2).ext hs4).ext hs46
 refine x (Qa rfl)<|x (Qd hB6 rfl rfl)<|x (Qa rfl)<|xl rfl<|QF hB2' rfl rfl (by simp) hveA.one λw7 hs7 hB7=>xe ?_
 have hz7:=hs7.size
 have hW7:Step [] w w7:=((((hs1.trans hs2).trans hs4).trans hs46).then1 hs7 hb2)
 have hM7:J3 [b2] w7.heap vl ve vs ps ms:=(hM4.ext hs46).st hs7
 have hve7:Qt 3 w2.heap.size w7 ve (evs aa):=Qm (Qu hve4 hs46) hs7 (λb hb=>by have:=(Qq hve4 b hb).1;simp;omega)
 have hB6':=hB6.step hs7 (by simp;omega)
 refine Qc<|x (Qn hB6' rfl rfl)<|xl rfl<|xf<|(Qbo hM7 hn).mono ?_
 rintro r8 w8 ⟨hs8,hr8⟩
 have hz8:=hs8.size
 have hB8:=hB7.ext hs8
 have hexA:(∃p∈ps,p.a.st=0)↔(∃a∈aa,a.st=0):=by
  rw[←haa]
  constructor
  ·rintro ⟨p,hp,h0⟩;exact ⟨p.a,List.mem_map_of_mem hp,h0⟩
  ·rintro ⟨a,ha,h0⟩;obtain ⟨p,hp,rfl⟩:=List.mem_map.1 ha;exact ⟨p,hp,h0⟩
 by_cases hz:∃p∈ps,p.a.st=0
 ·rw[if_pos hz] at hr8
  subst hr8
  refine Qb<|x (Qj rfl rfl)<|x (Qj rfl rfl)<|x Qe<|Qf<|Qg<|Qc<|Qb<|x (Zp rfl)<|xe ?_
  refine qG rfl ?_
  refine Qc<|x (Qn hB8 rfl rfl)<|xl rfl<|Ql (us:=[ve,.int .i64 0,nS,nS]) hB8 rfl rfl rfl rfl ⟨hveA.one,rfl,rfl,rfl,trivial⟩ λw9 hs9 hB9=>x Qe<|Qf<|Qk ⟨[.agg #[ve,.int .i64 0,nS,nS],Zf,.int .i64 0],⟨⟨_,rfl,Qv rfl (hB9.at (L:=[]) (by simp)).cells⟩,rfl,rfl,trivial⟩,(hW7.trans hs8).then1 hs9 hb2,_,Zf,0,rfl,?_⟩
  unfold Yb
  rw[if_neg h20]
  unfold sync
  rw[if_pos (hexA.1 hz)]
  have hve9:=Qm (Qu hve7 hs8) hs9 (λb hb=>by have:=(Qq hve4 b hb).1;simp;omega)
  refine ⟨rfl,⟨ve,_,_,rfl,λL' hL'=>⟨Qt.ints hve9 (by show (evs aa).length≤_;omega) (λb hb=>by have:=hL' b hb;omega),Zw.nil _ _ _,Zw.nil _ _ _⟩⟩,[],rfl,λL' hL'=>⟨Zw.nil _ _ _,λp hp=>by cases hp⟩⟩
 rw[if_neg hz] at hr8
 obtain ⟨vf,rfl,hf8⟩:=hr8
 have hfA:=Qt.ints (L:=[]) hf8 (by simp;omega) (by simp)
 refine Qb<|x (Qj rfl rfl)<|x (Qj rfl rfl)<|x Qe<|Qf<|Qg<|Qc<|Qb<|x (Zp rfl)<|xe ?_
 refine Yr rfl ?_
 refine Qi<|Qc<|Qb<|xl rfl<|QH (us:=[[vf]]) rfl rfl (by decide) (by simp) ⟨hfA.cells,rfl,trivial⟩ λb37 w10 hs10 hb37 hB37=>Qf ?_
 have hz10:=hs10.size
 have hl37:=hB37.lt
 refine Qc<|xl rfl<|ZU Xv λb38 w11 hs11 hb38 hm11=>?_
 have hz11:=hs11.size
 have hl38:=hm11.lt
 refine Qb<|xl rfl<|xf<|(yN ((hfA.ext hs10).ext hs11) (hkb.ext ((hW7.trans hs8).trans (hs10.trans hs11))) (λn hn=>by have:=List.eq_of_mem_replicate hn;omega) (by simp;omega)).mono ?_
 rintro r12 w12 ⟨rfl,hs12⟩
 have hz12:=hs12.size
 refine xl rfl<|Z9 (k:=Kr (List.replicate ps.length 0)) (hm11.ext hs12) rfl rfl λwS hs13 hmS=>Qb<|Qf ?_
 have hzS:=hs13.size
 have hs812:Step [] w8 w12:=(hs10.trans hs11).trans hs12
 have hs8S:Step [] w8 wS:=hs812.then1 hs13 (by omega)
 have hWS:Step [] w wS:=(hW7.trans hs8).trans hs8S
 have hzWS:=hWS.size
 have hnew:∀b∈[b2,b38,b37],b∈[b2]∨w8.heap.size≤b:=λb hb=>by
  simp only[List.mem_cons,List.not_mem_nil,or_false] at hb
  rcases hb with rfl | rfl | rfl
  ·exact .inl (by simp)
  ·exact .inr (by omega)
  ·exact .inr (by omega)
 have hMS:J3 [b2,b38,b37] wS.heap vl ve vs ps ms:=((hM7.ext hs8).up hnew).ext hs8S
 have hB6S:QS wS.heap b6 130 [vl,ve,vs]:=(hB6'.ext hs8).ext hs8S
 have hveS:Qt 3 w2.heap.size wS ve (evs aa):=Qu (Qu hve7 hs8) hs8S
 have hvelt:=Q0 hve4
 have hgef:=Qq hf8
 have hSN:SyN w1.heap.size b2 b38 b37 wS:=⟨by omega,by omega,by omega,by omega,by omega,by omega⟩
 have hSI:z8 w1.heap.size b2 b38 b37 ve wS (Ue aa) (mput [] (Kr (List.replicate ps.length 0)) (.int .i64 0)) [(vf,List.replicate ps.length 0)] (.slice (some ⟨b37,0,none⟩) 1 1) Zf Zf wS:=by
  refine ⟨Step.refl _ _,hB8.ext hs8S,hmS,?_,λb hb=>by simp[ob] at hb;exact .inl hb,QP _ _ _ _,QP _ _ _ _,by simp[Ue,hlenA],λp hp=>?_,λp hp b hb=>?_,Dj.nil' _,Dj.nil' _,Dj.nil' _⟩
  ·exact (((hB37.ext hs11).ext hs12).step hs13 (by simp;omega)).own (n:=1) (sz:=1) rfl (by omega) (by omega)
  ·simp only[List.mem_singleton] at hp;subst hp
   exact Zb (Qu hf8 hs8S) (by omega)
  ·simp only[List.mem_singleton] at hp;subst hp
   have:=hgef b hb
   refine ⟨by omega,?_,by simp[ob,Zf],by simp[ob,Zf]⟩
   simp[ob];omega
 have hkn0:V1 ps.length (mput [] (Kr (List.replicate ps.length 0)) (.int .i64 0)) (Ue aa).tup:=by
  have hk0:V1 ps.length [] []:=λu _ _=>rfl
  have:=hk0.add (u:=List.replicate ps.length 0) (by simp) (λx hx=>by have:=List.eq_of_mem_replicate hx;omega)
  simpa[Ue,hlenA] using this
 have hok0:VZ aa (Ue aa):=by
  refine ⟨λt ht=>?_,by simp[Ue]⟩
  simp only[Ue,List.mem_singleton] at ht
  subst ht
  refine ⟨by simp,λi h1 h2=>?_⟩
  have h3:=(hokA aa[i] (List.getElem_mem h2)).st0
  have h4:aa[i].st≠0:=λe=>hz (hexA.2 ⟨aa[i],List.getElem_mem h2,e⟩)
  simp only[List.getElem_replicate];omega
 generalize hT:jr aa 4096 0 (Ue aa)=T
 have hfinal:∀s,T=some s→sync aa=some (⟨evs aa,s.tup.length,s.mk',s.ed⟩,s.tup):=λs hs=>by
  unfold sync;rw[if_neg (λe=>hz (hexA.2 e)),hT,hs];rfl
 have hfinalN:T=none→sync aa=none:=λhs=>by unfold sync;rw[if_neg (λe=>hz (hexA.2 e)),hT,hs];rfl
 refine Qg<|Qc<|Qf ?_
 have hb6S:b6∉[b2,b38,b37]:=by simp;omega
 refine Qh<|QA (α:=Nat×Sy×List (ByteArray×Value)×List TV×Value×Value×Value) [(3,4),(10,10),(12,16),(42,111)] (λz=>[(3,z.2.2.2.2.1),(10,.int .i64 z.1)])
  (λz w'=>z8 w1.heap.size b2 b38 b37 ve wS z.2.1 z.2.2.1 z.2.2.2.1 z.2.2.2.2.1 z.2.2.2.2.2.1 z.2.2.2.2.2.2 w'∧VZ aa z.2.1∧V1 ps.length z.2.2.1 z.2.1.tup∧z.1≤z.2.1.tup.length∧z.2.1.mk'.length≤z.1∧z.2.1.ed.length≤z.1*1000∧jr aa (4096 - z.1) z.1 z.2.1=T)
  (λz=>4096 - z.1) (by rfl) (0,Ue aa,_,_,_,Zf,Zf) ⟨rfl,rfl,trivial⟩ ⟨hSI,hok0,hkn0,Nat.zero_le _,Nat.zero_le _,Nat.zero_le _,hT⟩ ?_
 rintro ⟨i,s,m,qs,vt,vk,vd⟩ g w14 ⟨hI,hsk,hkn,hi,hmk,hed,hrun⟩
 simp only[] at hI hsk hkn hi hmk hed hrun
 have hle:=hsk.le
 have hql:qs.length=s.tup.length:=by rw[←hI.q];simp
 have hqv:∀p∈qs,Vt aa p.2:=λp hp=>hsk.v p.2 (by rw[←hI.q];exact List.mem_map_of_mem hp)
 have hqn:∀p∈qs,p.2.length≤12:=λp hp=>by have:=(hqv p hp).1;omega
 have htA:=QV (L:=[]) hI.t (by omega) (by simp)
 refine Qg<|Qc<|Qb<|Qb<|x (Qs htA rfl)<|x (QB rfl rfl)<|xe ?_
 refine QD rfl (λh45=>?_) (λh45=>?_)
 ·have hend:T=some s:=by rw[←hrun,Qee (by omega)]
  refine Qz ?_
  refine Qc<|Qb<|x (Qs htA rfl)<|x (Qa rfl)<|xl rfl<|QF hI.A rfl rfl (by simp) rfl λw15 hs15 hB15=>xe ?_
  refine Qc ?_
  have hkA:=Qt.ints (L:=[]) hI.k (by omega) (by simp)
  have heA:=ZV.eds (L:=[]) hI.e (by omega) (by simp)
  refine x (Qn hB15 rfl rfl)<|Qb<|xl rfl<|Ql (us:=[ve,.int .i64 qs.length,vk,vd]) hB15 rfl rfl rfl rfl ⟨hveA.one,rfl,hkA.one,heA.one,trivial⟩ λw16 hs16 hB16=>x Qe<|Qf ?_
  have hs1516:Step [b2] w14 w16:=hs15.trans' hs16
  have hfin:Step [] w w16:=(hWS.then hI.st (λb hb=>.inr (by simp at hb;omega))).then1 hs1516 hb2
  refine Qk ⟨[.agg #[ve,.int .i64 qs.length,vk,vd],vt,.int .i64 0],⟨⟨_,rfl,Qv rfl (hB16.at (L:=[]) (by simp)).cells⟩,rfl,rfl,trivial⟩,hfin,_,vt,0,rfl,?_⟩
  unfold Yb
  rw[if_neg h20,hfinal s hend]
  have e1:(qs.length:Int)=s.tup.length:=by rw[hql]
  have k0:Qt 3 w2.heap.size w16 ve (evs aa):=Qm (Qm hveS hI.st (λb hb=>by have:=(Qq hve4 b hb).1;have:=hvelt b hb;simp;omega)) hs1516 (λb hb=>by have:=(Qq hve4 b hb).1;simp;omega)
  have k1:=Qm hI.k hs1516 (λb hb=>by have:=(Qq hI.k b hb).1;simp;omega)
  have k2:=Qm hI.e hs1516 (λb hb=>by have:=(Qq hI.e b hb).1;simp;omega)
  have k3:=Qm hI.t hs1516 (λb hb=>by have:=(Qq hI.t b hb).1;simp;omega)
  refine ⟨rfl,⟨ve,vk,vd,by rw[e1],λL' hL'=>⟨Qt.ints k0 (by show (evs aa).length≤_;omega) (λb hb=>by have:=hL' b hb;omega),Qt.ints k1 (by show s.mk'.length≤_;omega) (λb hb=>by have:=hL' b hb;omega),ZV.eds k2 (by show s.ed.length≤_;omega) (λb hb=>by have:=hL' b hb;omega)⟩⟩,qs,hI.q,λL' hL'=>⟨?_,λp hp=>?_⟩⟩
  ·exact QV k3 (by omega) (λb hb hbL=>by have:=(Qq hI.t b hb).1;have:=hL' b hbL;omega)
  ·exact Qt.ints (Qm (hI.el p hp) hs1516 (λb hb=>by have:=(Qq (hI.el p hp) b hb).1;simp;omega)) (by have:=hqn p hp;omega) (λb hb=>by have:=hL' b hb;omega)
 have hlt:i<s.tup.length:=by omega
 have hltq:i<qs.length:=by omega
 have hsyT:=QkL hI.q hltq
 have htv:=hqv (qs[i]'hltq) (List.getElem_mem hltq)
 obtain ⟨t,htdef⟩:∃t,(qs[i]'hltq).2=t:=⟨_,rfl⟩
 rw[htdef] at hsyT htv
 refine Qi ?_
 have hrun2:(KH aa i t (evs aa) (ZA aa i t s)).bind (jr aa (4096 - (i+1)) (i+1))=T:=by
  rw[←hrun]
  obtain ⟨f,hf⟩:∃f,4096 - i=f+1:=⟨4096 - i - 1,by omega⟩
  rw[hf,jr,if_pos hlt,hsyT,show 4096 - (i+1)=f by omega]
 have hM14:=hMS.st hI.st
 have hM14':J3 [] w14.heap vl ve vs ps ms:=hM14.up (λ_ hb=>by cases hb)
 have hB614:=hB6S.step hI.st hb6S
 have htI:QL [] w14.heap (qs[i]'hltq).1 t:=by rw[←htdef];exact Qt.ints (hI.el (qs[i]'hltq) (List.getElem_mem hltq)) (by have:=hqn (qs[i]'hltq) (List.getElem_mem hltq);omega) (by simp)
 refine Qg<|Qh<|QW (α:=Value) [(48,59)] (λz=>[]) (λz w'=>z8 w1.heap.size b2 b38 b37 ve wS (ZA aa i t s) m qs vt z vd w') (by rfl) ?_ ?_
 ·refine Qg<|QT (Step [] w14) [(0,true),(1,true),(2,true),(3,true),(4,true),(5,false)] mixed (by rfl) (by kernel_rfl) (Step.drew _ _) ?_
  refine pq (λ_ hc=>Qn (hB614.ext hc) rfl rfl)<|p (λ_=>Qo)<|p (λ_=>Qo)<|pig rfl yj htA rfl rfl hltq λa51 h51 =>
   pq (λ_ hc=>Qw (h51.ext hc) rfl)<|pk<|xf<|(Qdq (hM14'.ext (Step.drew _ _)) (htI.ext (Step.drew _ _)) (by rw[htv.1,hlenA]) (λp hp=>(hok p hp).mri) hn).mono ?_
  rintro r17 w17 ⟨rfl,hs17⟩
  have hs17':=(Step.drew [] w14).trans hs17
  refine ⟨hs17',?_⟩
  refine pe ?_
  have hI17:=hI.ext hs17'
  refine QY rfl (λh53=>?_) (λh53=>?_)
  rotate_left
  ·refine Qi<|⟨vk,trivial,?_⟩
   rw[haa] at h53
   unfold ZA;rw[if_neg (by rw[h53];simp)];exact hI17
  refine Qx<|x (Qa rfl)<|x (Qd hI17.A rfl rfl)<|Qb<|xl rfl<|QH (us:=[[.int .i64 i]]) rfl rfl (by decide) (by simp) ⟨rfl,rfl,trivial⟩ λb57 w18 hs18 hb57 hB57=>?_
  have hI18:=hI17.ext hs18
  refine xl rfl<|Q5 (news:=[.int .i64 i]) (L:=[]) hI18.k rfl rfl rfl (hB57.at (by simp)) (by simp[Value.oneCell']) (by omega) hI18.st.size λv19 w19 ho19 hs19 hn19=>?_
  have hk19:Qt 3 wS.heap.size w19 v19 (s.mk'++[(i:Int)]):=Qt.snoc ho19
  refine x (Qa rfl)<|xl rfl<|QF (hI18.A.step hs19 (QX hI18.k (by omega))) rfl rfl (by simp) (Qt.ints (L:=[]) hk19 (by simp;omega) (by simp)).one λw20 hs20 hB20=>xe ?_
  refine ⟨v19,trivial,?_⟩
  rw[haa] at h53
  unfold ZA;rw[if_pos h53]
  exact hI18.setK hSN hs19 hk19 hn19 hs20 hB20
 rintro vk2 g3 w21 hI2
 have hsk2:VZ aa (ZA aa i t s):=zj hsk
 have htup2:(ZA aa i t s).tup=s.tup:=by unfold ZA;split <;> rfl
 have hed2:(ZA aa i t s).ed=s.ed:=by unfold ZA;split <;> rfl
 have hmk2:(ZA aa i t s).mk'.length≤i+1:=by
  unfold ZA;split
  ·simp only[List.length_append,List.length_singleton];omega
  ·omega
 have hveI:QL [b2,b38,b37] wS.heap ve (evs aa):=by have:=hMS.ev;rw[haa] at this;exact this
 refine Qc<|x (Qa rfl)<|x (Qd (hB6S.step hI2.st hb6S) rfl rfl)<|x (Qs hveI rfl)<|Qb<|xe ?_
 refine Qh<|QA (α:=Nat×Sy×List (ByteArray×Value)×List TV×Value×Value) [(3,4),(12,16),(63,111)] (λz=>[(3,z.2.2.2.2.1),(63,.int .i64 z.1)])
  (λz w'=>z8 w1.heap.size b2 b38 b37 ve wS z.2.1 z.2.2.1 z.2.2.2.1 z.2.2.2.2.1 vk2 z.2.2.2.2.2 w'∧VZ aa z.2.1∧V1 ps.length z.2.2.1 z.2.1.tup∧z.1≤(evs aa).length∧z.2.1.mk'=(ZA aa i t s).mk'∧z.2.1.ed.length≤i*1000+z.1 ∧
   (∃h:i<z.2.2.2.1.length,(z.2.2.2.1[i]'h).2=t)∧(KH aa i t ((evs aa).drop z.1) z.2.1).bind (jr aa (4096 - (i+1)) (i+1))=T)
  (λz=>(evs aa).length - z.1) (by rfl) (0,ZA aa i t s,m,qs,vt,vd) ⟨rfl,rfl,trivial⟩
  ⟨hI2,hsk2,by rw[htup2];exact hkn,Nat.zero_le _,rfl,by rw[hed2];simpa using hed,⟨hltq,htdef⟩,hrun2⟩ ?_
 rintro ⟨j,s4,m4,qs4,vt4,vd4⟩ g4 w22 ⟨hI4,hsk4,hkn4,hj,hmk4,hed4,⟨hlt4,ht4⟩,hrun4⟩
 simp only[] at hI4 hsk4 hkn4 hj hmk4 hed4 hrun4 hlt4 ht4
 have hql4:qs4.length=s4.tup.length:=by rw[←hI4.q];simp
 have hle4:=hsk4.le
 refine Qc<|x (QB rfl rfl)<|xe ?_
 refine Qg<|QD rfl (λh64=>?_) (λh64=>?_)
 ·rw[List.drop_of_length_le (by omega),KH] at hrun4
  refine Qz ?_
  refine Qx<|Qb<|x (Qy rfl rfl ⟨by omega,by omega⟩)<|Qf<|⟨(i+1,s4,m4,qs4,vt4,vk2,vd4),by simp only[];omega,⟨rfl,rfl,trivial⟩,hI4,hsk4,hkn4,by simp only[];omega,by simp only[];rw[hmk4];exact hmk2,by simp only[];omega,hrun4⟩
 have hltj:j<(evs aa).length:=by omega
 rw[Q6 hltj,KH] at hrun4
 obtain ⟨v,hvj⟩:∃v,(evs aa)[j]=v:=⟨_,rfl⟩
 rw[hvj] at hrun4
 refine Qi<|Qg<|Qh<|Qc ?_
 have hveI4:=hveI.st hI4.st
 refine xii hveI4 rfl rfl hltj λa65 h65=>?_
 rw[hvj] at h65
 refine x (Qw h65 rfl)<|Qf ?_
 have hM22:=(hMS.st hI4.st).up (L':=[]) (λ_ hb=>by cases hb)
 have hB622:=hB6S.step hI4.st hb6S
 have htA4:=QV (L:=[]) hI4.t (by omega) (by simp)
 have htI4:QL [] w22.heap (qs4[i]'hlt4).1 t:=by rw[←ht4];exact Qt.ints (hI4.el (qs4[i]'hlt4) (List.getElem_mem hlt4)) (by rw[ht4,htv.1];omega) (by simp)
 refine Qg<|QT (Step [] w22) [(0,true),(1,true),(2,true),(3,true),(4,true),(5,true),(6,false),(7,true),(8,true),(9,true),(10,true),(11,true)] mixed (by rfl) (by kernel_rfl) (Step.drew _ _) ?_
 refine pq (λ_ hc=>Qn (hB622.ext hc) rfl rfl)<|p (λ_=>Qo)<|p (λ_=>Qo)<|pig rfl yj htA4 rfl rfl hlt4 λa71 h71 =>
  pq (λ_ hc=>Qw (h71.ext hc) rfl)<|p (λ_=>Qo)<|pk<|xf<|(QeU (hM22.ext (Step.drew _ _)) (htI4.ext (Step.drew _ _)) (by rw[htv.1,hlenA]) (λp hp=>(hok p hp).ali) (λp hp=>(hok p hp).edi) hn _).mono ?_
 rintro r23 w23 ⟨hs23,hr23⟩
 rw[haa] at hr23
 have hs23':=(Step.drew [] w22).trans hs23
 refine ⟨hs23',?_⟩
 have hI5:=hI4.ext hs23'
 have hz23:=hs23'.size
 have hz22:=hI4.st.size
 rcases QlT (Zu v aa t) with hstp | ⟨u,hstp⟩
 ·rw[hstp] at hr23
  subst hr23
  rw[Qeh hstp] at hrun4
  refine p (λ_=>Qo)<|p (λ_=>Qj rfl rfl)<|p (λ_=>Qj rfl rfl)<|p (λ_=>Qe)<|p (λ_=>Qe)<|pe ?_
  refine Qg<|Qc<|Qb<|x (Zp rfl)<|xe ?_
  refine qG rfl ?_
  refine Qz ?_
  refine Qx<|x (Qy rfl rfl ⟨by omega,by omega⟩)<|Qb<|xe ?_
  exact ⟨(j+1,s4,m4,qs4,vt4,vd4),by simp only[];omega,⟨rfl,rfl,trivial⟩,hI5,hsk4,hkn4,hltj,hmk4,by simp only[];omega,⟨hlt4,ht4⟩,hrun4⟩
 ·rw[hstp] at hr23
  obtain ⟨vx,rfl,hx23⟩:=hr23
  have huv:=XM hokA htv hstp
  have hul:u.length=ps.length:=by rw[huv.1,hlenA]
  have hub:=huv.bd hstA
  have hu0:∀x∈u,0≤x:=λx hx=>(hub x hx).1
  refine p (λ_=>Qo)<|p (λ_=>Qj rfl rfl)<|p (λ_=>Qj rfl rfl)<|p (λ_=>Qe)<|p (λ_=>Qe)<|pe ?_
  refine Qg<|Qc<|Qb<|x (Zp rfl)<|xe ?_
  refine Yr rfl ?_
  refine Qi ?_
  have hxA:=Qt.ints (L:=[]) hx23 (by omega) (by simp)
  have hgex:=Qq hx23
  refine QW (α:=Unit) [(15,16),(79,85)] (λz=>[(15,.int .i64 (if u∈s4.tup then (s4.tup.idxOf u:Int) else 0)),(16,.bool (decide (u∈s4.tup)))]) (λz w'=>Step [] w23 w') (by rfl) ?_ ?_
  ·refine Qx<|Qb<|Qb<|xl rfl<|xf<|(yN hxA (hkb.ext (hWS.then hI5.st (λb hb=>.inr (by simp at hb;omega)))) hub (by omega)).mono ?_
   rintro r24 w24 ⟨rfl,hs24⟩
   by_cases hu:u∈s4.tup
   ·refine x (zu (k:=Kr u) ((hI5.ext hs24).M) rfl rfl (by rw[hkn4 u hul hu0,if_pos hu]))<|Qb<|x (Qj rfl rfl)<|x (Qj rfl rfl)<|x Qe<|Qf ?_
    exact ⟨(),⟨congrArg (Value.int .i64) (if_pos hu).symm,congrArg Value.bool (decide_eq_true hu).symm,trivial⟩,hs24⟩
   ·refine x (Qdi (k:=Kr u) ((hI5.ext hs24).M) rfl rfl (by rw[hkn4 u hul hu0,if_neg hu]))<|Qb<|x (Qj rfl rfl)<|x (Qj rfl rfl)<|x Qe<|Qf ?_
    exact ⟨(),⟨congrArg (Value.int .i64) (if_neg hu).symm,congrArg Value.bool (decide_eq_false hu).symm,trivial⟩,hs24⟩
  rintro _ g6 w25 hs25
  have hI6:=hI5.ext hs25
  have hx25:=Qu hx23 hs25
  have hxA25:=hxA.ext hs25
  have hz25:=hs25.size
  have hadd:∀b∈ob vx,b∉ob vt4∧b∉ob vk2∧b∉ob vd4:=λb hb=>by
   have h1:=(hgex b hb).1
   have h1':w22.heap.size≤b:=h1
   exact ⟨λhb'=>by have:=Q0 hI4.t b hb';omega,λhb'=>by have:=Q0 hI4.k b hb';omega,λhb'=>by have:=Q0 hI4.e b hb';omega⟩
  refine QW (α:=List (ByteArray×Value)×List TV×Value) [(3,4),(15,15),(86,101)] (λz=>[(3,z.2.2),(15,.int .i64 ((Yg s4 u).tup.idxOf u:Int))])
   (λz w'=>z8 w1.heap.size b2 b38 b37 ve wS (Yg s4 u) z.1 z.2.1 z.2.2 vk2 vd4 w'∧(u∈s4.tup∨s4.tup.length≠4096)∧V1 ps.length z.1 (Yg s4 u).tup∧∃h:i<z.2.1.length,(z.2.1[i]'h).2=t) (by rfl) ?_ ?_
  ·refine Qc<|Qb<|x (Zp rfl)<|xe ?_
   refine QY rfl (λh87=>?_) (λh87=>?_)
   rotate_left
   ·have hu:u∈s4.tup:=by simpa using h87
    refine Qi ?_
    have e1:Yg s4 u=s4:=by unfold Yg;rw[if_pos hu]
    have e2:(if u∈s4.tup then (s4.tup.idxOf u:Int) else 0)=((Yg s4 u).tup.idxOf u:Int):=by rw[e1,if_pos hu]
    refine ⟨(m4,qs4,vt4),⟨rfl,congrArg (Value.int .i64) e2,trivial⟩,?_,.inl hu,?_,hlt4,ht4⟩
    ·rw[e1];exact hI6
    ·rw[e1];exact hkn4
   have hu:u∉s4.tup:=by simpa using h87
   have htA6:=QV (L:=[]) hI6.t (by omega) (by simp)
   refine Qg<|Qc<|Qb<|x (Qs htA6 rfl)<|x (Zn rfl rfl)<|xe ?_
   refine Q3 rfl (λh90=>?_) (λh90=>?_)
   ·refine Qc<|x (QN trivial)<|xl rfl<|Ql (us:=[nS,.int .i64 0,nS,nS]) hI6.A rfl rfl rfl rfl ⟨rfl,rfl,rfl,rfl,trivial⟩ λw26 hs26 hB26=>x Qe<|Qf<|Qk ⟨[zA,Zf,.int .i64 3],⟨⟨_,rfl,Qv rfl (hB26.at (L:=[]) (by simp)).cells⟩,rfl,rfl,trivial⟩,(hWS.then hI6.st (λb hb=>.inr (by simp at hb;omega))).then1 hs26 hb2,zA,Zf,3,rfl,?_⟩
    unfold Yb
    rw[Qej hstp hu (by omega)] at hrun4
    rw[if_neg h20,hfinalN hrun4.symm]
    exact ⟨rfl,rfl,rfl⟩
   have hl4:s4.tup.length≠4096:=by omega
   refine Qi<|Qc<|Qb<|x (Qs htA6 rfl)<|Qf<|Qc<|Qb<|Qb<|xl rfl<|xf<|(yN hxA25 (hkb.ext (hWS.then hI6.st (λb hb=>.inr (by simp at hb;omega)))) hub (by omega)).mono ?_
   rintro r26 w26 ⟨rfl,hs26⟩
   have hI7:=hI6.ext hs26
   refine Qb<|xl rfl<|Yv (k:=Kr u) hI7.M rfl rfl λw27 hs27 hm27=>xe ?_
   have hI8:=hI7.setM hSN hs27 hm27
   have hx27:=Qm (Qu hx25 hs26) hs27 (λb hb=>by have:=(hgex b hb).1;have h1':w22.heap.size≤b:=this;simp;omega)
   refine Qx<|Qb<|Qb<|xl rfl<|QH (us:=[[vx]]) rfl rfl (by decide) (by simp) ⟨hxA.cells,rfl,trivial⟩ λb100 w28 hs28 hb100 hB100=>?_
   have hI9:=hI8.ext hs28
   refine xl rfl<|Q5 (news:=[vx]) (L:=[]) hI9.t rfl rfl rfl (hB100.at (by simp)) (λy hy=>by simp only[List.mem_singleton] at hy;subst hy;exact hxA.one) (by omega) (by have:=hI9.st.size;have:=hSN.nS;omega) λv29 w29 ho29 hs29 hn29=>Qf ?_
   have hk29:QbL 40 w1.heap.size w29 v29 (qs4++[(vx,u)]):=QbL.snoc ho29
   have hIA:=hI9.setT hSN (u:=u) (Zb (Qu hx27 hs28) (by show wS.heap.size≤w22.heap.size;omega)) hadd hs29 hk29 hn29
   have e1:Yg s4 u=⟨s4.tup++[u],s4.mk',s4.ed⟩:=by unfold Yg;rw[if_neg hu]
   have e2:(qs4.length:Int)=((Yg s4 u).tup.idxOf u:Int):=by
    rw[e1]
    simp only[]
    rw[List.idxOf_append,if_neg hu,←hql4];simp
   refine ⟨(mput m4 (Kr u) (.int .i64 (qs4.length:Int)),qs4++[(vx,u)],v29),⟨rfl,congrArg (Value.int .i64) e2,trivial⟩,?_,.inr hl4,?_,by simp;omega,?_⟩
   ·rw[e1];exact hIA
   ·rw[e1]
    simp only[]
    rw[hql4];exact hkn4.add hu hu0
   ·simp only[]
    rw[List.getElem_append_left hlt4];exact ht4
  rintro ⟨m5,qs5,vt5⟩ g7 w30 ⟨hI10,hlim,hkn5,hlt5,ht5⟩
  simp only[] at hI10 hkn5 hlt5 ht5
  have hed5:(Yg s4 u).ed.length≤i*1000+j:=by rw[Qel];exact hed4
  have hsy:=Qg7 (aa:=aa) (i:=i) (s:=s4) hstp hlim
  have hsk5:=Qei hokA hsk4 htv hsy
  rw[hsy] at hrun4
  refine Qx<|x (Qa rfl)<|x (Qd hI10.A rfl rfl)<|Qb<|Qb<|Qb<|x (QN ⟨rfl,rfl,rfl,trivial⟩)<|xl rfl<|QH (us:=[QC ((i:Int),v,((Yg s4 u).tup.idxOf u:Int))]) rfl rfl (by decide) (by exact (by decide:1*3≤1000000)) ⟨rfl,rfl,trivial⟩ λb108 w31 hs31 hb108 hB108=>?_
  have hI11:=hI10.ext hs31
  refine xl rfl<|Q5 (news:=QC ((i:Int),v,((Yg s4 u).tup.idxOf u:Int))) (L:=[]) hI11.e rfl rfl rfl (hB108.at (by simp)) (λy hy=>by simp only[QC,List.mem_cons,List.not_mem_nil,or_false] at hy;rcases hy with rfl | rfl | rfl <;> rfl) (by omega) hI11.st.size λv32 w32 ho32 hs32 hn32=>?_
  have hk32:ZV 126 wS.heap.size w32 v32 ((Yg s4 u).ed++[((i:Int),v,((Yg s4 u).tup.idxOf u:Int))]):=ZV.snoc ho32
  refine x (Qa rfl)<|xl rfl<|QF (hI11.A.step hs32 (QX hI11.e (by omega))) rfl rfl (by simp) (ZV.eds (L:=[]) hk32 (by simp;omega) (by simp)).one λw33 hs33 hB33=>xe ?_
  have hI12:=hI11.setE hSN hs32 hk32 hn32 hs33 hB33
  refine Qx<|x (Qy rfl rfl ⟨by omega,by omega⟩)<|Qb<|xe ?_
  refine ⟨(j+1,_,m5,qs5,vt5,v32),by simp only[];omega,⟨rfl,rfl,trivial⟩,hI12,hsk5,hkn5,hltj,?_,?_,⟨hlt5,ht5⟩,hrun4⟩
  ·simp only[];rw[Qek];exact hmk4
  ·simp only[List.length_append,List.length_singleton];omega
structure K3 where
 en:LI
 dis:LI
 mk':Bool
 ps:Bool
def Qj1:K3:=⟨[],[],false,false⟩
def Qjj (l:LI) (v:Int):LI:=mrg (· || ·) l [v]
def Ql0 (p s:QM) (x y:Int) (c:K3) (v:Int):K3 :=
 match eget p.ed x v with
 | none=>c
 | some _=>match eget s.ed y v with
  | some _=>⟨Qjj c.en v,c.dis,c.mk',c.ps⟩
  | none=>⟨c.en,Qjj c.dis v,c.mk',c.ps⟩
def Ql1 (p s:QM) (x y:Int) (c:K3):K3:=⟨c.en,c.dis,decide (y∈s.mr),c.ps || decide (x∈p.mr)⟩
def QlZ (p s:QM) (x y:Int) (c:K3):K3:=s.al.foldl (Ql0 p s x y) (Ql1 p s x y c)
def px (q:LI):Int:=q.getD 0 0
def py (q:LI):Int:=q.getD 1 0
def QlY (p s:QM) (l:List K3) (q:LI):List K3:=l.set (py q).toNat (QlZ p s (px q) (py q) (l.getD (py q).toNat Qj1))
def ctls (p s:QM) (pairs:List (LI)):List K3:=pairs.foldl (QlY p s) (List.replicate s.st.toNat Qj1)
def occs (n:Nat) (pairs:List (LI)):List Bool:=pairs.foldl (λo q=>o.set (py q).toNat true) (List.replicate n false)
def meets (a b:LI):LI:=mrg (· && ·) a b
def Qlc (a b:K3):Bool:=decide ((meets a.en b.dis).length+(meets b.en a.dis).length=0) && (!a.ps || !b.ps || a.mk' == b.mk')
def cget (l:LI) (i:Nat):Int:=l.getD i 0
def Qfb (cl:LI) (x y:Nat):LI:=cl.map λc=>if c=cget cl y then cget cl x else c
def lget (l:List K3) (i:Nat):K3:=l.getD i Qj1
def to0 (s:QM) (x:Nat) (v:Int):Int:=match eget s.ed x v with | some u=>u | none=>0
def clE (s:QM) (x y:Nat) (z:LI×Bool) (v:Int):LI×Bool :=
 if cget z.1 (to0 s x v).toNat≠cget z.1 (to0 s y v).toNat then (Qfb z.1 (to0 s x v).toNat (to0 s y v).toNat,true) else z
def clY (s:QM) (l:List K3) (x:Nat) (z:LI×Bool) (y:Nat):LI×Bool :=
 if cget z.1 x<0∨cget z.1 x≠cget z.1 y then z else (meets (lget l x).en (lget l y).en).foldl (clE s x y) z
def clX (s:QM) (l:List K3) (n:Nat) (z:LI×Bool) (x:Nat):LI×Bool:=(List.range' (x+1) (n - (x+1))).foldl (clY s l x) z
def pass (s:QM) (l:List K3) (cl:LI):LI×Bool:=(List.range' 0 cl.length).foldl (clX s l cl.length) (cl,false)
def Qgc (s:QM) (l:List K3):Nat→LI→LI
 | 0,cl=>cl
 | f+1,cl=>if (pass s l cl).2=true then Qgc s l f (pass s l cl).1 else (pass s l cl).1
def Qis (l:List K3) (cl:LI):Bool :=
 (List.range' 0 cl.length).all λx=>(List.range' 0 x).all λy=>!(decide (0≤cget cl x∧cget cl x=cget cl y) && !Qlc (lget l x) (lget l y))
def QlI (s:QM) (l:List K3) (cl:LI) (x y:Nat):LI :=
 if cget cl x<0∨cget cl y<0∨cget cl x=cget cl y then cl else
  let d:=Qgc s l (cl.length*cl.length+1) (Qfb cl x y)
  if Qis l d=true then d else cl
def QlH (s:QM) (l:List K3) (n:Nat) (cl:LI) (x:Nat):LI:=(List.range' (x+1) (n - (x+1))).foldl (λc y=>QlI s l c x y) cl
def Ql5 (o:List Bool):LI:=(List.range' 0 o.length).map λi=>if o.getD i false=true then (i:Int) else -1
def Ql4 (s:QM) (l:List K3) (cl:LI):LI:=(List.range' 0 cl.length).foldl (QlH s l cl.length) cl
def QlV (z:LI×LI) (c:Int):LI×LI :=
 if c∈z.1 then (z.1,z.2++[(z.1.idxOf c:Int) - 1]) else (z.1++[c],z.2++[(z.1.length:Int) - 1])
def nums (cl:LI):LI:=(cl.foldl QlV ([-1],[])).2
def Qlf (p s:QM) (pairs:List (LI)):LI:=nums (Ql4 s (ctls p s pairs) (Ql5 (occs s.st.toNat pairs)))
end Go.Proofs.YtgmifemhkjdblaaGreatDoor
namespace Go.Lg
section
variable {P:Program} {n:Nat} {f:Fr} {w:World} {all:List Oper} {C:World→Prop} {K:Fr→World→Prop}
def U9 (all:Array Oper) (i j:Nat) (p1 p2:List (Nat×Bool)):List (Nat×Bool)→Array Bool→Bool
 | [],ls=>Region.ready .any all ls == [i,j] && YB all p1 (ls.setIfInBounds i true) && YB all p2 (ls.setIfInBounds j true)
 | (k,q)::pl,ls=>q && (Region.ready .any all ls).contains k && Region.free .any all ls k && U9 all i j p1 p2 pl (ls.setIfInBounds k true)
def QfF (all:List Oper) (pl:List (Nat×Bool)) (i j:Nat) (p1 p2:List (Nat×Bool)):Bool :=
 Region.noSelect all.toArray && pl.length+1+p1.length == all.length && p1.length == p2.length && U9 all.toArray i j p1 p2 pl (Array.replicate all.length false)
def Fk (P:Program) (all:List Oper) (C:World→Prop) (K:Fr→World→Prop) (i j:Nat) (p1 p2:List (Nat×Bool)) (f:Fr) (w:World):Prop :=
 (ZZ all f (QK all i)=true∧XO P (QK all i) f w λf' w'=>C w'∧XP P all C K p1 f' w') ∧
 (ZZ all f (QK all j)=true∧XO P (QK all j) f w λf' w'=>C w'∧XP P all C K p2 f' w')
theorem KT {i j:Nat}{p1 p2:List (Nat×Bool)}(hl:p1.length=p2.length) (hs:Region.noSelect all.toArray=true):∀(pl:List (Nat×Bool)) (ls:Array Bool) (f:Fr) (w:World),ls.size=all.length→C w→U9 all.toArray i j p1 p2 pl ls=true →
  XP P all C (Fk P all C K i j p1 p2) pl f w→XA P all C K (pl.length+(1+p1.length)) ls f w
 | [],ls,f,w,hsz,hC,hp,h=>by
  simp only[U9,Bool.and_eq_true,beq_iff_eq] at hp
  obtain ⟨⟨hr,h1⟩,h2⟩:=hp
  simp only[XP] at h
  rw[List.length_nil,Nat.zero_add,Nat.add_comm]
  refine YA (λh0=>(by rw[h0] at hr;cases hr)) ?_
  rw[hr]
  intro k hk o ho
  have hsz':(ls.setIfInBounds k true).size=all.length:=by simpa using hsz
  simp only[List.mem_cons,List.not_mem_nil,or_false] at hk
  rcases hk with rfl | rfl
  ·have:=h.1
   rw[Za ho] at this
   rw[this.1,cond_true]
   exact this.2.mono λv w' hx=>⟨.inr (.inr hx.1),Zt hs p1 _ _ _ hsz' (.inl hx.1) h1 hx.2⟩
  ·have:=h.2
   rw[Za ho] at this
   rw[this.1,cond_true,hl]
   exact this.2.mono λv w' hx=>⟨.inr (.inr hx.1),Zt hs p2 _ _ _ hsz' (.inl hx.1) h2 hx.2⟩
 | (i0,q)::pl,ls,f,w,hsz,hC,hp,h=>by
  simp only[U9,Bool.and_eq_true] at hp
  obtain ⟨⟨⟨rfl,hr⟩,hf⟩,hp'⟩:=hp
  simp only[XP] at h
  have hri:i0∈Region.ready .any all.toArray ls:=by simpa using hr
  have e:(List.length ((i0,true)::pl))+(1+p1.length)=(pl.length+(1+p1.length))+1:=by simp;omega
  rw[e]
  cases ho:all[i0]? with
  | none =>
   exfalso
   obtain ⟨_,o,hoo,_⟩:=mem_ready.1 hri
   simp[ho] at hoo
  | some o =>
   rw[Za ho] at h
   have hsel:∀(j:Nat) (o:Oper) cs b,all[j]?=some o→o.op≠.select cs b:=λj o cs b hj=>Region.noSelect_spec hs j o cs b (by simpa using hj)
   have hfree:=λj oj hj=>Region.free_spec (ops:=all.toArray) (md:=.any) (i:=i0) (oi:=o) (listed:=ls) (by simpa using ho) hf j oj (by simpa using hj)
   have hsz':(ls.setIfInBounds i0 true).size=all.length:=by simpa using hsz
   cases hg:ZZ all f o with
   | false =>
    rw[hg] at h
    exact Y7 (v:=undef) (D:=λw=>qS o=true→C w) ho (λ_ h=>h) hsel _ ls f w (λ_=>hC) hfree hri (.inr ⟨hg,rfl⟩) (KT hl hs pl _ _ _ hsz' hC hp' h)
   | true =>
    rw[hg] at h
    simp only[cond_true] at h
    obtain ⟨v,hv,hx⟩:=h
    exact Y7 (v:=v) (D:=λw=>qS o=true→C w) ho (λ_ h=>h) hsel _ ls f w (λ_=>hC) hfree hri (.inl ⟨hg,hv⟩) (KT hl hs pl _ _ _ hsz' hC hp' hx)
theorem QiM {Q:Exit→Fr→World→Prop}{id:Nat}(C:World→Prop) (pl:List (Nat×Bool)) (i j:Nat) (p1 p2:List (Nat×Bool)) (hm:P.follows .mixedOrders=true) (hn:YW n all=true) (hp:QfF all pl i j p1 p2=true)
  (hC:C { w with drawn:=w.drawn+1 }) (h:XP P all C (Fk P all C (λf w=>Q .normal f w) i j p1 p2) pl f { w with drawn:=w.drawn+1 }):W P n (.region id all.toArray true) Q f w:=by
 simp only[QfF,Bool.and_eq_true,beq_iff_eq] at hp
 obtain ⟨⟨⟨hs,hl⟩,hl2⟩,hp⟩:=hp
 refine YF C hm hn ?_
 have h1:=KT hl2 hs pl _ _ _ (by simp) hC hp h
 rw[←Nat.add_assoc,hl] at h1
 exact h1
end
end Go.Lg
namespace Go.Proofs.YtgmifemhkjdblaaGreatDoor
open Go.Lg
end Go.Proofs.YtgmifemhkjdblaaGreatDoor
namespace Go.Lg
open Go.Proofs.YtgmifemhkjdblaaGreatDoor
theorem Zg {l:LI}{i:Nat}(h:i<l.length):l[i]=cget l i:=by simp[cget,List.getD,h]
section
variable {P:Program} {ops l:List Oper} {K:Fr→World→Prop} {f:Fr} {w:World} {d:Option Nat} {ty:Nat} {ps:String} {af:Array Edge} {gd:Option (Nat×Bool)} {C:World→Prop} {pl:List (Nat×Bool)} {i0:Nat}
theorem xic {x y:Operand}{t e bys:Nat}{z:Value}[Sl P t e 1 bys z] {L:LN}{li:LI}{v:Value}{k:IntKind}{i:Nat}
  (h:QL L w.heap v li) (hv:ev f x=v) (hy:ev f y=.int k i) (hi:i<li.length)
  (hK:∀a,At L w.heap a [.int .i64 (cget li i)]→XL P ops K l (QU f d (.pointer (some a))) w) (hg:ZZ ops f ⟨d,.indexAddr t x y,ty,ps,af,gd⟩=true:=by rfl) :
  XL P ops K (⟨d,.indexAddr t x y,ty,ps,af,gd⟩::l) f w :=
 xii h hv hy hi (λa ha=>hK a (by rw[←Zg hi];exact ha)) hg
theorem pic {x y:Operand}{t e bys:Nat}{z:Value}[Sl P t e 1 bys z] {L:LN}{li:LI}{v:Value}{H:Array Obj}{k:IntKind}{i:Nat}
  (ho:QK ops i0=⟨d,.indexAddr t x y,ty,ps,af,gd⟩) (h:QL L H v li) (hv:ev f x=v) (hy:ev f y=.int k i) (hi:i<li.length)
  (hK:∀a,At L H a [.int .i64 (cget li i)]→XP P ops C K pl (QU f d (.pointer (some a))) w) (hg:ZZ ops f (QK ops i0)=true:=by rfl):XP P ops C K ((i0,true)::pl) f w :=
 pii ho h hv hy hi (λa ha=>hK a (by rw[←Zg hi];exact ha)) hg
theorem zy {t:Nat}[h1:Xe P t] {x y:Operand}{base e g cap i:Nat}{li:LI}{v:Value}{u:Int}(h:Qt e base w v li) (hv:v=.slice (some ⟨g,0,none⟩) li.length cap) (hx:ev f x=.pointer (some ⟨g,0+i*1,none⟩)) (hy:ev f y=.int .i64 u) (hi:i<li.length)
  (hK:∀w',Step (ob v) w w'→Qt e base w' v (li.set i u)→K (QU f d undef) w'):XO P ⟨d,.store t x y,ty,ps,af,gd⟩ f w K:=by
 have h':=h
 unfold Qt at h'
 rw[hv] at h'
 refine jQ h' hx hy hi rfl λw' hs hw=>hK w' (by rw[hv];exact hs) ?_
 unfold Qt
 rw[List.length_set,List.map_set,hv];exact hw
end
theorem QeC {a n:Nat}(h:a<n):List.range' a (n - a)=a::List.range' (a+1) (n - (a+1)):=by
 rw[show n - a=(n - (a+1))+1 by omega,List.range'_succ]
theorem Qhq {a n:Nat}(h:n≤a):List.range' a (n - a)=[]:=by rw[show n - a=0 by omega];rfl
end Go.Lg
namespace Go.Proofs.YtgmifemhkjdblaaGreatDoor
open Go.Lg
end Go.Proofs.YtgmifemhkjdblaaGreatDoor
namespace Go.Lg
section
variable {P:Program} {f:Fr} {w:World} {d:Option Nat} {ty:Nat} {ps:String} {af:Array Edge} {gd:Option (Nat×Bool)} {κ:Type} [DecidableEq κ]
end
end Go.Lg
namespace Go.Proofs.YtgmifemhkjdblaaGreatDoor
open Go.Lg
theorem Qb2 {aa:List QM}{i:Nat}{t:LI}(ho:∀a∈aa,Q2 a) (ht:Vt aa t):∀(vs:LI) (s s':Sy),VZ aa s→KH aa i t vs s=some s'→VZ aa s'
 | [],s,s',h,e=>by cases e;exact h
 | v::vs,s,s',h,e=>by
  rw[KH] at e
  obtain ⟨s1,h1,h2⟩:=Option.bind_eq_some_iff.1 e
  exact Qb2 ho ht vs s1 s' (Qei ho h ht h1) h2
theorem Qec {aa:List QM}(ho:∀a∈aa,Q2 a):∀(f i:Nat) (s s':Sy),VZ aa s→jr aa f i s=some s'→VZ aa s'
 | 0,i,s,s',h,e=>by cases e;exact h
 | f+1,i,s,s',h,e=>by
  rw[jr] at e
  split at e
  ·rename_i hi
   obtain ⟨s1,h1,h2⟩:=Option.bind_eq_some_iff.1 e
   have hv:Vt aa (V3 s i):=h.v _ (by unfold V3;simp[List.getD,hi])
   exact Qec ho f _ s1 s' (Qb2 ho hv _ _ _ (zj h) h1) h2
  ·cases e;exact h
theorem Qjm {aa:List QM}(ho:∀a∈aa,Q2 a) (hz:¬∃a∈aa,a.st=0):VZ aa (Ue aa):=by
 refine ⟨λt ht=>?_,by simp[Ue]⟩
 simp only[Ue,List.mem_singleton] at ht
 subst ht
 refine ⟨by simp,λi h1 h2=>?_⟩
 have h3:=(ho aa[i] (List.getElem_mem h2)).st0
 have h4:aa[i].st≠0:=λe=>hz ⟨aa[i],List.getElem_mem h2,e⟩
 simp only[List.getElem_replicate];omega
theorem yk {aa:List QM}(ho:∀a∈aa,Q2 a) {z:QM×List (LI)}(h:sync aa=some z):(∀t∈z.2,Vt aa t)∧z.2.length≤4096:=by
 unfold sync at h
 split at h
 ·cases h;simp
 ·rename_i hz
  obtain ⟨s,h1,rfl⟩:=Option.map_eq_some_iff.1 h
  have:=Qec ho _ _ _ _ (Qjm ho hz) h1
  exact ⟨this.v,this.le⟩
def opC (p s:QM):Int:=if Y2 p≠0 then Y2 p else if Y2 s≠0 then Y2 s else if mrg (λp q=>p && !q) s.al p.al=[] then 0 else 9
def opE (p s:QM):Int:=if opC p s≠0 then opC p s else match sync [p,s] with | none=>3 | some _=>0
def opQ (p s:QM):List (LI):=match sync [p,s] with | none=>[] | some z=>z.2
def QkZ (l:LI):Int:=(l.drop 1).foldl max (cget l 0)
theorem Z4 {N b:Nat}{w w':World}{v:Value}{a:QM}(h:YV N w.heap v a) (hb:b<N) (hs:Step [b] w w'):YV N w'.heap v a:=by
 obtain ⟨va,vm,ve,h1,h2⟩:=h
 refine ⟨va,vm,ve,h1,λL hL=>?_⟩
 exact ((h2 (b::L) (λc hc=>by rcases List.mem_cons.1 hc with rfl | hc;exact hb;exact hL c hc)).st (hs.mono (by simp))).up (λc hc=>.inl (List.mem_cons_of_mem _ hc))
theorem Qgz {N b:Nat}{w w':World}{v:Value}{l:List (LI)}(h:QbM N w.heap v l) (hb:b<N) (hs:Step [b] w w'):QbM N w'.heap v l:=by
 obtain ⟨ps,h1,h2⟩:=h
 refine ⟨ps,h1,λL hL=>?_⟩
 exact ((h2 (b::L) (λc hc=>by rcases List.mem_cons.1 hc with rfl | hc;exact hb;exact hL c hc)).st (hs.mono (by simp))).up (λc hc=>.inl (List.mem_cons_of_mem _ hc))
theorem YH {N:Nat}{H:Array Obj}{v:Value}{a:QM}(h:YV N H v a):∃us,v=.agg us.toArray∧us.length=4∧ZD us:=by
 obtain ⟨va,vm,ve,h1,h2⟩:=h
 have:=h2 [] (by simp)
 exact ⟨[va,.int .i64 a.st,vm,ve],h1,rfl,this.al.one,rfl,this.mr.one,this.ed.one,trivial⟩
def gget:List ((Int×Int)×Int)→Int×Int→Option Int
 | [],_=>none
 | (k',v)::m,k=>if k'=k then some v else gget m k
def gput:List ((Int×Int)×Int)→Int×Int→Int→List ((Int×Int)×Int)
 | [],k,v=>[(k,v)]
 | (k',v')::m,k,v=>if k'=k then (k',v)::m else (k',v')::gput m k v
def QlN (s:QM) (cls:LI) (x:Nat) (m:List ((Int×Int)×Int)) (v:Int):List ((Int×Int)×Int):=gput m (cget cls x,v) (cget cls (to0 s x v).toNat)
def QlK (s:QM) (l:List K3) (cls:LI) (z:LI×List ((Int×Int)×Int)) (x:Nat):LI×List ((Int×Int)×Int) :=
 if cget cls x<0 then z else (if ((lget l x).mk' && (lget l x).ps)=true then Qjj z.1 (cget cls x) else z.1,(lget l x).en.foldl (QlN s cls x) z.2)
def QkQ (s:QM) (l:List K3) (cls:LI):LI×List ((Int×Int)×Int):=(List.range' 0 cls.length).foldl (QlK s l cls) ([],[])
def QlM (m:List ((Int×Int)×Int)) (c:Nat) (v:Int):Option Ed:=(gget m ((c:Int),v)).map λt=>((c:Int),v,t)
def QlL (m:List ((Int×Int)×Int)) (al:LI) (n:Nat):List Ed:=(List.range' 0 n).flatMap λc=>al.filterMap (QlM m c)
def QlO (s:QM) (l:List K3) (cls:LI):QM:=⟨s.al,QkZ cls+1,(QkQ s l cls).1,QlL (QkQ s l cls).2 s.al (QkZ cls+1).toNat⟩
def red (p s:QM):QM:=QlO s (ctls p s (opQ p s)) (Qlf p s (opQ p s))
def rdE (p s:QM):Int:=if opE p s≠0 then opE p s else if opQ p s=[] then 0 else Y2 (red p s)
theorem Xz {l:LI}{i:Nat}(h:i<l.length):cget l i∈l:=by rw[←Zg h];exact List.getElem_mem h
theorem Zc {α:Type}(a:α) {Q:Prop}(h:∀b,a=b→Q):Q:=h a rfl
theorem exN {a:Int}(h0:0≤a) {Q:Prop}(h:∀u:Nat,a=u→Q):Q:=h a.toNat (Int.toNat_of_nonneg h0).symm
open Tryz
theorem zi {L L':LN}{w:World}{v v':Value}{l l':LI}(h:QL L w.heap v l) (h':QL L' w.heap v' l') :
  QG prog 18 [v,v'] w λr w'=>r=.bool (decide (l=l'))∧Step [] w w':=by
 refine QG.of_W func18 rfl ntmps18 results18 (by simp) ?_
 refine Qc<|Qf<|Qc<|Qb<|Qb<|xl rfl<|xf<|(Kh h h').mono ?_
 rintro r1 w1 ⟨rfl,hs1⟩
 refine Qf ?_
 exact Qk ⟨[.bool (decide (l=l'))],⟨rfl,trivial⟩,rfl,hs1⟩
end Go.Proofs.YtgmifemhkjdblaaGreatDoor
namespace Go.Lg
section
variable {P:Program} {n:Nat} {f:Fr} {w:World} {d:Option Nat} {ty:Nat} {ps:String} {af:Array Edge} {gd:Option (Nat×Bool)}
class Ay (P:Program) (t:Nat) (m e sz:outParam Nat):Prop where
 u:P.underlying t=some (.array m e)
 i:(P.info? e).map (·.size)=some sz
theorem YM {x y:Operand}{t m e sz:Nat}[h:Ay P t m e sz] {b o:Nat}{k:IntKind}{i:Nat}(hx:ev f x=.pointer (some ⟨b,o,none⟩)) (hy:ev f y=.int k i) (h1:i<m) :
  (execOp (ev f) ⟨d,.indexAddr t x y,ty,ps,af,gd⟩).run P w=.ok (.value (.pointer (some ⟨b,o+i*sz,none⟩))) w:=by
 have hi:=h.i
 cases hn:P.info? e with
 | none=>simp[hn] at hi
 | some ii =>
  simp[hn] at hi
  simp[execOp,hx,hy,Instr.indexAt,asIntOf,run_underlying h.u,Instr.sureAddr,sizeOf,typeInfo,hn,hi,Yk]
  intro h2;omega
theorem QiH {a b:Nat}(ha:a<256):inK .u8 ((a &&& b:Nat):Int):=by
 have:a &&& b≤a:=Nat.and_le_left
 exact ⟨by omega,by omega⟩
theorem Qbf {t t':Nat}{x y:Operand}{a b:Nat}(hx:ev f x=.int .u8 a) (hy:ev f y=.int .u8 b) (ha:a<256) (hb:b<256) :
  (execOp (ev f) ⟨d,.binOp .and t x y t',ty,ps,af,gd⟩).run P w=.ok (.value (.int .u8 ((a &&& b:Nat):Int))) w:=by
 refine Xc hx hy ?_
 simp only[binOp,Op.intBits,BitVec.ofInt_natCast,ne_eq,not_true_eq_false,if_false,Sem.run_pure]
 rw[BitVec.toNat_and,BitVec.toNat_ofNat,BitVec.toNat_ofNat,Nat.mod_eq_of_lt (show a<2 ^ IntKind.u8.bits from ha),Nat.mod_eq_of_lt (show b<2 ^ IntKind.u8.bits from hb),YZ (QiH ha)]
theorem Uo (m i:Nat):((m:Int) / 2 ^ i)=((m / 2 ^ i:Nat):Int):=by rw[Int.natCast_ediv,Int.natCast_pow];rfl
end
inductive Pt where
 | pl (l:List (Nat×Bool))
 | fk (pre:List (Nat×Bool)) (i j:Nat) (t1 t2:Pt)
def Pt.len:Pt→Nat
 | .pl l=>l.length
 | .fk pre _ _ t1 _=>pre.length+(1+t1.len)
def Y1 (all:Array Oper):List (Nat×Bool)→Array Bool→Bool
 | [],_=>true
 | (k,q)::pl,ls=>q && (Region.ready .any all ls).contains k && Region.free .any all ls k && Y1 all pl (ls.setIfInBounds k true)
def Zr:List (Nat×Bool)→Array Bool→Array Bool
 | [],ls=>ls
 | (k,_)::pl,ls=>Zr pl (ls.setIfInBounds k true)
def QeT (all:Array Oper):Pt→Array Bool→Bool
 | .pl l,ls=>YB all l ls
 | .fk pre i j t1 t2,ls=>Y1 all pre ls && Region.ready .any all (Zr pre ls) == [i,j] && t1.len == t2.len && QeT all t1 ((Zr pre ls).setIfInBounds i true) && QeT all t2 ((Zr pre ls).setIfInBounds j true)
def XT (P:Program) (all:List Oper) (C:World→Prop) (K:Fr→World→Prop):Pt→Fr→World→Prop
 | .pl l=>XP P all C K l
 | .fk pre i j t1 t2=>XP P all C (λf w=>(ZZ all f (QK all i)=true∧XO P (QK all i) f w λf' w'=>C w'∧XT P all C K t1 f' w') ∧
   (ZZ all f (QK all j)=true∧XO P (QK all j) f w λf' w'=>C w'∧XT P all C K t2 f' w')) pre
section
variable {P:Program} {n:Nat} {f:Fr} {w:World} {all:List Oper} {C:World→Prop} {K B:Fr→World→Prop}
theorem ZG:∀(pl:List (Nat×Bool)) (ls:Array Bool),(Zr pl ls).size=ls.size
 | [],_=>rfl
 | (k,q)::pl,ls=>by rw[Zr,ZG];simp
theorem ZI {m:Nat}(hs:Region.noSelect all.toArray=true):∀(pl:List (Nat×Bool)) (ls:Array Bool) (f:Fr) (w:World),C w→Y1 all.toArray pl ls=true →
  (∀f,B f w→XA P all C K m (Zr pl ls) f w)→XP P all C B pl f w→XA P all C K (pl.length+m) ls f w
 | [],ls,f,w,hC,hp,hB,h=>by
  simp only[XP] at h
  rw[List.length_nil,Nat.zero_add]
  exact hB f h
 | (i0,q)::pl,ls,f,w,hC,hp,hB,h=>by
  simp only[Y1,Bool.and_eq_true] at hp
  obtain ⟨⟨⟨rfl,hr⟩,hf⟩,hp'⟩:=hp
  simp only[XP] at h
  have hri:i0∈Region.ready .any all.toArray ls:=by simpa using hr
  have e:(List.length ((i0,true)::pl))+m=(pl.length+m)+1:=by simp;omega
  rw[e]
  cases ho:all[i0]? with
  | none =>
   exfalso
   obtain ⟨_,o,hoo,_⟩:=mem_ready.1 hri
   simp[ho] at hoo
  | some o =>
   rw[Za ho] at h
   have hsel:∀(j:Nat) (o:Oper) cs b,all[j]?=some o→o.op≠.select cs b:=λj o cs b hj=>Region.noSelect_spec hs j o cs b (by simpa using hj)
   have hfree:=λj oj hj=>Region.free_spec (ops:=all.toArray) (md:=.any) (i:=i0) (oi:=o) (listed:=ls) (by simpa using ho) hf j oj (by simpa using hj)
   cases hg:ZZ all f o with
   | false =>
    rw[hg] at h
    exact Y7 (v:=undef) (D:=λw=>qS o=true→C w) ho (λ_ h=>h) hsel _ ls f w (λ_=>hC) hfree hri (.inr ⟨hg,rfl⟩) (ZI hs pl _ _ _ hC hp' hB h)
   | true =>
    rw[hg] at h
    simp only[cond_true] at h
    obtain ⟨v,hv,hx⟩:=h
    exact Y7 (v:=v) (D:=λw=>qS o=true→C w) ho (λ_ h=>h) hsel _ ls f w (λ_=>hC) hfree hri (.inl ⟨hg,hv⟩) (ZI hs pl _ _ _ hC hp' hB hx)
theorem KS (hs:Region.noSelect all.toArray=true):∀(t:Pt) (ls:Array Bool) (f:Fr) (w:World),ls.size=all.length→C w→QeT all.toArray t ls=true→XT P all C K t f w→XA P all C K t.len ls f w
 | .pl l,ls,f,w,hsz,hC,hp,h=>Zt hs l ls f w hsz (.inl hC) hp h
 | .fk pre i j t1 t2,ls,f,w,hsz,hC,hp,h=>by
  simp only[QeT,Bool.and_eq_true,beq_iff_eq] at hp
  obtain ⟨⟨⟨⟨hq,hr⟩,hl⟩,h1⟩,h2⟩:=hp
  rw[Pt.len]
  refine ZI (B:=λf w=>(ZZ all f (QK all i)=true∧XO P (QK all i) f w λf' w'=>C w'∧XT P all C K t1 f' w') ∧
   (ZZ all f (QK all j)=true∧XO P (QK all j) f w λf' w'=>C w'∧XT P all C K t2 f' w')) hs pre ls f w hC hq (λf hB=>?_) h
  have hsz':∀k,((Zr pre ls).setIfInBounds k true).size=all.length:=λk=>by simp[ZG,hsz]
  rw[Nat.add_comm 1]
  refine YA (λh0=>(by rw[h0] at hr;cases hr)) ?_
  rw[hr]
  intro k hk o ho
  simp only[List.mem_cons,List.not_mem_nil,or_false] at hk
  rcases hk with rfl | rfl
  ·have:=hB.1
   rw[Za ho] at this
   rw[this.1,cond_true]
   exact this.2.mono λv w' hx=>⟨.inr (.inr hx.1),KS hs t1 _ _ _ (hsz' _) hx.1 h1 hx.2⟩
  ·have:=hB.2
   rw[Za ho] at this
   rw[this.1,cond_true,hl]
   exact this.2.mono λv w' hx=>⟨.inr (.inr hx.1),KS hs t2 _ _ _ (hsz' _) hx.1 h2 hx.2⟩
end
end Go.Lg
namespace Go.Proofs.YtgmifemhkjdblaaGreatDoor
open Go.Lg
theorem Yt.lt_of {a:Int}{l:LI}(h:Yt (a::l)) {x:Int}(hx:x∈l):a<x:=(List.pairwise_cons.1 h).1 x hx
theorem Yt.tail {a:Int}{l:LI}(h:Yt (a::l)):Yt l:=(List.pairwise_cons.1 h).2
theorem QhE (keep:Bool→Bool→Bool):∀(n:Nat) (a b:LI),a.length+b.length≤n→Yt a→Yt b→∀x,x∈mrg keep a b↔(x∈a∨x∈b)∧keep (decide (x∈a)) (decide (x∈b))=true:=by
 intro n
 induction n with
 | zero =>
  intro a b h _ _ x
  have ha:a=[]:=List.eq_nil_of_length_eq_zero (by omega)
  have hb:b=[]:=List.eq_nil_of_length_eq_zero (by omega)
  subst ha hb;simp[Jo]
 | succ n ih =>
  intro a b hn ia ib x
  cases a with
  | nil =>
   cases b with
   | nil=>simp[Jo]
   | cons y b =>
    rw[X9 keep (by simp)]
    have:=ih [] b (by simp at hn ⊢;omega) ia ib.tail x
    have hy:y∉b:=λh=>by have:=ib.lt_of h;omega
    simp only[Xi,tl,hx,cond_true,cond_false,List.tail_cons,List.headD_cons,List.mem_append]
    rw[this]
    by_cases e:x=y
    ·subst e
     cases hk:keep false true <;> simp[hk,hy]
    ·cases keep false true <;> simp[e]
  | cons u a =>
   cases b with
   | nil =>
    rw[X9 keep (by simp)]
    have:=ih a [] (by simp at hn ⊢;omega) ia.tail ib x
    have hy:u∉a:=λh=>by have:=ia.lt_of h;omega
    simp only[Xi,tl,hx,cond_true,cond_false,List.tail_cons,List.headD_cons,List.mem_append]
    rw[this]
    by_cases e:x=u
    ·subst e
     cases hk:keep true false <;> simp[hk,hy]
    ·cases keep true false <;> simp[e]
   | cons y b =>
    rw[X9 keep (by simp)]
    have hu:u∉a:=λh=>by have:=ia.lt_of h;omega
    have hy:y∉b:=λh=>by have:=ib.lt_of h;omega
    rcases Int.lt_trichotomy u y with h1 | h1 | h1
    ·have hub:u∉y::b:=λh=>by
      rcases List.mem_cons.1 h with h | h
      ·omega
      ·have:=ib.lt_of h;omega
     have:=ih a (y::b) (by simp at hn ⊢;omega) ia.tail ib x
     have e1:decide (u≤y)=true:=decide_eq_true (by omega)
     have e2:decide (y≤u)=false:=decide_eq_false (by omega)
     simp only[Xi,tl,hx,e1,e2,cond_true,cond_false,List.tail_cons,List.headD_cons,List.mem_append]
     rw[this]
     by_cases e:x=u
     ·subst e
      cases hk:keep true false <;> simp[hk,hu,hub]
     ·cases keep true false <;> simp[e]
    ·subst h1
     have:=ih a b (by simp at hn ⊢;omega) ia.tail ib.tail x
     have e1:decide (u≤u)=true:=decide_eq_true (by omega)
     simp only[Xi,tl,hx,e1,cond_true,List.tail_cons,List.headD_cons,List.mem_append]
     rw[this]
     by_cases e:x=u
     ·subst e
      cases hk:keep true true <;> simp[hk,hu,hy]
     ·cases keep true true <;> simp[e]
    ·have hub:y∉u::a:=λh=>by
      rcases List.mem_cons.1 h with h | h
      ·omega
      ·have:=ia.lt_of h;omega
     have:=ih (u::a) b (by simp at hn ⊢;omega) ia ib.tail x
     have e1:decide (u≤y)=false:=decide_eq_false (by omega)
     have e2:decide (y≤u)=true:=decide_eq_true (by omega)
     simp only[Xi,tl,hx,e1,e2,cond_true,cond_false,List.tail_cons,List.headD_cons,List.mem_append]
     rw[this]
     by_cases e:x=y
     ·subst e
      cases hk:keep false true <;> simp[hk,hy,hub]
     ·cases keep false true <;> simp[e]
theorem Us {keep:Bool→Bool→Bool}{a b:LI}(ia:Yt a) (ib:Yt b) (x:Int):x∈mrg keep a b↔(x∈a∨x∈b)∧keep (decide (x∈a)) (decide (x∈b))=true :=
 QhE keep _ a b (Nat.le_refl _) ia ib x
def setK (m k:Nat):LI:=((List.range' 0 k).filter λi=>decide (((m / 2 ^ i) &&& 1)=1)).map λi:Nat=>(i:Int)
theorem VI (m k:Nat):setK m (k+1)=if (m / 2 ^ k) &&& 1=1 then setK m k++[(k:Int)] else setK m k:=by
 unfold setK
 rw[List.range'_1_concat,List.filter_append,List.map_append,Nat.zero_add]
 by_cases h:(m / 2 ^ k) &&& 1=1
 ·rw[if_pos h,List.filter_cons,if_pos (decide_eq_true h)];rfl
 ·rw[if_neg h,List.filter_cons,if_neg (by rw[decide_eq_false h];simp),List.filter_nil,List.map_nil,List.append_nil]
theorem Xs (m:Nat):∀k,(setK m k).length≤k
 | 0=>by simp[setK]
 | k+1=>by
  have:=Xs m k
  rw[VI]
  split
  ·simp;omega
  ·omega
theorem jE (m k:Nat):Yt (setK m k):=by
 unfold setK Yt
 rw[List.pairwise_map]
 refine List.Pairwise.sublist List.filter_sublist ?_
 exact (List.pairwise_lt_range' (s:=0) (n:=k)).imp (λh=>by omega)
end Go.Proofs.YtgmifemhkjdblaaGreatDoor
namespace Go.Lg
section
variable {P:Program} {f:Fr} {w:World} {K:Fr→World→Prop} {d:Option Nat} {ty:Nat} {ps:String} {af:Array Edge} {gd:Option (Nat×Bool)}
theorem Ug {t ty e sz bys:Nat}{z:Value}[h:Sl P t e sz bys z] {base:Nat}{v:Value}{n:Nat}{cs:LV}(hown:w.ownsRow base e sz v n cs) :
  (Builtin.append_ #[t,t] ty #[v,nS]).run P w=.ok v w:=by
 obtain ⟨i,hi,_,hsz,_⟩:=Sl.info h
 rcases hown.2 with ⟨rfl,rfl⟩ | ⟨g,cap,cur,rfl,hbg,hgg,hnc,hcm,hcs,htake⟩
 ·simp[Builtin.append_,run_underlying h.u,sizeOf,typeInfo,hi,Builtin.lenOf,Builtin.firstCells]
 ·simp[Builtin.append_,run_underlying h.u,sizeOf,typeInfo,hi,Builtin.lenOf,Builtin.firstCells,hnc,storeCells]
theorem QeY {t e sz bys:Nat}{z:Value}[h:Sl P t e sz bys z] {s y:Operand}{base:Nat}{v:Value}{n:Nat}{cs:LV}(hown:w.ownsRow base e sz v n cs) (hs:ev f s=v)
  {v2:Value} {m:Nat} {news:LV} {L:LN} (hA:Zw L w.heap v2 m sz news) (hy:ev f y=v2) (h1:∀u∈news,u.oneCell'=true)
  (hb:n+m≤1099511627776) (hbase:base≤w.heap.size)
  (hK:∀v' w',w'.ownsRow base e sz v' (n+m) (cs++news)→Step (ob v) w w'→(∀b∈ob v',b∈ob v∨w.heap.size≤b)→K (QU f d v') w') (hby:bys≤128:=by decide) :
  XO P ⟨d,.call ⟨.builtin .append,#[s,y],#[t,t]⟩,ty,ps,af,gd⟩ f w K:=by
 rcases hA.2.2 with ⟨e1,e2⟩ | ⟨a,c,e1,_,e3⟩
 ·subst e2
  have hn:news=[]:=List.eq_nil_of_length_eq_zero (by have:=hA.1;simpa using this)
  subst hn
  have hr':(execOp (ev f) ⟨d,.call ⟨.builtin .append,#[s,y],#[t,t]⟩,ty,ps,af,gd⟩).run P w=.ok (.value v) w:=by
   simp[execOp,resolve,invoke,builtin,hs,hy,e1,Ug (ty:=ty) hown]
  exact xv hr' (hK v w (by simpa using hown) (Step.refl _ _) (λb hb=>.inl hb))
 ·exact Q5 hown hs (hy.trans e1) hA.1 e3 h1 hb hbase hK hby
end
end Go.Lg
namespace Go.Proofs.YtgmifemhkjdblaaGreatDoor
open Tryz
open Go.Lg
theorem QcD {L:LN}{w:World}{v:Value}{l:LI}(h:QL L w.heap v l) (x:Int) :
  QG prog 141 [v,.int .i64 x] w λr w'=>r=.bool (decide (x∈l))∧w'=w:=by
 have hle:=h.le
 refine QG.of_W func141 rfl ntmps141 results141 (by simp) ?_
 refine Qc<|Lg.Qf<|Qg<|Qc<|Lg.Qf<|Qh<|QA (α:=Nat) [(4,17)] (λk=>[(5,.int .i64 k)]) (λk w'=>w'=w∧k≤l.length∧(x∈l↔x∈l.drop k)) (λk=>l.length - k) (by rfl) 0 ⟨rfl,trivial⟩ ⟨rfl,Nat.zero_le _,by simp⟩ ?_
 rintro k g w' ⟨rfl,hk,hm⟩
 refine Qg<|Qc<|Lg.Qb<|Lg.Qb<|Lg.x (Qs h rfl)<|Lg.x (QB rfl rfl)<|xe ?_
 refine QD rfl (λh9=>?_) (λh9=>?_)
 ·refine Qz ?_
  refine Qc<|Lg.Qf<|Qk ⟨[.bool false],⟨rfl,trivial⟩,?_,rfl⟩
  rw[List.drop_of_length_le (by omega)] at hm
  simp[tup,hm]
 have hlt:k<l.length:=by omega
 have hd:=Q6 hlt
 refine Qi<|Qg<|Qh<|Qc<|Lg.Qb<|Lg.Qb<|xii h rfl rfl hlt λa14 h14=>Lg.x (Qw h14 rfl)<|Lg.Qb<|Lg.x (Zn rfl rfl)<|xe ?_
 refine Q3 rfl (λh17=>?_) (λh17=>?_)
 ·refine Qc<|Lg.Qf<|Qk ⟨[.bool true],⟨rfl,trivial⟩,?_,rfl⟩
  have:x∈l:=by rw[hm,hd,h17];exact List.mem_cons_self
  simp[tup,this]
 refine Qi<|Qx<|Lg.Qb<|Lg.x (Qy rfl rfl ⟨by omega,by omega⟩)<|Lg.Qf<|⟨k+1,by omega,⟨rfl,trivial⟩,rfl,by omega,?_⟩
 rw[hm,hd,List.mem_cons]
 exact ⟨λh=>h.resolve_left (λe=>h17 e.symm),.inr⟩
theorem jv {L:LN}{w:World}{va vm ve:Value}{a:QM}(h:Uz L w.heap ve a.ed) (s e:Int) (st:Int) :
  QG prog 142 [.agg #[va,.int .i64 st,vm,ve],.int .i64 s,.int .i64 e] w λr w'=>r=.int .i64 (nxt a.ed s e)∧Step [] w w':=by
 have hle:=h.le
 refine QG.of_W func142 rfl ntmps142 results142 (by simp) ?_
 refine Qc<|xl rfl<|QQ (us:=[va,.int .i64 st,vm,ve]) rfl λb3 w1 hs1 hb3 hB3=>Lg.Qf ?_
 replace h:=h.ext hs1
 refine Qg<|Qc<|Lg.Qf<|Qh<|QA (α:=Nat) [(6,38)] (λk=>[(7,.int .i64 k)]) (λk w'=>w'=w1∧k≤a.ed.length∧nxt (a.ed.drop k) s e=nxt a.ed s e) (λk=>a.ed.length - k) (by rfl) 0 ⟨rfl,trivial⟩ ⟨rfl,Nat.zero_le _,rfl⟩ ?_
 rintro k g w2 ⟨rfl,hk,hn⟩
 refine Qg<|Qc<|Lg.Qb<|Lg.x (Qa rfl)<|Lg.x (Qd hB3 rfl rfl)<|Lg.x (Qs h rfl)<|Lg.x (QB rfl rfl)<|xe ?_
 refine QD rfl (λh12=>?_) (λh12=>?_)
 ·refine Qz ?_
  refine Qc<|Lg.Qf<|Qk ⟨[.int .i64 (-1)],⟨rfl,trivial⟩,?_,hs1⟩
  rw[List.drop_of_length_le (by omega)] at hn
  rw[←hn];rfl
 have hlt:k<a.ed.length:=by omega
 have hd:=Q6 hlt
 refine Qi<|Qg<|Qh<|QW (α:=Bool) [(15,32)] (λz=>[(32,.bool z)]) (λz w'=>w'=w2∧z=decide (a.ed[k].1=s∧a.ed[k].2.1=e)) (by rfl) ?_ ?_
 ·refine Qx<|Lg.x (Qa rfl)<|Lg.x (Qd hB3 rfl rfl)<|Lg.Qb<|xie h rfl rfl hlt λa18 h18=>Lg.x (Zd rfl)<|Lg.x (Qw (h18.fld 0 _ rfl) rfl) <|
   Lg.Qb<|xb (Zn rfl rfl) (λh22=>?_) (λh22=>?_)
  ·refine Lg.Qb<|Lg.x (Qa rfl)<|Lg.x (Qd hB3 rfl rfl)<|Lg.Qb<|xie h rfl rfl hlt λa27 h27=>Lg.x (Zd rfl)<|Lg.x (Qw (h27.fld 1 _ rfl) rfl) <|
    Lg.Qb<|Lg.x (Zn rfl rfl)<|Lg.x (Qp rfl)<|xe ?_
   exact ⟨_,⟨rfl,trivial⟩,rfl,by simp[h22]⟩
  refine Lg.Qb<|xs rfl<|xs rfl<|xs rfl<|xs rfl<|xs rfl<|xs rfl<|xs rfl<|xs rfl<|Lg.x (Qp rfl)<|xe ?_
  exact ⟨_,⟨rfl,trivial⟩,rfl,by simp[h22]⟩
 rintro z g w3 ⟨rfl,rfl⟩
 refine Q3 rfl (λh32=>?_) (λh32=>?_)
 ·refine Qc<|Lg.x (Qa rfl)<|Lg.x (Qd hB3 rfl rfl)<|Lg.Qb<|xie h rfl rfl hlt λa36 h36=>Lg.x (Zd rfl)<|Lg.x (Qw (h36.fld 2 _ rfl) rfl) <|
   Lg.Qf<|Qk ⟨[.int .i64 a.ed[k].2.2],⟨rfl,trivial⟩,?_,hs1⟩
  rw[←hn,hd,nxt,if_pos h32];rfl
 refine Qi<|Qx<|Lg.Qb<|Lg.x (Qy rfl rfl ⟨by omega,by omega⟩)<|Lg.Qf<|⟨k+1,by omega,⟨rfl,trivial⟩,rfl,by omega,?_⟩
 rw[←hn,hd,nxt,if_neg h32]
def ixR (l:LI) (n:Int):Int:=if n∈l then (l.idxOf n:Int) else -1
theorem Qfs {l:LI}{n:Int}{k:Nat}(h:n∉l.take k) (hk:k<l.length) (he:cget l k=n):ixR l n=k:=by
 have hm:n∈l:=by rw[←he,←Zg hk];exact List.getElem_mem hk
 unfold ixR
 rw[if_pos hm]
 have hs:l=l.take k++l.drop k:=(List.take_append_drop k l).symm
 have:l.idxOf n=k:=by
  rw[hs,List.idxOf_append,if_neg h,List.drop_eq_getElem_cons hk,List.idxOf_cons,show l[k]=n by rw[Zg hk];exact he]
  simp;omega
 rw[this]
theorem Qdw {L:LN}{w:World}{v:Value}{l:LI}(h:QL L w.heap v l) (n:Int) :
  QG prog 143 [v,.int .i64 n] w λr w'=>r=.int .i64 (ixR l n)∧w'=w:=by
 have hle:=h.le
 refine QG.of_W func143 rfl ntmps143 results143 (by simp) ?_
 refine Qc<|Qf<|Qg<|Qc<|Qf<|Qh<|QA (α:=Nat) [(4,18)] (λz=>[(5,.int .i64 z)]) (λz w'=>w'=w∧z≤l.length∧n∉l.take z) (λz=>l.length - z) (by rfl) 0 ⟨rfl,trivial⟩ ⟨rfl,Nat.zero_le _,by simp⟩ ?_
 rintro k g w1 ⟨rfl,hk,hm⟩
 refine Qg<|Qc<|Qb<|Qb<|x (Qs h rfl)<|x (QB rfl rfl)<|xe ?_
 refine QD rfl (λh9=>?_) (λh9=>?_)
 ·refine Qz ?_
  refine Qc<|Qf ?_
  rw[List.take_of_length_le (by omega)] at hm
  exact Qk ⟨[.int .i64 (-1)],⟨rfl,trivial⟩,by unfold ixR;rw[if_neg hm];rfl,rfl⟩
 have hlt:k<l.length:=by omega
 refine Qi<|Qg<|Qh<|Qc<|Qb<|Qb<|xic (i:=k) h rfl rfl hlt λa14 h14=>x (Qw h14 rfl)<|Qb<|x (Zn rfl rfl)<|xe ?_
 refine Q3 rfl (λh17=>?_) (λh17=>?_)
 ·refine Qc<|Qb<|Qf ?_
  exact Qk ⟨[.int .i64 k],⟨rfl,trivial⟩,by rw[Qfs hm hlt h17];rfl,rfl⟩
 refine Qi<|Qx<|Qb<|x (Qy rfl rfl ⟨by omega,by omega⟩)<|Qf<|⟨k+1,by omega,⟨rfl,trivial⟩,rfl,hlt,?_⟩
 rw[List.take_succ_eq_append_getElem hlt,Zg hlt]
 simp only[List.mem_append,List.mem_singleton,not_or]
 exact ⟨hm,λe=>h17 e.symm⟩
theorem VP {L:LN}{w:World}{v:Value}{l:LI}(h:QL L w.heap v l) (hl:l.length≤1000000) :
  QG prog 87 [v] w λr w'=>Step [] w w'∧∃va,r=.agg #[va,.int .i64 0,nS,nS]∧Qt 3 w.heap.size w' va l:=by
 refine QG.of_W func87 rfl ntmps87 results87 (by simp) ?_
 refine Qc<|xl rfl<|Qr (us:=[nS,.int .i64 0,nS,nS]) rfl λb2 w1 hs1 hb2 hB2=>xe ?_
 have hz1:=hs1.size
 have hl2:=hB2.lt
 refine Qc<|xl rfl<|VM λb3 w2 hs2 hb3 hB3=>Qb<|?_
 have hs12:=hs1.trans hs2
 have hz2:=hs2.size
 have ho2:w2.ownsRow w1.heap.size 3 1 (.slice (some ⟨b3,0,none⟩) 0 0) 0 []:=hB3.own (n:=0) (sz:=1) rfl (by omega) hb3
 refine xl rfl<|QeY ho2 rfl (h.ext hs12) rfl (jP l) (by omega) (by omega) λva w3 ho3 hs3 hn3=>?_
 have ho3':Qt 3 w1.heap.size w3 va l:=by
  have:w3.ownsRow w1.heap.size 3 1 va (0+l.length) ([]++l.map (.int .i64)):=ho3
  rw[Nat.zero_add,List.nil_append] at this;exact this
 have hA:=Qt.ints (L:=[]) ho3' (by omega) (by simp)
 have hB23:=(hB2.ext hs2).step hs3 (QX ho2 hl2)
 have hW3:Step [] w w3:=hs12.then hs3 (λb hb=>.inr (by have:=(Qq ho2 b hb).1;omega))
 refine x (QN ⟨hA.cells,trivial⟩)<|xl rfl<|Ql (us:=[va,.int .i64 0,nS,nS]) hB23 rfl rfl rfl rfl ⟨hA.one,rfl,rfl,rfl,trivial⟩ λw4 hs4 hB4=>xe ?_
 have ho4:=Qm ho3' hs4 (λb hb=>by have:=(Qq ho3' b hb).1;simp;omega)
 exact Qk ⟨[.agg #[va,.int .i64 0,nS,nS]],⟨⟨_,rfl,Qv rfl (hB4.at (L:=[]) (by simp)).cells⟩,trivial⟩,hW3.then1 hs4 hb2,va,rfl,Zb ho4 hz1⟩
theorem pig:∀(n:Nat) (l:LI),l.Nodup→(∀x∈l,0≤x∧x<n)→l.length≤n
 | 0,l,_,h=>by
  cases l with
  | nil=>simp
  | cons a l=>have:=h a List.mem_cons_self;omega
 | n+1,l,hd,h=>by
  by_cases hm:(n:Int)∈l
  ·have h1:=pig n (l.erase (n:Int)) (hd.erase _) (λx hx=>by
    have h2:=(List.Nodup.mem_erase_iff hd).1 hx
    have h3:=h x h2.2
    have h4:x≠(n:Int):=h2.1
    omega)
   rw[List.length_erase_of_mem hm] at h1
   omega
  ·have:=pig n l hd (λx hx=>by
    have h3:=h x hx
    have h4:x≠(n:Int):=λe=>hm (by rw[←e];exact hx)
    omega)
   omega
def fdE (a:QM) (s:Int) (out:LI) (v:Int):LI:=if 0≤nxt a.ed s v∧nxt a.ed s v∉out then out++[nxt a.ed s v] else out
def fdR (a:QM) (out:LI) (s:Int):LI:=a.al.foldl (fdE a s) out
def fdL (a:QM):Nat→Nat→LI→LI
 | 0,_,out=>out
 | f+1,i,out=>if i<out.length then fdL a f (i+1) (fdR a out (cget out i)) else out
def fd0 (a:QM):LI:=if 0<a.st then [0] else []
def found (a:QM):LI:=fdL a a.st.toNat 0 (fd0 a)
structure Um (a:QM) (out:LI):Prop where
 b:∀x∈out,0≤x∧x<a.st
 d:out.Nodup
theorem Um.len {a:QM}{out:LI}(h:Um a out) (h0:0≤a.st):out.length≤a.st.toNat:=pig _ _ h.d (λx hx=>by have:=h.b x hx;omega)
theorem yD {es:List Ed}{s v:Int}(h:0≤nxt es s v):(s,v,nxt es s v)∈es:=by
 induction es with
 | nil=>simp[nxt] at h
 | cons e es ih =>
  rw[nxt] at h ⊢
  split at h
  ·rename_i he
   rw[if_pos he]
   obtain ⟨p,q,r⟩:=e
   obtain ⟨h1,h2⟩:=he
   simp only[] at h1 h2
   subst h1 h2
   exact List.mem_cons_self
  ·rename_i he
   rw[if_neg he]
   exact List.mem_cons_of_mem _ (ih h)
theorem QfP {a:QM}(ho:Q2 a) {out:LI}(h:Um a out) (s v:Int):Um a (fdE a s out v):=by
 unfold fdE
 split
 ·rename_i hc
  have hm:=ho.ed _ (yD hc.1)
  refine ⟨λx hx=>?_,?_⟩
  ·rcases List.mem_append.1 hx with hx | hx
   ·exact h.b x hx
   ·simp only[List.mem_singleton] at hx;subst hx;exact ⟨hc.1,hm.2.2.2.2⟩
  ·rw[List.nodup_append]
   refine ⟨h.d,by simp,λx hx y hy=>?_⟩
   simp only[List.mem_singleton] at hy
   subst hy
   exact λe=>hc.2 (by rw[←e];exact hx)
 ·exact h
theorem Qh8 {a:QM}{out:LI}{s v:Int}:∀x∈out,x∈fdE a s out v:=λx hx=>by unfold fdE;split;exact List.mem_append_left _ hx;exact hx
theorem QjT {a:QM}{out:LI}{s v:Int}(h:0≤nxt a.ed s v):nxt a.ed s v∈fdE a s out v:=by
 unfold fdE
 by_cases hm:nxt a.ed s v∈out
 ·rw[if_neg (λe=>e.2 hm)];exact hm
 ·rw[if_pos ⟨h,hm⟩];simp
theorem QfN {a:QM}(ho:Q2 a) (s:Int):∀(vs:LI) (out:LI),Um a out→Um a (vs.foldl (fdE a s) out)
 | [],_,h=>h
 | v::vs,_,h=>QfN ho s vs _ (QfP ho h s v)
theorem yV {a:QM}{s:Int}:∀(vs:LI) (out:LI),∀x∈out,x∈vs.foldl (fdE a s) out
 | [],_,_,hx=>hx
 | _::vs,_,x,hx=>yV vs _ x (Qh8 x hx)
theorem QfO {a:QM}{s:Int}:∀(vs:LI) (out:LI),∀v∈vs,0≤nxt a.ed s v→nxt a.ed s v∈vs.foldl (fdE a s) out
 | v::vs,out,u,hu,h=>by
  rcases List.mem_cons.1 hu with rfl | hu
  ·exact yV vs _ _ (QjT h)
  ·exact QfO vs _ u hu h
theorem QcF {a:QM}{s:Int}:∀(vs:LI) (out:LI),∃r,vs.foldl (fdE a s) out=out++r
 | [],out=>⟨[],by simp⟩
 | v::vs,out=>by
  obtain ⟨r,hr⟩:=QcF (a:=a) (s:=s) vs (fdE a s out v)
  rw[List.foldl_cons,hr]
  unfold fdE
  split
  ·exact ⟨[nxt a.ed s v]++r,by simp⟩
  ·exact ⟨r,rfl⟩
theorem qv {l r:LI}{i:Nat}(h:i<l.length):cget (l++r) i=cget l i:=by
 rw[←Zg h,←Zg (by simp;omega),List.getElem_append_left h]
def Cl (a:QM) (out:LI) (i:Nat):Prop:=∀j,j<i→j<out.length→∀v∈a.al,0≤nxt a.ed (cget out j) v→nxt a.ed (cget out j) v∈out
theorem Cl.next {a:QM}{out:LI}{i:Nat}(h:Cl a out i) (hi:i<out.length):Cl a (fdR a out (cget out i)) (i+1):=by
 intro j hj hjl v hv hn
 obtain ⟨r,hr⟩:=QcF (a:=a) (s:=cget out i) a.al out
 have hr':fdR a out (cget out i)=out++r:=hr
 have hjo:j<out.length:=by omega
 rw[hr',qv hjo] at hn ⊢
 by_cases e:j=i
 ·subst e
  have:=QfO a.al out v hv hn
  rw[←hr'];exact this
 ·exact List.mem_append_left _ (h j (by omega) hjo v hv hn)
theorem QfM {a:QM}(ho:Q2 a):∀(f i:Nat) (out:LI),Um a out→Cl a out i→i+f=a.st.toNat→Um a (fdL a f i out)∧Cl a (fdL a f i out) (fdL a f i out).length
 | 0,i,out,h,hc,hf=>by
  have:=h.len ho.st0
  exact ⟨h,λj hj hjl=>hc j (by rw[fdL] at hj;omega) hjl⟩
 | f+1,i,out,h,hc,hf=>by
  rw[fdL]
  split
  ·rename_i hi
   exact QfM ho f (i+1) _ (QfN ho _ _ _ h) (hc.next hi) (by omega)
  ·rename_i hi
   exact ⟨h,λj hj hjl=>hc j (by omega) hjl⟩
theorem QfQ (a:QM):Um a (fd0 a):=by
 unfold fd0
 split
 ·rename_i h
  exact ⟨λx hx=>by simp only[List.mem_singleton] at hx;subst hx;exact ⟨by omega,h⟩,by simp⟩
 ·exact ⟨by simp,by simp⟩
theorem U8 {a:QM}(ho:Q2 a):Um a (found a)∧∀s∈found a,∀v∈a.al,0≤nxt a.ed s v→nxt a.ed s v∈found a:=by
 obtain ⟨h1,h2⟩:=QfM ho a.st.toNat 0 (fd0 a) (QfQ a) (λj hj=>by omega) (by omega)
 refine ⟨h1,λs hs v hv hn=>?_⟩
 obtain ⟨j,hj,rfl⟩:=List.getElem_of_mem hs
 have:=h2 j hj hj v hv
 unfold found at hj hn ⊢
 rw[Zg hj] at hn ⊢
 exact this hn
def ze (a:QM) (fd:LI) (i:Nat) (v:Int):Option Ed:=if 0≤nxt a.ed (cget fd i) v then some ((i:Int),v,ixR fd (nxt a.ed (cget fd i) v)) else none
def KQ (a:QM) (fd:LI) (n:Nat):LI:=((List.range' 0 n).filter λi=>decide (cget fd i∈a.mr)).map λi:Nat=>(i:Int)
def VW (a:QM) (fd:LI) (n:Nat):List Ed:=(List.range' 0 n).flatMap λi=>a.al.filterMap (ze a fd i)
def Jg (a:QM):QM:=⟨a.al,(found a).length,KQ a (found a) (found a).length,VW a (found a) (found a).length⟩
theorem Xh {β:Type}{r:Int→Int→Prop}{q:β→β→Prop}{g:Int→Option β}(hg:∀x y u v,r x y→g x=some u→g y=some v→q u v):∀{l:LI},l.Pairwise r→(l.filterMap g).Pairwise q
 | [],_=>by simp
 | x::l,h=>by
  obtain ⟨h1,h2⟩:=List.pairwise_cons.1 h
  rw[List.filterMap_cons]
  split
  ·exact Xh hg h2
  ·rename_i u hu
   refine List.pairwise_cons.2 ⟨λv hv=>?_,Xh hg h2⟩
   obtain ⟨y,hy,hyv⟩:=List.mem_filterMap.1 hv
   exact hg x y u v (h1 y hy) hu hyv
theorem QcR {a:QM}(ho:Q2 a):Q2 (Jg a)∧(Jg a).al=a.al∧(Jg a).st≤a.st:=by
 obtain ⟨h1,h2⟩:=U8 ho
 have hl:=h1.len ho.st0
 have h0:=ho.st0
 have h4:=ho.st1
 refine ⟨⟨ho.al,ho.ali,by simp[Jg],by simp only[Jg];omega,λs hs=>?_,?_,λe he=>?_,?_⟩,rfl,by simp only[Jg];omega⟩
 ·simp only[Jg,KQ,List.mem_map,List.mem_filter,List.mem_range'_1] at hs
  obtain ⟨i,⟨hi,_⟩,rfl⟩:=hs
  simp only[Jg];omega
 ·simp only[Jg,KQ]
  unfold Yt
  rw[List.pairwise_map]
  refine List.Pairwise.sublist List.filter_sublist ?_
  exact (List.pairwise_lt_range' (s:=0) (n:=(found a).length)).imp (λh=>by omega)
 ·simp only[Jg,VW,List.mem_flatMap,List.mem_filterMap,List.mem_range'_1] at he
  obtain ⟨i,⟨_,hi⟩,v,hv,hf⟩:=he
  unfold ze at hf
  split at hf
  ·rename_i hn
   cases hf
   have hi':i<(found a).length:=by omega
   have hm:=h2 (cget (found a) i) (by rw[←Zg hi'];exact List.getElem_mem hi') v hv hn
   have hx:=List.idxOf_lt_length_of_mem hm
   simp only[Jg]
   unfold ixR
   rw[if_pos hm]
   exact ⟨by omega,by omega,hv,by omega,by omega⟩
  ·cases hf
 ·simp only[Jg,VW]
  have key:∀(is:LN),is.Pairwise (·<·)→(is.flatMap λi=>a.al.filterMap (ze a (found a) i)).Pairwise λx y:Ed=>x.1<y.1∨(x.1=y.1∧x.2.1<y.2.1):=by
   intro is
   induction is with
   | nil=>intro _;simp
   | cons i is ih =>
    intro hp
    obtain ⟨p1,p2⟩:=List.pairwise_cons.1 hp
    rw[List.flatMap_cons,List.pairwise_append]
    have from_i:∀(i:Nat) (e:Ed),e∈a.al.filterMap (ze a (found a) i)→e.1=i:=by
     intro i e he
     obtain ⟨v,_,hf⟩:=List.mem_filterMap.1 he
     unfold ze at hf
     split at hf
     ·cases hf;rfl
     ·cases hf
    refine ⟨?_,ih p2,λe he e' he'=>?_⟩
    ·refine Xh (r:=(·<·)) (λx y u v hxy hu hv=>?_) ho.ali
     unfold ze at hu hv
     split at hu
     ·cases hu
      split at hv
      ·cases hv
       exact .inr ⟨rfl,hxy⟩
      ·cases hv
     ·cases hu
    ·obtain ⟨j,hj,he2⟩:=List.mem_flatMap.1 he'
     have e1:=from_i i e he
     have e2:=from_i j e' he2
     have:=p1 j hj
     left;omega
  exact key _ (List.pairwise_lt_range' (s:=0) (n:=(found a).length))
set_option maxHeartbeats 1000000 in
theorem Qdy {L:LN}{w:World}{va vm ve:Value}{a:QM}(h:Zm L w.heap va vm ve a) (ho:Q2 a) :
  QG prog 140 [.agg #[va,.int .i64 a.st,vm,ve]] w λr w'=>Step [] w w'∧Qt 3 w.heap.size w' r (found a):=by
 have h0:=ho.st0
 have h1:=ho.st1
 have hal:=ho.al_le
 refine QG.of_W func140 rfl ntmps140 results140 (by simp) ?_
 refine Qc<|xl rfl<|QQ (us:=[va,.int .i64 a.st,vm,ve]) rfl λb1 w1 hs1 hb1 hB1=>Qf<|Qc<|Qf ?_
 have hz1:=hs1.size
 have hl1:=hB1.lt
 refine QW (α:=Value) [(3,3),(7,12)] (λz=>[(3,z)]) (λz w'=>Step [] w1 w'∧Qt 3 w1.heap.size w' z (fd0 a)) (by rfl) ?_ ?_
 ·refine Qc<|x (Qa rfl)<|x (Qd hB1 rfl rfl)<|x (ZL rfl rfl)<|xe ?_
  refine QD rfl (λh9=>?_) (λh9=>?_)
  ·refine Qi ?_
   exact ⟨nS,⟨rfl,trivial⟩,Step.refl _ _,by unfold fd0;rw[if_neg h9];exact QP _ _ _ _⟩
  refine Qx<|Qb<|xl rfl<|QH (us:=[[.int .i64 0]]) rfl rfl (by decide) (by simp) ⟨rfl,rfl,trivial⟩ λb11 w2 hs2 hb11 hB11=>?_
  have hn:w2.ownsRow w1.heap.size 3 1 (nS) 0 []:=QP _ _ _ _
  have hz2:=hs2.size
  refine xl rfl<|Q5 (news:=[.int .i64 0]) (L:=[]) hn rfl rfl rfl (hB11.at (by simp)) (by simp[Value.oneCell']) (by omega) (by omega) λv3 w3 ho3 hs3 hn3 =>
   Qf<|⟨v3,⟨rfl,trivial⟩,hs2.then hs3 (λb hb=>by simp[ob] at hb),?_⟩
  unfold fd0
  rw[if_pos h9];exact ho3
 rintro v0 g4 w4 ⟨hs4,ho4⟩
 have hW4:=hs1.trans hs4
 have hz4:=hs4.size
 refine Zc (found a) λT hT=>?_
 have hT':fdL a a.st.toNat 0 (fd0 a)=T:=hT
 refine Qg<|Qc<|Qf<|Qh<|QA (α:=Nat×LI×Value) [(3,6),(13,48)] (λz=>[(3,z.2.2),(4,.int .i64 z.1)])
  (λz w'=>Step [] w1 w'∧Qt 3 w1.heap.size w' z.2.2 z.2.1∧Um a z.2.1∧z.1≤z.2.1.length∧fdL a (a.st.toNat - z.1) z.1 z.2.1=T) (λz=>a.st.toNat - z.1) (by rfl) (0,fd0 a,v0) ⟨rfl,rfl,trivial⟩
  ⟨hs4,ho4,QfQ a,Nat.zero_le _,hT'⟩ ?_
 rintro ⟨i,out,v⟩ g5 w5 ⟨hs5,ho5,hfd,hi,hr5⟩
 simp only[] at ho5 hfd hi hr5
 have hlen:=hfd.len h0
 have hI5:=Qt.ints (L:=[]) ho5 (by omega) (by simp)
 refine Qg<|Qc<|Qb<|Qb<|x (Qs hI5 rfl)<|x (QB rfl rfl)<|xe ?_
 refine QD rfl (λh16=>?_) (λh16=>?_)
 ·have e:out=T:=by
   rw[←hr5]
   generalize a.st.toNat - i=f
   cases f with
   | zero=>rfl
   | succ f=>rw[fdL,if_neg (by omega)]
  refine Qz ?_
  refine Qc<|Qb<|Qf ?_
  rw[e] at ho5
  exact Qk ⟨[v],⟨rfl,trivial⟩,hs1.trans hs5,by rw[hT];exact Zb ho5 hz1⟩
 have hlt:i<out.length:=by omega
 have hfu:a.st.toNat - i=(a.st.toNat - (i+1))+1:=by omega
 rw[hfu,fdL,if_pos hlt] at hr5
 refine Zc (cget out i) λs hse=>?_
 rw[hse] at hr5
 refine Zc (fdR a out s) λR hR=>?_
 rw[hR] at hr5
 unfold fdR at hR
 refine Qi<|Qg<|Qh<|Qc<|Qf<|Qh<|QA (α:=Nat×LI×Value) [(3,3),(5,6),(19,48)] (λz=>[(3,z.2.2),(5,.int .i64 z.1)])
  (λz w'=>Step [] w1 w'∧Qt 3 w1.heap.size w' z.2.2 z.2.1∧Um a z.2.1∧z.1≤a.al.length∧i<z.2.1.length∧cget z.2.1 i=s∧(a.al.drop z.1).foldl (fdE a s) z.2.1=R) (λz=>a.al.length - z.1) (by rfl) (0,out,v) ⟨rfl,rfl,trivial⟩
  ⟨hs5,ho5,hfd,Nat.zero_le _,hlt,hse,hR⟩ ?_
 clear hs5 ho5 hfd hi hlen hI5 hlt hse hR h16
 rintro ⟨k,out,v⟩ g6 w6 ⟨hs6,ho6,hfd,hk,hlt,hse,hr6⟩
 simp only[] at ho6 hfd hk hlt hse hr6
 have hlen:=hfd.len h0
 have hal6:=(h.al.ext hs1).ext hs6
 have hB16:=hB1.ext hs6
 have hI6:=Qt.ints (L:=[]) ho6 (by omega) (by simp)
 refine Qg<|Qc<|Qb<|x (Qa rfl)<|x (Qd hB16 rfl rfl)<|x (Qs hal6 rfl)<|x (QB rfl rfl)<|xe ?_
 refine QD rfl (λh23=>?_) (λh23=>?_)
 ·refine Qz ?_
  refine Qx<|Qb<|x (Qy rfl rfl ⟨by omega,by omega⟩)<|Qf ?_
  rw[List.drop_of_length_le (by omega)] at hr6
  have hr6':out=R:=hr6
  exact ⟨(i+1,out,v),by simp only[];omega,⟨rfl,rfl,trivial⟩,hs6,ho6,hfd,hlt,by simp only[];rw[hr6'];exact hr5⟩
 have hltk:k<a.al.length:=by omega
 rw[List.drop_eq_getElem_cons hltk,List.foldl_cons,Zg hltk] at hr6
 refine Zc (cget a.al k) λu hu=>?_
 rw[hu] at hr6
 have hed6:=(h.ed.ext hs1).ext hs6
 refine Zc (nxt a.ed s u) λt ht=>?_
 have hfe:fdE a s out u=if 0≤t∧t∉out then out++[t] else out:=by unfold fdE;rw[ht]
 have hok':=QfP ho hfd s u
 rw[hfe] at hr6 hok'
 refine Qi<|Qg<|Qh<|Qg<|QT (Step [] w6) [(0,true),(1,true),(2,true),(3,true),(4,true),(5,true),(6,true),(7,true),(8,true),(9,true),(10,false),(11,true)] mixed (by rfl) (by kernel_rfl) (Step.drew _ _) ?_
 refine pq (λ_ hc=>Qn (hB16.ext hc) rfl rfl)<|p (λ_=>Qo)<|p (λ_=>Qo)<|pic (i:=i) rfl hI6 rfl rfl hlt λa29 h29=>?_
 rw[hse] at h29
 refine pq (λ_ hc=>Qw (h29.ext hc) rfl)<|p (λ_=>Qa rfl)<|pq (λ_ hc=>Qd (hB16.ext hc) rfl rfl)<|p (λ_=>Qo) <|
  pic (i:=k) rfl hal6 rfl rfl hltk λa34 h34=>?_
 rw[hu] at h34
 have hsr:=jv (va:=va) (vm:=vm) (a:=a) (hed6.ext (Step.drew [] w6)) s u a.st
 rw[ht] at hsr
 refine pq (λ_ hc=>Qw (h34.ext hc) rfl)<|pk<|xf<|hsr.mono ?_
 rintro r7 w7 ⟨rfl,hs7⟩
 have hs67:=(Step.drew [] w6).trans hs7
 refine ⟨hs67,p (λ_=>Qe)<|pe ?_⟩
 have ho7:=Qu ho6 hs67
 have hI7:=hI6.ext hs67
 refine QW (α:=Unit) [(37,44)] (λz=>[(44,.bool (decide (0≤t∧t∉out)))]) (λz w'=>w'=w7) (by rfl) ?_ ?_
 ·refine Qx<|Qb<|xb (ZM rfl rfl) (λh38=>?_) (λh38=>?_)
  ·refine Qb<|Qb<|Qb<|xl rfl<|xf<|(QcD hI7 t).mono ?_
   rintro r8 w8 ⟨rfl,rfl⟩
   refine x (Zp rfl)<|x (Qp rfl)<|xe ?_
   refine ⟨(),⟨congrArg Value.bool ?_,trivial⟩,rfl⟩
   show (!decide (t∈out))=_
   rw[Bool.eq_iff_iff];simp[h38]
  refine Qb<|xs rfl<|xs rfl<|xs rfl<|xs rfl<|x (Qp rfl)<|xe ?_
  exact ⟨(),⟨congrArg Value.bool (decide_eq_false (λe=>h38 e.1)).symm,trivial⟩,rfl⟩
 rintro _ g9 w9 rfl
 refine QD rfl (λh44=>?_) (λh44=>?_)
 ·rw[if_neg h44] at hr6
  refine Qi<|Qx<|Qb<|x (Qy rfl rfl ⟨by omega,by omega⟩)<|Qf ?_
  exact ⟨(k+1,out,v),by simp only[];omega,⟨rfl,rfl,trivial⟩,hs6.trans hs67,ho7,hfd,hltk,hlt,hse,hr6⟩
 rw[if_pos h44] at hr6 hok'
 have hs17:=hs6.trans hs67
 have hz7:=hs17.size
 refine Qx<|Qb<|Qb<|xl rfl<|QH (us:=[[.int .i64 t]]) rfl rfl (by decide) (by simp) ⟨rfl,rfl,trivial⟩ λb47 w10 hs10 hb47 hB47=>?_
 have ho10:=Qu ho7 hs10
 have hz10:=hs10.size
 refine xl rfl<|Q5 (news:=[.int .i64 t]) (L:=[]) ho10 rfl rfl rfl (hB47.at (by simp)) (by simp[Value.oneCell']) (by omega) (by omega) λv11 w11 ho11 hs11 hn11 =>
  Qf ?_
 have hge:=Qq ho6
 refine Qx<|Qb<|x (Qy rfl rfl ⟨by omega,by omega⟩)<|Qf<|⟨(k+1,out++[t],v11),by simp only[];omega,⟨rfl,rfl,trivial⟩,(hs17.trans hs10).then hs11 (λb hb=>.inr (hge b hb).1),Qt.snoc ho11,hok',hltk,by simp;omega,?_,hr6⟩
 simp only[]
 rw[qv hlt];exact hse
structure CrI (w7:World) (b4:Nat) (vcl:Value) (n:Int) (vm vd:Value) (M:LI) (E:List Ed) (w:World):Prop where
 st:Step [b4] w7 w
 B:QS w.heap b4 50 [vcl,.int .i64 n,vm,vd]
 m:Qt 3 w7.heap.size w vm M
 e:ZV 126 w7.heap.size w vd E
 dj:Dj vm vd
section
variable {w7 w w' w'':World} {b4:Nat} {vcl:Value} {n:Int} {vm vd:Value} {M:LI} {E:List Ed}
theorem CrI.ext (h:CrI w7 b4 vcl n vm vd M E w) (hs:Step [] w w'):CrI w7 b4 vcl n vm vd M E w':=⟨h.st.trans hs,h.B.ext hs,Qu h.m hs,Qu h.e hs,h.dj⟩
theorem CrI.setM (h:CrI w7 b4 vcl n vm vd M E w) (hb:b4<w7.heap.size) {vm':Value}{M':LI}(hs:Step (ob vm) w w') (hm:Qt 3 w7.heap.size w' vm' M') (hn:∀b∈ob vm',b∈ob vm∨w.heap.size≤b) (hs2:Step [b4] w' w'')
  (hB:QS w''.heap b4 50 [vcl,.int .i64 n,vm',vd]):CrI w7 b4 vcl n vm' vd M' E w'' :=
 ⟨(h.st.then hs (λb hb=>.inr (Qq h.m b hb).1)).trans' hs2,hB,Qm hm hs2 (λb hb'=>by have:=(Qq hm b hb').1;simp;omega),
  Qm (Qm h.e hs h.dj.symm) hs2 (λb hb'=>by have:=(Qq h.e b hb').1;simp;omega),(h.dj.symm.grow hn (Q0 h.e)).symm⟩
theorem CrI.setE (h:CrI w7 b4 vcl n vm vd M E w) (hb:b4<w7.heap.size) {vd':Value}{E':List Ed}(hs:Step (ob vd) w w') (hm:ZV 126 w7.heap.size w' vd' E') (hn:∀b∈ob vd',b∈ob vd∨w.heap.size≤b) (hs2:Step [b4] w' w'')
  (hB:QS w''.heap b4 50 [vcl,.int .i64 n,vm,vd']):CrI w7 b4 vcl n vm vd' M E' w'' :=
 ⟨(h.st.then hs (λb hb=>.inr (Qq h.e b hb).1)).trans' hs2,hB,Qm (Qm h.m hs h.dj) hs2 (λb hb'=>by have:=(Qq h.m b hb').1;simp;omega),
  Qm hm hs2 (λb hb'=>by have:=(Qq hm b hb').1;simp;omega),h.dj.grow hn (Q0 h.m)⟩
end
theorem zV (a:QM) (fd:LI) (k:Nat):KQ a fd (k+1)=if cget fd k∈a.mr then KQ a fd k++[(k:Int)] else KQ a fd k:=by
 unfold KQ
 rw[List.range'_1_concat,List.filter_append,List.map_append,Nat.zero_add]
 by_cases h:cget fd k∈a.mr
 ·rw[if_pos h,List.filter_cons,if_pos (decide_eq_true h)];rfl
 ·rw[if_neg h,List.filter_cons,if_neg (by rw[decide_eq_false h];simp),List.filter_nil,List.map_nil,List.append_nil]
theorem QaA (a:QM) (fd:LI):∀k,(KQ a fd k).length≤k
 | 0=>by simp[KQ]
 | k+1=>by
  have:=QaA a fd k
  rw[zV]
  split
  ·simp;omega
  ·omega
theorem QdJ (a:QM) (fd:LI) (k:Nat):VW a fd (k+1)=VW a fd k++a.al.filterMap (ze a fd k):=by
 unfold VW
 rw[List.range'_1_concat,List.flatMap_append,Nat.zero_add];simp
set_option maxHeartbeats 2000000 in
theorem zd {L:LN}{w:World}{va vm ve:Value}{a:QM}(h:Zm L w.heap va vm ve a) (ho:Q2 a) :
  QG prog 88 [.agg #[va,.int .i64 a.st,vm,ve]] w λr w'=>Step [] w w'∧YV w.heap.size w'.heap r (Jg a):=by
 have h0:=ho.st0
 have h1:=ho.st1
 have hal:=ho.al_le
 have hfo:=(U8 ho).1
 have hfl:=hfo.len h0
 refine QG.of_W func88 rfl ntmps88 results88 (by simp) ?_
 refine Zc (found a) λfd hfd=>?_
 rw[hfd] at hfl
 have hcan:Jg a=⟨a.al,fd.length,KQ a fd fd.length,VW a fd fd.length⟩:=by unfold Jg;rw[hfd]
 refine Qc<|xl rfl<|QQ (us:=[va,.int .i64 a.st,vm,ve]) rfl λb1 w1 hs1 hb1 hB1=>xl rfl<|Qr (us:=[nS,.int .i64 0,nS,nS]) rfl λb2 w2 hs2 hb2 hB2=>xe ?_
 have hs12:=hs1.trans hs2
 have hfr:=Qdy (h.ext hs12) ho
 rw[hfd] at hfr
 refine Qc<|x (Qn (hB1.ext hs2) rfl rfl)<|xl rfl<|xf<|hfr.mono ?_
 rintro vf w3 ⟨hs3,hof⟩
 refine Qf ?_
 have hs13:=hs12.trans hs3
 have hB13:=(hB1.ext hs2).ext hs3
 refine Qc<|x (Qa rfl)<|x (Qd hB13 rfl rfl)<|xl rfl<|xf<|(VP (h.al.ext hs13) (by omega)).mono ?_
 rintro r4 w4 ⟨hs4,vcl,rfl,hcl⟩
 have hclA:=Qt.ints (L:=[]) hcl (by omega) (by simp)
 refine xl rfl<|Qr (us:=[nS,.int .i64 0,nS,nS]) rfl λb4 w5 hs5 hb4 hB4 =>
  xl rfl<|Ql (us:=[vcl,.int .i64 0,nS,nS]) hB4 rfl rfl rfl rfl ⟨hclA.one,rfl,rfl,rfl,trivial⟩ λw6 hs6 hB6=>xe ?_
 have hs46:Step [] w4 w6:=hs5.then1 hs6 hb4
 have hs36:=hs4.trans hs46
 have hfA3:=Qt.ints (L:=[]) hof (by omega) (by simp)
 have hz1:=hs1.size
 have hz2:=hs2.size
 have hz3:=hs3.size
 have hz4:=hs4.size
 have hz46:=hs46.size
 have hl1:=hB1.lt
 have hl2:=hB2.lt
 have hl4:=hB6.lt
 refine Qc<|Qb<|x (Qs hfA3 rfl)<|x (Qa rfl)<|xl rfl<|QF (u:=.int .i64 fd.length) hB6 rfl rfl (by simp) rfl λw7 hs7 hB7=>xe ?_
 have hz7:=hs7.size
 have hs37:Step [b4] w3 w7:=(hs36.any (L:=[b4])).trans' hs7
 have hW7:Step [] w w7:=(hs13.trans hs36).then1 hs7 (by omega)
 have hf7:QL [b4] w7.heap vf fd:=((hfA3.up (L':=[b4]) (λb hb=>.inr (by simp at hb;omega))).ext hs36).st hs7
 have ha7:Zm [b4] w7.heap va vm ve a:=(h.up (λb hb=>.inr (by simp at hb;omega))).ext hW7
 have hc7:Qt 3 w3.heap.size w7 vcl a.al:=Qm (Qu hcl hs46) hs7 (λb hb=>by have:=Q0 hcl b hb;simp;omega)
 have hB17:=(hB13.ext hs36).step hs7 (by simp;omega)
 have hB27:=((hB2.ext hs3).ext hs36).step hs7 (by simp;omega)
 have hl7:b4<w7.heap.size:=by omega
 have n1:b1∉[b4]:=by simp;omega
 have n2:b2∉[b4]:=by simp;omega
 refine Qg<|Qc<|Qf<|Qh<|QA (α:=Nat×Value×Value) [(5,7),(16,69)] (λz=>[(5,.int .i64 z.1)])
  (λz w'=>z.1≤fd.length∧CrI w7 b4 vcl fd.length z.2.1 z.2.2 (KQ a fd z.1) (VW a fd z.1) w'∧(VW a fd z.1).length≤z.1*32) (λz=>fd.length - z.1) (by rfl) (0,nS,nS) ⟨rfl,trivial⟩
  ⟨Nat.zero_le _,⟨Step.refl _ _,hB7,QP _ _ _ _,QP _ _ _ _,Dj.nil' _⟩,Nat.zero_le _⟩ ?_
 rintro ⟨i,v1,v2⟩ g8 w8 ⟨hi,hI,hel⟩
 simp only[] at hi hI hel
 have hml:=QaA a fd i
 have hf8:=hf7.st hI.st
 refine Qg<|Qc<|Qb<|Qb<|x (Qs hf8 rfl)<|x (QB rfl rfl)<|xe ?_
 refine QD rfl (λh19=>?_) (λh19=>?_)
 ·have hie:i=fd.length:=by omega
  rw[hie] at hI hel hml
  refine Qz ?_
  have hmA:=Qt.ints (L:=[]) hI.m (by omega) (by simp)
  have heA:=ZV.eds (L:=[]) hI.e (by omega) (by simp)
  refine Qc<|x (Qn hI.B rfl rfl)<|xl rfl<|Ql (us:=[vcl,.int .i64 fd.length,v1,v2]) (hB27.step hI.st n2) rfl rfl rfl rfl ⟨hclA.one,rfl,hmA.one,heA.one,trivial⟩ λw9 hs9 hB9=>xe ?_
  refine Qk ⟨[.agg #[vcl,.int .i64 fd.length,v1,v2]],⟨⟨_,rfl,Qv rfl (hB9.at (L:=[]) (by simp)).cells⟩,trivial⟩,(hW7.then1 hI.st (by omega)).then1 hs9 (by omega),?_⟩
  rw[hcan]
  have k1:=Qm (Qm hc7 hI.st (λb hb=>by have:=Q0 hcl b hb;simp;omega)) hs9 (λb hb=>by have:=(Qq hcl b hb).1;simp;omega)
  have k2:=Qm hI.m hs9 (λb hb=>by have:=(Qq hI.m b hb).1;simp;omega)
  have k3:=Qm hI.e hs9 (λb hb=>by have:=(Qq hI.e b hb).1;simp;omega)
  refine ⟨vcl,v1,v2,rfl,λL' hL'=>⟨?_,?_,?_⟩⟩
  ·exact Qt.ints k1 (by show a.al.length≤_;omega) (λb hb=>by have:=hL' b hb;omega)
  ·exact Qt.ints k2 (by show (KQ a fd fd.length).length≤_;omega) (λb hb=>by have:=hL' b hb;omega)
  ·exact ZV.eds k3 (by show (VW a fd fd.length).length≤_;omega) (λb hb=>by have:=hL' b hb;omega)
 have hlt:i<fd.length:=by omega
 refine Zc (cget fd i) λs hse=>?_
 have hms:=zV a fd i
 rw[hse] at hms
 refine Qi<|Qg<|Qh<|QW (α:=Value) [(22,34)] (λz=>[]) (λz w'=>CrI w7 b4 vcl fd.length z v2 (KQ a fd (i+1)) (VW a fd i) w') (by rfl) ?_ ?_
 ·have ha8:=ha7.st hI.st
  have hB18:=hB17.step hI.st n1
  refine Qg<|QT (Step [] w8) [(0,true),(1,true),(2,true),(3,true),(4,true),(5,true),(6,false)] mixed (by rfl) (by kernel_rfl) (Step.drew _ _) ?_
  refine p (λ_=>Qa rfl)<|pq (λ_ hc=>Qd (hB18.ext hc) rfl rfl)<|p (λ_=>Qo)<|p (λ_=>Qo)<|pic (i:=i) rfl hf8 rfl rfl hlt λa26 h26=>?_
  rw[hse] at h26
  refine pq (λ_ hc=>Qw (h26.ext hc) rfl)<|pk<|xf<|(QcD (ha8.mr.ext (Step.drew [] w8)) s).mono ?_
  rintro r10 w10 ⟨rfl,rfl⟩
  have hI10:=hI.ext (Step.drew [] w8)
  refine ⟨Step.drew _ _,pe ?_⟩
  refine QD rfl (λh28=>?_) (λh28=>?_)
  ·rw[if_neg h28] at hms
   refine Qi ?_
   exact ⟨v1,trivial,by rw[hms];exact hI10⟩
  rw[if_pos h28] at hms
  refine Qx<|x (Qa rfl)<|x (Qd hI10.B rfl rfl)<|Qb<|xl rfl<|QH (us:=[[.int .i64 i]]) rfl rfl (by decide) (by simp) ⟨rfl,rfl,trivial⟩ λb32 w11 hs11 hb32 hB32=>?_
  have hI11:=hI10.ext hs11
  refine xl rfl<|Q5 (news:=[.int .i64 i]) (L:=[]) hI11.m rfl rfl rfl (hB32.at (by simp)) (by simp[Value.oneCell']) (by omega) hI11.st.size λv12 w12 ho12 hs12 hn12=>?_
  have ho12':Qt 3 w7.heap.size w12 v12 (KQ a fd i++[(i:Int)]):=Qt.snoc ho12
  refine x (Qa rfl)<|xl rfl<|QF (hI11.B.step hs12 (QX hI11.m hl7)) rfl rfl (by simp) (Qt.ints (L:=[]) ho12' (by simp;omega) (by simp)).one λw13 hs13' hB13' =>
   xe ?_
  exact ⟨v12,trivial,by rw[hms];exact hI11.setM hl7 hs12 ho12' hn12 hs13' hB13'⟩
 rintro v3 g14 w14 hI14
 refine Zc (VW a fd (i+1)) λE1 hE1=>?_
 have hE1':=QdJ a fd i
 rw[hE1] at hE1'
 refine Qc<|Qf<|Qh<|QA (α:=Nat×List Ed×Value) [(6,7),(35,69)] (λz=>[(6,.int .i64 z.1)])
  (λz w'=>z.1≤a.al.length∧CrI w7 b4 vcl fd.length v3 z.2.2 (KQ a fd (i+1)) z.2.1 w'∧z.2.1.length≤i*32+z.1∧z.2.1++(a.al.drop z.1).filterMap (ze a fd i)=E1) (λz=>a.al.length - z.1) (by rfl) (0,VW a fd i,v2) ⟨rfl,trivial⟩
  ⟨Nat.zero_le _,hI14,hel,hE1'.symm⟩ ?_
 rintro ⟨k,E,vd⟩ g15 w15 ⟨hk,hI15,hl15,hr15⟩
 simp only[] at hk hI15 hl15 hr15
 have ha15:=ha7.st hI15.st
 have hB115:=hB17.step hI15.st n1
 have hf15:=hf7.st hI15.st
 refine Qg<|Qc<|Qb<|x (Qa rfl)<|x (Qd hB115 rfl rfl)<|x (Qs ha15.al rfl)<|x (QB rfl rfl)<|xe ?_
 refine QD rfl (λh39=>?_) (λh39=>?_)
 ·refine Qz ?_
  refine Qx<|Qb<|x (Qy rfl rfl ⟨by omega,by omega⟩)<|Qf ?_
  rw[List.drop_of_length_le (by omega),List.filterMap_nil,List.append_nil] at hr15
  refine ⟨(i+1,v3,vd),by simp only[];omega,⟨rfl,trivial⟩,hlt,?_,?_⟩
  ·simp only[];rw[hE1,←hr15];exact hI15
  ·simp only[];rw[hE1,←hr15];omega
 have hltk:k<a.al.length:=by omega
 refine Zc (cget a.al k) λu hu=>?_
 rw[List.drop_eq_getElem_cons hltk,Zg hltk,hu,List.filterMap_cons] at hr15
 refine Zc (nxt a.ed s u) λt ht=>?_
 have hcf:ze a fd i u=if 0≤t then some ((i:Int),u,ixR fd t) else none:=by unfold ze;rw[hse,ht]
 rw[hcf] at hr15
 have hsr:=jv (va:=va) (vm:=vm) (a:=a) (ha15.ed.ext (Step.drew [] w15)) s u a.st
 rw[ht] at hsr
 refine Qi<|Qg<|Qh<|Qg<|QT (Step [] w15) [(0,true),(1,true),(2,true),(3,true),(4,true),(5,true),(6,true),(7,true),(8,true),(9,true),(10,false),(11,true)] mixed (by rfl) (by kernel_rfl) (Step.drew _ _) ?_
 refine pq (λ_ hc=>Qn (hB115.ext hc) rfl rfl)<|p (λ_=>Qo)<|p (λ_=>Qo)<|pic (i:=i) rfl hf15 rfl rfl hlt λa45 h45=>?_
 rw[hse] at h45
 refine pq (λ_ hc=>Qw (h45.ext hc) rfl)<|p (λ_=>Qa rfl)<|pq (λ_ hc=>Qd (hB115.ext hc) rfl rfl)<|p (λ_=>Qo) <|
  pic (i:=k) rfl ha15.al rfl rfl hltk λa50 h50=>?_
 rw[hu] at h50
 refine pq (λ_ hc=>Qw (h50.ext hc) rfl)<|pk<|xf<|hsr.mono ?_
 rintro r16 w16 ⟨rfl,hs16⟩
 have hs1516:=(Step.drew [] w15).trans hs16
 refine ⟨hs1516,p (λ_=>Qe)<|pe ?_⟩
 have hI16:=hI15.ext hs1516
 have hB116:=hB115.ext hs1516
 have hf16:=hf15.ext hs1516
 refine Qc<|Qb<|x (ZM rfl rfl)<|xe ?_
 refine QD rfl (λh54=>?_) (λh54=>?_)
 ·rw[if_neg h54] at hr15
  refine Qi<|Qx<|Qb<|x (Qy rfl rfl ⟨by omega,by omega⟩)<|Qf ?_
  exact ⟨(k+1,E,vd),by simp only[];omega,⟨rfl,trivial⟩,hltk,hI16,by simp only[];omega,hr15⟩
 rw[if_pos h54] at hr15
 have hvd:=Qq hI15.e
 have haD:QL (b4::ob vd) w16.heap va a.al:=(((ha7.al.up (L':=b4::ob vd) (λb hb=>by
  rcases List.mem_cons.1 hb with rfl | hb
  ·exact .inl (by simp)
  ·exact .inr (hvd b hb).1)).step hI15.st (by simp)).ext hs1516)
 have nb4:=QX hI16.e hl7
 have nb1:b1∉ob vd:=QX hI16.e (by omega)
 refine QT (Step (ob vd) w16) [(0,true),(1,true),(2,true),(3,true),(4,true),(5,true),(6,true),(7,true),(8,true),(9,true),(10,false),(11,true),(12,false),(13,false),(14,true),(15,false)] mixed (by rfl) (by kernel_rfl) (Step.drew _ _) ?_
 refine p (λ_=>Qa rfl)<|pq (λ_ hc=>Qd (hI16.B.step hc nb4) rfl rfl)<|p (λ_=>Qo)<|p (λ_=>Qa rfl)<|pq (λ_ hc=>Qd (hB116.step hc nb1) rfl rfl) <|
  p (λ_=>Qo)<|pic (i:=k) rfl haD rfl rfl hltk λa61 h61=>?_
 rw[hu] at h61
 refine pq (λ_ hc=>Qw (h61.step hc (λb hb=>List.mem_cons_of_mem _ hb)) rfl)<|p (λ_=>Qo)<|p (λ_=>Qo) <|
  pk<|xf<|(Qdw (hf16.ext (Step.drew [] w16)) t).mono ?_
 rintro r17 w17 ⟨rfl,rfl⟩
 refine ⟨Step.drew _ _,p (λ_=>QN ⟨rfl,rfl,rfl,trivial⟩)<|pk<|QH (us:=[QC ((i:Int),u,ixR fd t)]) rfl rfl (by decide) (by exact (by decide:1*3≤1000000)) ⟨rfl,rfl,trivial⟩ λb67 w18 hs18 hb67 hB67=>?_⟩
 have hs1618:=(Step.drew [] w16).trans hs18
 have hI18:=hI16.ext hs1618
 refine ⟨hs1618.any,?_⟩
 refine pk<|Q5 (news:=QC ((i:Int),u,ixR fd t)) (L:=[]) hI18.e rfl rfl rfl (hB67.at (by simp)) (λy hy=>by simp only[QC,List.mem_cons,List.not_mem_nil,or_false] at hy;rcases hy with rfl | rfl | rfl <;> rfl) (by omega) hI18.st.size λv19 w19 ho19 hs19 hn19=>⟨(hs1618.any (L:=ob vd)).trans' hs19,?_⟩
 have ho19':ZV 126 w7.heap.size w19 v19 (E++[((i:Int),u,ixR fd t)]):=ZV.snoc ho19
 refine p (λ_=>Qa rfl)<|pkl (hl:=by kernel_rfl)<|QF (hI18.B.step hs19 (QX hI18.e hl7)) rfl rfl (by simp) (ZV.eds (L:=[]) ho19' (by simp;omega) (by simp)).one λw20 hs20 hB20 =>
  pe ?_
 have hI20:=hI18.setE hl7 hs19 ho19' hn19 hs20 hB20
 refine Qx<|Qb<|x (Qy rfl rfl ⟨by omega,by omega⟩)<|Qf<|⟨(k+1,E++[((i:Int),u,ixR fd t)],v19),by simp only[];omega,⟨rfl,trivial⟩,hltk,hI20,by simp;omega,?_⟩
 simp only[List.append_assoc,List.singleton_append]
 exact hr15
end Go.Proofs.YtgmifemhkjdblaaGreatDoor
namespace Go.Lg
section
variable {P:Program} {f:Fr} {w:World} {d:Option Nat} {ty:Nat} {ps:String} {af:Array Edge} {gd:Option (Nat×Bool)}
theorem UO {t t':Nat}{x y:Operand}{k:IntKind}{a b:Int}(hx:ev f x=.int k a) (hy:ev f y=.int k b) (ha:0≤a) (hb:0<b) :
  (execOp (ev f) ⟨d,.binOp .rem t x y t',ty,ps,af,gd⟩).run P w=.ok (.value (.int k (a % b))) w:=by
 refine Xc hx hy ?_
 have h1:¬b=0:=by omega
 simp[binOp,Op.intDiv,h1,Int.tmod_eq_emod_of_nonneg ha]
end
end Go.Lg
namespace Go.Proofs.YtgmifemhkjdblaaGreatDoor
open Tryz
open Go.Lg
theorem Qbs (m:Nat) (hm:m<256) (w:World):QG prog 38 [.int .u8 m] w λr w'=>Step [] w w'∧Qt 3 w.heap.size w' r (setK m 5):=by
 refine QG.of_W func38 rfl ntmps38 results38 (by simp) ?_
 refine Qc<|Qf<|Qc<|Qf<|Qg<|Qc<|Qf<|Qh<|QA (α:=Nat×Value) [(3,17)] (λz=>[(3,z.2),(4,.int .i64 z.1)]) (λz w'=>z.1≤5∧Step [] w w'∧Qt 3 w.heap.size w' z.2 (setK m z.1)) (λz=>5 - z.1) (by rfl) (0,nS) ⟨rfl,rfl,trivial⟩
  ⟨Nat.zero_le _,Step.refl _ _,QP _ _ _ _⟩ ?_
 rintro ⟨k,v⟩ g w1 ⟨hk,hs1,ho1⟩
 simp only[] at hk ho1
 have hlen:=Xs m k
 have hz1:=hs1.size
 refine Qg<|Qc<|Qb<|x (QB rfl rfl)<|xe ?_
 refine QD rfl (λh6=>?_) (λh6=>?_)
 ·refine Qz ?_
  refine Qc<|Qb<|Qf ?_
  have hke:k=5:=by omega
  rw[hke] at ho1
  exact Qk ⟨[v],⟨rfl,trivial⟩,hs1,ho1⟩
 have hlt:k<5:=by omega
 have hdv:m / 2 ^ k<256:=Nat.lt_of_le_of_lt (Nat.div_le_self _ _) hm
 have hsucc:=VI m k
 refine Qi<|Qg<|Qh<|Qc<|Qb<|Qb<|x (UN (n:=k) rfl rfl (by show k≤8;omega))<|x (Qbf (a:=m / 2 ^ k) (b:=1) (congrArg (Value.int .u8) (Uo m k)) rfl hdv (by decide))<|x (Zn rfl rfl)<|xe ?_
 refine QD rfl (λh12=>?_) (λh12=>?_)
 ·rw[if_neg (λe=>h12 (by rw[e];rfl))] at hsucc
  refine Qi<|Qx<|Qb<|x (Qy rfl rfl ⟨by omega,by omega⟩)<|Qf ?_
  exact ⟨(k+1,v),by simp only[];omega,⟨rfl,rfl,trivial⟩,hlt,hs1,by simp only[];rw[hsucc];exact ho1⟩
 rw[if_pos (by omega)] at hsucc
 refine Qx<|Qb<|Qb<|xl rfl<|QH (us:=[[.int .i64 k]]) rfl rfl (by decide) (by simp) ⟨rfl,rfl,trivial⟩ λb15 w2 hs2 hb15 hB15=>?_
 have ho2:=Qu ho1 hs2
 have hz2:=hs2.size
 refine xl rfl<|Q5 (news:=[.int .i64 k]) (L:=[]) ho2 rfl rfl rfl (hB15.at (by simp)) (by simp[Value.oneCell']) (by omega) (by omega) λv3 w3 ho3 hs3 hn3 =>
  Qf ?_
 have hge:=Qq ho1
 refine Qx<|Qb<|x (Qy rfl rfl ⟨by omega,by omega⟩)<|Qf<|⟨(k+1,v3),by simp only[];omega,⟨rfl,rfl,trivial⟩,hlt,(hs1.trans hs2).then hs3 (λb hb=>.inr (hge b hb).1),?_⟩
 simp only[]
 rw[hsucc];exact Qt.snoc ho3
instance:Ay prog 23 5 22 5:=⟨by kernel_rfl,by kernel_rfl⟩
instance:Ay prog 22 5 5 1:=⟨by kernel_rfl,by kernel_rfl⟩
abbrev bys (ns:LN):LV:=ns.map λn:Nat=>.int .u8 (n:Int)
theorem VX {ns:LN}{j:Nat}(h:j<ns.length):(bys ns)[j]?=some (.int .u8 ((ns.getD j 0:Nat):Int)):=by simp[bys,List.getD,h]
theorem qz:∀(ns:LN),ZD (bys ns)
 | []=>trivial
 | _::ns=>⟨rfl,qz ns⟩
theorem Kf {ns:LN}(h:∀n∈ns,n<256) (j:Nat):ns.getD j 0<256:=by
 by_cases hj:j<ns.length
 ·simp only[List.getD,List.getElem?_eq_getElem hj,Option.getD_some];exact h _ (List.getElem_mem hj)
 ·simp[List.getD,hj]
structure GrI (al:LI) (S i k:Nat) (M:LI) (E:List Ed):Prop where
 mb:∀x∈M,0≤x∧x<S
 mi:Yt M
 ml:∀x∈M,x<(i:Int)+1
 mn:M.length≤S
 eb:∀e∈E,0≤e.1∧e.1<S∧e.2.1∈al∧0≤e.2.2∧e.2.2<S
 ei:E.Pairwise λx y=>x.1<y.1∨(x.1=y.1∧x.2.1<y.2.1)
 el:∀e∈E,e.1<i∨(e.1=i∧e.2.1∈al.take k)
 en:E.length≤i*5+k
theorem yP {S:Nat}{M:LI}(hb:∀x∈M,0≤x∧x<S) (hi:Yt M):M.length≤S:=pig S M (hi.imp (λh=>by omega)) hb
theorem GrI.mark {al:LI}{S i:Nat}{M:LI}{E:List Ed}(h:GrI al S i 0 M E) (hm:∀x∈M,x<(i:Int)) (hi:i<S):GrI al S i 0 (M++[(i:Int)]) E:=by
 have hmb:∀x∈M++[(i:Int)],0≤x∧x<S:=λx hx=>by
  rcases List.mem_append.1 hx with hx | hx
  ·exact h.mb x hx
  ·simp only[List.mem_singleton] at hx;omega
 have hmi:Yt (M++[(i:Int)]):=by
  refine List.pairwise_append.2 ⟨h.mi,by simp,λx hx y hy=>?_⟩
  simp only[List.mem_singleton] at hy
  subst hy;exact hm x hx
 refine ⟨hmb,hmi,λx hx=>?_,yP hmb hmi,h.eb,h.ei,h.el,h.en⟩
 rcases List.mem_append.1 hx with hx | hx
 ·have:=hm x hx;omega
 ·simp only[List.mem_singleton] at hx;omega
theorem GrI.skip {al:LI}{S i k:Nat}{M:LI}{E:List Ed}(h:GrI al S i k M E) (hk:k<al.length):GrI al S i (k+1) M E :=
 ⟨h.mb,h.mi,h.ml,h.mn,h.eb,h.ei,λe he=>(h.el e he).imp id (λx=>⟨x.1,by rw[List.take_succ_eq_append_getElem hk];exact List.mem_append_left _ x.2⟩),by have:=h.en;omega⟩
theorem GrI.edge {al:LI}{S i k:Nat}{M:LI}{E:List Ed}(h:GrI al S i k M E) (hk:k<al.length) (ha:Yt al) (hi:i<S) {t:Int}(h0:0≤t) (ht:t<S):GrI al S i (k+1) M (E++[((i:Int),cget al k,t)]):=by
 have hmem:cget al k∈al:=Xz hk
 refine ⟨h.mb,h.mi,h.ml,h.mn,λe he=>?_,?_,λe he=>?_,by have:=h.en;simp;omega⟩
 ·rcases List.mem_append.1 he with he | he
  ·exact h.eb e he
  ·simp only[List.mem_singleton] at he;subst he;exact ⟨by simp only[];omega,by simp only[];omega,hmem,h0,ht⟩
 ·refine List.pairwise_append.2 ⟨h.ei,by simp,λx hx y hy=>?_⟩
  simp only[List.mem_singleton] at hy
  subst hy
  rcases h.el x hx with h1 | ⟨h1,h2⟩
  ·left;exact h1
  ·right
   refine ⟨h1,?_⟩
   simp only[]
   have hp:Yt (al.take k++al.drop k):=by rw[List.take_append_drop];exact ha
   refine (List.pairwise_append.1 hp).2.2 _ h2 _ ?_
   rw[List.drop_eq_getElem_cons hk,Zg hk];exact List.mem_cons_self
 ·rw[List.take_succ_eq_append_getElem hk,Zg hk]
  rcases List.mem_append.1 he with he | he
  ·exact (h.el e he).imp id (λx=>⟨x.1,List.mem_append_left _ x.2⟩)
  ·simp only[List.mem_singleton] at he;subst he;exact .inr ⟨rfl,List.mem_append_right _ (by simp)⟩
theorem GrI.next {al:LI}{S i k:Nat}{M:LI}{E:List Ed}(h:GrI al S i k M E) (hk:k≤5):GrI al S (i+1) 0 M E :=
 ⟨h.mb,h.mi,λx hx=>by have:=h.ml x hx;omega,h.mn,h.eb,h.ei,λe he=>by rcases h.el e he with h1 | h1 <;> (left;omega),by have:=h.en;omega⟩
set_option maxHeartbeats 2000000 in
theorem zE {L:LN}{w:World}{v:Value}{al:LI}{ns:LN}(h:QL L w.heap v al) (hb:∀e∈al,0≤e∧e<32) (hi:Yt al) (hn:ns.length=27) (hns:∀n∈ns,n<256) :
  QG prog 36 [v,.agg (bys ns).toArray] w λr w'=>Step [] w w'∧∃a:QM,YV w.heap.size w'.heap r a∧Q2 a∧a.st≤5∧a.al=al ∧
   (ns.getD 0 0<250→∃a0:QM,Q2 a0∧0<a0.st∧a0.st≤((1+ns.getD 0 0 % 5:Nat):Int)∧a=Jg a0):=by
 have hall:al.length≤32:=pig 32 al (hi.imp (λh=>by omega)) (λx hx=>by have:=hb x hx;omega)
 refine QG.of_W func36 rfl ntmps36 results36 (by simp) ?_
 have g0:=VX (ns:=ns) (j:=0) (by omega)
 have g1:=VX (ns:=ns) (j:=1) (by omega)
 have l0:=Kf hns 0
 have l1:=Kf hns 1
 refine Zc (ns.getD 0 0) λs0 hs0=>?_
 refine Zc (ns.getD 1 0) λm1 hm1=>?_
 rw[hs0] at g0 l0
 rw[hm1] at g1 l1
 refine Qc<|xl rfl<|QQ (us:=bys ns) rfl λb3 w1 hs1 hb3 hB3=>xl rfl<|Qr (us:=[nS,.int .i64 0,nS,nS]) rfl λb4 w2 hs2 hb4 hB4=>xe ?_
 have hs12:=hs1.trans hs2
 have hB32:=hB3.ext hs2
 have hz1:=hs1.size
 have hz2:=hs2.size
 have hl3:=hB3.lt
 have hl4:=hB4.lt
 refine Qg<|Qc<|x (Qa rfl)<|x (Qd hB32 rfl g0)<|x (ZM rfl rfl)<|xe ?_
 refine Q3 rfl (λh11=>?_) (λh11=>?_)
 ·refine Qc<|Qb<|xl rfl<|xf<|(VP (h.ext hs12) (by omega)).mono ?_
  rintro r3 w3 ⟨hs3,vcl,rfl,hcl⟩
  have hclA:=Qt.ints (L:=[]) hcl (by omega) (by simp)
  refine xl rfl<|Ql (us:=[vcl,.int .i64 0,nS,nS]) (hB4.ext hs3) rfl rfl rfl rfl ⟨hclA.one,rfl,rfl,rfl,trivial⟩ λw4 hs4 hB4'=>xe ?_
  have hcl4:=Qm hcl hs4 (λb hb=>by have:=(Qq hcl b hb).1;simp;omega)
  refine Qk ⟨[.agg #[vcl,.int .i64 0,nS,nS]],⟨⟨_,rfl,Qv rfl (hB4'.at (L:=[]) (by simp)).cells⟩,trivial⟩,(hs12.trans hs3).then1 hs4 (by omega),⟨al,0,[],[]⟩,?_,?_,(by decide:(0:Int)≤5),rfl,λh=>absurd h (by omega)⟩
  ·exact ⟨vcl,_,_,rfl,λL' hL'=>⟨Qt.ints hcl4 (by show al.length≤_;omega) (λb hb=>by have:=hL' b hb;omega),Zw.nil _ _ _,Zw.nil _ _ _⟩⟩
  ·exact ⟨hb,hi,(by decide:(0:Int)≤0),(by decide:(0:Int)≤4096),by simp,by simp,by simp,by simp⟩
 refine Qi<|Qc<|Qb<|xl rfl<|xf<|(VP (h.ext hs12) (by omega)).mono ?_
 rintro r5 w5 ⟨hs5,vcl,rfl,hcl⟩
 have hclA:=Qt.ints (L:=[]) hcl (by omega) (by simp)
 refine xl rfl<|Qr (us:=[nS,.int .i64 0,nS,nS]) rfl λb5 w6 hs6 hb5 hB5 =>
  xl rfl<|Ql (us:=[vcl,.int .i64 0,nS,nS]) hB5 rfl rfl rfl rfl ⟨hclA.one,rfl,rfl,rfl,trivial⟩ λw7 hs7 hB7=>xe ?_
 have hs57:Step [] w5 w7:=hs6.then1 hs7 hb5
 have hs27:=hs5.trans hs57
 have hz5:=hs5.size
 have hz57:=hs57.size
 have hl5:=hB7.lt
 refine Zc (1+s0 % 5) λS hS=>?_
 have hS1:1≤S∧S≤5:=by omega
 have hSe:(1:Int)+(s0:Int) % 5=(S:Int):=by omega
 refine Qc<|x (Qa rfl)<|x (Qd (hB32.ext hs27) rfl g0)<|x (UO (a:=(s0:Int)) (b:=5) rfl rfl (by omega) (by omega))<|x (YX (k':=.i64) rfl ⟨by omega,by omega⟩)<|x (Qy rfl rfl ⟨by omega,by omega⟩)<|x (Qa rfl) <|
  xl rfl<|QF (u:=.int .i64 S) hB7 rfl (congrArg (Value.int .i64) hSe) (by simp) rfl λw8 hs8 hB8=>xe ?_
 have hz8:=hs8.size
 have hs28:Step [b5] w2 w8:=(hs27.any (L:=[b5])).trans' hs8
 have hW8:Step [] w w8:=(hs12.trans hs27).then1 hs8 (by omega)
 have hal8:QL [b5] w8.heap v al:=(h.up (L':=[b5]) (λb hb=>.inr (by simp at hb;omega))).ext hW8
 have hc8:Qt 3 w2.heap.size w8 vcl al:=Qm (Qu hcl hs57) hs8 (λb hb=>by have:=Q0 hcl b hb;simp;omega)
 have hB38:=(hB32.ext hs27).step hs8 (by simp;omega)
 have hB48:=(hB4.ext hs27).step hs8 (by simp;omega)
 have hl8:b5<w8.heap.size:=by omega
 have n3:b3∉[b5]:=by simp;omega
 have n4:b4∉[b5]:=by simp;omega
 refine Qg<|Qc<|Qf<|Qh<|QA (α:=Nat×Value×Value×LI×List Ed) [(6,8),(22,76)] (λz=>[(6,.int .i64 z.1)])
  (λz w'=>z.1≤S∧CrI w8 b5 vcl S z.2.1 z.2.2.1 z.2.2.2.1 z.2.2.2.2 w'∧GrI al S z.1 0 z.2.2.2.1 z.2.2.2.2∧∀x∈z.2.2.2.1,x<(z.1:Int)) (λz=>S - z.1) (by rfl) (0,nS,nS,[],[]) ⟨rfl,trivial⟩
  ⟨Nat.zero_le _,⟨Step.refl _ _,hB8,QP _ _ _ _,QP _ _ _ _,Dj.nil' _⟩,⟨by simp,by simp,by simp,by simp,by simp,by simp,by simp,by simp⟩,by simp⟩ ?_
 rintro ⟨i,v1,v2,M,E⟩ g9 w9 ⟨hi9,hI,hG,hM⟩
 simp only[] at hi9 hI hG hM
 have hmn:=hG.mn
 have hen:=hG.en
 refine Qg<|Qc<|Qb<|x (Qa rfl)<|x (Qd hI.B rfl rfl)<|x (QB rfl rfl)<|xe ?_
 refine QD rfl (λh25=>?_) (λh25=>?_)
 ·have hie:i=S:=by omega
  refine Qz ?_
  have hmA:=Qt.ints (L:=[]) hI.m (by omega) (by simp)
  have heA:=ZV.eds (L:=[]) hI.e (by omega) (by simp)
  have hc9:Qt 3 w2.heap.size w9 vcl al:=Qm hc8 hI.st (λb hb=>by have:=Q0 hcl b hb;simp;omega)
  have hA9:Zm [] w9.heap vcl v1 v2 ⟨al,(S:Int),M,E⟩:=⟨Qt.ints hc9 (by show al.length≤_;omega) (by simp),hmA,heA⟩
  have hok:Q2 ⟨al,(S:Int),M,E⟩:=⟨hb,hi,by simp only[];omega,by simp only[];omega,hG.mb,hG.mi,hG.eb,hG.ei⟩
  have hcan:=QcR hok
  have hW9:Step [] w w9:=hW8.then1 hI.st (by omega)
  have hB49:=hB48.step hI.st n4
  have hz9:=hI.st.size
  refine Qc<|x (Qn hI.B rfl rfl)<|xl rfl<|xf<|(zd (a:=⟨al,(S:Int),M,E⟩) hA9 hok).mono ?_
  rintro vr w10 ⟨hs10,hF⟩
  obtain ⟨us,hva,husl,hus⟩:=YH hF
  refine xl rfl<|Ql (us:=us) (hB49.ext hs10) rfl hva husl rfl hus λw11 hs11 hB11=>xe ?_
  have hzW:=hW9.size
  refine Qk ⟨[.agg us.toArray],⟨⟨_,rfl,Qv husl (hB11.at (L:=[]) (by simp)).cells⟩,trivial⟩,(hW9.trans hs10).then1 hs11 (by omega),Jg ⟨al,(S:Int),M,E⟩,?_,hcan.1,?_,hcan.2.1,λ_=>⟨⟨al,(S:Int),M,E⟩,hok,by simp only[];omega,by simp only[];omega,rfl⟩⟩
  ·show YV _ _ (.agg us.toArray) _
   rw[←hva]
   exact (Z4 hF (by omega) hs11).mono hzW
  ·have:=hcan.2.2
   simp only[] at this
   omega
 have hlt:i<S:=by omega
 refine Qi<|Qg<|Qh<|QW (α:=Value×LI) [(28,39)] (λz=>[]) (λz w'=>CrI w8 b5 vcl S z.1 v2 z.2 E w'∧GrI al S i 0 z.2 E) (by rfl) ?_ ?_
 ·have hdv:m1 / 2 ^ i<256:=Nat.lt_of_le_of_lt (Nat.div_le_self _ _) l1
  refine Qc<|x (Qa rfl)<|x (Qd (hB38.step hI.st n3) rfl g1)<|Qb<|x (UN (n:=i) rfl rfl (by show i≤8;omega))<|x (Qbf (a:=m1 / 2 ^ i) (b:=1) (congrArg (Value.int .u8) (Uo m1 i)) rfl hdv (by decide))<|x (Zn rfl rfl)<|xe ?_
  refine QD rfl (λh33=>?_) (λh33=>?_)
  ·refine Qi ?_
   exact ⟨(v1,M),trivial,hI,hG⟩
  refine Qx<|x (Qa rfl)<|x (Qd hI.B rfl rfl)<|Qb<|xl rfl<|QH (us:=[[.int .i64 i]]) rfl rfl (by decide) (by simp) ⟨rfl,rfl,trivial⟩ λb37 w12 hs12' hb37 hB37=>?_
  have hI12:=hI.ext hs12'
  refine xl rfl<|Q5 (news:=[.int .i64 i]) (L:=[]) hI12.m rfl rfl rfl (hB37.at (by simp)) (by simp[Value.oneCell']) (by omega) hI12.st.size λv13 w13 ho13 hs13 hn13=>?_
  have ho13':Qt 3 w8.heap.size w13 v13 (M++[(i:Int)]):=Qt.snoc ho13
  refine x (Qa rfl)<|xl rfl<|QF (hI12.B.step hs13 (QX hI12.m hl8)) rfl rfl (by simp) (Qt.ints (L:=[]) ho13' (by simp;omega) (by simp)).one λw14 hs14 hB14 =>
   xe ?_
  exact ⟨(v13,M++[(i:Int)]),trivial,hI12.setM hl8 hs13 ho13' hn13 hs14 hB14,hG.mark hM hlt⟩
 rintro ⟨v3,M3⟩ g15 w15 ⟨hI15,hG15⟩
 simp only[] at hI15 hG15
 refine Qc<|Qf<|Qh<|QA (α:=Nat×Value×List Ed) [(7,8),(40,76)] (λz=>[(7,.int .i64 z.1)])
  (λz w'=>z.1≤al.length∧z.1≤5∧CrI w8 b5 vcl S v3 z.2.1 M3 z.2.2 w'∧GrI al S i z.1 M3 z.2.2) (λz=>5 - z.1) (by rfl) (0,v2,E) ⟨rfl,trivial⟩
  ⟨Nat.zero_le _,Nat.zero_le _,hI15,hG15⟩ ?_
 rintro ⟨k,vd,F⟩ g16 w16 ⟨hk,hk5,hI16,hG16⟩
 simp only[] at hk hk5 hI16 hG16
 have hal16:=hal8.st hI16.st
 have hfn:=hG16.en
 refine Qg<|QW (α:=Unit) [(40,47)] (λz=>[(47,.bool (decide (k<al.length∧k<5)))]) (λz w'=>w'=w16) (by rfl) ?_ ?_
 ·refine Qx<|Qb<|Qb<|x (Qs hal16 rfl)<|xb (QB rfl rfl) (λh43=>?_) (λh43=>?_)
  ·refine Qb<|Qb<|x (QB rfl rfl)<|x (Qp rfl)<|xe ?_
   refine ⟨(),⟨congrArg Value.bool ?_,trivial⟩,rfl⟩
   exact decide_eq_decide.2 ⟨λe=>⟨by omega,by omega⟩,λe=>by omega⟩
  refine Qb<|xs rfl<|xs rfl<|x (Qp rfl)<|xe ?_
  exact ⟨(),⟨congrArg Value.bool (decide_eq_false (λe=>h43 (by omega))).symm,trivial⟩,rfl⟩
 rintro _ g17 w17 rfl
 refine QD rfl (λh47=>?_) (λh47=>?_)
 ·refine Qz ?_
  refine Qx<|Qb<|x (Qy rfl rfl ⟨by omega,by omega⟩)<|Qf ?_
  exact ⟨(i+1,v3,vd,M3,F),by simp only[];omega,⟨rfl,trivial⟩,hlt,hI16,hG16.next hk5,λx hx=>by have:=hG16.ml x hx;simp only[];omega⟩
 have hk1:k<al.length:=h47.1
 have hk2:k<5:=h47.2
 have gj:=VX (ns:=ns) (j:=0+2+i*5+k*1) (by omega)
 have lj:=Kf hns (0+2+i*5+k*1)
 refine Zc (ns.getD (0+2+i*5+k*1) 0) λq hq=>?_
 rw[hq] at gj lj
 have hB316:=hB38.step hI16.st n3
 have hmod:0≤(q:Int) % ((S:Int)+2):=Int.emod_nonneg _ (by omega)
 have hmod2:(q:Int) % ((S:Int)+2)<(S:Int)+2:=Int.emod_lt_of_pos _ (by omega)
 refine Qi<|Qg<|Qh<|Qg<|QT (Step [] w17) [(0,true),(1,true),(2,true),(3,true),(4,true),(5,true),(6,true),(7,true),(8,true),(9,true),(10,true),(11,true)] mixed (by rfl) (by kernel_rfl) (Step.drew _ _) ?_
 refine p (λ_=>Qo)<|p (λ_=>Qo)<|p (λ_=>Qa rfl)<|p (λ_=>YM (i:=i) rfl rfl (by omega))<|p (λ_=>YM (i:=k) rfl rfl hk2)<|pq (λ_ hc=>Qd (hB316.ext hc) rfl gj) <|
  p (λ_=>YX (k':=.i64) rfl ⟨by omega,by omega⟩)<|p (λ_=>Qa rfl)<|pq (λ_ hc=>Qd (hI16.B.ext hc) rfl rfl)<|p (λ_=>Qy rfl rfl ⟨by omega,by omega⟩) <|
  p (λ_=>UO (a:=(q:Int)) (b:=(S:Int)+2) rfl rfl (by omega) (by omega))<|p (λ_=>Qe)<|pe ?_
 have hI17:=hI16.ext (Step.drew [] w17)
 refine Zc ((q:Int) % ((S:Int)+2)) λt ht=>?_
 have ht0:0≤t:=by omega
 refine Qc<|Qb<|x (Qa rfl)<|x (Qd hI17.B rfl rfl)<|x (QB rfl rfl)<|xe ?_
 refine QD rfl (λh64=>?_) (λh64=>?_)
 ·refine Qi<|Qx<|Qb<|x (Qy rfl rfl ⟨by omega,by omega⟩)<|Qf ?_
  exact ⟨(k+1,vd,F),by simp only[];omega,⟨rfl,trivial⟩,hk1,hk2,hI17,hG16.skip hk1⟩
 have hvd:=Qq hI17.e
 have haD:QL (b5::ob vd) { w17 with drawn:=w17.drawn+1 }.heap v al:=((hal8.up (L':=b5::ob vd) (λb hb=>by
  rcases List.mem_cons.1 hb with rfl | hb
  ·exact .inl (by simp)
  ·exact .inr (hvd b hb).1)).step hI17.st (by simp))
 have nb5:=QX hI17.e hl8
 refine QT (Step (ob vd) { w17 with drawn:=w17.drawn+1 }) [(0,true),(1,true),(2,true),(3,true),(4,true),(5,true),(6,true),(7,true),(8,true),(9,false),(10,false),(11,true),(12,false)] mixed (by rfl) (by kernel_rfl) (Step.drew _ _) ?_
 refine p (λ_=>Qa rfl)<|pq (λ_ hc=>Qd (hI17.B.step hc nb5) rfl rfl)<|p (λ_=>Qo)<|p (λ_=>Qo)<|p (λ_=>Qo) <|
  pic (i:=k) rfl haD rfl rfl hk1 λa70 h70=>pq (λ_ hc=>Qw (h70.step hc (λb hb=>List.mem_cons_of_mem _ hb)) rfl)<|p (λ_=>Qo)<|p (λ_=>QN ⟨rfl,rfl,rfl,trivial⟩) <|
  pk<|QH (us:=[QC ((i:Int),cget al k,(q:Int) % ((S:Int)+2))]) rfl rfl (by decide) (by exact (by decide:1*3≤1000000)) ⟨rfl,rfl,trivial⟩ λb74 w18 hs18 hb74 hB74=>?_
 have hs1718:=(Step.drew [] { w17 with drawn:=w17.drawn+1 }).trans hs18
 have hI18:=hI17.ext hs1718
 refine ⟨hs1718.any,?_⟩
 refine pk<|Q5 (news:=QC ((i:Int),cget al k,(q:Int) % ((S:Int)+2))) (L:=[]) hI18.e rfl rfl rfl (hB74.at (by simp)) (λy hy=>by simp only[QC,List.mem_cons,List.not_mem_nil,or_false] at hy;rcases hy with rfl | rfl | rfl <;> rfl) (by omega) hI18.st.size λv19 w19 ho19 hs19 hn19=>⟨(hs1718.any (L:=ob vd)).trans' hs19,?_⟩
 have ho19':ZV 126 w8.heap.size w19 v19 (F++[((i:Int),cget al k,(q:Int) % ((S:Int)+2))]):=ZV.snoc ho19
 refine p (λ_=>Qa rfl)<|pkl (hl:=by kernel_rfl)<|QF (hI18.B.step hs19 (QX hI18.e hl8)) rfl rfl (by simp) (ZV.eds (L:=[]) ho19' (by simp;omega) (by simp)).one λw20 hs20 hB20=>pe ?_
 have hI20:=hI18.setE hl8 hs19 ho19' hn19 hs20 hB20
 refine Qx<|Qb<|x (Qy rfl rfl ⟨by omega,by omega⟩)<|Qf ?_
 exact ⟨(k+1,v19,F++[((i:Int),cget al k,(q:Int) % ((S:Int)+2))]),by simp only[];omega,⟨rfl,trivial⟩,hk1,hk2,hI20,hG16.edge hk1 hi hlt hmod (by omega)⟩
end Go.Proofs.YtgmifemhkjdblaaGreatDoor
namespace Go.Lg
section
variable {P:Program} {f:Fr} {w:World} {d:Option Nat} {ty:Nat} {ps:String} {af:Array Edge} {gd:Option (Nat×Bool)}
theorem Qdj {t sz:Nat}[Ag P t sz] {x:Operand}{b o T:Nat}{cs us:LV}(h:QS w.heap b T cs) (hx:ev f x=.pointer (some ⟨b,o,none⟩)) (hl:us.length=sz) (hsub:∀j u,us[j]?=some u→cs[o+j]?=some u) :
  (execOp (ev f) ⟨d,.load t x,ty,ps,af,gd⟩).run P w=.ok (.value (.agg us.toArray)) w:=by
 refine Up hx hl λj u hu=>?_
 rw[Xo,Yk,h.cell]
 exact hsub j u hu
end
end Go.Lg
namespace Go.Proofs.YtgmifemhkjdblaaGreatDoor
open Tryz
open Go.Lg
theorem Qiz {ns:LN}{o n:Nat}:∀j u,(bys ((ns.drop o).take n))[j]?=some u→(bys ns)[o+j]?=some u:=by
 intro j u h
 simp only[bys,List.getElem?_map,List.getElem?_take,List.getElem?_drop] at h ⊢
 split at h
 ·exact h
 ·cases h
theorem QiA {ns:LN}(h:∀n∈ns,n<256) (o n:Nat):∀m∈(ns.drop o).take n,m<256:=λm hm=>h m (List.mem_of_mem_drop (List.mem_of_mem_take hm))
theorem Qhi (m k:Nat):∀e∈setK m k,0≤e∧e<k:=by
 intro e he
 simp only[setK,List.mem_map,List.mem_filter,List.mem_range'_1] at he
 obtain ⟨i,⟨hi,_⟩,rfl⟩:=he
 omega
theorem yF (keep:Bool→Bool→Bool):∀(n:Nat) (a b:LI),a.length+b.length≤n→Yt a→Yt b→Yt (mrg keep a b):=by
 intro n
 induction n with
 | zero =>
  intro a b h _ _
  have ha:a=[]:=List.eq_nil_of_length_eq_zero (by omega)
  have hb:b=[]:=List.eq_nil_of_length_eq_zero (by omega)
  subst ha hb;rw[Jo];exact List.Pairwise.nil
 | succ n ih =>
  intro a b hn ia ib
  by_cases h:a=[]∧b=[]
  ·obtain ⟨rfl,rfl⟩:=h;rw[Jo];exact List.Pairwise.nil
  ·have hlt:=U3 h
   have itl:∀(c:Bool) (l:LI),Yt l→Yt (tl c l):=λc l hl=>by
    cases c
    ·exact hl
    ·cases l with
     | nil=>exact hl
     | cons y l=>exact hl.tail
   have ih':=ih (tl (Xi a b) a) (tl (Xi b a) b) (by omega) (itl _ _ ia) (itl _ _ ib)
   rw[X9 keep h]
   cases keep (Xi a b) (Xi b a) with
   | false=>simpa using ih'
   | true =>
    simp only[cond_true,List.singleton_append]
    refine List.pairwise_cons.2 ⟨λx hx=>?_,ih'⟩
    have hm:=(Us (itl _ _ ia) (itl _ _ ib) x).1 hx
    cases a with
    | nil =>
     cases b with
     | nil=>exact absurd ⟨rfl,rfl⟩ h
     | cons y b =>
      simp only[Xi,tl,cond_true,cond_false,List.tail_cons,List.not_mem_nil,false_or,Go.Proofs.YtgmifemhkjdblaaGreatDoor.hx,List.headD_cons] at hm ⊢
      exact ib.lt_of hm.1
    | cons u a =>
     cases b with
     | nil =>
      simp only[Xi,tl,cond_true,cond_false,List.tail_cons,List.not_mem_nil,or_false,Go.Proofs.YtgmifemhkjdblaaGreatDoor.hx,List.headD_cons] at hm ⊢
      exact ia.lt_of hm.1
     | cons y b =>
      rcases Int.lt_trichotomy u y with h1 | h1 | h1
      ·have e1:decide (u≤y)=true:=decide_eq_true (by omega)
       have e2:decide (y≤u)=false:=decide_eq_false (by omega)
       simp only[Xi,tl,e1,e2,cond_true,cond_false,List.tail_cons,Go.Proofs.YtgmifemhkjdblaaGreatDoor.hx,List.headD_cons] at hm ⊢
       rcases hm.1 with h2 | h2
       ·exact ia.lt_of h2
       ·rcases List.mem_cons.1 h2 with h2 | h2
        ·omega
        ·have:=ib.lt_of h2;omega
      ·have e1:decide (u≤y)=true:=decide_eq_true (by omega)
       have e2:decide (y≤u)=true:=decide_eq_true (by omega)
       simp only[Xi,tl,e1,e2,cond_true,List.tail_cons,Go.Proofs.YtgmifemhkjdblaaGreatDoor.hx,List.headD_cons] at hm ⊢
       rcases hm.1 with h2 | h2
       ·have:=ia.lt_of h2;omega
       ·have:=ib.lt_of h2;omega
      ·have e1:decide (u≤y)=false:=decide_eq_false (by omega)
       have e2:decide (y≤u)=true:=decide_eq_true (by omega)
       simp only[Xi,tl,e1,e2,cond_true,cond_false,List.tail_cons,Go.Proofs.YtgmifemhkjdblaaGreatDoor.hx,List.headD_cons] at hm ⊢
       rcases hm.1 with h2 | h2
       ·rcases List.mem_cons.1 h2 with h2 | h2
        ·omega
        ·have:=ia.lt_of h2;omega
       ·exact ib.lt_of h2
end Go.Proofs.YtgmifemhkjdblaaGreatDoor
namespace Go.Lg
section
variable {P:Program} {f:Fr} {w:World} {d:Option Nat} {ty:Nat} {ps:String} {af:Array Edge} {gd:Option (Nat×Bool)} {all:List Oper} {C:World→Prop} {K:Fr→World→Prop}
theorem tf {pre:List (Nat×Bool)}{i j:Nat}{t1 t2:Pt}(h:XP P all C (λf w=>(ZZ all f (QK all i)=true∧XO P (QK all i) f w λf' w'=>C w'∧XT P all C K t1 f' w') ∧
   (ZZ all f (QK all j)=true∧XO P (QK all j) f w λf' w'=>C w'∧XT P all C K t2 f' w')) pre f w):XT P all C K (.fk pre i j t1 t2) f w:=h
theorem tp {l:List (Nat×Bool)}(h:XP P all C K l f w):XT P all C K (.pl l) f w:=h
end
end Go.Lg
namespace Go.Proofs.YtgmifemhkjdblaaGreatDoor
open Go.Lg
theorem Va (es:List Ed) (s v:Int):nxt es s v=match eget es s v with | some u=>u | none=>-1:=by
 induction es with
 | nil=>rfl
 | cons e es ih =>
  rw[nxt,eget]
  split
  ·rfl
  ·exact ih
end Go.Proofs.YtgmifemhkjdblaaGreatDoor
namespace Go.Lg
section
variable {P:Program} {f:Fr} {w:World} {d:Option Nat} {ty:Nat} {ps:String} {af:Array Edge} {gd:Option (Nat×Bool)}
end
end Go.Lg
namespace Go.Proofs.YtgmifemhkjdblaaGreatDoor
open Go.Lg
section
variable {w4 w w' w'':World} {b:Nat} {m q:Bool} {ve vd:Value} {E D:LI}
end
end Go.Proofs.YtgmifemhkjdblaaGreatDoor
namespace Go.Lg
section
variable {P:Program} {f:Fr} {w:World} {d:Option Nat} {ty:Nat} {ps:String} {af:Array Edge} {gd:Option (Nat×Bool)}
end
end Go.Lg
namespace Go.Proofs.YtgmifemhkjdblaaGreatDoor
open Go.Lg
def grid (g:Nat→Int→Option Ed) (vs:LI) (n:Nat):List Ed:=(List.range' 0 n).flatMap λj=>vs.filterMap (g j)
theorem VO (g:Nat→Int→Option Ed) (vs:LI) (n:Nat):grid g vs (n+1)=grid g vs n++vs.filterMap (g n):=by
 unfold grid;rw[List.range'_1_concat,List.flatMap_append];simp
theorem V7 (l m:List Ed) (s v:Int):eget (l++m) s v=match eget l s v with | some u=>some u | none=>eget m s v:=by
 induction l with
 | nil=>rfl
 | cons e l ih =>
  rw[List.cons_append,eget,eget]
  split
  ·rfl
  ·exact ih
def qL (g:Nat→Int→Option Ed):Prop:=∀j v e,g j v=some e→e.1=(j:Int)∧e.2.1=v
theorem Qal {g:Nat→Int→Option Ed}(hg:qL g) (j:Nat) (v:Int):∀(vs:LI),eget (vs.filterMap (g j)) j v=if v∈vs then (g j v).map (·.2.2) else none
 | []=>by simp[eget]
 | u::vs=>by
  have ih:=Qal hg j v vs
  rw[List.filterMap_cons]
  cases hu:g j u with
  | none =>
   simp only[]
   rw[ih]
   by_cases e:v=u
   ·subst e;simp[hu]
   ·simp[e]
  | some e =>
   have he:=hg j u e hu
   simp only[]
   rw[eget]
   by_cases e2:u=v
   ·subst e2
    rw[if_pos he,if_pos List.mem_cons_self,hu];rfl
   ·rw[if_neg (λh=>e2 (he.2.symm.trans h.2)),ih]
    simp[Ne.symm e2]
theorem Qak {g:Nat→Int→Option Ed}(hg:qL g) {j i:Nat}(h:j≠i) (v:Int) (vs:LI):eget (vs.filterMap (g j)) i v=none:=by
 refine Jf λe he h2=>?_
 obtain ⟨u,_,hu⟩:=List.mem_filterMap.1 he
 have:=hg j u e hu
 omega
theorem zR {g:Nat→Int→Option Ed}(hg:qL g) (vs:LI) (j:Nat) (v:Int):∀n,eget (grid g vs n) j v=if j<n∧v∈vs then (g j v).map (·.2.2) else none
 | 0=>by simp[grid,eget]
 | n+1=>by
  rw[VO,V7,zR hg vs j v n]
  by_cases e:j=n
  ·subst e
   rw[if_neg (by omega),Qal hg]
   simp
  ·rw[Qak hg (Ne.symm e)]
   by_cases h:j<n∧v∈vs
   ·rw[if_pos h,if_pos ⟨by omega,h.2⟩]
    cases (g j v).map (·.2.2) <;> rfl
   ·rw[if_neg h,if_neg (λh2=>h ⟨by omega,h2.2⟩)]
theorem Qac {g:Nat→Int→Option Ed}{vs:LI}{n:Nat}{e:Ed}(h:e∈grid g vs n):∃j v,j<n∧v∈vs∧g j v=some e:=by
 unfold grid at h
 obtain ⟨j,hj,h2⟩:=List.mem_flatMap.1 h
 obtain ⟨v,hv,h3⟩:=List.mem_filterMap.1 h2
 rw[List.mem_range'_1] at hj
 exact ⟨j,v,by omega,hv,h3⟩
theorem QcE {g:Nat→Int→Option Ed}(hg:qL g) {vs:LI}(hi:Yt vs):∀n,(grid g vs n).Pairwise λx y:Ed=>x.1<y.1∨(x.1=y.1∧x.2.1<y.2.1)
 | 0=>by simp[grid]
 | n+1=>by
  rw[VO,List.pairwise_append]
  refine ⟨QcE hg hi n,Xh (r:=(·<·)) (λx y u v hxy hu hv=>?_) hi,λe he e' he'=>?_⟩
  ·have h1:=hg n x u hu
   have h2:=hg n y v hv
   right;omega
  ·obtain ⟨j,v,hj,_,h1⟩:=Qac he
   obtain ⟨v',_,h2⟩:=List.mem_filterMap.1 he'
   have h3:=hg j v e h1
   have h4:=hg n v' e' h2
   left;omega
theorem Qk8 (l:List QM):∀(acc:LI),(∀a∈l,Yt a.al)→Yt acc→Yt (l.foldl (λacc a=>mrg (· || ·) acc a.al) acc)∧∀x,x∈l.foldl (λacc a=>mrg (· || ·) acc a.al) acc↔x∈acc∨∃a∈l,x∈a.al:=by
 induction l with
 | nil=>intro acc _ h;exact ⟨h,λx=>by simp⟩
 | cons a l ih =>
  intro acc hl h
  have ha:=hl a List.mem_cons_self
  obtain ⟨h1,h2⟩:=ih (mrg (· || ·) acc a.al) (λb hb=>hl b (List.mem_cons_of_mem _ hb)) (yF _ _ _ _ (Nat.le_refl _) h ha)
  rw[List.foldl_cons]
  refine ⟨h1,λx=>?_⟩
  rw[h2 x,Us h ha]
  simp only[List.mem_cons,exists_eq_or_imp]
  constructor
  ·rintro (⟨h3 | h3,_⟩ | h3)
   ·exact .inl h3
   ·exact .inr (.inl h3)
   ·exact .inr (.inr h3)
  ·rintro (h3 | h3 | h3)
   ·exact .inl ⟨.inl h3,by simp[h3]⟩
   ·exact .inl ⟨.inr h3,by simp[h3]⟩
   ·exact .inr h3
theorem yY {l:List QM}(h:∀a∈l,Q2 a):Yt (evs l):=(Qk8 l [] (λa ha=>(h a ha).ali) (by simp)).1
theorem Uu {l:List QM}(h:∀a∈l,Q2 a) (x:Int):x∈evs l↔∃a∈l,x∈a.al:=by
 have:=(Qk8 l [] (λa ha=>(h a ha).ali) (by simp)).2 x
 unfold evs;rw[this];simp
def syF (aa:List QM) (tup:List (LI)) (j:Nat) (v:Int):Option Ed:=(Zu v aa (tup.getD j [])).map λu=>((j:Int),v,(tup.idxOf u:Int))
theorem Qef (aa:List QM) (tup:List (LI)):qL (syF aa tup):=by
 intro j v e h
 unfold syF at h
 obtain ⟨u,_,rfl⟩:=Option.map_eq_some_iff.1 h
 exact ⟨rfl,rfl⟩
theorem Qag {α β:Type}{f g:α→Option β}:∀{l:List α},(∀x∈l,f x=g x)→l.filterMap f=l.filterMap g
 | [],_=>rfl
 | x::l,h=>by rw[List.filterMap_cons,List.filterMap_cons,h x List.mem_cons_self,Qag (λy hy=>h y (List.mem_cons_of_mem _ hy))]
theorem QfG {α β:Type}{f:α→Option β}{v:α}{e:β}(h:f v=some e):[v].filterMap f=[e]:=by rw[List.filterMap_cons,h];rfl
theorem Qh6 {α β:Type}{f:α→Option β}{v:α}(h:f v=none):[v].filterMap f=[]:=by rw[List.filterMap_cons,h];rfl
theorem Qeg {aa:List QM}{tup:List (LI)}{j:Nat}{v:Int}(h:Zu v aa (tup.getD j [])=none):syF aa tup j v=none:=by unfold syF;rw[h];rfl
theorem js {aa:List QM}{tup:List (LI)}{j:Nat}{v:Int}{u:LI}(h:Zu v aa (tup.getD j [])=some u):syF aa tup j v=some ((j:Int),v,(tup.idxOf u:Int)):=by unfold syF;rw[h];rfl
def Clo (aa:List QM) (tup:List (LI)) (j:Nat) (vs:LI):Prop:=∀v∈vs,∀u,Zu v aa (tup.getD j [])=some u→u∈tup
theorem JV {tup r:List (LI)}{j:Nat}(h:j<tup.length):(tup++r).getD j []=tup.getD j []:=by simp[List.getD,List.getElem?_append_left h]
theorem Qb1 {aa:List QM}{tup r:List (LI)}{j:Nat}{vs:LI}(hj:j<tup.length) (hc:Clo aa tup j vs):vs.filterMap (syF aa (tup++r) j)=vs.filterMap (syF aa tup j):=by
 refine Qag λv hv=>?_
 unfold syF
 rw[JV hj]
 cases hs:Zu v aa (tup.getD j []) with
 | none=>rfl
 | some u =>
  have hu:=hc v hv u hs
  simp only[Option.map_some,Option.some.injEq,Prod.mk.injEq,true_and]
  rw[List.idxOf_append,if_pos hu]
theorem Clo.pre {aa:List QM}{tup r:List (LI)}{j:Nat}{vs:LI}(hj:j<tup.length) (hc:Clo aa tup j vs):Clo aa (tup++r) j vs:=by
 intro v hv u hu
 rw[JV hj] at hu
 exact List.mem_append_left _ (hc v hv u hu)
theorem Jn {α:Type}{l:List α}{u:α}(h:l.Nodup) (hu:u∉l):(l++[u]).Nodup:=by
 rw[List.nodup_append]
 exact ⟨h,by simp,λa ha b hb=>by simp only[List.mem_singleton] at hb;subst hb;exact λe=>hu (by rw[←e];exact ha)⟩
theorem zk {aa:List QM}{i:Nat}:∀(vs:LI) (s s':Sy),i<s.tup.length→s.tup.Nodup→KH aa i (V3 s i) vs s=some s' →
  ∃r,s'.tup=s.tup++r∧s'.mk'=s.mk'∧s'.ed=s.ed++vs.filterMap (syF aa s'.tup i)∧Clo aa s'.tup i vs∧s'.tup.Nodup
 | [],s,s',_,hd,e=>by cases e;exact ⟨[],by simp,rfl,by simp,λv hv=>(by cases hv),hd⟩
 | v::vs,s,s',hi,hd,e=>by
  rw[KH] at e
  obtain ⟨s1,h1,h2⟩:=Option.bind_eq_some_iff.1 e
  have key:∃r1,s1.tup=s.tup++r1∧s1.mk'=s.mk'∧s1.ed=s.ed++[v].filterMap (syF aa s1.tup i)∧Clo aa s1.tup i [v]∧s1.tup.Nodup:=by
   unfold syE at h1
   have eT:V3 s i=s.tup.getD i []:=rfl
   rw[eT] at h1
   cases hs:Zu v aa (s.tup.getD i []) with
   | none =>
    rw[hs] at h1
    cases h1
    refine ⟨[],by simp,rfl,by rw[Qh6 (Qeg hs),List.append_nil],λv' hv' u hu=>?_,hd⟩
    simp only[List.mem_singleton] at hv';subst hv'
    rw[hs] at hu;cases hu
   | some u =>
    rw[hs] at h1
    simp only[] at h1
    by_cases hu:u∈s.tup
    ·rw[if_pos hu] at h1
     cases h1
     refine ⟨[],by simp,rfl,by rw[QfG (js hs)],λv' hv' u' hu'=>?_,hd⟩
     simp only[List.mem_singleton] at hv';subst hv'
     simp only[] at hu' ⊢
     rw[hs] at hu';cases hu';exact hu
    ·rw[if_neg hu] at h1
     split at h1
     ·cases h1
     ·cases h1
      have e2:(s.tup++[u]).getD i []=s.tup.getD i []:=JV hi
      have e3:(s.tup++[u]).idxOf u=s.tup.length:=by rw[List.idxOf_append,if_neg hu];simp
      refine ⟨[u],rfl,rfl,?_,λv' hv' u' hu'=>?_,Jn hd hu⟩
      ·rw[QfG (js (tup:=s.tup++[u]) (u:=u) (by rw[e2];exact hs)),e3]
      ·simp only[List.mem_singleton] at hv';subst hv'
       simp only[] at hu' ⊢
       rw[e2,hs] at hu';cases hu';simp
  obtain ⟨r1,k1,k2,k3,k4,k5⟩:=key
  have hi1:i<s1.tup.length:=by rw[k1];simp;omega
  have eT:V3 s1 i=V3 s i:=by unfold V3;rw[k1];exact JV hi
  rw[←eT] at h2
  obtain ⟨r2,g1,g2,g3,g4,g5⟩:=zk vs s1 s' hi1 k5 h2
  refine ⟨r1++r2,by rw[g1,k1,List.append_assoc],g2.trans k2,?_,?_,g5⟩
  ·rw[g3,k3,List.append_assoc]
   congr 1
   rw[show v::vs=[v]++vs from rfl,List.filterMap_append]
   congr 1
   rw[g1]
   exact (Qb1 hi1 k4).symm
  ·intro v' hv' u hu
   rcases List.mem_cons.1 hv' with rfl | hv'
   ·have:=k4.pre (r:=r2) hi1
    rw[←g1] at this
    exact this v' List.mem_cons_self u hu
   ·exact g4 v' hv' u hu
structure SyG (aa:List QM) (i:Nat) (s:Sy):Prop where
 nd:s.tup.Nodup
 le:i≤s.tup.length
 hd:s.tup.getD 0 []=List.replicate aa.length 0∧0<s.tup.length
 mk2:s.mk'=((List.range' 0 i).filter λj=>Xd aa (s.tup.getD j [])).map λj:Nat=>(j:Int)
 ed:s.ed=grid (syF aa s.tup) (evs aa) i
 cl:∀j,j<i→Clo aa s.tup j (evs aa)
theorem Xy {α β:Type}{f g:α→List β}:∀{l:List α},(∀x∈l,f x=g x)→l.flatMap f=l.flatMap g
 | [],_=>rfl
 | x::l,h=>by rw[List.flatMap_cons,List.flatMap_cons,h x List.mem_cons_self,Xy (λy hy=>h y (List.mem_cons_of_mem _ hy))]
theorem SyG.next {aa:List QM}{i:Nat}{s s':Sy}(h:SyG aa i s) (hi:i<s.tup.length) (e:KH aa i (V3 s i) (evs aa) (ZA aa i (V3 s i) s)=some s'):SyG aa (i+1) s':=by
 have ht:(ZA aa i (V3 s i) s).tup=s.tup:=by unfold ZA;split <;> rfl
 have hed:(ZA aa i (V3 s i) s).ed=s.ed:=by unfold ZA;split <;> rfl
 have hT:V3 (ZA aa i (V3 s i) s) i=V3 s i:=by show (ZA aa i (V3 s i) s).tup.getD i []=s.tup.getD i [];rw[ht]
 rw[←hT] at e
 obtain ⟨r,g1,g2,g3,g4,g5⟩:=zk (evs aa) _ s' (by rw[ht];exact hi) (by rw[ht];exact h.nd) (by rw[hT] at e ⊢;exact e)
 rw[ht] at g1
 rw[hed] at g3
 have pre:∀j,j≤i→s'.tup.getD j []=s.tup.getD j []:=λj hj=>by rw[g1];exact JV (by omega)
 refine ⟨g5,by rw[g1];simp;omega,⟨by rw[pre 0 (by omega)];exact h.hd.1,by rw[g1];simp;omega⟩,?_,?_,λj hj=>?_⟩
 ·rw[g2,List.range'_1_concat,List.filter_append,List.map_append,Nat.zero_add]
  have e1:((List.range' 0 i).filter λj=>Xd aa (s'.tup.getD j []))=(List.range' 0 i).filter λj=>Xd aa (s.tup.getD j []):=by
   refine List.filter_congr λj hj=>?_
   rw[List.mem_range'_1] at hj
   rw[pre j (by omega)]
  rw[e1]
  unfold ZA
  by_cases hm:Xd aa (V3 s i)=true
  ·rw[if_pos hm]
   have hm':Xd aa (s'.tup.getD i [])=true:=by rw[pre i (Nat.le_refl _)];exact hm
   simp only[List.filter_cons,hm',if_true,List.filter_nil,List.map_cons,List.map_nil]
   rw[h.mk2]
  ·rw[if_neg hm]
   have hm':Xd aa (s'.tup.getD i [])=false:=by rw[pre i (Nat.le_refl _)];exact eq_false_of_ne_true hm
   rw[List.filter_cons,if_neg (by rw[hm'];simp),List.filter_nil,h.mk2];simp
 ·rw[g3,VO,h.ed]
  congr 1
  unfold grid
  refine Xy λj hj=>?_
  rw[List.mem_range'_1] at hj
  rw[g1]
  exact (Qb1 (by omega) (h.cl j (by omega))).symm
 ·by_cases e2:j=i
  ·subst e2;exact g4
  ·have:=(h.cl j (by omega)).pre (r:=r) (by omega)
   rw[←g1] at this
   exact this
theorem jq {aa:List QM}:∀(f i:Nat) (s s':Sy),SyG aa i s→jr aa f i s=some s'→∃i',SyG aa i' s'∧(s'.tup.length=i'∨i'=i+f)
 | 0,i,s,s',h,e=>by cases e;exact ⟨i,h,.inr rfl⟩
 | f+1,i,s,s',h,e=>by
  rw[jr] at e
  split at e
  ·rename_i hi
   obtain ⟨s1,h1,h2⟩:=Option.bind_eq_some_iff.1 e
   obtain ⟨i',h3,h4⟩:=jq f (i+1) s1 s' (h.next hi h1) h2
   exact ⟨i',h3,by omega⟩
  ·cases e;exact ⟨i,h,.inl (by have:=h.le;omega)⟩
structure SyP (aa:List QM) (A:QM) (Q:List (LI)):Prop where
 al:A.al=evs aa
 st:A.st=(Q.length:Int)
 nd:Q.Nodup
 v:∀t∈Q,Vt aa t
 le:Q.length≤4096
 hd:0<Q.length→Q.getD 0 []=List.replicate aa.length 0
 mk2:A.mr=((List.range' 0 Q.length).filter λj=>Xd aa (Q.getD j [])).map λj:Nat=>(j:Int)
 ed:A.ed=grid (syF aa Q) (evs aa) Q.length
 cl:∀j,j<Q.length→Clo aa Q j (evs aa)
theorem Xk {aa:List QM}(ho:∀a∈aa,Q2 a) {A:QM}{Q:List (LI)}(h:sync aa=some (A,Q)):SyP aa A Q∧(Q.length=0↔∃a∈aa,a.st=0):=by
 have hok:=yk ho h
 unfold sync at h
 split at h
 ·rename_i hz
  cases h
  exact ⟨⟨rfl,rfl,by simp,by simp,by simp,λh=>by simp at h,by simp,by simp[grid],λj hj=>by simp at hj⟩,by simpa using hz⟩
 ·rename_i hz
  obtain ⟨s,h1,h2⟩:=Option.map_eq_some_iff.1 h
  have h0:SyG aa 0 (Ue aa):=⟨by simp[Ue],by simp,⟨by simp[Ue],by simp[Ue]⟩,by simp[Ue],by simp[Ue,grid],λj hj=>by omega⟩
  obtain ⟨i',h3,h4⟩:=jq 4096 0 (Ue aa) s h0 h1
  cases h2
  have hl:i'=s.tup.length:=by
   have h5:=h3.le
   have h6:=hok.2
   simp only[] at h6
   omega
  subst hl
  refine ⟨⟨rfl,rfl,h3.nd,hok.1,hok.2,λ_=>h3.hd.1,h3.mk2,h3.ed,h3.cl⟩,?_⟩
  have:=h3.hd.2
  constructor
  ·intro h;have h7:s.tup.length=0:=h;omega
  ·intro h;exact absurd h hz
theorem SyP.step {aa:List QM}{A:QM}{Q:List (LI)}(h:SyP aa A Q) {j:Nat}(hj:j<Q.length) (v:Int) :
  eget A.ed j v=if v∈evs aa then (Zu v aa (Q.getD j [])).map λu=>(Q.idxOf u:Int) else none:=by
 rw[h.ed,zR (Qef aa Q)]
 by_cases hv:v∈evs aa
 ·rw[if_pos ⟨hj,hv⟩,if_pos hv]
  unfold syF
  rw[Option.map_map];rfl
 ·rw[if_neg (λe=>hv e.2),if_neg hv]
theorem SyP.to {aa:List QM}{A:QM}{Q:List (LI)}(h:SyP aa A Q) {j:Nat}(hj:j<Q.length) {v:Int}(hv:v∈evs aa) {u:LI}(hu:Zu v aa (Q.getD j [])=some u):Q.idxOf u<Q.length∧Q.getD (Q.idxOf u) []=u:=by
 have hm:=h.cl j hj v hv u hu
 have hl:=List.idxOf_lt_length_of_mem hm
 refine ⟨hl,?_⟩
 simp[List.getD,hl]
theorem SyP.okay {aa:List QM}(ho:∀a∈aa,Q2 a) {A:QM}{Q:List (LI)}(h:SyP aa A Q):Q2 A:=by
 have hle:=h.le
 refine ⟨λe he=>?_,by rw[h.al];exact yY ho,by rw[h.st];omega,by rw[h.st];omega,λs hs=>?_,?_,λe he=>?_,by rw[h.ed];exact QcE (Qef aa Q) (yY ho) _⟩
 ·rw[h.al] at he
  obtain ⟨a,ha,hx⟩:=(Uu ho e).1 he
  exact (ho a ha).al e hx
 ·rw[h.mk2] at hs
  simp only[List.mem_map,List.mem_filter,List.mem_range'_1] at hs
  obtain ⟨i,⟨hi,_⟩,rfl⟩:=hs
  rw[h.st];omega
 ·rw[h.mk2]
  unfold Yt
  rw[List.pairwise_map]
  refine List.Pairwise.sublist List.filter_sublist ?_
  exact (List.pairwise_lt_range' (s:=0) (n:=Q.length)).imp (λh=>by omega)
 ·rw[h.ed] at he
  obtain ⟨j,v,hj,hv,hg⟩:=Qac he
  unfold syF at hg
  obtain ⟨u,hu,rfl⟩:=Option.map_eq_some_iff.1 hg
  have:=(h.to hj hv hu).1
  rw[h.st,h.al]
  exact ⟨by simp only[];omega,by simp only[];omega,hv,by simp only[];omega,by simp only[];omega⟩
end Go.Proofs.YtgmifemhkjdblaaGreatDoor
namespace Go.Lg
open Go.RowKit
instance:LawfulBEq ByteArray where
 eq_of_beq h:=(MapKept.bytes_beq _ _).1 h
 rfl:=(MapKept.bytes_beq _ _).2 rfl
def chr (s:ByteArray) (i:Nat):Nat:=(s.get! i).toNat
theorem Qj4 {s:ByteArray}{i:Nat}(h:i<s.size):(s[i]'h).toNat=chr s i:=by
 unfold chr
 obtain ⟨d⟩:=s
 have hd:i<d.size:=h
 simp[ByteArray.get!,hd,ByteArray.getElem_eq_getElem_data]
theorem QdL {a b:ByteArray}(h:a.data.toList=b.data.toList):a=b:=by
 obtain ⟨⟨x⟩⟩:=a
 obtain ⟨⟨y⟩⟩:=b
 have h':x=y:=h
 rw[h']
theorem bytes_beq (a b:ByteArray):(a.toList == b.toList)=decide (a=b):=by
 rw[ByteArray.toList_eq,ByteArray.toList_eq]
 by_cases h:a=b
 ·subst h;simp
 ·rw[decide_eq_false h]
  have:a.data.toList≠b.data.toList:=λe=>h (QdL e)
  simpa using this
section
variable {P:Program} {f:Fr} {w:World} {d:Option Nat} {ty:Nat} {ps:String} {af:Array Edge} {gd:Option (Nat×Bool)} {t t':Nat} {x y:Operand}
theorem QeQ [h:St P t] {s:ByteArray}{k:IntKind}{i:Nat}(hx:ev f x=.string s) (hy:ev f y=.int k i) (hi:i<s.size) :
  (execOp (ev f) ⟨d,.index t x y,ty,ps,af,gd⟩).run P w=.ok (.value (.int .u8 (chr s i))) w:=by
 have h1:=run_index_string (P:=P) w t s k i h.u
 rw[dif_pos ⟨by omega,by omega⟩] at h1
 have e:(s[(i:Int).toNat]'(by simpa using hi)).toNat=chr s i:=Qj4 hi
 simp only[execOp,hx,hy,Sem.run_bind,h1,Result.andThen_ok,Sem.run_pure,e]
theorem Qbd [h:St P t] {s:ByteArray}(hx:ev f x=.string s) :
  (execOp (ev f) ⟨d,.call ⟨.builtin .len,#[x],#[t]⟩,ty,ps,af,gd⟩).run P w=.ok (.value (.int .i64 s.size)) w:=QeN h.u hx
theorem yw {a b:ByteArray}(hx:ev f x=.string a) (hy:ev f y=.string b) :
  (execOp (ev f) ⟨d,.binOp .eql t x y t',ty,ps,af,gd⟩).run P w=.ok (.value (.bool (decide (a=b)))) w:=by
 have hg:(eqGuard .eql t x y (.string a) (.string b)).run P w=.ok () w:=by simp[eqGuard]
 simp only[execOp,hx,hy,Sem.run_bind,hg,Result.andThen_ok,binOp_string_eql,Sem.run_pure,bytes_beq]
theorem Jl {a b:ByteArray}(hx:ev f x=.string a) (hy:ev f y=.string b) (hl:a.size+b.size≤1000000000) :
  (execOp (ev f) ⟨d,.binOp .add t x y t',ty,ps,af,gd⟩).run P w=.ok (.value (.string (a++b))) w:=by
 have hg:(eqGuard .add t x y (.string a) (.string b)).run P w=.ok () w:=by simp[eqGuard]
 have hl':¬(((a.size+b.size:Nat):Int) > IntKind.i64.max):=by
  rw[show IntKind.i64.max=9223372036854775807 from rfl];omega
 simp only[execOp,hx,hy,Sem.run_bind,hg,Result.andThen_ok,binOp_string_add,Op.stringOp,if_neg hl',Sem.run_pure]
theorem Qhs {a b:Nat}(hx:ev f x=.int .u16 a) (hy:ev f y=.int .u16 b) (ha:a<65536) (hb:b<65536) :
  (execOp (ev f) ⟨d,.binOp .and t x y t',ty,ps,af,gd⟩).run P w=.ok (.value (.int .u16 ((a &&& b:Nat):Int))) w:=by
 refine Xc hx hy ?_
 have hi:inK .u16 ((a &&& b:Nat):Int):=by
  have:a &&& b≤a:=Nat.and_le_left
  exact ⟨by omega,by omega⟩
 simp only[binOp,Op.intBits,BitVec.ofInt_natCast,ne_eq,not_true_eq_false,if_false,Sem.run_pure]
 rw[BitVec.toNat_and,BitVec.toNat_ofNat,BitVec.toNat_ofNat,Nat.mod_eq_of_lt (show a<2 ^ IntKind.u16.bits from ha),Nat.mod_eq_of_lt (show b<2 ^ IntKind.u16.bits from hb),YZ hi]
theorem Qcj {a b:Nat}(ha:a<65536) (hb:b<65536):a ||| b<65536:=Nat.or_lt_two_pow (n:=16) ha hb
theorem Qbb {a b:Nat}(hx:ev f x=.int .u16 a) (hy:ev f y=.int .u16 b) (ha:a<65536) (hb:b<65536) :
  (execOp (ev f) ⟨d,.binOp .or t x y t',ty,ps,af,gd⟩).run P w=.ok (.value (.int .u16 ((a ||| b:Nat):Int))) w:=by
 refine Xc hx hy ?_
 have hi:inK .u16 ((a ||| b:Nat):Int):=by
  have:=Qcj ha hb
  exact ⟨by omega,by omega⟩
 simp only[binOp,Op.intBits,BitVec.ofInt_natCast,ne_eq,not_true_eq_false,if_false,Sem.run_pure]
 rw[BitVec.toNat_or,BitVec.toNat_ofNat,BitVec.toNat_ofNat,Nat.mod_eq_of_lt (show a<2 ^ IntKind.u16.bits from ha),Nat.mod_eq_of_lt (show b<2 ^ IntKind.u16.bits from hb),YZ hi]
theorem Qbe {a b:Nat}(hx:ev f x=.int .u16 a) (hy:ev f y=.int .u16 b) (ha:a<65536) (hb:b<65536) :
  (execOp (ev f) ⟨d,.binOp .andNot t x y t',ty,ps,af,gd⟩).run P w=.ok (.value (.int .u16 ((a &&& (65535 ^^^ b):Nat):Int))) w:=by
 refine Xc hx hy ?_
 have hi:inK .u16 ((a &&& (65535 ^^^ b):Nat):Int):=by
  have:a &&& (65535 ^^^ b)≤a:=Nat.and_le_left
  exact ⟨by omega,by omega⟩
 have e:(~~~(BitVec.ofNat IntKind.u16.bits b))=BitVec.ofNat IntKind.u16.bits (65535 ^^^ b):=by
  have hall:BitVec.allOnes 16=BitVec.ofNat 16 65535:=by decide
  have hx1:∀z:BitVec 16,~~~z=BitVec.allOnes 16 ^^^ z:=λz=>by
   first
   | exact BitVec.allOnes_xor.symm
   | exact (BitVec.xor_allOnes.symm.trans (BitVec.xor_comm _ _))
  show ~~~(BitVec.ofNat 16 b)=BitVec.ofNat 16 (65535 ^^^ b)
  rw[hx1,hall]
  apply BitVec.eq_of_toNat_eq
  simp only[BitVec.toNat_xor,BitVec.toNat_ofNat]
  rw[Nat.mod_eq_of_lt (show 65535<2 ^ 16 by decide),Nat.mod_eq_of_lt (show b<2 ^ 16 from hb)]
  rw[Nat.mod_eq_of_lt (Nat.xor_lt_two_pow (n:=16) (by decide) hb)]
 simp only[binOp,Op.intBits,BitVec.ofInt_natCast,ne_eq,not_true_eq_false,if_false,Sem.run_pure]
 rw[e,BitVec.toNat_and,BitVec.toNat_ofNat,BitVec.toNat_ofNat,Nat.mod_eq_of_lt (show a<2 ^ IntKind.u16.bits from ha),Nat.mod_eq_of_lt (show 65535 ^^^ b<2 ^ IntKind.u16.bits from Nat.xor_lt_two_pow (n:=16) (by decide) hb),YZ hi]
theorem Qcf {k k':IntKind}{a:Int}{n:Nat}(hx:ev f x=.int k a) (hy:ev f y=.int k' n) (hn:n≤k.bits) (hi:inK k (a*2 ^ n)) :
  (execOp (ev f) ⟨d,.binOp .shl t x y t',ty,ps,af,gd⟩).run P w=.ok (.value (.int k (a*2 ^ n))) w:=by
 refine Xc hx hy ?_
 have h1:¬((n:Int)<0):=by omega
 simp only[binOp,Op.shift,h1,if_false,Int.toNat_natCast,Nat.min_eq_left hn,Sem.run_pure]
 rw[YZ hi]
end
section
variable {P:Program} {ops:List Oper} {K:Fr→World→Prop} {f:Fr} {w:World} {d:Option Nat} {ty:Nat} {ps:String} {af:Array Edge} {gd:Option (Nat×Bool)} {l:List Oper}
 {t e sz bys:Nat} {z:Value} {x y1 y2:Operand} {L:LN} {v:Value} {n:Nat} {cs:LV} {H:Array Obj} {k k':IntKind} {hi:Nat}
theorem QeK [h:Sl P t e sz bys z] (hA:Zw L H v n sz cs) (hx:ev f x=v) (hh:ev f y1=.int k hi) (hm:ev f y2=.int k' hi) (h1:hi≤n) :
  ∃v',Zw L H v' hi sz (cs.take (hi*sz))∧∀w,(execOp (ev f) ⟨d,.slice t x none (some y1) (some y2),ty,ps,af,gd⟩).run P w=.ok (.value v') w:=by
 obtain ⟨ii,hii,_,hs,_⟩:=Sl.info h
 rcases hA.2.2 with ⟨rfl,rfl⟩ | ⟨a,cap,rfl,hc,hat⟩
 ·have h0:hi=0:=by omega
  subst h0
  refine ⟨nS,?_,λw=>?_⟩
  ·rw[Nat.zero_mul,List.take_zero];exact Zw.nil _ _ _
  ·simp[execOp,hx,hh,hm,Instr.sliceAt,Instr.slice,Instr.sliceBounds,Instr.sliceBound,asIntOf,run_underlying h.u,sizeOf,typeInfo,hii]
 ·refine ⟨.slice (some a) hi hi,⟨?_,by have:=hA.2.1;omega,.inr ⟨a,hi,rfl,Nat.le_refl _,hat.out,hat.lt,λj u hu=>?_⟩⟩,λw=>?_⟩
  ·rw[List.length_take,hA.1,Nat.min_eq_left (Nat.mul_le_mul_right _ h1)]
  ·rw[List.getElem?_take] at hu
   split at hu
   ·exact hat.cell j u hu
   ·cases hu
  ·by_cases h0:hi=0
   ·subst h0
    simp[execOp,hx,hh,hm,Instr.sliceAt,Instr.slice,Instr.sliceBounds,Instr.sliceBound,asIntOf,run_underlying h.u,sizeOf,typeInfo,hii]
   ·simp[execOp,hx,hh,hm,Instr.sliceAt,Instr.slice,Instr.sliceBounds,Instr.sliceBound,asIntOf,run_underlying h.u,sizeOf,typeInfo,hii,Addr.add]
    intro h9;omega
end
section
variable {P:Program} {ops l:List Oper} {K:Fr→World→Prop} {f:Fr} {w:World} {o:Oper} {C:World→Prop} {pl:List (Nat×Bool)} {i:Nat}
theorem xB {b:Bool}(hr:(execOp (ev f) o).run P w=.ok (.value (.bool b)) w) (ht:b=true→XL P ops K l (QU f o.dst (.bool true)) w) (hf:b=false→XL P ops K l (QU f o.dst (.bool false)) w)
  (hg:ZZ ops f o=true:=by rfl):XL P ops K (o::l) f w:=by
 cases hb:b with
 | true=>rw[hb] at hr;exact x hr (ht hb) hg
 | false=>rw[hb] at hr;exact x hr (hf hb) hg
theorem pB {b:Bool}(hr:∀w',(execOp (ev f) (QK ops i)).run P w'=.ok (.value (.bool b)) w') (ht:b=true→XP P ops C K pl (QU f (QK ops i).dst (.bool true)) w) (hf:b=false→XP P ops C K pl (QU f (QK ops i).dst (.bool false)) w)
  (hg:ZZ ops f (QK ops i)=true:=by rfl):XP P ops C K ((i,true)::pl) f w:=by
 cases hb:b with
 | true=>rw[hb] at hr;exact p hr (ht hb) hg
 | false=>rw[hb] at hr;exact p hr (hf hb) hg
theorem QfX {G:Prop} (b:Bool) (ht:b=true→G) (hf:b=false→G):G:=by cases h:b with | true=>exact ht h | false=>exact hf h
theorem bT {q:Prop}[Decidable q] (h:q):true=decide q:=(decide_eq_true h).symm
theorem bF {q:Prop}[Decidable q] (h:¬q):false=decide q:=(decide_eq_false h).symm
theorem bD {q r:Prop}[Decidable q] [Decidable r] (h:q↔r):decide q=decide r:=decide_eq_decide.2 h
end
section
variable {P:Program} {f:Fr} {w:World} {d:Option Nat} {ty:Nat} {ps:String} {af:Array Edge} {gd:Option (Nat×Bool)} {t:Nat} {x:Operand}
theorem UP {q:Prop}[Decidable q] (hx:ev f x=.bool (decide q)):(execOp (ev f) ⟨d,.unOp .not t x,ty,ps,af,gd⟩).run P w=.ok (.value (.bool (decide (¬q)))) w:=by
 rw[Zp hx];simp
end
end Go.Lg
namespace Go.Proofs.YtgmifemhkjdblaaGreatDoor
open Go.Lg
structure KA where
 nm:ByteArray
 co:Bool
 ob:Bool
 fo:Bool
 fl:Int
structure Jj where
 nm:ByteArray
 a:QM
structure Exc where
 nm:ByteArray
 ls:List (Int×Int)
structure X5 where
 nm:ByteArray
 ts:List (Int×Int)
 bd:Int
structure ZB where
 ev:List KA
 co:List Jj
 rq:List Jj
 ex:List Exc
 cs:List X5
def Kp (n:Nat):LI:=(List.range n).map λi:Nat=>(i:Int)
def nmP (i c:Nat):Prop:=((97≤c∧c≤122)∨(65≤c∧c≤90)∨c=95)∨(i≠0∧48≤c∧c≤57)
instance (i c:Nat):Decidable (nmP i c):=by unfold nmP;infer_instance
def nmQ (s:ByteArray) (i:Nat):Bool:=decide (nmP i (chr s i))
def KL (s:ByteArray):Bool:=(List.range' 0 s.size).all (nmQ s) && decide (0<s.size∧s.size≤32)
def XZ (seen:List ByteArray) (e:KA):Int:=if KL e.nm=false then 7 else if e.nm∈seen then 8 else if e.fl<0∨4<e.fl then 2 else if e.fl≠0∧(e.co || e.ob)=true then 13 else 0
def qq:List ByteArray→List KA→Int
 | _,[]=>0
 | seen,e::l=>if XZ seen e≠0 then XZ seen e else qq (seen++[e.nm]) l
def Jt (l:List KA):Int:=if 32<l.length then 3 else qq [] l
def ixs {α:Type}(q:α→Bool):Nat→List α→LI
 | _,[]=>[]
 | i,e::l=>if q e=true then (i:Int)::ixs q (i+1) l else ixs q (i+1) l
def unc (l:List KA):LI:=ixs (λe=>!e.co) 0 l
def Vu (sz:LI):Option Int→List (Int×Int)→Int
 | _,[]=>0
 | pr,l::ls=>if l.1<0∨(sz.length:Int)≤l.1 then 2 else if yL pr l.1=true then 5 else if l.2<0∨cget sz l.1.toNat≤l.2 then 2 else Vu sz (some l.1) ls
def JC (sz:LI) (ls:List (Int×Int)):Int:=if ls.length=0 then 12 else Vu sz none ls
def grt (n:Int):Bool:=decide (n < -65536) || decide (65536<n)
def JA (sz:LI):Option Int→List (Int×Int)→Int
 | _,[]=>0
 | pr,l::ls=>if l.1<0∨(sz.length:Int)≤l.1 then 2 else if yL pr l.1=true then 5 else if l.2=0∨grt l.2=true then 2 else JA sz (some l.1) ls
def JD (sz:LI) (k:X5):Int:=if k.ts.length=0 then 12 else if JA sz none k.ts≠0 then JA sz none k.ts else if grt k.bd=true then 2 else 0
def VU (seen:List ByteArray) (s:ByteArray):Int:=if KL s=false then 7 else if s∈seen then 8 else 0
def Ym (sz:LI):List ByteArray→List Exc→Int
 | _,[]=>0
 | seen,x::l=>if VU seen x.nm≠0 then VU seen x.nm else if JC sz x.ls≠0 then JC sz x.ls else Ym sz (seen++[x.nm]) l
def YQ (sz:LI):List ByteArray→List X5→Int
 | _,[]=>0
 | seen,x::l=>if VU seen x.nm≠0 then VU seen x.nm else if JD sz x≠0 then JD sz x else YQ sz (seen++[x.nm]) l
def Kx (n:Int):Bool:=decide (n<1) || decide (4096<n)
def YD (sz:LI) (ex:List Exc) (cs:List X5):Int:=if 8<sz.length then 3 else if sz.any Kx=true then 2 else if 32<ex.length∨32<cs.length then 3 else if Ym sz [] ex≠0 then Ym sz [] ex else YQ sz [] cs
def mns (a b:LI):LI:=mrg (λp q=>p && !q) a b
def V6 (a:QM):Bool:=decide (Y2 a=0) && decide ((YL a).st=a.st∧(YL a).al=a.al∧(YL a).mr=a.mr∧(YL a).ed=a.ed)
def Ya (nev:Nat) (amg:LI) (seen:List ByteArray) (x:Jj):Int :=
 if KL x.nm=false then 7 else if x.nm∈seen then 8 else if Y2 x.a≠0 then Y2 x.a else if V6 x.a=false then 6 else if x.a.st=0 then 12 else
 if (x.a.al.any λe=>decide ((nev:Int)≤e))=true then 2 else if (mns x.a.al amg).length≠0 then 9 else 0
def Yn (nev:Nat) (al:LI):List ByteArray→LI→List Jj→Int×List ByteArray×LI
 | s,u,[]=>(0,s,u)
 | s,u,x::l=>if Ya nev al s x≠0 then (Ya nev al s x,s,u) else Yn nev al (s++[x.nm]) (mrg (· || ·) u x.a.al) l
def JY (nev:Nat) (u:LI):List ByteArray→List Jj→Int
 | _,[]=>0
 | s,x::l=>if Ya nev u s x≠0 then Ya nev u s x else JY nev u (s++[x.nm]) l
def szs (l:List Jj):LI:=l.map (·.a.st)
def auts (l:List Jj):List QM:=l.map (·.a)
def Zh (c:ZB):Int :=
 if Jt c.ev≠0 then Jt c.ev else if c.co.length=0 then 12 else if 8<c.co.length∨12<c.co.length+c.rq.length then 3 else
 if (Yn c.ev.length (Kp c.ev.length) [] [] c.co).1≠0 then (Yn c.ev.length (Kp c.ev.length) [] [] c.co).1 else
 if JY c.ev.length (Yn c.ev.length (Kp c.ev.length) [] [] c.co).2.2 (Yn c.ev.length (Kp c.ev.length) [] [] c.co).2.1 c.rq≠0 then JY c.ev.length (Yn c.ev.length (Kp c.ev.length) [] [] c.co).2.2 (Yn c.ev.length (Kp c.ev.length) [] [] c.co).2.1 c.rq else
 YD (szs c.co) c.ex c.cs
def KD (t:LI) (x:Exc):Bool:=x.ls.all λl=>decide (t.getD l.1.toNat 0=l.2)
def QkM (t:LI) (k:X5):Int:=k.ts.foldl (λs p=>s+p.2*t.getD p.1.toNat 0) 0
def VE (t:LI) (k:X5):Bool:=decide (k.bd<QkM t k)
def fix {α:Type}(q:α→Bool):Nat→List α→Int
 | _,[]=>-1
 | i,e::l=>if q e=true then (i:Int) else fix q (i+1) l
def vio (c:ZB) (t:LI):Option (Int×Int) :=
 if 0≤fix (KD t) 0 c.ex then some (1,fix (KD t) 0 c.ex) else if 0≤fix (VE t) 0 c.cs then some (2,fix (VE t) 0 c.cs) else none
def rfr (v:Int):Nat→List Jj→LI→Int
 | i,x::l,s::ss=>if v∈x.a.al∧(eget x.a.ed s v).isSome=false then (i:Int) else rfr v (i+1) l ss
 | _,_,_=>-1
structure Rsn where
 st:Int
 kd:Int
 ix:Int
 ev:Int
def rfd (c:ZB) (rs:LI):LI→Option (Int×Int)
 | []=>none
 | v::l=>if 0≤rfr v 0 c.rq rs∧(c.ev.getD v.toNat ⟨.empty,false,false,false,0⟩).co=false then some (rfr v 0 c.rq rs,v) else rfd c rs l
def QdB (a:QM) (s:Int):LI:=(ZF a.ed s).map (·.2.1)
def rsn (c:ZB) (pl:QM) (plc:Int) (i:Nat) (t:LI):Option Rsn :=
 match vio c (t.take c.co.length) with
 | some (k,j)=>some ⟨i,k,j,-1⟩
 | none=>match rfd c (t.drop c.co.length) (QdB pl plc) with
  | some (j,v)=>some ⟨i,3,j,v⟩
  | none=>none
structure Spc where
 a:QM
 co:List (LI)
 rq:List (LI)
 pl:LI
 fb:List Rsn
def plx (ps:List (LI)) (t:LI):Int:=if t∈ps then (ps.idxOf t:Int) else 0
def Qjp (c:ZB) (pl:QM) (ps:List (LI)) (s:Spc) (p:LI×Nat):Spc :=
 ⟨s.a,s.co++[p.1.take c.co.length],s.rq++[p.1.drop c.co.length],s.pl++[plx ps (p.1.take c.co.length)],
  match rsn c pl (plx ps (p.1.take c.co.length)) p.2 p.1 with | some r=>s.fb++[r] | none=>s.fb⟩
def Y4 (c:ZB):Int:=if Zh c≠0 then Zh c else if JB (auts c.co)≠0 then JB (auts c.co) else match sync (auts c.co) with
 | none=>3
 | some _=>if JB (auts c.co++auts c.rq)≠0 then JB (auts c.co++auts c.rq) else match sync (auts c.co++auts c.rq) with
  | none=>3
  | some _=>0
def syA (l:List QM):QM:=match sync l with | none=>⟨[],0,[],[]⟩ | some z=>z.1
def syQ (l:List QM):List (LI):=match sync l with | none=>[] | some z=>z.2
def spc (c:ZB):Spc:=(syQ (auts c.co++auts c.rq)).zipIdx.foldl (Qjp c (syA (auts c.co)) (syQ (auts c.co))) ⟨syA (auts c.co++auts c.rq),[],[],[],[]⟩
end Go.Proofs.YtgmifemhkjdblaaGreatDoor
namespace Go.Lg
section
variable {P:Program} {f:Fr} {w:World} {d:Option Nat} {ty:Nat} {ps:String} {af:Array Edge} {gd:Option (Nat×Bool)}
theorem Qbc {t t':Nat}[h:Bk P t] {x y:Operand}{a b:Bool}(hx:ev f x=.bool a) (hy:ev f y=.bool b) :
  (execOp (ev f) ⟨d,.binOp .neq t x y t',ty,ps,af,gd⟩).run P w=.ok (.value (.bool (!(a == b)))) w:=by
 have hg:(eqGuard .neq t x y (.bool a) (.bool b)).run P w=.ok () w:=by simp[eqGuard]
 simp[execOp,hx,hy,hg,run_neq_bool (P:=P) (w:=w) t a b h.u]
end
inductive Pu where
 | pl (l:List (Nat×Bool))
 | f2 (pre:List (Nat×Bool)) (i j:Nat) (t1 t2:Pu)
 | f3 (pre:List (Nat×Bool)) (i j k:Nat) (t1 t2 t3:Pu)
def Pu.len:Pu→Nat
 | .pl l=>l.length
 | .f2 pre _ _ t1 _=>pre.length+(1+t1.len)
 | .f3 pre _ _ _ t1 _ _=>pre.length+(1+t1.len)
def yy (all:Array Oper):Pu→Array Bool→Bool
 | .pl l,ls=>YB all l ls
 | .f2 pre i j t1 t2,ls=>Y1 all pre ls && Region.ready .any all (Zr pre ls) == [i,j] && t1.len == t2.len && yy all t1 ((Zr pre ls).setIfInBounds i true) && yy all t2 ((Zr pre ls).setIfInBounds j true)
 | .f3 pre i j k t1 t2 t3,ls=>Y1 all pre ls && Region.ready .any all (Zr pre ls) == [i,j,k] && t1.len == t2.len && t1.len == t3.len && yy all t1 ((Zr pre ls).setIfInBounds i true) && yy all t2 ((Zr pre ls).setIfInBounds j true) && yy all t3 ((Zr pre ls).setIfInBounds k true)
def QkT (all:List Oper) (t:Pu):Bool:=Region.noSelect all.toArray && t.len == all.length && yy all.toArray t (Array.replicate all.length false)
def XE (P:Program) (all:List Oper) (C:World→Prop) (i:Nat) (N:Fr→World→Prop) (f:Fr) (w:World):Prop:=ZZ all f (QK all i)=true∧XO P (QK all i) f w λf' w'=>C w'∧N f' w'
def XU (P:Program) (all:List Oper) (C:World→Prop) (K:Fr→World→Prop):Pu→Fr→World→Prop
 | .pl l=>XP P all C K l
 | .f2 pre i j t1 t2=>XP P all C (λf w=>XE P all C i (XU P all C K t1) f w∧XE P all C j (XU P all C K t2) f w) pre
 | .f3 pre i j k t1 t2 t3=>XP P all C (λf w=>XE P all C i (XU P all C K t1) f w∧XE P all C j (XU P all C K t2) f w∧XE P all C k (XU P all C K t3) f w) pre
section
variable {P:Program} {n:Nat} {f:Fr} {w:World} {all:List Oper} {C:World→Prop} {K B:Fr→World→Prop}
theorem Jh (hs:Region.noSelect all.toArray=true):∀(t:Pu) (ls:Array Bool) (f:Fr) (w:World),ls.size=all.length→C w→yy all.toArray t ls=true→XU P all C K t f w→XA P all C K t.len ls f w
 | .pl l,ls,f,w,hsz,hC,hp,h=>Zt hs l ls f w hsz (.inl hC) hp h
 | .f2 pre i j t1 t2,ls,f,w,hsz,hC,hp,h=>by
  simp only[yy,Bool.and_eq_true,beq_iff_eq] at hp
  obtain ⟨⟨⟨⟨hq,hr⟩,hl⟩,h1⟩,h2⟩:=hp
  rw[Pu.len]
  refine ZI (B:=λf w=>XE P all C i (XU P all C K t1) f w∧XE P all C j (XU P all C K t2) f w) hs pre ls f w hC hq (λf hB=>?_) h
  have hsz':∀k,((Zr pre ls).setIfInBounds k true).size=all.length:=λk=>by simp[ZG,hsz]
  rw[Nat.add_comm 1]
  refine YA (λh0=>(by rw[h0] at hr;cases hr)) ?_
  rw[hr]
  intro k hk o ho
  simp only[List.mem_cons,List.not_mem_nil,or_false] at hk
  rcases hk with rfl | rfl
  ·have:=hB.1
   unfold XE at this
   rw[Za ho] at this
   rw[this.1,cond_true]
   exact this.2.mono λv w' hx=>⟨.inr (.inr hx.1),Jh hs t1 _ _ _ (hsz' _) hx.1 h1 hx.2⟩
  ·have:=hB.2
   unfold XE at this
   rw[Za ho] at this
   rw[this.1,cond_true,hl]
   exact this.2.mono λv w' hx=>⟨.inr (.inr hx.1),Jh hs t2 _ _ _ (hsz' _) hx.1 h2 hx.2⟩
 | .f3 pre i j k t1 t2 t3,ls,f,w,hsz,hC,hp,h=>by
  simp only[yy,Bool.and_eq_true,beq_iff_eq] at hp
  obtain ⟨⟨⟨⟨⟨⟨hq,hr⟩,hl⟩,hl3⟩,h1⟩,h2⟩,h3⟩:=hp
  rw[Pu.len]
  refine ZI (B:=λf w=>XE P all C i (XU P all C K t1) f w∧XE P all C j (XU P all C K t2) f w∧XE P all C k (XU P all C K t3) f w) hs pre ls f w hC hq (λf hB=>?_) h
  have hsz':∀k,((Zr pre ls).setIfInBounds k true).size=all.length:=λk=>by simp[ZG,hsz]
  rw[Nat.add_comm 1]
  refine YA (λh0=>(by rw[h0] at hr;cases hr)) ?_
  rw[hr]
  intro q hk o ho
  simp only[List.mem_cons,List.not_mem_nil,or_false] at hk
  rcases hk with rfl | rfl | rfl
  ·have:=hB.1
   unfold XE at this
   rw[Za ho] at this
   rw[this.1,cond_true]
   exact this.2.mono λv w' hx=>⟨.inr (.inr hx.1),Jh hs t1 _ _ _ (hsz' _) hx.1 h1 hx.2⟩
  ·have:=hB.2.1
   unfold XE at this
   rw[Za ho] at this
   rw[this.1,cond_true,hl]
   exact this.2.mono λv w' hx=>⟨.inr (.inr hx.1),Jh hs t2 _ _ _ (hsz' _) hx.1 h2 hx.2⟩
  ·have:=hB.2.2
   unfold XE at this
   rw[Za ho] at this
   rw[this.1,cond_true,hl3]
   exact this.2.mono λv w' hx=>⟨.inr (.inr hx.1),Jh hs t3 _ _ _ (hsz' _) hx.1 h3 hx.2⟩
theorem QiK {Q:Exit→Fr→World→Prop}{id:Nat}(C:World→Prop) (t:Pu) (hm:P.follows .mixedOrders=true) (hn:YW n all=true) (hp:QkT all t=true)
  (hC:C { w with drawn:=w.drawn+1 }) (h:XU P all C (λf w=>Q .normal f w) t f { w with drawn:=w.drawn+1 }):W P n (.region id all.toArray true) Q f w:=by
 simp only[QkT,Bool.and_eq_true,beq_iff_eq] at hp
 obtain ⟨⟨hs,hl⟩,hp⟩:=hp
 refine YF C hm hn ?_
 have h1:=Jh hs t _ _ _ (by simp) hC hp h
 rw[hl] at h1
 exact h1
theorem uP {l:List (Nat×Bool)}(h:XP P all C K l f w):XU P all C K (.pl l) f w:=h
theorem u2 {pre:List (Nat×Bool)}{i j:Nat}{t1 t2:Pu}(h:XP P all C (λf w=>XE P all C i (XU P all C K t1) f w∧XE P all C j (XU P all C K t2) f w) pre f w):XU P all C K (.f2 pre i j t1 t2) f w:=h
theorem u3 {pre:List (Nat×Bool)}{i j k:Nat}{t1 t2 t3:Pu}(h:XP P all C (λf w=>XE P all C i (XU P all C K t1) f w∧XE P all C j (XU P all C K t2) f w∧XE P all C k (XU P all C K t3) f w) pre f w):XU P all C K (.f3 pre i j k t1 t2 t3) f w:=h
theorem ue {i:Nat}{N:Fr→World→Prop}(h:XO P (QK all i) f w λf' w'=>C w'∧N f' w') (hg:ZZ all f (QK all i)=true:=by rfl):XE P all C i N f w:=⟨hg,h⟩
end
attribute [irreducible] XU XE
open Go.RowKit
abbrev fen (ro:Option Nat):Fence:={ Fence.wide with round:=ro }
def coll (ds:LN):List Deferred:=ds.map λD=>{ target:=.collected D,args:=#[] }
structure Ys (n:Nat) (ds:LN) (a:Act) (f:Fr):Prop where
 size:a.tmps.size=n
 defers:a.defers=coll ds
 get:∀t,a.tmps.getD t undef=f t
theorem Ys.rel {n:Nat} {ds:LN} {a:Act} {f:Fr} (h:Ys n ds a f):jk n { a with defers:=[] } f:=⟨h.size,rfl,h.get⟩
theorem Ys.eval {n:Nat}{ds:LN}{a:Act}{f:Fr}(h:Ys n ds a f):a.eval=ev f:=by
 have:=h.rel.eval
 rw[←this];funext x;cases x <;> rfl
theorem Ys.put {n:Nat}{ds:LN}{a:Act}{f:Fr}(h:Ys n ds a f) {dst:Option Nat}(hd:∀d,dst=some d→d<n) (v:Value):Ys n ds (a.put dst v) (QU f dst v):=by
 have:=h.rel.put hd v
 cases dst with
 | none=>exact h
 | some d=>exact ⟨this.size,h.defers,this.get⟩
def Y8:Code→Nat→Bool
 | .region _ ops _,t=>ZK ops.toList t
 | .seq a b,t=>Y8 a t || Y8 b t
 | .cond _ a b,t=>Y8 a t || Y8 b t
 | .block _ a,t=>Y8 a t
 | .loop a,t=>Y8 a t
 | .skip,_ | .exit _,_ | .label _,_ | .goto _,_ | .ret,_ | .rangeFunc ..,_=>false
 | _,_=>true
def wrG (D:List (Nat×Nat)):Code→Bool
 | .region _ ops _=>QbX D ops.toList
 | .seq a b=>wrG D a && wrG D b
 | .cond _ a b=>wrG D a && wrG D b
 | .block _ a=>wrG D a
 | .loop a=>wrG D a
 | .skip | .exit _ | .label _ | .goto _ | .ret | .rangeFunc ..=>true
 | _=>false
theorem XJ {D:List (Nat×Nat)}{t:Nat}(ht:YT D t=false):∀c:Code,wrG D c=true→Y8 c t=false
 | .region _ ops _,h=>zh h ht
 | .seq a b,h=>by simp only[wrG,Bool.and_eq_true] at h;simp[Y8,XJ ht a h.1,XJ ht b h.2]
 | .cond _ a b,h=>by simp only[wrG,Bool.and_eq_true] at h;simp[Y8,XJ ht a h.1,XJ ht b h.2]
 | .block _ a,h=>XJ ht a (by simpa[wrG] using h)
 | .loop a,h=>XJ ht a (by simpa[wrG] using h)
 | .skip,_=>rfl
 | .exit _,_=>rfl
 | .label _,_=>rfl
 | .goto _,_=>rfl
 | .ret,_=>rfl
 | .rangeFunc ..,_=>rfl
 | .scope _,h=>by simp[wrG] at h
 | .refuse _,h=>by simp[wrG] at h
def WG (ro:Option Nat) (m:Nat) (P:Program) (n:Nat) (c:Code) (Q:Exit→LN→Fr→World→Prop) (ds:LN) (f:Fr) (w:World):Prop :=
 ∀a,Ys n ds a f→c.wpIn (fen ro) m P (λe a' w'=>∃ds' f',Ys n ds' a' f'∧(∀t,Y8 c t=false→f' t=f t)∧Q e ds' f' w') a w
def QaZ (K:LN→Fr→World→Prop) (Q:Exit→LN→Fr→World→Prop):Exit→LN→Fr→World→Prop
 | .normal,ds,f,w=>K ds f w
 | e,ds,f,w=>Q e ds f w
def Qli (id:Nat) (Q:Exit→LN→Fr→World→Prop):Exit→LN→Fr→World→Prop
 | .exit i,ds,f,w=>bif Nat.beq i id then Q .normal ds f w else Q (.exit i) ds f w
 | e,ds,f,w=>Q e ds f w
section
variable {ro:Option Nat} {m:Nat} {P:Program} {n:Nat} {Q:Exit→LN→Fr→World→Prop} {ds:LN} {f:Fr} {w:World}
theorem WG.mono {c:Code}{Q':Exit→LN→Fr→World→Prop}(h:WG ro m P n c Q ds f w) (hq:∀e ds f w,Q e ds f w→Q' e ds f w):WG ro m P n c Q' ds f w :=
 λa ha=>wpIn_mono (h a ha) λ_ _ _ ⟨ds',f',h1,h2,h3⟩=>⟨ds',f',h1,h2,hq _ _ _ _ h3⟩
theorem WG.keeps {c:Code}(h:WG ro m P n c Q ds f w):WG ro m P n c (λe ds' f' w'=>(∀t,Y8 c t=false→f' t=f t)∧Q e ds' f' w') ds f w :=
 λa ha=>wpIn_mono (h a ha) λ_ _ _ ⟨ds',f',h1,h2,h3⟩=>⟨ds',f',h1,h2,h2,h3⟩
theorem Z3 (h:Q .normal ds f w):WG ro m P n .skip Q ds f w:=λ_ ha=>wpIn_skip ⟨ds,f,ha,λ_ _=>rfl,h⟩
theorem Jv {i:Nat}(h:Q (.exit i) ds f w):WG ro m P n (.exit i) Q ds f w:=λ_ ha=>wpIn_exit ⟨ds,f,ha,λ_ _=>rfl,h⟩
theorem J4 (h:Q .ret ds f w):WG ro m P n .ret Q ds f w:=λ_ ha=>wpIn_ret ⟨ds,f,ha,λ_ _=>rfl,h⟩
theorem QZ {x y:Code}(h:WG ro m P n x (QaZ (λds f w=>WG ro m P n y Q ds f w) Q) ds f w):WG ro m P n (.seq x y) Q ds f w:=by
 intro a ha
 refine wpIn_seq (wpIn_mono (h a ha) ?_)
 rintro e a' w' ⟨ds',f',h1,h2,h3⟩
 have k1:∀t,Y8 (.seq x y) t=false→f' t=f t:=λt ht=>h2 t (by simp only[Y8,Bool.or_eq_false_iff] at ht;exact ht.1)
 cases e with
 | normal =>
  refine wpIn_mono (h3 a' h1) λ_ _ _ ⟨ds'',f'',g1,g2,g3⟩=>⟨ds'',f'',g1,λt ht=>(g2 t ?_).trans (k1 t ht),g3⟩
  simp only[Y8,Bool.or_eq_false_iff] at ht;exact ht.2
 | exit id=>exact ⟨ds',f',h1,k1,h3⟩
 | goto l=>exact ⟨ds',f',h1,k1,h3⟩
 | ret=>exact ⟨ds',f',h1,k1,h3⟩
 | panic ch=>exact ⟨ds',f',h1,k1,h3⟩
 | outgrown=>exact ⟨ds',f',h1,k1,h3⟩
theorem Qjf {α:Type}{x y:Code}(D:List (Nat×Nat)) (S:α→List (Nat×Value)) (I:α→LN→World→Prop) (hD:wrG D x=true)
  (h1:WG ro m P n x (QaZ (λds' f' w'=>∃z,Yy f' (S z)∧I z ds' w') Q) ds f w)
  (h2:∀z g ds' w',I z ds' w'→WG ro m P n y Q ds' (KE (S z) (mix D f g)) w'):WG ro m P n (.seq x y) Q ds f w:=by
 refine QZ (h1.keeps.mono ?_)
 rintro e ds' f' w' ⟨hk,hq⟩
 cases e with
 | normal =>
  obtain ⟨z,hs,hi⟩:=hq
  have h3:=h2 z f' ds' w' hi
  rw[YO (λt ht=>hk t (XJ ht x hD)),Yc hs] at h3
  exact h3
 | exit id=>exact hq
 | goto l=>exact hq
 | ret=>exact hq
 | panic ch=>exact hq
 | outgrown=>exact hq
theorem J5 {c:Operand}{x y:Code}{t:Bool}(hc:ev f c=.bool t) (ht:t=true→WG ro m P n x Q ds f w) (hf:t=false→WG ro m P n y Q ds f w) :
  WG ro m P n (.cond c x y) Q ds f w:=by
 intro a ha
 have hc':a.eval c=.bool t:=by rw[ha.eval];exact hc
 refine wpIn_cond_split hc' (λe=>wpIn_mono (ht e a ha) ?_) (λe=>wpIn_mono (hf e a ha) ?_) <;>
  (rintro e a' w' ⟨ds',f',h1,h2,h3⟩
   refine ⟨ds',f',h1,λt ht=>h2 t ?_,h3⟩
   simp only[Y8,Bool.or_eq_false_iff] at ht
   first | exact ht.1 | exact ht.2)
theorem Qkl {c:Operand}{x y:Code}{p:Prop}[Decidable p] (hc:ev f c=.bool (decide p)) (ht:p→WG ro m P n x Q ds f w) (hf:¬p→WG ro m P n y Q ds f w) :
  WG ro m P n (.cond c x y) Q ds f w :=
 J5 hc (λe=>ht (of_decide_eq_true e)) (λe=>hf (of_decide_eq_false e))
theorem qM {c:Operand}{x y:Code}{p:Prop}[Decidable p] (hc:ev f c=.bool (decide p)) (hf:¬p→WG ro m P n y Q ds f w) (ht:p→WG ro m P n x Q ds f w) :
  WG ro m P n (.cond c x y) Q ds f w:=Qkl hc ht hf
theorem jg {c:Operand}{x y:Code}(hc:ev f c=.bool true) (h:WG ro m P n x Q ds f w):WG ro m P n (.cond c x y) Q ds f w:=J5 hc (λ_=>h) (λe=>by cases e)
theorem Km {c:Operand}{x y:Code}(hc:ev f c=.bool false) (h:WG ro m P n y Q ds f w):WG ro m P n (.cond c x y) Q ds f w:=J5 hc (λe=>by cases e) (λ_=>h)
theorem ZJ {id:Nat}{c:Code}(h:WG ro m P n c (Qli id Q) ds f w):WG ro m P n (.block id c) Q ds f w:=by
 intro a ha
 refine wpIn_block (wpIn_mono (h a ha) ?_)
 rintro e a' w' ⟨ds',f',h1,h2,h3⟩
 have k1:∀t,Y8 (.block id c) t=false→f' t=f t:=λt ht=>h2 t (by simpa[Y8] using ht)
 cases e with
 | exit i =>
  simp only[Exit.inBlock]
  simp only[Qli] at h3
  by_cases hi:i=id
  ·subst hi
   simp only[Nat.beq_refl,cond_true] at h3
   simp only[if_true]
   exact ⟨ds',f',h1,k1,h3⟩
  ·have hb:Nat.beq i id=false:=by
    cases e:Nat.beq i id with
    | false=>rfl
    | true=>exact absurd (Nat.eq_of_beq_eq_true e) hi
   rw[hb] at h3
   rw[if_neg hi]
   exact ⟨ds',f',h1,k1,h3⟩
 | normal=>exact ⟨ds',f',h1,k1,h3⟩
 | goto l=>exact ⟨ds',f',h1,k1,h3⟩
 | ret=>exact ⟨ds',f',h1,k1,h3⟩
 | panic ch=>exact ⟨ds',f',h1,k1,h3⟩
 | outgrown=>exact ⟨ds',f',h1,k1,h3⟩
end
def jS (l:List Oper):Bool:=l.all λo=>match o.op with | .defer _=>false | _=>true
theorem KK {l:List Oper}(h:jS l=true):∀o∈l,∀c,o.op≠.defer c:=λo ho c e=>by
 have:=List.all_eq_true.1 h o ho
 rw[e] at this;cases this
section
variable {ro:Option Nat} {m:Nat} {P:Program} {n:Nat} {ds:LN}
theorem Qc2 {o:Oper}{a:Act}{f:Fr}{w:World}{K:Fr→World→Prop}{K':Act→World→Prop}{Q:Exit→Act→World→Prop}(h:Ys n ds a f) (hnd:∀c,o.op≠.defer c)
  (hK:∀v w',K (QU f o.dst v) w'→K' (a.put o.dst v) w') (hx:XO P o f w K):o.wpIn (fen ro) m P a w K' Q:=by
 unfold XO at hx
 refine ⟨λ_ _=>trivial,?_⟩
 have e:Oper.semAt (fen ro).round a.eval o=execOp (ev f) o:=by
  rw[h.eval]
  cases ro with
  | none=>rfl
  | some l=>exact Oper.semAt_some l _ _ hnd
 rw[e]
 generalize (execOp (ev f) o).run P w=r at hx
 cases r with
 | ok nx w' =>
  cases nx <;> simp only[upF] at hx <;> simp only[Oper.uponIn]
  case value v=>exact hK v w' hx
  case skip=>exact hK _ w' hx
  case enter g args =>
   refine ⟨λh=>by simp[Fence.wide] at h,?_⟩
   refine (callsIn_wide (n:=m - 1)).2 (Calls.mono hx λe w'' he=>?_)
   cases e with
   | returned v=>exact hK v w'' he
   | panicked c=>exact he.elim
   | outgrown=>exact he.elim
 | halt x w'=>exact hx.elim
theorem KC {l:List Oper}{a:Act}{f:Fr}(h:Ys n ds a f) (hn:∀o∈l,∀d,o.dst=some d→d<n) (o:Oper):Region.wanted o (yielded l.toArray a.tmps)=ZZ l f o:=VD h.rel hn o
theorem Qc4 {Q:Exit→LN→Fr→World→Prop}{all:List Oper}(hn:∀o∈all,∀d,o.dst=some d→d<n) (hd:∀o∈all,∀c,o.op≠.defer c) (f0:Fr) :
  ∀(l:List Oper) (k:Nat) (a:Act) (f:Fr) (w:World),(∀j,l[j]?=all[k+j]?)→Ys n ds a f→(∀t,ZK all t=false→f t=f0 t) →
   XL P all (λf w=>Q .normal ds f w) l f w →
   wpOpsIn (fen ro) m P all.toArray (λe a' w'=>∃ds' f',Ys n ds' a' f'∧(∀t,ZK all t=false→f' t=f0 t)∧Q e ds' f' w') (List.range' k l.length) a w
 | [],_,a,f,w,_,hr,hk,h=>⟨ds,f,hr,hk,by unfold XL at h;exact h⟩
 | o::l,k,a,f,w,hl,hr,hk,h=>by
  have h0:all[k]?=some o:=by simpa using (hl 0).symm
  have hmem:o∈all:=List.mem_of_getElem? h0
  have ih:=λa f w=>Qc4 (Q:=Q) hn hd f0 l (k+1) a f w (λj=>by have:=hl (j+1);simpa[Nat.add_assoc,Nat.add_comm 1 j] using this)
  have next:∀v,(∀t,ZK all t=false→QU f o.dst v t=f0 t):=λv t ht=>(ZN (Xq hmem ht) v).trans (hk t ht)
  simp only[List.length_cons,List.range'_succ,wpOpsIn,List.getElem?_toArray,h0]
  rw[KC hr hn o]
  unfold XL at h
  cases hg:ZZ all f o with
  | false =>
   rw[hg] at h
   exact ⟨λ_ _=>trivial,ih _ _ _ (hr.put (hn o hmem) _) (next _) h⟩
  | true =>
   rw[hg] at h
   exact Qc2 hr (hd o hmem) (λv w' hx=>ih _ _ _ (hr.put (hn o hmem) v) (next v) hx) h
theorem QI {Q:Exit→LN→Fr→World→Prop}{f:Fr}{w:World}{id:Nat}{l:List Oper}(hn:YW n l=true) (hd:jS l=true) (h:XL P l (λf w=>Q .normal ds f w) l f w):WG ro m P n (.region id l.toArray false) Q ds f w:=by
 intro a ha
 refine wpIn_region ?_
 have:=Qc4 (ro:=ro) (m:=m) (YC hn) (KK hd) f l 0 a f w (by simp) ha (λ_ _=>rfl) h
 simpa[List.range_eq_range',Y8] using this
attribute [local semireducible] XA in
theorem Uy {Q:Exit→Act→World→Prop}{all:List Oper}{C:World→Prop}{K:Fr→World→Prop}(hn:∀o∈all,∀d,o.dst=some d→d<n) (hd:∀o∈all,∀c,o.op≠.defer c) (f0:Fr)
  (hQ:∀a f w,Ys n ds a f→(∀t,ZK all t=false→f t=f0 t)→K f w→Q .normal a w) :
  ∀(k:Nat) (ls:Array Bool) (a:Act) (f:Fr) (w:World),Ys n ds a f→(∀t,ZK all t=false→f t=f0 t)→XA P all C K k ls f w→wpAnyIn (fen ro) m P .any all.toArray Q k ls a w
 | 0,_,a,f,w,hr,hk,h=>⟨h.1,hQ a f w hr hk h.2⟩
 | k+1,ls,a,f,w,hr,hk,h=>by
  refine ⟨λh0=>hQ a f w hr hk (h.1 h0),λi hi=>?_⟩
  unfold wpOpIn
  simp only[List.getElem?_toArray]
  cases ho:all[i]? with
  | none =>
   exfalso
   obtain ⟨_,o,hoo,_⟩:=mem_ready.1 hi
   simp[ho] at hoo
  | some o =>
   have hmem:o∈all:=List.mem_of_getElem? ho
   have h1:=h.2 i hi o ho
   have next:∀v,(∀t,ZK all t=false→QU f o.dst v t=f0 t):=λv t ht=>(ZN (Xq hmem ht) v).trans (hk t ht)
   simp only[]
   rw[KC hr hn o]
   cases hg:ZZ all f o with
   | false =>
    rw[hg] at h1
    exact ⟨λ_ _=>trivial,Uy hn hd f0 hQ k _ _ _ _ (hr.put (hn o hmem) _) (next _) h1⟩
   | true =>
    rw[hg] at h1
    exact Qc2 hr (hd o hmem) (λv w' hx=>Uy hn hd f0 hQ k _ _ _ _ (hr.put (hn o hmem) v) (next v) hx.2) h1
theorem jh {Q:Exit→LN→Fr→World→Prop}{f:Fr}{w:World}{all:List Oper}{id:Nat}(C:World→Prop) (pl:List (Nat×Bool)) (hm:P.follows .mixedOrders=true) (hn:YW n all=true) (hd:jS all=true) (hp:yB all pl=true)
  (hC:C { w with drawn:=w.drawn+1 }) (h:XP P all C (λf w=>Q .normal ds f w) pl f { w with drawn:=w.drawn+1 }):WG ro m P n (.region id all.toArray true) Q ds f w:=by
 intro a ha
 simp only[yB,Bool.and_eq_true,beq_iff_eq] at hp
 obtain ⟨⟨hs,hl⟩,hp⟩:=hp
 refine wpIn_region_any hm ?_
 have h1:=Zt hs pl _ _ _ (by simp) (.inl hC) hp h
 rw[hl] at h1
 have h2:=Uy (ro:=ro) (m:=m) (n:=n) (ds:=ds) (Q:=λe a' w'=>∃ds' f',Ys n ds' a' f'∧(∀t,ZK all t=false→f' t=f t)∧Q e ds' f' w') (YC hn) (KK hd) f
  (λa f' w hr hk hq=>⟨ds,f',hr,hk,hq⟩) _ _ a f _ ha (λ_ _=>rfl) h1
 simpa[Y8] using h2
end
section
variable {ro:Option Nat} {m:Nat} {P:Program} {n:Nat} {Q:Exit→LN→Fr→World→Prop} {ds:LN} {f:Fr} {w:World}
theorem Ud {α:Type}{F:Fence}{c:Code}{Q:Exit→Act→World→Prop}{a:Act}{w:World}(J:α→Act→World→Prop) (μ:α→Nat) (z:α) (h₀:J z a w)
  (round:∀x a w,J x a w→c.wpIn F m P (Exit.then (λa' w'=>∃x',μ x'<μ x∧J x' a' w') Q) a w):(Code.loop c).wpIn F m P Q a w:=by
 intro b k cs hro hb hr
 have key:∀j x a w,μ x=j→J x a w →
   ∃e a' w',Q e a' w'∧ArrivesIn (Machine.fenced P F) P (lone (b.atR a (.code c::.inLoop c::k)) cs w) b k cs e a' w':=by
  intro j
  induction j using Nat.strongRecOn with
  | _ j ih =>
   intro x a w hn hJ
   obtain ⟨e,a₁,w₁,hq,harr⟩:=round x a w hJ b (.inLoop c::k) cs hro hb hr
   cases e with
   | normal =>
    obtain ⟨x',hlt,hJ'⟩:=hq
    obtain ⟨e₂,a₂,w₂,hq₂,harr₂⟩:=ih (μ x') (hn ▸ hlt) x' a₁ w₁ rfl hJ'
    exact ⟨e₂,a₂,w₂,hq₂,.of_steps (StepsIn.trans harr (.one (fenced_calm hb hr rfl) stepR_inLoop)) harr₂⟩
   | exit id=>exact ⟨_,a₁,w₁,hq,.pass (x:=.inLoop c) rfl (λ_ _=>.inl (by simp)) harr⟩
   | goto l=>exact ⟨_,a₁,w₁,hq,.pass (x:=.inLoop c) rfl (λ_ _=>.inl (by simp)) harr⟩
   | ret=>exact ⟨_,a₁,w₁,hq,.pass (x:=.inLoop c) rfl (λ_ _=>.inl (by simp)) harr⟩
   | panic ch=>exact ⟨_,a₁,w₁,hq,.pass (x:=.inLoop c) rfl (λ_ _=>.inl (by simp)) harr⟩
   | outgrown=>exact ⟨_,a₁,w₁,hq,.pass (x:=.inLoop c) rfl (λ_ _=>.inl (by simp)) harr⟩
 obtain ⟨e,a',w',hq,harr⟩:=key _ z a w rfl h₀
 exact ⟨e,a',w',hq,.of_steps (.one (fenced_calm hb hr rfl) stepR_loop) harr⟩
theorem KU {α:Type}{c:Code}(D:List (Nat×Nat)) (S:α→List (Nat×Value)) (I:α→LN→World→Prop) (μ:α→Nat) (hD:wrG D c=true) (z:α)
  (h0:Yy f (S z)) (hI:I z ds w)
  (round:∀x g ds' w',I x ds' w'→WG ro m P n c (QaZ (λds'' f' w''=>∃x',μ x'<μ x∧Yy f' (S x')∧I x' ds'' w'') Q) ds' (KE (S x) (mix D f g)) w'):WG ro m P n (.loop c) Q ds f w:=by
 intro a ha
 refine Ud (λ(x:α) a' w'=>∃ds' f',Ys n ds' a' f'∧(∀t,Y8 c t=false→f' t=f t)∧Yy f' (S x)∧I x ds' w') μ z ⟨ds,f,ha,λ_ _=>rfl,h0,hI⟩ ?_
 rintro x a' w' ⟨ds',f',h1,h2,h3,h4⟩
 have h5:=round x f' ds' w' h4
 rw[YO (λt ht=>h2 t (XJ ht c hD)),Yc h3] at h5
 refine wpIn_mono (h5 a' h1) ?_
 rintro e a'' w'' ⟨ds'',f'',g1,g2,g3⟩
 have k1:∀t,Y8 c t=false→f'' t=f t:=λt ht=>(g2 t ht).trans (h2 t ht)
 have k2:∀t,Y8 (.loop c) t=false→f'' t=f t:=λt ht=>k1 t (by simpa[Y8] using ht)
 cases e with
 | normal=>obtain ⟨x',hm,hs,hi⟩:=g3;exact ⟨x',hm,ds'',f'',g1,k1,hs,hi⟩
 | exit id=>exact ⟨ds'',f'',g1,k2,g3⟩
 | goto l=>exact ⟨ds'',f'',g1,k2,g3⟩
 | ret=>exact ⟨ds'',f'',g1,k2,g3⟩
 | panic ch=>exact ⟨ds'',f'',g1,k2,g3⟩
 | outgrown=>exact ⟨ds'',f'',g1,k2,g3⟩
end
def rqG (P:Program) (rs:List ResultVar) (R:Value→World→Prop):Exit→LN→Fr→World→Prop
 | .normal,ds,f,w=>(∀D∈ds,w.heap[D]?=some (.deferred (some [])))∧ds.Nodup∧∃vs,∀w',Step ds w w'→VB P f w' rs vs∧R (tup vs) w'
 | .ret,ds,f,w=>(∀D∈ds,w.heap[D]?=some (.deferred (some [])))∧ds.Nodup∧∃vs,∀w',Step ds w w'→VB P f w' rs vs∧R (tup vs) w'
 | _,_,_,_=>False
theorem Step.putObj (w:World) (D:Nat) (o:Obj):Step [D] w (w.putObj D o):=⟨rfl,rfl,rfl,by simp,λk _ hk=>World.putObj_heap_other (λe=>hk (by simp[e]))⟩
theorem UZ {F:Fence}{m:Nat}{P:Program}{fn:Func}{tmps:Array Value}{R:Ending→World→Prop}:∀(ds:LN) (w:World),(∀D∈ds,w.heap[D]?=some (.deferred (some [])))→ds.Nodup →
  (∀w',Step ds w w'→∃v,(results fn tmps).run P w'=.ok v w'∧R (.returned v) w')→LeavesInM F m P fn tmps R (coll ds) .returning w
 | [],w,_,_,h=>h w (Step.refl _ _)
 | D::ds,w,hD,hn,h=>by
  refine ⟨by simp,.inl ⟨D,_,rfl,run_takeDeferred (hD D List.mem_cons_self),?_⟩⟩
  have hs:=Step.putObj w D (.deferred none)
  have hn':=List.nodup_cons.1 hn
  refine UZ ds _ (λE hE=>?_) hn'.2 (λw' hw'=>h w' ?_)
  ·rw[World.putObj_heap_other (λe=>hn'.1 (by rw[←e];exact hE))]
   exact hD E (List.mem_cons_of_mem _ hE)
  ·exact (hs.mono (λb hb=>by simp at hb;simp[hb])).trans' (hw'.mono (λb hb=>List.mem_cons_of_mem _ hb))
theorem QG.of_G {P:Program}{g:Nat}{fn:Func}{c:Code}{args:LV}{w:World}{R:Value→World→Prop}{n:Nat}{rs:List ResultVar}(m:Nat)
  (hf:P.funcs[g]?=some fn) (hb:fn.body=some c) (hn:fn.ntmps=n) (hrs:fn.results=rs.toArray) (hl:args.length≤n)
  (h:WG none m P n c (rqG P rs R) [] (ent args) w):QG P g args w R:=by
 unfold QG
 refine (callsIn_wide (n:=m)).1 (callsIn_of_wp_marks hf hb trivial (wpIn_mono (h _ ?_) ?_))
 ·refine ⟨by simp[hn];omega,rfl,λt=>?_⟩
  have key:∀(l:LV) (t:Nat),l[t]?.getD undef=ent l t:=by
   intro l
   induction l with
   | nil=>intro t;rfl
   | cons v l ih=>intro t;cases t with | zero=>rfl | succ t=>simpa[ent] using ih t
  rw[←key]
  simp only[Array.getD_eq_getD_getElem?,Array.getElem?_append,List.size_toArray,List.getElem?_toArray]
  by_cases ht:t<args.length
  ·simp[ht]
  ·simp[ht,Array.getElem?_replicate];split <;> rfl
 ·rintro e a' w' ⟨ds',f',h1,_,h3⟩
  have fin:((∀D∈ds',w'.heap[D]?=some (.deferred (some [])))∧ds'.Nodup∧∃vs,∀w'',Step ds' w' w''→VB P f' w'' rs vs∧R (tup vs) w'') →
    LeavesInM Fence.wide m P fn a'.tmps (λe w'=>match e with | .returned v=>R v w' | _=>False) a'.defers .returning w':=by
   rintro ⟨hd,hnd,vs,hv⟩
   rw[h1.defers]
   refine UZ ds' w' hd hnd λw'' hw=>⟨tup vs,?_,(hv w'' hw).2⟩
   simp only[results,hrs,List.mapM_toArray,Sem.run_bind,Sem.run_map]
   rw[XN (a:={ a' with defers:=[] }) h1.rel _ (λ_=>rfl) (λ_ _=>rfl) rs vs (hv w'' hw).1]
   cases vs with
   | nil=>rfl
   | cons v vs=>cases vs with | nil=>rfl | cons u us=>rfl
  cases e with
  | normal=>exact fin h3
  | ret=>exact fin h3
  | exit id=>exact h3.elim
  | goto l=>exact h3.elim
  | panic c=>exact h3.elim
  | outgrown=>exact h3.elim
attribute [irreducible] WG
end Go.Lg
namespace Go.Proofs.YtgmifemhkjdblaaGreatDoor
open Tryz
open Go.Lg
def IxQ {α:Type}(q:α→Bool) (es:List α) (r:Value):Prop:=(r=.int .i64 (-1)∧∀m (hm:m<es.length),q (es[m]'hm)=false)∨∃(i:Nat) (hi:i<es.length),r=.int .i64 i∧q (es[i]'hi)=true∧∀m (hm:m<i),q (es[m]'(by omega))=false
theorem QhY {g:Nat}{fn:Func}[Fu prog g fn] {cap:LV}{q:Ed→Bool}{L:LN}{w:World}{v:Value}{es:List Ed}(h:Uz L w.heap v es)
  (hk:∀(e:Ed) (w1:World),Step [] w w1→QG prog g ([.agg (QC e).toArray]++cap) w1 λr w'=>r=.bool (q e)∧Step [] w1 w') :
  QG prog 155 [v,.func (.func g) #[] cap.toArray] w λr w'=>Step [] w w'∧IxQ q es r:=by
 have hle:=h.le
 refine QG.of_W func155 rfl ntmps155 results155 (by simp) ?_
 refine Qc<|Qf<|Qg<|Qc<|Qb<|x (Qs h rfl)<|Qb<|xe ?_
 refine Qh<|QA (α:=Nat) [(4,5),(8,18)] (λz=>[(8,.int .i64 z)]) (λz w'=>z≤es.length∧Step [] w w'∧∀m (hm:m<es.length),m<z→q (es[m]'hm)=false) (λz=>es.length - z) (by rfl) 0 ⟨rfl,trivial⟩ ⟨Nat.zero_le _,Step.refl _ _,λm _ h0=>absurd h0 (Nat.not_lt_zero m)⟩ ?_
 rintro k g1 w1 ⟨hk1,hs1,hq⟩
 refine Qc<|x (QB rfl rfl)<|xe ?_
 refine Qg<|QD rfl (λh9=>?_) (λh9=>?_)
 ·refine Qz ?_
  refine Qc<|Qf ?_
  exact Qk ⟨[.int .i64 (-1)],⟨rfl,trivial⟩,hs1,.inl ⟨rfl,λm hm=>hq m hm (by omega)⟩⟩
 have hlt:k<es.length:=by omega
 refine Qi<|Qg<|Qh<|Qc<|Qb<|Qf<|Qc<|Qb<|Qb<|Qb<|xie (h.ext hs1) rfl rfl hlt λa14 h14=>x (QJ h14 rfl rfl)<|xl rfl<|xc (first:=[]) (capt:=cap) rfl<|(hk (es[k]'hlt) w1 hs1).mono ?_
 rintro r2 w2 ⟨rfl,hs2⟩
 refine xe ?_
 refine QY rfl (λh16=>?_) (λh16=>?_)
 ·refine Qc<|Qb<|Qf ?_
  exact Qk ⟨[.int .i64 k],⟨rfl,trivial⟩,hs1.trans hs2,.inr ⟨k,hlt,rfl,h16,λm hm=>hq m (by omega) hm⟩⟩
 refine Qi<|Qx<|x (Qy rfl rfl ⟨by omega,by omega⟩)<|Qb<|xe ?_
 refine ⟨k+1,by omega,⟨rfl,trivial⟩,hlt,hs1.trans hs2,λm hm hmk=>?_⟩
 by_cases e:m=k
 ·subst e;exact h16
 ·exact hq m hm (by omega)
theorem QhX {g:Nat}{fn:Func}[Fu prog g fn] {cap:LV}{q:Int→Bool}{L:LN}{w:World}{v:Value}{es:LI}(h:QL L w.heap v es)
  (hk:∀(e:Int) (w1:World),Step [] w w1→QG prog g ([.int .i64 e]++cap) w1 λr w'=>r=.bool (q e)∧Step [] w1 w') :
  QG prog 103 [v,.func (.func g) #[] cap.toArray] w λr w'=>Step [] w w'∧IxQ q es r:=by
 have hle:=h.le
 refine QG.of_W func103 rfl ntmps103 results103 (by simp) ?_
 refine Qc<|Qf<|Qg<|Qc<|Qb<|x (Qs h rfl)<|Qb<|xe ?_
 refine Qh<|QA (α:=Nat) [(4,5),(8,18)] (λz=>[(8,.int .i64 z)]) (λz w'=>z≤es.length∧Step [] w w'∧∀m (hm:m<es.length),m<z→q (es[m]'hm)=false) (λz=>es.length - z) (by rfl) 0 ⟨rfl,trivial⟩ ⟨Nat.zero_le _,Step.refl _ _,λm _ h0=>absurd h0 (Nat.not_lt_zero m)⟩ ?_
 rintro k g1 w1 ⟨hk1,hs1,hq⟩
 refine Qc<|x (QB rfl rfl)<|xe ?_
 refine Qg<|QD rfl (λh9=>?_) (λh9=>?_)
 ·refine Qz ?_
  refine Qc<|Qf ?_
  exact Qk ⟨[.int .i64 (-1)],⟨rfl,trivial⟩,hs1,.inl ⟨rfl,λm hm=>hq m hm (by omega)⟩⟩
 have hlt:k<es.length:=by omega
 refine Qi<|Qg<|Qh<|Qc<|Qb<|Qf<|Qc<|Qb<|Qb<|Qb<|xii (h.ext hs1) rfl rfl hlt λa14 h14=>x (Qw h14 rfl)<|xl rfl<|xc (first:=[]) (capt:=cap) rfl<|(hk (es[k]'hlt) w1 hs1).mono ?_
 rintro r2 w2 ⟨rfl,hs2⟩
 refine xe ?_
 refine QY rfl (λh16=>?_) (λh16=>?_)
 ·refine Qc<|Qb<|Qf ?_
  exact Qk ⟨[.int .i64 k],⟨rfl,trivial⟩,hs1.trans hs2,.inr ⟨k,hlt,rfl,h16,λm hm=>hq m (by omega) hm⟩⟩
 refine Qi<|Qx<|x (Qy rfl rfl ⟨by omega,by omega⟩)<|Qb<|xe ?_
 refine ⟨k+1,by omega,⟨rfl,trivial⟩,hlt,hs1.trans hs2,λm hm hmk=>?_⟩
 by_cases e:m=k
 ·subst e;exact h16
 ·exact hq m hm (by omega)
theorem QcP {g:Nat}{fn:Func}[Fu prog g fn] {cap:LV}{q:Int→Bool}{L:LN}{w:World}{v:Value}{es:LI}(h:QL L w.heap v es)
  (hk:∀(e:Int) (w1:World),Step [] w w1→QG prog g ([.int .i64 e]++cap) w1 λr w'=>r=.bool (q e)∧Step [] w1 w') :
  QG prog 55 [v,.func (.func g) #[] cap.toArray] w λr w'=>r=.bool (es.any q)∧Step [] w w':=by
 refine QG.of_W func55 rfl ntmps55 results55 (by simp) ?_
 refine Qc<|Qf<|Qc<|Qb<|Qb<|xl rfl<|xf<|(QhX h hk).mono ?_
 rintro r1 w1 ⟨hs1,hr⟩
 refine Or.elim hr (λhr=>?_) (λhr=>?_)
 ·obtain ⟨rfl,hq⟩:=hr
  have e:es.any q=false:=by
   rw[List.any_eq_false]
   intro z hz
   obtain ⟨i,hi,rfl⟩:=List.getElem_of_mem hz
   rw[hq i hi];simp
  refine x (ZM rfl rfl)<|Qf ?_
  exact Qk ⟨[.bool false],⟨rfl,trivial⟩,by rw[e];rfl,hs1⟩
 ·obtain ⟨i,hi,rfl,h1,_⟩:=hr
  have e:es.any q=true:=List.any_eq_true.2 ⟨_,List.getElem_mem hi,h1⟩
  have e2:decide ((0:Int)≤(i:Int))=true:=by simp
  refine x (ZM rfl rfl)<|Qf ?_
  exact Qk ⟨[.bool (decide ((0:Int)≤(i:Int)))],⟨rfl,trivial⟩,by rw[e,e2];rfl,hs1⟩
theorem Qhy (es:List Ed) (s v:Int):nxt es s v=nxt (ZF es s) s v:=by
 induction es with
 | nil=>rfl
 | cons e es ih =>
  unfold ZF at *
  rw[List.filter_cons]
  by_cases h:e.1=s
  ·rw[if_pos (by simpa using h),nxt,nxt,ih]
  ·rw[if_neg (by simpa using h),nxt,if_neg (λc=>h c.1),ih]
theorem Qe4:∀(l:List Ed) (s v:Int) (i:Nat) (hi:i<l.length),(∀e∈l,e.1=s)→(l[i]'hi).2.1=v→(∀m (hm:m<i),(l[m]'(by omega)).2.1≠v)→nxt l s v=(l[i]'hi).2.2
 | e::l,s,v,0,_,hs,hv,_=>by rw[nxt,if_pos ⟨hs e List.mem_cons_self,hv⟩];rfl
 | e::l,s,v,i+1,hi,hs,hv,hm=>by
  rw[nxt,if_neg (λc=>hm 0 (by omega) c.2)]
  exact Qe4 l s v i (by simpa using hi) (λe he=>hs e (List.mem_cons_of_mem _ he)) hv (λm hm'=>hm (m+1) (by omega))
theorem Qe0:∀(l:List Ed) (s v:Int),(∀e∈l,e.2.1≠v)→nxt l s v=-1
 | [],_,_,_=>rfl
 | e::l,s,v,h=>by rw[nxt,if_neg (λc=>h e List.mem_cons_self c.2)];exact Qe0 l s v (λe he=>h e (List.mem_cons_of_mem _ he))
theorem Qe6 {b T:Nat}{n:Int}(e:Ed) (w:World) (hB:QS w.heap b T [.int .i64 n]) :
  QG prog 156 ([.agg (QC e).toArray]++[.pointer (some ⟨b,0,none⟩)]) w λr w'=>r=.bool (decide (e.2.1=n))∧Step [] w w':=by
 refine QG.of_W func156 rfl ntmps156 results156 (by simp) ?_
 refine Qc<|xl rfl<|QQ (us:=QC e) rfl λb2 w1 hs1 hb2 hB2=>Qf<|Qc<|x (Qa rfl)<|x (Qd hB2 rfl rfl)<|x (Qd (hB.ext hs1) rfl rfl)<|x (Zn rfl rfl)<|Qf ?_
 exact Qk ⟨[_],⟨rfl,trivial⟩,rfl,hs1⟩
theorem QaF {L:LN}{w:World}{va vm ve:Value}{st:Int}{a:QM}(h:Uz L w.heap ve a.ed) (ho:Q2 a) (s v:Int) (hs0:0≤s) (hs1:s<a.st) :
  QG prog 105 [.agg #[va,.int .i64 st,vm,ve],.int .i64 s,.int .i64 v] w λr w'=>r=.int .i64 (nxt a.ed s v)∧Step [] w w':=by
 have hst:=ho.st1
 refine QG.of_W func105 rfl ntmps105 results105 (by simp) ?_
 refine Qc<|xl rfl<|QQ (us:=[va,.int .i64 st,vm,ve]) rfl λb3 w1 hs1 hb3 hB3=>xl rfl<|QQ (us:=[.int .i64 v]) rfl λb5 w2 hs2 hb5 hB5=>Qf<|Qc<|x (Qn (hB3.ext hs2) rfl rfl)<|Qb<|xl rfl<|xf<|(Qbg ((h.ext hs1).ext hs2) ho.eds (λe he=>⟨(ho.ed e he).1,by have:=(ho.ed e he).2.1;omega⟩) s hs0 (by omega)).mono ?_
 rintro vo w3 ⟨hs3,hE⟩
 refine Qf ?_
 have hall:∀e∈ZF a.ed s,e.1=s:=λe he=>(Yi he).2
 rw[Qhy]
 refine Qc<|Qb<|x (Zk (l:=[]) (l':=[.tmp 5]))<|xl rfl<|xf<|(QhY (q:=λe=>decide (e.2.1=v)) (cap:=[.pointer (some ⟨b5,0,none⟩)]) hE (λe w4 hs4=>Qe6 e w4 ((hB5.ext hs3).ext hs4))).mono ?_
 rintro r4 w4 ⟨hs4,hr⟩
 have hW:=((hs1.trans hs2).trans hs3).trans hs4
 refine Or.elim hr (λhr=>?_) (λhr=>?_)
 ·obtain ⟨rfl,hq⟩:=hr
  have e1:nxt (ZF a.ed s) s v=-1:=Qe0 _ _ _ λe he=>by
   obtain ⟨i,hi,rfl⟩:=List.getElem_of_mem he
   simpa using hq i hi
  rw[e1]
  refine Qf<|Qg<|Qc<|Qb<|x (QB rfl rfl)<|xe ?_
  refine qG rfl ?_
  refine Qc<|Qf ?_
  exact Qk ⟨[.int .i64 (-1)],⟨rfl,trivial⟩,rfl,hW⟩
 ·obtain ⟨i,hi,rfl,h1,h2⟩:=hr
  have e1:nxt (ZF a.ed s) s v=((ZF a.ed s)[i]'hi).2.2:=Qe4 _ s v i hi hall (by simpa using h1) (λm hm=>by simpa using h2 m hm)
  rw[e1]
  refine Qf<|Qg<|Qc<|Qb<|x (QB rfl rfl)<|xe ?_
  refine Q3 rfl (λh16=>absurd h16 (by omega)) (λh16=>?_)
  refine Qi<|Qc<|Qb<|Qb<|xie (hE.ext hs4) rfl rfl hi λa19 h19=>x (Zd rfl)<|x (Qw (h19.fld 2 _ rfl) rfl)<|Qf ?_
  exact Qk ⟨[_],⟨rfl,trivial⟩,rfl,hW⟩
def flw (a:QM):Int→LI→Int×Nat
 | s,[]=>(s,0)
 | s,v::u=>if nxt a.ed s v<0 then (s,0) else ((flw a (nxt a.ed s v) u).1,(flw a (nxt a.ed s v) u).2+1)
theorem Qe1 {a:QM}(ho:Q2 a) {s v:Int}(h:¬nxt a.ed s v<0):nxt a.ed s v<a.st:=(ho.ed _ (yD (by omega))).2.2.2.2
theorem zM {L L':LN}{w:World}{va vm ve vw:Value}{st:Int}{a:QM}{u:LI}(h:Uz L w.heap ve a.ed) (hw:QL L' w.heap vw u) (ho:Q2 a) (s:Int) (hs0:0≤s) (hs1:s<a.st) :
  QG prog 58 [.agg #[va,.int .i64 st,vm,ve],.int .i64 s,vw] w λr w'=>r=.tuple #[.int .i64 (flw a s u).1,.int .i64 (flw a s u).2]∧Step [] w w':=by
 have hle:=hw.le
 refine QG.of_W func58 rfl ntmps58 results58 (by simp) ?_
 refine Qc<|xl rfl<|QQ (us:=[va,.int .i64 st,vm,ve]) rfl λb3 w1 hs1 hb3 hB3=>x Qe<|Qf<|Qg<|Qc<|Qb<|x (Qs hw rfl)<|Qb<|xe ?_
 refine Qh<|QA (α:=Nat×Int) [(1,1),(6,10),(13,27)] (λz=>[(1,.int .i64 z.2),(13,.int .i64 z.1)]) (λz w'=>z.1≤u.length∧0≤z.2∧z.2<a.st∧Step [] w1 w'∧flw a s u=((flw a z.2 (u.drop z.1)).1,(flw a z.2 (u.drop z.1)).2+z.1)) (λz=>u.length - z.1) (by rfl) (0,s) ⟨rfl,rfl,trivial⟩ ⟨Nat.zero_le _,hs0,by assumption,Step.refl _ _,by simp⟩ ?_
 rintro ⟨k,t⟩ g w2 ⟨hk,ht0,ht1,hs2,hf⟩
 simp only[] at hk ht0 ht1 hf
 have hW2:=hs1.trans hs2
 refine Qc<|x (QB rfl rfl)<|xe ?_
 refine Qg<|QD rfl (λh14=>?_) (λh14=>?_)
 ·refine Qz ?_
  refine Qc<|Qb<|Qb<|x (Qs hw rfl)<|x Qe<|Qf ?_
  rw[List.drop_of_length_le (by omega)] at hf
  have hk2:k=u.length:=by have h15:¬(k:Int)<(u.length:Int):=h14;omega
  refine Qk ⟨[.int .i64 t,.int .i64 u.length],⟨rfl,rfl,trivial⟩,?_,hW2⟩
  rw[hf,hk2]
  simp[flw,tup]
 have hlt:k<u.length:=by omega
 rw[Q6 hlt,flw] at hf
 refine Qi<|Qg<|Qh<|Qc<|Qb<|xii (hw.ext hW2) rfl rfl hlt λa16 h16=>x (Qw h16 rfl)<|x Qe<|Qf<|Qc<|x (Qn (hB3.ext hs2) rfl rfl)<|Qb<|Qb<|xl rfl<|xf<|(QaF (h.ext hW2) ho t (u[k]'hlt) ht0 ht1).mono ?_
 rintro r3 w3 ⟨rfl,hs3⟩
 refine Qf<|Qg<|Qc<|Qb<|x (QB rfl rfl)<|xe ?_
 refine Q3 rfl (λh23=>?_) (λh23=>?_)
 ·rw[if_pos h23] at hf
  refine Qc<|Qb<|Qb<|x Qe<|Qf<|Qk ⟨[.int .i64 t,.int .i64 k],⟨rfl,rfl,trivial⟩,?_,hW2.trans hs3⟩
  rw[hf]
  simp[tup]
 rw[if_neg h23] at hf
 have hn:=Qe1 ho h23
 refine Qi<|Qx<|Qb<|Qf<|Qx<|x (Qy rfl rfl ⟨by omega,by omega⟩)<|Qb<|xe ?_
 refine ⟨(k+1,nxt a.ed t (u[k]'hlt)),by simp only[];omega,⟨rfl,rfl,trivial⟩,hlt,by simp only[];omega,hn,hs2.trans hs3,?_⟩
 simp only[]
 rw[hf]
 simp;omega
def rchd (a:QM) (u:LI):Int×Bool:=if a.st=0 then (0,false) else ((flw a 0 u).1,decide (((flw a 0 u).2:Int)=(u.length:Int)))
theorem Qa9 {L L':LN}{w:World}{va vm ve vw:Value}{a:QM}{u:LI}(h:Uz L w.heap ve a.ed) (hw:QL L' w.heap vw u) (ho:Q2 a) :
  QG prog 53 [.agg #[va,.int .i64 a.st,vm,ve],vw] w λr w'=>r=.tuple #[.int .i64 (rchd a u).1,.bool (rchd a u).2]∧Step [] w w':=by
 have h0:=ho.st0
 refine QG.of_W func53 rfl ntmps53 results53 (by simp) ?_
 refine Qc<|xl rfl<|QQ (us:=[va,.int .i64 a.st,vm,ve]) rfl λb2 w1 hs1 hb2 hB2=>x Qe<|Qf<|Qg<|Qc<|x (Qa rfl)<|x (Qd hB2 rfl rfl)<|x (Zn rfl rfl)<|xe ?_
 unfold rchd
 refine Q3 rfl (λh10=>?_) (λh10=>?_)
 ·refine Qc<|x Qe<|Qf ?_
  exact Qk ⟨[.int .i64 0,.bool false],⟨rfl,rfl,trivial⟩,by rw[if_pos h10];rfl,hs1⟩
 rw[if_neg h10]
 refine Qi<|Qc<|x (Qn hB2 rfl rfl)<|Qb<|xl rfl<|xf<|(zM (h.ext hs1) (hw.ext hs1) ho 0 (by omega) (by omega)).mono ?_
 rintro r2 w2 ⟨rfl,hs2⟩
 refine Qb<|x (Qj rfl rfl)<|x (Qj rfl rfl) <|
  x Qe<|Qf<|Qc<|Qb<|Qb<|Qb<|x (Qs hw rfl)<|x (Zn rfl rfl)<|x Qe<|Qf ?_
 exact Qk ⟨[_,_],⟨rfl,rfl,trivial⟩,rfl,hs1.trans hs2⟩
def gens (a:QM) (u:LI):Bool:=if Y2 a≠0 then false else (rchd a u).2
theorem jf {L L':LN}{w:World}{va vm ve vw:Value}{a:QM}{u:LI}(h:Zm L w.heap va vm ve a) (hw:QL L' w.heap vw u) :
  QG prog 15 [.agg #[va,.int .i64 a.st,vm,ve],vw] w λr w'=>r=.tuple #[.bool (gens a u),.int .i64 (Y2 a)]∧Step [] w w':=by
 refine QG.of_W func15 rfl ntmps15 results15 (by simp) ?_
 refine Qc<|xl rfl<|QQ (us:=[va,.int .i64 a.st,vm,ve]) rfl λb2 w1 hs1 hb2 hB2=>x Qe<|Qf<|Qg<|Qc<|x (Qn hB2 rfl rfl)<|xl rfl<|xf<|(YR (h.ext hs1)).mono ?_
 rintro r2 w2 ⟨rfl,hs2⟩
 refine Qf<|Qc<|Qb<|x (Q4 rfl rfl)<|xe ?_
 unfold gens
 refine Q3 rfl (λh12=>?_) (λh12=>?_)
 ·refine Qc<|Qb<|x Qe<|Qf ?_
  exact Qk ⟨[_,_],⟨rfl,rfl,trivial⟩,by rw[if_pos h12];rfl,hs1.trans hs2⟩
 have hc:Y2 a=0:=Decidable.not_not.1 h12
 rw[if_neg h12,hc]
 have hs12:=hs1.trans hs2
 refine Qi<|Qc<|x (Qn (hB2.ext hs2) rfl rfl)<|Qb<|xl rfl<|xf<|(Qa9 (h.ed.ext hs12) (hw.ext hs12) ((Zs a).1 hc)).mono ?_
 rintro r3 w3 ⟨rfl,hs3⟩
 refine Qb<|x (Qj rfl rfl) <|
  x (Qj rfl rfl)<|x Qe<|Qf<|Qc<|Qb<|x Qe<|Qf ?_
 exact Qk ⟨[_,_],⟨rfl,rfl,trivial⟩,rfl,hs12.trans hs3⟩
def cks (a:QM) (s:Int):Int:=if Y2 a≠0 then Y2 a else if s<0∨a.st≤s then 2 else 0
theorem X3 {L:LN}{w:World}{va vm ve:Value}{a:QM}(h:Zm L w.heap va vm ve a) (s:Int) :
  QG prog 54 [.agg #[va,.int .i64 a.st,vm,ve],.int .i64 s] w λr w'=>r=.int .i64 (cks a s)∧Step [] w w':=by
 refine QG.of_W func54 rfl ntmps54 results54 (by simp) ?_
 refine Qc<|xl rfl<|QQ (us:=[va,.int .i64 a.st,vm,ve]) rfl λb2 w1 hs1 hb2 hB2=>Qf<|Qg<|Qc<|x (Qn hB2 rfl rfl)<|xl rfl<|xf<|(YR (h.ext hs1)).mono ?_
 rintro r2 w2 ⟨rfl,hs2⟩
 refine Qf ?_
 unfold cks
 have hs12:=hs1.trans hs2
 refine Qc<|Qb<|x (Q4 rfl rfl)<|xe ?_
 refine Q3 rfl (λh9=>?_) (λh9=>?_)
 ·refine Qc<|Qb<|Qf ?_
  exact Qk ⟨[_],⟨rfl,trivial⟩,by rw[if_pos h9];rfl,hs12⟩
 rw[if_neg h9]
 refine Qi<|Qg<|QW (α:=Unit) [(11,18)] (λz=>[(18,.bool (decide (s<0∨a.st≤s)))]) (λz w'=>w'=w2) (by rfl) ?_ ?_
 ·refine Qx<|Qb<|xb (QB rfl rfl) (λh12=>?_) (λh12=>?_)
  ·refine Qb<|xs rfl<|xs rfl<|xs rfl<|xs rfl<|x (Qp rfl)<|xe ?_
   exact ⟨(),⟨by rw[decide_eq_true (Or.inl h12)];rfl,trivial⟩,rfl⟩
  refine Qb<|Qb<|x (Qa rfl)<|x (Qd (hB2.ext hs2) rfl rfl)<|x (ZM rfl rfl)<|x (Qp rfl)<|xe ?_
  exact ⟨(),⟨by show Value.bool (decide (a.st≤s))=_;simp[h12],trivial⟩,rfl⟩
 rintro z g w3 rfl
 refine Q3 rfl (λh18=>?_) (λh18=>?_)
 ·refine Qc<|Qf ?_
  exact Qk ⟨[_],⟨rfl,trivial⟩,by rw[if_pos h18];rfl,hs12⟩
 refine Qi<|Qc<|Qf ?_
 exact Qk ⟨[_],⟨rfl,trivial⟩,by rw[if_neg h18];rfl,hs12⟩
theorem Qas {a:QM}{s:Int}(h:cks a s=0):Q2 a∧0≤s∧s<a.st:=by
 unfold cks at h
 split at h
 ·rename_i h1;exact absurd h h1
 ·rename_i h1
  split at h
  ·cases h
  ·rename_i h2;exact ⟨(Zs a).1 (Decidable.not_not.1 h1),by omega,by omega⟩
theorem Qho {L:LN}{b T:Nat}{va:Value}{al:LI}{us:LV}(e:Int) (w:World) (hB:QS w.heap b T (va::us)) (hA:QL L w.heap va al) :
  QG prog 56 ([.int .i64 e]++[.pointer (some ⟨b,0,none⟩)]) w λr w'=>r=.bool (decide (e∉al))∧Step [] w w':=by
 refine QG.of_W func56 rfl ntmps56 results56 (by simp) ?_
 refine Qc<|Qf<|Qc<|x (Qa rfl)<|x (Qd hB rfl rfl)<|Qb<|xl rfl<|xf<|(Yl hA e).mono ?_
 rintro r1 w1 ⟨rfl,rfl⟩
 refine x (Zp rfl)<|Qf<|Qk ⟨[_],⟨rfl,trivial⟩,?_,Step.refl _ _⟩
 show Value.bool (!decide (e∈al))=_
 rw[decide_not]
def Qez (a:QM) (s:Int) (u:LI):Int:=if cks a s≠0 then cks a s else if (u.any λe=>decide (e∉a.al))=true then 9 else 0
theorem Qki {L L':LN}{w:World}{va vm ve vw:Value}{a:QM}{u:LI}(h:Zm L w.heap va vm ve a) (hw:QL L' w.heap vw u) (s:Int) :
  QG prog 16 [.agg #[va,.int .i64 a.st,vm,ve],.int .i64 s,vw] w λr w'=>Step [] w w'∧r=if Qez a s u≠0 then .tuple #[.int .i64 0,.int .i64 0,.int .i64 (Qez a s u)] else .tuple #[.int .i64 (flw a s u).1,.int .i64 (flw a s u).2,.int .i64 0]:=by
 refine QG.of_W func16 rfl ntmps16 results16 (by simp) ?_
 refine Qc<|xl rfl<|QQ (us:=[va,.int .i64 a.st,vm,ve]) rfl λb3 w1 hs1 hb3 hB3=>x Qe<|x Qe<|Qf<|Qg<|Qc<|x (Qn hB3 rfl rfl)<|Qb<|xl rfl<|xf<|(X3 (h.ext hs1) s).mono ?_
 rintro r2 w2 ⟨rfl,hs2⟩
 refine Qf ?_
 have hs12:=hs1.trans hs2
 unfold Qez
 refine Qc<|Qb<|x (Q4 rfl rfl)<|xe ?_
 refine Q3 rfl (λh13=>?_) (λh13=>?_)
 ·refine Qc<|Qb<|x Qe<|x Qe<|Qf ?_
  exact Qk ⟨[_,_,_],⟨rfl,rfl,rfl,trivial⟩,hs12,by rw[if_pos h13,if_pos h13];rfl⟩
 have hc:cks a s=0:=Decidable.not_not.1 h13
 obtain ⟨ho,h0,h1⟩:=Qas hc
 rw[if_neg h13]
 refine Qi<|Qg<|Qc<|Qb<|x (Zk (l:=[]) (l':=[.tmp 3]))<|xl rfl<|xf<|(QcP (q:=λe=>decide (e∉a.al)) (cap:=[.pointer (some ⟨b3,0,none⟩)]) (hw.ext hs12) (λe w4 hs4=>Qho e w4 ((hB3.ext hs2).ext hs4) ((h.al.ext hs12).ext hs4))).mono ?_
 rintro r3 w3 ⟨rfl,hs3⟩
 refine xe ?_
 have hs13:=hs12.trans hs3
 refine QY rfl (λh17=>?_) (λh17=>?_)
 ·rw[if_pos h17]
  refine Qc<|x Qe<|x Qe<|Qf ?_
  exact Qk ⟨[_,_,_],⟨rfl,rfl,rfl,trivial⟩,hs13,by rw[if_pos (by decide)];rfl⟩
 rw[if_neg (by rw[h17];simp)]
 refine Qi<|Qc<|x (Qn ((hB3.ext hs2).ext hs3) rfl rfl)<|Qb<|Qb<|xl rfl<|xf<|(zM (h.ed.ext hs13) (hw.ext hs13) ho s h0 h1).mono ?_
 rintro r4 w4 ⟨rfl,hs4⟩
 refine Qb<|x (Qj rfl rfl) <|
  x (Qj rfl rfl)<|x Qe<|Qf<|Qc<|Qb<|Qb<|x Qe<|x Qe<|Qf ?_
 exact Qk ⟨[_,_,_],⟨rfl,rfl,rfl,trivial⟩,hs13.trans hs4,rfl⟩
def enb (a:QM) (s:Int):LI:=(ZF a.ed s).map (·.2.1)
theorem Qf0 {l:List Ed}{k:Nat}(h:k<l.length):(l.take (k+1)).map (·.2.1)=(l.take k).map (·.2.1)++[(l[k]'h).2.1]:=by
 rw[List.take_add_one,List.getElem?_eq_getElem h,List.map_append];rfl
theorem KW {L:LN}{w:World}{va vm ve:Value}{a:QM}(h:Zm L w.heap va vm ve a) (s:Int) :
  QG prog 17 [.agg #[va,.int .i64 a.st,vm,ve],.int .i64 s] w λr w'=>Step [] w w'∧∃v,r=.tuple #[v,.int .i64 (cks a s)]∧(cks a s≠0→v=Zf)∧(cks a s=0→Qt 3 w.heap.size w' v (enb a s)):=by
 refine QG.of_W func17 rfl ntmps17 results17 (by simp) ?_
 refine Qc<|xl rfl<|QQ (us:=[va,.int .i64 a.st,vm,ve]) rfl λb2 w1 hs1 hb2 hB2=>x Qe<|Qf<|Qg<|Qc<|x (Qn hB2 rfl rfl)<|Qb<|xl rfl<|xf<|(X3 (h.ext hs1) s).mono ?_
 rintro r2 w2 ⟨rfl,hs2⟩
 refine Qf ?_
 have hs12:=hs1.trans hs2
 refine Qc<|Qb<|x (Q4 rfl rfl)<|xe ?_
 refine Q3 rfl (λh14=>?_) (λh14=>?_)
 ·refine Qc<|Qb<|x Qe<|Qf ?_
  exact Qk ⟨[Zf,_],⟨rfl,rfl,trivial⟩,hs12,Zf,rfl,λ_=>rfl,λe=>absurd e h14⟩
 have hc:cks a s=0:=Decidable.not_not.1 h14
 obtain ⟨ho,h0,h1⟩:=Qas hc
 have hst:=ho.st1
 rw[hc]
 refine Qi<|Qc<|Qf<|Qg<|Qc<|x (Qn (hB2.ext hs2) rfl rfl)<|Qb<|xl rfl<|xf<|(Qbg (h.ed.ext hs12) ho.eds (λe he=>⟨(ho.ed e he).1,by have:=(ho.ed e he).2.1;omega⟩) s h0 (by omega)).mono ?_
 rintro vo w3 ⟨hs3,hE⟩
 refine x (Qs hE rfl)<|Qb<|xe ?_
 have hW3:=hs12.trans hs3
 have hz3:=hW3.size
 have hlen:=X8 a.ed s
 have hel:=ho.ed_le
 refine Zc (ZF a.ed s) λos hos=>?_
 rw[hos] at hE hlen
 refine Qh<|QA (α:=Nat×Value) [(7,7),(9,9),(20,29)] (λz=>[(7,z.2),(20,.int .i64 z.1)]) (λz w'=>z.1≤os.length∧Step [] w3 w'∧Qt 3 w3.heap.size w' z.2 ((os.take z.1).map (·.2.1))) (λz=>os.length - z.1) (by rfl) (0,nS) ⟨rfl,by rw[hos];rfl,trivial⟩ ⟨Nat.zero_le _,Step.refl _ _,QP _ _ _ _⟩ ?_
 rintro ⟨k,v⟩ g w4 ⟨hk,hs4,ho4⟩
 simp only[] at hk ho4
 have hz4:=hs4.size
 refine Qc<|x (QB rfl rfl)<|xe ?_
 refine Qg<|QD rfl (λh21=>?_) (λh21=>?_)
 ·refine Qz ?_
  refine Qc<|Qb<|x Qe<|Qf ?_
  rw[List.take_of_length_le (by rw[hos] at h21;omega)] at ho4
  refine Qk ⟨[v,_],⟨rfl,rfl,trivial⟩,hW3.trans hs4,v,rfl,λe=>absurd rfl e,λ_=>?_⟩
  unfold enb
  rw[hos];exact Zb ho4 hz3
 have hlt:k<os.length:=by rw[hos] at h21;omega
 refine Qi<|Qg<|Qh<|Qc<|xie (hE.ext hs4) rfl rfl hlt λa22 h22=>x (QJ h22 rfl rfl)<|xl rfl<|Qr (us:=[.int .i64 0,.int .i64 0,.int .i64 0]) rfl λb9 w5 hs5 hb9 hB9=>xl rfl<|Ql (us:=QC (os[k]'hlt)) hB9 rfl rfl rfl rfl ⟨rfl,rfl,rfl,trivial⟩ λw6 hs6 hB96 =>
  xe ?_
 have hs46:Step [] w4 w6:=hs5.then1 hs6 hb9
 have ho6:=Qu ho4 hs46
 refine Qx<|Qb<|x (Qa rfl)<|x (Qd hB96 rfl rfl)<|xl rfl<|QH (us:=[[.int .i64 (os[k]'hlt).2.1]]) rfl rfl (by decide) (by simp) ⟨rfl,rfl,trivial⟩ λb27 w7 hs7 hb27 hB27=>?_
 have ho7:=Qu ho6 hs7
 have hz7:=(hs46.trans hs7).size
 have htl:((os.take k).map (·.2.1)).length≤131072:=by simp;omega
 refine xl rfl<|Q5 (news:=[.int .i64 (os[k]'hlt).2.1]) (L:=[]) ho7 rfl rfl rfl (hB27.at (by simp)) (by simp[Value.oneCell']) (by omega) (by omega) λv8 w8 ho8 hs8 hn8=>Qf ?_
 have hge:=Qq ho4
 refine Qx<|x (Qy rfl rfl ⟨by omega,by omega⟩)<|Qb<|xe ?_
 refine ⟨(k+1,v8),by simp only[];omega,⟨rfl,rfl,trivial⟩,hlt,((hs4.trans hs46).trans hs7).then hs8 (λb hb=>.inr (hge b hb).1),?_⟩
 simp only[]
 rw[Qf0 hlt]
 exact Qt.snoc ho8
def Qbz:List QM→LI→Int
 | a::l,t::ts=>if t<0∨a.st≤t then 2 else Qbz l ts
 | _,_=>0
def ckT (l:List QM) (t:LI):Int:=if JB l≠0 then JB l else if t.length≠l.length then 4 else Qbz l t
theorem q7 {L L':LN}{w:World}{v vt:Value}{ps:List AV}{ts:LI}(h:YG L w.heap v ps) (ht:QL L' w.heap vt ts) :
  QG prog 109 [v,vt] w λr w'=>r=.int .i64 (ckT (ps.map (·.a)) ts)∧Step [] w w':=by
 have hle:=YG.le h
 have hle2:=ht.le
 refine QG.of_W func109 rfl ntmps109 results109 (by simp) ?_
 refine Qc<|Qf<|Qg<|Qc<|Qb<|xl rfl<|xf<|(zx h).mono ?_
 rintro r1 w1 ⟨rfl,hs1⟩
 refine Qf ?_
 unfold ckT
 refine Qc<|Qb<|x (Q4 rfl rfl)<|xe ?_
 refine Q3 rfl (λh11=>?_) (λh11=>?_)
 ·refine Qc<|Qb<|Qf ?_
  exact Qk ⟨[_],⟨rfl,trivial⟩,by rw[if_pos h11];rfl,hs1⟩
 rw[if_neg h11]
 refine Qi<|Qg<|Qc<|Qb<|x (Qs ht rfl)<|Qb<|x (Qs h.arr rfl)<|x (Q4 rfl rfl)<|xe ?_
 refine Q3 rfl (λh17=>?_) (λh17=>?_)
 ·refine Qc<|Qf ?_
  exact Qk ⟨[_],⟨rfl,trivial⟩,by rw[if_pos (by rw[List.length_map];omega)];rfl,hs1⟩
 have hl:ts.length=ps.length:=by omega
 rw[if_neg (by rw[List.length_map];omega)]
 refine Qi<|Qg<|Qc<|Qb<|x (Qs h.arr rfl)<|Qb<|xe ?_
 refine Qh<|QA (α:=Nat) [(4,4),(6,7),(20,39)] (λz=>[(20,.int .i64 z)]) (λz w'=>z≤ps.length∧Step [] w1 w'∧Qbz (ps.map (·.a)) ts=Qbz ((ps.drop z).map (·.a)) (ts.drop z)) (λz=>ps.length - z) (by rfl) 0 ⟨rfl,trivial⟩ ⟨Nat.zero_le _,Step.refl _ _,rfl⟩ ?_
 rintro k g w2 ⟨hk,hs2,hr⟩
 have hW2:=hs1.trans hs2
 refine Qc<|x (QB rfl rfl)<|xe ?_
 refine Qg<|QD rfl (λh21=>?_) (λh21=>?_)
 ·refine Qz ?_
  refine Qc<|Qf<|Qk ⟨[_],⟨rfl,trivial⟩,?_,hW2⟩
  rw[hr,List.drop_of_length_le (by omega)];rfl
 have hlt:k<ps.length:=by omega
 have hlt':k<ts.length:=by omega
 rw[Q6 hlt,Q6 hlt',List.map_cons,Qbz] at hr
 have hA:=h.each _ (List.getElem_mem hlt)
 refine Zc (ps[k]'hlt) λpk hpk=>?_
 rw[hpk] at hA hr
 refine Qi<|Qg<|Qh<|Qc<|Qb<|xig X4 (h.arr.ext hW2) rfl rfl hlt λa23 h23=>?_
 rw[hpk] at h23
 refine x (QJ h23 rfl rfl)<|xl rfl<|Qr (us:=[nS,.int .i64 0,nS,nS]) rfl λb7 w3 hs3 hb7 hB7=>x Qe <|
  xl rfl<|Ql (us:=Q7 pk) hB7 rfl rfl rfl rfl ⟨hA.al.one,rfl,hA.mr.one,hA.ed.one,trivial⟩ λw4 hs4 hB74=>xe ?_
 have hs24:Step [] w2 w4:=hs3.then1 hs4 hb7
 have hW4:=hW2.trans hs24
 refine Zc (ts[k]'hlt') λtk htk=>?_
 rw[htk] at hr
 refine QW (α:=Unit) [(25,38)] (λz=>[(38,.bool (decide (tk<0∨pk.a.st≤tk)))]) (λz w'=>Step [] w4 w') (by rfl) ?_ ?_
 ·refine QT (Step [] w4) [(0,true),(1,true),(2,true),(3,true),(4,true),(5,true),(6,true),(7,true),(8,true),(9,true),(10,true),(11,true),(12,true),(13,true)] mixed (by rfl) (by kernel_rfl) (Step.drew _ _) ?_
  refine p (λ_=>Qo)<|p (λ_=>Qo)<|pii rfl (ht.ext hW4) rfl rfl hlt' λa27 h27=>?_
  rw[htk] at h27
  refine pq (λ_ hc=>Qw (h27.ext hc) rfl) <|
   pb (λ_=>QB rfl rfl) (λh29=>?_) (λh29=>?_)
  ·refine p (λ_=>Qo)<|Lg.ps<|Lg.ps<|Lg.ps<|Lg.ps<|Lg.ps<|Lg.ps<|Lg.ps<|p (λ_=>Qp rfl)<|pe ?_
   exact ⟨(),⟨by rw[decide_eq_true (Or.inl h29)];rfl,trivial⟩,Step.drew _ _⟩
  refine p (λ_=>Qo)<|p (λ_=>Qo)<|p (λ_=>Qo)<|pii rfl (ht.ext hW4) rfl rfl hlt' λa33 h33=>?_
  rw[htk] at h33
  refine pq (λ_ hc=>Qw (h33.ext hc) rfl) <|
   p (λ_=>Qa rfl)<|pq (λ_ hc=>Qd (hB74.ext hc) rfl rfl)<|p (λ_=>ZM rfl rfl)<|p (λ_=>Qp rfl)<|pe ?_
  exact ⟨(),⟨by show Value.bool (decide (pk.a.st≤tk))=_;simp[h29],trivial⟩,Step.drew _ _⟩
 rintro z g w5 hs5
 refine Q3 rfl (λh38=>?_) (λh38=>?_)
 ·refine Qc<|Qf ?_
  exact Qk ⟨[_],⟨rfl,trivial⟩,by rw[hr,if_pos h38];rfl,hW4.trans hs5⟩
 refine Qi<|Qx<|x (Qy rfl rfl ⟨by omega,by omega⟩)<|Qb<|xe ?_
 exact ⟨k+1,by omega,⟨rfl,trivial⟩,hlt,(hs2.trans hs24).trans hs5,by rw[hr,if_neg h38]⟩
theorem Qgf {l:List QM}(h:JB l=0):l.length≤12∧∀a∈l,Q2 a:=by
 unfold JB at h
 split at h
 ·cases h
 ·rename_i h1;exact ⟨by omega,(Vv l).1 h⟩
theorem zT:∀{l:List QM}{t:LI},t.length=l.length→(Qbz l t=0↔Vt l t)
 | [],t,hl=>by
  have:t=[]:=List.eq_nil_of_length_eq_zero hl
  subst this
  exact ⟨λ_=>⟨rfl,λi h=>by simp at h⟩,λ_=>rfl⟩
 | a::l,[],hl=>by simp at hl
 | a::l,t::ts,hl=>by
  rw[Qbz]
  have ih:=zT (l:=l) (t:=ts) (by simpa using hl)
  constructor
  ·intro h
   split at h
   ·cases h
   ·rename_i h1
    exact Vt.cons (by omega) (by omega) (ih.1 h)
  ·intro h
   have h0:=h.2 0 (by simp) (by simp)
   simp only[List.getElem_cons_zero] at h0
   rw[if_neg (by omega),ih]
   exact ⟨by simpa using hl,λi h2 h3=>h.2 (i+1) (by simpa using h2) (by simpa using h3)⟩
theorem Qat {l:List QM}{t:LI}(h:ckT l t=0):l.length≤12∧(∀a∈l,Q2 a)∧Vt l t:=by
 unfold ckT at h
 split at h
 ·rename_i h1;exact absurd h h1
 ·rename_i h1
  split at h
  ·cases h
  ·rename_i h2
   obtain ⟨h3,h4⟩:=Qgf (Decidable.not_not.1 h1)
   exact ⟨h3,h4,(zT (by omega)).1 h⟩
def ckV (l:List QM) (t:LI) (v:Int):Int:=if ckT l t≠0 then ckT l t else if v∉evs l then 9 else 0
theorem q8 {L L':LN}{w:World}{v vt:Value}{ps:List AV}{ts:LI}(h:YG L w.heap v ps) (ht:QL L' w.heap vt ts) (e:Int) :
  QG prog 61 [v,vt,.int .i64 e] w λr w'=>r=.int .i64 (ckV (ps.map (·.a)) ts e)∧Step [] w w':=by
 refine QG.of_W func61 rfl ntmps61 results61 (by simp) ?_
 refine Qc<|Qf<|Qg<|Qc<|Qb<|Qb<|xl rfl<|xf<|(q7 h ht).mono ?_
 rintro r1 w1 ⟨rfl,hs1⟩
 refine Qf ?_
 unfold ckV
 refine Qc<|Qb<|x (Q4 rfl rfl)<|xe ?_
 refine Q3 rfl (λh12=>?_) (λh12=>?_)
 ·refine Qc<|Qb<|Qf ?_
  exact Qk ⟨[_],⟨rfl,trivial⟩,by rw[if_pos h12];rfl,hs1⟩
 rw[if_neg h12]
 obtain ⟨h1,h2,h3⟩:=Qat (Decidable.not_not.1 h12)
 rw[List.length_map] at h1
 have hev:(evs (ps.map (·.a))).length≤1099511627776:=by have:=Uv (ps.map (·.a)) (λa ha=>(h2 a ha).al_le);rw[List.length_map] at this;omega
 refine Qi<|Qg<|Qc<|Qb<|xl rfl<|xf<|(zQ (h.ext hs1) h1 (λp hp=>(h2 p.a (List.mem_map_of_mem hp)).al_le)).mono ?_
 rintro r2 w2 ⟨hs2,ho2⟩
 refine Qb<|xl rfl<|xf<|(Yx (Qt.ints (L:=[]) ho2 hev (by simp)) (yY h2) e).mono ?_
 rintro r3 w3 ⟨rfl,rfl⟩
 refine x (Zp rfl)<|xe ?_
 have hs12:=hs1.trans hs2
 refine QY rfl (λh18=>?_) (λh18=>?_)
 ·have hn:e∉evs (ps.map (·.a)):=by simpa using h18
  refine Qc<|Qf ?_
  exact Qk ⟨[_],⟨rfl,trivial⟩,by rw[if_pos hn];rfl,hs12⟩
 have hn:¬e∉evs (ps.map (·.a)):=by simpa using h18
 refine Qi<|Qc<|Qf ?_
 exact Qk ⟨[_],⟨rfl,trivial⟩,by rw[if_neg hn];rfl,hs12⟩
def goT (aa:List QM):LI→LI→Option (LI)
 | t,[]=>some t
 | t,v::u=>if v∉evs aa then none else match Zu v aa t with | none=>none | some t'=>goT aa t' u
theorem QfA {aa:List QM}{A:QM}{Q:List (LI)}(h:SyP aa A Q):∀(u:LI) (j:Nat),j<Q.length →
  (∃j':Nat,j'<Q.length∧flw A j u=((j':Int),u.length)∧goT aa (Q.getD j []) u=some (Q.getD j' []))∨((flw A j u).2<u.length∧goT aa (Q.getD j []) u=none)
 | [],j,hj=>.inl ⟨j,hj,rfl,rfl⟩
 | v::u,j,hj=>by
  have hs:=h.step hj v
  by_cases hv:v∈evs aa
  ·rw[if_pos hv] at hs
   cases ht:Zu v aa (Q.getD j []) with
   | none =>
    rw[ht] at hs
    have hn:nxt A.ed j v=-1:=by rw[Va,hs];rfl
    right
    rw[flw,if_pos (by rw[hn];decide),goT,if_neg (λe=>e hv),ht]
    exact ⟨by simp,rfl⟩
   | some t' =>
    obtain ⟨h1,h2⟩:=h.to hj hv ht
    rw[ht] at hs
    have hn:nxt A.ed j v=(Q.idxOf t':Int):=by rw[Va,hs];rfl
    rw[flw,hn,if_neg (by omega),goT,if_neg (λe=>e hv),ht]
    rcases QfA h u (Q.idxOf t') h1 with ⟨j',k1,k2,k3⟩ | ⟨k1,k2⟩
    ·left
     refine ⟨j',k1,?_,?_⟩
     ·rw[k2];simp
     ·rw[h2] at k3;exact k3
    ·right
     rw[h2] at k2
     exact ⟨by simp;omega,k2⟩
  ·rw[if_neg hv] at hs
   have hn:nxt A.ed j v=-1:=by rw[Va,hs]
   right
   rw[flw,if_pos (by rw[hn];decide),goT,if_pos hv]
   exact ⟨by simp,rfl⟩
theorem Qh3 {A:QM}(ho:Q2 A) {aa:List QM}{Q:List (LI)}(h:SyP aa A Q) {u:LI}(hg:gens A u=true):∃j:Nat,j<Q.length∧flw A 0 u=((j:Int),u.length)∧goT aa (Q.getD 0 []) u=some (Q.getD j []):=by
 unfold gens at hg
 rw[if_neg (by simpa using (Zs A).2 ho)] at hg
 unfold rchd at hg
 split at hg
 ·cases hg
 ·rename_i hz
  have hst:=h.st
  have h0:0<Q.length:=by omega
  rcases QfA h u 0 h0 with ⟨j,k1,k2,k3⟩ | ⟨k1,_⟩
  ·exact ⟨j,k1,k2,k3⟩
  ·simp only[decide_eq_true_eq] at hg
   have:((0:Nat):Int)=0:=rfl
   rw[this] at k1
   omega
theorem QfH {a:QM}(ho:Q2 a):∀(u:LI) (s:Int),(flw a s u).2=u.length→∀e∈u,e∈a.al
 | [],_,_,e,he=>by cases he
 | v::u,s,h,e,he=>by
  rw[flw] at h
  split at h
  ·simp at h
  ·rename_i hn
   rcases List.mem_cons.1 he with rfl | he
   ·exact (ho.ed _ (yD (show 0≤nxt a.ed s e by omega))).2.2.1
   ·exact QfH ho u _ (by simpa using h) e he
theorem yu {L:LN}{w:World}{v:Value}{l:LI}(h:QL L w.heap v l) (n:Int) :
  QG prog 116 [v,.int .i64 n] w λr w'=>r=.int .i64 (YK n none l)∧w'=w:=by
 have hle:=h.le
 refine QG.of_W func116 rfl ntmps116 results116 (by simp) ?_
 refine Qc<|Qf<|Qg<|Qc<|Qb<|x (Qs h rfl)<|Qb<|xe ?_
 refine Qh<|QA (α:=Nat) [(4,6),(9,34)] (λk=>[(9,.int .i64 k)]) (λk w'=>w'=w∧k≤l.length∧YK n (pv l k) (l.drop k)=YK n none l) (λk=>l.length - k) (by rfl) 0 ⟨rfl,trivial⟩ ⟨rfl,Nat.zero_le _,rfl⟩ ?_
 rintro k g w1 ⟨rfl,hk,hm⟩
 refine Qc<|x (QB rfl rfl)<|xe ?_
 refine Qg<|QD rfl (λh10=>?_) (λh10=>?_)
 ·refine Qz ?_
  refine Qc<|Qf<|Qk ⟨[.int .i64 0],⟨rfl,trivial⟩,?_,rfl⟩
  rw[←hm,List.drop_of_length_le (by omega)];rfl
 have hlt:k<l.length:=by omega
 have hd:=Q6 hlt
 rw[hd,YK] at hm
 refine Qi<|Qg<|Qh<|Qc<|Qb<|xii h rfl rfl hlt λa12 h12=>x (Qw h12 rfl)<|x Qe<|Qf<|Qh<|QW (α:=Bool) [(14,21)] (λz=>[(14,.bool z)]) (λz w'=>w'=w1∧z=decide (l[k]<0∨n≤l[k])) (by rfl) ?_ ?_
 ·refine Qx<|Qb<|xb (QB rfl rfl) (λh16=>?_) (λh16=>?_)
  ·refine Qb<|xs rfl<|xs rfl<|xs rfl<|x (Qp rfl)<|Qf ?_
   exact ⟨true,⟨rfl,trivial⟩,rfl,by simp[h16]⟩
  refine Qb<|Qb<|Qb<|x (ZM rfl rfl)<|x (Qp rfl)<|Qf ?_
  exact ⟨_,⟨rfl,trivial⟩,rfl,by simp[h16]⟩
 rintro z g w2 ⟨rfl,rfl⟩
 refine Q3 rfl (λh14=>?_) (λh14=>?_)
 ·refine Qc<|Qf<|Qk ⟨[.int .i64 2],⟨rfl,trivial⟩,?_,rfl⟩
  rw[←hm,if_pos h14];rfl
 rw[if_neg h14] at hm
 refine QW (α:=Bool) [(22,33)] (λz=>[(22,.bool z)]) (λz w'=>w'=w2∧z=yL (pv l k) l[k]) (by rfl) ?_ ?_
 ·refine Qx<|Qb<|xb (ZL rfl rfl) (λh24=>?_) (λh24=>?_)
  ·have hk1:((k:Int) - 1)=((k - 1:Nat):Int):=by omega
   refine Qb<|Qb<|Qb<|Qb<|x (X6 rfl rfl ⟨by omega,by omega⟩)<|xii (i:=k - 1) h rfl (by show Value.int _ ((k:Int) - 1)=_;rw[hk1]) (by omega) λa30 h30=>x (Qw h30 rfl)<|x (Jy rfl rfl)<|x (Qp rfl)<|Qf<|⟨_,⟨rfl,trivial⟩,rfl,?_⟩
   have:pv l k=some l[k - 1]:=by
    have h0:k≠0:=by omega
    simp[pv,h0,show k - 1<l.length by omega]
   rw[this];rfl
  refine Qb<|xs rfl<|xs rfl<|xs rfl<|xs rfl<|xs rfl<|xs rfl<|xs rfl<|x (Qp rfl)<|Qf ?_
  have h0:k=0:=by omega
  exact ⟨false,⟨rfl,trivial⟩,rfl,by simp[pv,h0,yL]⟩
 rintro z g w3 ⟨rfl,rfl⟩
 refine QY rfl (λh22=>?_) (λh22=>?_)
 ·refine Qc<|Qf<|Qk ⟨[.int .i64 5],⟨rfl,trivial⟩,?_,rfl⟩
  rw[←hm,if_pos h22];rfl
 rw[if_neg (by simp[h22])] at hm
 refine Qi<|Qx<|x (Qy rfl rfl ⟨by omega,by omega⟩)<|Qb<|xe ?_
 exact ⟨k+1,by omega,⟨rfl,trivial⟩,rfl,by omega,by rw[Jm hlt];exact hm⟩
theorem J7 {L:LN}{w:World}{v:Value}{l:LI}(h:QL L w.heap v l) (n:Int) :
  QG prog 162 [v,.int .i64 n] w λr w'=>r=.int .i64 (YK n none l)∧w'=w:=by
 have hle:=h.le
 refine QG.of_W func162 rfl ntmps162 results162 (by simp) ?_
 refine Qc<|Qf<|Qg<|Qc<|Qb<|x (Qs h rfl)<|Qb<|xe ?_
 refine Qh<|QA (α:=Nat) [(4,6),(9,32)] (λk=>[(9,.int .i64 k)]) (λk w'=>w'=w∧k≤l.length∧YK n (pv l k) (l.drop k)=YK n none l) (λk=>l.length - k) (by rfl) 0 ⟨rfl,trivial⟩ ⟨rfl,Nat.zero_le _,rfl⟩ ?_
 rintro k g w1 ⟨rfl,hk,hm⟩
 refine Qc<|x (QB rfl rfl)<|xe ?_
 refine Qg<|QD rfl (λh10=>?_) (λh10=>?_)
 ·refine Qz ?_
  refine Qc<|Qf<|Qk ⟨[.int .i64 0],⟨rfl,trivial⟩,?_,rfl⟩
  rw[←hm,List.drop_of_length_le (by omega)];rfl
 have hlt:k<l.length:=by omega
 have hd:=Q6 hlt
 rw[hd,YK] at hm
 refine Qi<|Qg<|Qh<|Qc<|Qb<|xii h rfl rfl hlt λa12 h12=>x (Qw h12 rfl)<|x Qe<|Qf<|Qg<|QW (α:=Bool) [(14,20)] (λz=>[(20,.bool z)]) (λz w'=>w'=w1∧z=decide (l[k]<0∨n≤l[k])) (by rfl) ?_ ?_
 ·refine Qx<|Qb<|xb (QB rfl rfl) (λh16=>?_) (λh16=>?_)
  ·refine Qb<|xs rfl<|xs rfl<|xs rfl<|x (Qp rfl)<|xe ?_
   exact ⟨true,⟨rfl,trivial⟩,rfl,by simp[h16]⟩
  refine Qb<|Qb<|Qb<|x (ZM rfl rfl)<|x (Qp rfl)<|xe ?_
  exact ⟨_,⟨rfl,trivial⟩,rfl,by simp[h16]⟩
 rintro z g w2 ⟨rfl,rfl⟩
 refine Q3 rfl (λh14=>?_) (λh14=>?_)
 ·refine Qc<|Qf<|Qk ⟨[.int .i64 2],⟨rfl,trivial⟩,?_,rfl⟩
  rw[←hm,if_pos h14];rfl
 rw[if_neg h14] at hm
 refine Qi<|QW (α:=Bool) [(21,31)] (λz=>[(31,.bool z)]) (λz w'=>w'=w2∧z=yL (pv l k) l[k]) (by rfl) ?_ ?_
 ·refine Qx<|Qb<|xb (ZL rfl rfl) (λh24=>?_) (λh24=>?_)
  ·have hk1:((k:Int) - 1)=((k - 1:Nat):Int):=by omega
   refine Qb<|Qb<|Qb<|Qb<|x (X6 rfl rfl ⟨by omega,by omega⟩)<|xii (i:=k - 1) h rfl (by show Value.int _ ((k:Int) - 1)=_;rw[hk1]) (by omega) λa30 h30=>x (Qw h30 rfl)<|x (Jy rfl rfl)<|x (Qp rfl)<|xe ?_
   refine ⟨_,⟨rfl,trivial⟩,rfl,?_⟩
   have:pv l k=some l[k - 1]:=by
    have h0:k≠0:=by omega
    simp[pv,h0,show k - 1<l.length by omega]
   rw[this];rfl
  refine Qb<|xs rfl<|xs rfl<|xs rfl<|xs rfl<|xs rfl<|xs rfl<|xs rfl<|x (Qp rfl)<|xe ?_
  have h0:k=0:=by omega
  exact ⟨false,⟨rfl,trivial⟩,rfl,by simp[pv,h0,yL]⟩
 rintro z g w3 ⟨rfl,rfl⟩
 refine QY rfl (λh22=>?_) (λh22=>?_)
 ·refine Qc<|Qf<|Qk ⟨[.int .i64 5],⟨rfl,trivial⟩,?_,rfl⟩
  rw[←hm,if_pos h22];rfl
 rw[if_neg (by simp[h22])] at hm
 refine Qi<|Qx<|x (Qy rfl rfl ⟨by omega,by omega⟩)<|Qb<|xe ?_
 exact ⟨k+1,by omega,⟨rfl,trivial⟩,rfl,by omega,by rw[Jm hlt];exact hm⟩
theorem qt {L:LN}{w:World}{va vm ve v:Value}{a:QM}{l:LI}(h:QL L w.heap v l) :
  QG prog 68 [.agg #[va,.int .i64 a.st,vm,ve],v] w λr w'=>r=.int .i64 (YK a.st none l)∧Step [] w w':=by
 refine QG.of_W func68 rfl ntmps68 results68 (by simp) ?_
 refine Qc<|xl rfl<|QQ (us:=[va,.int .i64 a.st,vm,ve]) rfl λb2 w1 hs1 hb2 hB2=>Qf<|Qc<|Qb<|x (Qa rfl)<|x (Qd hB2 rfl rfl)<|xl rfl<|xf<|(yu (h.ext hs1) a.st).mono ?_
 rintro r2 w2 ⟨rfl,rfl⟩
 refine Qf ?_
 exact Qk ⟨[.int .i64 (YK a.st none l)],⟨rfl,trivial⟩,rfl,hs1⟩
def flg (n:Nat) (l:LI):List Bool:=(List.range n).map λi:Nat=>decide ((i:Int)∈l)
theorem Ut (n:Nat) (l:LI):(flg n l).length=n:=by simp[flg]
theorem yS {n:Nat}{l:LI}{i:Nat}(h:i<(flg n l).length):(flg n l)[i]'h=decide ((i:Int)∈l):=by simp[flg]
theorem yR {n:Nat}{l:LI}{x:Int}(h0:0≤x):(flg n l).set x.toNat true=flg n (l++[x]):=by
 apply List.ext_getElem
 ·simp[flg]
 ·intro i h2 h3
  rw[List.getElem_set,yS h3]
  by_cases e:x.toNat=i
  ·have:(i:Int)=x:=by omega
   rw[if_pos e,this];simp
  ·have:(i:Int)≠x:=by omega
   rw[if_neg e,yS]
   simp[this]
theorem Qah {L:LN}{w:World}{va vm ve v:Value}{a:QM}{l:LI}{n:Nat}(h:QL L w.heap v l) (hn:a.st=(n:Int)) (hst1:a.st≤4096) (hl:∀s∈l,0≤s∧s<a.st) :
  QG prog 112 [.agg #[va,.int .i64 a.st,vm,ve],v] w λr w'=>Step [] w w'∧∃b,r=.slice (some ⟨b,0,none⟩) n n∧w.heap.size≤b∧QS w'.heap b 4 ((flg n l).map Value.bool):=by
 have hle:=h.le
 refine QG.of_W func112 rfl ntmps112 results112 (by simp) ?_
 refine Qc<|xl rfl<|QQ (us:=[va,.int .i64 a.st,vm,ve]) rfl λb2 w1 hs1 hb2 hB2=>Qf<|Qc<|x (Qa rfl)<|x (Qd hB2 rfl rfl)<|xl rfl<|Xa (n:=n) (congrArg (Value.int .i64) hn) (congrArg (Value.int .i64) hn) (by omega) λb10 w2 hs2 hb10 hB10=>Qf ?_
 have hs12:=hs1.trans hs2
 have hB0:QS w2.heap b10 4 ((flg n (l.take 0)).map Value.bool):=by
  have e:(List.replicate n (Value.bool false).cells.toList).flatten=(flg n (l.take 0)).map Value.bool:=by
   simp only[flg,List.take_zero,List.not_mem_nil,decide_false,List.map_map]
   apply List.ext_getElem
   ·simp[Value.cells]
   ·intro i h1 h2
    simp[Value.cells]
  rw[←e];exact hB10
 refine Qg<|Qc<|Qb<|x (Qs (h.ext hs12) rfl)<|Qb<|xe ?_
 refine Qh<|QA (α:=Nat) [(7,7),(13,20)] (λz=>[(13,.int .i64 z)]) (λz w'=>z≤l.length∧Step [] w1 w'∧QS w'.heap b10 4 ((flg n (l.take z)).map Value.bool)) (λz=>l.length - z) (by rfl) 0 ⟨rfl,trivial⟩ ⟨Nat.zero_le _,hs2,hB0⟩ ?_
 rintro k g w3 ⟨hk,hs3,hB3⟩
 refine Qc<|x (QB rfl rfl)<|xe ?_
 refine Qg<|QD rfl (λh14=>?_) (λh14=>?_)
 ·refine Qz ?_
  have hke:l.length≤k:=by have h15:¬(k:Int)<(l.length:Int):=h14;omega
  rw[List.take_of_length_le hke] at hB3
  refine Qc<|Qb<|Qf ?_
  have hz1:=hs1.size
  exact Qk ⟨[.slice (some ⟨b10,0,none⟩) n n],⟨rfl,trivial⟩,hs1.trans hs3,b10,rfl,by omega,hB3⟩
 have hlt:k<l.length:=by have h15:(k:Int)<(l.length:Int):=h14;omega
 have hx:=hl _ (List.getElem_mem hlt)
 have htk:l.take (k+1)=l.take k++[l[k]'hlt]:=List.take_succ_eq_append_getElem hlt
 refine Zc (l[k]'hlt) λs hs=>?_
 rw[hs] at hx htk
 have hsn:s=(s.toNat:Int):=by omega
 have hset:=yR (n:=n) (l:=l.take k) hx.1
 refine Qi<|Qg<|Qh<|Qc<|xii (i:=k) ((h.ext hs1).ext hs3) rfl rfl hlt λa15 h15=>?_
 rw[hs] at h15
 refine x (Qw h15 rfl)<|Qf<|Qx<|Qb<|Qb<|x (QR (i:=s.toNat) rfl (congrArg (Value.int .i64) hsn) (by omega))<|xl rfl<|QF (j:=0+s.toNat*1) (u:=.bool true) hB3 rfl rfl (by rw[List.length_map,Ut];omega) rfl λw4 hs4 hB4=>xe ?_
 have hB4':QS w4.heap b10 4 ((flg n (l.take (k+1))).map Value.bool):=by
  rw[htk,←hset,List.map_set]
  simpa using hB4
 refine Qx<|x (Qy rfl rfl ⟨by omega,by omega⟩)<|Qb<|xe ?_
 exact ⟨k+1,by omega,⟨rfl,trivial⟩,hlt,hs3.then1 hs4 hb10,hB4'⟩
def Rv (l:LI) (i:Nat) (li:LI):Prop:=∃h:li.length=l.length,∀k (hk:k<l.length),li[k]'(by omega)=if k<i∨l.length≤k+i then l[l.length - 1 - k]'(by omega) else l[k]'hk
theorem Rv.start (l:LI):Rv l 0 l:=⟨rfl,λk hk=>by rw[if_neg (by omega)]⟩
theorem Rv.next {l li:LI}{i:Nat}(h:Rv l i li) (hi:i<l.length - 1 - i):Rv l (i+1) ((li.set i (l[l.length - 1 - i]'(by omega))).set (l.length - 1 - i) (l[i]'(by omega))):=by
 obtain ⟨h1,h2⟩:=h
 refine ⟨by simp[h1],λk hk=>?_⟩
 rw[List.getElem_set,List.getElem_set]
 by_cases e1:l.length - 1 - i=k
 ·rw[if_pos e1,if_pos (by omega)]
  congr 1;omega
 ·rw[if_neg e1]
  by_cases e2:i=k
  ·rw[if_pos e2,if_pos (by omega)]
   subst e2;rfl
  ·rw[if_neg e2,h2 k hk]
   by_cases e3:k<i∨l.length≤k+i
   ·rw[if_pos e3,if_pos (by omega)]
   ·rw[if_neg e3,if_neg (by omega)]
theorem Rv.fin {l li:LI}{i:Nat}(h:Rv l i li) (hi:l.length - 1 - i≤i) (hle:2*i≤l.length):li=l.reverse:=by
 obtain ⟨h1,h2⟩:=h
 apply List.ext_getElem
 ·simp[h1]
 ·intro k hk hk'
  have hk2:k<l.length:=by omega
  rw[h2 k hk2,List.getElem_reverse]
  by_cases e:k<i∨l.length≤k+i
  ·rw[if_pos e]
  ·rw[if_neg e]
   congr 1;omega
theorem Rv.at_i {l li:LI}{i:Nat}(h:Rv l i li) (hi:i<l.length - 1 - i):∃(h0:i<li.length) (h3:l.length - 1 - i<li.length),li[i]'h0=l[i]'(by omega)∧li[l.length - 1 - i]'h3=l[l.length - 1 - i]'(by omega):=by
 obtain ⟨h1,h2⟩:=h
 refine ⟨by omega,by omega,?_,?_⟩
 ·rw[h2 i (by omega),if_neg (by omega)]
 ·rw[h2 _ (by omega),if_neg (by omega)]
theorem qK {w:World}{base:Nat}{v:Value}{l:LI}(h:Qt 3 base w v l) (hle:l.length≤1099511627776) :
  QG prog 159 [v] w λ_ w'=>Qt 3 base w' v l.reverse∧Step (ob v) w w':=by
 refine QG.of_W func159 rfl ntmps159 results159 (by simp) ?_
 refine Qc<|Qb<|x (Qs (QV (L:=[]) h hle (by simp)) rfl)<|x (X6 rfl rfl ⟨by omega,by omega⟩)<|x Qe<|Qf<|Qh<|QA (α:=Nat×LI) [(2,3),(7,27)] (λz=>[(2,.int .i64 z.1),(3,.int .i64 ((l.length:Int) - 1 - z.1))])
  (λz w'=>Rv l z.1 z.2∧2*z.1≤l.length∧Step (ob v) w w'∧Qt 3 base w' v z.2) (λz=>l.length - z.1) (by rfl) (0,l) ⟨rfl,congrArg (Value.int .i64) (by simp),trivial⟩ ⟨Rv.start l,by simp,Step.refl _ _,h⟩ ?_
 rintro ⟨i,li⟩ g w1 ⟨hR,hi2,hs1,hO⟩
 simp only[] at hR hi2 hO
 refine Qg<|Qc<|Qb<|Qb<|x (QB rfl rfl)<|xe ?_
 refine QD rfl (λh9=>?_) (λh9=>?_)
 ·refine Qz ?_
  have h10:¬(i:Int)<(l.length:Int) - 1 - (i:Int):=h9
  rw[hR.fin (by omega) hi2] at hO
  exact ⟨[],trivial,hO,hs1⟩
 have h10:(i:Int)<(l.length:Int) - 1 - (i:Int):=h9
 have hij:i<l.length - 1 - i:=by omega
 have hj:(l.length:Int) - 1 - (i:Int)=((l.length - 1 - i:Nat):Int):=by omega
 have hlen:li.length=l.length:=hR.1
 have hnx:=hR.next hij
 refine Exists.elim (hR.at_i hij) λh0 hr=>Exists.elim hr λh3 hr=>?_
 refine Exists.elim (VL hO (by omega)) λgg hg=>Exists.elim hg λcap hv=>?_
 have hA1:QL [] w1.heap v li:=QV hO (by omega) (by simp)
 refine Qi<|Qg<|Qh<|QT (Step [] w1) [(0,true),(1,true),(2,true),(3,true),(4,true),(5,true),(6,true),(7,true),(8,true),(9,true),(10,true),(11,true),(12,true),(13,false),(14,true),(15,false)] mixed (by rfl) (by kernel_rfl) (Step.drew _ _) ?_
 refine p (λ_=>Qo)<|p (λ_=>Qo)<|p (λ_=>Qo)<|p (λ_=>Qo)<|p (λ_=>Qo)<|p (λ_=>Qo)<|pii (i:=l.length - 1 - i) rfl hA1 rfl (congrArg (Value.int .i64) hj) h3 λa20 h20=>?_
 rw[hr.2] at h20
 refine pq (λ_ hc=>Qw (h20.ext hc) rfl)<|p (λ_=>Qo)<|p (λ_=>Qo)<|pii (i:=i) rfl hA1 rfl rfl h0 λa24 h24=>?_
 rw[hr.1] at h24
 refine pq (λ_ hc=>Qw (h24.ext hc) rfl)<|p (λ_=>QR (i:=i) (show ev _ _=_ from hv) rfl (by omega)) <|
  pkl (hl:=by kernel_rfl)<|zy (Qu hO (Step.drew [] w1)) hv rfl rfl h0 λw2 hs2 hO2=>p (λ_=>QR (i:=l.length - 1 - i) (show ev _ _=_ from hv) (congrArg (Value.int .i64) hj) (by omega)) <|
  pkl (hl:=by kernel_rfl)<|zy hO2 (by rw[List.length_set];exact hv) rfl rfl (by rw[List.length_set];exact h3) λw3 hs3 hO3=>pe ?_
 refine Qx<|Qb<|x (Qy rfl rfl ⟨by omega,by omega⟩)<|Qb<|x (X6 rfl rfl ⟨by omega,by omega⟩)<|x Qe<|Qf ?_
 exact ⟨(i+1,_),by simp only[];omega,⟨rfl,congrArg (Value.int .i64) (by omega),trivial⟩,hnx,by simp only[];omega,((hs1.trans (Step.drew [] w1)).trans' hs2).trans' hs3,hO3⟩
end Go.Proofs.YtgmifemhkjdblaaGreatDoor
namespace Go.Lg
open Go.RowKit
def upY (P:Program) (m:Nat) (dst:Option Nat) (f:Fr) (K:Fr→World→Prop):Result Next→Prop
 | .ok (.value v) w'=>K (QU f dst v) w'
 | .ok .skip w'=>K (QU f dst undef) w'
 | .ok (.enter g args) w'=>Calls P g args w' λe w''=>match e with | .returned v=>K (QU f dst v) w'' | _=>False
 | .ok (.round l fn tmps assign body) w'=>RoundIn (fen none) (m - 1) P l fn tmps assign body w' λe w''=>match e with | .returned v=>K (QU f dst v) w'' | _=>False
 | _=>False
def XOY (P:Program) (m:Nat) (o:Oper) (f:Fr) (w:World) (K:Fr→World→Prop):Prop:=upY P m o.dst f K ((execOp (ev f) o).run P w)
def XI (P:Program) (m:Nat) (ops:List Oper) (K:Fr→World→Prop):List Oper→Fr→World→Prop
 | [],f,w=>K f w
 | o::l,f,w=>bif ZZ ops f o then XOY P m o f w (XI P m ops K l) else XI P m ops K l (QU f o.dst undef) w
section
variable {m:Nat} {P:Program} {n:Nat} {ds:LN}
theorem XOY.of_XO {o:Oper}{f:Fr}{w:World}{K K':Fr→World→Prop}(hK:∀f w,K f w→K' f w) (h:XO P o f w K):XOY P m o f w K':=by
 unfold XO at h;unfold XOY
 generalize (execOp (ev f) o).run P w=r at h
 cases r with
 | ok nx w' =>
  cases nx <;> simp only[upF] at h <;> simp only[upY]
  case value v=>exact hK _ _ h
  case skip=>exact hK _ _ h
  case enter g args =>
   refine Calls.mono h λe w'' he=>?_
   cases e with
   | returned v=>exact hK _ _ he
   | panicked c=>exact he.elim
   | outgrown=>exact he.elim
 | halt x w'=>exact h.elim
theorem XI.pre {ops:List Oper}{K:Fr→World→Prop}{l2:List Oper}:∀(l1:List Oper) (f:Fr) (w:World),XL P ops (λf w=>XI P m ops K l2 f w) l1 f w→XI P m ops K (l1++l2) f w
 | [],f,w,h=>by unfold XL at h;exact h
 | o::l1,f,w,h=>by
  unfold XL at h
  show (bif ZZ ops f o then XOY P m o f w (XI P m ops K (l1++l2)) else XI P m ops K (l1++l2) (QU f o.dst undef) w)
  cases hg:ZZ ops f o with
  | false=>rw[hg] at h;exact XI.pre l1 _ _ h
  | true=>rw[hg] at h;exact XOY.of_XO (λf w h=>XI.pre l1 f w h) h
theorem XI.pre2 {ops:List Oper}{K:Fr→World→Prop}{o1 o2:Oper}{l2:List Oper}{f:Fr}{w:World}(h:XL P ops (λf w=>XI P m ops K l2 f w) [o1,o2] f w):XI P m ops K (o1::o2::l2) f w:=XI.pre [o1,o2] f w h
theorem XI.of_XL {ops:List Oper}{K:Fr→World→Prop}{l:List Oper}{f:Fr}{w:World}(h:XL P ops K l f w):XI P m ops K l f w:=by
 have:=XI.pre (m:=m) (l2:=[]) l f w h
 rwa [List.append_nil] at this
theorem Qgw {o:Oper}{a:Act}{f:Fr}{w:World}{K:Fr→World→Prop}{K':Act→World→Prop}{Q:Exit→Act→World→Prop}(h:Ys n ds a f)
  (hK:∀v w',K (QU f o.dst v) w'→K' (a.put o.dst v) w') (hx:XOY P m o f w K):o.wpIn (fen none) m P a w K' Q:=by
 unfold XOY at hx
 refine ⟨λ_ _=>trivial,?_⟩
 have e:Oper.semAt (fen none).round a.eval o=execOp (ev f) o:=by rw[h.eval];rfl
 rw[e]
 generalize (execOp (ev f) o).run P w=r at hx
 cases r with
 | ok nx w' =>
  cases nx <;> simp only[upY] at hx <;> simp only[Oper.uponIn]
  case value v=>exact hK v w' hx
  case skip=>exact hK _ w' hx
  case enter g args =>
   refine ⟨λh=>by simp[Fence.wide] at h,?_⟩
   refine (callsIn_wide (n:=m - 1)).2 (Calls.mono hx λe w'' he=>?_)
   cases e with
   | returned v=>exact hK v w'' he
   | panicked c=>exact he.elim
   | outgrown=>exact he.elim
  case round l fn tmps assign body =>
   refine ⟨λh=>by simp[Fence.wide] at h,?_⟩
   refine RoundIn.mono hx λe w'' he=>?_
   cases e with
   | returned v=>exact hK v w'' he
   | panicked c=>exact he.elim
   | outgrown=>exact he.elim
 | halt x w'=>exact hx.elim
theorem QaH {Q:Exit→LN→Fr→World→Prop}{all:List Oper}(hn:∀o∈all,∀d,o.dst=some d→d<n) (f0:Fr) :
  ∀(l:List Oper) (k:Nat) (a:Act) (f:Fr) (w:World),(∀j,l[j]?=all[k+j]?)→Ys n ds a f→(∀t,ZK all t=false→f t=f0 t) →
   XI P m all (λf w=>Q .normal ds f w) l f w →
   wpOpsIn (fen none) m P all.toArray (λe a' w'=>∃ds' f',Ys n ds' a' f'∧(∀t,ZK all t=false→f' t=f0 t)∧Q e ds' f' w') (List.range' k l.length) a w
 | [],_,a,f,w,_,hr,hk,h=>⟨ds,f,hr,hk,by unfold XI at h;exact h⟩
 | o::l,k,a,f,w,hl,hr,hk,h=>by
  have h0:all[k]?=some o:=by simpa using (hl 0).symm
  have hmem:o∈all:=List.mem_of_getElem? h0
  have ih:=λa f w=>QaH (Q:=Q) hn f0 l (k+1) a f w (λj=>by have:=hl (j+1);simpa[Nat.add_assoc,Nat.add_comm 1 j] using this)
  have next:∀v,(∀t,ZK all t=false→QU f o.dst v t=f0 t):=λv t ht=>(ZN (Xq hmem ht) v).trans (hk t ht)
  simp only[List.length_cons,List.range'_succ,wpOpsIn,List.getElem?_toArray,h0]
  rw[KC hr hn o]
  unfold XI at h
  cases hg:ZZ all f o with
  | false =>
   rw[hg] at h
   exact ⟨λ_ _=>trivial,ih _ _ _ (hr.put (hn o hmem) _) (next _) h⟩
  | true =>
   rw[hg] at h
   exact Qgw hr (λv w' hx=>ih _ _ _ (hr.put (hn o hmem) v) (next v) hx) h
theorem Kl {Q:Exit→LN→Fr→World→Prop}{f:Fr}{w:World}{id:Nat}{l:List Oper}(hn:YW n l=true) (h:XI P m l (λf w=>Q .normal ds f w) l f w):WG none m P n (.region id l.toArray false) Q ds f w:=by
 unfold WG
 intro a ha
 refine wpIn_region ?_
 have:=QaH (m:=m) (YC hn) f l 0 a f w (by simp) ha (λ_ _=>rfl) h
 simpa[List.range_eq_range',Y8] using this
theorem xy {ops:List Oper}{rest:List Oper}{f:Fr}{w:World}{K:Fr→World→Prop}{d:Option Nat}{ty:Nat}{ps:String}{af:Array Edge}{gd:Option (Nat×Bool)}{x y:Operand}{at_:Array Nat}{l:Nat}{R:Ending→World→Prop}
  (hx:ev f x=.func (.yield l) #[] #[]) (hy:YieldAt (fen none) (m - 1) P l #[ev f y] w R) (hK:∀e w',R e w'→∃v,e=.returned v∧XI P m ops K rest (QU f d v) w')
  (hg:ZZ ops f ⟨d,.call ⟨.value x,[y].toArray,at_⟩,ty,ps,af,gd⟩=true:=by rfl) :
  XI P m ops K (⟨d,.call ⟨.value x,[y].toArray,at_⟩,ty,ps,af,gd⟩::rest) f w:=by
 obtain ⟨fn,tmps,assign,body,h1,h2⟩:=hy
 have hr:(execOp (ev f) ⟨d,.call ⟨.value x,[y].toArray,at_⟩,ty,ps,af,gd⟩).run P w=.ok (.round l fn tmps assign body) w:=by
  simp[execOp,resolve,hx,Deferred.ofValue,invoke,h1]
 unfold XI
 rw[hg]
 simp only[XOY,hr,upY,cond_true]
 exact h2.mono λe w' h=>by obtain ⟨v,rfl,hk⟩:=hK e w' h;exact hk
end
attribute [irreducible] XI
structure Lw (B:Nat) (L:LN) (w w':World):Prop where
 os:w'.os=w.os
 tape:w'.tape=w.tape
 output:w'.output=w.output
 size:w.heap.size≤w'.heap.size
 low:∀k,k<B→k∉L→w'.heap[k]?=w.heap[k]?
theorem Lw.refl (B:Nat) (L:LN) (w:World):Lw B L w w:=⟨rfl,rfl,rfl,Nat.le_refl _,λ_ _ _=>rfl⟩
theorem Lw.trans {B:Nat}{L:LN}{w0 w w':World}(h:Lw B L w0 w) (k:Lw B L w w'):Lw B L w0 w' :=
 ⟨k.os.trans h.os,k.tape.trans h.tape,k.output.trans h.output,Nat.le_trans h.size k.size,λi hi hn=>(k.low i hi hn).trans (h.low i hi hn)⟩
theorem Step.lw {L:LN}{w w' w'':World}(h:Step L w w') (k:Lw w.heap.size L w' w''):Step L w w'' :=
 ⟨k.os.trans h.os,k.tape.trans h.tape,k.output.trans h.output,Nat.le_trans h.size k.size,λi hi hn=>(k.low i hi hn).trans (h.block i hi hn)⟩
structure Xp (B:Nat) (L:LN) (W W':World):Prop where
 lw:Lw B L W W'
 other:∀(k:Nat) (o:Obj),W.heap[k]?=some o→o.isCells=false→W'.heap[k]?=some o
theorem Xp.refl (B:Nat) (L:LN) (w:World):Xp B L w w:=⟨Lw.refl _ _ _,λ_ _ h _=>h⟩
theorem Xp.trans {B:Nat}{L:LN}{w0 w w':World}(h:Xp B L w0 w) (k:Xp B L w w'):Xp B L w0 w':=⟨h.lw.trans k.lw,λi o hi ho=>k.other i o (h.other i o hi ho) ho⟩
theorem Xp.step {B:Nat}{L X:LN}{W W':World}(h:Step X W W') (hB:B≤W.heap.size) (hX:∀b∈X,(b∈L∨B≤b)∧∃o:Obj,W.heap[b]?=some o∧o.isCells=true):Xp B L W W':=by
 refine ⟨⟨h.os,h.tape,h.output,h.size,λk hk hn=>h.block k (by omega) (λhx=>?_)⟩,λk o hk ho=>?_⟩
 ·rcases (hX k hx).1 with h1 | h1
  ·exact hn h1
  ·omega
 ·refine (h.block k (Array.getElem?_eq_some_iff.1 hk).1 (λhx=>?_)).trans hk
  obtain ⟨o',h1,h2⟩:=(hX k hx).2
  rw[hk] at h1;cases h1;rw[ho] at h2;cases h2
theorem Xp.ext {B:Nat}{L:LN}{W W':World}(h:Step [] W W') (hB:B≤W.heap.size):Xp B L W W':=Xp.step h hB (λ_ hb=>by cases hb)
theorem QS.cells {H:Array Obj}{b T:Nat}{cs:LV}(h:QS H b T cs):∃o:Obj,H[b]?=some o∧o.isCells=true:=⟨_,h,rfl⟩
theorem Xp.blk {B:Nat}{L:LN}{W W':World}{b T:Nat}{cs:LV}(h:Step [b] W W') (hB:B≤W.heap.size) (hb:QS W.heap b T cs) (hL:b∈L∨B≤b):Xp B L W W' :=
 Xp.step h hB (λc hc=>by
  have e:c=b:=by simpa using hc
  subst e;exact ⟨hL,hb.cells⟩)
def ZX (B:Nat) (I:World→Prop):Prop:=∀W W' X,I W→Step X W W'→(∀r∈X,B≤r∧∃o:Obj,W.heap[r]?=some o∧o.isCells=false)→I W'
theorem ZX.own {β:Type}{B:Nat}{I:β→World→Prop}(h:∀s,ZX B (I s)):OwnFrom B I:=λs W W' row hs hg hr =>
 h s W W' _ hs (Step.of_grown hg) (λr hr'=>hr r (by cases row <;> simp at hr' ⊢;exact hr'.symm))
theorem ZX.blk {B:Nat}{b T:Nat}{cs:LV}:ZX B (λW=>QS W.heap b T cs):=λW W' X h hs hX=>h.step hs (λhb=>by
 obtain ⟨_,o,h1,h2⟩:=hX b hb
 unfold QS at h;rw[h] at h1;cases h1;cases h2)
theorem ZX.and {B:Nat}{I J:World→Prop}(h:ZX B I) (k:ZX B J):ZX B (λW=>I W∧J W):=λW W' X hi hs hX=>⟨h W W' X hi.1 hs hX,k W W' X hi.2 hs hX⟩
theorem ZX.ex {B:Nat}{β:Type}{I:β→World→Prop}(h:∀z,ZX B (I z)):ZX B (λW=>∃z,I z W):=λW W' X ⟨z,hi⟩ hs hX=>⟨z,h z W W' X hi hs hX⟩
theorem ZX.pure {B:Nat}(p:Prop):ZX B (λ_=>p):=λ_ _ _ h _ _=>h
theorem ZX.step {B:Nat}{L:LN}{w:World}(hB:w.heap.size≤B):ZX B (λW=>Step L w W):=λW W' X h hs hX=>h.then hs (λb hb=>.inr (by have:=(hX b hb).1;omega))
theorem Zl {w:World}{base e sz n:Nat}{v:Value}{cs:LV}(h:w.ownsRow base e sz v n cs):∀b∈ob v,∃o:Obj,w.heap[b]?=some o∧o.isCells=true:=by
 intro b hb
 rcases h.2 with ⟨h1,_⟩ | ⟨g,cap,cur,h1,h2,h3,_⟩
 ·subst h1;simp[ob] at hb
 ·subst h1;simp[ob] at hb;subst hb;exact ⟨_,h3,rfl⟩
theorem ZX.row {B base e sz n:Nat}{v:Value}{cs:LV}:ZX B (λW=>W.ownsRow base e sz v n cs):=λW W' X h hs hX=>Qm h hs (λb hb hx=>by
 obtain ⟨_,o,h1,h2⟩:=hX b hx
 obtain ⟨o',h3,h4⟩:=Zl h b hb
 rw[h1] at h3;cases h3;rw[h2] at h4;cases h4)
theorem QiR {α:Type}{m:Nat}{P:Program}{n:Nat}{Q:Exit→LN→Fr→World→Prop}{ds:LN}{f:Fr}{w:World}{g:Operand}{p:Nat}{assign body:Code}(L:LN) (h1:1≤m)
  {gf:Nat} {fn:Func} [hF:Fu P gf fn] {capt:LV} (hg:ev f g=.func (.func gf) #[] capt.toArray) {enc:α→Value} {S:List α→Prop} {N:Nat} (hp:p<n)
  (hseq:SeqStopsK (fen none) (m - 1) P gf capt.toArray (λx=>#[enc x]) (Lw w.heap.size L) S (λ_=>True) N w)
  (I:List α→World→Prop) (hI:∀s,ZX w.heap.size (I s)) (h0:I [] w) (A:Fr→α→Fr→World→Prop) (hA:∀x f',ZX w.heap.size (A f x f'))
  (hassign:∀l pre x W,I pre W→WG (some l) (m - 1 - 1) P n assign (QaZ (λds' f' W'=>ds'=[]∧Xp w.heap.size L W W'∧I pre W'∧A f x f' W') (λ_ _ _ _=>False)) [] (upd f p (enc x)) W)
  (hbody:∀l pre x f' W,I pre W→A f x f' W→pre.length<N→WG (some l) (m - 1 - 1) P n body (QaZ (λ_ _ W'=>Xp w.heap.size L W W'∧I (pre++[x]) W') (λ_ _ _ _=>False)) [] f' W)
  (hdone:∀D xs W,w.heap.size≤D→S xs→I xs W→W.heap[D]?=some (.deferred (some []))→Q .normal (D::ds) f W) :
  WG none m P n (.rangeFunc g #[p] assign body) Q ds f w:=by
 unfold WG at hassign hbody ⊢
 intro a ha
 have eg:∀args w,(callFunc gf args).run P w=.ok (.enter gf args) w:=by
  intro args w
  have h1:¬fn.name = "runtime.NumGoroutine" := by simpa using hF.nm
  have h2:¬fn.body=none:=by have:=hF.b;intro e;rw[e] at this;cases this
  simp[callFunc,hF.f,h1,h2]
 have keep:∀{W W':World},Xp w.heap.size L W W'→KeepsFrom w.heap.size W W':=λh=>⟨h.lw.size,λk o _ hk ho=>h.other k o hk ho⟩
 refine wpIn_rangeFunc_ownH (F:=fen none) rfl h1 (gf:=gf) (lb:=capt.toArray) (by rw[ha.eval];exact hg) trivial eg hseq (λh k=>h.trans k)
  (λW l o o' hl ho _ _=>⟨rfl,rfl,rfl,by simp,λk hk _=>World.putObj_heap_other (by omega)⟩) (Below.refl _ _) (λ_=>rfl) I (λ_ _ _=>False) (ZX.own hI) (λ_ _ _ _ _ hs _ _=>hs) h0
  (λx a' W=>∃f',Ys n [] a' f'∧A f x f' W) (λx a'=>ZX.own λ_=>ZX.ex λf'=>ZX.and (ZX.pure _) (hA x f')) ?_ ?_ ?_ ?_
 ·intro l pre x W K hi hK
  have hr:Ys n [] { tmps:=((#[p]:Array Nat).zip #[enc x]).foldl (λt (p,v)=>t.setIfInBounds p v) a.tmps,defers:=[] } (upd f p (enc x)):=by
   have h2:Ys n [] { a with defers:=[] } f:=⟨ha.size,rfl,ha.get⟩
   have h3:=h2.put (dst:=some p) (λd e=>by cases e;exact hp) (enc x)
   have e:((#[p]:Array Nat).zip #[enc x]).foldl (λt (p,v)=>t.setIfInBounds p v) a.tmps=a.tmps.setIfInBounds p (enc x):=by simp
   rw[e];exact h3
  refine wpIn_mono (hassign l pre x W hi _ hr) ?_
  rintro e a' W' ⟨ds',f',h2,_,h3⟩
  cases e with
  | normal=>obtain ⟨rfl,h4,h5,h6⟩:=h3;exact hK a' W' (keep h4) h4.lw h5 ⟨f',h2,h6⟩
  | exit id=>exact h3.elim
  | goto l=>exact h3.elim
  | ret=>exact h3.elim
  | panic ch=>exact h3.elim
  | outgrown=>exact h3.elim
 ·rintro l pre x a' W _ _ hi ⟨f',h2,h3⟩ hlt
  refine wpIn_mono (hbody l pre x f' W hi h3 hlt a' h2) ?_
  rintro e a'' W' ⟨ds',f'',h4,_,h5⟩
  cases e with
  | normal=>exact ⟨keep h5.1,h5.1.lw,h5.2⟩
  | exit id=>exact h5.elim
  | goto l=>exact h5.elim
  | ret=>exact h5.elim
  | panic ch=>exact h5.elim
  | outgrown=>exact h5.elim
 ·intro D xs W hD hS hi hd
  exact ⟨D::ds,f,⟨ha.size,by rw[show coll (D::ds)={ target:=.collected D,args:=#[] }::coll ds from rfl,ha.defers],ha.get⟩,λ_ _=>rfl,hdone D xs W hD hS hi hd⟩
 ·intro D c pre W _ _ h _
  exact h.elim
def Qka (P:Program) (t:Nat):Option (LV×List (Nat×Nat)):=match P.info? t,P.underlying t with
 | some it,some (.struct fs)=>match it.zero,fs.toList.mapM (λf=>(P.info? f.type).map λi=>(f.offset,i.size)) with
  | some (.agg zs),some pl=>some (zs.toList,pl)
  | _,_=>none
 | _,_=>none
class Bw (P:Program) (t:Nat) (zs:outParam (LV)) (pl:outParam (List (Nat×Nat))):Prop where
 h:Qka P t=some (zs,pl)
 b:pl.all (λx=>x.1+x.2≤zs.length)=true
def jD:LV→Nat→LV→LV
 | zs,_,[]=>zs
 | zs,o,u::us=>jD (zs.set o u) (o+1) us
def Qgr (pl:List (Nat×Nat)) (zs:LV):List (Nat×LV)→LV
 | []=>zs
 | (j,us)::ps=>Qgr pl (jD zs (pl.getD j (0,0)).1 us) ps
def QiU:List (Nat×Value)→List (Nat×LV)→Prop
 | [],[]=>True
 | (j,v)::vs,(j',us)::uss=>v.cells=us.toArray∧j=j'∧QiU vs uss
 | _,_=>False
theorem jC:∀(us zs:LV) (o:Nat),(jD zs o us).length=zs.length
 | [],_,_=>rfl
 | u::us,zs,o=>by rw[jD,jC us,List.length_set]
theorem zo (o:Nat):∀(us:LV) (k:Nat) (zs:LV),(us.zipIdx k).foldl (λ(cs:Array Value) (x:Value×Nat)=>cs.setIfInBounds (o+x.2) x.1) zs.toArray=(jD zs (o+k) us).toArray
 | [],_,_=>rfl
 | u::us,k,zs=>by
  rw[List.zipIdx_cons,List.foldl_cons,jD]
  have:=zo o us (k+1) (zs.set (o+k) u)
  rw[←List.setIfInBounds_toArray] at this
  exact this
theorem QfL {pl:List (Nat×Nat)}:∀(vs:List (Nat×Value)) (uss:List (Nat×LV)) (zs:LV),QiU vs uss→uss.all (λp=>p.1<pl.length && (p.2.length == (pl.getD p.1 (0,0)).2))=true →
  (∀x∈pl,x.1+x.2≤zs.length)→Instr.fill (pl.toArray[·]?) zs.toArray vs=some (Qgr pl zs uss).toArray
 | [],[],zs,_,_,_=>rfl
 | [],_::_,_,h,_,_=>h.elim
 | _::_,[],_,h,_,_=>h.elim
 | (j,v)::vs,(j',us)::uss,zs,h1,h2,h3=>by
  obtain ⟨hc,rfl,h1⟩:=h1
  simp only[List.all_cons,Bool.and_eq_true,decide_eq_true_eq,beq_iff_eq] at h2
  obtain ⟨⟨hj,hl⟩,h2⟩:=h2
  have hg:pl.getD j (0,0)=pl[j]'hj:=by simp[List.getD,hj]
  have hm:=h3 _ (List.getElem_mem hj)
  unfold Instr.fill
  simp only[List.getElem?_toArray,List.getElem?_eq_getElem hj,hc]
  rw[hg] at hl
  rw[if_neg (by simp only[List.size_toArray,hl,ne_eq,not_true,decide_false,Bool.false_or,decide_eq_true_eq];omega)]
  have e:=zo (pl[j]'hj).1 us 0 zs
  rw[Nat.add_zero] at e
  have e2:(us.toArray.zipIdx).foldl (λ(cs:Array Value) (x:Value×Nat)=>cs.setIfInBounds ((pl[j]'hj).1+x.2) x.1) zs.toArray=(jD zs (pl[j]'hj).1 us).toArray:=by
   rw[←e];simp
  rw[e2,Qgr,hg]
  have e3:=QfL vs uss (jD zs (pl[j]'hj).1 us) h1 h2 (λx hx=>by rw[jC];exact h3 x hx)
  simpa only[List.getElem?_toArray] using e3
theorem QbF {P:Program}{t:Nat}{zs:LV}{pl:List (Nat×Nat)}(h:Qka P t=some (zs,pl)) (hb:pl.all (λx=>x.1+x.2≤zs.length)=true) (vs:List (Nat×Value)) (uss:List (Nat×LV)) (h1:QiU vs uss)
  (h2:uss.all (λp=>p.1<pl.length && (p.2.length == (pl.getD p.1 (0,0)).2))=true):P.built t vs=some (Qgr pl zs uss).toArray:=by
 have h3:∀x∈pl,x.1+x.2≤zs.length:=λo ho=>by simpa using List.all_eq_true.1 hb o ho
 unfold Qka at h
 unfold Program.built
 cases hi:P.info? t with
 | none=>simp[hi] at h
 | some it =>
  cases hu:P.underlying t with
  | none=>simp[hi,hu] at h
  | some dd =>
   simp only[hi,hu] at h
   cases dd <;> simp only[] at h <;> try (cases h)
   case struct fs =>
    cases hz:it.zero with
    | none=>simp[hz] at h
    | some z =>
     cases z <;> simp only[hz] at h <;> try (cases h)
     rename_i za
     cases hm:fs.toList.mapM (λf=>(P.info? f.type).map λi=>(f.offset,i.size)) with
     | none=>simp[hm] at h
     | some pl' =>
      simp only[hm,Option.some.injEq,Prod.mk.injEq] at h
      obtain ⟨rfl,rfl⟩:=h
      simp only[hz,hm,Value.cells]
      exact QfL vs uss za.toList h1 h2 h3
theorem Zx {P:Program}{f:Fr}{w:World}{d:Option Nat}{ty:Nat}{ps:String}{af:Array Edge}{gd:Option (Nat×Bool)}{t:Nat}{zs:LV}{pl:List (Nat×Nat)}[h:Bw P t zs pl] {parts:List (Nat×Operand)}(uss:List (Nat×LV))
  (h1:QiU (parts.map λx=>(x.1,ev f x.2)) uss) (h2:uss.all (λp=>p.1<pl.length && (p.2.length == (pl.getD p.1 (0,0)).2))=true:=by rfl) :
  (execOp (ev f) ⟨d,.build t parts.toArray,ty,ps,af,gd⟩).run P w=.ok (.value (.agg (Qgr pl zs uss).toArray)) w:=by
 have hb:=QbF h.h h.b _ uss h1 h2
 have hr:=run_build (P:=P) w t (parts.toArray.map λ(i,x)=>(i,ev f x)) _ (by simpa using hb)
 simp only[execOp,Sem.run_bind,hr,Result.andThen_ok,Sem.run_pure]
end Go.Lg
namespace Go.Proofs.YtgmifemhkjdblaaGreatDoor
open Tryz
open Go.Lg
def cnE (p:Ed→Bool) (es:List Ed):Int:=((es.filter p).length:Int)
theorem Qar (p:Ed→Bool) (es:List Ed) (e:Ed):cnE p (es++[e])=cnE p es+if p e=true then 1 else 0:=by
 unfold cnE
 rw[List.filter_append,List.length_append]
 by_cases h:p e=true
 ·simp[h]
 ·simp[h]
theorem KN (p:Ed→Bool) (es:List Ed):0≤cnE p es∧cnE p es≤es.length:=by
 unfold cnE
 have:=List.length_filter_le p es
 omega
def gA (n:Nat) (f:Nat→Int):LI:=(List.range n).map f
theorem QjP (n:Nat) (f:Nat→Int):(gA n f).length=n:=by simp[gA]
theorem QfD {n:Nat}{f:Nat→Int}{i:Nat}(h:i<(gA n f).length):(gA n f)[i]'h=f i:=by simp[gA]
theorem U6 {n:Nat}{f g:Nat→Int}{i:Nat}{u:Int}(hu:u=g i) (h:∀j,j<n→j≠i→g j=f j):(gA n f).set i u=gA n g:=by
 apply List.ext_getElem
 ·simp[gA]
 ·intro k h1 h2
  rw[List.getElem_set,QfD h2]
  by_cases e:i=k
  ·rw[if_pos e,hu,e]
  ·rw[if_neg e,QfD]
   exact (h k (by simpa[gA] using h2) (Ne.symm e)).symm
theorem U7 {n:Nat}{f g:Nat→Int}(h:∀j,j<n→f j=g j):gA n f=gA n g:=List.map_congr_left (λj hj=>h j (List.mem_range.1 hj))
def cN (es:List Ed) (s:Nat):Int:=cnE (λe=>decide (e.1+1=(s:Int))) es
def fS (es:List Ed) (s:Nat):Int:=cnE (λe=>decide (e.1<(s:Int))) es
theorem QcI (es:List Ed) (s:Nat):fS es (s+1)=cN es (s+1)+fS es s:=by
 unfold fS cN cnE
 induction es with
 | nil=>rfl
 | cons e es ih =>
  simp only[List.filter_cons]
  by_cases h1:e.1<(s:Int)
  ·have h2:e.1<((s+1:Nat):Int):=by omega
   have h3:¬e.1+1=((s+1:Nat):Int):=by omega
   simp only[h1,h2,h3,decide_true,decide_false,if_true,List.length_cons] at ih ⊢
   simp only[Bool.false_eq_true,if_false] at ih ⊢
   omega
  ·by_cases h2:e.1+1=((s+1:Nat):Int)
   ·have h3:e.1<((s+1:Nat):Int):=by omega
    simp only[h1,h2,h3,decide_true,decide_false,if_true,List.length_cons] at ih ⊢
    simp only[Bool.false_eq_true,if_false] at ih ⊢
    omega
   ·have h3:¬e.1<((s+1:Nat):Int):=by omega
    simp only[h1,h2,h3,decide_false,Bool.false_eq_true,if_false] at ih ⊢
    exact ih
theorem QcH {es:List Ed}(h:∀e∈es,0≤e.1):fS es 0=0∧cN es 0=0:=by
 unfold fS cN cnE
 refine ⟨?_,?_⟩
 ·have:(es.filter λe=>decide (e.1<((0:Nat):Int)))=[]:=List.filter_eq_nil_iff.2 (λe he=>by have:=h e he;simp;omega)
  rw[this];rfl
 ·have:(es.filter λe=>decide (e.1+1=((0:Nat):Int)))=[]:=List.filter_eq_nil_iff.2 (λe he=>by have:=h e he;simp;omega)
  rw[this];rfl
def mX (es:List Ed) (s j:Nat):Int:=if j≤s then fS es j else cN es j
theorem QhF {es:List Ed}(h:∀e∈es,0≤e.1) (n:Nat):gA n (cN es)=gA n (mX es 0):=U7 λj _=>by
 unfold mX
 by_cases e:j≤0
 ·have:j=0:=by omega
  subst this
  rw[if_pos (Nat.le_refl _),(QcH h).1,(QcH h).2]
 ·rw[if_neg e]
theorem QhG (es:List Ed) (s n:Nat):(gA n (mX es s)).set (s+1) (mX es s (s+1)+mX es s s)=gA n (mX es (s+1)):=by
 refine U6 ?_ λj _ hj=>?_
 ·unfold mX
  rw[if_neg (by omega),if_pos (Nat.le_refl _),if_pos (Nat.le_refl _),QcI]
 ·unfold mX
  by_cases e:j≤s
  ·rw[if_pos (by omega),if_pos e]
  ·rw[if_neg (by omega),if_neg e]
theorem Qiy (es:List Ed) (e:Ed) (h0:0≤e.1) (n:Nat):(gA n (cN es)).set (e.1.toNat+1) (cN es (e.1.toNat+1)+1)=gA n (cN (es++[e])):=by
 refine U6 ?_ λj _ hj=>?_
 ·unfold cN
  rw[Qar,if_pos (by simp;omega)]
 ·unfold cN
  rw[Qar,if_neg (by simp;omega)];simp
theorem zD (n:Nat):(List.replicate n (Value.int .i64 0).cells.toList).flatten=(gA n (cN [])).map (Value.int .i64):=by
 apply List.ext_getElem
 ·simp[Value.cells,gA]
 ·intro i h1 h2
  simp[Value.cells,gA,cN,cnE]
section
variable {P:Program} {K:Fr→World→Prop} {f:Fr} {w:World} {d:Option Nat} {ty:Nat} {ps:String} {af:Array Edge} {gd:Option (Nat×Bool)}
theorem K8 {t:Nat}[Xe P t] {x:Operand}{b T i n:Nat}{g:Nat→Int}(h:QS w.heap b T ((gA n g).map (.int .i64))) (hx:ev f x=.pointer (some ⟨b,0+i*1,none⟩)) (hi:i<n) :
  (execOp (ev f) ⟨d,.load t x,ty,ps,af,gd⟩).run P w=.ok (.value (.int .i64 (g i))) w:=Qd h hx (by simp[gA,hi])
theorem JR {t:Nat}[h1:Xe P t] {x y:Operand}{b T i n:Nat}{g g':Nat→Int}{u:Int}(hB:QS w.heap b T ((gA n g).map (.int .i64))) (hx:ev f x=.pointer (some ⟨b,0+i*1,none⟩)) (hy:ev f y=.int .i64 u) (hi:i<n) (hg:(gA n g).set i u=gA n g')
  (hK:∀w',Step [b] w w'→QS w'.heap b T ((gA n g').map (.int .i64))→K (QU f d undef) w'):XO P ⟨d,.store t x y,ty,ps,af,gd⟩ f w K :=
 Xt hB hx hy (by rw[QjP];exact hi) λw' hs hB'=>hK w' hs (by rw[←hg];exact hB')
end
instance:Bw prog 156 [nS,.int .i64 0,nS,nS,nS] [(0,4),(4,1)]:=⟨by kernel_rfl,by decide⟩
theorem V5 {w:World}{va vm ve:Value}{a:QM}{n:Nat}(h:Zm [] w.heap va vm ve a) (hn:a.st=(n:Int)) (hst1:a.st≤4096) (hed:∀e∈a.ed,0≤e.1∧e.1<a.st) :
  QG prog 69 [.agg #[va,.int .i64 a.st,vm,ve]] w λr w'=>Step [] w w'∧∃b,r=.agg #[va,.int .i64 a.st,vm,ve,.slice (some ⟨b,0,none⟩) (n+1) (n+1)]∧w.heap.size≤b∧QS w'.heap b 3 ((gA (n+1) (fS a.ed)).map (Value.int .i64)):=by
 have hel:=h.ed.le
 refine QG.of_W func69 rfl ntmps69 results69 (by simp) ?_
 refine Qc<|xl rfl<|QQ (us:=[va,.int .i64 a.st,vm,ve]) rfl λb1 w1 hs1 hb1 hB1=>xl rfl<|Qr (us:=[nS,.int .i64 0,nS,nS,nS]) rfl λb2 w2 hs2 hb2 hB2=>xe ?_
 have hs12:=hs1.trans hs2
 have hB12:=hB1.ext hs2
 have h2:=h.ext hs12
 have hn1:a.st+1=((n+1:Nat):Int):=by omega
 have hc0:Step [] w2 { w2 with drawn:=w2.drawn+1 }:=Step.drew [] w2
 have hz0:=hc0.size
 refine QW (α:=Nat×Nat) [(3,3),(7,12)] (λz=>[(3,.pointer (some ⟨z.1,0,none⟩))]) (λz w'=>Step [] w2 w'∧QS w'.heap z.1 156 [va,.int .i64 a.st,vm,ve,.slice (some ⟨z.2,0,none⟩) (n+1) (n+1)]∧QS w'.heap z.2 3 ((gA (n+1) (cN [])).map (Value.int .i64))∧w2.heap.size≤z.1∧w2.heap.size≤z.2∧z.1≠z.2) (by rfl) ?_ ?_
 ·refine QiK (Step [] w2) (.f2 [(0,true),(1,true),(2,true),(3,true)] 4 6 (.pl [(5,true),(6,false),(7,false)]) (.pl [(4,false),(5,true),(7,false)])) mixed (by rfl) (by kernel_rfl) (Step.drew _ _) ?_
  refine u2<|pq (λ_ hc=>Qn (hB12.ext hc) rfl rfl)<|p (λ_=>Qa rfl)<|pq (λ_ hc=>Qd (hB12.ext hc) rfl rfl)<|p (λ_=>Qy rfl rfl ⟨by omega,by omega⟩)<|pe ⟨?_,?_⟩
  ·refine ue<|Xa (n:=n+1) (congrArg (Value.int .i64) hn1) (congrArg (Value.int .i64) hn1) (by omega) λb11 w3 hs3 hb11 hB11=>?_
   have hc3:=hc0.trans hs3
   have hl11:=hB11.lt
   refine ⟨hc3,?_⟩
   refine uP<|p (λ_=>Zx [(0,[va,.int .i64 a.st,vm,ve]),(1,[.slice (some ⟨b11,0,none⟩) (n+1) (n+1)])] ⟨rfl,rfl,rfl,rfl,trivial⟩)<|pk<|Qr (us:=[nS,.int .i64 0,nS,nS,nS]) rfl λb3 w4 hs4 hb3 hB3=>?_
   have hc4:=hc3.trans hs4
   refine ⟨hc4,?_⟩
   refine pk<|Ql (us:=[va,.int .i64 a.st,vm,ve,.slice (some ⟨b11,0,none⟩) (n+1) (n+1)]) hB3 rfl rfl rfl rfl ⟨h.al.one,rfl,h.mr.one,h.ed.one,rfl,trivial⟩ λw5 hs5 hB5=>⟨hc4.then1 hs5 (by omega),pe ?_⟩
   have hB11':QS w3.heap b11 3 ((gA (n+1) (cN [])).map (Value.int .i64)):=by rw[←zD];exact hB11
   exact ⟨(b3,b11),⟨rfl,trivial⟩,hc4.then1 hs5 (by omega),hB5,(hB11'.ext hs4).step hs5 (by simp;omega),by simp only[];omega,by simp only[];omega,by simp only[];omega⟩
  ·refine ue<|Qr (us:=[nS,.int .i64 0,nS,nS,nS]) rfl λb3 w3 hs3 hb3 hB3=>?_
   have hc3:=hc0.trans hs3
   have hl3:=hB3.lt
   refine ⟨hc3,?_⟩
   refine uP<|pk<|Xa (n:=n+1) (congrArg (Value.int .i64) hn1) (congrArg (Value.int .i64) hn1) (by omega) λb11 w4 hs4 hb11 hB11=>?_
   have hc4:=hc3.trans hs4
   refine ⟨hc4,?_⟩
   refine p (λ_=>Zx [(0,[va,.int .i64 a.st,vm,ve]),(1,[.slice (some ⟨b11,0,none⟩) (n+1) (n+1)])] ⟨rfl,rfl,rfl,rfl,trivial⟩)<|pk<|Ql (us:=[va,.int .i64 a.st,vm,ve,.slice (some ⟨b11,0,none⟩) (n+1) (n+1)]) (hB3.ext hs4) rfl rfl rfl rfl ⟨h.al.one,rfl,h.mr.one,h.ed.one,rfl,trivial⟩ λw5 hs5 hB5=>⟨hc4.then1 hs5 (by omega),pe ?_⟩
   have hB11':QS w4.heap b11 3 ((gA (n+1) (cN [])).map (Value.int .i64)):=by rw[←zD];exact hB11
   exact ⟨(b3,b11),⟨rfl,trivial⟩,hc4.then1 hs5 (by omega),hB5,hB11'.step hs5 (by simp;omega),by simp only[];omega,by simp only[];omega,by simp only[];omega⟩
 rintro ⟨b3,bF⟩ g6 w6 ⟨hs6,hB3,hBF,hb3,hbF,hne⟩
 simp only[] at hB3 hBF hb3 hbF hne
 have hel':a.ed.length≤1099511627776:=hel
 have hB1':=hB12.ext hs6
 have hB2':=hB2.ext hs6
 have hl1:=hB12.lt
 have hl2:=hB2.lt
 refine Qg<|Qc<|x (Qa rfl)<|x (Qd hB1' rfl rfl)<|x (Qs h.ed rfl)<|Qb<|xe ?_
 have hed0:∀e∈a.ed,0≤e.1:=λe he=>(hed e he).1
 refine Qh<|QA (α:=Nat) [(5,5),(16,29)] (λz=>[(16,.int .i64 z)]) (λz w'=>z≤a.ed.length∧Step [] w2 w'∧QS w'.heap b3 156 [va,.int .i64 a.st,vm,ve,.slice (some ⟨bF,0,none⟩) (n+1) (n+1)]∧QS w'.heap bF 3 ((gA (n+1) (cN (a.ed.take z))).map (Value.int .i64))) (λz=>a.ed.length - z) (by rfl) 0 ⟨rfl,trivial⟩
  ⟨Nat.zero_le _,hs6,hB3,hBF⟩ ?_
 rintro k g w7 ⟨hk,hs7,hB37,hBF7⟩
 refine Qc<|x (QB rfl rfl)<|xe ?_
 refine Qg<|QD rfl (λh17=>?_) (λh17=>?_)
 ·refine Qz ?_
  have hke:a.ed.length≤k:=by have h18:¬(k:Int)<(a.ed.length:Int):=h17;omega
  rw[List.take_of_length_le hke,QhF hed0 (n+1)] at hBF7
  refine Qg<|Qc<|x (Qa rfl)<|x (Qd (hB12.ext hs7) rfl rfl)<|Qb<|xe ?_
  refine Qh<|QA (α:=Nat) [(6,6),(32,48)] (λz=>[(32,.int .i64 z)]) (λz w'=>z≤n∧Step [] w2 w'∧QS w'.heap b3 156 [va,.int .i64 a.st,vm,ve,.slice (some ⟨bF,0,none⟩) (n+1) (n+1)]∧QS w'.heap bF 3 ((gA (n+1) (mX a.ed z)).map (Value.int .i64))) (λz=>n - z) (by rfl) 0 ⟨rfl,trivial⟩
   ⟨Nat.zero_le _,hs7,hB37,hBF7⟩ ?_
  rintro j g w8 ⟨hj,hs8,hB38,hBF8⟩
  refine Qc<|x (QB rfl rfl)<|xe ?_
  refine Qg<|QD rfl (λh33=>?_) (λh33=>?_)
  ·refine Qz ?_
   have hje:n≤j:=by have h34:¬(j:Int)<a.st:=h33;omega
   have hjn:j=n:=by omega
   rw[hjn] at hBF8
   have hmx:gA (n+1) (mX a.ed n)=gA (n+1) (fS a.ed):=U7 λi hi=>by unfold mX;rw[if_pos (by omega)]
   rw[hmx] at hBF8
   refine Qc<|x (Qn hB38 rfl rfl)<|xl rfl<|Ql (us:=[va,.int .i64 a.st,vm,ve,.slice (some ⟨bF,0,none⟩) (n+1) (n+1)]) (hB2.ext hs8) rfl rfl rfl rfl ⟨h.al.one,rfl,h.mr.one,h.ed.one,rfl,trivial⟩ λw9 hs9 hB9=>xe ?_
   have hz1:=hs1.size
   have hz12:=hs12.size
   refine Qk ⟨[_],⟨⟨_,rfl,Qv rfl (hB9.at (L:=[]) (by simp)).cells⟩,trivial⟩,((hs1.trans hs2).trans hs8).then1 hs9 (by omega),bF,rfl,by omega,hBF8.step hs9 (by simp;omega)⟩
  have hjn:j<n:=by have h34:(j:Int)<a.st:=h33;omega
  have hmj:=KN (λe:Ed=>decide (e.1<(j:Int))) a.ed
  have hmj':=KN (λe:Ed=>decide (e.1+1=((j+1:Nat):Int))) a.ed
  have hv1:mX a.ed j (j+1)=cN a.ed (j+1):=by unfold mX;rw[if_neg (by omega)]
  have hv0:mX a.ed j j=fS a.ed j:=by unfold mX;rw[if_pos (Nat.le_refl _)]
  have hb1:0≤mX a.ed j (j+1)∧mX a.ed j (j+1)≤1099511627776:=by rw[hv1];unfold cN;omega
  have hb0:0≤mX a.ed j j∧mX a.ed j j≤1099511627776:=by rw[hv0];unfold fS;omega
  refine Qi<|Qg<|Qh<|Qc<|Qb<|Qf<|QT (Step [] w8) [(0,true),(1,true),(2,true),(3,true),(4,true),(5,true),(6,true),(7,true),(8,true),(9,true),(10,true),(11,true),(12,true),(13,false)] mixed (by rfl) (by kernel_rfl) (Step.drew _ _) ?_
  refine p (λ_=>Qa rfl)<|pq (λ_ hc=>Qd (hB38.ext hc) rfl rfl)<|p (λ_=>Qo)<|p (λ_=>Qy rfl rfl ⟨by omega,by omega⟩) <|
   p (λ_=>QR (i:=j+1) rfl rfl (by omega))<|pq (λ_ hc=>K8 (i:=j+1) (hBF8.ext hc) rfl (by omega))<|p (λ_=>Qa rfl)<|pq (λ_ hc=>Qd (hB38.ext hc) rfl rfl) <|
   p (λ_=>Qo)<|p (λ_=>QR (i:=j) rfl rfl (by omega))<|pq (λ_ hc=>K8 (i:=j) (hBF8.ext hc) rfl (by omega))<|p (λ_=>Qy rfl rfl ⟨by omega,by omega⟩) <|
   p (λ_=>QR (i:=j+1) rfl rfl (by omega))<|pkl (hl:=by kernel_rfl)<|JR (i:=j+1) (hBF8.ext (Step.drew [] w8)) rfl rfl (by omega) (QhG a.ed j (n+1)) λw9 hs9 hBF9=>pe ?_
  refine Qx<|x (Qy rfl rfl ⟨by omega,by omega⟩)<|Qb<|xe ?_
  exact ⟨j+1,by omega,⟨rfl,trivial⟩,hjn,(hs8.trans (Step.drew [] w8)).then1 hs9 hbF,(hB38.ext (Step.drew [] w8)).step hs9 (by simp;omega),hBF9⟩
 have hlt:k<a.ed.length:=by have h18:(k:Int)<(a.ed.length:Int):=h17;omega
 have htk:a.ed.take (k+1)=a.ed.take k++[a.ed[k]'hlt]:=List.take_succ_eq_append_getElem hlt
 have hek:=hed _ (List.getElem_mem hlt)
 refine Zc (a.ed[k]'hlt) λe he=>?_
 rw[he] at htk hek
 have hfr:e.1+1=((e.1.toNat+1:Nat):Int):=by omega
 have hst:=Qiy (a.ed.take k) e hek.1 (n+1)
 have hcl:=KN (λd:Ed=>decide (d.1+1=((e.1.toNat+1:Nat):Int))) (a.ed.take k)
 have hcl':0≤cN (a.ed.take k) (e.1.toNat+1)∧cN (a.ed.take k) (e.1.toNat+1)≤1099511627776:=by unfold cN;rw[List.length_take] at hcl;omega
 refine Qi<|Qg<|Qh<|Qc<|xie (h2.ed.ext hs7) rfl rfl hlt λa18 h18=>?_
 rw[he] at h18
 refine x (QJ h18 rfl rfl)<|xl rfl<|Qr (us:=[.int .i64 0,.int .i64 0,.int .i64 0]) rfl λb5 w8 hs8 hb5 hB5=>xl rfl<|Ql (us:=QC e) hB5 rfl rfl rfl rfl ⟨rfl,rfl,rfl,trivial⟩ λw9 hs9 hB5'=>xe ?_
 have hs79:Step [] w7 w9:=hs8.then1 hs9 hb5
 refine Qx<|x (Qa rfl)<|x (Qd (hB37.ext hs79) rfl rfl)<|x (Qa rfl)<|x (Qd hB5' rfl rfl)<|x (Qy rfl rfl ⟨by omega,by omega⟩)<|x (QR (i:=e.1.toNat+1) rfl (congrArg (Value.int .i64) hfr) (by omega)) <|
  x (K8 (i:=e.1.toNat+1) (hBF7.ext hs79) rfl (by omega))<|x (Qy rfl rfl ⟨by omega,by omega⟩)<|x (QR (i:=e.1.toNat+1) rfl (congrArg (Value.int .i64) hfr) (by omega)) <|
  xl rfl<|JR (i:=e.1.toNat+1) (hBF7.ext hs79) rfl rfl (by omega) hst λw10 hs10 hBF10=>xe ?_
 refine Qx<|x (Qy rfl rfl ⟨by omega,by omega⟩)<|Qb<|xe ?_
 refine ⟨k+1,by omega,⟨rfl,trivial⟩,hlt,(hs7.trans hs79).then1 hs10 hbF,(hB37.ext hs79).step hs10 (by simp;omega),?_⟩
 rw[htk];exact hBF10
end Go.Proofs.YtgmifemhkjdblaaGreatDoor
namespace Go.Lg
open Go.RowKit
def YJ (w:World) (base e sz:Nat) (v:Value) (n:Nat) (cs:LV):Prop :=
 cs.length=n*sz∧((v=nS∧n=0)∨∃g off cap cur,v=.slice (some ⟨g,off,none⟩) n cap∧base≤g∧w.heap[g]?=some (.cells cur e (0,0))∧n≤cap∧cap≤maxLen∧off+cap*sz≤cur.size∧(cur.toList.drop off).take (n*sz)=cs)
theorem YJ.of_row {w:World}{base e sz n:Nat}{v:Value}{cs:LV}(h:w.ownsRow base e sz v n cs):YJ w base e sz v n cs :=
 ⟨h.1,h.2.imp id λ⟨g,cap,cur,h1,h2,h3,h4,h5,h6,h7⟩=>⟨g,0,cap,cur,h1,h2,h3,h4,h5,by omega,by simpa using h7⟩⟩
theorem QeS {X:LN}{w w':World}{base e sz n:Nat}{v:Value}{cs:LV}(h:YJ w base e sz v n cs) (hs:Step X w w') (hX:∀b∈ob v,b∉X):YJ w' base e sz v n cs:=by
 refine ⟨h.1,h.2.imp id λ⟨g,off,cap,cur,h1,h2,h3,h4⟩=>⟨g,off,cap,cur,h1,h2,?_,h4⟩⟩
 rw[hs.block g (Array.getElem?_eq_some_iff.1 h3).1 (hX g (by rw[h1];simp[ob]))];exact h3
theorem QkS {w w':World}{base e sz n:Nat}{v:Value}{cs:LV}(h:YJ w base e sz v n cs) (hs:Step [] w w'):YJ w' base e sz v n cs:=QeS h hs (λ_ _=>by simp)
theorem Qjv {w:World}{base e sz n:Nat}{v:Value}{cs:LV}(h:YJ w base e sz v n cs):∀b∈ob v,base≤b∧b<w.heap.size:=by
 intro b hb
 rcases h.2 with ⟨h1,_⟩ | ⟨g,off,cap,cur,h1,h2,h3,_⟩
 ·subst h1;simp[ob] at hb
 ·subst h1;simp[ob] at hb;subst hb;exact ⟨h2,(Array.getElem?_eq_some_iff.1 h3).1⟩
theorem Qci {w:World}{g off e n:Nat}{cur:Array Value}{cs:LV}(h3:w.heap[g]?=some (.cells cur e (0,0))) (h7:(cur.toList.drop off).take n=cs):∀j u,cs[j]?=some u→w.cell? ((⟨g,off,none⟩:Addr).add j)=some u:=by
 intro j u hu
 rw[Xo,Yk]
 unfold cel;simp only[h3]
 rw[←h7,List.getElem?_take] at hu
 split at hu
 ·simpa using hu
 ·cases hu
theorem Qi1 {L:LN}{w:World}{base e sz n:Nat}{v:Value}{cs:LV}(h:YJ w base e sz v n cs) (hn:n≤1099511627776) (hL:∀b∈ob v,b∉L):Zw L w.heap v n sz cs:=by
 refine ⟨h.1,hn,?_⟩
 rcases h.2 with h1 | ⟨g,off,cap,cur,h1,h2,h3,h4,h5,h6,h7⟩
 ·exact .inl h1
 ·exact .inr ⟨_,_,h1,h4,hL g (by rw[h1];simp[ob]),(Array.getElem?_eq_some_iff.1 h3).1,λj u hu=>Qci h3 h7 j u hu⟩
section
variable {P:Program} {K:Fr→World→Prop} {f:Fr} {w:World} {d:Option Nat} {ty:Nat} {ps:String} {af:Array Edge} {gd:Option (Nat×Bool)} {ops l:List Oper}
theorem QlE {t e sz bys:Nat}{z:Value}[h:Sl P t e sz bys z] {x y1:Operand}{base:Nat}{v:Value}{n:Nat}{cs:LV}{k:IntKind}{lo:Nat}(hown:YJ w base e sz v n cs) (hx:ev f x=v) (hl:ev f y1=.int k lo) (h1:lo≤n)
  (hK:∀v',YJ w base e sz v' (n - lo) (cs.drop (lo*sz))→ob v'=ob v→XL P ops K l (QU f d v') w)
  (hg:ZZ ops f ⟨d,.slice t x (some y1) none none,ty,ps,af,gd⟩=true:=by rfl):XL P ops K (⟨d,.slice t x (some y1) none none,ty,ps,af,gd⟩::l) f w:=by
 obtain ⟨i,hi',_,hsz,_⟩:=Sl.info h
 rcases hown.2 with ⟨hv,hn⟩ | ⟨g,off,cap,cur,hv,h2,h3,h4,h5,h6,h7⟩
 ·have e2:lo=0:=by omega
  subst e2 hn hv
  have hcs:cs=[]:=List.eq_nil_of_length_eq_zero (by simpa using hown.1)
  subst hcs
  refine xl hg (xv (v:=nS) ?_ (hK _ ⟨by simp,.inl ⟨rfl,rfl⟩⟩ rfl))
  simp[execOp,hx,hl,Instr.sliceAt,Instr.slice,run_underlying h.u,Instr.sliceBounds,Instr.sliceBound,asIntOf,sizeOf,typeInfo,hi']
 ·subst hv
  have e2:(Instr.sliceBound (.int k lo) n .sliceB).run P w=.ok lo w:=Yh h1
  have hr:(execOp (ev f) ⟨d,.slice t x (some y1) none none,ty,ps,af,gd⟩).run P w=.ok (.value (.slice (if cap=lo then some ⟨g,off,none⟩ else some ((⟨g,off,none⟩:Addr).add (lo*sz))) (n - lo) (cap - lo))) w:=by
   simp[execOp,hx,hl,Instr.sliceAt,Instr.slice,run_underlying h.u,Instr.sliceBounds,e2,sizeOf,typeInfo,hi',hsz]
  have hlen:(cs.drop (lo*sz)).length=(n - lo)*sz:=by rw[List.length_drop,hown.1,←Nat.sub_mul]
  by_cases hc:cap=lo
  ·rw[if_pos hc] at hr
   have hnl:n - lo=0:=by omega
   refine xl hg (xv hr (hK _ ⟨hlen,.inr ⟨g,off,cap - lo,cur,rfl,h2,h3,by omega,by omega,?_,?_⟩⟩ rfl))
   ·have:(cap - lo)*sz≤cap*sz:=Nat.mul_le_mul_right _ (by omega)
    omega
   ·rw[hnl] at hlen ⊢
    have:cs.drop (lo*sz)=[]:=List.eq_nil_of_length_eq_zero (by simpa using hlen)
    rw[this];simp
  ·rw[if_neg hc,Yk] at hr
   refine xl hg (xv hr (hK _ ⟨hlen,.inr ⟨g,off+lo*sz,cap - lo,cur,rfl,h2,h3,by omega,by omega,?_,?_⟩⟩ rfl))
   ·rw[Nat.sub_mul]
    have:lo*sz≤cap*sz:=Nat.mul_le_mul_right _ (by omega)
    omega
   ·rw[←h7,List.drop_take,List.drop_drop,←Nat.sub_mul]
theorem yr {base t ty e:Nat}{sz bys:Nat}{z:Value}[h:Sl P t e sz bys z] {v:Value}{n:Nat}{cs:LV}(hown:YJ w base e sz v n cs)
  {a:Addr} {m c:Nat} {news:LV} (hl:news.length=m*sz) (hm:0<m) (hnews:∀j u,news[j]?=some u→w.cell? (a.add j)=some u) (h1:∀u∈news,u.oneCell'=true)
  (hb:n+m≤1099511627776) (hby:bys≤128) (hbase:base≤w.heap.size) :
  ∃v' w',(Builtin.append_ #[t,t] ty #[v,.slice (some a) m c]).run P w=.ok v' w'∧YJ w' base e sz v' (n+m) (cs++news)∧Step (ob v) w w'∧(∀b∈ob v',b∈ob v∨w.heap.size≤b):=by
 obtain ⟨i,hi,hz,hsz,hbys⟩:=Sl.info h
 have hbytes:(n+m)*bys≤140737488355328:=Nat.le_trans (Nat.mul_le_mul hb hby) (by omega)
 have h63:n+m≤maxLen:=by simp only[maxLen];omega
 have new:∀(old:Nat),∀o',o'=(Obj.cells (cs.toArray++news.toArray++Builtin.zeroCells z.cells (grownCap w (n+m) old e - (n+m))) e) →
    YJ (w.drew.alloc o') base e sz (.slice (some ⟨w.heap.size,0,none⟩) (n+m) (grownCap w (n+m) old e)) (n+m) (cs++news):=by
   intro old o' ho'
   subst ho'
   have hge:=grownCap_ge w (n+m) old e
   have hcm:grownCap w (n+m) old e≤maxLen:=grownCap_le_maxLen w (n+m) old e h63
   have hlen:(cs++news).length=(n+m)*sz:=by rw[List.length_append,hown.1,hl,Nat.add_mul]
   refine YJ.of_row ⟨hlen,.inr ⟨w.heap.size,_,_,rfl,hbase,JZ w.drew _,hge,hcm,?_,?_⟩⟩
   ·simp only[Array.size_append,List.size_toArray,size_zeroCells,h.zs,hown.1,hl,←Nat.add_mul]
    congr 1;omega
   ·simp only[Array.toList_append,List.append_assoc]
    rw[←List.append_assoc,←hlen]
    exact List.take_left
 have stp:∀o',Step (ob v) w (w.drew.alloc o'):=λo'=>⟨rfl,rfl,rfl,by rw[ja];exact Nat.le_succ _,λk hk _=>QbJ w.drew o' k hk⟩
 have fin:∀(b:Nat),b∈ob (.slice (some ⟨w.heap.size,0,none⟩) (n+m) 0)→b∈ob v∨w.heap.size≤b:=λb hb'=>by simp[ob] at hb';omega
 rcases hown.2 with ⟨rfl,rfl⟩ | ⟨g,off,cap,cur,rfl,hbg,hgg,hnc,hcm,hcs,htake⟩
 ·have hx:cs=[]:=List.eq_nil_of_length_eq_zero (by simpa using hown.1)
  subst hx
  have hr:=run_append_nil (P:=P) w t ty e i z h.u hi hz a m c news (by rw[hsz];exact hl) hnews hm (by omega) (by rw[hbys];have hb2:=hbytes;simp only[Nat.zero_add] at hb2;omega)
  have hn:=new 0 _ rfl
  simp only[Nat.zero_add,List.nil_append,Array.empty_append] at hn ⊢
  exact ⟨_,_,hr,hn,stp _,λb hb'=>fin b hb'⟩
 ·rcases Nat.lt_or_ge cap (n+m) with hroom | hroom
  ·have holds:=Qci (w:=w) hgg htake
   have hr:=run_append_grow (P:=P) w t ty e i z h.u hi hz ⟨g,off,none⟩ n cap cs (by rw[hsz];exact hown.1) holds a m c news (by rw[hsz];exact hl) hnews hroom (by omega) (growslice_fits hroom (by rw[hbys];exact hbytes))
   exact ⟨_,_,hr,new cap _ rfl,stp _,λb hb'=>fin b hb'⟩
  ·have hfit:off+n*i.size+news.length≤cur.size:=by
    rw[hl,hsz]
    have:(n+m)*sz≤cap*sz:=Nat.mul_le_mul_right _ hroom
    rw[Nat.add_mul] at this;omega
   have hf:=run_firstCells_some (P:=P) w i.size m a m c news (by rw[hsz];exact hl) hnews
   have hst:=run_storeCells_at P g (off+n*i.size) e news 0 cur w hgg (by simpa using hfit) h1
   simp only[Nat.add_zero] at hst
   have hr:(Builtin.append_ #[t,t] ty #[.slice (some ⟨g,off,none⟩) n cap,.slice (some a) m c]).run P w =
     .ok (.slice (some ⟨g,off,none⟩) (n+m) cap) (w.setRow g (cur.toList.take (off+n*i.size)++news++cur.toList.drop (off+n*i.size+news.length)).toArray):=by
    simp[Builtin.append_,run_underlying h.u,sizeOf,typeInfo,hi,Builtin.lenOf,hroom,hf,Yk,hst]
   refine ⟨_,_,hr,⟨by rw[List.length_append,hown.1,hl,Nat.add_mul],.inr ⟨g,off,cap,_,rfl,hbg,setRow_heap w g _ _ e (0,0) hgg,hroom,hcm,?_,?_⟩⟩,?_,λb hb'=>.inl hb'⟩
   ·simp only[List.size_toArray,List.length_append,List.length_take,List.length_drop,Array.length_toList]
    omega
   ·have hsz':cur.toList.length=cur.size:=Array.length_toList
    rw[hsz] at hfit ⊢
    have e1:(cur.toList.take (off+n*sz)).drop off=cs:=by
     rw[List.drop_take,show off+n*sz - off=n*sz by omega];exact htake
    have e2:(List.toArray (cur.toList.take (off+n*sz)++news++cur.toList.drop (off+n*sz+news.length))).toList.drop off=cs++news++cur.toList.drop (off+n*sz+news.length):=by
     show (cur.toList.take (off+n*sz)++news++cur.toList.drop (off+n*sz+news.length)).drop off=_
     rw[List.append_assoc,List.drop_append_of_le_length (by rw[List.length_take];omega),e1,List.append_assoc]
    rw[e2]
    have hlen:(cs++news).length=(n+m)*sz:=by rw[List.length_append,hown.1,hl,Nat.add_mul]
    rw[←hlen]
    exact List.take_left
   ·exact Step.setRow w g _
theorem QjA {t e sz bys:Nat}{z:Value}[h:Sl P t e sz bys z] {s y:Operand}{base:Nat}{v:Value}{n:Nat}{cs:LV}(hown:YJ w base e sz v n cs) (hs:ev f s=v)
  {a:Addr} {m c:Nat} {news:LV} (hy:ev f y=.slice (some a) m c) (hl:news.length=m*sz) (hm:0<m) {L:LN} (hsrc:At L w.heap a news) (h1:∀u∈news,u.oneCell'=true)
  (hb:n+m≤1099511627776) (hbase:base≤w.heap.size)
  (hK:∀v' w',YJ w' base e sz v' (n+m) (cs++news)→Step (ob v) w w'→(∀b∈ob v',b∈ob v∨w.heap.size≤b)→K (QU f d v') w') (hby:bys≤128:=by decide) :
  XO P ⟨d,.call ⟨.builtin .append,#[s,y],#[t,t]⟩,ty,ps,af,gd⟩ f w K:=by
 obtain ⟨v',w',hr,h2,h3,h4⟩:=yr (P:=P) (t:=t) (ty:=ty) hown hl hm hsrc.cells h1 hb hby hbase (c:=c)
 have hr':(execOp (ev f) ⟨d,.call ⟨.builtin .append,#[s,y],#[t,t]⟩,ty,ps,af,gd⟩).run P w=.ok (.value v') w':=by
  simp[execOp,resolve,invoke,builtin,hs,hy,hr]
 exact xv hr' (hK v' w' h2 h3 h4)
end
abbrev JE (e base:Nat) (w:World) (v:Value) (l:LI):Prop:=YJ w base e 1 v l.length (l.map (.int .i64))
theorem JE.snoc {e base:Nat}{w:World}{v:Value}{l:LI}{n:Int}(h:YJ w base e 1 v (l.length+1) (l.map (Value.int .i64)++[.int .i64 n])):JE e base w v (l++[n]):=by
 unfold JE;simpa using h
theorem JE.tail {e base:Nat}{w:World}{v:Value}{s:Int}{l:LI}(h:YJ w base e 1 v ((s::l).length - 1) (((s::l).map (Value.int .i64)).drop (1*1))):JE e base w v l:=by
 unfold JE;simpa using h
end Go.Lg
