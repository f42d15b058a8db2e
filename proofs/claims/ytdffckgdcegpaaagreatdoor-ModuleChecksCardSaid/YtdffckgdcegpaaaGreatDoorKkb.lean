/- Merged out of 55 texts. -/
import Derived.Test.YtdffckgdcegpaaaGreatDoorKka
import Derived.Laws.Strings
import Derived.RangeFuncNested
import Derived.RangeFuncLeaves
import Derived.RangeFuncCalls
import Derived.OrdersIn
import Derived.TacticsIn
namespace Go.Proofs.YtdffckgdcegpaaaGreatDoor
open Go.Proofs.Tryz
open Go.Lg
theorem Qan {m:List ((Int×Int)×Value)}{es:List Ed}{k:Nat}(h:k<es.length):VD m (es.take (k+1))=mput (VD m (es.take k)) (es[k].1,es[k].2.1) (.int .i64 es[k].2.2):=by
 unfold VD
 rw[List.take_succ_eq_append_getElem h,List.foldl_append];rfl
theorem QgC {L:LN}{w:World}{vl:Value}{ps:List AV}(h:Xu L w.heap vl ps) (hn:ps.length≤12) (hal:∀p∈ps,p.a.al.length≤32) (hL:∀b∈L,b<w.heap.size) :
  QL prog 140 [vl] w λr w'=>Step [] w w'∧∃ve vs ms,r=.agg #[vl,ve,vs]∧JN L w'.heap vl ve vs ps ms∧Qt 3 w.heap.size w' ve (evs (ps.map (·.a))):=by
 refine QL.of_W func140 rfl ntmps140 results140 (by simp) ?_
 refine Qc<|xl rfl<|Qu (us:=[nS,nS,nS]) rfl λb2 w1 hs1 hb2 hB2=>xe ?_
 refine Qc<|Qb<|Qb<|xl rfl<|xf<|(QcE (h.ext hs1) hn hal).mono ?_
 rintro ve w2 ⟨hs2,hve⟩
 have hel:=zV (ps.map (·.a)) (λa ha=>by obtain ⟨p,hp,rfl⟩:=List.mem_map.1 ha;exact hal p hp)
 have hevl:(evs (ps.map (·.a))).length≤1000:=by simp at hel;omega
 have hveA:=Qt.ints (L:=[]) hve (by omega) (by simp)
 refine x (QE ⟨h.arr.cells,hveA.cells,trivial⟩)<|xl rfl<|Qu (us:=[nS,nS,nS]) rfl λb3 w3 hs3 hb3 hB3 =>
  xl rfl<|Qo (us:=[vl,ve,nS]) hB3 rfl rfl rfl rfl ⟨h.arr.one,hveA.one,rfl,trivial⟩ λw4 hs4 hB3=>xe ?_
 have hz1:=hs1.size
 have hz2:=hs2.size
 have hS4:Step [] w2 w4:=hs3.then1 hs4 hb3
 have hz4:=hS4.size
 have hl2:=hB2.lt
 have hl3:=hB3.lt
 have hW4:Step [] w w4:=(hs1.trans hs2).trans hS4
 have hve4:=Qq hve hS4
 refine Qf<|Qc<|Qb<|x (Qs h.arr rfl)<|Qb<|xe ?_
 have hevlt:=QQ hve
 refine Qg<|QC (α:=Nat×LN×Value) [(5,6),(8,8),(15,42)] (λz=>[(15,.int .i64 z.1)])
  (λz w'=>z.1≤ps.length∧z.2.1.length=z.1∧Step [b3] w4 w'∧Q0 w'.heap b3 243 [vl,ve,z.2.2]∧w'.ownsRow w4.heap.size 225 1 z.2.2 z.2.1.length (z.2.1.flatMap Qbk) ∧
   (∀i (h:i<z.2.1.length) (h':i<ps.length),ZZ Y0 w'.heap z.2.1[i] (VD [] ps[i].a.ed)∧w4.heap.size≤z.2.1[i]∧z.2.1[i]∉ob z.2.2)) (λz=>ps.length - z.1) (by rfl) (0,[],nS) ⟨rfl,trivial⟩
  ⟨Nat.zero_le _,rfl,Step.refl _ _,hB3,QO _ _ _ _,λi h=>by simp at h⟩ ?_
 rintro ⟨k,ms,vs⟩ g w5 ⟨hk,hml,hs5,hB5,ho5,hmp5⟩
 simp only[] at hk hml hs5 hB5 ho5 hmp5
 have hW5:Step [] w w5:=hW4.then1 hs5 (by omega)
 have hz5:=hs5.size
 have hge5:=Qk ho5
 refine Qc<|x (QB rfl rfl)<|xe ?_
 refine Qf<|QH rfl (λh16=>?_) (λh16=>?_)
 ·have hke:k=ps.length:=by omega
  subst hke
  refine Qz ?_
  refine Qc ?_
  have hvsA:=QS (L:=[]) ho5 (by omega) (by simp)
  refine x (Qr hB5 rfl rfl)<|xl rfl<|Qo (us:=[vl,ve,vs]) (((hB2.ext hs2).ext hS4).step hs5 (by simp;omega)) rfl rfl rfl rfl ⟨h.arr.one,hveA.one,hvsA.one,trivial⟩ λw6 hs6 hB6=>xe ?_
  have hW6:=hW5.then1 hs6 hb2
  have hve6:Qt 3 w1.heap.size w6 ve _:=Qj (Qj hve4 hs5 (λb hb=>by have:=hevlt b hb;simp;omega)) hs6 (λb hb=>by have:=(Qk hve b hb).1;simp;omega)
  have ho6:=Qj ho5 hs6 (λb hb=>by have:=(hge5 b hb).1;simp;omega)
  refine Qm ⟨[.agg #[vl,ve,vs]],⟨⟨_,rfl,QA rfl (hB6.at (L:=[]) (by simp)).cells⟩,trivial⟩,hW6,ve,vs,ms,rfl,⟨h.ext hW6,Qt.ints hve6 (by omega) (λb hb=>by have:=hL b hb;omega),hml,QS ho6 (by omega) (λb hb hbL=>by have:=hL b hbL;have:=(Qk ho6 b hb).1;omega),λi h1 h2=>⟨?_,λhbL=>by have:=hL _ hbL;have:=(hmp5 i h1 h2).2.1;omega⟩⟩,Zi hve6 hz1⟩
  obtain ⟨m1,m2,_⟩:=hmp5 i h1 h2
  exact m1.step hs6 (λhb=>by
   simp only[List.mem_singleton] at hb
   have h7:=(((hB2.ext hs2).ext hS4).step hs5 (by simp;omega))
   rw[hb] at m1
   obtain ⟨es,c,m4,_⟩:=m1
   unfold Q0 at h7
   rw[h7] at m4;cases m4)
 have hlt:k<ps.length:=by omega
 have hA:=h.each ps[k] (List.getElem_mem hlt)
 refine Qi<|Qf<|Qg<|Qc<|xig Km (h.ext hW5).arr rfl rfl hlt λa17 h17=>x (QJ h17 rfl rfl)<|xl rfl<|Qu (us:=[nS,.int .i64 0,nS,nS]) rfl λb5 w7 hs7 hb5 hB5' =>
  xl rfl<|Qo (us:=Zh ps[k]) hB5' rfl rfl rfl rfl ⟨hA.al.one,rfl,hA.mr.one,hA.ed.one,trivial⟩ λw8 hs8 hBa=>xe ?_
 have hs58:Step [] w5 w8:=hs7.then1 hs8 hb5
 have hz8:=hs58.size
 have hl5:=hBa.lt
 refine Qc<|xl rfl<|Yk Y0 λbm w9 hs9 hbm hm9=>Qe ?_
 have hz9:=hs9.size
 have hlm:=hm9.lt
 have hs59:=hs58.trans hs9
 have hW9:=hW5.trans hs59
 refine Qf<|Qc<|x (Qa rfl)<|x (Qd (hBa.ext hs9) rfl rfl)<|x (Qs hA.ed rfl)<|Qb<|xe ?_
 have hed9:=(hA.ed.up (L':=[bm]) (λb hb=>.inr (by simp at hb;have:=hW5.size;omega))).ext hW9
 have hedl:=hA.ed.le
 refine Qg<|QC (α:=Nat) [(8,8),(23,35)] (λz=>[(23,.int .i64 z)]) (λz w'=>z≤ps[k].a.ed.length∧Step [bm] w9 w'∧ZZ Y0 w'.heap bm (VD [] (ps[k].a.ed.take z))) (λz=>ps[k].a.ed.length - z) (by rfl) 0 ⟨rfl,trivial⟩
  ⟨Nat.zero_le _,Step.refl _ _,hm9⟩ ?_
 rintro j g2 w10 ⟨hj,hs10,hm10⟩
 have hz10:=hs10.size
 refine Qc<|x (QB rfl rfl)<|xe ?_
 refine Qf<|QH rfl (λh24=>?_) (λh24=>?_)
 ·refine Qz ?_
  rw[List.take_of_length_le (by omega)] at hm10
  have hs510:Step [] w5 w10:=hs59.then1 hs10 (by omega)
  have hB10:Q0 w10.heap b3 243 [vl,ve,vs]:=hB5.ext hs510
  refine Qw<|x (Qa rfl)<|x (Qd hB10 rfl rfl)<|Qb<|xl rfl<|QD (us:=[[.map (some bm)]]) rfl rfl (by decide) (by simp) ⟨rfl,rfl,trivial⟩ λb39 w11 hs11 hb39 hB39=>?_
  have hs511:=hs510.trans hs11
  have ho11:=Qq ho5 hs511
  have hz11:=hs511.size
  refine xl rfl<|QY (news:=[.map (some bm)]) (L:=[]) ho11 rfl rfl rfl (hB39.at (by simp)) (by simp[Value.oneCell']) (by omega) (by omega) λv12 w12 ho12 hs12 hn12=>?_
  have ho12':w12.ownsRow w4.heap.size 225 1 v12 (ms++[bm]).length ((ms++[bm]).flatMap Qbk):=by
   rw[List.length_append,List.flatMap_append];simpa using ho12
  have hB12:=(hB10.ext hs11).step hs12 (QN ho5 (by omega))
  refine x (Qa rfl)<|xl rfl<|QG hB12 rfl rfl (by simp) (QS (L:=[]) ho12' (by simp;omega) (by simp)).one λw13 hs13 hB13=>xe ?_
  refine Qw<|x (Qx rfl rfl ⟨by omega,by omega⟩)<|Qb<|xe ?_
  have hnew:∀b∈ob v12,w4.heap.size≤b:=λb hb=>(Qk ho12' b hb).1
  have hz10':w10.heap.size≤w11.heap.size:=hs11.size
  refine ⟨(k+1,ms++[bm],v12),by simp only[];omega,⟨rfl,trivial⟩,hlt,by simp[hml],?_,hB13,Qj ho12' hs13 (λb hb=>by have:=hnew b hb;simp;omega),?_⟩
  ·exact ((hs5.trans hs511).then hs12 (λb hb=>.inr (hge5 b hb).1)).trans' hs13
  ·intro i h1 h2
   simp only[List.length_append,List.length_singleton] at h1
   have keep:∀(c:Nat) (m:List ((Int×Int)×Value)),ZZ Y0 w10.heap c m→c≠b3→c∉ob vs→ZZ Y0 w13.heap c m:=λc m hm hc3 hcv =>
    ((hm.ext hs11).step hs12 hcv).step hs13 (by simpa using hc3)
   by_cases hi:i<ms.length
   ·obtain ⟨m1,m2,m3⟩:=hmp5 i hi h2
    simp only[List.getElem_append_left hi]
    refine ⟨keep _ _ (m1.ext hs510) (by omega) m3,m2,λhb=>?_⟩
    have hlt5:=m1.lt
    rcases hn12 _ hb with h5 | h5
    ·exact m3 h5
    ·omega
   ·have hi':i=ms.length:=by omega
    subst hi'
    simp only[List.getElem_append_right (Nat.le_refl _),Nat.sub_self,List.getElem_singleton]
    have hq:ms.length=k:=hml
    have e2:ps[ms.length]=ps[k]:=by simp only[hq]
    rw[e2]
    refine ⟨keep _ _ hm10 (by omega) (λhb=>by have:=(hge5 _ hb).2;omega),by omega,λhb=>?_⟩
    rcases hn12 _ hb with h5 | h5
    ·have:=(hge5 _ h5).2;omega
    ·omega
 have hlt2:j<ps[k].a.ed.length:=by omega
 refine Qi<|Qf<|Qg<|Qc<|xie (hed9.st hs10) rfl rfl hlt2 λa25 h25=>x (QJ h25 rfl rfl)<|xl rfl<|Qu (us:=[.int .i64 0,.int .i64 0,.int .i64 0]) rfl λb8 w14 hs14 hb8 hB8=>xl rfl<|Qo (us:=Qy ps[k].a.ed[j]) hB8 rfl rfl rfl rfl ⟨rfl,rfl,rfl,trivial⟩ λw15 hs15 hB8=>xe ?_
 have hs1015:Step [] w10 w15:=hs14.then1 hs15 hb8
 refine Qw<|Qb<|x (Qa rfl)<|x (Qd hB8 rfl rfl)<|x (Qa rfl)<|x (Qd hB8 rfl rfl)<|x (QE ⟨rfl,rfl,trivial⟩)<|x (Qa rfl) <|
  x (Qd hB8 rfl rfl)<|xl rfl<|Xe (k:=(ps[k].a.ed[j].1,ps[k].a.ed[j].2.1)) (hm10.ext hs1015) rfl rfl λw16 hs16 hm16=>xe ?_
 refine Qw<|x (Qx rfl rfl ⟨by omega,by omega⟩)<|Qb<|xe ?_
 refine ⟨j+1,by omega,⟨rfl,trivial⟩,hlt2,(hs10.trans hs1015).trans' hs16,?_⟩
 rw[Qan hlt2]
 exact hm16
theorem Qai {L:LN}{w:World}{vl ve vs:Value}{ps:List AV}{ms:LN}(h:JN L w.heap vl ve vs ps ms) (hn:ps.length≤12) :
  QL prog 141 [.agg #[vl,ve,vs]] w λr w'=>Step [] w w' ∧
   if ∃p∈ps,p.a.st=0 then r=.tuple #[nS,.bool false] else ∃v,r=.tuple #[v,.bool true]∧Qt 3 w.heap.size w' v (List.replicate ps.length 0):=by
 refine QL.of_W func141 rfl ntmps141 results141 (by simp) ?_
 refine Qc<|xl rfl<|QR (us:=[vl,ve,vs]) rfl λb1 w1 hs1 hb1 hB1=>x Qh<|Qe<|Qf<|Qc<|x (Qa rfl)<|x (Qd hB1 rfl rfl)<|x (Qs h.al.arr rfl)<|Qb<|xe ?_
 refine Qg<|QC (α:=Nat) [(2,3),(5,5),(9,16)] (λz=>[(9,.int .i64 z)]) (λz w'=>z≤ps.length∧Step [] w1 w'∧∀i (h:i<ps.length),i<z→ps[i].a.st≠0) (λz=>ps.length - z) (by rfl) 0 ⟨rfl,trivial⟩
  ⟨Nat.zero_le _,Step.refl _ _,λi _ h=>by omega⟩ ?_
 rintro k g w2 ⟨hk,hs2,hnz⟩
 refine Qc<|x (QB rfl rfl)<|xe ?_
 refine Qf<|QH rfl (λh10=>?_) (λh10=>?_)
 ·refine Qz ?_
  refine Qc<|x (Qa rfl)<|x (Qd (hB1.ext hs2) rfl rfl)<|x (Qs h.al.arr rfl)<|xl rfl<|Vj (n:=ps.length) rfl rfl (by omega) λb20 w3 hs3 hb20 hB20=>x Qh<|Qe ?_
  rw[show (List.replicate ps.length (Value.int .i64 0).cells.toList).flatten=((List.replicate ps.length 0).map (Value.int .i64)) by rw[show (Value.int .i64 0).cells.toList=[Value.int .i64 0] from rfl,yz,List.map_replicate]] at hB20
  have hz:=(hs1.trans hs2).size
  refine Qm ⟨[.slice (some ⟨b20,0,none⟩) ps.length ps.length,.bool true],⟨rfl,rfl,trivial⟩,(hs1.trans hs2).trans hs3,?_⟩
  rw[if_neg (by
   rintro ⟨p,hp,h0⟩
   obtain ⟨i,hi,rfl⟩:=List.getElem_of_mem hp
   exact hnz i hi (by omega) h0)]
  refine ⟨_,rfl,?_⟩
  have:=hB20.own (n:=ps.length) (sz:=1) (base:=w.heap.size) (by simp) (by omega) (by omega)
  unfold Qt
  rw[List.length_replicate];exact this
 have hlt:k<ps.length:=by omega
 have hA:=h.al.each ps[k] (List.getElem_mem hlt)
 refine Qi<|Qf<|Qg<|Qc<|xig Km ((h.al.ext hs1).ext hs2).arr rfl rfl hlt λa11 h11=>x (QJ h11 rfl rfl)<|xl rfl<|Qu (us:=[nS,.int .i64 0,nS,nS]) rfl λb5 w4 hs4 hb5 hB5 =>
  xl rfl<|Qo (us:=Zh ps[k]) hB5 rfl rfl rfl rfl ⟨hA.al.one,rfl,hA.mr.one,hA.ed.one,trivial⟩ λw5 hs5 hB5=>xe ?_
 have hs25:Step [] w2 w5:=hs4.then1 hs5 hb5
 refine Qc<|x (Qa rfl)<|x (Qd hB5 rfl rfl)<|x (Q5 rfl rfl)<|xe ?_
 refine Q6 rfl (λh15=>?_) (λh15=>?_)
 ·refine Qc<|x Qh<|Qe<|Qm ⟨[nS,.bool false],⟨rfl,rfl,trivial⟩,(hs1.trans hs2).trans hs25,?_⟩
  rw[if_pos ⟨ps[k],List.getElem_mem hlt,h15⟩];rfl
 refine Qi<|Qw<|x (Qx rfl rfl ⟨by omega,by omega⟩)<|Qb<|xe ?_
 refine ⟨k+1,by omega,⟨rfl,trivial⟩,hlt,hs2.trans hs25,λi hi hik=>?_⟩
 by_cases e:i=k
 ·subst e;exact h15
 ·exact hnz i hi (by omega)
theorem j9 {aa:List QT}{ts:LI}{k:Nat}(h:k<aa.length) (h':k<ts.length):Xg (aa.drop k) (ts.drop k)=(decide (ts[k]∈aa[k].mr) && Xg (aa.drop (k+1)) (ts.drop (k+1))):=by
 rw[List.drop_eq_getElem_cons h,List.drop_eq_getElem_cons h',Xg]
theorem Qcp {L:LN}{w:World}{vl ve vs vt:Value}{ps:List AV}{ms:LN}{ts:LI}(h:JN L w.heap vl ve vs ps ms) (ht:QM L w.heap vt ts) (hl:ts.length=ps.length) (hi:∀p∈ps,Yf p.a.mr) (hn:ps.length≤12) :
  QL prog 143 [.agg #[vl,ve,vs],vt] w λr w'=>r=.bool (Xg (ps.map (·.a)) ts)∧Step [] w w':=by
 refine QL.of_W func143 rfl ntmps143 results143 (by simp) ?_
 refine Qc<|xl rfl<|QR (us:=[vl,ve,vs]) rfl λb2 w1 hs1 hb2 hB2=>Qe<|Qf<|Qc<|x (Qa rfl)<|x (Qd hB2 rfl rfl)<|x (Qs h.al.arr rfl)<|Qb<|xe ?_
 refine Qg<|QC (α:=Nat) [(4,6),(10,23)] (λz=>[(10,.int .i64 z)]) (λz w'=>z≤ps.length∧Step [] w w'∧Xg (ps.map (·.a)) ts=Xg ((ps.map (·.a)).drop z) (ts.drop z)) (λz=>ps.length - z) (by rfl) 0 ⟨rfl,trivial⟩
  ⟨Nat.zero_le _,hs1,rfl⟩ ?_
 rintro k g w2 ⟨hk,hs2,hmk⟩
 refine Qc<|x (QB rfl rfl)<|xe ?_
 refine Qf<|QH rfl (λh11=>?_) (λh11=>?_)
 ·refine Qz ?_
  refine Qc<|Qe<|Qm ⟨[.bool true],⟨rfl,trivial⟩,?_,hs2⟩
  rw[hmk,List.drop_of_length_le (by simp;omega)];rfl
 have hlt:k<ps.length:=by omega
 have hlt':k<ts.length:=by omega
 have hA:=h.al.each ps[k] (List.getElem_mem hlt)
 rw[j9 (by simpa using hlt) hlt',List.getElem_map] at hmk
 refine Qi<|Qf<|Qg<|Qc<|Qb<|xig Km (h.al.ext hs2).arr rfl rfl hlt λa13 h13=>x (QJ h13 rfl rfl)<|xl rfl<|Qu (us:=[nS,.int .i64 0,nS,nS]) rfl λb6 w3 hs3 hb6 hB6=>x Qh <|
  xl rfl<|Qo (us:=Zh ps[k]) hB6 rfl rfl rfl rfl ⟨hA.al.one,rfl,hA.mr.one,hA.ed.one,trivial⟩ λw4 hs4 hB6=>xe ?_
 have hs24:Step [] w2 w4:=hs3.then1 hs4 hb6
 have hst:=hs2.trans hs24
 refine Qf<|QU (Step [] w4) [(0,true),(1,true),(2,true),(3,true),(4,true),(5,true),(6,false),(7,true)] mixed (by rfl) (by kernel_rfl) (Step.drew _ _) ?_
 refine p (λ_=>Qa rfl)<|pq (λ_ hc=>Qd (hB6.ext hc) rfl rfl)<|p (λ_=>Qn)<|p (λ_=>Qn)<|pii rfl (ht.ext hst) rfl rfl hlt' λa19 h19 =>
  pq (λ_ hc=>Qv (h19.ext hc) rfl)<|pk<|xf<|(XQ ((hA.mr.ext hst).ext (Step.drew _ _)) (hi ps[k] (List.getElem_mem hlt)) _).mono ?_
 rintro r5 w5 ⟨rfl,rfl⟩
 refine ⟨Step.drew _ _,?_⟩
 refine p (λ_=>Zp rfl)<|pe ?_
 have hst5:=hst.trans (Step.drew [] w4)
 refine Q2 rfl (λh22=>?_) (λh22=>?_)
 ·refine Qc<|Qe<|Qm ⟨[.bool false],⟨rfl,trivial⟩,?_,hst5⟩
  rw[hmk,show decide (ts[k]∈ps[k].a.mr)=false by simpa using h22];rfl
 refine Qi<|Qw<|x (Qx rfl rfl ⟨by omega,by omega⟩)<|Qb<|xe ?_
 refine ⟨k+1,by omega,⟨rfl,trivial⟩,hlt,hst5,?_⟩
 rw[hmk,show decide (ts[k]∈ps[k].a.mr)=true by simpa using h22,Bool.true_and]
theorem jN {aa:List QT}{ts:LI}{k:Nat}{v:Int}(h:k<aa.length) (h':k<ts.length):Yc v (aa.drop k) (ts.drop k) =
  if v∉aa[k].al then (Yc v (aa.drop (k+1)) (ts.drop (k+1))).map (ts[k]::·) else match eget aa[k].ed ts[k] v with | none=>none | some u=>(Yc v (aa.drop (k+1)) (ts.drop (k+1))).map (u::·):=by
 rw[List.drop_eq_getElem_cons h,List.drop_eq_getElem_cons h']
 show (if v∉aa[k].al then _ else _)=_
 split
 ·rfl
 ·cases eget aa[k].ed ts[k] v <;> rfl
theorem QdP {L:LN}{w:World}{vl ve vs vt:Value}{ps:List AV}{ms:LN}{ts:LI}(h:JN L w.heap vl ve vs ps ms) (ht:QM L w.heap vt ts) (hl:ts.length=ps.length) (hi:∀p∈ps,Yf p.a.al)
  (hed:∀p∈ps,p.a.ed.Pairwise λx y=>x.1<y.1∨(x.1=y.1∧x.2.1<y.2.1)) (hn:ps.length≤12) (v:Int) :
  QL prog 144 [.agg #[vl,ve,vs],vt,.int .i64 v] w λr w'=>Step [] w w' ∧
   match Yc v (ps.map (·.a)) ts with | none=>r=.tuple #[nS,.bool false] | some u=>∃v',r=.tuple #[v',.bool true]∧Qt 3 w.heap.size w' v' u:=by
 refine QL.of_W func144 rfl ntmps144 results144 (by simp) ?_
 refine Qc<|xl rfl<|QR (us:=[vl,ve,vs]) rfl λb3 w1 hs1 hb3 hB3=>x Qh<|Qe<|Qc<|Qb<|xl rfl<|xf<|(ZR (ht.ext hs1)).mono ?_
 rintro vx w2 ⟨hs2,hx2⟩
 refine Qe ?_
 have hz1:=hs1.size
 have hz2:=hs2.size
 have hl3:=hB3.lt
 have hW2:=hs1.trans hs2
 refine Qf<|Qc<|x (Qa rfl)<|x (Qd (hB3.ext hs2) rfl rfl)<|x (Qs h.al.arr rfl)<|Qb<|xe ?_
 have hge:=Qk hx2
 have hM2:JN (ob vx) w2.heap vl ve vs ps ms:=((h.up (L':=ob vx) (λb hb=>.inr (by have:=(hge b hb).1;omega))).ext hW2)
 have hT2:QM (ob vx) w2.heap vt ts:=((ht.up (L':=ob vx) (λb hb=>.inr (by have:=(hge b hb).1;omega))).ext hW2)
 refine Qg<|QC (α:=Nat×LI) [(6,7),(9,12),(18,49)] (λz=>[(18,.int .i64 z.1)])
  (λz w'=>z.1≤ps.length∧z.2.length=z.1∧Step (ob vx) w2 w'∧Qt 3 w1.heap.size w' vx (z.2++ts.drop z.1)∧Yc v (ps.map (·.a)) ts=(Yc v ((ps.map (·.a)).drop z.1) (ts.drop z.1)).map (z.2++·)) (λz=>ps.length - z.1) (by rfl) (0,[]) ⟨rfl,trivial⟩
  ⟨Nat.zero_le _,rfl,Step.refl _ _,hx2,by simp⟩ ?_
 rintro ⟨k,pre⟩ g w3 ⟨hk,hpl,hs3,hx3,hst⟩
 simp only[] at hk hpl hx3 hst
 have hz3:=hs3.size
 have hW3:Step [] w w3:=hW2.then hs3 (λb hb=>.inr (by have:=(hge b hb).1;omega))
 refine Qc<|x (QB rfl rfl)<|xe ?_
 refine Qf<|QH rfl (λh19=>?_) (λh19=>?_)
 ·refine Qz ?_
  refine Qc<|Qb<|x Qh<|Qe<|Qm ⟨[vx,.bool true],⟨rfl,rfl,trivial⟩,hW3,?_⟩
  rw[List.drop_of_length_le (by simp;omega),List.drop_of_length_le (by omega)] at hst
  rw[List.drop_of_length_le (by omega)] at hx3
  rw[hst]
  simp only[Yc,Option.map_some]
  exact ⟨vx,rfl,Zi hx3 hz1⟩
 have hlt:k<ps.length:=by omega
 have hlt':k<ts.length:=by omega
 have hltm:k<ms.length:=by rw[h.ml];exact hlt
 have hA:=h.al.each ps[k] (List.getElem_mem hlt)
 rw[jN (by simpa using hlt) hlt',List.getElem_map] at hst
 have hM3:=hM2.st hs3
 have hT3:=hT2.st hs3
 refine Qi<|Qf<|Qg<|Qc<|Qb<|xig Km hM3.al.arr rfl rfl hlt λa21 h21=>x (QJ h21 rfl rfl)<|xl rfl<|Qu (us:=[nS,.int .i64 0,nS,nS]) rfl λb10 w4 hs4 hb10 hB10=>x Qh <|
  xl rfl<|Qo (us:=Zh ps[k]) hB10 rfl rfl rfl rfl ⟨hA.al.one,rfl,hA.mr.one,hA.ed.one,trivial⟩ λw5 hs5 hB10=>xe ?_
 have hs35:Step [] w3 w5:=hs4.then1 hs5 hb10
 have hW5:=hW3.trans hs35
 refine Qf<|Qc<|x (Qa rfl)<|x (Qd hB10 rfl rfl)<|Qb<|xl rfl<|xf<|(XQ (hA.al.ext hW5) (hi ps[k] (List.getElem_mem hlt)) v).mono ?_
 rintro r6 w6 ⟨rfl,rfl⟩
 refine x (Zp rfl)<|xe ?_
 have hdr:=QW hlt'
 refine Q2 rfl (λh27=>?_) (λh27=>?_)
 ·have hna:v∉ps[k].a.al:=by simpa using h27
  refine Qz ?_
  refine Qw<|x (Qx rfl rfl ⟨by omega,by omega⟩)<|Qb<|xe ?_
  refine ⟨(k+1,pre++[ts[k]]),by simp only[];omega,⟨rfl,trivial⟩,hlt,by simp[hpl],hs3.trans hs35,?_,?_⟩
  ·simp only[List.append_assoc,List.singleton_append]
   rw[←hdr];exact Qq hx3 hs35
  ·simp only[]
   rw[hst,if_pos hna,Option.map_map]
   congr 1;funext l;simp
 have hya:¬(v∉ps[k].a.al):=by simpa using h27
 rw[if_neg hya] at hst
 refine Qi ?_
 have hB3':=(hB3.ext hs2).step hs3 (λhb=>by have:=(hge b3 hb).1;omega)
 have hM5:=hM3.ext hs35
 obtain ⟨hmk,hmo⟩:=hM5.mp k hltm hlt
 refine Qf<|QU (Step [] w6) [(0,true),(1,true),(2,true),(3,true),(4,true),(5,true),(6,true),(7,true),(8,true),(9,true),(10,true),(11,true),(12,true),(13,true),(14,true),(15,true),(16,true)] mixed (by rfl) (by kernel_rfl) (Step.drew _ _) ?_
 refine p (λ_=>Qa rfl)<|pq (λ_ hc=>Qd ((hB3'.ext hs35).ext hc) rfl rfl)<|p (λ_=>Qn)<|pig rfl (g:=Qbk) (λ_=>rfl) hM5.sl rfl rfl hltm λa32 h32 =>
  pq (λ_ hc=>Qv (h32.ext hc) rfl)<|p (λ_=>Qn)<|p (λ_=>Qn)<|pii rfl (hT3.ext hs35) rfl rfl hlt' λa36 h36=>pq (λ_ hc=>Qv (h36.ext hc) rfl) <|
  p (λ_=>Qn)<|p (λ_=>QE ⟨rfl,rfl,trivial⟩)<|pq (λ_ hc=>KE (k:=(ts[k],v)) (hmk.ext hc) rfl rfl)<|?_
 rw[qP ps[k].a.ed [] ts[k] v (hed ps[k] (List.getElem_mem hlt))]
 have hs36:Step [] w3 { w6 with drawn:=w6.drawn+1 }:=hs35.trans (Step.drew [] w6)
 cases he:eget ps[k].a.ed ts[k] v with
 | none =>
  rw[he] at hst
  refine p (λ_=>Qn)<|p (λ_=>Qp rfl rfl)<|p (λ_=>Qp rfl rfl)<|p (λ_=>Qh)<|p (λ_=>Qh)<|pe ?_
  refine Qf<|Qc<|Qb<|x (Zp rfl)<|xe ?_
  refine UQ rfl ?_
  refine Qc<|x Qh<|Qe<|Qm ⟨[nS,.bool false],⟨rfl,rfl,trivial⟩,hW3.trans hs36,?_⟩
  rw[hst];rfl
 | some u =>
  rw[he] at hst
  refine p (λ_=>Qn)<|p (λ_=>Qp rfl rfl)<|p (λ_=>Qp rfl rfl)<|p (λ_=>Qh)<|p (λ_=>Qh)<|pe ?_
  refine Qf<|Qc<|Qb<|x (Zp rfl)<|xe ?_
  refine Ye rfl ?_
  refine Qi ?_
  have hx6:=Qq hx3 hs36
  have hlen:(pre++ts.drop k).length=ts.length:=by simp;omega
  obtain ⟨gx,cx,hvx⟩:=Qck hx3 (by omega)
  have hobx:ob vx=[gx]:=by rw[hvx];rfl
  refine Qw<|Qb<|Qb<|Qb<|x (Zf hvx rfl (by omega))<|xl rfl<|QdY (u:=.int .i64 u) (by rw[hvx] at hx6;exact hx6) rfl rfl (by omega) rfl λw7 hs7 hx7=>xe ?_
  refine Qw<|x (Qx rfl rfl ⟨by omega,by omega⟩)<|Qb<|xe ?_
  have hset:(pre++ts.drop k).set k u=(pre++[u])++ts.drop (k+1):=by
   rw[hdr,List.set_append_right _ _ (by omega),hpl,Nat.sub_self,List.set_cons_zero,List.append_assoc];rfl
  refine ⟨(k+1,pre++[u]),by simp only[];omega,⟨rfl,trivial⟩,hlt,by simp[hpl],(hs3.trans hs36).then hs7 (λb hb=>.inl (by rw[hobx];exact hb)),?_,?_⟩
  ·simp only[]
   rw[←hset]
   unfold Qt
   rw[List.length_set,List.map_set,hvx];exact hx7
  ·simp only[]
   rw[hst,Option.map_map]
   congr 1;funext l;simp
theorem Kw {n:Nat}(h:n<256):(UInt8.ofNat n).toNat=n:=by
 simp[Nat.mod_eq_of_lt h]
theorem jf (u:Nat):(32:UInt8)∉Lib.decDigits u:=by
 induction u using Nat.strongRecOn with
 | _ u ih =>
  unfold Lib.decDigits
  split
  ·intro h
   simp only[List.mem_singleton] at h
   have:=congrArg UInt8.toNat h
   rw[Kw (by omega)] at this
   have h32:(32:UInt8).toNat=32:=rfl
   omega
  ·intro h
   rcases List.mem_append.1 h with h | h
   ·exact ih _ (by omega) h
   ·simp only[List.mem_singleton] at h
    have:=congrArg UInt8.toNat h
    rw[Kw (by omega)] at this
    have h32:(32:UInt8).toNat=32:=rfl
    omega
def dval (l:List UInt8):Nat:=l.foldl (λa b=>a*10+(b.toNat - 48)) 0
theorem jd (u:Nat):dval (Lib.decDigits u)=u:=by
 induction u using Nat.strongRecOn with
 | _ u ih =>
  unfold Lib.decDigits
  split
  ·simp only[dval,List.foldl_cons,List.foldl_nil]
   rw[Kw (by omega)];omega
  ·have:=ih (u / 10) (by omega)
   unfold dval at *
   rw[List.foldl_append,this]
   simp only[List.foldl_cons,List.foldl_nil]
   rw[Kw (by omega)];omega
theorem QaR:∀{a b r r':List UInt8},(32:UInt8)∉a→(32:UInt8)∉b→a++32::r=b++32::r'→a=b∧r=r'
 | [],[],_,_,_,_,h=>by simpa using h
 | [],y::b,_,_,_,hb,h=>by simp at h;exact absurd h.1 (by intro e;exact hb (by simp[e]))
 | x::a,[],_,_,ha,_,h=>by simp at h;exact absurd h.1 (by intro e;exact ha (by simp[e]))
 | x::a,y::b,_,_,ha,hb,h=>by
  simp only[List.cons_append,List.cons.injEq] at h
  have:=QaR (λe=>ha (List.mem_cons_of_mem _ e)) (λe=>hb (List.mem_cons_of_mem _ e)) h.2
  exact ⟨by rw[h.1,this.1],this.2⟩
theorem yQ:∀{l l':LI},(∀n∈l,0≤n)→(∀n∈l',0≤n)→Xp l=Xp l'→l=l'
 | [],[],_,_,_=>rfl
 | [],y::b,_,_,h=>by simp[Xp] at h
 | x::a,[],_,_,h=>by simp[Xp] at h
 | x::a,y::b,ha,hb,h=>by
  have h':Lib.decDigits x.toNat++32::Xp a=Lib.decDigits y.toNat++32::Xp b:=by simpa[Xp] using h
  obtain ⟨h1,h2⟩:=QaR (jf _) (jf _) h'
  have h3:x.toNat=y.toNat:=by rw[←jd x.toNat,←jd y.toNat,h1]
  have h4:=yQ (λn hn=>ha n (List.mem_cons_of_mem _ hn)) (λn hn=>hb n (List.mem_cons_of_mem _ hn)) h2
  have h5:=ha x List.mem_cons_self
  have h6:=hb y List.mem_cons_self
  rw[h4,show x=y by omega]
def Jo (l:LI):ByteArray:=⟨(Xp l).toArray⟩
theorem Qeq {l l':LI}(h1:∀n∈l,0≤n) (h2:∀n∈l',0≤n) (h:Jo l=Jo l'):l=l':=by
 refine yQ h1 h2 ?_
 have:=congrArg (λb:ByteArray=>b.data.toList) h
 simpa[Jo] using this
def Vy (n:Nat) (m:List (ByteArray×Value)) (tup:List (LI)):Prop :=
 ∀u:LI,u.length=n→(∀x∈u,0≤x)→mget m (Jo u)=if u∈tup then some (.int .i64 (tup.idxOf u:Int)) else none
theorem Vy.add {n:Nat}{m:List (ByteArray×Value)}{tup:List (LI)}(h:Vy n m tup) {u:LI}(hu:u∉tup) (h0:∀x∈u,0≤x):Vy n (mput m (Jo u) (.int .i64 (tup.length:Int))) (tup++[u]):=by
 intro v hv h1
 rw[X0]
 by_cases e:u=v
 ·subst e
  rw[if_pos rfl,if_pos (by simp),List.idxOf_append,if_neg hu];simp
 ·rw[if_neg (λhk=>e (Qeq h0 h1 hk)),h v hv h1]
  by_cases hm:v∈tup
  ·rw[if_pos hm,if_pos (by simp[hm]),List.idxOf_append,if_pos hm]
  ·rw[if_neg hm,if_neg (by simp[hm,Ne.symm e])]
structure qY (N b2 b38 b37:Nat) (ve:Value) (wS:World) (s:Sy) (m:List (ByteArray×Value)) (qs:List TV) (vt vk vd:Value) (w:World):Prop where
 st:Step [b2,b38,b37] wS w
 A:Q0 w.heap b2 58 [ve,.int .i64 0,vk,vd]
 M:ZZ Xi w.heap b38 m
 t:qa 37 N w vt qs
 tb:∀b∈ob vt,b=b37∨wS.heap.size≤b
 k:Qt 3 wS.heap.size w vk s.mk'
 e:Z0 144 wS.heap.size w vd s.ed
 q:qs.map (·.2)=s.tup
 el:∀p∈qs,Qt 3 N w p.1 p.2
 sep:∀p∈qs,∀b∈ob p.1,b≠b38∧b∉ob vt∧b∉ob vk∧b∉ob vd
 d1:Dj vt vk
 d2:Dj vt vd
 d3:Dj vk vd
section
variable {N b2 b38 b37:Nat} {ve:Value} {wS:World} {s:Sy} {m:List (ByteArray×Value)} {qs:List TV} {vt vk vd:Value} {w w' w'':World}
theorem qY.ext (h:qY N b2 b38 b37 ve wS s m qs vt vk vd w) (hs:Step [] w w'):qY N b2 b38 b37 ve wS s m qs vt vk vd w' :=
 ⟨h.st.trans hs,h.A.ext hs,h.M.ext hs,Qq h.t hs,h.tb,Qq h.k hs,Qq h.e hs,h.q,λp hp=>Qq (h.el p hp) hs,h.sep,h.d1,h.d2,h.d3⟩
structure SyN (N b2 b38 b37:Nat) (wS:World):Prop where
 l2:b2<N
 l38:b38<wS.heap.size
 l37:b37<wS.heap.size
 n37:N≤b37
 n38:b37<b38
 nS:N≤wS.heap.size
theorem qY.setK (h:qY N b2 b38 b37 ve wS s m qs vt vk vd w) (n:SyN N b2 b38 b37 wS) {vk':Value}{l:LI}(hs:Step (ob vk) w w') (hk':Qt 3 wS.heap.size w' vk' l)
  (hn:∀b∈ob vk',b∈ob vk∨w.heap.size≤b) (hs2:Step [b2] w' w'') (hB:Q0 w''.heap b2 58 [ve,.int .i64 0,vk',vd]):qY N b2 b38 b37 ve wS ⟨s.tup,l,s.ed⟩ m qs vt vk' vd w'':=by
 have hge:=Qk h.k
 have l2:=n.l2;have l38:=n.l38;have n37:=n.n37;have n38:=n.n38;have nS:=n.nS
 refine ⟨(h.st.then hs (λb hb=>.inr (hge b hb).1)).then hs2 (λb hb=>.inl (by simp at hb;simp[hb])),hB,(h.M.step hs (QN h.k (by omega))).step hs2 (by simp;omega),
  Qj (Qj h.t hs h.d1) hs2 (λb hb=>by have:=(Qk h.t b hb).1;simp;omega),h.tb,Qj hk' hs2 (λb hb=>by have:=(Qk hk' b hb).1;simp;omega),
  Qj (Qj h.e hs h.d3.symm) hs2 (λb hb=>by have:=(Qk h.e b hb).1;simp;omega),h.q,
  λp hp=>Qj (Qj (h.el p hp) hs (λb hb=>(h.sep p hp b hb).2.2.1)) hs2 (λb hb=>by have:=(Qk (h.el p hp) b hb).1;simp;omega),
  λp hp b hb=>⟨(h.sep p hp b hb).1,(h.sep p hp b hb).2.1,λhb'=>?_,(h.sep p hp b hb).2.2.2⟩,h.d1.grow hn (QQ h.t),h.d2,(h.d3.symm.grow hn (QQ h.e)).symm⟩
 rcases hn b hb' with h1 | h1
 ·exact (h.sep p hp b hb).2.2.1 h1
 ·have:=QQ (h.el p hp) b hb;omega
theorem qY.setE (h:qY N b2 b38 b37 ve wS s m qs vt vk vd w) (n:SyN N b2 b38 b37 wS) {vd':Value}{l:List Ed}(hs:Step (ob vd) w w') (hk':Z0 144 wS.heap.size w' vd' l)
  (hn:∀b∈ob vd',b∈ob vd∨w.heap.size≤b) (hs2:Step [b2] w' w'') (hB:Q0 w''.heap b2 58 [ve,.int .i64 0,vk,vd']):qY N b2 b38 b37 ve wS ⟨s.tup,s.mk',l⟩ m qs vt vk vd' w'':=by
 have hge:=Qk h.e
 have l2:=n.l2;have l38:=n.l38;have n37:=n.n37;have n38:=n.n38;have nS:=n.nS
 refine ⟨(h.st.then hs (λb hb=>.inr (hge b hb).1)).then hs2 (λb hb=>.inl (by simp at hb;simp[hb])),hB,(h.M.step hs (QN h.e (by omega))).step hs2 (by simp;omega),
  Qj (Qj h.t hs h.d2) hs2 (λb hb=>by have:=(Qk h.t b hb).1;simp;omega),h.tb,Qj (Qj h.k hs h.d3) hs2 (λb hb=>by have:=(Qk h.k b hb).1;simp;omega),
  Qj hk' hs2 (λb hb=>by have:=(Qk hk' b hb).1;simp;omega),h.q,
  λp hp=>Qj (Qj (h.el p hp) hs (λb hb=>(h.sep p hp b hb).2.2.2)) hs2 (λb hb=>by have:=(Qk (h.el p hp) b hb).1;simp;omega),
  λp hp b hb=>⟨(h.sep p hp b hb).1,(h.sep p hp b hb).2.1,(h.sep p hp b hb).2.2.1,λhb'=>?_⟩,h.d1,h.d2.grow hn (QQ h.t),h.d3.grow hn (QQ h.k)⟩
 rcases hn b hb' with h1 | h1
 ·exact (h.sep p hp b hb).2.2.2 h1
 ·have:=QQ (h.el p hp) b hb;omega
theorem qY.setM (h:qY N b2 b38 b37 ve wS s m qs vt vk vd w) (n:SyN N b2 b38 b37 wS) {m':List (ByteArray×Value)}(hs:Step [b38] w w') (hm:ZZ Xi w'.heap b38 m'):qY N b2 b38 b37 ve wS s m' qs vt vk vd w':=by
 have l2:=n.l2;have l38:=n.l38;have n37:=n.n37;have n38:=n.n38;have nS:=n.nS
 exact ⟨h.st.then hs (λb hb=>.inl (by simp at hb;simp[hb])),h.A.step hs (by simp;omega),hm,Qj h.t hs (λb hb=>by have:=h.tb b hb;simp;omega),h.tb,
  Qj h.k hs (λb hb=>by have:=(Qk h.k b hb).1;simp;omega),Qj h.e hs (λb hb=>by have:=(Qk h.e b hb).1;simp;omega),h.q,
  λp hp=>Qj (h.el p hp) hs (λb hb=>by have:=(h.sep p hp b hb).1;simpa using this),h.sep,h.d1,h.d2,h.d3⟩
theorem qY.setT (h:qY N b2 b38 b37 ve wS s m qs vt vk vd w) (n:SyN N b2 b38 b37 wS) {vt' vx:Value}{u:LI}(hx:Qt 3 wS.heap.size w vx u) (hxs:∀b∈ob vx,b∉ob vt∧b∉ob vk∧b∉ob vd) (hs:Step (ob vt) w w')
  (ht':qa 37 N w' vt' (qs++[(vx,u)])) (hn:∀b∈ob vt',b∈ob vt∨w.heap.size≤b):qY N b2 b38 b37 ve wS ⟨s.tup++[u],s.mk',s.ed⟩ m (qs++[(vx,u)]) vt' vk vd w':=by
 have l2:=n.l2;have l38:=n.l38;have n37:=n.n37;have n38:=n.n38;have nS:=n.nS
 have hwz:=h.st.size
 have nott:∀c,c<w.heap.size→c∉ob vt→c∉ob vt':=λc hc hv hv'=>by
  rcases hn c hv' with h1 | h1
  ·exact hv h1
  ·omega
 refine ⟨h.st.then hs (λb hb=>by have:=h.tb b hb;simp;omega),h.A.step hs (λhb=>by have:=h.tb b2 hb;omega),h.M.step hs (λhb=>by have:=h.tb b38 hb;omega),ht',
  λb hb=>?_,Qj h.k hs h.d1.symm,Qj h.e hs h.d2.symm,by rw[List.map_append,h.q];rfl,λp hp=>?_,λp hp b hb=>?_,(h.d1.symm.grow hn (QQ h.k)).symm,(h.d2.symm.grow hn (QQ h.e)).symm,h.d3⟩
 ·rcases hn b hb with h1 | h1
  ·exact h.tb b h1
  ·exact .inr (by omega)
 ·rcases List.mem_append.1 hp with hp | hp
  ·exact Qj (h.el p hp) hs (λb hb=>(h.sep p hp b hb).2.1)
  ·simp only[List.mem_singleton] at hp
   subst hp
   exact Zi (Qj hx hs (λb hb=>(hxs b hb).1)) nS
 ·rcases List.mem_append.1 hp with hp | hp
  ·have:=h.sep p hp b hb
   exact ⟨this.1,nott b (QQ (h.el p hp) b hb) this.2.1,this.2.2⟩
  ·simp only[List.mem_singleton] at hp
   subst hp
   have h1:=(Qk hx b hb)
   have h2:=hxs b hb
   exact ⟨by omega,nott b h1.2 h2.1,h2.2⟩
end
theorem QkO {α:Type}(o:Option α):o=none∨∃t,o=some t:=by cases o;exact .inl rfl;exact .inr ⟨_,rfl⟩
def zA:Value:=.agg #[nS,.int .i64 0,nS,nS]
def Zb:Value:=nS
def Z8 (N:Nat) (H:Array Obj) (aa:List QT) (va vt:Value) (c:Int):Prop :=
 if K9 aa≠0 then c=K9 aa∧va=zA∧vt=Zb else match sync aa with
  | none=>c=3∧va=zA∧vt=Zb
  | some z=>c=0∧Xo N H va z.1∧QaB N H vt z.2
def Yg (s:Sy) (u:LI):Sy:=if u∈s.tup then s else ⟨s.tup++[u],s.mk',s.ed⟩
theorem Qdn (s:Sy) (u:LI):(Yg s u).mk'=s.mk':=by unfold Yg;split <;> rfl
theorem Qdo (s:Sy) (u:LI):(Yg s u).ed=s.ed:=by unfold Yg;split <;> rfl
theorem Qgc {aa:List QT}{i:Nat}{t u:LI}{s:Sy}{v:Int}(h:Yc v aa t=some u) (hl:u∈s.tup∨s.tup.length≠4096) :
  syE aa i t s v=some ⟨(Yg s u).tup,(Yg s u).mk',(Yg s u).ed++[((i:Int),v,((Yg s u).tup.idxOf u:Int))]⟩:=by
 unfold syE Yg
 rw[h]
 simp only[]
 by_cases hu:u∈s.tup
 ·simp only[if_pos hu]
 ·simp only[if_neg hu]
  rw[if_neg (by rcases hl with h1 | h1;exact absurd h1 hu;exact h1),List.idxOf_append,if_neg hu];simp
theorem Qdm {aa:List QT}{i:Nat}{t u:LI}{s:Sy}{v:Int}(h:Yc v aa t=some u) (hu:u∉s.tup) (hl:s.tup.length=4096):syE aa i t s v=none:=by
 unfold syE
 rw[h]
 simp only[]
 rw[if_neg hu,if_pos hl]
theorem Qdk {aa:List QT}{i:Nat}{t:LI}{s:Sy}{v:Int}(h:Yc v aa t=none):syE aa i t s v=some s:=by
 unfold syE;rw[h]
theorem QjH {s:Sy}{qs:List TV}{i:Nat}(hq:qs.map (·.2)=s.tup) (h:i<qs.length):qi s i=qs[i].2:=by
 unfold qi;rw[←hq];simp[List.getD,h]
theorem Vt.bd {aa:List QT}{t:LI}(h:Vt aa t) {m:Int}(hm:∀a∈aa,a.st≤m):∀x∈t,0≤x∧x<m:=by
 intro x hx
 obtain ⟨i,hi,rfl⟩:=List.getElem_of_mem hx
 have hi':i<aa.length:=by rw[←h.1];exact hi
 have:=h.2 i hi hi'
 have:=hm aa[i] (List.getElem_mem hi')
 omega
set_option maxHeartbeats 20000000 in
theorem jB {L:LN}{w:World}{vl:Value}{ps:List AV}{km:Int}(h:Xu L w.heap vl ps) (hkb:Kb w km) (hk0:0<km) (hst:∀p∈ps,p.a.st≤km) :
  QL prog 69 [vl] w λr w'=>Step [] w w'∧∃va vt c,r=.tuple #[va,vt,.int .i64 c]∧Z8 w.heap.size w'.heap (ps.map (·.a)) va vt c:=by
 refine QL.of_W func69 rfl ntmps69 results69 (by simp) ?_
 generalize haa:ps.map (·.a)=aa
 refine Qc<|xl rfl<|Qu (us:=[nS,.int .i64 0,nS,nS]) rfl λb2 w1 hs1 hb2 hB2=>x Qh<|Qe ?_
 have hz1:=hs1.size
 have hl2:=hB2.lt
 refine Qf<|Qc<|Qb<|xl rfl<|xf<|(Qcj (h.ext hs1)).mono ?_
 rintro r2 w2 ⟨rfl,hs2⟩
 refine Qe ?_
 rw[haa]
 refine Qc<|Qb<|x (Q9 rfl rfl)<|xe ?_
 refine Q6 rfl (λh20=>?_) (λh20=>?_)
 ·refine Qc<|x (QE trivial)<|Qb<|xl rfl<|Qo (us:=[nS,.int .i64 0,nS,nS]) (hB2.ext hs2) rfl rfl rfl rfl ⟨rfl,rfl,rfl,rfl,trivial⟩ λw3 hs3 hB3=>x Qh<|Qe<|Qm ⟨[zA,Zb,.int .i64 (K9 aa)],⟨⟨_,rfl,QA rfl (hB3.at (L:=[]) (by simp)).cells⟩,rfl,rfl,trivial⟩,(hs1.trans hs2).then1 hs3 hb2,zA,Zb,K9 aa,rfl,?_⟩
  unfold Z8;rw[if_pos h20];exact ⟨rfl,rfl,rfl⟩
 have hck:K9 aa=0:=Decidable.not_not.1 h20
 have hn:ps.length≤12:=by
  unfold K9 at hck
  split at hck
  ·cases hck
  ·rename_i h1;rw[←haa] at h1;simp at h1;exact h1
 have hokA:∀a∈aa,Zm a:=by
  unfold K9 at hck
  split at hck
  ·cases hck
  ·exact (jj aa).1 hck
 have hok:∀p∈ps,Zm p.a:=λp hp=>hokA p.a (by rw[←haa];exact List.mem_map_of_mem hp)
 have hal:∀p∈ps,p.a.al.length≤32:=λp hp=>(hok p hp).al_le
 have hstA:∀a∈aa,a.st≤km:=λa ha=>by rw[←haa] at ha;obtain ⟨p,hp,rfl⟩:=List.mem_map.1 ha;exact hst p hp
 have hlenA:aa.length=ps.length:=by rw[←haa];simp
 refine Qi<|Qc<|Qb<|xl rfl<|xf<|(QgC (L:=[b2]) (((h.up (λb hb=>.inr (by simp at hb;omega))).ext hs1).ext hs2) hn hal (λb hb=>by simp at hb;have:=hs2.size;omega)).mono ?_
 rintro r4 w4 ⟨hs4,ve,vs,ms,rfl,hM4,hve4⟩
 rw[haa] at hve4
 have hvl:=h.arr.one
 have hel:=zV aa (λa ha=>(hokA a ha).al_le)
 have hevl:(evs aa).length≤1000:=by omega
 have hveA:=Qt.ints (L:=[]) hve4 (by omega) (by simp)
 refine xl rfl<|Qu (us:=[nS,nS,nS]) rfl λb6 w5 hs5 hb6 hB6=>xl rfl<|Qo (us:=[vl,ve,vs]) hB6 rfl rfl rfl rfl ⟨hvl,hveA.one,hM4.sl.one,trivial⟩ λw6 hs6 hB6=>xe ?_
 have hs46:Step [] w4 w6:=hs5.then1 hs6 hb6
 have hz2:=hs2.size
 have hz4:=hs4.size
 have hz6:=hs46.size
 have hl6:=hB6.lt
 refine Qc ?_
 have hB2':=((hB2.ext hs2).ext hs4).ext hs46
 refine x (Qa rfl)<|x (Qd hB6 rfl rfl)<|x (Qa rfl)<|xl rfl<|QG hB2' rfl rfl (by simp) hveA.one λw7 hs7 hB7=>xe ?_
 have hz7:=hs7.size
 have hW7:Step [] w w7:=((((hs1.trans hs2).trans hs4).trans hs46).then1 hs7 hb2)
 have hM7:JN [b2] w7.heap vl ve vs ps ms:=(hM4.ext hs46).st hs7
 have hve7:Qt 3 w2.heap.size w7 ve (evs aa):=Qj (Qq hve4 hs46) hs7 (λb hb=>by have:=(Qk hve4 b hb).1;simp;omega)
 have hB6':=hB6.step hs7 (by simp;omega)
 refine Qc<|x (Qr hB6' rfl rfl)<|xl rfl<|xf<|(Qai hM7 hn).mono ?_
 rintro r8 w8 ⟨hs8,hr8⟩
 have hz8:=hs8.size
 have hB8:=hB7.ext hs8
 have hexA:(∃p∈ps,p.a.st=0)↔(∃a∈aa,a.st=0):=by
  rw[←haa]
  constructor
  ·rintro ⟨p,hp,h0⟩;exact ⟨p.a,List.mem_map_of_mem hp,h0⟩
  ·rintro ⟨a,ha,h0⟩;obtain ⟨p,hp,rfl⟩:=List.mem_map.1 ha;exact ⟨p,hp,h0⟩
 by_cases hz:∃p∈ps,p.a.st=0
 ·rw[if_pos hz] at hr8
  subst hr8
  refine Qb<|x (Qp rfl rfl)<|x (Qp rfl rfl)<|x Qh<|Qe<|Qf<|Qc<|Qb<|x (Zp rfl)<|xe ?_
  refine UQ rfl ?_
  refine Qc<|x (Qr hB8 rfl rfl)<|xl rfl<|Qo (us:=[ve,.int .i64 0,nS,nS]) hB8 rfl rfl rfl rfl ⟨hveA.one,rfl,rfl,rfl,trivial⟩ λw9 hs9 hB9=>x Qh<|Qe<|Qm ⟨[.agg #[ve,.int .i64 0,nS,nS],Zb,.int .i64 0],⟨⟨_,rfl,QA rfl (hB9.at (L:=[]) (by simp)).cells⟩,rfl,rfl,trivial⟩,(hW7.trans hs8).then1 hs9 hb2,_,Zb,0,rfl,?_⟩
  unfold Z8
  rw[if_neg h20]
  unfold sync
  rw[if_pos (hexA.1 hz)]
  have hve9:=Qj (Qq hve7 hs8) hs9 (λb hb=>by have:=(Qk hve4 b hb).1;simp;omega)
  refine ⟨rfl,⟨ve,_,_,rfl,λL' hL'=>⟨Qt.ints hve9 (by show (evs aa).length≤_;omega) (λb hb=>by have:=hL' b hb;omega),Zo.nil _ _ _,Zo.nil _ _ _⟩⟩,[],rfl,λL' hL'=>⟨Zo.nil _ _ _,λp hp=>by cases hp⟩⟩
 rw[if_neg hz] at hr8
 obtain ⟨vf,rfl,hf8⟩:=hr8
 have hfA:=Qt.ints (L:=[]) hf8 (by simp;omega) (by simp)
 refine Qb<|x (Qp rfl rfl)<|x (Qp rfl rfl)<|x Qh<|Qe<|Qf<|Qc<|Qb<|x (Zp rfl)<|xe ?_
 refine Ye rfl ?_
 refine Qi<|Qc<|Qb<|xl rfl<|QD (us:=[[vf]]) rfl rfl (by decide) (by simp) ⟨hfA.cells,rfl,trivial⟩ λb37 w10 hs10 hb37 hB37=>Qe ?_
 have hz10:=hs10.size
 have hl37:=hB37.lt
 refine Qc<|xl rfl<|Yk Xi λb38 w11 hs11 hb38 hm11=>?_
 have hz11:=hs11.size
 have hl38:=hm11.lt
 refine Qb<|xl rfl<|xf<|(zJ ((hfA.ext hs10).ext hs11) (hkb.ext ((hW7.trans hs8).trans (hs10.trans hs11))) (λn hn=>by have:=List.eq_of_mem_replicate hn;omega) (by simp;omega)).mono ?_
 rintro r12 w12 ⟨rfl,hs12⟩
 have hz12:=hs12.size
 refine xl rfl<|YR (k:=Jo (List.replicate ps.length 0)) (hm11.ext hs12) rfl rfl λwS hs13 hmS=>Qb<|Qe ?_
 have hzS:=hs13.size
 have hs812:Step [] w8 w12:=(hs10.trans hs11).trans hs12
 have hs8S:Step [] w8 wS:=hs812.then1 hs13 (by omega)
 have hWS:Step [] w wS:=(hW7.trans hs8).trans hs8S
 have hzWS:=hWS.size
 have hnew:∀b∈[b2,b38,b37],b∈[b2]∨w8.heap.size≤b:=λb hb=>by
  simp only[List.mem_cons,List.not_mem_nil,or_false] at hb
  rcases hb with rfl | rfl | rfl
  ·exact .inl (by simp)
  ·exact .inr (by omega)
  ·exact .inr (by omega)
 have hMS:JN [b2,b38,b37] wS.heap vl ve vs ps ms:=((hM7.ext hs8).up hnew).ext hs8S
 have hB6S:Q0 wS.heap b6 243 [vl,ve,vs]:=(hB6'.ext hs8).ext hs8S
 have hveS:Qt 3 w2.heap.size wS ve (evs aa):=Qq (Qq hve7 hs8) hs8S
 have hvelt:=QQ hve4
 have hgef:=Qk hf8
 have hSN:SyN w1.heap.size b2 b38 b37 wS:=⟨by omega,by omega,by omega,by omega,by omega,by omega⟩
 have hSI:qY w1.heap.size b2 b38 b37 ve wS (qm aa) (mput [] (Jo (List.replicate ps.length 0)) (.int .i64 0)) [(vf,List.replicate ps.length 0)] (.slice (some ⟨b37,0,none⟩) 1 1) Zb Zb wS:=by
  refine ⟨Step.refl _ _,hB8.ext hs8S,hmS,?_,λb hb=>by simp[ob] at hb;exact .inl hb,QO _ _ _ _,QO _ _ _ _,by simp[qm,hlenA],λp hp=>?_,λp hp b hb=>?_,Dj.nil' _,Dj.nil' _,Dj.nil' _⟩
  ·exact (((hB37.ext hs11).ext hs12).step hs13 (by simp;omega)).own (n:=1) (sz:=1) rfl (by omega) (by omega)
  ·simp only[List.mem_singleton] at hp;subst hp
   exact Zi (Qq hf8 hs8S) (by omega)
  ·simp only[List.mem_singleton] at hp;subst hp
   have:=hgef b hb
   refine ⟨by omega,?_,by simp[ob,Zb],by simp[ob,Zb]⟩
   simp[ob];omega
 have hkn0:Vy ps.length (mput [] (Jo (List.replicate ps.length 0)) (.int .i64 0)) (qm aa).tup:=by
  have hk0:Vy ps.length [] []:=λu _ _=>rfl
  have:=hk0.add (u:=List.replicate ps.length 0) (by simp) (λx hx=>by have:=List.eq_of_mem_replicate hx;omega)
  simpa[qm,hlenA] using this
 have hok0:Vx aa (qm aa):=by
  refine ⟨λt ht=>?_,by simp[qm]⟩
  simp only[qm,List.mem_singleton] at ht
  subst ht
  refine ⟨by simp,λi h1 h2=>?_⟩
  have h3:=(hokA aa[i] (List.getElem_mem h2)).st0
  have h4:aa[i].st≠0:=λe=>hz (hexA.2 ⟨aa[i],List.getElem_mem h2,e⟩)
  simp only[List.getElem_replicate];omega
 generalize hT:syL aa 4096 0 (qm aa)=T
 have hfinal:∀s,T=some s→sync aa=some (⟨evs aa,s.tup.length,s.mk',s.ed⟩,s.tup):=λs hs=>by
  unfold sync;rw[if_neg (λe=>hz (hexA.2 e)),hT,hs];rfl
 have hfinalN:T=none→sync aa=none:=λhs=>by unfold sync;rw[if_neg (λe=>hz (hexA.2 e)),hT,hs];rfl
 refine Qf<|Qc<|Qe ?_
 have hb6S:b6∉[b2,b38,b37]:=by simp;omega
 refine Qg<|QC (α:=Nat×Sy×List (ByteArray×Value)×List TV×Value×Value×Value) [(3,4),(10,10),(12,16),(42,111)] (λz=>[(3,z.2.2.2.2.1),(10,.int .i64 z.1)])
  (λz w'=>qY w1.heap.size b2 b38 b37 ve wS z.2.1 z.2.2.1 z.2.2.2.1 z.2.2.2.2.1 z.2.2.2.2.2.1 z.2.2.2.2.2.2 w'∧Vx aa z.2.1∧Vy ps.length z.2.2.1 z.2.1.tup∧z.1≤z.2.1.tup.length∧z.2.1.mk'.length≤z.1∧z.2.1.ed.length≤z.1*1000∧syL aa (4096 - z.1) z.1 z.2.1=T)
  (λz=>4096 - z.1) (by rfl) (0,qm aa,_,_,_,Zb,Zb) ⟨rfl,rfl,trivial⟩ ⟨hSI,hok0,hkn0,Nat.zero_le _,Nat.zero_le _,Nat.zero_le _,hT⟩ ?_
 rintro ⟨i,s,m,qs,vt,vk,vd⟩ g w14 ⟨hI,hsk,hkn,hi,hmk,hed,hrun⟩
 simp only[] at hI hsk hkn hi hmk hed hrun
 have hle:=hsk.le
 have hql:qs.length=s.tup.length:=by rw[←hI.q];simp
 have hqv:∀p∈qs,Vt aa p.2:=λp hp=>hsk.v p.2 (by rw[←hI.q];exact List.mem_map_of_mem hp)
 have hqn:∀p∈qs,p.2.length≤12:=λp hp=>by have:=(hqv p hp).1;omega
 have htA:=QS (L:=[]) hI.t (by omega) (by simp)
 refine Qf<|Qc<|Qb<|Qb<|x (Qs htA rfl)<|x (QB rfl rfl)<|xe ?_
 refine QH rfl (λh45=>?_) (λh45=>?_)
 ·have hend:T=some s:=by rw[←hrun,Qdi (by omega)]
  refine Qz ?_
  refine Qc<|Qb<|x (Qs htA rfl)<|x (Qa rfl)<|xl rfl<|QG hI.A rfl rfl (by simp) rfl λw15 hs15 hB15=>xe ?_
  refine Qc ?_
  have hkA:=Qt.ints (L:=[]) hI.k (by omega) (by simp)
  have heA:=Z0.eds (L:=[]) hI.e (by omega) (by simp)
  refine x (Qr hB15 rfl rfl)<|Qb<|xl rfl<|Qo (us:=[ve,.int .i64 qs.length,vk,vd]) hB15 rfl rfl rfl rfl ⟨hveA.one,rfl,hkA.one,heA.one,trivial⟩ λw16 hs16 hB16=>x Qh<|Qe ?_
  have hs1516:Step [b2] w14 w16:=hs15.trans' hs16
  have hfin:Step [] w w16:=(hWS.then hI.st (λb hb=>.inr (by simp at hb;omega))).then1 hs1516 hb2
  refine Qm ⟨[.agg #[ve,.int .i64 qs.length,vk,vd],vt,.int .i64 0],⟨⟨_,rfl,QA rfl (hB16.at (L:=[]) (by simp)).cells⟩,rfl,rfl,trivial⟩,hfin,_,vt,0,rfl,?_⟩
  unfold Z8
  rw[if_neg h20,hfinal s hend]
  have e1:(qs.length:Int)=s.tup.length:=by rw[hql]
  have k0:Qt 3 w2.heap.size w16 ve (evs aa):=Qj (Qj hveS hI.st (λb hb=>by have:=(Qk hve4 b hb).1;have:=hvelt b hb;simp;omega)) hs1516 (λb hb=>by have:=(Qk hve4 b hb).1;simp;omega)
  have k1:=Qj hI.k hs1516 (λb hb=>by have:=(Qk hI.k b hb).1;simp;omega)
  have k2:=Qj hI.e hs1516 (λb hb=>by have:=(Qk hI.e b hb).1;simp;omega)
  have k3:=Qj hI.t hs1516 (λb hb=>by have:=(Qk hI.t b hb).1;simp;omega)
  refine ⟨rfl,⟨ve,vk,vd,by rw[e1],λL' hL'=>⟨Qt.ints k0 (by show (evs aa).length≤_;omega) (λb hb=>by have:=hL' b hb;omega),Qt.ints k1 (by show s.mk'.length≤_;omega) (λb hb=>by have:=hL' b hb;omega),Z0.eds k2 (by show s.ed.length≤_;omega) (λb hb=>by have:=hL' b hb;omega)⟩⟩,qs,hI.q,λL' hL'=>⟨?_,λp hp=>?_⟩⟩
  ·exact QS k3 (by omega) (λb hb hbL=>by have:=(Qk hI.t b hb).1;have:=hL' b hbL;omega)
  ·exact Qt.ints (Qj (hI.el p hp) hs1516 (λb hb=>by have:=(Qk (hI.el p hp) b hb).1;simp;omega)) (by have:=hqn p hp;omega) (λb hb=>by have:=hL' b hb;omega)
 have hlt:i<s.tup.length:=by omega
 have hltq:i<qs.length:=by omega
 have hsyT:=QjH hI.q hltq
 have htv:=hqv (qs[i]'hltq) (List.getElem_mem hltq)
 obtain ⟨t,htdef⟩:∃t,(qs[i]'hltq).2=t:=⟨_,rfl⟩
 rw[htdef] at hsyT htv
 refine Qi ?_
 have hrun2:(V7 aa i t (evs aa) (ZD aa i t s)).bind (syL aa (4096 - (i+1)) (i+1))=T:=by
  rw[←hrun]
  obtain ⟨f,hf⟩:∃f,4096 - i=f+1:=⟨4096 - i - 1,by omega⟩
  rw[hf,syL,if_pos hlt,hsyT,show 4096 - (i+1)=f by omega]
 have hM14:=hMS.st hI.st
 have hM14':JN [] w14.heap vl ve vs ps ms:=hM14.up (λ_ hb=>by cases hb)
 have hB614:=hB6S.step hI.st hb6S
 have htI:QM [] w14.heap (qs[i]'hltq).1 t:=by rw[←htdef];exact Qt.ints (hI.el (qs[i]'hltq) (List.getElem_mem hltq)) (by have:=hqn (qs[i]'hltq) (List.getElem_mem hltq);omega) (by simp)
 refine Qf<|Qg<|QV (α:=Value) [(48,59)] (λz=>[]) (λz w'=>qY w1.heap.size b2 b38 b37 ve wS (ZD aa i t s) m qs vt z vd w') (by rfl) ?_ ?_
 ·refine Qf<|QU (Step [] w14) [(0,true),(1,true),(2,true),(3,true),(4,true),(5,false)] mixed (by rfl) (by kernel_rfl) (Step.drew _ _) ?_
  refine pq (λ_ hc=>Qr (hB614.ext hc) rfl rfl)<|p (λ_=>Qn)<|p (λ_=>Qn)<|pig rfl J8 htA rfl rfl hltq λa51 h51 =>
   pq (λ_ hc=>Qv (h51.ext hc) rfl)<|pk<|xf<|(Qcp (hM14'.ext (Step.drew _ _)) (htI.ext (Step.drew _ _)) (by rw[htv.1,hlenA]) (λp hp=>(hok p hp).mri) hn).mono ?_
  rintro r17 w17 ⟨rfl,hs17⟩
  have hs17':=(Step.drew [] w14).trans hs17
  refine ⟨hs17',?_⟩
  refine pe ?_
  have hI17:=hI.ext hs17'
  refine Q2 rfl (λh53=>?_) (λh53=>?_)
  rotate_left
  ·refine Qi<|⟨vk,trivial,?_⟩
   rw[haa] at h53
   unfold ZD;rw[if_neg (by rw[h53];simp)];exact hI17
  refine Qw<|x (Qa rfl)<|x (Qd hI17.A rfl rfl)<|Qb<|xl rfl<|QD (us:=[[.int .i64 i]]) rfl rfl (by decide) (by simp) ⟨rfl,rfl,trivial⟩ λb57 w18 hs18 hb57 hB57=>?_
  have hI18:=hI17.ext hs18
  refine xl rfl<|QY (news:=[.int .i64 i]) (L:=[]) hI18.k rfl rfl rfl (hB57.at (by simp)) (by simp[Value.oneCell']) (by omega) hI18.st.size λv19 w19 ho19 hs19 hn19=>?_
  have hk19:Qt 3 wS.heap.size w19 v19 (s.mk'++[(i:Int)]):=Qt.snoc ho19
  refine x (Qa rfl)<|xl rfl<|QG (hI18.A.step hs19 (QN hI18.k (by omega))) rfl rfl (by simp) (Qt.ints (L:=[]) hk19 (by simp;omega) (by simp)).one λw20 hs20 hB20=>xe ?_
  refine ⟨v19,trivial,?_⟩
  rw[haa] at h53
  unfold ZD;rw[if_pos h53]
  exact hI18.setK hSN hs19 hk19 hn19 hs20 hB20
 rintro vk2 g3 w21 hI2
 have hsk2:Vx aa (ZD aa i t s):=qj hsk
 have htup2:(ZD aa i t s).tup=s.tup:=by unfold ZD;split <;> rfl
 have hed2:(ZD aa i t s).ed=s.ed:=by unfold ZD;split <;> rfl
 have hmk2:(ZD aa i t s).mk'.length≤i+1:=by
  unfold ZD;split
  ·simp only[List.length_append,List.length_singleton];omega
  ·omega
 have hveI:QM [b2,b38,b37] wS.heap ve (evs aa):=by have:=hMS.ev;rw[haa] at this;exact this
 refine Qc<|x (Qa rfl)<|x (Qd (hB6S.step hI2.st hb6S) rfl rfl)<|x (Qs hveI rfl)<|Qb<|xe ?_
 refine Qg<|QC (α:=Nat×Sy×List (ByteArray×Value)×List TV×Value×Value) [(3,4),(12,16),(63,111)] (λz=>[(3,z.2.2.2.2.1),(63,.int .i64 z.1)])
  (λz w'=>qY w1.heap.size b2 b38 b37 ve wS z.2.1 z.2.2.1 z.2.2.2.1 z.2.2.2.2.1 vk2 z.2.2.2.2.2 w'∧Vx aa z.2.1∧Vy ps.length z.2.2.1 z.2.1.tup∧z.1≤(evs aa).length∧z.2.1.mk'=(ZD aa i t s).mk'∧z.2.1.ed.length≤i*1000+z.1 ∧
   (∃h:i<z.2.2.2.1.length,(z.2.2.2.1[i]'h).2=t)∧(V7 aa i t ((evs aa).drop z.1) z.2.1).bind (syL aa (4096 - (i+1)) (i+1))=T)
  (λz=>(evs aa).length - z.1) (by rfl) (0,ZD aa i t s,m,qs,vt,vd) ⟨rfl,rfl,trivial⟩
  ⟨hI2,hsk2,by rw[htup2];exact hkn,Nat.zero_le _,rfl,by rw[hed2];simpa using hed,⟨hltq,htdef⟩,hrun2⟩ ?_
 rintro ⟨j,s4,m4,qs4,vt4,vd4⟩ g4 w22 ⟨hI4,hsk4,hkn4,hj,hmk4,hed4,⟨hlt4,ht4⟩,hrun4⟩
 simp only[] at hI4 hsk4 hkn4 hj hmk4 hed4 hrun4 hlt4 ht4
 have hql4:qs4.length=s4.tup.length:=by rw[←hI4.q];simp
 have hle4:=hsk4.le
 refine Qc<|x (QB rfl rfl)<|xe ?_
 refine Qf<|QH rfl (λh64=>?_) (λh64=>?_)
 ·rw[List.drop_of_length_le (by omega),V7] at hrun4
  refine Qz ?_
  refine Qw<|Qb<|x (Qx rfl rfl ⟨by omega,by omega⟩)<|Qe<|⟨(i+1,s4,m4,qs4,vt4,vk2,vd4),by simp only[];omega,⟨rfl,rfl,trivial⟩,hI4,hsk4,hkn4,by simp only[];omega,by simp only[];rw[hmk4];exact hmk2,by simp only[];omega,hrun4⟩
 have hltj:j<(evs aa).length:=by omega
 rw[QW hltj,V7] at hrun4
 obtain ⟨v,hvj⟩:∃v,(evs aa)[j]=v:=⟨_,rfl⟩
 rw[hvj] at hrun4
 refine Qi<|Qf<|Qg<|Qc ?_
 have hveI4:=hveI.st hI4.st
 refine xii hveI4 rfl rfl hltj λa65 h65=>?_
 rw[hvj] at h65
 refine x (Qv h65 rfl)<|Qe ?_
 have hM22:=(hMS.st hI4.st).up (L':=[]) (λ_ hb=>by cases hb)
 have hB622:=hB6S.step hI4.st hb6S
 have htA4:=QS (L:=[]) hI4.t (by omega) (by simp)
 have htI4:QM [] w22.heap (qs4[i]'hlt4).1 t:=by rw[←ht4];exact Qt.ints (hI4.el (qs4[i]'hlt4) (List.getElem_mem hlt4)) (by rw[ht4,htv.1];omega) (by simp)
 refine Qf<|QU (Step [] w22) [(0,true),(1,true),(2,true),(3,true),(4,true),(5,true),(6,false),(7,true),(8,true),(9,true),(10,true),(11,true)] mixed (by rfl) (by kernel_rfl) (Step.drew _ _) ?_
 refine pq (λ_ hc=>Qr (hB622.ext hc) rfl rfl)<|p (λ_=>Qn)<|p (λ_=>Qn)<|pig rfl J8 htA4 rfl rfl hlt4 λa71 h71 =>
  pq (λ_ hc=>Qv (h71.ext hc) rfl)<|p (λ_=>Qn)<|pk<|xf<|(QdP (hM22.ext (Step.drew _ _)) (htI4.ext (Step.drew _ _)) (by rw[htv.1,hlenA]) (λp hp=>(hok p hp).ali) (λp hp=>(hok p hp).edi) hn _).mono ?_
 rintro r23 w23 ⟨hs23,hr23⟩
 rw[haa] at hr23
 have hs23':=(Step.drew [] w22).trans hs23
 refine ⟨hs23',?_⟩
 have hI5:=hI4.ext hs23'
 have hz23:=hs23'.size
 have hz22:=hI4.st.size
 rcases QkO (Yc v aa t) with hstp | ⟨u,hstp⟩
 ·rw[hstp] at hr23
  subst hr23
  rw[Qdk hstp] at hrun4
  refine p (λ_=>Qn)<|p (λ_=>Qp rfl rfl)<|p (λ_=>Qp rfl rfl)<|p (λ_=>Qh)<|p (λ_=>Qh)<|pe ?_
  refine Qf<|Qc<|Qb<|x (Zp rfl)<|xe ?_
  refine UQ rfl ?_
  refine Qz ?_
  refine Qw<|x (Qx rfl rfl ⟨by omega,by omega⟩)<|Qb<|xe ?_
  exact ⟨(j+1,s4,m4,qs4,vt4,vd4),by simp only[];omega,⟨rfl,rfl,trivial⟩,hI5,hsk4,hkn4,hltj,hmk4,by simp only[];omega,⟨hlt4,ht4⟩,hrun4⟩
 ·rw[hstp] at hr23
  obtain ⟨vx,rfl,hx23⟩:=hr23
  have huv:=Xw hokA htv hstp
  have hul:u.length=ps.length:=by rw[huv.1,hlenA]
  have hub:=huv.bd hstA
  have hu0:∀x∈u,0≤x:=λx hx=>(hub x hx).1
  refine p (λ_=>Qn)<|p (λ_=>Qp rfl rfl)<|p (λ_=>Qp rfl rfl)<|p (λ_=>Qh)<|p (λ_=>Qh)<|pe ?_
  refine Qf<|Qc<|Qb<|x (Zp rfl)<|xe ?_
  refine Ye rfl ?_
  refine Qi ?_
  have hxA:=Qt.ints (L:=[]) hx23 (by omega) (by simp)
  have hgex:=Qk hx23
  refine QV (α:=Unit) [(15,16),(79,85)] (λz=>[(15,.int .i64 (if u∈s4.tup then (s4.tup.idxOf u:Int) else 0)),(16,.bool (decide (u∈s4.tup)))]) (λz w'=>Step [] w23 w') (by rfl) ?_ ?_
  ·refine Qw<|Qb<|Qb<|xl rfl<|xf<|(zJ hxA (hkb.ext (hWS.then hI5.st (λb hb=>.inr (by simp at hb;omega)))) hub (by omega)).mono ?_
   rintro r24 w24 ⟨rfl,hs24⟩
   by_cases hu:u∈s4.tup
   ·refine x (qA (k:=Jo u) ((hI5.ext hs24).M) rfl rfl (by rw[hkn4 u hul hu0,if_pos hu]))<|Qb<|x (Qp rfl rfl)<|x (Qp rfl rfl)<|x Qh<|Qe ?_
    exact ⟨(),⟨congrArg (Value.int .i64) (if_pos hu).symm,congrArg Value.bool (decide_eq_true hu).symm,trivial⟩,hs24⟩
   ·refine x (Qci (k:=Jo u) ((hI5.ext hs24).M) rfl rfl (by rw[hkn4 u hul hu0,if_neg hu]))<|Qb<|x (Qp rfl rfl)<|x (Qp rfl rfl)<|x Qh<|Qe ?_
    exact ⟨(),⟨congrArg (Value.int .i64) (if_neg hu).symm,congrArg Value.bool (decide_eq_false hu).symm,trivial⟩,hs24⟩
  rintro _ g6 w25 hs25
  have hI6:=hI5.ext hs25
  have hx25:=Qq hx23 hs25
  have hxA25:=hxA.ext hs25
  have hz25:=hs25.size
  have hadd:∀b∈ob vx,b∉ob vt4∧b∉ob vk2∧b∉ob vd4:=λb hb=>by
   have h1:=(hgex b hb).1
   have h1':w22.heap.size≤b:=h1
   exact ⟨λhb'=>by have:=QQ hI4.t b hb';omega,λhb'=>by have:=QQ hI4.k b hb';omega,λhb'=>by have:=QQ hI4.e b hb';omega⟩
  refine QV (α:=List (ByteArray×Value)×List TV×Value) [(3,4),(15,15),(86,101)] (λz=>[(3,z.2.2),(15,.int .i64 ((Yg s4 u).tup.idxOf u:Int))])
   (λz w'=>qY w1.heap.size b2 b38 b37 ve wS (Yg s4 u) z.1 z.2.1 z.2.2 vk2 vd4 w'∧(u∈s4.tup∨s4.tup.length≠4096)∧Vy ps.length z.1 (Yg s4 u).tup∧∃h:i<z.2.1.length,(z.2.1[i]'h).2=t) (by rfl) ?_ ?_
  ·refine Qc<|Qb<|x (Zp rfl)<|xe ?_
   refine Q2 rfl (λh87=>?_) (λh87=>?_)
   rotate_left
   ·have hu:u∈s4.tup:=by simpa using h87
    refine Qi ?_
    have e1:Yg s4 u=s4:=by unfold Yg;rw[if_pos hu]
    have e2:(if u∈s4.tup then (s4.tup.idxOf u:Int) else 0)=((Yg s4 u).tup.idxOf u:Int):=by rw[e1,if_pos hu]
    refine ⟨(m4,qs4,vt4),⟨rfl,congrArg (Value.int .i64) e2,trivial⟩,?_,.inl hu,?_,hlt4,ht4⟩
    ·rw[e1];exact hI6
    ·rw[e1];exact hkn4
   have hu:u∉s4.tup:=by simpa using h87
   have htA6:=QS (L:=[]) hI6.t (by omega) (by simp)
   refine Qf<|Qc<|Qb<|x (Qs htA6 rfl)<|x (Q5 rfl rfl)<|xe ?_
   refine Q6 rfl (λh90=>?_) (λh90=>?_)
   ·refine Qc<|x (QE trivial)<|xl rfl<|Qo (us:=[nS,.int .i64 0,nS,nS]) hI6.A rfl rfl rfl rfl ⟨rfl,rfl,rfl,rfl,trivial⟩ λw26 hs26 hB26=>x Qh<|Qe<|Qm ⟨[zA,Zb,.int .i64 3],⟨⟨_,rfl,QA rfl (hB26.at (L:=[]) (by simp)).cells⟩,rfl,rfl,trivial⟩,(hWS.then hI6.st (λb hb=>.inr (by simp at hb;omega))).then1 hs26 hb2,zA,Zb,3,rfl,?_⟩
    unfold Z8
    rw[Qdm hstp hu (by omega)] at hrun4
    rw[if_neg h20,hfinalN hrun4.symm]
    exact ⟨rfl,rfl,rfl⟩
   have hl4:s4.tup.length≠4096:=by omega
   refine Qi<|Qc<|Qb<|x (Qs htA6 rfl)<|Qe<|Qc<|Qb<|Qb<|xl rfl<|xf<|(zJ hxA25 (hkb.ext (hWS.then hI6.st (λb hb=>.inr (by simp at hb;omega)))) hub (by omega)).mono ?_
   rintro r26 w26 ⟨rfl,hs26⟩
   have hI7:=hI6.ext hs26
   refine Qb<|xl rfl<|Xe (k:=Jo u) hI7.M rfl rfl λw27 hs27 hm27=>xe ?_
   have hI8:=hI7.setM hSN hs27 hm27
   have hx27:=Qj (Qq hx25 hs26) hs27 (λb hb=>by have:=(hgex b hb).1;have h1':w22.heap.size≤b:=this;simp;omega)
   refine Qw<|Qb<|Qb<|xl rfl<|QD (us:=[[vx]]) rfl rfl (by decide) (by simp) ⟨hxA.cells,rfl,trivial⟩ λb100 w28 hs28 hb100 hB100=>?_
   have hI9:=hI8.ext hs28
   refine xl rfl<|QY (news:=[vx]) (L:=[]) hI9.t rfl rfl rfl (hB100.at (by simp)) (λy hy=>by simp only[List.mem_singleton] at hy;subst hy;exact hxA.one) (by omega) (by have:=hI9.st.size;have:=hSN.nS;omega) λv29 w29 ho29 hs29 hn29=>Qe ?_
   have hk29:qa 37 w1.heap.size w29 v29 (qs4++[(vx,u)]):=qa.snoc ho29
   have hIA:=hI9.setT hSN (u:=u) (Zi (Qq hx27 hs28) (by show wS.heap.size≤w22.heap.size;omega)) hadd hs29 hk29 hn29
   have e1:Yg s4 u=⟨s4.tup++[u],s4.mk',s4.ed⟩:=by unfold Yg;rw[if_neg hu]
   have e2:(qs4.length:Int)=((Yg s4 u).tup.idxOf u:Int):=by
    rw[e1]
    simp only[]
    rw[List.idxOf_append,if_neg hu,←hql4];simp
   refine ⟨(mput m4 (Jo u) (.int .i64 (qs4.length:Int)),qs4++[(vx,u)],v29),⟨rfl,congrArg (Value.int .i64) e2,trivial⟩,?_,.inr hl4,?_,by simp;omega,?_⟩
   ·rw[e1];exact hIA
   ·rw[e1]
    simp only[]
    rw[hql4];exact hkn4.add hu hu0
   ·simp only[]
    rw[List.getElem_append_left hlt4];exact ht4
  rintro ⟨m5,qs5,vt5⟩ g7 w30 ⟨hI10,hlim,hkn5,hlt5,ht5⟩
  simp only[] at hI10 hkn5 hlt5 ht5
  have hed5:(Yg s4 u).ed.length≤i*1000+j:=by rw[Qdo];exact hed4
  have hsy:=Qgc (aa:=aa) (i:=i) (s:=s4) hstp hlim
  have hsk5:=Qdl hokA hsk4 htv hsy
  rw[hsy] at hrun4
  refine Qw<|x (Qa rfl)<|x (Qd hI10.A rfl rfl)<|Qb<|Qb<|Qb<|x (QE ⟨rfl,rfl,rfl,trivial⟩)<|xl rfl<|QD (us:=[Qy ((i:Int),v,((Yg s4 u).tup.idxOf u:Int))]) rfl rfl (by decide) (by exact (by decide:1*3≤1000000)) ⟨rfl,rfl,trivial⟩ λb108 w31 hs31 hb108 hB108=>?_
  have hI11:=hI10.ext hs31
  refine xl rfl<|QY (news:=Qy ((i:Int),v,((Yg s4 u).tup.idxOf u:Int))) (L:=[]) hI11.e rfl rfl rfl (hB108.at (by simp)) (λy hy=>by simp only[Qy,List.mem_cons,List.not_mem_nil,or_false] at hy;rcases hy with rfl | rfl | rfl <;> rfl) (by omega) hI11.st.size λv32 w32 ho32 hs32 hn32=>?_
  have hk32:Z0 144 wS.heap.size w32 v32 ((Yg s4 u).ed++[((i:Int),v,((Yg s4 u).tup.idxOf u:Int))]):=Z0.snoc ho32
  refine x (Qa rfl)<|xl rfl<|QG (hI11.A.step hs32 (QN hI11.e (by omega))) rfl rfl (by simp) (Z0.eds (L:=[]) hk32 (by simp;omega) (by simp)).one λw33 hs33 hB33=>xe ?_
  have hI12:=hI11.setE hSN hs32 hk32 hn32 hs33 hB33
  refine Qw<|x (Qx rfl rfl ⟨by omega,by omega⟩)<|Qb<|xe ?_
  refine ⟨(j+1,_,m5,qs5,vt5,v32),by simp only[];omega,⟨rfl,rfl,trivial⟩,hI12,hsk5,hkn5,hltj,?_,?_,⟨hlt5,ht5⟩,hrun4⟩
  ·simp only[];rw[Qdn];exact hmk4
  ·simp only[List.length_append,List.length_singleton];omega
structure Ku where
 en:LI
 dis:LI
 mk':Bool
 ps:Bool
def Qi3:Ku:=⟨[],[],false,false⟩
def Qh3 (l:LI) (v:Int):LI:=mrg (· || ·) l [v]
def QkV (p s:QT) (x y:Int) (c:Ku) (v:Int):Ku :=
 match eget p.ed x v with
 | none=>c
 | some _=>match eget s.ed y v with
  | some _=>⟨Qh3 c.en v,c.dis,c.mk',c.ps⟩
  | none=>⟨c.en,Qh3 c.dis v,c.mk',c.ps⟩
def QkW (p s:QT) (x y:Int) (c:Ku):Ku:=⟨c.en,c.dis,decide (y∈s.mr),c.ps || decide (x∈p.mr)⟩
def QkU (p s:QT) (x y:Int) (c:Ku):Ku:=s.al.foldl (QkV p s x y) (QkW p s x y c)
def px (q:LI):Int:=q.getD 0 0
def py (q:LI):Int:=q.getD 1 0
def QkT (p s:QT) (l:List Ku) (q:LI):List Ku:=l.set (py q).toNat (QkU p s (px q) (py q) (l.getD (py q).toNat Qi3))
def ctls (p s:QT) (pairs:List (LI)):List Ku:=pairs.foldl (QkT p s) (List.replicate s.st.toNat Qi3)
def occs (n:Nat) (pairs:List (LI)):List Bool:=pairs.foldl (λo q=>o.set (py q).toNat true) (List.replicate n false)
def meets (a b:LI):LI:=mrg (· && ·) a b
def Qkb (a b:Ku):Bool:=decide ((meets a.en b.dis).length+(meets b.en a.dis).length=0) && (!a.ps || !b.ps || a.mk' == b.mk')
def cget (l:LI) (i:Nat):Int:=l.getD i 0
def Qeg (cl:LI) (x y:Nat):LI:=cl.map λc=>if c=cget cl y then cget cl x else c
def lget (l:List Ku) (i:Nat):Ku:=l.getD i Qi3
def to0 (s:QT) (x:Nat) (v:Int):Int:=match eget s.ed x v with | some u=>u | none=>0
def clE (s:QT) (x y:Nat) (z:LI×Bool) (v:Int):LI×Bool :=
 if cget z.1 (to0 s x v).toNat≠cget z.1 (to0 s y v).toNat then (Qeg z.1 (to0 s x v).toNat (to0 s y v).toNat,true) else z
def clY (s:QT) (l:List Ku) (x:Nat) (z:LI×Bool) (y:Nat):LI×Bool :=
 if cget z.1 x<0∨cget z.1 x≠cget z.1 y then z else (meets (lget l x).en (lget l y).en).foldl (clE s x y) z
def clX (s:QT) (l:List Ku) (n:Nat) (z:LI×Bool) (x:Nat):LI×Bool:=(List.range' (x+1) (n - (x+1))).foldl (clY s l x) z
def pass (s:QT) (l:List Ku) (cl:LI):LI×Bool:=(List.range' 0 cl.length).foldl (clX s l cl.length) (cl,false)
def Qfk (s:QT) (l:List Ku):Nat→LI→LI
 | 0,cl=>cl
 | f+1,cl=>if (pass s l cl).2=true then Qfk s l f (pass s l cl).1 else (pass s l cl).1
def Qhm (l:List Ku) (cl:LI):Bool :=
 (List.range' 0 cl.length).all λx=>(List.range' 0 x).all λy=>!(decide (0≤cget cl x∧cget cl x=cget cl y) && !Qkb (lget l x) (lget l y))
def QkD (s:QT) (l:List Ku) (cl:LI) (x y:Nat):LI :=
 if cget cl x<0∨cget cl y<0∨cget cl x=cget cl y then cl else
  let d:=Qfk s l (cl.length*cl.length+1) (Qeg cl x y)
  if Qhm l d=true then d else cl
def QkC (s:QT) (l:List Ku) (n:Nat) (cl:LI) (x:Nat):LI:=(List.range' (x+1) (n - (x+1))).foldl (λc y=>QkD s l c x y) cl
def QkZ (o:List Bool):LI:=(List.range' 0 o.length).map λi=>if o.getD i false=true then (i:Int) else -1
def QkY (s:QT) (l:List Ku) (cl:LI):LI:=(List.range' 0 cl.length).foldl (QkC s l cl.length) cl
def QkQ (z:LI×LI) (c:Int):LI×LI :=
 if c∈z.1 then (z.1,z.2++[(z.1.idxOf c:Int) - 1]) else (z.1++[c],z.2++[(z.1.length:Int) - 1])
def nums (cl:LI):LI:=(cl.foldl QkQ ([-1],[])).2
def Qkg (p s:QT) (pairs:List (LI)):LI:=nums (QkY s (ctls p s pairs) (QkZ (occs s.st.toNat pairs)))
theorem JG {α:Type}(g:α→LV) (sz:Nat) (hg:∀x,(g x).length=sz):∀(l:List α) (i j:Nat) (h:i<l.length) (y:α) (u:Value),j<sz→g y=(g l[i]).set j u →
  (l.flatMap g).set (i*sz+j) u=(l.set i y).flatMap g
 | x::l,0,j,h,y,u,hj,hy=>by
  simp only[List.getElem_cons_zero] at hy
  simp only[Nat.zero_mul,Nat.zero_add,List.flatMap_cons,List.set_cons_zero]
  rw[List.set_append_left _ _ (by rw[hg];exact hj),hy]
 | x::l,i+1,j,h,y,u,hj,hy=>by
  simp only[List.getElem_cons_succ] at hy
  simp only[List.flatMap_cons,List.set_cons_succ]
  rw[List.set_append_right _ _ (by rw[hg,Nat.add_mul];omega),hg,show (i+1)*sz+j - sz=i*sz+j by rw[Nat.add_mul];omega,JG g sz hg l i j (by simpa using h) y u hj hy]
end Go.Proofs.YtdffckgdcegpaaaGreatDoor
namespace Go.Lg
section
variable {P:Program} {n:Nat} {f:Fr} {w:World} {all:List Oper} {C:World→Prop} {K:Fr→World→Prop}
def UB (all:Array Oper) (i j:Nat) (p1 p2:List (Nat×Bool)):List (Nat×Bool)→Array Bool→Bool
 | [],ls=>Region.ready .any all ls == [i,j] && YY all p1 (ls.setIfInBounds i true) && YY all p2 (ls.setIfInBounds j true)
 | (k,q)::pl,ls=>q && (Region.ready .any all ls).contains k && Region.free .any all ls k && UB all i j p1 p2 pl (ls.setIfInBounds k true)
def QeO (all:List Oper) (pl:List (Nat×Bool)) (i j:Nat) (p1 p2:List (Nat×Bool)):Bool :=
 Region.noSelect all.toArray && pl.length+1+p1.length == all.length && p1.length == p2.length && UB all.toArray i j p1 p2 pl (Array.replicate all.length false)
def Fk (P:Program) (all:List Oper) (C:World→Prop) (K:Fr→World→Prop) (i j:Nat) (p1 p2:List (Nat×Bool)) (f:Fr) (w:World):Prop :=
 (Z9 all f (Q4 all i)=true∧XO P (Q4 all i) f w λf' w'=>C w'∧XP P all C K p1 f' w') ∧
 (Z9 all f (Q4 all j)=true∧XO P (Q4 all j) f w λf' w'=>C w'∧XP P all C K p2 f' w')
theorem Kn {i j:Nat}{p1 p2:List (Nat×Bool)}(hl:p1.length=p2.length) (hs:Region.noSelect all.toArray=true):∀(pl:List (Nat×Bool)) (ls:Array Bool) (f:Fr) (w:World),ls.size=all.length→C w→UB all.toArray i j p1 p2 pl ls=true →
  XP P all C (Fk P all C K i j p1 p2) pl f w→XA P all C K (pl.length+(1+p1.length)) ls f w
 | [],ls,f,w,hsz,hC,hp,h=>by
  simp only[UB,Bool.and_eq_true,beq_iff_eq] at hp
  obtain ⟨⟨hr,h1⟩,h2⟩:=hp
  simp only[XP] at h
  rw[List.length_nil,Nat.zero_add,Nat.add_comm]
  refine Jh (λh0=>(by rw[h0] at hr;cases hr)) ?_
  rw[hr]
  intro k hk o ho
  have hsz':(ls.setIfInBounds k true).size=all.length:=by simpa using hsz
  simp only[List.mem_cons,List.not_mem_nil,or_false] at hk
  rcases hk with rfl | rfl
  ·have:=h.1
   rw[Zk ho] at this
   rw[this.1,cond_true]
   exact this.2.mono λv w' hx=>⟨.inr (.inr hx.1),Zx hs p1 _ _ _ hsz' (.inl hx.1) h1 hx.2⟩
  ·have:=h.2
   rw[Zk ho] at this
   rw[this.1,cond_true,hl]
   exact this.2.mono λv w' hx=>⟨.inr (.inr hx.1),Zx hs p2 _ _ _ hsz' (.inl hx.1) h2 hx.2⟩
 | (i0,q)::pl,ls,f,w,hsz,hC,hp,h=>by
  simp only[UB,Bool.and_eq_true] at hp
  obtain ⟨⟨⟨rfl,hr⟩,hf⟩,hp'⟩:=hp
  simp only[XP] at h
  have hri:i0∈Region.ready .any all.toArray ls:=by simpa using hr
  have e:(List.length ((i0,true)::pl))+(1+p1.length)=(pl.length+(1+p1.length))+1:=by simp;omega
  rw[e]
  cases ho:all[i0]? with
  | none =>
   exfalso
   obtain ⟨_,o,hoo,_⟩:=mem_ready.1 hri
   simp[ho] at hoo
  | some o =>
   rw[Zk ho] at h
   have hsel:∀(j:Nat) (o:Oper) cs b,all[j]?=some o→o.op≠.select cs b:=λj o cs b hj=>Region.noSelect_spec hs j o cs b (by simpa using hj)
   have hfree:=λj oj hj=>Region.free_spec (ops:=all.toArray) (md:=.any) (i:=i0) (oi:=o) (listed:=ls) (by simpa using ho) hf j oj (by simpa using hj)
   have hsz':(ls.setIfInBounds i0 true).size=all.length:=by simpa using hsz
   cases hg:Z9 all f o with
   | false =>
    rw[hg] at h
    exact YV (v:=undef) (D:=λw=>UZ o=true→C w) ho (λ_ h=>h) hsel _ ls f w (λ_=>hC) hfree hri (.inr ⟨hg,rfl⟩) (Kn hl hs pl _ _ _ hsz' hC hp' h)
   | true =>
    rw[hg] at h
    simp only[cond_true] at h
    obtain ⟨v,hv,hx⟩:=h
    exact YV (v:=v) (D:=λw=>UZ o=true→C w) ho (λ_ h=>h) hsel _ ls f w (λ_=>hC) hfree hri (.inl ⟨hg,hv⟩) (Kn hl hs pl _ _ _ hsz' hC hp' hx)
theorem QhD {Q:Exit→Fr→World→Prop}{id:Nat}(C:World→Prop) (pl:List (Nat×Bool)) (i j:Nat) (p1 p2:List (Nat×Bool)) (hm:P.follows .mixedOrders=true) (hn:XG n all=true) (hp:QeO all pl i j p1 p2=true)
  (hC:C { w with drawn:=w.drawn+1 }) (h:XP P all C (Fk P all C (λf w=>Q .normal f w) i j p1 p2) pl f { w with drawn:=w.drawn+1 }):W P n (.region id all.toArray true) Q f w:=by
 simp only[QeO,Bool.and_eq_true,beq_iff_eq] at hp
 obtain ⟨⟨⟨hs,hl⟩,hl2⟩,hp⟩:=hp
 refine Ko C hm hn ?_
 have h1:=Kn hl2 hs pl _ _ _ (by simp) hC hp h
 rw[←Nat.add_assoc,hl] at h1
 exact h1
end
end Go.Lg
namespace Go.Proofs.YtdffckgdcegpaaaGreatDoor
open Go.Lg
end Go.Proofs.YtdffckgdcegpaaaGreatDoor
namespace Go.Lg
open Go.Proofs.YtdffckgdcegpaaaGreatDoor
theorem Zg {l:LI}{i:Nat}(h:i<l.length):l[i]=cget l i:=by simp[cget,List.getD,h]
section
variable {P:Program} {ops l:List Oper} {K:Fr→World→Prop} {f:Fr} {w:World} {d:Option Nat} {ty:Nat} {ps:String} {af:Array Edge} {gd:Option (Nat×Bool)} {C:World→Prop} {pl:List (Nat×Bool)} {i0:Nat}
theorem xic {x y:Operand}{t e bys:Nat}{z:Value}[Sl P t e 1 bys z] {L:LN}{li:LI}{v:Value}{k:IntKind}{i:Nat}
  (h:QM L w.heap v li) (hv:ev f x=v) (hy:ev f y=.int k i) (hi:i<li.length)
  (hK:∀a,At L w.heap a [.int .i64 (cget li i)]→XL P ops K l (QX f d (.pointer (some a))) w) (hg:Z9 ops f ⟨d,.indexAddr t x y,ty,ps,af,gd⟩=true:=by rfl) :
  XL P ops K (⟨d,.indexAddr t x y,ty,ps,af,gd⟩::l) f w :=
 xii h hv hy hi (λa ha=>hK a (by rw[←Zg hi];exact ha)) hg
theorem pic {x y:Operand}{t e bys:Nat}{z:Value}[Sl P t e 1 bys z] {L:LN}{li:LI}{v:Value}{H:Array Obj}{k:IntKind}{i:Nat}
  (ho:Q4 ops i0=⟨d,.indexAddr t x y,ty,ps,af,gd⟩) (h:QM L H v li) (hv:ev f x=v) (hy:ev f y=.int k i) (hi:i<li.length)
  (hK:∀a,At L H a [.int .i64 (cget li i)]→XP P ops C K pl (QX f d (.pointer (some a))) w) (hg:Z9 ops f (Q4 ops i0)=true:=by rfl):XP P ops C K ((i0,true)::pl) f w :=
 pii ho h hv hy hi (λa ha=>hK a (by rw[←Zg hi];exact ha)) hg
end
theorem QdD {a n:Nat}(h:a<n):List.range' a (n - a)=a::List.range' (a+1) (n - (a+1)):=by
 rw[show n - a=(n - (a+1))+1 by omega,List.range'_succ]
theorem Qgs {a n:Nat}(h:n≤a):List.range' a (n - a)=[]:=by rw[show n - a=0 by omega];rfl
end Go.Lg
namespace Go.Proofs.YtdffckgdcegpaaaGreatDoor
open Go.Lg
end Go.Proofs.YtdffckgdcegpaaaGreatDoor
namespace Go.Lg
section
variable {P:Program} {f:Fr} {w:World} {d:Option Nat} {ty:Nat} {ps:String} {af:Array Edge} {gd:Option (Nat×Bool)} {κ:Type} [DecidableEq κ]
end
end Go.Lg
namespace Go.Proofs.YtdffckgdcegpaaaGreatDoor
open Go.Lg
theorem QaQ {aa:List QT}{i:Nat}{t:LI}(ho:∀a∈aa,Zm a) (ht:Vt aa t):∀(vs:LI) (s s':Sy),Vx aa s→V7 aa i t vs s=some s'→Vx aa s'
 | [],s,s',h,e=>by cases e;exact h
 | v::vs,s,s',h,e=>by
  rw[V7] at e
  obtain ⟨s1,h1,h2⟩:=Option.bind_eq_some_iff.1 e
  exact QaQ ho ht vs s1 s' (Qdl ho h ht h1) h2
theorem Qdh {aa:List QT}(ho:∀a∈aa,Zm a):∀(f i:Nat) (s s':Sy),Vx aa s→syL aa f i s=some s'→Vx aa s'
 | 0,i,s,s',h,e=>by cases e;exact h
 | f+1,i,s,s',h,e=>by
  rw[syL] at e
  split at e
  ·rename_i hi
   obtain ⟨s1,h1,h2⟩:=Option.bind_eq_some_iff.1 e
   have hv:Vt aa (qi s i):=h.v _ (by unfold qi;simp[List.getD,hi])
   exact Qdh ho f _ s1 s' (QaQ ho hv _ _ _ (qj h) h1) h2
  ·cases e;exact h
theorem Qh6 {aa:List QT}(ho:∀a∈aa,Zm a) (hz:¬∃a∈aa,a.st=0):Vx aa (qm aa):=by
 refine ⟨λt ht=>?_,by simp[qm]⟩
 simp only[qm,List.mem_singleton] at ht
 subst ht
 refine ⟨by simp,λi h1 h2=>?_⟩
 have h3:=(ho aa[i] (List.getElem_mem h2)).st0
 have h4:aa[i].st≠0:=λe=>hz ⟨aa[i],List.getElem_mem h2,e⟩
 simp only[List.getElem_replicate];omega
theorem VU {aa:List QT}(ho:∀a∈aa,Zm a) {z:QT×List (LI)}(h:sync aa=some z):(∀t∈z.2,Vt aa t)∧z.2.length≤4096:=by
 unfold sync at h
 split at h
 ·cases h;simp
 ·rename_i hz
  obtain ⟨s,h1,rfl⟩:=Option.map_eq_some_iff.1 h
  have:=Qdh ho _ _ _ _ (Qh6 ho hz) h1
  exact ⟨this.v,this.le⟩
def opC (p s:QT):Int:=if Jd p≠0 then Jd p else if Jd s≠0 then Jd s else if mrg (λp q=>p && !q) s.al p.al=[] then 0 else 9
def opE (p s:QT):Int:=if opC p s≠0 then opC p s else match sync [p,s] with | none=>3 | some _=>0
def opQ (p s:QT):List (LI):=match sync [p,s] with | none=>[] | some z=>z.2
def QjV (l:LI):Int:=(l.drop 1).foldl max (cget l 0)
theorem X6 {N b:Nat}{w w':World}{v:Value}{a:QT}(h:Xo N w.heap v a) (hb:b<N) (hs:Step [b] w w'):Xo N w'.heap v a:=by
 obtain ⟨va,vm,ve,h1,h2⟩:=h
 refine ⟨va,vm,ve,h1,λL hL=>?_⟩
 exact ((h2 (b::L) (λc hc=>by rcases List.mem_cons.1 hc with rfl | hc;exact hb;exact hL c hc)).st (hs.mono (by simp))).up (λc hc=>.inl (List.mem_cons_of_mem _ hc))
theorem QfG {N b:Nat}{w w':World}{v:Value}{l:List (LI)}(h:QaB N w.heap v l) (hb:b<N) (hs:Step [b] w w'):QaB N w'.heap v l:=by
 obtain ⟨ps,h1,h2⟩:=h
 refine ⟨ps,h1,λL hL=>?_⟩
 exact ((h2 (b::L) (λc hc=>by rcases List.mem_cons.1 hc with rfl | hc;exact hb;exact hL c hc)).st (hs.mono (by simp))).up (λc hc=>.inl (List.mem_cons_of_mem _ hc))
theorem Xn {N:Nat}{H:Array Obj}{v:Value}{a:QT}(h:Xo N H v a):∃us,v=.agg us.toArray∧us.length=4∧ZL us:=by
 obtain ⟨va,vm,ve,h1,h2⟩:=h
 have:=h2 [] (by simp)
 exact ⟨[va,.int .i64 a.st,vm,ve],h1,rfl,this.al.one,rfl,this.mr.one,this.ed.one,trivial⟩
open Go.Proofs.Tryz
theorem ya {L:LN}{w:World}{va vm ve:Value}{a:QT}(h:Zr L w.heap va vm ve a) :
  QL prog 123 [.agg #[va,.int .i64 a.st,vm,ve]] w λr w'=>Step [] w w'∧∃v,r=.tuple #[v,.int .i64 (Jd a)]∧(Jd a≠0→v=zA)∧(Jd a=0→Xo w.heap.size w'.heap v (Jq a)):=by
 refine QL.of_W func123 rfl ntmps123 results123 (by simp) ?_
 refine Qc<|xl rfl<|QR (us:=[va,.int .i64 a.st,vm,ve]) rfl λb1 w1 hs1 hb1 hB1=>xl rfl<|Qu (us:=[nS,.int .i64 0,nS,nS]) rfl λb2 w2 hs2 hb2 hB2=>Qe ?_
 have hs12:=hs1.trans hs2
 refine Qf<|Qc<|x (Qr (hB1.ext hs2) rfl rfl)<|xl rfl<|xf<|(Xl (h.ext hs12)).mono ?_
 rintro r3 w3 ⟨rfl,hs3⟩
 refine Qe ?_
 have hz1:=hs1.size
 refine Qc<|Qb<|x (Q9 rfl rfl)<|xe ?_
 refine Q6 rfl (λh8=>?_) (λh8=>?_)
 ·refine Qc<|x (QE trivial)<|Qb<|xl rfl<|Qo (us:=[nS,.int .i64 0,nS,nS]) (hB2.ext hs3) rfl rfl rfl rfl ⟨rfl,rfl,rfl,rfl,trivial⟩ λw4 hs4 hB4=>Qe ?_
  exact Qm ⟨[zA,.int .i64 (Jd a)],⟨⟨_,rfl,QA rfl (hB4.at (L:=[]) (by simp)).cells⟩,rfl,trivial⟩,(hs12.trans hs3).then1 hs4 (by omega),zA,rfl,λ_=>rfl,λe=>absurd e h8⟩
 have hc:Jd a=0:=Decidable.not_not.1 h8
 have hok:=(ZB a).1 hc
 have hl2:=hB2.lt
 have hs13:=hs12.trans hs3
 refine Qi<|Qc<|x (Qr ((hB1.ext hs2).ext hs3) rfl rfl)<|xl rfl<|xf<|(Je (h.ext hs13) hok).mono ?_
 rintro v w5 ⟨hs5,hF⟩
 obtain ⟨us,hva,husl,hus⟩:=Xn hF
 have hz3:=hs3.size
 have hz13:=hs13.size
 refine xl rfl<|Qo (us:=us) ((hB2.ext hs3).ext hs5) rfl hva husl rfl hus λw6 hs6 hB6 =>
  Qe<|Qm ⟨[.agg us.toArray,.int .i64 0],⟨⟨_,rfl,QA husl (hB6.at (L:=[]) (by simp)).cells⟩,rfl,trivial⟩,(hs13.trans hs5).then1 hs6 (by omega),v,by rw[hc,hva];rfl,λe=>absurd hc e,λ_=>?_⟩
 exact (X6 hF (by omega) hs6).mono hz13
def gget:List ((Int×Int)×Int)→Int×Int→Option Int
 | [],_=>none
 | (k',v)::m,k=>if k'=k then some v else gget m k
def gput:List ((Int×Int)×Int)→Int×Int→Int→List ((Int×Int)×Int)
 | [],k,v=>[(k,v)]
 | (k',v')::m,k,v=>if k'=k then (k',v)::m else (k',v')::gput m k v
def QkJ (s:QT) (cls:LI) (x:Nat) (m:List ((Int×Int)×Int)) (v:Int):List ((Int×Int)×Int):=gput m (cget cls x,v) (cget cls (to0 s x v).toNat)
def QkG (s:QT) (l:List Ku) (cls:LI) (z:LI×List ((Int×Int)×Int)) (x:Nat):LI×List ((Int×Int)×Int) :=
 if cget cls x<0 then z else (if ((lget l x).mk' && (lget l x).ps)=true then Qh3 z.1 (cget cls x) else z.1,(lget l x).en.foldl (QkJ s cls x) z.2)
def QjM (s:QT) (l:List Ku) (cls:LI):LI×List ((Int×Int)×Int):=(List.range' 0 cls.length).foldl (QkG s l cls) ([],[])
def QkI (m:List ((Int×Int)×Int)) (c:Nat) (v:Int):Option Ed:=(gget m ((c:Int),v)).map λt=>((c:Int),v,t)
def QkH (m:List ((Int×Int)×Int)) (al:LI) (n:Nat):List Ed:=(List.range' 0 n).flatMap λc=>al.filterMap (QkI m c)
def QkK (s:QT) (l:List Ku) (cls:LI):QT:=⟨s.al,QjV cls+1,(QjM s l cls).1,QkH (QjM s l cls).2 s.al (QjV cls+1).toNat⟩
def red (p s:QT):QT:=QkK s (ctls p s (opQ p s)) (Qkg p s (opQ p s))
def rdE (p s:QT):Int:=if opE p s≠0 then opE p s else if opQ p s=[] then 0 else Jd (red p s)
theorem X3 {l:LI}{i:Nat}(h:i<l.length):cget l i∈l:=by rw[←Zg h];exact List.getElem_mem h
theorem Q8 {α:Type}(a:α) {Q:Prop}(h:∀b,a=b→Q):Q:=h a rfl
theorem exN {a:Int}(h0:0≤a) {Q:Prop}(h:∀u:Nat,a=u→Q):Q:=h a.toNat (Int.toNat_of_nonneg h0).symm
theorem q7 {N:Nat}{H:Array Obj}{a:QT}{b1 b2 b3 n1 n2 n3:Nat}(h1:Q0 H b1 3 (a.al.map (.int .i64))) (h2:Q0 H b2 3 (a.mr.map (.int .i64))) (h3:Q0 H b3 144 (a.ed.flatMap Qy)) (g1:N≤b1) (g2:N≤b2) (g3:N≤b3)
  (l1:a.al.length=n1) (l2:a.mr.length=n2) (l3:a.ed.length=n3) (m1:n1≤1000) (m2:n2≤1000) (m3:n3≤1000) :
  Xo N H (.agg #[.slice (some ⟨b1,0,none⟩) n1 n1,.int .i64 a.st,.slice (some ⟨b2,0,none⟩) n2 n2,.slice (some ⟨b3,0,none⟩) n3 n3]) a:=by
 subst l1 l2 l3
 refine ⟨_,_,_,rfl,λL hL=>⟨?_,?_,?_⟩⟩
 ·exact h1.arr (λhb=>by have:=hL _ hb;omega) (by simp) (by omega) (Nat.le_refl _)
 ·exact h2.arr (λhb=>by have:=hL _ hb;omega) (by simp) (by omega) (Nat.le_refl _)
 ·exact h3.arr (λhb=>by have:=hL _ hb;omega) (by rw[JH _ 3 XD]) (by omega) (Nat.le_refl _)
end Go.Proofs.YtdffckgdcegpaaaGreatDoor
namespace Go.Lg
section
variable {P:Program} {n:Nat} {f:Fr} {w:World} {d:Option Nat} {ty:Nat} {ps:String} {af:Array Edge} {gd:Option (Nat×Bool)}
class Ay (P:Program) (t:Nat) (m e sz:outParam Nat):Prop where
 u:P.underlying t=some (.array m e)
 i:(P.info? e).map (·.size)=some sz
theorem ZA {x y:Operand}{t m e sz:Nat}[h:Ay P t m e sz] {b o:Nat}{k:IntKind}{i:Nat}(hx:ev f x=.pointer (some ⟨b,o,none⟩)) (hy:ev f y=.int k i) (h1:i<m) :
  (execOp (ev f) ⟨d,.indexAddr t x y,ty,ps,af,gd⟩).run P w=.ok (.value (.pointer (some ⟨b,o+i*sz,none⟩))) w:=by
 have hi:=h.i
 cases hn:P.info? e with
 | none=>simp[hn] at hi
 | some ii =>
  simp[hn] at hi
  simp[execOp,hx,hy,Instr.indexAt,asIntOf,run_underlying h.u,Instr.sureAddr,sizeOf,typeInfo,hn,hi,JC]
  intro h2;omega
theorem QhA {a b:Nat}(ha:a<256):inK .u8 ((a &&& b:Nat):Int):=by
 have:a &&& b≤a:=Nat.and_le_left
 exact ⟨by omega,by omega⟩
theorem Uj {t t':Nat}{x y:Operand}{a b:Nat}(hx:ev f x=.int .u8 a) (hy:ev f y=.int .u8 b) (ha:a<256) (hb:b<256) :
  (execOp (ev f) ⟨d,.binOp .and t x y t',ty,ps,af,gd⟩).run P w=.ok (.value (.int .u8 ((a &&& b:Nat):Int))) w:=by
 refine YQ hx hy ?_
 simp only[binOp,Op.intBits,BitVec.ofInt_natCast,ne_eq,not_true_eq_false,if_false,Sem.run_pure]
 rw[BitVec.toNat_and,BitVec.toNat_ofNat,BitVec.toNat_ofNat,Nat.mod_eq_of_lt (show a<2 ^ IntKind.u8.bits from ha),Nat.mod_eq_of_lt (show b<2 ^ IntKind.u8.bits from hb),Ya (QhA ha)]
theorem zg (m i:Nat):((m:Int) / 2 ^ i)=((m / 2 ^ i:Nat):Int):=by rw[Int.natCast_ediv,Int.natCast_pow];rfl
end
inductive Pt where
 | pl (l:List (Nat×Bool))
 | fk (pre:List (Nat×Bool)) (i j:Nat) (t1 t2:Pt)
def JQ (all:Array Oper):List (Nat×Bool)→Array Bool→Bool
 | [],_=>true
 | (k,q)::pl,ls=>q && (Region.ready .any all ls).contains k && Region.free .any all ls k && JQ all pl (ls.setIfInBounds k true)
def ZU:List (Nat×Bool)→Array Bool→Array Bool
 | [],ls=>ls
 | (k,_)::pl,ls=>ZU pl (ls.setIfInBounds k true)
def XT (P:Program) (all:List Oper) (C:World→Prop) (K:Fr→World→Prop):Pt→Fr→World→Prop
 | .pl l=>XP P all C K l
 | .fk pre i j t1 t2=>XP P all C (λf w=>(Z9 all f (Q4 all i)=true∧XO P (Q4 all i) f w λf' w'=>C w'∧XT P all C K t1 f' w') ∧
   (Z9 all f (Q4 all j)=true∧XO P (Q4 all j) f w λf' w'=>C w'∧XT P all C K t2 f' w')) pre
section
variable {P:Program} {n:Nat} {f:Fr} {w:World} {all:List Oper} {C:World→Prop} {K B:Fr→World→Prop}
theorem YD:∀(pl:List (Nat×Bool)) (ls:Array Bool),(ZU pl ls).size=ls.size
 | [],_=>rfl
 | (k,q)::pl,ls=>by rw[ZU,YD];simp
theorem YB {m:Nat}(hs:Region.noSelect all.toArray=true):∀(pl:List (Nat×Bool)) (ls:Array Bool) (f:Fr) (w:World),C w→JQ all.toArray pl ls=true →
  (∀f,B f w→XA P all C K m (ZU pl ls) f w)→XP P all C B pl f w→XA P all C K (pl.length+m) ls f w
 | [],ls,f,w,hC,hp,hB,h=>by
  simp only[XP] at h
  rw[List.length_nil,Nat.zero_add]
  exact hB f h
 | (i0,q)::pl,ls,f,w,hC,hp,hB,h=>by
  simp only[JQ,Bool.and_eq_true] at hp
  obtain ⟨⟨⟨rfl,hr⟩,hf⟩,hp'⟩:=hp
  simp only[XP] at h
  have hri:i0∈Region.ready .any all.toArray ls:=by simpa using hr
  have e:(List.length ((i0,true)::pl))+m=(pl.length+m)+1:=by simp;omega
  rw[e]
  cases ho:all[i0]? with
  | none =>
   exfalso
   obtain ⟨_,o,hoo,_⟩:=mem_ready.1 hri
   simp[ho] at hoo
  | some o =>
   rw[Zk ho] at h
   have hsel:∀(j:Nat) (o:Oper) cs b,all[j]?=some o→o.op≠.select cs b:=λj o cs b hj=>Region.noSelect_spec hs j o cs b (by simpa using hj)
   have hfree:=λj oj hj=>Region.free_spec (ops:=all.toArray) (md:=.any) (i:=i0) (oi:=o) (listed:=ls) (by simpa using ho) hf j oj (by simpa using hj)
   cases hg:Z9 all f o with
   | false =>
    rw[hg] at h
    exact YV (v:=undef) (D:=λw=>UZ o=true→C w) ho (λ_ h=>h) hsel _ ls f w (λ_=>hC) hfree hri (.inr ⟨hg,rfl⟩) (YB hs pl _ _ _ hC hp' hB h)
   | true =>
    rw[hg] at h
    simp only[cond_true] at h
    obtain ⟨v,hv,hx⟩:=h
    exact YV (v:=v) (D:=λw=>UZ o=true→C w) ho (λ_ h=>h) hsel _ ls f w (λ_=>hC) hfree hri (.inl ⟨hg,hv⟩) (YB hs pl _ _ _ hC hp' hB hx)
end
end Go.Lg
namespace Go.Proofs.YtdffckgdcegpaaaGreatDoor
open Go.Lg
theorem Yf.lt_of {a:Int}{l:LI}(h:Yf (a::l)) {x:Int}(hx:x∈l):a<x:=(List.pairwise_cons.1 h).1 x hx
theorem Yf.tail {a:Int}{l:LI}(h:Yf (a::l)):Yf l:=(List.pairwise_cons.1 h).2
theorem QgH (keep:Bool→Bool→Bool):∀(n:Nat) (a b:LI),a.length+b.length≤n→Yf a→Yf b→∀x,x∈mrg keep a b↔(x∈a∨x∈b)∧keep (decide (x∈a)) (decide (x∈b))=true:=by
 intro n
 induction n with
 | zero =>
  intro a b h _ _ x
  have ha:a=[]:=List.eq_nil_of_length_eq_zero (by omega)
  have hb:b=[]:=List.eq_nil_of_length_eq_zero (by omega)
  subst ha hb;simp[Ja]
 | succ n ih =>
  intro a b hn ia ib x
  cases a with
  | nil =>
   cases b with
   | nil=>simp[Ja]
   | cons y b =>
    rw[XZ keep (by simp)]
    have:=ih [] b (by simp at hn ⊢;omega) ia ib.tail x
    have hy:y∉b:=λh=>by have:=ib.lt_of h;omega
    simp only[Y6,tl,hx,cond_true,cond_false,List.tail_cons,List.headD_cons,List.mem_append]
    rw[this]
    by_cases e:x=y
    ·subst e
     cases hk:keep false true <;> simp[hk,hy]
    ·cases keep false true <;> simp[e]
  | cons u a =>
   cases b with
   | nil =>
    rw[XZ keep (by simp)]
    have:=ih a [] (by simp at hn ⊢;omega) ia.tail ib x
    have hy:u∉a:=λh=>by have:=ia.lt_of h;omega
    simp only[Y6,tl,hx,cond_true,cond_false,List.tail_cons,List.headD_cons,List.mem_append]
    rw[this]
    by_cases e:x=u
    ·subst e
     cases hk:keep true false <;> simp[hk,hy]
    ·cases keep true false <;> simp[e]
   | cons y b =>
    rw[XZ keep (by simp)]
    have hu:u∉a:=λh=>by have:=ia.lt_of h;omega
    have hy:y∉b:=λh=>by have:=ib.lt_of h;omega
    rcases Int.lt_trichotomy u y with h1 | h1 | h1
    ·have hub:u∉y::b:=λh=>by
      rcases List.mem_cons.1 h with h | h
      ·omega
      ·have:=ib.lt_of h;omega
     have:=ih a (y::b) (by simp at hn ⊢;omega) ia.tail ib x
     have e1:decide (u≤y)=true:=decide_eq_true (by omega)
     have e2:decide (y≤u)=false:=decide_eq_false (by omega)
     simp only[Y6,tl,hx,e1,e2,cond_true,cond_false,List.tail_cons,List.headD_cons,List.mem_append]
     rw[this]
     by_cases e:x=u
     ·subst e
      cases hk:keep true false <;> simp[hk,hu,hub]
     ·cases keep true false <;> simp[e]
    ·subst h1
     have:=ih a b (by simp at hn ⊢;omega) ia.tail ib.tail x
     have e1:decide (u≤u)=true:=decide_eq_true (by omega)
     simp only[Y6,tl,hx,e1,cond_true,List.tail_cons,List.headD_cons,List.mem_append]
     rw[this]
     by_cases e:x=u
     ·subst e
      cases hk:keep true true <;> simp[hk,hu,hy]
     ·cases keep true true <;> simp[e]
    ·have hub:y∉u::a:=λh=>by
      rcases List.mem_cons.1 h with h | h
      ·omega
      ·have:=ia.lt_of h;omega
     have:=ih (u::a) b (by simp at hn ⊢;omega) ia ib.tail x
     have e1:decide (u≤y)=false:=decide_eq_false (by omega)
     have e2:decide (y≤u)=true:=decide_eq_true (by omega)
     simp only[Y6,tl,hx,e1,e2,cond_true,cond_false,List.tail_cons,List.headD_cons,List.mem_append]
     rw[this]
     by_cases e:x=y
     ·subst e
      cases hk:keep false true <;> simp[hk,hy,hub]
     ·cases keep false true <;> simp[e]
theorem V1 {keep:Bool→Bool→Bool}{a b:LI}(ia:Yf a) (ib:Yf b) (x:Int):x∈mrg keep a b↔(x∈a∨x∈b)∧keep (decide (x∈a)) (decide (x∈b))=true :=
 QgH keep _ a b (Nat.le_refl _) ia ib x
def setK (m k:Nat):LI:=((List.range' 0 k).filter λi=>decide (((m / 2 ^ i) &&& 1)=1)).map λi:Nat=>(i:Int)
theorem Ve (m k:Nat):setK m (k+1)=if (m / 2 ^ k) &&& 1=1 then setK m k++[(k:Int)] else setK m k:=by
 unfold setK
 rw[List.range'_1_concat,List.filter_append,List.map_append,Nat.zero_add]
 by_cases h:(m / 2 ^ k) &&& 1=1
 ·rw[if_pos h,List.filter_cons,if_pos (decide_eq_true h)];rfl
 ·rw[if_neg h,List.filter_cons,if_neg (by rw[decide_eq_false h];simp),List.filter_nil,List.map_nil,List.append_nil]
theorem YP (m:Nat):∀k,(setK m k).length≤k
 | 0=>by simp[setK]
 | k+1=>by
  have:=YP m k
  rw[Ve]
  split
  ·simp;omega
  ·omega
theorem Ky (m k:Nat):Yf (setK m k):=by
 unfold setK Yf
 rw[List.pairwise_map]
 refine List.Pairwise.sublist List.filter_sublist ?_
 exact (List.pairwise_lt_range' (s:=0) (n:=k)).imp (λh=>by omega)
open Go.Proofs.Tryz
instance ayCx1:Ay prog 119 4 5 1:=⟨by kernel_rfl,by kernel_rfl⟩
end Go.Proofs.YtdffckgdcegpaaaGreatDoor
namespace Go.Lg
section
variable {P:Program} {f:Fr} {w:World} {K:Fr→World→Prop} {d:Option Nat} {ty:Nat} {ps:String} {af:Array Edge} {gd:Option (Nat×Bool)}
theorem VL {t ty e sz bys:Nat}{z:Value}[h:Sl P t e sz bys z] {base:Nat}{v:Value}{n:Nat}{cs:LV}(hown:w.ownsRow base e sz v n cs) :
  (Builtin.append_ #[t,t] ty #[v,nS]).run P w=.ok v w:=by
 obtain ⟨i,hi,_,hsz,_⟩:=Sl.info h
 rcases hown.2 with ⟨rfl,rfl⟩ | ⟨g,cap,cur,rfl,hbg,hgg,hnc,hcm,hcs,htake⟩
 ·simp[Builtin.append_,run_underlying h.u,sizeOf,typeInfo,hi,Builtin.lenOf,Builtin.firstCells]
 ·simp[Builtin.append_,run_underlying h.u,sizeOf,typeInfo,hi,Builtin.lenOf,Builtin.firstCells,hnc,storeCells]
theorem zw {t e sz bys:Nat}{z:Value}[h:Sl P t e sz bys z] {s y:Operand}{base:Nat}{v:Value}{n:Nat}{cs:LV}(hown:w.ownsRow base e sz v n cs) (hs:ev f s=v)
  {v2:Value} {m:Nat} {news:LV} {L:LN} (hA:Zo L w.heap v2 m sz news) (hy:ev f y=v2) (h1:∀u∈news,u.oneCell'=true)
  (hb:n+m≤1099511627776) (hbase:base≤w.heap.size)
  (hK:∀v' w',w'.ownsRow base e sz v' (n+m) (cs++news)→Step (ob v) w w'→(∀b∈ob v',b∈ob v∨w.heap.size≤b)→K (QX f d v') w') (hby:bys≤128:=by decide) :
  XO P ⟨d,.call ⟨.builtin .append,#[s,y],#[t,t]⟩,ty,ps,af,gd⟩ f w K:=by
 rcases hA.2.2 with ⟨e1,e2⟩ | ⟨a,c,e1,_,e3⟩
 ·subst e2
  have hn:news=[]:=List.eq_nil_of_length_eq_zero (by have:=hA.1;simpa using this)
  subst hn
  have hr':(execOp (ev f) ⟨d,.call ⟨.builtin .append,#[s,y],#[t,t]⟩,ty,ps,af,gd⟩).run P w=.ok (.value v) w:=by
   simp[execOp,resolve,invoke,builtin,hs,hy,e1,VL (ty:=ty) hown]
  exact xv hr' (hK v w (by simpa using hown) (Step.refl _ _) (λb hb=>.inl hb))
 ·exact QY hown hs (hy.trans e1) hA.1 e3 h1 hb hbase hK hby
end
end Go.Lg
namespace Go.Proofs.YtdffckgdcegpaaaGreatDoor
open Go.Proofs.Tryz
open Go.Lg
theorem Qbu {L:LN}{w:World}{v:Value}{l:LI}(h:QM L w.heap v l) (x:Int) :
  QL prog 254 [v,.int .i64 x] w λr w'=>r=.bool (decide (x∈l))∧w'=w:=by
 have hle:=h.le
 refine QL.of_W func254 rfl ntmps254 results254 (by simp) ?_
 refine Qc<|Lg.Qe<|Qf<|Qc<|Lg.Qe<|Qg<|QC (α:=Nat) [(4,17)] (λk=>[(5,.int .i64 k)]) (λk w'=>w'=w∧k≤l.length∧(x∈l↔x∈l.drop k)) (λk=>l.length - k) (by rfl) 0 ⟨rfl,trivial⟩ ⟨rfl,Nat.zero_le _,by simp⟩ ?_
 rintro k g w' ⟨rfl,hk,hm⟩
 refine Qf<|Qc<|Lg.Qb<|Lg.Qb<|Lg.x (Qs h rfl)<|Lg.x (QB rfl rfl)<|xe ?_
 refine QH rfl (λh9=>?_) (λh9=>?_)
 ·refine Qz ?_
  refine Qc<|Lg.Qe<|Qm ⟨[.bool false],⟨rfl,trivial⟩,?_,rfl⟩
  rw[List.drop_of_length_le (by omega)] at hm
  simp[tup,hm]
 have hlt:k<l.length:=by omega
 have hd:=QW hlt
 refine Qi<|Qf<|Qg<|Qc<|Lg.Qb<|Lg.Qb<|xii h rfl rfl hlt λa14 h14=>Lg.x (Qv h14 rfl)<|Lg.Qb<|Lg.x (Q5 rfl rfl)<|xe ?_
 refine Q6 rfl (λh17=>?_) (λh17=>?_)
 ·refine Qc<|Lg.Qe<|Qm ⟨[.bool true],⟨rfl,trivial⟩,?_,rfl⟩
  have:x∈l:=by rw[hm,hd,h17];exact List.mem_cons_self
  simp[tup,this]
 refine Qi<|Qw<|Lg.Qb<|Lg.x (Qx rfl rfl ⟨by omega,by omega⟩)<|Lg.Qe<|⟨k+1,by omega,⟨rfl,trivial⟩,rfl,by omega,?_⟩
 rw[hm,hd,List.mem_cons]
 exact ⟨λh=>h.resolve_left (λe=>h17 e.symm),.inr⟩
theorem ym {L:LN}{w:World}{va vm ve:Value}{a:QT}(h:UX L w.heap ve a.ed) (s e:Int) (st:Int) :
  QL prog 255 [.agg #[va,.int .i64 st,vm,ve],.int .i64 s,.int .i64 e] w λr w'=>r=.int .i64 (nxt a.ed s e)∧Step [] w w':=by
 have hle:=h.le
 refine QL.of_W func255 rfl ntmps255 results255 (by simp) ?_
 refine Qc<|xl rfl<|QR (us:=[va,.int .i64 st,vm,ve]) rfl λb3 w1 hs1 hb3 hB3=>Lg.Qe ?_
 replace h:=h.ext hs1
 refine Qf<|Qc<|Lg.Qe<|Qg<|QC (α:=Nat) [(6,38)] (λk=>[(7,.int .i64 k)]) (λk w'=>w'=w1∧k≤a.ed.length∧nxt (a.ed.drop k) s e=nxt a.ed s e) (λk=>a.ed.length - k) (by rfl) 0 ⟨rfl,trivial⟩ ⟨rfl,Nat.zero_le _,rfl⟩ ?_
 rintro k g w2 ⟨rfl,hk,hn⟩
 refine Qf<|Qc<|Lg.Qb<|Lg.x (Qa rfl)<|Lg.x (Qd hB3 rfl rfl)<|Lg.x (Qs h rfl)<|Lg.x (QB rfl rfl)<|xe ?_
 refine QH rfl (λh12=>?_) (λh12=>?_)
 ·refine Qz ?_
  refine Qc<|Lg.Qe<|Qm ⟨[.int .i64 (-1)],⟨rfl,trivial⟩,?_,hs1⟩
  rw[List.drop_of_length_le (by omega)] at hn
  rw[←hn];rfl
 have hlt:k<a.ed.length:=by omega
 have hd:=QW hlt
 refine Qi<|Qf<|Qg<|QV (α:=Bool) [(15,32)] (λz=>[(32,.bool z)]) (λz w'=>w'=w2∧z=decide (a.ed[k].1=s∧a.ed[k].2.1=e)) (by rfl) ?_ ?_
 ·refine Qw<|Lg.x (Qa rfl)<|Lg.x (Qd hB3 rfl rfl)<|Lg.Qb<|xie h rfl rfl hlt λa18 h18=>Lg.x (Q7 rfl)<|Lg.x (Qv (h18.fld 0 _ rfl) rfl) <|
   Lg.Qb<|xb (Q5 rfl rfl) (λh22=>?_) (λh22=>?_)
  ·refine Lg.Qb<|Lg.x (Qa rfl)<|Lg.x (Qd hB3 rfl rfl)<|Lg.Qb<|xie h rfl rfl hlt λa27 h27=>Lg.x (Q7 rfl)<|Lg.x (Qv (h27.fld 1 _ rfl) rfl) <|
    Lg.Qb<|Lg.x (Q5 rfl rfl)<|Lg.x (Ql rfl)<|xe ?_
   exact ⟨_,⟨rfl,trivial⟩,rfl,by simp[h22]⟩
  refine Lg.Qb<|xs rfl<|xs rfl<|xs rfl<|xs rfl<|xs rfl<|xs rfl<|xs rfl<|xs rfl<|Lg.x (Ql rfl)<|xe ?_
  exact ⟨_,⟨rfl,trivial⟩,rfl,by simp[h22]⟩
 rintro z g w3 ⟨rfl,rfl⟩
 refine Q6 rfl (λh32=>?_) (λh32=>?_)
 ·refine Qc<|Lg.x (Qa rfl)<|Lg.x (Qd hB3 rfl rfl)<|Lg.Qb<|xie h rfl rfl hlt λa36 h36=>Lg.x (Q7 rfl)<|Lg.x (Qv (h36.fld 2 _ rfl) rfl) <|
   Lg.Qe<|Qm ⟨[.int .i64 a.ed[k].2.2],⟨rfl,trivial⟩,?_,hs1⟩
  rw[←hn,hd,nxt,if_pos h32];rfl
 refine Qi<|Qw<|Lg.Qb<|Lg.x (Qx rfl rfl ⟨by omega,by omega⟩)<|Lg.Qe<|⟨k+1,by omega,⟨rfl,trivial⟩,rfl,by omega,?_⟩
 rw[←hn,hd,nxt,if_neg h32]
def Uw (l:LI) (n:Int):Int:=if n∈l then (l.idxOf n:Int) else -1
theorem QeB {l:LI}{n:Int}{k:Nat}(h:n∉l.take k) (hk:k<l.length) (he:cget l k=n):Uw l n=k:=by
 have hm:n∈l:=by rw[←he,←Zg hk];exact List.getElem_mem hk
 unfold Uw
 rw[if_pos hm]
 have hs:l=l.take k++l.drop k:=(List.take_append_drop k l).symm
 have:l.idxOf n=k:=by
  rw[hs,List.idxOf_append,if_neg h,List.drop_eq_getElem_cons hk,List.idxOf_cons,show l[k]=n by rw[Zg hk];exact he]
  simp;omega
 rw[this]
theorem Qcy {L:LN}{w:World}{v:Value}{l:LI}(h:QM L w.heap v l) (n:Int) :
  QL prog 256 [v,.int .i64 n] w λr w'=>r=.int .i64 (Uw l n)∧w'=w:=by
 have hle:=h.le
 refine QL.of_W func256 rfl ntmps256 results256 (by simp) ?_
 refine Qc<|Qe<|Qf<|Qc<|Qe<|Qg<|QC (α:=Nat) [(4,18)] (λz=>[(5,.int .i64 z)]) (λz w'=>w'=w∧z≤l.length∧n∉l.take z) (λz=>l.length - z) (by rfl) 0 ⟨rfl,trivial⟩ ⟨rfl,Nat.zero_le _,by simp⟩ ?_
 rintro k g w1 ⟨rfl,hk,hm⟩
 refine Qf<|Qc<|Qb<|Qb<|x (Qs h rfl)<|x (QB rfl rfl)<|xe ?_
 refine QH rfl (λh9=>?_) (λh9=>?_)
 ·refine Qz ?_
  refine Qc<|Qe ?_
  rw[List.take_of_length_le (by omega)] at hm
  exact Qm ⟨[.int .i64 (-1)],⟨rfl,trivial⟩,by unfold Uw;rw[if_neg hm];rfl,rfl⟩
 have hlt:k<l.length:=by omega
 refine Qi<|Qf<|Qg<|Qc<|Qb<|Qb<|xic (i:=k) h rfl rfl hlt λa14 h14=>x (Qv h14 rfl)<|Qb<|x (Q5 rfl rfl)<|xe ?_
 refine Q6 rfl (λh17=>?_) (λh17=>?_)
 ·refine Qc<|Qb<|Qe ?_
  exact Qm ⟨[.int .i64 k],⟨rfl,trivial⟩,by rw[QeB hm hlt h17];rfl,rfl⟩
 refine Qi<|Qw<|Qb<|x (Qx rfl rfl ⟨by omega,by omega⟩)<|Qe<|⟨k+1,by omega,⟨rfl,trivial⟩,rfl,hlt,?_⟩
 rw[List.take_succ_eq_append_getElem hlt,Zg hlt]
 simp only[List.mem_append,List.mem_singleton,not_or]
 exact ⟨hm,λe=>h17 e.symm⟩
theorem Vq {L:LN}{w:World}{v:Value}{l:LI}(h:QM L w.heap v l) (hl:l.length≤1000000) :
  QL prog 200 [v] w λr w'=>Step [] w w'∧∃va,r=.agg #[va,.int .i64 0,nS,nS]∧Qt 3 w.heap.size w' va l:=by
 refine QL.of_W func200 rfl ntmps200 results200 (by simp) ?_
 refine Qc<|xl rfl<|Qu (us:=[nS,.int .i64 0,nS,nS]) rfl λb2 w1 hs1 hb2 hB2=>xe ?_
 have hz1:=hs1.size
 have hl2:=hB2.lt
 refine Qc<|xl rfl<|Ka λb3 w2 hs2 hb3 hB3=>Qb<|?_
 have hs12:=hs1.trans hs2
 have hz2:=hs2.size
 have ho2:w2.ownsRow w1.heap.size 3 1 (.slice (some ⟨b3,0,none⟩) 0 0) 0 []:=hB3.own (n:=0) (sz:=1) rfl (by omega) hb3
 refine xl rfl<|zw ho2 rfl (h.ext hs12) rfl (KH l) (by omega) (by omega) λva w3 ho3 hs3 hn3=>?_
 have ho3':Qt 3 w1.heap.size w3 va l:=by
  have:w3.ownsRow w1.heap.size 3 1 va (0+l.length) ([]++l.map (.int .i64)):=ho3
  rw[Nat.zero_add,List.nil_append] at this;exact this
 have hA:=Qt.ints (L:=[]) ho3' (by omega) (by simp)
 have hB23:=(hB2.ext hs2).step hs3 (QN ho2 hl2)
 have hW3:Step [] w w3:=hs12.then hs3 (λb hb=>.inr (by have:=(Qk ho2 b hb).1;omega))
 refine x (QE ⟨hA.cells,trivial⟩)<|xl rfl<|Qo (us:=[va,.int .i64 0,nS,nS]) hB23 rfl rfl rfl rfl ⟨hA.one,rfl,rfl,rfl,trivial⟩ λw4 hs4 hB4=>xe ?_
 have ho4:=Qj ho3' hs4 (λb hb=>by have:=(Qk ho3' b hb).1;simp;omega)
 exact Qm ⟨[.agg #[va,.int .i64 0,nS,nS]],⟨⟨_,rfl,QA rfl (hB4.at (L:=[]) (by simp)).cells⟩,trivial⟩,hW3.then1 hs4 hb2,va,rfl,Zi ho4 hz1⟩
theorem pig:∀(n:Nat) (l:LI),l.Nodup→(∀x∈l,0≤x∧x<n)→l.length≤n
 | 0,l,_,h=>by
  cases l with
  | nil=>simp
  | cons a l=>have:=h a List.mem_cons_self;omega
 | n+1,l,hd,h=>by
  by_cases hm:(n:Int)∈l
  ·have h1:=pig n (l.erase (n:Int)) (hd.erase _) (λx hx=>by
    have h2:=(List.Nodup.mem_erase_iff hd).1 hx
    have h3:=h x h2.2
    have h4:x≠(n:Int):=h2.1
    omega)
   rw[List.length_erase_of_mem hm] at h1
   omega
  ·have:=pig n l hd (λx hx=>by
    have h3:=h x hx
    have h4:x≠(n:Int):=λe=>hm (by rw[←e];exact hx)
    omega)
   omega
def Kt (a:QT) (s:Int) (out:LI) (v:Int):LI:=if 0≤nxt a.ed s v∧nxt a.ed s v∉out then out++[nxt a.ed s v] else out
def fdR (a:QT) (out:LI) (s:Int):LI:=a.al.foldl (Kt a s) out
def qN (a:QT):Nat→Nat→LI→LI
 | 0,_,out=>out
 | f+1,i,out=>if i<out.length then qN a f (i+1) (fdR a out (cget out i)) else out
def fd0 (a:QT):LI:=if 0<a.st then [0] else []
def found (a:QT):LI:=qN a a.st.toNat 0 (fd0 a)
structure VS (a:QT) (out:LI):Prop where
 b:∀x∈out,0≤x∧x<a.st
 d:out.Nodup
theorem VS.len {a:QT}{out:LI}(h:VS a out) (h0:0≤a.st):out.length≤a.st.toNat:=pig _ _ h.d (λx hx=>by have:=h.b x hx;omega)
theorem zx {es:List Ed}{s v:Int}(h:0≤nxt es s v):(s,v,nxt es s v)∈es:=by
 induction es with
 | nil=>simp[nxt] at h
 | cons e es ih =>
  rw[nxt] at h ⊢
  split at h
  ·rename_i he
   rw[if_pos he]
   obtain ⟨p,q,r⟩:=e
   obtain ⟨h1,h2⟩:=he
   simp only[] at h1 h2
   subst h1 h2
   exact List.mem_cons_self
  ·rename_i he
   rw[if_neg he]
   exact List.mem_cons_of_mem _ (ih h)
theorem Qe0 {a:QT}(ho:Zm a) {out:LI}(h:VS a out) (s v:Int):VS a (Kt a s out v):=by
 unfold Kt
 split
 ·rename_i hc
  have hm:=ho.ed _ (zx hc.1)
  refine ⟨λx hx=>?_,?_⟩
  ·rcases List.mem_append.1 hx with hx | hx
   ·exact h.b x hx
   ·simp only[List.mem_singleton] at hx;subst hx;exact ⟨hc.1,hm.2.2.2.2⟩
  ·rw[List.nodup_append]
   refine ⟨h.d,by simp,λx hx y hy=>?_⟩
   simp only[List.mem_singleton] at hy
   subst hy
   exact λe=>hc.2 (by rw[←e];exact hx)
 ·exact h
theorem Qha {a:QT}{out:LI}{s v:Int}:∀x∈out,x∈Kt a s out v:=λx hx=>by unfold Kt;split;exact List.mem_append_left _ hx;exact hx
theorem QiS {a:QT}{out:LI}{s v:Int}(h:0≤nxt a.ed s v):nxt a.ed s v∈Kt a s out v:=by
 unfold Kt
 by_cases hm:nxt a.ed s v∈out
 ·rw[if_neg (λe=>e.2 hm)];exact hm
 ·rw[if_pos ⟨h,hm⟩];simp
theorem QeY {a:QT}(ho:Zm a) (s:Int):∀(vs:LI) (out:LI),VS a out→VS a (vs.foldl (Kt a s) out)
 | [],_,h=>h
 | v::vs,_,h=>QeY ho s vs _ (Qe0 ho h s v)
theorem zS {a:QT}{s:Int}:∀(vs:LI) (out:LI),∀x∈out,x∈vs.foldl (Kt a s) out
 | [],_,_,hx=>hx
 | _::vs,_,x,hx=>zS vs _ x (Qha x hx)
theorem QeZ {a:QT}{s:Int}:∀(vs:LI) (out:LI),∀v∈vs,0≤nxt a.ed s v→nxt a.ed s v∈vs.foldl (Kt a s) out
 | v::vs,out,u,hu,h=>by
  rcases List.mem_cons.1 hu with rfl | hu
  ·exact zS vs _ _ (QiS h)
  ·exact QeZ vs _ u hu h
theorem Qbw {a:QT}{s:Int}:∀(vs:LI) (out:LI),∃r,vs.foldl (Kt a s) out=out++r
 | [],out=>⟨[],by simp⟩
 | v::vs,out=>by
  obtain ⟨r,hr⟩:=Qbw (a:=a) (s:=s) vs (Kt a s out v)
  rw[List.foldl_cons,hr]
  unfold Kt
  split
  ·exact ⟨[nxt a.ed s v]++r,by simp⟩
  ·exact ⟨r,rfl⟩
theorem jp {l r:LI}{i:Nat}(h:i<l.length):cget (l++r) i=cget l i:=by
 rw[←Zg h,←Zg (by simp;omega),List.getElem_append_left h]
def Cl (a:QT) (out:LI) (i:Nat):Prop:=∀j,j<i→j<out.length→∀v∈a.al,0≤nxt a.ed (cget out j) v→nxt a.ed (cget out j) v∈out
theorem Cl.next {a:QT}{out:LI}{i:Nat}(h:Cl a out i) (hi:i<out.length):Cl a (fdR a out (cget out i)) (i+1):=by
 intro j hj hjl v hv hn
 obtain ⟨r,hr⟩:=Qbw (a:=a) (s:=cget out i) a.al out
 have hr':fdR a out (cget out i)=out++r:=hr
 have hjo:j<out.length:=by omega
 rw[hr',jp hjo] at hn ⊢
 by_cases e:j=i
 ·subst e
  have:=QeZ a.al out v hv hn
  rw[←hr'];exact this
 ·exact List.mem_append_left _ (h j (by omega) hjo v hv hn)
theorem QeX {a:QT}(ho:Zm a):∀(f i:Nat) (out:LI),VS a out→Cl a out i→i+f=a.st.toNat→VS a (qN a f i out)∧Cl a (qN a f i out) (qN a f i out).length
 | 0,i,out,h,hc,hf=>by
  have:=h.len ho.st0
  exact ⟨h,λj hj hjl=>hc j (by rw[qN] at hj;omega) hjl⟩
 | f+1,i,out,h,hc,hf=>by
  rw[qN]
  split
  ·rename_i hi
   exact QeX ho f (i+1) _ (QeY ho _ _ _ h) (hc.next hi) (by omega)
  ·rename_i hi
   exact ⟨h,λj hj hjl=>hc j (by omega) hjl⟩
theorem Qe1 (a:QT):VS a (fd0 a):=by
 unfold fd0
 split
 ·rename_i h
  exact ⟨λx hx=>by simp only[List.mem_singleton] at hx;subst hx;exact ⟨by omega,h⟩,by simp⟩
 ·exact ⟨by simp,by simp⟩
theorem KU {a:QT}(ho:Zm a):VS a (found a)∧∀s∈found a,∀v∈a.al,0≤nxt a.ed s v→nxt a.ed s v∈found a:=by
 obtain ⟨h1,h2⟩:=QeX ho a.st.toNat 0 (fd0 a) (Qe1 a) (λj hj=>by omega) (by omega)
 refine ⟨h1,λs hs v hv hn=>?_⟩
 obtain ⟨j,hj,rfl⟩:=List.getElem_of_mem hs
 have:=h2 j hj hj v hv
 unfold found at hj hn ⊢
 rw[Zg hj] at hn ⊢
 exact this hn
def Jf (a:QT) (fd:LI) (i:Nat) (v:Int):Option Ed:=if 0≤nxt a.ed (cget fd i) v then some ((i:Int),v,Uw fd (nxt a.ed (cget fd i) v)) else none
def Ym (a:QT) (fd:LI) (n:Nat):LI:=((List.range' 0 n).filter λi=>decide (cget fd i∈a.mr)).map λi:Nat=>(i:Int)
def Yz (a:QT) (fd:LI) (n:Nat):List Ed:=(List.range' 0 n).flatMap λi=>a.al.filterMap (Jf a fd i)
def Yq (a:QT):QT:=⟨a.al,(found a).length,Ym a (found a) (found a).length,Yz a (found a) (found a).length⟩
theorem Y5 {β:Type}{r:Int→Int→Prop}{q:β→β→Prop}{g:Int→Option β}(hg:∀x y u v,r x y→g x=some u→g y=some v→q u v):∀{l:LI},l.Pairwise r→(l.filterMap g).Pairwise q
 | [],_=>by simp
 | x::l,h=>by
  obtain ⟨h1,h2⟩:=List.pairwise_cons.1 h
  rw[List.filterMap_cons]
  split
  ·exact Y5 hg h2
  ·rename_i u hu
   refine List.pairwise_cons.2 ⟨λv hv=>?_,Y5 hg h2⟩
   obtain ⟨y,hy,hyv⟩:=List.mem_filterMap.1 hv
   exact hg x y u v (h1 y hy) hu hyv
theorem zZ {a:QT}(ho:Zm a):Zm (Yq a)∧(Yq a).al=a.al∧(Yq a).st≤a.st:=by
 obtain ⟨h1,h2⟩:=KU ho
 have hl:=h1.len ho.st0
 have h0:=ho.st0
 have h4:=ho.st1
 refine ⟨⟨ho.al,ho.ali,by simp[Yq],by simp only[Yq];omega,λs hs=>?_,?_,λe he=>?_,?_⟩,rfl,by simp only[Yq];omega⟩
 ·simp only[Yq,Ym,List.mem_map,List.mem_filter,List.mem_range'_1] at hs
  obtain ⟨i,⟨hi,_⟩,rfl⟩:=hs
  simp only[Yq];omega
 ·simp only[Yq,Ym]
  unfold Yf
  rw[List.pairwise_map]
  refine List.Pairwise.sublist List.filter_sublist ?_
  exact (List.pairwise_lt_range' (s:=0) (n:=(found a).length)).imp (λh=>by omega)
 ·simp only[Yq,Yz,List.mem_flatMap,List.mem_filterMap,List.mem_range'_1] at he
  obtain ⟨i,⟨_,hi⟩,v,hv,hf⟩:=he
  unfold Jf at hf
  split at hf
  ·rename_i hn
   cases hf
   have hi':i<(found a).length:=by omega
   have hm:=h2 (cget (found a) i) (by rw[←Zg hi'];exact List.getElem_mem hi') v hv hn
   have hx:=List.idxOf_lt_length_of_mem hm
   simp only[Yq]
   unfold Uw
   rw[if_pos hm]
   exact ⟨by omega,by omega,hv,by omega,by omega⟩
  ·cases hf
 ·simp only[Yq,Yz]
  have key:∀(is:LN),is.Pairwise (·<·)→(is.flatMap λi=>a.al.filterMap (Jf a (found a) i)).Pairwise λx y:Ed=>x.1<y.1∨(x.1=y.1∧x.2.1<y.2.1):=by
   intro is
   induction is with
   | nil=>intro _;simp
   | cons i is ih =>
    intro hp
    obtain ⟨p1,p2⟩:=List.pairwise_cons.1 hp
    rw[List.flatMap_cons,List.pairwise_append]
    have from_i:∀(i:Nat) (e:Ed),e∈a.al.filterMap (Jf a (found a) i)→e.1=i:=by
     intro i e he
     obtain ⟨v,_,hf⟩:=List.mem_filterMap.1 he
     unfold Jf at hf
     split at hf
     ·cases hf;rfl
     ·cases hf
    refine ⟨?_,ih p2,λe he e' he'=>?_⟩
    ·refine Y5 (r:=(·<·)) (λx y u v hxy hu hv=>?_) ho.ali
     unfold Jf at hu hv
     split at hu
     ·cases hu
      split at hv
      ·cases hv
       exact .inr ⟨rfl,hxy⟩
      ·cases hv
     ·cases hu
    ·obtain ⟨j,hj,he2⟩:=List.mem_flatMap.1 he'
     have e1:=from_i i e he
     have e2:=from_i j e' he2
     have:=p1 j hj
     left;omega
  exact key _ (List.pairwise_lt_range' (s:=0) (n:=(found a).length))
set_option maxHeartbeats 1000000 in
theorem QcA {L:LN}{w:World}{va vm ve:Value}{a:QT}(h:Zr L w.heap va vm ve a) (ho:Zm a) :
  QL prog 253 [.agg #[va,.int .i64 a.st,vm,ve]] w λr w'=>Step [] w w'∧Qt 3 w.heap.size w' r (found a):=by
 have h0:=ho.st0
 have h1:=ho.st1
 have hal:=ho.al_le
 refine QL.of_W func253 rfl ntmps253 results253 (by simp) ?_
 refine Qc<|xl rfl<|QR (us:=[va,.int .i64 a.st,vm,ve]) rfl λb1 w1 hs1 hb1 hB1=>Qe<|Qc<|Qe ?_
 have hz1:=hs1.size
 have hl1:=hB1.lt
 refine QV (α:=Value) [(3,3),(7,12)] (λz=>[(3,z)]) (λz w'=>Step [] w1 w'∧Qt 3 w1.heap.size w' z (fd0 a)) (by rfl) ?_ ?_
 ·refine Qc<|x (Qa rfl)<|x (Qd hB1 rfl rfl)<|x (ZF rfl rfl)<|xe ?_
  refine QH rfl (λh9=>?_) (λh9=>?_)
  ·refine Qi ?_
   exact ⟨nS,⟨rfl,trivial⟩,Step.refl _ _,by unfold fd0;rw[if_neg h9];exact QO _ _ _ _⟩
  refine Qw<|Qb<|xl rfl<|QD (us:=[[.int .i64 0]]) rfl rfl (by decide) (by simp) ⟨rfl,rfl,trivial⟩ λb11 w2 hs2 hb11 hB11=>?_
  have hn:w2.ownsRow w1.heap.size 3 1 (nS) 0 []:=QO _ _ _ _
  have hz2:=hs2.size
  refine xl rfl<|QY (news:=[.int .i64 0]) (L:=[]) hn rfl rfl rfl (hB11.at (by simp)) (by simp[Value.oneCell']) (by omega) (by omega) λv3 w3 ho3 hs3 hn3 =>
   Qe<|⟨v3,⟨rfl,trivial⟩,hs2.then hs3 (λb hb=>by simp[ob] at hb),?_⟩
  unfold fd0
  rw[if_pos h9];exact ho3
 rintro v0 g4 w4 ⟨hs4,ho4⟩
 have hW4:=hs1.trans hs4
 have hz4:=hs4.size
 refine Q8 (found a) λT hT=>?_
 have hT':qN a a.st.toNat 0 (fd0 a)=T:=hT
 refine Qf<|Qc<|Qe<|Qg<|QC (α:=Nat×LI×Value) [(3,6),(13,48)] (λz=>[(3,z.2.2),(4,.int .i64 z.1)])
  (λz w'=>Step [] w1 w'∧Qt 3 w1.heap.size w' z.2.2 z.2.1∧VS a z.2.1∧z.1≤z.2.1.length∧qN a (a.st.toNat - z.1) z.1 z.2.1=T) (λz=>a.st.toNat - z.1) (by rfl) (0,fd0 a,v0) ⟨rfl,rfl,trivial⟩
  ⟨hs4,ho4,Qe1 a,Nat.zero_le _,hT'⟩ ?_
 rintro ⟨i,out,v⟩ g5 w5 ⟨hs5,ho5,hfd,hi,hr5⟩
 simp only[] at ho5 hfd hi hr5
 have hlen:=hfd.len h0
 have hI5:=Qt.ints (L:=[]) ho5 (by omega) (by simp)
 refine Qf<|Qc<|Qb<|Qb<|x (Qs hI5 rfl)<|x (QB rfl rfl)<|xe ?_
 refine QH rfl (λh16=>?_) (λh16=>?_)
 ·have e:out=T:=by
   rw[←hr5]
   generalize a.st.toNat - i=f
   cases f with
   | zero=>rfl
   | succ f=>rw[qN,if_neg (by omega)]
  refine Qz ?_
  refine Qc<|Qb<|Qe ?_
  rw[e] at ho5
  exact Qm ⟨[v],⟨rfl,trivial⟩,hs1.trans hs5,by rw[hT];exact Zi ho5 hz1⟩
 have hlt:i<out.length:=by omega
 have hfu:a.st.toNat - i=(a.st.toNat - (i+1))+1:=by omega
 rw[hfu,qN,if_pos hlt] at hr5
 refine Q8 (cget out i) λs hse=>?_
 rw[hse] at hr5
 refine Q8 (fdR a out s) λR hR=>?_
 rw[hR] at hr5
 unfold fdR at hR
 refine Qi<|Qf<|Qg<|Qc<|Qe<|Qg<|QC (α:=Nat×LI×Value) [(3,3),(5,6),(19,48)] (λz=>[(3,z.2.2),(5,.int .i64 z.1)])
  (λz w'=>Step [] w1 w'∧Qt 3 w1.heap.size w' z.2.2 z.2.1∧VS a z.2.1∧z.1≤a.al.length∧i<z.2.1.length∧cget z.2.1 i=s∧(a.al.drop z.1).foldl (Kt a s) z.2.1=R) (λz=>a.al.length - z.1) (by rfl) (0,out,v) ⟨rfl,rfl,trivial⟩
  ⟨hs5,ho5,hfd,Nat.zero_le _,hlt,hse,hR⟩ ?_
 clear hs5 ho5 hfd hi hlen hI5 hlt hse hR h16
 rintro ⟨k,out,v⟩ g6 w6 ⟨hs6,ho6,hfd,hk,hlt,hse,hr6⟩
 simp only[] at ho6 hfd hk hlt hse hr6
 have hlen:=hfd.len h0
 have hal6:=(h.al.ext hs1).ext hs6
 have hB16:=hB1.ext hs6
 have hI6:=Qt.ints (L:=[]) ho6 (by omega) (by simp)
 refine Qf<|Qc<|Qb<|x (Qa rfl)<|x (Qd hB16 rfl rfl)<|x (Qs hal6 rfl)<|x (QB rfl rfl)<|xe ?_
 refine QH rfl (λh23=>?_) (λh23=>?_)
 ·refine Qz ?_
  refine Qw<|Qb<|x (Qx rfl rfl ⟨by omega,by omega⟩)<|Qe ?_
  rw[List.drop_of_length_le (by omega)] at hr6
  have hr6':out=R:=hr6
  exact ⟨(i+1,out,v),by simp only[];omega,⟨rfl,rfl,trivial⟩,hs6,ho6,hfd,hlt,by simp only[];rw[hr6'];exact hr5⟩
 have hltk:k<a.al.length:=by omega
 rw[List.drop_eq_getElem_cons hltk,List.foldl_cons,Zg hltk] at hr6
 refine Q8 (cget a.al k) λu hu=>?_
 rw[hu] at hr6
 have hed6:=(h.ed.ext hs1).ext hs6
 refine Q8 (nxt a.ed s u) λt ht=>?_
 have hfe:Kt a s out u=if 0≤t∧t∉out then out++[t] else out:=by unfold Kt;rw[ht]
 have hok':=Qe0 ho hfd s u
 rw[hfe] at hr6 hok'
 refine Qi<|Qf<|Qg<|Qf<|QU (Step [] w6) [(0,true),(1,true),(2,true),(3,true),(4,true),(5,true),(6,true),(7,true),(8,true),(9,true),(10,false),(11,true)] mixed (by rfl) (by kernel_rfl) (Step.drew _ _) ?_
 refine pq (λ_ hc=>Qr (hB16.ext hc) rfl rfl)<|p (λ_=>Qn)<|p (λ_=>Qn)<|pic (i:=i) rfl hI6 rfl rfl hlt λa29 h29=>?_
 rw[hse] at h29
 refine pq (λ_ hc=>Qv (h29.ext hc) rfl)<|p (λ_=>Qa rfl)<|pq (λ_ hc=>Qd (hB16.ext hc) rfl rfl)<|p (λ_=>Qn) <|
  pic (i:=k) rfl hal6 rfl rfl hltk λa34 h34=>?_
 rw[hu] at h34
 have hsr:=ym (va:=va) (vm:=vm) (a:=a) (hed6.ext (Step.drew [] w6)) s u a.st
 rw[ht] at hsr
 refine pq (λ_ hc=>Qv (h34.ext hc) rfl)<|pk<|xf<|hsr.mono ?_
 rintro r7 w7 ⟨rfl,hs7⟩
 have hs67:=(Step.drew [] w6).trans hs7
 refine ⟨hs67,p (λ_=>Qh)<|pe ?_⟩
 have ho7:=Qq ho6 hs67
 have hI7:=hI6.ext hs67
 refine QV (α:=Unit) [(37,44)] (λz=>[(44,.bool (decide (0≤t∧t∉out)))]) (λz w'=>w'=w7) (by rfl) ?_ ?_
 ·refine Qw<|Qb<|xb (ZN rfl rfl) (λh38=>?_) (λh38=>?_)
  ·refine Qb<|Qb<|Qb<|xl rfl<|xf<|(Qbu hI7 t).mono ?_
   rintro r8 w8 ⟨rfl,rfl⟩
   refine x (Zp rfl)<|x (Ql rfl)<|xe ?_
   refine ⟨(),⟨congrArg Value.bool ?_,trivial⟩,rfl⟩
   show (!decide (t∈out))=_
   rw[Bool.eq_iff_iff];simp[h38]
  refine Qb<|xs rfl<|xs rfl<|xs rfl<|xs rfl<|x (Ql rfl)<|xe ?_
  exact ⟨(),⟨congrArg Value.bool (decide_eq_false (λe=>h38 e.1)).symm,trivial⟩,rfl⟩
 rintro _ g9 w9 rfl
 refine QH rfl (λh44=>?_) (λh44=>?_)
 ·rw[if_neg h44] at hr6
  refine Qi<|Qw<|Qb<|x (Qx rfl rfl ⟨by omega,by omega⟩)<|Qe ?_
  exact ⟨(k+1,out,v),by simp only[];omega,⟨rfl,rfl,trivial⟩,hs6.trans hs67,ho7,hfd,hltk,hlt,hse,hr6⟩
 rw[if_pos h44] at hr6 hok'
 have hs17:=hs6.trans hs67
 have hz7:=hs17.size
 refine Qw<|Qb<|Qb<|xl rfl<|QD (us:=[[.int .i64 t]]) rfl rfl (by decide) (by simp) ⟨rfl,rfl,trivial⟩ λb47 w10 hs10 hb47 hB47=>?_
 have ho10:=Qq ho7 hs10
 have hz10:=hs10.size
 refine xl rfl<|QY (news:=[.int .i64 t]) (L:=[]) ho10 rfl rfl rfl (hB47.at (by simp)) (by simp[Value.oneCell']) (by omega) (by omega) λv11 w11 ho11 hs11 hn11 =>
  Qe ?_
 have hge:=Qk ho6
 refine Qw<|Qb<|x (Qx rfl rfl ⟨by omega,by omega⟩)<|Qe<|⟨(k+1,out++[t],v11),by simp only[];omega,⟨rfl,rfl,trivial⟩,(hs17.trans hs10).then hs11 (λb hb=>.inr (hge b hb).1),Qt.snoc ho11,hok',hltk,by simp;omega,?_,hr6⟩
 simp only[]
 rw[jp hlt];exact hse
structure CrI (w7:World) (b4:Nat) (vcl:Value) (n:Int) (vm vd:Value) (M:LI) (E:List Ed) (w:World):Prop where
 st:Step [b4] w7 w
 B:Q0 w.heap b4 58 [vcl,.int .i64 n,vm,vd]
 m:Qt 3 w7.heap.size w vm M
 e:Z0 144 w7.heap.size w vd E
 dj:Dj vm vd
section
variable {w7 w w' w'':World} {b4:Nat} {vcl:Value} {n:Int} {vm vd:Value} {M:LI} {E:List Ed}
theorem CrI.ext (h:CrI w7 b4 vcl n vm vd M E w) (hs:Step [] w w'):CrI w7 b4 vcl n vm vd M E w':=⟨h.st.trans hs,h.B.ext hs,Qq h.m hs,Qq h.e hs,h.dj⟩
theorem CrI.setM (h:CrI w7 b4 vcl n vm vd M E w) (hb:b4<w7.heap.size) {vm':Value}{M':LI}(hs:Step (ob vm) w w') (hm:Qt 3 w7.heap.size w' vm' M') (hn:∀b∈ob vm',b∈ob vm∨w.heap.size≤b) (hs2:Step [b4] w' w'')
  (hB:Q0 w''.heap b4 58 [vcl,.int .i64 n,vm',vd]):CrI w7 b4 vcl n vm' vd M' E w'' :=
 ⟨(h.st.then hs (λb hb=>.inr (Qk h.m b hb).1)).trans' hs2,hB,Qj hm hs2 (λb hb'=>by have:=(Qk hm b hb').1;simp;omega),
  Qj (Qj h.e hs h.dj.symm) hs2 (λb hb'=>by have:=(Qk h.e b hb').1;simp;omega),(h.dj.symm.grow hn (QQ h.e)).symm⟩
theorem CrI.setE (h:CrI w7 b4 vcl n vm vd M E w) (hb:b4<w7.heap.size) {vd':Value}{E':List Ed}(hs:Step (ob vd) w w') (hm:Z0 144 w7.heap.size w' vd' E') (hn:∀b∈ob vd',b∈ob vd∨w.heap.size≤b) (hs2:Step [b4] w' w'')
  (hB:Q0 w''.heap b4 58 [vcl,.int .i64 n,vm,vd']):CrI w7 b4 vcl n vm vd' M E' w'' :=
 ⟨(h.st.then hs (λb hb=>.inr (Qk h.e b hb).1)).trans' hs2,hB,Qj (Qj h.m hs h.dj) hs2 (λb hb'=>by have:=(Qk h.m b hb').1;simp;omega),
  Qj hm hs2 (λb hb'=>by have:=(Qk hm b hb').1;simp;omega),h.dj.grow hn (QQ h.m)⟩
end
theorem qS (a:QT) (fd:LI) (k:Nat):Ym a fd (k+1)=if cget fd k∈a.mr then Ym a fd k++[(k:Int)] else Ym a fd k:=by
 unfold Ym
 rw[List.range'_1_concat,List.filter_append,List.map_append,Nat.zero_add]
 by_cases h:cget fd k∈a.mr
 ·rw[if_pos h,List.filter_cons,if_pos (decide_eq_true h)];rfl
 ·rw[if_neg h,List.filter_cons,if_neg (by rw[decide_eq_false h];simp),List.filter_nil,List.map_nil,List.append_nil]
theorem js (a:QT) (fd:LI):∀k,(Ym a fd k).length≤k
 | 0=>by simp[Ym]
 | k+1=>by
  have:=js a fd k
  rw[qS]
  split
  ·simp;omega
  ·omega
theorem QcM (a:QT) (fd:LI) (k:Nat):Yz a fd (k+1)=Yz a fd k++a.al.filterMap (Jf a fd k):=by
 unfold Yz
 rw[List.range'_1_concat,List.flatMap_append,Nat.zero_add];simp
set_option maxHeartbeats 2000000 in
theorem U9 {L:LN}{w:World}{va vm ve:Value}{a:QT}(h:Zr L w.heap va vm ve a) (ho:Zm a) :
  QL prog 201 [.agg #[va,.int .i64 a.st,vm,ve]] w λr w'=>Step [] w w'∧Xo w.heap.size w'.heap r (Yq a):=by
 have h0:=ho.st0
 have h1:=ho.st1
 have hal:=ho.al_le
 have hfo:=(KU ho).1
 have hfl:=hfo.len h0
 refine QL.of_W func201 rfl ntmps201 results201 (by simp) ?_
 refine Q8 (found a) λfd hfd=>?_
 rw[hfd] at hfl
 have hcan:Yq a=⟨a.al,fd.length,Ym a fd fd.length,Yz a fd fd.length⟩:=by unfold Yq;rw[hfd]
 refine Qc<|xl rfl<|QR (us:=[va,.int .i64 a.st,vm,ve]) rfl λb1 w1 hs1 hb1 hB1=>xl rfl<|Qu (us:=[nS,.int .i64 0,nS,nS]) rfl λb2 w2 hs2 hb2 hB2=>xe ?_
 have hs12:=hs1.trans hs2
 have hfr:=QcA (h.ext hs12) ho
 rw[hfd] at hfr
 refine Qc<|x (Qr (hB1.ext hs2) rfl rfl)<|xl rfl<|xf<|hfr.mono ?_
 rintro vf w3 ⟨hs3,hof⟩
 refine Qe ?_
 have hs13:=hs12.trans hs3
 have hB13:=(hB1.ext hs2).ext hs3
 refine Qc<|x (Qa rfl)<|x (Qd hB13 rfl rfl)<|xl rfl<|xf<|(Vq (h.al.ext hs13) (by omega)).mono ?_
 rintro r4 w4 ⟨hs4,vcl,rfl,hcl⟩
 have hclA:=Qt.ints (L:=[]) hcl (by omega) (by simp)
 refine xl rfl<|Qu (us:=[nS,.int .i64 0,nS,nS]) rfl λb4 w5 hs5 hb4 hB4 =>
  xl rfl<|Qo (us:=[vcl,.int .i64 0,nS,nS]) hB4 rfl rfl rfl rfl ⟨hclA.one,rfl,rfl,rfl,trivial⟩ λw6 hs6 hB6=>xe ?_
 have hs46:Step [] w4 w6:=hs5.then1 hs6 hb4
 have hs36:=hs4.trans hs46
 have hfA3:=Qt.ints (L:=[]) hof (by omega) (by simp)
 have hz1:=hs1.size
 have hz2:=hs2.size
 have hz3:=hs3.size
 have hz4:=hs4.size
 have hz46:=hs46.size
 have hl1:=hB1.lt
 have hl2:=hB2.lt
 have hl4:=hB6.lt
 refine Qc<|Qb<|x (Qs hfA3 rfl)<|x (Qa rfl)<|xl rfl<|QG (u:=.int .i64 fd.length) hB6 rfl rfl (by simp) rfl λw7 hs7 hB7=>xe ?_
 have hz7:=hs7.size
 have hs37:Step [b4] w3 w7:=(hs36.any (L:=[b4])).trans' hs7
 have hW7:Step [] w w7:=(hs13.trans hs36).then1 hs7 (by omega)
 have hf7:QM [b4] w7.heap vf fd:=((hfA3.up (L':=[b4]) (λb hb=>.inr (by simp at hb;omega))).ext hs36).st hs7
 have ha7:Zr [b4] w7.heap va vm ve a:=(h.up (λb hb=>.inr (by simp at hb;omega))).ext hW7
 have hc7:Qt 3 w3.heap.size w7 vcl a.al:=Qj (Qq hcl hs46) hs7 (λb hb=>by have:=QQ hcl b hb;simp;omega)
 have hB17:=(hB13.ext hs36).step hs7 (by simp;omega)
 have hB27:=((hB2.ext hs3).ext hs36).step hs7 (by simp;omega)
 have hl7:b4<w7.heap.size:=by omega
 have n1:b1∉[b4]:=by simp;omega
 have n2:b2∉[b4]:=by simp;omega
 refine Qf<|Qc<|Qe<|Qg<|QC (α:=Nat×Value×Value) [(5,7),(16,69)] (λz=>[(5,.int .i64 z.1)])
  (λz w'=>z.1≤fd.length∧CrI w7 b4 vcl fd.length z.2.1 z.2.2 (Ym a fd z.1) (Yz a fd z.1) w'∧(Yz a fd z.1).length≤z.1*32) (λz=>fd.length - z.1) (by rfl) (0,nS,nS) ⟨rfl,trivial⟩
  ⟨Nat.zero_le _,⟨Step.refl _ _,hB7,QO _ _ _ _,QO _ _ _ _,Dj.nil' _⟩,Nat.zero_le _⟩ ?_
 rintro ⟨i,v1,v2⟩ g8 w8 ⟨hi,hI,hel⟩
 simp only[] at hi hI hel
 have hml:=js a fd i
 have hf8:=hf7.st hI.st
 refine Qf<|Qc<|Qb<|Qb<|x (Qs hf8 rfl)<|x (QB rfl rfl)<|xe ?_
 refine QH rfl (λh19=>?_) (λh19=>?_)
 ·have hie:i=fd.length:=by omega
  rw[hie] at hI hel hml
  refine Qz ?_
  have hmA:=Qt.ints (L:=[]) hI.m (by omega) (by simp)
  have heA:=Z0.eds (L:=[]) hI.e (by omega) (by simp)
  refine Qc<|x (Qr hI.B rfl rfl)<|xl rfl<|Qo (us:=[vcl,.int .i64 fd.length,v1,v2]) (hB27.step hI.st n2) rfl rfl rfl rfl ⟨hclA.one,rfl,hmA.one,heA.one,trivial⟩ λw9 hs9 hB9=>xe ?_
  refine Qm ⟨[.agg #[vcl,.int .i64 fd.length,v1,v2]],⟨⟨_,rfl,QA rfl (hB9.at (L:=[]) (by simp)).cells⟩,trivial⟩,(hW7.then1 hI.st (by omega)).then1 hs9 (by omega),?_⟩
  rw[hcan]
  have k1:=Qj (Qj hc7 hI.st (λb hb=>by have:=QQ hcl b hb;simp;omega)) hs9 (λb hb=>by have:=(Qk hcl b hb).1;simp;omega)
  have k2:=Qj hI.m hs9 (λb hb=>by have:=(Qk hI.m b hb).1;simp;omega)
  have k3:=Qj hI.e hs9 (λb hb=>by have:=(Qk hI.e b hb).1;simp;omega)
  refine ⟨vcl,v1,v2,rfl,λL' hL'=>⟨?_,?_,?_⟩⟩
  ·exact Qt.ints k1 (by show a.al.length≤_;omega) (λb hb=>by have:=hL' b hb;omega)
  ·exact Qt.ints k2 (by show (Ym a fd fd.length).length≤_;omega) (λb hb=>by have:=hL' b hb;omega)
  ·exact Z0.eds k3 (by show (Yz a fd fd.length).length≤_;omega) (λb hb=>by have:=hL' b hb;omega)
 have hlt:i<fd.length:=by omega
 refine Q8 (cget fd i) λs hse=>?_
 have hms:=qS a fd i
 rw[hse] at hms
 refine Qi<|Qf<|Qg<|QV (α:=Value) [(22,34)] (λz=>[]) (λz w'=>CrI w7 b4 vcl fd.length z v2 (Ym a fd (i+1)) (Yz a fd i) w') (by rfl) ?_ ?_
 ·have ha8:=ha7.st hI.st
  have hB18:=hB17.step hI.st n1
  refine Qf<|QU (Step [] w8) [(0,true),(1,true),(2,true),(3,true),(4,true),(5,true),(6,false)] mixed (by rfl) (by kernel_rfl) (Step.drew _ _) ?_
  refine p (λ_=>Qa rfl)<|pq (λ_ hc=>Qd (hB18.ext hc) rfl rfl)<|p (λ_=>Qn)<|p (λ_=>Qn)<|pic (i:=i) rfl hf8 rfl rfl hlt λa26 h26=>?_
  rw[hse] at h26
  refine pq (λ_ hc=>Qv (h26.ext hc) rfl)<|pk<|xf<|(Qbu (ha8.mr.ext (Step.drew [] w8)) s).mono ?_
  rintro r10 w10 ⟨rfl,rfl⟩
  have hI10:=hI.ext (Step.drew [] w8)
  refine ⟨Step.drew _ _,pe ?_⟩
  refine QH rfl (λh28=>?_) (λh28=>?_)
  ·rw[if_neg h28] at hms
   refine Qi ?_
   exact ⟨v1,trivial,by rw[hms];exact hI10⟩
  rw[if_pos h28] at hms
  refine Qw<|x (Qa rfl)<|x (Qd hI10.B rfl rfl)<|Qb<|xl rfl<|QD (us:=[[.int .i64 i]]) rfl rfl (by decide) (by simp) ⟨rfl,rfl,trivial⟩ λb32 w11 hs11 hb32 hB32=>?_
  have hI11:=hI10.ext hs11
  refine xl rfl<|QY (news:=[.int .i64 i]) (L:=[]) hI11.m rfl rfl rfl (hB32.at (by simp)) (by simp[Value.oneCell']) (by omega) hI11.st.size λv12 w12 ho12 hs12 hn12=>?_
  have ho12':Qt 3 w7.heap.size w12 v12 (Ym a fd i++[(i:Int)]):=Qt.snoc ho12
  refine x (Qa rfl)<|xl rfl<|QG (hI11.B.step hs12 (QN hI11.m hl7)) rfl rfl (by simp) (Qt.ints (L:=[]) ho12' (by simp;omega) (by simp)).one λw13 hs13' hB13' =>
   xe ?_
  exact ⟨v12,trivial,by rw[hms];exact hI11.setM hl7 hs12 ho12' hn12 hs13' hB13'⟩
 rintro v3 g14 w14 hI14
 refine Q8 (Yz a fd (i+1)) λE1 hE1=>?_
 have hE1':=QcM a fd i
 rw[hE1] at hE1'
 refine Qc<|Qe<|Qg<|QC (α:=Nat×List Ed×Value) [(6,7),(35,69)] (λz=>[(6,.int .i64 z.1)])
  (λz w'=>z.1≤a.al.length∧CrI w7 b4 vcl fd.length v3 z.2.2 (Ym a fd (i+1)) z.2.1 w'∧z.2.1.length≤i*32+z.1∧z.2.1++(a.al.drop z.1).filterMap (Jf a fd i)=E1) (λz=>a.al.length - z.1) (by rfl) (0,Yz a fd i,v2) ⟨rfl,trivial⟩
  ⟨Nat.zero_le _,hI14,hel,hE1'.symm⟩ ?_
 rintro ⟨k,E,vd⟩ g15 w15 ⟨hk,hI15,hl15,hr15⟩
 simp only[] at hk hI15 hl15 hr15
 have ha15:=ha7.st hI15.st
 have hB115:=hB17.step hI15.st n1
 have hf15:=hf7.st hI15.st
 refine Qf<|Qc<|Qb<|x (Qa rfl)<|x (Qd hB115 rfl rfl)<|x (Qs ha15.al rfl)<|x (QB rfl rfl)<|xe ?_
 refine QH rfl (λh39=>?_) (λh39=>?_)
 ·refine Qz ?_
  refine Qw<|Qb<|x (Qx rfl rfl ⟨by omega,by omega⟩)<|Qe ?_
  rw[List.drop_of_length_le (by omega),List.filterMap_nil,List.append_nil] at hr15
  refine ⟨(i+1,v3,vd),by simp only[];omega,⟨rfl,trivial⟩,hlt,?_,?_⟩
  ·simp only[];rw[hE1,←hr15];exact hI15
  ·simp only[];rw[hE1,←hr15];omega
 have hltk:k<a.al.length:=by omega
 refine Q8 (cget a.al k) λu hu=>?_
 rw[List.drop_eq_getElem_cons hltk,Zg hltk,hu,List.filterMap_cons] at hr15
 refine Q8 (nxt a.ed s u) λt ht=>?_
 have hcf:Jf a fd i u=if 0≤t then some ((i:Int),u,Uw fd t) else none:=by unfold Jf;rw[hse,ht]
 rw[hcf] at hr15
 have hsr:=ym (va:=va) (vm:=vm) (a:=a) (ha15.ed.ext (Step.drew [] w15)) s u a.st
 rw[ht] at hsr
 refine Qi<|Qf<|Qg<|Qf<|QU (Step [] w15) [(0,true),(1,true),(2,true),(3,true),(4,true),(5,true),(6,true),(7,true),(8,true),(9,true),(10,false),(11,true)] mixed (by rfl) (by kernel_rfl) (Step.drew _ _) ?_
 refine pq (λ_ hc=>Qr (hB115.ext hc) rfl rfl)<|p (λ_=>Qn)<|p (λ_=>Qn)<|pic (i:=i) rfl hf15 rfl rfl hlt λa45 h45=>?_
 rw[hse] at h45
 refine pq (λ_ hc=>Qv (h45.ext hc) rfl)<|p (λ_=>Qa rfl)<|pq (λ_ hc=>Qd (hB115.ext hc) rfl rfl)<|p (λ_=>Qn) <|
  pic (i:=k) rfl ha15.al rfl rfl hltk λa50 h50=>?_
 rw[hu] at h50
 refine pq (λ_ hc=>Qv (h50.ext hc) rfl)<|pk<|xf<|hsr.mono ?_
 rintro r16 w16 ⟨rfl,hs16⟩
 have hs1516:=(Step.drew [] w15).trans hs16
 refine ⟨hs1516,p (λ_=>Qh)<|pe ?_⟩
 have hI16:=hI15.ext hs1516
 have hB116:=hB115.ext hs1516
 have hf16:=hf15.ext hs1516
 refine Qc<|Qb<|x (ZN rfl rfl)<|xe ?_
 refine QH rfl (λh54=>?_) (λh54=>?_)
 ·rw[if_neg h54] at hr15
  refine Qi<|Qw<|Qb<|x (Qx rfl rfl ⟨by omega,by omega⟩)<|Qe ?_
  exact ⟨(k+1,E,vd),by simp only[];omega,⟨rfl,trivial⟩,hltk,hI16,by simp only[];omega,hr15⟩
 rw[if_pos h54] at hr15
 have hvd:=Qk hI15.e
 have haD:QM (b4::ob vd) w16.heap va a.al:=(((ha7.al.up (L':=b4::ob vd) (λb hb=>by
  rcases List.mem_cons.1 hb with rfl | hb
  ·exact .inl (by simp)
  ·exact .inr (hvd b hb).1)).step hI15.st (by simp)).ext hs1516)
 have nb4:=QN hI16.e hl7
 have nb1:b1∉ob vd:=QN hI16.e (by omega)
 refine QU (Step (ob vd) w16) [(0,true),(1,true),(2,true),(3,true),(4,true),(5,true),(6,true),(7,true),(8,true),(9,true),(10,false),(11,true),(12,false),(13,false),(14,true),(15,false)] mixed (by rfl) (by kernel_rfl) (Step.drew _ _) ?_
 refine p (λ_=>Qa rfl)<|pq (λ_ hc=>Qd (hI16.B.step hc nb4) rfl rfl)<|p (λ_=>Qn)<|p (λ_=>Qa rfl)<|pq (λ_ hc=>Qd (hB116.step hc nb1) rfl rfl) <|
  p (λ_=>Qn)<|pic (i:=k) rfl haD rfl rfl hltk λa61 h61=>?_
 rw[hu] at h61
 refine pq (λ_ hc=>Qv (h61.step hc (λb hb=>List.mem_cons_of_mem _ hb)) rfl)<|p (λ_=>Qn)<|p (λ_=>Qn) <|
  pk<|xf<|(Qcy (hf16.ext (Step.drew [] w16)) t).mono ?_
 rintro r17 w17 ⟨rfl,rfl⟩
 refine ⟨Step.drew _ _,p (λ_=>QE ⟨rfl,rfl,rfl,trivial⟩)<|pk<|QD (us:=[Qy ((i:Int),u,Uw fd t)]) rfl rfl (by decide) (by exact (by decide:1*3≤1000000)) ⟨rfl,rfl,trivial⟩ λb67 w18 hs18 hb67 hB67=>?_⟩
 have hs1618:=(Step.drew [] w16).trans hs18
 have hI18:=hI16.ext hs1618
 refine ⟨hs1618.any,?_⟩
 refine pk<|QY (news:=Qy ((i:Int),u,Uw fd t)) (L:=[]) hI18.e rfl rfl rfl (hB67.at (by simp)) (λy hy=>by simp only[Qy,List.mem_cons,List.not_mem_nil,or_false] at hy;rcases hy with rfl | rfl | rfl <;> rfl) (by omega) hI18.st.size λv19 w19 ho19 hs19 hn19=>⟨(hs1618.any (L:=ob vd)).trans' hs19,?_⟩
 have ho19':Z0 144 w7.heap.size w19 v19 (E++[((i:Int),u,Uw fd t)]):=Z0.snoc ho19
 refine p (λ_=>Qa rfl)<|pkl (hl:=by kernel_rfl)<|QG (hI18.B.step hs19 (QN hI18.e hl7)) rfl rfl (by simp) (Z0.eds (L:=[]) ho19' (by simp;omega) (by simp)).one λw20 hs20 hB20 =>
  pe ?_
 have hI20:=hI18.setE hl7 hs19 ho19' hn19 hs20 hB20
 refine Qw<|Qb<|x (Qx rfl rfl ⟨by omega,by omega⟩)<|Qe<|⟨(k+1,E++[((i:Int),u,Uw fd t)],v19),by simp only[];omega,⟨rfl,trivial⟩,hltk,hI20,by simp;omega,?_⟩
 simp only[List.append_assoc,List.singleton_append]
 exact hr15
end Go.Proofs.YtdffckgdcegpaaaGreatDoor
namespace Go.Lg
section
variable {P:Program} {f:Fr} {w:World} {d:Option Nat} {ty:Nat} {ps:String} {af:Array Edge} {gd:Option (Nat×Bool)}
theorem Ug {t t':Nat}{x y:Operand}{k:IntKind}{a b:Int}(hx:ev f x=.int k a) (hy:ev f y=.int k b) (ha:0≤a) (hb:0<b) :
  (execOp (ev f) ⟨d,.binOp .rem t x y t',ty,ps,af,gd⟩).run P w=.ok (.value (.int k (a % b))) w:=by
 refine YQ hx hy ?_
 have h1:¬b=0:=by omega
 simp[binOp,Op.intDiv,h1,Int.tmod_eq_emod_of_nonneg ha]
end
end Go.Lg
namespace Go.Proofs.YtdffckgdcegpaaaGreatDoor
open Go.Proofs.Tryz
open Go.Lg
instance ayMa1:Ay prog 26 5 22 5:=⟨by kernel_rfl,by kernel_rfl⟩
instance ayMa2:Ay prog 22 5 5 1:=⟨by kernel_rfl,by kernel_rfl⟩
abbrev bys (ns:LN):LV:=ns.map λn:Nat=>.int .u8 (n:Int)
theorem Vv {ns:LN}{j:Nat}(h:j<ns.length):(bys ns)[j]?=some (.int .u8 ((ns.getD j 0:Nat):Int)):=by simp[bys,List.getD,h]
theorem ju:∀(ns:LN),ZL (bys ns)
 | []=>trivial
 | _::ns=>⟨rfl,ju ns⟩
theorem Y8 {ns:LN}(h:∀n∈ns,n<256) (j:Nat):ns.getD j 0<256:=by
 by_cases hj:j<ns.length
 ·simp only[List.getD,List.getElem?_eq_getElem hj,Option.getD_some];exact h _ (List.getElem_mem hj)
 ·simp[List.getD,hj]
structure GrI (al:LI) (S i k:Nat) (M:LI) (E:List Ed):Prop where
 mb:∀x∈M,0≤x∧x<S
 mi:Yf M
 ml:∀x∈M,x<(i:Int)+1
 mn:M.length≤S
 eb:∀e∈E,0≤e.1∧e.1<S∧e.2.1∈al∧0≤e.2.2∧e.2.2<S
 ei:E.Pairwise λx y=>x.1<y.1∨(x.1=y.1∧x.2.1<y.2.1)
 el:∀e∈E,e.1<i∨(e.1=i∧e.2.1∈al.take k)
 en:E.length≤i*5+k
theorem Qg5 {S:Nat}{M:LI}(hb:∀x∈M,0≤x∧x<S) (hi:Yf M):M.length≤S:=pig S M (hi.imp (λh=>by omega)) hb
theorem GrI.mark {al:LI}{S i:Nat}{M:LI}{E:List Ed}(h:GrI al S i 0 M E) (hm:∀x∈M,x<(i:Int)) (hi:i<S):GrI al S i 0 (M++[(i:Int)]) E:=by
 have hmb:∀x∈M++[(i:Int)],0≤x∧x<S:=λx hx=>by
  rcases List.mem_append.1 hx with hx | hx
  ·exact h.mb x hx
  ·simp only[List.mem_singleton] at hx;omega
 have hmi:Yf (M++[(i:Int)]):=by
  refine List.pairwise_append.2 ⟨h.mi,by simp,λx hx y hy=>?_⟩
  simp only[List.mem_singleton] at hy
  subst hy;exact hm x hx
 refine ⟨hmb,hmi,λx hx=>?_,Qg5 hmb hmi,h.eb,h.ei,h.el,h.en⟩
 rcases List.mem_append.1 hx with hx | hx
 ·have:=hm x hx;omega
 ·simp only[List.mem_singleton] at hx;omega
theorem GrI.skip {al:LI}{S i k:Nat}{M:LI}{E:List Ed}(h:GrI al S i k M E) (hk:k<al.length):GrI al S i (k+1) M E :=
 ⟨h.mb,h.mi,h.ml,h.mn,h.eb,h.ei,λe he=>(h.el e he).imp id (λx=>⟨x.1,by rw[List.take_succ_eq_append_getElem hk];exact List.mem_append_left _ x.2⟩),by have:=h.en;omega⟩
theorem GrI.edge {al:LI}{S i k:Nat}{M:LI}{E:List Ed}(h:GrI al S i k M E) (hk:k<al.length) (ha:Yf al) (hi:i<S) {t:Int}(h0:0≤t) (ht:t<S):GrI al S i (k+1) M (E++[((i:Int),cget al k,t)]):=by
 have hmem:cget al k∈al:=X3 hk
 refine ⟨h.mb,h.mi,h.ml,h.mn,λe he=>?_,?_,λe he=>?_,by have:=h.en;simp;omega⟩
 ·rcases List.mem_append.1 he with he | he
  ·exact h.eb e he
  ·simp only[List.mem_singleton] at he;subst he;exact ⟨by simp only[];omega,by simp only[];omega,hmem,h0,ht⟩
 ·refine List.pairwise_append.2 ⟨h.ei,by simp,λx hx y hy=>?_⟩
  simp only[List.mem_singleton] at hy
  subst hy
  rcases h.el x hx with h1 | ⟨h1,h2⟩
  ·left;exact h1
  ·right
   refine ⟨h1,?_⟩
   simp only[]
   have hp:Yf (al.take k++al.drop k):=by rw[List.take_append_drop];exact ha
   refine (List.pairwise_append.1 hp).2.2 _ h2 _ ?_
   rw[List.drop_eq_getElem_cons hk,Zg hk];exact List.mem_cons_self
 ·rw[List.take_succ_eq_append_getElem hk,Zg hk]
  rcases List.mem_append.1 he with he | he
  ·exact (h.el e he).imp id (λx=>⟨x.1,List.mem_append_left _ x.2⟩)
  ·simp only[List.mem_singleton] at he;subst he;exact .inr ⟨rfl,List.mem_append_right _ (by simp)⟩
theorem GrI.next {al:LI}{S i k:Nat}{M:LI}{E:List Ed}(h:GrI al S i k M E) (hk:k≤5):GrI al S (i+1) 0 M E :=
 ⟨h.mb,h.mi,λx hx=>by have:=h.ml x hx;omega,h.mn,h.eb,h.ei,λe he=>by rcases h.el e he with h1 | h1 <;> (left;omega),by have:=h.en;omega⟩
set_option maxHeartbeats 2000000 in
theorem Qcq {L:LN}{w:World}{v:Value}{al:LI}{ns:LN}(h:QM L w.heap v al) (hb:∀e∈al,0≤e∧e<32) (hi:Yf al) (hn:ns.length=27) (hns:∀n∈ns,n<256) :
  QL prog 130 [v,.agg (bys ns).toArray] w λr w'=>Step [] w w'∧∃a:QT,Xo w.heap.size w'.heap r a∧Zm a∧a.st≤5∧a.al=al ∧
   (ns.getD 0 0<250→∃a0:QT,Zm a0∧0<a0.st∧a0.st≤((1+ns.getD 0 0 % 5:Nat):Int)∧a=Yq a0):=by
 have hall:al.length≤32:=pig 32 al (hi.imp (λh=>by omega)) (λx hx=>by have:=hb x hx;omega)
 refine QL.of_W func130 rfl ntmps130 results130 (by simp) ?_
 have g0:=Vv (ns:=ns) (j:=0) (by omega)
 have g1:=Vv (ns:=ns) (j:=1) (by omega)
 have l0:=Y8 hns 0
 have l1:=Y8 hns 1
 refine Q8 (ns.getD 0 0) λs0 hs0=>?_
 refine Q8 (ns.getD 1 0) λm1 hm1=>?_
 rw[hs0] at g0 l0
 rw[hm1] at g1 l1
 refine Qc<|xl rfl<|QR (us:=bys ns) rfl λb3 w1 hs1 hb3 hB3=>xl rfl<|Qu (us:=[nS,.int .i64 0,nS,nS]) rfl λb4 w2 hs2 hb4 hB4=>xe ?_
 have hs12:=hs1.trans hs2
 have hB32:=hB3.ext hs2
 have hz1:=hs1.size
 have hz2:=hs2.size
 have hl3:=hB3.lt
 have hl4:=hB4.lt
 refine Qf<|Qc<|x (Qa rfl)<|x (Qd hB32 rfl g0)<|x (ZN rfl rfl)<|xe ?_
 refine Q6 rfl (λh11=>?_) (λh11=>?_)
 ·refine Qc<|Qb<|xl rfl<|xf<|(Vq (h.ext hs12) (by omega)).mono ?_
  rintro r3 w3 ⟨hs3,vcl,rfl,hcl⟩
  have hclA:=Qt.ints (L:=[]) hcl (by omega) (by simp)
  refine xl rfl<|Qo (us:=[vcl,.int .i64 0,nS,nS]) (hB4.ext hs3) rfl rfl rfl rfl ⟨hclA.one,rfl,rfl,rfl,trivial⟩ λw4 hs4 hB4'=>xe ?_
  have hcl4:=Qj hcl hs4 (λb hb=>by have:=(Qk hcl b hb).1;simp;omega)
  refine Qm ⟨[.agg #[vcl,.int .i64 0,nS,nS]],⟨⟨_,rfl,QA rfl (hB4'.at (L:=[]) (by simp)).cells⟩,trivial⟩,(hs12.trans hs3).then1 hs4 (by omega),⟨al,0,[],[]⟩,?_,?_,(by decide:(0:Int)≤5),rfl,λh=>absurd h (by omega)⟩
  ·exact ⟨vcl,_,_,rfl,λL' hL'=>⟨Qt.ints hcl4 (by show al.length≤_;omega) (λb hb=>by have:=hL' b hb;omega),Zo.nil _ _ _,Zo.nil _ _ _⟩⟩
  ·exact ⟨hb,hi,(by decide:(0:Int)≤0),(by decide:(0:Int)≤4096),by simp,by simp,by simp,by simp⟩
 refine Qi<|Qc<|Qb<|xl rfl<|xf<|(Vq (h.ext hs12) (by omega)).mono ?_
 rintro r5 w5 ⟨hs5,vcl,rfl,hcl⟩
 have hclA:=Qt.ints (L:=[]) hcl (by omega) (by simp)
 refine xl rfl<|Qu (us:=[nS,.int .i64 0,nS,nS]) rfl λb5 w6 hs6 hb5 hB5 =>
  xl rfl<|Qo (us:=[vcl,.int .i64 0,nS,nS]) hB5 rfl rfl rfl rfl ⟨hclA.one,rfl,rfl,rfl,trivial⟩ λw7 hs7 hB7=>xe ?_
 have hs57:Step [] w5 w7:=hs6.then1 hs7 hb5
 have hs27:=hs5.trans hs57
 have hz5:=hs5.size
 have hz57:=hs57.size
 have hl5:=hB7.lt
 refine Q8 (1+s0 % 5) λS hS=>?_
 have hS1:1≤S∧S≤5:=by omega
 have hSe:(1:Int)+(s0:Int) % 5=(S:Int):=by omega
 refine Qc<|x (Qa rfl)<|x (Qd (hB32.ext hs27) rfl g0)<|x (Ug (a:=(s0:Int)) (b:=5) rfl rfl (by omega) (by omega))<|x (ZI (k':=.i64) rfl ⟨by omega,by omega⟩)<|x (Qx rfl rfl ⟨by omega,by omega⟩)<|x (Qa rfl) <|
  xl rfl<|QG (u:=.int .i64 S) hB7 rfl (congrArg (Value.int .i64) hSe) (by simp) rfl λw8 hs8 hB8=>xe ?_
 have hz8:=hs8.size
 have hs28:Step [b5] w2 w8:=(hs27.any (L:=[b5])).trans' hs8
 have hW8:Step [] w w8:=(hs12.trans hs27).then1 hs8 (by omega)
 have hal8:QM [b5] w8.heap v al:=(h.up (L':=[b5]) (λb hb=>.inr (by simp at hb;omega))).ext hW8
 have hc8:Qt 3 w2.heap.size w8 vcl al:=Qj (Qq hcl hs57) hs8 (λb hb=>by have:=QQ hcl b hb;simp;omega)
 have hB38:=(hB32.ext hs27).step hs8 (by simp;omega)
 have hB48:=(hB4.ext hs27).step hs8 (by simp;omega)
 have hl8:b5<w8.heap.size:=by omega
 have n3:b3∉[b5]:=by simp;omega
 have n4:b4∉[b5]:=by simp;omega
 refine Qf<|Qc<|Qe<|Qg<|QC (α:=Nat×Value×Value×LI×List Ed) [(6,8),(22,76)] (λz=>[(6,.int .i64 z.1)])
  (λz w'=>z.1≤S∧CrI w8 b5 vcl S z.2.1 z.2.2.1 z.2.2.2.1 z.2.2.2.2 w'∧GrI al S z.1 0 z.2.2.2.1 z.2.2.2.2∧∀x∈z.2.2.2.1,x<(z.1:Int)) (λz=>S - z.1) (by rfl) (0,nS,nS,[],[]) ⟨rfl,trivial⟩
  ⟨Nat.zero_le _,⟨Step.refl _ _,hB8,QO _ _ _ _,QO _ _ _ _,Dj.nil' _⟩,⟨by simp,by simp,by simp,by simp,by simp,by simp,by simp,by simp⟩,by simp⟩ ?_
 rintro ⟨i,v1,v2,M,E⟩ g9 w9 ⟨hi9,hI,hG,hM⟩
 simp only[] at hi9 hI hG hM
 have hmn:=hG.mn
 have hen:=hG.en
 refine Qf<|Qc<|Qb<|x (Qa rfl)<|x (Qd hI.B rfl rfl)<|x (QB rfl rfl)<|xe ?_
 refine QH rfl (λh25=>?_) (λh25=>?_)
 ·have hie:i=S:=by omega
  refine Qz ?_
  have hmA:=Qt.ints (L:=[]) hI.m (by omega) (by simp)
  have heA:=Z0.eds (L:=[]) hI.e (by omega) (by simp)
  have hc9:Qt 3 w2.heap.size w9 vcl al:=Qj hc8 hI.st (λb hb=>by have:=QQ hcl b hb;simp;omega)
  have hA9:Zr [] w9.heap vcl v1 v2 ⟨al,(S:Int),M,E⟩:=⟨Qt.ints hc9 (by show al.length≤_;omega) (by simp),hmA,heA⟩
  have hok:Zm ⟨al,(S:Int),M,E⟩:=⟨hb,hi,by simp only[];omega,by simp only[];omega,hG.mb,hG.mi,hG.eb,hG.ei⟩
  have hcan:=zZ hok
  have hW9:Step [] w w9:=hW8.then1 hI.st (by omega)
  have hB49:=hB48.step hI.st n4
  have hz9:=hI.st.size
  refine Qc<|x (Qr hI.B rfl rfl)<|xl rfl<|xf<|(U9 (a:=⟨al,(S:Int),M,E⟩) hA9 hok).mono ?_
  rintro vr w10 ⟨hs10,hF⟩
  obtain ⟨us,hva,husl,hus⟩:=Xn hF
  refine xl rfl<|Qo (us:=us) (hB49.ext hs10) rfl hva husl rfl hus λw11 hs11 hB11=>xe ?_
  have hzW:=hW9.size
  refine Qm ⟨[.agg us.toArray],⟨⟨_,rfl,QA husl (hB11.at (L:=[]) (by simp)).cells⟩,trivial⟩,(hW9.trans hs10).then1 hs11 (by omega),Yq ⟨al,(S:Int),M,E⟩,?_,hcan.1,?_,hcan.2.1,λ_=>⟨⟨al,(S:Int),M,E⟩,hok,by simp only[];omega,by simp only[];omega,rfl⟩⟩
  ·show Xo _ _ (.agg us.toArray) _
   rw[←hva]
   exact (X6 hF (by omega) hs11).mono hzW
  ·have:=hcan.2.2
   simp only[] at this
   omega
 have hlt:i<S:=by omega
 refine Qi<|Qf<|Qg<|QV (α:=Value×LI) [(28,39)] (λz=>[]) (λz w'=>CrI w8 b5 vcl S z.1 v2 z.2 E w'∧GrI al S i 0 z.2 E) (by rfl) ?_ ?_
 ·have hdv:m1 / 2 ^ i<256:=Nat.lt_of_le_of_lt (Nat.div_le_self _ _) l1
  refine Qc<|x (Qa rfl)<|x (Qd (hB38.step hI.st n3) rfl g1)<|Qb<|x (qz (n:=i) rfl rfl (by show i≤8;omega))<|x (Uj (a:=m1 / 2 ^ i) (b:=1) (congrArg (Value.int .u8) (zg m1 i)) rfl hdv (by decide))<|x (Q5 rfl rfl)<|xe ?_
  refine QH rfl (λh33=>?_) (λh33=>?_)
  ·refine Qi ?_
   exact ⟨(v1,M),trivial,hI,hG⟩
  refine Qw<|x (Qa rfl)<|x (Qd hI.B rfl rfl)<|Qb<|xl rfl<|QD (us:=[[.int .i64 i]]) rfl rfl (by decide) (by simp) ⟨rfl,rfl,trivial⟩ λb37 w12 hs12' hb37 hB37=>?_
  have hI12:=hI.ext hs12'
  refine xl rfl<|QY (news:=[.int .i64 i]) (L:=[]) hI12.m rfl rfl rfl (hB37.at (by simp)) (by simp[Value.oneCell']) (by omega) hI12.st.size λv13 w13 ho13 hs13 hn13=>?_
  have ho13':Qt 3 w8.heap.size w13 v13 (M++[(i:Int)]):=Qt.snoc ho13
  refine x (Qa rfl)<|xl rfl<|QG (hI12.B.step hs13 (QN hI12.m hl8)) rfl rfl (by simp) (Qt.ints (L:=[]) ho13' (by simp;omega) (by simp)).one λw14 hs14 hB14 =>
   xe ?_
  exact ⟨(v13,M++[(i:Int)]),trivial,hI12.setM hl8 hs13 ho13' hn13 hs14 hB14,hG.mark hM hlt⟩
 rintro ⟨v3,M3⟩ g15 w15 ⟨hI15,hG15⟩
 simp only[] at hI15 hG15
 refine Qc<|Qe<|Qg<|QC (α:=Nat×Value×List Ed) [(7,8),(40,76)] (λz=>[(7,.int .i64 z.1)])
  (λz w'=>z.1≤al.length∧z.1≤5∧CrI w8 b5 vcl S v3 z.2.1 M3 z.2.2 w'∧GrI al S i z.1 M3 z.2.2) (λz=>5 - z.1) (by rfl) (0,v2,E) ⟨rfl,trivial⟩
  ⟨Nat.zero_le _,Nat.zero_le _,hI15,hG15⟩ ?_
 rintro ⟨k,vd,F⟩ g16 w16 ⟨hk,hk5,hI16,hG16⟩
 simp only[] at hk hk5 hI16 hG16
 have hal16:=hal8.st hI16.st
 have hfn:=hG16.en
 refine Qf<|QV (α:=Unit) [(40,47)] (λz=>[(47,.bool (decide (k<al.length∧k<5)))]) (λz w'=>w'=w16) (by rfl) ?_ ?_
 ·refine Qw<|Qb<|Qb<|x (Qs hal16 rfl)<|xb (QB rfl rfl) (λh43=>?_) (λh43=>?_)
  ·refine Qb<|Qb<|x (QB rfl rfl)<|x (Ql rfl)<|xe ?_
   refine ⟨(),⟨congrArg Value.bool ?_,trivial⟩,rfl⟩
   exact decide_eq_decide.2 ⟨λe=>⟨by omega,by omega⟩,λe=>by omega⟩
  refine Qb<|xs rfl<|xs rfl<|x (Ql rfl)<|xe ?_
  exact ⟨(),⟨congrArg Value.bool (decide_eq_false (λe=>h43 (by omega))).symm,trivial⟩,rfl⟩
 rintro _ g17 w17 rfl
 refine QH rfl (λh47=>?_) (λh47=>?_)
 ·refine Qz ?_
  refine Qw<|Qb<|x (Qx rfl rfl ⟨by omega,by omega⟩)<|Qe ?_
  exact ⟨(i+1,v3,vd,M3,F),by simp only[];omega,⟨rfl,trivial⟩,hlt,hI16,hG16.next hk5,λx hx=>by have:=hG16.ml x hx;simp only[];omega⟩
 have hk1:k<al.length:=h47.1
 have hk2:k<5:=h47.2
 have gj:=Vv (ns:=ns) (j:=0+2+i*5+k*1) (by omega)
 have lj:=Y8 hns (0+2+i*5+k*1)
 refine Q8 (ns.getD (0+2+i*5+k*1) 0) λq hq=>?_
 rw[hq] at gj lj
 have hB316:=hB38.step hI16.st n3
 have hmod:0≤(q:Int) % ((S:Int)+2):=Int.emod_nonneg _ (by omega)
 have hmod2:(q:Int) % ((S:Int)+2)<(S:Int)+2:=Int.emod_lt_of_pos _ (by omega)
 refine Qi<|Qf<|Qg<|Qf<|QU (Step [] w17) [(0,true),(1,true),(2,true),(3,true),(4,true),(5,true),(6,true),(7,true),(8,true),(9,true),(10,true),(11,true)] mixed (by rfl) (by kernel_rfl) (Step.drew _ _) ?_
 refine p (λ_=>Qn)<|p (λ_=>Qn)<|p (λ_=>Qa rfl)<|p (λ_=>ZA (i:=i) rfl rfl (by omega))<|p (λ_=>ZA (i:=k) rfl rfl hk2)<|pq (λ_ hc=>Qd (hB316.ext hc) rfl gj) <|
  p (λ_=>ZI (k':=.i64) rfl ⟨by omega,by omega⟩)<|p (λ_=>Qa rfl)<|pq (λ_ hc=>Qd (hI16.B.ext hc) rfl rfl)<|p (λ_=>Qx rfl rfl ⟨by omega,by omega⟩) <|
  p (λ_=>Ug (a:=(q:Int)) (b:=(S:Int)+2) rfl rfl (by omega) (by omega))<|p (λ_=>Qh)<|pe ?_
 have hI17:=hI16.ext (Step.drew [] w17)
 refine Q8 ((q:Int) % ((S:Int)+2)) λt ht=>?_
 have ht0:0≤t:=by omega
 refine Qc<|Qb<|x (Qa rfl)<|x (Qd hI17.B rfl rfl)<|x (QB rfl rfl)<|xe ?_
 refine QH rfl (λh64=>?_) (λh64=>?_)
 ·refine Qi<|Qw<|Qb<|x (Qx rfl rfl ⟨by omega,by omega⟩)<|Qe ?_
  exact ⟨(k+1,vd,F),by simp only[];omega,⟨rfl,trivial⟩,hk1,hk2,hI17,hG16.skip hk1⟩
 have hvd:=Qk hI17.e
 have haD:QM (b5::ob vd) { w17 with drawn:=w17.drawn+1 }.heap v al:=((hal8.up (L':=b5::ob vd) (λb hb=>by
  rcases List.mem_cons.1 hb with rfl | hb
  ·exact .inl (by simp)
  ·exact .inr (hvd b hb).1)).step hI17.st (by simp))
 have nb5:=QN hI17.e hl8
 refine QU (Step (ob vd) { w17 with drawn:=w17.drawn+1 }) [(0,true),(1,true),(2,true),(3,true),(4,true),(5,true),(6,true),(7,true),(8,true),(9,false),(10,false),(11,true),(12,false)] mixed (by rfl) (by kernel_rfl) (Step.drew _ _) ?_
 refine p (λ_=>Qa rfl)<|pq (λ_ hc=>Qd (hI17.B.step hc nb5) rfl rfl)<|p (λ_=>Qn)<|p (λ_=>Qn)<|p (λ_=>Qn) <|
  pic (i:=k) rfl haD rfl rfl hk1 λa70 h70=>pq (λ_ hc=>Qv (h70.step hc (λb hb=>List.mem_cons_of_mem _ hb)) rfl)<|p (λ_=>Qn)<|p (λ_=>QE ⟨rfl,rfl,rfl,trivial⟩) <|
  pk<|QD (us:=[Qy ((i:Int),cget al k,(q:Int) % ((S:Int)+2))]) rfl rfl (by decide) (by exact (by decide:1*3≤1000000)) ⟨rfl,rfl,trivial⟩ λb74 w18 hs18 hb74 hB74=>?_
 have hs1718:=(Step.drew [] { w17 with drawn:=w17.drawn+1 }).trans hs18
 have hI18:=hI17.ext hs1718
 refine ⟨hs1718.any,?_⟩
 refine pk<|QY (news:=Qy ((i:Int),cget al k,(q:Int) % ((S:Int)+2))) (L:=[]) hI18.e rfl rfl rfl (hB74.at (by simp)) (λy hy=>by simp only[Qy,List.mem_cons,List.not_mem_nil,or_false] at hy;rcases hy with rfl | rfl | rfl <;> rfl) (by omega) hI18.st.size λv19 w19 ho19 hs19 hn19=>⟨(hs1718.any (L:=ob vd)).trans' hs19,?_⟩
 have ho19':Z0 144 w8.heap.size w19 v19 (F++[((i:Int),cget al k,(q:Int) % ((S:Int)+2))]):=Z0.snoc ho19
 refine p (λ_=>Qa rfl)<|pkl (hl:=by kernel_rfl)<|QG (hI18.B.step hs19 (QN hI18.e hl8)) rfl rfl (by simp) (Z0.eds (L:=[]) ho19' (by simp;omega) (by simp)).one λw20 hs20 hB20=>pe ?_
 have hI20:=hI18.setE hl8 hs19 ho19' hn19 hs20 hB20
 refine Qw<|Qb<|x (Qx rfl rfl ⟨by omega,by omega⟩)<|Qe ?_
 exact ⟨(k+1,v19,F++[((i:Int),cget al k,(q:Int) % ((S:Int)+2))]),by simp only[];omega,⟨rfl,trivial⟩,hk1,hk2,hI20,hG16.edge hk1 hi hlt hmod (by omega)⟩
end Go.Proofs.YtdffckgdcegpaaaGreatDoor
namespace Go.Lg
section
variable {P:Program} {f:Fr} {w:World} {d:Option Nat} {ty:Nat} {ps:String} {af:Array Edge} {gd:Option (Nat×Bool)}
theorem Vh {t sz:Nat}[Ag P t sz] {x:Operand}{b o T:Nat}{cs us:LV}(h:Q0 w.heap b T cs) (hx:ev f x=.pointer (some ⟨b,o,none⟩)) (hl:us.length=sz) (hsub:∀j u,us[j]?=some u→cs[o+j]?=some u) :
  (execOp (ev f) ⟨d,.load t x,ty,ps,af,gd⟩).run P w=.ok (.value (.agg us.toArray)) w:=by
 refine VW hx hl λj u hu=>?_
 rw[Xa,JC,h.cell]
 exact hsub j u hu
end
end Go.Lg
namespace Go.Proofs.YtdffckgdcegpaaaGreatDoor
open Go.Proofs.Tryz
open Go.Lg
theorem Qhv {ns:LN}{o n:Nat}:∀j u,(bys ((ns.drop o).take n))[j]?=some u→(bys ns)[o+j]?=some u:=by
 intro j u h
 simp only[bys,List.getElem?_map,List.getElem?_take,List.getElem?_drop] at h ⊢
 split at h
 ·exact h
 ·cases h
theorem Qhw {ns:LN}(h:∀n∈ns,n<256) (o n:Nat):∀m∈(ns.drop o).take n,m<256:=λm hm=>h m (List.mem_of_mem_drop (List.mem_of_mem_take hm))
theorem QaU (m k:Nat):∀e∈setK m k,0≤e∧e<k:=by
 intro e he
 simp only[setK,List.mem_map,List.mem_filter,List.mem_range'_1] at he
 obtain ⟨i,⟨hi,_⟩,rfl⟩:=he
 omega
theorem Qbh (keep:Bool→Bool→Bool):∀(n:Nat) (a b:LI),a.length+b.length≤n→Yf a→Yf b→Yf (mrg keep a b):=by
 intro n
 induction n with
 | zero =>
  intro a b h _ _
  have ha:a=[]:=List.eq_nil_of_length_eq_zero (by omega)
  have hb:b=[]:=List.eq_nil_of_length_eq_zero (by omega)
  subst ha hb;rw[Ja];exact List.Pairwise.nil
 | succ n ih =>
  intro a b hn ia ib
  by_cases h:a=[]∧b=[]
  ·obtain ⟨rfl,rfl⟩:=h;rw[Ja];exact List.Pairwise.nil
  ·have hlt:=Uy h
   have itl:∀(c:Bool) (l:LI),Yf l→Yf (tl c l):=λc l hl=>by
    cases c
    ·exact hl
    ·cases l with
     | nil=>exact hl
     | cons y l=>exact hl.tail
   have ih':=ih (tl (Y6 a b) a) (tl (Y6 b a) b) (by omega) (itl _ _ ia) (itl _ _ ib)
   rw[XZ keep h]
   cases keep (Y6 a b) (Y6 b a) with
   | false=>simpa using ih'
   | true =>
    simp only[cond_true,List.singleton_append]
    refine List.pairwise_cons.2 ⟨λx hx=>?_,ih'⟩
    have hm:=(V1 (itl _ _ ia) (itl _ _ ib) x).1 hx
    cases a with
    | nil =>
     cases b with
     | nil=>exact absurd ⟨rfl,rfl⟩ h
     | cons y b =>
      simp only[Y6,tl,cond_true,cond_false,List.tail_cons,List.not_mem_nil,false_or,Go.Proofs.YtdffckgdcegpaaaGreatDoor.hx,List.headD_cons] at hm ⊢
      exact ib.lt_of hm.1
    | cons u a =>
     cases b with
     | nil =>
      simp only[Y6,tl,cond_true,cond_false,List.tail_cons,List.not_mem_nil,or_false,Go.Proofs.YtdffckgdcegpaaaGreatDoor.hx,List.headD_cons] at hm ⊢
      exact ia.lt_of hm.1
     | cons y b =>
      rcases Int.lt_trichotomy u y with h1 | h1 | h1
      ·have e1:decide (u≤y)=true:=decide_eq_true (by omega)
       have e2:decide (y≤u)=false:=decide_eq_false (by omega)
       simp only[Y6,tl,e1,e2,cond_true,cond_false,List.tail_cons,Go.Proofs.YtdffckgdcegpaaaGreatDoor.hx,List.headD_cons] at hm ⊢
       rcases hm.1 with h2 | h2
       ·exact ia.lt_of h2
       ·rcases List.mem_cons.1 h2 with h2 | h2
        ·omega
        ·have:=ib.lt_of h2;omega
      ·have e1:decide (u≤y)=true:=decide_eq_true (by omega)
       have e2:decide (y≤u)=true:=decide_eq_true (by omega)
       simp only[Y6,tl,e1,e2,cond_true,List.tail_cons,Go.Proofs.YtdffckgdcegpaaaGreatDoor.hx,List.headD_cons] at hm ⊢
       rcases hm.1 with h2 | h2
       ·have:=ia.lt_of h2;omega
       ·have:=ib.lt_of h2;omega
      ·have e1:decide (u≤y)=false:=decide_eq_false (by omega)
       have e2:decide (y≤u)=true:=decide_eq_true (by omega)
       simp only[Y6,tl,e1,e2,cond_true,cond_false,List.tail_cons,Go.Proofs.YtdffckgdcegpaaaGreatDoor.hx,List.headD_cons] at hm ⊢
       rcases hm.1 with h2 | h2
       ·rcases List.mem_cons.1 h2 with h2 | h2
        ·omega
        ·have:=ia.lt_of h2;omega
       ·exact ib.lt_of h2
end Go.Proofs.YtdffckgdcegpaaaGreatDoor
namespace Go.Lg
section
variable {P:Program} {f:Fr} {w:World} {d:Option Nat} {ty:Nat} {ps:String} {af:Array Edge} {gd:Option (Nat×Bool)} {all:List Oper} {C:World→Prop} {K:Fr→World→Prop}
theorem tp {l:List (Nat×Bool)}(h:XP P all C K l f w):XT P all C K (.pl l) f w:=h
end
end Go.Lg
namespace Go.Proofs.YtdffckgdcegpaaaGreatDoor
open Go.Lg
end Go.Proofs.YtdffckgdcegpaaaGreatDoor
namespace Go.Lg
section
variable {P:Program} {f:Fr} {w:World} {d:Option Nat} {ty:Nat} {ps:String} {af:Array Edge} {gd:Option (Nat×Bool)}
end
end Go.Lg
namespace Go.Proofs.YtdffckgdcegpaaaGreatDoor
open Go.Lg
section
variable {w4 w w' w'':World} {b:Nat} {m q:Bool} {ve vd:Value} {E D:LI}
end
end Go.Proofs.YtdffckgdcegpaaaGreatDoor
namespace Go.Lg
section
variable {P:Program} {f:Fr} {w:World} {d:Option Nat} {ty:Nat} {ps:String} {af:Array Edge} {gd:Option (Nat×Bool)}
end
end Go.Lg
namespace Go.Proofs.YtdffckgdcegpaaaGreatDoor
open Go.Lg
def grid (g:Nat→Int→Option Ed) (vs:LI) (n:Nat):List Ed:=(List.range' 0 n).flatMap λj=>vs.filterMap (g j)
theorem Vo (g:Nat→Int→Option Ed) (vs:LI) (n:Nat):grid g vs (n+1)=grid g vs n++vs.filterMap (g n):=by
 unfold grid;rw[List.range'_1_concat,List.flatMap_append];simp
theorem jb (l m:List Ed) (s v:Int):eget (l++m) s v=match eget l s v with | some u=>some u | none=>eget m s v:=by
 induction l with
 | nil=>rfl
 | cons e l ih =>
  rw[List.cons_append,eget,eget]
  split
  ·rfl
  ·exact ih
def UV (g:Nat→Int→Option Ed):Prop:=∀j v e,g j v=some e→e.1=(j:Int)∧e.2.1=v
theorem y9 {g:Nat→Int→Option Ed}(hg:UV g) (j:Nat) (v:Int):∀(vs:LI),eget (vs.filterMap (g j)) j v=if v∈vs then (g j v).map (·.2.2) else none
 | []=>by simp[eget]
 | u::vs=>by
  have ih:=y9 hg j v vs
  rw[List.filterMap_cons]
  cases hu:g j u with
  | none =>
   simp only[]
   rw[ih]
   by_cases e:v=u
   ·subst e;simp[hu]
   ·simp[e]
  | some e =>
   have he:=hg j u e hu
   simp only[]
   rw[eget]
   by_cases e2:u=v
   ·subst e2
    rw[if_pos he,if_pos List.mem_cons_self,hu];rfl
   ·rw[if_neg (λh=>e2 (he.2.symm.trans h.2)),ih]
    simp[Ne.symm e2]
theorem y8 {g:Nat→Int→Option Ed}(hg:UV g) {j i:Nat}(h:j≠i) (v:Int) (vs:LI):eget (vs.filterMap (g j)) i v=none:=by
 refine qO λe he h2=>?_
 obtain ⟨u,_,hu⟩:=List.mem_filterMap.1 he
 have:=hg j u e hu
 omega
theorem QcH {g:Nat→Int→Option Ed}(hg:UV g) (vs:LI) (j:Nat) (v:Int):∀n,eget (grid g vs n) j v=if j<n∧v∈vs then (g j v).map (·.2.2) else none
 | 0=>by simp[grid,eget]
 | n+1=>by
  rw[Vo,jb,QcH hg vs j v n]
  by_cases e:j=n
  ·subst e
   rw[if_neg (by omega),y9 hg]
   simp
  ·rw[y8 hg (Ne.symm e)]
   by_cases h:j<n∧v∈vs
   ·rw[if_pos h,if_pos ⟨by omega,h.2⟩]
    cases (g j v).map (·.2.2) <;> rfl
   ·rw[if_neg h,if_neg (λh2=>h ⟨by omega,h2.2⟩)]
theorem yU {g:Nat→Int→Option Ed}{vs:LI}{n:Nat}{e:Ed}(h:e∈grid g vs n):∃j v,j<n∧v∈vs∧g j v=some e:=by
 unfold grid at h
 obtain ⟨j,hj,h2⟩:=List.mem_flatMap.1 h
 obtain ⟨v,hv,h3⟩:=List.mem_filterMap.1 h2
 rw[List.mem_range'_1] at hj
 exact ⟨j,v,by omega,hv,h3⟩
theorem Qbv {g:Nat→Int→Option Ed}(hg:UV g) {vs:LI}(hi:Yf vs):∀n,(grid g vs n).Pairwise λx y:Ed=>x.1<y.1∨(x.1=y.1∧x.2.1<y.2.1)
 | 0=>by simp[grid]
 | n+1=>by
  rw[Vo,List.pairwise_append]
  refine ⟨Qbv hg hi n,Y5 (r:=(·<·)) (λx y u v hxy hu hv=>?_) hi,λe he e' he'=>?_⟩
  ·have h1:=hg n x u hu
   have h2:=hg n y v hv
   right;omega
  ·obtain ⟨j,v,hj,_,h1⟩:=yU he
   obtain ⟨v',_,h2⟩:=List.mem_filterMap.1 he'
   have h3:=hg j v e h1
   have h4:=hg n v' e' h2
   left;omega
theorem Qj9 (l:List QT):∀(acc:LI),(∀a∈l,Yf a.al)→Yf acc→Yf (l.foldl (λacc a=>mrg (· || ·) acc a.al) acc)∧∀x,x∈l.foldl (λacc a=>mrg (· || ·) acc a.al) acc↔x∈acc∨∃a∈l,x∈a.al:=by
 induction l with
 | nil=>intro acc _ h;exact ⟨h,λx=>by simp⟩
 | cons a l ih =>
  intro acc hl h
  have ha:=hl a List.mem_cons_self
  obtain ⟨h1,h2⟩:=ih (mrg (· || ·) acc a.al) (λb hb=>hl b (List.mem_cons_of_mem _ hb)) (Qbh _ _ _ _ (Nat.le_refl _) h ha)
  rw[List.foldl_cons]
  refine ⟨h1,λx=>?_⟩
  rw[h2 x,V1 h ha]
  simp only[List.mem_cons,exists_eq_or_imp]
  constructor
  ·rintro (⟨h3 | h3,_⟩ | h3)
   ·exact .inl h3
   ·exact .inr (.inl h3)
   ·exact .inr (.inr h3)
  ·rintro (h3 | h3 | h3)
   ·exact .inl ⟨.inl h3,by simp[h3]⟩
   ·exact .inl ⟨.inr h3,by simp[h3]⟩
   ·exact .inr h3
theorem QbA {l:List QT}(h:∀a∈l,Zm a):Yf (evs l):=(Qj9 l [] (λa ha=>(h a ha).ali) (by simp)).1
theorem Qbz {l:List QT}(h:∀a∈l,Zm a) (x:Int):x∈evs l↔∃a∈l,x∈a.al:=by
 have:=(Qj9 l [] (λa ha=>(h a ha).ali) (by simp)).2 x
 unfold evs;rw[this];simp
def syF (aa:List QT) (tup:List (LI)) (j:Nat) (v:Int):Option Ed:=(Yc v aa (tup.getD j [])).map λu=>((j:Int),v,(tup.idxOf u:Int))
theorem Qh5 (aa:List QT) (tup:List (LI)):UV (syF aa tup):=by
 intro j v e h
 unfold syF at h
 obtain ⟨u,_,rfl⟩:=Option.map_eq_some_iff.1 h
 exact ⟨rfl,rfl⟩
theorem yX {α β:Type}{f g:α→Option β}:∀{l:List α},(∀x∈l,f x=g x)→l.filterMap f=l.filterMap g
 | [],_=>rfl
 | x::l,h=>by rw[List.filterMap_cons,List.filterMap_cons,h x List.mem_cons_self,yX (λy hy=>h y (List.mem_cons_of_mem _ hy))]
theorem QeP {α β:Type}{f:α→Option β}{v:α}{e:β}(h:f v=some e):[v].filterMap f=[e]:=by rw[List.filterMap_cons,h];rfl
theorem Qg8 {α β:Type}{f:α→Option β}{v:α}(h:f v=none):[v].filterMap f=[]:=by rw[List.filterMap_cons,h];rfl
theorem Qdj {aa:List QT}{tup:List (LI)}{j:Nat}{v:Int}(h:Yc v aa (tup.getD j [])=none):syF aa tup j v=none:=by unfold syF;rw[h];rfl
theorem yk {aa:List QT}{tup:List (LI)}{j:Nat}{v:Int}{u:LI}(h:Yc v aa (tup.getD j [])=some u):syF aa tup j v=some ((j:Int),v,(tup.idxOf u:Int)):=by unfold syF;rw[h];rfl
def Clo (aa:List QT) (tup:List (LI)) (j:Nat) (vs:LI):Prop:=∀v∈vs,∀u,Yc v aa (tup.getD j [])=some u→u∈tup
theorem JF {tup r:List (LI)}{j:Nat}(h:j<tup.length):(tup++r).getD j []=tup.getD j []:=by simp[List.getD,List.getElem?_append_left h]
theorem QaO {aa:List QT}{tup r:List (LI)}{j:Nat}{vs:LI}(hj:j<tup.length) (hc:Clo aa tup j vs):vs.filterMap (syF aa (tup++r) j)=vs.filterMap (syF aa tup j):=by
 refine yX λv hv=>?_
 unfold syF
 rw[JF hj]
 cases hs:Yc v aa (tup.getD j []) with
 | none=>rfl
 | some u =>
  have hu:=hc v hv u hs
  simp only[Option.map_some,Option.some.injEq,Prod.mk.injEq,true_and]
  rw[List.idxOf_append,if_pos hu]
theorem Clo.pre {aa:List QT}{tup r:List (LI)}{j:Nat}{vs:LI}(hj:j<tup.length) (hc:Clo aa tup j vs):Clo aa (tup++r) j vs:=by
 intro v hv u hu
 rw[JF hj] at hu
 exact List.mem_append_left _ (hc v hv u hu)
theorem j7 {α:Type}{l:List α}{u:α}(h:l.Nodup) (hu:u∉l):(l++[u]).Nodup:=by
 rw[List.nodup_append]
 exact ⟨h,by simp,λa ha b hb=>by simp only[List.mem_singleton] at hb;subst hb;exact λe=>hu (by rw[←e];exact ha)⟩
theorem qk {aa:List QT}{i:Nat}:∀(vs:LI) (s s':Sy),i<s.tup.length→s.tup.Nodup→V7 aa i (qi s i) vs s=some s' →
  ∃r,s'.tup=s.tup++r∧s'.mk'=s.mk'∧s'.ed=s.ed++vs.filterMap (syF aa s'.tup i)∧Clo aa s'.tup i vs∧s'.tup.Nodup
 | [],s,s',_,hd,e=>by cases e;exact ⟨[],by simp,rfl,by simp,λv hv=>(by cases hv),hd⟩
 | v::vs,s,s',hi,hd,e=>by
  rw[V7] at e
  obtain ⟨s1,h1,h2⟩:=Option.bind_eq_some_iff.1 e
  have key:∃r1,s1.tup=s.tup++r1∧s1.mk'=s.mk'∧s1.ed=s.ed++[v].filterMap (syF aa s1.tup i)∧Clo aa s1.tup i [v]∧s1.tup.Nodup:=by
   unfold syE at h1
   have eT:qi s i=s.tup.getD i []:=rfl
   rw[eT] at h1
   cases hs:Yc v aa (s.tup.getD i []) with
   | none =>
    rw[hs] at h1
    cases h1
    refine ⟨[],by simp,rfl,by rw[Qg8 (Qdj hs),List.append_nil],λv' hv' u hu=>?_,hd⟩
    simp only[List.mem_singleton] at hv';subst hv'
    rw[hs] at hu;cases hu
   | some u =>
    rw[hs] at h1
    simp only[] at h1
    by_cases hu:u∈s.tup
    ·rw[if_pos hu] at h1
     cases h1
     refine ⟨[],by simp,rfl,by rw[QeP (yk hs)],λv' hv' u' hu'=>?_,hd⟩
     simp only[List.mem_singleton] at hv';subst hv'
     simp only[] at hu' ⊢
     rw[hs] at hu';cases hu';exact hu
    ·rw[if_neg hu] at h1
     split at h1
     ·cases h1
     ·cases h1
      have e2:(s.tup++[u]).getD i []=s.tup.getD i []:=JF hi
      have e3:(s.tup++[u]).idxOf u=s.tup.length:=by rw[List.idxOf_append,if_neg hu];simp
      refine ⟨[u],rfl,rfl,?_,λv' hv' u' hu'=>?_,j7 hd hu⟩
      ·rw[QeP (yk (tup:=s.tup++[u]) (u:=u) (by rw[e2];exact hs)),e3]
      ·simp only[List.mem_singleton] at hv';subst hv'
       simp only[] at hu' ⊢
       rw[e2,hs] at hu';cases hu';simp
  obtain ⟨r1,k1,k2,k3,k4,k5⟩:=key
  have hi1:i<s1.tup.length:=by rw[k1];simp;omega
  have eT:qi s1 i=qi s i:=by unfold qi;rw[k1];exact JF hi
  rw[←eT] at h2
  obtain ⟨r2,g1,g2,g3,g4,g5⟩:=qk vs s1 s' hi1 k5 h2
  refine ⟨r1++r2,by rw[g1,k1,List.append_assoc],g2.trans k2,?_,?_,g5⟩
  ·rw[g3,k3,List.append_assoc]
   congr 1
   rw[show v::vs=[v]++vs from rfl,List.filterMap_append]
   congr 1
   rw[g1]
   exact (QaO hi1 k4).symm
  ·intro v' hv' u hu
   rcases List.mem_cons.1 hv' with rfl | hv'
   ·have:=k4.pre (r:=r2) hi1
    rw[←g1] at this
    exact this v' List.mem_cons_self u hu
   ·exact g4 v' hv' u hu
structure SyG (aa:List QT) (i:Nat) (s:Sy):Prop where
 nd:s.tup.Nodup
 le:i≤s.tup.length
 hd:s.tup.getD 0 []=List.replicate aa.length 0∧0<s.tup.length
 mk2:s.mk'=((List.range' 0 i).filter λj=>Xg aa (s.tup.getD j [])).map λj:Nat=>(j:Int)
 ed:s.ed=grid (syF aa s.tup) (evs aa) i
 cl:∀j,j<i→Clo aa s.tup j (evs aa)
theorem JI {α β:Type}{f g:α→List β}:∀{l:List α},(∀x∈l,f x=g x)→l.flatMap f=l.flatMap g
 | [],_=>rfl
 | x::l,h=>by rw[List.flatMap_cons,List.flatMap_cons,h x List.mem_cons_self,JI (λy hy=>h y (List.mem_cons_of_mem _ hy))]
theorem SyG.next {aa:List QT}{i:Nat}{s s':Sy}(h:SyG aa i s) (hi:i<s.tup.length) (e:V7 aa i (qi s i) (evs aa) (ZD aa i (qi s i) s)=some s'):SyG aa (i+1) s':=by
 have ht:(ZD aa i (qi s i) s).tup=s.tup:=by unfold ZD;split <;> rfl
 have hed:(ZD aa i (qi s i) s).ed=s.ed:=by unfold ZD;split <;> rfl
 have hT:qi (ZD aa i (qi s i) s) i=qi s i:=by show (ZD aa i (qi s i) s).tup.getD i []=s.tup.getD i [];rw[ht]
 rw[←hT] at e
 obtain ⟨r,g1,g2,g3,g4,g5⟩:=qk (evs aa) _ s' (by rw[ht];exact hi) (by rw[ht];exact h.nd) (by rw[hT] at e ⊢;exact e)
 rw[ht] at g1
 rw[hed] at g3
 have pre:∀j,j≤i→s'.tup.getD j []=s.tup.getD j []:=λj hj=>by rw[g1];exact JF (by omega)
 refine ⟨g5,by rw[g1];simp;omega,⟨by rw[pre 0 (by omega)];exact h.hd.1,by rw[g1];simp;omega⟩,?_,?_,λj hj=>?_⟩
 ·rw[g2,List.range'_1_concat,List.filter_append,List.map_append,Nat.zero_add]
  have e1:((List.range' 0 i).filter λj=>Xg aa (s'.tup.getD j []))=(List.range' 0 i).filter λj=>Xg aa (s.tup.getD j []):=by
   refine List.filter_congr λj hj=>?_
   rw[List.mem_range'_1] at hj
   rw[pre j (by omega)]
  rw[e1]
  unfold ZD
  by_cases hm:Xg aa (qi s i)=true
  ·rw[if_pos hm]
   have hm':Xg aa (s'.tup.getD i [])=true:=by rw[pre i (Nat.le_refl _)];exact hm
   simp only[List.filter_cons,hm',if_true,List.filter_nil,List.map_cons,List.map_nil]
   rw[h.mk2]
  ·rw[if_neg hm]
   have hm':Xg aa (s'.tup.getD i [])=false:=by rw[pre i (Nat.le_refl _)];exact eq_false_of_ne_true hm
   rw[List.filter_cons,if_neg (by rw[hm'];simp),List.filter_nil,h.mk2];simp
 ·rw[g3,Vo,h.ed]
  congr 1
  unfold grid
  refine JI λj hj=>?_
  rw[List.mem_range'_1] at hj
  rw[g1]
  exact (QaO (by omega) (h.cl j (by omega))).symm
 ·by_cases e2:j=i
  ·subst e2;exact g4
  ·have:=(h.cl j (by omega)).pre (r:=r) (by omega)
   rw[←g1] at this
   exact this
theorem yj {aa:List QT}:∀(f i:Nat) (s s':Sy),SyG aa i s→syL aa f i s=some s'→∃i',SyG aa i' s'∧(s'.tup.length=i'∨i'=i+f)
 | 0,i,s,s',h,e=>by cases e;exact ⟨i,h,.inr rfl⟩
 | f+1,i,s,s',h,e=>by
  rw[syL] at e
  split at e
  ·rename_i hi
   obtain ⟨s1,h1,h2⟩:=Option.bind_eq_some_iff.1 e
   obtain ⟨i',h3,h4⟩:=yj f (i+1) s1 s' (h.next hi h1) h2
   exact ⟨i',h3,by omega⟩
  ·cases e;exact ⟨i,h,.inl (by have:=h.le;omega)⟩
structure SyP (aa:List QT) (A:QT) (Q:List (LI)):Prop where
 al:A.al=evs aa
 st:A.st=(Q.length:Int)
 nd:Q.Nodup
 v:∀t∈Q,Vt aa t
 le:Q.length≤4096
 hd:0<Q.length→Q.getD 0 []=List.replicate aa.length 0
 mk2:A.mr=((List.range' 0 Q.length).filter λj=>Xg aa (Q.getD j [])).map λj:Nat=>(j:Int)
 ed:A.ed=grid (syF aa Q) (evs aa) Q.length
 cl:∀j,j<Q.length→Clo aa Q j (evs aa)
theorem Y9 {aa:List QT}(ho:∀a∈aa,Zm a) {A:QT}{Q:List (LI)}(h:sync aa=some (A,Q)):SyP aa A Q∧(Q.length=0↔∃a∈aa,a.st=0):=by
 have hok:=VU ho h
 unfold sync at h
 split at h
 ·rename_i hz
  cases h
  exact ⟨⟨rfl,rfl,by simp,by simp,by simp,λh=>by simp at h,by simp,by simp[grid],λj hj=>by simp at hj⟩,by simpa using hz⟩
 ·rename_i hz
  obtain ⟨s,h1,h2⟩:=Option.map_eq_some_iff.1 h
  have h0:SyG aa 0 (qm aa):=⟨by simp[qm],by simp,⟨by simp[qm],by simp[qm]⟩,by simp[qm],by simp[qm,grid],λj hj=>by omega⟩
  obtain ⟨i',h3,h4⟩:=yj 4096 0 (qm aa) s h0 h1
  cases h2
  have hl:i'=s.tup.length:=by
   have h5:=h3.le
   have h6:=hok.2
   simp only[] at h6
   omega
  subst hl
  refine ⟨⟨rfl,rfl,h3.nd,hok.1,hok.2,λ_=>h3.hd.1,h3.mk2,h3.ed,h3.cl⟩,?_⟩
  have:=h3.hd.2
  constructor
  ·intro h;have h7:s.tup.length=0:=h;omega
  ·intro h;exact absurd h hz
theorem SyP.to {aa:List QT}{A:QT}{Q:List (LI)}(h:SyP aa A Q) {j:Nat}(hj:j<Q.length) {v:Int}(hv:v∈evs aa) {u:LI}(hu:Yc v aa (Q.getD j [])=some u):Q.idxOf u<Q.length∧Q.getD (Q.idxOf u) []=u:=by
 have hm:=h.cl j hj v hv u hu
 have hl:=List.idxOf_lt_length_of_mem hm
 refine ⟨hl,?_⟩
 simp[List.getD,hl]
theorem SyP.okay {aa:List QT}(ho:∀a∈aa,Zm a) {A:QT}{Q:List (LI)}(h:SyP aa A Q):Zm A:=by
 have hle:=h.le
 refine ⟨λe he=>?_,by rw[h.al];exact QbA ho,by rw[h.st];omega,by rw[h.st];omega,λs hs=>?_,?_,λe he=>?_,by rw[h.ed];exact Qbv (Qh5 aa Q) (QbA ho) _⟩
 ·rw[h.al] at he
  obtain ⟨a,ha,hx⟩:=(Qbz ho e).1 he
  exact (ho a ha).al e hx
 ·rw[h.mk2] at hs
  simp only[List.mem_map,List.mem_filter,List.mem_range'_1] at hs
  obtain ⟨i,⟨hi,_⟩,rfl⟩:=hs
  rw[h.st];omega
 ·rw[h.mk2]
  unfold Yf
  rw[List.pairwise_map]
  refine List.Pairwise.sublist List.filter_sublist ?_
  exact (List.pairwise_lt_range' (s:=0) (n:=Q.length)).imp (λh=>by omega)
 ·rw[h.ed] at he
  obtain ⟨j,v,hj,hv,hg⟩:=yU he
  unfold syF at hg
  obtain ⟨u,hu,rfl⟩:=Option.map_eq_some_iff.1 hg
  have:=(h.to hj hv hu).1
  rw[h.st,h.al]
  exact ⟨by simp only[];omega,by simp only[];omega,hv,by simp only[];omega,by simp only[];omega⟩
end Go.Proofs.YtdffckgdcegpaaaGreatDoor
namespace Go.Lg
open Go.RowKit
instance:LawfulBEq ByteArray where
 eq_of_beq h:=(MapKept.bytes_beq _ _).1 h
 rfl:=(MapKept.bytes_beq _ _).2 rfl
def chr (s:ByteArray) (i:Nat):Nat:=(s.get! i).toNat
theorem Qi9 {s:ByteArray}{i:Nat}(h:i<s.size):(s[i]'h).toNat=chr s i:=by
 unfold chr
 obtain ⟨d⟩:=s
 have hd:i<d.size:=h
 simp[ByteArray.get!,hd,ByteArray.getElem_eq_getElem_data]
theorem QcN {a b:ByteArray}(h:a.data.toList=b.data.toList):a=b:=by
 obtain ⟨⟨x⟩⟩:=a
 obtain ⟨⟨y⟩⟩:=b
 have h':x=y:=h
 rw[h']
theorem bytes_beq (a b:ByteArray):(a.toList == b.toList)=decide (a=b):=by
 rw[ByteArray.toList_eq,ByteArray.toList_eq]
 by_cases h:a=b
 ·subst h;simp
 ·rw[decide_eq_false h]
  have:a.data.toList≠b.data.toList:=λe=>h (QcN e)
  simpa using this
section
variable {P:Program} {f:Fr} {w:World} {d:Option Nat} {ty:Nat} {ps:String} {af:Array Edge} {gd:Option (Nat×Bool)} {t t':Nat} {x y:Operand}
theorem QdN [h:St P t] {s:ByteArray}{k:IntKind}{i:Nat}(hx:ev f x=.string s) (hy:ev f y=.int k i) (hi:i<s.size) :
  (execOp (ev f) ⟨d,.index t x y,ty,ps,af,gd⟩).run P w=.ok (.value (.int .u8 (chr s i))) w:=by
 have h1:=run_index_string (P:=P) w t s k i h.u
 rw[dif_pos ⟨by omega,by omega⟩] at h1
 have e:(s[(i:Int).toNat]'(by simpa using hi)).toNat=chr s i:=Qi9 hi
 simp only[execOp,hx,hy,Sem.run_bind,h1,Result.andThen_ok,Sem.run_pure,e]
theorem j1 [h:St P t] {s:ByteArray}(hx:ev f x=.string s) :
  (execOp (ev f) ⟨d,.call ⟨.builtin .len,#[x],#[t]⟩,ty,ps,af,gd⟩).run P w=.ok (.value (.int .i64 s.size)) w:=QdM h.u hx
theorem zm {a b:ByteArray}(hx:ev f x=.string a) (hy:ev f y=.string b) :
  (execOp (ev f) ⟨d,.binOp .eql t x y t',ty,ps,af,gd⟩).run P w=.ok (.value (.bool (decide (a=b)))) w:=by
 have hg:(eqGuard .eql t x y (.string a) (.string b)).run P w=.ok () w:=by simp[eqGuard]
 simp only[execOp,hx,hy,Sem.run_bind,hg,Result.andThen_ok,binOp_string_eql,Sem.run_pure,bytes_beq]
theorem Z4 {a b:ByteArray}(hx:ev f x=.string a) (hy:ev f y=.string b) (hl:a.size+b.size≤1000000000) :
  (execOp (ev f) ⟨d,.binOp .add t x y t',ty,ps,af,gd⟩).run P w=.ok (.value (.string (a++b))) w:=by
 have hg:(eqGuard .add t x y (.string a) (.string b)).run P w=.ok () w:=by simp[eqGuard]
 have hl':¬(((a.size+b.size:Nat):Int) > IntKind.i64.max):=by
  rw[show IntKind.i64.max=9223372036854775807 from rfl];omega
 simp only[execOp,hx,hy,Sem.run_bind,hg,Result.andThen_ok,binOp_string_add,Op.stringOp,if_neg hl',Sem.run_pure]
theorem Qgw {a b:Nat}(hx:ev f x=.int .u16 a) (hy:ev f y=.int .u16 b) (ha:a<65536) (hb:b<65536) :
  (execOp (ev f) ⟨d,.binOp .and t x y t',ty,ps,af,gd⟩).run P w=.ok (.value (.int .u16 ((a &&& b:Nat):Int))) w:=by
 refine YQ hx hy ?_
 have hi:inK .u16 ((a &&& b:Nat):Int):=by
  have:a &&& b≤a:=Nat.and_le_left
  exact ⟨by omega,by omega⟩
 simp only[binOp,Op.intBits,BitVec.ofInt_natCast,ne_eq,not_true_eq_false,if_false,Sem.run_pure]
 rw[BitVec.toNat_and,BitVec.toNat_ofNat,BitVec.toNat_ofNat,Nat.mod_eq_of_lt (show a<2 ^ IntKind.u16.bits from ha),Nat.mod_eq_of_lt (show b<2 ^ IntKind.u16.bits from hb),Ya hi]
theorem Qa6 {a b:Nat}(ha:a<65536) (hb:b<65536):a ||| b<65536:=Nat.or_lt_two_pow (n:=16) ha hb
theorem j0 {a b:Nat}(hx:ev f x=.int .u16 a) (hy:ev f y=.int .u16 b) (ha:a<65536) (hb:b<65536) :
  (execOp (ev f) ⟨d,.binOp .or t x y t',ty,ps,af,gd⟩).run P w=.ok (.value (.int .u16 ((a ||| b:Nat):Int))) w:=by
 refine YQ hx hy ?_
 have hi:inK .u16 ((a ||| b:Nat):Int):=by
  have:=Qa6 ha hb
  exact ⟨by omega,by omega⟩
 simp only[binOp,Op.intBits,BitVec.ofInt_natCast,ne_eq,not_true_eq_false,if_false,Sem.run_pure]
 rw[BitVec.toNat_or,BitVec.toNat_ofNat,BitVec.toNat_ofNat,Nat.mod_eq_of_lt (show a<2 ^ IntKind.u16.bits from ha),Nat.mod_eq_of_lt (show b<2 ^ IntKind.u16.bits from hb),Ya hi]
theorem j2 {a b:Nat}(hx:ev f x=.int .u16 a) (hy:ev f y=.int .u16 b) (ha:a<65536) (hb:b<65536) :
  (execOp (ev f) ⟨d,.binOp .andNot t x y t',ty,ps,af,gd⟩).run P w=.ok (.value (.int .u16 ((a &&& (65535 ^^^ b):Nat):Int))) w:=by
 refine YQ hx hy ?_
 have hi:inK .u16 ((a &&& (65535 ^^^ b):Nat):Int):=by
  have:a &&& (65535 ^^^ b)≤a:=Nat.and_le_left
  exact ⟨by omega,by omega⟩
 have e:(~~~(BitVec.ofNat IntKind.u16.bits b))=BitVec.ofNat IntKind.u16.bits (65535 ^^^ b):=by
  have hall:BitVec.allOnes 16=BitVec.ofNat 16 65535:=by decide
  have hx1:∀z:BitVec 16,~~~z=BitVec.allOnes 16 ^^^ z:=λz=>by
   first
   | exact BitVec.allOnes_xor.symm
   | exact (BitVec.xor_allOnes.symm.trans (BitVec.xor_comm _ _))
  show ~~~(BitVec.ofNat 16 b)=BitVec.ofNat 16 (65535 ^^^ b)
  rw[hx1,hall]
  apply BitVec.eq_of_toNat_eq
  simp only[BitVec.toNat_xor,BitVec.toNat_ofNat]
  rw[Nat.mod_eq_of_lt (show 65535<2 ^ 16 by decide),Nat.mod_eq_of_lt (show b<2 ^ 16 from hb)]
  rw[Nat.mod_eq_of_lt (Nat.xor_lt_two_pow (n:=16) (by decide) hb)]
 simp only[binOp,Op.intBits,BitVec.ofInt_natCast,ne_eq,not_true_eq_false,if_false,Sem.run_pure]
 rw[e,BitVec.toNat_and,BitVec.toNat_ofNat,BitVec.toNat_ofNat,Nat.mod_eq_of_lt (show a<2 ^ IntKind.u16.bits from ha),Nat.mod_eq_of_lt (show 65535 ^^^ b<2 ^ IntKind.u16.bits from Nat.xor_lt_two_pow (n:=16) (by decide) hb),Ya hi]
theorem QaY {k k':IntKind}{a:Int}{n:Nat}(hx:ev f x=.int k a) (hy:ev f y=.int k' n) (hn:n≤k.bits) (hi:inK k (a*2 ^ n)) :
  (execOp (ev f) ⟨d,.binOp .shl t x y t',ty,ps,af,gd⟩).run P w=.ok (.value (.int k (a*2 ^ n))) w:=by
 refine YQ hx hy ?_
 have h1:¬((n:Int)<0):=by omega
 simp only[binOp,Op.shift,h1,if_false,Int.toNat_natCast,Nat.min_eq_left hn,Sem.run_pure]
 rw[Ya hi]
end
section
variable {P:Program} {ops:List Oper} {K:Fr→World→Prop} {f:Fr} {w:World} {d:Option Nat} {ty:Nat} {ps:String} {af:Array Edge} {gd:Option (Nat×Bool)} {l:List Oper}
 {t e sz bys:Nat} {z:Value} {x y1 y2:Operand} {L:LN} {v:Value} {n:Nat} {cs:LV} {H:Array Obj} {k k':IntKind} {hi:Nat}
theorem QdH [h:Sl P t e sz bys z] (hA:Zo L H v n sz cs) (hx:ev f x=v) (hh:ev f y1=.int k hi) (hm:ev f y2=.int k' hi) (h1:hi≤n) :
  ∃v',Zo L H v' hi sz (cs.take (hi*sz))∧∀w,(execOp (ev f) ⟨d,.slice t x none (some y1) (some y2),ty,ps,af,gd⟩).run P w=.ok (.value v') w:=by
 obtain ⟨ii,hii,_,hs,_⟩:=Sl.info h
 rcases hA.2.2 with ⟨rfl,rfl⟩ | ⟨a,cap,rfl,hc,hat⟩
 ·have h0:hi=0:=by omega
  subst h0
  refine ⟨nS,?_,λw=>?_⟩
  ·rw[Nat.zero_mul,List.take_zero];exact Zo.nil _ _ _
  ·simp[execOp,hx,hh,hm,Instr.sliceAt,Instr.slice,Instr.sliceBounds,Instr.sliceBound,asIntOf,run_underlying h.u,sizeOf,typeInfo,hii]
 ·refine ⟨.slice (some a) hi hi,⟨?_,by have:=hA.2.1;omega,.inr ⟨a,hi,rfl,Nat.le_refl _,hat.out,hat.lt,λj u hu=>?_⟩⟩,λw=>?_⟩
  ·rw[List.length_take,hA.1,Nat.min_eq_left (Nat.mul_le_mul_right _ h1)]
  ·rw[List.getElem?_take] at hu
   split at hu
   ·exact hat.cell j u hu
   ·cases hu
  ·by_cases h0:hi=0
   ·subst h0
    simp[execOp,hx,hh,hm,Instr.sliceAt,Instr.slice,Instr.sliceBounds,Instr.sliceBound,asIntOf,run_underlying h.u,sizeOf,typeInfo,hii]
   ·simp[execOp,hx,hh,hm,Instr.sliceAt,Instr.slice,Instr.sliceBounds,Instr.sliceBound,asIntOf,run_underlying h.u,sizeOf,typeInfo,hii,Addr.add]
    intro h9;omega
end
section
variable {P:Program} {ops l:List Oper} {K:Fr→World→Prop} {f:Fr} {w:World} {o:Oper} {C:World→Prop} {pl:List (Nat×Bool)} {i:Nat}
theorem xB {b:Bool}(hr:(execOp (ev f) o).run P w=.ok (.value (.bool b)) w) (ht:b=true→XL P ops K l (QX f o.dst (.bool true)) w) (hf:b=false→XL P ops K l (QX f o.dst (.bool false)) w)
  (hg:Z9 ops f o=true:=by rfl):XL P ops K (o::l) f w:=by
 cases hb:b with
 | true=>rw[hb] at hr;exact x hr (ht hb) hg
 | false=>rw[hb] at hr;exact x hr (hf hb) hg
theorem pB {b:Bool}(hr:∀w',(execOp (ev f) (Q4 ops i)).run P w'=.ok (.value (.bool b)) w') (ht:b=true→XP P ops C K pl (QX f (Q4 ops i).dst (.bool true)) w) (hf:b=false→XP P ops C K pl (QX f (Q4 ops i).dst (.bool false)) w)
  (hg:Z9 ops f (Q4 ops i)=true:=by rfl):XP P ops C K ((i,true)::pl) f w:=by
 cases hb:b with
 | true=>rw[hb] at hr;exact p hr (ht hb) hg
 | false=>rw[hb] at hr;exact p hr (hf hb) hg
theorem Qe6 {G:Prop} (b:Bool) (ht:b=true→G) (hf:b=false→G):G:=by cases h:b with | true=>exact ht h | false=>exact hf h
theorem bT {q:Prop}[Decidable q] (h:q):true=decide q:=(decide_eq_true h).symm
theorem bF {q:Prop}[Decidable q] (h:¬q):false=decide q:=(decide_eq_false h).symm
theorem bD {q r:Prop}[Decidable q] [Decidable r] (h:q↔r):decide q=decide r:=decide_eq_decide.2 h
end
section
variable {P:Program} {f:Fr} {w:World} {d:Option Nat} {ty:Nat} {ps:String} {af:Array Edge} {gd:Option (Nat×Bool)} {t:Nat} {x:Operand}
theorem Uh {q:Prop}[Decidable q] (hx:ev f x=.bool (decide q)):(execOp (ev f) ⟨d,.unOp .not t x,ty,ps,af,gd⟩).run P w=.ok (.value (.bool (decide (¬q)))) w:=by
 rw[Zp hx];simp
end
end Go.Lg
namespace Go.Proofs.YtdffckgdcegpaaaGreatDoor
open Go.Lg
structure J0 where
 nm:ByteArray
 co:Bool
 ob:Bool
 fo:Bool
 fl:Int
structure YC where
 nm:ByteArray
 a:QT
structure yf where
 nm:ByteArray
 ls:List (Int×Int)
structure Xb where
 nm:ByteArray
 ts:List (Int×Int)
 bd:Int
structure Zu where
 ev:List J0
 co:List YC
 rq:List YC
 ex:List yf
 cs:List Xb
def Js (n:Nat):LI:=(List.range n).map λi:Nat=>(i:Int)
def nmP (i c:Nat):Prop:=((97≤c∧c≤122)∨(65≤c∧c≤90)∨c=95)∨(i≠0∧48≤c∧c≤57)
instance (i c:Nat):Decidable (nmP i c):=by unfold nmP;infer_instance
def nmQ (s:ByteArray) (i:Nat):Bool:=decide (nmP i (chr s i))
def Yw (s:ByteArray):Bool:=(List.range' 0 s.size).all (nmQ s) && decide (0<s.size∧s.size≤32)
def Y2 (seen:List ByteArray) (e:J0):Int:=if Yw e.nm=false then 7 else if e.nm∈seen then 8 else if e.fl<0∨4<e.fl then 2 else if e.fl≠0∧(e.co || e.ob)=true then 13 else 0
def VF:List ByteArray→List J0→Int
 | _,[]=>0
 | seen,e::l=>if Y2 seen e≠0 then Y2 seen e else VF (seen++[e.nm]) l
def Jc (l:List J0):Int:=if 32<l.length then 3 else VF [] l
def ixs {α:Type}(q:α→Bool):Nat→List α→LI
 | _,[]=>[]
 | i,e::l=>if q e=true then (i:Int)::ixs q (i+1) l else ixs q (i+1) l
def unc (l:List J0):LI:=ixs (λe=>!e.co) 0 l
def YI (sz:LI):Option Int→List (Int×Int)→Int
 | _,[]=>0
 | pr,l::ls=>if l.1<0∨(sz.length:Int)≤l.1 then 2 else if Ut pr l.1=true then 5 else if l.2<0∨cget sz l.1.toNat≤l.2 then 2 else YI sz (some l.1) ls
def XH (sz:LI) (ls:List (Int×Int)):Int:=if ls.length=0 then 12 else YI sz none ls
def grt (n:Int):Bool:=decide (n < -65536) || decide (65536<n)
def Xk (sz:LI):Option Int→List (Int×Int)→Int
 | _,[]=>0
 | pr,l::ls=>if l.1<0∨(sz.length:Int)≤l.1 then 2 else if Ut pr l.1=true then 5 else if l.2=0∨grt l.2=true then 2 else Xk sz (some l.1) ls
def YG (sz:LI) (k:Xb):Int:=if k.ts.length=0 then 12 else if Xk sz none k.ts≠0 then Xk sz none k.ts else if grt k.bd=true then 2 else 0
def JK (seen:List ByteArray) (s:ByteArray):Int:=if Yw s=false then 7 else if s∈seen then 8 else 0
def Z6 (sz:LI):List ByteArray→List yf→Int
 | _,[]=>0
 | seen,x::l=>if JK seen x.nm≠0 then JK seen x.nm else if XH sz x.ls≠0 then XH sz x.ls else Z6 sz (seen++[x.nm]) l
def Yy (sz:LI):List ByteArray→List Xb→Int
 | _,[]=>0
 | seen,x::l=>if JK seen x.nm≠0 then JK seen x.nm else if YG sz x≠0 then YG sz x else Yy sz (seen++[x.nm]) l
def Jm (n:Int):Bool:=decide (n<1) || decide (4096<n)
def Yp (sz:LI) (ex:List yf) (cs:List Xb):Int:=if 8<sz.length then 3 else if sz.any Jm=true then 2 else if 32<ex.length∨32<cs.length then 3 else if Z6 sz [] ex≠0 then Z6 sz [] ex else Yy sz [] cs
def mns (a b:LI):LI:=mrg (λp q=>p && !q) a b
def JE (a:QT):Bool:=decide (Jd a=0) && decide ((Jq a).st=a.st∧(Jq a).al=a.al∧(Jq a).mr=a.mr∧(Jq a).ed=a.ed)
def ZX (nev:Nat) (amg:LI) (seen:List ByteArray) (x:YC):Int :=
 if Yw x.nm=false then 7 else if x.nm∈seen then 8 else if Jd x.a≠0 then Jd x.a else if JE x.a=false then 6 else if x.a.st=0 then 12 else
 if (x.a.al.any λe=>decide ((nev:Int)≤e))=true then 2 else if (mns x.a.al amg).length≠0 then 9 else 0
def Z1 (nev:Nat) (al:LI):List ByteArray→LI→List YC→Int×List ByteArray×LI
 | s,u,[]=>(0,s,u)
 | s,u,x::l=>if ZX nev al s x≠0 then (ZX nev al s x,s,u) else Z1 nev al (s++[x.nm]) (mrg (· || ·) u x.a.al) l
def X2 (nev:Nat) (u:LI):List ByteArray→List YC→Int
 | _,[]=>0
 | s,x::l=>if ZX nev u s x≠0 then ZX nev u s x else X2 nev u (s++[x.nm]) l
def szs (l:List YC):LI:=l.map (·.a.st)
def auts (l:List YC):List QT:=l.map (·.a)
def Zd (c:Zu):Int :=
 if Jc c.ev≠0 then Jc c.ev else if c.co.length=0 then 12 else if 8<c.co.length∨12<c.co.length+c.rq.length then 3 else
 if (Z1 c.ev.length (Js c.ev.length) [] [] c.co).1≠0 then (Z1 c.ev.length (Js c.ev.length) [] [] c.co).1 else
 if X2 c.ev.length (Z1 c.ev.length (Js c.ev.length) [] [] c.co).2.2 (Z1 c.ev.length (Js c.ev.length) [] [] c.co).2.1 c.rq≠0 then X2 c.ev.length (Z1 c.ev.length (Js c.ev.length) [] [] c.co).2.2 (Z1 c.ev.length (Js c.ev.length) [] [] c.co).2.1 c.rq else
 Yp (szs c.co) c.ex c.cs
def J6 (t:LI) (x:yf):Bool:=x.ls.all λl=>decide (t.getD l.1.toNat 0=l.2)
def QjI (t:LI) (k:Xb):Int:=k.ts.foldl (λs p=>s+p.2*t.getD p.1.toNat 0) 0
def Vc (t:LI) (k:Xb):Bool:=decide (k.bd<QjI t k)
def fix {α:Type}(q:α→Bool):Nat→List α→Int
 | _,[]=>-1
 | i,e::l=>if q e=true then (i:Int) else fix q (i+1) l
def vio (c:Zu) (t:LI):Option (Int×Int) :=
 if 0≤fix (J6 t) 0 c.ex then some (1,fix (J6 t) 0 c.ex) else if 0≤fix (Vc t) 0 c.cs then some (2,fix (Vc t) 0 c.cs) else none
def rfr (v:Int):Nat→List YC→LI→Int
 | i,x::l,s::ss=>if v∈x.a.al∧(eget x.a.ed s v).isSome=false then (i:Int) else rfr v (i+1) l ss
 | _,_,_=>-1
structure Rsn where
 st:Int
 kd:Int
 ix:Int
 ev:Int
def rfd (c:Zu) (rs:LI):LI→Option (Int×Int)
 | []=>none
 | v::l=>if 0≤rfr v 0 c.rq rs∧(c.ev.getD v.toNat ⟨.empty,false,false,false,0⟩).co=false then some (rfr v 0 c.rq rs,v) else rfd c rs l
def QcF (a:QT) (s:Int):LI:=(ZH a.ed s).map (·.2.1)
def rsn (c:Zu) (pl:QT) (plc:Int) (i:Nat) (t:LI):Option Rsn :=
 match vio c (t.take c.co.length) with
 | some (k,j)=>some ⟨i,k,j,-1⟩
 | none=>match rfd c (t.drop c.co.length) (QcF pl plc) with
  | some (j,v)=>some ⟨i,3,j,v⟩
  | none=>none
structure Spc where
 a:QT
 co:List (LI)
 rq:List (LI)
 pl:LI
 fb:List Rsn
def plx (ps:List (LI)) (t:LI):Int:=if t∈ps then (ps.idxOf t:Int) else 0
def Qib (c:Zu) (pl:QT) (ps:List (LI)) (s:Spc) (p:LI×Nat):Spc :=
 ⟨s.a,s.co++[p.1.take c.co.length],s.rq++[p.1.drop c.co.length],s.pl++[plx ps (p.1.take c.co.length)],
  match rsn c pl (plx ps (p.1.take c.co.length)) p.2 p.1 with | some r=>s.fb++[r] | none=>s.fb⟩
def Yv (c:Zu):Int:=if Zd c≠0 then Zd c else if K9 (auts c.co)≠0 then K9 (auts c.co) else match sync (auts c.co) with
 | none=>3
 | some _=>if K9 (auts c.co++auts c.rq)≠0 then K9 (auts c.co++auts c.rq) else match sync (auts c.co++auts c.rq) with
  | none=>3
  | some _=>0
def syA (l:List QT):QT:=match sync l with | none=>⟨[],0,[],[]⟩ | some z=>z.1
def syQ (l:List QT):List (LI):=match sync l with | none=>[] | some z=>z.2
def spc (c:Zu):Spc:=(syQ (auts c.co++auts c.rq)).zipIdx.foldl (Qib c (syA (auts c.co)) (syQ (auts c.co))) ⟨syA (auts c.co++auts c.rq),[],[],[],[]⟩
end Go.Proofs.YtdffckgdcegpaaaGreatDoor
namespace Go.Lg
section
variable {P:Program} {f:Fr} {w:World} {d:Option Nat} {ty:Nat} {ps:String} {af:Array Edge} {gd:Option (Nat×Bool)}
end
inductive Pu where
 | pl (l:List (Nat×Bool))
 | f2 (pre:List (Nat×Bool)) (i j:Nat) (t1 t2:Pu)
 | f3 (pre:List (Nat×Bool)) (i j k:Nat) (t1 t2 t3:Pu)
def Pu.len:Pu→Nat
 | .pl l=>l.length
 | .f2 pre _ _ t1 _=>pre.length+(1+t1.len)
 | .f3 pre _ _ _ t1 _ _=>pre.length+(1+t1.len)
def zo (all:Array Oper):Pu→Array Bool→Bool
 | .pl l,ls=>YY all l ls
 | .f2 pre i j t1 t2,ls=>JQ all pre ls && Region.ready .any all (ZU pre ls) == [i,j] && t1.len == t2.len && zo all t1 ((ZU pre ls).setIfInBounds i true) && zo all t2 ((ZU pre ls).setIfInBounds j true)
 | .f3 pre i j k t1 t2 t3,ls=>JQ all pre ls && Region.ready .any all (ZU pre ls) == [i,j,k] && t1.len == t2.len && t1.len == t3.len && zo all t1 ((ZU pre ls).setIfInBounds i true) && zo all t2 ((ZU pre ls).setIfInBounds j true) && zo all t3 ((ZU pre ls).setIfInBounds k true)
def QjO (all:List Oper) (t:Pu):Bool:=Region.noSelect all.toArray && t.len == all.length && zo all.toArray t (Array.replicate all.length false)
def XE (P:Program) (all:List Oper) (C:World→Prop) (i:Nat) (N:Fr→World→Prop) (f:Fr) (w:World):Prop:=Z9 all f (Q4 all i)=true∧XO P (Q4 all i) f w λf' w'=>C w'∧N f' w'
def XU (P:Program) (all:List Oper) (C:World→Prop) (K:Fr→World→Prop):Pu→Fr→World→Prop
 | .pl l=>XP P all C K l
 | .f2 pre i j t1 t2=>XP P all C (λf w=>XE P all C i (XU P all C K t1) f w∧XE P all C j (XU P all C K t2) f w) pre
 | .f3 pre i j k t1 t2 t3=>XP P all C (λf w=>XE P all C i (XU P all C K t1) f w∧XE P all C j (XU P all C K t2) f w∧XE P all C k (XU P all C K t3) f w) pre
section
variable {P:Program} {n:Nat} {f:Fr} {w:World} {all:List Oper} {C:World→Prop} {K B:Fr→World→Prop}
theorem X4 (hs:Region.noSelect all.toArray=true):∀(t:Pu) (ls:Array Bool) (f:Fr) (w:World),ls.size=all.length→C w→zo all.toArray t ls=true→XU P all C K t f w→XA P all C K t.len ls f w
 | .pl l,ls,f,w,hsz,hC,hp,h=>Zx hs l ls f w hsz (.inl hC) hp h
 | .f2 pre i j t1 t2,ls,f,w,hsz,hC,hp,h=>by
  simp only[zo,Bool.and_eq_true,beq_iff_eq] at hp
  obtain ⟨⟨⟨⟨hq,hr⟩,hl⟩,h1⟩,h2⟩:=hp
  rw[Pu.len]
  refine YB (B:=λf w=>XE P all C i (XU P all C K t1) f w∧XE P all C j (XU P all C K t2) f w) hs pre ls f w hC hq (λf hB=>?_) h
  have hsz':∀k,((ZU pre ls).setIfInBounds k true).size=all.length:=λk=>by simp[YD,hsz]
  rw[Nat.add_comm 1]
  refine Jh (λh0=>(by rw[h0] at hr;cases hr)) ?_
  rw[hr]
  intro k hk o ho
  simp only[List.mem_cons,List.not_mem_nil,or_false] at hk
  rcases hk with rfl | rfl
  ·have:=hB.1
   unfold XE at this
   rw[Zk ho] at this
   rw[this.1,cond_true]
   exact this.2.mono λv w' hx=>⟨.inr (.inr hx.1),X4 hs t1 _ _ _ (hsz' _) hx.1 h1 hx.2⟩
  ·have:=hB.2
   unfold XE at this
   rw[Zk ho] at this
   rw[this.1,cond_true,hl]
   exact this.2.mono λv w' hx=>⟨.inr (.inr hx.1),X4 hs t2 _ _ _ (hsz' _) hx.1 h2 hx.2⟩
 | .f3 pre i j k t1 t2 t3,ls,f,w,hsz,hC,hp,h=>by
  simp only[zo,Bool.and_eq_true,beq_iff_eq] at hp
  obtain ⟨⟨⟨⟨⟨⟨hq,hr⟩,hl⟩,hl3⟩,h1⟩,h2⟩,h3⟩:=hp
  rw[Pu.len]
  refine YB (B:=λf w=>XE P all C i (XU P all C K t1) f w∧XE P all C j (XU P all C K t2) f w∧XE P all C k (XU P all C K t3) f w) hs pre ls f w hC hq (λf hB=>?_) h
  have hsz':∀k,((ZU pre ls).setIfInBounds k true).size=all.length:=λk=>by simp[YD,hsz]
  rw[Nat.add_comm 1]
  refine Jh (λh0=>(by rw[h0] at hr;cases hr)) ?_
  rw[hr]
  intro q hk o ho
  simp only[List.mem_cons,List.not_mem_nil,or_false] at hk
  rcases hk with rfl | rfl | rfl
  ·have:=hB.1
   unfold XE at this
   rw[Zk ho] at this
   rw[this.1,cond_true]
   exact this.2.mono λv w' hx=>⟨.inr (.inr hx.1),X4 hs t1 _ _ _ (hsz' _) hx.1 h1 hx.2⟩
  ·have:=hB.2.1
   unfold XE at this
   rw[Zk ho] at this
   rw[this.1,cond_true,hl]
   exact this.2.mono λv w' hx=>⟨.inr (.inr hx.1),X4 hs t2 _ _ _ (hsz' _) hx.1 h2 hx.2⟩
  ·have:=hB.2.2
   unfold XE at this
   rw[Zk ho] at this
   rw[this.1,cond_true,hl3]
   exact this.2.mono λv w' hx=>⟨.inr (.inr hx.1),X4 hs t3 _ _ _ (hsz' _) hx.1 h3 hx.2⟩
theorem QhC {Q:Exit→Fr→World→Prop}{id:Nat}(C:World→Prop) (t:Pu) (hm:P.follows .mixedOrders=true) (hn:XG n all=true) (hp:QjO all t=true)
  (hC:C { w with drawn:=w.drawn+1 }) (h:XU P all C (λf w=>Q .normal f w) t f { w with drawn:=w.drawn+1 }):W P n (.region id all.toArray true) Q f w:=by
 simp only[QjO,Bool.and_eq_true,beq_iff_eq] at hp
 obtain ⟨⟨hs,hl⟩,hp⟩:=hp
 refine Ko C hm hn ?_
 have h1:=X4 hs t _ _ _ (by simp) hC hp h
 rw[hl] at h1
 exact h1
theorem uP {l:List (Nat×Bool)}(h:XP P all C K l f w):XU P all C K (.pl l) f w:=h
theorem u2 {pre:List (Nat×Bool)}{i j:Nat}{t1 t2:Pu}(h:XP P all C (λf w=>XE P all C i (XU P all C K t1) f w∧XE P all C j (XU P all C K t2) f w) pre f w):XU P all C K (.f2 pre i j t1 t2) f w:=h
theorem u3 {pre:List (Nat×Bool)}{i j k:Nat}{t1 t2 t3:Pu}(h:XP P all C (λf w=>XE P all C i (XU P all C K t1) f w∧XE P all C j (XU P all C K t2) f w∧XE P all C k (XU P all C K t3) f w) pre f w):XU P all C K (.f3 pre i j k t1 t2 t3) f w:=h
theorem ue {i:Nat}{N:Fr→World→Prop}(h:XO P (Q4 all i) f w λf' w'=>C w'∧N f' w') (hg:Z9 all f (Q4 all i)=true:=by rfl):XE P all C i N f w:=⟨hg,h⟩
end
attribute [irreducible] XU XE
open Go.RowKit
abbrev fen (ro:Option Nat):Fence:={ Fence.wide with round:=ro }
def coll (ds:LN):List Deferred:=ds.map λD=>{ target:=.collected D,args:=#[] }
structure Yn (n:Nat) (ds:LN) (a:Act) (f:Fr):Prop where
 size:a.tmps.size=n
 defers:a.defers=coll ds
 get:∀t,a.tmps.getD t undef=f t
theorem Yn.rel {n:Nat} {ds:LN} {a:Act} {f:Fr} (h:Yn n ds a f):yd n { a with defers:=[] } f:=⟨h.size,rfl,h.get⟩
theorem Yn.eval {n:Nat}{ds:LN}{a:Act}{f:Fr}(h:Yn n ds a f):a.eval=ev f:=by
 have:=h.rel.eval
 rw[←this];funext x;cases x <;> rfl
theorem Yn.put {n:Nat}{ds:LN}{a:Act}{f:Fr}(h:Yn n ds a f) {dst:Option Nat}(hd:∀d,dst=some d→d<n) (v:Value):Yn n ds (a.put dst v) (QX f dst v):=by
 have:=h.rel.put hd v
 cases dst with
 | none=>exact h
 | some d=>exact ⟨this.size,h.defers,this.get⟩
def YX:Code→Nat→Bool
 | .region _ ops _,t=>ZC ops.toList t
 | .seq a b,t=>YX a t || YX b t
 | .cond _ a b,t=>YX a t || YX b t
 | .block _ a,t=>YX a t
 | .loop a,t=>YX a t
 | .skip,_ | .exit _,_ | .label _,_ | .goto _,_ | .ret,_ | .rangeFunc ..,_=>false
 | _,_=>true
def jH (D:List (Nat×Nat)):Code→Bool
 | .region _ ops _=>QaL D ops.toList
 | .seq a b=>jH D a && jH D b
 | .cond _ a b=>jH D a && jH D b
 | .block _ a=>jH D a
 | .loop a=>jH D a
 | .skip | .exit _ | .label _ | .goto _ | .ret | .rangeFunc ..=>true
 | _=>false
theorem Xv {D:List (Nat×Nat)}{t:Nat}(ht:Xf D t=false):∀c:Code,jH D c=true→YX c t=false
 | .region _ ops _,h=>qh h ht
 | .seq a b,h=>by simp only[jH,Bool.and_eq_true] at h;simp[YX,Xv ht a h.1,Xv ht b h.2]
 | .cond _ a b,h=>by simp only[jH,Bool.and_eq_true] at h;simp[YX,Xv ht a h.1,Xv ht b h.2]
 | .block _ a,h=>Xv ht a (by simpa[jH] using h)
 | .loop a,h=>Xv ht a (by simpa[jH] using h)
 | .skip,_=>rfl
 | .exit _,_=>rfl
 | .label _,_=>rfl
 | .goto _,_=>rfl
 | .ret,_=>rfl
 | .rangeFunc ..,_=>rfl
 | .scope _,h=>by simp[jH] at h
 | .refuse _,h=>by simp[jH] at h
def WG (ro:Option Nat) (m:Nat) (P:Program) (n:Nat) (c:Code) (Q:Exit→LN→Fr→World→Prop) (ds:LN) (f:Fr) (w:World):Prop :=
 ∀a,Yn n ds a f→c.wpIn (fen ro) m P (λe a' w'=>∃ds' f',Yn n ds' a' f'∧(∀t,YX c t=false→f' t=f t)∧Q e ds' f' w') a w
def jK (K:LN→Fr→World→Prop) (Q:Exit→LN→Fr→World→Prop):Exit→LN→Fr→World→Prop
 | .normal,ds,f,w=>K ds f w
 | e,ds,f,w=>Q e ds f w
def Qki (id:Nat) (Q:Exit→LN→Fr→World→Prop):Exit→LN→Fr→World→Prop
 | .exit i,ds,f,w=>bif Nat.beq i id then Q .normal ds f w else Q (.exit i) ds f w
 | e,ds,f,w=>Q e ds f w
section
variable {ro:Option Nat} {m:Nat} {P:Program} {n:Nat} {Q:Exit→LN→Fr→World→Prop} {ds:LN} {f:Fr} {w:World}
theorem WG.mono {c:Code}{Q':Exit→LN→Fr→World→Prop}(h:WG ro m P n c Q ds f w) (hq:∀e ds f w,Q e ds f w→Q' e ds f w):WG ro m P n c Q' ds f w :=
 λa ha=>wpIn_mono (h a ha) λ_ _ _ ⟨ds',f',h1,h2,h3⟩=>⟨ds',f',h1,h2,hq _ _ _ _ h3⟩
theorem WG.keeps {c:Code}(h:WG ro m P n c Q ds f w):WG ro m P n c (λe ds' f' w'=>(∀t,YX c t=false→f' t=f t)∧Q e ds' f' w') ds f w :=
 λa ha=>wpIn_mono (h a ha) λ_ _ _ ⟨ds',f',h1,h2,h3⟩=>⟨ds',f',h1,h2,h2,h3⟩
theorem Z7 (h:Q .normal ds f w):WG ro m P n .skip Q ds f w:=λ_ ha=>wpIn_skip ⟨ds,f,ha,λ_ _=>rfl,h⟩
theorem JP {i:Nat}(h:Q (.exit i) ds f w):WG ro m P n (.exit i) Q ds f w:=λ_ ha=>wpIn_exit ⟨ds,f,ha,λ_ _=>rfl,h⟩
theorem JO (h:Q .ret ds f w):WG ro m P n .ret Q ds f w:=λ_ ha=>wpIn_ret ⟨ds,f,ha,λ_ _=>rfl,h⟩
theorem QZ {x y:Code}(h:WG ro m P n x (jK (λds f w=>WG ro m P n y Q ds f w) Q) ds f w):WG ro m P n (.seq x y) Q ds f w:=by
 intro a ha
 refine wpIn_seq (wpIn_mono (h a ha) ?_)
 rintro e a' w' ⟨ds',f',h1,h2,h3⟩
 have k1:∀t,YX (.seq x y) t=false→f' t=f t:=λt ht=>h2 t (by simp only[YX,Bool.or_eq_false_iff] at ht;exact ht.1)
 cases e with
 | normal =>
  refine wpIn_mono (h3 a' h1) λ_ _ _ ⟨ds'',f'',g1,g2,g3⟩=>⟨ds'',f'',g1,λt ht=>(g2 t ?_).trans (k1 t ht),g3⟩
  simp only[YX,Bool.or_eq_false_iff] at ht;exact ht.2
 | exit id=>exact ⟨ds',f',h1,k1,h3⟩
 | goto l=>exact ⟨ds',f',h1,k1,h3⟩
 | ret=>exact ⟨ds',f',h1,k1,h3⟩
 | panic ch=>exact ⟨ds',f',h1,k1,h3⟩
 | outgrown=>exact ⟨ds',f',h1,k1,h3⟩
theorem QbW {α:Type}{x y:Code}(D:List (Nat×Nat)) (S:α→List (Nat×Value)) (I:α→LN→World→Prop) (hD:jH D x=true)
  (h1:WG ro m P n x (jK (λds' f' w'=>∃z,Xm f' (S z)∧I z ds' w') Q) ds f w)
  (h2:∀z g ds' w',I z ds' w'→WG ro m P n y Q ds' (zb (S z) (mix D f g)) w'):WG ro m P n (.seq x y) Q ds f w:=by
 refine QZ (h1.keeps.mono ?_)
 rintro e ds' f' w' ⟨hk,hq⟩
 cases e with
 | normal =>
  obtain ⟨z,hs,hi⟩:=hq
  have h3:=h2 z f' ds' w' hi
  rw[JA (λt ht=>hk t (Xv ht x hD)),YJ hs] at h3
  exact h3
 | exit id=>exact hq
 | goto l=>exact hq
 | ret=>exact hq
 | panic ch=>exact hq
 | outgrown=>exact hq
theorem Kq {c:Operand}{x y:Code}{t:Bool}(hc:ev f c=.bool t) (ht:t=true→WG ro m P n x Q ds f w) (hf:t=false→WG ro m P n y Q ds f w) :
  WG ro m P n (.cond c x y) Q ds f w:=by
 intro a ha
 have hc':a.eval c=.bool t:=by rw[ha.eval];exact hc
 refine wpIn_cond_split hc' (λe=>wpIn_mono (ht e a ha) ?_) (λe=>wpIn_mono (hf e a ha) ?_) <;>
  (rintro e a' w' ⟨ds',f',h1,h2,h3⟩
   refine ⟨ds',f',h1,λt ht=>h2 t ?_,h3⟩
   simp only[YX,Bool.or_eq_false_iff] at ht
   first | exact ht.1 | exact ht.2)
theorem QhH {c:Operand}{x y:Code}{p:Prop}[Decidable p] (hc:ev f c=.bool (decide p)) (ht:p→WG ro m P n x Q ds f w) (hf:¬p→WG ro m P n y Q ds f w) :
  WG ro m P n (.cond c x y) Q ds f w :=
 Kq hc (λe=>ht (of_decide_eq_true e)) (λe=>hf (of_decide_eq_false e))
theorem q6 {c:Operand}{x y:Code}{p:Prop}[Decidable p] (hc:ev f c=.bool (decide p)) (hf:¬p→WG ro m P n y Q ds f w) (ht:p→WG ro m P n x Q ds f w) :
  WG ro m P n (.cond c x y) Q ds f w:=QhH hc ht hf
theorem z7 {c:Operand}{x y:Code}(hc:ev f c=.bool true) (h:WG ro m P n x Q ds f w):WG ro m P n (.cond c x y) Q ds f w:=Kq hc (λ_=>h) (λe=>by cases e)
theorem JZ {c:Operand}{x y:Code}(hc:ev f c=.bool false) (h:WG ro m P n y Q ds f w):WG ro m P n (.cond c x y) Q ds f w:=Kq hc (λe=>by cases e) (λ_=>h)
theorem Zz {id:Nat}{c:Code}(h:WG ro m P n c (Qki id Q) ds f w):WG ro m P n (.block id c) Q ds f w:=by
 intro a ha
 refine wpIn_block (wpIn_mono (h a ha) ?_)
 rintro e a' w' ⟨ds',f',h1,h2,h3⟩
 have k1:∀t,YX (.block id c) t=false→f' t=f t:=λt ht=>h2 t (by simpa[YX] using ht)
 cases e with
 | exit i =>
  simp only[Exit.inBlock]
  simp only[Qki] at h3
  by_cases hi:i=id
  ·subst hi
   simp only[Nat.beq_refl,cond_true] at h3
   simp only[if_true]
   exact ⟨ds',f',h1,k1,h3⟩
  ·have hb:Nat.beq i id=false:=by
    cases e:Nat.beq i id with
    | false=>rfl
    | true=>exact absurd (Nat.eq_of_beq_eq_true e) hi
   rw[hb] at h3
   rw[if_neg hi]
   exact ⟨ds',f',h1,k1,h3⟩
 | normal=>exact ⟨ds',f',h1,k1,h3⟩
 | goto l=>exact ⟨ds',f',h1,k1,h3⟩
 | ret=>exact ⟨ds',f',h1,k1,h3⟩
 | panic ch=>exact ⟨ds',f',h1,k1,h3⟩
 | outgrown=>exact ⟨ds',f',h1,k1,h3⟩
end
def yE (l:List Oper):Bool:=l.all λo=>match o.op with | .defer _=>false | _=>true
theorem Kc {l:List Oper}(h:yE l=true):∀o∈l,∀c,o.op≠.defer c:=λo ho c e=>by
 have:=List.all_eq_true.1 h o ho
 rw[e] at this;cases this
section
variable {ro:Option Nat} {m:Nat} {P:Program} {n:Nat} {ds:LN}
theorem QbQ {o:Oper}{a:Act}{f:Fr}{w:World}{K:Fr→World→Prop}{K':Act→World→Prop}{Q:Exit→Act→World→Prop}(h:Yn n ds a f) (hnd:∀c,o.op≠.defer c)
  (hK:∀v w',K (QX f o.dst v) w'→K' (a.put o.dst v) w') (hx:XO P o f w K):o.wpIn (fen ro) m P a w K' Q:=by
 unfold XO at hx
 refine ⟨λ_ _=>trivial,?_⟩
 have e:Oper.semAt (fen ro).round a.eval o=execOp (ev f) o:=by
  rw[h.eval]
  cases ro with
  | none=>rfl
  | some l=>exact Oper.semAt_some l _ _ hnd
 rw[e]
 generalize (execOp (ev f) o).run P w=r at hx
 cases r with
 | ok nx w' =>
  cases nx <;> simp only[upF] at hx <;> simp only[Oper.uponIn]
  case value v=>exact hK v w' hx
  case skip=>exact hK _ w' hx
  case enter g args =>
   refine ⟨λh=>by simp[Fence.wide] at h,?_⟩
   refine (callsIn_wide (n:=m - 1)).2 (Calls.mono hx λe w'' he=>?_)
   cases e with
   | returned v=>exact hK v w'' he
   | panicked c=>exact he.elim
   | outgrown=>exact he.elim
 | halt x w'=>exact hx.elim
theorem J5 {l:List Oper}{a:Act}{f:Fr}(h:Yn n ds a f) (hn:∀o∈l,∀d,o.dst=some d→d<n) (o:Oper):Region.wanted o (yielded l.toArray a.tmps)=Z9 l f o:=Vb h.rel hn o
theorem QbS {Q:Exit→LN→Fr→World→Prop}{all:List Oper}(hn:∀o∈all,∀d,o.dst=some d→d<n) (hd:∀o∈all,∀c,o.op≠.defer c) (f0:Fr) :
  ∀(l:List Oper) (k:Nat) (a:Act) (f:Fr) (w:World),(∀j,l[j]?=all[k+j]?)→Yn n ds a f→(∀t,ZC all t=false→f t=f0 t) →
   XL P all (λf w=>Q .normal ds f w) l f w →
   wpOpsIn (fen ro) m P all.toArray (λe a' w'=>∃ds' f',Yn n ds' a' f'∧(∀t,ZC all t=false→f' t=f0 t)∧Q e ds' f' w') (List.range' k l.length) a w
 | [],_,a,f,w,_,hr,hk,h=>⟨ds,f,hr,hk,by unfold XL at h;exact h⟩
 | o::l,k,a,f,w,hl,hr,hk,h=>by
  have h0:all[k]?=some o:=by simpa using (hl 0).symm
  have hmem:o∈all:=List.mem_of_getElem? h0
  have ih:=λa f w=>QbS (Q:=Q) hn hd f0 l (k+1) a f w (λj=>by have:=hl (j+1);simpa[Nat.add_assoc,Nat.add_comm 1 j] using this)
  have next:∀v,(∀t,ZC all t=false→QX f o.dst v t=f0 t):=λv t ht=>(YK (Xc hmem ht) v).trans (hk t ht)
  simp only[List.length_cons,List.range'_succ,wpOpsIn,List.getElem?_toArray,h0]
  rw[J5 hr hn o]
  unfold XL at h
  cases hg:Z9 all f o with
  | false =>
   rw[hg] at h
   exact ⟨λ_ _=>trivial,ih _ _ _ (hr.put (hn o hmem) _) (next _) h⟩
  | true =>
   rw[hg] at h
   exact QbQ hr (hd o hmem) (λv w' hx=>ih _ _ _ (hr.put (hn o hmem) v) (next v) hx) h
theorem QK {Q:Exit→LN→Fr→World→Prop}{f:Fr}{w:World}{id:Nat}{l:List Oper}(hn:XG n l=true) (hd:yE l=true) (h:XL P l (λf w=>Q .normal ds f w) l f w):WG ro m P n (.region id l.toArray false) Q ds f w:=by
 intro a ha
 refine wpIn_region ?_
 have:=QbS (ro:=ro) (m:=m) (Yx hn) (Kc hd) f l 0 a f w (by simp) ha (λ_ _=>rfl) h
 simpa[List.range_eq_range',YX] using this
attribute [local semireducible] XA in
theorem V5 {Q:Exit→Act→World→Prop}{all:List Oper}{C:World→Prop}{K:Fr→World→Prop}(hn:∀o∈all,∀d,o.dst=some d→d<n) (hd:∀o∈all,∀c,o.op≠.defer c) (f0:Fr)
  (hQ:∀a f w,Yn n ds a f→(∀t,ZC all t=false→f t=f0 t)→K f w→Q .normal a w) :
  ∀(k:Nat) (ls:Array Bool) (a:Act) (f:Fr) (w:World),Yn n ds a f→(∀t,ZC all t=false→f t=f0 t)→XA P all C K k ls f w→wpAnyIn (fen ro) m P .any all.toArray Q k ls a w
 | 0,_,a,f,w,hr,hk,h=>⟨h.1,hQ a f w hr hk h.2⟩
 | k+1,ls,a,f,w,hr,hk,h=>by
  refine ⟨λh0=>hQ a f w hr hk (h.1 h0),λi hi=>?_⟩
  unfold wpOpIn
  simp only[List.getElem?_toArray]
  cases ho:all[i]? with
  | none =>
   exfalso
   obtain ⟨_,o,hoo,_⟩:=mem_ready.1 hi
   simp[ho] at hoo
  | some o =>
   have hmem:o∈all:=List.mem_of_getElem? ho
   have h1:=h.2 i hi o ho
   have next:∀v,(∀t,ZC all t=false→QX f o.dst v t=f0 t):=λv t ht=>(YK (Xc hmem ht) v).trans (hk t ht)
   simp only[]
   rw[J5 hr hn o]
   cases hg:Z9 all f o with
   | false =>
    rw[hg] at h1
    exact ⟨λ_ _=>trivial,V5 hn hd f0 hQ k _ _ _ _ (hr.put (hn o hmem) _) (next _) h1⟩
   | true =>
    rw[hg] at h1
    exact QbQ hr (hd o hmem) (λv w' hx=>V5 hn hd f0 hQ k _ _ _ _ (hr.put (hn o hmem) v) (next v) hx.2) h1
theorem UW {Q:Exit→LN→Fr→World→Prop}{f:Fr}{w:World}{all:List Oper}{id:Nat}(C:World→Prop) (pl:List (Nat×Bool)) (hm:P.follows .mixedOrders=true) (hn:XG n all=true) (hd:yE all=true) (hp:zq all pl=true)
  (hC:C { w with drawn:=w.drawn+1 }) (h:XP P all C (λf w=>Q .normal ds f w) pl f { w with drawn:=w.drawn+1 }):WG ro m P n (.region id all.toArray true) Q ds f w:=by
 intro a ha
 simp only[zq,Bool.and_eq_true,beq_iff_eq] at hp
 obtain ⟨⟨hs,hl⟩,hp⟩:=hp
 refine wpIn_region_any hm ?_
 have h1:=Zx hs pl _ _ _ (by simp) (.inl hC) hp h
 rw[hl] at h1
 have h2:=V5 (ro:=ro) (m:=m) (n:=n) (ds:=ds) (Q:=λe a' w'=>∃ds' f',Yn n ds' a' f'∧(∀t,ZC all t=false→f' t=f t)∧Q e ds' f' w') (Yx hn) (Kc hd) f
  (λa f' w hr hk hq=>⟨ds,f',hr,hk,hq⟩) _ _ a f _ ha (λ_ _=>rfl) h1
 simpa[YX] using h2
end
section
variable {ro:Option Nat} {m:Nat} {P:Program} {n:Nat} {Q:Exit→LN→Fr→World→Prop} {ds:LN} {f:Fr} {w:World}
theorem VK {α:Type}{F:Fence}{c:Code}{Q:Exit→Act→World→Prop}{a:Act}{w:World}(J:α→Act→World→Prop) (μ:α→Nat) (z:α) (h₀:J z a w)
  (round:∀x a w,J x a w→c.wpIn F m P (Exit.then (λa' w'=>∃x',μ x'<μ x∧J x' a' w') Q) a w):(Code.loop c).wpIn F m P Q a w:=by
 intro b k cs hro hb hr
 have key:∀j x a w,μ x=j→J x a w →
   ∃e a' w',Q e a' w'∧ArrivesIn (Machine.fenced P F) P (lone (b.atR a (.code c::.inLoop c::k)) cs w) b k cs e a' w':=by
  intro j
  induction j using Nat.strongRecOn with
  | _ j ih =>
   intro x a w hn hJ
   obtain ⟨e,a₁,w₁,hq,harr⟩:=round x a w hJ b (.inLoop c::k) cs hro hb hr
   cases e with
   | normal =>
    obtain ⟨x',hlt,hJ'⟩:=hq
    obtain ⟨e₂,a₂,w₂,hq₂,harr₂⟩:=ih (μ x') (hn ▸ hlt) x' a₁ w₁ rfl hJ'
    exact ⟨e₂,a₂,w₂,hq₂,.of_steps (StepsIn.trans harr (.one (fenced_calm hb hr rfl) stepR_inLoop)) harr₂⟩
   | exit id=>exact ⟨_,a₁,w₁,hq,.pass (x:=.inLoop c) rfl (λ_ _=>.inl (by simp)) harr⟩
   | goto l=>exact ⟨_,a₁,w₁,hq,.pass (x:=.inLoop c) rfl (λ_ _=>.inl (by simp)) harr⟩
   | ret=>exact ⟨_,a₁,w₁,hq,.pass (x:=.inLoop c) rfl (λ_ _=>.inl (by simp)) harr⟩
   | panic ch=>exact ⟨_,a₁,w₁,hq,.pass (x:=.inLoop c) rfl (λ_ _=>.inl (by simp)) harr⟩
   | outgrown=>exact ⟨_,a₁,w₁,hq,.pass (x:=.inLoop c) rfl (λ_ _=>.inl (by simp)) harr⟩
 obtain ⟨e,a',w',hq,harr⟩:=key _ z a w rfl h₀
 exact ⟨e,a',w',hq,.of_steps (.one (fenced_calm hb hr rfl) stepR_loop) harr⟩
theorem VA {α:Type}{c:Code}(D:List (Nat×Nat)) (S:α→List (Nat×Value)) (I:α→LN→World→Prop) (μ:α→Nat) (hD:jH D c=true) (z:α)
  (h0:Xm f (S z)) (hI:I z ds w)
  (round:∀x g ds' w',I x ds' w'→WG ro m P n c (jK (λds'' f' w''=>∃x',μ x'<μ x∧Xm f' (S x')∧I x' ds'' w'') Q) ds' (zb (S x) (mix D f g)) w'):WG ro m P n (.loop c) Q ds f w:=by
 intro a ha
 refine VK (λ(x:α) a' w'=>∃ds' f',Yn n ds' a' f'∧(∀t,YX c t=false→f' t=f t)∧Xm f' (S x)∧I x ds' w') μ z ⟨ds,f,ha,λ_ _=>rfl,h0,hI⟩ ?_
 rintro x a' w' ⟨ds',f',h1,h2,h3,h4⟩
 have h5:=round x f' ds' w' h4
 rw[JA (λt ht=>h2 t (Xv ht c hD)),YJ h3] at h5
 refine wpIn_mono (h5 a' h1) ?_
 rintro e a'' w'' ⟨ds'',f'',g1,g2,g3⟩
 have k1:∀t,YX c t=false→f'' t=f t:=λt ht=>(g2 t ht).trans (h2 t ht)
 have k2:∀t,YX (.loop c) t=false→f'' t=f t:=λt ht=>k1 t (by simpa[YX] using ht)
 cases e with
 | normal=>obtain ⟨x',hm,hs,hi⟩:=g3;exact ⟨x',hm,ds'',f'',g1,k1,hs,hi⟩
 | exit id=>exact ⟨ds'',f'',g1,k2,g3⟩
 | goto l=>exact ⟨ds'',f'',g1,k2,g3⟩
 | ret=>exact ⟨ds'',f'',g1,k2,g3⟩
 | panic ch=>exact ⟨ds'',f'',g1,k2,g3⟩
 | outgrown=>exact ⟨ds'',f'',g1,k2,g3⟩
end
def rqG (P:Program) (rs:List ResultVar) (R:Value→World→Prop):Exit→LN→Fr→World→Prop
 | .normal,ds,f,w=>(∀D∈ds,w.heap[D]?=some (.deferred (some [])))∧ds.Nodup∧∃vs,∀w',Step ds w w'→K7 P f w' rs vs∧R (tup vs) w'
 | .ret,ds,f,w=>(∀D∈ds,w.heap[D]?=some (.deferred (some [])))∧ds.Nodup∧∃vs,∀w',Step ds w w'→K7 P f w' rs vs∧R (tup vs) w'
 | _,_,_,_=>False
theorem Step.putObj (w:World) (D:Nat) (o:Obj):Step [D] w (w.putObj D o):=⟨rfl,rfl,rfl,by simp,λk _ hk=>World.putObj_heap_other (λe=>hk (by simp[e]))⟩
theorem Us {F:Fence}{m:Nat}{P:Program}{fn:Func}{tmps:Array Value}{R:Ending→World→Prop}:∀(ds:LN) (w:World),(∀D∈ds,w.heap[D]?=some (.deferred (some [])))→ds.Nodup →
  (∀w',Step ds w w'→∃v,(results fn tmps).run P w'=.ok v w'∧R (.returned v) w')→LeavesInM F m P fn tmps R (coll ds) .returning w
 | [],w,_,_,h=>h w (Step.refl _ _)
 | D::ds,w,hD,hn,h=>by
  refine ⟨by simp,.inl ⟨D,_,rfl,run_takeDeferred (hD D List.mem_cons_self),?_⟩⟩
  have hs:=Step.putObj w D (.deferred none)
  have hn':=List.nodup_cons.1 hn
  refine Us ds _ (λE hE=>?_) hn'.2 (λw' hw'=>h w' ?_)
  ·rw[World.putObj_heap_other (λe=>hn'.1 (by rw[←e];exact hE))]
   exact hD E (List.mem_cons_of_mem _ hE)
  ·exact (hs.mono (λb hb=>by simp at hb;simp[hb])).trans' (hw'.mono (λb hb=>List.mem_cons_of_mem _ hb))
theorem QL.of_G {P:Program}{g:Nat}{fn:Func}{c:Code}{args:LV}{w:World}{R:Value→World→Prop}{n:Nat}{rs:List ResultVar}(m:Nat)
  (hf:P.funcs[g]?=some fn) (hb:fn.body=some c) (hn:fn.ntmps=n) (hrs:fn.results=rs.toArray) (hl:args.length≤n)
  (h:WG none m P n c (rqG P rs R) [] (ent args) w):QL P g args w R:=by
 unfold QL
 refine (callsIn_wide (n:=m)).1 (callsIn_of_wp_marks hf hb trivial (wpIn_mono (h _ ?_) ?_))
 ·refine ⟨by simp[hn];omega,rfl,λt=>?_⟩
  have key:∀(l:LV) (t:Nat),l[t]?.getD undef=ent l t:=by
   intro l
   induction l with
   | nil=>intro t;rfl
   | cons v l ih=>intro t;cases t with | zero=>rfl | succ t=>simpa[ent] using ih t
  rw[←key]
  simp only[Array.getD_eq_getD_getElem?,Array.getElem?_append,List.size_toArray,List.getElem?_toArray]
  by_cases ht:t<args.length
  ·simp[ht]
  ·simp[ht,Array.getElem?_replicate];split <;> rfl
 ·rintro e a' w' ⟨ds',f',h1,_,h3⟩
  have fin:((∀D∈ds',w'.heap[D]?=some (.deferred (some [])))∧ds'.Nodup∧∃vs,∀w'',Step ds' w' w''→K7 P f' w'' rs vs∧R (tup vs) w'') →
    LeavesInM Fence.wide m P fn a'.tmps (λe w'=>match e with | .returned v=>R v w' | _=>False) a'.defers .returning w':=by
   rintro ⟨hd,hnd,vs,hv⟩
   rw[h1.defers]
   refine Us ds' w' hd hnd λw'' hw=>⟨tup vs,?_,(hv w'' hw).2⟩
   simp only[results,hrs,List.mapM_toArray,Sem.run_bind,Sem.run_map]
   rw[Xx (a:={ a' with defers:=[] }) h1.rel _ (λ_=>rfl) (λ_ _=>rfl) rs vs (hv w'' hw).1]
   cases vs with
   | nil=>rfl
   | cons v vs=>cases vs with | nil=>rfl | cons u us=>rfl
  cases e with
  | normal=>exact fin h3
  | ret=>exact fin h3
  | exit id=>exact h3.elim
  | goto l=>exact h3.elim
  | panic c=>exact h3.elim
  | outgrown=>exact h3.elim
attribute [irreducible] WG
end Go.Lg
namespace Go.Proofs.YtdffckgdcegpaaaGreatDoor
open Go.Proofs.Tryz
open Go.Lg
def IxQ {α:Type}(q:α→Bool) (es:List α) (r:Value):Prop:=(r=.int .i64 (-1)∧∀m (hm:m<es.length),q (es[m]'hm)=false)∨∃(i:Nat) (hi:i<es.length),r=.int .i64 i∧q (es[i]'hi)=true∧∀m (hm:m<i),q (es[m]'(by omega))=false
theorem Qg2 {g:Nat}{fn:Func}[Fu prog g fn] {cap:LV}{q:Ed→Bool}{L:LN}{w:World}{v:Value}{es:List Ed}(h:UX L w.heap v es)
  (hk:∀(e:Ed) (w1:World),Step [] w w1→QL prog g ([.agg (Qy e).toArray]++cap) w1 λr w'=>r=.bool (q e)∧Step [] w1 w') :
  QL prog 157 [v,.func (.func g) #[] cap.toArray] w λr w'=>Step [] w w'∧IxQ q es r:=by
 have hle:=h.le
 refine QL.of_W func157 rfl ntmps157 results157 (by simp) ?_
 refine Qc<|Qe<|Qf<|Qc<|Qb<|x (Qs h rfl)<|Qb<|xe ?_
 refine Qg<|QC (α:=Nat) [(4,5),(8,18)] (λz=>[(8,.int .i64 z)]) (λz w'=>z≤es.length∧Step [] w w'∧∀m (hm:m<es.length),m<z→q (es[m]'hm)=false) (λz=>es.length - z) (by rfl) 0 ⟨rfl,trivial⟩ ⟨Nat.zero_le _,Step.refl _ _,λm _ h0=>absurd h0 (Nat.not_lt_zero m)⟩ ?_
 rintro k g1 w1 ⟨hk1,hs1,hq⟩
 refine Qc<|x (QB rfl rfl)<|xe ?_
 refine Qf<|QH rfl (λh9=>?_) (λh9=>?_)
 ·refine Qz ?_
  refine Qc<|Qe ?_
  exact Qm ⟨[.int .i64 (-1)],⟨rfl,trivial⟩,hs1,.inl ⟨rfl,λm hm=>hq m hm (by omega)⟩⟩
 have hlt:k<es.length:=by omega
 refine Qi<|Qf<|Qg<|Qc<|Qb<|Qe<|Qc<|Qb<|Qb<|Qb<|xie (h.ext hs1) rfl rfl hlt λa14 h14=>x (QJ h14 rfl rfl)<|xl rfl<|xc (first:=[]) (capt:=cap) rfl<|(hk (es[k]'hlt) w1 hs1).mono ?_
 rintro r2 w2 ⟨rfl,hs2⟩
 refine xe ?_
 refine Q2 rfl (λh16=>?_) (λh16=>?_)
 ·refine Qc<|Qb<|Qe ?_
  exact Qm ⟨[.int .i64 k],⟨rfl,trivial⟩,hs1.trans hs2,.inr ⟨k,hlt,rfl,h16,λm hm=>hq m (by omega) hm⟩⟩
 refine Qi<|Qw<|x (Qx rfl rfl ⟨by omega,by omega⟩)<|Qb<|xe ?_
 refine ⟨k+1,by omega,⟨rfl,trivial⟩,hlt,hs1.trans hs2,λm hm hmk=>?_⟩
 by_cases e:m=k
 ·subst e;exact h16
 ·exact hq m hm (by omega)
theorem Qg1 {g:Nat}{fn:Func}[Fu prog g fn] {cap:LV}{q:Int→Bool}{L:LN}{w:World}{v:Value}{es:LI}(h:QM L w.heap v es)
  (hk:∀(e:Int) (w1:World),Step [] w w1→QL prog g ([.int .i64 e]++cap) w1 λr w'=>r=.bool (q e)∧Step [] w1 w') :
  QL prog 131 [v,.func (.func g) #[] cap.toArray] w λr w'=>Step [] w w'∧IxQ q es r:=by
 have hle:=h.le
 refine QL.of_W func131 rfl ntmps131 results131 (by simp) ?_
 refine Qc<|Qe<|Qf<|Qc<|Qb<|x (Qs h rfl)<|Qb<|xe ?_
 refine Qg<|QC (α:=Nat) [(4,5),(8,18)] (λz=>[(8,.int .i64 z)]) (λz w'=>z≤es.length∧Step [] w w'∧∀m (hm:m<es.length),m<z→q (es[m]'hm)=false) (λz=>es.length - z) (by rfl) 0 ⟨rfl,trivial⟩ ⟨Nat.zero_le _,Step.refl _ _,λm _ h0=>absurd h0 (Nat.not_lt_zero m)⟩ ?_
 rintro k g1 w1 ⟨hk1,hs1,hq⟩
 refine Qc<|x (QB rfl rfl)<|xe ?_
 refine Qf<|QH rfl (λh9=>?_) (λh9=>?_)
 ·refine Qz ?_
  refine Qc<|Qe ?_
  exact Qm ⟨[.int .i64 (-1)],⟨rfl,trivial⟩,hs1,.inl ⟨rfl,λm hm=>hq m hm (by omega)⟩⟩
 have hlt:k<es.length:=by omega
 refine Qi<|Qf<|Qg<|Qc<|Qb<|Qe<|Qc<|Qb<|Qb<|Qb<|xii (h.ext hs1) rfl rfl hlt λa14 h14=>x (Qv h14 rfl)<|xl rfl<|xc (first:=[]) (capt:=cap) rfl<|(hk (es[k]'hlt) w1 hs1).mono ?_
 rintro r2 w2 ⟨rfl,hs2⟩
 refine xe ?_
 refine Q2 rfl (λh16=>?_) (λh16=>?_)
 ·refine Qc<|Qb<|Qe ?_
  exact Qm ⟨[.int .i64 k],⟨rfl,trivial⟩,hs1.trans hs2,.inr ⟨k,hlt,rfl,h16,λm hm=>hq m (by omega) hm⟩⟩
 refine Qi<|Qw<|x (Qx rfl rfl ⟨by omega,by omega⟩)<|Qb<|xe ?_
 refine ⟨k+1,by omega,⟨rfl,trivial⟩,hlt,hs1.trans hs2,λm hm hmk=>?_⟩
 by_cases e:m=k
 ·subst e;exact h16
 ·exact hq m hm (by omega)
theorem QbE {g:Nat}{fn:Func}[Fu prog g fn] {cap:LV}{q:Int→Bool}{L:LN}{w:World}{v:Value}{es:LI}(h:QM L w.heap v es)
  (hk:∀(e:Int) (w1:World),Step [] w w1→QL prog g ([.int .i64 e]++cap) w1 λr w'=>r=.bool (q e)∧Step [] w1 w') :
  QL prog 135 [v,.func (.func g) #[] cap.toArray] w λr w'=>r=.bool (es.any q)∧Step [] w w':=by
 refine QL.of_W func135 rfl ntmps135 results135 (by simp) ?_
 refine Qc<|Qe<|Qc<|Qb<|Qb<|xl rfl<|xf<|(Qg1 h hk).mono ?_
 rintro r1 w1 ⟨hs1,hr⟩
 refine Or.elim hr (λhr=>?_) (λhr=>?_)
 ·obtain ⟨rfl,hq⟩:=hr
  have e:es.any q=false:=by
   rw[List.any_eq_false]
   intro z hz
   obtain ⟨i,hi,rfl⟩:=List.getElem_of_mem hz
   rw[hq i hi];simp
  refine x (ZN rfl rfl)<|Qe ?_
  exact Qm ⟨[.bool false],⟨rfl,trivial⟩,by rw[e];rfl,hs1⟩
 ·obtain ⟨i,hi,rfl,h1,_⟩:=hr
  have e:es.any q=true:=List.any_eq_true.2 ⟨_,List.getElem_mem hi,h1⟩
  have e2:decide ((0:Int)≤(i:Int))=true:=by simp
  refine x (ZN rfl rfl)<|Qe ?_
  exact Qm ⟨[.bool (decide ((0:Int)≤(i:Int)))],⟨rfl,trivial⟩,by rw[e,e2];rfl,hs1⟩
theorem Qba (es:List Ed) (s v:Int):nxt es s v=nxt (ZH es s) s v:=by
 induction es with
 | nil=>rfl
 | cons e es ih =>
  unfold ZH at *
  rw[List.filter_cons]
  by_cases h:e.1=s
  ·rw[if_pos (by simpa using h),nxt,nxt,ih]
  ·rw[if_neg (by simpa using h),nxt,if_neg (λc=>h c.1),ih]
theorem j6:∀(l:List Ed) (s v:Int) (i:Nat) (hi:i<l.length),(∀e∈l,e.1=s)→(l[i]'hi).2.1=v→(∀m (hm:m<i),(l[m]'(by omega)).2.1≠v)→nxt l s v=(l[i]'hi).2.2
 | e::l,s,v,0,_,hs,hv,_=>by rw[nxt,if_pos ⟨hs e List.mem_cons_self,hv⟩];rfl
 | e::l,s,v,i+1,hi,hs,hv,hm=>by
  rw[nxt,if_neg (λc=>hm 0 (by omega) c.2)]
  exact j6 l s v i (by simpa using hi) (λe he=>hs e (List.mem_cons_of_mem _ he)) hv (λm hm'=>hm (m+1) (by omega))
theorem Qd2:∀(l:List Ed) (s v:Int),(∀e∈l,e.2.1≠v)→nxt l s v=-1
 | [],_,_,_=>rfl
 | e::l,s,v,h=>by rw[nxt,if_neg (λc=>h e List.mem_cons_self c.2)];exact Qd2 l s v (λe he=>h e (List.mem_cons_of_mem _ he))
theorem Qd9 {b T:Nat}{n:Int}(e:Ed) (w:World) (hB:Q0 w.heap b T [.int .i64 n]) :
  QL prog 158 ([.agg (Qy e).toArray]++[.pointer (some ⟨b,0,none⟩)]) w λr w'=>r=.bool (decide (e.2.1=n))∧Step [] w w':=by
 refine QL.of_W func158 rfl ntmps158 results158 (by simp) ?_
 refine Qc<|xl rfl<|QR (us:=Qy e) rfl λb2 w1 hs1 hb2 hB2=>Qe<|Qc<|x (Qa rfl)<|x (Qd hB2 rfl rfl)<|x (Qd (hB.ext hs1) rfl rfl)<|x (Q5 rfl rfl)<|Qe ?_
 exact Qm ⟨[_],⟨rfl,trivial⟩,rfl,hs1⟩
theorem jw {L:LN}{w:World}{va vm ve:Value}{st:Int}{a:QT}(h:UX L w.heap ve a.ed) (ho:Zm a) (s v:Int) (hs0:0≤s) (hs1:s<a.st) :
  QL prog 78 [.agg #[va,.int .i64 st,vm,ve],.int .i64 s,.int .i64 v] w λr w'=>r=.int .i64 (nxt a.ed s v)∧Step [] w w':=by
 have hst:=ho.st1
 refine QL.of_W func78 rfl ntmps78 results78 (by simp) ?_
 refine Qc<|xl rfl<|QR (us:=[va,.int .i64 st,vm,ve]) rfl λb3 w1 hs1 hb3 hB3=>xl rfl<|QR (us:=[.int .i64 v]) rfl λb5 w2 hs2 hb5 hB5=>Qe<|Qc<|x (Qr (hB3.ext hs2) rfl rfl)<|Qb<|xl rfl<|xf<|(zr ((h.ext hs1).ext hs2) ho.eds (λe he=>⟨(ho.ed e he).1,by have:=(ho.ed e he).2.1;omega⟩) s hs0 (by omega)).mono ?_
 rintro vo w3 ⟨hs3,hE⟩
 refine Qe ?_
 have hall:∀e∈ZH a.ed s,e.1=s:=λe he=>(ZJ he).2
 rw[Qba]
 refine Qc<|Qb<|x (Zl (l:=[]) (l':=[.tmp 5]))<|xl rfl<|xf<|(Qg2 (q:=λe=>decide (e.2.1=v)) (cap:=[.pointer (some ⟨b5,0,none⟩)]) hE (λe w4 hs4=>Qd9 e w4 ((hB5.ext hs3).ext hs4))).mono ?_
 rintro r4 w4 ⟨hs4,hr⟩
 have hW:=((hs1.trans hs2).trans hs3).trans hs4
 refine Or.elim hr (λhr=>?_) (λhr=>?_)
 ·obtain ⟨rfl,hq⟩:=hr
  have e1:nxt (ZH a.ed s) s v=-1:=Qd2 _ _ _ λe he=>by
   obtain ⟨i,hi,rfl⟩:=List.getElem_of_mem he
   simpa using hq i hi
  rw[e1]
  refine Qe<|Qf<|Qc<|Qb<|x (QB rfl rfl)<|xe ?_
  refine UQ rfl ?_
  refine Qc<|Qe ?_
  exact Qm ⟨[.int .i64 (-1)],⟨rfl,trivial⟩,rfl,hW⟩
 ·obtain ⟨i,hi,rfl,h1,h2⟩:=hr
  have e1:nxt (ZH a.ed s) s v=((ZH a.ed s)[i]'hi).2.2:=j6 _ s v i hi hall (by simpa using h1) (λm hm=>by simpa using h2 m hm)
  rw[e1]
  refine Qe<|Qf<|Qc<|Qb<|x (QB rfl rfl)<|xe ?_
  refine Q6 rfl (λh16=>absurd h16 (by omega)) (λh16=>?_)
  refine Qi<|Qc<|Qb<|Qb<|xie (hE.ext hs4) rfl rfl hi λa19 h19=>x (Q7 rfl)<|x (Qv (h19.fld 2 _ rfl) rfl)<|Qe ?_
  exact Qm ⟨[_],⟨rfl,trivial⟩,rfl,hW⟩
def flw (a:QT):Int→LI→Int×Nat
 | s,[]=>(s,0)
 | s,v::u=>if nxt a.ed s v<0 then (s,0) else ((flw a (nxt a.ed s v) u).1,(flw a (nxt a.ed s v) u).2+1)
theorem Qit {a:QT}(ho:Zm a) {s v:Int}(h:¬nxt a.ed s v<0):nxt a.ed s v<a.st:=(ho.ed _ (zx (by omega))).2.2.2.2
theorem QcB {L L':LN}{w:World}{va vm ve vw:Value}{st:Int}{a:QT}{u:LI}(h:UX L w.heap ve a.ed) (hw:QM L' w.heap vw u) (ho:Zm a) (s:Int) (hs0:0≤s) (hs1:s<a.st) :
  QL prog 279 [.agg #[va,.int .i64 st,vm,ve],.int .i64 s,vw] w λr w'=>r=.tuple #[.int .i64 (flw a s u).1,.int .i64 (flw a s u).2]∧Step [] w w':=by
 have hle:=hw.le
 refine QL.of_W func279 rfl ntmps279 results279 (by simp) ?_
 refine Qc<|xl rfl<|QR (us:=[va,.int .i64 st,vm,ve]) rfl λb3 w1 hs1 hb3 hB3=>x Qh<|Qe<|Qf<|Qc<|Qb<|x (Qs hw rfl)<|Qb<|xe ?_
 refine Qg<|QC (α:=Nat×Int) [(1,1),(6,10),(13,27)] (λz=>[(1,.int .i64 z.2),(13,.int .i64 z.1)]) (λz w'=>z.1≤u.length∧0≤z.2∧z.2<a.st∧Step [] w1 w'∧flw a s u=((flw a z.2 (u.drop z.1)).1,(flw a z.2 (u.drop z.1)).2+z.1)) (λz=>u.length - z.1) (by rfl) (0,s) ⟨rfl,rfl,trivial⟩ ⟨Nat.zero_le _,hs0,by assumption,Step.refl _ _,by simp⟩ ?_
 rintro ⟨k,t⟩ g w2 ⟨hk,ht0,ht1,hs2,hf⟩
 simp only[] at hk ht0 ht1 hf
 have hW2:=hs1.trans hs2
 refine Qc<|x (QB rfl rfl)<|xe ?_
 refine Qf<|QH rfl (λh14=>?_) (λh14=>?_)
 ·refine Qz ?_
  refine Qc<|Qb<|Qb<|x (Qs hw rfl)<|x Qh<|Qe ?_
  rw[List.drop_of_length_le (by omega)] at hf
  have hk2:k=u.length:=by have h15:¬(k:Int)<(u.length:Int):=h14;omega
  refine Qm ⟨[.int .i64 t,.int .i64 u.length],⟨rfl,rfl,trivial⟩,?_,hW2⟩
  rw[hf,hk2]
  simp[flw,tup]
 have hlt:k<u.length:=by omega
 rw[QW hlt,flw] at hf
 refine Qi<|Qf<|Qg<|Qc<|Qb<|xii (hw.ext hW2) rfl rfl hlt λa16 h16=>x (Qv h16 rfl)<|x Qh<|Qe<|Qc<|x (Qr (hB3.ext hs2) rfl rfl)<|Qb<|Qb<|xl rfl<|xf<|(jw (h.ext hW2) ho t (u[k]'hlt) ht0 ht1).mono ?_
 rintro r3 w3 ⟨rfl,hs3⟩
 refine Qe<|Qf<|Qc<|Qb<|x (QB rfl rfl)<|xe ?_
 refine Q6 rfl (λh23=>?_) (λh23=>?_)
 ·rw[if_pos h23] at hf
  refine Qc<|Qb<|Qb<|x Qh<|Qe<|Qm ⟨[.int .i64 t,.int .i64 k],⟨rfl,rfl,trivial⟩,?_,hW2.trans hs3⟩
  rw[hf]
  simp[tup]
 rw[if_neg h23] at hf
 have hn:=Qit ho h23
 refine Qi<|Qw<|Qb<|Qe<|Qw<|x (Qx rfl rfl ⟨by omega,by omega⟩)<|Qb<|xe ?_
 refine ⟨(k+1,nxt a.ed t (u[k]'hlt)),by simp only[];omega,⟨rfl,rfl,trivial⟩,hlt,by simp only[];omega,hn,hs2.trans hs3,?_⟩
 simp only[]
 rw[hf]
 simp;omega
def cks (a:QT) (s:Int):Int:=if Jd a≠0 then Jd a else if s<0∨a.st≤s then 2 else 0
theorem XN {L:LN}{w:World}{va vm ve:Value}{a:QT}(h:Zr L w.heap va vm ve a) (s:Int) :
  QL prog 76 [.agg #[va,.int .i64 a.st,vm,ve],.int .i64 s] w λr w'=>r=.int .i64 (cks a s)∧Step [] w w':=by
 refine QL.of_W func76 rfl ntmps76 results76 (by simp) ?_
 refine Qc<|xl rfl<|QR (us:=[va,.int .i64 a.st,vm,ve]) rfl λb2 w1 hs1 hb2 hB2=>Qe<|Qf<|Qc<|x (Qr hB2 rfl rfl)<|xl rfl<|xf<|(Xl (h.ext hs1)).mono ?_
 rintro r2 w2 ⟨rfl,hs2⟩
 refine Qe ?_
 unfold cks
 have hs12:=hs1.trans hs2
 refine Qc<|Qb<|x (Q9 rfl rfl)<|xe ?_
 refine Q6 rfl (λh9=>?_) (λh9=>?_)
 ·refine Qc<|Qb<|Qe ?_
  exact Qm ⟨[_],⟨rfl,trivial⟩,by rw[if_pos h9];rfl,hs12⟩
 rw[if_neg h9]
 refine Qi<|Qf<|QV (α:=Unit) [(11,18)] (λz=>[(18,.bool (decide (s<0∨a.st≤s)))]) (λz w'=>w'=w2) (by rfl) ?_ ?_
 ·refine Qw<|Qb<|xb (QB rfl rfl) (λh12=>?_) (λh12=>?_)
  ·refine Qb<|xs rfl<|xs rfl<|xs rfl<|xs rfl<|x (Ql rfl)<|xe ?_
   exact ⟨(),⟨by rw[decide_eq_true (Or.inl h12)];rfl,trivial⟩,rfl⟩
  refine Qb<|Qb<|x (Qa rfl)<|x (Qd (hB2.ext hs2) rfl rfl)<|x (ZN rfl rfl)<|x (Ql rfl)<|xe ?_
  exact ⟨(),⟨by show Value.bool (decide (a.st≤s))=_;simp[h12],trivial⟩,rfl⟩
 rintro z g w3 rfl
 refine Q6 rfl (λh18=>?_) (λh18=>?_)
 ·refine Qc<|Qe ?_
  exact Qm ⟨[_],⟨rfl,trivial⟩,by rw[if_pos h18];rfl,hs12⟩
 refine Qi<|Qc<|Qe ?_
 exact Qm ⟨[_],⟨rfl,trivial⟩,by rw[if_neg h18];rfl,hs12⟩
theorem jh {a:QT}{s:Int}(h:cks a s=0):Zm a∧0≤s∧s<a.st:=by
 unfold cks at h
 split at h
 ·rename_i h1;exact absurd h h1
 ·rename_i h1
  split at h
  ·cases h
  ·rename_i h2;exact ⟨(ZB a).1 (Decidable.not_not.1 h1),by omega,by omega⟩
theorem Qgq {L:LN}{b T:Nat}{va:Value}{al:LI}{us:LV}(e:Int) (w:World) (hB:Q0 w.heap b T (va::us)) (hA:QM L w.heap va al) :
  QL prog 278 ([.int .i64 e]++[.pointer (some ⟨b,0,none⟩)]) w λr w'=>r=.bool (decide (e∉al))∧Step [] w w':=by
 refine QL.of_W func278 rfl ntmps278 results278 (by simp) ?_
 refine Qc<|Qe<|Qc<|x (Qa rfl)<|x (Qd hB rfl rfl)<|Qb<|xl rfl<|xf<|(ZG hA e).mono ?_
 rintro r1 w1 ⟨rfl,rfl⟩
 refine x (Zp rfl)<|Qe<|Qm ⟨[_],⟨rfl,trivial⟩,?_,Step.refl _ _⟩
 show Value.bool (!decide (e∈al))=_
 rw[decide_not]
def Qgp (a:QT) (s:Int) (u:LI):Int:=if cks a s≠0 then cks a s else if (u.any λe=>decide (e∉a.al))=true then 9 else 0
theorem Qjn {L L':LN}{w:World}{va vm ve vw:Value}{a:QT}{u:LI}(h:Zr L w.heap va vm ve a) (hw:QM L' w.heap vw u) (s:Int) :
  QL prog 248 [.agg #[va,.int .i64 a.st,vm,ve],.int .i64 s,vw] w λr w'=>Step [] w w'∧r=if Qgp a s u≠0 then .tuple #[.int .i64 0,.int .i64 0,.int .i64 (Qgp a s u)] else .tuple #[.int .i64 (flw a s u).1,.int .i64 (flw a s u).2,.int .i64 0]:=by
 refine QL.of_W func248 rfl ntmps248 results248 (by simp) ?_
 refine Qc<|xl rfl<|QR (us:=[va,.int .i64 a.st,vm,ve]) rfl λb3 w1 hs1 hb3 hB3=>x Qh<|x Qh<|Qe<|Qf<|Qc<|x (Qr hB3 rfl rfl)<|Qb<|xl rfl<|xf<|(XN (h.ext hs1) s).mono ?_
 rintro r2 w2 ⟨rfl,hs2⟩
 refine Qe ?_
 have hs12:=hs1.trans hs2
 unfold Qgp
 refine Qc<|Qb<|x (Q9 rfl rfl)<|xe ?_
 refine Q6 rfl (λh13=>?_) (λh13=>?_)
 ·refine Qc<|Qb<|x Qh<|x Qh<|Qe ?_
  exact Qm ⟨[_,_,_],⟨rfl,rfl,rfl,trivial⟩,hs12,by rw[if_pos h13,if_pos h13];rfl⟩
 have hc:cks a s=0:=Decidable.not_not.1 h13
 obtain ⟨ho,h0,h1⟩:=jh hc
 rw[if_neg h13]
 refine Qi<|Qf<|Qc<|Qb<|x (Zl (l:=[]) (l':=[.tmp 3]))<|xl rfl<|xf<|(QbE (q:=λe=>decide (e∉a.al)) (cap:=[.pointer (some ⟨b3,0,none⟩)]) (hw.ext hs12) (λe w4 hs4=>Qgq e w4 ((hB3.ext hs2).ext hs4) ((h.al.ext hs12).ext hs4))).mono ?_
 rintro r3 w3 ⟨rfl,hs3⟩
 refine xe ?_
 have hs13:=hs12.trans hs3
 refine Q2 rfl (λh17=>?_) (λh17=>?_)
 ·rw[if_pos h17]
  refine Qc<|x Qh<|x Qh<|Qe ?_
  exact Qm ⟨[_,_,_],⟨rfl,rfl,rfl,trivial⟩,hs13,by rw[if_pos (by decide)];rfl⟩
 rw[if_neg (by rw[h17];simp)]
 refine Qi<|Qc<|x (Qr ((hB3.ext hs2).ext hs3) rfl rfl)<|Qb<|Qb<|xl rfl<|xf<|(QcB (h.ed.ext hs13) (hw.ext hs13) ho s h0 h1).mono ?_
 rintro r4 w4 ⟨rfl,hs4⟩
 refine Qb<|x (Qp rfl rfl) <|
  x (Qp rfl rfl)<|x Qh<|Qe<|Qc<|Qb<|Qb<|x Qh<|x Qh<|Qe ?_
 exact Qm ⟨[_,_,_],⟨rfl,rfl,rfl,trivial⟩,hs13.trans hs4,rfl⟩
def enb (a:QT) (s:Int):LI:=(ZH a.ed s).map (·.2.1)
theorem Qfb {l:List Ed}{k:Nat}(h:k<l.length):(l.take (k+1)).map (·.2.1)=(l.take k).map (·.2.1)++[(l[k]'h).2.1]:=by
 rw[List.take_add_one,List.getElem?_eq_getElem h,List.map_append];rfl
theorem QaJ {L:LN}{w:World}{va vm ve:Value}{a:QT}(h:Zr L w.heap va vm ve a) (s:Int) :
  QL prog 29 [.agg #[va,.int .i64 a.st,vm,ve],.int .i64 s] w λr w'=>Step [] w w'∧∃v,r=.tuple #[v,.int .i64 (cks a s)]∧(cks a s≠0→v=Zb)∧(cks a s=0→Qt 3 w.heap.size w' v (enb a s)):=by
 refine QL.of_W func29 rfl ntmps29 results29 (by simp) ?_
 refine Qc<|xl rfl<|QR (us:=[va,.int .i64 a.st,vm,ve]) rfl λb2 w1 hs1 hb2 hB2=>x Qh<|Qe<|Qf<|Qc<|x (Qr hB2 rfl rfl)<|Qb<|xl rfl<|xf<|(XN (h.ext hs1) s).mono ?_
 rintro r2 w2 ⟨rfl,hs2⟩
 refine Qe ?_
 have hs12:=hs1.trans hs2
 refine Qc<|Qb<|x (Q9 rfl rfl)<|xe ?_
 refine Q6 rfl (λh14=>?_) (λh14=>?_)
 ·refine Qc<|Qb<|x Qh<|Qe ?_
  exact Qm ⟨[Zb,_],⟨rfl,rfl,trivial⟩,hs12,Zb,rfl,λ_=>rfl,λe=>absurd e h14⟩
 have hc:cks a s=0:=Decidable.not_not.1 h14
 obtain ⟨ho,h0,h1⟩:=jh hc
 have hst:=ho.st1
 rw[hc]
 refine Qi<|Qc<|Qe<|Qf<|Qc<|x (Qr (hB2.ext hs2) rfl rfl)<|Qb<|xl rfl<|xf<|(zr (h.ed.ext hs12) ho.eds (λe he=>⟨(ho.ed e he).1,by have:=(ho.ed e he).2.1;omega⟩) s h0 (by omega)).mono ?_
 rintro vo w3 ⟨hs3,hE⟩
 refine x (Qs hE rfl)<|Qb<|xe ?_
 have hW3:=hs12.trans hs3
 have hz3:=hW3.size
 have hlen:=Jy a.ed s
 have hel:=ho.ed_le
 refine Q8 (ZH a.ed s) λos hos=>?_
 rw[hos] at hE hlen
 refine Qg<|QC (α:=Nat×Value) [(7,7),(9,9),(20,29)] (λz=>[(7,z.2),(20,.int .i64 z.1)]) (λz w'=>z.1≤os.length∧Step [] w3 w'∧Qt 3 w3.heap.size w' z.2 ((os.take z.1).map (·.2.1))) (λz=>os.length - z.1) (by rfl) (0,nS) ⟨rfl,by rw[hos];rfl,trivial⟩ ⟨Nat.zero_le _,Step.refl _ _,QO _ _ _ _⟩ ?_
 rintro ⟨k,v⟩ g w4 ⟨hk,hs4,ho4⟩
 simp only[] at hk ho4
 have hz4:=hs4.size
 refine Qc<|x (QB rfl rfl)<|xe ?_
 refine Qf<|QH rfl (λh21=>?_) (λh21=>?_)
 ·refine Qz ?_
  refine Qc<|Qb<|x Qh<|Qe ?_
  rw[List.take_of_length_le (by rw[hos] at h21;omega)] at ho4
  refine Qm ⟨[v,_],⟨rfl,rfl,trivial⟩,hW3.trans hs4,v,rfl,λe=>absurd rfl e,λ_=>?_⟩
  unfold enb
  rw[hos];exact Zi ho4 hz3
 have hlt:k<os.length:=by rw[hos] at h21;omega
 refine Qi<|Qf<|Qg<|Qc<|xie (hE.ext hs4) rfl rfl hlt λa22 h22=>x (QJ h22 rfl rfl)<|xl rfl<|Qu (us:=[.int .i64 0,.int .i64 0,.int .i64 0]) rfl λb9 w5 hs5 hb9 hB9=>xl rfl<|Qo (us:=Qy (os[k]'hlt)) hB9 rfl rfl rfl rfl ⟨rfl,rfl,rfl,trivial⟩ λw6 hs6 hB96 =>
  xe ?_
 have hs46:Step [] w4 w6:=hs5.then1 hs6 hb9
 have ho6:=Qq ho4 hs46
 refine Qw<|Qb<|x (Qa rfl)<|x (Qd hB96 rfl rfl)<|xl rfl<|QD (us:=[[.int .i64 (os[k]'hlt).2.1]]) rfl rfl (by decide) (by simp) ⟨rfl,rfl,trivial⟩ λb27 w7 hs7 hb27 hB27=>?_
 have ho7:=Qq ho6 hs7
 have hz7:=(hs46.trans hs7).size
 have htl:((os.take k).map (·.2.1)).length≤131072:=by simp;omega
 refine xl rfl<|QY (news:=[.int .i64 (os[k]'hlt).2.1]) (L:=[]) ho7 rfl rfl rfl (hB27.at (by simp)) (by simp[Value.oneCell']) (by omega) (by omega) λv8 w8 ho8 hs8 hn8=>Qe ?_
 have hge:=Qk ho4
 refine Qw<|x (Qx rfl rfl ⟨by omega,by omega⟩)<|Qb<|xe ?_
 refine ⟨(k+1,v8),by simp only[];omega,⟨rfl,rfl,trivial⟩,hlt,((hs4.trans hs46).trans hs7).then hs8 (λb hb=>.inr (hge b hb).1),?_⟩
 simp only[]
 rw[Qfb hlt]
 exact Qt.snoc ho8
theorem Qgu {L:LN}{w:World}{v:Value}{l:LI}(h:QM L w.heap v l) (n:Int) :
  QL prog 241 [v,.int .i64 n] w λr w'=>r=.int .i64 (Xq n none l)∧w'=w:=by
 have hle:=h.le
 refine QL.of_W func241 rfl ntmps241 results241 (by simp) ?_
 refine Qc<|Qe<|Qf<|Qc<|Qb<|x (Qs h rfl)<|Qb<|xe ?_
 refine Qg<|QC (α:=Nat) [(4,6),(9,34)] (λk=>[(9,.int .i64 k)]) (λk w'=>w'=w∧k≤l.length∧Xq n (pv l k) (l.drop k)=Xq n none l) (λk=>l.length - k) (by rfl) 0 ⟨rfl,trivial⟩ ⟨rfl,Nat.zero_le _,rfl⟩ ?_
 rintro k g w1 ⟨rfl,hk,hm⟩
 refine Qc<|x (QB rfl rfl)<|xe ?_
 refine Qf<|QH rfl (λh10=>?_) (λh10=>?_)
 ·refine Qz ?_
  refine Qc<|Qe<|Qm ⟨[.int .i64 0],⟨rfl,trivial⟩,?_,rfl⟩
  rw[←hm,List.drop_of_length_le (by omega)];rfl
 have hlt:k<l.length:=by omega
 have hd:=QW hlt
 rw[hd,Xq] at hm
 refine Qi<|Qf<|Qg<|Qc<|Qb<|xii h rfl rfl hlt λa12 h12=>x (Qv h12 rfl)<|x Qh<|Qe<|Qg<|QV (α:=Bool) [(14,21)] (λz=>[(14,.bool z)]) (λz w'=>w'=w1∧z=decide (l[k]<0∨n≤l[k])) (by rfl) ?_ ?_
 ·refine Qw<|Qb<|xb (QB rfl rfl) (λh16=>?_) (λh16=>?_)
  ·refine Qb<|xs rfl<|xs rfl<|xs rfl<|x (Ql rfl)<|Qe ?_
   exact ⟨true,⟨rfl,trivial⟩,rfl,by simp[h16]⟩
  refine Qb<|Qb<|Qb<|x (ZN rfl rfl)<|x (Ql rfl)<|Qe ?_
  exact ⟨_,⟨rfl,trivial⟩,rfl,by simp[h16]⟩
 rintro z g w2 ⟨rfl,rfl⟩
 refine Q6 rfl (λh14=>?_) (λh14=>?_)
 ·refine Qc<|Qe<|Qm ⟨[.int .i64 2],⟨rfl,trivial⟩,?_,rfl⟩
  rw[←hm,if_pos h14];rfl
 rw[if_neg h14] at hm
 refine QV (α:=Bool) [(22,33)] (λz=>[(22,.bool z)]) (λz w'=>w'=w2∧z=Ut (pv l k) l[k]) (by rfl) ?_ ?_
 ·refine Qw<|Qb<|xb (ZF rfl rfl) (λh24=>?_) (λh24=>?_)
  ·have hk1:((k:Int) - 1)=((k - 1:Nat):Int):=by omega
   refine Qb<|Qb<|Qb<|Qb<|x (Jl rfl rfl ⟨by omega,by omega⟩)<|xii (i:=k - 1) h rfl (by show Value.int _ ((k:Int) - 1)=_;rw[hk1]) (by omega) λa30 h30=>x (Qv h30 rfl)<|x (XS rfl rfl)<|x (Ql rfl)<|Qe<|⟨_,⟨rfl,trivial⟩,rfl,?_⟩
   have:pv l k=some l[k - 1]:=by
    have h0:k≠0:=by omega
    simp[pv,h0,show k - 1<l.length by omega]
   rw[this];rfl
  refine Qb<|xs rfl<|xs rfl<|xs rfl<|xs rfl<|xs rfl<|xs rfl<|xs rfl<|x (Ql rfl)<|Qe ?_
  have h0:k=0:=by omega
  exact ⟨false,⟨rfl,trivial⟩,rfl,by simp[pv,h0,Ut]⟩
 rintro z g w3 ⟨rfl,rfl⟩
 refine Q2 rfl (λh22=>?_) (λh22=>?_)
 ·refine Qc<|Qe<|Qm ⟨[.int .i64 5],⟨rfl,trivial⟩,?_,rfl⟩
  rw[←hm,if_pos h22];rfl
 rw[if_neg (by simp[h22])] at hm
 refine Qi<|Qw<|x (Qx rfl rfl ⟨by omega,by omega⟩)<|Qb<|xe ?_
 exact ⟨k+1,by omega,⟨rfl,trivial⟩,rfl,by omega,by rw[X8 hlt];exact hm⟩
theorem jF {L:LN}{w:World}{v:Value}{l:LI}(h:QM L w.heap v l) (n:Int) :
  QL prog 80 [v,.int .i64 n] w λr w'=>r=.int .i64 (Xq n none l)∧w'=w:=by
 have hle:=h.le
 refine QL.of_W func80 rfl ntmps80 results80 (by simp) ?_
 refine Qc<|Qe<|Qf<|Qc<|Qb<|x (Qs h rfl)<|Qb<|xe ?_
 refine Qg<|QC (α:=Nat) [(4,6),(9,32)] (λk=>[(9,.int .i64 k)]) (λk w'=>w'=w∧k≤l.length∧Xq n (pv l k) (l.drop k)=Xq n none l) (λk=>l.length - k) (by rfl) 0 ⟨rfl,trivial⟩ ⟨rfl,Nat.zero_le _,rfl⟩ ?_
 rintro k g w1 ⟨rfl,hk,hm⟩
 refine Qc<|x (QB rfl rfl)<|xe ?_
 refine Qf<|QH rfl (λh10=>?_) (λh10=>?_)
 ·refine Qz ?_
  refine Qc<|Qe<|Qm ⟨[.int .i64 0],⟨rfl,trivial⟩,?_,rfl⟩
  rw[←hm,List.drop_of_length_le (by omega)];rfl
 have hlt:k<l.length:=by omega
 have hd:=QW hlt
 rw[hd,Xq] at hm
 refine Qi<|Qf<|Qg<|Qc<|Qb<|xii h rfl rfl hlt λa12 h12=>x (Qv h12 rfl)<|x Qh<|Qe<|Qf<|QV (α:=Bool) [(14,20)] (λz=>[(20,.bool z)]) (λz w'=>w'=w1∧z=decide (l[k]<0∨n≤l[k])) (by rfl) ?_ ?_
 ·refine Qw<|Qb<|xb (QB rfl rfl) (λh16=>?_) (λh16=>?_)
  ·refine Qb<|xs rfl<|xs rfl<|xs rfl<|x (Ql rfl)<|xe ?_
   exact ⟨true,⟨rfl,trivial⟩,rfl,by simp[h16]⟩
  refine Qb<|Qb<|Qb<|x (ZN rfl rfl)<|x (Ql rfl)<|xe ?_
  exact ⟨_,⟨rfl,trivial⟩,rfl,by simp[h16]⟩
 rintro z g w2 ⟨rfl,rfl⟩
 refine Q6 rfl (λh14=>?_) (λh14=>?_)
 ·refine Qc<|Qe<|Qm ⟨[.int .i64 2],⟨rfl,trivial⟩,?_,rfl⟩
  rw[←hm,if_pos h14];rfl
 rw[if_neg h14] at hm
 refine Qi<|QV (α:=Bool) [(21,31)] (λz=>[(31,.bool z)]) (λz w'=>w'=w2∧z=Ut (pv l k) l[k]) (by rfl) ?_ ?_
 ·refine Qw<|Qb<|xb (ZF rfl rfl) (λh24=>?_) (λh24=>?_)
  ·have hk1:((k:Int) - 1)=((k - 1:Nat):Int):=by omega
   refine Qb<|Qb<|Qb<|Qb<|x (Jl rfl rfl ⟨by omega,by omega⟩)<|xii (i:=k - 1) h rfl (by show Value.int _ ((k:Int) - 1)=_;rw[hk1]) (by omega) λa30 h30=>x (Qv h30 rfl)<|x (XS rfl rfl)<|x (Ql rfl)<|xe ?_
   refine ⟨_,⟨rfl,trivial⟩,rfl,?_⟩
   have:pv l k=some l[k - 1]:=by
    have h0:k≠0:=by omega
    simp[pv,h0,show k - 1<l.length by omega]
   rw[this];rfl
  refine Qb<|xs rfl<|xs rfl<|xs rfl<|xs rfl<|xs rfl<|xs rfl<|xs rfl<|x (Ql rfl)<|xe ?_
  have h0:k=0:=by omega
  exact ⟨false,⟨rfl,trivial⟩,rfl,by simp[pv,h0,Ut]⟩
 rintro z g w3 ⟨rfl,rfl⟩
 refine Q2 rfl (λh22=>?_) (λh22=>?_)
 ·refine Qc<|Qe<|Qm ⟨[.int .i64 5],⟨rfl,trivial⟩,?_,rfl⟩
  rw[←hm,if_pos h22];rfl
 rw[if_neg (by simp[h22])] at hm
 refine Qi<|Qw<|x (Qx rfl rfl ⟨by omega,by omega⟩)<|Qb<|xe ?_
 exact ⟨k+1,by omega,⟨rfl,trivial⟩,rfl,by omega,by rw[X8 hlt];exact hm⟩
end Go.Proofs.YtdffckgdcegpaaaGreatDoor
namespace Go.Lg
open Go.RowKit
def upY (P:Program) (m:Nat) (dst:Option Nat) (f:Fr) (K:Fr→World→Prop):Result Next→Prop
 | .ok (.value v) w'=>K (QX f dst v) w'
 | .ok .skip w'=>K (QX f dst undef) w'
 | .ok (.enter g args) w'=>Calls P g args w' λe w''=>match e with | .returned v=>K (QX f dst v) w'' | _=>False
 | .ok (.round l fn tmps assign body) w'=>RoundIn (fen none) (m - 1) P l fn tmps assign body w' λe w''=>match e with | .returned v=>K (QX f dst v) w'' | _=>False
 | _=>False
def XOY (P:Program) (m:Nat) (o:Oper) (f:Fr) (w:World) (K:Fr→World→Prop):Prop:=upY P m o.dst f K ((execOp (ev f) o).run P w)
def Xr (P:Program) (m:Nat) (ops:List Oper) (K:Fr→World→Prop):List Oper→Fr→World→Prop
 | [],f,w=>K f w
 | o::l,f,w=>bif Z9 ops f o then XOY P m o f w (Xr P m ops K l) else Xr P m ops K l (QX f o.dst undef) w
section
variable {m:Nat} {P:Program} {n:Nat} {ds:LN}
theorem XOY.of_XO {o:Oper}{f:Fr}{w:World}{K K':Fr→World→Prop}(hK:∀f w,K f w→K' f w) (h:XO P o f w K):XOY P m o f w K':=by
 unfold XO at h;unfold XOY
 generalize (execOp (ev f) o).run P w=r at h
 cases r with
 | ok nx w' =>
  cases nx <;> simp only[upF] at h <;> simp only[upY]
  case value v=>exact hK _ _ h
  case skip=>exact hK _ _ h
  case enter g args =>
   refine Calls.mono h λe w'' he=>?_
   cases e with
   | returned v=>exact hK _ _ he
   | panicked c=>exact he.elim
   | outgrown=>exact he.elim
 | halt x w'=>exact h.elim
theorem Xr.pre {ops:List Oper}{K:Fr→World→Prop}{l2:List Oper}:∀(l1:List Oper) (f:Fr) (w:World),XL P ops (λf w=>Xr P m ops K l2 f w) l1 f w→Xr P m ops K (l1++l2) f w
 | [],f,w,h=>by unfold XL at h;exact h
 | o::l1,f,w,h=>by
  unfold XL at h
  show (bif Z9 ops f o then XOY P m o f w (Xr P m ops K (l1++l2)) else Xr P m ops K (l1++l2) (QX f o.dst undef) w)
  cases hg:Z9 ops f o with
  | false=>rw[hg] at h;exact Xr.pre l1 _ _ h
  | true=>rw[hg] at h;exact XOY.of_XO (λf w h=>Xr.pre l1 f w h) h
theorem Xr.pre2 {ops:List Oper}{K:Fr→World→Prop}{o1 o2:Oper}{l2:List Oper}{f:Fr}{w:World}(h:XL P ops (λf w=>Xr P m ops K l2 f w) [o1,o2] f w):Xr P m ops K (o1::o2::l2) f w:=Xr.pre [o1,o2] f w h
theorem Xr.of_XL {ops:List Oper}{K:Fr→World→Prop}{l:List Oper}{f:Fr}{w:World}(h:XL P ops K l f w):Xr P m ops K l f w:=by
 have:=Xr.pre (m:=m) (l2:=[]) l f w h
 rwa [List.append_nil] at this
theorem QfD {o:Oper}{a:Act}{f:Fr}{w:World}{K:Fr→World→Prop}{K':Act→World→Prop}{Q:Exit→Act→World→Prop}(h:Yn n ds a f)
  (hK:∀v w',K (QX f o.dst v) w'→K' (a.put o.dst v) w') (hx:XOY P m o f w K):o.wpIn (fen none) m P a w K' Q:=by
 unfold XOY at hx
 refine ⟨λ_ _=>trivial,?_⟩
 have e:Oper.semAt (fen none).round a.eval o=execOp (ev f) o:=by rw[h.eval];rfl
 rw[e]
 generalize (execOp (ev f) o).run P w=r at hx
 cases r with
 | ok nx w' =>
  cases nx <;> simp only[upY] at hx <;> simp only[Oper.uponIn]
  case value v=>exact hK v w' hx
  case skip=>exact hK _ w' hx
  case enter g args =>
   refine ⟨λh=>by simp[Fence.wide] at h,?_⟩
   refine (callsIn_wide (n:=m - 1)).2 (Calls.mono hx λe w'' he=>?_)
   cases e with
   | returned v=>exact hK v w'' he
   | panicked c=>exact he.elim
   | outgrown=>exact he.elim
  case round l fn tmps assign body =>
   refine ⟨λh=>by simp[Fence.wide] at h,?_⟩
   refine RoundIn.mono hx λe w'' he=>?_
   cases e with
   | returned v=>exact hK v w'' he
   | panicked c=>exact he.elim
   | outgrown=>exact he.elim
 | halt x w'=>exact hx.elim
theorem jy {Q:Exit→LN→Fr→World→Prop}{all:List Oper}(hn:∀o∈all,∀d,o.dst=some d→d<n) (f0:Fr) :
  ∀(l:List Oper) (k:Nat) (a:Act) (f:Fr) (w:World),(∀j,l[j]?=all[k+j]?)→Yn n ds a f→(∀t,ZC all t=false→f t=f0 t) →
   Xr P m all (λf w=>Q .normal ds f w) l f w →
   wpOpsIn (fen none) m P all.toArray (λe a' w'=>∃ds' f',Yn n ds' a' f'∧(∀t,ZC all t=false→f' t=f0 t)∧Q e ds' f' w') (List.range' k l.length) a w
 | [],_,a,f,w,_,hr,hk,h=>⟨ds,f,hr,hk,by unfold Xr at h;exact h⟩
 | o::l,k,a,f,w,hl,hr,hk,h=>by
  have h0:all[k]?=some o:=by simpa using (hl 0).symm
  have hmem:o∈all:=List.mem_of_getElem? h0
  have ih:=λa f w=>jy (Q:=Q) hn f0 l (k+1) a f w (λj=>by have:=hl (j+1);simpa[Nat.add_assoc,Nat.add_comm 1 j] using this)
  have next:∀v,(∀t,ZC all t=false→QX f o.dst v t=f0 t):=λv t ht=>(YK (Xc hmem ht) v).trans (hk t ht)
  simp only[List.length_cons,List.range'_succ,wpOpsIn,List.getElem?_toArray,h0]
  rw[J5 hr hn o]
  unfold Xr at h
  cases hg:Z9 all f o with
  | false =>
   rw[hg] at h
   exact ⟨λ_ _=>trivial,ih _ _ _ (hr.put (hn o hmem) _) (next _) h⟩
  | true =>
   rw[hg] at h
   exact QfD hr (λv w' hx=>ih _ _ _ (hr.put (hn o hmem) v) (next v) hx) h
theorem JY {Q:Exit→LN→Fr→World→Prop}{f:Fr}{w:World}{id:Nat}{l:List Oper}(hn:XG n l=true) (h:Xr P m l (λf w=>Q .normal ds f w) l f w):WG none m P n (.region id l.toArray false) Q ds f w:=by
 unfold WG
 intro a ha
 refine wpIn_region ?_
 have:=jy (m:=m) (Yx hn) f l 0 a f w (by simp) ha (λ_ _=>rfl) h
 simpa[List.range_eq_range',YX] using this
theorem xy {ops:List Oper}{rest:List Oper}{f:Fr}{w:World}{K:Fr→World→Prop}{d:Option Nat}{ty:Nat}{ps:String}{af:Array Edge}{gd:Option (Nat×Bool)}{x y:Operand}{at_:Array Nat}{l:Nat}{R:Ending→World→Prop}
  (hx:ev f x=.func (.yield l) #[] #[]) (hy:YieldAt (fen none) (m - 1) P l #[ev f y] w R) (hK:∀e w',R e w'→∃v,e=.returned v∧Xr P m ops K rest (QX f d v) w')
  (hg:Z9 ops f ⟨d,.call ⟨.value x,[y].toArray,at_⟩,ty,ps,af,gd⟩=true:=by rfl) :
  Xr P m ops K (⟨d,.call ⟨.value x,[y].toArray,at_⟩,ty,ps,af,gd⟩::rest) f w:=by
 obtain ⟨fn,tmps,assign,body,h1,h2⟩:=hy
 have hr:(execOp (ev f) ⟨d,.call ⟨.value x,[y].toArray,at_⟩,ty,ps,af,gd⟩).run P w=.ok (.round l fn tmps assign body) w:=by
  simp[execOp,resolve,hx,Deferred.ofValue,invoke,h1]
 unfold Xr
 rw[hg]
 simp only[XOY,hr,upY,cond_true]
 exact h2.mono λe w' h=>by obtain ⟨v,rfl,hk⟩:=hK e w' h;exact hk
end
attribute [irreducible] Xr
structure Lw (B:Nat) (L:LN) (w w':World):Prop where
 os:w'.os=w.os
 tape:w'.tape=w.tape
 output:w'.output=w.output
 size:w.heap.size≤w'.heap.size
 low:∀k,k<B→k∉L→w'.heap[k]?=w.heap[k]?
theorem Lw.refl (B:Nat) (L:LN) (w:World):Lw B L w w:=⟨rfl,rfl,rfl,Nat.le_refl _,λ_ _ _=>rfl⟩
theorem Lw.trans {B:Nat}{L:LN}{w0 w w':World}(h:Lw B L w0 w) (k:Lw B L w w'):Lw B L w0 w' :=
 ⟨k.os.trans h.os,k.tape.trans h.tape,k.output.trans h.output,Nat.le_trans h.size k.size,λi hi hn=>(k.low i hi hn).trans (h.low i hi hn)⟩
theorem Step.lw {L:LN}{w w' w'':World}(h:Step L w w') (k:Lw w.heap.size L w' w''):Step L w w'' :=
 ⟨k.os.trans h.os,k.tape.trans h.tape,k.output.trans h.output,Nat.le_trans h.size k.size,λi hi hn=>(k.low i hi hn).trans (h.block i hi hn)⟩
structure Ji (B:Nat) (L:LN) (W W':World):Prop where
 lw:Lw B L W W'
 other:∀(k:Nat) (o:Obj),W.heap[k]?=some o→o.isCells=false→W'.heap[k]?=some o
theorem Ji.refl (B:Nat) (L:LN) (w:World):Ji B L w w:=⟨Lw.refl _ _ _,λ_ _ h _=>h⟩
theorem Ji.trans {B:Nat}{L:LN}{w0 w w':World}(h:Ji B L w0 w) (k:Ji B L w w'):Ji B L w0 w':=⟨h.lw.trans k.lw,λi o hi ho=>k.other i o (h.other i o hi ho) ho⟩
theorem Ji.step {B:Nat}{L X:LN}{W W':World}(h:Step X W W') (hB:B≤W.heap.size) (hX:∀b∈X,(b∈L∨B≤b)∧∃o:Obj,W.heap[b]?=some o∧o.isCells=true):Ji B L W W':=by
 refine ⟨⟨h.os,h.tape,h.output,h.size,λk hk hn=>h.block k (by omega) (λhx=>?_)⟩,λk o hk ho=>?_⟩
 ·rcases (hX k hx).1 with h1 | h1
  ·exact hn h1
  ·omega
 ·refine (h.block k (Array.getElem?_eq_some_iff.1 hk).1 (λhx=>?_)).trans hk
  obtain ⟨o',h1,h2⟩:=(hX k hx).2
  rw[hk] at h1;cases h1;rw[ho] at h2;cases h2
theorem Ji.ext {B:Nat}{L:LN}{W W':World}(h:Step [] W W') (hB:B≤W.heap.size):Ji B L W W':=Ji.step h hB (λ_ hb=>by cases hb)
theorem Q0.cells {H:Array Obj}{b T:Nat}{cs:LV}(h:Q0 H b T cs):∃o:Obj,H[b]?=some o∧o.isCells=true:=⟨_,h,rfl⟩
theorem Ji.blk {B:Nat}{L:LN}{W W':World}{b T:Nat}{cs:LV}(h:Step [b] W W') (hB:B≤W.heap.size) (hb:Q0 W.heap b T cs) (hL:b∈L∨B≤b):Ji B L W W' :=
 Ji.step h hB (λc hc=>by
  have e:c=b:=by simpa using hc
  subst e;exact ⟨hL,hb.cells⟩)
def ZT (B:Nat) (I:World→Prop):Prop:=∀W W' X,I W→Step X W W'→(∀r∈X,B≤r∧∃o:Obj,W.heap[r]?=some o∧o.isCells=false)→I W'
theorem ZT.own {β:Type}{B:Nat}{I:β→World→Prop}(h:∀s,ZT B (I s)):OwnFrom B I:=λs W W' row hs hg hr =>
 h s W W' _ hs (Step.of_grown hg) (λr hr'=>hr r (by cases row <;> simp at hr' ⊢;exact hr'.symm))
theorem ZT.blk {B:Nat}{b T:Nat}{cs:LV}:ZT B (λW=>Q0 W.heap b T cs):=λW W' X h hs hX=>h.step hs (λhb=>by
 obtain ⟨_,o,h1,h2⟩:=hX b hb
 unfold Q0 at h;rw[h] at h1;cases h1;cases h2)
theorem ZT.and {B:Nat}{I J:World→Prop}(h:ZT B I) (k:ZT B J):ZT B (λW=>I W∧J W):=λW W' X hi hs hX=>⟨h W W' X hi.1 hs hX,k W W' X hi.2 hs hX⟩
theorem ZT.ex {B:Nat}{β:Type}{I:β→World→Prop}(h:∀z,ZT B (I z)):ZT B (λW=>∃z,I z W):=λW W' X ⟨z,hi⟩ hs hX=>⟨z,h z W W' X hi hs hX⟩
theorem ZT.pure {B:Nat}(p:Prop):ZT B (λ_=>p):=λ_ _ _ h _ _=>h
theorem ZT.step {B:Nat}{L:LN}{w:World}(hB:w.heap.size≤B):ZT B (λW=>Step L w W):=λW W' X h hs hX=>h.then hs (λb hb=>.inr (by have:=(hX b hb).1;omega))
theorem Q3 {w:World}{base e sz n:Nat}{v:Value}{cs:LV}(h:w.ownsRow base e sz v n cs):∀b∈ob v,∃o:Obj,w.heap[b]?=some o∧o.isCells=true:=by
 intro b hb
 rcases h.2 with ⟨h1,_⟩ | ⟨g,cap,cur,h1,h2,h3,_⟩
 ·subst h1;simp[ob] at hb
 ·subst h1;simp[ob] at hb;subst hb;exact ⟨_,h3,rfl⟩
theorem ZT.row {B base e sz n:Nat}{v:Value}{cs:LV}:ZT B (λW=>W.ownsRow base e sz v n cs):=λW W' X h hs hX=>Qj h hs (λb hb hx=>by
 obtain ⟨_,o,h1,h2⟩:=hX b hx
 obtain ⟨o',h3,h4⟩:=Q3 h b hb
 rw[h1] at h3;cases h3;rw[h2] at h4;cases h4)
theorem QhG {α:Type}{m:Nat}{P:Program}{n:Nat}{Q:Exit→LN→Fr→World→Prop}{ds:LN}{f:Fr}{w:World}{g:Operand}{p:Nat}{assign body:Code}(L:LN) (h1:1≤m)
  {gf:Nat} {fn:Func} [hF:Fu P gf fn] {capt:LV} (hg:ev f g=.func (.func gf) #[] capt.toArray) {enc:α→Value} {S:List α→Prop} {N:Nat} (hp:p<n)
  (hseq:SeqStopsK (fen none) (m - 1) P gf capt.toArray (λx=>#[enc x]) (Lw w.heap.size L) S (λ_=>True) N w)
  (I:List α→World→Prop) (hI:∀s,ZT w.heap.size (I s)) (h0:I [] w) (A:Fr→α→Fr→World→Prop) (hA:∀x f',ZT w.heap.size (A f x f'))
  (hassign:∀l pre x W,I pre W→WG (some l) (m - 1 - 1) P n assign (jK (λds' f' W'=>ds'=[]∧Ji w.heap.size L W W'∧I pre W'∧A f x f' W') (λ_ _ _ _=>False)) [] (upd f p (enc x)) W)
  (hbody:∀l pre x f' W,I pre W→A f x f' W→pre.length<N→WG (some l) (m - 1 - 1) P n body (jK (λ_ _ W'=>Ji w.heap.size L W W'∧I (pre++[x]) W') (λ_ _ _ _=>False)) [] f' W)
  (hdone:∀D xs W,w.heap.size≤D→S xs→I xs W→W.heap[D]?=some (.deferred (some []))→Q .normal (D::ds) f W) :
  WG none m P n (.rangeFunc g #[p] assign body) Q ds f w:=by
 unfold WG at hassign hbody ⊢
 intro a ha
 have eg:∀args w,(callFunc gf args).run P w=.ok (.enter gf args) w:=by
  intro args w
  have h1:¬fn.name = "runtime.NumGoroutine" := by simpa using hF.nm
  have h2:¬fn.body=none:=by have:=hF.b;intro e;rw[e] at this;cases this
  simp[callFunc,hF.f,h1,h2]
 have keep:∀{W W':World},Ji w.heap.size L W W'→KeepsFrom w.heap.size W W':=λh=>⟨h.lw.size,λk o _ hk ho=>h.other k o hk ho⟩
 refine wpIn_rangeFunc_ownH (F:=fen none) rfl h1 (gf:=gf) (lb:=capt.toArray) (by rw[ha.eval];exact hg) trivial eg hseq (λh k=>h.trans k)
  (λW l o o' hl ho _ _=>⟨rfl,rfl,rfl,by simp,λk hk _=>World.putObj_heap_other (by omega)⟩) (Below.refl _ _) (λ_=>rfl) I (λ_ _ _=>False) (ZT.own hI) (λ_ _ _ _ _ hs _ _=>hs) h0
  (λx a' W=>∃f',Yn n [] a' f'∧A f x f' W) (λx a'=>ZT.own λ_=>ZT.ex λf'=>ZT.and (ZT.pure _) (hA x f')) ?_ ?_ ?_ ?_
 ·intro l pre x W K hi hK
  have hr:Yn n [] { tmps:=((#[p]:Array Nat).zip #[enc x]).foldl (λt (p,v)=>t.setIfInBounds p v) a.tmps,defers:=[] } (upd f p (enc x)):=by
   have h2:Yn n [] { a with defers:=[] } f:=⟨ha.size,rfl,ha.get⟩
   have h3:=h2.put (dst:=some p) (λd e=>by cases e;exact hp) (enc x)
   have e:((#[p]:Array Nat).zip #[enc x]).foldl (λt (p,v)=>t.setIfInBounds p v) a.tmps=a.tmps.setIfInBounds p (enc x):=by simp
   rw[e];exact h3
  refine wpIn_mono (hassign l pre x W hi _ hr) ?_
  rintro e a' W' ⟨ds',f',h2,_,h3⟩
  cases e with
  | normal=>obtain ⟨rfl,h4,h5,h6⟩:=h3;exact hK a' W' (keep h4) h4.lw h5 ⟨f',h2,h6⟩
  | exit id=>exact h3.elim
  | goto l=>exact h3.elim
  | ret=>exact h3.elim
  | panic ch=>exact h3.elim
  | outgrown=>exact h3.elim
 ·rintro l pre x a' W _ _ hi ⟨f',h2,h3⟩ hlt
  refine wpIn_mono (hbody l pre x f' W hi h3 hlt a' h2) ?_
  rintro e a'' W' ⟨ds',f'',h4,_,h5⟩
  cases e with
  | normal=>exact ⟨keep h5.1,h5.1.lw,h5.2⟩
  | exit id=>exact h5.elim
  | goto l=>exact h5.elim
  | ret=>exact h5.elim
  | panic ch=>exact h5.elim
  | outgrown=>exact h5.elim
 ·intro D xs W hD hS hi hd
  exact ⟨D::ds,f,⟨ha.size,by rw[show coll (D::ds)={ target:=.collected D,args:=#[] }::coll ds from rfl,ha.defers],ha.get⟩,λ_ _=>rfl,hdone D xs W hD hS hi hd⟩
 ·intro D c pre W _ _ h _
  exact h.elim
def Qjd (P:Program) (t:Nat):Option (LV×List (Nat×Nat)):=match P.info? t,P.underlying t with
 | some it,some (.struct fs)=>match it.zero,fs.toList.mapM (λf=>(P.info? f.type).map λi=>(f.offset,i.size)) with
  | some (.agg zs),some pl=>some (zs.toList,pl)
  | _,_=>none
 | _,_=>none
class Bw (P:Program) (t:Nat) (zs:outParam (LV)) (pl:outParam (List (Nat×Nat))):Prop where
 h:Qjd P t=some (zs,pl)
 b:pl.all (λx=>x.1+x.2≤zs.length)=true
def yv:LV→Nat→LV→LV
 | zs,_,[]=>zs
 | zs,o,u::us=>yv (zs.set o u) (o+1) us
def QfA (pl:List (Nat×Nat)) (zs:LV):List (Nat×LV)→LV
 | []=>zs
 | (j,us)::ps=>QfA pl (yv zs (pl.getD j (0,0)).1 us) ps
def QhK:List (Nat×Value)→List (Nat×LV)→Prop
 | [],[]=>True
 | (j,v)::vs,(j',us)::uss=>v.cells=us.toArray∧j=j'∧QhK vs uss
 | _,_=>False
theorem yu:∀(us zs:LV) (o:Nat),(yv zs o us).length=zs.length
 | [],_,_=>rfl
 | u::us,zs,o=>by rw[yv,yu us,List.length_set]
theorem qv (o:Nat):∀(us:LV) (k:Nat) (zs:LV),(us.zipIdx k).foldl (λ(cs:Array Value) (x:Value×Nat)=>cs.setIfInBounds (o+x.2) x.1) zs.toArray=(yv zs (o+k) us).toArray
 | [],_,_=>rfl
 | u::us,k,zs=>by
  rw[List.zipIdx_cons,List.foldl_cons,yv]
  have:=qv o us (k+1) (zs.set (o+k) u)
  rw[←List.setIfInBounds_toArray] at this
  exact this
theorem QeT {pl:List (Nat×Nat)}:∀(vs:List (Nat×Value)) (uss:List (Nat×LV)) (zs:LV),QhK vs uss→uss.all (λp=>p.1<pl.length && (p.2.length == (pl.getD p.1 (0,0)).2))=true →
  (∀x∈pl,x.1+x.2≤zs.length)→Instr.fill (pl.toArray[·]?) zs.toArray vs=some (QfA pl zs uss).toArray
 | [],[],zs,_,_,_=>rfl
 | [],_::_,_,h,_,_=>h.elim
 | _::_,[],_,h,_,_=>h.elim
 | (j,v)::vs,(j',us)::uss,zs,h1,h2,h3=>by
  obtain ⟨hc,rfl,h1⟩:=h1
  simp only[List.all_cons,Bool.and_eq_true,decide_eq_true_eq,beq_iff_eq] at h2
  obtain ⟨⟨hj,hl⟩,h2⟩:=h2
  have hg:pl.getD j (0,0)=pl[j]'hj:=by simp[List.getD,hj]
  have hm:=h3 _ (List.getElem_mem hj)
  unfold Instr.fill
  simp only[List.getElem?_toArray,List.getElem?_eq_getElem hj,hc]
  rw[hg] at hl
  rw[if_neg (by simp only[List.size_toArray,hl,ne_eq,not_true,decide_false,Bool.false_or,decide_eq_true_eq];omega)]
  have e:=qv (pl[j]'hj).1 us 0 zs
  rw[Nat.add_zero] at e
  have e2:(us.toArray.zipIdx).foldl (λ(cs:Array Value) (x:Value×Nat)=>cs.setIfInBounds ((pl[j]'hj).1+x.2) x.1) zs.toArray=(yv zs (pl[j]'hj).1 us).toArray:=by
   rw[←e];simp
  rw[e2,QfA,hg]
  have e3:=QeT vs uss (yv zs (pl[j]'hj).1 us) h1 h2 (λx hx=>by rw[yu];exact h3 x hx)
  simpa only[List.getElem?_toArray] using e3
theorem Qay {P:Program}{t:Nat}{zs:LV}{pl:List (Nat×Nat)}(h:Qjd P t=some (zs,pl)) (hb:pl.all (λx=>x.1+x.2≤zs.length)=true) (vs:List (Nat×Value)) (uss:List (Nat×LV)) (h1:QhK vs uss)
  (h2:uss.all (λp=>p.1<pl.length && (p.2.length == (pl.getD p.1 (0,0)).2))=true):P.built t vs=some (QfA pl zs uss).toArray:=by
 have h3:∀x∈pl,x.1+x.2≤zs.length:=λo ho=>by simpa using List.all_eq_true.1 hb o ho
 unfold Qjd at h
 unfold Program.built
 cases hi:P.info? t with
 | none=>simp[hi] at h
 | some it =>
  cases hu:P.underlying t with
  | none=>simp[hi,hu] at h
  | some dd =>
   simp only[hi,hu] at h
   cases dd <;> simp only[] at h <;> try (cases h)
   case struct fs =>
    cases hz:it.zero with
    | none=>simp[hz] at h
    | some z =>
     cases z <;> simp only[hz] at h <;> try (cases h)
     rename_i za
     cases hm:fs.toList.mapM (λf=>(P.info? f.type).map λi=>(f.offset,i.size)) with
     | none=>simp[hm] at h
     | some pl' =>
      simp only[hm,Option.some.injEq,Prod.mk.injEq] at h
      obtain ⟨rfl,rfl⟩:=h
      simp only[hz,hm,Value.cells]
      exact QeT vs uss za.toList h1 h2 h3
theorem ZQ {P:Program}{f:Fr}{w:World}{d:Option Nat}{ty:Nat}{ps:String}{af:Array Edge}{gd:Option (Nat×Bool)}{t:Nat}{zs:LV}{pl:List (Nat×Nat)}[h:Bw P t zs pl] {parts:List (Nat×Operand)}(uss:List (Nat×LV))
  (h1:QhK (parts.map λx=>(x.1,ev f x.2)) uss) (h2:uss.all (λp=>p.1<pl.length && (p.2.length == (pl.getD p.1 (0,0)).2))=true:=by rfl) :
  (execOp (ev f) ⟨d,.build t parts.toArray,ty,ps,af,gd⟩).run P w=.ok (.value (.agg (QfA pl zs uss).toArray)) w:=by
 have hb:=Qay h.h h.b _ uss h1 h2
 have hr:=run_build (P:=P) w t (parts.toArray.map λ(i,x)=>(i,ev f x)) _ (by simpa using hb)
 simp only[execOp,Sem.run_bind,hr,Result.andThen_ok,Sem.run_pure]
end Go.Lg
namespace Go.Proofs.YtdffckgdcegpaaaGreatDoor
open Go.Lg
def cnE (p:Ed→Bool) (es:List Ed):Int:=((es.filter p).length:Int)
def gA (n:Nat) (f:Nat→Int):LI:=(List.range n).map f
theorem QiR (n:Nat) (f:Nat→Int):(gA n f).length=n:=by simp[gA]
theorem QeM {n:Nat}{f:Nat→Int}{i:Nat}(h:i<(gA n f).length):(gA n f)[i]'h=f i:=by simp[gA]
theorem QiQ {n:Nat}{f g:Nat→Int}{i:Nat}{u:Int}(hu:u=g i) (h:∀j,j<n→j≠i→g j=f j):(gA n f).set i u=gA n g:=by
 apply List.ext_getElem
 ·simp[gA]
 ·intro k h1 h2
  rw[List.getElem_set,QeM h2]
  by_cases e:i=k
  ·rw[if_pos e,hu,e]
  ·rw[if_neg e,QeM]
   exact (h k (by simpa[gA] using h2) (Ne.symm e)).symm
def fS (es:List Ed) (s:Nat):Int:=cnE (λe=>decide (e.1<(s:Int))) es
section
variable {P:Program} {K:Fr→World→Prop} {f:Fr} {w:World} {d:Option Nat} {ty:Nat} {ps:String} {af:Array Edge} {gd:Option (Nat×Bool)}
theorem QdZ {t:Nat}[h1:XI P t] {x y:Operand}{b T i n:Nat}{g g':Nat→Int}{u:Int}(hB:Q0 w.heap b T ((gA n g).map (.int .i64))) (hx:ev f x=.pointer (some ⟨b,0+i*1,none⟩)) (hy:ev f y=.int .i64 u) (hi:i<n) (hg:(gA n g).set i u=gA n g')
  (hK:∀w',Step [b] w w'→Q0 w'.heap b T ((gA n g').map (.int .i64))→K (QX f d undef) w'):XO P ⟨d,.store t x y,ty,ps,af,gd⟩ f w K :=
 XX hB hx hy (by rw[QiR];exact hi) λw' hs hB'=>hK w' hs (by rw[←hg];exact hB')
end
end Go.Proofs.YtdffckgdcegpaaaGreatDoor
namespace Go.Lg
open Go.RowKit
section
variable {P:Program} {K:Fr→World→Prop} {f:Fr} {w:World} {d:Option Nat} {ty:Nat} {ps:String} {af:Array Edge} {gd:Option (Nat×Bool)} {ops l:List Oper}
end
end Go.Lg
namespace Go.Proofs.YtdffckgdcegpaaaGreatDoor
open Go.Lg
def J7 {α:Type}(f:Nat→α) (i:Nat) (x:α):Nat→α:=λj=>if j=i then x else f j
theorem ZP {α:Type}(f:Nat→α) (i:Nat) (x:α):J7 f i x i=x:=by simp[J7]
theorem Yb {α:Type}(f:Nat→α) {i j:Nat}(x:α) (h:j≠i):J7 f i x j=f j:=by simp[J7,h]
theorem Qdb {α β:Type}(k:α→β) (n:Nat) (f:Nat→α) (i:Nat) (x:α):((List.range n).map λj=>k (f j)).set i (k x)=(List.range n).map λj=>k (J7 f i x j):=by
 apply List.ext_getElem
 ·simp
 ·intro j h1 h2
  rw[List.getElem_set]
  by_cases e:i=j
  ·subst e;simp[ZP]
  ·rw[if_neg e];simp[Yb _ _ (Ne.symm e)]
structure J3 (base:Nat) (w:World) (n:Nat) (f:Nat→Value) (g:Nat→LI):Prop where
 own:∀i,i<n→Qt 3 base w (f i) (g i)
 dj:∀i j,i<n→j<n→i≠j→Dj (f i) (f j)
theorem J3.app {base n i:Nat}{w w':World}{f:Nat→Value}{g:Nat→LI}{v':Value}{l:LI}(h:J3 base w n f g) (hi:i<n) (ho:Qt 3 base w' v' l) (hs:Step (ob (f i)) w w')
  (hn:∀b∈ob v',b∈ob (f i)∨w.heap.size≤b):J3 base w' n (J7 f i v') (J7 g i l):=by
 refine ⟨λj hj=>?_,λj k hj hk hjk=>?_⟩
 ·by_cases e:j=i
  ·subst e;rw[ZP,ZP];exact ho
  ·rw[Yb _ _ e,Yb _ _ e]
   exact Qj (h.own j hj) hs (h.dj j i hj hi e)
 ·have key:∀j,j<n→j≠i→Dj v' (f j):=λj hj e b hb hbj=>by
   rcases hn b hb with h1 | h1
   ·exact h.dj i j hi hj (Ne.symm e) b h1 hbj
   ·have:=QQ (h.own j hj) b hbj;omega
  by_cases e1:j=i
  ·subst e1
   rw[ZP,Yb _ _ (Ne.symm hjk)]
   exact key k hk (Ne.symm hjk)
  ·rw[Yb _ _ e1]
   by_cases e2:k=i
   ·subst e2;rw[ZP];exact (key j hj e1).symm
   ·rw[Yb _ _ e2];exact h.dj j k hj hk hjk
theorem J3.step {base n:Nat}{X:LN}{w w':World}{f:Nat→Value}{g:Nat→LI}(h:J3 base w n f g) (hs:Step X w w') (hX:∀i,i<n→∀b∈ob (f i),b∉X):J3 base w' n f g :=
 ⟨λi hi=>Qj (h.own i hi) hs (hX i hi),h.dj⟩
theorem J3.ext {base n:Nat}{w w':World}{f:Nat→Value}{g:Nat→LI}(h:J3 base w n f g) (hs:Step [] w w'):J3 base w' n f g:=h.step hs (λ_ _ _ _=>by simp)
def Yi (es:List Ed) (s:Nat):LI:=(es.filter λe=>decide (e.2.2=(s:Int))).map (·.1)
theorem Qah (es:List Ed) (e:Ed) (h0:0≤e.2.2):∀s,J7 (Yi es) e.2.2.toNat (Yi es e.2.2.toNat++[e.1]) s=Yi (es++[e]) s:=by
 intro s
 unfold Yi
 rw[List.filter_append,List.map_append]
 by_cases h:s=e.2.2.toNat
 ·subst h
  rw[ZP]
  have:e.2.2=(e.2.2.toNat:Int):=by omega
  simp[←this]
 ·rw[Yb _ _ h]
  have:¬e.2.2=(s:Int):=by omega
  simp[this]
theorem Qcx {es:List Ed}{s:Nat}{p:Int}(h:p∈Yi es s):∃e∈es,e.1=p∧e.2.2=(s:Int):=by
 unfold Yi at h
 simp only[List.mem_map,List.mem_filter,decide_eq_true_eq] at h
 obtain ⟨e,⟨h1,h2⟩,h3⟩:=h
 exact ⟨e,h1,h3,h2⟩
theorem Vn (es:List Ed) (s:Nat):(Yi es s).length≤es.length:=by
 unfold Yi;rw[List.length_map];exact List.length_filter_le _ _
def bwE (s:Int) (st:LI×LI) (p:Int):LI×LI:=if cget st.1 p.toNat<0 then (st.1.set p.toNat (cget st.1 s.toNat+1),st.2++[p]) else st
def VP (n:Nat) (to:LI):LI:=(List.range n).map λi:Nat=>if (i:Int)∈to then 0 else -1
structure QfV (n:Nat) (o q:LI):Prop where
 len:o.length=n
 q:∀x∈q,0≤x∧x<(n:Int)
 le:∀x∈o,-1≤x∧x+(neg o:Int)≤n
theorem Qea (l:LI):neg l≤l.length:=List.length_filter_le _ _
theorem Qje {n:Nat}{s p:Int}{st:LI×LI}(h:QfV n st.1 st.2) (hs:0≤s∧s<(n:Int)) (hos:0≤cget st.1 s.toNat) (hp:0≤p∧p<(n:Int)) :
  QfV n (bwE s st p).1 (bwE s st p).2∧neg (bwE s st p).1+(bwE s st p).2.length=neg st.1+st.2.length∧0≤cget (bwE s st p).1 s.toNat:=by
 unfold bwE
 have hl:=h.len
 have hpl:p.toNat<st.1.length:=by omega
 have hsl:s.toNat<st.1.length:=by omega
 by_cases hc:cget st.1 p.toNat<0
 ·rw[if_pos hc]
  have hc':st.1[p.toNat]'hpl<0:=by rw[Zg hpl];exact hc
  have hv:=h.le _ (X3 hsl)
  have hng:=KJ st.1 p.toNat (cget st.1 s.toNat+1) hpl hc' (by omega)
  refine ⟨⟨by simp[hl],λx hx=>?_,λx hx=>?_⟩,?_,?_⟩
  ·simp only[List.mem_append,List.mem_singleton] at hx
   rcases hx with hx | rfl
   ·exact h.q x hx
   ·exact hp
  ·simp only[] at hx ⊢
   rcases List.mem_or_eq_of_mem_set hx with h1 | h1
   ·have:=h.le x h1;omega
   ·subst h1;omega
  ·simp only[List.length_append,List.length_singleton];omega
  ·simp only[]
   have hne:s.toNat≠p.toNat:=λe=>by rw[e] at hos;omega
   have:cget (st.1.set p.toNat (cget st.1 s.toNat+1)) s.toNat=cget st.1 s.toNat:=by
    unfold cget;simp[List.getD,List.getElem?_set_ne (Ne.symm hne)]
   rw[this];exact hos
 ·rw[if_neg hc]
  exact ⟨h,rfl,hos⟩
theorem K5 (n:Nat) (to:LI):(VP n to).length=n:=by simp[VP]
theorem Qjf {n:Nat}{to:LI}(h:∀x∈to,0≤x∧x<(n:Int)):QfV n (VP n to) to:=by
 refine ⟨K5 n to,h,λx hx=>?_⟩
 have hn:=Qea (VP n to)
 rw[K5] at hn
 unfold VP at hx
 simp only[List.mem_map] at hx
 obtain ⟨i,_,rfl⟩:=hx
 split <;> omega
theorem Qhx {n:Nat}{to:LI}{x:Int}(h:0≤x∧x<(n:Int)) (hx:x∈to):cget (VP n to) x.toNat=0:=by
 have h1:x.toNat<(VP n to).length:=by rw[K5];omega
 rw[←Zg h1]
 have:((x.toNat:Nat):Int)=x:=by omega
 simp[VP,this,hx]
def Qjm (o q:LI):Prop:=∀x∈q,0≤cget o x.toNat
theorem Qfx {n:Nat}{s p:Int}{st:LI×LI}(h:QfV n st.1 st.2) (hos:0≤cget st.1 s.toNat) (hp:0≤p∧p<(n:Int)) (h0:Qjm st.1 st.2):Qjm (bwE s st p).1 (bwE s st p).2:=by
 unfold bwE
 have hpl:p.toNat<st.1.length:=by have:=h.len;omega
 by_cases hc:cget st.1 p.toNat<0
 ·rw[if_pos hc]
  intro x hx
  simp only[] at hx ⊢
  have e1:cget (st.1.set p.toNat (cget st.1 s.toNat+1)) x.toNat=if x.toNat=p.toNat then cget st.1 s.toNat+1 else cget st.1 x.toNat:=by
   by_cases e:x.toNat=p.toNat
   ·rw[if_pos e,e];unfold cget;simp[List.getD,hpl]
   ·rw[if_neg e];unfold cget;simp[List.getD,List.getElem?_set_ne (Ne.symm e)]
  rw[e1]
  split
  ·omega
  ·rename_i e
   simp only[List.mem_append,List.mem_singleton] at hx
   rcases hx with hx | rfl
   ·exact h0 x hx
   ·exact absurd rfl e
 ·rw[if_neg hc];exact h0
theorem QdC (n:Nat):(List.replicate n (nS).cells.toList).flatten=(List.range n).map (λ_=>nS):=by
 apply List.ext_getElem
 ·simp[Value.cells]
 ·intro i h1 h2
  simp[Value.cells]
theorem Qcw (n:Nat):(List.replicate n (Value.int .i64 0).cells.toList).flatten=(gA n (λj=>if j<0 then -1 else 0)).map (Value.int .i64):=by
 apply List.ext_getElem
 ·simp[Value.cells,gA]
 ·intro i h1 h2
  simp[Value.cells,gA]
theorem yw {rv:Nat→Value}{n i:Nat}(hi:i<n):((List.range n).map rv)[0+i*1]?=some (rv i):=by simp[hi]
abbrev Lf:=List Bool
def lft (l:Lf) (s:Int):Bool:=l.getD s.toNat false
def cut (l:Lf) (s:Int):Lf:=l.set s.toNat false
def JB (ul:LI) (lf:Lf) (out:List (Int×Int)) (e:Ed):List (Int×Int) :=
 if lft lf e.1=false∨lft lf e.2.2=true∨e.2.1∉ul then out else if out.getLast?.map (·.1)=some e.1 then out else out++[(e.1,e.2.1)]
def lost (a:QT) (ul:LI) (lf:Lf):List (Int×Int):=a.ed.foldl (JB ul lf) []
def dsE (lf:Lf) (x:Int) (z:LI×LI) (y:Int):LI×LI:=if lft lf y=true∧cget z.1 y.toNat<0 then (z.1.set y.toNat (cget z.1 x.toNat+1),z.2++[y]) else z
def dsL (es:List Ed) (lf:Lf):Nat→Nat→LI×LI→LI×LI
 | 0,_,z=>z
 | f+1,i,z=>if i<z.2.length then dsL es lf f (i+1) ((Yi es (cget z.2 i).toNat).foldl (dsE lf (cget z.2 i)) z) else z
def yc (lf:Lf) (z:LI×LI) (x:Int):LI×LI:=if lft lf x=true then (z.1.set x.toNat 0,z.2++[x]) else z
def ds0 (a:QT) (lf:Lf):LI×LI:=a.mr.foldl (yc lf) (List.replicate a.st.toNat (-1),[])
def dsts (a:QT) (lf:Lf):LI:=(dsL a.ed lf a.st.toNat 0 (ds0 a lf)).1
def Kl (lf:Lf):Nat→LI→LI
 | _,[]=>[]
 | i,d::l=>if lf.getD i false=true∧d<0 then (i:Int)::Kl lf (i+1) l else Kl lf (i+1) l
def nxs (a:QT) (ul:LI) (lf:Lf):LI:=if (lost a ul lf).length≠0 then (lost a ul lf).map (·.1) else Kl lf 0 (dsts a lf)
def U5 (a:QT) (ul:LI):Nat→Lf→Lf
 | 0,lf=>lf
 | f+1,lf=>if (nxs a ul lf).length=0 then lf else U5 a ul f ((nxs a ul lf).foldl cut lf)
def lf0 (n:Nat) (fb:LI):Lf:=fb.foldl cut (List.replicate n true)
def QjL (a:QT) (fb ul:LI):Lf:=U5 a ul (a.st.toNat+1) (lf0 a.st.toNat fb)
def rstr (a:QT) (lf:Lf):QT:=⟨a.al,a.st,a.mr,a.ed.filter λe=>lft lf e.2.2⟩
def Qdq (a:QT) (lf:Lf):QT:=if a.st=0∨lft lf 0=false then ⟨a.al,0,[],[]⟩ else Jq (rstr a lf)
def zd (a:QT) (fb ul:LI):QT:=Qdq a (QjL a fb ul)
def fbs (s:Spc):LI:=s.fb.map (·.st)
def suE (c:Zu):Int:=Yv c
def suA (c:Zu):QT:=zd (spc c).a (fbs (spc c)) (unc c.ev)
def orB (b:Nat) (k:Nat):Nat:=b ||| (1 <<< k)
def jV (x:YC):Nat→Nat→List YC→Nat
 | _,b,[]=>b
 | k,b,y::l=>jV x (k+1) (if (y.a.al.any λe=>decide (e∈x.a.al))=true then orB b k else b) l
def U6 (ls:List (Int×Int)):Nat:=ls.foldl (λb l=>orB b l.1.toNat) 0
def srR (c:Zu):LN:=c.rq.map λx=>jV x 0 0 c.co
def srX (c:Zu):LN:=c.ex.map λx=>U6 x.ls
def srC (c:Zu):LN:=c.cs.map λx=>U6 x.ts
def jP (c:Zu) (k:Int):LN:=if k=1 then srR c else if k=2 then srX c else srC c
structure Jt where
 kd:Int
 ix:Int
 co:LI
def Jn (k:Int):Nat→LN→List Jt
 | _,[]=>[]
 | i,b::l=>⟨k,i,setK b 8⟩::Jn k (i+1) l
def mods (c:Zu):List Jt:=Jn 1 0 (srR c)++(Jn 2 0 (srX c)++Jn 3 0 (srC c))
def sets (c:Zu):LN:=srR c++(srX c++srC c)
def jY (c:Zu):Nat:=(sets c).foldl (λl b=>l &&& (65535 ^^^ b)) (2 ^ c.co.length - 1)
def rem (c:Zu):LI:=setK (jY c) 8
def mdE (c:Zu) (m:Jt):Int:=if Zd c≠0 then Zd c else if m.kd<1∨3<m.kd then 11 else if m.ix<0∨((jP c m.kd).length:Int)≤m.ix then 10 else if m.co=setK ((jP c m.kd).getD m.ix.toNat 0) 8 then 0 else 13
structure Prt where
 co:LI
 rq:LI
 ex:LI
 cs:LI
def chs (l:List YC) (ix:LI):List YC:=ix.map λi=>l.getD i.toNat ⟨.empty,⟨[],0,[],[]⟩⟩
def ixP (co:LI) (ls:List (Int×Int)):List (Int×Int):=ls.map λl=>((co.idxOf l.1:Int),l.2)
def mis (co:LI) (ls:List (Int×Int)):Bool:=ls.any λl=>decide (l.1∉co)
def Qgm (c:Zu) (p:Prt):List yf:=p.ex.map λi=>⟨(c.ex.getD i.toNat ⟨.empty,[]⟩).nm,ixP p.co (c.ex.getD i.toNat ⟨.empty,[]⟩).ls⟩
def Qgo (c:Zu) (p:Prt):List Xb:=p.cs.map λi=>⟨(c.cs.getD i.toNat ⟨.empty,[],0⟩).nm,ixP p.co (c.cs.getD i.toNat ⟨.empty,[],0⟩).ts,(c.cs.getD i.toNat ⟨.empty,[],0⟩).bd⟩
def Qb8 (c:Zu) (p:Prt):Zu:=⟨c.ev,chs c.co p.co,chs c.rq p.rq,Qgm c p,Qgo c p⟩
def QjJ (c:Zu) (p:Prt):Bool:=(p.ex.any λi=>mis p.co (c.ex.getD i.toNat ⟨.empty,[]⟩).ls) || (p.cs.any λi=>mis p.co (c.cs.getD i.toNat ⟨.empty,[],0⟩).ts)
def zh (c:Zu) (p:Prt):Int :=
 if Zd c≠0 then Zd c else if Xq c.co.length none p.co≠0 then Xq c.co.length none p.co else if Xq c.rq.length none p.rq≠0 then Xq c.rq.length none p.rq else
 if Xq c.ex.length none p.ex≠0 then Xq c.ex.length none p.ex else if Xq c.cs.length none p.cs≠0 then Xq c.cs.length none p.cs else if QjJ c p=true then 13 else Zd (Qb8 c p)
def prt (m:Jt):Prt:=⟨m.co,if m.kd=1 then [m.ix] else [],if m.kd=2 then [m.ix] else [],if m.kd≠1∧m.kd≠2 then [m.ix] else []⟩
def mcE (c:Zu) (m:Jt):Int:=if mdE c m≠0 then mdE c m else zh c (prt m)
def mcC (c:Zu) (m:Jt):Zu:=Qb8 c (prt m)
def msE (c:Zu) (m:Jt):Int:=if mcE c m≠0 then mcE c m else suE (mcC c m)
def msA (c:Zu) (m:Jt):QT:=suA (mcC c m)
def msL (c:Zu):List Jt→Int
 | []=>0
 | m::l=>if msE c m≠0 then msE c m else msL c l
def QbZ (c:Zu):Int:=if Zd c≠0 then Zd c else msL c (mods c)
def Qdp (c:Zu):List QT:=(mods c).map (msA c)++(rem c).map λi=>(c.co.getD i.toNat ⟨.empty,⟨[],0,[],[]⟩⟩).a
def yl (l:List QT):Int:=if K9 l≠0 then K9 l else match sync l with | none=>3 | some _=>0
def tgA (c:Zu):QT:=syA (Qdp c)
def ownr (c:Zu) (v:Int):LI:=ixs (λx:YC=>decide (v∈x.a.al)) 0 c.co
def shd (c:Zu):LI→Option (Int×Int×Int)
 | []=>none
 | v::l=>if 2≤(ownr c v).length then some (v,cget (ownr c v) 0,cget (ownr c v) 1) else shd c l
def Qif (c:Zu):Option (Int×Int×Int):=shd c (Js c.ev.length)
abbrev QP (p:Int×Int):LV:=[.int .i64 p.1,.int .i64 p.2]
theorem Yo (p:Int×Int):(QP p).length=2:=rfl
abbrev P2s (L:LN) (H:Array Obj) (v:Value) (l:List (Int×Int)):Prop:=Zo L H v l.length 2 (l.flatMap QP)
abbrev Zj (e:J0):LV:=[.string e.nm,.bool e.co,.bool e.ob,.bool e.fo,.int .i64 e.fl]
theorem zU (e:J0):(Zj e).length=5:=rfl
abbrev VN (s:ByteArray):Prop:=s.size≤9223372036854775807
structure Kr (L:LN) (H:Array Obj) (v:Value) (l:List J0):Prop where
 arr:Zo L H v l.length 5 (l.flatMap Zj)
 nm:∀e∈l,VN e.nm
theorem Kr.ext {L:LN}{w w':World}{v:Value}{l:List J0}(h:Kr L w.heap v l) (hs:Step [] w w'):Kr L w'.heap v l:=⟨h.arr.ext hs,h.nm⟩
theorem Kr.st {L:LN}{w w':World}{v:Value}{l:List J0}(h:Kr L w.heap v l) (hs:Step L w w'):Kr L w'.heap v l:=⟨h.arr.st hs,h.nm⟩
theorem Kr.up {L L':LN}{H:Array Obj}{v:Value}{l:List J0}(h:Kr L H v l) (hL:∀b∈L',b∈L∨H.size≤b):Kr L' H v l:=⟨h.arr.up hL,h.nm⟩
structure IV where
 nm:ByteArray
 p:AV
def IV.it (q:IV):YC:=⟨q.nm,q.p.a⟩
abbrev Za (q:IV):LV:=[.string q.nm,q.p.va,.int .i64 q.p.a.st,q.p.vm,q.p.ve]
theorem YE (q:IV):(Za q).length=5:=rfl
structure YZ (L:LN) (H:Array Obj) (v:Value) (qs:List IV):Prop where
 arr:Zo L H v qs.length 5 (qs.flatMap Za)
 each:∀q∈qs,Zr L H q.p.va q.p.vm q.p.ve q.p.a
 nm:∀q∈qs,VN q.nm
structure XV where
 nm:ByteArray
 v:Value
 ls:List (Int×Int)
def XV.x (q:XV):yf:=⟨q.nm,q.ls⟩
abbrev Zq (q:XV):LV:=[.string q.nm,q.v]
theorem XK (q:XV):(Zq q).length=2:=rfl
structure U0 (L:LN) (H:Array Obj) (v:Value) (qs:List XV):Prop where
 arr:Zo L H v qs.length 2 (qs.flatMap Zq)
 each:∀q∈qs,P2s L H q.v q.ls
 nm:∀q∈qs,VN q.nm
structure KV where
 nm:ByteArray
 v:Value
 ts:List (Int×Int)
 bd:Int
def KV.k (q:KV):Xb:=⟨q.nm,q.ts,q.bd⟩
abbrev Zs (q:KV):LV:=[.string q.nm,q.v,.int .i64 q.bd]
theorem Xh (q:KV):(Zs q).length=3:=rfl
structure UU (L:LN) (H:Array Obj) (v:Value) (qs:List KV):Prop where
 arr:Zo L H v qs.length 3 (qs.flatMap Zs)
 each:∀q∈qs,P2s L H q.v q.ts
 nm:∀q∈qs,VN q.nm
theorem YZ.ext {L:LN}{w w':World}{v:Value}{qs:List IV}(h:YZ L w.heap v qs) (hs:Step [] w w'):YZ L w'.heap v qs:=⟨h.arr.ext hs,λq hq=>(h.each q hq).ext hs,h.nm⟩
theorem YZ.st {L:LN}{w w':World}{v:Value}{qs:List IV}(h:YZ L w.heap v qs) (hs:Step L w w'):YZ L w'.heap v qs:=⟨h.arr.st hs,λq hq=>(h.each q hq).st hs,h.nm⟩
theorem YZ.up {L L':LN}{H:Array Obj}{v:Value}{qs:List IV}(h:YZ L H v qs) (hL:∀b∈L',b∈L∨H.size≤b):YZ L' H v qs:=⟨h.arr.up hL,λq hq=>(h.each q hq).up hL,h.nm⟩
theorem U0.ext {L:LN}{w w':World}{v:Value}{qs:List XV}(h:U0 L w.heap v qs) (hs:Step [] w w'):U0 L w'.heap v qs:=⟨h.arr.ext hs,λq hq=>(h.each q hq).ext hs,h.nm⟩
theorem U0.st {L:LN}{w w':World}{v:Value}{qs:List XV}(h:U0 L w.heap v qs) (hs:Step L w w'):U0 L w'.heap v qs:=⟨h.arr.st hs,λq hq=>(h.each q hq).st hs,h.nm⟩
theorem U0.up {L L':LN}{H:Array Obj}{v:Value}{qs:List XV}(h:U0 L H v qs) (hL:∀b∈L',b∈L∨H.size≤b):U0 L' H v qs:=⟨h.arr.up hL,λq hq=>(h.each q hq).up hL,h.nm⟩
theorem UU.ext {L:LN}{w w':World}{v:Value}{qs:List KV}(h:UU L w.heap v qs) (hs:Step [] w w'):UU L w'.heap v qs:=⟨h.arr.ext hs,λq hq=>(h.each q hq).ext hs,h.nm⟩
theorem UU.st {L:LN}{w w':World}{v:Value}{qs:List KV}(h:UU L w.heap v qs) (hs:Step L w w'):UU L w'.heap v qs:=⟨h.arr.st hs,λq hq=>(h.each q hq).st hs,h.nm⟩
theorem UU.up {L L':LN}{H:Array Obj}{v:Value}{qs:List KV}(h:UU L H v qs) (hL:∀b∈L',b∈L∨H.size≤b):UU L' H v qs:=⟨h.arr.up hL,λq hq=>(h.each q hq).up hL,h.nm⟩
structure CL where
 ve:Value
 vc:Value
 vr:Value
 vx:Value
 vk:Value
 ev:List J0
 co:List IV
 rq:List IV
 ex:List XV
 cs:List KV
def CL.cel (c:CL):Zu:=⟨c.ev,c.co.map (·.it),c.rq.map (·.it),c.ex.map (·.x),c.cs.map (·.k)⟩
abbrev CL.cells (c:CL):LV:=[c.ve,c.vc,c.vr,c.vx,c.vk]
abbrev CL.val (c:CL):Value:=.agg #[c.ve,c.vc,c.vr,c.vx,c.vk]
structure Zv (L:LN) (H:Array Obj) (c:CL):Prop where
 ev:Kr L H c.ve c.ev
 co:YZ L H c.vc c.co
 rq:YZ L H c.vr c.rq
 ex:U0 L H c.vx c.ex
 cs:UU L H c.vk c.cs
theorem Zv.ext {L:LN}{w w':World}{c:CL}(h:Zv L w.heap c) (hs:Step [] w w'):Zv L w'.heap c:=⟨h.ev.ext hs,h.co.ext hs,h.rq.ext hs,h.ex.ext hs,h.cs.ext hs⟩
theorem Zv.st {L:LN}{w w':World}{c:CL}(h:Zv L w.heap c) (hs:Step L w w'):Zv L w'.heap c:=⟨h.ev.st hs,h.co.st hs,h.rq.st hs,h.ex.st hs,h.cs.st hs⟩
theorem Zv.up {L L':LN}{H:Array Obj}{c:CL}(h:Zv L H c) (hL:∀b∈L',b∈L∨H.size≤b):Zv L' H c:=⟨h.ev.up hL,h.co.up hL,h.rq.up hL,h.ex.up hL,h.cs.up hL⟩
theorem Zv.ones {L:LN}{H:Array Obj}{c:CL}(h:Zv L H c):ZL c.cells:=⟨h.ev.arr.one,h.co.arr.one,h.rq.arr.one,h.ex.arr.one,h.cs.arr.one,trivial⟩
def QfU (N:Nat) (H:Array Obj) (v:Value) (k:Zu):Prop:=∃c:CL,v=c.val∧c.cel=k∧∀L:LN,(∀b∈L,b<N)→Zv L H c
open Go.Proofs.Tryz
theorem Vz (s:ByteArray) (hnb:VN s) (w:World):QL prog 162 [.string s] w λr w'=>r=.bool (Yw s)∧w'=w:=by
 unfold VN at hnb
 refine QL.of_W func162 rfl ntmps162 results162 (by simp) ?_
 refine Qc<|Qe<|Qf<|Qc<|Qb<|x (j1 rfl)<|Qb<|xe ?_
 refine Qg<|QC (α:=Nat) [(2,5),(8,46)] (λz=>[(8,.int .i64 z)]) (λz w'=>w'=w∧z≤s.size∧(List.range' z (s.size - z)).all (nmQ s)=(List.range' 0 s.size).all (nmQ s)) (λz=>s.size - z) (by rfl) 0 ⟨rfl,trivial⟩ ⟨rfl,Nat.zero_le _,by rw[Nat.sub_zero]⟩ ?_
 rintro k g w1 ⟨rfl,hk,hall⟩
 refine Qc<|x (QB rfl rfl)<|xe ?_
 refine Qf<|QH rfl (λh9=>?_) (λh9=>?_)
 ·refine Qz ?_
  have hke:s.size≤k:=by have h10:¬(k:Int)<(s.size:Int):=h9;omega
  rw[Qgs hke] at hall
  have hr:Yw s=decide (0<s.size∧s.size≤32):=by unfold Yw;rw[←hall];simp
  rw[hr]
  refine QV (α:=Bool) [(2,2),(47,54)] (λz=>[(2,.bool z)]) (λz w'=>w'=w1∧z=decide (0<s.size∧s.size≤32)) (by rfl) ?_ ?_
  ·refine Qw<|Qb<|x (j1 rfl)<|xb (ZF rfl rfl) (λh49=>?_) (λh49=>?_)
   ·refine Qb<|Qb<|x (j1 rfl)<|x (XS rfl rfl)<|x (Ql rfl)<|Qe ?_
    exact ⟨_,⟨rfl,trivial⟩,rfl,by first | exact bT (by omega) | exact bF (by omega) | exact bD (by omega)⟩
   refine Qb<|xs rfl<|xs rfl<|xs rfl<|x (Ql rfl)<|Qe ?_
   exact ⟨_,⟨rfl,trivial⟩,rfl,by first | exact bT (by omega) | exact bF (by omega) | exact bD (by omega)⟩
  rintro z g w2 ⟨rfl,rfl⟩
  exact Qm ⟨[_],⟨rfl,trivial⟩,rfl,rfl⟩
 have hlt:k<s.size:=by have h10:(k:Int)<(s.size:Int):=h9;omega
 rw[QdD hlt,List.all_cons] at hall
 refine Qi<|Qf<|Qg<|Qc<|Qb<|Qe<|Qc<|Qb<|Qb<|x (QdN (i:=k) rfl rfl hlt)<|Qe ?_
 have hq:nmQ s k=decide (nmP k (chr s k)):=rfl
 refine Q8 (chr s k) λc hc=>?_
 rw[hc] at hq
 refine QV (α:=Bool) [(5,5),(14,31)] (λz=>[(5,.bool z)]) (λz w'=>w'=w1∧z=decide ((97≤c∧c≤122)∨(65≤c∧c≤90)∨c=95)) (by rfl) ?_ ?_
 ·rw[←hc]
  refine Qw<|Qb<|xb (ZN rfl rfl) (λh15=>?_) (λh15=>?_)
  ·refine Qb<|Qb<|xb (XS rfl rfl) (λh18=>?_) (λh18=>?_)
   ·refine x (Ql rfl)<|Qb<|xs rfl<|xs rfl<|xs rfl<|xs rfl<|xs rfl<|xs rfl<|x (Ql rfl)<|Qb<|xs rfl<|xs rfl<|x (Ql rfl) <|
     Qe ?_
    exact ⟨_,⟨rfl,trivial⟩,rfl,by first | exact bT (by omega) | exact bF (by omega) | exact bD (by omega)⟩
   refine x (Ql rfl)<|Qb<|Qb<|xb (ZN rfl rfl) (λh22=>?_) (λh22=>?_)
   ·refine Qb<|Qb<|xb (XS rfl rfl) (λh25=>?_) (λh25=>?_)
    ·refine x (Ql rfl)<|x (Ql rfl)<|Qb<|xs rfl<|xs rfl<|x (Ql rfl)<|Qe ?_
     exact ⟨_,⟨rfl,trivial⟩,rfl,by first | exact bT (by omega) | exact bF (by omega) | exact bD (by omega)⟩
    refine x (Ql rfl)<|x (Ql rfl)<|Qb<|Qb<|x (Q5 rfl rfl)<|x (Ql rfl)<|Qe ?_
    exact ⟨_,⟨rfl,trivial⟩,rfl,by first | exact bT (by omega) | exact bF (by omega) | exact bD (by omega)⟩
   refine Qb<|xs rfl<|xs rfl<|x (Ql rfl)<|x (Ql rfl)<|Qb<|Qb<|x (Q5 rfl rfl)<|x (Ql rfl)<|x Qh <|
    xe ?_
   exact ⟨_,⟨rfl,trivial⟩,rfl,by first | exact bT (by omega) | exact bF (by omega) | exact bD (by omega)⟩
  refine Qb<|xs rfl<|xs rfl<|x (Ql rfl)<|Qb<|Qb<|xb (ZN rfl rfl) (λh22=>?_) (λh22=>?_)
  ·refine Qb<|Qb<|xb (XS rfl rfl) (λh25=>?_) (λh25=>?_)
   ·refine x (Ql rfl)<|x (Ql rfl)<|Qb<|xs rfl<|xs rfl<|x (Ql rfl)<|Qe ?_
    exact ⟨_,⟨rfl,trivial⟩,rfl,by first | exact bT (by omega) | exact bF (by omega) | exact bD (by omega)⟩
   refine x (Ql rfl)<|x (Ql rfl)<|Qb<|Qb<|x (Q5 rfl rfl)<|x (Ql rfl)<|Qe ?_
   exact ⟨_,⟨rfl,trivial⟩,rfl,by first | exact bT (by omega) | exact bF (by omega) | exact bD (by omega)⟩
  refine Qb<|xs rfl<|xs rfl<|x (Ql rfl)<|x (Ql rfl)<|Qb<|Qb<|x (Q5 rfl rfl)<|x (Ql rfl)<|x Qh <|
   xe ?_
  exact ⟨_,⟨rfl,trivial⟩,rfl,by first | exact bT (by omega) | exact bF (by omega) | exact bD (by omega)⟩
 rintro z g w4 ⟨rfl,rfl⟩
 refine QV (α:=Bool) [(32,45)] (λz=>[(45,.bool z)]) (λz w'=>w'=w4∧z=decide (¬nmP k c)) (by rfl) ?_ ?_
 ·unfold nmP
  rw[←hc]
  refine Qw<|Qb<|xb (Uh rfl) (λh33=>?_) (λh33=>?_)
  ·refine Qb<|Qb<|xb (Q5 rfl rfl) (λh36=>?_) (λh36=>?_)
   ·refine Qb<|xs rfl<|xs rfl<|x (Ql rfl)<|Qb<|xs rfl<|xs rfl<|x (Ql rfl)<|x (Ql rfl)<|xe ?_
    exact ⟨_,⟨rfl,trivial⟩,rfl,by first | exact bT (by omega) | exact bF (by omega) | exact bD (by omega)⟩
   refine Qb<|Qb<|xb (QB rfl rfl) (λh39=>?_) (λh39=>?_)
   ·refine x (Ql rfl)<|Qb<|xs rfl<|xs rfl<|x (Ql rfl)<|x (Ql rfl)<|xe ?_
    exact ⟨_,⟨rfl,trivial⟩,rfl,by first | exact bT (by omega) | exact bF (by omega) | exact bD (by omega)⟩
   refine x (Ql rfl)<|Qb<|Qb<|x (ZF rfl rfl)<|x (Ql rfl)<|x (Ql rfl)<|xe ?_
   exact ⟨_,⟨rfl,trivial⟩,rfl,by first | exact bT (by omega) | exact bF (by omega) | exact bD (by omega)⟩
  refine Qb<|xs rfl<|xs rfl<|xs rfl<|xs rfl<|xs rfl<|xs rfl<|xs rfl<|xs rfl<|xs rfl<|xs rfl<|x (Ql rfl)<|xe ?_
  exact ⟨_,⟨rfl,trivial⟩,rfl,by first | exact bT (by omega) | exact bF (by omega) | exact bD (by omega)⟩
 rintro z g w5 ⟨rfl,rfl⟩
 refine Q6 rfl (λh45=>?_) (λh45=>?_)
 ·refine Qc<|Qe ?_
  have hr:Yw s=false:=by
   unfold Yw
   rw[←hall,hq,decide_eq_false h45];rfl
  exact Qm ⟨[_],⟨rfl,trivial⟩,by rw[hr];rfl,rfl⟩
 refine Qi ?_
 have h46:nmP k c:=Decidable.not_not.1 h45
 refine Qw<|x (Qx rfl rfl ⟨by omega,by omega⟩)<|Qb<|xe ?_
 rw[hq,decide_eq_true h46,Bool.true_and] at hall
 exact ⟨k+1,by omega,⟨rfl,trivial⟩,rfl,hlt,hall⟩
def nmM (l:List ByteArray):List (ByteArray×Value):=l.map λs=>(s,.bool true)
theorem QgF (l:List ByteArray) (s:ByteArray):mget (nmM l) s=if s∈l then some (.bool true) else none:=by
 induction l with
 | nil=>rfl
 | cons a l ih =>
  show (if a=s then some (Value.bool true) else mget (nmM l) s)=_
  rw[ih]
  by_cases h:a=s
  ·subst h;simp
  ·have:s≠a:=λe=>h e.symm
   simp[h,this]
theorem Qbc {l:List ByteArray}{s:ByteArray}(h:s∉l):mput (nmM l) s (.bool true)=nmM (l++[s]):=by
 induction l with
 | nil=>rfl
 | cons a l ih =>
  have h1:a≠s:=λe=>h (by subst e;exact List.mem_cons_self)
  show (if a=s then (a,Value.bool true)::nmM l else (a,Value.bool true)::mput (nmM l) s (.bool true))=_
  rw[if_neg h1,ih (λhm=>h (List.mem_cons_of_mem _ hm))]
  rfl
section
variable {P:Program} {f:Fr} {w:World} {d:Option Nat} {ty:Nat} {ps:String} {af:Array Edge} {gd:Option (Nat×Bool)}
theorem yA {t kt et:Nat}[hm:Mp P t kt et (.bool false)] [hk:Key P kt Xi] {x y:Operand}{b:Nat}{l:List ByteArray}{s:ByteArray}(h:ZZ Xi w.heap b (nmM l)) (hx:ev f x=.map (some b)) (hy:ev f y=.string s) :
  (execOp (ev f) ⟨d,.lookup t x y false,ty,ps,af,gd⟩).run P w=.ok (.value (.bool (decide (s∈l)))) w:=by
 rw[XR h hx hy,QgF]
 by_cases hs:s∈l <;> simp[hs]
end
theorem Qav {s:List ByteArray}{l:List J0}{k:Nat}(h:k<l.length):VF s (l.drop k)=if Y2 s (l[k]'h)≠0 then Y2 s (l[k]'h) else VF (s++[(l[k]'h).nm]) (l.drop (k+1)):=by
 rw[QW h];rfl
theorem UH {L:LN}{w:World}{v:Value}{l:List J0}(h:Kr L w.heap v l):QL prog 94 [v] w λr w'=>r=.int .i64 (Jc l)∧Step [] w w':=by
 have hle:=h.arr.le
 refine QL.of_W func94 rfl ntmps94 results94 (by simp) ?_
 refine Qc<|Qe<|Qf<|Qc<|Qb<|x (Qs h.arr rfl)<|x (ZF rfl rfl)<|xe ?_
 refine Q6 rfl (λh8=>?_) (λh8=>?_)
 ·refine Qc<|Qe ?_
  exact Qm ⟨[_],⟨rfl,trivial⟩,by unfold Jc;rw[if_pos (by have h9:(32:Int)<(l.length:Int):=h8;omega)];rfl,Step.refl _ _⟩
 have hck:Jc l=VF [] l:=by unfold Jc;rw[if_neg (by have h9:¬(32:Int)<(l.length:Int):=h8;omega)]
 rw[hck]
 refine Qi<|Qc<|xl rfl<|Yk Xi λb9 w1 hs1 hb9 hm9=>Qe<|Qf<|Qc<|Qb<|x (Qs (h.arr.ext hs1) rfl)<|Qb<|xe ?_
 refine Qg<|QC (α:=Nat×List ByteArray) [(2,2),(5,5),(12,50)] (λz=>[(12,.int .i64 z.1)]) (λz w'=>z.1≤l.length∧Step [] w w'∧ZZ Xi w'.heap b9 (nmM z.2)∧VF z.2 (l.drop z.1)=VF [] l) (λz=>l.length - z.1) (by rfl) (0,[]) ⟨rfl,trivial⟩
  ⟨Nat.zero_le _,hs1,hm9,rfl⟩ ?_
 rintro ⟨k,sn⟩ g w2 ⟨hk,hs2,hm2,hcl⟩
 simp only[] at hk hm2 hcl
 refine Qc<|x (QB rfl rfl)<|xe ?_
 refine Qf<|QH rfl (λh13=>?_) (λh13=>?_)
 ·refine Qz ?_
  have hke:l.length≤k:=by have h10:¬(k:Int)<(l.length:Int):=h13;omega
  rw[List.drop_of_length_le hke] at hcl
  refine Qc<|Qe ?_
  exact Qm ⟨[_],⟨rfl,trivial⟩,by rw[←hcl];rfl,hs2⟩
 have hlt:k<l.length:=by have h10:(k:Int)<(l.length:Int):=h13;omega
 rw[Qav hlt] at hcl
 have hnm:=h.nm _ (List.getElem_mem hlt)
 refine Qi<|Qf<|Qg<|Qc<|xig zU (h.arr.ext hs2) rfl rfl hlt λa14 h14=>?_
 refine Q8 (l[k]'hlt) λe he=>?_
 rw[he] at h14 hcl hnm
 refine x (QJ h14 rfl rfl)<|xl rfl<|Qu (us:=[.string .empty,.bool false,.bool false,.bool false,.int .i64 0]) rfl λb5 w3 hs3 hb5 hB5=>xl rfl<|Qo (us:=Zj e) hB5 rfl rfl rfl rfl ⟨rfl,rfl,rfl,rfl,rfl,trivial⟩ λw4 hs4 hB5 =>
  xe ?_
 have hs24:Step [] w2 w4:=hs3.then1 hs4 hb5
 have hm4:=hm2.ext hs24
 refine Qf<|Qg<|Qc<|x (Qa rfl)<|x (Qd hB5 rfl rfl)<|xl rfl<|xf<|(Vz e.nm hnm _).mono ?_
 rintro r5 w5 ⟨rfl,rfl⟩
 refine x (Zp rfl)<|Qe<|Q2 rfl (λh16=>?_) (λh16=>?_)
 ·have hn:Yw e.nm=false:=by simpa using h16
  have h1:Y2 sn e=7:=by unfold Y2;rw[if_pos hn]
  refine Qc<|Qe ?_
  exact Qm ⟨[_],⟨rfl,trivial⟩,by rw[←hcl,h1];rfl,hs2.trans hs24⟩
 have hn:¬Yw e.nm=false:=by simpa using h16
 refine Qc<|Qb<|x (Qa rfl)<|x (Qd hB5 rfl rfl)<|x (yA hm4 rfl rfl)<|Qe<|Q6 rfl (λh21=>?_) (λh21=>?_)
 ·have h1:Y2 sn e=8:=by unfold Y2;rw[if_neg hn,if_pos h21]
  refine Qc<|Qe ?_
  exact Qm ⟨[_],⟨rfl,trivial⟩,by rw[←hcl,h1];rfl,hs2.trans hs24⟩
 refine QV (α:=Bool) [(26,34)] (λz=>[(26,.bool z)]) (λz w'=>w'=w5∧z=decide (e.fl<0∨4<e.fl)) (by rfl) ?_ ?_
 ·refine Qw<|x (Qa rfl)<|x (Qd hB5 rfl rfl)<|xb (QB rfl rfl) (λh29=>?_) (λh29=>?_)
  ·refine Qb<|xs rfl<|xs rfl<|xs rfl<|x (Ql rfl)<|Qe ?_
   exact ⟨_,⟨rfl,trivial⟩,rfl,by first | exact bT (by omega) | exact bF (by omega) | exact bD (by omega)⟩
  refine Qb<|x (Qa rfl)<|x (Qd hB5 rfl rfl)<|x (ZF rfl rfl)<|x (Ql rfl)<|Qe ?_
  exact ⟨_,⟨rfl,trivial⟩,rfl,by first | exact bT (by omega) | exact bF (by omega) | exact bD (by omega)⟩
 rintro z g w6 ⟨rfl,rfl⟩
 refine Q6 rfl (λh26=>?_) (λh26=>?_)
 ·have h1:Y2 sn e=2:=by unfold Y2;rw[if_neg hn,if_neg h21,if_pos h26]
  refine Qc<|Qe ?_
  exact Qm ⟨[_],⟨rfl,trivial⟩,by rw[←hcl,h1];rfl,hs2.trans hs24⟩
 refine QV (α:=Bool) [(35,46)] (λz=>[(35,.bool z)]) (λz w'=>w'=w6∧z=decide (e.fl≠0∧(e.co || e.ob)=true)) (by rfl) ?_ ?_
 ·refine Qw<|x (Qa rfl)<|x (Qd hB5 rfl rfl)<|xb (Q9 rfl rfl) (λh38=>?_) (λh38=>?_)
  ·refine Qb<|x (Qa rfl)<|xB (Qd hB5 rfl rfl) (λh41=>?_) (λh41=>?_)
   ·refine Qb<|xs rfl<|xs rfl<|x (Ql rfl)<|x (Ql rfl)<|Qe ?_
    exact ⟨_,⟨rfl,trivial⟩,rfl,by rw[h41,decide_eq_true ⟨h38,by simp⟩]⟩
   ·refine Qb<|x (Qa rfl)<|x (Qd hB5 rfl rfl)<|x (Ql rfl)<|x (Ql rfl)<|Qe<|⟨_,⟨rfl,trivial⟩,rfl,?_⟩
    show e.ob=_
    rw[h41];cases e.ob <;> simp[show ¬e.fl=0 from h38]
  refine Qb<|xs rfl<|xs rfl<|xs rfl<|xs rfl<|xs rfl<|xs rfl<|x (Ql rfl)<|Qe ?_
  exact ⟨_,⟨rfl,trivial⟩,rfl,bF (λh1=>h38 h1.1)⟩
 rintro z g w7 ⟨rfl,rfl⟩
 refine Q6 rfl (λh35=>?_) (λh35=>?_)
 ·have h1:Y2 sn e=13:=by unfold Y2;rw[if_neg hn,if_neg h21,if_neg h26,if_pos h35]
  refine Qc<|Qe ?_
  exact Qm ⟨[_],⟨rfl,trivial⟩,by rw[←hcl,h1];rfl,hs2.trans hs24⟩
 have h1:Y2 sn e=0:=by unfold Y2;rw[if_neg hn,if_neg h21,if_neg h26,if_neg h35]
 rw[h1,if_neg (λh=>h rfl)] at hcl
 refine Qi<|Qw<|Qb<|x (Qa rfl)<|x (Qd hB5 rfl rfl)<|xl rfl<|Xe (k:=e.nm) hm4 rfl rfl λw8 hs8 hm8=>xe ?_
 refine Qw<|x (Qx rfl rfl ⟨by omega,by omega⟩)<|Qb<|xe ?_
 have hm8':ZZ Xi w8.heap b9 (nmM (sn++[e.nm])):=by rw[←Qbc h21];exact hm8
 exact ⟨(k+1,sn++[e.nm]),by simp only[];omega,⟨rfl,trivial⟩,hlt,(hs2.trans hs24).then1 hs8 hb9,hm8',hcl⟩
theorem yR {α:Type}(q:α→Bool) (x:α):∀(l:List α) (i:Nat),ixs q i (l++[x])=ixs q i l++if q x=true then [((i+l.length:Nat):Int)] else []
 | [],i=>by simp[ixs]
 | a::l,i=>by
  have ih:=yR q x l (i+1)
  simp only[List.cons_append,ixs,ih,List.length_cons]
  rw[show i+1+l.length=i+(l.length+1) by omega]
  split <;> simp
theorem KP {α:Type}(q:α→Bool):∀(l:List α) (i:Nat),(ixs q i l).length≤l.length
 | [],i=>by simp[ixs]
 | a::l,i=>by
  have ih:=KP q l (i+1)
  unfold ixs;split <;> simp <;> omega
theorem Uv {α:Type}(q:α→Bool) {l:List α}{k:Nat}(h:k<l.length):ixs q 0 (l.take (k+1))=ixs q 0 (l.take k)++if q (l[k]'h)=true then [(k:Int)] else []:=by
 rw[List.take_succ_eq_append_getElem h,yR]
 simp[Nat.min_eq_left (Nat.le_of_lt h)]
theorem QcL {g:Nat}{fn:Func}[Fu prog g fn] {q:J0→Bool}(hq:∀(e:J0) (w:World),QL prog g [.agg (Zj e).toArray] w λr w'=>r=.bool (q e)∧Step [] w w') {L:LN}{w:World}{v:Value}{l:List J0}(h:Kr L w.heap v l) :
  QL prog 114 [v,.func (.func g) #[] #[]] w λr w'=>Step [] w w'∧Qt 3 w.heap.size w' r (ixs q 0 l):=by
 have hle:=h.arr.le
 refine QL.of_W func114 rfl ntmps114 results114 (by simp) ?_
 refine Qc<|Qe<|Qc<|Qe<|Qf<|Qc<|Qb<|x (Qs h.arr rfl)<|Qb<|xe ?_
 refine Qg<|QC (α:=Nat×Value) [(5,7),(10,22)] (λz=>[(5,z.2),(10,.int .i64 z.1)]) (λz w'=>z.1≤l.length∧Step [] w w'∧Qt 3 w.heap.size w' z.2 (ixs q 0 (l.take z.1))) (λz=>l.length - z.1) (by rfl) (0,nS) ⟨rfl,rfl,trivial⟩
  ⟨Nat.zero_le _,Step.refl _ _,QO _ _ _ _⟩ ?_
 rintro ⟨k,vo⟩ g w1 ⟨hk,hs1,ho1⟩
 simp only[] at hk ho1
 refine Qc<|x (QB rfl rfl)<|xe ?_
 refine Qf<|QH rfl (λh11=>?_) (λh11=>?_)
 ·refine Qz ?_
  have hke:l.length≤k:=by have h10:¬(k:Int)<(l.length:Int):=h11;omega
  rw[List.take_of_length_le hke] at ho1
  refine Qc<|Qb<|Qe ?_
  exact Qm ⟨[_],⟨rfl,trivial⟩,hs1,ho1⟩
 have hlt:k<l.length:=by have h10:(k:Int)<(l.length:Int):=h11;omega
 have htk:=Uv q hlt
 have hil:=KP q (l.take k) 0
 have htl:(l.take k).length=k:=by simp;omega
 refine Qi<|Qf<|Qg<|Qc<|Qb<|xig zU (h.arr.ext hs1) rfl rfl hlt λa13 h13=>?_
 refine Q8 (l[k]'hlt) λe he=>?_
 rw[he] at h13 htk
 refine x (QJ h13 rfl rfl)<|xl rfl<|Qu (us:=[.string .empty,.bool false,.bool false,.bool false,.int .i64 0]) rfl λb7 w2 hs2 hb7 hB7=>x Qh <|
  xl rfl<|Qo (us:=Zj e) hB7 rfl rfl rfl rfl ⟨rfl,rfl,rfl,rfl,rfl,trivial⟩ λw3 hs3 hB7=>xe ?_
 have hs13:Step [] w1 w3:=hs2.then1 hs3 hb7
 refine Qc<|Qb<|x (Qr hB7 rfl rfl)<|xl rfl<|xc (first:=[]) (capt:=[]) rfl<|(hq e w3).mono ?_
 rintro r4 w4 ⟨rfl,hs4⟩
 have hs14:=hs13.trans hs4
 have ho4:=Qq ho1 hs14
 have hz4:=(hs1.trans hs14).size
 refine xe ?_
 refine Q2 rfl (λh17=>?_) (λh17=>?_)
 ·rw[if_pos h17] at htk
  refine Qw<|Qb<|Qb<|xl rfl<|QD (us:=[[.int .i64 k]]) rfl rfl (by decide) (by simp) ⟨rfl,rfl,trivial⟩ λb20 w5 hs5 hb20 hB20=>?_
  have ho5:=Qq ho4 hs5
  have hz5:=hs5.size
  refine xl rfl<|QY (news:=[.int .i64 k]) (L:=[]) ho5 rfl rfl rfl (hB20.at (by simp)) (by simp[Value.oneCell']) (by omega) (by omega) λv6 w6 ho6 hs6 hn6 =>
   Qe ?_
  have hge:=Qk ho4
  refine Qw<|x (Qx rfl rfl ⟨by omega,by omega⟩)<|Qb<|xe ?_
  refine ⟨(k+1,v6),by simp only[];omega,⟨rfl,rfl,trivial⟩,hlt,((hs1.trans hs14).trans hs5).then hs6 (λb hb=>.inr (hge b hb).1),?_⟩
  simp only[]
  rw[htk];exact Qt.snoc ho6
 rw[if_neg (by rw[h17];decide),List.append_nil] at htk
 refine Qi<|Qw<|x (Qx rfl rfl ⟨by omega,by omega⟩)<|Qb<|xe ?_
 exact ⟨(k+1,vo),by simp only[];omega,⟨rfl,rfl,trivial⟩,hlt,hs1.trans hs14,by simp only[];rw[htk];exact ho4⟩
theorem QaC (e:J0) (w:World):QL prog 109 [.agg (Zj e).toArray] w λr w'=>r=.bool (!e.co)∧Step [] w w':=by
 refine QL.of_W func109 rfl ntmps109 results109 (by simp) ?_
 refine Qc<|xl rfl<|QR (us:=Zj e) rfl λb1 w1 hs1 hb1 hB1=>Qe<|Qc<|x (Qa rfl)<|x (Qd hB1 rfl rfl)<|x (Zp rfl)<|Qe ?_
 exact Qm ⟨[_],⟨rfl,trivial⟩,rfl,hs1⟩
theorem QcV {L:LN}{w:World}{v:Value}{l:List J0}(h:Kr L w.heap v l):QL prog 44 [v,.int .i64 2] w λr w'=>Step [] w w' ∧
  ∃vo,r=.tuple #[vo,.int .i64 (Jc l)]∧Qt 3 w.heap.size w' vo (if Jc l=0 then unc l else []):=by
 refine QL.of_W func44 rfl ntmps44 results44 (by simp) ?_
 refine Qc<|x Qh<|Qe<|Qf<|Qc<|Qb<|xl rfl<|xf<|(UH h).mono ?_
 rintro r1 w1 ⟨rfl,hs1⟩
 refine Qe<|Qc<|Qb<|x (Q9 rfl rfl)<|xe ?_
 refine Q6 rfl (λh13=>?_) (λh13=>?_)
 ·refine Qc<|Qb<|x Qh<|Qe ?_
  exact Qm ⟨[_,_],⟨rfl,rfl,trivial⟩,hs1,_,rfl,by rw[if_neg h13];exact QO _ _ _ _⟩
 have h14:Jc l=0:=Decidable.not_not.1 h13
 refine Qi<|Qc<|xl rfl<|Yk Kd λb15 w2 hs2 hb15 hm2=>xl rfl<|YR (k:=1) hm2 rfl rfl λw3 hs3 hm3=>xl rfl<|YR (k:=2) hm3 rfl rfl λw4 hs4 hm4 =>
  xl rfl<|YR (k:=3) hm4 rfl rfl λw5 hs5 hm5=>xl rfl<|YR (k:=4) hm5 rfl rfl λw6 hs6 hm6=>xl rfl<|YR (k:=5) hm6 rfl rfl λw7 hs7 hm7=>xl rfl<|YR (k:=6) hm7 rfl rfl λw8 hs8 hm8 =>
  Qb<|Qe ?_
 have hb15':w1.heap.size≤b15:=hb15
 have hs18:Step [] w1 w8:=(((((hs2.then1 hs3 hb15).then1 hs4 hb15).then1 hs5 hb15).then1 hs6 hb15).then1 hs7 hb15).then1 hs8 hb15
 refine Qc<|Qb<|Qb<|x (qA (k:=(2:Int)) hm8 rfl rfl rfl)<|Qb<|x (Qp rfl rfl)<|x (Qp rfl rfl)<|x Qh<|Qe<|Qf<|Qc<|Qb<|x (Zp rfl)<|xe ?_
 refine Ye rfl ?_
 refine Qi ?_
 have hs08:=hs1.trans hs18
 refine Qc<|Qb<|Qb<|xl rfl<|xf<|(QcL QaC (h.ext hs08)).mono ?_
 rintro r9 w9 ⟨hs9,ho9⟩
 refine x Qh<|Qe<|Qm ⟨[_,_],⟨rfl,rfl,trivial⟩,hs08.trans hs9,_,by rw[h14];rfl,?_⟩
 rw[if_pos h14];exact Zi ho9 hs08.size
end Go.Proofs.YtdffckgdcegpaaaGreatDoor
