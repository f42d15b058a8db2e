/- Merged out of 19 texts. -/
import Derived.Test.YtdffckgdcegpaaaGreatDoorKne
import Derived.Test.YtdffckgdcegpaaaGreatDoorRows
import Derived.JoinedOf
import Derived.Test.YtdffckgdcegpaaaGreatDoorCards
import Derived.SevenTiedAt
namespace Go.Proofs.YtdffckgdcegpaaaGreatDoor
open Go.Proofs.Tryz
open Go.Lg
structure EV where
 v:Value
 e:En
abbrev YE (p:EV):LV:=[.int .i64 p.e.x,.int .i64 p.e.y,p.v]
theorem ym (p:EV):(YE p).length=3:=rfl
def KnB (m:List ((Int×Int)×Value)) (K:List (Int×Int)):Prop:=∀k,mget m k=if k∈K then some (.bool true) else none
theorem KnB.add {m:List ((Int×Int)×Value)}{K:List (Int×Int)}(h:KnB m K) (k:Int×Int):KnB (mput m k (.bool true)) (K++[k]):=by
 intro q;rw[Xx,h q];by_cases e:k=q
 ·subst e;simp
 by_cases hq:q∈K
 ·rw[if_neg e,if_pos hq,if_pos (LE _ hq)]
 rw[if_neg e,if_neg hq,if_neg (λhm=>by
  rcases Lp.1 hm with h1 | h1
  ·exact hq h1
  simp only[List.mem_singleton] at h1;exact e h1.symm)]
structure EqM (wB:World) (bm:Nat) (vL:Value) (es:List EV) (w:World):Prop where
 st:Step [] wB w
 l:w.ownsRow wB.heap.size 231 3 vL es.length (es.flatMap YE)
 m:∃m,ZE Zy w.heap bm m∧KnB m (((es.map (·.e)).drop 1).map En.ky)
 nb:bm∉ob vL
 gb:wB.heap.size≤bm
 each:∀p∈es,QO (bm::ob vL) w.heap p.v p.e.u
theorem EqM.ext {wB w w':World}{bm:Nat}{vL:Value}{es:List EV}(h:EqM wB bm vL es w) (hs:Step [] w w'):EqM wB bm vL es w' :=
 ⟨h.st.trans hs,Qt h.l hs,let ⟨m,h1,h2⟩:=h.m;⟨m,h1.ext hs,h2⟩,h.nb,h.gb,λp hp=>(h.each p hp).ext hs⟩
theorem EqM.ltb {wB w:World}{bm:Nat}{vL:Value}{es:List EV}(h:EqM wB bm vL es w):bm<w.heap.size:=let ⟨_,h1,_⟩:=h.m;h1.lt
theorem EqM.add {wB w J E G:World}{bm:Nat}{vL vL':Value}{es:List EV}{p:EV}{m:List ((Int×Int)×Value)}(h:EqM wB bm vL es w) (Z:0<es.length) (S:Step [bm] w J) (hm:ZE Zy J.heap bm m) (hk:KnB m ((((es.map (·.e)).drop 1).map En.ky)++[p.e.ky])) (H:Step [] J E)
  (U:Step (ob vL) E G) (hl:G.ownsRow wB.heap.size 231 3 vL' (es.length+1) (es.flatMap YE++YE p)) (V:∀b∈ob vL',b∈ob vL∨E.heap.size≤b) (hp:QO (bm::ob vL) w.heap p.v p.e.u):EqM wB bm vL' (es++[p]) G:=by
 have ha:=S.size;have hc:=H.size;have he:=h.ltb;have Y:=Qm h.l;have S12:Step [] wB E:=(h.st.then1 S h.gb).trans H;refine ⟨S12.then U (λb hb=>.inr (Y b hb).1),by rw[Lk,LL];simpa using hl,⟨m,(hm.ext H).step U h.nb,?_⟩,λhb=>?_,h.gb,λq hq=>?_⟩
 ·rw[LA,Nj (by simp;omega),LA];exact hk
 ·rcases V bm hb with h1 | h1
  ·exact h.nb h1
  omega
 have key:∀q:EV,QO (bm::ob vL) w.heap q.v q.e.u→QO (bm::ob vL') G.heap q.v q.e.u:=λq hq=>by
  have h1:QO (bm::ob vL) E.heap q.v q.e.u:=(hq.step S (λb hb=>by simp at hb;simp[hb])).ext H;have h2:QO (bm::(ob vL'++ob vL)) E.heap q.v q.e.u:=h1.up (λb hb=>by
   rcases Li.1 hb with rfl | hb
   ·exact .inl Lh
   rcases Lp.1 hb with hb | hb
   ·rcases V b hb with h3 | h3
    ·exact .inl (Le _ h3)
    exact .inr h3
   exact .inl (Le _ hb))
  exact (h2.step U (λb hb=>by simp[hb])).up (λb hb=>.inl (by
   rcases Li.1 hb with rfl | hb
   ·exact Lh
   exact Le _ (LE _ hb)))
 rcases Lp.1 hq with hq | hq
 ·exact key q (h.each q hq)
 simp only[List.mem_singleton] at hq;subst hq;exact key q hp
theorem Qmr {es:List EV}{i:Nat}(h:i<es.length):(es.map (·.e)).getD i en0=(es[i]'h).e:=by simp[List.getD,h]
set_option maxHeartbeats 16000000 in
theorem jf {w:World}{pva pvm pve sva svm sve tva tvm tve:Value}{aP aS aT:QE}(hP:Zi [] w.heap pva pvm pve aP) (hS:Zi [] w.heap sva svm sve aS) (hT:Zi [] w.heap tva tvm tve aT) (pg:QK aP→QK aS→aP.st≤100∧aS.st≤100) (ph:QK aP→QK aT→aP.st≤100∧aT.st≤100)
  (gr:Xf aP aS=0) (g4:Xf aP aT=0) :
  QM prog 48 [.agg #[pva,.int .i64 aP.st,pvm,pve],.agg #[sva,.int .i64 aS.st,svm,sve],.agg #[tva,.int .i64 aT.st,tvm,tve]] w λr w'=>Step [] w w' ∧
   match eqv (Xa aP aS) (Xa aP aT) aP.al with | some u=>∃v,r=.tuple #[v,.bool false,.int .i64 0]∧QO [] w'.heap v u | none=>r=.tuple #[Zr,.bool true,.int .i64 0]:=by
 obtain ⟨o1,o2,_⟩:=Yw gr;obtain ⟨pj,hL,_⟩:=Yq gr;obtain ⟨pn,hM,_⟩:=Yq g4;refine QM.of_W func48 O ntmps48 results48 (by simp) ?_;refine Zs (Xa aP aS) λA hA=>Zs (Xa aP aT) λB hB=>?_;rw[hA] at hL pj;rw[hB] at hM pn;rw[hA,hB]
 refine Qd<|xl O<|QS (us:=[pva,.int .i64 aP.st,pvm,pve]) O λb3 w1 hI hb3 g5=>xl O<|QS (us:=[sva,.int .i64 aS.st,svm,sve]) O λb4 w2 hw hb4 pp=>xl O<|QS (us:=[tva,.int .i64 aT.st,tvm,tve]) O λb5 w3 hh hb5 pt=>x Qe <|
  x Qe<|Qf ?_
 have g6:=(hI.trans hw).trans hh;refine Qd<|x (Qo ((g5.ext hw).ext hh) O O)<|x (Qo (pp.ext hh) O O)<|xl O<|xf<|(KP (hP.ext g6) (hS.ext g6) pg).mono ?_;rintro r4 w4 ⟨V,va4,vt4,k0,pu⟩;rw[gr] at k0;subst k0;have k4:=(pu.good gr).1;rw[hA] at k4;obtain ⟨ava,avm,ave,rfl,pw⟩:=k4;have gs:=pw [] (by simp);refine Qb<|x (Qk O O) <|
  x (Qk rfl O)<|x (Qk O O)<|xl O<|Qu (us:=[nS,.int .i64 0,nS,nS]) O λb9 w5 H pz p0=>xl O<|Qq (us:=[ava,.int .i64 A.st,avm,ave]) p0 O O O O ⟨gs.al.one,O,gs.mr.one,gs.ed.one,La⟩ λw6 h4 p1 =>
  x Qe<|Qf ?_
 have k5:Step [] w4 w6:=H.then1 h4 pz;have gt:=V.trans k5;have g7:=g6.trans gt;refine Qg<|Qd<|Qb<|x (Zj O O)<|xe<|ZW rfl ?_;refine Qj<|Qd<|x (Qo (((g5.ext hw).ext hh).ext gt) O O)<|x (Qo (pt.ext gt) O O)<|xl O<|xf<|(KP (hP.ext g7) (hT.ext g7) ph).mono ?_;rintro r7 w7 ⟨p2,va7,vt7,k6,p3⟩;rw[g4] at k6;subst k6;have k7:=(p3.good g4).1;rw[hB] at k7
 obtain ⟨bva,bvm,bve,rfl,p4⟩:=k7;have gu:=p4 [] (by simp);refine Qb<|x (Qk O O) <|
  x (Qk rfl O)<|x (Qk O O)<|xl O<|Qu (us:=[nS,.int .i64 0,nS,nS]) O λb11 w8 p5 p6 p7=>xl O<|Qq (us:=[bva,.int .i64 B.st,bvm,bve]) p7 O O O O ⟨gu.al.one,O,gu.mr.one,gu.ed.one,La⟩ λw9 p8 g8 =>
  x Qe<|Qf ?_
 have k8:Step [] w7 w9:=p5.then1 p8 p6;have gv:=p2.trans k8;have k9:=g7.trans gv;have p9:=(gs.ext k5).ext gv;have qa:=gu.ext k8;have g9:=p1.ext gv;have qe:=hP.ext k9;have qf:=(((g5.ext hw).ext hh).ext gt).ext gv;refine Qg<|Qd<|Qb<|x (Zj O O)<|xe<|ZW rfl ?_
 refine Qj<|Qd<|Qf<|Qd<|x (QG ⟨O,O,O,La⟩)<|xl O<|Qu (us:=[.int .i64 0,.int .i64 0,nS]) O λma w10 ql ka qm=>xl O<|Qq (us:=[.int .i64 (-1),.int .i64 (-1),nS]) qm O O O O ⟨O,O,O,La⟩ λq0 q1 mc =>
  xe ?_
 have kb:Step [] w9 q0:=ql.then1 q1 ka;refine Zs (if 0<A.st then (0:Int) else -1) λhN hW=>Zs (if 0<B.st then (0:Int) else -1) λhX hY=>?_
 refine Q0 (α:=Unit) [(45,48)] (λz=>[]) (λz w'=>Step [] w9 w'∧QX w'.heap ma 231 [.int .i64 hN,.int .i64 (-1),nS]) (by rfl) ?_ ?_
 ·refine Qd<|x (Qa O)<|x (Qc (g9.ext kb) O O)<|x (ZL O O)<|xe<|QI O (λkc=>?_) (λkc=>?_)
  ·refine Qj ?_;rw[if_neg kc] at hW;rw[←hW];exact ⟨(),La,kb,mc⟩
  rw[if_pos kc] at hW;rw[←hW];refine Qx<|x (Qa O)<|xl O<|QH (j:=0) mc O O (by simp) rfl λw12 q2 q3=>xe ?_;exact ⟨(),La,kb.then1 q2 ka,q3⟩
 rintro _ g13 w13 ⟨ke,mf⟩;refine Q0 (α:=Unit) [(49,52)] (λz=>[]) (λz w'=>Step [] w9 w'∧QX w'.heap ma 231 [.int .i64 hN,.int .i64 hX,nS]) (by rfl) ?_ ?_
 ·refine Qd<|x (Qa O)<|x (Qc (g8.ext ke) O O)<|x (ZL O O)<|xe<|QI O (λkf=>?_) (λkf=>?_)
  ·refine Qj ?_;rw[if_neg kf] at hY;rw[←hY];exact ⟨(),La,ke,mf⟩
  rw[if_pos kf] at hY;rw[←hY];refine Qx<|x (Qa O)<|xl O<|QH (j:=1) mf O O (by simp) rfl λw14 q4 q5=>xe ?_;exact ⟨(),La,ke.then1 q4 ka,q5⟩
 rintro _ g15 kg ⟨ge,j1⟩;have mg:=p9.ext ge;have mh:=qa.ext ge;refine Qg<|QV (Step [] kg) [(0,true),(2,true),(1,false),(3,false),(4,true),(5,true)] mixed (by rfl) (by kernel_rfl) (Step.drew _ _) ?_;refine pq (λ_ hc=>Qo ((g9.ext ge).ext hc) O O)<|pq (λ_ hc=>Qo ((g8.ext ge).ext hc) O O)<|pk<|xf<|(JV (mg.ed.ext (Step.drew [] kg))).mono ?_
 rintro r16 w16 ⟨j2,bu,rfl,hbu,za⟩;have kh:=(Step.drew [] kg).trans j2;refine ⟨kh,?_⟩;refine pk<|xf<|(JV (mh.ed.ext kh)).mono ?_;rintro r17 gx ⟨mj,bv,rfl,hbv,zb⟩;have gg:=kh.trans mj;refine ⟨gg,?_⟩;refine p (λ_=>Qe)<|p (λ_=>Qe)<|pe ?_;have z0:=za.ext mj;have gh:=ge.trans gg;have z1:=mg.ext gg;have z2:=mh.ext gg
 have mo:=qe.ext gh;have z3:=qf.ext gh;have z4:=g9.ext gh;have z5:=g8.ext gh;refine Qd<|x (Qo (j1.ext gg) O O)<|xl O<|QL (us:=[YE ⟨nS,⟨hN,hX,[]⟩⟩]) O O (by decide) (by exact (by decide:1*3≤1000000)) ⟨O,O,La⟩ λmq w18 ms z6 mt=>Qf<|Qd<|xl O<|ZM Zy λgi z9 mu hb59 hm59=>Qf ?_;have hl58:=mt.lt;have hz18:=ms.size
 have hI0:EqM gx gi (.slice (some ⟨mq,0,none⟩) 1 1) [⟨nS,⟨hN,hX,[]⟩⟩] z9:=by
  refine ⟨ms.trans mu,Qt (mt.own (n:=1) O (by omega) z6) mu,⟨[],hm59,λk=>by simp[mget]⟩,by simp[ob];omega,by omega,λp hp=>?_⟩;simp only[List.mem_singleton] at hp;subst hp;exact Zz.nil _ _ _
 have hst0:=hL.st0;have hst1':=hL.st1;have htt0:=hM.st0;have htt1:=hM.st1;refine Zs ((A.st.toNat+1)*(B.st.toNat+1)+1) λF hF=>?_;have hFb:F≤16785410:=by
  have h1:(A.st.toNat+1)*(B.st.toNat+1)≤4097*4097:=Nat.mul_le_mul (by omega) (by omega);omega
 refine Zs (eqv A B aP.al) λR hR=>?_;rw[hR];have hR0:eqL A B aP.al F 0 (([⟨nS,⟨hN,hX,[]⟩⟩]:List EV).map (·.e))=R:=by rw[←hR];unfold eqv eqI;rw[hF,hW,hY];rfl
 have hJ0:EnI A B (([⟨nS,⟨hN,hX,[]⟩⟩]:List EV).map (·.e)):=by have:=Qnw A B hst0 htt0;unfold eqI at this;rw[hW,hY] at this;exact this
 have hall:=o1.al_le;refine Qg<|Qd<|Qf<|Qh<|QC (α:=Nat×Value×List EV) [(6,8),(17,17),(19,19),(21,23),(60,133)] (λz=>[(17,z.2.1),(19,.int .i64 z.1)])
  (λz w'=>z.1≤F∧z.1≤z.2.2.length∧EqM gx gi z.2.1 z.2.2 w'∧EnI A B (z.2.2.map (·.e))∧eqL A B aP.al (F - z.1) z.1 (z.2.2.map (·.e))=R) (λz=>F - z.1) (by rfl) (0,.slice (some ⟨mq,0,none⟩) 1 1,[⟨nS,⟨hN,hX,[]⟩⟩]) ⟨O,O,La⟩
  ⟨Lm _,Lm _,hI0,hJ0,hR0⟩ ?_
 rintro ⟨i,vL,es⟩ g20 hZ ⟨hiF,hil,ga,gy,hJ⟩;simp only[] at hiF hil ga gy hJ;have hle20:=gy.le hL hM;rw[hF,Lo] at hle20;have mv:Step [] w hZ:=(k9.trans gh).trans ga.st;have hO:Zz [] hZ.heap vL es.length 3 (es.flatMap YE):=QW ga.l (by omega) (λb _=>by simp);refine Qg<|Qd<|Qb<|Qb<|x (Qw hO O)<|x (QD O O)<|xe<|QI rfl (λki=>?_) (λki=>?_)
 ·refine Qy ?_;have hRn:R=none:=by
   rw[←hJ];have h64:¬i<(es.map (·.e)).length:=by rw[Lo];have h65:¬(i:Int)<(es.length:Int):=ki;omega
   generalize F - i=f;cases f with
   | zero=>rfl
   | succ f=>rw[eqL,if_neg h64]
  rw[hRn];refine Qd<|x Qe<|x Qe<|Qf ?_;exact Qs ⟨[Zr,.bool true,.int .i64 0],⟨O,O,O,La⟩,mv,O⟩
 have hi:i<es.length:=by have h65:(i:Int)<(es.length:Int):=ki;omega
 have hFi:F - i=(F - (i+1))+1:=by omega
 rw[hFi,eqL,if_pos (by rw[Lo];exact hi),Qmr hi] at hJ;have mw:=ga.each _ (Lj hi);have my:(es.map (·.e))[i]'(by rw[Lo];exact hi)=(es[i]'hi).e:=by rw[Mv]
 have mz:=gy.wd i (by rw[Lo];exact hi);rw[my] at mz;refine Zs (es[i]'hi) λei hC=>?_;rw[hC] at hJ mw my mz;have gz:=ga.st;have h2:=mw.up (L':=[]) (λb hb=>by cases hb);refine Qj<|Qg<|Qh<|Qg<|Qg<|QV (Step [] hZ) [(0,true),(1,true),(2,true),(3,true),(4,true),(5,true),(6,false)] mixed (by rfl) (by kernel_rfl) (Step.drew _ _) ?_
 refine p (λ_=>Ql)<|p (λ_=>Ql)<|Lg.pig (g:=YE) (i:=i) O ym hO O O hi λa68 m0=>?_;rw[hC] at m0;refine pq (λ_ hc=>QQ (m0.ext hc) O O) <|
  pq (λ_ hc=>Qo ((z4.ext gz).ext hc) O O)<|pq (λ_ hc=>Qo ((z5.ext gz).ext hc) O O)<|pk<|xf<|(Qf6 ((z1.ext gz).ext (Step.drew [] hZ)) ((z2.ext gz).ext (Step.drew [] hZ)) hL.mri hM.mri ei.e.x ei.e.y).mono ?_
 rintro r21 w21 ⟨rfl,hs21⟩;have gj:=(Step.drew [] hZ).trans hs21;refine ⟨gj,?_⟩;refine pe<|Q8 rfl (λkj=>?_) (λkj=>?_)
 ·rw[if_pos kj] at hJ;rw[←hJ];refine Qd<|Qb<|Qb<|xig (g:=YE) (i:=i) ym (hO.ext gj) O O hi λa75 m2=>?_;rw[hC] at m2;refine x (Zn O)<|x (Qv (m2.fld 2 _ O) O)<|x Qe <|
   x Qe<|Qf ?_
  exact Qs ⟨[ei.v,.bool false,.int .i64 0],⟨O,O,O,La⟩,mv.trans gj,ei.v,O,h2.ext gj⟩
 rw[if_neg (by rw[kj];simp)] at hJ;have m3:=ga.ext gj;refine Zs (aP.al.foldl (eqS A B ei.e) (es.map (·.e))) λL1 m4=>?_;rw[m4] at hJ;refine Qj<|Qd<|x (Qa O)<|x (Qc (z3.ext m3.st) O O)<|x (Qw mo.al O)<|Qb<|xe<|Qh<|QC (α:=Nat×Value×List EV) [(17,17),(21,23),(81,133)] (λz=>[(17,z.2.1),(81,.int .i64 z.1)])
  (λz w'=>z.1≤aP.al.length∧EqM gx gi z.2.1 z.2.2 w'∧EnI A B (z.2.2.map (·.e))∧(∃h:i<z.2.2.length,z.2.2[i]'h=ei)∧(aP.al.drop z.1).foldl (eqS A B ei.e) (z.2.2.map (·.e))=L1) (λz=>aP.al.length - z.1) (by rfl) (0,vL,es) ⟨O,O,La⟩
  ⟨Lm _,m3,gy,⟨hi,hC⟩,m4⟩ ?_
 rintro ⟨k,vL2,fs⟩ g22 hl ⟨hk,hK,gk,kk,hD⟩;simp only[] at hk hK gk kk hD;have hle22:=gk.le hL hM;rw[hF,Lo] at hle22;refine Qd<|x (QD O O)<|xe<|Qg<|QI O (λkn=>?_) (λkn=>?_)
 ·refine Qy ?_;have hk2:aP.al.length≤k:=by have g0:¬(k:Int)<(aP.al.length:Int):=kn;omega
  rw[Lr hk2] at hD;have hr22':fs.map (·.e)=L1:=hD;rw[←hr22'] at hJ;refine Qx<|Qb<|QN O O<|Qf ?_;exact ⟨(i+1,vL2,fs),by simp only[];omega,⟨O,O,La⟩,by simp only[];omega,by simp only[];exact kk.1,hK,gk,hJ⟩
 have gl:k<aP.al.length:=by have g0:(k:Int)<(aP.al.length:Int):=kn;omega
 rw[Q9 gl,Ls] at hD;refine Zs (aP.al[k]'gl) λE m5=>?_;rw[m5] at hD;have ko:=hK.st;have hP22:=mo.ext ko;refine Qj<|Qg<|Qh<|Qd<|xii hP22.al O O gl λa83 g0=>?_;rw[m5] at g0;refine x (Qv g0 O)<|Qf<|Exists.elim kk λhi hC=>?_;have hO:Zz [] hl.heap vL2 fs.length 3 (fs.flatMap YE):=QW hK.l (by omega) (λb _=>by simp)
 have m6:=hK.each _ (Lj hi);rw[hC] at m6;have h2:=m6.up (L':=[]) (λb hb=>by cases hb);have hU:=z0.ext ko;have hV:=zb.ext ko;have gm:=hL.edi;have hG:=hM.edi;have G:Step [] hl { hl with drawn:=hl.drawn+1 }:=Step.drew [] hl
 refine Q0 (α:=Nat×Value) [(22,22),(85,112)] (λz=>[(22,.pointer (some ⟨z.1,0,none⟩))]) (λz w'=>Step [] hl w'∧QX w'.heap z.1 231 [.int .i64 (nxt A.ed ei.e.x E),.int .i64 (nxt B.ed ei.e.y E),z.2]∧Qn 3 hl.heap.size w' z.2 (ei.e.u++[E])∧hl.heap.size≤z.1) (by rfl) ?_ ?_
 ·refine Qfn (Step [] hl) (.f3 [(0,true),(1,true),(2,true),(3,true),(4,true),(5,true),(6,true),(7,true),(9,true),(10,true),(11,true),(12,true),(13,true),(14,true),(15,true),(16,true),(18,true),(19,true),(20,true),(21,true),(22,true),(24,true)] 8 25 28 (.f3 [] 17 25 28 (.f3 [] 23 25 28 (.f2 [] 25 28 (.f2 [] 26 28 (.pl [(27,true),(28,false),(29,false)]) (.pl [(26,false),(27,true),(29,false)])) (.pl [(25,false),(26,false),(27,true),(29,false)])) (.f2 [] 23 28 (.f2 [] 26 28 (.pl [(27,true),(28,false),(29,false)]) (.pl [(26,false),(27,true),(29,false)])) (.pl [(23,false),(26,false),(27,true),(29,false)])) (.f2 [] 23 25 (.pl [(25,false),(26,false),(27,true),(29,false)]) (.pl [(23,false),(26,false),(27,true),(29,false)]))) (.f2 [] 17 28 (.f2 [] 23 28 (.f2 [] 26 28 (.pl [(27,true),(28,false),(29,false)]) (.pl [(26,false),(27,true),(29,false)])) (.pl [(23,false),(26,false),(27,true),(29,false)])) (.pl [(17,false),(23,false),(26,false),(27,true),(29,false)])) (.f2 [] 17 25 (.f2 [] 23 25 (.pl [(25,false),(26,false),(27,true),(29,false)]) (.pl [(23,false),(26,false),(27,true),(29,false)])) (.pl [(17,false),(23,false),(26,false),(27,true),(29,false)]))) (.f2 [] 8 28 (.f2 [] 17 28 (.f2 [] 23 28 (.f2 [] 26 28 (.pl [(27,true),(28,false),(29,false)]) (.pl [(26,false),(27,true),(29,false)])) (.pl [(23,false),(26,false),(27,true),(29,false)])) (.pl [(17,false),(23,false),(26,false),(27,true),(29,false)])) (.pl [(8,false),(17,false),(23,false),(26,false),(27,true),(29,false)])) (.f2 [] 8 25 (.f2 [] 17 25 (.f2 [] 23 25 (.pl [(25,false),(26,false),(27,true),(29,false)]) (.pl [(23,false),(26,false),(27,true),(29,false)])) (.pl [(17,false),(23,false),(26,false),(27,true),(29,false)])) (.pl [(8,false),(17,false),(23,false),(26,false),(27,true),(29,false)]))) mixed (by rfl) (by kernel_rfl) (Step.drew _ _) ?_
  refine u3<|p (λ_=>Ql)<|p (λ_=>Ql)<|p (λ_=>Ql)<|p (λ_=>Ql)<|Lg.pig (g:=YE) (i:=i) O ym hO O O hi λa89 m7=>?_;rw[hC] at m7;refine p (λ_=>Zn O)<|pq (λ_ hc=>Qv ((m7.fld 0 _ O).ext hc) O)<|p (λ_=>Ql)<|p (λ_=>Ql)<|p (λ_=>Ql)<|p (λ_=>Ql)<|p (λ_=>Ql)<|Lg.pig (g:=YE) (i:=i) O ym hO O O hi λa98 m8=>?_;rw[hC] at m8
  refine p (λ_=>Zn O)<|pq (λ_ hc=>Qv ((m8.fld 1 _ O).ext hc) O)<|p (λ_=>Ql)<|p (λ_=>Ql)<|p (λ_=>Ql)<|Lg.pig (g:=YE) (i:=i) O ym hO O O hi λa105 m9=>?_;rw[hC] at m9;refine p (λ_=>Zn O)<|pq (λ_ hc=>Qv ((m9.fld 2 _ O).ext hc) O)<|p (λ_=>Ql)<|pe ⟨?_,?_,?_⟩
  ·refine ue<|xc (first:=[]) (capt:=[]) O<|(YQ (hU.ext G) gm ei.e.x E).mono ?_;rintro r1 w1 ⟨rfl,hI⟩;have h7:=G.trans hI;have pa:=hI.size;refine ⟨h7,?_⟩;refine u3<|pe ⟨?_,?_,?_⟩
   ·refine ue<|xc (first:=[]) (capt:=[]) O<|(YQ (hV.ext h7) hG ei.e.y E).mono ?_;rintro r2 w2 ⟨rfl,hw⟩;have hy:=h7.trans hw;have gc:=hw.size;refine ⟨hy,?_⟩;refine u3<|pe ⟨?_,?_,?_⟩
    ·refine ue<|xf<|(Zk (h2.ext hy)).mono ?_;rintro vk w3 ⟨hh,hj⟩;have hm:=hy.trans hh;have hE:=hh.size;have Y:=Qm hj;refine ⟨hm,?_⟩;refine u2<|pe ⟨?_,?_⟩
     ·refine ue<|QL (us:=[[.int .i64 E]]) O O (by decide) (by simp) ⟨rfl,rfl,La⟩ λbl w4 V h8 hn=>?_;have ha:=hm.trans V;have h3:=V.size;have h9:=hn.lt;refine ⟨ha,?_⟩;refine u2<|pe ⟨?_,?_⟩
      ·refine ue<|QZ (news:=[.int .i64 E]) (L:=[]) (Qt hj V) O O O (hn.at (by simp)) (by simp[Value.oneCell']) (by omega) (by omega) λva w5 he hH hr=>?_;have hf:Step [] hl w5:=ha.then hH (λb hb=>.inr (by have:=(Y b hb).1;have:=G.size;omega));have J:=Qn.snoc (QT he (show hl.heap.size≤_ by have:=G.size;omega));have hz:=hH.size;refine ⟨hf,?_⟩;refine uP<|?_
       have ho:=(Qn.ints (L:=[]) J (by simp;omega) (by simp)).one;have hq:=(Qn.ints (L:=[]) J (by simp;omega) (by simp)).cells;refine p (λ_=>QG ⟨O,O,hq,La⟩)<|?_;refine pk<|Qu (us:=[.int .i64 0,.int .i64 0,nS]) O λbp w6 h4 h5 hg=>?_;have S:=hf.trans h4;have h0:=h4.size;have h6:=hg.lt;refine ⟨S,?_⟩
       refine pk<|Qq (us:=[.int .i64 (nxt A.ed ei.e.x E),.int .i64 (nxt B.ed ei.e.y E),va]) hg O O O O ⟨O,O,ho,La⟩ λwz U hs=>⟨S.then1 U (by have:=G.size;omega),pe ?_⟩;have ht:bp∉ob va:=λhb=>by rcases hr bp hb with h1 | h1;have:=Y bp h1;omega;have:=(Qm he bp hb).2;omega
       exact ⟨(bp,va),Lb,S.then1 U (by have:=G.size;omega),hs,Qi (Qt J h4) U (λb hb=>by simp;exact λe=>ht (e ▸ hb)),by have:=G.size;omega⟩
      refine ue<|Qu (us:=[.int .i64 0,.int .i64 0,nS]) O λbp w5 H h5 hg=>?_;have hf:=ha.trans H;have hz:=H.size;have h6:=hg.lt;refine ⟨hf,?_⟩;refine uP<|?_;refine pk<|QZ (news:=[.int .i64 E]) (L:=[]) (Qt hj (V.trans H)) O O O ((hn.ext H).at (by simp)) (by simp[Value.oneCell']) (by omega) (by omega) λva w6 he Z hr=>?_
      have S:Step [] hl w6:=hf.then Z (λb hb=>.inr (by have:=(Y b hb).1;have:=G.size;omega));have J:=Qn.snoc (QT he (show hl.heap.size≤_ by have:=G.size;omega));have h0:=Z.size;have hv:=hg.step Z (λhb=>by have:=Y bp hb;omega);refine ⟨S,?_⟩;have ho:=(Qn.ints (L:=[]) J (by simp;omega) (by simp)).one
      have hq:=(Qn.ints (L:=[]) J (by simp;omega) (by simp)).cells;refine p (λ_=>QG ⟨O,O,hq,La⟩)<|?_;refine pk<|Qq (us:=[.int .i64 (nxt A.ed ei.e.x E),.int .i64 (nxt B.ed ei.e.y E),va]) hv O O O O ⟨O,O,ho,La⟩ λwz U hs=>⟨S.then1 U (by have:=G.size;omega),pe ?_⟩;have ht:bp∉ob va:=λhb=>by rcases hr bp hb with h1 | h1;have:=Y bp h1;omega;have:=(Qm he bp hb).2;omega
      exact ⟨(bp,va),Lb,S.then1 U (by have:=G.size;omega),hs,Qi J U (λb hb=>by simp;exact λe=>ht (e ▸ hb)),by have:=G.size;omega⟩
     refine ue<|Qu (us:=[.int .i64 0,.int .i64 0,nS]) O λbp w4 V h5 hg=>?_;have ha:=hm.trans V;have h3:=V.size;have h6:=hg.lt;refine ⟨ha,?_⟩;refine uP<|?_;refine pk<|QL (us:=[[.int .i64 E]]) O O (by decide) (by simp) ⟨rfl,rfl,La⟩ λbl w5 H h8 hn=>?_;have hf:=ha.trans H;have hz:=H.size;have h9:=hn.lt;refine ⟨hf,?_⟩
     refine pk<|QZ (news:=[.int .i64 E]) (L:=[]) (Qt hj (V.trans H)) O O O (hn.at (by simp)) (by simp[Value.oneCell']) (by omega) (by omega) λva w6 he Z hr=>?_;have S:Step [] hl w6:=hf.then Z (λb hb=>.inr (by have:=(Y b hb).1;have:=G.size;omega));have J:=Qn.snoc (QT he (show hl.heap.size≤_ by have:=G.size;omega));have h0:=Z.size
     have hv:=(hg.ext H).step Z (λhb=>by have:=Y bp hb;omega);refine ⟨S,?_⟩;have ho:=(Qn.ints (L:=[]) J (by simp;omega) (by simp)).one;have hq:=(Qn.ints (L:=[]) J (by simp;omega) (by simp)).cells;refine p (λ_=>QG ⟨O,O,hq,La⟩)<|?_
     refine pk<|Qq (us:=[.int .i64 (nxt A.ed ei.e.x E),.int .i64 (nxt B.ed ei.e.y E),va]) hv O O O O ⟨O,O,ho,La⟩ λwz U hs=>⟨S.then1 U (by have:=G.size;omega),pe ?_⟩;have ht:bp∉ob va:=λhb=>by rcases hr bp hb with h1 | h1;have:=Y bp h1;omega;have:=(Qm he bp hb).2;omega
     exact ⟨(bp,va),Lb,S.then1 U (by have:=G.size;omega),hs,Qi J U (λb hb=>by simp;exact λe=>ht (e ▸ hb)),by have:=G.size;omega⟩
    ·refine ue<|QL (us:=[[.int .i64 E]]) O O (by decide) (by simp) ⟨rfl,rfl,La⟩ λbl w3 hh h8 hn=>?_;have hm:=hy.trans hh;have hE:=hh.size;have h9:=hn.lt;refine ⟨hm,?_⟩;refine u2<|pe ⟨?_,?_⟩
     ·refine ue<|xf<|(Zk (h2.ext hm)).mono ?_;rintro vk w4 ⟨V,hj⟩;have ha:=hm.trans V;have h3:=V.size;have Y:=Qm hj;refine ⟨ha,?_⟩;refine u2<|pe ⟨?_,?_⟩
      ·refine ue<|QZ (news:=[.int .i64 E]) (L:=[]) hj O O O ((hn.ext V).at (by simp)) (by simp[Value.oneCell']) (by omega) (by omega) λva w5 he hH hr=>?_;have hf:Step [] hl w5:=ha.then hH (λb hb=>.inr (by have:=(Y b hb).1;have:=G.size;omega));have J:=Qn.snoc (QT he (show hl.heap.size≤_ by have:=G.size;omega));have hz:=hH.size;refine ⟨hf,?_⟩;refine uP<|?_
       have ho:=(Qn.ints (L:=[]) J (by simp;omega) (by simp)).one;have hq:=(Qn.ints (L:=[]) J (by simp;omega) (by simp)).cells;refine p (λ_=>QG ⟨O,O,hq,La⟩)<|?_;refine pk<|Qu (us:=[.int .i64 0,.int .i64 0,nS]) O λbp w6 h4 h5 hg=>?_;have S:=hf.trans h4;have h0:=h4.size;have h6:=hg.lt;refine ⟨S,?_⟩
       refine pk<|Qq (us:=[.int .i64 (nxt A.ed ei.e.x E),.int .i64 (nxt B.ed ei.e.y E),va]) hg O O O O ⟨O,O,ho,La⟩ λwz U hs=>⟨S.then1 U (by have:=G.size;omega),pe ?_⟩;have ht:bp∉ob va:=λhb=>by rcases hr bp hb with h1 | h1;have:=Y bp h1;omega;have:=(Qm he bp hb).2;omega
       exact ⟨(bp,va),Lb,S.then1 U (by have:=G.size;omega),hs,Qi (Qt J h4) U (λb hb=>by simp;exact λe=>ht (e ▸ hb)),by have:=G.size;omega⟩
      refine ue<|Qu (us:=[.int .i64 0,.int .i64 0,nS]) O λbp w5 H h5 hg=>?_;have hf:=ha.trans H;have hz:=H.size;have h6:=hg.lt;refine ⟨hf,?_⟩;refine uP<|?_;refine pk<|QZ (news:=[.int .i64 E]) (L:=[]) (Qt hj H) O O O ((hn.ext (V.trans H)).at (by simp)) (by simp[Value.oneCell']) (by omega) (by omega) λva w6 he Z hr=>?_
      have S:Step [] hl w6:=hf.then Z (λb hb=>.inr (by have:=(Y b hb).1;have:=G.size;omega));have J:=Qn.snoc (QT he (show hl.heap.size≤_ by have:=G.size;omega));have h0:=Z.size;have hv:=hg.step Z (λhb=>by have:=Y bp hb;omega);refine ⟨S,?_⟩;have ho:=(Qn.ints (L:=[]) J (by simp;omega) (by simp)).one
      have hq:=(Qn.ints (L:=[]) J (by simp;omega) (by simp)).cells;refine p (λ_=>QG ⟨O,O,hq,La⟩)<|?_;refine pk<|Qq (us:=[.int .i64 (nxt A.ed ei.e.x E),.int .i64 (nxt B.ed ei.e.y E),va]) hv O O O O ⟨O,O,ho,La⟩ λwz U hs=>⟨S.then1 U (by have:=G.size;omega),pe ?_⟩;have ht:bp∉ob va:=λhb=>by rcases hr bp hb with h1 | h1;have:=Y bp h1;omega;have:=(Qm he bp hb).2;omega
      exact ⟨(bp,va),Lb,S.then1 U (by have:=G.size;omega),hs,Qi J U (λb hb=>by simp;exact λe=>ht (e ▸ hb)),by have:=G.size;omega⟩
     refine ue<|Qu (us:=[.int .i64 0,.int .i64 0,nS]) O λbp w4 V h5 hg=>?_;have ha:=hm.trans V;have h3:=V.size;have h6:=hg.lt;refine ⟨ha,?_⟩;refine uP<|?_;refine pk<|xf<|(Zk (h2.ext ha)).mono ?_;rintro vk w5 ⟨H,hj⟩;have hf:=ha.trans H;have hz:=H.size;have Y:=Qm hj;refine ⟨hf,?_⟩
     refine pk<|QZ (news:=[.int .i64 E]) (L:=[]) hj O O O ((hn.ext (V.trans H)).at (by simp)) (by simp[Value.oneCell']) (by omega) (by omega) λva w6 he Z hr=>?_;have S:Step [] hl w6:=hf.then Z (λb hb=>.inr (by have:=(Y b hb).1;have:=G.size;omega));have J:=Qn.snoc (QT he (show hl.heap.size≤_ by have:=G.size;omega));have h0:=Z.size
     have hv:=(hg.ext H).step Z (λhb=>by have:=Y bp hb;omega);refine ⟨S,?_⟩;have ho:=(Qn.ints (L:=[]) J (by simp;omega) (by simp)).one;have hq:=(Qn.ints (L:=[]) J (by simp;omega) (by simp)).cells;refine p (λ_=>QG ⟨O,O,hq,La⟩)<|?_
     refine pk<|Qq (us:=[.int .i64 (nxt A.ed ei.e.x E),.int .i64 (nxt B.ed ei.e.y E),va]) hv O O O O ⟨O,O,ho,La⟩ λwz U hs=>⟨S.then1 U (by have:=G.size;omega),pe ?_⟩;have ht:bp∉ob va:=λhb=>by rcases hr bp hb with h1 | h1;have:=Y bp h1;omega;have:=(Qm he bp hb).2;omega
     exact ⟨(bp,va),Lb,S.then1 U (by have:=G.size;omega),hs,Qi J U (λb hb=>by simp;exact λe=>ht (e ▸ hb)),by have:=G.size;omega⟩
    refine ue<|Qu (us:=[.int .i64 0,.int .i64 0,nS]) O λbp w3 hh h5 hg=>?_;have hm:=hy.trans hh;have hE:=hh.size;have h6:=hg.lt;refine ⟨hm,?_⟩;refine u2<|pe ⟨?_,?_⟩
    ·refine ue<|xf<|(Zk (h2.ext hm)).mono ?_;rintro vk w4 ⟨V,hj⟩;have ha:=hm.trans V;have h3:=V.size;have Y:=Qm hj;refine ⟨ha,?_⟩;refine uP<|?_;refine pk<|QL (us:=[[.int .i64 E]]) O O (by decide) (by simp) ⟨rfl,rfl,La⟩ λbl w5 H h8 hn=>?_;have hf:=ha.trans H;have hz:=H.size;have h9:=hn.lt;refine ⟨hf,?_⟩
     refine pk<|QZ (news:=[.int .i64 E]) (L:=[]) (Qt hj H) O O O (hn.at (by simp)) (by simp[Value.oneCell']) (by omega) (by omega) λva w6 he Z hr=>?_;have S:Step [] hl w6:=hf.then Z (λb hb=>.inr (by have:=(Y b hb).1;have:=G.size;omega));have J:=Qn.snoc (QT he (show hl.heap.size≤_ by have:=G.size;omega));have h0:=Z.size
     have hv:=(hg.ext (V.trans H)).step Z (λhb=>by have:=Y bp hb;omega);refine ⟨S,?_⟩;have ho:=(Qn.ints (L:=[]) J (by simp;omega) (by simp)).one;have hq:=(Qn.ints (L:=[]) J (by simp;omega) (by simp)).cells;refine p (λ_=>QG ⟨O,O,hq,La⟩)<|?_
     refine pk<|Qq (us:=[.int .i64 (nxt A.ed ei.e.x E),.int .i64 (nxt B.ed ei.e.y E),va]) hv O O O O ⟨O,O,ho,La⟩ λwz U hs=>⟨S.then1 U (by have:=G.size;omega),pe ?_⟩;have ht:bp∉ob va:=λhb=>by rcases hr bp hb with h1 | h1;have:=Y bp h1;omega;have:=(Qm he bp hb).2;omega
     exact ⟨(bp,va),Lb,S.then1 U (by have:=G.size;omega),hs,Qi J U (λb hb=>by simp;exact λe=>ht (e ▸ hb)),by have:=G.size;omega⟩
    refine ue<|QL (us:=[[.int .i64 E]]) O O (by decide) (by simp) ⟨rfl,rfl,La⟩ λbl w4 V h8 hn=>?_;have ha:=hm.trans V;have h3:=V.size;have h9:=hn.lt;refine ⟨ha,?_⟩;refine uP<|?_;refine pk<|xf<|(Zk (h2.ext ha)).mono ?_;rintro vk w5 ⟨H,hj⟩;have hf:=ha.trans H;have hz:=H.size;have Y:=Qm hj;refine ⟨hf,?_⟩
    refine pk<|QZ (news:=[.int .i64 E]) (L:=[]) hj O O O ((hn.ext H).at (by simp)) (by simp[Value.oneCell']) (by omega) (by omega) λva w6 he Z hr=>?_;have S:Step [] hl w6:=hf.then Z (λb hb=>.inr (by have:=(Y b hb).1;have:=G.size;omega));have J:=Qn.snoc (QT he (show hl.heap.size≤_ by have:=G.size;omega));have h0:=Z.size
    have hv:=(hg.ext (V.trans H)).step Z (λhb=>by have:=Y bp hb;omega);refine ⟨S,?_⟩;have ho:=(Qn.ints (L:=[]) J (by simp;omega) (by simp)).one;have hq:=(Qn.ints (L:=[]) J (by simp;omega) (by simp)).cells;refine p (λ_=>QG ⟨O,O,hq,La⟩)<|?_
    refine pk<|Qq (us:=[.int .i64 (nxt A.ed ei.e.x E),.int .i64 (nxt B.ed ei.e.y E),va]) hv O O O O ⟨O,O,ho,La⟩ λwz U hs=>⟨S.then1 U (by have:=G.size;omega),pe ?_⟩;have ht:bp∉ob va:=λhb=>by rcases hr bp hb with h1 | h1;have:=Y bp h1;omega;have:=(Qm he bp hb).2;omega
    exact ⟨(bp,va),Lb,S.then1 U (by have:=G.size;omega),hs,Qi J U (λb hb=>by simp;exact λe=>ht (e ▸ hb)),by have:=G.size;omega⟩
   ·refine ue<|QL (us:=[[.int .i64 E]]) O O (by decide) (by simp) ⟨rfl,rfl,La⟩ λbl w2 hw h8 hn=>?_;have hy:=h7.trans hw;have gc:=hw.size;have h9:=hn.lt;refine ⟨hy,?_⟩;refine u2<|pe ⟨?_,?_⟩
    ·refine ue<|xc (first:=[]) (capt:=[]) O<|(YQ (hV.ext hy) hG ei.e.y E).mono ?_;rintro r3 w3 ⟨rfl,hh⟩;have hm:=hy.trans hh;have hE:=hh.size;refine ⟨hm,?_⟩;refine u2<|pe ⟨?_,?_⟩
     ·refine ue<|xf<|(Zk (h2.ext hm)).mono ?_;rintro vk w4 ⟨V,hj⟩;have ha:=hm.trans V;have h3:=V.size;have Y:=Qm hj;refine ⟨ha,?_⟩;refine u2<|pe ⟨?_,?_⟩
      ·refine ue<|QZ (news:=[.int .i64 E]) (L:=[]) hj O O O ((hn.ext (hh.trans V)).at (by simp)) (by simp[Value.oneCell']) (by omega) (by omega) λva w5 he hH hr=>?_;have hf:Step [] hl w5:=ha.then hH (λb hb=>.inr (by have:=(Y b hb).1;have:=G.size;omega));have J:=Qn.snoc (QT he (show hl.heap.size≤_ by have:=G.size;omega));have hz:=hH.size;refine ⟨hf,?_⟩
       refine uP<|?_;have ho:=(Qn.ints (L:=[]) J (by simp;omega) (by simp)).one;have hq:=(Qn.ints (L:=[]) J (by simp;omega) (by simp)).cells;refine p (λ_=>QG ⟨O,O,hq,La⟩)<|?_;refine pk<|Qu (us:=[.int .i64 0,.int .i64 0,nS]) O λbp w6 h4 h5 hg=>?_;have S:=hf.trans h4;have h0:=h4.size;have h6:=hg.lt;refine ⟨S,?_⟩
       refine pk<|Qq (us:=[.int .i64 (nxt A.ed ei.e.x E),.int .i64 (nxt B.ed ei.e.y E),va]) hg O O O O ⟨O,O,ho,La⟩ λwz U hs=>⟨S.then1 U (by have:=G.size;omega),pe ?_⟩;have ht:bp∉ob va:=λhb=>by rcases hr bp hb with h1 | h1;have:=Y bp h1;omega;have:=(Qm he bp hb).2;omega
       exact ⟨(bp,va),Lb,S.then1 U (by have:=G.size;omega),hs,Qi (Qt J h4) U (λb hb=>by simp;exact λe=>ht (e ▸ hb)),by have:=G.size;omega⟩
      refine ue<|Qu (us:=[.int .i64 0,.int .i64 0,nS]) O λbp w5 H h5 hg=>?_;have hf:=ha.trans H;have hz:=H.size;have h6:=hg.lt;refine ⟨hf,?_⟩;refine uP<|?_;refine pk<|QZ (news:=[.int .i64 E]) (L:=[]) (Qt hj H) O O O ((hn.ext ((hh.trans V).trans H)).at (by simp)) (by simp[Value.oneCell']) (by omega) (by omega) λva w6 he Z hr=>?_
      have S:Step [] hl w6:=hf.then Z (λb hb=>.inr (by have:=(Y b hb).1;have:=G.size;omega));have J:=Qn.snoc (QT he (show hl.heap.size≤_ by have:=G.size;omega));have h0:=Z.size;have hv:=hg.step Z (λhb=>by have:=Y bp hb;omega);refine ⟨S,?_⟩;have ho:=(Qn.ints (L:=[]) J (by simp;omega) (by simp)).one
      have hq:=(Qn.ints (L:=[]) J (by simp;omega) (by simp)).cells;refine p (λ_=>QG ⟨O,O,hq,La⟩)<|?_;refine pk<|Qq (us:=[.int .i64 (nxt A.ed ei.e.x E),.int .i64 (nxt B.ed ei.e.y E),va]) hv O O O O ⟨O,O,ho,La⟩ λwz U hs=>⟨S.then1 U (by have:=G.size;omega),pe ?_⟩;have ht:bp∉ob va:=λhb=>by rcases hr bp hb with h1 | h1;have:=Y bp h1;omega;have:=(Qm he bp hb).2;omega
      exact ⟨(bp,va),Lb,S.then1 U (by have:=G.size;omega),hs,Qi J U (λb hb=>by simp;exact λe=>ht (e ▸ hb)),by have:=G.size;omega⟩
     refine ue<|Qu (us:=[.int .i64 0,.int .i64 0,nS]) O λbp w4 V h5 hg=>?_;have ha:=hm.trans V;have h3:=V.size;have h6:=hg.lt;refine ⟨ha,?_⟩;refine uP<|?_;refine pk<|xf<|(Zk (h2.ext ha)).mono ?_;rintro vk w5 ⟨H,hj⟩;have hf:=ha.trans H;have hz:=H.size;have Y:=Qm hj;refine ⟨hf,?_⟩
     refine pk<|QZ (news:=[.int .i64 E]) (L:=[]) hj O O O ((hn.ext ((hh.trans V).trans H)).at (by simp)) (by simp[Value.oneCell']) (by omega) (by omega) λva w6 he Z hr=>?_;have S:Step [] hl w6:=hf.then Z (λb hb=>.inr (by have:=(Y b hb).1;have:=G.size;omega));have J:=Qn.snoc (QT he (show hl.heap.size≤_ by have:=G.size;omega));have h0:=Z.size
     have hv:=(hg.ext H).step Z (λhb=>by have:=Y bp hb;omega);refine ⟨S,?_⟩;have ho:=(Qn.ints (L:=[]) J (by simp;omega) (by simp)).one;have hq:=(Qn.ints (L:=[]) J (by simp;omega) (by simp)).cells;refine p (λ_=>QG ⟨O,O,hq,La⟩)<|?_
     refine pk<|Qq (us:=[.int .i64 (nxt A.ed ei.e.x E),.int .i64 (nxt B.ed ei.e.y E),va]) hv O O O O ⟨O,O,ho,La⟩ λwz U hs=>⟨S.then1 U (by have:=G.size;omega),pe ?_⟩;have ht:bp∉ob va:=λhb=>by rcases hr bp hb with h1 | h1;have:=Y bp h1;omega;have:=(Qm he bp hb).2;omega
     exact ⟨(bp,va),Lb,S.then1 U (by have:=G.size;omega),hs,Qi J U (λb hb=>by simp;exact λe=>ht (e ▸ hb)),by have:=G.size;omega⟩
    refine ue<|Qu (us:=[.int .i64 0,.int .i64 0,nS]) O λbp w3 hh h5 hg=>?_;have hm:=hy.trans hh;have hE:=hh.size;have h6:=hg.lt;refine ⟨hm,?_⟩;refine uP<|?_;refine pk<|xc (first:=[]) (capt:=[]) O<|(YQ (hV.ext hm) hG ei.e.y E).mono ?_;rintro r4 w4 ⟨rfl,V⟩;have ha:=hm.trans V;have h3:=V.size;refine ⟨ha,?_⟩;refine pk<|xf<|(Zk (h2.ext ha)).mono ?_;rintro vk w5 ⟨H,hj⟩
    have hf:=ha.trans H;have hz:=H.size;have Y:=Qm hj;refine ⟨hf,?_⟩;refine pk<|QZ (news:=[.int .i64 E]) (L:=[]) hj O O O ((hn.ext ((hh.trans V).trans H)).at (by simp)) (by simp[Value.oneCell']) (by omega) (by omega) λva w6 he Z hr=>?_;have S:Step [] hl w6:=hf.then Z (λb hb=>.inr (by have:=(Y b hb).1;have:=G.size;omega))
    have J:=Qn.snoc (QT he (show hl.heap.size≤_ by have:=G.size;omega));have h0:=Z.size;have hv:=(hg.ext (V.trans H)).step Z (λhb=>by have:=Y bp hb;omega);refine ⟨S,?_⟩;have ho:=(Qn.ints (L:=[]) J (by simp;omega) (by simp)).one;have hq:=(Qn.ints (L:=[]) J (by simp;omega) (by simp)).cells;refine p (λ_=>QG ⟨O,O,hq,La⟩)<|?_
    refine pk<|Qq (us:=[.int .i64 (nxt A.ed ei.e.x E),.int .i64 (nxt B.ed ei.e.y E),va]) hv O O O O ⟨O,O,ho,La⟩ λwz U hs=>⟨S.then1 U (by have:=G.size;omega),pe ?_⟩;have ht:bp∉ob va:=λhb=>by rcases hr bp hb with h1 | h1;have:=Y bp h1;omega;have:=(Qm he bp hb).2;omega
    exact ⟨(bp,va),Lb,S.then1 U (by have:=G.size;omega),hs,Qi J U (λb hb=>by simp;exact λe=>ht (e ▸ hb)),by have:=G.size;omega⟩
   refine ue<|Qu (us:=[.int .i64 0,.int .i64 0,nS]) O λbp w2 hw h5 hg=>?_;have hy:=h7.trans hw;have gc:=hw.size;have h6:=hg.lt;refine ⟨hy,?_⟩;refine u2<|pe ⟨?_,?_⟩
   ·refine ue<|xc (first:=[]) (capt:=[]) O<|(YQ (hV.ext hy) hG ei.e.y E).mono ?_;rintro r3 w3 ⟨rfl,hh⟩;have hm:=hy.trans hh;have hE:=hh.size;refine ⟨hm,?_⟩;refine u2<|pe ⟨?_,?_⟩
    ·refine ue<|xf<|(Zk (h2.ext hm)).mono ?_;rintro vk w4 ⟨V,hj⟩;have ha:=hm.trans V;have h3:=V.size;have Y:=Qm hj;refine ⟨ha,?_⟩;refine uP<|?_;refine pk<|QL (us:=[[.int .i64 E]]) O O (by decide) (by simp) ⟨rfl,rfl,La⟩ λbl w5 H h8 hn=>?_;have hf:=ha.trans H;have hz:=H.size;have h9:=hn.lt;refine ⟨hf,?_⟩
     refine pk<|QZ (news:=[.int .i64 E]) (L:=[]) (Qt hj H) O O O (hn.at (by simp)) (by simp[Value.oneCell']) (by omega) (by omega) λva w6 he Z hr=>?_;have S:Step [] hl w6:=hf.then Z (λb hb=>.inr (by have:=(Y b hb).1;have:=G.size;omega));have J:=Qn.snoc (QT he (show hl.heap.size≤_ by have:=G.size;omega));have h0:=Z.size
     have hv:=(hg.ext ((hh.trans V).trans H)).step Z (λhb=>by have:=Y bp hb;omega);refine ⟨S,?_⟩;have ho:=(Qn.ints (L:=[]) J (by simp;omega) (by simp)).one;have hq:=(Qn.ints (L:=[]) J (by simp;omega) (by simp)).cells;refine p (λ_=>QG ⟨O,O,hq,La⟩)<|?_
     refine pk<|Qq (us:=[.int .i64 (nxt A.ed ei.e.x E),.int .i64 (nxt B.ed ei.e.y E),va]) hv O O O O ⟨O,O,ho,La⟩ λwz U hs=>⟨S.then1 U (by have:=G.size;omega),pe ?_⟩;have ht:bp∉ob va:=λhb=>by rcases hr bp hb with h1 | h1;have:=Y bp h1;omega;have:=(Qm he bp hb).2;omega
     exact ⟨(bp,va),Lb,S.then1 U (by have:=G.size;omega),hs,Qi J U (λb hb=>by simp;exact λe=>ht (e ▸ hb)),by have:=G.size;omega⟩
    refine ue<|QL (us:=[[.int .i64 E]]) O O (by decide) (by simp) ⟨rfl,rfl,La⟩ λbl w4 V h8 hn=>?_;have ha:=hm.trans V;have h3:=V.size;have h9:=hn.lt;refine ⟨ha,?_⟩;refine uP<|?_;refine pk<|xf<|(Zk (h2.ext ha)).mono ?_;rintro vk w5 ⟨H,hj⟩;have hf:=ha.trans H;have hz:=H.size;have Y:=Qm hj;refine ⟨hf,?_⟩
    refine pk<|QZ (news:=[.int .i64 E]) (L:=[]) hj O O O ((hn.ext H).at (by simp)) (by simp[Value.oneCell']) (by omega) (by omega) λva w6 he Z hr=>?_;have S:Step [] hl w6:=hf.then Z (λb hb=>.inr (by have:=(Y b hb).1;have:=G.size;omega));have J:=Qn.snoc (QT he (show hl.heap.size≤_ by have:=G.size;omega));have h0:=Z.size
    have hv:=(hg.ext ((hh.trans V).trans H)).step Z (λhb=>by have:=Y bp hb;omega);refine ⟨S,?_⟩;have ho:=(Qn.ints (L:=[]) J (by simp;omega) (by simp)).one;have hq:=(Qn.ints (L:=[]) J (by simp;omega) (by simp)).cells;refine p (λ_=>QG ⟨O,O,hq,La⟩)<|?_
    refine pk<|Qq (us:=[.int .i64 (nxt A.ed ei.e.x E),.int .i64 (nxt B.ed ei.e.y E),va]) hv O O O O ⟨O,O,ho,La⟩ λwz U hs=>⟨S.then1 U (by have:=G.size;omega),pe ?_⟩;have ht:bp∉ob va:=λhb=>by rcases hr bp hb with h1 | h1;have:=Y bp h1;omega;have:=(Qm he bp hb).2;omega
    exact ⟨(bp,va),Lb,S.then1 U (by have:=G.size;omega),hs,Qi J U (λb hb=>by simp;exact λe=>ht (e ▸ hb)),by have:=G.size;omega⟩
   refine ue<|QL (us:=[[.int .i64 E]]) O O (by decide) (by simp) ⟨rfl,rfl,La⟩ λbl w3 hh h8 hn=>?_;have hm:=hy.trans hh;have hE:=hh.size;have h9:=hn.lt;refine ⟨hm,?_⟩;refine uP<|?_;refine pk<|xc (first:=[]) (capt:=[]) O<|(YQ (hV.ext hm) hG ei.e.y E).mono ?_;rintro r4 w4 ⟨rfl,V⟩;have ha:=hm.trans V;have h3:=V.size;refine ⟨ha,?_⟩;refine pk<|xf<|(Zk (h2.ext ha)).mono ?_
   rintro vk w5 ⟨H,hj⟩;have hf:=ha.trans H;have hz:=H.size;have Y:=Qm hj;refine ⟨hf,?_⟩;refine pk<|QZ (news:=[.int .i64 E]) (L:=[]) hj O O O ((hn.ext (V.trans H)).at (by simp)) (by simp[Value.oneCell']) (by omega) (by omega) λva w6 he Z hr=>?_;have S:Step [] hl w6:=hf.then Z (λb hb=>.inr (by have:=(Y b hb).1;have:=G.size;omega))
   have J:=Qn.snoc (QT he (show hl.heap.size≤_ by have:=G.size;omega));have h0:=Z.size;have hv:=(hg.ext ((hh.trans V).trans H)).step Z (λhb=>by have:=Y bp hb;omega);refine ⟨S,?_⟩;have ho:=(Qn.ints (L:=[]) J (by simp;omega) (by simp)).one;have hq:=(Qn.ints (L:=[]) J (by simp;omega) (by simp)).cells;refine p (λ_=>QG ⟨O,O,hq,La⟩)<|?_
   refine pk<|Qq (us:=[.int .i64 (nxt A.ed ei.e.x E),.int .i64 (nxt B.ed ei.e.y E),va]) hv O O O O ⟨O,O,ho,La⟩ λwz U hs=>⟨S.then1 U (by have:=G.size;omega),pe ?_⟩;have ht:bp∉ob va:=λhb=>by rcases hr bp hb with h1 | h1;have:=Y bp h1;omega;have:=(Qm he bp hb).2;omega
   exact ⟨(bp,va),Lb,S.then1 U (by have:=G.size;omega),hs,Qi J U (λb hb=>by simp;exact λe=>ht (e ▸ hb)),by have:=G.size;omega⟩
  ·refine ue<|QL (us:=[[.int .i64 E]]) O O (by decide) (by simp) ⟨rfl,rfl,La⟩ λbl w1 hI h8 hn=>?_;have h7:=G.trans hI;have pa:=hI.size;have h9:=hn.lt;refine ⟨h7,?_⟩;refine u2<|pe ⟨?_,?_⟩
   ·refine ue<|xc (first:=[]) (capt:=[]) O<|(YQ (hU.ext h7) gm ei.e.x E).mono ?_;rintro r2 w2 ⟨rfl,hw⟩;have hy:=h7.trans hw;have gc:=hw.size;refine ⟨hy,?_⟩;refine u2<|pe ⟨?_,?_⟩
    ·refine ue<|xc (first:=[]) (capt:=[]) O<|(YQ (hV.ext hy) hG ei.e.y E).mono ?_;rintro r3 w3 ⟨rfl,hh⟩;have hm:=hy.trans hh;have hE:=hh.size;refine ⟨hm,?_⟩;refine u2<|pe ⟨?_,?_⟩
     ·refine ue<|xf<|(Zk (h2.ext hm)).mono ?_;rintro vk w4 ⟨V,hj⟩;have ha:=hm.trans V;have h3:=V.size;have Y:=Qm hj;refine ⟨ha,?_⟩;refine u2<|pe ⟨?_,?_⟩
      ·refine ue<|QZ (news:=[.int .i64 E]) (L:=[]) hj O O O ((hn.ext ((hw.trans hh).trans V)).at (by simp)) (by simp[Value.oneCell']) (by omega) (by omega) λva w5 he hH hr=>?_;have hf:Step [] hl w5:=ha.then hH (λb hb=>.inr (by have:=(Y b hb).1;have:=G.size;omega));have J:=Qn.snoc (QT he (show hl.heap.size≤_ by have:=G.size;omega));have hz:=hH.size
       refine ⟨hf,?_⟩;refine uP<|?_;have ho:=(Qn.ints (L:=[]) J (by simp;omega) (by simp)).one;have hq:=(Qn.ints (L:=[]) J (by simp;omega) (by simp)).cells;refine p (λ_=>QG ⟨O,O,hq,La⟩)<|?_;refine pk<|Qu (us:=[.int .i64 0,.int .i64 0,nS]) O λbp w6 h4 h5 hg=>?_;have S:=hf.trans h4;have h0:=h4.size;have h6:=hg.lt;refine ⟨S,?_⟩
       refine pk<|Qq (us:=[.int .i64 (nxt A.ed ei.e.x E),.int .i64 (nxt B.ed ei.e.y E),va]) hg O O O O ⟨O,O,ho,La⟩ λwz U hs=>⟨S.then1 U (by have:=G.size;omega),pe ?_⟩;have ht:bp∉ob va:=λhb=>by rcases hr bp hb with h1 | h1;have:=Y bp h1;omega;have:=(Qm he bp hb).2;omega
       exact ⟨(bp,va),Lb,S.then1 U (by have:=G.size;omega),hs,Qi (Qt J h4) U (λb hb=>by simp;exact λe=>ht (e ▸ hb)),by have:=G.size;omega⟩
      refine ue<|Qu (us:=[.int .i64 0,.int .i64 0,nS]) O λbp w5 H h5 hg=>?_;have hf:=ha.trans H;have hz:=H.size;have h6:=hg.lt;refine ⟨hf,?_⟩;refine uP<|?_;refine pk<|QZ (news:=[.int .i64 E]) (L:=[]) (Qt hj H) O O O ((hn.ext (((hw.trans hh).trans V).trans H)).at (by simp)) (by simp[Value.oneCell']) (by omega) (by omega) λva w6 he Z hr=>?_
      have S:Step [] hl w6:=hf.then Z (λb hb=>.inr (by have:=(Y b hb).1;have:=G.size;omega));have J:=Qn.snoc (QT he (show hl.heap.size≤_ by have:=G.size;omega));have h0:=Z.size;have hv:=hg.step Z (λhb=>by have:=Y bp hb;omega);refine ⟨S,?_⟩;have ho:=(Qn.ints (L:=[]) J (by simp;omega) (by simp)).one
      have hq:=(Qn.ints (L:=[]) J (by simp;omega) (by simp)).cells;refine p (λ_=>QG ⟨O,O,hq,La⟩)<|?_;refine pk<|Qq (us:=[.int .i64 (nxt A.ed ei.e.x E),.int .i64 (nxt B.ed ei.e.y E),va]) hv O O O O ⟨O,O,ho,La⟩ λwz U hs=>⟨S.then1 U (by have:=G.size;omega),pe ?_⟩;have ht:bp∉ob va:=λhb=>by rcases hr bp hb with h1 | h1;have:=Y bp h1;omega;have:=(Qm he bp hb).2;omega
      exact ⟨(bp,va),Lb,S.then1 U (by have:=G.size;omega),hs,Qi J U (λb hb=>by simp;exact λe=>ht (e ▸ hb)),by have:=G.size;omega⟩
     refine ue<|Qu (us:=[.int .i64 0,.int .i64 0,nS]) O λbp w4 V h5 hg=>?_;have ha:=hm.trans V;have h3:=V.size;have h6:=hg.lt;refine ⟨ha,?_⟩;refine uP<|?_;refine pk<|xf<|(Zk (h2.ext ha)).mono ?_;rintro vk w5 ⟨H,hj⟩;have hf:=ha.trans H;have hz:=H.size;have Y:=Qm hj;refine ⟨hf,?_⟩
     refine pk<|QZ (news:=[.int .i64 E]) (L:=[]) hj O O O ((hn.ext (((hw.trans hh).trans V).trans H)).at (by simp)) (by simp[Value.oneCell']) (by omega) (by omega) λva w6 he Z hr=>?_;have S:Step [] hl w6:=hf.then Z (λb hb=>.inr (by have:=(Y b hb).1;have:=G.size;omega));have J:=Qn.snoc (QT he (show hl.heap.size≤_ by have:=G.size;omega));have h0:=Z.size
     have hv:=(hg.ext H).step Z (λhb=>by have:=Y bp hb;omega);refine ⟨S,?_⟩;have ho:=(Qn.ints (L:=[]) J (by simp;omega) (by simp)).one;have hq:=(Qn.ints (L:=[]) J (by simp;omega) (by simp)).cells;refine p (λ_=>QG ⟨O,O,hq,La⟩)<|?_
     refine pk<|Qq (us:=[.int .i64 (nxt A.ed ei.e.x E),.int .i64 (nxt B.ed ei.e.y E),va]) hv O O O O ⟨O,O,ho,La⟩ λwz U hs=>⟨S.then1 U (by have:=G.size;omega),pe ?_⟩;have ht:bp∉ob va:=λhb=>by rcases hr bp hb with h1 | h1;have:=Y bp h1;omega;have:=(Qm he bp hb).2;omega
     exact ⟨(bp,va),Lb,S.then1 U (by have:=G.size;omega),hs,Qi J U (λb hb=>by simp;exact λe=>ht (e ▸ hb)),by have:=G.size;omega⟩
    refine ue<|Qu (us:=[.int .i64 0,.int .i64 0,nS]) O λbp w3 hh h5 hg=>?_;have hm:=hy.trans hh;have hE:=hh.size;have h6:=hg.lt;refine ⟨hm,?_⟩;refine uP<|?_;refine pk<|xc (first:=[]) (capt:=[]) O<|(YQ (hV.ext hm) hG ei.e.y E).mono ?_;rintro r4 w4 ⟨rfl,V⟩;have ha:=hm.trans V;have h3:=V.size;refine ⟨ha,?_⟩;refine pk<|xf<|(Zk (h2.ext ha)).mono ?_;rintro vk w5 ⟨H,hj⟩
    have hf:=ha.trans H;have hz:=H.size;have Y:=Qm hj;refine ⟨hf,?_⟩;refine pk<|QZ (news:=[.int .i64 E]) (L:=[]) hj O O O ((hn.ext (((hw.trans hh).trans V).trans H)).at (by simp)) (by simp[Value.oneCell']) (by omega) (by omega) λva w6 he Z hr=>?_;have S:Step [] hl w6:=hf.then Z (λb hb=>.inr (by have:=(Y b hb).1;have:=G.size;omega))
    have J:=Qn.snoc (QT he (show hl.heap.size≤_ by have:=G.size;omega));have h0:=Z.size;have hv:=(hg.ext (V.trans H)).step Z (λhb=>by have:=Y bp hb;omega);refine ⟨S,?_⟩;have ho:=(Qn.ints (L:=[]) J (by simp;omega) (by simp)).one;have hq:=(Qn.ints (L:=[]) J (by simp;omega) (by simp)).cells;refine p (λ_=>QG ⟨O,O,hq,La⟩)<|?_
    refine pk<|Qq (us:=[.int .i64 (nxt A.ed ei.e.x E),.int .i64 (nxt B.ed ei.e.y E),va]) hv O O O O ⟨O,O,ho,La⟩ λwz U hs=>⟨S.then1 U (by have:=G.size;omega),pe ?_⟩;have ht:bp∉ob va:=λhb=>by rcases hr bp hb with h1 | h1;have:=Y bp h1;omega;have:=(Qm he bp hb).2;omega
    exact ⟨(bp,va),Lb,S.then1 U (by have:=G.size;omega),hs,Qi J U (λb hb=>by simp;exact λe=>ht (e ▸ hb)),by have:=G.size;omega⟩
   refine ue<|Qu (us:=[.int .i64 0,.int .i64 0,nS]) O λbp w2 hw h5 hg=>?_;have hy:=h7.trans hw;have gc:=hw.size;have h6:=hg.lt;refine ⟨hy,?_⟩;refine uP<|?_;refine pk<|xc (first:=[]) (capt:=[]) O<|(YQ (hU.ext hy) gm ei.e.x E).mono ?_;rintro r3 w3 ⟨rfl,hh⟩;have hm:=hy.trans hh;have hE:=hh.size;refine ⟨hm,?_⟩
   refine pk<|xc (first:=[]) (capt:=[]) O<|(YQ (hV.ext hm) hG ei.e.y E).mono ?_;rintro r4 w4 ⟨rfl,V⟩;have ha:=hm.trans V;have h3:=V.size;refine ⟨ha,?_⟩;refine pk<|xf<|(Zk (h2.ext ha)).mono ?_;rintro vk w5 ⟨H,hj⟩;have hf:=ha.trans H;have hz:=H.size;have Y:=Qm hj;refine ⟨hf,?_⟩
   refine pk<|QZ (news:=[.int .i64 E]) (L:=[]) hj O O O ((hn.ext (((hw.trans hh).trans V).trans H)).at (by simp)) (by simp[Value.oneCell']) (by omega) (by omega) λva w6 he Z hr=>?_;have S:Step [] hl w6:=hf.then Z (λb hb=>.inr (by have:=(Y b hb).1;have:=G.size;omega));have J:=Qn.snoc (QT he (show hl.heap.size≤_ by have:=G.size;omega));have h0:=Z.size
   have hv:=(hg.ext ((hh.trans V).trans H)).step Z (λhb=>by have:=Y bp hb;omega);refine ⟨S,?_⟩;have ho:=(Qn.ints (L:=[]) J (by simp;omega) (by simp)).one;have hq:=(Qn.ints (L:=[]) J (by simp;omega) (by simp)).cells;refine p (λ_=>QG ⟨O,O,hq,La⟩)<|?_
   refine pk<|Qq (us:=[.int .i64 (nxt A.ed ei.e.x E),.int .i64 (nxt B.ed ei.e.y E),va]) hv O O O O ⟨O,O,ho,La⟩ λwz U hs=>⟨S.then1 U (by have:=G.size;omega),pe ?_⟩;have ht:bp∉ob va:=λhb=>by rcases hr bp hb with h1 | h1;have:=Y bp h1;omega;have:=(Qm he bp hb).2;omega
   exact ⟨(bp,va),Lb,S.then1 U (by have:=G.size;omega),hs,Qi J U (λb hb=>by simp;exact λe=>ht (e ▸ hb)),by have:=G.size;omega⟩
  refine ue<|Qu (us:=[.int .i64 0,.int .i64 0,nS]) O λbp w1 hI h5 hg=>?_;have h7:=G.trans hI;have pa:=hI.size;have h6:=hg.lt;refine ⟨h7,?_⟩;refine u2<|pe ⟨?_,?_⟩
  ·refine ue<|xc (first:=[]) (capt:=[]) O<|(YQ (hU.ext h7) gm ei.e.x E).mono ?_;rintro r2 w2 ⟨rfl,hw⟩;have hy:=h7.trans hw;have gc:=hw.size;refine ⟨hy,?_⟩;refine u2<|pe ⟨?_,?_⟩
   ·refine ue<|xc (first:=[]) (capt:=[]) O<|(YQ (hV.ext hy) hG ei.e.y E).mono ?_;rintro r3 w3 ⟨rfl,hh⟩;have hm:=hy.trans hh;have hE:=hh.size;refine ⟨hm,?_⟩;refine u2<|pe ⟨?_,?_⟩
    ·refine ue<|xf<|(Zk (h2.ext hm)).mono ?_;rintro vk w4 ⟨V,hj⟩;have ha:=hm.trans V;have h3:=V.size;have Y:=Qm hj;refine ⟨ha,?_⟩;refine uP<|?_;refine pk<|QL (us:=[[.int .i64 E]]) O O (by decide) (by simp) ⟨rfl,rfl,La⟩ λbl w5 H h8 hn=>?_;have hf:=ha.trans H;have hz:=H.size;have h9:=hn.lt;refine ⟨hf,?_⟩
     refine pk<|QZ (news:=[.int .i64 E]) (L:=[]) (Qt hj H) O O O (hn.at (by simp)) (by simp[Value.oneCell']) (by omega) (by omega) λva w6 he Z hr=>?_;have S:Step [] hl w6:=hf.then Z (λb hb=>.inr (by have:=(Y b hb).1;have:=G.size;omega));have J:=Qn.snoc (QT he (show hl.heap.size≤_ by have:=G.size;omega));have h0:=Z.size
     have hv:=(hg.ext (((hw.trans hh).trans V).trans H)).step Z (λhb=>by have:=Y bp hb;omega);refine ⟨S,?_⟩;have ho:=(Qn.ints (L:=[]) J (by simp;omega) (by simp)).one;have hq:=(Qn.ints (L:=[]) J (by simp;omega) (by simp)).cells;refine p (λ_=>QG ⟨O,O,hq,La⟩)<|?_
     refine pk<|Qq (us:=[.int .i64 (nxt A.ed ei.e.x E),.int .i64 (nxt B.ed ei.e.y E),va]) hv O O O O ⟨O,O,ho,La⟩ λwz U hs=>⟨S.then1 U (by have:=G.size;omega),pe ?_⟩;have ht:bp∉ob va:=λhb=>by rcases hr bp hb with h1 | h1;have:=Y bp h1;omega;have:=(Qm he bp hb).2;omega
     exact ⟨(bp,va),Lb,S.then1 U (by have:=G.size;omega),hs,Qi J U (λb hb=>by simp;exact λe=>ht (e ▸ hb)),by have:=G.size;omega⟩
    refine ue<|QL (us:=[[.int .i64 E]]) O O (by decide) (by simp) ⟨rfl,rfl,La⟩ λbl w4 V h8 hn=>?_;have ha:=hm.trans V;have h3:=V.size;have h9:=hn.lt;refine ⟨ha,?_⟩;refine uP<|?_;refine pk<|xf<|(Zk (h2.ext ha)).mono ?_;rintro vk w5 ⟨H,hj⟩;have hf:=ha.trans H;have hz:=H.size;have Y:=Qm hj;refine ⟨hf,?_⟩
    refine pk<|QZ (news:=[.int .i64 E]) (L:=[]) hj O O O ((hn.ext H).at (by simp)) (by simp[Value.oneCell']) (by omega) (by omega) λva w6 he Z hr=>?_;have S:Step [] hl w6:=hf.then Z (λb hb=>.inr (by have:=(Y b hb).1;have:=G.size;omega));have J:=Qn.snoc (QT he (show hl.heap.size≤_ by have:=G.size;omega));have h0:=Z.size
    have hv:=(hg.ext (((hw.trans hh).trans V).trans H)).step Z (λhb=>by have:=Y bp hb;omega);refine ⟨S,?_⟩;have ho:=(Qn.ints (L:=[]) J (by simp;omega) (by simp)).one;have hq:=(Qn.ints (L:=[]) J (by simp;omega) (by simp)).cells;refine p (λ_=>QG ⟨O,O,hq,La⟩)<|?_
    refine pk<|Qq (us:=[.int .i64 (nxt A.ed ei.e.x E),.int .i64 (nxt B.ed ei.e.y E),va]) hv O O O O ⟨O,O,ho,La⟩ λwz U hs=>⟨S.then1 U (by have:=G.size;omega),pe ?_⟩;have ht:bp∉ob va:=λhb=>by rcases hr bp hb with h1 | h1;have:=Y bp h1;omega;have:=(Qm he bp hb).2;omega
    exact ⟨(bp,va),Lb,S.then1 U (by have:=G.size;omega),hs,Qi J U (λb hb=>by simp;exact λe=>ht (e ▸ hb)),by have:=G.size;omega⟩
   refine ue<|QL (us:=[[.int .i64 E]]) O O (by decide) (by simp) ⟨rfl,rfl,La⟩ λbl w3 hh h8 hn=>?_;have hm:=hy.trans hh;have hE:=hh.size;have h9:=hn.lt;refine ⟨hm,?_⟩;refine uP<|?_;refine pk<|xc (first:=[]) (capt:=[]) O<|(YQ (hV.ext hm) hG ei.e.y E).mono ?_;rintro r4 w4 ⟨rfl,V⟩;have ha:=hm.trans V;have h3:=V.size;refine ⟨ha,?_⟩;refine pk<|xf<|(Zk (h2.ext ha)).mono ?_
   rintro vk w5 ⟨H,hj⟩;have hf:=ha.trans H;have hz:=H.size;have Y:=Qm hj;refine ⟨hf,?_⟩;refine pk<|QZ (news:=[.int .i64 E]) (L:=[]) hj O O O ((hn.ext (V.trans H)).at (by simp)) (by simp[Value.oneCell']) (by omega) (by omega) λva w6 he Z hr=>?_;have S:Step [] hl w6:=hf.then Z (λb hb=>.inr (by have:=(Y b hb).1;have:=G.size;omega))
   have J:=Qn.snoc (QT he (show hl.heap.size≤_ by have:=G.size;omega));have h0:=Z.size;have hv:=(hg.ext (((hw.trans hh).trans V).trans H)).step Z (λhb=>by have:=Y bp hb;omega);refine ⟨S,?_⟩;have ho:=(Qn.ints (L:=[]) J (by simp;omega) (by simp)).one;have hq:=(Qn.ints (L:=[]) J (by simp;omega) (by simp)).cells;refine p (λ_=>QG ⟨O,O,hq,La⟩)<|?_
   refine pk<|Qq (us:=[.int .i64 (nxt A.ed ei.e.x E),.int .i64 (nxt B.ed ei.e.y E),va]) hv O O O O ⟨O,O,ho,La⟩ λwz U hs=>⟨S.then1 U (by have:=G.size;omega),pe ?_⟩;have ht:bp∉ob va:=λhb=>by rcases hr bp hb with h1 | h1;have:=Y bp h1;omega;have:=(Qm he bp hb).2;omega
   exact ⟨(bp,va),Lb,S.then1 U (by have:=G.size;omega),hs,Qi J U (λb hb=>by simp;exact λe=>ht (e ▸ hb)),by have:=G.size;omega⟩
  refine ue<|QL (us:=[[.int .i64 E]]) O O (by decide) (by simp) ⟨rfl,rfl,La⟩ λbl w2 hw h8 hn=>?_;have hy:=h7.trans hw;have gc:=hw.size;have h9:=hn.lt;refine ⟨hy,?_⟩;refine uP<|?_;refine pk<|xc (first:=[]) (capt:=[]) O<|(YQ (hU.ext hy) gm ei.e.x E).mono ?_;rintro r3 w3 ⟨rfl,hh⟩;have hm:=hy.trans hh;have hE:=hh.size;refine ⟨hm,?_⟩
  refine pk<|xc (first:=[]) (capt:=[]) O<|(YQ (hV.ext hm) hG ei.e.y E).mono ?_;rintro r4 w4 ⟨rfl,V⟩;have ha:=hm.trans V;have h3:=V.size;refine ⟨ha,?_⟩;refine pk<|xf<|(Zk (h2.ext ha)).mono ?_;rintro vk w5 ⟨H,hj⟩;have hf:=ha.trans H;have hz:=H.size;have Y:=Qm hj;refine ⟨hf,?_⟩
  refine pk<|QZ (news:=[.int .i64 E]) (L:=[]) hj O O O ((hn.ext ((hh.trans V).trans H)).at (by simp)) (by simp[Value.oneCell']) (by omega) (by omega) λva w6 he Z hr=>?_;have S:Step [] hl w6:=hf.then Z (λb hb=>.inr (by have:=(Y b hb).1;have:=G.size;omega));have J:=Qn.snoc (QT he (show hl.heap.size≤_ by have:=G.size;omega));have h0:=Z.size
  have hv:=(hg.ext (((hw.trans hh).trans V).trans H)).step Z (λhb=>by have:=Y bp hb;omega);refine ⟨S,?_⟩;have ho:=(Qn.ints (L:=[]) J (by simp;omega) (by simp)).one;have hq:=(Qn.ints (L:=[]) J (by simp;omega) (by simp)).cells;refine p (λ_=>QG ⟨O,O,hq,La⟩)<|?_
  refine pk<|Qq (us:=[.int .i64 (nxt A.ed ei.e.x E),.int .i64 (nxt B.ed ei.e.y E),va]) hv O O O O ⟨O,O,ho,La⟩ λwz U hs=>⟨S.then1 U (by have:=G.size;omega),pe ?_⟩;have ht:bp∉ob va:=λhb=>by rcases hr bp hb with h1 | h1;have:=Y bp h1;omega;have:=(Qm he bp hb).2;omega
  exact ⟨(bp,va),Lb,S.then1 U (by have:=G.size;omega),hs,Qi J U (λb hb=>by simp;exact λe=>ht (e ▸ hb)),by have:=G.size;omega⟩
 rintro ⟨bp,va⟩ g24 pc ⟨hs24,hg,he,hgp⟩;simp only[] at hg he hgp;have hM24:=hK.ext hs24;have kq:enN A B ei.e E=⟨nxt A.ed ei.e.x E,nxt B.ed ei.e.y E,ei.e.u++[E]⟩:=rfl
 have hS:eqS A B ei.e (fs.map (·.e)) E=if (nxt A.ed ei.e.x E,nxt B.ed ei.e.y E)≠((-1:Int),(-1:Int))∧(nxt A.ed ei.e.x E,nxt B.ed ei.e.y E)∉((fs.map (·.e)).drop 1).map En.ky then fs.map (·.e)++[enN A B ei.e E] else fs.map (·.e):=by unfold eqS;rw[kq];rfl
 have gn:=Qnv hL hM gk (i:=i) (by rw[Lo];exact hi) (e:=ei.e) (by rw[Mv,hC]) E;rw[hS] at hD gn;refine Zs (nxt A.ed ei.e.x E) λnx hnxe=>Zs (nxt B.ed ei.e.y E) λny hnye=>?_;rw[hnxe,hnye] at hg hD gn kq;rw[kq] at hD gn
 refine Qd<|x (Qa O)<|x (Qc hg O O)<|x (Qa O)<|x (Qc hg O O)<|x (QG ⟨O,O,La⟩)<|xl O<|Qu (us:=[.int .i64 0,.int .i64 0]) O λb23 w25 hs25 hb23 hB23 =>
  xl rfl<|Qq (us:=[.int .i64 nx,.int .i64 ny]) hB23 O O O O ⟨O,O,La⟩ λpd hs26 g1=>xe ?_
 have kr:Step [] pc pd:=hs25.then1 hs26 hb23;have hQ:=hM24.ext kr;have hBp26:=hg.ext kr;have kt:=Qt he kr;refine Exists.elim hQ.m λmm ku=>?_;have kv:=ku.1;have g2:=ku.2 (nx,ny);refine Q0 (α:=Unit) [(118,126)] (λz=>[(126,.bool (decide ((nx,ny)≠((-1:Int),(-1:Int))∧(nx,ny)∉((fs.map (·.e)).drop 1).map En.ky)))]) (λz w'=>w'=pd) (by rfl) ?_ ?_
 ·refine Qx<|x (Qo g1 O O)<|x (QG ⟨O,O,La⟩)<|xb (Qc8 (p:=(nx,ny)) (q:=(-1,-1)) O O) (λkw=>?_) (λkw=>?_)
  ·refine Or.elim (Decidable.em ((nx,ny)∈((fs.map (·.e)).drop 1).map En.ky)) (λgq=>?_) (λgq=>?_)
   ·rw[if_pos gq] at g2;refine Qb<|Qb<|x (Qo g1 O O)<|x (zw (k:=(nx,ny)) kv O O g2)<|x (Zh O)<|x (Qp O)<|xe ?_;exact ⟨(),⟨congrArg Value.bool (decide_eq_false (λa=>a.2 gq)).symm,La⟩,O⟩
   rw[if_neg gq] at g2;refine Qb<|Qb<|x (Qo g1 O O)<|x (Qc9 (k:=(nx,ny)) kv O O g2)<|x (Zh O)<|x (Qp O)<|xe ?_;exact ⟨(),⟨congrArg Value.bool (decide_eq_true ⟨kw,gq⟩).symm,La⟩,O⟩
  refine Qb<|xs O<|xs O<|xs O<|xs O<|x (Qp O)<|xe ?_;exact ⟨(),⟨congrArg Value.bool (decide_eq_false (λa=>kw a.1)).symm,La⟩,O⟩
 rintro _ g27 w27 rfl;refine QI rfl (λkx=>?_) (λkx=>?_)
 ·rw[if_neg kx] at hD;refine Qj<|Qx<|QN O O<|Qb<|xe ?_;exact ⟨(k+1,vL2,fs),by simp only[];omega,⟨O,O,La⟩,gl,hQ,gk,⟨hi,hC⟩,hD⟩
 rw[if_pos kx] at hD gn;have ho:=(Qn.ints (L:=[]) kt (by simp;omega) (by simp)).one;have hq:=(Qn.ints (L:=[]) kt (by simp;omega) (by simp)).cells;refine Qd<|Qb<|x (Qo g1 O O)<|xl O<|Yx (k:=(nx,ny)) kv O O λw28 g3 hm28=>xe ?_;have hltb:=hQ.ltb;have hgp26:bp<pc.heap.size:=hg.lt;have hbp59:bp≠gi:=λe=>by have:=hK.ltb;omega
 have hBp28:=hBp26.step g3 (by simp;exact hbp59);refine Qx<|Qb<|x (Qo hBp28 O O)<|xl O<|QL (us:=[YE ⟨va,⟨nx,ny,ei.e.u++[E]⟩⟩]) O O (by decide) (by exact (by decide:1*3≤1000000)) ⟨O,O,La⟩ λb131 w29 kz hb131 hB131=>?_;have hl26:=hQ.l;have hl29:=Qt (Qi hl26 g3 (λb hb=>by simp;exact λe=>hQ.nb (e ▸ hb))) kz
 have hzB:gx.heap.size≤w29.heap.size:=by have:=hQ.st.size;have:=g3.size;have:=kz.size;omega
 refine xl rfl<|QZ (news:=YE ⟨va,⟨nx,ny,ei.e.u++[E]⟩⟩) (L:=[]) (m:=1) hl29 O O O (hB131.at (by simp)) (by intro u hu;simp only[List.mem_cons,List.not_mem_nil,or_false] at hu;rcases hu with rfl | rfl | rfl;rfl;rfl;exact ho) (by omega) hzB λv30 w30 ho30 hs30 hn30 =>
  Qf ?_
 have hpI:QO (gi::ob vL2) w27.heap va (ei.e.u++[E]):=Qn.ints kt (by simp;omega) (λb hb=>by
  rcases Li.1 hb with rfl | hb
  ·exact hK.ltb
  exact QY hK.l b hb)
 have hM30:=hQ.add (p:=⟨va,⟨nx,ny,ei.e.u++[E]⟩⟩) (by omega) g3 hm28 (ku.2.add (nx,ny)) kz hs30 ho30 hn30 hpI;have pf:(fs++[(⟨va,⟨nx,ny,ei.e.u++[E]⟩⟩:EV)]).map (λq:EV=>q.e)=fs.map (λq:EV=>q.e)++[⟨nx,ny,ei.e.u++[E]⟩]:=by simp
 refine Qx<|QN O O<|Qb<|xe ?_;exact ⟨(k+1,v30,fs++[⟨va,⟨nx,ny,ei.e.u++[E]⟩⟩]),by simp only[];omega,⟨O,O,La⟩,gl,hM30,by simp only[];rw[pf];exact gn.1,⟨by simp;omega,by simp only[];rw[LT hi];exact hC⟩,by simp only[];rw[pf];exact hD⟩
theorem Vo:∀{es:List Ed},(es.Pairwise λx y=>x.1<y.1∨(x.1=y.1∧x.2.1<y.2.1))→∀{s v t:Int},(s,v,t)∈es→eget es s v=some t
 | [],_,_,_,_,h=>by cases h
 | e::es,hp,s,v,t,h=>by
  obtain ⟨h1,h2⟩:=L7.1 hp;rw[eget];rcases Li.1 h with h | h
  ·subst h;rw[if_pos ⟨rfl,rfl⟩]
  have h3:=h1 _ h;rw[if_neg (λh4=>by have a1:e.1=s:=h4.1;have a2:e.2.1=v:=h4.2;simp only[] at h3;omega)];exact Vo h2 h
def VL (b:QE) (x:Int) (vs:LI):List Ed:=vs.filterMap λv=>(eget b.ed x v).map λu=>(x,v,u)
theorem Qf2 (b:QE) (x v:Int) (vs:LI):VL b x (v::vs)=match eget b.ed x v with | none=>VL b x vs | some u=>(x,v,u)::VL b x vs:=by
 unfold VL;rw[Mk];cases eget b.ed x v <;> rfl
theorem QjH {b:QE}(E:QK b) (x:Int):Zv b.ed x=VL b x b.al:=by
 have G:(Zv b.ed x).Pairwise λe d=>e.2.1<d.2.1:=by
  unfold Zv;rw[List.pairwise_filter];exact E.edi.imp λ{e d} h h1 h2=>by
   have:=of_decide_eq_true h1;have:=of_decide_eq_true h2;omega
 have H:(VL b x b.al).Pairwise λe d=>e.2.1<d.2.1:=by
  unfold VL;rw[List.pairwise_filterMap];exact E.ali.imp λ{v w} h e he d hd=>by
   cases h1:eget b.ed x v with
   | none=>rw[h1] at he;cases he
   | some u =>
    cases h2:eget b.ed x w with
    | none=>rw[h2] at hd;cases hd
    | some u2 =>
     rw[h1] at he;rw[h2] at hd;cases he;cases hd
     exact h
 have n1:(Zv b.ed x).Nodup:=G.imp λ{e d} h he=>by subst he;omega
 have n2:(VL b x b.al).Nodup:=H.imp λ{e d} h he=>by subst he;omega
 refine List.Perm.eq_of_pairwise (le:=λe d:Ed=>e.2.1<d.2.1) (λa b _ _ h1 h2=>by omega) G H ((List.perm_ext_iff_of_nodup n1 n2).2 λe=>?_);unfold VL;rw[Mx];constructor
 ·intro h;obtain ⟨h1,h2⟩:=Ya h;refine ⟨e.2.1,(E.ed e h1).2.2.1,?_⟩;obtain ⟨p,v,u⟩:=e;have J:p=x:=h2;subst J;rw[Vo E.edi h1];rfl
 rintro ⟨v,S,he⟩;cases h1:eget b.ed x v with
 | none=>rw[h1] at he;cases he
 | some u =>
  rw[h1] at he;cases he
  unfold Zv;exact LH.2 ⟨ZR h1,decide_eq_true O⟩
theorem QaO {b:QE}(E:QK b):evs [b]=b.al:=by
 show mrg (· || ·) [] b.al=b.al;have hi:ZT ([]:LI):=List.Pairwise.nil;have h1:=V9 (· || ·) _ _ _ (Lv _) hi E.ali;have h2:=QeB (· || ·) _ _ _ (Lv _) hi E.ali;have na:(mrg (· || ·) [] b.al).Nodup:=List.Pairwise.imp (λh=>by omega) h1;have nb:b.al.Nodup:=List.Pairwise.imp (λh=>by omega) E.ali
 exact List.Perm.eq_of_pairwise (le:=λx y:Int=>x<y) (λa b _ _ h1 h2=>by omega) h1 E.ali ((List.perm_ext_iff_of_nodup na nb).2 λx=>by rw[h2];simp)
abbrev YY (a:QE):Cs:=Yu a a.st.toNat 0 (ZH a)
theorem cn0 {a:QE}(J:0<a.st):CnG a 0 (ZH a):=by
 have E:0<a.st.toNat:=by omega
 refine ⟨⟨by simp[ZH],λs hs=>by simp[ZH] at hs;subst hs;omega,by simp[ZH],λk S k1=>?_⟩,Lm _,⟨by simp[ZH,Zm],by simp[ZH]⟩,by simp[ZH],by simp[ZH],λj hj=>by omega⟩;by_cases ek:k=0
 ·subst ek;rw[if_pos (by simp[ZH])];unfold Zm ZH;simp[List.getD,E]
 rw[if_neg (by simpa[ZH] using ek)];unfold ZH;have G:0≠k.toNat:=by omega
 have H:k.toNat<a.st.toNat:=by omega
 unfold Zm;rw[LR,MH G];simp[H]
theorem QaV {a:QE}(G:QK a) (H:0<a.st):CnP a (YY a).ord∧Zt a=⟨a.al,((YY a).ord.length:Int),(YY a).mk',(YY a).ed⟩∧(YY a).ord.length≤a.st.toNat:=by
 obtain ⟨J,h1,h2⟩:=U2 G a.st.toNat 0 (ZH a) (cn0 H);have S:(Yu a a.st.toNat 0 (ZH a)).ord.length≤a.st.toNat:=pig _ _ h1.nu.nd (λx hx=>by have:=h1.nu.bd x hx;omega);have U:J=(Yu a a.st.toNat 0 (ZH a)).ord.length:=by have:=h1.le;omega
 subst U;have E:Zt a=⟨a.al,((Yu a a.st.toNat 0 (ZH a)).ord.length:Int),(Yu a a.st.toNat 0 (ZH a)).mk',(Yu a a.st.toNat 0 (ZH a)).ed⟩:=by unfold Zt;rw[if_neg (by omega)]
 refine ⟨⟨h1.nu.nd,h1.nu.bd,h1.hd,by rw[E],by rw[E],?_,?_,h1.cl⟩,E,S⟩
 ·rw[E];exact h1.mk2
 rw[E];exact h1.ed
theorem Qbw {a:QE}(G:QK a) {i:Nat}{c:Cs}(h:CnG a i c):∃r,(Vx a i c).ord=c.ord++r:=by
 have E:(Zx a i c).ord=c.ord:=by unfold Zx;split <;> rfl
 have H:(Zx a i c).num=c.num:=by unfold Zx;split <;> rfl
 obtain ⟨_,⟨r,k2⟩,_⟩:=Kk (st:=a.st) (i:=i) (Zv a.ed (Zm c.ord i)) (Zx a i c) (by rw[E,H];exact h.nu) (λe he=>(G.ed e (Ya he).1).2.2.2);exact ⟨r,by unfold Vx;rw[k2,E]⟩
theorem QcB {a:QE}(E:QK a):∀(f i:Nat) (c:Cs),CnG a i c→∃r,(Yu a f i c).ord=c.ord++r
 | 0,_,c,_=>⟨[],by simp[Yu]⟩
 | f+1,i,c,h=>by
  rw[Yu];split
  ·rename_i hi;obtain ⟨G,h1⟩:=Qbw E h;obtain ⟨r2,h2⟩:=QcB E f (i+1) _ (h.next E hi);exact ⟨G++r2,by rw[h2,h1,LB]⟩
  exact ⟨[],by simp⟩
def RlS (c:Cs) (s:Sy):Prop:=s.tup=(Ys c.ord.length).map (λk=>[k])∧s.mk'=c.mk'∧s.ed=c.ed
theorem qJ {n k:Nat}:[(k:Int)]∈(Ys n).map (λk=>[k])↔k<n:=by
 rw[Lz];constructor
 ·rintro ⟨x,hx,e⟩;rw[Jo] at hx;have:x=(k:Int):=by simpa using e
  omega
 exact λh=>⟨(k:Int),(Jo _ _).2 ⟨by omega,by omega⟩,O⟩
theorem Qd2:∀{n k:Nat},k<n→((Ys n).map (λk=>[k])).idxOf [(k:Int)]=k
 | 0,k,h=>by omega
 | n+1,k,h=>by
  rw[JZ,LA,L3];by_cases hk:k<n
  ·rw[if_pos (qJ.2 hk),Qd2 hk]
  have e:k=n:=by omega
  subst e;rw[if_neg (λh=>hk (qJ.1 h))];simp[Xh]
theorem Qan {b:QE}(E:QK b) (h0:0<b.st) {i:Nat}(hi:i<(YY b).ord.length):∀(vs:LI),(∀v∈vs,v∈b.al)→∀(c:Cs) (s:Sy),RlS c s→NuI b.st c.ord c.num →
  (∃r,(YY b).ord=((VL b (Zm (YY b).ord i) vs).foldl (Zb i) c).ord++r)→∃s',Kj [Zt b] i [(i:Int)] vs s=some s'∧RlS ((VL b (Zm (YY b).ord i) vs).foldl (Zb i) c) s'
 | [],_,c,s,V,_,_=>⟨s,O,V⟩
 | v::vs,hv,c,s,V,ha,G=>by
  obtain ⟨hP,hk,hz⟩:=QaV E h0;have hc:=hv v Lh;have hf:(Zt b).al=b.al:=by rw[hk]
  have Y:=hP.step hi v;have hl:∀e∈VL b (Zm (YY b).ord i) vs,0≤e.2.2∧e.2.2<b.st:=λe he=>by
   unfold VL at he;obtain ⟨v',_,h2⟩:=Mx.1 he;cases h1:eget b.ed (Zm (YY b).ord i) v' with
   | none=>rw[h1] at h2;cases h2
   | some u=>rw[h1] at h2;cases h2;exact (E.ed _ (ZR h1)).2.2.2
  rw[Kj];rw[Qf2] at G ⊢;cases hg:eget b.ed (Zm (YY b).ord i) v with
  | none =>
   rw[hg] at Y G;have H:Q7 v [Zt b] [(i:Int)]=none:=by rw[Q7,if_neg (by rw[hf];exact λh=>h hc),Y];rfl
   have hp:yU [Zt b] i [(i:Int)] s v=some s:=by unfold yU;rw[H]
   rw[hp];exact Qan E h0 hi vs (λv hv'=>hv v (Le _ hv')) c s V ha G
  | some u =>
   rw[hg] at Y G;simp only[List.foldl_cons] at G ⊢;have S:=(E.ed _ (ZR hg)).2.2.2;simp only[] at S;have H:Q7 v [Zt b] [(i:Int)]=some [((YY b).ord.idxOf u:Int)]:=by rw[Q7,if_neg (by rw[hf];exact λh=>h hc),Y];rfl
   obtain ⟨n1,⟨r1,n2⟩,n3,n4,n5⟩:=zl (i:=i) ha (e:=(Zm (YY b).ord i,v,u)) S.1 S.2;obtain ⟨_,⟨r2,k2⟩,_⟩:=Kk (i:=i) (VL b (Zm (YY b).ord i) vs) (Zb i c (Zm (YY b).ord i,v,u)) n1 hl;obtain ⟨r,hh⟩:=G;have J:(YY b).ord=(Zb i c (Zm (YY b).ord i,v,u)).ord++(r2++r):=hh.trans (by rw[k2,LB])
   have hq:∃Z,yU [Zt b] i [(i:Int)] s v=some Z∧RlS (Zb i c (Zm (YY b).ord i,v,u)) Z:=by
    obtain ⟨e1,e2,e3⟩:=V;have U:=ha.nu u S.1 S.2;by_cases hm:u∈c.ord
    ·rw[if_pos hm] at U;have hj:=LC hm;have hb:Zb i c (Zm (YY b).ord i,v,u)=⟨c.ord,c.num,c.mk',c.ed++[((i:Int),v,(c.ord.idxOf u:Int))]⟩:=by
      unfold Zb;simp only[];rw[if_neg (by rw[U];omega),U]
     rw[hb] at J ⊢;have hix:(YY b).ord.idxOf u=c.ord.idxOf u:=by rw[J];simp only[];rw[L3,if_pos hm]
     rw[hix] at H;have hs:[((c.ord.idxOf u:Nat):Int)]∈s.tup:=by rw[e1];exact qJ.2 hj
     refine ⟨⟨s.tup,s.mk',s.ed++[((i:Int),v,(s.tup.idxOf [((c.ord.idxOf u:Nat):Int)]:Int))]⟩,by unfold yU;rw[H];simp only[];rw[if_pos hs],e1,e2,?_⟩;simp only[];rw[e3,e1,Qd2 hj]
    rw[if_neg hm] at U;have hb:Zb i c (Zm (YY b).ord i,v,u)=⟨c.ord++[u],c.num.set u.toNat c.ord.length,c.mk',c.ed++[((i:Int),v,(c.ord.length:Int))]⟩:=by
     unfold Zb;simp only[];rw[if_pos (by rw[U];decide)]
    rw[hb] at J ⊢;simp only[] at J;have hix:(YY b).ord.idxOf u=c.ord.length:=by rw[J,LB,L3,if_neg hm];simp
    have h3:c.ord.length<(YY b).ord.length:=by rw[J];simp
    rw[hix] at H;have ht:¬[((c.ord.length:Nat):Int)]∈s.tup:=by rw[e1];exact λh=>Nat.lt_irrefl _ (qJ.1 h)
    have hu:s.tup.length=c.ord.length:=by rw[e1,Lo,Xh]
    have h4:=E.st1;refine ⟨⟨s.tup++[[((c.ord.length:Nat):Int)]],s.mk',s.ed++[((i:Int),v,(s.tup.length:Int))]⟩,by unfold yU;rw[H];simp only[];rw[if_neg ht,if_neg (by omega)],?_,e2,?_⟩
    ·simp only[];rw[e1,Lk,LD,JZ,LA];rfl
    simp only[];rw[e3,hu]
   obtain ⟨Z,hw,hy⟩:=hq;rw[hw];exact Qan E h0 hi vs (λv hv'=>hv v (Le _ hv')) _ Z hy n1 ⟨r,hh⟩
theorem QbV {b:QE}(G:QK b) (H:0<b.st):∀(f g i:Nat) (c:Cs) (s:Sy),CnG b i c→RlS c s→Yu b f i c=YY b→b.st.toNat≤i+f→b.st.toNat≤i+g →
  ∃s',yT [Zt b] g i s=some s'∧RlS (YY b) s'
 | 0,g,i,c,s,hc,E,he,hf,hg=>by
  rw[Yu] at he;have hl:c.ord.length≤b.st.toNat:=pig _ _ hc.nu.nd (λx hx=>by have:=hc.nu.bd x hx;omega);exact ⟨s,zi (by rw[E.1,Lo,Xh];omega),by rw[←he];exact E⟩
 | f+1,g,i,c,s,hc,E,he,hf,hg=>by
  obtain ⟨hP,ha,hs⟩:=QaV G H;have ht:s.tup.length=c.ord.length:=by rw[E.1,Lo,Xh]
  rw[Yu] at he;by_cases hi:i<c.ord.length
  ·rw[if_pos hi] at he;have hu:c.ord.length≤b.st.toNat:=pig _ _ hc.nu.nd (λx hx=>by have:=hc.nu.bd x hx;omega);obtain ⟨J,rfl⟩:∃J,g=J+1:=⟨g - 1,by omega⟩;obtain ⟨r,S⟩:=QcB G f (i+1) _ (hc.next G hi);rw[he] at S;obtain ⟨r1,hp1⟩:=Qbw G hc;have U:(YY b).ord=c.ord++(r1++r):=by rw[S,hp1,LB]
   have V:Zm (YY b).ord i=Zm c.ord i:=by rw[U];exact z7 hi
   have hb:i<(YY b).ord.length:=by rw[U,Lk];omega
   have hT:VU s i=[(i:Int)]:=by
    unfold VU;rw[E.1];have:((Ys c.ord.length).map λk=>[k])[i]?=some [(i:Int)]:=by
     simp[Ys,hi]
    simp[List.getD,this]
   have hh:RlS (Zx b i c) (Zw [Zt b] i [(i:Int)] s):=by
    have hj:=hP.mk2;have Y:(i:Int)∈(Zt b).mr↔Zm c.ord i∈b.mr:=by
     rw[hj,←V];simp only[List.mem_map,List.mem_filter,List.mem_range'_1,decide_eq_true_eq];constructor
     ·rintro ⟨k,⟨_,h2⟩,h3⟩;have:k=i:=by omega
      subst this;exact h2
     intro h2;exact ⟨i,⟨by omega,h2⟩,O⟩
    have hk:Yd [Zt b] [(i:Int)]=decide ((i:Int)∈(Zt b).mr):=by
     show (decide ((i:Int)∈(Zt b).mr) && true)=_;rw[Bool.and_true]
    unfold Zw Zx;rw[hk];by_cases hm:Zm c.ord i∈b.mr
    ·rw[if_pos hm,if_pos (decide_eq_true (Y.2 hm))];exact ⟨E.1,by simp only[];rw[E.2.1],E.2.2⟩
    rw[if_neg hm,if_neg (λh=>hm (Y.1 (of_decide_eq_true h)))];exact E
   have hn:(Zx b i c).ord=c.ord:=by unfold Zx;split <;> rfl
   have hp:(Zx b i c).num=c.num:=by unfold Zx;split <;> rfl
   have Z:Vx b i c=(VL b (Zm (YY b).ord i) b.al).foldl (Zb i) (Zx b i c):=by
    unfold Vx;rw[QjH G,V]
   have hq:evs [Zt b]=b.al:=by
    have e1:(Zt b).al=b.al:=by rw[ha]
    have e2:=QaO G;have e3:evs [Zt b]=mrg (· || ·) [] (Zt b).al:=rfl;rw[e3,e1];exact e2
   obtain ⟨s1,h1,h2⟩:=Qan G H hb b.al (λv hv=>hv) (Zx b i c) _ hh (by rw[hn,hp];exact hc.nu) ⟨r,by rw[←Z];exact S⟩;rw[←Z] at h2;rw[yT,if_pos (by omega),hT,hq,h1];exact QbV G H f J (i+1) _ s1 (hc.next G hi) h2 he (by omega) (by omega)
  rw[if_neg hi] at he;exact ⟨s,zi (by omega),by rw[←he];exact E⟩
theorem QgG {b:QE}(E:QK b) (G:0<b.st):∃q,sync [Zt b]=some (Zt b,q):=by
 obtain ⟨J,H,hb⟩:=QaV E G;have hc:=E.st1;have S:RlS (ZH b) (UG [Zt b]):=⟨O,O,O⟩;obtain ⟨U,h1,h2⟩:=QbV E G b.st.toNat 4096 0 (ZH b) (UG [Zt b]) (cn0 G) S O (by omega) (by omega);refine ⟨U.tup,?_⟩;have V:(Zt b).st=((YY b).ord.length:Int):=by rw[H]
 have hp:=J.hd.2;unfold sync;rw[if_neg (λ⟨a,ha,h⟩=>by rw[Lc.1 ha,V] at h;omega),h1];have Y:evs [Zt b]=b.al:=by
  have e1:(Zt b).al=b.al:=by rw[H]
  have e2:=QaO E;have Z:evs [Zt b]=mrg (· || ·) [] (Zt b).al:=rfl;rw[Z,e1];exact e2
 rw[NI,Y,h2.1,h2.2.1,h2.2.2,Lo,Xh,←H]
theorem Qk8 {a:QE}{ul:LI}:∀(f:Nat) (lf:Lf),VA lf<f→(nxs a ul (V3 a ul f lf)).length=0
 | 0,_,h=>by omega
 | f+1,lf,h=>by
  by_cases h1:(nxs a ul lf).length=0
  ·rw[V3,if_pos h1];exact h1
  rw[js h1];have:=QbH h1;exact Qk8 f _ (by omega)
theorem QgY (a:QE) (fb ul:LI):(nxs a ul (XJ a fb ul)).length=0:=by
 refine Qk8 _ _ ?_;have h:=Qe2 (lf0 a.st.toNat fb);have:(lf0 a.st.toNat fb).length=a.st.toNat:=by unfold lf0;rw[Uo,List.length_replicate]
 omega
theorem Qj6 {l:Lf}{x s:Int}(h:lft (cut l x) s=true):lft l s=true∧x.toNat≠s.toNat:=by
 unfold lft cut at *;rw[LR,List.getElem?_set] at h;by_cases e:x.toNat=s.toNat
 ·rw[if_pos e] at h;split at h <;> simp at h
 rw[if_neg e,←LR] at h;exact ⟨h,e⟩
theorem zN {s:Int}:∀(xs:LI) (l:Lf),lft (xs.foldl cut l) s=true→lft l s=true∧∀x∈xs,x.toNat≠s.toNat
 | [],l,h=>⟨h,λx hx=>(by cases hx)⟩
 | x::xs,l,h=>by
  obtain ⟨h1,h2⟩:=zN xs (cut l x) h;obtain ⟨h3,h4⟩:=Qj6 h1;refine ⟨h3,λy hy=>?_⟩;rcases Li.1 hy with e | hy
  ·rw[e];exact h4
  exact h2 y hy
theorem QeJ {a:QE}{ul:LI}{s:Int}:∀(f:Nat) (l:Lf),lft (V3 a ul f l) s=true→lft l s=true
 | 0,l,h=>h
 | f+1,l,h=>by
  rw[V3] at h;split at h
  ·exact h
  exact (zN _ _ (QeJ f _ h)).1
theorem Ql5 {a:QE}{fb ul:LI}{s:Int}(h:lft (XJ a fb ul) s=true):∀x∈fb,x.toNat≠s.toNat:=(zN fb _ (QeJ _ _ h)).2
theorem Qj5 {ul:LI}{lf:Lf}{e:Ed}{out:List (Int×Int)}(h:out≠[]):Jv ul lf out e≠[]:=by
 unfold Jv;split
 ·exact h
 split
 ·exact h
 simp
theorem QbT {ul:LI}{lf:Lf}:∀(l:List Ed) {out:List (Int×Int)},out≠[]→l.foldl (Jv ul lf) out≠[]
 | [],_,h=>h
 | _::l,_,h=>QbT l (Qj5 h)
theorem QbU {ul:LI}{lf:Lf}{e:Ed}(h1:lft lf e.1=true) (h2:lft lf e.2.2=false) (h3:e.2.1∈ul):∀(l:List Ed) (out:List (Int×Int)),e∈l→l.foldl (Jv ul lf) out≠[]
 | x::l,out,h=>by
  rcases Li.1 h with e1 | h
  ·subst e1;refine QbT l ?_;unfold Jv;rw[if_neg (by rw[h1,h2];simp[h3])];split
   ·rename_i h4;intro h5;rw[h5] at h4;cases h4
   simp
  exact QbU h1 h2 h3 l _ h
theorem Qj9 {a:QE}{fb ul:LI}{e:Ed}(he:e∈a.ed) (h1:lft (XJ a fb ul) e.1=true) (h3:e.2.1∈ul):lft (XJ a fb ul) e.2.2=true:=by
 have E:=QgY a fb ul;cases h2:lft (XJ a fb ul) e.2.2 with
 | true=>rfl
 | false =>
  have h4:lost a ul (XJ a fb ul)≠[]:=QbU h1 h2 h3 a.ed [] he;have h5:(lost a ul (XJ a fb ul)).length≠0:=λh=>h4 (Ln h);unfold nxs at E;rw[if_pos h5,Lo] at E;exact absurd E h5
def pst (v:Int) (a:QE) (x:Int):Option Int:=if v∈a.al then eget a.ed x v else some x
theorem ZY (v:Int) (a:QE) (aa:List QE) (x:Int) (t:LI):Q7 v (a::aa) (x::t)=(pst v a x).bind λy=>(Q7 v aa t).map (y::·):=by
 rw[Q7];unfold pst;by_cases h:v∈a.al
 ·rw[if_neg (not_not_intro h),if_pos h];cases eget a.ed x v <;> rfl
 rw[if_pos h,if_neg h];rfl
theorem Xt (v:Int):∀(aa:List QE) (t u:LI),t.length=aa.length→(Q7 v aa t=some u↔u.length=aa.length∧∀i (h:i<aa.length),pst v (aa[i]'h) (cget t i)=some (cget u i))
 | [],[],u,_=>by
  show some []=some u↔_;constructor
  ·intro h;rw[←Option.some.inj h];exact ⟨O,λi h=>absurd h (Nat.not_lt_zero i)⟩
  rintro ⟨h,_⟩;rw[Ln h]
 | a::aa,x::t,u,hl=>by
  have G:t.length=aa.length:=by simpa using hl
  rw[ZY];constructor
  ·intro h;obtain ⟨y,h1,h2⟩:=L4.1 h;obtain ⟨E,h3,h4⟩:=LZ.1 h2;subst h4;obtain ⟨h5,H⟩:=(Xt v aa t E G).1 h3;refine ⟨by simp[h5],λi hi=>?_⟩;cases i with
   | zero=>exact h1
   | succ i=>exact H i (by simpa using hi)
  rintro ⟨h1,h2⟩;cases u with
  | nil=>simp at h1
  | cons y E =>
   have h3:=h2 0 (by simp);have h4:Q7 v aa t=some E:=(Xt v aa t E G).2 ⟨by simpa using h1,λi hi=>h2 (i+1) (by simpa using hi)⟩;have h5:pst v a x=some y:=h3;rw[h5,h4];rfl
theorem zk {v:Int}:∀{aa:List QE}{t:LI},t.length=aa.length→(∀i (h:i<aa.length),(pst v (aa[i]'h) (cget t i)).isSome=true)→∃u,Q7 v aa t=some u
 | [],[],_,_=>⟨[],O⟩
 | a::aa,x::t,hl,h=>by
  obtain ⟨u,hu⟩:=zk (v:=v) (aa:=aa) (t:=t) (by simpa using hl) (λi hi=>h (i+1) (by simpa using hi));obtain ⟨y,hy⟩:=MD.1 (h 0 (by simp));have E:pst v a x=some y:=hy;exact ⟨y::u,by rw[ZY,E,hu];rfl⟩
def nx (v:Int) (A:Nat→QE) (x:Nat→Int) (i:Nat):Int:=(pst v (A i) (x i)).getD 0
theorem Qc2 {v:Int}{aa:List QE}{t:LI}(hl:t.length=aa.length) (E:∀a∈aa,v∉a.al):Q7 v aa t=some t:=by
 refine (Xt v _ _ _ hl).2 ⟨hl,λk hk=>?_⟩;unfold pst;rw[if_neg (E _ (Lj hk))]
theorem ZG {l:List (LI)}{s:Nat}(h:s<l.length):l.getD s []=l[s]'h∧l.getD s []∈l:=by
 have e:l.getD s []=l[s]'h:=by simp[List.getD,h]
 exact ⟨e,by rw[e];exact Lj h⟩
theorem Qlc {α:Type}{l:List α}(E:l.Nodup) {i j:Nat}(hi:i<l.length) (hj:j<l.length) (e:l[i]'hi=l[j]'hj):i=j:=by
 have h:=Nv.1 E;rcases Nat.lt_trichotomy i j with h1 | h1 | h1
 ·exact absurd e (h i j hi hj h1)
 ·exact h1
 exact absurd e.symm (h j i hj hi h1)
def sord (B:QE) (lf:Lf):LI:=(YY (rstr B lf)).ord
def SvR (B:QE) (Q:List (LI)) (lf:Lf) (q:LI) (y:Int):Prop :=
 ∃j s:Nat,y=(j:Int)∧j<(sord B lf).length∧Zm (sord B lf) j=(s:Int)∧s<Q.length∧lft lf s=true∧Q.getD s []=q
theorem Qai {B:QE}(E:QK B) (hp:0<B.st) (lf:Lf):CnP (rstr B lf) (sord B lf):=(QaV (Jf E lf) hp).1
theorem SvR.step {aa:List QE}{B:QE}{Q:List (LI)}{lf:Lf}(ha:∀a∈aa,QK a) (H:SyP aa B Q) (S:QK B) (hp:0<B.st) {q:LI}{y U v:Int}(h:SvR B Q lf q y) (G:pst v (Zt (rstr B lf)) y=some U) :
  ∃E,Q7 v aa q=some E∧SvR B Q lf E U:=by
 obtain ⟨j,s,e0,h1,h2,h3,h4,h5⟩:=h;have J:=Qai S hp lf;have V:(Zt (rstr B lf)).al=evs aa:=J.al.trans H.al;unfold pst at G;by_cases hm:v∈(Zt (rstr B lf)).al
 ·have Y:v∈evs aa:=by rw[←V];exact hm
  rw[if_pos hm,e0,J.step h1 v,h2] at G;obtain ⟨u,hu,e1⟩:=LZ.1 G;have Z:=ZR hu;obtain ⟨hf,hg⟩:=LH.1 (show ((s:Int),v,u)∈B.ed.filter λe=>lft lf e.2.2 from Z);have hb:=H.step h3 v;rw[Vo S.edi hf,if_pos Y,h5] at hb;obtain ⟨E,hq,e2⟩:=LZ.1 hb.symm;have hc:=H.to h3 Y (u:=E) (by rw[h5];exact hq)
  have hh:u∈sord B lf:=J.cl j h1 ((s:Int),v,u) (by
   rw[h2];unfold Zv;exact LH.2 ⟨Z,decide_eq_true O⟩)
  have he:=LC hh;refine ⟨E,hq,(sord B lf).idxOf u,Q.idxOf E,e1.symm,he,?_,hc.1,by rw[e2];exact hg,hc.2⟩;rw[e2];show cget (sord B lf) ((sord B lf).idxOf u)=u;rw[←Q5 he,Mq]
 rw[if_neg hm] at G;have hq:q∈Q:=by rw[←h5];exact (ZG h3).2
 exact ⟨q,Qc2 (H.v q hq).1 (λa hj hk=>hm (by rw[V];exact (Xj ha v).2 ⟨a,hj,hk⟩)),j,s,by rw[←e0];exact (Option.some.inj G).symm,h1,h2,h3,h4,h5⟩
theorem SvR.init {aa:List QE}{B:QE}{Q:List (LI)}{lf:Lf}(E:SyP aa B Q) (J:QK B) (hp:0<B.st) (S:lft lf 0=true):SvR B Q lf (List.replicate aa.length 0) 0:=by
 have G:=Qai J hp lf;have H:0<Q.length:=by have:=E.st;omega
 exact ⟨0,0,O,G.hd.2,G.hd.1,H,S,E.hd H⟩
theorem SvR.unc {aa:List QE}{B:QE}{Q:List (LI)}{fb ul:LI}(J:SyP aa B Q) (G:QK B) (hp:0<B.st) {q E:LI}{y v:Int}(h:SvR B Q (XJ B fb ul) q y) (S:v∈evs aa) (U:v∈ul) (hq:Q7 v aa q=some E) :
  (eget (Zt (rstr B (XJ B fb ul))).ed y v).isSome=true:=by
 obtain ⟨j,s,e0,h1,h2,h3,h4,h5⟩:=h;have V:=Qai G hp (XJ B fb ul);have H:=J.step h3 v;rw[if_pos S,h5,hq] at H;have he:=ZR (show eget B.ed (s:Int) v=some (Q.idxOf E:Int) from H);have hl:=Qj9 (fb:=fb) he h4 U;have Y:((s:Int),v,(Q.idxOf E:Int))∈(rstr B (XJ B fb ul)).ed:=LH.2 ⟨he,hl⟩;rw[e0,V.step h1 v,h2,Vo (Jf G _).edi Y];rfl
theorem QgH {B:QE}{fb ul:LI}(h:(qB B fb ul).st≠0):B.st≠0∧lft (XJ B fb ul) 0=true∧qB B fb ul=Zt (rstr B (XJ B fb ul)):=by
 unfold qB yW at *;split at h
 ·exact absurd O h
 rename_i hc;rw[if_neg hc];refine ⟨λe=>hc (.inl e),?_,O⟩;cases hl:lft (XJ B fb ul) 0 with
 | true=>rfl
 | false=>exact absurd (.inr hl) hc
theorem Qjv {P:LI→Prop}{aa:List QE}{i:Nat}{t:LI}{v:Int}{z G:Sy}(h:yU aa i t z v=some G) (E:∀t∈z.tup,P t) (H:∀u,Q7 v aa t=some u→P u):∀t∈G.tup,P t:=by
 unfold yU at h;cases hs:Q7 v aa t with
 | none=>rw[hs] at h;rw[←Option.some.inj h];exact E
 | some u =>
  rw[hs] at h;simp only[] at h;split at h
  ·rw[←Option.some.inj h];exact E
  split at h
  ·cases h
  rw[←Option.some.inj h];intro t ht;rcases Lp.1 ht with ht | ht
  ·exact E t ht
  rw[Lc.1 ht];exact H u hs
theorem Qbk {P:LI→Prop}{aa:List QE}{i:Nat}{t:LI}:∀(vs:LI) (z E:Sy),Kj aa i t vs z=some E→(∀t∈z.tup,P t)→(∀v∈vs,∀u,Q7 v aa t=some u→P u)→∀t∈E.tup,P t
 | [],z,E,h,G,_=>by rw[←Option.some.inj (show some z=some E from h)];exact G
 | v::vs,z,E,h,G,H=>by
  rw[Kj] at h;obtain ⟨J,h1,h2⟩:=L4.1 h;exact Qbk vs J E h2 (Qjv h1 G (H v Lh)) (λw S=>H w (Le _ S))
theorem Qd6 {P:LI→Prop}{aa:List QE}(H:∀t,P t→∀v∈evs aa,∀u,Q7 v aa t=some u→P u):∀(f i:Nat) (z E:Sy),yT aa f i z=some E→(∀t∈z.tup,P t)→∀t∈E.tup,P t
 | 0,_,z,E,h,G=>by rw[←Option.some.inj (show some z=some E from h)];exact G
 | f+1,i,z,E,h,G=>by
  rw[yT] at h;split at h
  ·rename_i hi;obtain ⟨J,h1,h2⟩:=L4.1 h;have S:(Zw aa i (VU z i) z).tup=z.tup:=by unfold Zw;split <;> rfl
   have hp:P (VU z i):=G _ (ZG hi).2;exact Qd6 H f (i+1) J E h2 (Qbk _ _ _ h1 (by rw[S];exact G) (H _ hp))
  rw[←Option.some.inj h];exact G
theorem VZ {P:LI→Prop}{aa:List QE}{z:QE×List (LI)}(h:sync aa=some z) (E:P (List.replicate aa.length 0)) (G:∀t,P t→∀v∈evs aa,∀u,Q7 v aa t=some u→P u):∀t∈z.2,P t:=by
 unfold sync at h;split at h
 ·rw[←Option.some.inj h];intro t ht;cases ht
 obtain ⟨s,h1,h2⟩:=LZ.1 h;rw[←h2];exact Qd6 G _ _ _ _ h1 (λt ht=>by rw[Lc.1 ht];exact E)
section
variable {aa:List QE} {P:LI→Prop} {B:Nat}
structure SyB (P:LI→Prop) (s:Sy):Prop where
 nd:s.tup.Nodup
 p:∀t∈s.tup,P t
theorem Qlx (S:B≤4096) (H:∀l:List (LI),l.Nodup→(∀t∈l,P t)→l.length≤B) {i:Nat}{t:LI}{v:Int}{z:Sy}(E:SyB P z) (J:∀u,Q7 v aa t=some u→P u) :
  ∃z',yU aa i t z v=some z'∧SyB P z':=by
 unfold yU;cases hs:Q7 v aa t with
 | none=>exact ⟨z,O,E⟩
 | some u =>
  simp only[];by_cases hu:u∈z.tup
  ·rw[if_pos hu];exact ⟨_,O,E.nd,E.p⟩
  have G:(z.tup++[u]).Nodup:=Jn E.nd hu;have hp:∀t∈z.tup++[u],P t:=λt ht=>by
   rcases Lp.1 ht with ht | ht
   ·exact E.p t ht
   rw[Lc.1 ht];exact J u hs
  have hc:=H _ G hp;rw[Lk,LD] at hc;rw[if_neg hu,if_neg (by omega)];exact ⟨_,O,G,hp⟩
theorem Qd9 (G:B≤4096) (H:∀l:List (LI),l.Nodup→(∀t∈l,P t)→l.length≤B) {i:Nat}{t:LI}:∀(vs:LI) (z:Sy),SyB P z→(∀v∈vs,∀u,Q7 v aa t=some u→P u)→∃z',Kj aa i t vs z=some z'∧SyB P z'
 | [],z,E,_=>⟨z,O,E⟩
 | v::vs,z,E,J=>by
  obtain ⟨S,h1,h2⟩:=Qlx (i:=i) G H E (J v Lh);obtain ⟨U,h3,h4⟩:=Qd9 G H vs S h2 (λw V=>J w (Le _ V));exact ⟨U,by rw[Kj,h1];exact h3,h4⟩
theorem QgJ (G:B≤4096) (H:∀l:List (LI),l.Nodup→(∀t∈l,P t)→l.length≤B) (J:∀t,P t→∀v∈evs aa,∀u,Q7 v aa t=some u→P u):∀(f i:Nat) (z:Sy),SyB P z→∃z',yT aa f i z=some z'
 | 0,_,z,_=>⟨z,O⟩
 | f+1,i,z,E=>by
  rw[yT];split
  ·rename_i hi;have U:P (VU z i):=E.p _ (by unfold VU;simp[List.getD,hi]);have S:(Zw aa i (VU z i) z).tup=z.tup:=by unfold Zw;split <;> rfl
   obtain ⟨V,h1,h2⟩:=Qd9 (i:=i) G H (evs aa) (Zw aa i (VU z i) z) ⟨by rw[S];exact E.nd,by rw[S];exact E.p⟩ (J _ U);obtain ⟨Y,h3⟩:=QgJ G H J f (i+1) V h2;exact ⟨Y,by rw[h1];exact h3⟩
  exact ⟨z,O⟩
theorem Qd4 (E:B≤4096) (G:∀l:List (LI),l.Nodup→(∀t∈l,P t)→l.length≤B) (H:(∀a∈aa,a.st≠0)→P (List.replicate aa.length 0)) (J:∀t,P t→∀v∈evs aa,∀u,Q7 v aa t=some u→P u) :
  ∃z,sync aa=some z:=by
 unfold sync;split
 ·exact ⟨_,rfl⟩
 rename_i S;have h1:P (List.replicate aa.length 0):=H (λa ha e=>S ⟨a,ha,e⟩);obtain ⟨z,h2⟩:=QgJ E G J 4096 0 (UG aa) ⟨by simp[UG],λt ht=>by simp[UG] at ht;subst ht;exact h1⟩;exact ⟨_,by rw[h2];rfl⟩
end
def K0 (k:Nat):LI→Int
 | []=>0
 | x::t=>x+(k:Int)*K0 k t
theorem QaR {k:Nat}:∀{t:LI},(∀x∈t,0≤x∧x<(k:Int))→0≤K0 k t∧K0 k t<((k ^ t.length:Nat):Int)
 | [],_=>by simp[K0]
 | x::t,h=>by
  have hx:=h x Lh;obtain ⟨h1,h2⟩:=QaR (t:=t) (λy hy=>h y (Le _ hy));have hk:(0:Int)<(k:Int):=by omega
  rw[K0,LP,Nat.pow_succ];have h3:(k:Int)*K0 k t≤(k:Int)*(((k ^ t.length:Nat):Int) - 1):=Int.mul_le_mul_of_nonneg_left (by omega) (by omega);have h4:0≤(k:Int)*K0 k t:=Int.mul_nonneg (by omega) h1;rw[Int.mul_sub,Int.mul_one] at h3;have h5:((k ^ t.length*k:Nat):Int)=(k:Int)*((k ^ t.length:Nat):Int):=by rw[Int.natCast_mul,Int.mul_comm]
  rw[h5];exact ⟨by omega,by omega⟩
theorem yp {k:Nat}:∀{t u:LI},t.length=u.length→(∀x∈t,0≤x∧x<(k:Int))→(∀x∈u,0≤x∧x<(k:Int))→K0 k t=K0 k u→t=u
 | [],[],_,_,_,_=>rfl
 | [],_::_,h,_,_,_=>by cases h
 | _::_,[],h,_,_,_=>by cases h
 | x::t,y::u,hl,ht,hu,he=>by
  have hx:=ht x Lh;have hy:=hu y Lh;rw[K0,K0] at he;have m1:(x+(k:Int)*K0 k t) % (k:Int)=x:=by rw[Int.add_mul_emod_self_left];exact Int.emod_eq_of_lt hx.1 hx.2
  have H:(y+(k:Int)*K0 k u) % (k:Int)=y:=by rw[Int.add_mul_emod_self_left];exact Int.emod_eq_of_lt hy.1 hy.2
  rw[he] at m1;have G:x=y:=by omega
  subst G;have hm:(k:Int)*K0 k t=(k:Int)*K0 k u:=by omega
  have hk:(k:Int)≠0:=by omega
  have h2:=Int.eq_of_mul_eq_mul_left hk hm;rw[yp (by simpa using hl) (λz E=>ht z (Le _ E)) (λz E=>hu z (Le _ E)) h2]
theorem Qbg {aa:List QE}{k:Nat}(G:∀a∈aa,QK a) (hk:∀a∈aa,a.st≤(k:Int)) (J:k ^ aa.length≤4096):∃z,sync aa=some z:=by
 have E:∀t,Vt aa t→∀x∈t,0≤x∧x<(k:Int):=λt ht x hx=>by
  obtain ⟨i,hi,e⟩:=LO hx;have H:i<aa.length:=by rw[←ht.1];exact hi
  have h1:=ht.2 i hi H;have h2:=hk _ (Lj H);rw[e] at h1;omega
 refine Qd4 (P:=Vt aa) J (λl S hp=>?_) (λU=>?_) (λt ht v _ u hu=>XI G ht hu)
 ·have h1:(l.map (K0 k)).Nodup:=by
   unfold List.Nodup;rw[Mm];refine List.Pairwise.imp_of_mem (λ{a b} ha hb V e=>V ?_) S;exact yp (by rw[(hp a ha).1,(hp b hb).1]) (E a (hp a ha)) (E b (hp b hb)) e
  have h2:=pig (k ^ aa.length) _ h1 (λu hu=>by
   obtain ⟨t,ht,rfl⟩:=Lz.1 hu;have h3:=QaR (E t (hp t ht));rw[(hp t ht).1] at h3;exact h3)
  rw[Lo] at h2;exact h2
 refine ⟨by simp,λi h h'=>?_⟩;have h1:=U _ (Lj h');have h2:=(G _ (Lj h')).st0;simp only[List.getElem_replicate];omega
abbrev dI:Kx:=⟨.empty,⟨[],0,[],[]⟩⟩
theorem Qlf {α:Type}{l:List α}{k:Nat}(h:k<l.length) (d:α):l.getD k d=l[k]'h:=by simp[List.getD,h]
theorem YX {c:Yz}(h:D25 c):(∀a∈auts c.co++auts c.rq,GdA a):=λa ha=>by
 rcases Lp.1 ha with ha | ha
 ·obtain ⟨x,hx,rfl⟩:=Lz.1 ha;exact (h.co x hx).2.1
 obtain ⟨x,hx,rfl⟩:=Lz.1 ha;exact (h.rq x hx).2.1
theorem ZA (l:List Kx):(auts l).length=l.length:=by unfold auts;rw[Lo]
theorem z8 {aa:List QE}(h:∀a∈aa,GdA a) (hl:aa.length≤5):VF aa=0∧∃z,sync aa=some z:=by
 refine ⟨?_,Qbg (k:=3) (λa ha=>(h a ha).ok) (λa ha=>(h a ha).s) ?_⟩
 ·unfold VF;rw[if_neg (by omega)];exact (Ur _).2 λa ha=>(h a ha).ok
 exact L5 (Nat.pow_le_pow_right (by omega) hl) (by decide)
theorem q6 {c:Yz}(h:D25 c):∃pl ps sa ts,sync (auts c.co)=some (pl,ps)∧sync (auts c.co++auts c.rq)=some (sa,ts)∧XZ c=0:=by
 have h3:=h.c3;have h2:=h.r2;have E:=YX h;obtain ⟨k1,⟨pl,ps⟩,e1⟩:=z8 (aa:=auts c.co) (λa ha=>E a (LE _ ha)) (by rw[ZA];omega);obtain ⟨k2,⟨sa,ts⟩,e2⟩:=z8 (aa:=auts c.co++auts c.rq) E (by rw[Lk,ZA,ZA];omega);refine ⟨pl,ps,sa,ts,e1,e2,?_⟩;unfold XZ;rw[if_neg (not_not_intro h.ck),if_neg (not_not_intro k1),e1];simp only[];rw[if_neg (not_not_intro k2),e2]
def gNm (c:Yz):Nat:=c.co.length+c.rq.length
abbrev mB (c:Yz) (m:Mdl):QE:=(spc (mcC c m)).a
abbrev mL (c:Yz) (m:Mdl):Lf:=XJ (mB c m) (fbs (spc (mcC c m))) (unc c.ev)
theorem JQ {c:Yz}(h:D25 c):SyP (auts c.co++auts c.rq) (spc c).a (JC (auts c.co++auts c.rq))∧SyP (auts c.co) (yV (auts c.co)) (JC (auts c.co))∧0<(spc c).a.st∧0<(yV (auts c.co)).st ∧
  spc c=⟨(spc c).a,(JC (auts c.co++auts c.rq)).map (·.take c.co.length),(JC (auts c.co++auts c.rq)).map (·.drop c.co.length),(JC (auts c.co++auts c.rq)).map (λt=>plx (JC (auts c.co)) (t.take c.co.length)),spF c (yV (auts c.co)) (JC (auts c.co)) (JC (auts c.co++auts c.rq))⟩:=by
 obtain ⟨pl,ps,sa,ts,e1,e2,_⟩:=q6 h;have he:=Qc4 e1 e2;have E:=YX h;have a1:yV (auts c.co)=pl:=by unfold yV;rw[e1]
 have a2:JC (auts c.co)=ps:=by unfold JC;rw[e1]
 have a4:JC (auts c.co++auts c.rq)=ts:=by unfold JC;rw[e2]
 have G:(spc c).a=sa:=by rw[he]
 have H:=Xs (λa ha=>(E a ha).ok) e2;have J:=Xs (λa ha=>(E a (LE _ ha)).ok) e1;have S:ts.length≠0:=λe=>by
  obtain ⟨a,ha,e0⟩:=H.2.1 e;have:=(E a ha).p;omega
 have U:ps.length≠0:=λe=>by
  obtain ⟨a,ha,e0⟩:=J.2.1 e;have:=(E a (LE _ ha)).p;omega
 have V:=H.1.st;have Y:=J.1.st;refine ⟨by rw[G,a4];exact H.1,by rw[a1,a2];exact J.1,by rw[G];omega,by rw[a1];omega,?_⟩;rw[a1,a2,a4,G];exact he
theorem Qih {c:Yz}(h:D25 c) {v:Int}(J:v∈evs (auts c.co++auts c.rq)):v∈evs (auts c.co):=by
 have E:=YX h;have G:∀a∈auts c.co,QK a:=λa ha=>(E a (LE _ ha)).ok;obtain ⟨a,ha,H⟩:=(Xj (λa ha=>(E a ha).ok) v).1 J;rcases Lp.1 ha with ha | ha
 ·exact (Xj G v).2 ⟨a,ha,H⟩
 obtain ⟨x,hx,rfl⟩:=Lz.1 ha;obtain ⟨y,hy,S⟩:=(h.rq x hx).2.2 v H;exact (Xj G v).2 ⟨y.a,Lz.2 ⟨y,hy,O⟩,S⟩
theorem zj {v:Int}{aa bb:List QE}{t u:LI}(hl:t.length=(aa++bb).length) (h:Q7 v (aa++bb) t=some u):Q7 v aa (t.take aa.length)=some (u.take aa.length):=by
 obtain ⟨h1,h2⟩:=(Xt v _ _ u hl).1 h;rw[Lk] at h1 hl;have E:∀(l:LI) k,k<aa.length→cget (l.take aa.length) k=cget l k:=λl k hk=>by
  unfold cget;rw[LR,List.getElem?_take_of_lt hk,←LR]
 refine (Xt v _ _ _ (by rw[LF];omega)).2 ⟨by rw[LF];omega,λk hk=>?_⟩;have h3:=h2 k (by rw[Lk];omega);rw[LT hk] at h3;rw[E t k hk,E u k hk];exact h3
theorem Qnf {c:Yz}(h:D25 c):∀t∈JC (auts c.co++auts c.rq),t.length=gNm c∧t.take c.co.length∈JC (auts c.co):=by
 obtain ⟨pl,ps,sa,ts,e1,e2,_⟩:=q6 h;have S:=YX h;have hs:=JQ h;have a4:JC (auts c.co++auts c.rq)=ts:=by unfold JC;rw[e2]
 have E:(auts c.co++auts c.rq).length=gNm c:=by rw[Lk,ZA,ZA];rfl
 have G:(auts c.co).length=c.co.length:=ZA _;have hp:=hs.2.2.2.1;have U:=hs.2.1.st;have H:0<(JC (auts c.co)).length:=by omega
 have key:=VZ (P:=λt=>t.length=gNm c∧t.take c.co.length∈JC (auts c.co)) e2 (by
  refine ⟨by rw[List.length_replicate,E],?_⟩;rw[List.take_replicate,E,show min c.co.length (gNm c)=c.co.length by unfold gNm;omega];have h1:=hs.2.1.hd H;rw[G] at h1;rw[←h1];exact (ZG H).2) (λt ht v J u hu=>by
  have h1:t.length=(auts c.co++auts c.rq).length:=by rw[ht.1,E]
  refine ⟨by rw[((Xt v _ _ u h1).1 hu).1,E],?_⟩;have h2:=zj h1 hu;rw[G] at h2;have hj:=LC ht.2;have h3:(JC (auts c.co)).getD ((JC (auts c.co)).idxOf (t.take c.co.length)) []=t.take c.co.length:=by
   rw[(ZG hj).1,Mq]
  exact hs.2.1.cl _ hj v (Qih h J) _ (by rw[h3];exact h2))
 intro t ht;rw[a4] at ht;exact key t ht
theorem QlP {c:Yz}(_h:D25 c) {t:LI}(ht:t∈JC (auts c.co)):plx (JC (auts c.co)) t=((JC (auts c.co)).idxOf t:Int)∧(JC (auts c.co)).idxOf t<(JC (auts c.co)).length∧(JC (auts c.co)).getD ((JC (auts c.co)).idxOf t) []=t:=by
 have hj:=LC ht;refine ⟨by unfold plx;rw[if_pos ht],hj,by rw[(ZG hj).1,Mq]⟩
theorem Qms {a:QE}(E:QK a) (x v:Int):v∈enb a x↔(eget a.ed x v).isSome=true:=by rw[Qkz E,Yr E]
theorem Qmm {c:Yz}(h:D25 c) {s:Nat}(hs:s<(JC (auts c.co++auts c.rq)).length) (G:(rsn c (yV (auts c.co)) (plx (JC (auts c.co)) (((JC (auts c.co++auts c.rq)).getD s []).take c.co.length)) s ((JC (auts c.co++auts c.rq)).getD s [])).isSome=true):(s:Int)∈fbs (spc c):=by
 have he:=(JQ h).2.2.2.2;obtain ⟨r,E⟩:=MD.1 G;unfold fbs;rw[he];refine Lz.2 ⟨r,?_,?_⟩
 ·unfold spF;refine Mx.2 ⟨((JC (auts c.co++auts c.rq)).getD s [],s),?_,E⟩;rw[List.mem_zipIdx_iff_getElem?,(ZG hs).1];exact LK hs
 unfold rsn at E;split at E
 ·cases E;rfl
 split at E
 ·cases E;rfl
 cases E
theorem QjC {c:Yz}{pl:QE}{k:Int}{i:Nat}{t:LI}(h:(rfd c (t.drop c.co.length) (Qb7 pl k)).isSome=true):(rsn c pl k i t).isSome=true:=by
 obtain ⟨p,hp⟩:=MD.1 h;obtain ⟨a,b⟩:=p;unfold rsn;split
 ·rfl
 rw[hp];rfl
theorem Qeh {c:Yz}{rs:LI}{v:Int}(E:0≤rfr v 0 c.rq rs) (hc:(c.ev.getD v.toNat ⟨.empty,false,false,false,0⟩).co=false):∀l:LI,v∈l→(rfd c rs l).isSome=true
 | w::l,h=>by
  rw[rfd];split
  ·rfl
  rename_i h1;rcases Li.1 h with e | h
  ·subst e;exact absurd ⟨E,hc⟩ h1
  exact Qeh E hc l h
theorem Qlv {c:Yz}{v:Int}(h:v∈unc c.ev):(c.ev.getD v.toNat ⟨.empty,false,false,false,0⟩).co=false:=by
 obtain ⟨k,hk,e,h1⟩:=(qV _ _ _ _).1 h;rw[LJ] at e;rw[e,LY,Qlf hk];simpa using h1
theorem yD {o:LI}{i j:Nat}{v:Int}(h:i<o.length):cget (o.set i v) j=if j=i then v else cget o j:=by
 by_cases e:j=i
 ·rw[if_pos e,e];unfold cget;simp[List.getD,h]
 rw[if_neg e];unfold cget;simp[List.getD,List.getElem?_set_ne (Ne.symm e)]
theorem QhS {es:List Ed}{e:Ed}{s:Nat}(he:e∈es) (h:e.2.2=(s:Int)):e.1∈ZB es s:=by
 unfold ZB;exact Lz.2 ⟨e,LH.2 ⟨he,decide_eq_true h⟩,O⟩
structure BwF (n:Nat) (s:Int) (ps:LI) (z z':LI×LI):Prop where
 ok:yN n z'.1 z'.2
 cnt:neg z'.1+z'.2.length=neg z.1+z.2.length
 s0:QcL z'.1 z'.2
 ss:0≤cget z'.1 s.toNat
 a:∀p∈ps,0≤cget z'.1 p.toNat
 m:∀i,0≤cget z.1 i→0≤cget z'.1 i
 c:∀i:Nat,0≤cget z'.1 i→0≤cget z.1 i∨(i:Int)∈z'.2
 q:∀x∈z.2,x∈z'.2
theorem QnA {n:Nat}{s p:Int}{z:LI×LI}(h:yN n z.1 z.2) (H:0≤cget z.1 s.toNat) (hp:0≤p∧p<(n:Int)) :
  0≤cget (VW s z p).1 p.toNat∧(∀i,0≤cget z.1 i→0≤cget (VW s z p).1 i)∧(∀i:Nat,0≤cget (VW s z p).1 i→0≤cget z.1 i∨(i:Int)∈(VW s z p).2)∧∀x∈z.2,x∈(VW s z p).2:=by
 have E:p.toNat<z.1.length:=by have:=h.len;omega
 unfold VW;by_cases hc:cget z.1 p.toNat<0
 ·rw[if_pos hc];refine ⟨?_,λi hi=>?_,λi hi=>?_,λx hx=>LE _ hx⟩
  ·show 0≤cget (z.1.set p.toNat _) p.toNat;rw[yD E,if_pos rfl];omega
  ·show 0≤cget (z.1.set p.toNat _) i;rw[yD E];split <;> omega
  have G:0≤cget (z.1.set p.toNat (cget z.1 s.toNat+1)) i:=hi;rw[yD E] at G;by_cases e:i=p.toNat
  ·refine .inr (Nc _ ?_);rw[Lc];omega
  rw[if_neg e] at G;exact .inl G
 rw[if_neg hc];exact ⟨by omega,λi h=>h,λi h=>.inl h,λx h=>h⟩
theorem bwF {n:Nat}{s:Int}(hs:0≤s∧s<(n:Int)):∀(ps:LI) (z:LI×LI),yN n z.1 z.2→QcL z.1 z.2→0≤cget z.1 s.toNat→(∀p∈ps,0≤p∧p<(n:Int))→BwF n s ps z (ps.foldl (VW s) z)
 | [],z,h,G,E,_=>⟨h,O,G,E,(λp hp=>(by cases hp)),λi h=>h,λi h=>.inl h,λx h=>h⟩
 | p::ps,z,h,G,E,H=>by
  have hp:=H p Lh;have h1:=QdJ h hs E hp;have h2:=yF h E hp G;have h3:=QnA h E hp;have ih:=bwF hs ps (VW s z p) h1.1 h2 h1.2.2 (λq hq=>H q (Le _ hq));refine ⟨ih.ok,ih.cnt.trans h1.2.1,ih.s0,ih.ss,λq hq=>?_,λi hi=>ih.m i (h3.2.1 i hi),λi hi=>?_,λx hx=>ih.q x (h3.2.2.2 x hx)⟩
  ·rcases Li.1 hq with rfl | hq
   ·exact ih.m _ h3.1
   exact ih.a q hq
  rcases ih.c i hi with h4 | h4
  ·rcases h3.2.2.1 i h4 with h5 | h5
   ·exact .inl h5
   exact .inr (ih.q _ h5)
  exact .inr h4
theorem Qfe {n:Nat}{es:List Ed}(J:∀e∈es,0≤e.1∧e.1<(n:Int)∧0≤e.2.2∧e.2.2<(n:Int)):∀(f:Nat) (o q:LI),yN n o q→QcL o q→neg o+q.length≤f→(∀e∈es,0≤cget o e.2.2.toNat→0≤cget o e.1.toNat∨e.2.2∈q) →
  (∀e∈es,0≤cget (bwL es f o q) e.2.2.toNat→0≤cget (bwL es f o q) e.1.toNat)∧∀i,0≤cget o i→0≤cget (bwL es f o q) i
 | 0,o,q,_,_,S,G=>by
  have hq:q=[]:=Ln (by omega);subst hq;exact ⟨λe he h=>(G e he h).resolve_right (by simp),λi h=>h⟩
 | f+1,o,[],_,_,_,G=>⟨λe he h=>(G e he h).resolve_right (by simp),λi h=>h⟩
 | f+1,o,s::q,H,U,S,G=>by
  have hs:=H.q s Lh;have E:=bwF hs (ZB es s.toNat) (o,q) ⟨H.len,λx hx=>H.q x (Le _ hx),H.le⟩ (λx hx=>U x (Le _ hx)) (U s Lh) (λp hp=>by
   obtain ⟨e,he,h1,_⟩:=J3 hp;have:=J e he;omega)
  have hc:=E.cnt;simp only[List.length_cons] at S hc;have ih:=Qfe J f _ _ E.ok E.s0 (by omega) (λe he hx=>?_)
  ·rw[bwL];exact ⟨ih.1,λi hi=>ih.2 i (E.m i hi)⟩
  have V:=J e he;by_cases e1:e.2.2=s
  ·exact .inl (E.a _ (QhS he (by rw[e1];omega)))
  rcases E.c _ hx with h1 | h1
  ·rcases G e he h1 with h2 | h2
   ·exact .inl (E.m _ h2)
   rcases Li.1 h2 with h3 | h3
   ·exact absurd h3 e1
   exact .inr (E.q _ h3)
  rw[show ((e.2.2.toNat:Nat):Int)=e.2.2 by omega] at h1;exact .inr h1
theorem QkN {a:QE}(E:QK a) {n:Nat}(H:a.st=(n:Int)):(∀e∈a.ed,0≤cget (bwd n a.ed a.mr) e.2.2.toNat→0≤cget (bwd n a.ed a.mr) e.1.toNat)∧∀x∈a.mr,0≤cget (bwd n a.ed a.mr) x.toNat:=by
 have hb:∀x∈a.mr,0≤x∧x<(n:Int):=λx hx=>by have:=E.mr x hx;omega
 have G:=Qaz (Vr n a.mr);rw[Xn] at G;have h:=Qfe (es:=a.ed) (λe he=>by have:=E.ed e he;omega) (n+a.mr.length) (Vr n a.mr) a.mr (QdK hb) (λx hx=>by rw[q7 (hb x hx) hx];exact Ni _) (by omega) (λe he hx=>.inr ?_)
 ·exact ⟨h.1,λx hx=>h.2 _ (by rw[q7 (hb x hx) hx];exact Ni _)⟩
 have J:=E.ed e he;have hl:e.2.2.toNat<(Vr n a.mr).length:=by rw[Xn];omega
 rw[←Q5 hl] at hx;have e1:((e.2.2.toNat:Nat):Int)=e.2.2:=by omega
 simp only[Vr,List.getElem_map,List.getElem_range,e1] at hx;split at hx
 ·assumption
 omega
theorem Qfg {lf:Lf}:∀(l:LI) (i k:Nat),k<l.length→lf.getD (i+k) false=true→cget l k<0→((i+k:Nat):Int)∈Kv lf i l
 | [],_,k,h,_,_=>by simp at h
 | d::l,i,0,_,h1,h2=>by
  have h3:d<0:=h2;rw[Kv,if_pos ⟨by simpa using h1,h3⟩];simp
 | d::l,i,k+1,h,h1,h2=>by
  have h3:=Qfg l (i+1) k (by simpa using h) (by rw[show i+1+k=i+(k+1) by omega];exact h1) h2;rw[show i+1+k=i+(k+1) by omega] at h3;rw[Kv];split
  ·exact Le _ h3
  exact h3
structure DsQ (a:QE) (lf:Lf) (z:LI×LI):Prop where
 q:∀k,(h:k<z.2.length)→lft lf (z.2[k]'h)=true∧(z.2[k]'h∈a.mr∨∃j,∃hj:j<z.2.length,j<k∧∃v,(z.2[k]'h,v,z.2[j]'hj)∈a.ed)
 r:∀i:Nat,0≤cget z.1 i→i<z.1.length→(i:Int)∈z.2
theorem DsQ.add {a:QE}{lf:Lf}{z:LI×LI}{x y:Int}{i:Nat}(h:DsQ a lf z) (hi:i<z.2.length) (hx:z.2[i]'hi=x) (hy:0≤y) (he:∃v,(y,v,x)∈a.ed) :
  DsQ a lf (qF lf x z y)∧∃S:i<(qF lf x z y).2.length,(qF lf x z y).2[i]'S=x:=by
 unfold qF;by_cases hc:lft lf y=true∧cget z.1 y.toNat<0
 ·rw[if_pos hc];refine ⟨⟨λk hk=>?_,λj hj H=>?_⟩,by simp;omega,by simp only[];rw[LT hi];exact hx⟩
  ·simp only[List.length_append,List.length_singleton] at hk;by_cases e:k=z.2.length
   ·subst e;simp only[List.getElem_append_right (Nat.le_refl _),Nat.sub_self,List.getElem_cons_zero];refine ⟨hc.1,.inr ⟨i,by simp;omega,hi,?_⟩⟩;obtain ⟨v,E⟩:=he;exact ⟨v,by rw[LT hi,hx];exact E⟩
   have J:k<z.2.length:=by omega
   simp only[List.getElem_append_left J];obtain ⟨h1,h2⟩:=h.q k J;refine ⟨h1,h2.imp id ?_⟩;rintro ⟨j,hj,U,v,E⟩;exact ⟨j,by simp;omega,U,v,by rw[LT hj];exact E⟩
  simp only[List.length_set] at H;by_cases e:j=y.toNat
  ·refine Nc _ ?_;rw[Lc];omega
  refine LE _ (h.r j ?_ H);have G:0≤cget (z.1.set y.toNat (cget z.1 x.toNat+1)) j:=hj;unfold cget at G ⊢;rw[LR,MH (Ne.symm e),←LR] at G;exact G
 rw[if_neg hc];exact ⟨h,hi,hx⟩
theorem DsQ.adds {a:QE}{lf:Lf}{x:Int}{i:Nat}:∀(E:LI) (z:LI×LI),DsQ a lf z→(hi:i<z.2.length)→z.2[i]'hi=x→(∀y∈E,0≤y∧∃v,(y,v,x)∈a.ed)→DsQ a lf (E.foldl (qF lf x) z)
 | [],_,h,_,_,_=>h
 | y::E,z,h,hi,hx,hy=>by
  have h1:=h.add hi hx (hy y Lh).1 (hy y Lh).2;obtain ⟨h2,G,H⟩:=h1;exact DsQ.adds E _ h2 G H (λq hq=>hy q (Le _ hq))
theorem Qlj {a:QE}(H:QK a) {lf:Lf}:∀(f i:Nat) (z:LI×LI),DsQ a lf z→(∀x∈z.2,0≤x)→DsQ a lf (dsL a.ed lf f i z)
 | 0,_,z,h,_=>h
 | f+1,i,z,h,J=>by
  rw[dsL];split
  ·rename_i hi;have hx:z.2[i]'hi=cget z.2 i:=Q5 hi;have S:=J _ (Lj hi);rw[hx] at S;refine Qlj H f (i+1) _ (h.adds (i:=i) _ _ hi hx (λy hy=>?_)) (λx U=>?_)
   ·obtain ⟨e,he,h1,h2⟩:=J3 hy;have V:=H.ed e he;rw[show (((cget z.2 i).toNat:Nat):Int)=cget z.2 i by omega] at h2;exact ⟨by omega,e.2.1,by rw[←h1,←h2];exact he⟩
   have key:∀(E:LI) (z:LI×LI),(∀y∈E,0≤y)→(∀x∈z.2,0≤x)→∀x∈(E.foldl (qF lf (cget z.2 i)) z).2,0≤x:=by
    intro E z;generalize cget z.2 i=x0;intro hy G;have k2:∀(E:LI) (z:LI×LI),(∀y∈E,0≤y)→(∀x∈z.2,0≤x)→∀x∈(E.foldl (qF lf x0) z).2,0≤x:=by
     intro E;induction E with
     | nil=>intro z _ G;exact G
     | cons y E ih =>
      intro z hy G;rw[Ls];refine ih _ (λq hq=>hy q (Le _ hq)) (λx hx=>?_);unfold qF at hx;split at hx
      ·rcases Lp.1 hx with hx | hx
       ·exact G x hx
       rw[Lc.1 hx];exact hy y Lh
      exact G x hx
    exact k2 E z hy G
   exact key _ z (λy hy=>by
    obtain ⟨e,he,h1,_⟩:=J3 hy;have:=(H.ed e he).1;omega) J x U
  exact h
theorem Qnx {a:QE}(G:QK a) (lf:Lf):DsQ a lf (ds0 a lf)∧∀x∈(ds0 a lf).2,0≤x:=by
 rw[Qdz (λx hx=>(G.mr x hx).1)];refine ⟨⟨λk hk=>?_,λi hi E=>?_⟩,λx hx=>(G.mr x (LH.1 hx).1).1⟩
 ·have:=LH.1 (Lj hk);exact ⟨this.2,.inl this.1⟩
 simp only[] at hi E;rw[←Q5 E] at hi;rw[Xn] at E;simp only[Vr,List.getElem_map,List.getElem_range] at hi;split at hi
 ·assumption
 omega
inductive Rch (a:QE):Int→Prop
 | mk {x:Int} (h:x∈a.mr):Rch a x
 | step {x y v:Int} (h:(x,v,y)∈a.ed) (k:Rch a y):Rch a x
theorem Rch.rg {a:QE}(E:QK a) {x:Int}(h:Rch a x):0≤x∧x<a.st:=by
 cases h with
 | mk h=>exact E.mr x h
 | step h _=>have:=E.ed _ h;exact ⟨this.1,this.2.1⟩
theorem Rch.cor {a:QE}(E:QK a) {x:Int}(h:Rch a x):x∈cor a:=by
 have H:=E.st0;have G:a.st=(a.st.toNat:Int):=by omega
 have hb:=QkN E G;have key:0≤cget (bwd a.st.toNat a.ed a.mr) x.toNat:=by
  induction h with
  | mk h=>exact hb.2 _ h
  | step h _ ih=>exact hb.1 _ h ih
 have J:=h.rg E;unfold Proofs.YtdffckgdcegpaaaGreatDoor.cor U0;refine Lz.2 ⟨x.toNat,LH.2 ⟨MU.2 (by omega),decide_eq_true key⟩,by omega⟩
theorem QiS {a:QE}(E:QK a) (h:∀x:Int,0≤x→x<a.st→Rch a x):VB a=[]:=by
 have G:=E.st0;refine List.eq_nil_iff_forall_not_mem.2 λx hx=>?_;obtain ⟨h1,h2⟩:=(QcE a x).1 hx;exact h2 ((h x h1.1 (by omega)).cor E)
theorem Vi:∀{aa:List QE}{t:LI},t.length=aa.length→(Yd aa t=true↔∀i (h:i<aa.length),cget t i∈(aa[i]'h).mr)
 | [],[],_=>⟨λ_ i h=>absurd h (Nat.not_lt_zero i),λ_=>O⟩
 | a::aa,x::t,hl=>by
  have ih:=Vi (aa:=aa) (t:=t) (by simpa using hl);rw[Yd,Lx,decide_eq_true_iff,ih];constructor
  ·rintro ⟨h1,h2⟩ i hi;cases i with
   | zero=>exact h1
   | succ i=>exact h2 i (by simpa using hi)
  intro h;exact ⟨h 0 (by simp),λi hi=>h (i+1) (by simpa using hi)⟩
theorem Qdj {aa bb:List QE}{t:LI}(hl:t.length=(aa++bb).length) (h:Yd (aa++bb) t=true):Yd aa (t.take aa.length)=true:=by
 have h1:=(Vi hl).1 h;rw[Lk] at hl;refine (Vi (by rw[LF];omega)).2 λi hi=>?_;have h2:=h1 i (by rw[Lk];omega);rw[LT hi] at h2;unfold cget at h2 ⊢;rw[LR,List.getElem?_take_of_lt hi,←LR];exact h2
theorem Qlb:∀{a b:LI},a.Nodup→(∀x∈a,x∈b)→a.length≤b.length
 | [],_,_,_=>Lm _
 | x::a,b,E,h=>by
  obtain ⟨h1,h2⟩:=List.nodup_cons.1 E;have hx:=h x Lh;have ih:=Qlb (b:=b.erase x) h2 (λy hy=>(List.mem_erase_of_ne (λe=>h1 (by rw[←e];exact hy))).2 (h y (Le _ hy)));rw[List.length_erase_of_mem hx] at ih;have:=List.length_pos_of_mem hx;rw[LP];omega
theorem QlR {p s:QE}(hp:QK p) (hs:QK s) (E:∀x∈s.al,x∈p.al):opC p s=0:=by
 unfold opC;rw[if_neg (by simp[(Zp p).2 hp]),if_neg (by simp[(Zp s).2 hs]),if_pos];refine List.eq_nil_iff_forall_not_mem.2 λx hx=>?_;have:=(Ja hs.ali hp.ali x).1 hx;simp only[Bool.and_eq_true,decide_eq_true_eq,Bool.not_eq_true',decide_eq_false_iff_not] at this;exact this.2.2 (E x this.2.1)
theorem Qde {p s:QE}(hp:QK p) (hs:QK s) (E:∀x∈s.al,x∈p.al) (h:∃z,sync [p,s]=some z):Xf p s=0:=by
 unfold Xf;rw[if_neg (not_not_intro (QlR hp hs E))];obtain ⟨z,G⟩:=h;rw[G]
structure RdG (p s:QE):Prop where
 e0:rdE p s=0
 ok:QK (qd p s)
 al:(qd p s).al=s.al
 st:(qd p s).st≤s.st
 bi:0<(Zu p s).length→(∃R,Bis p s (qd p s) R)∧0<(qd p s).st
 ze:(Zu p s).length=0→(qd p s).st=0
theorem QlH {p s:QE}(_hp:QK p) (hs:QK s) (U:∀x∈s.al,x∈p.al) (hE:Xf p s=0):RdG p s:=by
 have E:=Qei hE;obtain ⟨hc,hf,hg⟩:=Yq hE;have s0:=hs.st0;have G:QK (qd p s):=by rw[E.eq];exact j6 E.ok
 have H:(qd p s).al=s.al:=by
  rw[E.eq];unfold Zt;split <;> rfl
 by_cases hq:(Zu p s).length=0
 ·have V:Zu p s=[]:=Ln hq;have he:qd p s=⟨s.al,0,[],[]⟩:=by unfold qd;rw[if_pos V]
  have Y:(qd p s).st=0:=by rw[he]
  exact ⟨E.e0,G,H,by omega,λh0=>by omega,λ_=>Y⟩
 obtain ⟨R1,Z,ha⟩:=QkQ hE U (by omega);obtain ⟨R2,J,_,hb,S⟩:=QkR (p:=p) E.ok ha;have hh:(Xo p s).st≤s.st:=by
  have hm:(Xo p s).st=((ZK (Yb p s)).2:Int):=rfl;have hj:(ZK (Yb p s)).2≤s.st.toNat:=by
   have key:∀(d:LI) (k:Nat),((List.range' 0 k).foldl (qE d) ([],0)).2≤k:=by
    intro d k;induction k with
    | zero=>exact Lv _
    | succ k ih =>
     rw[LS,LW,LJ];simp only[List.foldl_cons,List.foldl_nil];generalize (List.range' 0 k).foldl (qE d) ([],0)=z at ih;unfold qE;split
     ·exact Nat.le_succ_of_le ih
     split
     ·exact Nat.succ_le_succ ih
     exact Nat.le_succ_of_le ih
   unfold ZK;rw[show (Yb p s).length=s.st.toNat from E.tr.ld];exact key _ _
  rw[hm];omega
 rw[←E.eq] at J hb S;exact ⟨E.e0,G,H,by omega,λ_=>⟨⟨_,Z.comp J⟩,S⟩,λe=>absurd e hq⟩
theorem Qkx {p s t:QE}(hp:QK p) (hs:QK s) (U:∀x∈s.al,x∈p.al) (V:Xf p s=0) (ht:QK t) (Y:∀x∈t.al,x∈p.al) (hE:Xf p t=0) (hb:0<(Zu p s).length→(∃R,Bis p s t R)∧0<t.st) (Z:(Zu p s).length=0→t.st=0):eqv (Xa p s) (Xa p t) p.al=none:=by
 obtain ⟨E,G,ha⟩:=Yq V;obtain ⟨H,J,S⟩:=Yq hE;by_cases hq:(Zu p s).length=0
 ·have h2:(Zu p t).length=0:=S.2 (.inr (Z hq));exact Qf3 G J (by rw[E.st,hq];rfl) (by rw[H.st,h2];rfl) _
 obtain ⟨⟨R,hB⟩,hc⟩:=hb (by omega);refine QiV E H (Vm hp hs U) (Vm hp ht Y) G J hB ⟨λe=>absurd e hq,λe=>?_⟩;rcases S.1 e with h3 | h3
 ·exact ha.2 (.inl h3)
 omega
structure Cfm (p s:QE) (ul:LI):Prop where
 e:Xf p s=0
 c:∀t∈Zu p s,∀v∈ul,rfu p s t v=false
 b:∀x:Int,0≤x→x<(Xa p s).st→Rch (Xa p s) x
theorem Cfm.is {p s:QE}{ul:LI}(hi:ZT ul) (G:Kt 32 none ul=0) (h:Cfm p s ul):cfm p s ul=(1,[],-1,0):=by
 obtain ⟨U,H,_⟩:=Yq h.e;obtain ⟨hp,_⟩:=Yw h.e;have h1:QdF p s ul=none:=by
  unfold QdF;rw[List.find?_eq_none];intro k hk;have J:=MU.1 hk;have h2:ja p s ul k=-1:=by
   unfold ja rfs;rw[List.find?_eq_none.2 (λv S=>?_)]
   ·rfl
   have E:=(Ja hi hp.ali v).1 S;simp only[Bool.and_eq_true,decide_eq_true_eq] at E;rw[h.c _ (ZG J).2 v E.2.1];decide
  rw[h2];decide
 have h3:chk p s ul=([],0,true):=by unfold chk;rw[h1]
 unfold cfm;rw[if_neg (not_not_intro h.e),if_neg (not_not_intro G),h3,if_neg (by decide),if_pos (QiS H h.b)]
theorem Cfm.bis {p s t:QE}{ul:LI}(hp:QK p) (hs:QK s) (hy:∀x∈s.al,x∈p.al) (ht:QK t) (hg:∀x∈t.al,x∈p.al) (h:Cfm p s ul) (hE:Xf p t=0) (hb:0<(Zu p s).length→(∃R,Bis p s t R)∧0<t.st) (hz:(Zu p s).length=0→t.st=0):Cfm p t ul:=by
 obtain ⟨J,h7,hG⟩:=Yq h.e;obtain ⟨U,hH,h8⟩:=Yq hE;by_cases hq:(Zu p s).length=0
 ·have h2:(Zu p t).length=0:=h8.2 (.inr (hz hq));refine ⟨hE,λu hu=>?_,λx h0 h1=>?_⟩
  ·rw[Ln h2] at hu;cases hu
  have h3:=U.st;omega
 obtain ⟨⟨R,V⟩,hI⟩:=hb (by omega);have hh:0<(Zu p s).length:=by omega
 have ea:=Vm hp hs hy;have eb:=Vm hp ht hg;have h9:=(Yw hE).2.2.1;have key:=VZ (P:=λu=>∃a x y,u=[a,y]∧R a x y∧[a,x]∈Zu p s) h9 ⟨0,0,0,O,V.init,by have:=J.hd hh;rw[show List.replicate [p,s].length (0:Int)=[0,0] from rfl] at this;rw[←this];exact (ZG hh).2⟩ (λu hu v E u' Z=>by
  obtain ⟨a,x,y,rfl,h1,h2⟩:=hu;rw[eb] at E;rcases V.step a x y h1 v E with ⟨_,h3⟩ | ⟨G,x',y',h3,h4,h5⟩
  ·rw[h3] at Z;cases Z
  rw[h4] at Z;refine ⟨G,x',y',(Option.some.inj Z).symm,h5,?_⟩;have hj:=LC h2;have e:(Zu p s).getD ((Zu p s).idxOf [a,x]) []=[a,x]:=by rw[(ZG hj).1,Mq]
  exact J.cl _ hj v (by rw[ea];exact E) _ (by rw[e];exact h3))
 refine ⟨hE,λu hu v E=>?_,λj h0 h1=>?_⟩
 ·obtain ⟨a,x,y,rfl,h1,h2⟩:=key u hu;cases Y:rfu p t [a,y] v with
  | false=>rfl
  | true =>
   exfalso;have h3:=h.c _ h2 v E;unfold rfu at Y h3;simp only[Bool.and_eq_true,Bool.not_eq_true',decide_eq_true_eq] at Y;obtain ⟨r1,r2,r3⟩:=Y;have hA:(eget p.ed a v).isSome=true:=r1;have hl:(eget t.ed y v).isSome=false:=r2;have ha:=hg v r3;obtain ⟨G,hc⟩:=MD.1 hA
   have hC:eget t.ed y v=none:=by cases he:eget t.ed y v with | none=>rfl | some _=>rw[he] at hl;cases hl
   have hn:Q7 v [p,t] [a,y]=none:=by
    rw[ZY];unfold pst;rw[if_pos ha,hc];show (Q7 v [t] [y]).map _=none;rw[ZY];unfold pst;rw[if_pos r3,hC];rfl
   rcases V.step a x y h1 v ha with ⟨h4,_⟩ | ⟨a'',x',y',_,h5,_⟩
   ·rw[ZY] at h4;unfold pst at h4;rw[if_pos ha,hc] at h4;have H:(Q7 v [s] [x]).map (G::·)=none:=h4;rw[ZY] at H;unfold pst at H;by_cases hf:v∈s.al
    ·rw[if_pos hf] at H;cases ho:eget s.ed x v with
     | some x'=>rw[ho] at H;cases H
     | none =>
      have e1:((eget p.ed a v).isSome && (!(eget s.ed x v).isSome && decide (v∈s.al)))=false:=h3;rw[hc,ho,decide_eq_true hf] at e1;cases e1
    rw[if_neg hf] at H;cases H
   rw[hn] at h5;cases h5
 have hJ:=U.st;have hj:j.toNat<(Zu p t).length:=by omega
 obtain ⟨a,x,y,e1,h2,h3⟩:=key _ (ZG hj).2;have hi:=LC h3;have S:(Zu p s).getD ((Zu p s).idxOf [a,x]) []=[a,x]:=by rw[(ZG hi).1,Mq]
 have hw:=h.b ((Zu p s).idxOf [a,x]:Int) (by omega) (by rw[J.st];omega);have ej:j=(j.toNat:Int):=by omega
 rw[ej];clear ej h0 h1;revert hj e1;generalize j.toNat=k;intro hj e1;generalize hD:(((Zu p s).idxOf [a,x]:Nat):Int)=ii at hw;have main:∀ii:Int,Rch (Xa p s) ii→∀(i k:Nat) (a x y:Int),ii=(i:Int)→i<(Zu p s).length→(Zu p s).getD i []=[a,x]→R a x y→k<(Zu p t).length→(Zu p t).getD k []=[a,y]→Rch (Xa p t) (k:Int):=by
  intro ii Y;induction Y with
  | mk hm =>
   intro i k a x y ei hi S hR hk e4;refine .mk ?_;have m1:=J.mem_mr hi;have m2:=U.mem_mr hk;rw[S,←ei,decide_eq_true hm] at m1;rw[e4,←V.mark a x y hR,←m1] at m2;exact of_decide_eq_true m2
  | step he _ ih =>
   rename_i x0 y0 v0 _;intro i k a x y ei hi S hR hk e4;have s1:=J.step hi v0;rw[←ei,Vo h7.edi he,S] at s1;split at s1
   ·rename_i E;obtain ⟨u,hu,e5⟩:=LZ.1 s1.symm;rw[ea] at E;rcases V.step a x y hR v0 E with ⟨h4,_⟩ | ⟨G,x',y',h4,h5,h6⟩
    ·rw[hu] at h4;cases h4
    rw[hu] at h4;have eu:=Option.some.inj h4;have t1:=J.to hi (by rw[ea];exact E) (u:=u) (by rw[S];exact hu);have t2:=U.to hk (by rw[eb];exact E) (u:=[G,y']) (by rw[e4];exact h5);have hF:=ih _ ((Zu p t).idxOf [G,y']) G x' y' e5.symm t1.1 (by rw[t1.2,eu]) h6 t2.1 t2.2;refine .step (v:=v0) ?_ hF;have s2:=U.step hk v0;rw[if_pos (by rw[eb];exact E),e4,h5] at s2;exact ZR s2
   cases s1
 exact main ii hw _ k a x y hD.symm hi S h2 hj e1
theorem QeW {es:List Ed}{lf:Lf}:∀(f i:Nat) (z:LI×LI),(dsL es lf f i z).1.length=z.1.length
 | 0,_,_=>rfl
 | f+1,i,z=>by
  rw[dsL];split
  ·rw[QeW f];have k2:∀(x:Int) (E:LI) (z:LI×LI),(E.foldl (qF lf x) z).1.length=z.1.length:=by
    intro x E;induction E with
    | nil=>intro z;rfl
    | cons y E ih2 =>
     intro z;rw[Ls,ih2];unfold qF;split
     ·simp
     rfl
   exact k2 _ _ _
  rfl
theorem QhD {a:QE}(G:QK a) {fb ul:LI}{T:Nat→Prop}(hm:∀s:Nat,lft (XJ a fb ul) s=true→(s:Int)∈a.mr→T s) (U:∀(s u:Nat) (v:Int),lft (XJ a fb ul) s=true→lft (XJ a fb ul) u=true→((s:Int),v,(u:Int))∈a.ed→T u→T s) :
  ∀s:Nat,(s:Int)<a.st→lft (XJ a fb ul) s=true→T s:=by
 have E:=QgY a fb ul;have hb:(Kv (XJ a fb ul) 0 (dsts a (XJ a fb ul))).length=0:=by
  unfold nxs at E;by_cases h1:(lost a ul (XJ a fb ul)).length≠0
  ·rw[if_pos h1,Lo] at E;exact absurd E h1
  rw[if_neg h1] at E;exact E
 generalize XJ a fb ul=lf at *;have hd:=Qnx G lf;have hq:DsQ a lf (dsL a.ed lf a.st.toNat 0 (ds0 a lf)):=Qlj G _ _ _ hd.1 hd.2;have V:(dsts a lf).length=a.st.toNat:=by
  unfold dsts;rw[QeW,Qdz (λx hx=>(G.mr x hx).1)];exact Xn _ _
 have J:dsts a lf=(dsL a.ed lf a.st.toNat 0 (ds0 a lf)).1:=rfl;generalize dsL a.ed lf a.st.toNat 0 (ds0 a lf)=z at hq J;have Y:∀n k,k<n→(hk:k<z.2.length)→∀s:Nat,z.2[k]'hk=(s:Int)→T s:=by
  intro n;induction n with
  | zero=>intro k h;omega
  | succ n ih =>
   intro k he hk s hs;obtain ⟨h1,h2⟩:=hq.q k hk;rw[hs] at h1 h2;rcases h2 with h2 | ⟨j,hj,hf,v,H⟩
   ·exact hm s h1 h2
   have hu:=(G.ed _ H).2.2.2;have hg:0≤z.2[j]'hj∧z.2[j]'hj<a.st:=hu;have eu:z.2[j]'hj=((z.2[j]'hj).toNat:Int):=by omega
   have hl:=(hq.q j hj).1;have Z:=ih j (by omega) hj _ eu;rw[eu] at H hl;exact U s _ v h1 hl H Z
 intro s hs hl;have S:0≤cget (dsts a lf) s:=by
  refine Decidable.byContradiction λhn=>?_;have:=Qfg (lf:=lf) (dsts a lf) 0 s (by omega) (by rw[LJ];exact hl) (by omega);have:=List.length_pos_of_mem this;omega
 rw[J] at S V;have ha:=hq.r s S (by omega);obtain ⟨k,hk,hc⟩:=LO ha;exact Y (k+1) k (by omega) hk s hc
theorem CnP.mem_mr {a:QE}{ord:LI}(h:CnP a ord) {j:Nat}(hj:j<ord.length):(j:Int)∈(Zt a).mr↔Zm ord j∈a.mr:=by
 rw[h.mk2];simp only[List.mem_map,List.mem_filter,List.mem_range'_1,decide_eq_true_eq];constructor
 ·rintro ⟨i,⟨_,h2⟩,e⟩;have:i=j:=by omega
  rw[←this];exact h2
 intro h2;exact ⟨j,⟨by omega,h2⟩,O⟩
section
variable {c:Yz} (h:D25 c)
abbrev Yp (c:Yz):QE:=yV (auts c.co)
abbrev plQ (c:Yz):List (LI):=JC (auts c.co)
abbrev spQ (c:Yz):List (LI):=JC (auts c.co++auts c.rq)
abbrev yO (c:Yz):Lf:=XJ (spc c).a (fbs (spc c)) (unc c.ev)
def je (c:Yz) (t:LI):Prop:=∃(j y:Nat) (q:LI),t=[(j:Int),(y:Int)]∧j<(plQ c).length∧(plQ c).getD j []=q.take c.co.length∧SvR (spc c).a (spQ c) (yO c) q y
include h in
theorem Qep:QK (Yp c):=(JQ h).2.1.okay λa ha=>(YX h a (LE _ ha)).ok
include h in
theorem qP:QK (spc c).a:=(JQ h).1.okay λa ha=>(YX h a ha).ok
include h in
theorem QeU:∀v,v∈evs (auts c.co++auts c.rq)↔v∈evs (auts c.co):=λv=>by
 refine ⟨Qih h,λG=>?_⟩;have E:=YX h;obtain ⟨a,ha,H⟩:=(Xj (λa ha=>(E a (LE _ ha)).ok) v).1 G;exact (Xj (λa ha=>(E a ha).ok) v).2 ⟨a,LE _ ha,H⟩
include h in
theorem Qc0:∀v,v∈(Z7 c).al↔v∈(Yp c).al:=λv=>by
 have h1:(Z7 c).al=(spc c).a.al:=by
  show (yW (spc c).a _).al=_;unfold yW;split
  ·rfl
  unfold Zt;split <;> rfl
 have h2:=JQ h;rw[h1,h2.1.al,h2.2.1.al];exact QeU h v
include h in
theorem je.uniq {t u:LI}(ht:je c t) (hu:je c u) (e:cget t 1=cget u 1):t=u:=by
 have hs:=JQ h;obtain ⟨j,y,q,rfl,h1,h2,h3⟩:=ht;obtain ⟨H,J,S,rfl,E,U,G⟩:=hu;have e1:(y:Int)=(J:Int):=e;rw[←e1] at G ⊢;have eq:q=S:=by
  obtain ⟨a,b,a1,a2,a3,a4,a5,V⟩:=h3;obtain ⟨Y,Z,hc,he,ha,hf,hg,hb⟩:=G;have ea:a=Y:=by omega
  subst ea;have eb:b=Z:=by
   rw[a3] at ha;omega
  subst eb;rw[←V,←hb]
 subst eq;have ej:j=H:=Qlc hs.2.1.nd h1 E (by rw[←(ZG h1).1,←(ZG E).1,h2,U]);rw[ej]
theorem QgC {v:Int}{p s:QE}{a b:Int}{u:LI}(hu:Q7 v [p,s] [a,b]=some u):∃E G,pst v p a=some E∧pst v s b=some G∧u=[E,G]:=by
 rw[ZY] at hu;obtain ⟨E,h1,h2⟩:=L4.1 hu;obtain ⟨Y,h3,h4⟩:=LZ.1 h2;rw[ZY] at h3;obtain ⟨G,h5,J⟩:=L4.1 h3;obtain ⟨H,S,U⟩:=LZ.1 J;have V:([]:LI)=H:=Option.some.inj (show some []=some H from S);subst V;exact ⟨E,G,h1,h5,by rw[←h4,←U]⟩
theorem QgB {v:Int}{p s:QE}{a b E G:Int}(h1:pst v p a=some E) (h2:pst v s b=some G):Q7 v [p,s] [a,b]=some [E,G]:=by
 rw[ZY,h1];show (Q7 v [s] [b]).map _=_;rw[ZY,h2];rfl
include h in
theorem je.go {j y:Nat}{q:LI}(h1:j<(plQ c).length) (h2:(plQ c).getD j []=q.take c.co.length) (h3:SvR (spc c).a (spQ c) (yO c) q y) {v G:Int}(H:v∈(Yp c).al) (hy:pst v (Zt (rstr (spc c).a (yO c))) y=some G) :
  ∃J:Nat,pst v (Yp c) j=some (J:Int)∧∃n:Nat,G=(n:Int)∧je c [(J:Int),(n:Int)]:=by
 have hs:=JQ h;have Z:=YX h;obtain ⟨E,hq,S⟩:=SvR.step (λa ha=>(Z a ha).ok) hs.1 (qP h) hs.2.2.1 h3 hy;have hb:q∈spQ c:=by
  obtain ⟨_,s,_,_,_,a4,_,a6⟩:=h3;rw[←a6];exact (ZG a4).2
 have ht:=zj (hs.1.v q hb).1 hq;rw[ZA] at ht;have U:v∈evs (auts c.co):=by rw[←hs.2.1.al];exact H
 have V:=hs.2.1.to h1 U (u:=E.take c.co.length) (by rw[h2];exact ht);have Y:=hs.2.1.step h1 v;rw[if_pos U,h2,ht] at Y;refine ⟨(plQ c).idxOf (E.take c.co.length),?_,?_⟩
 ·unfold pst;rw[if_pos H];exact Y
 have hc:=S;obtain ⟨n,_,e,_⟩:=hc;exact ⟨n,e,_,n,E,O,V.1,V.2,by rw[←e];exact S⟩
include h in
theorem je.step (G:Z7 c=Zt (rstr (spc c).a (yO c))) {t u:LI}{v:Int}(ht:je c t) (H:v∈evs [Yp c,Z7 c]) (hu:Q7 v [Yp c,Z7 c] t=some u):je c u:=by
 have J:QK (Z7 c):=jm (qP h) _;have S:=Qep h;have U:∀a∈[Yp c,Z7 c],QK a:=λa ha=>by
  simp only[List.mem_cons,List.not_mem_nil,or_false] at ha;rcases ha with rfl | rfl
  ·exact S
  exact J
 have V:v∈(Yp c).al:=by
  obtain ⟨a,ha,E⟩:=(Xj U v).1 H;simp only[List.mem_cons,List.not_mem_nil,or_false] at ha;rcases ha with rfl | rfl
  ·exact E
  exact (Qc0 h v).1 E
 obtain ⟨j,y,q,rfl,h1,h2,h3⟩:=ht;obtain ⟨a',b',k1,k2,rfl⟩:=QgC hu;rw[G] at k2;obtain ⟨j',k3,n,Y,Z⟩:=je.go h h1 h2 h3 V k2;rw[k1] at k3;rw[Option.some.inj k3,Y];exact Z
include h in
theorem je.init (hl:lft (yO c) 0=true):je c [0,0]:=by
 have hs:=JQ h;have G:=hs.1.st;have H:=hs.2.1.st;have J:=hs.2.2.1;have S:=hs.2.2.2.1;have E:0<(plQ c).length:=by show 0<(JC (auts c.co)).length;omega
 refine ⟨0,0,List.replicate (auts c.co++auts c.rq).length 0,O,E,?_,SvR.init hs.1 (qP h) hs.2.2.1 hl⟩;rw[hs.2.1.hd E,List.take_replicate,Lk,ZA,ZA,show min c.co.length (c.co.length+c.rq.length)=c.co.length by omega]
structure SuR (c:Yz):Prop where
 so:QK (Z7 c)
 po:QK (Yp c)
 sub:∀x∈(Z7 c).al,x∈(Yp c).al
 q:((Zu (Yp c) (Z7 c)).length:Int)=(Z7 c).st
 f:Cfm (Yp c) (Z7 c) (unc c.ev)
include h in
theorem Qlz:SuR c:=by
 have hs:=JQ h;have Y:=Qep h;have U:=qP h;have J:QK (Z7 c):=jm U _;have S:∀x∈(Z7 c).al,x∈(Yp c).al:=λx hx=>(Qc0 h x).1 hx;by_cases h0:(Z7 c).st=0
 ·have hH:∃z,sync [Yp c,Z7 c]=some z:=by
   unfold sync;rw[if_pos ⟨Z7 c,by simp,h0⟩];exact ⟨_,O⟩
  have hE:=Qde Y J S hH;obtain ⟨G,ga,hI⟩:=Yq hE;have hz:=hI.2 (.inr h0);have hq:Zu (Yp c) (Z7 c)=[]:=Ln hz;have gc:=G.st;exact ⟨J,Y,S,by omega,hE,λt ht=>(by rw[hq] at ht;cases ht),λx h1 h2=>by omega⟩
 obtain ⟨_,hl,hA⟩:=QgH (B:=(spc c).a) (fb:=fbs (spc c)) (ul:=unc c.ev) h0;have H:Z7 c=Zt (rstr (spc c).a (yO c)):=hA;have hC:=Qai U hs.2.2.1 (yO c);have gc:(Z7 c).st=((sord (spc c).a (yO c)).length:Int):=by rw[H];exact hC.st
 have g9:(Z7 c).st≤4096:=J.st1;have hH:∃z,sync [Yp c,Z7 c]=some z:=Qd4 (P:=je c) (B:=4096) (Lv _) (λl hn hp=>by
  have h1:(l.map λt=>cget t 1).Nodup:=by
   unfold List.Nodup;rw[Mm];exact List.Pairwise.imp_of_mem (λ{a b} ha hb hh e=>hh (je.uniq h (hp a ha) (hp b hb) e)) hn
  have h2:=pig (Z7 c).st.toNat _ h1 (λu hu=>by
   obtain ⟨t,ht,rfl⟩:=Lz.1 hu;obtain ⟨j,y,q,rfl,_,_,h3⟩:=hp t ht;obtain ⟨a,_,a1,a2,_⟩:=h3;show 0≤(y:Int)∧(y:Int)<_;omega)
  rw[Lo] at h2;omega) (λ_=>je.init h hl) (λt ht v E u hu=>je.step h H ht E hu)
 have hE:=Qde Y J S hH;obtain ⟨G,ga,hI⟩:=Yq hE;have ge:=(Yw hE).2.2.1;have ea:=Vm Y J S;have Z:=VZ (P:=je c) ge (je.init h hl) (λt ht v E u hu=>je.step h H ht E hu);have hO:0<(Zu (Yp c) (Z7 c)).length:=by
  refine Nat.pos_of_ne_zero λe=>?_;rcases hI.1 e with e1 | e1
  ·have h9:0<(Yp c).st:=hs.2.2.2.1;omega
  exact h0 e1
 have gg:([0,0]:LI)∈Zu (Yp c) (Z7 c):=by
  have:=G.hd hO;rw[show List.replicate [Yp c,Z7 c].length (0:Int)=[0,0] from rfl] at this;rw[←this];exact (ZG hO).2
 have hP:∀{a b a' b' v:Int},[a,b]∈Zu (Yp c) (Z7 c)→v∈(Yp c).al→Q7 v [Yp c,Z7 c] [a,b]=some [a',b']→[a',b']∈Zu (Yp c) (Z7 c)∧(((Zu (Yp c) (Z7 c)).idxOf [a,b]:Int),v,((Zu (Yp c) (Z7 c)).idxOf [a',b']:Int))∈(Xa (Yp c) (Z7 c)).ed:=λ{a b a' b' v} hm E hu=>by
  have hj:=LC hm;have e:(Zu (Yp c) (Z7 c)).getD ((Zu (Yp c) (Z7 c)).idxOf [a,b]) []=[a,b]:=by rw[(ZG hj).1,Mq]
  have hv':v∈evs [Yp c,Z7 c]:=by rw[ea];exact E
  refine ⟨G.cl _ hj v hv' _ (by rw[e];exact hu),ZR ?_⟩;rw[G.step hj v,if_pos hv',e,hu];rfl
 refine ⟨J,Y,S,?_,hE,λt ht v E=>?_,?_⟩
 ·skip;have gh:((Zu (Yp c) (Z7 c)).map λt=>cget t 1).Nodup:=by
   unfold List.Nodup;rw[Mm];exact List.Pairwise.imp_of_mem (λ{a b} ha hb hh e=>hh (je.uniq h (Z a ha) (Z b hb) e)) G.nd
  have h2:=pig (Z7 c).st.toNat _ gh (λu hu=>by
   obtain ⟨t,ht,rfl⟩:=Lz.1 hu;obtain ⟨j,y,q,rfl,_,_,h3⟩:=Z t ht;obtain ⟨a,_,a1,a2,_⟩:=h3;show 0≤(y:Int)∧(y:Int)<_;omega)
  rw[Lo] at h2;have gi:0<(rstr (spc c).a (yO c)).st:=hs.2.2.1;obtain ⟨Q1,gj⟩:=QgG (Jf U (yO c)) gi;have hQ:sync [Z7 c]=some (Z7 c,Q1):=by rw[H];exact gj
  have hR:=Xs (aa:=[Z7 c]) (λa ha=>by rw[Lc.1 ha];exact J) hQ;have hJ:=VZ (P:=λt=>∃y:Int,t=[y]∧y∈(Zu (Yp c) (Z7 c)).map λt=>cget t 1) hQ ⟨0,O,Lz.2 ⟨_,gg,O⟩⟩ (λt ht v E u hu=>by
   obtain ⟨y,rfl,hy⟩:=ht;obtain ⟨t2,hK,e2⟩:=Lz.1 hy;obtain ⟨j,y2,q,e3,k1,k2,k3⟩:=Z t2 hK;rw[e3] at e2 hK;have e4:(y2:Int)=y:=e2;subst e4;rw[ZY] at hu;obtain ⟨b',h5,h6⟩:=L4.1 hu;obtain ⟨hS,h7,h8⟩:=LZ.1 h6;have h9:([]:LI)=hS:=Option.some.inj (show some []=some hS from h7);subst h9;have hc:v∈(Z7 c).al:=by
    have:=QaO J;rw[this] at E;exact E
   obtain ⟨j',k4,n,k5,k6⟩:=je.go h k1 k2 k3 (S v hc) (by rw[←H];exact h5);have k7:=(hP hK (S v hc) (QgB k4 h5)).1;exact ⟨b',h8.symm,Lz.2 ⟨_,k7,O⟩⟩)
  have ka:Q1.length=(Z7 c).st.toNat:=by
   have h8:(Z7 c).st=(Q1.length:Int):=hR.1.st;rw[h8,LY]
  have gk:(Q1.map λt=>cget t 0).Nodup:=by
   unfold List.Nodup;rw[Mm];refine List.Pairwise.imp_of_mem (λ{a b} ha hb hh e=>hh ?_) hR.1.nd;obtain ⟨y1,rfl,_⟩:=hJ a ha;obtain ⟨y2,rfl,_⟩:=hJ b hb;have:y1=y2:=e;rw[this]
  have h3:=Qlb gk (b:=(Zu (Yp c) (Z7 c)).map λt=>cget t 1) (λx hx=>by
   obtain ⟨t,ht,rfl⟩:=Lz.1 hx;obtain ⟨y,rfl,hy⟩:=hJ t ht;exact hy)
  rw[Lo,Lo] at h3;omega
 ·skip;obtain ⟨j,y,q,rfl,h1,h2,h3⟩:=Z t ht;cases hr:rfu (Yp c) (Z7 c) [(j:Int),(y:Int)] v with
  | false=>rfl
  | true =>
   exfalso;unfold rfu at hr;simp only[Bool.and_eq_true,Bool.not_eq_true',decide_eq_true_eq] at hr;obtain ⟨r1,r2,r3⟩:=hr;have gl:(eget (Yp c).ed j v).isSome=true:=r1;have hT:(eget (Z7 c).ed y v).isSome=false:=r2;have ho:=S v r3;have hL:v∈evs (auts c.co):=by rw[←hs.2.1.al];exact ho
   have hc:v∈evs (auts c.co++auts c.rq):=(QeU h v).2 hL;have hf:=hs.2.1.step h1 v;rw[if_pos hL,h2] at hf;obtain ⟨j',gm⟩:=MD.1 gl;rw[gm] at hf;obtain ⟨w,hw,_⟩:=LZ.1 hf.symm;obtain ⟨a,s,a1,a2,a3,a4,a5,a6⟩:=h3;have gn:(s:Int)∉fbs (spc c):=λV=>Ql5 a5 _ V O;have hU:q∈spQ c:=by rw[←a6];exact (ZG a4).2
   have h4:=(hs.1.v q hU).1;have gq:∀i (hi:i<(auts c.co++auts c.rq).length),(pst v ((auts c.co++auts c.rq)[i]'hi) (cget q i)).isSome=true:=λi hi=>by
    have gr:=(Xt v (auts c.co) (q.take c.co.length) w (by rw[LF,h4,Lk,ZA,ZA];omega)).1 hw;by_cases hg:i<(auts c.co).length
    ·have hk:=gr.2 i hg;rw[LT hg];have gs:cget (q.take c.co.length) i=cget q i:=by
      unfold cget;rw[LR,List.getElem?_take_of_lt (by rw[ZA] at hg;exact hg),←LR]
     rw[←gs,hk];rfl
    cases hp:pst v ((auts c.co++auts c.rq)[i]'hi) (cget q i) with
    | some _=>rfl
    | none =>
     exfalso;refine gn (Qmm h a4 (QjC ?_));have gt:(JC (auts c.co++auts c.rq)).getD s []=q:=a6;rw[gt];have V:=Qnf h q hU;obtain ⟨p1,p2,p3⟩:=QlP h V.2;have gu:v∈Qb7 (yV (auts c.co)) (plx (JC (auts c.co)) (q.take c.co.length)):=by
      refine (Qms Y _ v).2 ?_;rw[p1,hs.2.1.step p2 v,p3,if_pos hL,hw];rfl
     refine Qeh ?_ (Qlv E) _ gu;have hV:i - c.co.length<c.rq.length:=by rw[Lk,ZA,ZA] at hi;rw[ZA] at hg;omega
     have key:∀(l:List Kx) (ts:LI) (k n:Nat),k<l.length→l.length=ts.length→pst v (l.getD k dI).a (cget ts k)=none→0≤rfr v n l ts:=by
      intro l;induction l with
      | nil=>intro ts k n hk;simp at hk
      | cons x l ih =>
       intro ts k n hk hD hp2;cases ts with
       | nil=>simp at hD
       | cons y ts =>
        rw[Qby];split
        ·omega
        rename_i hx;cases k with
        | zero =>
         exfalso;have hF:pst v x.a y=none:=hp2;unfold pst at hF;split at hF
         ·rename_i gv;exact hx ⟨gv,by rw[hF];rfl⟩
         cases hF
        | succ k=>exact ih ts k (n+1) (by simpa using hk) (by simpa using hD) hp2
     refine key c.rq (q.drop c.co.length) (i - c.co.length) 0 hV (by rw[Mf,h4,Lk,ZA,ZA];omega) ?_;have e1:(auts c.co++auts c.rq)[i]'hi=(c.rq.getD (i - c.co.length) dI).a:=by
      rw[Mr (by omega),Qlf hV];unfold auts;simp
     have e2:cget (q.drop c.co.length) (i - c.co.length)=cget q i:=by
      unfold cget;rw[LR,MK,←LR,show c.co.length+(i - c.co.length)=i by rw[ZA] at hg;omega]
     rw[e2,←e1];exact hp
   obtain ⟨u,hu⟩:=zk h4 gq;have gx:=SvR.unc hs.1 U hs.2.2.1 ⟨a,s,a1,a2,a3,a4,a5,a6⟩ hc E hu;have gy:(eget (Z7 c).ed y v).isSome=true:=by rw[H];exact gx
   rw[gy] at hT;cases hT
 skip;have main:=QhD U (fb:=fbs (spc c)) (ul:=unc c.ev) (T:=λs=>∀(j y:Nat),[(j:Int),(y:Int)]∈Zu (Yp c) (Z7 c)→y<(sord (spc c).a (yO c)).length→Zm (sord (spc c).a (yO c)) y=(s:Int)→s<(spQ c).length→j<(plQ c).length→(plQ c).getD j []=((spQ c).getD s []).take c.co.length→Rch (Xa (Yp c) (Z7 c)) ((Zu (Yp c) (Z7 c)).idxOf [(j:Int),(y:Int)]:Int)) (λs hW hm j y V hy hB hG hj hM=>by
  refine .mk ?_;have hi:=LC V;have m1:=G.mem_mr hi;have e:(Zu (Yp c) (Z7 c)).getD ((Zu (Yp c) (Z7 c)).idxOf [(j:Int),(y:Int)]) []=[(j:Int),(y:Int)]:=by rw[(ZG hi).1,Mq]
  rw[e] at m1;have ms:=hs.1.mem_mr hG;rw[decide_eq_true hm] at ms;have h4:=(hs.1.v _ (ZG hG).2).1;have mp:=Qdj h4 ms.symm;rw[ZA] at mp;have mj:=hs.2.1.mem_mr hj;rw[hM] at mj;rw[mp] at mj;have gz:=of_decide_eq_true mj;have my:(y:Int)∈(Z7 c).mr:=by
   rw[H,CnP.mem_mr hC hy,hB];exact hm
  have m2:Yd [Yp c,Z7 c] [(j:Int),(y:Int)]=true:=by
   refine (Vi O).2 λi hi=>?_
   match i,hi with
   | 0,_=>exact gz
   | 1,_=>exact my
  rw[m2] at m1;exact of_decide_eq_true m1) (λs u v hW g0 he ih j y V hy hB hG hj hM=>by
  have kb:=hs.1;have hc:v∈evs (auts c.co++auts c.rq):=by rw[←hs.1.al];exact (U.ed _ he).2.2.1
  have ho:v∈(Yp c).al:=by rw[hs.2.1.al];exact Qih h hc
  have hr:((s:Int),v,(u:Int))∈(rstr (spc c).a (yO c)).ed:=LH.2 ⟨he,g0⟩;have hf:=hC.step hy v;rw[hB,Vo (Jf U _).edi hr] at hf;have g1:(u:Int)∈sord (spc c).a (yO c):=hC.cl y hy ((s:Int),v,(u:Int)) (by
   rw[hB];unfold Zv;exact LH.2 ⟨hr,decide_eq_true O⟩)
  have hX:=LC g1;have g2:v∈(Z7 c).al:=(Qc0 h v).2 ho;have hY:pst v (Z7 c) y=some ((sord (spc c).a (yO c)).idxOf (u:Int):Int):=by
   unfold pst;rw[if_pos g2,H];exact hf
  have g3:SvR (spc c).a (spQ c) (yO c) ((spQ c).getD s []) y:=⟨y,s,O,hy,hB,hG,hW,O⟩;obtain ⟨j',k3,n,k4,k5⟩:=je.go h hj hM g3 ho (by rw[←H];exact hY);have hn:n=(sord (spc c).a (yO c)).idxOf (u:Int):=by omega
  obtain ⟨k6,k7⟩:=hP V ho (QgB k3 hY);obtain ⟨j2,y2,q2,e2,a1,a2,a3⟩:=k5;have g4:j2=j':=by have:=congrArg (λl=>cget l 0) e2;have e5:(j':Int)=(j2:Int):=this;omega
  have g5:y2=n:=by have:=congrArg (λl=>cget l 1) e2;have e5:(n:Int)=(y2:Int):=this;omega
  subst g4;rw[g5,hn] at a3;obtain ⟨b1,b2,c1,c2,c3,c4,c5,c6⟩:=a3;have g6:b1=(sord (spc c).a (yO c)).idxOf (u:Int):=by omega
  subst g6;have hZ:Zm (sord (spc c).a (yO c)) ((sord (spc c).a (yO c)).idxOf (u:Int):Nat)=(u:Int):=by
   show cget (sord (spc c).a (yO c)) ((sord (spc c).a (yO c)).idxOf (u:Int))=(u:Int);rw[←Q5 hX,Mq]
  have g7:b2=u:=by rw[hZ] at c3;omega
  subst g7;exact .step k7 (ih j2 _ k6 hX hZ c4 a1 (by rw[a2,c6])))
 intro x kc ke;have kf:=G.st;have hk:x.toNat<(Zu (Yp c) (Z7 c)).length:=by omega
 obtain ⟨j,y,q,e,h1,h2,a,s,a1,a2,a3,a4,a5,a6⟩:=Z _ (ZG hk).2;have hy:a=y:=by omega
 subst hy;have g8:(s:Int)<(spc c).a.st:=by
  have h8:s<(JC (auts c.co++auts c.rq)).length:=a4;have:=hs.1.st;omega
 have hN:=main s g8 a5 j a (by rw[←e];exact (ZG hk).2) a2 a3 a4 h1 (by rw[h2,a6]);rw[←e] at hN;have hix:(Zu (Yp c) (Z7 c)).idxOf ((Zu (Yp c) (Z7 c)).getD x.toNat [])=x.toNat:=by
  have hm:=(ZG hk).2;have hD:=LC hm;refine Qlc G.nd hD hk ?_;rw[Mq,(ZG hk).1]
 rw[hix] at hN;rw[show x=(x.toNat:Int) by omega];exact hN
end
theorem Qlu {aa:List QE}{k:Nat}(hk:∀a∈aa,a.st≤(k:Int)) {l:List (LI)}(H:l.Nodup) (hp:∀t∈l,Vt aa t):l.length≤k ^ aa.length:=by
 have E:∀t,Vt aa t→∀x∈t,0≤x∧x<(k:Int):=λt ht x hx=>by
  obtain ⟨i,hi,e⟩:=LO hx;have G:i<aa.length:=by rw[←ht.1];exact hi
  have h1:=ht.2 i hi G;have h2:=hk _ (Lj G);rw[e] at h1;omega
 have h1:(l.map (K0 k)).Nodup:=by
  unfold List.Nodup;rw[Mm];refine List.Pairwise.imp_of_mem (λ{a b} ha hb J e=>J ?_) H;exact yp (by rw[(hp a ha).1,(hp b hb).1]) (E a (hp a ha)) (E b (hp b hb)) e
 have h2:=pig (k ^ aa.length) _ h1 (λu hu=>by
  obtain ⟨t,ht,rfl⟩:=Lz.1 hu;have h3:=QaR (E t (hp t ht));rw[(hp t ht).1] at h3;exact h3)
 rw[Lo] at h2;exact h2
theorem Qni {c:Yz}(h:D25 c):(Yp c).st≤27:=by
 have hs:=(JQ h).2.1;have E:=YX h;have h1:=Qlu (aa:=auts c.co) (k:=3) (λa ha=>(E a (LE _ ha)).s) hs.nd hs.v;rw[ZA] at h1;have h2:3 ^ c.co.length≤3 ^ 3:=Nat.pow_le_pow_right (by omega) h.c3;have h3:=hs.st;show (yV (auts c.co)).st≤27;omega
theorem Qgz {c:Yz}(h:D25 c):ZT (unc c.ev)∧Kt 32 none (unc c.ev)=0∧JT c.ev=0∧(unc c.ev).length≤5:=by
 obtain ⟨ns,_,he⟩:=h.ev;have hl:c.ev.length=5:=by rw[he,J8]
 have hi:ZT (unc c.ev):=QaE _ _ _;refine ⟨hi,(YZ _ _ _).2 ⟨λx hx=>?_,hi,λ_ e=>by cases e⟩,by rw[he];exact Qb6 ns,?_⟩
 ·obtain ⟨k,hk,e,_⟩:=(qV _ _ _ _).1 hx;omega
 have:=qW (λe:q9=>!e.co) c.ev 0;unfold unc;omega
structure SuF (c:Yz):Prop where
 so:QK (Z7 c)
 po:QK (Yp c)
 e:Xf (Yp c) (Z7 c)=0
 p27:(Yp c).st≤27
 lp:(Xa (Yp c) (Z7 c)).st=(Z7 c).st
 cf:cfm (Yp c) (Z7 c) (unc c.ev)=(1,[],-1,0)
 rd:(Z7 c).st≤30→RdG (Yp c) (Z7 c)∧Xf (Yp c) (qd (Yp c) (Z7 c))=0∧eqv (Xa (Yp c) (Z7 c)) (Xa (Yp c) (qd (Yp c) (Z7 c))) (Yp c).al=none∧cfm (Yp c) (qd (Yp c) (Z7 c)) (unc c.ev)=(1,[],-1,0)
theorem QgR {c:Yz}(h:D25 c):SuF c:=by
 have E:=Qlz h;have hu:=Qgz h;have hp:=Qni h;have hE:=E.f.e;refine ⟨E.so,E.po,hE,hp,?_,Cfm.is hu.1 hu.2.1 E.f,λS=>?_⟩
 ·rw[(Yq hE).1.st,E.q]
 have G:=QlH E.po E.so E.sub hE;have H:∀x∈(qd (Yp c) (Z7 c)).al,x∈(Yp c).al:=λx hx=>E.sub x (by rw[←G.al];exact hx);have J:Xf (Yp c) (qd (Yp c) (Z7 c))=0:=Qde E.po G.ok H (Qbg (k:=64) (λa ha=>by
  simp only[List.mem_cons,List.not_mem_nil,or_false] at ha;rcases ha with rfl | rfl
  ·exact E.po
  ·exact G.ok) (λa ha=>by
  have:=G.st;simp only[List.mem_cons,List.not_mem_nil,or_false] at ha;rcases ha with rfl | rfl <;> omega) (by show 64 ^ 2≤4096;decide))
 exact ⟨G,J,Qkx E.po E.so E.sub hE G.ok H J G.bi G.ze,Cfm.is hu.1 hu.2.1 (Cfm.bis E.po E.so E.sub G.ok H E.f J G.bi G.ze)⟩
theorem QlQ {N:Nat}{H:Array Obj}{c:Yz}{va vt:Value}{e:Int}(h:D25 c) (hp:qv N H c va vt e):e=0∧Xb N H va (yV (auts c.co))∧∃l,QaZ N H vt l:=by
 obtain ⟨pl,ps,sa,ts,e1,e2,_⟩:=q6 h;have E:=YX h;have h3:=h.c3;have hk:=(z8 (aa:=auts c.co) (λa ha=>E a (LE _ ha)) (by rw[ZA];omega)).1;unfold qv at hp;rw[if_neg (not_not_intro h.ck)] at hp;unfold Ye at hp;rw[if_neg (not_not_intro hk),e1] at hp;have G:yV (auts c.co)=pl:=by unfold yV;rw[e1]
 rw[G];exact ⟨hp.1,hp.2.1,_,hp.2.2⟩
set_option maxRecDepth 100000 in
set_option maxHeartbeats 8000000 in
theorem y8 {w:World}{l:PwV}(hl:PwA w l) (gn:Kb w 4096) :
  QM prog 11 [.agg (XD l).toArray] w λr w'=>r=.bool true∧Step [] w w':=by
 refine QM.of_W func11 O ntmps11 results11 (by simp) ?_;refine Qd<|xl O<|QS (us:=XD l) O λb1 w1 h3 mh h4=>Qf ?_;have h5:(XD l).length=152:=Qhd (l:=l.pl []) hl.n;refine Qg<|Q0 (α:=Unit) [(26,32)] (λz=>[(32,.bool (!decide (l.n≤4)))]) (λz w'=>Step [] w1 w') (by rfl) ?_ ?_
 ·refine Qx<|xl O<|xf<|(QbW _).mono ?_;rintro r2 w2 ⟨rfl,S⟩;refine x (Zh O)<|Qb<|x (Qo (h4.ext S) O h5)<|xl O<|xf<|(Qi0 (l:=l) ⟨hl.n,hl.b,hl.f0,hl.f1,hl.f2,hl.bd,λhn=>by
   obtain ⟨rs,h1,h2⟩:=hl.r hn;exact ⟨rs,h1,(h2.ext h3).ext S⟩⟩).mono ?_
  rintro r3 w3 ⟨rfl,U⟩;refine x (Zh O)<|x (Qp O)<|xe ?_;exact ⟨(),Lb,S.trans U⟩
 rintro ⟨⟩ g w2 S;have hj:=h3.trans S;refine Q8 rfl (λh6=>?_) (λh6=>?_)
 ·refine Qd<|xl O<|xf<|(QbW _).mono ?_;rintro r3 w3 ⟨rfl,U⟩;refine Qf ?_;exact Qs ⟨[.bool true],Lb,O,hj.trans U⟩
 have gq:l.n≤4:=by simpa using h6
 refine Qj<|Exists.elim (hl.pl hj gq) λrs gr=>?_;refine Qd<|x (Qo (h4.ext S) O h5)<|xl O<|xf<|(QfR gr.1).mono ?_;rintro r3 w3 ⟨U,_,⟨c,rfl,rfl,hC⟩,hD⟩;have h7:=hC [] (by simp);have G:=QgR hD;have hu:=Qgz hD;refine xl rfl<|Qu (us:=QlZ) O λb3 w4 gs gt gu=>xl O<|Qq (us:=c.cells) gu O O O O h7.ones λw5 gv hk=>xe ?_;have h8:Step [] w3 w5:=gs.then1 gv gt
 have hA:=(hj.trans U).trans h8;have hm:=h7.ext h8;have ho:=gn.ext hA;refine Qd<|x (Qo hk O O)<|xl O<|xf<|(QcM hm ho).mono ?_;rintro r6 w6 ⟨gx,vg,vq,eg,gy,gz⟩;obtain ⟨rfl,⟨ga,gm,ge,rfl,g0⟩,tl,mj⟩:=QlQ hD gz;have ha:=g0 [] (by simp);subst gy
 refine Qb<|x (Qk O O)<|x (Qk O O)<|x (Qk O O)<|xl O<|Qu (us:=QjS) O λb4 w7 g1 g2 g3=>xl O<|Qq (us:=[ga,.int .i64 (Yp c.cel).st,gm,ge]) g3 O O O O ⟨ha.al.one,O,ha.mr.one,ha.ed.one,La⟩ λw8 g4 g5 =>
  x Qe<|Qf ?_
 have hB:Step [] w6 w8:=g1.then1 g4 g2;have hb:=gx.trans hB;refine Qd<|x (Qo (hk.ext hb) O O)<|xl O<|xf<|(jd (hm.ext hb) (ho.ext hb)).mono ?_;rintro r9 w9 ⟨g6,sa,sm,se,hE,mo,_,g7⟩;have hF:XZ c.cel=0:=by
  obtain ⟨_,_,_,_,_,_,h⟩:=q6 hD;exact h
 have hG:suE c.cel=0:=hF;rw[if_pos hF,hG] at hE;have hc:=g7 hG [] (by simp);subst hE;refine Qb<|x (Qk O O)<|x (Qk O O)<|xl O<|Qu (us:=QjS) O λb7 mq g8 g9 ka=>xl O<|Qq (us:=[sa,.int .i64 (Z7 c.cel).st,sm,se]) ka O O O O ⟨hc.al.one,O,hc.mr.one,hc.ed.one,La⟩ λkb kc ke=>Qf ?_;have hH:Step [] w9 kb:=g8.then1 kc g9;have hI:=g6.trans hH
 have hp:=hb.trans hI;refine Qd<|x (Qa O)<|x (Qc (hk.ext hp) O O)<|xl O<|xf<|(Qac (hm.ev.ext hp)).mono ?_;rintro ms hJ ⟨he,vu,hK,hL⟩;have hM:JT c.ev=0:=hu.2.2.1;rw[hM] at hK;rw[if_pos hM] at hL;have hN:QO [] hJ.heap vu (unc c.cel.ev):=hL.ints (by have h9:(unc c.ev).length≤5:=hu.2.2.2;omega) (by simp);subst hK;refine Qb<|x (Qk O O)<|x (Qk O O)<|x Qe<|Qf ?_
 have hO:=hI.trans he;have hP:=hp.trans he;have hq:=ho.ext hP;have hr:=(ha.ext hB).ext hO;have hs:=(hc.ext hH).ext he;have ht:=g5.ext hO;have V:=ke.ext he;refine Qg<|Q0 (α:=Unit) [(53,62)] (λz=>[(62,.bool false)]) (λz w'=>w'=hJ) (by rfl) ?_ ?_
 ·refine Qx<|Qb<|xb (Zj O O) (λh=>absurd O h) (λmt=>?_);refine Qb<|Qb<|xb (Zj O O) (λh=>absurd O h) (λmu=>?_);refine x (Qp O)<|Qb<|Qb<|x (Zj O O)<|x (Qp O)<|xe ?_;exact ⟨(),Lb,O⟩
 rintro ⟨⟩ g kf rfl;refine ZW rfl ?_;refine Qj ?_;have hQ:QK (Yp c.cel)→QK (Z7 c.cel)→(Yp c.cel).st≤4096∧(Z7 c.cel).st≤4096:=λh1 h2=>⟨h1.st1,h2.st1⟩;refine Qd<|x (Qo ht O O)<|x (Qo V O O)<|xl O<|xf<|(Qi8 hr hs hq (by decide) hQ).mono ?_;rintro mv mw ⟨kg,vl,hT,_,kh⟩;obtain ⟨la,lm,le,rfl,ki⟩:=kh G.e;have hv:=ki [] (by simp);rw[G.e] at hT;subst hT
 refine Qb<|x (Qk O O)<|x (Qk O O)<|xl O<|Qu (us:=QjS) O λmy mz kj kk kn=>xl O<|Qq (us:=[la,.int .i64 (Xa (Yp c.cel) (Z7 c.cel)).st,lm,le]) kn O O O O ⟨hv.al.one,O,hv.mr.one,hv.ed.one,La⟩ λko kq kr=>Qf ?_;have H:Step [] kf ko:=kg.trans (kj.then1 kq kk)
 refine Qd<|x (Qo (ht.ext H) O O)<|x (Qo (V.ext H) O O)<|Qb<|xl O<|xf<|(UB (hr.ext H) (hs.ext H) (hN.ext H) (hq.ext H) (by decide) hQ).mono ?_;rintro m0 kt ⟨hU,vw,hV,_⟩;rw[G.cf] at hV;subst hV;refine Qb<|x (Qk O O)<|x (Qk O O)<|x (Qk O O)<|x (Qk O O)<|x Qe<|x Qe<|x Qe<|Qf ?_;have E:=H.trans hU
 have hW:=(hA.trans hP).trans E;refine Qg<|Q0 (α:=Unit) [(78,94)] (λz=>[(94,.bool false)]) (λz w'=>w'=kt) (by rfl) ?_ ?_
 ·refine Qx<|Qb<|xb (Zj O O) (λh=>absurd O h) (λm2=>?_);refine Qb<|Qb<|xb (Zj O O) (λh=>absurd O h) (λm3=>?_);refine x (Qp O)<|Qb<|x (Qa O)<|x (Qc (kr.ext hU) O O)<|x (Qa O)<|x (Qc (V.ext E) O O)<|xb (Zj O O) (λh=>absurd G.lp h) (λm4=>?_);refine x (Qp O)<|Qb<|Qb<|x (Zj O O)<|x (Qp O)<|xe ?_;exact ⟨(),Lb,O⟩
 rintro ⟨⟩ g ku rfl;refine ZW rfl ?_;refine Qj<|Qg<|Qd<|x (Qa O)<|x (Qc (V.ext E) O O)<|x (ZL O O)<|xe<|Zc rfl (λhX=>?_) (λhX=>?_)
 ·refine Qd<|Qf ?_;exact Qs ⟨[.bool true],Lb,O,hW⟩
 have kv:(Z7 c.cel).st≤30:=Int.not_lt.1 hX;have J:=G.rd kv;have m5:=G.p27;refine Qj ?_;have hw:=hr.ext E;have hY:=hs.ext E;have hy:=ht.ext E;have hz:=V.ext E;have hZ:QK (Yp c.cel)→QK (Z7 c.cel)→(Yp c.cel).st≤100∧(Z7 c.cel).st≤100:=λ_ _=>⟨by omega,by omega⟩
 have kw:QK (Yp c.cel)→QK (qd (Yp c.cel) (Z7 c.cel))→(Yp c.cel).st≤100∧(qd (Yp c.cel) (Z7 c.cel)).st≤100:=λ_ _=>⟨by omega,by have:=J.1.st;omega⟩;have kx:QK (Yp c.cel)→QK (qd (Yp c.cel) (Z7 c.cel))→(Yp c.cel).st≤4096∧(qd (Yp c.cel) (Z7 c.cel)).st≤4096:=λh1 h2=>⟨h1.st1,h2.st1⟩;refine Qd<|x (Qo hy O O)<|x (Qo hz O O)<|xl O<|xf<|(Qad hw hY hZ).mono ?_
 rintro m6 kz ⟨k0,vr,gc,_,k4⟩;obtain ⟨ra,rm,re,rfl,k5⟩:=k4 J.1.e0;have hf:=k5 [] (by simp);rw[J.1.e0] at gc;subst gc;refine Qb<|x (Qk O O)<|x (Qk O O)<|xl O<|Qu (us:=QjS) O λm7 m8 k6 k7 k8=>xl O<|Qq (us:=[ra,.int .i64 (qd (Yp c.cel) (Z7 c.cel)).st,rm,re]) k8 O O O O ⟨hf.al.one,O,hf.mr.one,hf.ed.one,La⟩ λgg k9 h0=>Qf ?_
 have gh:Step [] kz gg:=k6.then1 k9 k7;have Y:Step [] ku gg:=k0.trans gh;have gi:=hf.ext gh;refine Qd<|x (Qo (hy.ext Y) O O)<|x (Qo (hz.ext Y) O O)<|x (Qo h0 O O)<|xl O<|xf<|(jf (hw.ext Y) (hY.ext Y) gi hZ kw G.e J.2.1).mono ?_;rintro ma m9 ⟨hg,hh⟩;rw[J.2.2.1] at hh
 replace hh:ma=.tuple #[Zr,.bool true,.int .i64 0]:=hh;subst hh;refine Qb<|x (Qk O O)<|x (Qk O O)<|x (Qk O O)<|x Qe<|x Qe<|Qf ?_;have Z:=Y.trans hg;refine Qd<|x (Qo (hy.ext Z) O O)<|x (Qo (h0.ext hg) O O)<|Qb<|xl O<|xf<|(UB (hw.ext Z) (gi.ext hg) ((hN.ext E).ext Z) ((hq.ext E).ext Z) (by decide) kx).mono ?_
 rintro pa mc ⟨gj,vz,gk,_⟩;rw[J.2.2.2] at gk;subst gk;refine Qb<|x (Qk O O)<|x (Qk O O)<|x (Qk O O)<|x (Qk O O)<|x Qe<|x Qe<|x Qe<|Qf ?_;have gl:=Z.trans gj;have mf:=hg.trans gj;have mg:=J.1.st;refine Q0 (α:=Unit) [(2,2),(121,149)] (λz=>[(2,.bool true)]) (λz w'=>w'=mc) (by rfl) ?_ ?_
 ·refine Qx<|Qb<|xb (Zf O O) (λpc=>?_) (λh=>absurd O h);refine Qb<|Qb<|xb (Zf O O) (λpd=>?_) (λh=>absurd O h);refine x (Qp O)<|Qb<|Qb<|xb (Zf O O) (λpf=>?_) (λh=>absurd O h);refine x (Qp O)<|Qb<|Qb<|x (jv O)<|xb (Zf O O) (λpg=>?_) (λh=>absurd O h);refine x (Qp O)<|Qb<|xB Ql (λph=>?_) (λh=>absurd h (by decide));refine x (Qp O)<|Qb<|Qb<|xb (Zf O O) (λpj=>?_) (λh=>absurd O h)
  refine x (Qp O)<|Qb<|x (Qa O)<|x (Qc (h0.ext mf) O O)<|x (Qa O)<|x (Qc (hz.ext gl) O O)<|x (JH O O)<|x (Qp O)<|Qf ?_;exact ⟨(),⟨congrArg Value.bool (decide_eq_true mg),La⟩,O⟩
 rintro ⟨⟩ g pn rfl;exact Qs ⟨[.bool true],Lb,O,hW.trans gl⟩
open Go.RowKit
theorem Y7 {a b:Bool}(h1:a=true) (h2:b=true):(a && b)=true:=by rw[h1,h2];rfl
theorem QaD {P:Program} {f:FuncId} {fn:Func} {s:ChangeSpec} {c:OpenClaim} (h1:(c.wf (OpenSpec.ofChange s))=true) (h2:(laidOutB P)=true) (h3:(mapsRowed P)=true) (h4:(fn.params.all (P.readableRec ·))=true) (h5:(namedTie P c.named s.vars)=true) (E:((c.stops == []))=true) (G:((P.stops == []))=true) (H:((c.knobs == []))=true) (J:((P.stopKnobs == []))=true) (S:((c.inPlace == P.inPlace f))=true) (U:((c.unfollowed == P.unfollowed f))=true) (V:((c.recurses == P.recurses f))=true) (Y:((c.named == P.varsNamed f))=true) (Z:((c.maps == (fn.params.toList++s.plain.varTypes P).any (P.mapsRec ·)))=true) (ha:((c.ifaces == (fn.params.toList++s.plain.varTypes P).any (P.ifacesRec ·)))=true) (hb:((c.mapsOut == P.mapsAmong fn.resultTypes.toList))=true) (hc:((c.loops == (fn.params.toList++s.plain.varTypes P).any (P.loopsFrom ·)))=true) (he:((c.wideKeys == (fn.params.toList++s.plain.varTypes P++fn.resultTypes.toList).any (P.wideKeysFrom ·)))=true) (hf:(s.vars.all (P.varReadable ·))=true) (hg:(fn.resultTypes.all (λt=>P.readableRec t && decide (t<P.types.size)))=true) (hh:((c.ifacesOut == fn.resultTypes.toList.any (P.ifacesRec ·)))=true) (hj:((c.loopsOut == fn.resultTypes.toList.any (P.loopsFrom ·)))=true) (hk:((c.plainKeys == P.plainKeys))=true) (hl:(c.shortTexts.isNone)=true) (hm:(P.stopsHeard)=true) (hn:(P.mayEnter)=true) (ho:((c.lifted == P.liftsFinal))=true) (hp:((P.make == some c.make))=true) (hq:((c.kinds == (if c.domain.isEmpty then [] else fn.params.toList.map λt=>match P.underlying t with | some (.int k)=>some k | _=>none)))=true) (hr:((c.pinned == c.pinnedBy))=true) (hs:((c.veiled == (fn.params.toList++s.plain.varTypes P++fn.resultTypes.toList).any (P.veiledRec ·)))=true) (ht:(c.veiledFits P fn.params.toList (fn.params.toList++s.plain.varTypes P++fn.resultTypes.toList))=true):joinedFacts P f fn s c=true:=by
 unfold joinedFacts;exact (Y7 (Y7 (Y7 (Y7 (Y7 (Y7 (Y7 (Y7 (Y7 (Y7 (Y7 (Y7 (Y7 (Y7 (Y7 (Y7 (Y7 (Y7 (Y7 (Y7 (Y7 (Y7 (Y7 (Y7 (Y7 (Y7 (Y7 (Y7 (Y7 (Y7 (Y7 h1 h2) h3) h4) h5) E) G) H) J) S) U) V) Y) Z) ha) hb) hc) he) hf) hg) hh) hj) hk) hl) hm) hn) ho) hp) hq) hr) hs) ht)
theorem zS:laidOutB prog=true:=by kernel_rfl
theorem QhH:mapsRowed prog=true:=by kernel_rfl
theorem QhJ:prog.stopsHeard=true:=by kernel_rfl
theorem QhK:prog.mayEnter=true:=by kernel_rfl
theorem QhI:(false == prog.liftsFinal)=true:=by kernel_rfl
theorem Qke:(prog.make == some Make.cut)=true:=by kernel_rfl
theorem Qki:(Rows.supervisorCellsRow.inPlace == prog.inPlace 11)=true:=by kernel_rfl
theorem Qkh:(Rows.supervisorCellsRow.unfollowed == prog.unfollowed 11)=true:=by kernel_rfl
theorem Qkg:(Rows.supervisorCellsRow.recurses == prog.recurses 11)=true:=by kernel_rfl
theorem Qkf:(Rows.supervisorCellsRow.named == prog.varsNamed 11)=true:=by kernel_rfl
theorem Ql6:Rows.supervisorCellsRow.wfByText (OpenSpec.ofChange Rows.supervisorCellsSpec)=true:=by kernel_rfl
theorem Ql9:Tryz.pinned.checked.prog.mainIs=some (true, "7f1d7774d707b6ca2907d0280b916f7dc62d5f843e98687e905a54f8355f1b07".toList):=by kernel_rfl
theorem Ql8:prog.funcNamed "overseer/overseerlaw30.SupervisorCells" = some 11:=by kernel_rfl
theorem Qma:false=prog.looks []:=by kernel_rfl
theorem Ql7:([36].all λu=>!prog.wantsStandIn u)=true:=by kernel_rfl
theorem Qmb:false=Rows.supervisorCellsRow.goesBy Tryz.pinned.checked.prog:=by kernel_rfl
end Go.Proofs.YtdffckgdcegpaaaGreatDoor
