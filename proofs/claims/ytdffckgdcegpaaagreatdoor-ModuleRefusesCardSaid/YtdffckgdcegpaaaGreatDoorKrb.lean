/- Merged out of 57 texts. -/
import Derived.Test.YtdffckgdcegpaaaGreatDoorKra
import Derived.Laws.Strings
import Derived.RangeFuncNested
import Derived.RangeFuncLeaves
import Derived.RangeFuncCalls
import Derived.OrdersIn
import Derived.TacticsIn
namespace Go.Proofs.YtdffckgdcegpaaaGreatDoor
open Go.Proofs.Tryz
open Go.Lg
theorem Qj9 {α:Type}(o:Option α):o=none∨∃t,o=some t:=by cases o;exact .inl O;exact .inr ⟨_,O⟩
def zA:Value:=.agg #[nS,.int .i64 0,nS,nS]
def Zz:Value:=nS
def Z7 (N:Nat) (H:Array Obj) (aa:List QP) (va vt:Value) (c:Int):Prop :=
 if KX aa≠0 then c=KX aa∧va=zA∧vt=Zz else match sync aa with
  | none=>c=3∧va=zA∧vt=Zz
  | some z=>c=0∧YY N H va z.1∧y9 N H vt z.2
def Yf (s:Sy) (u:LI):Sy:=if u∈s.tup then s else ⟨s.tup++[u],s.mk',s.ed⟩
theorem QcT (s:Sy) (u:LI):(Yf s u).mk'=s.mk':=by unfold Yf;split <;> rfl
theorem QcU (s:Sy) (u:LI):(Yf s u).ed=s.ed:=by unfold Yf;split <;> rfl
theorem Qfz {aa:List QP}{i:Nat}{t u:LI}{s:Sy}{v:Int}(h:Ya v aa t=some u) (hl:u∈s.tup∨s.tup.length≠4096) :
  syE aa i t s v=some ⟨(Yf s u).tup,(Yf s u).mk',(Yf s u).ed++[((i:Int),v,((Yf s u).tup.idxOf u:Int))]⟩:=by
 unfold syE Yf;rw[h];simp only[];by_cases hu:u∈s.tup
 ·simp only[if_pos hu]
 simp only[if_neg hu];rw[if_neg (by rcases hl with h1 | h1;exact absurd h1 hu;exact h1),Ml,if_neg hu];simp
theorem QcS {aa:List QP}{i:Nat}{t u:LI}{s:Sy}{v:Int}(h:Ya v aa t=some u) (hu:u∉s.tup) (hl:s.tup.length=4096):syE aa i t s v=none:=by
 unfold syE;rw[h];simp only[];rw[if_neg hu,if_pos hl]
theorem QcQ {aa:List QP}{i:Nat}{t:LI}{s:Sy}{v:Int}(h:Ya v aa t=none):syE aa i t s v=some s:=by
 unfold syE;rw[h]
theorem Qi8 {s:Sy}{qs:List TV}{i:Nat}(hq:qs.map (·.2)=s.tup) (h:i<qs.length):U3 s i=qs[i].2:=by
 unfold U3;rw[←hq];simp[List.getD,h]
theorem Vt.bd {aa:List QP}{t:LI}(h:Vt aa t) {m:Int}(hm:∀a∈aa,a.st≤m):∀x∈t,0≤x∧x<m:=by
 intro x hx;obtain ⟨i,hi,rfl⟩:=LD hx;have E:i<aa.length:=by rw[←h.1];exact hi
 have:=h.2 i hi E;have:=hm aa[i] (Lc E);omega
set_option maxHeartbeats 20000000 in
theorem UE {L:LN}{w:World}{vl:Value}{ps:List AV}{km:Int}(h:Xg L w.heap vl ps) (gn:Kb w km) (kf:0<km) (m1:∀p∈ps,p.a.st≤km) :
  QI prog 69 [vl] w λr w'=>Step [] w w'∧∃va vt c,r=.tuple #[va,vt,.int .i64 c]∧Z7 w.heap.size w'.heap (ps.map (·.a)) va vt c:=by
 refine QI.of_W func69 O ntmps69 results69 (by simp) ?_;generalize J:ps.map (·.a)=aa;refine Qc<|xl O<|Qt (us:=[nS,.int .i64 0,nS,nS]) O λH w1 hB hC go=>x Qf<|Qe ?_;have hz1:=hB.size;have hl2:=go.lt;refine Qg<|Qc<|Qb<|xl O<|xf<|(QbO (h.ext hB)).mono ?_;rintro r2 w2 ⟨rfl,ho⟩;refine Qe ?_;rw[J];refine Qc<|Qb<|x (Q9 O O)<|xe<|Q7 rfl (λhw=>?_) (λhw=>?_)
 ·refine Qc<|x (QE U)<|Qb<|xl O<|Qp (us:=[nS,.int .i64 0,nS,nS]) (go.ext ho) O O O O ⟨O,O,O,O,U⟩ λw3 m2 m3=>x Qf<|Qe<|Qm ⟨[zA,Zz,.int .i64 (KX aa)],⟨⟨_,O,Qx O (m3.at (L:=[]) (by simp)).cells⟩,rfl,rfl,U⟩,(hB.trans ho).then1 m2 hC,zA,Zz,KX aa,rfl,?_⟩;unfold Z7;rw[if_pos hw];exact ⟨O,O,O⟩
 have hq:KX aa=0:=Lq.1 hw;have hn:ps.length≤12:=by
  unfold KX at hq;split at hq
  ·cases hq
  rename_i h1;rw[←J] at h1;simp at h1;exact h1
 have hD:∀a∈aa,Zi a:=by
  unfold KX at hq;split at hq
  ·cases hq
  exact (yP aa).1 hq
 have hV:∀p∈ps,Zi p.a:=λp hp=>hD p.a (by rw[←J];exact LG hp);have m6:∀p∈ps,p.a.al.length≤32:=λp hp=>(hV p hp).al_le;have m7:∀a∈aa,a.st≤km:=λa ha=>by rw[←J] at ha;obtain ⟨p,hp,rfl⟩:=Ly.1 ha;exact m1 p hp
 have hE:aa.length=ps.length:=by rw[←J];simp
 refine Qi<|Qc<|Qb<|xl O<|xf<|(QfX (L:=[H]) (((h.up (λb hb=>.inr (by simp at hb;omega))).ext hB).ext ho) hn m6 (λb hb=>by simp at hb;have:=ho.size;omega)).mono ?_;rintro r4 w4 ⟨gp,ve,vs,ms,rfl,kg,hl⟩;rw[J] at hl;have m8:=h.arr.one;have hel:=zC aa (λa ha=>(hD a ha).al_le);have hevl:(evs aa).length≤1000:=by omega
 have hW:=Qu.ints (L:=[]) hl (by omega) (by simp);refine xl rfl<|Qt (us:=[nS,nS,nS]) O λb6 w5 m9 pa hF=>xl O<|Qp (us:=[vl,ve,vs]) hF O O O O ⟨m8,hW.one,kg.sl.one,U⟩ λw6 pc hF=>xe ?_;have hG:Step [] w4 w6:=m9.then1 pc pa;have hz2:=ho.size;have hz4:=gp.size;have hz6:=hG.size;have hl6:=hF.lt;refine Qc ?_;have pd:=((go.ext ho).ext gp).ext hG
 refine x (Qa O)<|x (Qd hF O O)<|x (Qa O)<|xl O<|QL pd O O (by simp) hW.one λw7 hH pf=>xe ?_;have hz7:=hH.size;have gq:Step [] w w7:=((((hB.trans ho).trans gp).trans hG).then1 hH hC);have kh:Jz [H] w7.heap vl ve vs ps ms:=(kg.ext hG).st hH;have ki:Qu 3 w2.heap.size w7 ve (evs aa):=Qk (Qq hl hG) hH (λb hb=>by have:=(Qn hl b hb).1;simp;omega)
 have kj:=hF.step hH (by simp;omega);refine Qc<|x (Qr kj O O)<|xl O<|xf<|(jR kh hn).mono ?_;rintro r8 w8 ⟨hh,hX⟩;have hz8:=hh.size;have gr:=pf.ext hh;have hY:(∃p∈ps,p.a.st=0)↔(∃a∈aa,a.st=0):=by
  rw[←J];constructor
  ·rintro ⟨p,hp,h0⟩;exact ⟨p.a,LG hp,h0⟩
  rintro ⟨a,ha,h0⟩;obtain ⟨p,hp,rfl⟩:=Ly.1 ha;exact ⟨p,hp,h0⟩
 by_cases hz:∃p∈ps,p.a.st=0
 ·rw[if_pos hz] at hX;subst hX;refine Qb<|x (Ql O O)<|x (Ql O O)<|x Qf<|Qe<|Qg<|Qc<|Qb<|x (Zs O)<|xe<|UD O ?_;refine Qc<|x (Qr gr O O)<|xl O<|Qp (us:=[ve,.int .i64 0,nS,nS]) gr O O O O ⟨hW.one,O,O,O,U⟩ λw9 kk pg=>x Qf<|Qe<|Qm ⟨[.agg #[ve,.int .i64 0,nS,nS],Zz,.int .i64 0],⟨⟨_,O,Qx O (pg.at (L:=[]) (by simp)).cells⟩,rfl,rfl,U⟩,(gq.trans hh).then1 kk hC,_,Zz,0,rfl,?_⟩
  unfold Z7;rw[if_neg hw];unfold sync;rw[if_pos (hY.1 hz)];have ph:=Qk (Qq ki hh) kk (λb hb=>by have:=(Qn hl b hb).1;simp;omega);refine ⟨O,⟨ve,_,_,O,λL' hk=>⟨Qu.ints ph (by show (evs aa).length≤_;omega) (λb hb=>by have:=hk b hb;omega),Zq.nil _ _ _,Zq.nil _ _ _⟩⟩,[],O,λL' hk=>⟨Zq.nil _ _ _,λp hp=>by cases hp⟩⟩
 rw[if_neg hz] at hX;obtain ⟨vf,rfl,gs⟩:=hX;have kn:=Qu.ints (L:=[]) gs (by simp;omega) (by simp);refine Qb<|x (Ql O O)<|x (Ql O O)<|x Qf<|Qe<|Qg<|Qc<|Qb<|x (Zs O)<|xe<|Yc rfl ?_;refine Qi<|Qc<|Qb<|xl O<|QD (us:=[[vf]]) O O (by decide) (by simp) ⟨kn.cells,rfl,U⟩ λS w10 hZ hb37 ko=>Qe ?_;have hz10:=hZ.size;have hl37:=ko.lt;refine Qc<|xl O<|Yk Y7 λhe w11 hJ hb38 kp=>?_
 have hz11:=hJ.size;have hl38:=kp.lt;refine Qb<|xl O<|xf<|(zq ((kn.ext hZ).ext hJ) (gn.ext ((gq.trans hh).trans (hZ.trans hJ))) (λn hn=>by have:=M6 hn;omega) (by simp;omega)).mono ?_;rintro r12 pj ⟨rfl,ga⟩;have hz12:=ga.size;refine xl rfl<|YL (k:=Jf (List.replicate ps.length 0)) (kp.ext ga) O O λwS gt pm=>Qb<|Qe ?_;have hzS:=gt.size
 have pn:Step [] w8 pj:=(hZ.trans hJ).trans ga;have h5:Step [] w8 wS:=pn.then1 gt (by omega);have hK:Step [] w wS:=(gq.trans hh).trans h5;have hzWS:=hK.size;have po:∀b∈[H,he,S],b∈[H]∨w8.heap.size≤b:=λb hb=>by
  simp only[List.mem_cons,List.not_mem_nil,or_false] at hb;rcases hb with rfl | rfl | rfl
  ·exact .inl (by simp)
  ·exact .inr (by omega)
  exact .inr (by omega)
 have gu:Jz [H,he,S] wS.heap vl ve vs ps ms:=((kh.ext hh).up po).ext h5;have gv:Q4 wS.heap b6 243 [vl,ve,vs]:=(kj.ext hh).ext h5;have pp:Qu 3 w2.heap.size wS ve (evs aa):=Qq (Qq ki hh) h5;have pt:=QO hl;have pu:=Qn gs;have hL:SyN w1.heap.size H he S wS:=⟨by omega,by omega,by omega,by omega,by omega,by omega⟩
 have pw:qI w1.heap.size H he S ve wS (U6 aa) (mput [] (Jf (List.replicate ps.length 0)) (.int .i64 0)) [(vf,List.replicate ps.length 0)] (.slice (some ⟨S,0,none⟩) 1 1) Zz Zz wS:=by
  refine ⟨Step.refl _ _,gr.ext h5,pm,?_,λb hb=>by simp[ob] at hb;exact .inl hb,QM _ _ _ _,QM _ _ _ _,by simp[U6,hE],λp hp=>?_,λp hp b hb=>?_,Dj.nil' _,Dj.nil' _,Dj.nil' _⟩
  ·exact (((ko.ext hJ).ext ga).step gt (by simp;omega)).own (n:=1) (sz:=1) O (by omega) (by omega)
  ·simp only[List.mem_singleton] at hp;subst hp;exact Zk (Qq gs h5) (by omega)
  simp only[List.mem_singleton] at hp;subst hp;have:=pu b hb;refine ⟨by omega,?_,by simp[ob,Zz],by simp[ob,Zz]⟩;simp[ob];omega
 have pz:Vp ps.length (mput [] (Jf (List.replicate ps.length 0)) (.int .i64 0)) (U6 aa).tup:=by
  have kf:Vp ps.length [] []:=λu _ _=>O;have:=kf.add (u:=List.replicate ps.length 0) (by simp) (λx hx=>by have:=M6 hx;omega);simpa[U6,hE] using this
 have p0:Vn aa (U6 aa):=by
  refine ⟨λt ht=>?_,by simp[U6]⟩;simp only[U6,List.mem_singleton] at ht;subst ht;refine ⟨by simp,λi h1 h2=>?_⟩;have h3:=(hD aa[i] (Lc h2)).st0;have h4:aa[i].st≠0:=λe=>hz (hY.2 ⟨aa[i],Lc h2,e⟩);simp only[List.getElem_replicate];omega
 generalize hT:syL aa 4096 0 (U6 aa)=T;have p1:∀s,T=some s→sync aa=some (⟨evs aa,s.tup.length,s.mk',s.ed⟩,s.tup):=λs hs=>by
  unfold sync;rw[if_neg (λe=>hz (hY.2 e)),hT,hs];rfl
 have p2:T=none→sync aa=none:=λhs=>by unfold sync;rw[if_neg (λe=>hz (hY.2 e)),hT,hs];rfl
 refine Qg<|Qc<|Qe ?_;have gw:b6∉[H,he,S]:=by simp;omega
 refine Qh<|QA (α:=Nat×Sy×List (ByteArray×Value)×List TV×Value×Value×Value) [(3,4),(10,10),(12,16),(42,111)] (λz=>[(3,z.2.2.2.2.1),(10,.int .i64 z.1)])
  (λz w'=>qI w1.heap.size H he S ve wS z.2.1 z.2.2.1 z.2.2.2.1 z.2.2.2.2.1 z.2.2.2.2.2.1 z.2.2.2.2.2.2 w'∧Vn aa z.2.1∧Vp ps.length z.2.2.1 z.2.1.tup∧z.1≤z.2.1.tup.length∧z.2.1.mk'.length≤z.1∧z.2.1.ed.length≤z.1*1000∧syL aa (4096 - z.1) z.1 z.2.1=T)
  (λz=>4096 - z.1) (by rfl) (0,U6 aa,_,_,_,Zz,Zz) ⟨O,O,U⟩ ⟨pw,p0,pz,Lj _,Lj _,Lj _,hT⟩ ?_
 rintro ⟨i,s,m,qs,vt,vk,vd⟩ g hM ⟨G,gb,kq,hi,p3,kr,gx⟩;simp only[] at G gb kq hi p3 kr gx;have hle:=gb.le;have p4:qs.length=s.tup.length:=by rw[←G.q];simp
 have kt:∀p∈qs,Vt aa p.2:=λp hp=>gb.v p.2 (by rw[←G.q];exact LG hp);have ku:∀p∈qs,p.2.length≤12:=λp hp=>by have:=(kt p hp).1;omega
 have gy:=QS (L:=[]) G.t (by omega) (by simp);refine Qg<|Qc<|Qb<|Qb<|x (Qs gy O)<|x (QB O O)<|xe<|QH rfl (λp5=>?_) (λp5=>?_)
 ·have p6:T=some s:=by rw[←gx,QcO (by omega)]
  refine Qy<|Qc<|Qb<|x (Qs gy O)<|x (Qa O)<|xl O<|QL G.A O O (by simp) rfl λw15 p7 kv=>xe ?_;refine Qc ?_;have p8:=Qu.ints (L:=[]) G.k (by omega) (by simp);have p9:=Ye.eds (L:=[]) G.e (by omega) (by simp);refine x (Qr kv O O)<|Qb<|xl O<|Qp (us:=[ve,.int .i64 qs.length,vk,vd]) kv O O O O ⟨hW.one,O,p8.one,p9.one,U⟩ λgz qb qc=>x Qf<|Qe ?_
  have h6:Step [H] hM gz:=p7.trans' qb;have qj:Step [] w gz:=(hK.then G.st (λb hb=>.inr (by simp at hb;omega))).then1 h6 hC;refine Qm ⟨[.agg #[ve,.int .i64 qs.length,vk,vd],vt,.int .i64 0],⟨⟨_,O,Qx O (qc.at (L:=[]) (by simp)).cells⟩,rfl,rfl,U⟩,qj,_,vt,0,rfl,?_⟩;unfold Z7;rw[if_neg hw,p1 s p6];have e1:(qs.length:Int)=s.tup.length:=by rw[p4]
  have k0:Qu 3 w2.heap.size gz ve (evs aa):=Qk (Qk pp G.st (λb hb=>by have:=(Qn hl b hb).1;have:=pt b hb;simp;omega)) h6 (λb hb=>by have:=(Qn hl b hb).1;simp;omega);have k1:=Qk G.k h6 (λb hb=>by have:=(Qn G.k b hb).1;simp;omega);have k2:=Qk G.e h6 (λb hb=>by have:=(Qn G.e b hb).1;simp;omega);have k3:=Qk G.t h6 (λb hb=>by have:=(Qn G.t b hb).1;simp;omega)
  refine ⟨O,⟨ve,vk,vd,by rw[e1],λL' hk=>⟨Qu.ints k0 (by show (evs aa).length≤_;omega) (λb hb=>by have:=hk b hb;omega),Qu.ints k1 (by show s.mk'.length≤_;omega) (λb hb=>by have:=hk b hb;omega),Ye.eds k2 (by show s.ed.length≤_;omega) (λb hb=>by have:=hk b hb;omega)⟩⟩,qs,G.q,λL' hk=>⟨?_,λp hp=>?_⟩⟩
  ·exact QS k3 (by omega) (λb hb qk=>by have:=(Qn G.t b hb).1;have:=hk b qk;omega)
  exact Qu.ints (Qk (G.el p hp) h6 (λb hb=>by have:=(Qn (G.el p hp) b hb).1;simp;omega)) (by have:=ku p hp;omega) (λb hb=>by have:=hk b hb;omega)
 have qo:i<s.tup.length:=by omega
 have V:i<qs.length:=by omega
 have kw:=Qi8 G.q V;have h7:=kt (qs[i]'V) (Lc V);obtain ⟨t,g0⟩:∃t,(qs[i]'V).2=t:=⟨_,O⟩;rw[g0] at kw h7;refine Qi ?_;have qr:(VT aa i t (evs aa) (ZI aa i t s)).bind (syL aa (4096 - (i+1)) (i+1))=T:=by
  rw[←gx];obtain ⟨f,hf⟩:∃f,4096 - i=f+1:=⟨4096 - i - 1,by omega⟩;rw[hf,syL,if_pos qo,kw,show 4096 - (i+1)=f by omega]
 have q0:=gu.st G.st;have q1:Jz [] hM.heap vl ve vs ps ms:=q0.up (λ_ hb=>by cases hb);have q2:=gv.step G.st gw;have q3:QK [] hM.heap (qs[i]'V).1 t:=by rw[←g0];exact Qu.ints (G.el (qs[i]'V) (Lc V)) (by have:=ku (qs[i]'V) (Lc V);omega) (by simp)
 refine Qg<|Qh<|Q0 (α:=Value) [(48,59)] (λz=>[]) (λz w'=>qI w1.heap.size H he S ve wS (ZI aa i t s) m qs vt z vd w') (by rfl) ?_ ?_
 ·refine Qg<|QW (Step [] hM) [(0,true),(1,true),(2,true),(3,true),(4,true),(5,false)] mixed (by rfl) (by kernel_rfl) (Step.drew _ _) ?_;refine pq (λ_ hc=>Qr (q2.ext hc) O O)<|p (λ_=>Qo)<|p (λ_=>Qo)<|pig O J0 gy O O V λa51 q4 =>
   pq (λ_ hc=>Qv (q4.ext hc) O)<|pk<|xf<|(QbT (q1.ext (Step.drew _ _)) (q3.ext (Step.drew _ _)) (by rw[h7.1,hE]) (λp hp=>(hV p hp).mri) hn).mono ?_
  rintro r17 w17 ⟨rfl,za⟩;have kx:=(Step.drew [] hM).trans za;refine ⟨kx,?_⟩;refine pe ?_;have g2:=G.ext kx;refine Q2 O (λhN=>?_) (λhN=>?_)
  rotate_left
  ·refine Qi<|⟨vk,U,?_⟩;rw[J] at hN;unfold ZI;rw[if_neg (by rw[hN];simp)];exact g2
  refine Qz<|x (Qa O)<|x (Qd g2.A O O)<|Qb<|xl O<|QD (us:=[[.int .i64 i]]) O O (by decide) (by simp) ⟨rfl,rfl,U⟩ λb57 w18 zv hb57 z0=>?_;have hO:=g2.ext zv;refine xl O<|Q6 (news:=[.int .i64 i]) (L:=[]) hO.k O O O (z0.at (by simp)) (by simp[Value.oneCell']) (by omega) hO.st.size λky z2 z3 kz z4=>?_;have k4:Qu 3 wS.heap.size z2 ky (s.mk'++[(i:Int)]):=Qu.snoc z3
  refine x (Qa O)<|xl O<|QL (hO.A.step kz (QU hO.k (by omega))) O O (by simp) (Qu.ints (L:=[]) k4 (by simp;omega) (by simp)).one λw20 z5 z9=>xe ?_;refine ⟨ky,U,?_⟩;rw[J] at hN;unfold ZI;rw[if_pos hN];exact hO.setK hL kz k4 z4 z5 z9
 rintro gc g3 w21 k5;have hsk2:Vn aa (ZI aa i t s):=U4 gb;have htup2:(ZI aa i t s).tup=s.tup:=by unfold ZI;split <;> rfl
 have hed2:(ZI aa i t s).ed=s.ed:=by unfold ZI;split <;> rfl
 have hmk2:(ZI aa i t s).mk'.length≤i+1:=by
  unfold ZI;split
  ·simp only[List.length_append,List.length_singleton];omega
  omega
 have k6:QK [H,he,S] wS.heap ve (evs aa):=by have:=gu.ev;rw[J] at this;exact this
 refine Qc<|x (Qa O)<|x (Qd (gv.step k5.st gw) O O)<|x (Qs k6 O)<|Qb<|xe<|Qh<|QA (α:=Nat×Sy×List (ByteArray×Value)×List TV×Value×Value) [(3,4),(12,16),(63,111)] (λz=>[(3,z.2.2.2.2.1),(63,.int .i64 z.1)])
  (λz w'=>qI w1.heap.size H he S ve wS z.2.1 z.2.2.1 z.2.2.2.1 z.2.2.2.2.1 gc z.2.2.2.2.2 w'∧Vn aa z.2.1∧Vp ps.length z.2.2.1 z.2.1.tup∧z.1≤(evs aa).length∧z.2.1.mk'=(ZI aa i t s).mk'∧z.2.1.ed.length≤i*1000+z.1 ∧
   (∃h:i<z.2.2.2.1.length,(z.2.2.2.1[i]'h).2=t)∧(VT aa i t ((evs aa).drop z.1) z.2.1).bind (syL aa (4096 - (i+1)) (i+1))=T)
  (λz=>(evs aa).length - z.1) (by rfl) (0,ZI aa i t s,m,qs,vt,vd) ⟨O,O,U⟩
  ⟨k5,hsk2,by rw[htup2];exact kq,Lj _,O,by rw[hed2];simpa using kr,⟨V,g0⟩,qr⟩ ?_
 rintro ⟨j,E,m4,hg,ge,gg⟩ g4 h8 ⟨I,hP,hr,hj,gh,k7,⟨hm,h9⟩,Y⟩;simp only[] at I hP hr hj gh k7 Y hm h9;have k8:hg.length=E.tup.length:=by rw[←I.q];simp
 have hle4:=hP.le;refine Qc<|x (QB O O)<|xe<|Qg<|QH O (λh64=>?_) (λh64=>?_)
 ·rw[Lp (by omega),VT] at Y;refine Qy<|Qz<|Qb<|QN O O<|Qe<|⟨(i+1,E,m4,hg,ge,gc,gg),by simp only[];omega,⟨O,O,U⟩,I,hP,hr,by simp only[];omega,by simp only[];rw[gh];exact hmk2,by simp only[];omega,Y⟩
 have gi:j<(evs aa).length:=by omega
 rw[QZ gi,VT] at Y;obtain ⟨v,k9⟩:∃v,(evs aa)[j]=v:=⟨_,O⟩;rw[k9] at Y;refine Qi<|Qg<|Qh<|Qc ?_;have hveI4:=k6.st I.st;refine xii hveI4 O O gi λa65 ma=>?_;rw[k9] at ma;refine x (Qv ma O)<|Qe ?_;have hM22:=(gu.st I.st).up (L':=[]) (λ_ hb=>by cases hb);have hB622:=gv.step I.st gw;have htA4:=QS (L:=[]) I.t (by omega) (by simp)
 have htI4:QK [] h8.heap (hg[i]'hm).1 t:=by rw[←h9];exact Qu.ints (I.el (hg[i]'hm) (Lc hm)) (by rw[h9,h7.1];omega) (by simp)
 refine Qg<|QW (Step [] h8) [(0,true),(1,true),(2,true),(3,true),(4,true),(5,true),(6,false),(7,true),(8,true),(9,true),(10,true),(11,true)] mixed (by rfl) (by kernel_rfl) (Step.drew _ _) ?_;refine pq (λ_ hc=>Qr (hB622.ext hc) O O)<|p (λ_=>Qo)<|p (λ_=>Qo)<|pig O J0 htA4 O O hm λa71 h71 =>
  pq (λ_ hc=>Qv (h71.ext hc) O)<|p (λ_=>Qo)<|pk<|xf<|(Qdn (hM22.ext (Step.drew _ _)) (htI4.ext (Step.drew _ _)) (by rw[h7.1,hE]) (λp hp=>(hV p hp).ali) (λp hp=>(hV p hp).edi) hn _).mono ?_
 rintro r23 w23 ⟨hs23,hQ⟩;rw[J] at hQ;have g5:=(Step.drew [] h8).trans hs23;refine ⟨g5,?_⟩;have hR:=I.ext g5;have hz23:=g5.size;have hz22:=I.st.size;rcases Qj9 (Ya v aa t) with hv | ⟨u,hv⟩
 ·rw[hv] at hQ;subst hQ;rw[QcQ hv] at Y;refine p (λ_=>Qo)<|p (λ_=>Ql O O)<|p (λ_=>Ql O O)<|p (λ_=>Qf)<|p (λ_=>Qf)<|pe ?_;refine Qg<|Qc<|Qb<|x (Zs O)<|xe<|UD O ?_;refine Qy<|Qz<|QN O O<|Qb<|xe ?_;exact ⟨(j+1,E,m4,hg,ge,gg),by simp only[];omega,⟨O,O,U⟩,hR,hP,hr,gi,gh,by simp only[];omega,⟨hm,h9⟩,Y⟩
 rw[hv] at hQ;obtain ⟨vx,rfl,g8⟩:=hQ;have mc:=Xn hD h7 hv;have mf:u.length=ps.length:=by rw[mc.1,hE]
 have g9:=mc.bd m7;have ka:∀x∈u,0≤x:=λx hx=>(g9 x hx).1;refine p (λ_=>Qo)<|p (λ_=>Ql O O)<|p (λ_=>Ql O O)<|p (λ_=>Qf)<|p (λ_=>Qf)<|pe ?_;refine Qg<|Qc<|Qb<|x (Zs O)<|xe<|Yc O ?_;refine Qi ?_;have gj:=Qu.ints (L:=[]) g8 (by omega) (by simp);have mg:=Qn g8
 refine Q0 (α:=Unit) [(15,16),(79,85)] (λz=>[(15,.int .i64 (if u∈E.tup then (E.tup.idxOf u:Int) else 0)),(16,.bool (decide (u∈E.tup)))]) (λz w'=>Step [] w23 w') (by rfl) ?_ ?_
 ·refine Qz<|Qb<|Qb<|xl O<|xf<|(zq gj (gn.ext (hK.then hR.st (λb hb=>.inr (by simp at hb;omega)))) g9 (by omega)).mono ?_;rintro r24 w24 ⟨rfl,gk⟩;by_cases hu:u∈E.tup
  ·refine x (ql (k:=Jf u) ((hR.ext gk).M) O O (by rw[hr u mf ka,if_pos hu]))<|Qb<|x (Ql rfl rfl)<|x (Ql rfl rfl)<|x Qf<|Qe ?_;exact ⟨(),⟨congrArg (Value.int .i64) (if_pos hu).symm,congrArg Value.bool (decide_eq_true hu).symm,U⟩,gk⟩
  refine x (QbM (k:=Jf u) ((hR.ext gk).M) O O (by rw[hr u mf ka,if_neg hu]))<|Qb<|x (Ql rfl rfl)<|x (Ql rfl rfl)<|x Qf<|Qe ?_;exact ⟨(),⟨congrArg (Value.int .i64) (if_neg hu).symm,congrArg Value.bool (decide_eq_false hu).symm,U⟩,gk⟩
 rintro _ g6 w25 gl;have hA:=hR.ext gl;have hx25:=Qq g8 gl;have hxA25:=gj.ext gl;have hz25:=gl.size;have hadd:∀b∈ob vx,b∉ob ge∧b∉ob gc∧b∉ob gg:=λb hb=>by
  have h1:=(mg b hb).1;have h1':h8.heap.size≤b:=h1;exact ⟨λhS=>by have:=QO I.t b hS;omega,λhS=>by have:=QO I.k b hS;omega,λhS=>by have:=QO I.e b hS;omega⟩
 refine Q0 (α:=List (ByteArray×Value)×List TV×Value) [(3,4),(15,15),(86,101)] (λz=>[(3,z.2.2),(15,.int .i64 ((Yf E u).tup.idxOf u:Int))])
  (λz w'=>qI w1.heap.size H he S ve wS (Yf E u) z.1 z.2.1 z.2.2 gc gg w'∧(u∈E.tup∨E.tup.length≠4096)∧Vp ps.length z.1 (Yf E u).tup∧∃h:i<z.2.1.length,(z.2.1[i]'h).2=t) (by rfl) ?_ ?_
 ·refine Qc<|Qb<|x (Zs O)<|xe<|Q2 O (λkb=>?_) (λkb=>?_)
  rotate_left
  ·have hu:u∈E.tup:=by simpa using kb
   refine Qi ?_;have e1:Yf E u=E:=by unfold Yf;rw[if_pos hu]
   have e2:(if u∈E.tup then (E.tup.idxOf u:Int) else 0)=((Yf E u).tup.idxOf u:Int):=by rw[e1,if_pos hu]
   refine ⟨(m4,hg,ge),⟨O,congrArg (Value.int .i64) e2,U⟩,?_,.inl hu,?_,hm,h9⟩
   ·rw[e1];exact hA
   rw[e1];exact hr
  have hu:u∉E.tup:=by simpa using kb
  have mh:=QS (L:=[]) hA.t (by omega) (by simp);refine Qg<|Qc<|Qb<|x (Qs mh O)<|x (Q5 O O)<|xe<|Q7 O (λh90=>?_) (λh90=>?_)
  ·refine Qc<|x (QE U)<|xl O<|Qp (us:=[nS,.int .i64 0,nS,nS]) hA.A O O O O ⟨O,O,O,O,U⟩ λw26 gm hB26=>x Qf<|Qe<|Qm ⟨[zA,Zz,.int .i64 3],⟨⟨_,O,Qx O (hB26.at (L:=[]) (by simp)).cells⟩,rfl,rfl,U⟩,(hK.then hA.st (λb hb=>.inr (by simp at hb;omega))).then1 gm hC,zA,Zz,3,O,?_⟩;unfold Z7;rw[QcS hv hu (by omega)] at Y;rw[if_neg hw,p2 Y.symm];exact ⟨rfl,O,O⟩
  have hl4:E.tup.length≠4096:=by omega
  refine Qi<|Qc<|Qb<|x (Qs mh O)<|Qe<|Qc<|Qb<|Qb<|xl O<|xf<|(zq hxA25 (gn.ext (hK.then hA.st (λb hb=>.inr (by simp at hb;omega)))) g9 (by omega)).mono ?_;rintro r26 w26 ⟨rfl,gm⟩;have mi:=hA.ext gm;refine Qb<|xl O<|Y3 (k:=Jf u) mi.M O O λw27 mj hm27=>xe ?_;have hI8:=mi.setM hL mj hm27
  have hx27:=Qk (Qq hx25 gm) mj (λb hb=>by have:=(mg b hb).1;have h1':h8.heap.size≤b:=this;simp;omega);refine Qz<|Qb<|Qb<|xl O<|QD (us:=[[vx]]) O O (by decide) (by simp) ⟨gj.cells,rfl,U⟩ λb100 w28 mn hb100 hB100=>?_;have kc:=hI8.ext mn
  refine xl O<|Q6 (news:=[vx]) (L:=[]) kc.t O O O (hB100.at (by simp)) (λy hy=>by simp only[List.mem_singleton] at hy;subst hy;exact gj.one) (by omega) (by have:=kc.st.size;have:=hL.nS;omega) λmo w29 ho29 hs29 hn29=>Qe ?_;have hk29:UV 37 w1.heap.size w29 mo (hg++[(vx,u)]):=UV.snoc ho29
  have hIA:=kc.setT hL (u:=u) (Zk (Qq hx27 mn) (by show wS.heap.size≤h8.heap.size;omega)) hadd hs29 hk29 hn29;have e1:Yf E u=⟨E.tup++[u],E.mk',E.ed⟩:=by unfold Yf;rw[if_neg hu]
  have e2:(hg.length:Int)=((Yf E u).tup.idxOf u:Int):=by
   rw[e1];simp only[];rw[Ml,if_neg hu,←k8];simp
  refine ⟨(mput m4 (Jf u) (.int .i64 (hg.length:Int)),hg++[(vx,u)],mo),⟨O,congrArg (Value.int .i64) e2,U⟩,?_,.inr hl4,?_,by simp;omega,?_⟩
  ·rw[e1];exact hIA
  ·rw[e1];simp only[];rw[k8];exact hr.add hu ka
  simp only[];rw[L3 hm];exact h9
 rintro ⟨m5,qs5,vt5⟩ g7 w30 ⟨ke,hlim,mq,mu,mv⟩;simp only[] at ke mq mu mv;have hed5:(Yf E u).ed.length≤i*1000+j:=by rw[QcU];exact k7
 have mw:=Qfz (aa:=aa) (i:=i) (s:=E) hv hlim;have hsk5:=QcR hD hP h7 mw;rw[mw] at Y;refine Qz<|x (Qa O)<|x (Qd ke.A O O)<|Qb<|Qb<|Qb<|x (QE ⟨O,O,O,U⟩)<|xl O<|QD (us:=[Qw ((i:Int),v,((Yf E u).tup.idxOf u:Int))]) O O (by decide) (by exact (by decide:1*3≤1000000)) ⟨O,O,U⟩ λb108 w31 hs31 hb108 hB108=>?_;have hU:=ke.ext hs31
 refine xl O<|Q6 (news:=Qw ((i:Int),v,((Yf E u).tup.idxOf u:Int))) (L:=[]) hU.e O O O (hB108.at (by simp)) (λy hy=>by simp only[Qw,List.mem_cons,List.not_mem_nil,or_false] at hy;rcases hy with rfl | rfl | rfl <;> rfl) (by omega) hU.st.size λmy w32 ho32 mz hn32=>?_
 have m0:Ye 144 wS.heap.size w32 my ((Yf E u).ed++[((i:Int),v,((Yf E u).tup.idxOf u:Int))]):=Ye.snoc ho32;refine x (Qa O)<|xl O<|QL (hU.A.step mz (QU hU.e (by omega))) O O (by simp) (Ye.eds (L:=[]) m0 (by simp;omega) (by simp)).one λw33 hs33 hB33=>xe ?_;have hI12:=hU.setE hL mz m0 hn32 hs33 hB33;refine Qz<|QN O O<|Qb<|xe ?_
 refine ⟨(j+1,_,m5,qs5,vt5,my),by simp only[];omega,⟨O,O,U⟩,hI12,hsk5,mq,gi,?_,?_,⟨mu,mv⟩,Y⟩
 ·simp only[];rw[QcT];exact gh
 simp only[List.length_append,List.length_singleton];omega
structure Kk where
 en:LI
 dis:LI
 mk':Bool
 ps:Bool
def Qis:Kk:=⟨[],[],false,false⟩
def Qhv (l:LI) (v:Int):LI:=mrg (· || ·) l [v]
def Qki (p s:QP) (x y:Int) (c:Kk) (v:Int):Kk :=
 match eget p.ed x v with
 | none=>c
 | some _=>match eget s.ed y v with
  | some _=>⟨Qhv c.en v,c.dis,c.mk',c.ps⟩
  | none=>⟨c.en,Qhv c.dis v,c.mk',c.ps⟩
def Qkj (p s:QP) (x y:Int) (c:Kk):Kk:=⟨c.en,c.dis,decide (y∈s.mr),c.ps || decide (x∈p.mr)⟩
def Qkh (p s:QP) (x y:Int) (c:Kk):Kk:=s.al.foldl (Qki p s x y) (Qkj p s x y c)
def px (q:LI):Int:=q.getD 0 0
def py (q:LI):Int:=q.getD 1 0
def Qkg (p s:QP) (l:List Kk) (q:LI):List Kk:=l.set (py q).toNat (Qkh p s (px q) (py q) (l.getD (py q).toNat Qis))
def ctls (p s:QP) (pairs:List (LI)):List Kk:=pairs.foldl (Qkg p s) (List.replicate s.st.toNat Qis)
def occs (n:Nat) (pairs:List (LI)):List Bool:=pairs.foldl (λo q=>o.set (py q).toNat true) (List.replicate n false)
def meets (a b:LI):LI:=mrg (· && ·) a b
def Qjx (a b:Kk):Bool:=decide ((meets a.en b.dis).length+(meets b.en a.dis).length=0) && (!a.ps || !b.ps || a.mk' == b.mk')
def cget (l:LI) (i:Nat):Int:=l.getD i 0
def QdG (cl:LI) (x y:Nat):LI:=cl.map λc=>if c=cget cl y then cget cl x else c
def lget (l:List Kk) (i:Nat):Kk:=l.getD i Qis
def to0 (s:QP) (x:Nat) (v:Int):Int:=match eget s.ed x v with | some u=>u | none=>0
def clE (s:QP) (x y:Nat) (z:LI×Bool) (v:Int):LI×Bool :=
 if cget z.1 (to0 s x v).toNat≠cget z.1 (to0 s y v).toNat then (QdG z.1 (to0 s x v).toNat (to0 s y v).toNat,true) else z
def clY (s:QP) (l:List Kk) (x:Nat) (z:LI×Bool) (y:Nat):LI×Bool :=
 if cget z.1 x<0∨cget z.1 x≠cget z.1 y then z else (meets (lget l x).en (lget l y).en).foldl (clE s x y) z
def clX (s:QP) (l:List Kk) (n:Nat) (z:LI×Bool) (x:Nat):LI×Bool:=(List.range' (x+1) (n - (x+1))).foldl (clY s l x) z
def pass (s:QP) (l:List Kk) (cl:LI):LI×Bool:=(List.range' 0 cl.length).foldl (clX s l cl.length) (cl,false)
def QeH (s:QP) (l:List Kk):Nat→LI→LI
 | 0,cl=>cl
 | f+1,cl=>if (pass s l cl).2=true then QeH s l f (pass s l cl).1 else (pass s l cl).1
def QgN (l:List Kk) (cl:LI):Bool :=
 (List.range' 0 cl.length).all λx=>(List.range' 0 x).all λy=>!(decide (0≤cget cl x∧cget cl x=cget cl y) && !Qjx (lget l x) (lget l y))
def QjZ (s:QP) (l:List Kk) (cl:LI) (x y:Nat):LI :=
 if cget cl x<0∨cget cl y<0∨cget cl x=cget cl y then cl else
  let d:=QeH s l (cl.length*cl.length+1) (QdG cl x y)
  if QgN l d=true then d else cl
def QjY (s:QP) (l:List Kk) (n:Nat) (cl:LI) (x:Nat):LI:=(List.range' (x+1) (n - (x+1))).foldl (λc y=>QjZ s l c x y) cl
def Qkl (o:List Bool):LI:=(List.range' 0 o.length).map λi=>if o.getD i false=true then (i:Int) else -1
def Qkk (s:QP) (l:List Kk) (cl:LI):LI:=(List.range' 0 cl.length).foldl (QjY s l cl.length) cl
def Qkb (z:LI×LI) (c:Int):LI×LI :=
 if c∈z.1 then (z.1,z.2++[(z.1.idxOf c:Int) - 1]) else (z.1++[c],z.2++[(z.1.length:Int) - 1])
def nums (cl:LI):LI:=(cl.foldl Qkb ([-1],[])).2
def QjC (p s:QP) (pairs:List (LI)):LI:=nums (Qkk s (ctls p s pairs) (Qkl (occs s.st.toNat pairs)))
end Go.Proofs.YtdffckgdcegpaaaGreatDoor
namespace Go.Lg
section
variable {P:Program} {n:Nat} {f:Fr} {w:World} {all:List Oper} {C:World→Prop} {K:Fr→World→Prop}
def Ui (all:Array Oper) (i j:Nat) (E G:List (Nat×Bool)):List (Nat×Bool)→Array Bool→Bool
 | [],ls=>Region.ready .any all ls == [i,j] && YP all E (ls.setIfInBounds i true) && YP all G (ls.setIfInBounds j true)
 | (k,q)::pl,ls=>q && (Region.ready .any all ls).contains k && Region.free .any all ls k && Ui all i j E G pl (ls.setIfInBounds k true)
def Qeb (all:List Oper) (pl:List (Nat×Bool)) (i j:Nat) (E G:List (Nat×Bool)):Bool :=
 Region.noSelect all.toArray && pl.length+1+E.length == all.length && E.length == G.length && Ui all.toArray i j E G pl (Array.replicate all.length false)
def Fk (P:Program) (all:List Oper) (C:World→Prop) (K:Fr→World→Prop) (i j:Nat) (G H:List (Nat×Bool)) (f:Fr) (w:World):Prop :=
 (Z8 all f (Q3 all i)=true∧XO P (Q3 all i) f w λE w'=>C w'∧XP P all C K G E w') ∧
 (Z8 all f (Q3 all j)=true∧XO P (Q3 all j) f w λE w'=>C w'∧XP P all C K H E w')
theorem Kd {i j:Nat}{G S:List (Nat×Bool)}(hl:G.length=S.length) (hs:Region.noSelect all.toArray=true):∀(pl:List (Nat×Bool)) (ls:Array Bool) (f:Fr) (w:World),ls.size=all.length→C w→Ui all.toArray i j G S pl ls=true →
  XP P all C (Fk P all C K i j G S) pl f w→XA P all C K (pl.length+(1+G.length)) ls f w
 | [],ls,f,w,V,hC,hp,h=>by
  simp only[Ui,Bool.and_eq_true,beq_iff_eq] at hp;obtain ⟨⟨H,h1⟩,h2⟩:=hp;simp only[XP] at h;rw[List.length_nil,LR,MO];refine X4 (λh0=>(by rw[h0] at H;cases H)) ?_;rw[H];intro k hk o E;have I:(ls.setIfInBounds k true).size=all.length:=by simpa using V
  simp only[List.mem_cons,List.not_mem_nil,or_false] at hk;rcases hk with rfl | rfl
  ·have:=h.1;rw[Zl E] at this;rw[this.1,cond_true];exact this.2.mono λv w' hx=>⟨.inr (.inr hx.1),ZA hs G _ _ _ I (.inl hx.1) h1 hx.2⟩
  have:=h.2;rw[Zl E] at this;rw[this.1,cond_true,hl];exact this.2.mono λv w' hx=>⟨.inr (.inr hx.1),ZA hs S _ _ _ I (.inl hx.1) h2 hx.2⟩
 | (J,q)::pl,ls,f,w,V,hC,hp,h=>by
  simp only[Ui,Bool.and_eq_true] at hp;obtain ⟨⟨⟨rfl,H⟩,hf⟩,ha⟩:=hp;simp only[XP] at h;have Y:J∈Region.ready .any all.toArray ls:=by simpa using H
  have e:(List.length ((J,true)::pl))+(1+G.length)=(pl.length+(1+G.length))+1:=by simp;omega
  rw[e];cases E:all[J]? with
  | none =>
   exfalso;obtain ⟨_,o,he,_⟩:=mem_ready.1 Y;simp[E] at he
  | some o =>
   rw[Zl E] at h;have hb:∀(j:Nat) (o:Oper) cs b,all[j]?=some o→o.op≠.select cs b:=λj o cs b hj=>Region.noSelect_spec hs j o cs b (by simpa using hj);have hc:=λj oj hj=>Region.free_spec (ops:=all.toArray) (md:=.any) (i:=J) (oi:=o) (listed:=ls) (by simpa using E) hf j oj (by simpa using hj);have I:(ls.setIfInBounds J true).size=all.length:=by simpa using V
   cases T:Z8 all f o with
   | false =>
    rw[T] at h;exact YN (v:=undef) (D:=λw=>UL o=true→C w) E (λ_ h=>h) hb _ ls f w (λ_=>hC) hc Y (.inr ⟨T,O⟩) (Kd hl hs pl _ _ _ I hC ha h)
   | true =>
    rw[T] at h;simp only[cond_true] at h;obtain ⟨v,hv,hx⟩:=h;exact YN (v:=v) (D:=λw=>UL o=true→C w) E (λ_ h=>h) hb _ ls f w (λ_=>hC) hc Y (.inl ⟨T,hv⟩) (Kd hl hs pl _ _ _ I hC ha hx)
theorem Qg3 {Q:Exit→Fr→World→Prop}{id:Nat}(C:World→Prop) (pl:List (Nat×Bool)) (i j:Nat) (E G:List (Nat×Bool)) (hm:P.follows .mixedOrders=true) (H:Xu n all=true) (hp:Qeb all pl i j E G=true)
  (hC:C { w with drawn:=w.drawn+1 }) (h:XP P all C (Fk P all C (λf w=>Q .normal f w) i j E G) pl f { w with drawn:=w.drawn+1 }):W P n (.region id all.toArray true) Q f w:=by
 simp only[Qeb,Bool.and_eq_true,beq_iff_eq] at hp;obtain ⟨⟨⟨hs,hl⟩,I⟩,hp⟩:=hp;refine Ke C hm H ?_;have h1:=Kd I hs pl _ _ _ (by simp) hC hp h;rw[←Nat.add_assoc,hl] at h1;exact h1
end
end Go.Lg
namespace Go.Proofs.YtdffckgdcegpaaaGreatDoor
open Go.Lg
end Go.Proofs.YtdffckgdcegpaaaGreatDoor
namespace Go.Lg
open Go.Proofs.YtdffckgdcegpaaaGreatDoor
theorem Zn {l:LI}{i:Nat}(h:i<l.length):l[i]=cget l i:=by simp[cget,List.getD,h]
section
variable {P:Program} {ops l:List Oper} {K:Fr→World→Prop} {f:Fr} {w:World} {d:Option Nat} {ty:Nat} {ps:String} {af:Array Edge} {gd:Option (Nat×Bool)} {C:World→Prop} {pl:List (Nat×Bool)} {i0:Nat}
theorem xic {x y:Operand}{t e bys:Nat}{z:Value}[Sl P t e 1 bys z] {L:LN}{li:LI}{v:Value}{k:IntKind}{i:Nat}
  (h:QK L w.heap v li) (E:ev f x=v) (hy:ev f y=.int k i) (hi:i<li.length)
  (G:∀a,At L w.heap a [.int .i64 (cget li i)]→XL P ops K l (QR f d (.pointer (some a))) w) (H:Z8 ops f ⟨d,.indexAddr t x y,ty,ps,af,gd⟩=true:=by rfl) :
  XL P ops K (⟨d,.indexAddr t x y,ty,ps,af,gd⟩::l) f w :=
 xii h E hy hi (λa ha=>G a (by rw[←Zn hi];exact ha)) H
theorem pic {x y:Operand}{t e bys:Nat}{z:Value}[Sl P t e 1 bys z] {L:LN}{li:LI}{v:Value}{H:Array Obj}{k:IntKind}{i:Nat}
  (E:Q3 ops i0=⟨d,.indexAddr t x y,ty,ps,af,gd⟩) (h:QK L H v li) (G:ev f x=v) (hy:ev f y=.int k i) (hi:i<li.length)
  (I:∀a,At L H a [.int .i64 (cget li i)]→XP P ops C K pl (QR f d (.pointer (some a))) w) (J:Z8 ops f (Q3 ops i0)=true:=by rfl):XP P ops C K ((i0,true)::pl) f w :=
 pii E h G hy hi (λa ha=>I a (by rw[←Zn hi];exact ha)) J
end
theorem Qda {a n:Nat}(h:a<n):List.range' a (n - a)=a::List.range' (a+1) (n - (a+1)):=by
 rw[show n - a=(n - (a+1))+1 by omega,MX]
theorem QfO {a n:Nat}(h:n≤a):List.range' a (n - a)=[]:=by rw[show n - a=0 by omega];rfl
end Go.Lg
namespace Go.Proofs.YtdffckgdcegpaaaGreatDoor
open Go.Lg
end Go.Proofs.YtdffckgdcegpaaaGreatDoor
namespace Go.Lg
section
variable {P:Program} {f:Fr} {w:World} {d:Option Nat} {ty:Nat} {ps:String} {af:Array Edge} {gd:Option (Nat×Bool)} {κ:Type} [DecidableEq κ]
end
end Go.Lg
namespace Go.Proofs.YtdffckgdcegpaaaGreatDoor
open Go.Lg
theorem Qao {aa:List QP}{i:Nat}{t:LI}(G:∀a∈aa,Zi a) (H:Vt aa t):∀(vs:LI) (s E:Sy),Vn aa s→VT aa i t vs s=some E→Vn aa E
 | [],s,E,h,e=>by cases e;exact h
 | v::vs,s,E,h,e=>by
  rw[VT] at e;obtain ⟨I,h1,h2⟩:=Mv.1 e;exact Qao G H vs I E (QcR G h H h1) h2
theorem QcN {aa:List QP}(G:∀a∈aa,Zi a):∀(f i:Nat) (s E:Sy),Vn aa s→syL aa f i s=some E→Vn aa E
 | 0,i,s,E,h,e=>by cases e;exact h
 | f+1,i,s,E,h,e=>by
  rw[syL] at e;split at e
  ·rename_i hi;obtain ⟨H,h1,h2⟩:=Mv.1 e;have I:Vt aa (U3 s i):=h.v _ (by unfold U3;simp[List.getD,hi]);exact QcN G f _ H E (Qao G I _ _ _ (U4 h) h1) h2
  cases e;exact h
theorem Qhy {aa:List QP}(G:∀a∈aa,Zi a) (hz:¬∃a∈aa,a.st=0):Vn aa (U6 aa):=by
 refine ⟨λt E=>?_,by simp[U6]⟩;simp only[U6,List.mem_singleton] at E;subst E;refine ⟨by simp,λi h1 h2=>?_⟩;have h3:=(G aa[i] (Lc h2)).st0;have H:aa[i].st≠0:=λe=>hz ⟨aa[i],Lc h2,e⟩;simp only[List.getElem_replicate];omega
theorem VK {aa:List QP}(E:∀a∈aa,Zi a) {z:QP×List (LI)}(h:sync aa=some z):(∀t∈z.2,Vt aa t)∧z.2.length≤4096:=by
 unfold sync at h;split at h
 ·cases h;simp
 rename_i hz;obtain ⟨s,h1,rfl⟩:=MI.1 h;have:=QcN E _ _ _ _ (Qhy E hz) h1;exact ⟨this.v,this.le⟩
def opC (p s:QP):Int:=if X2 p≠0 then X2 p else if X2 s≠0 then X2 s else if mrg (λp q=>p && !q) s.al p.al=[] then 0 else 9
def opE (p s:QP):Int:=if opC p s≠0 then opC p s else match sync [p,s] with | none=>3 | some _=>0
def opQ (p s:QP):List (LI):=match sync [p,s] with | none=>[] | some z=>z.2
def Qji (l:LI):Int:=(l.drop 1).foldl max (cget l 0)
theorem XW {N b:Nat}{w w':World}{v:Value}{a:QP}(h:YY N w.heap v a) (hb:b<N) (hs:Step [b] w w'):YY N w'.heap v a:=by
 obtain ⟨va,vm,ve,h1,h2⟩:=h;refine ⟨va,vm,ve,h1,λL E=>?_⟩;exact ((h2 (b::L) (λc hc=>by rcases Lb.1 hc with rfl | hc;exact hb;exact E c hc)).st (hs.mono (by simp))).up (λc hc=>.inl (Lm _ hc))
theorem QeY {N b:Nat}{w w':World}{v:Value}{l:List (LI)}(h:y9 N w.heap v l) (hb:b<N) (hs:Step [b] w w'):y9 N w'.heap v l:=by
 obtain ⟨ps,h1,h2⟩:=h;refine ⟨ps,h1,λL E=>?_⟩;exact ((h2 (b::L) (λc hc=>by rcases Lb.1 hc with rfl | hc;exact hb;exact E c hc)).st (hs.mono (by simp))).up (λc hc=>.inl (Lm _ hc))
theorem X8 {N:Nat}{H:Array Obj}{v:Value}{a:QP}(h:YY N H v a):∃us,v=.agg us.toArray∧us.length=4∧ZO us:=by
 obtain ⟨va,vm,ve,h1,h2⟩:=h;have:=h2 [] (by simp);exact ⟨[va,.int .i64 a.st,vm,ve],h1,O,this.al.one,O,this.mr.one,this.ed.one,U⟩
open Go.Proofs.Tryz
theorem zJ {L:LN}{w:World}{va vm ve:Value}{a:QP}(h:Zu L w.heap va vm ve a) :
  QI prog 123 [.agg #[va,.int .i64 a.st,vm,ve]] w λr w'=>Step [] w w'∧∃v,r=.tuple #[v,.int .i64 (X2 a)]∧(X2 a≠0→v=zA)∧(X2 a=0→YY w.heap.size w'.heap v (YV a)):=by
 refine QI.of_W func123 O ntmps123 results123 (by simp) ?_;refine Qc<|xl O<|QQ (us:=[va,.int .i64 a.st,vm,ve]) O λb1 w1 T hl V=>xl O<|Qt (us:=[nS,.int .i64 0,nS,nS]) O λb2 w2 G hm H=>Qe ?_;have I:=T.trans G;refine Qg<|Qc<|x (Qr (V.ext G) O O)<|xl O<|xf<|(Xb (h.ext I)).mono ?_;rintro r3 w3 ⟨rfl,E⟩;refine Qe ?_;have hn:=T.size;refine Qc<|Qb<|x (Q9 O O)<|xe ?_
 refine Q7 rfl (λJ=>?_) (λJ=>?_)
 ·refine Qc<|x (QE U)<|Qb<|xl O<|Qp (us:=[nS,.int .i64 0,nS,nS]) (H.ext E) O O O O ⟨O,O,O,O,U⟩ λw4 hf hg=>Qe ?_;exact Qm ⟨[zA,.int .i64 (X2 a)],⟨⟨_,O,Qx O (hg.at (L:=[]) (by simp)).cells⟩,rfl,U⟩,(I.trans E).then1 hf (by omega),zA,rfl,λ_=>rfl,λe=>absurd e J⟩
 have hc:X2 a=0:=Lq.1 J;have hh:=(ZS a).1 hc;have ho:=H.lt;have S:=I.trans E;refine Qi<|Qc<|x (Qr ((V.ext G).ext E) O O)<|xl O<|xf<|(X3 (h.ext S) hh).mono ?_;rintro v w5 ⟨Y,hF⟩;obtain ⟨us,ha,hb,hi⟩:=X8 hF;have hp:=E.size;have hj:=S.size;refine xl rfl<|Qp (us:=us) ((H.ext E).ext Y) O ha hb O hi λw6 he hk =>
  Qe<|Qm ⟨[.agg us.toArray,.int .i64 0],⟨⟨_,O,Qx hb (hk.at (L:=[]) (by simp)).cells⟩,rfl,U⟩,(S.trans Y).then1 he (by omega),v,by rw[hc,ha];rfl,λe=>absurd hc e,λ_=>?_⟩
 exact (XW hF (by omega) he).mono hj
def gget:List ((Int×Int)×Int)→Int×Int→Option Int
 | [],_=>none
 | (k',v)::m,k=>if k'=k then some v else gget m k
def gput:List ((Int×Int)×Int)→Int×Int→Int→List ((Int×Int)×Int)
 | [],k,v=>[(k,v)]
 | (k',v')::m,k,v=>if k'=k then (k',v)::m else (k',v')::gput m k v
def Qj4 (s:QP) (cls:LI) (x:Nat) (m:List ((Int×Int)×Int)) (v:Int):List ((Int×Int)×Int):=gput m (cget cls x,v) (cget cls (to0 s x v).toNat)
def Qj1 (s:QP) (l:List Kk) (cls:LI) (z:LI×List ((Int×Int)×Int)) (x:Nat):LI×List ((Int×Int)×Int) :=
 if cget cls x<0 then z else (if ((lget l x).mk' && (lget l x).ps)=true then Qhv z.1 (cget cls x) else z.1,(lget l x).en.foldl (Qj4 s cls x) z.2)
def Qjc (s:QP) (l:List Kk) (cls:LI):LI×List ((Int×Int)×Int):=(List.range' 0 cls.length).foldl (Qj1 s l cls) ([],[])
def Qj3 (m:List ((Int×Int)×Int)) (c:Nat) (v:Int):Option Ed:=(gget m ((c:Int),v)).map λt=>((c:Int),v,t)
def Qj2 (m:List ((Int×Int)×Int)) (al:LI) (n:Nat):List Ed:=(List.range' 0 n).flatMap λc=>al.filterMap (Qj3 m c)
def Qj5 (s:QP) (l:List Kk) (cls:LI):QP:=⟨s.al,Qji cls+1,(Qjc s l cls).1,Qj2 (Qjc s l cls).2 s.al (Qji cls+1).toNat⟩
def red (p s:QP):QP:=Qj5 s (ctls p s (opQ p s)) (QjC p s (opQ p s))
def rdE (p s:QP):Int:=if opE p s≠0 then opE p s else if opQ p s=[] then 0 else X2 (red p s)
theorem Jv {l:LI}{i:Nat}(h:i<l.length):cget l i∈l:=by rw[←Zn h];exact Lc h
theorem Zh {α:Type}(a:α) {Q:Prop}(h:∀b,a=b→Q):Q:=h a O
theorem qM {N:Nat}{H:Array Obj}{a:QP}{I J S n1 E G:Nat}(h1:Q4 H I 3 (a.al.map (.int .i64))) (h2:Q4 H J 3 (a.mr.map (.int .i64))) (h3:Q4 H S 144 (a.ed.flatMap Qw)) (g1:N≤I) (g2:N≤J) (g3:N≤S)
  (V:a.al.length=n1) (l2:a.mr.length=E) (Y:a.ed.length=G) (m1:n1≤1000) (m2:E≤1000) (m3:G≤1000) :
  YY N H (.agg #[.slice (some ⟨I,0,none⟩) n1 n1,.int .i64 a.st,.slice (some ⟨J,0,none⟩) E E,.slice (some ⟨S,0,none⟩) G G]) a:=by
 subst V l2 Y;refine ⟨_,_,_,O,λL T=>⟨?_,?_,?_⟩⟩
 ·exact h1.arr (λhb=>by have:=T _ hb;omega) (by simp) (by omega) (Lr _)
 ·exact h2.arr (λhb=>by have:=T _ hb;omega) (by simp) (by omega) (Lr _)
 exact h3.arr (λhb=>by have:=T _ hb;omega) (by rw[Y9 _ 3 Xt]) (by omega) (Lr _)
end Go.Proofs.YtdffckgdcegpaaaGreatDoor
namespace Go.Lg
section
variable {P:Program} {n:Nat} {f:Fr} {w:World} {d:Option Nat} {ty:Nat} {ps:String} {af:Array Edge} {gd:Option (Nat×Bool)}
theorem QfH (m i:Nat):((m:Int) / 2 ^ i)=((m / 2 ^ i:Nat):Int):=by rw[Int.natCast_ediv,Int.natCast_pow];rfl
end
def JC (all:Array Oper):List (Nat×Bool)→Array Bool→Bool
 | [],_=>true
 | (k,q)::pl,ls=>q && (Region.ready .any all ls).contains k && Region.free .any all ls k && JC all pl (ls.setIfInBounds k true)
def ZW:List (Nat×Bool)→Array Bool→Array Bool
 | [],ls=>ls
 | (k,_)::pl,ls=>ZW pl (ls.setIfInBounds k true)
section
variable {P:Program} {n:Nat} {f:Fr} {w:World} {all:List Oper} {C:World→Prop} {K B:Fr→World→Prop}
theorem Yy:∀(pl:List (Nat×Bool)) (ls:Array Bool),(ZW pl ls).size=ls.size
 | [],_=>rfl
 | (k,q)::pl,ls=>by rw[ZW,Yy];simp
theorem Yw {m:Nat}(hs:Region.noSelect all.toArray=true):∀(pl:List (Nat×Bool)) (ls:Array Bool) (f:Fr) (w:World),C w→JC all.toArray pl ls=true →
  (∀f,B f w→XA P all C K m (ZW pl ls) f w)→XP P all C B pl f w→XA P all C K (pl.length+m) ls f w
 | [],ls,f,w,hC,hp,G,h=>by
  simp only[XP] at h;rw[List.length_nil,LR];exact G f h
 | (H,q)::pl,ls,f,w,hC,hp,G,h=>by
  simp only[JC,Bool.and_eq_true] at hp;obtain ⟨⟨⟨rfl,hr⟩,hf⟩,T⟩:=hp;simp only[XP] at h;have J:H∈Region.ready .any all.toArray ls:=by simpa using hr
  have e:(List.length ((H,true)::pl))+m=(pl.length+m)+1:=by simp;omega
  rw[e];cases E:all[H]? with
  | none =>
   exfalso;obtain ⟨_,o,ha,_⟩:=mem_ready.1 J;simp[E] at ha
  | some o =>
   rw[Zl E] at h;have V:∀(j:Nat) (o:Oper) cs b,all[j]?=some o→o.op≠.select cs b:=λj o cs b S=>Region.noSelect_spec hs j o cs b (by simpa using S);have Y:=λj oj S=>Region.free_spec (ops:=all.toArray) (md:=.any) (i:=H) (oi:=o) (listed:=ls) (by simpa using E) hf j oj (by simpa using S);cases I:Z8 all f o with
   | false =>
    rw[I] at h;exact YN (v:=undef) (D:=λw=>UL o=true→C w) E (λ_ h=>h) V _ ls f w (λ_=>hC) Y J (.inr ⟨I,O⟩) (Yw hs pl _ _ _ hC T G h)
   | true =>
    rw[I] at h;simp only[cond_true] at h;obtain ⟨v,hv,hx⟩:=h;exact YN (v:=v) (D:=λw=>UL o=true→C w) E (λ_ h=>h) V _ ls f w (λ_=>hC) Y J (.inl ⟨I,hv⟩) (Yw hs pl _ _ _ hC T G hx)
end
end Go.Lg
namespace Go.Proofs.YtdffckgdcegpaaaGreatDoor
open Go.Lg
theorem YX.lt_of {a:Int}{l:LI}(h:YX (a::l)) {x:Int}(hx:x∈l):a<x:=(LF.1 h).1 x hx
theorem YX.tail {a:Int}{l:LI}(h:YX (a::l)):YX l:=(LF.1 h).2
theorem Qf4 (keep:Bool→Bool→Bool):∀(n:Nat) (a b:LI),a.length+b.length≤n→YX a→YX b→∀x,x∈mrg keep a b↔(x∈a∨x∈b)∧keep (decide (x∈a)) (decide (x∈b))=true:=by
 intro n;induction n with
 | zero =>
  intro a b h _ _ x;have ha:a=[]:=Ln (by omega);have hb:b=[]:=Ln (by omega);subst ha hb;simp[X1]
 | succ n ih =>
  intro a b E ia ib x;cases a with
  | nil =>
   cases b with
   | nil=>simp[X1]
   | cons y b =>
    rw[XJ keep (by simp)];have:=ih [] b (by simp at E ⊢;omega) ia ib.tail x;have hy:y∉b:=λh=>by have:=ib.lt_of h;omega
    simp only[YT,tl,hx,cond_true,cond_false,List.tail_cons,List.headD_cons,List.mem_append];rw[this];by_cases e:x=y
    ·subst e;cases hk:keep false true <;> simp[hk,hy]
    cases keep false true <;> simp[e]
  | cons u a =>
   cases b with
   | nil =>
    rw[XJ keep (by simp)];have:=ih a [] (by simp at E ⊢;omega) ia.tail ib x;have hy:u∉a:=λh=>by have:=ia.lt_of h;omega
    simp only[YT,tl,hx,cond_true,cond_false,List.tail_cons,List.headD_cons,List.mem_append];rw[this];by_cases e:x=u
    ·subst e;cases hk:keep true false <;> simp[hk,hy]
    cases keep true false <;> simp[e]
   | cons y b =>
    rw[XJ keep (by simp)];have hu:u∉a:=λh=>by have:=ia.lt_of h;omega
    have hy:y∉b:=λh=>by have:=ib.lt_of h;omega
    rcases Int.lt_trichotomy u y with h1 | h1 | h1
    ·have G:u∉y::b:=λh=>by
      rcases Lb.1 h with h | h
      ·omega
      have:=ib.lt_of h;omega
     have:=ih a (y::b) (by simp at E ⊢;omega) ia.tail ib x;have e1:decide (u≤y)=true:=decide_eq_true (by omega);have e2:decide (y≤u)=false:=decide_eq_false (by omega);simp only[YT,tl,hx,e1,e2,cond_true,cond_false,List.tail_cons,List.headD_cons,List.mem_append];rw[this];by_cases e:x=u
     ·subst e;cases hk:keep true false <;> simp[hk,hu,G]
     cases keep true false <;> simp[e]
    ·subst h1;have:=ih a b (by simp at E ⊢;omega) ia.tail ib.tail x;have e1:decide (u≤u)=true:=decide_eq_true (by omega);simp only[YT,tl,hx,e1,cond_true,List.tail_cons,List.headD_cons,List.mem_append];rw[this];by_cases e:x=u
     ·subst e;cases hk:keep true true <;> simp[hk,hu,hy]
     cases keep true true <;> simp[e]
    have G:y∉u::a:=λh=>by
     rcases Lb.1 h with h | h
     ·omega
     have:=ia.lt_of h;omega
    have:=ih (u::a) b (by simp at E ⊢;omega) ia ib.tail x;have e1:decide (u≤y)=false:=decide_eq_false (by omega);have e2:decide (y≤u)=true:=decide_eq_true (by omega);simp only[YT,tl,hx,e1,e2,cond_true,cond_false,List.tail_cons,List.headD_cons,List.mem_append];rw[this];by_cases e:x=y
    ·subst e;cases hk:keep false true <;> simp[hk,hy,G]
    cases keep false true <;> simp[e]
theorem QaK {keep:Bool→Bool→Bool}{a b:LI}(ia:YX a) (ib:YX b) (x:Int):x∈mrg keep a b↔(x∈a∨x∈b)∧keep (decide (x∈a)) (decide (x∈b))=true :=
 Qf4 keep _ a b (Lr _) ia ib x
def setK (m k:Nat):LI:=((List.range' 0 k).filter λi=>decide (((m / 2 ^ i) &&& 1)=1)).map λi:Nat=>(i:Int)
theorem qf (m k:Nat):setK m (k+1)=if (m / 2 ^ k) &&& 1=1 then setK m k++[(k:Int)] else setK m k:=by
 unfold setK;rw[Mz,L9,Lt,LR];by_cases h:(m / 2 ^ k) &&& 1=1
 ·rw[if_pos h,Mc,if_pos (decide_eq_true h)];rfl
 rw[if_neg h,Mc,if_neg (by rw[decide_eq_false h];simp),MT,List.map_nil,LJ]
theorem Jl (m:Nat):∀k,(setK m k).length≤k
 | 0=>by simp[setK]
 | k+1=>by
  have:=Jl m k;rw[qf];split
  ·simp;omega
  omega
end Go.Proofs.YtdffckgdcegpaaaGreatDoor
namespace Go.Lg
section
variable {P:Program} {f:Fr} {w:World} {K:Fr→World→Prop} {d:Option Nat} {ty:Nat} {ps:String} {af:Array Edge} {gd:Option (Nat×Bool)}
theorem VD {t ty e sz bys:Nat}{z:Value}[h:Sl P t e sz bys z] {base:Nat}{v:Value}{n:Nat}{cs:LV}(E:w.ownsRow base e sz v n cs) :
  (Builtin.append_ #[t,t] ty #[v,nS]).run P w=.ok v w:=by
 obtain ⟨i,hi,_,H,_⟩:=Sl.info h;rcases E.2 with ⟨rfl,rfl⟩ | ⟨g,cap,cur,rfl,I,J,G,S,T,V⟩
 ·simp[Builtin.append_,run_underlying h.u,sizeOf,typeInfo,hi,Builtin.lenOf,Builtin.firstCells]
 simp[Builtin.append_,run_underlying h.u,sizeOf,typeInfo,hi,Builtin.lenOf,Builtin.firstCells,G,storeCells]
theorem jG {t e sz bys:Nat}{z:Value}[h:Sl P t e sz bys z] {s y:Operand}{base:Nat}{v:Value}{n:Nat}{cs:LV}(E:w.ownsRow base e sz v n cs) (hs:ev f s=v)
  {H:Value} {m:Nat} {news:LV} {L:LN} (G:Zq L w.heap H m sz news) (hy:ev f y=H) (h1:∀u∈news,u.oneCell'=true)
  (hb:n+m≤1099511627776) (J:base≤w.heap.size)
  (I:∀v' w',w'.ownsRow base e sz v' (n+m) (cs++news)→Step (ob v) w w'→(∀b∈ob v',b∈ob v∨w.heap.size≤b)→K (QR f d v') w') (S:bys≤128:=by decide) :
  XO P ⟨d,.call ⟨.builtin .append,#[s,y],#[t,t]⟩,ty,ps,af,gd⟩ f w K:=by
 rcases G.2.2 with ⟨e1,e2⟩ | ⟨a,c,e1,_,e3⟩
 ·subst e2;have T:news=[]:=Ln (by have:=G.1;simpa using this);subst T;have V:(execOp (ev f) ⟨d,.call ⟨.builtin .append,#[s,y],#[t,t]⟩,ty,ps,af,gd⟩).run P w=.ok (.value v) w:=by
   simp[execOp,resolve,invoke,builtin,hs,hy,e1,VD (ty:=ty) E]
  exact xv V (I v w (by simpa using E) (Step.refl _ _) (λb hb=>.inl hb))
 exact Q6 E hs (hy.trans e1) G.1 e3 h1 hb J I S
end
end Go.Lg
namespace Go.Proofs.YtdffckgdcegpaaaGreatDoor
open Go.Proofs.Tryz
open Go.Lg
theorem QaZ {L:LN}{w:World}{v:Value}{l:LI}(h:QK L w.heap v l) (x:Int) :
  QI prog 254 [v,.int .i64 x] w λr w'=>r=.bool (decide (x∈l))∧w'=w:=by
 have J:=h.le;refine QI.of_W func254 O ntmps254 results254 (by simp) ?_;refine Qc<|Lg.Qe<|Qg<|Qc<|Lg.Qe<|Qh<|QA (α:=Nat) [(4,17)] (λk=>[(5,.int .i64 k)]) (λk w'=>w'=w∧k≤l.length∧(x∈l↔x∈l.drop k)) (λk=>l.length - k) (by rfl) 0 Z ⟨O,Lj _,by simp⟩ ?_;rintro k g w' ⟨rfl,hk,hm⟩;refine Qg<|Qc<|Lg.Qb<|Lg.Qb<|Lg.x (Qs h O)<|Lg.x (QB O O)<|xe<|QH rfl (λh9=>?_) (λh9=>?_)
 ·refine Qy<|Qc<|Lg.Qe<|Qm ⟨[.bool false],Z,?_,O⟩;rw[Lp (by omega)] at hm;simp[tup,hm]
 have H:k<l.length:=by omega
 have hd:=QZ H;refine Qi<|Qg<|Qh<|Qc<|Lg.Qb<|Lg.Qb<|xii h O O H λS I=>Lg.x (Qv I O)<|Lg.Qb<|Lg.x (Q5 O O)<|xe<|Q7 rfl (λG=>?_) (λG=>?_)
 ·refine Qc<|Lg.Qe<|Qm ⟨[.bool true],Z,?_,O⟩;have:x∈l:=by rw[hm,hd,G];exact Ls
  simp[tup,this]
 refine Qi<|Qz<|Lg.Qb<|Lg.QN O O<|Lg.Qe<|⟨k+1,by omega,Z,O,by omega,?_⟩;rw[hm,hd,Lb];exact ⟨λh=>h.resolve_left (λe=>G e.symm),.inr⟩
theorem zV {L:LN}{w:World}{va vm ve:Value}{a:QP}(h:UJ L w.heap ve a.ed) (s e:Int) (st:Int) :
  QI prog 255 [.agg #[va,.int .i64 st,vm,ve],.int .i64 s,.int .i64 e] w λr w'=>r=.int .i64 (nxt a.ed s e)∧Step [] w w':=by
 have hf:=h.le;refine QI.of_W func255 O ntmps255 results255 (by simp) ?_;refine Qc<|xl O<|QQ (us:=[va,.int .i64 st,vm,ve]) O λb3 V J hg G=>Lg.Qe ?_
 replace h:=h.ext J;refine Qg<|Qc<|Lg.Qe<|Qh<|QA (α:=Nat) [(6,38)] (λk=>[(7,.int .i64 k)]) (λk w'=>w'=V∧k≤a.ed.length∧nxt (a.ed.drop k) s e=nxt a.ed s e) (λk=>a.ed.length - k) (by rfl) 0 Z ⟨O,Lj _,O⟩ ?_;rintro k g Y ⟨rfl,hk,H⟩;refine Qg<|Qc<|Lg.Qb<|Lg.x (Qa O)<|Lg.x (Qd G O O)<|Lg.x (Qs h O)<|Lg.x (QB O O)<|xe<|QH rfl (λha=>?_) (λha=>?_)
 ·refine Qy<|Qc<|Lg.Qe<|Qm ⟨[.int .i64 (-1)],Z,?_,J⟩;rw[Lp (by omega)] at H;rw[←H];rfl
 have I:k<a.ed.length:=by omega
 have hd:=QZ I;refine Qi<|Qg<|Qh<|Q0 (α:=Bool) [(15,32)] (λz=>[(32,.bool z)]) (λz w'=>w'=Y∧z=decide (a.ed[k].1=s∧a.ed[k].2.1=e)) (by rfl) ?_ ?_
 ·refine Qz<|Lg.x (Qa O)<|Lg.x (Qd G O O)<|Lg.Qb<|xie h O O I λhh hb=>Lg.x (Zb O)<|Lg.x (Qv (hb.fld 0 _ O) O) <|
   Lg.Qb<|xb (Q5 O O) (λS=>?_) (λS=>?_)
  ·refine Lg.Qb<|Lg.x (Qa O)<|Lg.x (Qd G O O)<|Lg.Qb<|xie h O O I λhi hc=>Lg.x (Zb O)<|Lg.x (Qv (hc.fld 1 _ O) O) <|
    Lg.Qb<|Lg.x (Q5 O O)<|Lg.x (Qj O)<|xe ?_
   exact ⟨_,Z,O,by simp[S]⟩
  refine Lg.Qb<|xs O<|xs O<|xs O<|xs O<|xs O<|xs O<|xs O<|xs O<|Lg.x (Qj O)<|xe ?_;exact ⟨_,Z,O,by simp[S]⟩
 rintro z g w3 ⟨rfl,rfl⟩;refine Q7 rfl (λT=>?_) (λT=>?_)
 ·refine Qc<|Lg.x (Qa O)<|Lg.x (Qd G O O)<|Lg.Qb<|xie h O O I λhj he=>Lg.x (Zb O)<|Lg.x (Qv (he.fld 2 _ O) O) <|
   Lg.Qe<|Qm ⟨[.int .i64 a.ed[k].2.2],Z,?_,J⟩
  rw[←H,hd,nxt,if_pos T];rfl
 refine Qi<|Qz<|Lg.Qb<|Lg.QN O O<|Lg.Qe<|⟨k+1,by omega,Z,O,by omega,?_⟩;rw[←H,hd,nxt,if_neg T]
def ixR (l:LI) (n:Int):Int:=if n∈l then (l.idxOf n:Int) else -1
theorem QdX {l:LI}{n:Int}{k:Nat}(h:n∉l.take k) (hk:k<l.length) (he:cget l k=n):ixR l n=k:=by
 have hm:n∈l:=by rw[←he,←Zn hk];exact Lc hk
 unfold ixR;rw[if_pos hm];have hs:l=l.take k++l.drop k:=(Mu k l).symm;have:l.idxOf n=k:=by
  rw[hs,Ml,if_neg h,LH hk,List.idxOf_cons,show l[k]=n by rw[Zn hk];exact he];simp;omega
 rw[this]
theorem Qb2 {L:LN}{w:World}{v:Value}{l:LI}(h:QK L w.heap v l) (n:Int) :
  QI prog 256 [v,.int .i64 n] w λr w'=>r=.int .i64 (ixR l n)∧w'=w:=by
 have J:=h.le;refine QI.of_W func256 O ntmps256 results256 (by simp) ?_;refine Qc<|Qe<|Qg<|Qc<|Qe<|Qh<|QA (α:=Nat) [(4,18)] (λz=>[(5,.int .i64 z)]) (λz w'=>w'=w∧z≤l.length∧n∉l.take z) (λz=>l.length - z) (by rfl) 0 Z ⟨O,Lj _,by simp⟩ ?_;rintro k g S ⟨rfl,hk,hm⟩;refine Qg<|Qc<|Qb<|Qb<|x (Qs h O)<|x (QB O O)<|xe<|QH rfl (λh9=>?_) (λh9=>?_)
 ·refine Qy<|Qc<|Qe ?_;rw[Ll (by omega)] at hm;exact Qm ⟨[.int .i64 (-1)],Z,by unfold ixR;rw[if_neg hm];rfl,O⟩
 have G:k<l.length:=by omega
 refine Qi<|Qg<|Qh<|Qc<|Qb<|Qb<|xic (i:=k) h O O G λT I=>x (Qv I O)<|Qb<|x (Q5 O O)<|xe<|Q7 rfl (λH=>?_) (λH=>?_)
 ·refine Qc<|Qb<|Qe ?_;exact Qm ⟨[.int .i64 k],Z,by rw[QdX hm G H];rfl,O⟩
 refine Qi<|Qz<|Qb<|QN O O<|Qe<|⟨k+1,by omega,Z,O,G,?_⟩;rw[Le G,Zn G];simp only[List.mem_append,List.mem_singleton,not_or];exact ⟨hm,λe=>H e.symm⟩
theorem Qcb {L:LN}{w:World}{v:Value}{l:LI}(h:QK L w.heap v l) (hl:l.length≤1000000) :
  QI prog 200 [v] w λr w'=>Step [] w w'∧∃va,r=.agg #[va,.int .i64 0,nS,nS]∧Qu 3 w.heap.size w' va l:=by
 refine QI.of_W func200 O ntmps200 results200 (by simp) ?_;refine Qc<|xl O<|Qt (us:=[nS,.int .i64 0,nS,nS]) O λb2 G T he V=>xe ?_;have hf:=T.size;have hg:=V.lt;refine Qc<|xl O<|J2 λb3 w2 H hh hi=>Qb<|?_;have Y:=T.trans H;have hp:=H.size;have I:w2.ownsRow G.heap.size 3 1 (.slice (some ⟨b3,0,none⟩) 0 0) 0 []:=hi.own (n:=0) (sz:=1) O (by omega) hh
 refine xl rfl<|jG I O (h.ext Y) O (Kz l) (by omega) (by omega) λva J hj ha hq=>?_;have S:Qu 3 G.heap.size J va l:=by
  have:J.ownsRow G.heap.size 3 1 va (0+l.length) ([]++l.map (.int .i64)):=hj;rw[LR,Mb] at this;exact this
 have hA:=Qu.ints (L:=[]) S (by omega) (by simp);have hk:=(V.ext H).step ha (QU I hg);have hm:Step [] w J:=Y.then ha (λb hb=>.inr (by have:=(Qn I b hb).1;omega));refine x (QE ⟨hA.cells,U⟩)<|xl O<|Qp (us:=[va,.int .i64 0,nS,nS]) hk O O O O ⟨hA.one,O,O,O,U⟩ λw4 hc hn=>xe ?_;have ho:=Qk S hc (λb hb=>by have:=(Qn S b hb).1;simp;omega)
 exact Qm ⟨[.agg #[va,.int .i64 0,nS,nS]],⟨⟨_,O,Qx O (hn.at (L:=[]) (by simp)).cells⟩,U⟩,hm.then1 hc he,va,rfl,Zk ho hf⟩
theorem pig:∀(n:Nat) (l:LI),l.Nodup→(∀x∈l,0≤x∧x<n)→l.length≤n
 | 0,l,_,h=>by
  cases l with
  | nil=>simp
  | cons a l=>have:=h a Ls;omega
 | n+1,l,hd,h=>by
  by_cases hm:(n:Int)∈l
  ·have h1:=pig n (l.erase (n:Int)) (hd.erase _) (λx hx=>by
    have h2:=(List.Nodup.mem_erase_iff hd).1 hx;have h3:=h x h2.2;have G:x≠(n:Int):=h2.1;omega)
   rw[List.length_erase_of_mem hm] at h1;omega
  have:=pig n l hd (λx hx=>by
   have h3:=h x hx;have G:x≠(n:Int):=λe=>hm (by rw[←e];exact hx);omega)
  omega
def jh (a:QP) (s:Int) (out:LI) (v:Int):LI:=if 0≤nxt a.ed s v∧nxt a.ed s v∉out then out++[nxt a.ed s v] else out
def fdR (a:QP) (out:LI) (s:Int):LI:=a.al.foldl (jh a s) out
def fdL (a:QP):Nat→Nat→LI→LI
 | 0,_,out=>out
 | f+1,i,out=>if i<out.length then fdL a f (i+1) (fdR a out (cget out i)) else out
def fd0 (a:QP):LI:=if 0<a.st then [0] else []
def found (a:QP):LI:=fdL a a.st.toNat 0 (fd0 a)
structure VI (a:QP) (out:LI):Prop where
 b:∀x∈out,0≤x∧x<a.st
 d:out.Nodup
theorem VI.len {a:QP}{out:LI}(h:VI a out) (G:0≤a.st):out.length≤a.st.toNat:=pig _ _ h.d (λx hx=>by have:=h.b x hx;omega)
theorem zg {G:List Ed}{s v:Int}(h:0≤nxt G s v):(s,v,nxt G s v)∈G:=by
 induction G with
 | nil=>simp[nxt] at h
 | cons e G ih =>
  rw[nxt] at h ⊢;split at h
  ·rename_i he;rw[if_pos he];obtain ⟨p,q,r⟩:=e;obtain ⟨h1,h2⟩:=he;simp only[] at h1 h2;subst h1 h2;exact Ls
  rename_i he;rw[if_neg he];exact Lm _ (ih h)
theorem Qem {a:QP}(G:Zi a) {out:LI}(h:VI a out) (s v:Int):VI a (jh a s out v):=by
 unfold jh;split
 ·rename_i hc;have hm:=G.ed _ (zg hc.1);refine ⟨λx hx=>?_,?_⟩
  ·rcases Li.1 hx with hx | hx
   ·exact h.b x hx
   simp only[List.mem_singleton] at hx;subst hx;exact ⟨hc.1,hm.2.2.2.2⟩
  rw[List.nodup_append];refine ⟨h.d,by simp,λx hx y hy=>?_⟩;simp only[List.mem_singleton] at hy;subst hy;exact λe=>hc.2 (by rw[←e];exact hx)
 exact h
theorem Qgz {a:QP}{out:LI}{s v:Int}:∀x∈out,x∈jh a s out v:=λx hx=>by unfold jh;split;exact LL _ hx;exact hx
theorem Qif {a:QP}{out:LI}{s v:Int}(h:0≤nxt a.ed s v):nxt a.ed s v∈jh a s out v:=by
 unfold jh;by_cases hm:nxt a.ed s v∈out
 ·rw[if_neg (λe=>e.2 hm)];exact hm
 rw[if_pos ⟨h,hm⟩];simp
theorem Qek {a:QP}(G:Zi a) (s:Int):∀(vs:LI) (out:LI),VI a out→VI a (vs.foldl (jh a s) out)
 | [],_,h=>h
 | v::vs,_,h=>Qek G s vs _ (Qem G h s v)
theorem Qa2 {a:QP}{s:Int}:∀(vs:LI) (out:LI),∀x∈out,x∈vs.foldl (jh a s) out
 | [],_,_,hx=>hx
 | _::vs,_,x,hx=>Qa2 vs _ x (Qgz x hx)
theorem Qel {a:QP}{s:Int}:∀(vs:LI) (out:LI),∀v∈vs,0≤nxt a.ed s v→nxt a.ed s v∈vs.foldl (jh a s) out
 | v::vs,out,u,hu,h=>by
  rcases Lb.1 hu with rfl | hu
  ·exact Qa2 vs _ _ (Qif h)
  exact Qel vs _ u hu h
theorem Qa3 {a:QP}{s:Int}:∀(vs:LI) (out:LI),∃r,vs.foldl (jh a s) out=out++r
 | [],out=>⟨[],by simp⟩
 | v::vs,out=>by
  obtain ⟨r,G⟩:=Qa3 (a:=a) (s:=s) vs (jh a s out v);rw[LO,G];unfold jh;split
  ·exact ⟨[nxt a.ed s v]++r,by simp⟩
  exact ⟨r,O⟩
theorem Uw {l r:LI}{i:Nat}(h:i<l.length):cget (l++r) i=cget l i:=by
 rw[←Zn h,←Zn (by simp;omega),L3 h]
def Cl (a:QP) (out:LI) (i:Nat):Prop:=∀j,j<i→j<out.length→∀v∈a.al,0≤nxt a.ed (cget out j) v→nxt a.ed (cget out j) v∈out
theorem Cl.next {a:QP}{out:LI}{i:Nat}(h:Cl a out i) (hi:i<out.length):Cl a (fdR a out (cget out i)) (i+1):=by
 intro j T V v H G;obtain ⟨r,S⟩:=Qa3 (a:=a) (s:=cget out i) a.al out;have I:fdR a out (cget out i)=out++r:=S;have J:j<out.length:=by omega
 rw[I,Uw J] at G ⊢;by_cases e:j=i
 ·subst e;have:=Qel a.al out v H G;rw[←I];exact this
 exact LL _ (h j (by omega) J v H G)
theorem Qei {a:QP}(G:Zi a):∀(f i:Nat) (out:LI),VI a out→Cl a out i→i+f=a.st.toNat→VI a (fdL a f i out)∧Cl a (fdL a f i out) (fdL a f i out).length
 | 0,i,out,h,hc,J=>by
  have:=h.len G.st0;exact ⟨h,λj I H=>hc j (by rw[fdL] at I;omega) H⟩
 | f+1,i,out,h,hc,J=>by
  rw[fdL];split
  ·rename_i hi;exact Qei G f (i+1) _ (Qek G _ _ _ h) (hc.next hi) (by omega)
  rename_i hi;exact ⟨h,λj I H=>hc j (by omega) H⟩
theorem Qen (a:QP):VI a (fd0 a):=by
 unfold fd0;split
 ·rename_i h;exact ⟨λx hx=>by simp only[List.mem_singleton] at hx;subst hx;exact ⟨by omega,h⟩,by simp⟩
 exact ⟨by simp,by simp⟩
theorem Qea {a:QP}(I:Zi a):VI a (found a)∧∀s∈found a,∀v∈a.al,0≤nxt a.ed s v→nxt a.ed s v∈found a:=by
 obtain ⟨h1,h2⟩:=Qei I a.st.toNat 0 (fd0 a) (Qen a) (λj G=>by omega) (by omega);refine ⟨h1,λs hs v J H=>?_⟩;obtain ⟨j,G,rfl⟩:=LD hs;have:=h2 j G G v J;unfold found at G H ⊢;rw[Zn G] at H ⊢;exact this H
def QeO (a:QP) (fd:LI) (i:Nat) (v:Int):Option Ed:=if 0≤nxt a.ed (cget fd i) v then some ((i:Int),v,ixR fd (nxt a.ed (cget fd i) v)) else none
def Vj (a:QP) (fd:LI) (n:Nat):LI:=((List.range' 0 n).filter λi=>decide (cget fd i∈a.mr)).map λi:Nat=>(i:Int)
def Uy (a:QP) (fd:LI) (n:Nat):List Ed:=(List.range' 0 n).flatMap λi=>a.al.filterMap (QeO a fd i)
def QiB (a:QP):QP:=⟨a.al,(found a).length,Vj a (found a) (found a).length,Uy a (found a) (found a).length⟩
theorem XY {β:Type}{r:Int→Int→Prop}{q:β→β→Prop}{g:Int→Option β}(G:∀x y u v,r x y→g x=some u→g y=some v→q u v):∀{l:LI},l.Pairwise r→(l.filterMap g).Pairwise q
 | [],_=>by simp
 | x::l,h=>by
  obtain ⟨h1,h2⟩:=LF.1 h;rw[Mh];split
  ·exact XY G h2
  rename_i u hu;refine LF.2 ⟨λv H=>?_,XY G h2⟩;obtain ⟨y,hy,I⟩:=MZ.1 H;exact G x y u v (h1 y hy) hu I
set_option maxHeartbeats 1000000 in
theorem Qb5 {L:LN}{w:World}{va vm ve:Value}{a:QP}(h:Zu L w.heap va vm ve a) (ho:Zi a) :
  QI prog 253 [.agg #[va,.int .i64 a.st,vm,ve]] w λr w'=>Step [] w w'∧Qu 3 w.heap.size w' r (found a):=by
 have h0:=ho.st0;have h1:=ho.st1;have hU:=ho.al_le;refine QI.of_W func253 O ntmps253 results253 (by simp) ?_;refine Qc<|xl O<|QQ (us:=[va,.int .i64 a.st,vm,ve]) O λb1 S he hV hj=>Qe<|Qc<|Qe ?_;have hA:=he.size;have hW:=hj.lt;refine Q0 (α:=Value) [(3,3),(7,12)] (λz=>[(3,z)]) (λz w'=>Step [] S w'∧Qu 3 S.heap.size w' z (fd0 a)) (by rfl) ?_ ?_
 ·refine Qc<|x (Qa O)<|x (Qd hj O O)<|x (Zx O O)<|xe<|QH O (λh9=>?_) (λh9=>?_)
  ·refine Qi ?_;exact ⟨nS,Z,Step.refl _ _,by unfold fd0;rw[if_neg h9];exact QM _ _ _ _⟩
  refine Qz<|Qb<|xl O<|QD (us:=[[.int .i64 0]]) O O (by decide) (by simp) ⟨rfl,rfl,U⟩ λhX w2 hw hY hB=>?_;have hn:w2.ownsRow S.heap.size 3 1 (nS) 0 []:=QM _ _ _ _;have hZ:=hw.size;refine xl O<|Q6 (news:=[.int .i64 0]) (L:=[]) hn O O O (hB.at (by simp)) (by simp[Value.oneCell']) (by omega) (by omega) λv3 w3 hC hD ga =>
   Qe<|⟨v3,Z,hw.then hD (λb hb=>by simp[ob] at hb),?_⟩
  unfold fd0;rw[if_pos h9];exact hC
 rintro v0 g4 w4 ⟨hl,hE⟩;have gb:=he.trans hl;have gc:=hl.size;refine Zh (found a) λT hT=>?_;have hF:fdL a a.st.toNat 0 (fd0 a)=T:=hT;refine Qg<|Qc<|Qe<|Qh<|QA (α:=Nat×LI×Value) [(3,6),(13,48)] (λz=>[(3,z.2.2),(4,.int .i64 z.1)])
  (λz w'=>Step [] S w'∧Qu 3 S.heap.size w' z.2.2 z.2.1∧VI a z.2.1∧z.1≤z.2.1.length∧fdL a (a.st.toNat - z.1) z.1 z.2.1=T) (λz=>a.st.toNat - z.1) (by rfl) (0,fd0 a,v0) ⟨O,O,U⟩
  ⟨hl,hE,Qen a,Lj _,hF⟩ ?_
 rintro ⟨i,out,v⟩ g5 w5 ⟨hm,V,G,hi,Y⟩;simp only[] at V G hi Y;have hy:=G.len h0;have hz:=Qu.ints (L:=[]) V (by omega) (by simp);refine Qg<|Qc<|Qb<|Qb<|x (Qs hz O)<|x (QB O O)<|xe<|QH rfl (λh2=>?_) (λh2=>?_)
 ·have e:out=T:=by
   rw[←Y];generalize a.st.toNat - i=f;cases f with
   | zero=>rfl
   | succ f=>rw[fdL,if_neg (by omega)]
  refine Qy<|Qc<|Qb<|Qe ?_;rw[e] at V;exact Qm ⟨[v],Z,he.trans hm,by rw[hT];exact Zk V hA⟩
 have I:i<out.length:=by omega
 have hG:a.st.toNat - i=(a.st.toNat - (i+1))+1:=by omega
 rw[hG,fdL,if_pos I] at Y;refine Zh (cget out i) λs J=>?_;rw[J] at Y;refine Zh (fdR a out s) λR hR=>?_;rw[hR] at Y;unfold fdR at hR;refine Qi<|Qg<|Qh<|Qc<|Qe<|Qh<|QA (α:=Nat×LI×Value) [(3,3),(5,6),(19,48)] (λz=>[(3,z.2.2),(5,.int .i64 z.1)])
  (λz w'=>Step [] S w'∧Qu 3 S.heap.size w' z.2.2 z.2.1∧VI a z.2.1∧z.1≤a.al.length∧i<z.2.1.length∧cget z.2.1 i=s∧(a.al.drop z.1).foldl (jh a s) z.2.1=R) (λz=>a.al.length - z.1) (by rfl) (0,out,v) ⟨O,O,U⟩
  ⟨hm,V,G,Lj _,I,J,hR⟩ ?_
 clear hm V G hi hy hz I J hR h2;rintro ⟨k,out,v⟩ g6 w6 ⟨ha,hf,G,hk,I,J,H⟩;simp only[] at hf G hk I J H;have hy:=G.len h0;have h3:=(h.al.ext he).ext ha;have hp:=hj.ext ha;have h4:=Qu.ints (L:=[]) hf (by omega) (by simp);refine Qg<|Qc<|Qb<|x (Qa O)<|x (Qd hp O O)<|x (Qs h3 O)<|x (QB O O)<|xe<|QH rfl (λhH=>?_) (λhH=>?_)
 ·refine Qy<|Qz<|Qb<|QN O O<|Qe ?_;rw[Lp (by omega)] at H;have hI:out=R:=H;exact ⟨(i+1,out,v),by simp only[];omega,⟨O,O,U⟩,ha,hf,G,I,by simp only[];rw[hI];exact Y⟩
 have hg:k<a.al.length:=by omega
 rw[LH hg,LO,Zn hg] at H;refine Zh (cget a.al k) λu hu=>?_;rw[hu] at H;have hJ:=(h.ed.ext he).ext ha;refine Zh (nxt a.ed s u) λt ht=>?_;have hK:jh a s out u=if 0≤t∧t∉out then out++[t] else out:=by unfold jh;rw[ht]
 have hq:=Qem ho G s u;rw[hK] at H hq;refine Qi<|Qg<|Qh<|Qg<|QW (Step [] w6) [(0,true),(1,true),(2,true),(3,true),(4,true),(5,true),(6,true),(7,true),(8,true),(9,true),(10,false),(11,true)] mixed (by rfl) (by kernel_rfl) (Step.drew _ _) ?_;refine pq (λ_ hc=>Qr (hp.ext hc) O O)<|p (λ_=>Qo)<|p (λ_=>Qo)<|pic (i:=i) O h4 O O I λge h5=>?_;rw[J] at h5
 refine pq (λ_ hc=>Qv (h5.ext hc) O)<|p (λ_=>Qa O)<|pq (λ_ hc=>Qd (hp.ext hc) O O)<|p (λ_=>Qo) <|
  pic (i:=k) O h3 O O hg λgg h6=>?_
 rw[hu] at h6;have hsr:=zV (va:=va) (vm:=vm) (a:=a) (hJ.ext (Step.drew [] w6)) s u a.st;rw[ht] at hsr;refine pq (λ_ hc=>Qv (h6.ext hc) O)<|pk<|xf<|hsr.mono ?_;rintro r7 w7 ⟨rfl,hL⟩;have hh:=(Step.drew [] w6).trans hL;refine ⟨hh,p (λ_=>Qf)<|pe ?_⟩;have h7:=Qq hf hh;have hM:=h4.ext hh
 refine Q0 (α:=Unit) [(37,44)] (λz=>[(44,.bool (decide (0≤t∧t∉out)))]) (λz w'=>w'=w7) (by rfl) ?_ ?_
 ·refine Qz<|Qb<|xb (ZX O O) (λhr=>?_) (λhr=>?_)
  ·refine Qb<|Qb<|Qb<|xl O<|xf<|(QaZ hM t).mono ?_;rintro r8 w8 ⟨rfl,rfl⟩;refine x (Zs O)<|x (Qj O)<|xe<|⟨(),⟨congrArg Value.bool ?_,U⟩,O⟩;show (!decide (t∈out))=_;rw[Bool.eq_iff_iff];simp[hr]
  refine Qb<|xs O<|xs O<|xs O<|xs O<|x (Qj O)<|xe ?_;exact ⟨(),⟨congrArg Value.bool (decide_eq_false (λe=>hr e.1)).symm,U⟩,O⟩
 rintro _ g9 w9 rfl;refine QH rfl (λhs=>?_) (λhs=>?_)
 ·rw[if_neg hs] at H;refine Qi<|Qz<|Qb<|QN O O<|Qe ?_;exact ⟨(k+1,out,v),by simp only[];omega,⟨O,O,U⟩,ha.trans hh,h7,G,hg,I,J,H⟩
 rw[if_pos hs] at H hq;have h8:=ha.trans hh;have gh:=h8.size;refine Qz<|Qb<|Qb<|xl O<|QD (us:=[[.int .i64 t]]) O O (by decide) (by simp) ⟨rfl,rfl,U⟩ λgi gj hv gk hN=>?_;have hO:=Qq h7 hv;have gl:=hv.size;refine xl rfl<|Q6 (news:=[.int .i64 t]) (L:=[]) hO O O O (hN.at (by simp)) (by simp[Value.oneCell']) (by omega) (by omega) λhP gm hQ hS gn =>
  Qe ?_
 have hge:=Qn hf;refine Qz<|Qb<|QN O O<|Qe<|⟨(k+1,out++[t],hP),by simp only[];omega,⟨O,O,U⟩,(h8.trans hv).then hS (λb hb=>.inr (hge b hb).1),Qu.snoc hQ,hq,hg,by simp;omega,?_,H⟩;simp only[];rw[Uw I];exact J
structure CrI (w7:World) (b4:Nat) (vcl:Value) (n:Int) (vm vd:Value) (M:LI) (E:List Ed) (w:World):Prop where
 st:Step [b4] w7 w
 B:Q4 w.heap b4 58 [vcl,.int .i64 n,vm,vd]
 m:Qu 3 w7.heap.size w vm M
 e:Ye 144 w7.heap.size w vd E
 dj:Dj vm vd
section
variable {w7 w w' w'':World} {b4:Nat} {vcl:Value} {n:Int} {vm vd:Value} {M:LI} {E:List Ed}
theorem CrI.ext (h:CrI w7 b4 vcl n vm vd M E w) (hs:Step [] w w'):CrI w7 b4 vcl n vm vd M E w':=⟨h.st.trans hs,h.B.ext hs,Qq h.m hs,Qq h.e hs,h.dj⟩
theorem CrI.setM (h:CrI w7 b4 vcl n vm vd M E w) (hb:b4<w7.heap.size) {G:Value}{M':LI}(hs:Step (ob vm) w w') (hm:Qu 3 w7.heap.size w' G M') (J:∀b∈ob G,b∈ob vm∨w.heap.size≤b) (H:Step [b4] w' w'')
  (S:Q4 w''.heap b4 58 [vcl,.int .i64 n,G,vd]):CrI w7 b4 vcl n G vd M' E w'' :=
 ⟨(h.st.then hs (λb hb=>.inr (Qn h.m b hb).1)).trans' H,S,Qk hm H (λb I=>by have:=(Qn hm b I).1;simp;omega),
  Qk (Qk h.e hs h.dj.symm) H (λb I=>by have:=(Qn h.e b I).1;simp;omega),(h.dj.symm.grow J (QO h.e)).symm⟩
theorem CrI.setE (h:CrI w7 b4 vcl n vm vd M E w) (hb:b4<w7.heap.size) {G:Value}{E':List Ed}(hs:Step (ob vd) w w') (hm:Ye 144 w7.heap.size w' G E') (J:∀b∈ob G,b∈ob vd∨w.heap.size≤b) (H:Step [b4] w' w'')
  (S:Q4 w''.heap b4 58 [vcl,.int .i64 n,vm,G]):CrI w7 b4 vcl n vm G M E' w'' :=
 ⟨(h.st.then hs (λb hb=>.inr (Qn h.e b hb).1)).trans' H,S,Qk (Qk h.m hs h.dj) H (λb I=>by have:=(Qn h.m b I).1;simp;omega),
  Qk hm H (λb I=>by have:=(Qn hm b I).1;simp;omega),h.dj.grow J (QO h.m)⟩
end
theorem qA (a:QP) (fd:LI) (k:Nat):Vj a fd (k+1)=if cget fd k∈a.mr then Vj a fd k++[(k:Int)] else Vj a fd k:=by
 unfold Vj;rw[Mz,L9,Lt,LR];by_cases h:cget fd k∈a.mr
 ·rw[if_pos h,Mc,if_pos (decide_eq_true h)];rfl
 rw[if_neg h,Mc,if_neg (by rw[decide_eq_false h];simp),MT,List.map_nil,LJ]
theorem yV (a:QP) (fd:LI):∀k,(Vj a fd k).length≤k
 | 0=>by simp[Vj]
 | k+1=>by
  have:=yV a fd k;rw[qA];split
  ·simp;omega
  omega
theorem Qch (a:QP) (fd:LI) (k:Nat):Uy a fd (k+1)=Uy a fd k++a.al.filterMap (QeO a fd k):=by
 unfold Uy;rw[Mz,LA,LR];simp
set_option maxHeartbeats 2000000 in
theorem Qfs {L:LN}{w:World}{va vm ve:Value}{a:QP}(h:Zu L w.heap va vm ve a) (T:Zi a) :
  QI prog 201 [.agg #[va,.int .i64 a.st,vm,ve]] w λr w'=>Step [] w w'∧YY w.heap.size w'.heap r (QiB a):=by
 have h0:=T.st0;have h1:=T.st1;have kt:=T.al_le;have gc:=(Qea T).1;have ge:=gc.len h0;refine QI.of_W func201 O ntmps201 results201 (by simp) ?_;refine Zh (found a) λfd hw=>?_;rw[hw] at ge;have gg:QiB a=⟨a.al,fd.length,Vj a fd fd.length,Uy a fd fd.length⟩:=by unfold QiB;rw[hw]
 refine Qc<|xl O<|QQ (us:=[va,.int .i64 a.st,vm,ve]) O λb1 w1 hF ku hz=>xl O<|Qt (us:=[nS,.int .i64 0,nS,nS]) O λb2 w2 hn kv hG=>xe ?_;have V:=hF.trans hn;have hfr:=Qb5 (h.ext V) T;rw[hw] at hfr;refine Qc<|x (Qr (hz.ext hn) O O)<|xl O<|xf<|hfr.mono ?_;rintro vf w3 ⟨hp,gh⟩;refine Qe ?_;have hH:=V.trans hp;have hJ:=(hz.ext hn).ext hp
 refine Qc<|x (Qa O)<|x (Qd hJ O O)<|xl O<|xf<|(Qcb (h.al.ext hH) (by omega)).mono ?_;rintro r4 w4 ⟨hK,vcl,rfl,Y⟩;have hL:=Qu.ints (L:=[]) Y (by omega) (by simp);refine xl rfl<|Qt (us:=[nS,.int .i64 0,nS,nS]) O λb4 w5 gi gj gk =>
  xl rfl<|Qp (us:=[vcl,.int .i64 0,nS,nS]) gk O O O O ⟨hL.one,O,O,O,U⟩ λw6 gl hM=>xe ?_
 have h2:Step [] w4 w6:=gi.then1 gl gj;have ha:=hK.trans h2;have hN:=Qu.ints (L:=[]) gh (by omega) (by simp);have kw:=hF.size;have kx:=hn.size;have ky:=hp.size;have kz:=hK.size;have k0:=h2.size;have k4:=hz.lt;have k5:=hG.lt;have k6:=hM.lt;refine Qc<|Qb<|x (Qs hN O)<|x (Qa O)<|xl O<|QL (u:=.int .i64 fd.length) hM O O (by simp) rfl λw7 J gm=>xe ?_
 have k7:=J.size;have k8:Step [b4] w3 w7:=(ha.any (L:=[b4])).trans' J;have hO:Step [] w w7:=(hH.trans ha).then1 J (by omega);have hP:QK [b4] w7.heap vf fd:=((hN.up (L':=[b4]) (λb hb=>.inr (by simp at hb;omega))).ext ha).st J;have h3:Zu [b4] w7.heap va vm ve a:=(h.up (λb hb=>.inr (by simp at hb;omega))).ext hO
 have gn:Qu 3 w3.heap.size w7 vcl a.al:=Qk (Qq Y h2) J (λb hb=>by have:=QO Y b hb;simp;omega);have hQ:=(hJ.ext ha).step J (by simp;omega);have go:=((hG.ext hp).ext ha).step J (by simp;omega);have he:b4<w7.heap.size:=by omega
 have n1:b1∉[b4]:=by simp;omega
 have n2:b2∉[b4]:=by simp;omega
 refine Qg<|Qc<|Qe<|Qh<|QA (α:=Nat×Value×Value) [(5,7),(16,69)] (λz=>[(5,.int .i64 z.1)])
  (λz w'=>z.1≤fd.length∧CrI w7 b4 vcl fd.length z.2.1 z.2.2 (Vj a fd z.1) (Uy a fd z.1) w'∧(Uy a fd z.1).length≤z.1*32) (λz=>fd.length - z.1) (by rfl) (0,nS,nS) Z
  ⟨Lj _,⟨Step.refl _ _,gm,QM _ _ _ _,QM _ _ _ _,Dj.nil' _⟩,Lj _⟩ ?_
 rintro ⟨i,v1,v2⟩ g8 w8 ⟨hi,G,h4⟩;simp only[] at hi G h4;have gp:=yV a fd i;have hR:=hP.st G.st;refine Qg<|Qc<|Qb<|Qb<|x (Qs hR O)<|x (QB O O)<|xe<|QH rfl (λgq=>?_) (λgq=>?_)
 ·have gr:i=fd.length:=by omega
  rw[gr] at G h4 gp;refine Qy ?_;have gs:=Qu.ints (L:=[]) G.m (by omega) (by simp);have gt:=Ye.eds (L:=[]) G.e (by omega) (by simp);refine Qc<|x (Qr G.B O O)<|xl O<|Qp (us:=[vcl,.int .i64 fd.length,v1,v2]) (go.step G.st n2) O O O O ⟨hL.one,O,gs.one,gt.one,U⟩ λw9 hq gu=>xe ?_
  refine Qm ⟨[.agg #[vcl,.int .i64 fd.length,v1,v2]],⟨⟨_,O,Qx O (gu.at (L:=[]) (by simp)).cells⟩,U⟩,(hO.then1 G.st (by omega)).then1 hq (by omega),?_⟩;rw[gg];have k1:=Qk (Qk gn G.st (λb hb=>by have:=QO Y b hb;simp;omega)) hq (λb hb=>by have:=(Qn Y b hb).1;simp;omega);have k2:=Qk G.m hq (λb hb=>by have:=(Qn G.m b hb).1;simp;omega)
  have k3:=Qk G.e hq (λb hb=>by have:=(Qn G.e b hb).1;simp;omega);refine ⟨vcl,v1,v2,O,λL' h5=>⟨?_,?_,?_⟩⟩
  ·exact Qu.ints k1 (by show a.al.length≤_;omega) (λb hb=>by have:=h5 b hb;omega)
  ·exact Qu.ints k2 (by show (Vj a fd fd.length).length≤_;omega) (λb hb=>by have:=h5 b hb;omega)
  exact Ye.eds k3 (by show (Uy a fd fd.length).length≤_;omega) (λb hb=>by have:=h5 b hb;omega)
 have h6:i<fd.length:=by omega
 refine Zh (cget fd i) λs hr=>?_;have hf:=qA a fd i;rw[hr] at hf;refine Qi<|Qg<|Qh<|Q0 (α:=Value) [(22,34)] (λz=>[]) (λz w'=>CrI w7 b4 vcl fd.length z v2 (Vj a fd (i+1)) (Uy a fd i) w') (by rfl) ?_ ?_
 ·have gv:=h3.st G.st;have gw:=hQ.step G.st n1;refine Qg<|QW (Step [] w8) [(0,true),(1,true),(2,true),(3,true),(4,true),(5,true),(6,false)] mixed (by rfl) (by kernel_rfl) (Step.drew _ _) ?_;refine p (λ_=>Qa O)<|pq (λ_ hc=>Qd (gw.ext hc) O O)<|p (λ_=>Qo)<|p (λ_=>Qo)<|pic (i:=i) O hR O O h6 λk9 hS=>?_;rw[hr] at hS
  refine pq (λ_ hc=>Qv (hS.ext hc) O)<|pk<|xf<|(QaZ (gv.mr.ext (Step.drew [] w8)) s).mono ?_;rintro ma mc ⟨rfl,rfl⟩;have h7:=G.ext (Step.drew [] w8);refine ⟨Step.drew _ _,pe ?_⟩;refine QH O (λh8=>?_) (λh8=>?_)
  ·rw[if_neg h8] at hf;refine Qi ?_;exact ⟨v1,U,by rw[hf];exact h7⟩
  rw[if_pos h8] at hf;refine Qz<|x (Qa O)<|x (Qd h7.B O O)<|Qb<|xl O<|QD (us:=[[.int .i64 i]]) O O (by decide) (by simp) ⟨rfl,rfl,U⟩ λmf mg gx mh gy=>?_;have hg:=h7.ext gx;refine xl O<|Q6 (news:=[.int .i64 i]) (L:=[]) hg.m O O O (gy.at (by simp)) (by simp[Value.oneCell']) (by omega) hg.st.size λhT gz g0 V g2=>?_
  have hU:Qu 3 w7.heap.size gz hT (Vj a fd i++[(i:Int)]):=Qu.snoc g0;refine x (Qa O)<|xl O<|QL (hg.B.step V (QU hg.m he)) O O (by simp) (Qu.ints (L:=[]) hU (by simp;omega) (by simp)).one λmi g3 g4 =>
   xe ?_
  exact ⟨hT,U,by rw[hf];exact hg.setM he V hU g2 g3 g4⟩
 rintro v3 mj mn g5;refine Zh (Uy a fd (i+1)) λE1 h9=>?_;have hV:=Qch a fd i;rw[h9] at hV;refine Qc<|Qe<|Qh<|QA (α:=Nat×List Ed×Value) [(6,7),(35,69)] (λz=>[(6,.int .i64 z.1)])
  (λz w'=>z.1≤a.al.length∧CrI w7 b4 vcl fd.length v3 z.2.2 (Vj a fd (i+1)) z.2.1 w'∧z.2.1.length≤i*32+z.1∧z.2.1++(a.al.drop z.1).filterMap (QeO a fd i)=E1) (λz=>a.al.length - z.1) (by rfl) (0,Uy a fd i,v2) Z
  ⟨Lj _,g5,h4,hV.symm⟩ ?_
 rintro ⟨k,E,vd⟩ mo hA ⟨hk,I,g6,H⟩;simp only[] at hk I g6 H;have hB:=h3.st I.st;have hs:=hQ.step I.st n1;have hW:=hP.st I.st;refine Qg<|Qc<|Qb<|x (Qa O)<|x (Qd hs O O)<|x (Qs hB.al O)<|x (QB O O)<|xe<|QH rfl (λg7=>?_) (λg7=>?_)
 ·refine Qy<|Qz<|Qb<|QN O O<|Qe ?_;rw[Lp (by omega),List.filterMap_nil,LJ] at H;refine ⟨(i+1,v3,vd),by simp only[];omega,Z,h6,?_,?_⟩
  ·simp only[];rw[h9,←H];exact I
  simp only[];rw[h9,←H];omega
 have S:k<a.al.length:=by omega
 refine Zh (cget a.al k) λu hu=>?_;rw[LH S,Zn S,hu,Mh] at H;refine Zh (nxt a.ed s u) λt ht=>?_;have g9:QeO a fd i u=if 0≤t then some ((i:Int),u,ixR fd t) else none:=by unfold QeO;rw[hr,ht]
 rw[g9] at H;have hsr:=zV (va:=va) (vm:=vm) (a:=a) (hB.ed.ext (Step.drew [] hA)) s u a.st;rw[ht] at hsr;refine Qi<|Qg<|Qh<|Qg<|QW (Step [] hA) [(0,true),(1,true),(2,true),(3,true),(4,true),(5,true),(6,true),(7,true),(8,true),(9,true),(10,false),(11,true)] mixed (by rfl) (by kernel_rfl) (Step.drew _ _) ?_
 refine pq (λ_ hc=>Qr (hs.ext hc) O O)<|p (λ_=>Qo)<|p (λ_=>Qo)<|pic (i:=i) O hW O O h6 λmq hX=>?_;rw[hr] at hX;refine pq (λ_ hc=>Qv (hX.ext hc) O)<|p (λ_=>Qa O)<|pq (λ_ hc=>Qd (hs.ext hc) O O)<|p (λ_=>Qo) <|
  pic (i:=k) O hB.al O O S λmu hY=>?_
 rw[hu] at hY;refine pq (λ_ hc=>Qv (hY.ext hc) O)<|pk<|xf<|hsr.mono ?_;rintro mv hv ⟨rfl,ka⟩;have hh:=(Step.drew [] hA).trans ka;refine ⟨hh,p (λ_=>Qf)<|pe ?_⟩;have hj:=I.ext hh;have kb:=hs.ext hh;have kc:=hW.ext hh;refine Qc<|Qb<|x (ZX O O)<|xe<|QH rfl (λhC=>?_) (λhC=>?_)
 ·rw[if_neg hC] at H;refine Qi<|Qz<|Qb<|QN O O<|Qe ?_;exact ⟨(k+1,E,vd),by simp only[];omega,Z,S,hj,by simp only[];omega,H⟩
 rw[if_pos hC] at H;have ke:=Qn I.e;have kf:QK (b4::ob vd) hv.heap va a.al:=(((h3.al.up (L':=b4::ob vd) (λb hb=>by
  rcases Lb.1 hb with rfl | hb
  ·exact .inl (by simp)
  exact .inr (ke b hb).1)).step I.st (by simp)).ext hh)
 have kg:=QU hj.e he;have kh:b1∉ob vd:=QU hj.e (by omega);refine QW (Step (ob vd) hv) [(0,true),(1,true),(2,true),(3,true),(4,true),(5,true),(6,true),(7,true),(8,true),(9,true),(10,false),(11,true),(12,false),(13,false),(14,true),(15,false)] mixed (by rfl) (by kernel_rfl) (Step.drew _ _) ?_
 refine p (λ_=>Qa O)<|pq (λ_ hc=>Qd (hj.B.step hc kg) O O)<|p (λ_=>Qo)<|p (λ_=>Qa O)<|pq (λ_ hc=>Qd (kb.step hc kh) O O) <|
  p (λ_=>Qo)<|pic (i:=k) O kf O O S λmw hZ=>?_
 rw[hu] at hZ;refine pq (λ_ hc=>Qv (hZ.step hc (λb hb=>Lm _ hb)) O)<|p (λ_=>Qo)<|p (λ_=>Qo) <|
  pk<|xf<|(Qb2 (kc.ext (Step.drew [] hv)) t).mono ?_
 rintro my mz ⟨rfl,rfl⟩;refine ⟨Step.drew _ _,p (λ_=>QE ⟨O,O,O,U⟩)<|pk<|QD (us:=[Qw ((i:Int),u,ixR fd t)]) O O (by decide) (by exact (by decide:1*3≤1000000)) ⟨O,O,U⟩ λm0 m1 ki m2 kj=>?_⟩;have hD:=(Step.drew [] hv).trans ki;have hm:=hj.ext hD;refine ⟨hD.any,?_⟩
 refine pk<|Q6 (news:=Qw ((i:Int),u,ixR fd t)) (L:=[]) hm.e O O O (kj.at (by simp)) (λy hy=>by simp only[Qw,List.mem_cons,List.not_mem_nil,or_false] at hy;rcases hy with rfl | rfl | rfl <;> rfl) (by omega) hm.st.size λga kk kn hE ko=>⟨(hD.any (L:=ob vd)).trans' hE,?_⟩
 have gb:Ye 144 w7.heap.size kk ga (E++[((i:Int),u,ixR fd t)]):=Ye.snoc kn;refine p (λ_=>Qa O)<|pkl (hl:=by kernel_rfl)<|QL (hm.B.step hE (QU hm.e he)) O O (by simp) (Ye.eds (L:=[]) gb (by simp;omega) (by simp)).one λm3 kp kq =>
  pe ?_
 have kr:=hm.setE he hE gb ko kp kq;refine Qz<|Qb<|QN O O<|Qe<|⟨(k+1,E++[((i:Int),u,ixR fd t)],ga),by simp only[];omega,Z,S,kr,by simp;omega,?_⟩;simp only[List.append_assoc,List.singleton_append];exact H
end Go.Proofs.YtdffckgdcegpaaaGreatDoor
namespace Go.Lg
section
variable {P:Program} {f:Fr} {w:World} {d:Option Nat} {ty:Nat} {ps:String} {af:Array Edge} {gd:Option (Nat×Bool)}
end
end Go.Lg
namespace Go.Proofs.YtdffckgdcegpaaaGreatDoor
open Go.Proofs.Tryz
open Go.Lg
abbrev bys (ns:LN):LV:=ns.map λn:Nat=>.int .u8 (n:Int)
end Go.Proofs.YtdffckgdcegpaaaGreatDoor
namespace Go.Lg
section
variable {P:Program} {f:Fr} {w:World} {d:Option Nat} {ty:Nat} {ps:String} {af:Array Edge} {gd:Option (Nat×Bool)}
end
end Go.Lg
namespace Go.Proofs.YtdffckgdcegpaaaGreatDoor
open Go.Proofs.Tryz
open Go.Lg
theorem Qf5 (keep:Bool→Bool→Bool):∀(n:Nat) (a b:LI),a.length+b.length≤n→YX a→YX b→YX (mrg keep a b):=by
 intro n;induction n with
 | zero =>
  intro a b h _ _;have ha:a=[]:=Ln (by omega);have hb:b=[]:=Ln (by omega);subst ha hb;rw[X1];exact List.Pairwise.nil
 | succ n ih =>
  intro a b H ia ib;by_cases h:a=[]∧b=[]
  ·obtain ⟨rfl,rfl⟩:=h;rw[X1];exact List.Pairwise.nil
  have I:=Uf h;have itl:∀(c:Bool) (l:LI),YX l→YX (tl c l):=λc l hl=>by
   cases c
   ·exact hl
   cases l with
   | nil=>exact hl
   | cons y l=>exact hl.tail
  have G:=ih (tl (YT a b) a) (tl (YT b a) b) (by omega) (itl _ _ ia) (itl _ _ ib);rw[XJ keep h];cases keep (YT a b) (YT b a) with
  | false=>simpa using G
  | true =>
   simp only[cond_true,List.singleton_append];refine LF.2 ⟨λx hx=>?_,G⟩;have hm:=(QaK (itl _ _ ia) (itl _ _ ib) x).1 hx;cases a with
   | nil =>
    cases b with
    | nil=>exact absurd ⟨O,O⟩ h
    | cons y b =>
     simp only[YT,tl,cond_true,cond_false,List.tail_cons,List.not_mem_nil,false_or,Go.Proofs.YtdffckgdcegpaaaGreatDoor.hx,List.headD_cons] at hm ⊢;exact ib.lt_of hm.1
   | cons u a =>
    cases b with
    | nil =>
     simp only[YT,tl,cond_true,cond_false,List.tail_cons,List.not_mem_nil,or_false,Go.Proofs.YtdffckgdcegpaaaGreatDoor.hx,List.headD_cons] at hm ⊢;exact ia.lt_of hm.1
    | cons y b =>
     rcases Int.lt_trichotomy u y with h1 | h1 | h1
     ·have e1:decide (u≤y)=true:=decide_eq_true (by omega);have e2:decide (y≤u)=false:=decide_eq_false (by omega);simp only[YT,tl,e1,e2,cond_true,cond_false,List.tail_cons,Go.Proofs.YtdffckgdcegpaaaGreatDoor.hx,List.headD_cons] at hm ⊢;rcases hm.1 with h2 | h2
      ·exact ia.lt_of h2
      rcases Lb.1 h2 with h2 | h2
      ·omega
      have:=ib.lt_of h2;omega
     ·have e1:decide (u≤y)=true:=decide_eq_true (by omega);have e2:decide (y≤u)=true:=decide_eq_true (by omega);simp only[YT,tl,e1,e2,cond_true,List.tail_cons,Go.Proofs.YtdffckgdcegpaaaGreatDoor.hx,List.headD_cons] at hm ⊢;rcases hm.1 with h2 | h2
      ·have:=ia.lt_of h2;omega
      have:=ib.lt_of h2;omega
     have e1:decide (u≤y)=false:=decide_eq_false (by omega);have e2:decide (y≤u)=true:=decide_eq_true (by omega);simp only[YT,tl,e1,e2,cond_true,cond_false,List.tail_cons,Go.Proofs.YtdffckgdcegpaaaGreatDoor.hx,List.headD_cons] at hm ⊢;rcases hm.1 with h2 | h2
     ·rcases Lb.1 h2 with h2 | h2
      ·omega
      have:=ia.lt_of h2;omega
     exact ib.lt_of h2
end Go.Proofs.YtdffckgdcegpaaaGreatDoor
namespace Go.Lg
section
variable {P:Program} {f:Fr} {w:World} {d:Option Nat} {ty:Nat} {ps:String} {af:Array Edge} {gd:Option (Nat×Bool)} {all:List Oper} {C:World→Prop} {K:Fr→World→Prop}
end
end Go.Lg
namespace Go.Proofs.YtdffckgdcegpaaaGreatDoor
open Go.Lg
end Go.Proofs.YtdffckgdcegpaaaGreatDoor
namespace Go.Lg
section
variable {P:Program} {f:Fr} {w:World} {d:Option Nat} {ty:Nat} {ps:String} {af:Array Edge} {gd:Option (Nat×Bool)}
end
end Go.Lg
namespace Go.Proofs.YtdffckgdcegpaaaGreatDoor
open Go.Lg
section
variable {w4 w w' w'':World} {b:Nat} {m q:Bool} {ve vd:Value} {E D:LI}
end
end Go.Proofs.YtdffckgdcegpaaaGreatDoor
namespace Go.Lg
section
variable {P:Program} {f:Fr} {w:World} {d:Option Nat} {ty:Nat} {ps:String} {af:Array Edge} {gd:Option (Nat×Bool)}
end
end Go.Lg
namespace Go.Proofs.YtdffckgdcegpaaaGreatDoor
open Go.Lg
def grid (g:Nat→Int→Option Ed) (vs:LI) (n:Nat):List Ed:=(List.range' 0 n).flatMap λj=>vs.filterMap (g j)
theorem Vd (g:Nat→Int→Option Ed) (vs:LI) (n:Nat):grid g vs (n+1)=grid g vs n++vs.filterMap (g n):=by
 unfold grid;rw[Mz,LA];simp
theorem yH (l m:List Ed) (s v:Int):eget (l++m) s v=match eget l s v with | some u=>some u | none=>eget m s v:=by
 induction l with
 | nil=>rfl
 | cons e l ih =>
  rw[L0,eget,eget];split
  ·rfl
  exact ih
def UG (g:Nat→Int→Option Ed):Prop:=∀j v e,g j v=some e→e.1=(j:Int)∧e.2.1=v
theorem yF {g:Nat→Int→Option Ed}(E:UG g) (j:Nat) (v:Int):∀(vs:LI),eget (vs.filterMap (g j)) j v=if v∈vs then (g j v).map (·.2.2) else none
 | []=>by simp[eget]
 | u::vs=>by
  have ih:=yF E j v vs;rw[Mh];cases hu:g j u with
  | none =>
   simp only[];rw[ih];by_cases e:v=u
   ·subst e;simp[hu]
   simp[e]
  | some e =>
   have he:=E j u e hu;simp only[];rw[eget];by_cases e2:u=v
   ·subst e2;rw[if_pos he,if_pos Ls,hu];rfl
   rw[if_neg (λh=>e2 (he.2.symm.trans h.2)),ih];simp[Ne.symm e2]
theorem yE {g:Nat→Int→Option Ed}(E:UG g) {j i:Nat}(h:j≠i) (v:Int) (vs:LI):eget (vs.filterMap (g j)) i v=none:=by
 refine qw λe he h2=>?_;obtain ⟨u,_,hu⟩:=MZ.1 he;have:=E j u e hu;omega
theorem Qcc {g:Nat→Int→Option Ed}(E:UG g) (vs:LI) (j:Nat) (v:Int):∀n,eget (grid g vs n) j v=if j<n∧v∈vs then (g j v).map (·.2.2) else none
 | 0=>by simp[grid,eget]
 | n+1=>by
  rw[Vd,yH,Qcc E vs j v n];by_cases e:j=n
  ·subst e;rw[if_neg (by omega),yF E];simp
  rw[yE E (Ne.symm e)];by_cases h:j<n∧v∈vs
  ·rw[if_pos h,if_pos ⟨by omega,h.2⟩];cases (g j v).map (·.2.2) <;> rfl
  rw[if_neg h,if_neg (λh2=>h ⟨by omega,h2.2⟩)]
theorem yw {g:Nat→Int→Option Ed}{vs:LI}{n:Nat}{e:Ed}(h:e∈grid g vs n):∃j v,j<n∧v∈vs∧g j v=some e:=by
 unfold grid at h;obtain ⟨j,E,h2⟩:=Mj.1 h;obtain ⟨v,G,h3⟩:=MZ.1 h2;rw[MD] at E;exact ⟨j,v,by omega,G,h3⟩
theorem Qa0 {g:Nat→Int→Option Ed}(E:UG g) {vs:LI}(hi:YX vs):∀n,(grid g vs n).Pairwise λx y:Ed=>x.1<y.1∨(x.1=y.1∧x.2.1<y.2.1)
 | 0=>by simp[grid]
 | n+1=>by
  rw[Vd,MA];refine ⟨Qa0 E hi n,XY (r:=(·<·)) (λx y u v J hu G=>?_) hi,λe he H I=>?_⟩
  ·have h1:=E n x u hu;have h2:=E n y v G;right;omega
  obtain ⟨j,v,S,_,h1⟩:=yw he;obtain ⟨v',_,h2⟩:=MZ.1 I;have h3:=E j v e h1;have T:=E n v' H h2;left;omega
theorem Qjv (l:List QP):∀(acc:LI),(∀a∈l,YX a.al)→YX acc→YX (l.foldl (λacc a=>mrg (· || ·) acc a.al) acc)∧∀x,x∈l.foldl (λacc a=>mrg (· || ·) acc a.al) acc↔x∈acc∨∃a∈l,x∈a.al:=by
 induction l with
 | nil=>intro acc _ h;exact ⟨h,λx=>by simp⟩
 | cons a l ih =>
  intro acc hl h;have ha:=hl a Ls;obtain ⟨h1,h2⟩:=ih (mrg (· || ·) acc a.al) (λb hb=>hl b (Lm _ hb)) (Qf5 _ _ _ _ (Lr _) h ha);rw[LO];refine ⟨h1,λx=>?_⟩;rw[h2 x,QaK h ha];simp only[List.mem_cons,exists_eq_or_imp];constructor
  ·rintro (⟨h3 | h3,_⟩ | h3)
   ·exact .inl h3
   ·exact .inr (.inl h3)
   exact .inr (.inr h3)
  rintro (h3 | h3 | h3)
  ·exact .inl ⟨.inl h3,by simp[h3]⟩
  ·exact .inl ⟨.inr h3,by simp[h3]⟩
  exact .inr h3
theorem Qa7 {l:List QP}(h:∀a∈l,Zi a):YX (evs l):=(Qjv l [] (λa ha=>(h a ha).ali) (by simp)).1
theorem Qa6 {l:List QP}(h:∀a∈l,Zi a) (x:Int):x∈evs l↔∃a∈l,x∈a.al:=by
 have:=(Qjv l [] (λa ha=>(h a ha).ali) (by simp)).2 x;unfold evs;rw[this];simp
def syF (aa:List QP) (tup:List (LI)) (j:Nat) (v:Int):Option Ed:=(Ya v aa (tup.getD j [])).map λu=>((j:Int),v,(tup.idxOf u:Int))
theorem Qhx (aa:List QP) (tup:List (LI)):UG (syF aa tup):=by
 intro j v e h;unfold syF at h;obtain ⟨u,_,rfl⟩:=MI.1 h;exact ⟨O,O⟩
theorem yA {α β:Type}{f g:α→Option β}:∀{l:List α},(∀x∈l,f x=g x)→l.filterMap f=l.filterMap g
 | [],_=>rfl
 | x::l,h=>by rw[Mh,Mh,h x Ls,yA (λy hy=>h y (Lm _ hy))]
theorem Qec {α β:Type}{f:α→Option β}{v:α}{e:β}(h:f v=some e):[v].filterMap f=[e]:=by rw[Mh,h];rfl
theorem Qgw {α β:Type}{f:α→Option β}{v:α}(h:f v=none):[v].filterMap f=[]:=by rw[Mh,h];rfl
theorem QcP {aa:List QP}{tup:List (LI)}{j:Nat}{v:Int}(h:Ya v aa (tup.getD j [])=none):syF aa tup j v=none:=by unfold syF;rw[h];rfl
theorem zU {aa:List QP}{tup:List (LI)}{j:Nat}{v:Int}{u:LI}(h:Ya v aa (tup.getD j [])=some u):syF aa tup j v=some ((j:Int),v,(tup.idxOf u:Int)):=by unfold syF;rw[h];rfl
def Clo (aa:List QP) (tup:List (LI)) (j:Nat) (vs:LI):Prop:=∀v∈vs,∀u,Ya v aa (tup.getD j [])=some u→u∈tup
theorem Jr {tup r:List (LI)}{j:Nat}(h:j<tup.length):(tup++r).getD j []=tup.getD j []:=by simp[List.getD,List.getElem?_append_left h]
theorem Qam {aa:List QP}{tup r:List (LI)}{j:Nat}{vs:LI}(E:j<tup.length) (hc:Clo aa tup j vs):vs.filterMap (syF aa (tup++r) j)=vs.filterMap (syF aa tup j):=by
 refine yA λv G=>?_;unfold syF;rw[Jr E];cases hs:Ya v aa (tup.getD j []) with
 | none=>rfl
 | some u =>
  have hu:=hc v G u hs;simp only[Option.map_some,Option.some.injEq,Prod.mk.injEq,true_and];rw[Ml,if_pos hu]
theorem Clo.pre {aa:List QP}{tup r:List (LI)}{j:Nat}{vs:LI}(E:j<tup.length) (hc:Clo aa tup j vs):Clo aa (tup++r) j vs:=by
 intro v G u hu;rw[Jr E] at hu;exact LL _ (hc v G u hu)
theorem V7 {α:Type}{l:List α}{u:α}(h:l.Nodup) (hu:u∉l):(l++[u]).Nodup:=by
 rw[List.nodup_append];exact ⟨h,by simp,λa ha b hb=>by simp only[List.mem_singleton] at hb;subst hb;exact λe=>hu (by rw[←e];exact ha)⟩
theorem U5 {aa:List QP}{i:Nat}:∀(vs:LI) (s E:Sy),i<s.tup.length→s.tup.Nodup→VT aa i (U3 s i) vs s=some E →
  ∃r,E.tup=s.tup++r∧E.mk'=s.mk'∧E.ed=s.ed++vs.filterMap (syF aa E.tup i)∧Clo aa E.tup i vs∧E.tup.Nodup
 | [],s,E,_,hd,e=>by cases e;exact ⟨[],by simp,rfl,by simp,λv V=>(by cases V),hd⟩
 | v::vs,s,E,hi,hd,e=>by
  rw[VT] at e;obtain ⟨G,h1,h2⟩:=Mv.1 e;have key:∃I,G.tup=s.tup++I∧G.mk'=s.mk'∧G.ed=s.ed++[v].filterMap (syF aa G.tup i)∧Clo aa G.tup i [v]∧G.tup.Nodup:=by
   unfold syE at h1;have eT:U3 s i=s.tup.getD i []:=rfl;rw[eT] at h1;cases hs:Ya v aa (s.tup.getD i []) with
   | none =>
    rw[hs] at h1;cases h1
    refine ⟨[],by simp,rfl,by rw[Qgw (QcP hs),List.append_nil],λv' hv' u hu=>?_,hd⟩;simp only[List.mem_singleton] at hv';subst hv';rw[hs] at hu;cases hu
   | some u =>
    rw[hs] at h1;simp only[] at h1;by_cases hu:u∈s.tup
    ·rw[if_pos hu] at h1;cases h1
     refine ⟨[],by simp,rfl,by rw[Qec (zU hs)],λv' hv' Y H=>?_,hd⟩;simp only[List.mem_singleton] at hv';subst hv';simp only[] at H ⊢;rw[hs] at H;cases H;exact hu
    rw[if_neg hu] at h1;split at h1
    ·cases h1
    cases h1
    have e2:(s.tup++[u]).getD i []=s.tup.getD i []:=Jr hi;have e3:(s.tup++[u]).idxOf u=s.tup.length:=by rw[Ml,if_neg hu];simp
    refine ⟨[u],O,O,?_,λv' hv' Y H=>?_,V7 hd hu⟩
    ·rw[Qec (zU (tup:=s.tup++[u]) (u:=u) (by rw[e2];exact hs)),e3]
    simp only[List.mem_singleton] at hv';subst hv';simp only[] at H ⊢;rw[e2,hs] at H;cases H;simp
  obtain ⟨I,k1,k2,k3,S,k5⟩:=key;have J:i<G.tup.length:=by rw[k1];simp;omega
  have eT:U3 G i=U3 s i:=by unfold U3;rw[k1];exact Jr hi
  rw[←eT] at h2;obtain ⟨T,g1,g2,g3,g4,g5⟩:=U5 vs G E J k5 h2;refine ⟨I++T,by rw[g1,k1,LC],g2.trans k2,?_,?_,g5⟩
  ·rw[g3,k3,LC];congr 1;rw[show v::vs=[v]++vs from rfl,List.filterMap_append];congr 1;rw[g1];exact (Qam J S).symm
  intro v' hv' u hu;rcases Lb.1 hv' with rfl | hv'
  ·have:=S.pre (r:=T) J;rw[←g1] at this;exact this v' Ls u hu
  exact g4 v' hv' u hu
structure SyG (aa:List QP) (i:Nat) (s:Sy):Prop where
 nd:s.tup.Nodup
 le:i≤s.tup.length
 hd:s.tup.getD 0 []=List.replicate aa.length 0∧0<s.tup.length
 mk2:s.mk'=((List.range' 0 i).filter λj=>Y5 aa (s.tup.getD j [])).map λj:Nat=>(j:Int)
 ed:s.ed=grid (syF aa s.tup) (evs aa) i
 cl:∀j,j<i→Clo aa s.tup j (evs aa)
theorem Xa {α β:Type}{f g:α→List β}:∀{l:List α},(∀x∈l,f x=g x)→l.flatMap f=l.flatMap g
 | [],_=>rfl
 | x::l,h=>by rw[LB,LB,h x Ls,Xa (λy hy=>h y (Lm _ hy))]
theorem SyG.next {aa:List QP}{i:Nat}{s E:Sy}(h:SyG aa i s) (hi:i<s.tup.length) (e:VT aa i (U3 s i) (evs aa) (ZI aa i (U3 s i) s)=some E):SyG aa (i+1) E:=by
 have H:(ZI aa i (U3 s i) s).tup=s.tup:=by unfold ZI;split <;> rfl
 have T:(ZI aa i (U3 s i) s).ed=s.ed:=by unfold ZI;split <;> rfl
 have J:U3 (ZI aa i (U3 s i) s) i=U3 s i:=by show (ZI aa i (U3 s i) s).tup.getD i []=s.tup.getD i [];rw[H]
 rw[←J] at e;obtain ⟨r,g1,V,S,Y,g5⟩:=U5 (evs aa) _ E (by rw[H];exact hi) (by rw[H];exact h.nd) (by rw[J] at e ⊢;exact e);rw[H] at g1;rw[T] at S;have pre:∀j,j≤i→E.tup.getD j []=s.tup.getD j []:=λj G=>by rw[g1];exact Jr (by omega)
 refine ⟨g5,by rw[g1];simp;omega,⟨by rw[pre 0 (by omega)];exact h.hd.1,by rw[g1];simp;omega⟩,?_,?_,λj G=>?_⟩
 ·rw[V,Mz,L9,Lt,LR];have e1:((List.range' 0 i).filter λj=>Y5 aa (E.tup.getD j []))=(List.range' 0 i).filter λj=>Y5 aa (s.tup.getD j []):=by
   refine List.filter_congr λj G=>?_;rw[MD] at G;rw[pre j (by omega)]
  rw[e1];unfold ZI;by_cases hm:Y5 aa (U3 s i)=true
  ·rw[if_pos hm];have I:Y5 aa (E.tup.getD i [])=true:=by rw[pre i (Lr _)];exact hm
   simp only[List.filter_cons,I,if_true,List.filter_nil,List.map_cons,List.map_nil];rw[h.mk2]
  rw[if_neg hm];have I:Y5 aa (E.tup.getD i [])=false:=by rw[pre i (Lr _)];exact eq_false_of_ne_true hm
  rw[Mc,if_neg (by rw[I];simp),MT,h.mk2];simp
 ·rw[S,Vd,h.ed];congr 1;unfold grid;refine Xa λj G=>?_;rw[MD] at G;rw[g1];exact (Qam (by omega) (h.cl j (by omega))).symm
 by_cases e2:j=i
 ·subst e2;exact Y
 have:=(h.cl j (by omega)).pre (r:=r) (by omega);rw[←g1] at this;exact this
theorem zT {aa:List QP}:∀(f i:Nat) (s E:Sy),SyG aa i s→syL aa f i s=some E→∃G,SyG aa G E∧(E.tup.length=G∨G=i+f)
 | 0,i,s,E,h,e=>by cases e;exact ⟨i,h,.inr O⟩
 | f+1,i,s,E,h,e=>by
  rw[syL] at e;split at e
  ·rename_i hi;obtain ⟨H,h1,h2⟩:=Mv.1 e;obtain ⟨G,h3,I⟩:=zT f (i+1) H E (h.next hi h1) h2;exact ⟨G,h3,by omega⟩
  cases e;exact ⟨i,h,.inl (by have:=h.le;omega)⟩
structure SyP (aa:List QP) (A:QP) (Q:List (LI)):Prop where
 al:A.al=evs aa
 st:A.st=(Q.length:Int)
 nd:Q.Nodup
 v:∀t∈Q,Vt aa t
 le:Q.length≤4096
 hd:0<Q.length→Q.getD 0 []=List.replicate aa.length 0
 mk2:A.mr=((List.range' 0 Q.length).filter λj=>Y5 aa (Q.getD j [])).map λj:Nat=>(j:Int)
 ed:A.ed=grid (syF aa Q) (evs aa) Q.length
 cl:∀j,j<Q.length→Clo aa Q j (evs aa)
theorem YZ {aa:List QP}(H:∀a∈aa,Zi a) {A:QP}{Q:List (LI)}(h:sync aa=some (A,Q)):SyP aa A Q∧(Q.length=0↔∃a∈aa,a.st=0):=by
 have E:=VK H h;unfold sync at h;split at h
 ·rename_i hz;cases h
  exact ⟨⟨O,O,by simp,by simp,by simp,λh=>by simp at h,by simp,by simp[grid],λj G=>by simp at G⟩,by simpa using hz⟩
 rename_i hz;obtain ⟨s,h1,h2⟩:=MI.1 h;have I:SyG aa 0 (U6 aa):=⟨by simp[U6],by simp,⟨by simp[U6],by simp[U6]⟩,by simp[U6],by simp[U6,grid],λj G=>by omega⟩;obtain ⟨J,h3,T⟩:=zT 4096 0 (U6 aa) s I h1;cases h2
 have hl:J=s.tup.length:=by
  have h5:=h3.le;have S:=E.2;simp only[] at S;omega
 subst hl;refine ⟨⟨rfl,O,h3.nd,E.1,E.2,λ_=>h3.hd.1,h3.mk2,h3.ed,h3.cl⟩,?_⟩;have:=h3.hd.2;constructor
 ·intro h;have V:s.tup.length=0:=h;omega
 intro h;exact absurd h hz
theorem SyP.to {aa:List QP}{A:QP}{Q:List (LI)}(h:SyP aa A Q) {j:Nat}(E:j<Q.length) {v:Int}(G:v∈evs aa) {u:LI}(hu:Ya v aa (Q.getD j [])=some u):Q.idxOf u<Q.length∧Q.getD (Q.idxOf u) []=u:=by
 have hm:=h.cl j E v G u hu;have hl:=MG hm;refine ⟨hl,?_⟩;simp[List.getD,hl]
theorem SyP.okay {aa:List QP}(E:∀a∈aa,Zi a) {A:QP}{Q:List (LI)}(h:SyP aa A Q):Zi A:=by
 have J:=h.le;refine ⟨λe he=>?_,by rw[h.al];exact Qa7 E,by rw[h.st];omega,by rw[h.st];omega,λs hs=>?_,?_,λe he=>?_,by rw[h.ed];exact Qa0 (Qhx aa Q) (Qa7 E) _⟩
 ·rw[h.al] at he;obtain ⟨a,ha,hx⟩:=(Qa6 E e).1 he;exact (E a ha).al e hx
 ·rw[h.mk2] at hs;simp only[List.mem_map,List.mem_filter,List.mem_range'_1] at hs;obtain ⟨i,⟨hi,_⟩,rfl⟩:=hs;rw[h.st];omega
 ·rw[h.mk2];unfold YX;rw[L7];refine List.Pairwise.sublist MU ?_;exact (List.pairwise_lt_range' (s:=0) (n:=Q.length)).imp (λh=>by omega)
 rw[h.ed] at he;obtain ⟨j,v,I,G,H⟩:=yw he;unfold syF at H;obtain ⟨u,hu,rfl⟩:=MI.1 H;have:=(h.to I G hu).1;rw[h.st,h.al];exact ⟨by simp only[];omega,by simp only[];omega,G,by simp only[];omega,by simp only[];omega⟩
end Go.Proofs.YtdffckgdcegpaaaGreatDoor
namespace Go.Lg
open Go.RowKit
instance:LawfulBEq ByteArray where
 eq_of_beq h:=(MapKept.bytes_beq _ _).1 h;rfl:=(MapKept.bytes_beq _ _).2 O
def chr (s:ByteArray) (i:Nat):Nat:=(s.get! i).toNat
theorem Qix {s:ByteArray}{i:Nat}(h:i<s.size):(s[i]'h).toNat=chr s i:=by
 unfold chr;obtain ⟨d⟩:=s;have hd:i<d.size:=h;simp[ByteArray.get!,hd,ByteArray.getElem_eq_getElem_data]
theorem Qck {a b:ByteArray}(h:a.data.toList=b.data.toList):a=b:=by
 obtain ⟨⟨x⟩⟩:=a;obtain ⟨⟨y⟩⟩:=b;have h':x=y:=h;rw[h']
theorem bytes_beq (a b:ByteArray):(a.toList == b.toList)=decide (a=b):=by
 rw[ByteArray.toList_eq,ByteArray.toList_eq];by_cases h:a=b
 ·subst h;simp
 rw[decide_eq_false h];have:a.data.toList≠b.data.toList:=λe=>h (Qck e);simpa using this
section
variable {P:Program} {f:Fr} {w:World} {d:Option Nat} {ty:Nat} {ps:String} {af:Array Edge} {gd:Option (Nat×Bool)} {t t':Nat} {x y:Operand}
theorem Qdk [h:St P t] {s:ByteArray}{k:IntKind}{i:Nat}(hx:ev f x=.string s) (hy:ev f y=.int k i) (hi:i<s.size) :
  (execOp (ev f) ⟨d,.index t x y,ty,ps,af,gd⟩).run P w=.ok (.value (.int .u8 (chr s i))) w:=by
 have h1:=run_index_string (P:=P) w t s k i h.u;rw[dif_pos ⟨by omega,by omega⟩] at h1;have e:(s[(i:Int).toNat]'(by simpa using hi)).toNat=chr s i:=Qix hi;simp only[execOp,hx,hy,Sem.run_bind,h1,Result.andThen_ok,Sem.run_pure,e]
theorem K4 [h:St P t] {s:ByteArray}(hx:ev f x=.string s) :
  (execOp (ev f) ⟨d,.call ⟨.builtin .len,#[x],#[t]⟩,ty,ps,af,gd⟩).run P w=.ok (.value (.int .i64 s.size)) w:=Qdj h.u hx
theorem q7 {a b:ByteArray}(hx:ev f x=.string a) (hy:ev f y=.string b) :
  (execOp (ev f) ⟨d,.binOp .eql t x y t',ty,ps,af,gd⟩).run P w=.ok (.value (.bool (decide (a=b)))) w:=by
 have E:(eqGuard .eql t x y (.string a) (.string b)).run P w=.ok () w:=by simp[eqGuard]
 simp only[execOp,hx,hy,Sem.run_bind,E,Result.andThen_ok,binOp_string_eql,Sem.run_pure,bytes_beq]
theorem YS {a b:ByteArray}(hx:ev f x=.string a) (hy:ev f y=.string b) (hl:a.size+b.size≤1000000000) :
  (execOp (ev f) ⟨d,.binOp .add t x y t',ty,ps,af,gd⟩).run P w=.ok (.value (.string (a++b))) w:=by
 have E:(eqGuard .add t x y (.string a) (.string b)).run P w=.ok () w:=by simp[eqGuard]
 have G:¬(((a.size+b.size:Nat):Int) > IntKind.i64.max):=by
  rw[show IntKind.i64.max=9223372036854775807 from rfl];omega
 simp only[execOp,hx,hy,Sem.run_bind,E,Result.andThen_ok,binOp_string_add,Op.stringOp,if_neg G,Sem.run_pure]
theorem Qay {a b:Nat}(hx:ev f x=.int .u16 a) (hy:ev f y=.int .u16 b) (ha:a<65536) (hb:b<65536) :
  (execOp (ev f) ⟨d,.binOp .and t x y t',ty,ps,af,gd⟩).run P w=.ok (.value (.int .u16 ((a &&& b:Nat):Int))) w:=by
 refine Xr hx hy ?_;have hi:inK .u16 ((a &&& b:Nat):Int):=by
  have:a &&& b≤a:=Nat.and_le_left;exact ⟨by omega,by omega⟩
 simp only[binOp,Op.intBits,BitVec.ofInt_natCast,ne_eq,not_true_eq_false,if_false,Sem.run_pure];rw[BitVec.toNat_and,BitVec.toNat_ofNat,BitVec.toNat_ofNat,Ms (show a<2 ^ IntKind.u16.bits from ha),Ms (show b<2 ^ IntKind.u16.bits from hb),Yj hi]
theorem QaC {a b:Nat}(ha:a<65536) (hb:b<65536):a ||| b<65536:=Nat.or_lt_two_pow (n:=16) ha hb
theorem qZ {a b:Nat}(hx:ev f x=.int .u16 a) (hy:ev f y=.int .u16 b) (ha:a<65536) (hb:b<65536) :
  (execOp (ev f) ⟨d,.binOp .or t x y t',ty,ps,af,gd⟩).run P w=.ok (.value (.int .u16 ((a ||| b:Nat):Int))) w:=by
 refine Xr hx hy ?_;have hi:inK .u16 ((a ||| b:Nat):Int):=by
  have:=QaC ha hb;exact ⟨by omega,by omega⟩
 simp only[binOp,Op.intBits,BitVec.ofInt_natCast,ne_eq,not_true_eq_false,if_false,Sem.run_pure];rw[BitVec.toNat_or,BitVec.toNat_ofNat,BitVec.toNat_ofNat,Ms (show a<2 ^ IntKind.u16.bits from ha),Ms (show b<2 ^ IntKind.u16.bits from hb),Yj hi]
theorem jD {a b:Nat}(hx:ev f x=.int .u16 a) (hy:ev f y=.int .u16 b) (ha:a<65536) (hb:b<65536) :
  (execOp (ev f) ⟨d,.binOp .andNot t x y t',ty,ps,af,gd⟩).run P w=.ok (.value (.int .u16 ((a &&& (65535 ^^^ b):Nat):Int))) w:=by
 refine Xr hx hy ?_;have hi:inK .u16 ((a &&& (65535 ^^^ b):Nat):Int):=by
  have:a &&& (65535 ^^^ b)≤a:=Nat.and_le_left;exact ⟨by omega,by omega⟩
 have e:(~~~(BitVec.ofNat IntKind.u16.bits b))=BitVec.ofNat IntKind.u16.bits (65535 ^^^ b):=by
  have E:BitVec.allOnes 16=BitVec.ofNat 16 65535:=by decide
  have G:∀z:BitVec 16,~~~z=BitVec.allOnes 16 ^^^ z:=λz=>by
   first
   | exact BitVec.allOnes_xor.symm
   | exact (BitVec.xor_allOnes.symm.trans (BitVec.xor_comm _ _))
  show ~~~(BitVec.ofNat 16 b)=BitVec.ofNat 16 (65535 ^^^ b);rw[G,E];apply BitVec.eq_of_toNat_eq;simp only[BitVec.toNat_xor,BitVec.toNat_ofNat];rw[Ms (show 65535<2 ^ 16 by decide),Ms (show b<2 ^ 16 from hb)];rw[Ms (Nat.xor_lt_two_pow (n:=16) (by decide) hb)]
 simp only[binOp,Op.intBits,BitVec.ofInt_natCast,ne_eq,not_true_eq_false,if_false,Sem.run_pure];rw[e,BitVec.toNat_and,BitVec.toNat_ofNat,BitVec.toNat_ofNat,Ms (show a<2 ^ IntKind.u16.bits from ha),Ms (show 65535 ^^^ b<2 ^ IntKind.u16.bits from Nat.xor_lt_two_pow (n:=16) (by decide) hb),Yj hi]
theorem Qaw {k k':IntKind}{a:Int}{n:Nat}(hx:ev f x=.int k a) (hy:ev f y=.int k' n) (E:n≤k.bits) (hi:inK k (a*2 ^ n)) :
  (execOp (ev f) ⟨d,.binOp .shl t x y t',ty,ps,af,gd⟩).run P w=.ok (.value (.int k (a*2 ^ n))) w:=by
 refine Xr hx hy ?_;have h1:¬((n:Int)<0):=by omega
 simp only[binOp,Op.shift,h1,if_false,Int.toNat_natCast,Nat.min_eq_left E,Sem.run_pure];rw[Yj hi]
end
section
variable {P:Program} {ops:List Oper} {K:Fr→World→Prop} {f:Fr} {w:World} {d:Option Nat} {ty:Nat} {ps:String} {af:Array Edge} {gd:Option (Nat×Bool)} {l:List Oper}
 {t e sz bys:Nat} {z:Value} {x y1 y2:Operand} {L:LN} {v:Value} {n:Nat} {cs:LV} {H:Array Obj} {k k':IntKind} {hi:Nat}
theorem Qdf [h:Sl P t e sz bys z] (E:Zq L H v n sz cs) (hx:ev f x=v) (G:ev f y1=.int k hi) (hm:ev f y2=.int k' hi) (h1:hi≤n) :
  ∃v',Zq L H v' hi sz (cs.take (hi*sz))∧∀w,(execOp (ev f) ⟨d,.slice t x none (some y1) (some y2),ty,ps,af,gd⟩).run P w=.ok (.value v') w:=by
 obtain ⟨ii,I,_,hs,_⟩:=Sl.info h;rcases E.2.2 with ⟨rfl,rfl⟩ | ⟨a,cap,rfl,hc,J⟩
 ·have S:hi=0:=by omega
  subst S;refine ⟨nS,?_,λw=>?_⟩
  ·rw[Nat.zero_mul,List.take_zero];exact Zq.nil _ _ _
  simp[execOp,hx,G,hm,Instr.sliceAt,Instr.slice,Instr.sliceBounds,Instr.sliceBound,asIntOf,run_underlying h.u,sizeOf,typeInfo,I]
 refine ⟨.slice (some a) hi hi,⟨?_,by have:=E.2.1;omega,.inr ⟨a,hi,O,Lr _,λu hu=>J.out u (LW hu),λu hu=>J.lt u (LW hu),λj u hu=>?_⟩⟩,λw=>?_⟩
 ·rw[Lx,E.1,ML (Mm _ h1)]
 ·rw[LK] at hu;split at hu
  ·exact J.cell j u hu
  cases hu
 by_cases S:hi=0
 ·subst S;simp[execOp,hx,G,hm,Instr.sliceAt,Instr.slice,Instr.sliceBounds,Instr.sliceBound,asIntOf,run_underlying h.u,sizeOf,typeInfo,I]
 simp[execOp,hx,G,hm,Instr.sliceAt,Instr.slice,Instr.sliceBounds,Instr.sliceBound,asIntOf,run_underlying h.u,sizeOf,typeInfo,I,Addr.add];intro h9;omega
end
section
variable {P:Program} {ops l:List Oper} {K:Fr→World→Prop} {f:Fr} {w:World} {o:Oper} {C:World→Prop} {pl:List (Nat×Bool)} {i:Nat}
theorem xB {b:Bool}(E:(execOp (ev f) o).run P w=.ok (.value (.bool b)) w) (I:b=true→XL P ops K l (QR f o.dst (.bool true)) w) (J:b=false→XL P ops K l (QR f o.dst (.bool false)) w)
  (G:Z8 ops f o=true:=by rfl):XL P ops K (o::l) f w:=by
 cases hb:b with
 | true=>rw[hb] at E;exact x E (I hb) G
 | false=>rw[hb] at E;exact x E (J hb) G
theorem pB {b:Bool}(E:∀w',(execOp (ev f) (Q3 ops i)).run P w'=.ok (.value (.bool b)) w') (I:b=true→XP P ops C K pl (QR f (Q3 ops i).dst (.bool true)) w) (J:b=false→XP P ops C K pl (QR f (Q3 ops i).dst (.bool false)) w)
  (G:Z8 ops f (Q3 ops i)=true:=by rfl):XP P ops C K ((i,true)::pl) f w:=by
 cases hb:b with
 | true=>rw[hb] at E;exact p E (I hb) G
 | false=>rw[hb] at E;exact p E (J hb) G
theorem Qes {G:Prop} (b:Bool) (E:b=true→G) (I:b=false→G):G:=by cases h:b with | true=>exact E h | false=>exact I h
theorem bT {q:Prop}[Decidable q] (h:q):true=decide q:=(decide_eq_true h).symm
theorem bF {q:Prop}[Decidable q] (h:¬q):false=decide q:=(decide_eq_false h).symm
theorem bD {q r:Prop}[Decidable q] [Decidable r] (h:q↔r):decide q=decide r:=decide_eq_decide.2 h
end
section
variable {P:Program} {f:Fr} {w:World} {d:Option Nat} {ty:Nat} {ps:String} {af:Array Edge} {gd:Option (Nat×Bool)} {t:Nat} {x:Operand}
theorem V4 {q:Prop}[Decidable q] (hx:ev f x=.bool (decide q)):(execOp (ev f) ⟨d,.unOp .not t x,ty,ps,af,gd⟩).run P w=.ok (.value (.bool (decide (¬q)))) w:=by
 rw[Zs hx];simp
end
end Go.Lg
namespace Go.Proofs.YtdffckgdcegpaaaGreatDoor
open Go.Lg
structure JV where
 nm:ByteArray
 co:Bool
 ob:Bool
 fo:Bool
 fl:Int
structure XT where
 nm:ByteArray
 a:QP
structure ji where
 nm:ByteArray
 ls:List (Int×Int)
structure Xf where
 nm:ByteArray
 ts:List (Int×Int)
 bd:Int
structure Zv where
 ev:List JV
 co:List XT
 rq:List XT
 ex:List ji
 cs:List Xf
def JP (n:Nat):LI:=(List.range n).map λi:Nat=>(i:Int)
def nmP (i c:Nat):Prop:=((97≤c∧c≤122)∨(65≤c∧c≤90)∨c=95)∨(i≠0∧48≤c∧c≤57)
instance (i c:Nat):Decidable (nmP i c):=by unfold nmP;infer_instance
def nmQ (s:ByteArray) (i:Nat):Bool:=decide (nmP i (chr s i))
def J5 (s:ByteArray):Bool:=(List.range' 0 s.size).all (nmQ s) && decide (0<s.size∧s.size≤32)
def Xv (seen:List ByteArray) (e:JV):Int:=if J5 e.nm=false then 7 else if e.nm∈seen then 8 else if e.fl<0∨4<e.fl then 2 else if e.fl≠0∧(e.co || e.ob)=true then 13 else 0
def Uv:List ByteArray→List JV→Int
 | _,[]=>0
 | seen,e::l=>if Xv seen e≠0 then Xv seen e else Uv (seen++[e.nm]) l
def Ju (l:List JV):Int:=if 32<l.length then 3 else Uv [] l
def ixs {α:Type}(q:α→Bool):Nat→List α→LI
 | _,[]=>[]
 | i,e::l=>if q e=true then (i:Int)::ixs q (i+1) l else ixs q (i+1) l
def unc (l:List JV):LI:=ixs (λe=>!e.co) 0 l
def KQ (sz:LI):Option Int→List (Int×Int)→Int
 | _,[]=>0
 | pr,l::ls=>if l.1<0∨(sz.length:Int)≤l.1 then 2 else if zo pr l.1=true then 5 else if l.2<0∨cget sz l.1.toNat≤l.2 then 2 else KQ sz (some l.1) ls
def Jd (sz:LI) (ls:List (Int×Int)):Int:=if ls.length=0 then 12 else KQ sz none ls
def grt (n:Int):Bool:=decide (n < -65536) || decide (65536<n)
def Jc (sz:LI):Option Int→List (Int×Int)→Int
 | _,[]=>0
 | pr,l::ls=>if l.1<0∨(sz.length:Int)≤l.1 then 2 else if zo pr l.1=true then 5 else if l.2=0∨grt l.2=true then 2 else Jc sz (some l.1) ls
def Je (sz:LI) (k:Xf):Int:=if k.ts.length=0 then 12 else if Jc sz none k.ts≠0 then Jc sz none k.ts else if grt k.bd=true then 2 else 0
def Vi (seen:List ByteArray) (s:ByteArray):Int:=if J5 s=false then 7 else if s∈seen then 8 else 0
def Yh (sz:LI):List ByteArray→List ji→Int
 | _,[]=>0
 | seen,x::l=>if Vi seen x.nm≠0 then Vi seen x.nm else if Jd sz x.ls≠0 then Jd sz x.ls else Yh sz (seen++[x.nm]) l
def YB (sz:LI):List ByteArray→List Xf→Int
 | _,[]=>0
 | seen,x::l=>if Vi seen x.nm≠0 then Vi seen x.nm else if Je sz x≠0 then Je sz x else YB sz (seen++[x.nm]) l
def JT (n:Int):Bool:=decide (n<1) || decide (4096<n)
def Yt (sz:LI) (ex:List ji) (cs:List Xf):Int:=if 8<sz.length then 3 else if sz.any JT=true then 2 else if 32<ex.length∨32<cs.length then 3 else if Yh sz [] ex≠0 then Yh sz [] ex else YB sz [] cs
def mns (a b:LI):LI:=mrg (λp q=>p && !q) a b
def Vu (a:QP):Bool:=decide (X2 a=0) && decide ((YV a).st=a.st∧(YV a).al=a.al∧(YV a).mr=a.mr∧(YV a).ed=a.ed)
def Z6 (nev:Nat) (amg:LI) (seen:List ByteArray) (x:XT):Int :=
 if J5 x.nm=false then 7 else if x.nm∈seen then 8 else if X2 x.a≠0 then X2 x.a else if Vu x.a=false then 6 else if x.a.st=0 then 12 else
 if (x.a.al.any λe=>decide ((nev:Int)≤e))=true then 2 else if (mns x.a.al amg).length≠0 then 9 else 0
def Yi (nev:Nat) (al:LI):List ByteArray→LI→List XT→Int×List ByteArray×LI
 | s,u,[]=>(0,s,u)
 | s,u,x::l=>if Z6 nev al s x≠0 then (Z6 nev al s x,s,u) else Yi nev al (s++[x.nm]) (mrg (· || ·) u x.a.al) l
def Jt (nev:Nat) (u:LI):List ByteArray→List XT→Int
 | _,[]=>0
 | s,x::l=>if Z6 nev u s x≠0 then Z6 nev u s x else Jt nev u (s++[x.nm]) l
def szs (l:List XT):LI:=l.map (·.a.st)
def auts (l:List XT):List QP:=l.map (·.a)
def Q8 (c:Zv):Int :=
 if Ju c.ev≠0 then Ju c.ev else if c.co.length=0 then 12 else if 8<c.co.length∨12<c.co.length+c.rq.length then 3 else
 if (Yi c.ev.length (JP c.ev.length) [] [] c.co).1≠0 then (Yi c.ev.length (JP c.ev.length) [] [] c.co).1 else
 if Jt c.ev.length (Yi c.ev.length (JP c.ev.length) [] [] c.co).2.2 (Yi c.ev.length (JP c.ev.length) [] [] c.co).2.1 c.rq≠0 then Jt c.ev.length (Yi c.ev.length (JP c.ev.length) [] [] c.co).2.2 (Yi c.ev.length (JP c.ev.length) [] [] c.co).2.1 c.rq else
 Yt (szs c.co) c.ex c.cs
def JY (t:LI) (x:ji):Bool:=x.ls.all λl=>decide (t.getD l.1.toNat 0=l.2)
def Qi9 (t:LI) (k:Xf):Int:=k.ts.foldl (λs p=>s+p.2*t.getD p.1.toNat 0) 0
def K0 (t:LI) (k:Xf):Bool:=decide (k.bd<Qi9 t k)
def fix {α:Type}(q:α→Bool):Nat→List α→Int
 | _,[]=>-1
 | i,e::l=>if q e=true then (i:Int) else fix q (i+1) l
def vio (c:Zv) (t:LI):Option (Int×Int) :=
 if 0≤fix (JY t) 0 c.ex then some (1,fix (JY t) 0 c.ex) else if 0≤fix (K0 t) 0 c.cs then some (2,fix (K0 t) 0 c.cs) else none
def rfr (v:Int):Nat→List XT→LI→Int
 | i,x::l,s::ss=>if v∈x.a.al∧(eget x.a.ed s v).isSome=false then (i:Int) else rfr v (i+1) l ss
 | _,_,_=>-1
structure Rsn where
 st:Int
 kd:Int
 ix:Int
 ev:Int
def rfd (c:Zv) (rs:LI):LI→Option (Int×Int)
 | []=>none
 | v::l=>if 0≤rfr v 0 c.rq rs∧(c.ev.getD v.toNat ⟨.empty,false,false,false,0⟩).co=false then some (rfr v 0 c.rq rs,v) else rfd c rs l
def Qb9 (a:QP) (s:Int):LI:=(ZJ a.ed s).map (·.2.1)
def rsn (c:Zv) (pl:QP) (plc:Int) (i:Nat) (t:LI):Option Rsn :=
 match vio c (t.take c.co.length) with
 | some (k,j)=>some ⟨i,k,j,-1⟩
 | none=>match rfd c (t.drop c.co.length) (Qb9 pl plc) with
  | some (j,v)=>some ⟨i,3,j,v⟩
  | none=>none
structure Spc where
 a:QP
 co:List (LI)
 rq:List (LI)
 pl:LI
 fb:List Rsn
def plx (ps:List (LI)) (t:LI):Int:=if t∈ps then (ps.idxOf t:Int) else 0
def QhA (c:Zv) (pl:QP) (ps:List (LI)) (s:Spc) (p:LI×Nat):Spc :=
 ⟨s.a,s.co++[p.1.take c.co.length],s.rq++[p.1.drop c.co.length],s.pl++[plx ps (p.1.take c.co.length)],
  match rsn c pl (plx ps (p.1.take c.co.length)) p.2 p.1 with | some r=>s.fb++[r] | none=>s.fb⟩
def Yr (c:Zv):Int:=if Q8 c≠0 then Q8 c else if KX (auts c.co)≠0 then KX (auts c.co) else match sync (auts c.co) with
 | none=>3
 | some _=>if KX (auts c.co++auts c.rq)≠0 then KX (auts c.co++auts c.rq) else match sync (auts c.co++auts c.rq) with
  | none=>3
  | some _=>0
def syA (l:List QP):QP:=match sync l with | none=>⟨[],0,[],[]⟩ | some z=>z.1
def syQ (l:List QP):List (LI):=match sync l with | none=>[] | some z=>z.2
def spc (c:Zv):Spc:=(syQ (auts c.co++auts c.rq)).zipIdx.foldl (QhA c (syA (auts c.co)) (syQ (auts c.co))) ⟨syA (auts c.co++auts c.rq),[],[],[],[]⟩
end Go.Proofs.YtdffckgdcegpaaaGreatDoor
namespace Go.Lg
section
variable {P:Program} {f:Fr} {w:World} {d:Option Nat} {ty:Nat} {ps:String} {af:Array Edge} {gd:Option (Nat×Bool)}
end
inductive Pu where
 | pl (l:List (Nat×Bool))
 | f2 (pre:List (Nat×Bool)) (i j:Nat) (t1 t2:Pu)
 | f3 (pre:List (Nat×Bool)) (i j k:Nat) (t1 t2 t3:Pu)
def Pu.len:Pu→Nat
 | .pl l=>l.length
 | .f2 pre _ _ t1 _=>pre.length+(1+t1.len)
 | .f3 pre _ _ _ t1 _ _=>pre.length+(1+t1.len)
def q9 (all:Array Oper):Pu→Array Bool→Bool
 | .pl l,ls=>YP all l ls
 | .f2 pre i j t1 t2,ls=>JC all pre ls && Region.ready .any all (ZW pre ls) == [i,j] && t1.len == t2.len && q9 all t1 ((ZW pre ls).setIfInBounds i true) && q9 all t2 ((ZW pre ls).setIfInBounds j true)
 | .f3 pre i j k t1 t2 t3,ls=>JC all pre ls && Region.ready .any all (ZW pre ls) == [i,j,k] && t1.len == t2.len && t1.len == t3.len && q9 all t1 ((ZW pre ls).setIfInBounds i true) && q9 all t2 ((ZW pre ls).setIfInBounds j true) && q9 all t3 ((ZW pre ls).setIfInBounds k true)
def Qjd (all:List Oper) (t:Pu):Bool:=Region.noSelect all.toArray && t.len == all.length && q9 all.toArray t (Array.replicate all.length false)
def XE (P:Program) (all:List Oper) (C:World→Prop) (i:Nat) (N:Fr→World→Prop) (f:Fr) (w:World):Prop:=Z8 all f (Q3 all i)=true∧XO P (Q3 all i) f w λE w'=>C w'∧N E w'
def XU (P:Program) (all:List Oper) (C:World→Prop) (K:Fr→World→Prop):Pu→Fr→World→Prop
 | .pl l=>XP P all C K l
 | .f2 pre i j t1 t2=>XP P all C (λf w=>XE P all C i (XU P all C K t1) f w∧XE P all C j (XU P all C K t2) f w) pre
 | .f3 pre i j k t1 t2 t3=>XP P all C (λf w=>XE P all C i (XU P all C K t1) f w∧XE P all C j (XU P all C K t2) f w∧XE P all C k (XU P all C K t3) f w) pre
section
variable {P:Program} {n:Nat} {f:Fr} {w:World} {all:List Oper} {C:World→Prop} {K B:Fr→World→Prop}
theorem XN (hs:Region.noSelect all.toArray=true):∀(t:Pu) (ls:Array Bool) (f:Fr) (w:World),ls.size=all.length→C w→q9 all.toArray t ls=true→XU P all C K t f w→XA P all C K t.len ls f w
 | .pl l,ls,f,w,J,hC,hp,h=>ZA hs l ls f w J (.inl hC) hp h
 | .f2 pre i j t1 t2,ls,f,w,J,hC,hp,h=>by
  simp only[q9,Bool.and_eq_true,beq_iff_eq] at hp;obtain ⟨⟨⟨⟨hq,E⟩,hl⟩,h1⟩,h2⟩:=hp;rw[Pu.len];refine Yw (B:=λf w=>XE P all C i (XU P all C K t1) f w∧XE P all C j (XU P all C K t2) f w) hs pre ls f w hC hq (λf G=>?_) h;have H:∀k,((ZW pre ls).setIfInBounds k true).size=all.length:=λk=>by simp[Yy,J]
  rw[MO 1];refine X4 (λS=>(by rw[S] at E;cases E)) ?_;rw[E];intro k hk o I;simp only[List.mem_cons,List.not_mem_nil,or_false] at hk;rcases hk with rfl | rfl
  ·have:=G.1;unfold XE at this;rw[Zl I] at this;rw[this.1,cond_true];exact this.2.mono λv w' hx=>⟨.inr (.inr hx.1),XN hs t1 _ _ _ (H _) hx.1 h1 hx.2⟩
  have:=G.2;unfold XE at this;rw[Zl I] at this;rw[this.1,cond_true,hl];exact this.2.mono λv w' hx=>⟨.inr (.inr hx.1),XN hs t2 _ _ _ (H _) hx.1 h2 hx.2⟩
 | .f3 pre i j k t1 t2 t3,ls,f,w,J,hC,hp,h=>by
  simp only[q9,Bool.and_eq_true,beq_iff_eq] at hp;obtain ⟨⟨⟨⟨⟨⟨hq,E⟩,hl⟩,T⟩,h1⟩,h2⟩,h3⟩:=hp;rw[Pu.len];refine Yw (B:=λf w=>XE P all C i (XU P all C K t1) f w∧XE P all C j (XU P all C K t2) f w∧XE P all C k (XU P all C K t3) f w) hs pre ls f w hC hq (λf G=>?_) h;have H:∀k,((ZW pre ls).setIfInBounds k true).size=all.length:=λk=>by simp[Yy,J]
  rw[MO 1];refine X4 (λS=>(by rw[S] at E;cases E)) ?_;rw[E];intro q hk o I;simp only[List.mem_cons,List.not_mem_nil,or_false] at hk;rcases hk with rfl | rfl | rfl
  ·have:=G.1;unfold XE at this;rw[Zl I] at this;rw[this.1,cond_true];exact this.2.mono λv w' hx=>⟨.inr (.inr hx.1),XN hs t1 _ _ _ (H _) hx.1 h1 hx.2⟩
  ·have:=G.2.1;unfold XE at this;rw[Zl I] at this;rw[this.1,cond_true,hl];exact this.2.mono λv w' hx=>⟨.inr (.inr hx.1),XN hs t2 _ _ _ (H _) hx.1 h2 hx.2⟩
  have:=G.2.2;unfold XE at this;rw[Zl I] at this;rw[this.1,cond_true,T];exact this.2.mono λv w' hx=>⟨.inr (.inr hx.1),XN hs t3 _ _ _ (H _) hx.1 h3 hx.2⟩
theorem Qg2 {Q:Exit→Fr→World→Prop}{id:Nat}(C:World→Prop) (t:Pu) (hm:P.follows .mixedOrders=true) (E:Xu n all=true) (hp:Qjd all t=true)
  (hC:C { w with drawn:=w.drawn+1 }) (h:XU P all C (λf w=>Q .normal f w) t f { w with drawn:=w.drawn+1 }):W P n (.region id all.toArray true) Q f w:=by
 simp only[Qjd,Bool.and_eq_true,beq_iff_eq] at hp;obtain ⟨⟨hs,hl⟩,hp⟩:=hp;refine Ke C hm E ?_;have h1:=XN hs t _ _ _ (by simp) hC hp h;rw[hl] at h1;exact h1
theorem uP {l:List (Nat×Bool)}(h:XP P all C K l f w):XU P all C K (.pl l) f w:=h
theorem u2 {pre:List (Nat×Bool)}{i j:Nat}{E G:Pu}(h:XP P all C (λf w=>XE P all C i (XU P all C K E) f w∧XE P all C j (XU P all C K G) f w) pre f w):XU P all C K (.f2 pre i j E G) f w:=h
theorem u3 {pre:List (Nat×Bool)}{i j k:Nat}{E G H:Pu}(h:XP P all C (λf w=>XE P all C i (XU P all C K E) f w∧XE P all C j (XU P all C K G) f w∧XE P all C k (XU P all C K H) f w) pre f w):XU P all C K (.f3 pre i j k E G H) f w:=h
theorem ue {i:Nat}{N:Fr→World→Prop}(h:XO P (Q3 all i) f w λE w'=>C w'∧N E w') (G:Z8 all f (Q3 all i)=true:=by rfl):XE P all C i N f w:=⟨G,h⟩
end
attribute [irreducible] XU XE
open Go.RowKit
abbrev fen (ro:Option Nat):Fence:={ Fence.wide with round:=ro }
def coll (ds:LN):List Deferred:=ds.map λD=>{ target:=.collected D,args:=#[] }
structure Yn (n:Nat) (ds:LN) (a:Act) (f:Fr):Prop where
 size:a.tmps.size=n
 defers:a.defers=coll ds
 get:∀t,a.tmps.getD t undef=f t
theorem Yn.rel {n:Nat} {ds:LN} {a:Act} {f:Fr} (h:Yn n ds a f):zN n { a with defers:=[] } f:=⟨h.size,O,h.get⟩
theorem Yn.eval {n:Nat}{ds:LN}{a:Act}{f:Fr}(h:Yn n ds a f):a.eval=ev f:=by
 have:=h.rel.eval;rw[←this];funext x;cases x <;> rfl
theorem Yn.put {n:Nat}{ds:LN}{a:Act}{f:Fr}(h:Yn n ds a f) {dst:Option Nat}(hd:∀d,dst=some d→d<n) (v:Value):Yn n ds (a.put dst v) (QR f dst v):=by
 have:=h.rel.put hd v;cases dst with
 | none=>exact h
 | some d=>exact ⟨this.size,h.defers,this.get⟩
def YO:Code→Nat→Bool
 | .region _ ops _,t=>ZG ops.toList t
 | .seq a b,t=>YO a t || YO b t
 | .cond _ a b,t=>YO a t || YO b t
 | .block _ a,t=>YO a t
 | .loop a,t=>YO a t
 | .skip,_ | .exit _,_ | .label _,_ | .goto _,_ | .ret,_ | .rangeFunc ..,_=>false
 | _,_=>true
def jk (D:List (Nat×Nat)):Code→Bool
 | .region _ ops _=>Qak D ops.toList
 | .seq a b=>jk D a && jk D b
 | .cond _ a b=>jk D a && jk D b
 | .block _ a=>jk D a
 | .loop a=>jk D a
 | .skip | .exit _ | .label _ | .goto _ | .ret | .rangeFunc ..=>true
 | _=>false
theorem Xm {D:List (Nat×Nat)}{t:Nat}(E:Y4 D t=false):∀c:Code,jk D c=true→YO c t=false
 | .region _ ops _,h=>U1 h E
 | .seq a b,h=>by simp only[jk,Bool.and_eq_true] at h;simp[YO,Xm E a h.1,Xm E b h.2]
 | .cond _ a b,h=>by simp only[jk,Bool.and_eq_true] at h;simp[YO,Xm E a h.1,Xm E b h.2]
 | .block _ a,h=>Xm E a (by simpa[jk] using h)
 | .loop a,h=>Xm E a (by simpa[jk] using h)
 | .skip,_=>rfl
 | .exit _,_=>rfl
 | .label _,_=>rfl
 | .goto _,_=>rfl
 | .ret,_=>rfl
 | .rangeFunc ..,_=>rfl
 | .scope _,h=>by simp[jk] at h
 | .refuse _,h=>by simp[jk] at h
def WG (ro:Option Nat) (m:Nat) (P:Program) (n:Nat) (c:Code) (Q:Exit→LN→Fr→World→Prop) (ds:LN) (f:Fr) (w:World):Prop :=
 ∀a,Yn n ds a f→c.wpIn (fen ro) m P (λe E w'=>∃ds' f',Yn n ds' E f'∧(∀t,YO c t=false→f' t=f t)∧Q e ds' f' w') a w
def jn (K:LN→Fr→World→Prop) (Q:Exit→LN→Fr→World→Prop):Exit→LN→Fr→World→Prop
 | .normal,ds,f,w=>K ds f w
 | e,ds,f,w=>Q e ds f w
def QjE (id:Nat) (Q:Exit→LN→Fr→World→Prop):Exit→LN→Fr→World→Prop
 | .exit i,ds,f,w=>bif Nat.beq i id then Q .normal ds f w else Q (.exit i) ds f w
 | e,ds,f,w=>Q e ds f w
section
variable {ro:Option Nat} {m:Nat} {P:Program} {n:Nat} {Q:Exit→LN→Fr→World→Prop} {ds:LN} {f:Fr} {w:World}
theorem WG.mono {c:Code}{Q':Exit→LN→Fr→World→Prop}(h:WG ro m P n c Q ds f w) (hq:∀e ds f w,Q e ds f w→Q' e ds f w):WG ro m P n c Q' ds f w :=
 λa ha=>wpIn_mono (h a ha) λ_ _ _ ⟨E,G,h1,h2,h3⟩=>⟨E,G,h1,h2,hq _ _ _ _ h3⟩
theorem WG.keeps {c:Code}(h:WG ro m P n c Q ds f w):WG ro m P n c (λe G E w'=>(∀t,YO c t=false→E t=f t)∧Q e G E w') ds f w :=
 λa ha=>wpIn_mono (h a ha) λ_ _ _ ⟨G,E,h1,h2,h3⟩=>⟨G,E,h1,h2,h2,h3⟩
theorem Z3 (h:Q .normal ds f w):WG ro m P n .skip Q ds f w:=λ_ ha=>wpIn_skip ⟨ds,f,ha,λ_ _=>O,h⟩
theorem JB {i:Nat}(h:Q (.exit i) ds f w):WG ro m P n (.exit i) Q ds f w:=λ_ ha=>wpIn_exit ⟨ds,f,ha,λ_ _=>O,h⟩
theorem JA (h:Q .ret ds f w):WG ro m P n .ret Q ds f w:=λ_ ha=>wpIn_ret ⟨ds,f,ha,λ_ _=>O,h⟩
theorem QT {x y:Code}(h:WG ro m P n x (jn (λds f w=>WG ro m P n y Q ds f w) Q) ds f w):WG ro m P n (.seq x y) Q ds f w:=by
 intro a ha;refine wpIn_seq (wpIn_mono (h a ha) ?_);rintro e I w' ⟨H,E,h1,h2,h3⟩;have k1:∀t,YO (.seq x y) t=false→E t=f t:=λt G=>h2 t (by simp only[YO,Bool.or_eq_false_iff] at G;exact G.1);cases e with
 | normal =>
  refine wpIn_mono (h3 I h1) λ_ _ _ ⟨J,S,g1,T,V⟩=>⟨J,S,g1,λt G=>(T t ?_).trans (k1 t G),V⟩;simp only[YO,Bool.or_eq_false_iff] at G;exact G.2
 | exit id=>exact ⟨H,E,h1,k1,h3⟩
 | goto l=>exact ⟨H,E,h1,k1,h3⟩
 | ret=>exact ⟨H,E,h1,k1,h3⟩
 | panic ch=>exact ⟨H,E,h1,k1,h3⟩
 | outgrown=>exact ⟨H,E,h1,k1,h3⟩
theorem Qbq {α:Type}{x y:Code}(D:List (Nat×Nat)) (S:α→List (Nat×Value)) (I:α→LN→World→Prop) (H:jk D x=true)
  (h1:WG ro m P n x (jn (λE G w'=>∃z,Xe G (S z)∧I z E w') Q) ds f w)
  (h2:∀z g E w',I z E w'→WG ro m P n y Q E (qO (S z) (mix D f g)) w'):WG ro m P n (.seq x y) Q ds f w:=by
 refine QT (h1.keeps.mono ?_);rintro e E G w' ⟨hk,hq⟩;cases e with
 | normal =>
  obtain ⟨z,hs,hi⟩:=hq;have h3:=h2 z G E w' hi;rw[Jo (λt J=>hk t (Xm J x H)),YC hs] at h3;exact h3
 | exit id=>exact hq
 | goto l=>exact hq
 | ret=>exact hq
 | panic ch=>exact hq
 | outgrown=>exact hq
theorem Kh {c:Operand}{x y:Code}{t:Bool}(hc:ev f c=.bool t) (E:t=true→WG ro m P n x Q ds f w) (G:t=false→WG ro m P n y Q ds f w) :
  WG ro m P n (.cond c x y) Q ds f w:=by
 intro a ha;have H:a.eval c=.bool t:=by rw[ha.eval];exact hc
 refine wpIn_cond_split H (λe=>wpIn_mono (E e a ha) ?_) (λe=>wpIn_mono (G e a ha) ?_) <;>
  (rintro e S w' ⟨I,J,h1,h2,h3⟩
   refine ⟨I,J,h1,λt E=>h2 t ?_,h3⟩;simp only[YO,Bool.or_eq_false_iff] at E
   first | exact E.1 | exact E.2)
theorem Qg7 {c:Operand}{x y:Code}{p:Prop}[Decidable p] (hc:ev f c=.bool (decide p)) (E:p→WG ro m P n x Q ds f w) (G:¬p→WG ro m P n y Q ds f w) :
  WG ro m P n (.cond c x y) Q ds f w :=
 Kh hc (λe=>E (of_decide_eq_true e)) (λe=>G (of_decide_eq_false e))
theorem qL {c:Operand}{x y:Code}{p:Prop}[Decidable p] (hc:ev f c=.bool (decide p)) (E:¬p→WG ro m P n y Q ds f w) (G:p→WG ro m P n x Q ds f w) :
  WG ro m P n (.cond c x y) Q ds f w:=Qg7 hc G E
theorem zH {c:Operand}{x y:Code}(hc:ev f c=.bool true) (h:WG ro m P n x Q ds f w):WG ro m P n (.cond c x y) Q ds f w:=Kh hc (λ_=>h) (λe=>by cases e)
theorem JO {c:Operand}{x y:Code}(hc:ev f c=.bool false) (h:WG ro m P n y Q ds f w):WG ro m P n (.cond c x y) Q ds f w:=Kh hc (λe=>by cases e) (λ_=>h)
theorem ZE {id:Nat}{c:Code}(h:WG ro m P n c (QjE id Q) ds f w):WG ro m P n (.block id c) Q ds f w:=by
 intro a ha;refine wpIn_block (wpIn_mono (h a ha) ?_);rintro e I w' ⟨G,E,h1,h2,h3⟩;have k1:∀t,YO (.block id c) t=false→E t=f t:=λt H=>h2 t (by simpa[YO] using H);cases e with
 | exit i =>
  simp only[Exit.inBlock];simp only[QjE] at h3;by_cases hi:i=id
  ·subst hi;simp only[Nat.beq_refl,cond_true] at h3;simp only[if_true];exact ⟨G,E,h1,k1,h3⟩
  have hb:Nat.beq i id=false:=by
   cases e:Nat.beq i id with
   | false=>rfl
   | true=>exact absurd (Nat.eq_of_beq_eq_true e) hi
  rw[hb] at h3;rw[if_neg hi];exact ⟨G,E,h1,k1,h3⟩
 | normal=>exact ⟨G,E,h1,k1,h3⟩
 | goto l=>exact ⟨G,E,h1,k1,h3⟩
 | ret=>exact ⟨G,E,h1,k1,h3⟩
 | panic ch=>exact ⟨G,E,h1,k1,h3⟩
 | outgrown=>exact ⟨G,E,h1,k1,h3⟩
end
def yh (l:List Oper):Bool:=l.all λo=>match o.op with | .defer _=>false | _=>true
theorem J3 {l:List Oper}(h:yh l=true):∀o∈l,∀c,o.op≠.defer c:=λo E c e=>by
 have:=Mi.1 h o E;rw[e] at this;cases this
section
variable {ro:Option Nat} {m:Nat} {P:Program} {n:Nat} {ds:LN}
theorem Qbk {o:Oper}{a:Act}{f:Fr}{w:World}{K:Fr→World→Prop}{K':Act→World→Prop}{Q:Exit→Act→World→Prop}(h:Yn n ds a f) (G:∀c,o.op≠.defer c)
  (E:∀v w',K (QR f o.dst v) w'→K' (a.put o.dst v) w') (hx:XO P o f w K):o.wpIn (fen ro) m P a w K' Q:=by
 unfold XO at hx;refine ⟨λ_ _=>trivial,?_⟩;have e:Oper.semAt (fen ro).round a.eval o=execOp (ev f) o:=by
  rw[h.eval];cases ro with
  | none=>rfl
  | some l=>exact Oper.semAt_some l _ _ G
 rw[e];generalize (execOp (ev f) o).run P w=r at hx;cases r with
 | ok nx w' =>
  cases nx <;> simp only[upF] at hx <;> simp only[Oper.uponIn]
  case value v=>exact E v w' hx
  case skip=>exact E _ w' hx
  case enter g args =>
   refine ⟨λh=>by simp[Fence.wide] at h,?_⟩;refine (callsIn_wide (n:=m - 1)).2 (Calls.mono hx λe H he=>?_);cases e with
   | returned v=>exact E v H he
   | panicked c=>exact he.elim
   | outgrown=>exact he.elim
 | halt x w'=>exact hx.elim
theorem JX {l:List Oper}{a:Act}{f:Fr}(h:Yn n ds a f) (E:∀o∈l,∀d,o.dst=some d→d<n) (o:Oper):Region.wanted o (yielded l.toArray a.tmps)=Z8 l f o:=KZ h.rel E o
theorem Qbm {Q:Exit→LN→Fr→World→Prop}{all:List Oper}(G:∀o∈all,∀d,o.dst=some d→d<n) (hd:∀o∈all,∀c,o.op≠.defer c) (H:Fr) :
  ∀(l:List Oper) (k:Nat) (a:Act) (f:Fr) (w:World),(∀j,l[j]?=all[k+j]?)→Yn n ds a f→(∀t,ZG all t=false→f t=H t) →
   XL P all (λf w=>Q .normal ds f w) l f w →
   wpOpsIn (fen ro) m P all.toArray (λe V w'=>∃ds' f',Yn n ds' V f'∧(∀t,ZG all t=false→f' t=H t)∧Q e ds' f' w') (List.range' k l.length) a w
 | [],_,a,f,w,_,E,hk,h=>⟨ds,f,E,hk,by unfold XL at h;exact h⟩
 | o::l,k,a,f,w,hl,E,hk,h=>by
  have J:all[k]?=some o:=by simpa using (hl 0).symm
  have I:o∈all:=LT J;have ih:=λa f w=>Qbm (Q:=Q) G hd H l (k+1) a f w (λj=>by have:=hl (j+1);simpa[Nat.add_assoc,Nat.add_comm 1 j] using this);have next:∀v,(∀t,ZG all t=false→QR f o.dst v t=H t):=λv t S=>(YE (Y0 I S) v).trans (hk t S);simp only[List.length_cons,List.range'_succ,wpOpsIn,List.getElem?_toArray,J];rw[JX E G o];unfold XL at h;cases T:Z8 all f o with
  | false =>
   rw[T] at h;exact ⟨λ_ _=>trivial,ih _ _ _ (E.put (G o I) _) (next _) h⟩
  | true =>
   rw[T] at h;exact Qbk E (hd o I) (λv w' hx=>ih _ _ _ (E.put (G o I) v) (next v) hx) h
theorem QG {Q:Exit→LN→Fr→World→Prop}{f:Fr}{w:World}{id:Nat}{l:List Oper}(E:Xu n l=true) (hd:yh l=true) (h:XL P l (λf w=>Q .normal ds f w) l f w):WG ro m P n (.region id l.toArray false) Q ds f w:=by
 intro a ha;refine wpIn_region ?_;have:=Qbm (ro:=ro) (m:=m) (Ys E) (J3 hd) f l 0 a f w (by simp) ha (λ_ _=>rfl) h;simpa[List.range_eq_range',YO] using this
attribute [local semireducible] XA in
theorem VS {Q:Exit→Act→World→Prop}{all:List Oper}{C:World→Prop}{K:Fr→World→Prop}(G:∀o∈all,∀d,o.dst=some d→d<n) (hd:∀o∈all,∀c,o.op≠.defer c) (H:Fr)
  (I:∀a f w,Yn n ds a f→(∀t,ZG all t=false→f t=H t)→K f w→Q .normal a w) :
  ∀(k:Nat) (ls:Array Bool) (a:Act) (f:Fr) (w:World),Yn n ds a f→(∀t,ZG all t=false→f t=H t)→XA P all C K k ls f w→wpAnyIn (fen ro) m P .any all.toArray Q k ls a w
 | 0,_,a,f,w,E,hk,h=>⟨h.1,I a f w E hk h.2⟩
 | k+1,ls,a,f,w,E,hk,h=>by
  refine ⟨λY=>I a f w E hk (h.1 Y),λi hi=>?_⟩;unfold wpOpIn;simp only[List.getElem?_toArray];cases S:all[i]? with
  | none =>
   exfalso;obtain ⟨_,o,ha,_⟩:=mem_ready.1 hi;simp[S] at ha
  | some o =>
   have J:o∈all:=LT S;have h1:=h.2 i hi o S;have next:∀v,(∀t,ZG all t=false→QR f o.dst v t=H t):=λv t T=>(YE (Y0 J T) v).trans (hk t T);simp only[];rw[JX E G o];cases V:Z8 all f o with
   | false =>
    rw[V] at h1;exact ⟨λ_ _=>trivial,VS G hd H I k _ _ _ _ (E.put (G o J) _) (next _) h1⟩
   | true =>
    rw[V] at h1;exact Qbk E (hd o J) (λv w' hx=>VS G hd H I k _ _ _ _ (E.put (G o J) v) (next v) hx.2) h1
theorem UI {Q:Exit→LN→Fr→World→Prop}{f:Fr}{w:World}{all:List Oper}{id:Nat}(C:World→Prop) (pl:List (Nat×Bool)) (hm:P.follows .mixedOrders=true) (G:Xu n all=true) (hd:yh all=true) (hp:zc all pl=true)
  (hC:C { w with drawn:=w.drawn+1 }) (h:XP P all C (λf w=>Q .normal ds f w) pl f { w with drawn:=w.drawn+1 }):WG ro m P n (.region id all.toArray true) Q ds f w:=by
 intro a ha;simp only[zc,Bool.and_eq_true,beq_iff_eq] at hp;obtain ⟨⟨hs,hl⟩,hp⟩:=hp;refine wpIn_region_any hm ?_;have h1:=ZA hs pl _ _ _ (by simp) (.inl hC) hp h;rw[hl] at h1;have h2:=VS (ro:=ro) (m:=m) (n:=n) (ds:=ds) (Q:=λe H w'=>∃ds' E,Yn n ds' H E∧(∀t,ZG all t=false→E t=f t)∧Q e ds' E w') (Ys G) (J3 hd) f
  (λa E w I hk hq=>⟨ds,E,I,hk,hq⟩) _ _ a f _ ha (λ_ _=>O) h1
 simpa[YO] using h2
end
section
variable {ro:Option Nat} {m:Nat} {P:Program} {n:Nat} {Q:Exit→LN→Fr→World→Prop} {ds:LN} {f:Fr} {w:World}
theorem VC {α:Type}{F:Fence}{c:Code}{Q:Exit→Act→World→Prop}{a:Act}{w:World}(J:α→Act→World→Prop) (μ:α→Nat) (z:α) (h₀:J z a w)
  (round:∀x a w,J x a w→c.wpIn F m P (Exit.then (λG w'=>∃H,μ H<μ x∧J H G w') Q) a w):(Code.loop c).wpIn F m P Q a w:=by
 intro b k cs S hb I;have key:∀j x a w,μ x=j→J x a w →
   ∃e G w',Q e G w'∧ArrivesIn (Machine.fenced P F) P (lone (b.atR a (.code c::.inLoop c::k)) cs w) b k cs e G w':=by
  intro j;induction j using Nat.strongRecOn with
  | _ j ih =>
   intro x a w T V;obtain ⟨e,a₁,w₁,hq,E⟩:=round x a w V b (.inLoop c::k) cs S hb I;cases e with
   | normal =>
    obtain ⟨H,Y,ha⟩:=hq;obtain ⟨e₂,a₂,w₂,hq₂,harr₂⟩:=ih (μ H) (T ▸ Y) H a₁ w₁ O ha;exact ⟨e₂,a₂,w₂,hq₂,.of_steps (StepsIn.trans E (.one (fenced_calm hb I O) stepR_inLoop)) harr₂⟩
   | exit id=>exact ⟨_,a₁,w₁,hq,.pass (x:=.inLoop c) O (λ_ _=>.inl (by simp)) E⟩
   | goto l=>exact ⟨_,a₁,w₁,hq,.pass (x:=.inLoop c) O (λ_ _=>.inl (by simp)) E⟩
   | ret=>exact ⟨_,a₁,w₁,hq,.pass (x:=.inLoop c) O (λ_ _=>.inl (by simp)) E⟩
   | panic ch=>exact ⟨_,a₁,w₁,hq,.pass (x:=.inLoop c) O (λ_ _=>.inl (by simp)) E⟩
   | outgrown=>exact ⟨_,a₁,w₁,hq,.pass (x:=.inLoop c) O (λ_ _=>.inl (by simp)) E⟩
 obtain ⟨e,G,w',hq,E⟩:=key _ z a w O h₀;exact ⟨e,G,w',hq,.of_steps (.one (fenced_calm hb I O) stepR_loop) E⟩
theorem Vr {α:Type}{c:Code}(D:List (Nat×Nat)) (S:α→List (Nat×Value)) (I:α→LN→World→Prop) (μ:α→Nat) (hD:jk D c=true) (z:α)
  (h0:Xe f (S z)) (hI:I z ds w)
  (round:∀x g H w',I x H w'→WG ro m P n c (jn (λE J hb=>∃Y,μ Y<μ x∧Xe J (S Y)∧I Y E hb) Q) H (qO (S x) (mix D f g)) w'):WG ro m P n (.loop c) Q ds f w:=by
 intro a ha;refine VC (λ(x:α) a' w'=>∃H J,Yn n H a' J∧(∀t,YO c t=false→J t=f t)∧Xe J (S x)∧I x H w') μ z ⟨ds,f,ha,λ_ _=>O,h0,hI⟩ ?_;rintro x a' w' ⟨H,J,h1,h2,h3,h4⟩;have h5:=round x J H w' h4;rw[Jo (λt T=>h2 t (Xm T c hD)),YC h3] at h5;refine wpIn_mono (h5 a' h1) ?_;rintro e hc hb ⟨E,G,g1,g2,V⟩;have k1:∀t,YO c t=false→G t=f t:=λt T=>(g2 t T).trans (h2 t T)
 have k2:∀t,YO (.loop c) t=false→G t=f t:=λt T=>k1 t (by simpa[YO] using T);cases e with
 | normal=>obtain ⟨Y,hm,hs,hi⟩:=V;exact ⟨Y,hm,E,G,g1,k1,hs,hi⟩
 | exit id=>exact ⟨E,G,g1,k2,V⟩
 | goto l=>exact ⟨E,G,g1,k2,V⟩
 | ret=>exact ⟨E,G,g1,k2,V⟩
 | panic ch=>exact ⟨E,G,g1,k2,V⟩
 | outgrown=>exact ⟨E,G,g1,k2,V⟩
end
def rqG (P:Program) (rs:List ResultVar) (R:Value→World→Prop):Exit→LN→Fr→World→Prop
 | .normal,ds,f,w=>(∀D∈ds,w.heap[D]?=some (.deferred (some [])))∧ds.Nodup∧∃vs,∀w',Step ds w w'→KW P f w' rs vs∧R (tup vs) w'
 | .ret,ds,f,w=>(∀D∈ds,w.heap[D]?=some (.deferred (some [])))∧ds.Nodup∧∃vs,∀w',Step ds w w'→KW P f w' rs vs∧R (tup vs) w'
 | _,_,_,_=>False
theorem Step.putObj (w:World) (D:Nat) (o:Obj):Step [D] w (w.putObj D o):=⟨O,O,O,by simp,λk _ hk=>World.putObj_heap_other (λe=>hk (by simp[e]))⟩
theorem Ud {F:Fence}{m:Nat}{P:Program}{fn:Func}{tmps:Array Value}{R:Ending→World→Prop}:∀(ds:LN) (w:World),(∀D∈ds,w.heap[D]?=some (.deferred (some [])))→ds.Nodup →
  (∀w',Step ds w w'→∃v,(results fn tmps).run P w'=.ok v w'∧R (.returned v) w')→LeavesInM F m P fn tmps R (coll ds) .returning w
 | [],w,_,_,h=>h w (Step.refl _ _)
 | D::ds,w,G,I,h=>by
  refine ⟨by simp,.inl ⟨D,_,rfl,run_takeDeferred (G D Ls),?_⟩⟩;have hs:=Step.putObj w D (.deferred none);have H:=List.nodup_cons.1 I;refine Ud ds _ (λE hE=>?_) H.2 (λw' J=>h w' ?_)
  ·rw[World.putObj_heap_other (λe=>H.1 (by rw[←e];exact hE))];exact G E (Lm _ hE)
  exact (hs.mono (λb hb=>by simp at hb;simp[hb])).trans' (J.mono (λb hb=>Lm _ hb))
theorem QI.of_G {P:Program}{g:Nat}{fn:Func}{c:Code}{args:LV}{w:World}{R:Value→World→Prop}{n:Nat}{rs:List ResultVar}(m:Nat)
  (T:P.funcs[g]?=some fn) (hb:fn.body=some c) (V:fn.ntmps=n) (Y:fn.results=rs.toArray) (hl:args.length≤n)
  (h:WG none m P n c (rqG P rs R) [] (ent args) w):QI P g args w R:=by
 unfold QI;refine (callsIn_wide (n:=m)).1 (callsIn_of_wp_marks T hb U (wpIn_mono (h _ ?_) ?_))
 ·refine ⟨by simp[V];omega,O,λt=>?_⟩;have key:∀(l:LV) (t:Nat),l[t]?.getD undef=ent l t:=by
   intro l;induction l with
   | nil=>intro t;rfl
   | cons v l ih=>intro t;cases t with | zero=>rfl | succ t=>simpa[ent] using ih t
  rw[←key];simp only[Array.getD_eq_getD_getElem?,Array.getElem?_append,List.size_toArray,List.getElem?_toArray];by_cases I:t<args.length
  ·simp[I]
  simp[I,Array.getElem?_replicate];split <;> rfl
 rintro e H w' ⟨G,f',h1,_,h3⟩;have fin:((∀D∈G,w'.heap[D]?=some (.deferred (some [])))∧G.Nodup∧∃vs,∀E,Step G w' E→KW P f' E rs vs∧R (tup vs) E) →
   LeavesInM Fence.wide m P fn H.tmps (λe w'=>match e with | .returned v=>R v w' | _=>False) H.defers .returning w':=by
  rintro ⟨hd,ha,vs,J⟩;rw[h1.defers];refine Ud G w' hd ha λE S=>⟨tup vs,?_,(J E S).2⟩;simp only[results,Y,List.mapM_toArray,Sem.run_bind,Sem.run_map];rw[Xo (a:={ H with defers:=[] }) h1.rel _ (λ_=>rfl) (λ_ _=>rfl) rs vs (J E S).1]
  cases vs with
  | nil=>rfl
  | cons v vs=>cases vs with | nil=>rfl | cons u us=>rfl
 cases e with
 | normal=>exact fin h3
 | ret=>exact fin h3
 | exit id=>exact h3.elim
 | goto l=>exact h3.elim
 | panic c=>exact h3.elim
 | outgrown=>exact h3.elim
attribute [irreducible] WG
end Go.Lg
namespace Go.Proofs.YtdffckgdcegpaaaGreatDoor
open Go.Proofs.Tryz
open Go.Lg
def IxQ {α:Type}(q:α→Bool) (E:List α) (r:Value):Prop:=(r=.int .i64 (-1)∧∀m (hm:m<E.length),q (E[m]'hm)=false)∨∃(i:Nat) (hi:i<E.length),r=.int .i64 i∧q (E[i]'hi)=true∧∀m (hm:m<i),q (E[m]'(by omega))=false
theorem Qgp {g:Nat}{fn:Func}[Fu prog g fn] {cap:LV}{q:Ed→Bool}{L:LN}{w:World}{v:Value}{E:List Ed}(h:UJ L w.heap v E)
  (hk:∀(e:Ed) (G:World),Step [] w G→QI prog g ([.agg (Qw e).toArray]++cap) G λr w'=>r=.bool (q e)∧Step [] G w') :
  QI prog 157 [v,.func (.func g) #[] cap.toArray] w λr w'=>Step [] w w'∧IxQ q E r:=by
 have Y:=h.le;refine QI.of_W func157 O ntmps157 results157 (by simp) ?_;refine Qc<|Qe<|Qg<|Qc<|Qb<|x (Qs h O)<|Qb<|xe<|Qh<|QA (α:=Nat) [(4,5),(8,18)] (λz=>[(8,.int .i64 z)]) (λz w'=>z≤E.length∧Step [] w w'∧∀m (hm:m<E.length),m<z→q (E[m]'hm)=false) (λz=>E.length - z) (by rfl) 0 Z ⟨Lj _,Step.refl _ _,λm _ T=>absurd T (Nf m)⟩ ?_;rintro k g1 G ⟨ha,H,hq⟩
 refine Qc<|x (QB O O)<|xe<|Qg<|QH O (λh9=>?_) (λh9=>?_)
 ·refine Qy<|Qc<|Qe ?_;exact Qm ⟨[.int .i64 (-1)],Z,H,.inl ⟨O,λm hm=>hq m hm (by omega)⟩⟩
 have I:k<E.length:=by omega
 refine Qi<|Qg<|Qh<|Qc<|Qb<|Qe<|Qc<|Qb<|Qb<|Qb<|xie (h.ext H) O O I λhb V=>x (QF V O O)<|xl O<|xc (first:=[]) (capt:=cap) O<|(hk (E[k]'I) G H).mono ?_;rintro r2 w2 ⟨rfl,S⟩;refine xe<|Q2 rfl (λJ=>?_) (λJ=>?_)
 ·refine Qc<|Qb<|Qe ?_;exact Qm ⟨[.int .i64 k],Z,H.trans S,.inr ⟨k,I,O,J,λm hm=>hq m (by omega) hm⟩⟩
 refine Qi<|Qz<|QN O O<|Qb<|xe<|⟨k+1,by omega,Z,I,H.trans S,λm hm hc=>?_⟩;by_cases e:m=k
 ·subst e;exact J
 exact hq m hm (by omega)
theorem Qgo {g:Nat}{fn:Func}[Fu prog g fn] {cap:LV}{q:Int→Bool}{L:LN}{w:World}{v:Value}{E:LI}(h:QK L w.heap v E)
  (hk:∀(e:Int) (G:World),Step [] w G→QI prog g ([.int .i64 e]++cap) G λr w'=>r=.bool (q e)∧Step [] G w') :
  QI prog 131 [v,.func (.func g) #[] cap.toArray] w λr w'=>Step [] w w'∧IxQ q E r:=by
 have Y:=h.le;refine QI.of_W func131 O ntmps131 results131 (by simp) ?_;refine Qc<|Qe<|Qg<|Qc<|Qb<|x (Qs h O)<|Qb<|xe<|Qh<|QA (α:=Nat) [(4,5),(8,18)] (λz=>[(8,.int .i64 z)]) (λz w'=>z≤E.length∧Step [] w w'∧∀m (hm:m<E.length),m<z→q (E[m]'hm)=false) (λz=>E.length - z) (by rfl) 0 Z ⟨Lj _,Step.refl _ _,λm _ T=>absurd T (Nf m)⟩ ?_;rintro k g1 G ⟨ha,H,hq⟩
 refine Qc<|x (QB O O)<|xe<|Qg<|QH O (λh9=>?_) (λh9=>?_)
 ·refine Qy<|Qc<|Qe ?_;exact Qm ⟨[.int .i64 (-1)],Z,H,.inl ⟨O,λm hm=>hq m hm (by omega)⟩⟩
 have I:k<E.length:=by omega
 refine Qi<|Qg<|Qh<|Qc<|Qb<|Qe<|Qc<|Qb<|Qb<|Qb<|xii (h.ext H) O O I λhb V=>x (Qv V O)<|xl O<|xc (first:=[]) (capt:=cap) O<|(hk (E[k]'I) G H).mono ?_;rintro r2 w2 ⟨rfl,S⟩;refine xe<|Q2 rfl (λJ=>?_) (λJ=>?_)
 ·refine Qc<|Qb<|Qe ?_;exact Qm ⟨[.int .i64 k],Z,H.trans S,.inr ⟨k,I,O,J,λm hm=>hq m (by omega) hm⟩⟩
 refine Qi<|Qz<|QN O O<|Qb<|xe<|⟨k+1,by omega,Z,I,H.trans S,λm hm hc=>?_⟩;by_cases e:m=k
 ·subst e;exact J
 exact hq m hm (by omega)
theorem Qbd {g:Nat}{fn:Func}[Fu prog g fn] {cap:LV}{q:Int→Bool}{L:LN}{w:World}{v:Value}{G:LI}(h:QK L w.heap v G)
  (hk:∀(e:Int) (H:World),Step [] w H→QI prog g ([.int .i64 e]++cap) H λr w'=>r=.bool (q e)∧Step [] H w') :
  QI prog 135 [v,.func (.func g) #[] cap.toArray] w λr w'=>r=.bool (G.any q)∧Step [] w w':=by
 refine QI.of_W func135 O ntmps135 results135 (by simp) ?_;refine Qc<|Qe<|Qc<|Qb<|Qb<|xl O<|xf<|(Qgo h hk).mono ?_;rintro J H ⟨I,E⟩;refine Or.elim E (λE=>?_) (λE=>?_)
 ·obtain ⟨rfl,hq⟩:=E;have e:G.any q=false:=by
   rw[M4];intro z hz;obtain ⟨i,hi,rfl⟩:=LD hz;rw[hq i hi];simp
  refine x (ZX O O)<|Qe ?_;exact Qm ⟨[.bool false],Z,by rw[e];rfl,I⟩
 obtain ⟨i,hi,rfl,h1,_⟩:=E;have e:G.any q=true:=MW.2 ⟨_,Lc hi,h1⟩;have e2:decide ((0:Int)≤(i:Int))=true:=by simp
 refine x (ZX O O)<|Qe ?_;exact Qm ⟨[.bool (decide ((0:Int)≤(i:Int)))],Z,by rw[e,e2];rfl,I⟩
theorem QaE (E:List Ed) (s v:Int):nxt E s v=nxt (ZJ E s) s v:=by
 induction E with
 | nil=>rfl
 | cons e E ih =>
  unfold ZJ at *;rw[Mc];by_cases h:e.1=s
  ·rw[if_pos (by simpa using h),nxt,nxt,ih]
  rw[if_neg (by simpa using h),nxt,if_neg (λc=>h c.1),ih]
theorem jH:∀(l:List Ed) (s v:Int) (i:Nat) (hi:i<l.length),(∀e∈l,e.1=s)→(l[i]'hi).2.1=v→(∀m (hm:m<i),(l[m]'(by omega)).2.1≠v)→nxt l s v=(l[i]'hi).2.2
 | e::l,s,v,0,_,hs,E,_=>by rw[nxt,if_pos ⟨hs e Ls,E⟩];rfl
 | e::l,s,v,i+1,hi,hs,E,hm=>by
  rw[nxt,if_neg (λc=>hm 0 (by omega) c.2)];exact jH l s v i (by simpa using hi) (λe he=>hs e (Lm _ he)) E (λm G=>hm (m+1) (by omega))
theorem Qdx:∀(l:List Ed) (s v:Int),(∀e∈l,e.2.1≠v)→nxt l s v=-1
 | [],_,_,_=>rfl
 | e::l,s,v,h=>by rw[nxt,if_neg (λc=>h e Ls c.2)];exact Qdx l s v (λe he=>h e (Lm _ he))
theorem QdB {b T:Nat}{n:Int}(e:Ed) (w:World) (G:Q4 w.heap b T [.int .i64 n]) :
  QI prog 158 ([.agg (Qw e).toArray]++[.pointer (some ⟨b,0,none⟩)]) w λr w'=>r=.bool (decide (e.2.1=n))∧Step [] w w':=by
 refine QI.of_W func158 O ntmps158 results158 (by simp) ?_;refine Qc<|xl O<|QQ (us:=Qw e) O λI J E S H=>Qe<|Qc<|x (Qa O)<|x (Qd H O O)<|x (Qd (G.ext E) O O)<|x (Q5 O O)<|Qe ?_;exact Qm ⟨[_],Z,O,E⟩
theorem yY {L:LN}{w:World}{va vm ve:Value}{st:Int}{a:QP}(h:UJ L w.heap ve a.ed) (G:Zi a) (s v:Int) (ha:0≤s) (I:s<a.st) :
  QI prog 78 [.agg #[va,.int .i64 st,vm,ve],.int .i64 s,.int .i64 v] w λr w'=>r=.int .i64 (nxt a.ed s v)∧Step [] w w':=by
 have hh:=G.st1;refine QI.of_W func78 O ntmps78 results78 (by simp) ?_;refine Qc<|xl O<|QQ (us:=[va,.int .i64 st,vm,ve]) O λb3 w1 I hj hb=>xl O<|QQ (us:=[.int .i64 v]) O λb5 w2 J hk hc=>Qe<|Qc<|x (Qr (hb.ext J) O O)<|Qb<|xl O<|xf<|(zd ((h.ext I).ext J) G.eds (λe he=>⟨(G.ed e he).1,by have:=(G.ed e he).2.1;omega⟩) s ha (by omega)).mono ?_;rintro vo w3 ⟨S,hE⟩;refine Qe ?_
 have hf:∀e∈ZJ a.ed s,e.1=s:=λe he=>(Zw he).2;rw[QaE];refine Qc<|Qb<|x (Zp (l:=[]) (l':=[.tmp 5]))<|xl O<|xf<|(Qgp (q:=λe=>decide (e.2.1=v)) (cap:=[.pointer (some ⟨b5,0,none⟩)]) hE (λe T H=>QdB e T ((hc.ext S).ext H))).mono ?_;rintro r4 T ⟨H,E⟩;have V:=((I.trans J).trans S).trans H;refine Or.elim E (λE=>?_) (λE=>?_)
 ·obtain ⟨rfl,hq⟩:=E;have e1:nxt (ZJ a.ed s) s v=-1:=Qdx _ _ _ λe he=>by
   obtain ⟨i,hi,rfl⟩:=LD he;simpa using hq i hi
  rw[e1];refine Qe<|Qg<|Qc<|Qb<|x (QB O O)<|xe<|UD O ?_;refine Qc<|Qe ?_;exact Qm ⟨[.int .i64 (-1)],Z,O,V⟩
 obtain ⟨i,hi,rfl,h1,h2⟩:=E;have e1:nxt (ZJ a.ed s) s v=((ZJ a.ed s)[i]'hi).2.2:=jH _ s v i hi hf (by simpa using h1) (λm hm=>by simpa using h2 m hm);rw[e1];refine Qe<|Qg<|Qc<|Qb<|x (QB O O)<|xe<|Q7 O (λY=>absurd Y (by omega)) (λY=>?_);refine Qi<|Qc<|Qb<|Qb<|xie (hE.ext H) O O hi λhl hg=>x (Zb O)<|x (Qv (hg.fld 2 _ O) O)<|Qe ?_;exact Qm ⟨[_],Z,O,V⟩
def flw (a:QP):Int→LI→Int×Nat
 | s,[]=>(s,0)
 | s,v::u=>if nxt a.ed s v<0 then (s,0) else ((flw a (nxt a.ed s v) u).1,(flw a (nxt a.ed s v) u).2+1)
theorem QhP {a:QP}(E:Zi a) {s v:Int}(h:¬nxt a.ed s v<0):nxt a.ed s v<a.st:=(E.ed _ (zg (by omega))).2.2.2.2
theorem Qb6 {L L':LN}{w:World}{va vm ve vw:Value}{st:Int}{a:QP}{u:LI}(h:UJ L w.heap ve a.ed) (H:QK L' w.heap vw u) (T:Zi a) (s:Int) (he:0≤s) (V:s<a.st) :
  QI prog 279 [.agg #[va,.int .i64 st,vm,ve],.int .i64 s,vw] w λr w'=>r=.tuple #[.int .i64 (flw a s u).1,.int .i64 (flw a s u).2]∧Step [] w w':=by
 have hj:=H.le;refine QI.of_W func279 O ntmps279 results279 (by simp) ?_;refine Qc<|xl O<|QQ (us:=[va,.int .i64 st,vm,ve]) O λb3 w1 V hl hg=>x Qf<|Qe<|Qg<|Qc<|Qb<|x (Qs H O)<|Qb<|xe ?_
 refine Qh<|QA (α:=Nat×Int) [(1,1),(6,10),(13,27)] (λz=>[(1,.int .i64 z.2),(13,.int .i64 z.1)]) (λz w'=>z.1≤u.length∧0≤z.2∧z.2<a.st∧Step [] w1 w'∧flw a s u=((flw a z.2 (u.drop z.1)).1,(flw a z.2 (u.drop z.1)).2+z.1)) (λz=>u.length - z.1) (by rfl) (0,s) ⟨O,O,U⟩ ⟨Lj _,he,by assumption,Step.refl _ _,by simp⟩ ?_;rintro ⟨k,t⟩ g w2 ⟨hk,Y,ha,S,E⟩;simp only[] at hk Y ha E
 have I:=V.trans S;refine Qc<|x (QB O O)<|xe<|Qg<|QH O (λhb=>?_) (λhb=>?_)
 ·refine Qy<|Qc<|Qb<|Qb<|x (Qs H O)<|x Qf<|Qe ?_;rw[Lp (by omega)] at E;have hh:k=u.length:=by have hm:¬(k:Int)<(u.length:Int):=hb;omega
  refine Qm ⟨[.int .i64 t,.int .i64 u.length],⟨O,O,U⟩,?_,I⟩;rw[E,hh];simp[flw,tup]
 have G:k<u.length:=by omega
 rw[QZ G,flw] at E;refine Qi<|Qg<|Qh<|Qc<|Qb<|xii (H.ext I) O O G λhp hi=>x (Qv hi O)<|x Qf<|Qe<|Qc<|x (Qr (hg.ext S) O O)<|Qb<|Qb<|xl O<|xf<|(yY (h.ext I) T t (u[k]'G) Y ha).mono ?_;rintro r3 w3 ⟨rfl,hc⟩;refine Qe<|Qg<|Qc<|Qb<|x (QB O O)<|xe<|Q7 rfl (λJ=>?_) (λJ=>?_)
 ·rw[if_pos J] at E;refine Qc<|Qb<|Qb<|x Qf<|Qe<|Qm ⟨[.int .i64 t,.int .i64 k],⟨O,O,U⟩,?_,I.trans hc⟩;rw[E];simp[tup]
 rw[if_neg J] at E;have hn:=QhP T J;refine Qi<|Qz<|Qb<|Qe<|Qz<|QN O O<|Qb<|xe<|⟨(k+1,nxt a.ed t (u[k]'G)),by simp only[];omega,⟨O,O,U⟩,G,by simp only[];omega,hn,S.trans hc,?_⟩;simp only[];rw[E];simp;omega
def cks (a:QP) (s:Int):Int:=if X2 a≠0 then X2 a else if s<0∨a.st≤s then 2 else 0
theorem XB {L:LN}{w:World}{va vm ve:Value}{a:QP}(h:Zu L w.heap va vm ve a) (s:Int) :
  QI prog 76 [.agg #[va,.int .i64 a.st,vm,ve],.int .i64 s] w λr w'=>r=.int .i64 (cks a s)∧Step [] w w':=by
 refine QI.of_W func76 O ntmps76 results76 (by simp) ?_;refine Qc<|xl O<|QQ (us:=[va,.int .i64 a.st,vm,ve]) O λV Y I ha J=>Qe<|Qg<|Qc<|x (Qr J O O)<|xl O<|xf<|(Xb (h.ext I)).mono ?_;rintro r2 T ⟨rfl,S⟩;refine Qe ?_;unfold cks;have E:=I.trans S;refine Qc<|Qb<|x (Q9 O O)<|xe<|Q7 rfl (λh9=>?_) (λh9=>?_)
 ·refine Qc<|Qb<|Qe ?_;exact Qm ⟨[_],Z,by rw[if_pos h9];rfl,E⟩
 rw[if_neg h9];refine Qi<|Qg<|Q0 (α:=Unit) [(11,18)] (λz=>[(18,.bool (decide (s<0∨a.st≤s)))]) (λz w'=>w'=T) (by rfl) ?_ ?_
 ·refine Qz<|Qb<|xb (QB O O) (λG=>?_) (λG=>?_)
  ·refine Qb<|xs O<|xs O<|xs O<|xs O<|x (Qj O)<|xe ?_;exact ⟨(),⟨by rw[decide_eq_true (Or.inl G)];rfl,U⟩,O⟩
  refine Qb<|Qb<|x (Qa O)<|x (Qd (J.ext S) O O)<|x (ZX O O)<|x (Qj O)<|xe ?_;exact ⟨(),⟨by show Value.bool (decide (a.st≤s))=_;simp[G],U⟩,rfl⟩
 rintro z g w3 rfl;refine Q7 rfl (λH=>?_) (λH=>?_)
 ·refine Qc<|Qe ?_;exact Qm ⟨[_],Z,by rw[if_pos H];rfl,E⟩
 refine Qi<|Qc<|Qe ?_;exact Qm ⟨[_],Z,by rw[if_neg H];rfl,E⟩
theorem yN {a:QP}{s:Int}(h:cks a s=0):Zi a∧0≤s∧s<a.st:=by
 unfold cks at h;split at h
 ·rename_i h1;exact absurd h h1
 rename_i h1;split at h
 ·cases h
 rename_i h2;exact ⟨(ZS a).1 (Lq.1 h1),by omega,by omega⟩
theorem QfN {L:LN}{b T:Nat}{va:Value}{al:LI}{us:LV}(e:Int) (w:World) (E:Q4 w.heap b T (va::us)) (G:QK L w.heap va al) :
  QI prog 278 ([.int .i64 e]++[.pointer (some ⟨b,0,none⟩)]) w λr w'=>r=.bool (decide (e∉al))∧Step [] w w':=by
 refine QI.of_W func278 O ntmps278 results278 (by simp) ?_;refine Qc<|Qe<|Qc<|x (Qa O)<|x (Qd E O O)<|Qb<|xl O<|xf<|(ZR G e).mono ?_;rintro H I ⟨rfl,rfl⟩;refine x (Zs O)<|Qe<|Qm ⟨[_],Z,?_,Step.refl _ _⟩;show Value.bool (!decide (e∈al))=_;rw[decide_not]
def QfM (a:QP) (s:Int) (u:LI):Int:=if cks a s≠0 then cks a s else if (u.any λe=>decide (e∉a.al))=true then 9 else 0
theorem QiM {L L':LN}{w:World}{va vm ve vw:Value}{a:QP}{u:LI}(h:Zu L w.heap va vm ve a) (V:QK L' w.heap vw u) (s:Int) :
  QI prog 248 [.agg #[va,.int .i64 a.st,vm,ve],.int .i64 s,vw] w λr w'=>Step [] w w'∧r=if QfM a s u≠0 then .tuple #[.int .i64 0,.int .i64 0,.int .i64 (QfM a s u)] else .tuple #[.int .i64 (flw a s u).1,.int .i64 (flw a s u).2,.int .i64 0]:=by
 refine QI.of_W func248 O ntmps248 results248 (by simp) ?_;refine Qc<|xl O<|QQ (us:=[va,.int .i64 a.st,vm,ve]) O λb3 w1 Y hb J=>x Qf<|x Qf<|Qe<|Qg<|Qc<|x (Qr J O O)<|Qb<|xl O<|xf<|(XB (h.ext Y) s).mono ?_;rintro r2 w2 ⟨rfl,S⟩;refine Qe ?_;have G:=Y.trans S;unfold QfM;refine Qc<|Qb<|x (Q9 O O)<|xe<|Q7 rfl (λE=>?_) (λE=>?_)
 ·refine Qc<|Qb<|x Qf<|x Qf<|Qe ?_;exact Qm ⟨[_,_,_],⟨O,O,O,U⟩,G,by rw[if_pos E,if_pos E];rfl⟩
 have hc:cks a s=0:=Lq.1 E;obtain ⟨ho,h0,h1⟩:=yN hc;rw[if_neg E];refine Qi<|Qg<|Qc<|Qb<|x (Zp (l:=[]) (l':=[.tmp 3]))<|xl O<|xf<|(Qbd (q:=λe=>decide (e∉a.al)) (cap:=[.pointer (some ⟨b3,0,none⟩)]) (V.ext G) (λe w4 H=>QfN e w4 ((J.ext S).ext H) ((h.al.ext G).ext H))).mono ?_;rintro r3 w3 ⟨rfl,ha⟩;refine xe ?_;have I:=G.trans ha
 refine Q2 rfl (λT=>?_) (λT=>?_)
 ·rw[if_pos T];refine Qc<|x Qf<|x Qf<|Qe ?_;exact Qm ⟨[_,_,_],⟨O,O,O,U⟩,I,by rw[if_pos (by decide)];rfl⟩
 rw[if_neg (by rw[T];simp)];refine Qi<|Qc<|x (Qr ((J.ext S).ext ha) O O)<|Qb<|Qb<|xl O<|xf<|(Qb6 (h.ed.ext I) (V.ext I) ho s h0 h1).mono ?_;rintro r4 w4 ⟨rfl,H⟩;refine Qb<|x (Ql O O) <|
  x (Ql rfl O)<|x Qf<|Qe<|Qc<|Qb<|Qb<|x Qf<|x Qf<|Qe ?_
 exact Qm ⟨[_,_,_],⟨O,O,O,U⟩,I.trans H,O⟩
def enb (a:QP) (s:Int):LI:=(ZJ a.ed s).map (·.2.1)
theorem Qew {l:List Ed}{k:Nat}(h:k<l.length):(l.take (k+1)).map (·.2.1)=(l.take k).map (·.2.1)++[(l[k]'h).2.1]:=by
 rw[List.take_add_one,Lv h,Lt];rfl
theorem Qah {L:LN}{w:World}{va vm ve:Value}{a:QP}(h:Zu L w.heap va vm ve a) (s:Int) :
  QI prog 29 [.agg #[va,.int .i64 a.st,vm,ve],.int .i64 s] w λr w'=>Step [] w w'∧∃v,r=.tuple #[v,.int .i64 (cks a s)]∧(cks a s≠0→v=Zz)∧(cks a s=0→Qu 3 w.heap.size w' v (enb a s)):=by
 refine QI.of_W func29 O ntmps29 results29 (by simp) ?_;refine Qc<|xl O<|QQ (us:=[va,.int .i64 a.st,vm,ve]) O λb2 w1 hf h2 hg=>x Qf<|Qe<|Qg<|Qc<|x (Qr hg O O)<|Qb<|xl O<|xf<|(XB (h.ext hf) s).mono ?_;rintro r2 w2 ⟨rfl,hh⟩;refine Qe ?_;have S:=hf.trans hh;refine Qc<|Qb<|x (Q9 O O)<|xe<|Q7 rfl (λT=>?_) (λT=>?_)
 ·refine Qc<|Qb<|x Qf<|Qe ?_;exact Qm ⟨[Zz,_],⟨O,O,U⟩,S,Zz,O,λ_=>O,λe=>absurd e T⟩
 have hc:cks a s=0:=Lq.1 T;obtain ⟨G,h0,h1⟩:=yN hc;have h3:=G.st1;rw[hc];refine Qi<|Qc<|Qe<|Qg<|Qc<|x (Qr (hg.ext hh) O O)<|Qb<|xl O<|xf<|(zd (h.ed.ext S) G.eds (λe he=>⟨(G.ed e he).1,by have:=(G.ed e he).2.1;omega⟩) s h0 (by omega)).mono ?_;rintro vo w3 ⟨hj,hE⟩;refine x (Qs hE O)<|Qb<|xe ?_;have hi:=S.trans hj;have hl:=hi.size;have hm:=Jm a.ed s
 have h4:=G.ed_le;refine Zh (ZJ a.ed s) λos H=>?_;rw[H] at hE hm;refine Qh<|QA (α:=Nat×Value) [(7,7),(9,9),(20,29)] (λz=>[(7,z.2),(20,.int .i64 z.1)]) (λz w'=>z.1≤os.length∧Step [] w3 w'∧Qu 3 w3.heap.size w' z.2 ((os.take z.1).map (·.2.1))) (λz=>os.length - z.1) (by rfl) (0,nS) ⟨O,by rw[H];rfl,U⟩ ⟨Lj _,Step.refl _ _,QM _ _ _ _⟩ ?_;rintro ⟨k,v⟩ g w4 ⟨hk,J,I⟩
 simp only[] at hk I;have h5:=J.size;refine Qc<|x (QB O O)<|xe<|Qg<|QH O (λV=>?_) (λV=>?_)
 ·refine Qy<|Qc<|Qb<|x Qf<|Qe ?_;rw[Ll (by rw[H] at V;omega)] at I;refine Qm ⟨[v,_],⟨O,O,U⟩,hi.trans J,v,O,λe=>absurd O e,λ_=>?_⟩;unfold enb;rw[H];exact Zk I hl
 have E:k<os.length:=by rw[H] at V;omega
 refine Qi<|Qg<|Qh<|Qc<|xie (hE.ext J) O O E λh6 hn=>x (QF hn O O)<|xl O<|Qt (us:=[.int .i64 0,.int .i64 0,.int .i64 0]) O λb9 w5 hp hq hr=>xl O<|Qp (us:=Qw (os[k]'E)) hr O O O O ⟨O,O,O,U⟩ λw6 hs ht =>
  xe ?_
 have Y:Step [] w4 w6:=hp.then1 hs hq;have hu:=Qq I Y;refine Qz<|Qb<|x (Qa O)<|x (Qd ht O O)<|xl O<|QD (us:=[[.int .i64 (os[k]'E).2.1]]) O O (by decide) (by simp) ⟨rfl,rfl,U⟩ λh7 w7 ha h8 hv=>?_;have hw:=Qq hu ha;have h9:=(Y.trans ha).size;have hA:((os.take k).map (·.2.1)).length≤131072:=by simp;omega
 refine xl rfl<|Q6 (news:=[.int .i64 (os[k]'E).2.1]) (L:=[]) hw O O O (hv.at (by simp)) (by simp[Value.oneCell']) (by omega) (by omega) λv8 w8 hy hz hB=>Qe ?_;have hge:=Qn I;refine Qz<|QN O O<|Qb<|xe<|⟨(k+1,v8),by simp only[];omega,⟨O,O,U⟩,E,((J.trans Y).trans ha).then hz (λb hb=>.inr (hge b hb).1),?_⟩;simp only[];rw[Qew E];exact Qu.snoc hy
theorem QfQ {L:LN}{w:World}{v:Value}{l:LI}(h:QK L w.heap v l) (n:Int) :
  QI prog 241 [v,.int .i64 n] w λr w'=>r=.int .i64 (Xi n none l)∧w'=w:=by
 have he:=h.le;refine QI.of_W func241 O ntmps241 results241 (by simp) ?_;refine Qc<|Qe<|Qg<|Qc<|Qb<|x (Qs h O)<|Qb<|xe<|Qh<|QA (α:=Nat) [(4,6),(9,34)] (λk=>[(9,.int .i64 k)]) (λk w'=>w'=w∧k≤l.length∧Xi n (pv l k) (l.drop k)=Xi n none l) (λk=>l.length - k) (by rfl) 0 Z ⟨O,Lj _,O⟩ ?_;rintro k g S ⟨rfl,hk,hm⟩;refine Qc<|x (QB O O)<|xe<|Qg<|QH O (λT=>?_) (λT=>?_)
 ·refine Qy<|Qc<|Qe<|Qm ⟨[.int .i64 0],Z,?_,O⟩;rw[←hm,Lp (by omega)];rfl
 have E:k<l.length:=by omega
 have hd:=QZ E;rw[hd,Xi] at hm;refine Qi<|Qg<|Qh<|Qc<|Qb<|xii h O O E λhf V=>x (Qv V O)<|x Qf<|Qe<|Qh<|Q0 (α:=Bool) [(14,21)] (λz=>[(14,.bool z)]) (λz w'=>w'=S∧z=decide (l[k]<0∨n≤l[k])) (by rfl) ?_ ?_
 ·refine Qz<|Qb<|xb (QB O O) (λG=>?_) (λG=>?_)
  ·refine Qb<|xs O<|xs O<|xs O<|x (Qj O)<|Qe ?_;exact ⟨true,Z,O,by simp[G]⟩
  refine Qb<|Qb<|Qb<|x (ZX O O)<|x (Qj O)<|Qe ?_;exact ⟨_,Z,O,by simp[G]⟩
 rintro z g Y ⟨rfl,rfl⟩;refine Q7 rfl (λH=>?_) (λH=>?_)
 ·refine Qc<|Qe<|Qm ⟨[.int .i64 2],Z,?_,O⟩;rw[←hm,if_pos H];rfl
 rw[if_neg H] at hm;refine Q0 (α:=Bool) [(22,33)] (λz=>[(22,.bool z)]) (λz w'=>w'=Y∧z=zo (pv l k) l[k]) (by rfl) ?_ ?_
 ·refine Qz<|Qb<|xb (Zx O O) (λha=>?_) (λha=>?_)
  ·have hb:((k:Int) - 1)=((k - 1:Nat):Int):=by omega
   refine Qb<|Qb<|Qb<|Qb<|x (Ja O O ⟨by omega,by omega⟩)<|xii (i:=k - 1) h O (by show Value.int _ ((k:Int) - 1)=_;rw[hb]) (by omega) λhg hc=>x (Qv hc rfl)<|x (YK rfl rfl)<|x (Qj rfl)<|Qe<|⟨_,⟨rfl,U⟩,rfl,?_⟩;have:pv l k=some l[k - 1]:=by
    have I:k≠0:=by omega
    simp[pv,I,show k - 1<l.length by omega]
   rw[this];rfl
  refine Qb<|xs O<|xs O<|xs O<|xs O<|xs O<|xs O<|xs O<|x (Qj O)<|Qe ?_;have I:k=0:=by omega
  exact ⟨false,Z,O,by simp[pv,I,zo]⟩
 rintro z g w3 ⟨rfl,rfl⟩;refine Q2 rfl (λJ=>?_) (λJ=>?_)
 ·refine Qc<|Qe<|Qm ⟨[.int .i64 5],Z,?_,O⟩;rw[←hm,if_pos J];rfl
 rw[if_neg (by simp[J])] at hm;refine Qi<|Qz<|QN O O<|Qb<|xe ?_;exact ⟨k+1,by omega,Z,O,by omega,by rw[XZ E];exact hm⟩
theorem jd {L:LN}{w:World}{v:Value}{l:LI}(h:QK L w.heap v l) (n:Int) :
  QI prog 80 [v,.int .i64 n] w λr w'=>r=.int .i64 (Xi n none l)∧w'=w:=by
 have he:=h.le;refine QI.of_W func80 O ntmps80 results80 (by simp) ?_;refine Qc<|Qe<|Qg<|Qc<|Qb<|x (Qs h O)<|Qb<|xe<|Qh<|QA (α:=Nat) [(4,6),(9,32)] (λk=>[(9,.int .i64 k)]) (λk w'=>w'=w∧k≤l.length∧Xi n (pv l k) (l.drop k)=Xi n none l) (λk=>l.length - k) (by rfl) 0 Z ⟨O,Lj _,O⟩ ?_;rintro k g S ⟨rfl,hk,hm⟩;refine Qc<|x (QB O O)<|xe<|Qg<|QH O (λT=>?_) (λT=>?_)
 ·refine Qy<|Qc<|Qe<|Qm ⟨[.int .i64 0],Z,?_,O⟩;rw[←hm,Lp (by omega)];rfl
 have E:k<l.length:=by omega
 have hd:=QZ E;rw[hd,Xi] at hm;refine Qi<|Qg<|Qh<|Qc<|Qb<|xii h O O E λhf V=>x (Qv V O)<|x Qf<|Qe<|Qg<|Q0 (α:=Bool) [(14,20)] (λz=>[(20,.bool z)]) (λz w'=>w'=S∧z=decide (l[k]<0∨n≤l[k])) (by rfl) ?_ ?_
 ·refine Qz<|Qb<|xb (QB O O) (λG=>?_) (λG=>?_)
  ·refine Qb<|xs O<|xs O<|xs O<|x (Qj O)<|xe ?_;exact ⟨true,Z,O,by simp[G]⟩
  refine Qb<|Qb<|Qb<|x (ZX O O)<|x (Qj O)<|xe ?_;exact ⟨_,Z,O,by simp[G]⟩
 rintro z g Y ⟨rfl,rfl⟩;refine Q7 rfl (λH=>?_) (λH=>?_)
 ·refine Qc<|Qe<|Qm ⟨[.int .i64 2],Z,?_,O⟩;rw[←hm,if_pos H];rfl
 rw[if_neg H] at hm;refine Qi<|Q0 (α:=Bool) [(21,31)] (λz=>[(31,.bool z)]) (λz w'=>w'=Y∧z=zo (pv l k) l[k]) (by rfl) ?_ ?_
 ·refine Qz<|Qb<|xb (Zx O O) (λha=>?_) (λha=>?_)
  ·have hb:((k:Int) - 1)=((k - 1:Nat):Int):=by omega
   refine Qb<|Qb<|Qb<|Qb<|x (Ja O O ⟨by omega,by omega⟩)<|xii (i:=k - 1) h O (by show Value.int _ ((k:Int) - 1)=_;rw[hb]) (by omega) λhg hc=>x (Qv hc rfl)<|x (YK rfl rfl)<|x (Qj rfl)<|xe<|⟨_,Z,O,?_⟩;have:pv l k=some l[k - 1]:=by
    have I:k≠0:=by omega
    simp[pv,I,show k - 1<l.length by omega]
   rw[this];rfl
  refine Qb<|xs O<|xs O<|xs O<|xs O<|xs O<|xs O<|xs O<|x (Qj O)<|xe ?_;have I:k=0:=by omega
  exact ⟨false,Z,O,by simp[pv,I,zo]⟩
 rintro z g w3 ⟨rfl,rfl⟩;refine Q2 rfl (λJ=>?_) (λJ=>?_)
 ·refine Qc<|Qe<|Qm ⟨[.int .i64 5],Z,?_,O⟩;rw[←hm,if_pos J];rfl
 rw[if_neg (by simp[J])] at hm;refine Qi<|Qz<|QN O O<|Qb<|xe ?_;exact ⟨k+1,by omega,Z,O,by omega,by rw[XZ E];exact hm⟩
end Go.Proofs.YtdffckgdcegpaaaGreatDoor
namespace Go.Lg
open Go.RowKit
def upY (P:Program) (m:Nat) (dst:Option Nat) (f:Fr) (K:Fr→World→Prop):Result Next→Prop
 | .ok (.value v) w'=>K (QR f dst v) w'
 | .ok .skip w'=>K (QR f dst undef) w'
 | .ok (.enter g args) w'=>Calls P g args w' λe E=>match e with | .returned v=>K (QR f dst v) E | _=>False
 | .ok (.round l fn tmps assign body) w'=>RoundIn (fen none) (m - 1) P l fn tmps assign body w' λe E=>match e with | .returned v=>K (QR f dst v) E | _=>False
 | _=>False
def XOY (P:Program) (m:Nat) (o:Oper) (f:Fr) (w:World) (K:Fr→World→Prop):Prop:=upY P m o.dst f K ((execOp (ev f) o).run P w)
def Xj (P:Program) (m:Nat) (ops:List Oper) (K:Fr→World→Prop):List Oper→Fr→World→Prop
 | [],f,w=>K f w
 | o::l,f,w=>bif Z8 ops f o then XOY P m o f w (Xj P m ops K l) else Xj P m ops K l (QR f o.dst undef) w
section
variable {m:Nat} {P:Program} {n:Nat} {ds:LN}
theorem XOY.of_XO {o:Oper}{f:Fr}{w:World}{K K':Fr→World→Prop}(E:∀f w,K f w→K' f w) (h:XO P o f w K):XOY P m o f w K':=by
 unfold XO at h;unfold XOY;generalize (execOp (ev f) o).run P w=r at h;cases r with
 | ok nx w' =>
  cases nx <;> simp only[upF] at h <;> simp only[upY]
  case value v=>exact E _ _ h
  case skip=>exact E _ _ h
  case enter g args =>
   refine Calls.mono h λe G he=>?_;cases e with
   | returned v=>exact E _ _ he
   | panicked c=>exact he.elim
   | outgrown=>exact he.elim
 | halt x w'=>exact h.elim
theorem Xj.pre {ops:List Oper}{K:Fr→World→Prop}{l2:List Oper}:∀(E:List Oper) (f:Fr) (w:World),XL P ops (λf w=>Xj P m ops K l2 f w) E f w→Xj P m ops K (E++l2) f w
 | [],f,w,h=>by unfold XL at h;exact h
 | o::E,f,w,h=>by
  unfold XL at h;show (bif Z8 ops f o then XOY P m o f w (Xj P m ops K (E++l2)) else Xj P m ops K (E++l2) (QR f o.dst undef) w);cases G:Z8 ops f o with
  | false=>rw[G] at h;exact Xj.pre E _ _ h
  | true=>rw[G] at h;exact XOY.of_XO (λf w h=>Xj.pre E f w h) h
theorem Xj.pre2 {ops:List Oper}{K:Fr→World→Prop}{o1 o2:Oper}{l2:List Oper}{f:Fr}{w:World}(h:XL P ops (λf w=>Xj P m ops K l2 f w) [o1,o2] f w):Xj P m ops K (o1::o2::l2) f w:=Xj.pre [o1,o2] f w h
theorem Xj.of_XL {ops:List Oper}{K:Fr→World→Prop}{l:List Oper}{f:Fr}{w:World}(h:XL P ops K l f w):Xj P m ops K l f w:=by
 have:=Xj.pre (m:=m) (l2:=[]) l f w h
 rwa [LJ] at this
theorem QeV {o:Oper}{a:Act}{f:Fr}{w:World}{K:Fr→World→Prop}{K':Act→World→Prop}{Q:Exit→Act→World→Prop}(h:Yn n ds a f)
  (E:∀v w',K (QR f o.dst v) w'→K' (a.put o.dst v) w') (hx:XOY P m o f w K):o.wpIn (fen none) m P a w K' Q:=by
 unfold XOY at hx;refine ⟨λ_ _=>trivial,?_⟩;have e:Oper.semAt (fen none).round a.eval o=execOp (ev f) o:=by rw[h.eval];rfl
 rw[e];generalize (execOp (ev f) o).run P w=r at hx;cases r with
 | ok nx w' =>
  cases nx <;> simp only[upY] at hx <;> simp only[Oper.uponIn]
  case value v=>exact E v w' hx
  case skip=>exact E _ w' hx
  case enter g args =>
   refine ⟨λh=>by simp[Fence.wide] at h,?_⟩;refine (callsIn_wide (n:=m - 1)).2 (Calls.mono hx λe G he=>?_);cases e with
   | returned v=>exact E v G he
   | panicked c=>exact he.elim
   | outgrown=>exact he.elim
  case round l fn tmps assign body =>
   refine ⟨λh=>by simp[Fence.wide] at h,?_⟩;refine RoundIn.mono hx λe G he=>?_;cases e with
   | returned v=>exact E v G he
   | panicked c=>exact he.elim
   | outgrown=>exact he.elim
 | halt x w'=>exact hx.elim
theorem y0 {Q:Exit→LN→Fr→World→Prop}{all:List Oper}(G:∀o∈all,∀d,o.dst=some d→d<n) (H:Fr) :
  ∀(l:List Oper) (k:Nat) (a:Act) (f:Fr) (w:World),(∀j,l[j]?=all[k+j]?)→Yn n ds a f→(∀t,ZG all t=false→f t=H t) →
   Xj P m all (λf w=>Q .normal ds f w) l f w →
   wpOpsIn (fen none) m P all.toArray (λe V w'=>∃ds' f',Yn n ds' V f'∧(∀t,ZG all t=false→f' t=H t)∧Q e ds' f' w') (List.range' k l.length) a w
 | [],_,a,f,w,_,E,hk,h=>⟨ds,f,E,hk,by unfold Xj at h;exact h⟩
 | o::l,k,a,f,w,hl,E,hk,h=>by
  have J:all[k]?=some o:=by simpa using (hl 0).symm
  have I:o∈all:=LT J;have ih:=λa f w=>y0 (Q:=Q) G H l (k+1) a f w (λj=>by have:=hl (j+1);simpa[Nat.add_assoc,Nat.add_comm 1 j] using this);have next:∀v,(∀t,ZG all t=false→QR f o.dst v t=H t):=λv t S=>(YE (Y0 I S) v).trans (hk t S);simp only[List.length_cons,List.range'_succ,wpOpsIn,List.getElem?_toArray,J];rw[JX E G o];unfold Xj at h;cases T:Z8 all f o with
  | false =>
   rw[T] at h;exact ⟨λ_ _=>trivial,ih _ _ _ (E.put (G o I) _) (next _) h⟩
  | true =>
   rw[T] at h;exact QeV E (λv w' hx=>ih _ _ _ (E.put (G o I) v) (next v) hx) h
theorem JN {Q:Exit→LN→Fr→World→Prop}{f:Fr}{w:World}{id:Nat}{l:List Oper}(E:Xu n l=true) (h:Xj P m l (λf w=>Q .normal ds f w) l f w):WG none m P n (.region id l.toArray false) Q ds f w:=by
 unfold WG;intro a ha;refine wpIn_region ?_;have:=y0 (m:=m) (Ys E) f l 0 a f w (by simp) ha (λ_ _=>rfl) h;simpa[List.range_eq_range',YO] using this
theorem xy {ops:List Oper}{rest:List Oper}{f:Fr}{w:World}{K:Fr→World→Prop}{d:Option Nat}{ty:Nat}{ps:String}{af:Array Edge}{gd:Option (Nat×Bool)}{x y:Operand}{at_:Array Nat}{l:Nat}{R:Ending→World→Prop}
  (hx:ev f x=.func (.yield l) #[] #[]) (hy:YieldAt (fen none) (m - 1) P l #[ev f y] w R) (E:∀e w',R e w'→∃v,e=.returned v∧Xj P m ops K rest (QR f d v) w')
  (G:Z8 ops f ⟨d,.call ⟨.value x,[y].toArray,at_⟩,ty,ps,af,gd⟩=true:=by rfl) :
  Xj P m ops K (⟨d,.call ⟨.value x,[y].toArray,at_⟩,ty,ps,af,gd⟩::rest) f w:=by
 obtain ⟨fn,tmps,assign,body,h1,h2⟩:=hy;have H:(execOp (ev f) ⟨d,.call ⟨.value x,[y].toArray,at_⟩,ty,ps,af,gd⟩).run P w=.ok (.round l fn tmps assign body) w:=by
  simp[execOp,resolve,hx,Deferred.ofValue,invoke,h1]
 unfold Xj;rw[G];simp only[XOY,H,upY,cond_true];exact h2.mono λe w' h=>by obtain ⟨v,rfl,hk⟩:=E e w' h;exact hk
end
attribute [irreducible] Xj
structure Lw (B:Nat) (L:LN) (w w':World):Prop where
 os:w'.os=w.os
 tape:w'.tape=w.tape
 output:w'.output=w.output
 size:w.heap.size≤w'.heap.size
 low:∀k,k<B→k∉L→w'.heap[k]?=w.heap[k]?
theorem Lw.refl (B:Nat) (L:LN) (w:World):Lw B L w w:=⟨O,O,O,Lr _,λ_ _ _=>O⟩
theorem Lw.trans {B:Nat}{L:LN}{E w w':World}(h:Lw B L E w) (k:Lw B L w w'):Lw B L E w' :=
 ⟨k.os.trans h.os,k.tape.trans h.tape,k.output.trans h.output,LS h.size k.size,λi hi G=>(k.low i hi G).trans (h.low i hi G)⟩
theorem Step.lw {L:LN}{w w' E:World}(h:Step L w w') (k:Lw w.heap.size L w' E):Step L w E :=
 ⟨k.os.trans h.os,k.tape.trans h.tape,k.output.trans h.output,LS h.size k.size,λi hi G=>(k.low i hi G).trans (h.block i hi G)⟩
structure X6 (B:Nat) (L:LN) (W W':World):Prop where
 lw:Lw B L W W'
 other:∀(k:Nat) (o:Obj),W.heap[k]?=some o→o.isCells=false→W'.heap[k]?=some o
theorem X6.refl (B:Nat) (L:LN) (w:World):X6 B L w w:=⟨Lw.refl _ _ _,λ_ _ h _=>h⟩
theorem X6.trans {B:Nat}{L:LN}{E w w':World}(h:X6 B L E w) (k:X6 B L w w'):X6 B L E w':=⟨h.lw.trans k.lw,λi o hi G=>k.other i o (h.other i o hi G) G⟩
theorem X6.step {B:Nat}{L X:LN}{W W':World}(h:Step X W W') (I:B≤W.heap.size) (E:∀b∈X,(b∈L∨B≤b)∧∃o:Obj,W.heap[b]?=some o∧o.isCells=true):X6 B L W W':=by
 refine ⟨⟨h.os,h.tape,h.output,h.size,λk hk G=>h.block k (by omega) (λhx=>?_)⟩,λk o hk H=>?_⟩
 ·rcases (E k hx).1 with h1 | h1
  ·exact G h1
  omega
 refine (h.block k (Lz.1 hk).1 (λhx=>?_)).trans hk;obtain ⟨J,h1,h2⟩:=(E k hx).2;rw[hk] at h1;cases h1;rw[H] at h2;cases h2
theorem X6.ext {B:Nat}{L:LN}{W W':World}(h:Step [] W W') (E:B≤W.heap.size):X6 B L W W':=X6.step h E (λ_ hb=>by cases hb)
theorem Q4.cells {H:Array Obj}{b T:Nat}{cs:LV}(h:Q4 H b T cs):∃o:Obj,H[b]?=some o∧o.isCells=true:=⟨_,h,O⟩
theorem X6.blk {B:Nat}{L:LN}{W W':World}{b T:Nat}{cs:LV}(h:Step [b] W W') (E:B≤W.heap.size) (hb:Q4 W.heap b T cs) (G:b∈L∨B≤b):X6 B L W W' :=
 X6.step h E (λc hc=>by
  have e:c=b:=by simpa using hc
  subst e;exact ⟨G,hb.cells⟩)
def ZU (B:Nat) (I:World→Prop):Prop:=∀W W' X,I W→Step X W W'→(∀r∈X,B≤r∧∃o:Obj,W.heap[r]?=some o∧o.isCells=false)→I W'
theorem ZU.own {β:Type}{B:Nat}{I:β→World→Prop}(h:∀s,ZU B (I s)):OwnFrom B I:=λs W W' row hs G H =>
 h s W W' _ hs (Step.of_grown G) (λr E=>H r (by cases row <;> simp at E ⊢;exact E.symm))
theorem ZU.blk {B:Nat}{b T:Nat}{cs:LV}:ZU B (λW=>Q4 W.heap b T cs):=λW W' X h hs E=>h.step hs (λhb=>by
 obtain ⟨_,o,h1,h2⟩:=E b hb;unfold Q4 at h;rw[h] at h1;cases h1;cases h2)
theorem ZU.and {B:Nat}{I J:World→Prop}(h:ZU B I) (k:ZU B J):ZU B (λW=>I W∧J W):=λW W' X hi hs E=>⟨h W W' X hi.1 hs E,k W W' X hi.2 hs E⟩
theorem ZU.ex {B:Nat}{β:Type}{I:β→World→Prop}(h:∀z,ZU B (I z)):ZU B (λW=>∃z,I z W):=λW W' X ⟨z,hi⟩ hs E=>⟨z,h z W W' X hi hs E⟩
theorem ZU.pure {B:Nat}(p:Prop):ZU B (λ_=>p):=λ_ _ _ h _ _=>h
theorem ZU.step {B:Nat}{L:LN}{w:World}(G:w.heap.size≤B):ZU B (λW=>Step L w W):=λW W' X h hs E=>h.then hs (λb hb=>.inr (by have:=(E b hb).1;omega))
theorem QY {w:World}{base e sz n:Nat}{v:Value}{cs:LV}(h:w.ownsRow base e sz v n cs):∀b∈ob v,∃o:Obj,w.heap[b]?=some o∧o.isCells=true:=by
 intro b hb;rcases h.2 with ⟨h1,_⟩ | ⟨g,cap,cur,h1,h2,h3,_⟩
 ·subst h1;simp[ob] at hb
 subst h1;simp[ob] at hb;subst hb;exact ⟨_,h3,O⟩
theorem ZU.row {B base e sz n:Nat}{v:Value}{cs:LV}:ZU B (λW=>W.ownsRow base e sz v n cs):=λW W' X h hs G=>Qk h hs (λb hb hx=>by
 obtain ⟨_,o,h1,h2⟩:=G b hx;obtain ⟨H,h3,E⟩:=QY h b hb;rw[h1] at h3;cases h3;rw[h2] at E;cases E)
theorem Qg6 {α:Type}{m:Nat}{P:Program}{n:Nat}{Q:Exit→LN→Fr→World→Prop}{ds:LN}{f:Fr}{w:World}{g:Operand}{p:Nat}{assign body:Code}(L:LN) (h1:1≤m)
  {gf:Nat} {fn:Func} [hF:Fu P gf fn] {capt:LV} (hg:ev f g=.func (.func gf) #[] capt.toArray) {enc:α→Value} {S:List α→Prop} {N:Nat} (hp:p<n)
  (hb:SeqStopsK (fen none) (m - 1) P gf capt.toArray (λx=>#[enc x]) (Lw w.heap.size L) S (λ_=>True) N w)
  (I:List α→World→Prop) (hI:∀s,ZU w.heap.size (I s)) (h0:I [] w) (A:Fr→α→Fr→World→Prop) (hA:∀x E,ZU w.heap.size (A f x E))
  (T:∀l pre x W,I pre W→WG (some l) (m - 1 - 1) P n assign (jn (λH E W'=>H=[]∧X6 w.heap.size L W W'∧I pre W'∧A f x E W') (λ_ _ _ _=>False)) [] (upd f p (enc x)) W)
  (V:∀l pre x E W,I pre W→A f x E W→pre.length<N→WG (some l) (m - 1 - 1) P n body (jn (λ_ _ W'=>X6 w.heap.size L W W'∧I (pre++[x]) W') (λ_ _ _ _=>False)) [] E W)
  (hc:∀D xs W,w.heap.size≤D→S xs→I xs W→W.heap[D]?=some (.deferred (some []))→Q .normal (D::ds) f W) :
  WG none m P n (.rangeFunc g #[p] assign body) Q ds f w:=by
 unfold WG at T V ⊢;intro a ha;have eg:∀args w,(callFunc gf args).run P w=.ok (.enter gf args) w:=by
  intro args w;have h1:¬fn.name = "runtime.NumGoroutine" := by simpa using hF.nm
  have h2:¬fn.body=none:=by have:=hF.b;intro e;rw[e] at this;cases this
  simp[callFunc,hF.f,h1,h2]
 have keep:∀{W W':World},X6 w.heap.size L W W'→KeepsFrom w.heap.size W W':=λh=>⟨h.lw.size,λk o _ hk Y=>h.other k o hk Y⟩;refine wpIn_rangeFunc_ownH (F:=fen none) O h1 (gf:=gf) (lb:=capt.toArray) (by rw[ha.eval];exact hg) U eg hb (λh k=>h.trans k)
  (λW l o o' hl Y _ _=>⟨O,O,O,by simp,λk hk _=>World.putObj_heap_other (by omega)⟩) (Below.refl _ _) (λ_=>rfl) I (λ_ _ _=>False) (ZU.own hI) (λ_ _ _ _ _ hs _ _=>hs) h0
  (λx G W=>∃E,Yn n [] G E∧A f x E W) (λx G=>ZU.own λ_=>ZU.ex λE=>ZU.and (ZU.pure _) (hA x E)) ?_ ?_ ?_ ?_
 ·intro l pre x W K hi hK;have hr:Yn n [] { tmps:=((#[p]:Array Nat).zip #[enc x]).foldl (λt (p,v)=>t.setIfInBounds p v) a.tmps,defers:=[] } (upd f p (enc x)):=by
   have h2:Yn n [] { a with defers:=[] } f:=⟨ha.size,O,ha.get⟩
   have h3:=h2.put (dst:=some p) (λd e=>by cases e;exact hp) (enc x);have e:((#[p]:Array Nat).zip #[enc x]).foldl (λt (p,v)=>t.setIfInBounds p v) a.tmps=a.tmps.setIfInBounds p (enc x):=by simp
   rw[e];exact h3
  refine wpIn_mono (T l pre x W hi _ hr) ?_;rintro e G W' ⟨H,E,h2,_,h3⟩;cases e with
  | normal=>obtain ⟨rfl,J,h5,h6⟩:=h3;exact hK G W' (keep J) J.lw h5 ⟨E,h2,h6⟩
  | exit id=>exact h3.elim
  | goto l=>exact h3.elim
  | ret=>exact h3.elim
  | panic ch=>exact h3.elim
  | outgrown=>exact h3.elim
 ·rintro l pre x G W _ _ hi ⟨E,h2,h3⟩ he;refine wpIn_mono (V l pre x E W hi h3 he G h2) ?_;rintro e hf W' ⟨H,hh,J,_,h5⟩;cases e with
  | normal=>exact ⟨keep h5.1,h5.1.lw,h5.2⟩
  | exit id=>exact h5.elim
  | goto l=>exact h5.elim
  | ret=>exact h5.elim
  | panic ch=>exact h5.elim
  | outgrown=>exact h5.elim
 ·intro D xs W hD hS hi hd;exact ⟨D::ds,f,⟨ha.size,by rw[show coll (D::ds)={ target:=.collected D,args:=#[] }::coll ds from rfl,ha.defers],ha.get⟩,λ_ _=>rfl,hc D xs W hD hS hi hd⟩
 intro D c pre W _ _ h _;exact h.elim
def QiC (P:Program) (t:Nat):Option (LV×List (Nat×Nat)):=match P.info? t,P.underlying t with
 | some it,some (.struct fs)=>match it.zero,fs.toList.mapM (λf=>(P.info? f.type).map λi=>(f.offset,i.size)) with
  | some (.agg zs),some pl=>some (zs.toList,pl)
  | _,_=>none
 | _,_=>none
class Bw (P:Program) (t:Nat) (zs:outParam (LV)) (pl:outParam (List (Nat×Nat))):Prop where
 h:QiC P t=some (zs,pl)
 b:pl.all (λx=>x.1+x.2≤zs.length)=true
def z7:LV→Nat→LV→LV
 | zs,_,[]=>zs
 | zs,o,u::us=>z7 (zs.set o u) (o+1) us
def QeS (pl:List (Nat×Nat)) (zs:LV):List (Nat×LV)→LV
 | []=>zs
 | (j,us)::ps=>QeS pl (z7 zs (pl.getD j (0,0)).1 us) ps
def Qha:List (Nat×Value)→List (Nat×LV)→Prop
 | [],[]=>True
 | (j,v)::vs,(j',us)::uss=>v.cells=us.toArray∧j=j'∧Qha vs uss
 | _,_=>False
theorem z6:∀(us zs:LV) (o:Nat),(z7 zs o us).length=zs.length
 | [],_,_=>rfl
 | u::us,zs,o=>by rw[z7,z6 us,MS]
theorem qe (o:Nat):∀(us:LV) (k:Nat) (zs:LV),(us.zipIdx k).foldl (λ(cs:Array Value) (x:Value×Nat)=>cs.setIfInBounds (o+x.2) x.1) zs.toArray=(z7 zs (o+k) us).toArray
 | [],_,_=>rfl
 | u::us,k,zs=>by
  rw[M8,LO,z7];have:=qe o us (k+1) (zs.set (o+k) u);rw[←List.setIfInBounds_toArray] at this;exact this
theorem Qef {pl:List (Nat×Nat)}:∀(vs:List (Nat×Value)) (uss:List (Nat×LV)) (zs:LV),Qha vs uss→uss.all (λp=>p.1<pl.length && (p.2.length == (pl.getD p.1 (0,0)).2))=true →
  (∀x∈pl,x.1+x.2≤zs.length)→Instr.fill (pl.toArray[·]?) zs.toArray vs=some (QeS pl zs uss).toArray
 | [],[],zs,_,_,_=>rfl
 | [],_::_,_,h,_,_=>h.elim
 | _::_,[],_,h,_,_=>h.elim
 | (j,v)::vs,(j',us)::uss,zs,h1,h2,h3=>by
  obtain ⟨hc,rfl,h1⟩:=h1;simp only[List.all_cons,Bool.and_eq_true,decide_eq_true_eq,beq_iff_eq] at h2;obtain ⟨⟨E,hl⟩,h2⟩:=h2;have G:pl.getD j (0,0)=pl[j]'E:=by simp[List.getD,E]
  have hm:=h3 _ (Lc E);unfold Instr.fill;simp only[List.getElem?_toArray,List.getElem?_eq_getElem E,hc];rw[G] at hl;rw[if_neg (by simp only[List.size_toArray,hl,ne_eq,not_true,decide_false,Bool.false_or,decide_eq_true_eq];omega)];have e:=qe (pl[j]'E).1 us 0 zs;rw[M3] at e
  have e2:(us.toArray.zipIdx).foldl (λ(cs:Array Value) (x:Value×Nat)=>cs.setIfInBounds ((pl[j]'E).1+x.2) x.1) zs.toArray=(z7 zs (pl[j]'E).1 us).toArray:=by
   rw[←e];simp
  rw[e2,QeS,G];have H:=Qef vs uss (z7 zs (pl[j]'E).1 us) h1 h2 (λx hx=>by rw[z6];exact h3 x hx);simpa only[List.getElem?_toArray] using H
theorem j6 {P:Program}{t:Nat}{zs:LV}{pl:List (Nat×Nat)}(h:QiC P t=some (zs,pl)) (hb:pl.all (λx=>x.1+x.2≤zs.length)=true) (vs:List (Nat×Value)) (uss:List (Nat×LV)) (h1:Qha vs uss)
  (h2:uss.all (λp=>p.1<pl.length && (p.2.length == (pl.getD p.1 (0,0)).2))=true):P.built t vs=some (QeS pl zs uss).toArray:=by
 have h3:∀x∈pl,x.1+x.2≤zs.length:=λo E=>by simpa using Mi.1 hb o E
 unfold QiC at h;unfold Program.built;cases hi:P.info? t with
 | none=>simp[hi] at h
 | some it =>
  cases hu:P.underlying t with
  | none=>simp[hi,hu] at h
  | some dd =>
   simp only[hi,hu] at h;cases dd <;> simp only[] at h <;> try (cases h)
   case struct fs =>
    cases hz:it.zero with
    | none=>simp[hz] at h
    | some z =>
     cases z <;> simp only[hz] at h <;> try (cases h)
     rename_i za;cases hm:fs.toList.mapM (λf=>(P.info? f.type).map λi=>(f.offset,i.size)) with
     | none=>simp[hm] at h
     | some pl' =>
      simp only[hm,Option.some.injEq,Prod.mk.injEq] at h;obtain ⟨rfl,rfl⟩:=h;simp only[hz,hm,Value.cells];exact Qef vs uss za.toList h1 h2 h3
theorem Z4 {P:Program}{f:Fr}{w:World}{d:Option Nat}{ty:Nat}{ps:String}{af:Array Edge}{gd:Option (Nat×Bool)}{t:Nat}{zs:LV}{pl:List (Nat×Nat)}[h:Bw P t zs pl] {parts:List (Nat×Operand)}(uss:List (Nat×LV))
  (h1:Qha (parts.map λx=>(x.1,ev f x.2)) uss) (h2:uss.all (λp=>p.1<pl.length && (p.2.length == (pl.getD p.1 (0,0)).2))=true:=by rfl) :
  (execOp (ev f) ⟨d,.build t parts.toArray,ty,ps,af,gd⟩).run P w=.ok (.value (.agg (QeS pl zs uss).toArray)) w:=by
 have hb:=j6 h.h h.b _ uss h1 h2;have E:=run_build (P:=P) w t (parts.toArray.map λ(i,x)=>(i,ev f x)) _ (by simpa using hb);simp only[execOp,Sem.run_bind,E,Result.andThen_ok,Sem.run_pure]
end Go.Lg
namespace Go.Proofs.YtdffckgdcegpaaaGreatDoor
open Go.Lg
def cnE (p:Ed→Bool) (E:List Ed):Int:=((E.filter p).length:Int)
def gA (n:Nat) (f:Nat→Int):LI:=(List.range n).map f
theorem Qid (n:Nat) (f:Nat→Int):(gA n f).length=n:=by simp[gA]
theorem Qd8 {n:Nat}{f:Nat→Int}{i:Nat}(h:i<(gA n f).length):(gA n f)[i]'h=f i:=by simp[gA]
theorem Qic {n:Nat}{f g:Nat→Int}{i:Nat}{u:Int}(hu:u=g i) (h:∀j,j<n→j≠i→g j=f j):(gA n f).set i u=gA n g:=by
 apply Mk
 ·simp[gA]
 intro k h1 h2;rw[List.getElem_set,Qd8 h2];by_cases e:i=k
 ·rw[if_pos e,hu,e]
 rw[if_neg e,Qd8];exact (h k (by simpa[gA] using h2) (Ne.symm e)).symm
def fS (E:List Ed) (s:Nat):Int:=cnE (λe=>decide (e.1<(s:Int))) E
section
variable {P:Program} {K:Fr→World→Prop} {f:Fr} {w:World} {d:Option Nat} {ty:Nat} {ps:String} {af:Array Edge} {gd:Option (Nat×Bool)}
theorem Qdv {t:Nat}[h1:XS P t] {x y:Operand}{b T i n:Nat}{g E:Nat→Int}{u:Int}(G:Q4 w.heap b T ((gA n g).map (.int .i64))) (hx:ev f x=.pointer (some ⟨b,0+i*1,none⟩)) (hy:ev f y=.int .i64 u) (hi:i<n) (H:(gA n g).set i u=gA n E)
  (I:∀w',Step [b] w w'→Q4 w'.heap b T ((gA n E).map (.int .i64))→K (QR f d undef) w'):XO P ⟨d,.store t x y,ty,ps,af,gd⟩ f w K :=
 XG G hx hy (by rw[Qid];exact hi) λw' hs J=>I w' hs (by rw[←H];exact J)
end
end Go.Proofs.YtdffckgdcegpaaaGreatDoor
namespace Go.Lg
open Go.RowKit
section
variable {P:Program} {K:Fr→World→Prop} {f:Fr} {w:World} {d:Option Nat} {ty:Nat} {ps:String} {af:Array Edge} {gd:Option (Nat×Bool)} {ops l:List Oper}
end
end Go.Lg
namespace Go.Proofs.YtdffckgdcegpaaaGreatDoor
open Go.Lg
def JZ {α:Type}(f:Nat→α) (i:Nat) (x:α):Nat→α:=λj=>if j=i then x else f j
theorem ZQ {α:Type}(f:Nat→α) (i:Nat) (x:α):JZ f i x i=x:=by simp[JZ]
theorem Z9 {α:Type}(f:Nat→α) {i j:Nat}(x:α) (h:j≠i):JZ f i x j=f j:=by simp[JZ,h]
theorem QcH {α β:Type}(k:α→β) (n:Nat) (f:Nat→α) (i:Nat) (x:α):((List.range n).map λj=>k (f j)).set i (k x)=(List.range n).map λj=>k (JZ f i x j):=by
 apply Mk
 ·simp
 intro j h1 h2;rw[List.getElem_set];by_cases e:i=j
 ·subst e;simp[ZQ]
 rw[if_neg e];simp[Z9 _ _ (Ne.symm e)]
structure JU (base:Nat) (w:World) (n:Nat) (f:Nat→Value) (g:Nat→LI):Prop where
 own:∀i,i<n→Qu 3 base w (f i) (g i)
 dj:∀i j,i<n→j<n→i≠j→Dj (f i) (f j)
theorem JU.app {base n i:Nat}{w w':World}{f:Nat→Value}{g:Nat→LI}{v':Value}{l:LI}(h:JU base w n f g) (hi:i<n) (I:Qu 3 base w' v' l) (hs:Step (ob (f i)) w w')
  (J:∀b∈ob v',b∈ob (f i)∨w.heap.size≤b):JU base w' n (JZ f i v') (JZ g i l):=by
 refine ⟨λj E=>?_,λj k E hk G=>?_⟩
 ·by_cases e:j=i
  ·subst e;rw[ZQ,ZQ];exact I
  rw[Z9 _ _ e,Z9 _ _ e];exact Qk (h.own j E) hs (h.dj j i E hi e)
 have key:∀j,j<n→j≠i→Dj v' (f j):=λj E e b hb H=>by
  rcases J b hb with h1 | h1
  ·exact h.dj i j hi E (Ne.symm e) b h1 H
  have:=QO (h.own j E) b H;omega
 by_cases e1:j=i
 ·subst e1;rw[ZQ,Z9 _ _ (Ne.symm G)];exact key k hk (Ne.symm G)
 rw[Z9 _ _ e1];by_cases e2:k=i
 ·subst e2;rw[ZQ];exact (key j E e1).symm
 rw[Z9 _ _ e2];exact h.dj j k E hk G
theorem JU.step {base n:Nat}{X:LN}{w w':World}{f:Nat→Value}{g:Nat→LI}(h:JU base w n f g) (hs:Step X w w') (E:∀i,i<n→∀b∈ob (f i),b∉X):JU base w' n f g :=
 ⟨λi hi=>Qk (h.own i hi) hs (E i hi),h.dj⟩
theorem JU.ext {base n:Nat}{w w':World}{f:Nat→Value}{g:Nat→LI}(h:JU base w n f g) (hs:Step [] w w'):JU base w' n f g:=h.step hs (λ_ _ _ _=>by simp)
def Yg (E:List Ed) (s:Nat):LI:=(E.filter λe=>decide (e.2.2=(s:Int))).map (·.1)
theorem jQ (E:List Ed) (e:Ed) (G:0≤e.2.2):∀s,JZ (Yg E) e.2.2.toNat (Yg E e.2.2.toNat++[e.1]) s=Yg (E++[e]) s:=by
 intro s;unfold Yg;rw[L9,Lt];by_cases h:s=e.2.2.toNat
 ·subst h;rw[ZQ];have:e.2.2=(e.2.2.toNat:Int):=by omega
  simp[←this]
 rw[Z9 _ _ h];have:¬e.2.2=(s:Int):=by omega
 simp[this]
theorem Qb1 {E:List Ed}{s:Nat}{p:Int}(h:p∈Yg E s):∃e∈E,e.1=p∧e.2.2=(s:Int):=by
 unfold Yg at h;simp only[List.mem_map,List.mem_filter,decide_eq_true_eq] at h;obtain ⟨e,⟨h1,h2⟩,h3⟩:=h;exact ⟨e,h1,h3,h2⟩
theorem Vc (E:List Ed) (s:Nat):(Yg E s).length≤E.length:=by
 unfold Yg;rw[Lh];exact ME _ _
def bwE (s:Int) (st:LI×LI) (p:Int):LI×LI:=if cget st.1 p.toNat<0 then (st.1.set p.toNat (cget st.1 s.toNat+1),st.2++[p]) else st
def VH (n:Nat) (to:LI):LI:=(List.range n).map λi:Nat=>if (i:Int)∈to then 0 else -1
structure Qfb (n:Nat) (o q:LI):Prop where
 len:o.length=n
 q:∀x∈q,0≤x∧x<(n:Int)
 le:∀x∈o,-1≤x∧x+(neg o:Int)≤n
theorem QdC (l:LI):neg l≤l.length:=ME _ _
theorem QiD {n:Nat}{s p:Int}{st:LI×LI}(h:Qfb n st.1 st.2) (hs:0≤s∧s<(n:Int)) (E:0≤cget st.1 s.toNat) (hp:0≤p∧p<(n:Int)) :
  Qfb n (bwE s st p).1 (bwE s st p).2∧neg (bwE s st p).1+(bwE s st p).2.length=neg st.1+st.2.length∧0≤cget (bwE s st p).1 s.toNat:=by
 unfold bwE;have hl:=h.len;have G:p.toNat<st.1.length:=by omega
 have H:s.toNat<st.1.length:=by omega
 by_cases hc:cget st.1 p.toNat<0
 ·rw[if_pos hc];have I:st.1[p.toNat]'G<0:=by rw[Zn G];exact hc
  have S:=h.le _ (Jv H);have T:=KB st.1 p.toNat (cget st.1 s.toNat+1) G I (by omega);refine ⟨⟨by simp[hl],λx hx=>?_,λx hx=>?_⟩,?_,?_⟩
  ·simp only[List.mem_append,List.mem_singleton] at hx;rcases hx with hx | rfl
   ·exact h.q x hx
   exact hp
  ·simp only[] at hx ⊢;rcases List.mem_or_eq_of_mem_set hx with h1 | h1
   ·have:=h.le x h1;omega
   subst h1;omega
  ·simp only[List.length_append,List.length_singleton];omega
  simp only[];have J:s.toNat≠p.toNat:=λe=>by rw[e] at E;omega
  have:cget (st.1.set p.toNat (cget st.1 s.toNat+1)) s.toNat=cget st.1 s.toNat:=by
   unfold cget;simp[List.getD,List.getElem?_set_ne (Ne.symm J)]
  rw[this];exact E
 rw[if_neg hc];exact ⟨h,rfl,E⟩
theorem KT (n:Nat) (to:LI):(VH n to).length=n:=by simp[VH]
theorem QiE {n:Nat}{to:LI}(h:∀x∈to,0≤x∧x<(n:Int)):Qfb n (VH n to) to:=by
 refine ⟨KT n to,h,λx hx=>?_⟩;have E:=QdC (VH n to);rw[KT] at E;unfold VH at hx;simp only[List.mem_map] at hx;obtain ⟨i,_,rfl⟩:=hx;split <;> omega
theorem QgW {n:Nat}{to:LI}{x:Int}(h:0≤x∧x<(n:Int)) (hx:x∈to):cget (VH n to) x.toNat=0:=by
 have h1:x.toNat<(VH n to).length:=by rw[KT];omega
 rw[←Zn h1];have:((x.toNat:Nat):Int)=x:=by omega
 simp[VH,this,hx]
def QiL (o q:LI):Prop:=∀x∈q,0≤cget o x.toNat
theorem QeP {n:Nat}{s p:Int}{st:LI×LI}(h:Qfb n st.1 st.2) (H:0≤cget st.1 s.toNat) (hp:0≤p∧p<(n:Int)) (E:QiL st.1 st.2):QiL (bwE s st p).1 (bwE s st p).2:=by
 unfold bwE;have G:p.toNat<st.1.length:=by have:=h.len;omega
 by_cases hc:cget st.1 p.toNat<0
 ·rw[if_pos hc];intro x hx;simp only[] at hx ⊢;have e1:cget (st.1.set p.toNat (cget st.1 s.toNat+1)) x.toNat=if x.toNat=p.toNat then cget st.1 s.toNat+1 else cget st.1 x.toNat:=by
   by_cases e:x.toNat=p.toNat
   ·rw[if_pos e,e];unfold cget;simp[List.getD,G]
   rw[if_neg e];unfold cget;simp[List.getD,List.getElem?_set_ne (Ne.symm e)]
  rw[e1];split
  ·omega
  rename_i e;simp only[List.mem_append,List.mem_singleton] at hx;rcases hx with hx | rfl
  ·exact E x hx
  exact absurd O e
 rw[if_neg hc];exact E
theorem Qc9 (n:Nat):(List.replicate n (nS).cells.toList).flatten=(List.range n).map (λ_=>nS):=by
 apply Mk
 ·simp[Value.cells]
 intro i h1 h2;simp[Value.cells]
theorem Qb0 (n:Nat):(List.replicate n (Value.int .i64 0).cells.toList).flatten=(gA n (λj=>if j<0 then -1 else 0)).map (Value.int .i64):=by
 apply Mk
 ·simp[Value.cells,gA]
 intro i h1 h2;simp[Value.cells,gA]
theorem z8 {rv:Nat→Value}{n i:Nat}(hi:i<n):((List.range n).map rv)[0+i*1]?=some (rv i):=by simp[hi]
abbrev Lf:=List Bool
def lft (l:Lf) (s:Int):Bool:=l.getD s.toNat false
def cut (l:Lf) (s:Int):Lf:=l.set s.toNat false
def Jp (ul:LI) (lf:Lf) (out:List (Int×Int)) (e:Ed):List (Int×Int) :=
 if lft lf e.1=false∨lft lf e.2.2=true∨e.2.1∉ul then out else if out.getLast?.map (·.1)=some e.1 then out else out++[(e.1,e.2.1)]
def lost (a:QP) (ul:LI) (lf:Lf):List (Int×Int):=a.ed.foldl (Jp ul lf) []
def jX (lf:Lf) (x:Int) (z:LI×LI) (y:Int):LI×LI:=if lft lf y=true∧cget z.1 y.toNat<0 then (z.1.set y.toNat (cget z.1 x.toNat+1),z.2++[y]) else z
def dsL (E:List Ed) (lf:Lf):Nat→Nat→LI×LI→LI×LI
 | 0,_,z=>z
 | f+1,i,z=>if i<z.2.length then dsL E lf f (i+1) ((Yg E (cget z.2 i).toNat).foldl (jX lf (cget z.2 i)) z) else z
def zM (lf:Lf) (z:LI×LI) (x:Int):LI×LI:=if lft lf x=true then (z.1.set x.toNat 0,z.2++[x]) else z
def ds0 (a:QP) (lf:Lf):LI×LI:=a.mr.foldl (zM lf) (List.replicate a.st.toNat (-1),[])
def dsts (a:QP) (lf:Lf):LI:=(dsL a.ed lf a.st.toNat 0 (ds0 a lf)).1
def Ka (lf:Lf):Nat→LI→LI
 | _,[]=>[]
 | i,d::l=>if lf.getD i false=true∧d<0 then (i:Int)::Ka lf (i+1) l else Ka lf (i+1) l
def nxs (a:QP) (ul:LI) (lf:Lf):LI:=if (lost a ul lf).length≠0 then (lost a ul lf).map (·.1) else Ka lf 0 (dsts a lf)
def UR (a:QP) (ul:LI):Nat→Lf→Lf
 | 0,lf=>lf
 | f+1,lf=>if (nxs a ul lf).length=0 then lf else UR a ul f ((nxs a ul lf).foldl cut lf)
def lf0 (n:Nat) (fb:LI):Lf:=fb.foldl cut (List.replicate n true)
def Qjb (a:QP) (fb ul:LI):Lf:=UR a ul (a.st.toNat+1) (lf0 a.st.toNat fb)
def rstr (a:QP) (lf:Lf):QP:=⟨a.al,a.st,a.mr,a.ed.filter λe=>lft lf e.2.2⟩
def jp (a:QP) (lf:Lf):QP:=if a.st=0∨lft lf 0=false then ⟨a.al,0,[],[]⟩ else YV (rstr a lf)
def qR (a:QP) (fb ul:LI):QP:=jp a (Qjb a fb ul)
def fbs (s:Spc):LI:=s.fb.map (·.st)
def suE (c:Zv):Int:=Yr c
def suA (c:Zv):QP:=qR (spc c).a (fbs (spc c)) (unc c.ev)
def orB (b:Nat) (k:Nat):Nat:=b ||| (1 <<< k)
def rqB (x:XT):Nat→Nat→List XT→Nat
 | _,b,[]=>b
 | k,b,y::l=>rqB x (k+1) (if (y.a.al.any λe=>decide (e∈x.a.al))=true then orB b k else b) l
def prB (ls:List (Int×Int)):Nat:=ls.foldl (λb l=>orB b l.1.toNat) 0
def srR (c:Zv):LN:=c.rq.map λx=>rqB x 0 0 c.co
def srX (c:Zv):LN:=c.ex.map λx=>prB x.ls
def srC (c:Zv):LN:=c.cs.map λx=>prB x.ts
def srK (c:Zv) (k:Int):LN:=if k=1 then srR c else if k=2 then srX c else srC c
structure Vo where
 kd:Int
 ix:Int
 co:LI
def V9 (k:Int):Nat→LN→List Vo
 | _,[]=>[]
 | i,b::l=>⟨k,i,setK b 8⟩::V9 k (i+1) l
def mods (c:Zv):List Vo:=V9 1 0 (srR c)++(V9 2 0 (srX c)++V9 3 0 (srC c))
def sets (c:Zv):LN:=srR c++(srX c++srC c)
def jA (c:Zv):Nat:=(sets c).foldl (λl b=>l &&& (65535 ^^^ b)) (2 ^ c.co.length - 1)
def rem (c:Zv):LI:=setK (jA c) 8
def mdE (c:Zv) (m:Vo):Int:=if Q8 c≠0 then Q8 c else if m.kd<1∨3<m.kd then 11 else if m.ix<0∨((srK c m.kd).length:Int)≤m.ix then 10 else if m.co=setK ((srK c m.kd).getD m.ix.toNat 0) 8 then 0 else 13
structure Prt where
 co:LI
 rq:LI
 ex:LI
 cs:LI
def chs (l:List XT) (ix:LI):List XT:=ix.map λi=>l.getD i.toNat ⟨.empty,⟨[],0,[],[]⟩⟩
def ixP (co:LI) (ls:List (Int×Int)):List (Int×Int):=ls.map λl=>((co.idxOf l.1:Int),l.2)
def mis (co:LI) (ls:List (Int×Int)):Bool:=ls.any λl=>decide (l.1∉co)
def QfJ (c:Zv) (p:Prt):List ji:=p.ex.map λi=>⟨(c.ex.getD i.toNat ⟨.empty,[]⟩).nm,ixP p.co (c.ex.getD i.toNat ⟨.empty,[]⟩).ls⟩
def QfL (c:Zv) (p:Prt):List Xf:=p.cs.map λi=>⟨(c.cs.getD i.toNat ⟨.empty,[],0⟩).nm,ixP p.co (c.cs.getD i.toNat ⟨.empty,[],0⟩).ts,(c.cs.getD i.toNat ⟨.empty,[],0⟩).bd⟩
def QbA (c:Zv) (p:Prt):Zv:=⟨c.ev,chs c.co p.co,chs c.rq p.rq,QfJ c p,QfL c p⟩
def Qja (c:Zv) (p:Prt):Bool:=(p.ex.any λi=>mis p.co (c.ex.getD i.toNat ⟨.empty,[]⟩).ls) || (p.cs.any λi=>mis p.co (c.cs.getD i.toNat ⟨.empty,[],0⟩).ts)
def qV (c:Zv) (p:Prt):Int :=
 if Q8 c≠0 then Q8 c else if Xi c.co.length none p.co≠0 then Xi c.co.length none p.co else if Xi c.rq.length none p.rq≠0 then Xi c.rq.length none p.rq else
 if Xi c.ex.length none p.ex≠0 then Xi c.ex.length none p.ex else if Xi c.cs.length none p.cs≠0 then Xi c.cs.length none p.cs else if Qja c p=true then 13 else Q8 (QbA c p)
def prt (m:Vo):Prt:=⟨m.co,if m.kd=1 then [m.ix] else [],if m.kd=2 then [m.ix] else [],if m.kd≠1∧m.kd≠2 then [m.ix] else []⟩
def jg (c:Zv) (m:Vo):Int:=if mdE c m≠0 then mdE c m else qV c (prt m)
def mcC (c:Zv) (m:Vo):Zv:=QbA c (prt m)
def zL (c:Zv) (m:Vo):Int:=if jg c m≠0 then jg c m else suE (mcC c m)
def jf (c:Zv) (m:Vo):QP:=suA (mcC c m)
def msL (c:Zv):List Vo→Int
 | []=>0
 | m::l=>if zL c m≠0 then zL c m else msL c l
def Kp (c:Zv):Int:=if Q8 c≠0 then Q8 c else msL c (mods c)
def qS (c:Zv):List QP:=(mods c).map (jf c)++(rem c).map λi=>(c.co.getD i.toNat ⟨.empty,⟨[],0,[],[]⟩⟩).a
def K1 (l:List QP):Int:=if KX l≠0 then KX l else match sync l with | none=>3 | some _=>0
def tgE (c:Zv):Int:=if Kp c≠0 then Kp c else K1 (qS c)
def tgA (c:Zv):QP:=syA (qS c)
def ownr (c:Zv) (v:Int):LI:=ixs (λx:XT=>decide (v∈x.a.al)) 0 c.co
def shd (c:Zv):LI→Option (Int×Int×Int)
 | []=>none
 | v::l=>if 2≤(ownr c v).length then some (v,cget (ownr c v) 0,cget (ownr c v) 1) else shd c l
def QhE (c:Zv):Option (Int×Int×Int):=shd c (JP c.ev.length)
abbrev QX (p:Int×Int):LV:=[.int .i64 p.1,.int .i64 p.2]
theorem Xz (p:Int×Int):(QX p).length=2:=rfl
abbrev P2s (L:LN) (H:Array Obj) (v:Value) (l:List (Int×Int)):Prop:=Zq L H v l.length 2 (l.flatMap QX)
abbrev Zt (e:JV):LV:=[.string e.nm,.bool e.co,.bool e.ob,.bool e.fo,.int .i64 e.fl]
theorem VQ (e:JV):(Zt e).length=5:=rfl
abbrev K7 (s:ByteArray):Prop:=s.size≤9223372036854775807
structure Ki (L:LN) (H:Array Obj) (v:Value) (l:List JV):Prop where
 arr:Zq L H v l.length 5 (l.flatMap Zt)
 nm:∀e∈l,K7 e.nm
theorem Ki.ext {L:LN}{w w':World}{v:Value}{l:List JV}(h:Ki L w.heap v l) (hs:Step [] w w'):Ki L w'.heap v l:=⟨h.arr.ext hs,h.nm⟩
theorem Ki.st {L:LN}{w w':World}{v:Value}{l:List JV}(h:Ki L w.heap v l) (hs:Step L w w'):Ki L w'.heap v l:=⟨h.arr.st hs,h.nm⟩
theorem Ki.up {L L':LN}{H:Array Obj}{v:Value}{l:List JV}(h:Ki L H v l) (E:∀b∈L',b∈L∨H.size≤b):Ki L' H v l:=⟨h.arr.up E,h.nm⟩
structure IV where
 nm:ByteArray
 p:AV
def IV.it (q:IV):XT:=⟨q.nm,q.p.a⟩
abbrev Za (q:IV):LV:=[.string q.nm,q.p.va,.int .i64 q.p.a.st,q.p.vm,q.p.ve]
theorem Yz (q:IV):(Za q).length=5:=rfl
structure YW (L:LN) (H:Array Obj) (v:Value) (qs:List IV):Prop where
 arr:Zq L H v qs.length 5 (qs.flatMap Za)
 each:∀q∈qs,Zu L H q.p.va q.p.vm q.p.ve q.p.a
 nm:∀q∈qs,K7 q.nm
structure XV where
 nm:ByteArray
 v:Value
 ls:List (Int×Int)
def XV.x (q:XV):ji:=⟨q.nm,q.ls⟩
abbrev Zr (q:XV):LV:=[.string q.nm,q.v]
theorem Xx (q:XV):(Zr q).length=2:=rfl
structure UM (L:LN) (H:Array Obj) (v:Value) (qs:List XV):Prop where
 arr:Zq L H v qs.length 2 (qs.flatMap Zr)
 each:∀q∈qs,P2s L H q.v q.ls
 nm:∀q∈qs,K7 q.nm
structure KV where
 nm:ByteArray
 v:Value
 ts:List (Int×Int)
 bd:Int
def KV.k (q:KV):Xf:=⟨q.nm,q.ts,q.bd⟩
abbrev Zm (q:KV):LV:=[.string q.nm,q.v,.int .i64 q.bd]
theorem Y6 (q:KV):(Zm q).length=3:=rfl
structure UY (L:LN) (H:Array Obj) (v:Value) (qs:List KV):Prop where
 arr:Zq L H v qs.length 3 (qs.flatMap Zm)
 each:∀q∈qs,P2s L H q.v q.ts
 nm:∀q∈qs,K7 q.nm
theorem YW.ext {L:LN}{w w':World}{v:Value}{qs:List IV}(h:YW L w.heap v qs) (hs:Step [] w w'):YW L w'.heap v qs:=⟨h.arr.ext hs,λq hq=>(h.each q hq).ext hs,h.nm⟩
theorem YW.st {L:LN}{w w':World}{v:Value}{qs:List IV}(h:YW L w.heap v qs) (hs:Step L w w'):YW L w'.heap v qs:=⟨h.arr.st hs,λq hq=>(h.each q hq).st hs,h.nm⟩
theorem YW.up {L L':LN}{H:Array Obj}{v:Value}{qs:List IV}(h:YW L H v qs) (E:∀b∈L',b∈L∨H.size≤b):YW L' H v qs:=⟨h.arr.up E,λq hq=>(h.each q hq).up E,h.nm⟩
theorem UM.ext {L:LN}{w w':World}{v:Value}{qs:List XV}(h:UM L w.heap v qs) (hs:Step [] w w'):UM L w'.heap v qs:=⟨h.arr.ext hs,λq hq=>(h.each q hq).ext hs,h.nm⟩
theorem UM.st {L:LN}{w w':World}{v:Value}{qs:List XV}(h:UM L w.heap v qs) (hs:Step L w w'):UM L w'.heap v qs:=⟨h.arr.st hs,λq hq=>(h.each q hq).st hs,h.nm⟩
theorem UM.up {L L':LN}{H:Array Obj}{v:Value}{qs:List XV}(h:UM L H v qs) (E:∀b∈L',b∈L∨H.size≤b):UM L' H v qs:=⟨h.arr.up E,λq hq=>(h.each q hq).up E,h.nm⟩
theorem UY.ext {L:LN}{w w':World}{v:Value}{qs:List KV}(h:UY L w.heap v qs) (hs:Step [] w w'):UY L w'.heap v qs:=⟨h.arr.ext hs,λq hq=>(h.each q hq).ext hs,h.nm⟩
theorem UY.st {L:LN}{w w':World}{v:Value}{qs:List KV}(h:UY L w.heap v qs) (hs:Step L w w'):UY L w'.heap v qs:=⟨h.arr.st hs,λq hq=>(h.each q hq).st hs,h.nm⟩
theorem UY.up {L L':LN}{H:Array Obj}{v:Value}{qs:List KV}(h:UY L H v qs) (E:∀b∈L',b∈L∨H.size≤b):UY L' H v qs:=⟨h.arr.up E,λq hq=>(h.each q hq).up E,h.nm⟩
structure CL where
 ve:Value
 vc:Value
 vr:Value
 vx:Value
 vk:Value
 ev:List JV
 co:List IV
 rq:List IV
 ex:List XV
 cs:List KV
def CL.cel (c:CL):Zv:=⟨c.ev,c.co.map (·.it),c.rq.map (·.it),c.ex.map (·.x),c.cs.map (·.k)⟩
abbrev CL.cells (c:CL):LV:=[c.ve,c.vc,c.vr,c.vx,c.vk]
abbrev CL.val (c:CL):Value:=.agg #[c.ve,c.vc,c.vr,c.vx,c.vk]
structure ZB (L:LN) (H:Array Obj) (c:CL):Prop where
 ev:Ki L H c.ve c.ev
 co:YW L H c.vc c.co
 rq:YW L H c.vr c.rq
 ex:UM L H c.vx c.ex
 cs:UY L H c.vk c.cs
theorem ZB.ext {L:LN}{w w':World}{c:CL}(h:ZB L w.heap c) (hs:Step [] w w'):ZB L w'.heap c:=⟨h.ev.ext hs,h.co.ext hs,h.rq.ext hs,h.ex.ext hs,h.cs.ext hs⟩
theorem ZB.st {L:LN}{w w':World}{c:CL}(h:ZB L w.heap c) (hs:Step L w w'):ZB L w'.heap c:=⟨h.ev.st hs,h.co.st hs,h.rq.st hs,h.ex.st hs,h.cs.st hs⟩
theorem ZB.up {L L':LN}{H:Array Obj}{c:CL}(h:ZB L H c) (E:∀b∈L',b∈L∨H.size≤b):ZB L' H c:=⟨h.ev.up E,h.co.up E,h.rq.up E,h.ex.up E,h.cs.up E⟩
theorem ZB.ones {L:LN}{H:Array Obj}{c:CL}(h:ZB L H c):ZO c.cells:=⟨h.ev.arr.one,h.co.arr.one,h.rq.arr.one,h.ex.arr.one,h.cs.arr.one,U⟩
def Qhb (N:Nat) (H:Array Obj) (v:Value) (k:Zv):Prop:=∃c:CL,v=c.val∧c.cel=k∧∀L:LN,(∀b∈L,b<N)→ZB L H c
open Go.Proofs.Tryz
theorem Vq (s:ByteArray) (V:K7 s) (w:World):QI prog 162 [.string s] w λr w'=>r=.bool (J5 s)∧w'=w:=by
 unfold K7 at V;refine QI.of_W func162 O ntmps162 results162 (by simp) ?_;refine Qc<|Qe<|Qg<|Qc<|Qb<|x (K4 O)<|Qb<|xe<|Qh<|QA (α:=Nat) [(2,5),(8,46)] (λz=>[(8,.int .i64 z)]) (λz w'=>w'=w∧z≤s.size∧(List.range' z (s.size - z)).all (nmQ s)=(List.range' 0 s.size).all (nmQ s)) (λz=>s.size - z) (by rfl) 0 Z ⟨O,Lj _,by rw[Nat.sub_zero]⟩ ?_;rintro k g T ⟨rfl,hk,E⟩
 refine Qc<|x (QB O O)<|xe<|Qg<|QH O (λh9=>?_) (λh9=>?_)
 ·refine Qy ?_;have Y:s.size≤k:=by have ha:¬(k:Int)<(s.size:Int):=h9;omega
  rw[QfO Y] at E;have G:J5 s=decide (0<s.size∧s.size≤32):=by unfold J5;rw[←E];simp
  rw[G];refine Q0 (α:=Bool) [(2,2),(47,54)] (λz=>[(2,.bool z)]) (λz w'=>w'=T∧z=decide (0<s.size∧s.size≤32)) (by rfl) ?_ ?_
  ·refine Qz<|Qb<|x (K4 O)<|xb (Zx O O) (λhb=>?_) (λhb=>?_)
   ·refine Qb<|Qb<|x (K4 O)<|x (YK O O)<|x (Qj O)<|Qe ?_;exact ⟨_,Z,O,by first | exact bT (by omega) | exact bF (by omega) | exact bD (by omega)⟩
   refine Qb<|xs O<|xs O<|xs O<|x (Qj O)<|Qe ?_;exact ⟨_,Z,O,by first | exact bT (by omega) | exact bF (by omega) | exact bD (by omega)⟩
  rintro z g w2 ⟨rfl,rfl⟩;exact Qm ⟨[_],Z,O,O⟩
 have H:k<s.size:=by have ha:(k:Int)<(s.size:Int):=h9;omega
 rw[Qda H,L4] at E;refine Qi<|Qg<|Qh<|Qc<|Qb<|Qe<|Qc<|Qb<|Qb<|x (Qdk (i:=k) O O H)<|Qe ?_;have hq:nmQ s k=decide (nmP k (chr s k)):=rfl;refine Zh (chr s k) λc hc=>?_;rw[hc] at hq;refine Q0 (α:=Bool) [(5,5),(14,31)] (λz=>[(5,.bool z)]) (λz w'=>w'=T∧z=decide ((97≤c∧c≤122)∨(65≤c∧c≤90)∨c=95)) (by rfl) ?_ ?_
 ·rw[←hc];refine Qz<|Qb<|xb (ZX O O) (λhe=>?_) (λhe=>?_)
  ·refine Qb<|Qb<|xb (YK O O) (λhf=>?_) (λhf=>?_)
   ·refine x (Qj O)<|Qb<|xs O<|xs O<|xs O<|xs O<|xs O<|xs O<|x (Qj O)<|Qb<|xs O<|xs O<|x (Qj O) <|
     Qe ?_
    exact ⟨_,Z,O,by first | exact bT (by omega) | exact bF (by omega) | exact bD (by omega)⟩
   refine x (Qj O)<|Qb<|Qb<|xb (ZX O O) (λI=>?_) (λI=>?_)
   ·refine Qb<|Qb<|xb (YK O O) (λJ=>?_) (λJ=>?_)
    ·refine x (Qj O)<|x (Qj O)<|Qb<|xs O<|xs O<|x (Qj O)<|Qe ?_;exact ⟨_,Z,O,by first | exact bT (by omega) | exact bF (by omega) | exact bD (by omega)⟩
    refine x (Qj O)<|x (Qj O)<|Qb<|Qb<|x (Q5 O O)<|x (Qj O)<|Qe ?_;exact ⟨_,Z,O,by first | exact bT (by omega) | exact bF (by omega) | exact bD (by omega)⟩
   refine Qb<|xs O<|xs O<|x (Qj O)<|x (Qj O)<|Qb<|Qb<|x (Q5 O O)<|x (Qj O)<|x Qf <|
    xe ?_
   exact ⟨_,Z,O,by first | exact bT (by omega) | exact bF (by omega) | exact bD (by omega)⟩
  refine Qb<|xs O<|xs O<|x (Qj O)<|Qb<|Qb<|xb (ZX O O) (λI=>?_) (λI=>?_)
  ·refine Qb<|Qb<|xb (YK O O) (λJ=>?_) (λJ=>?_)
   ·refine x (Qj O)<|x (Qj O)<|Qb<|xs O<|xs O<|x (Qj O)<|Qe ?_;exact ⟨_,Z,O,by first | exact bT (by omega) | exact bF (by omega) | exact bD (by omega)⟩
   refine x (Qj O)<|x (Qj O)<|Qb<|Qb<|x (Q5 O O)<|x (Qj O)<|Qe ?_;exact ⟨_,Z,O,by first | exact bT (by omega) | exact bF (by omega) | exact bD (by omega)⟩
  refine Qb<|xs O<|xs O<|x (Qj O)<|x (Qj O)<|Qb<|Qb<|x (Q5 O O)<|x (Qj O)<|x Qf <|
   xe ?_
  exact ⟨_,Z,O,by first | exact bT (by omega) | exact bF (by omega) | exact bD (by omega)⟩
 rintro z g w4 ⟨rfl,rfl⟩;refine Q0 (α:=Bool) [(32,45)] (λz=>[(45,.bool z)]) (λz w'=>w'=w4∧z=decide (¬nmP k c)) (by rfl) ?_ ?_
 ·unfold nmP;rw[←hc];refine Qz<|Qb<|xb (V4 O) (λhg=>?_) (λhg=>?_)
  ·refine Qb<|Qb<|xb (Q5 O O) (λhh=>?_) (λhh=>?_)
   ·refine Qb<|xs O<|xs O<|x (Qj O)<|Qb<|xs O<|xs O<|x (Qj O)<|x (Qj O)<|xe ?_;exact ⟨_,Z,O,by first | exact bT (by omega) | exact bF (by omega) | exact bD (by omega)⟩
   refine Qb<|Qb<|xb (QB O O) (λhi=>?_) (λhi=>?_)
   ·refine x (Qj O)<|Qb<|xs O<|xs O<|x (Qj O)<|x (Qj O)<|xe ?_;exact ⟨_,Z,O,by first | exact bT (by omega) | exact bF (by omega) | exact bD (by omega)⟩
   refine x (Qj O)<|Qb<|Qb<|x (Zx O O)<|x (Qj O)<|x (Qj O)<|xe ?_;exact ⟨_,Z,O,by first | exact bT (by omega) | exact bF (by omega) | exact bD (by omega)⟩
  refine Qb<|xs O<|xs O<|xs O<|xs O<|xs O<|xs O<|xs O<|xs O<|xs O<|xs O<|x (Qj O)<|xe ?_;exact ⟨_,Z,O,by first | exact bT (by omega) | exact bF (by omega) | exact bD (by omega)⟩
 rintro z g w5 ⟨rfl,rfl⟩;refine Q7 rfl (λS=>?_) (λS=>?_)
 ·refine Qc<|Qe ?_;have G:J5 s=false:=by
   unfold J5;rw[←E,hq,decide_eq_false S];rfl
  exact Qm ⟨[_],Z,by rw[G];rfl,O⟩
 refine Qi ?_;have hj:nmP k c:=Lq.1 S;refine Qz<|QN O O<|Qb<|xe ?_;rw[hq,decide_eq_true hj,Bool.true_and] at E;exact ⟨k+1,by omega,Z,O,H,E⟩
def nmM (l:List ByteArray):List (ByteArray×Value):=l.map λs=>(s,.bool true)
theorem Qf0 (l:List ByteArray) (s:ByteArray):mget (nmM l) s=if s∈l then some (.bool true) else none:=by
 induction l with
 | nil=>rfl
 | cons a l ih =>
  show (if a=s then some (Value.bool true) else mget (nmM l) s)=_
  rw[ih];by_cases h:a=s
  ·subst h;simp
  have:s≠a:=λe=>h e.symm;simp[h,this]
theorem QaG {l:List ByteArray}{s:ByteArray}(h:s∉l):mput (nmM l) s (.bool true)=nmM (l++[s]):=by
 induction l with
 | nil=>rfl
 | cons a l ih =>
  have h1:a≠s:=λe=>h (by subst e;exact Ls);show (if a=s then (a,Value.bool true)::nmM l else (a,Value.bool true)::mput (nmM l) s (.bool true))=_
  rw[if_neg h1,ih (λhm=>h (Lm _ hm))];rfl
section
variable {P:Program} {f:Fr} {w:World} {d:Option Nat} {ty:Nat} {ps:String} {af:Array Edge} {gd:Option (Nat×Bool)}
theorem yd {t kt et:Nat}[hm:Mp P t kt et (.bool false)] [hk:Key P kt Y7] {x y:Operand}{b:Nat}{l:List ByteArray}{s:ByteArray}(h:Z0 Y7 w.heap b (nmM l)) (hx:ev f x=.map (some b)) (hy:ev f y=.string s) :
  (execOp (ev f) ⟨d,.lookup t x y false,ty,ps,af,gd⟩).run P w=.ok (.value (.bool (decide (s∈l)))) w:=by
 rw[XD h hx hy,Qf0];by_cases hs:s∈l <;> simp[hs]
end
theorem j4 {s:List ByteArray}{l:List JV}{k:Nat}(h:k<l.length):Uv s (l.drop k)=if Xv s (l[k]'h)≠0 then Xv s (l[k]'h) else Uv (s++[(l[k]'h).nm]) (l.drop (k+1)):=by
 rw[QZ h];rfl
theorem Uo {L:LN}{w:World}{v:Value}{l:List JV}(h:Ki L w.heap v l):QI prog 94 [v] w λr w'=>r=.int .i64 (Ju l)∧Step [] w w':=by
 have h0:=h.arr.le;refine QI.of_W func94 O ntmps94 results94 (by simp) ?_;refine Qc<|Qe<|Qg<|Qc<|Qb<|x (Qs h.arr O)<|x (Zx O O)<|xe<|Q7 rfl (λh8=>?_) (λh8=>?_)
 ·refine Qc<|Qe ?_;exact Qm ⟨[_],Z,by unfold Ju;rw[if_pos (by have h9:(32:Int)<(l.length:Int):=h8;omega)];rfl,Step.refl _ _⟩
 have hm:Ju l=Uv [] l:=by unfold Ju;rw[if_neg (by have h9:¬(32:Int)<(l.length:Int):=h8;omega)]
 rw[hm];refine Qi<|Qc<|xl O<|Yk Y7 λb9 w1 hg ho hp=>Qe<|Qg<|Qc<|Qb<|x (Qs (h.arr.ext hg) O)<|Qb<|xe<|Qh<|QA (α:=Nat×List ByteArray) [(2,2),(5,5),(12,50)] (λz=>[(12,.int .i64 z.1)]) (λz w'=>z.1≤l.length∧Step [] w w'∧Z0 Y7 w'.heap b9 (nmM z.2)∧Uv z.2 (l.drop z.1)=Uv [] l) (λz=>l.length - z.1) (by rfl) (0,[]) Z
  ⟨Lj _,hg,hp,O⟩ ?_
 rintro ⟨k,sn⟩ g w2 ⟨hk,H,hh,E⟩;simp only[] at hk hh E;refine Qc<|x (QB O O)<|xe<|Qg<|QH O (λha=>?_) (λha=>?_)
 ·refine Qy ?_;have hq:l.length≤k:=by have hr:¬(k:Int)<(l.length:Int):=ha;omega
  rw[Lp hq] at E;refine Qc<|Qe ?_;exact Qm ⟨[_],Z,by rw[←E];rfl,H⟩
 have T:k<l.length:=by have hr:(k:Int)<(l.length:Int):=ha;omega
 rw[j4 T] at E;have hi:=h.nm _ (Lc T);refine Qi<|Qg<|Qh<|Qc<|xig VQ (h.arr.ext H) O O T λh2 hj=>?_;refine Zh (l[k]'T) λe he=>?_;rw[he] at hj E hi;refine x (QF hj O O)<|xl O<|Qt (us:=[.string .empty,.bool false,.bool false,.bool false,.int .i64 0]) O λb5 w3 hs ht G=>xl O<|Qp (us:=Zt e) G O O O O ⟨O,O,O,O,O,U⟩ λw4 hu G =>
  xe ?_
 have I:Step [] w2 w4:=hs.then1 hu ht;have hl:=hh.ext I;refine Qg<|Qh<|Qc<|x (Qa O)<|x (Qd G O O)<|xl O<|xf<|(Vq e.nm hi _).mono ?_;rintro r5 w5 ⟨rfl,rfl⟩;refine x (Zs O)<|Qe<|Q2 O (λhb=>?_) (λhb=>?_)
 ·have J:J5 e.nm=false:=by simpa using hb
  have h1:Xv sn e=7:=by unfold Xv;rw[if_pos J]
  refine Qc<|Qe ?_;exact Qm ⟨[_],Z,by rw[←E,h1];rfl,H.trans I⟩
 have J:¬J5 e.nm=false:=by simpa using hb
 refine Qc<|Qb<|x (Qa O)<|x (Qd G O O)<|x (yd hl O O)<|Qe<|Q7 O (λS=>?_) (λS=>?_)
 ·have h1:Xv sn e=8:=by unfold Xv;rw[if_neg J,if_pos S]
  refine Qc<|Qe ?_;exact Qm ⟨[_],Z,by rw[←E,h1];rfl,H.trans I⟩
 refine Q0 (α:=Bool) [(26,34)] (λz=>[(26,.bool z)]) (λz w'=>w'=w5∧z=decide (e.fl<0∨4<e.fl)) (by rfl) ?_ ?_
 ·refine Qz<|x (Qa O)<|x (Qd G O O)<|xb (QB O O) (λhv=>?_) (λhv=>?_)
  ·refine Qb<|xs O<|xs O<|xs O<|x (Qj O)<|Qe ?_;exact ⟨_,Z,O,by first | exact bT (by omega) | exact bF (by omega) | exact bD (by omega)⟩
  refine Qb<|x (Qa O)<|x (Qd G O O)<|x (Zx O O)<|x (Qj O)<|Qe ?_;exact ⟨_,Z,O,by first | exact bT (by omega) | exact bF (by omega) | exact bD (by omega)⟩
 rintro z g w6 ⟨rfl,rfl⟩;refine Q7 rfl (λV=>?_) (λV=>?_)
 ·have h1:Xv sn e=2:=by unfold Xv;rw[if_neg J,if_neg S,if_pos V]
  refine Qc<|Qe ?_;exact Qm ⟨[_],Z,by rw[←E,h1];rfl,H.trans I⟩
 refine Q0 (α:=Bool) [(35,46)] (λz=>[(35,.bool z)]) (λz w'=>w'=w6∧z=decide (e.fl≠0∧(e.co || e.ob)=true)) (by rfl) ?_ ?_
 ·refine Qz<|x (Qa O)<|x (Qd G O O)<|xb (Q9 O O) (λY=>?_) (λY=>?_)
  ·refine Qb<|x (Qa O)<|xB (Qd G O O) (λhc=>?_) (λhc=>?_)
   ·refine Qb<|xs O<|xs O<|x (Qj O)<|x (Qj O)<|Qe ?_;exact ⟨_,Z,O,by rw[hc,decide_eq_true ⟨Y,by simp⟩]⟩
   refine Qb<|x (Qa O)<|x (Qd G O O)<|x (Qj O)<|x (Qj O)<|Qe<|⟨_,Z,O,?_⟩;show e.ob=_;rw[hc];cases e.ob <;> simp[show ¬e.fl=0 from Y]
  refine Qb<|xs O<|xs O<|xs O<|xs O<|xs O<|xs O<|x (Qj O)<|Qe ?_;exact ⟨_,Z,O,bF (λh1=>Y h1.1)⟩
 rintro z g w7 ⟨rfl,rfl⟩;refine Q7 rfl (λhf=>?_) (λhf=>?_)
 ·have h1:Xv sn e=13:=by unfold Xv;rw[if_neg J,if_neg S,if_neg V,if_pos hf]
  refine Qc<|Qe ?_;exact Qm ⟨[_],Z,by rw[←E,h1];rfl,H.trans I⟩
 have h1:Xv sn e=0:=by unfold Xv;rw[if_neg J,if_neg S,if_neg V,if_neg hf]
 rw[h1,if_neg (λh=>h rfl)] at E;refine Qi<|Qz<|Qb<|x (Qa O)<|x (Qd G O O)<|xl O<|Y3 (k:=e.nm) hl O O λw8 hw hy=>xe ?_;refine Qz<|QN O O<|Qb<|xe ?_;have hz:Z0 Y7 w8.heap b9 (nmM (sn++[e.nm])):=by rw[←QaG S];exact hy
 exact ⟨(k+1,sn++[e.nm]),by simp only[];omega,Z,T,(H.trans I).then1 hw ho,hz,E⟩
theorem yt {α:Type}(q:α→Bool) (x:α):∀(l:List α) (i:Nat),ixs q i (l++[x])=ixs q i l++if q x=true then [((i+l.length:Nat):Int)] else []
 | [],i=>by simp[ixs]
 | a::l,i=>by
  have ih:=yt q x l (i+1);simp only[List.cons_append,ixs,ih,List.length_cons];rw[show i+1+l.length=i+(l.length+1) by omega];split <;> simp
theorem VO {α:Type}(q:α→Bool):∀(l:List α) (i:Nat),(ixs q i l).length≤l.length
 | [],i=>by simp[ixs]
 | a::l,i=>by
  have ih:=VO q l (i+1);unfold ixs;split <;> simp <;> omega
theorem yr {α:Type}(q:α→Bool) {l:List α}{k:Nat}(h:k<l.length):ixs q 0 (l.take (k+1))=ixs q 0 (l.take k)++if q (l[k]'h)=true then [(k:Int)] else []:=by
 rw[Le h,yt];simp[Nat.min_eq_left (Nat.le_of_lt h)]
theorem Qcg {g:Nat}{fn:Func}[Fu prog g fn] {q:JV→Bool}(hq:∀(e:JV) (w:World),QI prog g [.agg (Zt e).toArray] w λr w'=>r=.bool (q e)∧Step [] w w') {L:LN}{w:World}{v:Value}{l:List JV}(h:Ki L w.heap v l) :
  QI prog 114 [v,.func (.func g) #[] #[]] w λr w'=>Step [] w w'∧Qu 3 w.heap.size w' r (ixs q 0 l):=by
 have hs:=h.arr.le;refine QI.of_W func114 O ntmps114 results114 (by simp) ?_;refine Qc<|Qe<|Qc<|Qe<|Qg<|Qc<|Qb<|x (Qs h.arr O)<|Qb<|xe<|Qh<|QA (α:=Nat×Value) [(5,7),(10,22)] (λz=>[(5,z.2),(10,.int .i64 z.1)]) (λz w'=>z.1≤l.length∧Step [] w w'∧Qu 3 w.heap.size w' z.2 (ixs q 0 (l.take z.1))) (λz=>l.length - z.1) (by rfl) (0,nS) ⟨O,O,U⟩
  ⟨Lj _,Step.refl _ _,QM _ _ _ _⟩ ?_
 rintro ⟨k,vo⟩ g w1 ⟨hk,E,I⟩;simp only[] at hk I;refine Qc<|x (QB O O)<|xe<|Qg<|QH O (λS=>?_) (λS=>?_)
 ·refine Qy ?_;have hf:l.length≤k:=by have hg:¬(k:Int)<(l.length:Int):=S;omega
  rw[Ll hf] at I;refine Qc<|Qb<|Qe ?_;exact Qm ⟨[_],Z,E,I⟩
 have G:k<l.length:=by have hg:(k:Int)<(l.length:Int):=S;omega
 have H:=yr q G;have ht:=VO q (l.take k) 0;have hu:(l.take k).length=k:=by simp;omega
 refine Qi<|Qg<|Qh<|Qc<|Qb<|xig VQ (h.arr.ext E) O O G λhv hc=>?_;refine Zh (l[k]'G) λe he=>?_;rw[he] at hc H;refine x (QF hc O O)<|xl O<|Qt (us:=[.string .empty,.bool false,.bool false,.bool false,.int .i64 0]) O λb7 w2 hh hi T=>x Qf <|
  xl rfl<|Qp (us:=Zt e) T O O O O ⟨O,O,O,O,O,U⟩ λw3 hj T=>xe ?_
 have hl:Step [] w1 w3:=hh.then1 hj hi;refine Qc<|Qb<|x (Qr T O O)<|xl O<|xc (first:=[]) (capt:=[]) O<|(hq e w3).mono ?_;rintro r4 w4 ⟨rfl,hm⟩;have J:=hl.trans hm;have V:=Qq I J;have hw:=(E.trans J).size;refine xe<|Q2 rfl (λY=>?_) (λY=>?_)
 ·rw[if_pos Y] at H;refine Qz<|Qb<|Qb<|xl O<|QD (us:=[[.int .i64 k]]) O O (by decide) (by simp) ⟨rfl,rfl,U⟩ λhy w5 ha hz hn=>?_;have ho:=Qq V ha;have h0:=ha.size;refine xl O<|Q6 (news:=[.int .i64 k]) (L:=[]) ho O O O (hn.at (by simp)) (by simp[Value.oneCell']) (by omega) (by omega) λv6 w6 hp hr h1 =>
   Qe ?_
  have hge:=Qn V;refine Qz<|QN O O<|Qb<|xe<|⟨(k+1,v6),by simp only[];omega,⟨O,O,U⟩,G,((E.trans J).trans ha).then hr (λb hb=>.inr (hge b hb).1),?_⟩;simp only[];rw[H];exact Qu.snoc hp
 rw[if_neg (by rw[Y];decide),LJ] at H;refine Qi<|Qz<|QN O O<|Qb<|xe ?_;exact ⟨(k+1,vo),by simp only[];omega,⟨O,O,U⟩,G,E.trans J,by simp only[];rw[H];exact V⟩
theorem Qab (e:JV) (w:World):QI prog 109 [.agg (Zt e).toArray] w λr w'=>r=.bool (!e.co)∧Step [] w w':=by
 refine QI.of_W func109 O ntmps109 results109 (by simp) ?_;refine Qc<|xl O<|QQ (us:=Zt e) O λH I E J G=>Qe<|Qc<|x (Qa O)<|x (Qd G O O)<|x (Zs O)<|Qe ?_;exact Qm ⟨[_],Z,O,E⟩
theorem Qcq {L:LN}{w:World}{v:Value}{l:List JV}(h:Ki L w.heap v l):QI prog 44 [v,.int .i64 2] w λr w'=>Step [] w w' ∧
  ∃vo,r=.tuple #[vo,.int .i64 (Ju l)]∧Qu 3 w.heap.size w' vo (if Ju l=0 then unc l else []):=by
 refine QI.of_W func44 O ntmps44 results44 (by simp) ?_;refine Qc<|x Qf<|Qe<|Qg<|Qc<|Qb<|xl O<|xf<|(Uo h).mono ?_;rintro r1 I ⟨rfl,J⟩;refine Qe<|Qc<|Qb<|x (Q9 O O)<|xe<|Q7 rfl (λG=>?_) (λG=>?_)
 ·refine Qc<|Qb<|x Qf<|Qe ?_;exact Qm ⟨[_,_],⟨O,O,U⟩,J,_,O,by rw[if_neg G];exact QM _ _ _ _⟩
 have S:Ju l=0:=Lq.1 G;refine Qi<|Qc<|xl O<|Yk J4 λT w2 V E Y=>xl O<|YL (k:=1) Y O O λw3 ha hb=>xl O<|YL (k:=2) hb O O λw4 hc he =>
  xl rfl<|YL (k:=3) he O O λw5 hf hg=>xl O<|YL (k:=4) hg O O λw6 hh hi=>xl O<|YL (k:=5) hi O O λw7 hj hk=>xl O<|YL (k:=6) hk O O λw8 hl hm =>
  Qb<|Qe ?_
 have hq:I.heap.size≤T:=E;have hn:Step [] I w8:=(((((V.then1 ha E).then1 hc E).then1 hf E).then1 hh E).then1 hj E).then1 hl E;refine Qc<|Qb<|Qb<|x (ql (k:=(2:Int)) hm O O O)<|Qb<|x (Ql O O)<|x (Ql O O)<|x Qf<|Qe<|Qg<|Qc<|Qb<|x (Zs O)<|xe<|Yc rfl ?_;refine Qi ?_;have H:=J.trans hn;refine Qc<|Qb<|Qb<|xl O<|xf<|(Qcg Qab (h.ext H)).mono ?_
 rintro r9 w9 ⟨ho,hp⟩;refine x Qf<|Qe<|Qm ⟨[_,_],⟨O,O,U⟩,H.trans ho,_,by rw[S];rfl,?_⟩;rw[if_pos S];exact Zk hp H.size
theorem yx (n:Int) (w:World):QI prog 220 [.int .i64 n] w λr w'=>r=.bool (grt n)∧w'=w:=by
 refine QI.of_W func220 O ntmps220 results220 (by simp) ?_;refine Qc<|Qe<|Q0 (α:=Bool) [(2,8)] (λz=>[(2,.bool z)]) (λz w'=>w'=w∧z=grt n) (by rfl) ?_ ?_
 ·refine Qz<|Qb<|xb (QB O O) (λE=>?_) (λE=>?_)
  ·refine Qb<|xs O<|xs O<|x (Qj O)<|Qe ?_;exact ⟨_,Z,O,by unfold grt;rw[decide_eq_true E];rfl⟩
  refine Qb<|Qb<|x (Zx O O)<|x (Qj O)<|Qe ?_;exact ⟨_,Z,O,by unfold grt;rw[decide_eq_false E];rfl⟩
 rintro z g G ⟨rfl,rfl⟩;exact Qm ⟨[_],Z,O,O⟩
theorem j3 {sz:LI}{ls:List (Int×Int)}{k:Nat}(h:k<ls.length):KQ sz (pv (ls.map (·.1)) k) (ls.drop k)=if (ls[k]'h).1<0∨(sz.length:Int)≤(ls[k]'h).1 then 2 else if zo (pv (ls.map (·.1)) k) (ls[k]'h).1=true then 5 else if (ls[k]'h).2<0∨cget sz (ls[k]'h).1.toNat≤(ls[k]'h).2 then 2 else KQ sz (pv (ls.map (·.1)) (k+1)) (ls.drop (k+1)):=by
 rw[QZ h,XZ (by simpa using h),MN];rfl
theorem KR {w:World}{vs vx vk vl:Value}{sz:LI}{ls:List (Int×Int)}{nm:ByteArray}(hS:QK [] w.heap vs sz) (hl:P2s [] w.heap vl ls) :
  QI prog 170 [.agg #[vs,vx,vk],.agg #[.string nm,vl]] w λr w'=>r=.int .i64 (Jd sz ls)∧Step [] w w':=by
 have hH:=hl.le;have hI:=hS.le;refine QI.of_W func170 O ntmps170 results170 (by simp) ?_;refine Qc<|xl O<|QQ (us:=[vs,vx,vk]) O λb2 w1 hy hJ V=>xl O<|QQ (us:=[.string nm,vl]) O λb3 w2 hp hK Y=>Qe ?_;have G:=hy.trans hp
 replace V:=V.ext hp;refine Qg<|Qc<|x (Qa O)<|x (Qd Y O O)<|x (Qs (hl.ext G) O)<|x (Q5 O O)<|xe<|Q7 rfl (λha=>?_) (λha=>?_)
 ·refine Qc<|Qe ?_;exact Qm ⟨[_],Z,by unfold Jd;rw[if_pos (by have hz:(ls.length:Int)=0:=ha;omega)];rfl,G⟩
 have h0:ls.length≠0:=by have hz:¬(ls.length:Int)=0:=ha;omega
 have h1:Jd sz ls=KQ sz none ls:=by unfold Jd;rw[if_neg h0]
 rw[h1];refine Qi<|Qg<|Qc<|x (Qa O)<|x (Qd Y O O)<|x (Qs (hl.ext G) O)<|Qb<|xe<|Qh<|QA (α:=Nat) [(4,6),(14,61)] (λz=>[(14,.int .i64 z)]) (λz w'=>z≤ls.length∧Step [] w2 w'∧KQ sz (pv (ls.map (·.1)) z) (ls.drop z)=KQ sz none ls) (λz=>ls.length - z) (by rfl) 0 Z
  ⟨Lj _,Step.refl _ _,O⟩ ?_
 rintro k g w3 ⟨hk,J,E⟩;have hb:=G.trans J;have hq:=V.ext J;have h2:=Y.ext J;have hr:=hl.ext hb;have hs:=hS.ext hb;refine Qc<|x (QB O O)<|xe<|Qg<|QH O (λhf=>?_) (λhf=>?_)
 ·refine Qy ?_;have h3:ls.length≤k:=by have h4:¬(k:Int)<(ls.length:Int):=hf;omega
  rw[Lp h3] at E;refine Qc<|Qe ?_;exact Qm ⟨[_],Z,by rw[←E];rfl,hb⟩
 have S:k<ls.length:=by have h4:(k:Int)<(ls.length:Int):=hf;omega
 rw[j3 S] at E;refine Qi<|Qg<|Qh<|Qc<|Qb<|xig Xz hr O O S λhL ht=>?_;refine Zh (ls[k]'S) λe he=>?_;rw[he] at ht E;refine x (QF ht O O)<|xl O<|Qt (us:=[.int .i64 0,.int .i64 0]) O λb6 w4 h5 h6 I=>x Qf<|xl O<|Qp (us:=QX e) I O O O O ⟨O,O,U⟩ λw5 h7 I=>xe ?_;have H:Step [] w3 w5:=h5.then1 h7 h6;have hu:=J.trans H
 refine Qh<|Q0 (α:=Bool) [(19,30)] (λz=>[(19,.bool z)]) (λz w'=>w'=w5∧z=decide (e.1<0∨(sz.length:Int)≤e.1)) (by rfl) ?_ ?_
 ·refine Qz<|x (Qa O)<|x (Qd I O O)<|xb (QB O O) (λh8=>?_) (λh8=>?_)
  ·refine Qb<|xs O<|xs O<|xs O<|xs O<|xs O<|xs O<|x (Qj O)<|Qe ?_;exact ⟨_,Z,O,by first | exact bT (by omega) | exact bF (by omega) | exact bD (by omega)⟩
  refine Qb<|x (Qa O)<|x (Qd I O O)<|x (Qa O)<|x (Qd (hq.ext H) O O)<|x (Qs (hs.ext H) O)<|x (ZX O O) <|
   x (Qj rfl)<|Qe ?_
  exact ⟨_,Z,O,by first | exact bT (by omega) | exact bF (by omega) | exact bD (by omega)⟩
 rintro z g w6 ⟨rfl,rfl⟩;refine Q7 rfl (λhg=>?_) (λhg=>?_)
 ·rw[if_pos hg] at E;refine Qc<|Qe ?_;exact Qm ⟨[_],Z,by rw[←E];rfl,G.trans hu⟩
 rw[if_neg hg] at E;have h9:e.1=((e.1.toNat:Nat):Int):=by omega
 have hA:e.1.toNat<sz.length:=by omega
 refine Q0 (α:=Bool) [(31,45)] (λz=>[(31,.bool z)]) (λz w'=>Step [] w6 w'∧z=zo (pv (ls.map (·.1)) k) e.1) (by rfl) ?_ ?_
 ·refine QW (Step [] w6) [(0,true),(1,true),(2,true),(3,true),(4,true),(5,true),(6,true),(7,true),(8,true),(9,true),(10,true),(11,true),(12,true),(13,true),(14,true)] mixed (by rfl) (by kernel_rfl) (Step.drew _ _) ?_;refine p (λ_=>Qo)<|pb (λ_=>Zx O O) (λhh=>?_) (λhh=>?_)
  ·have hi:k≠0:=by have hB:(0:Int)<(k:Int):=hh;omega
   have hC:((k:Int) - 1)=((k - 1:Nat):Int):=by omega
   have hj:k - 1<ls.length:=by omega
   refine p (λ_=>Qo)<|p (λ_=>Qa O)<|pq (λ_ hc=>Qd (I.ext hc) O O)<|p (λ_=>Qa O)<|pq (λ_ hc=>Qd ((h2.ext H).ext hc) O O) <|
    p (λ_=>Qo)<|p (λ_=>Ja O O ⟨by omega,by omega⟩)<|Lg.pig (g:=QX) (i:=k - 1) O Xz (hr.ext H) O (congrArg (Value.int .i64) hC) hj λhM hD=>p (λ_=>Zb O) <|
    pq (λ_ hc=>Qv ((hD.fld 0 _ O).ext hc) O)<|p (λ_=>YK O O)<|p (λ_=>Qj O)<|p (λ_=>Qf)<|pe ?_
   refine ⟨_,Z,Step.drew _ _,?_⟩;have:pv (ls.map (·.1)) k=some (ls[k - 1]'hj).1:=by simp[pv,hi,hj]
   rw[this];rfl
  have hi:k=0:=by have hB:¬(0:Int)<(k:Int):=hh;omega
  refine p (λ_=>Qo)<|ps<|ps<|ps<|ps<|ps<|ps<|ps<|ps<|ps<|ps<|p (λ_=>Qj O)<|p (λ_=>Qf)<|pe ?_;exact ⟨false,Z,Step.drew _ _,by simp[pv,hi,zo]⟩
 rintro z g w7 ⟨T,rfl⟩;have hv:=hu.trans T;refine Q2 rfl (λhm=>?_) (λhm=>?_)
 ·rw[if_pos hm] at E;refine Qc<|Qe ?_;exact Qm ⟨[_],Z,by rw[←E];rfl,G.trans hv⟩
 rw[if_neg (by simp[hm])] at E;have hn:=I.ext T;refine Q0 (α:=Bool) [(46,60)] (λz=>[(46,.bool z)]) (λz w'=>Step [] w7 w'∧z=decide (e.2<0∨cget sz e.1.toNat≤e.2)) (by rfl) ?_ ?_
 ·refine QW (Step [] w7) [(0,true),(1,true),(2,true),(3,true),(4,true),(5,true),(6,true),(7,true),(8,true),(9,true),(10,true),(11,true),(12,true),(13,true),(14,true)] mixed (by rfl) (by kernel_rfl) (Step.drew _ _) ?_;refine p (λ_=>Qa O)<|pq (λ_ hc=>Qd (hn.ext hc) O O)<|pb (λ_=>QB O O) (λhE=>?_) (λhE=>?_)
  ·refine p (λ_=>Qo)<|ps<|ps<|ps<|ps<|ps<|ps<|ps<|ps<|ps<|p (λ_=>Qj O)<|p (λ_=>Qf)<|pe ?_;exact ⟨_,Z,Step.drew _ _,by first | exact bT (by omega) | exact bF (by omega) | exact bD (by omega)⟩
  refine p (λ_=>Qo)<|p (λ_=>Qa O)<|pq (λ_ hc=>Qd (hn.ext hc) O O)<|p (λ_=>Qa O)<|pq (λ_ hc=>Qd (((hq.ext H).ext T).ext hc) O O) <|
   p (λ_=>Qa O)<|pq (λ_ hc=>Qd (hn.ext hc) O O)<|pic (i:=e.1.toNat) O ((hs.ext H).ext T) O (congrArg (Value.int .i64) h9) hA λhN hF=>pq (λ_ hc=>Qv (hF.ext hc) O) <|
   p (λ_=>ZX O O)<|p (λ_=>Qj O)<|p (λ_=>Qf)<|pe ?_
  exact ⟨_,Z,Step.drew _ _,by first | exact bT (by omega) | exact bF (by omega) | exact bD (by omega)⟩
 rintro z g w8 ⟨hG,rfl⟩;have hw:=hv.trans hG;refine Q7 rfl (λho=>?_) (λho=>?_)
 ·rw[if_pos ho] at E;refine Qc<|Qe ?_;exact Qm ⟨[_],Z,by rw[←E];rfl,G.trans hw⟩
 rw[if_neg ho] at E;refine Qi<|Qz<|QN O O<|Qb<|xe ?_;exact ⟨k+1,by omega,Z,S,hw,E⟩
theorem j2 {sz:LI}{ls:List (Int×Int)}{k:Nat}(h:k<ls.length):Jc sz (pv (ls.map (·.1)) k) (ls.drop k)=if (ls[k]'h).1<0∨(sz.length:Int)≤(ls[k]'h).1 then 2 else if zo (pv (ls.map (·.1)) k) (ls[k]'h).1=true then 5 else if (ls[k]'h).2=0∨grt (ls[k]'h).2=true then 2 else Jc sz (pv (ls.map (·.1)) (k+1)) (ls.drop (k+1)):=by
 rw[QZ h,XZ (by simpa using h),MN];rfl
theorem J9 {w:World}{vs vx vk vl:Value}{sz:LI}{ls:List (Int×Int)}{nm:ByteArray}{bd:Int}(hS:QK [] w.heap vs sz) (hl:P2s [] w.heap vl ls) :
  QI prog 172 [.agg #[vs,vx,vk],.agg #[.string nm,vl,.int .i64 bd]] w λr w'=>r=.int .i64 (Je sz ⟨nm,ls,bd⟩)∧Step [] w w':=by
 have hH:=hl.le;have hI:=hS.le;refine QI.of_W func172 O ntmps172 results172 (by simp) ?_;refine Qc<|xl O<|QQ (us:=[vs,vx,vk]) O λb2 w1 h0 hJ V=>xl O<|QQ (us:=[.string nm,vl,.int .i64 bd]) O λb3 w2 hq hK Y=>Qe ?_;have G:=h0.trans hq
 replace V:=V.ext hq;refine Qg<|Qc<|x (Qa O)<|x (Qd Y O O)<|x (Qs (hl.ext G) O)<|x (Q5 O O)<|xe<|Q7 rfl (λha=>?_) (λha=>?_)
 ·refine Qc<|Qe ?_;exact Qm ⟨[_],Z,by unfold Je;rw[if_pos (by have h1:(ls.length:Int)=0:=ha;show ls.length=0;omega)];rfl,G⟩
 have h2:ls.length≠0:=by have h1:¬(ls.length:Int)=0:=ha;omega
 have h3:Je sz ⟨nm,ls,bd⟩=if Jc sz none ls≠0 then Jc sz none ls else if grt bd=true then 2 else 0:=by unfold Je;rw[if_neg h2]
 rw[h3];refine Qi<|Qg<|Qc<|x (Qa O)<|x (Qd Y O O)<|x (Qs (hl.ext G) O)<|Qb<|xe<|Qh<|QA (α:=Nat) [(4,6),(14,55)] (λz=>[(14,.int .i64 z)]) (λz w'=>z≤ls.length∧Step [] w2 w'∧Jc sz (pv (ls.map (·.1)) z) (ls.drop z)=Jc sz none ls) (λz=>ls.length - z) (by rfl) 0 Z
  ⟨Lj _,Step.refl _ _,O⟩ ?_
 rintro k g w3 ⟨hk,J,E⟩;have S:=G.trans J;have h4:=V.ext J;have hr:=Y.ext J;have hs:=hl.ext S;have h5:=hS.ext S;refine Qc<|x (QB O O)<|xe<|Qg<|QH O (λhb=>?_) (λhb=>?_)
 ·refine Qy ?_;have h6:ls.length≤k:=by have h7:¬(k:Int)<(ls.length:Int):=hb;omega
  rw[Lp h6] at E;have h8:Jc sz none ls=0:=E.symm;rw[h8,if_neg (λh=>h rfl)];refine Qg<|Qc<|x (Qa O)<|x (Qd hr O O)<|xl O<|xf<|(yx bd _).mono ?_;rintro r4 w4 ⟨rfl,rfl⟩;refine xe<|Q2 O (λhf=>?_) (λhf=>?_)
  ·rw[if_pos hf];refine Qc<|Qe ?_;exact Qm ⟨[_],Z,O,S⟩
  rw[if_neg (by simp[hf])];refine Qi<|Qc<|Qe ?_;exact Qm ⟨[_],Z,O,S⟩
 have T:k<ls.length:=by have h7:(k:Int)<(ls.length:Int):=hb;omega
 rw[j2 T] at E;refine Qi<|Qg<|Qh<|Qc<|Qb<|xig Xz hs O O T λhL ht=>?_;refine Zh (ls[k]'T) λe he=>?_;rw[he] at ht E;refine x (QF ht O O)<|xl O<|Qt (us:=[.int .i64 0,.int .i64 0]) O λb6 w4 h9 hA H=>x Qf<|xl O<|Qp (us:=QX e) H O O O O ⟨O,O,U⟩ λw5 hB H=>xe ?_;have I:Step [] w3 w5:=h9.then1 hB hA;have hu:=J.trans I
 refine Qh<|Q0 (α:=Bool) [(19,30)] (λz=>[(19,.bool z)]) (λz w'=>w'=w5∧z=decide (e.1<0∨(sz.length:Int)≤e.1)) (by rfl) ?_ ?_
 ·refine Qz<|x (Qa O)<|x (Qd H O O)<|xb (QB O O) (λhC=>?_) (λhC=>?_)
  ·refine Qb<|xs O<|xs O<|xs O<|xs O<|xs O<|xs O<|x (Qj O)<|Qe ?_;exact ⟨_,Z,O,by first | exact bT (by omega) | exact bF (by omega) | exact bD (by omega)⟩
  refine Qb<|x (Qa O)<|x (Qd H O O)<|x (Qa O)<|x (Qd (h4.ext I) O O)<|x (Qs (h5.ext I) O)<|x (ZX O O) <|
   x (Qj rfl)<|Qe ?_
  exact ⟨_,Z,O,by first | exact bT (by omega) | exact bF (by omega) | exact bD (by omega)⟩
 rintro z g w6 ⟨rfl,rfl⟩;refine Q7 rfl (λhh=>?_) (λhh=>?_)
 ·rw[if_pos hh] at E;refine Qc<|Qe ?_;exact Qm ⟨[_],Z,by rw[←E,if_pos (by decide)];rfl,G.trans hu⟩
 rw[if_neg hh] at E;have hM:e.1=((e.1.toNat:Nat):Int):=by omega
 have hN:e.1.toNat<sz.length:=by omega
 refine Q0 (α:=Bool) [(31,45)] (λz=>[(31,.bool z)]) (λz w'=>Step [] w6 w'∧z=zo (pv (ls.map (·.1)) k) e.1) (by rfl) ?_ ?_
 ·refine QW (Step [] w6) [(0,true),(1,true),(2,true),(3,true),(4,true),(5,true),(6,true),(7,true),(8,true),(9,true),(10,true),(11,true),(12,true),(13,true),(14,true)] mixed (by rfl) (by kernel_rfl) (Step.drew _ _) ?_;refine p (λ_=>Qo)<|pb (λ_=>Zx O O) (λhi=>?_) (λhi=>?_)
  ·have hj:k≠0:=by have hD:(0:Int)<(k:Int):=hi;omega
   have hE:((k:Int) - 1)=((k - 1:Nat):Int):=by omega
   have hm:k - 1<ls.length:=by omega
   refine p (λ_=>Qo)<|p (λ_=>Qa O)<|pq (λ_ hc=>Qd (H.ext hc) O O)<|p (λ_=>Qa O)<|pq (λ_ hc=>Qd ((hr.ext I).ext hc) O O) <|
    p (λ_=>Qo)<|p (λ_=>Ja O O ⟨by omega,by omega⟩)<|Lg.pig (g:=QX) (i:=k - 1) O Xz (hs.ext I) O (congrArg (Value.int .i64) hE) hm λhO hF=>p (λ_=>Zb O) <|
    pq (λ_ hc=>Qv ((hF.fld 0 _ O).ext hc) O)<|p (λ_=>YK O O)<|p (λ_=>Qj O)<|p (λ_=>Qf)<|pe ?_
   refine ⟨_,Z,Step.drew _ _,?_⟩;have:pv (ls.map (·.1)) k=some (ls[k - 1]'hm).1:=by simp[pv,hj,hm]
   rw[this];rfl
  have hj:k=0:=by have hD:¬(0:Int)<(k:Int):=hi;omega
  refine p (λ_=>Qo)<|ps<|ps<|ps<|ps<|ps<|ps<|ps<|ps<|ps<|ps<|p (λ_=>Qj O)<|p (λ_=>Qf)<|pe ?_;exact ⟨false,Z,Step.drew _ _,by simp[pv,hj,zo]⟩
 rintro z g w7 ⟨hv,rfl⟩;have hw:=hu.trans hv;refine Q2 rfl (λhn=>?_) (λhn=>?_)
 ·rw[if_pos hn] at E;refine Qc<|Qe ?_;exact Qm ⟨[_],Z,by rw[←E,if_pos (by decide)];rfl,G.trans hw⟩
 rw[if_neg (by simp[hn])] at E;have hy:=H.ext hv;refine Q0 (α:=Bool) [(46,54)] (λz=>[(46,.bool z)]) (λz w'=>Step [] w7 w'∧z=decide (e.2=0∨grt e.2=true)) (by rfl) ?_ ?_
 ·refine Qz<|x (Qa O)<|x (Qd hy O O)<|xb (Q5 O O) (λho=>?_) (λho=>?_)
  ·refine Qb<|xs O<|xs O<|xs O<|x (Qj O)<|Qe ?_;exact ⟨_,Z,Step.refl _ _,bT (.inl ho)⟩
  refine Qb<|x (Qa O)<|x (Qd hy O O)<|xl O<|xf<|(yx e.2 _).mono ?_;rintro r9 w9 ⟨rfl,rfl⟩;refine x (Qj O)<|Qe<|⟨grt e.2,Z,Step.refl _ _,?_⟩;cases hg:grt e.2 with
  | true=>exact bT (.inr O)
  | false=>exact bF (λh=>by rcases h with h | h;exact ho h;cases h)
 rintro z g w8 ⟨hG,rfl⟩;have hz:=hw.trans hG;refine Q7 rfl (λhp=>?_) (λhp=>?_)
 ·rw[if_pos hp] at E;refine Qc<|Qe ?_;exact Qm ⟨[_],Z,by rw[←E,if_pos (by decide)];rfl,G.trans hz⟩
 rw[if_neg hp] at E;refine Qi<|Qz<|QN O O<|Qb<|xe ?_;exact ⟨k+1,by omega,Z,T,hz,E⟩
end Go.Proofs.YtdffckgdcegpaaaGreatDoor
namespace Go.Lg
open Go.RowKit
def jl:Fr→LN→LV→Fr
 | f,p::ps,v::vs=>jl (upd f p v) ps vs
 | f,_,_=>f
theorem K3 {n:Nat}{ds:LN}:∀(ps:LN) (vs:LV) (a:Act) (f:Fr),Yn n ds a f→(∀p∈ps,p<n) →
  Yn n ds { tmps:=(ps.zip vs).foldl (λt (x:Nat×Value)=>t.setIfInBounds x.1 x.2) a.tmps,defers:=a.defers } (jl f ps vs)
 | [],_,a,f,h,_=>by cases h;exact ⟨by assumption,by assumption,by assumption⟩
 | p::ps,[],a,f,h,_=>by cases h;exact ⟨by assumption,by assumption,by assumption⟩
 | p::ps,v::vs,a,f,h,hp=>by
  have h2:=h.put (dst:=some p) (λd e=>by cases e;exact hp p Ls) v;exact K3 ps vs _ _ h2 (λq hq=>hp q (Lm _ hq))
def rdE {α:Type}(B:Nat) (L:LN) (I:List α→World→Prop) (X:Exit→List α→World→Prop) (xs:List α) (W:World):Exit→LN→Fr→World→Prop
 | .normal,_,_,W'=>X6 B L W W'∧I xs W'
 | .ret,_,_,W'=>X6 B L W W'∧X .ret xs W'
 | .exit i,_,_,W'=>X6 B L W W'∧X (.exit i) xs W'
 | _,_,_,_=>False
theorem Qe6 {α:Type}{m:Nat}{P:Program}{n:Nat}{Q:Exit→LN→Fr→World→Prop}{ds:LN}{f:Fr}{w:World}{g:Operand}{ps:LN}{assign body:Code}(L:LN) (h1:1≤m)
  {gf:Nat} {fn:Func} [hF:Fu P gf fn] {capt:LV} (hg:ev f g=.func (.func gf) #[] capt.toArray) {encs:α→LV} {S Sp:List α→Prop} {N:Nat} (hp:∀p∈ps,p<n) (hf:∀x,(encs x).length=ps.length)
  (hh:SeqStopsK (fen none) (m - 1) P gf capt.toArray (λx=>(encs x).toArray) (Lw w.heap.size L) S Sp N w)
  (I:List α→World→Prop) (hI:∀s,ZU w.heap.size (I s)) (X:Exit→List α→World→Prop) (hX:∀e s,ZU w.heap.size (X e s)) (h0:I [] w) (A:Fr→α→Fr→World→Prop) (hA:∀x E,ZU w.heap.size (A f x E))
  (Y:∀l pre x W,I pre W→WG (some l) (m - 1 - 1) P n assign (jn (λT E W'=>T=[]∧X6 w.heap.size L W W'∧I pre W'∧A f x E W') (λ_ _ _ _=>False)) [] (jl f ps (encs x)) W)
  (hb:∀l pre x E W,I pre W→A f x E W→pre.length<N→WG (some l) (m - 1 - 1) P n body (rdE w.heap.size L I X (pre++[x]) W) [] E W)
  (hj:∀D xs W,w.heap.size≤D→S xs→I xs W→W.heap[D]?=some (.deferred (some []))→Q .normal (D::ds) f W)
  (hc:∀D e pre W,w.heap.size≤D→Sp pre→X e pre W→W.heap[D]?=some (.deferred (some []))→(e=.ret∨∃i,e=.exit i)→Q e (D::ds) f W) :
  WG none m P n (.rangeFunc g ps.toArray assign body) Q ds f w:=by
 unfold WG at Y hb ⊢;intro a ha;have eg:∀args w,(callFunc gf args).run P w=.ok (.enter gf args) w:=by
  intro args w;have h1:¬fn.name = "runtime.NumGoroutine" := by simpa using hF.nm
  have h2:¬fn.body=none:=by have:=hF.b;intro e;rw[e] at this;cases this
  simp[callFunc,hF.f,h1,h2]
 have keep:∀{W W':World},X6 w.heap.size L W W'→KeepsFrom w.heap.size W W':=λh=>⟨h.lw.size,λk o _ hk ho=>h.other k o hk ho⟩;refine wpIn_rangeFunc_ownH (F:=fen none) O h1 (gf:=gf) (lb:=capt.toArray) (by rw[ha.eval];exact hg) U eg hh (λh k=>h.trans k)
  (λW l o o' hl ho _ _=>⟨O,O,O,by simp,λk hk _=>World.putObj_heap_other (by omega)⟩) (Below.refl _ _) (λx=>by simp[hf x]) I
  (λc pre W=>match c with | .ret=>X .ret pre W | .exit i=>X (.exit i) pre W | _=>False) (ZU.own hI) (λc=>ZU.own λs=>?_) h0
  (λx G W=>∃E,Yn n [] G E∧A f x E W) (λx G=>ZU.own λ_=>ZU.ex λE=>ZU.and (ZU.pure _) (hA x E)) ?_ ?_ ?_ ?_
 ·cases c <;> first | exact hX _ s | exact ZU.pure _
 ·intro l pre x W K hi hK;have hr:Yn n [] { tmps:=(ps.toArray.zip (encs x).toArray).foldl (λt (p,v)=>t.setIfInBounds p v) a.tmps,defers:=[] } (jl f ps (encs x)):=by
   have h2:Yn n [] { a with defers:=[] } f:=⟨ha.size,O,ha.get⟩
   have h3:=K3 ps (encs x) _ _ h2 hp;have e:(ps.toArray.zip (encs x).toArray).foldl (λt (p,v)=>t.setIfInBounds p v) a.tmps=(ps.zip (encs x)).foldl (λt (x:Nat×Value)=>t.setIfInBounds x.1 x.2) a.tmps:=by simp
   rw[e];exact h3
  refine wpIn_mono (Y l pre x W hi _ hr) ?_;rintro e G W' ⟨T,E,h2,_,h3⟩;cases e with
  | normal=>obtain ⟨rfl,V,h5,h6⟩:=h3;exact hK G W' (keep V) V.lw h5 ⟨E,h2,h6⟩
  | exit id=>exact h3.elim
  | goto l=>exact h3.elim
  | ret=>exact h3.elim
  | panic ch=>exact h3.elim
  | outgrown=>exact h3.elim
 ·rintro l pre x G W _ _ hi ⟨E,h2,h3⟩ hm;refine wpIn_mono (hb l pre x E W hi h3 hm G h2) ?_;rintro e hn W' ⟨T,hq,V,_,h5⟩;cases e with
  | normal=>exact ⟨keep h5.1,h5.1.lw,h5.2⟩
  | exit id=>exact ⟨keep h5.1,h5.2⟩
  | goto l=>exact h5.elim
  | ret=>exact ⟨keep h5.1,h5.2⟩
  | panic ch=>exact h5.elim
  | outgrown=>exact h5.elim
 ·intro D xs W H J hi hd;exact ⟨D::ds,f,⟨ha.size,by rw[show coll (D::ds)={ target:=.collected D,args:=#[] }::coll ds from rfl,ha.defers],ha.get⟩,λ_ _=>rfl,hj D xs W H J hi hd⟩
 intro D c pre W H J hx hd;have he:Yn n (D::ds) { a with defers:={ target:=.collected D,args:=#[] }::a.defers } f:=⟨ha.size,by rw[show coll (D::ds)={ target:=.collected D,args:=#[] }::coll ds from rfl,ha.defers],ha.get⟩
 cases c with
 | ret=>exact wpIn_ret ⟨_,f,he,λ_ _=>O,hc D .ret pre W H J hx hd (.inl O)⟩
 | exit i=>exact wpIn_exit ⟨_,f,he,λ_ _=>O,hc D (.exit i) pre W H J hx hd (.inr ⟨i,O⟩)⟩
 | _=>exact hx.elim
end Go.Lg
namespace Go.Proofs.YtdffckgdcegpaaaGreatDoor
open Go.Proofs.Tryz
open Go.Lg
theorem Qed {α:Type}(g:α→LV) (sz:Nat) (E:∀x,(g x).length=sz):∀(l:List α) (k:Nat),(l.flatMap g).take (k*sz)=(l.take k).flatMap g
 | [],k=>by simp
 | e::l,0=>by simp
 | e::l,k+1=>by
  simp only[List.flatMap_cons,List.take_succ_cons,Nat.add_mul,Nat.one_mul];rw[MO,List.take_append,E,show sz+k*sz - sz=k*sz by omega,Qed g sz E l k,Ll (by rw[E];omega)]
theorem QaI {gf:Nat}{fn:Func}[Fu prog gf fn] {capt:LV}{nms:List ByteArray}{s:ByteArray}(hk:K7 s) {w:World}{N:Nat}
  (hl:∀(w':World) (L:LN),Step [] w w'→(∀b∈L,w.heap.size≤b)→SeqStopsK (fen none) 9 prog gf capt.toArray (λx:{ x:ByteArray // x∈nms }=>[Value.string x.1].toArray) (Lw w'.heap.size L) (λys=>ys.map (·.1)=nms) (λ_=>True) N w') :
  QI prog 169 [.string s,.func (.func gf) #[] capt.toArray] w λr w'=>r=.int .i64 (Vi nms s)∧Step [] w w':=by
 refine QI.of_G 10 func169 O ntmps169 results169 (by simp) ?_;refine QT<|QG (by rfl) (by rfl) ?_;refine xl rfl<|QQ (us:=[.string s]) O λb2 w1 hg hq hh=>xl O<|Qt (us:=[.int .i64 0]) O λG w2 hi hs he=>xe ?_;have S:=hg.trans hi;have ht:=hg.size;have hu:=he.lt;have hj:=hh.ext hi;have hv:=hh.lt;refine QT<|QT<|QG (by rfl) (by rfl) ?_
 refine x (Qd hj O O)<|xl O<|xf<|(Vq s hk _).mono ?_;rintro r3 w3 ⟨rfl,rfl⟩;refine x (Zs O)<|xe<|Kh rfl (λh8=>?_) (λh8=>?_)
 ·have Y:J5 s=false:=by simpa using h8
  have T:Vi nms s=7:=by unfold Vi;rw[if_pos Y]
  refine QT<|QG (by rfl) (by rfl) ?_;refine xl O<|QL (j:=0) (u:=.int .i64 7) he O O (by decide) O λw4 I V=>xe ?_;refine JA ⟨λ_ h=>(by cases h),Mw,[.int .i64 7],λW' H=>⟨⟨⟨_,rfl,Yq (At.one ((V.ext H).at (L:=[]) (by simp)))⟩,U⟩,by rw[T];rfl,(S.then1 I (by omega)).trans H⟩⟩
 have Y:¬J5 s=false:=by simpa using h8
 refine Z3<|QT<|QT<|QG (by rfl) (by rfl) ?_;refine Qb<|xe<|ZE<|Qe6 (α:={ x:ByteArray // x∈nms }) (ps:=[10]) [G] (by omega) (capt:=capt) O (encs:=λx=>[.string x.1]) (by simp) (λ_=>rfl)
  (hl w3 [G] S (λb hb=>by simp at hb;omega))
  (λpre W=>Step [G] w3 W∧Q4 W.heap b2 9 [.string s]∧Q4 W.heap G 49 [.int .i64 0]∧∀x∈pre,x.1≠s)
  (λpre=>(ZU.step (Lr _)).and (ZU.blk.and (ZU.blk.and (ZU.pure _))))
  (λe pre W=>e=.ret∧Step [G] w3 W∧Q4 W.heap G 49 [.int .i64 8]∧s∈nms)
  (λe pre=>(ZU.pure _).and ((ZU.step (Lr _)).and (ZU.blk.and (ZU.pure _))))
  ⟨Step.refl _ _,hj,he,λx hx=>by cases hx⟩
  (λf x f' W=>f'=upd (jl f [10] [.string x.1]) 5 (.string x.1)) (λx f'=>ZU.pure _) ?_ ?_ ?_ ?_
 ·rintro l pre x W ⟨h1,h2,h3,J⟩;refine QG (by rfl) (by rfl) ?_;refine Lg.Qe ?_;exact ⟨O,X6.refl _ _ _,⟨h1,h2,h3,J⟩,O⟩
 ·rintro l pre x f' W ⟨h1,h2,h3,J⟩ rfl _;refine ZE<|QT<|QG (by rfl) (by rfl) ?_;refine Lg.Qb<|Lg.x (Qd h2 O O)<|Lg.x (q7 O O)<|xe<|Qg7 O (λhf=>?_) (λhf=>?_)
  ·refine QT<|QG (by rfl) (by rfl) ?_;refine xl O<|QL (j:=0) (u:=.int .i64 8) h3 O O (by decide) O λw4 I V=>xe ?_;refine JA ?_;exact ⟨X6.blk I h1.size h3 (.inl (by simp)),rfl,h1.trans' I,V,by rw[←hf];exact x.2⟩
  refine Z3<|⟨X6.refl _ _ _,h1,h2,h3,λy hy=>?_⟩;rcases Li.1 hy with hy | hy
  ·exact J y hy
  simp only[List.mem_singleton] at hy;subst hy;exact hf
 ·rintro D xs W hD ho ⟨h1,h2,h3,J⟩ ha;have T:Vi nms s=0:=by
   unfold Vi;rw[if_neg Y,if_neg];intro hm;rw[←ho] at hm;obtain ⟨y,hy,e⟩:=Ly.1 hm;exact J y hy e
  refine QT<|QG (by rfl) (by rfl) ?_;refine xl O<|QL (j:=0) (u:=.int .i64 0) h3 O O (by decide) O λw4 I V=>xe ?_;have hc:D≠G:=by omega
  have hp:w4.heap[D]?=some (.deferred (some [])):=by rw[I.block D (Lz.1 ha).1 (by simpa using hc)];exact ha
  refine JA ⟨λE hE=>by simp only[List.mem_singleton] at hE;subst hE;exact hp,by simp,[.int .i64 0],λW' H=>?_⟩;refine ⟨⟨⟨_,O,Yq (At.one ((V.step H (by simpa using hc.symm)).at (L:=[]) (by simp)))⟩,U⟩,by rw[T];rfl,?_⟩;exact ((S.then h1 (λb hb=>.inr (by simp at hb;omega))).then1 I (by omega)).then H (λb hb=>.inr (by simp at hb;have:=S.size;omega))
 rintro D e pre W hD _ ⟨rfl,h1,h3,J⟩ ha _;have T:Vi nms s=8:=by unfold Vi;rw[if_neg Y,if_pos J]
 have hc:D≠G:=by omega
 refine ⟨λE hE=>by simp only[List.mem_singleton] at hE;subst hE;exact ha,by simp,[.int .i64 8],λW' H=>?_⟩;refine ⟨⟨⟨_,O,Yq (At.one ((h3.step H (by simpa using hc.symm)).at (L:=[]) (by simp)))⟩,U⟩,by rw[T];rfl,?_⟩;exact (S.then h1 (λb hb=>.inr (by simp at hb;omega))).then H (λb hb=>.inr (by simp at hb;have:=S.size;omega))
end Go.Proofs.YtdffckgdcegpaaaGreatDoor
namespace Go.Lg
theorem Xj.pre3 {P:Program}{m:Nat}{ops:List Oper}{K:Fr→World→Prop}{o1 o2 o3:Oper}{l2:List Oper}{f:Fr}{w:World}(h:XL P ops (λf w=>Xj P m ops K l2 f w) [o1,o2,o3] f w):Xj P m ops K (o1::o2::o3::l2) f w:=Xj.pre [o1,o2,o3] f w h
end Go.Lg
namespace Go.Proofs.YtdffckgdcegpaaaGreatDoor
open Go.Proofs.Tryz
open Go.Lg
theorem Qeq {L:LN}{w:World}{H I i m:Nat}{vs vx vk:Value}{qs:List XV}{nms:List ByteArray}(hp:Q4 w.heap H 151 [vs,vx,vk]) (hr:Q4 w.heap I 3 [.int .i64 i]) (hX:UM L w.heap vx qs) (hi:i≤qs.length) (hn:nms=(qs.take i).map (·.nm)) :
  SeqStopsK (fen none) m prog 168 [.pointer (some ⟨H,0,none⟩),.pointer (some ⟨I,0,none⟩)].toArray (λx:{ x:ByteArray // x∈nms }=>[Value.string x.1].toArray) (Lw w.heap.size L)
   (λE=>E.map (·.1)=nms) (λ_=>True) (nms.length+1) w:=by
 intro l J Jx W hs hJ ht hY h0;have hc:Step [] w W:=Step.of_below hs;have ab:∀{E:List { x:ByteArray // x∈nms }} {W1 W2:World},J E W1→Step [] W1 W2→J E W2:=λ{E W1 W2} hj S=>hJ E W1 W2 none hj ⟨S.os,S.tape,S.output,S.size,λk hk _=>S.block k hk (by simp)⟩ (λr e=>by cases e);have h9:=hX.arr.le;have hA:nms.length=i:=by rw[hn];simp;omega
 have key:QI prog 168 [.func (.yield l) #[] #[],.pointer (some ⟨H,0,none⟩),.pointer (some ⟨I,0,none⟩)] W (λ_ W'=>(∃E,E.map (·.1)=nms∧J E W')∨(∃pre,True∧Jx pre W')):=by
  refine QI.of_G m func168 O ntmps168 results168 (by simp) ?_;have hu:=hp.ext hc;have hv:=hr.ext hc;refine QT<|QG (by rfl) (by rfl) ?_;refine x (Qa O)<|x (Qd hu O O)<|x (Qd hv O O)<|Qhu hX.arr O O hi λv9 hl=>x (Qs hl O)<|Qb<|xe ?_;have hw:(qs.take i).length=i:=by simp;omega
  have hS:Zq L w.heap v9 (qs.take i).length 2 ((qs.take i).flatMap Zr):=by
   rw[hw,←Qed Zr 2 Xx];exact hl
  refine ZE<|Vr (α:=Nat×List { x:ByteArray // x∈nms }) [(5,5),(11,20)] (λz=>[(11,.int .i64 z.1)]) (λz ds W'=>ds=[]∧z.1≤i∧Step L w W'∧z.2.map (·.1)=nms.take z.1∧J z.2 W') (λz=>i - z.1) (by rfl) (0,[]) Z
   ⟨O,Lj _,hc.any,O,h0⟩ ?_
  rintro ⟨k,E⟩ g ds w1 ⟨rfl,hk,hm,T,hf⟩;simp only[] at hk T hf;refine QT<|QG (by rfl) (by rfl) ?_;refine x (QB O O)<|xe<|QT<|qL O (λhg=>?_) (λhg=>?_)
  ·refine JB ?_;have hB:i≤k:=by have Y:¬(k:Int)<(i:Int):=hg;omega
   rw[Ll (by omega)] at T;exact ⟨λ_ h=>(by cases h),Mw,[],λW' G=>⟨U,.inl ⟨E,T,ab hf G⟩⟩⟩
  refine Z3 ?_;have hy:k<i:=by have Y:(k:Int)<(i:Int):=hg;omega
  have ha:k<(qs.take i).length:=by omega
  have hb:k<nms.length:=by omega
  have hh:nms.take (k+1)=nms.take k++[nms[k]'hb]:=Le hb;have hC:E.length=k:=by have:=congrArg List.length T;rw[Lh,Lx] at this;omega
  have hz:nms[k]'hb=((qs.take i)[k]'ha).nm:=by subst hn;simp
  have V:=Lc hb;rw[hz] at hh V;refine QT<|ZE<|QT<|QG (by rfl) (by rfl) ?_;refine xig Xx (i:=k) (hS.st hm) O O ha λhD Y=>?_;refine Zh ((qs.take i)[k]'ha) λq hq=>?_;rw[hq] at Y hh V;have h2:=(hX.each q (LW (by rw[←hq];exact Lc ha))).one
  refine x (QF Y O O)<|xl O<|Qt (us:=[.string .empty,nS]) O λb5 w2 h3 h4 h5=>xl O<|Qp (us:=Zr q) h5 O O O O ⟨O,h2,U⟩ λw3 h6 h7=>xe ?_;have ho:Step [] w1 w3:=h3.then1 h6 h4;refine QT<|JN (by rfl) ?_;refine Xj.pre3 ?_;refine Qb<|x (Qa O)<|x (Qd h7 O O)<|xe ?_
  refine xy (l:=l) O (hY E ⟨q.nm,V⟩ w3 (ab hf ho) (by omega)) λen W3 h8=>Or.elim h8 (λh1=>⟨.bool true,h1.1,?_⟩) (λh1=>⟨.bool false,h1.1,?_⟩)
  ·refine Xj.of_XL<|x (Zs O)<|xe<|JO O<|Z3 ?_;refine QG (by rfl) (by rfl) ?_;refine QN O O<|Qb<|xe ?_;exact ⟨(k+1,E++[⟨q.nm,V⟩]),by simp only[];omega,Z,O,hy,(hm.trans ho).lw h1.2.2,by rw[hh,Lt,T];rfl,h1.2.1⟩
  refine Xj.of_XL<|x (Zs O)<|xe<|zH O ?_;refine JA ⟨λ_ h=>(by cases h),Mw,[],λW' G=>⟨U,.inr ⟨E++[⟨q.nm,V⟩],U,?_⟩⟩⟩;exact ht _ W3 W' none h1.2 ⟨G.os,G.tape,G.output,G.size,λk hk _=>G.block k hk (by simp)⟩ (λr e=>by cases e)
 refine (callsIn_wide (n:=m)).2 ?_;have ea:(#[.func (.yield l) #[] #[]]++[.pointer (some ⟨H,0,none⟩),.pointer (some ⟨I,0,none⟩)].toArray:Array Value)=[.func (.yield l) #[] #[],.pointer (some ⟨H,0,none⟩),.pointer (some ⟨I,0,none⟩)].toArray:=by simp
 rw[ea];unfold QI at key;refine Calls.mono key λe w' he=>?_;cases e with
 | returned v=>exact ⟨⟨v,O⟩,he⟩
 | panicked c=>exact he.elim
 | outgrown=>exact he.elim
theorem QeC {L:LN}{w:World}{H I i m:Nat}{vs vx vk:Value}{qs:List KV}{nms:List ByteArray}(hp:Q4 w.heap H 151 [vs,vx,vk]) (hr:Q4 w.heap I 3 [.int .i64 i]) (hX:UY L w.heap vk qs) (hi:i≤qs.length) (hn:nms=(qs.take i).map (·.nm)) :
  SeqStopsK (fen none) m prog 171 [.pointer (some ⟨H,0,none⟩),.pointer (some ⟨I,0,none⟩)].toArray (λx:{ x:ByteArray // x∈nms }=>[Value.string x.1].toArray) (Lw w.heap.size L)
   (λE=>E.map (·.1)=nms) (λ_=>True) (nms.length+1) w:=by
 intro l J Jx W hs hJ ht hY h0;have hc:Step [] w W:=Step.of_below hs;have ab:∀{E:List { x:ByteArray // x∈nms }} {W1 W2:World},J E W1→Step [] W1 W2→J E W2:=λ{E W1 W2} hj S=>hJ E W1 W2 none hj ⟨S.os,S.tape,S.output,S.size,λk hk _=>S.block k hk (by simp)⟩ (λr e=>by cases e);have h9:=hX.arr.le;have hA:nms.length=i:=by rw[hn];simp;omega
 have key:QI prog 171 [.func (.yield l) #[] #[],.pointer (some ⟨H,0,none⟩),.pointer (some ⟨I,0,none⟩)] W (λ_ W'=>(∃E,E.map (·.1)=nms∧J E W')∨(∃pre,True∧Jx pre W')):=by
  refine QI.of_G m func171 O ntmps171 results171 (by simp) ?_;have hu:=hp.ext hc;have hv:=hr.ext hc;refine QT<|QG (by rfl) (by rfl) ?_;refine x (Qa O)<|x (Qd hu O O)<|x (Qd hv O O)<|Qhu hX.arr O O hi λv9 hl=>x (Qs hl O)<|Qb<|xe ?_;have hw:(qs.take i).length=i:=by simp;omega
  have hS:Zq L w.heap v9 (qs.take i).length 3 ((qs.take i).flatMap Zm):=by
   rw[hw,←Qed Zm 3 Y6];exact hl
  refine ZE<|Vr (α:=Nat×List { x:ByteArray // x∈nms }) [(5,5),(11,20)] (λz=>[(11,.int .i64 z.1)]) (λz ds W'=>ds=[]∧z.1≤i∧Step L w W'∧z.2.map (·.1)=nms.take z.1∧J z.2 W') (λz=>i - z.1) (by rfl) (0,[]) Z
   ⟨O,Lj _,hc.any,O,h0⟩ ?_
  rintro ⟨k,E⟩ g ds w1 ⟨rfl,hk,hm,T,hf⟩;simp only[] at hk T hf;refine QT<|QG (by rfl) (by rfl) ?_;refine x (QB O O)<|xe<|QT<|qL O (λhg=>?_) (λhg=>?_)
  ·refine JB ?_;have hB:i≤k:=by have Y:¬(k:Int)<(i:Int):=hg;omega
   rw[Ll (by omega)] at T;exact ⟨λ_ h=>(by cases h),Mw,[],λW' G=>⟨U,.inl ⟨E,T,ab hf G⟩⟩⟩
  refine Z3 ?_;have hy:k<i:=by have Y:(k:Int)<(i:Int):=hg;omega
  have ha:k<(qs.take i).length:=by omega
  have hb:k<nms.length:=by omega
  have hh:nms.take (k+1)=nms.take k++[nms[k]'hb]:=Le hb;have hC:E.length=k:=by have:=congrArg List.length T;rw[Lh,Lx] at this;omega
  have hz:nms[k]'hb=((qs.take i)[k]'ha).nm:=by subst hn;simp
  have V:=Lc hb;rw[hz] at hh V;refine QT<|ZE<|QT<|QG (by rfl) (by rfl) ?_;refine xig Y6 (i:=k) (hS.st hm) O O ha λhD Y=>?_;refine Zh ((qs.take i)[k]'ha) λq hq=>?_;rw[hq] at Y hh V;have h2:=(hX.each q (LW (by rw[←hq];exact Lc ha))).one
  refine x (QF Y O O)<|xl O<|Qt (us:=[.string .empty,nS,.int .i64 0]) O λb5 w2 h3 h4 h5=>xl O<|Qp (us:=Zm q) h5 O O O O ⟨O,h2,O,U⟩ λw3 h6 h7=>xe ?_;have ho:Step [] w1 w3:=h3.then1 h6 h4;refine QT<|JN (by rfl) ?_;refine Xj.pre3 ?_;refine Qb<|x (Qa O)<|x (Qd h7 O O)<|xe ?_
  refine xy (l:=l) O (hY E ⟨q.nm,V⟩ w3 (ab hf ho) (by omega)) λen W3 h8=>Or.elim h8 (λh1=>⟨.bool true,h1.1,?_⟩) (λh1=>⟨.bool false,h1.1,?_⟩)
  ·refine Xj.of_XL<|x (Zs O)<|xe<|JO O<|Z3 ?_;refine QG (by rfl) (by rfl) ?_;refine QN O O<|Qb<|xe ?_;exact ⟨(k+1,E++[⟨q.nm,V⟩]),by simp only[];omega,Z,O,hy,(hm.trans ho).lw h1.2.2,by rw[hh,Lt,T];rfl,h1.2.1⟩
  refine Xj.of_XL<|x (Zs O)<|xe<|zH O ?_;refine JA ⟨λ_ h=>(by cases h),Mw,[],λW' G=>⟨U,.inr ⟨E++[⟨q.nm,V⟩],U,?_⟩⟩⟩;exact ht _ W3 W' none h1.2 ⟨G.os,G.tape,G.output,G.size,λk hk _=>G.block k hk (by simp)⟩ (λr e=>by cases e)
 refine (callsIn_wide (n:=m)).2 ?_;have ea:(#[.func (.yield l) #[] #[]]++[.pointer (some ⟨H,0,none⟩),.pointer (some ⟨I,0,none⟩)].toArray:Array Value)=[.func (.yield l) #[] #[],.pointer (some ⟨H,0,none⟩),.pointer (some ⟨I,0,none⟩)].toArray:=by simp
 rw[ea];unfold QI at key;refine Calls.mono key λe w' he=>?_;cases e with
 | returned v=>exact ⟨⟨v,O⟩,he⟩
 | panicked c=>exact he.elim
 | outgrown=>exact he.elim
set_option maxHeartbeats 4000000 in
theorem Un {w:World}{vs vx vk:Value}{sz:LI}{qx:List XV}{ks:List KV}(hS:QK [] w.heap vs sz) (hX:UM [] w.heap vx qx) (hK:UY [] w.heap vk ks) :
  QI prog 97 [.agg #[vs,vx,vk]] w λr w'=>r=.int .i64 (Yt sz (qx.map (·.x)) (ks.map (·.k)))∧Step [] w w':=by
 have hY:=hS.le;have hZ:=hX.arr.le;have ga:=hK.arr.le;refine QI.of_W func97 O ntmps97 results97 (by simp) ?_;refine Qc<|xl O<|QQ (us:=[vs,vx,vk]) O λb1 w1 G gb V=>Qe<|Qg<|Qc<|x (Qa O)<|x (Qd V O O)<|x (Qs (hS.ext G) O)<|x (Zx O O)<|xe<|Q7 rfl (λh1=>?_) (λh1=>?_)
 ·refine Qc<|Qe ?_;exact Qm ⟨[_],Z,by unfold Yt;rw[if_pos (by have hP:(8:Int)<(sz.length:Int):=h1;omega)];rfl,G⟩
 have hz:¬8<sz.length:=by have hP:¬(8:Int)<(sz.length:Int):=h1;omega
 refine Qi<|Qg<|Qc<|x (Qa O)<|x (Qd V O O)<|x (Qs (hS.ext G) O)<|Qb<|xe<|Qh<|QA (α:=Nat) [(2,2),(4,4),(22,32)] (λz=>[(22,.int .i64 z)]) (λz w'=>z≤sz.length∧w'=w1∧(sz.drop z).any JT=sz.any JT) (λz=>sz.length - z) (by rfl) 0 Z
  ⟨Lj _,O,O⟩ ?_
 rintro k g w2 ⟨hk,rfl,hc⟩;refine Qc<|x (QB O O)<|xe<|Qg<|QH O (λh2=>?_) (λh2=>?_)
 ·refine Qy ?_;have hl:sz.length≤k:=by have h0:¬(k:Int)<(sz.length:Int):=h2;omega
  rw[Lp hl] at hc;have h3:¬sz.any JT=true:=by rw[←hc];decide
  refine Qg<|Q0 (α:=Bool) [(33,42)] (λz=>[(42,.bool z)]) (λz w'=>w'=w2∧z=decide (32<qx.length∨32<ks.length)) (by rfl) ?_ ?_
  ·refine Qz<|x (Qa O)<|x (Qd V O O)<|x (Qs (hX.ext G).arr O)<|xb (Zx O O) (λhQ=>?_) (λhQ=>?_)
   ·refine Qb<|xs O<|xs O<|xs O<|xs O<|x (Qj O)<|xe ?_;exact ⟨_,Z,O,by first | exact bT (by omega) | exact bF (by omega) | exact bD (by omega)⟩
   refine Qb<|x (Qa O)<|x (Qd V O O)<|x (Qs (hK.ext G).arr O)<|x (Zx O O)<|x (Qj O)<|xe ?_;exact ⟨_,Z,O,by first | exact bT (by omega) | exact bF (by omega) | exact bD (by omega)⟩
  rintro z g Y ⟨rfl,rfl⟩;refine Q7 O (λh4=>?_) (λh4=>?_)
  ·refine Qc<|Qe ?_;exact Qm ⟨[_],Z,by unfold Yt;rw[if_neg hz,if_neg h3,if_pos (by simpa using h4)];rfl,G⟩
  have hM:¬(32<(qx.map (·.x)).length∨32<(ks.map (·.k)).length):=by simpa using h4
  have hN:Yh sz [] (qx.map (·.x))≠0→Yt sz (qx.map (·.x)) (ks.map (·.k))=Yh sz [] (qx.map (·.x)):=λh=>by
   unfold Yt;rw[if_neg hz,if_neg h3,if_neg hM,if_pos h]
  have hR:Yh sz [] (qx.map (·.x))=0→Yt sz (qx.map (·.x)) (ks.map (·.k))=YB sz [] (ks.map (·.k)):=λh=>by
   unfold Yt;rw[if_neg hz,if_neg h3,if_neg hM,if_neg (by rw[h];exact λh=>h O)]
  refine Qi<|Qg<|Qc<|x (Qa O)<|x (Qd (V.ext (Step.refl [] Y)) O O)<|x (Qs ((hX.ext G).ext (Step.refl [] Y)).arr O)<|Qb<|xe<|Qh<|QA (α:=Nat) [(2,2),(5,9),(46,65)] (λz=>[(46,.int .i64 z)]) (λz w'=>z≤qx.length∧Step [] Y w'∧Yh sz ((qx.take z).map (·.nm)) ((qx.drop z).map (·.x))=Yh sz [] (qx.map (·.x))) (λz=>qx.length - z) (by rfl) 0 Z
   ⟨Lj _,(Step.refl [] Y),O⟩ ?_
  rintro k g wA ⟨hk,H,I⟩;refine Qc<|x (QB O O)<|xe<|Qg<|QH O (λhe=>?_) (λhe=>?_)
  ·refine Qy ?_;have hl:qx.length≤k:=by have h5:¬(k:Int)<(qx.length:Int):=he;omega
   rw[Lp hl] at I;have hT:Yh sz [] (qx.map (·.x))=0:=I.symm;have h6:=hR hT;refine Qg<|Qc<|x (Qa O)<|x (Qd (V.ext H) O O)<|x (Qs ((hK.ext G).ext H).arr O)<|Qb<|xe ?_
   refine Qh<|QA (α:=Nat) [(2,2),(10,14),(69,88)] (λz=>[(69,.int .i64 z)]) (λz w'=>z≤ks.length∧Step [] Y w'∧YB sz ((ks.take z).map (·.nm)) ((ks.drop z).map (·.k))=YB sz [] (ks.map (·.k))) (λz=>ks.length - z) (by rfl) 0 Z
    ⟨Lj _,H,O⟩ ?_
   rintro k g wA ⟨hk,H,I⟩;refine Qc<|x (QB O O)<|xe<|Qg<|QH O (λhe=>?_) (λhe=>?_)
   ·refine Qy ?_;have hl:ks.length≤k:=by have h5:¬(k:Int)<(ks.length:Int):=he;omega
    rw[Lp hl] at I;have hU:YB sz [] (ks.map (·.k))=0:=I.symm;refine Qc<|Qe ?_;exact Qm ⟨[_],Z,by rw[h6,hU];rfl,G.trans H⟩
   have E:k<ks.length:=by have h5:(k:Int)<(ks.length:Int):=he;omega
   have hm:(ks.take (k+1)).map (·.nm)=(ks.take k).map (·.nm)++[(ks[k]'E).nm]:=by rw[Le E,Lt];rfl
   rw[QZ E,LP] at I;have hf:=Lc E;have J:=(hK.ext G).ext H;have h7:=V.ext H;refine Qi<|Qg<|Qh<|Qc<|Qb<|xig Y6 J.arr O O E λaA hA=>?_;refine Zh (ks[k]'E) λq hq=>?_;rw[hq] at hA I hm hf;have ho:=J.each q hf
   refine x (QF hA O O)<|xl O<|Qt (us:=[.int .i64 0]) O λb5 Y hp h8 hg=>xl O<|Qt (us:=[.string .empty,nS,.int .i64 0]) O λb6 w4 hr hV h9 =>
    xl rfl<|QL (j:=0) (u:=.int .i64 k) (hg.ext hr) O O (by decide) O λw5 hs hB=>xl O<|Qp (us:=Zm q) (h9.step hs (by have:=hg.lt;simp;omega)) O O O O ⟨O,ho.one,O,U⟩ λw6 ht hu=>xe ?_
   have hW:b5<b6:=by have:=hg.lt;omega
   have hh:Step [] wA w6:=((hp.trans hr).then1 hs h8).then1 ht (by have:=hp.size;omega);have hC:Q4 w6.heap b5 3 [.int .i64 k]:=hB.step ht (by simp;omega);have hv:=h7.ext hh;have hD:=J.ext hh
   refine Qc<|x Zp<|Qe<|Qg<|Qc<|x (Qa O)<|x (Qd hu O O)<|Qb<|xl O<|xf<|(QaI (nms:=(ks.take k).map (·.nm)) (capt:=[.pointer (some ⟨b1,0,none⟩),.pointer (some ⟨b5,0,none⟩)]) (J.nm q hf) (λw' L hi hL=>QeC (hv.ext hi) (hC.ext hi) ((hD.up (λb hb=>.inr (hL b hb))).ext hi) hk O)).mono ?_;rintro r7 w7 ⟨rfl,hj⟩;refine Qe ?_;have S:=hh.trans hj;refine Qc<|Qb<|x (Q9 O O)<|xe ?_
   refine Q7 O (λha=>?_) (λha=>?_)
   ·have e1:YB sz [] (ks.map (·.k))=Vi ((ks.take k).map (·.nm)) q.nm:=by rw[←I];exact if_pos ha
    refine Qc<|Qb<|Qe ?_;exact Qm ⟨[_],Z,by rw[h6,e1];rfl,G.trans (H.trans S)⟩
   have hw:(if Je sz q.k≠0 then Je sz q.k else YB sz ((ks.take k).map (·.nm)++[q.nm]) ((ks.drop (k+1)).map (·.k)))=YB sz [] (ks.map (·.k)):=by rw[←I];exact (if_neg ha).symm
   refine Qi ?_;have hE:=hv.ext hj;have hF:=hu.ext hj;refine Qc<|x (Qr hE O O)<|x (Qr hF O O)<|xl O<|xf<|(J9 (((hS.ext G).ext H).ext S) (ho.ext S)).mono ?_;rintro r8 w8 ⟨rfl,hG⟩;refine Qe ?_;have hy:=S.trans hG;refine Qc<|Qb<|x (Q9 O O)<|xe<|Q7 O (λT=>?_) (λT=>?_)
   ·have e1:YB sz [] (ks.map (·.k))=Je sz q.k:=by rw[←hw];exact if_pos T
    have hO:Je sz q.k≠0:=T;refine Qc<|Qb<|Qe ?_;exact Qm ⟨[_],Z,by rw[h6,e1];rfl,G.trans (H.trans hy)⟩
   have hH:YB sz ((ks.take k).map (·.nm)++[q.nm]) ((ks.drop (k+1)).map (·.k))=YB sz [] (ks.map (·.k)):=by rw[←hw];exact (if_neg T).symm
   refine Qi<|Qz<|QN O O<|Qb<|xe ?_;exact ⟨k+1,by omega,Z,E,H.trans hy,by rw[hm];exact hH⟩
  have E:k<qx.length:=by have h5:(k:Int)<(qx.length:Int):=he;omega
  have hm:(qx.take (k+1)).map (·.nm)=(qx.take k).map (·.nm)++[(qx[k]'E).nm]:=by rw[Le E,Lt];rfl
  rw[QZ E,LP] at I;have hf:=Lc E;have J:=(hX.ext G).ext H;have h7:=V.ext H;refine Qi<|Qg<|Qh<|Qc<|Qb<|xig Xx J.arr O O E λaA hA=>?_;refine Zh (qx[k]'E) λq hq=>?_;rw[hq] at hA I hm hf;have ho:=J.each q hf;refine x (QF hA O O)<|xl O<|Qt (us:=[.int .i64 0]) O λb5 Y hp h8 hg=>xl O<|Qt (us:=[.string .empty,nS]) O λb6 w4 hr hV h9 =>
   xl rfl<|QL (j:=0) (u:=.int .i64 k) (hg.ext hr) O O (by decide) O λw5 hs hB=>xl O<|Qp (us:=Zr q) (h9.step hs (by have:=hg.lt;simp;omega)) O O O O ⟨O,ho.one,U⟩ λw6 ht hu=>xe ?_
  have hW:b5<b6:=by have:=hg.lt;omega
  have hh:Step [] wA w6:=((hp.trans hr).then1 hs h8).then1 ht (by have:=hp.size;omega);have hC:Q4 w6.heap b5 3 [.int .i64 k]:=hB.step ht (by simp;omega);have hv:=h7.ext hh;have hD:=J.ext hh
  refine Qc<|x Zp<|Qe<|Qg<|Qc<|x (Qa O)<|x (Qd hu O O)<|Qb<|xl O<|xf<|(QaI (nms:=(qx.take k).map (·.nm)) (capt:=[.pointer (some ⟨b1,0,none⟩),.pointer (some ⟨b5,0,none⟩)]) (J.nm q hf) (λw' L hi hL=>Qeq (hv.ext hi) (hC.ext hi) ((hD.up (λb hb=>.inr (hL b hb))).ext hi) hk O)).mono ?_;rintro r7 w7 ⟨rfl,hj⟩;refine Qe ?_;have S:=hh.trans hj;refine Qc<|Qb<|x (Q9 O O)<|xe ?_
  refine Q7 O (λha=>?_) (λha=>?_)
  ·have e1:Yh sz [] (qx.map (·.x))=Vi ((qx.take k).map (·.nm)) q.nm:=by rw[←I];exact if_pos ha
   refine Qc<|Qb<|Qe ?_;exact Qm ⟨[_],Z,by rw[hN (by rw[e1];exact ha),e1];rfl,G.trans (H.trans S)⟩
  have hw:(if Jd sz q.ls≠0 then Jd sz q.ls else Yh sz ((qx.take k).map (·.nm)++[q.nm]) ((qx.drop (k+1)).map (·.x)))=Yh sz [] (qx.map (·.x)):=by rw[←I];exact (if_neg ha).symm
  refine Qi ?_;have hE:=hv.ext hj;have hF:=hu.ext hj;refine Qc<|x (Qr hE O O)<|x (Qr hF O O)<|xl O<|xf<|(KR (((hS.ext G).ext H).ext S) (ho.ext S)).mono ?_;rintro r8 w8 ⟨rfl,hG⟩;refine Qe ?_;have hy:=S.trans hG;refine Qc<|Qb<|x (Q9 O O)<|xe<|Q7 O (λT=>?_) (λT=>?_)
  ·have e1:Yh sz [] (qx.map (·.x))=Jd sz q.ls:=by rw[←hw];exact if_pos T
   have hO:Jd sz q.ls≠0:=T;refine Qc<|Qb<|Qe ?_;exact Qm ⟨[_],Z,by rw[hN (by rw[e1];exact hO),e1];rfl,G.trans (H.trans hy)⟩
  have hH:Yh sz ((qx.take k).map (·.nm)++[q.nm]) ((qx.drop (k+1)).map (·.x))=Yh sz [] (qx.map (·.x)):=by rw[←hw];exact (if_neg T).symm
  refine Qi<|Qz<|QN O O<|Qb<|xe ?_;exact ⟨k+1,by omega,Z,E,H.trans hy,by rw[hm];exact hH⟩
 have E:k<sz.length:=by have h0:(k:Int)<(sz.length:Int):=h2;omega
 rw[QZ E,List.any_cons] at hc;refine Qi<|Qg<|Qh<|Qc<|xii (hS.ext G) O O E λgc h0=>?_;refine Zh (sz[k]'E) λn hn=>?_;rw[hn] at h0 hc;refine x (Qv h0 O)<|Qe<|Q0 (α:=Bool) [(26,31)] (λz=>[(31,.bool z)]) (λz w'=>w'=w2∧z=JT n) (by rfl) ?_ ?_
 ·refine Qz<|Qb<|xb (QB O O) (λhI=>?_) (λhI=>?_)
  ·refine Qb<|xs O<|xs O<|x (Qj O)<|xe ?_;exact ⟨_,Z,O,by unfold JT;rw[decide_eq_true hI];rfl⟩
  refine Qb<|Qb<|x (Zx O O)<|x (Qj O)<|xe ?_;exact ⟨_,Z,O,by unfold JT;rw[decide_eq_false hI];rfl⟩
 rintro z g Y ⟨rfl,rfl⟩;refine Q2 rfl (λhJ=>?_) (λhJ=>?_)
 ·refine Qc<|Qe ?_;exact Qm ⟨[_],Z,by unfold Yt;rw[if_neg hz,if_pos (by rw[←hc,hJ];rfl)];rfl,G⟩
 rw[hJ,Bool.false_or] at hc;refine Qi<|Qz<|QN O O<|Qb<|xe ?_;exact ⟨k+1,by omega,Z,E,O,hc⟩
theorem ZY {α:Type}(q:α→Bool) (i:Nat) (a:α) (l:List α):fix q i (a::l)=if q a=true then (i:Int) else fix q (i+1) l:=rfl
theorem jT {α:Type}(q:α→Bool):∀(l:List α) (i:Nat),fix q i l=-1∨((i:Int)≤fix q i l∧fix q i l<(i:Int)+l.length)
 | [],i=>.inl O
 | a::l,i=>by
  rw[ZY];split
  ·right;simp only[List.length_cons];omega
  rcases jT q l (i+1) with h | h
  ·exact .inl h
  right;simp only[List.length_cons];omega
theorem zz {α:Type}(q:α→Bool):∀(l:List α) (i:Nat),decide (0≤fix q i l)=l.any q
 | [],i=>rfl
 | a::l,i=>by
  rw[ZY,List.any_cons];cases h:q a with
  | true=>rw[if_pos rfl];simp
  | false=>rw[if_neg (by decide),zz q l (i+1)];rfl
theorem Uk {α:Type}(q:α→Bool) (m:List α):∀(l:List α) (i:Nat),fix q i (l++m)=if 0≤fix q i l then fix q i l else fix q (i+l.length) m
 | [],i=>by
  show fix q i m=if (0:Int)≤-1 then (-1) else fix q i m
  rw[if_neg (by decide)]
 | a::l,i=>by
  rw[L0,ZY,ZY];by_cases h:q a=true
  ·rw[if_pos h,if_pos h,if_pos (by omega)]
  rw[if_neg h,if_neg h,Uk q m l (i+1),LQ];rw[show i+1+l.length=i+(l.length+1) by omega]
theorem qv {α:Type}(q:α→Bool) (d:Nat):∀(l:List α) (i:Nat),fix q (i+d) l=if 0≤fix q i l then fix q i l+d else -1
 | [],i=>rfl
 | a::l,i=>by
  rw[ZY,ZY];by_cases h:q a=true
  ·rw[if_pos h,if_pos h,if_pos (by omega)];omega
  rw[if_neg h,if_neg h,show i+d+1=(i+1)+d by omega,qv q d l (i+1)]
theorem JJ {α β:Type}(q:β→Bool) (g:α→β):∀(l:List α) (i:Nat),fix q i (l.map g)=fix (λa=>q (g a)) i l
 | [],i=>rfl
 | a::l,i=>by rw[LP,ZY,ZY,JJ q g l (i+1)]
theorem Qb7 {α:Type}{q q':α→Bool}:∀{l:List α}{i:Nat},(∀a∈l,q a=q' a)→fix q i l=fix q' i l
 | [],i,_=>rfl
 | a::l,i,h=>by rw[ZY,ZY,h a Ls,Qb7 (λb hb=>h b (Lm _ hb))]
theorem Qh6 {gp:Nat}{fn:Func}[Fu prog gp fn] {cap:LV}{q:(Int×Int)→Bool}{L:LN}{w:World}{v:Value}{l:List (Int×Int)}(h:Zq L w.heap v l.length 2 (l.flatMap QX))
  (hk:∀e∈l,∀(G:World),Step [] w G→QI prog gp ([.agg (QX e).toArray]++cap) G λr w'=>r=.bool (q e)∧Step [] G w') :
  QI prog 287 [v,.func (.func gp) #[] cap.toArray] w λr w'=>r=.int .i64 (fix q 0 l)∧Step [] w w':=by
 have hb:=h.le;refine QI.of_W func287 O ntmps287 results287 (by simp) ?_;refine Qc<|Qe<|Qg<|Qc<|Qb<|x (Qs h O)<|Qb<|xe<|Qh<|QA (α:=Nat) [(4,5),(8,18)] (λz=>[(8,.int .i64 z)]) (λz w'=>z≤l.length∧Step [] w w'∧fix q z (l.drop z)=fix q 0 l) (λz=>l.length - z) (by rfl) 0 Z
  ⟨Lj _,Step.refl _ _,O⟩ ?_
 rintro k g G ⟨hc,H,E⟩;refine Qc<|x (QB O O)<|xe<|Qg<|QH O (λh9=>?_) (λh9=>?_)
 ·refine Qy ?_;have Y:l.length≤k:=by have ha:¬(k:Int)<(l.length:Int):=h9;omega
  rw[Lp Y] at E;refine Qc<|Qe ?_;exact Qm ⟨[_],Z,by rw[←E];rfl,H⟩
 have I:k<l.length:=by have ha:(k:Int)<(l.length:Int):=h9;omega
 rw[QZ I,ZY] at E;have S:=Lc I;refine Qi<|Qg<|Qh<|Qc<|Qb<|Qe<|Qc<|Qb<|Qb<|Qb<|xig Xz (h.ext H) O O I λhf T=>?_;refine Zh (l[k]'I) λe he=>?_;rw[he] at T E S;refine x (QF T O O)<|xl O<|xc (first:=[]) (capt:=cap) O<|(hk e S G H).mono ?_;rintro r2 w2 ⟨rfl,V⟩;refine xe<|Q2 rfl (λJ=>?_) (λJ=>?_)
 ·rw[if_pos J] at E;refine Qc<|Qb<|Qe ?_;exact Qm ⟨[_],Z,by rw[←E];rfl,H.trans V⟩
 rw[if_neg (by rw[J];decide)] at E;refine Qi<|Qz<|QN O O<|Qb<|xe ?_;exact ⟨k+1,by omega,Z,I,H.trans V,E⟩
theorem Qiy {gp:Nat}{fn:Func}[Fu prog gp fn] {cap:LV}{q:(Int×Int)→Bool}{L:LN}{w:World}{v:Value}{l:List (Int×Int)}(h:Zq L w.heap v l.length 2 (l.flatMap QX))
  (hk:∀e∈l,∀(E:World),Step [] w E→QI prog gp ([.agg (QX e).toArray]++cap) E λr w'=>r=.bool (q e)∧Step [] E w') :
  QI prog 260 [v,.func (.func gp) #[] cap.toArray] w λr w'=>r=.bool (l.any q)∧Step [] w w':=by
 refine QI.of_W func260 O ntmps260 results260 (by simp) ?_;refine Qc<|Qe<|Qc<|Qb<|Qb<|xl O<|xf<|(Qh6 h hk).mono ?_;rintro H E ⟨rfl,G⟩;refine x (ZX O O)<|Qe ?_;exact Qm ⟨[_],Z,congrArg Value.bool (zz q l 0),G⟩
theorem Ut (sz:LI):∀(ls:List (Int×Int)) (pr:Option Int),KQ sz pr ls=0→(∀p∈ls,0≤p.1∧p.1<(sz.length:Int))∧YX (ls.map (·.1))∧∀y,pr=some y→∀p∈ls,y<p.1
 | [],pr,_=>⟨λp hp=>(by cases hp),List.Pairwise.nil,λy _ p hp=>(by cases hp)⟩
 | l::ls,pr,h=>by
  unfold KQ at h;split at h
  ·cases h
  rename_i h1;split at h
  ·cases h
  rename_i h2;split at h
  ·cases h
  obtain ⟨G,h5,H⟩:=Ut sz ls (some l.1) h;have E:=H l.1 O;refine ⟨λp hp=>?_,LF.2 ⟨λx hx=>?_,h5⟩,λy hy p hp=>?_⟩
  ·rcases Lb.1 hp with rfl | hp
   ·omega
   exact G p hp
  ·obtain ⟨p,hp,rfl⟩:=Ly.1 hx;exact E p hp
  subst hy;have I:¬l.1≤y:=λe=>h2 (decide_eq_true e);rcases Lb.1 hp with rfl | hp
  ·omega
  have:=E p hp;omega
theorem Ur (sz:LI):∀(ls:List (Int×Int)) (pr:Option Int),Jc sz pr ls=0→(∀p∈ls,0≤p.1∧p.1<(sz.length:Int)∧-65536≤p.2∧p.2≤65536)∧YX (ls.map (·.1))∧∀y,pr=some y→∀p∈ls,y<p.1
 | [],pr,_=>⟨λp hp=>(by cases hp),List.Pairwise.nil,λy _ p hp=>(by cases hp)⟩
 | l::ls,pr,h=>by
  unfold Jc at h;split at h
  ·cases h
  rename_i h1;split at h
  ·cases h
  rename_i h2;split at h
  ·cases h
  rename_i h3;obtain ⟨G,h5,H⟩:=Ur sz ls (some l.1) h;have E:=H l.1 O;have h9:grt l.2=false:=by cases I:grt l.2 with | true=>exact absurd (.inr I) h3 | false=>rfl
  unfold grt at h9;simp only[Bool.or_eq_false_iff,decide_eq_false_iff_not] at h9;refine ⟨λp hp=>?_,LF.2 ⟨λx hx=>?_,h5⟩,λy hy p hp=>?_⟩
  ·rcases Lb.1 hp with rfl | hp
   ·omega
   exact G p hp
  ·obtain ⟨p,hp,rfl⟩:=Ly.1 hx;exact E p hp
  subst hy;have J:¬l.1≤y:=λe=>h2 (decide_eq_true e);rcases Lb.1 hp with rfl | hp
  ·omega
  have:=E p hp;omega
theorem Vx (sz:LI):∀(l:List ji) (sn:List ByteArray),Yh sz sn l=0→∀x∈l,Jd sz x.ls=0
 | [],_,_,x,hx=>by cases hx
 | a::l,sn,h,x,hx=>by
  unfold Yh at h;split at h
  ·rename_i h1;exact absurd h h1
  split at h
  ·rename_i h1;exact absurd h h1
  rename_i h1;rcases Lb.1 hx with rfl | hx
  ·exact Lq.1 h1
  exact Vx sz l _ h x hx
theorem Vy (sz:LI):∀(l:List Xf) (sn:List ByteArray),YB sz sn l=0→∀x∈l,Je sz x=0
 | [],_,_,x,hx=>by cases hx
 | a::l,sn,h,x,hx=>by
  unfold YB at h;split at h
  ·rename_i h1;exact absurd h h1
  split at h
  ·rename_i h1;exact absurd h h1
  rename_i h1;rcases Lb.1 hx with rfl | hx
  ·exact Lq.1 h1
  exact Vy sz l _ h x hx
structure Qks (sz:LI) (ex:List ji) (cs:List Xf):Prop where
 s8:sz.length≤8
 s:∀n∈sz,1≤n∧n≤4096
 xl:ex.length≤32
 kl:cs.length≤32
 x:∀e∈ex,∀p∈e.ls,0≤p.1∧p.1<(sz.length:Int)
 k:∀e∈cs,(∀p∈e.ts,0≤p.1∧p.1<(sz.length:Int)∧-65536≤p.2∧p.2≤65536)∧e.ts.length≤8
theorem Vz {sz:LI}{ex:List ji}{cs:List Xf}(h:Yt sz ex cs=0):Qks sz ex cs:=by
 unfold Yt at h;split at h
 ·cases h
 rename_i I;split at h
 ·cases h
 rename_i hs;split at h
 ·cases h
 rename_i J;split at h
 ·rename_i hx;exact absurd h hx
 rename_i hx;have E:=Lq.1 hx;refine ⟨by omega,λn G=>?_,by omega,by omega,λe he p hp=>?_,λe he=>?_⟩
 ·have h1:JT n=false:=by
   cases hb:JT n with
   | false=>rfl
   | true=>exact absurd (MW.2 ⟨n,G,hb⟩) hs
  unfold JT at h1;simp only[Bool.or_eq_false_iff,decide_eq_false_iff_not] at h1;omega
 ·have h1:=Vx sz ex [] E e he;unfold Jd at h1;split at h1
  ·cases h1
  exact (Ut sz e.ls none h1).1 p hp
 have h1:=Vy sz cs [] h e he;unfold Je at h1;split at h1
 ·cases h1
 split at h1
 ·rename_i h2;exact absurd h1 h2
 rename_i h2;obtain ⟨h3,H,_⟩:=Ur sz e.ts none (Lq.1 h2);refine ⟨h3,?_⟩;have:=Go.Proofs.YtdffckgdcegpaaaGreatDoor.pig sz.length (e.ts.map (·.1)) (List.Pairwise.imp (λ{a b} (h:a<b)=>(by omega:a≠b)) H) (λx hx=>by
  obtain ⟨p,hp,rfl⟩:=Ly.1 hx;exact ⟨(h3 p hp).1,(h3 p hp).2.1⟩)
 rw[Lh] at this;omega
def Qg4 (sz t:LI):Prop:=t.length=sz.length∧∀i,i<t.length→0≤cget t i∧cget t i<cget sz i
theorem Qbu (t:LI) (p:Int×Int) (l:List (Int×Int)) (s:Int):(l++[p]).foldl (λs p=>s+p.2*t.getD p.1.toNat 0) s=l.foldl (λs p=>s+p.2*t.getD p.1.toNat 0) s+p.2*cget t p.1.toNat:=by
 rw[Md];rfl
theorem QcG {w:World}{vl vt:Value}{nm:ByteArray}{ts:List (Int×Int)}{bd:Int}{t:LI}(hl:P2s [] w.heap vl ts) (ht:QK [] w.heap vt t)
  (hg:∀p∈ts,0≤p.1∧p.1<(t.length:Int)∧-65536≤p.2∧p.2≤65536) (h8:ts.length≤8) (hh:∀i,i<t.length→0≤cget t i∧cget t i≤4096) :
  QI prog 263 [.agg #[.string nm,vl,.int .i64 bd],vt] w λr w'=>r=.int .i64 (Qi9 t ⟨nm,ts,bd⟩)∧Step [] w w':=by
 refine QI.of_W func263 O ntmps263 results263 (by simp) ?_;refine Qc<|xl O<|QQ (us:=[.string nm,vl,.int .i64 bd]) O λb2 w1 V hv hi=>Qe<|Qc<|Qe<|Qg<|Qc<|x (Qa O)<|x (Qd hi O O)<|x (Qs (hl.ext V) O)<|Qb<|xe ?_
 refine Qh<|QA (α:=Nat×Int) [(5,5),(7,7),(11,25)] (λz=>[(5,.int .i64 z.2),(11,.int .i64 z.1)]) (λz w'=>z.1≤ts.length∧Step [] w w'∧z.2=(ts.take z.1).foldl (λs p=>s+p.2*t.getD p.1.toNat 0) 0∧-(268435456*(z.1:Int))≤z.2∧z.2≤268435456*(z.1:Int)) (λz=>ts.length - z.1) (by rfl) (0,0) ⟨O,O,U⟩
  ⟨Lj _,V,O,by simp only[];omega,by simp only[];omega⟩ ?_
 rintro ⟨k,s⟩ g w2 ⟨hk,J,G,hj,hm⟩;simp only[] at hk G hj hm;refine Qc<|x (QB O O)<|xe<|Qg<|QH O (λS=>?_) (λS=>?_)
 ·refine Qy ?_;have hn:ts.length≤k:=by have H:¬(k:Int)<(ts.length:Int):=S;omega
  rw[Ll hn] at G;refine Qc<|Qb<|Qe ?_;exact Qm ⟨[_],Z,by rw[G];rfl,J⟩
 have E:k<ts.length:=by have H:(k:Int)<(ts.length:Int):=S;omega
 have T:=hg _ (Lc E);have Y:ts.take (k+1)=ts.take k++[ts[k]'E]:=Le E;refine Qi<|Qg<|Qh<|Qc<|xig Xz (hl.ext J) O O E λhw H=>?_;refine Zh (ts[k]'E) λe he=>?_;rw[he] at H T Y;refine x (QF H O O)<|xl O<|Qt (us:=[.int .i64 0,.int .i64 0]) O λb7 w3 ho hp I=>xl O<|Qp (us:=QX e) I O O O O ⟨O,O,U⟩ λw4 hq I=>xe ?_
 have hr:Step [] w2 w4:=ho.then1 hq hp;have ha:=J.trans hr;have hs:e.1=((e.1.toNat:Nat):Int):=by omega
 have hb:e.1.toNat<t.length:=by omega
 have hf:=hh _ hb;have hy:-268435456≤e.2*cget t e.1.toNat∧e.2*cget t e.1.toNat≤268435456:=by
  have h1:(-65536)*cget t e.1.toNat≤e.2*cget t e.1.toNat:=Int.mul_le_mul_of_nonneg_right T.2.2.1 hf.1;have h2:e.2*cget t e.1.toNat≤65536*cget t e.1.toNat:=Int.mul_le_mul_of_nonneg_right T.2.2.2 hf.1;omega
 refine Zh (e.2*cget t e.1.toNat) λpr hz=>?_;refine QW (Step [] w4) [(0,true),(1,true),(2,true),(3,true),(4,true),(5,true),(6,true),(7,true),(8,true),(9,true),(10,true)] mixed (by rfl) (by kernel_rfl) (Step.drew _ _) ?_;refine p (λ_=>Qo)<|p (λ_=>Qa O)<|pq (λ_ hc=>Qd (I.ext hc) O O)<|p (λ_=>Qo)<|p (λ_=>Qa O) <|
  pq (λ_ hc=>Qd (I.ext hc) O O)<|pic (i:=e.1.toNat) O (ht.ext ha) O (congrArg (Value.int .i64) hs) hb λh0 hu=>pq (λ_ hc=>Qv (hu.ext hc) O) <|
  p (λ_=>Qdh O O ⟨by omega,by omega⟩)<|p (λ_=>Yv O O ⟨by omega,by omega⟩)<|p (λ_=>Qf)<|pe ?_
 refine Qz<|QN O O<|Qb<|xe<|⟨(k+1,s+e.2*cget t e.1.toNat),by simp only[];omega,⟨O,O,U⟩,E,ha.trans (Step.drew _ _),?_,by simp only[];omega,by simp only[];omega⟩;simp only[];rw[Y,Qbu,←G]
theorem Qep {w:World}{bt:Nat}{vt:Value}{t:LI}(H:Q4 w.heap bt 37 [vt]) (I:QK [] w.heap vt t) (e:Int×Int) (he:0≤e.1∧e.1<(t.length:Int)) :
  QI prog 261 ([.agg (QX e).toArray]++[.pointer (some ⟨bt,0,none⟩)]) w λr w'=>r=.bool (!decide (t.getD e.1.toNat 0=e.2))∧Step [] w w':=by
 refine QI.of_W func261 O ntmps261 results261 (by simp) ?_;refine Qc<|xl O<|QQ (us:=QX e) O λY J E ha G=>Qe ?_;have S:e.1=((e.1.toNat:Nat):Int):=by omega
 have T:e.1.toNat<t.length:=by omega
 refine Qg<|QW (Step [] J) [(0,true),(1,true),(2,true),(3,true),(4,true),(5,true),(6,true),(7,true),(8,true)] mixed (by rfl) (by kernel_rfl) (Step.drew _ _) ?_;refine pq (λ_ hc=>Qd ((H.ext E).ext hc) O O)<|p (λ_=>Qa O)<|pq (λ_ hc=>Qd (G.ext hc) O O)<|pic (i:=e.1.toNat) O (I.ext E) O (congrArg (Value.int .i64) S) T λa7 V =>
  pq (λ_ hc=>Qv (V.ext hc) O)<|p (λ_=>Qa O)<|pq (λ_ hc=>Qd (G.ext hc) O O)<|p (λ_=>Q9 O O) <|
  p (λ_=>Qf)<|pe ?_
 refine Qm ⟨[_],Z,?_,E.trans (Step.drew _ _)⟩;show Value.bool (decide (¬cget t e.1.toNat=e.2))=_;unfold cget;simp
theorem QcE (t:LI) (x:ji):(!(x.ls.any λl=>!decide (t.getD l.1.toNat 0=l.2)))=JY t x:=by
 unfold JY;induction x.ls with
 | nil=>rfl
 | cons a l ih=>rw[List.any_cons,L4,←ih];cases decide (t.getD a.1.toNat 0=a.2) <;> simp
theorem QgC {w:World}{b:Nat}{q:XV}{vt:Value}{t:LI}(I:Q4 w.heap b 122 (Zr q)) (hq:P2s [] w.heap q.v q.ls) (H:QK [] w.heap vt t) (J:∀p∈q.ls,0≤p.1∧p.1<(t.length:Int)) :
  QI prog 259 ([vt]++[.pointer (some ⟨b,0,none⟩)]) w λr w'=>r=.bool (JY t q.x)∧Step [] w w':=by
 refine QI.of_W func259 O ntmps259 results259 (by simp) ?_;refine Qc<|xl O<|QQ (us:=[vt]) H.cells λS Y E ha T=>Qe<|Qc<|x (Qa O)<|x (Qd (I.ext E) O O)<|x Zp<|xl O<|xf<|(Qiy (q:=λl=>!decide (t.getD l.1.toNat 0=l.2)) (cap:=[.pointer (some ⟨S,0,none⟩)]) (hq.ext E) (λe he V G=>Qep (T.ext G) ((H.ext E).ext G) e (J e he))).mono ?_;rintro r2 V ⟨rfl,G⟩;refine x (Zs O)<|Qe ?_
 exact Qm ⟨[_],Z,congrArg Value.bool (QcE t q.x),E.trans G⟩
theorem QgB {w:World}{b:Nat}{q:KV}{vt:Value}{t:LI}(E:Q4 w.heap b 127 (Zm q)) (hq:P2s [] w.heap q.v q.ts) (H:QK [] w.heap vt t)
  (I:∀p∈q.ts,0≤p.1∧p.1<(t.length:Int)∧-65536≤p.2∧p.2≤65536) (J:q.ts.length≤8) (S:∀i,i<t.length→0≤cget t i∧cget t i≤4096) :
  QI prog 262 ([vt]++[.pointer (some ⟨b,0,none⟩)]) w λr w'=>r=.bool (K0 t q.k)∧Step [] w w':=by
 refine QI.of_W func262 O ntmps262 results262 (by simp) ?_;refine Qc<|Qe ?_;have hd:Step [] w { w with drawn:=w.drawn+1 }:=Step.drew _ _
 refine Qg<|QW (Step [] { w with drawn:=w.drawn+1 }) [(0,true),(1,true),(3,true),(4,true),(2,false),(5,true),(6,true)] mixed (by rfl) (by kernel_rfl) (Step.refl _ _) ?_
 refine pq (λ_ hc=>Qr ((E.ext hd).ext hc) O O)<|p (λ_=>Qo)<|p (λ_=>Qa O)<|pq (λ_ hc=>Qd ((E.ext hd).ext hc) O O)<|pk<|xf<|(QcG (hq.ext hd) (H.ext hd) I J S).mono ?_;rintro T V ⟨rfl,G⟩;refine ⟨G,?_⟩;refine p (λ_=>Zx O O)<|p (λ_=>Qf)<|pe ?_;exact Qm ⟨[_],Z,O,hd.trans G⟩
inductive Cd where
 | ex (b:Nat) (q:XV)
 | co (b:Nat) (q:KV)
def Cd.val:Cd→Value
 | .ex b _=>.func (.func 259) #[] #[.pointer (some ⟨b,0,none⟩)]
 | .co b _=>.func (.func 262) #[] #[.pointer (some ⟨b,0,none⟩)]
def Cd.src:Cd→Sum XV KV
 | .ex _ q=>.inl q
 | .co _ q=>.inr q
def Qbv (t:LI):Sum XV KV→Bool
 | .inl q=>JY t q.x
 | .inr q=>K0 t q.k
def Cd.vio (t:LI) (c:Cd):Bool:=Qbv t c.src
abbrev KS (c:Cd):LV:=[c.val]
theorem QiA (c:Cd):(KS c).length=1:=rfl
def CdA (H:Array Obj):Cd→Prop
 | .ex b q=>Q4 H b 122 (Zr q)∧P2s [] H q.v q.ls
 | .co b q=>Q4 H b 127 (Zm q)∧P2s [] H q.v q.ts
theorem CdA.ext {w w':World}{c:Cd}(h:CdA w.heap c) (hs:Step [] w w'):CdA w'.heap c:=by
 cases c with
 | ex b q=>exact ⟨h.1.ext hs,h.2.ext hs⟩
 | co b q=>exact ⟨h.1.ext hs,h.2.ext hs⟩
def Cd.rg (n:Nat):Cd→Prop
 | .ex _ q=>∀p∈q.ls,0≤p.1∧p.1<(n:Int)
 | .co _ q=>(∀p∈q.ts,0≤p.1∧p.1<(n:Int)∧-65536≤p.2∧p.2≤65536)∧q.ts.length≤8
theorem yB {q:XV}(w:World):QI prog 209 [.agg (Zr q).toArray] w λr w'=>Step [] w w'∧∃b,r=(Cd.ex b q).val∧w.heap.size≤b∧Q4 w'.heap b 122 (Zr q):=by
 refine QI.of_W func209 O ntmps209 results209 (by simp) ?_;refine Qc<|xl O<|QQ (us:=Zr q) O λE J G H I=>Qe<|Qc<|x Zp<|Qe ?_;exact Qm ⟨[_],Z,G,E,O,H,I⟩
theorem jV {q:KV}(w:World):QI prog 210 [.agg (Zm q).toArray] w λr w'=>Step [] w w'∧∃b,r=(Cd.co b q).val∧w.heap.size≤b∧Q4 w'.heap b 127 (Zm q):=by
 refine QI.of_W func210 O ntmps210 results210 (by simp) ?_;refine Qc<|xl O<|QQ (us:=Zm q) O λE J G H I=>Qe<|Qc<|x Zp<|Qe ?_;exact Qm ⟨[_],Z,G,E,O,H,I⟩
def CdB (H:Array Obj):Cd→Prop
 | .ex b q=>Q4 H b 122 (Zr q)
 | .co b q=>Q4 H b 127 (Zm q)
def Cd.blk:Cd→Nat
 | .ex b _=>b
 | .co b _=>b
theorem CdB.lt {H:Array Obj}{c:Cd}(h:CdB H c):c.blk<H.size:=by cases c <;> exact Q4.lt h
theorem CdB.step {X:LN}{w w':World}{c:Cd}(h:CdB w.heap c) (hs:Step X w w') (E:c.blk∉X):CdB w'.heap c:=by
 cases c <;> exact Q4.step h hs E
structure CdL (base:Nat) (w:World) (v:Value) (cds:List Cd):Prop where
 own:w.ownsRow base 313 1 v cds.length (cds.flatMap KS)
 bx:∀c∈cds,CdB w.heap c∧c.blk∉ob v
theorem CdL.add {base:Nat}{w E G:World}{v H:Value}{cds:List Cd}{c:Cd}(h:CdL base w v cds) (hs:Step [] w E) (hc:CdB E.heap c) (hb:w.heap.size≤c.blk)
  (I:G.ownsRow base 313 1 H (cds.length+1) (cds.flatMap KS++[c.val])) (J:Step (ob v) E G) (S:∀b∈ob H,b∈ob v∨E.heap.size≤b):CdL base G H (cds++[c]):=by
 have T:=QO h.own;have V:c.blk∉ob v:=λhm=>by have:=T _ hm;omega
 refine ⟨?_,λd hd=>?_⟩
 ·rw[Lk,LA];simpa using I
 have key:CdB E.heap d∧d.blk∉ob v:=by
  rcases Li.1 hd with hd | hd
  ·exact ⟨(h.bx d hd).1.step hs (by simp),(h.bx d hd).2⟩
  simp only[List.mem_singleton] at hd;subst hd;exact ⟨hc,V⟩
 refine ⟨key.1.step J key.2,λhm=>?_⟩;rcases S _ hm with h1 | h1
 ·exact key.2 h1
 have:=key.1.lt;omega
set_option maxHeartbeats 4000000 in
theorem QeB {w:World}{vs vx vk:Value}{qx:List XV}{ks:List KV}(hX:UM [] w.heap vx qx) (hK:UY [] w.heap vk ks) (hH:qx.length≤32) (hI:ks.length≤32) :
  QI prog 150 [.agg #[vs,vx,vk]] w λr w'=>Step [] w w'∧∃cds,CdL w.heap.size w' r cds∧cds.map Cd.src=qx.map Sum.inl++ks.map Sum.inr:=by
 refine QI.of_W func150 O ntmps150 results150 (by simp) ?_;refine Qc<|xl O<|QQ (us:=[vs,vx,vk]) O λb1 J H hJ h3=>Qe ?_;have h8:=H.size;refine Qc<|Qe<|Qg<|Qc<|x (Qa O)<|x (Qd h3 O O)<|x (Qs (hX.ext H).arr O)<|Qb<|xe ?_
 refine Qh<|QA (α:=Nat×Value×List Cd) [(3,3),(5,5),(11,20)] (λz=>[(3,z.2.1),(11,.int .i64 z.1)]) (λz w'=>z.1≤qx.length∧Step [] J w'∧CdL J.heap.size w' z.2.1 z.2.2∧z.2.2.map Cd.src=(qx.take z.1).map Sum.inl) (λz=>qx.length - z.1) (by rfl) (0,nS,[]) ⟨O,O,U⟩
  ⟨Lj _,Step.refl _ _,⟨QM _ _ _ _,λc hc=>(by cases hc)⟩,rfl⟩ ?_
 rintro ⟨k,vo,cds⟩ g wA ⟨hk,I,Y,ha⟩;simp only[] at hk Y ha;have hM:cds.length=k:=by have:=congrArg List.length ha;simp at this;omega
 refine Qc<|x (QB O O)<|xe<|Qg<|QH O (λhl=>?_) (λhl=>?_)
 ·refine Qy ?_;have h9:qx.length≤k:=by have hm:¬(k:Int)<(qx.length:Int):=hl;omega
  rw[Ll h9] at ha;refine Qg<|Qc<|x (Qa O)<|x (Qd (h3.ext I) O O)<|x (Qs ((hK.ext H).ext I).arr O)<|Qb<|xe ?_
  refine Qh<|QA (α:=Nat×Value×List Cd) [(3,3),(7,7),(24,33)] (λz=>[(3,z.2.1),(24,.int .i64 z.1)]) (λz w'=>z.1≤ks.length∧Step [] J w'∧CdL J.heap.size w' z.2.1 z.2.2∧z.2.2.map Cd.src=qx.map Sum.inl++(ks.take z.1).map Sum.inr) (λz=>ks.length - z.1) (by rfl) (0,vo,cds) ⟨O,O,U⟩
   ⟨Lj _,I,Y,by simp only[];rw[ha];simp⟩ ?_
  rintro ⟨j,vp,cdt⟩ g wB ⟨hj,he,S,hf⟩;simp only[] at hj S hf;have hN:cdt.length=qx.length+j:=by have:=congrArg List.length hf;simp at this;omega
  refine Qc<|x (QB O O)<|xe<|Qg<|QH O (λhn=>?_) (λhn=>?_)
  ·refine Qy ?_;have hB:ks.length≤j:=by have hm:¬(j:Int)<(ks.length:Int):=hn;omega
   rw[Ll hB] at hf;refine Qc<|Qb<|Qe ?_;exact Qm ⟨[_],Z,H.trans he,cdt,⟨Zk S.own h8,S.bx⟩,hf⟩
  have T:j<ks.length:=by have hm:(j:Int)<(ks.length:Int):=hn;omega
  have h4:=Lc T;have h5:ks.take (j+1)=ks.take j++[ks[j]'T]:=Le T;refine Qi<|Qg<|Qh<|Qc<|xig Y6 ((hK.ext H).ext he).arr O O T λaA hA=>?_;refine Zh (ks[j]'T) λq hq=>?_;rw[hq] at hA h4 h5;have ho:=((hK.ext H).ext he).each q h4
  refine x (QF hA O O)<|xl O<|Qt (us:=[.string .empty,nS,.int .i64 0]) O λb7 w4 hp hr hs=>xl O<|Qp (us:=Zm q) hs O O O O ⟨O,ho.one,O,U⟩ λw5 ht hu=>xe ?_;have hg:Step [] wB w5:=hp.then1 ht hr;refine Qz<|Qb<|x (Qr hu O O)<|xl O<|xf<|(jV w5).mono ?_;rintro r6 w6 ⟨hv,E,rfl,hC,hw⟩
  refine xl O<|QD (us:=[[(Cd.co E q).val]]) O O (by decide) (by simp) ⟨rfl,rfl,U⟩ λhD w7 hh hE hy=>?_;have G:=(hg.trans hv).trans hh;have hF:=(he.trans G).size;have hG:=hg.size;refine xl O<|Q6 (news:=[(Cd.co E q).val]) (L:=[]) (Qq S.own G) O O O (hy.at (by simp)) (by simp[Cd.val,Value.oneCell']) (by omega) (by omega) λv8 w8 hz hi h0 =>
   Qe ?_
  have hge:=Qn S.own;have h1:=S.add (c:=Cd.co E q) G (Q4.ext hw hh) (by show _≤E;omega) hz hi h0;have h2:Step [] J w8:=(he.trans G).then hi (λb hb=>.inr (hge b hb).1);refine Qz<|QN O O<|Qb<|xe ?_;exact ⟨(j+1,v8,cdt++[Cd.co E q]),by simp only[];omega,⟨O,O,U⟩,T,h2,h1,by simp only[];rw[Lt,hf,h5];simp[Cd.src]⟩
 have V:k<qx.length:=by have hm:(k:Int)<(qx.length:Int):=hl;omega
 have h6:=Lc V;have h7:qx.take (k+1)=qx.take k++[qx[k]'V]:=Le V;refine Qi<|Qg<|Qh<|Qc<|xig Xx ((hX.ext H).ext I).arr O O V λaA hA=>?_;refine Zh (qx[k]'V) λq hq=>?_;rw[hq] at hA h6 h7;have ho:=((hX.ext H).ext I).each q h6
 refine x (QF hA O O)<|xl O<|Qt (us:=[.string .empty,nS]) O λb7 w4 hp hr hs=>xl O<|Qp (us:=Zr q) hs O O O O ⟨O,ho.one,U⟩ λw5 ht hu=>xe ?_;have hg:Step [] wA w5:=hp.then1 ht hr;refine Qz<|Qb<|x (Qr hu O O)<|xl O<|xf<|(yB w5).mono ?_;rintro r6 w6 ⟨hv,E,rfl,hC,hw⟩;refine xl rfl<|QD (us:=[[(Cd.ex E q).val]]) O O (by decide) (by simp) ⟨rfl,rfl,U⟩ λhD w7 hh hE hy=>?_
 have G:=(hg.trans hv).trans hh;have hF:=(I.trans G).size;have hG:=hg.size;refine xl rfl<|Q6 (news:=[(Cd.ex E q).val]) (L:=[]) (Qq Y.own G) O O O (hy.at (by simp)) (by simp[Cd.val,Value.oneCell']) (by omega) (by omega) λv8 w8 hz hi h0 =>
  Qe ?_
 have hge:=Qn Y.own;have h1:=Y.add (c:=Cd.ex E q) G (Q4.ext hw hh) (by show _≤E;omega) hz hi h0;have h2:Step [] J w8:=(I.trans G).then hi (λb hb=>.inr (hge b hb).1);refine Qz<|QN O O<|Qb<|xe ?_;exact ⟨(k+1,v8,cds++[Cd.ex E q]),by simp only[];omega,⟨O,O,U⟩,V,h2,h1,by simp only[];rw[Lt,ha,h7];simp[Cd.src]⟩
theorem Qh8 {gp:Nat}{fn:Func}[Fu prog gp fn] {cap:LV}{q:Cd→Bool}{L:LN}{w:World}{v:Value}{l:List Cd}(h:Zq L w.heap v l.length 1 (l.flatMap KS))
  (hk:∀e∈l,∀(G:World),Step [] w G→QI prog gp ([e.val]++cap) G λr w'=>r=.bool (q e)∧Step [] G w') :
  QI prog 207 [v,.func (.func gp) #[] cap.toArray] w λr w'=>r=.int .i64 (fix q 0 l)∧Step [] w w':=by
 have hb:=h.le;refine QI.of_W func207 O ntmps207 results207 (by simp) ?_;refine Qc<|Qe<|Qg<|Qc<|Qb<|x (Qs h O)<|Qb<|xe<|Qh<|QA (α:=Nat) [(4,5),(8,18)] (λz=>[(8,.int .i64 z)]) (λz w'=>z≤l.length∧Step [] w w'∧fix q z (l.drop z)=fix q 0 l) (λz=>l.length - z) (by rfl) 0 Z
  ⟨Lj _,Step.refl _ _,O⟩ ?_
 rintro k g G ⟨hc,H,E⟩;refine Qc<|x (QB O O)<|xe<|Qg<|QH O (λh9=>?_) (λh9=>?_)
 ·refine Qy ?_;have Y:l.length≤k:=by have ha:¬(k:Int)<(l.length:Int):=h9;omega
  rw[Lp Y] at E;refine Qc<|Qe ?_;exact Qm ⟨[_],Z,by rw[←E];rfl,H⟩
 have I:k<l.length:=by have ha:(k:Int)<(l.length:Int):=h9;omega
 rw[QZ I,ZY] at E;have S:=Lc I;refine Qi<|Qg<|Qh<|Qc<|Qb<|Qe<|Qc<|Qb<|Qb<|Qb<|xig QiA (h.ext H) O O I λhf T=>?_;refine Zh (l[k]'I) λe he=>?_;rw[he] at T E S;refine x (Qv T O)<|xl O<|xc (first:=[]) (capt:=cap) O<|(hk e S G H).mono ?_;rintro r2 w2 ⟨rfl,V⟩;refine xe<|Q2 rfl (λJ=>?_) (λJ=>?_)
 ·rw[if_pos J] at E;refine Qc<|Qb<|Qe ?_;exact Qm ⟨[_],Z,by rw[←E];rfl,H.trans V⟩
 rw[if_neg (by rw[J];decide)] at E;refine Qi<|Qz<|QN O O<|Qb<|xe ?_;exact ⟨k+1,by omega,Z,I,H.trans V,E⟩
theorem QgO {w:World}{c:Cd}{vt:Value}{t:LI}(hc:CdA w.heap c) (G:QK [] w.heap vt t) (E:c.rg t.length) (H:∀i,i<t.length→0≤cget t i∧cget t i≤4096) :
  ∃g fn cap,c.val=.func (.func g) #[] [cap].toArray∧Fu prog g fn∧QI prog g ([vt]++[cap]) w λr w'=>r=.bool (c.vio t)∧Step [] w w':=by
 cases c with
 | ex b q=>exact ⟨_,_,_,O,inferInstance,QgC hc.1 hc.2 G E⟩
 | co b q=>exact ⟨_,_,_,O,inferInstance,QgB hc.1 hc.2 G E.1 E.2 H⟩
theorem QcC {w:World}{bt:Nat}{c:Cd}{vt:Value}{t:LI}(E:Q4 w.heap bt 37 [vt]) (hc:CdA w.heap c) (G:QK [] w.heap vt t) (H:c.rg t.length) (I:∀i,i<t.length→0≤cget t i∧cget t i≤4096) :
  QI prog 208 ([c.val]++[.pointer (some ⟨bt,0,none⟩)]) w λr w'=>r=.bool (c.vio t)∧Step [] w w':=by
 obtain ⟨gq,fn,cap,J,T,hcall⟩:=QgO hc G H I;rw[J];refine QI.of_W func208 O ntmps208 results208 (by simp) ?_;refine Qc<|Qe<|Qc<|Qb<|x (Qd E O O)<|xl O<|xc (g:=gq) (fn:=fn) (first:=[]) (capt:=[cap]) O<|hcall.mono ?_;rintro V Y ⟨rfl,S⟩;refine Qe ?_;exact Qm ⟨[_],Z,O,S⟩
theorem zQ {L:LN}{w:World}{v vt:Value}{cds:List Cd}{t:LI}(h:Zq L w.heap v cds.length 1 (cds.flatMap KS)) (hc:∀c∈cds,CdA w.heap c) (H:QK [] w.heap vt t) (I:∀c∈cds,c.rg t.length) (J:∀i,i<t.length→0≤cget t i∧cget t i≤4096) :
  QI prog 149 [v,vt] w λr w'=>r=.int .i64 (fix (Cd.vio t) 0 cds)∧Step [] w w':=by
 refine QI.of_W func149 O ntmps149 results149 (by simp) ?_;refine Qc<|xl O<|QQ (us:=[vt]) H.cells λS Y G ha T=>Qe<|Qc<|Qb<|x Zp<|xl O<|xf<|(Qh8 (q:=Cd.vio t) (cap:=[.pointer (some ⟨S,0,none⟩)]) (h.ext G) (λc hm V E=>QcC (T.ext E) (((hc c hm).ext G).ext E) ((H.ext G).ext E) (I c hm) J)).mono ?_;rintro r2 V ⟨rfl,E⟩;refine Qe ?_;exact Qm ⟨[_],Z,O,G.trans E⟩
theorem QeI {w:World}{vs vx vk vt:Value}{sz t:LI}(I:QK [] w.heap vs sz) (G:QK [] w.heap vt t) (h:Qg4 sz t) :
  QI prog 206 [.agg #[vs,vx,vk],vt] w λr w'=>r=.int .i64 0∧Step [] w w':=by
 have hf:=G.le;have h0:=h.1;refine QI.of_W func206 O ntmps206 results206 (by simp) ?_;refine Qc<|xl O<|QQ (us:=[vs,vx,vk]) O λb2 V E hg J=>Qe<|Qg<|Qc<|Qb<|x (Qs (G.ext E) O)<|x (Qa O)<|x (Qd J O O)<|x (Qs (I.ext E) O)<|x (Q9 O O) <|
  xe ?_
 refine QH rfl (λS=>?_) (λS=>?_)
 ·refine Qi<|Qg<|Qc<|Qb<|x (Qs (G.ext E) O)<|Qb<|xe<|Qh<|QA (α:=Nat) [(4,6),(15,31)] (λz=>[(15,.int .i64 z)]) (λz w'=>z≤t.length∧w'=V) (λz=>t.length - z) (by rfl) 0 Z ⟨Lj _,O⟩ ?_;rintro k g Y ⟨hk,rfl⟩;refine Qc<|x (QB O O)<|xe<|Qg<|QH O (λT=>?_) (λT=>?_)
  ·refine Qy<|Qc<|Qe ?_;exact Qm ⟨[_],Z,O,E⟩
  have H:k<t.length:=by have hh:(k:Int)<(t.length:Int):=T;omega
  have hb:=h.2 k H;refine Qi<|Qg<|Qh<|Qc<|Qb<|xic (i:=k) (G.ext E) O O H λhi ha=>x (Qv ha O)<|x Qf<|Qe<|Q0 (α:=Unit) [(20,30)] (λz=>[(30,.bool false)]) (λz w'=>w'=Y) (by rfl) ?_ ?_
  ·refine Qz<|Qb<|xb (QB O O) (λhc=>by omega) (λhc=>?_);refine Qb<|Qb<|x (Qa O)<|x (Qd J O O)<|Qb<|xic (i:=k) (I.ext E) O O (by omega) λhj he=>x (Qv he O) <|
    x (ZX rfl O)<|x (Qj O)<|xe ?_
   exact ⟨(),⟨congrArg Value.bool (decide_eq_false (by omega)),U⟩,O⟩
  rintro _ g w3 rfl;refine Yc O ?_;refine Qi<|Qz<|QN O O<|Qb<|xe ?_;exact ⟨k+1,by omega,Z,H,O⟩
 exact absurd (show (t.length:Int)=(sz.length:Int) by omega) S
theorem UZ {w:World}{vs vx vk vt:Value}{sz t:LI}{qx:List XV}{ks:List KV}(H:QK [] w.heap vs sz) (T:UM [] w.heap vx qx) (V:UY [] w.heap vk ks) (Y:QK [] w.heap vt t) (hc:Yt sz (qx.map (·.x)) (ks.map (·.k))=0) (h:Qg4 sz t) :
  QI prog 148 [.agg #[vs,vx,vk],vt] w λr w'=>r=.int .i64 0∧Step [] w w':=by
 refine QI.of_W func148 O ntmps148 results148 (by simp) ?_;refine Qc<|xl O<|QQ (us:=[vs,vx,vk]) O λb2 w1 E hb I=>Qe<|Qg<|Qc<|x (Qr I O O)<|xl O<|xf<|(Un (H.ext E) (T.ext E) (V.ext E)).mono ?_;rintro r2 w2 ⟨J,S⟩;rw[hc] at J;subst J;refine Qe<|Qc<|Qb<|x (Q9 O O)<|xe<|Yc rfl ?_;refine Qi ?_;have G:=E.trans S
 refine Qc<|x (Qr (I.ext S) O O)<|Qb<|xl O<|xf<|(QeI (H.ext G) (Y.ext G) h).mono ?_;rintro r3 w3 ⟨rfl,ha⟩;refine Qe ?_;exact Qm ⟨[_],Z,O,G.trans ha⟩
def Kl (qx:List ji) (ks:List Xf) (t:LI):Int×Int×Bool :=
 if 0≤fix (JY t) 0 qx then (1,fix (JY t) 0 qx,true) else if 0≤fix (K0 t) 0 ks then (2,fix (K0 t) 0 ks,true) else (0,0,false)
theorem Qgy {cds:List Cd}{qx:List XV}{ks:List KV}(t:LI) (h:cds.map Cd.src=qx.map Sum.inl++ks.map Sum.inr) :
  fix (Cd.vio t) 0 cds=if 0≤fix (JY t) 0 (qx.map (·.x)) then fix (JY t) 0 (qx.map (·.x)) else if 0≤fix (K0 t) 0 (ks.map (·.k)) then fix (K0 t) 0 (ks.map (·.k))+qx.length else -1:=by
 have h1:fix (Cd.vio t) 0 cds=fix (Qbv t) 0 (cds.map Cd.src):=(JJ (Qbv t) Cd.src cds 0).symm;rw[h1,h,Uk,JJ,Lh,qv,JJ (Qbv t) Sum.inr ks 0];have e1:fix (λa=>Qbv t (Sum.inl a)) 0 qx=fix (JY t) 0 (qx.map (·.x)):=(JJ (JY t) XV.x qx 0).symm;have e2:fix (λa=>Qbv t (Sum.inr a)) 0 ks=fix (K0 t) 0 (ks.map (·.k)):=(JJ (K0 t) KV.k ks 0).symm;rw[e1,e2]
theorem Qhw {P:Int×Int×Bool}{a b:Int}{c:Bool}(h:P=(a,b,c)):(Value.tuple #[.int .i64 a,.int .i64 b,.bool c,.int .i64 0])=.tuple #[.int .i64 P.1,.int .i64 P.2.1,.bool P.2.2,.int .i64 0]:=by rw[h]
set_option maxHeartbeats 4000000 in
theorem VB {w:World}{vs vx vk vt:Value}{sz t:LI}{qx:List XV}{ks:List KV}(hS:QK [] w.heap vs sz) (I:UM [] w.heap vx qx) (Y:UY [] w.heap vk ks) (ht:QK [] w.heap vt t) (hc:Yt sz (qx.map (·.x)) (ks.map (·.k))=0) (h:Qg4 sz t) :
  QI prog 73 [.agg #[vs,vx,vk],vt] w λr w'=>Step [] w w'∧r=.tuple #[.int .i64 (Kl (qx.map (·.x)) (ks.map (·.k)) t).1,.int .i64 (Kl (qx.map (·.x)) (ks.map (·.k)) t).2.1,.bool (Kl (qx.map (·.x)) (ks.map (·.k)) t).2.2,.int .i64 0]:=by
 have J:=Vz hc;have hp:qx.length≤32:=by have:=J.xl;simpa using this
 have hs:ks.length≤32:=by have:=J.kl;simpa using this
 refine QI.of_W func73 O ntmps73 results73 (by simp) ?_;refine Qc<|xl O<|QQ (us:=[vs,vx,vk]) O λb2 w1 S h4 hg=>x Qf<|x Qf<|x Qf<|Qe<|Qg<|Qc<|x (Qr hg O O)<|Qb<|xl O<|xf<|(UZ (hS.ext S) (I.ext S) (Y.ext S) (ht.ext S) hc h).mono ?_;rintro r2 w2 ⟨rfl,hh⟩;refine Qe<|Qc<|Qb<|x (Q9 O O)<|xe<|Yc rfl ?_;refine Qi ?_;have ha:=S.trans hh;have hj:=hg.ext hh
 refine Qc<|x (Qr hj O O)<|xl O<|xf<|(QeB (I.ext ha) (Y.ext ha) hp hs).mono ?_;rintro r3 w3 ⟨hk,cds,hL,hb⟩;have V:=ha.trans hk;have h5:cds.length=qx.length+ks.length:=by have:=congrArg List.length hb;simpa using this
 have hu:∀i,i<t.length→0≤cget t i∧cget t i≤4096:=λi hi=>by
  have h1:=h.2 i hi;have h2:i<sz.length:=by rw[←h.1];exact hi
  have h3:=J.s _ (Lc h2);rw[Zn h2] at h3;omega
 have hl:∀c∈cds,c.src∈qx.map Sum.inl++ks.map Sum.inr:=λc hm=>by rw[←hb];exact LG hm
 have hv:∀c∈cds,CdA w3.heap c:=λc hm=>by
  have h1:=hl c hm;have h2:=(hL.bx c hm).1;cases c with
  | ex b q =>
   have hq:q∈qx:=by simpa[Cd.src] using h1
   exact ⟨h2,(I.each q hq).ext V⟩
  | co b q =>
   have hq:q∈ks:=by simpa[Cd.src] using h1
   exact ⟨h2,(Y.each q hq).ext V⟩
 have hw:∀c∈cds,c.rg t.length:=λc hm=>by
  have h1:=hl c hm;rw[h.1];cases c with
  | ex b q =>
   have hq:q∈qx:=by simpa[Cd.src] using h1
   exact J.x q.x (LG hq)
  | co b q =>
   have hq:q∈ks:=by simpa[Cd.src] using h1
   exact J.k q.k (LG hq)
 have hy:=Qgy t hb;have g1:=jT (JY t) (qx.map (·.x)) 0;have g2:=jT (K0 t) (ks.map (·.k)) 0;simp only[List.length_map] at g1 g2;refine Qb<|xl O<|xf<|(zQ (QS (L:=[]) hL.own (by omega) (by simp)) hv (ht.ext V) hw hu).mono ?_;rintro r4 w4 ⟨rfl,hn⟩;rw[hy];have T:=V.trans hn;refine Zh (Kl (qx.map (·.x)) (ks.map (·.k)) t) λP G=>?_;rw[G];unfold Kl at G
 refine Zh (fix (JY t) 0 (qx.map (·.x))) λH he=>?_;refine Zh (fix (K0 t) 0 (ks.map (·.k))) λi2 hf=>?_;rw[he,hf] at G;rw[he] at g1;rw[hf] at g2;refine Zh (if 0≤H then H else if 0≤i2 then i2+(qx.length:Int) else -1) λr E=>?_
 rw[he,hf,E];refine Qe<|Qh<|Qc<|Qb<|x (QB O O)<|Qe<|Q7 O (λhz=>?_) (λhz=>?_)
 ·have n1:¬0≤H:=λh=>by rw[if_pos h] at E;omega
  have n2:¬0≤i2:=λh=>by rw[if_neg n1,if_pos h] at E;omega
  refine Qc<|x Qf<|x Qf<|x Qf<|Qe ?_;exact Qm ⟨[_,_,_,_],⟨O,O,O,O,U⟩,T,Qhw (by rw[←G,if_neg n1,if_neg n2])⟩
 have ho:=(hj.ext hk).ext hn;refine Qc<|Qb<|x (Qa O)<|x (Qd ho O O)<|x (Qs (I.ext T).arr O)<|x (QB O O)<|Qe<|Q7 O (λh0=>?_) (λh0=>?_)
 ·have p1:0≤H:=by
   refine Lq.1 λn1=>?_;by_cases h:0≤i2
   ·rw[if_neg n1,if_pos h] at E;omega
   rw[if_neg n1,if_neg h] at E;omega
  have e:r=H:=by rw[if_pos p1] at E;exact E.symm
  refine Qc<|Qb<|x Qf<|x Qf<|x Qf<|Qe ?_;exact Qm ⟨[_,_,_,_],⟨O,O,O,O,U⟩,T,Qhw (by rw[←G,if_pos p1,e])⟩
 have n1:¬0≤H:=λh=>by rw[if_pos h] at E;omega
 have p2:0≤i2:=by
  refine Lq.1 λn2=>?_;rw[if_neg n1,if_neg n2] at E;omega
 have e:r - (qx.length:Int)=i2:=by rw[if_neg n1,if_pos p2] at E;omega
 refine Qg<|QW (Step [] w4) [(0,true),(1,true),(2,true),(3,true),(4,true),(5,true),(6,true),(7,true),(8,true)] mixed (by rfl) (by kernel_rfl) (Step.drew _ _) ?_;refine p (λ_=>Qo)<|p (λ_=>Qa O)<|pq (λ_ hc=>Qd (ho.ext hc) O O)<|p (λ_=>Qs (I.ext T).arr O) <|
  p (λ_=>Ja O O ⟨by omega,by omega⟩)<|p (λ_=>Qf)<|p (λ_=>Qf)<|p (λ_=>Qf)<|p (λ_=>Qf) <|
  pe ?_
 exact Qm ⟨[_,_,_,_],⟨O,O,O,O,U⟩,T.trans (Step.drew _ _),Qhw (by rw[←G,if_neg n1,if_pos p2,←e])⟩
end Go.Proofs.YtdffckgdcegpaaaGreatDoor
