/- Merged out of 56 texts. -/
import Derived.Test.YtdffckgdcegpaaaGreatDoorKqa
import Derived.Laws.Strings
import Derived.RangeFuncNested
import Derived.RangeFuncLeaves
import Derived.RangeFuncCalls
import Derived.OrdersIn
import Derived.TacticsIn
namespace Go.Proofs.YtdffckgdcegpaaaGreatDoor
open Go.Proofs.Tryz
open Go.Lg
theorem QmB {α:Type}(o:Option α):o=none∨∃t,o=some t:=by cases o;exact .inl O;exact .inr ⟨_,O⟩
def zA:Value:=.agg #[nS,.int .i64 0,nS,nS]
def Za:Value:=nS
def Yb (N:Nat) (H:Array Obj) (aa:List QV) (va vt:Value) (c:Int):Prop :=
 if Vu aa≠0 then c=Vu aa∧va=zA∧vt=Za else match sync aa with
  | none=>c=3∧va=zA∧vt=Za
  | some z=>c=0∧Xw N H va z.1∧q6 N H vt z.2
def Yj (s:Sy) (u:LI):Sy:=if u∈s.tup then s else ⟨s.tup++[u],s.mk',s.ed⟩
theorem QeF (s:Sy) (u:LI):(Yj s u).mk'=s.mk':=by unfold Yj;split <;> rfl
theorem QeG (s:Sy) (u:LI):(Yj s u).ed=s.ed:=by unfold Yj;split <;> rfl
theorem QhB {aa:List QV}{i:Nat}{t u:LI}{s:Sy}{v:Int}(h:Yg v aa t=some u) (hl:u∈s.tup∨s.tup.length≠4096) :
  syE aa i t s v=some ⟨(Yj s u).tup,(Yj s u).mk',(Yj s u).ed++[((i:Int),v,((Yj s u).tup.idxOf u:Int))]⟩:=by
 unfold syE Yj;rw[h];simp only[];by_cases hu:u∈s.tup
 ·simp only[if_pos hu]
 simp only[if_neg hu];rw[if_neg (by rcases hl with h1 | h1;exact absurd h1 hu;exact h1),MR,if_neg hu];simp
theorem QeE {aa:List QV}{i:Nat}{t u:LI}{s:Sy}{v:Int}(h:Yg v aa t=some u) (hu:u∉s.tup) (hl:s.tup.length=4096):syE aa i t s v=none:=by
 unfold syE;rw[h];simp only[];rw[if_neg hu,if_pos hl]
theorem QeC {aa:List QV}{i:Nat}{t:LI}{s:Sy}{v:Int}(h:Yg v aa t=none):syE aa i t s v=some s:=by
 unfold syE;rw[h]
theorem Qlw {s:Sy}{qs:List TV}{i:Nat}(hq:qs.map (·.2)=s.tup) (h:i<qs.length):zd s i=qs[i].2:=by
 unfold zd;rw[←hq];simp[List.getD,h]
theorem Vt.bd {aa:List QV}{t:LI}(h:Vt aa t) {m:Int}(hm:∀a∈aa,a.st≤m):∀x∈t,0≤x∧x<m:=by
 intro x hx;obtain ⟨i,hi,rfl⟩:=LE hx;have E:i<aa.length:=by rw[←h.1];exact hi
 have:=h.2 i hi E;have:=hm aa[i] (Lh E);omega
set_option maxHeartbeats 20000000 in
theorem QaE {L:LN}{w:World}{vl:Value}{ps:List AV}{km:Int}(h:XD L w.heap vl ps) (gp:Kb w km) (kh:0<km) (m8:∀p∈ps,p.a.st≤km) :
  QJ prog 69 [vl] w λr w'=>Step [] w w'∧∃va vt c,r=.tuple #[va,vt,.int .i64 c]∧Yb w.heap.size w'.heap (ps.map (·.a)) va vt c:=by
 refine QJ.of_W func69 O ntmps69 results69 (by simp) ?_;generalize J:ps.map (·.a)=aa;refine Qc<|xl O<|Qv (us:=[nS,.int .i64 0,nS,nS]) O λH w1 hD hE gq=>x Qh<|Qe ?_;have hz1:=hD.size;have hl2:=gq.lt;refine Qf<|Qc<|Qb<|xl O<|xf<|(Qdx (h.ext hD)).mono ?_;rintro r2 w2 ⟨rfl,hr⟩;refine Qe ?_;rw[J];refine Qc<|Qb<|x (Q9 O O)<|xe<|Q7 rfl (λh6=>?_) (λh6=>?_)
 ·refine Qc<|x (QF U)<|Qb<|xl O<|Qr (us:=[nS,.int .i64 0,nS,nS]) (gq.ext hr) O O O O ⟨O,O,O,O,U⟩ λw3 m9 pa=>x Qh<|Qe<|Qn ⟨[zA,Za,.int .i64 (Vu aa)],⟨⟨_,O,QB O (pa.at (L:=[]) (by simp)).cells⟩,rfl,rfl,U⟩,(hD.trans hr).then1 m9 hE,zA,Za,Vu aa,rfl,?_⟩;unfold Yb;rw[if_pos h6];exact ⟨O,O,O⟩
 have hv:Vu aa=0:=Lu.1 h6;have hn:ps.length≤12:=by
  unfold Vu at hv;split at hv
  ·cases hv
  rename_i h1;rw[←J] at h1;simp at h1;exact h1
 have hF:∀a∈aa,Zr a:=by
  unfold Vu at hv;split at hv
  ·cases hv
  exact (Qam aa).1 hv
 have hX:∀p∈ps,Zr p.a:=λp hp=>hF p.a (by rw[←J];exact LL hp);have pc:∀p∈ps,p.a.al.length≤32:=λp hp=>(hX p hp).al_le;have pd:∀a∈aa,a.st≤km:=λa ha=>by rw[←J] at ha;obtain ⟨p,hp,rfl⟩:=Ly.1 ha;exact m8 p hp
 have hG:aa.length=ps.length:=by rw[←J];simp
 refine Qi<|Qc<|Qb<|xl O<|xf<|(Qh3 (L:=[H]) (((h.up (λb hb=>.inr (by simp at hb;omega))).ext hD).ext hr) hn pc (λb hb=>by simp at hb;have:=hr.size;omega)).mono ?_;rintro r4 w4 ⟨gr,ve,vs,ms,rfl,ki,ho⟩;rw[J] at ho;have pf:=h.arr.one;have hel:=y8 aa (λa ha=>(hF a ha).al_le);have hevl:(evs aa).length≤1000:=by omega
 have hY:=Qt.ints (L:=[]) ho (by omega) (by simp);refine xl rfl<|Qv (us:=[nS,nS,nS]) O λb6 w5 pg ph hH=>xl O<|Qr (us:=[vl,ve,vs]) hH O O O O ⟨pf,hY.one,ki.sl.one,U⟩ λw6 pj hH=>xe ?_;have hJ:Step [] w4 w6:=pg.then1 pj ph;have hz2:=hr.size;have hz4:=gr.size;have hz6:=hJ.size;have hl6:=hH.lt;refine Qc ?_;have pm:=((gq.ext hr).ext gr).ext hJ
 refine x (Qa O)<|x (Qd hH O O)<|x (Qa O)<|xl O<|QG pm O O (by simp) hY.one λw7 hK pn=>xe ?_;have hz7:=hK.size;have gs:Step [] w w7:=((((hD.trans hr).trans gr).trans hJ).then1 hK hE);have kj:J5 [H] w7.heap vl ve vs ps ms:=(ki.ext hJ).st hK;have kk:Qt 3 w2.heap.size w7 ve (evs aa):=Qj (Qm ho hJ) hK (λb hb=>by have:=(Qk ho b hb).1;simp;omega)
 have kn:=hH.step hK (by simp;omega);refine Qc<|x (Qs kn O O)<|xl O<|xf<|(Qbm kj hn).mono ?_;rintro r8 w8 ⟨hh,hZ⟩;have hz8:=hh.size;have gt:=pn.ext hh;have ga:(∃p∈ps,p.a.st=0)↔(∃a∈aa,a.st=0):=by
  rw[←J];constructor
  ·rintro ⟨p,hp,h0⟩;exact ⟨p.a,LL hp,h0⟩
  rintro ⟨a,ha,h0⟩;obtain ⟨p,hp,rfl⟩:=Ly.1 ha;exact ⟨p,hp,h0⟩
 by_cases hz:∃p∈ps,p.a.st=0
 ·rw[if_pos hz] at hZ;subst hZ;refine Qb<|x (Qp O O)<|x (Qp O O)<|x Qh<|Qe<|Qf<|Qc<|Qb<|x (Zm O)<|xe<|qD O ?_;refine Qc<|x (Qs gt O O)<|xl O<|Qr (us:=[ve,.int .i64 0,nS,nS]) gt O O O O ⟨hY.one,O,O,O,U⟩ λw9 ko po=>x Qh<|Qe<|Qn ⟨[.agg #[ve,.int .i64 0,nS,nS],Za,.int .i64 0],⟨⟨_,O,QB O (po.at (L:=[]) (by simp)).cells⟩,rfl,rfl,U⟩,(gs.trans hh).then1 ko hE,_,Za,0,rfl,?_⟩
  unfold Yb;rw[if_neg h6];unfold sync;rw[if_pos (ga.1 hz)];have pp:=Qj (Qm kk hh) ko (λb hb=>by have:=(Qk ho b hb).1;simp;omega);refine ⟨O,⟨ve,_,_,O,λL' hl=>⟨Qt.ints pp (by show (evs aa).length≤_;omega) (λb hb=>by have:=hl b hb;omega),Zo.nil _ _ _,Zo.nil _ _ _⟩⟩,[],O,λL' hl=>⟨Zo.nil _ _ _,λp hp=>by cases hp⟩⟩
 rw[if_neg hz] at hZ;obtain ⟨vf,rfl,gu⟩:=hZ;have kp:=Qt.ints (L:=[]) gu (by simp;omega) (by simp);refine Qb<|x (Qp O O)<|x (Qp O O)<|x Qh<|Qe<|Qf<|Qc<|Qb<|x (Zm O)<|xe<|ZX rfl ?_;refine Qi<|Qc<|Qb<|xl O<|QC (us:=[[vf]]) O O (by decide) (by simp) ⟨kp.cells,rfl,U⟩ λS w10 gb hb37 kq=>Qe ?_;have hz10:=gb.size;have hl37:=kq.lt;refine Qc<|xl O<|Yn Xr λhe w11 hL hb38 kr=>?_
 have hz11:=hL.size;have hl38:=kr.lt;refine Qb<|xl O<|xf<|(yO ((kp.ext gb).ext hL) (gp.ext ((gs.trans hh).trans (gb.trans hL))) (λn hn=>by have:=Nk hn;omega) (by simp;omega)).mono ?_;rintro r12 pt ⟨rfl,gc⟩;have hz12:=gc.size;refine xl rfl<|YX (k:=JE (List.replicate ps.length 0)) (kr.ext gc) O O λwS gv pu=>Qb<|Qe ?_;have hzS:=gv.size
 have pw:Step [] w8 pt:=(gb.trans hL).trans gc;have h7:Step [] w8 wS:=pw.then1 gv (by omega);have hM:Step [] w wS:=(gs.trans hh).trans h7;have hzWS:=hM.size;have pz:∀b∈[H,he,S],b∈[H]∨w8.heap.size≤b:=λb hb=>by
  simp only[List.mem_cons,List.not_mem_nil,or_false] at hb;rcases hb with rfl | rfl | rfl
  ·exact .inl (by simp)
  ·exact .inr (by omega)
  exact .inr (by omega)
 have gw:J5 [H,he,S] wS.heap vl ve vs ps ms:=((kj.ext hh).up pz).ext h7;have gx:Q3 wS.heap b6 243 [vl,ve,vs]:=(kn.ext hh).ext h7;have p0:Qt 3 w2.heap.size wS ve (evs aa):=Qm (Qm kk hh) h7;have p1:=QP ho;have p2:=Qk gu;have hN:SyN w1.heap.size H he S wS:=⟨by omega,by omega,by omega,by omega,by omega,by omega⟩
 have p3:zU w1.heap.size H he S ve wS (zg aa) (mput [] (JE (List.replicate ps.length 0)) (.int .i64 0)) [(vf,List.replicate ps.length 0)] (.slice (some ⟨S,0,none⟩) 1 1) Za Za wS:=by
  refine ⟨Step.refl _ _,gt.ext h7,pu,?_,λb hb=>by simp[ob] at hb;exact .inl hb,QO _ _ _ _,QO _ _ _ _,by simp[zg,hG],λp hp=>?_,λp hp b hb=>?_,Dj.nil' _,Dj.nil' _,Dj.nil' _⟩
  ·exact (((kq.ext hL).ext gc).step gv (by simp;omega)).own (n:=1) (sz:=1) O (by omega) (by omega)
  ·simp only[List.mem_singleton] at hp;subst hp;exact Zg (Qm gu h7) (by omega)
  simp only[List.mem_singleton] at hp;subst hp;have:=p2 b hb;refine ⟨by omega,?_,by simp[ob,Za],by simp[ob,Za]⟩;simp[ob];omega
 have p4:VY ps.length (mput [] (JE (List.replicate ps.length 0)) (.int .i64 0)) (zg aa).tup:=by
  have kh:VY ps.length [] []:=λu _ _=>O;have:=kh.add (u:=List.replicate ps.length 0) (by simp) (λx hx=>by have:=Nk hx;omega);simpa[zg,hG] using this
 have p5:VX aa (zg aa):=by
  refine ⟨λt ht=>?_,by simp[zg]⟩;simp only[zg,List.mem_singleton] at ht;subst ht;refine ⟨by simp,λi h1 h2=>?_⟩;have h3:=(hF aa[i] (Lh h2)).st0;have h4:aa[i].st≠0:=λe=>hz (ga.2 ⟨aa[i],Lh h2,e⟩);simp only[List.getElem_replicate];omega
 generalize hT:syL aa 4096 0 (zg aa)=T;have p6:∀s,T=some s→sync aa=some (⟨evs aa,s.tup.length,s.mk',s.ed⟩,s.tup):=λs hs=>by
  unfold sync;rw[if_neg (λe=>hz (ga.2 e)),hT,hs];rfl
 have p7:T=none→sync aa=none:=λhs=>by unfold sync;rw[if_neg (λe=>hz (ga.2 e)),hT,hs];rfl
 refine Qf<|Qc<|Qe ?_;have gy:b6∉[H,he,S]:=by simp;omega
 refine Qg<|Qy (α:=Nat×Sy×List (ByteArray×Value)×List TV×Value×Value×Value) [(3,4),(10,10),(12,16),(42,111)] (λz=>[(3,z.2.2.2.2.1),(10,.int .i64 z.1)])
  (λz w'=>zU w1.heap.size H he S ve wS z.2.1 z.2.2.1 z.2.2.2.1 z.2.2.2.2.1 z.2.2.2.2.2.1 z.2.2.2.2.2.2 w'∧VX aa z.2.1∧VY ps.length z.2.2.1 z.2.1.tup∧z.1≤z.2.1.tup.length∧z.2.1.mk'.length≤z.1∧z.2.1.ed.length≤z.1*1000∧syL aa (4096 - z.1) z.1 z.2.1=T)
  (λz=>4096 - z.1) (by rfl) (0,zg aa,_,_,_,Za,Za) ⟨O,O,U⟩ ⟨p3,p5,p4,Lk _,Lk _,Lk _,hT⟩ ?_
 rintro ⟨i,s,m,qs,vt,vk,vd⟩ g hO ⟨G,ge,kt,hi,p8,ku,gz⟩;simp only[] at G ge kt hi p8 ku gz;have hle:=ge.le;have p9:qs.length=s.tup.length:=by rw[←G.q];simp
 have kv:∀p∈qs,Vt aa p.2:=λp hp=>ge.v p.2 (by rw[←G.q];exact LL hp);have kw:∀p∈qs,p.2.length≤12:=λp hp=>by have:=(kv p hp).1;omega
 have g0:=QR (L:=[]) G.t (by omega) (by simp);refine Qf<|Qc<|Qb<|Qb<|x (Qq g0 O)<|x (QA O O)<|xe<|QE rfl (λqb=>?_) (λqb=>?_)
 ·have qc:T=some s:=by rw[←gz,QeA (by omega)]
  refine Qw<|Qc<|Qb<|x (Qq g0 O)<|x (Qa O)<|xl O<|QG G.A O O (by simp) rfl λw15 qf ky=>xe ?_;refine Qc ?_;have qj:=Qt.ints (L:=[]) G.k (by omega) (by simp);have qk:=Z4.eds (L:=[]) G.e (by omega) (by simp);refine x (Qs ky O O)<|Qb<|xl O<|Qr (us:=[ve,.int .i64 qs.length,vk,vd]) ky O O O O ⟨hY.one,O,qj.one,qk.one,U⟩ λg2 ql qm=>x Qh<|Qe ?_
  have h8:Step [H] hO g2:=qf.trans' ql;have qo:Step [] w g2:=(hM.then G.st (λb hb=>.inr (by simp at hb;omega))).then1 h8 hE;refine Qn ⟨[.agg #[ve,.int .i64 qs.length,vk,vd],vt,.int .i64 0],⟨⟨_,O,QB O (qm.at (L:=[]) (by simp)).cells⟩,rfl,rfl,U⟩,qo,_,vt,0,rfl,?_⟩;unfold Yb;rw[if_neg h6,p6 s qc];have e1:(qs.length:Int)=s.tup.length:=by rw[p9]
  have k0:Qt 3 w2.heap.size g2 ve (evs aa):=Qj (Qj p0 G.st (λb hb=>by have:=(Qk ho b hb).1;have:=p1 b hb;simp;omega)) h8 (λb hb=>by have:=(Qk ho b hb).1;simp;omega);have k1:=Qj G.k h8 (λb hb=>by have:=(Qk G.k b hb).1;simp;omega);have k2:=Qj G.e h8 (λb hb=>by have:=(Qk G.e b hb).1;simp;omega);have k3:=Qj G.t h8 (λb hb=>by have:=(Qk G.t b hb).1;simp;omega)
  refine ⟨O,⟨ve,vk,vd,by rw[e1],λL' hl=>⟨Qt.ints k0 (by show (evs aa).length≤_;omega) (λb hb=>by have:=hl b hb;omega),Qt.ints k1 (by show s.mk'.length≤_;omega) (λb hb=>by have:=hl b hb;omega),Z4.eds k2 (by show s.ed.length≤_;omega) (λb hb=>by have:=hl b hb;omega)⟩⟩,qs,G.q,λL' hl=>⟨?_,λp hp=>?_⟩⟩
  ·exact QR k3 (by omega) (λb hb qq=>by have:=(Qk G.t b hb).1;have:=hl b qq;omega)
  exact Qt.ints (Qj (G.el p hp) h8 (λb hb=>by have:=(Qk (G.el p hp) b hb).1;simp;omega)) (by have:=kw p hp;omega) (λb hb=>by have:=hl b hb;omega)
 have qr:i<s.tup.length:=by omega
 have V:i<qs.length:=by omega
 have kz:=Qlw G.q V;have h9:=kv (qs[i]'V) (Lh V);obtain ⟨t,g5⟩:∃t,(qs[i]'V).2=t:=⟨_,O⟩;rw[g5] at kz h9;refine Qi ?_;have q0:(UF aa i t (evs aa) (ZI aa i t s)).bind (syL aa (4096 - (i+1)) (i+1))=T:=by
  rw[←gz];obtain ⟨f,hf⟩:∃f,4096 - i=f+1:=⟨4096 - i - 1,by omega⟩;rw[hf,syL,if_pos qr,kz,show 4096 - (i+1)=f by omega]
 have q1:=gw.st G.st;have q2:J5 [] hO.heap vl ve vs ps ms:=q1.up (λ_ hb=>by cases hb);have q3:=gx.step G.st gy;have q4:QL [] hO.heap (qs[i]'V).1 t:=by rw[←g5];exact Qt.ints (G.el (qs[i]'V) (Lh V)) (by have:=kw (qs[i]'V) (Lh V);omega) (by simp)
 refine Qf<|Qg<|QW (α:=Value) [(48,59)] (λz=>[]) (λz w'=>zU w1.heap.size H he S ve wS (ZI aa i t s) m qs vt z vd w') (by rfl) ?_ ?_
 ·refine Qf<|QS (Step [] hO) [(0,true),(1,true),(2,true),(3,true),(4,true),(5,false)] mixed (by rfl) (by kernel_rfl) (Step.drew _ _) ?_;refine pq (λ_ hc=>Qs (q3.ext hc) O O)<|p (λ_=>Ql)<|p (λ_=>Ql)<|pig O Ku g0 O O V λa51 q5 =>
   pq (λ_ hc=>Qu (q5.ext hc) O)<|pk<|xf<|(QdC (q2.ext (Step.drew _ _)) (q4.ext (Step.drew _ _)) (by rw[h9.1,hG]) (λp hp=>(hX p hp).mri) hn).mono ?_
  rintro r17 w17 ⟨rfl,za⟩;have k4:=(Step.drew [] hO).trans za;refine ⟨k4,?_⟩;refine pe ?_;have g8:=G.ext k4;refine Q2 O (λhP=>?_) (λhP=>?_)
  rotate_left
  ·refine Qi<|⟨vk,U,?_⟩;rw[J] at hP;unfold ZI;rw[if_neg (by rw[hP];simp)];exact g8
  refine Qx<|x (Qa O)<|x (Qd g8.A O O)<|Qb<|xl O<|QC (us:=[[.int .i64 i]]) O O (by decide) (by simp) ⟨rfl,rfl,U⟩ λb57 w18 zv hb57 z0=>?_;have hQ:=g8.ext zv;refine xl O<|QU (news:=[.int .i64 i]) (L:=[]) hQ.k O O O (z0.at (by simp)) (by simp[Value.oneCell']) (by omega) hQ.st.size λk5 z2 z3 k6 z4=>?_;have k7:Qt 3 wS.heap.size z2 k5 (s.mk'++[(i:Int)]):=Qt.snoc z3
  refine x (Qa O)<|xl O<|QG (hQ.A.step k6 (QM hQ.k (by omega))) O O (by simp) (Qt.ints (L:=[]) k7 (by simp;omega) (by simp)).one λw20 z5 z9=>xe ?_;refine ⟨k5,U,?_⟩;rw[J] at hP;unfold ZI;rw[if_pos hP];exact hQ.setK hN k6 k7 z4 z5 z9
 rintro gg g3 w21 k8;have hsk2:VX aa (ZI aa i t s):=ze ge;have htup2:(ZI aa i t s).tup=s.tup:=by unfold ZI;split <;> rfl
 have hed2:(ZI aa i t s).ed=s.ed:=by unfold ZI;split <;> rfl
 have hmk2:(ZI aa i t s).mk'.length≤i+1:=by
  unfold ZI;split
  ·simp only[List.length_append,List.length_singleton];omega
  omega
 have k9:QL [H,he,S] wS.heap ve (evs aa):=by have:=gw.ev;rw[J] at this;exact this
 refine Qc<|x (Qa O)<|x (Qd (gx.step k8.st gy) O O)<|x (Qq k9 O)<|Qb<|xe<|Qg<|Qy (α:=Nat×Sy×List (ByteArray×Value)×List TV×Value×Value) [(3,4),(12,16),(63,111)] (λz=>[(3,z.2.2.2.2.1),(63,.int .i64 z.1)])
  (λz w'=>zU w1.heap.size H he S ve wS z.2.1 z.2.2.1 z.2.2.2.1 z.2.2.2.2.1 gg z.2.2.2.2.2 w'∧VX aa z.2.1∧VY ps.length z.2.2.1 z.2.1.tup∧z.1≤(evs aa).length∧z.2.1.mk'=(ZI aa i t s).mk'∧z.2.1.ed.length≤i*1000+z.1 ∧
   (∃h:i<z.2.2.2.1.length,(z.2.2.2.1[i]'h).2=t)∧(UF aa i t ((evs aa).drop z.1) z.2.1).bind (syL aa (4096 - (i+1)) (i+1))=T)
  (λz=>(evs aa).length - z.1) (by rfl) (0,ZI aa i t s,m,qs,vt,vd) ⟨O,O,U⟩
  ⟨k8,hsk2,by rw[htup2];exact kt,Lk _,O,by rw[hed2];simpa using ku,⟨V,g5⟩,q0⟩ ?_
 rintro ⟨j,E,m4,hg,gh,gi⟩ g4 hA ⟨I,hR,hw,hj,gj,ma,⟨hq,hB⟩,Y⟩;simp only[] at I hR hw hj gj ma Y hq hB;have mc:hg.length=E.tup.length:=by rw[←I.q];simp
 have hle4:=hR.le;refine Qc<|x (QA O O)<|xe<|Qf<|QE O (λh64=>?_) (λh64=>?_)
 ·rw[Lq (by omega),UF] at Y;refine Qw<|Qx<|Qb<|QN O O<|Qe<|⟨(i+1,E,m4,hg,gh,gg,gi),by simp only[];omega,⟨O,O,U⟩,I,hR,hw,by simp only[];omega,by simp only[];rw[gj];exact hmk2,by simp only[];omega,Y⟩
 have gk:j<(evs aa).length:=by omega
 rw[QY gk,UF] at Y;obtain ⟨v,mf⟩:∃v,(evs aa)[j]=v:=⟨_,O⟩;rw[mf] at Y;refine Qi<|Qf<|Qg<|Qc ?_;have hveI4:=k9.st I.st;refine xii hveI4 O O gk λa65 mg=>?_;rw[mf] at mg;refine x (Qu mg O)<|Qe ?_;have hM22:=(gw.st I.st).up (L':=[]) (λ_ hb=>by cases hb);have hB622:=gx.step I.st gy;have htA4:=QR (L:=[]) I.t (by omega) (by simp)
 have htI4:QL [] hA.heap (hg[i]'hq).1 t:=by rw[←hB];exact Qt.ints (I.el (hg[i]'hq) (Lh hq)) (by rw[hB,h9.1];omega) (by simp)
 refine Qf<|QS (Step [] hA) [(0,true),(1,true),(2,true),(3,true),(4,true),(5,true),(6,false),(7,true),(8,true),(9,true),(10,true),(11,true)] mixed (by rfl) (by kernel_rfl) (Step.drew _ _) ?_;refine pq (λ_ hc=>Qs (hB622.ext hc) O O)<|p (λ_=>Ql)<|p (λ_=>Ql)<|pig O Ku htA4 O O hq λa71 h71 =>
  pq (λ_ hc=>Qu (h71.ext hc) O)<|p (λ_=>Ql)<|pk<|xf<|(Qe8 (hM22.ext (Step.drew _ _)) (htI4.ext (Step.drew _ _)) (by rw[h9.1,hG]) (λp hp=>(hX p hp).ali) (λp hp=>(hX p hp).edi) hn _).mono ?_
 rintro r23 w23 ⟨hs23,hS⟩;rw[J] at hS;have g9:=(Step.drew [] hA).trans hs23;refine ⟨g9,?_⟩;have hU:=I.ext g9;have hz23:=g9.size;have hz22:=I.st.size;rcases QmB (Yg v aa t) with h5 | ⟨u,h5⟩
 ·rw[h5] at hS;subst hS;rw[QeC h5] at Y;refine p (λ_=>Ql)<|p (λ_=>Qp O O)<|p (λ_=>Qp O O)<|p (λ_=>Qh)<|p (λ_=>Qh)<|pe ?_;refine Qf<|Qc<|Qb<|x (Zm O)<|xe<|qD O ?_;refine Qw<|Qx<|QN O O<|Qb<|xe ?_;exact ⟨(j+1,E,m4,hg,gh,gi),by simp only[];omega,⟨O,O,U⟩,hU,hR,hw,gk,gj,by simp only[];omega,⟨hq,hB⟩,Y⟩
 rw[h5] at hS;obtain ⟨vx,rfl,ka⟩:=hS;have mh:=XH hF h9 h5;have mj:u.length=ps.length:=by rw[mh.1,hG]
 have kb:=mh.bd pd;have kc:∀x∈u,0≤x:=λx hx=>(kb x hx).1;refine p (λ_=>Ql)<|p (λ_=>Qp O O)<|p (λ_=>Qp O O)<|p (λ_=>Qh)<|p (λ_=>Qh)<|pe ?_;refine Qf<|Qc<|Qb<|x (Zm O)<|xe<|ZX O ?_;refine Qi ?_;have gl:=Qt.ints (L:=[]) ka (by omega) (by simp);have mo:=Qk ka
 refine QW (α:=Unit) [(15,16),(79,85)] (λz=>[(15,.int .i64 (if u∈E.tup then (E.tup.idxOf u:Int) else 0)),(16,.bool (decide (u∈E.tup)))]) (λz w'=>Step [] w23 w') (by rfl) ?_ ?_
 ·refine Qx<|Qb<|Qb<|xl O<|xf<|(yO gl (gp.ext (hM.then hU.st (λb hb=>.inr (by simp at hb;omega)))) kb (by omega)).mono ?_;rintro r24 w24 ⟨rfl,gm⟩;by_cases hu:u∈E.tup
  ·refine x (zq (k:=JE u) ((hU.ext gm).M) O O (by rw[hw u mj kc,if_pos hu]))<|Qb<|x (Qp rfl rfl)<|x (Qp rfl rfl)<|x Qh<|Qe ?_;exact ⟨(),⟨congrArg (Value.int .i64) (if_pos hu).symm,congrArg Value.bool (decide_eq_true hu).symm,U⟩,gm⟩
  refine x (Qdw (k:=JE u) ((hU.ext gm).M) O O (by rw[hw u mj kc,if_neg hu]))<|Qb<|x (Qp rfl rfl)<|x (Qp rfl rfl)<|x Qh<|Qe ?_;exact ⟨(),⟨congrArg (Value.int .i64) (if_neg hu).symm,congrArg Value.bool (decide_eq_false hu).symm,U⟩,gm⟩
 rintro _ g6 w25 gn;have hC:=hU.ext gn;have hx25:=Qm ka gn;have hxA25:=gl.ext gn;have hz25:=gn.size;have hadd:∀b∈ob vx,b∉ob gh∧b∉ob gg∧b∉ob gi:=λb hb=>by
  have h1:=(mo b hb).1;have h1':hA.heap.size≤b:=h1;exact ⟨λhV=>by have:=QP I.t b hV;omega,λhV=>by have:=QP I.k b hV;omega,λhV=>by have:=QP I.e b hV;omega⟩
 refine QW (α:=List (ByteArray×Value)×List TV×Value) [(3,4),(15,15),(86,101)] (λz=>[(3,z.2.2),(15,.int .i64 ((Yj E u).tup.idxOf u:Int))])
  (λz w'=>zU w1.heap.size H he S ve wS (Yj E u) z.1 z.2.1 z.2.2 gg gi w'∧(u∈E.tup∨E.tup.length≠4096)∧VY ps.length z.1 (Yj E u).tup∧∃h:i<z.2.1.length,(z.2.1[i]'h).2=t) (by rfl) ?_ ?_
 ·refine Qc<|Qb<|x (Zm O)<|xe<|Q2 O (λke=>?_) (λke=>?_)
  rotate_left
  ·have hu:u∈E.tup:=by simpa using ke
   refine Qi ?_;have e1:Yj E u=E:=by unfold Yj;rw[if_pos hu]
   have e2:(if u∈E.tup then (E.tup.idxOf u:Int) else 0)=((Yj E u).tup.idxOf u:Int):=by rw[e1,if_pos hu]
   refine ⟨(m4,hg,gh),⟨O,congrArg (Value.int .i64) e2,U⟩,?_,.inl hu,?_,hq,hB⟩
   ·rw[e1];exact hC
   rw[e1];exact hw
  have hu:u∉E.tup:=by simpa using ke
  have mq:=QR (L:=[]) hC.t (by omega) (by simp);refine Qf<|Qc<|Qb<|x (Qq mq O)<|x (Q8 O O)<|xe<|Q7 O (λh90=>?_) (λh90=>?_)
  ·refine Qc<|x (QF U)<|xl O<|Qr (us:=[nS,.int .i64 0,nS,nS]) hC.A O O O O ⟨O,O,O,O,U⟩ λw26 go hB26=>x Qh<|Qe<|Qn ⟨[zA,Za,.int .i64 3],⟨⟨_,O,QB O (hB26.at (L:=[]) (by simp)).cells⟩,rfl,rfl,U⟩,(hM.then hC.st (λb hb=>.inr (by simp at hb;omega))).then1 go hE,zA,Za,3,O,?_⟩;unfold Yb;rw[QeE h5 hu (by omega)] at Y;rw[if_neg h6,p7 Y.symm];exact ⟨rfl,O,O⟩
  have hl4:E.tup.length≠4096:=by omega
  refine Qi<|Qc<|Qb<|x (Qq mq O)<|Qe<|Qc<|Qb<|Qb<|xl O<|xf<|(yO hxA25 (gp.ext (hM.then hC.st (λb hb=>.inr (by simp at hb;omega)))) kb (by omega)).mono ?_;rintro r26 w26 ⟨rfl,go⟩;have mu:=hC.ext go;refine Qb<|xl O<|Xn (k:=JE u) mu.M O O λw27 mv hm27=>xe ?_;have hI8:=mu.setM hN mv hm27
  have hx27:=Qj (Qm hx25 go) mv (λb hb=>by have:=(mo b hb).1;have h1':hA.heap.size≤b:=this;simp;omega);refine Qx<|Qb<|Qb<|xl O<|QC (us:=[[vx]]) O O (by decide) (by simp) ⟨gl.cells,rfl,U⟩ λb100 w28 mw hb100 hB100=>?_;have kf:=hI8.ext mw
  refine xl O<|QU (news:=[vx]) (L:=[]) kf.t O O O (hB100.at (by simp)) (λy hy=>by simp only[List.mem_singleton] at hy;subst hy;exact gl.one) (by omega) (by have:=kf.st.size;have:=hN.nS;omega) λmy w29 ho29 hs29 hn29=>Qe ?_;have hk29:qZ 37 w1.heap.size w29 my (hg++[(vx,u)]):=qZ.snoc ho29
  have hIA:=kf.setT hN (u:=u) (Zg (Qm hx27 mw) (by show wS.heap.size≤hA.heap.size;omega)) hadd hs29 hk29 hn29;have e1:Yj E u=⟨E.tup++[u],E.mk',E.ed⟩:=by unfold Yj;rw[if_neg hu]
  have e2:(hg.length:Int)=((Yj E u).tup.idxOf u:Int):=by
   rw[e1];simp only[];rw[MR,if_neg hu,←mc];simp
  refine ⟨(mput m4 (JE u) (.int .i64 (hg.length:Int)),hg++[(vx,u)],my),⟨O,congrArg (Value.int .i64) e2,U⟩,?_,.inr hl4,?_,by simp;omega,?_⟩
  ·rw[e1];exact hIA
  ·rw[e1];simp only[];rw[mc];exact hw.add hu kc
  simp only[];rw[L2 hq];exact hB
 rintro ⟨m5,qs5,vt5⟩ g7 w30 ⟨kg,hlim,mz,m0,m1⟩;simp only[] at kg mz m0 m1;have hed5:(Yj E u).ed.length≤i*1000+j:=by rw[QeG];exact ma
 have m2:=QhB (aa:=aa) (i:=i) (s:=E) h5 hlim;have hsk5:=QeD hF hR h9 m2;rw[m2] at Y;refine Qx<|x (Qa O)<|x (Qd kg.A O O)<|Qb<|Qb<|Qb<|x (QF ⟨O,O,O,U⟩)<|xl O<|QC (us:=[Qz ((i:Int),v,((Yj E u).tup.idxOf u:Int))]) O O (by decide) (by exact (by decide:1*3≤1000000)) ⟨O,O,U⟩ λb108 w31 hs31 hb108 hB108=>?_;have hW:=kg.ext hs31
 refine xl O<|QU (news:=Qz ((i:Int),v,((Yj E u).tup.idxOf u:Int))) (L:=[]) hW.e O O O (hB108.at (by simp)) (λy hy=>by simp only[Qz,List.mem_cons,List.not_mem_nil,or_false] at hy;rcases hy with rfl | rfl | rfl <;> rfl) (by omega) hW.st.size λm3 w32 ho32 m6 hn32=>?_
 have m7:Z4 144 wS.heap.size w32 m3 ((Yj E u).ed++[((i:Int),v,((Yj E u).tup.idxOf u:Int))]):=Z4.snoc ho32;refine x (Qa O)<|xl O<|QG (hW.A.step m6 (QM hW.e (by omega))) O O (by simp) (Z4.eds (L:=[]) m7 (by simp;omega) (by simp)).one λw33 hs33 hB33=>xe ?_;have hI12:=hW.setE hN m6 m7 hn32 hs33 hB33;refine Qx<|QN O O<|Qb<|xe ?_
 refine ⟨(j+1,_,m5,qs5,vt5,m3),by simp only[];omega,⟨O,O,U⟩,hI12,hsk5,mz,gk,?_,?_,⟨m0,m1⟩,Y⟩
 ·simp only[];rw[QeF];exact gj
 simp only[List.length_append,List.length_singleton];omega
structure KQ where
 en:LI
 dis:LI
 mk':Bool
 ps:Bool
def QkR:KQ:=⟨[],[],false,false⟩
def QjH (l:LI) (v:Int):LI:=mrg (· || ·) l [v]
def QmI (p s:QV) (x y:Int) (c:KQ) (v:Int):KQ :=
 match eget p.ed x v with
 | none=>c
 | some _=>match eget s.ed y v with
  | some _=>⟨QjH c.en v,c.dis,c.mk',c.ps⟩
  | none=>⟨c.en,QjH c.dis v,c.mk',c.ps⟩
def QmJ (p s:QV) (x y:Int) (c:KQ):KQ:=⟨c.en,c.dis,decide (y∈s.mr),c.ps || decide (x∈p.mr)⟩
def QmH (p s:QV) (x y:Int) (c:KQ):KQ:=s.al.foldl (QmI p s x y) (QmJ p s x y c)
def px (q:LI):Int:=q.getD 0 0
def py (q:LI):Int:=q.getD 1 0
def QmG (p s:QV) (l:List KQ) (q:LI):List KQ:=l.set (py q).toNat (QmH p s (px q) (py q) (l.getD (py q).toNat QkR))
def ctls (p s:QV) (pairs:List (LI)):List KQ:=pairs.foldl (QmG p s) (List.replicate s.st.toNat QkR)
def occs (n:Nat) (pairs:List (LI)):List Bool:=pairs.foldl (λo q=>o.set (py q).toNat true) (List.replicate n false)
def meets (a b:LI):LI:=mrg (· && ·) a b
def Ql1 (a b:KQ):Bool:=decide ((meets a.en b.dis).length+(meets b.en a.dis).length=0) && (!a.ps || !b.ps || a.mk' == b.mk')
def cget (l:LI) (i:Nat):Int:=l.getD i 0
def Qfz (cl:LI) (x y:Nat):LI:=cl.map λc=>if c=cget cl y then cget cl x else c
def lget (l:List KQ) (i:Nat):KQ:=l.getD i QkR
def to0 (s:QV) (x:Nat) (v:Int):Int:=match eget s.ed x v with | some u=>u | none=>0
def clE (s:QV) (x y:Nat) (z:LI×Bool) (v:Int):LI×Bool :=
 if cget z.1 (to0 s x v).toNat≠cget z.1 (to0 s y v).toNat then (Qfz z.1 (to0 s x v).toNat (to0 s y v).toNat,true) else z
def clY (s:QV) (l:List KQ) (x:Nat) (z:LI×Bool) (y:Nat):LI×Bool :=
 if cget z.1 x<0∨cget z.1 x≠cget z.1 y then z else (meets (lget l x).en (lget l y).en).foldl (clE s x y) z
def clX (s:QV) (l:List KQ) (n:Nat) (z:LI×Bool) (x:Nat):LI×Bool:=(List.range' (x+1) (n - (x+1))).foldl (clY s l x) z
def pass (s:QV) (l:List KQ) (cl:LI):LI×Bool:=(List.range' 0 cl.length).foldl (clX s l cl.length) (cl,false)
def QgF (s:QV) (l:List KQ):Nat→LI→LI
 | 0,cl=>cl
 | f+1,cl=>if (pass s l cl).2=true then QgF s l f (pass s l cl).1 else (pass s l cl).1
def QiW (l:List KQ) (cl:LI):Bool :=
 (List.range' 0 cl.length).all λx=>(List.range' 0 x).all λy=>!(decide (0≤cget cl x∧cget cl x=cget cl y) && !Ql1 (lget l x) (lget l y))
def Qmq (s:QV) (l:List KQ) (cl:LI) (x y:Nat):LI :=
 if cget cl x<0∨cget cl y<0∨cget cl x=cget cl y then cl else
  let d:=QgF s l (cl.length*cl.length+1) (Qfz cl x y)
  if QiW l d=true then d else cl
def Qmp (s:QV) (l:List KQ) (n:Nat) (cl:LI) (x:Nat):LI:=(List.range' (x+1) (n - (x+1))).foldl (λc y=>Qmq s l c x y) cl
def QmM (o:List Bool):LI:=(List.range' 0 o.length).map λi=>if o.getD i false=true then (i:Int) else -1
def QmL (s:QV) (l:List KQ) (cl:LI):LI:=(List.range' 0 cl.length).foldl (Qmp s l cl.length) cl
def QmD (z:LI×LI) (c:Int):LI×LI :=
 if c∈z.1 then (z.1,z.2++[(z.1.idxOf c:Int) - 1]) else (z.1++[c],z.2++[(z.1.length:Int) - 1])
def nums (cl:LI):LI:=(cl.foldl QmD ([-1],[])).2
def Ql6 (p s:QV) (pairs:List (LI)):LI:=nums (QmL s (ctls p s pairs) (QmM (occs s.st.toNat pairs)))
theorem JZ {α:Type}(g:α→LV) (sz:Nat) (E:∀x,(g x).length=sz):∀(l:List α) (i j:Nat) (h:i<l.length) (y:α) (u:Value),j<sz→g y=(g l[i]).set j u →
  (l.flatMap g).set (i*sz+j) u=(l.set i y).flatMap g
 | x::l,0,j,h,y,u,G,hy=>by
  simp only[List.getElem_cons_zero] at hy;simp only[Nat.zero_mul,Nat.zero_add,List.flatMap_cons,List.set_cons_zero];rw[List.set_append_left _ _ (by rw[E];exact G),hy]
 | x::l,i+1,j,h,y,u,G,hy=>by
  simp only[List.getElem_cons_succ] at hy;simp only[List.flatMap_cons,List.set_cons_succ];rw[List.set_append_right _ _ (by rw[E,MF];omega),E,show (i+1)*sz+j - sz=i*sz+j by rw[MF];omega,JZ g sz E l i j (by simpa using h) y u G hy]
end Go.Proofs.YtdffckgdcegpaaaGreatDoor
namespace Go.Lg
section
variable {P:Program} {n:Nat} {f:Fr} {w:World} {all:List Oper} {C:World→Prop} {K:Fr→World→Prop}
def qe (all:Array Oper) (i j:Nat) (E G:List (Nat×Bool)):List (Nat×Bool)→Array Bool→Bool
 | [],ls=>Region.ready .any all ls == [i,j] && Y5 all E (ls.setIfInBounds i true) && Y5 all G (ls.setIfInBounds j true)
 | (k,q)::pl,ls=>q && (Region.ready .any all ls).contains k && Region.free .any all ls k && qe all i j E G pl (ls.setIfInBounds k true)
def Qf9 (all:List Oper) (pl:List (Nat×Bool)) (i j:Nat) (E G:List (Nat×Bool)):Bool :=
 Region.noSelect all.toArray && pl.length+1+E.length == all.length && E.length == G.length && qe all.toArray i j E G pl (Array.replicate all.length false)
def Fk (P:Program) (all:List Oper) (C:World→Prop) (K:Fr→World→Prop) (i j:Nat) (G H:List (Nat×Bool)) (f:Fr) (w:World):Prop :=
 (Yc all f (Q6 all i)=true∧XO P (Q6 all i) f w λE w'=>C w'∧XP P all C K G E w') ∧
 (Yc all f (Q6 all j)=true∧XO P (Q6 all j) f w λE w'=>C w'∧XP P all C K H E w')
theorem KH {i j:Nat}{G V:List (Nat×Bool)}(hl:G.length=V.length) (H:Region.noSelect all.toArray=true):∀(pl:List (Nat×Bool)) (ls:Array Bool) (f:Fr) (w:World),ls.size=all.length→C w→qe all.toArray i j G V pl ls=true →
  XP P all C (Fk P all C K i j G V) pl f w→XA P all C K (pl.length+(1+G.length)) ls f w
 | [],ls,f,w,ha,I,hp,h=>by
  simp only[qe,Bool.and_eq_true,beq_iff_eq] at hp;obtain ⟨⟨J,h1⟩,h2⟩:=hp;simp only[XP] at h;rw[List.length_nil,LP,M2];refine Jy (λh0=>(by rw[h0] at J;cases J)) ?_;rw[J];intro k hk o E;have S:(ls.setIfInBounds k true).size=all.length:=by simpa using ha
  simp only[List.mem_cons,List.not_mem_nil,or_false] at hk;rcases hk with rfl | rfl
  ·have:=h.1;rw[Zp E] at this;rw[this.1,cond_true];exact this.2.mono λv w' hx=>⟨.inr (.inr hx.1),ZB H G _ _ _ S (.inl hx.1) h1 hx.2⟩
  have:=h.2;rw[Zp E] at this;rw[this.1,cond_true,hl];exact this.2.mono λv w' hx=>⟨.inr (.inr hx.1),ZB H V _ _ _ S (.inl hx.1) h2 hx.2⟩
 | (T,q)::pl,ls,f,w,ha,I,hp,h=>by
  simp only[qe,Bool.and_eq_true] at hp;obtain ⟨⟨⟨rfl,J⟩,hf⟩,hc⟩:=hp;simp only[XP] at h;have hb:T∈Region.ready .any all.toArray ls:=by simpa using J
  have e:(List.length ((T,true)::pl))+(1+G.length)=(pl.length+(1+G.length))+1:=by simp;omega
  rw[e];cases E:all[T]? with
  | none =>
   exfalso;obtain ⟨_,o,hn,_⟩:=mem_ready.1 hb;simp[E] at hn
  | some o =>
   rw[Zp E] at h;have he:∀(j:Nat) (o:Oper) cs b,all[j]?=some o→o.op≠.select cs b:=λj o cs b hj=>Region.noSelect_spec H j o cs b (by simpa using hj);have hh:=λj oj hj=>Region.free_spec (ops:=all.toArray) (md:=.any) (i:=T) (oi:=o) (listed:=ls) (by simpa using E) hf j oj (by simpa using hj);have S:(ls.setIfInBounds T true).size=all.length:=by simpa using ha
   cases Y:Yc all f o with
   | false =>
    rw[Y] at h;exact Y2 (v:=undef) (D:=λw=>qM o=true→C w) E (λ_ h=>h) he _ ls f w (λ_=>I) hh hb (.inr ⟨Y,O⟩) (KH hl H pl _ _ _ S I hc h)
   | true =>
    rw[Y] at h;simp only[cond_true] at h;obtain ⟨v,hv,hx⟩:=h;exact Y2 (v:=v) (D:=λw=>qM o=true→C w) E (λ_ h=>h) he _ ls f w (λ_=>I) hh hb (.inl ⟨Y,hv⟩) (KH hl H pl _ _ _ S I hc hx)
theorem Qjf {Q:Exit→Fr→World→Prop}{id:Nat}(C:World→Prop) (pl:List (Nat×Bool)) (i j:Nat) (E G:List (Nat×Bool)) (hm:P.follows .mixedOrders=true) (H:XR n all=true) (hp:Qf9 all pl i j E G=true)
  (I:C { w with drawn:=w.drawn+1 }) (h:XP P all C (Fk P all C (λf w=>Q .normal f w) i j E G) pl f { w with drawn:=w.drawn+1 }):W P n (.region id all.toArray true) Q f w:=by
 simp only[Qf9,Bool.and_eq_true,beq_iff_eq] at hp;obtain ⟨⟨⟨J,hl⟩,S⟩,hp⟩:=hp;refine KI C hm H ?_;have h1:=KH S J pl _ _ _ (by simp) I hp h;rw[←Nat.add_assoc,hl] at h1;exact h1
end
end Go.Lg
namespace Go.Proofs.YtdffckgdcegpaaaGreatDoor
open Go.Lg
end Go.Proofs.YtdffckgdcegpaaaGreatDoor
namespace Go.Lg
open Go.Proofs.YtdffckgdcegpaaaGreatDoor
theorem Zk {l:LI}{i:Nat}(h:i<l.length):l[i]=cget l i:=by simp[cget,List.getD,h]
section
variable {P:Program} {ops l:List Oper} {K:Fr→World→Prop} {f:Fr} {w:World} {d:Option Nat} {ty:Nat} {ps:String} {af:Array Edge} {gd:Option (Nat×Bool)} {C:World→Prop} {pl:List (Nat×Bool)} {i0:Nat}
theorem xic {x y:Operand}{t e bys:Nat}{z:Value}[Sl P t e 1 bys z] {L:LN}{li:LI}{v:Value}{k:IntKind}{i:Nat}
  (h:QL L w.heap v li) (E:ev f x=v) (hy:ev f y=.int k i) (hi:i<li.length)
  (G:∀a,At L w.heap a [.int .i64 (cget li i)]→XL P ops K l (QX f d (.pointer (some a))) w) (H:Yc ops f ⟨d,.indexAddr t x y,ty,ps,af,gd⟩=true:=by rfl) :
  XL P ops K (⟨d,.indexAddr t x y,ty,ps,af,gd⟩::l) f w :=
 xii h E hy hi (λa ha=>G a (by rw[←Zk hi];exact ha)) H
theorem pic {x y:Operand}{t e bys:Nat}{z:Value}[Sl P t e 1 bys z] {L:LN}{li:LI}{v:Value}{H:Array Obj}{k:IntKind}{i:Nat}
  (E:Q6 ops i0=⟨d,.indexAddr t x y,ty,ps,af,gd⟩) (h:QL L H v li) (G:ev f x=v) (hy:ev f y=.int k i) (hi:i<li.length)
  (I:∀a,At L H a [.int .i64 (cget li i)]→XP P ops C K pl (QX f d (.pointer (some a))) w) (J:Yc ops f (Q6 ops i0)=true:=by rfl):XP P ops C K ((i0,true)::pl) f w :=
 pii E h G hy hi (λa ha=>I a (by rw[←Zk hi];exact ha)) J
end
theorem QeV {a n:Nat}(h:a<n):List.range' a (n - a)=a::List.range' (a+1) (n - (a+1)):=by
 rw[show n - a=(n - (a+1))+1 by omega,Nb]
theorem QhR {a n:Nat}(h:n≤a):List.range' a (n - a)=[]:=by rw[show n - a=0 by omega];rfl
end Go.Lg
namespace Go.Proofs.YtdffckgdcegpaaaGreatDoor
open Go.Lg
end Go.Proofs.YtdffckgdcegpaaaGreatDoor
namespace Go.Lg
section
variable {P:Program} {f:Fr} {w:World} {d:Option Nat} {ty:Nat} {ps:String} {af:Array Edge} {gd:Option (Nat×Bool)} {κ:Type} [DecidableEq κ]
end
end Go.Lg
namespace Go.Proofs.YtdffckgdcegpaaaGreatDoor
open Go.Lg
theorem QbX {aa:List QV}{i:Nat}{t:LI}(G:∀a∈aa,Zr a) (H:Vt aa t):∀(vs:LI) (s E:Sy),VX aa s→UF aa i t vs s=some E→VX aa E
 | [],s,E,h,e=>by cases e;exact h
 | v::vs,s,E,h,e=>by
  rw[UF] at e;obtain ⟨I,h1,h2⟩:=MN.1 e;exact QbX G H vs I E (QeD G h H h1) h2
theorem Qez {aa:List QV}(G:∀a∈aa,Zr a):∀(f i:Nat) (s E:Sy),VX aa s→syL aa f i s=some E→VX aa E
 | 0,i,s,E,h,e=>by cases e;exact h
 | f+1,i,s,E,h,e=>by
  rw[syL] at e;split at e
  ·rename_i hi;obtain ⟨H,h1,h2⟩:=MN.1 e;have I:Vt aa (zd s i):=h.v _ (by unfold zd;simp[List.getD,hi]);exact Qez G f _ H E (QbX G I _ _ _ (ze h) h1) h2
  cases e;exact h
theorem QjK {aa:List QV}(G:∀a∈aa,Zr a) (hz:¬∃a∈aa,a.st=0):VX aa (zg aa):=by
 refine ⟨λt E=>?_,by simp[zg]⟩;simp only[zg,List.mem_singleton] at E;subst E;refine ⟨by simp,λi h1 h2=>?_⟩;have h3:=(G aa[i] (Lh h2)).st0;have H:aa[i].st≠0:=λe=>hz ⟨aa[i],Lh h2,e⟩;simp only[List.getElem_replicate];omega
theorem Un {aa:List QV}(E:∀a∈aa,Zr a) {z:QV×List (LI)}(h:sync aa=some z):(∀t∈z.2,Vt aa t)∧z.2.length≤4096:=by
 unfold sync at h;split at h
 ·cases h;simp
 rename_i hz;obtain ⟨s,h1,rfl⟩:=M0.1 h;have:=Qez E _ _ _ _ (QjK E hz) h1;exact ⟨this.v,this.le⟩
def opC (p s:QV):Int:=if Jt p≠0 then Jt p else if Jt s≠0 then Jt s else if mrg (λp q=>p && !q) s.al p.al=[] then 0 else 9
def opE (p s:QV):Int:=if opC p s≠0 then opC p s else match sync [p,s] with | none=>3 | some _=>0
def opQ (p s:QV):List (LI):=match sync [p,s] with | none=>[] | some z=>z.2
def QlL (l:LI):Int:=(l.drop 1).foldl max (cget l 0)
theorem Jj {N b:Nat}{w w':World}{v:Value}{a:QV}(h:Xw N w.heap v a) (hb:b<N) (E:Step [b] w w'):Xw N w'.heap v a:=by
 obtain ⟨va,vm,ve,h1,h2⟩:=h;refine ⟨va,vm,ve,h1,λL G=>?_⟩;exact ((h2 (b::L) (λc hc=>by rcases Lc.1 hc with rfl | hc;exact hb;exact G c hc)).st (E.mono (by simp))).up (λc hc=>.inl (Ll _ hc))
theorem Qg1 {N b:Nat}{w w':World}{v:Value}{l:List (LI)}(h:q6 N w.heap v l) (hb:b<N) (E:Step [b] w w'):q6 N w'.heap v l:=by
 obtain ⟨ps,h1,h2⟩:=h;refine ⟨ps,h1,λL G=>?_⟩;exact ((h2 (b::L) (λc hc=>by rcases Lc.1 hc with rfl | hc;exact hb;exact G c hc)).st (E.mono (by simp))).up (λc hc=>.inl (Ll _ hc))
theorem Xv {N:Nat}{H:Array Obj}{v:Value}{a:QV}(h:Xw N H v a):∃us,v=.agg us.toArray∧us.length=4∧ZP us:=by
 obtain ⟨va,vm,ve,h1,h2⟩:=h;have:=h2 [] (by simp);exact ⟨[va,.int .i64 a.st,vm,ve],h1,O,this.al.one,O,this.mr.one,this.ed.one,U⟩
open Go.Proofs.Tryz
theorem jj {L:LN}{w:World}{va vm ve:Value}{a:QV}(h:Zu L w.heap va vm ve a) :
  QJ prog 123 [.agg #[va,.int .i64 a.st,vm,ve]] w λr w'=>Step [] w w'∧∃v,r=.tuple #[v,.int .i64 (Jt a)]∧(Jt a≠0→v=zA)∧(Jt a=0→Xw w.heap.size w'.heap v (JG a)):=by
 refine QJ.of_W func123 O ntmps123 results123 (by simp) ?_;refine Qc<|xl O<|QT (us:=[va,.int .i64 a.st,vm,ve]) O λb1 w1 T ho V=>xl O<|Qv (us:=[nS,.int .i64 0,nS,nS]) O λb2 w2 G hp H=>Qe ?_;have I:=T.trans G;refine Qf<|Qc<|x (Qs (V.ext G) O O)<|xl O<|xf<|(Xt (h.ext I)).mono ?_;rintro r3 w3 ⟨rfl,E⟩;refine Qe ?_;have hq:=T.size;refine Qc<|Qb<|x (Q9 O O)<|xe ?_
 refine Q7 rfl (λJ=>?_) (λJ=>?_)
 ·refine Qc<|x (QF U)<|Qb<|xl O<|Qr (us:=[nS,.int .i64 0,nS,nS]) (H.ext E) O O O O ⟨O,O,O,O,U⟩ λw4 hf hg=>Qe ?_;exact Qn ⟨[zA,.int .i64 (Jt a)],⟨⟨_,O,QB O (hg.at (L:=[]) (by simp)).cells⟩,rfl,U⟩,(I.trans E).then1 hf (by omega),zA,rfl,λ_=>rfl,λe=>absurd e J⟩
 have hc:Jt a=0:=Lu.1 J;have hh:=(ZG a).1 hc;have hr:=H.lt;have S:=I.trans E;refine Qi<|Qc<|x (Qs ((V.ext G).ext E) O O)<|xl O<|xf<|(Ju (h.ext S) hh).mono ?_;rintro v w5 ⟨Y,hF⟩;obtain ⟨us,ha,hb,hj⟩:=Xv hF;have hs:=E.size;have hl:=S.size;refine xl rfl<|Qr (us:=us) ((H.ext E).ext Y) O ha hb O hj λw6 he hn =>
  Qe<|Qn ⟨[.agg us.toArray,.int .i64 0],⟨⟨_,O,QB hb (hn.at (L:=[]) (by simp)).cells⟩,rfl,U⟩,(S.trans Y).then1 he (by omega),v,by rw[hc,ha];rfl,λe=>absurd hc e,λ_=>?_⟩
 exact (Jj hF (by omega) he).mono hl
def gget:List ((Int×Int)×Int)→Int×Int→Option Int
 | [],_=>none
 | (k',v)::m,k=>if k'=k then some v else gget m k
def gput:List ((Int×Int)×Int)→Int×Int→Int→List ((Int×Int)×Int)
 | [],k,v=>[(k,v)]
 | (k',v')::m,k,v=>if k'=k then (k',v)::m else (k',v')::gput m k v
def Qmw (s:QV) (cls:LI) (x:Nat) (m:List ((Int×Int)×Int)) (v:Int):List ((Int×Int)×Int):=gput m (cget cls x,v) (cget cls (to0 s x v).toNat)
def Qmt (s:QV) (l:List KQ) (cls:LI) (z:LI×List ((Int×Int)×Int)) (x:Nat):LI×List ((Int×Int)×Int) :=
 if cget cls x<0 then z else (if ((lget l x).mk' && (lget l x).ps)=true then QjH z.1 (cget cls x) else z.1,(lget l x).en.foldl (Qmw s cls x) z.2)
def QlB (s:QV) (l:List KQ) (cls:LI):LI×List ((Int×Int)×Int):=(List.range' 0 cls.length).foldl (Qmt s l cls) ([],[])
def Qmv (m:List ((Int×Int)×Int)) (c:Nat) (v:Int):Option Ed:=(gget m ((c:Int),v)).map λt=>((c:Int),v,t)
def Qmu (m:List ((Int×Int)×Int)) (al:LI) (n:Nat):List Ed:=(List.range' 0 n).flatMap λc=>al.filterMap (Qmv m c)
def Qmx (s:QV) (l:List KQ) (cls:LI):QV:=⟨s.al,QlL cls+1,(QlB s l cls).1,Qmu (QlB s l cls).2 s.al (QlL cls+1).toNat⟩
def red (p s:QV):QV:=Qmx s (ctls p s (opQ p s)) (Ql6 p s (opQ p s))
def rdE (p s:QV):Int:=if opE p s≠0 then opE p s else if opQ p s=[] then 0 else Jt (red p s)
theorem Jf {l:LI}{i:Nat}(h:i<l.length):cget l i∈l:=by rw[←Zk h];exact Lh h
theorem Zb {α:Type}(a:α) {Q:Prop}(h:∀b,a=b→Q):Q:=h a O
theorem zX {N:Nat}{H:Array Obj}{a:QV}{I J S n1 E G:Nat}(h1:Q3 H I 3 (a.al.map (.int .i64))) (h2:Q3 H J 3 (a.mr.map (.int .i64))) (h3:Q3 H S 144 (a.ed.flatMap Qz)) (g1:N≤I) (g2:N≤J) (g3:N≤S)
  (V:a.al.length=n1) (l2:a.mr.length=E) (Y:a.ed.length=G) (m1:n1≤1000) (m2:E≤1000) (m3:G≤1000) :
  Xw N H (.agg #[.slice (some ⟨I,0,none⟩) n1 n1,.int .i64 a.st,.slice (some ⟨J,0,none⟩) E E,.slice (some ⟨S,0,none⟩) G G]) a:=by
 subst V l2 Y;refine ⟨_,_,_,O,λL T=>⟨?_,?_,?_⟩⟩
 ·exact h1.arr (λhb=>by have:=T _ hb;omega) (by simp) (by omega) (Lr _)
 ·exact h2.arr (λhb=>by have:=T _ hb;omega) (by simp) (by omega) (Lr _)
 exact h3.arr (λhb=>by have:=T _ hb;omega) (by rw[Y0 _ 3 XQ]) (by omega) (Lr _)
end Go.Proofs.YtdffckgdcegpaaaGreatDoor
namespace Go.Lg
section
variable {P:Program} {n:Nat} {f:Fr} {w:World} {d:Option Nat} {ty:Nat} {ps:String} {af:Array Edge} {gd:Option (Nat×Bool)}
class Ay (P:Program) (t:Nat) (m e sz:outParam Nat):Prop where
 u:P.underlying t=some (.array m e)
 i:(P.info? e).map (·.size)=some sz
theorem ZF {x y:Operand}{t m e sz:Nat}[h:Ay P t m e sz] {b o:Nat}{k:IntKind}{i:Nat}(hx:ev f x=.pointer (some ⟨b,o,none⟩)) (hy:ev f y=.int k i) (h1:i<m) :
  (execOp (ev f) ⟨d,.indexAddr t x y,ty,ps,af,gd⟩).run P w=.ok (.value (.pointer (some ⟨b,o+i*sz,none⟩))) w:=by
 have hi:=h.i;cases E:P.info? e with
 | none=>simp[E] at hi
 | some ii =>
  simp[E] at hi;simp[execOp,hx,hy,Instr.indexAt,asIntOf,run_underlying h.u,Instr.sureAddr,sizeOf,typeInfo,E,hi,JU];intro h2;omega
theorem Qja {a b:Nat}(ha:a<256):inK .u8 ((a &&& b:Nat):Int):=by
 have:a &&& b≤a:=Nat.and_le_left;exact ⟨by omega,by omega⟩
theorem UU {t E:Nat}{x y:Operand}{a b:Nat}(hx:ev f x=.int .u8 a) (hy:ev f y=.int .u8 b) (ha:a<256) (hb:b<256) :
  (execOp (ev f) ⟨d,.binOp .and t x y E,ty,ps,af,gd⟩).run P w=.ok (.value (.int .u8 ((a &&& b:Nat):Int))) w:=by
 refine YW hx hy ?_;simp only[binOp,Op.intBits,BitVec.ofInt_natCast,ne_eq,not_true_eq_false,if_false,Sem.run_pure];rw[BitVec.toNat_and,BitVec.toNat_ofNat,BitVec.toNat_ofNat,My (show a<2 ^ IntKind.u8.bits from ha),My (show b<2 ^ IntKind.u8.bits from hb),Ye (Qja ha)]
theorem yd (m i:Nat):((m:Int) / 2 ^ i)=((m / 2 ^ i:Nat):Int):=by rw[Int.natCast_ediv,Int.natCast_pow];rfl
end
inductive Pt where
 | pl (l:List (Nat×Bool))
 | fk (pre:List (Nat×Bool)) (i j:Nat) (t1 t2:Pt)
def J9 (all:Array Oper):List (Nat×Bool)→Array Bool→Bool
 | [],_=>true
 | (k,q)::pl,ls=>q && (Region.ready .any all ls).contains k && Region.free .any all ls k && J9 all pl (ls.setIfInBounds k true)
def ZZ:List (Nat×Bool)→Array Bool→Array Bool
 | [],ls=>ls
 | (k,_)::pl,ls=>ZZ pl (ls.setIfInBounds k true)
def XT (P:Program) (all:List Oper) (C:World→Prop) (K:Fr→World→Prop):Pt→Fr→World→Prop
 | .pl l=>XP P all C K l
 | .fk pre i j t1 t2=>XP P all C (λf w=>(Yc all f (Q6 all i)=true∧XO P (Q6 all i) f w λE w'=>C w'∧XT P all C K t1 E w') ∧
   (Yc all f (Q6 all j)=true∧XO P (Q6 all j) f w λE w'=>C w'∧XT P all C K t2 E w')) pre
section
variable {P:Program} {n:Nat} {f:Fr} {w:World} {all:List Oper} {C:World→Prop} {K B:Fr→World→Prop}
theorem YI:∀(pl:List (Nat×Bool)) (ls:Array Bool),(ZZ pl ls).size=ls.size
 | [],_=>rfl
 | (k,q)::pl,ls=>by rw[ZZ,YI];simp
theorem YG {m:Nat}(S:Region.noSelect all.toArray=true):∀(pl:List (Nat×Bool)) (ls:Array Bool) (f:Fr) (w:World),C w→J9 all.toArray pl ls=true →
  (∀f,B f w→XA P all C K m (ZZ pl ls) f w)→XP P all C B pl f w→XA P all C K (pl.length+m) ls f w
 | [],ls,f,w,E,hp,H,h=>by
  simp only[XP] at h;rw[List.length_nil,LP];exact H f h
 | (I,q)::pl,ls,f,w,E,hp,H,h=>by
  simp only[J9,Bool.and_eq_true] at hp;obtain ⟨⟨⟨rfl,hr⟩,hf⟩,Y⟩:=hp;simp only[XP] at h;have T:I∈Region.ready .any all.toArray ls:=by simpa using hr
  have e:(List.length ((I,true)::pl))+m=(pl.length+m)+1:=by simp;omega
  rw[e];cases G:all[I]? with
  | none =>
   exfalso;obtain ⟨_,o,hc,_⟩:=mem_ready.1 T;simp[G] at hc
  | some o =>
   rw[Zp G] at h;have ha:∀(j:Nat) (o:Oper) cs b,all[j]?=some o→o.op≠.select cs b:=λj o cs b V=>Region.noSelect_spec S j o cs b (by simpa using V);have hb:=λj oj V=>Region.free_spec (ops:=all.toArray) (md:=.any) (i:=I) (oi:=o) (listed:=ls) (by simpa using G) hf j oj (by simpa using V);cases J:Yc all f o with
   | false =>
    rw[J] at h;exact Y2 (v:=undef) (D:=λw=>qM o=true→C w) G (λ_ h=>h) ha _ ls f w (λ_=>E) hb T (.inr ⟨J,O⟩) (YG S pl _ _ _ E Y H h)
   | true =>
    rw[J] at h;simp only[cond_true] at h;obtain ⟨v,hv,hx⟩:=h;exact Y2 (v:=v) (D:=λw=>qM o=true→C w) G (λ_ h=>h) ha _ ls f w (λ_=>E) hb T (.inl ⟨J,hv⟩) (YG S pl _ _ _ E Y H hx)
end
end Go.Lg
namespace Go.Proofs.YtdffckgdcegpaaaGreatDoor
open Go.Lg
theorem Yd.lt_of {a:Int}{l:LI}(h:Yd (a::l)) {x:Int}(hx:x∈l):a<x:=(LG.1 h).1 x hx
theorem Yd.tail {a:Int}{l:LI}(h:Yd (a::l)):Yd l:=(LG.1 h).2
theorem Qh9 (keep:Bool→Bool→Bool):∀(n:Nat) (a b:LI),a.length+b.length≤n→Yd a→Yd b→∀x,x∈mrg keep a b↔(x∈a∨x∈b)∧keep (decide (x∈a)) (decide (x∈b))=true:=by
 intro n;induction n with
 | zero =>
  intro a b h _ _ x;have ha:a=[]:=Lo (by omega);have hb:b=[]:=Lo (by omega);subst ha hb;simp[Jn]
 | succ n ih =>
  intro a b E ia ib x;cases a with
  | nil =>
   cases b with
   | nil=>simp[Jn]
   | cons y b =>
    rw[Jb keep (by simp)];have:=ih [] b (by simp at E ⊢;omega) ia ib.tail x;have hy:y∉b:=λh=>by have:=ib.lt_of h;omega
    simp only[Xe,tl,hx,cond_true,cond_false,List.tail_cons,List.headD_cons,List.mem_append];rw[this];by_cases e:x=y
    ·subst e;cases hk:keep false true <;> simp[hk,hy]
    cases keep false true <;> simp[e]
  | cons u a =>
   cases b with
   | nil =>
    rw[Jb keep (by simp)];have:=ih a [] (by simp at E ⊢;omega) ia.tail ib x;have hy:u∉a:=λh=>by have:=ia.lt_of h;omega
    simp only[Xe,tl,hx,cond_true,cond_false,List.tail_cons,List.headD_cons,List.mem_append];rw[this];by_cases e:x=u
    ·subst e;cases hk:keep true false <;> simp[hk,hy]
    cases keep true false <;> simp[e]
   | cons y b =>
    rw[Jb keep (by simp)];have hu:u∉a:=λh=>by have:=ia.lt_of h;omega
    have hy:y∉b:=λh=>by have:=ib.lt_of h;omega
    rcases Int.lt_trichotomy u y with h1 | h1 | h1
    ·have G:u∉y::b:=λh=>by
      rcases Lc.1 h with h | h
      ·omega
      have:=ib.lt_of h;omega
     have:=ih a (y::b) (by simp at E ⊢;omega) ia.tail ib x;have e1:decide (u≤y)=true:=decide_eq_true (by omega);have e2:decide (y≤u)=false:=decide_eq_false (by omega);simp only[Xe,tl,hx,e1,e2,cond_true,cond_false,List.tail_cons,List.headD_cons,List.mem_append];rw[this];by_cases e:x=u
     ·subst e;cases hk:keep true false <;> simp[hk,hu,G]
     cases keep true false <;> simp[e]
    ·subst h1;have:=ih a b (by simp at E ⊢;omega) ia.tail ib.tail x;have e1:decide (u≤u)=true:=decide_eq_true (by omega);simp only[Xe,tl,hx,e1,cond_true,List.tail_cons,List.headD_cons,List.mem_append];rw[this];by_cases e:x=u
     ·subst e;cases hk:keep true true <;> simp[hk,hu,hy]
     cases keep true true <;> simp[e]
    have G:y∉u::a:=λh=>by
     rcases Lc.1 h with h | h
     ·omega
     have:=ia.lt_of h;omega
    have:=ih (u::a) b (by simp at E ⊢;omega) ia ib.tail x;have e1:decide (u≤y)=false:=decide_eq_false (by omega);have e2:decide (y≤u)=true:=decide_eq_true (by omega);simp only[Xe,tl,hx,e1,e2,cond_true,cond_false,List.tail_cons,List.headD_cons,List.mem_append];rw[this];by_cases e:x=y
    ·subst e;cases hk:keep false true <;> simp[hk,hy,G]
    cases keep false true <;> simp[e]
theorem Ux {keep:Bool→Bool→Bool}{a b:LI}(ia:Yd a) (ib:Yd b) (x:Int):x∈mrg keep a b↔(x∈a∨x∈b)∧keep (decide (x∈a)) (decide (x∈b))=true :=
 Qh9 keep _ a b (Lr _) ia ib x
def setK (m k:Nat):LI:=((List.range' 0 k).filter λi=>decide (((m / 2 ^ i) &&& 1)=1)).map λi:Nat=>(i:Int)
theorem VA (m k:Nat):setK m (k+1)=if (m / 2 ^ k) &&& 1=1 then setK m k++[(k:Int)] else setK m k:=by
 unfold setK;rw[MO,L3,Ls,LP];by_cases h:(m / 2 ^ k) &&& 1=1
 ·rw[if_pos h,MD,if_pos (decide_eq_true h)];rfl
 rw[if_neg h,MD,if_neg (by rw[decide_eq_false h];simp),M6,Nh,LH]
theorem YV (m:Nat):∀k,(setK m k).length≤k
 | 0=>by simp[setK]
 | k+1=>by
  have:=YV m k;rw[VA];split
  ·simp;omega
  omega
theorem JO (m k:Nat):Yd (setK m k):=by
 unfold setK Yd;rw[Mn];refine List.Pairwise.sublist M8 ?_;exact (Nr (s:=0) (n:=k)).imp (λh=>by omega)
open Go.Proofs.Tryz
instance ayCx1:Ay prog 119 4 5 1:=⟨by kernel_rfl,by kernel_rfl⟩
end Go.Proofs.YtdffckgdcegpaaaGreatDoor
namespace Go.Lg
section
variable {P:Program} {f:Fr} {w:World} {K:Fr→World→Prop} {d:Option Nat} {ty:Nat} {ps:String} {af:Array Edge} {gd:Option (Nat×Bool)}
theorem Uc {t ty e sz bys:Nat}{z:Value}[h:Sl P t e sz bys z] {base:Nat}{v:Value}{n:Nat}{cs:LV}(E:w.ownsRow base e sz v n cs) :
  (Builtin.append_ #[t,t] ty #[v,nS]).run P w=.ok v w:=by
 obtain ⟨i,hi,_,H,_⟩:=Sl.info h;rcases E.2 with ⟨rfl,rfl⟩ | ⟨g,cap,cur,rfl,I,J,G,S,T,V⟩
 ·simp[Builtin.append_,run_underlying h.u,sizeOf,typeInfo,hi,Builtin.lenOf,Builtin.firstCells]
 simp[Builtin.append_,run_underlying h.u,sizeOf,typeInfo,hi,Builtin.lenOf,Builtin.firstCells,G,storeCells]
theorem yA {t e sz bys:Nat}{z:Value}[h:Sl P t e sz bys z] {s y:Operand}{base:Nat}{v:Value}{n:Nat}{cs:LV}(E:w.ownsRow base e sz v n cs) (H:ev f s=v)
  {I:Value} {m:Nat} {news:LV} {L:LN} (G:Zo L w.heap I m sz news) (hy:ev f y=I) (h1:∀u∈news,u.oneCell'=true)
  (hb:n+m≤1099511627776) (S:base≤w.heap.size)
  (J:∀v' w',w'.ownsRow base e sz v' (n+m) (cs++news)→Step (ob v) w w'→(∀b∈ob v',b∈ob v∨w.heap.size≤b)→K (QX f d v') w') (T:bys≤128:=by decide) :
  XO P ⟨d,.call ⟨.builtin .append,#[s,y],#[t,t]⟩,ty,ps,af,gd⟩ f w K:=by
 rcases G.2.2 with ⟨e1,e2⟩ | ⟨a,c,e1,_,e3⟩
 ·subst e2;have V:news=[]:=Lo (by have:=G.1;simpa using this);subst V;have Y:(execOp (ev f) ⟨d,.call ⟨.builtin .append,#[s,y],#[t,t]⟩,ty,ps,af,gd⟩).run P w=.ok (.value v) w:=by
   simp[execOp,resolve,invoke,builtin,H,hy,e1,Uc (ty:=ty) E]
  exact xv Y (J v w (by simpa using E) (Step.refl _ _) (λb hb=>.inl hb))
 exact QU E H (hy.trans e1) G.1 e3 h1 hb S J T
end
end Go.Lg
namespace Go.Proofs.YtdffckgdcegpaaaGreatDoor
open Go.Proofs.Tryz
open Go.Lg
theorem QcE {L:LN}{w:World}{v:Value}{l:LI}(h:QL L w.heap v l) (x:Int) :
  QJ prog 254 [v,.int .i64 x] w λr w'=>r=.bool (decide (x∈l))∧w'=w:=by
 have J:=h.le;refine QJ.of_W func254 O ntmps254 results254 (by simp) ?_;refine Qc<|Lg.Qe<|Qf<|Qc<|Lg.Qe<|Qg<|Qy (α:=Nat) [(4,17)] (λk=>[(5,.int .i64 k)]) (λk w'=>w'=w∧k≤l.length∧(x∈l↔x∈l.drop k)) (λk=>l.length - k) (by rfl) 0 Z ⟨O,Lk _,by simp⟩ ?_;rintro k g w' ⟨rfl,hk,hm⟩;refine Qf<|Qc<|Lg.Qb<|Lg.Qb<|Lg.x (Qq h O)<|Lg.x (QA O O)<|xe<|QE rfl (λh9=>?_) (λh9=>?_)
 ·refine Qw<|Qc<|Lg.Qe<|Qn ⟨[.bool false],Z,?_,O⟩;rw[Lq (by omega)] at hm;simp[tup,hm]
 have H:k<l.length:=by omega
 have hd:=QY H;refine Qi<|Qf<|Qg<|Qc<|Lg.Qb<|Lg.Qb<|xii h O O H λS I=>Lg.x (Qu I O)<|Lg.Qb<|Lg.x (Q8 O O)<|xe<|Q7 rfl (λG=>?_) (λG=>?_)
 ·refine Qc<|Lg.Qe<|Qn ⟨[.bool true],Z,?_,O⟩;have:x∈l:=by rw[hm,hd,G];exact Ln
  simp[tup,this]
 refine Qi<|Qx<|Lg.Qb<|Lg.QN O O<|Lg.Qe<|⟨k+1,by omega,Z,O,by omega,?_⟩;rw[hm,hd,Lc];exact ⟨λh=>h.resolve_left (λe=>G e.symm),.inr⟩
theorem jv {L:LN}{w:World}{va vm ve:Value}{a:QV}(h:qK L w.heap ve a.ed) (s e:Int) (st:Int) :
  QJ prog 255 [.agg #[va,.int .i64 st,vm,ve],.int .i64 s,.int .i64 e] w λr w'=>r=.int .i64 (nxt a.ed s e)∧Step [] w w':=by
 have hf:=h.le;refine QJ.of_W func255 O ntmps255 results255 (by simp) ?_;refine Qc<|xl O<|QT (us:=[va,.int .i64 st,vm,ve]) O λb3 V J hg G=>Lg.Qe ?_
 replace h:=h.ext J;refine Qf<|Qc<|Lg.Qe<|Qg<|Qy (α:=Nat) [(6,38)] (λk=>[(7,.int .i64 k)]) (λk w'=>w'=V∧k≤a.ed.length∧nxt (a.ed.drop k) s e=nxt a.ed s e) (λk=>a.ed.length - k) (by rfl) 0 Z ⟨O,Lk _,O⟩ ?_;rintro k g Y ⟨rfl,hk,H⟩;refine Qf<|Qc<|Lg.Qb<|Lg.x (Qa O)<|Lg.x (Qd G O O)<|Lg.x (Qq h O)<|Lg.x (QA O O)<|xe<|QE rfl (λha=>?_) (λha=>?_)
 ·refine Qw<|Qc<|Lg.Qe<|Qn ⟨[.int .i64 (-1)],Z,?_,J⟩;rw[Lq (by omega)] at H;rw[←H];rfl
 have I:k<a.ed.length:=by omega
 have hd:=QY I;refine Qi<|Qf<|Qg<|QW (α:=Bool) [(15,32)] (λz=>[(32,.bool z)]) (λz w'=>w'=Y∧z=decide (a.ed[k].1=s∧a.ed[k].2.1=e)) (by rfl) ?_ ?_
 ·refine Qx<|Lg.x (Qa O)<|Lg.x (Qd G O O)<|Lg.Qb<|xie h O O I λhh hb=>Lg.x (Q4 O)<|Lg.x (Qu (hb.fld 0 _ O) O) <|
   Lg.Qb<|xb (Q8 O O) (λS=>?_) (λS=>?_)
  ·refine Lg.Qb<|Lg.x (Qa O)<|Lg.x (Qd G O O)<|Lg.Qb<|xie h O O I λhj hc=>Lg.x (Q4 O)<|Lg.x (Qu (hc.fld 1 _ O) O) <|
    Lg.Qb<|Lg.x (Q8 O O)<|Lg.x (Qo O)<|xe ?_
   exact ⟨_,Z,O,by simp[S]⟩
  refine Lg.Qb<|xs O<|xs O<|xs O<|xs O<|xs O<|xs O<|xs O<|xs O<|Lg.x (Qo O)<|xe ?_;exact ⟨_,Z,O,by simp[S]⟩
 rintro z g w3 ⟨rfl,rfl⟩;refine Q7 rfl (λT=>?_) (λT=>?_)
 ·refine Qc<|Lg.x (Qa O)<|Lg.x (Qd G O O)<|Lg.Qb<|xie h O O I λhl he=>Lg.x (Q4 O)<|Lg.x (Qu (he.fld 2 _ O) O) <|
   Lg.Qe<|Qn ⟨[.int .i64 a.ed[k].2.2],Z,?_,J⟩
  rw[←H,hd,nxt,if_pos T];rfl
 refine Qi<|Qx<|Lg.Qb<|Lg.QN O O<|Lg.Qe<|⟨k+1,by omega,Z,O,by omega,?_⟩;rw[←H,hd,nxt,if_neg T]
def U6 (l:LI) (n:Int):Int:=if n∈l then (l.idxOf n:Int) else -1
theorem QfV {l:LI}{n:Int}{k:Nat}(h:n∉l.take k) (hk:k<l.length) (he:cget l k=n):U6 l n=k:=by
 have hm:n∈l:=by rw[←he,←Zk hk];exact Lh hk
 unfold U6;rw[if_pos hm];have G:l=l.take k++l.drop k:=(Mv k l).symm;have:l.idxOf n=k:=by
  rw[G,MR,if_neg h,LJ hk,List.idxOf_cons,show l[k]=n by rw[Zk hk];exact he];simp;omega
 rw[this]
theorem QdP {L:LN}{w:World}{v:Value}{l:LI}(h:QL L w.heap v l) (n:Int) :
  QJ prog 256 [v,.int .i64 n] w λr w'=>r=.int .i64 (U6 l n)∧w'=w:=by
 have J:=h.le;refine QJ.of_W func256 O ntmps256 results256 (by simp) ?_;refine Qc<|Qe<|Qf<|Qc<|Qe<|Qg<|Qy (α:=Nat) [(4,18)] (λz=>[(5,.int .i64 z)]) (λz w'=>w'=w∧z≤l.length∧n∉l.take z) (λz=>l.length - z) (by rfl) 0 Z ⟨O,Lk _,by simp⟩ ?_;rintro k g S ⟨rfl,hk,hm⟩;refine Qf<|Qc<|Qb<|Qb<|x (Qq h O)<|x (QA O O)<|xe<|QE rfl (λh9=>?_) (λh9=>?_)
 ·refine Qw<|Qc<|Qe ?_;rw[Lm (by omega)] at hm;exact Qn ⟨[.int .i64 (-1)],Z,by unfold U6;rw[if_neg hm];rfl,O⟩
 have G:k<l.length:=by omega
 refine Qi<|Qf<|Qg<|Qc<|Qb<|Qb<|xic (i:=k) h O O G λT I=>x (Qu I O)<|Qb<|x (Q8 O O)<|xe<|Q7 rfl (λH=>?_) (λH=>?_)
 ·refine Qc<|Qb<|Qe ?_;exact Qn ⟨[.int .i64 k],Z,by rw[QfV hm G H];rfl,O⟩
 refine Qi<|Qx<|Qb<|QN O O<|Qe<|⟨k+1,by omega,Z,O,G,?_⟩;rw[Le G,Zk G];simp only[List.mem_append,List.mem_singleton,not_or];exact ⟨hm,λe=>H e.symm⟩
theorem VQ {L:LN}{w:World}{v:Value}{l:LI}(h:QL L w.heap v l) (hl:l.length≤1000000) :
  QJ prog 200 [v] w λr w'=>Step [] w w'∧∃va,r=.agg #[va,.int .i64 0,nS,nS]∧Qt 3 w.heap.size w' va l:=by
 refine QJ.of_W func200 O ntmps200 results200 (by simp) ?_;refine Qc<|xl O<|Qv (us:=[nS,.int .i64 0,nS,nS]) O λb2 G T he V=>xe ?_;have hf:=T.size;have hg:=V.lt;refine Qc<|xl O<|Kw λb3 w2 H hh hj=>Qb<|?_;have Y:=T.trans H;have hs:=H.size;have I:w2.ownsRow G.heap.size 3 1 (.slice (some ⟨b3,0,none⟩) 0 0) 0 []:=hj.own (n:=0) (sz:=1) O (by omega) hh
 refine xl rfl<|yA I O (h.ext Y) O (X7 l) (by omega) (by omega) λva J hn ha ht=>?_;have S:Qt 3 G.heap.size J va l:=by
  have:J.ownsRow G.heap.size 3 1 va (0+l.length) ([]++l.map (.int .i64)):=hn;rw[LP,L8] at this;exact this
 have hA:=Qt.ints (L:=[]) S (by omega) (by simp);have ho:=(V.ext H).step ha (QM I hg);have hp:Step [] w J:=Y.then ha (λb hb=>.inr (by have:=(Qk I b hb).1;omega));refine x (QF ⟨hA.cells,U⟩)<|xl O<|Qr (us:=[va,.int .i64 0,nS,nS]) ho O O O O ⟨hA.one,O,O,O,U⟩ λw4 hc hq=>xe ?_;have hr:=Qj S hc (λb hb=>by have:=(Qk S b hb).1;simp;omega)
 exact Qn ⟨[.agg #[va,.int .i64 0,nS,nS]],⟨⟨_,O,QB O (hq.at (L:=[]) (by simp)).cells⟩,U⟩,hp.then1 hc he,va,rfl,Zg hr hf⟩
theorem pig:∀(n:Nat) (l:LI),l.Nodup→(∀x∈l,0≤x∧x<n)→l.length≤n
 | 0,l,_,h=>by
  cases l with
  | nil=>simp
  | cons a l=>have:=h a Ln;omega
 | n+1,l,hd,h=>by
  by_cases hm:(n:Int)∈l
  ·have h1:=pig n (l.erase (n:Int)) (hd.erase _) (λx hx=>by
    have h2:=(List.Nodup.mem_erase_iff hd).1 hx;have h3:=h x h2.2;have G:x≠(n:Int):=h2.1;omega)
   rw[List.length_erase_of_mem hm] at h1;omega
  have:=pig n l hd (λx hx=>by
   have h3:=h x hx;have G:x≠(n:Int):=λe=>hm (by rw[←e];exact hx);omega)
  omega
def KP (a:QV) (s:Int) (out:LI) (v:Int):LI:=if 0≤nxt a.ed s v∧nxt a.ed s v∉out then out++[nxt a.ed s v] else out
def fdR (a:QV) (out:LI) (s:Int):LI:=a.al.foldl (KP a s) out
def zI (a:QV):Nat→Nat→LI→LI
 | 0,_,out=>out
 | f+1,i,out=>if i<out.length then zI a f (i+1) (fdR a out (cget out i)) else out
def fd0 (a:QV):LI:=if 0<a.st then [0] else []
def found (a:QV):LI:=zI a a.st.toNat 0 (fd0 a)
structure Ul (a:QV) (out:LI):Prop where
 b:∀x∈out,0≤x∧x<a.st
 d:out.Nodup
theorem Ul.len {a:QV}{out:LI}(h:Ul a out) (G:0≤a.st):out.length≤a.st.toNat:=pig _ _ h.d (λx hx=>by have:=h.b x hx;omega)
theorem yB {G:List Ed}{s v:Int}(h:0≤nxt G s v):(s,v,nxt G s v)∈G:=by
 induction G with
 | nil=>simp[nxt] at h
 | cons e G ih =>
  rw[nxt] at h ⊢;split at h
  ·rename_i he;rw[if_pos he];obtain ⟨p,q,r⟩:=e;obtain ⟨h1,h2⟩:=he;simp only[] at h1 h2;subst h1 h2;exact Ln
  rename_i he;rw[if_neg he];exact Ll _ (ih h)
theorem Qgk {a:QV}(G:Zr a) {out:LI}(h:Ul a out) (s v:Int):Ul a (KP a s out v):=by
 unfold KP;split
 ·rename_i hc;have hm:=G.ed _ (yB hc.1);refine ⟨λx hx=>?_,?_⟩
  ·rcases Lj.1 hx with hx | hx
   ·exact h.b x hx
   simp only[List.mem_singleton] at hx;subst hx;exact ⟨hc.1,hm.2.2.2.2⟩
  rw[MM];refine ⟨h.d,by simp,λx hx y hy=>?_⟩;simp only[List.mem_singleton] at hy;subst hy;exact λe=>hc.2 (by rw[←e];exact hx)
 exact h
theorem QiG {a:QV}{out:LI}{s v:Int}:∀x∈out,x∈KP a s out v:=λx hx=>by unfold KP;split;exact LF _ hx;exact hx
theorem QkG {a:QV}{out:LI}{s v:Int}(h:0≤nxt a.ed s v):nxt a.ed s v∈KP a s out v:=by
 unfold KP;by_cases hm:nxt a.ed s v∈out
 ·rw[if_neg (λe=>e.2 hm)];exact hm
 rw[if_pos ⟨h,hm⟩];simp
theorem Qgi {a:QV}(G:Zr a) (s:Int):∀(vs:LI) (out:LI),Ul a out→Ul a (vs.foldl (KP a s) out)
 | [],_,h=>h
 | v::vs,_,h=>Qgi G s vs _ (Qgk G h s v)
theorem yY {a:QV}{s:Int}:∀(vs:LI) (out:LI),∀x∈out,x∈vs.foldl (KP a s) out
 | [],_,_,hx=>hx
 | _::vs,_,x,hx=>yY vs _ x (QiG x hx)
theorem Qgj {a:QV}{s:Int}:∀(vs:LI) (out:LI),∀v∈vs,0≤nxt a.ed s v→nxt a.ed s v∈vs.foldl (KP a s) out
 | v::vs,out,u,hu,h=>by
  rcases Lc.1 hu with rfl | hu
  ·exact yY vs _ _ (QkG h)
  exact Qgj vs _ u hu h
theorem QcH {a:QV}{s:Int}:∀(vs:LI) (out:LI),∃r,vs.foldl (KP a s) out=out++r
 | [],out=>⟨[],by simp⟩
 | v::vs,out=>by
  obtain ⟨r,G⟩:=QcH (a:=a) (s:=s) vs (KP a s out v);rw[LO,G];unfold KP;split
  ·exact ⟨[nxt a.ed s v]++r,by simp⟩
  exact ⟨r,O⟩
theorem Qas {l r:LI}{i:Nat}(h:i<l.length):cget (l++r) i=cget l i:=by
 rw[←Zk h,←Zk (by simp;omega),L2 h]
def Cl (a:QV) (out:LI) (i:Nat):Prop:=∀j,j<i→j<out.length→∀v∈a.al,0≤nxt a.ed (cget out j) v→nxt a.ed (cget out j) v∈out
theorem Cl.next {a:QV}{out:LI}{i:Nat}(h:Cl a out i) (hi:i<out.length):Cl a (fdR a out (cget out i)) (i+1):=by
 intro j T V v H G;obtain ⟨r,S⟩:=QcH (a:=a) (s:=cget out i) a.al out;have I:fdR a out (cget out i)=out++r:=S;have J:j<out.length:=by omega
 rw[I,Qas J] at G ⊢;by_cases e:j=i
 ·subst e;have:=Qgj a.al out v H G;rw[←I];exact this
 exact LF _ (h j (by omega) J v H G)
theorem Qgh {a:QV}(G:Zr a):∀(f i:Nat) (out:LI),Ul a out→Cl a out i→i+f=a.st.toNat→Ul a (zI a f i out)∧Cl a (zI a f i out) (zI a f i out).length
 | 0,i,out,h,hc,J=>by
  have:=h.len G.st0;exact ⟨h,λj I H=>hc j (by rw[zI] at I;omega) H⟩
 | f+1,i,out,h,hc,J=>by
  rw[zI];split
  ·rename_i hi;exact Qgh G f (i+1) _ (Qgi G _ _ _ h) (hc.next hi) (by omega)
  rename_i hi;exact ⟨h,λj I H=>hc j (by omega) H⟩
theorem Qgl (a:QV):Ul a (fd0 a):=by
 unfold fd0;split
 ·rename_i h;exact ⟨λx hx=>by simp only[List.mem_singleton] at hx;subst hx;exact ⟨by omega,h⟩,by simp⟩
 exact ⟨by simp,by simp⟩
theorem Vf {a:QV}(I:Zr a):Ul a (found a)∧∀s∈found a,∀v∈a.al,0≤nxt a.ed s v→nxt a.ed s v∈found a:=by
 obtain ⟨h1,h2⟩:=Qgh I a.st.toNat 0 (fd0 a) (Qgl a) (λj G=>by omega) (by omega);refine ⟨h1,λs J v S H=>?_⟩;obtain ⟨j,G,rfl⟩:=LE J;have:=h2 j G G v S;unfold found at G H ⊢;rw[Zk G] at H ⊢;exact this H
def Jv (a:QV) (fd:LI) (i:Nat) (v:Int):Option Ed:=if 0≤nxt a.ed (cget fd i) v then some ((i:Int),v,U6 fd (nxt a.ed (cget fd i) v)) else none
def Yp (a:QV) (fd:LI) (n:Nat):LI:=((List.range' 0 n).filter λi=>decide (cget fd i∈a.mr)).map λi:Nat=>(i:Int)
def YC (a:QV) (fd:LI) (n:Nat):List Ed:=(List.range' 0 n).flatMap λi=>a.al.filterMap (Jv a fd i)
def Yt (a:QV):QV:=⟨a.al,(found a).length,Yp a (found a) (found a).length,YC a (found a) (found a).length⟩
theorem Xd {β:Type}{r:Int→Int→Prop}{q:β→β→Prop}{g:Int→Option β}(G:∀x y u v,r x y→g x=some u→g y=some v→q u v):∀{l:LI},l.Pairwise r→(l.filterMap g).Pairwise q
 | [],_=>by simp
 | x::l,h=>by
  obtain ⟨h1,h2⟩:=LG.1 h;rw[Mq];split
  ·exact Xd G h2
  rename_i u hu;refine LG.2 ⟨λv H=>?_,Xd G h2⟩;obtain ⟨y,hy,I⟩:=MP.1 H;exact G x y u v (h1 y hy) hu I
theorem jc {a:QV}(H:Zr a):Zr (Yt a)∧(Yt a).al=a.al∧(Yt a).st≤a.st:=by
 obtain ⟨h1,h2⟩:=Vf H;have hl:=h1.len H.st0;have h0:=H.st0;have h4:=H.st1;refine ⟨⟨H.al,H.ali,by simp[Yt],by simp only[Yt];omega,λs J=>?_,?_,λe he=>?_,?_⟩,O,by simp only[Yt];omega⟩
 ·simp only[Yt,Yp,List.mem_map,List.mem_filter,List.mem_range'_1] at J;obtain ⟨i,⟨hi,_⟩,rfl⟩:=J;simp only[Yt];omega
 ·simp only[Yt,Yp];unfold Yd;rw[Mn];refine List.Pairwise.sublist M8 ?_;exact (Nr (s:=0) (n:=(found a).length)).imp (λh=>by omega)
 ·simp only[Yt,YC,List.mem_flatMap,List.mem_filterMap,List.mem_range'_1] at he;obtain ⟨i,⟨_,hi⟩,v,I,G⟩:=he;unfold Jv at G;split at G
  ·rename_i T;cases G
   have S:i<(found a).length:=by omega
   have hm:=h2 (cget (found a) i) (by rw[←Zk S];exact Lh S) v I T;have hx:=MJ hm;simp only[Yt];unfold U6;rw[if_pos hm];exact ⟨by omega,by omega,I,by omega,by omega⟩
  cases G
 simp only[Yt,YC];have key:∀(is:LN),is.Pairwise (·<·)→(is.flatMap λi=>a.al.filterMap (Jv a (found a) i)).Pairwise λx y:Ed=>x.1<y.1∨(x.1=y.1∧x.2.1<y.2.1):=by
  intro is;induction is with
  | nil=>intro _;simp
  | cons i is ih =>
   intro hp;obtain ⟨V,Y⟩:=LG.1 hp;rw[LB,L0];have from_i:∀(i:Nat) (e:Ed),e∈a.al.filterMap (Jv a (found a) i)→e.1=i:=by
    intro i e he;obtain ⟨v,_,G⟩:=MP.1 he;unfold Jv at G;split at G
    ·cases G;rfl
    cases G
   refine ⟨?_,ih Y,λe he e' ha=>?_⟩
   ·refine Xd (r:=(·<·)) (λx y u v hb hu I=>?_) H.ali;unfold Jv at hu I;split at hu
    ·cases hu;split at I
     ·cases I;exact .inr ⟨O,hb⟩
     cases I
    cases hu
   obtain ⟨j,hj,hc⟩:=ME.1 ha;have e1:=from_i i e he;have e2:=from_i j e' hc;have:=V j hj;left;omega
 exact key _ (Nr (s:=0) (n:=(found a).length))
set_option maxHeartbeats 1000000 in
theorem QdR {L:LN}{w:World}{va vm ve:Value}{a:QV}(h:Zu L w.heap va vm ve a) (ho:Zr a) :
  QJ prog 253 [.agg #[va,.int .i64 a.st,vm,ve]] w λr w'=>Step [] w w'∧Qt 3 w.heap.size w' r (found a):=by
 have h0:=ho.st0;have h1:=ho.st1;have hV:=ho.al_le;refine QJ.of_W func253 O ntmps253 results253 (by simp) ?_;refine Qc<|xl O<|QT (us:=[va,.int .i64 a.st,vm,ve]) O λb1 S he hW hj=>Qe<|Qc<|Qe ?_;have hB:=he.size;have hX:=hj.lt;refine QW (α:=Value) [(3,3),(7,12)] (λz=>[(3,z)]) (λz w'=>Step [] S w'∧Qt 3 S.heap.size w' z (fd0 a)) (by rfl) ?_ ?_
 ·refine Qc<|x (Qa O)<|x (Qd hj O O)<|x (ZR O O)<|xe<|QE O (λh9=>?_) (λh9=>?_)
  ·refine Qi ?_;exact ⟨nS,Z,Step.refl _ _,by unfold fd0;rw[if_neg h9];exact QO _ _ _ _⟩
  refine Qx<|Qb<|xl O<|QC (us:=[[.int .i64 0]]) O O (by decide) (by simp) ⟨rfl,rfl,U⟩ λhY w2 hy hZ hC=>?_;have hn:w2.ownsRow S.heap.size 3 1 (nS) 0 []:=QO _ _ _ _;have ga:=hy.size;refine xl O<|QU (news:=[.int .i64 0]) (L:=[]) hn O O O (hC.at (by simp)) (by simp[Value.oneCell']) (by omega) (by omega) λv3 w3 hD hE gb =>
   Qe<|⟨v3,Z,hy.then hE (λb hb=>by simp[ob] at hb),?_⟩
  unfold fd0;rw[if_pos h9];exact hD
 rintro v0 g4 w4 ⟨hl,hF⟩;have gc:=he.trans hl;have ge:=hl.size;refine Zb (found a) λT hT=>?_;have hG:zI a a.st.toNat 0 (fd0 a)=T:=hT;refine Qf<|Qc<|Qe<|Qg<|Qy (α:=Nat×LI×Value) [(3,6),(13,48)] (λz=>[(3,z.2.2),(4,.int .i64 z.1)])
  (λz w'=>Step [] S w'∧Qt 3 S.heap.size w' z.2.2 z.2.1∧Ul a z.2.1∧z.1≤z.2.1.length∧zI a (a.st.toNat - z.1) z.1 z.2.1=T) (λz=>a.st.toNat - z.1) (by rfl) (0,fd0 a,v0) ⟨O,O,U⟩
  ⟨hl,hF,Qgl a,Lk _,hG⟩ ?_
 rintro ⟨i,out,v⟩ g5 w5 ⟨hp,V,G,hi,Y⟩;simp only[] at V G hi Y;have hz:=G.len h0;have h2:=Qt.ints (L:=[]) V (by omega) (by simp);refine Qf<|Qc<|Qb<|Qb<|x (Qq h2 O)<|x (QA O O)<|xe<|QE rfl (λh3=>?_) (λh3=>?_)
 ·have e:out=T:=by
   rw[←Y];generalize a.st.toNat - i=f;cases f with
   | zero=>rfl
   | succ f=>rw[zI,if_neg (by omega)]
  refine Qw<|Qc<|Qb<|Qe ?_;rw[e] at V;exact Qn ⟨[v],Z,he.trans hp,by rw[hT];exact Zg V hB⟩
 have I:i<out.length:=by omega
 have hH:a.st.toNat - i=(a.st.toNat - (i+1))+1:=by omega
 rw[hH,zI,if_pos I] at Y;refine Zb (cget out i) λs J=>?_;rw[J] at Y;refine Zb (fdR a out s) λR hR=>?_;rw[hR] at Y;unfold fdR at hR;refine Qi<|Qf<|Qg<|Qc<|Qe<|Qg<|Qy (α:=Nat×LI×Value) [(3,3),(5,6),(19,48)] (λz=>[(3,z.2.2),(5,.int .i64 z.1)])
  (λz w'=>Step [] S w'∧Qt 3 S.heap.size w' z.2.2 z.2.1∧Ul a z.2.1∧z.1≤a.al.length∧i<z.2.1.length∧cget z.2.1 i=s∧(a.al.drop z.1).foldl (KP a s) z.2.1=R) (λz=>a.al.length - z.1) (by rfl) (0,out,v) ⟨O,O,U⟩
  ⟨hp,V,G,Lk _,I,J,hR⟩ ?_
 clear hp V G hi hz h2 I J hR h3;rintro ⟨k,out,v⟩ g6 w6 ⟨ha,hf,G,hk,I,J,H⟩;simp only[] at hf G hk I J H;have hz:=G.len h0;have h4:=(h.al.ext he).ext ha;have hq:=hj.ext ha;have h5:=Qt.ints (L:=[]) hf (by omega) (by simp);refine Qf<|Qc<|Qb<|x (Qa O)<|x (Qd hq O O)<|x (Qq h4 O)<|x (QA O O)<|xe<|QE rfl (λhI=>?_) (λhI=>?_)
 ·refine Qw<|Qx<|Qb<|QN O O<|Qe ?_;rw[Lq (by omega)] at H;have hJ:out=R:=H;exact ⟨(i+1,out,v),by simp only[];omega,⟨O,O,U⟩,ha,hf,G,I,by simp only[];rw[hJ];exact Y⟩
 have hg:k<a.al.length:=by omega
 rw[LJ hg,LO,Zk hg] at H;refine Zb (cget a.al k) λu hu=>?_;rw[hu] at H;have hK:=(h.ed.ext he).ext ha;refine Zb (nxt a.ed s u) λt ht=>?_;have hL:KP a s out u=if 0≤t∧t∉out then out++[t] else out:=by unfold KP;rw[ht]
 have hr:=Qgk ho G s u;rw[hL] at H hr;refine Qi<|Qf<|Qg<|Qf<|QS (Step [] w6) [(0,true),(1,true),(2,true),(3,true),(4,true),(5,true),(6,true),(7,true),(8,true),(9,true),(10,false),(11,true)] mixed (by rfl) (by kernel_rfl) (Step.drew _ _) ?_;refine pq (λ_ hc=>Qs (hq.ext hc) O O)<|p (λ_=>Ql)<|p (λ_=>Ql)<|pic (i:=i) O h5 O O I λgg h6=>?_;rw[J] at h6
 refine pq (λ_ hc=>Qu (h6.ext hc) O)<|p (λ_=>Qa O)<|pq (λ_ hc=>Qd (hq.ext hc) O O)<|p (λ_=>Ql) <|
  pic (i:=k) O h4 O O hg λgh h7=>?_
 rw[hu] at h7;have hsr:=jv (va:=va) (vm:=vm) (a:=a) (hK.ext (Step.drew [] w6)) s u a.st;rw[ht] at hsr;refine pq (λ_ hc=>Qu (h7.ext hc) O)<|pk<|xf<|hsr.mono ?_;rintro r7 w7 ⟨rfl,hM⟩;have hh:=(Step.drew [] w6).trans hM;refine ⟨hh,p (λ_=>Qh)<|pe ?_⟩;have h8:=Qm hf hh;have hN:=h5.ext hh
 refine QW (α:=Unit) [(37,44)] (λz=>[(44,.bool (decide (0≤t∧t∉out)))]) (λz w'=>w'=w7) (by rfl) ?_ ?_
 ·refine Qx<|Qb<|xb (ZU O O) (λhs=>?_) (λhs=>?_)
  ·refine Qb<|Qb<|Qb<|xl O<|xf<|(QcE hN t).mono ?_;rintro r8 w8 ⟨rfl,rfl⟩;refine x (Zm O)<|x (Qo O)<|xe<|⟨(),⟨congrArg Value.bool ?_,U⟩,O⟩;show (!decide (t∈out))=_;rw[Bool.eq_iff_iff];simp[hs]
  refine Qb<|xs O<|xs O<|xs O<|xs O<|x (Qo O)<|xe ?_;exact ⟨(),⟨congrArg Value.bool (decide_eq_false (λe=>hs e.1)).symm,U⟩,O⟩
 rintro _ g9 w9 rfl;refine QE rfl (λhv=>?_) (λhv=>?_)
 ·rw[if_neg hv] at H;refine Qi<|Qx<|Qb<|QN O O<|Qe ?_;exact ⟨(k+1,out,v),by simp only[];omega,⟨O,O,U⟩,ha.trans hh,h8,G,hg,I,J,H⟩
 rw[if_pos hv] at H hr;have hA:=ha.trans hh;have gi:=hA.size;refine Qx<|Qb<|Qb<|xl O<|QC (us:=[[.int .i64 t]]) O O (by decide) (by simp) ⟨rfl,rfl,U⟩ λgj gk hw gl hO=>?_;have hP:=Qm h8 hw;have gm:=hw.size;refine xl rfl<|QU (news:=[.int .i64 t]) (L:=[]) hP O O O (hO.at (by simp)) (by simp[Value.oneCell']) (by omega) (by omega) λhQ gn hS hU go =>
  Qe ?_
 have hge:=Qk hf;refine Qx<|Qb<|QN O O<|Qe<|⟨(k+1,out++[t],hQ),by simp only[];omega,⟨O,O,U⟩,(hA.trans hw).then hU (λb hb=>.inr (hge b hb).1),Qt.snoc hS,hr,hg,by simp;omega,?_,H⟩;simp only[];rw[Qas I];exact J
structure CrI (w7:World) (b4:Nat) (vcl:Value) (n:Int) (vm vd:Value) (M:LI) (E:List Ed) (w:World):Prop where
 st:Step [b4] w7 w
 B:Q3 w.heap b4 58 [vcl,.int .i64 n,vm,vd]
 m:Qt 3 w7.heap.size w vm M
 e:Z4 144 w7.heap.size w vd E
 dj:Dj vm vd
section
variable {w7 w w' w'':World} {b4:Nat} {vcl:Value} {n:Int} {vm vd:Value} {M:LI} {E:List Ed}
theorem CrI.ext (h:CrI w7 b4 vcl n vm vd M E w) (G:Step [] w w'):CrI w7 b4 vcl n vm vd M E w':=⟨h.st.trans G,h.B.ext G,Qm h.m G,Qm h.e G,h.dj⟩
theorem CrI.setM (h:CrI w7 b4 vcl n vm vd M E w) (hb:b4<w7.heap.size) {G:Value}{M':LI}(J:Step (ob vm) w w') (hm:Qt 3 w7.heap.size w' G M') (S:∀b∈ob G,b∈ob vm∨w.heap.size≤b) (H:Step [b4] w' w'')
  (T:Q3 w''.heap b4 58 [vcl,.int .i64 n,G,vd]):CrI w7 b4 vcl n G vd M' E w'' :=
 ⟨(h.st.then J (λb hb=>.inr (Qk h.m b hb).1)).trans' H,T,Qj hm H (λb I=>by have:=(Qk hm b I).1;simp;omega),
  Qj (Qj h.e J h.dj.symm) H (λb I=>by have:=(Qk h.e b I).1;simp;omega),(h.dj.symm.grow S (QP h.e)).symm⟩
theorem CrI.setE (h:CrI w7 b4 vcl n vm vd M E w) (hb:b4<w7.heap.size) {G:Value}{E':List Ed}(J:Step (ob vd) w w') (hm:Z4 144 w7.heap.size w' G E') (S:∀b∈ob G,b∈ob vd∨w.heap.size≤b) (H:Step [b4] w' w'')
  (T:Q3 w''.heap b4 58 [vcl,.int .i64 n,vm,G]):CrI w7 b4 vcl n vm G M E' w'' :=
 ⟨(h.st.then J (λb hb=>.inr (Qk h.e b hb).1)).trans' H,T,Qj (Qj h.m J h.dj) H (λb I=>by have:=(Qk h.m b I).1;simp;omega),
  Qj hm H (λb I=>by have:=(Qk hm b I).1;simp;omega),h.dj.grow S (QP h.m)⟩
end
theorem zN (a:QV) (fd:LI) (k:Nat):Yp a fd (k+1)=if cget fd k∈a.mr then Yp a fd k++[(k:Int)] else Yp a fd k:=by
 unfold Yp;rw[MO,L3,Ls,LP];by_cases h:cget fd k∈a.mr
 ·rw[if_pos h,MD,if_pos (decide_eq_true h)];rfl
 rw[if_neg h,MD,if_neg (by rw[decide_eq_false h];simp),M6,Nh,LH]
theorem Qav (a:QV) (fd:LI):∀k,(Yp a fd k).length≤k
 | 0=>by simp[Yp]
 | k+1=>by
  have:=Qav a fd k;rw[zN];split
  ·simp;omega
  omega
theorem Qd3 (a:QV) (fd:LI) (k:Nat):YC a fd (k+1)=YC a fd k++a.al.filterMap (Jv a fd k):=by
 unfold YC;rw[MO,Lz,LP];simp
set_option maxHeartbeats 2000000 in
theorem qY {L:LN}{w:World}{va vm ve:Value}{a:QV}(h:Zu L w.heap va vm ve a) (T:Zr a) :
  QJ prog 201 [.agg #[va,.int .i64 a.st,vm,ve]] w λr w'=>Step [] w w'∧Xw w.heap.size w'.heap r (Yt a):=by
 have h0:=T.st0;have h1:=T.st1;have ku:=T.al_le;have ge:=(Vf T).1;have gg:=ge.len h0;refine QJ.of_W func201 O ntmps201 results201 (by simp) ?_;refine Zb (found a) λfd hz=>?_;rw[hz] at gg;have gh:Yt a=⟨a.al,fd.length,Yp a fd fd.length,YC a fd fd.length⟩:=by unfold Yt;rw[hz]
 refine Qc<|xl O<|QT (us:=[va,.int .i64 a.st,vm,ve]) O λb1 w1 hG kv h2=>xl O<|Qv (us:=[nS,.int .i64 0,nS,nS]) O λb2 w2 hp kw hH=>xe ?_;have V:=hG.trans hp;have hfr:=QdR (h.ext V) T;rw[hz] at hfr;refine Qc<|x (Qs (h2.ext hp) O O)<|xl O<|xf<|hfr.mono ?_;rintro vf w3 ⟨hq,gi⟩;refine Qe ?_;have hJ:=V.trans hq;have hK:=(h2.ext hp).ext hq
 refine Qc<|x (Qa O)<|x (Qd hK O O)<|xl O<|xf<|(VQ (h.al.ext hJ) (by omega)).mono ?_;rintro r4 w4 ⟨hL,vcl,rfl,Y⟩;have hM:=Qt.ints (L:=[]) Y (by omega) (by simp);refine xl rfl<|Qv (us:=[nS,.int .i64 0,nS,nS]) O λb4 w5 gj gk gl =>
  xl rfl<|Qr (us:=[vcl,.int .i64 0,nS,nS]) gl O O O O ⟨hM.one,O,O,O,U⟩ λw6 gm hN=>xe ?_
 have h3:Step [] w4 w6:=gj.then1 gm gk;have ha:=hL.trans h3;have hO:=Qt.ints (L:=[]) gi (by omega) (by simp);have ky:=hG.size;have kz:=hp.size;have k0:=hq.size;have k4:=hL.size;have k5:=h3.size;have k6:=h2.lt;have k7:=hH.lt;have k8:=hN.lt;refine Qc<|Qb<|x (Qq hO O)<|x (Qa O)<|xl O<|QG (u:=.int .i64 fd.length) hN O O (by simp) rfl λw7 J gn=>xe ?_
 have k9:=J.size;have ma:Step [b4] w3 w7:=(ha.any (L:=[b4])).trans' J;have hP:Step [] w w7:=(hJ.trans ha).then1 J (by omega);have hQ:QL [b4] w7.heap vf fd:=((hO.up (L':=[b4]) (λb hb=>.inr (by simp at hb;omega))).ext ha).st J;have h4:Zu [b4] w7.heap va vm ve a:=(h.up (λb hb=>.inr (by simp at hb;omega))).ext hP
 have go:Qt 3 w3.heap.size w7 vcl a.al:=Qj (Qm Y h3) J (λb hb=>by have:=QP Y b hb;simp;omega);have hR:=(hK.ext ha).step J (by simp;omega);have gp:=((hH.ext hq).ext ha).step J (by simp;omega);have he:b4<w7.heap.size:=by omega
 have n1:b1∉[b4]:=by simp;omega
 have n2:b2∉[b4]:=by simp;omega
 refine Qf<|Qc<|Qe<|Qg<|Qy (α:=Nat×Value×Value) [(5,7),(16,69)] (λz=>[(5,.int .i64 z.1)])
  (λz w'=>z.1≤fd.length∧CrI w7 b4 vcl fd.length z.2.1 z.2.2 (Yp a fd z.1) (YC a fd z.1) w'∧(YC a fd z.1).length≤z.1*32) (λz=>fd.length - z.1) (by rfl) (0,nS,nS) Z
  ⟨Lk _,⟨Step.refl _ _,gn,QO _ _ _ _,QO _ _ _ _,Dj.nil' _⟩,Lk _⟩ ?_
 rintro ⟨i,v1,v2⟩ g8 w8 ⟨hi,G,h5⟩;simp only[] at hi G h5;have gq:=Qav a fd i;have hS:=hQ.st G.st;refine Qf<|Qc<|Qb<|Qb<|x (Qq hS O)<|x (QA O O)<|xe<|QE rfl (λgr=>?_) (λgr=>?_)
 ·have gs:i=fd.length:=by omega
  rw[gs] at G h5 gq;refine Qw ?_;have gt:=Qt.ints (L:=[]) G.m (by omega) (by simp);have gu:=Z4.eds (L:=[]) G.e (by omega) (by simp);refine Qc<|x (Qs G.B O O)<|xl O<|Qr (us:=[vcl,.int .i64 fd.length,v1,v2]) (gp.step G.st n2) O O O O ⟨hM.one,O,gt.one,gu.one,U⟩ λw9 hr gv=>xe ?_
  refine Qn ⟨[.agg #[vcl,.int .i64 fd.length,v1,v2]],⟨⟨_,O,QB O (gv.at (L:=[]) (by simp)).cells⟩,U⟩,(hP.then1 G.st (by omega)).then1 hr (by omega),?_⟩;rw[gh];have k1:=Qj (Qj go G.st (λb hb=>by have:=QP Y b hb;simp;omega)) hr (λb hb=>by have:=(Qk Y b hb).1;simp;omega);have k2:=Qj G.m hr (λb hb=>by have:=(Qk G.m b hb).1;simp;omega)
  have k3:=Qj G.e hr (λb hb=>by have:=(Qk G.e b hb).1;simp;omega);refine ⟨vcl,v1,v2,O,λL' h6=>⟨?_,?_,?_⟩⟩
  ·exact Qt.ints k1 (by show a.al.length≤_;omega) (λb hb=>by have:=h6 b hb;omega)
  ·exact Qt.ints k2 (by show (Yp a fd fd.length).length≤_;omega) (λb hb=>by have:=h6 b hb;omega)
  exact Z4.eds k3 (by show (YC a fd fd.length).length≤_;omega) (λb hb=>by have:=h6 b hb;omega)
 have h7:i<fd.length:=by omega
 refine Zb (cget fd i) λs hs=>?_;have hf:=zN a fd i;rw[hs] at hf;refine Qi<|Qf<|Qg<|QW (α:=Value) [(22,34)] (λz=>[]) (λz w'=>CrI w7 b4 vcl fd.length z v2 (Yp a fd (i+1)) (YC a fd i) w') (by rfl) ?_ ?_
 ·have gw:=h4.st G.st;have gx:=hR.step G.st n1;refine Qf<|QS (Step [] w8) [(0,true),(1,true),(2,true),(3,true),(4,true),(5,true),(6,false)] mixed (by rfl) (by kernel_rfl) (Step.drew _ _) ?_;refine p (λ_=>Qa O)<|pq (λ_ hc=>Qd (gx.ext hc) O O)<|p (λ_=>Ql)<|p (λ_=>Ql)<|pic (i:=i) O hS O O h7 λmc hT=>?_;rw[hs] at hT
  refine pq (λ_ hc=>Qu (hT.ext hc) O)<|pk<|xf<|(QcE (gw.mr.ext (Step.drew [] w8)) s).mono ?_;rintro mf mg ⟨rfl,rfl⟩;have h8:=G.ext (Step.drew [] w8);refine ⟨Step.drew _ _,pe ?_⟩;refine QE O (λh9=>?_) (λh9=>?_)
  ·rw[if_neg h9] at hf;refine Qi ?_;exact ⟨v1,U,by rw[hf];exact h8⟩
  rw[if_pos h9] at hf;refine Qx<|x (Qa O)<|x (Qd h8.B O O)<|Qb<|xl O<|QC (us:=[[.int .i64 i]]) O O (by decide) (by simp) ⟨rfl,rfl,U⟩ λmh mj gy mo gz=>?_;have hg:=h8.ext gy;refine xl O<|QU (news:=[.int .i64 i]) (L:=[]) hg.m O O O (gz.at (by simp)) (by simp[Value.oneCell']) (by omega) hg.st.size λhU g0 g2 V g3=>?_
  have hV:Qt 3 w7.heap.size g0 hU (Yp a fd i++[(i:Int)]):=Qt.snoc g2;refine x (Qa O)<|xl O<|QG (hg.B.step V (QM hg.m he)) O O (by simp) (Qt.ints (L:=[]) hV (by simp;omega) (by simp)).one λmq g4 g5 =>
   xe ?_
  exact ⟨hU,U,by rw[hf];exact hg.setM he V hV g3 g4 g5⟩
 rintro v3 mu mv g6;refine Zb (YC a fd (i+1)) λE1 hA=>?_;have hW:=Qd3 a fd i;rw[hA] at hW;refine Qc<|Qe<|Qg<|Qy (α:=Nat×List Ed×Value) [(6,7),(35,69)] (λz=>[(6,.int .i64 z.1)])
  (λz w'=>z.1≤a.al.length∧CrI w7 b4 vcl fd.length v3 z.2.2 (Yp a fd (i+1)) z.2.1 w'∧z.2.1.length≤i*32+z.1∧z.2.1++(a.al.drop z.1).filterMap (Jv a fd i)=E1) (λz=>a.al.length - z.1) (by rfl) (0,YC a fd i,v2) Z
  ⟨Lk _,g6,h5,hW.symm⟩ ?_
 rintro ⟨k,E,vd⟩ mw hB ⟨hk,I,g7,H⟩;simp only[] at hk I g7 H;have hC:=h4.st I.st;have hv:=hR.step I.st n1;have hX:=hQ.st I.st;refine Qf<|Qc<|Qb<|x (Qa O)<|x (Qd hv O O)<|x (Qq hC.al O)<|x (QA O O)<|xe<|QE rfl (λg9=>?_) (λg9=>?_)
 ·refine Qw<|Qx<|Qb<|QN O O<|Qe ?_;rw[Lq (by omega),List.filterMap_nil,LH] at H;refine ⟨(i+1,v3,vd),by simp only[];omega,Z,h7,?_,?_⟩
  ·simp only[];rw[hA,←H];exact I
  simp only[];rw[hA,←H];omega
 have S:k<a.al.length:=by omega
 refine Zb (cget a.al k) λu hu=>?_;rw[LJ S,Zk S,hu,Mq] at H;refine Zb (nxt a.ed s u) λt ht=>?_;have ka:Jv a fd i u=if 0≤t then some ((i:Int),u,U6 fd t) else none:=by unfold Jv;rw[hs,ht]
 rw[ka] at H;have hsr:=jv (va:=va) (vm:=vm) (a:=a) (hC.ed.ext (Step.drew [] hB)) s u a.st;rw[ht] at hsr;refine Qi<|Qf<|Qg<|Qf<|QS (Step [] hB) [(0,true),(1,true),(2,true),(3,true),(4,true),(5,true),(6,true),(7,true),(8,true),(9,true),(10,false),(11,true)] mixed (by rfl) (by kernel_rfl) (Step.drew _ _) ?_
 refine pq (λ_ hc=>Qs (hv.ext hc) O O)<|p (λ_=>Ql)<|p (λ_=>Ql)<|pic (i:=i) O hX O O h7 λmy hY=>?_;rw[hs] at hY;refine pq (λ_ hc=>Qu (hY.ext hc) O)<|p (λ_=>Qa O)<|pq (λ_ hc=>Qd (hv.ext hc) O O)<|p (λ_=>Ql) <|
  pic (i:=k) O hC.al O O S λmz hZ=>?_
 rw[hu] at hZ;refine pq (λ_ hc=>Qu (hZ.ext hc) O)<|pk<|xf<|hsr.mono ?_;rintro m0 hw ⟨rfl,kb⟩;have hh:=(Step.drew [] hB).trans kb;refine ⟨hh,p (λ_=>Qh)<|pe ?_⟩;have hj:=I.ext hh;have kc:=hv.ext hh;have ke:=hX.ext hh;refine Qc<|Qb<|x (ZU O O)<|xe<|QE rfl (λhD=>?_) (λhD=>?_)
 ·rw[if_neg hD] at H;refine Qi<|Qx<|Qb<|QN O O<|Qe ?_;exact ⟨(k+1,E,vd),by simp only[];omega,Z,S,hj,by simp only[];omega,H⟩
 rw[if_pos hD] at H;have kf:=Qk I.e;have kg:QL (b4::ob vd) hw.heap va a.al:=(((h4.al.up (L':=b4::ob vd) (λb hb=>by
  rcases Lc.1 hb with rfl | hb
  ·exact .inl (by simp)
  exact .inr (kf b hb).1)).step I.st (by simp)).ext hh)
 have kh:=QM hj.e he;have ki:b1∉ob vd:=QM hj.e (by omega);refine QS (Step (ob vd) hw) [(0,true),(1,true),(2,true),(3,true),(4,true),(5,true),(6,true),(7,true),(8,true),(9,true),(10,false),(11,true),(12,false),(13,false),(14,true),(15,false)] mixed (by rfl) (by kernel_rfl) (Step.drew _ _) ?_
 refine p (λ_=>Qa O)<|pq (λ_ hc=>Qd (hj.B.step hc kh) O O)<|p (λ_=>Ql)<|p (λ_=>Qa O)<|pq (λ_ hc=>Qd (kc.step hc ki) O O) <|
  p (λ_=>Ql)<|pic (i:=k) O kg O O S λm1 ga=>?_
 rw[hu] at ga;refine pq (λ_ hc=>Qu (ga.step hc (λb hb=>Ll _ hb)) O)<|p (λ_=>Ql)<|p (λ_=>Ql) <|
  pk<|xf<|(QdP (ke.ext (Step.drew [] hw)) t).mono ?_
 rintro m2 m3 ⟨rfl,rfl⟩;refine ⟨Step.drew _ _,p (λ_=>QF ⟨O,O,O,U⟩)<|pk<|QC (us:=[Qz ((i:Int),u,U6 fd t)]) O O (by decide) (by exact (by decide:1*3≤1000000)) ⟨O,O,U⟩ λm4 m5 kj m6 kk=>?_⟩;have hE:=(Step.drew [] hw).trans kj;have hn:=hj.ext hE;refine ⟨hE.any,?_⟩
 refine pk<|QU (news:=Qz ((i:Int),u,U6 fd t)) (L:=[]) hn.e O O O (kk.at (by simp)) (λy hy=>by simp only[Qz,List.mem_cons,List.not_mem_nil,or_false] at hy;rcases hy with rfl | rfl | rfl <;> rfl) (by omega) hn.st.size λgb kn ko hF kp=>⟨(hE.any (L:=ob vd)).trans' hF,?_⟩
 have gc:Z4 144 w7.heap.size kn gb (E++[((i:Int),u,U6 fd t)]):=Z4.snoc ko;refine p (λ_=>Qa O)<|pkl (hl:=by kernel_rfl)<|QG (hn.B.step hF (QM hn.e he)) O O (by simp) (Z4.eds (L:=[]) gc (by simp;omega) (by simp)).one λm7 kq kr =>
  pe ?_
 have kt:=hn.setE he hF gc kp kq kr;refine Qx<|Qb<|QN O O<|Qe<|⟨(k+1,E++[((i:Int),u,U6 fd t)],gb),by simp only[];omega,Z,S,kt,by simp;omega,?_⟩;simp only[List.append_assoc,List.singleton_append];exact H
end Go.Proofs.YtdffckgdcegpaaaGreatDoor
namespace Go.Lg
section
variable {P:Program} {f:Fr} {w:World} {d:Option Nat} {ty:Nat} {ps:String} {af:Array Edge} {gd:Option (Nat×Bool)}
theorem US {t G:Nat}{x y:Operand}{k:IntKind}{a b:Int}(hx:ev f x=.int k a) (hy:ev f y=.int k b) (ha:0≤a) (hb:0<b) :
  (execOp (ev f) ⟨d,.binOp .rem t x y G,ty,ps,af,gd⟩).run P w=.ok (.value (.int k (a % b))) w:=by
 refine YW hx hy ?_;have h1:¬b=0:=by omega
 simp[binOp,Op.intDiv,h1,Int.tmod_eq_emod_of_nonneg ha]
end
end Go.Lg
namespace Go.Proofs.YtdffckgdcegpaaaGreatDoor
open Go.Proofs.Tryz
open Go.Lg
instance ayMa1:Ay prog 26 5 22 5:=⟨by kernel_rfl,by kernel_rfl⟩
instance ayMa2:Ay prog 22 5 5 1:=⟨by kernel_rfl,by kernel_rfl⟩
abbrev bys (ns:LN):LV:=ns.map λn:Nat=>.int .u8 (n:Int)
theorem VU {ns:LN}{j:Nat}(h:j<ns.length):(bys ns)[j]?=some (.int .u8 ((ns.getD j 0:Nat):Int)):=by simp[bys,List.getD,h]
theorem Qax:∀(ns:LN),ZP (bys ns)
 | []=>trivial
 | _::ns=>⟨rfl,Qax ns⟩
theorem Xg {ns:LN}(h:∀n∈ns,n<256) (j:Nat):ns.getD j 0<256:=by
 by_cases G:j<ns.length
 ·simp only[List.getD,List.getElem?_eq_getElem G,Option.getD_some];exact h _ (Lh G)
 simp[List.getD,G]
structure GrI (al:LI) (S i k:Nat) (M:LI) (E:List Ed):Prop where
 mb:∀x∈M,0≤x∧x<S
 mi:Yd M
 ml:∀x∈M,x<(i:Int)+1
 mn:M.length≤S
 eb:∀e∈E,0≤e.1∧e.1<S∧e.2.1∈al∧0≤e.2.2∧e.2.2<S
 ei:E.Pairwise λx y=>x.1<y.1∨(x.1=y.1∧x.2.1<y.2.1)
 el:∀e∈E,e.1<i∨(e.1=i∧e.2.1∈al.take k)
 en:E.length≤i*5+k
theorem Qiz {S:Nat}{M:LI}(hb:∀x∈M,0≤x∧x<S) (hi:Yd M):M.length≤S:=pig S M (hi.imp (λh=>by omega)) hb
theorem GrI.mark {al:LI}{S i:Nat}{M:LI}{E:List Ed}(h:GrI al S i 0 M E) (hm:∀x∈M,x<(i:Int)) (hi:i<S):GrI al S i 0 (M++[(i:Int)]) E:=by
 have G:∀x∈M++[(i:Int)],0≤x∧x<S:=λx hx=>by
  rcases Lj.1 hx with hx | hx
  ·exact h.mb x hx
  simp only[List.mem_singleton] at hx;omega
 have H:Yd (M++[(i:Int)]):=by
  refine L0.2 ⟨h.mi,by simp,λx hx y hy=>?_⟩;simp only[List.mem_singleton] at hy;subst hy;exact hm x hx
 refine ⟨G,H,λx hx=>?_,Qiz G H,h.eb,h.ei,h.el,h.en⟩;rcases Lj.1 hx with hx | hx
 ·have:=hm x hx;omega
 simp only[List.mem_singleton] at hx;omega
theorem GrI.skip {al:LI}{S i k:Nat}{M:LI}{E:List Ed}(h:GrI al S i k M E) (hk:k<al.length):GrI al S i (k+1) M E :=
 ⟨h.mb,h.mi,h.ml,h.mn,h.eb,h.ei,λe he=>(h.el e he).imp id (λx=>⟨x.1,by rw[Le hk];exact LF _ x.2⟩),by have:=h.en;omega⟩
theorem GrI.edge {al:LI}{S i k:Nat}{M:LI}{E:List Ed}(h:GrI al S i k M E) (hk:k<al.length) (ha:Yd al) (hi:i<S) {t:Int}(G:0≤t) (H:t<S):GrI al S i (k+1) M (E++[((i:Int),cget al k,t)]):=by
 have I:cget al k∈al:=Jf hk;refine ⟨h.mb,h.mi,h.ml,h.mn,λe he=>?_,?_,λe he=>?_,by have:=h.en;simp;omega⟩
 ·rcases Lj.1 he with he | he
  ·exact h.eb e he
  simp only[List.mem_singleton] at he;subst he;exact ⟨by simp only[];omega,by simp only[];omega,I,G,H⟩
 ·refine L0.2 ⟨h.ei,by simp,λx hx y hy=>?_⟩;simp only[List.mem_singleton] at hy;subst hy;rcases h.el x hx with h1 | ⟨h1,h2⟩
  ·left;exact h1
  right;refine ⟨h1,?_⟩;simp only[];have hp:Yd (al.take k++al.drop k):=by rw[Mv];exact ha
  refine (L0.1 hp).2.2 _ h2 _ ?_;rw[LJ hk,Zk hk];exact Ln
 rw[Le hk,Zk hk];rcases Lj.1 he with he | he
 ·exact (h.el e he).imp id (λx=>⟨x.1,LF _ x.2⟩)
 simp only[List.mem_singleton] at he;subst he;exact .inr ⟨O,LQ _ (by simp)⟩
theorem GrI.next {al:LI}{S i k:Nat}{M:LI}{E:List Ed}(h:GrI al S i k M E) (hk:k≤5):GrI al S (i+1) 0 M E :=
 ⟨h.mb,h.mi,λx hx=>by have:=h.ml x hx;omega,h.mn,h.eb,h.ei,λe he=>by rcases h.el e he with h1 | h1 <;> (left;omega),by have:=h.en;omega⟩
set_option maxHeartbeats 2000000 in
theorem QdD {L:LN}{w:World}{v:Value}{al:LI}{ns:LN}(h:QL L w.heap v al) (hb:∀e∈al,0≤e∧e<32) (hi:Yd al) (hn:ns.length=27) (hs:∀n∈ns,n<256) :
  QJ prog 130 [v,.agg (bys ns).toArray] w λr w'=>Step [] w w'∧∃a:QV,Xw w.heap.size w'.heap r a∧Zr a∧a.st≤5∧a.al=al ∧
   (ns.getD 0 0<250→∃a0:QV,Zr a0∧0<a0.st∧a0.st≤((1+ns.getD 0 0 % 5:Nat):Int)∧a=Yt a0):=by
 have kz:al.length≤32:=pig 32 al (hi.imp (λh=>by omega)) (λx hx=>by have:=hb x hx;omega);refine QJ.of_W func130 O ntmps130 results130 (by simp) ?_;have g0:=VU (ns:=ns) (j:=0) (by omega);have g1:=VU (ns:=ns) (j:=1) (by omega);have l0:=Xg hs 0;have l1:=Xg hs 1;refine Zb (ns.getD 0 0) λs0 ga=>?_;refine Zb (ns.getD 1 0) λm1 gb=>?_;rw[ga] at g0 l0;rw[gb] at g1 l1
 refine Qc<|xl O<|QT (us:=bys ns) O λb3 w1 h8 k0 h9=>xl O<|Qv (us:=[nS,.int .i64 0,nS,nS]) O λb4 w2 hu k4 hv=>xe ?_;have hr:=h8.trans hu;have hw:=h9.ext hu;have k5:=h8.size;have k6:=hu.size;have k7:=h9.lt;have k8:=hv.lt;refine Qf<|Qc<|x (Qa O)<|x (Qd hw O g0)<|x (ZU O O)<|xe<|Q7 rfl (λgc=>?_) (λgc=>?_)
 ·refine Qc<|Qb<|xl O<|xf<|(VQ (h.ext hr) (by omega)).mono ?_;rintro r3 w3 ⟨hA,vcl,rfl,T⟩;have hz:=Qt.ints (L:=[]) T (by omega) (by simp);refine xl O<|Qr (us:=[vcl,.int .i64 0,nS,nS]) (hv.ext hA) O O O O ⟨hz.one,O,O,O,U⟩ λw4 hB ge=>xe ?_;have gg:=Qj T hB (λb hb=>by have:=(Qk T b hb).1;simp;omega)
  refine Qn ⟨[.agg #[vcl,.int .i64 0,nS,nS]],⟨⟨_,O,QB O (ge.at (L:=[]) (by simp)).cells⟩,U⟩,(hr.trans hA).then1 hB (by omega),⟨al,0,[],[]⟩,?_,?_,(by decide:(0:Int)≤5),rfl,λh=>absurd h (by omega)⟩
  ·exact ⟨vcl,_,_,O,λL' gh=>⟨Qt.ints gg (by show al.length≤_;omega) (λb hb=>by have:=gh b hb;omega),Zo.nil _ _ _,Zo.nil _ _ _⟩⟩
  exact ⟨hb,hi,(by decide:(0:Int)≤0),(by decide:(0:Int)≤4096),by simp,by simp,by simp,by simp⟩
 refine Qi<|Qc<|Qb<|xl O<|xf<|(VQ (h.ext hr) (by omega)).mono ?_;rintro r5 w5 ⟨hC,vcl,rfl,T⟩;have hz:=Qt.ints (L:=[]) T (by omega) (by simp);refine xl rfl<|Qv (us:=[nS,.int .i64 0,nS,nS]) O λH w6 gi gk gl =>
  xl rfl<|Qr (us:=[vcl,.int .i64 0,nS,nS]) gl O O O O ⟨hz.one,O,O,O,U⟩ λw7 gm hD=>xe ?_
 have h0:Step [] w5 w7:=gi.then1 gm gk;have hg:=hC.trans h0;have k9:=hC.size;have ma:=h0.size;have mc:=hD.lt;refine Zb (1+s0 % 5) λS hS=>?_;have mf:1≤S∧S≤5:=by omega
 have gn:(1:Int)+(s0:Int) % 5=(S:Int):=by omega
 refine Qc<|x (Qa O)<|x (Qd (hw.ext hg) O g0)<|x (US (a:=(s0:Int)) (b:=5) O O (by omega) (by omega))<|x (ZL (k':=.i64) O ⟨by omega,by omega⟩)<|QN O O<|x (Qa O) <|
  xl rfl<|QG (u:=.int .i64 S) hD O (congrArg (Value.int .i64) gn) (by simp) rfl λI ha go=>xe ?_
 have mg:=ha.size;have mh:Step [H] w2 I:=(hg.any (L:=[H])).trans' ha;have hE:Step [] w I:=(hr.trans hg).then1 ha (by omega);have hH:QL [H] I.heap v al:=(h.up (L':=[H]) (λb hb=>.inr (by simp at hb;omega))).ext hE;have gp:Qt 3 w2.heap.size I vcl al:=Qj (Qm T h0) ha (λb hb=>by have:=QP T b hb;simp;omega);have hJ:=(hw.ext hg).step ha (by simp;omega)
 have gq:=(hv.ext hg).step ha (by simp;omega);have hh:H<I.heap.size:=by omega
 have n3:b3∉[H]:=by simp;omega
 have n4:b4∉[H]:=by simp;omega
 refine Qf<|Qc<|Qe<|Qg<|Qy (α:=Nat×Value×Value×LI×List Ed) [(6,8),(22,76)] (λz=>[(6,.int .i64 z.1)])
  (λz w'=>z.1≤S∧CrI I H vcl S z.2.1 z.2.2.1 z.2.2.2.1 z.2.2.2.2 w'∧GrI al S z.1 0 z.2.2.2.1 z.2.2.2.2∧∀x∈z.2.2.2.1,x<(z.1:Int)) (λz=>S - z.1) (by rfl) (0,nS,nS,[],[]) Z
  ⟨Lk _,⟨Step.refl _ _,go,QO _ _ _ _,QO _ _ _ _,Dj.nil' _⟩,⟨by simp,by simp,by simp,by simp,by simp,by simp,by simp,by simp⟩,by simp⟩ ?_
 rintro ⟨i,v1,v2,M,E⟩ g9 w9 ⟨gr,G,J,hM⟩;simp only[] at gr G J hM;have mj:=J.mn;have mo:=J.en;refine Qf<|Qc<|Qb<|x (Qa O)<|x (Qd G.B O O)<|x (QA O O)<|xe<|QE rfl (λgs=>?_) (λgs=>?_)
 ·have mq:i=S:=by omega
  refine Qw ?_;have gt:=Qt.ints (L:=[]) G.m (by omega) (by simp);have gu:=Z4.eds (L:=[]) G.e (by omega) (by simp);have gv:Qt 3 w2.heap.size w9 vcl al:=Qj gp G.st (λb hb=>by have:=QP T b hb;simp;omega);have gw:Zu [] w9.heap vcl v1 v2 ⟨al,(S:Int),M,E⟩:=⟨Qt.ints gv (by show al.length≤_;omega) (by simp),gt,gu⟩
  have h1:Zr ⟨al,(S:Int),M,E⟩:=⟨hb,hi,by simp only[];omega,by simp only[];omega,J.mb,J.mi,J.eb,J.ei⟩;have h2:=jc h1;have hK:Step [] w w9:=hE.then1 G.st (by omega);have gx:=gq.step G.st n4;have mu:=G.st.size;refine Qc<|x (Qs G.B O O)<|xl O<|xf<|(qY (a:=⟨al,(S:Int),M,E⟩) gw h1).mono ?_;rintro vr mv ⟨hL,hF⟩;obtain ⟨us,hN,hO,gy⟩:=Xv hF
  refine xl O<|Qr (us:=us) (gx.ext hL) O hN hO O gy λmw hP gz=>xe ?_;have g2:=hK.size;refine Qn ⟨[.agg us.toArray],⟨⟨_,O,QB hO (gz.at (L:=[]) (by simp)).cells⟩,U⟩,(hK.trans hL).then1 hP (by omega),Yt ⟨al,(S:Int),M,E⟩,?_,h2.1,?_,h2.2.1,λ_=>⟨⟨al,(S:Int),M,E⟩,h1,by simp only[];omega,by simp only[];omega,O⟩⟩
  ·show Xw _ _ (.agg us.toArray) _;rw[←hN];exact (Jj hF (by omega) hP).mono g2
  have:=h2.2.2;simp only[] at this;omega
 have h3:i<S:=by omega
 refine Qi<|Qf<|Qg<|QW (α:=Value×LI) [(28,39)] (λz=>[]) (λz w'=>CrI I H vcl S z.1 v2 z.2 E w'∧GrI al S i 0 z.2 E) (by rfl) ?_ ?_
 ·have g3:m1 / 2 ^ i<256:=Nat.lt_of_le_of_lt (Nat.div_le_self _ _) l1;refine Qc<|x (Qa O)<|x (Qd (hJ.step G.st n3) O g1)<|Qb<|x (zp (n:=i) O O (by show i≤8;omega))<|x (UU (a:=m1 / 2 ^ i) (b:=1) (congrArg (Value.int .u8) (yd m1 i)) O g3 (by decide))<|x (Q8 O O)<|xe<|QE O (λg4=>?_) (λg4=>?_)
  ·refine Qi ?_;exact ⟨(v1,M),U,G,J⟩
  refine Qx<|x (Qa O)<|x (Qd G.B O O)<|Qb<|xl O<|QC (us:=[[.int .i64 i]]) O O (by decide) (by simp) ⟨rfl,rfl,U⟩ λmy mz g5 m0 g6=>?_;have hj:=G.ext g5;refine xl O<|QU (news:=[.int .i64 i]) (L:=[]) hj.m O O O (g6.at (by simp)) (by simp[Value.oneCell']) (by omega) hj.st.size λhQ g7 g8 hR ka=>?_;have hT:Qt 3 I.heap.size g7 hQ (M++[(i:Int)]):=Qt.snoc g8
  refine x (Qa O)<|xl O<|QG (hj.B.step hR (QM hj.m hh)) O O (by simp) (Qt.ints (L:=[]) hT (by simp;omega) (by simp)).one λm2 kb kc =>
   xe ?_
  exact ⟨(hQ,M++[(i:Int)]),U,hj.setM hh hR hT ka kb kc,J.mark hM h3⟩
 rintro ⟨v3,M3⟩ m3 m4 ⟨hU,hV⟩;simp only[] at hU hV;refine Qc<|Qe<|Qg<|Qy (α:=Nat×Value×List Ed) [(7,8),(40,76)] (λz=>[(7,.int .i64 z.1)])
  (λz w'=>z.1≤al.length∧z.1≤5∧CrI I H vcl S v3 z.2.1 M3 z.2.2 w'∧GrI al S i z.1 M3 z.2.2) (λz=>5 - z.1) (by rfl) (0,v2,E) Z
  ⟨Lk _,Lk _,hU,hV⟩ ?_
 rintro ⟨k,vd,F⟩ m5 ke ⟨hk,hW,he,hf⟩;simp only[] at hk hW he hf;have kf:=hH.st he.st;have m6:=hf.en;refine Qf<|QW (α:=Unit) [(40,47)] (λz=>[(47,.bool (decide (k<al.length∧k<5)))]) (λz w'=>w'=ke) (by rfl) ?_ ?_
 ·refine Qx<|Qb<|Qb<|x (Qq kf O)<|xb (QA O O) (λhX=>?_) (λhX=>?_)
  ·refine Qb<|Qb<|x (QA O O)<|x (Qo O)<|xe<|⟨(),⟨congrArg Value.bool ?_,U⟩,O⟩;exact decide_eq_decide.2 ⟨λe=>⟨by omega,by omega⟩,λe=>by omega⟩
  refine Qb<|xs O<|xs O<|x (Qo O)<|xe ?_;exact ⟨(),⟨congrArg Value.bool (decide_eq_false (λe=>hX (by omega))).symm,U⟩,O⟩
 rintro _ m7 V rfl;refine QE rfl (λh4=>?_) (λh4=>?_)
 ·refine Qw<|Qx<|Qb<|QN O O<|Qe ?_;exact ⟨(i+1,v3,vd,M3,F),by simp only[];omega,Z,h3,he,hf.next hW,λx hx=>by have:=hf.ml x hx;simp only[];omega⟩
 have ho:k<al.length:=h4.1;have h5:k<5:=h4.2;have gj:=VU (ns:=ns) (j:=0+2+i*5+k*1) (by omega);have lj:=Xg hs (0+2+i*5+k*1);refine Zb (ns.getD (0+2+i*5+k*1) 0) λq hq=>?_;rw[hq] at gj lj;have kg:=hJ.step he.st n3;have kh:0≤(q:Int) % ((S:Int)+2):=Int.emod_nonneg _ (by omega);have m8:(q:Int) % ((S:Int)+2)<(S:Int)+2:=Int.emod_lt_of_pos _ (by omega)
 refine Qi<|Qf<|Qg<|Qf<|QS (Step [] V) [(0,true),(1,true),(2,true),(3,true),(4,true),(5,true),(6,true),(7,true),(8,true),(9,true),(10,true),(11,true)] mixed (by rfl) (by kernel_rfl) (Step.drew _ _) ?_;refine p (λ_=>Ql)<|p (λ_=>Ql)<|p (λ_=>Qa O)<|p (λ_=>ZF (i:=i) O O (by omega))<|p (λ_=>ZF (i:=k) O O h5)<|pq (λ_ hc=>Qd (kg.ext hc) O gj) <|
  p (λ_=>ZL (k':=.i64) O ⟨by omega,by omega⟩)<|p (λ_=>Qa O)<|pq (λ_ hc=>Qd (he.B.ext hc) O O)<|p (λ_=>X5 O O ⟨by omega,by omega⟩) <|
  p (λ_=>US (a:=(q:Int)) (b:=(S:Int)+2) O O (by omega) (by omega))<|p (λ_=>Qh)<|pe ?_
 have Y:=he.ext (Step.drew [] V);refine Zb ((q:Int) % ((S:Int)+2)) λt ht=>?_;have m9:0≤t:=by omega
 refine Qc<|Qb<|x (Qa O)<|x (Qd Y.B O O)<|x (QA O O)<|xe<|QE rfl (λki=>?_) (λki=>?_)
 ·refine Qi<|Qx<|Qb<|QN O O<|Qe ?_;exact ⟨(k+1,vd,F),by simp only[];omega,Z,ho,h5,Y,hf.skip ho⟩
 have kj:=Qk Y.e;have kk:QL (H::ob vd) { V with drawn:=V.drawn+1 }.heap v al:=((hH.up (L':=H::ob vd) (λb hb=>by
  rcases Lc.1 hb with rfl | hb
  ·exact .inl (by simp)
  exact .inr (kj b hb).1)).step Y.st (by simp))
 have kn:=QM Y.e hh;refine QS (Step (ob vd) { V with drawn:=V.drawn+1 }) [(0,true),(1,true),(2,true),(3,true),(4,true),(5,true),(6,true),(7,true),(8,true),(9,false),(10,false),(11,true),(12,false)] mixed (by rfl) (by kernel_rfl) (Step.drew _ _) ?_
 refine p (λ_=>Qa O)<|pq (λ_ hc=>Qd (Y.B.step hc kn) O O)<|p (λ_=>Ql)<|p (λ_=>Ql)<|p (λ_=>Ql) <|
  pic (i:=k) O kk O O ho λpa ko=>pq (λ_ hc=>Qu (ko.step hc (λb hb=>Ll _ hb)) O)<|p (λ_=>Ql)<|p (λ_=>QF ⟨O,O,O,U⟩) <|
  pk<|QC (us:=[Qz ((i:Int),cget al k,(q:Int) % ((S:Int)+2))]) O O (by decide) (by exact (by decide:1*3≤1000000)) ⟨O,O,U⟩ λpc pd kp pf kq=>?_
 have h6:=(Step.drew [] { V with drawn:=V.drawn+1 }).trans kp
 have hp:=Y.ext h6;refine ⟨h6.any,?_⟩;refine pk<|QU (news:=Qz ((i:Int),cget al k,(q:Int) % ((S:Int)+2))) (L:=[]) hp.e O O O (kq.at (by simp)) (λy hy=>by simp only[Qz,List.mem_cons,List.not_mem_nil,or_false] at hy;rcases hy with rfl | rfl | rfl <;> rfl) (by omega) hp.st.size λhY kr kt h7 ku=>⟨(h6.any (L:=ob vd)).trans' h7,?_⟩
 have hZ:Z4 144 I.heap.size kr hY (F++[((i:Int),cget al k,(q:Int) % ((S:Int)+2))]):=Z4.snoc kt;refine p (λ_=>Qa O)<|pkl (hl:=by kernel_rfl)<|QG (hp.B.step h7 (QM hp.e hh)) O O (by simp) (Z4.eds (L:=[]) hZ (by simp;omega) (by simp)).one λpg kv kw=>pe ?_;have ky:=hp.setE hh h7 hZ ku kv kw;refine Qx<|Qb<|QN O O<|Qe ?_
 exact ⟨(k+1,hY,F++[((i:Int),cget al k,(q:Int) % ((S:Int)+2))]),by simp only[];omega,Z,ho,h5,ky,hf.edge ho hi h3 kh (by omega)⟩
end Go.Proofs.YtdffckgdcegpaaaGreatDoor
namespace Go.Lg
section
variable {P:Program} {f:Fr} {w:World} {d:Option Nat} {ty:Nat} {ps:String} {af:Array Edge} {gd:Option (Nat×Bool)}
theorem VD {t sz:Nat}[Ag P t sz] {x:Operand}{b o T:Nat}{cs us:LV}(h:Q3 w.heap b T cs) (hx:ev f x=.pointer (some ⟨b,o,none⟩)) (hl:us.length=sz) (G:∀j u,us[j]?=some u→cs[o+j]?=some u) :
  (execOp (ev f) ⟨d,.load t x,ty,ps,af,gd⟩).run P w=.ok (.value (.agg us.toArray)) w:=by
 refine Ur hx hl λj u hu=>?_;rw[Jg,JU,h.cell];exact G j u hu
end
end Go.Lg
namespace Go.Proofs.YtdffckgdcegpaaaGreatDoor
open Go.Proofs.Tryz
open Go.Lg
theorem Qi5 {ns:LN}{o n:Nat}:∀j u,(bys ((ns.drop o).take n))[j]?=some u→(bys ns)[o+j]?=some u:=by
 intro j u h;simp only[bys,List.getElem?_map,List.getElem?_take,List.getElem?_drop] at h ⊢;split at h
 ·exact h
 cases h
theorem Qi6 {ns:LN}(h:∀n∈ns,n<256) (o n:Nat):∀m∈(ns.drop o).take n,m<256:=λm hm=>h m (Mz (LZ hm))
theorem Qb1 (m k:Nat):∀e∈setK m k,0≤e∧e<k:=by
 intro e he;simp only[setK,List.mem_map,List.mem_filter,List.mem_range'_1] at he;obtain ⟨i,⟨hi,_⟩,rfl⟩:=he;omega
theorem Qco (keep:Bool→Bool→Bool):∀(n:Nat) (a b:LI),a.length+b.length≤n→Yd a→Yd b→Yd (mrg keep a b):=by
 intro n;induction n with
 | zero =>
  intro a b h _ _;have ha:a=[]:=Lo (by omega);have hb:b=[]:=Lo (by omega);subst ha hb;rw[Jn];exact List.Pairwise.nil
 | succ n ih =>
  intro a b H ia ib;by_cases h:a=[]∧b=[]
  ·obtain ⟨rfl,rfl⟩:=h;rw[Jn];exact List.Pairwise.nil
  have I:=U9 h;have itl:∀(c:Bool) (l:LI),Yd l→Yd (tl c l):=λc l hl=>by
   cases c
   ·exact hl
   cases l with
   | nil=>exact hl
   | cons y l=>exact hl.tail
  have G:=ih (tl (Xe a b) a) (tl (Xe b a) b) (by omega) (itl _ _ ia) (itl _ _ ib);rw[Jb keep h];cases keep (Xe a b) (Xe b a) with
  | false=>simpa using G
  | true =>
   simp only[cond_true,List.singleton_append];refine LG.2 ⟨λx hx=>?_,G⟩;have hm:=(Ux (itl _ _ ia) (itl _ _ ib) x).1 hx;cases a with
   | nil =>
    cases b with
    | nil=>exact absurd ⟨O,O⟩ h
    | cons y b =>
     simp only[Xe,tl,cond_true,cond_false,List.tail_cons,List.not_mem_nil,false_or,Go.Proofs.YtdffckgdcegpaaaGreatDoor.hx,List.headD_cons] at hm ⊢;exact ib.lt_of hm.1
   | cons u a =>
    cases b with
    | nil =>
     simp only[Xe,tl,cond_true,cond_false,List.tail_cons,List.not_mem_nil,or_false,Go.Proofs.YtdffckgdcegpaaaGreatDoor.hx,List.headD_cons] at hm ⊢;exact ia.lt_of hm.1
    | cons y b =>
     rcases Int.lt_trichotomy u y with h1 | h1 | h1
     ·have e1:decide (u≤y)=true:=decide_eq_true (by omega);have e2:decide (y≤u)=false:=decide_eq_false (by omega);simp only[Xe,tl,e1,e2,cond_true,cond_false,List.tail_cons,Go.Proofs.YtdffckgdcegpaaaGreatDoor.hx,List.headD_cons] at hm ⊢;rcases hm.1 with h2 | h2
      ·exact ia.lt_of h2
      rcases Lc.1 h2 with h2 | h2
      ·omega
      have:=ib.lt_of h2;omega
     ·have e1:decide (u≤y)=true:=decide_eq_true (by omega);have e2:decide (y≤u)=true:=decide_eq_true (by omega);simp only[Xe,tl,e1,e2,cond_true,List.tail_cons,Go.Proofs.YtdffckgdcegpaaaGreatDoor.hx,List.headD_cons] at hm ⊢;rcases hm.1 with h2 | h2
      ·have:=ia.lt_of h2;omega
      have:=ib.lt_of h2;omega
     have e1:decide (u≤y)=false:=decide_eq_false (by omega);have e2:decide (y≤u)=true:=decide_eq_true (by omega);simp only[Xe,tl,e1,e2,cond_true,cond_false,List.tail_cons,Go.Proofs.YtdffckgdcegpaaaGreatDoor.hx,List.headD_cons] at hm ⊢;rcases hm.1 with h2 | h2
     ·rcases Lc.1 h2 with h2 | h2
      ·omega
      have:=ia.lt_of h2;omega
     exact ib.lt_of h2
end Go.Proofs.YtdffckgdcegpaaaGreatDoor
namespace Go.Lg
section
variable {P:Program} {f:Fr} {w:World} {d:Option Nat} {ty:Nat} {ps:String} {af:Array Edge} {gd:Option (Nat×Bool)} {all:List Oper} {C:World→Prop} {K:Fr→World→Prop}
theorem tp {l:List (Nat×Bool)}(h:XP P all C K l f w):XT P all C K (.pl l) f w:=h
end
end Go.Lg
namespace Go.Proofs.YtdffckgdcegpaaaGreatDoor
open Go.Lg
end Go.Proofs.YtdffckgdcegpaaaGreatDoor
namespace Go.Lg
section
variable {P:Program} {f:Fr} {w:World} {d:Option Nat} {ty:Nat} {ps:String} {af:Array Edge} {gd:Option (Nat×Bool)}
end
end Go.Lg
namespace Go.Proofs.YtdffckgdcegpaaaGreatDoor
open Go.Lg
section
variable {w4 w w' w'':World} {b:Nat} {m q:Bool} {ve vd:Value} {E D:LI}
end
end Go.Proofs.YtdffckgdcegpaaaGreatDoor
namespace Go.Lg
section
variable {P:Program} {f:Fr} {w:World} {d:Option Nat} {ty:Nat} {ps:String} {af:Array Edge} {gd:Option (Nat×Bool)}
end
end Go.Lg
namespace Go.Proofs.YtdffckgdcegpaaaGreatDoor
open Go.Lg
def grid (g:Nat→Int→Option Ed) (vs:LI) (n:Nat):List Ed:=(List.range' 0 n).flatMap λj=>vs.filterMap (g j)
theorem VO (g:Nat→Int→Option Ed) (vs:LI) (n:Nat):grid g vs (n+1)=grid g vs n++vs.filterMap (g n):=by
 unfold grid;rw[MO,Lz];simp
theorem Qae (l m:List Ed) (s v:Int):eget (l++m) s v=match eget l s v with | some u=>some u | none=>eget m s v:=by
 induction l with
 | nil=>rfl
 | cons e l ih =>
  rw[Mc,eget,eget];split
  ·rfl
  exact ih
def qH (g:Nat→Int→Option Ed):Prop:=∀j v e,g j v=some e→e.1=(j:Int)∧e.2.1=v
theorem Qac {g:Nat→Int→Option Ed}(E:qH g) (j:Nat) (v:Int):∀(vs:LI),eget (vs.filterMap (g j)) j v=if v∈vs then (g j v).map (·.2.2) else none
 | []=>by simp[eget]
 | u::vs=>by
  have ih:=Qac E j v vs;rw[Mq];cases hu:g j u with
  | none =>
   simp only[];rw[ih];by_cases e:v=u
   ·subst e;simp[hu]
   simp[e]
  | some e =>
   have he:=E j u e hu;simp only[];rw[eget];by_cases e2:u=v
   ·subst e2;rw[if_pos he,if_pos Ln,hu];rfl
   rw[if_neg (λh=>e2 (he.2.symm.trans h.2)),ih];simp[Ne.symm e2]
theorem Qab {g:Nat→Int→Option Ed}(E:qH g) {j i:Nat}(h:j≠i) (v:Int) (vs:LI):eget (vs.filterMap (g j)) i v=none:=by
 refine zJ λe he h2=>?_;obtain ⟨u,_,hu⟩:=MP.1 he;have:=E j u e hu;omega
theorem QdY {g:Nat→Int→Option Ed}(E:qH g) (vs:LI) (j:Nat) (v:Int):∀n,eget (grid g vs n) j v=if j<n∧v∈vs then (g j v).map (·.2.2) else none
 | 0=>by simp[grid,eget]
 | n+1=>by
  rw[VO,Qae,QdY E vs j v n];by_cases e:j=n
  ·subst e;rw[if_neg (by omega),Qac E];simp
  rw[Qab E (Ne.symm e)];by_cases h:j<n∧v∈vs
  ·rw[if_pos h,if_pos ⟨by omega,h.2⟩];cases (g j v).map (·.2.2) <;> rfl
  rw[if_neg h,if_neg (λh2=>h ⟨by omega,h2.2⟩)]
theorem j3 {g:Nat→Int→Option Ed}{vs:LI}{n:Nat}{e:Ed}(h:e∈grid g vs n):∃j v,j<n∧v∈vs∧g j v=some e:=by
 unfold grid at h;obtain ⟨j,E,h2⟩:=ME.1 h;obtain ⟨v,G,h3⟩:=MP.1 h2;rw[ML] at E;exact ⟨j,v,by omega,G,h3⟩
theorem QcF {g:Nat→Int→Option Ed}(E:qH g) {vs:LI}(hi:Yd vs):∀n,(grid g vs n).Pairwise λx y:Ed=>x.1<y.1∨(x.1=y.1∧x.2.1<y.2.1)
 | 0=>by simp[grid]
 | n+1=>by
  rw[VO,L0];refine ⟨QcF E hi n,Xd (r:=(·<·)) (λx y u v J hu G=>?_) hi,λe he H I=>?_⟩
  ·have h1:=E n x u hu;have h2:=E n y v G;right;omega
  obtain ⟨j,v,S,_,h1⟩:=j3 he;obtain ⟨v',_,h2⟩:=MP.1 I;have h3:=E j v e h1;have T:=E n v' H h2;left;omega
theorem QlZ (l:List QV):∀(acc:LI),(∀a∈l,Yd a.al)→Yd acc→Yd (l.foldl (λacc a=>mrg (· || ·) acc a.al) acc)∧∀x,x∈l.foldl (λacc a=>mrg (· || ·) acc a.al) acc↔x∈acc∨∃a∈l,x∈a.al:=by
 induction l with
 | nil=>intro acc _ h;exact ⟨h,λx=>by simp⟩
 | cons a l ih =>
  intro acc hl h;have ha:=hl a Ln;obtain ⟨h1,h2⟩:=ih (mrg (· || ·) acc a.al) (λb hb=>hl b (Ll _ hb)) (Qco _ _ _ _ (Lr _) h ha);rw[LO];refine ⟨h1,λx=>?_⟩;rw[h2 x,Ux h ha];simp only[List.mem_cons,exists_eq_or_imp];constructor
  ·rintro (⟨h3 | h3,_⟩ | h3)
   ·exact .inl h3
   ·exact .inr (.inl h3)
   exact .inr (.inr h3)
  rintro (h3 | h3 | h3)
  ·exact .inl ⟨.inl h3,by simp[h3]⟩
  ·exact .inl ⟨.inr h3,by simp[h3]⟩
  exact .inr h3
theorem QcL {l:List QV}(h:∀a∈l,Zr a):Yd (evs l):=(QlZ l [] (λa ha=>(h a ha).ali) (by simp)).1
theorem QcK {l:List QV}(h:∀a∈l,Zr a) (x:Int):x∈evs l↔∃a∈l,x∈a.al:=by
 have:=(QlZ l [] (λa ha=>(h a ha).ali) (by simp)).2 x;unfold evs;rw[this];simp
def syF (aa:List QV) (tup:List (LI)) (j:Nat) (v:Int):Option Ed:=(Yg v aa (tup.getD j [])).map λu=>((j:Int),v,(tup.idxOf u:Int))
theorem QjJ (aa:List QV) (tup:List (LI)):qH (syF aa tup):=by
 intro j v e h;unfold syF at h;obtain ⟨u,_,rfl⟩:=M0.1 h;exact ⟨O,O⟩
theorem j6 {α β:Type}{f g:α→Option β}:∀{l:List α},(∀x∈l,f x=g x)→l.filterMap f=l.filterMap g
 | [],_=>rfl
 | x::l,h=>by rw[Mq,Mq,h x Ln,j6 (λy hy=>h y (Ll _ hy))]
theorem Qga {α β:Type}{f:α→Option β}{v:α}{e:β}(h:f v=some e):[v].filterMap f=[e]:=by rw[Mq,h];rfl
theorem QiE {α β:Type}{f:α→Option β}{v:α}(h:f v=none):[v].filterMap f=[]:=by rw[Mq,h];rfl
theorem QeB {aa:List QV}{tup:List (LI)}{j:Nat}{v:Int}(h:Yg v aa (tup.getD j [])=none):syF aa tup j v=none:=by unfold syF;rw[h];rfl
theorem jt {aa:List QV}{tup:List (LI)}{j:Nat}{v:Int}{u:LI}(h:Yg v aa (tup.getD j [])=some u):syF aa tup j v=some ((j:Int),v,(tup.idxOf u:Int)):=by unfold syF;rw[h];rfl
def Clo (aa:List QV) (tup:List (LI)) (j:Nat) (vs:LI):Prop:=∀v∈vs,∀u,Yg v aa (tup.getD j [])=some u→u∈tup
theorem JY {tup r:List (LI)}{j:Nat}(h:j<tup.length):(tup++r).getD j []=tup.getD j []:=by simp[List.getD,List.getElem?_append_left h]
theorem QbV {aa:List QV}{tup r:List (LI)}{j:Nat}{vs:LI}(E:j<tup.length) (hc:Clo aa tup j vs):vs.filterMap (syF aa (tup++r) j)=vs.filterMap (syF aa tup j):=by
 refine j6 λv G=>?_;unfold syF;rw[JY E];cases H:Yg v aa (tup.getD j []) with
 | none=>rfl
 | some u =>
  have hu:=hc v G u H;simp only[Option.map_some,Option.some.injEq,Prod.mk.injEq,true_and];rw[MR,if_pos hu]
theorem Clo.pre {aa:List QV}{tup r:List (LI)}{j:Nat}{vs:LI}(E:j<tup.length) (hc:Clo aa tup j vs):Clo aa (tup++r) j vs:=by
 intro v G u hu;rw[JY E] at hu;exact LF _ (hc v G u hu)
theorem Qa9 {α:Type}{l:List α}{u:α}(h:l.Nodup) (hu:u∉l):(l++[u]).Nodup:=by
 rw[MM];exact ⟨h,by simp,λa ha b hb=>by simp only[List.mem_singleton] at hb;subst hb;exact λe=>hu (by rw[←e];exact ha)⟩
theorem zf {aa:List QV}{i:Nat}:∀(vs:LI) (s E:Sy),i<s.tup.length→s.tup.Nodup→UF aa i (zd s i) vs s=some E →
  ∃r,E.tup=s.tup++r∧E.mk'=s.mk'∧E.ed=s.ed++vs.filterMap (syF aa E.tup i)∧Clo aa E.tup i vs∧E.tup.Nodup
 | [],s,E,_,hd,e=>by cases e;exact ⟨[],by simp,rfl,by simp,λv V=>(by cases V),hd⟩
 | v::vs,s,E,hi,hd,e=>by
  rw[UF] at e;obtain ⟨G,h1,h2⟩:=MN.1 e;have key:∃J,G.tup=s.tup++J∧G.mk'=s.mk'∧G.ed=s.ed++[v].filterMap (syF aa G.tup i)∧Clo aa G.tup i [v]∧G.tup.Nodup:=by
   unfold syE at h1;have eT:zd s i=s.tup.getD i []:=rfl;rw[eT] at h1;cases H:Yg v aa (s.tup.getD i []) with
   | none =>
    rw[H] at h1;cases h1
    refine ⟨[],by simp,rfl,by rw[QiE (QeB H),List.append_nil],λv' hv' u hu=>?_,hd⟩;simp only[List.mem_singleton] at hv';subst hv';rw[H] at hu;cases hu
   | some u =>
    rw[H] at h1;simp only[] at h1;by_cases hu:u∈s.tup
    ·rw[if_pos hu] at h1;cases h1
     refine ⟨[],by simp,rfl,by rw[Qga (jt H)],λv' hv' Y I=>?_,hd⟩;simp only[List.mem_singleton] at hv';subst hv';simp only[] at I ⊢;rw[H] at I;cases I;exact hu
    rw[if_neg hu] at h1;split at h1
    ·cases h1
    cases h1
    have e2:(s.tup++[u]).getD i []=s.tup.getD i []:=JY hi;have e3:(s.tup++[u]).idxOf u=s.tup.length:=by rw[MR,if_neg hu];simp
    refine ⟨[u],O,O,?_,λv' hv' Y I=>?_,Qa9 hd hu⟩
    ·rw[Qga (jt (tup:=s.tup++[u]) (u:=u) (by rw[e2];exact H)),e3]
    simp only[List.mem_singleton] at hv';subst hv';simp only[] at I ⊢;rw[e2,H] at I;cases I;simp
  obtain ⟨J,k1,k2,k3,T,k5⟩:=key;have S:i<G.tup.length:=by rw[k1];simp;omega
  have eT:zd G i=zd s i:=by unfold zd;rw[k1];exact JY hi
  rw[←eT] at h2;obtain ⟨r2,g1,g2,g3,g4,g5⟩:=zf vs G E S k5 h2;refine ⟨J++r2,by rw[g1,k1,LA],g2.trans k2,?_,?_,g5⟩
  ·rw[g3,k3,LA];congr 1;rw[show v::vs=[v]++vs from rfl,List.filterMap_append];congr 1;rw[g1];exact (QbV S T).symm
  intro v' hv' u hu;rcases Lc.1 hv' with rfl | hv'
  ·have:=T.pre (r:=r2) S;rw[←g1] at this;exact this v' Ln u hu
  exact g4 v' hv' u hu
structure SyG (aa:List QV) (i:Nat) (s:Sy):Prop where
 nd:s.tup.Nodup
 le:i≤s.tup.length
 hd:s.tup.getD 0 []=List.replicate aa.length 0∧0<s.tup.length
 mk2:s.mk'=((List.range' 0 i).filter λj=>Xp aa (s.tup.getD j [])).map λj:Nat=>(j:Int)
 ed:s.ed=grid (syF aa s.tup) (evs aa) i
 cl:∀j,j<i→Clo aa s.tup j (evs aa)
theorem J0 {α β:Type}{f g:α→List β}:∀{l:List α},(∀x∈l,f x=g x)→l.flatMap f=l.flatMap g
 | [],_=>rfl
 | x::l,h=>by rw[LB,LB,h x Ln,J0 (λy hy=>h y (Ll _ hy))]
theorem SyG.next {aa:List QV}{i:Nat}{s E:Sy}(h:SyG aa i s) (hi:i<s.tup.length) (e:UF aa i (zd s i) (evs aa) (ZI aa i (zd s i) s)=some E):SyG aa (i+1) E:=by
 have H:(ZI aa i (zd s i) s).tup=s.tup:=by unfold ZI;split <;> rfl
 have T:(ZI aa i (zd s i) s).ed=s.ed:=by unfold ZI;split <;> rfl
 have J:zd (ZI aa i (zd s i) s) i=zd s i:=by show (ZI aa i (zd s i) s).tup.getD i []=s.tup.getD i [];rw[H]
 rw[←J] at e;obtain ⟨r,g1,V,S,Y,g5⟩:=zf (evs aa) _ E (by rw[H];exact hi) (by rw[H];exact h.nd) (by rw[J] at e ⊢;exact e);rw[H] at g1;rw[T] at S;have pre:∀j,j≤i→E.tup.getD j []=s.tup.getD j []:=λj G=>by rw[g1];exact JY (by omega)
 refine ⟨g5,by rw[g1];simp;omega,⟨by rw[pre 0 (by omega)];exact h.hd.1,by rw[g1];simp;omega⟩,?_,?_,λj G=>?_⟩
 ·rw[V,MO,L3,Ls,LP];have e1:((List.range' 0 i).filter λj=>Xp aa (E.tup.getD j []))=(List.range' 0 i).filter λj=>Xp aa (s.tup.getD j []):=by
   refine List.filter_congr λj G=>?_;rw[ML] at G;rw[pre j (by omega)]
  rw[e1];unfold ZI;by_cases hm:Xp aa (zd s i)=true
  ·rw[if_pos hm];have I:Xp aa (E.tup.getD i [])=true:=by rw[pre i (Lr _)];exact hm
   simp only[List.filter_cons,I,if_true,List.filter_nil,List.map_cons,List.map_nil];rw[h.mk2]
  rw[if_neg hm];have I:Xp aa (E.tup.getD i [])=false:=by rw[pre i (Lr _)];exact eq_false_of_ne_true hm
  rw[MD,if_neg (by rw[I];simp),M6,h.mk2];simp
 ·rw[S,VO,h.ed];congr 1;unfold grid;refine J0 λj G=>?_;rw[ML] at G;rw[g1];exact (QbV (by omega) (h.cl j (by omega))).symm
 by_cases e2:j=i
 ·subst e2;exact Y
 have:=(h.cl j (by omega)).pre (r:=r) (by omega);rw[←g1] at this;exact this
theorem js {aa:List QV}:∀(f i:Nat) (s E:Sy),SyG aa i s→syL aa f i s=some E→∃G,SyG aa G E∧(E.tup.length=G∨G=i+f)
 | 0,i,s,E,h,e=>by cases e;exact ⟨i,h,.inr O⟩
 | f+1,i,s,E,h,e=>by
  rw[syL] at e;split at e
  ·rename_i hi;obtain ⟨H,h1,h2⟩:=MN.1 e;obtain ⟨G,h3,I⟩:=js f (i+1) H E (h.next hi h1) h2;exact ⟨G,h3,by omega⟩
  cases e;exact ⟨i,h,.inl (by have:=h.le;omega)⟩
structure SyP (aa:List QV) (A:QV) (Q:List (LI)):Prop where
 al:A.al=evs aa
 st:A.st=(Q.length:Int)
 nd:Q.Nodup
 v:∀t∈Q,Vt aa t
 le:Q.length≤4096
 hd:0<Q.length→Q.getD 0 []=List.replicate aa.length 0
 mk2:A.mr=((List.range' 0 Q.length).filter λj=>Xp aa (Q.getD j [])).map λj:Nat=>(j:Int)
 ed:A.ed=grid (syF aa Q) (evs aa) Q.length
 cl:∀j,j<Q.length→Clo aa Q j (evs aa)
theorem Xi {aa:List QV}(H:∀a∈aa,Zr a) {A:QV}{Q:List (LI)}(h:sync aa=some (A,Q)):SyP aa A Q∧(Q.length=0↔∃a∈aa,a.st=0):=by
 have E:=Un H h;unfold sync at h;split at h
 ·rename_i hz;cases h
  exact ⟨⟨O,O,by simp,by simp,by simp,λh=>by simp at h,by simp,by simp[grid],λj G=>by simp at G⟩,by simpa using hz⟩
 rename_i hz;obtain ⟨s,h1,h2⟩:=M0.1 h;have I:SyG aa 0 (zg aa):=⟨by simp[zg],by simp,⟨by simp[zg],by simp[zg]⟩,by simp[zg],by simp[zg,grid],λj G=>by omega⟩;obtain ⟨J,h3,T⟩:=js 4096 0 (zg aa) s I h1;cases h2
 have hl:J=s.tup.length:=by
  have h5:=h3.le;have S:=E.2;simp only[] at S;omega
 subst hl;refine ⟨⟨rfl,O,h3.nd,E.1,E.2,λ_=>h3.hd.1,h3.mk2,h3.ed,h3.cl⟩,?_⟩;have:=h3.hd.2;constructor
 ·intro h;have V:s.tup.length=0:=h;omega
 intro h;exact absurd h hz
theorem SyP.to {aa:List QV}{A:QV}{Q:List (LI)}(h:SyP aa A Q) {j:Nat}(E:j<Q.length) {v:Int}(G:v∈evs aa) {u:LI}(hu:Yg v aa (Q.getD j [])=some u):Q.idxOf u<Q.length∧Q.getD (Q.idxOf u) []=u:=by
 have hm:=h.cl j E v G u hu;have hl:=MJ hm;refine ⟨hl,?_⟩;simp[List.getD,hl]
theorem SyP.okay {aa:List QV}(E:∀a∈aa,Zr a) {A:QV}{Q:List (LI)}(h:SyP aa A Q):Zr A:=by
 have S:=h.le;refine ⟨λe he=>?_,by rw[h.al];exact QcL E,by rw[h.st];omega,by rw[h.st];omega,λs G=>?_,?_,λe he=>?_,by rw[h.ed];exact QcF (QjJ aa Q) (QcL E) _⟩
 ·rw[h.al] at he;obtain ⟨a,ha,hx⟩:=(QcK E e).1 he;exact (E a ha).al e hx
 ·rw[h.mk2] at G;simp only[List.mem_map,List.mem_filter,List.mem_range'_1] at G;obtain ⟨i,⟨hi,_⟩,rfl⟩:=G;rw[h.st];omega
 ·rw[h.mk2];unfold Yd;rw[Mn];refine List.Pairwise.sublist M8 ?_;exact (Nr (s:=0) (n:=Q.length)).imp (λh=>by omega)
 rw[h.ed] at he;obtain ⟨j,v,J,H,I⟩:=j3 he;unfold syF at I;obtain ⟨u,hu,rfl⟩:=M0.1 I;have:=(h.to J H hu).1;rw[h.st,h.al];exact ⟨by simp only[];omega,by simp only[];omega,H,by simp only[];omega,by simp only[];omega⟩
end Go.Proofs.YtdffckgdcegpaaaGreatDoor
namespace Go.Lg
open Go.RowKit
instance:LawfulBEq ByteArray where
 eq_of_beq h:=(MapKept.bytes_beq _ _).1 h;rfl:=(MapKept.bytes_beq _ _).2 O
def chr (s:ByteArray) (i:Nat):Nat:=(s.get! i).toNat
theorem QkX {s:ByteArray}{i:Nat}(h:i<s.size):(s[i]'h).toNat=chr s i:=by
 unfold chr;obtain ⟨d⟩:=s;have hd:i<d.size:=h;simp[ByteArray.get!,hd,ByteArray.getElem_eq_getElem_data]
theorem Qd4 {a b:ByteArray}(h:a.data.toList=b.data.toList):a=b:=by
 obtain ⟨⟨x⟩⟩:=a;obtain ⟨⟨y⟩⟩:=b;have h':x=y:=h;rw[h']
theorem bytes_beq (a b:ByteArray):(a.toList == b.toList)=decide (a=b):=by
 rw[ByteArray.toList_eq,ByteArray.toList_eq];by_cases h:a=b
 ·subst h;simp
 rw[decide_eq_false h];have:a.data.toList≠b.data.toList:=λe=>h (Qd4 e);simpa using this
section
variable {P:Program} {f:Fr} {w:World} {d:Option Nat} {ty:Nat} {ps:String} {af:Array Edge} {gd:Option (Nat×Bool)} {t t':Nat} {x y:Operand}
theorem Qe5 [h:St P t] {s:ByteArray}{k:IntKind}{i:Nat}(hx:ev f x=.string s) (hy:ev f y=.int k i) (hi:i<s.size) :
  (execOp (ev f) ⟨d,.index t x y,ty,ps,af,gd⟩).run P w=.ok (.value (.int .u8 (chr s i))) w:=by
 have h1:=run_index_string (P:=P) w t s k i h.u;rw[dif_pos ⟨by omega,by omega⟩] at h1;have e:(s[(i:Int).toNat]'(by simpa using hi)).toNat=chr s i:=QkX hi;simp only[execOp,hx,hy,Sem.run_bind,h1,Result.andThen_ok,Sem.run_pure,e]
theorem Qa3 [h:St P t] {s:ByteArray}(hx:ev f x=.string s) :
  (execOp (ev f) ⟨d,.call ⟨.builtin .len,#[x],#[t]⟩,ty,ps,af,gd⟩).run P w=.ok (.value (.int .i64 s.size)) w:=Qe4 h.u hx
theorem yp {a b:ByteArray}(hx:ev f x=.string a) (hy:ev f y=.string b) :
  (execOp (ev f) ⟨d,.binOp .eql t x y t',ty,ps,af,gd⟩).run P w=.ok (.value (.bool (decide (a=b)))) w:=by
 have E:(eqGuard .eql t x y (.string a) (.string b)).run P w=.ok () w:=by simp[eqGuard]
 simp only[execOp,hx,hy,Sem.run_bind,E,Result.andThen_ok,binOp_string_eql,Sem.run_pure,bytes_beq]
theorem Z7 {a b:ByteArray}(hx:ev f x=.string a) (hy:ev f y=.string b) (hl:a.size+b.size≤1000000000) :
  (execOp (ev f) ⟨d,.binOp .add t x y t',ty,ps,af,gd⟩).run P w=.ok (.value (.string (a++b))) w:=by
 have E:(eqGuard .add t x y (.string a) (.string b)).run P w=.ok () w:=by simp[eqGuard]
 have G:¬(((a.size+b.size:Nat):Int) > IntKind.i64.max):=by
  rw[show IntKind.i64.max=9223372036854775807 from rfl];omega
 simp only[execOp,hx,hy,Sem.run_bind,E,Result.andThen_ok,binOp_string_add,Op.stringOp,if_neg G,Sem.run_pure]
theorem Qb7 {a b:Nat}(hx:ev f x=.int .u16 a) (hy:ev f y=.int .u16 b) (ha:a<65536) (hb:b<65536) :
  (execOp (ev f) ⟨d,.binOp .and t x y t',ty,ps,af,gd⟩).run P w=.ok (.value (.int .u16 ((a &&& b:Nat):Int))) w:=by
 refine YW hx hy ?_;have hi:inK .u16 ((a &&& b:Nat):Int):=by
  have:a &&& b≤a:=Nat.and_le_left;exact ⟨by omega,by omega⟩
 simp only[binOp,Op.intBits,BitVec.ofInt_natCast,ne_eq,not_true_eq_false,if_false,Sem.run_pure];rw[BitVec.toNat_and,BitVec.toNat_ofNat,BitVec.toNat_ofNat,My (show a<2 ^ IntKind.u16.bits from ha),My (show b<2 ^ IntKind.u16.bits from hb),Ye hi]
theorem Qcd {a b:Nat}(ha:a<65536) (hb:b<65536):a ||| b<65536:=Nat.or_lt_two_pow (n:=16) ha hb
theorem yn {a b:Nat}(hx:ev f x=.int .u16 a) (hy:ev f y=.int .u16 b) (ha:a<65536) (hb:b<65536) :
  (execOp (ev f) ⟨d,.binOp .or t x y t',ty,ps,af,gd⟩).run P w=.ok (.value (.int .u16 ((a ||| b:Nat):Int))) w:=by
 refine YW hx hy ?_;have hi:inK .u16 ((a ||| b:Nat):Int):=by
  have:=Qcd ha hb;exact ⟨by omega,by omega⟩
 simp only[binOp,Op.intBits,BitVec.ofInt_natCast,ne_eq,not_true_eq_false,if_false,Sem.run_pure];rw[BitVec.toNat_or,BitVec.toNat_ofNat,BitVec.toNat_ofNat,My (show a<2 ^ IntKind.u16.bits from ha),My (show b<2 ^ IntKind.u16.bits from hb),Ye hi]
theorem Qa4 {a b:Nat}(hx:ev f x=.int .u16 a) (hy:ev f y=.int .u16 b) (ha:a<65536) (hb:b<65536) :
  (execOp (ev f) ⟨d,.binOp .andNot t x y t',ty,ps,af,gd⟩).run P w=.ok (.value (.int .u16 ((a &&& (65535 ^^^ b):Nat):Int))) w:=by
 refine YW hx hy ?_;have hi:inK .u16 ((a &&& (65535 ^^^ b):Nat):Int):=by
  have:a &&& (65535 ^^^ b)≤a:=Nat.and_le_left;exact ⟨by omega,by omega⟩
 have e:(~~~(BitVec.ofNat IntKind.u16.bits b))=BitVec.ofNat IntKind.u16.bits (65535 ^^^ b):=by
  have E:BitVec.allOnes 16=BitVec.ofNat 16 65535:=by decide
  have G:∀z:BitVec 16,~~~z=BitVec.allOnes 16 ^^^ z:=λz=>by
   first
   | exact BitVec.allOnes_xor.symm
   | exact (BitVec.xor_allOnes.symm.trans (BitVec.xor_comm _ _))
  show ~~~(BitVec.ofNat 16 b)=BitVec.ofNat 16 (65535 ^^^ b);rw[G,E];apply BitVec.eq_of_toNat_eq;simp only[BitVec.toNat_xor,BitVec.toNat_ofNat];rw[My (show 65535<2 ^ 16 by decide),My (show b<2 ^ 16 from hb)];rw[My (Nat.xor_lt_two_pow (n:=16) (by decide) hb)]
 simp only[binOp,Op.intBits,BitVec.ofInt_natCast,ne_eq,not_true_eq_false,if_false,Sem.run_pure];rw[e,BitVec.toNat_and,BitVec.toNat_ofNat,BitVec.toNat_ofNat,My (show a<2 ^ IntKind.u16.bits from ha),My (show 65535 ^^^ b<2 ^ IntKind.u16.bits from Nat.xor_lt_two_pow (n:=16) (by decide) hb),Ye hi]
theorem Qb5 {k k':IntKind}{a:Int}{n:Nat}(hx:ev f x=.int k a) (hy:ev f y=.int k' n) (E:n≤k.bits) (hi:inK k (a*2 ^ n)) :
  (execOp (ev f) ⟨d,.binOp .shl t x y t',ty,ps,af,gd⟩).run P w=.ok (.value (.int k (a*2 ^ n))) w:=by
 refine YW hx hy ?_;have h1:¬((n:Int)<0):=by omega
 simp only[binOp,Op.shift,h1,if_false,Int.toNat_natCast,Nat.min_eq_left E,Sem.run_pure];rw[Ye hi]
end
section
variable {P:Program} {ops:List Oper} {K:Fr→World→Prop} {f:Fr} {w:World} {d:Option Nat} {ty:Nat} {ps:String} {af:Array Edge} {gd:Option (Nat×Bool)} {l:List Oper}
 {t e sz bys:Nat} {z:Value} {x y1 y2:Operand} {L:LN} {v:Value} {n:Nat} {cs:LV} {H:Array Obj} {k k':IntKind} {hi:Nat}
theorem QeZ [h:Sl P t e sz bys z] (E:Zo L H v n sz cs) (hx:ev f x=v) (G:ev f y1=.int k hi) (hm:ev f y2=.int k' hi) (h1:hi≤n) :
  ∃v',Zo L H v' hi sz (cs.take (hi*sz))∧∀w,(execOp (ev f) ⟨d,.slice t x none (some y1) (some y2),ty,ps,af,gd⟩).run P w=.ok (.value v') w:=by
 obtain ⟨ii,I,_,T,_⟩:=Sl.info h;rcases E.2.2 with ⟨rfl,rfl⟩ | ⟨a,cap,rfl,hc,J⟩
 ·have S:hi=0:=by omega
  subst S;refine ⟨nS,?_,λw=>?_⟩
  ·rw[Nat.zero_mul,M4];exact Zo.nil _ _ _
  simp[execOp,hx,G,hm,Instr.sliceAt,Instr.slice,Instr.sliceBounds,Instr.sliceBound,asIntOf,run_underlying h.u,sizeOf,typeInfo,I]
 refine ⟨.slice (some a) hi hi,⟨?_,by have:=E.2.1;omega,.inr ⟨a,hi,O,Lr _,λu hu=>J.out u (LZ hu),λu hu=>J.lt u (LZ hu),λj u hu=>?_⟩⟩,λw=>?_⟩
 ·rw[Lx,E.1,MI (Mr _ h1)]
 ·rw[LW] at hu;split at hu
  ·exact J.cell j u hu
  cases hu
 by_cases S:hi=0
 ·subst S;simp[execOp,hx,G,hm,Instr.sliceAt,Instr.slice,Instr.sliceBounds,Instr.sliceBound,asIntOf,run_underlying h.u,sizeOf,typeInfo,I]
 simp[execOp,hx,G,hm,Instr.sliceAt,Instr.slice,Instr.sliceBounds,Instr.sliceBound,asIntOf,run_underlying h.u,sizeOf,typeInfo,I,Addr.add];intro h9;omega
end
section
variable {P:Program} {ops l:List Oper} {K:Fr→World→Prop} {f:Fr} {w:World} {o:Oper} {C:World→Prop} {pl:List (Nat×Bool)} {i:Nat}
theorem xB {b:Bool}(E:(execOp (ev f) o).run P w=.ok (.value (.bool b)) w) (I:b=true→XL P ops K l (QX f o.dst (.bool true)) w) (J:b=false→XL P ops K l (QX f o.dst (.bool false)) w)
  (G:Yc ops f o=true:=by rfl):XL P ops K (o::l) f w:=by
 cases hb:b with
 | true=>rw[hb] at E;exact x E (I hb) G
 | false=>rw[hb] at E;exact x E (J hb) G
theorem pB {b:Bool}(E:∀w',(execOp (ev f) (Q6 ops i)).run P w'=.ok (.value (.bool b)) w') (I:b=true→XP P ops C K pl (QX f (Q6 ops i).dst (.bool true)) w) (J:b=false→XP P ops C K pl (QX f (Q6 ops i).dst (.bool false)) w)
  (G:Yc ops f (Q6 ops i)=true:=by rfl):XP P ops C K ((i,true)::pl) f w:=by
 cases hb:b with
 | true=>rw[hb] at E;exact p E (I hb) G
 | false=>rw[hb] at E;exact p E (J hb) G
theorem Qgq {G:Prop} (b:Bool) (E:b=true→G) (I:b=false→G):G:=by cases h:b with | true=>exact E h | false=>exact I h
theorem bT {q:Prop}[Decidable q] (h:q):true=decide q:=(decide_eq_true h).symm
theorem bF {q:Prop}[Decidable q] (h:¬q):false=decide q:=(decide_eq_false h).symm
theorem bD {q r:Prop}[Decidable q] [Decidable r] (h:q↔r):decide q=decide r:=decide_eq_decide.2 h
end
section
variable {P:Program} {f:Fr} {w:World} {d:Option Nat} {ty:Nat} {ps:String} {af:Array Edge} {gd:Option (Nat×Bool)} {t:Nat} {x:Operand}
theorem UT {q:Prop}[Decidable q] (hx:ev f x=.bool (decide q)):(execOp (ev f) ⟨d,.unOp .not t x,ty,ps,af,gd⟩).run P w=.ok (.value (.bool (decide (¬q)))) w:=by
 rw[Zm hx];simp
end
end Go.Lg
namespace Go.Proofs.YtdffckgdcegpaaaGreatDoor
open Go.Lg
structure Km where
 nm:ByteArray
 co:Bool
 ob:Bool
 fo:Bool
 fl:Int
structure YH where
 nm:ByteArray
 a:QV
structure jo where
 nm:ByteArray
 ls:List (Int×Int)
structure Xj where
 nm:ByteArray
 ts:List (Int×Int)
 bd:Int
structure Zw where
 ev:List Km
 co:List YH
 rq:List YH
 ex:List jo
 cs:List Xj
def JJ (n:Nat):LI:=(List.range n).map λi:Nat=>(i:Int)
def nmP (i c:Nat):Prop:=((97≤c∧c≤122)∨(65≤c∧c≤90)∨c=95)∨(i≠0∧48≤c∧c≤57)
instance (i c:Nat):Decidable (nmP i c):=by unfold nmP;infer_instance
def nmQ (s:ByteArray) (i:Nat):Bool:=decide (nmP i (chr s i))
def Yz (s:ByteArray):Bool:=(List.range' 0 s.size).all (nmQ s) && decide (0<s.size∧s.size≤32)
def Xa (seen:List ByteArray) (e:Km):Int:=if Yz e.nm=false then 7 else if e.nm∈seen then 8 else if e.fl<0∨4<e.fl then 2 else if e.fl≠0∧(e.co || e.ob)=true then 13 else 0
def V6:List ByteArray→List Km→Int
 | _,[]=>0
 | seen,e::l=>if Xa seen e≠0 then Xa seen e else V6 (seen++[e.nm]) l
def Js (l:List Km):Int:=if 32<l.length then 3 else V6 [] l
def ixs {α:Type}(q:α→Bool):Nat→List α→LI
 | _,[]=>[]
 | i,e::l=>if q e=true then (i:Int)::ixs q (i+1) l else ixs q (i+1) l
def unc (l:List Km):LI:=ixs (λe=>!e.co) 0 l
def YN (sz:LI):Option Int→List (Int×Int)→Int
 | _,[]=>0
 | pr,l::ls=>if l.1<0∨(sz.length:Int)≤l.1 then 2 else if U3 pr l.1=true then 5 else if l.2<0∨cget sz l.1.toNat≤l.2 then 2 else YN sz (some l.1) ls
def XS (sz:LI) (ls:List (Int×Int)):Int:=if ls.length=0 then 12 else YN sz none ls
def grt (n:Int):Bool:=decide (n < -65536) || decide (65536<n)
def Y9 (sz:LI):Option Int→List (Int×Int)→Int
 | _,[]=>0
 | pr,l::ls=>if l.1<0∨(sz.length:Int)≤l.1 then 2 else if U3 pr l.1=true then 5 else if l.2=0∨grt l.2=true then 2 else Y9 sz (some l.1) ls
def YE (sz:LI) (k:Xj):Int:=if k.ts.length=0 then 12 else if Y9 sz none k.ts≠0 then Y9 sz none k.ts else if grt k.bd=true then 2 else 0
def J2 (seen:List ByteArray) (s:ByteArray):Int:=if Yz s=false then 7 else if s∈seen then 8 else 0
def Z9 (sz:LI):List ByteArray→List jo→Int
 | _,[]=>0
 | seen,x::l=>if J2 seen x.nm≠0 then J2 seen x.nm else if XS sz x.ls≠0 then XS sz x.ls else Z9 sz (seen++[x.nm]) l
def YB (sz:LI):List ByteArray→List Xj→Int
 | _,[]=>0
 | seen,x::l=>if J2 seen x.nm≠0 then J2 seen x.nm else if YE sz x≠0 then YE sz x else YB sz (seen++[x.nm]) l
def JD (n:Int):Bool:=decide (n<1) || decide (4096<n)
def Ys (sz:LI) (ex:List jo) (cs:List Xj):Int:=if 8<sz.length then 3 else if sz.any JD=true then 2 else if 32<ex.length∨32<cs.length then 3 else if Z9 sz [] ex≠0 then Z9 sz [] ex else YB sz [] cs
def mns (a b:LI):LI:=mrg (λp q=>p && !q) a b
def JW (a:QV):Bool:=decide (Jt a=0) && decide ((JG a).st=a.st∧(JG a).al=a.al∧(JG a).mr=a.mr∧(JG a).ed=a.ed)
def Z1 (nev:Nat) (amg:LI) (seen:List ByteArray) (x:YH):Int :=
 if Yz x.nm=false then 7 else if x.nm∈seen then 8 else if Jt x.a≠0 then Jt x.a else if JW x.a=false then 6 else if x.a.st=0 then 12 else
 if (x.a.al.any λe=>decide ((nev:Int)≤e))=true then 2 else if (mns x.a.al amg).length≠0 then 9 else 0
def Z5 (nev:Nat) (al:LI):List ByteArray→LI→List YH→Int×List ByteArray×LI
 | s,u,[]=>(0,s,u)
 | s,u,x::l=>if Z1 nev al s x≠0 then (Z1 nev al s x,s,u) else Z5 nev al (s++[x.nm]) (mrg (· || ·) u x.a.al) l
def Je (nev:Nat) (u:LI):List ByteArray→List YH→Int
 | _,[]=>0
 | s,x::l=>if Z1 nev u s x≠0 then Z1 nev u s x else Je nev u (s++[x.nm]) l
def szs (l:List YH):LI:=l.map (·.a.st)
def auts (l:List YH):List QV:=l.map (·.a)
def Zc (c:Zw):Int :=
 if Js c.ev≠0 then Js c.ev else if c.co.length=0 then 12 else if 8<c.co.length∨12<c.co.length+c.rq.length then 3 else
 if (Z5 c.ev.length (JJ c.ev.length) [] [] c.co).1≠0 then (Z5 c.ev.length (JJ c.ev.length) [] [] c.co).1 else
 if Je c.ev.length (Z5 c.ev.length (JJ c.ev.length) [] [] c.co).2.2 (Z5 c.ev.length (JJ c.ev.length) [] [] c.co).2.1 c.rq≠0 then Je c.ev.length (Z5 c.ev.length (JJ c.ev.length) [] [] c.co).2.2 (Z5 c.ev.length (JJ c.ev.length) [] [] c.co).2.1 c.rq else
 Ys (szs c.co) c.ex c.cs
def Ks (t:LI) (x:jo):Bool:=x.ls.all λl=>decide (t.getD l.1.toNat 0=l.2)
def Qlx (t:LI) (k:Xj):Int:=k.ts.foldl (λs p=>s+p.2*t.getD p.1.toNat 0) 0
def Vx (t:LI) (k:Xj):Bool:=decide (k.bd<Qlx t k)
def fix {α:Type}(q:α→Bool):Nat→List α→Int
 | _,[]=>-1
 | i,e::l=>if q e=true then (i:Int) else fix q (i+1) l
def vio (c:Zw) (t:LI):Option (Int×Int) :=
 if 0≤fix (Ks t) 0 c.ex then some (1,fix (Ks t) 0 c.ex) else if 0≤fix (Vx t) 0 c.cs then some (2,fix (Vx t) 0 c.cs) else none
def rfr (v:Int):Nat→List YH→LI→Int
 | i,x::l,s::ss=>if v∈x.a.al∧(eget x.a.ed s v).isSome=false then (i:Int) else rfr v (i+1) l ss
 | _,_,_=>-1
structure Rsn where
 st:Int
 kd:Int
 ix:Int
 ev:Int
def rfd (c:Zw) (rs:LI):LI→Option (Int×Int)
 | []=>none
 | v::l=>if 0≤rfr v 0 c.rq rs∧(c.ev.getD v.toNat ⟨.empty,false,false,false,0⟩).co=false then some (rfr v 0 c.rq rs,v) else rfd c rs l
def QdW (a:QV) (s:Int):LI:=(ZK a.ed s).map (·.2.1)
def rsn (c:Zw) (pl:QV) (plc:Int) (i:Nat) (t:LI):Option Rsn :=
 match vio c (t.take c.co.length) with
 | some (k,j)=>some ⟨i,k,j,-1⟩
 | none=>match rfd c (t.drop c.co.length) (QdW pl plc) with
  | some (j,v)=>some ⟨i,3,j,v⟩
  | none=>none
structure Spc where
 a:QV
 co:List (LI)
 rq:List (LI)
 pl:LI
 fb:List Rsn
def plx (ps:List (LI)) (t:LI):Int:=if t∈ps then (ps.idxOf t:Int) else 0
def QjP (c:Zw) (pl:QV) (ps:List (LI)) (s:Spc) (p:LI×Nat):Spc :=
 ⟨s.a,s.co++[p.1.take c.co.length],s.rq++[p.1.drop c.co.length],s.pl++[plx ps (p.1.take c.co.length)],
  match rsn c pl (plx ps (p.1.take c.co.length)) p.2 p.1 with | some r=>s.fb++[r] | none=>s.fb⟩
def Yy (c:Zw):Int:=if Zc c≠0 then Zc c else if Vu (auts c.co)≠0 then Vu (auts c.co) else match sync (auts c.co) with
 | none=>3
 | some _=>if Vu (auts c.co++auts c.rq)≠0 then Vu (auts c.co++auts c.rq) else match sync (auts c.co++auts c.rq) with
  | none=>3
  | some _=>0
def syA (l:List QV):QV:=match sync l with | none=>⟨[],0,[],[]⟩ | some z=>z.1
def syQ (l:List QV):List (LI):=match sync l with | none=>[] | some z=>z.2
def spc (c:Zw):Spc:=(syQ (auts c.co++auts c.rq)).zipIdx.foldl (QjP c (syA (auts c.co)) (syQ (auts c.co))) ⟨syA (auts c.co++auts c.rq),[],[],[],[]⟩
end Go.Proofs.YtdffckgdcegpaaaGreatDoor
namespace Go.Lg
section
variable {P:Program} {f:Fr} {w:World} {d:Option Nat} {ty:Nat} {ps:String} {af:Array Edge} {gd:Option (Nat×Bool)}
end
inductive Pu where
 | pl (l:List (Nat×Bool))
 | f2 (pre:List (Nat×Bool)) (i j:Nat) (t1 t2:Pu)
 | f3 (pre:List (Nat×Bool)) (i j k:Nat) (t1 t2 t3:Pu)
def Pu.len:Pu→Nat
 | .pl l=>l.length
 | .f2 pre _ _ t1 _=>pre.length+(1+t1.len)
 | .f3 pre _ _ _ t1 _ _=>pre.length+(1+t1.len)
def yr (all:Array Oper):Pu→Array Bool→Bool
 | .pl l,ls=>Y5 all l ls
 | .f2 pre i j t1 t2,ls=>J9 all pre ls && Region.ready .any all (ZZ pre ls) == [i,j] && t1.len == t2.len && yr all t1 ((ZZ pre ls).setIfInBounds i true) && yr all t2 ((ZZ pre ls).setIfInBounds j true)
 | .f3 pre i j k t1 t2 t3,ls=>J9 all pre ls && Region.ready .any all (ZZ pre ls) == [i,j,k] && t1.len == t2.len && t1.len == t3.len && yr all t1 ((ZZ pre ls).setIfInBounds i true) && yr all t2 ((ZZ pre ls).setIfInBounds j true) && yr all t3 ((ZZ pre ls).setIfInBounds k true)
def QlD (all:List Oper) (t:Pu):Bool:=Region.noSelect all.toArray && t.len == all.length && yr all.toArray t (Array.replicate all.length false)
def XE (P:Program) (all:List Oper) (C:World→Prop) (i:Nat) (N:Fr→World→Prop) (f:Fr) (w:World):Prop:=Yc all f (Q6 all i)=true∧XO P (Q6 all i) f w λE w'=>C w'∧N E w'
def XU (P:Program) (all:List Oper) (C:World→Prop) (K:Fr→World→Prop):Pu→Fr→World→Prop
 | .pl l=>XP P all C K l
 | .f2 pre i j t1 t2=>XP P all C (λf w=>XE P all C i (XU P all C K t1) f w∧XE P all C j (XU P all C K t2) f w) pre
 | .f3 pre i j k t1 t2 t3=>XP P all C (λf w=>XE P all C i (XU P all C K t1) f w∧XE P all C j (XU P all C K t2) f w∧XE P all C k (XU P all C K t3) f w) pre
section
variable {P:Program} {n:Nat} {f:Fr} {w:World} {all:List Oper} {C:World→Prop} {K B:Fr→World→Prop}
theorem Jh (E:Region.noSelect all.toArray=true):∀(t:Pu) (ls:Array Bool) (f:Fr) (w:World),ls.size=all.length→C w→yr all.toArray t ls=true→XU P all C K t f w→XA P all C K t.len ls f w
 | .pl l,ls,f,w,S,T,hp,h=>ZB E l ls f w S (.inl T) hp h
 | .f2 pre i j t1 t2,ls,f,w,S,T,hp,h=>by
  simp only[yr,Bool.and_eq_true,beq_iff_eq] at hp;obtain ⟨⟨⟨⟨hq,G⟩,hl⟩,h1⟩,h2⟩:=hp;rw[Pu.len];refine YG (B:=λf w=>XE P all C i (XU P all C K t1) f w∧XE P all C j (XU P all C K t2) f w) E pre ls f w T hq (λf H=>?_) h;have I:∀k,((ZZ pre ls).setIfInBounds k true).size=all.length:=λk=>by simp[YI,S]
  rw[M2 1];refine Jy (λV=>(by rw[V] at G;cases G)) ?_;rw[G];intro k hk o J;simp only[List.mem_cons,List.not_mem_nil,or_false] at hk;rcases hk with rfl | rfl
  ·have:=H.1;unfold XE at this;rw[Zp J] at this;rw[this.1,cond_true];exact this.2.mono λv w' hx=>⟨.inr (.inr hx.1),Jh E t1 _ _ _ (I _) hx.1 h1 hx.2⟩
  have:=H.2;unfold XE at this;rw[Zp J] at this;rw[this.1,cond_true,hl];exact this.2.mono λv w' hx=>⟨.inr (.inr hx.1),Jh E t2 _ _ _ (I _) hx.1 h2 hx.2⟩
 | .f3 pre i j k t1 t2 t3,ls,f,w,S,T,hp,h=>by
  simp only[yr,Bool.and_eq_true,beq_iff_eq] at hp;obtain ⟨⟨⟨⟨⟨⟨hq,G⟩,hl⟩,Y⟩,h1⟩,h2⟩,h3⟩:=hp;rw[Pu.len];refine YG (B:=λf w=>XE P all C i (XU P all C K t1) f w∧XE P all C j (XU P all C K t2) f w∧XE P all C k (XU P all C K t3) f w) E pre ls f w T hq (λf H=>?_) h;have I:∀k,((ZZ pre ls).setIfInBounds k true).size=all.length:=λk=>by simp[YI,S]
  rw[M2 1];refine Jy (λV=>(by rw[V] at G;cases G)) ?_;rw[G];intro q hk o J;simp only[List.mem_cons,List.not_mem_nil,or_false] at hk;rcases hk with rfl | rfl | rfl
  ·have:=H.1;unfold XE at this;rw[Zp J] at this;rw[this.1,cond_true];exact this.2.mono λv w' hx=>⟨.inr (.inr hx.1),Jh E t1 _ _ _ (I _) hx.1 h1 hx.2⟩
  ·have:=H.2.1;unfold XE at this;rw[Zp J] at this;rw[this.1,cond_true,hl];exact this.2.mono λv w' hx=>⟨.inr (.inr hx.1),Jh E t2 _ _ _ (I _) hx.1 h2 hx.2⟩
  have:=H.2.2;unfold XE at this;rw[Zp J] at this;rw[this.1,cond_true,Y];exact this.2.mono λv w' hx=>⟨.inr (.inr hx.1),Jh E t3 _ _ _ (I _) hx.1 h3 hx.2⟩
theorem Qje {Q:Exit→Fr→World→Prop}{id:Nat}(C:World→Prop) (t:Pu) (hm:P.follows .mixedOrders=true) (E:XR n all=true) (hp:QlD all t=true)
  (G:C { w with drawn:=w.drawn+1 }) (h:XU P all C (λf w=>Q .normal f w) t f { w with drawn:=w.drawn+1 }):W P n (.region id all.toArray true) Q f w:=by
 simp only[QlD,Bool.and_eq_true,beq_iff_eq] at hp;obtain ⟨⟨H,hl⟩,hp⟩:=hp;refine KI C hm E ?_;have h1:=Jh H t _ _ _ (by simp) G hp h;rw[hl] at h1;exact h1
theorem uP {l:List (Nat×Bool)}(h:XP P all C K l f w):XU P all C K (.pl l) f w:=h
theorem u2 {pre:List (Nat×Bool)}{i j:Nat}{E G:Pu}(h:XP P all C (λf w=>XE P all C i (XU P all C K E) f w∧XE P all C j (XU P all C K G) f w) pre f w):XU P all C K (.f2 pre i j E G) f w:=h
theorem u3 {pre:List (Nat×Bool)}{i j k:Nat}{E G H:Pu}(h:XP P all C (λf w=>XE P all C i (XU P all C K E) f w∧XE P all C j (XU P all C K G) f w∧XE P all C k (XU P all C K H) f w) pre f w):XU P all C K (.f3 pre i j k E G H) f w:=h
theorem ue {i:Nat}{N:Fr→World→Prop}(h:XO P (Q6 all i) f w λE w'=>C w'∧N E w') (G:Yc all f (Q6 all i)=true:=by rfl):XE P all C i N f w:=⟨G,h⟩
end
attribute [irreducible] XU XE
open Go.RowKit
abbrev fen (ro:Option Nat):Fence:={ Fence.wide with round:=ro }
def coll (ds:LN):List Deferred:=ds.map λD=>{ target:=.collected D,args:=#[] }
structure Yq (n:Nat) (ds:LN) (a:Act) (f:Fr):Prop where
 size:a.tmps.size=n
 defers:a.defers=coll ds
 get:∀t,a.tmps.getD t undef=f t
theorem Yq.rel {n:Nat} {ds:LN} {a:Act} {f:Fr} (h:Yq n ds a f):jm n { a with defers:=[] } f:=⟨h.size,O,h.get⟩
theorem Yq.eval {n:Nat}{ds:LN}{a:Act}{f:Fr}(h:Yq n ds a f):a.eval=ev f:=by
 have:=h.rel.eval;rw[←this];funext x;cases x <;> rfl
theorem Yq.put {n:Nat}{ds:LN}{a:Act}{f:Fr}(h:Yq n ds a f) {dst:Option Nat}(hd:∀d,dst=some d→d<n) (v:Value):Yq n ds (a.put dst v) (QX f dst v):=by
 have:=h.rel.put hd v;cases dst with
 | none=>exact h
 | some d=>exact ⟨this.size,h.defers,this.get⟩
def Y4:Code→Nat→Bool
 | .region _ ops _,t=>ZH ops.toList t
 | .seq a b,t=>Y4 a t || Y4 b t
 | .cond _ a b,t=>Y4 a t || Y4 b t
 | .block _ a,t=>Y4 a t
 | .loop a,t=>Y4 a t
 | .skip,_ | .exit _,_ | .label _,_ | .goto _,_ | .ret,_ | .rangeFunc ..,_=>false
 | _,_=>true
def wrG (D:List (Nat×Nat)):Code→Bool
 | .region _ ops _=>QbS D ops.toList
 | .seq a b=>wrG D a && wrG D b
 | .cond _ a b=>wrG D a && wrG D b
 | .block _ a=>wrG D a
 | .loop a=>wrG D a
 | .skip | .exit _ | .label _ | .goto _ | .ret | .rangeFunc ..=>true
 | _=>false
theorem XG {D:List (Nat×Nat)}{t:Nat}(E:Xo D t=false):∀c:Code,wrG D c=true→Y4 c t=false
 | .region _ ops _,h=>zc h E
 | .seq a b,h=>by simp only[wrG,Bool.and_eq_true] at h;simp[Y4,XG E a h.1,XG E b h.2]
 | .cond _ a b,h=>by simp only[wrG,Bool.and_eq_true] at h;simp[Y4,XG E a h.1,XG E b h.2]
 | .block _ a,h=>XG E a (by simpa[wrG] using h)
 | .loop a,h=>XG E a (by simpa[wrG] using h)
 | .skip,_=>rfl
 | .exit _,_=>rfl
 | .label _,_=>rfl
 | .goto _,_=>rfl
 | .ret,_=>rfl
 | .rangeFunc ..,_=>rfl
 | .scope _,h=>by simp[wrG] at h
 | .refuse _,h=>by simp[wrG] at h
def WG (ro:Option Nat) (m:Nat) (P:Program) (n:Nat) (c:Code) (Q:Exit→LN→Fr→World→Prop) (ds:LN) (f:Fr) (w:World):Prop :=
 ∀a,Yq n ds a f→c.wpIn (fen ro) m P (λe E w'=>∃ds' f',Yq n ds' E f'∧(∀t,Y4 c t=false→f' t=f t)∧Q e ds' f' w') a w
def QaO (K:LN→Fr→World→Prop) (Q:Exit→LN→Fr→World→Prop):Exit→LN→Fr→World→Prop
 | .normal,ds,f,w=>K ds f w
 | e,ds,f,w=>Q e ds f w
def Ql8 (id:Nat) (Q:Exit→LN→Fr→World→Prop):Exit→LN→Fr→World→Prop
 | .exit i,ds,f,w=>bif Nat.beq i id then Q .normal ds f w else Q (.exit i) ds f w
 | e,ds,f,w=>Q e ds f w
section
variable {ro:Option Nat} {m:Nat} {P:Program} {n:Nat} {Q:Exit→LN→Fr→World→Prop} {ds:LN} {f:Fr} {w:World}
theorem WG.mono {c:Code}{Q':Exit→LN→Fr→World→Prop}(h:WG ro m P n c Q ds f w) (hq:∀e ds f w,Q e ds f w→Q' e ds f w):WG ro m P n c Q' ds f w :=
 λa ha=>wpIn_mono (h a ha) λ_ _ _ ⟨E,G,h1,h2,h3⟩=>⟨E,G,h1,h2,hq _ _ _ _ h3⟩
theorem WG.keeps {c:Code}(h:WG ro m P n c Q ds f w):WG ro m P n c (λe G E w'=>(∀t,Y4 c t=false→E t=f t)∧Q e G E w') ds f w :=
 λa ha=>wpIn_mono (h a ha) λ_ _ _ ⟨G,E,h1,h2,h3⟩=>⟨G,E,h1,h2,h2,h3⟩
theorem Ya (h:Q .normal ds f w):WG ro m P n .skip Q ds f w:=λ_ ha=>wpIn_skip ⟨ds,f,ha,λ_ _=>O,h⟩
theorem J7 {i:Nat}(h:Q (.exit i) ds f w):WG ro m P n (.exit i) Q ds f w:=λ_ ha=>wpIn_exit ⟨ds,f,ha,λ_ _=>O,h⟩
theorem J6 (h:Q .ret ds f w):WG ro m P n .ret Q ds f w:=λ_ ha=>wpIn_ret ⟨ds,f,ha,λ_ _=>O,h⟩
theorem Q0 {x y:Code}(h:WG ro m P n x (QaO (λds f w=>WG ro m P n y Q ds f w) Q) ds f w):WG ro m P n (.seq x y) Q ds f w:=by
 intro a ha;refine wpIn_seq (wpIn_mono (h a ha) ?_);rintro e I w' ⟨H,E,h1,h2,h3⟩;have k1:∀t,Y4 (.seq x y) t=false→E t=f t:=λt G=>h2 t (by simp only[Y4,Bool.or_eq_false_iff] at G;exact G.1);cases e with
 | normal =>
  refine wpIn_mono (h3 I h1) λ_ _ _ ⟨J,S,g1,T,V⟩=>⟨J,S,g1,λt G=>(T t ?_).trans (k1 t G),V⟩;simp only[Y4,Bool.or_eq_false_iff] at G;exact G.2
 | exit id=>exact ⟨H,E,h1,k1,h3⟩
 | goto l=>exact ⟨H,E,h1,k1,h3⟩
 | ret=>exact ⟨H,E,h1,k1,h3⟩
 | panic ch=>exact ⟨H,E,h1,k1,h3⟩
 | outgrown=>exact ⟨H,E,h1,k1,h3⟩
theorem Qc9 {α:Type}{x y:Code}(D:List (Nat×Nat)) (S:α→List (Nat×Value)) (I:α→LN→World→Prop) (hD:wrG D x=true)
  (h1:WG ro m P n x (QaO (λE G w'=>∃z,Xu G (S z)∧I z E w') Q) ds f w)
  (h2:∀z g E w',I z E w'→WG ro m P n y Q E (z1 (S z) (mix D f g)) w'):WG ro m P n (.seq x y) Q ds f w:=by
 refine Q0 (h1.keeps.mono ?_);rintro e E G w' ⟨hk,hq⟩;cases e with
 | normal =>
  obtain ⟨z,H,hi⟩:=hq;have h3:=h2 z G E w' hi;rw[JS (λt J=>hk t (XG J x hD)),YO H] at h3;exact h3
 | exit id=>exact hq
 | goto l=>exact hq
 | ret=>exact hq
 | panic ch=>exact hq
 | outgrown=>exact hq
theorem KM {c:Operand}{x y:Code}{t:Bool}(hc:ev f c=.bool t) (E:t=true→WG ro m P n x Q ds f w) (G:t=false→WG ro m P n y Q ds f w) :
  WG ro m P n (.cond c x y) Q ds f w:=by
 intro a ha;have H:a.eval c=.bool t:=by rw[ha.eval];exact hc
 refine wpIn_cond_split H (λe=>wpIn_mono (E e a ha) ?_) (λe=>wpIn_mono (G e a ha) ?_) <;>
  (rintro e S w' ⟨I,J,h1,h2,h3⟩
   refine ⟨I,J,h1,λt E=>h2 t ?_,h3⟩;simp only[Y4,Bool.or_eq_false_iff] at E
   first | exact E.1 | exact E.2)
theorem Qjj {c:Operand}{x y:Code}{p:Prop}[Decidable p] (hc:ev f c=.bool (decide p)) (E:p→WG ro m P n x Q ds f w) (G:¬p→WG ro m P n y Q ds f w) :
  WG ro m P n (.cond c x y) Q ds f w :=
 KM hc (λe=>E (of_decide_eq_true e)) (λe=>G (of_decide_eq_false e))
theorem zW {c:Operand}{x y:Code}{p:Prop}[Decidable p] (hc:ev f c=.bool (decide p)) (E:¬p→WG ro m P n y Q ds f w) (G:p→WG ro m P n x Q ds f w) :
  WG ro m P n (.cond c x y) Q ds f w:=Qjj hc G E
theorem jh {c:Operand}{x y:Code}(hc:ev f c=.bool true) (h:WG ro m P n x Q ds f w):WG ro m P n (.cond c x y) Q ds f w:=KM hc (λ_=>h) (λe=>by cases e)
theorem Kk {c:Operand}{x y:Code}(hc:ev f c=.bool false) (h:WG ro m P n y Q ds f w):WG ro m P n (.cond c x y) Q ds f w:=KM hc (λe=>by cases e) (λ_=>h)
theorem ZE {id:Nat}{c:Code}(h:WG ro m P n c (Ql8 id Q) ds f w):WG ro m P n (.block id c) Q ds f w:=by
 intro a ha;refine wpIn_block (wpIn_mono (h a ha) ?_);rintro e I w' ⟨G,E,h1,h2,h3⟩;have k1:∀t,Y4 (.block id c) t=false→E t=f t:=λt H=>h2 t (by simpa[Y4] using H);cases e with
 | exit i =>
  simp only[Exit.inBlock];simp only[Ql8] at h3;by_cases hi:i=id
  ·subst hi;simp only[Nat.beq_refl,cond_true] at h3;simp only[if_true];exact ⟨G,E,h1,k1,h3⟩
  have hb:Nat.beq i id=false:=by
   cases e:Nat.beq i id with
   | false=>rfl
   | true=>exact absurd (Nf e) hi
  rw[hb] at h3;rw[if_neg hi];exact ⟨G,E,h1,k1,h3⟩
 | normal=>exact ⟨G,E,h1,k1,h3⟩
 | goto l=>exact ⟨G,E,h1,k1,h3⟩
 | ret=>exact ⟨G,E,h1,k1,h3⟩
 | panic ch=>exact ⟨G,E,h1,k1,h3⟩
 | outgrown=>exact ⟨G,E,h1,k1,h3⟩
end
def jL (l:List Oper):Bool:=l.all λo=>match o.op with | .defer _=>false | _=>true
theorem Kx {l:List Oper}(h:jL l=true):∀o∈l,∀c,o.op≠.defer c:=λo E c e=>by
 have:=Mx.1 h o E;rw[e] at this;cases this
section
variable {ro:Option Nat} {m:Nat} {P:Program} {n:Nat} {ds:LN}
theorem Qc3 {o:Oper}{a:Act}{f:Fr}{w:World}{K:Fr→World→Prop}{K':Act→World→Prop}{Q:Exit→Act→World→Prop}(h:Yq n ds a f) (G:∀c,o.op≠.defer c)
  (E:∀v w',K (QX f o.dst v) w'→K' (a.put o.dst v) w') (hx:XO P o f w K):o.wpIn (fen ro) m P a w K' Q:=by
 unfold XO at hx;refine ⟨λ_ _=>trivial,?_⟩;have e:Oper.semAt (fen ro).round a.eval o=execOp (ev f) o:=by
  rw[h.eval];cases ro with
  | none=>rfl
  | some l=>exact Oper.semAt_some l _ _ G
 rw[e];generalize (execOp (ev f) o).run P w=r at hx;cases r with
 | ok nx w' =>
  cases nx <;> simp only[upF] at hx <;> simp only[Oper.uponIn]
  case value v=>exact E v w' hx
  case skip=>exact E _ w' hx
  case enter g args =>
   refine ⟨λh=>by simp[Fence.wide] at h,?_⟩;refine (callsIn_wide (n:=m - 1)).2 (Calls.mono hx λe H he=>?_);cases e with
   | returned v=>exact E v H he
   | panicked c=>exact he.elim
   | outgrown=>exact he.elim
 | halt x w'=>exact hx.elim
theorem Kr {l:List Oper}{a:Act}{f:Fr}(h:Yq n ds a f) (E:∀o∈l,∀d,o.dst=some d→d<n) (o:Oper):Region.wanted o (yielded l.toArray a.tmps)=Yc l f o:=Vw h.rel E o
theorem Qc5 {Q:Exit→LN→Fr→World→Prop}{all:List Oper}(G:∀o∈all,∀d,o.dst=some d→d<n) (hd:∀o∈all,∀c,o.op≠.defer c) (f0:Fr) :
  ∀(l:List Oper) (k:Nat) (a:Act) (f:Fr) (w:World),(∀j,l[j]?=all[k+j]?)→Yq n ds a f→(∀t,ZH all t=false→f t=f0 t) →
   XL P all (λf w=>Q .normal ds f w) l f w →
   wpOpsIn (fen ro) m P all.toArray (λe T w'=>∃ds' f',Yq n ds' T f'∧(∀t,ZH all t=false→f' t=f0 t)∧Q e ds' f' w') (List.range' k l.length) a w
 | [],_,a,f,w,_,E,hk,h=>⟨ds,f,E,hk,by unfold XL at h;exact h⟩
 | o::l,k,a,f,w,hl,E,hk,h=>by
  have I:all[k]?=some o:=by simpa using (hl 0).symm
  have H:o∈all:=LT I;have ih:=λa f w=>Qc5 (Q:=Q) G hd f0 l (k+1) a f w (λj=>by have:=hl (j+1);simpa[Nat.add_assoc,Nat.add_comm 1 j] using this);have next:∀v,(∀t,ZH all t=false→QX f o.dst v t=f0 t):=λv t J=>(YP (Xk H J) v).trans (hk t J);simp only[List.length_cons,List.range'_succ,wpOpsIn,List.getElem?_toArray,I];rw[Kr E G o];unfold XL at h;cases S:Yc all f o with
  | false =>
   rw[S] at h;exact ⟨λ_ _=>trivial,ih _ _ _ (E.put (G o H) _) (next _) h⟩
  | true =>
   rw[S] at h;exact Qc3 E (hd o H) (λv w' hx=>ih _ _ _ (E.put (G o H) v) (next v) hx) h
theorem QK {Q:Exit→LN→Fr→World→Prop}{f:Fr}{w:World}{id:Nat}{l:List Oper}(E:XR n l=true) (hd:jL l=true) (h:XL P l (λf w=>Q .normal ds f w) l f w):WG ro m P n (.region id l.toArray false) Q ds f w:=by
 intro a ha;refine wpIn_region ?_;have:=Qc5 (ro:=ro) (m:=m) (YA E) (Kx hd) f l 0 a f w (by simp) ha (λ_ _=>rfl) h;simpa[List.range_eq_range',Y4] using this
attribute [local semireducible] XA in
theorem UD {Q:Exit→Act→World→Prop}{all:List Oper}{C:World→Prop}{K:Fr→World→Prop}(G:∀o∈all,∀d,o.dst=some d→d<n) (hd:∀o∈all,∀c,o.op≠.defer c) (f0:Fr)
  (H:∀a f w,Yq n ds a f→(∀t,ZH all t=false→f t=f0 t)→K f w→Q .normal a w) :
  ∀(k:Nat) (ls:Array Bool) (a:Act) (f:Fr) (w:World),Yq n ds a f→(∀t,ZH all t=false→f t=f0 t)→XA P all C K k ls f w→wpAnyIn (fen ro) m P .any all.toArray Q k ls a w
 | 0,_,a,f,w,E,hk,h=>⟨h.1,H a f w E hk h.2⟩
 | k+1,ls,a,f,w,E,hk,h=>by
  refine ⟨λV=>H a f w E hk (h.1 V),λi hi=>?_⟩;unfold wpOpIn;simp only[List.getElem?_toArray];cases J:all[i]? with
  | none =>
   exfalso;obtain ⟨_,o,Y,_⟩:=mem_ready.1 hi;simp[J] at Y
  | some o =>
   have I:o∈all:=LT J;have h1:=h.2 i hi o J;have next:∀v,(∀t,ZH all t=false→QX f o.dst v t=f0 t):=λv t S=>(YP (Xk I S) v).trans (hk t S);simp only[];rw[Kr E G o];cases T:Yc all f o with
   | false =>
    rw[T] at h1;exact ⟨λ_ _=>trivial,UD G hd f0 H k _ _ _ _ (E.put (G o I) _) (next _) h1⟩
   | true =>
    rw[T] at h1;exact Qc3 E (hd o I) (λv w' hx=>UD G hd f0 H k _ _ _ _ (E.put (G o I) v) (next v) hx.2) h1
theorem qJ {Q:Exit→LN→Fr→World→Prop}{f:Fr}{w:World}{all:List Oper}{id:Nat}(C:World→Prop) (pl:List (Nat×Bool)) (hm:P.follows .mixedOrders=true) (G:XR n all=true) (hd:jL all=true) (hp:yv all pl=true)
  (H:C { w with drawn:=w.drawn+1 }) (h:XP P all C (λf w=>Q .normal ds f w) pl f { w with drawn:=w.drawn+1 }):WG ro m P n (.region id all.toArray true) Q ds f w:=by
 intro a ha;simp only[yv,Bool.and_eq_true,beq_iff_eq] at hp;obtain ⟨⟨I,hl⟩,hp⟩:=hp;refine wpIn_region_any hm ?_;have h1:=ZB I pl _ _ _ (by simp) (.inl H) hp h;rw[hl] at h1;have h2:=UD (ro:=ro) (m:=m) (n:=n) (ds:=ds) (Q:=λe J w'=>∃ds' E,Yq n ds' J E∧(∀t,ZH all t=false→E t=f t)∧Q e ds' E w') (YA G) (Kx hd) f
  (λa E w S hk hq=>⟨ds,E,S,hk,hq⟩) _ _ a f _ ha (λ_ _=>O) h1
 simpa[Y4] using h2
end
section
variable {ro:Option Nat} {m:Nat} {P:Program} {n:Nat} {Q:Exit→LN→Fr→World→Prop} {ds:LN} {f:Fr} {w:World}
theorem Ub {α:Type}{F:Fence}{c:Code}{Q:Exit→Act→World→Prop}{a:Act}{w:World}(J:α→Act→World→Prop) (μ:α→Nat) (z:α) (h₀:J z a w)
  (round:∀x a w,J x a w→c.wpIn F m P (Exit.then (λG w'=>∃H,μ H<μ x∧J H G w') Q) a w):(Code.loop c).wpIn F m P Q a w:=by
 intro b k cs S hb I;have key:∀j x a w,μ x=j→J x a w →
   ∃e G w',Q e G w'∧ArrivesIn (Machine.fenced P F) P (lone (b.atR a (.code c::.inLoop c::k)) cs w) b k cs e G w':=by
  intro j;induction j using Nat.strongRecOn with
  | _ j ih =>
   intro x a w T V;obtain ⟨e,a₁,w₁,hq,E⟩:=round x a w V b (.inLoop c::k) cs S hb I;cases e with
   | normal =>
    obtain ⟨H,Y,ha⟩:=hq;obtain ⟨e₂,a₂,w₂,hq₂,harr₂⟩:=ih (μ H) (T ▸ Y) H a₁ w₁ O ha;exact ⟨e₂,a₂,w₂,hq₂,.of_steps (StepsIn.trans E (.one (fenced_calm hb I O) stepR_inLoop)) harr₂⟩
   | exit id=>exact ⟨_,a₁,w₁,hq,.pass (x:=.inLoop c) O (λ_ _=>.inl (by simp)) E⟩
   | goto l=>exact ⟨_,a₁,w₁,hq,.pass (x:=.inLoop c) O (λ_ _=>.inl (by simp)) E⟩
   | ret=>exact ⟨_,a₁,w₁,hq,.pass (x:=.inLoop c) O (λ_ _=>.inl (by simp)) E⟩
   | panic ch=>exact ⟨_,a₁,w₁,hq,.pass (x:=.inLoop c) O (λ_ _=>.inl (by simp)) E⟩
   | outgrown=>exact ⟨_,a₁,w₁,hq,.pass (x:=.inLoop c) O (λ_ _=>.inl (by simp)) E⟩
 obtain ⟨e,G,w',hq,E⟩:=key _ z a w O h₀;exact ⟨e,G,w',hq,.of_steps (.one (fenced_calm hb I O) stepR_loop) E⟩
theorem V0 {α:Type}{c:Code}(D:List (Nat×Nat)) (S:α→List (Nat×Value)) (I:α→LN→World→Prop) (μ:α→Nat) (hD:wrG D c=true) (z:α)
  (h0:Xu f (S z)) (hI:I z ds w)
  (round:∀x g H w',I x H w'→WG ro m P n c (QaO (λE J hb=>∃Y,μ Y<μ x∧Xu J (S Y)∧I Y E hb) Q) H (z1 (S x) (mix D f g)) w'):WG ro m P n (.loop c) Q ds f w:=by
 intro a ha;refine Ub (λ(x:α) a' w'=>∃H J,Yq n H a' J∧(∀t,Y4 c t=false→J t=f t)∧Xu J (S x)∧I x H w') μ z ⟨ds,f,ha,λ_ _=>O,h0,hI⟩ ?_;rintro x a' w' ⟨H,J,h1,h2,h3,h4⟩;have h5:=round x J H w' h4;rw[JS (λt T=>h2 t (XG T c hD)),YO h3] at h5;refine wpIn_mono (h5 a' h1) ?_;rintro e hc hb ⟨E,G,g1,g2,V⟩;have k1:∀t,Y4 c t=false→G t=f t:=λt T=>(g2 t T).trans (h2 t T)
 have k2:∀t,Y4 (.loop c) t=false→G t=f t:=λt T=>k1 t (by simpa[Y4] using T);cases e with
 | normal=>obtain ⟨Y,hm,hs,hi⟩:=V;exact ⟨Y,hm,E,G,g1,k1,hs,hi⟩
 | exit id=>exact ⟨E,G,g1,k2,V⟩
 | goto l=>exact ⟨E,G,g1,k2,V⟩
 | ret=>exact ⟨E,G,g1,k2,V⟩
 | panic ch=>exact ⟨E,G,g1,k2,V⟩
 | outgrown=>exact ⟨E,G,g1,k2,V⟩
end
def rqG (P:Program) (rs:List ResultVar) (R:Value→World→Prop):Exit→LN→Fr→World→Prop
 | .normal,ds,f,w=>(∀D∈ds,w.heap[D]?=some (.deferred (some [])))∧ds.Nodup∧∃vs,∀w',Step ds w w'→Vs P f w' rs vs∧R (tup vs) w'
 | .ret,ds,f,w=>(∀D∈ds,w.heap[D]?=some (.deferred (some [])))∧ds.Nodup∧∃vs,∀w',Step ds w w'→Vs P f w' rs vs∧R (tup vs) w'
 | _,_,_,_=>False
theorem Step.putObj (w:World) (D:Nat) (o:Obj):Step [D] w (w.putObj D o):=⟨O,O,O,by simp,λk _ hk=>World.putObj_heap_other (λe=>hk (by simp[e]))⟩
theorem U2 {F:Fence}{m:Nat}{P:Program}{fn:Func}{tmps:Array Value}{R:Ending→World→Prop}:∀(ds:LN) (w:World),(∀D∈ds,w.heap[D]?=some (.deferred (some [])))→ds.Nodup →
  (∀w',Step ds w w'→∃v,(results fn tmps).run P w'=.ok v w'∧R (.returned v) w')→LeavesInM F m P fn tmps R (coll ds) .returning w
 | [],w,_,_,h=>h w (Step.refl _ _)
 | D::ds,w,hD,H,h=>by
  refine ⟨by simp,.inl ⟨D,_,rfl,run_takeDeferred (hD D Ln),?_⟩⟩;have I:=Step.putObj w D (.deferred none);have G:=List.nodup_cons.1 H;refine U2 ds _ (λE hE=>?_) G.2 (λw' J=>h w' ?_)
  ·rw[World.putObj_heap_other (λe=>G.1 (by rw[←e];exact hE))];exact hD E (Ll _ hE)
  exact (I.mono (λb hb=>by simp at hb;simp[hb])).trans' (J.mono (λb hb=>Ll _ hb))
theorem QJ.of_G {P:Program}{g:Nat}{fn:Func}{c:Code}{args:LV}{w:World}{R:Value→World→Prop}{n:Nat}{rs:List ResultVar}(m:Nat)
  (T:P.funcs[g]?=some fn) (hb:fn.body=some c) (V:fn.ntmps=n) (Y:fn.results=rs.toArray) (hl:args.length≤n)
  (h:WG none m P n c (rqG P rs R) [] (ent args) w):QJ P g args w R:=by
 unfold QJ;refine (callsIn_wide (n:=m)).1 (callsIn_of_wp_marks T hb U (wpIn_mono (h _ ?_) ?_))
 ·refine ⟨by simp[V];omega,O,λt=>?_⟩;have key:∀(l:LV) (t:Nat),l[t]?.getD undef=ent l t:=by
   intro l;induction l with
   | nil=>intro t;rfl
   | cons v l ih=>intro t;cases t with | zero=>rfl | succ t=>simpa[ent] using ih t
  rw[←key];simp only[Array.getD_eq_getD_getElem?,Array.getElem?_append,List.size_toArray,List.getElem?_toArray];by_cases I:t<args.length
  ·simp[I]
  simp[I,Array.getElem?_replicate];split <;> rfl
 rintro e H w' ⟨G,f',h1,_,h3⟩;have fin:((∀D∈G,w'.heap[D]?=some (.deferred (some [])))∧G.Nodup∧∃vs,∀E,Step G w' E→Vs P f' E rs vs∧R (tup vs) E) →
   LeavesInM Fence.wide m P fn H.tmps (λe w'=>match e with | .returned v=>R v w' | _=>False) H.defers .returning w':=by
  rintro ⟨hd,ha,vs,J⟩;rw[h1.defers];refine U2 G w' hd ha λE S=>⟨tup vs,?_,(J E S).2⟩;simp only[results,Y,List.mapM_toArray,Sem.run_bind,Sem.run_map];rw[XI (a:={ H with defers:=[] }) h1.rel _ (λ_=>rfl) (λ_ _=>rfl) rs vs (J E S).1]
  cases vs with
  | nil=>rfl
  | cons v vs=>cases vs with | nil=>rfl | cons u us=>rfl
 cases e with
 | normal=>exact fin h3
 | ret=>exact fin h3
 | exit id=>exact h3.elim
 | goto l=>exact h3.elim
 | panic c=>exact h3.elim
 | outgrown=>exact h3.elim
attribute [irreducible] WG
end Go.Lg
namespace Go.Proofs.YtdffckgdcegpaaaGreatDoor
open Go.Proofs.Tryz
open Go.Lg
def IxQ {α:Type}(q:α→Bool) (E:List α) (r:Value):Prop:=(r=.int .i64 (-1)∧∀m (hm:m<E.length),q (E[m]'hm)=false)∨∃(i:Nat) (hi:i<E.length),r=.int .i64 i∧q (E[i]'hi)=true∧∀m (hm:m<i),q (E[m]'(by omega))=false
theorem Qiw {g:Nat}{fn:Func}[Fu prog g fn] {cap:LV}{q:Ed→Bool}{L:LN}{w:World}{v:Value}{E:List Ed}(h:qK L w.heap v E)
  (hk:∀(e:Ed) (G:World),Step [] w G→QJ prog g ([.agg (Qz e).toArray]++cap) G λr w'=>r=.bool (q e)∧Step [] G w') :
  QJ prog 157 [v,.func (.func g) #[] cap.toArray] w λr w'=>Step [] w w'∧IxQ q E r:=by
 have Y:=h.le;refine QJ.of_W func157 O ntmps157 results157 (by simp) ?_;refine Qc<|Qe<|Qf<|Qc<|Qb<|x (Qq h O)<|Qb<|xe<|Qg<|Qy (α:=Nat) [(4,5),(8,18)] (λz=>[(8,.int .i64 z)]) (λz w'=>z≤E.length∧Step [] w w'∧∀m (hm:m<E.length),m<z→q (E[m]'hm)=false) (λz=>E.length - z) (by rfl) 0 Z ⟨Lk _,Step.refl _ _,λm _ T=>absurd T (Nw m)⟩ ?_;rintro k g1 G ⟨ha,H,hq⟩
 refine Qc<|x (QA O O)<|xe<|Qf<|QE O (λh9=>?_) (λh9=>?_)
 ·refine Qw<|Qc<|Qe ?_;exact Qn ⟨[.int .i64 (-1)],Z,H,.inl ⟨O,λm hm=>hq m hm (by omega)⟩⟩
 have I:k<E.length:=by omega
 refine Qi<|Qf<|Qg<|Qc<|Qb<|Qe<|Qc<|Qb<|Qb<|Qb<|xie (h.ext H) O O I λhb V=>x (QI V O O)<|xl O<|xc (first:=[]) (capt:=cap) O<|(hk (E[k]'I) G H).mono ?_;rintro r2 w2 ⟨rfl,S⟩;refine xe<|Q2 rfl (λJ=>?_) (λJ=>?_)
 ·refine Qc<|Qb<|Qe ?_;exact Qn ⟨[.int .i64 k],Z,H.trans S,.inr ⟨k,I,O,J,λm hm=>hq m (by omega) hm⟩⟩
 refine Qi<|Qx<|QN O O<|Qb<|xe<|⟨k+1,by omega,Z,I,H.trans S,λm hm hc=>?_⟩;by_cases e:m=k
 ·subst e;exact J
 exact hq m hm (by omega)
theorem Qiv {g:Nat}{fn:Func}[Fu prog g fn] {cap:LV}{q:Int→Bool}{L:LN}{w:World}{v:Value}{E:LI}(h:QL L w.heap v E)
  (hk:∀(e:Int) (G:World),Step [] w G→QJ prog g ([.int .i64 e]++cap) G λr w'=>r=.bool (q e)∧Step [] G w') :
  QJ prog 131 [v,.func (.func g) #[] cap.toArray] w λr w'=>Step [] w w'∧IxQ q E r:=by
 have Y:=h.le;refine QJ.of_W func131 O ntmps131 results131 (by simp) ?_;refine Qc<|Qe<|Qf<|Qc<|Qb<|x (Qq h O)<|Qb<|xe<|Qg<|Qy (α:=Nat) [(4,5),(8,18)] (λz=>[(8,.int .i64 z)]) (λz w'=>z≤E.length∧Step [] w w'∧∀m (hm:m<E.length),m<z→q (E[m]'hm)=false) (λz=>E.length - z) (by rfl) 0 Z ⟨Lk _,Step.refl _ _,λm _ T=>absurd T (Nw m)⟩ ?_;rintro k g1 G ⟨ha,H,hq⟩
 refine Qc<|x (QA O O)<|xe<|Qf<|QE O (λh9=>?_) (λh9=>?_)
 ·refine Qw<|Qc<|Qe ?_;exact Qn ⟨[.int .i64 (-1)],Z,H,.inl ⟨O,λm hm=>hq m hm (by omega)⟩⟩
 have I:k<E.length:=by omega
 refine Qi<|Qf<|Qg<|Qc<|Qb<|Qe<|Qc<|Qb<|Qb<|Qb<|xii (h.ext H) O O I λhb V=>x (Qu V O)<|xl O<|xc (first:=[]) (capt:=cap) O<|(hk (E[k]'I) G H).mono ?_;rintro r2 w2 ⟨rfl,S⟩;refine xe<|Q2 rfl (λJ=>?_) (λJ=>?_)
 ·refine Qc<|Qb<|Qe ?_;exact Qn ⟨[.int .i64 k],Z,H.trans S,.inr ⟨k,I,O,J,λm hm=>hq m (by omega) hm⟩⟩
 refine Qi<|Qx<|QN O O<|Qb<|xe<|⟨k+1,by omega,Z,I,H.trans S,λm hm hc=>?_⟩;by_cases e:m=k
 ·subst e;exact J
 exact hq m hm (by omega)
theorem QcR {g:Nat}{fn:Func}[Fu prog g fn] {cap:LV}{q:Int→Bool}{L:LN}{w:World}{v:Value}{G:LI}(h:QL L w.heap v G)
  (hk:∀(e:Int) (H:World),Step [] w H→QJ prog g ([.int .i64 e]++cap) H λr w'=>r=.bool (q e)∧Step [] H w') :
  QJ prog 135 [v,.func (.func g) #[] cap.toArray] w λr w'=>r=.bool (G.any q)∧Step [] w w':=by
 refine QJ.of_W func135 O ntmps135 results135 (by simp) ?_;refine Qc<|Qe<|Qc<|Qb<|Qb<|xl O<|xf<|(Qiv h hk).mono ?_;rintro J H ⟨I,E⟩;refine Or.elim E (λE=>?_) (λE=>?_)
 ·obtain ⟨rfl,hq⟩:=E;have e:G.any q=false:=by
   rw[Ni];intro z hz;obtain ⟨i,hi,rfl⟩:=LE hz;rw[hq i hi];simp
  refine x (ZU O O)<|Qe ?_;exact Qn ⟨[.bool false],Z,by rw[e];rfl,I⟩
 obtain ⟨i,hi,rfl,h1,_⟩:=E;have e:G.any q=true:=Ml.2 ⟨_,Lh hi,h1⟩;have e2:decide ((0:Int)≤(i:Int))=true:=by simp
 refine x (ZU O O)<|Qe ?_;exact Qn ⟨[.bool (decide ((0:Int)≤(i:Int)))],Z,by rw[e,e2];rfl,I⟩
theorem Qch (E:List Ed) (s v:Int):nxt E s v=nxt (ZK E s) s v:=by
 induction E with
 | nil=>rfl
 | cons e E ih =>
  unfold ZK at *;rw[MD];by_cases h:e.1=s
  ·rw[if_pos (by simpa using h),nxt,nxt,ih]
  rw[if_neg (by simpa using h),nxt,if_neg (λc=>h c.1),ih]
theorem Qa8:∀(l:List Ed) (s v:Int) (i:Nat) (hi:i<l.length),(∀e∈l,e.1=s)→(l[i]'hi).2.1=v→(∀m (hm:m<i),(l[m]'(by omega)).2.1≠v)→nxt l s v=(l[i]'hi).2.2
 | e::l,s,v,0,_,E,G,_=>by rw[nxt,if_pos ⟨E e Ln,G⟩];rfl
 | e::l,s,v,i+1,hi,E,G,hm=>by
  rw[nxt,if_neg (λc=>hm 0 (by omega) c.2)];exact Qa8 l s v i (by simpa using hi) (λe he=>E e (Ll _ he)) G (λm H=>hm (m+1) (by omega))
theorem Qfk:∀(l:List Ed) (s v:Int),(∀e∈l,e.2.1≠v)→nxt l s v=-1
 | [],_,_,_=>rfl
 | e::l,s,v,h=>by rw[nxt,if_neg (λc=>h e Ln c.2)];exact Qfk l s v (λe he=>h e (Ll _ he))
theorem Qfr {b T:Nat}{n:Int}(e:Ed) (w:World) (G:Q3 w.heap b T [.int .i64 n]) :
  QJ prog 158 ([.agg (Qz e).toArray]++[.pointer (some ⟨b,0,none⟩)]) w λr w'=>r=.bool (decide (e.2.1=n))∧Step [] w w':=by
 refine QJ.of_W func158 O ntmps158 results158 (by simp) ?_;refine Qc<|xl O<|QT (us:=Qz e) O λI J E S H=>Qe<|Qc<|x (Qa O)<|x (Qd H O O)<|x (Qd (G.ext E) O O)<|x (Q8 O O)<|Qe ?_;exact Qn ⟨[_],Z,O,E⟩
theorem Qaz {L:LN}{w:World}{va vm ve:Value}{st:Int}{a:QV}(h:qK L w.heap ve a.ed) (G:Zr a) (s v:Int) (ha:0≤s) (I:s<a.st) :
  QJ prog 78 [.agg #[va,.int .i64 st,vm,ve],.int .i64 s,.int .i64 v] w λr w'=>r=.int .i64 (nxt a.ed s v)∧Step [] w w':=by
 have hh:=G.st1;refine QJ.of_W func78 O ntmps78 results78 (by simp) ?_;refine Qc<|xl O<|QT (us:=[va,.int .i64 st,vm,ve]) O λb3 w1 I hj hb=>xl O<|QT (us:=[.int .i64 v]) O λb5 w2 J hl hc=>Qe<|Qc<|x (Qs (hb.ext J) O O)<|Qb<|xl O<|xf<|(yx ((h.ext I).ext J) G.eds (λe he=>⟨(G.ed e he).1,by have:=(G.ed e he).2.1;omega⟩) s ha (by omega)).mono ?_;rintro vo w3 ⟨S,hE⟩;refine Qe ?_
 have hf:∀e∈ZK a.ed s,e.1=s:=λe he=>(ZM he).2;rw[Qch];refine Qc<|Qb<|x (Zq (l:=[]) (l':=[.tmp 5]))<|xl O<|xf<|(Qiw (q:=λe=>decide (e.2.1=v)) (cap:=[.pointer (some ⟨b5,0,none⟩)]) hE (λe T H=>Qfr e T ((hc.ext S).ext H))).mono ?_;rintro r4 T ⟨H,E⟩;have V:=((I.trans J).trans S).trans H;refine Or.elim E (λE=>?_) (λE=>?_)
 ·obtain ⟨rfl,hq⟩:=E;have e1:nxt (ZK a.ed s) s v=-1:=Qfk _ _ _ λe he=>by
   obtain ⟨i,hi,rfl⟩:=LE he;simpa using hq i hi
  rw[e1];refine Qe<|Qf<|Qc<|Qb<|x (QA O O)<|xe<|qD O ?_;refine Qc<|Qe ?_;exact Qn ⟨[.int .i64 (-1)],Z,O,V⟩
 obtain ⟨i,hi,rfl,h1,h2⟩:=E;have e1:nxt (ZK a.ed s) s v=((ZK a.ed s)[i]'hi).2.2:=Qa8 _ s v i hi hf (by simpa using h1) (λm hm=>by simpa using h2 m hm);rw[e1];refine Qe<|Qf<|Qc<|Qb<|x (QA O O)<|xe<|Q7 O (λY=>absurd Y (by omega)) (λY=>?_);refine Qi<|Qc<|Qb<|Qb<|xie (hE.ext H) O O hi λhn hg=>x (Q4 O)<|x (Qu (hg.fld 2 _ O) O)<|Qe ?_;exact Qn ⟨[_],Z,O,V⟩
def flw (a:QV):Int→LI→Int×Nat
 | s,[]=>(s,0)
 | s,v::u=>if nxt a.ed s v<0 then (s,0) else ((flw a (nxt a.ed s v) u).1,(flw a (nxt a.ed s v) u).2+1)
theorem Qkb {a:QV}(E:Zr a) {s v:Int}(h:¬nxt a.ed s v<0):nxt a.ed s v<a.st:=(E.ed _ (yB (by omega))).2.2.2.2
theorem QdS {L L':LN}{w:World}{va vm ve vw:Value}{st:Int}{a:QV}{u:LI}(h:qK L w.heap ve a.ed) (H:QL L' w.heap vw u) (T:Zr a) (s:Int) (he:0≤s) (V:s<a.st) :
  QJ prog 279 [.agg #[va,.int .i64 st,vm,ve],.int .i64 s,vw] w λr w'=>r=.tuple #[.int .i64 (flw a s u).1,.int .i64 (flw a s u).2]∧Step [] w w':=by
 have hl:=H.le;refine QJ.of_W func279 O ntmps279 results279 (by simp) ?_;refine Qc<|xl O<|QT (us:=[va,.int .i64 st,vm,ve]) O λb3 w1 V hp hg=>x Qh<|Qe<|Qf<|Qc<|Qb<|x (Qq H O)<|Qb<|xe ?_
 refine Qg<|Qy (α:=Nat×Int) [(1,1),(6,10),(13,27)] (λz=>[(1,.int .i64 z.2),(13,.int .i64 z.1)]) (λz w'=>z.1≤u.length∧0≤z.2∧z.2<a.st∧Step [] w1 w'∧flw a s u=((flw a z.2 (u.drop z.1)).1,(flw a z.2 (u.drop z.1)).2+z.1)) (λz=>u.length - z.1) (by rfl) (0,s) ⟨O,O,U⟩ ⟨Lk _,he,by assumption,Step.refl _ _,by simp⟩ ?_;rintro ⟨k,t⟩ g w2 ⟨hk,Y,ha,S,E⟩;simp only[] at hk Y ha E
 have I:=V.trans S;refine Qc<|x (QA O O)<|xe<|Qf<|QE O (λhb=>?_) (λhb=>?_)
 ·refine Qw<|Qc<|Qb<|Qb<|x (Qq H O)<|x Qh<|Qe ?_;rw[Lq (by omega)] at E;have hh:k=u.length:=by have hq:¬(k:Int)<(u.length:Int):=hb;omega
  refine Qn ⟨[.int .i64 t,.int .i64 u.length],⟨O,O,U⟩,?_,I⟩;rw[E,hh];simp[flw,tup]
 have G:k<u.length:=by omega
 rw[QY G,flw] at E;refine Qi<|Qf<|Qg<|Qc<|Qb<|xii (H.ext I) O O G λhr hj=>x (Qu hj O)<|x Qh<|Qe<|Qc<|x (Qs (hg.ext S) O O)<|Qb<|Qb<|xl O<|xf<|(Qaz (h.ext I) T t (u[k]'G) Y ha).mono ?_;rintro r3 w3 ⟨rfl,hc⟩;refine Qe<|Qf<|Qc<|Qb<|x (QA O O)<|xe<|Q7 rfl (λJ=>?_) (λJ=>?_)
 ·rw[if_pos J] at E;refine Qc<|Qb<|Qb<|x Qh<|Qe<|Qn ⟨[.int .i64 t,.int .i64 k],⟨O,O,U⟩,?_,I.trans hc⟩;rw[E];simp[tup]
 rw[if_neg J] at E;have hn:=Qkb T J;refine Qi<|Qx<|Qb<|Qe<|Qx<|QN O O<|Qb<|xe<|⟨(k+1,nxt a.ed t (u[k]'G)),by simp only[];omega,⟨O,O,U⟩,G,by simp only[];omega,hn,S.trans hc,?_⟩;simp only[];rw[E];simp;omega
def cks (a:QV) (s:Int):Int:=if Jt a≠0 then Jt a else if s<0∨a.st≤s then 2 else 0
theorem X0 {L:LN}{w:World}{va vm ve:Value}{a:QV}(h:Zu L w.heap va vm ve a) (s:Int) :
  QJ prog 76 [.agg #[va,.int .i64 a.st,vm,ve],.int .i64 s] w λr w'=>r=.int .i64 (cks a s)∧Step [] w w':=by
 refine QJ.of_W func76 O ntmps76 results76 (by simp) ?_;refine Qc<|xl O<|QT (us:=[va,.int .i64 a.st,vm,ve]) O λV Y I ha J=>Qe<|Qf<|Qc<|x (Qs J O O)<|xl O<|xf<|(Xt (h.ext I)).mono ?_;rintro r2 T ⟨rfl,S⟩;refine Qe ?_;unfold cks;have E:=I.trans S;refine Qc<|Qb<|x (Q9 O O)<|xe<|Q7 rfl (λh9=>?_) (λh9=>?_)
 ·refine Qc<|Qb<|Qe ?_;exact Qn ⟨[_],Z,by rw[if_pos h9];rfl,E⟩
 rw[if_neg h9];refine Qi<|Qf<|QW (α:=Unit) [(11,18)] (λz=>[(18,.bool (decide (s<0∨a.st≤s)))]) (λz w'=>w'=T) (by rfl) ?_ ?_
 ·refine Qx<|Qb<|xb (QA O O) (λG=>?_) (λG=>?_)
  ·refine Qb<|xs O<|xs O<|xs O<|xs O<|x (Qo O)<|xe ?_;exact ⟨(),⟨by rw[decide_eq_true (Or.inl G)];rfl,U⟩,O⟩
  refine Qb<|Qb<|x (Qa O)<|x (Qd (J.ext S) O O)<|x (ZU O O)<|x (Qo O)<|xe ?_;exact ⟨(),⟨by show Value.bool (decide (a.st≤s))=_;simp[G],U⟩,rfl⟩
 rintro z g w3 rfl;refine Q7 rfl (λH=>?_) (λH=>?_)
 ·refine Qc<|Qe ?_;exact Qn ⟨[_],Z,by rw[if_pos H];rfl,E⟩
 refine Qi<|Qc<|Qe ?_;exact Qn ⟨[_],Z,by rw[if_neg H];rfl,E⟩
theorem Qak {a:QV}{s:Int}(h:cks a s=0):Zr a∧0≤s∧s<a.st:=by
 unfold cks at h;split at h
 ·rename_i h1;exact absurd h h1
 rename_i h1;split at h
 ·cases h
 rename_i h2;exact ⟨(ZG a).1 (Lu.1 h1),by omega,by omega⟩
theorem QhP {L:LN}{b T:Nat}{va:Value}{al:LI}{us:LV}(e:Int) (w:World) (E:Q3 w.heap b T (va::us)) (G:QL L w.heap va al) :
  QJ prog 278 ([.int .i64 e]++[.pointer (some ⟨b,0,none⟩)]) w λr w'=>r=.bool (decide (e∉al))∧Step [] w w':=by
 refine QJ.of_W func278 O ntmps278 results278 (by simp) ?_;refine Qc<|Qe<|Qc<|x (Qa O)<|x (Qd E O O)<|Qb<|xl O<|xf<|(ZJ G e).mono ?_;rintro H I ⟨rfl,rfl⟩;refine x (Zm O)<|Qe<|Qn ⟨[_],Z,?_,Step.refl _ _⟩;show Value.bool (!decide (e∈al))=_;rw[decide_not]
def QhO (a:QV) (s:Int) (u:LI):Int:=if cks a s≠0 then cks a s else if (u.any λe=>decide (e∉a.al))=true then 9 else 0
theorem Qlb {L L':LN}{w:World}{va vm ve vw:Value}{a:QV}{u:LI}(h:Zu L w.heap va vm ve a) (V:QL L' w.heap vw u) (s:Int) :
  QJ prog 248 [.agg #[va,.int .i64 a.st,vm,ve],.int .i64 s,vw] w λr w'=>Step [] w w'∧r=if QhO a s u≠0 then .tuple #[.int .i64 0,.int .i64 0,.int .i64 (QhO a s u)] else .tuple #[.int .i64 (flw a s u).1,.int .i64 (flw a s u).2,.int .i64 0]:=by
 refine QJ.of_W func248 O ntmps248 results248 (by simp) ?_;refine Qc<|xl O<|QT (us:=[va,.int .i64 a.st,vm,ve]) O λb3 w1 Y hb J=>x Qh<|x Qh<|Qe<|Qf<|Qc<|x (Qs J O O)<|Qb<|xl O<|xf<|(X0 (h.ext Y) s).mono ?_;rintro r2 w2 ⟨rfl,S⟩;refine Qe ?_;have G:=Y.trans S;unfold QhO;refine Qc<|Qb<|x (Q9 O O)<|xe<|Q7 rfl (λE=>?_) (λE=>?_)
 ·refine Qc<|Qb<|x Qh<|x Qh<|Qe ?_;exact Qn ⟨[_,_,_],⟨O,O,O,U⟩,G,by rw[if_pos E,if_pos E];rfl⟩
 have hc:cks a s=0:=Lu.1 E;obtain ⟨ho,h0,h1⟩:=Qak hc;rw[if_neg E];refine Qi<|Qf<|Qc<|Qb<|x (Zq (l:=[]) (l':=[.tmp 3]))<|xl O<|xf<|(QcR (q:=λe=>decide (e∉a.al)) (cap:=[.pointer (some ⟨b3,0,none⟩)]) (V.ext G) (λe w4 H=>QhP e w4 ((J.ext S).ext H) ((h.al.ext G).ext H))).mono ?_;rintro r3 w3 ⟨rfl,ha⟩;refine xe ?_;have I:=G.trans ha
 refine Q2 rfl (λT=>?_) (λT=>?_)
 ·rw[if_pos T];refine Qc<|x Qh<|x Qh<|Qe ?_;exact Qn ⟨[_,_,_],⟨O,O,O,U⟩,I,by rw[if_pos (by decide)];rfl⟩
 rw[if_neg (by rw[T];simp)];refine Qi<|Qc<|x (Qs ((J.ext S).ext ha) O O)<|Qb<|Qb<|xl O<|xf<|(QdS (h.ed.ext I) (V.ext I) ho s h0 h1).mono ?_;rintro r4 w4 ⟨rfl,H⟩;refine Qb<|x (Qp O O) <|
  x (Qp rfl O)<|x Qh<|Qe<|Qc<|Qb<|Qb<|x Qh<|x Qh<|Qe ?_
 exact Qn ⟨[_,_,_],⟨O,O,O,U⟩,I.trans H,O⟩
def enb (a:QV) (s:Int):LI:=(ZK a.ed s).map (·.2.1)
theorem Qgv {l:List Ed}{k:Nat}(h:k<l.length):(l.take (k+1)).map (·.2.1)=(l.take k).map (·.2.1)++[(l[k]'h).2.1]:=by
 rw[List.take_add_one,Lt h,Ls];rfl
theorem QbQ {L:LN}{w:World}{va vm ve:Value}{a:QV}(h:Zu L w.heap va vm ve a) (s:Int) :
  QJ prog 29 [.agg #[va,.int .i64 a.st,vm,ve],.int .i64 s] w λr w'=>Step [] w w'∧∃v,r=.tuple #[v,.int .i64 (cks a s)]∧(cks a s≠0→v=Za)∧(cks a s=0→Qt 3 w.heap.size w' v (enb a s)):=by
 refine QJ.of_W func29 O ntmps29 results29 (by simp) ?_;refine Qc<|xl O<|QT (us:=[va,.int .i64 a.st,vm,ve]) O λb2 w1 hf h4 hg=>x Qh<|Qe<|Qf<|Qc<|x (Qs hg O O)<|Qb<|xl O<|xf<|(X0 (h.ext hf) s).mono ?_;rintro r2 w2 ⟨rfl,hh⟩;refine Qe ?_;have S:=hf.trans hh;refine Qc<|Qb<|x (Q9 O O)<|xe<|Q7 rfl (λT=>?_) (λT=>?_)
 ·refine Qc<|Qb<|x Qh<|Qe ?_;exact Qn ⟨[Za,_],⟨O,O,U⟩,S,Za,O,λ_=>O,λe=>absurd e T⟩
 have hc:cks a s=0:=Lu.1 T;obtain ⟨G,h0,h1⟩:=Qak hc;have h5:=G.st1;rw[hc];refine Qi<|Qc<|Qe<|Qf<|Qc<|x (Qs (hg.ext hh) O O)<|Qb<|xl O<|xf<|(yx (h.ed.ext S) G.eds (λe he=>⟨(G.ed e he).1,by have:=(G.ed e he).2.1;omega⟩) s h0 (by omega)).mono ?_;rintro vo w3 ⟨hl,hE⟩;refine x (Qq hE O)<|Qb<|xe ?_;have hj:=S.trans hl;have hn:=hj.size;have hp:=JP a.ed s
 have h6:=G.ed_le;refine Zb (ZK a.ed s) λos H=>?_;rw[H] at hE hp;refine Qg<|Qy (α:=Nat×Value) [(7,7),(9,9),(20,29)] (λz=>[(7,z.2),(20,.int .i64 z.1)]) (λz w'=>z.1≤os.length∧Step [] w3 w'∧Qt 3 w3.heap.size w' z.2 ((os.take z.1).map (·.2.1))) (λz=>os.length - z.1) (by rfl) (0,nS) ⟨O,by rw[H];rfl,U⟩ ⟨Lk _,Step.refl _ _,QO _ _ _ _⟩ ?_;rintro ⟨k,v⟩ g w4 ⟨hk,J,I⟩
 simp only[] at hk I;have h7:=J.size;refine Qc<|x (QA O O)<|xe<|Qf<|QE O (λV=>?_) (λV=>?_)
 ·refine Qw<|Qc<|Qb<|x Qh<|Qe ?_;rw[Lm (by rw[H] at V;omega)] at I;refine Qn ⟨[v,_],⟨O,O,U⟩,hj.trans J,v,O,λe=>absurd O e,λ_=>?_⟩;unfold enb;rw[H];exact Zg I hn
 have E:k<os.length:=by rw[H] at V;omega
 refine Qi<|Qf<|Qg<|Qc<|xie (hE.ext J) O O E λh8 hq=>x (QI hq O O)<|xl O<|Qv (us:=[.int .i64 0,.int .i64 0,.int .i64 0]) O λb9 w5 hr hs ht=>xl O<|Qr (us:=Qz (os[k]'E)) ht O O O O ⟨O,O,O,U⟩ λw6 hu hv =>
  xe ?_
 have Y:Step [] w4 w6:=hr.then1 hu hs;have hw:=Qm I Y;refine Qx<|Qb<|x (Qa O)<|x (Qd hv O O)<|xl O<|QC (us:=[[.int .i64 (os[k]'E).2.1]]) O O (by decide) (by simp) ⟨rfl,rfl,U⟩ λh9 w7 ha hA hy=>?_;have hz:=Qm hw ha;have hB:=(Y.trans ha).size;have hC:((os.take k).map (·.2.1)).length≤131072:=by simp;omega
 refine xl rfl<|QU (news:=[.int .i64 (os[k]'E).2.1]) (L:=[]) hz O O O (hy.at (by simp)) (by simp[Value.oneCell']) (by omega) (by omega) λv8 w8 h2 h3 hD=>Qe ?_;have hge:=Qk I;refine Qx<|QN O O<|Qb<|xe<|⟨(k+1,v8),by simp only[];omega,⟨O,O,U⟩,E,((J.trans Y).trans ha).then h3 (λb hb=>.inr (hge b hb).1),?_⟩;simp only[];rw[Qgv E];exact Qt.snoc h2
theorem QhV {L:LN}{w:World}{v:Value}{l:LI}(h:QL L w.heap v l) (n:Int) :
  QJ prog 241 [v,.int .i64 n] w λr w'=>r=.int .i64 (Xy n none l)∧w'=w:=by
 have he:=h.le;refine QJ.of_W func241 O ntmps241 results241 (by simp) ?_;refine Qc<|Qe<|Qf<|Qc<|Qb<|x (Qq h O)<|Qb<|xe<|Qg<|Qy (α:=Nat) [(4,6),(9,34)] (λk=>[(9,.int .i64 k)]) (λk w'=>w'=w∧k≤l.length∧Xy n (pv l k) (l.drop k)=Xy n none l) (λk=>l.length - k) (by rfl) 0 Z ⟨O,Lk _,O⟩ ?_;rintro k g S ⟨rfl,hk,hm⟩;refine Qc<|x (QA O O)<|xe<|Qf<|QE O (λT=>?_) (λT=>?_)
 ·refine Qw<|Qc<|Qe<|Qn ⟨[.int .i64 0],Z,?_,O⟩;rw[←hm,Lq (by omega)];rfl
 have E:k<l.length:=by omega
 have hd:=QY E;rw[hd,Xy] at hm;refine Qi<|Qf<|Qg<|Qc<|Qb<|xii h O O E λhf V=>x (Qu V O)<|x Qh<|Qe<|Qg<|QW (α:=Bool) [(14,21)] (λz=>[(14,.bool z)]) (λz w'=>w'=S∧z=decide (l[k]<0∨n≤l[k])) (by rfl) ?_ ?_
 ·refine Qx<|Qb<|xb (QA O O) (λG=>?_) (λG=>?_)
  ·refine Qb<|xs O<|xs O<|xs O<|x (Qo O)<|Qe ?_;exact ⟨true,Z,O,by simp[G]⟩
  refine Qb<|Qb<|Qb<|x (ZU O O)<|x (Qo O)<|Qe ?_;exact ⟨_,Z,O,by simp[G]⟩
 rintro z g Y ⟨rfl,rfl⟩;refine Q7 rfl (λH=>?_) (λH=>?_)
 ·refine Qc<|Qe<|Qn ⟨[.int .i64 2],Z,?_,O⟩;rw[←hm,if_pos H];rfl
 rw[if_neg H] at hm;refine QW (α:=Bool) [(22,33)] (λz=>[(22,.bool z)]) (λz w'=>w'=Y∧z=U3 (pv l k) l[k]) (by rfl) ?_ ?_
 ·refine Qx<|Qb<|xb (ZR O O) (λha=>?_) (λha=>?_)
  ·have hb:((k:Int) - 1)=((k - 1:Nat):Int):=by omega
   refine Qb<|Qb<|Qb<|Qb<|x (X2 O O ⟨by omega,by omega⟩)<|xii (i:=k - 1) h O (by show Value.int _ ((k:Int) - 1)=_;rw[hb]) (by omega) λhg hc=>x (Qu hc rfl)<|x (X4 rfl rfl)<|x (Qo rfl)<|Qe<|⟨_,⟨rfl,U⟩,rfl,?_⟩;have:pv l k=some l[k - 1]:=by
    have I:k≠0:=by omega
    simp[pv,I,show k - 1<l.length by omega]
   rw[this];rfl
  refine Qb<|xs O<|xs O<|xs O<|xs O<|xs O<|xs O<|xs O<|x (Qo O)<|Qe ?_;have I:k=0:=by omega
  exact ⟨false,Z,O,by simp[pv,I,U3]⟩
 rintro z g w3 ⟨rfl,rfl⟩;refine Q2 rfl (λJ=>?_) (λJ=>?_)
 ·refine Qc<|Qe<|Qn ⟨[.int .i64 5],Z,?_,O⟩;rw[←hm,if_pos J];rfl
 rw[if_neg (by simp[J])] at hm;refine Qi<|Qx<|QN O O<|Qb<|xe ?_;exact ⟨k+1,by omega,Z,O,by omega,by rw[Jk E];exact hm⟩
theorem QaI {L:LN}{w:World}{v:Value}{l:LI}(h:QL L w.heap v l) (n:Int) :
  QJ prog 80 [v,.int .i64 n] w λr w'=>r=.int .i64 (Xy n none l)∧w'=w:=by
 have he:=h.le;refine QJ.of_W func80 O ntmps80 results80 (by simp) ?_;refine Qc<|Qe<|Qf<|Qc<|Qb<|x (Qq h O)<|Qb<|xe<|Qg<|Qy (α:=Nat) [(4,6),(9,32)] (λk=>[(9,.int .i64 k)]) (λk w'=>w'=w∧k≤l.length∧Xy n (pv l k) (l.drop k)=Xy n none l) (λk=>l.length - k) (by rfl) 0 Z ⟨O,Lk _,O⟩ ?_;rintro k g S ⟨rfl,hk,hm⟩;refine Qc<|x (QA O O)<|xe<|Qf<|QE O (λT=>?_) (λT=>?_)
 ·refine Qw<|Qc<|Qe<|Qn ⟨[.int .i64 0],Z,?_,O⟩;rw[←hm,Lq (by omega)];rfl
 have E:k<l.length:=by omega
 have hd:=QY E;rw[hd,Xy] at hm;refine Qi<|Qf<|Qg<|Qc<|Qb<|xii h O O E λhf V=>x (Qu V O)<|x Qh<|Qe<|Qf<|QW (α:=Bool) [(14,20)] (λz=>[(20,.bool z)]) (λz w'=>w'=S∧z=decide (l[k]<0∨n≤l[k])) (by rfl) ?_ ?_
 ·refine Qx<|Qb<|xb (QA O O) (λG=>?_) (λG=>?_)
  ·refine Qb<|xs O<|xs O<|xs O<|x (Qo O)<|xe ?_;exact ⟨true,Z,O,by simp[G]⟩
  refine Qb<|Qb<|Qb<|x (ZU O O)<|x (Qo O)<|xe ?_;exact ⟨_,Z,O,by simp[G]⟩
 rintro z g Y ⟨rfl,rfl⟩;refine Q7 rfl (λH=>?_) (λH=>?_)
 ·refine Qc<|Qe<|Qn ⟨[.int .i64 2],Z,?_,O⟩;rw[←hm,if_pos H];rfl
 rw[if_neg H] at hm;refine Qi<|QW (α:=Bool) [(21,31)] (λz=>[(31,.bool z)]) (λz w'=>w'=Y∧z=U3 (pv l k) l[k]) (by rfl) ?_ ?_
 ·refine Qx<|Qb<|xb (ZR O O) (λha=>?_) (λha=>?_)
  ·have hb:((k:Int) - 1)=((k - 1:Nat):Int):=by omega
   refine Qb<|Qb<|Qb<|Qb<|x (X2 O O ⟨by omega,by omega⟩)<|xii (i:=k - 1) h O (by show Value.int _ ((k:Int) - 1)=_;rw[hb]) (by omega) λhg hc=>x (Qu hc rfl)<|x (X4 rfl rfl)<|x (Qo rfl)<|xe<|⟨_,Z,O,?_⟩;have:pv l k=some l[k - 1]:=by
    have I:k≠0:=by omega
    simp[pv,I,show k - 1<l.length by omega]
   rw[this];rfl
  refine Qb<|xs O<|xs O<|xs O<|xs O<|xs O<|xs O<|xs O<|x (Qo O)<|xe ?_;have I:k=0:=by omega
  exact ⟨false,Z,O,by simp[pv,I,U3]⟩
 rintro z g w3 ⟨rfl,rfl⟩;refine Q2 rfl (λJ=>?_) (λJ=>?_)
 ·refine Qc<|Qe<|Qn ⟨[.int .i64 5],Z,?_,O⟩;rw[←hm,if_pos J];rfl
 rw[if_neg (by simp[J])] at hm;refine Qi<|Qx<|QN O O<|Qb<|xe ?_;exact ⟨k+1,by omega,Z,O,by omega,by rw[Jk E];exact hm⟩
end Go.Proofs.YtdffckgdcegpaaaGreatDoor
namespace Go.Lg
open Go.RowKit
def upY (P:Program) (m:Nat) (dst:Option Nat) (f:Fr) (K:Fr→World→Prop):Result Next→Prop
 | .ok (.value v) w'=>K (QX f dst v) w'
 | .ok .skip w'=>K (QX f dst undef) w'
 | .ok (.enter g args) w'=>Calls P g args w' λe E=>match e with | .returned v=>K (QX f dst v) E | _=>False
 | .ok (.round l fn tmps assign body) w'=>RoundIn (fen none) (m - 1) P l fn tmps assign body w' λe E=>match e with | .returned v=>K (QX f dst v) E | _=>False
 | _=>False
def XOY (P:Program) (m:Nat) (o:Oper) (f:Fr) (w:World) (K:Fr→World→Prop):Prop:=upY P m o.dst f K ((execOp (ev f) o).run P w)
def Xz (P:Program) (m:Nat) (ops:List Oper) (K:Fr→World→Prop):List Oper→Fr→World→Prop
 | [],f,w=>K f w
 | o::l,f,w=>bif Yc ops f o then XOY P m o f w (Xz P m ops K l) else Xz P m ops K l (QX f o.dst undef) w
section
variable {m:Nat} {P:Program} {n:Nat} {ds:LN}
theorem XOY.of_XO {o:Oper}{f:Fr}{w:World}{K K':Fr→World→Prop}(E:∀f w,K f w→K' f w) (h:XO P o f w K):XOY P m o f w K':=by
 unfold XO at h;unfold XOY;generalize (execOp (ev f) o).run P w=r at h;cases r with
 | ok nx w' =>
  cases nx <;> simp only[upF] at h <;> simp only[upY]
  case value v=>exact E _ _ h
  case skip=>exact E _ _ h
  case enter g args =>
   refine Calls.mono h λe G he=>?_;cases e with
   | returned v=>exact E _ _ he
   | panicked c=>exact he.elim
   | outgrown=>exact he.elim
 | halt x w'=>exact h.elim
theorem Xz.pre {ops:List Oper}{K:Fr→World→Prop}{l2:List Oper}:∀(E:List Oper) (f:Fr) (w:World),XL P ops (λf w=>Xz P m ops K l2 f w) E f w→Xz P m ops K (E++l2) f w
 | [],f,w,h=>by unfold XL at h;exact h
 | o::E,f,w,h=>by
  unfold XL at h;show (bif Yc ops f o then XOY P m o f w (Xz P m ops K (E++l2)) else Xz P m ops K (E++l2) (QX f o.dst undef) w);cases G:Yc ops f o with
  | false=>rw[G] at h;exact Xz.pre E _ _ h
  | true=>rw[G] at h;exact XOY.of_XO (λf w h=>Xz.pre E f w h) h
theorem Xz.pre2 {ops:List Oper}{K:Fr→World→Prop}{o1 o2:Oper}{l2:List Oper}{f:Fr}{w:World}(h:XL P ops (λf w=>Xz P m ops K l2 f w) [o1,o2] f w):Xz P m ops K (o1::o2::l2) f w:=Xz.pre [o1,o2] f w h
theorem Xz.of_XL {ops:List Oper}{K:Fr→World→Prop}{l:List Oper}{f:Fr}{w:World}(h:XL P ops K l f w):Xz P m ops K l f w:=by
 have:=Xz.pre (m:=m) (l2:=[]) l f w h
 rwa [LH] at this
theorem QgY {o:Oper}{a:Act}{f:Fr}{w:World}{K:Fr→World→Prop}{K':Act→World→Prop}{Q:Exit→Act→World→Prop}(h:Yq n ds a f)
  (E:∀v w',K (QX f o.dst v) w'→K' (a.put o.dst v) w') (hx:XOY P m o f w K):o.wpIn (fen none) m P a w K' Q:=by
 unfold XOY at hx;refine ⟨λ_ _=>trivial,?_⟩;have e:Oper.semAt (fen none).round a.eval o=execOp (ev f) o:=by rw[h.eval];rfl
 rw[e];generalize (execOp (ev f) o).run P w=r at hx;cases r with
 | ok nx w' =>
  cases nx <;> simp only[upY] at hx <;> simp only[Oper.uponIn]
  case value v=>exact E v w' hx
  case skip=>exact E _ w' hx
  case enter g args =>
   refine ⟨λh=>by simp[Fence.wide] at h,?_⟩;refine (callsIn_wide (n:=m - 1)).2 (Calls.mono hx λe G he=>?_);cases e with
   | returned v=>exact E v G he
   | panicked c=>exact he.elim
   | outgrown=>exact he.elim
  case round l fn tmps assign body =>
   refine ⟨λh=>by simp[Fence.wide] at h,?_⟩;refine RoundIn.mono hx λe G he=>?_;cases e with
   | returned v=>exact E v G he
   | panicked c=>exact he.elim
   | outgrown=>exact he.elim
 | halt x w'=>exact hx.elim
theorem QaB {Q:Exit→LN→Fr→World→Prop}{all:List Oper}(G:∀o∈all,∀d,o.dst=some d→d<n) (f0:Fr) :
  ∀(l:List Oper) (k:Nat) (a:Act) (f:Fr) (w:World),(∀j,l[j]?=all[k+j]?)→Yq n ds a f→(∀t,ZH all t=false→f t=f0 t) →
   Xz P m all (λf w=>Q .normal ds f w) l f w →
   wpOpsIn (fen none) m P all.toArray (λe T w'=>∃ds' f',Yq n ds' T f'∧(∀t,ZH all t=false→f' t=f0 t)∧Q e ds' f' w') (List.range' k l.length) a w
 | [],_,a,f,w,_,E,hk,h=>⟨ds,f,E,hk,by unfold Xz at h;exact h⟩
 | o::l,k,a,f,w,hl,E,hk,h=>by
  have I:all[k]?=some o:=by simpa using (hl 0).symm
  have H:o∈all:=LT I;have ih:=λa f w=>QaB (Q:=Q) G f0 l (k+1) a f w (λj=>by have:=hl (j+1);simpa[Nat.add_assoc,Nat.add_comm 1 j] using this);have next:∀v,(∀t,ZH all t=false→QX f o.dst v t=f0 t):=λv t J=>(YP (Xk H J) v).trans (hk t J);simp only[List.length_cons,List.range'_succ,wpOpsIn,List.getElem?_toArray,I];rw[Kr E G o];unfold Xz at h;cases S:Yc all f o with
  | false =>
   rw[S] at h;exact ⟨λ_ _=>trivial,ih _ _ _ (E.put (G o H) _) (next _) h⟩
  | true =>
   rw[S] at h;exact QgY E (λv w' hx=>ih _ _ _ (E.put (G o H) v) (next v) hx) h
theorem Kj {Q:Exit→LN→Fr→World→Prop}{f:Fr}{w:World}{id:Nat}{l:List Oper}(E:XR n l=true) (h:Xz P m l (λf w=>Q .normal ds f w) l f w):WG none m P n (.region id l.toArray false) Q ds f w:=by
 unfold WG;intro a ha;refine wpIn_region ?_;have:=QaB (m:=m) (YA E) f l 0 a f w (by simp) ha (λ_ _=>rfl) h;simpa[List.range_eq_range',Y4] using this
theorem xy {ops:List Oper}{rest:List Oper}{f:Fr}{w:World}{K:Fr→World→Prop}{d:Option Nat}{ty:Nat}{ps:String}{af:Array Edge}{gd:Option (Nat×Bool)}{x y:Operand}{at_:Array Nat}{l:Nat}{R:Ending→World→Prop}
  (hx:ev f x=.func (.yield l) #[] #[]) (hy:YieldAt (fen none) (m - 1) P l #[ev f y] w R) (E:∀e w',R e w'→∃v,e=.returned v∧Xz P m ops K rest (QX f d v) w')
  (G:Yc ops f ⟨d,.call ⟨.value x,[y].toArray,at_⟩,ty,ps,af,gd⟩=true:=by rfl) :
  Xz P m ops K (⟨d,.call ⟨.value x,[y].toArray,at_⟩,ty,ps,af,gd⟩::rest) f w:=by
 obtain ⟨fn,tmps,assign,body,h1,h2⟩:=hy;have H:(execOp (ev f) ⟨d,.call ⟨.value x,[y].toArray,at_⟩,ty,ps,af,gd⟩).run P w=.ok (.round l fn tmps assign body) w:=by
  simp[execOp,resolve,hx,Deferred.ofValue,invoke,h1]
 unfold Xz;rw[G];simp only[XOY,H,upY,cond_true];exact h2.mono λe w' h=>by obtain ⟨v,rfl,hk⟩:=E e w' h;exact hk
end
attribute [irreducible] Xz
structure Lw (B:Nat) (L:LN) (w w':World):Prop where
 os:w'.os=w.os
 tape:w'.tape=w.tape
 output:w'.output=w.output
 size:w.heap.size≤w'.heap.size
 low:∀k,k<B→k∉L→w'.heap[k]?=w.heap[k]?
theorem Lw.refl (B:Nat) (L:LN) (w:World):Lw B L w w:=⟨O,O,O,Lr _,λ_ _ _=>O⟩
theorem Lw.trans {B:Nat}{L:LN}{E w w':World}(h:Lw B L E w) (k:Lw B L w w'):Lw B L E w' :=
 ⟨k.os.trans h.os,k.tape.trans h.tape,k.output.trans h.output,LS h.size k.size,λi hi G=>(k.low i hi G).trans (h.low i hi G)⟩
theorem Step.lw {L:LN}{w w' E:World}(h:Step L w w') (k:Lw w.heap.size L w' E):Step L w E :=
 ⟨k.os.trans h.os,k.tape.trans h.tape,k.output.trans h.output,LS h.size k.size,λi hi G=>(k.low i hi G).trans (h.block i hi G)⟩
structure JA (B:Nat) (L:LN) (W W':World):Prop where
 lw:Lw B L W W'
 other:∀(k:Nat) (o:Obj),W.heap[k]?=some o→o.isCells=false→W'.heap[k]?=some o
theorem JA.refl (B:Nat) (L:LN) (w:World):JA B L w w:=⟨Lw.refl _ _ _,λ_ _ h _=>h⟩
theorem JA.trans {B:Nat}{L:LN}{E w w':World}(h:JA B L E w) (k:JA B L w w'):JA B L E w':=⟨h.lw.trans k.lw,λi o hi G=>k.other i o (h.other i o hi G) G⟩
theorem JA.step {B:Nat}{L X:LN}{W W':World}(h:Step X W W') (I:B≤W.heap.size) (E:∀b∈X,(b∈L∨B≤b)∧∃o:Obj,W.heap[b]?=some o∧o.isCells=true):JA B L W W':=by
 refine ⟨⟨h.os,h.tape,h.output,h.size,λk hk G=>h.block k (by omega) (λhx=>?_)⟩,λk o hk H=>?_⟩
 ·rcases (E k hx).1 with h1 | h1
  ·exact G h1
  omega
 refine (h.block k (LC.1 hk).1 (λhx=>?_)).trans hk;obtain ⟨J,h1,h2⟩:=(E k hx).2;rw[hk] at h1;cases h1;rw[H] at h2;cases h2
theorem JA.ext {B:Nat}{L:LN}{W W':World}(h:Step [] W W') (E:B≤W.heap.size):JA B L W W':=JA.step h E (λ_ hb=>by cases hb)
theorem Q3.cells {H:Array Obj}{b T:Nat}{cs:LV}(h:Q3 H b T cs):∃o:Obj,H[b]?=some o∧o.isCells=true:=⟨_,h,O⟩
theorem JA.blk {B:Nat}{L:LN}{W W':World}{b T:Nat}{cs:LV}(h:Step [b] W W') (E:B≤W.heap.size) (hb:Q3 W.heap b T cs) (G:b∈L∨B≤b):JA B L W W' :=
 JA.step h E (λc hc=>by
  have e:c=b:=by simpa using hc
  subst e;exact ⟨G,hb.cells⟩)
def ZY (B:Nat) (I:World→Prop):Prop:=∀W W' X,I W→Step X W W'→(∀r∈X,B≤r∧∃o:Obj,W.heap[r]?=some o∧o.isCells=false)→I W'
theorem ZY.own {β:Type}{B:Nat}{I:β→World→Prop}(h:∀s,ZY B (I s)):OwnFrom B I:=λs W W' row G H J =>
 h s W W' _ G (Step.of_grown H) (λr E=>J r (by cases row <;> simp at E ⊢;exact E.symm))
theorem ZY.blk {B:Nat}{b T:Nat}{cs:LV}:ZY B (λW=>Q3 W.heap b T cs):=λW W' X h E G=>h.step E (λhb=>by
 obtain ⟨_,o,h1,h2⟩:=G b hb;unfold Q3 at h;rw[h] at h1;cases h1;cases h2)
theorem ZY.and {B:Nat}{I J:World→Prop}(h:ZY B I) (k:ZY B J):ZY B (λW=>I W∧J W):=λW W' X hi E G=>⟨h W W' X hi.1 E G,k W W' X hi.2 E G⟩
theorem ZY.ex {B:Nat}{β:Type}{I:β→World→Prop}(h:∀z,ZY B (I z)):ZY B (λW=>∃z,I z W):=λW W' X ⟨z,hi⟩ E G=>⟨z,h z W W' X hi E G⟩
theorem ZY.pure {B:Nat}(p:Prop):ZY B (λ_=>p):=λ_ _ _ h _ _=>h
theorem ZY.step {B:Nat}{L:LN}{w:World}(H:w.heap.size≤B):ZY B (λW=>Step L w W):=λW W' X h E G=>h.then E (λb hb=>.inr (by have:=(G b hb).1;omega))
theorem QZ {w:World}{base e sz n:Nat}{v:Value}{cs:LV}(h:w.ownsRow base e sz v n cs):∀b∈ob v,∃o:Obj,w.heap[b]?=some o∧o.isCells=true:=by
 intro b hb;rcases h.2 with ⟨h1,_⟩ | ⟨g,cap,cur,h1,h2,h3,_⟩
 ·subst h1;simp[ob] at hb
 subst h1;simp[ob] at hb;subst hb;exact ⟨_,h3,O⟩
theorem ZY.row {B base e sz n:Nat}{v:Value}{cs:LV}:ZY B (λW=>W.ownsRow base e sz v n cs):=λW W' X h G H=>Qj h G (λb hb hx=>by
 obtain ⟨_,o,h1,h2⟩:=H b hx;obtain ⟨I,h3,E⟩:=QZ h b hb;rw[h1] at h3;cases h3;rw[h2] at E;cases E)
theorem Qji {α:Type}{m:Nat}{P:Program}{n:Nat}{Q:Exit→LN→Fr→World→Prop}{ds:LN}{f:Fr}{w:World}{g:Operand}{p:Nat}{assign body:Code}(L:LN) (h1:1≤m)
  {gf:Nat} {fn:Func} [hF:Fu P gf fn] {capt:LV} (hg:ev f g=.func (.func gf) #[] capt.toArray) {enc:α→Value} {S:List α→Prop} {N:Nat} (hp:p<n)
  (hb:SeqStopsK (fen none) (m - 1) P gf capt.toArray (λx=>#[enc x]) (Lw w.heap.size L) S (λ_=>True) N w)
  (I:List α→World→Prop) (hI:∀s,ZY w.heap.size (I s)) (h0:I [] w) (A:Fr→α→Fr→World→Prop) (hA:∀x E,ZY w.heap.size (A f x E))
  (T:∀l pre x W,I pre W→WG (some l) (m - 1 - 1) P n assign (QaO (λH E W'=>H=[]∧JA w.heap.size L W W'∧I pre W'∧A f x E W') (λ_ _ _ _=>False)) [] (upd f p (enc x)) W)
  (V:∀l pre x E W,I pre W→A f x E W→pre.length<N→WG (some l) (m - 1 - 1) P n body (QaO (λ_ _ W'=>JA w.heap.size L W W'∧I (pre++[x]) W') (λ_ _ _ _=>False)) [] E W)
  (hc:∀D xs W,w.heap.size≤D→S xs→I xs W→W.heap[D]?=some (.deferred (some []))→Q .normal (D::ds) f W) :
  WG none m P n (.rangeFunc g #[p] assign body) Q ds f w:=by
 unfold WG at T V ⊢;intro a ha;have eg:∀args w,(callFunc gf args).run P w=.ok (.enter gf args) w:=by
  intro args w;have h1:¬fn.name = "runtime.NumGoroutine" := by simpa using hF.nm
  have h2:¬fn.body=none:=by have:=hF.b;intro e;rw[e] at this;cases this
  simp[callFunc,hF.f,h1,h2]
 have keep:∀{W W':World},JA w.heap.size L W W'→KeepsFrom w.heap.size W W':=λh=>⟨h.lw.size,λk o _ hk Y=>h.other k o hk Y⟩;refine wpIn_rangeFunc_ownH (F:=fen none) O h1 (gf:=gf) (lb:=capt.toArray) (by rw[ha.eval];exact hg) U eg hb (λh k=>h.trans k)
  (λW l o o' hl Y _ _=>⟨O,O,O,by simp,λk hk _=>World.putObj_heap_other (by omega)⟩) (Below.refl _ _) (λ_=>rfl) I (λ_ _ _=>False) (ZY.own hI) (λ_ _ _ _ _ hs _ _=>hs) h0
  (λx G W=>∃E,Yq n [] G E∧A f x E W) (λx G=>ZY.own λ_=>ZY.ex λE=>ZY.and (ZY.pure _) (hA x E)) ?_ ?_ ?_ ?_
 ·intro l pre x W K hi hK;have hr:Yq n [] { tmps:=((#[p]:Array Nat).zip #[enc x]).foldl (λt (p,v)=>t.setIfInBounds p v) a.tmps,defers:=[] } (upd f p (enc x)):=by
   have h2:Yq n [] { a with defers:=[] } f:=⟨ha.size,O,ha.get⟩
   have h3:=h2.put (dst:=some p) (λd e=>by cases e;exact hp) (enc x);have e:((#[p]:Array Nat).zip #[enc x]).foldl (λt (p,v)=>t.setIfInBounds p v) a.tmps=a.tmps.setIfInBounds p (enc x):=by simp
   rw[e];exact h3
  refine wpIn_mono (T l pre x W hi _ hr) ?_;rintro e G W' ⟨H,E,h2,_,h3⟩;cases e with
  | normal=>obtain ⟨rfl,J,h5,h6⟩:=h3;exact hK G W' (keep J) J.lw h5 ⟨E,h2,h6⟩
  | exit id=>exact h3.elim
  | goto l=>exact h3.elim
  | ret=>exact h3.elim
  | panic ch=>exact h3.elim
  | outgrown=>exact h3.elim
 ·rintro l pre x G W _ _ hi ⟨E,h2,h3⟩ he;refine wpIn_mono (V l pre x E W hi h3 he G h2) ?_;rintro e hf W' ⟨H,hh,J,_,h5⟩;cases e with
  | normal=>exact ⟨keep h5.1,h5.1.lw,h5.2⟩
  | exit id=>exact h5.elim
  | goto l=>exact h5.elim
  | ret=>exact h5.elim
  | panic ch=>exact h5.elim
  | outgrown=>exact h5.elim
 ·intro D xs W hD hS hi hd;exact ⟨D::ds,f,⟨ha.size,by rw[show coll (D::ds)={ target:=.collected D,args:=#[] }::coll ds from rfl,ha.defers],ha.get⟩,λ_ _=>rfl,hc D xs W hD hS hi hd⟩
 intro D c pre W _ _ h _;exact h.elim
def Qk1 (P:Program) (t:Nat):Option (LV×List (Nat×Nat)):=match P.info? t,P.underlying t with
 | some it,some (.struct fs)=>match it.zero,fs.toList.mapM (λf=>(P.info? f.type).map λi=>(f.offset,i.size)) with
  | some (.agg zs),some pl=>some (zs.toList,pl)
  | _,_=>none
 | _,_=>none
class Bw (P:Program) (t:Nat) (zs:outParam (LV)) (pl:outParam (List (Nat×Nat))):Prop where
 h:Qk1 P t=some (zs,pl)
 b:pl.all (λx=>x.1+x.2≤zs.length)=true
def jC:LV→Nat→LV→LV
 | zs,_,[]=>zs
 | zs,o,u::us=>jC (zs.set o u) (o+1) us
def QgV (pl:List (Nat×Nat)) (zs:LV):List (Nat×LV)→LV
 | []=>zs
 | (j,us)::ps=>QgV pl (jC zs (pl.getD j (0,0)).1 us) ps
def Qjm:List (Nat×Value)→List (Nat×LV)→Prop
 | [],[]=>True
 | (j,v)::vs,(j',us)::uss=>v.cells=us.toArray∧j=j'∧Qjm vs uss
 | _,_=>False
theorem jB:∀(us zs:LV) (o:Nat),(jC zs o us).length=zs.length
 | [],_,_=>rfl
 | u::us,zs,o=>by rw[jC,jB us,MS]
theorem zl (o:Nat):∀(us:LV) (k:Nat) (zs:LV),(us.zipIdx k).foldl (λ(cs:Array Value) (x:Value×Nat)=>cs.setIfInBounds (o+x.2) x.1) zs.toArray=(jC zs (o+k) us).toArray
 | [],_,_=>rfl
 | u::us,k,zs=>by
  rw[Nn,LO,jC];have:=zl o us (k+1) (zs.set (o+k) u);rw[←List.setIfInBounds_toArray] at this;exact this
theorem Qgd {pl:List (Nat×Nat)}:∀(vs:List (Nat×Value)) (uss:List (Nat×LV)) (zs:LV),Qjm vs uss→uss.all (λp=>p.1<pl.length && (p.2.length == (pl.getD p.1 (0,0)).2))=true →
  (∀x∈pl,x.1+x.2≤zs.length)→Instr.fill (pl.toArray[·]?) zs.toArray vs=some (QgV pl zs uss).toArray
 | [],[],zs,_,_,_=>rfl
 | [],_::_,_,h,_,_=>h.elim
 | _::_,[],_,h,_,_=>h.elim
 | (j,v)::vs,(j',us)::uss,zs,h1,h2,h3=>by
  obtain ⟨hc,rfl,h1⟩:=h1;simp only[List.all_cons,Bool.and_eq_true,decide_eq_true_eq,beq_iff_eq] at h2;obtain ⟨⟨E,hl⟩,h2⟩:=h2;have G:pl.getD j (0,0)=pl[j]'E:=by simp[List.getD,E]
  have hm:=h3 _ (Lh E);unfold Instr.fill;simp only[List.getElem?_toArray,List.getElem?_eq_getElem E,hc];rw[G] at hl;rw[if_neg (by simp only[List.size_toArray,hl,ne_eq,not_true,decide_false,Bool.false_or,decide_eq_true_eq];omega)];have e:=zl (pl[j]'E).1 us 0 zs;rw[M9] at e
  have e2:(us.toArray.zipIdx).foldl (λ(cs:Array Value) (x:Value×Nat)=>cs.setIfInBounds ((pl[j]'E).1+x.2) x.1) zs.toArray=(jC zs (pl[j]'E).1 us).toArray:=by
   rw[←e];simp
  rw[e2,QgV,G];have H:=Qgd vs uss (jC zs (pl[j]'E).1 us) h1 h2 (λx hx=>by rw[jB];exact h3 x hx);simpa only[List.getElem?_toArray] using H
theorem QbF {P:Program}{t:Nat}{zs:LV}{pl:List (Nat×Nat)}(h:Qk1 P t=some (zs,pl)) (hb:pl.all (λx=>x.1+x.2≤zs.length)=true) (vs:List (Nat×Value)) (uss:List (Nat×LV)) (h1:Qjm vs uss)
  (h2:uss.all (λp=>p.1<pl.length && (p.2.length == (pl.getD p.1 (0,0)).2))=true):P.built t vs=some (QgV pl zs uss).toArray:=by
 have h3:∀x∈pl,x.1+x.2≤zs.length:=λo E=>by simpa using Mx.1 hb o E
 unfold Qk1 at h;unfold Program.built;cases hi:P.info? t with
 | none=>simp[hi] at h
 | some it =>
  cases hu:P.underlying t with
  | none=>simp[hi,hu] at h
  | some dd =>
   simp only[hi,hu] at h;cases dd <;> simp only[] at h <;> try (cases h)
   case struct fs =>
    cases hz:it.zero with
    | none=>simp[hz] at h
    | some z =>
     cases z <;> simp only[hz] at h <;> try (cases h)
     rename_i za;cases hm:fs.toList.mapM (λf=>(P.info? f.type).map λi=>(f.offset,i.size)) with
     | none=>simp[hm] at h
     | some pl' =>
      simp only[hm,Option.some.injEq,Prod.mk.injEq] at h;obtain ⟨rfl,rfl⟩:=h;simp only[hz,hm,Value.cells];exact Qgd vs uss za.toList h1 h2 h3
theorem ZV {P:Program}{f:Fr}{w:World}{d:Option Nat}{ty:Nat}{ps:String}{af:Array Edge}{gd:Option (Nat×Bool)}{t:Nat}{zs:LV}{pl:List (Nat×Nat)}[h:Bw P t zs pl] {parts:List (Nat×Operand)}(uss:List (Nat×LV))
  (h1:Qjm (parts.map λx=>(x.1,ev f x.2)) uss) (h2:uss.all (λp=>p.1<pl.length && (p.2.length == (pl.getD p.1 (0,0)).2))=true:=by rfl) :
  (execOp (ev f) ⟨d,.build t parts.toArray,ty,ps,af,gd⟩).run P w=.ok (.value (.agg (QgV pl zs uss).toArray)) w:=by
 have hb:=QbF h.h h.b _ uss h1 h2;have E:=run_build (P:=P) w t (parts.toArray.map λ(i,x)=>(i,ev f x)) _ (by simpa using hb);simp only[execOp,Sem.run_bind,E,Result.andThen_ok,Sem.run_pure]
end Go.Lg
namespace Go.Proofs.YtdffckgdcegpaaaGreatDoor
open Go.Lg
def cnE (p:Ed→Bool) (E:List Ed):Int:=((E.filter p).length:Int)
def gA (n:Nat) (f:Nat→Int):LI:=(List.range n).map f
theorem QkE (n:Nat) (f:Nat→Int):(gA n f).length=n:=by simp[gA]
theorem Qf7 {n:Nat}{f:Nat→Int}{i:Nat}(h:i<(gA n f).length):(gA n f)[i]'h=f i:=by simp[gA]
theorem QkD {n:Nat}{f g:Nat→Int}{i:Nat}{u:Int}(hu:u=g i) (h:∀j,j<n→j≠i→g j=f j):(gA n f).set i u=gA n g:=by
 apply Mk
 ·simp[gA]
 intro k h1 h2;rw[Nm,Qf7 h2];by_cases e:i=k
 ·rw[if_pos e,hu,e]
 rw[if_neg e,Qf7];exact (h k (by simpa[gA] using h2) (Ne.symm e)).symm
def fS (E:List Ed) (s:Nat):Int:=cnE (λe=>decide (e.1<(s:Int))) E
section
variable {P:Program} {K:Fr→World→Prop} {f:Fr} {w:World} {d:Option Nat} {ty:Nat} {ps:String} {af:Array Edge} {gd:Option (Nat×Bool)}
theorem Qfh {t:Nat}[h1:XC P t] {x y:Operand}{b T i n:Nat}{g E:Nat→Int}{u:Int}(G:Q3 w.heap b T ((gA n g).map (.int .i64))) (hx:ev f x=.pointer (some ⟨b,0+i*1,none⟩)) (hy:ev f y=.int .i64 u) (hi:i<n) (H:(gA n g).set i u=gA n E)
  (I:∀w',Step [b] w w'→Q3 w'.heap b T ((gA n E).map (.int .i64))→K (QX f d undef) w'):XO P ⟨d,.store t x y,ty,ps,af,gd⟩ f w K :=
 X9 G hx hy (by rw[QkE];exact hi) λw' J S=>I w' J (by rw[←H];exact S)
end
end Go.Proofs.YtdffckgdcegpaaaGreatDoor
namespace Go.Lg
open Go.RowKit
section
variable {P:Program} {K:Fr→World→Prop} {f:Fr} {w:World} {d:Option Nat} {ty:Nat} {ps:String} {af:Array Edge} {gd:Option (Nat×Bool)} {ops l:List Oper}
end
end Go.Lg
namespace Go.Proofs.YtdffckgdcegpaaaGreatDoor
open Go.Lg
def Kt {α:Type}(f:Nat→α) (i:Nat) (x:α):Nat→α:=λj=>if j=i then x else f j
theorem ZT {α:Type}(f:Nat→α) (i:Nat) (x:α):Kt f i x i=x:=by simp[Kt]
theorem Yf {α:Type}(f:Nat→α) {i j:Nat}(x:α) (h:j≠i):Kt f i x j=f j:=by simp[Kt,h]
theorem Qet {α β:Type}(k:α→β) (n:Nat) (f:Nat→α) (i:Nat) (x:α):((List.range n).map λj=>k (f j)).set i (k x)=(List.range n).map λj=>k (Kt f i x j):=by
 apply Mk
 ·simp
 intro j h1 h2;rw[Nm];by_cases e:i=j
 ·subst e;simp[ZT]
 rw[if_neg e];simp[Yf _ _ (Ne.symm e)]
structure Kp (base:Nat) (w:World) (n:Nat) (f:Nat→Value) (g:Nat→LI):Prop where
 own:∀i,i<n→Qt 3 base w (f i) (g i)
 dj:∀i j,i<n→j<n→i≠j→Dj (f i) (f j)
theorem Kp.app {base n i:Nat}{w w':World}{f:Nat→Value}{g:Nat→LI}{v':Value}{l:LI}(h:Kp base w n f g) (hi:i<n) (I:Qt 3 base w' v' l) (J:Step (ob (f i)) w w')
  (S:∀b∈ob v',b∈ob (f i)∨w.heap.size≤b):Kp base w' n (Kt f i v') (Kt g i l):=by
 refine ⟨λj E=>?_,λj k E hk G=>?_⟩
 ·by_cases e:j=i
  ·subst e;rw[ZT,ZT];exact I
  rw[Yf _ _ e,Yf _ _ e];exact Qj (h.own j E) J (h.dj j i E hi e)
 have key:∀j,j<n→j≠i→Dj v' (f j):=λj E e b hb H=>by
  rcases S b hb with h1 | h1
  ·exact h.dj i j hi E (Ne.symm e) b h1 H
  have:=QP (h.own j E) b H;omega
 by_cases e1:j=i
 ·subst e1;rw[ZT,Yf _ _ (Ne.symm G)];exact key k hk (Ne.symm G)
 rw[Yf _ _ e1];by_cases e2:k=i
 ·subst e2;rw[ZT];exact (key j E e1).symm
 rw[Yf _ _ e2];exact h.dj j k E hk G
theorem Kp.step {base n:Nat}{X:LN}{w w':World}{f:Nat→Value}{g:Nat→LI}(h:Kp base w n f g) (E:Step X w w') (G:∀i,i<n→∀b∈ob (f i),b∉X):Kp base w' n f g :=
 ⟨λi hi=>Qj (h.own i hi) E (G i hi),h.dj⟩
theorem Kp.ext {base n:Nat}{w w':World}{f:Nat→Value}{g:Nat→LI}(h:Kp base w n f g) (E:Step [] w w'):Kp base w' n f g:=h.step E (λ_ _ _ _=>by simp)
def Yl (E:List Ed) (s:Nat):LI:=(E.filter λe=>decide (e.2.2=(s:Int))).map (·.1)
theorem Qbl (E:List Ed) (e:Ed) (G:0≤e.2.2):∀s,Kt (Yl E) e.2.2.toNat (Yl E e.2.2.toNat++[e.1]) s=Yl (E++[e]) s:=by
 intro s;unfold Yl;rw[L3,Ls];by_cases h:s=e.2.2.toNat
 ·subst h;rw[ZT];have:e.2.2=(e.2.2.toNat:Int):=by omega
  simp[←this]
 rw[Yf _ _ h];have:¬e.2.2=(s:Int):=by omega
 simp[this]
theorem QdO {E:List Ed}{s:Nat}{p:Int}(h:p∈Yl E s):∃e∈E,e.1=p∧e.2.2=(s:Int):=by
 unfold Yl at h;simp only[List.mem_map,List.mem_filter,decide_eq_true_eq] at h;obtain ⟨e,⟨h1,h2⟩,h3⟩:=h;exact ⟨e,h1,h3,h2⟩
theorem VN (E:List Ed) (s:Nat):(Yl E s).length≤E.length:=by
 unfold Yl;rw[Lb];exact Mh _ _
def bwE (s:Int) (st:LI×LI) (p:Int):LI×LI:=if cget st.1 p.toNat<0 then (st.1.set p.toNat (cget st.1 s.toNat+1),st.2++[p]) else st
def Uj (n:Nat) (to:LI):LI:=(List.range n).map λi:Nat=>if (i:Int)∈to then 0 else -1
structure Qhg (n:Nat) (o q:LI):Prop where
 len:o.length=n
 q:∀x∈q,0≤x∧x<(n:Int)
 le:∀x∈o,-1≤x∧x+(neg o:Int)≤n
theorem Qfs (l:LI):neg l≤l.length:=Mh _ _
theorem Qk2 {n:Nat}{s p:Int}{st:LI×LI}(h:Qhg n st.1 st.2) (S:0≤s∧s<(n:Int)) (E:0≤cget st.1 s.toNat) (hp:0≤p∧p<(n:Int)) :
  Qhg n (bwE s st p).1 (bwE s st p).2∧neg (bwE s st p).1+(bwE s st p).2.length=neg st.1+st.2.length∧0≤cget (bwE s st p).1 s.toNat:=by
 unfold bwE;have hl:=h.len;have G:p.toNat<st.1.length:=by omega
 have H:s.toNat<st.1.length:=by omega
 by_cases hc:cget st.1 p.toNat<0
 ·rw[if_pos hc];have I:st.1[p.toNat]'G<0:=by rw[Zk G];exact hc
  have T:=h.le _ (Jf H);have V:=K4 st.1 p.toNat (cget st.1 s.toNat+1) G I (by omega);refine ⟨⟨by simp[hl],λx hx=>?_,λx hx=>?_⟩,?_,?_⟩
  ·simp only[List.mem_append,List.mem_singleton] at hx;rcases hx with hx | rfl
   ·exact h.q x hx
   exact hp
  ·simp only[] at hx ⊢;rcases Ng hx with h1 | h1
   ·have:=h.le x h1;omega
   subst h1;omega
  ·simp only[List.length_append,List.length_singleton];omega
  simp only[];have J:s.toNat≠p.toNat:=λe=>by rw[e] at E;omega
  have:cget (st.1.set p.toNat (cget st.1 s.toNat+1)) s.toNat=cget st.1 s.toNat:=by
   unfold cget;simp[List.getD,List.getElem?_set_ne (Ne.symm J)]
  rw[this];exact E
 rw[if_neg hc];exact ⟨h,rfl,E⟩
theorem Vq (n:Nat) (to:LI):(Uj n to).length=n:=by simp[Uj]
theorem Qk3 {n:Nat}{to:LI}(h:∀x∈to,0≤x∧x<(n:Int)):Qhg n (Uj n to) to:=by
 refine ⟨Vq n to,h,λx hx=>?_⟩;have E:=Qfs (Uj n to);rw[Vq] at E;unfold Uj at hx;simp only[List.mem_map] at hx;obtain ⟨i,_,rfl⟩:=hx;split <;> omega
theorem Qi7 {n:Nat}{to:LI}{x:Int}(h:0≤x∧x<(n:Int)) (hx:x∈to):cget (Uj n to) x.toNat=0:=by
 have h1:x.toNat<(Uj n to).length:=by rw[Vq];omega
 rw[←Zk h1];have:((x.toNat:Nat):Int)=x:=by omega
 simp[Uj,this,hx]
def Qla (o q:LI):Prop:=∀x∈q,0≤cget o x.toNat
theorem QgS {n:Nat}{s p:Int}{st:LI×LI}(h:Qhg n st.1 st.2) (H:0≤cget st.1 s.toNat) (hp:0≤p∧p<(n:Int)) (E:Qla st.1 st.2):Qla (bwE s st p).1 (bwE s st p).2:=by
 unfold bwE;have G:p.toNat<st.1.length:=by have:=h.len;omega
 by_cases hc:cget st.1 p.toNat<0
 ·rw[if_pos hc];intro x hx;simp only[] at hx ⊢;have e1:cget (st.1.set p.toNat (cget st.1 s.toNat+1)) x.toNat=if x.toNat=p.toNat then cget st.1 s.toNat+1 else cget st.1 x.toNat:=by
   by_cases e:x.toNat=p.toNat
   ·rw[if_pos e,e];unfold cget;simp[List.getD,G]
   rw[if_neg e];unfold cget;simp[List.getD,List.getElem?_set_ne (Ne.symm e)]
  rw[e1];split
  ·omega
  rename_i e;simp only[List.mem_append,List.mem_singleton] at hx;rcases hx with hx | rfl
  ·exact E x hx
  exact absurd O e
 rw[if_neg hc];exact E
theorem QeU (n:Nat):(List.replicate n (nS).cells.toList).flatten=(List.range n).map (λ_=>nS):=by
 apply Mk
 ·simp[Value.cells]
 intro i h1 h2;simp[Value.cells]
theorem QdN (n:Nat):(List.replicate n (Value.int .i64 0).cells.toList).flatten=(gA n (λj=>if j<0 then -1 else 0)).map (Value.int .i64):=by
 apply Mk
 ·simp[Value.cells,gA]
 intro i h1 h2;simp[Value.cells,gA]
theorem jD {rv:Nat→Value}{n i:Nat}(hi:i<n):((List.range n).map rv)[0+i*1]?=some (rv i):=by simp[hi]
abbrev Lf:=List Bool
def lft (l:Lf) (s:Int):Bool:=l.getD s.toNat false
def cut (l:Lf) (s:Int):Lf:=l.set s.toNat false
def JT (ul:LI) (lf:Lf) (out:List (Int×Int)) (e:Ed):List (Int×Int) :=
 if lft lf e.1=false∨lft lf e.2.2=true∨e.2.1∉ul then out else if out.getLast?.map (·.1)=some e.1 then out else out++[(e.1,e.2.1)]
def lost (a:QV) (ul:LI) (lf:Lf):List (Int×Int):=a.ed.foldl (JT ul lf) []
def dsE (lf:Lf) (x:Int) (z:LI×LI) (y:Int):LI×LI:=if lft lf y=true∧cget z.1 y.toNat<0 then (z.1.set y.toNat (cget z.1 x.toNat+1),z.2++[y]) else z
def dsL (E:List Ed) (lf:Lf):Nat→Nat→LI×LI→LI×LI
 | 0,_,z=>z
 | f+1,i,z=>if i<z.2.length then dsL E lf f (i+1) ((Yl E (cget z.2 i).toNat).foldl (dsE lf (cget z.2 i)) z) else z
def jl (lf:Lf) (z:LI×LI) (x:Int):LI×LI:=if lft lf x=true then (z.1.set x.toNat 0,z.2++[x]) else z
def ds0 (a:QV) (lf:Lf):LI×LI:=a.mr.foldl (jl lf) (List.replicate a.st.toNat (-1),[])
def dsts (a:QV) (lf:Lf):LI:=(dsL a.ed lf a.st.toNat 0 (ds0 a lf)).1
def KE (lf:Lf):Nat→LI→LI
 | _,[]=>[]
 | i,d::l=>if lf.getD i false=true∧d<0 then (i:Int)::KE lf (i+1) l else KE lf (i+1) l
def nxs (a:QV) (ul:LI) (lf:Lf):LI:=if (lost a ul lf).length≠0 then (lost a ul lf).map (·.1) else KE lf 0 (dsts a lf)
def qU (a:QV) (ul:LI):Nat→Lf→Lf
 | 0,lf=>lf
 | f+1,lf=>if (nxs a ul lf).length=0 then lf else qU a ul f ((nxs a ul lf).foldl cut lf)
def lf0 (n:Nat) (fb:LI):Lf:=fb.foldl cut (List.replicate n true)
def QlA (a:QV) (fb ul:LI):Lf:=qU a ul (a.st.toNat+1) (lf0 a.st.toNat fb)
def rstr (a:QV) (lf:Lf):QV:=⟨a.al,a.st,a.mr,a.ed.filter λe=>lft lf e.2.2⟩
def QeI (a:QV) (lf:Lf):QV:=if a.st=0∨lft lf 0=false then ⟨a.al,0,[],[]⟩ else JG (rstr a lf)
def ya (a:QV) (fb ul:LI):QV:=QeI a (QlA a fb ul)
def fbs (s:Spc):LI:=s.fb.map (·.st)
def suE (c:Zw):Int:=Yy c
def suA (c:Zw):QV:=ya (spc c).a (fbs (spc c)) (unc c.ev)
def orB (b:Nat) (k:Nat):Nat:=b ||| (1 <<< k)
def rqB (x:YH):Nat→Nat→List YH→Nat
 | _,b,[]=>b
 | k,b,y::l=>rqB x (k+1) (if (y.a.al.any λe=>decide (e∈x.a.al))=true then orB b k else b) l
def qN (ls:List (Int×Int)):Nat:=ls.foldl (λb l=>orB b l.1.toNat) 0
def srR (c:Zw):LN:=c.rq.map λx=>rqB x 0 0 c.co
def srX (c:Zw):LN:=c.ex.map λx=>qN x.ls
def srC (c:Zw):LN:=c.cs.map λx=>qN x.ts
def srK (c:Zw) (k:Int):LN:=if k=1 then srR c else if k=2 then srX c else srC c
structure KL where
 kd:Int
 ix:Int
 co:LI
def XZ (k:Int):Nat→LN→List KL
 | _,[]=>[]
 | i,b::l=>⟨k,i,setK b 8⟩::XZ k (i+1) l
def mods (c:Zw):List KL:=XZ 1 0 (srR c)++(XZ 2 0 (srX c)++XZ 3 0 (srC c))
def sets (c:Zw):LN:=srR c++(srX c++srC c)
def ym (c:Zw):Nat:=(sets c).foldl (λl b=>l &&& (65535 ^^^ b)) (2 ^ c.co.length - 1)
def rem (c:Zw):LI:=setK (ym c) 8
def mdE (c:Zw) (m:KL):Int:=if Zc c≠0 then Zc c else if m.kd<1∨3<m.kd then 11 else if m.ix<0∨((srK c m.kd).length:Int)≤m.ix then 10 else if m.co=setK ((srK c m.kd).getD m.ix.toNat 0) 8 then 0 else 13
structure Prt where
 co:LI
 rq:LI
 ex:LI
 cs:LI
def chs (l:List YH) (ix:LI):List YH:=ix.map λi=>l.getD i.toNat ⟨.empty,⟨[],0,[],[]⟩⟩
def ixP (co:LI) (ls:List (Int×Int)):List (Int×Int):=ls.map λl=>((co.idxOf l.1:Int),l.2)
def mis (co:LI) (ls:List (Int×Int)):Bool:=ls.any λl=>decide (l.1∉co)
def QhL (c:Zw) (p:Prt):List jo:=p.ex.map λi=>⟨(c.ex.getD i.toNat ⟨.empty,[]⟩).nm,ixP p.co (c.ex.getD i.toNat ⟨.empty,[]⟩).ls⟩
def QhN (c:Zw) (p:Prt):List Xj:=p.cs.map λi=>⟨(c.cs.getD i.toNat ⟨.empty,[],0⟩).nm,ixP p.co (c.cs.getD i.toNat ⟨.empty,[],0⟩).ts,(c.cs.getD i.toNat ⟨.empty,[],0⟩).bd⟩
def Qdm (c:Zw) (p:Prt):Zw:=⟨c.ev,chs c.co p.co,chs c.rq p.rq,QhL c p,QhN c p⟩
def Qly (c:Zw) (p:Prt):Bool:=(p.ex.any λi=>mis p.co (c.ex.getD i.toNat ⟨.empty,[]⟩).ls) || (p.cs.any λi=>mis p.co (c.cs.getD i.toNat ⟨.empty,[],0⟩).ts)
def ye (c:Zw) (p:Prt):Int :=
 if Zc c≠0 then Zc c else if Xy c.co.length none p.co≠0 then Xy c.co.length none p.co else if Xy c.rq.length none p.rq≠0 then Xy c.rq.length none p.rq else
 if Xy c.ex.length none p.ex≠0 then Xy c.ex.length none p.ex else if Xy c.cs.length none p.cs≠0 then Xy c.cs.length none p.cs else if Qly c p=true then 13 else Zc (Qdm c p)
def prt (m:KL):Prt:=⟨m.co,if m.kd=1 then [m.ix] else [],if m.kd=2 then [m.ix] else [],if m.kd≠1∧m.kd≠2 then [m.ix] else []⟩
def mcE (c:Zw) (m:KL):Int:=if mdE c m≠0 then mdE c m else ye c (prt m)
def mcC (c:Zw) (m:KL):Zw:=Qdm c (prt m)
def msE (c:Zw) (m:KL):Int:=if mcE c m≠0 then mcE c m else suE (mcC c m)
def msA (c:Zw) (m:KL):QV:=suA (mcC c m)
def msL (c:Zw):List KL→Int
 | []=>0
 | m::l=>if msE c m≠0 then msE c m else msL c l
def Qdc (c:Zw):Int:=if Zc c≠0 then Zc c else msL c (mods c)
def QeH (c:Zw):List QV:=(mods c).map (msA c)++(rem c).map λi=>(c.co.getD i.toNat ⟨.empty,⟨[],0,[],[]⟩⟩).a
def ju (l:List QV):Int:=if Vu l≠0 then Vu l else match sync l with | none=>3 | some _=>0
def tgA (c:Zw):QV:=syA (QeH c)
def ownr (c:Zw) (v:Int):LI:=ixs (λx:YH=>decide (v∈x.a.al)) 0 c.co
def shd (c:Zw):LI→Option (Int×Int×Int)
 | []=>none
 | v::l=>if 2≤(ownr c v).length then some (v,cget (ownr c v) 0,cget (ownr c v) 1) else shd c l
def QjT (c:Zw):Option (Int×Int×Int):=shd c (JJ c.ev.length)
abbrev QQ (p:Int×Int):LV:=[.int .i64 p.1,.int .i64 p.2]
theorem Yr (p:Int×Int):(QQ p).length=2:=rfl
abbrev P2s (L:LN) (H:Array Obj) (v:Value) (l:List (Int×Int)):Prop:=Zo L H v l.length 2 (l.flatMap QQ)
abbrev Zn (e:Km):LV:=[.string e.nm,.bool e.co,.bool e.ob,.bool e.fo,.int .i64 e.fl]
theorem y7 (e:Km):(Zn e).length=5:=rfl
abbrev Ue (s:ByteArray):Prop:=s.size≤9223372036854775807
structure KN (L:LN) (H:Array Obj) (v:Value) (l:List Km):Prop where
 arr:Zo L H v l.length 5 (l.flatMap Zn)
 nm:∀e∈l,Ue e.nm
theorem KN.ext {L:LN}{w w':World}{v:Value}{l:List Km}(h:KN L w.heap v l) (E:Step [] w w'):KN L w'.heap v l:=⟨h.arr.ext E,h.nm⟩
theorem KN.st {L:LN}{w w':World}{v:Value}{l:List Km}(h:KN L w.heap v l) (E:Step L w w'):KN L w'.heap v l:=⟨h.arr.st E,h.nm⟩
theorem KN.up {L L':LN}{H:Array Obj}{v:Value}{l:List Km}(h:KN L H v l) (E:∀b∈L',b∈L∨H.size≤b):KN L' H v l:=⟨h.arr.up E,h.nm⟩
structure IV where
 nm:ByteArray
 p:AV
def IV.it (q:IV):YH:=⟨q.nm,q.p.a⟩
abbrev Zf (q:IV):LV:=[.string q.nm,q.p.va,.int .i64 q.p.a.st,q.p.vm,q.p.ve]
theorem YK (q:IV):(Zf q).length=5:=rfl
structure Y6 (L:LN) (H:Array Obj) (v:Value) (qs:List IV):Prop where
 arr:Zo L H v qs.length 5 (qs.flatMap Zf)
 each:∀q∈qs,Zu L H q.p.va q.p.vm q.p.ve q.p.a
 nm:∀q∈qs,Ue q.nm
structure XV where
 nm:ByteArray
 v:Value
 ls:List (Int×Int)
def XV.x (q:XV):jo:=⟨q.nm,q.ls⟩
abbrev Zt (q:XV):LV:=[.string q.nm,q.v]
theorem XX (q:XV):(Zt q).length=2:=rfl
structure qP (L:LN) (H:Array Obj) (v:Value) (qs:List XV):Prop where
 arr:Zo L H v qs.length 2 (qs.flatMap Zt)
 each:∀q∈qs,P2s L H q.v q.ls
 nm:∀q∈qs,Ue q.nm
structure KV where
 nm:ByteArray
 v:Value
 ts:List (Int×Int)
 bd:Int
def KV.k (q:KV):Xj:=⟨q.nm,q.ts,q.bd⟩
abbrev Zv (q:KV):LV:=[.string q.nm,q.v,.int .i64 q.bd]
theorem Xq (q:KV):(Zv q).length=3:=rfl
structure qG (L:LN) (H:Array Obj) (v:Value) (qs:List KV):Prop where
 arr:Zo L H v qs.length 3 (qs.flatMap Zv)
 each:∀q∈qs,P2s L H q.v q.ts
 nm:∀q∈qs,Ue q.nm
theorem Y6.ext {L:LN}{w w':World}{v:Value}{qs:List IV}(h:Y6 L w.heap v qs) (E:Step [] w w'):Y6 L w'.heap v qs:=⟨h.arr.ext E,λq hq=>(h.each q hq).ext E,h.nm⟩
theorem Y6.st {L:LN}{w w':World}{v:Value}{qs:List IV}(h:Y6 L w.heap v qs) (E:Step L w w'):Y6 L w'.heap v qs:=⟨h.arr.st E,λq hq=>(h.each q hq).st E,h.nm⟩
theorem Y6.up {L L':LN}{H:Array Obj}{v:Value}{qs:List IV}(h:Y6 L H v qs) (E:∀b∈L',b∈L∨H.size≤b):Y6 L' H v qs:=⟨h.arr.up E,λq hq=>(h.each q hq).up E,h.nm⟩
theorem qP.ext {L:LN}{w w':World}{v:Value}{qs:List XV}(h:qP L w.heap v qs) (E:Step [] w w'):qP L w'.heap v qs:=⟨h.arr.ext E,λq hq=>(h.each q hq).ext E,h.nm⟩
theorem qP.st {L:LN}{w w':World}{v:Value}{qs:List XV}(h:qP L w.heap v qs) (E:Step L w w'):qP L w'.heap v qs:=⟨h.arr.st E,λq hq=>(h.each q hq).st E,h.nm⟩
theorem qP.up {L L':LN}{H:Array Obj}{v:Value}{qs:List XV}(h:qP L H v qs) (E:∀b∈L',b∈L∨H.size≤b):qP L' H v qs:=⟨h.arr.up E,λq hq=>(h.each q hq).up E,h.nm⟩
theorem qG.ext {L:LN}{w w':World}{v:Value}{qs:List KV}(h:qG L w.heap v qs) (E:Step [] w w'):qG L w'.heap v qs:=⟨h.arr.ext E,λq hq=>(h.each q hq).ext E,h.nm⟩
theorem qG.st {L:LN}{w w':World}{v:Value}{qs:List KV}(h:qG L w.heap v qs) (E:Step L w w'):qG L w'.heap v qs:=⟨h.arr.st E,λq hq=>(h.each q hq).st E,h.nm⟩
theorem qG.up {L L':LN}{H:Array Obj}{v:Value}{qs:List KV}(h:qG L H v qs) (E:∀b∈L',b∈L∨H.size≤b):qG L' H v qs:=⟨h.arr.up E,λq hq=>(h.each q hq).up E,h.nm⟩
structure CL where
 ve:Value
 vc:Value
 vr:Value
 vx:Value
 vk:Value
 ev:List Km
 co:List IV
 rq:List IV
 ex:List XV
 cs:List KV
def CL.cel (c:CL):Zw:=⟨c.ev,c.co.map (·.it),c.rq.map (·.it),c.ex.map (·.x),c.cs.map (·.k)⟩
abbrev CL.cells (c:CL):LV:=[c.ve,c.vc,c.vr,c.vx,c.vk]
abbrev CL.val (c:CL):Value:=.agg #[c.ve,c.vc,c.vr,c.vx,c.vk]
structure Zx (L:LN) (H:Array Obj) (c:CL):Prop where
 ev:KN L H c.ve c.ev
 co:Y6 L H c.vc c.co
 rq:Y6 L H c.vr c.rq
 ex:qP L H c.vx c.ex
 cs:qG L H c.vk c.cs
theorem Zx.ext {L:LN}{w w':World}{c:CL}(h:Zx L w.heap c) (E:Step [] w w'):Zx L w'.heap c:=⟨h.ev.ext E,h.co.ext E,h.rq.ext E,h.ex.ext E,h.cs.ext E⟩
theorem Zx.st {L:LN}{w w':World}{c:CL}(h:Zx L w.heap c) (E:Step L w w'):Zx L w'.heap c:=⟨h.ev.st E,h.co.st E,h.rq.st E,h.ex.st E,h.cs.st E⟩
theorem Zx.up {L L':LN}{H:Array Obj}{c:CL}(h:Zx L H c) (E:∀b∈L',b∈L∨H.size≤b):Zx L' H c:=⟨h.ev.up E,h.co.up E,h.rq.up E,h.ex.up E,h.cs.up E⟩
theorem Zx.ones {L:LN}{H:Array Obj}{c:CL}(h:Zx L H c):ZP c.cells:=⟨h.ev.arr.one,h.co.arr.one,h.rq.arr.one,h.ex.arr.one,h.cs.arr.one,U⟩
def Qhf (N:Nat) (H:Array Obj) (v:Value) (k:Zw):Prop:=∃c:CL,v=c.val∧c.cel=k∧∀L:LN,(∀b∈L,b<N)→Zx L H c
open Go.Proofs.Tryz
theorem VZ (s:ByteArray) (V:Ue s) (w:World):QJ prog 162 [.string s] w λr w'=>r=.bool (Yz s)∧w'=w:=by
 unfold Ue at V;refine QJ.of_W func162 O ntmps162 results162 (by simp) ?_;refine Qc<|Qe<|Qf<|Qc<|Qb<|x (Qa3 O)<|Qb<|xe<|Qg<|Qy (α:=Nat) [(2,5),(8,46)] (λz=>[(8,.int .i64 z)]) (λz w'=>w'=w∧z≤s.size∧(List.range' z (s.size - z)).all (nmQ s)=(List.range' 0 s.size).all (nmQ s)) (λz=>s.size - z) (by rfl) 0 Z ⟨O,Lk _,by rw[Nat.sub_zero]⟩ ?_;rintro k g T ⟨rfl,hk,E⟩
 refine Qc<|x (QA O O)<|xe<|Qf<|QE O (λh9=>?_) (λh9=>?_)
 ·refine Qw ?_;have Y:s.size≤k:=by have ha:¬(k:Int)<(s.size:Int):=h9;omega
  rw[QhR Y] at E;have G:Yz s=decide (0<s.size∧s.size≤32):=by unfold Yz;rw[←E];simp
  rw[G];refine QW (α:=Bool) [(2,2),(47,54)] (λz=>[(2,.bool z)]) (λz w'=>w'=T∧z=decide (0<s.size∧s.size≤32)) (by rfl) ?_ ?_
  ·refine Qx<|Qb<|x (Qa3 O)<|xb (ZR O O) (λhb=>?_) (λhb=>?_)
   ·refine Qb<|Qb<|x (Qa3 O)<|x (X4 O O)<|x (Qo O)<|Qe ?_;exact ⟨_,Z,O,by first | exact bT (by omega) | exact bF (by omega) | exact bD (by omega)⟩
   refine Qb<|xs O<|xs O<|xs O<|x (Qo O)<|Qe ?_;exact ⟨_,Z,O,by first | exact bT (by omega) | exact bF (by omega) | exact bD (by omega)⟩
  rintro z g w2 ⟨rfl,rfl⟩;exact Qn ⟨[_],Z,O,O⟩
 have H:k<s.size:=by have ha:(k:Int)<(s.size:Int):=h9;omega
 rw[QeV H,Mi] at E;refine Qi<|Qf<|Qg<|Qc<|Qb<|Qe<|Qc<|Qb<|Qb<|x (Qe5 (i:=k) O O H)<|Qe ?_;have hq:nmQ s k=decide (nmP k (chr s k)):=rfl;refine Zb (chr s k) λc hc=>?_;rw[hc] at hq;refine QW (α:=Bool) [(5,5),(14,31)] (λz=>[(5,.bool z)]) (λz w'=>w'=T∧z=decide ((97≤c∧c≤122)∨(65≤c∧c≤90)∨c=95)) (by rfl) ?_ ?_
 ·rw[←hc];refine Qx<|Qb<|xb (ZU O O) (λhe=>?_) (λhe=>?_)
  ·refine Qb<|Qb<|xb (X4 O O) (λhf=>?_) (λhf=>?_)
   ·refine x (Qo O)<|Qb<|xs O<|xs O<|xs O<|xs O<|xs O<|xs O<|x (Qo O)<|Qb<|xs O<|xs O<|x (Qo O) <|
     Qe ?_
    exact ⟨_,Z,O,by first | exact bT (by omega) | exact bF (by omega) | exact bD (by omega)⟩
   refine x (Qo O)<|Qb<|Qb<|xb (ZU O O) (λI=>?_) (λI=>?_)
   ·refine Qb<|Qb<|xb (X4 O O) (λJ=>?_) (λJ=>?_)
    ·refine x (Qo O)<|x (Qo O)<|Qb<|xs O<|xs O<|x (Qo O)<|Qe ?_;exact ⟨_,Z,O,by first | exact bT (by omega) | exact bF (by omega) | exact bD (by omega)⟩
    refine x (Qo O)<|x (Qo O)<|Qb<|Qb<|x (Q8 O O)<|x (Qo O)<|Qe ?_;exact ⟨_,Z,O,by first | exact bT (by omega) | exact bF (by omega) | exact bD (by omega)⟩
   refine Qb<|xs O<|xs O<|x (Qo O)<|x (Qo O)<|Qb<|Qb<|x (Q8 O O)<|x (Qo O)<|x Qh <|
    xe ?_
   exact ⟨_,Z,O,by first | exact bT (by omega) | exact bF (by omega) | exact bD (by omega)⟩
  refine Qb<|xs O<|xs O<|x (Qo O)<|Qb<|Qb<|xb (ZU O O) (λI=>?_) (λI=>?_)
  ·refine Qb<|Qb<|xb (X4 O O) (λJ=>?_) (λJ=>?_)
   ·refine x (Qo O)<|x (Qo O)<|Qb<|xs O<|xs O<|x (Qo O)<|Qe ?_;exact ⟨_,Z,O,by first | exact bT (by omega) | exact bF (by omega) | exact bD (by omega)⟩
   refine x (Qo O)<|x (Qo O)<|Qb<|Qb<|x (Q8 O O)<|x (Qo O)<|Qe ?_;exact ⟨_,Z,O,by first | exact bT (by omega) | exact bF (by omega) | exact bD (by omega)⟩
  refine Qb<|xs O<|xs O<|x (Qo O)<|x (Qo O)<|Qb<|Qb<|x (Q8 O O)<|x (Qo O)<|x Qh <|
   xe ?_
  exact ⟨_,Z,O,by first | exact bT (by omega) | exact bF (by omega) | exact bD (by omega)⟩
 rintro z g w4 ⟨rfl,rfl⟩;refine QW (α:=Bool) [(32,45)] (λz=>[(45,.bool z)]) (λz w'=>w'=w4∧z=decide (¬nmP k c)) (by rfl) ?_ ?_
 ·unfold nmP;rw[←hc];refine Qx<|Qb<|xb (UT O) (λhg=>?_) (λhg=>?_)
  ·refine Qb<|Qb<|xb (Q8 O O) (λhh=>?_) (λhh=>?_)
   ·refine Qb<|xs O<|xs O<|x (Qo O)<|Qb<|xs O<|xs O<|x (Qo O)<|x (Qo O)<|xe ?_;exact ⟨_,Z,O,by first | exact bT (by omega) | exact bF (by omega) | exact bD (by omega)⟩
   refine Qb<|Qb<|xb (QA O O) (λhj=>?_) (λhj=>?_)
   ·refine x (Qo O)<|Qb<|xs O<|xs O<|x (Qo O)<|x (Qo O)<|xe ?_;exact ⟨_,Z,O,by first | exact bT (by omega) | exact bF (by omega) | exact bD (by omega)⟩
   refine x (Qo O)<|Qb<|Qb<|x (ZR O O)<|x (Qo O)<|x (Qo O)<|xe ?_;exact ⟨_,Z,O,by first | exact bT (by omega) | exact bF (by omega) | exact bD (by omega)⟩
  refine Qb<|xs O<|xs O<|xs O<|xs O<|xs O<|xs O<|xs O<|xs O<|xs O<|xs O<|x (Qo O)<|xe ?_;exact ⟨_,Z,O,by first | exact bT (by omega) | exact bF (by omega) | exact bD (by omega)⟩
 rintro z g w5 ⟨rfl,rfl⟩;refine Q7 rfl (λS=>?_) (λS=>?_)
 ·refine Qc<|Qe ?_;have G:Yz s=false:=by
   unfold Yz;rw[←E,hq,decide_eq_false S];rfl
  exact Qn ⟨[_],Z,by rw[G];rfl,O⟩
 refine Qi ?_;have hl:nmP k c:=Lu.1 S;refine Qx<|QN O O<|Qb<|xe ?_;rw[hq,decide_eq_true hl,Bool.true_and] at E;exact ⟨k+1,by omega,Z,O,H,E⟩
def nmM (l:List ByteArray):List (ByteArray×Value):=l.map λs=>(s,.bool true)
theorem Qh5 (l:List ByteArray) (s:ByteArray):mget (nmM l) s=if s∈l then some (.bool true) else none:=by
 induction l with
 | nil=>rfl
 | cons a l ih =>
  show (if a=s then some (Value.bool true) else mget (nmM l) s)=_
  rw[ih];by_cases h:a=s
  ·subst h;simp
  have:s≠a:=λe=>h e.symm;simp[h,this]
theorem Qcj {l:List ByteArray}{s:ByteArray}(h:s∉l):mput (nmM l) s (.bool true)=nmM (l++[s]):=by
 induction l with
 | nil=>rfl
 | cons a l ih =>
  have h1:a≠s:=λe=>h (by subst e;exact Ln);show (if a=s then (a,Value.bool true)::nmM l else (a,Value.bool true)::mput (nmM l) s (.bool true))=_
  rw[if_neg h1,ih (λhm=>h (Ll _ hm))];rfl
section
variable {P:Program} {f:Fr} {w:World} {d:Option Nat} {ty:Nat} {ps:String} {af:Array Edge} {gd:Option (Nat×Bool)}
theorem jH {t kt et:Nat}[hm:Mp P t kt et (.bool false)] [hk:Key P kt Xr] {x y:Operand}{b:Nat}{l:List ByteArray}{s:ByteArray}(h:Z3 Xr w.heap b (nmM l)) (hx:ev f x=.map (some b)) (hy:ev f y=.string s) :
  (execOp (ev f) ⟨d,.lookup t x y false,ty,ps,af,gd⟩).run P w=.ok (.value (.bool (decide (s∈l)))) w:=by
 rw[X3 h hx hy,Qh5];by_cases E:s∈l <;> simp[E]
end
theorem QbC {s:List ByteArray}{l:List Km}{k:Nat}(h:k<l.length):V6 s (l.drop k)=if Xa s (l[k]'h)≠0 then Xa s (l[k]'h) else V6 (s++[(l[k]'h).nm]) (l.drop (k+1)):=by
 rw[QY h];rfl
theorem qt {L:LN}{w:World}{v:Value}{l:List Km}(h:KN L w.heap v l):QJ prog 94 [v] w λr w'=>r=.int .i64 (Js l)∧Step [] w w':=by
 have h3:=h.arr.le;refine QJ.of_W func94 O ntmps94 results94 (by simp) ?_;refine Qc<|Qe<|Qf<|Qc<|Qb<|x (Qq h.arr O)<|x (ZR O O)<|xe<|Q7 rfl (λh8=>?_) (λh8=>?_)
 ·refine Qc<|Qe ?_;exact Qn ⟨[_],Z,by unfold Js;rw[if_pos (by have h9:(32:Int)<(l.length:Int):=h8;omega)];rfl,Step.refl _ _⟩
 have hp:Js l=V6 [] l:=by unfold Js;rw[if_neg (by have h9:¬(32:Int)<(l.length:Int):=h8;omega)]
 rw[hp];refine Qi<|Qc<|xl O<|Yn Xr λb9 w1 hg hq hr=>Qe<|Qf<|Qc<|Qb<|x (Qq (h.arr.ext hg) O)<|Qb<|xe<|Qg<|Qy (α:=Nat×List ByteArray) [(2,2),(5,5),(12,50)] (λz=>[(12,.int .i64 z.1)]) (λz w'=>z.1≤l.length∧Step [] w w'∧Z3 Xr w'.heap b9 (nmM z.2)∧V6 z.2 (l.drop z.1)=V6 [] l) (λz=>l.length - z.1) (by rfl) (0,[]) Z
  ⟨Lk _,hg,hr,O⟩ ?_
 rintro ⟨k,sn⟩ g w2 ⟨hk,H,hh,E⟩;simp only[] at hk hh E;refine Qc<|x (QA O O)<|xe<|Qf<|QE O (λha=>?_) (λha=>?_)
 ·refine Qw ?_;have hs:l.length≤k:=by have ht:¬(k:Int)<(l.length:Int):=ha;omega
  rw[Lq hs] at E;refine Qc<|Qe ?_;exact Qn ⟨[_],Z,by rw[←E];rfl,H⟩
 have T:k<l.length:=by have ht:(k:Int)<(l.length:Int):=ha;omega
 rw[QbC T] at E;have hj:=h.nm _ (Lh T);refine Qi<|Qf<|Qg<|Qc<|xig y7 (h.arr.ext H) O O T λh4 hl=>?_;refine Zb (l[k]'T) λe he=>?_;rw[he] at hl E hj;refine x (QI hl O O)<|xl O<|Qv (us:=[.string .empty,.bool false,.bool false,.bool false,.int .i64 0]) O λb5 w3 hu hv G=>xl O<|Qr (us:=Zn e) G O O O O ⟨O,O,O,O,O,U⟩ λw4 hw G =>
  xe ?_
 have I:Step [] w2 w4:=hu.then1 hw hv;have ho:=hh.ext I;refine Qf<|Qg<|Qc<|x (Qa O)<|x (Qd G O O)<|xl O<|xf<|(VZ e.nm hj _).mono ?_;rintro r5 w5 ⟨rfl,rfl⟩;refine x (Zm O)<|Qe<|Q2 O (λhb=>?_) (λhb=>?_)
 ·have J:Yz e.nm=false:=by simpa using hb
  have h1:Xa sn e=7:=by unfold Xa;rw[if_pos J]
  refine Qc<|Qe ?_;exact Qn ⟨[_],Z,by rw[←E,h1];rfl,H.trans I⟩
 have J:¬Yz e.nm=false:=by simpa using hb
 refine Qc<|Qb<|x (Qa O)<|x (Qd G O O)<|x (jH ho O O)<|Qe<|Q7 O (λS=>?_) (λS=>?_)
 ·have h1:Xa sn e=8:=by unfold Xa;rw[if_neg J,if_pos S]
  refine Qc<|Qe ?_;exact Qn ⟨[_],Z,by rw[←E,h1];rfl,H.trans I⟩
 refine QW (α:=Bool) [(26,34)] (λz=>[(26,.bool z)]) (λz w'=>w'=w5∧z=decide (e.fl<0∨4<e.fl)) (by rfl) ?_ ?_
 ·refine Qx<|x (Qa O)<|x (Qd G O O)<|xb (QA O O) (λhy=>?_) (λhy=>?_)
  ·refine Qb<|xs O<|xs O<|xs O<|x (Qo O)<|Qe ?_;exact ⟨_,Z,O,by first | exact bT (by omega) | exact bF (by omega) | exact bD (by omega)⟩
  refine Qb<|x (Qa O)<|x (Qd G O O)<|x (ZR O O)<|x (Qo O)<|Qe ?_;exact ⟨_,Z,O,by first | exact bT (by omega) | exact bF (by omega) | exact bD (by omega)⟩
 rintro z g w6 ⟨rfl,rfl⟩;refine Q7 rfl (λV=>?_) (λV=>?_)
 ·have h1:Xa sn e=2:=by unfold Xa;rw[if_neg J,if_neg S,if_pos V]
  refine Qc<|Qe ?_;exact Qn ⟨[_],Z,by rw[←E,h1];rfl,H.trans I⟩
 refine QW (α:=Bool) [(35,46)] (λz=>[(35,.bool z)]) (λz w'=>w'=w6∧z=decide (e.fl≠0∧(e.co || e.ob)=true)) (by rfl) ?_ ?_
 ·refine Qx<|x (Qa O)<|x (Qd G O O)<|xb (Q9 O O) (λY=>?_) (λY=>?_)
  ·refine Qb<|x (Qa O)<|xB (Qd G O O) (λhc=>?_) (λhc=>?_)
   ·refine Qb<|xs O<|xs O<|x (Qo O)<|x (Qo O)<|Qe ?_;exact ⟨_,Z,O,by rw[hc,decide_eq_true ⟨Y,by simp⟩]⟩
   refine Qb<|x (Qa O)<|x (Qd G O O)<|x (Qo O)<|x (Qo O)<|Qe<|⟨_,Z,O,?_⟩;show e.ob=_;rw[hc];cases e.ob <;> simp[show ¬e.fl=0 from Y]
  refine Qb<|xs O<|xs O<|xs O<|xs O<|xs O<|xs O<|x (Qo O)<|Qe ?_;exact ⟨_,Z,O,bF (λh1=>Y h1.1)⟩
 rintro z g w7 ⟨rfl,rfl⟩;refine Q7 rfl (λhf=>?_) (λhf=>?_)
 ·have h1:Xa sn e=13:=by unfold Xa;rw[if_neg J,if_neg S,if_neg V,if_pos hf]
  refine Qc<|Qe ?_;exact Qn ⟨[_],Z,by rw[←E,h1];rfl,H.trans I⟩
 have h1:Xa sn e=0:=by unfold Xa;rw[if_neg J,if_neg S,if_neg V,if_neg hf]
 rw[h1,if_neg (λh=>h rfl)] at E;refine Qi<|Qx<|Qb<|x (Qa O)<|x (Qd G O O)<|xl O<|Xn (k:=e.nm) ho O O λw8 hz h0=>xe ?_;refine Qx<|QN O O<|Qb<|xe ?_;have h2:Z3 Xr w8.heap b9 (nmM (sn++[e.nm])):=by rw[←Qcj S];exact h0
 exact ⟨(k+1,sn++[e.nm]),by simp only[];omega,Z,T,(H.trans I).then1 hz hq,h2,E⟩
theorem jZ {α:Type}(q:α→Bool) (x:α):∀(l:List α) (i:Nat),ixs q i (l++[x])=ixs q i l++if q x=true then [((i+l.length:Nat):Int)] else []
 | [],i=>by simp[ixs]
 | a::l,i=>by
  have ih:=jZ q x l (i+1);simp only[List.cons_append,ixs,ih,List.length_cons];rw[show i+1+l.length=i+(l.length+1) by omega];split <;> simp
theorem Va {α:Type}(q:α→Bool):∀(l:List α) (i:Nat),(ixs q i l).length≤l.length
 | [],i=>by simp[ixs]
 | a::l,i=>by
  have ih:=Va q l (i+1);unfold ixs;split <;> simp <;> omega
theorem U5 {α:Type}(q:α→Bool) {l:List α}{k:Nat}(h:k<l.length):ixs q 0 (l.take (k+1))=ixs q 0 (l.take k)++if q (l[k]'h)=true then [(k:Int)] else []:=by
 rw[Le h,jZ];simp[Nat.min_eq_left (Nat.le_of_lt h)]
theorem Qd2 {g:Nat}{fn:Func}[Fu prog g fn] {q:Km→Bool}(hq:∀(e:Km) (w:World),QJ prog g [.agg (Zn e).toArray] w λr w'=>r=.bool (q e)∧Step [] w w') {L:LN}{w:World}{v:Value}{l:List Km}(h:KN L w.heap v l) :
  QJ prog 114 [v,.func (.func g) #[] #[]] w λr w'=>Step [] w w'∧Qt 3 w.heap.size w' r (ixs q 0 l):=by
 have hu:=h.arr.le;refine QJ.of_W func114 O ntmps114 results114 (by simp) ?_;refine Qc<|Qe<|Qc<|Qe<|Qf<|Qc<|Qb<|x (Qq h.arr O)<|Qb<|xe<|Qg<|Qy (α:=Nat×Value) [(5,7),(10,22)] (λz=>[(5,z.2),(10,.int .i64 z.1)]) (λz w'=>z.1≤l.length∧Step [] w w'∧Qt 3 w.heap.size w' z.2 (ixs q 0 (l.take z.1))) (λz=>l.length - z.1) (by rfl) (0,nS) ⟨O,O,U⟩
  ⟨Lk _,Step.refl _ _,QO _ _ _ _⟩ ?_
 rintro ⟨k,vo⟩ g w1 ⟨hk,E,I⟩;simp only[] at hk I;refine Qc<|x (QA O O)<|xe<|Qf<|QE O (λS=>?_) (λS=>?_)
 ·refine Qw ?_;have hf:l.length≤k:=by have hg:¬(k:Int)<(l.length:Int):=S;omega
  rw[Lm hf] at I;refine Qc<|Qb<|Qe ?_;exact Qn ⟨[_],Z,E,I⟩
 have G:k<l.length:=by have hg:(k:Int)<(l.length:Int):=S;omega
 have H:=U5 q G;have hv:=Va q (l.take k) 0;have hw:(l.take k).length=k:=by simp;omega
 refine Qi<|Qf<|Qg<|Qc<|Qb<|xig y7 (h.arr.ext E) O O G λhy hc=>?_;refine Zb (l[k]'G) λe he=>?_;rw[he] at hc H;refine x (QI hc O O)<|xl O<|Qv (us:=[.string .empty,.bool false,.bool false,.bool false,.int .i64 0]) O λb7 w2 hh hj T=>x Qh <|
  xl rfl<|Qr (us:=Zn e) T O O O O ⟨O,O,O,O,O,U⟩ λw3 hl T=>xe ?_
 have hn:Step [] w1 w3:=hh.then1 hl hj;refine Qc<|Qb<|x (Qs T O O)<|xl O<|xc (first:=[]) (capt:=[]) O<|(hq e w3).mono ?_;rintro r4 w4 ⟨rfl,ho⟩;have J:=hn.trans ho;have V:=Qm I J;have hz:=(E.trans J).size;refine xe<|Q2 rfl (λY=>?_) (λY=>?_)
 ·rw[if_pos Y] at H;refine Qx<|Qb<|Qb<|xl O<|QC (us:=[[.int .i64 k]]) O O (by decide) (by simp) ⟨rfl,rfl,U⟩ λh0 w5 ha h1 hp=>?_;have hr:=Qm V ha;have h2:=ha.size;refine xl O<|QU (news:=[.int .i64 k]) (L:=[]) hr O O O (hp.at (by simp)) (by simp[Value.oneCell']) (by omega) (by omega) λv6 w6 hs ht h3 =>
   Qe ?_
  have hge:=Qk V;refine Qx<|QN O O<|Qb<|xe<|⟨(k+1,v6),by simp only[];omega,⟨O,O,U⟩,G,((E.trans J).trans ha).then ht (λb hb=>.inr (hge b hb).1),?_⟩;simp only[];rw[H];exact Qt.snoc hs
 rw[if_neg (by rw[Y];decide),LH] at H;refine Qi<|Qx<|QN O O<|Qb<|xe ?_;exact ⟨(k+1,vo),by simp only[];omega,⟨O,O,U⟩,G,E.trans J,by simp only[];rw[H];exact V⟩
theorem QbJ (e:Km) (w:World):QJ prog 109 [.agg (Zn e).toArray] w λr w'=>r=.bool (!e.co)∧Step [] w w':=by
 refine QJ.of_W func109 O ntmps109 results109 (by simp) ?_;refine Qc<|xl O<|QT (us:=Zn e) O λH I E J G=>Qe<|Qc<|x (Qa O)<|x (Qd G O O)<|x (Zm O)<|Qe ?_;exact Qn ⟨[_],Z,O,E⟩
theorem Qeb {L:LN}{w:World}{v:Value}{l:List Km}(h:KN L w.heap v l):QJ prog 44 [v,.int .i64 2] w λr w'=>Step [] w w' ∧
  ∃vo,r=.tuple #[vo,.int .i64 (Js l)]∧Qt 3 w.heap.size w' vo (if Js l=0 then unc l else []):=by
 refine QJ.of_W func44 O ntmps44 results44 (by simp) ?_;refine Qc<|x Qh<|Qe<|Qf<|Qc<|Qb<|xl O<|xf<|(qt h).mono ?_;rintro r1 I ⟨rfl,J⟩;refine Qe<|Qc<|Qb<|x (Q9 O O)<|xe<|Q7 rfl (λG=>?_) (λG=>?_)
 ·refine Qc<|Qb<|x Qh<|Qe ?_;exact Qn ⟨[_,_],⟨O,O,U⟩,J,_,O,by rw[if_neg G];exact QO _ _ _ _⟩
 have S:Js l=0:=Lu.1 G;refine Qi<|Qc<|xl O<|Yn Ky λT w2 V E Y=>xl O<|YX (k:=1) Y O O λw3 ha hb=>xl O<|YX (k:=2) hb O O λw4 hc he =>
  xl rfl<|YX (k:=3) he O O λw5 hf hg=>xl O<|YX (k:=4) hg O O λw6 hh hj=>xl O<|YX (k:=5) hj O O λw7 hl hn=>xl O<|YX (k:=6) hn O O λw8 ho hp =>
  Qb<|Qe ?_
 have ht:I.heap.size≤T:=E;have hq:Step [] I w8:=(((((V.then1 ha E).then1 hc E).then1 hf E).then1 hh E).then1 hl E).then1 ho E;refine Qc<|Qb<|Qb<|x (zq (k:=(2:Int)) hp O O O)<|Qb<|x (Qp O O)<|x (Qp O O)<|x Qh<|Qe<|Qf<|Qc<|Qb<|x (Zm O)<|xe<|ZX rfl ?_;refine Qi ?_;have H:=J.trans hq;refine Qc<|Qb<|Qb<|xl O<|xf<|(Qd2 QbJ (h.ext H)).mono ?_
 rintro r9 w9 ⟨hr,hs⟩;refine x Qh<|Qe<|Qn ⟨[_,_],⟨O,O,U⟩,H.trans hr,_,by rw[S];rfl,?_⟩;rw[if_pos S];exact Zg hs H.size
theorem j4 (n:Int) (w:World):QJ prog 220 [.int .i64 n] w λr w'=>r=.bool (grt n)∧w'=w:=by
 refine QJ.of_W func220 O ntmps220 results220 (by simp) ?_;refine Qc<|Qe<|QW (α:=Bool) [(2,8)] (λz=>[(2,.bool z)]) (λz w'=>w'=w∧z=grt n) (by rfl) ?_ ?_
 ·refine Qx<|Qb<|xb (QA O O) (λE=>?_) (λE=>?_)
  ·refine Qb<|xs O<|xs O<|x (Qo O)<|Qe ?_;exact ⟨_,Z,O,by unfold grt;rw[decide_eq_true E];rfl⟩
  refine Qb<|Qb<|x (ZR O O)<|x (Qo O)<|Qe ?_;exact ⟨_,Z,O,by unfold grt;rw[decide_eq_false E];rfl⟩
 rintro z g G ⟨rfl,rfl⟩;exact Qn ⟨[_],Z,O,O⟩
theorem QbB {sz:LI}{ls:List (Int×Int)}{k:Nat}(h:k<ls.length):YN sz (pv (ls.map (·.1)) k) (ls.drop k)=if (ls[k]'h).1<0∨(sz.length:Int)≤(ls[k]'h).1 then 2 else if U3 (pv (ls.map (·.1)) k) (ls[k]'h).1=true then 5 else if (ls[k]'h).2<0∨cget sz (ls[k]'h).1.toNat≤(ls[k]'h).2 then 2 else YN sz (pv (ls.map (·.1)) (k+1)) (ls.drop (k+1)):=by
 rw[QY h,Jk (by simpa using h),Mb];rfl
theorem Vo {w:World}{vs vx vk vl:Value}{sz:LI}{ls:List (Int×Int)}{nm:ByteArray}(hS:QL [] w.heap vs sz) (hl:P2s [] w.heap vl ls) :
  QJ prog 170 [.agg #[vs,vx,vk],.agg #[.string nm,vl]] w λr w'=>r=.int .i64 (XS sz ls)∧Step [] w w':=by
 have hJ:=hl.le;have hK:=hS.le;refine QJ.of_W func170 O ntmps170 results170 (by simp) ?_;refine Qc<|xl O<|QT (us:=[vs,vx,vk]) O λb2 w1 h0 hL V=>xl O<|QT (us:=[.string nm,vl]) O λb3 w2 hr hM Y=>Qe ?_;have G:=h0.trans hr
 replace V:=V.ext hr;refine Qf<|Qc<|x (Qa O)<|x (Qd Y O O)<|x (Qq (hl.ext G) O)<|x (Q8 O O)<|xe<|Q7 rfl (λha=>?_) (λha=>?_)
 ·refine Qc<|Qe ?_;exact Qn ⟨[_],Z,by unfold XS;rw[if_pos (by have h1:(ls.length:Int)=0:=ha;omega)];rfl,G⟩
 have h2:ls.length≠0:=by have h1:¬(ls.length:Int)=0:=ha;omega
 have h3:XS sz ls=YN sz none ls:=by unfold XS;rw[if_neg h2]
 rw[h3];refine Qi<|Qf<|Qc<|x (Qa O)<|x (Qd Y O O)<|x (Qq (hl.ext G) O)<|Qb<|xe<|Qg<|Qy (α:=Nat) [(4,6),(14,61)] (λz=>[(14,.int .i64 z)]) (λz w'=>z≤ls.length∧Step [] w2 w'∧YN sz (pv (ls.map (·.1)) z) (ls.drop z)=YN sz none ls) (λz=>ls.length - z) (by rfl) 0 Z
  ⟨Lk _,Step.refl _ _,O⟩ ?_
 rintro k g w3 ⟨hk,J,E⟩;have hb:=G.trans J;have hs:=V.ext J;have h4:=Y.ext J;have ht:=hl.ext hb;have hu:=hS.ext hb;refine Qc<|x (QA O O)<|xe<|Qf<|QE O (λhf=>?_) (λhf=>?_)
 ·refine Qw ?_;have h5:ls.length≤k:=by have h6:¬(k:Int)<(ls.length:Int):=hf;omega
  rw[Lq h5] at E;refine Qc<|Qe ?_;exact Qn ⟨[_],Z,by rw[←E];rfl,hb⟩
 have S:k<ls.length:=by have h6:(k:Int)<(ls.length:Int):=hf;omega
 rw[QbB S] at E;refine Qi<|Qf<|Qg<|Qc<|Qb<|xig Yr ht O O S λhN hv=>?_;refine Zb (ls[k]'S) λe he=>?_;rw[he] at hv E;refine x (QI hv O O)<|xl O<|Qv (us:=[.int .i64 0,.int .i64 0]) O λb6 w4 h7 h8 I=>x Qh<|xl O<|Qr (us:=QQ e) I O O O O ⟨O,O,U⟩ λw5 h9 I=>xe ?_;have H:Step [] w3 w5:=h7.then1 h9 h8;have hw:=J.trans H
 refine Qg<|QW (α:=Bool) [(19,30)] (λz=>[(19,.bool z)]) (λz w'=>w'=w5∧z=decide (e.1<0∨(sz.length:Int)≤e.1)) (by rfl) ?_ ?_
 ·refine Qx<|x (Qa O)<|x (Qd I O O)<|xb (QA O O) (λhA=>?_) (λhA=>?_)
  ·refine Qb<|xs O<|xs O<|xs O<|xs O<|xs O<|xs O<|x (Qo O)<|Qe ?_;exact ⟨_,Z,O,by first | exact bT (by omega) | exact bF (by omega) | exact bD (by omega)⟩
  refine Qb<|x (Qa O)<|x (Qd I O O)<|x (Qa O)<|x (Qd (hs.ext H) O O)<|x (Qq (hu.ext H) O)<|x (ZU O O) <|
   x (Qo rfl)<|Qe ?_
  exact ⟨_,Z,O,by first | exact bT (by omega) | exact bF (by omega) | exact bD (by omega)⟩
 rintro z g w6 ⟨rfl,rfl⟩;refine Q7 rfl (λhg=>?_) (λhg=>?_)
 ·rw[if_pos hg] at E;refine Qc<|Qe ?_;exact Qn ⟨[_],Z,by rw[←E];rfl,G.trans hw⟩
 rw[if_neg hg] at E;have hB:e.1=((e.1.toNat:Nat):Int):=by omega
 have hC:e.1.toNat<sz.length:=by omega
 refine QW (α:=Bool) [(31,45)] (λz=>[(31,.bool z)]) (λz w'=>Step [] w6 w'∧z=U3 (pv (ls.map (·.1)) k) e.1) (by rfl) ?_ ?_
 ·refine QS (Step [] w6) [(0,true),(1,true),(2,true),(3,true),(4,true),(5,true),(6,true),(7,true),(8,true),(9,true),(10,true),(11,true),(12,true),(13,true),(14,true)] mixed (by rfl) (by kernel_rfl) (Step.drew _ _) ?_;refine p (λ_=>Ql)<|pb (λ_=>ZR O O) (λhh=>?_) (λhh=>?_)
  ·have hj:k≠0:=by have hD:(0:Int)<(k:Int):=hh;omega
   have hE:((k:Int) - 1)=((k - 1:Nat):Int):=by omega
   have hn:k - 1<ls.length:=by omega
   refine p (λ_=>Ql)<|p (λ_=>Qa O)<|pq (λ_ hc=>Qd (I.ext hc) O O)<|p (λ_=>Qa O)<|pq (λ_ hc=>Qd ((h4.ext H).ext hc) O O) <|
    p (λ_=>Ql)<|p (λ_=>X2 O O ⟨by omega,by omega⟩)<|Lg.pig (g:=QQ) (i:=k - 1) O Yr (ht.ext H) O (congrArg (Value.int .i64) hE) hn λhO hF=>p (λ_=>Q4 O) <|
    pq (λ_ hc=>Qu ((hF.fld 0 _ O).ext hc) O)<|p (λ_=>X4 O O)<|p (λ_=>Qo O)<|p (λ_=>Qh)<|pe ?_
   refine ⟨_,Z,Step.drew _ _,?_⟩;have:pv (ls.map (·.1)) k=some (ls[k - 1]'hn).1:=by simp[pv,hj,hn]
   rw[this];rfl
  have hj:k=0:=by have hD:¬(0:Int)<(k:Int):=hh;omega
  refine p (λ_=>Ql)<|ps<|ps<|ps<|ps<|ps<|ps<|ps<|ps<|ps<|ps<|p (λ_=>Qo O)<|p (λ_=>Qh)<|pe ?_;exact ⟨false,Z,Step.drew _ _,by simp[pv,hj,U3]⟩
 rintro z g w7 ⟨T,rfl⟩;have hy:=hw.trans T;refine Q2 rfl (λho=>?_) (λho=>?_)
 ·rw[if_pos ho] at E;refine Qc<|Qe ?_;exact Qn ⟨[_],Z,by rw[←E];rfl,G.trans hy⟩
 rw[if_neg (by simp[ho])] at E;have hp:=I.ext T;refine QW (α:=Bool) [(46,60)] (λz=>[(46,.bool z)]) (λz w'=>Step [] w7 w'∧z=decide (e.2<0∨cget sz e.1.toNat≤e.2)) (by rfl) ?_ ?_
 ·refine QS (Step [] w7) [(0,true),(1,true),(2,true),(3,true),(4,true),(5,true),(6,true),(7,true),(8,true),(9,true),(10,true),(11,true),(12,true),(13,true),(14,true)] mixed (by rfl) (by kernel_rfl) (Step.drew _ _) ?_;refine p (λ_=>Qa O)<|pq (λ_ hc=>Qd (hp.ext hc) O O)<|pb (λ_=>QA O O) (λhG=>?_) (λhG=>?_)
  ·refine p (λ_=>Ql)<|ps<|ps<|ps<|ps<|ps<|ps<|ps<|ps<|ps<|p (λ_=>Qo O)<|p (λ_=>Qh)<|pe ?_;exact ⟨_,Z,Step.drew _ _,by first | exact bT (by omega) | exact bF (by omega) | exact bD (by omega)⟩
  refine p (λ_=>Ql)<|p (λ_=>Qa O)<|pq (λ_ hc=>Qd (hp.ext hc) O O)<|p (λ_=>Qa O)<|pq (λ_ hc=>Qd (((hs.ext H).ext T).ext hc) O O) <|
   p (λ_=>Qa O)<|pq (λ_ hc=>Qd (hp.ext hc) O O)<|pic (i:=e.1.toNat) O ((hu.ext H).ext T) O (congrArg (Value.int .i64) hB) hC λhP hH=>pq (λ_ hc=>Qu (hH.ext hc) O) <|
   p (λ_=>ZU O O)<|p (λ_=>Qo O)<|p (λ_=>Qh)<|pe ?_
  exact ⟨_,Z,Step.drew _ _,by first | exact bT (by omega) | exact bF (by omega) | exact bD (by omega)⟩
 rintro z g w8 ⟨hI,rfl⟩;have hz:=hy.trans hI;refine Q7 rfl (λhq=>?_) (λhq=>?_)
 ·rw[if_pos hq] at E;refine Qc<|Qe ?_;exact Qn ⟨[_],Z,by rw[←E];rfl,G.trans hz⟩
 rw[if_neg hq] at E;refine Qi<|Qx<|QN O O<|Qb<|xe ?_;exact ⟨k+1,by omega,Z,S,hz,E⟩
theorem QbA {sz:LI}{ls:List (Int×Int)}{k:Nat}(h:k<ls.length):Y9 sz (pv (ls.map (·.1)) k) (ls.drop k)=if (ls[k]'h).1<0∨(sz.length:Int)≤(ls[k]'h).1 then 2 else if U3 (pv (ls.map (·.1)) k) (ls[k]'h).1=true then 5 else if (ls[k]'h).2=0∨grt (ls[k]'h).2=true then 2 else Y9 sz (pv (ls.map (·.1)) (k+1)) (ls.drop (k+1)):=by
 rw[QY h,Jk (by simpa using h),Mb];rfl
theorem KD {w:World}{vs vx vk vl:Value}{sz:LI}{ls:List (Int×Int)}{nm:ByteArray}{bd:Int}(hS:QL [] w.heap vs sz) (hl:P2s [] w.heap vl ls) :
  QJ prog 172 [.agg #[vs,vx,vk],.agg #[.string nm,vl,.int .i64 bd]] w λr w'=>r=.int .i64 (YE sz ⟨nm,ls,bd⟩)∧Step [] w w':=by
 have hJ:=hl.le;have hK:=hS.le;refine QJ.of_W func172 O ntmps172 results172 (by simp) ?_;refine Qc<|xl O<|QT (us:=[vs,vx,vk]) O λb2 w1 h2 hL V=>xl O<|QT (us:=[.string nm,vl,.int .i64 bd]) O λb3 w2 hs hM Y=>Qe ?_;have G:=h2.trans hs
 replace V:=V.ext hs;refine Qf<|Qc<|x (Qa O)<|x (Qd Y O O)<|x (Qq (hl.ext G) O)<|x (Q8 O O)<|xe<|Q7 rfl (λha=>?_) (λha=>?_)
 ·refine Qc<|Qe ?_;exact Qn ⟨[_],Z,by unfold YE;rw[if_pos (by have h3:(ls.length:Int)=0:=ha;show ls.length=0;omega)];rfl,G⟩
 have h4:ls.length≠0:=by have h3:¬(ls.length:Int)=0:=ha;omega
 have h5:YE sz ⟨nm,ls,bd⟩=if Y9 sz none ls≠0 then Y9 sz none ls else if grt bd=true then 2 else 0:=by unfold YE;rw[if_neg h4]
 rw[h5];refine Qi<|Qf<|Qc<|x (Qa O)<|x (Qd Y O O)<|x (Qq (hl.ext G) O)<|Qb<|xe<|Qg<|Qy (α:=Nat) [(4,6),(14,55)] (λz=>[(14,.int .i64 z)]) (λz w'=>z≤ls.length∧Step [] w2 w'∧Y9 sz (pv (ls.map (·.1)) z) (ls.drop z)=Y9 sz none ls) (λz=>ls.length - z) (by rfl) 0 Z
  ⟨Lk _,Step.refl _ _,O⟩ ?_
 rintro k g w3 ⟨hk,J,E⟩;have S:=G.trans J;have h6:=V.ext J;have ht:=Y.ext J;have hu:=hl.ext S;have h7:=hS.ext S;refine Qc<|x (QA O O)<|xe<|Qf<|QE O (λhb=>?_) (λhb=>?_)
 ·refine Qw ?_;have h8:ls.length≤k:=by have h9:¬(k:Int)<(ls.length:Int):=hb;omega
  rw[Lq h8] at E;have hA:Y9 sz none ls=0:=E.symm;rw[hA,if_neg (λh=>h rfl)];refine Qf<|Qc<|x (Qa O)<|x (Qd ht O O)<|xl O<|xf<|(j4 bd _).mono ?_;rintro r4 w4 ⟨rfl,rfl⟩;refine xe<|Q2 O (λhf=>?_) (λhf=>?_)
  ·rw[if_pos hf];refine Qc<|Qe ?_;exact Qn ⟨[_],Z,O,S⟩
  rw[if_neg (by simp[hf])];refine Qi<|Qc<|Qe ?_;exact Qn ⟨[_],Z,O,S⟩
 have T:k<ls.length:=by have h9:(k:Int)<(ls.length:Int):=hb;omega
 rw[QbA T] at E;refine Qi<|Qf<|Qg<|Qc<|Qb<|xig Yr hu O O T λhN hv=>?_;refine Zb (ls[k]'T) λe he=>?_;rw[he] at hv E;refine x (QI hv O O)<|xl O<|Qv (us:=[.int .i64 0,.int .i64 0]) O λb6 w4 hB hC H=>x Qh<|xl O<|Qr (us:=QQ e) H O O O O ⟨O,O,U⟩ λw5 hD H=>xe ?_;have I:Step [] w3 w5:=hB.then1 hD hC;have hw:=J.trans I
 refine Qg<|QW (α:=Bool) [(19,30)] (λz=>[(19,.bool z)]) (λz w'=>w'=w5∧z=decide (e.1<0∨(sz.length:Int)≤e.1)) (by rfl) ?_ ?_
 ·refine Qx<|x (Qa O)<|x (Qd H O O)<|xb (QA O O) (λhE=>?_) (λhE=>?_)
  ·refine Qb<|xs O<|xs O<|xs O<|xs O<|xs O<|xs O<|x (Qo O)<|Qe ?_;exact ⟨_,Z,O,by first | exact bT (by omega) | exact bF (by omega) | exact bD (by omega)⟩
  refine Qb<|x (Qa O)<|x (Qd H O O)<|x (Qa O)<|x (Qd (h6.ext I) O O)<|x (Qq (h7.ext I) O)<|x (ZU O O) <|
   x (Qo rfl)<|Qe ?_
  exact ⟨_,Z,O,by first | exact bT (by omega) | exact bF (by omega) | exact bD (by omega)⟩
 rintro z g w6 ⟨rfl,rfl⟩;refine Q7 rfl (λhh=>?_) (λhh=>?_)
 ·rw[if_pos hh] at E;refine Qc<|Qe ?_;exact Qn ⟨[_],Z,by rw[←E,if_pos (by decide)];rfl,G.trans hw⟩
 rw[if_neg hh] at E;have hO:e.1=((e.1.toNat:Nat):Int):=by omega
 have hP:e.1.toNat<sz.length:=by omega
 refine QW (α:=Bool) [(31,45)] (λz=>[(31,.bool z)]) (λz w'=>Step [] w6 w'∧z=U3 (pv (ls.map (·.1)) k) e.1) (by rfl) ?_ ?_
 ·refine QS (Step [] w6) [(0,true),(1,true),(2,true),(3,true),(4,true),(5,true),(6,true),(7,true),(8,true),(9,true),(10,true),(11,true),(12,true),(13,true),(14,true)] mixed (by rfl) (by kernel_rfl) (Step.drew _ _) ?_;refine p (λ_=>Ql)<|pb (λ_=>ZR O O) (λhj=>?_) (λhj=>?_)
  ·have hn:k≠0:=by have hF:(0:Int)<(k:Int):=hj;omega
   have hG:((k:Int) - 1)=((k - 1:Nat):Int):=by omega
   have ho:k - 1<ls.length:=by omega
   refine p (λ_=>Ql)<|p (λ_=>Qa O)<|pq (λ_ hc=>Qd (H.ext hc) O O)<|p (λ_=>Qa O)<|pq (λ_ hc=>Qd ((ht.ext I).ext hc) O O) <|
    p (λ_=>Ql)<|p (λ_=>X2 O O ⟨by omega,by omega⟩)<|Lg.pig (g:=QQ) (i:=k - 1) O Yr (hu.ext I) O (congrArg (Value.int .i64) hG) ho λhQ hH=>p (λ_=>Q4 O) <|
    pq (λ_ hc=>Qu ((hH.fld 0 _ O).ext hc) O)<|p (λ_=>X4 O O)<|p (λ_=>Qo O)<|p (λ_=>Qh)<|pe ?_
   refine ⟨_,Z,Step.drew _ _,?_⟩;have:pv (ls.map (·.1)) k=some (ls[k - 1]'ho).1:=by simp[pv,hn,ho]
   rw[this];rfl
  have hn:k=0:=by have hF:¬(0:Int)<(k:Int):=hj;omega
  refine p (λ_=>Ql)<|ps<|ps<|ps<|ps<|ps<|ps<|ps<|ps<|ps<|ps<|p (λ_=>Qo O)<|p (λ_=>Qh)<|pe ?_;exact ⟨false,Z,Step.drew _ _,by simp[pv,hn,U3]⟩
 rintro z g w7 ⟨hy,rfl⟩;have hz:=hw.trans hy;refine Q2 rfl (λhp=>?_) (λhp=>?_)
 ·rw[if_pos hp] at E;refine Qc<|Qe ?_;exact Qn ⟨[_],Z,by rw[←E,if_pos (by decide)];rfl,G.trans hz⟩
 rw[if_neg (by simp[hp])] at E;have h0:=H.ext hy;refine QW (α:=Bool) [(46,54)] (λz=>[(46,.bool z)]) (λz w'=>Step [] w7 w'∧z=decide (e.2=0∨grt e.2=true)) (by rfl) ?_ ?_
 ·refine Qx<|x (Qa O)<|x (Qd h0 O O)<|xb (Q8 O O) (λhq=>?_) (λhq=>?_)
  ·refine Qb<|xs O<|xs O<|xs O<|x (Qo O)<|Qe ?_;exact ⟨_,Z,Step.refl _ _,bT (.inl hq)⟩
  refine Qb<|x (Qa O)<|x (Qd h0 O O)<|xl O<|xf<|(j4 e.2 _).mono ?_;rintro r9 w9 ⟨rfl,rfl⟩;refine x (Qo O)<|Qe<|⟨grt e.2,Z,Step.refl _ _,?_⟩;cases hg:grt e.2 with
  | true=>exact bT (.inr O)
  | false=>exact bF (λh=>by rcases h with h | h;exact hq h;cases h)
 rintro z g w8 ⟨hI,rfl⟩;have h1:=hz.trans hI;refine Q7 rfl (λhr=>?_) (λhr=>?_)
 ·rw[if_pos hr] at E;refine Qc<|Qe ?_;exact Qn ⟨[_],Z,by rw[←E,if_pos (by decide)];rfl,G.trans h1⟩
 rw[if_neg hr] at E;refine Qi<|Qx<|QN O O<|Qb<|xe ?_;exact ⟨k+1,by omega,Z,T,h1,E⟩
end Go.Proofs.YtdffckgdcegpaaaGreatDoor
namespace Go.Lg
open Go.RowKit
def QaL:Fr→LN→LV→Fr
 | f,p::ps,v::vs=>QaL (upd f p v) ps vs
 | f,_,_=>f
theorem VB {n:Nat}{ds:LN}:∀(ps:LN) (vs:LV) (a:Act) (f:Fr),Yq n ds a f→(∀p∈ps,p<n) →
  Yq n ds { tmps:=(ps.zip vs).foldl (λt (x:Nat×Value)=>t.setIfInBounds x.1 x.2) a.tmps,defers:=a.defers } (QaL f ps vs)
 | [],_,a,f,h,_=>by cases h;exact ⟨by assumption,by assumption,by assumption⟩
 | p::ps,[],a,f,h,_=>by cases h;exact ⟨by assumption,by assumption,by assumption⟩
 | p::ps,v::vs,a,f,h,hp=>by
  have h2:=h.put (dst:=some p) (λd e=>by cases e;exact hp p Ln) v;exact VB ps vs _ _ h2 (λq hq=>hp q (Ll _ hq))
def rdE {α:Type}(B:Nat) (L:LN) (I:List α→World→Prop) (X:Exit→List α→World→Prop) (xs:List α) (W:World):Exit→LN→Fr→World→Prop
 | .normal,_,_,W'=>JA B L W W'∧I xs W'
 | .ret,_,_,W'=>JA B L W W'∧X .ret xs W'
 | .exit i,_,_,W'=>JA B L W W'∧X (.exit i) xs W'
 | _,_,_,_=>False
theorem Qhb {α:Type}{m:Nat}{P:Program}{n:Nat}{Q:Exit→LN→Fr→World→Prop}{ds:LN}{f:Fr}{w:World}{g:Operand}{ps:LN}{assign body:Code}(L:LN) (h1:1≤m)
  {gf:Nat} {fn:Func} [hF:Fu P gf fn] {capt:LV} (hg:ev f g=.func (.func gf) #[] capt.toArray) {encs:α→LV} {S Sp:List α→Prop} {N:Nat} (hp:∀p∈ps,p<n) (he:∀x,(encs x).length=ps.length)
  (hf:SeqStopsK (fen none) (m - 1) P gf capt.toArray (λx=>(encs x).toArray) (Lw w.heap.size L) S Sp N w)
  (I:List α→World→Prop) (hI:∀s,ZY w.heap.size (I s)) (X:Exit→List α→World→Prop) (hX:∀e s,ZY w.heap.size (X e s)) (h0:I [] w) (A:Fr→α→Fr→World→Prop) (hA:∀x E,ZY w.heap.size (A f x E))
  (V:∀l pre x W,I pre W→WG (some l) (m - 1 - 1) P n assign (QaO (λJ E W'=>J=[]∧JA w.heap.size L W W'∧I pre W'∧A f x E W') (λ_ _ _ _=>False)) [] (QaL f ps (encs x)) W)
  (Y:∀l pre x E W,I pre W→A f x E W→pre.length<N→WG (some l) (m - 1 - 1) P n body (rdE w.heap.size L I X (pre++[x]) W) [] E W)
  (hh:∀D xs W,w.heap.size≤D→S xs→I xs W→W.heap[D]?=some (.deferred (some []))→Q .normal (D::ds) f W)
  (hb:∀D e pre W,w.heap.size≤D→Sp pre→X e pre W→W.heap[D]?=some (.deferred (some []))→(e=.ret∨∃i,e=.exit i)→Q e (D::ds) f W) :
  WG none m P n (.rangeFunc g ps.toArray assign body) Q ds f w:=by
 unfold WG at V Y ⊢;intro a ha;have eg:∀args w,(callFunc gf args).run P w=.ok (.enter gf args) w:=by
  intro args w;have h1:¬fn.name = "runtime.NumGoroutine" := by simpa using hF.nm
  have h2:¬fn.body=none:=by have:=hF.b;intro e;rw[e] at this;cases this
  simp[callFunc,hF.f,h1,h2]
 have keep:∀{W W':World},JA w.heap.size L W W'→KeepsFrom w.heap.size W W':=λh=>⟨h.lw.size,λk o _ hk ho=>h.other k o hk ho⟩;refine wpIn_rangeFunc_ownH (F:=fen none) O h1 (gf:=gf) (lb:=capt.toArray) (by rw[ha.eval];exact hg) U eg hf (λh k=>h.trans k)
  (λW l o o' hl ho _ _=>⟨O,O,O,by simp,λk hk _=>World.putObj_heap_other (by omega)⟩) (Below.refl _ _) (λx=>by simp[he x]) I
  (λc pre W=>match c with | .ret=>X .ret pre W | .exit i=>X (.exit i) pre W | _=>False) (ZY.own hI) (λc=>ZY.own λs=>?_) h0
  (λx G W=>∃E,Yq n [] G E∧A f x E W) (λx G=>ZY.own λ_=>ZY.ex λE=>ZY.and (ZY.pure _) (hA x E)) ?_ ?_ ?_ ?_
 ·cases c <;> first | exact hX _ s | exact ZY.pure _
 ·intro l pre x W K hi hK;have hr:Yq n [] { tmps:=(ps.toArray.zip (encs x).toArray).foldl (λt (p,v)=>t.setIfInBounds p v) a.tmps,defers:=[] } (QaL f ps (encs x)):=by
   have h2:Yq n [] { a with defers:=[] } f:=⟨ha.size,O,ha.get⟩
   have h3:=VB ps (encs x) _ _ h2 hp;have e:(ps.toArray.zip (encs x).toArray).foldl (λt (p,v)=>t.setIfInBounds p v) a.tmps=(ps.zip (encs x)).foldl (λt (x:Nat×Value)=>t.setIfInBounds x.1 x.2) a.tmps:=by simp
   rw[e];exact h3
  refine wpIn_mono (V l pre x W hi _ hr) ?_;rintro e G W' ⟨J,E,h2,_,h3⟩;cases e with
  | normal=>obtain ⟨rfl,T,h5,h6⟩:=h3;exact hK G W' (keep T) T.lw h5 ⟨E,h2,h6⟩
  | exit id=>exact h3.elim
  | goto l=>exact h3.elim
  | ret=>exact h3.elim
  | panic ch=>exact h3.elim
  | outgrown=>exact h3.elim
 ·rintro l pre x G W _ _ hi ⟨E,h2,h3⟩ hj;refine wpIn_mono (Y l pre x E W hi h3 hj G h2) ?_;rintro e hn W' ⟨J,hq,T,_,h5⟩;cases e with
  | normal=>exact ⟨keep h5.1,h5.1.lw,h5.2⟩
  | exit id=>exact ⟨keep h5.1,h5.2⟩
  | goto l=>exact h5.elim
  | ret=>exact ⟨keep h5.1,h5.2⟩
  | panic ch=>exact h5.elim
  | outgrown=>exact h5.elim
 ·intro D xs W hD H hi hd;exact ⟨D::ds,f,⟨ha.size,by rw[show coll (D::ds)={ target:=.collected D,args:=#[] }::coll ds from rfl,ha.defers],ha.get⟩,λ_ _=>rfl,hh D xs W hD H hi hd⟩
 intro D c pre W hD H hx hd;have hc:Yq n (D::ds) { a with defers:={ target:=.collected D,args:=#[] }::a.defers } f:=⟨ha.size,by rw[show coll (D::ds)={ target:=.collected D,args:=#[] }::coll ds from rfl,ha.defers],ha.get⟩
 cases c with
 | ret=>exact wpIn_ret ⟨_,f,hc,λ_ _=>O,hb D .ret pre W hD H hx hd (.inl O)⟩
 | exit i=>exact wpIn_exit ⟨_,f,hc,λ_ _=>O,hb D (.exit i) pre W hD H hx hd (.inr ⟨i,O⟩)⟩
 | _=>exact hx.elim
end Go.Lg
namespace Go.Proofs.YtdffckgdcegpaaaGreatDoor
open Go.Proofs.Tryz
open Go.Lg
theorem Qgb {α:Type}(g:α→LV) (sz:Nat) (E:∀x,(g x).length=sz):∀(l:List α) (k:Nat),(l.flatMap g).take (k*sz)=(l.take k).flatMap g
 | [],k=>by simp
 | e::l,0=>by simp
 | e::l,k+1=>by
  simp only[List.flatMap_cons,List.take_succ_cons,Nat.add_mul,Nat.one_mul];rw[M2,List.take_append,E,show sz+k*sz - sz=k*sz by omega,Qgb g sz E l k,Lm (by rw[E];omega)]
theorem Qcl {gf:Nat}{fn:Func}[Fu prog gf fn] {capt:LV}{nms:List ByteArray}{s:ByteArray}(ho:Ue s) {w:World}{N:Nat}
  (hp:∀(w':World) (L:LN),Step [] w w'→(∀b∈L,w.heap.size≤b)→SeqStopsK (fen none) 9 prog gf capt.toArray (λx:{ x:ByteArray // x∈nms }=>[Value.string x.1].toArray) (Lw w'.heap.size L) (λys=>ys.map (·.1)=nms) (λ_=>True) N w') :
  QJ prog 169 [.string s,.func (.func gf) #[] capt.toArray] w λr w'=>r=.int .i64 (J2 nms s)∧Step [] w w':=by
 refine QJ.of_G 10 func169 O ntmps169 results169 (by simp) ?_;refine Q0<|QK (by rfl) (by rfl) ?_;refine xl rfl<|QT (us:=[.string s]) O λb2 w1 hg ht hh=>xl O<|Qv (us:=[.int .i64 0]) O λG w2 hj hu he=>xe ?_;have S:=hg.trans hj;have hv:=hg.size;have hw:=he.lt;have hl:=hh.ext hj;have hz:=hh.lt;refine Q0<|Q0<|QK (by rfl) (by rfl) ?_
 refine x (Qd hl O O)<|xl O<|xf<|(VZ s ho _).mono ?_;rintro r3 w3 ⟨rfl,rfl⟩;refine x (Zm O)<|xe<|KM rfl (λh8=>?_) (λh8=>?_)
 ·have Y:Yz s=false:=by simpa using h8
  have T:J2 nms s=7:=by unfold J2;rw[if_pos Y]
  refine Q0<|QK (by rfl) (by rfl) ?_;refine xl O<|QG (j:=0) (u:=.int .i64 7) he O O (by decide) O λw4 I V=>xe ?_;refine J6 ⟨λ_ h=>(by cases h),MQ,[.int .i64 7],λW' H=>⟨⟨⟨_,rfl,Yx (At.one ((V.ext H).at (L:=[]) (by simp)))⟩,U⟩,by rw[T];rfl,(S.then1 I (by omega)).trans H⟩⟩
 have Y:¬Yz s=false:=by simpa using h8
 refine Ya<|Q0<|Q0<|QK (by rfl) (by rfl) ?_;refine Qb<|xe<|ZE<|Qhb (α:={ x:ByteArray // x∈nms }) (ps:=[10]) [G] (by omega) (capt:=capt) O (encs:=λx=>[.string x.1]) (by simp) (λ_=>rfl)
  (hp w3 [G] S (λb hb=>by simp at hb;omega))
  (λpre W=>Step [G] w3 W∧Q3 W.heap b2 9 [.string s]∧Q3 W.heap G 49 [.int .i64 0]∧∀x∈pre,x.1≠s)
  (λpre=>(ZY.step (Lr _)).and (ZY.blk.and (ZY.blk.and (ZY.pure _))))
  (λe pre W=>e=.ret∧Step [G] w3 W∧Q3 W.heap G 49 [.int .i64 8]∧s∈nms)
  (λe pre=>(ZY.pure _).and ((ZY.step (Lr _)).and (ZY.blk.and (ZY.pure _))))
  ⟨Step.refl _ _,hl,he,λx hx=>by cases hx⟩
  (λf x f' W=>f'=upd (QaL f [10] [.string x.1]) 5 (.string x.1)) (λx f'=>ZY.pure _) ?_ ?_ ?_ ?_
 ·rintro l pre x W ⟨h1,h2,h3,J⟩;refine QK (by rfl) (by rfl) ?_;refine Lg.Qe ?_;exact ⟨O,JA.refl _ _ _,⟨h1,h2,h3,J⟩,O⟩
 ·rintro l pre x f' W ⟨h1,h2,h3,J⟩ rfl _;refine ZE<|Q0<|QK (by rfl) (by rfl) ?_;refine Lg.Qb<|Lg.x (Qd h2 O O)<|Lg.x (yp O O)<|xe<|Qjj O (λhf=>?_) (λhf=>?_)
  ·refine Q0<|QK (by rfl) (by rfl) ?_;refine xl O<|QG (j:=0) (u:=.int .i64 8) h3 O O (by decide) O λw4 I V=>xe ?_;refine J6 ?_;exact ⟨JA.blk I h1.size h3 (.inl (by simp)),rfl,h1.trans' I,V,by rw[←hf];exact x.2⟩
  refine Ya<|⟨JA.refl _ _ _,h1,h2,h3,λy hy=>?_⟩;rcases Lj.1 hy with hy | hy
  ·exact J y hy
  simp only[List.mem_singleton] at hy;subst hy;exact hf
 ·rintro D xs W hD hq ⟨h1,h2,h3,J⟩ ha;have T:J2 nms s=0:=by
   unfold J2;rw[if_neg Y,if_neg];intro hm;rw[←hq] at hm;obtain ⟨y,hy,e⟩:=Ly.1 hm;exact J y hy e
  refine Q0<|QK (by rfl) (by rfl) ?_;refine xl O<|QG (j:=0) (u:=.int .i64 0) h3 O O (by decide) O λw4 I V=>xe ?_;have hc:D≠G:=by omega
  have hs:w4.heap[D]?=some (.deferred (some [])):=by rw[I.block D (LC.1 ha).1 (by simpa using hc)];exact ha
  refine J6 ⟨λE hE=>by simp only[List.mem_singleton] at hE;subst hE;exact hs,by simp,[.int .i64 0],λW' H=>?_⟩;refine ⟨⟨⟨_,O,Yx (At.one ((V.step H (by simpa using hc.symm)).at (L:=[]) (by simp)))⟩,U⟩,by rw[T];rfl,?_⟩;exact ((S.then h1 (λb hb=>.inr (by simp at hb;omega))).then1 I (by omega)).then H (λb hb=>.inr (by simp at hb;have:=S.size;omega))
 rintro D e pre W hD _ ⟨rfl,h1,h3,J⟩ ha _;have T:J2 nms s=8:=by unfold J2;rw[if_neg Y,if_pos J]
 have hc:D≠G:=by omega
 refine ⟨λE hE=>by simp only[List.mem_singleton] at hE;subst hE;exact ha,by simp,[.int .i64 8],λW' H=>?_⟩;refine ⟨⟨⟨_,O,Yx (At.one ((h3.step H (by simpa using hc.symm)).at (L:=[]) (by simp)))⟩,U⟩,by rw[T];rfl,?_⟩;exact (S.then h1 (λb hb=>.inr (by simp at hb;omega))).then H (λb hb=>.inr (by simp at hb;have:=S.size;omega))
end Go.Proofs.YtdffckgdcegpaaaGreatDoor
namespace Go.Lg
theorem Xz.pre3 {P:Program}{m:Nat}{ops:List Oper}{K:Fr→World→Prop}{o1 o2 o3:Oper}{l2:List Oper}{f:Fr}{w:World}(h:XL P ops (λf w=>Xz P m ops K l2 f w) [o1,o2,o3] f w):Xz P m ops K (o1::o2::o3::l2) f w:=Xz.pre [o1,o2,o3] f w h
end Go.Lg
namespace Go.Proofs.YtdffckgdcegpaaaGreatDoor
open Go.Proofs.Tryz
open Go.Lg
theorem Qgo {L:LN}{w:World}{H I i m:Nat}{vs vx vk:Value}{qs:List XV}{nms:List ByteArray}(hr:Q3 w.heap H 151 [vs,vx,vk]) (hs:Q3 w.heap I 3 [.int .i64 i]) (hX:qP L w.heap vx qs) (hi:i≤qs.length) (hn:nms=(qs.take i).map (·.nm)) :
  SeqStopsK (fen none) m prog 168 [.pointer (some ⟨H,0,none⟩),.pointer (some ⟨I,0,none⟩)].toArray (λx:{ x:ByteArray // x∈nms }=>[Value.string x.1].toArray) (Lw w.heap.size L)
   (λE=>E.map (·.1)=nms) (λ_=>True) (nms.length+1) w:=by
 intro l J Jx W ht hJ hu hY h0;have hc:Step [] w W:=Step.of_below ht;have ab:∀{E:List { x:ByteArray // x∈nms }} {W1 W2:World},J E W1→Step [] W1 W2→J E W2:=λ{E W1 W2} hj S=>hJ E W1 W2 none hj ⟨S.os,S.tape,S.output,S.size,λk hk _=>S.block k hk (by simp)⟩ (λr e=>by cases e);have hA:=hX.arr.le;have hB:nms.length=i:=by rw[hn];simp;omega
 have key:QJ prog 168 [.func (.yield l) #[] #[],.pointer (some ⟨H,0,none⟩),.pointer (some ⟨I,0,none⟩)] W (λ_ W'=>(∃E,E.map (·.1)=nms∧J E W')∨(∃pre,True∧Jx pre W')):=by
  refine QJ.of_G m func168 O ntmps168 results168 (by simp) ?_;have hv:=hr.ext hc;have hw:=hs.ext hc;refine Q0<|QK (by rfl) (by rfl) ?_;refine x (Qa O)<|x (Qd hv O O)<|x (Qd hw O O)<|QjF hX.arr O O hi λv9 hl=>x (Qq hl O)<|Qb<|xe ?_;have hy:(qs.take i).length=i:=by simp;omega
  have hS:Zo L w.heap v9 (qs.take i).length 2 ((qs.take i).flatMap Zt):=by
   rw[hy,←Qgb Zt 2 XX];exact hl
  refine ZE<|V0 (α:=Nat×List { x:ByteArray // x∈nms }) [(5,5),(11,20)] (λz=>[(11,.int .i64 z.1)]) (λz ds W'=>ds=[]∧z.1≤i∧Step L w W'∧z.2.map (·.1)=nms.take z.1∧J z.2 W') (λz=>i - z.1) (by rfl) (0,[]) Z
   ⟨O,Lk _,hc.any,O,h0⟩ ?_
  rintro ⟨k,E⟩ g ds w1 ⟨rfl,hk,ho,T,hf⟩;simp only[] at hk T hf;refine Q0<|QK (by rfl) (by rfl) ?_;refine x (QA O O)<|xe<|Q0<|zW O (λhg=>?_) (λhg=>?_)
  ·refine J7 ?_;have hC:i≤k:=by have Y:¬(k:Int)<(i:Int):=hg;omega
   rw[Lm (by omega)] at T;exact ⟨λ_ h=>(by cases h),MQ,[],λW' G=>⟨U,.inl ⟨E,T,ab hf G⟩⟩⟩
  refine Ya ?_;have hz:k<i:=by have Y:(k:Int)<(i:Int):=hg;omega
  have ha:k<(qs.take i).length:=by omega
  have hb:k<nms.length:=by omega
  have hh:nms.take (k+1)=nms.take k++[nms[k]'hb]:=Le hb;have hD:E.length=k:=by have:=congrArg List.length T;rw[Lb,Lx] at this;omega
  have h2:nms[k]'hb=((qs.take i)[k]'ha).nm:=by subst hn;simp
  have V:=Lh hb;rw[h2] at hh V;refine Q0<|ZE<|Q0<|QK (by rfl) (by rfl) ?_;refine xig XX (i:=k) (hS.st ho) O O ha λhE Y=>?_;refine Zb ((qs.take i)[k]'ha) λq hq=>?_;rw[hq] at Y hh V;have h3:=(hX.each q (LZ (by rw[←hq];exact Lh ha))).one
  refine x (QI Y O O)<|xl O<|Qv (us:=[.string .empty,nS]) O λb5 w2 h4 h5 h6=>xl O<|Qr (us:=Zt q) h6 O O O O ⟨O,h3,U⟩ λw3 h7 h8=>xe ?_;have hp:Step [] w1 w3:=h4.then1 h7 h5;refine Q0<|Kj (by rfl) ?_;refine Xz.pre3 ?_;refine Qb<|x (Qa O)<|x (Qd h8 O O)<|xe ?_
  refine xy (l:=l) O (hY E ⟨q.nm,V⟩ w3 (ab hf hp) (by omega)) λen W3 h9=>Or.elim h9 (λh1=>⟨.bool true,h1.1,?_⟩) (λh1=>⟨.bool false,h1.1,?_⟩)
  ·refine Xz.of_XL<|x (Zm O)<|xe<|Kk O<|Ya ?_;refine QK (by rfl) (by rfl) ?_;refine QN O O<|Qb<|xe ?_;exact ⟨(k+1,E++[⟨q.nm,V⟩]),by simp only[];omega,Z,O,hz,(ho.trans hp).lw h1.2.2,by rw[hh,Ls,T];rfl,h1.2.1⟩
  refine Xz.of_XL<|x (Zm O)<|xe<|jh O ?_;refine J6 ⟨λ_ h=>(by cases h),MQ,[],λW' G=>⟨U,.inr ⟨E++[⟨q.nm,V⟩],U,?_⟩⟩⟩;exact hu _ W3 W' none h1.2 ⟨G.os,G.tape,G.output,G.size,λk hk _=>G.block k hk (by simp)⟩ (λr e=>by cases e)
 refine (callsIn_wide (n:=m)).2 ?_;have ea:(#[.func (.yield l) #[] #[]]++[.pointer (some ⟨H,0,none⟩),.pointer (some ⟨I,0,none⟩)].toArray:Array Value)=[.func (.yield l) #[] #[],.pointer (some ⟨H,0,none⟩),.pointer (some ⟨I,0,none⟩)].toArray:=by simp
 rw[ea];unfold QJ at key;refine Calls.mono key λe w' he=>?_;cases e with
 | returned v=>exact ⟨⟨v,O⟩,he⟩
 | panicked c=>exact he.elim
 | outgrown=>exact he.elim
theorem QgA {L:LN}{w:World}{H I i m:Nat}{vs vx vk:Value}{qs:List KV}{nms:List ByteArray}(hr:Q3 w.heap H 151 [vs,vx,vk]) (hs:Q3 w.heap I 3 [.int .i64 i]) (hX:qG L w.heap vk qs) (hi:i≤qs.length) (hn:nms=(qs.take i).map (·.nm)) :
  SeqStopsK (fen none) m prog 171 [.pointer (some ⟨H,0,none⟩),.pointer (some ⟨I,0,none⟩)].toArray (λx:{ x:ByteArray // x∈nms }=>[Value.string x.1].toArray) (Lw w.heap.size L)
   (λE=>E.map (·.1)=nms) (λ_=>True) (nms.length+1) w:=by
 intro l J Jx W ht hJ hu hY h0;have hc:Step [] w W:=Step.of_below ht;have ab:∀{E:List { x:ByteArray // x∈nms }} {W1 W2:World},J E W1→Step [] W1 W2→J E W2:=λ{E W1 W2} hj S=>hJ E W1 W2 none hj ⟨S.os,S.tape,S.output,S.size,λk hk _=>S.block k hk (by simp)⟩ (λr e=>by cases e);have hA:=hX.arr.le;have hB:nms.length=i:=by rw[hn];simp;omega
 have key:QJ prog 171 [.func (.yield l) #[] #[],.pointer (some ⟨H,0,none⟩),.pointer (some ⟨I,0,none⟩)] W (λ_ W'=>(∃E,E.map (·.1)=nms∧J E W')∨(∃pre,True∧Jx pre W')):=by
  refine QJ.of_G m func171 O ntmps171 results171 (by simp) ?_;have hv:=hr.ext hc;have hw:=hs.ext hc;refine Q0<|QK (by rfl) (by rfl) ?_;refine x (Qa O)<|x (Qd hv O O)<|x (Qd hw O O)<|QjF hX.arr O O hi λv9 hl=>x (Qq hl O)<|Qb<|xe ?_;have hy:(qs.take i).length=i:=by simp;omega
  have hS:Zo L w.heap v9 (qs.take i).length 3 ((qs.take i).flatMap Zv):=by
   rw[hy,←Qgb Zv 3 Xq];exact hl
  refine ZE<|V0 (α:=Nat×List { x:ByteArray // x∈nms }) [(5,5),(11,20)] (λz=>[(11,.int .i64 z.1)]) (λz ds W'=>ds=[]∧z.1≤i∧Step L w W'∧z.2.map (·.1)=nms.take z.1∧J z.2 W') (λz=>i - z.1) (by rfl) (0,[]) Z
   ⟨O,Lk _,hc.any,O,h0⟩ ?_
  rintro ⟨k,E⟩ g ds w1 ⟨rfl,hk,ho,T,hf⟩;simp only[] at hk T hf;refine Q0<|QK (by rfl) (by rfl) ?_;refine x (QA O O)<|xe<|Q0<|zW O (λhg=>?_) (λhg=>?_)
  ·refine J7 ?_;have hC:i≤k:=by have Y:¬(k:Int)<(i:Int):=hg;omega
   rw[Lm (by omega)] at T;exact ⟨λ_ h=>(by cases h),MQ,[],λW' G=>⟨U,.inl ⟨E,T,ab hf G⟩⟩⟩
  refine Ya ?_;have hz:k<i:=by have Y:(k:Int)<(i:Int):=hg;omega
  have ha:k<(qs.take i).length:=by omega
  have hb:k<nms.length:=by omega
  have hh:nms.take (k+1)=nms.take k++[nms[k]'hb]:=Le hb;have hD:E.length=k:=by have:=congrArg List.length T;rw[Lb,Lx] at this;omega
  have h2:nms[k]'hb=((qs.take i)[k]'ha).nm:=by subst hn;simp
  have V:=Lh hb;rw[h2] at hh V;refine Q0<|ZE<|Q0<|QK (by rfl) (by rfl) ?_;refine xig Xq (i:=k) (hS.st ho) O O ha λhE Y=>?_;refine Zb ((qs.take i)[k]'ha) λq hq=>?_;rw[hq] at Y hh V;have h3:=(hX.each q (LZ (by rw[←hq];exact Lh ha))).one
  refine x (QI Y O O)<|xl O<|Qv (us:=[.string .empty,nS,.int .i64 0]) O λb5 w2 h4 h5 h6=>xl O<|Qr (us:=Zv q) h6 O O O O ⟨O,h3,O,U⟩ λw3 h7 h8=>xe ?_;have hp:Step [] w1 w3:=h4.then1 h7 h5;refine Q0<|Kj (by rfl) ?_;refine Xz.pre3 ?_;refine Qb<|x (Qa O)<|x (Qd h8 O O)<|xe ?_
  refine xy (l:=l) O (hY E ⟨q.nm,V⟩ w3 (ab hf hp) (by omega)) λen W3 h9=>Or.elim h9 (λh1=>⟨.bool true,h1.1,?_⟩) (λh1=>⟨.bool false,h1.1,?_⟩)
  ·refine Xz.of_XL<|x (Zm O)<|xe<|Kk O<|Ya ?_;refine QK (by rfl) (by rfl) ?_;refine QN O O<|Qb<|xe ?_;exact ⟨(k+1,E++[⟨q.nm,V⟩]),by simp only[];omega,Z,O,hz,(ho.trans hp).lw h1.2.2,by rw[hh,Ls,T];rfl,h1.2.1⟩
  refine Xz.of_XL<|x (Zm O)<|xe<|jh O ?_;refine J6 ⟨λ_ h=>(by cases h),MQ,[],λW' G=>⟨U,.inr ⟨E++[⟨q.nm,V⟩],U,?_⟩⟩⟩;exact hu _ W3 W' none h1.2 ⟨G.os,G.tape,G.output,G.size,λk hk _=>G.block k hk (by simp)⟩ (λr e=>by cases e)
 refine (callsIn_wide (n:=m)).2 ?_;have ea:(#[.func (.yield l) #[] #[]]++[.pointer (some ⟨H,0,none⟩),.pointer (some ⟨I,0,none⟩)].toArray:Array Value)=[.func (.yield l) #[] #[],.pointer (some ⟨H,0,none⟩),.pointer (some ⟨I,0,none⟩)].toArray:=by simp
 rw[ea];unfold QJ at key;refine Calls.mono key λe w' he=>?_;cases e with
 | returned v=>exact ⟨⟨v,O⟩,he⟩
 | panicked c=>exact he.elim
 | outgrown=>exact he.elim
set_option maxHeartbeats 4000000 in
theorem qp {w:World}{vs vx vk:Value}{sz:LI}{qx:List XV}{ks:List KV}(hS:QL [] w.heap vs sz) (hX:qP [] w.heap vx qx) (hK:qG [] w.heap vk ks) :
  QJ prog 97 [.agg #[vs,vx,vk]] w λr w'=>r=.int .i64 (Ys sz (qx.map (·.x)) (ks.map (·.k)))∧Step [] w w':=by
 have ga:=hS.le;have gb:=hX.arr.le;have gc:=hK.arr.le;refine QJ.of_W func97 O ntmps97 results97 (by simp) ?_;refine Qc<|xl O<|QT (us:=[vs,vx,vk]) O λb1 w1 G ge V=>Qe<|Qf<|Qc<|x (Qa O)<|x (Qd V O O)<|x (Qq (hS.ext G) O)<|x (ZR O O)<|xe<|Q7 rfl (λh3=>?_) (λh3=>?_)
 ·refine Qc<|Qe ?_;exact Qn ⟨[_],Z,by unfold Ys;rw[if_pos (by have hR:(8:Int)<(sz.length:Int):=h3;omega)];rfl,G⟩
 have h1:¬8<sz.length:=by have hR:¬(8:Int)<(sz.length:Int):=h3;omega
 refine Qi<|Qf<|Qc<|x (Qa O)<|x (Qd V O O)<|x (Qq (hS.ext G) O)<|Qb<|xe<|Qg<|Qy (α:=Nat) [(2,2),(4,4),(22,32)] (λz=>[(22,.int .i64 z)]) (λz w'=>z≤sz.length∧w'=w1∧(sz.drop z).any JD=sz.any JD) (λz=>sz.length - z) (by rfl) 0 Z
  ⟨Lk _,O,O⟩ ?_
 rintro k g w2 ⟨hk,rfl,hc⟩;refine Qc<|x (QA O O)<|xe<|Qf<|QE O (λh4=>?_) (λh4=>?_)
 ·refine Qw ?_;have ho:sz.length≤k:=by have h2:¬(k:Int)<(sz.length:Int):=h4;omega
  rw[Lq ho] at hc;have h5:¬sz.any JD=true:=by rw[←hc];decide
  refine Qf<|QW (α:=Bool) [(33,42)] (λz=>[(42,.bool z)]) (λz w'=>w'=w2∧z=decide (32<qx.length∨32<ks.length)) (by rfl) ?_ ?_
  ·refine Qx<|x (Qa O)<|x (Qd V O O)<|x (Qq (hX.ext G).arr O)<|xb (ZR O O) (λhT=>?_) (λhT=>?_)
   ·refine Qb<|xs O<|xs O<|xs O<|xs O<|x (Qo O)<|xe ?_;exact ⟨_,Z,O,by first | exact bT (by omega) | exact bF (by omega) | exact bD (by omega)⟩
   refine Qb<|x (Qa O)<|x (Qd V O O)<|x (Qq (hK.ext G).arr O)<|x (ZR O O)<|x (Qo O)<|xe ?_;exact ⟨_,Z,O,by first | exact bT (by omega) | exact bF (by omega) | exact bD (by omega)⟩
  rintro z g Y ⟨rfl,rfl⟩;refine Q7 O (λh6=>?_) (λh6=>?_)
  ·refine Qc<|Qe ?_;exact Qn ⟨[_],Z,by unfold Ys;rw[if_neg h1,if_neg h5,if_pos (by simpa using h6)];rfl,G⟩
  have hO:¬(32<(qx.map (·.x)).length∨32<(ks.map (·.k)).length):=by simpa using h6
  have hP:Z9 sz [] (qx.map (·.x))≠0→Ys sz (qx.map (·.x)) (ks.map (·.k))=Z9 sz [] (qx.map (·.x)):=λh=>by
   unfold Ys;rw[if_neg h1,if_neg h5,if_neg hO,if_pos h]
  have hU:Z9 sz [] (qx.map (·.x))=0→Ys sz (qx.map (·.x)) (ks.map (·.k))=YB sz [] (ks.map (·.k)):=λh=>by
   unfold Ys;rw[if_neg h1,if_neg h5,if_neg hO,if_neg (by rw[h];exact λh=>h O)]
  refine Qi<|Qf<|Qc<|x (Qa O)<|x (Qd (V.ext (Step.refl [] Y)) O O)<|x (Qq ((hX.ext G).ext (Step.refl [] Y)).arr O)<|Qb<|xe<|Qg<|Qy (α:=Nat) [(2,2),(5,9),(46,65)] (λz=>[(46,.int .i64 z)]) (λz w'=>z≤qx.length∧Step [] Y w'∧Z9 sz ((qx.take z).map (·.nm)) ((qx.drop z).map (·.x))=Z9 sz [] (qx.map (·.x))) (λz=>qx.length - z) (by rfl) 0 Z
   ⟨Lk _,(Step.refl [] Y),O⟩ ?_
  rintro k g wA ⟨hk,H,I⟩;refine Qc<|x (QA O O)<|xe<|Qf<|QE O (λhe=>?_) (λhe=>?_)
  ·refine Qw ?_;have ho:qx.length≤k:=by have h7:¬(k:Int)<(qx.length:Int):=he;omega
   rw[Lq ho] at I;have hV:Z9 sz [] (qx.map (·.x))=0:=I.symm;have h8:=hU hV;refine Qf<|Qc<|x (Qa O)<|x (Qd (V.ext H) O O)<|x (Qq ((hK.ext G).ext H).arr O)<|Qb<|xe ?_
   refine Qg<|Qy (α:=Nat) [(2,2),(10,14),(69,88)] (λz=>[(69,.int .i64 z)]) (λz w'=>z≤ks.length∧Step [] Y w'∧YB sz ((ks.take z).map (·.nm)) ((ks.drop z).map (·.k))=YB sz [] (ks.map (·.k))) (λz=>ks.length - z) (by rfl) 0 Z
    ⟨Lk _,H,O⟩ ?_
   rintro k g wA ⟨hk,H,I⟩;refine Qc<|x (QA O O)<|xe<|Qf<|QE O (λhe=>?_) (λhe=>?_)
   ·refine Qw ?_;have ho:ks.length≤k:=by have h7:¬(k:Int)<(ks.length:Int):=he;omega
    rw[Lq ho] at I;have hW:YB sz [] (ks.map (·.k))=0:=I.symm;refine Qc<|Qe ?_;exact Qn ⟨[_],Z,by rw[h8,hW];rfl,G.trans H⟩
   have E:k<ks.length:=by have h7:(k:Int)<(ks.length:Int):=he;omega
   have hp:(ks.take (k+1)).map (·.nm)=(ks.take k).map (·.nm)++[(ks[k]'E).nm]:=by rw[Le E,Ls];rfl
   rw[QY E,LK] at I;have hf:=Lh E;have J:=(hK.ext G).ext H;have h9:=V.ext H;refine Qi<|Qf<|Qg<|Qc<|Qb<|xig Xq J.arr O O E λaA hA=>?_;refine Zb (ks[k]'E) λq hq=>?_;rw[hq] at hA I hp hf;have hr:=J.each q hf
   refine x (QI hA O O)<|xl O<|Qv (us:=[.int .i64 0]) O λb5 Y hs hB hg=>xl O<|Qv (us:=[.string .empty,nS,.int .i64 0]) O λb6 w4 ht hY hC =>
    xl rfl<|QG (j:=0) (u:=.int .i64 k) (hg.ext ht) O O (by decide) O λw5 hu hD=>xl O<|Qr (us:=Zv q) (hC.step hu (by have:=hg.lt;simp;omega)) O O O O ⟨O,hr.one,O,U⟩ λw6 hv hw=>xe ?_
   have hZ:b5<b6:=by have:=hg.lt;omega
   have hh:Step [] wA w6:=((hs.trans ht).then1 hu hB).then1 hv (by have:=hs.size;omega);have hE:Q3 w6.heap b5 3 [.int .i64 k]:=hD.step hv (by simp;omega);have hy:=h9.ext hh;have hF:=J.ext hh
   refine Qc<|x Zq<|Qe<|Qf<|Qc<|x (Qa O)<|x (Qd hw O O)<|Qb<|xl O<|xf<|(Qcl (nms:=(ks.take k).map (·.nm)) (capt:=[.pointer (some ⟨b1,0,none⟩),.pointer (some ⟨b5,0,none⟩)]) (J.nm q hf) (λw' L hj hL=>QgA (hy.ext hj) (hE.ext hj) ((hF.up (λb hb=>.inr (hL b hb))).ext hj) hk O)).mono ?_;rintro r7 w7 ⟨rfl,hl⟩;refine Qe ?_;have S:=hh.trans hl;refine Qc<|Qb<|x (Q9 O O)<|xe ?_
   refine Q7 O (λha=>?_) (λha=>?_)
   ·have e1:YB sz [] (ks.map (·.k))=J2 ((ks.take k).map (·.nm)) q.nm:=by rw[←I];exact if_pos ha
    refine Qc<|Qb<|Qe ?_;exact Qn ⟨[_],Z,by rw[h8,e1];rfl,G.trans (H.trans S)⟩
   have hz:(if YE sz q.k≠0 then YE sz q.k else YB sz ((ks.take k).map (·.nm)++[q.nm]) ((ks.drop (k+1)).map (·.k)))=YB sz [] (ks.map (·.k)):=by rw[←I];exact (if_neg ha).symm
   refine Qi ?_;have hG:=hy.ext hl;have hH:=hw.ext hl;refine Qc<|x (Qs hG O O)<|x (Qs hH O O)<|xl O<|xf<|(KD (((hS.ext G).ext H).ext S) (hr.ext S)).mono ?_;rintro r8 w8 ⟨rfl,hI⟩;refine Qe ?_;have h0:=S.trans hI;refine Qc<|Qb<|x (Q9 O O)<|xe<|Q7 O (λT=>?_) (λT=>?_)
   ·have e1:YB sz [] (ks.map (·.k))=YE sz q.k:=by rw[←hz];exact if_pos T
    have hQ:YE sz q.k≠0:=T;refine Qc<|Qb<|Qe ?_;exact Qn ⟨[_],Z,by rw[h8,e1];rfl,G.trans (H.trans h0)⟩
   have hJ:YB sz ((ks.take k).map (·.nm)++[q.nm]) ((ks.drop (k+1)).map (·.k))=YB sz [] (ks.map (·.k)):=by rw[←hz];exact (if_neg T).symm
   refine Qi<|Qx<|QN O O<|Qb<|xe ?_;exact ⟨k+1,by omega,Z,E,H.trans h0,by rw[hp];exact hJ⟩
  have E:k<qx.length:=by have h7:(k:Int)<(qx.length:Int):=he;omega
  have hp:(qx.take (k+1)).map (·.nm)=(qx.take k).map (·.nm)++[(qx[k]'E).nm]:=by rw[Le E,Ls];rfl
  rw[QY E,LK] at I;have hf:=Lh E;have J:=(hX.ext G).ext H;have h9:=V.ext H;refine Qi<|Qf<|Qg<|Qc<|Qb<|xig XX J.arr O O E λaA hA=>?_;refine Zb (qx[k]'E) λq hq=>?_;rw[hq] at hA I hp hf;have hr:=J.each q hf;refine x (QI hA O O)<|xl O<|Qv (us:=[.int .i64 0]) O λb5 Y hs hB hg=>xl O<|Qv (us:=[.string .empty,nS]) O λb6 w4 ht hY hC =>
   xl rfl<|QG (j:=0) (u:=.int .i64 k) (hg.ext ht) O O (by decide) O λw5 hu hD=>xl O<|Qr (us:=Zt q) (hC.step hu (by have:=hg.lt;simp;omega)) O O O O ⟨O,hr.one,U⟩ λw6 hv hw=>xe ?_
  have hZ:b5<b6:=by have:=hg.lt;omega
  have hh:Step [] wA w6:=((hs.trans ht).then1 hu hB).then1 hv (by have:=hs.size;omega);have hE:Q3 w6.heap b5 3 [.int .i64 k]:=hD.step hv (by simp;omega);have hy:=h9.ext hh;have hF:=J.ext hh
  refine Qc<|x Zq<|Qe<|Qf<|Qc<|x (Qa O)<|x (Qd hw O O)<|Qb<|xl O<|xf<|(Qcl (nms:=(qx.take k).map (·.nm)) (capt:=[.pointer (some ⟨b1,0,none⟩),.pointer (some ⟨b5,0,none⟩)]) (J.nm q hf) (λw' L hj hL=>Qgo (hy.ext hj) (hE.ext hj) ((hF.up (λb hb=>.inr (hL b hb))).ext hj) hk O)).mono ?_;rintro r7 w7 ⟨rfl,hl⟩;refine Qe ?_;have S:=hh.trans hl;refine Qc<|Qb<|x (Q9 O O)<|xe ?_
  refine Q7 O (λha=>?_) (λha=>?_)
  ·have e1:Z9 sz [] (qx.map (·.x))=J2 ((qx.take k).map (·.nm)) q.nm:=by rw[←I];exact if_pos ha
   refine Qc<|Qb<|Qe ?_;exact Qn ⟨[_],Z,by rw[hP (by rw[e1];exact ha),e1];rfl,G.trans (H.trans S)⟩
  have hz:(if XS sz q.ls≠0 then XS sz q.ls else Z9 sz ((qx.take k).map (·.nm)++[q.nm]) ((qx.drop (k+1)).map (·.x)))=Z9 sz [] (qx.map (·.x)):=by rw[←I];exact (if_neg ha).symm
  refine Qi ?_;have hG:=hy.ext hl;have hH:=hw.ext hl;refine Qc<|x (Qs hG O O)<|x (Qs hH O O)<|xl O<|xf<|(Vo (((hS.ext G).ext H).ext S) (hr.ext S)).mono ?_;rintro r8 w8 ⟨rfl,hI⟩;refine Qe ?_;have h0:=S.trans hI;refine Qc<|Qb<|x (Q9 O O)<|xe<|Q7 O (λT=>?_) (λT=>?_)
  ·have e1:Z9 sz [] (qx.map (·.x))=XS sz q.ls:=by rw[←hz];exact if_pos T
   have hQ:XS sz q.ls≠0:=T;refine Qc<|Qb<|Qe ?_;exact Qn ⟨[_],Z,by rw[hP (by rw[e1];exact hQ),e1];rfl,G.trans (H.trans h0)⟩
  have hJ:Z9 sz ((qx.take k).map (·.nm)++[q.nm]) ((qx.drop (k+1)).map (·.x))=Z9 sz [] (qx.map (·.x)):=by rw[←hz];exact (if_neg T).symm
  refine Qi<|Qx<|QN O O<|Qb<|xe ?_;exact ⟨k+1,by omega,Z,E,H.trans h0,by rw[hp];exact hJ⟩
 have E:k<sz.length:=by have h2:(k:Int)<(sz.length:Int):=h4;omega
 rw[QY E,List.any_cons] at hc;refine Qi<|Qf<|Qg<|Qc<|xii (hS.ext G) O O E λgg h2=>?_;refine Zb (sz[k]'E) λn hn=>?_;rw[hn] at h2 hc;refine x (Qu h2 O)<|Qe<|QW (α:=Bool) [(26,31)] (λz=>[(31,.bool z)]) (λz w'=>w'=w2∧z=JD n) (by rfl) ?_ ?_
 ·refine Qx<|Qb<|xb (QA O O) (λhM=>?_) (λhM=>?_)
  ·refine Qb<|xs O<|xs O<|x (Qo O)<|xe ?_;exact ⟨_,Z,O,by unfold JD;rw[decide_eq_true hM];rfl⟩
  refine Qb<|Qb<|x (ZR O O)<|x (Qo O)<|xe ?_;exact ⟨_,Z,O,by unfold JD;rw[decide_eq_false hM];rfl⟩
 rintro z g Y ⟨rfl,rfl⟩;refine Q2 rfl (λhN=>?_) (λhN=>?_)
 ·refine Qc<|Qe ?_;exact Qn ⟨[_],Z,by unfold Ys;rw[if_neg h1,if_pos (by rw[←hc,hN];rfl)];rfl,G⟩
 rw[hN,Nx] at hc;refine Qi<|Qx<|QN O O<|Qb<|xe ?_;exact ⟨k+1,by omega,Z,E,O,hc⟩
theorem ZN {α:Type}(q:α→Bool) (i:Nat) (a:α) (l:List α):fix q i (a::l)=if q a=true then (i:Int) else fix q (i+1) l:=rfl
theorem Qbp {α:Type}(q:α→Bool):∀(l:List α) (i:Nat),fix q i l=-1∨((i:Int)≤fix q i l∧fix q i l<(i:Int)+l.length)
 | [],i=>.inl O
 | a::l,i=>by
  rw[ZN];split
  ·right;simp only[List.length_cons];omega
  rcases Qbp q l (i+1) with h | h
  ·exact .inl h
  right;simp only[List.length_cons];omega
theorem yX {α:Type}(q:α→Bool):∀(l:List α) (i:Nat),decide (0≤fix q i l)=l.any q
 | [],i=>rfl
 | a::l,i=>by
  rw[ZN,List.any_cons];cases h:q a with
  | true=>rw[if_pos rfl];simp
  | false=>rw[if_neg (by decide),yX q l (i+1)];rfl
theorem qh {α:Type}(q:α→Bool) (m:List α):∀(l:List α) (i:Nat),fix q i (l++m)=if 0≤fix q i l then fix q i l else fix q (i+l.length) m
 | [],i=>by
  show fix q i m=if (0:Int)≤-1 then (-1) else fix q i m
  rw[if_neg (by decide)]
 | a::l,i=>by
  rw[Mc,ZN,ZN];by_cases h:q a=true
  ·rw[if_pos h,if_pos h,if_pos (by omega)]
  rw[if_neg h,if_neg h,qh q m l (i+1),LM];rw[show i+1+l.length=i+(l.length+1) by omega]
theorem zH {α:Type}(q:α→Bool) (d:Nat):∀(l:List α) (i:Nat),fix q (i+d) l=if 0≤fix q i l then fix q i l+d else -1
 | [],i=>rfl
 | a::l,i=>by
  rw[ZN,ZN];by_cases h:q a=true
  ·rw[if_pos h,if_pos h,if_pos (by omega)];omega
  rw[if_neg h,if_neg h,show i+d+1=(i+1)+d by omega,zH q d l (i+1)]
theorem Kf {α β:Type}(q:β→Bool) (g:α→β):∀(l:List α) (i:Nat),fix q i (l.map g)=fix (λa=>q (g a)) i l
 | [],i=>rfl
 | a::l,i=>by rw[LK,ZN,ZN,Kf q g l (i+1)]
theorem QdT {α:Type}{q q':α→Bool}:∀{l:List α}{i:Nat},(∀a∈l,q a=q' a)→fix q i l=fix q' i l
 | [],i,_=>rfl
 | a::l,i,h=>by rw[ZN,ZN,h a Ln,QdT (λb hb=>h b (Ll _ hb))]
theorem Qkw {gp:Nat}{fn:Func}[Fu prog gp fn] {cap:LV}{q:(Int×Int)→Bool}{L:LN}{w:World}{v:Value}{l:List (Int×Int)}(h:Zo L w.heap v l.length 2 (l.flatMap QQ))
  (hk:∀e∈l,∀(G:World),Step [] w G→QJ prog gp ([.agg (QQ e).toArray]++cap) G λr w'=>r=.bool (q e)∧Step [] G w') :
  QJ prog 287 [v,.func (.func gp) #[] cap.toArray] w λr w'=>r=.int .i64 (fix q 0 l)∧Step [] w w':=by
 have hb:=h.le;refine QJ.of_W func287 O ntmps287 results287 (by simp) ?_;refine Qc<|Qe<|Qf<|Qc<|Qb<|x (Qq h O)<|Qb<|xe<|Qg<|Qy (α:=Nat) [(4,5),(8,18)] (λz=>[(8,.int .i64 z)]) (λz w'=>z≤l.length∧Step [] w w'∧fix q z (l.drop z)=fix q 0 l) (λz=>l.length - z) (by rfl) 0 Z
  ⟨Lk _,Step.refl _ _,O⟩ ?_
 rintro k g G ⟨hc,H,E⟩;refine Qc<|x (QA O O)<|xe<|Qf<|QE O (λh9=>?_) (λh9=>?_)
 ·refine Qw ?_;have Y:l.length≤k:=by have ha:¬(k:Int)<(l.length:Int):=h9;omega
  rw[Lq Y] at E;refine Qc<|Qe ?_;exact Qn ⟨[_],Z,by rw[←E];rfl,H⟩
 have I:k<l.length:=by have ha:(k:Int)<(l.length:Int):=h9;omega
 rw[QY I,ZN] at E;have S:=Lh I;refine Qi<|Qf<|Qg<|Qc<|Qb<|Qe<|Qc<|Qb<|Qb<|Qb<|xig Yr (h.ext H) O O I λhf T=>?_;refine Zb (l[k]'I) λe he=>?_;rw[he] at T E S;refine x (QI T O O)<|xl O<|xc (first:=[]) (capt:=cap) O<|(hk e S G H).mono ?_;rintro r2 w2 ⟨rfl,V⟩;refine xe<|Q2 rfl (λJ=>?_) (λJ=>?_)
 ·rw[if_pos J] at E;refine Qc<|Qb<|Qe ?_;exact Qn ⟨[_],Z,by rw[←E];rfl,H.trans V⟩
 rw[if_neg (by rw[J];decide)] at E;refine Qi<|Qx<|QN O O<|Qb<|xe ?_;exact ⟨k+1,by omega,Z,I,H.trans V,E⟩
theorem QkY {gp:Nat}{fn:Func}[Fu prog gp fn] {cap:LV}{q:(Int×Int)→Bool}{L:LN}{w:World}{v:Value}{l:List (Int×Int)}(h:Zo L w.heap v l.length 2 (l.flatMap QQ))
  (hk:∀e∈l,∀(E:World),Step [] w E→QJ prog gp ([.agg (QQ e).toArray]++cap) E λr w'=>r=.bool (q e)∧Step [] E w') :
  QJ prog 260 [v,.func (.func gp) #[] cap.toArray] w λr w'=>r=.bool (l.any q)∧Step [] w w':=by
 refine QJ.of_W func260 O ntmps260 results260 (by simp) ?_;refine Qc<|Qe<|Qc<|Qb<|Qb<|xl O<|xf<|(Qkw h hk).mono ?_;rintro H E ⟨rfl,G⟩;refine x (ZU O O)<|Qe ?_;exact Qn ⟨[_],Z,congrArg Value.bool (yX q l 0),G⟩
theorem Jr (sz:LI):∀(ls:List (Int×Int)) (pr:Option Int),YN sz pr ls=0→(∀p∈ls,0≤p.1∧p.1<(sz.length:Int))∧Yd (ls.map (·.1))∧∀y,pr=some y→∀p∈ls,y<p.1
 | [],pr,_=>⟨λp hp=>(by cases hp),List.Pairwise.nil,λy _ p hp=>(by cases hp)⟩
 | l::ls,pr,h=>by
  unfold YN at h;split at h
  ·cases h
  rename_i h1;split at h
  ·cases h
  rename_i h2;split at h
  ·cases h
  obtain ⟨G,h5,H⟩:=Jr sz ls (some l.1) h;have E:=H l.1 O;refine ⟨λp hp=>?_,LG.2 ⟨λx hx=>?_,h5⟩,λy hy p hp=>?_⟩
  ·rcases Lc.1 hp with rfl | hp
   ·omega
   exact G p hp
  ·obtain ⟨p,hp,rfl⟩:=Ly.1 hx;exact E p hp
  subst hy;have I:¬l.1≤y:=λe=>h2 (decide_eq_true e);rcases Lc.1 hp with rfl | hp
  ·omega
  have:=E p hp;omega
theorem Jq (sz:LI):∀(ls:List (Int×Int)) (pr:Option Int),Y9 sz pr ls=0→(∀p∈ls,0≤p.1∧p.1<(sz.length:Int)∧-65536≤p.2∧p.2≤65536)∧Yd (ls.map (·.1))∧∀y,pr=some y→∀p∈ls,y<p.1
 | [],pr,_=>⟨λp hp=>(by cases hp),List.Pairwise.nil,λy _ p hp=>(by cases hp)⟩
 | l::ls,pr,h=>by
  unfold Y9 at h;split at h
  ·cases h
  rename_i h1;split at h
  ·cases h
  rename_i h2;split at h
  ·cases h
  rename_i h3;obtain ⟨G,h5,H⟩:=Jq sz ls (some l.1) h;have E:=H l.1 O;have h9:grt l.2=false:=by cases I:grt l.2 with | true=>exact absurd (.inr I) h3 | false=>rfl
  unfold grt at h9;simp only[Bool.or_eq_false_iff,decide_eq_false_iff_not] at h9;refine ⟨λp hp=>?_,LG.2 ⟨λx hx=>?_,h5⟩,λy hy p hp=>?_⟩
  ·rcases Lc.1 hp with rfl | hp
   ·omega
   exact G p hp
  ·obtain ⟨p,hp,rfl⟩:=Ly.1 hx;exact E p hp
  subst hy;have J:¬l.1≤y:=λe=>h2 (decide_eq_true e);rcases Lc.1 hp with rfl | hp
  ·omega
  have:=E p hp;omega
theorem V5 (sz:LI):∀(l:List jo) (sn:List ByteArray),Z9 sz sn l=0→∀x∈l,XS sz x.ls=0
 | [],_,_,x,hx=>by cases hx
 | a::l,sn,h,x,hx=>by
  unfold Z9 at h;split at h
  ·rename_i h1;exact absurd h h1
  split at h
  ·rename_i h1;exact absurd h h1
  rename_i h1;rcases Lc.1 hx with rfl | hx
  ·exact Lu.1 h1
  exact V5 sz l _ h x hx
theorem V7 (sz:LI):∀(l:List Xj) (sn:List ByteArray),YB sz sn l=0→∀x∈l,YE sz x=0
 | [],_,_,x,hx=>by cases hx
 | a::l,sn,h,x,hx=>by
  unfold YB at h;split at h
  ·rename_i h1;exact absurd h h1
  split at h
  ·rename_i h1;exact absurd h h1
  rename_i h1;rcases Lc.1 hx with rfl | hx
  ·exact Lu.1 h1
  exact V7 sz l _ h x hx
structure QmU (sz:LI) (ex:List jo) (cs:List Xj):Prop where
 s8:sz.length≤8
 s:∀n∈sz,1≤n∧n≤4096
 xl:ex.length≤32
 kl:cs.length≤32
 x:∀e∈ex,∀p∈e.ls,0≤p.1∧p.1<(sz.length:Int)
 k:∀e∈cs,(∀p∈e.ts,0≤p.1∧p.1<(sz.length:Int)∧-65536≤p.2∧p.2≤65536)∧e.ts.length≤8
theorem V8 {sz:LI}{ex:List jo}{cs:List Xj}(h:Ys sz ex cs=0):QmU sz ex cs:=by
 unfold Ys at h;split at h
 ·cases h
 rename_i J;split at h
 ·cases h
 rename_i E;split at h
 ·cases h
 rename_i S;split at h
 ·rename_i hx;exact absurd h hx
 rename_i hx;have G:=Lu.1 hx;refine ⟨by omega,λn H=>?_,by omega,by omega,λe he p hp=>?_,λe he=>?_⟩
 ·have h1:JD n=false:=by
   cases hb:JD n with
   | false=>rfl
   | true=>exact absurd (Ml.2 ⟨n,H,hb⟩) E
  unfold JD at h1;simp only[Bool.or_eq_false_iff,decide_eq_false_iff_not] at h1;omega
 ·have h1:=V5 sz ex [] G e he;unfold XS at h1;split at h1
  ·cases h1
  exact (Jr sz e.ls none h1).1 p hp
 have h1:=V7 sz cs [] h e he;unfold YE at h1;split at h1
 ·cases h1
 split at h1
 ·rename_i h2;exact absurd h1 h2
 rename_i h2;obtain ⟨h3,I,_⟩:=Jq sz e.ts none (Lu.1 h2);refine ⟨h3,?_⟩;have:=Go.Proofs.YtdffckgdcegpaaaGreatDoor.pig sz.length (e.ts.map (·.1)) (List.Pairwise.imp (λ{a b} (h:a<b)=>(by omega:a≠b)) I) (λx hx=>by
  obtain ⟨p,hp,rfl⟩:=Ly.1 hx;exact ⟨(h3 p hp).1,(h3 p hp).2.1⟩)
 rw[Lb] at this;omega
def Qjg (sz t:LI):Prop:=t.length=sz.length∧∀i,i<t.length→0≤cget t i∧cget t i<cget sz i
theorem Qdd (t:LI) (p:Int×Int) (l:List (Int×Int)) (s:Int):(l++[p]).foldl (λs p=>s+p.2*t.getD p.1.toNat 0) s=l.foldl (λs p=>s+p.2*t.getD p.1.toNat 0) s+p.2*cget t p.1.toNat:=by
 rw[MA];rfl
theorem Qes {w:World}{vl vt:Value}{nm:ByteArray}{ts:List (Int×Int)}{bd:Int}{t:LI}(hl:P2s [] w.heap vl ts) (ht:QL [] w.heap vt t)
  (hg:∀p∈ts,0≤p.1∧p.1<(t.length:Int)∧-65536≤p.2∧p.2≤65536) (h8:ts.length≤8) (hh:∀i,i<t.length→0≤cget t i∧cget t i≤4096) :
  QJ prog 263 [.agg #[.string nm,vl,.int .i64 bd],vt] w λr w'=>r=.int .i64 (Qlx t ⟨nm,ts,bd⟩)∧Step [] w w':=by
 refine QJ.of_W func263 O ntmps263 results263 (by simp) ?_;refine Qc<|xl O<|QT (us:=[.string nm,vl,.int .i64 bd]) O λb2 w1 V hy hj=>Qe<|Qc<|Qe<|Qf<|Qc<|x (Qa O)<|x (Qd hj O O)<|x (Qq (hl.ext V) O)<|Qb<|xe ?_
 refine Qg<|Qy (α:=Nat×Int) [(5,5),(7,7),(11,25)] (λz=>[(5,.int .i64 z.2),(11,.int .i64 z.1)]) (λz w'=>z.1≤ts.length∧Step [] w w'∧z.2=(ts.take z.1).foldl (λs p=>s+p.2*t.getD p.1.toNat 0) 0∧-(268435456*(z.1:Int))≤z.2∧z.2≤268435456*(z.1:Int)) (λz=>ts.length - z.1) (by rfl) (0,0) ⟨O,O,U⟩
  ⟨Lk _,V,O,by simp only[];omega,by simp only[];omega⟩ ?_
 rintro ⟨k,s⟩ g w2 ⟨hk,J,G,hn,ho⟩;simp only[] at hk G hn ho;refine Qc<|x (QA O O)<|xe<|Qf<|QE O (λS=>?_) (λS=>?_)
 ·refine Qw ?_;have hp:ts.length≤k:=by have H:¬(k:Int)<(ts.length:Int):=S;omega
  rw[Lm hp] at G;refine Qc<|Qb<|Qe ?_;exact Qn ⟨[_],Z,by rw[G];rfl,J⟩
 have E:k<ts.length:=by have H:(k:Int)<(ts.length:Int):=S;omega
 have T:=hg _ (Lh E);have Y:ts.take (k+1)=ts.take k++[ts[k]'E]:=Le E;refine Qi<|Qf<|Qg<|Qc<|xig Yr (hl.ext J) O O E λhz H=>?_;refine Zb (ts[k]'E) λe he=>?_;rw[he] at H T Y;refine x (QI H O O)<|xl O<|Qv (us:=[.int .i64 0,.int .i64 0]) O λb7 w3 hq hr I=>xl O<|Qr (us:=QQ e) I O O O O ⟨O,O,U⟩ λw4 hs I=>xe ?_
 have hu:Step [] w2 w4:=hq.then1 hs hr;have ha:=J.trans hu;have hv:e.1=((e.1.toNat:Nat):Int):=by omega
 have hb:e.1.toNat<t.length:=by omega
 have hf:=hh _ hb;have h0:-268435456≤e.2*cget t e.1.toNat∧e.2*cget t e.1.toNat≤268435456:=by
  have h1:(-65536)*cget t e.1.toNat≤e.2*cget t e.1.toNat:=Int.mul_le_mul_of_nonneg_right T.2.2.1 hf.1;have h2:e.2*cget t e.1.toNat≤65536*cget t e.1.toNat:=Int.mul_le_mul_of_nonneg_right T.2.2.2 hf.1;omega
 refine Zb (e.2*cget t e.1.toNat) λpr h3=>?_;refine QS (Step [] w4) [(0,true),(1,true),(2,true),(3,true),(4,true),(5,true),(6,true),(7,true),(8,true),(9,true),(10,true)] mixed (by rfl) (by kernel_rfl) (Step.drew _ _) ?_;refine p (λ_=>Ql)<|p (λ_=>Qa O)<|pq (λ_ hc=>Qd (I.ext hc) O O)<|p (λ_=>Ql)<|p (λ_=>Qa O) <|
  pq (λ_ hc=>Qd (I.ext hc) O O)<|pic (i:=e.1.toNat) O (ht.ext ha) O (congrArg (Value.int .i64) hv) hb λh4 hw=>pq (λ_ hc=>Qu (hw.ext hc) O) <|
  p (λ_=>Qe2 O O ⟨by omega,by omega⟩)<|p (λ_=>X5 O O ⟨by omega,by omega⟩)<|p (λ_=>Qh)<|pe ?_
 refine Qx<|QN O O<|Qb<|xe<|⟨(k+1,s+e.2*cget t e.1.toNat),by simp only[];omega,⟨O,O,U⟩,E,ha.trans (Step.drew _ _),?_,by simp only[];omega,by simp only[];omega⟩;simp only[];rw[Y,Qdd,←G]
theorem Qgn {w:World}{bt:Nat}{vt:Value}{t:LI}(H:Q3 w.heap bt 37 [vt]) (I:QL [] w.heap vt t) (e:Int×Int) (he:0≤e.1∧e.1<(t.length:Int)) :
  QJ prog 261 ([.agg (QQ e).toArray]++[.pointer (some ⟨bt,0,none⟩)]) w λr w'=>r=.bool (!decide (t.getD e.1.toNat 0=e.2))∧Step [] w w':=by
 refine QJ.of_W func261 O ntmps261 results261 (by simp) ?_;refine Qc<|xl O<|QT (us:=QQ e) O λY J E ha G=>Qe ?_;have S:e.1=((e.1.toNat:Nat):Int):=by omega
 have T:e.1.toNat<t.length:=by omega
 refine Qf<|QS (Step [] J) [(0,true),(1,true),(2,true),(3,true),(4,true),(5,true),(6,true),(7,true),(8,true)] mixed (by rfl) (by kernel_rfl) (Step.drew _ _) ?_;refine pq (λ_ hc=>Qd ((H.ext E).ext hc) O O)<|p (λ_=>Qa O)<|pq (λ_ hc=>Qd (G.ext hc) O O)<|pic (i:=e.1.toNat) O (I.ext E) O (congrArg (Value.int .i64) S) T λa7 V =>
  pq (λ_ hc=>Qu (V.ext hc) O)<|p (λ_=>Qa O)<|pq (λ_ hc=>Qd (G.ext hc) O O)<|p (λ_=>Q9 O O) <|
  p (λ_=>Qh)<|pe ?_
 refine Qn ⟨[_],Z,?_,E.trans (Step.drew _ _)⟩;show Value.bool (decide (¬cget t e.1.toNat=e.2))=_;unfold cget;simp
theorem Qeq (t:LI) (x:jo):(!(x.ls.any λl=>!decide (t.getD l.1.toNat 0=l.2)))=Ks t x:=by
 unfold Ks;induction x.ls with
 | nil=>rfl
 | cons a l ih=>rw[List.any_cons,Mi,←ih];cases decide (t.getD a.1.toNat 0=a.2) <;> simp
theorem QiI {w:World}{b:Nat}{q:XV}{vt:Value}{t:LI}(I:Q3 w.heap b 122 (Zt q)) (hq:P2s [] w.heap q.v q.ls) (H:QL [] w.heap vt t) (J:∀p∈q.ls,0≤p.1∧p.1<(t.length:Int)) :
  QJ prog 259 ([vt]++[.pointer (some ⟨b,0,none⟩)]) w λr w'=>r=.bool (Ks t q.x)∧Step [] w w':=by
 refine QJ.of_W func259 O ntmps259 results259 (by simp) ?_;refine Qc<|xl O<|QT (us:=[vt]) H.cells λS Y E ha T=>Qe<|Qc<|x (Qa O)<|x (Qd (I.ext E) O O)<|x Zq<|xl O<|xf<|(QkY (q:=λl=>!decide (t.getD l.1.toNat 0=l.2)) (cap:=[.pointer (some ⟨S,0,none⟩)]) (hq.ext E) (λe he V G=>Qgn (T.ext G) ((H.ext E).ext G) e (J e he))).mono ?_;rintro r2 V ⟨rfl,G⟩;refine x (Zm O)<|Qe ?_
 exact Qn ⟨[_],Z,congrArg Value.bool (Qeq t q.x),E.trans G⟩
theorem QiH {w:World}{b:Nat}{q:KV}{vt:Value}{t:LI}(E:Q3 w.heap b 127 (Zv q)) (hq:P2s [] w.heap q.v q.ts) (H:QL [] w.heap vt t)
  (I:∀p∈q.ts,0≤p.1∧p.1<(t.length:Int)∧-65536≤p.2∧p.2≤65536) (J:q.ts.length≤8) (S:∀i,i<t.length→0≤cget t i∧cget t i≤4096) :
  QJ prog 262 ([vt]++[.pointer (some ⟨b,0,none⟩)]) w λr w'=>r=.bool (Vx t q.k)∧Step [] w w':=by
 refine QJ.of_W func262 O ntmps262 results262 (by simp) ?_;refine Qc<|Qe ?_;have hd:Step [] w { w with drawn:=w.drawn+1 }:=Step.drew _ _
 refine Qf<|QS (Step [] { w with drawn:=w.drawn+1 }) [(0,true),(1,true),(3,true),(4,true),(2,false),(5,true),(6,true)] mixed (by rfl) (by kernel_rfl) (Step.refl _ _) ?_
 refine pq (λ_ hc=>Qs ((E.ext hd).ext hc) O O)<|p (λ_=>Ql)<|p (λ_=>Qa O)<|pq (λ_ hc=>Qd ((E.ext hd).ext hc) O O)<|pk<|xf<|(Qes (hq.ext hd) (H.ext hd) I J S).mono ?_;rintro T V ⟨rfl,G⟩;refine ⟨G,?_⟩;refine p (λ_=>ZR O O)<|p (λ_=>Qh)<|pe ?_;exact Qn ⟨[_],Z,O,hd.trans G⟩
end Go.Proofs.YtdffckgdcegpaaaGreatDoor
