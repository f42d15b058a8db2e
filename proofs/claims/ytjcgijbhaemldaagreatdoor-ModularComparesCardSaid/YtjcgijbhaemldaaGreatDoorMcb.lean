/- Merged out of 50 texts. -/
import Derived.Test.YtjcgijbhaemldaaGreatDoorMca
import Derived.Laws.Strings
import Derived.RangeFuncNested
import Derived.RangeFuncLeaves
import Derived.RangeFuncCalls
import Derived.OrdersIn
import Derived.TacticsIn
namespace Go.Proofs.YtjcgijbhaemldaaGreatDoor
open Go.Proofs.Tryz
open Go.Lg
theorem Qn9 {α:Type}(o:Option α):o=none∨∃t,o=some t:=by cases o;exact .inl O;exact .inr ⟨_,O⟩
def zA:Value:=.agg #[nS,.int .i64 0,nS,nS]
def Q0:Value:=nS
def Yk (N:Nat)(H:Array Obj)(aa:List QO)(va vt:Value)(c:Int):Prop :=
 if JJ aa≠0 then c=JJ aa∧va=zA∧vt=Q0 else match sync aa with
  | none=>c=3∧va=zA∧vt=Q0
  | some z=>c=0∧Y2 N H va z.1∧QcU N H vt z.2
def Yr (s:Sy)(u:LI):Sy:=if u∈s.tup then s else⟨s.tup++[u],s.mk',s.ed⟩
theorem QfN (s:Sy)(u:LI):(Yr s u).mk'=s.mk':=by unfold Yr;split <;> rfl
theorem QfO (s:Sy)(u:LI):(Yr s u).ed=s.ed:=by unfold Yr;split <;> rfl
theorem QiR {aa:List QO}{i:Nat}{t u:LI}{s:Sy}{v:Int}(h:Zz v aa t=some u)(hl:u∈s.tup∨s.tup.length≠4096):
  syE aa i t s v=some ⟨(Yr s u).tup,(Yr s u).mk',(Yr s u).ed++[((i:Int),v,((Yr s u).tup.idxOf u:Int))]⟩:=by
 unfold syE Yr;rw[h];simp only[];by_cases hu:u∈s.tup
 ·simp only[if_pos hu]
 simp only[if_neg hu];rw[if_neg (by rcases hl with h1|h1;exact absurd h1 hu;exact h1),Mm,if_neg hu];simp
theorem QfM {aa:List QO}{i:Nat}{t u:LI}{s:Sy}{v:Int}(h:Zz v aa t=some u)(hu:u∉s.tup)(hl:s.tup.length=4096):syE aa i t s v=none:=by
 unfold syE;rw[h];simp only[];rw[if_neg hu,if_pos hl]
theorem QfK {aa:List QO}{i:Nat}{t:LI}{s:Sy}{v:Int}(h:Zz v aa t=none):syE aa i t s v=some s:=by
 unfold syE;rw[h]
theorem QmV {s:Sy}{qs:List TV}{i:Nat}(hq:qs.map (·.2)=s.tup)(h:i<qs.length):UG s i=qs[i].2:=by
 unfold UG;rw[←hq];simp[List.getD,h]
theorem Vt.bd {aa:List QO}{t:LI}(h:Vt aa t){m:Int}(hm:∀a∈aa,a.st≤m):∀x∈t,0≤x∧x<m:=by
 intro x hx;obtain⟨i,hi,rfl⟩:=LF hx;have E:i<aa.length:=by rw[←h.1];exact hi
 have:=h.2 i hi E;have:=hm aa[i] (Li E);omega
set_option maxHeartbeats 20000000 in
theorem Ue {L:LN}{w:World}{vl:Value}{ps:List AV}{km:Int}(h:YX L w.heap vl ps)(gj:Kb w km)(kc:0<km)(m1:∀p∈ps,p.a.st≤km):
  QE prog 74 [vl] w λr w'=>Step [] w w'∧∃va vt c,r=.tuple #[va,vt,.int .i64 c]∧Yk w.heap.size w'.heap (ps.map (·.a)) va vt c:=by
 refine QE.of_W func74 O ntmps74 results74 (by simp) ?_;generalize J:ps.map (·.a)=aa;refine Qc<|xl O<|Qu (us:=[nS,.int .i64 0,nS,nS]) O λH w1 hO hA gk=>x Qf<|Qe ?_;have hl2:=gk.lt;refine Qg<|Qc<|Qb<|xl O<|xf<|(yv (h.ext hO)).mono ?_;rintro r2 w2 ⟨rfl,ho⟩;refine Qe ?_;rw[J];refine Qc<|Qb<|x (Q7 O O)<|xe<|Q4 rfl (λhv=>?_) (λhv=>?_)
 ·refine Qc<|x (QN Z)<|Qb<|xl O<|Qo (us:=[nS,.int .i64 0,nS,nS]) (gk.ext ho) O O O O ⟨O,O,O,O,Z⟩ λw3 m2 m3=>x Qf<|Qe<|Qk ⟨[zA,Q0,.int .i64 (JJ aa)],⟨⟨_,O,Qw O (m3.at (L:=[]) (by simp)).cells⟩,rfl,rfl,Z⟩,(hO.trans ho).then1 m2 hA,zA,Q0,JJ aa,rfl,?_⟩;unfold Yk;rw[if_pos hv];exact⟨O,O,O⟩
 have hck:JJ aa=0:=Lm.1 hv;have hn:ps.length≤12:=by
  unfold JJ at hck;split at hck
  ·cases hck
  rename_i h1;rw[←J]at h1;simp at h1;exact h1
 have hB:∀a∈aa,Q2 a:=by
  unfold JJ at hck;split at hck
  ·cases hck
  exact(KA aa).1 hck
 have hP:∀p∈ps,Q2 p.a:=λp hp=>hB p.a (by rw[←J];exact LL hp);have m6:∀p∈ps,p.a.al.length≤32:=λp hp=>(hP p hp).al_le;have m7:∀a∈aa,a.st≤km:=λa ha=>by rw[←J]at ha;obtain⟨p,hp,rfl⟩:=Lx.1 ha;exact m1 p hp
 have hC:aa.length=ps.length:=by rw[←J];simp
 refine Qi<|Qc<|Qb<|xl O<|xf<|(Qdw (L:=[H]) (((h.up (λb hb=>.inr (by simp at hb;omega))).ext hO).ext ho) hn m6 (λb hb=>by simp at hb;have:=ho.size;omega)).mono ?_;rintro r4 w4 ⟨gl,ve,vs,ms,rfl,ke,hl⟩;rw[J]at hl;have m8:=h.arr.one;have hel:=qg aa (λa ha=>(hB a ha).al_le);have hevl:(evs aa).length≤1000:=by omega
 have hQ:=Qt.ints (L:=[]) hl (by omega) (by simp);refine xl rfl<|Qu (us:=[nS,nS,nS]) O λb6 w5 m9 pa hD=>xl O<|Qo (us:=[vl,ve,vs]) hD O O O O ⟨m8,hQ.one,ke.sl.one,Z⟩ λw6 pc hD=>xe ?_;have hR:Step [] w4 w6:=m9.then1 pc pa;have hz2:=ho.size;have hz4:=gl.size;have hl6:=hD.lt;refine Qc ?_;have pd:=((gk.ext ho).ext gl).ext hR
 refine x (Qa O)<|x (Qd hD O O)<|x (Qa O)<|xl O<|QB pd O O (by simp) hQ.one λw7 hE pf=>xe ?_;have hz7:=hE.size;have gm:Step [] w w7:=((((hO.trans ho).trans gl).trans hR).then1 hE hA);have kf:KH [H] w7.heap vl ve vs ps ms:=(ke.ext hR).st hE;have kg:Qt 3 w2.heap.size w7 ve (evs aa):=Ql (Qs hl hR) hE (λb hb=>by have:=(Qp hl b hb).1;simp;omega)
 have kh:=hD.step hE (by simp;omega);refine Qc<|x (Qn kh O O)<|xl O<|xf<|(Qcu kf hn).mono ?_;rintro r8 w8 ⟨hh,hS⟩;have hz8:=hh.size;have gn:=pf.ext hh;have hU:(∃p∈ps,p.a.st=0)↔(∃a∈aa,a.st=0):=by
  rw[←J];constructor
  ·rintro⟨p,hp,h0⟩;exact⟨p.a,LL hp,h0⟩
  rintro⟨a,ha,h0⟩;obtain⟨p,hp,rfl⟩:=Lx.1 ha;exact⟨p,hp,h0⟩
 by_cases hz:∃p∈ps,p.a.st=0
 ·rw[if_pos hz]at hS;subst hS;refine Qb<|x (Qj O O)<|x (Qj O O)<|x Qf<|Qe<|Qg<|Qc<|Qb<|x (Zq O)<|xe<|Vx O ?_;refine Qc<|x (Qn gn O O)<|xl O<|Qo (us:=[ve,.int .i64 0,nS,nS]) gn O O O O ⟨hQ.one,O,O,O,Z⟩ λw9 ki pg=>x Qf<|Qe<|Qk ⟨[.agg #[ve,.int .i64 0,nS,nS],Q0,.int .i64 0],⟨⟨_,O,Qw O (pg.at (L:=[]) (by simp)).cells⟩,rfl,rfl,Z⟩,(gm.trans hh).then1 ki hA,_,Q0,0,rfl,?_⟩
  unfold Yk;rw[if_neg hv];unfold sync;rw[if_pos (hU.1 hz)];have ph:=Ql (Qs kg hh) ki (λb hb=>by have:=(Qp hl b hb).1;simp;omega);refine⟨O,⟨ve,_,_,O,λL' hk=>⟨Qt.ints ph (by show(evs aa).length≤_;omega) (λb hb=>by have:=hk b hb;omega),Zv.nil _ _ _,Zv.nil _ _ _⟩⟩,[],O,λL' hk=>⟨Zv.nil _ _ _,λp hp=>by cases hp⟩⟩
 rw[if_neg hz]at hS;obtain⟨vf,rfl,go⟩:=hS;have kj:=Qt.ints (L:=[]) go (by simp;omega) (by simp);refine Qb<|x (Qj O O)<|x (Qj O O)<|x Qf<|Qe<|Qg<|Qc<|Qb<|x (Zq O)<|xe<|ZO rfl ?_;refine Qi<|Qc<|Qb<|xl O<|QF (us:=[[vf]]) O O (by decide) (by simp) ⟨kj.cells,rfl,Z⟩ λU w10 gq hb37 kk=>Qe ?_;have hl37:=kk.lt;refine Qc<|xl O<|Z0 XZ λhe w11 hV hb38 kn=>?_;have hl38:=kn.lt
 refine Qb<|xl O<|xf<|(jO ((kj.ext gq).ext hV) (gj.ext ((gm.trans hh).trans (gq.trans hV))) (λn hn=>by have:=Ns hn;omega) (by simp;omega)).mono ?_;rintro r12 pj ⟨rfl,hW⟩;have hz12:=hW.size;refine xl rfl<|Yi (k:=K5 (List.replicate ps.length 0)) (kn.ext hW) O O λwS gr pn=>Qb<|Qe ?_;have hzS:=gr.size
 have po:Step [] w8 pj:=(gq.trans hV).trans hW;have hw:Step [] w8 wS:=po.then1 gr (by omega);have hX:Step [] w wS:=(gm.trans hh).trans hw;have pp:∀b∈[H,he,U],b∈[H]∨w8.heap.size≤b:=λb hb=>by
  simp only[List.mem_cons,List.not_mem_nil,or_false]at hb;rcases hb with rfl|rfl|rfl
  ·exact .inl (by simp)
  ·exact .inr (by omega)
  exact .inr (by omega)
 have gs:KH [H,he,U] wS.heap vl ve vs ps ms:=((kf.ext hh).up pp).ext hw;have gt:QT wS.heap b6 215 [vl,ve,vs]:=(kh.ext hh).ext hw;have pt:Qt 3 w2.heap.size wS ve (evs aa):=Qs (Qs kg hh) hw;have pu:=Q3 hl;have pw:=Qp go;have hF:SyN w1.heap.size H he U wS:=⟨by omega,by omega,by omega,by omega,by omega,by omega⟩
 have pz:je w1.heap.size H he U ve wS (UT aa) (mput [] (K5 (List.replicate ps.length 0)) (.int .i64 0)) [(vf,List.replicate ps.length 0)] (.slice (some ⟨U,0,none⟩) 1 1) Q0 Q0 wS:=by
  refine⟨Step.refl _ _,gn.ext hw,pn,?_,λb hb=>by simp[ob]at hb;exact .inl hb,QP _ _ _ _,QP _ _ _ _,by simp[UT,hC],λp hp=>?_,λp hp b hb=>?_,Dj.nil' _,Dj.nil' _,Dj.nil' _⟩
  ·exact(((kk.ext hV).ext hW).step gr (by simp;omega)).own (n:=1) (sz:=1) O (by omega) (by omega)
  ·simp only[List.mem_singleton]at hp;subst hp;exact Zc (Qs go hw) (by omega)
  simp only[List.mem_singleton]at hp;subst hp;have:=pw b hb;refine⟨by omega,?_,by simp[ob,Q0],by simp[ob,Q0]⟩;simp[ob];omega
 have p0:UE ps.length (mput [] (K5 (List.replicate ps.length 0)) (.int .i64 0)) (UT aa).tup:=by
  have kc:UE ps.length [] []:=λu _ _=>O;have:=kc.add (u:=List.replicate ps.length 0) (by simp) (λx hx=>by have:=Ns hx;omega);simpa[UT,hC]using this
 have p4:UC aa (UT aa):=by
  refine⟨λt ht=>?_,by simp[UT]⟩;simp only[UT,List.mem_singleton]at ht;subst ht;refine⟨by simp,λi h1 h2=>?_⟩;have h3:=(hB aa[i] (Li h2)).st0;have h4:aa[i].st≠0:=λe=>hz (hU.2 ⟨aa[i],Li h2,e⟩);simp only[List.getElem_replicate];omega
 generalize hT:syL aa 4096 0 (UT aa)=T;have p5:∀s,T=some s→sync aa=some (⟨evs aa,s.tup.length,s.mk',s.ed⟩,s.tup):=λs hs=>by
  unfold sync;rw[if_neg (λe=>hz (hU.2 e)),hT,hs];rfl
 have p6:T=none→sync aa=none:=λhs=>by unfold sync;rw[if_neg (λe=>hz (hU.2 e)),hT,hs];rfl
 refine Qg<|Qc<|Qe ?_;have gu:b6∉[H,he,U]:=by simp;omega
 refine Qh<|QA (α:=Nat×Sy×List (ByteArray×Value)×List TV×Value×Value×Value) [(3,4),(10,10),(12,16),(42,111)] (λz=>[(3,z.2.2.2.2.1),(10,.int .i64 z.1)])
  (λz w'=>je w1.heap.size H he U ve wS z.2.1 z.2.2.1 z.2.2.2.1 z.2.2.2.2.1 z.2.2.2.2.2.1 z.2.2.2.2.2.2 w'∧UC aa z.2.1∧UE ps.length z.2.2.1 z.2.1.tup∧z.1≤z.2.1.tup.length∧z.2.1.mk'.length≤z.1∧z.2.1.ed.length≤z.1*1000∧syL aa (4096 - z.1) z.1 z.2.1=T)
  (λz=>4096 - z.1) (by rfl) (0,UT aa,_,_,_,Q0,Q0) ⟨O,O,Z⟩ ⟨pz,p4,p0,Ll _,Ll _,Ll _,hT⟩ ?_
 rintro⟨i,s,m,qs,vt,vk,vd⟩ g hG ⟨G,hY,ko,hi,p7,kp,gv⟩;simp only[]at G hY ko hi p7 kp gv;have hle:=hY.le;have p8:qs.length=s.tup.length:=by rw[←G.q];simp
 have kq:∀p∈qs,Vt aa p.2:=λp hp=>hY.v p.2 (by rw[←G.q];exact LL hp);have kr:∀p∈qs,p.2.length≤12:=λp hp=>by have:=(kq p hp).1;omega
 have gx:=QW (L:=[]) G.t (by omega) (by simp);refine Qg<|Qc<|Qb<|Qb<|x (Qr gx O)<|x (Qz O O)<|xe<|QC rfl (λp9=>?_) (λp9=>?_)
 ·have qc:T=some s:=by rw[←gv,QfH (by omega)]
  refine Qy<|Qc<|Qb<|x (Qr gx O)<|x (Qa O)<|xl O<|QB G.A O O (by simp) rfl λw15 qf kt=>xe ?_;refine Qc ?_;have ql:=Qt.ints (L:=[]) G.k (by omega) (by simp);have qo:=Z2.eds (L:=[]) G.e (by omega) (by simp);refine x (Qn kt O O)<|Qb<|xl O<|Qo (us:=[ve,.int .i64 qs.length,vk,vd]) kt O O O O ⟨hQ.one,O,ql.one,qo.one,Z⟩ λgy qr q0=>x Qf<|Qe ?_
  have h5:Step [H] hG gy:=qf.trans' qr;have q4:Step [] w gy:=(hX.then G.st (λb hb=>.inr (by simp at hb;omega))).then1 h5 hA;refine Qk ⟨[.agg #[ve,.int .i64 qs.length,vk,vd],vt,.int .i64 0],⟨⟨_,O,Qw O (q0.at (L:=[]) (by simp)).cells⟩,rfl,rfl,Z⟩,q4,_,vt,0,rfl,?_⟩;unfold Yk;rw[if_neg hv,p5 s qc];have e1:(qs.length:Int)=s.tup.length:=by rw[p8]
  have k0:Qt 3 w2.heap.size gy ve (evs aa):=Ql (Ql pt G.st (λb hb=>by have:=(Qp hl b hb).1;have:=pu b hb;simp;omega)) h5 (λb hb=>by have:=(Qp hl b hb).1;simp;omega);have k1:=Ql G.k h5 (λb hb=>by have:=(Qp G.k b hb).1;simp;omega);have k2:=Ql G.e h5 (λb hb=>by have:=(Qp G.e b hb).1;simp;omega);have k3:=Ql G.t h5 (λb hb=>by have:=(Qp G.t b hb).1;simp;omega)
  refine⟨O,⟨ve,vk,vd,by rw[e1],λL' hk=>⟨Qt.ints k0 (by show(evs aa).length≤_;omega) (λb hb=>by have:=hk b hb;omega),Qt.ints k1 (by show s.mk'.length≤_;omega) (λb hb=>by have:=hk b hb;omega),Z2.eds k2 (by show s.ed.length≤_;omega) (λb hb=>by have:=hk b hb;omega)⟩⟩,qs,G.q,λL' hk=>⟨?_,λp hp=>?_⟩⟩
  ·exact QW k3 (by omega) (λb hb q5=>by have:=(Qp G.t b hb).1;have:=hk b q5;omega)
  exact Qt.ints (Ql (G.el p hp) h5 (λb hb=>by have:=(Qp (G.el p hp) b hb).1;simp;omega)) (by have:=kr p hp;omega) (λb hb=>by have:=hk b hb;omega)
 have q9:i<s.tup.length:=by omega
 have V:i<qs.length:=by omega
 have ku:=QmV G.q V;have h6:=kq (qs[i]'V) (Li V);obtain⟨t,gz⟩:∃t,(qs[i]'V).2=t:=⟨_,O⟩;rw[gz]at ku h6;refine Qi ?_;have j1:(Vi aa i t (evs aa) (ZF aa i t s)).bind (syL aa (4096 - (i+1)) (i+1))=T:=by
  rw[←gv];obtain⟨f,hf⟩:∃f,4096 - i=f+1:=⟨4096 - i - 1,by omega⟩;rw[hf,syL,if_pos q9,ku,show 4096 - (i+1)=f by omega]
 have j2:=gs.st G.st;have j3:KH [] hG.heap vl ve vs ps ms:=j2.up (λ_ hb=>by cases hb);have j4:=gt.step G.st gu;have za:QH [] hG.heap (qs[i]'V).1 t:=by rw[←gz];exact Qt.ints (G.el (qs[i]'V) (Li V)) (by have:=kr (qs[i]'V) (Li V);omega) (by simp)
 refine Qg<|Qh<|QX (α:=Value) [(48,59)] (λz=>[]) (λz w'=>je w1.heap.size H he U ve wS (ZF aa i t s) m qs vt z vd w') (by rfl) ?_ ?_
 ·refine Qg<|QV (Step [] hG) [(0,true),(1,true),(2,true),(3,true),(4,true),(5,false)] mixed (by rfl) (by kernel_rfl) (Step.drew _ _) ?_;refine pq (λ_ hc=>Qn (j4.ext hc) O O)<|p (λ_=>Qm)<|p (λ_=>Qm)<|pig O jk gx O O V λa51 zb =>
   pq (λ_ hc=>Qv (zb.ext hc) O)<|pk<|xf<|(QeR (j3.ext (Step.drew _ _)) (za.ext (Step.drew _ _)) (by rw[h6.1,hC]) (λp hp=>(hP p hp).mri) hn).mono ?_
  rintro r17 w17 ⟨rfl,zv⟩;have kv:=(Step.drew [] hG).trans zv;refine⟨kv,?_⟩;refine pe ?_;have g0:=G.ext kv;refine QY O (λhH=>?_) (λhH=>?_)
  rotate_left
  ·refine Qi<|⟨vk,Z,?_⟩;rw[J]at hH;unfold ZF;rw[if_neg (by rw[hH];simp)];exact g0
  refine Qx<|x (Qa O)<|x (Qd g0.A O O)<|Qb<|xl O<|QF (us:=[[.int .i64 i]]) O O (by decide) (by simp) ⟨rfl,rfl,Z⟩ λb57 w18 z0 hb57 z2=>?_;have hJ:=g0.ext z0;refine xl O<|Q5 (news:=[.int .i64 i]) (L:=[]) hJ.k O O O (z2.at (by simp)) (by simp[Value.oneCell']) (by omega) hJ.st.size λkw z3 z4 kx z5=>?_;have kz:Qt 3 wS.heap.size z3 kw (s.mk'++[(i:Int)]):=Qt.snoc z4
  refine x (Qa O)<|xl O<|QB (hJ.A.step kx (QR hJ.k (by omega))) O O (by simp) (Qt.ints (L:=[]) kz (by simp;omega) (by simp)).one λw20 z9 hB20=>xe ?_;refine⟨kw,Z,?_⟩;rw[J]at hH;unfold ZF;rw[if_pos hH];exact hJ.setK hF kx kz z5 z9 hB20
 rintro hZ g3 w21 k4;have hsk2:UC aa (ZF aa i t s):=yh hY;have htup2:(ZF aa i t s).tup=s.tup:=by unfold ZF;split <;> rfl
 have hed2:(ZF aa i t s).ed=s.ed:=by unfold ZF;split <;> rfl
 have hmk2:(ZF aa i t s).mk'.length≤i+1:=by
  unfold ZF;split
  ·simp only[List.length_append,List.length_singleton];omega
  omega
 have k5:QH [H,he,U] wS.heap ve (evs aa):=by have:=gs.ev;rw[J]at this;exact this
 refine Qc<|x (Qa O)<|x (Qd (gt.step k4.st gu) O O)<|x (Qr k5 O)<|Qb<|xe<|Qh<|QA (α:=Nat×Sy×List (ByteArray×Value)×List TV×Value×Value) [(3,4),(12,16),(63,111)] (λz=>[(3,z.2.2.2.2.1),(63,.int .i64 z.1)])
  (λz w'=>je w1.heap.size H he U ve wS z.2.1 z.2.2.1 z.2.2.2.1 z.2.2.2.2.1 hZ z.2.2.2.2.2 w'∧UC aa z.2.1∧UE ps.length z.2.2.1 z.2.1.tup∧z.1≤(evs aa).length∧z.2.1.mk'=(ZF aa i t s).mk'∧z.2.1.ed.length≤i*1000+z.1 ∧
   (∃h:i<z.2.2.2.1.length,(z.2.2.2.1[i]'h).2=t)∧(Vi aa i t ((evs aa).drop z.1) z.2.1).bind (syL aa (4096 - (i+1)) (i+1))=T)
  (λz=>(evs aa).length - z.1) (by rfl) (0,ZF aa i t s,m,qs,vt,vd) ⟨O,O,Z⟩
  ⟨k4,hsk2,by rw[htup2];exact ko,Ll _,O,by rw[hed2];simpa using kp,⟨V,gz⟩,j1⟩ ?_
 rintro⟨j,E,m4,hg,ga,gb⟩ g4 h7 ⟨I,hK,hq,hj,gc,k6,⟨hm,h8⟩,Y⟩;simp only[]at I hK hq hj gc k6 Y hm h8;have k7:hg.length=E.tup.length:=by rw[←I.q];simp
 have hle4:=hK.le;refine Qc<|x (Qz O O)<|xe<|Qg<|QC O (λh64=>?_) (λh64=>?_)
 ·rw[Ls (by omega),Vi]at Y;refine Qy<|Qx<|Qb<|QM O O<|Qe<|⟨(i+1,E,m4,hg,ga,hZ,gb),by simp only[];omega,⟨O,O,Z⟩,I,hK,hq,by simp only[];omega,by simp only[];rw[gc];exact hmk2,by simp only[];omega,Y⟩
 have ge:j<(evs aa).length:=by omega
 rw[Q9 ge,Vi]at Y;obtain⟨v,k8⟩:∃v,(evs aa)[j]=v:=⟨_,O⟩;rw[k8]at Y;refine Qi<|Qg<|Qh<|Qc ?_;have hveI4:=k5.st I.st;refine xii hveI4 O O ge λa65 k9=>?_;rw[k8]at k9;refine x (Qv k9 O)<|Qe ?_;have hM22:=(gs.st I.st).up (L':=[]) (λ_ hb=>by cases hb);have hB622:=gt.step I.st gu;have htA4:=QW (L:=[]) I.t (by omega) (by simp)
 have htI4:QH [] h7.heap (hg[i]'hm).1 t:=by rw[←h8];exact Qt.ints (I.el (hg[i]'hm) (Li hm)) (by rw[h8,h6.1];omega) (by simp)
 refine Qg<|QV (Step [] h7) [(0,true),(1,true),(2,true),(3,true),(4,true),(5,true),(6,false),(7,true),(8,true),(9,true),(10,true),(11,true)] mixed (by rfl) (by kernel_rfl) (Step.drew _ _) ?_;refine pq (λ_ hc=>Qn (hB622.ext hc) O O)<|p (λ_=>Qm)<|p (λ_=>Qm)<|pig O jk htA4 O O hm λa71 h71 =>
  pq (λ_ hc=>Qv (h71.ext hc) O)<|p (λ_=>Qm)<|pk<|xf<|(Qgm (hM22.ext (Step.drew _ _)) (htI4.ext (Step.drew _ _)) (by rw[h6.1,hC]) (λp hp=>(hP p hp).ali) (λp hp=>(hP p hp).edi) hn _).mono ?_
 rintro r23 w23 ⟨hs23,hL⟩;rw[J]at hL;have ma:=(Step.drew [] h7).trans hs23;refine⟨ma,?_⟩;have hM:=I.ext ma;have hz22:=I.st.size;rcases Qn9 (Zz v aa t)with hr|⟨u,hr⟩
 ·rw[hr]at hL;subst hL;rw[QfK hr]at Y;refine p (λ_=>Qm)<|p (λ_=>Qj O O)<|p (λ_=>Qj O O)<|p (λ_=>Qf)<|p (λ_=>Qf)<|pe ?_;refine Qg<|Qc<|Qb<|x (Zq O)<|xe<|Vx O ?_;refine Qy<|Qx<|QM O O<|Qb<|xe ?_;exact⟨(j+1,E,m4,hg,ga,gb),by simp only[];omega,⟨O,O,Z⟩,hM,hK,hq,ge,gc,by simp only[];omega,⟨hm,h8⟩,Y⟩
 rw[hr]at hL;obtain⟨vx,rfl,g1⟩:=hL;have mc:=Xs hB h6 hr;have mf:u.length=ps.length:=by rw[mc.1,hC]
 have g2:=mc.bd m7;have g5:∀x∈u,0≤x:=λx hx=>(g2 x hx).1;refine p (λ_=>Qm)<|p (λ_=>Qj O O)<|p (λ_=>Qj O O)<|p (λ_=>Qf)<|p (λ_=>Qf)<|pe ?_;refine Qg<|Qc<|Qb<|x (Zq O)<|xe<|ZO O ?_;refine Qi ?_;have gg:=Qt.ints (L:=[]) g1 (by omega) (by simp);have mg:=Qp g1
 refine QX (α:=Unit) [(15,16),(79,85)] (λz=>[(15,.int .i64 (if u∈E.tup then(E.tup.idxOf u:Int)else 0)),(16,.bool (decide (u∈E.tup)))]) (λz w'=>Step [] w23 w') (by rfl) ?_ ?_
 ·refine Qx<|Qb<|Qb<|xl O<|xf<|(jO gg (gj.ext (hX.then hM.st (λb hb=>.inr (by simp at hb;omega)))) g2 (by omega)).mono ?_;rintro r24 w24 ⟨rfl,gh⟩;by_cases hu:u∈E.tup
  ·refine x (yt (k:=K5 u) ((hM.ext gh).M) O O (by rw[hq u mf g5,if_pos hu]))<|Qb<|x (Qj rfl rfl)<|x (Qj rfl rfl)<|x Qf<|Qe ?_;exact⟨(),⟨congrArg (Value.int .i64) (if_pos hu).symm,congrArg Value.bool (decide_eq_true hu).symm,Z⟩,gh⟩
  refine x (QeJ (k:=K5 u) ((hM.ext gh).M) O O (by rw[hq u mf g5,if_neg hu]))<|Qb<|x (Qj rfl rfl)<|x (Qj rfl rfl)<|x Qf<|Qe ?_;exact⟨(),⟨congrArg (Value.int .i64) (if_neg hu).symm,congrArg Value.bool (decide_eq_false hu).symm,Z⟩,gh⟩
 rintro _ g6 w25 g8;have h9:=hM.ext g8;have hx25:=Qs g1 g8;have hxA25:=gg.ext g8;have hadd:∀b∈ob vx,b∉ob ga∧b∉ob hZ∧b∉ob gb:=λb hb=>by
  have h1:=(mg b hb).1;have h1':h7.heap.size≤b:=h1;exact⟨λhb'=>by have:=Q3 I.t b hb';omega,λhb'=>by have:=Q3 I.k b hb';omega,λhb'=>by have:=Q3 I.e b hb';omega⟩
 refine QX (α:=List (ByteArray×Value)×List TV×Value) [(3,4),(15,15),(86,101)] (λz=>[(3,z.2.2),(15,.int .i64 ((Yr E u).tup.idxOf u:Int))])
  (λz w'=>je w1.heap.size H he U ve wS (Yr E u) z.1 z.2.1 z.2.2 hZ gb w'∧(u∈E.tup∨E.tup.length≠4096)∧UE ps.length z.1 (Yr E u).tup∧∃h:i<z.2.1.length,(z.2.1[i]'h).2=t) (by rfl) ?_ ?_
 ·refine Qc<|Qb<|x (Zq O)<|xe<|QY O (λg9=>?_) (λg9=>?_)
  rotate_left
  ·have hu:u∈E.tup:=by simpa using g9
   refine Qi ?_;have e1:Yr E u=E:=by unfold Yr;rw[if_pos hu]
   have e2:(if u∈E.tup then(E.tup.idxOf u:Int)else 0)=((Yr E u).tup.idxOf u:Int):=by rw[e1,if_pos hu]
   refine⟨(m4,hg,ga),⟨O,congrArg (Value.int .i64) e2,Z⟩,?_,.inl hu,?_,hm,h8⟩
   ·rw[e1];exact h9
   rw[e1];exact hq
  have hu:u∉E.tup:=by simpa using g9
  have mh:=QW (L:=[]) h9.t (by omega) (by simp);refine Qg<|Qc<|Qb<|x (Qr mh O)<|x (Zl O O)<|xe<|Q4 O (λh90=>?_) (λh90=>?_)
  ·refine Qc<|x (QN Z)<|xl O<|Qo (us:=[nS,.int .i64 0,nS,nS]) h9.A O O O O ⟨O,O,O,O,Z⟩ λw26 gi hB26=>x Qf<|Qe<|Qk ⟨[zA,Q0,.int .i64 3],⟨⟨_,O,Qw O (hB26.at (L:=[]) (by simp)).cells⟩,rfl,rfl,Z⟩,(hX.then h9.st (λb hb=>.inr (by simp at hb;omega))).then1 gi hA,zA,Q0,3,O,?_⟩;unfold Yk;rw[QfM hr hu (by omega)]at Y;rw[if_neg hv,p6 Y.symm];exact⟨rfl,O,O⟩
  have hl4:E.tup.length≠4096:=by omega
  refine Qi<|Qc<|Qb<|x (Qr mh O)<|Qe<|Qc<|Qb<|Qb<|xl O<|xf<|(jO hxA25 (gj.ext (hX.then h9.st (λb hb=>.inr (by simp at hb;omega)))) g2 (by omega)).mono ?_;rintro r26 w26 ⟨rfl,gi⟩;have mj:=h9.ext gi;refine Qb<|xl O<|YI (k:=K5 u) mj.M O O λw27 mo hm27=>xe ?_;have hI8:=mj.setM hF mo hm27
  have hx27:=Ql (Qs hx25 gi) mo (λb hb=>by have:=(mg b hb).1;have h1':h7.heap.size≤b:=this;simp;omega);refine Qx<|Qb<|Qb<|xl O<|QF (us:=[[vx]]) O O (by decide) (by simp) ⟨gg.cells,rfl,Z⟩ λb100 w28 mq hb100 hB100=>?_;have ka:=hI8.ext mq
  refine xl O<|Q5 (news:=[vx]) (L:=[]) ka.t O O O (hB100.at (by simp)) (λy hy=>by simp only[List.mem_singleton]at hy;subst hy;exact gg.one) (by omega) (by have:=ka.st.size;have:=hF.nS;omega) λmt w29 ho29 hs29 hn29=>Qe ?_;have hk29:QcT 39 w1.heap.size w29 mt (hg++[(vx,u)]):=QcT.snoc ho29
  have hIA:=ka.setT hF (u:=u) (Zc (Qs hx27 mq) (by show wS.heap.size≤h7.heap.size;omega)) hadd hs29 hk29 hn29;have e1:Yr E u=⟨E.tup++[u],E.mk',E.ed⟩:=by unfold Yr;rw[if_neg hu]
  have e2:(hg.length:Int)=((Yr E u).tup.idxOf u:Int):=by
   rw[e1];simp only[];rw[Mm,if_neg hu,←k7];simp
  refine⟨(mput m4 (K5 u) (.int .i64 (hg.length:Int)),hg++[(vx,u)],mt),⟨O,congrArg (Value.int .i64) e2,Z⟩,?_,.inr hl4,?_,by simp;omega,?_⟩
  ·rw[e1];exact hIA
  ·rw[e1];simp only[];rw[k7];exact hq.add hu g5
  simp only[];rw[LX hm];exact h8
 rintro⟨m5,qs5,vt5⟩ g7 w30 ⟨kb,hlim,mu,mv,mw⟩;simp only[]at kb mu mv mw;have hed5:(Yr E u).ed.length≤i*1000+j:=by rw[QfO];exact k6
 have mx:=QiR (aa:=aa) (i:=i) (s:=E) hr hlim;have hsk5:=QfL hB hK h6 mx;rw[mx]at Y;refine Qx<|x (Qa O)<|x (Qd kb.A O O)<|Qb<|Qb<|Qb<|x (QN ⟨O,O,O,Z⟩)<|xl O<|QF (us:=[QD ((i:Int),v,((Yr E u).tup.idxOf u:Int))]) O O (by decide) (by exact(by decide:1*3≤1000000)) ⟨O,O,Z⟩ λb108 w31 hs31 hb108 hB108=>?_;have hN:=kb.ext hs31
 refine xl O<|Q5 (news:=QD ((i:Int),v,((Yr E u).tup.idxOf u:Int))) (L:=[]) hN.e O O O (hB108.at (by simp)) (λy hy=>by simp only[QD,List.mem_cons,List.not_mem_nil,or_false]at hy;rcases hy with rfl|rfl|rfl <;> rfl) (by omega) hN.st.size λmy w32 ho32 mz hn32=>?_
 have m0:Z2 129 wS.heap.size w32 my ((Yr E u).ed++[((i:Int),v,((Yr E u).tup.idxOf u:Int))]):=Z2.snoc ho32;refine x (Qa O)<|xl O<|QB (hN.A.step mz (QR hN.e (by omega))) O O (by simp) (Z2.eds (L:=[]) m0 (by simp;omega) (by simp)).one λw33 hs33 hB33=>xe ?_;have hI12:=hN.setE hF mz m0 hn32 hs33 hB33;refine Qx<|QM O O<|Qb<|xe ?_
 refine⟨(j+1,_,m5,qs5,vt5,my),by simp only[];omega,⟨O,O,Z⟩,hI12,hsk5,mu,ge,?_,?_,⟨mv,mw⟩,Y⟩
 ·simp only[];rw[QfN];exact gc
 simp only[List.length_append,List.length_singleton];omega
structure VE where
 en:LI
 dis:LI
 mk':Bool
 ps:Bool
def Ql7:VE:=⟨[],[],false,false⟩
def Qlf (l:LI)(v:Int):LI:=mrg (· || ·) l [v]
def Qog (p s:QO)(x y:Int)(c:VE)(v:Int):VE :=
 match eget p.ed x v with
 | none=>c
 | some _=>match eget s.ed y v with
  | some _=>⟨Qlf c.en v,c.dis,c.mk',c.ps⟩
  | none=>⟨c.en,Qlf c.dis v,c.mk',c.ps⟩
def Qoh (p s:QO)(x y:Int)(c:VE):VE:=⟨c.en,c.dis,decide (y∈s.mr),c.ps || decide (x∈p.mr)⟩
def Qof (p s:QO)(x y:Int)(c:VE):VE:=s.al.foldl (Qog p s x y) (Qoh p s x y c)
def px (q:LI):Int:=q.getD 0 0
def py (q:LI):Int:=q.getD 1 0
def Qoe (p s:QO)(l:List VE)(q:LI):List VE:=l.set (py q).toNat (Qof p s (px q) (py q) (l.getD (py q).toNat Ql7))
def ctls (p s:QO)(pairs:List (LI)):List VE:=pairs.foldl (Qoe p s) (List.replicate s.st.toNat Ql7)
def occs (n:Nat)(pairs:List (LI)):List Bool:=pairs.foldl (λo q=>o.set (py q).toNat true) (List.replicate n false)
def meets (a b:LI):LI:=mrg (· && ·) a b
def Qnn (a b:VE):Bool:=decide ((meets a.en b.dis).length+(meets b.en a.dis).length=0) && (!a.ps || !b.ps || a.mk' == b.mk')
def cget (l:LI)(i:Nat):Int:=l.getD i 0
def QgI (cl:LI)(x y:Nat):LI:=cl.map λc=>if c=cget cl y then cget cl x else c
def lget (l:List VE)(i:Nat):VE:=l.getD i Ql7
def to0 (s:QO)(x:Nat)(v:Int):Int:=match eget s.ed x v with|some u=>u|none=>0
def clE (s:QO)(x y:Nat)(z:LI×Bool)(v:Int):LI×Bool :=
 if cget z.1 (to0 s x v).toNat≠cget z.1 (to0 s y v).toNat then(QgI z.1 (to0 s x v).toNat (to0 s y v).toNat,true)else z
def clY (s:QO)(l:List VE)(x:Nat)(z:LI×Bool)(y:Nat):LI×Bool :=
 if cget z.1 x<0∨cget z.1 x≠cget z.1 y then z else(meets (lget l x).en (lget l y).en).foldl (clE s x y) z
def clX (s:QO)(l:List VE)(n:Nat)(z:LI×Bool)(x:Nat):LI×Bool:=(List.range' (x+1) (n - (x+1))).foldl (clY s l x) z
def pass (s:QO)(l:List VE)(cl:LI):LI×Bool:=(List.range' 0 cl.length).foldl (clX s l cl.length) (cl,false)
def QhL (s:QO)(l:List VE):Nat→LI→LI
 | 0,cl=>cl
 | f+1,cl=>if(pass s l cl).2=true then QhL s l f (pass s l cl).1 else(pass s l cl).1
def Qkj (l:List VE)(cl:LI):Bool :=
 (List.range' 0 cl.length).all λx=>(List.range' 0 x).all λy=>!(decide (0≤cget cl x∧cget cl x=cget cl y) && !Qnn (lget l x) (lget l y))
def QnX (s:QO)(l:List VE)(cl:LI)(x y:Nat):LI :=
 if cget cl x<0∨cget cl y<0∨cget cl x=cget cl y then cl else
  let d:=QhL s l (cl.length*cl.length+1) (QgI cl x y)
  if Qkj l d=true then d else cl
def QnW (s:QO)(l:List VE)(n:Nat)(cl:LI)(x:Nat):LI:=(List.range' (x+1) (n - (x+1))).foldl (λc y=>QnX s l c x y) cl
def Qok (o:List Bool):LI:=(List.range' 0 o.length).map λi=>if o.getD i false=true then(i:Int)else -1
def Qoj (s:QO)(l:List VE)(cl:LI):LI:=(List.range' 0 cl.length).foldl (QnW s l cl.length) cl
def Qob (z:LI×LI)(c:Int):LI×LI :=
 if c∈z.1 then(z.1,z.2++[(z.1.idxOf c:Int) - 1])else(z.1++[c],z.2++[(z.1.length:Int) - 1])
def nums (cl:LI):LI:=(cl.foldl Qob ([-1],[])).2
def Qnq (p s:QO)(pairs:List (LI)):LI:=nums (Qoj s (ctls p s pairs) (Qok (occs s.st.toNat pairs)))
theorem Kw {α:Type}(g:α→LV)(sz:Nat)(E:∀x,(g x).length=sz):∀(l:List α) (i j:Nat) (h:i<l.length) (y:α) (u:Value),j<sz→g y=(g l[i]).set j u →
  (l.flatMap g).set (i*sz+j) u=(l.set i y).flatMap g
 | x::l,0,j,h,y,u,hj,hy=>by
  simp only[List.getElem_cons_zero]at hy;simp only[Nat.zero_mul,Nat.zero_add,List.flatMap_cons,List.set_cons_zero];rw[List.set_append_left _ _ (by rw[E];exact hj),hy]
 | x::l,i+1,j,h,y,u,hj,hy=>by
  simp only[List.getElem_cons_succ]at hy;simp only[List.flatMap_cons,List.set_cons_succ];rw[List.set_append_right _ _ (by rw[E,Mk];omega),E,show(i+1)*sz+j - sz=i*sz+j by rw[Mk];omega,Kw g sz E l i j (by simpa using h) y u hj hy]
end Go.Proofs.YtjcgijbhaemldaaGreatDoor
namespace Go.Lg
section
variable {P:Program}{n:Nat}{f:Fr}{w:World}{all:List Oper}{C:World→Prop}{K:Fr→World→Prop}
def q8 (all:Array Oper)(i j:Nat)(p1 p2:List (Nat×Bool)):List (Nat×Bool)→Array Bool→Bool
 | [],ls=>Region.ready .any all ls == [i,j] && YQ all p1 (ls.setIfInBounds i true) && YQ all p2 (ls.setIfInBounds j true)
 | (k,q)::pl,ls=>q && (Region.ready .any all ls).contains k && Region.free .any all ls k && q8 all i j p1 p2 pl (ls.setIfInBounds k true)
def Qha (all:List Oper)(pl:List (Nat×Bool))(i j:Nat)(p1 p2:List (Nat×Bool)):Bool :=
 Region.noSelect all.toArray && pl.length+1+p1.length == all.length && p1.length == p2.length && q8 all.toArray i j p1 p2 pl (Array.replicate all.length false)
def Fk (P:Program)(all:List Oper)(C:World→Prop)(K:Fr→World→Prop)(i j:Nat)(p1 p2:List (Nat×Bool))(f:Fr)(w:World):Prop :=
 (Z6 all f (QL all i)=true∧XO P (QL all i) f w λE w'=>C w'∧XP P all C K p1 E w') ∧
 (Z6 all f (QL all j)=true∧XO P (QL all j) f w λE w'=>C w'∧XP P all C K p2 E w')
theorem Vw {i j:Nat}{p1 p2:List (Nat×Bool)}(hl:p1.length=p2.length)(hs:Region.noSelect all.toArray=true):∀(pl:List (Nat×Bool)) (ls:Array Bool) (f:Fr) (w:World),ls.size=all.length→C w→q8 all.toArray i j p1 p2 pl ls=true →
  XP P all C (Fk P all C K i j p1 p2) pl f w→XA P all C K (pl.length+(1+p1.length)) ls f w
 | [],ls,f,w,T,hC,hp,h=>by
  simp only[q8,Bool.and_eq_true,beq_iff_eq]at hp;obtain⟨⟨G,h1⟩,h2⟩:=hp;simp only[XP]at h;rw[List.length_nil,LO,MJ];refine YP (λh0=>(by rw[h0]at G;cases G)) ?_;rw[G];intro k hk o E;have H:(ls.setIfInBounds k true).size=all.length:=by simpa using T
  simp only[List.mem_cons,List.not_mem_nil,or_false]at hk;rcases hk with rfl|rfl
  ·have:=h.1;rw[Zd E]at this;rw[this.1,cond_true];exact this.2.mono λv w' hx=>⟨.inr (.inr hx.1),Zy hs p1 _ _ _ H (.inl hx.1) h1 hx.2⟩
  have:=h.2;rw[Zd E]at this;rw[this.1,cond_true,hl];exact this.2.mono λv w' hx=>⟨.inr (.inr hx.1),Zy hs p2 _ _ _ H (.inl hx.1) h2 hx.2⟩
 | (I,q)::pl,ls,f,w,T,hC,hp,h=>by
  simp only[q8,Bool.and_eq_true]at hp;obtain⟨⟨⟨rfl,G⟩,hf⟩,V⟩:=hp;simp only[XP]at h;have U:I∈Region.ready .any all.toArray ls:=by simpa using G
  have e:(List.length ((I,true)::pl))+(1+p1.length)=(pl.length+(1+p1.length))+1:=by simp;omega
  rw[e];cases E:all[I]? with
  | none =>
   exfalso;obtain⟨_,o,hb,_⟩:=mem_ready.1 U;simp[E]at hb
  | some o =>
   rw[Zd E]at h;have Y:∀(j:Nat) (o:Oper) cs b,all[j]?=some o→o.op≠.select cs b:=λj o cs b hj=>Region.noSelect_spec hs j o cs b (by simpa using hj);have ha:=λj oj hj=>Region.free_spec (ops:=all.toArray) (md:=.any) (i:=I) (oi:=o) (listed:=ls) (by simpa using E) hf j oj (by simpa using hj);have H:(ls.setIfInBounds I true).size=all.length:=by simpa using T
   cases J:Z6 all f o with
   | false =>
    rw[J]at h;exact Xx (v:=undef) (D:=λw=>zT o=true→C w) E (λ_ h=>h) Y _ ls f w (λ_=>hC) ha U (.inr ⟨J,O⟩) (Vw hl hs pl _ _ _ H hC V h)
   | true =>
    rw[J]at h;simp only[cond_true]at h;obtain⟨v,hv,hx⟩:=h;exact Xx (v:=v) (D:=λw=>zT o=true→C w) E (λ_ h=>h) Y _ ls f w (λ_=>hC) ha U (.inl ⟨J,hv⟩) (Vw hl hs pl _ _ _ H hC V hx)
theorem QkE {Q:Exit→Fr→World→Prop}{id:Nat}(C:World→Prop)(pl:List (Nat×Bool))(i j:Nat)(p1 p2:List (Nat×Bool))(hm:P.follows .mixedOrders=true)(E:Xb n all=true)(hp:Qha all pl i j p1 p2=true)
  (hC:C { w with drawn:=w.drawn+1 }) (h:XP P all C (Fk P all C (λf w=>Q .normal f w) i j p1 p2) pl f { w with drawn:=w.drawn+1 }):W P n (.region id all.toArray true) Q f w:=by
 simp only[Qha,Bool.and_eq_true,beq_iff_eq]at hp;obtain⟨⟨⟨hs,hl⟩,G⟩,hp⟩:=hp;refine YW C hm E ?_;have h1:=Vw G hs pl _ _ _ (by simp) hC hp h;rw[←Nat.add_assoc,hl]at h1;exact h1
end
end Go.Lg
namespace Go.Proofs.YtjcgijbhaemldaaGreatDoor
open Go.Lg
end Go.Proofs.YtjcgijbhaemldaaGreatDoor
namespace Go.Lg
open Go.Proofs.YtjcgijbhaemldaaGreatDoor
theorem Zm {l:LI}{i:Nat}(h:i<l.length):l[i]=cget l i:=by simp[cget,List.getD,h]
section
variable {P:Program}{ops l:List Oper}{K:Fr→World→Prop}{f:Fr}{w:World}{d:Option Nat}{ty:Nat}{ps:String}{af:Array Edge}{gd:Option (Nat×Bool)}{C:World→Prop}{pl:List (Nat×Bool)}{i0:Nat}
theorem xic {x y:Operand}{t e bys:Nat}{z:Value}[Sl P t e 1 bys z]{L:LN}{li:LI}{v:Value}{k:IntKind}{i:Nat}
  (h:QH L w.heap v li) (E:ev f x=v) (hy:ev f y=.int k i) (hi:i<li.length)
  (G:∀a,At L w.heap a [.int .i64 (cget li i)]→XL P ops K l (QZ f d (.pointer (some a))) w) (H:Z6 ops f ⟨d,.indexAddr t x y,ty,ps,af,gd⟩=true:=by rfl):
  XL P ops K (⟨d,.indexAddr t x y,ty,ps,af,gd⟩::l) f w :=
 xii h E hy hi (λa ha=>G a (by rw[←Zm hi];exact ha)) H
theorem pic {x y:Operand}{t e bys:Nat}{z:Value}[Sl P t e 1 bys z]{L:LN}{li:LI}{v:Value}{H:Array Obj}{k:IntKind}{i:Nat}
  (E:QL ops i0=⟨d,.indexAddr t x y,ty,ps,af,gd⟩) (h:QH L H v li) (G:ev f x=v) (hy:ev f y=.int k i) (hi:i<li.length)
  (I:∀a,At L H a [.int .i64 (cget li i)]→XP P ops C K pl (QZ f d (.pointer (some a))) w) (J:Z6 ops f (QL ops i0)=true:=by rfl):XP P ops C K ((i0,true)::pl) f w :=
 pii E h G hy hi (λa ha=>I a (by rw[←Zm hi];exact ha)) J
theorem yx {t:Nat}[h1:Xy P t]{x y:Operand}{base e g cap i:Nat}{li:LI}{v:Value}{u:Int}(h:Qt e base w v li)(E:v=.slice (some ⟨g,0,none⟩) li.length cap)(hx:ev f x=.pointer (some ⟨g,0+i*1,none⟩))(hy:ev f y=.int .i64 u)(hi:i<li.length)
  (G:∀w',Step (ob v) w w'→Qt e base w' v (li.set i u)→K (QZ f d undef) w'):XO P ⟨d,.store t x y,ty,ps,af,gd⟩ f w K:=by
 have h':=h;unfold Qt at h';rw[E]at h';refine QaR h' hx hy hi O λw' hs H=>G w' (by rw[E];exact hs) ?_;unfold Qt;rw[MD,NC,E];exact H
end
theorem Qf6 {a n:Nat}(h:a<n):List.range' a (n - a)=a::List.range' (a+1) (n - (a+1)):=by
 rw[show n - a=(n - (a+1))+1 by omega,Ng]
theorem Qi9 {a n:Nat}(h:n≤a):List.range' a (n - a)=[]:=by rw[show n - a=0 by omega];rfl
end Go.Lg
namespace Go.Proofs.YtjcgijbhaemldaaGreatDoor
open Go.Lg
end Go.Proofs.YtjcgijbhaemldaaGreatDoor
namespace Go.Lg
section
variable {P:Program}{f:Fr}{w:World}{d:Option Nat}{ty:Nat}{ps:String}{af:Array Edge}{gd:Option (Nat×Bool)}{κ:Type}[DecidableEq κ]
end
end Go.Lg
namespace Go.Proofs.YtjcgijbhaemldaaGreatDoor
open Go.Lg
theorem Qdc {aa:List QO}{i:Nat}{t:LI}(G:∀a∈aa,Q2 a)(ht:Vt aa t):∀(vs:LI) (s E:Sy),UC aa s→Vi aa i t vs s=some E→UC aa E
 | [],s,E,h,e=>by cases e;exact h
 | v::vs,s,E,h,e=>by
  rw[Vi]at e;obtain⟨H,h1,h2⟩:=Mg.1 e;exact Qdc G ht vs H E (QfL G h ht h1) h2
theorem QfF {aa:List QO}(G:∀a∈aa,Q2 a):∀(f i:Nat) (s E:Sy),UC aa s→syL aa f i s=some E→UC aa E
 | 0,i,s,E,h,e=>by cases e;exact h
 | f+1,i,s,E,h,e=>by
  rw[syL]at e;split at e
  ·rename_i hi;obtain⟨H,h1,h2⟩:=Mg.1 e;have I:Vt aa (UG s i):=h.v _ (by unfold UG;simp[List.getD,hi]);exact QfF G f _ H E (Qdc G I _ _ _ (yh h) h1) h2
  cases e;exact h
theorem Qli {aa:List QO}(E:∀a∈aa,Q2 a)(G:¬∃a∈aa,a.st=0):UC aa (UT aa):=by
 refine⟨λt ht=>?_,by simp[UT]⟩;simp only[UT,List.mem_singleton]at ht;subst ht;refine⟨by simp,λi h1 h2=>?_⟩;have h3:=(E aa[i] (Li h2)).st0;have h4:aa[i].st≠0:=λe=>G ⟨aa[i],Li h2,e⟩;simp only[List.getElem_replicate];omega
theorem jl {aa:List QO}(E:∀a∈aa,Q2 a){z:QO×List (LI)}(h:sync aa=some z):(∀t∈z.2,Vt aa t)∧z.2.length≤4096:=by
 unfold sync at h;split at h
 ·cases h;simp
 rename_i G;obtain⟨s,h1,rfl⟩:=MK.1 h;have:=QfF E _ _ _ _ (Qli E G) h1;exact⟨this.v,this.le⟩
def opC (p s:QO):Int:=if Xq p≠0 then Xq p else if Xq s≠0 then Xq s else if mrg (λp q=>p && !q) s.al p.al=[]then 0 else 9
def opE (p s:QO):Int:=if opC p s≠0 then opC p s else match sync [p,s]with|none=>3|some _=>0
def opQ (p s:QO):List (LI):=match sync [p,s]with|none=>[]|some z=>z.2
def Qnb (l:LI):Int:=(l.drop 1).foldl max (cget l 0)
theorem Yl {N b:Nat}{w w':World}{v:Value}{a:QO}(h:Y2 N w.heap v a)(hb:b<N)(hs:Step [b] w w'):Y2 N w'.heap v a:=by
 obtain⟨va,vm,ve,h1,h2⟩:=h;refine⟨va,vm,ve,h1,λL E=>?_⟩;exact((h2 (b::L) (λc hc=>by rcases Lc.1 hc with rfl|hc;exact hb;exact E c hc)).st (hs.mono (by simp))).up (λc hc=>.inl (Lk _ hc))
theorem Qib {N b:Nat}{w w':World}{v:Value}{l:List (LI)}(h:QcU N w.heap v l)(hb:b<N)(hs:Step [b] w w'):QcU N w'.heap v l:=by
 obtain⟨ps,h1,h2⟩:=h;refine⟨ps,h1,λL E=>?_⟩;exact((h2 (b::L) (λc hc=>by rcases Lc.1 hc with rfl|hc;exact hb;exact E c hc)).st (hs.mono (by simp))).up (λc hc=>.inl (Lk _ hc))
theorem Xk {N:Nat}{H:Array Obj}{v:Value}{a:QO}(h:Y2 N H v a):∃us,v=.agg us.toArray∧us.length=4∧ZH us:=by
 obtain⟨va,vm,ve,h1,h2⟩:=h;have:=h2 [] (by simp);exact⟨[va,.int .i64 a.st,vm,ve],h1,O,this.al.one,O,this.mr.one,this.ed.one,Z⟩
def gget:List ((Int×Int)×Int)→Int×Int→Option Int
 | [],_=>none
 | (k',v)::m,k=>if k'=k then some v else gget m k
def gput:List ((Int×Int)×Int)→Int×Int→Int→List ((Int×Int)×Int)
 | [],k,v=>[(k,v)]
 | (k',v')::m,k,v=>if k'=k then(k',v)::m else(k',v')::gput m k v
def Qn2 (s:QO)(cls:LI)(x:Nat)(m:List ((Int×Int)×Int))(v:Int):List ((Int×Int)×Int):=gput m (cget cls x,v) (cget cls (to0 s x v).toNat)
def QnZ (s:QO)(l:List VE)(cls:LI)(z:LI×List ((Int×Int)×Int))(x:Nat):LI×List ((Int×Int)×Int):=
 if cget cls x<0 then z else(if((lget l x).mk' && (lget l x).ps)=true then Qlf z.1 (cget cls x)else z.1,(lget l x).en.foldl (Qn2 s cls x) z.2)
def Qm0 (s:QO)(l:List VE)(cls:LI):LI×List ((Int×Int)×Int):=(List.range' 0 cls.length).foldl (QnZ s l cls) ([],[])
def Qn1 (m:List ((Int×Int)×Int))(c:Nat)(v:Int):Option Ed:=(gget m ((c:Int),v)).map λt=>((c:Int),v,t)
def Qn0 (m:List ((Int×Int)×Int))(al:LI)(n:Nat):List Ed:=(List.range' 0 n).flatMap λc=>al.filterMap (Qn1 m c)
def Qn3 (s:QO)(l:List VE)(cls:LI):QO:=⟨s.al,Qnb cls+1,(Qm0 s l cls).1,Qn0 (Qm0 s l cls).2 s.al (Qnb cls+1).toNat⟩
def red (p s:QO):QO:=Qn3 s (ctls p s (opQ p s)) (Qnq p s (opQ p s))
def rdE (p s:QO):Int:=if opE p s≠0 then opE p s else if opQ p s=[]then 0 else Xq (red p s)
theorem X4 {l:LI}{i:Nat}(h:i<l.length):cget l i∈l:=by rw[←Zm h];exact Li h
theorem Zb {α:Type}(a:α){Q:Prop}(h:∀b,a=b→Q):Q:=h a O
theorem exN {a:Int}(E:0≤a){Q:Prop}(h:∀u:Nat,a=u→Q):Q:=h a.toNat (Int.toNat_of_nonneg E).symm
open Go.Proofs.Tryz
theorem Ui {L L':LN}{w:World}{v v':Value}{l l':LI}(h:QH L w.heap v l)(h':QH L' w.heap v' l'):
  QE prog 28 [v,v'] w λr w'=>r=.bool (decide (l=l'))∧Step [] w w':=by
 refine QE.of_W func28 O ntmps28 results28 (by simp) ?_;refine Qc<|Qe<|Qc<|Qb<|Qb<|xl O<|xf<|(KU h h').mono ?_;rintro G H ⟨rfl,E⟩;refine Qe ?_;exact Qk ⟨[.bool (decide (l=l'))],La,O,E⟩
end Go.Proofs.YtjcgijbhaemldaaGreatDoor
namespace Go.Lg
section
variable {P:Program}{n:Nat}{f:Fr}{w:World}{d:Option Nat}{ty:Nat}{ps:String}{af:Array Edge}{gd:Option (Nat×Bool)}
class Ay (P:Program)(t:Nat)(m e sz:outParam Nat):Prop where
 u:P.underlying t=some (.array m e)
 i:(P.info? e).map (·.size)=some sz
theorem Zw {x y:Operand}{t m e sz:Nat}[h:Ay P t m e sz]{b o:Nat}{k:IntKind}{i:Nat}(hx:ev f x=.pointer (some ⟨b,o,none⟩))(hy:ev f y=.int k i)(h1:i<m):
  (execOp (ev f) ⟨d,.indexAddr t x y,ty,ps,af,gd⟩).run P w=.ok (.value (.pointer (some ⟨b,o+i*sz,none⟩))) w:=by
 have hi:=h.i;cases E:P.info? e with
 | none=>simp[E]at hi
 | some ii =>
  simp[E]at hi;simp[execOp,hx,hy,Instr.indexAt,asIntOf,run_underlying h.u,Instr.sureAddr,sizeOf,typeInfo,E,hi,Yu];intro h2;omega
theorem Qkz {a b:Nat}(ha:a<256):inK .u8 ((a &&& b:Nat):Int):=by
 have:a &&& b≤a:=Nat.and_le_left;exact⟨by omega,by omega⟩
theorem Vl {t E:Nat}{x y:Operand}{a b:Nat}(hx:ev f x=.int .u8 a)(hy:ev f y=.int .u8 b)(ha:a<256)(hb:b<256):
  (execOp (ev f) ⟨d,.binOp .and t x y E,ty,ps,af,gd⟩).run P w=.ok (.value (.int .u8 ((a &&& b:Nat):Int))) w:=by
 refine Xu hx hy ?_;simp only[binOp,Op.intBits,BitVec.ofInt_natCast,ne_eq,not_true_eq_false,if_false,Sem.run_pure];rw[BitVec.toNat_and,BitVec.toNat_ofNat,BitVec.toNat_ofNat,Ms (show a<2 ^ IntKind.u8.bits from ha),Ms (show b<2 ^ IntKind.u8.bits from hb),Xl (Qkz ha)]
theorem VJ (m i:Nat):((m:Int) / 2 ^ i)=((m / 2 ^ i:Nat):Int):=by rw[Int.natCast_ediv,Int.natCast_pow];rfl
end
inductive Pt where
 | pl (l:List (Nat×Bool))
 | fk (pre:List (Nat×Bool)) (i j:Nat) (t1 t2:Pt)
def Pt.len:Pt→Nat
 | .pl l=>l.length
 | .fk pre _ _ t1 _=>pre.length+(1+t1.len)
def Xn (all:Array Oper):List (Nat×Bool)→Array Bool→Bool
 | [],_=>true
 | (k,q)::pl,ls=>q && (Region.ready .any all ls).contains k && Region.free .any all ls k && Xn all pl (ls.setIfInBounds k true)
def Zt:List (Nat×Bool)→Array Bool→Array Bool
 | [],ls=>ls
 | (k,_)::pl,ls=>Zt pl (ls.setIfInBounds k true)
def Qgl (all:Array Oper):Pt→Array Bool→Bool
 | .pl l,ls=>YQ all l ls
 | .fk pre i j t1 t2,ls=>Xn all pre ls && Region.ready .any all (Zt pre ls) == [i,j] && t1.len == t2.len && Qgl all t1 ((Zt pre ls).setIfInBounds i true) && Qgl all t2 ((Zt pre ls).setIfInBounds j true)
def XT (P:Program)(all:List Oper)(C:World→Prop)(K:Fr→World→Prop):Pt→Fr→World→Prop
 | .pl l=>XP P all C K l
 | .fk pre i j t1 t2=>XP P all C (λf w=>(Z6 all f (QL all i)=true∧XO P (QL all i) f w λE w'=>C w'∧XT P all C K t1 E w') ∧
   (Z6 all f (QL all j)=true∧XO P (QL all j) f w λE w'=>C w'∧XT P all C K t2 E w')) pre
section
variable {P:Program}{n:Nat}{f:Fr}{w:World}{all:List Oper}{C:World→Prop}{K B:Fr→World→Prop}
theorem ZK:∀(pl:List (Nat×Bool)) (ls:Array Bool),(Zt pl ls).size=ls.size
 | [],_=>rfl
 | (k,q)::pl,ls=>by rw[Zt,ZK];simp
theorem ZM {m:Nat}(hs:Region.noSelect all.toArray=true):∀(pl:List (Nat×Bool)) (ls:Array Bool) (f:Fr) (w:World),C w→Xn all.toArray pl ls=true →
  (∀f,B f w→XA P all C K m (Zt pl ls) f w)→XP P all C B pl f w→XA P all C K (pl.length+m) ls f w
 | [],ls,f,w,hC,hp,G,h=>by
  simp only[XP]at h;rw[List.length_nil,LO];exact G f h
 | (H,q)::pl,ls,f,w,hC,hp,G,h=>by
  simp only[Xn,Bool.and_eq_true]at hp;obtain⟨⟨⟨rfl,Y⟩,hf⟩,T⟩:=hp;simp only[XP]at h;have J:H∈Region.ready .any all.toArray ls:=by simpa using Y
  have e:(List.length ((H,true)::pl))+m=(pl.length+m)+1:=by simp;omega
  rw[e];cases E:all[H]? with
  | none =>
   exfalso;obtain⟨_,o,ha,_⟩:=mem_ready.1 J;simp[E]at ha
  | some o =>
   rw[Zd E]at h;have U:∀(j:Nat) (o:Oper) cs b,all[j]?=some o→o.op≠.select cs b:=λj o cs b hj=>Region.noSelect_spec hs j o cs b (by simpa using hj);have V:=λj oj hj=>Region.free_spec (ops:=all.toArray) (md:=.any) (i:=H) (oi:=o) (listed:=ls) (by simpa using E) hf j oj (by simpa using hj);cases I:Z6 all f o with
   | false =>
    rw[I]at h;exact Xx (v:=undef) (D:=λw=>zT o=true→C w) E (λ_ h=>h) U _ ls f w (λ_=>hC) V J (.inr ⟨I,O⟩) (ZM hs pl _ _ _ hC T G h)
   | true =>
    rw[I]at h;simp only[cond_true]at h;obtain⟨v,hv,hx⟩:=h;exact Xx (v:=v) (D:=λw=>zT o=true→C w) E (λ_ h=>h) U _ ls f w (λ_=>hC) V J (.inl ⟨I,hv⟩) (ZM hs pl _ _ _ hC T G hx)
theorem Vv (hs:Region.noSelect all.toArray=true):∀(t:Pt) (ls:Array Bool) (f:Fr) (w:World),ls.size=all.length→C w→Qgl all.toArray t ls=true→XT P all C K t f w→XA P all C K t.len ls f w
 | .pl l,ls,f,w,E,hC,hp,h=>Zy hs l ls f w E (.inl hC) hp h
 | .fk pre i j t1 t2,ls,f,w,E,hC,hp,h=>by
  simp only[Qgl,Bool.and_eq_true,beq_iff_eq]at hp;obtain⟨⟨⟨⟨hq,G⟩,hl⟩,h1⟩,h2⟩:=hp;rw[Pt.len];refine ZM (B:=λf w=>(Z6 all f (QL all i)=true∧XO P (QL all i) f w λH w'=>C w'∧XT P all C K t1 H w') ∧
   (Z6 all f (QL all j)=true∧XO P (QL all j) f w λH w'=>C w'∧XT P all C K t2 H w')) hs pre ls f w hC hq (λf I=>?_) h
  have J:∀k,((Zt pre ls).setIfInBounds k true).size=all.length:=λk=>by simp[ZK,E]
  rw[MJ 1];refine YP (λU=>(by rw[U]at G;cases G)) ?_;rw[G];intro k hk o T;simp only[List.mem_cons,List.not_mem_nil,or_false]at hk;rcases hk with rfl|rfl
  ·have:=I.1;rw[Zd T]at this;rw[this.1,cond_true];exact this.2.mono λv w' hx=>⟨.inr (.inr hx.1),Vv hs t1 _ _ _ (J _) hx.1 h1 hx.2⟩
  have:=I.2;rw[Zd T]at this;rw[this.1,cond_true,hl];exact this.2.mono λv w' hx=>⟨.inr (.inr hx.1),Vv hs t2 _ _ _ (J _) hx.1 h2 hx.2⟩
end
end Go.Lg
namespace Go.Proofs.YtjcgijbhaemldaaGreatDoor
open Go.Lg
theorem Yn.lt_of {a:Int}{l:LI}(h:Yn (a::l)){x:Int}(hx:x∈l):a<x:=(LW.1 h).1 x hx
theorem Yn.tail {a:Int}{l:LI}(h:Yn (a::l)):Yn l:=(LW.1 h).2
theorem Qjr (keep:Bool→Bool→Bool):∀(n:Nat) (a b:LI),a.length+b.length≤n→Yn a→Yn b→∀x,x∈mrg keep a b↔(x∈a∨x∈b)∧keep (decide (x∈a)) (decide (x∈b))=true:=by
 intro n;induction n with
 | zero =>
  intro a b h _ _ x;have ha:a=[]:=Lr (by omega);have hb:b=[]:=Lr (by omega);subst ha hb;simp[JO]
 | succ n ih =>
  intro a b E ia ib x;cases a with
  | nil =>
   cases b with
   | nil=>simp[JO]
   | cons y b =>
    rw[JA keep (by simp)];have:=ih [] b (by simp at E ⊢;omega) ia ib.tail x;have hy:y∉b:=λh=>by have:=ib.lt_of h;omega
    simp only[XK,tl,hx,cond_true,cond_false,List.tail_cons,List.headD_cons,List.mem_append];rw[this];by_cases e:x=y
    ·subst e;cases hk:keep false true <;> simp[hk,hy]
    cases keep false true <;> simp[e]
  | cons u a =>
   cases b with
   | nil =>
    rw[JA keep (by simp)];have:=ih a [] (by simp at E ⊢;omega) ia.tail ib x;have hy:u∉a:=λh=>by have:=ia.lt_of h;omega
    simp only[XK,tl,hx,cond_true,cond_false,List.tail_cons,List.headD_cons,List.mem_append];rw[this];by_cases e:x=u
    ·subst e;cases hk:keep true false <;> simp[hk,hy]
    cases keep true false <;> simp[e]
   | cons y b =>
    rw[JA keep (by simp)];have hu:u∉a:=λh=>by have:=ia.lt_of h;omega
    have hy:y∉b:=λh=>by have:=ib.lt_of h;omega
    rcases Int.lt_trichotomy u y with h1|h1|h1
    ·have G:u∉y::b:=λh=>by
      rcases Lc.1 h with h|h
      ·omega
      have:=ib.lt_of h;omega
     have:=ih a (y::b) (by simp at E ⊢;omega) ia.tail ib x;have e1:decide (u≤y)=true:=decide_eq_true (by omega);have e2:decide (y≤u)=false:=decide_eq_false (by omega);simp only[XK,tl,hx,e1,e2,cond_true,cond_false,List.tail_cons,List.headD_cons,List.mem_append];rw[this];by_cases e:x=u
     ·subst e;cases hk:keep true false <;> simp[hk,hu,G]
     cases keep true false <;> simp[e]
    ·subst h1;have:=ih a b (by simp at E ⊢;omega) ia.tail ib.tail x;have e1:decide (u≤u)=true:=decide_eq_true (by omega);simp only[XK,tl,hx,e1,cond_true,List.tail_cons,List.headD_cons,List.mem_append];rw[this];by_cases e:x=u
     ·subst e;cases hk:keep true true <;> simp[hk,hu,hy]
     cases keep true true <;> simp[e]
    have G:y∉u::a:=λh=>by
     rcases Lc.1 h with h|h
     ·omega
     have:=ia.lt_of h;omega
    have:=ih (u::a) b (by simp at E ⊢;omega) ia ib.tail x;have e1:decide (u≤y)=false:=decide_eq_false (by omega);have e2:decide (y≤u)=true:=decide_eq_true (by omega);simp only[XK,tl,hx,e1,e2,cond_true,cond_false,List.tail_cons,List.headD_cons,List.mem_append];rw[this];by_cases e:x=y
    ·subst e;cases hk:keep false true <;> simp[hk,hy,G]
    cases keep false true <;> simp[e]
theorem JP {keep:Bool→Bool→Bool}{a b:LI}(ia:Yn a)(ib:Yn b)(x:Int):x∈mrg keep a b↔(x∈a∨x∈b)∧keep (decide (x∈a)) (decide (x∈b))=true :=
 Qjr keep _ a b (Lt _) ia ib x
def setK (m k:Nat):LI:=((List.range' 0 k).filter λi=>decide (((m / 2 ^ i) &&& 1)=1)).map λi:Nat=>(i:Int)
theorem KL (m k:Nat):setK m (k+1)=if(m / 2 ^ k) &&& 1=1 then setK m k++[(k:Int)]else setK m k:=by
 unfold setK;rw[Me,L2,Lv,LO];by_cases h:(m / 2 ^ k) &&& 1=1
 ·rw[if_pos h,Ma,if_pos (decide_eq_true h)];rfl
 rw[if_neg h,Ma,if_neg (by rw[decide_eq_false h];simp),Np,NB,LK]
theorem YH (m:Nat):∀k,(setK m k).length≤k
 | 0=>by simp[setK]
 | k+1=>by
  have:=YH m k;rw[KL];split
  ·simp;omega
  omega
theorem Kj (m k:Nat):Yn (setK m k):=by
 unfold setK Yn;rw[MM];refine List.Pairwise.sublist Nv ?_;exact(Na (s:=0) (n:=k)).imp (λh=>by omega)
open Go.Proofs.Tryz
instance ayCx1:Ay prog 150 4 5 1:=⟨by kernel_rfl,by kernel_rfl⟩
end Go.Proofs.YtjcgijbhaemldaaGreatDoor
namespace Go.Lg
section
variable {P:Program}{f:Fr}{w:World}{K:Fr→World→Prop}{d:Option Nat}{ty:Nat}{ps:String}{af:Array Edge}{gd:Option (Nat×Bool)}
theorem UU {t ty e sz bys:Nat}{z:Value}[h:Sl P t e sz bys z]{base:Nat}{v:Value}{n:Nat}{cs:LV}(E:w.ownsRow base e sz v n cs):
  (Builtin.append_ #[t,t] ty #[v,nS]).run P w=.ok v w:=by
 obtain⟨i,hi,_,H,_⟩:=Sl.info h;rcases E.2 with⟨rfl,rfl⟩|⟨g,cap,cur,rfl,I,J,G,T,U,V⟩
 ·simp[Builtin.append_,run_underlying h.u,sizeOf,typeInfo,hi,Builtin.lenOf,Builtin.firstCells]
 simp[Builtin.append_,run_underlying h.u,sizeOf,typeInfo,hi,Builtin.lenOf,Builtin.firstCells,G,storeCells]
theorem Qck {t e sz bys:Nat}{z:Value}[h:Sl P t e sz bys z]{s y:Operand}{base:Nat}{v:Value}{n:Nat}{cs:LV}(E:w.ownsRow base e sz v n cs)(hs:ev f s=v)
  {H:Value} {m:Nat} {news:LV} {L:LN} (G:Zv L w.heap H m sz news) (hy:ev f y=H) (h1:∀u∈news,u.oneCell'=true)
  (hb:n+m≤1099511627776) (J:base≤w.heap.size)
  (I:∀v' w',w'.ownsRow base e sz v' (n+m) (cs++news)→Step (ob v) w w'→(∀b∈ob v',b∈ob v∨w.heap.size≤b)→K (QZ f d v') w') (T:bys≤128:=by decide):
  XO P ⟨d,.call ⟨.builtin .append,#[s,y],#[t,t]⟩,ty,ps,af,gd⟩ f w K:=by
 rcases G.2.2 with⟨e1,e2⟩|⟨a,c,e1,_,e3⟩
 ·subst e2;have U:news=[]:=Lr (by have:=G.1;simpa using this);subst U;have V:(execOp (ev f) ⟨d,.call ⟨.builtin .append,#[s,y],#[t,t]⟩,ty,ps,af,gd⟩).run P w=.ok (.value v) w:=by
   simp[execOp,resolve,invoke,builtin,hs,hy,e1,UU (ty:=ty) E]
  exact xv V (I v w (by simpa using E) (Step.refl _ _) (λb hb=>.inl hb))
 exact Q5 E hs (hy.trans e1) G.1 e3 h1 hb J I T
end
end Go.Lg
namespace Go.Proofs.YtjcgijbhaemldaaGreatDoor
open Go.Proofs.Tryz
open Go.Lg
theorem QdS {L:LN}{w:World}{v:Value}{l:LI}(h:QH L w.heap v l)(x:Int):
  QE prog 126 [v,.int .i64 x] w λr w'=>r=.bool (decide (x∈l))∧w'=w:=by
 have J:=h.le;refine QE.of_W func126 O ntmps126 results126 (by simp) ?_;refine Qc<|Lg.Qe<|Qg<|Qc<|Lg.Qe<|Qh<|QA (α:=Nat) [(4,17)] (λk=>[(5,.int .i64 k)]) (λk w'=>w'=w∧k≤l.length∧(x∈l↔x∈l.drop k)) (λk=>l.length - k) (by rfl) 0 La ⟨O,Ll _,by simp⟩ ?_;rintro k g w' ⟨rfl,hk,hm⟩;refine Qg<|Qc<|Lg.Qb<|Lg.Qb<|Lg.x (Qr h O)<|Lg.x (Qz O O)<|xe<|QC rfl (λh9=>?_) (λh9=>?_)
 ·refine Qy<|Qc<|Lg.Qe<|Qk ⟨[.bool false],La,?_,O⟩;rw[Ls (by omega)]at hm;simp[tup,hm]
 have H:k<l.length:=by omega
 have hd:=Q9 H;refine Qi<|Qg<|Qh<|Qc<|Lg.Qb<|Lg.Qb<|xii h O O H λT I=>Lg.x (Qv I O)<|Lg.Qb<|Lg.x (Zl O O)<|xe<|Q4 rfl (λG=>?_) (λG=>?_)
 ·refine Qc<|Lg.Qe<|Qk ⟨[.bool true],La,?_,O⟩;have:x∈l:=by rw[hm,hd,G];exact Lp
  simp[tup,this]
 refine Qi<|Qx<|Lg.Qb<|Lg.QM O O<|Lg.Qe<|⟨k+1,by omega,La,O,by omega,?_⟩;rw[hm,hd,Lc];exact⟨λh=>h.resolve_left (λe=>G e.symm),.inr⟩
theorem Qax {L:LN}{w:World}{va vm ve:Value}{a:QO}(h:qm L w.heap ve a.ed)(s e:Int)(st:Int):
  QE prog 127 [.agg #[va,.int .i64 st,vm,ve],.int .i64 s,.int .i64 e] w λr w'=>r=.int .i64 (nxt a.ed s e)∧Step [] w w':=by
 have hf:=h.le;refine QE.of_W func127 O ntmps127 results127 (by simp) ?_;refine Qc<|xl O<|QQ (us:=[va,.int .i64 st,vm,ve]) O λb3 V J hg G=>Lg.Qe ?_
 replace h:=h.ext J;refine Qg<|Qc<|Lg.Qe<|Qh<|QA (α:=Nat) [(6,38)] (λk=>[(7,.int .i64 k)]) (λk w'=>w'=V∧k≤a.ed.length∧nxt (a.ed.drop k) s e=nxt a.ed s e) (λk=>a.ed.length - k) (by rfl) 0 La ⟨O,Ll _,O⟩ ?_;rintro k g Y ⟨rfl,hk,H⟩;refine Qg<|Qc<|Lg.Qb<|Lg.x (Qa O)<|Lg.x (Qd G O O)<|Lg.x (Qr h O)<|Lg.x (Qz O O)<|xe<|QC rfl (λha=>?_) (λha=>?_)
 ·refine Qy<|Qc<|Lg.Qe<|Qk ⟨[.int .i64 (-1)],La,?_,J⟩;rw[Ls (by omega)]at H;rw[←H];rfl
 have I:k<a.ed.length:=by omega
 have hd:=Q9 I;refine Qi<|Qg<|Qh<|QX (α:=Bool) [(15,32)] (λz=>[(32,.bool z)]) (λz w'=>w'=Y∧z=decide (a.ed[k].1=s∧a.ed[k].2.1=e)) (by rfl) ?_ ?_
 ·refine Qx<|Lg.x (Qa O)<|Lg.x (Qd G O O)<|Lg.Qb<|xie h O O I λhh hb=>Lg.x (Zg O)<|Lg.x (Qv (hb.fld 0 _ O) O) <|
   Lg.Qb<|xb (Zl O O) (λT=>?_) (λT=>?_)
  ·refine Lg.Qb<|Lg.x (Qa O)<|Lg.x (Qd G O O)<|Lg.Qb<|xie h O O I λhi hc=>Lg.x (Zg O)<|Lg.x (Qv (hc.fld 1 _ O) O) <|
    Lg.Qb<|Lg.x (Zl O O)<|Lg.x (Qq O)<|xe ?_
   exact⟨_,La,O,by simp[T]⟩
  refine Lg.Qb<|xs O<|xs O<|xs O<|xs O<|xs O<|xs O<|xs O<|xs O<|Lg.x (Qq O)<|xe ?_;exact⟨_,La,O,by simp[T]⟩
 rintro z g w3 ⟨rfl,rfl⟩;refine Q4 rfl (λU=>?_) (λU=>?_)
 ·refine Qc<|Lg.x (Qa O)<|Lg.x (Qd G O O)<|Lg.Qb<|xie h O O I λhj he=>Lg.x (Zg O)<|Lg.x (Qv (he.fld 2 _ O) O) <|
   Lg.Qe<|Qk ⟨[.int .i64 a.ed[k].2.2],La,?_,J⟩
  rw[←H,hd,nxt,if_pos U];rfl
 refine Qi<|Qx<|Lg.Qb<|Lg.QM O O<|Lg.Qe<|⟨k+1,by omega,La,O,by omega,?_⟩;rw[←H,hd,nxt,if_neg U]
def qU (l:LI)(n:Int):Int:=if n∈l then(l.idxOf n:Int)else -1
theorem QgW {l:LI}{n:Int}{k:Nat}(h:n∉l.take k)(hk:k<l.length)(he:cget l k=n):qU l n=k:=by
 have hm:n∈l:=by rw[←he,←Zm hk];exact Li hk
 unfold qU;rw[if_pos hm];have hs:l=l.take k++l.drop k:=(Mu k l).symm;have:l.idxOf n=k:=by
  rw[hs,Mm,if_neg h,LE hk,List.idxOf_cons,show l[k]=n by rw[Zm hk];exact he];simp;omega
 rw[this]
theorem QeX {L:LN}{w:World}{v:Value}{l:LI}(h:QH L w.heap v l)(n:Int):
  QE prog 128 [v,.int .i64 n] w λr w'=>r=.int .i64 (qU l n)∧w'=w:=by
 have J:=h.le;refine QE.of_W func128 O ntmps128 results128 (by simp) ?_;refine Qc<|Qe<|Qg<|Qc<|Qe<|Qh<|QA (α:=Nat) [(4,18)] (λz=>[(5,.int .i64 z)]) (λz w'=>w'=w∧z≤l.length∧n∉l.take z) (λz=>l.length - z) (by rfl) 0 La ⟨O,Ll _,by simp⟩ ?_;rintro k g T ⟨rfl,hk,hm⟩;refine Qg<|Qc<|Qb<|Qb<|x (Qr h O)<|x (Qz O O)<|xe<|QC rfl (λh9=>?_) (λh9=>?_)
 ·refine Qy<|Qc<|Qe ?_;rw[Ln (by omega)]at hm;exact Qk ⟨[.int .i64 (-1)],La,by unfold qU;rw[if_neg hm];rfl,O⟩
 have G:k<l.length:=by omega
 refine Qi<|Qg<|Qh<|Qc<|Qb<|Qb<|xic (i:=k) h O O G λU I=>x (Qv I O)<|Qb<|x (Zl O O)<|xe<|Q4 rfl (λH=>?_) (λH=>?_)
 ·refine Qc<|Qb<|Qe ?_;exact Qk ⟨[.int .i64 k],La,by rw[QgW hm G H];rfl,O⟩
 refine Qi<|Qx<|Qb<|QM O O<|Qe<|⟨k+1,by omega,La,O,G,?_⟩;rw[Le G,Zm G];simp only[List.mem_append,List.mem_singleton,not_or];exact⟨hm,λe=>H e.symm⟩
theorem Uv {L:LN}{w:World}{v:Value}{l:LI}(h:QH L w.heap v l)(hl:l.length≤1000000):
  QE prog 70 [v] w λr w'=>Step [] w w'∧∃va,r=.agg #[va,.int .i64 0,nS,nS]∧Qt 3 w.heap.size w' va l:=by
 refine QE.of_W func70 O ntmps70 results70 (by simp) ?_;refine Qc<|xl O<|Qu (us:=[nS,.int .i64 0,nS,nS]) O λb2 G U he V=>xe ?_;have hf:=U.size;have hg:=V.lt;refine Qc<|xl O<|Up λb3 w2 H hh hi=>Qb<|?_;have Y:=U.trans H;have hp:=H.size;have I:w2.ownsRow G.heap.size 3 1 (.slice (some ⟨b3,0,none⟩) 0 0) 0 []:=hi.own (n:=0) (sz:=1) O (by omega) hh
 refine xl rfl<|Qck I O (h.ext Y) O (qL l) (by omega) (by omega) λva J hj ha hq=>?_;have T:Qt 3 G.heap.size J va l:=by
  have:J.ownsRow G.heap.size 3 1 va (0+l.length) ([]++l.map (.int .i64)):=hj;rw[LO,Mb]at this;exact this
 have hA:=Qt.ints (L:=[]) T (by omega) (by simp);have hk:=(V.ext H).step ha (QR I hg);have hm:Step [] w J:=Y.then ha (λb hb=>.inr (by have:=(Qp I b hb).1;omega));refine x (QN ⟨hA.cells,Z⟩)<|xl O<|Qo (us:=[va,.int .i64 0,nS,nS]) hk O O O O ⟨hA.one,O,O,O,Z⟩ λw4 hc hn=>xe ?_;have ho:=Ql T hc (λb hb=>by have:=(Qp T b hb).1;simp;omega)
 exact Qk ⟨[.agg #[va,.int .i64 0,nS,nS]],⟨⟨_,O,Qw O (hn.at (L:=[]) (by simp)).cells⟩,Z⟩,hm.then1 hc he,va,rfl,Zc ho hf⟩
theorem pig:∀(n:Nat) (l:LI),l.Nodup→(∀x∈l,0≤x∧x<n)→l.length≤n
 | 0,l,_,h=>by
  cases l with
  | nil=>simp
  | cons a l=>have:=h a Lp;omega
 | n+1,l,hd,h=>by
  by_cases hm:(n:Int)∈l
  ·have h1:=pig n (l.erase (n:Int)) (hd.erase _) (λx hx=>by
    have h2:=(List.Nodup.mem_erase_iff hd).1 hx;have h3:=h x h2.2;have h4:x≠(n:Int):=h2.1;omega)
   rw[List.length_erase_of_mem hm]at h1;omega
  have:=pig n l hd (λx hx=>by
   have h3:=h x hx;have h4:x≠(n:Int):=λe=>hm (by rw[←e];exact hx);omega)
  omega
def VC (a:QO)(s:Int)(out:LI)(v:Int):LI:=if 0≤nxt a.ed s v∧nxt a.ed s v∉out then out++[nxt a.ed s v]else out
def fdR (a:QO)(out:LI)(s:Int):LI:=a.al.foldl (VC a s) out
def yS (a:QO):Nat→Nat→LI→LI
 | 0,_,out=>out
 | f+1,i,out=>if i<out.length then yS a f (i+1) (fdR a out (cget out i))else out
def fd0 (a:QO):LI:=if 0<a.st then[0]else[]
def found (a:QO):LI:=yS a a.st.toNat 0 (fd0 a)
structure U0 (a:QO)(out:LI):Prop where
 b:∀x∈out,0≤x∧x<a.st
 d:out.Nodup
theorem U0.len {a:QO}{out:LI}(h:U0 a out)(G:0≤a.st):out.length≤a.st.toNat:=pig _ _ h.d (λx hx=>by have:=h.b x hx;omega)
theorem jG {es:List Ed}{s v:Int}(h:0≤nxt es s v):(s,v,nxt es s v)∈es:=by
 induction es with
 | nil=>simp[nxt]at h
 | cons e es ih =>
  rw[nxt]at h ⊢;split at h
  ·rename_i he;rw[if_pos he];obtain⟨p,q,r⟩:=e;obtain⟨h1,h2⟩:=he;simp only[]at h1 h2;subst h1 h2;exact Lp
  rename_i he;rw[if_neg he];exact Lk _ (ih h)
theorem Qhl {a:QO}(G:Q2 a){out:LI}(h:U0 a out)(s v:Int):U0 a (VC a s out v):=by
 unfold VC;split
 ·rename_i hc;have hm:=G.ed _ (jG hc.1);refine⟨λx hx=>?_,?_⟩
  ·rcases Lq.1 hx with hx|hx
   ·exact h.b x hx
   simp only[List.mem_singleton]at hx;subst hx;exact⟨hc.1,hm.2.2.2.2⟩
  rw[Mx];refine⟨h.d,by simp,λx hx y hy=>?_⟩;simp only[List.mem_singleton]at hy;subst hy;exact λe=>hc.2 (by rw[←e];exact hx)
 exact h
theorem QjW {a:QO}{out:LI}{s v:Int}:∀x∈out,x∈VC a s out v:=λx hx=>by unfold VC;split;exact LQ _ hx;exact hx
theorem QlY {a:QO}{out:LI}{s v:Int}(h:0≤nxt a.ed s v):nxt a.ed s v∈VC a s out v:=by
 unfold VC;by_cases hm:nxt a.ed s v∈out
 ·rw[if_neg (λe=>e.2 hm)];exact hm
 rw[if_pos ⟨h,hm⟩];simp
theorem Qhj {a:QO}(G:Q2 a)(s:Int):∀(vs:LI) (out:LI),U0 a out→U0 a (vs.foldl (VC a s) out)
 | [],_,h=>h
 | v::vs,_,h=>Qhj G s vs _ (Qhl G h s v)
theorem jW {a:QO}{s:Int}:∀(vs:LI) (out:LI),∀x∈out,x∈vs.foldl (VC a s) out
 | [],_,_,hx=>hx
 | _::vs,_,x,hx=>jW vs _ x (QjW x hx)
theorem Qhk {a:QO}{s:Int}:∀(vs:LI) (out:LI),∀v∈vs,0≤nxt a.ed s v→nxt a.ed s v∈vs.foldl (VC a s) out
 | v::vs,out,u,hu,h=>by
  rcases Lc.1 hu with rfl|hu
  ·exact jW vs _ _ (QlY h)
  exact Qhk vs _ u hu h
theorem QdU {a:QO}{s:Int}:∀(vs:LI) (out:LI),∃r,vs.foldl (VC a s) out=out++r
 | [],out=>⟨[],by simp⟩
 | v::vs,out=>by
  obtain⟨r,G⟩:=QdU (a:=a) (s:=s) vs (VC a s out v);rw[LM,G];unfold VC;split
  ·exact⟨[nxt a.ed s v]++r,by simp⟩
  exact⟨r,O⟩
theorem zw {l r:LI}{i:Nat}(h:i<l.length):cget (l++r) i=cget l i:=by
 rw[←Zm h,←Zm (by simp;omega),LX h]
def Cl (a:QO)(out:LI)(i:Nat):Prop:=∀j,j<i→j<out.length→∀v∈a.al,0≤nxt a.ed (cget out j) v→nxt a.ed (cget out j) v∈out
theorem Cl.next {a:QO}{out:LI}{i:Nat}(h:Cl a out i)(hi:i<out.length):Cl a (fdR a out (cget out i)) (i+1):=by
 intro j hj U v H G;obtain⟨r,T⟩:=QdU (a:=a) (s:=cget out i) a.al out;have I:fdR a out (cget out i)=out++r:=T;have J:j<out.length:=by omega
 rw[I,zw J]at G ⊢;by_cases e:j=i
 ·subst e;have:=Qhk a.al out v H G;rw[←I];exact this
 exact LQ _ (h j (by omega) J v H G)
theorem Qhi {a:QO}(G:Q2 a):∀(f i:Nat) (out:LI),U0 a out→Cl a out i→i+f=a.st.toNat→U0 a (yS a f i out)∧Cl a (yS a f i out) (yS a f i out).length
 | 0,i,out,h,hc,I=>by
  have:=h.len G.st0;exact⟨h,λj hj H=>hc j (by rw[yS]at hj;omega) H⟩
 | f+1,i,out,h,hc,I=>by
  rw[yS];split
  ·rename_i hi;exact Qhi G f (i+1) _ (Qhj G _ _ _ h) (hc.next hi) (by omega)
  rename_i hi;exact⟨h,λj hj H=>hc j (by omega) H⟩
theorem Qhm (a:QO):U0 a (fd0 a):=by
 unfold fd0;split
 ·rename_i h;exact⟨λx hx=>by simp only[List.mem_singleton]at hx;subst hx;exact⟨by omega,h⟩,by simp⟩
 exact⟨by simp,by simp⟩
theorem V0 {a:QO}(H:Q2 a):U0 a (found a)∧∀s∈found a,∀v∈a.al,0≤nxt a.ed s v→nxt a.ed s v∈found a:=by
 obtain⟨h1,h2⟩:=Qhi H a.st.toNat 0 (fd0 a) (Qhm a) (λj hj=>by omega) (by omega);refine⟨h1,λs hs v I G=>?_⟩;obtain⟨j,hj,rfl⟩:=LF hs;have:=h2 j hj hj v I;unfold found at hj G ⊢;rw[Zm hj]at G ⊢;exact this G
def JU (a:QO)(fd:LI)(i:Nat)(v:Int):Option Ed:=if 0≤nxt a.ed (cget fd i) v then some ((i:Int),v,qU fd (nxt a.ed (cget fd i) v))else none
def YB (a:QO)(fd:LI)(n:Nat):LI:=((List.range' 0 n).filter λi=>decide (cget fd i∈a.mr)).map λi:Nat=>(i:Int)
def YU (a:QO)(fd:LI)(n:Nat):List Ed:=(List.range' 0 n).flatMap λi=>a.al.filterMap (JU a fd i)
def YF (a:QO):QO:=⟨a.al,(found a).length,YB a (found a) (found a).length,YU a (found a) (found a).length⟩
theorem XI {β:Type}{r:Int→Int→Prop}{q:β→β→Prop}{g:Int→Option β}(G:∀x y u v,r x y→g x=some u→g y=some v→q u v):∀{l:LI},l.Pairwise r→(l.filterMap g).Pairwise q
 | [],_=>by simp
 | x::l,h=>by
  obtain⟨h1,h2⟩:=LW.1 h;rw[Mq];split
  ·exact XI G h2
  rename_i u hu;refine LW.2 ⟨λv H=>?_,XI G h2⟩;obtain⟨y,hy,I⟩:=MI.1 H;exact G x y u v (h1 y hy) hu I
theorem j8 {a:QO}(H:Q2 a):Q2 (YF a)∧(YF a).al=a.al∧(YF a).st≤a.st:=by
 obtain⟨h1,h2⟩:=V0 H;have hl:=h1.len H.st0;have h0:=H.st0;have h4:=H.st1;refine⟨⟨H.al,H.ali,by simp[YF],by simp only[YF];omega,λs hs=>?_,?_,λe he=>?_,?_⟩,O,by simp only[YF];omega⟩
 ·simp only[YF,YB,List.mem_map,List.mem_filter,List.mem_range'_1]at hs;obtain⟨i,⟨hi,_⟩,rfl⟩:=hs;simp only[YF];omega
 ·simp only[YF,YB];unfold Yn;rw[MM];refine List.Pairwise.sublist Nv ?_;exact(Na (s:=0) (n:=(found a).length)).imp (λh=>by omega)
 ·simp only[YF,YU,List.mem_flatMap,List.mem_filterMap,List.mem_range'_1]at he;obtain⟨i,⟨_,hi⟩,v,I,G⟩:=he;unfold JU at G;split at G
  ·rename_i T;cases G
   have J:i<(found a).length:=by omega
   have hm:=h2 (cget (found a) i) (by rw[←Zm J];exact Li J) v I T;have hx:=Mj hm;simp only[YF];unfold qU;rw[if_pos hm];exact⟨by omega,by omega,I,by omega,by omega⟩
  cases G
 simp only[YF,YU];have key:∀(is:LN),is.Pairwise (·<·)→(is.flatMap λi=>a.al.filterMap (JU a (found a) i)).Pairwise λx y:Ed=>x.1<y.1∨(x.1=y.1∧x.2.1<y.2.1):=by
  intro is;induction is with
  | nil=>intro _;simp
  | cons i is ih =>
   intro hp;obtain⟨p1,p2⟩:=LW.1 hp;rw[LH,Mt];have from_i:∀(i:Nat) (e:Ed),e∈a.al.filterMap (JU a (found a) i)→e.1=i:=by
    intro i e he;obtain⟨v,_,G⟩:=MI.1 he;unfold JU at G;split at G
    ·cases G;rfl
    cases G
   refine⟨?_,ih p2,λe he U V=>?_⟩
   ·refine XI (r:=(·<·)) (λx y u v Y hu I=>?_) H.ali;unfold JU at hu I;split at hu
    ·cases hu;split at I
     ·cases I;exact .inr ⟨O,Y⟩
     cases I
    cases hu
   obtain⟨j,hj,ha⟩:=ME.1 V;have e1:=from_i i e he;have e2:=from_i j U ha;have:=p1 j hj;left;omega
 exact key _ (Na (s:=0) (n:=(found a).length))
set_option maxHeartbeats 1000000 in
theorem QeY {L:LN}{w:World}{va vm ve:Value}{a:QO}(h:Zp L w.heap va vm ve a)(ho:Q2 a):
  QE prog 125 [.agg #[va,.int .i64 a.st,vm,ve]] w λr w'=>Step [] w w'∧Qt 3 w.heap.size w' r (found a):=by
 have h0:=ho.st0;have h1:=ho.st1;have hU:=ho.al_le;refine QE.of_W func125 O ntmps125 results125 (by simp) ?_;refine Qc<|xl O<|QQ (us:=[va,.int .i64 a.st,vm,ve]) O λb1 U hh hV hs=>Qe<|Qc<|Qe ?_;have h8:=hh.size;refine QX (α:=Value) [(3,3),(7,12)] (λz=>[(3,z)]) (λz w'=>Step [] U w'∧Qt 3 U.heap.size w' z (fd0 a)) (by rfl) ?_ ?_
 ·refine Qc<|x (Qa O)<|x (Qd hs O O)<|x (ZL O O)<|xe<|QC O (λh9=>?_) (λh9=>?_)
  ·refine Qi ?_;exact⟨nS,La,Step.refl _ _,by unfold fd0;rw[if_neg h9];exact QP _ _ _ _⟩
  refine Qx<|Qb<|xl O<|QF (us:=[[.int .i64 0]]) O O (by decide) (by simp) ⟨rfl,rfl,Z⟩ λb11 w2 hv hW hA=>?_;have hn:w2.ownsRow U.heap.size 3 1 (nS) 0 []:=QP _ _ _ _;have hX:=hv.size;refine xl O<|Q5 (news:=[.int .i64 0]) (L:=[]) hn O O O (hA.at (by simp)) (by simp[Value.oneCell']) (by omega) (by omega) λv3 w3 hB hC hY =>
   Qe<|⟨v3,La,hv.then hC (λb hb=>by simp[ob]at hb),?_⟩
  unfold fd0;rw[if_pos h9];exact hB
 rintro v0 g4 w4 ⟨hD,hE⟩;refine Zb (found a) λT hT=>?_;have hF:yS a a.st.toNat 0 (fd0 a)=T:=hT;refine Qg<|Qc<|Qe<|Qh<|QA (α:=Nat×LI×Value) [(3,6),(13,48)] (λz=>[(3,z.2.2),(4,.int .i64 z.1)])
  (λz w'=>Step [] U w'∧Qt 3 U.heap.size w' z.2.2 z.2.1∧U0 a z.2.1∧z.1≤z.2.1.length∧yS a (a.st.toNat - z.1) z.1 z.2.1=T) (λz=>a.st.toNat - z.1) (by rfl) (0,fd0 a,v0) ⟨O,O,Z⟩
  ⟨hD,hE,Qhm a,Ll _,hF⟩ ?_
 rintro⟨i,out,v⟩ g5 w5 ⟨hj,V,G,hi,Y⟩;simp only[]at V G hi Y;have hw:=G.len h0;have hy:=Qt.ints (L:=[]) V (by omega) (by simp);refine Qg<|Qc<|Qb<|Qb<|x (Qr hy O)<|x (Qz O O)<|xe<|QC rfl (λhz=>?_) (λhz=>?_)
 ·have e:out=T:=by
   rw[←Y];generalize a.st.toNat - i=f;cases f with
   | zero=>rfl
   | succ f=>rw[yS,if_neg (by omega)]
  refine Qy<|Qc<|Qb<|Qe ?_;rw[e]at V;exact Qk ⟨[v],La,hh.trans hj,by rw[hT];exact Zc V h8⟩
 have I:i<out.length:=by omega
 have hG:a.st.toNat - i=(a.st.toNat - (i+1))+1:=by omega
 rw[hG,yS,if_pos I]at Y;refine Zb (cget out i) λs J=>?_;rw[J]at Y;refine Zb (fdR a out s) λR hR=>?_;rw[hR]at Y;unfold fdR at hR;refine Qi<|Qg<|Qh<|Qc<|Qe<|Qh<|QA (α:=Nat×LI×Value) [(3,3),(5,6),(19,48)] (λz=>[(3,z.2.2),(5,.int .i64 z.1)])
  (λz w'=>Step [] U w'∧Qt 3 U.heap.size w' z.2.2 z.2.1∧U0 a z.2.1∧z.1≤a.al.length∧i<z.2.1.length∧cget z.2.1 i=s∧(a.al.drop z.1).foldl (VC a s) z.2.1=R) (λz=>a.al.length - z.1) (by rfl) (0,out,v) ⟨O,O,Z⟩
  ⟨hj,V,G,Ll _,I,J,hR⟩ ?_
 clear hj V G hi hw hy I J hR hz;rintro⟨k,out,v⟩ g6 w6 ⟨ha,he,G,hk,I,J,H⟩;simp only[]at he G hk I J H;have hw:=G.len h0;have h2:=(h.al.ext hh).ext ha;have hl:=hs.ext ha;have h3:=Qt.ints (L:=[]) he (by omega) (by simp);refine Qg<|Qc<|Qb<|x (Qa O)<|x (Qd hl O O)<|x (Qr h2 O)<|x (Qz O O)<|xe<|QC rfl (λhH=>?_) (λhH=>?_)
 ·refine Qy<|Qx<|Qb<|QM O O<|Qe ?_;rw[Ls (by omega)]at H;have hI:out=R:=H;exact⟨(i+1,out,v),by simp only[];omega,⟨O,O,Z⟩,ha,he,G,I,by simp only[];rw[hI];exact Y⟩
 have hf:k<a.al.length:=by omega
 rw[LE hf,LM,Zm hf]at H;refine Zb (cget a.al k) λu hu=>?_;rw[hu]at H;have hJ:=(h.ed.ext hh).ext ha;refine Zb (nxt a.ed s u) λt ht=>?_;have hK:VC a s out u=if 0≤t∧t∉out then out++[t]else out:=by unfold VC;rw[ht]
 have hm:=Qhl ho G s u;rw[hK]at H hm;refine Qi<|Qg<|Qh<|Qg<|QV (Step [] w6) [(0,true),(1,true),(2,true),(3,true),(4,true),(5,true),(6,true),(7,true),(8,true),(9,true),(10,false),(11,true)] mixed (by rfl) (by kernel_rfl) (Step.drew _ _) ?_;refine pq (λ_ hc=>Qn (hl.ext hc) O O)<|p (λ_=>Qm)<|p (λ_=>Qm)<|pic (i:=i) O h3 O O I λhZ h4=>?_;rw[J]at h4
 refine pq (λ_ hc=>Qv (h4.ext hc) O)<|p (λ_=>Qa O)<|pq (λ_ hc=>Qd (hl.ext hc) O O)<|p (λ_=>Qm) <|
  pic (i:=k) O h2 O O hf λga h5=>?_
 rw[hu]at h5;have hsr:=Qax (va:=va) (vm:=vm) (a:=a) (hJ.ext (Step.drew [] w6)) s u a.st;rw[ht]at hsr;refine pq (λ_ hc=>Qv (h5.ext hc) O)<|pk<|xf<|hsr.mono ?_;rintro r7 w7 ⟨rfl,hL⟩;have hg:=(Step.drew [] w6).trans hL;refine⟨hg,p (λ_=>Qf)<|pe ?_⟩;have h6:=Qs he hg;have hM:=h3.ext hg
 refine QX (α:=Unit) [(37,44)] (λz=>[(44,.bool (decide (0≤t∧t∉out)))]) (λz w'=>w'=w7) (by rfl) ?_ ?_
 ·refine Qx<|Qb<|xb (ZN O O) (λhp=>?_) (λhp=>?_)
  ·refine Qb<|Qb<|Qb<|xl O<|xf<|(QdS hM t).mono ?_;rintro r8 w8 ⟨rfl,rfl⟩;refine x (Zq O)<|x (Qq O)<|xe<|⟨(),⟨congrArg Value.bool ?_,Z⟩,O⟩;show(!decide (t∈out))=_;rw[Bool.eq_iff_iff];simp[hp]
  refine Qb<|xs O<|xs O<|xs O<|xs O<|x (Qq O)<|xe ?_;exact⟨(),⟨congrArg Value.bool (decide_eq_false (λe=>hp e.1)).symm,Z⟩,O⟩
 rintro _ g9 w9 rfl;refine QC rfl (λhq=>?_) (λhq=>?_)
 ·rw[if_neg hq]at H;refine Qi<|Qx<|Qb<|QM O O<|Qe ?_;exact⟨(k+1,out,v),by simp only[];omega,⟨O,O,Z⟩,ha.trans hg,h6,G,hf,I,J,H⟩
 rw[if_pos hq]at H hm;have h7:=ha.trans hg;have gb:=h7.size;refine Qx<|Qb<|Qb<|xl O<|QF (us:=[[.int .i64 t]]) O O (by decide) (by simp) ⟨rfl,rfl,Z⟩ λgc ge hr gg hN=>?_;have hO:=Qs h6 hr;have gh:=hr.size;refine xl rfl<|Q5 (news:=[.int .i64 t]) (L:=[]) hO O O O (hN.at (by simp)) (by simp[Value.oneCell']) (by omega) (by omega) λhP gi hQ hS gj =>
  Qe ?_
 have hge:=Qp he;refine Qx<|Qb<|QM O O<|Qe<|⟨(k+1,out++[t],hP),by simp only[];omega,⟨O,O,Z⟩,(h7.trans hr).then hS (λb hb=>.inr (hge b hb).1),Qt.snoc hQ,hm,hf,by simp;omega,?_,H⟩;simp only[];rw[zw I];exact J
structure CrI (w7:World)(b4:Nat)(vcl:Value)(n:Int)(vm vd:Value)(M:LI)(E:List Ed)(w:World):Prop where
 st:Step [b4] w7 w
 B:QT w.heap b4 50 [vcl,.int .i64 n,vm,vd]
 m:Qt 3 w7.heap.size w vm M
 e:Z2 129 w7.heap.size w vd E
 dj:Dj vm vd
section
variable {w7 w w' w'':World}{b4:Nat}{vcl:Value}{n:Int}{vm vd:Value}{M:LI}{E:List Ed}
theorem CrI.ext (h:CrI w7 b4 vcl n vm vd M E w)(hs:Step [] w w'):CrI w7 b4 vcl n vm vd M E w':=⟨h.st.trans hs,h.B.ext hs,Qs h.m hs,Qs h.e hs,h.dj⟩
theorem CrI.setM (h:CrI w7 b4 vcl n vm vd M E w)(hb:b4<w7.heap.size){vm':Value}{M':LI}(hs:Step (ob vm) w w')(hm:Qt 3 w7.heap.size w' vm' M')(H:∀b∈ob vm',b∈ob vm∨w.heap.size≤b)(G:Step [b4] w' w'')
  (I:QT w''.heap b4 50 [vcl,.int .i64 n,vm',vd]):CrI w7 b4 vcl n vm' vd M' E w'' :=
 ⟨(h.st.then hs (λb hb=>.inr (Qp h.m b hb).1)).trans' G,I,Ql hm G (λb hb'=>by have:=(Qp hm b hb').1;simp;omega),
  Ql (Ql h.e hs h.dj.symm) G (λb hb'=>by have:=(Qp h.e b hb').1;simp;omega),(h.dj.symm.grow H (Q3 h.e)).symm⟩
theorem CrI.setE (h:CrI w7 b4 vcl n vm vd M E w)(hb:b4<w7.heap.size){G:Value}{E':List Ed}(hs:Step (ob vd) w w')(hm:Z2 129 w7.heap.size w' G E')(I:∀b∈ob G,b∈ob vd∨w.heap.size≤b)(H:Step [b4] w' w'')
  (J:QT w''.heap b4 50 [vcl,.int .i64 n,vm,G]):CrI w7 b4 vcl n vm G M E' w'' :=
 ⟨(h.st.then hs (λb hb=>.inr (Qp h.e b hb).1)).trans' H,J,Ql (Ql h.m hs h.dj) H (λb hb'=>by have:=(Qp h.m b hb').1;simp;omega),
  Ql hm H (λb hb'=>by have:=(Qp hm b hb').1;simp;omega),h.dj.grow I (Q3 h.m)⟩
end
theorem yZ (a:QO)(fd:LI)(k:Nat):YB a fd (k+1)=if cget fd k∈a.mr then YB a fd k++[(k:Int)]else YB a fd k:=by
 unfold YB;rw[Me,L2,Lv,LO];by_cases h:cget fd k∈a.mr
 ·rw[if_pos h,Ma,if_pos (decide_eq_true h)];rfl
 rw[if_neg h,Ma,if_neg (by rw[decide_eq_false h];simp),Np,NB,LK]
theorem QbD (a:QO)(fd:LI):∀k,(YB a fd k).length≤k
 | 0=>by simp[YB]
 | k+1=>by
  have:=QbD a fd k;rw[yZ];split
  ·simp;omega
  omega
theorem Qfa (a:QO)(fd:LI)(k:Nat):YU a fd (k+1)=YU a fd k++a.al.filterMap (JU a fd k):=by
 unfold YU;rw[Me,LC,LO];simp
set_option maxHeartbeats 2000000 in
theorem yc {L:LN}{w:World}{va vm ve:Value}{a:QO}(h:Zp L w.heap va vm ve a)(U:Q2 a):
  QE prog 71 [.agg #[va,.int .i64 a.st,vm,ve]] w λr w'=>Step [] w w'∧Y2 w.heap.size w'.heap r (YF a):=by
 have h0:=U.st0;have h1:=U.st1;have ku:=U.al_le;have gb:=(V0 U).1;have gc:=gb.len h0;refine QE.of_W func71 O ntmps71 results71 (by simp) ?_;refine Zb (found a) λfd hv=>?_;rw[hv]at gc;have ge:YF a=⟨a.al,fd.length,YB a fd fd.length,YU a fd fd.length⟩:=by unfold YF;rw[hv]
 refine Qc<|xl O<|QQ (us:=[va,.int .i64 a.st,vm,ve]) O λb1 w1 gg kv hw=>xl O<|Qu (us:=[nS,.int .i64 0,nS,nS]) O λb2 w2 hz kw hF=>xe ?_;have V:=gg.trans hz;have hfr:=QeY (h.ext V) U;rw[hv]at hfr;refine Qc<|x (Qn (hw.ext hz) O O)<|xl O<|xf<|hfr.mono ?_;rintro vf w3 ⟨hn,gh⟩;refine Qe ?_;have hG:=V.trans hn;have hH:=(hw.ext hz).ext hn
 refine Qc<|x (Qa O)<|x (Qd hH O O)<|xl O<|xf<|(Uv (h.al.ext hG) (by omega)).mono ?_;rintro r4 w4 ⟨hJ,vcl,rfl,Y⟩;have hK:=Qt.ints (L:=[]) Y (by omega) (by simp);refine xl rfl<|Qu (us:=[nS,.int .i64 0,nS,nS]) O λb4 w5 gi gj gk =>
  xl rfl<|Qo (us:=[vcl,.int .i64 0,nS,nS]) gk O O O O ⟨hK.one,O,O,O,Z⟩ λw6 gl hL=>xe ?_
 have h2:Step [] w4 w6:=gi.then1 gl gj;have ha:=hJ.trans h2;have hM:=Qt.ints (L:=[]) gh (by omega) (by simp);have kx:=hn.size;have kz:=hJ.size;have k0:=h2.size;have k4:=hw.lt;have k5:=hF.lt;have k6:=hL.lt;refine Qc<|Qb<|x (Qr hM O)<|x (Qa O)<|xl O<|QB (u:=.int .i64 fd.length) hL O O (by simp) rfl λw7 J gm=>xe ?_;have k7:=J.size
 have k8:Step [b4] w3 w7:=(ha.any (L:=[b4])).trans' J;have hN:Step [] w w7:=(hG.trans ha).then1 J (by omega);have hO:QH [b4] w7.heap vf fd:=((hM.up (L':=[b4]) (λb hb=>.inr (by simp at hb;omega))).ext ha).st J;have h3:Zp [b4] w7.heap va vm ve a:=(h.up (λb hb=>.inr (by simp at hb;omega))).ext hN
 have gn:Qt 3 w3.heap.size w7 vcl a.al:=Ql (Qs Y h2) J (λb hb=>by have:=Q3 Y b hb;simp;omega);have hP:=(hH.ext ha).step J (by simp;omega);have go:=((hF.ext hn).ext ha).step J (by simp;omega);have he:b4<w7.heap.size:=by omega
 have n1:b1∉[b4]:=by simp;omega
 have n2:b2∉[b4]:=by simp;omega
 refine Qg<|Qc<|Qe<|Qh<|QA (α:=Nat×Value×Value) [(5,7),(16,69)] (λz=>[(5,.int .i64 z.1)])
  (λz w'=>z.1≤fd.length∧CrI w7 b4 vcl fd.length z.2.1 z.2.2 (YB a fd z.1) (YU a fd z.1) w'∧(YU a fd z.1).length≤z.1*32) (λz=>fd.length - z.1) (by rfl) (0,nS,nS) La
  ⟨Ll _,⟨Step.refl _ _,gm,QP _ _ _ _,QP _ _ _ _,Dj.nil' _⟩,Ll _⟩ ?_
 rintro⟨i,v1,v2⟩ g8 w8 ⟨hi,G,h4⟩;simp only[]at hi G h4;have gq:=QbD a fd i;have hQ:=hO.st G.st;refine Qg<|Qc<|Qb<|Qb<|x (Qr hQ O)<|x (Qz O O)<|xe<|QC rfl (λgr=>?_) (λgr=>?_)
 ·have gs:i=fd.length:=by omega
  rw[gs]at G h4 gq;refine Qy ?_;have gt:=Qt.ints (L:=[]) G.m (by omega) (by simp);have gu:=Z2.eds (L:=[]) G.e (by omega) (by simp);refine Qc<|x (Qn G.B O O)<|xl O<|Qo (us:=[vcl,.int .i64 fd.length,v1,v2]) (go.step G.st n2) O O O O ⟨hK.one,O,gt.one,gu.one,Z⟩ λw9 hp gv=>xe ?_
  refine Qk ⟨[.agg #[vcl,.int .i64 fd.length,v1,v2]],⟨⟨_,O,Qw O (gv.at (L:=[]) (by simp)).cells⟩,Z⟩,(hN.then1 G.st (by omega)).then1 hp (by omega),?_⟩;rw[ge];have k1:=Ql (Ql gn G.st (λb hb=>by have:=Q3 Y b hb;simp;omega)) hp (λb hb=>by have:=(Qp Y b hb).1;simp;omega);have k2:=Ql G.m hp (λb hb=>by have:=(Qp G.m b hb).1;simp;omega)
  have k3:=Ql G.e hp (λb hb=>by have:=(Qp G.e b hb).1;simp;omega);refine⟨vcl,v1,v2,O,λL' h5=>⟨?_,?_,?_⟩⟩
  ·exact Qt.ints k1 (by show a.al.length≤_;omega) (λb hb=>by have:=h5 b hb;omega)
  ·exact Qt.ints k2 (by show(YB a fd fd.length).length≤_;omega) (λb hb=>by have:=h5 b hb;omega)
  exact Z2.eds k3 (by show(YU a fd fd.length).length≤_;omega) (λb hb=>by have:=h5 b hb;omega)
 have h6:i<fd.length:=by omega
 refine Zb (cget fd i) λs hq=>?_;have hf:=yZ a fd i;rw[hq]at hf;refine Qi<|Qg<|Qh<|QX (α:=Value) [(22,34)] (λz=>[]) (λz w'=>CrI w7 b4 vcl fd.length z v2 (YB a fd (i+1)) (YU a fd i) w') (by rfl) ?_ ?_
 ·have gx:=h3.st G.st;have gy:=hP.step G.st n1;refine Qg<|QV (Step [] w8) [(0,true),(1,true),(2,true),(3,true),(4,true),(5,true),(6,false)] mixed (by rfl) (by kernel_rfl) (Step.drew _ _) ?_;refine p (λ_=>Qa O)<|pq (λ_ hc=>Qd (gy.ext hc) O O)<|p (λ_=>Qm)<|p (λ_=>Qm)<|pic (i:=i) O hQ O O h6 λk9 hR=>?_;rw[hq]at hR
  refine pq (λ_ hc=>Qv (hR.ext hc) O)<|pk<|xf<|(QdS (gx.mr.ext (Step.drew [] w8)) s).mono ?_;rintro ma mc ⟨rfl,rfl⟩;have h7:=G.ext (Step.drew [] w8);refine⟨Step.drew _ _,pe ?_⟩;refine QC O (λh8=>?_) (λh8=>?_)
  ·rw[if_neg h8]at hf;refine Qi ?_;exact⟨v1,Z,by rw[hf];exact h7⟩
  rw[if_pos h8]at hf;refine Qx<|x (Qa O)<|x (Qd h7.B O O)<|Qb<|xl O<|QF (us:=[[.int .i64 i]]) O O (by decide) (by simp) ⟨rfl,rfl,Z⟩ λmf mg gz mh g0=>?_;have hg:=h7.ext gz;refine xl O<|Q5 (news:=[.int .i64 i]) (L:=[]) hg.m O O O (g0.at (by simp)) (by simp[Value.oneCell']) (by omega) hg.st.size λhS g1 g2 V g3=>?_
  have hT:Qt 3 w7.heap.size g1 hS (YB a fd i++[(i:Int)]):=Qt.snoc g2;refine x (Qa O)<|xl O<|QB (hg.B.step V (QR hg.m he)) O O (by simp) (Qt.ints (L:=[]) hT (by simp;omega) (by simp)).one λmj g4 g5 =>
   xe ?_
  exact⟨hS,Z,by rw[hf];exact hg.setM he V hT g3 g4 g5⟩
 rintro v3 mo mq g6;refine Zb (YU a fd (i+1)) λE1 h9=>?_;have hU:=Qfa a fd i;rw[h9]at hU;refine Qc<|Qe<|Qh<|QA (α:=Nat×List Ed×Value) [(6,7),(35,69)] (λz=>[(6,.int .i64 z.1)])
  (λz w'=>z.1≤a.al.length∧CrI w7 b4 vcl fd.length v3 z.2.2 (YB a fd (i+1)) z.2.1 w'∧z.2.1.length≤i*32+z.1∧z.2.1++(a.al.drop z.1).filterMap (JU a fd i)=E1) (λz=>a.al.length - z.1) (by rfl) (0,YU a fd i,v2) La
  ⟨Ll _,g6,h4,hU.symm⟩ ?_
 rintro⟨k,E,vd⟩ ms hA ⟨hk,I,g7,H⟩;simp only[]at hk I g7 H;have hB:=h3.st I.st;have hr:=hP.step I.st n1;have hV:=hO.st I.st;refine Qg<|Qc<|Qb<|x (Qa O)<|x (Qd hr O O)<|x (Qr hB.al O)<|x (Qz O O)<|xe<|QC rfl (λg9=>?_) (λg9=>?_)
 ·refine Qy<|Qx<|Qb<|QM O O<|Qe ?_;rw[Ls (by omega),List.filterMap_nil,LK]at H;refine⟨(i+1,v3,vd),by simp only[];omega,La,h6,?_,?_⟩
  ·simp only[];rw[h9,←H];exact I
  simp only[];rw[h9,←H];omega
 have T:k<a.al.length:=by omega
 refine Zb (cget a.al k) λu hu=>?_;rw[LE T,Zm T,hu,Mq]at H;refine Zb (nxt a.ed s u) λt ht=>?_;have ka:JU a fd i u=if 0≤t then some ((i:Int),u,qU fd t)else none:=by unfold JU;rw[hq,ht]
 rw[ka]at H;have hsr:=Qax (va:=va) (vm:=vm) (a:=a) (hB.ed.ext (Step.drew [] hA)) s u a.st;rw[ht]at hsr;refine Qi<|Qg<|Qh<|Qg<|QV (Step [] hA) [(0,true),(1,true),(2,true),(3,true),(4,true),(5,true),(6,true),(7,true),(8,true),(9,true),(10,false),(11,true)] mixed (by rfl) (by kernel_rfl) (Step.drew _ _) ?_
 refine pq (λ_ hc=>Qn (hr.ext hc) O O)<|p (λ_=>Qm)<|p (λ_=>Qm)<|pic (i:=i) O hV O O h6 λmt hW=>?_;rw[hq]at hW;refine pq (λ_ hc=>Qv (hW.ext hc) O)<|p (λ_=>Qa O)<|pq (λ_ hc=>Qd (hr.ext hc) O O)<|p (λ_=>Qm) <|
  pic (i:=k) O hB.al O O T λmu hX=>?_
 rw[hu]at hX;refine pq (λ_ hc=>Qv (hX.ext hc) O)<|pk<|xf<|hsr.mono ?_;rintro mv hs ⟨rfl,kb⟩;have hh:=(Step.drew [] hA).trans kb;refine⟨hh,p (λ_=>Qf)<|pe ?_⟩;have hj:=I.ext hh;have kc:=hr.ext hh;have ke:=hV.ext hh;refine Qc<|Qb<|x (ZN O O)<|xe<|QC rfl (λhC=>?_) (λhC=>?_)
 ·rw[if_neg hC]at H;refine Qi<|Qx<|Qb<|QM O O<|Qe ?_;exact⟨(k+1,E,vd),by simp only[];omega,La,T,hj,by simp only[];omega,H⟩
 rw[if_pos hC]at H;have kf:=Qp I.e;have kg:QH (b4::ob vd) hs.heap va a.al:=(((h3.al.up (L':=b4::ob vd) (λb hb=>by
  rcases Lc.1 hb with rfl|hb
  ·exact .inl (by simp)
  exact .inr (kf b hb).1)).step I.st (by simp)).ext hh)
 have kh:=QR hj.e he;have ki:b1∉ob vd:=QR hj.e (by omega);refine QV (Step (ob vd) hs) [(0,true),(1,true),(2,true),(3,true),(4,true),(5,true),(6,true),(7,true),(8,true),(9,true),(10,false),(11,true),(12,false),(13,false),(14,true),(15,false)] mixed (by rfl) (by kernel_rfl) (Step.drew _ _) ?_
 refine p (λ_=>Qa O)<|pq (λ_ hc=>Qd (hj.B.step hc kh) O O)<|p (λ_=>Qm)<|p (λ_=>Qa O)<|pq (λ_ hc=>Qd (kc.step hc ki) O O) <|
  p (λ_=>Qm)<|pic (i:=k) O kg O O T λmw hY=>?_
 rw[hu]at hY;refine pq (λ_ hc=>Qv (hY.step hc (λb hb=>Lk _ hb)) O)<|p (λ_=>Qm)<|p (λ_=>Qm) <|
  pk<|xf<|(QeX (ke.ext (Step.drew [] hs)) t).mono ?_
 rintro mx my ⟨rfl,rfl⟩;refine⟨Step.drew _ _,p (λ_=>QN ⟨O,O,O,Z⟩)<|pk<|QF (us:=[QD ((i:Int),u,qU fd t)]) O O (by decide) (by exact(by decide:1*3≤1000000)) ⟨O,O,Z⟩ λmz m0 kj m1 kk=>?_⟩;have hD:=(Step.drew [] hs).trans kj;have hm:=hj.ext hD;refine⟨hD.any,?_⟩
 refine pk<|Q5 (news:=QD ((i:Int),u,qU fd t)) (L:=[]) hm.e O O O (kk.at (by simp)) (λy hy=>by simp only[QD,List.mem_cons,List.not_mem_nil,or_false]at hy;rcases hy with rfl|rfl|rfl <;> rfl) (by omega) hm.st.size λhZ kn ko hE kp=>⟨(hD.any (L:=ob vd)).trans' hE,?_⟩
 have ga:Z2 129 w7.heap.size kn hZ (E++[((i:Int),u,qU fd t)]):=Z2.snoc ko;refine p (λ_=>Qa O)<|pkl (hl:=by kernel_rfl)<|QB (hm.B.step hE (QR hm.e he)) O O (by simp) (Z2.eds (L:=[]) ga (by simp;omega) (by simp)).one λm2 kq kr =>
  pe ?_
 have kt:=hm.setE he hE ga kp kq kr;refine Qx<|Qb<|QM O O<|Qe<|⟨(k+1,E++[((i:Int),u,qU fd t)],hZ),by simp only[];omega,La,T,kt,by simp;omega,?_⟩;simp only[List.append_assoc,List.singleton_append];exact H
end Go.Proofs.YtjcgijbhaemldaaGreatDoor
namespace Go.Lg
section
variable {P:Program}{f:Fr}{w:World}{d:Option Nat}{ty:Nat}{ps:String}{af:Array Edge}{gd:Option (Nat×Bool)}
theorem JZ {t G:Nat}{x y:Operand}{k:IntKind}{a b:Int}(hx:ev f x=.int k a)(hy:ev f y=.int k b)(ha:0≤a)(hb:0<b):
  (execOp (ev f) ⟨d,.binOp .rem t x y G,ty,ps,af,gd⟩).run P w=.ok (.value (.int k (a % b))) w:=by
 refine Xu hx hy ?_;have h1:¬b=0:=by omega
 simp[binOp,Op.intDiv,h1,Int.tmod_eq_emod_of_nonneg ha]
end
end Go.Lg
namespace Go.Proofs.YtjcgijbhaemldaaGreatDoor
open Go.Proofs.Tryz
open Go.Lg
theorem QcA (m:Nat)(hm:m<256)(w:World):QE prog 32 [.int .u8 m] w λr w'=>Step [] w w'∧Qt 3 w.heap.size w' r (setK m 5):=by
 refine QE.of_W func32 O ntmps32 results32 (by simp) ?_;refine Qc<|Qe<|Qc<|Qe<|Qg<|Qc<|Qe<|Qh<|QA (α:=Nat×Value) [(3,17)] (λz=>[(3,z.2),(4,.int .i64 z.1)]) (λz w'=>z.1≤5∧Step [] w w'∧Qt 3 w.heap.size w' z.2 (setK m z.1)) (λz=>5 - z.1) (by rfl) (0,nS) ⟨O,O,Z⟩
  ⟨Ll _,Step.refl _ _,QP _ _ _ _⟩ ?_
 rintro⟨k,v⟩ g w1 ⟨hk,H,G⟩;simp only[]at hk G;have hh:=YH m k;have hi:=H.size;refine Qg<|Qc<|Qb<|x (Qz O O)<|xe<|QC rfl (λV=>?_) (λV=>?_)
 ·refine Qy<|Qc<|Qb<|Qe ?_;have Y:k=5:=by omega
  rw[Y]at G;exact Qk ⟨[v],La,H,G⟩
 have T:k<5:=by omega
 have ha:m / 2 ^ k<256:=Nk (Nat.div_le_self _ _) hm;have I:=KL m k;refine Qi<|Qg<|Qh<|Qc<|Qb<|Qb<|x (UH (n:=k) O O (by show k≤8;omega))<|x (Vl (a:=m / 2 ^ k) (b:=1) (congrArg (Value.int .u8) (VJ m k)) O ha (by decide))<|x (Zl O O)<|xe<|QC rfl (λU=>?_) (λU=>?_)
 ·rw[if_neg (λe=>U (by rw[e];rfl))]at I;refine Qi<|Qx<|Qb<|QM O O<|Qe ?_;exact⟨(k+1,v),by simp only[];omega,⟨O,O,Z⟩,T,H,by simp only[];rw[I];exact G⟩
 rw[if_pos (by omega)]at I;refine Qx<|Qb<|Qb<|xl O<|QF (us:=[[.int .i64 k]]) O O (by decide) (by simp) ⟨rfl,rfl,Z⟩ λb15 w2 J hj hc=>?_;have he:=Qs G J;have hl:=J.size;refine xl rfl<|Q5 (news:=[.int .i64 k]) (L:=[]) he O O O (hc.at (by simp)) (by simp[Value.oneCell']) (by omega) (by omega) λv3 w3 hf hg hn =>
  Qe ?_
 have hge:=Qp G;refine Qx<|Qb<|QM O O<|Qe<|⟨(k+1,v3),by simp only[];omega,⟨O,O,Z⟩,T,(H.trans J).then hg (λb hb=>.inr (hge b hb).1),?_⟩;simp only[];rw[I];exact Qt.snoc hf
instance ayMa1:Ay prog 23 5 22 5:=⟨by kernel_rfl,by kernel_rfl⟩
instance ayMa2:Ay prog 22 5 5 1:=⟨by kernel_rfl,by kernel_rfl⟩
abbrev bys (ns:LN):LV:=ns.map λn:Nat=>.int .u8 (n:Int)
theorem JV {ns:LN}{j:Nat}(h:j<ns.length):(bys ns)[j]?=some (.int .u8 ((ns.getD j 0:Nat):Int)):=by simp[bys,List.getD,h]
theorem Uc:∀(ns:LN),ZH (bys ns)
 | []=>trivial
 | _::ns=>⟨rfl,Uc ns⟩
theorem YO {ns:LN}(h:∀n∈ns,n<256)(j:Nat):ns.getD j 0<256:=by
 by_cases hj:j<ns.length
 ·simp only[List.getD,List.getElem?_eq_getElem hj,Option.getD_some];exact h _ (Li hj)
 simp[List.getD,hj]
structure GrI (al:LI)(S i k:Nat)(M:LI)(E:List Ed):Prop where
 mb:∀x∈M,0≤x∧x<S
 mi:Yn M
 ml:∀x∈M,x<(i:Int)+1
 mn:M.length≤S
 eb:∀e∈E,0≤e.1∧e.1<S∧e.2.1∈al∧0≤e.2.2∧e.2.2<S
 ei:E.Pairwise λx y=>x.1<y.1∨(x.1=y.1∧x.2.1<y.2.1)
 el:∀e∈E,e.1<i∨(e.1=i∧e.2.1∈al.take k)
 en:E.length≤i*5+k
theorem jQ {S:Nat}{M:LI}(hb:∀x∈M,0≤x∧x<S)(hi:Yn M):M.length≤S:=pig S M (hi.imp (λh=>by omega)) hb
theorem GrI.mark {al:LI}{S i:Nat}{M:LI}{E:List Ed}(h:GrI al S i 0 M E)(hm:∀x∈M,x<(i:Int))(hi:i<S):GrI al S i 0 (M++[(i:Int)]) E:=by
 have G:∀x∈M++[(i:Int)],0≤x∧x<S:=λx hx=>by
  rcases Lq.1 hx with hx|hx
  ·exact h.mb x hx
  simp only[List.mem_singleton]at hx;omega
 have H:Yn (M++[(i:Int)]):=by
  refine Mt.2 ⟨h.mi,by simp,λx hx y hy=>?_⟩;simp only[List.mem_singleton]at hy;subst hy;exact hm x hx
 refine⟨G,H,λx hx=>?_,jQ G H,h.eb,h.ei,h.el,h.en⟩;rcases Lq.1 hx with hx|hx
 ·have:=hm x hx;omega
 simp only[List.mem_singleton]at hx;omega
theorem GrI.skip {al:LI}{S i k:Nat}{M:LI}{E:List Ed}(h:GrI al S i k M E)(hk:k<al.length):GrI al S i (k+1) M E :=
 ⟨h.mb,h.mi,h.ml,h.mn,h.eb,h.ei,λe he=>(h.el e he).imp id (λx=>⟨x.1,by rw[Le hk];exact LQ _ x.2⟩),by have:=h.en;omega⟩
theorem GrI.edge {al:LI}{S i k:Nat}{M:LI}{E:List Ed}(h:GrI al S i k M E)(hk:k<al.length)(ha:Yn al)(hi:i<S){t:Int}(G:0≤t)(ht:t<S):GrI al S i (k+1) M (E++[((i:Int),cget al k,t)]):=by
 have H:cget al k∈al:=X4 hk;refine⟨h.mb,h.mi,h.ml,h.mn,λe he=>?_,?_,λe he=>?_,by have:=h.en;simp;omega⟩
 ·rcases Lq.1 he with he|he
  ·exact h.eb e he
  simp only[List.mem_singleton]at he;subst he;exact⟨by simp only[];omega,by simp only[];omega,H,G,ht⟩
 ·refine Mt.2 ⟨h.ei,by simp,λx hx y hy=>?_⟩;simp only[List.mem_singleton]at hy;subst hy;rcases h.el x hx with h1|⟨h1,h2⟩
  ·left;exact h1
  right;refine⟨h1,?_⟩;simp only[];have hp:Yn (al.take k++al.drop k):=by rw[Mu];exact ha
  refine(Mt.1 hp).2.2 _ h2 _ ?_;rw[LE hk,Zm hk];exact Lp
 rw[Le hk,Zm hk];rcases Lq.1 he with he|he
 ·exact(h.el e he).imp id (λx=>⟨x.1,LQ _ x.2⟩)
 simp only[List.mem_singleton]at he;subst he;exact .inr ⟨O,M1 _ (by simp)⟩
theorem GrI.next {al:LI}{S i k:Nat}{M:LI}{E:List Ed}(h:GrI al S i k M E)(hk:k≤5):GrI al S (i+1) 0 M E :=
 ⟨h.mb,h.mi,λx hx=>by have:=h.ml x hx;omega,h.mn,h.eb,h.ei,λe he=>by rcases h.el e he with h1|h1 <;> (left;omega),by have:=h.en;omega⟩
set_option maxHeartbeats 2000000 in
theorem Us {L:LN}{w:World}{v:Value}{al:LI}{ns:LN}(h:QH L w.heap v al)(hb:∀e∈al,0≤e∧e<32)(hi:Yn al)(hn:ns.length=27)(ho:∀n∈ns,n<256):
  QE prog 30 [v,.agg (bys ns).toArray] w λr w'=>Step [] w w'∧∃a:QO,Y2 w.heap.size w'.heap r a∧Q2 a∧a.st≤5∧a.al=al ∧
   (ns.getD 0 0<250→∃a0:QO,Q2 a0∧0<a0.st∧a0.st≤((1+ns.getD 0 0 % 5:Nat):Int)∧a=YF a0):=by
 have kx:al.length≤32:=pig 32 al (hi.imp (λh=>by omega)) (λx hx=>by have:=hb x hx;omega);refine QE.of_W func30 O ntmps30 results30 (by simp) ?_;have g0:=JV (ns:=ns) (j:=0) (by omega);have g1:=JV (ns:=ns) (j:=1) (by omega);have l0:=YO ho 0;have l1:=YO ho 1;refine Zb (ns.getD 0 0) λs0 hW=>?_;refine Zb (ns.getD 1 0) λm1 hX=>?_;rw[hW]at g0 l0;rw[hX]at g1 l1
 refine Qc<|xl O<|QQ (us:=bys ns) O λb3 w1 hY kz h3=>xl O<|Qu (us:=[nS,.int .i64 0,nS,nS]) O λb4 w2 h4 k0 hp=>xe ?_;have hm:=hY.trans h4;have hr:=h3.ext h4;have k4:=h3.lt;have k5:=hp.lt;refine Qg<|Qc<|x (Qa O)<|x (Qd hr O g0)<|x (ZN O O)<|xe<|Q4 rfl (λhZ=>?_) (λhZ=>?_)
 ·refine Qc<|Qb<|xl O<|xf<|(Uv (h.ext hm) (by omega)).mono ?_;rintro r3 w3 ⟨h5,vcl,rfl,T⟩;have hs:=Qt.ints (L:=[]) T (by omega) (by simp);refine xl O<|Qo (us:=[vcl,.int .i64 0,nS,nS]) (hp.ext h5) O O O O ⟨hs.one,O,O,O,Z⟩ λw4 h6 ga=>xe ?_;have gb:=Ql T h6 (λb hb=>by have:=(Qp T b hb).1;simp;omega)
  refine Qk ⟨[.agg #[vcl,.int .i64 0,nS,nS]],⟨⟨_,O,Qw O (ga.at (L:=[]) (by simp)).cells⟩,Z⟩,(hm.trans h5).then1 h6 (by omega),⟨al,0,[],[]⟩,?_,?_,(by decide:(0:Int)≤5),rfl,λh=>absurd h (by omega)⟩
  ·exact⟨vcl,_,_,O,λL' gc=>⟨Qt.ints gb (by show al.length≤_;omega) (λb hb=>by have:=gc b hb;omega),Zv.nil _ _ _,Zv.nil _ _ _⟩⟩
  exact⟨hb,hi,(by decide:(0:Int)≤0),(by decide:(0:Int)≤4096),by simp,by simp,by simp,by simp⟩
 refine Qi<|Qc<|Qb<|xl O<|xf<|(Uv (h.ext hm) (by omega)).mono ?_;rintro r5 w5 ⟨h7,vcl,rfl,T⟩;have hs:=Qt.ints (L:=[]) T (by omega) (by simp);refine xl rfl<|Qu (us:=[nS,.int .i64 0,nS,nS]) O λH w6 ge gg gh =>
  xl rfl<|Qo (us:=[vcl,.int .i64 0,nS,nS]) gh O O O O ⟨hs.one,O,O,O,Z⟩ λw7 gi h8=>xe ?_
 have h9:Step [] w5 w7:=ge.then1 gi gg;have hf:=h7.trans h9;have k6:=h7.size;have k7:=h8.lt;refine Zb (1+s0 % 5) λS hS=>?_;have gk:(1:Int)+(s0:Int) % 5=(S:Int):=by omega
 refine Qc<|x (Qa O)<|x (Qd (hr.ext hf) O g0)<|x (JZ (a:=(s0:Int)) (b:=5) O O (by omega) (by omega))<|x (ZQ (k':=.i64) O ⟨by omega,by omega⟩)<|QM O O<|x (Qa O) <|
  xl rfl<|QB (u:=.int .i64 S) h8 O (congrArg (Value.int .i64) gk) (by simp) rfl λI Y gl=>xe ?_
 have k8:=Y.size;have k9:Step [H] w2 I:=(hf.any (L:=[H])).trans' Y;have hA:Step [] w I:=(hm.trans hf).then1 Y (by omega);have hB:QH [H] I.heap v al:=(h.up (L':=[H]) (λb hb=>.inr (by simp at hb;omega))).ext hA;have gm:Qt 3 w2.heap.size I vcl al:=Ql (Qs T h9) Y (λb hb=>by have:=Q3 T b hb;simp;omega);have hC:=(hr.ext hf).step Y (by simp;omega)
 have gn:=(hp.ext hf).step Y (by simp;omega);have hg:H<I.heap.size:=by omega
 have n3:b3∉[H]:=by simp;omega
 have n4:b4∉[H]:=by simp;omega
 refine Qg<|Qc<|Qe<|Qh<|QA (α:=Nat×Value×Value×LI×List Ed) [(6,8),(22,76)] (λz=>[(6,.int .i64 z.1)])
  (λz w'=>z.1≤S∧CrI I H vcl S z.2.1 z.2.2.1 z.2.2.2.1 z.2.2.2.2 w'∧GrI al S z.1 0 z.2.2.2.1 z.2.2.2.2∧∀x∈z.2.2.2.1,x<(z.1:Int)) (λz=>S - z.1) (by rfl) (0,nS,nS,[],[]) La
  ⟨Ll _,⟨Step.refl _ _,gl,QP _ _ _ _,QP _ _ _ _,Dj.nil' _⟩,⟨by simp,by simp,by simp,by simp,by simp,by simp,by simp,by simp⟩,by simp⟩ ?_
 rintro⟨i,v1,v2,M,E⟩ g9 w9 ⟨go,G,J,hM⟩;simp only[]at go G J hM;have ma:=J.mn;have mc:=J.en;refine Qg<|Qc<|Qb<|x (Qa O)<|x (Qd G.B O O)<|x (Qz O O)<|xe<|QC rfl (λgq=>?_) (λgq=>?_)
 ·have mf:i=S:=by omega
  refine Qy ?_;have gr:=Qt.ints (L:=[]) G.m (by omega) (by simp);have gs:=Z2.eds (L:=[]) G.e (by omega) (by simp);have gt:Qt 3 w2.heap.size w9 vcl al:=Ql gm G.st (λb hb=>by have:=Q3 T b hb;simp;omega);have gu:Zp [] w9.heap vcl v1 v2 ⟨al,(S:Int),M,E⟩:=⟨Qt.ints gt (by show al.length≤_;omega) (by simp),gr,gs⟩
  have hu:Q2 ⟨al,(S:Int),M,E⟩:=⟨hb,hi,by simp only[];omega,by simp only[];omega,J.mb,J.mi,J.eb,J.ei⟩;have hv:=j8 hu;have hD:Step [] w w9:=hA.then1 G.st (by omega);have gv:=gn.step G.st n4;have mg:=G.st.size;refine Qc<|x (Qn G.B O O)<|xl O<|xf<|(yc (a:=⟨al,(S:Int),M,E⟩) gu hu).mono ?_;rintro vr mh ⟨hE,hF⟩;obtain⟨us,hH,hJ,gx⟩:=Xk hF
  refine xl O<|Qo (us:=us) (gv.ext hE) O hH hJ O gx λmj hK gy=>xe ?_;have gz:=hD.size;refine Qk ⟨[.agg us.toArray],⟨⟨_,O,Qw hJ (gy.at (L:=[]) (by simp)).cells⟩,Z⟩,(hD.trans hE).then1 hK (by omega),YF ⟨al,(S:Int),M,E⟩,?_,hv.1,?_,hv.2.1,λ_=>⟨⟨al,(S:Int),M,E⟩,hu,by simp only[];omega,by simp only[];omega,O⟩⟩
  ·show Y2 _ _ (.agg us.toArray) _;rw[←hH];exact(Yl hF (by omega) hK).mono gz
  have:=hv.2.2;simp only[]at this;omega
 have hw:i<S:=by omega
 refine Qi<|Qg<|Qh<|QX (α:=Value×LI) [(28,39)] (λz=>[]) (λz w'=>CrI I H vcl S z.1 v2 z.2 E w'∧GrI al S i 0 z.2 E) (by rfl) ?_ ?_
 ·have g2:m1 / 2 ^ i<256:=Nk (Nat.div_le_self _ _) l1;refine Qc<|x (Qa O)<|x (Qd (hC.step G.st n3) O g1)<|Qb<|x (UH (n:=i) O O (by show i≤8;omega))<|x (Vl (a:=m1 / 2 ^ i) (b:=1) (congrArg (Value.int .u8) (VJ m1 i)) O g2 (by decide))<|x (Zl O O)<|xe<|QC O (λg3=>?_) (λg3=>?_)
  ·refine Qi ?_;exact⟨(v1,M),Z,G,J⟩
  refine Qx<|x (Qa O)<|x (Qd G.B O O)<|Qb<|xl O<|QF (us:=[[.int .i64 i]]) O O (by decide) (by simp) ⟨rfl,rfl,Z⟩ λmo mq g4 ms g5=>?_;have hh:=G.ext g4;refine xl O<|Q5 (news:=[.int .i64 i]) (L:=[]) hh.m O O O (g5.at (by simp)) (by simp[Value.oneCell']) (by omega) hh.st.size λhL g6 g7 hN g8=>?_;have hO:Qt 3 I.heap.size g6 hL (M++[(i:Int)]):=Qt.snoc g7
  refine x (Qa O)<|xl O<|QB (hh.B.step hN (QR hh.m hg)) O O (by simp) (Qt.ints (L:=[]) hO (by simp;omega) (by simp)).one λmt ka kb =>
   xe ?_
  exact⟨(hL,M++[(i:Int)]),Z,hh.setM hg hN hO g8 ka kb,J.mark hM hw⟩
 rintro⟨v3,M3⟩ mu mv ⟨hP,hQ⟩;simp only[]at hP hQ;refine Qc<|Qe<|Qh<|QA (α:=Nat×Value×List Ed) [(7,8),(40,76)] (λz=>[(7,.int .i64 z.1)])
  (λz w'=>z.1≤al.length∧z.1≤5∧CrI I H vcl S v3 z.2.1 M3 z.2.2 w'∧GrI al S i z.1 M3 z.2.2) (λz=>5 - z.1) (by rfl) (0,v2,E) La
  ⟨Ll _,Ll _,hP,hQ⟩ ?_
 rintro⟨k,vd,F⟩ mw kc ⟨hk,hR,ha,he⟩;simp only[]at hk hR ha he;have ke:=hB.st ha.st;have mx:=he.en;refine Qg<|QX (α:=Unit) [(40,47)] (λz=>[(47,.bool (decide (k<al.length∧k<5)))]) (λz w'=>w'=kc) (by rfl) ?_ ?_
 ·refine Qx<|Qb<|Qb<|x (Qr ke O)<|xb (Qz O O) (λhT=>?_) (λhT=>?_)
  ·refine Qb<|Qb<|x (Qz O O)<|x (Qq O)<|xe<|⟨(),⟨congrArg Value.bool ?_,Z⟩,O⟩;exact decide_eq_decide.2 ⟨λe=>⟨by omega,by omega⟩,λe=>by omega⟩
  refine Qb<|xs O<|xs O<|x (Qq O)<|xe ?_;exact⟨(),⟨congrArg Value.bool (decide_eq_false (λe=>hT (by omega))).symm,Z⟩,O⟩
 rintro _ my U rfl;refine QC rfl (λhz=>?_) (λhz=>?_)
 ·refine Qy<|Qx<|Qb<|QM O O<|Qe ?_;exact⟨(i+1,v3,vd,M3,F),by simp only[];omega,La,hw,ha,he.next hR,λx hx=>by have:=he.ml x hx;simp only[];omega⟩
 have hk1:k<al.length:=hz.1;have h0:k<5:=hz.2;have gj:=JV (ns:=ns) (j:=0+2+i*5+k*1) (by omega);have lj:=YO ho (0+2+i*5+k*1);refine Zb (ns.getD (0+2+i*5+k*1) 0) λq hq=>?_;rw[hq]at gj lj;have kf:=hC.step ha.st n3;have kg:0≤(q:Int) % ((S:Int)+2):=Int.emod_nonneg _ (by omega)
 refine Qi<|Qg<|Qh<|Qg<|QV (Step [] U) [(0,true),(1,true),(2,true),(3,true),(4,true),(5,true),(6,true),(7,true),(8,true),(9,true),(10,true),(11,true)] mixed (by rfl) (by kernel_rfl) (Step.drew _ _) ?_;refine p (λ_=>Qm)<|p (λ_=>Qm)<|p (λ_=>Qa O)<|p (λ_=>Zw (i:=i) O O (by omega))<|p (λ_=>Zw (i:=k) O O h0)<|pq (λ_ hc=>Qd (kf.ext hc) O gj) <|
  p (λ_=>ZQ (k':=.i64) O ⟨by omega,by omega⟩)<|p (λ_=>Qa O)<|pq (λ_ hc=>Qd (ha.B.ext hc) O O)<|p (λ_=>Xa O O ⟨by omega,by omega⟩) <|
  p (λ_=>JZ (a:=(q:Int)) (b:=(S:Int)+2) O O (by omega) (by omega))<|p (λ_=>Qf)<|pe ?_
 have V:=ha.ext (Step.drew [] U);refine Zb ((q:Int) % ((S:Int)+2)) λt ht=>?_;refine Qc<|Qb<|x (Qa O)<|x (Qd V.B O O)<|x (Qz O O)<|xe<|QC rfl (λkh=>?_) (λkh=>?_)
 ·refine Qi<|Qx<|Qb<|QM O O<|Qe ?_;exact⟨(k+1,vd,F),by simp only[];omega,La,hk1,h0,V,he.skip hk1⟩
 have ki:=Qp V.e;have kj:QH (H::ob vd) { U with drawn:=U.drawn+1 }.heap v al:=((hB.up (L':=H::ob vd) (λb hb=>by
  rcases Lc.1 hb with rfl|hb
  ·exact .inl (by simp)
  exact .inr (ki b hb).1)).step V.st (by simp))
 have kk:=QR V.e hg;refine QV (Step (ob vd) { U with drawn:=U.drawn+1 }) [(0,true),(1,true),(2,true),(3,true),(4,true),(5,true),(6,true),(7,true),(8,true),(9,false),(10,false),(11,true),(12,false)] mixed (by rfl) (by kernel_rfl) (Step.drew _ _) ?_
 refine p (λ_=>Qa O)<|pq (λ_ hc=>Qd (V.B.step hc kk) O O)<|p (λ_=>Qm)<|p (λ_=>Qm)<|p (λ_=>Qm) <|
  pic (i:=k) O kj O O hk1 λmz kn=>pq (λ_ hc=>Qv (kn.step hc (λb hb=>Lk _ hb)) O)<|p (λ_=>Qm)<|p (λ_=>QN ⟨O,O,O,Z⟩) <|
  pk<|QF (us:=[QD ((i:Int),cget al k,(q:Int) % ((S:Int)+2))]) O O (by decide) (by exact(by decide:1*3≤1000000)) ⟨O,O,Z⟩ λm0 m2 ko m3 kp=>?_
 have h1:=(Step.drew [] { U with drawn:=U.drawn+1 }).trans ko
 have hj:=V.ext h1;refine⟨h1.any,?_⟩;refine pk<|Q5 (news:=QD ((i:Int),cget al k,(q:Int) % ((S:Int)+2))) (L:=[]) hj.e O O O (kp.at (by simp)) (λy hy=>by simp only[QD,List.mem_cons,List.not_mem_nil,or_false]at hy;rcases hy with rfl|rfl|rfl <;> rfl) (by omega) hj.st.size λhU kq kr h2 kt=>⟨(h1.any (L:=ob vd)).trans' h2,?_⟩
 have hV:Z2 129 I.heap.size kq hU (F++[((i:Int),cget al k,(q:Int) % ((S:Int)+2))]):=Z2.snoc kr;refine p (λ_=>Qa O)<|pkl (hl:=by kernel_rfl)<|QB (hj.B.step h2 (QR hj.e hg)) O O (by simp) (Z2.eds (L:=[]) hV (by simp;omega) (by simp)).one λm4 ku kv=>pe ?_;have kw:=hj.setE hg h2 hV kt ku kv;refine Qx<|Qb<|QM O O<|Qe ?_
 exact⟨(k+1,hU,F++[((i:Int),cget al k,(q:Int) % ((S:Int)+2))]),by simp only[];omega,La,hk1,h0,kw,he.edge hk1 hi hw kg (by omega)⟩
end Go.Proofs.YtjcgijbhaemldaaGreatDoor
namespace Go.Lg
section
variable {P:Program}{f:Fr}{w:World}{d:Option Nat}{ty:Nat}{ps:String}{af:Array Edge}{gd:Option (Nat×Bool)}
theorem KN {t sz:Nat}[Ag P t sz]{x:Operand}{b o T:Nat}{cs us:LV}(h:QT w.heap b T cs)(hx:ev f x=.pointer (some ⟨b,o,none⟩))(hl:us.length=sz)(G:∀j u,us[j]?=some u→cs[o+j]?=some u):
  (execOp (ev f) ⟨d,.load t x,ty,ps,af,gd⟩).run P w=.ok (.value (.agg us.toArray)) w:=by
 refine U3 hx hl λj u hu=>?_;rw[Xg,Yu,h.cell];exact G j u hu
end
end Go.Lg
namespace Go.Proofs.YtjcgijbhaemldaaGreatDoor
open Go.Proofs.Tryz
open Go.Lg
theorem Qeg {ns:LN}{o n:Nat}:∀j u,(bys ((ns.drop o).take n))[j]?=some u→(bys ns)[o+j]?=some u:=by
 intro j u h;simp only[bys,List.getElem?_map,List.getElem?_take,List.getElem?_drop]at h ⊢;split at h
 ·exact h
 cases h
theorem Qks {ns:LN}(h:∀n∈ns,n<256)(o n:Nat):∀m∈(ns.drop o).take n,m<256:=λm hm=>h m (Mz (LR hm))
theorem jn (m k:Nat):∀e∈setK m k,0≤e∧e<k:=by
 intro e he;simp only[setK,List.mem_map,List.mem_filter,List.mem_range'_1]at he;obtain⟨i,⟨hi,_⟩,rfl⟩:=he;omega
theorem U7 (keep:Bool→Bool→Bool):∀(n:Nat) (a b:LI),a.length+b.length≤n→Yn a→Yn b→Yn (mrg keep a b):=by
 intro n;induction n with
 | zero =>
  intro a b h _ _;have ha:a=[]:=Lr (by omega);have hb:b=[]:=Lr (by omega);subst ha hb;rw[JO];exact List.Pairwise.nil
 | succ n ih =>
  intro a b H ia ib;by_cases h:a=[]∧b=[]
  ·obtain⟨rfl,rfl⟩:=h;rw[JO];exact List.Pairwise.nil
  have I:=qW h;have itl:∀(c:Bool) (l:LI),Yn l→Yn (tl c l):=λc l hl=>by
   cases c
   ·exact hl
   cases l with
   | nil=>exact hl
   | cons y l=>exact hl.tail
  have G:=ih (tl (XK a b) a) (tl (XK b a) b) (by omega) (itl _ _ ia) (itl _ _ ib);rw[JA keep h];cases keep (XK a b) (XK b a)with
  | false=>simpa using G
  | true =>
   simp only[cond_true,List.singleton_append];refine LW.2 ⟨λx hx=>?_,G⟩;have hm:=(JP (itl _ _ ia) (itl _ _ ib) x).1 hx;cases a with
   | nil =>
    cases b with
    | nil=>exact absurd ⟨O,O⟩ h
    | cons y b =>
     simp only[XK,tl,cond_true,cond_false,List.tail_cons,List.not_mem_nil,false_or,Go.Proofs.YtjcgijbhaemldaaGreatDoor.hx,List.headD_cons]at hm ⊢;exact ib.lt_of hm.1
   | cons u a =>
    cases b with
    | nil =>
     simp only[XK,tl,cond_true,cond_false,List.tail_cons,List.not_mem_nil,or_false,Go.Proofs.YtjcgijbhaemldaaGreatDoor.hx,List.headD_cons]at hm ⊢;exact ia.lt_of hm.1
    | cons y b =>
     rcases Int.lt_trichotomy u y with h1|h1|h1
     ·have e1:decide (u≤y)=true:=decide_eq_true (by omega);have e2:decide (y≤u)=false:=decide_eq_false (by omega);simp only[XK,tl,e1,e2,cond_true,cond_false,List.tail_cons,Go.Proofs.YtjcgijbhaemldaaGreatDoor.hx,List.headD_cons]at hm ⊢;rcases hm.1 with h2|h2
      ·exact ia.lt_of h2
      rcases Lc.1 h2 with h2|h2
      ·omega
      have:=ib.lt_of h2;omega
     ·have e1:decide (u≤y)=true:=decide_eq_true (by omega);have e2:decide (y≤u)=true:=decide_eq_true (by omega);simp only[XK,tl,e1,e2,cond_true,List.tail_cons,Go.Proofs.YtjcgijbhaemldaaGreatDoor.hx,List.headD_cons]at hm ⊢;rcases hm.1 with h2|h2
      ·have:=ia.lt_of h2;omega
      have:=ib.lt_of h2;omega
     have e1:decide (u≤y)=false:=decide_eq_false (by omega);have e2:decide (y≤u)=true:=decide_eq_true (by omega);simp only[XK,tl,e1,e2,cond_true,cond_false,List.tail_cons,Go.Proofs.YtjcgijbhaemldaaGreatDoor.hx,List.headD_cons]at hm ⊢;rcases hm.1 with h2|h2
     ·rcases Lc.1 h2 with h2|h2
      ·omega
      have:=ia.lt_of h2;omega
     exact ib.lt_of h2
end Go.Proofs.YtjcgijbhaemldaaGreatDoor
namespace Go.Lg
section
variable {P:Program}{f:Fr}{w:World}{d:Option Nat}{ty:Nat}{ps:String}{af:Array Edge}{gd:Option (Nat×Bool)}{all:List Oper}{C:World→Prop}{K:Fr→World→Prop}
theorem tf {pre:List (Nat×Bool)}{i j:Nat}{G H:Pt}(h:XP P all C (λf w=>(Z6 all f (QL all i)=true∧XO P (QL all i) f w λE w'=>C w'∧XT P all C K G E w') ∧
   (Z6 all f (QL all j)=true∧XO P (QL all j) f w λE w'=>C w'∧XT P all C K H E w')) pre f w):XT P all C K (.fk pre i j G H) f w:=h
theorem tp {l:List (Nat×Bool)}(h:XP P all C K l f w):XT P all C K (.pl l) f w:=h
end
end Go.Lg
namespace Go.Proofs.YtjcgijbhaemldaaGreatDoor
open Go.Lg
theorem VO (es:List Ed)(s v:Int):nxt es s v=match eget es s v with|some u=>u|none=>-1:=by
 induction es with
 | nil=>rfl
 | cons e es ih =>
  rw[nxt,eget];split
  ·rfl
  exact ih
end Go.Proofs.YtjcgijbhaemldaaGreatDoor
namespace Go.Lg
section
variable {P:Program}{f:Fr}{w:World}{d:Option Nat}{ty:Nat}{ps:String}{af:Array Edge}{gd:Option (Nat×Bool)}
end
end Go.Lg
namespace Go.Proofs.YtjcgijbhaemldaaGreatDoor
open Go.Lg
section
variable {w4 w w' w'':World}{b:Nat}{m q:Bool}{ve vd:Value}{E D:LI}
end
end Go.Proofs.YtjcgijbhaemldaaGreatDoor
namespace Go.Lg
section
variable {P:Program}{f:Fr}{w:World}{d:Option Nat}{ty:Nat}{ps:String}{af:Array Edge}{gd:Option (Nat×Bool)}
end
end Go.Lg
namespace Go.Proofs.YtjcgijbhaemldaaGreatDoor
open Go.Lg
def grid (g:Nat→Int→Option Ed)(vs:LI)(n:Nat):List Ed:=(List.range' 0 n).flatMap λj=>vs.filterMap (g j)
theorem Uu (g:Nat→Int→Option Ed)(vs:LI)(n:Nat):grid g vs (n+1)=grid g vs n++vs.filterMap (g n):=by
 unfold grid;rw[Me,LC];simp
theorem UK (l m:List Ed)(s v:Int):eget (l++m) s v=match eget l s v with|some u=>some u|none=>eget m s v:=by
 induction l with
 | nil=>rfl
 | cons e l ih =>
  rw[Mh,eget,eget];split
  ·rfl
  exact ih
def zN (g:Nat→Int→Option Ed):Prop:=∀j v e,g j v=some e→e.1=(j:Int)∧e.2.1=v
theorem Qbl {g:Nat→Int→Option Ed}(E:zN g)(j:Nat)(v:Int):∀(vs:LI),eget (vs.filterMap (g j)) j v=if v∈vs then(g j v).map (·.2.2)else none
 | []=>by simp[eget]
 | u::vs=>by
  have ih:=Qbl E j v vs;rw[Mq];cases hu:g j u with
  | none =>
   simp only[];rw[ih];by_cases e:v=u
   ·subst e;simp[hu]
   simp[e]
  | some e =>
   have he:=E j u e hu;simp only[];rw[eget];by_cases e2:u=v
   ·subst e2;rw[if_pos he,if_pos Lp,hu];rfl
   rw[if_neg (λh=>e2 (he.2.symm.trans h.2)),ih];simp[Ne.symm e2]
theorem Qbk {g:Nat→Int→Option Ed}(E:zN g){j i:Nat}(h:j≠i)(v:Int)(vs:LI):eget (vs.filterMap (g j)) i v=none:=by
 refine JF λe he h2=>?_;obtain⟨u,_,hu⟩:=MI.1 he;have:=E j u e hu;omega
theorem yU {g:Nat→Int→Option Ed}(E:zN g)(vs:LI)(j:Nat)(v:Int):∀n,eget (grid g vs n) j v=if j<n∧v∈vs then(g j v).map (·.2.2)else none
 | 0=>by simp[grid,eget]
 | n+1=>by
  rw[Uu,UK,yU E vs j v n];by_cases e:j=n
  ·subst e;rw[if_neg (by omega),Qbl E];simp
  rw[Qbk E (Ne.symm e)];by_cases h:j<n∧v∈vs
  ·rw[if_pos h,if_pos ⟨by omega,h.2⟩];cases(g j v).map (·.2.2) <;> rfl
  rw[if_neg h,if_neg (λh2=>h ⟨by omega,h2.2⟩)]
theorem Qa8 {g:Nat→Int→Option Ed}{vs:LI}{n:Nat}{e:Ed}(h:e∈grid g vs n):∃j v,j<n∧v∈vs∧g j v=some e:=by
 unfold grid at h;obtain⟨j,hj,h2⟩:=ME.1 h;obtain⟨v,E,h3⟩:=MI.1 h2;rw[L7]at hj;exact⟨j,v,by omega,E,h3⟩
theorem QdT {g:Nat→Int→Option Ed}(E:zN g){vs:LI}(hi:Yn vs):∀n,(grid g vs n).Pairwise λx y:Ed=>x.1<y.1∨(x.1=y.1∧x.2.1<y.2.1)
 | 0=>by simp[grid]
 | n+1=>by
  rw[Uu,Mt];refine⟨QdT E hi n,XI (r:=(·<·)) (λx y u v J hu G=>?_) hi,λe he H I=>?_⟩
  ·have h1:=E n x u hu;have h2:=E n y v G;right;omega
  obtain⟨j,v,hj,_,h1⟩:=Qa8 he;obtain⟨v',_,h2⟩:=MI.1 I;have h3:=E j v e h1;have h4:=E n v' H h2;left;omega
theorem Qnj (l:List QO):∀(acc:LI),(∀a∈l,Yn a.al)→Yn acc→Yn (l.foldl (λacc a=>mrg (· || ·) acc a.al) acc)∧∀x,x∈l.foldl (λacc a=>mrg (· || ·) acc a.al) acc↔x∈acc∨∃a∈l,x∈a.al:=by
 induction l with
 | nil=>intro acc _ h;exact⟨h,λx=>by simp⟩
 | cons a l ih =>
  intro acc hl h;have ha:=hl a Lp;obtain⟨h1,h2⟩:=ih (mrg (· || ·) acc a.al) (λb hb=>hl b (Lk _ hb)) (U7 _ _ _ _ (Lt _) h ha);rw[LM];refine⟨h1,λx=>?_⟩;rw[h2 x,JP h ha];simp only[List.mem_cons,exists_eq_or_imp];constructor
  ·rintro(⟨h3|h3,_⟩|h3)
   ·exact .inl h3
   ·exact .inr (.inl h3)
   exact .inr (.inr h3)
  rintro(h3|h3|h3)
  ·exact .inl ⟨.inl h3,by simp[h3]⟩
  ·exact .inl ⟨.inr h3,by simp[h3]⟩
  exact .inr h3
theorem jZ {l:List QO}(h:∀a∈l,Q2 a):Yn (evs l):=(Qnj l [] (λa ha=>(h a ha).ali) (by simp)).1
theorem qe {l:List QO}(h:∀a∈l,Q2 a)(x:Int):x∈evs l↔∃a∈l,x∈a.al:=by
 have:=(Qnj l [] (λa ha=>(h a ha).ali) (by simp)).2 x;unfold evs;rw[this];simp
def syF (aa:List QO)(tup:List (LI))(j:Nat)(v:Int):Option Ed:=(Zz v aa (tup.getD j [])).map λu=>((j:Int),v,(tup.idxOf u:Int))
theorem QfI (aa:List QO)(tup:List (LI)):zN (syF aa tup):=by
 intro j v e h;unfold syF at h;obtain⟨u,_,rfl⟩:=MK.1 h;exact⟨O,O⟩
theorem Qbd {α β:Type}{f g:α→Option β}:∀{l:List α},(∀x∈l,f x=g x)→l.filterMap f=l.filterMap g
 | [],_=>rfl
 | x::l,h=>by rw[Mq,Mq,h x Lp,Qbd (λy hy=>h y (Lk _ hy))]
theorem Qhb {α β:Type}{f:α→Option β}{v:α}{e:β}(h:f v=some e):[v].filterMap f=[e]:=by rw[Mq,h];rfl
theorem QjU {α β:Type}{f:α→Option β}{v:α}(h:f v=none):[v].filterMap f=[]:=by rw[Mq,h];rfl
theorem QfJ {aa:List QO}{tup:List (LI)}{j:Nat}{v:Int}(h:Zz v aa (tup.getD j [])=none):syF aa tup j v=none:=by unfold syF;rw[h];rfl
theorem Qav {aa:List QO}{tup:List (LI)}{j:Nat}{v:Int}{u:LI}(h:Zz v aa (tup.getD j [])=some u):syF aa tup j v=some ((j:Int),v,(tup.idxOf u:Int)):=by unfold syF;rw[h];rfl
def Clo (aa:List QO)(tup:List (LI))(j:Nat)(vs:LI):Prop:=∀v∈vs,∀u,Zz v aa (tup.getD j [])=some u→u∈tup
theorem Kv {tup r:List (LI)}{j:Nat}(h:j<tup.length):(tup++r).getD j []=tup.getD j []:=by simp[List.getD,List.getElem?_append_left h]
theorem Qdb {aa:List QO}{tup r:List (LI)}{j:Nat}{vs:LI}(hj:j<tup.length)(hc:Clo aa tup j vs):vs.filterMap (syF aa (tup++r) j)=vs.filterMap (syF aa tup j):=by
 refine Qbd λv E=>?_;unfold syF;rw[Kv hj];cases hs:Zz v aa (tup.getD j [])with
 | none=>rfl
 | some u =>
  have hu:=hc v E u hs;simp only[Option.map_some,Option.some.injEq,Prod.mk.injEq,true_and];rw[Mm,if_pos hu]
theorem Clo.pre {aa:List QO}{tup r:List (LI)}{j:Nat}{vs:LI}(hj:j<tup.length)(hc:Clo aa tup j vs):Clo aa (tup++r) j vs:=by
 intro v E u hu;rw[Kv hj]at hu;exact LQ _ (hc v E u hu)
theorem JN {α:Type}{l:List α}{u:α}(h:l.Nodup)(hu:u∉l):(l++[u]).Nodup:=by
 rw[Mx];exact⟨h,by simp,λa ha b hb=>by simp only[List.mem_singleton]at hb;subst hb;exact λe=>hu (by rw[←e];exact ha)⟩
theorem yi {aa:List QO}{i:Nat}:∀(vs:LI) (s E:Sy),i<s.tup.length→s.tup.Nodup→Vi aa i (UG s i) vs s=some E →
  ∃r,E.tup=s.tup++r∧E.mk'=s.mk'∧E.ed=s.ed++vs.filterMap (syF aa E.tup i)∧Clo aa E.tup i vs∧E.tup.Nodup
 | [],s,E,_,hd,e=>by cases e;exact⟨[],by simp,rfl,by simp,λv V=>(by cases V),hd⟩
 | v::vs,s,E,hi,hd,e=>by
  rw[Vi]at e;obtain⟨G,h1,h2⟩:=Mg.1 e;have key:∃I,G.tup=s.tup++I∧G.mk'=s.mk'∧G.ed=s.ed++[v].filterMap (syF aa G.tup i)∧Clo aa G.tup i [v]∧G.tup.Nodup:=by
   unfold syE at h1;have eT:UG s i=s.tup.getD i []:=rfl;rw[eT]at h1;cases hs:Zz v aa (s.tup.getD i [])with
   | none =>
    rw[hs]at h1;cases h1
    refine⟨[],by simp,rfl,by rw[QjU (QfJ hs),List.append_nil],λv' hv' u hu=>?_,hd⟩;simp only[List.mem_singleton]at hv';subst hv';rw[hs]at hu;cases hu
   | some u =>
    rw[hs]at h1;simp only[]at h1;by_cases hu:u∈s.tup
    ·rw[if_pos hu]at h1;cases h1
     refine⟨[],by simp,rfl,by rw[Qhb (Qav hs)],λv' hv' Y H=>?_,hd⟩;simp only[List.mem_singleton]at hv';subst hv';simp only[]at H ⊢;rw[hs]at H;cases H;exact hu
    rw[if_neg hu]at h1;split at h1
    ·cases h1
    cases h1
    have e2:(s.tup++[u]).getD i []=s.tup.getD i []:=Kv hi;have e3:(s.tup++[u]).idxOf u=s.tup.length:=by rw[Mm,if_neg hu];simp
    refine⟨[u],O,O,?_,λv' hv' Y H=>?_,JN hd hu⟩
    ·rw[Qhb (Qav (tup:=s.tup++[u]) (u:=u) (by rw[e2];exact hs)),e3]
    simp only[List.mem_singleton]at hv';subst hv';simp only[]at H ⊢;rw[e2,hs]at H;cases H;simp
  obtain⟨I,k1,k2,k3,U,k5⟩:=key;have J:i<G.tup.length:=by rw[k1];simp;omega
  have eT:UG G i=UG s i:=by unfold UG;rw[k1];exact Kv hi
  rw[←eT]at h2;obtain⟨r2,T,g2,g3,g4,g5⟩:=yi vs G E J k5 h2;refine⟨I++r2,by rw[T,k1,LB],g2.trans k2,?_,?_,g5⟩
  ·rw[g3,k3,LB];congr 1;rw[show v::vs=[v]++vs from rfl,List.filterMap_append];congr 1;rw[T];exact(Qdb J U).symm
  intro v' hv' u hu;rcases Lc.1 hv' with rfl|hv'
  ·have:=U.pre (r:=r2) J;rw[←T]at this;exact this v' Lp u hu
  exact g4 v' hv' u hu
structure SyG (aa:List QO)(i:Nat)(s:Sy):Prop where
 nd:s.tup.Nodup
 le:i≤s.tup.length
 hd:s.tup.getD 0 []=List.replicate aa.length 0∧0<s.tup.length
 mk2:s.mk'=((List.range' 0 i).filter λj=>XD aa (s.tup.getD j [])).map λj:Nat=>(j:Int)
 ed:s.ed=grid (syF aa s.tup) (evs aa) i
 cl:∀j,j<i→Clo aa s.tup j (evs aa)
theorem X2 {α β:Type}{f g:α→List β}:∀{l:List α},(∀x∈l,f x=g x)→l.flatMap f=l.flatMap g
 | [],_=>rfl
 | x::l,h=>by rw[LH,LH,h x Lp,X2 (λy hy=>h y (Lk _ hy))]
theorem SyG.next {aa:List QO}{i:Nat}{s E:Sy}(h:SyG aa i s)(hi:i<s.tup.length)(e:Vi aa i (UG s i) (evs aa) (ZF aa i (UG s i) s)=some E):SyG aa (i+1) E:=by
 have ht:(ZF aa i (UG s i) s).tup=s.tup:=by unfold ZF;split <;> rfl
 have T:(ZF aa i (UG s i) s).ed=s.ed:=by unfold ZF;split <;> rfl
 have I:UG (ZF aa i (UG s i) s) i=UG s i:=by show(ZF aa i (UG s i) s).tup.getD i []=s.tup.getD i [];rw[ht]
 rw[←I]at e;obtain⟨r,G,U,J,V,Y⟩:=yi (evs aa) _ E (by rw[ht];exact hi) (by rw[ht];exact h.nd) (by rw[I]at e ⊢;exact e);rw[ht]at G;rw[T]at J;have pre:∀j,j≤i→E.tup.getD j []=s.tup.getD j []:=λj hj=>by rw[G];exact Kv (by omega)
 refine⟨Y,by rw[G];simp;omega,⟨by rw[pre 0 (by omega)];exact h.hd.1,by rw[G];simp;omega⟩,?_,?_,λj hj=>?_⟩
 ·rw[U,Me,L2,Lv,LO];have e1:((List.range' 0 i).filter λj=>XD aa (E.tup.getD j []))=(List.range' 0 i).filter λj=>XD aa (s.tup.getD j []):=by
   refine List.filter_congr λj hj=>?_;rw[L7]at hj;rw[pre j (by omega)]
  rw[e1];unfold ZF;by_cases hm:XD aa (UG s i)=true
  ·rw[if_pos hm];have H:XD aa (E.tup.getD i [])=true:=by rw[pre i (Lt _)];exact hm
   simp only[List.filter_cons,H,if_true,List.filter_nil,List.map_cons,List.map_nil];rw[h.mk2]
  rw[if_neg hm];have H:XD aa (E.tup.getD i [])=false:=by rw[pre i (Lt _)];exact eq_false_of_ne_true hm
  rw[Ma,if_neg (by rw[H];simp),Np,h.mk2];simp
 ·rw[J,Uu,h.ed];congr 1;unfold grid;refine X2 λj hj=>?_;rw[L7]at hj;rw[G];exact(Qdb (by omega) (h.cl j (by omega))).symm
 by_cases e2:j=i
 ·subst e2;exact V
 have:=(h.cl j (by omega)).pre (r:=r) (by omega);rw[←G]at this;exact this
theorem Qat {aa:List QO}:∀(f i:Nat) (s E:Sy),SyG aa i s→syL aa f i s=some E→∃G,SyG aa G E∧(E.tup.length=G∨G=i+f)
 | 0,i,s,E,h,e=>by cases e;exact⟨i,h,.inr O⟩
 | f+1,i,s,E,h,e=>by
  rw[syL]at e;split at e
  ·rename_i hi;obtain⟨H,h1,h2⟩:=Mg.1 e;obtain⟨G,h3,h4⟩:=Qat f (i+1) H E (h.next hi h1) h2;exact⟨G,h3,by omega⟩
  cases e;exact⟨i,h,.inl (by have:=h.le;omega)⟩
structure SyP (aa:List QO)(A:QO)(Q:List (LI)):Prop where
 al:A.al=evs aa
 st:A.st=(Q.length:Int)
 nd:Q.Nodup
 v:∀t∈Q,Vt aa t
 le:Q.length≤4096
 hd:0<Q.length→Q.getD 0 []=List.replicate aa.length 0
 mk2:A.mr=((List.range' 0 Q.length).filter λj=>XD aa (Q.getD j [])).map λj:Nat=>(j:Int)
 ed:A.ed=grid (syF aa Q) (evs aa) Q.length
 cl:∀j,j<Q.length→Clo aa Q j (evs aa)
theorem XN {aa:List QO}(H:∀a∈aa,Q2 a){A:QO}{Q:List (LI)}(h:sync aa=some (A,Q)):SyP aa A Q∧(Q.length=0↔∃a∈aa,a.st=0):=by
 have E:=jl H h;unfold sync at h;split at h
 ·rename_i G;cases h
  exact⟨⟨O,O,by simp,by simp,by simp,λh=>by simp at h,by simp,by simp[grid],λj hj=>by simp at hj⟩,by simpa using G⟩
 rename_i G;obtain⟨s,h1,h2⟩:=MK.1 h;have I:SyG aa 0 (UT aa):=⟨by simp[UT],by simp,⟨by simp[UT],by simp[UT]⟩,by simp[UT],by simp[UT,grid],λj hj=>by omega⟩;obtain⟨J,h3,h4⟩:=Qat 4096 0 (UT aa) s I h1;cases h2
 have hl:J=s.tup.length:=by
  have h5:=h3.le;have T:=E.2;simp only[]at T;omega
 subst hl;refine⟨⟨rfl,O,h3.nd,E.1,E.2,λ_=>h3.hd.1,h3.mk2,h3.ed,h3.cl⟩,?_⟩;have:=h3.hd.2;constructor
 ·intro h;have U:s.tup.length=0:=h;omega
 intro h;exact absurd h G
theorem SyP.step {aa:List QO}{A:QO}{Q:List (LI)}(h:SyP aa A Q){j:Nat}(hj:j<Q.length)(v:Int):
  eget A.ed j v=if v∈evs aa then(Zz v aa (Q.getD j [])).map λu=>(Q.idxOf u:Int)else none:=by
 rw[h.ed,yU (QfI aa Q)];by_cases E:v∈evs aa
 ·rw[if_pos ⟨hj,E⟩,if_pos E];unfold syF;rw[Option.map_map];rfl
 rw[if_neg (λe=>E e.2),if_neg E]
theorem SyP.to {aa:List QO}{A:QO}{Q:List (LI)}(h:SyP aa A Q){j:Nat}(hj:j<Q.length){v:Int}(E:v∈evs aa){u:LI}(hu:Zz v aa (Q.getD j [])=some u):Q.idxOf u<Q.length∧Q.getD (Q.idxOf u) []=u:=by
 have hm:=h.cl j hj v E u hu;have hl:=Mj hm;refine⟨hl,?_⟩;simp[List.getD,hl]
theorem SyP.okay {aa:List QO}(E:∀a∈aa,Q2 a){A:QO}{Q:List (LI)}(h:SyP aa A Q):Q2 A:=by
 have I:=h.le;refine⟨λe he=>?_,by rw[h.al];exact jZ E,by rw[h.st];omega,by rw[h.st];omega,λs hs=>?_,?_,λe he=>?_,by rw[h.ed];exact QdT (QfI aa Q) (jZ E) _⟩
 ·rw[h.al]at he;obtain⟨a,ha,hx⟩:=(qe E e).1 he;exact(E a ha).al e hx
 ·rw[h.mk2]at hs;simp only[List.mem_map,List.mem_filter,List.mem_range'_1]at hs;obtain⟨i,⟨hi,_⟩,rfl⟩:=hs;rw[h.st];omega
 ·rw[h.mk2];unfold Yn;rw[MM];refine List.Pairwise.sublist Nv ?_;exact(Na (s:=0) (n:=Q.length)).imp (λh=>by omega)
 rw[h.ed]at he;obtain⟨j,v,hj,G,H⟩:=Qa8 he;unfold syF at H;obtain⟨u,hu,rfl⟩:=MK.1 H;have:=(h.to hj G hu).1;rw[h.st,h.al];exact⟨by simp only[];omega,by simp only[];omega,G,by simp only[];omega,by simp only[];omega⟩
end Go.Proofs.YtjcgijbhaemldaaGreatDoor
namespace Go.Lg
open Go.RowKit
instance:LawfulBEq ByteArray where
 eq_of_beq h:=(MapKept.bytes_beq _ _).1 h;rfl:=(MapKept.bytes_beq _ _).2 O
def chr (s:ByteArray)(i:Nat):Nat:=(s.get! i).toNat
theorem Qma {s:ByteArray}{i:Nat}(h:i<s.size):(s[i]'h).toNat=chr s i:=by
 unfold chr;obtain⟨d⟩:=s;have hd:i<d.size:=h;simp[ByteArray.get!,hd,ByteArray.getElem_eq_getElem_data]
theorem Qfc {a b:ByteArray}(h:a.data.toList=b.data.toList):a=b:=by
 obtain⟨⟨x⟩⟩:=a;obtain⟨⟨y⟩⟩:=b;have h':x=y:=h;rw[h']
theorem bytes_beq (a b:ByteArray):(a.toList == b.toList)=decide (a=b):=by
 rw[ByteArray.toList_eq,ByteArray.toList_eq];by_cases h:a=b
 ·subst h;simp
 rw[decide_eq_false h];have:a.data.toList≠b.data.toList:=λe=>h (Qfc e);simpa using this
section
variable {P:Program}{f:Fr}{w:World}{d:Option Nat}{ty:Nat}{ps:String}{af:Array Edge}{gd:Option (Nat×Bool)}{t t':Nat}{x y:Operand}
theorem Qgi [h:St P t]{s:ByteArray}{k:IntKind}{i:Nat}(hx:ev f x=.string s)(hy:ev f y=.int k i)(hi:i<s.size):
  (execOp (ev f) ⟨d,.index t x y,ty,ps,af,gd⟩).run P w=.ok (.value (.int .u8 (chr s i))) w:=by
 have h1:=run_index_string (P:=P) w t s k i h.u;rw[dif_pos ⟨by omega,by omega⟩]at h1;have e:(s[(i:Int).toNat]'(by simpa using hi)).toNat=chr s i:=Qma hi;simp only[execOp,hx,hy,Sem.run_bind,h1,Result.andThen_ok,Sem.run_pure,e]
theorem Qce [h:St P t]{s:ByteArray}(hx:ev f x=.string s):
  (execOp (ev f) ⟨d,.call ⟨.builtin .len,#[x],#[t]⟩,ty,ps,af,gd⟩).run P w=.ok (.value (.int .i64 s.size)) w:=Qgg h.u hx
theorem jy {a b:ByteArray}(hx:ev f x=.string a)(hy:ev f y=.string b):
  (execOp (ev f) ⟨d,.binOp .eql t x y t',ty,ps,af,gd⟩).run P w=.ok (.value (.bool (decide (a=b)))) w:=by
 have E:(eqGuard .eql t x y (.string a) (.string b)).run P w=.ok () w:=by simp[eqGuard]
 simp only[execOp,hx,hy,Sem.run_bind,E,Result.andThen_ok,binOp_string_eql,Sem.run_pure,bytes_beq]
theorem Yx {a b:ByteArray}(hx:ev f x=.string a)(hy:ev f y=.string b)(hl:a.size+b.size≤1000000000):
  (execOp (ev f) ⟨d,.binOp .add t x y t',ty,ps,af,gd⟩).run P w=.ok (.value (.string (a++b))) w:=by
 have E:(eqGuard .add t x y (.string a) (.string b)).run P w=.ok () w:=by simp[eqGuard]
 have G:¬(((a.size+b.size:Nat):Int) > IntKind.i64.max):=by
  rw[show IntKind.i64.max=9223372036854775807 from rfl];omega
 simp only[execOp,hx,hy,Sem.run_bind,E,Result.andThen_ok,binOp_string_add,Op.stringOp,if_neg G,Sem.run_pure]
theorem Qjb {a b:Nat}(hx:ev f x=.int .u16 a)(hy:ev f y=.int .u16 b)(ha:a<65536)(hb:b<65536):
  (execOp (ev f) ⟨d,.binOp .and t x y t',ty,ps,af,gd⟩).run P w=.ok (.value (.int .u16 ((a &&& b:Nat):Int))) w:=by
 refine Xu hx hy ?_;have hi:inK .u16 ((a &&& b:Nat):Int):=by
  have:a &&& b≤a:=Nat.and_le_left;exact⟨by omega,by omega⟩
 simp only[binOp,Op.intBits,BitVec.ofInt_natCast,ne_eq,not_true_eq_false,if_false,Sem.run_pure];rw[BitVec.toNat_and,BitVec.toNat_ofNat,BitVec.toNat_ofNat,Ms (show a<2 ^ IntKind.u16.bits from ha),Ms (show b<2 ^ IntKind.u16.bits from hb),Xl hi]
theorem Qdv {a b:Nat}(ha:a<65536)(hb:b<65536):a ||| b<65536:=Nat.or_lt_two_pow (n:=16) ha hb
theorem Qcd {a b:Nat}(hx:ev f x=.int .u16 a)(hy:ev f y=.int .u16 b)(ha:a<65536)(hb:b<65536):
  (execOp (ev f) ⟨d,.binOp .or t x y t',ty,ps,af,gd⟩).run P w=.ok (.value (.int .u16 ((a ||| b:Nat):Int))) w:=by
 refine Xu hx hy ?_;have hi:inK .u16 ((a ||| b:Nat):Int):=by
  have:=Qdv ha hb;exact⟨by omega,by omega⟩
 simp only[binOp,Op.intBits,BitVec.ofInt_natCast,ne_eq,not_true_eq_false,if_false,Sem.run_pure];rw[BitVec.toNat_or,BitVec.toNat_ofNat,BitVec.toNat_ofNat,Ms (show a<2 ^ IntKind.u16.bits from ha),Ms (show b<2 ^ IntKind.u16.bits from hb),Xl hi]
theorem Qcf {a b:Nat}(hx:ev f x=.int .u16 a)(hy:ev f y=.int .u16 b)(ha:a<65536)(hb:b<65536):
  (execOp (ev f) ⟨d,.binOp .andNot t x y t',ty,ps,af,gd⟩).run P w=.ok (.value (.int .u16 ((a &&& (65535 ^^^ b):Nat):Int))) w:=by
 refine Xu hx hy ?_;have hi:inK .u16 ((a &&& (65535 ^^^ b):Nat):Int):=by
  have:a &&& (65535 ^^^ b)≤a:=Nat.and_le_left;exact⟨by omega,by omega⟩
 have e:(~~~(BitVec.ofNat IntKind.u16.bits b))=BitVec.ofNat IntKind.u16.bits (65535 ^^^ b):=by
  have E:BitVec.allOnes 16=BitVec.ofNat 16 65535:=by decide
  have G:∀z:BitVec 16,~~~z=BitVec.allOnes 16 ^^^ z:=λz=>by
   first
   | exact BitVec.allOnes_xor.symm
   | exact(BitVec.xor_allOnes.symm.trans (BitVec.xor_comm _ _))
  show ~~~(BitVec.ofNat 16 b)=BitVec.ofNat 16 (65535 ^^^ b);rw[G,E];apply BitVec.eq_of_toNat_eq;simp only[BitVec.toNat_xor,BitVec.toNat_ofNat];rw[Ms (show 65535<2 ^ 16 by decide),Ms (show b<2 ^ 16 from hb)];rw[Ms (Nat.xor_lt_two_pow (n:=16) (by decide) hb)]
 simp only[binOp,Op.intBits,BitVec.ofInt_natCast,ne_eq,not_true_eq_false,if_false,Sem.run_pure];rw[e,BitVec.toNat_and,BitVec.toNat_ofNat,BitVec.toNat_ofNat,Ms (show a<2 ^ IntKind.u16.bits from ha),Ms (show 65535 ^^^ b<2 ^ IntKind.u16.bits from Nat.xor_lt_two_pow (n:=16) (by decide) hb),Xl hi]
theorem Qdo {k k':IntKind}{a:Int}{n:Nat}(hx:ev f x=.int k a)(hy:ev f y=.int k' n)(E:n≤k.bits)(hi:inK k (a*2 ^ n)):
  (execOp (ev f) ⟨d,.binOp .shl t x y t',ty,ps,af,gd⟩).run P w=.ok (.value (.int k (a*2 ^ n))) w:=by
 refine Xu hx hy ?_;have h1:¬((n:Int)<0):=by omega
 simp only[binOp,Op.shift,h1,if_false,Int.toNat_natCast,Nat.min_eq_left E,Sem.run_pure];rw[Xl hi]
end
section
variable {P:Program}{ops:List Oper}{K:Fr→World→Prop}{f:Fr}{w:World}{d:Option Nat}{ty:Nat}{ps:String}{af:Array Edge}{gd:Option (Nat×Bool)}{l:List Oper}
 {t e sz bys:Nat} {z:Value} {x y1 y2:Operand} {L:LN} {v:Value} {n:Nat} {cs:LV} {H:Array Obj} {k k':IntKind} {hi:Nat}
theorem Qgd [h:Sl P t e sz bys z](E:Zv L H v n sz cs)(hx:ev f x=v)(G:ev f y1=.int k hi)(hm:ev f y2=.int k' hi)(h1:hi≤n):
  ∃v',Zv L H v' hi sz (cs.take (hi*sz))∧∀w,(execOp (ev f) ⟨d,.slice t x none (some y1) (some y2),ty,ps,af,gd⟩).run P w=.ok (.value v') w:=by
 obtain⟨ii,I,_,hs,_⟩:=Sl.info h;rcases E.2.2 with⟨rfl,rfl⟩|⟨a,cap,rfl,hc,J⟩
 ·have T:hi=0:=by omega
  subst T;refine⟨nS,?_,λw=>?_⟩
  ·rw[Nat.zero_mul,Nj];exact Zv.nil _ _ _
  simp[execOp,hx,G,hm,Instr.sliceAt,Instr.slice,Instr.sliceBounds,Instr.sliceBound,asIntOf,run_underlying h.u,sizeOf,typeInfo,I]
 refine⟨.slice (some a) hi hi,⟨?_,by have:=E.2.1;omega,.inr ⟨a,hi,O,Lt _,λu hu=>J.out u (LR hu),λu hu=>J.lt u (LR hu),λj u hu=>?_⟩⟩,λw=>?_⟩
 ·rw[Ly,E.1,M0 (My _ h1)]
 ·rw[L1]at hu;split at hu
  ·exact J.cell j u hu
  cases hu
 by_cases T:hi=0
 ·subst T;simp[execOp,hx,G,hm,Instr.sliceAt,Instr.slice,Instr.sliceBounds,Instr.sliceBound,asIntOf,run_underlying h.u,sizeOf,typeInfo,I]
 simp[execOp,hx,G,hm,Instr.sliceAt,Instr.slice,Instr.sliceBounds,Instr.sliceBound,asIntOf,run_underlying h.u,sizeOf,typeInfo,I,Addr.add];intro h9;omega
end
section
variable {P:Program}{ops l:List Oper}{K:Fr→World→Prop}{f:Fr}{w:World}{o:Oper}{C:World→Prop}{pl:List (Nat×Bool)}{i:Nat}
theorem xB {b:Bool}(E:(execOp (ev f) o).run P w=.ok (.value (.bool b)) w)(ht:b=true→XL P ops K l (QZ f o.dst (.bool true)) w)(I:b=false→XL P ops K l (QZ f o.dst (.bool false)) w)
  (G:Z6 ops f o=true:=by rfl):XL P ops K (o::l) f w:=by
 cases hb:b with
 | true=>rw[hb]at E;exact x E (ht hb) G
 | false=>rw[hb]at E;exact x E (I hb) G
theorem pB {b:Bool}(E:∀w',(execOp (ev f) (QL ops i)).run P w'=.ok (.value (.bool b)) w')(ht:b=true→XP P ops C K pl (QZ f (QL ops i).dst (.bool true)) w)(I:b=false→XP P ops C K pl (QZ f (QL ops i).dst (.bool false)) w)
  (G:Z6 ops f (QL ops i)=true:=by rfl):XP P ops C K ((i,true)::pl) f w:=by
 cases hb:b with
 | true=>rw[hb]at E;exact p E (ht hb) G
 | false=>rw[hb]at E;exact p E (I hb) G
theorem Qht {G:Prop}(b:Bool)(ht:b=true→G)(E:b=false→G):G:=by cases h:b with|true=>exact ht h|false=>exact E h
theorem bT {q:Prop}[Decidable q](h:q):true=decide q:=(decide_eq_true h).symm
theorem bF {q:Prop}[Decidable q](h:¬q):false=decide q:=(decide_eq_false h).symm
theorem bD {q r:Prop}[Decidable q][Decidable r](h:q↔r):decide q=decide r:=decide_eq_decide.2 h
end
section
variable {P:Program}{f:Fr}{w:World}{d:Option Nat}{ty:Nat}{ps:String}{af:Array Edge}{gd:Option (Nat×Bool)}{t:Nat}{x:Operand}
theorem qG {q:Prop}[Decidable q](hx:ev f x=.bool (decide q)):(execOp (ev f) ⟨d,.unOp .not t x,ty,ps,af,gd⟩).run P w=.ok (.value (.bool (decide (¬q)))) w:=by
 rw[Zq hx];simp
end
end Go.Lg
namespace Go.Proofs.YtjcgijbhaemldaaGreatDoor
open Go.Lg
structure Kc where
 nm:ByteArray
 co:Bool
 ob:Bool
 fo:Bool
 fl:Int
structure XC where
 nm:ByteArray
 a:QO
structure Exc where
 nm:ByteArray
 ls:List (Int×Int)
structure Jt where
 nm:ByteArray
 ts:List (Int×Int)
 bd:Int
structure ZA where
 ev:List Kc
 co:List XC
 rq:List XC
 ex:List Exc
 cs:List Jt
def Ka (n:Nat):LI:=(List.range n).map λi:Nat=>(i:Int)
def nmP (i c:Nat):Prop:=((97≤c∧c≤122)∨(65≤c∧c≤90)∨c=95)∨(i≠0∧48≤c∧c≤57)
instance (i c:Nat):Decidable (nmP i c):=by unfold nmP;infer_instance
def nmQ (s:ByteArray)(i:Nat):Bool:=decide (nmP i (chr s i))
def YD (s:ByteArray):Bool:=(List.range' 0 s.size).all (nmQ s) && decide (0<s.size∧s.size≤32)
def Xc (seen:List ByteArray)(e:Kc):Int:=if YD e.nm=false then 7 else if e.nm∈seen then 8 else if e.fl<0∨4<e.fl then 2 else if e.fl≠0∧(e.co || e.ob)=true then 13 else 0
def V8:List ByteArray→List Kc→Int
 | _,[]=>0
 | seen,e::l=>if Xc seen e≠0 then Xc seen e else V8 (seen++[e.nm]) l
def XM (l:List Kc):Int:=if 32<l.length then 3 else V8 [] l
def ixs {α:Type}(q:α→Bool):Nat→List α→LI
 | _,[]=>[]
 | i,e::l=>if q e=true then(i:Int)::ixs q (i+1) l else ixs q (i+1) l
def unc (l:List Kc):LI:=ixs (λe=>!e.co) 0 l
def Yq (sz:LI):Option Int→List (Int×Int)→Int
 | _,[]=>0
 | pr,l::ls=>if l.1<0∨(sz.length:Int)≤l.1 then 2 else if U8 pr l.1=true then 5 else if l.2<0∨cget sz l.1.toNat≤l.2 then 2 else Yq sz (some l.1) ls
def Jn (sz:LI)(ls:List (Int×Int)):Int:=if ls.length=0 then 12 else Yq sz none ls
def grt (n:Int):Bool:=decide (n < -65536) || decide (65536<n)
def Jm (sz:LI):Option Int→List (Int×Int)→Int
 | _,[]=>0
 | pr,l::ls=>if l.1<0∨(sz.length:Int)≤l.1 then 2 else if U8 pr l.1=true then 5 else if l.2=0∨grt l.2=true then 2 else Jm sz (some l.1) ls
def Xd (sz:LI)(k:Jt):Int:=if k.ts.length=0 then 12 else if Jm sz none k.ts≠0 then Jm sz none k.ts else if grt k.bd=true then 2 else 0
def Kz (seen:List ByteArray)(s:ByteArray):Int:=if YD s=false then 7 else if s∈seen then 8 else 0
def Yh (sz:LI):List ByteArray→List Exc→Int
 | _,[]=>0
 | seen,x::l=>if Kz seen x.nm≠0 then Kz seen x.nm else if Jn sz x.ls≠0 then Jn sz x.ls else Yh sz (seen++[x.nm]) l
def YT (sz:LI):List ByteArray→List Jt→Int
 | _,[]=>0
 | seen,x::l=>if Kz seen x.nm≠0 then Kz seen x.nm else if Xd sz x≠0 then Xd sz x else YT sz (seen++[x.nm]) l
def J1 (n:Int):Bool:=decide (n<1) || decide (4096<n)
def YE (sz:LI)(ex:List Exc)(cs:List Jt):Int:=if 8<sz.length then 3 else if sz.any J1=true then 2 else if 32<ex.length∨32<cs.length then 3 else if Yh sz [] ex≠0 then Yh sz [] ex else YT sz [] cs
def mns (a b:LI):LI:=mrg (λp q=>p && !q) a b
def Ku (a:QO):Bool:=decide (Xq a=0) && decide ((YJ a).st=a.st∧(YJ a).al=a.al∧(YJ a).mr=a.mr∧(YJ a).ed=a.ed)
def Z8 (nev:Nat)(amg:LI)(seen:List ByteArray)(x:XC):Int :=
 if YD x.nm=false then 7 else if x.nm∈seen then 8 else if Xq x.a≠0 then Xq x.a else if Ku x.a=false then 6 else if x.a.st=0 then 12 else
 if(x.a.al.any λe=>decide ((nev:Int)≤e))=true then 2 else if(mns x.a.al amg).length≠0 then 9 else 0
def Yc (nev:Nat)(al:LI):List ByteArray→LI→List XC→Int×List ByteArray×LI
 | s,u,[]=>(0,s,u)
 | s,u,x::l=>if Z8 nev al s x≠0 then(Z8 nev al s x,s,u)else Yc nev al (s++[x.nm]) (mrg (· || ·) u x.a.al) l
def JG (nev:Nat)(u:LI):List ByteArray→List XC→Int
 | _,[]=>0
 | s,x::l=>if Z8 nev u s x≠0 then Z8 nev u s x else JG nev u (s++[x.nm]) l
def szs (l:List XC):LI:=l.map (·.a.st)
def auts (l:List XC):List QO:=l.map (·.a)
def Zk (c:ZA):Int :=
 if XM c.ev≠0 then XM c.ev else if c.co.length=0 then 12 else if 8<c.co.length∨12<c.co.length+c.rq.length then 3 else
 if(Yc c.ev.length (Ka c.ev.length) [] [] c.co).1≠0 then(Yc c.ev.length (Ka c.ev.length) [] [] c.co).1 else
 if JG c.ev.length (Yc c.ev.length (Ka c.ev.length) [] [] c.co).2.2 (Yc c.ev.length (Ka c.ev.length) [] [] c.co).2.1 c.rq≠0 then JG c.ev.length (Yc c.ev.length (Ka c.ev.length) [] [] c.co).2.2 (Yc c.ev.length (Ka c.ev.length) [] [] c.co).2.1 c.rq else
 YE (szs c.co) c.ex c.cs
def Vf (t:LI)(x:Exc):Bool:=x.ls.all λl=>decide (t.getD l.1.toNat 0=l.2)
def QmW (t:LI)(k:Jt):Int:=k.ts.foldl (λs p=>s+p.2*t.getD p.1.toNat 0) 0
def Uj (t:LI)(k:Jt):Bool:=decide (k.bd<QmW t k)
def fix {α:Type}(q:α→Bool):Nat→List α→Int
 | _,[]=>-1
 | i,e::l=>if q e=true then(i:Int)else fix q (i+1) l
def vio (c:ZA)(t:LI):Option (Int×Int):=
 if 0≤fix (Vf t) 0 c.ex then some (1,fix (Vf t) 0 c.ex)else if 0≤fix (Uj t) 0 c.cs then some (2,fix (Uj t) 0 c.cs)else none
def rfr (v:Int):Nat→List XC→LI→Int
 | i,x::l,s::ss=>if v∈x.a.al∧(eget x.a.ed s v).isSome=false then(i:Int)else rfr v (i+1) l ss
 | _,_,_=>-1
structure Rsn where
 st:Int
 kd:Int
 ix:Int
 ev:Int
def rfd (c:ZA)(rs:LI):LI→Option (Int×Int)
 | []=>none
 | v::l=>if 0≤rfr v 0 c.rq rs∧(c.ev.getD v.toNat ⟨.empty,false,false,false,0⟩).co=false then some (rfr v 0 c.rq rs,v)else rfd c rs l
def Qe1 (a:QO)(s:Int):LI:=(ZC a.ed s).map (·.2.1)
def rsn (c:ZA)(pl:QO)(plc:Int)(i:Nat)(t:LI):Option Rsn :=
 match vio c (t.take c.co.length)with
 | some (k,j)=>some ⟨i,k,j,-1⟩
 | none=>match rfd c (t.drop c.co.length) (Qe1 pl plc)with
  | some (j,v)=>some ⟨i,3,j,v⟩
  | none=>none
structure Spc where
 a:QO
 co:List (LI)
 rq:List (LI)
 pl:LI
 fb:List Rsn
def plx (ps:List (LI))(t:LI):Int:=if t∈ps then(ps.idxOf t:Int)else 0
def Qll (c:ZA)(pl:QO)(ps:List (LI))(s:Spc)(p:LI×Nat):Spc :=
 ⟨s.a,s.co++[p.1.take c.co.length],s.rq++[p.1.drop c.co.length],s.pl++[plx ps (p.1.take c.co.length)],
  match rsn c pl (plx ps (p.1.take c.co.length)) p.2 p.1 with|some r=>s.fb++[r]|none=>s.fb⟩
def Y1 (c:ZA):Int:=if Zk c≠0 then Zk c else if JJ (auts c.co)≠0 then JJ (auts c.co)else match sync (auts c.co)with
 | none=>3
 | some _=>if JJ (auts c.co++auts c.rq)≠0 then JJ (auts c.co++auts c.rq)else match sync (auts c.co++auts c.rq)with
  | none=>3
  | some _=>0
def syA (l:List QO):QO:=match sync l with|none=>⟨[],0,[],[]⟩|some z=>z.1
def syQ (l:List QO):List (LI):=match sync l with|none=>[]|some z=>z.2
def spc (c:ZA):Spc:=(syQ (auts c.co++auts c.rq)).zipIdx.foldl (Qll c (syA (auts c.co)) (syQ (auts c.co))) ⟨syA (auts c.co++auts c.rq),[],[],[],[]⟩
end Go.Proofs.YtjcgijbhaemldaaGreatDoor
namespace Go.Lg
section
variable {P:Program}{f:Fr}{w:World}{d:Option Nat}{ty:Nat}{ps:String}{af:Array Edge}{gd:Option (Nat×Bool)}
theorem qH {t E:Nat}[h:Bk P t]{x y:Operand}{a b:Bool}(hx:ev f x=.bool a)(hy:ev f y=.bool b):
  (execOp (ev f) ⟨d,.binOp .neq t x y E,ty,ps,af,gd⟩).run P w=.ok (.value (.bool (!(a == b)))) w:=by
 have G:(eqGuard .neq t x y (.bool a) (.bool b)).run P w=.ok () w:=by simp[eqGuard]
 simp[execOp,hx,hy,G,run_neq_bool (P:=P) (w:=w) t a b h.u]
end
inductive Pu where
 | pl (l:List (Nat×Bool))
 | f2 (pre:List (Nat×Bool)) (i j:Nat) (t1 t2:Pu)
 | f3 (pre:List (Nat×Bool)) (i j k:Nat) (t1 t2 t3:Pu)
def Pu.len:Pu→Nat
 | .pl l=>l.length
 | .f2 pre _ _ t1 _=>pre.length+(1+t1.len)
 | .f3 pre _ _ _ t1 _ _=>pre.length+(1+t1.len)
def jA (all:Array Oper):Pu→Array Bool→Bool
 | .pl l,ls=>YQ all l ls
 | .f2 pre i j t1 t2,ls=>Xn all pre ls && Region.ready .any all (Zt pre ls) == [i,j] && t1.len == t2.len && jA all t1 ((Zt pre ls).setIfInBounds i true) && jA all t2 ((Zt pre ls).setIfInBounds j true)
 | .f3 pre i j k t1 t2 t3,ls=>Xn all pre ls && Region.ready .any all (Zt pre ls) == [i,j,k] && t1.len == t2.len && t1.len == t3.len && jA all t1 ((Zt pre ls).setIfInBounds i true) && jA all t2 ((Zt pre ls).setIfInBounds j true) && jA all t3 ((Zt pre ls).setIfInBounds k true)
def Qm4 (all:List Oper)(t:Pu):Bool:=Region.noSelect all.toArray && t.len == all.length && jA all.toArray t (Array.replicate all.length false)
def XE (P:Program)(all:List Oper)(C:World→Prop)(i:Nat)(N:Fr→World→Prop)(f:Fr)(w:World):Prop:=Z6 all f (QL all i)=true∧XO P (QL all i) f w λE w'=>C w'∧N E w'
def XU (P:Program)(all:List Oper)(C:World→Prop)(K:Fr→World→Prop):Pu→Fr→World→Prop
 | .pl l=>XP P all C K l
 | .f2 pre i j t1 t2=>XP P all C (λf w=>XE P all C i (XU P all C K t1) f w∧XE P all C j (XU P all C K t2) f w) pre
 | .f3 pre i j k t1 t2 t3=>XP P all C (λf w=>XE P all C i (XU P all C K t1) f w∧XE P all C j (XU P all C K t2) f w∧XE P all C k (XU P all C K t3) f w) pre
section
variable {P:Program}{n:Nat}{f:Fr}{w:World}{all:List Oper}{C:World→Prop}{K B:Fr→World→Prop}
theorem JH (hs:Region.noSelect all.toArray=true):∀(t:Pu) (ls:Array Bool) (f:Fr) (w:World),ls.size=all.length→C w→jA all.toArray t ls=true→XU P all C K t f w→XA P all C K t.len ls f w
 | .pl l,ls,f,w,J,hC,hp,h=>Zy hs l ls f w J (.inl hC) hp h
 | .f2 pre i j t1 t2,ls,f,w,J,hC,hp,h=>by
  simp only[jA,Bool.and_eq_true,beq_iff_eq]at hp;obtain⟨⟨⟨⟨hq,E⟩,hl⟩,h1⟩,h2⟩:=hp;rw[Pu.len];refine ZM (B:=λf w=>XE P all C i (XU P all C K t1) f w∧XE P all C j (XU P all C K t2) f w) hs pre ls f w hC hq (λf G=>?_) h;have H:∀k,((Zt pre ls).setIfInBounds k true).size=all.length:=λk=>by simp[ZK,J]
  rw[MJ 1];refine YP (λT=>(by rw[T]at E;cases E)) ?_;rw[E];intro k hk o I;simp only[List.mem_cons,List.not_mem_nil,or_false]at hk;rcases hk with rfl|rfl
  ·have:=G.1;unfold XE at this;rw[Zd I]at this;rw[this.1,cond_true];exact this.2.mono λv w' hx=>⟨.inr (.inr hx.1),JH hs t1 _ _ _ (H _) hx.1 h1 hx.2⟩
  have:=G.2;unfold XE at this;rw[Zd I]at this;rw[this.1,cond_true,hl];exact this.2.mono λv w' hx=>⟨.inr (.inr hx.1),JH hs t2 _ _ _ (H _) hx.1 h2 hx.2⟩
 | .f3 pre i j k t1 t2 t3,ls,f,w,J,hC,hp,h=>by
  simp only[jA,Bool.and_eq_true,beq_iff_eq]at hp;obtain⟨⟨⟨⟨⟨⟨hq,E⟩,hl⟩,U⟩,h1⟩,h2⟩,h3⟩:=hp;rw[Pu.len];refine ZM (B:=λf w=>XE P all C i (XU P all C K t1) f w∧XE P all C j (XU P all C K t2) f w∧XE P all C k (XU P all C K t3) f w) hs pre ls f w hC hq (λf G=>?_) h;have H:∀k,((Zt pre ls).setIfInBounds k true).size=all.length:=λk=>by simp[ZK,J]
  rw[MJ 1];refine YP (λT=>(by rw[T]at E;cases E)) ?_;rw[E];intro q hk o I;simp only[List.mem_cons,List.not_mem_nil,or_false]at hk;rcases hk with rfl|rfl|rfl
  ·have:=G.1;unfold XE at this;rw[Zd I]at this;rw[this.1,cond_true];exact this.2.mono λv w' hx=>⟨.inr (.inr hx.1),JH hs t1 _ _ _ (H _) hx.1 h1 hx.2⟩
  ·have:=G.2.1;unfold XE at this;rw[Zd I]at this;rw[this.1,cond_true,hl];exact this.2.mono λv w' hx=>⟨.inr (.inr hx.1),JH hs t2 _ _ _ (H _) hx.1 h2 hx.2⟩
  have:=G.2.2;unfold XE at this;rw[Zd I]at this;rw[this.1,cond_true,U];exact this.2.mono λv w' hx=>⟨.inr (.inr hx.1),JH hs t3 _ _ _ (H _) hx.1 h3 hx.2⟩
theorem QkC {Q:Exit→Fr→World→Prop}{id:Nat}(C:World→Prop)(t:Pu)(hm:P.follows .mixedOrders=true)(E:Xb n all=true)(hp:Qm4 all t=true)
  (hC:C { w with drawn:=w.drawn+1 }) (h:XU P all C (λf w=>Q .normal f w) t f { w with drawn:=w.drawn+1 }):W P n (.region id all.toArray true) Q f w:=by
 simp only[Qm4,Bool.and_eq_true,beq_iff_eq]at hp;obtain⟨⟨hs,hl⟩,hp⟩:=hp;refine YW C hm E ?_;have h1:=JH hs t _ _ _ (by simp) hC hp h;rw[hl]at h1;exact h1
theorem uP {l:List (Nat×Bool)}(h:XP P all C K l f w):XU P all C K (.pl l) f w:=h
theorem u2 {pre:List (Nat×Bool)}{i j:Nat}{E G:Pu}(h:XP P all C (λf w=>XE P all C i (XU P all C K E) f w∧XE P all C j (XU P all C K G) f w) pre f w):XU P all C K (.f2 pre i j E G) f w:=h
theorem u3 {pre:List (Nat×Bool)}{i j k:Nat}{E G H:Pu}(h:XP P all C (λf w=>XE P all C i (XU P all C K E) f w∧XE P all C j (XU P all C K G) f w∧XE P all C k (XU P all C K H) f w) pre f w):XU P all C K (.f3 pre i j k E G H) f w:=h
theorem ue {i:Nat}{N:Fr→World→Prop}(h:XO P (QL all i) f w λE w'=>C w'∧N E w')(G:Z6 all f (QL all i)=true:=by rfl):XE P all C i N f w:=⟨G,h⟩
end
attribute [irreducible] XU XE
open Go.RowKit
abbrev fen (ro:Option Nat):Fence:={ Fence.wide with round:=ro }
def coll (ds:LN):List Deferred:=ds.map λD=>{ target:=.collected D,args:=#[] }
structure YC (n:Nat)(ds:LN)(a:Act)(f:Fr):Prop where
 size:a.tmps.size=n
 defers:a.defers=coll ds
 get:∀t,a.tmps.getD t undef=f t
theorem YC.rel {n:Nat}{ds:LN}{a:Act}{f:Fr}(h:YC n ds a f):Rel n { a with defers:=[] } f:=⟨h.size,O,h.get⟩
theorem YC.eval {n:Nat}{ds:LN}{a:Act}{f:Fr}(h:YC n ds a f):a.eval=ev f:=by
 have:=h.rel.eval;rw[←this];funext x;cases x <;> rfl
theorem YC.put {n:Nat}{ds:LN}{a:Act}{f:Fr}(h:YC n ds a f){dst:Option Nat}(hd:∀d,dst=some d→d<n)(v:Value):YC n ds (a.put dst v) (QZ f dst v):=by
 have:=h.rel.put hd v;cases dst with
 | none=>exact h
 | some d=>exact⟨this.size,h.defers,this.get⟩
def Xz:Code→Nat→Bool
 | .region _ ops _,t=>ZR ops.toList t
 | .seq a b,t=>Xz a t || Xz b t
 | .cond _ a b,t=>Xz a t || Xz b t
 | .block _ a,t=>Xz a t
 | .loop a,t=>Xz a t
 | .skip,_| .exit _,_| .label _,_| .goto _,_| .ret,_| .rangeFunc ..,_=>false
 | _,_=>true
def wrG (D:List (Nat×Nat)):Code→Bool
 | .region _ ops _=>Qc5 D ops.toList
 | .seq a b=>wrG D a && wrG D b
 | .cond _ a b=>wrG D a && wrG D b
 | .block _ a=>wrG D a
 | .loop a=>wrG D a
 | .skip| .exit _| .label _| .goto _| .ret| .rangeFunc ..=>true
 | _=>false
theorem Jb {D:List (Nat×Nat)}{t:Nat}(ht:Y8 D t=false):∀c:Code,wrG D c=true→Xz c t=false
 | .region _ ops _,h=>yg h ht
 | .seq a b,h=>by simp only[wrG,Bool.and_eq_true]at h;simp[Xz,Jb ht a h.1,Jb ht b h.2]
 | .cond _ a b,h=>by simp only[wrG,Bool.and_eq_true]at h;simp[Xz,Jb ht a h.1,Jb ht b h.2]
 | .block _ a,h=>Jb ht a (by simpa[wrG]using h)
 | .loop a,h=>Jb ht a (by simpa[wrG]using h)
 | .skip,_=>rfl
 | .exit _,_=>rfl
 | .label _,_=>rfl
 | .goto _,_=>rfl
 | .ret,_=>rfl
 | .rangeFunc ..,_=>rfl
 | .scope _,h=>by simp[wrG]at h
 | .refuse _,h=>by simp[wrG]at h
def WG (ro:Option Nat)(m:Nat)(P:Program)(n:Nat)(c:Code)(Q:Exit→LN→Fr→World→Prop)(ds:LN)(f:Fr)(w:World):Prop :=
 ∀a,YC n ds a f→c.wpIn (fen ro) m P (λe E w'=>∃ds' f',YC n ds' E f'∧(∀t,Xz c t=false→f' t=f t)∧Q e ds' f' w') a w
def Qb0 (K:LN→Fr→World→Prop)(Q:Exit→LN→Fr→World→Prop):Exit→LN→Fr→World→Prop
 | .normal,ds,f,w=>K ds f w
 | e,ds,f,w=>Q e ds f w
def Qnu (id:Nat)(Q:Exit→LN→Fr→World→Prop):Exit→LN→Fr→World→Prop
 | .exit i,ds,f,w=>bif Nat.beq i id then Q .normal ds f w else Q (.exit i) ds f w
 | e,ds,f,w=>Q e ds f w
section
variable {ro:Option Nat}{m:Nat}{P:Program}{n:Nat}{Q:Exit→LN→Fr→World→Prop}{ds:LN}{f:Fr}{w:World}
theorem WG.mono {c:Code}{Q':Exit→LN→Fr→World→Prop}(h:WG ro m P n c Q ds f w)(hq:∀e ds f w,Q e ds f w→Q' e ds f w):WG ro m P n c Q' ds f w :=
 λa ha=>wpIn_mono (h a ha) λ_ _ _ ⟨E,G,h1,h2,h3⟩=>⟨E,G,h1,h2,hq _ _ _ _ h3⟩
theorem WG.keeps {c:Code}(h:WG ro m P n c Q ds f w):WG ro m P n c (λe G E w'=>(∀t,Xz c t=false→E t=f t)∧Q e G E w') ds f w :=
 λa ha=>wpIn_mono (h a ha) λ_ _ _ ⟨G,E,h1,h2,h3⟩=>⟨G,E,h1,h2,h2,h3⟩
theorem Ya (h:Q .normal ds f w):WG ro m P n .skip Q ds f w:=λ_ ha=>wpIn_skip ⟨ds,f,ha,λ_ _=>O,h⟩
theorem JX {i:Nat}(h:Q (.exit i) ds f w):WG ro m P n (.exit i) Q ds f w:=λ_ ha=>wpIn_exit ⟨ds,f,ha,λ_ _=>O,h⟩
theorem KI (h:Q .ret ds f w):WG ro m P n .ret Q ds f w:=λ_ ha=>wpIn_ret ⟨ds,f,ha,λ_ _=>O,h⟩
theorem Q6 {x y:Code}(h:WG ro m P n x (Qb0 (λds f w=>WG ro m P n y Q ds f w) Q) ds f w):WG ro m P n (.seq x y) Q ds f w:=by
 intro a ha;refine wpIn_seq (wpIn_mono (h a ha) ?_);rintro e H w' ⟨G,E,h1,h2,h3⟩;have k1:∀t,Xz (.seq x y) t=false→E t=f t:=λt ht=>h2 t (by simp only[Xz,Bool.or_eq_false_iff]at ht;exact ht.1);cases e with
 | normal =>
  refine wpIn_mono (h3 H h1) λ_ _ _ ⟨I,J,T,U,V⟩=>⟨I,J,T,λt ht=>(U t ?_).trans (k1 t ht),V⟩;simp only[Xz,Bool.or_eq_false_iff]at ht;exact ht.2
 | exit id=>exact⟨G,E,h1,k1,h3⟩
 | goto l=>exact⟨G,E,h1,k1,h3⟩
 | ret=>exact⟨G,E,h1,k1,h3⟩
 | panic ch=>exact⟨G,E,h1,k1,h3⟩
 | outgrown=>exact⟨G,E,h1,k1,h3⟩
theorem Qlb {α:Type}{x y:Code}(D:List (Nat×Nat))(S:α→List (Nat×Value))(I:α→LN→World→Prop)(hD:wrG D x=true)
  (h1:WG ro m P n x (Qb0 (λE G w'=>∃z,YL G (S z)∧I z E w') Q) ds f w)
  (h2:∀z g E w',I z E w'→WG ro m P n y Q E (Vg (S z) (mix D f g)) w'):WG ro m P n (.seq x y) Q ds f w:=by
 refine Q6 (h1.keeps.mono ?_);rintro e E G w' ⟨hk,hq⟩;cases e with
 | normal =>
  obtain⟨z,hs,hi⟩:=hq;have h3:=h2 z G E w' hi;rw[Y4 (λt ht=>hk t (Jb ht x hD)),Ym hs]at h3;exact h3
 | exit id=>exact hq
 | goto l=>exact hq
 | ret=>exact hq
 | panic ch=>exact hq
 | outgrown=>exact hq
theorem KJ {c:Operand}{x y:Code}{t:Bool}(hc:ev f c=.bool t)(ht:t=true→WG ro m P n x Q ds f w)(E:t=false→WG ro m P n y Q ds f w):
  WG ro m P n (.cond c x y) Q ds f w:=by
 intro a ha;have G:a.eval c=.bool t:=by rw[ha.eval];exact hc
 refine wpIn_cond_split G (λe=>wpIn_mono (ht e a ha) ?_) (λe=>wpIn_mono (E e a ha) ?_) <;>
  (rintro e J w' ⟨H,I,h1,h2,h3⟩
   refine⟨H,I,h1,λt ht=>h2 t ?_,h3⟩;simp only[Xz,Bool.or_eq_false_iff]at ht
   first|exact ht.1|exact ht.2)
theorem Qmw {c:Operand}{x y:Code}{p:Prop}[Decidable p](hc:ev f c=.bool (decide p))(ht:p→WG ro m P n x Q ds f w)(E:¬p→WG ro m P n y Q ds f w):
  WG ro m P n (.cond c x y) Q ds f w :=
 KJ hc (λe=>ht (of_decide_eq_true e)) (λe=>E (of_decide_eq_false e))
theorem zP {c:Operand}{x y:Code}{p:Prop}[Decidable p](hc:ev f c=.bool (decide p))(E:¬p→WG ro m P n y Q ds f w)(ht:p→WG ro m P n x Q ds f w):
  WG ro m P n (.cond c x y) Q ds f w:=Qmw hc ht E
theorem Qag {c:Operand}{x y:Code}(hc:ev f c=.bool true)(h:WG ro m P n x Q ds f w):WG ro m P n (.cond c x y) Q ds f w:=KJ hc (λ_=>h) (λe=>by cases e)
theorem K3 {c:Operand}{x y:Code}(hc:ev f c=.bool false)(h:WG ro m P n y Q ds f w):WG ro m P n (.cond c x y) Q ds f w:=KJ hc (λe=>by cases e) (λ_=>h)
theorem ZP {id:Nat}{c:Code}(h:WG ro m P n c (Qnu id Q) ds f w):WG ro m P n (.block id c) Q ds f w:=by
 intro a ha;refine wpIn_block (wpIn_mono (h a ha) ?_);rintro e H w' ⟨G,E,h1,h2,h3⟩;have k1:∀t,Xz (.block id c) t=false→E t=f t:=λt ht=>h2 t (by simpa[Xz]using ht);cases e with
 | exit i =>
  simp only[Exit.inBlock];simp only[Qnu]at h3;by_cases hi:i=id
  ·subst hi;simp only[Nat.beq_refl,cond_true]at h3;simp only[if_true];exact⟨G,E,h1,k1,h3⟩
  have hb:Nat.beq i id=false:=by
   cases e:Nat.beq i id with
   | false=>rfl
   | true=>exact absurd (Nat.eq_of_beq_eq_true e) hi
  rw[hb]at h3;rw[if_neg hi];exact⟨G,E,h1,k1,h3⟩
 | normal=>exact⟨G,E,h1,k1,h3⟩
 | goto l=>exact⟨G,E,h1,k1,h3⟩
 | ret=>exact⟨G,E,h1,k1,h3⟩
 | panic ch=>exact⟨G,E,h1,k1,h3⟩
 | outgrown=>exact⟨G,E,h1,k1,h3⟩
end
def QaT (l:List Oper):Bool:=l.all λo=>match o.op with| .defer _=>false|_=>true
theorem Vm {l:List Oper}(h:QaT l=true):∀o∈l,∀c,o.op≠.defer c:=λo E c e=>by
 have:=LU.1 h o E;rw[e]at this;cases this
section
variable {ro:Option Nat}{m:Nat}{P:Program}{n:Nat}{ds:LN}
theorem Qeo {o:Oper}{a:Act}{f:Fr}{w:World}{K:Fr→World→Prop}{K':Act→World→Prop}{Q:Exit→Act→World→Prop}(h:YC n ds a f)(G:∀c,o.op≠.defer c)
  (E:∀v w',K (QZ f o.dst v) w'→K' (a.put o.dst v) w') (hx:XO P o f w K):o.wpIn (fen ro) m P a w K' Q:=by
 unfold XO at hx;refine⟨λ_ _=>trivial,?_⟩;have e:Oper.semAt (fen ro).round a.eval o=execOp (ev f) o:=by
  rw[h.eval];cases ro with
  | none=>rfl
  | some l=>exact Oper.semAt_some l _ _ G
 rw[e];generalize (execOp (ev f) o).run P w=r at hx;cases r with
 | ok nx w' =>
  cases nx <;> simp only[upF]at hx <;> simp only[Oper.uponIn]
  case value v=>exact E v w' hx
  case skip=>exact E _ w' hx
  case enter g args =>
   refine⟨λh=>by simp[Fence.wide]at h,?_⟩;refine(callsIn_wide (n:=m - 1)).2 (Calls.mono hx λe H he=>?_);cases e with
   | returned v=>exact E v H he
   | panicked c=>exact he.elim
   | outgrown=>exact he.elim
 | halt x w'=>exact hx.elim
theorem Ve {l:List Oper}{a:Act}{f:Fr}(h:YC n ds a f)(E:∀o∈l,∀d,o.dst=some d→d<n)(o:Oper):Region.wanted o (yielded l.toArray a.tmps)=Z6 l f o:=Uh h.rel E o
theorem Qeq {Q:Exit→LN→Fr→World→Prop}{all:List Oper}(G:∀o∈all,∀d,o.dst=some d→d<n)(hd:∀o∈all,∀c,o.op≠.defer c)(f0:Fr):
  ∀(l:List Oper) (k:Nat) (a:Act) (f:Fr) (w:World),(∀j,l[j]?=all[k+j]?)→YC n ds a f→(∀t,ZR all t=false→f t=f0 t) →
   XL P all (λf w=>Q .normal ds f w) l f w →
   wpOpsIn (fen ro) m P all.toArray (λe T w'=>∃ds' f',YC n ds' T f'∧(∀t,ZR all t=false→f' t=f0 t)∧Q e ds' f' w') (List.range' k l.length) a w
 | [],_,a,f,w,_,E,hk,h=>⟨ds,f,E,hk,by unfold XL at h;exact h⟩
 | o::l,k,a,f,w,hl,E,hk,h=>by
  have I:all[k]?=some o:=by simpa using(hl 0).symm
  have H:o∈all:=Md I;have ih:=λa f w=>Qeq (Q:=Q) G hd f0 l (k+1) a f w (λj=>by have:=hl (j+1);simpa[Nat.add_assoc,Nat.add_comm 1 j]using this);have next:∀v,(∀t,ZR all t=false→QZ f o.dst v t=f0 t):=λv t ht=>(ZT (XW H ht) v).trans (hk t ht);simp only[List.length_cons,List.range'_succ,wpOpsIn,List.getElem?_toArray,I];rw[Ve E G o];unfold XL at h;cases J:Z6 all f o with
  | false =>
   rw[J]at h;exact⟨λ_ _=>trivial,ih _ _ _ (E.put (G o H) _) (next _) h⟩
  | true =>
   rw[J]at h;exact Qeo E (hd o H) (λv w' hx=>ih _ _ _ (E.put (G o H) v) (next v) hx) h
theorem QJ {Q:Exit→LN→Fr→World→Prop}{f:Fr}{w:World}{id:Nat}{l:List Oper}(E:Xb n l=true)(hd:QaT l=true)(h:XL P l (λf w=>Q .normal ds f w) l f w):WG ro m P n (.region id l.toArray false) Q ds f w:=by
 intro a ha;refine wpIn_region ?_;have:=Qeq (ro:=ro) (m:=m) (YS E) (Vm hd) f l 0 a f w (by simp) ha (λ_ _=>rfl) h;simpa[List.range_eq_range',Xz]using this
attribute [local semireducible] XA in
theorem qk {Q:Exit→Act→World→Prop}{all:List Oper}{C:World→Prop}{K:Fr→World→Prop}(G:∀o∈all,∀d,o.dst=some d→d<n)(hd:∀o∈all,∀c,o.op≠.defer c)(f0:Fr)
  (H:∀a f w,YC n ds a f→(∀t,ZR all t=false→f t=f0 t)→K f w→Q .normal a w):
  ∀(k:Nat) (ls:Array Bool) (a:Act) (f:Fr) (w:World),YC n ds a f→(∀t,ZR all t=false→f t=f0 t)→XA P all C K k ls f w→wpAnyIn (fen ro) m P .any all.toArray Q k ls a w
 | 0,_,a,f,w,E,hk,h=>⟨h.1,H a f w E hk h.2⟩
 | k+1,ls,a,f,w,E,hk,h=>by
  refine⟨λU=>H a f w E hk (h.1 U),λi hi=>?_⟩;unfold wpOpIn;simp only[List.getElem?_toArray];cases J:all[i]? with
  | none =>
   exfalso;obtain⟨_,o,V,_⟩:=mem_ready.1 hi;simp[J]at V
  | some o =>
   have I:o∈all:=Md J;have h1:=h.2 i hi o J;have next:∀v,(∀t,ZR all t=false→QZ f o.dst v t=f0 t):=λv t ht=>(ZT (XW I ht) v).trans (hk t ht);simp only[];rw[Ve E G o];cases T:Z6 all f o with
   | false =>
    rw[T]at h1;exact⟨λ_ _=>trivial,qk G hd f0 H k _ _ _ _ (E.put (G o I) _) (next _) h1⟩
   | true =>
    rw[T]at h1;exact Qeo E (hd o I) (λv w' hx=>qk G hd f0 H k _ _ _ _ (E.put (G o I) v) (next v) hx.2) h1
theorem Qah {Q:Exit→LN→Fr→World→Prop}{f:Fr}{w:World}{all:List Oper}{id:Nat}(C:World→Prop)(pl:List (Nat×Bool))(hm:P.follows .mixedOrders=true)(G:Xb n all=true)(hd:QaT all=true)(hp:jD all pl=true)
  (hC:C { w with drawn:=w.drawn+1 }) (h:XP P all C (λf w=>Q .normal ds f w) pl f { w with drawn:=w.drawn+1 }):WG ro m P n (.region id all.toArray true) Q ds f w:=by
 intro a ha;simp only[jD,Bool.and_eq_true,beq_iff_eq]at hp;obtain⟨⟨hs,hl⟩,hp⟩:=hp;refine wpIn_region_any hm ?_;have h1:=Zy hs pl _ _ _ (by simp) (.inl hC) hp h;rw[hl]at h1;have h2:=qk (ro:=ro) (m:=m) (n:=n) (ds:=ds) (Q:=λe H w'=>∃ds' E,YC n ds' H E∧(∀t,ZR all t=false→E t=f t)∧Q e ds' E w') (YS G) (Vm hd) f
  (λa E w I hk hq=>⟨ds,E,I,hk,hq⟩) _ _ a f _ ha (λ_ _=>O) h1
 simpa[Xz]using h2
end
section
variable {ro:Option Nat}{m:Nat}{P:Program}{n:Nat}{Q:Exit→LN→Fr→World→Prop}{ds:LN}{f:Fr}{w:World}
theorem US {α:Type}{F:Fence}{c:Code}{Q:Exit→Act→World→Prop}{a:Act}{w:World}(J:α→Act→World→Prop)(μ:α→Nat)(z:α)(h₀:J z a w)
  (round:∀x a w,J x a w→c.wpIn F m P (Exit.then (λG w'=>∃H,μ H<μ x∧J H G w') Q) a w):(Code.loop c).wpIn F m P Q a w:=by
 intro b k cs T hb I;have key:∀j x a w,μ x=j→J x a w →
   ∃e G w',Q e G w'∧ArrivesIn (Machine.fenced P F) P (lone (b.atR a (.code c::.inLoop c::k)) cs w) b k cs e G w':=by
  intro j;induction j using Nat.strongRecOn with
  | _ j ih =>
   intro x a w U V;obtain⟨e,a₁,w₁,hq,E⟩:=round x a w V b (.inLoop c::k) cs T hb I;cases e with
   | normal =>
    obtain⟨H,Y,ha⟩:=hq;obtain⟨e₂,a₂,w₂,hq₂,harr₂⟩:=ih (μ H) (U ▸ Y) H a₁ w₁ O ha;exact⟨e₂,a₂,w₂,hq₂,.of_steps (StepsIn.trans E (.one (fenced_calm hb I O) stepR_inLoop)) harr₂⟩
   | exit id=>exact⟨_,a₁,w₁,hq,.pass (x:=.inLoop c) O (λ_ _=>.inl (by simp)) E⟩
   | goto l=>exact⟨_,a₁,w₁,hq,.pass (x:=.inLoop c) O (λ_ _=>.inl (by simp)) E⟩
   | ret=>exact⟨_,a₁,w₁,hq,.pass (x:=.inLoop c) O (λ_ _=>.inl (by simp)) E⟩
   | panic ch=>exact⟨_,a₁,w₁,hq,.pass (x:=.inLoop c) O (λ_ _=>.inl (by simp)) E⟩
   | outgrown=>exact⟨_,a₁,w₁,hq,.pass (x:=.inLoop c) O (λ_ _=>.inl (by simp)) E⟩
 obtain⟨e,G,w',hq,E⟩:=key _ z a w O h₀;exact⟨e,G,w',hq,.of_steps (.one (fenced_calm hb I O) stepR_loop) E⟩
theorem Vy {α:Type}{c:Code}(D:List (Nat×Nat))(S:α→List (Nat×Value))(I:α→LN→World→Prop)(μ:α→Nat)(hD:wrG D c=true)(z:α)
  (h0:YL f (S z)) (hI:I z ds w)
  (round:∀x g H w',I x H w'→WG ro m P n c (Qb0 (λE J hb=>∃V,μ V<μ x∧YL J (S V)∧I V E hb) Q) H (Vg (S x) (mix D f g)) w'):WG ro m P n (.loop c) Q ds f w:=by
 intro a ha;refine US (λ(x:α) Y w'=>∃H J,YC n H Y J∧(∀t,Xz c t=false→J t=f t)∧YL J (S x)∧I x H w') μ z ⟨ds,f,ha,λ_ _=>O,h0,hI⟩ ?_;rintro x Y w' ⟨H,J,h1,h2,h3,h4⟩;have h5:=round x J H w' h4;rw[Y4 (λt ht=>h2 t (Jb ht c hD)),Ym h3]at h5;refine wpIn_mono (h5 Y h1) ?_;rintro e hc hb ⟨E,G,T,g2,U⟩;have k1:∀t,Xz c t=false→G t=f t:=λt ht=>(g2 t ht).trans (h2 t ht)
 have k2:∀t,Xz (.loop c) t=false→G t=f t:=λt ht=>k1 t (by simpa[Xz]using ht);cases e with
 | normal=>obtain⟨V,hm,hs,hi⟩:=U;exact⟨V,hm,E,G,T,k1,hs,hi⟩
 | exit id=>exact⟨E,G,T,k2,U⟩
 | goto l=>exact⟨E,G,T,k2,U⟩
 | ret=>exact⟨E,G,T,k2,U⟩
 | panic ch=>exact⟨E,G,T,k2,U⟩
 | outgrown=>exact⟨E,G,T,k2,U⟩
end
def rqG (P:Program)(rs:List ResultVar)(R:Value→World→Prop):Exit→LN→Fr→World→Prop
 | .normal,ds,f,w=>(∀D∈ds,w.heap[D]?=some (.deferred (some [])))∧ds.Nodup∧∃vs,∀w',Step ds w w'→Uf P f w' rs vs∧R (tup vs) w'
 | .ret,ds,f,w=>(∀D∈ds,w.heap[D]?=some (.deferred (some [])))∧ds.Nodup∧∃vs,∀w',Step ds w w'→Uf P f w' rs vs∧R (tup vs) w'
 | _,_,_,_=>False
theorem Step.putObj (w:World)(D:Nat)(o:Obj):Step [D] w (w.putObj D o):=⟨O,O,O,by simp,λk _ hk=>World.putObj_heap_other (λe=>hk (by simp[e]))⟩
theorem qR {F:Fence}{m:Nat}{P:Program}{fn:Func}{tmps:Array Value}{R:Ending→World→Prop}:∀(ds:LN) (w:World),(∀D∈ds,w.heap[D]?=some (.deferred (some [])))→ds.Nodup →
  (∀w',Step ds w w'→∃v,(results fn tmps).run P w'=.ok v w'∧R (.returned v) w')→LeavesInM F m P fn tmps R (coll ds) .returning w
 | [],w,_,_,h=>h w (Step.refl _ _)
 | D::ds,w,hD,H,h=>by
  refine⟨by simp,.inl ⟨D,_,rfl,run_takeDeferred (hD D Lp),?_⟩⟩;have hs:=Step.putObj w D (.deferred none);have G:=List.nodup_cons.1 H;refine qR ds _ (λE hE=>?_) G.2 (λw' I=>h w' ?_)
  ·rw[World.putObj_heap_other (λe=>G.1 (by rw[←e];exact hE))];exact hD E (Lk _ hE)
  exact(hs.mono (λb hb=>by simp at hb;simp[hb])).trans' (I.mono (λb hb=>Lk _ hb))
theorem QE.of_G {P:Program}{g:Nat}{fn:Func}{c:Code}{args:LV}{w:World}{R:Value→World→Prop}{n:Nat}{rs:List ResultVar}(m:Nat)
  (T:P.funcs[g]?=some fn) (hb:fn.body=some c) (U:fn.ntmps=n) (V:fn.results=rs.toArray) (hl:args.length≤n)
  (h:WG none m P n c (rqG P rs R) [] (ent args) w):QE P g args w R:=by
 unfold QE;refine(callsIn_wide (n:=m)).1 (callsIn_of_wp_marks T hb Z (wpIn_mono (h _ ?_) ?_))
 ·refine⟨by simp[U];omega,O,λt=>?_⟩;have key:∀(l:LV) (t:Nat),l[t]?.getD undef=ent l t:=by
   intro l;induction l with
   | nil=>intro t;rfl
   | cons v l ih=>intro t;cases t with|zero=>rfl|succ t=>simpa[ent]using ih t
  rw[←key];simp only[Array.getD_eq_getD_getElem?,Array.getElem?_append,List.size_toArray,List.getElem?_toArray];by_cases ht:t<args.length
  ·simp[ht]
  simp[ht,Array.getElem?_replicate];split <;> rfl
 rintro e H w' ⟨G,Y,h1,_,h3⟩;have fin:((∀D∈G,w'.heap[D]?=some (.deferred (some [])))∧G.Nodup∧∃vs,∀E,Step G w' E→Uf P Y E rs vs∧R (tup vs) E) →
   LeavesInM Fence.wide m P fn H.tmps (λe w'=>match e with| .returned v=>R v w'|_=>False) H.defers .returning w':=by
  rintro⟨hd,ha,vs,I⟩;rw[h1.defers];refine qR G w' hd ha λE J=>⟨tup vs,?_,(I E J).2⟩;simp only[results,V,List.mapM_toArray,Sem.run_bind,Sem.run_map];rw[Jd (a:={ H with defers:=[] }) h1.rel _ (λ_=>rfl) (λ_ _=>rfl) rs vs (I E J).1]
  cases vs with
  | nil=>rfl
  | cons v vs=>cases vs with|nil=>rfl|cons u us=>rfl
 cases e with
 | normal=>exact fin h3
 | ret=>exact fin h3
 | exit id=>exact h3.elim
 | goto l=>exact h3.elim
 | panic c=>exact h3.elim
 | outgrown=>exact h3.elim
attribute [irreducible] WG
end Go.Lg
namespace Go.Proofs.YtjcgijbhaemldaaGreatDoor
open Go.Proofs.Tryz
open Go.Lg
def IxQ {α:Type}(q:α→Bool)(es:List α)(r:Value):Prop:=(r=.int .i64 (-1)∧∀m (hm:m<es.length),q (es[m]'hm)=false)∨∃(i:Nat) (hi:i<es.length),r=.int .i64 i∧q (es[i]'hi)=true∧∀m (hm:m<i),q (es[m]'(by omega))=false
theorem QjL {g:Nat}{fn:Func}[Fu prog g fn]{cap:LV}{q:Ed→Bool}{L:LN}{w:World}{v:Value}{es:List Ed}(h:qm L w.heap v es)
  (hk:∀(e:Ed) (E:World),Step [] w E→QE prog g ([.agg (QD e).toArray]++cap) E λr w'=>r=.bool (q e)∧Step [] E w'):
  QE prog 228 [v,.func (.func g) #[] cap.toArray] w λr w'=>Step [] w w'∧IxQ q es r:=by
 have V:=h.le;refine QE.of_W func228 O ntmps228 results228 (by simp) ?_;refine Qc<|Qe<|Qg<|Qc<|Qb<|x (Qr h O)<|Qb<|xe<|Qh<|QA (α:=Nat) [(4,5),(8,18)] (λz=>[(8,.int .i64 z)]) (λz w'=>z≤es.length∧Step [] w w'∧∀m (hm:m<es.length),m<z→q (es[m]'hm)=false) (λz=>es.length - z) (by rfl) 0 La ⟨Ll _,Step.refl _ _,λm _ T=>absurd T (Nb m)⟩ ?_;rintro k Y E ⟨hk1,G,hq⟩
 refine Qc<|x (Qz O O)<|xe<|Qg<|QC O (λh9=>?_) (λh9=>?_)
 ·refine Qy<|Qc<|Qe ?_;exact Qk ⟨[.int .i64 (-1)],La,G,.inl ⟨O,λm hm=>hq m hm (by omega)⟩⟩
 have H:k<es.length:=by omega
 refine Qi<|Qg<|Qh<|Qc<|Qb<|Qe<|Qc<|Qb<|Qb<|Qb<|xie (h.ext G) O O H λha U=>x (QI U O O)<|xl O<|xc (first:=[]) (capt:=cap) O<|(hk (es[k]'H) E G).mono ?_;rintro r2 w2 ⟨rfl,J⟩;refine xe<|QY rfl (λI=>?_) (λI=>?_)
 ·refine Qc<|Qb<|Qe ?_;exact Qk ⟨[.int .i64 k],La,G.trans J,.inr ⟨k,H,O,I,λm hm=>hq m (by omega) hm⟩⟩
 refine Qi<|Qx<|QM O O<|Qb<|xe<|⟨k+1,by omega,La,H,G.trans J,λm hm hb=>?_⟩;by_cases e:m=k
 ·subst e;exact I
 exact hq m hm (by omega)
theorem QjK {g:Nat}{fn:Func}[Fu prog g fn]{cap:LV}{q:Int→Bool}{L:LN}{w:World}{v:Value}{es:LI}(h:QH L w.heap v es)
  (hk:∀(e:Int) (E:World),Step [] w E→QE prog g ([.int .i64 e]++cap) E λr w'=>r=.bool (q e)∧Step [] E w'):
  QE prog 111 [v,.func (.func g) #[] cap.toArray] w λr w'=>Step [] w w'∧IxQ q es r:=by
 have V:=h.le;refine QE.of_W func111 O ntmps111 results111 (by simp) ?_;refine Qc<|Qe<|Qg<|Qc<|Qb<|x (Qr h O)<|Qb<|xe<|Qh<|QA (α:=Nat) [(4,5),(8,18)] (λz=>[(8,.int .i64 z)]) (λz w'=>z≤es.length∧Step [] w w'∧∀m (hm:m<es.length),m<z→q (es[m]'hm)=false) (λz=>es.length - z) (by rfl) 0 La ⟨Ll _,Step.refl _ _,λm _ T=>absurd T (Nb m)⟩ ?_;rintro k Y E ⟨hk1,G,hq⟩
 refine Qc<|x (Qz O O)<|xe<|Qg<|QC O (λh9=>?_) (λh9=>?_)
 ·refine Qy<|Qc<|Qe ?_;exact Qk ⟨[.int .i64 (-1)],La,G,.inl ⟨O,λm hm=>hq m hm (by omega)⟩⟩
 have H:k<es.length:=by omega
 refine Qi<|Qg<|Qh<|Qc<|Qb<|Qe<|Qc<|Qb<|Qb<|Qb<|xii (h.ext G) O O H λha U=>x (Qv U O)<|xl O<|xc (first:=[]) (capt:=cap) O<|(hk (es[k]'H) E G).mono ?_;rintro r2 w2 ⟨rfl,J⟩;refine xe<|QY rfl (λI=>?_) (λI=>?_)
 ·refine Qc<|Qb<|Qe ?_;exact Qk ⟨[.int .i64 k],La,G.trans J,.inr ⟨k,H,O,I,λm hm=>hq m (by omega) hm⟩⟩
 refine Qi<|Qx<|QM O O<|Qb<|xe<|⟨k+1,by omega,La,H,G.trans J,λm hm hb=>?_⟩;by_cases e:m=k
 ·subst e;exact I
 exact hq m hm (by omega)
theorem Qd6 {g:Nat}{fn:Func}[Fu prog g fn]{cap:LV}{q:Int→Bool}{L:LN}{w:World}{v:Value}{es:LI}(h:QH L w.heap v es)
  (hk:∀(e:Int) (G:World),Step [] w G→QE prog g ([.int .i64 e]++cap) G λr w'=>r=.bool (q e)∧Step [] G w'):
  QE prog 153 [v,.func (.func g) #[] cap.toArray] w λr w'=>r=.bool (es.any q)∧Step [] w w':=by
 refine QE.of_W func153 O ntmps153 results153 (by simp) ?_;refine Qc<|Qe<|Qc<|Qb<|Qb<|xl O<|xf<|(QjK h hk).mono ?_;rintro J G ⟨H,E⟩;refine Or.elim E (λE=>?_) (λE=>?_)
 ·obtain⟨rfl,hq⟩:=E;have e:es.any q=false:=by
   rw[Nr];intro z I;obtain⟨i,hi,rfl⟩:=LF I;rw[hq i hi];simp
  refine x (ZN O O)<|Qe ?_;exact Qk ⟨[.bool false],La,by rw[e];rfl,H⟩
 obtain⟨i,hi,rfl,h1,_⟩:=E;have e:es.any q=true:=M6.2 ⟨_,Li hi,h1⟩;have e2:decide ((0:Int)≤(i:Int))=true:=by simp
 refine x (ZN O O)<|Qe ?_;exact Qk ⟨[.bool (decide ((0:Int)≤(i:Int)))],La,by rw[e,e2];rfl,H⟩
theorem Qji (es:List Ed)(s v:Int):nxt es s v=nxt (ZC es s) s v:=by
 induction es with
 | nil=>rfl
 | cons e es ih =>
  unfold ZC at *;rw[Ma];by_cases h:e.1=s
  ·rw[if_pos (by simpa using h),nxt,nxt,ih]
  rw[if_neg (by simpa using h),nxt,if_neg (λc=>h c.1),ih]
theorem Qgx:∀(l:List Ed) (s v:Int) (i:Nat) (hi:i<l.length),(∀e∈l,e.1=s)→(l[i]'hi).2.1=v→(∀m (hm:m<i),(l[m]'(by omega)).2.1≠v)→nxt l s v=(l[i]'hi).2.2
 | e::l,s,v,0,_,hs,E,_=>by rw[nxt,if_pos ⟨hs e Lp,E⟩];rfl
 | e::l,s,v,i+1,hi,hs,E,hm=>by
  rw[nxt,if_neg (λc=>hm 0 (by omega) c.2)];exact Qgx l s v i (by simpa using hi) (λe he=>hs e (Lk _ he)) E (λm G=>hm (m+1) (by omega))
theorem Qgt:∀(l:List Ed) (s v:Int),(∀e∈l,e.2.1≠v)→nxt l s v=-1
 | [],_,_,_=>rfl
 | e::l,s,v,h=>by rw[nxt,if_neg (λc=>h e Lp c.2)];exact Qgt l s v (λe he=>h e (Lk _ he))
theorem QgC {b T:Nat}{n:Int}(e:Ed)(w:World)(G:QT w.heap b T [.int .i64 n]):
  QE prog 229 ([.agg (QD e).toArray]++[.pointer (some ⟨b,0,none⟩)]) w λr w'=>r=.bool (decide (e.2.1=n))∧Step [] w w':=by
 refine QE.of_W func229 O ntmps229 results229 (by simp) ?_;refine Qc<|xl O<|QQ (us:=QD e) O λI J E U H=>Qe<|Qc<|x (Qa O)<|x (Qd H O O)<|x (Qd (G.ext E) O O)<|x (Zl O O)<|Qe ?_;exact Qk ⟨[_],La,O,E⟩
theorem QbH {L:LN}{w:World}{va vm ve:Value}{st:Int}{a:QO}(h:qm L w.heap ve a.ed)(G:Q2 a)(s v:Int)(ha:0≤s)(I:s<a.st):
  QE prog 198 [.agg #[va,.int .i64 st,vm,ve],.int .i64 s,.int .i64 v] w λr w'=>r=.int .i64 (nxt a.ed s v)∧Step [] w w':=by
 have hh:=G.st1;refine QE.of_W func198 O ntmps198 results198 (by simp) ?_;refine Qc<|xl O<|QQ (us:=[va,.int .i64 st,vm,ve]) O λb3 w1 I hj hb=>xl O<|QQ (us:=[.int .i64 v]) O λb5 w2 J hk hc=>Qe<|Qc<|x (Qn (hb.ext J) O O)<|Qb<|xl O<|xf<|(Qch ((h.ext I).ext J) G.eds (λe he=>⟨(G.ed e he).1,by have:=(G.ed e he).2.1;omega⟩) s ha (by omega)).mono ?_;rintro vo w3 ⟨T,hE⟩;refine Qe ?_
 have hf:∀e∈ZC a.ed s,e.1=s:=λe he=>(Ys he).2;rw[Qji];refine Qc<|Qb<|x (Zn (l:=[]) (l':=[.tmp 5]))<|xl O<|xf<|(QjL (q:=λe=>decide (e.2.1=v)) (cap:=[.pointer (some ⟨b5,0,none⟩)]) hE (λe U H=>QgC e U ((hc.ext T).ext H))).mono ?_;rintro r4 U ⟨H,E⟩;have V:=((I.trans J).trans T).trans H;refine Or.elim E (λE=>?_) (λE=>?_)
 ·obtain⟨rfl,hq⟩:=E;have e1:nxt (ZC a.ed s) s v=-1:=Qgt _ _ _ λe he=>by
   obtain⟨i,hi,rfl⟩:=LF he;simpa using hq i hi
  rw[e1];refine Qe<|Qg<|Qc<|Qb<|x (Qz O O)<|xe<|Vx O ?_;refine Qc<|Qe ?_;exact Qk ⟨[.int .i64 (-1)],La,O,V⟩
 obtain⟨i,hi,rfl,h1,h2⟩:=E;have e1:nxt (ZC a.ed s) s v=((ZC a.ed s)[i]'hi).2.2:=Qgx _ s v i hi hf (by simpa using h1) (λm hm=>by simpa using h2 m hm);rw[e1];refine Qe<|Qg<|Qc<|Qb<|x (Qz O O)<|xe<|Q4 O (λY=>absurd Y (by omega)) (λY=>?_);refine Qi<|Qc<|Qb<|Qb<|xie (hE.ext H) O O hi λhl hg=>x (Zg O)<|x (Qv (hg.fld 2 _ O) O)<|Qe ?_;exact Qk ⟨[_],La,O,V⟩
def flw (a:QO):Int→LI→Int×Nat
 | s,[]=>(s,0)
 | s,v::u=>if nxt a.ed s v<0 then(s,0)else((flw a (nxt a.ed s v) u).1,(flw a (nxt a.ed s v) u).2+1)
theorem Qgu {a:QO}(E:Q2 a){s v:Int}(h:¬nxt a.ed s v<0):nxt a.ed s v<a.st:=(E.ed _ (jG (by omega))).2.2.2.2
theorem yN {L L':LN}{w:World}{va vm ve vw:Value}{st:Int}{a:QO}{u:LI}(h:qm L w.heap ve a.ed)(H:QH L' w.heap vw u)(U:Q2 a)(s:Int)(he:0≤s)(V:s<a.st):
  QE prog 161 [.agg #[va,.int .i64 st,vm,ve],.int .i64 s,vw] w λr w'=>r=.tuple #[.int .i64 (flw a s u).1,.int .i64 (flw a s u).2]∧Step [] w w':=by
 have hj:=H.le;refine QE.of_W func161 O ntmps161 results161 (by simp) ?_;refine Qc<|xl O<|QQ (us:=[va,.int .i64 st,vm,ve]) O λb3 w1 V hl hg=>x Qf<|Qe<|Qg<|Qc<|Qb<|x (Qr H O)<|Qb<|xe ?_
 refine Qh<|QA (α:=Nat×Int) [(1,1),(6,10),(13,27)] (λz=>[(1,.int .i64 z.2),(13,.int .i64 z.1)]) (λz w'=>z.1≤u.length∧0≤z.2∧z.2<a.st∧Step [] w1 w'∧flw a s u=((flw a z.2 (u.drop z.1)).1,(flw a z.2 (u.drop z.1)).2+z.1)) (λz=>u.length - z.1) (by rfl) (0,s) ⟨O,O,Z⟩ ⟨Ll _,he,by assumption,Step.refl _ _,by simp⟩ ?_;rintro⟨k,t⟩ g w2 ⟨hk,Y,ha,T,E⟩;simp only[]at hk Y ha E
 have I:=V.trans T;refine Qc<|x (Qz O O)<|xe<|Qg<|QC O (λhb=>?_) (λhb=>?_)
 ·refine Qy<|Qc<|Qb<|Qb<|x (Qr H O)<|x Qf<|Qe ?_;rw[Ls (by omega)]at E;have hh:k=u.length:=by have hm:¬(k:Int)<(u.length:Int):=hb;omega
  refine Qk ⟨[.int .i64 t,.int .i64 u.length],⟨O,O,Z⟩,?_,I⟩;rw[E,hh];simp[flw,tup]
 have G:k<u.length:=by omega
 rw[Q9 G,flw]at E;refine Qi<|Qg<|Qh<|Qc<|Qb<|xii (H.ext I) O O G λhp hi=>x (Qv hi O)<|x Qf<|Qe<|Qc<|x (Qn (hg.ext T) O O)<|Qb<|Qb<|xl O<|xf<|(QbH (h.ext I) U t (u[k]'G) Y ha).mono ?_;rintro r3 w3 ⟨rfl,hc⟩;refine Qe<|Qg<|Qc<|Qb<|x (Qz O O)<|xe<|Q4 rfl (λJ=>?_) (λJ=>?_)
 ·rw[if_pos J]at E;refine Qc<|Qb<|Qb<|x Qf<|Qe<|Qk ⟨[.int .i64 t,.int .i64 k],⟨O,O,Z⟩,?_,I.trans hc⟩;rw[E];simp[tup]
 rw[if_neg J]at E;have hn:=Qgu U J;refine Qi<|Qx<|Qb<|Qe<|Qx<|QM O O<|Qb<|xe<|⟨(k+1,nxt a.ed t (u[k]'G)),by simp only[];omega,⟨O,O,Z⟩,G,by simp only[];omega,hn,T.trans hc,?_⟩;simp only[];rw[E];simp;omega
def rchd (a:QO)(u:LI):Int×Bool:=if a.st=0 then(0,false)else((flw a 0 u).1,decide (((flw a 0 u).2:Int)=(u.length:Int)))
theorem Qcb {L L':LN}{w:World}{va vm ve vw:Value}{a:QO}{u:LI}(h:qm L w.heap ve a.ed)(H:QH L' w.heap vw u)(I:Q2 a):
  QE prog 159 [.agg #[va,.int .i64 a.st,vm,ve],vw] w λr w'=>r=.tuple #[.int .i64 (rchd a u).1,.bool (rchd a u).2]∧Step [] w w':=by
 have U:=I.st0;refine QE.of_W func159 O ntmps159 results159 (by simp) ?_;refine Qc<|xl O<|QQ (us:=[va,.int .i64 a.st,vm,ve]) O λV Y E ha J=>x Qf<|Qe<|Qg<|Qc<|x (Qa O)<|x (Qd J O O)<|x (Zl O O)<|xe ?_;unfold rchd;refine Q4 rfl (λG=>?_) (λG=>?_)
 ·refine Qc<|x Qf<|Qe ?_;exact Qk ⟨[.int .i64 0,.bool false],⟨O,O,Z⟩,by rw[if_pos G];rfl,E⟩
 rw[if_neg G];refine Qi<|Qc<|x (Qn J O O)<|Qb<|xl O<|xf<|(yN (h.ext E) (H.ext E) I 0 (by omega) (by omega)).mono ?_;rintro r2 w2 ⟨rfl,T⟩;refine Qb<|x (Qj O O)<|x (Qj O O) <|
  x Qf<|Qe<|Qc<|Qb<|Qb<|Qb<|x (Qr H O)<|x (Zl O O)<|x Qf<|Qe ?_
 exact Qk ⟨[_,_],⟨O,O,Z⟩,O,E.trans T⟩
def gens (a:QO)(u:LI):Bool:=if Xq a≠0 then false else(rchd a u).2
theorem Qaf {L L':LN}{w:World}{va vm ve vw:Value}{a:QO}{u:LI}(h:Zp L w.heap va vm ve a)(T:QH L' w.heap vw u):
  QE prog 102 [.agg #[va,.int .i64 a.st,vm,ve],vw] w λr w'=>r=.tuple #[.bool (gens a u),.int .i64 (Xq a)]∧Step [] w w':=by
 refine QE.of_W func102 O ntmps102 results102 (by simp) ?_;refine Qc<|xl O<|QQ (us:=[va,.int .i64 a.st,vm,ve]) O λV Y G ha J=>x Qf<|Qe<|Qg<|Qc<|x (Qn J O O)<|xl O<|xf<|(Y6 (h.ext G)).mono ?_;rintro r2 w2 ⟨rfl,H⟩;refine Qe<|Qc<|Qb<|x (Q7 O O)<|xe ?_;unfold gens;refine Q4 rfl (λE=>?_) (λE=>?_)
 ·refine Qc<|Qb<|x Qf<|Qe ?_;exact Qk ⟨[_,_],⟨O,O,Z⟩,by rw[if_pos E];rfl,G.trans H⟩
 have hc:Xq a=0:=Lm.1 E;rw[if_neg E,hc];have I:=G.trans H;refine Qi<|Qc<|x (Qn (J.ext H) O O)<|Qb<|xl O<|xf<|(Qcb (h.ed.ext I) (T.ext I) ((Zu a).1 hc)).mono ?_;rintro r3 w3 ⟨rfl,U⟩;refine Qb<|x (Qj O O) <|
  x (Qj rfl O)<|x Qf<|Qe<|Qc<|Qb<|x Qf<|Qe ?_
 exact Qk ⟨[_,_],⟨O,O,Z⟩,O,I.trans U⟩
def cks (a:QO)(s:Int):Int:=if Xq a≠0 then Xq a else if s<0∨a.st≤s then 2 else 0
theorem Jq {L:LN}{w:World}{va vm ve:Value}{a:QO}(h:Zp L w.heap va vm ve a)(s:Int):
  QE prog 104 [.agg #[va,.int .i64 a.st,vm,ve],.int .i64 s] w λr w'=>r=.int .i64 (cks a s)∧Step [] w w':=by
 refine QE.of_W func104 O ntmps104 results104 (by simp) ?_;refine Qc<|xl O<|QQ (us:=[va,.int .i64 a.st,vm,ve]) O λV Y I ha J=>Qe<|Qg<|Qc<|x (Qn J O O)<|xl O<|xf<|(Y6 (h.ext I)).mono ?_;rintro r2 U ⟨rfl,T⟩;refine Qe ?_;unfold cks;have E:=I.trans T;refine Qc<|Qb<|x (Q7 O O)<|xe<|Q4 rfl (λh9=>?_) (λh9=>?_)
 ·refine Qc<|Qb<|Qe ?_;exact Qk ⟨[_],La,by rw[if_pos h9];rfl,E⟩
 rw[if_neg h9];refine Qi<|Qg<|QX (α:=Unit) [(11,18)] (λz=>[(18,.bool (decide (s<0∨a.st≤s)))]) (λz w'=>w'=U) (by rfl) ?_ ?_
 ·refine Qx<|Qb<|xb (Qz O O) (λG=>?_) (λG=>?_)
  ·refine Qb<|xs O<|xs O<|xs O<|xs O<|x (Qq O)<|xe ?_;exact⟨(),⟨by rw[decide_eq_true (Or.inl G)];rfl,Z⟩,O⟩
  refine Qb<|Qb<|x (Qa O)<|x (Qd (J.ext T) O O)<|x (ZN O O)<|x (Qq O)<|xe ?_;exact⟨(),⟨by show Value.bool (decide (a.st≤s))=_;simp[G],Z⟩,rfl⟩
 rintro z g w3 rfl;refine Q4 rfl (λH=>?_) (λH=>?_)
 ·refine Qc<|Qe ?_;exact Qk ⟨[_],La,by rw[if_pos H];rfl,E⟩
 refine Qi<|Qc<|Qe ?_;exact Qk ⟨[_],La,by rw[if_neg H];rfl,E⟩
theorem Qbs {a:QO}{s:Int}(h:cks a s=0):Q2 a∧0≤s∧s<a.st:=by
 unfold cks at h;split at h
 ·rename_i h1;exact absurd h h1
 rename_i h1;split at h
 ·cases h
 rename_i h2;exact⟨(Zu a).1 (Lm.1 h1),by omega,by omega⟩
theorem Qi7 {L:LN}{b T:Nat}{va:Value}{al:LI}{us:LV}(e:Int)(w:World)(E:QT w.heap b T (va::us))(G:QH L w.heap va al):
  QE prog 160 ([.int .i64 e]++[.pointer (some ⟨b,0,none⟩)]) w λr w'=>r=.bool (decide (e∉al))∧Step [] w w':=by
 refine QE.of_W func160 O ntmps160 results160 (by simp) ?_;refine Qc<|Qe<|Qc<|x (Qa O)<|x (Qd E O O)<|Qb<|xl O<|xf<|(Yb G e).mono ?_;rintro H I ⟨rfl,rfl⟩;refine x (Zq O)<|Qe<|Qk ⟨[_],La,?_,Step.refl _ _⟩;show Value.bool (!decide (e∈al))=_;rw[decide_not]
def Qf3 (a:QO)(s:Int)(u:LI):Int:=if cks a s≠0 then cks a s else if(u.any λe=>decide (e∉a.al))=true then 9 else 0
theorem Qmr {L L':LN}{w:World}{va vm ve vw:Value}{a:QO}{u:LI}(h:Zp L w.heap va vm ve a)(V:QH L' w.heap vw u)(s:Int):
  QE prog 103 [.agg #[va,.int .i64 a.st,vm,ve],.int .i64 s,vw] w λr w'=>Step [] w w'∧r=if Qf3 a s u≠0 then .tuple #[.int .i64 0,.int .i64 0,.int .i64 (Qf3 a s u)]else .tuple #[.int .i64 (flw a s u).1,.int .i64 (flw a s u).2,.int .i64 0]:=by
 refine QE.of_W func103 O ntmps103 results103 (by simp) ?_;refine Qc<|xl O<|QQ (us:=[va,.int .i64 a.st,vm,ve]) O λb3 w1 Y hb J=>x Qf<|x Qf<|Qe<|Qg<|Qc<|x (Qn J O O)<|Qb<|xl O<|xf<|(Jq (h.ext Y) s).mono ?_;rintro r2 w2 ⟨rfl,T⟩;refine Qe ?_;have G:=Y.trans T;unfold Qf3;refine Qc<|Qb<|x (Q7 O O)<|xe<|Q4 rfl (λE=>?_) (λE=>?_)
 ·refine Qc<|Qb<|x Qf<|x Qf<|Qe ?_;exact Qk ⟨[_,_,_],⟨O,O,O,Z⟩,G,by rw[if_pos E,if_pos E];rfl⟩
 have hc:cks a s=0:=Lm.1 E;obtain⟨ho,h0,h1⟩:=Qbs hc;rw[if_neg E];refine Qi<|Qg<|Qc<|Qb<|x (Zn (l:=[]) (l':=[.tmp 3]))<|xl O<|xf<|(Qd6 (q:=λe=>decide (e∉a.al)) (cap:=[.pointer (some ⟨b3,0,none⟩)]) (V.ext G) (λe w4 H=>Qi7 e w4 ((J.ext T).ext H) ((h.al.ext G).ext H))).mono ?_;rintro r3 w3 ⟨rfl,ha⟩;refine xe ?_;have I:=G.trans ha
 refine QY rfl (λU=>?_) (λU=>?_)
 ·rw[if_pos U];refine Qc<|x Qf<|x Qf<|Qe ?_;exact Qk ⟨[_,_,_],⟨O,O,O,Z⟩,I,by rw[if_pos (by decide)];rfl⟩
 rw[if_neg (by rw[U];simp)];refine Qi<|Qc<|x (Qn ((J.ext T).ext ha) O O)<|Qb<|Qb<|xl O<|xf<|(yN (h.ed.ext I) (V.ext I) ho s h0 h1).mono ?_;rintro r4 w4 ⟨rfl,H⟩;refine Qb<|x (Qj O O) <|
  x (Qj rfl O)<|x Qf<|Qe<|Qc<|Qb<|Qb<|x Qf<|x Qf<|Qe ?_
 exact Qk ⟨[_,_,_],⟨O,O,O,Z⟩,I.trans H,O⟩
def enb (a:QO)(s:Int):LI:=(ZC a.ed s).map (·.2.1)
theorem Qhx {l:List Ed}{k:Nat}(h:k<l.length):(l.take (k+1)).map (·.2.1)=(l.take k).map (·.2.1)++[(l[k]'h).2.1]:=by
 rw[List.take_add_one,Lz h,Lv];rfl
theorem Vz {L:LN}{w:World}{va vm ve:Value}{a:QO}(h:Zp L w.heap va vm ve a)(s:Int):
  QE prog 55 [.agg #[va,.int .i64 a.st,vm,ve],.int .i64 s] w λr w'=>Step [] w w'∧∃v,r=.tuple #[v,.int .i64 (cks a s)]∧(cks a s≠0→v=Q0)∧(cks a s=0→Qt 3 w.heap.size w' v (enb a s)):=by
 refine QE.of_W func55 O ntmps55 results55 (by simp) ?_;refine Qc<|xl O<|QQ (us:=[va,.int .i64 a.st,vm,ve]) O λb2 w1 hf h2 hg=>x Qf<|Qe<|Qg<|Qc<|x (Qn hg O O)<|Qb<|xl O<|xf<|(Jq (h.ext hf) s).mono ?_;rintro r2 w2 ⟨rfl,hh⟩;refine Qe ?_;have T:=hf.trans hh;refine Qc<|Qb<|x (Q7 O O)<|xe<|Q4 rfl (λU=>?_) (λU=>?_)
 ·refine Qc<|Qb<|x Qf<|Qe ?_;exact Qk ⟨[Q0,_],⟨O,O,Z⟩,T,Q0,O,λ_=>O,λe=>absurd e U⟩
 have hc:cks a s=0:=Lm.1 U;obtain⟨G,h0,h1⟩:=Qbs hc;have h3:=G.st1;rw[hc];refine Qi<|Qc<|Qe<|Qg<|Qc<|x (Qn (hg.ext hh) O O)<|Qb<|xl O<|xf<|(Qch (h.ed.ext T) G.eds (λe he=>⟨(G.ed e he).1,by have:=(G.ed e he).2.1;omega⟩) s h0 (by omega)).mono ?_;rintro vo w3 ⟨hj,hE⟩;refine x (Qr hE O)<|Qb<|xe ?_;have hi:=T.trans hj;have hl:=hi.size;have hm:=Jw a.ed s
 have h4:=G.ed_le;refine Zb (ZC a.ed s) λos H=>?_;rw[H]at hE hm;refine Qh<|QA (α:=Nat×Value) [(7,7),(9,9),(20,29)] (λz=>[(7,z.2),(20,.int .i64 z.1)]) (λz w'=>z.1≤os.length∧Step [] w3 w'∧Qt 3 w3.heap.size w' z.2 ((os.take z.1).map (·.2.1))) (λz=>os.length - z.1) (by rfl) (0,nS) ⟨O,by rw[H];rfl,Z⟩ ⟨Ll _,Step.refl _ _,QP _ _ _ _⟩ ?_;rintro⟨k,v⟩ g w4 ⟨hk,J,I⟩
 simp only[]at hk I;have h5:=J.size;refine Qc<|x (Qz O O)<|xe<|Qg<|QC O (λV=>?_) (λV=>?_)
 ·refine Qy<|Qc<|Qb<|x Qf<|Qe ?_;rw[Ln (by rw[H]at V;omega)]at I;refine Qk ⟨[v,_],⟨O,O,Z⟩,hi.trans J,v,O,λe=>absurd O e,λ_=>?_⟩;unfold enb;rw[H];exact Zc I hl
 have E:k<os.length:=by rw[H]at V;omega
 refine Qi<|Qg<|Qh<|Qc<|xie (hE.ext J) O O E λh6 hn=>x (QI hn O O)<|xl O<|Qu (us:=[.int .i64 0,.int .i64 0,.int .i64 0]) O λb9 w5 hp hq hr=>xl O<|Qo (us:=QD (os[k]'E)) hr O O O O ⟨O,O,O,Z⟩ λw6 hs ht =>
  xe ?_
 have Y:Step [] w4 w6:=hp.then1 hs hq;have hu:=Qs I Y;refine Qx<|Qb<|x (Qa O)<|x (Qd ht O O)<|xl O<|QF (us:=[[.int .i64 (os[k]'E).2.1]]) O O (by decide) (by simp) ⟨rfl,rfl,Z⟩ λh7 w7 ha h8 hv=>?_;have hw:=Qs hu ha;have h9:=(Y.trans ha).size;have hA:((os.take k).map (·.2.1)).length≤131072:=by simp;omega
 refine xl rfl<|Q5 (news:=[.int .i64 (os[k]'E).2.1]) (L:=[]) hw O O O (hv.at (by simp)) (by simp[Value.oneCell']) (by omega) (by omega) λv8 w8 hy hz hB=>Qe ?_;have hge:=Qp I;refine Qx<|QM O O<|Qb<|xe<|⟨(k+1,v8),by simp only[];omega,⟨O,O,Z⟩,E,((J.trans Y).trans ha).then hz (λb hb=>.inr (hge b hb).1),?_⟩;simp only[];rw[Qhx E];exact Qt.snoc hy
def QcI:List QO→LI→Int
 | a::l,t::ts=>if t<0∨a.st≤t then 2 else QcI l ts
 | _,_=>0
def ckT (l:List QO)(t:LI):Int:=if JJ l≠0 then JJ l else if t.length≠l.length then 4 else QcI l t
theorem z7 {L L':LN}{w:World}{v vt:Value}{ps:List AV}{ts:LI}(h:YX L w.heap v ps)(ht:QH L' w.heap vt ts):
  QE prog 162 [v,vt] w λr w'=>r=.int .i64 (ckT (ps.map (·.a)) ts)∧Step [] w w':=by
 have hy:=YX.le h;have hz:=ht.le;refine QE.of_W func162 O ntmps162 results162 (by simp) ?_;refine Qc<|Qe<|Qg<|Qc<|Qb<|xl O<|xf<|(yv h).mono ?_;rintro r1 w1 ⟨rfl,J⟩;refine Qe ?_;unfold ckT;refine Qc<|Qb<|x (Q7 O O)<|xe<|Q4 rfl (λT=>?_) (λT=>?_)
 ·refine Qc<|Qb<|Qe ?_;exact Qk ⟨[_],La,by rw[if_pos T];rfl,J⟩
 rw[if_neg T];refine Qi<|Qg<|Qc<|Qb<|x (Qr ht O)<|Qb<|x (Qr h.arr O)<|x (Q7 O O)<|xe<|Q4 rfl (λho=>?_) (λho=>?_)
 ·refine Qc<|Qe ?_;exact Qk ⟨[_],La,by rw[if_pos (by rw[Lh];omega)];rfl,J⟩
 have hl:ts.length=ps.length:=by omega
 rw[if_neg (by rw[Lh];omega)];refine Qi<|Qg<|Qc<|Qb<|x (Qr h.arr O)<|Qb<|xe<|Qh<|QA (α:=Nat) [(4,4),(6,7),(20,39)] (λz=>[(20,.int .i64 z)]) (λz w'=>z≤ps.length∧Step [] w1 w'∧QcI (ps.map (·.a)) ts=QcI ((ps.drop z).map (·.a)) (ts.drop z)) (λz=>ps.length - z) (by rfl) 0 La ⟨Ll _,Step.refl _ _,O⟩ ?_;rintro k g w2 ⟨hk,hf,E⟩;have U:=J.trans hf
 refine Qc<|x (Qz O O)<|xe<|Qg<|QC O (λhp=>?_) (λhp=>?_)
 ·refine Qy<|Qc<|Qe<|Qk ⟨[_],La,?_,U⟩;rw[E,Ls (by omega)];rfl
 have G:k<ps.length:=by omega
 have H:k<ts.length:=by omega
 rw[Q9 G,Q9 H,LT,QcI]at E;have I:=h.each _ (Li G);refine Zb (ps[k]'G) λpk hg=>?_;rw[hg]at I E;refine Qi<|Qg<|Qh<|Qc<|Qb<|xig Jr (h.arr.ext U) O O G λh0 hh=>?_;rw[hg]at hh;refine x (QI hh O O)<|xl O<|Qu (us:=[nS,.int .i64 0,nS,nS]) O λb7 w3 hq hs hu=>x Qf <|
  xl rfl<|Qo (us:=Za pk) hu O O O O ⟨I.al.one,O,I.mr.one,I.ed.one,Z⟩ λV hv hw=>xe ?_
 have hi:Step [] w2 V:=hq.then1 hv hs;have Y:=U.trans hi;refine Zb (ts[k]'H) λtk ha=>?_;rw[ha]at E;refine QX (α:=Unit) [(25,38)] (λz=>[(38,.bool (decide (tk<0∨pk.a.st≤tk)))]) (λz w'=>Step [] V w') (by rfl) ?_ ?_
 ·refine QV (Step [] V) [(0,true),(1,true),(2,true),(3,true),(4,true),(5,true),(6,true),(7,true),(8,true),(9,true),(10,true),(11,true),(12,true),(13,true)] mixed (by rfl) (by kernel_rfl) (Step.drew _ _) ?_;refine p (λ_=>Qm)<|p (λ_=>Qm)<|pii O (ht.ext Y) O O H λh1 hj=>?_;rw[ha]at hj;refine pq (λ_ hc=>Qv (hj.ext hc) O) <|
   pb (λ_=>Qz O O) (λhb=>?_) (λhb=>?_)
  ·refine p (λ_=>Qm)<|Lg.ps<|Lg.ps<|Lg.ps<|Lg.ps<|Lg.ps<|Lg.ps<|Lg.ps<|p (λ_=>Qq O)<|pe ?_;exact⟨(),⟨by rw[decide_eq_true (Or.inl hb)];rfl,Z⟩,Step.drew _ _⟩
  refine p (λ_=>Qm)<|p (λ_=>Qm)<|p (λ_=>Qm)<|pii O (ht.ext Y) O O H λh2 hm=>?_;rw[ha]at hm;refine pq (λ_ hc=>Qv (hm.ext hc) O) <|
   p (λ_=>Qa O)<|pq (λ_ hc=>Qd (hw.ext hc) O O)<|p (λ_=>ZN O O)<|p (λ_=>Qq O)<|pe ?_
  exact⟨(),⟨by show Value.bool (decide (pk.a.st≤tk))=_;simp[hb],Z⟩,Step.drew _ _⟩
 rintro z g w5 hn;refine Q4 rfl (λhe=>?_) (λhe=>?_)
 ·refine Qc<|Qe ?_;exact Qk ⟨[_],La,by rw[E,if_pos he];rfl,Y.trans hn⟩
 refine Qi<|Qx<|QM O O<|Qb<|xe ?_;exact⟨k+1,by omega,La,G,(hf.trans hi).trans hn,by rw[E,if_neg he]⟩
theorem QhO {l:List QO}(h:JJ l=0):l.length≤12∧∀a∈l,Q2 a:=by
 unfold JJ at h;split at h
 ·cases h
 rename_i h1;exact⟨by omega,(KA l).1 h⟩
theorem yW:∀{l:List QO}{t:LI},t.length=l.length→(QcI l t=0↔Vt l t)
 | [],t,hl=>by
  have:t=[]:=Lr hl;subst this;exact⟨λ_=>⟨O,λi h=>by simp at h⟩,λ_=>rfl⟩
 | a::l,[],hl=>by simp at hl
 | a::l,t::ts,hl=>by
  rw[QcI];have ih:=yW (l:=l) (t:=ts) (by simpa using hl);constructor
  ·intro h;split at h
   ·cases h
   rename_i h1;exact Vt.cons (by omega) (by omega) (ih.1 h)
  intro h;have E:=h.2 0 (by simp) (by simp);simp only[List.getElem_cons_zero]at E;rw[if_neg (by omega),ih];exact⟨by simpa using hl,λi h2 h3=>h.2 (i+1) (by simpa using h2) (by simpa using h3)⟩
theorem Qbt {l:List QO}{t:LI}(h:ckT l t=0):l.length≤12∧(∀a∈l,Q2 a)∧Vt l t:=by
 unfold ckT at h;split at h
 ·rename_i h1;exact absurd h h1
 rename_i h1;split at h
 ·cases h
 rename_i h2;obtain⟨h3,h4⟩:=QhO (Lm.1 h1);exact⟨h3,h4,(yW (by omega)).1 h⟩
def ckV (l:List QO)(t:LI)(v:Int):Int:=if ckT l t≠0 then ckT l t else if v∉evs l then 9 else 0
theorem z8 {L L':LN}{w:World}{v vt:Value}{ps:List AV}{ts:LI}(h:YX L w.heap v ps)(ht:QH L' w.heap vt ts)(e:Int):
  QE prog 105 [v,vt,.int .i64 e] w λr w'=>r=.int .i64 (ckV (ps.map (·.a)) ts e)∧Step [] w w':=by
 refine QE.of_W func105 O ntmps105 results105 (by simp) ?_;refine Qc<|Qe<|Qg<|Qc<|Qb<|Qb<|xl O<|xf<|(z7 h ht).mono ?_;rintro Y w1 ⟨rfl,G⟩;refine Qe ?_;unfold ckV;refine Qc<|Qb<|x (Q7 O O)<|xe<|Q4 rfl (λE=>?_) (λE=>?_)
 ·refine Qc<|Qb<|Qe ?_;exact Qk ⟨[_],La,by rw[if_pos E];rfl,G⟩
 rw[if_neg E];obtain⟨h1,h2,h3⟩:=Qbt (Lm.1 E);rw[Lh]at h1;have T:(evs (ps.map (·.a))).length≤1099511627776:=by have:=qg (ps.map (·.a)) (λa ha=>(h2 a ha).al_le);rw[Lh]at this;omega
 refine Qi<|Qg<|Qc<|Qb<|xl O<|xf<|(yT (h.ext G) h1 (λp hp=>(h2 p.a (LL hp)).al_le)).mono ?_;rintro r2 w2 ⟨U,V⟩;refine Qb<|xl O<|xf<|(YK (Qt.ints (L:=[]) V T (by simp)) (jZ h2) e).mono ?_;rintro r3 w3 ⟨rfl,rfl⟩;refine x (Zq O)<|xe ?_;have J:=G.trans U;refine QY rfl (λH=>?_) (λH=>?_)
 ·have I:e∉evs (ps.map (·.a)):=by simpa using H
  refine Qc<|Qe ?_;exact Qk ⟨[_],La,by rw[if_pos I];rfl,J⟩
 have I:¬e∉evs (ps.map (·.a)):=by simpa using H
 refine Qi<|Qc<|Qe ?_;exact Qk ⟨[_],La,by rw[if_neg I];rfl,J⟩
def goT (aa:List QO):LI→LI→Option (LI)
 | t,[]=>some t
 | t,v::u=>if v∉evs aa then none else match Zz v aa t with|none=>none|some t'=>goT aa t' u
theorem Qg5 {aa:List QO}{A:QO}{Q:List (LI)}(h:SyP aa A Q):∀(u:LI) (j:Nat),j<Q.length →
  (∃G:Nat,G<Q.length∧flw A j u=((G:Int),u.length)∧goT aa (Q.getD j []) u=some (Q.getD G []))∨((flw A j u).2<u.length∧goT aa (Q.getD j []) u=none)
 | [],j,hj=>.inl ⟨j,hj,O,O⟩
 | v::u,j,hj=>by
  have hs:=h.step hj v;by_cases E:v∈evs aa
  ·rw[if_pos E]at hs;cases ht:Zz v aa (Q.getD j [])with
   | none =>
    rw[ht]at hs;have H:nxt A.ed j v=-1:=by rw[VO,hs];rfl
    right;rw[flw,if_pos (by rw[H];decide),goT,if_neg (λe=>e E),ht];exact⟨by simp,rfl⟩
   | some t' =>
    obtain⟨h1,h2⟩:=h.to hj E ht;rw[ht]at hs;have H:nxt A.ed j v=(Q.idxOf t':Int):=by rw[VO,hs];rfl
    rw[flw,H,if_neg (by omega),goT,if_neg (λe=>e E),ht];rcases Qg5 h u (Q.idxOf t') h1 with⟨G,k1,k2,k3⟩|⟨k1,k2⟩
    ·left;refine⟨G,k1,?_,?_⟩
     ·rw[k2];simp
     rw[h2]at k3;exact k3
    right;rw[h2]at k2;exact⟨by simp;omega,k2⟩
  rw[if_neg E]at hs;have H:nxt A.ed j v=-1:=by rw[VO,hs]
  right;rw[flw,if_pos (by rw[H];decide),goT,if_pos E];exact⟨by simp,rfl⟩
theorem QjR {A:QO}(G:Q2 A){aa:List QO}{Q:List (LI)}(h:SyP aa A Q){u:LI}(E:gens A u=true):∃j:Nat,j<Q.length∧flw A 0 u=((j:Int),u.length)∧goT aa (Q.getD 0 []) u=some (Q.getD j []):=by
 unfold gens at E;rw[if_neg (by simpa using(Zu A).2 G)]at E;unfold rchd at E;split at E
 ·cases E
 rename_i I;have J:=h.st;have H:0<Q.length:=by omega
 rcases Qg5 h u 0 H with⟨j,k1,k2,k3⟩|⟨k1,_⟩
 ·exact⟨j,k1,k2,k3⟩
 simp only[decide_eq_true_eq]at E;have:((0:Nat):Int)=0:=rfl;rw[this]at k1;omega
theorem Qhc {a:QO}(E:Q2 a):∀(u:LI) (s:Int),(flw a s u).2=u.length→∀e∈u,e∈a.al
 | [],_,_,e,he=>by cases he
 | v::u,s,h,e,he=>by
  rw[flw]at h;split at h
  ·simp at h
  rename_i G;rcases Lc.1 he with rfl|he
  ·exact(E.ed _ (jG (show 0≤nxt a.ed s e by omega))).2.2.1
  exact Qhc E u _ (by simpa using h) e he
theorem jv {L:LN}{w:World}{v:Value}{l:LI}(h:QH L w.heap v l)(n:Int):
  QE prog 136 [v,.int .i64 n] w λr w'=>r=.int .i64 (Y0 n none l)∧w'=w:=by
 have hc:=h.le;refine QE.of_W func136 O ntmps136 results136 (by simp) ?_;refine Qc<|Qe<|Qg<|Qc<|Qb<|x (Qr h O)<|Qb<|xe<|Qh<|QA (α:=Nat) [(4,6),(9,34)] (λk=>[(9,.int .i64 k)]) (λk w'=>w'=w∧k≤l.length∧Y0 n (pv l k) (l.drop k)=Y0 n none l) (λk=>l.length - k) (by rfl) 0 La ⟨O,Ll _,O⟩ ?_;rintro k g T ⟨rfl,hk,hm⟩;refine Qc<|x (Qz O O)<|xe<|Qg<|QC O (λU=>?_) (λU=>?_)
 ·refine Qy<|Qc<|Qe<|Qk ⟨[.int .i64 0],La,?_,O⟩;rw[←hm,Ls (by omega)];rfl
 have E:k<l.length:=by omega
 have hd:=Q9 E;rw[hd,Y0]at hm;refine Qi<|Qg<|Qh<|Qc<|Qb<|xii h O O E λhe V=>x (Qv V O)<|x Qf<|Qe<|Qh<|QX (α:=Bool) [(14,21)] (λz=>[(14,.bool z)]) (λz w'=>w'=T∧z=decide (l[k]<0∨n≤l[k])) (by rfl) ?_ ?_
 ·refine Qx<|Qb<|xb (Qz O O) (λG=>?_) (λG=>?_)
  ·refine Qb<|xs O<|xs O<|xs O<|x (Qq O)<|Qe ?_;exact⟨true,La,O,by simp[G]⟩
  refine Qb<|Qb<|Qb<|x (ZN O O)<|x (Qq O)<|Qe ?_;exact⟨_,La,O,by simp[G]⟩
 rintro z g Y ⟨rfl,rfl⟩;refine Q4 rfl (λH=>?_) (λH=>?_)
 ·refine Qc<|Qe<|Qk ⟨[.int .i64 2],La,?_,O⟩;rw[←hm,if_pos H];rfl
 rw[if_neg H]at hm;refine QX (α:=Bool) [(22,33)] (λz=>[(22,.bool z)]) (λz w'=>w'=Y∧z=U8 (pv l k) l[k]) (by rfl) ?_ ?_
 ·refine Qx<|Qb<|xb (ZL O O) (λha=>?_) (λha=>?_)
  ·have hk1:((k:Int) - 1)=((k - 1:Nat):Int):=by omega
   refine Qb<|Qb<|Qb<|Qb<|x (Jf O O ⟨by omega,by omega⟩)<|xii (i:=k - 1) h O (by show Value.int _ ((k:Int) - 1)=_;rw[hk1]) (by omega) λhf hb=>x (Qv hb rfl)<|x (Jv rfl rfl)<|x (Qq rfl)<|Qe<|⟨_,⟨rfl,Z⟩,rfl,?_⟩;have:pv l k=some l[k - 1]:=by
    have I:k≠0:=by omega
    simp[pv,I,show k - 1<l.length by omega]
   rw[this];rfl
  refine Qb<|xs O<|xs O<|xs O<|xs O<|xs O<|xs O<|xs O<|x (Qq O)<|Qe ?_;have I:k=0:=by omega
  exact⟨false,La,O,by simp[pv,I,U8]⟩
 rintro z g w3 ⟨rfl,rfl⟩;refine QY rfl (λJ=>?_) (λJ=>?_)
 ·refine Qc<|Qe<|Qk ⟨[.int .i64 5],La,?_,O⟩;rw[←hm,if_pos J];rfl
 rw[if_neg (by simp[J])]at hm;refine Qi<|Qx<|QM O O<|Qb<|xe ?_;exact⟨k+1,by omega,La,O,by omega,by rw[JM E];exact hm⟩
theorem KK {L:LN}{w:World}{v:Value}{l:LI}(h:QH L w.heap v l)(n:Int):
  QE prog 167 [v,.int .i64 n] w λr w'=>r=.int .i64 (Y0 n none l)∧w'=w:=by
 have hc:=h.le;refine QE.of_W func167 O ntmps167 results167 (by simp) ?_;refine Qc<|Qe<|Qg<|Qc<|Qb<|x (Qr h O)<|Qb<|xe<|Qh<|QA (α:=Nat) [(4,6),(9,32)] (λk=>[(9,.int .i64 k)]) (λk w'=>w'=w∧k≤l.length∧Y0 n (pv l k) (l.drop k)=Y0 n none l) (λk=>l.length - k) (by rfl) 0 La ⟨O,Ll _,O⟩ ?_;rintro k g T ⟨rfl,hk,hm⟩;refine Qc<|x (Qz O O)<|xe<|Qg<|QC O (λU=>?_) (λU=>?_)
 ·refine Qy<|Qc<|Qe<|Qk ⟨[.int .i64 0],La,?_,O⟩;rw[←hm,Ls (by omega)];rfl
 have E:k<l.length:=by omega
 have hd:=Q9 E;rw[hd,Y0]at hm;refine Qi<|Qg<|Qh<|Qc<|Qb<|xii h O O E λhe V=>x (Qv V O)<|x Qf<|Qe<|Qg<|QX (α:=Bool) [(14,20)] (λz=>[(20,.bool z)]) (λz w'=>w'=T∧z=decide (l[k]<0∨n≤l[k])) (by rfl) ?_ ?_
 ·refine Qx<|Qb<|xb (Qz O O) (λG=>?_) (λG=>?_)
  ·refine Qb<|xs O<|xs O<|xs O<|x (Qq O)<|xe ?_;exact⟨true,La,O,by simp[G]⟩
  refine Qb<|Qb<|Qb<|x (ZN O O)<|x (Qq O)<|xe ?_;exact⟨_,La,O,by simp[G]⟩
 rintro z g Y ⟨rfl,rfl⟩;refine Q4 rfl (λH=>?_) (λH=>?_)
 ·refine Qc<|Qe<|Qk ⟨[.int .i64 2],La,?_,O⟩;rw[←hm,if_pos H];rfl
 rw[if_neg H]at hm;refine Qi<|QX (α:=Bool) [(21,31)] (λz=>[(31,.bool z)]) (λz w'=>w'=Y∧z=U8 (pv l k) l[k]) (by rfl) ?_ ?_
 ·refine Qx<|Qb<|xb (ZL O O) (λha=>?_) (λha=>?_)
  ·have hk1:((k:Int) - 1)=((k - 1:Nat):Int):=by omega
   refine Qb<|Qb<|Qb<|Qb<|x (Jf O O ⟨by omega,by omega⟩)<|xii (i:=k - 1) h O (by show Value.int _ ((k:Int) - 1)=_;rw[hk1]) (by omega) λhf hb=>x (Qv hb rfl)<|x (Jv rfl rfl)<|x (Qq rfl)<|xe<|⟨_,La,O,?_⟩;have:pv l k=some l[k - 1]:=by
    have I:k≠0:=by omega
    simp[pv,I,show k - 1<l.length by omega]
   rw[this];rfl
  refine Qb<|xs O<|xs O<|xs O<|xs O<|xs O<|xs O<|xs O<|x (Qq O)<|xe ?_;have I:k=0:=by omega
  exact⟨false,La,O,by simp[pv,I,U8]⟩
 rintro z g w3 ⟨rfl,rfl⟩;refine QY rfl (λJ=>?_) (λJ=>?_)
 ·refine Qc<|Qe<|Qk ⟨[.int .i64 5],La,?_,O⟩;rw[←hm,if_pos J];rfl
 rw[if_neg (by simp[J])]at hm;refine Qi<|Qx<|QM O O<|Qb<|xe ?_;exact⟨k+1,by omega,La,O,by omega,by rw[JM E];exact hm⟩
theorem zt {L:LN}{w:World}{va vm ve v:Value}{a:QO}{l:LI}(h:QH L w.heap v l):
  QE prog 79 [.agg #[va,.int .i64 a.st,vm,ve],v] w λr w'=>r=.int .i64 (Y0 a.st none l)∧Step [] w w':=by
 refine QE.of_W func79 O ntmps79 results79 (by simp) ?_;refine Qc<|xl O<|QQ (us:=[va,.int .i64 a.st,vm,ve]) O λH I E J G=>Qe<|Qc<|Qb<|x (Qa O)<|x (Qd G O O)<|xl O<|xf<|(jv (h.ext E) a.st).mono ?_;rintro r2 T ⟨rfl,rfl⟩;refine Qe ?_;exact Qk ⟨[.int .i64 (Y0 a.st none l)],La,O,E⟩
def flg (n:Nat)(l:LI):List Bool:=(List.range n).map λi:Nat=>decide ((i:Int)∈l)
theorem qa (n:Nat)(l:LI):(flg n l).length=n:=by simp[flg]
theorem jT {n:Nat}{l:LI}{i:Nat}(h:i<(flg n l).length):(flg n l)[i]'h=decide ((i:Int)∈l):=by simp[flg]
theorem jS {n:Nat}{l:LI}{x:Int}(E:0≤x):(flg n l).set x.toNat true=flg n (l++[x]):=by
 apply LY
 ·simp[flg]
 intro i h2 h3;rw[MS,jT h3];by_cases e:x.toNat=i
 ·have:(i:Int)=x:=by omega
  rw[if_pos e,this];simp
 have:(i:Int)≠x:=by omega
 rw[if_neg e,jT];simp[this]
theorem Qbe {L:LN}{w:World}{va vm ve v:Value}{a:QO}{l:LI}{n:Nat}(h:QH L w.heap v l)(U:a.st=(n:Int))(hp:a.st≤4096)(hl:∀s∈l,0≤s∧s<a.st):
  QE prog 80 [.agg #[va,.int .i64 a.st,vm,ve],v] w λr w'=>Step [] w w'∧∃b,r=.slice (some ⟨b,0,none⟩) n n∧w.heap.size≤b∧QT w'.heap b 4 ((flg n l).map Value.bool):=by
 have hq:=h.le;refine QE.of_W func80 O ntmps80 results80 (by simp) ?_;refine Qc<|xl O<|QQ (us:=[va,.int .i64 a.st,vm,ve]) O λb2 w1 G hr ha=>Qe<|Qc<|x (Qa O)<|x (Qd ha O O)<|xl O<|XB (n:=n) (congrArg (Value.int .i64) U) (congrArg (Value.int .i64) U) (by omega) λb10 w2 V hb hc=>Qe ?_;have he:=G.trans V;have hf:QT w2.heap b10 4 ((flg n (l.take 0)).map Value.bool):=by
  have e:(List.replicate n (Value.bool false).cells.toList).flatten=(flg n (l.take 0)).map Value.bool:=by
   simp only[flg,List.take_zero,List.not_mem_nil,decide_false,List.map_map];apply LY
   ·simp[Value.cells]
   intro i h1 h2;simp[Value.cells]
  rw[←e];exact hc
 refine Qg<|Qc<|Qb<|x (Qr (h.ext he) O)<|Qb<|xe<|Qh<|QA (α:=Nat) [(7,7),(13,20)] (λz=>[(13,.int .i64 z)]) (λz w'=>z≤l.length∧Step [] w1 w'∧QT w'.heap b10 4 ((flg n (l.take z)).map Value.bool)) (λz=>l.length - z) (by rfl) 0 La ⟨Ll _,V,hf⟩ ?_;rintro k g w3 ⟨hk,I,J⟩;refine Qc<|x (Qz O O)<|xe<|Qg<|QC O (λT=>?_) (λT=>?_)
 ·refine Qy ?_;have hg:l.length≤k:=by have H:¬(k:Int)<(l.length:Int):=T;omega
  rw[Ln hg]at J;refine Qc<|Qb<|Qe ?_;have ht:=G.size;exact Qk ⟨[.slice (some ⟨b10,0,none⟩) n n],La,G.trans I,b10,O,by omega,J⟩
 have E:k<l.length:=by have H:(k:Int)<(l.length:Int):=T;omega
 have hx:=hl _ (Li E);have Y:l.take (k+1)=l.take k++[l[k]'E]:=Le E;refine Zb (l[k]'E) λs hs=>?_;rw[hs]at hx Y;have hh:s=(s.toNat:Int):=by omega
 have hi:=jS (n:=n) (l:=l.take k) hx.1;refine Qi<|Qg<|Qh<|Qc<|xii (i:=k) ((h.ext G).ext I) O O E λhu H=>?_;rw[hs]at H;refine x (Qv H O)<|Qe<|Qx<|Qb<|Qb<|x (QS (i:=s.toNat) O (congrArg (Value.int .i64) hh) (by omega))<|xl O<|QB (j:=0+s.toNat*1) (u:=.bool true) J O O (by rw[Lh,qa];omega) O λw4 hj hm=>xe ?_
 have ho:QT w4.heap b10 4 ((flg n (l.take (k+1))).map Value.bool):=by
  rw[Y,←hi,NC];simpa using hm
 refine Qx<|QM O O<|Qb<|xe ?_;exact⟨k+1,by omega,La,E,I.then1 hj hb,ho⟩
def Rv (l:LI)(i:Nat)(li:LI):Prop:=∃h:li.length=l.length,∀k (hk:k<l.length),li[k]'(by omega)=if k<i∨l.length≤k+i then l[l.length - 1 - k]'(by omega)else l[k]'hk
theorem Rv.start (l:LI):Rv l 0 l:=⟨O,λk hk=>by rw[if_neg (by omega)]⟩
theorem Rv.next {l li:LI}{i:Nat}(h:Rv l i li)(hi:i<l.length - 1 - i):Rv l (i+1) ((li.set i (l[l.length - 1 - i]'(by omega))).set (l.length - 1 - i) (l[i]'(by omega))):=by
 obtain⟨h1,h2⟩:=h;refine⟨by simp[h1],λk hk=>?_⟩;rw[MS,MS];by_cases e1:l.length - 1 - i=k
 ·rw[if_pos e1,if_pos (by omega)];congr 1;omega
 rw[if_neg e1];by_cases e2:i=k
 ·rw[if_pos e2,if_pos (by omega)];subst e2;rfl
 rw[if_neg e2,h2 k hk];by_cases e3:k<i∨l.length≤k+i
 ·rw[if_pos e3,if_pos (by omega)]
 rw[if_neg e3,if_neg (by omega)]
theorem Rv.fin {l li:LI}{i:Nat}(h:Rv l i li)(hi:l.length - 1 - i≤i)(G:2*i≤l.length):li=l.reverse:=by
 obtain⟨h1,h2⟩:=h;apply LY
 ·simp[h1]
 intro k hk H;have E:k<l.length:=by omega
 rw[h2 k E,List.getElem_reverse];by_cases e:k<i∨l.length≤k+i
 ·rw[if_pos e]
 rw[if_neg e];congr 1;omega
theorem Rv.at_i {l li:LI}{i:Nat}(h:Rv l i li)(hi:i<l.length - 1 - i):∃(E:i<li.length) (h3:l.length - 1 - i<li.length),li[i]'E=l[i]'(by omega)∧li[l.length - 1 - i]'h3=l[l.length - 1 - i]'(by omega):=by
 obtain⟨h1,h2⟩:=h;refine⟨by omega,by omega,?_,?_⟩
 ·rw[h2 i (by omega),if_neg (by omega)]
 rw[h2 _ (by omega),if_neg (by omega)]
theorem zM {w:World}{base:Nat}{v:Value}{l:LI}(h:Qt 3 base w v l)(he:l.length≤1099511627776):
  QE prog 137 [v] w λ_ w'=>Qt 3 base w' v l.reverse∧Step (ob v) w w':=by
 refine QE.of_W func137 O ntmps137 results137 (by simp) ?_;refine Qc<|Qb<|x (Qr (QW (L:=[]) h he (by simp)) rfl)<|x (Jf rfl rfl ⟨by omega,by omega⟩)<|x Qf<|Qe<|Qh<|QA (α:=Nat×LI) [(2,3),(7,27)] (λz=>[(2,.int .i64 z.1),(3,.int .i64 ((l.length:Int) - 1 - z.1))])
  (λz w'=>Rv l z.1 z.2∧2*z.1≤l.length∧Step (ob v) w w'∧Qt 3 base w' v z.2) (λz=>l.length - z.1) (by rfl) (0,l) ⟨O,congrArg (Value.int .i64) (by simp),Z⟩ ⟨Rv.start l,by simp,Step.refl _ _,h⟩ ?_
 rintro⟨i,li⟩ g G ⟨hR,J,T,E⟩;simp only[]at hR J E;refine Qg<|Qc<|Qb<|Qb<|x (Qz O O)<|xe<|QC rfl (λh9=>?_) (λh9=>?_)
 ·refine Qy ?_;rw[hR.fin (by omega) J]at E;exact⟨[],Z,E,T⟩
 have U:i<l.length - 1 - i:=by omega
 have hj:(l.length:Int) - 1 - (i:Int)=((l.length - 1 - i:Nat):Int):=by omega
 have hn:li.length=l.length:=hR.1;have hf:=hR.next U;refine Exists.elim (hR.at_i U) λV H=>Exists.elim H λh3 H=>?_;refine Exists.elim (Un E (by omega)) λgg hg=>Exists.elim hg λcap I=>?_;have Y:QH [] G.heap v li:=QW E (by omega) (by simp)
 refine Qi<|Qg<|Qh<|QV (Step [] G) [(0,true),(1,true),(2,true),(3,true),(4,true),(5,true),(6,true),(7,true),(8,true),(9,true),(10,true),(11,true),(12,true),(13,false),(14,true),(15,false)] mixed (by rfl) (by kernel_rfl) (Step.drew _ _) ?_;refine p (λ_=>Qm)<|p (λ_=>Qm)<|p (λ_=>Qm)<|p (λ_=>Qm)<|p (λ_=>Qm)<|p (λ_=>Qm)<|pii (i:=l.length - 1 - i) O Y O (congrArg (Value.int .i64) hj) h3 λho ha=>?_
 rw[H.2]at ha;refine pq (λ_ hc=>Qv (ha.ext hc) O)<|p (λ_=>Qm)<|p (λ_=>Qm)<|pii (i:=i) O Y O O V λhp hb=>?_;rw[H.1]at hb;refine pq (λ_ hc=>Qv (hb.ext hc) O)<|p (λ_=>QS (i:=i) (show ev _ _=_ from I) O (by omega)) <|
  pkl (hl:=by kernel_rfl)<|yx (Qs E (Step.drew [] G)) I O O V λw2 hh hi=>p (λ_=>QS (i:=l.length - 1 - i) (show ev _ _=_ from I) (congrArg (Value.int .i64) hj) (by omega)) <|
  pkl (hl:=by kernel_rfl)<|yx hi (by rw[MD];exact I) O O (by rw[MD];exact h3) λw3 hk hm=>pe ?_
 refine Qx<|Qb<|QM O O<|Qb<|x (Jf O O ⟨by omega,by omega⟩)<|x Qf<|Qe ?_;exact⟨(i+1,_),by simp only[];omega,⟨O,congrArg (Value.int .i64) (by omega),Z⟩,hf,by simp only[];omega,((T.trans (Step.drew [] G)).trans' hh).trans' hk,hm⟩
end Go.Proofs.YtjcgijbhaemldaaGreatDoor
namespace Go.Lg
open Go.RowKit
def upY (P:Program)(m:Nat)(dst:Option Nat)(f:Fr)(K:Fr→World→Prop):Result Next→Prop
 | .ok (.value v) w'=>K (QZ f dst v) w'
 | .ok .skip w'=>K (QZ f dst undef) w'
 | .ok (.enter g args) w'=>Calls P g args w' λe E=>match e with| .returned v=>K (QZ f dst v) E|_=>False
 | .ok (.round l fn tmps assign body) w'=>RoundIn (fen none) (m - 1) P l fn tmps assign body w' λe E=>match e with| .returned v=>K (QZ f dst v) E|_=>False
 | _=>False
def XOY (P:Program)(m:Nat)(o:Oper)(f:Fr)(w:World)(K:Fr→World→Prop):Prop:=upY P m o.dst f K ((execOp (ev f) o).run P w)
def Ja (P:Program)(m:Nat)(ops:List Oper)(K:Fr→World→Prop):List Oper→Fr→World→Prop
 | [],f,w=>K f w
 | o::l,f,w=>bif Z6 ops f o then XOY P m o f w (Ja P m ops K l)else Ja P m ops K l (QZ f o.dst undef) w
section
variable {m:Nat}{P:Program}{n:Nat}{ds:LN}
theorem XOY.of_XO {o:Oper}{f:Fr}{w:World}{K K':Fr→World→Prop}(E:∀f w,K f w→K' f w)(h:XO P o f w K):XOY P m o f w K':=by
 unfold XO at h;unfold XOY;generalize (execOp (ev f) o).run P w=r at h;cases r with
 | ok nx w' =>
  cases nx <;> simp only[upF]at h <;> simp only[upY]
  case value v=>exact E _ _ h
  case skip=>exact E _ _ h
  case enter g args =>
   refine Calls.mono h λe G he=>?_;cases e with
   | returned v=>exact E _ _ he
   | panicked c=>exact he.elim
   | outgrown=>exact he.elim
 | halt x w'=>exact h.elim
theorem Ja.pre {ops:List Oper}{K:Fr→World→Prop}{l2:List Oper}:∀(E:List Oper) (f:Fr) (w:World),XL P ops (λf w=>Ja P m ops K l2 f w) E f w→Ja P m ops K (E++l2) f w
 | [],f,w,h=>by unfold XL at h;exact h
 | o::E,f,w,h=>by
  unfold XL at h;show(bif Z6 ops f o then XOY P m o f w (Ja P m ops K (E++l2))else Ja P m ops K (E++l2) (QZ f o.dst undef) w);cases G:Z6 ops f o with
  | false=>rw[G]at h;exact Ja.pre E _ _ h
  | true=>rw[G]at h;exact XOY.of_XO (λf w h=>Ja.pre E f w h) h
theorem Ja.pre2 {ops:List Oper}{K:Fr→World→Prop}{o1 o2:Oper}{l2:List Oper}{f:Fr}{w:World}(h:XL P ops (λf w=>Ja P m ops K l2 f w) [o1,o2] f w):Ja P m ops K (o1::o2::l2) f w:=Ja.pre [o1,o2] f w h
theorem Ja.of_XL {ops:List Oper}{K:Fr→World→Prop}{l:List Oper}{f:Fr}{w:World}(h:XL P ops K l f w):Ja P m ops K l f w:=by
 have:=Ja.pre (m:=m) (l2:=[]) l f w h
 rwa [LK]at this
theorem Qh8 {o:Oper}{a:Act}{f:Fr}{w:World}{K:Fr→World→Prop}{K':Act→World→Prop}{Q:Exit→Act→World→Prop}(h:YC n ds a f)
  (E:∀v w',K (QZ f o.dst v) w'→K' (a.put o.dst v) w') (hx:XOY P m o f w K):o.wpIn (fen none) m P a w K' Q:=by
 unfold XOY at hx;refine⟨λ_ _=>trivial,?_⟩;have e:Oper.semAt (fen none).round a.eval o=execOp (ev f) o:=by rw[h.eval];rfl
 rw[e];generalize (execOp (ev f) o).run P w=r at hx;cases r with
 | ok nx w' =>
  cases nx <;> simp only[upY]at hx <;> simp only[Oper.uponIn]
  case value v=>exact E v w' hx
  case skip=>exact E _ w' hx
  case enter g args =>
   refine⟨λh=>by simp[Fence.wide]at h,?_⟩;refine(callsIn_wide (n:=m - 1)).2 (Calls.mono hx λe G he=>?_);cases e with
   | returned v=>exact E v G he
   | panicked c=>exact he.elim
   | outgrown=>exact he.elim
  case round l fn tmps assign body =>
   refine⟨λh=>by simp[Fence.wide]at h,?_⟩;refine RoundIn.mono hx λe G he=>?_;cases e with
   | returned v=>exact E v G he
   | panicked c=>exact he.elim
   | outgrown=>exact he.elim
 | halt x w'=>exact hx.elim
theorem QbJ {Q:Exit→LN→Fr→World→Prop}{all:List Oper}(G:∀o∈all,∀d,o.dst=some d→d<n)(f0:Fr):
  ∀(l:List Oper) (k:Nat) (a:Act) (f:Fr) (w:World),(∀j,l[j]?=all[k+j]?)→YC n ds a f→(∀t,ZR all t=false→f t=f0 t) →
   Ja P m all (λf w=>Q .normal ds f w) l f w →
   wpOpsIn (fen none) m P all.toArray (λe T w'=>∃ds' f',YC n ds' T f'∧(∀t,ZR all t=false→f' t=f0 t)∧Q e ds' f' w') (List.range' k l.length) a w
 | [],_,a,f,w,_,E,hk,h=>⟨ds,f,E,hk,by unfold Ja at h;exact h⟩
 | o::l,k,a,f,w,hl,E,hk,h=>by
  have I:all[k]?=some o:=by simpa using(hl 0).symm
  have H:o∈all:=Md I;have ih:=λa f w=>QbJ (Q:=Q) G f0 l (k+1) a f w (λj=>by have:=hl (j+1);simpa[Nat.add_assoc,Nat.add_comm 1 j]using this);have next:∀v,(∀t,ZR all t=false→QZ f o.dst v t=f0 t):=λv t ht=>(ZT (XW H ht) v).trans (hk t ht);simp only[List.length_cons,List.range'_succ,wpOpsIn,List.getElem?_toArray,I];rw[Ve E G o];unfold Ja at h;cases J:Z6 all f o with
  | false =>
   rw[J]at h;exact⟨λ_ _=>trivial,ih _ _ _ (E.put (G o H) _) (next _) h⟩
  | true =>
   rw[J]at h;exact Qh8 E (λv w' hx=>ih _ _ _ (E.put (G o H) v) (next v) hx) h
theorem KZ {Q:Exit→LN→Fr→World→Prop}{f:Fr}{w:World}{id:Nat}{l:List Oper}(E:Xb n l=true)(h:Ja P m l (λf w=>Q .normal ds f w) l f w):WG none m P n (.region id l.toArray false) Q ds f w:=by
 unfold WG;intro a ha;refine wpIn_region ?_;have:=QbJ (m:=m) (YS E) f l 0 a f w (by simp) ha (λ_ _=>rfl) h;simpa[List.range_eq_range',Xz]using this
theorem xy {ops:List Oper}{rest:List Oper}{f:Fr}{w:World}{K:Fr→World→Prop}{d:Option Nat}{ty:Nat}{ps:String}{af:Array Edge}{gd:Option (Nat×Bool)}{x y:Operand}{at_:Array Nat}{l:Nat}{R:Ending→World→Prop}
  (hx:ev f x=.func (.yield l) #[] #[]) (hy:YieldAt (fen none) (m - 1) P l #[ev f y] w R) (E:∀e w',R e w'→∃v,e=.returned v∧Ja P m ops K rest (QZ f d v) w')
  (G:Z6 ops f ⟨d,.call ⟨.value x,[y].toArray,at_⟩,ty,ps,af,gd⟩=true:=by rfl):
  Ja P m ops K (⟨d,.call ⟨.value x,[y].toArray,at_⟩,ty,ps,af,gd⟩::rest) f w:=by
 obtain⟨fn,tmps,assign,body,h1,h2⟩:=hy;have H:(execOp (ev f) ⟨d,.call ⟨.value x,[y].toArray,at_⟩,ty,ps,af,gd⟩).run P w=.ok (.round l fn tmps assign body) w:=by
  simp[execOp,resolve,hx,Deferred.ofValue,invoke,h1]
 unfold Ja;rw[G];simp only[XOY,H,upY,cond_true];exact h2.mono λe w' h=>by obtain⟨v,rfl,hk⟩:=E e w' h;exact hk
end
attribute [irreducible] Ja
structure Lw (B:Nat)(L:LN)(w w':World):Prop where
 os:w'.os=w.os
 tape:w'.tape=w.tape
 output:w'.output=w.output
 size:w.heap.size≤w'.heap.size
 low:∀k,k<B→k∉L→w'.heap[k]?=w.heap[k]?
theorem Lw.refl (B:Nat)(L:LN)(w:World):Lw B L w w:=⟨O,O,O,Lt _,λ_ _ _=>O⟩
theorem Lw.trans {B:Nat}{L:LN}{E w w':World}(h:Lw B L E w)(k:Lw B L w w'):Lw B L E w' :=
 ⟨k.os.trans h.os,k.tape.trans h.tape,k.output.trans h.output,LJ h.size k.size,λi hi G=>(k.low i hi G).trans (h.low i hi G)⟩
theorem Step.lw {L:LN}{w w' E:World}(h:Step L w w')(k:Lw w.heap.size L w' E):Step L w E :=
 ⟨k.os.trans h.os,k.tape.trans h.tape,k.output.trans h.output,LJ h.size k.size,λi hi G=>(k.low i hi G).trans (h.block i hi G)⟩
structure XS (B:Nat)(L:LN)(W W':World):Prop where
 lw:Lw B L W W'
 other:∀(k:Nat) (o:Obj),W.heap[k]?=some o→o.isCells=false→W'.heap[k]?=some o
theorem XS.refl (B:Nat)(L:LN)(w:World):XS B L w w:=⟨Lw.refl _ _ _,λ_ _ h _=>h⟩
theorem XS.trans {B:Nat}{L:LN}{E w w':World}(h:XS B L E w)(k:XS B L w w'):XS B L E w':=⟨h.lw.trans k.lw,λi o hi G=>k.other i o (h.other i o hi G) G⟩
theorem XS.step {B:Nat}{L X:LN}{W W':World}(h:Step X W W')(I:B≤W.heap.size)(E:∀b∈X,(b∈L∨B≤b)∧∃o:Obj,W.heap[b]?=some o∧o.isCells=true):XS B L W W':=by
 refine⟨⟨h.os,h.tape,h.output,h.size,λk hk G=>h.block k (by omega) (λhx=>?_)⟩,λk o hk H=>?_⟩
 ·rcases(E k hx).1 with h1|h1
  ·exact G h1
  omega
 refine(h.block k (LD.1 hk).1 (λhx=>?_)).trans hk;obtain⟨J,h1,h2⟩:=(E k hx).2;rw[hk]at h1;cases h1;rw[H]at h2;cases h2
theorem XS.ext {B:Nat}{L:LN}{W W':World}(h:Step [] W W')(E:B≤W.heap.size):XS B L W W':=XS.step h E (λ_ hb=>by cases hb)
theorem QT.cells {H:Array Obj}{b T:Nat}{cs:LV}(h:QT H b T cs):∃o:Obj,H[b]?=some o∧o.isCells=true:=⟨_,h,O⟩
theorem XS.blk {B:Nat}{L:LN}{W W':World}{b T:Nat}{cs:LV}(h:Step [b] W W')(E:B≤W.heap.size)(hb:QT W.heap b T cs)(G:b∈L∨B≤b):XS B L W W' :=
 XS.step h E (λc hc=>by
  have e:c=b:=by simpa using hc
  subst e;exact⟨G,hb.cells⟩)
def Z4 (B:Nat)(I:World→Prop):Prop:=∀W W' X,I W→Step X W W'→(∀r∈X,B≤r∧∃o:Obj,W.heap[r]?=some o∧o.isCells=false)→I W'
theorem Z4.own {β:Type}{B:Nat}{I:β→World→Prop}(h:∀s,Z4 B (I s)):OwnFrom B I:=λs W W' row hs G H =>
 h s W W' _ hs (Step.of_grown G) (λr E=>H r (by cases row <;> simp at E ⊢;exact E.symm))
theorem Z4.blk {B:Nat}{b T:Nat}{cs:LV}:Z4 B (λW=>QT W.heap b T cs):=λW W' X h hs E=>h.step hs (λhb=>by
 obtain⟨_,o,h1,h2⟩:=E b hb;unfold QT at h;rw[h]at h1;cases h1;cases h2)
theorem Z4.and {B:Nat}{I J:World→Prop}(h:Z4 B I)(k:Z4 B J):Z4 B (λW=>I W∧J W):=λW W' X hi hs E=>⟨h W W' X hi.1 hs E,k W W' X hi.2 hs E⟩
theorem Z4.ex {B:Nat}{β:Type}{I:β→World→Prop}(h:∀z,Z4 B (I z)):Z4 B (λW=>∃z,I z W):=λW W' X ⟨z,hi⟩ hs E=>⟨z,h z W W' X hi hs E⟩
theorem Z4.pure {B:Nat}(p:Prop):Z4 B (λ_=>p):=λ_ _ _ h _ _=>h
theorem Z4.step {B:Nat}{L:LN}{w:World}(G:w.heap.size≤B):Z4 B (λW=>Step L w W):=λW W' X h hs E=>h.then hs (λb hb=>.inr (by have:=(E b hb).1;omega))
theorem Zo {w:World}{base e sz n:Nat}{v:Value}{cs:LV}(h:w.ownsRow base e sz v n cs):∀b∈ob v,∃o:Obj,w.heap[b]?=some o∧o.isCells=true:=by
 intro b hb;rcases h.2 with⟨h1,_⟩|⟨g,cap,cur,h1,h2,h3,_⟩
 ·subst h1;simp[ob]at hb
 subst h1;simp[ob]at hb;subst hb;exact⟨_,h3,O⟩
theorem Z4.row {B base e sz n:Nat}{v:Value}{cs:LV}:Z4 B (λW=>W.ownsRow base e sz v n cs):=λW W' X h hs E=>Ql h hs (λb hb hx=>by
 obtain⟨_,o,h1,h2⟩:=E b hx;obtain⟨G,h3,h4⟩:=Zo h b hb;rw[h1]at h3;cases h3;rw[h2]at h4;cases h4)
theorem QkJ {α:Type}{m:Nat}{P:Program}{n:Nat}{Q:Exit→LN→Fr→World→Prop}{ds:LN}{f:Fr}{w:World}{g:Operand}{p:Nat}{assign body:Code}(L:LN)(h1:1≤m)
  {gf:Nat} {fn:Func} [hF:Fu P gf fn] {capt:LV} (V:ev f g=.func (.func gf) #[] capt.toArray) {enc:α→Value} {S:List α→Prop} {N:Nat} (hp:p<n)
  (Y:SeqStopsK (fen none) (m - 1) P gf capt.toArray (λx=>#[enc x]) (Lw w.heap.size L) S (λ_=>True) N w)
  (I:List α→World→Prop) (hI:∀s,Z4 w.heap.size (I s)) (h0:I [] w) (A:Fr→α→Fr→World→Prop) (hA:∀x E,Z4 w.heap.size (A f x E))
  (J:∀l pre x W,I pre W→WG (some l) (m - 1 - 1) P n assign (Qb0 (λH E W'=>H=[]∧XS w.heap.size L W W'∧I pre W'∧A f x E W') (λ_ _ _ _=>False)) [] (upd f p (enc x)) W)
  (T:∀l pre x E W,I pre W→A f x E W→pre.length<N→WG (some l) (m - 1 - 1) P n body (Qb0 (λ_ _ W'=>XS w.heap.size L W W'∧I (pre++[x]) W') (λ_ _ _ _=>False)) [] E W)
  (hb:∀D xs W,w.heap.size≤D→S xs→I xs W→W.heap[D]?=some (.deferred (some []))→Q .normal (D::ds) f W):
  WG none m P n (.rangeFunc g #[p] assign body) Q ds f w:=by
 unfold WG at J T ⊢;intro a ha;have eg:∀args w,(callFunc gf args).run P w=.ok (.enter gf args) w:=by
  intro args w;have h1:¬fn.name = "runtime.NumGoroutine" := by simpa using hF.nm
  have h2:¬fn.body=none:=by have:=hF.b;intro e;rw[e]at this;cases this
  simp[callFunc,hF.f,h1,h2]
 have keep:∀{W W':World},XS w.heap.size L W W'→KeepsFrom w.heap.size W W':=λh=>⟨h.lw.size,λk o _ hk U=>h.other k o hk U⟩;refine wpIn_rangeFunc_ownH (F:=fen none) O h1 (gf:=gf) (lb:=capt.toArray) (by rw[ha.eval];exact V) Z eg Y (λh k=>h.trans k)
  (λW l o o' hl U _ _=>⟨O,O,O,by simp,λk hk _=>World.putObj_heap_other (by omega)⟩) (Below.refl _ _) (λ_=>rfl) I (λ_ _ _=>False) (Z4.own hI) (λ_ _ _ _ _ hs _ _=>hs) h0
  (λx G W=>∃E,YC n [] G E∧A f x E W) (λx G=>Z4.own λ_=>Z4.ex λE=>Z4.and (Z4.pure _) (hA x E)) ?_ ?_ ?_ ?_
 ·intro l pre x W K hi hK;have hr:YC n [] { tmps:=((#[p]:Array Nat).zip #[enc x]).foldl (λt (p,v)=>t.setIfInBounds p v) a.tmps,defers:=[] } (upd f p (enc x)):=by
   have h2:YC n [] { a with defers:=[] } f:=⟨ha.size,O,ha.get⟩
   have h3:=h2.put (dst:=some p) (λd e=>by cases e;exact hp) (enc x);have e:((#[p]:Array Nat).zip #[enc x]).foldl (λt (p,v)=>t.setIfInBounds p v) a.tmps=a.tmps.setIfInBounds p (enc x):=by simp
   rw[e];exact h3
  refine wpIn_mono (J l pre x W hi _ hr) ?_;rintro e G W' ⟨H,E,h2,_,h3⟩;cases e with
  | normal=>obtain⟨rfl,h4,h5,h6⟩:=h3;exact hK G W' (keep h4) h4.lw h5 ⟨E,h2,h6⟩
  | exit id=>exact h3.elim
  | goto l=>exact h3.elim
  | ret=>exact h3.elim
  | panic ch=>exact h3.elim
  | outgrown=>exact h3.elim
 ·rintro l pre x G W _ _ hi ⟨E,h2,h3⟩ hc;refine wpIn_mono (T l pre x E W hi h3 hc G h2) ?_;rintro e he W' ⟨H,hf,h4,_,h5⟩;cases e with
  | normal=>exact⟨keep h5.1,h5.1.lw,h5.2⟩
  | exit id=>exact h5.elim
  | goto l=>exact h5.elim
  | ret=>exact h5.elim
  | panic ch=>exact h5.elim
  | outgrown=>exact h5.elim
 ·intro D xs W hD hS hi hd;exact⟨D::ds,f,⟨ha.size,by rw[show coll (D::ds)={ target:=.collected D,args:=#[] }::coll ds from rfl,ha.defers],ha.get⟩,λ_ _=>rfl,hb D xs W hD hS hi hd⟩
 intro D c pre W _ _ h _;exact h.elim
def Qmg (P:Program)(t:Nat):Option (LV×List (Nat×Nat)):=match P.info? t,P.underlying t with
 | some it,some (.struct fs)=>match it.zero,fs.toList.mapM (λf=>(P.info? f.type).map λi=>(f.offset,i.size))with
  | some (.agg zs),some pl=>some (zs.toList,pl)
  | _,_=>none
 | _,_=>none
class Bw (P:Program)(t:Nat)(zs:outParam (LV))(pl:outParam (List (Nat×Nat))):Prop where
 h:Qmg P t=some (zs,pl)
 b:pl.all (λx=>x.1+x.2≤zs.length)=true
def QaF:LV→Nat→LV→LV
 | zs,_,[]=>zs
 | zs,o,u::us=>QaF (zs.set o u) (o+1) us
def Qh3 (pl:List (Nat×Nat))(zs:LV):List (Nat×LV)→LV
 | []=>zs
 | (j,us)::ps=>Qh3 pl (QaF zs (pl.getD j (0,0)).1 us) ps
def QkN:List (Nat×Value)→List (Nat×LV)→Prop
 | [],[]=>True
 | (j,v)::vs,(j',us)::uss=>v.cells=us.toArray∧j=j'∧QkN vs uss
 | _,_=>False
theorem QaE:∀(us zs:LV) (o:Nat),(QaF zs o us).length=zs.length
 | [],_,_=>rfl
 | u::us,zs,o=>by rw[QaF,QaE us,MD]
theorem yn (o:Nat):∀(us:LV) (k:Nat) (zs:LV),(us.zipIdx k).foldl (λ(cs:Array Value) (x:Value×Nat)=>cs.setIfInBounds (o+x.2) x.1) zs.toArray=(QaF zs (o+k) us).toArray
 | [],_,_=>rfl
 | u::us,k,zs=>by
  rw[List.zipIdx_cons,LM,QaF];have:=yn o us (k+1) (zs.set (o+k) u);rw[←List.setIfInBounds_toArray]at this;exact this
theorem Qhg {pl:List (Nat×Nat)}:∀(vs:List (Nat×Value)) (uss:List (Nat×LV)) (zs:LV),QkN vs uss→uss.all (λp=>p.1<pl.length && (p.2.length == (pl.getD p.1 (0,0)).2))=true →
  (∀x∈pl,x.1+x.2≤zs.length)→Instr.fill (pl.toArray[·]?) zs.toArray vs=some (Qh3 pl zs uss).toArray
 | [],[],zs,_,_,_=>rfl
 | [],_::_,_,h,_,_=>h.elim
 | _::_,[],_,h,_,_=>h.elim
 | (j,v)::vs,(j',us)::uss,zs,h1,h2,h3=>by
  obtain⟨hc,rfl,h1⟩:=h1;simp only[List.all_cons,Bool.and_eq_true,decide_eq_true_eq,beq_iff_eq]at h2;obtain⟨⟨hj,hl⟩,h2⟩:=h2;have E:pl.getD j (0,0)=pl[j]'hj:=by simp[List.getD,hj]
  have hm:=h3 _ (Li hj);unfold Instr.fill;simp only[List.getElem?_toArray,List.getElem?_eq_getElem hj,hc];rw[E]at hl;rw[if_neg (by simp only[List.size_toArray,hl,ne_eq,not_true,decide_false,Bool.false_or,decide_eq_true_eq];omega)];have e:=yn (pl[j]'hj).1 us 0 zs;rw[MP]at e
  have e2:(us.toArray.zipIdx).foldl (λ(cs:Array Value) (x:Value×Nat)=>cs.setIfInBounds ((pl[j]'hj).1+x.2) x.1) zs.toArray=(QaF zs (pl[j]'hj).1 us).toArray:=by
   rw[←e];simp
  rw[e2,Qh3,E];have G:=Qhg vs uss (QaF zs (pl[j]'hj).1 us) h1 h2 (λx hx=>by rw[QaE];exact h3 x hx);simpa only[List.getElem?_toArray]using G
theorem QcN {P:Program}{t:Nat}{zs:LV}{pl:List (Nat×Nat)}(h:Qmg P t=some (zs,pl))(hb:pl.all (λx=>x.1+x.2≤zs.length)=true)(vs:List (Nat×Value))(uss:List (Nat×LV))(h1:QkN vs uss)
  (h2:uss.all (λp=>p.1<pl.length && (p.2.length == (pl.getD p.1 (0,0)).2))=true):P.built t vs=some (Qh3 pl zs uss).toArray:=by
 have h3:∀x∈pl,x.1+x.2≤zs.length:=λo G=>by simpa using LU.1 hb o G
 unfold Qmg at h;unfold Program.built;cases hi:P.info? t with
 | none=>simp[hi]at h
 | some it =>
  cases hu:P.underlying t with
  | none=>simp[hi,hu]at h
  | some dd =>
   simp only[hi,hu]at h;cases dd <;> simp only[]at h <;> try (cases h)
   case struct fs =>
    cases E:it.zero with
    | none=>simp[E]at h
    | some z =>
     cases z <;> simp only[E]at h <;> try (cases h)
     rename_i za;cases hm:fs.toList.mapM (λf=>(P.info? f.type).map λi=>(f.offset,i.size))with
     | none=>simp[hm]at h
     | some pl' =>
      simp only[hm,Option.some.injEq,Prod.mk.injEq]at h;obtain⟨rfl,rfl⟩:=h;simp only[E,hm,Value.cells];exact Qhg vs uss za.toList h1 h2 h3
theorem Zx {P:Program}{f:Fr}{w:World}{d:Option Nat}{ty:Nat}{ps:String}{af:Array Edge}{gd:Option (Nat×Bool)}{t:Nat}{zs:LV}{pl:List (Nat×Nat)}[h:Bw P t zs pl]{parts:List (Nat×Operand)}(uss:List (Nat×LV))
  (h1:QkN (parts.map λx=>(x.1,ev f x.2)) uss) (h2:uss.all (λp=>p.1<pl.length && (p.2.length == (pl.getD p.1 (0,0)).2))=true:=by rfl):
  (execOp (ev f) ⟨d,.build t parts.toArray,ty,ps,af,gd⟩).run P w=.ok (.value (.agg (Qh3 pl zs uss).toArray)) w:=by
 have hb:=QcN h.h h.b _ uss h1 h2;have E:=run_build (P:=P) w t (parts.toArray.map λ(i,x)=>(i,ev f x)) _ (by simpa using hb);simp only[execOp,Sem.run_bind,E,Result.andThen_ok,Sem.run_pure]
end Go.Lg
namespace Go.Proofs.YtjcgijbhaemldaaGreatDoor
open Go.Proofs.Tryz
open Go.Lg
def cnE (p:Ed→Bool)(es:List Ed):Int:=((es.filter p).length:Int)
theorem Qbr (p:Ed→Bool)(es:List Ed)(e:Ed):cnE p (es++[e])=cnE p es+if p e=true then 1 else 0:=by
 unfold cnE;rw[L2,Lj];by_cases h:p e=true
 ·simp[h]
 simp[h]
theorem Vp (p:Ed→Bool)(es:List Ed):0≤cnE p es∧cnE p es≤es.length:=by
 unfold cnE;have:=L3 p es;omega
def gA (n:Nat)(f:Nat→Int):LI:=(List.range n).map f
theorem QlV (n:Nat)(f:Nat→Int):(gA n f).length=n:=by simp[gA]
theorem Qg8 {n:Nat}{f:Nat→Int}{i:Nat}(h:i<(gA n f).length):(gA n f)[i]'h=f i:=by simp[gA]
theorem q6 {n:Nat}{f g:Nat→Int}{i:Nat}{u:Int}(hu:u=g i)(h:∀j,j<n→j≠i→g j=f j):(gA n f).set i u=gA n g:=by
 apply LY
 ·simp[gA]
 intro k h1 h2;rw[MS,Qg8 h2];by_cases e:i=k
 ·rw[if_pos e,hu,e]
 rw[if_neg e,Qg8];exact(h k (by simpa[gA]using h2) (Ne.symm e)).symm
theorem q7 {n:Nat}{f g:Nat→Int}(h:∀j,j<n→f j=g j):gA n f=gA n g:=Nu (λj hj=>h j (MU.1 hj))
def cN (es:List Ed)(s:Nat):Int:=cnE (λe=>decide (e.1+1=(s:Int))) es
def fS (es:List Ed)(s:Nat):Int:=cnE (λe=>decide (e.1<(s:Int))) es
theorem QdX (es:List Ed)(s:Nat):fS es (s+1)=cN es (s+1)+fS es s:=by
 unfold fS cN cnE;induction es with
 | nil=>rfl
 | cons e es ih =>
  simp only[List.filter_cons];by_cases h1:e.1<(s:Int)
  ·have h2:e.1<((s+1:Nat):Int):=by omega
   have h3:¬e.1+1=((s+1:Nat):Int):=by omega
   simp only[h1,h2,h3,decide_true,decide_false,if_true,List.length_cons]at ih ⊢;simp only[Bool.false_eq_true,if_false]at ih ⊢;omega
  by_cases h2:e.1+1=((s+1:Nat):Int)
  ·have h3:e.1<((s+1:Nat):Int):=by omega
   simp only[h1,h2,h3,decide_true,decide_false,if_true,List.length_cons]at ih ⊢;simp only[Bool.false_eq_true,if_false]at ih ⊢;omega
  have h3:¬e.1<((s+1:Nat):Int):=by omega
  simp only[h1,h2,h3,decide_false,Bool.false_eq_true,if_false]at ih ⊢;exact ih
theorem QdW {es:List Ed}(h:∀e∈es,0≤e.1):fS es 0=0∧cN es 0=0:=by
 unfold fS cN cnE;refine⟨?_,?_⟩
 ·have:(es.filter λe=>decide (e.1<((0:Nat):Int)))=[]:=MC.2 (λe he=>by have:=h e he;simp;omega);rw[this];rfl
 have:(es.filter λe=>decide (e.1+1=((0:Nat):Int)))=[]:=MC.2 (λe he=>by have:=h e he;simp;omega);rw[this];rfl
def mX (es:List Ed)(s j:Nat):Int:=if j≤s then fS es j else cN es j
theorem Qjt {es:List Ed}(h:∀e∈es,0≤e.1)(n:Nat):gA n (cN es)=gA n (mX es 0):=q7 λj _=>by
 unfold mX;by_cases e:j≤0
 ·have:j=0:=by omega
  subst this;rw[if_pos (Lt _),(QdW h).1,(QdW h).2]
 rw[if_neg e]
theorem Qju (es:List Ed)(s n:Nat):(gA n (mX es s)).set (s+1) (mX es s (s+1)+mX es s s)=gA n (mX es (s+1)):=by
 refine q6 ?_ λj _ hj=>?_
 ·unfold mX;rw[if_neg (by omega),if_pos (Lt _),if_pos (Lt _),QdX]
 unfold mX;by_cases e:j≤s
 ·rw[if_pos (by omega),if_pos e]
 rw[if_neg (by omega),if_neg e]
theorem Qkr (es:List Ed)(e:Ed)(E:0≤e.1)(n:Nat):(gA n (cN es)).set (e.1.toNat+1) (cN es (e.1.toNat+1)+1)=gA n (cN (es++[e])):=by
 refine q6 ?_ λj _ hj=>?_
 ·unfold cN;rw[Qbr,if_pos (by simp;omega)]
 unfold cN;rw[Qbr,if_neg (by simp;omega)];simp
theorem yB (n:Nat):(List.replicate n (Value.int .i64 0).cells.toList).flatten=(gA n (cN [])).map (Value.int .i64):=by
 apply LY
 ·simp[Value.cells,gA]
 intro i h1 h2;simp[Value.cells,gA,cN,cnE]
section
variable {P:Program}{K:Fr→World→Prop}{f:Fr}{w:World}{d:Option Nat}{ty:Nat}{ps:String}{af:Array Edge}{gd:Option (Nat×Bool)}
theorem VM {t:Nat}[Xy P t]{x:Operand}{b T i n:Nat}{g:Nat→Int}(h:QT w.heap b T ((gA n g).map (.int .i64)))(hx:ev f x=.pointer (some ⟨b,0+i*1,none⟩))(hi:i<n):
  (execOp (ev f) ⟨d,.load t x,ty,ps,af,gd⟩).run P w=.ok (.value (.int .i64 (g i))) w:=Qd h hx (by simp[gA,hi])
theorem Kl {t:Nat}[h1:Xy P t]{x y:Operand}{b T i n:Nat}{g E:Nat→Int}{u:Int}(G:QT w.heap b T ((gA n g).map (.int .i64)))(hx:ev f x=.pointer (some ⟨b,0+i*1,none⟩))(hy:ev f y=.int .i64 u)(hi:i<n)(H:(gA n g).set i u=gA n E)
  (I:∀w',Step [b] w w'→QT w'.heap b T ((gA n E).map (.int .i64))→K (QZ f d undef) w'):XO P ⟨d,.store t x y,ty,ps,af,gd⟩ f w K :=
 XY G hx hy (by rw[QlV];exact hi) λw' hs J=>I w' hs (by rw[←H];exact J)
end
instance:Bw prog 171 [nS,.int .i64 0,nS,nS,nS] [(0,4),(4,1)]:=⟨by kernel_rfl,by decide⟩
theorem UJ {w:World}{va vm ve:Value}{a:QO}{n:Nat}(h:Zp [] w.heap va vm ve a)(hn:a.st=(n:Int))(hV:a.st≤4096)(h5:∀e∈a.ed,0≤e.1∧e.1<a.st):
  QE prog 76 [.agg #[va,.int .i64 a.st,vm,ve]] w λr w'=>Step [] w w'∧∃b,r=.agg #[va,.int .i64 a.st,vm,ve,.slice (some ⟨b,0,none⟩) (n+1) (n+1)]∧w.heap.size≤b∧QT w'.heap b 3 ((gA (n+1) (fS a.ed)).map (Value.int .i64)):=by
 have hW:=h.ed.le;refine QE.of_W func76 O ntmps76 results76 (by simp) ?_;refine Qc<|xl O<|QQ (us:=[va,.int .i64 a.st,vm,ve]) O λb1 w1 ht hD hE=>xl O<|Qu (us:=[nS,.int .i64 0,nS,nS,nS]) O λb2 E hu hX h6=>xe ?_;have hF:=ht.trans hu;have Y:=hE.ext hu;have h2:=h.ext hF;have hm:a.st+1=((n+1:Nat):Int):=by omega
 have hv:Step [] E { E with drawn:=E.drawn+1 }:=Step.drew [] E
 have hY:=hv.size;refine QX (α:=Nat×Nat) [(3,3),(7,12)] (λz=>[(3,.pointer (some ⟨z.1,0,none⟩))]) (λz w'=>Step [] E w'∧QT w'.heap z.1 171 [va,.int .i64 a.st,vm,ve,.slice (some ⟨z.2,0,none⟩) (n+1) (n+1)]∧QT w'.heap z.2 3 ((gA (n+1) (cN [])).map (Value.int .i64))∧E.heap.size≤z.1∧E.heap.size≤z.2∧z.1≠z.2) (by rfl) ?_ ?_
 ·refine QkC (Step [] E) (.f2 [(0,true),(1,true),(2,true),(3,true)] 4 6 (.pl [(5,true),(6,false),(7,false)]) (.pl [(4,false),(5,true),(7,false)])) mixed (by rfl) (by kernel_rfl) (Step.drew _ _) ?_;refine u2<|pq (λ_ hc=>Qn (Y.ext hc) O O)<|p (λ_=>Qa O)<|pq (λ_ hc=>Qd (Y.ext hc) O O)<|p (λ_=>Xa O O ⟨by omega,by omega⟩)<|pe ⟨?_,?_⟩
  ·refine ue<|XB (n:=n+1) (congrArg (Value.int .i64) hm) (congrArg (Value.int .i64) hm) (by omega) λb11 w3 hw hG ho=>?_;have ha:=hv.trans hw;have hZ:=ho.lt;refine⟨ha,?_⟩;refine uP<|p (λ_=>Zx [(0,[va,.int .i64 a.st,vm,ve]),(1,[.slice (some ⟨b11,0,none⟩) (n+1) (n+1)])] ⟨O,O,O,O,Z⟩)<|pk<|Qu (us:=[nS,.int .i64 0,nS,nS,nS]) O λT w4 hb hy G=>?_;have H:=ha.trans hb
   refine⟨H,?_⟩;refine pk<|Qo (us:=[va,.int .i64 a.st,vm,ve,.slice (some ⟨b11,0,none⟩) (n+1) (n+1)]) G O O O O ⟨h.al.one,O,h.mr.one,h.ed.one,O,Z⟩ λw5 I hf=>⟨H.then1 I (by omega),pe ?_⟩;have hz:QT w3.heap b11 3 ((gA (n+1) (cN [])).map (Value.int .i64)):=by rw[←yB];exact ho
   exact⟨(T,b11),La,H.then1 I (by omega),hf,(hz.ext hb).step I (by simp;omega),by simp only[];omega,by simp only[];omega,by simp only[];omega⟩
  refine ue<|Qu (us:=[nS,.int .i64 0,nS,nS,nS]) O λT w3 hw hy G=>?_;have ha:=hv.trans hw;have ga:=G.lt;refine⟨ha,?_⟩;refine uP<|pk<|XB (n:=n+1) (congrArg (Value.int .i64) hm) (congrArg (Value.int .i64) hm) (by omega) λb11 w4 hb hG ho=>?_;have H:=ha.trans hb;refine⟨H,?_⟩
  refine p (λ_=>Zx [(0,[va,.int .i64 a.st,vm,ve]),(1,[.slice (some ⟨b11,0,none⟩) (n+1) (n+1)])] ⟨O,O,O,O,Z⟩)<|pk<|Qo (us:=[va,.int .i64 a.st,vm,ve,.slice (some ⟨b11,0,none⟩) (n+1) (n+1)]) (G.ext hb) O O O O ⟨h.al.one,O,h.mr.one,h.ed.one,O,Z⟩ λw5 I hf=>⟨H.then1 I (by omega),pe ?_⟩;have hz:QT w4.heap b11 3 ((gA (n+1) (cN [])).map (Value.int .i64)):=by rw[←yB];exact ho
  exact⟨(T,b11),La,H.then1 I (by omega),hf,hz.step I (by simp;omega),by simp only[];omega,by simp only[];omega,by simp only[];omega⟩
 rintro⟨T,bF⟩ g6 w6 ⟨h7,G,h8,hy,h0,hH⟩;simp only[]at G h8 hy h0 hH;have hI:=Y.ext h7;have gb:=Y.lt;have gc:=h6.lt;refine Qg<|Qc<|x (Qa O)<|x (Qd hI O O)<|x (Qr h.ed O)<|Qb<|xe ?_;have hJ:∀e∈a.ed,0≤e.1:=λe he=>(h5 e he).1
 refine Qh<|QA (α:=Nat) [(5,5),(16,29)] (λz=>[(16,.int .i64 z)]) (λz w'=>z≤a.ed.length∧Step [] E w'∧QT w'.heap T 171 [va,.int .i64 a.st,vm,ve,.slice (some ⟨bF,0,none⟩) (n+1) (n+1)]∧QT w'.heap bF 3 ((gA (n+1) (cN (a.ed.take z))).map (Value.int .i64))) (λz=>a.ed.length - z) (by rfl) 0 La
  ⟨Ll _,h7,G,h8⟩ ?_
 rintro k g w7 ⟨hk,hp,h1,hq⟩;refine Qc<|x (Qz O O)<|xe<|Qg<|QC O (λh3=>?_) (λh3=>?_)
 ·refine Qy ?_;have hK:a.ed.length≤k:=by have hr:¬(k:Int)<(a.ed.length:Int):=h3;omega
  rw[Ln hK,Qjt hJ (n+1)]at hq;refine Qg<|Qc<|x (Qa O)<|x (Qd (Y.ext hp) O O)<|Qb<|xe<|Qh<|QA (α:=Nat) [(6,6),(32,48)] (λz=>[(32,.int .i64 z)]) (λz w'=>z≤n∧Step [] E w'∧QT w'.heap T 171 [va,.int .i64 a.st,vm,ve,.slice (some ⟨bF,0,none⟩) (n+1) (n+1)]∧QT w'.heap bF 3 ((gA (n+1) (mX a.ed z)).map (Value.int .i64))) (λz=>n - z) (by rfl) 0 La
   ⟨Ll _,hp,h1,hq⟩ ?_
  rintro j g w8 ⟨hj,hg,hs,U⟩;refine Qc<|x (Qz O O)<|xe<|Qg<|QC O (λh9=>?_) (λh9=>?_)
  ·refine Qy ?_;have h4:j=n:=by omega
   rw[h4]at U;have hL:gA (n+1) (mX a.ed n)=gA (n+1) (fS a.ed):=q7 λi hi=>by unfold mX;rw[if_pos (by omega)]
   rw[hL]at U;refine Qc<|x (Qn hs O O)<|xl O<|Qo (us:=[va,.int .i64 a.st,vm,ve,.slice (some ⟨bF,0,none⟩) (n+1) (n+1)]) (h6.ext hg) O O O O ⟨h.al.one,O,h.mr.one,h.ed.one,O,Z⟩ λw9 J hM=>xe ?_;have ge:=ht.size;refine Qk ⟨[_],⟨⟨_,O,Qw O (hM.at (L:=[]) (by simp)).cells⟩,Z⟩,((ht.trans hu).trans hg).then1 J (by omega),bF,rfl,by omega,U.step J (by simp;omega)⟩
  have h4:j<n:=by have gg:(j:Int)<a.st:=h9;omega
  have gh:=Vp (λe:Ed=>decide (e.1<(j:Int))) a.ed;have gi:=Vp (λe:Ed=>decide (e.1+1=((j+1:Nat):Int))) a.ed;have hN:mX a.ed j (j+1)=cN a.ed (j+1):=by unfold mX;rw[if_neg (by omega)]
  have hO:mX a.ed j j=fS a.ed j:=by unfold mX;rw[if_pos (Lt _)]
  have hD:0≤mX a.ed j (j+1)∧mX a.ed j (j+1)≤1099511627776:=by rw[hN];unfold cN;omega
  have gj:0≤mX a.ed j j∧mX a.ed j j≤1099511627776:=by rw[hO];unfold fS;omega
  refine Qi<|Qg<|Qh<|Qc<|Qb<|Qe<|QV (Step [] w8) [(0,true),(1,true),(2,true),(3,true),(4,true),(5,true),(6,true),(7,true),(8,true),(9,true),(10,true),(11,true),(12,true),(13,false)] mixed (by rfl) (by kernel_rfl) (Step.drew _ _) ?_;refine p (λ_=>Qa O)<|pq (λ_ hc=>Qd (hs.ext hc) O O)<|p (λ_=>Qm)<|p (λ_=>Xa O O ⟨by omega,by omega⟩) <|
   p (λ_=>QS (i:=j+1) O O (by omega))<|pq (λ_ hc=>VM (i:=j+1) (U.ext hc) O (by omega))<|p (λ_=>Qa O)<|pq (λ_ hc=>Qd (hs.ext hc) O O) <|
   p (λ_=>Qm)<|p (λ_=>QS (i:=j) O O (by omega))<|pq (λ_ hc=>VM (i:=j) (U.ext hc) O (by omega))<|p (λ_=>Xa O O ⟨by omega,by omega⟩) <|
   p (λ_=>QS (i:=j+1) O O (by omega))<|pkl (hl:=by kernel_rfl)<|Kl (i:=j+1) (U.ext (Step.drew [] w8)) O O (by omega) (Qju a.ed j (n+1)) λw9 J hP=>pe ?_
  refine Qx<|QM O O<|Qb<|xe ?_;exact⟨j+1,by omega,La,h4,(hg.trans (Step.drew [] w8)).then1 J h0,(hs.ext (Step.drew [] w8)).step J (by simp;omega),hP⟩
 have V:k<a.ed.length:=by have hr:(k:Int)<(a.ed.length:Int):=h3;omega
 have hA:a.ed.take (k+1)=a.ed.take k++[a.ed[k]'V]:=Le V;have hB:=h5 _ (Li V);refine Zb (a.ed[k]'V) λe he=>?_;rw[he]at hA hB;have hfr:e.1+1=((e.1.toNat+1:Nat):Int):=by omega
 have hQ:=Qkr (a.ed.take k) e hB.1 (n+1);have hR:=Vp (λd:Ed=>decide (d.1+1=((e.1.toNat+1:Nat):Int))) (a.ed.take k);have gk:0≤cN (a.ed.take k) (e.1.toNat+1)∧cN (a.ed.take k) (e.1.toNat+1)≤1099511627776:=by unfold cN;rw[Ly]at hR;omega
 refine Qi<|Qg<|Qh<|Qc<|xie (h2.ed.ext hp) O O V λgl hr=>?_;rw[he]at hr;refine x (QI hr O O)<|xl O<|Qu (us:=[.int .i64 0,.int .i64 0,.int .i64 0]) O λb5 w8 hg hS hf=>xl O<|Qo (us:=QD e) hf O O O O ⟨O,O,O,Z⟩ λw9 J hT=>xe ?_;have hh:Step [] w7 w9:=hg.then1 J hS
 refine Qx<|x (Qa O)<|x (Qd (h1.ext hh) O O)<|x (Qa O)<|x (Qd hT O O)<|QM O O<|x (QS (i:=e.1.toNat+1) O (congrArg (Value.int .i64) hfr) (by omega)) <|
  x (VM (i:=e.1.toNat+1) (hq.ext hh) O (by omega))<|QM O O<|x (QS (i:=e.1.toNat+1) O (congrArg (Value.int .i64) hfr) (by omega)) <|
  xl rfl<|Kl (i:=e.1.toNat+1) (hq.ext hh) O O (by omega) hQ λgm hC hU=>xe ?_
 refine Qx<|QM O O<|Qb<|xe<|⟨k+1,by omega,La,V,(hp.trans hh).then1 hC h0,(h1.ext hh).step hC (by simp;omega),?_⟩;rw[hA];exact hU
end Go.Proofs.YtjcgijbhaemldaaGreatDoor
namespace Go.Lg
open Go.RowKit
def YY (w:World)(base e sz:Nat)(v:Value)(n:Nat)(cs:LV):Prop :=
 cs.length=n*sz∧((v=nS∧n=0)∨∃g off cap cur,v=.slice (some ⟨g,off,none⟩) n cap∧base≤g∧w.heap[g]?=some (.cells cur e (0,0))∧n≤cap∧cap≤maxLen∧off+cap*sz≤cur.size∧(cur.toList.drop off).take (n*sz)=cs)
theorem YY.of_row {w:World}{base e sz n:Nat}{v:Value}{cs:LV}(h:w.ownsRow base e sz v n cs):YY w base e sz v n cs :=
 ⟨h.1,h.2.imp id λ⟨g,cap,cur,h1,h2,h3,h4,h5,G,E⟩=>⟨g,0,cap,cur,h1,h2,h3,h4,h5,by omega,by simpa using E⟩⟩
theorem Qgk {X:LN}{w w':World}{base e sz n:Nat}{v:Value}{cs:LV}(h:YY w base e sz v n cs)(hs:Step X w w')(E:∀b∈ob v,b∉X):YY w' base e sz v n cs:=by
 refine⟨h.1,h.2.imp id λ⟨g,off,cap,cur,h1,h2,h3,h4⟩=>⟨g,off,cap,cur,h1,h2,?_,h4⟩⟩;rw[hs.block g (LD.1 h3).1 (E g (by rw[h1];simp[ob]))];exact h3
theorem Qm2 {w w':World}{base e sz n:Nat}{v:Value}{cs:LV}(h:YY w base e sz v n cs)(hs:Step [] w w'):YY w' base e sz v n cs:=Qgk h hs (λ_ _=>by simp)
theorem Qlr {w:World}{base e sz n:Nat}{v:Value}{cs:LV}(h:YY w base e sz v n cs):∀b∈ob v,base≤b∧b<w.heap.size:=by
 intro b hb;rcases h.2 with⟨h1,_⟩|⟨g,off,cap,cur,h1,h2,h3,_⟩
 ·subst h1;simp[ob]at hb
 subst h1;simp[ob]at hb;subst hb;exact⟨h2,(LD.1 h3).1⟩
theorem Qdr {w:World}{g off e n:Nat}{cur:Array Value}{cs:LV}(h3:w.heap[g]?=some (.cells cur e (0,0)))(E:(cur.toList.drop off).take n=cs):∀j u,cs[j]?=some u→w.cell? ((⟨g,off,none⟩:Addr).add j)=some u:=by
 intro j u hu;rw[Xg,Yu];unfold cel;simp only[h3];rw[←E,L1]at hu;split at hu
 ·simpa using hu
 cases hu
theorem QkT {L:LN}{w:World}{base e sz n:Nat}{v:Value}{cs:LV}(h:YY w base e sz v n cs)(E:n≤1099511627776)(G:∀b∈ob v,b∉L):Zv L w.heap v n sz cs:=by
 refine⟨h.1,E,?_⟩;rcases h.2 with h1|⟨g,off,cap,cur,h1,h2,h3,h4,h5,I,H⟩
 ·exact .inl h1
 exact .inr ⟨_,_,h1,h4,λ_ _=>G g (by rw[h1];simp[ob]),λ_ _=>(LD.1 h3).1,λj u hu=>Qdr h3 H j u hu⟩
section
variable {P:Program}{K:Fr→World→Prop}{f:Fr}{w:World}{d:Option Nat}{ty:Nat}{ps:String}{af:Array Edge}{gd:Option (Nat×Bool)}{ops l:List Oper}
theorem QnT {t e sz bys:Nat}{z:Value}[h:Sl P t e sz bys z]{x E:Operand}{base:Nat}{v:Value}{n:Nat}{cs:LV}{k:IntKind}{lo:Nat}(I:YY w base e sz v n cs)(hx:ev f x=v)(hl:ev f E=.int k lo)(h1:lo≤n)
  (J:∀v',YY w base e sz v' (n - lo) (cs.drop (lo*sz))→ob v'=ob v→XL P ops K l (QZ f d v') w)
  (T:Z6 ops f ⟨d,.slice t x (some E) none none,ty,ps,af,gd⟩=true:=by rfl):XL P ops K (⟨d,.slice t x (some E) none none,ty,ps,af,gd⟩::l) f w:=by
 obtain⟨i,V,_,Y,_⟩:=Sl.info h;rcases I.2 with⟨U,hn⟩|⟨g,off,cap,cur,U,h2,h3,h4,h5,h6,h7⟩
 ·have e2:lo=0:=by omega
  subst e2 hn U;have ha:cs=[]:=Lr (by simpa using I.1);subst ha;refine xl T (xv (v:=nS) ?_ (J _ ⟨by simp,.inl ⟨rfl,rfl⟩⟩ rfl));simp[execOp,hx,hl,Instr.sliceAt,Instr.slice,run_underlying h.u,Instr.sliceBounds,Instr.sliceBound,asIntOf,sizeOf,typeInfo,V]
 subst U;have e2:(Instr.sliceBound (.int k lo) n .sliceB).run P w=.ok lo w:=ZU h1;have G:(execOp (ev f) ⟨d,.slice t x (some E) none none,ty,ps,af,gd⟩).run P w=.ok (.value (.slice (if cap=lo then some ⟨g,off,none⟩else some ((⟨g,off,none⟩:Addr).add (lo*sz))) (n - lo) (cap - lo))) w:=by
  simp[execOp,hx,hl,Instr.sliceAt,Instr.slice,run_underlying h.u,Instr.sliceBounds,e2,sizeOf,typeInfo,V,Y]
 have H:(cs.drop (lo*sz)).length=(n - lo)*sz:=by rw[L5,I.1,←Nat.sub_mul]
 by_cases hc:cap=lo
 ·rw[if_pos hc]at G;have hb:n - lo=0:=by omega
  refine xl T (xv G (J _ ⟨H,.inr ⟨g,off,cap - lo,cur,O,h2,h3,by omega,by omega,?_,?_⟩⟩ O))
  ·have:(cap - lo)*sz≤cap*sz:=My _ (by omega);omega
  rw[hb]at H ⊢;have:cs.drop (lo*sz)=[]:=Lr (by simpa using H);rw[this];simp
 rw[if_neg hc,Yu]at G;refine xl T (xv G (J _ ⟨H,.inr ⟨g,off+lo*sz,cap - lo,cur,O,h2,h3,by omega,by omega,?_,?_⟩⟩ O))
 ·rw[Nat.sub_mul];have:lo*sz≤cap*sz:=My _ (by omega);omega
 rw[←h7,List.drop_take,Nx,←Nat.sub_mul]
theorem jt {base t ty e:Nat}{sz bys:Nat}{z:Value}[h:Sl P t e sz bys z]{v:Value}{n:Nat}{cs:LV}(E:YY w base e sz v n cs)
  {a:Addr} {m c:Nat} {news:LV} (hl:news.length=m*sz) (hm:0<m) (T:∀j u,news[j]?=some u→w.cell? (a.add j)=some u) (h1:∀u∈news,u.oneCell'=true)
  (hb:n+m≤1099511627776) (hj:bys≤128) (ho:base≤w.heap.size):
  ∃v' w',(Builtin.append_ #[t,t] ty #[v,.slice (some a) m c]).run P w=.ok v' w'∧YY w' base e sz v' (n+m) (cs++news)∧Step (ob v) w w'∧(∀b∈ob v',b∈ob v∨w.heap.size≤b):=by
 obtain⟨i,hi,Y,H,ha⟩:=Sl.info h;have hc:(n+m)*bys≤140737488355328:=LJ (Nat.mul_le_mul hb hj) (by omega);have hp:n+m≤maxLen:=by simp only[maxLen];omega
 have new:∀(old:Nat),∀G,G=(Obj.cells (cs.toArray++news.toArray++Builtin.zeroCells z.cells (grownCap w (n+m) old e - (n+m))) e) →
    YY (w.drew.alloc G) base e sz (.slice (some ⟨w.heap.size,0,none⟩) (n+m) (grownCap w (n+m) old e)) (n+m) (cs++news):=by
   intro old G hq;subst hq;have hge:=grownCap_ge w (n+m) old e;have U:grownCap w (n+m) old e≤maxLen:=grownCap_le_maxLen w (n+m) old e hp;have J:(cs++news).length=(n+m)*sz:=by rw[Lj,E.1,hl,Mk]
   refine YY.of_row ⟨J,.inr ⟨w.heap.size,_,_,O,ho,KB w.drew _,hge,U,?_,?_⟩⟩
   ·simp only[Array.size_append,List.size_toArray,size_zeroCells,h.zs,E.1,hl,←Nat.add_mul];congr 1;omega
   simp only[Array.toList_append,List.append_assoc];rw[←LB,←J];exact List.take_left
 have stp:∀G,Step (ob v) w (w.drew.alloc G):=λG=>⟨O,O,O,by rw[j9];exact Nat.le_succ _,λk hk _=>QcR w.drew G k hk⟩;have fin:∀(b:Nat),b∈ob (.slice (some ⟨w.heap.size,0,none⟩) (n+m) 0)→b∈ob v∨w.heap.size≤b:=λb hb'=>by simp[ob]at hb';omega
 rcases E.2 with⟨rfl,rfl⟩|⟨g,off,cap,cur,rfl,hs,V,hv,U,hw,he⟩
 ·have hx:cs=[]:=Lr (by simpa using E.1);subst hx;have I:=run_append_nil (P:=P) w t ty e i z h.u hi Y a m c news (by rw[H];exact hl) T hm (by omega) (by rw[ha];have ht:=hc;simp only[Nat.zero_add]at ht;omega);have hn:=new 0 _ O;simp only[Nat.zero_add,List.nil_append,Array.empty_append]at hn ⊢;exact⟨_,_,I,hn,stp _,λb hb'=>fin b hb'⟩
 rcases Nat.lt_or_ge cap (n+m)with hroom|hroom
 ·have hu:=Qdr (w:=w) V he;have I:=run_append_grow (P:=P) w t ty e i z h.u hi Y ⟨g,off,none⟩ n cap cs (by rw[H];exact E.1) hu a m c news (by rw[H];exact hl) T hroom (by omega) (growslice_fits hroom (by rw[ha];exact hc));exact⟨_,_,I,new cap _ O,stp _,λb hb'=>fin b hb'⟩
 have hg:off+n*i.size+news.length≤cur.size:=by
  rw[hl,H];have:(n+m)*sz≤cap*sz:=My _ hroom;rw[Mk]at this;omega
 have hf:=run_firstCells_some (P:=P) w i.size m a m c news (by rw[H];exact hl) T;have hh:=run_storeCells_at P g (off+n*i.size) e news 0 cur w V (by simpa using hg) h1;simp only[Nat.add_zero]at hh;have I:(Builtin.append_ #[t,t] ty #[.slice (some ⟨g,off,none⟩) n cap,.slice (some a) m c]).run P w =
   .ok (.slice (some ⟨g,off,none⟩) (n+m) cap) (w.setRow g (cur.toList.take (off+n*i.size)++news++cur.toList.drop (off+n*i.size+news.length)).toArray):=by
  simp[Builtin.append_,run_underlying h.u,sizeOf,typeInfo,hi,Builtin.lenOf,hroom,hf,Yu,hh]
 refine⟨_,_,I,⟨by rw[Lj,E.1,hl,Mk],.inr ⟨g,off,cap,_,rfl,hs,setRow_heap w g _ _ e (0,0) V,hroom,U,?_,?_⟩⟩,?_,λb hb'=>.inl hb'⟩
 ·simp only[List.size_toArray,List.length_append,List.length_take,List.length_drop,Array.length_toList];omega
 ·have hy:cur.toList.length=cur.size:=Nt;rw[H]at hg ⊢;have e1:(cur.toList.take (off+n*sz)).drop off=cs:=by
   rw[List.drop_take,show off+n*sz - off=n*sz by omega];exact he
  have e2:(List.toArray (cur.toList.take (off+n*sz)++news++cur.toList.drop (off+n*sz+news.length))).toList.drop off=cs++news++cur.toList.drop (off+n*sz+news.length):=by
   show(cur.toList.take (off+n*sz)++news++cur.toList.drop (off+n*sz+news.length)).drop off=_;rw[LB,List.drop_append_of_le_length (by rw[Ly];omega),e1,LB]
  rw[e2];have J:(cs++news).length=(n+m)*sz:=by rw[Lj,E.1,hl,Mk]
  rw[←J];exact List.take_left
 exact Step.setRow w g _
theorem Qlz {t e sz bys:Nat}{z:Value}[h:Sl P t e sz bys z]{s y:Operand}{base:Nat}{v:Value}{n:Nat}{cs:LV}(E:YY w base e sz v n cs)(hs:ev f s=v)
  {a:Addr} {m c:Nat} {news:LV} (hy:ev f y=.slice (some a) m c) (hl:news.length=m*sz) (hm:0<m) {L:LN} (G:At L w.heap a news) (h1:∀u∈news,u.oneCell'=true)
  (hb:n+m≤1099511627776) (H:base≤w.heap.size)
  (I:∀v' w',YY w' base e sz v' (n+m) (cs++news)→Step (ob v) w w'→(∀b∈ob v',b∈ob v∨w.heap.size≤b)→K (QZ f d v') w') (J:bys≤128:=by decide):
  XO P ⟨d,.call ⟨.builtin .append,#[s,y],#[t,t]⟩,ty,ps,af,gd⟩ f w K:=by
 obtain⟨v',w',T,h2,h3,h4⟩:=jt (P:=P) (t:=t) (ty:=ty) E hl hm G.cells h1 hb J H (c:=c);have U:(execOp (ev f) ⟨d,.call ⟨.builtin .append,#[s,y],#[t,t]⟩,ty,ps,af,gd⟩).run P w=.ok (.value v') w':=by
  simp[execOp,resolve,invoke,builtin,hs,hy,T]
 exact xv U (I v' w' h2 h3 h4)
end
abbrev J2 (e base:Nat)(w:World)(v:Value)(l:LI):Prop:=YY w base e 1 v l.length (l.map (.int .i64))
theorem J2.snoc {e base:Nat}{w:World}{v:Value}{l:LI}{n:Int}(h:YY w base e 1 v (l.length+1) (l.map (Value.int .i64)++[.int .i64 n])):J2 e base w v (l++[n]):=by
 unfold J2;simpa using h
theorem J2.tail {e base:Nat}{w:World}{v:Value}{s:Int}{l:LI}(h:YY w base e 1 v ((s::l).length - 1) (((s::l).map (Value.int .i64)).drop (1*1))):J2 e base w v l:=by
 unfold J2;simpa using h
end Go.Lg
namespace Go.Proofs.YtjcgijbhaemldaaGreatDoor
open Go.Lg
def J3 {α:Type}(f:Nat→α)(i:Nat)(x:α):Nat→α:=λj=>if j=i then x else f j
theorem ZZ {α:Type}(f:Nat→α)(i:Nat)(x:α):J3 f i x i=x:=by simp[J3]
theorem Yo {α:Type}(f:Nat→α){i j:Nat}(x:α)(h:j≠i):J3 f i x j=f j:=by simp[J3,h]
theorem Qar {α β:Type}(k:α→β)(n:Nat)(f:Nat→α)(i:Nat)(x:α):((List.range n).map λj=>k (f j)).set i (k x)=(List.range n).map λj=>k (J3 f i x j):=by
 apply LY
 ·simp
 intro j h1 h2;rw[MS];by_cases e:i=j
 ·subst e;simp[ZZ]
 rw[if_neg e];simp[Yo _ _ (Ne.symm e)]
structure KE (base:Nat)(w:World)(n:Nat)(f:Nat→Value)(g:Nat→LI):Prop where
 own:∀i,i<n→Qt 3 base w (f i) (g i)
 dj:∀i j,i<n→j<n→i≠j→Dj (f i) (f j)
theorem KE.app {base n i:Nat}{w w':World}{f:Nat→Value}{g:Nat→LI}{v':Value}{l:LI}(h:KE base w n f g)(hi:i<n)(H:Qt 3 base w' v' l)(hs:Step (ob (f i)) w w')
  (I:∀b∈ob v',b∈ob (f i)∨w.heap.size≤b):KE base w' n (J3 f i v') (J3 g i l):=by
 refine⟨λj hj=>?_,λj k hj hk E=>?_⟩
 ·by_cases e:j=i
  ·subst e;rw[ZZ,ZZ];exact H
  rw[Yo _ _ e,Yo _ _ e];exact Ql (h.own j hj) hs (h.dj j i hj hi e)
 have key:∀j,j<n→j≠i→Dj v' (f j):=λj hj e b hb G=>by
  rcases I b hb with h1|h1
  ·exact h.dj i j hi hj (Ne.symm e) b h1 G
  have:=Q3 (h.own j hj) b G;omega
 by_cases e1:j=i
 ·subst e1;rw[ZZ,Yo _ _ (Ne.symm E)];exact key k hk (Ne.symm E)
 rw[Yo _ _ e1];by_cases e2:k=i
 ·subst e2;rw[ZZ];exact(key j hj e1).symm
 rw[Yo _ _ e2];exact h.dj j k hj hk E
theorem KE.step {base n:Nat}{X:LN}{w w':World}{f:Nat→Value}{g:Nat→LI}(h:KE base w n f g)(hs:Step X w w')(E:∀i,i<n→∀b∈ob (f i),b∉X):KE base w' n f g :=
 ⟨λi hi=>Ql (h.own i hi) hs (E i hi),h.dj⟩
theorem KE.ext {base n:Nat}{w w':World}{f:Nat→Value}{g:Nat→LI}(h:KE base w n f g)(hs:Step [] w w'):KE base w' n f g:=h.step hs (λ_ _ _ _=>by simp)
def ZE (es:List Ed)(s:Nat):LI:=(es.filter λe=>decide (e.2.2=(s:Int))).map (·.1)
theorem qV (es:List Ed)(e:Ed)(E:0≤e.2.2):∀s,J3 (ZE es) e.2.2.toNat (ZE es e.2.2.toNat++[e.1]) s=ZE (es++[e]) s:=by
 intro s;unfold ZE;rw[L2,Lv];by_cases h:s=e.2.2.toNat
 ·subst h;rw[ZZ];have:e.2.2=(e.2.2.toNat:Int):=by omega
  simp[←this]
 rw[Yo _ _ h];have:¬e.2.2=(s:Int):=by omega
 simp[this]
theorem JC {es:List Ed}{s:Nat}{p:Int}(h:p∈ZE es s):∃e∈es,e.1=p∧e.2.2=(s:Int):=by
 unfold ZE at h;simp only[List.mem_map,List.mem_filter,decide_eq_true_eq]at h;obtain⟨e,⟨h1,h2⟩,h3⟩:=h;exact⟨e,h1,h3,h2⟩
theorem XR (es:List Ed)(s:Nat):(ZE es s).length≤es.length:=by
 unfold ZE;rw[Lh];exact L3 _ _
def VD (s:Int)(st:LI×LI)(p:Int):LI×LI:=if cget st.1 p.toNat<0 then(st.1.set p.toNat (cget st.1 s.toNat+1),st.2++[p])else st
def bwL (es:List Ed):Nat→LI→LI→LI
 | 0,o,_=>o
 | _+1,o,[]=>o
 | f+1,o,s::q=>bwL es f ((ZE es s.toNat).foldl (VD s) (o,q)).1 ((ZE es s.toNat).foldl (VD s) (o,q)).2
def KY (n:Nat)(to:LI):LI:=(List.range n).map λi:Nat=>if(i:Int)∈to then 0 else -1
def bwd (n:Nat)(es:List Ed)(to:LI):LI:=bwL es (n+to.length) (KY n to) to
theorem Qkv (es:List Ed)(f:Nat)(o:LI):bwL es f o []=o:=by cases f <;> rfl
structure zR (n:Nat)(o q:LI):Prop where
 len:o.length=n
 q:∀x∈q,0≤x∧x<(n:Int)
 le:∀x∈o,-1≤x∧x+(neg o:Int)≤n
theorem Qcl (l:LI):neg l≤l.length:=L3 _ _
theorem QcO {n:Nat}{s p:Int}{st:LI×LI}(h:zR n st.1 st.2)(hs:0≤s∧s<(n:Int))(E:0≤cget st.1 s.toNat)(hp:0≤p∧p<(n:Int)):
  zR n (VD s st p).1 (VD s st p).2∧neg (VD s st p).1+(VD s st p).2.length=neg st.1+st.2.length∧0≤cget (VD s st p).1 s.toNat:=by
 unfold VD;have hl:=h.len;have G:p.toNat<st.1.length:=by omega
 have H:s.toNat<st.1.length:=by omega
 by_cases hc:cget st.1 p.toNat<0
 ·rw[if_pos hc];have I:st.1[p.toNat]'G<0:=by rw[Zm G];exact hc
  have T:=h.le _ (X4 H);have U:=VQ st.1 p.toNat (cget st.1 s.toNat+1) G I (by omega);refine⟨⟨by simp[hl],λx hx=>?_,λx hx=>?_⟩,?_,?_⟩
  ·simp only[List.mem_append,List.mem_singleton]at hx;rcases hx with hx|rfl
   ·exact h.q x hx
   exact hp
  ·simp only[]at hx ⊢;rcases Nn hx with h1|h1
   ·have:=h.le x h1;omega
   subst h1;omega
  ·simp only[List.length_append,List.length_singleton];omega
  simp only[];have J:s.toNat≠p.toNat:=λe=>by rw[e]at E;omega
  have:cget (st.1.set p.toNat (cget st.1 s.toNat+1)) s.toNat=cget st.1 s.toNat:=by
   unfold cget;simp[List.getD,List.getElem?_set_ne (Ne.symm J)]
  rw[this];exact E
 rw[if_neg hc];exact⟨h,rfl,E⟩
theorem Y7 (n:Nat)(to:LI):(KY n to).length=n:=by simp[KY]
theorem QcP {n:Nat}{to:LI}(h:∀x∈to,0≤x∧x<(n:Int)):zR n (KY n to) to:=by
 refine⟨Y7 n to,h,λx hx=>?_⟩;have E:=Qcl (KY n to);rw[Y7]at E;unfold KY at hx;simp only[List.mem_map]at hx;obtain⟨i,_,rfl⟩:=hx;split <;> omega
theorem qi {n:Nat}{to:LI}{x:Int}(h:0≤x∧x<(n:Int))(hx:x∈to):cget (KY n to) x.toNat=0:=by
 have h1:x.toNat<(KY n to).length:=by rw[Y7];omega
 rw[←Zm h1];have:((x.toNat:Nat):Int)=x:=by omega
 simp[KY,this,hx]
def QbP (o q:LI):Prop:=∀x∈q,0≤cget o x.toNat
theorem zC {n:Nat}{s p:Int}{st:LI×LI}(h:zR n st.1 st.2)(H:0≤cget st.1 s.toNat)(hp:0≤p∧p<(n:Int))(E:QbP st.1 st.2):QbP (VD s st p).1 (VD s st p).2:=by
 unfold VD;have G:p.toNat<st.1.length:=by have:=h.len;omega
 by_cases hc:cget st.1 p.toNat<0
 ·rw[if_pos hc];intro x hx;simp only[]at hx ⊢;have e1:cget (st.1.set p.toNat (cget st.1 s.toNat+1)) x.toNat=if x.toNat=p.toNat then cget st.1 s.toNat+1 else cget st.1 x.toNat:=by
   by_cases e:x.toNat=p.toNat
   ·rw[if_pos e,e];unfold cget;simp[List.getD,G]
   rw[if_neg e];unfold cget;simp[List.getD,List.getElem?_set_ne (Ne.symm e)]
  rw[e1];split
  ·omega
  rename_i e;simp only[List.mem_append,List.mem_singleton]at hx;rcases hx with hx|rfl
  ·exact E x hx
  exact absurd O e
 rw[if_neg hc];exact E
open Go.Proofs.Tryz
theorem QaJ (n:Nat):(List.replicate n (nS).cells.toList).flatten=(List.range n).map (λ_=>nS):=by
 apply LY
 ·simp[Value.cells]
 intro i h1 h2;simp[Value.cells]
theorem yK (n:Nat):(List.replicate n (Value.int .i64 0).cells.toList).flatten=(gA n (λj=>if j<0 then -1 else 0)).map (Value.int .i64):=by
 apply LY
 ·simp[Value.cells,gA]
 intro i h1 h2;simp[Value.cells,gA]
theorem VL {rv:Nat→Value}{n i:Nat}(hi:i<n):((List.range n).map rv)[0+i*1]?=some (rv i):=by simp[hi]
theorem QbG {w:World}{va vm ve vf vt:Value}{a:QO}{n:Nat}{to:LI}(h:Zp [] w.heap va vm ve a)(hn:a.st=(n:Int))(mz:a.st≤4096)(go:∀e∈a.ed,0≤e.1∧e.1<a.st∧0≤e.2.2∧e.2.2<a.st)
  (m0:a.ed.length≤1000000) (ka:QH [] w.heap vt to) (kb:∀s∈to,0≤s∧s<a.st) (m1:to.length≤4096):
  QE prog 77 [.agg #[va,.int .i64 a.st,vm,ve,vf],vt] w λr w'=>Step [] w w'∧∃b,r=.slice (some ⟨b,0,none⟩) n n∧w.heap.size≤b∧QT w'.heap b 3 ((bwd n a.ed to).map (Value.int .i64)):=by
 refine QE.of_W func77 O ntmps77 results77 (by simp) ?_;refine Qc<|xl O<|QQ (us:=[va,.int .i64 a.st,vm,ve,vf]) O λb2 w1 h0 m2 h2=>Qe<|Qc<|x (Qa O)<|x (Qa O)<|x (Qd h2 O O)<|xl O<|XB (n:=n) (congrArg (Value.int .i64) hn) (congrArg (Value.int .i64) hn) (by omega) λbI w2 hH kc hI=>Qe ?_;rw[QaJ]at hI;have h3:=h0.trans hH;have m3:=hI.lt;have m4:=h2.lt
 have hJ:∀s∈to,0≤s∧s<(n:Int):=λs hs=>by have:=kb s hs;omega
 refine Qg<|Qc<|x (Qa O)<|x (Qa O)<|x (Qd (h2.ext hH) O O)<|x (Qr h.ed O)<|Qb<|xe<|Qh<|QA (α:=Nat×(Nat→Value)) [(7,7),(24,41)] (λz=>[(24,.int .i64 z.1)]) (λz w'=>z.1≤a.ed.length∧Step [bI] w2 w'∧QT w'.heap bI 39 ((List.range n).map z.2)∧KE w2.heap.size w' n z.2 (ZE (a.ed.take z.1))) (λz=>a.ed.length - z.1) (by rfl) (0,λ_=>nS) La
  ⟨Ll _,Step.refl _ _,hI,⟨λi _=>QP _ _ _ _,λi j _ _ _=>Dj.nil _⟩⟩ ?_
 rintro⟨k,rv⟩ g H ⟨hk,hK,hL,ha⟩;simp only[]at hk hL ha;have m5:=hK.size;have h4:Step [] w1 H:=hH.then1 hK kc;refine Qc<|x (Qz O O)<|xe<|Qg<|QC O (λhM=>?_) (λhM=>?_)
 ·refine Qy ?_;have ke:a.ed.length≤k:=by have h6:¬(k:Int)<(a.ed.length:Int):=hM;omega
  rw[Ln ke]at ha;have gq:∀i,i<n→QH [] H.heap (rv i) (ZE a.ed i):=λi hi=>QW (ha.own i hi) (by have:=XR a.ed i;omega) (by simp);have hN:=(ka.ext h0).ext h4;refine Qc<|x (Qa O)<|x (Qa O)<|x (Qd (h2.ext h4) O O)<|xl O<|XB (n:=n) (congrArg (Value.int .i64) hn) (congrArg (Value.int .i64) hn) (by omega) λbO w4 hO m6 hP=>Qe ?_;rw[yK]at hP
  refine Qg<|Qc<|Qb<|x (Qr (L:=[]) (hP.arr (by simp) (n:=n) (cap:=n) (sz:=1) (by simp[gA]) (by omega) (Lt _)) rfl)<|Qb<|xe<|Qh<|QA (α:=Nat) [(9,9),(48,54)] (λz=>[(48,.int .i64 z)]) (λz w'=>z≤n∧Step [] H w'∧QT w'.heap bO 3 ((gA n (λj=>if j<z then -1 else 0)).map (Value.int .i64))) (λz=>n - z) (by rfl) 0 La ⟨Ll _,hO,hP⟩ ?_
  rintro j g E ⟨hj,hf,h7⟩;refine Qc<|x (Qz O O)<|xe<|Qg<|QC O (λhQ=>?_) (λhQ=>?_)
  ·refine Qy ?_;have hR:j=n:=by have kf:¬(j:Int)<(n:Int):=hQ;omega
   have kg:gA n (λi=>if i<j then -1 else 0)=gA n (λi:Nat=>if(i:Int)∈to.take 0 then 0 else -1):=q7 λi hi=>by rw[if_pos (by omega),if_neg (by simp)]
   rw[kg]at h7;refine Qc<|Qb<|xl O<|xf<|(Yv (hN.ext hf)).mono ?_;rintro vq w6 ⟨T,kh⟩;have m7:=h7.lt;have gr:=hf.trans T;have ki:=hf.size;refine Qe<|Qg<|Qc<|Qb<|x (Qr (hN.ext gr) O)<|Qb<|xe ?_
   refine Qh<|QA (α:=Nat) [(12,12),(59,66)] (λz=>[(59,.int .i64 z)]) (λz w'=>z≤to.length∧Step [] H w'∧QT w'.heap bO 3 ((gA n (λi:Nat=>if(i:Int)∈to.take z then 0 else -1)).map (Value.int .i64))∧Qt 3 E.heap.size w' vq to∧E.heap.size≤w'.heap.size) (λz=>to.length - z) (by rfl) 0 La
    ⟨Ll _,gr,h7.ext T,kh,T.size⟩ ?_
   rintro i g w7 ⟨hi,U,hS,hT,kj⟩;refine Qc<|x (Qz O O)<|xe<|Qg<|QC O (λhU=>?_) (λhU=>?_)
   ·refine Qy ?_;have kk:to.length≤i:=by have h8:¬(i:Int)<(to.length:Int):=hU;omega
    rw[Ln kk]at hS;have kn:QT w7.heap bO 3 ((KY n to).map (Value.int .i64)):=hS;refine Qg<|Qh<|QA (α:=Nat×Value×LI×LI) [(10,10),(13,13),(15,15),(67,101)] (λz=>[(10,z.2.1)])
     (λz w'=>Step [] H w'∧E.heap.size≤w'.heap.size∧QT w'.heap bO 3 (z.2.2.1.map (Value.int .i64))∧J2 3 E.heap.size w' z.2.1 z.2.2.2∧zR n z.2.2.1 z.2.2.2∧QbP z.2.2.1 z.2.2.2∧neg z.2.2.1+z.2.2.2.length≤z.1∧z.1≤8192∧bwL a.ed z.1 z.2.2.1 z.2.2.2=bwd n a.ed to)
     (λz=>z.1+1 - (if z.2.2.2=[]then 1 else 0)) (by rfl) (n+to.length,vq,KY n to,to) La
     ⟨U,kj,kn,YY.of_row hT,QcP hJ,λx hx=>by rw[qi (hJ x hx) hx];omega,by have:=Qcl (KY n to);rw[Y7]at this;simp only[];omega,by simp only[];omega,O⟩ ?_
    rintro⟨fu,vq,o,q⟩ g w8 ⟨G,hV,hg,h9,hy,hW,hX,ko,hh⟩;simp only[]at hV hg h9 hy hW hX ko hh;have m8:neg o+q.length≤8192:=by omega
    refine Qg<|Qc<|Qb<|x (Qr (QkT (L:=[]) h9 (by omega) (by simp)) rfl)<|x (ZL rfl rfl)<|xe<|QC O (λhY=>?_) (λhY=>?_)
    ·refine Qy ?_;have kp:q=[]:=Lr (by have kq:¬(q.length:Int) > 0:=hY;omega);rw[kp,Qkv]at hh;rw[hh]at hg;refine Qc<|Qb<|Qe ?_;exact Qk ⟨[.slice (some ⟨bO,0,none⟩) n n],La,h0.trans (h4.trans G),bO,O,by omega,hg⟩
    refine Qi ?_;have kr:0<q.length:=by have kq:(q.length:Int) > 0:=hY;omega
    refine Exists.elim (List.exists_cons_of_length_pos kr) λs kt=>Exists.elim kt λq' ku=>?_;subst ku;have m9:0<fu:=by simp only[List.length_cons]at hX;omega
    refine Exists.elim (MN (show fu≠0 by omega)) λgs hZ=>?_;subst hZ;have hsr:=hy.q s Lp;have kv:=hW s Lp;have ho:s=(s.toNat:Int):=by omega
    rw[bwL]at hh;simp only[List.length_cons]at hX;refine Qh<|Qc<|Qb<|xii (i:=0) (QkT (L:=[]) h9 (by simp only[List.length_cons];omega) (by simp)) rfl rfl (by simp) λpa kw=>x (Qv kw rfl)<|Qe<|Qc<|Qb<|QnT (lo:=1) h9 rfl rfl (by simp only[List.length_cons];omega) λgt kx pc=>Qe ?_;have I:J2 3 E.heap.size w8 gt q':=J2.tail kx
    refine Qc<|Qb<|Qb<|x (QS (i:=s.toNat) O (congrArg (Value.int .i64) ho) (by omega))<|x (Qd (u:=rv s.toNat) (hL.ext G) O (VL (by omega)))<|x (Qr ((gq s.toNat (by omega)).ext G) O)<|Qb<|xe ?_;have gu:=XR a.ed s.toNat;refine Qh<|QA (α:=Nat×Value×LI×LI) [(10,10),(15,15),(80,101)] (λz=>[(10,z.2.1),(80,.int .i64 z.1)])
     (λz w'=>z.1≤(ZE a.ed s.toNat).length∧Step [] H w'∧E.heap.size≤w'.heap.size∧QT w'.heap bO 3 (z.2.2.1.map (Value.int .i64))∧J2 3 E.heap.size w' z.2.1 z.2.2.2∧zR n z.2.2.1 z.2.2.2∧QbP z.2.2.1 z.2.2.2∧0≤cget z.2.2.1 s.toNat∧neg z.2.2.1+z.2.2.2.length≤gs∧((ZE a.ed s.toNat).drop z.1).foldl (VD s) (z.2.2.1,z.2.2.2)=(ZE a.ed s.toNat).foldl (VD s) (o,q'))
     (λz=>(ZE a.ed s.toNat).length - z.1) (by rfl) (0,gt,o,q') ⟨O,O,Z⟩
     ⟨Ll _,G,hV,hg,I,⟨hy.len,λx hx=>hy.q x (Lk _ hx),hy.le⟩,λx hx=>hW x (Lk _ hx),kv,by simp only[];omega,O⟩ ?_
    rintro⟨m,ga,o2,q2⟩ g w9 ⟨hm,hA,gb,hq,I,V,hB,hC,gc,J⟩;simp only[]at hm gb hq I V hB hC gc J;refine Qc<|x (Qz O O)<|xe<|Qg<|QC O (λge=>?_) (λge=>?_)
    ·refine Qy ?_;have kz:(ZE a.ed s.toNat).length≤m:=by have hD:¬(m:Int)<((ZE a.ed s.toNat).length:Int):=ge;omega
     rw[Ls kz]at J;rw[←J]at hh;exact⟨(gs,ga,o2,q2),by simp only[];split <;> simp <;> omega,La,hA,gb,hq,I,V,hB,gc,by simp only[];omega,hh⟩
    refine Qi ?_;have hr:m<(ZE a.ed s.toNat).length:=by have hD:(m:Int)<((ZE a.ed s.toNat).length:Int):=ge;omega
    have gv:=JC (Li hr);have k0:=Q9 hr;rw[k0,LM]at J;refine Zb ((ZE a.ed s.toNat)[m]'hr) λp hp=>?_;rw[hp]at gv J;have gx:0≤p∧p<(n:Int):=by
     obtain⟨e,he,h1,_⟩:=gv;have:=go e he;omega
    have gy:p=(p.toNat:Int):=by omega
    have pd:=V.len;have hE:p.toNat<o2.length:=by omega
    have gg:s.toNat<o2.length:=by omega
    have pf:=V.le _ (X4 gg);have hF:=QcO (st:=(o2,q2)) V hsr hC gx;have gz:=zC (st:=(o2,q2)) V hC gx hB;refine Qg<|Qh<|Qc<|xii (i:=m) ((gq s.toNat (by omega)).ext hA) O O hr λpg hD=>?_;rw[hp]at hD;refine x (Qv hD O)<|Qe<|Qc<|Qb<|Qb<|x (QS (i:=p.toNat) O (congrArg (Value.int .i64) gy) (by omega))<|x (KO (i:=p.toNat) hq O hE)<|x (Qz O O)<|xe ?_
    refine QC O (λgh=>?_) (λgh=>?_)
    ·refine Qi ?_;have hc:¬cget o2 p.toNat<0:=by rw[←Zm hE];exact gh
     have gi:VD s (o2,q2) p=(o2,q2):=by unfold VD;rw[if_neg hc]
     rw[gi]at J;refine Qx<|QM O O<|Qb<|xe ?_;exact⟨(m+1,ga,o2,q2),by simp only[];omega,⟨O,O,Z⟩,hr,hA,gb,hq,I,V,hB,hC,gc,J⟩
    have hc:cget o2 p.toNat<0:=by rw[←Zm hE];exact gh
    have gi:VD s (o2,q2) p=(o2.set p.toNat (cget o2 s.toNat+1),q2++[p]):=by unfold VD;rw[if_pos hc]
    rw[gi]at J hF gz;have k4:=Zm gg;refine Qc<|Qb<|Qb<|Qb<|Qb<|x (QS (i:=s.toNat) O (congrArg (Value.int .i64) ho) (by omega))<|x (KO (i:=s.toNat) hq O gg)<|x (Xa O O ⟨by omega,by omega⟩) <|
     x (QS (i:=p.toNat) O (congrArg (Value.int .i64) gy) (by omega))<|xl O<|XY (i:=p.toNat) hq O O hE λk5 gj g0=>xe ?_
    rw[k4]at g0;have ph:=gj.size;have k6:∀b∈ob ga,b∉[bO]:=λb hb=>by have:=Qlr I b hb;simp;omega
    have k7:=Qgk I gj k6;have k8:Step [] H k5:=hA.then1 gj (by omega);refine Qx<|Qb<|Qb<|xl O<|QF (us:=[[.int .i64 p]]) O O (by decide) (by simp) ⟨rfl,rfl,Z⟩ λpj pn hz po k9=>xl rfl<|Qlz (m:=1) (news:=[.int .i64 p]) (Qm2 k7 hz) rfl rfl rfl (by omega) (k9.at (L:=[]) (by simp)) (by simp[Value.oneCell']) (by omega) (by have:=hz.size;omega) λg1 ma mc h3 pp =>
     Qe ?_
    have pt:=hz.size;have pu:=h3.size;have mf:J2 3 E.heap.size ma g1 (q2++[p]):=J2.snoc mc;refine Qx<|QM O O<|Qb<|xe<|⟨(m+1,g1,_,q2++[p]),by simp only[];omega,⟨O,O,Z⟩,hr,(k8.trans hz).then h3 (λb hb=>.inr (by have:=Qlr I b hb;omega)),by omega,(g0.ext hz).step h3 (λhb=>by have:=Qlr I _ hb;omega),mf,hF.1,gz,hF.2.2,?_,J⟩
    have h5:neg (o2.set p.toNat (cget o2 s.toNat+1))+(q2++[p]).length=neg o2+q2.length:=hF.2.1;simp only[];omega
   refine Qi ?_;have ht:i<to.length:=by have h8:(i:Int)<(to.length:Int):=hU;omega
   have mg:=hJ _ (Li ht);have hu:to.take (i+1)=to.take i++[to[i]'ht]:=Le ht;refine Zb (to[i]'ht) λs hs=>?_;rw[hs]at mg hu;have ho:s=(s.toNat:Int):=by omega
   have gk:(gA n (λj:Nat=>if(j:Int)∈to.take i then 0 else -1)).set s.toNat 0=gA n (λj:Nat=>if(j:Int)∈to.take (i+1)then 0 else -1):=q6 (by rw[hu];simp;omega) (λj _ hj=>by
    rw[hu];have:¬(j:Int)=s:=by omega
    simp[this])
   refine Qg<|Qh<|Qc<|xii (i:=i) (hN.ext U) O O ht λpw h8=>?_;rw[hs]at h8;refine x (Qv h8 O)<|Qe<|Qx<|Qb<|Qb<|x (QS (i:=s.toNat) O (congrArg (Value.int .i64) ho) (by omega))<|xl O<|Kl (i:=s.toNat) hS O O (by omega) gk λw8 G hg=>xe ?_;refine Qx<|QM O O<|Qb<|xe ?_;have hV:=G.size
   exact⟨i+1,by omega,La,ht,U.then1 G (by omega),hg,Ql hT G (λb hb=>by have:=Qp hT b hb;simp;omega),by omega⟩
  refine Qi ?_;have hR:j<n:=by have kf:(j:Int)<(n:Int):=hQ;omega
  refine Qg<|Qh<|Qc<|Qb<|Qe<|Qx ?_;have gk:(gA n (λi=>if i<j then -1 else 0)).set j (-1)=gA n (λi=>if i<j+1 then -1 else 0):=q6 (by rw[if_pos (by omega)]) (λi _ hi=>by
   by_cases e:i<j
   ·rw[if_pos e,if_pos (by omega)]
   rw[if_neg e,if_neg (by omega)])
  refine Qb<|Qb<|x (QS (i:=j) O O (by omega))<|xl O<|Kl (i:=j) h7 O O hR gk λw6 T mh=>xe ?_;refine Qx<|QM O O<|Qb<|xe ?_;exact⟨j+1,by omega,La,hR,hf.then1 T (by omega),mh⟩
 refine Qi ?_;have hv:k<a.ed.length:=by have h6:(k:Int)<(a.ed.length:Int):=hM;omega
 have hu:a.ed.take (k+1)=a.ed.take k++[a.ed[k]'hv]:=Le hv;have g2:=go _ (Li hv);refine Zb (a.ed[k]'hv) λe he=>?_;rw[he]at hu g2;have g3:e.2.2=(e.2.2.toNat:Int):=by omega
 have Y:e.2.2.toNat<n:=by omega
 have gu:=XR (a.ed.take k) e.2.2.toNat;rw[Ly]at gu;have ho:=qV (a.ed.take k) e g2.2.2.1;refine Qg<|Qh<|Qc<|xie ((h.ed.ext h0).ext h4) O O hv λpz h6=>?_;rw[he]at h6;refine x (QI h6 O O)<|xl O<|Qu (us:=[.int .i64 0,.int .i64 0,.int .i64 0]) O λb7 w4 hO mj mo=>xl O<|Qo (us:=QD e) mo O O O O ⟨O,O,O,Z⟩ λE hf gl=>xe ?_;have hG:Step [] H E:=hO.then1 hf mj
 have ki:=hG.size;have g4:=ha.ext hG;have mq:=g4.own _ Y;have gm:∀b∈ob (rv e.2.2.toNat),w2.heap.size≤b∧b<H.heap.size:=λb hb=>⟨(Qp (ha.own _ Y) b hb).1,Q3 (ha.own _ Y) b hb⟩;have g5:bI∉ob (rv e.2.2.toNat):=λhb=>by have:=gm _ hb;omega
 have gn:b7∉ob (rv e.2.2.toNat):=λhb=>by have:=gm _ hb;omega
 have g6:=hL.ext hG;refine QV (Step (ob (rv e.2.2.toNat)) E) [(0,true),(1,true),(2,true),(3,true),(4,true),(5,true),(6,true),(7,true),(8,true),(9,true),(10,false),(11,false),(12,true),(13,false)] mixed (by rfl) (by kernel_rfl) (Step.drew _ _) ?_;refine p (λ_=>Qm)<|p (λ_=>Qa O)<|pq (λ_ hc=>Qd (gl.step hc gn) O O)<|p (λ_=>Qm)<|p (λ_=>Qa O)<|pq (λ_ hc=>Qd (gl.step hc gn) O O) <|
  p (λ_=>QS (i:=e.2.2.toNat) O (congrArg (Value.int .i64) g3) Y)<|pq (λ_ hc=>Qd (u:=rv e.2.2.toNat) (g6.step hc g5) O (VL Y))<|p (λ_=>Qa O)<|pq (λ_ hc=>Qd (gl.step hc gn) O O) <|
  pk<|QF (us:=[[.int .i64 e.1]]) O O (by decide) (by simp) ⟨rfl,rfl,Z⟩ λp0 w6 T p4 ms=>⟨(Step.drew _ _).trans T,?_⟩
 have hw:Step [] E w6:=(Step.drew _ _).trans T;have p5:=hw.size;refine pk<|Q5 (m:=1) (news:=[.int .i64 e.1]) (Qs mq hw) O O O (ms.at (L:=[]) (by simp)) (by simp[Value.oneCell']) (by omega) (by omega) λvr w7 g7 U mt=>⟨hw.any.trans' U,?_⟩;have mu:=(g6.ext hw).step U g5;have mv:((List.range n).map rv).length=n:=by simp
 refine p (λ_=>QS (i:=e.2.2.toNat) O (congrArg (Value.int .i64) g3) Y)<|pkl (hl:=by kernel_rfl)<|QB (j:=0+e.2.2.toNat*1) (u:=vr) mu O O (by rw[mv];omega) (QW (L:=[]) g7 (by omega) (by simp)).one λw8 G mw=>pe ?_;have mx:QT w8.heap bI 39 ((List.range n).map (J3 rv e.2.2.toNat vr)):=by
  have e1:=Qar id n rv e.2.2.toNat vr;simp only[id]at e1;rw[←e1];simpa using mw
 have my:∀b∈ob vr,b∈ob (rv e.2.2.toNat)∨E.heap.size≤b:=λb hb=>(mt b hb).imp id (λh=>by omega);have g8:=g4.app Y (Qt.snoc g7) (hw.any.trans' U) my;have g9:=g8.step G (λi hi b hb=>by have:=(Qp (g8.own i hi) b hb).1;simp;omega);have hZ:J3 (ZE (a.ed.take k)) e.2.2.toNat (ZE (a.ed.take k) e.2.2.toNat++[e.1])=ZE (a.ed.take (k+1)):=by rw[hu];exact funext ho
 rw[hZ]at g9;refine Qx<|QM O O<|Qb<|xe<|⟨(k+1,J3 rv e.2.2.toNat vr),by simp only[];omega,La,hv,?_,mx,g9⟩;exact(((hK.trans hG).trans hw).then U (λb hb=>.inr (gm b hb).1)).trans' G
def Vo (d:LI)(k:Nat):LI:=((List.range k).filter λi=>decide (0≤cget d i)).map λi:Nat=>(i:Int)
def cor (a:QO):LI:=Vo (bwd a.st.toNat a.ed a.mr) a.st.toNat
theorem yV (d:LI)(k:Nat):Vo d (k+1)=if 0≤cget d k then Vo d k++[(k:Int)]else Vo d k:=by
 unfold Vo;rw[ND,L2,Lv];by_cases h:0≤cget d k
 ·simp[h]
 simp[h]
theorem QhF (d:LI)(k:Nat):(Vo d k).length≤k:=by
 unfold Vo;rw[Lh];have:=L3 (λi=>decide (0≤cget d i)) (List.range k);simpa using this
theorem Qkw (s:Int)(st:LI×LI)(p:Int):(VD s st p).1.length=st.1.length:=by unfold VD;split <;> simp
theorem QbE (s:Int):∀(ps:LI) (st:LI×LI),(ps.foldl (VD s) st).1.length=st.1.length
 | [],_=>rfl
 | p::ps,st=>by rw[LM,QbE s ps,Qkw]
theorem Qeh (es:List Ed):∀(f:Nat) (o q:LI),(bwL es f o q).length=o.length
 | 0,_,_=>rfl
 | _+1,_,[]=>rfl
 | f+1,o,s::q=>by rw[bwL,Qeh es f,QbE]
theorem Qkt (n:Nat)(es:List Ed)(to:LI):(bwd n es to).length=n:=by unfold bwd;rw[Qeh,Y7]
theorem zQ {w:World}{va vm ve:Value}{a:QO}(h:Zp [] w.heap va vm ve a):
  QE prog 35 [.agg #[va,.int .i64 a.st,vm,ve]] w λr w'=>Step [] w w'∧∃v,r=.tuple #[v,.int .i64 (Xq a)]∧Qt 3 w.heap.size w' v (if Xq a=0 then cor a else[]):=by
 refine QE.of_W func35 O ntmps35 results35 (by simp) ?_;refine Qc<|xl O<|QQ (us:=[va,.int .i64 a.st,vm,ve]) O λb1 w1 I h5 ha=>x Qf<|Qe<|Qg<|Qc<|x (Qn ha O O)<|xl O<|xf<|(Y6 (h.ext I)).mono ?_;rintro r2 T ⟨rfl,G⟩;refine Qe<|Qc<|Qb<|x (Q7 O O)<|xe ?_;have h6:=I.size;have h7:=G.size;refine Q4 rfl (λhf=>?_) (λhf=>?_)
 ·refine Qc<|Qb<|x Qf<|Qe<|Qk ⟨[nS,.int .i64 (Xq a)],⟨O,O,Z⟩,I.trans G,_,O,?_⟩;rw[if_neg hf];exact QP _ _ _ _
 have hck:Xq a=0:=Lm.1 hf;have E:=(Zu a).1 hck;refine exN E.st0 λn hn=>?_;have hu:a.st.toNat=n:=by omega
 have hm:=E.st1;have hv:=E.mr_le;have h8:=E.ed_le;refine Qi<|Qc<|Qe ?_;have hg:=(h.ext I).ext G;have hh:Step [] T { T with drawn:=T.drawn+1 }:=Step.drew _ _
 refine Qg<|Qg<|QV (Step [] T) [(0,true),(2,true),(3,true),(6,true),(1,false),(4,false),(5,true)] mixed (by rfl) (by kernel_rfl) (Step.drew _ _) ?_;refine pq (λ_ hc=>Qn ((ha.ext G).ext hc) O O)<|p (λ_=>Qa O)<|pq (λ_ hc=>Qd ((ha.ext G).ext hc) O O) <|
  p (λ_=>Qm)<|pk<|xf<|(UJ (hg.ext hh) hn hm (λe he=>⟨(E.ed e he).1,(E.ed e he).2.1⟩)).mono ?_
 rintro r3 w3 ⟨hp,bF,rfl,_,_⟩;refine⟨hh.trans hp,?_⟩;have U:=hh.trans hp;refine pk<|xf<|(QbG (hg.ext U) hn hm (λe he=>⟨(E.ed e he).1,(E.ed e he).2.1,(E.ed e he).2.2.2⟩) (by omega) (hg.mr.ext U) E.mr hv).mono ?_;rintro r4 w4 ⟨hq,bO,rfl,h9,hw⟩;refine⟨U.trans hq,?_⟩;have hr:=U.trans hq;have hs:=Qkt n a.ed a.mr
 have ht:Zv [] w4.heap (.slice (some ⟨bO,0,none⟩) n n) n 1 ((bwd n a.ed a.mr).map (Value.int .i64)):=hw.arr (by simp) (by simp[hs]) (by omega) (Lt _);refine p (λ_=>Qr ht O)<|pe ?_;have hA:=hr.size;have hy:cor a=Vo (bwd n a.ed a.mr) n:=by unfold cor;rw[hu]
 refine Qh<|QA (α:=Nat×Value) [(5,7),(19,30)] (λz=>[(5,z.2),(19,.int .i64 z.1)]) (λz w'=>z.1≤n∧Step [] w4 w'∧Qt 3 w4.heap.size w' z.2 (Vo (bwd n a.ed a.mr) z.1)) (λz=>n - z.1) (by rfl) (0,nS) ⟨O,O,Z⟩
  ⟨Ll _,Step.refl _ _,QP _ _ _ _⟩ ?_
 rintro⟨k,v⟩ g w5 ⟨hk,J,H⟩;simp only[]at hk H;refine Qc<|x (Qz O O)<|xe<|Qg<|QC O (λhi=>?_) (λhi=>?_)
 ·refine Qy ?_;have V:k=n:=by have hz:¬(k:Int)<(n:Int):=hi;omega
  rw[V,←hy]at H;refine Qc<|Qb<|x Qf<|Qe<|Qk ⟨[v,.int .i64 0],⟨O,O,Z⟩,(I.trans G).trans (hr.trans J),_,by rw[hck];rfl,?_⟩;rw[if_pos hck];exact Zc H (by omega)
 have V:k<n:=by have hz:(k:Int)<(n:Int):=hi;omega
 have Y:=yV (bwd n a.ed a.mr) k;have hB:=QhF (bwd n a.ed a.mr) k;refine Qi<|Qg<|Qh<|Qc ?_;have h0:QH [] w5.heap (.slice (some ⟨bO,0,none⟩) n n) (bwd n a.ed a.mr):=by unfold QH;rw[hs];exact ht.ext J
 refine Qb<|xic (i:=k) h0 O O (by omega) λhC h1=>x (Qv h1 O)<|x Qf<|Qe<|Qc<|Qb<|x (ZN O O)<|xe<|QC rfl (λhj=>?_) (λhj=>?_)
 ·refine Qi ?_;rw[if_neg hj]at Y;refine Qx<|QM O O<|Qb<|xe ?_;exact⟨(k+1,v),by simp only[];omega,⟨O,O,Z⟩,V,J,by rw[Y];exact H⟩
 rw[if_pos hj]at Y;have hD:=J.size;refine Qx<|Qb<|Qb<|xl O<|QF (us:=[[.int .i64 k]]) O O (by decide) (by simp) ⟨rfl,rfl,Z⟩ λhE w6 hl hF h2=>xl rfl<|Q5 (m:=1) (news:=[.int .i64 k]) (Qs H hl) rfl rfl rfl (h2.at (L:=[]) (by simp)) (by simp[Value.oneCell']) (by omega) (by have:=hl.size;omega) λv7 w7 h3 h4 hG =>
  Qe<|Qx<|QM O O<|Qb<|xe ?_
 exact⟨(k+1,v7),by simp only[];omega,⟨O,O,Z⟩,V,(J.trans hl).then h4 (λb hb=>.inr (Qp H b hb).1),by rw[Y];exact Qt.snoc h3⟩
theorem Qn5 {P:Program}{ops:List Oper}{K:Fr→World→Prop}{f:Fr}{w:World}{d:Option Nat}{ty:Nat}{ps:String}{af:Array Edge}{gd:Option (Nat×Bool)}{C:World→Prop}{pl:List (Nat×Bool)}{E:Nat}
  {t e sz bys:Nat} {z:Value} {x G I:Operand} {L:LN} {v:Value} {n:Nat} {cs:LV} {H:Array Obj} {k k':IntKind} {lo hi:Nat} [h:Sl P t e sz bys z]
  (J:QL ops E=⟨d,.slice t x (some G) (some I) none,ty,ps,af,gd⟩) (T:Zv L H v n sz cs) (hx:ev f x=v) (hl:ev f G=.int k lo) (U:ev f I=.int k' hi) (h1:lo≤hi) (h2:hi≤n)
  (V:∀v',Zv L H v' (hi - lo) sz ((cs.drop (lo*sz)).take ((hi - lo)*sz))→XP P ops C K pl (QZ f d v') w)
  (Y:Z6 ops f (QL ops E)=true:=by rfl):XP P ops C K ((E,true)::pl) f w:=by
 obtain⟨v',h3,h4⟩:=Qdn (P:=P) (d:=d) (ty:=ty) (ps:=ps) (af:=af) (gd:=gd) (t:=t) T hx hl U h1 h2;exact Lg.p (λw'=>by rw[J];exact h4 w') (by rw[J];exact V v' h3) Y
theorem QdY {es:List Ed}(hs:es.Pairwise λx y=>x.1≤y.1)(s:Nat):∀(m:Nat) (hm:m<es.length),(m:Int)<fS es s↔(es[m]'hm).1<(s:Int):=by
 unfold fS cnE;induction es with
 | nil=>intro m hm;simp at hm
 | cons e es ih =>
  intro m hm;simp only[List.pairwise_cons]at hs;have ih:=ih hs.2;simp only[List.filter_cons];by_cases h1:e.1<(s:Int)
  ·simp only[h1,decide_true,if_true,List.length_cons];cases m with
   | zero=>simp only[List.getElem_cons_zero];omega
   | succ m =>
    have:=ih m (by simpa using hm);simp only[List.getElem_cons_succ];rw[←this];omega
  have E:(es.filter λe=>decide (e.1<(s:Int)))=[]:=MC.2 (λd hd=>by have:=hs.1 d hd;simp;omega);simp only[h1,decide_false,Bool.false_eq_true,if_false,E,List.length_nil];cases m with
  | zero=>simp only[List.getElem_cons_zero];omega
  | succ m =>
   have hd:es[m]'(by simpa using hm)∈es:=Li _;have:=hs.1 _ hd;simp only[List.getElem_cons_succ];omega
theorem Qj6 (es:List Ed)(s:Nat):fS es s≤fS es (s+1):=by
 have h:=QdX es s;have:=(Vp (λe:Ed=>decide (e.1+1=((s+1:Nat):Int))) es).1;unfold cN at h;omega
theorem Qi6 {es:List Ed}(hs:es.Pairwise λx y=>x.1≤y.1)(s lo hi:Nat)(h1:fS es s=(lo:Int))(h2:fS es (s+1)=(hi:Int)):(es.drop lo).take (hi - lo)=ZC es s∧hi≤es.length∧lo≤hi:=by
 have hm:=Qj6 es s;have hl:=(Vp (λe:Ed=>decide (e.1<((s+1:Nat):Int))) es).2;have E:hi≤es.length:=by unfold fS at h2;omega
 refine⟨?_,E,by omega⟩;exact zl (λe:Ed=>decide (e.1=(s:Int))) es lo hi (by omega) E
  (λm hm H=>by have:=(QdY hs s m hm).1 (by omega);simp;omega)
  (λm hm h3 h4=>by
   have h5:¬(es[m]'hm).1<(s:Int):=λh=>by have:=(QdY hs s m hm).2 h;omega
   have G:=(QdY hs (s+1) m hm).1 (by omega);simp;omega)
  (λm hm h3=>by
   have G:¬(es[m]'hm).1<((s+1:Nat):Int):=λh=>by have:=(QdY hs (s+1) m hm).2 h;omega
   simp;omega)
theorem yP:∀(l:List Ed) (k:Nat),(l.flatMap QD).drop (k*3)=(l.drop k).flatMap QD
 | [],k=>by simp
 | e::l,0=>by simp
 | e::l,k+1=>by
  simp only[List.flatMap_cons,List.drop_succ_cons,Nat.add_mul,Nat.one_mul];rw[MJ,←Nx,show(QD e++l.flatMap QD).drop 3=l.flatMap QD from rfl,yP l k]
theorem yO:∀(l:List Ed) (k:Nat),(l.flatMap QD).take (k*3)=(l.take k).flatMap QD
 | [],k=>by simp
 | e::l,0=>by simp
 | e::l,k+1=>by
  simp only[List.flatMap_cons,List.take_succ_cons,Nat.add_mul,Nat.one_mul];rw[MJ,Nw,show(QD e).length=3 from rfl,show 3+k*3 - 3=k*3 by omega,yO l k,Ln (by rw[show(QD e).length=3 from rfl];omega)]
theorem QhA {w:World}{va vm ve vf:Value}{st s:Int}:
  QE prog 138 [.agg #[va,.int .i64 st,vm,ve,vf],.int .i64 s] w λr w'=>Step [] w w'∧∃b1 E,r=.func (.func 182) #[] #[.pointer (some ⟨b1,0,none⟩),.pointer (some ⟨E,0,none⟩)] ∧
   w.heap.size≤b1∧w.heap.size≤E∧QT w'.heap b1 171 [va,.int .i64 st,vm,ve,vf]∧QT w'.heap E 3 [.int .i64 s]:=by
 refine QE.of_W func138 O ntmps138 results138 (by simp) ?_;refine Qc<|xl O<|QQ (us:=[va,.int .i64 st,vm,ve,vf]) O λE V G I J=>xl O<|QQ (us:=[.int .i64 s]) O λT Y H ha U=>Qe<|Qc<|x Zn<|Qe ?_;have hb:=G.size;exact Qk ⟨[_],La,G.trans H,E,T,O,I,by omega,J.ext H,U⟩
theorem QcC {L:LN}{w:World}{I T bF n s m:Nat}{va vm ve:Value}{a:QO}(hy:QT w.heap I 171 [va,.int .i64 a.st,vm,ve,.slice (some ⟨bF,0,none⟩) (n+1) (n+1)])(hz:QT w.heap T 3 [.int .i64 s])
  (h2:QT w.heap bF 3 ((gA (n+1) (fS a.ed)).map (Value.int .i64))) (hE:qm L w.heap ve a.ed) (h3:a.ed.Pairwise λx y=>x.1≤y.1) (hs:s<n) (hn:n≤4096):
  SeqStopsK (fen none) m prog 182 [.pointer (some ⟨I,0,none⟩),.pointer (some ⟨T,0,none⟩)].toArray (λx:{ e:Ed // e∈a.ed }=>#[.agg (QD x.1).toArray]) (Lw w.heap.size L)
   (λE=>E.map (·.1)=ZC a.ed s) (λ_=>True) (a.ed.length+1) w:=by
 intro l J Jx W h4 hJ h5 hY h0;have Y:Step [] w W:=Step.of_below h4;have ab:∀{E:List { e:Ed // e∈a.ed }} {W1 W2:World},J E W1→Step [] W1 W2→J E W2:=λ{E W1 W2} hj U=>hJ E W1 W2 none hj ⟨U.os,U.tape,U.output,U.size,λk hk _=>U.block k hk (by simp)⟩ (λr e=>by cases e);have hK:=Vp (λe:Ed=>decide (e.1<(s:Int))) a.ed;have hL:=Vp (λe:Ed=>decide (e.1<((s+1:Nat):Int))) a.ed
 obtain⟨lo,hl⟩:∃lo:Nat,fS a.ed s=(lo:Int):=⟨(fS a.ed s).toNat,by unfold fS;omega⟩;obtain⟨hi,hm⟩:∃hi:Nat,fS a.ed (s+1)=(hi:Int):=⟨(fS a.ed (s+1)).toNat,by unfold fS;omega⟩;obtain⟨ho,h6,h7⟩:=Qi6 h3 s lo hi hl hm;have hM:=hE.le;have h8:(ZC a.ed s).length=hi - lo:=by rw[←ho,Ly,L5];omega
 have h9:∀e∈ZC a.ed s,e∈a.ed:=λe he=>(Ys he).1;have key:QE prog 182 [.func (.yield l) #[] #[],.pointer (some ⟨I,0,none⟩),.pointer (some ⟨T,0,none⟩)] W (λ_ W'=>(∃E,E.map (·.1)=ZC a.ed s∧J E W')∨(∃pre,True∧Jx pre W')):=by
  refine QE.of_G m func182 O ntmps182 results182 (by simp) ?_;have hf:=hy.ext Y;have hp:=hz.ext Y;have hq:=h2.ext Y;refine Q6<|Qah (Step [] W) [(0,true),(1,true),(2,true),(3,true),(4,true),(5,true),(6,true),(7,true),(8,true),(9,true),(10,true),(11,true),(12,true),(13,true),(14,true),(15,true),(16,true)] mixed (by rfl) (by rfl) (by kernel_rfl) (Step.drew _ _) ?_
  refine p (λ_=>Qa O)<|p (λ_=>Qa O)<|pq (λ_ hc=>Qd (hf.ext hc) O O)<|p (λ_=>Qa O)<|pq (λ_ hc=>Qd (hf.ext hc) O O)<|pq (λ_ hc=>Qd (hp.ext hc) O O) <|
   p (λ_=>QS (i:=s) O O (by omega))<|pq (λ_ hc=>VM (i:=s) (hq.ext hc) O (by omega))<|p (λ_=>Qa O)<|pq (λ_ hc=>Qd (hf.ext hc) O O) <|
   pq (λ_ hc=>Qd (hp.ext hc) O O)<|p (λ_=>Xa O O ⟨by omega,by omega⟩)<|p (λ_=>QS (i:=s+1) O O (by omega))<|pq (λ_ hc=>VM (i:=s+1) (hq.ext hc) O (by omega)) <|
   Qn5 (lo:=lo) (hi:=hi) O hE O (congrArg (Value.int .i64) hl) (congrArg (Value.int .i64) hm) h7 h6 λhA hr=>p (λ_=>Qr hr O)<|p (λ_=>Qm)<|pe ?_
  have hS:qm L w.heap hA (ZC a.ed s):=by
   unfold qm;rw[h8,←ho,←yO,←yP];exact hr
  have ht:Step [] W { W with drawn:=W.drawn+1 }:=Step.drew _ _
  refine ZP<|Vy (α:=Nat×List { e:Ed // e∈a.ed }) [(5,5),(22,30)] (λz=>[(22,.int .i64 z.1)]) (λz ds W'=>ds=[]∧z.1≤(ZC a.ed s).length∧Step L w W'∧z.2.map (·.1)=(ZC a.ed s).take z.1∧J z.2 W') (λz=>(ZC a.ed s).length - z.1) (by rfl) (0,[]) La
   ⟨O,Ll _,(Y.trans ht).any,O,ab h0 ht⟩ ?_
  rintro⟨k,E⟩ g ds w1 ⟨rfl,hk,hu,V,hg⟩;simp only[]at hk V hg;refine Q6<|QJ (by rfl) (by rfl) ?_;refine x (Qz O O)<|xe<|Q6<|zP O (λhh=>?_) (λhh=>?_)
  ·refine JX ?_;have hB:(ZC a.ed s).length≤k:=by
    have ha:¬(k:Int)<((hi - lo:Nat):Int):=hh;omega
   rw[Ln hB]at V;exact⟨λ_ h=>(by cases h),Mw,[],λW' G=>⟨Z,.inl ⟨E,V,ab hg G⟩⟩⟩
  refine Ya ?_;have H:k<(ZC a.ed s).length:=by
   have ha:(k:Int)<((hi - lo:Nat):Int):=hh;omega
  have hN:=Jw a.ed s;have hv:(ZC a.ed s).take (k+1)=(ZC a.ed s).take k++[(ZC a.ed s)[k]'H]:=Le H;have hb:=h9 _ (Li H);have hO:E.length=k:=by have:=congrArg List.length V;rw[Lh,Ly]at this;omega
  refine Zb ((ZC a.ed s)[k]'H) λe he=>?_;rw[he]at hv hb;refine Q6<|ZP<|Q6<|QJ (by rfl) (by rfl) ?_;refine xie (i:=k) (hS.st hu) O O H λhP ha=>?_;rw[he]at ha;refine x (QI ha O O)<|xl O<|Qu (us:=[.int .i64 0,.int .i64 0,.int .i64 0]) O λb5 w2 hC hD hF=>xl O<|Qo (us:=QD e) hF O O O O ⟨O,O,O,Z⟩ λw3 hG hH=>xe ?_;have hw:Step [] w1 w3:=hC.then1 hG hD;refine Q6<|KZ (by rfl) ?_
  refine Ja.pre2 ?_;refine Qb<|x (Qn hH O O)<|xe<|xy (l:=l) O (hY E ⟨e,hb⟩ w3 (ab hg hw) (by omega)) λen W3 hI=>Or.elim hI (λh1=>⟨.bool true,h1.1,?_⟩) (λh1=>⟨.bool false,h1.1,?_⟩)
  ·refine Ja.of_XL<|x (Zq O)<|xe<|K3 O<|Ya ?_;refine QJ (by rfl) (by rfl) ?_;refine QM O O<|Qb<|xe ?_;exact⟨(k+1,E++[⟨e,hb⟩]),by simp only[];omega,La,O,H,(hu.trans hw).lw h1.2.2,by rw[hv,Lv,V];rfl,h1.2.1⟩
  refine Ja.of_XL<|x (Zq O)<|xe<|Qag O ?_;refine KI ⟨λ_ h=>(by cases h),Mw,[],λW' G=>⟨Z,.inr ⟨E++[⟨e,hb⟩],Z,?_⟩⟩⟩;exact h5 _ W3 W' none h1.2 ⟨G.os,G.tape,G.output,G.size,λk hk _=>G.block k hk (by simp)⟩ (λr e=>by cases e)
 refine(callsIn_wide (n:=m)).2 ?_;have ea:(#[.func (.yield l) #[] #[]]++[.pointer (some ⟨I,0,none⟩),.pointer (some ⟨T,0,none⟩)].toArray:Array Value)=[.func (.yield l) #[] #[],.pointer (some ⟨I,0,none⟩),.pointer (some ⟨T,0,none⟩)].toArray:=by simp
 rw[ea];unfold QE at key;refine Calls.mono key λe w' he=>?_;cases e with
 | returned v=>exact⟨⟨v,O⟩,he⟩
 | panicked c=>exact he.elim
 | outgrown=>exact he.elim
def Par (n:Nat)(ed:List Ed):Prop:=∀j:Nat,0<j→j<n→∃e∈ed,e.2.2=(j:Int)∧e.1<(j:Int)
theorem QiQ {aa:List QO}{i:Nat}{t:LI}{s E:Sy}{v:Int}(h:Par s.tup.length s.ed)(hi:i<s.tup.length)(e:syE aa i t s v=some E):Par E.tup.length E.ed∧i<E.tup.length:=by
 unfold syE at e;cases hs:Zz v aa t with
 | none=>rw[hs]at e;cases e;exact⟨h,hi⟩
 | some u =>
  rw[hs]at e;simp only[]at e;by_cases hu:u∈s.tup
  ·rw[if_pos hu]at e;cases e
   refine⟨λj G hj=>?_,hi⟩;obtain⟨d,hd,h1⟩:=h j G hj;exact⟨d,LQ _ hd,h1⟩
  rw[if_neg hu]at e;split at e
  ·cases e
  cases e
  refine⟨λj G hj=>?_,by simp;omega⟩;simp only[List.length_append,List.length_singleton]at hj;by_cases H:j=s.tup.length
  ·exact⟨((i:Int),v,(s.tup.length:Int)),by simp,by rw[H],by simp only[];omega⟩
  obtain⟨d,hd,h1⟩:=h j G (by omega);exact⟨d,LQ _ hd,h1⟩
theorem Qaw {aa:List QO}{i:Nat}{t:LI}:∀(vs:LI) (s E:Sy),Par s.tup.length s.ed→i<s.tup.length→Vi aa i t vs s=some E→Par E.tup.length E.ed
 | [],s,E,h,_,e=>by cases e;exact h
 | v::vs,s,E,h,hi,e=>by
  rw[Vi]at e;obtain⟨G,h1,h2⟩:=Mg.1 e;have:=QiQ h hi h1;exact Qaw vs G E this.1 this.2 h2
theorem Qda {aa:List QO}:∀(f i:Nat) (s E:Sy),Par s.tup.length s.ed→syL aa f i s=some E→Par E.tup.length E.ed
 | 0,i,s,E,h,e=>by cases e;exact h
 | f+1,i,s,E,h,e=>by
  rw[syL]at e;split at e
  ·rename_i hi;obtain⟨G,h1,h2⟩:=Mg.1 e;have ht:(ZF aa i (UG s i) s).tup=s.tup:=by unfold ZF;split <;> rfl
   have H:(ZF aa i (UG s i) s).ed=s.ed:=by unfold ZF;split <;> rfl
   refine Qda f (i+1) G E (Qaw _ _ G (by rw[ht,H];exact h) (by rw[ht];exact hi) h1) h2
  cases e;exact h
theorem QfD {aa:List QO}{A:QO}{Q:List (LI)}(h:sync aa=some (A,Q)):Par Q.length A.ed:=by
 unfold sync at h;split at h
 ·cases h;intro j _ hj;simp at hj
 obtain⟨s,h1,h2⟩:=MK.1 h;cases h2
 exact Qda 4096 0 (UT aa) s (λj E hj=>by simp[UT]at hj;omega) h1
def stS (st:List Ed):LI:=st.map (·.1)
def gE (st:List Ed)(k:Nat):Ed:=st.getD k (0,-1,0)
theorem Qg7 {st:List Ed}{k:Nat}(h:k<st.length):st[k]'h=gE st k:=by simp[gE,List.getD,h]
theorem QlU {st:List Ed}{k:Nat}(h:k<st.length):gE st k∈st:=by rw[←Qg7 h];exact Li h
def J7 (pm:Ed→Bool)(i:Nat)(st:List Ed)(e:Ed):List Ed:=if e.2.2∉stS st∧pm e=true then st++[(e.2.2,(i:Int),e.2.1)]else st
def wrd (st:List Ed):Nat→Nat→LI
 | 0,_=>[]
 | f+1,k=>if 0≤(gE st k).2.1 then(gE st k).2.2::wrd st f (gE st k).2.1.toNat else[]
def QeL (wt:Int→Bool)(pm:Ed→Bool)(es:List Ed):Nat→Nat→List Ed→LI×Bool
 | 0,_,_=>([],false)
 | f+1,i,st=>if i<st.length then(if wt (gE st i).1=true then((wrd st (i+1) i).reverse,true)else QeL wt pm es f (i+1) ((ZC es (gE st i).1).foldl (J7 pm i) st))else([],false)
def pth (wt:Int→Bool)(pm:Ed→Bool)(es:List Ed)(n from0:Nat):LI×Bool:=QeL wt pm es (n+1) 0 [((from0:Int),-1,-1)]
structure QcY (n:Nat)(st:List Ed):Prop where
 nd:(stS st).Nodup
 rg:∀x∈st,0≤x.1∧x.1<(n:Int)
 par:∀k,k<st.length→(gE st k).2.1=-1∨(0≤(gE st k).2.1∧(gE st k).2.1<(k:Int))
theorem QcY.le {n:Nat}{st:List Ed}(h:QcY n st):st.length≤n:=by
 have:=pig n (stS st) h.nd (λx hx=>by
  unfold stS at hx;obtain⟨y,hy,rfl⟩:=Lx.1 hx;exact h.rg y hy)
 simpa[stS]using this
theorem QjS {st:List Ed}{x:Ed}{k:Nat}(h:k<st.length):gE (st++[x]) k=gE st k:=by
 unfold gE;simp[List.getD,List.getElem?_append_left h]
theorem QjT (st:List Ed)(x:Ed):gE (st++[x]) st.length=x:=by
 unfold gE;simp[List.getD]
theorem QkA {n i:Nat}{pm:Ed→Bool}{st:List Ed}{e:Ed}(h:QcY n st)(hi:i<st.length)(he:0≤e.2.2∧e.2.2<(n:Int)):QcY n (J7 pm i st e)∧i<(J7 pm i st e).length:=by
 unfold J7;split
 ·rename_i hc;refine⟨⟨?_,λx hx=>?_,λk hk=>?_⟩,by simp;omega⟩
  ·unfold stS at hc ⊢;rw[Lv];exact JN h.nd hc.1
  ·simp only[List.mem_append,List.mem_singleton]at hx;rcases hx with hx|rfl
   ·exact h.rg x hx
   exact he
  by_cases E:k<st.length
  ·rw[QjS E];exact h.par k E
  have:k=st.length:=by simp at hk;omega
  subst this;rw[QjT];simp only[];omega
 exact⟨h,hi⟩
theorem Qlt {n from0:Nat}(h:from0<n):QcY n [((from0:Int),-1,-1)]:=by
 refine⟨by simp[stS],λx hx=>?_,λk hk=>?_⟩
 ·simp at hx;subst hx;simp only[];omega
 simp at hk;subst hk;exact .inl O
theorem QeK {wt:Int→Bool}{pm:Ed→Bool}{es:List Ed}{f i:Nat}{st:List Ed}(h:¬i<st.length):QeL wt pm es f i st=([],false):=by
 cases f with
 | zero=>rfl
 | succ f=>rw[QeL,if_neg h]
abbrev Lf:=List Bool
def lft (l:Lf)(s:Int):Bool:=l.getD s.toNat false
def cut (l:Lf)(s:Int):Lf:=l.set s.toNat false
def Kp (ul:LI)(lf:Lf)(out:List (Int×Int))(e:Ed):List (Int×Int):=
 if lft lf e.1=false∨lft lf e.2.2=true∨e.2.1∉ul then out else if out.getLast?.map (·.1)=some e.1 then out else out++[(e.1,e.2.1)]
def lost (a:QO)(ul:LI)(lf:Lf):List (Int×Int):=a.ed.foldl (Kp ul lf) []
def UY (lf:Lf)(x:Int)(z:LI×LI)(y:Int):LI×LI:=if lft lf y=true∧cget z.1 y.toNat<0 then(z.1.set y.toNat (cget z.1 x.toNat+1),z.2++[y])else z
def dsL (es:List Ed)(lf:Lf):Nat→Nat→LI×LI→LI×LI
 | 0,_,z=>z
 | f+1,i,z=>if i<z.2.length then dsL es lf f (i+1) ((ZE es (cget z.2 i).toNat).foldl (UY lf (cget z.2 i)) z)else z
def ds1 (lf:Lf)(z:LI×LI)(x:Int):LI×LI:=if lft lf x=true then(z.1.set x.toNat 0,z.2++[x])else z
def ds0 (a:QO)(lf:Lf):LI×LI:=a.mr.foldl (ds1 lf) (List.replicate a.st.toNat (-1),[])
def dsts (a:QO)(lf:Lf):LI:=(dsL a.ed lf a.st.toNat 0 (ds0 a lf)).1
def JW (lf:Lf):Nat→LI→LI
 | _,[]=>[]
 | i,d::l=>if lf.getD i false=true∧d<0 then(i:Int)::JW lf (i+1) l else JW lf (i+1) l
def nxs (a:QO)(ul:LI)(lf:Lf):LI:=if(lost a ul lf).length≠0 then(lost a ul lf).map (·.1)else JW lf 0 (dsts a lf)
def UX (a:QO)(ul:LI):Nat→Lf→Lf
 | 0,lf=>lf
 | f+1,lf=>if(nxs a ul lf).length=0 then lf else UX a ul f ((nxs a ul lf).foldl cut lf)
def lf0 (n:Nat)(fb:LI):Lf:=fb.foldl cut (List.replicate n true)
def QeF (a:QO)(fb ul:LI):Lf:=UX a ul (a.st.toNat+1) (lf0 a.st.toNat fb)
def rstr (a:QO)(lf:Lf):QO:=⟨a.al,a.st,a.mr,a.ed.filter λe=>lft lf e.2.2⟩
def J5 (a:QO)(lf:Lf):QO:=if a.st=0∨lft lf 0=false then⟨a.al,0,[],[]⟩else YJ (rstr a lf)
def Vh (a:QO)(fb ul:LI):Int:=if Xq a≠0 then Xq a else if Y0 a.st none fb≠0 then Y0 a.st none fb else Y0 32 none ul
def J4 (a:QO)(fb ul:LI):QO:=J5 a (QeF a fb ul)
def fbs (s:Spc):LI:=s.fb.map (·.st)
def suE (c:ZA):Int:=Y1 c
def K9 (c:ZA):QO:=J4 (spc c).a (fbs (spc c)) (unc c.ev)
def orB (b:Nat)(k:Nat):Nat:=b ||| (1 <<< k)
def rqB (x:XC):Nat→Nat→List XC→Nat
 | _,b,[]=>b
 | k,b,y::l=>rqB x (k+1) (if(y.a.al.any λe=>decide (e∈x.a.al))=true then orB b k else b) l
def prB (ls:List (Int×Int)):Nat:=ls.foldl (λb l=>orB b l.1.toNat) 0
def srR (c:ZA):LN:=c.rq.map λx=>rqB x 0 0 c.co
def srX (c:ZA):LN:=c.ex.map λx=>prB x.ls
def srC (c:ZA):LN:=c.cs.map λx=>prB x.ts
def srK (c:ZA)(k:Int):LN:=if k=1 then srR c else if k=2 then srX c else srC c
structure Mdl where
 kd:Int
 ix:Int
 co:LI
def qO (k:Int):Nat→LN→List Mdl
 | _,[]=>[]
 | i,b::l=>⟨k,i,setK b 8⟩::qO k (i+1) l
def mods (c:ZA):List Mdl:=qO 1 0 (srR c)++(qO 2 0 (srX c)++qO 3 0 (srC c))
def sets (c:ZA):LN:=srR c++(srX c++srC c)
def Qb9 (c:ZA):Nat:=(sets c).foldl (λl b=>l &&& (65535 ^^^ b)) (2 ^ c.co.length - 1)
def rem (c:ZA):LI:=setK (Qb9 c) 8
def mdE (c:ZA)(m:Mdl):Int:=if Zk c≠0 then Zk c else if m.kd<1∨3<m.kd then 11 else if m.ix<0∨((srK c m.kd).length:Int)≤m.ix then 10 else if m.co=setK ((srK c m.kd).getD m.ix.toNat 0) 8 then 0 else 13
structure Prt where
 co:LI
 rq:LI
 ex:LI
 cs:LI
def chs (l:List XC)(ix:LI):List XC:=ix.map λi=>l.getD i.toNat ⟨.empty,⟨[],0,[],[]⟩⟩
def ixP (co:LI)(ls:List (Int×Int)):List (Int×Int):=ls.map λl=>((co.idxOf l.1:Int),l.2)
def mis (co:LI)(ls:List (Int×Int)):Bool:=ls.any λl=>decide (l.1∉co)
def Qi3 (c:ZA)(p:Prt):List Exc:=p.ex.map λi=>⟨(c.ex.getD i.toNat ⟨.empty,[]⟩).nm,ixP p.co (c.ex.getD i.toNat ⟨.empty,[]⟩).ls⟩
def Qi5 (c:ZA)(p:Prt):List Jt:=p.cs.map λi=>⟨(c.cs.getD i.toNat ⟨.empty,[],0⟩).nm,ixP p.co (c.cs.getD i.toNat ⟨.empty,[],0⟩).ts,(c.cs.getD i.toNat ⟨.empty,[],0⟩).bd⟩
def QeA (c:ZA)(p:Prt):ZA:=⟨c.ev,chs c.co p.co,chs c.rq p.rq,Qi3 c p,Qi5 c p⟩
def QmY (c:ZA)(p:Prt):Bool:=(p.ex.any λi=>mis p.co (c.ex.getD i.toNat ⟨.empty,[]⟩).ls) || (p.cs.any λi=>mis p.co (c.cs.getD i.toNat ⟨.empty,[],0⟩).ts)
def jp (c:ZA)(p:Prt):Int :=
 if Zk c≠0 then Zk c else if Y0 c.co.length none p.co≠0 then Y0 c.co.length none p.co else if Y0 c.rq.length none p.rq≠0 then Y0 c.rq.length none p.rq else
 if Y0 c.ex.length none p.ex≠0 then Y0 c.ex.length none p.ex else if Y0 c.cs.length none p.cs≠0 then Y0 c.cs.length none p.cs else if QmY c p=true then 13 else Zk (QeA c p)
def prt (m:Mdl):Prt:=⟨m.co,if m.kd=1 then[m.ix]else[],if m.kd=2 then[m.ix]else[],if m.kd≠1∧m.kd≠2 then[m.ix]else[]⟩
def mcE (c:ZA)(m:Mdl):Int:=if mdE c m≠0 then mdE c m else jp c (prt m)
def mcC (c:ZA)(m:Mdl):ZA:=QeA c (prt m)
def msE (c:ZA)(m:Mdl):Int:=if mcE c m≠0 then mcE c m else suE (mcC c m)
def msA (c:ZA)(m:Mdl):QO:=K9 (mcC c m)
def msL (c:ZA):List Mdl→Int
 | []=>0
 | m::l=>if msE c m≠0 then msE c m else msL c l
def VG (c:ZA):Int:=if Zk c≠0 then Zk c else msL c (mods c)
def XX (c:ZA):List QO:=(mods c).map (msA c)++(rem c).map λi=>(c.co.getD i.toNat ⟨.empty,⟨[],0,[],[]⟩⟩).a
def X8 (l:List QO):Int:=if JJ l≠0 then JJ l else match sync l with|none=>3|some _=>0
def X7 (c:ZA):Int:=if VG c≠0 then VG c else X8 (XX c)
def Xe (c:ZA):QO:=syA (XX c)
def tgQ (c:ZA):List (LI):=syQ (XX c)
def ownr (c:ZA)(v:Int):LI:=ixs (λx:XC=>decide (v∈x.a.al)) 0 c.co
def shd (c:ZA):LI→Option (Int×Int×Int)
 | []=>none
 | v::l=>if 2≤(ownr c v).length then some (v,cget (ownr c v) 0,cget (ownr c v) 1)else shd c l
def qz (c:ZA):Option (Int×Int×Int):=shd c (Ka c.ev.length)
abbrev QU (p:Int×Int):LV:=[.int .i64 p.1,.int .i64 p.2]
theorem Y3 (p:Int×Int):(QU p).length=2:=rfl
abbrev P2s (L:LN)(H:Array Obj)(v:Value)(l:List (Int×Int)):Prop:=Zv L H v l.length 2 (l.flatMap QU)
abbrev Zh (e:Kc):LV:=[.string e.nm,.bool e.co,.bool e.ob,.bool e.fo,.int .i64 e.fl]
theorem jY (e:Kc):(Zh e).length=5:=rfl
abbrev Uq (s:ByteArray):Prop:=s.size≤9223372036854775807
structure J9 (L:LN)(H:Array Obj)(v:Value)(l:List Kc):Prop where
 arr:Zv L H v l.length 5 (l.flatMap Zh)
 nm:∀e∈l,Uq e.nm
theorem J9.ext {L:LN}{w w':World}{v:Value}{l:List Kc}(h:J9 L w.heap v l)(hs:Step [] w w'):J9 L w'.heap v l:=⟨h.arr.ext hs,h.nm⟩
theorem J9.st {L:LN}{w w':World}{v:Value}{l:List Kc}(h:J9 L w.heap v l)(hs:Step L w w'):J9 L w'.heap v l:=⟨h.arr.st hs,h.nm⟩
theorem J9.up {L L':LN}{H:Array Obj}{v:Value}{l:List Kc}(h:J9 L H v l)(E:∀b∈L',b∈L∨H.size≤b):J9 L' H v l:=⟨h.arr.up E,h.nm⟩
structure IV where
 nm:ByteArray
 p:AV
def IV.it (q:IV):XC:=⟨q.nm,q.p.a⟩
abbrev Zi (q:IV):LV:=[.string q.nm,q.p.va,.int .i64 q.p.a.st,q.p.vm,q.p.ve]
theorem Xf (q:IV):(Zi q).length=5:=rfl
structure Y9 (L:LN)(H:Array Obj)(v:Value)(qs:List IV):Prop where
 arr:Zv L H v qs.length 5 (qs.flatMap Zi)
 each:∀q∈qs,Zp L H q.p.va q.p.vm q.p.ve q.p.a
 nm:∀q∈qs,Uq q.nm
structure XV where
 nm:ByteArray
 v:Value
 ls:List (Int×Int)
def XV.x (q:XV):Exc:=⟨q.nm,q.ls⟩
abbrev Zs (q:XV):LV:=[.string q.nm,q.v]
theorem Kd (q:XV):(Zs q).length=2:=rfl
structure qj (L:LN)(H:Array Obj)(v:Value)(qs:List XV):Prop where
 arr:Zv L H v qs.length 2 (qs.flatMap Zs)
 each:∀q∈qs,P2s L H q.v q.ls
 nm:∀q∈qs,Uq q.nm
structure KV where
 nm:ByteArray
 v:Value
 ts:List (Int×Int)
 bd:Int
def KV.k (q:KV):Jt:=⟨q.nm,q.ts,q.bd⟩
abbrev ZD (q:KV):LV:=[.string q.nm,q.v,.int .i64 q.bd]
theorem JQ (q:KV):(ZD q).length=3:=rfl
structure zU (L:LN)(H:Array Obj)(v:Value)(qs:List KV):Prop where
 arr:Zv L H v qs.length 3 (qs.flatMap ZD)
 each:∀q∈qs,P2s L H q.v q.ts
 nm:∀q∈qs,Uq q.nm
theorem Y9.ext {L:LN}{w w':World}{v:Value}{qs:List IV}(h:Y9 L w.heap v qs)(hs:Step [] w w'):Y9 L w'.heap v qs:=⟨h.arr.ext hs,λq hq=>(h.each q hq).ext hs,h.nm⟩
theorem Y9.st {L:LN}{w w':World}{v:Value}{qs:List IV}(h:Y9 L w.heap v qs)(hs:Step L w w'):Y9 L w'.heap v qs:=⟨h.arr.st hs,λq hq=>(h.each q hq).st hs,h.nm⟩
theorem Y9.up {L L':LN}{H:Array Obj}{v:Value}{qs:List IV}(h:Y9 L H v qs)(E:∀b∈L',b∈L∨H.size≤b):Y9 L' H v qs:=⟨h.arr.up E,λq hq=>(h.each q hq).up E,h.nm⟩
theorem qj.ext {L:LN}{w w':World}{v:Value}{qs:List XV}(h:qj L w.heap v qs)(hs:Step [] w w'):qj L w'.heap v qs:=⟨h.arr.ext hs,λq hq=>(h.each q hq).ext hs,h.nm⟩
theorem qj.st {L:LN}{w w':World}{v:Value}{qs:List XV}(h:qj L w.heap v qs)(hs:Step L w w'):qj L w'.heap v qs:=⟨h.arr.st hs,λq hq=>(h.each q hq).st hs,h.nm⟩
theorem qj.up {L L':LN}{H:Array Obj}{v:Value}{qs:List XV}(h:qj L H v qs)(E:∀b∈L',b∈L∨H.size≤b):qj L' H v qs:=⟨h.arr.up E,λq hq=>(h.each q hq).up E,h.nm⟩
theorem zU.ext {L:LN}{w w':World}{v:Value}{qs:List KV}(h:zU L w.heap v qs)(hs:Step [] w w'):zU L w'.heap v qs:=⟨h.arr.ext hs,λq hq=>(h.each q hq).ext hs,h.nm⟩
theorem zU.st {L:LN}{w w':World}{v:Value}{qs:List KV}(h:zU L w.heap v qs)(hs:Step L w w'):zU L w'.heap v qs:=⟨h.arr.st hs,λq hq=>(h.each q hq).st hs,h.nm⟩
theorem zU.up {L L':LN}{H:Array Obj}{v:Value}{qs:List KV}(h:zU L H v qs)(E:∀b∈L',b∈L∨H.size≤b):zU L' H v qs:=⟨h.arr.up E,λq hq=>(h.each q hq).up E,h.nm⟩
structure CL where
 ve:Value
 vc:Value
 vr:Value
 vx:Value
 vk:Value
 ev:List Kc
 co:List IV
 rq:List IV
 ex:List XV
 cs:List KV
def CL.cel (c:CL):ZA:=⟨c.ev,c.co.map (·.it),c.rq.map (·.it),c.ex.map (·.x),c.cs.map (·.k)⟩
abbrev CL.cells (c:CL):LV:=[c.ve,c.vc,c.vr,c.vx,c.vk]
abbrev CL.val (c:CL):Value:=.agg #[c.ve,c.vc,c.vr,c.vx,c.vk]
structure ZJ (L:LN)(H:Array Obj)(c:CL):Prop where
 ev:J9 L H c.ve c.ev
 co:Y9 L H c.vc c.co
 rq:Y9 L H c.vr c.rq
 ex:qj L H c.vx c.ex
 cs:zU L H c.vk c.cs
theorem ZJ.ext {L:LN}{w w':World}{c:CL}(h:ZJ L w.heap c)(hs:Step [] w w'):ZJ L w'.heap c:=⟨h.ev.ext hs,h.co.ext hs,h.rq.ext hs,h.ex.ext hs,h.cs.ext hs⟩
theorem ZJ.st {L:LN}{w w':World}{c:CL}(h:ZJ L w.heap c)(hs:Step L w w'):ZJ L w'.heap c:=⟨h.ev.st hs,h.co.st hs,h.rq.st hs,h.ex.st hs,h.cs.st hs⟩
theorem ZJ.up {L L':LN}{H:Array Obj}{c:CL}(h:ZJ L H c)(E:∀b∈L',b∈L∨H.size≤b):ZJ L' H c:=⟨h.ev.up E,h.co.up E,h.rq.up E,h.ex.up E,h.cs.up E⟩
theorem ZJ.ones {L:LN}{H:Array Obj}{c:CL}(h:ZJ L H c):ZH c.cells:=⟨h.ev.arr.one,h.co.arr.one,h.rq.arr.one,h.ex.arr.one,h.cs.arr.one,Z⟩
def Qiq (N:Nat)(H:Array Obj)(v:Value)(k:ZA):Prop:=∃c:CL,v=c.val∧c.cel=k∧∀L:LN,(∀b∈L,b<N)→ZJ L H c
end Go.Proofs.YtjcgijbhaemldaaGreatDoor
