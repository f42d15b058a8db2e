/- Merged out of 47 texts. -/
import Derived.Test.YtjcgijbhaemldaaGreatDoorMda
import Derived.RangeFuncNested
import Derived.RangeFuncLeaves
import Derived.RangeFuncCalls
import Derived.OrdersIn
import Derived.TacticsIn
namespace Go.Proofs.YtjcgijbhaemldaaGreatDoor
open Go.Proofs.Tryz
open Go.Lg
theorem QqM {α:Type}(o:Option α):o=none∨∃t,o=some t:=by cases o;exact .inl O;exact .inr ⟨_,O⟩
def zA:Value:=.agg #[nS,.int .i64 0,nS,nS]
def Zg:Value:=nS
def Yu (N:Nat)(H:Array Obj)(aa:List QD)(va vt:Value)(c:Int):Prop :=
 if X9 aa≠0 then c=X9 aa∧va=zA∧vt=Zg else match sync aa with
  | none=>c=3∧va=zA∧vt=Zg
  | some z=>c=0∧JS N H va z.1∧Qeb N H vt z.2
def YA (s:Sy)(u:LI):Sy:=if u∈s.tup then s else⟨s.tup++[u],s.mk',s.ed⟩
theorem Qhi (s:Sy)(u:LI):(YA s u).mk'=s.mk':=by unfold YA;split <;> rfl
theorem Qhj (s:Sy)(u:LI):(YA s u).ed=s.ed:=by unfold YA;split <;> rfl
theorem QkH {aa:List QD}{i:Nat}{t u:LI}{s:Sy}{v:Int}(h:Za v aa t=some u)(hl:u∈s.tup∨s.tup.length≠4096):
  syE aa i t s v=some ⟨(YA s u).tup,(YA s u).mk',(YA s u).ed++[((i:Int),v,((YA s u).tup.idxOf u:Int))]⟩:=by
 unfold syE YA;rw[h];simp only[];by_cases hu:u∈s.tup
 ·simp only[if_pos hu]
 simp only[if_neg hu];rw[if_neg (by rcases hl with h1|h1;exact absurd h1 hu;exact h1),Mn,if_neg hu];simp
theorem Qhh {aa:List QD}{i:Nat}{t u:LI}{s:Sy}{v:Int}(h:Za v aa t=some u)(hu:u∉s.tup)(hl:s.tup.length=4096):syE aa i t s v=none:=by
 unfold syE;rw[h];simp only[];rw[if_neg hu,if_pos hl]
theorem Qhf {aa:List QD}{i:Nat}{t:LI}{s:Sy}{v:Int}(h:Za v aa t=none):syE aa i t s v=some s:=by
 unfold syE;rw[h]
theorem Qpx {s:Sy}{qs:List TV}{i:Nat}(hq:qs.map (·.2)=s.tup)(h:i<qs.length):UA s i=qs[i].2:=by
 unfold UA;rw[←hq];simp[List.getD,h]
theorem Vt.bd {aa:List QD}{t:LI}(h:Vt aa t){m:Int}(hm:∀a∈aa,a.st≤m):∀x∈t,0≤x∧x<m:=by
 intro x hx;obtain⟨i,hi,rfl⟩:=LB hx;have E:i<aa.length:=by rw[←h.1];exact hi
 have:=h.2 i hi E;have:=hm aa[i] (Lc E);omega
set_option maxHeartbeats 20000000 in
theorem Uw {L:LN}{w:World}{vl:Value}{ps:List AV}{km:Int}(h:YX L w.heap vl ps)(gj:Kb w km)(ke:0<km)(m3:∀p∈ps,p.a.st≤km):
  QH prog 74 [vl] w λr w'=>Step [] w w'∧∃va vt c,r=.tuple #[va,vt,.int .i64 c]∧Yu w.heap.size w'.heap (ps.map (·.a)) va vt c:=by
 refine QH.of_W func74 O ntmps74 results74 (by simp) ?_;generalize J:ps.map (·.a)=aa;refine Qc<|xl O<|Qu (us:=[nS,.int .i64 0,nS,nS]) O λH w1 hO hA gk=>x Qe<|Qf ?_;have hl2:=gk.lt;refine Qg<|Qc<|Qb<|xl O<|xf<|(UI (h.ext hO)).mono ?_;rintro r2 w2 ⟨rfl,ho⟩;refine Qf ?_;rw[J];refine Qc<|Qb<|x (Q6 O O)<|xe<|Q3 rfl (λhv=>?_) (λhv=>?_)
 ·refine Qc<|x (QM Z)<|Qb<|xl O<|Qn (us:=[nS,.int .i64 0,nS,nS]) (gk.ext ho) O O O O ⟨O,O,O,O,Z⟩ λw3 m6 m7=>x Qe<|Qf<|Ql ⟨[zA,Zg,.int .i64 (X9 aa)],⟨⟨_,O,Qx O (m7.at (L:=[]) (by simp)).cells⟩,rfl,rfl,Z⟩,(hO.trans ho).then1 m6 hA,zA,Zg,X9 aa,rfl,?_⟩;unfold Yu;rw[if_pos hv];exact⟨O,O,O⟩
 have hck:X9 aa=0:=Ln.1 hv;have hn:ps.length≤12:=by
  unfold X9 at hck;split at hck
  ·cases hck
  rename_i h1;rw[←J]at h1;simp at h1;exact h1
 have hB:∀a∈aa,QO a:=by
  unfold X9 at hck;split at hck
  ·cases hck
  exact(Xi aa).1 hck
 have hP:∀p∈ps,QO p.a:=λp hp=>hB p.a (by rw[←J];exact LP hp);have m8:∀p∈ps,p.a.al.length≤32:=λp hp=>(hP p hp).al_le;have m9:∀a∈aa,a.st≤km:=λa ha=>by rw[←J]at ha;obtain⟨p,hp,rfl⟩:=Lq.1 ha;exact m3 p hp
 have hC:aa.length=ps.length:=by rw[←J];simp
 refine Qi<|Qc<|Qb<|xl O<|xf<|(QeV (L:=[H]) (((h.up (λb hb=>.inr (by simp at hb;omega))).ext hO).ext ho) hn m8 (λb hb=>by simp at hb;have:=ho.size;omega)).mono ?_;rintro r4 w4 ⟨gl,ve,vs,ms,rfl,kf,hl⟩;rw[J]at hl;have pa:=h.arr.one;have hel:=Um aa (λa ha=>(hB a ha).al_le);have hevl:(evs aa).length≤1000:=by omega
 have hQ:=Qt.ints (L:=[]) hl (by omega) (by simp);refine xl rfl<|Qu (us:=[nS,nS,nS]) O λb6 w5 pc pd hD=>xl O<|Qn (us:=[vl,ve,vs]) hD O O O O ⟨pa,hQ.one,kf.sl.one,Z⟩ λw6 pf hD=>xe ?_;have hR:Step [] w4 w6:=pc.then1 pf pd;have hz2:=ho.size;have hz4:=gl.size;have hl6:=hD.lt;refine Qc ?_;have pg:=((gk.ext ho).ext gl).ext hR
 refine x (Qa O)<|x (Qd hD O O)<|x (Qa O)<|xl O<|QF pg O O (by simp) hQ.one λw7 hE ph=>xe ?_;have hz7:=hE.size;have gm:Step [] w w7:=((((hO.trans ho).trans gl).trans hR).then1 hE hA);have kg:K6 [H] w7.heap vl ve vs ps ms:=(kf.ext hR).st hE;have kh:Qt 3 w2.heap.size w7 ve (evs aa):=Qm (Qs hl hR) hE (λb hb=>by have:=(Qq hl b hb).1;simp;omega)
 have ki:=hD.step hE (by simp;omega);refine Qc<|x (Qo ki O O)<|xl O<|xf<|(QdO kg hn).mono ?_;rintro r8 w8 ⟨hh,hS⟩;have hz8:=hh.size;have gn:=ph.ext hh;have hU:(∃p∈ps,p.a.st=0)↔(∃a∈aa,a.st=0):=by
  rw[←J];constructor
  ·rintro⟨p,hp,h0⟩;exact⟨p.a,LP hp,h0⟩
  rintro⟨a,ha,h0⟩;obtain⟨p,hp,rfl⟩:=Lq.1 ha;exact⟨p,hp,h0⟩
 by_cases hz:∃p∈ps,p.a.st=0
 ·rw[if_pos hz]at hS;subst hS;refine Qb<|x (Qj O O)<|x (Qj O O)<|x Qe<|Qf<|Qg<|Qc<|Qb<|x (Zt O)<|xe<|yq O ?_;refine Qc<|x (Qo gn O O)<|xl O<|Qn (us:=[ve,.int .i64 0,nS,nS]) gn O O O O ⟨hQ.one,O,O,O,Z⟩ λw9 kj pj=>x Qe<|Qf<|Ql ⟨[.agg #[ve,.int .i64 0,nS,nS],Zg,.int .i64 0],⟨⟨_,O,Qx O (pj.at (L:=[]) (by simp)).cells⟩,rfl,rfl,Z⟩,(gm.trans hh).then1 kj hA,_,Zg,0,rfl,?_⟩
  unfold Yu;rw[if_neg hv];unfold sync;rw[if_pos (hU.1 hz)];have pn:=Qm (Qs kh hh) kj (λb hb=>by have:=(Qq hl b hb).1;simp;omega);refine⟨O,⟨ve,_,_,O,λL' hk=>⟨Qt.ints pn (by show(evs aa).length≤_;omega) (λb hb=>by have:=hk b hb;omega),Zy.nil _ _ _,Zy.nil _ _ _⟩⟩,[],O,λL' hk=>⟨Zy.nil _ _ _,λp hp=>by cases hp⟩⟩
 rw[if_neg hz]at hS;obtain⟨vf,rfl,gq⟩:=hS;have kk:=Qt.ints (L:=[]) gq (by simp;omega) (by simp);refine Qb<|x (Qj O O)<|x (Qj O O)<|x Qe<|Qf<|Qg<|Qc<|Qb<|x (Zt O)<|xe<|Z4 rfl ?_;refine Qi<|Qc<|Qb<|xl O<|QG (us:=[[vf]]) O O (by decide) (by simp) ⟨kk.cells,rfl,Z⟩ λU w10 gr hb37 kn=>Qf ?_;have hl37:=kn.lt;refine Qc<|xl O<|Z6 Jh λhe w11 hV hb38 ko=>?_;have hl38:=ko.lt
 refine Qb<|xl O<|xf<|(QaL ((kk.ext gr).ext hV) (gj.ext ((gm.trans hh).trans (gr.trans hV))) (λn hn=>by have:=Nm hn;omega) (by simp;omega)).mono ?_;rintro r12 po ⟨rfl,hW⟩;have hz12:=hW.size;refine xl rfl<|Ys (k:=Vr (List.replicate ps.length 0)) (ko.ext hW) O O λwS gs pp=>Qb<|Qf ?_;have hzS:=gs.size
 have pt:Step [] w8 po:=(gr.trans hV).trans hW;have hw:Step [] w8 wS:=pt.then1 gs (by omega);have hX:Step [] w wS:=(gm.trans hh).trans hw;have pu:∀b∈[H,he,U],b∈[H]∨w8.heap.size≤b:=λb hb=>by
  simp only[List.mem_cons,List.not_mem_nil,or_false]at hb;rcases hb with rfl|rfl|rfl
  ·exact .inl (by simp)
  ·exact .inr (by omega)
  exact .inr (by omega)
 have gt:K6 [H,he,U] wS.heap vl ve vs ps ms:=((kg.ext hh).up pu).ext hw;have gu:QT wS.heap b6 215 [vl,ve,vs]:=(ki.ext hh).ext hw;have pw:Qt 3 w2.heap.size wS ve (evs aa):=Qs (Qs kh hh) hw;have pz:=QY hl;have p0:=Qq gq;have hF:SyN w1.heap.size H he U wS:=⟨by omega,by omega,by omega,by omega,by omega,by omega⟩
 have p4:jR w1.heap.size H he U ve wS (qg aa) (mput [] (Vr (List.replicate ps.length 0)) (.int .i64 0)) [(vf,List.replicate ps.length 0)] (.slice (some ⟨U,0,none⟩) 1 1) Zg Zg wS:=by
  refine⟨Step.refl _ _,gn.ext hw,pp,?_,λb hb=>by simp[ob]at hb;exact .inl hb,QN _ _ _ _,QN _ _ _ _,by simp[qg,hC],λp hp=>?_,λp hp b hb=>?_,Dj.nil' _,Dj.nil' _,Dj.nil' _⟩
  ·exact(((kn.ext hV).ext hW).step gs (by simp;omega)).own (n:=1) (sz:=1) O (by omega) (by omega)
  ·simp only[List.mem_singleton]at hp;subst hp;exact Zd (Qs gq hw) (by omega)
  simp only[List.mem_singleton]at hp;subst hp;have:=p0 b hb;refine⟨by omega,?_,by simp[ob,Zg],by simp[ob,Zg]⟩;simp[ob];omega
 have p5:U3 ps.length (mput [] (Vr (List.replicate ps.length 0)) (.int .i64 0)) (qg aa).tup:=by
  have ke:U3 ps.length [] []:=λu _ _=>O;have:=ke.add (u:=List.replicate ps.length 0) (by simp) (λx hx=>by have:=Nm hx;omega);simpa[qg,hC]using this
 have p6:U2 aa (qg aa):=by
  refine⟨λt ht=>?_,by simp[qg]⟩;simp only[qg,List.mem_singleton]at ht;subst ht;refine⟨by simp,λi h1 h2=>?_⟩;have h3:=(hB aa[i] (Lc h2)).st0;have h4:aa[i].st≠0:=λe=>hz (hU.2 ⟨aa[i],Lc h2,e⟩);simp only[List.getElem_replicate];omega
 generalize hT:j7 aa 4096 0 (qg aa)=T;have p7:∀s,T=some s→sync aa=some (⟨evs aa,s.tup.length,s.mk',s.ed⟩,s.tup):=λs hs=>by
  unfold sync;rw[if_neg (λe=>hz (hU.2 e)),hT,hs];rfl
 have p8:T=none→sync aa=none:=λhs=>by unfold sync;rw[if_neg (λe=>hz (hU.2 e)),hT,hs];rfl
 refine Qg<|Qc<|Qf ?_;have gv:b6∉[H,he,U]:=by simp;omega
 refine Qh<|Qz (α:=Nat×Sy×List (ByteArray×Value)×List TV×Value×Value×Value) [(3,4),(10,10),(12,16),(42,111)] (λz=>[(3,z.2.2.2.2.1),(10,.int .i64 z.1)])
  (λz w'=>jR w1.heap.size H he U ve wS z.2.1 z.2.2.1 z.2.2.2.1 z.2.2.2.2.1 z.2.2.2.2.2.1 z.2.2.2.2.2.2 w'∧U2 aa z.2.1∧U3 ps.length z.2.2.1 z.2.1.tup∧z.1≤z.2.1.tup.length∧z.2.1.mk'.length≤z.1∧z.2.1.ed.length≤z.1*1000∧j7 aa (4096 - z.1) z.1 z.2.1=T)
  (λz=>4096 - z.1) (by rfl) (0,qg aa,_,_,_,Zg,Zg) ⟨O,O,Z⟩ ⟨p4,p6,p5,Ll _,Ll _,Ll _,hT⟩ ?_
 rintro⟨i,s,m,qs,vt,vk,vd⟩ g hG ⟨G,hY,kp,hi,p9,kq,gx⟩;simp only[]at G hY kp hi p9 kq gx;have hle:=hY.le;have qc:qs.length=s.tup.length:=by rw[←G.q];simp
 have kr:∀p∈qs,Vt aa p.2:=λp hp=>hY.v p.2 (by rw[←G.q];exact LP hp);have kt:∀p∈qs,p.2.length≤12:=λp hp=>by have:=(kr p hp).1;omega
 have gy:=QV (L:=[]) G.t (by omega) (by simp);refine Qg<|Qc<|Qb<|Qb<|x (Qr gy O)<|x (QA O O)<|xe<|QC rfl (λqo=>?_) (λqo=>?_)
 ·have qr:T=some s:=by rw[←gx,Qhc (by omega)]
  refine Qy<|Qc<|Qb<|x (Qr gy O)<|x (Qa O)<|xl O<|QF G.A O O (by simp) rfl λw15 q0 ku=>xe ?_;refine Qc ?_;have q4:=Qt.ints (L:=[]) G.k (by omega) (by simp);have q9:=Ya.eds (L:=[]) G.e (by omega) (by simp);refine x (Qo ku O O)<|Qb<|xl O<|Qn (us:=[ve,.int .i64 qs.length,vk,vd]) ku O O O O ⟨hQ.one,O,q4.one,q9.one,Z⟩ λgz j1 j2=>x Qe<|Qf ?_
  have h5:Step [H] hG gz:=q0.trans' j1;have j3:Step [] w gz:=(hX.then G.st (λb hb=>.inr (by simp at hb;omega))).then1 h5 hA;refine Ql ⟨[.agg #[ve,.int .i64 qs.length,vk,vd],vt,.int .i64 0],⟨⟨_,O,Qx O (j2.at (L:=[]) (by simp)).cells⟩,rfl,rfl,Z⟩,j3,_,vt,0,rfl,?_⟩;unfold Yu;rw[if_neg hv,p7 s qr];have e1:(qs.length:Int)=s.tup.length:=by rw[qc]
  have k0:Qt 3 w2.heap.size gz ve (evs aa):=Qm (Qm pw G.st (λb hb=>by have:=(Qq hl b hb).1;have:=pz b hb;simp;omega)) h5 (λb hb=>by have:=(Qq hl b hb).1;simp;omega);have k1:=Qm G.k h5 (λb hb=>by have:=(Qq G.k b hb).1;simp;omega);have k2:=Qm G.e h5 (λb hb=>by have:=(Qq G.e b hb).1;simp;omega);have k3:=Qm G.t h5 (λb hb=>by have:=(Qq G.t b hb).1;simp;omega)
  refine⟨O,⟨ve,vk,vd,by rw[e1],λL' hk=>⟨Qt.ints k0 (by show(evs aa).length≤_;omega) (λb hb=>by have:=hk b hb;omega),Qt.ints k1 (by show s.mk'.length≤_;omega) (λb hb=>by have:=hk b hb;omega),Ya.eds k2 (by show s.ed.length≤_;omega) (λb hb=>by have:=hk b hb;omega)⟩⟩,qs,G.q,λL' hk=>⟨?_,λp hp=>?_⟩⟩
  ·exact QV k3 (by omega) (λb hb j4=>by have:=(Qq G.t b hb).1;have:=hk b j4;omega)
  exact Qt.ints (Qm (G.el p hp) h5 (λb hb=>by have:=(Qq (G.el p hp) b hb).1;simp;omega)) (by have:=kt p hp;omega) (λb hb=>by have:=hk b hb;omega)
 have za:i<s.tup.length:=by omega
 have V:i<qs.length:=by omega
 have kv:=Qpx G.q V;have h6:=kr (qs[i]'V) (Lc V);obtain⟨t,g0⟩:∃t,(qs[i]'V).2=t:=⟨_,O⟩;rw[g0]at kv h6;refine Qi ?_;have zb:(KG aa i t (evs aa) (ZB aa i t s)).bind (j7 aa (4096 - (i+1)) (i+1))=T:=by
  rw[←gx];obtain⟨f,hf⟩:∃f,4096 - i=f+1:=⟨4096 - i - 1,by omega⟩;rw[hf,j7,if_pos za,kv,show 4096 - (i+1)=f by omega]
 have zv:=gt.st G.st;have z0:K6 [] hG.heap vl ve vs ps ms:=zv.up (λ_ hb=>by cases hb);have z1:=gu.step G.st gv;have z2:QJ [] hG.heap (qs[i]'V).1 t:=by rw[←g0];exact Qt.ints (G.el (qs[i]'V) (Lc V)) (by have:=kt (qs[i]'V) (Lc V);omega) (by simp)
 refine Qg<|Qh<|QX (α:=Value) [(48,59)] (λz=>[]) (λz w'=>jR w1.heap.size H he U ve wS (ZB aa i t s) m qs vt z vd w') (by rfl) ?_ ?_
 ·refine Qg<|QU (Step [] hG) [(0,true),(1,true),(2,true),(3,true),(4,true),(5,false)] mixed (by rfl) (by kernel_rfl) (Step.drew _ _) ?_;refine pq (λ_ hc=>Qo (z1.ext hc) O O)<|p (λ_=>Qk)<|p (λ_=>Qk)<|pig O j0 gy O O V λa51 z3 =>
   pq (λ_ hc=>Qv (z3.ext hc) O)<|pk<|xf<|(Qgk (z0.ext (Step.drew _ _)) (z2.ext (Step.drew _ _)) (by rw[h6.1,hC]) (λp hp=>(hP p hp).mri) hn).mono ?_
  rintro r17 w17 ⟨rfl,z4⟩;have kw:=(Step.drew [] hG).trans z4;refine⟨kw,?_⟩;refine pe ?_;have g1:=G.ext kw;refine QZ O (λhH=>?_) (λhH=>?_)
  rotate_left
  ·refine Qi<|⟨vk,Z,?_⟩;rw[J]at hH;unfold ZB;rw[if_neg (by rw[hH];simp)];exact g1
  refine Qw<|x (Qa O)<|x (Qd g1.A O O)<|Qb<|xl O<|QG (us:=[[.int .i64 i]]) O O (by decide) (by simp) ⟨rfl,rfl,Z⟩ λb57 w18 z5 hb57 z9=>?_;have hJ:=g1.ext z5;refine xl O<|Q4 (news:=[.int .i64 i]) (L:=[]) hJ.k O O O (z9.at (by simp)) (by simp[Value.oneCell']) (by omega) hJ.st.size λkx w19 ho19 kz hn19=>?_;have k4:Qt 3 wS.heap.size w19 kx (s.mk'++[(i:Int)]):=Qt.snoc ho19
  refine x (Qa O)<|xl O<|QF (hJ.A.step kz (Q0 hJ.k (by omega))) O O (by simp) (Qt.ints (L:=[]) k4 (by simp;omega) (by simp)).one λw20 hs20 hB20=>xe ?_;refine⟨kx,Z,?_⟩;rw[J]at hH;unfold ZB;rw[if_pos hH];exact hJ.setK hF kz k4 hn19 hs20 hB20
 rintro hZ g3 w21 k5;have hsk2:U2 aa (ZB aa i t s):=y8 hY;have htup2:(ZB aa i t s).tup=s.tup:=by unfold ZB;split <;> rfl
 have hed2:(ZB aa i t s).ed=s.ed:=by unfold ZB;split <;> rfl
 have hmk2:(ZB aa i t s).mk'.length≤i+1:=by
  unfold ZB;split
  ·simp only[List.length_append,List.length_singleton];omega
  omega
 have k6:QJ [H,he,U] wS.heap ve (evs aa):=by have:=gt.ev;rw[J]at this;exact this
 refine Qc<|x (Qa O)<|x (Qd (gu.step k5.st gv) O O)<|x (Qr k6 O)<|Qb<|xe<|Qh<|Qz (α:=Nat×Sy×List (ByteArray×Value)×List TV×Value×Value) [(3,4),(12,16),(63,111)] (λz=>[(3,z.2.2.2.2.1),(63,.int .i64 z.1)])
  (λz w'=>jR w1.heap.size H he U ve wS z.2.1 z.2.2.1 z.2.2.2.1 z.2.2.2.2.1 hZ z.2.2.2.2.2 w'∧U2 aa z.2.1∧U3 ps.length z.2.2.1 z.2.1.tup∧z.1≤(evs aa).length∧z.2.1.mk'=(ZB aa i t s).mk'∧z.2.1.ed.length≤i*1000+z.1 ∧
   (∃h:i<z.2.2.2.1.length,(z.2.2.2.1[i]'h).2=t)∧(KG aa i t ((evs aa).drop z.1) z.2.1).bind (j7 aa (4096 - (i+1)) (i+1))=T)
  (λz=>(evs aa).length - z.1) (by rfl) (0,ZB aa i t s,m,qs,vt,vd) ⟨O,O,Z⟩
  ⟨k5,hsk2,by rw[htup2];exact kp,Ll _,O,by rw[hed2];simpa using kq,⟨V,g0⟩,zb⟩ ?_
 rintro⟨j,E,m4,hg,ga,gb⟩ g4 h7 ⟨I,hK,hq,hj,gc,k7,⟨hm,h8⟩,Y⟩;simp only[]at I hK hq hj gc k7 Y hm h8;have k8:hg.length=E.tup.length:=by rw[←I.q];simp
 have hle4:=hK.le;refine Qc<|x (QA O O)<|xe<|Qg<|QC O (λh64=>?_) (λh64=>?_)
 ·rw[Lv (by omega),KG]at Y;refine Qy<|Qw<|Qb<|QP O O<|Qf<|⟨(i+1,E,m4,hg,ga,hZ,gb),by simp only[];omega,⟨O,O,Z⟩,I,hK,hq,by simp only[];omega,by simp only[];rw[gc];exact hmk2,by simp only[];omega,Y⟩
 have ge:j<(evs aa).length:=by omega
 rw[Q5 ge,KG]at Y;obtain⟨v,k9⟩:∃v,(evs aa)[j]=v:=⟨_,O⟩;rw[k9]at Y;refine Qi<|Qg<|Qh<|Qc ?_;have hveI4:=k6.st I.st;refine xii hveI4 O O ge λa65 ma=>?_;rw[k9]at ma;refine x (Qv ma O)<|Qf ?_;have hM22:=(gt.st I.st).up (L':=[]) (λ_ hb=>by cases hb);have hB622:=gu.step I.st gv;have htA4:=QV (L:=[]) I.t (by omega) (by simp)
 have htI4:QJ [] h7.heap (hg[i]'hm).1 t:=by rw[←h8];exact Qt.ints (I.el (hg[i]'hm) (Lc hm)) (by rw[h8,h6.1];omega) (by simp)
 refine Qg<|QU (Step [] h7) [(0,true),(1,true),(2,true),(3,true),(4,true),(5,true),(6,false),(7,true),(8,true),(9,true),(10,true),(11,true)] mixed (by rfl) (by kernel_rfl) (Step.drew _ _) ?_;refine pq (λ_ hc=>Qo (hB622.ext hc) O O)<|p (λ_=>Qk)<|p (λ_=>Qk)<|pig O j0 htA4 O O hm λa71 h71 =>
  pq (λ_ hc=>Qv (h71.ext hc) O)<|p (λ_=>Qk)<|pk<|xf<|(QhX (hM22.ext (Step.drew _ _)) (htI4.ext (Step.drew _ _)) (by rw[h6.1,hC]) (λp hp=>(hP p hp).ali) (λp hp=>(hP p hp).edi) hn _).mono ?_
 rintro r23 w23 ⟨hs23,hL⟩;rw[J]at hL;have mc:=(Step.drew [] h7).trans hs23;refine⟨mc,?_⟩;have hM:=I.ext mc;have hz22:=I.st.size;rcases QqM (Za v aa t)with hr|⟨u,hr⟩
 ·rw[hr]at hL;subst hL;rw[Qhf hr]at Y;refine p (λ_=>Qk)<|p (λ_=>Qj O O)<|p (λ_=>Qj O O)<|p (λ_=>Qe)<|p (λ_=>Qe)<|pe ?_;refine Qg<|Qc<|Qb<|x (Zt O)<|xe<|yq O ?_;refine Qy<|Qw<|QP O O<|Qb<|xe ?_;exact⟨(j+1,E,m4,hg,ga,gb),by simp only[];omega,⟨O,O,Z⟩,hM,hK,hq,ge,gc,by simp only[];omega,⟨hm,h8⟩,Y⟩
 rw[hr]at hL;obtain⟨vx,rfl,g2⟩:=hL;have mf:=XD hB h6 hr;have mg:u.length=ps.length:=by rw[mf.1,hC]
 have g5:=mf.bd m9;have g8:∀x∈u,0≤x:=λx hx=>(g5 x hx).1;refine p (λ_=>Qk)<|p (λ_=>Qj O O)<|p (λ_=>Qj O O)<|p (λ_=>Qe)<|p (λ_=>Qe)<|pe ?_;refine Qg<|Qc<|Qb<|x (Zt O)<|xe<|Z4 O ?_;refine Qi ?_;have gg:=Qt.ints (L:=[]) g2 (by omega) (by simp);have mh:=Qq g2
 refine QX (α:=Unit) [(15,16),(79,85)] (λz=>[(15,.int .i64 (if u∈E.tup then(E.tup.idxOf u:Int)else 0)),(16,.bool (decide (u∈E.tup)))]) (λz w'=>Step [] w23 w') (by rfl) ?_ ?_
 ·refine Qw<|Qb<|Qb<|xl O<|xf<|(QaL gg (gj.ext (hX.then hM.st (λb hb=>.inr (by simp at hb;omega)))) g5 (by omega)).mono ?_;rintro r24 w24 ⟨rfl,gh⟩;by_cases hu:u∈E.tup
  ·refine x (jh (k:=Vr u) ((hM.ext gh).M) O O (by rw[hq u mg g8,if_pos hu]))<|Qb<|x (Qj rfl rfl)<|x (Qj rfl rfl)<|x Qe<|Qf ?_;exact⟨(),⟨congrArg (Value.int .i64) (if_pos hu).symm,congrArg Value.bool (decide_eq_true hu).symm,Z⟩,gh⟩
  refine x (Qge (k:=Vr u) ((hM.ext gh).M) O O (by rw[hq u mg g8,if_neg hu]))<|Qb<|x (Qj rfl rfl)<|x (Qj rfl rfl)<|x Qe<|Qf ?_;exact⟨(),⟨congrArg (Value.int .i64) (if_neg hu).symm,congrArg Value.bool (decide_eq_false hu).symm,Z⟩,gh⟩
 rintro _ g6 w25 g9;have h9:=hM.ext g9;have hx25:=Qs g2 g9;have hxA25:=gg.ext g9;have hadd:∀b∈ob vx,b∉ob ga∧b∉ob hZ∧b∉ob gb:=λb hb=>by
  have h1:=(mh b hb).1;have h1':h7.heap.size≤b:=h1;exact⟨λhb'=>by have:=QY I.t b hb';omega,λhb'=>by have:=QY I.k b hb';omega,λhb'=>by have:=QY I.e b hb';omega⟩
 refine QX (α:=List (ByteArray×Value)×List TV×Value) [(3,4),(15,15),(86,101)] (λz=>[(3,z.2.2),(15,.int .i64 ((YA E u).tup.idxOf u:Int))])
  (λz w'=>jR w1.heap.size H he U ve wS (YA E u) z.1 z.2.1 z.2.2 hZ gb w'∧(u∈E.tup∨E.tup.length≠4096)∧U3 ps.length z.1 (YA E u).tup∧∃h:i<z.2.1.length,(z.2.1[i]'h).2=t) (by rfl) ?_ ?_
 ·refine Qc<|Qb<|x (Zt O)<|xe<|QZ O (λka=>?_) (λka=>?_)
  rotate_left
  ·have hu:u∈E.tup:=by simpa using ka
   refine Qi ?_;have e1:YA E u=E:=by unfold YA;rw[if_pos hu]
   have e2:(if u∈E.tup then(E.tup.idxOf u:Int)else 0)=((YA E u).tup.idxOf u:Int):=by rw[e1,if_pos hu]
   refine⟨(m4,hg,ga),⟨O,congrArg (Value.int .i64) e2,Z⟩,?_,.inl hu,?_,hm,h8⟩
   ·rw[e1];exact h9
   rw[e1];exact hq
  have hu:u∉E.tup:=by simpa using ka
  have mj:=QV (L:=[]) h9.t (by omega) (by simp);refine Qg<|Qc<|Qb<|x (Qr mj O)<|x (Zr O O)<|xe<|Q3 O (λh90=>?_) (λh90=>?_)
  ·refine Qc<|x (QM Z)<|xl O<|Qn (us:=[nS,.int .i64 0,nS,nS]) h9.A O O O O ⟨O,O,O,O,Z⟩ λw26 gi hB26=>x Qe<|Qf<|Ql ⟨[zA,Zg,.int .i64 3],⟨⟨_,O,Qx O (hB26.at (L:=[]) (by simp)).cells⟩,rfl,rfl,Z⟩,(hX.then h9.st (λb hb=>.inr (by simp at hb;omega))).then1 gi hA,zA,Zg,3,O,?_⟩;unfold Yu;rw[Qhh hr hu (by omega)]at Y;rw[if_neg hv,p8 Y.symm];exact⟨rfl,O,O⟩
  have hl4:E.tup.length≠4096:=by omega
  refine Qi<|Qc<|Qb<|x (Qr mj O)<|Qf<|Qc<|Qb<|Qb<|xl O<|xf<|(QaL hxA25 (gj.ext (hX.then h9.st (λb hb=>.inr (by simp at hb;omega)))) g5 (by omega)).mono ?_;rintro r26 w26 ⟨rfl,gi⟩;have mo:=h9.ext gi;refine Qb<|xl O<|YR (k:=Vr u) mo.M O O λw27 mq hm27=>xe ?_;have hI8:=mo.setM hF mq hm27
  have hx27:=Qm (Qs hx25 gi) mq (λb hb=>by have:=(mh b hb).1;have h1':h7.heap.size≤b:=this;simp;omega);refine Qw<|Qb<|Qb<|xl O<|QG (us:=[[vx]]) O O (by decide) (by simp) ⟨gg.cells,rfl,Z⟩ λb100 w28 mt hb100 hB100=>?_;have kb:=hI8.ext mt
  refine xl O<|Q4 (news:=[vx]) (L:=[]) kb.t O O O (hB100.at (by simp)) (λy hy=>by simp only[List.mem_singleton]at hy;subst hy;exact gg.one) (by omega) (by have:=kb.st.size;have:=hF.nS;omega) λmu w29 ho29 hs29 hn29=>Qf ?_;have hk29:yT 39 w1.heap.size w29 mu (hg++[(vx,u)]):=yT.snoc ho29
  have hIA:=kb.setT hF (u:=u) (Zd (Qs hx27 mt) (by show wS.heap.size≤h7.heap.size;omega)) hadd hs29 hk29 hn29;have e1:YA E u=⟨E.tup++[u],E.mk',E.ed⟩:=by unfold YA;rw[if_neg hu]
  have e2:(hg.length:Int)=((YA E u).tup.idxOf u:Int):=by
   rw[e1];simp only[];rw[Mn,if_neg hu,←k8];simp
  refine⟨(mput m4 (Vr u) (.int .i64 (hg.length:Int)),hg++[(vx,u)],mu),⟨O,congrArg (Value.int .i64) e2,Z⟩,?_,.inr hl4,?_,by simp;omega,?_⟩
  ·rw[e1];exact hIA
  ·rw[e1];simp only[];rw[k8];exact hq.add hu g8
  simp only[];rw[LZ hm];exact h8
 rintro⟨m5,qs5,vt5⟩ g7 w30 ⟨kc,hlim,mv,mw,my⟩;simp only[]at kc mv mw my;have hed5:(YA E u).ed.length≤i*1000+j:=by rw[Qhj];exact k7
 have mz:=QkH (aa:=aa) (i:=i) (s:=E) hr hlim;have hsk5:=Qhg hB hK h6 mz;rw[mz]at Y;refine Qw<|x (Qa O)<|x (Qd kc.A O O)<|Qb<|Qb<|Qb<|x (QM ⟨O,O,O,Z⟩)<|xl O<|QG (us:=[QB ((i:Int),v,((YA E u).tup.idxOf u:Int))]) O O (by decide) (by exact(by decide:1*3≤1000000)) ⟨O,O,Z⟩ λb108 w31 hs31 hb108 hB108=>?_;have hN:=kc.ext hs31
 refine xl O<|Q4 (news:=QB ((i:Int),v,((YA E u).tup.idxOf u:Int))) (L:=[]) hN.e O O O (hB108.at (by simp)) (λy hy=>by simp only[QB,List.mem_cons,List.not_mem_nil,or_false]at hy;rcases hy with rfl|rfl|rfl <;> rfl) (by omega) hN.st.size λm0 w32 ho32 m1 hn32=>?_
 have m2:Ya 129 wS.heap.size w32 m0 ((YA E u).ed++[((i:Int),v,((YA E u).tup.idxOf u:Int))]):=Ya.snoc ho32;refine x (Qa O)<|xl O<|QF (hN.A.step m1 (Q0 hN.e (by omega))) O O (by simp) (Ya.eds (L:=[]) m2 (by simp;omega) (by simp)).one λw33 hs33 hB33=>xe ?_;have hI12:=hN.setE hF m1 m2 hn32 hs33 hB33;refine Qw<|QP O O<|Qb<|xe ?_
 refine⟨(j+1,_,m5,qs5,vt5,m0),by simp only[];omega,⟨O,O,Z⟩,hI12,hsk5,mv,ge,?_,?_,⟨mw,my⟩,Y⟩
 ·simp only[];rw[Qhi];exact gc
 simp only[List.length_append,List.length_singleton];omega
structure VV where
 en:LI
 dis:LI
 mk':Bool
 ps:Bool
def QoH:VV:=⟨[],[],false,false⟩
def Qnv (l:LI)(v:Int):LI:=mrg (· || ·) l [v]
def QqT (p s:QD)(x y:Int)(c:VV)(v:Int):VV :=
 match eget p.ed x v with
 | none=>c
 | some _=>match eget s.ed y v with
  | some _=>⟨Qnv c.en v,c.dis,c.mk',c.ps⟩
  | none=>⟨c.en,Qnv c.dis v,c.mk',c.ps⟩
def QqU (p s:QD)(x y:Int)(c:VV):VV:=⟨c.en,c.dis,decide (y∈s.mr),c.ps || decide (x∈p.mr)⟩
def QqS (p s:QD)(x y:Int)(c:VV):VV:=s.al.foldl (QqT p s x y) (QqU p s x y c)
def px (q:LI):Int:=q.getD 0 0
def py (q:LI):Int:=q.getD 1 0
def QqR (p s:QD)(l:List VV)(q:LI):List VV:=l.set (py q).toNat (QqS p s (px q) (py q) (l.getD (py q).toNat QoH))
def ctls (p s:QD)(pairs:List (LI)):List VV:=pairs.foldl (QqR p s) (List.replicate s.st.toNat QoH)
def occs (n:Nat)(pairs:List (LI)):List Bool:=pairs.foldl (λo q=>o.set (py q).toNat true) (List.replicate n false)
def meets (a b:LI):LI:=mrg (· && ·) a b
def Qp3 (a b:VV):Bool:=decide ((meets a.en b.dis).length+(meets b.en a.dis).length=0) && (!a.ps || !b.ps || a.mk' == b.mk')
def cget (l:LI)(i:Nat):Int:=l.getD i 0
def Qiq (cl:LI)(x y:Nat):LI:=cl.map λc=>if c=cget cl y then cget cl x else c
def lget (l:List VV)(i:Nat):VV:=l.getD i QoH
def to0 (s:QD)(x:Nat)(v:Int):Int:=match eget s.ed x v with|some u=>u|none=>0
def clE (s:QD)(x y:Nat)(z:LI×Bool)(v:Int):LI×Bool :=
 if cget z.1 (to0 s x v).toNat≠cget z.1 (to0 s y v).toNat then(Qiq z.1 (to0 s x v).toNat (to0 s y v).toNat,true)else z
def clY (s:QD)(l:List VV)(x:Nat)(z:LI×Bool)(y:Nat):LI×Bool :=
 if cget z.1 x<0∨cget z.1 x≠cget z.1 y then z else(meets (lget l x).en (lget l y).en).foldl (clE s x y) z
def clX (s:QD)(l:List VV)(n:Nat)(z:LI×Bool)(x:Nat):LI×Bool:=(List.range' (x+1) (n - (x+1))).foldl (clY s l x) z
def pass (s:QD)(l:List VV)(cl:LI):LI×Bool:=(List.range' 0 cl.length).foldl (clX s l cl.length) (cl,false)
def QjH (s:QD)(l:List VV):Nat→LI→LI
 | 0,cl=>cl
 | f+1,cl=>if(pass s l cl).2=true then QjH s l f (pass s l cl).1 else(pass s l cl).1
def Qms (l:List VV)(cl:LI):Bool :=
 (List.range' 0 cl.length).all λx=>(List.range' 0 x).all λy=>!(decide (0≤cget cl x∧cget cl x=cget cl y) && !Qp3 (lget l x) (lget l y))
def Qqz (s:QD)(l:List VV)(cl:LI)(x y:Nat):LI :=
 if cget cl x<0∨cget cl y<0∨cget cl x=cget cl y then cl else
  let d:=QjH s l (cl.length*cl.length+1) (Qiq cl x y)
  if Qms l d=true then d else cl
def Qqy (s:QD)(l:List VV)(n:Nat)(cl:LI)(x:Nat):LI:=(List.range' (x+1) (n - (x+1))).foldl (λc y=>Qqz s l c x y) cl
def QqX (o:List Bool):LI:=(List.range' 0 o.length).map λi=>if o.getD i false=true then(i:Int)else -1
def QqW (s:QD)(l:List VV)(cl:LI):LI:=(List.range' 0 cl.length).foldl (Qqy s l cl.length) cl
def QqO (z:LI×LI)(c:Int):LI×LI :=
 if c∈z.1 then(z.1,z.2++[(z.1.idxOf c:Int) - 1])else(z.1++[c],z.2++[(z.1.length:Int) - 1])
def nums (cl:LI):LI:=(cl.foldl QqO ([-1],[])).2
def Qp6 (p s:QD)(pairs:List (LI)):LI:=nums (QqW s (ctls p s pairs) (QqX (occs s.st.toNat pairs)))
end Go.Proofs.YtjcgijbhaemldaaGreatDoor
namespace Go.Lg
section
variable {P:Program}{n:Nat}{f:Fr}{w:World}{all:List Oper}{C:World→Prop}{K:Fr→World→Prop}
def zK (all:Array Oper)(i j:Nat)(p1 p2:List (Nat×Bool)):List (Nat×Bool)→Array Bool→Bool
 | [],ls=>Region.ready .any all ls == [i,j] && Y2 all p1 (ls.setIfInBounds i true) && Y2 all p2 (ls.setIfInBounds j true)
 | (k,q)::pl,ls=>q && (Region.ready .any all ls).contains k && Region.free .any all ls k && zK all i j p1 p2 pl (ls.setIfInBounds k true)
def Qi2 (all:List Oper)(pl:List (Nat×Bool))(i j:Nat)(p1 p2:List (Nat×Bool)):Bool :=
 Region.noSelect all.toArray && pl.length+1+p1.length == all.length && p1.length == p2.length && zK all.toArray i j p1 p2 pl (Array.replicate all.length false)
def Fk (P:Program)(all:List Oper)(C:World→Prop)(K:Fr→World→Prop)(i j:Nat)(p1 p2:List (Nat×Bool))(f:Fr)(w:World):Prop :=
 (Yd all f (QL all i)=true∧XO P (QL all i) f w λE w'=>C w'∧XP P all C K p1 E w') ∧
 (Yd all f (QL all j)=true∧XO P (QL all j) f w λE w'=>C w'∧XP P all C K p2 E w')
theorem VO {i j:Nat}{p1 p2:List (Nat×Bool)}(hl:p1.length=p2.length)(hs:Region.noSelect all.toArray=true):∀(pl:List (Nat×Bool)) (ls:Array Bool) (f:Fr) (w:World),ls.size=all.length→C w→zK all.toArray i j p1 p2 pl ls=true →
  XP P all C (Fk P all C K i j p1 p2) pl f w→XA P all C K (pl.length+(1+p1.length)) ls f w
 | [],ls,f,w,U,hC,hp,h=>by
  simp only[zK,Bool.and_eq_true,beq_iff_eq]at hp;obtain⟨⟨G,h1⟩,h2⟩:=hp;simp only[XP]at h;rw[List.length_nil,LR,MT];refine Y0 (λh0=>(by rw[h0]at G;cases G)) ?_;rw[G];intro k hk o E;have H:(ls.setIfInBounds k true).size=all.length:=by simpa using U
  simp only[List.mem_cons,List.not_mem_nil,or_false]at hk;rcases hk with rfl|rfl
  ·have:=h.1;rw[Zh E]at this;rw[this.1,cond_true];exact this.2.mono λv w' hx=>⟨.inr (.inr hx.1),Zz hs p1 _ _ _ H (.inl hx.1) h1 hx.2⟩
  have:=h.2;rw[Zh E]at this;rw[this.1,cond_true,hl];exact this.2.mono λv w' hx=>⟨.inr (.inr hx.1),Zz hs p2 _ _ _ H (.inl hx.1) h2 hx.2⟩
 | (I,q)::pl,ls,f,w,U,hC,hp,h=>by
  simp only[zK,Bool.and_eq_true]at hp;obtain⟨⟨⟨rfl,G⟩,hf⟩,Y⟩:=hp;simp only[XP]at h;have V:I∈Region.ready .any all.toArray ls:=by simpa using G
  have e:(List.length ((I,true)::pl))+(1+p1.length)=(pl.length+(1+p1.length))+1:=by simp;omega
  rw[e];cases E:all[I]? with
  | none =>
   exfalso;obtain⟨_,o,hc,_⟩:=mem_ready.1 V;simp[E]at hc
  | some o =>
   rw[Zh E]at h;have ha:∀(j:Nat) (o:Oper) cs b,all[j]?=some o→o.op≠.select cs b:=λj o cs b hj=>Region.noSelect_spec hs j o cs b (by simpa using hj);have hb:=λj oj hj=>Region.free_spec (ops:=all.toArray) (md:=.any) (i:=I) (oi:=o) (listed:=ls) (by simpa using E) hf j oj (by simpa using hj);have H:(ls.setIfInBounds I true).size=all.length:=by simpa using U
   cases J:Yd all f o with
   | false =>
    rw[J]at h;exact XI (v:=undef) (D:=λw=>yB o=true→C w) E (λ_ h=>h) ha _ ls f w (λ_=>hC) hb V (.inr ⟨J,O⟩) (VO hl hs pl _ _ _ H hC Y h)
   | true =>
    rw[J]at h;simp only[cond_true]at h;obtain⟨v,hv,hx⟩:=h;exact XI (v:=v) (D:=λw=>yB o=true→C w) E (λ_ h=>h) ha _ ls f w (λ_=>hC) hb V (.inl ⟨J,hv⟩) (VO hl hs pl _ _ _ H hC Y hx)
theorem QmQ {Q:Exit→Fr→World→Prop}{id:Nat}(C:World→Prop)(pl:List (Nat×Bool))(i j:Nat)(p1 p2:List (Nat×Bool))(hm:P.follows .mixedOrders=true)(E:Xn n all=true)(hp:Qi2 all pl i j p1 p2=true)
  (hC:C { w with drawn:=w.drawn+1 }) (h:XP P all C (Fk P all C (λf w=>Q .normal f w) i j p1 p2) pl f { w with drawn:=w.drawn+1 }):W P n (.region id all.toArray true) Q f w:=by
 simp only[Qi2,Bool.and_eq_true,beq_iff_eq]at hp;obtain⟨⟨⟨hs,hl⟩,G⟩,hp⟩:=hp;refine Y7 C hm E ?_;have h1:=VO G hs pl _ _ _ (by simp) hC hp h;rw[←Nat.add_assoc,hl]at h1;exact h1
end
end Go.Lg
namespace Go.Proofs.YtjcgijbhaemldaaGreatDoor
open Go.Lg
end Go.Proofs.YtjcgijbhaemldaaGreatDoor
namespace Go.Lg
open Go.Proofs.YtjcgijbhaemldaaGreatDoor
theorem Q8 {l:LI}{i:Nat}(h:i<l.length):l[i]=cget l i:=by simp[cget,List.getD,h]
section
variable {P:Program}{ops l:List Oper}{K:Fr→World→Prop}{f:Fr}{w:World}{d:Option Nat}{ty:Nat}{ps:String}{af:Array Edge}{gd:Option (Nat×Bool)}{C:World→Prop}{pl:List (Nat×Bool)}{i0:Nat}
theorem xic {x y:Operand}{t e bys:Nat}{z:Value}[Sl P t e 1 bys z]{L:LN}{li:LI}{v:Value}{k:IntKind}{i:Nat}
  (h:QJ L w.heap v li) (E:ev f x=v) (hy:ev f y=.int k i) (hi:i<li.length)
  (G:∀a,At L w.heap a [.int .i64 (cget li i)]→XL P ops K l (QW f d (.pointer (some a))) w) (H:Yd ops f ⟨d,.indexAddr t x y,ty,ps,af,gd⟩=true:=by rfl):
  XL P ops K (⟨d,.indexAddr t x y,ty,ps,af,gd⟩::l) f w :=
 xii h E hy hi (λa ha=>G a (by rw[←Q8 hi];exact ha)) H
theorem pic {x y:Operand}{t e bys:Nat}{z:Value}[Sl P t e 1 bys z]{L:LN}{li:LI}{v:Value}{H:Array Obj}{k:IntKind}{i:Nat}
  (E:QL ops i0=⟨d,.indexAddr t x y,ty,ps,af,gd⟩) (h:QJ L H v li) (G:ev f x=v) (hy:ev f y=.int k i) (hi:i<li.length)
  (I:∀a,At L H a [.int .i64 (cget li i)]→XP P ops C K pl (QW f d (.pointer (some a))) w) (J:Yd ops f (QL ops i0)=true:=by rfl):XP P ops C K ((i0,true)::pl) f w :=
 pii E h G hy hi (λa ha=>I a (by rw[←Q8 hi];exact ha)) J
theorem jk {t:Nat}[h1:XX P t]{x y:Operand}{base e g cap i:Nat}{li:LI}{v:Value}{u:Int}(h:Qt e base w v li)(E:v=.slice (some ⟨g,0,none⟩) li.length cap)(hx:ev f x=.pointer (some ⟨g,0+i*1,none⟩))(hy:ev f y=.int .i64 u)(hi:i<li.length)
  (G:∀w',Step (ob v) w w'→Qt e base w' v (li.set i u)→K (QW f d undef) w'):XO P ⟨d,.store t x y,ty,ps,af,gd⟩ f w K:=by
 have h':=h;unfold Qt at h';rw[E]at h';refine QbU h' hx hy hi O λw' hs H=>G w' (by rw[E];exact hs) ?_;unfold Qt;rw[MW,Nt,E];exact H
end
theorem QhH {a n:Nat}(h:a<n):List.range' a (n - a)=a::List.range' (a+1) (n - (a+1)):=by
 rw[show n - a=(n - (a+1))+1 by omega,Nh]
theorem Qk6 {a n:Nat}(h:n≤a):List.range' a (n - a)=[]:=by rw[show n - a=0 by omega];rfl
end Go.Lg
namespace Go.Proofs.YtjcgijbhaemldaaGreatDoor
open Go.Lg
end Go.Proofs.YtjcgijbhaemldaaGreatDoor
namespace Go.Lg
section
variable {P:Program}{f:Fr}{w:World}{d:Option Nat}{ty:Nat}{ps:String}{af:Array Edge}{gd:Option (Nat×Bool)}{κ:Type}[DecidableEq κ]
end
end Go.Lg
namespace Go.Proofs.YtjcgijbhaemldaaGreatDoor
open Go.Lg
theorem Qex {aa:List QD}{i:Nat}{t:LI}(G:∀a∈aa,QO a)(ht:Vt aa t):∀(vs:LI) (s E:Sy),U2 aa s→KG aa i t vs s=some E→U2 aa E
 | [],s,E,h,e=>by cases e;exact h
 | v::vs,s,E,h,e=>by
  rw[KG]at e;obtain⟨H,h1,h2⟩:=Mc.1 e;exact Qex G ht vs H E (Qhg G h ht h1) h2
theorem Qha {aa:List QD}(G:∀a∈aa,QO a):∀(f i:Nat) (s E:Sy),U2 aa s→j7 aa f i s=some E→U2 aa E
 | 0,i,s,E,h,e=>by cases e;exact h
 | f+1,i,s,E,h,e=>by
  rw[j7]at e;split at e
  ·rename_i hi;obtain⟨H,h1,h2⟩:=Mc.1 e;have I:Vt aa (UA s i):=h.v _ (by unfold UA;simp[List.getD,hi]);exact Qha G f _ H E (Qex G I _ _ _ (y8 h) h1) h2
  cases e;exact h
theorem QnB {aa:List QD}(E:∀a∈aa,QO a)(G:¬∃a∈aa,a.st=0):U2 aa (qg aa):=by
 refine⟨λt ht=>?_,by simp[qg]⟩;simp only[qg,List.mem_singleton]at ht;subst ht;refine⟨by simp,λi h1 h2=>?_⟩;have h3:=(E aa[i] (Lc h2)).st0;have h4:aa[i].st≠0:=λe=>G ⟨aa[i],Lc h2,e⟩;simp only[List.getElem_replicate];omega
theorem j5 {aa:List QD}(E:∀a∈aa,QO a){z:QD×List (LI)}(h:sync aa=some z):(∀t∈z.2,Vt aa t)∧z.2.length≤4096:=by
 unfold sync at h;split at h
 ·cases h;simp
 rename_i G;obtain⟨s,h1,rfl⟩:=L4.1 h;have:=Qha E _ _ _ _ (QnB E G) h1;exact⟨this.v,this.le⟩
def opC (p s:QD):Int:=if Xq p≠0 then Xq p else if Xq s≠0 then Xq s else if mrg (λp q=>p && !q) s.al p.al=[]then 0 else 9
def opE (p s:QD):Int:=if opC p s≠0 then opC p s else match sync [p,s]with|none=>3|some _=>0
def opQ (p s:QD):List (LI):=match sync [p,s]with|none=>[]|some z=>z.2
def QpN (l:LI):Int:=(l.drop 1).foldl max (cget l 0)
theorem Uz {N b:Nat}{w w':World}{v:Value}{a:QD}(h:JS N w.heap v a)(hb:b<N)(hs:Step [b] w w'):JS N w'.heap v a:=by
 obtain⟨va,vm,ve,h1,h2⟩:=h;refine⟨va,vm,ve,h1,λL E=>?_⟩;exact((h2 (b::L) (λc hc=>by rcases Le.1 hc with rfl|hc;exact hb;exact E c hc)).st (hs.mono (by simp))).up (λc hc=>.inl (Lk _ hc))
theorem Qj9 {N b:Nat}{w w':World}{v:Value}{l:List (LI)}(h:Qeb N w.heap v l)(hb:b<N)(hs:Step [b] w w'):Qeb N w'.heap v l:=by
 obtain⟨ps,h1,h2⟩:=h;refine⟨ps,h1,λL E=>?_⟩;exact((h2 (b::L) (λc hc=>by rcases Le.1 hc with rfl|hc;exact hb;exact E c hc)).st (hs.mono (by simp))).up (λc hc=>.inl (Lk _ hc))
theorem VS {N:Nat}{H:Array Obj}{v:Value}{a:QD}(h:JS N H v a):∃us,v=.agg us.toArray∧us.length=4∧ZM us:=by
 obtain⟨va,vm,ve,h1,h2⟩:=h;have:=h2 [] (by simp);exact⟨[va,.int .i64 a.st,vm,ve],h1,O,this.al.one,O,this.mr.one,this.ed.one,Z⟩
def gget:List ((Int×Int)×Int)→Int×Int→Option Int
 | [],_=>none
 | (k',v)::m,k=>if k'=k then some v else gget m k
def gput:List ((Int×Int)×Int)→Int×Int→Int→List ((Int×Int)×Int)
 | [],k,v=>[(k,v)]
 | (k',v')::m,k,v=>if k'=k then(k',v)::m else(k',v')::gput m k v
def QqE (s:QD)(cls:LI)(x:Nat)(m:List ((Int×Int)×Int))(v:Int):List ((Int×Int)×Int):=gput m (cget cls x,v) (cget cls (to0 s x v).toNat)
def QqB (s:QD)(l:List VV)(cls:LI)(z:LI×List ((Int×Int)×Int))(x:Nat):LI×List ((Int×Int)×Int):=
 if cget cls x<0 then z else(if((lget l x).mk' && (lget l x).ps)=true then Qnv z.1 (cget cls x)else z.1,(lget l x).en.foldl (QqE s cls x) z.2)
def QpA (s:QD)(l:List VV)(cls:LI):LI×List ((Int×Int)×Int):=(List.range' 0 cls.length).foldl (QqB s l cls) ([],[])
def QqD (m:List ((Int×Int)×Int))(c:Nat)(v:Int):Option Ed:=(gget m ((c:Int),v)).map λt=>((c:Int),v,t)
def QqC (m:List ((Int×Int)×Int))(al:LI)(n:Nat):List Ed:=(List.range' 0 n).flatMap λc=>al.filterMap (QqD m c)
def QqF (s:QD)(l:List VV)(cls:LI):QD:=⟨s.al,QpN cls+1,(QpA s l cls).1,QqC (QpA s l cls).2 s.al (QpN cls+1).toNat⟩
def red (p s:QD):QD:=QqF s (ctls p s (opQ p s)) (Qp6 p s (opQ p s))
def rdE (p s:QD):Int:=if opE p s≠0 then opE p s else if opQ p s=[]then 0 else Xq (red p s)
theorem Jl {l:LI}{i:Nat}(h:i<l.length):cget l i∈l:=by rw[←Q8 h];exact Lc h
theorem Zj {α:Type}(a:α){Q:Prop}(h:∀b,a=b→Q):Q:=h a O
theorem exN {a:Int}(E:0≤a){Q:Prop}(h:∀u:Nat,a=u→Q):Q:=h a.toNat (Int.toNat_of_nonneg E).symm
open Go.Proofs.Tryz
theorem y7 {L L':LN}{w:World}{v v':Value}{l l':LI}(h:QJ L w.heap v l)(h':QJ L' w.heap v' l'):
  QH prog 28 [v,v'] w λr w'=>r=.bool (decide (l=l'))∧Step [] w w':=by
 refine QH.of_W func28 O ntmps28 results28 (by simp) ?_;refine Qc<|Qf<|Qc<|Qb<|Qb<|xl O<|xf<|(Vj h h').mono ?_;rintro G H ⟨rfl,E⟩;refine Qf ?_;exact Ql ⟨[.bool (decide (l=l'))],La,O,E⟩
end Go.Proofs.YtjcgijbhaemldaaGreatDoor
namespace Go.Lg
section
variable {P:Program}{n:Nat}{f:Fr}{w:World}{d:Option Nat}{ty:Nat}{ps:String}{af:Array Edge}{gd:Option (Nat×Bool)}
class Ay (P:Program)(t:Nat)(m e sz:outParam Nat):Prop where
 u:P.underlying t=some (.array m e)
 i:(P.info? e).map (·.size)=some sz
theorem Xe {x y:Operand}{t m e sz:Nat}[h:Ay P t m e sz]{b o:Nat}{k:IntKind}{i:Nat}(hx:ev f x=.pointer (some ⟨b,o,none⟩))(hy:ev f y=.int k i)(h1:i<m):
  (execOp (ev f) ⟨d,.indexAddr t x y,ty,ps,af,gd⟩).run P w=.ok (.value (.pointer (some ⟨b,o+i*sz,none⟩))) w:=by
 have hi:=h.i;cases E:P.info? e with
 | none=>simp[E]at hi
 | some ii =>
  simp[E]at hi;simp[execOp,hx,hy,Instr.indexAt,asIntOf,run_underlying h.u,Instr.sureAddr,sizeOf,typeInfo,E,hi,YD];intro h2;omega
theorem QmM {a b:Nat}(ha:a<256):inK .u8 ((a &&& b:Nat):Int):=by
 have:a &&& b≤a:=Nat.and_le_left;exact⟨by omega,by omega⟩
theorem Qdx {t E:Nat}{x y:Operand}{a b:Nat}(hx:ev f x=.int .u8 a)(hy:ev f y=.int .u8 b)(ha:a<256)(hb:b<256):
  (execOp (ev f) ⟨d,.binOp .and t x y E,ty,ps,af,gd⟩).run P w=.ok (.value (.int .u8 ((a &&& b:Nat):Int))) w:=by
 refine XS hx hy ?_;simp only[binOp,Op.intBits,BitVec.ofInt_natCast,ne_eq,not_true_eq_false,if_false,Sem.run_pure];rw[BitVec.toNat_and,BitVec.toNat_ofNat,BitVec.toNat_ofNat,MC (show a<2 ^ IntKind.u8.bits from ha),MC (show b<2 ^ IntKind.u8.bits from hb),Xu (QmM ha)]
theorem qw (m i:Nat):((m:Int) / 2 ^ i)=((m / 2 ^ i:Nat):Int):=by rw[Int.natCast_ediv,Int.natCast_pow];rfl
end
inductive Pt where
 | pl (l:List (Nat×Bool))
 | fk (pre:List (Nat×Bool)) (i j:Nat) (t1 t2:Pt)
def Pt.len:Pt→Nat
 | .pl l=>l.length
 | .fk pre _ _ t1 _=>pre.length+(1+t1.len)
def Xy (all:Array Oper):List (Nat×Bool)→Array Bool→Bool
 | [],_=>true
 | (k,q)::pl,ls=>q && (Region.ready .any all ls).contains k && Region.free .any all ls k && Xy all pl (ls.setIfInBounds k true)
def Zw:List (Nat×Bool)→Array Bool→Array Bool
 | [],ls=>ls
 | (k,_)::pl,ls=>Zw pl (ls.setIfInBounds k true)
def QhW (all:Array Oper):Pt→Array Bool→Bool
 | .pl l,ls=>Y2 all l ls
 | .fk pre i j t1 t2,ls=>Xy all pre ls && Region.ready .any all (Zw pre ls) == [i,j] && t1.len == t2.len && QhW all t1 ((Zw pre ls).setIfInBounds i true) && QhW all t2 ((Zw pre ls).setIfInBounds j true)
def XT (P:Program)(all:List Oper)(C:World→Prop)(K:Fr→World→Prop):Pt→Fr→World→Prop
 | .pl l=>XP P all C K l
 | .fk pre i j t1 t2=>XP P all C (λf w=>(Yd all f (QL all i)=true∧XO P (QL all i) f w λE w'=>C w'∧XT P all C K t1 E w') ∧
   (Yd all f (QL all j)=true∧XO P (QL all j) f w λE w'=>C w'∧XT P all C K t2 E w')) pre
section
variable {P:Program}{n:Nat}{f:Fr}{w:World}{all:List Oper}{C:World→Prop}{K B:Fr→World→Prop}
theorem ZN:∀(pl:List (Nat×Bool)) (ls:Array Bool),(Zw pl ls).size=ls.size
 | [],_=>rfl
 | (k,q)::pl,ls=>by rw[Zw,ZN];simp
theorem ZP {m:Nat}(hs:Region.noSelect all.toArray=true):∀(pl:List (Nat×Bool)) (ls:Array Bool) (f:Fr) (w:World),C w→Xy all.toArray pl ls=true →
  (∀f,B f w→XA P all C K m (Zw pl ls) f w)→XP P all C B pl f w→XA P all C K (pl.length+m) ls f w
 | [],ls,f,w,hC,hp,G,h=>by
  simp only[XP]at h;rw[List.length_nil,LR];exact G f h
 | (H,q)::pl,ls,f,w,hC,hp,G,h=>by
  simp only[Xy,Bool.and_eq_true]at hp;obtain⟨⟨⟨rfl,hr⟩,hf⟩,U⟩:=hp;simp only[XP]at h;have J:H∈Region.ready .any all.toArray ls:=by simpa using hr
  have e:(List.length ((H,true)::pl))+m=(pl.length+m)+1:=by simp;omega
  rw[e];cases E:all[H]? with
  | none =>
   exfalso;obtain⟨_,o,ha,_⟩:=mem_ready.1 J;simp[E]at ha
  | some o =>
   rw[Zh E]at h;have V:∀(j:Nat) (o:Oper) cs b,all[j]?=some o→o.op≠.select cs b:=λj o cs b hj=>Region.noSelect_spec hs j o cs b (by simpa using hj);have Y:=λj oj hj=>Region.free_spec (ops:=all.toArray) (md:=.any) (i:=H) (oi:=o) (listed:=ls) (by simpa using E) hf j oj (by simpa using hj);cases I:Yd all f o with
   | false =>
    rw[I]at h;exact XI (v:=undef) (D:=λw=>yB o=true→C w) E (λ_ h=>h) V _ ls f w (λ_=>hC) Y J (.inr ⟨I,O⟩) (ZP hs pl _ _ _ hC U G h)
   | true =>
    rw[I]at h;simp only[cond_true]at h;obtain⟨v,hv,hx⟩:=h;exact XI (v:=v) (D:=λw=>yB o=true→C w) E (λ_ h=>h) V _ ls f w (λ_=>hC) Y J (.inl ⟨I,hv⟩) (ZP hs pl _ _ _ hC U G hx)
theorem VN (hs:Region.noSelect all.toArray=true):∀(t:Pt) (ls:Array Bool) (f:Fr) (w:World),ls.size=all.length→C w→QhW all.toArray t ls=true→XT P all C K t f w→XA P all C K t.len ls f w
 | .pl l,ls,f,w,E,hC,hp,h=>Zz hs l ls f w E (.inl hC) hp h
 | .fk pre i j t1 t2,ls,f,w,E,hC,hp,h=>by
  simp only[QhW,Bool.and_eq_true,beq_iff_eq]at hp;obtain⟨⟨⟨⟨hq,G⟩,hl⟩,h1⟩,h2⟩:=hp;rw[Pt.len];refine ZP (B:=λf w=>(Yd all f (QL all i)=true∧XO P (QL all i) f w λH w'=>C w'∧XT P all C K t1 H w') ∧
   (Yd all f (QL all j)=true∧XO P (QL all j) f w λH w'=>C w'∧XT P all C K t2 H w')) hs pre ls f w hC hq (λf I=>?_) h
  have J:∀k,((Zw pre ls).setIfInBounds k true).size=all.length:=λk=>by simp[ZN,E]
  rw[MT 1];refine Y0 (λV=>(by rw[V]at G;cases G)) ?_;rw[G];intro k hk o U;simp only[List.mem_cons,List.not_mem_nil,or_false]at hk;rcases hk with rfl|rfl
  ·have:=I.1;rw[Zh U]at this;rw[this.1,cond_true];exact this.2.mono λv w' hx=>⟨.inr (.inr hx.1),VN hs t1 _ _ _ (J _) hx.1 h1 hx.2⟩
  have:=I.2;rw[Zh U]at this;rw[this.1,cond_true,hl];exact this.2.mono λv w' hx=>⟨.inr (.inr hx.1),VN hs t2 _ _ _ (J _) hx.1 h2 hx.2⟩
end
end Go.Lg
namespace Go.Proofs.YtjcgijbhaemldaaGreatDoor
open Go.Lg
theorem Z2.lt_of {a:Int}{l:LI}(h:Z2 (a::l)){x:Int}(hx:x∈l):a<x:=(L3.1 h).1 x hx
theorem Z2.tail {a:Int}{l:LI}(h:Z2 (a::l)):Z2 l:=(L3.1 h).2
theorem Qlp (keep:Bool→Bool→Bool):∀(n:Nat) (a b:LI),a.length+b.length≤n→Z2 a→Z2 b→∀x,x∈mrg keep a b↔(x∈a∨x∈b)∧keep (decide (x∈a)) (decide (x∈b))=true:=by
 intro n;induction n with
 | zero =>
  intro a b h _ _ x;have ha:a=[]:=Lr (by omega);have hb:b=[]:=Lr (by omega);subst ha hb;simp[Kd]
 | succ n ih =>
  intro a b E ia ib x;cases a with
  | nil =>
   cases b with
   | nil=>simp[Kd]
   | cons y b =>
    rw[JZ keep (by simp)];have:=ih [] b (by simp at E ⊢;omega) ia ib.tail x;have hy:y∉b:=λh=>by have:=ib.lt_of h;omega
    simp only[X2,tl,hx,cond_true,cond_false,List.tail_cons,List.headD_cons,List.mem_append];rw[this];by_cases e:x=y
    ·subst e;cases hk:keep false true <;> simp[hk,hy]
    cases keep false true <;> simp[e]
  | cons u a =>
   cases b with
   | nil =>
    rw[JZ keep (by simp)];have:=ih a [] (by simp at E ⊢;omega) ia.tail ib x;have hy:u∉a:=λh=>by have:=ia.lt_of h;omega
    simp only[X2,tl,hx,cond_true,cond_false,List.tail_cons,List.headD_cons,List.mem_append];rw[this];by_cases e:x=u
    ·subst e;cases hk:keep true false <;> simp[hk,hy]
    cases keep true false <;> simp[e]
   | cons y b =>
    rw[JZ keep (by simp)];have hu:u∉a:=λh=>by have:=ia.lt_of h;omega
    have hy:y∉b:=λh=>by have:=ib.lt_of h;omega
    rcases Int.lt_trichotomy u y with h1|h1|h1
    ·have G:u∉y::b:=λh=>by
      rcases Le.1 h with h|h
      ·omega
      have:=ib.lt_of h;omega
     have:=ih a (y::b) (by simp at E ⊢;omega) ia.tail ib x;have e1:decide (u≤y)=true:=decide_eq_true (by omega);have e2:decide (y≤u)=false:=decide_eq_false (by omega);simp only[X2,tl,hx,e1,e2,cond_true,cond_false,List.tail_cons,List.headD_cons,List.mem_append];rw[this];by_cases e:x=u
     ·subst e;cases hk:keep true false <;> simp[hk,hu,G]
     cases keep true false <;> simp[e]
    ·subst h1;have:=ih a b (by simp at E ⊢;omega) ia.tail ib.tail x;have e1:decide (u≤u)=true:=decide_eq_true (by omega);simp only[X2,tl,hx,e1,cond_true,List.tail_cons,List.headD_cons,List.mem_append];rw[this];by_cases e:x=u
     ·subst e;cases hk:keep true true <;> simp[hk,hu,hy]
     cases keep true true <;> simp[e]
    have G:y∉u::a:=λh=>by
     rcases Le.1 h with h|h
     ·omega
     have:=ia.lt_of h;omega
    have:=ih (u::a) b (by simp at E ⊢;omega) ia ib.tail x;have e1:decide (u≤y)=false:=decide_eq_false (by omega);have e2:decide (y≤u)=true:=decide_eq_true (by omega);simp only[X2,tl,hx,e1,e2,cond_true,cond_false,List.tail_cons,List.headD_cons,List.mem_append];rw[this];by_cases e:x=y
    ·subst e;cases hk:keep false true <;> simp[hk,hy,G]
    cases keep false true <;> simp[e]
theorem Kf {keep:Bool→Bool→Bool}{a b:LI}(ia:Z2 a)(ib:Z2 b)(x:Int):x∈mrg keep a b↔(x∈a∨x∈b)∧keep (decide (x∈a)) (decide (x∈b))=true :=
 Qlp keep _ a b (Lu _) ia ib x
def setK (m k:Nat):LI:=((List.range' 0 k).filter λi=>decide (((m / 2 ^ i) &&& 1)=1)).map λi:Nat=>(i:Int)
theorem UE (m k:Nat):setK m (k+1)=if(m / 2 ^ k) &&& 1=1 then setK m k++[(k:Int)]else setK m k:=by
 unfold setK;rw[Ml,L8,Lx,LR];by_cases h:(m / 2 ^ k) &&& 1=1
 ·rw[if_pos h,Mi,if_pos (decide_eq_true h)];rfl
 rw[if_neg h,Mi,if_neg (by rw[decide_eq_false h];simp),Nc,List.map_nil,LO]
theorem Jf (m:Nat):∀k,(setK m k).length≤k
 | 0=>by simp[setK]
 | k+1=>by
  have:=Jf m k;rw[UE];split
  ·simp;omega
  omega
theorem JV (m k:Nat):Z2 (setK m k):=by
 unfold setK Z2;rw[Mm];refine List.Pairwise.sublist MI ?_;exact(Na (s:=0) (n:=k)).imp (λh=>by omega)
end Go.Proofs.YtjcgijbhaemldaaGreatDoor
namespace Go.Lg
section
variable {P:Program}{f:Fr}{w:World}{K:Fr→World→Prop}{d:Option Nat}{ty:Nat}{ps:String}{af:Array Edge}{gd:Option (Nat×Bool)}
theorem qh {t ty e sz bys:Nat}{z:Value}[h:Sl P t e sz bys z]{base:Nat}{v:Value}{n:Nat}{cs:LV}(E:w.ownsRow base e sz v n cs):
  (Builtin.append_ #[t,t] ty #[v,nS]).run P w=.ok v w:=by
 obtain⟨i,hi,_,H,_⟩:=Sl.info h;rcases E.2 with⟨rfl,rfl⟩|⟨g,cap,cur,rfl,I,J,G,U,V,Y⟩
 ·simp[Builtin.append_,run_underlying h.u,sizeOf,typeInfo,hi,Builtin.lenOf,Builtin.firstCells]
 simp[Builtin.append_,run_underlying h.u,sizeOf,typeInfo,hi,Builtin.lenOf,Builtin.firstCells,G,storeCells]
theorem QdA {t e sz bys:Nat}{z:Value}[h:Sl P t e sz bys z]{s y:Operand}{base:Nat}{v:Value}{n:Nat}{cs:LV}(E:w.ownsRow base e sz v n cs)(hs:ev f s=v)
  {H:Value} {m:Nat} {news:LV} {L:LN} (G:Zy L w.heap H m sz news) (hy:ev f y=H) (h1:∀u∈news,u.oneCell'=true)
  (hb:n+m≤1099511627776) (J:base≤w.heap.size)
  (I:∀v' w',w'.ownsRow base e sz v' (n+m) (cs++news)→Step (ob v) w w'→(∀b∈ob v',b∈ob v∨w.heap.size≤b)→K (QW f d v') w') (U:bys≤128:=by decide):
  XO P ⟨d,.call ⟨.builtin .append,#[s,y],#[t,t]⟩,ty,ps,af,gd⟩ f w K:=by
 rcases G.2.2 with⟨e1,e2⟩|⟨a,c,e1,_,e3⟩
 ·subst e2;have V:news=[]:=Lr (by have:=G.1;simpa using this);subst V;have Y:(execOp (ev f) ⟨d,.call ⟨.builtin .append,#[s,y],#[t,t]⟩,ty,ps,af,gd⟩).run P w=.ok (.value v) w:=by
   simp[execOp,resolve,invoke,builtin,hs,hy,e1,qh (ty:=ty) E]
  exact xv Y (I v w (by simpa using E) (Step.refl _ _) (λb hb=>.inl hb))
 exact Q4 E hs (hy.trans e1) G.1 e3 h1 hb J I U
end
end Go.Lg
namespace Go.Proofs.YtjcgijbhaemldaaGreatDoor
open Go.Proofs.Tryz
open Go.Lg
theorem Qfm {L:LN}{w:World}{v:Value}{l:LI}(h:QJ L w.heap v l)(x:Int):
  QH prog 126 [v,.int .i64 x] w λr w'=>r=.bool (decide (x∈l))∧w'=w:=by
 have J:=h.le;refine QH.of_W func126 O ntmps126 results126 (by simp) ?_;refine Qc<|Lg.Qf<|Qg<|Qc<|Lg.Qf<|Qh<|Qz (α:=Nat) [(4,17)] (λk=>[(5,.int .i64 k)]) (λk w'=>w'=w∧k≤l.length∧(x∈l↔x∈l.drop k)) (λk=>l.length - k) (by rfl) 0 La ⟨O,Ll _,by simp⟩ ?_;rintro k g w' ⟨rfl,hk,hm⟩;refine Qg<|Qc<|Lg.Qb<|Lg.Qb<|Lg.x (Qr h O)<|Lg.x (QA O O)<|xe<|QC rfl (λh9=>?_) (λh9=>?_)
 ·refine Qy<|Qc<|Lg.Qf<|Ql ⟨[.bool false],La,?_,O⟩;rw[Lv (by omega)]at hm;simp[tup,hm]
 have H:k<l.length:=by omega
 have hd:=Q5 H;refine Qi<|Qg<|Qh<|Qc<|Lg.Qb<|Lg.Qb<|xii h O O H λU I=>Lg.x (Qv I O)<|Lg.Qb<|Lg.x (Zr O O)<|xe<|Q3 rfl (λG=>?_) (λG=>?_)
 ·refine Qc<|Lg.Qf<|Ql ⟨[.bool true],La,?_,O⟩;have:x∈l:=by rw[hm,hd,G];exact Lm
  simp[tup,this]
 refine Qi<|Qw<|Lg.Qb<|Lg.QP O O<|Lg.Qf<|⟨k+1,by omega,La,O,by omega,?_⟩;rw[hm,hd,Le];exact⟨λh=>h.resolve_left (λe=>G e.symm),.inr⟩
theorem Qbz {L:LN}{w:World}{va vm ve:Value}{a:QD}(h:qe L w.heap ve a.ed)(s e:Int)(st:Int):
  QH prog 127 [.agg #[va,.int .i64 st,vm,ve],.int .i64 s,.int .i64 e] w λr w'=>r=.int .i64 (nxt a.ed s e)∧Step [] w w':=by
 have hf:=h.le;refine QH.of_W func127 O ntmps127 results127 (by simp) ?_;refine Qc<|xl O<|QR (us:=[va,.int .i64 st,vm,ve]) O λb3 Y J hg G=>Lg.Qf ?_
 replace h:=h.ext J;refine Qg<|Qc<|Lg.Qf<|Qh<|Qz (α:=Nat) [(6,38)] (λk=>[(7,.int .i64 k)]) (λk w'=>w'=Y∧k≤a.ed.length∧nxt (a.ed.drop k) s e=nxt a.ed s e) (λk=>a.ed.length - k) (by rfl) 0 La ⟨O,Ll _,O⟩ ?_;rintro k g w2 ⟨rfl,hk,H⟩;refine Qg<|Qc<|Lg.Qb<|Lg.x (Qa O)<|Lg.x (Qd G O O)<|Lg.x (Qr h O)<|Lg.x (QA O O)<|xe<|QC rfl (λha=>?_) (λha=>?_)
 ·refine Qy<|Qc<|Lg.Qf<|Ql ⟨[.int .i64 (-1)],La,?_,J⟩;rw[Lv (by omega)]at H;rw[←H];rfl
 have I:k<a.ed.length:=by omega
 have hd:=Q5 I;refine Qi<|Qg<|Qh<|QX (α:=Bool) [(15,32)] (λz=>[(32,.bool z)]) (λz w'=>w'=w2∧z=decide (a.ed[k].1=s∧a.ed[k].2.1=e)) (by rfl) ?_ ?_
 ·refine Qw<|Lg.x (Qa O)<|Lg.x (Qd G O O)<|Lg.Qb<|xie h O O I λhh hb=>Lg.x (Zf O)<|Lg.x (Qv (hb.fld 0 _ O) O) <|
   Lg.Qb<|xb (Zr O O) (λU=>?_) (λU=>?_)
  ·refine Lg.Qb<|Lg.x (Qa O)<|Lg.x (Qd G O O)<|Lg.Qb<|xie h O O I λhi hc=>Lg.x (Zf O)<|Lg.x (Qv (hc.fld 1 _ O) O) <|
    Lg.Qb<|Lg.x (Zr O O)<|Lg.x (Qp O)<|xe ?_
   exact⟨_,La,O,by simp[U]⟩
  refine Lg.Qb<|xs O<|xs O<|xs O<|xs O<|xs O<|xs O<|xs O<|xs O<|Lg.x (Qp O)<|xe ?_;exact⟨_,La,O,by simp[U]⟩
 rintro z g w3 ⟨rfl,rfl⟩;refine Q3 rfl (λV=>?_) (λV=>?_)
 ·refine Qc<|Lg.x (Qa O)<|Lg.x (Qd G O O)<|Lg.Qb<|xie h O O I λhj he=>Lg.x (Zf O)<|Lg.x (Qv (he.fld 2 _ O) O) <|
   Lg.Qf<|Ql ⟨[.int .i64 a.ed[k].2.2],La,?_,J⟩
  rw[←H,hd,nxt,if_pos V];rfl
 refine Qi<|Qw<|Lg.Qb<|Lg.QP O O<|Lg.Qf<|⟨k+1,by omega,La,O,by omega,?_⟩;rw[←H,hd,nxt,if_neg V]
def zC (l:LI)(n:Int):Int:=if n∈l then(l.idxOf n:Int)else -1
theorem QiQ {l:LI}{n:Int}{k:Nat}(h:n∉l.take k)(hk:k<l.length)(he:cget l k=n):zC l n=k:=by
 have hm:n∈l:=by rw[←he,←Q8 hk];exact Lc hk
 unfold zC;rw[if_pos hm];have hs:l=l.take k++l.drop k:=(MQ k l).symm;have:l.idxOf n=k:=by
  rw[hs,Mn,if_neg h,LQ hk,List.idxOf_cons,show l[k]=n by rw[Q8 hk];exact he];simp;omega
 rw[this]
theorem Qgr {L:LN}{w:World}{v:Value}{l:LI}(h:QJ L w.heap v l)(n:Int):
  QH prog 128 [v,.int .i64 n] w λr w'=>r=.int .i64 (zC l n)∧w'=w:=by
 have J:=h.le;refine QH.of_W func128 O ntmps128 results128 (by simp) ?_;refine Qc<|Qf<|Qg<|Qc<|Qf<|Qh<|Qz (α:=Nat) [(4,18)] (λz=>[(5,.int .i64 z)]) (λz w'=>w'=w∧z≤l.length∧n∉l.take z) (λz=>l.length - z) (by rfl) 0 La ⟨O,Ll _,by simp⟩ ?_;rintro k g U ⟨rfl,hk,hm⟩;refine Qg<|Qc<|Qb<|Qb<|x (Qr h O)<|x (QA O O)<|xe<|QC rfl (λh9=>?_) (λh9=>?_)
 ·refine Qy<|Qc<|Qf ?_;rw[Lp (by omega)]at hm;exact Ql ⟨[.int .i64 (-1)],La,by unfold zC;rw[if_neg hm];rfl,O⟩
 have G:k<l.length:=by omega
 refine Qi<|Qg<|Qh<|Qc<|Qb<|Qb<|xic (i:=k) h O O G λV I=>x (Qv I O)<|Qb<|x (Zr O O)<|xe<|Q3 rfl (λH=>?_) (λH=>?_)
 ·refine Qc<|Qb<|Qf ?_;exact Ql ⟨[.int .i64 k],La,by rw[QiQ hm G H];rfl,O⟩
 refine Qi<|Qw<|Qb<|QP O O<|Qf<|⟨k+1,by omega,La,O,G,?_⟩;rw[Li G,Q8 G];simp only[List.mem_append,List.mem_singleton,not_or];exact⟨hm,λe=>H e.symm⟩
theorem UR {L:LN}{w:World}{v:Value}{l:LI}(h:QJ L w.heap v l)(hl:l.length≤1000000):
  QH prog 70 [v] w λr w'=>Step [] w w'∧∃va,r=.agg #[va,.int .i64 0,nS,nS]∧Qt 3 w.heap.size w' va l:=by
 refine QH.of_W func70 O ntmps70 results70 (by simp) ?_;refine Qc<|xl O<|Qu (us:=[nS,.int .i64 0,nS,nS]) O λb2 G V hf Y=>xe ?_;have hg:=V.size;have hh:=Y.lt;refine Qc<|xl O<|VG λb3 w2 H hi hj=>Qb<|?_;have ha:=V.trans H;have hq:=H.size;have I:w2.ownsRow G.heap.size 3 1 (.slice (some ⟨b3,0,none⟩) 0 0) 0 []:=hj.own (n:=0) (sz:=1) O (by omega) hi
 refine xl rfl<|QdA I O (h.ext ha) O (zk l) (by omega) (by omega) λva J hk hc hr=>?_;have U:Qt 3 G.heap.size J va l:=by
  have:J.ownsRow G.heap.size 3 1 va (0+l.length) ([]++l.map (.int .i64)):=hk;rw[LR,Mr]at this;exact this
 have hA:=Qt.ints (L:=[]) U (by omega) (by simp);have hm:=(Y.ext H).step hc (Q0 I hh);have hn:Step [] w J:=ha.then hc (λb hb=>.inr (by have:=(Qq I b hb).1;omega));refine x (QM ⟨hA.cells,Z⟩)<|xl O<|Qn (us:=[va,.int .i64 0,nS,nS]) hm O O O O ⟨hA.one,O,O,O,Z⟩ λw4 he ho=>xe ?_;have hp:=Qm U he (λb hb=>by have:=(Qq U b hb).1;simp;omega)
 exact Ql ⟨[.agg #[va,.int .i64 0,nS,nS]],⟨⟨_,O,Qx O (ho.at (L:=[]) (by simp)).cells⟩,Z⟩,hn.then1 he hf,va,rfl,Zd hp hg⟩
theorem pig:∀(n:Nat) (l:LI),l.Nodup→(∀x∈l,0≤x∧x<n)→l.length≤n
 | 0,l,_,h=>by
  cases l with
  | nil=>simp
  | cons a l=>have:=h a Lm;omega
 | n+1,l,hd,h=>by
  by_cases hm:(n:Int)∈l
  ·have h1:=pig n (l.erase (n:Int)) (hd.erase _) (λx hx=>by
    have h2:=(List.Nodup.mem_erase_iff hd).1 hx;have h3:=h x h2.2;have h4:x≠(n:Int):=h2.1;omega)
   rw[List.length_erase_of_mem hm]at h1;omega
  have:=pig n l hd (λx hx=>by
   have h3:=h x hx;have h4:x≠(n:Int):=λe=>hm (by rw[←e];exact hx);omega)
  omega
def VT (a:QD)(s:Int)(out:LI)(v:Int):LI:=if 0≤nxt a.ed s v∧nxt a.ed s v∉out then out++[nxt a.ed s v]else out
def fdR (a:QD)(out:LI)(s:Int):LI:=a.al.foldl (VT a s) out
def jE (a:QD):Nat→Nat→LI→LI
 | 0,_,out=>out
 | f+1,i,out=>if i<out.length then jE a f (i+1) (fdR a out (cget out i))else out
def fd0 (a:QD):LI:=if 0<a.st then[0]else[]
def found (a:QD):LI:=jE a a.st.toNat 0 (fd0 a)
structure qt (a:QD)(out:LI):Prop where
 b:∀x∈out,0≤x∧x<a.st
 d:out.Nodup
theorem qt.len {a:QD}{out:LI}(h:qt a out)(G:0≤a.st):out.length≤a.st.toNat:=pig _ _ h.d (λx hx=>by have:=h.b x hx;omega)
theorem Vf {es:List Ed}{s v:Int}(h:0≤nxt es s v):(s,v,nxt es s v)∈es:=by
 induction es with
 | nil=>simp[nxt]at h
 | cons e es ih =>
  rw[nxt]at h ⊢;split at h
  ·rename_i he;rw[if_pos he];obtain⟨p,q,r⟩:=e;obtain⟨h1,h2⟩:=he;simp only[]at h1 h2;subst h1 h2;exact Lm
  rename_i he;rw[if_neg he];exact Lk _ (ih h)
theorem Qjd {a:QD}(G:QO a){out:LI}(h:qt a out)(s v:Int):qt a (VT a s out v):=by
 unfold VT;split
 ·rename_i hc;have hm:=G.ed _ (Vf hc.1);refine⟨λx hx=>?_,?_⟩
  ·rcases Lo.1 hx with hx|hx
   ·exact h.b x hx
   simp only[List.mem_singleton]at hx;subst hx;exact⟨hc.1,hm.2.2.2.2⟩
  rw[Mx];refine⟨h.d,by simp,λx hx y hy=>?_⟩;simp only[List.mem_singleton]at hy;subst hy;exact λe=>hc.2 (by rw[←e];exact hx)
 exact h
theorem Ql2 {a:QD}{out:LI}{s v:Int}:∀x∈out,x∈VT a s out v:=λx hx=>by unfold VT;split;exact Ly _ hx;exact hx
theorem Qov {a:QD}{out:LI}{s v:Int}(h:0≤nxt a.ed s v):nxt a.ed s v∈VT a s out v:=by
 unfold VT;by_cases hm:nxt a.ed s v∈out
 ·rw[if_neg (λe=>e.2 hm)];exact hm
 rw[if_pos ⟨h,hm⟩];simp
theorem Qjb {a:QD}(G:QO a)(s:Int):∀(vs:LI) (out:LI),qt a out→qt a (vs.foldl (VT a s) out)
 | [],_,h=>h
 | v::vs,_,h=>Qjb G s vs _ (Qjd G h s v)
theorem QaV {a:QD}{s:Int}:∀(vs:LI) (out:LI),∀x∈out,x∈vs.foldl (VT a s) out
 | [],_,_,hx=>hx
 | _::vs,_,x,hx=>QaV vs _ x (Ql2 x hx)
theorem Qjc {a:QD}{s:Int}:∀(vs:LI) (out:LI),∀v∈vs,0≤nxt a.ed s v→nxt a.ed s v∈vs.foldl (VT a s) out
 | v::vs,out,u,hu,h=>by
  rcases Le.1 hu with rfl|hu
  ·exact QaV vs _ _ (Qov h)
  exact Qjc vs _ u hu h
theorem Qfr {a:QD}{s:Int}:∀(vs:LI) (out:LI),∃r,vs.foldl (VT a s) out=out++r
 | [],out=>⟨[],by simp⟩
 | v::vs,out=>by
  obtain⟨r,G⟩:=Qfr (a:=a) (s:=s) vs (VT a s out v);rw[LM,G];unfold VT;split
  ·exact⟨[nxt a.ed s v]++r,by simp⟩
  exact⟨r,O⟩
theorem yc {l r:LI}{i:Nat}(h:i<l.length):cget (l++r) i=cget l i:=by
 rw[←Q8 h,←Q8 (by simp;omega),LZ h]
def Cl (a:QD)(out:LI)(i:Nat):Prop:=∀j,j<i→j<out.length→∀v∈a.al,0≤nxt a.ed (cget out j) v→nxt a.ed (cget out j) v∈out
theorem Cl.next {a:QD}{out:LI}{i:Nat}(h:Cl a out i)(hi:i<out.length):Cl a (fdR a out (cget out i)) (i+1):=by
 intro j hj V v H G;obtain⟨r,U⟩:=Qfr (a:=a) (s:=cget out i) a.al out;have I:fdR a out (cget out i)=out++r:=U;have J:j<out.length:=by omega
 rw[I,yc J]at G ⊢;by_cases e:j=i
 ·subst e;have:=Qjc a.al out v H G;rw[←I];exact this
 exact Ly _ (h j (by omega) J v H G)
theorem Qja {a:QD}(G:QO a):∀(f i:Nat) (out:LI),qt a out→Cl a out i→i+f=a.st.toNat→qt a (jE a f i out)∧Cl a (jE a f i out) (jE a f i out).length
 | 0,i,out,h,hc,I=>by
  have:=h.len G.st0;exact⟨h,λj hj H=>hc j (by rw[jE]at hj;omega) H⟩
 | f+1,i,out,h,hc,I=>by
  rw[jE];split
  ·rename_i hi;exact Qja G f (i+1) _ (Qjb G _ _ _ h) (hc.next hi) (by omega)
  rename_i hi;exact⟨h,λj hj H=>hc j (by omega) H⟩
theorem Qje (a:QD):qt a (fd0 a):=by
 unfold fd0;split
 ·rename_i h;exact⟨λx hx=>by simp only[List.mem_singleton]at hx;subst hx;exact⟨by omega,h⟩,by simp⟩
 exact⟨by simp,by simp⟩
theorem Ug {a:QD}(H:QO a):qt a (found a)∧∀s∈found a,∀v∈a.al,0≤nxt a.ed s v→nxt a.ed s v∈found a:=by
 obtain⟨h1,h2⟩:=Qja H a.st.toNat 0 (fd0 a) (Qje a) (λj hj=>by omega) (by omega);refine⟨h1,λs hs v I G=>?_⟩;obtain⟨j,hj,rfl⟩:=LB hs;have:=h2 j hj hj v I;unfold found at hj G ⊢;rw[Q8 hj]at G ⊢;exact this G
def Kn (a:QD)(fd:LI)(i:Nat)(v:Int):Option Ed:=if 0≤nxt a.ed (cget fd i) v then some ((i:Int),v,zC fd (nxt a.ed (cget fd i) v))else none
def YI (a:QD)(fd:LI)(n:Nat):LI:=((List.range' 0 n).filter λi=>decide (cget fd i∈a.mr)).map λi:Nat=>(i:Int)
def Y5 (a:QD)(fd:LI)(n:Nat):List Ed:=(List.range' 0 n).flatMap λi=>a.al.filterMap (Kn a fd i)
def YO (a:QD):QD:=⟨a.al,(found a).length,YI a (found a) (found a).length,Y5 a (found a) (found a).length⟩
theorem X0 {β:Type}{r:Int→Int→Prop}{q:β→β→Prop}{g:Int→Option β}(G:∀x y u v,r x y→g x=some u→g y=some v→q u v):∀{l:LI},l.Pairwise r→(l.filterMap g).Pairwise q
 | [],_=>by simp
 | x::l,h=>by
  obtain⟨h1,h2⟩:=L3.1 h;rw[MB];split
  ·exact X0 G h2
  rename_i u hu;refine L3.2 ⟨λv H=>?_,X0 G h2⟩;obtain⟨y,hy,I⟩:=MG.1 H;exact G x y u v (h1 y hy) hu I
theorem Qa7 {a:QD}(H:QO a):QO (YO a)∧(YO a).al=a.al∧(YO a).st≤a.st:=by
 obtain⟨h1,h2⟩:=Ug H;have hl:=h1.len H.st0;have h0:=H.st0;have h4:=H.st1;refine⟨⟨H.al,H.ali,by simp[YO],by simp only[YO];omega,λs hs=>?_,?_,λe he=>?_,?_⟩,O,by simp only[YO];omega⟩
 ·simp only[YO,YI,List.mem_map,List.mem_filter,List.mem_range'_1]at hs;obtain⟨i,⟨hi,_⟩,rfl⟩:=hs;simp only[YO];omega
 ·simp only[YO,YI];unfold Z2;rw[Mm];refine List.Pairwise.sublist MI ?_;exact(Na (s:=0) (n:=(found a).length)).imp (λh=>by omega)
 ·simp only[YO,Y5,List.mem_flatMap,List.mem_filterMap,List.mem_range'_1]at he;obtain⟨i,⟨_,hi⟩,v,I,G⟩:=he;unfold Kn at G;split at G
  ·rename_i U;cases G
   have J:i<(found a).length:=by omega
   have hm:=h2 (cget (found a) i) (by rw[←Q8 J];exact Lc J) v I U;have hx:=LS hm;simp only[YO];unfold zC;rw[if_pos hm];exact⟨by omega,by omega,I,by omega,by omega⟩
  cases G
 simp only[YO,Y5];have key:∀(is:LN),is.Pairwise (·<·)→(is.flatMap λi=>a.al.filterMap (Kn a (found a) i)).Pairwise λx y:Ed=>x.1<y.1∨(x.1=y.1∧x.2.1<y.2.1):=by
  intro is;induction is with
  | nil=>intro _;simp
  | cons i is ih =>
   intro hp;obtain⟨p1,p2⟩:=L3.1 hp;rw[LW,MF];have from_i:∀(i:Nat) (e:Ed),e∈a.al.filterMap (Kn a (found a) i)→e.1=i:=by
    intro i e he;obtain⟨v,_,G⟩:=MG.1 he;unfold Kn at G;split at G
    ·cases G;rfl
    cases G
   refine⟨?_,ih p2,λe he V Y=>?_⟩
   ·refine X0 (r:=(·<·)) (λx y u v ha hu I=>?_) H.ali;unfold Kn at hu I;split at hu
    ·cases hu;split at I
     ·cases I;exact .inr ⟨O,ha⟩
     cases I
    cases hu
   obtain⟨j,hj,hb⟩:=MO.1 Y;have e1:=from_i i e he;have e2:=from_i j V hb;have:=p1 j hj;left;omega
 exact key _ (Na (s:=0) (n:=(found a).length))
set_option maxHeartbeats 1000000 in
theorem Qgs {L:LN}{w:World}{va vm ve:Value}{a:QD}(h:Zm L w.heap va vm ve a)(ho:QO a):
  QH prog 125 [.agg #[va,.int .i64 a.st,vm,ve]] w λr w'=>Step [] w w'∧Qt 3 w.heap.size w' r (found a):=by
 have h0:=ho.st0;have h1:=ho.st1;have hU:=ho.al_le;refine QH.of_W func125 O ntmps125 results125 (by simp) ?_;refine Qc<|xl O<|QR (us:=[va,.int .i64 a.st,vm,ve]) O λb1 U hh hV hs=>Qf<|Qc<|Qf ?_;have h8:=hh.size;refine QX (α:=Value) [(3,3),(7,12)] (λz=>[(3,z)]) (λz w'=>Step [] U w'∧Qt 3 U.heap.size w' z (fd0 a)) (by rfl) ?_ ?_
 ·refine Qc<|x (Qa O)<|x (Qd hs O O)<|x (ZR O O)<|xe<|QC O (λh9=>?_) (λh9=>?_)
  ·refine Qi ?_;exact⟨nS,La,Step.refl _ _,by unfold fd0;rw[if_neg h9];exact QN _ _ _ _⟩
  refine Qw<|Qb<|xl O<|QG (us:=[[.int .i64 0]]) O O (by decide) (by simp) ⟨rfl,rfl,Z⟩ λb11 w2 hv hW hA=>?_;have hn:w2.ownsRow U.heap.size 3 1 (nS) 0 []:=QN _ _ _ _;have hX:=hv.size;refine xl O<|Q4 (news:=[.int .i64 0]) (L:=[]) hn O O O (hA.at (by simp)) (by simp[Value.oneCell']) (by omega) (by omega) λv3 w3 hB hC hY =>
   Qf<|⟨v3,La,hv.then hC (λb hb=>by simp[ob]at hb),?_⟩
  unfold fd0;rw[if_pos h9];exact hB
 rintro v0 g4 w4 ⟨hD,hE⟩;refine Zj (found a) λT hT=>?_;have hF:jE a a.st.toNat 0 (fd0 a)=T:=hT;refine Qg<|Qc<|Qf<|Qh<|Qz (α:=Nat×LI×Value) [(3,6),(13,48)] (λz=>[(3,z.2.2),(4,.int .i64 z.1)])
  (λz w'=>Step [] U w'∧Qt 3 U.heap.size w' z.2.2 z.2.1∧qt a z.2.1∧z.1≤z.2.1.length∧jE a (a.st.toNat - z.1) z.1 z.2.1=T) (λz=>a.st.toNat - z.1) (by rfl) (0,fd0 a,v0) ⟨O,O,Z⟩
  ⟨hD,hE,Qje a,Ll _,hF⟩ ?_
 rintro⟨i,out,v⟩ g5 w5 ⟨hj,V,G,hi,Y⟩;simp only[]at V G hi Y;have hw:=G.len h0;have hy:=Qt.ints (L:=[]) V (by omega) (by simp);refine Qg<|Qc<|Qb<|Qb<|x (Qr hy O)<|x (QA O O)<|xe<|QC rfl (λhz=>?_) (λhz=>?_)
 ·have e:out=T:=by
   rw[←Y];generalize a.st.toNat - i=f;cases f with
   | zero=>rfl
   | succ f=>rw[jE,if_neg (by omega)]
  refine Qy<|Qc<|Qb<|Qf ?_;rw[e]at V;exact Ql ⟨[v],La,hh.trans hj,by rw[hT];exact Zd V h8⟩
 have I:i<out.length:=by omega
 have hG:a.st.toNat - i=(a.st.toNat - (i+1))+1:=by omega
 rw[hG,jE,if_pos I]at Y;refine Zj (cget out i) λs J=>?_;rw[J]at Y;refine Zj (fdR a out s) λR hR=>?_;rw[hR]at Y;unfold fdR at hR;refine Qi<|Qg<|Qh<|Qc<|Qf<|Qh<|Qz (α:=Nat×LI×Value) [(3,3),(5,6),(19,48)] (λz=>[(3,z.2.2),(5,.int .i64 z.1)])
  (λz w'=>Step [] U w'∧Qt 3 U.heap.size w' z.2.2 z.2.1∧qt a z.2.1∧z.1≤a.al.length∧i<z.2.1.length∧cget z.2.1 i=s∧(a.al.drop z.1).foldl (VT a s) z.2.1=R) (λz=>a.al.length - z.1) (by rfl) (0,out,v) ⟨O,O,Z⟩
  ⟨hj,V,G,Ll _,I,J,hR⟩ ?_
 clear hj V G hi hw hy I J hR hz;rintro⟨k,out,v⟩ g6 w6 ⟨ha,he,G,hk,I,J,H⟩;simp only[]at he G hk I J H;have hw:=G.len h0;have h2:=(h.al.ext hh).ext ha;have hl:=hs.ext ha;have h3:=Qt.ints (L:=[]) he (by omega) (by simp);refine Qg<|Qc<|Qb<|x (Qa O)<|x (Qd hl O O)<|x (Qr h2 O)<|x (QA O O)<|xe<|QC rfl (λhH=>?_) (λhH=>?_)
 ·refine Qy<|Qw<|Qb<|QP O O<|Qf ?_;rw[Lv (by omega)]at H;have hI:out=R:=H;exact⟨(i+1,out,v),by simp only[];omega,⟨O,O,Z⟩,ha,he,G,I,by simp only[];rw[hI];exact Y⟩
 have hf:k<a.al.length:=by omega
 rw[LQ hf,LM,Q8 hf]at H;refine Zj (cget a.al k) λu hu=>?_;rw[hu]at H;have hJ:=(h.ed.ext hh).ext ha;refine Zj (nxt a.ed s u) λt ht=>?_;have hK:VT a s out u=if 0≤t∧t∉out then out++[t]else out:=by unfold VT;rw[ht]
 have hm:=Qjd ho G s u;rw[hK]at H hm;refine Qi<|Qg<|Qh<|Qg<|QU (Step [] w6) [(0,true),(1,true),(2,true),(3,true),(4,true),(5,true),(6,true),(7,true),(8,true),(9,true),(10,false),(11,true)] mixed (by rfl) (by kernel_rfl) (Step.drew _ _) ?_;refine pq (λ_ hc=>Qo (hl.ext hc) O O)<|p (λ_=>Qk)<|p (λ_=>Qk)<|pic (i:=i) O h3 O O I λhZ h4=>?_;rw[J]at h4
 refine pq (λ_ hc=>Qv (h4.ext hc) O)<|p (λ_=>Qa O)<|pq (λ_ hc=>Qd (hl.ext hc) O O)<|p (λ_=>Qk) <|
  pic (i:=k) O h2 O O hf λga h5=>?_
 rw[hu]at h5;have hsr:=Qbz (va:=va) (vm:=vm) (a:=a) (hJ.ext (Step.drew [] w6)) s u a.st;rw[ht]at hsr;refine pq (λ_ hc=>Qv (h5.ext hc) O)<|pk<|xf<|hsr.mono ?_;rintro r7 w7 ⟨rfl,hL⟩;have hg:=(Step.drew [] w6).trans hL;refine⟨hg,p (λ_=>Qe)<|pe ?_⟩;have h6:=Qs he hg;have hM:=h3.ext hg
 refine QX (α:=Unit) [(37,44)] (λz=>[(44,.bool (decide (0≤t∧t∉out)))]) (λz w'=>w'=w7) (by rfl) ?_ ?_
 ·refine Qw<|Qb<|xb (ZV O O) (λhp=>?_) (λhp=>?_)
  ·refine Qb<|Qb<|Qb<|xl O<|xf<|(Qfm hM t).mono ?_;rintro r8 w8 ⟨rfl,rfl⟩;refine x (Zt O)<|x (Qp O)<|xe<|⟨(),⟨congrArg Value.bool ?_,Z⟩,O⟩;show(!decide (t∈out))=_;rw[Bool.eq_iff_iff];simp[hp]
  refine Qb<|xs O<|xs O<|xs O<|xs O<|x (Qp O)<|xe ?_;exact⟨(),⟨congrArg Value.bool (decide_eq_false (λe=>hp e.1)).symm,Z⟩,O⟩
 rintro _ g9 w9 rfl;refine QC rfl (λhq=>?_) (λhq=>?_)
 ·rw[if_neg hq]at H;refine Qi<|Qw<|Qb<|QP O O<|Qf ?_;exact⟨(k+1,out,v),by simp only[];omega,⟨O,O,Z⟩,ha.trans hg,h6,G,hf,I,J,H⟩
 rw[if_pos hq]at H hm;have h7:=ha.trans hg;have gb:=h7.size;refine Qw<|Qb<|Qb<|xl O<|QG (us:=[[.int .i64 t]]) O O (by decide) (by simp) ⟨rfl,rfl,Z⟩ λgc ge hr gg hN=>?_;have hO:=Qs h6 hr;have gh:=hr.size;refine xl rfl<|Q4 (news:=[.int .i64 t]) (L:=[]) hO O O O (hN.at (by simp)) (by simp[Value.oneCell']) (by omega) (by omega) λhP gi hQ hS gj =>
  Qf ?_
 have hge:=Qq he;refine Qw<|Qb<|QP O O<|Qf<|⟨(k+1,out++[t],hP),by simp only[];omega,⟨O,O,Z⟩,(h7.trans hr).then hS (λb hb=>.inr (hge b hb).1),Qt.snoc hQ,hm,hf,by simp;omega,?_,H⟩;simp only[];rw[yc I];exact J
structure CrI (w7:World)(b4:Nat)(vcl:Value)(n:Int)(vm vd:Value)(M:LI)(E:List Ed)(w:World):Prop where
 st:Step [b4] w7 w
 B:QT w.heap b4 50 [vcl,.int .i64 n,vm,vd]
 m:Qt 3 w7.heap.size w vm M
 e:Ya 129 w7.heap.size w vd E
 dj:Dj vm vd
section
variable {w7 w w' w'':World}{b4:Nat}{vcl:Value}{n:Int}{vm vd:Value}{M:LI}{E:List Ed}
theorem CrI.ext (h:CrI w7 b4 vcl n vm vd M E w)(hs:Step [] w w'):CrI w7 b4 vcl n vm vd M E w':=⟨h.st.trans hs,h.B.ext hs,Qs h.m hs,Qs h.e hs,h.dj⟩
theorem CrI.setM (h:CrI w7 b4 vcl n vm vd M E w)(hb:b4<w7.heap.size){vm':Value}{M':LI}(hs:Step (ob vm) w w')(hm:Qt 3 w7.heap.size w' vm' M')(H:∀b∈ob vm',b∈ob vm∨w.heap.size≤b)(G:Step [b4] w' w'')
  (I:QT w''.heap b4 50 [vcl,.int .i64 n,vm',vd]):CrI w7 b4 vcl n vm' vd M' E w'' :=
 ⟨(h.st.then hs (λb hb=>.inr (Qq h.m b hb).1)).trans' G,I,Qm hm G (λb hb'=>by have:=(Qq hm b hb').1;simp;omega),
  Qm (Qm h.e hs h.dj.symm) G (λb hb'=>by have:=(Qq h.e b hb').1;simp;omega),(h.dj.symm.grow H (QY h.e)).symm⟩
theorem CrI.setE (h:CrI w7 b4 vcl n vm vd M E w)(hb:b4<w7.heap.size){G:Value}{E':List Ed}(hs:Step (ob vd) w w')(hm:Ya 129 w7.heap.size w' G E')(I:∀b∈ob G,b∈ob vd∨w.heap.size≤b)(H:Step [b4] w' w'')
  (J:QT w''.heap b4 50 [vcl,.int .i64 n,vm,G]):CrI w7 b4 vcl n vm G M E' w'' :=
 ⟨(h.st.then hs (λb hb=>.inr (Qq h.e b hb).1)).trans' H,J,Qm (Qm h.m hs h.dj) H (λb hb'=>by have:=(Qq h.m b hb').1;simp;omega),
  Qm hm H (λb hb'=>by have:=(Qq hm b hb').1;simp;omega),h.dj.grow I (QY h.m)⟩
end
theorem jK (a:QD)(fd:LI)(k:Nat):YI a fd (k+1)=if cget fd k∈a.mr then YI a fd k++[(k:Int)]else YI a fd k:=by
 unfold YI;rw[Ml,L8,Lx,LR];by_cases h:cget fd k∈a.mr
 ·rw[if_pos h,Mi,if_pos (decide_eq_true h)];rfl
 rw[if_neg h,Mi,if_neg (by rw[decide_eq_false h];simp),Nc,List.map_nil,LO]
theorem QcN (a:QD)(fd:LI):∀k,(YI a fd k).length≤k
 | 0=>by simp[YI]
 | k+1=>by
  have:=QcN a fd k;rw[jK];split
  ·simp;omega
  omega
theorem QgC (a:QD)(fd:LI)(k:Nat):Y5 a fd (k+1)=Y5 a fd k++a.al.filterMap (Kn a fd k):=by
 unfold Y5;rw[Ml,LG,LR];simp
set_option maxHeartbeats 2000000 in
theorem yS {L:LN}{w:World}{va vm ve:Value}{a:QD}(h:Zm L w.heap va vm ve a)(V:QO a):
  QH prog 71 [.agg #[va,.int .i64 a.st,vm,ve]] w λr w'=>Step [] w w'∧JS w.heap.size w'.heap r (YO a):=by
 have h0:=V.st0;have h1:=V.st1;have kw:=V.al_le;have gc:=(Ug V).1;have ge:=gc.len h0;refine QH.of_W func71 O ntmps71 results71 (by simp) ?_;refine Zj (found a) λfd hw=>?_;rw[hw]at ge;have gg:YO a=⟨a.al,fd.length,YI a fd fd.length,Y5 a fd fd.length⟩:=by unfold YO;rw[hw]
 refine Qc<|xl O<|QR (us:=[va,.int .i64 a.st,vm,ve]) O λb1 w1 gh kx hz=>xl O<|Qu (us:=[nS,.int .i64 0,nS,nS]) O λb2 w2 h2 kz hG=>xe ?_;have Y:=gh.trans h2;have hfr:=Qgs (h.ext Y) V;rw[hw]at hfr;refine Qc<|x (Qo (hz.ext h2) O O)<|xl O<|xf<|hfr.mono ?_;rintro vf w3 ⟨hp,gi⟩;refine Qf ?_;have hH:=Y.trans hp;have hJ:=(hz.ext h2).ext hp
 refine Qc<|x (Qa O)<|x (Qd hJ O O)<|xl O<|xf<|(UR (h.al.ext hH) (by omega)).mono ?_;rintro r4 w4 ⟨hK,vcl,rfl,ha⟩;have hL:=Qt.ints (L:=[]) ha (by omega) (by simp);refine xl rfl<|Qu (us:=[nS,.int .i64 0,nS,nS]) O λb4 w5 gj gk gl =>
  xl rfl<|Qn (us:=[vcl,.int .i64 0,nS,nS]) gl O O O O ⟨hL.one,O,O,O,Z⟩ λw6 gm hM=>xe ?_
 have h3:Step [] w4 w6:=gj.then1 gm gk;have he:=hK.trans h3;have hN:=Qt.ints (L:=[]) gi (by omega) (by simp);have k0:=hp.size;have k4:=hK.size;have k5:=h3.size;have k6:=hz.lt;have k7:=hG.lt;have k8:=hM.lt;refine Qc<|Qb<|x (Qr hN O)<|x (Qa O)<|xl O<|QF (u:=.int .i64 fd.length) hM O O (by simp) rfl λw7 J gn=>xe ?_;have k9:=J.size
 have ma:Step [b4] w3 w7:=(he.any (L:=[b4])).trans' J;have hO:Step [] w w7:=(hH.trans he).then1 J (by omega);have hP:QJ [b4] w7.heap vf fd:=((hN.up (L':=[b4]) (λb hb=>.inr (by simp at hb;omega))).ext he).st J;have h4:Zm [b4] w7.heap va vm ve a:=(h.up (λb hb=>.inr (by simp at hb;omega))).ext hO
 have gq:Qt 3 w3.heap.size w7 vcl a.al:=Qm (Qs ha h3) J (λb hb=>by have:=QY ha b hb;simp;omega);have hQ:=(hJ.ext he).step J (by simp;omega);have gr:=((hG.ext hp).ext he).step J (by simp;omega);have hf:b4<w7.heap.size:=by omega
 have n1:b1∉[b4]:=by simp;omega
 have n2:b2∉[b4]:=by simp;omega
 refine Qg<|Qc<|Qf<|Qh<|Qz (α:=Nat×Value×Value) [(5,7),(16,69)] (λz=>[(5,.int .i64 z.1)])
  (λz w'=>z.1≤fd.length∧CrI w7 b4 vcl fd.length z.2.1 z.2.2 (YI a fd z.1) (Y5 a fd z.1) w'∧(Y5 a fd z.1).length≤z.1*32) (λz=>fd.length - z.1) (by rfl) (0,nS,nS) La
  ⟨Ll _,⟨Step.refl _ _,gn,QN _ _ _ _,QN _ _ _ _,Dj.nil' _⟩,Ll _⟩ ?_
 rintro⟨i,v1,v2⟩ g8 w8 ⟨hi,G,h5⟩;simp only[]at hi G h5;have gs:=QcN a fd i;have hR:=hP.st G.st;refine Qg<|Qc<|Qb<|Qb<|x (Qr hR O)<|x (QA O O)<|xe<|QC rfl (λgt=>?_) (λgt=>?_)
 ·have gu:i=fd.length:=by omega
  rw[gu]at G h5 gs;refine Qy ?_;have gv:=Qt.ints (L:=[]) G.m (by omega) (by simp);have gx:=Ya.eds (L:=[]) G.e (by omega) (by simp);refine Qc<|x (Qo G.B O O)<|xl O<|Qn (us:=[vcl,.int .i64 fd.length,v1,v2]) (gr.step G.st n2) O O O O ⟨hL.one,O,gv.one,gx.one,Z⟩ λw9 hq gy=>xe ?_
  refine Ql ⟨[.agg #[vcl,.int .i64 fd.length,v1,v2]],⟨⟨_,O,Qx O (gy.at (L:=[]) (by simp)).cells⟩,Z⟩,(hO.then1 G.st (by omega)).then1 hq (by omega),?_⟩;rw[gg];have k1:=Qm (Qm gq G.st (λb hb=>by have:=QY ha b hb;simp;omega)) hq (λb hb=>by have:=(Qq ha b hb).1;simp;omega);have k2:=Qm G.m hq (λb hb=>by have:=(Qq G.m b hb).1;simp;omega)
  have k3:=Qm G.e hq (λb hb=>by have:=(Qq G.e b hb).1;simp;omega);refine⟨vcl,v1,v2,O,λL' h6=>⟨?_,?_,?_⟩⟩
  ·exact Qt.ints k1 (by show a.al.length≤_;omega) (λb hb=>by have:=h6 b hb;omega)
  ·exact Qt.ints k2 (by show(YI a fd fd.length).length≤_;omega) (λb hb=>by have:=h6 b hb;omega)
  exact Ya.eds k3 (by show(Y5 a fd fd.length).length≤_;omega) (λb hb=>by have:=h6 b hb;omega)
 have h7:i<fd.length:=by omega
 refine Zj (cget fd i) λs hr=>?_;have hg:=jK a fd i;rw[hr]at hg;refine Qi<|Qg<|Qh<|QX (α:=Value) [(22,34)] (λz=>[]) (λz w'=>CrI w7 b4 vcl fd.length z v2 (YI a fd (i+1)) (Y5 a fd i) w') (by rfl) ?_ ?_
 ·have gz:=h4.st G.st;have g0:=hQ.step G.st n1;refine Qg<|QU (Step [] w8) [(0,true),(1,true),(2,true),(3,true),(4,true),(5,true),(6,false)] mixed (by rfl) (by kernel_rfl) (Step.drew _ _) ?_;refine p (λ_=>Qa O)<|pq (λ_ hc=>Qd (g0.ext hc) O O)<|p (λ_=>Qk)<|p (λ_=>Qk)<|pic (i:=i) O hR O O h7 λmc hS=>?_;rw[hr]at hS
  refine pq (λ_ hc=>Qv (hS.ext hc) O)<|pk<|xf<|(Qfm (gz.mr.ext (Step.drew [] w8)) s).mono ?_;rintro mf mg ⟨rfl,rfl⟩;have h8:=G.ext (Step.drew [] w8);refine⟨Step.drew _ _,pe ?_⟩;refine QC O (λh9=>?_) (λh9=>?_)
  ·rw[if_neg h9]at hg;refine Qi ?_;exact⟨v1,Z,by rw[hg];exact h8⟩
  rw[if_pos h9]at hg;refine Qw<|x (Qa O)<|x (Qd h8.B O O)<|Qb<|xl O<|QG (us:=[[.int .i64 i]]) O O (by decide) (by simp) ⟨rfl,rfl,Z⟩ λmh mj g1 mo g2=>?_;have hh:=h8.ext g1;refine xl O<|Q4 (news:=[.int .i64 i]) (L:=[]) hh.m O O O (g2.at (by simp)) (by simp[Value.oneCell']) (by omega) hh.st.size λhT g3 g4 Y g5=>?_
  have hU:Qt 3 w7.heap.size g3 hT (YI a fd i++[(i:Int)]):=Qt.snoc g4;refine x (Qa O)<|xl O<|QF (hh.B.step Y (Q0 hh.m hf)) O O (by simp) (Qt.ints (L:=[]) hU (by simp;omega) (by simp)).one λmq g6 g7 =>
   xe ?_
  exact⟨hT,Z,by rw[hg];exact hh.setM hf Y hU g5 g6 g7⟩
 rintro v3 ms mt g9;refine Zj (Y5 a fd (i+1)) λE1 hA=>?_;have hV:=QgC a fd i;rw[hA]at hV;refine Qc<|Qf<|Qh<|Qz (α:=Nat×List Ed×Value) [(6,7),(35,69)] (λz=>[(6,.int .i64 z.1)])
  (λz w'=>z.1≤a.al.length∧CrI w7 b4 vcl fd.length v3 z.2.2 (YI a fd (i+1)) z.2.1 w'∧z.2.1.length≤i*32+z.1∧z.2.1++(a.al.drop z.1).filterMap (Kn a fd i)=E1) (λz=>a.al.length - z.1) (by rfl) (0,Y5 a fd i,v2) La
  ⟨Ll _,g9,h5,hV.symm⟩ ?_
 rintro⟨k,E,vd⟩ mu hB ⟨hk,I,ka,H⟩;simp only[]at hk I ka H;have hC:=h4.st I.st;have hs:=hQ.step I.st n1;have hW:=hP.st I.st;refine Qg<|Qc<|Qb<|x (Qa O)<|x (Qd hs O O)<|x (Qr hC.al O)<|x (QA O O)<|xe<|QC rfl (λkb=>?_) (λkb=>?_)
 ·refine Qy<|Qw<|Qb<|QP O O<|Qf ?_;rw[Lv (by omega),List.filterMap_nil,LO]at H;refine⟨(i+1,v3,vd),by simp only[];omega,La,h7,?_,?_⟩
  ·simp only[];rw[hA,←H];exact I
  simp only[];rw[hA,←H];omega
 have U:k<a.al.length:=by omega
 refine Zj (cget a.al k) λu hu=>?_;rw[LQ U,Q8 U,hu,MB]at H;refine Zj (nxt a.ed s u) λt ht=>?_;have kc:Kn a fd i u=if 0≤t then some ((i:Int),u,zC fd t)else none:=by unfold Kn;rw[hr,ht]
 rw[kc]at H;have hsr:=Qbz (va:=va) (vm:=vm) (a:=a) (hC.ed.ext (Step.drew [] hB)) s u a.st;rw[ht]at hsr;refine Qi<|Qg<|Qh<|Qg<|QU (Step [] hB) [(0,true),(1,true),(2,true),(3,true),(4,true),(5,true),(6,true),(7,true),(8,true),(9,true),(10,false),(11,true)] mixed (by rfl) (by kernel_rfl) (Step.drew _ _) ?_
 refine pq (λ_ hc=>Qo (hs.ext hc) O O)<|p (λ_=>Qk)<|p (λ_=>Qk)<|pic (i:=i) O hW O O h7 λmv hX=>?_;rw[hr]at hX;refine pq (λ_ hc=>Qv (hX.ext hc) O)<|p (λ_=>Qa O)<|pq (λ_ hc=>Qd (hs.ext hc) O O)<|p (λ_=>Qk) <|
  pic (i:=k) O hC.al O O U λmw hY=>?_
 rw[hu]at hY;refine pq (λ_ hc=>Qv (hY.ext hc) O)<|pk<|xf<|hsr.mono ?_;rintro my hv ⟨rfl,ke⟩;have hj:=(Step.drew [] hB).trans ke;refine⟨hj,p (λ_=>Qe)<|pe ?_⟩;have hm:=I.ext hj;have kf:=hs.ext hj;have kg:=hW.ext hj;refine Qc<|Qb<|x (ZV O O)<|xe<|QC rfl (λhD=>?_) (λhD=>?_)
 ·rw[if_neg hD]at H;refine Qi<|Qw<|Qb<|QP O O<|Qf ?_;exact⟨(k+1,E,vd),by simp only[];omega,La,U,hm,by simp only[];omega,H⟩
 rw[if_pos hD]at H;have kh:=Qq I.e;have ki:QJ (b4::ob vd) hv.heap va a.al:=(((h4.al.up (L':=b4::ob vd) (λb hb=>by
  rcases Le.1 hb with rfl|hb
  ·exact .inl (by simp)
  exact .inr (kh b hb).1)).step I.st (by simp)).ext hj)
 have kj:=Q0 hm.e hf;have kk:b1∉ob vd:=Q0 hm.e (by omega);refine QU (Step (ob vd) hv) [(0,true),(1,true),(2,true),(3,true),(4,true),(5,true),(6,true),(7,true),(8,true),(9,true),(10,false),(11,true),(12,false),(13,false),(14,true),(15,false)] mixed (by rfl) (by kernel_rfl) (Step.drew _ _) ?_
 refine p (λ_=>Qa O)<|pq (λ_ hc=>Qd (hm.B.step hc kj) O O)<|p (λ_=>Qk)<|p (λ_=>Qa O)<|pq (λ_ hc=>Qd (kf.step hc kk) O O) <|
  p (λ_=>Qk)<|pic (i:=k) O ki O O U λmz hZ=>?_
 rw[hu]at hZ;refine pq (λ_ hc=>Qv (hZ.step hc (λb hb=>Lk _ hb)) O)<|p (λ_=>Qk)<|p (λ_=>Qk) <|
  pk<|xf<|(Qgr (kg.ext (Step.drew [] hv)) t).mono ?_
 rintro m0 m1 ⟨rfl,rfl⟩;refine⟨Step.drew _ _,p (λ_=>QM ⟨O,O,O,Z⟩)<|pk<|QG (us:=[QB ((i:Int),u,zC fd t)]) O O (by decide) (by exact(by decide:1*3≤1000000)) ⟨O,O,Z⟩ λm2 m3 kn m4 ko=>?_⟩;have hE:=(Step.drew [] hv).trans kn;have hn:=hm.ext hE;refine⟨hE.any,?_⟩
 refine pk<|Q4 (news:=QB ((i:Int),u,zC fd t)) (L:=[]) hn.e O O O (ko.at (by simp)) (λy hy=>by simp only[QB,List.mem_cons,List.not_mem_nil,or_false]at hy;rcases hy with rfl|rfl|rfl <;> rfl) (by omega) hn.st.size λga kp kq hF kr=>⟨(hE.any (L:=ob vd)).trans' hF,?_⟩
 have gb:Ya 129 w7.heap.size kp ga (E++[((i:Int),u,zC fd t)]):=Ya.snoc kq;refine p (λ_=>Qa O)<|pkl (hl:=by kernel_rfl)<|QF (hn.B.step hF (Q0 hn.e hf)) O O (by simp) (Ya.eds (L:=[]) gb (by simp;omega) (by simp)).one λm5 kt ku =>
  pe ?_
 have kv:=hn.setE hf hF gb kr kt ku;refine Qw<|Qb<|QP O O<|Qf<|⟨(k+1,E++[((i:Int),u,zC fd t)],ga),by simp only[];omega,La,U,kv,by simp;omega,?_⟩;simp only[List.append_assoc,List.singleton_append];exact H
end Go.Proofs.YtjcgijbhaemldaaGreatDoor
namespace Go.Lg
section
variable {P:Program}{f:Fr}{w:World}{d:Option Nat}{ty:Nat}{ps:String}{af:Array Edge}{gd:Option (Nat×Bool)}
theorem zf {t G:Nat}{x y:Operand}{k:IntKind}{a b:Int}(hx:ev f x=.int k a)(hy:ev f y=.int k b)(ha:0≤a)(hb:0<b):
  (execOp (ev f) ⟨d,.binOp .rem t x y G,ty,ps,af,gd⟩).run P w=.ok (.value (.int k (a % b))) w:=by
 refine XS hx hy ?_;have h1:¬b=0:=by omega
 simp[binOp,Op.intDiv,h1,Int.tmod_eq_emod_of_nonneg ha]
end
end Go.Lg
namespace Go.Proofs.YtjcgijbhaemldaaGreatDoor
open Go.Proofs.Tryz
open Go.Lg
theorem QdS (m:Nat)(hm:m<256)(w:World):QH prog 32 [.int .u8 m] w λr w'=>Step [] w w'∧Qt 3 w.heap.size w' r (setK m 5):=by
 refine QH.of_W func32 O ntmps32 results32 (by simp) ?_;refine Qc<|Qf<|Qc<|Qf<|Qg<|Qc<|Qf<|Qh<|Qz (α:=Nat×Value) [(3,17)] (λz=>[(3,z.2),(4,.int .i64 z.1)]) (λz w'=>z.1≤5∧Step [] w w'∧Qt 3 w.heap.size w' z.2 (setK m z.1)) (λz=>5 - z.1) (by rfl) (0,nS) ⟨O,O,Z⟩
  ⟨Ll _,Step.refl _ _,QN _ _ _ _⟩ ?_
 rintro⟨k,v⟩ g w1 ⟨hk,H,G⟩;simp only[]at hk G;have hh:=Jf m k;have hi:=H.size;refine Qg<|Qc<|Qb<|x (QA O O)<|xe<|QC rfl (λh6=>?_) (λh6=>?_)
 ·refine Qy<|Qc<|Qb<|Qf ?_;have Y:k=5:=by omega
  rw[Y]at G;exact Ql ⟨[v],La,H,G⟩
 have U:k<5:=by omega
 have ha:m / 2 ^ k<256:=Nv (Nat.div_le_self _ _) hm;have I:=UE m k;refine Qi<|Qg<|Qh<|Qc<|Qb<|Qb<|x (ze (n:=k) O O (by show k≤8;omega))<|x (Qdx (a:=m / 2 ^ k) (b:=1) (congrArg (Value.int .u8) (qw m k)) O ha (by decide))<|x (Zr O O)<|xe<|QC rfl (λV=>?_) (λV=>?_)
 ·rw[if_neg (λe=>V (by rw[e];rfl))]at I;refine Qi<|Qw<|Qb<|QP O O<|Qf ?_;exact⟨(k+1,v),by simp only[];omega,⟨O,O,Z⟩,U,H,by simp only[];rw[I];exact G⟩
 rw[if_pos (by omega)]at I;refine Qw<|Qb<|Qb<|xl O<|QG (us:=[[.int .i64 k]]) O O (by decide) (by simp) ⟨rfl,rfl,Z⟩ λb15 w2 J hj hc=>?_;have he:=Qs G J;have hl:=J.size;refine xl rfl<|Q4 (news:=[.int .i64 k]) (L:=[]) he O O O (hc.at (by simp)) (by simp[Value.oneCell']) (by omega) (by omega) λv3 w3 hf hg hn =>
  Qf ?_
 have hge:=Qq G;refine Qw<|Qb<|QP O O<|Qf<|⟨(k+1,v3),by simp only[];omega,⟨O,O,Z⟩,U,(H.trans J).then hg (λb hb=>.inr (hge b hb).1),?_⟩;simp only[];rw[I];exact Qt.snoc hf
instance ayMa1:Ay prog 23 5 22 5:=⟨by kernel_rfl,by kernel_rfl⟩
instance ayMa2:Ay prog 22 5 5 1:=⟨by kernel_rfl,by kernel_rfl⟩
abbrev bys (ns:LN):LV:=ns.map λn:Nat=>.int .u8 (n:Int)
theorem U0 {ns:LN}{j:Nat}(h:j<ns.length):(bys ns)[j]?=some (.int .u8 ((ns.getD j 0:Nat):Int)):=by simp[bys,List.getD,h]
theorem yh:∀(ns:LN),ZM (bys ns)
 | []=>trivial
 | _::ns=>⟨rfl,yh ns⟩
theorem Vh {ns:LN}(h:∀n∈ns,n<256)(j:Nat):ns.getD j 0<256:=by
 by_cases hj:j<ns.length
 ·simp only[List.getD,List.getElem?_eq_getElem hj,Option.getD_some];exact h _ (Lc hj)
 simp[List.getD,hj]
structure GrI (al:LI)(S i k:Nat)(M:LI)(E:List Ed):Prop where
 mb:∀x∈M,0≤x∧x<S
 mi:Z2 M
 ml:∀x∈M,x<(i:Int)+1
 mn:M.length≤S
 eb:∀e∈E,0≤e.1∧e.1<S∧e.2.1∈al∧0≤e.2.2∧e.2.2<S
 ei:E.Pairwise λx y=>x.1<y.1∨(x.1=y.1∧x.2.1<y.2.1)
 el:∀e∈E,e.1<i∨(e.1=i∧e.2.1∈al.take k)
 en:E.length≤i*5+k
theorem QaP {S:Nat}{M:LI}(hb:∀x∈M,0≤x∧x<S)(hi:Z2 M):M.length≤S:=pig S M (hi.imp (λh=>by omega)) hb
theorem GrI.mark {al:LI}{S i:Nat}{M:LI}{E:List Ed}(h:GrI al S i 0 M E)(hm:∀x∈M,x<(i:Int))(hi:i<S):GrI al S i 0 (M++[(i:Int)]) E:=by
 have G:∀x∈M++[(i:Int)],0≤x∧x<S:=λx hx=>by
  rcases Lo.1 hx with hx|hx
  ·exact h.mb x hx
  simp only[List.mem_singleton]at hx;omega
 have H:Z2 (M++[(i:Int)]):=by
  refine MF.2 ⟨h.mi,by simp,λx hx y hy=>?_⟩;simp only[List.mem_singleton]at hy;subst hy;exact hm x hx
 refine⟨G,H,λx hx=>?_,QaP G H,h.eb,h.ei,h.el,h.en⟩;rcases Lo.1 hx with hx|hx
 ·have:=hm x hx;omega
 simp only[List.mem_singleton]at hx;omega
theorem GrI.skip {al:LI}{S i k:Nat}{M:LI}{E:List Ed}(h:GrI al S i k M E)(hk:k<al.length):GrI al S i (k+1) M E :=
 ⟨h.mb,h.mi,h.ml,h.mn,h.eb,h.ei,λe he=>(h.el e he).imp id (λx=>⟨x.1,by rw[Li hk];exact Ly _ x.2⟩),by have:=h.en;omega⟩
theorem GrI.edge {al:LI}{S i k:Nat}{M:LI}{E:List Ed}(h:GrI al S i k M E)(hk:k<al.length)(ha:Z2 al)(hi:i<S){t:Int}(G:0≤t)(ht:t<S):GrI al S i (k+1) M (E++[((i:Int),cget al k,t)]):=by
 have H:cget al k∈al:=Jl hk;refine⟨h.mb,h.mi,h.ml,h.mn,λe he=>?_,?_,λe he=>?_,by have:=h.en;simp;omega⟩
 ·rcases Lo.1 he with he|he
  ·exact h.eb e he
  simp only[List.mem_singleton]at he;subst he;exact⟨by simp only[];omega,by simp only[];omega,H,G,ht⟩
 ·refine MF.2 ⟨h.ei,by simp,λx hx y hy=>?_⟩;simp only[List.mem_singleton]at hy;subst hy;rcases h.el x hx with h1|⟨h1,h2⟩
  ·left;exact h1
  right;refine⟨h1,?_⟩;simp only[];have hp:Z2 (al.take k++al.drop k):=by rw[MQ];exact ha
  refine(MF.1 hp).2.2 _ h2 _ ?_;rw[LQ hk,Q8 hk];exact Lm
 rw[Li hk,Q8 hk];rcases Lo.1 he with he|he
 ·exact(h.el e he).imp id (λx=>⟨x.1,Ly _ x.2⟩)
 simp only[List.mem_singleton]at he;subst he;exact .inr ⟨O,L9 _ (by simp)⟩
theorem GrI.next {al:LI}{S i k:Nat}{M:LI}{E:List Ed}(h:GrI al S i k M E)(hk:k≤5):GrI al S (i+1) 0 M E :=
 ⟨h.mb,h.mi,λx hx=>by have:=h.ml x hx;omega,h.mn,h.eb,h.ei,λe he=>by rcases h.el e he with h1|h1 <;> (left;omega),by have:=h.en;omega⟩
set_option maxHeartbeats 2000000 in
theorem jq {L:LN}{w:World}{v:Value}{al:LI}{ns:LN}(h:QJ L w.heap v al)(hb:∀e∈al,0≤e∧e<32)(hi:Z2 al)(hn:ns.length=27)(hp:∀n∈ns,n<256):
  QH prog 30 [v,.agg (bys ns).toArray] w λr w'=>Step [] w w'∧∃a:QD,JS w.heap.size w'.heap r a∧QO a∧a.st≤5∧a.al=al ∧
   (ns.getD 0 0<250→∃a0:QD,QO a0∧0<a0.st∧a0.st≤((1+ns.getD 0 0 % 5:Nat):Int)∧a=YO a0):=by
 have k0:al.length≤32:=pig 32 al (hi.imp (λh=>by omega)) (λx hx=>by have:=hb x hx;omega);refine QH.of_W func30 O ntmps30 results30 (by simp) ?_;have g0:=U0 (ns:=ns) (j:=0) (by omega);have g1:=U0 (ns:=ns) (j:=1) (by omega);have l0:=Vh hp 0;have l1:=Vh hp 1;refine Zj (ns.getD 0 0) λs0 hX=>?_;refine Zj (ns.getD 1 0) λm1 hY=>?_;rw[hX]at g0 l0;rw[hY]at g1 l1
 refine Qc<|xl O<|QR (us:=bys ns) O λb3 w1 hZ k4 h4=>xl O<|Qu (us:=[nS,.int .i64 0,nS,nS]) O λb4 w2 h5 k5 hr=>xe ?_;have ho:=hZ.trans h5;have hs:=h4.ext h5;have k6:=h4.lt;have k7:=hr.lt;refine Qg<|Qc<|x (Qa O)<|x (Qd hs O g0)<|x (ZV O O)<|xe<|Q3 rfl (λga=>?_) (λga=>?_)
 ·refine Qc<|Qb<|xl O<|xf<|(UR (h.ext ho) (by omega)).mono ?_;rintro r3 w3 ⟨h6,vcl,rfl,U⟩;have hu:=Qt.ints (L:=[]) U (by omega) (by simp);refine xl O<|Qn (us:=[vcl,.int .i64 0,nS,nS]) (hr.ext h6) O O O O ⟨hu.one,O,O,O,Z⟩ λw4 h7 gb=>xe ?_;have gc:=Qm U h7 (λb hb=>by have:=(Qq U b hb).1;simp;omega)
  refine Ql ⟨[.agg #[vcl,.int .i64 0,nS,nS]],⟨⟨_,O,Qx O (gb.at (L:=[]) (by simp)).cells⟩,Z⟩,(ho.trans h6).then1 h7 (by omega),⟨al,0,[],[]⟩,?_,?_,(by decide:(0:Int)≤5),rfl,λh=>absurd h (by omega)⟩
  ·exact⟨vcl,_,_,O,λL' ge=>⟨Qt.ints gc (by show al.length≤_;omega) (λb hb=>by have:=ge b hb;omega),Zy.nil _ _ _,Zy.nil _ _ _⟩⟩
  exact⟨hb,hi,(by decide:(0:Int)≤0),(by decide:(0:Int)≤4096),by simp,by simp,by simp,by simp⟩
 refine Qi<|Qc<|Qb<|xl O<|xf<|(UR (h.ext ho) (by omega)).mono ?_;rintro r5 w5 ⟨h8,vcl,rfl,U⟩;have hu:=Qt.ints (L:=[]) U (by omega) (by simp);refine xl rfl<|Qu (us:=[nS,.int .i64 0,nS,nS]) O λH w6 gg gh gi =>
  xl rfl<|Qn (us:=[vcl,.int .i64 0,nS,nS]) gi O O O O ⟨hu.one,O,O,O,Z⟩ λw7 gk h9=>xe ?_
 have hA:Step [] w5 w7:=gg.then1 gk gh;have hg:=h8.trans hA;have k8:=h8.size;have k9:=h9.lt;refine Zj (1+s0 % 5) λS hS=>?_;have gl:(1:Int)+(s0:Int) % 5=(S:Int):=by omega
 refine Qc<|x (Qa O)<|x (Qd (hs.ext hg) O g0)<|x (zf (a:=(s0:Int)) (b:=5) O O (by omega) (by omega))<|x (Xr (k':=.i64) O ⟨by omega,by omega⟩)<|QP O O<|x (Qa O) <|
  xl rfl<|QF (u:=.int .i64 S) h9 O (congrArg (Value.int .i64) gl) (by simp) rfl λI ha gm=>xe ?_
 have ma:=ha.size;have mc:Step [H] w2 I:=(hg.any (L:=[H])).trans' ha;have hB:Step [] w I:=(ho.trans hg).then1 ha (by omega);have hC:QJ [H] I.heap v al:=(h.up (L':=[H]) (λb hb=>.inr (by simp at hb;omega))).ext hB;have gn:Qt 3 w2.heap.size I vcl al:=Qm (Qs U hA) ha (λb hb=>by have:=QY U b hb;simp;omega);have hD:=(hs.ext hg).step ha (by simp;omega)
 have gq:=(hr.ext hg).step ha (by simp;omega);have hh:H<I.heap.size:=by omega
 have n3:b3∉[H]:=by simp;omega
 have n4:b4∉[H]:=by simp;omega
 refine Qg<|Qc<|Qf<|Qh<|Qz (α:=Nat×Value×Value×LI×List Ed) [(6,8),(22,76)] (λz=>[(6,.int .i64 z.1)])
  (λz w'=>z.1≤S∧CrI I H vcl S z.2.1 z.2.2.1 z.2.2.2.1 z.2.2.2.2 w'∧GrI al S z.1 0 z.2.2.2.1 z.2.2.2.2∧∀x∈z.2.2.2.1,x<(z.1:Int)) (λz=>S - z.1) (by rfl) (0,nS,nS,[],[]) La
  ⟨Ll _,⟨Step.refl _ _,gm,QN _ _ _ _,QN _ _ _ _,Dj.nil' _⟩,⟨by simp,by simp,by simp,by simp,by simp,by simp,by simp,by simp⟩,by simp⟩ ?_
 rintro⟨i,v1,v2,M,E⟩ g9 w9 ⟨gr,G,J,hM⟩;simp only[]at gr G J hM;have mf:=J.mn;have mg:=J.en;refine Qg<|Qc<|Qb<|x (Qa O)<|x (Qd G.B O O)<|x (QA O O)<|xe<|QC rfl (λgs=>?_) (λgs=>?_)
 ·have mh:i=S:=by omega
  refine Qy ?_;have gt:=Qt.ints (L:=[]) G.m (by omega) (by simp);have gu:=Ya.eds (L:=[]) G.e (by omega) (by simp);have gv:Qt 3 w2.heap.size w9 vcl al:=Qm gn G.st (λb hb=>by have:=QY U b hb;simp;omega);have gx:Zm [] w9.heap vcl v1 v2 ⟨al,(S:Int),M,E⟩:=⟨Qt.ints gv (by show al.length≤_;omega) (by simp),gt,gu⟩
  have hv:QO ⟨al,(S:Int),M,E⟩:=⟨hb,hi,by simp only[];omega,by simp only[];omega,J.mb,J.mi,J.eb,J.ei⟩;have hw:=Qa7 hv;have hE:Step [] w w9:=hB.then1 G.st (by omega);have gy:=gq.step G.st n4;have mj:=G.st.size;refine Qc<|x (Qo G.B O O)<|xl O<|xf<|(yS (a:=⟨al,(S:Int),M,E⟩) gx hv).mono ?_;rintro vr mo ⟨hH,hF⟩;obtain⟨us,hJ,hK,gz⟩:=VS hF
  refine xl O<|Qn (us:=us) (gy.ext hH) O hJ hK O gz λmq hL g2=>xe ?_;have g3:=hE.size;refine Ql ⟨[.agg us.toArray],⟨⟨_,O,Qx hK (g2.at (L:=[]) (by simp)).cells⟩,Z⟩,(hE.trans hH).then1 hL (by omega),YO ⟨al,(S:Int),M,E⟩,?_,hw.1,?_,hw.2.1,λ_=>⟨⟨al,(S:Int),M,E⟩,hv,by simp only[];omega,by simp only[];omega,O⟩⟩
  ·show JS _ _ (.agg us.toArray) _;rw[←hJ];exact(Uz hF (by omega) hL).mono g3
  have:=hw.2.2;simp only[]at this;omega
 have hz:i<S:=by omega
 refine Qi<|Qg<|Qh<|QX (α:=Value×LI) [(28,39)] (λz=>[]) (λz w'=>CrI I H vcl S z.1 v2 z.2 E w'∧GrI al S i 0 z.2 E) (by rfl) ?_ ?_
 ·have g4:m1 / 2 ^ i<256:=Nv (Nat.div_le_self _ _) l1;refine Qc<|x (Qa O)<|x (Qd (hD.step G.st n3) O g1)<|Qb<|x (ze (n:=i) O O (by show i≤8;omega))<|x (Qdx (a:=m1 / 2 ^ i) (b:=1) (congrArg (Value.int .u8) (qw m1 i)) O g4 (by decide))<|x (Zr O O)<|xe<|QC O (λg5=>?_) (λg5=>?_)
  ·refine Qi ?_;exact⟨(v1,M),Z,G,J⟩
  refine Qw<|x (Qa O)<|x (Qd G.B O O)<|Qb<|xl O<|QG (us:=[[.int .i64 i]]) O O (by decide) (by simp) ⟨rfl,rfl,Z⟩ λms mt g6 mu g7=>?_;have hj:=G.ext g6;refine xl O<|Q4 (news:=[.int .i64 i]) (L:=[]) hj.m O O O (g7.at (by simp)) (by simp[Value.oneCell']) (by omega) hj.st.size λhN g8 ka hO kb=>?_;have hP:Qt 3 I.heap.size g8 hN (M++[(i:Int)]):=Qt.snoc ka
  refine x (Qa O)<|xl O<|QF (hj.B.step hO (Q0 hj.m hh)) O O (by simp) (Qt.ints (L:=[]) hP (by simp;omega) (by simp)).one λmv kc ke =>
   xe ?_
  exact⟨(hN,M++[(i:Int)]),Z,hj.setM hh hO hP kb kc ke,J.mark hM hz⟩
 rintro⟨v3,M3⟩ mw my ⟨hQ,hR⟩;simp only[]at hQ hR;refine Qc<|Qf<|Qh<|Qz (α:=Nat×Value×List Ed) [(7,8),(40,76)] (λz=>[(7,.int .i64 z.1)])
  (λz w'=>z.1≤al.length∧z.1≤5∧CrI I H vcl S v3 z.2.1 M3 z.2.2 w'∧GrI al S i z.1 M3 z.2.2) (λz=>5 - z.1) (by rfl) (0,v2,E) La
  ⟨Ll _,Ll _,hQ,hR⟩ ?_
 rintro⟨k,vd,F⟩ mz kf ⟨hk,hT,he,hf⟩;simp only[]at hk hT he hf;have kg:=hC.st he.st;have m0:=hf.en;refine Qg<|QX (α:=Unit) [(40,47)] (λz=>[(47,.bool (decide (k<al.length∧k<5)))]) (λz w'=>w'=kf) (by rfl) ?_ ?_
 ·refine Qw<|Qb<|Qb<|x (Qr kg O)<|xb (QA O O) (λhU=>?_) (λhU=>?_)
  ·refine Qb<|Qb<|x (QA O O)<|x (Qp O)<|xe<|⟨(),⟨congrArg Value.bool ?_,Z⟩,O⟩;exact decide_eq_decide.2 ⟨λe=>⟨by omega,by omega⟩,λe=>by omega⟩
  refine Qb<|xs O<|xs O<|x (Qp O)<|xe ?_;exact⟨(),⟨congrArg Value.bool (decide_eq_false (λe=>hU (by omega))).symm,Z⟩,O⟩
 rintro _ m2 V rfl;refine QC rfl (λh0=>?_) (λh0=>?_)
 ·refine Qy<|Qw<|Qb<|QP O O<|Qf ?_;exact⟨(i+1,v3,vd,M3,F),by simp only[];omega,La,hz,he,hf.next hT,λx hx=>by have:=hf.ml x hx;simp only[];omega⟩
 have hk1:k<al.length:=h0.1;have h1:k<5:=h0.2;have gj:=U0 (ns:=ns) (j:=0+2+i*5+k*1) (by omega);have lj:=Vh hp (0+2+i*5+k*1);refine Zj (ns.getD (0+2+i*5+k*1) 0) λq hq=>?_;rw[hq]at gj lj;have kh:=hD.step he.st n3;have ki:0≤(q:Int) % ((S:Int)+2):=Int.emod_nonneg _ (by omega)
 refine Qi<|Qg<|Qh<|Qg<|QU (Step [] V) [(0,true),(1,true),(2,true),(3,true),(4,true),(5,true),(6,true),(7,true),(8,true),(9,true),(10,true),(11,true)] mixed (by rfl) (by kernel_rfl) (Step.drew _ _) ?_;refine p (λ_=>Qk)<|p (λ_=>Qk)<|p (λ_=>Qa O)<|p (λ_=>Xe (i:=i) O O (by omega))<|p (λ_=>Xe (i:=k) O O h1)<|pq (λ_ hc=>Qd (kh.ext hc) O gj) <|
  p (λ_=>Xr (k':=.i64) O ⟨by omega,by omega⟩)<|p (λ_=>Qa O)<|pq (λ_ hc=>Qd (he.B.ext hc) O O)<|p (λ_=>JB O O ⟨by omega,by omega⟩) <|
  p (λ_=>zf (a:=(q:Int)) (b:=(S:Int)+2) O O (by omega) (by omega))<|p (λ_=>Qe)<|pe ?_
 have Y:=he.ext (Step.drew [] V);refine Zj ((q:Int) % ((S:Int)+2)) λt ht=>?_;refine Qc<|Qb<|x (Qa O)<|x (Qd Y.B O O)<|x (QA O O)<|xe<|QC rfl (λkj=>?_) (λkj=>?_)
 ·refine Qi<|Qw<|Qb<|QP O O<|Qf ?_;exact⟨(k+1,vd,F),by simp only[];omega,La,hk1,h1,Y,hf.skip hk1⟩
 have kk:=Qq Y.e;have kn:QJ (H::ob vd) { V with drawn:=V.drawn+1 }.heap v al:=((hC.up (L':=H::ob vd) (λb hb=>by
  rcases Le.1 hb with rfl|hb
  ·exact .inl (by simp)
  exact .inr (kk b hb).1)).step Y.st (by simp))
 have ko:=Q0 Y.e hh;refine QU (Step (ob vd) { V with drawn:=V.drawn+1 }) [(0,true),(1,true),(2,true),(3,true),(4,true),(5,true),(6,true),(7,true),(8,true),(9,false),(10,false),(11,true),(12,false)] mixed (by rfl) (by kernel_rfl) (Step.drew _ _) ?_
 refine p (λ_=>Qa O)<|pq (λ_ hc=>Qd (Y.B.step hc ko) O O)<|p (λ_=>Qk)<|p (λ_=>Qk)<|p (λ_=>Qk) <|
  pic (i:=k) O kn O O hk1 λm3 kp=>pq (λ_ hc=>Qv (kp.step hc (λb hb=>Lk _ hb)) O)<|p (λ_=>Qk)<|p (λ_=>QM ⟨O,O,O,Z⟩) <|
  pk<|QG (us:=[QB ((i:Int),cget al k,(q:Int) % ((S:Int)+2))]) O O (by decide) (by exact(by decide:1*3≤1000000)) ⟨O,O,Z⟩ λm4 m5 kq m6 kr=>?_
 have h2:=(Step.drew [] { V with drawn:=V.drawn+1 }).trans kq
 have hm:=Y.ext h2;refine⟨h2.any,?_⟩;refine pk<|Q4 (news:=QB ((i:Int),cget al k,(q:Int) % ((S:Int)+2))) (L:=[]) hm.e O O O (kr.at (by simp)) (λy hy=>by simp only[QB,List.mem_cons,List.not_mem_nil,or_false]at hy;rcases hy with rfl|rfl|rfl <;> rfl) (by omega) hm.st.size λhV kt ku h3 kv=>⟨(h2.any (L:=ob vd)).trans' h3,?_⟩
 have hW:Ya 129 I.heap.size kt hV (F++[((i:Int),cget al k,(q:Int) % ((S:Int)+2))]):=Ya.snoc ku;refine p (λ_=>Qa O)<|pkl (hl:=by kernel_rfl)<|QF (hm.B.step h3 (Q0 hm.e hh)) O O (by simp) (Ya.eds (L:=[]) hW (by simp;omega) (by simp)).one λm7 kw kx=>pe ?_;have kz:=hm.setE hh h3 hW kv kw kx;refine Qw<|Qb<|QP O O<|Qf ?_
 exact⟨(k+1,hV,F++[((i:Int),cget al k,(q:Int) % ((S:Int)+2))]),by simp only[];omega,La,hk1,h1,kz,hf.edge hk1 hi hz ki (by omega)⟩
end Go.Proofs.YtjcgijbhaemldaaGreatDoor
namespace Go.Lg
section
variable {P:Program}{f:Fr}{w:World}{d:Option Nat}{ty:Nat}{ps:String}{af:Array Edge}{gd:Option (Nat×Bool)}
theorem Qgf {t sz:Nat}[Ag P t sz]{x:Operand}{b o T:Nat}{cs us:LV}(h:QT w.heap b T cs)(hx:ev f x=.pointer (some ⟨b,o,none⟩))(hl:us.length=sz)(G:∀j u,us[j]?=some u→cs[o+j]?=some u):
  (execOp (ev f) ⟨d,.load t x,ty,ps,af,gd⟩).run P w=.ok (.value (.agg us.toArray)) w:=by
 refine qA hx hl λj u hu=>?_;rw[Ja,YD,h.cell];exact G j u hu
end
end Go.Lg
namespace Go.Proofs.YtjcgijbhaemldaaGreatDoor
open Go.Proofs.Tryz
open Go.Lg
theorem QmE {ns:LN}{o n:Nat}:∀j u,(bys ((ns.drop o).take n))[j]?=some u→(bys ns)[o+j]?=some u:=by
 intro j u h;simp only[bys,List.getElem?_map,List.getElem?_take,List.getElem?_drop]at h ⊢;split at h
 ·exact h
 cases h
theorem QmF {ns:LN}(h:∀n∈ns,n<256)(o n:Nat):∀m∈(ns.drop o).take n,m<256:=λm hm=>h m (MS (L2 hm))
theorem QkT (m k:Nat):∀e∈setK m k,0≤e∧e<k:=by
 intro e he;simp only[setK,List.mem_map,List.mem_filter,List.mem_range'_1]at he;obtain⟨i,⟨hi,_⟩,rfl⟩:=he;omega
theorem qD (keep:Bool→Bool→Bool):∀(n:Nat) (a b:LI),a.length+b.length≤n→Z2 a→Z2 b→Z2 (mrg keep a b):=by
 intro n;induction n with
 | zero =>
  intro a b h _ _;have ha:a=[]:=Lr (by omega);have hb:b=[]:=Lr (by omega);subst ha hb;rw[Kd];exact List.Pairwise.nil
 | succ n ih =>
  intro a b H ia ib;by_cases h:a=[]∧b=[]
  ·obtain⟨rfl,rfl⟩:=h;rw[Kd];exact List.Pairwise.nil
  have I:=zF h;have itl:∀(c:Bool) (l:LI),Z2 l→Z2 (tl c l):=λc l hl=>by
   cases c
   ·exact hl
   cases l with
   | nil=>exact hl
   | cons y l=>exact hl.tail
  have G:=ih (tl (X2 a b) a) (tl (X2 b a) b) (by omega) (itl _ _ ia) (itl _ _ ib);rw[JZ keep h];cases keep (X2 a b) (X2 b a)with
  | false=>simpa using G
  | true =>
   simp only[cond_true,List.singleton_append];refine L3.2 ⟨λx hx=>?_,G⟩;have hm:=(Kf (itl _ _ ia) (itl _ _ ib) x).1 hx;cases a with
   | nil =>
    cases b with
    | nil=>exact absurd ⟨O,O⟩ h
    | cons y b =>
     simp only[X2,tl,cond_true,cond_false,List.tail_cons,List.not_mem_nil,false_or,Go.Proofs.YtjcgijbhaemldaaGreatDoor.hx,List.headD_cons]at hm ⊢;exact ib.lt_of hm.1
   | cons u a =>
    cases b with
    | nil =>
     simp only[X2,tl,cond_true,cond_false,List.tail_cons,List.not_mem_nil,or_false,Go.Proofs.YtjcgijbhaemldaaGreatDoor.hx,List.headD_cons]at hm ⊢;exact ia.lt_of hm.1
    | cons y b =>
     rcases Int.lt_trichotomy u y with h1|h1|h1
     ·have e1:decide (u≤y)=true:=decide_eq_true (by omega);have e2:decide (y≤u)=false:=decide_eq_false (by omega);simp only[X2,tl,e1,e2,cond_true,cond_false,List.tail_cons,Go.Proofs.YtjcgijbhaemldaaGreatDoor.hx,List.headD_cons]at hm ⊢;rcases hm.1 with h2|h2
      ·exact ia.lt_of h2
      rcases Le.1 h2 with h2|h2
      ·omega
      have:=ib.lt_of h2;omega
     ·have e1:decide (u≤y)=true:=decide_eq_true (by omega);have e2:decide (y≤u)=true:=decide_eq_true (by omega);simp only[X2,tl,e1,e2,cond_true,List.tail_cons,Go.Proofs.YtjcgijbhaemldaaGreatDoor.hx,List.headD_cons]at hm ⊢;rcases hm.1 with h2|h2
      ·have:=ia.lt_of h2;omega
      have:=ib.lt_of h2;omega
     have e1:decide (u≤y)=false:=decide_eq_false (by omega);have e2:decide (y≤u)=true:=decide_eq_true (by omega);simp only[X2,tl,e1,e2,cond_true,cond_false,List.tail_cons,Go.Proofs.YtjcgijbhaemldaaGreatDoor.hx,List.headD_cons]at hm ⊢;rcases hm.1 with h2|h2
     ·rcases Le.1 h2 with h2|h2
      ·omega
      have:=ia.lt_of h2;omega
     exact ib.lt_of h2
end Go.Proofs.YtjcgijbhaemldaaGreatDoor
namespace Go.Lg
section
variable {P:Program}{f:Fr}{w:World}{d:Option Nat}{ty:Nat}{ps:String}{af:Array Edge}{gd:Option (Nat×Bool)}{all:List Oper}{C:World→Prop}{K:Fr→World→Prop}
theorem tf {pre:List (Nat×Bool)}{i j:Nat}{G H:Pt}(h:XP P all C (λf w=>(Yd all f (QL all i)=true∧XO P (QL all i) f w λE w'=>C w'∧XT P all C K G E w') ∧
   (Yd all f (QL all j)=true∧XO P (QL all j) f w λE w'=>C w'∧XT P all C K H E w')) pre f w):XT P all C K (.fk pre i j G H) f w:=h
theorem tp {l:List (Nat×Bool)}(h:XP P all C K l f w):XT P all C K (.pl l) f w:=h
end
end Go.Lg
namespace Go.Proofs.YtjcgijbhaemldaaGreatDoor
open Go.Lg
theorem Z2.ext:∀{a b:LI},Z2 a→Z2 b→(∀x,x∈a↔x∈b)→a=b
 | [],[],_,_,_=>rfl
 | [],y::b,_,_,h=>by have:=(h y).2 Lm;cases this
 | x::a,[],_,_,h=>by have:=(h x).1 Lm;cases this
 | x::a,y::b,ia,ib,h=>by
  have e:x=y:=by
   have h1:=(h x).1 Lm;have h2:=(h y).2 Lm;rcases Le.1 h1 with h1|h1
   ·exact h1
   rcases Le.1 h2 with h2|h2
   ·exact h2.symm
   have:=ib.lt_of h1;have:=ia.lt_of h2;omega
  subst e;congr 1;refine Z2.ext ia.tail ib.tail λz=>?_;have G:=h z;constructor
  ·intro hm;have:=G.1 (Lk _ hm);rcases Le.1 this with h1|h1
   ·have:=ia.lt_of hm;omega
   exact h1
  intro hm;have:=G.2 (Lk _ hm);rcases Le.1 this with h1|h1
  ·have:=ib.lt_of hm;omega
  exact h1
theorem YS (es:List Ed)(s v:Int):nxt es s v=match eget es s v with|some u=>u|none=>-1:=by
 induction es with
 | nil=>rfl
 | cons e es ih =>
  rw[nxt,eget];split
  ·rfl
  exact ih
theorem zm {a:QD}(G:QO a)(s v:Int):0≤nxt a.ed s v↔(eget a.ed s v).isSome=true:=by
 rw[YS];cases h:eget a.ed s v with
 | none=>simp
 | some u=>simp;exact(G.ed _ (Z0 h)).2.2.2.1
end Go.Proofs.YtjcgijbhaemldaaGreatDoor
namespace Go.Lg
section
variable {P:Program}{f:Fr}{w:World}{d:Option Nat}{ty:Nat}{ps:String}{af:Array Edge}{gd:Option (Nat×Bool)}
end
end Go.Lg
namespace Go.Proofs.YtjcgijbhaemldaaGreatDoor
open Go.Lg
section
variable {w4 w w' w'':World}{b:Nat}{m q:Bool}{ve vd:Value}{E D:LI}
end
end Go.Proofs.YtjcgijbhaemldaaGreatDoor
namespace Go.Lg
section
variable {P:Program}{f:Fr}{w:World}{d:Option Nat}{ty:Nat}{ps:String}{af:Array Edge}{gd:Option (Nat×Bool)}
end
end Go.Lg
namespace Go.Proofs.YtjcgijbhaemldaaGreatDoor
open Go.Lg
def grid (g:Nat→Int→Option Ed)(vs:LI)(n:Nat):List Ed:=(List.range' 0 n).flatMap λj=>vs.filterMap (g j)
theorem UP (g:Nat→Int→Option Ed)(vs:LI)(n:Nat):grid g vs (n+1)=grid g vs n++vs.filterMap (g n):=by
 unfold grid;rw[Ml,LG];simp
theorem U7 (l m:List Ed)(s v:Int):eget (l++m) s v=match eget l s v with|some u=>some u|none=>eget m s v:=by
 induction l with
 | nil=>rfl
 | cons e l ih =>
  rw[Mq,eget,eget];split
  ·rfl
  exact ih
def yw (g:Nat→Int→Option Ed):Prop:=∀j v e,g j v=some e→e.1=(j:Int)∧e.2.1=v
theorem Qcs {g:Nat→Int→Option Ed}(E:yw g)(j:Nat)(v:Int):∀(vs:LI),eget (vs.filterMap (g j)) j v=if v∈vs then(g j v).map (·.2.2)else none
 | []=>by simp[eget]
 | u::vs=>by
  have ih:=Qcs E j v vs;rw[MB];cases hu:g j u with
  | none =>
   simp only[];rw[ih];by_cases e:v=u
   ·subst e;simp[hu]
   simp[e]
  | some e =>
   have he:=E j u e hu;simp only[];rw[eget];by_cases e2:u=v
   ·subst e2;rw[if_pos he,if_pos Lm,hu];rfl
   rw[if_neg (λh=>e2 (he.2.symm.trans h.2)),ih];simp[Ne.symm e2]
theorem Qcr {g:Nat→Int→Option Ed}(E:yw g){j i:Nat}(h:j≠i)(v:Int)(vs:LI):eget (vs.filterMap (g j)) i v=none:=by
 refine J3 λe he h2=>?_;obtain⟨u,_,hu⟩:=MG.1 he;have:=E j u e hu;omega
theorem jF {g:Nat→Int→Option Ed}(E:yw g)(vs:LI)(j:Nat)(v:Int):∀n,eget (grid g vs n) j v=if j<n∧v∈vs then(g j v).map (·.2.2)else none
 | 0=>by simp[grid,eget]
 | n+1=>by
  rw[UP,U7,jF E vs j v n];by_cases e:j=n
  ·subst e;rw[if_neg (by omega),Qcs E];simp
  rw[Qcr E (Ne.symm e)];by_cases h:j<n∧v∈vs
  ·rw[if_pos h,if_pos ⟨by omega,h.2⟩];cases(g j v).map (·.2.2) <;> rfl
  rw[if_neg h,if_neg (λh2=>h ⟨by omega,h2.2⟩)]
theorem Qch {g:Nat→Int→Option Ed}{vs:LI}{n:Nat}{e:Ed}(h:e∈grid g vs n):∃j v,j<n∧v∈vs∧g j v=some e:=by
 unfold grid at h;obtain⟨j,hj,h2⟩:=MO.1 h;obtain⟨v,E,h3⟩:=MG.1 h2;rw[L6]at hj;exact⟨j,v,by omega,E,h3⟩
theorem Qfn {g:Nat→Int→Option Ed}(E:yw g){vs:LI}(hi:Z2 vs):∀n,(grid g vs n).Pairwise λx y:Ed=>x.1<y.1∨(x.1=y.1∧x.2.1<y.2.1)
 | 0=>by simp[grid]
 | n+1=>by
  rw[UP,MF];refine⟨Qfn E hi n,X0 (r:=(·<·)) (λx y u v J hu G=>?_) hi,λe he H I=>?_⟩
  ·have h1:=E n x u hu;have h2:=E n y v G;right;omega
  obtain⟨j,v,hj,_,h1⟩:=Qch he;obtain⟨v',_,h2⟩:=MG.1 I;have h3:=E j v e h1;have h4:=E n v' H h2;left;omega
theorem Qp0 (l:List QD):∀(acc:LI),(∀a∈l,Z2 a.al)→Z2 acc→Z2 (l.foldl (λacc a=>mrg (· || ·) acc a.al) acc)∧∀x,x∈l.foldl (λacc a=>mrg (· || ·) acc a.al) acc↔x∈acc∨∃a∈l,x∈a.al:=by
 induction l with
 | nil=>intro acc _ h;exact⟨h,λx=>by simp⟩
 | cons a l ih =>
  intro acc hl h;have ha:=hl a Lm;obtain⟨h1,h2⟩:=ih (mrg (· || ·) acc a.al) (λb hb=>hl b (Lk _ hb)) (qD _ _ _ _ (Lu _) h ha);rw[LM];refine⟨h1,λx=>?_⟩;rw[h2 x,Kf h ha];simp only[List.mem_cons,exists_eq_or_imp];constructor
  ·rintro(⟨h3|h3,_⟩|h3)
   ·exact .inl h3
   ·exact .inr (.inl h3)
   exact .inr (.inr h3)
  rintro(h3|h3|h3)
  ·exact .inl ⟨.inl h3,by simp[h3]⟩
  ·exact .inl ⟨.inr h3,by simp[h3]⟩
  exact .inr h3
theorem QaY {l:List QD}(h:∀a∈l,QO a):Z2 (evs l):=(Qp0 l [] (λa ha=>(h a ha).ali) (by simp)).1
theorem ZO {l:List QD}(h:∀a∈l,QO a)(x:Int):x∈evs l↔∃a∈l,x∈a.al:=by
 have:=(Qp0 l [] (λa ha=>(h a ha).ali) (by simp)).2 x;unfold evs;rw[this];simp
def syF (aa:List QD)(tup:List (LI))(j:Nat)(v:Int):Option Ed:=(Za v aa (tup.getD j [])).map λu=>((j:Int),v,(tup.idxOf u:Int))
theorem Qhd (aa:List QD)(tup:List (LI)):yw (syF aa tup):=by
 intro j v e h;unfold syF at h;obtain⟨u,_,rfl⟩:=L4.1 h;exact⟨O,O⟩
theorem Qcm {α β:Type}{f g:α→Option β}:∀{l:List α},(∀x∈l,f x=g x)→l.filterMap f=l.filterMap g
 | [],_=>rfl
 | x::l,h=>by rw[MB,MB,h x Lm,Qcm (λy hy=>h y (Lk _ hy))]
theorem Qi3 {α β:Type}{f:α→Option β}{v:α}{e:β}(h:f v=some e):[v].filterMap f=[e]:=by rw[MB,h];rfl
theorem Ql0 {α β:Type}{f:α→Option β}{v:α}(h:f v=none):[v].filterMap f=[]:=by rw[MB,h];rfl
theorem Qhe {aa:List QD}{tup:List (LI)}{j:Nat}{v:Int}(h:Za v aa (tup.getD j [])=none):syF aa tup j v=none:=by unfold syF;rw[h];rfl
theorem Qbw {aa:List QD}{tup:List (LI)}{j:Nat}{v:Int}{u:LI}(h:Za v aa (tup.getD j [])=some u):syF aa tup j v=some ((j:Int),v,(tup.idxOf u:Int)):=by unfold syF;rw[h];rfl
def Clo (aa:List QD)(tup:List (LI))(j:Nat)(vs:LI):Prop:=∀v∈vs,∀u,Za v aa (tup.getD j [])=some u→u∈tup
theorem KS {tup r:List (LI)}{j:Nat}(h:j<tup.length):(tup++r).getD j []=tup.getD j []:=by simp[List.getD,List.getElem?_append_left h]
theorem Qew {aa:List QD}{tup r:List (LI)}{j:Nat}{vs:LI}(hj:j<tup.length)(hc:Clo aa tup j vs):vs.filterMap (syF aa (tup++r) j)=vs.filterMap (syF aa tup j):=by
 refine Qcm λv E=>?_;unfold syF;rw[KS hj];cases hs:Za v aa (tup.getD j [])with
 | none=>rfl
 | some u =>
  have hu:=hc v E u hs;simp only[Option.map_some,Option.some.injEq,Prod.mk.injEq,true_and];rw[Mn,if_pos hu]
theorem Clo.pre {aa:List QD}{tup r:List (LI)}{j:Nat}{vs:LI}(hj:j<tup.length)(hc:Clo aa tup j vs):Clo aa (tup++r) j vs:=by
 intro v E u hu;rw[KS hj]at hu;exact Ly _ (hc v E u hu)
theorem Ka {α:Type}{l:List α}{u:α}(h:l.Nodup)(hu:u∉l):(l++[u]).Nodup:=by
 rw[Mx];exact⟨h,by simp,λa ha b hb=>by simp only[List.mem_singleton]at hb;subst hb;exact λe=>hu (by rw[←e];exact ha)⟩
theorem y9 {aa:List QD}{i:Nat}:∀(vs:LI) (s E:Sy),i<s.tup.length→s.tup.Nodup→KG aa i (UA s i) vs s=some E →
  ∃r,E.tup=s.tup++r∧E.mk'=s.mk'∧E.ed=s.ed++vs.filterMap (syF aa E.tup i)∧Clo aa E.tup i vs∧E.tup.Nodup
 | [],s,E,_,hd,e=>by cases e;exact⟨[],by simp,rfl,by simp,λv Y=>(by cases Y),hd⟩
 | v::vs,s,E,hi,hd,e=>by
  rw[KG]at e;obtain⟨G,h1,h2⟩:=Mc.1 e;have key:∃I,G.tup=s.tup++I∧G.mk'=s.mk'∧G.ed=s.ed++[v].filterMap (syF aa G.tup i)∧Clo aa G.tup i [v]∧G.tup.Nodup:=by
   unfold syE at h1;have eT:UA s i=s.tup.getD i []:=rfl;rw[eT]at h1;cases hs:Za v aa (s.tup.getD i [])with
   | none =>
    rw[hs]at h1;cases h1
    refine⟨[],by simp,rfl,by rw[Ql0 (Qhe hs),List.append_nil],λv' hv' u hu=>?_,hd⟩;simp only[List.mem_singleton]at hv';subst hv';rw[hs]at hu;cases hu
   | some u =>
    rw[hs]at h1;simp only[]at h1;by_cases hu:u∈s.tup
    ·rw[if_pos hu]at h1;cases h1
     refine⟨[],by simp,rfl,by rw[Qi3 (Qbw hs)],λv' hv' u' H=>?_,hd⟩;simp only[List.mem_singleton]at hv';subst hv';simp only[]at H ⊢;rw[hs]at H;cases H;exact hu
    rw[if_neg hu]at h1;split at h1
    ·cases h1
    cases h1
    have e2:(s.tup++[u]).getD i []=s.tup.getD i []:=KS hi;have e3:(s.tup++[u]).idxOf u=s.tup.length:=by rw[Mn,if_neg hu];simp
    refine⟨[u],O,O,?_,λv' hv' u' H=>?_,Ka hd hu⟩
    ·rw[Qi3 (Qbw (tup:=s.tup++[u]) (u:=u) (by rw[e2];exact hs)),e3]
    simp only[List.mem_singleton]at hv';subst hv';simp only[]at H ⊢;rw[e2,hs]at H;cases H;simp
  obtain⟨I,k1,k2,k3,V,k5⟩:=key;have J:i<G.tup.length:=by rw[k1];simp;omega
  have eT:UA G i=UA s i:=by unfold UA;rw[k1];exact KS hi
  rw[←eT]at h2;obtain⟨r2,U,g2,g3,g4,g5⟩:=y9 vs G E J k5 h2;refine⟨I++r2,by rw[U,k1,LA],g2.trans k2,?_,?_,g5⟩
  ·rw[g3,k3,LA];congr 1;rw[show v::vs=[v]++vs from rfl,List.filterMap_append];congr 1;rw[U];exact(Qew J V).symm
  intro v' hv' u hu;rcases Le.1 hv' with rfl|hv'
  ·have:=V.pre (r:=r2) J;rw[←U]at this;exact this v' Lm u hu
  exact g4 v' hv' u hu
structure SyG (aa:List QD)(i:Nat)(s:Sy):Prop where
 nd:s.tup.Nodup
 le:i≤s.tup.length
 hd:s.tup.getD 0 []=List.replicate aa.length 0∧0<s.tup.length
 mk2:s.mk'=((List.range' 0 i).filter λj=>YT aa (s.tup.getD j [])).map λj:Nat=>(j:Int)
 ed:s.ed=grid (syF aa s.tup) (evs aa) i
 cl:∀j,j<i→Clo aa s.tup j (evs aa)
theorem Jj {α β:Type}{f g:α→List β}:∀{l:List α},(∀x∈l,f x=g x)→l.flatMap f=l.flatMap g
 | [],_=>rfl
 | x::l,h=>by rw[LW,LW,h x Lm,Jj (λy hy=>h y (Lk _ hy))]
theorem SyG.next {aa:List QD}{i:Nat}{s E:Sy}(h:SyG aa i s)(hi:i<s.tup.length)(e:KG aa i (UA s i) (evs aa) (ZB aa i (UA s i) s)=some E):SyG aa (i+1) E:=by
 have ht:(ZB aa i (UA s i) s).tup=s.tup:=by unfold ZB;split <;> rfl
 have U:(ZB aa i (UA s i) s).ed=s.ed:=by unfold ZB;split <;> rfl
 have I:UA (ZB aa i (UA s i) s) i=UA s i:=by show(ZB aa i (UA s i) s).tup.getD i []=s.tup.getD i [];rw[ht]
 rw[←I]at e;obtain⟨r,G,V,J,Y,g5⟩:=y9 (evs aa) _ E (by rw[ht];exact hi) (by rw[ht];exact h.nd) (by rw[I]at e ⊢;exact e);rw[ht]at G;rw[U]at J;have pre:∀j,j≤i→E.tup.getD j []=s.tup.getD j []:=λj hj=>by rw[G];exact KS (by omega)
 refine⟨g5,by rw[G];simp;omega,⟨by rw[pre 0 (by omega)];exact h.hd.1,by rw[G];simp;omega⟩,?_,?_,λj hj=>?_⟩
 ·rw[V,Ml,L8,Lx,LR];have e1:((List.range' 0 i).filter λj=>YT aa (E.tup.getD j []))=(List.range' 0 i).filter λj=>YT aa (s.tup.getD j []):=by
   refine List.filter_congr λj hj=>?_;rw[L6]at hj;rw[pre j (by omega)]
  rw[e1];unfold ZB;by_cases hm:YT aa (UA s i)=true
  ·rw[if_pos hm];have H:YT aa (E.tup.getD i [])=true:=by rw[pre i (Lu _)];exact hm
   simp only[List.filter_cons,H,if_true,List.filter_nil,List.map_cons,List.map_nil];rw[h.mk2]
  rw[if_neg hm];have H:YT aa (E.tup.getD i [])=false:=by rw[pre i (Lu _)];exact eq_false_of_ne_true hm
  rw[Mi,if_neg (by rw[H];simp),Nc,h.mk2];simp
 ·rw[J,UP,h.ed];congr 1;unfold grid;refine Jj λj hj=>?_;rw[L6]at hj;rw[G];exact(Qew (by omega) (h.cl j (by omega))).symm
 by_cases e2:j=i
 ·subst e2;exact Y
 have:=(h.cl j (by omega)).pre (r:=r) (by omega);rw[←G]at this;exact this
theorem Qbv {aa:List QD}:∀(f i:Nat) (s E:Sy),SyG aa i s→j7 aa f i s=some E→∃G,SyG aa G E∧(E.tup.length=G∨G=i+f)
 | 0,i,s,E,h,e=>by cases e;exact⟨i,h,.inr O⟩
 | f+1,i,s,E,h,e=>by
  rw[j7]at e;split at e
  ·rename_i hi;obtain⟨H,h1,h2⟩:=Mc.1 e;obtain⟨G,h3,h4⟩:=Qbv f (i+1) H E (h.next hi h1) h2;exact⟨G,h3,by omega⟩
  cases e;exact⟨i,h,.inl (by have:=h.le;omega)⟩
structure yV (aa:List QD)(A:QD)(Q:List (LI)):Prop where
 al:A.al=evs aa
 st:A.st=(Q.length:Int)
 nd:Q.Nodup
 v:∀t∈Q,Vt aa t
 le:Q.length≤4096
 hd:0<Q.length→Q.getD 0 []=List.replicate aa.length 0
 mk2:A.mr=((List.range' 0 Q.length).filter λj=>YT aa (Q.getD j [])).map λj:Nat=>(j:Int)
 ed:A.ed=grid (syF aa Q) (evs aa) Q.length
 cl:∀j,j<Q.length→Clo aa Q j (evs aa)
theorem YE {aa:List QD}(H:∀a∈aa,QO a){A:QD}{Q:List (LI)}(h:sync aa=some (A,Q)):yV aa A Q∧(Q.length=0↔∃a∈aa,a.st=0):=by
 have E:=j5 H h;unfold sync at h;split at h
 ·rename_i G;cases h
  exact⟨⟨O,O,by simp,by simp,by simp,λh=>by simp at h,by simp,by simp[grid],λj hj=>by simp at hj⟩,by simpa using G⟩
 rename_i G;obtain⟨s,h1,h2⟩:=L4.1 h;have I:SyG aa 0 (qg aa):=⟨by simp[qg],by simp,⟨by simp[qg],by simp[qg]⟩,by simp[qg],by simp[qg,grid],λj hj=>by omega⟩;obtain⟨J,h3,h4⟩:=Qbv 4096 0 (qg aa) s I h1;cases h2
 have hl:J=s.tup.length:=by
  have h5:=h3.le;have h6:=E.2;simp only[]at h6;omega
 subst hl;refine⟨⟨rfl,O,h3.nd,E.1,E.2,λ_=>h3.hd.1,h3.mk2,h3.ed,h3.cl⟩,?_⟩;have:=h3.hd.2;constructor
 ·intro h;have U:s.tup.length=0:=h;omega
 intro h;exact absurd h G
theorem yV.step {aa:List QD}{A:QD}{Q:List (LI)}(h:yV aa A Q){j:Nat}(hj:j<Q.length)(v:Int):
  eget A.ed j v=if v∈evs aa then(Za v aa (Q.getD j [])).map λu=>(Q.idxOf u:Int)else none:=by
 rw[h.ed,jF (Qhd aa Q)];by_cases E:v∈evs aa
 ·rw[if_pos ⟨hj,E⟩,if_pos E];unfold syF;rw[Option.map_map];rfl
 rw[if_neg (λe=>E e.2),if_neg E]
theorem yV.to {aa:List QD}{A:QD}{Q:List (LI)}(h:yV aa A Q){j:Nat}(hj:j<Q.length){v:Int}(E:v∈evs aa){u:LI}(hu:Za v aa (Q.getD j [])=some u):Q.idxOf u<Q.length∧Q.getD (Q.idxOf u) []=u:=by
 have hm:=h.cl j hj v E u hu;have hl:=LS hm;refine⟨hl,?_⟩;simp[List.getD,hl]
theorem yV.okay {aa:List QD}(E:∀a∈aa,QO a){A:QD}{Q:List (LI)}(h:yV aa A Q):QO A:=by
 have I:=h.le;refine⟨λe he=>?_,by rw[h.al];exact QaY E,by rw[h.st];omega,by rw[h.st];omega,λs hs=>?_,?_,λe he=>?_,by rw[h.ed];exact Qfn (Qhd aa Q) (QaY E) _⟩
 ·rw[h.al]at he;obtain⟨a,ha,hx⟩:=(ZO E e).1 he;exact(E a ha).al e hx
 ·rw[h.mk2]at hs;simp only[List.mem_map,List.mem_filter,List.mem_range'_1]at hs;obtain⟨i,⟨hi,_⟩,rfl⟩:=hs;rw[h.st];omega
 ·rw[h.mk2];unfold Z2;rw[Mm];refine List.Pairwise.sublist MI ?_;exact(Na (s:=0) (n:=Q.length)).imp (λh=>by omega)
 rw[h.ed]at he;obtain⟨j,v,hj,G,H⟩:=Qch he;unfold syF at H;obtain⟨u,hu,rfl⟩:=L4.1 H;have:=(h.to hj G hu).1;rw[h.st,h.al];exact⟨by simp only[];omega,by simp only[];omega,G,by simp only[];omega,by simp only[];omega⟩
open Go.Proofs.Tryz
def IxQ {α:Type}(q:α→Bool)(es:List α)(r:Value):Prop:=(r=.int .i64 (-1)∧∀m (hm:m<es.length),q (es[m]'hm)=false)∨∃(i:Nat) (hi:i<es.length),r=.int .i64 i∧q (es[i]'hi)=true∧∀m (hm:m<i),q (es[m]'(by omega))=false
theorem QlS {g:Nat}{fn:Func}[Fu prog g fn]{cap:LV}{q:Ed→Bool}{L:LN}{w:World}{v:Value}{es:List Ed}(h:qe L w.heap v es)
  (hk:∀(e:Ed) (E:World),Step [] w E→QH prog g ([.agg (QB e).toArray]++cap) E λr w'=>r=.bool (q e)∧Step [] E w'):
  QH prog 228 [v,.func (.func g) #[] cap.toArray] w λr w'=>Step [] w w'∧IxQ q es r:=by
 have Y:=h.le;refine QH.of_W func228 O ntmps228 results228 (by simp) ?_;refine Qc<|Qf<|Qg<|Qc<|Qb<|x (Qr h O)<|Qb<|xe<|Qh<|Qz (α:=Nat) [(4,5),(8,18)] (λz=>[(8,.int .i64 z)]) (λz w'=>z≤es.length∧Step [] w w'∧∀m (hm:m<es.length),m<z→q (es[m]'hm)=false) (λz=>es.length - z) (by rfl) 0 La ⟨Ll _,Step.refl _ _,λm _ U=>absurd U (Me m)⟩ ?_;rintro k g1 E ⟨hk1,G,hq⟩
 refine Qc<|x (QA O O)<|xe<|Qg<|QC O (λh9=>?_) (λh9=>?_)
 ·refine Qy<|Qc<|Qf ?_;exact Ql ⟨[.int .i64 (-1)],La,G,.inl ⟨O,λm hm=>hq m hm (by omega)⟩⟩
 have H:k<es.length:=by omega
 refine Qi<|Qg<|Qh<|Qc<|Qb<|Qf<|Qc<|Qb<|Qb<|Qb<|xie (h.ext G) O O H λha V=>x (QI V O O)<|xl O<|xc (first:=[]) (capt:=cap) O<|(hk (es[k]'H) E G).mono ?_;rintro r2 w2 ⟨rfl,J⟩;refine xe<|QZ rfl (λI=>?_) (λI=>?_)
 ·refine Qc<|Qb<|Qf ?_;exact Ql ⟨[.int .i64 k],La,G.trans J,.inr ⟨k,H,O,I,λm hm=>hq m (by omega) hm⟩⟩
 refine Qi<|Qw<|QP O O<|Qb<|xe<|⟨k+1,by omega,La,H,G.trans J,λm hm hb=>?_⟩;by_cases e:m=k
 ·subst e;exact I
 exact hq m hm (by omega)
theorem QlR {g:Nat}{fn:Func}[Fu prog g fn]{cap:LV}{q:Int→Bool}{L:LN}{w:World}{v:Value}{es:LI}(h:QJ L w.heap v es)
  (hk:∀(e:Int) (E:World),Step [] w E→QH prog g ([.int .i64 e]++cap) E λr w'=>r=.bool (q e)∧Step [] E w'):
  QH prog 111 [v,.func (.func g) #[] cap.toArray] w λr w'=>Step [] w w'∧IxQ q es r:=by
 have Y:=h.le;refine QH.of_W func111 O ntmps111 results111 (by simp) ?_;refine Qc<|Qf<|Qg<|Qc<|Qb<|x (Qr h O)<|Qb<|xe<|Qh<|Qz (α:=Nat) [(4,5),(8,18)] (λz=>[(8,.int .i64 z)]) (λz w'=>z≤es.length∧Step [] w w'∧∀m (hm:m<es.length),m<z→q (es[m]'hm)=false) (λz=>es.length - z) (by rfl) 0 La ⟨Ll _,Step.refl _ _,λm _ U=>absurd U (Me m)⟩ ?_;rintro k g1 E ⟨hk1,G,hq⟩
 refine Qc<|x (QA O O)<|xe<|Qg<|QC O (λh9=>?_) (λh9=>?_)
 ·refine Qy<|Qc<|Qf ?_;exact Ql ⟨[.int .i64 (-1)],La,G,.inl ⟨O,λm hm=>hq m hm (by omega)⟩⟩
 have H:k<es.length:=by omega
 refine Qi<|Qg<|Qh<|Qc<|Qb<|Qf<|Qc<|Qb<|Qb<|Qb<|xii (h.ext G) O O H λha V=>x (Qv V O)<|xl O<|xc (first:=[]) (capt:=cap) O<|(hk (es[k]'H) E G).mono ?_;rintro r2 w2 ⟨rfl,J⟩;refine xe<|QZ rfl (λI=>?_) (λI=>?_)
 ·refine Qc<|Qb<|Qf ?_;exact Ql ⟨[.int .i64 k],La,G.trans J,.inr ⟨k,H,O,I,λm hm=>hq m (by omega) hm⟩⟩
 refine Qi<|Qw<|QP O O<|Qb<|xe<|⟨k+1,by omega,La,H,G.trans J,λm hm hb=>?_⟩;by_cases e:m=k
 ·subst e;exact I
 exact hq m hm (by omega)
theorem QfE {g:Nat}{fn:Func}[Fu prog g fn]{cap:LV}{q:Int→Bool}{L:LN}{w:World}{v:Value}{es:LI}(h:QJ L w.heap v es)
  (hk:∀(e:Int) (G:World),Step [] w G→QH prog g ([.int .i64 e]++cap) G λr w'=>r=.bool (q e)∧Step [] G w'):
  QH prog 153 [v,.func (.func g) #[] cap.toArray] w λr w'=>r=.bool (es.any q)∧Step [] w w':=by
 refine QH.of_W func153 O ntmps153 results153 (by simp) ?_;refine Qc<|Qf<|Qc<|Qb<|Qb<|xl O<|xf<|(QlR h hk).mono ?_;rintro J G ⟨H,E⟩;refine Or.elim E (λE=>?_) (λE=>?_)
 ·obtain⟨rfl,hq⟩:=E;have e:es.any q=false:=by
   rw[M8];intro z I;obtain⟨i,hi,rfl⟩:=LB I;rw[hq i hi];simp
  refine x (ZV O O)<|Qf ?_;exact Ql ⟨[.bool false],La,by rw[e];rfl,H⟩
 obtain⟨i,hi,rfl,h1,_⟩:=E;have e:es.any q=true:=Mo.2 ⟨_,Lc hi,h1⟩;have e2:decide ((0:Int)≤(i:Int))=true:=by simp
 refine x (ZV O O)<|Qf ?_;exact Ql ⟨[.bool (decide ((0:Int)≤(i:Int)))],La,by rw[e,e2];rfl,H⟩
theorem QeX (es:List Ed)(s v:Int):nxt es s v=nxt (Zu es s) s v:=by
 induction es with
 | nil=>rfl
 | cons e es ih =>
  unfold Zu at *;rw[Mi];by_cases h:e.1=s
  ·rw[if_pos (by simpa using h),nxt,nxt,ih]
  rw[if_neg (by simpa using h),nxt,if_neg (λc=>h c.1),ih]
theorem QdC:∀(l:List Ed) (s v:Int) (i:Nat) (hi:i<l.length),(∀e∈l,e.1=s)→(l[i]'hi).2.1=v→(∀m (hm:m<i),(l[m]'(by omega)).2.1≠v)→nxt l s v=(l[i]'hi).2.2
 | e::l,s,v,0,_,hs,E,_=>by rw[nxt,if_pos ⟨hs e Lm,E⟩];rfl
 | e::l,s,v,i+1,hi,hs,E,hm=>by
  rw[nxt,if_neg (λc=>hm 0 (by omega) c.2)];exact QdC l s v i (by simpa using hi) (λe he=>hs e (Lk _ he)) E (λm G=>hm (m+1) (by omega))
theorem Qh8:∀(l:List Ed) (s v:Int),(∀e∈l,e.2.1≠v)→nxt l s v=-1
 | [],_,_,_=>rfl
 | e::l,s,v,h=>by rw[nxt,if_neg (λc=>h e Lm c.2)];exact Qh8 l s v (λe he=>h e (Lk _ he))
theorem Qig {b T:Nat}{n:Int}(e:Ed)(w:World)(G:QT w.heap b T [.int .i64 n]):
  QH prog 229 ([.agg (QB e).toArray]++[.pointer (some ⟨b,0,none⟩)]) w λr w'=>r=.bool (decide (e.2.1=n))∧Step [] w w':=by
 refine QH.of_W func229 O ntmps229 results229 (by simp) ?_;refine Qc<|xl O<|QR (us:=QB e) O λI J E U H=>Qf<|Qc<|x (Qa O)<|x (Qd H O O)<|x (Qd (G.ext E) O O)<|x (Zr O O)<|Qf ?_;exact Ql ⟨[_],La,O,E⟩
theorem QcT {L:LN}{w:World}{va vm ve:Value}{st:Int}{a:QD}(h:qe L w.heap ve a.ed)(G:QO a)(s v:Int)(hb:0≤s)(I:s<a.st):
  QH prog 198 [.agg #[va,.int .i64 st,vm,ve],.int .i64 s,.int .i64 v] w λr w'=>r=.int .i64 (nxt a.ed s v)∧Step [] w w':=by
 have hj:=G.st1;refine QH.of_W func198 O ntmps198 results198 (by simp) ?_;refine Qc<|xl O<|QR (us:=[va,.int .i64 st,vm,ve]) O λb3 w1 I hk hc=>xl O<|QR (us:=[.int .i64 v]) O λb5 w2 J hl hf=>Qf<|Qc<|x (Qo (hc.ext J) O O)<|Qb<|xl O<|xf<|(Qaz ((h.ext I).ext J) G.eds (λe he=>⟨(G.ed e he).1,by have:=(G.ed e he).2.1;omega⟩) s hb (by omega)).mono ?_;rintro vo w3 ⟨U,hE⟩;refine Qf ?_
 have hg:∀e∈Zu a.ed s,e.1=s:=λe he=>(Zx he).2;rw[QeX];refine Qc<|Qb<|x (Zo (l:=[]) (l':=[.tmp 5]))<|xl O<|xf<|(QlS (q:=λe=>decide (e.2.1=v)) (cap:=[.pointer (some ⟨b5,0,none⟩)]) hE (λe V H=>Qig e V ((hf.ext U).ext H))).mono ?_;rintro r4 V ⟨H,E⟩;have Y:=((I.trans J).trans U).trans H;refine Or.elim E (λE=>?_) (λE=>?_)
 ·obtain⟨rfl,hq⟩:=E;have e1:nxt (Zu a.ed s) s v=-1:=Qh8 _ _ _ λe he=>by
   obtain⟨i,hi,rfl⟩:=LB he;simpa using hq i hi
  rw[e1];refine Qf<|Qg<|Qc<|Qb<|x (QA O O)<|xe<|yq O ?_;refine Qc<|Qf ?_;exact Ql ⟨[.int .i64 (-1)],La,O,Y⟩
 obtain⟨i,hi,rfl,h1,h2⟩:=E;have e1:nxt (Zu a.ed s) s v=((Zu a.ed s)[i]'hi).2.2:=QdC _ s v i hi hg (by simpa using h1) (λm hm=>by simpa using h2 m hm);rw[e1];refine Qf<|Qg<|Qc<|Qb<|x (QA O O)<|xe<|Q3 O (λha=>absurd ha (by omega)) (λha=>?_);refine Qi<|Qc<|Qb<|Qb<|xie (hE.ext H) O O hi λhn hh=>x (Zf O)<|x (Qv (hh.fld 2 _ O) O)<|Qf ?_;exact Ql ⟨[_],La,O,Y⟩
def flw (a:QD):Int→LI→Int×Nat
 | s,[]=>(s,0)
 | s,v::u=>if nxt a.ed s v<0 then(s,0)else((flw a (nxt a.ed s v) u).1,(flw a (nxt a.ed s v) u).2+1)
theorem QdB {a:QD}(E:QO a){s v:Int}(h:¬nxt a.ed s v<0):nxt a.ed s v<a.st:=(E.ed _ (Vf (by omega))).2.2.2.2
theorem jA {L L':LN}{w:World}{va vm ve vw:Value}{st:Int}{a:QD}{u:LI}(h:qe L w.heap ve a.ed)(H:QJ L' w.heap vw u)(V:QO a)(s:Int)(hg:0≤s)(Y:s<a.st):
  QH prog 161 [.agg #[va,.int .i64 st,vm,ve],.int .i64 s,vw] w λr w'=>r=.tuple #[.int .i64 (flw a s u).1,.int .i64 (flw a s u).2]∧Step [] w w':=by
 have hl:=H.le;refine QH.of_W func161 O ntmps161 results161 (by simp) ?_;refine Qc<|xl O<|QR (us:=[va,.int .i64 st,vm,ve]) O λb3 w1 Y hm hh=>x Qe<|Qf<|Qg<|Qc<|Qb<|x (Qr H O)<|Qb<|xe ?_
 refine Qh<|Qz (α:=Nat×Int) [(1,1),(6,10),(13,27)] (λz=>[(1,.int .i64 z.2),(13,.int .i64 z.1)]) (λz w'=>z.1≤u.length∧0≤z.2∧z.2<a.st∧Step [] w1 w'∧flw a s u=((flw a z.2 (u.drop z.1)).1,(flw a z.2 (u.drop z.1)).2+z.1)) (λz=>u.length - z.1) (by rfl) (0,s) ⟨O,O,Z⟩ ⟨Ll _,hg,by assumption,Step.refl _ _,by simp⟩ ?_;rintro⟨k,t⟩ g w2 ⟨hk,ha,hb,U,E⟩;simp only[]at hk ha hb E
 have I:=Y.trans U;refine Qc<|x (QA O O)<|xe<|Qg<|QC O (λhc=>?_) (λhc=>?_)
 ·refine Qy<|Qc<|Qb<|Qb<|x (Qr H O)<|x Qe<|Qf ?_;rw[Lv (by omega)]at E;have hi:k=u.length:=by have hp:¬(k:Int)<(u.length:Int):=hc;omega
  refine Ql ⟨[.int .i64 t,.int .i64 u.length],⟨O,O,Z⟩,?_,I⟩;rw[E,hi];simp[flw,tup]
 have G:k<u.length:=by omega
 rw[Q5 G,flw]at E;refine Qi<|Qg<|Qh<|Qc<|Qb<|xii (H.ext I) O O G λhq hj=>x (Qv hj O)<|x Qe<|Qf<|Qc<|x (Qo (hh.ext U) O O)<|Qb<|Qb<|xl O<|xf<|(QcT (h.ext I) V t (u[k]'G) ha hb).mono ?_;rintro r3 w3 ⟨rfl,he⟩;refine Qf<|Qg<|Qc<|Qb<|x (QA O O)<|xe<|Q3 rfl (λJ=>?_) (λJ=>?_)
 ·rw[if_pos J]at E;refine Qc<|Qb<|Qb<|x Qe<|Qf<|Ql ⟨[.int .i64 t,.int .i64 k],⟨O,O,Z⟩,?_,I.trans he⟩;rw[E];simp[tup]
 rw[if_neg J]at E;have hn:=QdB V J;refine Qi<|Qw<|Qb<|Qf<|Qw<|QP O O<|Qb<|xe<|⟨(k+1,nxt a.ed t (u[k]'G)),by simp only[];omega,⟨O,O,Z⟩,G,by simp only[];omega,hn,U.trans he,?_⟩;simp only[];rw[E];simp;omega
def rchd (a:QD)(u:LI):Int×Bool:=if a.st=0 then(0,false)else((flw a 0 u).1,decide (((flw a 0 u).2:Int)=(u.length:Int)))
theorem Qds {L L':LN}{w:World}{va vm ve vw:Value}{a:QD}{u:LI}(h:qe L w.heap ve a.ed)(H:QJ L' w.heap vw u)(I:QO a):
  QH prog 159 [.agg #[va,.int .i64 a.st,vm,ve],vw] w λr w'=>r=.tuple #[.int .i64 (rchd a u).1,.bool (rchd a u).2]∧Step [] w w':=by
 have V:=I.st0;refine QH.of_W func159 O ntmps159 results159 (by simp) ?_;refine Qc<|xl O<|QR (us:=[va,.int .i64 a.st,vm,ve]) O λY w1 E ha J=>x Qe<|Qf<|Qg<|Qc<|x (Qa O)<|x (Qd J O O)<|x (Zr O O)<|xe ?_;unfold rchd;refine Q3 rfl (λG=>?_) (λG=>?_)
 ·refine Qc<|x Qe<|Qf ?_;exact Ql ⟨[.int .i64 0,.bool false],⟨O,O,Z⟩,by rw[if_pos G];rfl,E⟩
 rw[if_neg G];refine Qi<|Qc<|x (Qo J O O)<|Qb<|xl O<|xf<|(jA (h.ext E) (H.ext E) I 0 (by omega) (by omega)).mono ?_;rintro r2 w2 ⟨rfl,U⟩;refine Qb<|x (Qj O O)<|x (Qj O O) <|
  x Qe<|Qf<|Qc<|Qb<|Qb<|Qb<|x (Qr H O)<|x (Zr O O)<|x Qe<|Qf ?_
 exact Ql ⟨[_,_],⟨O,O,Z⟩,O,E.trans U⟩
def gens (a:QD)(u:LI):Bool:=if Xq a≠0 then false else(rchd a u).2
theorem Qbd {L L':LN}{w:World}{va vm ve vw:Value}{a:QD}{u:LI}(h:Zm L w.heap va vm ve a)(U:QJ L' w.heap vw u):
  QH prog 102 [.agg #[va,.int .i64 a.st,vm,ve],vw] w λr w'=>r=.tuple #[.bool (gens a u),.int .i64 (Xq a)]∧Step [] w w':=by
 refine QH.of_W func102 O ntmps102 results102 (by simp) ?_;refine Qc<|xl O<|QR (us:=[va,.int .i64 a.st,vm,ve]) O λY w1 G ha J=>x Qe<|Qf<|Qg<|Qc<|x (Qo J O O)<|xl O<|xf<|(YU (h.ext G)).mono ?_;rintro r2 w2 ⟨rfl,H⟩;refine Qf<|Qc<|Qb<|x (Q6 O O)<|xe ?_;unfold gens;refine Q3 rfl (λE=>?_) (λE=>?_)
 ·refine Qc<|Qb<|x Qe<|Qf ?_;exact Ql ⟨[_,_],⟨O,O,Z⟩,by rw[if_pos E];rfl,G.trans H⟩
 have hc:Xq a=0:=Ln.1 E;rw[if_neg E,hc];have I:=G.trans H;refine Qi<|Qc<|x (Qo (J.ext H) O O)<|Qb<|xl O<|xf<|(Qds (h.ed.ext I) (U.ext I) ((Zs a).1 hc)).mono ?_;rintro r3 w3 ⟨rfl,V⟩;refine Qb<|x (Qj O O) <|
  x (Qj rfl O)<|x Qe<|Qf<|Qc<|Qb<|x Qe<|Qf ?_
 exact Ql ⟨[_,_],⟨O,O,Z⟩,O,I.trans V⟩
def cks (a:QD)(s:Int):Int:=if Xq a≠0 then Xq a else if s<0∨a.st≤s then 2 else 0
theorem JP {L:LN}{w:World}{va vm ve:Value}{a:QD}(h:Zm L w.heap va vm ve a)(s:Int):
  QH prog 104 [.agg #[va,.int .i64 a.st,vm,ve],.int .i64 s] w λr w'=>r=.int .i64 (cks a s)∧Step [] w w':=by
 refine QH.of_W func104 O ntmps104 results104 (by simp) ?_;refine Qc<|xl O<|QR (us:=[va,.int .i64 a.st,vm,ve]) O λY w1 I ha J=>Qf<|Qg<|Qc<|x (Qo J O O)<|xl O<|xf<|(YU (h.ext I)).mono ?_;rintro r2 V ⟨rfl,U⟩;refine Qf ?_;unfold cks;have E:=I.trans U;refine Qc<|Qb<|x (Q6 O O)<|xe<|Q3 rfl (λh9=>?_) (λh9=>?_)
 ·refine Qc<|Qb<|Qf ?_;exact Ql ⟨[_],La,by rw[if_pos h9];rfl,E⟩
 rw[if_neg h9];refine Qi<|Qg<|QX (α:=Unit) [(11,18)] (λz=>[(18,.bool (decide (s<0∨a.st≤s)))]) (λz w'=>w'=V) (by rfl) ?_ ?_
 ·refine Qw<|Qb<|xb (QA O O) (λG=>?_) (λG=>?_)
  ·refine Qb<|xs O<|xs O<|xs O<|xs O<|x (Qp O)<|xe ?_;exact⟨(),⟨by rw[decide_eq_true (Or.inl G)];rfl,Z⟩,O⟩
  refine Qb<|Qb<|x (Qa O)<|x (Qd (J.ext U) O O)<|x (ZV O O)<|x (Qp O)<|xe ?_;exact⟨(),⟨by show Value.bool (decide (a.st≤s))=_;simp[G],Z⟩,rfl⟩
 rintro z g w3 rfl;refine Q3 rfl (λH=>?_) (λH=>?_)
 ·refine Qc<|Qf ?_;exact Ql ⟨[_],La,by rw[if_pos H];rfl,E⟩
 refine Qi<|Qc<|Qf ?_;exact Ql ⟨[_],La,by rw[if_neg H];rfl,E⟩
theorem QcB {a:QD}{s:Int}(h:cks a s=0):QO a∧0≤s∧s<a.st:=by
 unfold cks at h;split at h
 ·rename_i h1;exact absurd h h1
 rename_i h1;split at h
 ·cases h
 rename_i h2;exact⟨(Zs a).1 (Ln.1 h1),by omega,by omega⟩
theorem Qk1 {L:LN}{b T:Nat}{va:Value}{al:LI}{us:LV}(e:Int)(w:World)(E:QT w.heap b T (va::us))(G:QJ L w.heap va al):
  QH prog 160 ([.int .i64 e]++[.pointer (some ⟨b,0,none⟩)]) w λr w'=>r=.bool (decide (e∉al))∧Step [] w w':=by
 refine QH.of_W func160 O ntmps160 results160 (by simp) ?_;refine Qc<|Qf<|Qc<|x (Qa O)<|x (Qd E O O)<|Qb<|xl O<|xf<|(Yl G e).mono ?_;rintro H I ⟨rfl,rfl⟩;refine x (Zt O)<|Qf<|Ql ⟨[_],La,?_,Step.refl _ _⟩;show Value.bool (!decide (e∈al))=_;rw[decide_not]
def QhD (a:QD)(s:Int)(u:LI):Int:=if cks a s≠0 then cks a s else if(u.any λe=>decide (e∉a.al))=true then 9 else 0
theorem Qo3 {L L':LN}{w:World}{va vm ve vw:Value}{a:QD}{u:LI}(h:Zm L w.heap va vm ve a)(Y:QJ L' w.heap vw u)(s:Int):
  QH prog 103 [.agg #[va,.int .i64 a.st,vm,ve],.int .i64 s,vw] w λr w'=>Step [] w w'∧r=if QhD a s u≠0 then .tuple #[.int .i64 0,.int .i64 0,.int .i64 (QhD a s u)]else .tuple #[.int .i64 (flw a s u).1,.int .i64 (flw a s u).2,.int .i64 0]:=by
 refine QH.of_W func103 O ntmps103 results103 (by simp) ?_;refine Qc<|xl O<|QR (us:=[va,.int .i64 a.st,vm,ve]) O λb3 w1 ha he J=>x Qe<|x Qe<|Qf<|Qg<|Qc<|x (Qo J O O)<|Qb<|xl O<|xf<|(JP (h.ext ha) s).mono ?_;rintro r2 w2 ⟨rfl,U⟩;refine Qf ?_;have G:=ha.trans U;unfold QhD;refine Qc<|Qb<|x (Q6 O O)<|xe<|Q3 rfl (λE=>?_) (λE=>?_)
 ·refine Qc<|Qb<|x Qe<|x Qe<|Qf ?_;exact Ql ⟨[_,_,_],⟨O,O,O,Z⟩,G,by rw[if_pos E,if_pos E];rfl⟩
 have hc:cks a s=0:=Ln.1 E;obtain⟨ho,h0,h1⟩:=QcB hc;rw[if_neg E];refine Qi<|Qg<|Qc<|Qb<|x (Zo (l:=[]) (l':=[.tmp 3]))<|xl O<|xf<|(QfE (q:=λe=>decide (e∉a.al)) (cap:=[.pointer (some ⟨b3,0,none⟩)]) (Y.ext G) (λe w4 H=>Qk1 e w4 ((J.ext U).ext H) ((h.al.ext G).ext H))).mono ?_;rintro r3 w3 ⟨rfl,hb⟩;refine xe ?_;have I:=G.trans hb
 refine QZ rfl (λV=>?_) (λV=>?_)
 ·rw[if_pos V];refine Qc<|x Qe<|x Qe<|Qf ?_;exact Ql ⟨[_,_,_],⟨O,O,O,Z⟩,I,by rw[if_pos (by decide)];rfl⟩
 rw[if_neg (by rw[V];simp)];refine Qi<|Qc<|x (Qo ((J.ext U).ext hb) O O)<|Qb<|Qb<|xl O<|xf<|(jA (h.ed.ext I) (Y.ext I) ho s h0 h1).mono ?_;rintro r4 w4 ⟨rfl,H⟩;refine Qb<|x (Qj O O) <|
  x (Qj rfl O)<|x Qe<|Qf<|Qc<|Qb<|Qb<|x Qe<|x Qe<|Qf ?_
 exact Ql ⟨[_,_,_],⟨O,O,O,Z⟩,I.trans H,O⟩
def enb (a:QD)(s:Int):LI:=(Zu a.ed s).map (·.2.1)
theorem Qjp {l:List Ed}{k:Nat}(h:k<l.length):(l.take (k+1)).map (·.2.1)=(l.take k).map (·.2.1)++[(l[k]'h).2.1]:=by
 rw[List.take_add_one,LE h,Lx];rfl
theorem VQ {L:LN}{w:World}{va vm ve:Value}{a:QD}(h:Zm L w.heap va vm ve a)(s:Int):
  QH prog 55 [.agg #[va,.int .i64 a.st,vm,ve],.int .i64 s] w λr w'=>Step [] w w'∧∃v,r=.tuple #[v,.int .i64 (cks a s)]∧(cks a s≠0→v=Zg)∧(cks a s=0→Qt 3 w.heap.size w' v (enb a s)):=by
 refine QH.of_W func55 O ntmps55 results55 (by simp) ?_;refine Qc<|xl O<|QR (us:=[va,.int .i64 a.st,vm,ve]) O λb2 w1 hg h3 hh=>x Qe<|Qf<|Qg<|Qc<|x (Qo hh O O)<|Qb<|xl O<|xf<|(JP (h.ext hg) s).mono ?_;rintro r2 w2 ⟨rfl,hi⟩;refine Qf ?_;have U:=hg.trans hi;refine Qc<|Qb<|x (Q6 O O)<|xe<|Q3 rfl (λV=>?_) (λV=>?_)
 ·refine Qc<|Qb<|x Qe<|Qf ?_;exact Ql ⟨[Zg,_],⟨O,O,Z⟩,U,Zg,O,λ_=>O,λe=>absurd e V⟩
 have hc:cks a s=0:=Ln.1 V;obtain⟨G,h0,h1⟩:=QcB hc;have h4:=G.st1;rw[hc];refine Qi<|Qc<|Qf<|Qg<|Qc<|x (Qo (hh.ext hi) O O)<|Qb<|xl O<|xf<|(Qaz (h.ed.ext U) G.eds (λe he=>⟨(G.ed e he).1,by have:=(G.ed e he).2.1;omega⟩) s h0 (by omega)).mono ?_;rintro vo w3 ⟨hl,hE⟩;refine x (Qr hE O)<|Qb<|xe ?_;have hj:=U.trans hl;have hm:=hj.size;have hn:=JY a.ed s
 have h5:=G.ed_le;refine Zj (Zu a.ed s) λos H=>?_;rw[H]at hE hn;refine Qh<|Qz (α:=Nat×Value) [(7,7),(9,9),(20,29)] (λz=>[(7,z.2),(20,.int .i64 z.1)]) (λz w'=>z.1≤os.length∧Step [] w3 w'∧Qt 3 w3.heap.size w' z.2 ((os.take z.1).map (·.2.1))) (λz=>os.length - z.1) (by rfl) (0,nS) ⟨O,by rw[H];rfl,Z⟩ ⟨Ll _,Step.refl _ _,QN _ _ _ _⟩ ?_;rintro⟨k,v⟩ g w4 ⟨hk,J,I⟩
 simp only[]at hk I;have h6:=J.size;refine Qc<|x (QA O O)<|xe<|Qg<|QC O (λY=>?_) (λY=>?_)
 ·refine Qy<|Qc<|Qb<|x Qe<|Qf ?_;rw[Lp (by rw[H]at Y;omega)]at I;refine Ql ⟨[v,_],⟨O,O,Z⟩,hj.trans J,v,O,λe=>absurd O e,λ_=>?_⟩;unfold enb;rw[H];exact Zd I hm
 have E:k<os.length:=by rw[H]at Y;omega
 refine Qi<|Qg<|Qh<|Qc<|xie (hE.ext J) O O E λh7 hp=>x (QI hp O O)<|xl O<|Qu (us:=[.int .i64 0,.int .i64 0,.int .i64 0]) O λb9 w5 hq hr hs=>xl O<|Qn (us:=QB (os[k]'E)) hs O O O O ⟨O,O,O,Z⟩ λw6 ht hu =>
  xe ?_
 have ha:Step [] w4 w6:=hq.then1 ht hr;have hv:=Qs I ha;refine Qw<|Qb<|x (Qa O)<|x (Qd hu O O)<|xl O<|QG (us:=[[.int .i64 (os[k]'E).2.1]]) O O (by decide) (by simp) ⟨rfl,rfl,Z⟩ λh8 w7 hf h9 hw=>?_;have hy:=Qs hv hf;have hA:=(ha.trans hf).size;have hB:((os.take k).map (·.2.1)).length≤131072:=by simp;omega
 refine xl rfl<|Q4 (news:=[.int .i64 (os[k]'E).2.1]) (L:=[]) hy O O O (hw.at (by simp)) (by simp[Value.oneCell']) (by omega) (by omega) λv8 w8 hz h2 hC=>Qf ?_;have hge:=Qq I;refine Qw<|QP O O<|Qb<|xe<|⟨(k+1,v8),by simp only[];omega,⟨O,O,Z⟩,E,((J.trans ha).trans hf).then h2 (λb hb=>.inr (hge b hb).1),?_⟩;simp only[];rw[Qjp E];exact Qt.snoc hz
def QdZ:List QD→LI→Int
 | a::l,t::ts=>if t<0∨a.st≤t then 2 else QdZ l ts
 | _,_=>0
def ckT (l:List QD)(t:LI):Int:=if X9 l≠0 then X9 l else if t.length≠l.length then 4 else QdZ l t
theorem yP {L L':LN}{w:World}{v vt:Value}{ps:List AV}{ts:LI}(h:YX L w.heap v ps)(ht:QJ L' w.heap vt ts):
  QH prog 162 [v,vt] w λr w'=>r=.int .i64 (ckT (ps.map (·.a)) ts)∧Step [] w w':=by
 have hz:=YX.le h;have h0:=ht.le;refine QH.of_W func162 O ntmps162 results162 (by simp) ?_;refine Qc<|Qf<|Qg<|Qc<|Qb<|xl O<|xf<|(UI h).mono ?_;rintro r1 w1 ⟨rfl,J⟩;refine Qf ?_;unfold ckT;refine Qc<|Qb<|x (Q6 O O)<|xe<|Q3 rfl (λU=>?_) (λU=>?_)
 ·refine Qc<|Qb<|Qf ?_;exact Ql ⟨[_],La,by rw[if_pos U];rfl,J⟩
 rw[if_neg U];refine Qi<|Qg<|Qc<|Qb<|x (Qr ht O)<|Qb<|x (Qr h.arr O)<|x (Q6 O O)<|xe<|Q3 rfl (λhp=>?_) (λhp=>?_)
 ·refine Qc<|Qf ?_;exact Ql ⟨[_],La,by rw[if_pos (by rw[Lh];omega)];rfl,J⟩
 have hl:ts.length=ps.length:=by omega
 rw[if_neg (by rw[Lh];omega)];refine Qi<|Qg<|Qc<|Qb<|x (Qr h.arr O)<|Qb<|xe<|Qh<|Qz (α:=Nat) [(4,4),(6,7),(20,39)] (λz=>[(20,.int .i64 z)]) (λz w'=>z≤ps.length∧Step [] w1 w'∧QdZ (ps.map (·.a)) ts=QdZ ((ps.drop z).map (·.a)) (ts.drop z)) (λz=>ps.length - z) (by rfl) 0 La ⟨Ll _,Step.refl _ _,O⟩ ?_;rintro k g w2 ⟨hk,hg,E⟩;have V:=J.trans hg
 refine Qc<|x (QA O O)<|xe<|Qg<|QC O (λhq=>?_) (λhq=>?_)
 ·refine Qy<|Qc<|Qf<|Ql ⟨[_],La,?_,V⟩;rw[E,Lv (by omega)];rfl
 have G:k<ps.length:=by omega
 have H:k<ts.length:=by omega
 rw[Q5 G,Q5 H,LX,QdZ]at E;have I:=h.each _ (Lc G);refine Zj (ps[k]'G) λpk hh=>?_;rw[hh]at I E;refine Qi<|Qg<|Qh<|Qc<|Qb<|xig JQ (h.arr.ext V) O O G λh1 hi=>?_;rw[hh]at hi;refine x (QI hi O O)<|xl O<|Qu (us:=[nS,.int .i64 0,nS,nS]) O λb7 w3 hs hu hv=>x Qe <|
  xl rfl<|Qn (us:=Zc pk) hv O O O O ⟨I.al.one,O,I.mr.one,I.ed.one,Z⟩ λY hw hy=>xe ?_
 have hj:Step [] w2 Y:=hs.then1 hw hu;have ha:=V.trans hj;refine Zj (ts[k]'H) λtk hb=>?_;rw[hb]at E;refine QX (α:=Unit) [(25,38)] (λz=>[(38,.bool (decide (tk<0∨pk.a.st≤tk)))]) (λz w'=>Step [] Y w') (by rfl) ?_ ?_
 ·refine QU (Step [] Y) [(0,true),(1,true),(2,true),(3,true),(4,true),(5,true),(6,true),(7,true),(8,true),(9,true),(10,true),(11,true),(12,true),(13,true)] mixed (by rfl) (by kernel_rfl) (Step.drew _ _) ?_;refine p (λ_=>Qk)<|p (λ_=>Qk)<|pii O (ht.ext ha) O O H λh2 hm=>?_;rw[hb]at hm;refine pq (λ_ hc=>Qv (hm.ext hc) O) <|
   pb (λ_=>QA O O) (λhe=>?_) (λhe=>?_)
  ·refine p (λ_=>Qk)<|Lg.ps<|Lg.ps<|Lg.ps<|Lg.ps<|Lg.ps<|Lg.ps<|Lg.ps<|p (λ_=>Qp O)<|pe ?_;exact⟨(),⟨by rw[decide_eq_true (Or.inl he)];rfl,Z⟩,Step.drew _ _⟩
  refine p (λ_=>Qk)<|p (λ_=>Qk)<|p (λ_=>Qk)<|pii O (ht.ext ha) O O H λh3 hn=>?_;rw[hb]at hn;refine pq (λ_ hc=>Qv (hn.ext hc) O) <|
   p (λ_=>Qa O)<|pq (λ_ hc=>Qd (hy.ext hc) O O)<|p (λ_=>ZV O O)<|p (λ_=>Qp O)<|pe ?_
  exact⟨(),⟨by show Value.bool (decide (pk.a.st≤tk))=_;simp[he],Z⟩,Step.drew _ _⟩
 rintro z g w5 ho;refine Q3 rfl (λhf=>?_) (λhf=>?_)
 ·refine Qc<|Qf ?_;exact Ql ⟨[_],La,by rw[E,if_pos hf];rfl,ha.trans ho⟩
 refine Qi<|Qw<|QP O O<|Qb<|xe ?_;exact⟨k+1,by omega,La,G,(hg.trans hj).trans ho,by rw[E,if_neg hf]⟩
theorem Ur {l:List QD}(h:X9 l=0):l.length≤12∧∀a∈l,QO a:=by
 unfold X9 at h;split at h
 ·cases h
 rename_i h1;exact⟨by omega,(Xi l).1 h⟩
theorem UX:∀{l:List QD}{t:LI},t.length=l.length→(QdZ l t=0↔Vt l t)
 | [],t,hl=>by
  have:t=[]:=Lr hl;subst this;exact⟨λ_=>⟨O,λi h=>by simp at h⟩,λ_=>rfl⟩
 | a::l,[],hl=>by simp at hl
 | a::l,t::ts,hl=>by
  rw[QdZ];have ih:=UX (l:=l) (t:=ts) (by simpa using hl);constructor
  ·intro h;split at h
   ·cases h
   rename_i h1;exact Vt.cons (by omega) (by omega) (ih.1 h)
  intro h;have E:=h.2 0 (by simp) (by simp);simp only[List.getElem_cons_zero]at E;rw[if_neg (by omega),ih];exact⟨by simpa using hl,λi h2 h3=>h.2 (i+1) (by simpa using h2) (by simpa using h3)⟩
theorem QcD {l:List QD}{t:LI}(h:ckT l t=0):l.length≤12∧(∀a∈l,QO a)∧Vt l t:=by
 unfold ckT at h;split at h
 ·rename_i h1;exact absurd h h1
 rename_i h1;split at h
 ·cases h
 rename_i h2;obtain⟨h3,h4⟩:=Ur (Ln.1 h1);exact⟨h3,h4,(UX (by omega)).1 h⟩
theorem QoL {l:List QD}{t:LI}(H:l.length≤12)(G:∀a∈l,QO a)(E:Vt l t):ckT l t=0:=by
 have h1:X9 l=0:=by unfold X9;rw[if_neg (by omega)];exact(Xi l).2 G
 unfold ckT;rw[if_neg (by simp[h1]),if_neg (by simp[E.1])];exact(UX E.1).2 E
def ckV (l:List QD)(t:LI)(v:Int):Int:=if ckT l t≠0 then ckT l t else if v∉evs l then 9 else 0
theorem yQ {L L':LN}{w:World}{v vt:Value}{ps:List AV}{ts:LI}(h:YX L w.heap v ps)(ht:QJ L' w.heap vt ts)(e:Int):
  QH prog 105 [v,vt,.int .i64 e] w λr w'=>r=.int .i64 (ckV (ps.map (·.a)) ts e)∧Step [] w w':=by
 refine QH.of_W func105 O ntmps105 results105 (by simp) ?_;refine Qc<|Qf<|Qg<|Qc<|Qb<|Qb<|xl O<|xf<|(yP h ht).mono ?_;rintro r1 w1 ⟨rfl,G⟩;refine Qf ?_;unfold ckV;refine Qc<|Qb<|x (Q6 O O)<|xe<|Q3 rfl (λE=>?_) (λE=>?_)
 ·refine Qc<|Qb<|Qf ?_;exact Ql ⟨[_],La,by rw[if_pos E];rfl,G⟩
 rw[if_neg E];obtain⟨h1,h2,h3⟩:=QcD (Ln.1 E);rw[Lh]at h1;have U:(evs (ps.map (·.a))).length≤1099511627776:=by have:=Um (ps.map (·.a)) (λa ha=>(h2 a ha).al_le);rw[Lh]at this;omega
 refine Qi<|Qg<|Qc<|Qb<|xl O<|xf<|(UQ (h.ext G) h1 (λp hp=>(h2 p.a (LP hp)).al_le)).mono ?_;rintro r2 w2 ⟨V,Y⟩;refine Qb<|xl O<|xf<|(Yw (Qt.ints (L:=[]) Y U (by simp)) (QaY h2) e).mono ?_;rintro r3 w3 ⟨rfl,rfl⟩;refine x (Zt O)<|xe ?_;have J:=G.trans V;refine QZ rfl (λH=>?_) (λH=>?_)
 ·have I:e∉evs (ps.map (·.a)):=by simpa using H
  refine Qc<|Qf ?_;exact Ql ⟨[_],La,by rw[if_pos I];rfl,J⟩
 have I:¬e∉evs (ps.map (·.a)):=by simpa using H
 refine Qi<|Qc<|Qf ?_;exact Ql ⟨[_],La,by rw[if_neg I];rfl,J⟩
def goT (aa:List QD):LI→LI→Option (LI)
 | t,[]=>some t
 | t,v::u=>if v∉evs aa then none else match Za v aa t with|none=>none|some t'=>goT aa t' u
theorem QiW {aa:List QD}{A:QD}{Q:List (LI)}(h:yV aa A Q):∀(u:LI) (j:Nat),j<Q.length →
  (∃G:Nat,G<Q.length∧flw A j u=((G:Int),u.length)∧goT aa (Q.getD j []) u=some (Q.getD G []))∨((flw A j u).2<u.length∧goT aa (Q.getD j []) u=none)
 | [],j,hj=>.inl ⟨j,hj,O,O⟩
 | v::u,j,hj=>by
  have hs:=h.step hj v;by_cases E:v∈evs aa
  ·rw[if_pos E]at hs;cases ht:Za v aa (Q.getD j [])with
   | none =>
    rw[ht]at hs;have H:nxt A.ed j v=-1:=by rw[YS,hs];rfl
    right;rw[flw,if_pos (by rw[H];decide),goT,if_neg (λe=>e E),ht];exact⟨by simp,rfl⟩
   | some t' =>
    obtain⟨h1,h2⟩:=h.to hj E ht;rw[ht]at hs;have H:nxt A.ed j v=(Q.idxOf t':Int):=by rw[YS,hs];rfl
    rw[flw,H,if_neg (by omega),goT,if_neg (λe=>e E),ht];rcases QiW h u (Q.idxOf t') h1 with⟨G,k1,k2,k3⟩|⟨k1,k2⟩
    ·left;refine⟨G,k1,?_,?_⟩
     ·rw[k2];simp
     rw[h2]at k3;exact k3
    right;rw[h2]at k2;exact⟨by simp;omega,k2⟩
  rw[if_neg E]at hs;have H:nxt A.ed j v=-1:=by rw[YS,hs]
  right;rw[flw,if_pos (by rw[H];decide),goT,if_pos E];exact⟨by simp,rfl⟩
theorem Qfw {a:QD}(G:QO a)(x v:Int):v∈enb a x↔0≤nxt a.ed x v:=by
 unfold enb;rw[zm G];constructor
 ·intro h;obtain⟨e,he,rfl⟩:=Lq.1 h;obtain⟨h1,h2⟩:=Zx he;cases E:eget a.ed x e.2.1 with
  | some _=>rfl
  | none =>
   exfalso;have key:∀(l:List Ed),e∈l→eget l x e.2.1=none→False:=by
    intro l;induction l with
    | nil=>intro h;cases h
    | cons d l ih =>
     intro hm E;rw[eget]at E;split at E
     ·cases E
     rename_i H;rcases Le.1 hm with rfl|hm
     ·exact H ⟨h2,O⟩
     exact ih hm E
   exact key a.ed h1 E
 intro h;obtain⟨u,hu⟩:=Mk.1 h;have:=Z0 hu;refine Lq.2 ⟨(x,v,u),?_,O⟩;unfold Zu;exact LJ.2 ⟨this,by simp⟩
theorem Qfx {a:QD}(E:QO a)(x:Int):Z2 (enb a x):=by
 unfold enb Z2;rw[Mm];have h1:(Zu a.ed x).Pairwise λx y:Ed=>x.1<y.1∨(x.1=y.1∧x.2.1<y.2.1):=List.Pairwise.sublist MI E.edi;refine List.Pairwise.imp_of_mem (λ{a b} ha hb G=>?_) h1;have h2:=(Zx ha).2;have h3:=(Zx hb).2;omega
theorem QdT {a:QD}(E:QO a)(x:Int):enb a x=a.al.filter λv=>decide (0≤nxt a.ed x v):=by
 refine Z2.ext (Qfx E x) (List.Pairwise.sublist MI E.ali) λv=>?_;rw[Qfw E,LJ];constructor
 ·intro h;exact⟨(E.ed _ (Vf h)).2.2.1,by simpa using h⟩
 intro h;simpa using h.2
theorem Qfo {A:QD}(G:QO A){aa:List QD}{Q:List (LI)}(h:yV aa A Q){u:LI}(E:gens A u=true):∃j:Nat,j<Q.length∧flw A 0 u=((j:Int),u.length)∧goT aa (Q.getD 0 []) u=some (Q.getD j []):=by
 unfold gens at E;rw[if_neg (by simpa using(Zs A).2 G)]at E;unfold rchd at E;split at E
 ·cases E
 rename_i I;have J:=h.st;have H:0<Q.length:=by omega
 rcases QiW h u 0 H with⟨j,k1,k2,k3⟩|⟨k1,_⟩
 ·exact⟨j,k1,k2,k3⟩
 simp only[decide_eq_true_eq]at E;have:((0:Nat):Int)=0:=rfl;rw[this]at k1;omega
theorem Qi4 {a:QD}(E:QO a):∀(u:LI) (s:Int),(flw a s u).2=u.length→∀e∈u,e∈a.al
 | [],_,_,e,he=>by cases he
 | v::u,s,h,e,he=>by
  rw[flw]at h;split at h
  ·simp at h
  rename_i G;rcases Le.1 he with rfl|he
  ·exact(E.ed _ (Vf (show 0≤nxt a.ed s e by omega))).2.2.1
  exact Qi4 E u _ (by simpa using h) e he
end Go.Proofs.YtjcgijbhaemldaaGreatDoor
namespace Go.Lg
section
variable {P:Program}{f:Fr}{w:World}{d:Option Nat}{ty:Nat}{ps:String}{af:Array Edge}{gd:Option (Nat×Bool)}
theorem zh {t E:Nat}[h:Bk P t]{x y:Operand}{a b:Bool}(hx:ev f x=.bool a)(hy:ev f y=.bool b):
  (execOp (ev f) ⟨d,.binOp .neq t x y E,ty,ps,af,gd⟩).run P w=.ok (.value (.bool (!(a == b)))) w:=by
 have G:(eqGuard .neq t x y (.bool a) (.bool b)).run P w=.ok () w:=by simp[eqGuard]
 simp[execOp,hx,hy,G,run_neq_bool (P:=P) (w:=w) t a b h.u]
end
inductive Pu where
 | pl (l:List (Nat×Bool))
 | f2 (pre:List (Nat×Bool)) (i j:Nat) (t1 t2:Pu)
 | f3 (pre:List (Nat×Bool)) (i j k:Nat) (t1 t2 t3:Pu)
def Pu.len:Pu→Nat
 | .pl l=>l.length
 | .f2 pre _ _ t1 _=>pre.length+(1+t1.len)
 | .f3 pre _ _ _ t1 _ _=>pre.length+(1+t1.len)
def Qas (all:Array Oper):Pu→Array Bool→Bool
 | .pl l,ls=>Y2 all l ls
 | .f2 pre i j t1 t2,ls=>Xy all pre ls && Region.ready .any all (Zw pre ls) == [i,j] && t1.len == t2.len && Qas all t1 ((Zw pre ls).setIfInBounds i true) && Qas all t2 ((Zw pre ls).setIfInBounds j true)
 | .f3 pre i j k t1 t2 t3,ls=>Xy all pre ls && Region.ready .any all (Zw pre ls) == [i,j,k] && t1.len == t2.len && t1.len == t3.len && Qas all t1 ((Zw pre ls).setIfInBounds i true) && Qas all t2 ((Zw pre ls).setIfInBounds j true) && Qas all t3 ((Zw pre ls).setIfInBounds k true)
def QpD (all:List Oper)(t:Pu):Bool:=Region.noSelect all.toArray && t.len == all.length && Qas all.toArray t (Array.replicate all.length false)
def XE (P:Program)(all:List Oper)(C:World→Prop)(i:Nat)(N:Fr→World→Prop)(f:Fr)(w:World):Prop:=Yd all f (QL all i)=true∧XO P (QL all i) f w λE w'=>C w'∧N E w'
def XU (P:Program)(all:List Oper)(C:World→Prop)(K:Fr→World→Prop):Pu→Fr→World→Prop
 | .pl l=>XP P all C K l
 | .f2 pre i j t1 t2=>XP P all C (λf w=>XE P all C i (XU P all C K t1) f w∧XE P all C j (XU P all C K t2) f w) pre
 | .f3 pre i j k t1 t2 t3=>XP P all C (λf w=>XE P all C i (XU P all C K t1) f w∧XE P all C j (XU P all C K t2) f w∧XE P all C k (XU P all C K t3) f w) pre
section
variable {P:Program}{n:Nat}{f:Fr}{w:World}{all:List Oper}{C:World→Prop}{K B:Fr→World→Prop}
theorem J5 (hs:Region.noSelect all.toArray=true):∀(t:Pu) (ls:Array Bool) (f:Fr) (w:World),ls.size=all.length→C w→Qas all.toArray t ls=true→XU P all C K t f w→XA P all C K t.len ls f w
 | .pl l,ls,f,w,J,hC,hp,h=>Zz hs l ls f w J (.inl hC) hp h
 | .f2 pre i j t1 t2,ls,f,w,J,hC,hp,h=>by
  simp only[Qas,Bool.and_eq_true,beq_iff_eq]at hp;obtain⟨⟨⟨⟨hq,E⟩,hl⟩,h1⟩,h2⟩:=hp;rw[Pu.len];refine ZP (B:=λf w=>XE P all C i (XU P all C K t1) f w∧XE P all C j (XU P all C K t2) f w) hs pre ls f w hC hq (λf G=>?_) h;have H:∀k,((Zw pre ls).setIfInBounds k true).size=all.length:=λk=>by simp[ZN,J]
  rw[MT 1];refine Y0 (λU=>(by rw[U]at E;cases E)) ?_;rw[E];intro k hk o I;simp only[List.mem_cons,List.not_mem_nil,or_false]at hk;rcases hk with rfl|rfl
  ·have:=G.1;unfold XE at this;rw[Zh I]at this;rw[this.1,cond_true];exact this.2.mono λv w' hx=>⟨.inr (.inr hx.1),J5 hs t1 _ _ _ (H _) hx.1 h1 hx.2⟩
  have:=G.2;unfold XE at this;rw[Zh I]at this;rw[this.1,cond_true,hl];exact this.2.mono λv w' hx=>⟨.inr (.inr hx.1),J5 hs t2 _ _ _ (H _) hx.1 h2 hx.2⟩
 | .f3 pre i j k t1 t2 t3,ls,f,w,J,hC,hp,h=>by
  simp only[Qas,Bool.and_eq_true,beq_iff_eq]at hp;obtain⟨⟨⟨⟨⟨⟨hq,E⟩,hl⟩,V⟩,h1⟩,h2⟩,h3⟩:=hp;rw[Pu.len];refine ZP (B:=λf w=>XE P all C i (XU P all C K t1) f w∧XE P all C j (XU P all C K t2) f w∧XE P all C k (XU P all C K t3) f w) hs pre ls f w hC hq (λf G=>?_) h;have H:∀k,((Zw pre ls).setIfInBounds k true).size=all.length:=λk=>by simp[ZN,J]
  rw[MT 1];refine Y0 (λU=>(by rw[U]at E;cases E)) ?_;rw[E];intro q hk o I;simp only[List.mem_cons,List.not_mem_nil,or_false]at hk;rcases hk with rfl|rfl|rfl
  ·have:=G.1;unfold XE at this;rw[Zh I]at this;rw[this.1,cond_true];exact this.2.mono λv w' hx=>⟨.inr (.inr hx.1),J5 hs t1 _ _ _ (H _) hx.1 h1 hx.2⟩
  ·have:=G.2.1;unfold XE at this;rw[Zh I]at this;rw[this.1,cond_true,hl];exact this.2.mono λv w' hx=>⟨.inr (.inr hx.1),J5 hs t2 _ _ _ (H _) hx.1 h2 hx.2⟩
  have:=G.2.2;unfold XE at this;rw[Zh I]at this;rw[this.1,cond_true,V];exact this.2.mono λv w' hx=>⟨.inr (.inr hx.1),J5 hs t3 _ _ _ (H _) hx.1 h3 hx.2⟩
theorem QfZ {Q:Exit→Fr→World→Prop}{id:Nat}(C:World→Prop)(t:Pu)(hm:P.follows .mixedOrders=true)(E:Xn n all=true)(hp:QpD all t=true)
  (hC:C { w with drawn:=w.drawn+1 }) (h:XU P all C (λf w=>Q .normal f w) t f { w with drawn:=w.drawn+1 }):W P n (.region id all.toArray true) Q f w:=by
 simp only[QpD,Bool.and_eq_true,beq_iff_eq]at hp;obtain⟨⟨hs,hl⟩,hp⟩:=hp;refine Y7 C hm E ?_;have h1:=J5 hs t _ _ _ (by simp) hC hp h;rw[hl]at h1;exact h1
theorem uP {l:List (Nat×Bool)}(h:XP P all C K l f w):XU P all C K (.pl l) f w:=h
theorem u2 {pre:List (Nat×Bool)}{i j:Nat}{E G:Pu}(h:XP P all C (λf w=>XE P all C i (XU P all C K E) f w∧XE P all C j (XU P all C K G) f w) pre f w):XU P all C K (.f2 pre i j E G) f w:=h
theorem u3 {pre:List (Nat×Bool)}{i j k:Nat}{E G H:Pu}(h:XP P all C (λf w=>XE P all C i (XU P all C K E) f w∧XE P all C j (XU P all C K G) f w∧XE P all C k (XU P all C K H) f w) pre f w):XU P all C K (.f3 pre i j k E G H) f w:=h
theorem ue {i:Nat}{N:Fr→World→Prop}(h:XO P (QL all i) f w λE w'=>C w'∧N E w')(G:Yd all f (QL all i)=true:=by rfl):XE P all C i N f w:=⟨G,h⟩
end
attribute [irreducible] XU XE
end Go.Lg
namespace Go.Proofs.YtjcgijbhaemldaaGreatDoor
open Go.Lg
def St1 (a:QD)(x:Int):Prop:=-1≤x∧x<a.st
theorem Qlf {a:QD}(E:QO a)(x v:Int):St1 a (nxt a.ed x v):=by
 have H:=E.st0;unfold St1;by_cases h:nxt a.ed x v<0
 ·have:nxt a.ed x v=-1:=by
   rw[YS]at h ⊢;cases G:eget a.ed x v with
   | none=>rfl
   | some u =>
    rw[G]at h;have:=(E.ed _ (Z0 G)).2.2.2.1;simp only[]at h this;omega
  omega
 have:=QdB E h;omega
def cnF (ord:LI)(j:Nat)(e:Ed):Ed:=((j:Int),e.2.1,(ord.idxOf e.2.2:Int))
def cnR (a:QD)(ord:LI)(j:Nat):List Ed:=(Zu a.ed (Zq ord j)).map (cnF ord j)
theorem Qcj {l r:LI}{j:Nat}(h:j<l.length):Zq (l++r) j=Zq l j:=by unfold Zq;rw[LU];exact yc h
structure NuI (st:Int)(ord num:LI):Prop where
 nd:ord.Nodup
 bd:∀s∈ord,0≤s∧s<st
 nl:num.length=st.toNat
 nu:∀k,0≤k→k<st→Zq num k=if k∈ord then(ord.idxOf k:Int)else -1
theorem Qdl {st:Int}{i:Nat}{c:Cs}(h:NuI st c.ord c.num){e:Ed}(G:0≤e.2.2)(h1:e.2.2<st):NuI st (Zk i c e).ord (Zk i c e).num∧(∃r,(Zk i c e).ord=c.ord++r)∧(Zk i c e).mk'=c.mk'∧(Zk i c e).ed=c.ed++[cnF (Zk i c e).ord i e]∧e.2.2∈(Zk i c e).ord:=by
 have E:=h.nu e.2.2 G h1;have I:e.2.2.toNat<c.num.length:=by rw[h.nl];omega
 unfold Zk;by_cases hm:e.2.2∈c.ord
 ·rw[if_pos hm]at E;rw[if_neg (by rw[E];omega)];refine⟨h,⟨[],by simp⟩,rfl,?_,hm⟩;simp only[cnF];rw[E]
 rw[if_neg hm]at E;rw[if_pos (by rw[E];decide)];have H:(c.ord++[e.2.2]).idxOf e.2.2=c.ord.length:=by rw[Mn,if_neg hm];simp
 refine⟨⟨Ka h.nd hm,λs hs=>?_,by simp[h.nl],λk J k1=>?_⟩,⟨[e.2.2],rfl⟩,rfl,?_,by simp⟩
 ·rcases Lo.1 hs with hs|hs
  ·exact h.bd s hs
  simp only[List.mem_singleton]at hs;subst hs;exact⟨G,h1⟩
 ·simp only[];by_cases ek:k=e.2.2
  ·subst ek;rw[if_pos (by simp),H];unfold Zq;simp[List.getD,List.getElem?_set_self I]
  have U:e.2.2.toNat≠k.toNat:=by omega
  have e1:Zq (c.num.set e.2.2.toNat c.ord.length) k=Zq c.num k:=by unfold Zq;simp[List.getD,List.getElem?_set_ne U]
  rw[e1,h.nu k J k1];by_cases hk:k∈c.ord
  ·rw[if_pos hk,if_pos (Ly _ hk),Mn,if_pos hk]
  rw[if_neg hk,if_neg (λV=>by
   rcases Lo.1 V with h2|h2
   ·exact hk h2
   simp only[List.mem_singleton]at h2;exact ek h2)]
 simp only[cnF];rw[H]
theorem qU {st:Int}{i:Nat}:∀(es:List Ed) (c:Cs),NuI st c.ord c.num→(∀e∈es,0≤e.2.2∧e.2.2<st)→NuI st (es.foldl (Zk i) c).ord (es.foldl (Zk i) c).num∧(∃r,(es.foldl (Zk i) c).ord=c.ord++r)∧(es.foldl (Zk i) c).mk'=c.mk' ∧
  (es.foldl (Zk i) c).ed=c.ed++es.map (cnF (es.foldl (Zk i) c).ord i)∧∀e∈es,e.2.2∈(es.foldl (Zk i) c).ord
 | [],c,h,_=>⟨h,⟨[],by simp⟩,rfl,by simp,λe he=>by cases he⟩
 | e::es,c,h,hb=>by
  obtain⟨E,G⟩:=hb e Lm;obtain⟨h1,⟨H,h2⟩,h3,h4,h5⟩:=Qdl (i:=i) h E G;obtain⟨k1,⟨r2,k2⟩,k3,I,J⟩:=qU (i:=i) es (Zk i c e) h1 (λd hd=>hb d (Lk _ hd));rw[LM];refine⟨k1,⟨H++r2,by rw[k2,h2,LA]⟩,k3.trans h3,?_,λd hd=>?_⟩
  ·rw[I,h4,LA,LX];have:cnF (Zk i c e).ord i e=cnF (es.foldl (Zk i) (Zk i c e)).ord i e:=by
    unfold cnF;rw[k2,Mn,if_pos h5]
   rw[this];rfl
  rcases Le.1 hd with rfl|hd
  ·rw[k2];exact Ly _ h5
  exact J d hd
structure CnG (a:QD)(i:Nat)(c:Cs):Prop where
 nu:NuI a.st c.ord c.num
 le:i≤c.ord.length
 hd:Zq c.ord 0=0∧0<c.ord.length
 mk2:c.mk'=((List.range' 0 i).filter λj:Nat=>decide (Zq c.ord j∈a.mr)).map λj:Nat=>(j:Int)
 ed:c.ed=(List.range' 0 i).flatMap (cnR a c.ord)
 cl:∀j,j<i→∀e∈Zu a.ed (Zq c.ord j),e.2.2∈c.ord
theorem Qmu {a:QD}{ord r:LI}{j:Nat}(hj:j<ord.length)(hc:∀e∈Zu a.ed (Zq ord j),e.2.2∈ord):cnR a (ord++r) j=cnR a ord j:=by
 unfold cnR;rw[Qcj hj];refine MP λe he=>?_;unfold cnF;rw[Mn,if_pos (hc e he)]
theorem CnG.next {a:QD}(J:QO a){i:Nat}{c:Cs}(h:CnG a i c)(hi:i<c.ord.length):CnG a (i+1) (qk a i c):=by
 unfold qk;have G:(ZW a i c).ord=c.ord:=by unfold ZW;split <;> rfl
 have U:(ZW a i c).num=c.num:=by unfold ZW;split <;> rfl
 have V:(ZW a i c).ed=c.ed:=by unfold ZW;split <;> rfl
 obtain⟨k1,⟨r,k2⟩,k3,E,H⟩:=qU (st:=a.st) (i:=i) (Zu a.ed (Zq c.ord i)) (ZW a i c) (by rw[G,U];exact h.nu) (λe he=>(J.ed e (Zx he).1).2.2.2);generalize (Zu a.ed (Zq c.ord i)).foldl (Zk i) (ZW a i c)=d at k1 k2 k3 E H;rw[G]at k2;rw[V]at E;have pre:∀j:Nat,j≤i→Zq d.ord j=Zq c.ord j:=λj hj=>by rw[k2];exact Qcj (by omega)
 refine⟨k1,by rw[k2];simp;omega,⟨by have:=pre 0 (by omega);rw[show((0:Nat):Int)=0 from rfl]at this;rw[this];exact h.hd.1,by rw[k2];simp;omega⟩,?_,?_,λj hj=>?_⟩
 ·rw[k3,Ml,L8,Lx,LR];have e1:((List.range' 0 i).filter λj:Nat=>decide (Zq d.ord j∈a.mr))=(List.range' 0 i).filter λj:Nat=>decide (Zq c.ord j∈a.mr):=by
   refine List.filter_congr λj hj=>?_;rw[L6]at hj;rw[pre j (by omega)]
  rw[e1];unfold ZW;by_cases hm:Zq c.ord i∈a.mr
  ·rw[if_pos hm];simp only[];rw[Mi,if_pos (by rw[pre i (Lu _)];exact decide_eq_true hm),Nc,h.mk2];rfl
  rw[if_neg hm];rw[Mi,if_neg (by rw[pre i (Lu _),decide_eq_false hm];simp),Nc,h.mk2];simp
 ·rw[E,Ml,LG,LR,h.ed];congr 1
  ·refine Jj λj hj=>?_;rw[L6]at hj;rw[k2];exact(Qmu (by omega) (h.cl j (by omega))).symm
  simp only[List.flatMap_cons,List.flatMap_nil,List.append_nil];unfold cnR;rw[pre i (Lu _)]
 by_cases e:j=i
 ·subst e;rw[pre j (Lu _)];exact H
 intro Y I;rw[pre j (by omega)]at I;rw[k2];exact Ly _ (h.cl j (by omega) Y I)
theorem UZ {a:QD}(G:QO a):∀(f i:Nat) (c:Cs),CnG a i c→∃E,CnG a E (YP a f i c)∧((YP a f i c).ord.length=E∨E=i+f)
 | 0,i,c,h=>⟨i,h,.inr O⟩
 | f+1,i,c,h=>by
  rw[YP];split
  ·rename_i hi;obtain⟨E,h1,h2⟩:=UZ G f (i+1) _ (h.next G hi);exact⟨E,h1,by omega⟩
  exact⟨i,h,.inl (by have:=h.le;omega)⟩
structure CnP (a:QD)(ord:LI):Prop where
 nd:ord.Nodup
 bd:∀s∈ord,0≤s∧s<a.st
 hd:Zq ord 0=0∧0<ord.length
 al:(ZY a).al=a.al
 st:(ZY a).st=(ord.length:Int)
 mk2:(ZY a).mr=((List.range' 0 ord.length).filter λj:Nat=>decide (Zq ord j∈a.mr)).map λj:Nat=>(j:Int)
 ed:(ZY a).ed=(List.range' 0 ord.length).flatMap (cnR a ord)
 cl:∀j,j<ord.length→∀e∈Zu a.ed (Zq ord j),e.2.2∈ord
theorem jM {a:QD}(G:QO a)(h0:0<a.st):∃ord,CnP a ord:=by
 have H:0<a.st.toNat:=by omega
 have I:CnG a 0 (ZK a):=by
  refine⟨⟨by simp[ZK],λs hs=>by simp[ZK]at hs;subst hs;omega,by simp[ZK],λk k0 k1=>?_⟩,Ll _,⟨by simp[ZK,Zq],by simp[ZK]⟩,by simp[ZK],by simp[ZK],λj hj=>by omega⟩;by_cases ek:k=0
  ·subst ek;rw[if_pos (by simp[ZK])];unfold Zq ZK;simp[List.getD,H]
  rw[if_neg (by simpa[ZK]using ek)];unfold ZK;have J:0≠k.toNat:=by omega
  have U:k.toNat<a.st.toNat:=by omega
  unfold Zq;rw[LD,MR J];simp[U]
 obtain⟨V,h1,h2⟩:=UZ G a.st.toNat 0 (ZK a) I;have ha:(YP a a.st.toNat 0 (ZK a)).ord.length≤a.st.toNat:=pig _ _ h1.nu.nd (λx hx=>by have:=h1.nu.bd x hx;omega);have Y:V=(YP a a.st.toNat 0 (ZK a)).ord.length:=by have:=h1.le;omega
 subst Y;have E:ZY a=⟨a.al,((YP a a.st.toNat 0 (ZK a)).ord.length:Int),(YP a a.st.toNat 0 (ZK a)).mk',(YP a a.st.toNat 0 (ZK a)).ed⟩:=by unfold ZY;rw[if_neg (by omega)]
 refine⟨(YP a a.st.toNat 0 (ZK a)).ord,h1.nu.nd,h1.nu.bd,h1.hd,by rw[E],by rw[E],?_,?_,h1.cl⟩
 ·rw[E];exact h1.mk2
 rw[E];exact h1.ed
theorem Qjt (es:List Ed)(s v:Int):eget es s v=eget (Zu es s) s v:=by
 induction es with
 | nil=>rfl
 | cons e es ih =>
  unfold Zu at *;rw[Mi];by_cases h:e.1=s
  ·rw[if_pos (by simpa using h),eget,eget,ih]
  rw[if_neg (by simpa using h),eget,if_neg (λc=>h c.1),ih]
theorem Qju {a:QD}{ord:LI}{j:Nat}(v:Int):eget (cnR a ord j) j v=(eget a.ed (Zq ord j) v).map λu=>(ord.idxOf u:Int):=by
 rw[Qjt a.ed];unfold cnR;have key:∀(l:List Ed),(∀e∈l,e.1=Zq ord j)→eget (l.map (cnF ord j)) j v=(eget l (Zq ord j) v).map λu=>(ord.idxOf u:Int):=by
  intro l;induction l with
  | nil=>intro _;rfl
  | cons e l ih =>
   intro hl;rw[LX,eget,eget];have he:=hl e Lm;by_cases E:e.2.1=v
   ·rw[if_pos ⟨rfl,E⟩,if_pos ⟨he,E⟩];rfl
   rw[if_neg (λc=>E c.2),if_neg (λc=>E c.2)];exact ih (λd hd=>hl d (Lk _ hd))
 exact key _ (λe he=>(Zx he).2)
theorem QdU {a:QD}{ord:LI}{j i:Nat}(h:j≠i)(v:Int):eget (cnR a ord j) i v=none:=by
 refine J3 λe he h2=>?_;unfold cnR at he;obtain⟨d,_,rfl⟩:=Lq.1 he;have:(j:Int)=i:=h2.1;omega
theorem CnP.step {a:QD}{ord:LI}(h:CnP a ord){j:Nat}(hj:j<ord.length)(v:Int):eget (ZY a).ed j v=(eget a.ed (Zq ord j) v).map λu=>(ord.idxOf u:Int):=by
 rw[h.ed];have key:∀n,j<n→eget ((List.range' 0 n).flatMap (cnR a ord)) j v=eget (cnR a ord j) j v:=by
  intro n;induction n with
  | zero=>intro h;omega
  | succ n ih =>
   intro G;rw[Ml,LG,LR,U7];simp only[List.flatMap_cons,List.flatMap_nil,List.append_nil];by_cases e:j=n
   ·subst e;have:eget ((List.range' 0 j).flatMap (cnR a ord)) j v=none:=J3 λd hd h2=>by
     obtain⟨k,hk,E⟩:=MO.1 hd;rw[L6]at hk;unfold cnR at E;obtain⟨H,_,rfl⟩:=Lq.1 E;have:(k:Int)=j:=h2.1;omega
    rw[this]
   rw[ih (by omega),QdU (Ne.symm e)];cases eget (cnR a ord j) j v <;> rfl
 rw[key _ hj];exact Qju v
section
variable {p s:QD}{pn xn v:Int}
theorem QkK (E:v∈p.al)(h:eget p.ed pn v=none):Za v [p,s] [pn,xn]=none:=by rw[Za,if_neg (λe=>e E),h]
theorem QkJ (E:v∈p.al){G:Int}(h:eget p.ed pn v=some G)(hs:v∈s.al)(h2:eget s.ed xn v=none):Za v [p,s] [pn,xn]=none:=by
 rw[Za,if_neg (λe=>e E),h];simp only[];rw[Za,if_neg (λe=>e hs),h2];rfl
theorem QkI (H:v∈p.al){E G:Int}(h:eget p.ed pn v=some E)(hs:v∈s.al)(h2:eget s.ed xn v=some G):Za v [p,s] [pn,xn]=some [E,G]:=by
 rw[Za,if_neg (λe=>e H),h];simp only[];rw[Za,if_neg (λe=>e hs),h2];rfl
end
end Go.Proofs.YtjcgijbhaemldaaGreatDoor
namespace Go.Lg
open Go.RowKit
abbrev fen (ro:Option Nat):Fence:={ Fence.wide with round:=ro }
def coll (ds:LN):List Deferred:=ds.map λD=>{ target:=.collected D,args:=#[] }
structure YL (n:Nat)(ds:LN)(a:Act)(f:Fr):Prop where
 size:a.tmps.size=n
 defers:a.defers=coll ds
 get:∀t,a.tmps.getD t undef=f t
theorem YL.rel {n:Nat}{ds:LN}{a:Act}{f:Fr}(h:YL n ds a f):Rel n { a with defers:=[] } f:=⟨h.size,O,h.get⟩
theorem YL.eval {n:Nat}{ds:LN}{a:Act}{f:Fr}(h:YL n ds a f):a.eval=ev f:=by
 have:=h.rel.eval;rw[←this];funext x;cases x <;> rfl
theorem YL.put {n:Nat}{ds:LN}{a:Act}{f:Fr}(h:YL n ds a f){dst:Option Nat}(hd:∀d,dst=some d→d<n)(v:Value):YL n ds (a.put dst v) (QW f dst v):=by
 have:=h.rel.put hd v;cases dst with
 | none=>exact h
 | some d=>exact⟨this.size,h.defers,this.get⟩
def XJ:Code→Nat→Bool
 | .region _ ops _,t=>ZT ops.toList t
 | .seq a b,t=>XJ a t || XJ b t
 | .cond _ a b,t=>XJ a t || XJ b t
 | .block _ a,t=>XJ a t
 | .loop a,t=>XJ a t
 | .skip,_| .exit _,_| .label _,_| .goto _,_| .ret,_| .rangeFunc ..,_=>false
 | _,_=>true
def wrG (D:List (Nat×Nat)):Code→Bool
 | .region _ ops _=>Qen D ops.toList
 | .seq a b=>wrG D a && wrG D b
 | .cond _ a b=>wrG D a && wrG D b
 | .block _ a=>wrG D a
 | .loop a=>wrG D a
 | .skip| .exit _| .label _| .goto _| .ret| .rangeFunc ..=>true
 | _=>false
theorem Jv {D:List (Nat×Nat)}{t:Nat}(ht:Xk D t=false):∀c:Code,wrG D c=true→XJ c t=false
 | .region _ ops _,h=>yZ h ht
 | .seq a b,h=>by simp only[wrG,Bool.and_eq_true]at h;simp[XJ,Jv ht a h.1,Jv ht b h.2]
 | .cond _ a b,h=>by simp only[wrG,Bool.and_eq_true]at h;simp[XJ,Jv ht a h.1,Jv ht b h.2]
 | .block _ a,h=>Jv ht a (by simpa[wrG]using h)
 | .loop a,h=>Jv ht a (by simpa[wrG]using h)
 | .skip,_=>rfl
 | .exit _,_=>rfl
 | .label _,_=>rfl
 | .goto _,_=>rfl
 | .ret,_=>rfl
 | .rangeFunc ..,_=>rfl
 | .scope _,h=>by simp[wrG]at h
 | .refuse _,h=>by simp[wrG]at h
def WG (ro:Option Nat)(m:Nat)(P:Program)(n:Nat)(c:Code)(Q:Exit→LN→Fr→World→Prop)(ds:LN)(f:Fr)(w:World):Prop :=
 ∀a,YL n ds a f→c.wpIn (fen ro) m P (λe E w'=>∃ds' f',YL n ds' E f'∧(∀t,XJ c t=false→f' t=f t)∧Q e ds' f' w') a w
def Qde (K:LN→Fr→World→Prop)(Q:Exit→LN→Fr→World→Prop):Exit→LN→Fr→World→Prop
 | .normal,ds,f,w=>K ds f w
 | e,ds,f,w=>Q e ds f w
def Qqc (id:Nat)(Q:Exit→LN→Fr→World→Prop):Exit→LN→Fr→World→Prop
 | .exit i,ds,f,w=>bif Nat.beq i id then Q .normal ds f w else Q (.exit i) ds f w
 | e,ds,f,w=>Q e ds f w
section
variable {ro:Option Nat}{m:Nat}{P:Program}{n:Nat}{Q:Exit→LN→Fr→World→Prop}{ds:LN}{f:Fr}{w:World}
theorem WG.mono {c:Code}{Q':Exit→LN→Fr→World→Prop}(h:WG ro m P n c Q ds f w)(hq:∀e ds f w,Q e ds f w→Q' e ds f w):WG ro m P n c Q' ds f w :=
 λa ha=>wpIn_mono (h a ha) λ_ _ _ ⟨E,G,h1,h2,h3⟩=>⟨E,G,h1,h2,hq _ _ _ _ h3⟩
theorem WG.keeps {c:Code}(h:WG ro m P n c Q ds f w):WG ro m P n c (λe G E w'=>(∀t,XJ c t=false→E t=f t)∧Q e G E w') ds f w :=
 λa ha=>wpIn_mono (h a ha) λ_ _ _ ⟨G,E,h1,h2,h3⟩=>⟨G,E,h1,h2,h2,h3⟩
theorem Yj (h:Q .normal ds f w):WG ro m P n .skip Q ds f w:=λ_ ha=>wpIn_skip ⟨ds,f,ha,λ_ _=>O,h⟩
theorem Kp {i:Nat}(h:Q (.exit i) ds f w):WG ro m P n (.exit i) Q ds f w:=λ_ ha=>wpIn_exit ⟨ds,f,ha,λ_ _=>O,h⟩
theorem K7 (h:Q .ret ds f w):WG ro m P n .ret Q ds f w:=λ_ ha=>wpIn_ret ⟨ds,f,ha,λ_ _=>O,h⟩
theorem Q2 {x y:Code}(h:WG ro m P n x (Qde (λds f w=>WG ro m P n y Q ds f w) Q) ds f w):WG ro m P n (.seq x y) Q ds f w:=by
 intro a ha;refine wpIn_seq (wpIn_mono (h a ha) ?_);rintro e H w' ⟨G,E,h1,h2,h3⟩;have k1:∀t,XJ (.seq x y) t=false→E t=f t:=λt ht=>h2 t (by simp only[XJ,Bool.or_eq_false_iff]at ht;exact ht.1);cases e with
 | normal =>
  refine wpIn_mono (h3 H h1) λ_ _ _ ⟨I,J,U,V,Y⟩=>⟨I,J,U,λt ht=>(V t ?_).trans (k1 t ht),Y⟩;simp only[XJ,Bool.or_eq_false_iff]at ht;exact ht.2
 | exit id=>exact⟨G,E,h1,k1,h3⟩
 | goto l=>exact⟨G,E,h1,k1,h3⟩
 | ret=>exact⟨G,E,h1,k1,h3⟩
 | panic ch=>exact⟨G,E,h1,k1,h3⟩
 | outgrown=>exact⟨G,E,h1,k1,h3⟩
theorem Qnm {α:Type}{x y:Code}(D:List (Nat×Nat))(S:α→List (Nat×Value))(I:α→LN→World→Prop)(hD:wrG D x=true)
  (h1:WG ro m P n x (Qde (λE G w'=>∃z,YV G (S z)∧I z E w') Q) ds f w)
  (h2:∀z g E w',I z E w'→WG ro m P n y Q E (VA (S z) (mix D f g)) w'):WG ro m P n (.seq x y) Q ds f w:=by
 refine Q2 (h1.keeps.mono ?_);rintro e E G w' ⟨hk,hq⟩;cases e with
 | normal =>
  obtain⟨z,hs,hi⟩:=hq;have h3:=h2 z G E w' hi;rw[Xg (λt ht=>hk t (Jv ht x hD)),Yv hs]at h3;exact h3
 | exit id=>exact hq
 | goto l=>exact hq
 | ret=>exact hq
 | panic ch=>exact hq
 | outgrown=>exact hq
theorem K8 {c:Operand}{x y:Code}{t:Bool}(hc:ev f c=.bool t)(ht:t=true→WG ro m P n x Q ds f w)(E:t=false→WG ro m P n y Q ds f w):
  WG ro m P n (.cond c x y) Q ds f w:=by
 intro a ha;have G:a.eval c=.bool t:=by rw[ha.eval];exact hc
 refine wpIn_cond_split G (λe=>wpIn_mono (ht e a ha) ?_) (λe=>wpIn_mono (E e a ha) ?_) <;>
  (rintro e J w' ⟨H,I,h1,h2,h3⟩
   refine⟨H,I,h1,λt ht=>h2 t ?_,h3⟩;simp only[XJ,Bool.or_eq_false_iff]at ht
   first|exact ht.1|exact ht.2)
theorem Qo7 {c:Operand}{x y:Code}{p:Prop}[Decidable p](hc:ev f c=.bool (decide p))(ht:p→WG ro m P n x Q ds f w)(E:¬p→WG ro m P n y Q ds f w):
  WG ro m P n (.cond c x y) Q ds f w :=
 K8 hc (λe=>ht (of_decide_eq_true e)) (λe=>E (of_decide_eq_false e))
theorem yx {c:Operand}{x y:Code}{p:Prop}[Decidable p](hc:ev f c=.bool (decide p))(E:¬p→WG ro m P n y Q ds f w)(ht:p→WG ro m P n x Q ds f w):
  WG ro m P n (.cond c x y) Q ds f w:=Qo7 hc ht E
theorem Qbe {c:Operand}{x y:Code}(hc:ev f c=.bool true)(h:WG ro m P n x Q ds f w):WG ro m P n (.cond c x y) Q ds f w:=K8 hc (λ_=>h) (λe=>by cases e)
theorem Vo {c:Operand}{x y:Code}(hc:ev f c=.bool false)(h:WG ro m P n y Q ds f w):WG ro m P n (.cond c x y) Q ds f w:=K8 hc (λe=>by cases e) (λ_=>h)
theorem ZS {id:Nat}{c:Code}(h:WG ro m P n c (Qqc id Q) ds f w):WG ro m P n (.block id c) Q ds f w:=by
 intro a ha;refine wpIn_block (wpIn_mono (h a ha) ?_);rintro e H w' ⟨G,E,h1,h2,h3⟩;have k1:∀t,XJ (.block id c) t=false→E t=f t:=λt ht=>h2 t (by simpa[XJ]using ht);cases e with
 | exit i =>
  simp only[Exit.inBlock];simp only[Qqc]at h3;by_cases hi:i=id
  ·subst hi;simp only[Nat.beq_refl,cond_true]at h3;simp only[if_true];exact⟨G,E,h1,k1,h3⟩
  have hb:Nat.beq i id=false:=by
   cases e:Nat.beq i id with
   | false=>rfl
   | true=>exact absurd (Nat.eq_of_beq_eq_true e) hi
  rw[hb]at h3;rw[if_neg hi];exact⟨G,E,h1,k1,h3⟩
 | normal=>exact⟨G,E,h1,k1,h3⟩
 | goto l=>exact⟨G,E,h1,k1,h3⟩
 | ret=>exact⟨G,E,h1,k1,h3⟩
 | panic ch=>exact⟨G,E,h1,k1,h3⟩
 | outgrown=>exact⟨G,E,h1,k1,h3⟩
end
def QbV (l:List Oper):Bool:=l.all λo=>match o.op with| .defer _=>false|_=>true
theorem VH {l:List Oper}(h:QbV l=true):∀o∈l,∀c,o.op≠.defer c:=λo E c e=>by
 have:=LY.1 h o E;rw[e]at this;cases this
section
variable {ro:Option Nat}{m:Nat}{P:Program}{n:Nat}{ds:LN}
theorem QfU {o:Oper}{a:Act}{f:Fr}{w:World}{K:Fr→World→Prop}{K':Act→World→Prop}{Q:Exit→Act→World→Prop}(h:YL n ds a f)(G:∀c,o.op≠.defer c)
  (E:∀v w',K (QW f o.dst v) w'→K' (a.put o.dst v) w') (hx:XO P o f w K):o.wpIn (fen ro) m P a w K' Q:=by
 unfold XO at hx;refine⟨λ_ _=>trivial,?_⟩;have e:Oper.semAt (fen ro).round a.eval o=execOp (ev f) o:=by
  rw[h.eval];cases ro with
  | none=>rfl
  | some l=>exact Oper.semAt_some l _ _ G
 rw[e];generalize (execOp (ev f) o).run P w=r at hx;cases r with
 | ok nx w' =>
  cases nx <;> simp only[upF]at hx <;> simp only[Oper.uponIn]
  case value v=>exact E v w' hx
  case skip=>exact E _ w' hx
  case enter g args =>
   refine⟨λh=>by simp[Fence.wide]at h,?_⟩;refine(callsIn_wide (n:=m - 1)).2 (Calls.mono hx λe H he=>?_);cases e with
   | returned v=>exact E v H he
   | panicked c=>exact he.elim
   | outgrown=>exact he.elim
 | halt x w'=>exact hx.elim
theorem Vz {l:List Oper}{a:Act}{f:Fr}(h:YL n ds a f)(E:∀o∈l,∀d,o.dst=some d→d<n)(o:Oper):Region.wanted o (yielded l.toArray a.tmps)=Yd l f o:=UB h.rel E o
theorem QfW {Q:Exit→LN→Fr→World→Prop}{all:List Oper}(G:∀o∈all,∀d,o.dst=some d→d<n)(hd:∀o∈all,∀c,o.op≠.defer c)(H:Fr):
  ∀(l:List Oper) (k:Nat) (a:Act) (f:Fr) (w:World),(∀j,l[j]?=all[k+j]?)→YL n ds a f→(∀t,ZT all t=false→f t=H t) →
   XL P all (λf w=>Q .normal ds f w) l f w →
   wpOpsIn (fen ro) m P all.toArray (λe V w'=>∃ds' f',YL n ds' V f'∧(∀t,ZT all t=false→f' t=H t)∧Q e ds' f' w') (List.range' k l.length) a w
 | [],_,a,f,w,_,E,hk,h=>⟨ds,f,E,hk,by unfold XL at h;exact h⟩
 | o::l,k,a,f,w,hl,E,hk,h=>by
  have J:all[k]?=some o:=by simpa using(hl 0).symm
  have I:o∈all:=Mv J;have ih:=λa f w=>QfW (Q:=Q) G hd H l (k+1) a f w (λj=>by have:=hl (j+1);simpa[Nat.add_assoc,Nat.add_comm 1 j]using this);have next:∀v,(∀t,ZT all t=false→QW f o.dst v t=H t):=λv t ht=>(ZX (Jd I ht) v).trans (hk t ht);simp only[List.length_cons,List.range'_succ,wpOpsIn,List.getElem?_toArray,J];rw[Vz E G o];unfold XL at h;cases U:Yd all f o with
  | false =>
   rw[U]at h;exact⟨λ_ _=>trivial,ih _ _ _ (E.put (G o I) _) (next _) h⟩
  | true =>
   rw[U]at h;exact QfU E (hd o I) (λv w' hx=>ih _ _ _ (E.put (G o I) v) (next v) hx) h
theorem QK {Q:Exit→LN→Fr→World→Prop}{f:Fr}{w:World}{id:Nat}{l:List Oper}(E:Xn n l=true)(hd:QbV l=true)(h:XL P l (λf w=>Q .normal ds f w) l f w):WG ro m P n (.region id l.toArray false) Q ds f w:=by
 intro a ha;refine wpIn_region ?_;have:=QfW (ro:=ro) (m:=m) (Y3 E) (VH hd) f l 0 a f w (by simp) ha (λ_ _=>rfl) h;simpa[List.range_eq_range',XJ]using this
attribute [local semireducible] XA in
theorem qM {Q:Exit→Act→World→Prop}{all:List Oper}{C:World→Prop}{K:Fr→World→Prop}(G:∀o∈all,∀d,o.dst=some d→d<n)(hd:∀o∈all,∀c,o.op≠.defer c)(H:Fr)
  (I:∀a f w,YL n ds a f→(∀t,ZT all t=false→f t=H t)→K f w→Q .normal a w):
  ∀(k:Nat) (ls:Array Bool) (a:Act) (f:Fr) (w:World),YL n ds a f→(∀t,ZT all t=false→f t=H t)→XA P all C K k ls f w→wpAnyIn (fen ro) m P .any all.toArray Q k ls a w
 | 0,_,a,f,w,E,hk,h=>⟨h.1,I a f w E hk h.2⟩
 | k+1,ls,a,f,w,E,hk,h=>by
  refine⟨λY=>I a f w E hk (h.1 Y),λi hi=>?_⟩;unfold wpOpIn;simp only[List.getElem?_toArray];cases U:all[i]? with
  | none =>
   exfalso;obtain⟨_,o,ha,_⟩:=mem_ready.1 hi;simp[U]at ha
  | some o =>
   have J:o∈all:=Mv U;have h1:=h.2 i hi o U;have next:∀v,(∀t,ZT all t=false→QW f o.dst v t=H t):=λv t ht=>(ZX (Jd J ht) v).trans (hk t ht);simp only[];rw[Vz E G o];cases V:Yd all f o with
   | false =>
    rw[V]at h1;exact⟨λ_ _=>trivial,qM G hd H I k _ _ _ _ (E.put (G o J) _) (next _) h1⟩
   | true =>
    rw[V]at h1;exact QfU E (hd o J) (λv w' hx=>qM G hd H I k _ _ _ _ (E.put (G o J) v) (next v) hx.2) h1
theorem Qbf {Q:Exit→LN→Fr→World→Prop}{f:Fr}{w:World}{all:List Oper}{id:Nat}(C:World→Prop)(pl:List (Nat×Bool))(hm:P.follows .mixedOrders=true)(G:Xn n all=true)(hd:QbV all=true)(hp:Qaw all pl=true)
  (hC:C { w with drawn:=w.drawn+1 }) (h:XP P all C (λf w=>Q .normal ds f w) pl f { w with drawn:=w.drawn+1 }):WG ro m P n (.region id all.toArray true) Q ds f w:=by
 intro a ha;simp only[Qaw,Bool.and_eq_true,beq_iff_eq]at hp;obtain⟨⟨hs,hl⟩,hp⟩:=hp;refine wpIn_region_any hm ?_;have h1:=Zz hs pl _ _ _ (by simp) (.inl hC) hp h;rw[hl]at h1;have h2:=qM (ro:=ro) (m:=m) (n:=n) (ds:=ds) (Q:=λe H w'=>∃ds' E,YL n ds' H E∧(∀t,ZT all t=false→E t=f t)∧Q e ds' E w') (Y3 G) (VH hd) f
  (λa E w I hk hq=>⟨ds,E,I,hk,hq⟩) _ _ a f _ ha (λ_ _=>O) h1
 simpa[XJ]using h2
end
section
variable {ro:Option Nat}{m:Nat}{P:Program}{n:Nat}{Q:Exit→LN→Fr→World→Prop}{ds:LN}{f:Fr}{w:World}
theorem qf {α:Type}{F:Fence}{c:Code}{Q:Exit→Act→World→Prop}{a:Act}{w:World}(J:α→Act→World→Prop)(μ:α→Nat)(z:α)(h₀:J z a w)
  (round:∀x a w,J x a w→c.wpIn F m P (Exit.then (λG w'=>∃H,μ H<μ x∧J H G w') Q) a w):(Code.loop c).wpIn F m P Q a w:=by
 intro b k cs U hb I;have key:∀j x a w,μ x=j→J x a w →
   ∃e G w',Q e G w'∧ArrivesIn (Machine.fenced P F) P (lone (b.atR a (.code c::.inLoop c::k)) cs w) b k cs e G w':=by
  intro j;induction j using Nat.strongRecOn with
  | _ j ih =>
   intro x a w V Y;obtain⟨e,a₁,w₁,hq,E⟩:=round x a w Y b (.inLoop c::k) cs U hb I;cases e with
   | normal =>
    obtain⟨H,ha,hc⟩:=hq;obtain⟨e₂,a₂,w₂,hq₂,harr₂⟩:=ih (μ H) (V ▸ ha) H a₁ w₁ O hc;exact⟨e₂,a₂,w₂,hq₂,.of_steps (StepsIn.trans E (.one (fenced_calm hb I O) stepR_inLoop)) harr₂⟩
   | exit id=>exact⟨_,a₁,w₁,hq,.pass (x:=.inLoop c) O (λ_ _=>.inl (by simp)) E⟩
   | goto l=>exact⟨_,a₁,w₁,hq,.pass (x:=.inLoop c) O (λ_ _=>.inl (by simp)) E⟩
   | ret=>exact⟨_,a₁,w₁,hq,.pass (x:=.inLoop c) O (λ_ _=>.inl (by simp)) E⟩
   | panic ch=>exact⟨_,a₁,w₁,hq,.pass (x:=.inLoop c) O (λ_ _=>.inl (by simp)) E⟩
   | outgrown=>exact⟨_,a₁,w₁,hq,.pass (x:=.inLoop c) O (λ_ _=>.inl (by simp)) E⟩
 obtain⟨e,G,w',hq,E⟩:=key _ z a w O h₀;exact⟨e,G,w',hq,.of_steps (.one (fenced_calm hb I O) stepR_loop) E⟩
theorem VP {α:Type}{c:Code}(D:List (Nat×Nat))(S:α→List (Nat×Value))(I:α→LN→World→Prop)(μ:α→Nat)(hD:wrG D c=true)(z:α)
  (h0:YV f (S z)) (hI:I z ds w)
  (round:∀x g H w',I x H w'→WG ro m P n c (Qde (λE J hb=>∃Y,μ Y<μ x∧YV J (S Y)∧I Y E hb) Q) H (VA (S x) (mix D f g)) w'):WG ro m P n (.loop c) Q ds f w:=by
 intro a ha;refine qf (λ(x:α) a' w'=>∃H J,YL n H a' J∧(∀t,XJ c t=false→J t=f t)∧YV J (S x)∧I x H w') μ z ⟨ds,f,ha,λ_ _=>O,h0,hI⟩ ?_;rintro x a' w' ⟨H,J,h1,h2,h3,h4⟩;have h5:=round x J H w' h4;rw[Xg (λt ht=>h2 t (Jv ht c hD)),Yv h3]at h5;refine wpIn_mono (h5 a' h1) ?_;rintro e hc hb ⟨E,G,U,g2,V⟩;have k1:∀t,XJ c t=false→G t=f t:=λt ht=>(g2 t ht).trans (h2 t ht)
 have k2:∀t,XJ (.loop c) t=false→G t=f t:=λt ht=>k1 t (by simpa[XJ]using ht);cases e with
 | normal=>obtain⟨Y,hm,hs,hi⟩:=V;exact⟨Y,hm,E,G,U,k1,hs,hi⟩
 | exit id=>exact⟨E,G,U,k2,V⟩
 | goto l=>exact⟨E,G,U,k2,V⟩
 | ret=>exact⟨E,G,U,k2,V⟩
 | panic ch=>exact⟨E,G,U,k2,V⟩
 | outgrown=>exact⟨E,G,U,k2,V⟩
end
def rqG (P:Program)(rs:List ResultVar)(R:Value→World→Prop):Exit→LN→Fr→World→Prop
 | .normal,ds,f,w=>(∀D∈ds,w.heap[D]?=some (.deferred (some [])))∧ds.Nodup∧∃vs,∀w',Step ds w w'→Ux P f w' rs vs∧R (tup vs) w'
 | .ret,ds,f,w=>(∀D∈ds,w.heap[D]?=some (.deferred (some [])))∧ds.Nodup∧∃vs,∀w',Step ds w w'→Ux P f w' rs vs∧R (tup vs) w'
 | _,_,_,_=>False
theorem Step.putObj (w:World)(D:Nat)(o:Obj):Step [D] w (w.putObj D o):=⟨O,O,O,by simp,λk _ hk=>World.putObj_heap_other (λe=>hk (by simp[e]))⟩
theorem zx {F:Fence}{m:Nat}{P:Program}{fn:Func}{tmps:Array Value}{R:Ending→World→Prop}:∀(ds:LN) (w:World),(∀D∈ds,w.heap[D]?=some (.deferred (some [])))→ds.Nodup →
  (∀w',Step ds w w'→∃v,(results fn tmps).run P w'=.ok v w'∧R (.returned v) w')→LeavesInM F m P fn tmps R (coll ds) .returning w
 | [],w,_,_,h=>h w (Step.refl _ _)
 | D::ds,w,hD,H,h=>by
  refine⟨by simp,.inl ⟨D,_,rfl,run_takeDeferred (hD D Lm),?_⟩⟩;have hs:=Step.putObj w D (.deferred none);have G:=List.nodup_cons.1 H;refine zx ds _ (λE hE=>?_) G.2 (λw' I=>h w' ?_)
  ·rw[World.putObj_heap_other (λe=>G.1 (by rw[←e];exact hE))];exact hD E (Lk _ hE)
  exact(hs.mono (λb hb=>by simp at hb;simp[hb])).trans' (I.mono (λb hb=>Lk _ hb))
theorem QH.of_G {P:Program}{g:Nat}{fn:Func}{c:Code}{args:LV}{w:World}{R:Value→World→Prop}{n:Nat}{rs:List ResultVar}(m:Nat)
  (U:P.funcs[g]?=some fn) (hb:fn.body=some c) (V:fn.ntmps=n) (Y:fn.results=rs.toArray) (hl:args.length≤n)
  (h:WG none m P n c (rqG P rs R) [] (ent args) w):QH P g args w R:=by
 unfold QH;refine(callsIn_wide (n:=m)).1 (callsIn_of_wp_marks U hb Z (wpIn_mono (h _ ?_) ?_))
 ·refine⟨by simp[V];omega,O,λt=>?_⟩;have key:∀(l:LV) (t:Nat),l[t]?.getD undef=ent l t:=by
   intro l;induction l with
   | nil=>intro t;rfl
   | cons v l ih=>intro t;cases t with|zero=>rfl|succ t=>simpa[ent]using ih t
  rw[←key];simp only[Array.getD_eq_getD_getElem?,Array.getElem?_append,List.size_toArray,List.getElem?_toArray];by_cases ht:t<args.length
  ·simp[ht]
  simp[ht,Array.getElem?_replicate];split <;> rfl
 rintro e H w' ⟨G,f',h1,_,h3⟩;have fin:((∀D∈G,w'.heap[D]?=some (.deferred (some [])))∧G.Nodup∧∃vs,∀E,Step G w' E→Ux P f' E rs vs∧R (tup vs) E) →
   LeavesInM Fence.wide m P fn H.tmps (λe w'=>match e with| .returned v=>R v w'|_=>False) H.defers .returning w':=by
  rintro⟨hd,ha,vs,I⟩;rw[h1.defers];refine zx G w' hd ha λE J=>⟨tup vs,?_,(I E J).2⟩;simp only[results,Y,List.mapM_toArray,Sem.run_bind,Sem.run_map];rw[Jy (a:={ H with defers:=[] }) h1.rel _ (λ_=>rfl) (λ_ _=>rfl) rs vs (I E J).1]
  cases vs with
  | nil=>rfl
  | cons v vs=>cases vs with|nil=>rfl|cons u us=>rfl
 cases e with
 | normal=>exact fin h3
 | ret=>exact fin h3
 | exit id=>exact h3.elim
 | goto l=>exact h3.elim
 | panic c=>exact h3.elim
 | outgrown=>exact h3.elim
attribute [irreducible] WG
end Go.Lg
namespace Go.Proofs.YtjcgijbhaemldaaGreatDoor
open Go.Proofs.Tryz
open Go.Lg
theorem Qao {L:LN}{w:World}{v:Value}{l:LI}(h:QJ L w.heap v l)(n:Int):
  QH prog 136 [v,.int .i64 n] w λr w'=>r=.int .i64 (YM n none l)∧w'=w:=by
 have hc:=h.le;refine QH.of_W func136 O ntmps136 results136 (by simp) ?_;refine Qc<|Qf<|Qg<|Qc<|Qb<|x (Qr h O)<|Qb<|xe<|Qh<|Qz (α:=Nat) [(4,6),(9,34)] (λk=>[(9,.int .i64 k)]) (λk w'=>w'=w∧k≤l.length∧YM n (pv l k) (l.drop k)=YM n none l) (λk=>l.length - k) (by rfl) 0 La ⟨O,Ll _,O⟩ ?_;rintro k g U ⟨rfl,hk,hm⟩;refine Qc<|x (QA O O)<|xe<|Qg<|QC O (λV=>?_) (λV=>?_)
 ·refine Qy<|Qc<|Qf<|Ql ⟨[.int .i64 0],La,?_,O⟩;rw[←hm,Lv (by omega)];rfl
 have E:k<l.length:=by omega
 have hd:=Q5 E;rw[hd,YM]at hm;refine Qi<|Qg<|Qh<|Qc<|Qb<|xii h O O E λhe Y=>x (Qv Y O)<|x Qe<|Qf<|Qh<|QX (α:=Bool) [(14,21)] (λz=>[(14,.bool z)]) (λz w'=>w'=U∧z=decide (l[k]<0∨n≤l[k])) (by rfl) ?_ ?_
 ·refine Qw<|Qb<|xb (QA O O) (λG=>?_) (λG=>?_)
  ·refine Qb<|xs O<|xs O<|xs O<|x (Qp O)<|Qf ?_;exact⟨true,La,O,by simp[G]⟩
  refine Qb<|Qb<|Qb<|x (ZV O O)<|x (Qp O)<|Qf ?_;exact⟨_,La,O,by simp[G]⟩
 rintro z g w2 ⟨rfl,rfl⟩;refine Q3 rfl (λH=>?_) (λH=>?_)
 ·refine Qc<|Qf<|Ql ⟨[.int .i64 2],La,?_,O⟩;rw[←hm,if_pos H];rfl
 rw[if_neg H]at hm;refine QX (α:=Bool) [(22,33)] (λz=>[(22,.bool z)]) (λz w'=>w'=w2∧z=zy (pv l k) l[k]) (by rfl) ?_ ?_
 ·refine Qw<|Qb<|xb (ZR O O) (λha=>?_) (λha=>?_)
  ·have hk1:((k:Int) - 1)=((k - 1:Nat):Int):=by omega
   refine Qb<|Qb<|Qb<|Qb<|x (JW O O ⟨by omega,by omega⟩)<|xii (i:=k - 1) h O (by show Value.int _ ((k:Int) - 1)=_;rw[hk1]) (by omega) λhf hb=>x (Qv hb rfl)<|x (Kr rfl rfl)<|x (Qp rfl)<|Qf<|⟨_,⟨rfl,Z⟩,rfl,?_⟩;have:pv l k=some l[k - 1]:=by
    have I:k≠0:=by omega
    simp[pv,I,show k - 1<l.length by omega]
   rw[this];rfl
  refine Qb<|xs O<|xs O<|xs O<|xs O<|xs O<|xs O<|xs O<|x (Qp O)<|Qf ?_;have I:k=0:=by omega
  exact⟨false,La,O,by simp[pv,I,zy]⟩
 rintro z g w3 ⟨rfl,rfl⟩;refine QZ rfl (λJ=>?_) (λJ=>?_)
 ·refine Qc<|Qf<|Ql ⟨[.int .i64 5],La,?_,O⟩;rw[←hm,if_pos J];rfl
 rw[if_neg (by simp[J])]at hm;refine Qi<|Qw<|QP O O<|Qb<|xe ?_;exact⟨k+1,by omega,La,O,by omega,by rw[J9 E];exact hm⟩
theorem K9 {L:LN}{w:World}{v:Value}{l:LI}(h:QJ L w.heap v l)(n:Int):
  QH prog 167 [v,.int .i64 n] w λr w'=>r=.int .i64 (YM n none l)∧w'=w:=by
 have hc:=h.le;refine QH.of_W func167 O ntmps167 results167 (by simp) ?_;refine Qc<|Qf<|Qg<|Qc<|Qb<|x (Qr h O)<|Qb<|xe<|Qh<|Qz (α:=Nat) [(4,6),(9,32)] (λk=>[(9,.int .i64 k)]) (λk w'=>w'=w∧k≤l.length∧YM n (pv l k) (l.drop k)=YM n none l) (λk=>l.length - k) (by rfl) 0 La ⟨O,Ll _,O⟩ ?_;rintro k g U ⟨rfl,hk,hm⟩;refine Qc<|x (QA O O)<|xe<|Qg<|QC O (λV=>?_) (λV=>?_)
 ·refine Qy<|Qc<|Qf<|Ql ⟨[.int .i64 0],La,?_,O⟩;rw[←hm,Lv (by omega)];rfl
 have E:k<l.length:=by omega
 have hd:=Q5 E;rw[hd,YM]at hm;refine Qi<|Qg<|Qh<|Qc<|Qb<|xii h O O E λhe Y=>x (Qv Y O)<|x Qe<|Qf<|Qg<|QX (α:=Bool) [(14,20)] (λz=>[(20,.bool z)]) (λz w'=>w'=U∧z=decide (l[k]<0∨n≤l[k])) (by rfl) ?_ ?_
 ·refine Qw<|Qb<|xb (QA O O) (λG=>?_) (λG=>?_)
  ·refine Qb<|xs O<|xs O<|xs O<|x (Qp O)<|xe ?_;exact⟨true,La,O,by simp[G]⟩
  refine Qb<|Qb<|Qb<|x (ZV O O)<|x (Qp O)<|xe ?_;exact⟨_,La,O,by simp[G]⟩
 rintro z g w2 ⟨rfl,rfl⟩;refine Q3 rfl (λH=>?_) (λH=>?_)
 ·refine Qc<|Qf<|Ql ⟨[.int .i64 2],La,?_,O⟩;rw[←hm,if_pos H];rfl
 rw[if_neg H]at hm;refine Qi<|QX (α:=Bool) [(21,31)] (λz=>[(31,.bool z)]) (λz w'=>w'=w2∧z=zy (pv l k) l[k]) (by rfl) ?_ ?_
 ·refine Qw<|Qb<|xb (ZR O O) (λha=>?_) (λha=>?_)
  ·have hk1:((k:Int) - 1)=((k - 1:Nat):Int):=by omega
   refine Qb<|Qb<|Qb<|Qb<|x (JW O O ⟨by omega,by omega⟩)<|xii (i:=k - 1) h O (by show Value.int _ ((k:Int) - 1)=_;rw[hk1]) (by omega) λhf hb=>x (Qv hb rfl)<|x (Kr rfl rfl)<|x (Qp rfl)<|xe<|⟨_,La,O,?_⟩;have:pv l k=some l[k - 1]:=by
    have I:k≠0:=by omega
    simp[pv,I,show k - 1<l.length by omega]
   rw[this];rfl
  refine Qb<|xs O<|xs O<|xs O<|xs O<|xs O<|xs O<|xs O<|x (Qp O)<|xe ?_;have I:k=0:=by omega
  exact⟨false,La,O,by simp[pv,I,zy]⟩
 rintro z g w3 ⟨rfl,rfl⟩;refine QZ rfl (λJ=>?_) (λJ=>?_)
 ·refine Qc<|Qf<|Ql ⟨[.int .i64 5],La,?_,O⟩;rw[←hm,if_pos J];rfl
 rw[if_neg (by simp[J])]at hm;refine Qi<|Qw<|QP O O<|Qb<|xe ?_;exact⟨k+1,by omega,La,O,by omega,by rw[J9 E];exact hm⟩
theorem ya {L:LN}{w:World}{va vm ve v:Value}{a:QD}{l:LI}(h:QJ L w.heap v l):
  QH prog 79 [.agg #[va,.int .i64 a.st,vm,ve],v] w λr w'=>r=.int .i64 (YM a.st none l)∧Step [] w w':=by
 refine QH.of_W func79 O ntmps79 results79 (by simp) ?_;refine Qc<|xl O<|QR (us:=[va,.int .i64 a.st,vm,ve]) O λH I E J G=>Qf<|Qc<|Qb<|x (Qa O)<|x (Qd G O O)<|xl O<|xf<|(Qao (h.ext E) a.st).mono ?_;rintro r2 U ⟨rfl,rfl⟩;refine Qf ?_;exact Ql ⟨[.int .i64 (YM a.st none l)],La,O,E⟩
def flg (n:Nat)(l:LI):List Bool:=(List.range n).map λi:Nat=>decide ((i:Int)∈l)
theorem qG (n:Nat)(l:LI):(flg n l).length=n:=by simp[flg]
theorem QaT {n:Nat}{l:LI}{i:Nat}(h:i<(flg n l).length):(flg n l)[i]'h=decide ((i:Int)∈l):=by simp[flg]
theorem QaS {n:Nat}{l:LI}{x:Int}(E:0≤x):(flg n l).set x.toNat true=flg n (l++[x]):=by
 apply LT
 ·simp[flg]
 intro i h2 h3;rw[MY,QaT h3];by_cases e:x.toNat=i
 ·have:(i:Int)=x:=by omega
  rw[if_pos e,this];simp
 have:(i:Int)≠x:=by omega
 rw[if_neg e,QaT];simp[this]
theorem Qcn {L:LN}{w:World}{va vm ve v:Value}{a:QD}{l:LI}{n:Nat}(h:QJ L w.heap v l)(V:a.st=(n:Int))(hq:a.st≤4096)(hl:∀s∈l,0≤s∧s<a.st):
  QH prog 80 [.agg #[va,.int .i64 a.st,vm,ve],v] w λr w'=>Step [] w w'∧∃b,r=.slice (some ⟨b,0,none⟩) n n∧w.heap.size≤b∧QT w'.heap b 4 ((flg n l).map Value.bool):=by
 have hr:=h.le;refine QH.of_W func80 O ntmps80 results80 (by simp) ?_;refine Qc<|xl O<|QR (us:=[va,.int .i64 a.st,vm,ve]) O λb2 w1 G ht hb=>Qf<|Qc<|x (Qa O)<|x (Qd hb O O)<|xl O<|XM (n:=n) (congrArg (Value.int .i64) V) (congrArg (Value.int .i64) V) (by omega) λb10 w2 Y hc he=>Qf ?_;have hf:=G.trans Y;have hg:QT w2.heap b10 4 ((flg n (l.take 0)).map Value.bool):=by
  have e:(List.replicate n (Value.bool false).cells.toList).flatten=(flg n (l.take 0)).map Value.bool:=by
   simp only[flg,List.take_zero,List.not_mem_nil,decide_false,List.map_map];apply LT
   ·simp[Value.cells]
   intro i h1 h2;simp[Value.cells]
  rw[←e];exact he
 refine Qg<|Qc<|Qb<|x (Qr (h.ext hf) O)<|Qb<|xe<|Qh<|Qz (α:=Nat) [(7,7),(13,20)] (λz=>[(13,.int .i64 z)]) (λz w'=>z≤l.length∧Step [] w1 w'∧QT w'.heap b10 4 ((flg n (l.take z)).map Value.bool)) (λz=>l.length - z) (by rfl) 0 La ⟨Ll _,Y,hg⟩ ?_;rintro k g w3 ⟨hk,I,J⟩;refine Qc<|x (QA O O)<|xe<|Qg<|QC O (λU=>?_) (λU=>?_)
 ·refine Qy ?_;have hh:l.length≤k:=by have H:¬(k:Int)<(l.length:Int):=U;omega
  rw[Lp hh]at J;refine Qc<|Qb<|Qf ?_;have hu:=G.size;exact Ql ⟨[.slice (some ⟨b10,0,none⟩) n n],La,G.trans I,b10,O,by omega,J⟩
 have E:k<l.length:=by have H:(k:Int)<(l.length:Int):=U;omega
 have hx:=hl _ (Lc E);have ha:l.take (k+1)=l.take k++[l[k]'E]:=Li E;refine Zj (l[k]'E) λs hs=>?_;rw[hs]at hx ha;have hi:s=(s.toNat:Int):=by omega
 have hj:=QaS (n:=n) (l:=l.take k) hx.1;refine Qi<|Qg<|Qh<|Qc<|xii (i:=k) ((h.ext G).ext I) O O E λhv H=>?_;rw[hs]at H;refine x (Qv H O)<|Qf<|Qw<|Qb<|Qb<|x (QS (i:=s.toNat) O (congrArg (Value.int .i64) hi) (by omega))<|xl O<|QF (j:=0+s.toNat*1) (u:=.bool true) J O O (by rw[Lh,qG];omega) O λw4 hm ho=>xe ?_
 have hp:QT w4.heap b10 4 ((flg n (l.take (k+1))).map Value.bool):=by
  rw[ha,←hj,Nt];simpa using ho
 refine Qw<|QP O O<|Qb<|xe ?_;exact⟨k+1,by omega,La,E,I.then1 hm hc,hp⟩
def Rv (l:LI)(i:Nat)(li:LI):Prop:=∃h:li.length=l.length,∀k (hk:k<l.length),li[k]'(by omega)=if k<i∨l.length≤k+i then l[l.length - 1 - k]'(by omega)else l[k]'hk
theorem Rv.start (l:LI):Rv l 0 l:=⟨O,λk hk=>by rw[if_neg (by omega)]⟩
theorem Rv.next {l li:LI}{i:Nat}(h:Rv l i li)(hi:i<l.length - 1 - i):Rv l (i+1) ((li.set i (l[l.length - 1 - i]'(by omega))).set (l.length - 1 - i) (l[i]'(by omega))):=by
 obtain⟨h1,h2⟩:=h;refine⟨by simp[h1],λk hk=>?_⟩;rw[MY,MY];by_cases e1:l.length - 1 - i=k
 ·rw[if_pos e1,if_pos (by omega)];congr 1;omega
 rw[if_neg e1];by_cases e2:i=k
 ·rw[if_pos e2,if_pos (by omega)];subst e2;rfl
 rw[if_neg e2,h2 k hk];by_cases e3:k<i∨l.length≤k+i
 ·rw[if_pos e3,if_pos (by omega)]
 rw[if_neg e3,if_neg (by omega)]
theorem Rv.fin {l li:LI}{i:Nat}(h:Rv l i li)(hi:l.length - 1 - i≤i)(G:2*i≤l.length):li=l.reverse:=by
 obtain⟨h1,h2⟩:=h;apply LT
 ·simp[h1]
 intro k hk H;have E:k<l.length:=by omega
 rw[h2 k E,List.getElem_reverse];by_cases e:k<i∨l.length≤k+i
 ·rw[if_pos e]
 rw[if_neg e];congr 1;omega
theorem Rv.at_i {l li:LI}{i:Nat}(h:Rv l i li)(hi:i<l.length - 1 - i):∃(E:i<li.length) (h3:l.length - 1 - i<li.length),li[i]'E=l[i]'(by omega)∧li[l.length - 1 - i]'h3=l[l.length - 1 - i]'(by omega):=by
 obtain⟨h1,h2⟩:=h;refine⟨by omega,by omega,?_,?_⟩
 ·rw[h2 i (by omega),if_neg (by omega)]
 rw[h2 _ (by omega),if_neg (by omega)]
theorem yv {w:World}{base:Nat}{v:Value}{l:LI}(h:Qt 3 base w v l)(hf:l.length≤1099511627776):
  QH prog 137 [v] w λ_ w'=>Qt 3 base w' v l.reverse∧Step (ob v) w w':=by
 refine QH.of_W func137 O ntmps137 results137 (by simp) ?_;refine Qc<|Qb<|x (Qr (QV (L:=[]) h hf (by simp)) rfl)<|x (JW rfl rfl ⟨by omega,by omega⟩)<|x Qe<|Qf<|Qh<|Qz (α:=Nat×LI) [(2,3),(7,27)] (λz=>[(2,.int .i64 z.1),(3,.int .i64 ((l.length:Int) - 1 - z.1))])
  (λz w'=>Rv l z.1 z.2∧2*z.1≤l.length∧Step (ob v) w w'∧Qt 3 base w' v z.2) (λz=>l.length - z.1) (by rfl) (0,l) ⟨O,congrArg (Value.int .i64) (by simp),Z⟩ ⟨Rv.start l,by simp,Step.refl _ _,h⟩ ?_
 rintro⟨i,li⟩ g G ⟨hR,J,U,E⟩;simp only[]at hR J E;refine Qg<|Qc<|Qb<|Qb<|x (QA O O)<|xe<|QC rfl (λh9=>?_) (λh9=>?_)
 ·refine Qy ?_;rw[hR.fin (by omega) J]at E;exact⟨[],Z,E,U⟩
 have V:i<l.length - 1 - i:=by omega
 have hj:(l.length:Int) - 1 - (i:Int)=((l.length - 1 - i:Nat):Int):=by omega
 have ho:li.length=l.length:=hR.1;have hh:=hR.next V;refine Exists.elim (hR.at_i V) λY H=>Exists.elim H λh3 H=>?_;refine Exists.elim (UJ E (by omega)) λgg hg=>Exists.elim hg λcap I=>?_;have ha:QJ [] G.heap v li:=QV E (by omega) (by simp)
 refine Qi<|Qg<|Qh<|QU (Step [] G) [(0,true),(1,true),(2,true),(3,true),(4,true),(5,true),(6,true),(7,true),(8,true),(9,true),(10,true),(11,true),(12,true),(13,false),(14,true),(15,false)] mixed (by rfl) (by kernel_rfl) (Step.drew _ _) ?_;refine p (λ_=>Qk)<|p (λ_=>Qk)<|p (λ_=>Qk)<|p (λ_=>Qk)<|p (λ_=>Qk)<|p (λ_=>Qk)<|pii (i:=l.length - 1 - i) O ha O (congrArg (Value.int .i64) hj) h3 λhp hb=>?_
 rw[H.2]at hb;refine pq (λ_ hc=>Qv (hb.ext hc) O)<|p (λ_=>Qk)<|p (λ_=>Qk)<|pii (i:=i) O ha O O Y λhq he=>?_;rw[H.1]at he;refine pq (λ_ hc=>Qv (he.ext hc) O)<|p (λ_=>QS (i:=i) (show ev _ _=_ from I) O (by omega)) <|
  pkl (hl:=by kernel_rfl)<|jk (Qs E (Step.drew [] G)) I O O Y λw2 hi hk=>p (λ_=>QS (i:=l.length - 1 - i) (show ev _ _=_ from I) (congrArg (Value.int .i64) hj) (by omega)) <|
  pkl (hl:=by kernel_rfl)<|jk hk (by rw[MW];exact I) O O (by rw[MW];exact h3) λw3 hm hn=>pe ?_
 refine Qw<|Qb<|QP O O<|Qb<|x (JW O O ⟨by omega,by omega⟩)<|x Qe<|Qf ?_;exact⟨(i+1,_),by simp only[];omega,⟨O,congrArg (Value.int .i64) (by omega),Z⟩,hh,by simp only[];omega,((U.trans (Step.drew [] G)).trans' hi).trans' hm,hn⟩
end Go.Proofs.YtjcgijbhaemldaaGreatDoor
namespace Go.Lg
open Go.RowKit
def upY (P:Program)(m:Nat)(dst:Option Nat)(f:Fr)(K:Fr→World→Prop):Result Next→Prop
 | .ok (.value v) w'=>K (QW f dst v) w'
 | .ok .skip w'=>K (QW f dst undef) w'
 | .ok (.enter g args) w'=>Calls P g args w' λe E=>match e with| .returned v=>K (QW f dst v) E|_=>False
 | .ok (.round l fn tmps assign body) w'=>RoundIn (fen none) (m - 1) P l fn tmps assign body w' λe E=>match e with| .returned v=>K (QW f dst v) E|_=>False
 | _=>False
def XOY (P:Program)(m:Nat)(o:Oper)(f:Fr)(w:World)(K:Fr→World→Prop):Prop:=upY P m o.dst f K ((execOp (ev f) o).run P w)
def Jt (P:Program)(m:Nat)(ops:List Oper)(K:Fr→World→Prop):List Oper→Fr→World→Prop
 | [],f,w=>K f w
 | o::l,f,w=>bif Yd ops f o then XOY P m o f w (Jt P m ops K l)else Jt P m ops K l (QW f o.dst undef) w
section
variable {m:Nat}{P:Program}{n:Nat}{ds:LN}
theorem XOY.of_XO {o:Oper}{f:Fr}{w:World}{K K':Fr→World→Prop}(E:∀f w,K f w→K' f w)(h:XO P o f w K):XOY P m o f w K':=by
 unfold XO at h;unfold XOY;generalize (execOp (ev f) o).run P w=r at h;cases r with
 | ok nx w' =>
  cases nx <;> simp only[upF]at h <;> simp only[upY]
  case value v=>exact E _ _ h
  case skip=>exact E _ _ h
  case enter g args =>
   refine Calls.mono h λe G he=>?_;cases e with
   | returned v=>exact E _ _ he
   | panicked c=>exact he.elim
   | outgrown=>exact he.elim
 | halt x w'=>exact h.elim
theorem Jt.pre {ops:List Oper}{K:Fr→World→Prop}{l2:List Oper}:∀(E:List Oper) (f:Fr) (w:World),XL P ops (λf w=>Jt P m ops K l2 f w) E f w→Jt P m ops K (E++l2) f w
 | [],f,w,h=>by unfold XL at h;exact h
 | o::E,f,w,h=>by
  unfold XL at h;show(bif Yd ops f o then XOY P m o f w (Jt P m ops K (E++l2))else Jt P m ops K (E++l2) (QW f o.dst undef) w);cases G:Yd ops f o with
  | false=>rw[G]at h;exact Jt.pre E _ _ h
  | true=>rw[G]at h;exact XOY.of_XO (λf w h=>Jt.pre E f w h) h
theorem Jt.pre2 {ops:List Oper}{K:Fr→World→Prop}{o1 o2:Oper}{l2:List Oper}{f:Fr}{w:World}(h:XL P ops (λf w=>Jt P m ops K l2 f w) [o1,o2] f w):Jt P m ops K (o1::o2::l2) f w:=Jt.pre [o1,o2] f w h
theorem Jt.of_XL {ops:List Oper}{K:Fr→World→Prop}{l:List Oper}{f:Fr}{w:World}(h:XL P ops K l f w):Jt P m ops K l f w:=by
 have:=Jt.pre (m:=m) (l2:=[]) l f w h
 rwa [LO]at this
theorem Qj3 {o:Oper}{a:Act}{f:Fr}{w:World}{K:Fr→World→Prop}{K':Act→World→Prop}{Q:Exit→Act→World→Prop}(h:YL n ds a f)
  (E:∀v w',K (QW f o.dst v) w'→K' (a.put o.dst v) w') (hx:XOY P m o f w K):o.wpIn (fen none) m P a w K' Q:=by
 unfold XOY at hx;refine⟨λ_ _=>trivial,?_⟩;have e:Oper.semAt (fen none).round a.eval o=execOp (ev f) o:=by rw[h.eval];rfl
 rw[e];generalize (execOp (ev f) o).run P w=r at hx;cases r with
 | ok nx w' =>
  cases nx <;> simp only[upY]at hx <;> simp only[Oper.uponIn]
  case value v=>exact E v w' hx
  case skip=>exact E _ w' hx
  case enter g args =>
   refine⟨λh=>by simp[Fence.wide]at h,?_⟩;refine(callsIn_wide (n:=m - 1)).2 (Calls.mono hx λe G he=>?_);cases e with
   | returned v=>exact E v G he
   | panicked c=>exact he.elim
   | outgrown=>exact he.elim
  case round l fn tmps assign body =>
   refine⟨λh=>by simp[Fence.wide]at h,?_⟩;refine RoundIn.mono hx λe G he=>?_;cases e with
   | returned v=>exact E v G he
   | panicked c=>exact he.elim
   | outgrown=>exact he.elim
 | halt x w'=>exact hx.elim
theorem QcV {Q:Exit→LN→Fr→World→Prop}{all:List Oper}(G:∀o∈all,∀d,o.dst=some d→d<n)(H:Fr):
  ∀(l:List Oper) (k:Nat) (a:Act) (f:Fr) (w:World),(∀j,l[j]?=all[k+j]?)→YL n ds a f→(∀t,ZT all t=false→f t=H t) →
   Jt P m all (λf w=>Q .normal ds f w) l f w →
   wpOpsIn (fen none) m P all.toArray (λe V w'=>∃ds' f',YL n ds' V f'∧(∀t,ZT all t=false→f' t=H t)∧Q e ds' f' w') (List.range' k l.length) a w
 | [],_,a,f,w,_,E,hk,h=>⟨ds,f,E,hk,by unfold Jt at h;exact h⟩
 | o::l,k,a,f,w,hl,E,hk,h=>by
  have J:all[k]?=some o:=by simpa using(hl 0).symm
  have I:o∈all:=Mv J;have ih:=λa f w=>QcV (Q:=Q) G H l (k+1) a f w (λj=>by have:=hl (j+1);simpa[Nat.add_assoc,Nat.add_comm 1 j]using this);have next:∀v,(∀t,ZT all t=false→QW f o.dst v t=H t):=λv t ht=>(ZX (Jd I ht) v).trans (hk t ht);simp only[List.length_cons,List.range'_succ,wpOpsIn,List.getElem?_toArray,J];rw[Vz E G o];unfold Jt at h;cases U:Yd all f o with
  | false =>
   rw[U]at h;exact⟨λ_ _=>trivial,ih _ _ _ (E.put (G o I) _) (next _) h⟩
  | true =>
   rw[U]at h;exact Qj3 E (λv w' hx=>ih _ _ _ (E.put (G o I) v) (next v) hx) h
theorem Vn {Q:Exit→LN→Fr→World→Prop}{f:Fr}{w:World}{id:Nat}{l:List Oper}(E:Xn n l=true)(h:Jt P m l (λf w=>Q .normal ds f w) l f w):WG none m P n (.region id l.toArray false) Q ds f w:=by
 unfold WG;intro a ha;refine wpIn_region ?_;have:=QcV (m:=m) (Y3 E) f l 0 a f w (by simp) ha (λ_ _=>rfl) h;simpa[List.range_eq_range',XJ]using this
theorem xy {ops:List Oper}{rest:List Oper}{f:Fr}{w:World}{K:Fr→World→Prop}{d:Option Nat}{ty:Nat}{ps:String}{af:Array Edge}{gd:Option (Nat×Bool)}{x y:Operand}{at_:Array Nat}{l:Nat}{R:Ending→World→Prop}
  (hx:ev f x=.func (.yield l) #[] #[]) (hy:YieldAt (fen none) (m - 1) P l #[ev f y] w R) (E:∀e w',R e w'→∃v,e=.returned v∧Jt P m ops K rest (QW f d v) w')
  (G:Yd ops f ⟨d,.call ⟨.value x,[y].toArray,at_⟩,ty,ps,af,gd⟩=true:=by rfl):
  Jt P m ops K (⟨d,.call ⟨.value x,[y].toArray,at_⟩,ty,ps,af,gd⟩::rest) f w:=by
 obtain⟨fn,tmps,assign,body,h1,h2⟩:=hy;have H:(execOp (ev f) ⟨d,.call ⟨.value x,[y].toArray,at_⟩,ty,ps,af,gd⟩).run P w=.ok (.round l fn tmps assign body) w:=by
  simp[execOp,resolve,hx,Deferred.ofValue,invoke,h1]
 unfold Jt;rw[G];simp only[XOY,H,upY,cond_true];exact h2.mono λe w' h=>by obtain⟨v,rfl,hk⟩:=E e w' h;exact hk
end
attribute [irreducible] Jt
structure Lw (B:Nat)(L:LN)(w w':World):Prop where
 os:w'.os=w.os
 tape:w'.tape=w.tape
 output:w'.output=w.output
 size:w.heap.size≤w'.heap.size
 low:∀k,k<B→k∉L→w'.heap[k]?=w.heap[k]?
theorem Lw.refl (B:Nat)(L:LN)(w:World):Lw B L w w:=⟨O,O,O,Lu _,λ_ _ _=>O⟩
theorem Lw.trans {B:Nat}{L:LN}{E w w':World}(h:Lw B L E w)(k:Lw B L w w'):Lw B L E w' :=
 ⟨k.os.trans h.os,k.tape.trans h.tape,k.output.trans h.output,LL h.size k.size,λi hi G=>(k.low i hi G).trans (h.low i hi G)⟩
theorem Step.lw {L:LN}{w w' E:World}(h:Step L w w')(k:Lw w.heap.size L w' E):Step L w E :=
 ⟨k.os.trans h.os,k.tape.trans h.tape,k.output.trans h.output,LL h.size k.size,λi hi G=>(k.low i hi G).trans (h.block i hi G)⟩
structure Jb (B:Nat)(L:LN)(W W':World):Prop where
 lw:Lw B L W W'
 other:∀(k:Nat) (o:Obj),W.heap[k]?=some o→o.isCells=false→W'.heap[k]?=some o
theorem Jb.refl (B:Nat)(L:LN)(w:World):Jb B L w w:=⟨Lw.refl _ _ _,λ_ _ h _=>h⟩
theorem Jb.trans {B:Nat}{L:LN}{E w w':World}(h:Jb B L E w)(k:Jb B L w w'):Jb B L E w':=⟨h.lw.trans k.lw,λi o hi G=>k.other i o (h.other i o hi G) G⟩
theorem Jb.step {B:Nat}{L X:LN}{W W':World}(h:Step X W W')(I:B≤W.heap.size)(E:∀b∈X,(b∈L∨B≤b)∧∃o:Obj,W.heap[b]?=some o∧o.isCells=true):Jb B L W W':=by
 refine⟨⟨h.os,h.tape,h.output,h.size,λk hk G=>h.block k (by omega) (λhx=>?_)⟩,λk o hk H=>?_⟩
 ·rcases(E k hx).1 with h1|h1
  ·exact G h1
  omega
 refine(h.block k (LH.1 hk).1 (λhx=>?_)).trans hk;obtain⟨J,h1,h2⟩:=(E k hx).2;rw[hk]at h1;cases h1;rw[H]at h2;cases h2
theorem Jb.ext {B:Nat}{L:LN}{W W':World}(h:Step [] W W')(E:B≤W.heap.size):Jb B L W W':=Jb.step h E (λ_ hb=>by cases hb)
theorem QT.cells {H:Array Obj}{b T:Nat}{cs:LV}(h:QT H b T cs):∃o:Obj,H[b]?=some o∧o.isCells=true:=⟨_,h,O⟩
theorem Jb.blk {B:Nat}{L:LN}{W W':World}{b T:Nat}{cs:LV}(h:Step [b] W W')(E:B≤W.heap.size)(hb:QT W.heap b T cs)(G:b∈L∨B≤b):Jb B L W W' :=
 Jb.step h E (λc hc=>by
  have e:c=b:=by simpa using hc
  subst e;exact⟨G,hb.cells⟩)
def Yc (B:Nat)(I:World→Prop):Prop:=∀W W' X,I W→Step X W W'→(∀r∈X,B≤r∧∃o:Obj,W.heap[r]?=some o∧o.isCells=false)→I W'
theorem Yc.own {β:Type}{B:Nat}{I:β→World→Prop}(h:∀s,Yc B (I s)):OwnFrom B I:=λs W W' row hs G H =>
 h s W W' _ hs (Step.of_grown G) (λr E=>H r (by cases row <;> simp at E ⊢;exact E.symm))
theorem Yc.blk {B:Nat}{b T:Nat}{cs:LV}:Yc B (λW=>QT W.heap b T cs):=λW W' X h hs E=>h.step hs (λhb=>by
 obtain⟨_,o,h1,h2⟩:=E b hb;unfold QT at h;rw[h]at h1;cases h1;cases h2)
theorem Yc.and {B:Nat}{I J:World→Prop}(h:Yc B I)(k:Yc B J):Yc B (λW=>I W∧J W):=λW W' X hi hs E=>⟨h W W' X hi.1 hs E,k W W' X hi.2 hs E⟩
theorem Yc.ex {B:Nat}{β:Type}{I:β→World→Prop}(h:∀z,Yc B (I z)):Yc B (λW=>∃z,I z W):=λW W' X ⟨z,hi⟩ hs E=>⟨z,h z W W' X hi hs E⟩
theorem Yc.pure {B:Nat}(p:Prop):Yc B (λ_=>p):=λ_ _ _ h _ _=>h
theorem Yc.step {B:Nat}{L:LN}{w:World}(G:w.heap.size≤B):Yc B (λW=>Step L w W):=λW W' X h hs E=>h.then hs (λb hb=>.inr (by have:=(E b hb).1;omega))
theorem Zp {w:World}{base e sz n:Nat}{v:Value}{cs:LV}(h:w.ownsRow base e sz v n cs):∀b∈ob v,∃o:Obj,w.heap[b]?=some o∧o.isCells=true:=by
 intro b hb;rcases h.2 with⟨h1,_⟩|⟨g,cap,cur,h1,h2,h3,_⟩
 ·subst h1;simp[ob]at hb
 subst h1;simp[ob]at hb;subst hb;exact⟨_,h3,O⟩
theorem Yc.row {B base e sz n:Nat}{v:Value}{cs:LV}:Yc B (λW=>W.ownsRow base e sz v n cs):=λW W' X h hs E=>Qm h hs (λb hb hx=>by
 obtain⟨_,o,h1,h2⟩:=E b hx;obtain⟨G,h3,h4⟩:=Zp h b hb;rw[h1]at h3;cases h3;rw[h2]at h4;cases h4)
theorem QmV {α:Type}{m:Nat}{P:Program}{n:Nat}{Q:Exit→LN→Fr→World→Prop}{ds:LN}{f:Fr}{w:World}{g:Operand}{p:Nat}{assign body:Code}(L:LN)(h1:1≤m)
  {gf:Nat} {fn:Func} [hF:Fu P gf fn] {capt:LV} (Y:ev f g=.func (.func gf) #[] capt.toArray) {enc:α→Value} {S:List α→Prop} {N:Nat} (hp:p<n)
  (hb:SeqStopsK (fen none) (m - 1) P gf capt.toArray (λx=>#[enc x]) (Lw w.heap.size L) S (λ_=>True) N w)
  (I:List α→World→Prop) (hI:∀s,Yc w.heap.size (I s)) (h0:I [] w) (A:Fr→α→Fr→World→Prop) (hA:∀x E,Yc w.heap.size (A f x E))
  (J:∀l pre x W,I pre W→WG (some l) (m - 1 - 1) P n assign (Qde (λH E W'=>H=[]∧Jb w.heap.size L W W'∧I pre W'∧A f x E W') (λ_ _ _ _=>False)) [] (upd f p (enc x)) W)
  (U:∀l pre x E W,I pre W→A f x E W→pre.length<N→WG (some l) (m - 1 - 1) P n body (Qde (λ_ _ W'=>Jb w.heap.size L W W'∧I (pre++[x]) W') (λ_ _ _ _=>False)) [] E W)
  (hc:∀D xs W,w.heap.size≤D→S xs→I xs W→W.heap[D]?=some (.deferred (some []))→Q .normal (D::ds) f W):
  WG none m P n (.rangeFunc g #[p] assign body) Q ds f w:=by
 unfold WG at J U ⊢;intro a ha;have eg:∀args w,(callFunc gf args).run P w=.ok (.enter gf args) w:=by
  intro args w;have h1:¬fn.name = "runtime.NumGoroutine" := by simpa using hF.nm
  have h2:¬fn.body=none:=by have:=hF.b;intro e;rw[e]at this;cases this
  simp[callFunc,hF.f,h1,h2]
 have keep:∀{W W':World},Jb w.heap.size L W W'→KeepsFrom w.heap.size W W':=λh=>⟨h.lw.size,λk o _ hk V=>h.other k o hk V⟩;refine wpIn_rangeFunc_ownH (F:=fen none) O h1 (gf:=gf) (lb:=capt.toArray) (by rw[ha.eval];exact Y) Z eg hb (λh k=>h.trans k)
  (λW l o o' hl V _ _=>⟨O,O,O,by simp,λk hk _=>World.putObj_heap_other (by omega)⟩) (Below.refl _ _) (λ_=>rfl) I (λ_ _ _=>False) (Yc.own hI) (λ_ _ _ _ _ hs _ _=>hs) h0
  (λx G W=>∃E,YL n [] G E∧A f x E W) (λx G=>Yc.own λ_=>Yc.ex λE=>Yc.and (Yc.pure _) (hA x E)) ?_ ?_ ?_ ?_
 ·intro l pre x W K hi hK;have hr:YL n [] { tmps:=((#[p]:Array Nat).zip #[enc x]).foldl (λt (p,v)=>t.setIfInBounds p v) a.tmps,defers:=[] } (upd f p (enc x)):=by
   have h2:YL n [] { a with defers:=[] } f:=⟨ha.size,O,ha.get⟩
   have h3:=h2.put (dst:=some p) (λd e=>by cases e;exact hp) (enc x);have e:((#[p]:Array Nat).zip #[enc x]).foldl (λt (p,v)=>t.setIfInBounds p v) a.tmps=a.tmps.setIfInBounds p (enc x):=by simp
   rw[e];exact h3
  refine wpIn_mono (J l pre x W hi _ hr) ?_;rintro e G W' ⟨H,E,h2,_,h3⟩;cases e with
  | normal=>obtain⟨rfl,h4,h5,h6⟩:=h3;exact hK G W' (keep h4) h4.lw h5 ⟨E,h2,h6⟩
  | exit id=>exact h3.elim
  | goto l=>exact h3.elim
  | ret=>exact h3.elim
  | panic ch=>exact h3.elim
  | outgrown=>exact h3.elim
 ·rintro l pre x G W _ _ hi ⟨E,h2,h3⟩ he;refine wpIn_mono (U l pre x E W hi h3 he G h2) ?_;rintro e hf W' ⟨H,hh,h4,_,h5⟩;cases e with
  | normal=>exact⟨keep h5.1,h5.1.lw,h5.2⟩
  | exit id=>exact h5.elim
  | goto l=>exact h5.elim
  | ret=>exact h5.elim
  | panic ch=>exact h5.elim
  | outgrown=>exact h5.elim
 ·intro D xs W hD hS hi hd;exact⟨D::ds,f,⟨ha.size,by rw[show coll (D::ds)={ target:=.collected D,args:=#[] }::coll ds from rfl,ha.defers],ha.get⟩,λ_ _=>rfl,hc D xs W hD hS hi hd⟩
 intro D c pre W _ _ h _;exact h.elim
def QoU (P:Program)(t:Nat):Option (LV×List (Nat×Nat)):=match P.info? t,P.underlying t with
 | some it,some (.struct fs)=>match it.zero,fs.toList.mapM (λf=>(P.info? f.type).map λi=>(f.offset,i.size))with
  | some (.agg zs),some pl=>some (zs.toList,pl)
  | _,_=>none
 | _,_=>none
class Bw (P:Program)(t:Nat)(zs:outParam (LV))(pl:outParam (List (Nat×Nat))):Prop where
 h:QoU P t=some (zs,pl)
 b:pl.all (λx=>x.1+x.2≤zs.length)=true
def QbI:LV→Nat→LV→LV
 | zs,_,[]=>zs
 | zs,o,u::us=>QbI (zs.set o u) (o+1) us
def QjY (pl:List (Nat×Nat))(zs:LV):List (Nat×LV)→LV
 | []=>zs
 | (j,us)::ps=>QjY pl (QbI zs (pl.getD j (0,0)).1 us) ps
def QmX:List (Nat×Value)→List (Nat×LV)→Prop
 | [],[]=>True
 | (j,v)::vs,(j',us)::uss=>v.cells=us.toArray∧j=j'∧QmX vs uss
 | _,_=>False
theorem QbH:∀(us zs:LV) (o:Nat),(QbI zs o us).length=zs.length
 | [],_,_=>rfl
 | u::us,zs,o=>by rw[QbI,QbH us,MW]
theorem jd (o:Nat):∀(us:LV) (k:Nat) (zs:LV),(us.zipIdx k).foldl (λ(cs:Array Value) (x:Value×Nat)=>cs.setIfInBounds (o+x.2) x.1) zs.toArray=(QbI zs (o+k) us).toArray
 | [],_,_=>rfl
 | u::us,k,zs=>by
  rw[List.zipIdx_cons,LM,QbI];have:=jd o us (k+1) (zs.set (o+k) u);rw[←List.setIfInBounds_toArray]at this;exact this
theorem Qi7 {pl:List (Nat×Nat)}:∀(vs:List (Nat×Value)) (uss:List (Nat×LV)) (zs:LV),QmX vs uss→uss.all (λp=>p.1<pl.length && (p.2.length == (pl.getD p.1 (0,0)).2))=true →
  (∀x∈pl,x.1+x.2≤zs.length)→Instr.fill (pl.toArray[·]?) zs.toArray vs=some (QjY pl zs uss).toArray
 | [],[],zs,_,_,_=>rfl
 | [],_::_,_,h,_,_=>h.elim
 | _::_,[],_,h,_,_=>h.elim
 | (j,v)::vs,(j',us)::uss,zs,h1,h2,h3=>by
  obtain⟨hc,rfl,h1⟩:=h1;simp only[List.all_cons,Bool.and_eq_true,decide_eq_true_eq,beq_iff_eq]at h2;obtain⟨⟨hj,hl⟩,h2⟩:=h2;have E:pl.getD j (0,0)=pl[j]'hj:=by simp[List.getD,hj]
  have hm:=h3 _ (Lc hj);unfold Instr.fill;simp only[List.getElem?_toArray,List.getElem?_eq_getElem hj,hc];rw[E]at hl;rw[if_neg (by simp only[List.size_toArray,hl,ne_eq,not_true,decide_false,Bool.false_or,decide_eq_true_eq];omega)];have e:=jd (pl[j]'hj).1 us 0 zs;rw[M6]at e
  have e2:(us.toArray.zipIdx).foldl (λ(cs:Array Value) (x:Value×Nat)=>cs.setIfInBounds ((pl[j]'hj).1+x.2) x.1) zs.toArray=(QbI zs (pl[j]'hj).1 us).toArray:=by
   rw[←e];simp
  rw[e2,QjY,E];have G:=Qi7 vs uss (QbI zs (pl[j]'hj).1 us) h1 h2 (λx hx=>by rw[QbH];exact h3 x hx);simpa only[List.getElem?_toArray]using G
theorem Qd6 {P:Program}{t:Nat}{zs:LV}{pl:List (Nat×Nat)}(h:QoU P t=some (zs,pl))(hb:pl.all (λx=>x.1+x.2≤zs.length)=true)(vs:List (Nat×Value))(uss:List (Nat×LV))(h1:QmX vs uss)
  (h2:uss.all (λp=>p.1<pl.length && (p.2.length == (pl.getD p.1 (0,0)).2))=true):P.built t vs=some (QjY pl zs uss).toArray:=by
 have h3:∀x∈pl,x.1+x.2≤zs.length:=λo G=>by simpa using LY.1 hb o G
 unfold QoU at h;unfold Program.built;cases hi:P.info? t with
 | none=>simp[hi]at h
 | some it =>
  cases hu:P.underlying t with
  | none=>simp[hi,hu]at h
  | some dd =>
   simp only[hi,hu]at h;cases dd <;> simp only[]at h <;> try (cases h)
   case struct fs =>
    cases E:it.zero with
    | none=>simp[E]at h
    | some z =>
     cases z <;> simp only[E]at h <;> try (cases h)
     rename_i za;cases hm:fs.toList.mapM (λf=>(P.info? f.type).map λi=>(f.offset,i.size))with
     | none=>simp[hm]at h
     | some pl' =>
      simp only[hm,Option.some.injEq,Prod.mk.injEq]at h;obtain⟨rfl,rfl⟩:=h;simp only[E,hm,Value.cells];exact Qi7 vs uss za.toList h1 h2 h3
theorem ZD {P:Program}{f:Fr}{w:World}{d:Option Nat}{ty:Nat}{ps:String}{af:Array Edge}{gd:Option (Nat×Bool)}{t:Nat}{zs:LV}{pl:List (Nat×Nat)}[h:Bw P t zs pl]{parts:List (Nat×Operand)}(uss:List (Nat×LV))
  (h1:QmX (parts.map λx=>(x.1,ev f x.2)) uss) (h2:uss.all (λp=>p.1<pl.length && (p.2.length == (pl.getD p.1 (0,0)).2))=true:=by rfl):
  (execOp (ev f) ⟨d,.build t parts.toArray,ty,ps,af,gd⟩).run P w=.ok (.value (.agg (QjY pl zs uss).toArray)) w:=by
 have hb:=Qd6 h.h h.b _ uss h1 h2;have E:=run_build (P:=P) w t (parts.toArray.map λ(i,x)=>(i,ev f x)) _ (by simpa using hb);simp only[execOp,Sem.run_bind,E,Result.andThen_ok,Sem.run_pure]
end Go.Lg
namespace Go.Proofs.YtjcgijbhaemldaaGreatDoor
open Go.Proofs.Tryz
open Go.Lg
def cnE (p:Ed→Bool)(es:List Ed):Int:=((es.filter p).length:Int)
theorem QcA (p:Ed→Bool)(es:List Ed)(e:Ed):cnE p (es++[e])=cnE p es+if p e=true then 1 else 0:=by
 unfold cnE;rw[L8,Lj];by_cases h:p e=true
 ·simp[h]
 simp[h]
theorem VJ (p:Ed→Bool)(es:List Ed):0≤cnE p es∧cnE p es≤es.length:=by
 unfold cnE;have:=Mg p es;omega
def gA (n:Nat)(f:Nat→Int):LI:=(List.range n).map f
theorem Qor (n:Nat)(f:Nat→Int):(gA n f).length=n:=by simp[gA]
theorem QiZ {n:Nat}{f:Nat→Int}{i:Nat}(h:i<(gA n f).length):(gA n f)[i]'h=f i:=by simp[gA]
theorem zI {n:Nat}{f g:Nat→Int}{i:Nat}{u:Int}(hu:u=g i)(h:∀j,j<n→j≠i→g j=f j):(gA n f).set i u=gA n g:=by
 apply LT
 ·simp[gA]
 intro k h1 h2;rw[MY,QiZ h2];by_cases e:i=k
 ·rw[if_pos e,hu,e]
 rw[if_neg e,QiZ];exact(h k (by simpa[gA]using h2) (Ne.symm e)).symm
theorem zJ {n:Nat}{f g:Nat→Int}(h:∀j,j<n→f j=g j):gA n f=gA n g:=MP (λj hj=>h j (Mb.1 hj))
def cN (es:List Ed)(s:Nat):Int:=cnE (λe=>decide (e.1+1=(s:Int))) es
def fS (es:List Ed)(s:Nat):Int:=cnE (λe=>decide (e.1<(s:Int))) es
theorem Qfu (es:List Ed)(s:Nat):fS es (s+1)=cN es (s+1)+fS es s:=by
 unfold fS cN cnE;induction es with
 | nil=>rfl
 | cons e es ih =>
  simp only[List.filter_cons];by_cases h1:e.1<(s:Int)
  ·have h2:e.1<((s+1:Nat):Int):=by omega
   have h3:¬e.1+1=((s+1:Nat):Int):=by omega
   simp only[h1,h2,h3,decide_true,decide_false,if_true,List.length_cons]at ih ⊢;simp only[Bool.false_eq_true,if_false]at ih ⊢;omega
  by_cases h2:e.1+1=((s+1:Nat):Int)
  ·have h3:e.1<((s+1:Nat):Int):=by omega
   simp only[h1,h2,h3,decide_true,decide_false,if_true,List.length_cons]at ih ⊢;simp only[Bool.false_eq_true,if_false]at ih ⊢;omega
  have h3:¬e.1<((s+1:Nat):Int):=by omega
  simp only[h1,h2,h3,decide_false,Bool.false_eq_true,if_false]at ih ⊢;exact ih
theorem Qft {es:List Ed}(h:∀e∈es,0≤e.1):fS es 0=0∧cN es 0=0:=by
 unfold fS cN cnE;refine⟨?_,?_⟩
 ·have:(es.filter λe=>decide (e.1<((0:Nat):Int)))=[]:=MD.2 (λe he=>by have:=h e he;simp;omega);rw[this];rfl
 have:(es.filter λe=>decide (e.1+1=((0:Nat):Int)))=[]:=MD.2 (λe he=>by have:=h e he;simp;omega);rw[this];rfl
def mX (es:List Ed)(s j:Nat):Int:=if j≤s then fS es j else cN es j
theorem Qlt {es:List Ed}(h:∀e∈es,0≤e.1)(n:Nat):gA n (cN es)=gA n (mX es 0):=zJ λj _=>by
 unfold mX;by_cases e:j≤0
 ·have:j=0:=by omega
  subst this;rw[if_pos (Lu _),(Qft h).1,(Qft h).2]
 rw[if_neg e]
theorem Qlu (es:List Ed)(s n:Nat):(gA n (mX es s)).set (s+1) (mX es s (s+1)+mX es s s)=gA n (mX es (s+1)):=by
 refine zI ?_ λj _ hj=>?_
 ·unfold mX;rw[if_neg (by omega),if_pos (Lu _),if_pos (Lu _),Qfu]
 unfold mX;by_cases e:j≤s
 ·rw[if_pos (by omega),if_pos e]
 rw[if_neg (by omega),if_neg e]
theorem QmD (es:List Ed)(e:Ed)(E:0≤e.1)(n:Nat):(gA n (cN es)).set (e.1.toNat+1) (cN es (e.1.toNat+1)+1)=gA n (cN (es++[e])):=by
 refine zI ?_ λj _ hj=>?_
 ·unfold cN;rw[QcA,if_pos (by simp;omega)]
 unfold cN;rw[QcA,if_neg (by simp;omega)];simp
theorem jp (n:Nat):(List.replicate n (Value.int .i64 0).cells.toList).flatten=(gA n (cN [])).map (Value.int .i64):=by
 apply LT
 ·simp[Value.cells,gA]
 intro i h1 h2;simp[Value.cells,gA,cN,cnE]
section
variable {P:Program}{K:Fr→World→Prop}{f:Fr}{w:World}{d:Option Nat}{ty:Nat}{ps:String}{af:Array Edge}{gd:Option (Nat×Bool)}
theorem V0 {t:Nat}[XX P t]{x:Operand}{b T i n:Nat}{g:Nat→Int}(h:QT w.heap b T ((gA n g).map (.int .i64)))(hx:ev f x=.pointer (some ⟨b,0+i*1,none⟩))(hi:i<n):
  (execOp (ev f) ⟨d,.load t x,ty,ps,af,gd⟩).run P w=.ok (.value (.int .i64 (g i))) w:=Qd h hx (by simp[gA,hi])
theorem KL {t:Nat}[h1:XX P t]{x y:Operand}{b T i n:Nat}{g E:Nat→Int}{u:Int}(G:QT w.heap b T ((gA n g).map (.int .i64)))(hx:ev f x=.pointer (some ⟨b,0+i*1,none⟩))(hy:ev f y=.int .i64 u)(hi:i<n)(H:(gA n g).set i u=gA n E)
  (I:∀w',Step [b] w w'→QT w'.heap b T ((gA n E).map (.int .i64))→K (QW f d undef) w'):XO P ⟨d,.store t x y,ty,ps,af,gd⟩ f w K :=
 Jg G hx hy (by rw[Qor];exact hi) λw' hs J=>I w' hs (by rw[←H];exact J)
end
instance:Bw prog 171 [nS,.int .i64 0,nS,nS,nS] [(0,4),(4,1)]:=⟨by kernel_rfl,by decide⟩
theorem U6 {w:World}{va vm ve:Value}{a:QD}{n:Nat}(h:Zm [] w.heap va vm ve a)(hn:a.st=(n:Int))(hW:a.st≤4096)(h6:∀e∈a.ed,0≤e.1∧e.1<a.st):
  QH prog 76 [.agg #[va,.int .i64 a.st,vm,ve]] w λr w'=>Step [] w w'∧∃b,r=.agg #[va,.int .i64 a.st,vm,ve,.slice (some ⟨b,0,none⟩) (n+1) (n+1)]∧w.heap.size≤b∧QT w'.heap b 3 ((gA (n+1) (fS a.ed)).map (Value.int .i64)):=by
 have hX:=h.ed.le;refine QH.of_W func76 O ntmps76 results76 (by simp) ?_;refine Qc<|xl O<|QR (us:=[va,.int .i64 a.st,vm,ve]) O λb1 w1 hu hE hF=>xl O<|Qu (us:=[nS,.int .i64 0,nS,nS,nS]) O λb2 E hv hY h7=>xe ?_;have hG:=hu.trans hv;have ha:=hF.ext hv;have h2:=h.ext hG;have ho:a.st+1=((n+1:Nat):Int):=by omega
 have hw:Step [] E { E with drawn:=E.drawn+1 }:=Step.drew [] E
 have hZ:=hw.size;refine QX (α:=Nat×Nat) [(3,3),(7,12)] (λz=>[(3,.pointer (some ⟨z.1,0,none⟩))]) (λz w'=>Step [] E w'∧QT w'.heap z.1 171 [va,.int .i64 a.st,vm,ve,.slice (some ⟨z.2,0,none⟩) (n+1) (n+1)]∧QT w'.heap z.2 3 ((gA (n+1) (cN [])).map (Value.int .i64))∧E.heap.size≤z.1∧E.heap.size≤z.2∧z.1≠z.2) (by rfl) ?_ ?_
 ·refine QfZ (Step [] E) (.f2 [(0,true),(1,true),(2,true),(3,true)] 4 6 (.pl [(5,true),(6,false),(7,false)]) (.pl [(4,false),(5,true),(7,false)])) mixed (by rfl) (by kernel_rfl) (Step.drew _ _) ?_;refine u2<|pq (λ_ hc=>Qo (ha.ext hc) O O)<|p (λ_=>Qa O)<|pq (λ_ hc=>Qd (ha.ext hc) O O)<|p (λ_=>JB O O ⟨by omega,by omega⟩)<|pe ⟨?_,?_⟩
  ·refine ue<|XM (n:=n+1) (congrArg (Value.int .i64) ho) (congrArg (Value.int .i64) ho) (by omega) λb11 w3 hy hH hp=>?_;have hb:=hw.trans hy;have ga:=hp.lt;refine⟨hb,?_⟩;refine uP<|p (λ_=>ZD [(0,[va,.int .i64 a.st,vm,ve]),(1,[.slice (some ⟨b11,0,none⟩) (n+1) (n+1)])] ⟨O,O,O,O,Z⟩)<|pk<|Qu (us:=[nS,.int .i64 0,nS,nS,nS]) O λU w4 hf hz G=>?_;have H:=hb.trans hf
   refine⟨H,?_⟩;refine pk<|Qn (us:=[va,.int .i64 a.st,vm,ve,.slice (some ⟨b11,0,none⟩) (n+1) (n+1)]) G O O O O ⟨h.al.one,O,h.mr.one,h.ed.one,O,Z⟩ λw5 I hg=>⟨H.then1 I (by omega),pe ?_⟩;have h0:QT w3.heap b11 3 ((gA (n+1) (cN [])).map (Value.int .i64)):=by rw[←jp];exact hp
   exact⟨(U,b11),La,H.then1 I (by omega),hg,(h0.ext hf).step I (by simp;omega),by simp only[];omega,by simp only[];omega,by simp only[];omega⟩
  refine ue<|Qu (us:=[nS,.int .i64 0,nS,nS,nS]) O λU w3 hy hz G=>?_;have hb:=hw.trans hy;have gb:=G.lt;refine⟨hb,?_⟩;refine uP<|pk<|XM (n:=n+1) (congrArg (Value.int .i64) ho) (congrArg (Value.int .i64) ho) (by omega) λb11 w4 hf hH hp=>?_;have H:=hb.trans hf;refine⟨H,?_⟩
  refine p (λ_=>ZD [(0,[va,.int .i64 a.st,vm,ve]),(1,[.slice (some ⟨b11,0,none⟩) (n+1) (n+1)])] ⟨O,O,O,O,Z⟩)<|pk<|Qn (us:=[va,.int .i64 a.st,vm,ve,.slice (some ⟨b11,0,none⟩) (n+1) (n+1)]) (G.ext hf) O O O O ⟨h.al.one,O,h.mr.one,h.ed.one,O,Z⟩ λw5 I hg=>⟨H.then1 I (by omega),pe ?_⟩;have h0:QT w4.heap b11 3 ((gA (n+1) (cN [])).map (Value.int .i64)):=by rw[←jp];exact hp
  exact⟨(U,b11),La,H.then1 I (by omega),hg,h0.step I (by simp;omega),by simp only[];omega,by simp only[];omega,by simp only[];omega⟩
 rintro⟨U,bF⟩ g6 w6 ⟨h8,G,h9,hz,h1,hI⟩;simp only[]at G h9 hz h1 hI;have hJ:=ha.ext h8;have gc:=ha.lt;have ge:=h7.lt;refine Qg<|Qc<|x (Qa O)<|x (Qd hJ O O)<|x (Qr h.ed O)<|Qb<|xe ?_;have hK:∀e∈a.ed,0≤e.1:=λe he=>(h6 e he).1
 refine Qh<|Qz (α:=Nat) [(5,5),(16,29)] (λz=>[(16,.int .i64 z)]) (λz w'=>z≤a.ed.length∧Step [] E w'∧QT w'.heap U 171 [va,.int .i64 a.st,vm,ve,.slice (some ⟨bF,0,none⟩) (n+1) (n+1)]∧QT w'.heap bF 3 ((gA (n+1) (cN (a.ed.take z))).map (Value.int .i64))) (λz=>a.ed.length - z) (by rfl) 0 La
  ⟨Ll _,h8,G,h9⟩ ?_
 rintro k g w7 ⟨hk,hq,h3,hr⟩;refine Qc<|x (QA O O)<|xe<|Qg<|QC O (λh4=>?_) (λh4=>?_)
 ·refine Qy ?_;have hL:a.ed.length≤k:=by have hs:¬(k:Int)<(a.ed.length:Int):=h4;omega
  rw[Lp hL,Qlt hK (n+1)]at hr;refine Qg<|Qc<|x (Qa O)<|x (Qd (ha.ext hq) O O)<|Qb<|xe<|Qh<|Qz (α:=Nat) [(6,6),(32,48)] (λz=>[(32,.int .i64 z)]) (λz w'=>z≤n∧Step [] E w'∧QT w'.heap U 171 [va,.int .i64 a.st,vm,ve,.slice (some ⟨bF,0,none⟩) (n+1) (n+1)]∧QT w'.heap bF 3 ((gA (n+1) (mX a.ed z)).map (Value.int .i64))) (λz=>n - z) (by rfl) 0 La
   ⟨Ll _,hq,h3,hr⟩ ?_
  rintro j g w8 ⟨hj,hh,ht,V⟩;refine Qc<|x (QA O O)<|xe<|Qg<|QC O (λhA=>?_) (λhA=>?_)
  ·refine Qy ?_;have h5:j=n:=by omega
   rw[h5]at V;have hM:gA (n+1) (mX a.ed n)=gA (n+1) (fS a.ed):=zJ λi hi=>by unfold mX;rw[if_pos (by omega)]
   rw[hM]at V;refine Qc<|x (Qo ht O O)<|xl O<|Qn (us:=[va,.int .i64 a.st,vm,ve,.slice (some ⟨bF,0,none⟩) (n+1) (n+1)]) (h7.ext hh) O O O O ⟨h.al.one,O,h.mr.one,h.ed.one,O,Z⟩ λw9 J hN=>xe ?_;have gg:=hu.size;refine Ql ⟨[_],⟨⟨_,O,Qx O (hN.at (L:=[]) (by simp)).cells⟩,Z⟩,((hu.trans hv).trans hh).then1 J (by omega),bF,rfl,by omega,V.step J (by simp;omega)⟩
  have h5:j<n:=by have gh:(j:Int)<a.st:=hA;omega
  have gi:=VJ (λe:Ed=>decide (e.1<(j:Int))) a.ed;have gj:=VJ (λe:Ed=>decide (e.1+1=((j+1:Nat):Int))) a.ed;have hO:mX a.ed j (j+1)=cN a.ed (j+1):=by unfold mX;rw[if_neg (by omega)]
  have hP:mX a.ed j j=fS a.ed j:=by unfold mX;rw[if_pos (Lu _)]
  have hE:0≤mX a.ed j (j+1)∧mX a.ed j (j+1)≤1099511627776:=by rw[hO];unfold cN;omega
  have gk:0≤mX a.ed j j∧mX a.ed j j≤1099511627776:=by rw[hP];unfold fS;omega
  refine Qi<|Qg<|Qh<|Qc<|Qb<|Qf<|QU (Step [] w8) [(0,true),(1,true),(2,true),(3,true),(4,true),(5,true),(6,true),(7,true),(8,true),(9,true),(10,true),(11,true),(12,true),(13,false)] mixed (by rfl) (by kernel_rfl) (Step.drew _ _) ?_;refine p (λ_=>Qa O)<|pq (λ_ hc=>Qd (ht.ext hc) O O)<|p (λ_=>Qk)<|p (λ_=>JB O O ⟨by omega,by omega⟩) <|
   p (λ_=>QS (i:=j+1) O O (by omega))<|pq (λ_ hc=>V0 (i:=j+1) (V.ext hc) O (by omega))<|p (λ_=>Qa O)<|pq (λ_ hc=>Qd (ht.ext hc) O O) <|
   p (λ_=>Qk)<|p (λ_=>QS (i:=j) O O (by omega))<|pq (λ_ hc=>V0 (i:=j) (V.ext hc) O (by omega))<|p (λ_=>JB O O ⟨by omega,by omega⟩) <|
   p (λ_=>QS (i:=j+1) O O (by omega))<|pkl (hl:=by kernel_rfl)<|KL (i:=j+1) (V.ext (Step.drew [] w8)) O O (by omega) (Qlu a.ed j (n+1)) λw9 J hQ=>pe ?_
  refine Qw<|QP O O<|Qb<|xe ?_;exact⟨j+1,by omega,La,h5,(hh.trans (Step.drew [] w8)).then1 J h1,(ht.ext (Step.drew [] w8)).step J (by simp;omega),hQ⟩
 have Y:k<a.ed.length:=by have hs:(k:Int)<(a.ed.length:Int):=h4;omega
 have hB:a.ed.take (k+1)=a.ed.take k++[a.ed[k]'Y]:=Li Y;have hC:=h6 _ (Lc Y);refine Zj (a.ed[k]'Y) λe he=>?_;rw[he]at hB hC;have hfr:e.1+1=((e.1.toNat+1:Nat):Int):=by omega
 have hR:=QmD (a.ed.take k) e hC.1 (n+1);have hS:=VJ (λd:Ed=>decide (d.1+1=((e.1.toNat+1:Nat):Int))) (a.ed.take k);have gl:0≤cN (a.ed.take k) (e.1.toNat+1)∧cN (a.ed.take k) (e.1.toNat+1)≤1099511627776:=by unfold cN;rw[LC]at hS;omega
 refine Qi<|Qg<|Qh<|Qc<|xie (h2.ed.ext hq) O O Y λgm hs=>?_;rw[he]at hs;refine x (QI hs O O)<|xl O<|Qu (us:=[.int .i64 0,.int .i64 0,.int .i64 0]) O λb5 w8 hh hT hg=>xl O<|Qn (us:=QB e) hg O O O O ⟨O,O,O,Z⟩ λw9 J hU=>xe ?_;have hm:Step [] w7 w9:=hh.then1 J hT
 refine Qw<|x (Qa O)<|x (Qd (h3.ext hm) O O)<|x (Qa O)<|x (Qd hU O O)<|QP O O<|x (QS (i:=e.1.toNat+1) O (congrArg (Value.int .i64) hfr) (by omega)) <|
  x (V0 (i:=e.1.toNat+1) (hr.ext hm) O (by omega))<|QP O O<|x (QS (i:=e.1.toNat+1) O (congrArg (Value.int .i64) hfr) (by omega)) <|
  xl rfl<|KL (i:=e.1.toNat+1) (hr.ext hm) O O (by omega) hR λgn hD hV=>xe ?_
 refine Qw<|QP O O<|Qb<|xe<|⟨k+1,by omega,La,Y,(hq.trans hm).then1 hD h1,(h3.ext hm).step hD (by simp;omega),?_⟩;rw[hB];exact hV
end Go.Proofs.YtjcgijbhaemldaaGreatDoor
namespace Go.Lg
open Go.RowKit
def Y8 (w:World)(base e sz:Nat)(v:Value)(n:Nat)(cs:LV):Prop :=
 cs.length=n*sz∧((v=nS∧n=0)∨∃g off cap cur,v=.slice (some ⟨g,off,none⟩) n cap∧base≤g∧w.heap[g]?=some (.cells cur e (0,0))∧n≤cap∧cap≤maxLen∧off+cap*sz≤cur.size∧(cur.toList.drop off).take (n*sz)=cs)
theorem Y8.of_row {w:World}{base e sz n:Nat}{v:Value}{cs:LV}(h:w.ownsRow base e sz v n cs):Y8 w base e sz v n cs :=
 ⟨h.1,h.2.imp id λ⟨g,cap,cur,h1,h2,h3,h4,h5,h6,E⟩=>⟨g,0,cap,cur,h1,h2,h3,h4,h5,by omega,by simpa using E⟩⟩
theorem QhV {X:LN}{w w':World}{base e sz n:Nat}{v:Value}{cs:LV}(h:Y8 w base e sz v n cs)(hs:Step X w w')(E:∀b∈ob v,b∉X):Y8 w' base e sz v n cs:=by
 refine⟨h.1,h.2.imp id λ⟨g,off,cap,cur,h1,h2,h3,h4⟩=>⟨g,off,cap,cur,h1,h2,?_,h4⟩⟩;rw[hs.block g (LH.1 h3).1 (E g (by rw[h1];simp[ob]))];exact h3
theorem QpC {w w':World}{base e sz n:Nat}{v:Value}{cs:LV}(h:Y8 w base e sz v n cs)(hs:Step [] w w'):Y8 w' base e sz v n cs:=QhV h hs (λ_ _=>by simp)
theorem QnQ {w:World}{base e sz n:Nat}{v:Value}{cs:LV}(h:Y8 w base e sz v n cs):∀b∈ob v,base≤b∧b<w.heap.size:=by
 intro b hb;rcases h.2 with⟨h1,_⟩|⟨g,off,cap,cur,h1,h2,h3,_⟩
 ·subst h1;simp[ob]at hb
 subst h1;simp[ob]at hb;subst hb;exact⟨h2,(LH.1 h3).1⟩
theorem QeR {w:World}{g off e n:Nat}{cur:Array Value}{cs:LV}(h3:w.heap[g]?=some (.cells cur e (0,0)))(E:(cur.toList.drop off).take n=cs):∀j u,cs[j]?=some u→w.cell? ((⟨g,off,none⟩:Addr).add j)=some u:=by
 intro j u hu;rw[Ja,YD];unfold cel;simp only[h3];rw[←E,Ms]at hu;split at hu
 ·simpa using hu
 cases hu
theorem Qm8 {L:LN}{w:World}{base e sz n:Nat}{v:Value}{cs:LV}(h:Y8 w base e sz v n cs)(E:n≤1099511627776)(G:∀b∈ob v,b∉L):Zy L w.heap v n sz cs:=by
 refine⟨h.1,E,?_⟩;rcases h.2 with h1|⟨g,off,cap,cur,h1,h2,h3,h4,h5,h6,H⟩
 ·exact .inl h1
 exact .inr ⟨_,_,h1,h4,λ_ _=>G g (by rw[h1];simp[ob]),λ_ _=>(LH.1 h3).1,λj u hu=>QeR h3 H j u hu⟩
section
variable {P:Program}{K:Fr→World→Prop}{f:Fr}{w:World}{d:Option Nat}{ty:Nat}{ps:String}{af:Array Edge}{gd:Option (Nat×Bool)}{ops l:List Oper}
theorem Qqv {t e sz bys:Nat}{z:Value}[h:Sl P t e sz bys z]{x E:Operand}{base:Nat}{v:Value}{n:Nat}{cs:LV}{k:IntKind}{lo:Nat}(I:Y8 w base e sz v n cs)(hx:ev f x=v)(hl:ev f E=.int k lo)(h1:lo≤n)
  (J:∀v',Y8 w base e sz v' (n - lo) (cs.drop (lo*sz))→ob v'=ob v→XL P ops K l (QW f d v') w)
  (U:Yd ops f ⟨d,.slice t x (some E) none none,ty,ps,af,gd⟩=true:=by rfl):XL P ops K (⟨d,.slice t x (some E) none none,ty,ps,af,gd⟩::l) f w:=by
 obtain⟨i,Y,_,ha,_⟩:=Sl.info h;rcases I.2 with⟨V,hn⟩|⟨g,off,cap,cur,V,h2,h3,h4,h5,h6,h7⟩
 ·have e2:lo=0:=by omega
  subst e2 hn V;have hb:cs=[]:=Lr (by simpa using I.1);subst hb;refine xl U (xv (v:=nS) ?_ (J _ ⟨by simp,.inl ⟨rfl,rfl⟩⟩ rfl));simp[execOp,hx,hl,Instr.sliceAt,Instr.slice,run_underlying h.u,Instr.sliceBounds,Instr.sliceBound,asIntOf,sizeOf,typeInfo,Y]
 subst V;have e2:(Instr.sliceBound (.int k lo) n .sliceB).run P w=.ok lo w:=YB h1;have G:(execOp (ev f) ⟨d,.slice t x (some E) none none,ty,ps,af,gd⟩).run P w=.ok (.value (.slice (if cap=lo then some ⟨g,off,none⟩else some ((⟨g,off,none⟩:Addr).add (lo*sz))) (n - lo) (cap - lo))) w:=by
  simp[execOp,hx,hl,Instr.sliceAt,Instr.slice,run_underlying h.u,Instr.sliceBounds,e2,sizeOf,typeInfo,Y,ha]
 have H:(cs.drop (lo*sz)).length=(n - lo)*sz:=by rw[Mw,I.1,←Nat.sub_mul]
 by_cases hc:cap=lo
 ·rw[if_pos hc]at G;have he:n - lo=0:=by omega
  refine xl U (xv G (J _ ⟨H,.inr ⟨g,off,cap - lo,cur,O,h2,h3,by omega,by omega,?_,?_⟩⟩ O))
  ·have:(cap - lo)*sz≤cap*sz:=ML _ (by omega);omega
  rw[he]at H ⊢;have:cs.drop (lo*sz)=[]:=Lr (by simpa using H);rw[this];simp
 rw[if_neg hc,YD]at G;refine xl U (xv G (J _ ⟨H,.inr ⟨g,off+lo*sz,cap - lo,cur,O,h2,h3,by omega,by omega,?_,?_⟩⟩ O))
 ·rw[Nat.sub_mul];have:lo*sz≤cap*sz:=ML _ (by omega);omega
 rw[←h7,List.drop_take,List.drop_drop,←Nat.sub_mul]
theorem Qae {base t ty e:Nat}{sz bys:Nat}{z:Value}[h:Sl P t e sz bys z]{v:Value}{n:Nat}{cs:LV}(E:Y8 w base e sz v n cs)
  {a:Addr} {m c:Nat} {news:LV} (hl:news.length=m*sz) (hm:0<m) (U:∀j u,news[j]?=some u→w.cell? (a.add j)=some u) (h1:∀u∈news,u.oneCell'=true)
  (hb:n+m≤1099511627776) (hj:bys≤128) (ho:base≤w.heap.size):
  ∃v' w',(Builtin.append_ #[t,t] ty #[v,.slice (some a) m c]).run P w=.ok v' w'∧Y8 w' base e sz v' (n+m) (cs++news)∧Step (ob v) w w'∧(∀b∈ob v',b∈ob v∨w.heap.size≤b):=by
 obtain⟨i,hi,hz,H,ha⟩:=Sl.info h;have hc:(n+m)*bys≤140737488355328:=LL (Nat.mul_le_mul hb hj) (by omega);have hp:n+m≤maxLen:=by simp only[maxLen];omega
 have new:∀(old:Nat),∀G,G=(Obj.cells (cs.toArray++news.toArray++Builtin.zeroCells z.cells (grownCap w (n+m) old e - (n+m))) e) →
    Y8 (w.drew.alloc G) base e sz (.slice (some ⟨w.heap.size,0,none⟩) (n+m) (grownCap w (n+m) old e)) (n+m) (cs++news):=by
   intro old G hq;subst hq;have hge:=grownCap_ge w (n+m) old e;have V:grownCap w (n+m) old e≤maxLen:=grownCap_le_maxLen w (n+m) old e hp;have J:(cs++news).length=(n+m)*sz:=by rw[Lj,E.1,hl,Mt]
   refine Y8.of_row ⟨J,.inr ⟨w.heap.size,_,_,O,ho,Ko w.drew _,hge,V,?_,?_⟩⟩
   ·simp only[Array.size_append,List.size_toArray,size_zeroCells,h.zs,E.1,hl,←Nat.add_mul];congr 1;omega
   simp only[Array.toList_append,List.append_assoc];rw[←LA,←J];exact List.take_left
 have stp:∀G,Step (ob v) w (w.drew.alloc G):=λG=>⟨O,O,O,by rw[Uv];exact Nat.le_succ _,λk hk _=>ym w.drew G k hk⟩;have fin:∀(b:Nat),b∈ob (.slice (some ⟨w.heap.size,0,none⟩) (n+m) 0)→b∈ob v∨w.heap.size≤b:=λb hb'=>by simp[ob]at hb';omega
 rcases E.2 with⟨rfl,rfl⟩|⟨g,off,cap,cur,rfl,hs,Y,hv,V,hw,he⟩
 ·have hx:cs=[]:=Lr (by simpa using E.1);subst hx;have I:=run_append_nil (P:=P) w t ty e i z h.u hi hz a m c news (by rw[H];exact hl) U hm (by omega) (by rw[ha];have ht:=hc;simp only[Nat.zero_add]at ht;omega);have hn:=new 0 _ O;simp only[Nat.zero_add,List.nil_append,Array.empty_append]at hn ⊢;exact⟨_,_,I,hn,stp _,λb hb'=>fin b hb'⟩
 rcases Nat.lt_or_ge cap (n+m)with hroom|hroom
 ·have hu:=QeR (w:=w) Y he;have I:=run_append_grow (P:=P) w t ty e i z h.u hi hz ⟨g,off,none⟩ n cap cs (by rw[H];exact E.1) hu a m c news (by rw[H];exact hl) U hroom (by omega) (growslice_fits hroom (by rw[ha];exact hc));exact⟨_,_,I,new cap _ O,stp _,λb hb'=>fin b hb'⟩
 have hg:off+n*i.size+news.length≤cur.size:=by
  rw[hl,H];have:(n+m)*sz≤cap*sz:=ML _ hroom;rw[Mt]at this;omega
 have hf:=run_firstCells_some (P:=P) w i.size m a m c news (by rw[H];exact hl) U;have hh:=run_storeCells_at P g (off+n*i.size) e news 0 cur w Y (by simpa using hg) h1;simp only[Nat.add_zero]at hh;have I:(Builtin.append_ #[t,t] ty #[.slice (some ⟨g,off,none⟩) n cap,.slice (some a) m c]).run P w =
   .ok (.slice (some ⟨g,off,none⟩) (n+m) cap) (w.setRow g (cur.toList.take (off+n*i.size)++news++cur.toList.drop (off+n*i.size+news.length)).toArray):=by
  simp[Builtin.append_,run_underlying h.u,sizeOf,typeInfo,hi,Builtin.lenOf,hroom,hf,YD,hh]
 refine⟨_,_,I,⟨by rw[Lj,E.1,hl,Mt],.inr ⟨g,off,cap,_,rfl,hs,setRow_heap w g _ _ e (0,0) Y,hroom,V,?_,?_⟩⟩,?_,λb hb'=>.inl hb'⟩
 ·simp only[List.size_toArray,List.length_append,List.length_take,List.length_drop,Array.length_toList];omega
 ·have hy:cur.toList.length=cur.size:=Array.length_toList;rw[H]at hg ⊢;have e1:(cur.toList.take (off+n*sz)).drop off=cs:=by
   rw[List.drop_take,show off+n*sz - off=n*sz by omega];exact he
  have e2:(List.toArray (cur.toList.take (off+n*sz)++news++cur.toList.drop (off+n*sz+news.length))).toList.drop off=cs++news++cur.toList.drop (off+n*sz+news.length):=by
   show(cur.toList.take (off+n*sz)++news++cur.toList.drop (off+n*sz+news.length)).drop off=_;rw[LA,List.drop_append_of_le_length (by rw[LC];omega),e1,LA]
  rw[e2];have J:(cs++news).length=(n+m)*sz:=by rw[Lj,E.1,hl,Mt]
  rw[←J];exact List.take_left
 exact Step.setRow w g _
theorem Qn0 {t e sz bys:Nat}{z:Value}[h:Sl P t e sz bys z]{s y:Operand}{base:Nat}{v:Value}{n:Nat}{cs:LV}(E:Y8 w base e sz v n cs)(hs:ev f s=v)
  {a:Addr} {m c:Nat} {news:LV} (hy:ev f y=.slice (some a) m c) (hl:news.length=m*sz) (hm:0<m) {L:LN} (G:At L w.heap a news) (h1:∀u∈news,u.oneCell'=true)
  (hb:n+m≤1099511627776) (H:base≤w.heap.size)
  (I:∀v' w',Y8 w' base e sz v' (n+m) (cs++news)→Step (ob v) w w'→(∀b∈ob v',b∈ob v∨w.heap.size≤b)→K (QW f d v') w') (J:bys≤128:=by decide):
  XO P ⟨d,.call ⟨.builtin .append,#[s,y],#[t,t]⟩,ty,ps,af,gd⟩ f w K:=by
 obtain⟨v',w',U,h2,h3,h4⟩:=Qae (P:=P) (t:=t) (ty:=ty) E hl hm G.cells h1 hb J H (c:=c);have V:(execOp (ev f) ⟨d,.call ⟨.builtin .append,#[s,y],#[t,t]⟩,ty,ps,af,gd⟩).run P w=.ok (.value v') w':=by
  simp[execOp,resolve,invoke,builtin,hs,hy,U]
 exact xv V (I v' w' h2 h3 h4)
end
abbrev Ku (e base:Nat)(w:World)(v:Value)(l:LI):Prop:=Y8 w base e 1 v l.length (l.map (.int .i64))
theorem Ku.snoc {e base:Nat}{w:World}{v:Value}{l:LI}{n:Int}(h:Y8 w base e 1 v (l.length+1) (l.map (Value.int .i64)++[.int .i64 n])):Ku e base w v (l++[n]):=by
 unfold Ku;simpa using h
theorem Ku.tail {e base:Nat}{w:World}{v:Value}{s:Int}{l:LI}(h:Y8 w base e 1 v ((s::l).length - 1) (((s::l).map (Value.int .i64)).drop (1*1))):Ku e base w v l:=by
 unfold Ku;simpa using h
end Go.Lg
namespace Go.Proofs.YtjcgijbhaemldaaGreatDoor
open Go.Lg
def Kw {α:Type}(f:Nat→α)(i:Nat)(x:α):Nat→α:=λj=>if j=i then x else f j
theorem Z5 {α:Type}(f:Nat→α)(i:Nat)(x:α):Kw f i x i=x:=by simp[Kw]
theorem Yx {α:Type}(f:Nat→α){i j:Nat}(x:α)(h:j≠i):Kw f i x j=f j:=by simp[Kw,h]
theorem Qbp {α β:Type}(k:α→β)(n:Nat)(f:Nat→α)(i:Nat)(x:α):((List.range n).map λj=>k (f j)).set i (k x)=(List.range n).map λj=>k (Kw f i x j):=by
 apply LT
 ·simp
 intro j h1 h2;rw[MY];by_cases e:i=j
 ·subst e;simp[Z5]
 rw[if_neg e];simp[Yx _ _ (Ne.symm e)]
structure K4 (base:Nat)(w:World)(n:Nat)(f:Nat→Value)(g:Nat→LI):Prop where
 own:∀i,i<n→Qt 3 base w (f i) (g i)
 dj:∀i j,i<n→j<n→i≠j→Dj (f i) (f j)
theorem K4.app {base n i:Nat}{w w':World}{f:Nat→Value}{g:Nat→LI}{v':Value}{l:LI}(h:K4 base w n f g)(hi:i<n)(H:Qt 3 base w' v' l)(hs:Step (ob (f i)) w w')
  (I:∀b∈ob v',b∈ob (f i)∨w.heap.size≤b):K4 base w' n (Kw f i v') (Kw g i l):=by
 refine⟨λj hj=>?_,λj k hj hk E=>?_⟩
 ·by_cases e:j=i
  ·subst e;rw[Z5,Z5];exact H
  rw[Yx _ _ e,Yx _ _ e];exact Qm (h.own j hj) hs (h.dj j i hj hi e)
 have key:∀j,j<n→j≠i→Dj v' (f j):=λj hj e b hb G=>by
  rcases I b hb with h1|h1
  ·exact h.dj i j hi hj (Ne.symm e) b h1 G
  have:=QY (h.own j hj) b G;omega
 by_cases e1:j=i
 ·subst e1;rw[Z5,Yx _ _ (Ne.symm E)];exact key k hk (Ne.symm E)
 rw[Yx _ _ e1];by_cases e2:k=i
 ·subst e2;rw[Z5];exact(key j hj e1).symm
 rw[Yx _ _ e2];exact h.dj j k hj hk E
theorem K4.step {base n:Nat}{X:LN}{w w':World}{f:Nat→Value}{g:Nat→LI}(h:K4 base w n f g)(hs:Step X w w')(E:∀i,i<n→∀b∈ob (f i),b∉X):K4 base w' n f g :=
 ⟨λi hi=>Qm (h.own i hi) hs (E i hi),h.dj⟩
theorem K4.ext {base n:Nat}{w w':World}{f:Nat→Value}{g:Nat→LI}(h:K4 base w n f g)(hs:Step [] w w'):K4 base w' n f g:=h.step hs (λ_ _ _ _=>by simp)
def ZC (es:List Ed)(s:Nat):LI:=(es.filter λe=>decide (e.2.2=(s:Int))).map (·.1)
theorem zD (es:List Ed)(e:Ed)(E:0≤e.2.2):∀s,Kw (ZC es) e.2.2.toNat (ZC es e.2.2.toNat++[e.1]) s=ZC (es++[e]) s:=by
 intro s;unfold ZC;rw[L8,Lx];by_cases h:s=e.2.2.toNat
 ·subst h;rw[Z5];have:e.2.2=(e.2.2.toNat:Int):=by omega
  simp[←this]
 rw[Yx _ _ h];have:¬e.2.2=(s:Int):=by omega
 simp[this]
theorem X7 {es:List Ed}{s:Nat}{p:Int}(h:p∈ZC es s):∃e∈es,e.1=p∧e.2.2=(s:Int):=by
 unfold ZC at h;simp only[List.mem_map,List.mem_filter,decide_eq_true_eq]at h;obtain⟨e,⟨h1,h2⟩,h3⟩:=h;exact⟨e,h1,h3,h2⟩
theorem X8 (es:List Ed)(s:Nat):(ZC es s).length≤es.length:=by
 unfold ZC;rw[Lh];exact Mg _ _
def VU (s:Int)(st:LI×LI)(p:Int):LI×LI:=if cget st.1 p.toNat<0 then(st.1.set p.toNat (cget st.1 s.toNat+1),st.2++[p])else st
def bwL (es:List Ed):Nat→LI→LI→LI
 | 0,o,_=>o
 | _+1,o,[]=>o
 | f+1,o,s::q=>bwL es f ((ZC es s.toNat).foldl (VU s) (o,q)).1 ((ZC es s.toNat).foldl (VU s) (o,q)).2
def Vm (n:Nat)(to:LI):LI:=(List.range n).map λi:Nat=>if(i:Int)∈to then 0 else -1
def bwd (n:Nat)(es:List Ed)(to:LI):LI:=bwL es (n+to.length) (Vm n to) to
theorem QmI (es:List Ed)(f:Nat)(o:LI):bwL es f o []=o:=by cases f <;> rfl
structure yz (n:Nat)(o q:LI):Prop where
 len:o.length=n
 q:∀x∈q,0≤x∧x<(n:Int)
 le:∀x∈o,-1≤x∧x+(neg o:Int)≤n
theorem QdE (l:LI):neg l≤l.length:=Mg _ _
theorem Qd7 {n:Nat}{s p:Int}{st:LI×LI}(h:yz n st.1 st.2)(hs:0≤s∧s<(n:Int))(E:0≤cget st.1 s.toNat)(hp:0≤p∧p<(n:Int)):
  yz n (VU s st p).1 (VU s st p).2∧neg (VU s st p).1+(VU s st p).2.length=neg st.1+st.2.length∧0≤cget (VU s st p).1 s.toNat:=by
 unfold VU;have hl:=h.len;have G:p.toNat<st.1.length:=by omega
 have H:s.toNat<st.1.length:=by omega
 by_cases hc:cget st.1 p.toNat<0
 ·rw[if_pos hc];have I:st.1[p.toNat]'G<0:=by rw[Q8 G];exact hc
  have U:=h.le _ (Jl H);have V:=V2 st.1 p.toNat (cget st.1 s.toNat+1) G I (by omega);refine⟨⟨by simp[hl],λx hx=>?_,λx hx=>?_⟩,?_,?_⟩
  ·simp only[List.mem_append,List.mem_singleton]at hx;rcases hx with hx|rfl
   ·exact h.q x hx
   exact hp
  ·simp only[]at hx ⊢;rcases Nk hx with h1|h1
   ·have:=h.le x h1;omega
   subst h1;omega
  ·simp only[List.length_append,List.length_singleton];omega
  simp only[];have J:s.toNat≠p.toNat:=λe=>by rw[e]at E;omega
  have:cget (st.1.set p.toNat (cget st.1 s.toNat+1)) s.toNat=cget st.1 s.toNat:=by
   unfold cget;simp[List.getD,List.getElem?_set_ne (Ne.symm J)]
  rw[this];exact E
 rw[if_neg hc];exact⟨h,rfl,E⟩
theorem YK (n:Nat)(to:LI):(Vm n to).length=n:=by simp[Vm]
theorem Qd8 {n:Nat}{to:LI}(h:∀x∈to,0≤x∧x<(n:Int)):yz n (Vm n to) to:=by
 refine⟨YK n to,h,λx hx=>?_⟩;have E:=QdE (Vm n to);rw[YK]at E;unfold Vm at hx;simp only[List.mem_map]at hx;obtain⟨i,_,rfl⟩:=hx;split <;> omega
theorem qK {n:Nat}{to:LI}{x:Int}(h:0≤x∧x<(n:Int))(hx:x∈to):cget (Vm n to) x.toNat=0:=by
 have h1:x.toNat<(Vm n to).length:=by rw[YK];omega
 rw[←Q8 h1];have:((x.toNat:Nat):Int)=x:=by omega
 simp[Vm,this,hx]
def Qc2 (o q:LI):Prop:=∀x∈q,0≤cget o x.toNat
theorem yi {n:Nat}{s p:Int}{st:LI×LI}(h:yz n st.1 st.2)(H:0≤cget st.1 s.toNat)(hp:0≤p∧p<(n:Int))(E:Qc2 st.1 st.2):Qc2 (VU s st p).1 (VU s st p).2:=by
 unfold VU;have G:p.toNat<st.1.length:=by have:=h.len;omega
 by_cases hc:cget st.1 p.toNat<0
 ·rw[if_pos hc];intro x hx;simp only[]at hx ⊢;have e1:cget (st.1.set p.toNat (cget st.1 s.toNat+1)) x.toNat=if x.toNat=p.toNat then cget st.1 s.toNat+1 else cget st.1 x.toNat:=by
   by_cases e:x.toNat=p.toNat
   ·rw[if_pos e,e];unfold cget;simp[List.getD,G]
   rw[if_neg e];unfold cget;simp[List.getD,List.getElem?_set_ne (Ne.symm e)]
  rw[e1];split
  ·omega
  rename_i e;simp only[List.mem_append,List.mem_singleton]at hx;rcases hx with hx|rfl
  ·exact E x hx
  exact absurd O e
 rw[if_neg hc];exact E
open Go.Proofs.Tryz
theorem QbL (n:Nat):(List.replicate n (nS).cells.toList).flatten=(List.range n).map (λ_=>nS):=by
 apply LT
 ·simp[Value.cells]
 intro i h1 h2;simp[Value.cells]
theorem jx (n:Nat):(List.replicate n (Value.int .i64 0).cells.toList).flatten=(gA n (λj=>if j<0 then -1 else 0)).map (Value.int .i64):=by
 apply LT
 ·simp[Value.cells,gA]
 intro i h1 h2;simp[Value.cells,gA]
theorem VZ {rv:Nat→Value}{n i:Nat}(hi:i<n):((List.range n).map rv)[0+i*1]?=some (rv i):=by simp[hi]
theorem QcS {w:World}{va vm ve vf vt:Value}{a:QD}{n:Nat}{to:LI}(h:Zm [] w.heap va vm ve a)(hn:a.st=(n:Int))(m2:a.st≤4096)(gr:∀e∈a.ed,0≤e.1∧e.1<a.st∧0≤e.2.2∧e.2.2<a.st)
  (m3:a.ed.length≤1000000) (kc:QJ [] w.heap vt to) (ke:∀s∈to,0≤s∧s<a.st) (m4:to.length≤4096):
  QH prog 77 [.agg #[va,.int .i64 a.st,vm,ve,vf],vt] w λr w'=>Step [] w w'∧∃b,r=.slice (some ⟨b,0,none⟩) n n∧w.heap.size≤b∧QT w'.heap b 3 ((bwd n a.ed to).map (Value.int .i64)):=by
 refine QH.of_W func77 O ntmps77 results77 (by simp) ?_;refine Qc<|xl O<|QR (us:=[va,.int .i64 a.st,vm,ve,vf]) O λb2 w1 h2 m5 h3=>Qf<|Qc<|x (Qa O)<|x (Qa O)<|x (Qd h3 O O)<|xl O<|XM (n:=n) (congrArg (Value.int .i64) hn) (congrArg (Value.int .i64) hn) (by omega) λbI w2 hI kf hJ=>Qf ?_;rw[QbL]at hJ;have h4:=h2.trans hI;have m6:=hJ.lt;have m7:=h3.lt
 have hK:∀s∈to,0≤s∧s<(n:Int):=λs hs=>by have:=ke s hs;omega
 refine Qg<|Qc<|x (Qa O)<|x (Qa O)<|x (Qd (h3.ext hI) O O)<|x (Qr h.ed O)<|Qb<|xe<|Qh<|Qz (α:=Nat×(Nat→Value)) [(7,7),(24,41)] (λz=>[(24,.int .i64 z.1)]) (λz w'=>z.1≤a.ed.length∧Step [bI] w2 w'∧QT w'.heap bI 39 ((List.range n).map z.2)∧K4 w2.heap.size w' n z.2 (ZC (a.ed.take z.1))) (λz=>a.ed.length - z.1) (by rfl) (0,λ_=>nS) La
  ⟨Ll _,Step.refl _ _,hJ,⟨λi _=>QN _ _ _ _,λi j _ _ _=>Dj.nil _⟩⟩ ?_
 rintro⟨k,rv⟩ g H ⟨hk,hL,hM,hf⟩;simp only[]at hk hM hf;have m8:=hL.size;have h6:Step [] w1 H:=hI.then1 hL kf;refine Qc<|x (QA O O)<|xe<|Qg<|QC O (λhN=>?_) (λhN=>?_)
 ·refine Qy ?_;have kg:a.ed.length≤k:=by have h7:¬(k:Int)<(a.ed.length:Int):=hN;omega
  rw[Lp kg]at hf;have gs:∀i,i<n→QJ [] H.heap (rv i) (ZC a.ed i):=λi hi=>QV (hf.own i hi) (by have:=X8 a.ed i;omega) (by simp);have hO:=(kc.ext h2).ext h6;refine Qc<|x (Qa O)<|x (Qa O)<|x (Qd (h3.ext h6) O O)<|xl O<|XM (n:=n) (congrArg (Value.int .i64) hn) (congrArg (Value.int .i64) hn) (by omega) λbO w4 hP m9 hQ=>Qf ?_;rw[jx]at hQ
  refine Qg<|Qc<|Qb<|x (Qr (L:=[]) (hQ.arr (by simp) (n:=n) (cap:=n) (sz:=1) (by simp[gA]) (by omega) (Lu _)) rfl)<|Qb<|xe<|Qh<|Qz (α:=Nat) [(9,9),(48,54)] (λz=>[(48,.int .i64 z)]) (λz w'=>z≤n∧Step [] H w'∧QT w'.heap bO 3 ((gA n (λj=>if j<z then -1 else 0)).map (Value.int .i64))) (λz=>n - z) (by rfl) 0 La ⟨Ll _,hP,hQ⟩ ?_
  rintro j g E ⟨hj,hg,h8⟩;refine Qc<|x (QA O O)<|xe<|Qg<|QC O (λhR=>?_) (λhR=>?_)
  ·refine Qy ?_;have hS:j=n:=by have kh:¬(j:Int)<(n:Int):=hR;omega
   have ki:gA n (λi=>if i<j then -1 else 0)=gA n (λi:Nat=>if(i:Int)∈to.take 0 then 0 else -1):=zJ λi hi=>by rw[if_pos (by omega),if_neg (by simp)]
   rw[ki]at h8;refine Qc<|Qb<|xl O<|xf<|(Yt (hO.ext hg)).mono ?_;rintro vq w6 ⟨U,kj⟩;have pa:=h8.lt;have gt:=hg.trans U;have kk:=hg.size;refine Qf<|Qg<|Qc<|Qb<|x (Qr (hO.ext gt) O)<|Qb<|xe ?_
   refine Qh<|Qz (α:=Nat) [(12,12),(59,66)] (λz=>[(59,.int .i64 z)]) (λz w'=>z≤to.length∧Step [] H w'∧QT w'.heap bO 3 ((gA n (λi:Nat=>if(i:Int)∈to.take z then 0 else -1)).map (Value.int .i64))∧Qt 3 E.heap.size w' vq to∧E.heap.size≤w'.heap.size) (λz=>to.length - z) (by rfl) 0 La
    ⟨Ll _,gt,h8.ext U,kj,U.size⟩ ?_
   rintro i g w7 ⟨hi,V,hT,hU,kn⟩;refine Qc<|x (QA O O)<|xe<|Qg<|QC O (λhV=>?_) (λhV=>?_)
   ·refine Qy ?_;have ko:to.length≤i:=by have h9:¬(i:Int)<(to.length:Int):=hV;omega
    rw[Lp ko]at hT;have kp:QT w7.heap bO 3 ((Vm n to).map (Value.int .i64)):=hT;refine Qg<|Qh<|Qz (α:=Nat×Value×LI×LI) [(10,10),(13,13),(15,15),(67,101)] (λz=>[(10,z.2.1)])
     (λz w'=>Step [] H w'∧E.heap.size≤w'.heap.size∧QT w'.heap bO 3 (z.2.2.1.map (Value.int .i64))∧Ku 3 E.heap.size w' z.2.1 z.2.2.2∧yz n z.2.2.1 z.2.2.2∧Qc2 z.2.2.1 z.2.2.2∧neg z.2.2.1+z.2.2.2.length≤z.1∧z.1≤8192∧bwL a.ed z.1 z.2.2.1 z.2.2.2=bwd n a.ed to)
     (λz=>z.1+1 - (if z.2.2.2=[]then 1 else 0)) (by rfl) (n+to.length,vq,Vm n to,to) La
     ⟨V,kn,kp,Y8.of_row hU,Qd8 hK,λx hx=>by rw[qK (hK x hx) hx];omega,by have:=QdE (Vm n to);rw[YK]at this;simp only[];omega,by simp only[];omega,O⟩ ?_
    rintro⟨fu,vq,o,q⟩ g w8 ⟨G,hW,hh,hA,hz,hX,hY,kq,ho⟩;simp only[]at hW hh hA hz hX hY kq ho;have pc:neg o+q.length≤8192:=by omega
    refine Qg<|Qc<|Qb<|x (Qr (Qm8 (L:=[]) hA (by omega) (by simp)) rfl)<|x (ZR rfl rfl)<|xe<|QC O (λhZ=>?_) (λhZ=>?_)
    ·refine Qy ?_;have kr:q=[]:=Lr (by have kt:¬(q.length:Int) > 0:=hZ;omega);rw[kr,QmI]at ho;rw[ho]at hh;refine Qc<|Qb<|Qf ?_;exact Ql ⟨[.slice (some ⟨bO,0,none⟩) n n],La,h2.trans (h6.trans G),bO,O,by omega,hh⟩
    refine Qi ?_;have ku:0<q.length:=by have kt:(q.length:Int) > 0:=hZ;omega
    refine Exists.elim (List.exists_cons_of_length_pos ku) λs kv=>Exists.elim kv λq' kw=>?_;subst kw;have pd:0<fu:=by simp only[List.length_cons]at hY;omega
    refine Exists.elim (MU (show fu≠0 by omega)) λgu ga=>?_;subst ga;have hsr:=hz.q s Lm;have kx:=hX s Lm;have hq:s=(s.toNat:Int):=by omega
    rw[bwL]at ho;simp only[List.length_cons]at hY;refine Qh<|Qc<|Qb<|xii (i:=0) (Qm8 (L:=[]) hA (by simp only[List.length_cons];omega) (by simp)) rfl rfl (by simp) λpf kz=>x (Qv kz rfl)<|Qf<|Qc<|Qb<|Qqv (lo:=1) hA rfl rfl (by simp only[List.length_cons];omega) λgv k0 pg=>Qf ?_;have I:Ku 3 E.heap.size w8 gv q':=Ku.tail k0
    refine Qc<|Qb<|Qb<|x (QS (i:=s.toNat) O (congrArg (Value.int .i64) hq) (by omega))<|x (Qd (u:=rv s.toNat) (hM.ext G) O (VZ (by omega)))<|x (Qr ((gs s.toNat (by omega)).ext G) O)<|Qb<|xe ?_;have gx:=X8 a.ed s.toNat;refine Qh<|Qz (α:=Nat×Value×LI×LI) [(10,10),(15,15),(80,101)] (λz=>[(10,z.2.1),(80,.int .i64 z.1)])
     (λz w'=>z.1≤(ZC a.ed s.toNat).length∧Step [] H w'∧E.heap.size≤w'.heap.size∧QT w'.heap bO 3 (z.2.2.1.map (Value.int .i64))∧Ku 3 E.heap.size w' z.2.1 z.2.2.2∧yz n z.2.2.1 z.2.2.2∧Qc2 z.2.2.1 z.2.2.2∧0≤cget z.2.2.1 s.toNat∧neg z.2.2.1+z.2.2.2.length≤gu∧((ZC a.ed s.toNat).drop z.1).foldl (VU s) (z.2.2.1,z.2.2.2)=(ZC a.ed s.toNat).foldl (VU s) (o,q'))
     (λz=>(ZC a.ed s.toNat).length - z.1) (by rfl) (0,gv,o,q') ⟨O,O,Z⟩
     ⟨Ll _,G,hW,hh,I,⟨hz.len,λx hx=>hz.q x (Lk _ hx),hz.le⟩,λx hx=>hX x (Lk _ hx),kx,by simp only[];omega,O⟩ ?_
    rintro⟨m,gb,o2,q2⟩ g w9 ⟨hm,hB,gc,hr,I,Y,hC,hD,ge,J⟩;simp only[]at hm gc hr I Y hC hD ge J;refine Qc<|x (QA O O)<|xe<|Qg<|QC O (λgg=>?_) (λgg=>?_)
    ·refine Qy ?_;have k4:(ZC a.ed s.toNat).length≤m:=by have hE:¬(m:Int)<((ZC a.ed s.toNat).length:Int):=gg;omega
     rw[Lv k4]at J;rw[←J]at ho;exact⟨(gu,gb,o2,q2),by simp only[];split <;> simp <;> omega,La,hB,gc,hr,I,Y,hC,ge,by simp only[];omega,ho⟩
    refine Qi ?_;have ht:m<(ZC a.ed s.toNat).length:=by have hE:(m:Int)<((ZC a.ed s.toNat).length:Int):=gg;omega
    have gy:=X7 (Lc ht);have k5:=Q5 ht;rw[k5,LM]at J;refine Zj ((ZC a.ed s.toNat)[m]'ht) λp hp=>?_;rw[hp]at gy J;have gz:0≤p∧p<(n:Int):=by
     obtain⟨e,he,h1,_⟩:=gy;have:=gr e he;omega
    have g0:p=(p.toNat:Int):=by omega
    have ph:=Y.len;have hF:p.toNat<o2.length:=by omega
    have gh:s.toNat<o2.length:=by omega
    have pj:=Y.le _ (Jl gh);have hG:=Qd7 (st:=(o2,q2)) Y hsr hD gz;have g1:=yi (st:=(o2,q2)) Y hD gz hC;refine Qg<|Qh<|Qc<|xii (i:=m) ((gs s.toNat (by omega)).ext hB) O O ht λpn hE=>?_;rw[hp]at hE;refine x (Qv hE O)<|Qf<|Qc<|Qb<|Qb<|x (QS (i:=p.toNat) O (congrArg (Value.int .i64) g0) (by omega))<|x (Vc (i:=p.toNat) hr O hF)<|x (QA O O)<|xe ?_
    refine QC O (λgi=>?_) (λgi=>?_)
    ·refine Qi ?_;have hc:¬cget o2 p.toNat<0:=by rw[←Q8 hF];exact gi
     have gj:VU s (o2,q2) p=(o2,q2):=by unfold VU;rw[if_neg hc]
     rw[gj]at J;refine Qw<|QP O O<|Qb<|xe ?_;exact⟨(m+1,gb,o2,q2),by simp only[];omega,⟨O,O,Z⟩,ht,hB,gc,hr,I,Y,hC,hD,ge,J⟩
    have hc:cget o2 p.toNat<0:=by rw[←Q8 hF];exact gi
    have gj:VU s (o2,q2) p=(o2.set p.toNat (cget o2 s.toNat+1),q2++[p]):=by unfold VU;rw[if_pos hc]
    rw[gj]at J hG g1;have k6:=Q8 gh;refine Qc<|Qb<|Qb<|Qb<|Qb<|x (QS (i:=s.toNat) O (congrArg (Value.int .i64) hq) (by omega))<|x (Vc (i:=s.toNat) hr O gh)<|x (JB O O ⟨by omega,by omega⟩) <|
     x (QS (i:=p.toNat) O (congrArg (Value.int .i64) g0) (by omega))<|xl O<|Jg (i:=p.toNat) hr O O hF λk7 gk g2=>xe ?_
    rw[k6]at g2;have po:=gk.size;have k8:∀b∈ob gb,b∉[bO]:=λb hb=>by have:=QnQ I b hb;simp;omega
    have k9:=QhV I gk k8;have ma:Step [] H k7:=hB.then1 gk (by omega);refine Qw<|Qb<|Qb<|xl O<|QG (us:=[[.int .i64 p]]) O O (by decide) (by simp) ⟨rfl,rfl,Z⟩ λpp pt h0 pu mc=>xl rfl<|Qn0 (m:=1) (news:=[.int .i64 p]) (QpC k9 h0) rfl rfl rfl (by omega) (mc.at (L:=[]) (by simp)) (by simp[Value.oneCell']) (by omega) (by have:=h0.size;omega) λg3 mf mg h4 pw =>
     Qf ?_
    have pz:=h0.size;have p0:=h4.size;have mh:Ku 3 E.heap.size mf g3 (q2++[p]):=Ku.snoc mg;refine Qw<|QP O O<|Qb<|xe<|⟨(m+1,g3,_,q2++[p]),by simp only[];omega,⟨O,O,Z⟩,ht,(ma.trans h0).then h4 (λb hb=>.inr (by have:=QnQ I b hb;omega)),by omega,(g2.ext h0).step h4 (λhb=>by have:=QnQ I _ hb;omega),mh,hG.1,g1,hG.2.2,?_,J⟩
    have h5:neg (o2.set p.toNat (cget o2 s.toNat+1))+(q2++[p]).length=neg o2+q2.length:=hG.2.1;simp only[];omega
   refine Qi ?_;have hu:i<to.length:=by have h9:(i:Int)<(to.length:Int):=hV;omega
   have mj:=hK _ (Lc hu);have hv:to.take (i+1)=to.take i++[to[i]'hu]:=Li hu;refine Zj (to[i]'hu) λs hs=>?_;rw[hs]at mj hv;have hq:s=(s.toNat:Int):=by omega
   have gl:(gA n (λj:Nat=>if(j:Int)∈to.take i then 0 else -1)).set s.toNat 0=gA n (λj:Nat=>if(j:Int)∈to.take (i+1)then 0 else -1):=zI (by rw[hv];simp;omega) (λj _ hj=>by
    rw[hv];have:¬(j:Int)=s:=by omega
    simp[this])
   refine Qg<|Qh<|Qc<|xii (i:=i) (hO.ext V) O O hu λp4 h9=>?_;rw[hs]at h9;refine x (Qv h9 O)<|Qf<|Qw<|Qb<|Qb<|x (QS (i:=s.toNat) O (congrArg (Value.int .i64) hq) (by omega))<|xl O<|KL (i:=s.toNat) hT O O (by omega) gl λw8 G hh=>xe ?_;refine Qw<|QP O O<|Qb<|xe ?_;have hW:=G.size
   exact⟨i+1,by omega,La,hu,V.then1 G (by omega),hh,Qm hU G (λb hb=>by have:=Qq hU b hb;simp;omega),by omega⟩
  refine Qi ?_;have hS:j<n:=by have kh:(j:Int)<(n:Int):=hR;omega
  refine Qg<|Qh<|Qc<|Qb<|Qf<|Qw ?_;have gl:(gA n (λi=>if i<j then -1 else 0)).set j (-1)=gA n (λi=>if i<j+1 then -1 else 0):=zI (by rw[if_pos (by omega)]) (λi _ hi=>by
   by_cases e:i<j
   ·rw[if_pos e,if_pos (by omega)]
   rw[if_neg e,if_neg (by omega)])
  refine Qb<|Qb<|x (QS (i:=j) O O (by omega))<|xl O<|KL (i:=j) h8 O O hS gl λw6 U mo=>xe ?_;refine Qw<|QP O O<|Qb<|xe ?_;exact⟨j+1,by omega,La,hS,hg.then1 U (by omega),mo⟩
 refine Qi ?_;have hw:k<a.ed.length:=by have h7:(k:Int)<(a.ed.length:Int):=hN;omega
 have hv:a.ed.take (k+1)=a.ed.take k++[a.ed[k]'hw]:=Li hw;have g4:=gr _ (Lc hw);refine Zj (a.ed[k]'hw) λe he=>?_;rw[he]at hv g4;have g5:e.2.2=(e.2.2.toNat:Int):=by omega
 have ha:e.2.2.toNat<n:=by omega
 have gx:=X8 (a.ed.take k) e.2.2.toNat;rw[LC]at gx;have hq:=zD (a.ed.take k) e g4.2.2.1;refine Qg<|Qh<|Qc<|xie ((h.ed.ext h2).ext h6) O O hw λp5 h7=>?_;rw[he]at h7;refine x (QI h7 O O)<|xl O<|Qu (us:=[.int .i64 0,.int .i64 0,.int .i64 0]) O λb7 w4 hP mq ms=>xl O<|Qn (us:=QB e) ms O O O O ⟨O,O,O,Z⟩ λE hg gm=>xe ?_;have hH:Step [] H E:=hP.then1 hg mq
 have kk:=hH.size;have g6:=hf.ext hH;have mt:=g6.own _ ha;have gn:∀b∈ob (rv e.2.2.toNat),w2.heap.size≤b∧b<H.heap.size:=λb hb=>⟨(Qq (hf.own _ ha) b hb).1,QY (hf.own _ ha) b hb⟩;have g7:bI∉ob (rv e.2.2.toNat):=λhb=>by have:=gn _ hb;omega
 have gq:b7∉ob (rv e.2.2.toNat):=λhb=>by have:=gn _ hb;omega
 have g8:=hM.ext hH;refine QU (Step (ob (rv e.2.2.toNat)) E) [(0,true),(1,true),(2,true),(3,true),(4,true),(5,true),(6,true),(7,true),(8,true),(9,true),(10,false),(11,false),(12,true),(13,false)] mixed (by rfl) (by kernel_rfl) (Step.drew _ _) ?_;refine p (λ_=>Qk)<|p (λ_=>Qa O)<|pq (λ_ hc=>Qd (gm.step hc gq) O O)<|p (λ_=>Qk)<|p (λ_=>Qa O)<|pq (λ_ hc=>Qd (gm.step hc gq) O O) <|
  p (λ_=>QS (i:=e.2.2.toNat) O (congrArg (Value.int .i64) g5) ha)<|pq (λ_ hc=>Qd (u:=rv e.2.2.toNat) (g8.step hc g7) O (VZ ha))<|p (λ_=>Qa O)<|pq (λ_ hc=>Qd (gm.step hc gq) O O) <|
  pk<|QG (us:=[[.int .i64 e.1]]) O O (by decide) (by simp) ⟨rfl,rfl,Z⟩ λp6 w6 U p7 mu=>⟨(Step.drew _ _).trans U,?_⟩
 have hy:Step [] E w6:=(Step.drew _ _).trans U;have p8:=hy.size;refine pk<|Q4 (m:=1) (news:=[.int .i64 e.1]) (Qs mt hy) O O O (mu.at (L:=[]) (by simp)) (by simp[Value.oneCell']) (by omega) (by omega) λvr w7 g9 V mv=>⟨hy.any.trans' V,?_⟩;have mw:=(g8.ext hy).step V g7;have my:((List.range n).map rv).length=n:=by simp
 refine p (λ_=>QS (i:=e.2.2.toNat) O (congrArg (Value.int .i64) g5) ha)<|pkl (hl:=by kernel_rfl)<|QF (j:=0+e.2.2.toNat*1) (u:=vr) mw O O (by rw[my];omega) (QV (L:=[]) g9 (by omega) (by simp)).one λw8 G mz=>pe ?_;have m0:QT w8.heap bI 39 ((List.range n).map (Kw rv e.2.2.toNat vr)):=by
  have e1:=Qbp id n rv e.2.2.toNat vr;simp only[id]at e1;rw[←e1];simpa using mz
 have m1:∀b∈ob vr,b∈ob (rv e.2.2.toNat)∨E.heap.size≤b:=λb hb=>(mv b hb).imp id (λh=>by omega);have ka:=g6.app ha (Qt.snoc g9) (hy.any.trans' V) m1;have kb:=ka.step G (λi hi b hb=>by have:=(Qq (ka.own i hi) b hb).1;simp;omega);have ga:Kw (ZC (a.ed.take k)) e.2.2.toNat (ZC (a.ed.take k) e.2.2.toNat++[e.1])=ZC (a.ed.take (k+1)):=by rw[hv];exact funext hq
 rw[ga]at kb;refine Qw<|QP O O<|Qb<|xe<|⟨(k+1,Kw rv e.2.2.toNat vr),by simp only[];omega,La,hw,?_,m0,kb⟩;exact(((hL.trans hH).trans hy).then V (λb hb=>.inr (gn b hb).1)).trans' G
def VI (d:LI)(k:Nat):LI:=((List.range k).filter λi=>decide (0≤cget d i)).map λi:Nat=>(i:Int)
def cor (a:QD):LI:=VI (bwd a.st.toNat a.ed a.mr) a.st.toNat
theorem jH (d:LI)(k:Nat):VI d (k+1)=if 0≤cget d k then VI d k++[(k:Int)]else VI d k:=by
 unfold VI;rw[List.range_succ,L8,Lx];by_cases h:0≤cget d k
 ·simp[h]
 simp[h]
theorem QjC (d:LI)(k:Nat):(VI d k).length≤k:=by
 unfold VI;rw[Lh];have:=Mg (λi=>decide (0≤cget d i)) (List.range k);simpa using this
theorem QmJ (s:Int)(st:LI×LI)(p:Int):(VU s st p).1.length=st.1.length:=by unfold VU;split <;> simp
theorem QcQ (s:Int):∀(ps:LI) (st:LI×LI),(ps.foldl (VU s) st).1.length=st.1.length
 | [],_=>rfl
 | p::ps,st=>by rw[LM,QcQ s ps,QmJ]
theorem QfN (es:List Ed):∀(f:Nat) (o q:LI),(bwL es f o q).length=o.length
 | 0,_,_=>rfl
 | _+1,_,[]=>rfl
 | f+1,o,s::q=>by rw[bwL,QfN es f,QcQ]
theorem QmG (n:Nat)(es:List Ed)(to:LI):(bwd n es to).length=n:=by unfold bwd;rw[QfN,YK]
theorem yy {w:World}{va vm ve:Value}{a:QD}(h:Zm [] w.heap va vm ve a):
  QH prog 35 [.agg #[va,.int .i64 a.st,vm,ve]] w λr w'=>Step [] w w'∧∃v,r=.tuple #[v,.int .i64 (Xq a)]∧Qt 3 w.heap.size w' v (if Xq a=0 then cor a else[]):=by
 refine QH.of_W func35 O ntmps35 results35 (by simp) ?_;refine Qc<|xl O<|QR (us:=[va,.int .i64 a.st,vm,ve]) O λb1 w1 I h6 hf=>x Qe<|Qf<|Qg<|Qc<|x (Qo hf O O)<|xl O<|xf<|(YU (h.ext I)).mono ?_;rintro r2 U ⟨rfl,G⟩;refine Qf<|Qc<|Qb<|x (Q6 O O)<|xe ?_;have h7:=I.size;have h8:=G.size;refine Q3 rfl (λhg=>?_) (λhg=>?_)
 ·refine Qc<|Qb<|x Qe<|Qf<|Ql ⟨[nS,.int .i64 (Xq a)],⟨O,O,Z⟩,I.trans G,_,O,?_⟩;rw[if_neg hg];exact QN _ _ _ _
 have hck:Xq a=0:=Ln.1 hg;have E:=(Zs a).1 hck;refine exN E.st0 λn hn=>?_;have hv:a.st.toNat=n:=by omega
 have hp:=E.st1;have hw:=E.mr_le;have h9:=E.ed_le;refine Qi<|Qc<|Qf ?_;have hh:=(h.ext I).ext G;have hi:Step [] U { U with drawn:=U.drawn+1 }:=Step.drew _ _
 refine Qg<|Qg<|QU (Step [] U) [(0,true),(2,true),(3,true),(6,true),(1,false),(4,false),(5,true)] mixed (by rfl) (by kernel_rfl) (Step.drew _ _) ?_;refine pq (λ_ hc=>Qo ((hf.ext G).ext hc) O O)<|p (λ_=>Qa O)<|pq (λ_ hc=>Qd ((hf.ext G).ext hc) O O) <|
  p (λ_=>Qk)<|pk<|xf<|(U6 (hh.ext hi) hn hp (λe he=>⟨(E.ed e he).1,(E.ed e he).2.1⟩)).mono ?_
 rintro r3 w3 ⟨hq,bF,rfl,_,_⟩;refine⟨hi.trans hq,?_⟩;have V:=hi.trans hq;refine pk<|xf<|(QcS (hh.ext V) hn hp (λe he=>⟨(E.ed e he).1,(E.ed e he).2.1,(E.ed e he).2.2.2⟩) (by omega) (hh.mr.ext V) E.mr hw).mono ?_;rintro r4 w4 ⟨hr,bO,rfl,hA,hy⟩;refine⟨V.trans hr,?_⟩;have hs:=V.trans hr;have ht:=QmG n a.ed a.mr
 have hu:Zy [] w4.heap (.slice (some ⟨bO,0,none⟩) n n) n 1 ((bwd n a.ed a.mr).map (Value.int .i64)):=hy.arr (by simp) (by simp[ht]) (by omega) (Lu _);refine p (λ_=>Qr hu O)<|pe ?_;have hB:=hs.size;have hz:cor a=VI (bwd n a.ed a.mr) n:=by unfold cor;rw[hv]
 refine Qh<|Qz (α:=Nat×Value) [(5,7),(19,30)] (λz=>[(5,z.2),(19,.int .i64 z.1)]) (λz w'=>z.1≤n∧Step [] w4 w'∧Qt 3 w4.heap.size w' z.2 (VI (bwd n a.ed a.mr) z.1)) (λz=>n - z.1) (by rfl) (0,nS) ⟨O,O,Z⟩
  ⟨Ll _,Step.refl _ _,QN _ _ _ _⟩ ?_
 rintro⟨k,v⟩ g w5 ⟨hk,J,H⟩;simp only[]at hk H;refine Qc<|x (QA O O)<|xe<|Qg<|QC O (λhj=>?_) (λhj=>?_)
 ·refine Qy ?_;have Y:k=n:=by have h0:¬(k:Int)<(n:Int):=hj;omega
  rw[Y,←hz]at H;refine Qc<|Qb<|x Qe<|Qf<|Ql ⟨[v,.int .i64 0],⟨O,O,Z⟩,(I.trans G).trans (hs.trans J),_,by rw[hck];rfl,?_⟩;rw[if_pos hck];exact Zd H (by omega)
 have Y:k<n:=by have h0:(k:Int)<(n:Int):=hj;omega
 have ha:=jH (bwd n a.ed a.mr) k;have hC:=QjC (bwd n a.ed a.mr) k;refine Qi<|Qg<|Qh<|Qc ?_;have h1:QJ [] w5.heap (.slice (some ⟨bO,0,none⟩) n n) (bwd n a.ed a.mr):=by unfold QJ;rw[ht];exact hu.ext J
 refine Qb<|xic (i:=k) h1 O O (by omega) λhD h2=>x (Qv h2 O)<|x Qe<|Qf<|Qc<|Qb<|x (ZV O O)<|xe<|QC rfl (λhl=>?_) (λhl=>?_)
 ·refine Qi ?_;rw[if_neg hl]at ha;refine Qw<|QP O O<|Qb<|xe ?_;exact⟨(k+1,v),by simp only[];omega,⟨O,O,Z⟩,Y,J,by rw[ha];exact H⟩
 rw[if_pos hl]at ha;have hE:=J.size;refine Qw<|Qb<|Qb<|xl O<|QG (us:=[[.int .i64 k]]) O O (by decide) (by simp) ⟨rfl,rfl,Z⟩ λhF w6 hm hG h3=>xl rfl<|Q4 (m:=1) (news:=[.int .i64 k]) (Qs H hm) rfl rfl rfl (h3.at (L:=[]) (by simp)) (by simp[Value.oneCell']) (by omega) (by have:=hm.size;omega) λv7 w7 h4 h5 hH =>
  Qf<|Qw<|QP O O<|Qb<|xe ?_
 exact⟨(k+1,v7),by simp only[];omega,⟨O,O,Z⟩,Y,(J.trans hm).then h5 (λb hb=>.inr (Qq H b hb).1),by rw[ha];exact Qt.snoc h4⟩
theorem QqI {P:Program}{ops:List Oper}{K:Fr→World→Prop}{f:Fr}{w:World}{d:Option Nat}{ty:Nat}{ps:String}{af:Array Edge}{gd:Option (Nat×Bool)}{C:World→Prop}{pl:List (Nat×Bool)}{E:Nat}
  {t e sz bys:Nat} {z:Value} {x G I:Operand} {L:LN} {v:Value} {n:Nat} {cs:LV} {H:Array Obj} {k k':IntKind} {lo hi:Nat} [h:Sl P t e sz bys z]
  (J:QL ops E=⟨d,.slice t x (some G) (some I) none,ty,ps,af,gd⟩) (U:Zy L H v n sz cs) (hx:ev f x=v) (hl:ev f G=.int k lo) (V:ev f I=.int k' hi) (h1:lo≤hi) (h2:hi≤n)
  (Y:∀v',Zy L H v' (hi - lo) sz ((cs.drop (lo*sz)).take ((hi - lo)*sz))→XP P ops C K pl (QW f d v') w)
  (hg:Yd ops f (QL ops E)=true:=by rfl):XP P ops C K ((E,true)::pl) f w:=by
 obtain⟨v',h3,h4⟩:=QeN (P:=P) (d:=d) (ty:=ty) (ps:=ps) (af:=af) (gd:=gd) (t:=t) U hx hl V h1 h2;exact Lg.p (λw'=>by rw[J];exact h4 w') (by rw[J];exact Y v' h3) hg
theorem Qfv {es:List Ed}(hs:es.Pairwise λx y=>x.1≤y.1)(s:Nat):∀(m:Nat) (hm:m<es.length),(m:Int)<fS es s↔(es[m]'hm).1<(s:Int):=by
 unfold fS cnE;induction es with
 | nil=>intro m hm;simp at hm
 | cons e es ih =>
  intro m hm;simp only[List.pairwise_cons]at hs;have ih:=ih hs.2;simp only[List.filter_cons];by_cases h1:e.1<(s:Int)
  ·simp only[h1,decide_true,if_true,List.length_cons];cases m with
   | zero=>simp only[List.getElem_cons_zero];omega
   | succ m =>
    have:=ih m (by simpa using hm);simp only[List.getElem_cons_succ];rw[←this];omega
  have E:(es.filter λe=>decide (e.1<(s:Int)))=[]:=MD.2 (λd hd=>by have:=hs.1 d hd;simp;omega);simp only[h1,decide_false,Bool.false_eq_true,if_false,E,List.length_nil];cases m with
  | zero=>simp only[List.getElem_cons_zero];omega
  | succ m =>
   have hd:es[m]'(by simpa using hm)∈es:=Lc _;have:=hs.1 _ hd;simp only[List.getElem_cons_succ];omega
theorem Qmd (es:List Ed)(s:Nat):fS es s≤fS es (s+1):=by
 have h:=Qfu es s;have:=(VJ (λe:Ed=>decide (e.1+1=((s+1:Nat):Int))) es).1;unfold cN at h;omega
theorem Qk0 {es:List Ed}(hs:es.Pairwise λx y=>x.1≤y.1)(s lo hi:Nat)(h1:fS es s=(lo:Int))(h2:fS es (s+1)=(hi:Int)):(es.drop lo).take (hi - lo)=Zu es s∧hi≤es.length∧lo≤hi:=by
 have hm:=Qmd es s;have hl:=(VJ (λe:Ed=>decide (e.1<((s+1:Nat):Int))) es).2;have E:hi≤es.length:=by unfold fS at h2;omega
 refine⟨?_,E,by omega⟩;exact zW (λe:Ed=>decide (e.1=(s:Int))) es lo hi (by omega) E
  (λm hm G=>by have:=(Qfv hs s m hm).1 (by omega);simp;omega)
  (λm hm h3 h4=>by
   have h5:¬(es[m]'hm).1<(s:Int):=λh=>by have:=(Qfv hs s m hm).2 h;omega
   have h6:=(Qfv hs (s+1) m hm).1 (by omega);simp;omega)
  (λm hm h3=>by
   have h6:¬(es[m]'hm).1<((s+1:Nat):Int):=λh=>by have:=(Qfv hs (s+1) m hm).2 h;omega
   simp;omega)
theorem jC:∀(l:List Ed) (k:Nat),(l.flatMap QB).drop (k*3)=(l.drop k).flatMap QB
 | [],k=>by simp
 | e::l,0=>by simp
 | e::l,k+1=>by
  simp only[List.flatMap_cons,List.drop_succ_cons,Nat.add_mul,Nat.one_mul];rw[MT,←List.drop_drop,show(QB e++l.flatMap QB).drop 3=l.flatMap QB from rfl,jC l k]
theorem jB:∀(l:List Ed) (k:Nat),(l.flatMap QB).take (k*3)=(l.take k).flatMap QB
 | [],k=>by simp
 | e::l,0=>by simp
 | e::l,k+1=>by
  simp only[List.flatMap_cons,List.take_succ_cons,Nat.add_mul,Nat.one_mul];rw[MT,List.take_append,show(QB e).length=3 from rfl,show 3+k*3 - 3=k*3 by omega,jB l k,Lp (by rw[show(QB e).length=3 from rfl];omega)]
theorem Qjv {w:World}{va vm ve vf:Value}{st s:Int}:
  QH prog 138 [.agg #[va,.int .i64 st,vm,ve,vf],.int .i64 s] w λr w'=>Step [] w w'∧∃b1 E,r=.func (.func 182) #[] #[.pointer (some ⟨b1,0,none⟩),.pointer (some ⟨E,0,none⟩)] ∧
   w.heap.size≤b1∧w.heap.size≤E∧QT w'.heap b1 171 [va,.int .i64 st,vm,ve,vf]∧QT w'.heap E 3 [.int .i64 s]:=by
 refine QH.of_W func138 O ntmps138 results138 (by simp) ?_;refine Qc<|xl O<|QR (us:=[va,.int .i64 st,vm,ve,vf]) O λE Y G I J=>xl O<|QR (us:=[.int .i64 s]) O λU w2 H ha V=>Qf<|Qc<|x Zo<|Qf ?_;have hb:=G.size;exact Ql ⟨[_],La,G.trans H,E,U,O,I,by omega,J.ext H,V⟩
theorem QdV {L:LN}{w:World}{I U bF n s m:Nat}{va vm ve:Value}{a:QD}(hz:QT w.heap I 171 [va,.int .i64 a.st,vm,ve,.slice (some ⟨bF,0,none⟩) (n+1) (n+1)])(h2:QT w.heap U 3 [.int .i64 s])
  (h3:QT w.heap bF 3 ((gA (n+1) (fS a.ed)).map (Value.int .i64))) (hE:qe L w.heap ve a.ed) (h4:a.ed.Pairwise λx y=>x.1≤y.1) (hs:s<n) (hn:n≤4096):
  SeqStopsK (fen none) m prog 182 [.pointer (some ⟨I,0,none⟩),.pointer (some ⟨U,0,none⟩)].toArray (λx:{ e:Ed // e∈a.ed }=>#[.agg (QB x.1).toArray]) (Lw w.heap.size L)
   (λE=>E.map (·.1)=Zu a.ed s) (λ_=>True) (a.ed.length+1) w:=by
 intro l J Jx W h5 hJ h6 hY h0;have ha:Step [] w W:=Step.of_below h5;have ab:∀{E:List { e:Ed // e∈a.ed }} {W1 W2:World},J E W1→Step [] W1 W2→J E W2:=λ{E W1 W2} hj V=>hJ E W1 W2 none hj ⟨V.os,V.tape,V.output,V.size,λk hk _=>V.block k hk (by simp)⟩ (λr e=>by cases e);have hL:=VJ (λe:Ed=>decide (e.1<(s:Int))) a.ed;have hM:=VJ (λe:Ed=>decide (e.1<((s+1:Nat):Int))) a.ed
 obtain⟨lo,hm⟩:∃lo:Nat,fS a.ed s=(lo:Int):=⟨(fS a.ed s).toNat,by unfold fS;omega⟩;obtain⟨hi,ho⟩:∃hi:Nat,fS a.ed (s+1)=(hi:Int):=⟨(fS a.ed (s+1)).toNat,by unfold fS;omega⟩;obtain⟨hp,h7,h8⟩:=Qk0 h4 s lo hi hm ho;have hN:=hE.le;have h9:(Zu a.ed s).length=hi - lo:=by rw[←hp,LC,Mw];omega
 have hA:∀e∈Zu a.ed s,e∈a.ed:=λe he=>(Zx he).1;have key:QH prog 182 [.func (.yield l) #[] #[],.pointer (some ⟨I,0,none⟩),.pointer (some ⟨U,0,none⟩)] W (λ_ W'=>(∃E,E.map (·.1)=Zu a.ed s∧J E W')∨(∃pre,True∧Jx pre W')):=by
  refine QH.of_G m func182 O ntmps182 results182 (by simp) ?_;have hg:=hz.ext ha;have hq:=h2.ext ha;have hr:=h3.ext ha;refine Q2<|Qbf (Step [] W) [(0,true),(1,true),(2,true),(3,true),(4,true),(5,true),(6,true),(7,true),(8,true),(9,true),(10,true),(11,true),(12,true),(13,true),(14,true),(15,true),(16,true)] mixed (by rfl) (by rfl) (by kernel_rfl) (Step.drew _ _) ?_
  refine p (λ_=>Qa O)<|p (λ_=>Qa O)<|pq (λ_ hc=>Qd (hg.ext hc) O O)<|p (λ_=>Qa O)<|pq (λ_ hc=>Qd (hg.ext hc) O O)<|pq (λ_ hc=>Qd (hq.ext hc) O O) <|
   p (λ_=>QS (i:=s) O O (by omega))<|pq (λ_ hc=>V0 (i:=s) (hr.ext hc) O (by omega))<|p (λ_=>Qa O)<|pq (λ_ hc=>Qd (hg.ext hc) O O) <|
   pq (λ_ hc=>Qd (hq.ext hc) O O)<|p (λ_=>JB O O ⟨by omega,by omega⟩)<|p (λ_=>QS (i:=s+1) O O (by omega))<|pq (λ_ hc=>V0 (i:=s+1) (hr.ext hc) O (by omega)) <|
   QqI (lo:=lo) (hi:=hi) O hE O (congrArg (Value.int .i64) hm) (congrArg (Value.int .i64) ho) h8 h7 λhB ht=>p (λ_=>Qr ht O)<|p (λ_=>Qk)<|pe ?_
  have hS:qe L w.heap hB (Zu a.ed s):=by
   unfold qe;rw[h9,←hp,←jB,←jC];exact ht
  have hu:Step [] W { W with drawn:=W.drawn+1 }:=Step.drew _ _
  refine ZS<|VP (α:=Nat×List { e:Ed // e∈a.ed }) [(5,5),(22,30)] (λz=>[(22,.int .i64 z.1)]) (λz ds W'=>ds=[]∧z.1≤(Zu a.ed s).length∧Step L w W'∧z.2.map (·.1)=(Zu a.ed s).take z.1∧J z.2 W') (λz=>(Zu a.ed s).length - z.1) (by rfl) (0,[]) La
   ⟨O,Ll _,(ha.trans hu).any,O,ab h0 hu⟩ ?_
  rintro⟨k,E⟩ g ds w1 ⟨rfl,hk,hv,Y,hh⟩;simp only[]at hk Y hh;refine Q2<|QK (by rfl) (by rfl) ?_;refine x (QA O O)<|xe<|Q2<|yx O (λhl=>?_) (λhl=>?_)
  ·refine Kp ?_;have hC:(Zu a.ed s).length≤k:=by
    have hb:¬(k:Int)<((hi - lo:Nat):Int):=hl;omega
   rw[Lp hC]at Y;exact⟨λ_ h=>(by cases h),ME,[],λW' G=>⟨Z,.inl ⟨E,Y,ab hh G⟩⟩⟩
  refine Yj ?_;have H:k<(Zu a.ed s).length:=by
   have hb:(k:Int)<((hi - lo:Nat):Int):=hl;omega
  have hO:=JY a.ed s;have hw:(Zu a.ed s).take (k+1)=(Zu a.ed s).take k++[(Zu a.ed s)[k]'H]:=Li H;have hf:=hA _ (Lc H);have hP:E.length=k:=by have:=congrArg List.length Y;rw[Lh,LC]at this;omega
  refine Zj ((Zu a.ed s)[k]'H) λe he=>?_;rw[he]at hw hf;refine Q2<|ZS<|Q2<|QK (by rfl) (by rfl) ?_;refine xie (i:=k) (hS.st hv) O O H λhQ hb=>?_;rw[he]at hb;refine x (QI hb O O)<|xl O<|Qu (us:=[.int .i64 0,.int .i64 0,.int .i64 0]) O λb5 w2 hD hF hG=>xl O<|Qn (us:=QB e) hG O O O O ⟨O,O,O,Z⟩ λw3 hH hI=>xe ?_;have hy:Step [] w1 w3:=hD.then1 hH hF;refine Q2<|Vn (by rfl) ?_
  refine Jt.pre2 ?_;refine Qb<|x (Qo hI O O)<|xe<|xy (l:=l) O (hY E ⟨e,hf⟩ w3 (ab hh hy) (by omega)) λen W3 hK=>Or.elim hK (λh1=>⟨.bool true,h1.1,?_⟩) (λh1=>⟨.bool false,h1.1,?_⟩)
  ·refine Jt.of_XL<|x (Zt O)<|xe<|Vo O<|Yj ?_;refine QK (by rfl) (by rfl) ?_;refine QP O O<|Qb<|xe ?_;exact⟨(k+1,E++[⟨e,hf⟩]),by simp only[];omega,La,O,H,(hv.trans hy).lw h1.2.2,by rw[hw,Lx,Y];rfl,h1.2.1⟩
  refine Jt.of_XL<|x (Zt O)<|xe<|Qbe O ?_;refine K7 ⟨λ_ h=>(by cases h),ME,[],λW' G=>⟨Z,.inr ⟨E++[⟨e,hf⟩],Z,?_⟩⟩⟩;exact h6 _ W3 W' none h1.2 ⟨G.os,G.tape,G.output,G.size,λk hk _=>G.block k hk (by simp)⟩ (λr e=>by cases e)
 refine(callsIn_wide (n:=m)).2 ?_;have ea:(#[.func (.yield l) #[] #[]]++[.pointer (some ⟨I,0,none⟩),.pointer (some ⟨U,0,none⟩)].toArray:Array Value)=[.func (.yield l) #[] #[],.pointer (some ⟨I,0,none⟩),.pointer (some ⟨U,0,none⟩)].toArray:=by simp
 rw[ea];unfold QH at key;refine Calls.mono key λe w' he=>?_;cases e with
 | returned v=>exact⟨⟨v,O⟩,he⟩
 | panicked c=>exact he.elim
 | outgrown=>exact he.elim
def Par (n:Nat)(ed:List Ed):Prop:=∀j:Nat,0<j→j<n→∃e∈ed,e.2.2=(j:Int)∧e.1<(j:Int)
theorem QkF {aa:List QD}{i:Nat}{t:LI}{s E:Sy}{v:Int}(h:Par s.tup.length s.ed)(hi:i<s.tup.length)(e:syE aa i t s v=some E):Par E.tup.length E.ed∧i<E.tup.length:=by
 unfold syE at e;cases hs:Za v aa t with
 | none=>rw[hs]at e;cases e;exact⟨h,hi⟩
 | some u =>
  rw[hs]at e;simp only[]at e;by_cases hu:u∈s.tup
  ·rw[if_pos hu]at e;cases e
   refine⟨λj G hj=>?_,hi⟩;obtain⟨d,hd,h1⟩:=h j G hj;exact⟨d,Ly _ hd,h1⟩
  rw[if_neg hu]at e;split at e
  ·cases e
  cases e
  refine⟨λj G hj=>?_,by simp;omega⟩;simp only[List.length_append,List.length_singleton]at hj;by_cases H:j=s.tup.length
  ·exact⟨((i:Int),v,(s.tup.length:Int)),by simp,by rw[H],by simp only[];omega⟩
  obtain⟨d,hd,h1⟩:=h j G (by omega);exact⟨d,Ly _ hd,h1⟩
theorem Qbx {aa:List QD}{i:Nat}{t:LI}:∀(vs:LI) (s E:Sy),Par s.tup.length s.ed→i<s.tup.length→KG aa i t vs s=some E→Par E.tup.length E.ed
 | [],s,E,h,_,e=>by cases e;exact h
 | v::vs,s,E,h,hi,e=>by
  rw[KG]at e;obtain⟨G,h1,h2⟩:=Mc.1 e;have:=QkF h hi h1;exact Qbx vs G E this.1 this.2 h2
theorem Qeu {aa:List QD}:∀(f i:Nat) (s E:Sy),Par s.tup.length s.ed→j7 aa f i s=some E→Par E.tup.length E.ed
 | 0,i,s,E,h,e=>by cases e;exact h
 | f+1,i,s,E,h,e=>by
  rw[j7]at e;split at e
  ·rename_i hi;obtain⟨G,h1,h2⟩:=Mc.1 e;have ht:(ZB aa i (UA s i) s).tup=s.tup:=by unfold ZB;split <;> rfl
   have H:(ZB aa i (UA s i) s).ed=s.ed:=by unfold ZB;split <;> rfl
   refine Qeu f (i+1) G E (Qbx _ _ G (by rw[ht,H];exact h) (by rw[ht];exact hi) h1) h2
  cases e;exact h
theorem Qg8 {aa:List QD}{A:QD}{Q:List (LI)}(h:sync aa=some (A,Q)):Par Q.length A.ed:=by
 unfold sync at h;split at h
 ·cases h;intro j _ hj;simp at hj
 obtain⟨s,h1,h2⟩:=L4.1 h;cases h2
 exact Qeu 4096 0 (qg aa) s (λj E hj=>by simp[qg]at hj;omega) h1
def stS (st:List Ed):LI:=st.map (·.1)
def gE (st:List Ed)(k:Nat):Ed:=st.getD k (0,-1,0)
theorem QiY {st:List Ed}{k:Nat}(h:k<st.length):st[k]'h=gE st k:=by simp[gE,List.getD,h]
theorem Qoq {st:List Ed}{k:Nat}(h:k<st.length):gE st k∈st:=by rw[←QiY h];exact Lc h
def Ky (pm:Ed→Bool)(i:Nat)(st:List Ed)(e:Ed):List Ed:=if e.2.2∉stS st∧pm e=true then st++[(e.2.2,(i:Int),e.2.1)]else st
def wrd (st:List Ed):Nat→Nat→LI
 | 0,_=>[]
 | f+1,k=>if 0≤(gE st k).2.1 then(gE st k).2.2::wrd st f (gE st k).2.1.toNat else[]
def Qgh (wt:Int→Bool)(pm:Ed→Bool)(es:List Ed):Nat→Nat→List Ed→LI×Bool
 | 0,_,_=>([],false)
 | f+1,i,st=>if i<st.length then(if wt (gE st i).1=true then((wrd st (i+1) i).reverse,true)else Qgh wt pm es f (i+1) ((Zu es (gE st i).1).foldl (Ky pm i) st))else([],false)
def pth (wt:Int→Bool)(pm:Ed→Bool)(es:List Ed)(n from0:Nat):LI×Bool:=Qgh wt pm es (n+1) 0 [((from0:Int),-1,-1)]
structure Qef (n:Nat)(st:List Ed):Prop where
 nd:(stS st).Nodup
 rg:∀x∈st,0≤x.1∧x.1<(n:Int)
 par:∀k,k<st.length→(gE st k).2.1=-1∨(0≤(gE st k).2.1∧(gE st k).2.1<(k:Int))
theorem Qef.le {n:Nat}{st:List Ed}(h:Qef n st):st.length≤n:=by
 have:=pig n (stS st) h.nd (λx hx=>by
  unfold stS at hx;obtain⟨y,hy,rfl⟩:=Lq.1 hx;exact h.rg y hy)
 simpa[stS]using this
theorem QlY {st:List Ed}{x:Ed}{k:Nat}(h:k<st.length):gE (st++[x]) k=gE st k:=by
 unfold gE;simp[List.getD,List.getElem?_append_left h]
theorem QlZ (st:List Ed)(x:Ed):gE (st++[x]) st.length=x:=by
 unfold gE;simp[List.getD]
theorem QmN {n i:Nat}{pm:Ed→Bool}{st:List Ed}{e:Ed}(h:Qef n st)(hi:i<st.length)(he:0≤e.2.2∧e.2.2<(n:Int)):Qef n (Ky pm i st e)∧i<(Ky pm i st e).length:=by
 unfold Ky;split
 ·rename_i hc;refine⟨⟨?_,λx hx=>?_,λk hk=>?_⟩,by simp;omega⟩
  ·unfold stS at hc ⊢;rw[Lx];exact Ka h.nd hc.1
  ·simp only[List.mem_append,List.mem_singleton]at hx;rcases hx with hx|rfl
   ·exact h.rg x hx
   exact he
  by_cases E:k<st.length
  ·rw[QlY E];exact h.par k E
  have:k=st.length:=by simp at hk;omega
  subst this;rw[QlZ];simp only[];omega
 exact⟨h,hi⟩
theorem QnS {n from0:Nat}(h:from0<n):Qef n [((from0:Int),-1,-1)]:=by
 refine⟨by simp[stS],λx hx=>?_,λk hk=>?_⟩
 ·simp at hx;subst hx;simp only[];omega
 simp at hk;subst hk;exact .inl O
theorem Qgg {wt:Int→Bool}{pm:Ed→Bool}{es:List Ed}{f i:Nat}{st:List Ed}(h:¬i<st.length):Qgh wt pm es f i st=([],false):=by
 cases f with
 | zero=>rfl
 | succ f=>rw[Qgh,if_neg h]
end Go.Proofs.YtjcgijbhaemldaaGreatDoor
