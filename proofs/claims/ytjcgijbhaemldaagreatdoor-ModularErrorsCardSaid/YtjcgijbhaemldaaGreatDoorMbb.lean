/- Merged out of 50 texts. -/
import Derived.Test.YtjcgijbhaemldaaGreatDoorMba
import Derived.Laws.Strings
import Derived.RangeFuncNested
import Derived.RangeFuncLeaves
import Derived.RangeFuncCalls
import Derived.OrdersIn
import Derived.TacticsIn
namespace Go.Proofs.YtjcgijbhaemldaaGreatDoor
open Go.Proofs.Tryz
open Go.Lg
theorem QmL {α:Type}(o:Option α):o=none∨∃t,o=some t:=by cases o;exact .inl O;exact .inr ⟨_,O⟩
def zA:Value:=.agg #[nS,.int .i64 0,nS,nS]
def Zd:Value:=nS
def Yd (N:Nat)(H:Array Obj)(aa:List QM)(va vt:Value)(c:Int):Prop :=
 if JM aa≠0 then c=JM aa∧va=zA∧vt=Zd else match sync aa with
  | none=>c=3∧va=zA∧vt=Zd
  | some z=>c=0∧Xk N H va z.1∧QbW N H vt z.2
def Yh (s:Sy)(u:LI):Sy:=if u∈s.tup then s else⟨s.tup++[u],s.mk',s.ed⟩
theorem QeH (s:Sy)(u:LI):(Yh s u).mk'=s.mk':=by unfold Yh;split <;> rfl
theorem QeI (s:Sy)(u:LI):(Yh s u).ed=s.ed:=by unfold Yh;split <;> rfl
theorem QhD {aa:List QM}{i:Nat}{t u:LI}{s:Sy}{v:Int}(h:Zt v aa t=some u)(hl:u∈s.tup∨s.tup.length≠4096):
  syE aa i t s v=some ⟨(Yh s u).tup,(Yh s u).mk',(Yh s u).ed++[((i:Int),v,((Yh s u).tup.idxOf u:Int))]⟩:=by
 unfold syE Yh;rw[h];simp only[];by_cases hu:u∈s.tup
 ·simp only[if_pos hu]
 simp only[if_neg hu];rw[if_neg (by rcases hl with h1|h1;exact absurd h1 hu;exact h1),Mr,if_neg hu];simp
theorem QeG {aa:List QM}{i:Nat}{t u:LI}{s:Sy}{v:Int}(h:Zt v aa t=some u)(hu:u∉s.tup)(hl:s.tup.length=4096):syE aa i t s v=none:=by
 unfold syE;rw[h];simp only[];rw[if_neg hu,if_pos hl]
theorem QeE {aa:List QM}{i:Nat}{t:LI}{s:Sy}{v:Int}(h:Zt v aa t=none):syE aa i t s v=some s:=by
 unfold syE;rw[h]
theorem Qly {s:Sy}{qs:List TV}{i:Nat}(hq:qs.map (·.2)=s.tup)(h:i<qs.length):Ub s i=qs[i].2:=by
 unfold Ub;rw[←hq];simp[List.getD,h]
theorem Vt.bd {aa:List QM}{t:LI}(h:Vt aa t){m:Int}(hm:∀a∈aa,a.st≤m):∀x∈t,0≤x∧x<m:=by
 intro x hx;obtain⟨i,hi,rfl⟩:=LG hx;have E:i<aa.length:=by rw[←h.1];exact hi
 have:=h.2 i hi E;have:=hm aa[i] (Lh E);omega
set_option maxHeartbeats 20000000 in
theorem VH {L:LN}{w:World}{vl:Value}{ps:List AV}{km:Int}(h:YH L w.heap vl ps)(gj:Kb w km)(kc:0<km)(m1:∀p∈ps,p.a.st≤km):
  QE prog 74 [vl] w λr w'=>Step [] w w'∧∃va vt c,r=.tuple #[va,vt,.int .i64 c]∧Yd w.heap.size w'.heap (ps.map (·.a)) va vt c:=by
 refine QE.of_W func74 O ntmps74 results74 (by simp) ?_;generalize J:ps.map (·.a)=aa;refine Qc<|xl O<|Qr (us:=[nS,.int .i64 0,nS,nS]) O λH w1 hO hA gk=>x Qf<|Qe ?_;have hl2:=gk.lt;refine Qg<|Qc<|Qb<|xl O<|xf<|(zK (h.ext hO)).mono ?_;rintro r2 w2 ⟨rfl,ho⟩;refine Qe ?_;rw[J];refine Qc<|Qb<|x (Q7 O O)<|xe<|Q2 rfl (λhv=>?_) (λhv=>?_)
 ·refine Qc<|x (QK Z)<|Qb<|xl O<|Qm (us:=[nS,.int .i64 0,nS,nS]) (gk.ext ho) O O O O ⟨O,O,O,O,Z⟩ λw3 m2 m3=>x Qf<|Qe<|Qk ⟨[zA,Zd,.int .i64 (JM aa)],⟨⟨_,O,Qv O (m3.at (L:=[]) (by simp)).cells⟩,rfl,rfl,Z⟩,(hO.trans ho).then1 m2 hA,zA,Zd,JM aa,rfl,?_⟩;unfold Yd;rw[if_pos hv];exact⟨O,O,O⟩
 have hck:JM aa=0:=Ll.1 hv;have hn:ps.length≤12:=by
  unfold JM at hck;split at hck
  ·cases hck
  rename_i h1;rw[←J]at h1;simp at h1;exact h1
 have hB:∀a∈aa,Q3 a:=by
  unfold JM at hck;split at hck
  ·cases hck
  exact(VD aa).1 hck
 have hP:∀p∈ps,Q3 p.a:=λp hp=>hB p.a (by rw[←J];exact LK hp);have m6:∀p∈ps,p.a.al.length≤32:=λp hp=>(hP p hp).al_le;have m7:∀a∈aa,a.st≤km:=λa ha=>by rw[←J]at ha;obtain⟨p,hp,rfl⟩:=Ly.1 ha;exact m1 p hp
 have hC:aa.length=ps.length:=by rw[←J];simp
 refine Qi<|Qc<|Qb<|xl O<|xf<|(QcA (L:=[H]) (((h.up (λb hb=>.inr (by simp at hb;omega))).ext hO).ext ho) hn m6 (λb hb=>by simp at hb;have:=ho.size;omega)).mono ?_;rintro r4 w4 ⟨gl,ve,vs,ms,rfl,ke,hl⟩;rw[J]at hl;have m8:=h.arr.one;have hel:=UC aa (λa ha=>(hB a ha).al_le);have hevl:(evs aa).length≤1000:=by omega
 have hQ:=Qt.ints (L:=[]) hl (by omega) (by simp);refine xl rfl<|Qr (us:=[nS,nS,nS]) O λb6 w5 m9 pa hD=>xl O<|Qm (us:=[vl,ve,vs]) hD O O O O ⟨m8,hQ.one,ke.sl.one,Z⟩ λw6 pc hD=>xe ?_;have hR:Step [] w4 w6:=m9.then1 pc pa;have hz2:=ho.size;have hz4:=gl.size;have hl6:=hD.lt;refine Qc ?_;have pd:=((gk.ext ho).ext gl).ext hR
 refine x (Qa O)<|x (Qd hD O O)<|x (Qa O)<|xl O<|QC pd O O (by simp) hQ.one λw7 hE pf=>xe ?_;have hz7:=hE.size;have gm:Step [] w w7:=((((hO.trans ho).trans gl).trans hR).then1 hE hA);have kf:Ke [H] w7.heap vl ve vs ps ms:=(ke.ext hR).st hE;have kg:Qt 3 w2.heap.size w7 ve (evs aa):=Ql (Qs hl hR) hE (λb hb=>by have:=(Qq hl b hb).1;simp;omega)
 have kh:=hD.step hE (by simp;omega);refine Qc<|x (Qo kh O O)<|xl O<|xf<|(Qby kf hn).mono ?_;rintro r8 w8 ⟨hh,hS⟩;have hz8:=hh.size;have gn:=pf.ext hh;have hU:(∃p∈ps,p.a.st=0)↔(∃a∈aa,a.st=0):=by
  rw[←J];constructor
  ·rintro⟨p,hp,h0⟩;exact⟨p.a,LK hp,h0⟩
  rintro⟨a,ha,h0⟩;obtain⟨p,hp,rfl⟩:=Ly.1 ha;exact⟨p,hp,h0⟩
 by_cases hz:∃p∈ps,p.a.st=0
 ·rw[if_pos hz]at hS;subst hS;refine Qb<|x (Qj O O)<|x (Qj O O)<|x Qf<|Qe<|Qg<|Qc<|Qb<|x (Zp O)<|xe<|qR O ?_;refine Qc<|x (Qo gn O O)<|xl O<|Qm (us:=[ve,.int .i64 0,nS,nS]) gn O O O O ⟨hQ.one,O,O,O,Z⟩ λw9 ki pg=>x Qf<|Qe<|Qk ⟨[.agg #[ve,.int .i64 0,nS,nS],Zd,.int .i64 0],⟨⟨_,O,Qv O (pg.at (L:=[]) (by simp)).cells⟩,rfl,rfl,Z⟩,(gm.trans hh).then1 ki hA,_,Zd,0,rfl,?_⟩
  unfold Yd;rw[if_neg hv];unfold sync;rw[if_pos (hU.1 hz)];have ph:=Ql (Qs kg hh) ki (λb hb=>by have:=(Qq hl b hb).1;simp;omega);refine⟨O,⟨ve,_,_,O,λL' hk=>⟨Qt.ints ph (by show(evs aa).length≤_;omega) (λb hb=>by have:=hk b hb;omega),Zv.nil _ _ _,Zv.nil _ _ _⟩⟩,[],O,λL' hk=>⟨Zv.nil _ _ _,λp hp=>by cases hp⟩⟩
 rw[if_neg hz]at hS;obtain⟨vf,rfl,go⟩:=hS;have kj:=Qt.ints (L:=[]) go (by simp;omega) (by simp);refine Qb<|x (Qj O O)<|x (Qj O O)<|x Qf<|Qe<|Qg<|Qc<|Qb<|x (Zp O)<|xe<|Yf rfl ?_;refine Qi<|Qc<|Qb<|xl O<|QJ (us:=[[vf]]) O O (by decide) (by simp) ⟨kj.cells,rfl,Z⟩ λU w10 gq hb37 kk=>Qe ?_;have hl37:=kk.lt;refine Qc<|xl O<|ZV XI λhe w11 hV hb38 kn=>?_;have hl38:=kn.lt
 refine Qb<|xl O<|xf<|(yX ((kj.ext gq).ext hV) (gj.ext ((gm.trans hh).trans (gq.trans hV))) (λn hn=>by have:=Nl hn;omega) (by simp;omega)).mono ?_;rintro r12 pj ⟨rfl,hW⟩;have hz12:=hW.size;refine xl rfl<|Yb (k:=Ky (List.replicate ps.length 0)) (kn.ext hW) O O λwS gr pn=>Qb<|Qe ?_;have hzS:=gr.size
 have po:Step [] w8 pj:=(gq.trans hV).trans hW;have hw:Step [] w8 wS:=po.then1 gr (by omega);have hX:Step [] w wS:=(gm.trans hh).trans hw;have pp:∀b∈[H,he,U],b∈[H]∨w8.heap.size≤b:=λb hb=>by
  simp only[List.mem_cons,List.not_mem_nil,or_false]at hb;rcases hb with rfl|rfl|rfl
  ·exact .inl (by simp)
  ·exact .inr (by omega)
  exact .inr (by omega)
 have gs:Ke [H,he,U] wS.heap vl ve vs ps ms:=((kf.ext hh).up pp).ext hw;have gt:QS wS.heap b6 215 [vl,ve,vs]:=(kh.ext hh).ext hw;have pt:Qt 3 w2.heap.size wS ve (evs aa):=Qs (Qs kg hh) hw;have pu:=Q4 hl;have pw:=Qq go;have hF:SyN w1.heap.size H he U wS:=⟨by omega,by omega,by omega,by omega,by omega,by omega⟩
 have pz:yo w1.heap.size H he U ve wS (Un aa) (mput [] (Ky (List.replicate ps.length 0)) (.int .i64 0)) [(vf,List.replicate ps.length 0)] (.slice (some ⟨U,0,none⟩) 1 1) Zd Zd wS:=by
  refine⟨Step.refl _ _,gn.ext hw,pn,?_,λb hb=>by simp[ob]at hb;exact .inl hb,QQ _ _ _ _,QQ _ _ _ _,by simp[Un,hC],λp hp=>?_,λp hp b hb=>?_,Dj.nil' _,Dj.nil' _,Dj.nil' _⟩
  ·exact(((kk.ext hV).ext hW).step gr (by simp;omega)).own (n:=1) (sz:=1) O (by omega) (by omega)
  ·simp only[List.mem_singleton]at hp;subst hp;exact Za (Qs go hw) (by omega)
  simp only[List.mem_singleton]at hp;subst hp;have:=pw b hb;refine⟨by omega,?_,by simp[ob,Zd],by simp[ob,Zd]⟩;simp[ob];omega
 have p0:V9 ps.length (mput [] (Ky (List.replicate ps.length 0)) (.int .i64 0)) (Un aa).tup:=by
  have kc:V9 ps.length [] []:=λu _ _=>O;have:=kc.add (u:=List.replicate ps.length 0) (by simp) (λx hx=>by have:=Nl hx;omega);simpa[Un,hC]using this
 have p4:V8 aa (Un aa):=by
  refine⟨λt ht=>?_,by simp[Un]⟩;simp only[Un,List.mem_singleton]at ht;subst ht;refine⟨by simp,λi h1 h2=>?_⟩;have h3:=(hB aa[i] (Lh h2)).st0;have h4:aa[i].st≠0:=λe=>hz (hU.2 ⟨aa[i],Lh h2,e⟩);simp only[List.getElem_replicate];omega
 generalize hT:jA aa 4096 0 (Un aa)=T;have p5:∀s,T=some s→sync aa=some (⟨evs aa,s.tup.length,s.mk',s.ed⟩,s.tup):=λs hs=>by
  unfold sync;rw[if_neg (λe=>hz (hU.2 e)),hT,hs];rfl
 have p6:T=none→sync aa=none:=λhs=>by unfold sync;rw[if_neg (λe=>hz (hU.2 e)),hT,hs];rfl
 refine Qg<|Qc<|Qe ?_;have gu:b6∉[H,he,U]:=by simp;omega
 refine Qh<|Qz (α:=Nat×Sy×List (ByteArray×Value)×List TV×Value×Value×Value) [(3,4),(10,10),(12,16),(42,111)] (λz=>[(3,z.2.2.2.2.1),(10,.int .i64 z.1)])
  (λz w'=>yo w1.heap.size H he U ve wS z.2.1 z.2.2.1 z.2.2.2.1 z.2.2.2.2.1 z.2.2.2.2.2.1 z.2.2.2.2.2.2 w'∧V8 aa z.2.1∧V9 ps.length z.2.2.1 z.2.1.tup∧z.1≤z.2.1.tup.length∧z.2.1.mk'.length≤z.1∧z.2.1.ed.length≤z.1*1000∧jA aa (4096 - z.1) z.1 z.2.1=T)
  (λz=>4096 - z.1) (by rfl) (0,Un aa,_,_,_,Zd,Zd) ⟨O,O,Z⟩ ⟨pz,p4,p0,Lk _,Lk _,Lk _,hT⟩ ?_
 rintro⟨i,s,m,qs,vt,vk,vd⟩ g hG ⟨G,hY,ko,hi,p7,kp,gv⟩;simp only[]at G hY ko hi p7 kp gv;have hle:=hY.le;have p8:qs.length=s.tup.length:=by rw[←G.q];simp
 have kq:∀p∈qs,Vt aa p.2:=λp hp=>hY.v p.2 (by rw[←G.q];exact LK hp);have kr:∀p∈qs,p.2.length≤12:=λp hp=>by have:=(kq p hp).1;omega
 have gx:=QV (L:=[]) G.t (by omega) (by simp);refine Qg<|Qc<|Qb<|Qb<|x (Qu gx O)<|x (QA O O)<|xe<|QD rfl (λp9=>?_) (λp9=>?_)
 ·have qc:T=some s:=by rw[←gv,QeB (by omega)]
  refine Qy<|Qc<|Qb<|x (Qu gx O)<|x (Qa O)<|xl O<|QC G.A O O (by simp) rfl λw15 qf kt=>xe ?_;refine Qc ?_;have ql:=Qt.ints (L:=[]) G.k (by omega) (by simp);have qo:=ZY.eds (L:=[]) G.e (by omega) (by simp);refine x (Qo kt O O)<|Qb<|xl O<|Qm (us:=[ve,.int .i64 qs.length,vk,vd]) kt O O O O ⟨hQ.one,O,ql.one,qo.one,Z⟩ λgy qr q0=>x Qf<|Qe ?_
  have h5:Step [H] hG gy:=qf.trans' qr;have q4:Step [] w gy:=(hX.then G.st (λb hb=>.inr (by simp at hb;omega))).then1 h5 hA;refine Qk ⟨[.agg #[ve,.int .i64 qs.length,vk,vd],vt,.int .i64 0],⟨⟨_,O,Qv O (q0.at (L:=[]) (by simp)).cells⟩,rfl,rfl,Z⟩,q4,_,vt,0,rfl,?_⟩;unfold Yd;rw[if_neg hv,p5 s qc];have e1:(qs.length:Int)=s.tup.length:=by rw[p8]
  have k0:Qt 3 w2.heap.size gy ve (evs aa):=Ql (Ql pt G.st (λb hb=>by have:=(Qq hl b hb).1;have:=pu b hb;simp;omega)) h5 (λb hb=>by have:=(Qq hl b hb).1;simp;omega);have k1:=Ql G.k h5 (λb hb=>by have:=(Qq G.k b hb).1;simp;omega);have k2:=Ql G.e h5 (λb hb=>by have:=(Qq G.e b hb).1;simp;omega);have k3:=Ql G.t h5 (λb hb=>by have:=(Qq G.t b hb).1;simp;omega)
  refine⟨O,⟨ve,vk,vd,by rw[e1],λL' hk=>⟨Qt.ints k0 (by show(evs aa).length≤_;omega) (λb hb=>by have:=hk b hb;omega),Qt.ints k1 (by show s.mk'.length≤_;omega) (λb hb=>by have:=hk b hb;omega),ZY.eds k2 (by show s.ed.length≤_;omega) (λb hb=>by have:=hk b hb;omega)⟩⟩,qs,G.q,λL' hk=>⟨?_,λp hp=>?_⟩⟩
  ·exact QV k3 (by omega) (λb hb q5=>by have:=(Qq G.t b hb).1;have:=hk b q5;omega)
  exact Qt.ints (Ql (G.el p hp) h5 (λb hb=>by have:=(Qq (G.el p hp) b hb).1;simp;omega)) (by have:=kr p hp;omega) (λb hb=>by have:=hk b hb;omega)
 have q9:i<s.tup.length:=by omega
 have V:i<qs.length:=by omega
 have ku:=Qly G.q V;have h6:=kq (qs[i]'V) (Lh V);obtain⟨t,gz⟩:∃t,(qs[i]'V).2=t:=⟨_,O⟩;rw[gz]at ku h6;refine Qi ?_;have j1:(KK aa i t (evs aa) (ZC aa i t s)).bind (jA aa (4096 - (i+1)) (i+1))=T:=by
  rw[←gv];obtain⟨f,hf⟩:∃f,4096 - i=f+1:=⟨4096 - i - 1,by omega⟩;rw[hf,jA,if_pos q9,ku,show 4096 - (i+1)=f by omega]
 have j2:=gs.st G.st;have j3:Ke [] hG.heap vl ve vs ps ms:=j2.up (λ_ hb=>by cases hb);have j4:=gt.step G.st gu;have za:QI [] hG.heap (qs[i]'V).1 t:=by rw[←gz];exact Qt.ints (G.el (qs[i]'V) (Lh V)) (by have:=kr (qs[i]'V) (Lh V);omega) (by simp)
 refine Qg<|Qh<|QZ (α:=Value) [(48,59)] (λz=>[]) (λz w'=>yo w1.heap.size H he U ve wS (ZC aa i t s) m qs vt z vd w') (by rfl) ?_ ?_
 ·refine Qg<|QU (Step [] hG) [(0,true),(1,true),(2,true),(3,true),(4,true),(5,false)] mixed (by rfl) (by kernel_rfl) (Step.drew _ _) ?_;refine pq (λ_ hc=>Qo (j4.ext hc) O O)<|p (λ_=>Qn)<|p (λ_=>Qn)<|pig O yx gx O O V λa51 zb =>
   pq (λ_ hc=>Qw (zb.ext hc) O)<|pk<|xf<|(QdM (j3.ext (Step.drew _ _)) (za.ext (Step.drew _ _)) (by rw[h6.1,hC]) (λp hp=>(hP p hp).mri) hn).mono ?_
  rintro r17 w17 ⟨rfl,zv⟩;have kv:=(Step.drew [] hG).trans zv;refine⟨kv,?_⟩;refine pe ?_;have g0:=G.ext kv;refine QX O (λhH=>?_) (λhH=>?_)
  rotate_left
  ·refine Qi<|⟨vk,Z,?_⟩;rw[J]at hH;unfold ZC;rw[if_neg (by rw[hH];simp)];exact g0
  refine Qx<|x (Qa O)<|x (Qd g0.A O O)<|Qb<|xl O<|QJ (us:=[[.int .i64 i]]) O O (by decide) (by simp) ⟨rfl,rfl,Z⟩ λb57 w18 z0 hb57 z2=>?_;have hJ:=g0.ext z0;refine xl O<|Q5 (news:=[.int .i64 i]) (L:=[]) hJ.k O O O (z2.at (by simp)) (by simp[Value.oneCell']) (by omega) hJ.st.size λkw z3 z4 kx z5=>?_;have kz:Qt 3 wS.heap.size z3 kw (s.mk'++[(i:Int)]):=Qt.snoc z4
  refine x (Qa O)<|xl O<|QC (hJ.A.step kx (QW hJ.k (by omega))) O O (by simp) (Qt.ints (L:=[]) kz (by simp;omega) (by simp)).one λw20 z9 hB20=>xe ?_;refine⟨kw,Z,?_⟩;rw[J]at hH;unfold ZC;rw[if_pos hH];exact hJ.setK hF kx kz z5 z9 hB20
 rintro hZ g3 w21 k4;have hsk2:V8 aa (ZC aa i t s):=zw hY;have htup2:(ZC aa i t s).tup=s.tup:=by unfold ZC;split <;> rfl
 have hed2:(ZC aa i t s).ed=s.ed:=by unfold ZC;split <;> rfl
 have hmk2:(ZC aa i t s).mk'.length≤i+1:=by
  unfold ZC;split
  ·simp only[List.length_append,List.length_singleton];omega
  omega
 have k5:QI [H,he,U] wS.heap ve (evs aa):=by have:=gs.ev;rw[J]at this;exact this
 refine Qc<|x (Qa O)<|x (Qd (gt.step k4.st gu) O O)<|x (Qu k5 O)<|Qb<|xe<|Qh<|Qz (α:=Nat×Sy×List (ByteArray×Value)×List TV×Value×Value) [(3,4),(12,16),(63,111)] (λz=>[(3,z.2.2.2.2.1),(63,.int .i64 z.1)])
  (λz w'=>yo w1.heap.size H he U ve wS z.2.1 z.2.2.1 z.2.2.2.1 z.2.2.2.2.1 hZ z.2.2.2.2.2 w'∧V8 aa z.2.1∧V9 ps.length z.2.2.1 z.2.1.tup∧z.1≤(evs aa).length∧z.2.1.mk'=(ZC aa i t s).mk'∧z.2.1.ed.length≤i*1000+z.1 ∧
   (∃h:i<z.2.2.2.1.length,(z.2.2.2.1[i]'h).2=t)∧(KK aa i t ((evs aa).drop z.1) z.2.1).bind (jA aa (4096 - (i+1)) (i+1))=T)
  (λz=>(evs aa).length - z.1) (by rfl) (0,ZC aa i t s,m,qs,vt,vd) ⟨O,O,Z⟩
  ⟨k4,hsk2,by rw[htup2];exact ko,Lk _,O,by rw[hed2];simpa using kp,⟨V,gz⟩,j1⟩ ?_
 rintro⟨j,E,m4,hg,ga,gb⟩ g4 h7 ⟨I,hK,hq,hj,gc,k6,⟨hm,h8⟩,Y⟩;simp only[]at I hK hq hj gc k6 Y hm h8;have k7:hg.length=E.tup.length:=by rw[←I.q];simp
 have hle4:=hK.le;refine Qc<|x (QA O O)<|xe<|Qg<|QD O (λh64=>?_) (λh64=>?_)
 ·rw[Ls (by omega),KK]at Y;refine Qy<|Qx<|Qb<|QN O O<|Qe<|⟨(i+1,E,m4,hg,ga,hZ,gb),by simp only[];omega,⟨O,O,Z⟩,I,hK,hq,by simp only[];omega,by simp only[];rw[gc];exact hmk2,by simp only[];omega,Y⟩
 have ge:j<(evs aa).length:=by omega
 rw[Q6 ge,KK]at Y;obtain⟨v,k8⟩:∃v,(evs aa)[j]=v:=⟨_,O⟩;rw[k8]at Y;refine Qi<|Qg<|Qh<|Qc ?_;have hveI4:=k5.st I.st;refine xii hveI4 O O ge λa65 k9=>?_;rw[k8]at k9;refine x (Qw k9 O)<|Qe ?_;have hM22:=(gs.st I.st).up (L':=[]) (λ_ hb=>by cases hb);have hB622:=gt.step I.st gu;have htA4:=QV (L:=[]) I.t (by omega) (by simp)
 have htI4:QI [] h7.heap (hg[i]'hm).1 t:=by rw[←h8];exact Qt.ints (I.el (hg[i]'hm) (Lh hm)) (by rw[h8,h6.1];omega) (by simp)
 refine Qg<|QU (Step [] h7) [(0,true),(1,true),(2,true),(3,true),(4,true),(5,true),(6,false),(7,true),(8,true),(9,true),(10,true),(11,true)] mixed (by rfl) (by kernel_rfl) (Step.drew _ _) ?_;refine pq (λ_ hc=>Qo (hB622.ext hc) O O)<|p (λ_=>Qn)<|p (λ_=>Qn)<|pig O yx htA4 O O hm λa71 h71 =>
  pq (λ_ hc=>Qw (h71.ext hc) O)<|p (λ_=>Qn)<|pk<|xf<|(Qfg (hM22.ext (Step.drew _ _)) (htI4.ext (Step.drew _ _)) (by rw[h6.1,hC]) (λp hp=>(hP p hp).ali) (λp hp=>(hP p hp).edi) hn _).mono ?_
 rintro r23 w23 ⟨hs23,hL⟩;rw[J]at hL;have ma:=(Step.drew [] h7).trans hs23;refine⟨ma,?_⟩;have hM:=I.ext ma;have hz22:=I.st.size;rcases QmL (Zt v aa t)with hr|⟨u,hr⟩
 ·rw[hr]at hL;subst hL;rw[QeE hr]at Y;refine p (λ_=>Qn)<|p (λ_=>Qj O O)<|p (λ_=>Qj O O)<|p (λ_=>Qf)<|p (λ_=>Qf)<|pe ?_;refine Qg<|Qc<|Qb<|x (Zp O)<|xe<|qR O ?_;refine Qy<|Qx<|QN O O<|Qb<|xe ?_;exact⟨(j+1,E,m4,hg,ga,gb),by simp only[];omega,⟨O,O,Z⟩,hM,hK,hq,ge,gc,by simp only[];omega,⟨hm,h8⟩,Y⟩
 rw[hr]at hL;obtain⟨vx,rfl,g1⟩:=hL;have mc:=X1 hB h6 hr;have mf:u.length=ps.length:=by rw[mc.1,hC]
 have g2:=mc.bd m7;have g5:∀x∈u,0≤x:=λx hx=>(g2 x hx).1;refine p (λ_=>Qn)<|p (λ_=>Qj O O)<|p (λ_=>Qj O O)<|p (λ_=>Qf)<|p (λ_=>Qf)<|pe ?_;refine Qg<|Qc<|Qb<|x (Zp O)<|xe<|Yf O ?_;refine Qi ?_;have gg:=Qt.ints (L:=[]) g1 (by omega) (by simp);have mg:=Qq g1
 refine QZ (α:=Unit) [(15,16),(79,85)] (λz=>[(15,.int .i64 (if u∈E.tup then(E.tup.idxOf u:Int)else 0)),(16,.bool (decide (u∈E.tup)))]) (λz w'=>Step [] w23 w') (by rfl) ?_ ?_
 ·refine Qx<|Qb<|Qb<|xl O<|xf<|(yX gg (gj.ext (hX.then hM.st (λb hb=>.inr (by simp at hb;omega)))) g2 (by omega)).mono ?_;rintro r24 w24 ⟨rfl,gh⟩;by_cases hu:u∈E.tup
  ·refine x (zI (k:=Ky u) ((hM.ext gh).M) O O (by rw[hq u mf g5,if_pos hu]))<|Qb<|x (Qj rfl rfl)<|x (Qj rfl rfl)<|x Qf<|Qe ?_;exact⟨(),⟨congrArg (Value.int .i64) (if_pos hu).symm,congrArg Value.bool (decide_eq_true hu).symm,Z⟩,gh⟩
  refine x (QdE (k:=Ky u) ((hM.ext gh).M) O O (by rw[hq u mf g5,if_neg hu]))<|Qb<|x (Qj rfl rfl)<|x (Qj rfl rfl)<|x Qf<|Qe ?_;exact⟨(),⟨congrArg (Value.int .i64) (if_neg hu).symm,congrArg Value.bool (decide_eq_false hu).symm,Z⟩,gh⟩
 rintro _ g6 w25 g8;have h9:=hM.ext g8;have hx25:=Qs g1 g8;have hxA25:=gg.ext g8;have hadd:∀b∈ob vx,b∉ob ga∧b∉ob hZ∧b∉ob gb:=λb hb=>by
  have h1:=(mg b hb).1;have h1':h7.heap.size≤b:=h1;exact⟨λhb'=>by have:=Q4 I.t b hb';omega,λhb'=>by have:=Q4 I.k b hb';omega,λhb'=>by have:=Q4 I.e b hb';omega⟩
 refine QZ (α:=List (ByteArray×Value)×List TV×Value) [(3,4),(15,15),(86,101)] (λz=>[(3,z.2.2),(15,.int .i64 ((Yh E u).tup.idxOf u:Int))])
  (λz w'=>yo w1.heap.size H he U ve wS (Yh E u) z.1 z.2.1 z.2.2 hZ gb w'∧(u∈E.tup∨E.tup.length≠4096)∧V9 ps.length z.1 (Yh E u).tup∧∃h:i<z.2.1.length,(z.2.1[i]'h).2=t) (by rfl) ?_ ?_
 ·refine Qc<|Qb<|x (Zp O)<|xe<|QX O (λg9=>?_) (λg9=>?_)
  rotate_left
  ·have hu:u∈E.tup:=by simpa using g9
   refine Qi ?_;have e1:Yh E u=E:=by unfold Yh;rw[if_pos hu]
   have e2:(if u∈E.tup then(E.tup.idxOf u:Int)else 0)=((Yh E u).tup.idxOf u:Int):=by rw[e1,if_pos hu]
   refine⟨(m4,hg,ga),⟨O,congrArg (Value.int .i64) e2,Z⟩,?_,.inl hu,?_,hm,h8⟩
   ·rw[e1];exact h9
   rw[e1];exact hq
  have hu:u∉E.tup:=by simpa using g9
  have mh:=QV (L:=[]) h9.t (by omega) (by simp);refine Qg<|Qc<|Qb<|x (Qu mh O)<|x (Zc O O)<|xe<|Q2 O (λh90=>?_) (λh90=>?_)
  ·refine Qc<|x (QK Z)<|xl O<|Qm (us:=[nS,.int .i64 0,nS,nS]) h9.A O O O O ⟨O,O,O,O,Z⟩ λw26 gi hB26=>x Qf<|Qe<|Qk ⟨[zA,Zd,.int .i64 3],⟨⟨_,O,Qv O (hB26.at (L:=[]) (by simp)).cells⟩,rfl,rfl,Z⟩,(hX.then h9.st (λb hb=>.inr (by simp at hb;omega))).then1 gi hA,zA,Zd,3,O,?_⟩;unfold Yd;rw[QeG hr hu (by omega)]at Y;rw[if_neg hv,p6 Y.symm];exact⟨rfl,O,O⟩
  have hl4:E.tup.length≠4096:=by omega
  refine Qi<|Qc<|Qb<|x (Qu mh O)<|Qe<|Qc<|Qb<|Qb<|xl O<|xf<|(yX hxA25 (gj.ext (hX.then h9.st (λb hb=>.inr (by simp at hb;omega)))) g2 (by omega)).mono ?_;rintro r26 w26 ⟨rfl,gi⟩;have mj:=h9.ext gi;refine Qb<|xl O<|Yw (k:=Ky u) mj.M O O λw27 mo hm27=>xe ?_;have hI8:=mj.setM hF mo hm27
  have hx27:=Ql (Qs hx25 gi) mo (λb hb=>by have:=(mg b hb).1;have h1':h7.heap.size≤b:=this;simp;omega);refine Qx<|Qb<|Qb<|xl O<|QJ (us:=[[vx]]) O O (by decide) (by simp) ⟨gg.cells,rfl,Z⟩ λb100 w28 mq hb100 hB100=>?_;have ka:=hI8.ext mq
  refine xl O<|Q5 (news:=[vx]) (L:=[]) ka.t O O O (hB100.at (by simp)) (λy hy=>by simp only[List.mem_singleton]at hy;subst hy;exact gg.one) (by omega) (by have:=ka.st.size;have:=hF.nS;omega) λmt w29 ho29 hs29 hn29=>Qe ?_;have hk29:QbV 39 w1.heap.size w29 mt (hg++[(vx,u)]):=QbV.snoc ho29
  have hIA:=ka.setT hF (u:=u) (Za (Qs hx27 mq) (by show wS.heap.size≤h7.heap.size;omega)) hadd hs29 hk29 hn29;have e1:Yh E u=⟨E.tup++[u],E.mk',E.ed⟩:=by unfold Yh;rw[if_neg hu]
  have e2:(hg.length:Int)=((Yh E u).tup.idxOf u:Int):=by
   rw[e1];simp only[];rw[Mr,if_neg hu,←k7];simp
  refine⟨(mput m4 (Ky u) (.int .i64 (hg.length:Int)),hg++[(vx,u)],mt),⟨O,congrArg (Value.int .i64) e2,Z⟩,?_,.inr hl4,?_,by simp;omega,?_⟩
  ·rw[e1];exact hIA
  ·rw[e1];simp only[];rw[k7];exact hq.add hu g5
  simp only[];rw[L5 hm];exact h8
 rintro⟨m5,qs5,vt5⟩ g7 w30 ⟨kb,hlim,mu,mv,mw⟩;simp only[]at kb mu mv mw;have hed5:(Yh E u).ed.length≤i*1000+j:=by rw[QeI];exact k6
 have mx:=QhD (aa:=aa) (i:=i) (s:=E) hr hlim;have hsk5:=QeF hB hK h6 mx;rw[mx]at Y;refine Qx<|x (Qa O)<|x (Qd kb.A O O)<|Qb<|Qb<|Qb<|x (QK ⟨O,O,O,Z⟩)<|xl O<|QJ (us:=[QB ((i:Int),v,((Yh E u).tup.idxOf u:Int))]) O O (by decide) (by exact(by decide:1*3≤1000000)) ⟨O,O,Z⟩ λb108 w31 hs31 hb108 hB108=>?_;have hN:=kb.ext hs31
 refine xl O<|Q5 (news:=QB ((i:Int),v,((Yh E u).tup.idxOf u:Int))) (L:=[]) hN.e O O O (hB108.at (by simp)) (λy hy=>by simp only[QB,List.mem_cons,List.not_mem_nil,or_false]at hy;rcases hy with rfl|rfl|rfl <;> rfl) (by omega) hN.st.size λmy w32 ho32 mz hn32=>?_
 have m0:ZY 129 wS.heap.size w32 my ((Yh E u).ed++[((i:Int),v,((Yh E u).tup.idxOf u:Int))]):=ZY.snoc ho32;refine x (Qa O)<|xl O<|QC (hN.A.step mz (QW hN.e (by omega))) O O (by simp) (ZY.eds (L:=[]) m0 (by simp;omega) (by simp)).one λw33 hs33 hB33=>xe ?_;have hI12:=hN.setE hF mz m0 hn32 hs33 hB33;refine Qx<|QN O O<|Qb<|xe ?_
 refine⟨(j+1,_,m5,qs5,vt5,my),by simp only[];omega,⟨O,O,Z⟩,hI12,hsk5,mu,ge,?_,?_,⟨mv,mw⟩,Y⟩
 ·simp only[];rw[QeH];exact gc
 simp only[List.length_append,List.length_singleton];omega
structure K6 where
 en:LI
 dis:LI
 mk':Bool
 ps:Bool
def QkU:K6:=⟨[],[],false,false⟩
def QjZ (l:LI)(v:Int):LI:=mrg (· || ·) l [v]
def QmS (p s:QM)(x y:Int)(c:K6)(v:Int):K6 :=
 match eget p.ed x v with
 | none=>c
 | some _=>match eget s.ed y v with
  | some _=>⟨QjZ c.en v,c.dis,c.mk',c.ps⟩
  | none=>⟨c.en,QjZ c.dis v,c.mk',c.ps⟩
def QmT (p s:QM)(x y:Int)(c:K6):K6:=⟨c.en,c.dis,decide (y∈s.mr),c.ps || decide (x∈p.mr)⟩
def QmR (p s:QM)(x y:Int)(c:K6):K6:=s.al.foldl (QmS p s x y) (QmT p s x y c)
def px (q:LI):Int:=q.getD 0 0
def py (q:LI):Int:=q.getD 1 0
def QmQ (p s:QM)(l:List K6)(q:LI):List K6:=l.set (py q).toNat (QmR p s (px q) (py q) (l.getD (py q).toNat QkU))
def ctls (p s:QM)(pairs:List (LI)):List K6:=pairs.foldl (QmQ p s) (List.replicate s.st.toNat QkU)
def occs (n:Nat)(pairs:List (LI)):List Bool:=pairs.foldl (λo q=>o.set (py q).toNat true) (List.replicate n false)
def meets (a b:LI):LI:=mrg (· && ·) a b
def QlZ (a b:K6):Bool:=decide ((meets a.en b.dis).length+(meets b.en a.dis).length=0) && (!a.ps || !b.ps || a.mk' == b.mk')
def cget (l:LI)(i:Nat):Int:=l.getD i 0
def QfB (cl:LI)(x y:Nat):LI:=cl.map λc=>if c=cget cl y then cget cl x else c
def lget (l:List K6)(i:Nat):K6:=l.getD i QkU
def to0 (s:QM)(x:Nat)(v:Int):Int:=match eget s.ed x v with|some u=>u|none=>0
def clE (s:QM)(x y:Nat)(z:LI×Bool)(v:Int):LI×Bool :=
 if cget z.1 (to0 s x v).toNat≠cget z.1 (to0 s y v).toNat then(QfB z.1 (to0 s x v).toNat (to0 s y v).toNat,true)else z
def clY (s:QM)(l:List K6)(x:Nat)(z:LI×Bool)(y:Nat):LI×Bool :=
 if cget z.1 x<0∨cget z.1 x≠cget z.1 y then z else(meets (lget l x).en (lget l y).en).foldl (clE s x y) z
def clX (s:QM)(l:List K6)(n:Nat)(z:LI×Bool)(x:Nat):LI×Bool:=(List.range' (x+1) (n - (x+1))).foldl (clY s l x) z
def pass (s:QM)(l:List K6)(cl:LI):LI×Bool:=(List.range' 0 cl.length).foldl (clX s l cl.length) (cl,false)
def QgD (s:QM)(l:List K6):Nat→LI→LI
 | 0,cl=>cl
 | f+1,cl=>if(pass s l cl).2=true then QgD s l f (pass s l cl).1 else(pass s l cl).1
def Qi2 (l:List K6)(cl:LI):Bool :=
 (List.range' 0 cl.length).all λx=>(List.range' 0 x).all λy=>!(decide (0≤cget cl x∧cget cl x=cget cl y) && !QlZ (lget l x) (lget l y))
def Qmz (s:QM)(l:List K6)(cl:LI)(x y:Nat):LI :=
 if cget cl x<0∨cget cl y<0∨cget cl x=cget cl y then cl else
  let d:=QgD s l (cl.length*cl.length+1) (QfB cl x y)
  if Qi2 l d=true then d else cl
def Qmy (s:QM)(l:List K6)(n:Nat)(cl:LI)(x:Nat):LI:=(List.range' (x+1) (n - (x+1))).foldl (λc y=>Qmz s l c x y) cl
def QmW (o:List Bool):LI:=(List.range' 0 o.length).map λi=>if o.getD i false=true then(i:Int)else -1
def QmV (s:QM)(l:List K6)(cl:LI):LI:=(List.range' 0 cl.length).foldl (Qmy s l cl.length) cl
def QmN (z:LI×LI)(c:Int):LI×LI :=
 if c∈z.1 then(z.1,z.2++[(z.1.idxOf c:Int) - 1])else(z.1++[c],z.2++[(z.1.length:Int) - 1])
def nums (cl:LI):LI:=(cl.foldl QmN ([-1],[])).2
def Ql2 (p s:QM)(pairs:List (LI)):LI:=nums (QmV s (ctls p s pairs) (QmW (occs s.st.toNat pairs)))
theorem J5 {α:Type}(g:α→LV)(sz:Nat)(E:∀x,(g x).length=sz):∀(l:List α) (i j:Nat) (h:i<l.length) (y:α) (u:Value),j<sz→g y=(g l[i]).set j u →
  (l.flatMap g).set (i*sz+j) u=(l.set i y).flatMap g
 | x::l,0,j,h,y,u,hj,hy=>by
  simp only[List.getElem_cons_zero]at hy;simp only[Nat.zero_mul,Nat.zero_add,List.flatMap_cons,List.set_cons_zero];rw[List.set_append_left _ _ (by rw[E];exact hj),hy]
 | x::l,i+1,j,h,y,u,hj,hy=>by
  simp only[List.getElem_cons_succ]at hy;simp only[List.flatMap_cons,List.set_cons_succ];rw[List.set_append_right _ _ (by rw[E,Mh];omega),E,show(i+1)*sz+j - sz=i*sz+j by rw[Mh];omega,J5 g sz E l i j (by simpa using h) y u hj hy]
end Go.Proofs.YtjcgijbhaemldaaGreatDoor
namespace Go.Lg
section
variable {P:Program}{n:Nat}{f:Fr}{w:World}{all:List Oper}{C:World→Prop}{K:Fr→World→Prop}
def qm (all:Array Oper)(i j:Nat)(p1 p2:List (Nat×Bool)):List (Nat×Bool)→Array Bool→Bool
 | [],ls=>Region.ready .any all ls == [i,j] && YC all p1 (ls.setIfInBounds i true) && YC all p2 (ls.setIfInBounds j true)
 | (k,q)::pl,ls=>q && (Region.ready .any all ls).contains k && Region.free .any all ls k && qm all i j p1 p2 pl (ls.setIfInBounds k true)
def Qf5 (all:List Oper)(pl:List (Nat×Bool))(i j:Nat)(p1 p2:List (Nat×Bool)):Bool :=
 Region.noSelect all.toArray && pl.length+1+p1.length == all.length && p1.length == p2.length && qm all.toArray i j p1 p2 pl (Array.replicate all.length false)
def Fk (P:Program)(all:List Oper)(C:World→Prop)(K:Fr→World→Prop)(i j:Nat)(p1 p2:List (Nat×Bool))(f:Fr)(w:World):Prop :=
 (Z2 all f (QO all i)=true∧XO P (QO all i) f w λE w'=>C w'∧XP P all C K p1 E w') ∧
 (Z2 all f (QO all j)=true∧XO P (QO all j) f w λE w'=>C w'∧XP P all C K p2 E w')
theorem KU {i j:Nat}{p1 p2:List (Nat×Bool)}(hl:p1.length=p2.length)(hs:Region.noSelect all.toArray=true):∀(pl:List (Nat×Bool)) (ls:Array Bool) (f:Fr) (w:World),ls.size=all.length→C w→qm all.toArray i j p1 p2 pl ls=true →
  XP P all C (Fk P all C K i j p1 p2) pl f w→XA P all C K (pl.length+(1+p1.length)) ls f w
 | [],ls,f,w,T,hC,hp,h=>by
  simp only[qm,Bool.and_eq_true,beq_iff_eq]at hp;obtain⟨⟨G,h1⟩,h2⟩:=hp;simp only[XP]at h;rw[List.length_nil,LQ,ME];refine YS (λh0=>(by rw[h0]at G;cases G)) ?_;rw[G];intro k hk o E;have H:(ls.setIfInBounds k true).size=all.length:=by simpa using T
  simp only[List.mem_cons,List.not_mem_nil,or_false]at hk;rcases hk with rfl|rfl
  ·have:=h.1;rw[Zg E]at this;rw[this.1,cond_true];exact this.2.mono λv w' hx=>⟨.inr (.inr hx.1),Zx hs p1 _ _ _ H (.inl hx.1) h1 hx.2⟩
  have:=h.2;rw[Zg E]at this;rw[this.1,cond_true,hl];exact this.2.mono λv w' hx=>⟨.inr (.inr hx.1),Zx hs p2 _ _ _ H (.inl hx.1) h2 hx.2⟩
 | (I,q)::pl,ls,f,w,T,hC,hp,h=>by
  simp only[qm,Bool.and_eq_true]at hp;obtain⟨⟨⟨rfl,G⟩,hf⟩,V⟩:=hp;simp only[XP]at h;have U:I∈Region.ready .any all.toArray ls:=by simpa using G
  have e:(List.length ((I,true)::pl))+(1+p1.length)=(pl.length+(1+p1.length))+1:=by simp;omega
  rw[e];cases E:all[I]? with
  | none =>
   exfalso;obtain⟨_,o,hb,_⟩:=mem_ready.1 U;simp[E]at hb
  | some o =>
   rw[Zg E]at h;have Y:∀(j:Nat) (o:Oper) cs b,all[j]?=some o→o.op≠.select cs b:=λj o cs b hj=>Region.noSelect_spec hs j o cs b (by simpa using hj);have ha:=λj oj hj=>Region.free_spec (ops:=all.toArray) (md:=.any) (i:=I) (oi:=o) (listed:=ls) (by simpa using E) hf j oj (by simpa using hj);have H:(ls.setIfInBounds I true).size=all.length:=by simpa using T
   cases J:Z2 all f o with
   | false =>
    rw[J]at h;exact Xc (v:=undef) (D:=λw=>q8 o=true→C w) E (λ_ h=>h) Y _ ls f w (λ_=>hC) ha U (.inr ⟨J,O⟩) (KU hl hs pl _ _ _ H hC V h)
   | true =>
    rw[J]at h;simp only[cond_true]at h;obtain⟨v,hv,hx⟩:=h;exact Xc (v:=v) (D:=λw=>q8 o=true→C w) E (λ_ h=>h) Y _ ls f w (λ_=>hC) ha U (.inl ⟨J,hv⟩) (KU hl hs pl _ _ _ H hC V hx)
theorem Qjn {Q:Exit→Fr→World→Prop}{id:Nat}(C:World→Prop)(pl:List (Nat×Bool))(i j:Nat)(p1 p2:List (Nat×Bool))(hm:P.follows .mixedOrders=true)(E:Xa n all=true)(hp:Qf5 all pl i j p1 p2=true)
  (hC:C { w with drawn:=w.drawn+1 }) (h:XP P all C (Fk P all C (λf w=>Q .normal f w) i j p1 p2) pl f { w with drawn:=w.drawn+1 }):W P n (.region id all.toArray true) Q f w:=by
 simp only[Qf5,Bool.and_eq_true,beq_iff_eq]at hp;obtain⟨⟨⟨hs,hl⟩,G⟩,hp⟩:=hp;refine Y2 C hm E ?_;have h1:=KU G hs pl _ _ _ (by simp) hC hp h;rw[←Nat.add_assoc,hl]at h1;exact h1
end
end Go.Lg
namespace Go.Proofs.YtjcgijbhaemldaaGreatDoor
open Go.Lg
end Go.Proofs.YtjcgijbhaemldaaGreatDoor
namespace Go.Lg
open Go.Proofs.YtjcgijbhaemldaaGreatDoor
theorem Zh {l:LI}{i:Nat}(h:i<l.length):l[i]=cget l i:=by simp[cget,List.getD,h]
section
variable {P:Program}{ops l:List Oper}{K:Fr→World→Prop}{f:Fr}{w:World}{d:Option Nat}{ty:Nat}{ps:String}{af:Array Edge}{gd:Option (Nat×Bool)}{C:World→Prop}{pl:List (Nat×Bool)}{i0:Nat}
theorem xic {x y:Operand}{t e bys:Nat}{z:Value}[Sl P t e 1 bys z]{L:LN}{li:LI}{v:Value}{k:IntKind}{i:Nat}
  (h:QI L w.heap v li) (E:ev f x=v) (hy:ev f y=.int k i) (hi:i<li.length)
  (G:∀a,At L w.heap a [.int .i64 (cget li i)]→XL P ops K l (QY f d (.pointer (some a))) w) (H:Z2 ops f ⟨d,.indexAddr t x y,ty,ps,af,gd⟩=true:=by rfl):
  XL P ops K (⟨d,.indexAddr t x y,ty,ps,af,gd⟩::l) f w :=
 xii h E hy hi (λa ha=>G a (by rw[←Zh hi];exact ha)) H
theorem pic {x y:Operand}{t e bys:Nat}{z:Value}[Sl P t e 1 bys z]{L:LN}{li:LI}{v:Value}{H:Array Obj}{k:IntKind}{i:Nat}
  (E:QO ops i0=⟨d,.indexAddr t x y,ty,ps,af,gd⟩) (h:QI L H v li) (G:ev f x=v) (hy:ev f y=.int k i) (hi:i<li.length)
  (I:∀a,At L H a [.int .i64 (cget li i)]→XP P ops C K pl (QY f d (.pointer (some a))) w) (J:Z2 ops f (QO ops i0)=true:=by rfl):XP P ops C K ((i0,true)::pl) f w :=
 pii E h G hy hi (λa ha=>I a (by rw[←Zh hi];exact ha)) J
theorem zL {t:Nat}[h1:Xj P t]{x y:Operand}{base e g cap i:Nat}{li:LI}{v:Value}{u:Int}(h:Qt e base w v li)(E:v=.slice (some ⟨g,0,none⟩) li.length cap)(hx:ev f x=.pointer (some ⟨g,0+i*1,none⟩))(hy:ev f y=.int .i64 u)(hi:i<li.length)
  (G:∀w',Step (ob v) w w'→Qt e base w' v (li.set i u)→K (QY f d undef) w'):XO P ⟨d,.store t x y,ty,ps,af,gd⟩ f w K:=by
 have h':=h;unfold Qt at h';rw[E]at h';refine jY h' hx hy hi O λw' hs H=>G w' (by rw[E];exact hs) ?_;unfold Qt;rw[ML,Nw,E];exact H
end
theorem Qe0 {a n:Nat}(h:a<n):List.range' a (n - a)=a::List.range' (a+1) (n - (a+1)):=by
 rw[show n - a=(n - (a+1))+1 by omega,Nc]
theorem QhV {a n:Nat}(h:n≤a):List.range' a (n - a)=[]:=by rw[show n - a=0 by omega];rfl
end Go.Lg
namespace Go.Proofs.YtjcgijbhaemldaaGreatDoor
open Go.Lg
end Go.Proofs.YtjcgijbhaemldaaGreatDoor
namespace Go.Lg
section
variable {P:Program}{f:Fr}{w:World}{d:Option Nat}{ty:Nat}{ps:String}{af:Array Edge}{gd:Option (Nat×Bool)}{κ:Type}[DecidableEq κ]
end
end Go.Lg
namespace Go.Proofs.YtjcgijbhaemldaaGreatDoor
open Go.Lg
theorem Qce {aa:List QM}{i:Nat}{t:LI}(G:∀a∈aa,Q3 a)(ht:Vt aa t):∀(vs:LI) (s E:Sy),V8 aa s→KK aa i t vs s=some E→V8 aa E
 | [],s,E,h,e=>by cases e;exact h
 | v::vs,s,E,h,e=>by
  rw[KK]at e;obtain⟨H,h1,h2⟩:=Mk.1 e;exact Qce G ht vs H E (QeF G h ht h1) h2
theorem Qez {aa:List QM}(G:∀a∈aa,Q3 a):∀(f i:Nat) (s E:Sy),V8 aa s→jA aa f i s=some E→V8 aa E
 | 0,i,s,E,h,e=>by cases e;exact h
 | f+1,i,s,E,h,e=>by
  rw[jA]at e;split at e
  ·rename_i hi;obtain⟨H,h1,h2⟩:=Mk.1 e;have I:Vt aa (Ub s i):=h.v _ (by unfold Ub;simp[List.getD,hi]);exact Qez G f _ H E (Qce G I _ _ _ (zw h) h1) h2
  cases e;exact h
theorem Qj2 {aa:List QM}(E:∀a∈aa,Q3 a)(G:¬∃a∈aa,a.st=0):V8 aa (Un aa):=by
 refine⟨λt ht=>?_,by simp[Un]⟩;simp only[Un,List.mem_singleton]at ht;subst ht;refine⟨by simp,λi h1 h2=>?_⟩;have h3:=(E aa[i] (Lh h2)).st0;have h4:aa[i].st≠0:=λe=>G ⟨aa[i],Lh h2,e⟩;simp only[List.getElem_replicate];omega
theorem yy {aa:List QM}(E:∀a∈aa,Q3 a){z:QM×List (LI)}(h:sync aa=some z):(∀t∈z.2,Vt aa t)∧z.2.length≤4096:=by
 unfold sync at h;split at h
 ·cases h;simp
 rename_i G;obtain⟨s,h1,rfl⟩:=MG.1 h;have:=Qez E _ _ _ _ (Qj2 E G) h1;exact⟨this.v,this.le⟩
def opC (p s:QM):Int:=if Y6 p≠0 then Y6 p else if Y6 s≠0 then Y6 s else if mrg (λp q=>p && !q) s.al p.al=[]then 0 else 9
def opE (p s:QM):Int:=if opC p s≠0 then opC p s else match sync [p,s]with|none=>3|some _=>0
def opQ (p s:QM):List (LI):=match sync [p,s]with|none=>[]|some z=>z.2
def QlO (l:LI):Int:=(l.drop 1).foldl max (cget l 0)
theorem Xe {N b:Nat}{w w':World}{v:Value}{a:QM}(h:Xk N w.heap v a)(hb:b<N)(hs:Step [b] w w'):Xk N w'.heap v a:=by
 obtain⟨va,vm,ve,h1,h2⟩:=h;refine⟨va,vm,ve,h1,λL E=>?_⟩;exact((h2 (b::L) (λc hc=>by rcases Lc.1 hc with rfl|hc;exact hb;exact E c hc)).st (hs.mono (by simp))).up (λc hc=>.inl (Ln _ hc))
theorem Qg0 {N b:Nat}{w w':World}{v:Value}{l:List (LI)}(h:QbW N w.heap v l)(hb:b<N)(hs:Step [b] w w'):QbW N w'.heap v l:=by
 obtain⟨ps,h1,h2⟩:=h;refine⟨ps,h1,λL E=>?_⟩;exact((h2 (b::L) (λc hc=>by rcases Lc.1 hc with rfl|hc;exact hb;exact E c hc)).st (hs.mono (by simp))).up (λc hc=>.inl (Ln _ hc))
theorem Yo {N:Nat}{H:Array Obj}{v:Value}{a:QM}(h:Xk N H v a):∃us,v=.agg us.toArray∧us.length=4∧ZF us:=by
 obtain⟨va,vm,ve,h1,h2⟩:=h;have:=h2 [] (by simp);exact⟨[va,.int .i64 a.st,vm,ve],h1,O,this.al.one,O,this.mr.one,this.ed.one,Z⟩
def gget:List ((Int×Int)×Int)→Int×Int→Option Int
 | [],_=>none
 | (k',v)::m,k=>if k'=k then some v else gget m k
def gput:List ((Int×Int)×Int)→Int×Int→Int→List ((Int×Int)×Int)
 | [],k,v=>[(k,v)]
 | (k',v')::m,k,v=>if k'=k then(k',v)::m else(k',v')::gput m k v
def QmE (s:QM)(cls:LI)(x:Nat)(m:List ((Int×Int)×Int))(v:Int):List ((Int×Int)×Int):=gput m (cget cls x,v) (cget cls (to0 s x v).toNat)
def QmB (s:QM)(l:List K6)(cls:LI)(z:LI×List ((Int×Int)×Int))(x:Nat):LI×List ((Int×Int)×Int):=
 if cget cls x<0 then z else(if((lget l x).mk' && (lget l x).ps)=true then QjZ z.1 (cget cls x)else z.1,(lget l x).en.foldl (QmE s cls x) z.2)
def QlD (s:QM)(l:List K6)(cls:LI):LI×List ((Int×Int)×Int):=(List.range' 0 cls.length).foldl (QmB s l cls) ([],[])
def QmD (m:List ((Int×Int)×Int))(c:Nat)(v:Int):Option Ed:=(gget m ((c:Int),v)).map λt=>((c:Int),v,t)
def QmC (m:List ((Int×Int)×Int))(al:LI)(n:Nat):List Ed:=(List.range' 0 n).flatMap λc=>al.filterMap (QmD m c)
def QmF (s:QM)(l:List K6)(cls:LI):QM:=⟨s.al,QlO cls+1,(QlD s l cls).1,QmC (QlD s l cls).2 s.al (QlO cls+1).toNat⟩
def red (p s:QM):QM:=QmF s (ctls p s (opQ p s)) (Ql2 p s (opQ p s))
def rdE (p s:QM):Int:=if opE p s≠0 then opE p s else if opQ p s=[]then 0 else Y6 (red p s)
theorem XQ {l:LI}{i:Nat}(h:i<l.length):cget l i∈l:=by rw[←Zh h];exact Lh h
theorem Zb {α:Type}(a:α){Q:Prop}(h:∀b,a=b→Q):Q:=h a O
theorem exN {a:Int}(E:0≤a){Q:Prop}(h:∀u:Nat,a=u→Q):Q:=h a.toNat (Int.toNat_of_nonneg E).symm
open Go.Proofs.Tryz
theorem Ki {L L':LN}{w:World}{v v':Value}{l l':LI}(h:QI L w.heap v l)(h':QI L' w.heap v' l'):
  QE prog 28 [v,v'] w λr w'=>r=.bool (decide (l=l'))∧Step [] w w':=by
 refine QE.of_W func28 O ntmps28 results28 (by simp) ?_;refine Qc<|Qe<|Qc<|Qb<|Qb<|xl O<|xf<|(Kp h h').mono ?_;rintro G H ⟨rfl,E⟩;refine Qe ?_;exact Qk ⟨[.bool (decide (l=l'))],La,O,E⟩
end Go.Proofs.YtjcgijbhaemldaaGreatDoor
namespace Go.Lg
section
variable {P:Program}{n:Nat}{f:Fr}{w:World}{d:Option Nat}{ty:Nat}{ps:String}{af:Array Edge}{gd:Option (Nat×Bool)}
class Ay (P:Program)(t:Nat)(m e sz:outParam Nat):Prop where
 u:P.underlying t=some (.array m e)
 i:(P.info? e).map (·.size)=some sz
theorem ZD {x y:Operand}{t m e sz:Nat}[h:Ay P t m e sz]{b o:Nat}{k:IntKind}{i:Nat}(hx:ev f x=.pointer (some ⟨b,o,none⟩))(hy:ev f y=.int k i)(h1:i<m):
  (execOp (ev f) ⟨d,.indexAddr t x y,ty,ps,af,gd⟩).run P w=.ok (.value (.pointer (some ⟨b,o+i*sz,none⟩))) w:=by
 have hi:=h.i;cases E:P.info? e with
 | none=>simp[E]at hi
 | some ii =>
  simp[E]at hi;simp[execOp,hx,hy,Instr.indexAt,asIntOf,run_underlying h.u,Instr.sureAddr,sizeOf,typeInfo,E,hi,Yk];intro h2;omega
theorem Qji {a b:Nat}(ha:a<256):inK .u8 ((a &&& b:Nat):Int):=by
 have:a &&& b≤a:=Nat.and_le_left;exact⟨by omega,by omega⟩
theorem UW {t E:Nat}{x y:Operand}{a b:Nat}(hx:ev f x=.int .u8 a)(hy:ev f y=.int .u8 b)(ha:a<256)(hb:b<256):
  (execOp (ev f) ⟨d,.binOp .and t x y E,ty,ps,af,gd⟩).run P w=.ok (.value (.int .u8 ((a &&& b:Nat):Int))) w:=by
 refine YV hx hy ?_;simp only[binOp,Op.intBits,BitVec.ofInt_natCast,ne_eq,not_true_eq_false,if_false,Sem.run_pure];rw[BitVec.toNat_and,BitVec.toNat_ofNat,BitVec.toNat_ofNat,Ml (show a<2 ^ IntKind.u8.bits from ha),Ml (show b<2 ^ IntKind.u8.bits from hb),YL (Qji ha)]
theorem yA (m i:Nat):((m:Int) / 2 ^ i)=((m / 2 ^ i:Nat):Int):=by rw[Int.natCast_ediv,Int.natCast_pow];rfl
end
inductive Pt where
 | pl (l:List (Nat×Bool))
 | fk (pre:List (Nat×Bool)) (i j:Nat) (t1 t2:Pt)
def Pt.len:Pt→Nat
 | .pl l=>l.length
 | .fk pre _ _ t1 _=>pre.length+(1+t1.len)
def Y4 (all:Array Oper):List (Nat×Bool)→Array Bool→Bool
 | [],_=>true
 | (k,q)::pl,ls=>q && (Region.ready .any all ls).contains k && Region.free .any all ls k && Y4 all pl (ls.setIfInBounds k true)
def Zs:List (Nat×Bool)→Array Bool→Array Bool
 | [],ls=>ls
 | (k,_)::pl,ls=>Zs pl (ls.setIfInBounds k true)
def Qff (all:Array Oper):Pt→Array Bool→Bool
 | .pl l,ls=>YC all l ls
 | .fk pre i j t1 t2,ls=>Y4 all pre ls && Region.ready .any all (Zs pre ls) == [i,j] && t1.len == t2.len && Qff all t1 ((Zs pre ls).setIfInBounds i true) && Qff all t2 ((Zs pre ls).setIfInBounds j true)
def XT (P:Program)(all:List Oper)(C:World→Prop)(K:Fr→World→Prop):Pt→Fr→World→Prop
 | .pl l=>XP P all C K l
 | .fk pre i j t1 t2=>XP P all C (λf w=>(Z2 all f (QO all i)=true∧XO P (QO all i) f w λE w'=>C w'∧XT P all C K t1 E w') ∧
   (Z2 all f (QO all j)=true∧XO P (QO all j) f w λE w'=>C w'∧XT P all C K t2 E w')) pre
section
variable {P:Program}{n:Nat}{f:Fr}{w:World}{all:List Oper}{C:World→Prop}{K B:Fr→World→Prop}
theorem ZM:∀(pl:List (Nat×Bool)) (ls:Array Bool),(Zs pl ls).size=ls.size
 | [],_=>rfl
 | (k,q)::pl,ls=>by rw[Zs,ZM];simp
theorem ZN {m:Nat}(hs:Region.noSelect all.toArray=true):∀(pl:List (Nat×Bool)) (ls:Array Bool) (f:Fr) (w:World),C w→Y4 all.toArray pl ls=true →
  (∀f,B f w→XA P all C K m (Zs pl ls) f w)→XP P all C B pl f w→XA P all C K (pl.length+m) ls f w
 | [],ls,f,w,hC,hp,G,h=>by
  simp only[XP]at h;rw[List.length_nil,LQ];exact G f h
 | (H,q)::pl,ls,f,w,hC,hp,G,h=>by
  simp only[Y4,Bool.and_eq_true]at hp;obtain⟨⟨⟨rfl,Y⟩,hf⟩,T⟩:=hp;simp only[XP]at h;have J:H∈Region.ready .any all.toArray ls:=by simpa using Y
  have e:(List.length ((H,true)::pl))+m=(pl.length+m)+1:=by simp;omega
  rw[e];cases E:all[H]? with
  | none =>
   exfalso;obtain⟨_,o,ha,_⟩:=mem_ready.1 J;simp[E]at ha
  | some o =>
   rw[Zg E]at h;have U:∀(j:Nat) (o:Oper) cs b,all[j]?=some o→o.op≠.select cs b:=λj o cs b hj=>Region.noSelect_spec hs j o cs b (by simpa using hj);have V:=λj oj hj=>Region.free_spec (ops:=all.toArray) (md:=.any) (i:=H) (oi:=o) (listed:=ls) (by simpa using E) hf j oj (by simpa using hj);cases I:Z2 all f o with
   | false =>
    rw[I]at h;exact Xc (v:=undef) (D:=λw=>q8 o=true→C w) E (λ_ h=>h) U _ ls f w (λ_=>hC) V J (.inr ⟨I,O⟩) (ZN hs pl _ _ _ hC T G h)
   | true =>
    rw[I]at h;simp only[cond_true]at h;obtain⟨v,hv,hx⟩:=h;exact Xc (v:=v) (D:=λw=>q8 o=true→C w) E (λ_ h=>h) U _ ls f w (λ_=>hC) V J (.inl ⟨I,hv⟩) (ZN hs pl _ _ _ hC T G hx)
theorem KT (hs:Region.noSelect all.toArray=true):∀(t:Pt) (ls:Array Bool) (f:Fr) (w:World),ls.size=all.length→C w→Qff all.toArray t ls=true→XT P all C K t f w→XA P all C K t.len ls f w
 | .pl l,ls,f,w,E,hC,hp,h=>Zx hs l ls f w E (.inl hC) hp h
 | .fk pre i j t1 t2,ls,f,w,E,hC,hp,h=>by
  simp only[Qff,Bool.and_eq_true,beq_iff_eq]at hp;obtain⟨⟨⟨⟨hq,G⟩,hl⟩,h1⟩,h2⟩:=hp;rw[Pt.len];refine ZN (B:=λf w=>(Z2 all f (QO all i)=true∧XO P (QO all i) f w λH w'=>C w'∧XT P all C K t1 H w') ∧
   (Z2 all f (QO all j)=true∧XO P (QO all j) f w λH w'=>C w'∧XT P all C K t2 H w')) hs pre ls f w hC hq (λf I=>?_) h
  have J:∀k,((Zs pre ls).setIfInBounds k true).size=all.length:=λk=>by simp[ZM,E]
  rw[ME 1];refine YS (λU=>(by rw[U]at G;cases G)) ?_;rw[G];intro k hk o T;simp only[List.mem_cons,List.not_mem_nil,or_false]at hk;rcases hk with rfl|rfl
  ·have:=I.1;rw[Zg T]at this;rw[this.1,cond_true];exact this.2.mono λv w' hx=>⟨.inr (.inr hx.1),KT hs t1 _ _ _ (J _) hx.1 h1 hx.2⟩
  have:=I.2;rw[Zg T]at this;rw[this.1,cond_true,hl];exact this.2.mono λv w' hx=>⟨.inr (.inr hx.1),KT hs t2 _ _ _ (J _) hx.1 h2 hx.2⟩
end
end Go.Lg
namespace Go.Proofs.YtjcgijbhaemldaaGreatDoor
open Go.Lg
theorem Yy.lt_of {a:Int}{l:LI}(h:Yy (a::l)){x:Int}(hx:x∈l):a<x:=(LR.1 h).1 x hx
theorem Yy.tail {a:Int}{l:LI}(h:Yy (a::l)):Yy l:=(LR.1 h).2
theorem Qib (keep:Bool→Bool→Bool):∀(n:Nat) (a b:LI),a.length+b.length≤n→Yy a→Yy b→∀x,x∈mrg keep a b↔(x∈a∨x∈b)∧keep (decide (x∈a)) (decide (x∈b))=true:=by
 intro n;induction n with
 | zero =>
  intro a b h _ _ x;have ha:a=[]:=Lq (by omega);have hb:b=[]:=Lq (by omega);subst ha hb;simp[JD]
 | succ n ih =>
  intro a b E ia ib x;cases a with
  | nil =>
   cases b with
   | nil=>simp[JD]
   | cons y b =>
    rw[Jn keep (by simp)];have:=ih [] b (by simp at E ⊢;omega) ia ib.tail x;have hy:y∉b:=λh=>by have:=ib.lt_of h;omega
    simp only[Xr,tl,hx,cond_true,cond_false,List.tail_cons,List.headD_cons,List.mem_append];rw[this];by_cases e:x=y
    ·subst e;cases hk:keep false true <;> simp[hk,hy]
    cases keep false true <;> simp[e]
  | cons u a =>
   cases b with
   | nil =>
    rw[Jn keep (by simp)];have:=ih a [] (by simp at E ⊢;omega) ia.tail ib x;have hy:u∉a:=λh=>by have:=ia.lt_of h;omega
    simp only[Xr,tl,hx,cond_true,cond_false,List.tail_cons,List.headD_cons,List.mem_append];rw[this];by_cases e:x=u
    ·subst e;cases hk:keep true false <;> simp[hk,hy]
    cases keep true false <;> simp[e]
   | cons y b =>
    rw[Jn keep (by simp)];have hu:u∉a:=λh=>by have:=ia.lt_of h;omega
    have hy:y∉b:=λh=>by have:=ib.lt_of h;omega
    rcases Int.lt_trichotomy u y with h1|h1|h1
    ·have G:u∉y::b:=λh=>by
      rcases Lc.1 h with h|h
      ·omega
      have:=ib.lt_of h;omega
     have:=ih a (y::b) (by simp at E ⊢;omega) ia.tail ib x;have e1:decide (u≤y)=true:=decide_eq_true (by omega);have e2:decide (y≤u)=false:=decide_eq_false (by omega);simp only[Xr,tl,hx,e1,e2,cond_true,cond_false,List.tail_cons,List.headD_cons,List.mem_append];rw[this];by_cases e:x=u
     ·subst e;cases hk:keep true false <;> simp[hk,hu,G]
     cases keep true false <;> simp[e]
    ·subst h1;have:=ih a b (by simp at E ⊢;omega) ia.tail ib.tail x;have e1:decide (u≤u)=true:=decide_eq_true (by omega);simp only[Xr,tl,hx,e1,cond_true,List.tail_cons,List.headD_cons,List.mem_append];rw[this];by_cases e:x=u
     ·subst e;cases hk:keep true true <;> simp[hk,hu,hy]
     cases keep true true <;> simp[e]
    have G:y∉u::a:=λh=>by
     rcases Lc.1 h with h|h
     ·omega
     have:=ia.lt_of h;omega
    have:=ih (u::a) b (by simp at E ⊢;omega) ia ib.tail x;have e1:decide (u≤y)=false:=decide_eq_false (by omega);have e2:decide (y≤u)=true:=decide_eq_true (by omega);simp only[Xr,tl,hx,e1,e2,cond_true,cond_false,List.tail_cons,List.headD_cons,List.mem_append];rw[this];by_cases e:x=y
    ·subst e;cases hk:keep false true <;> simp[hk,hy,G]
    cases keep false true <;> simp[e]
theorem yR {keep:Bool→Bool→Bool}{a b:LI}(ia:Yy a)(ib:Yy b)(x:Int):x∈mrg keep a b↔(x∈a∨x∈b)∧keep (decide (x∈a)) (decide (x∈b))=true :=
 Qib keep _ a b (Lu _) ia ib x
def setK (m k:Nat):LI:=((List.range' 0 k).filter λi=>decide (((m / 2 ^ i) &&& 1)=1)).map λi:Nat=>(i:Int)
theorem VP (m k:Nat):setK m (k+1)=if(m / 2 ^ k) &&& 1=1 then setK m k++[(k:Int)]else setK m k:=by
 unfold setK;rw[Mu,L7,Lv,LQ];by_cases h:(m / 2 ^ k) &&& 1=1
 ·rw[if_pos h,Md,if_pos (decide_eq_true h)];rfl
 rw[if_neg h,Md,if_neg (by rw[decide_eq_false h];simp),Nj,Nv,LL]
theorem Y8 (m:Nat):∀k,(setK m k).length≤k
 | 0=>by simp[setK]
 | k+1=>by
  have:=Y8 m k;rw[VP];split
  ·simp;omega
  omega
theorem jN (m k:Nat):Yy (setK m k):=by
 unfold setK Yy;rw[MW];refine List.Pairwise.sublist Nq ?_;exact(M9 (s:=0) (n:=k)).imp (λh=>by omega)
open Go.Proofs.Tryz
instance ayCx1:Ay prog 150 4 5 1:=⟨by kernel_rfl,by kernel_rfl⟩
end Go.Proofs.YtjcgijbhaemldaaGreatDoor
namespace Go.Lg
section
variable {P:Program}{f:Fr}{w:World}{K:Fr→World→Prop}{d:Option Nat}{ty:Nat}{ps:String}{af:Array Edge}{gd:Option (Nat×Bool)}
theorem Uo {t ty e sz bys:Nat}{z:Value}[h:Sl P t e sz bys z]{base:Nat}{v:Value}{n:Nat}{cs:LV}(E:w.ownsRow base e sz v n cs):
  (Builtin.append_ #[t,t] ty #[v,nS]).run P w=.ok v w:=by
 obtain⟨i,hi,_,H,_⟩:=Sl.info h;rcases E.2 with⟨rfl,rfl⟩|⟨g,cap,cur,rfl,I,J,G,T,U,V⟩
 ·simp[Builtin.append_,run_underlying h.u,sizeOf,typeInfo,hi,Builtin.lenOf,Builtin.firstCells]
 simp[Builtin.append_,run_underlying h.u,sizeOf,typeInfo,hi,Builtin.lenOf,Builtin.firstCells,G,storeCells]
theorem Qbq {t e sz bys:Nat}{z:Value}[h:Sl P t e sz bys z]{s y:Operand}{base:Nat}{v:Value}{n:Nat}{cs:LV}(E:w.ownsRow base e sz v n cs)(hs:ev f s=v)
  {H:Value} {m:Nat} {news:LV} {L:LN} (G:Zv L w.heap H m sz news) (hy:ev f y=H) (h1:∀u∈news,u.oneCell'=true)
  (hb:n+m≤1099511627776) (J:base≤w.heap.size)
  (I:∀v' w',w'.ownsRow base e sz v' (n+m) (cs++news)→Step (ob v) w w'→(∀b∈ob v',b∈ob v∨w.heap.size≤b)→K (QY f d v') w') (T:bys≤128:=by decide):
  XO P ⟨d,.call ⟨.builtin .append,#[s,y],#[t,t]⟩,ty,ps,af,gd⟩ f w K:=by
 rcases G.2.2 with⟨e1,e2⟩|⟨a,c,e1,_,e3⟩
 ·subst e2;have U:news=[]:=Lq (by have:=G.1;simpa using this);subst U;have V:(execOp (ev f) ⟨d,.call ⟨.builtin .append,#[s,y],#[t,t]⟩,ty,ps,af,gd⟩).run P w=.ok (.value v) w:=by
   simp[execOp,resolve,invoke,builtin,hs,hy,e1,Uo (ty:=ty) E]
  exact xv V (I v w (by simpa using E) (Step.refl _ _) (λb hb=>.inl hb))
 exact Q5 E hs (hy.trans e1) G.1 e3 h1 hb J I T
end
end Go.Lg
namespace Go.Proofs.YtjcgijbhaemldaaGreatDoor
open Go.Proofs.Tryz
open Go.Lg
theorem QcU {L:LN}{w:World}{v:Value}{l:LI}(h:QI L w.heap v l)(x:Int):
  QE prog 126 [v,.int .i64 x] w λr w'=>r=.bool (decide (x∈l))∧w'=w:=by
 have J:=h.le;refine QE.of_W func126 O ntmps126 results126 (by simp) ?_;refine Qc<|Lg.Qe<|Qg<|Qc<|Lg.Qe<|Qh<|Qz (α:=Nat) [(4,17)] (λk=>[(5,.int .i64 k)]) (λk w'=>w'=w∧k≤l.length∧(x∈l↔x∈l.drop k)) (λk=>l.length - k) (by rfl) 0 La ⟨O,Lk _,by simp⟩ ?_;rintro k g w' ⟨rfl,hk,hm⟩;refine Qg<|Qc<|Lg.Qb<|Lg.Qb<|Lg.x (Qu h O)<|Lg.x (QA O O)<|xe<|QD rfl (λh9=>?_) (λh9=>?_)
 ·refine Qy<|Qc<|Lg.Qe<|Qk ⟨[.bool false],La,?_,O⟩;rw[Ls (by omega)]at hm;simp[tup,hm]
 have H:k<l.length:=by omega
 have hd:=Q6 H;refine Qi<|Qg<|Qh<|Qc<|Lg.Qb<|Lg.Qb<|xii h O O H λT I=>Lg.x (Qw I O)<|Lg.Qb<|Lg.x (Zc O O)<|xe<|Q2 rfl (λG=>?_) (λG=>?_)
 ·refine Qc<|Lg.Qe<|Qk ⟨[.bool true],La,?_,O⟩;have:x∈l:=by rw[hm,hd,G];exact Lr
  simp[tup,this]
 refine Qi<|Qx<|Lg.Qb<|Lg.QN O O<|Lg.Qe<|⟨k+1,by omega,La,O,by omega,?_⟩;rw[hm,hd,Lc];exact⟨λh=>h.resolve_left (λe=>G e.symm),.inr⟩
theorem jE {L:LN}{w:World}{va vm ve:Value}{a:QM}(h:UF L w.heap ve a.ed)(s e:Int)(st:Int):
  QE prog 127 [.agg #[va,.int .i64 st,vm,ve],.int .i64 s,.int .i64 e] w λr w'=>r=.int .i64 (nxt a.ed s e)∧Step [] w w':=by
 have hf:=h.le;refine QE.of_W func127 O ntmps127 results127 (by simp) ?_;refine Qc<|xl O<|QP (us:=[va,.int .i64 st,vm,ve]) O λb3 V J hg G=>Lg.Qe ?_
 replace h:=h.ext J;refine Qg<|Qc<|Lg.Qe<|Qh<|Qz (α:=Nat) [(6,38)] (λk=>[(7,.int .i64 k)]) (λk w'=>w'=V∧k≤a.ed.length∧nxt (a.ed.drop k) s e=nxt a.ed s e) (λk=>a.ed.length - k) (by rfl) 0 La ⟨O,Lk _,O⟩ ?_;rintro k g Y ⟨rfl,hk,H⟩;refine Qg<|Qc<|Lg.Qb<|Lg.x (Qa O)<|Lg.x (Qd G O O)<|Lg.x (Qu h O)<|Lg.x (QA O O)<|xe<|QD rfl (λha=>?_) (λha=>?_)
 ·refine Qy<|Qc<|Lg.Qe<|Qk ⟨[.int .i64 (-1)],La,?_,J⟩;rw[Ls (by omega)]at H;rw[←H];rfl
 have I:k<a.ed.length:=by omega
 have hd:=Q6 I;refine Qi<|Qg<|Qh<|QZ (α:=Bool) [(15,32)] (λz=>[(32,.bool z)]) (λz w'=>w'=Y∧z=decide (a.ed[k].1=s∧a.ed[k].2.1=e)) (by rfl) ?_ ?_
 ·refine Qx<|Lg.x (Qa O)<|Lg.x (Qd G O O)<|Lg.Qb<|xie h O O I λhh hb=>Lg.x (Zk O)<|Lg.x (Qw (hb.fld 0 _ O) O) <|
   Lg.Qb<|xb (Zc O O) (λT=>?_) (λT=>?_)
  ·refine Lg.Qb<|Lg.x (Qa O)<|Lg.x (Qd G O O)<|Lg.Qb<|xie h O O I λhi hc=>Lg.x (Zk O)<|Lg.x (Qw (hc.fld 1 _ O) O) <|
    Lg.Qb<|Lg.x (Zc O O)<|Lg.x (Qp O)<|xe ?_
   exact⟨_,La,O,by simp[T]⟩
  refine Lg.Qb<|xs O<|xs O<|xs O<|xs O<|xs O<|xs O<|xs O<|xs O<|Lg.x (Qp O)<|xe ?_;exact⟨_,La,O,by simp[T]⟩
 rintro z g w3 ⟨rfl,rfl⟩;refine Q2 rfl (λU=>?_) (λU=>?_)
 ·refine Qc<|Lg.x (Qa O)<|Lg.x (Qd G O O)<|Lg.Qb<|xie h O O I λhj he=>Lg.x (Zk O)<|Lg.x (Qw (he.fld 2 _ O) O) <|
   Lg.Qe<|Qk ⟨[.int .i64 a.ed[k].2.2],La,?_,J⟩
  rw[←H,hd,nxt,if_pos U];rfl
 refine Qi<|Qx<|Lg.Qb<|Lg.QN O O<|Lg.Qe<|⟨k+1,by omega,La,O,by omega,?_⟩;rw[←H,hd,nxt,if_neg U]
def ixR (l:LI)(n:Int):Int:=if n∈l then(l.idxOf n:Int)else -1
theorem QfQ {l:LI}{n:Int}{k:Nat}(h:n∉l.take k)(hk:k<l.length)(he:cget l k=n):ixR l n=k:=by
 have hm:n∈l:=by rw[←he,←Zh hk];exact Lh hk
 unfold ixR;rw[if_pos hm];have hs:l=l.take k++l.drop k:=(My k l).symm;have:l.idxOf n=k:=by
  rw[hs,Mr,if_neg h,LH hk,List.idxOf_cons,show l[k]=n by rw[Zh hk];exact he];simp;omega
 rw[this]
theorem QdU {L:LN}{w:World}{v:Value}{l:LI}(h:QI L w.heap v l)(n:Int):
  QE prog 128 [v,.int .i64 n] w λr w'=>r=.int .i64 (ixR l n)∧w'=w:=by
 have J:=h.le;refine QE.of_W func128 O ntmps128 results128 (by simp) ?_;refine Qc<|Qe<|Qg<|Qc<|Qe<|Qh<|Qz (α:=Nat) [(4,18)] (λz=>[(5,.int .i64 z)]) (λz w'=>w'=w∧z≤l.length∧n∉l.take z) (λz=>l.length - z) (by rfl) 0 La ⟨O,Lk _,by simp⟩ ?_;rintro k g T ⟨rfl,hk,hm⟩;refine Qg<|Qc<|Qb<|Qb<|x (Qu h O)<|x (QA O O)<|xe<|QD rfl (λh9=>?_) (λh9=>?_)
 ·refine Qy<|Qc<|Qe ?_;rw[Lm (by omega)]at hm;exact Qk ⟨[.int .i64 (-1)],La,by unfold ixR;rw[if_neg hm];rfl,O⟩
 have G:k<l.length:=by omega
 refine Qi<|Qg<|Qh<|Qc<|Qb<|Qb<|xic (i:=k) h O O G λU I=>x (Qw I O)<|Qb<|x (Zc O O)<|xe<|Q2 rfl (λH=>?_) (λH=>?_)
 ·refine Qc<|Qb<|Qe ?_;exact Qk ⟨[.int .i64 k],La,by rw[QfQ hm G H];rfl,O⟩
 refine Qi<|Qx<|Qb<|QN O O<|Qe<|⟨k+1,by omega,La,O,G,?_⟩;rw[Le G,Zh G];simp only[List.mem_append,List.mem_singleton,not_or];exact⟨hm,λe=>H e.symm⟩
theorem VY {L:LN}{w:World}{v:Value}{l:LI}(h:QI L w.heap v l)(hl:l.length≤1000000):
  QE prog 70 [v] w λr w'=>Step [] w w'∧∃va,r=.agg #[va,.int .i64 0,nS,nS]∧Qt 3 w.heap.size w' va l:=by
 refine QE.of_W func70 O ntmps70 results70 (by simp) ?_;refine Qc<|xl O<|Qr (us:=[nS,.int .i64 0,nS,nS]) O λb2 G U he V=>xe ?_;have hf:=U.size;have hg:=V.lt;refine Qc<|xl O<|VU λb3 w2 H hh hi=>Qb<|?_;have Y:=U.trans H;have hp:=H.size;have I:w2.ownsRow G.heap.size 3 1 (.slice (some ⟨b3,0,none⟩) 0 0) 0 []:=hi.own (n:=0) (sz:=1) O (by omega) hh
 refine xl rfl<|Qbq I O (h.ext Y) O (U0 l) (by omega) (by omega) λva J hj ha hq=>?_;have T:Qt 3 G.heap.size J va l:=by
  have:J.ownsRow G.heap.size 3 1 va (0+l.length) ([]++l.map (.int .i64)):=hj;rw[LQ,Mi]at this;exact this
 have hA:=Qt.ints (L:=[]) T (by omega) (by simp);have hk:=(V.ext H).step ha (QW I hg);have hm:Step [] w J:=Y.then ha (λb hb=>.inr (by have:=(Qq I b hb).1;omega));refine x (QK ⟨hA.cells,Z⟩)<|xl O<|Qm (us:=[va,.int .i64 0,nS,nS]) hk O O O O ⟨hA.one,O,O,O,Z⟩ λw4 hc hn=>xe ?_;have ho:=Ql T hc (λb hb=>by have:=(Qq T b hb).1;simp;omega)
 exact Qk ⟨[.agg #[va,.int .i64 0,nS,nS]],⟨⟨_,O,Qv O (hn.at (L:=[]) (by simp)).cells⟩,Z⟩,hm.then1 hc he,va,rfl,Za ho hf⟩
theorem pig:∀(n:Nat) (l:LI),l.Nodup→(∀x∈l,0≤x∧x<n)→l.length≤n
 | 0,l,_,h=>by
  cases l with
  | nil=>simp
  | cons a l=>have:=h a Lr;omega
 | n+1,l,hd,h=>by
  by_cases hm:(n:Int)∈l
  ·have h1:=pig n (l.erase (n:Int)) (hd.erase _) (λx hx=>by
    have h2:=(List.Nodup.mem_erase_iff hd).1 hx;have h3:=h x h2.2;have h4:x≠(n:Int):=h2.1;omega)
   rw[List.length_erase_of_mem hm]at h1;omega
  have:=pig n l hd (λx hx=>by
   have h3:=h x hx;have h4:x≠(n:Int):=λe=>hm (by rw[←e];exact hx);omega)
  omega
def fdE (a:QM)(s:Int)(out:LI)(v:Int):LI:=if 0≤nxt a.ed s v∧nxt a.ed s v∉out then out++[nxt a.ed s v]else out
def fdR (a:QM)(out:LI)(s:Int):LI:=a.al.foldl (fdE a s) out
def fdL (a:QM):Nat→Nat→LI→LI
 | 0,_,out=>out
 | f+1,i,out=>if i<out.length then fdL a f (i+1) (fdR a out (cget out i))else out
def fd0 (a:QM):LI:=if 0<a.st then[0]else[]
def found (a:QM):LI:=fdL a a.st.toNat 0 (fd0 a)
structure Uu (a:QM)(out:LI):Prop where
 b:∀x∈out,0≤x∧x<a.st
 d:out.Nodup
theorem Uu.len {a:QM}{out:LI}(h:Uu a out)(G:0≤a.st):out.length≤a.st.toNat:=pig _ _ h.d (λx hx=>by have:=h.b x hx;omega)
theorem yQ {es:List Ed}{s v:Int}(h:0≤nxt es s v):(s,v,nxt es s v)∈es:=by
 induction es with
 | nil=>simp[nxt]at h
 | cons e es ih =>
  rw[nxt]at h ⊢;split at h
  ·rename_i he;rw[if_pos he];obtain⟨p,q,r⟩:=e;obtain⟨h1,h2⟩:=he;simp only[]at h1 h2;subst h1 h2;exact Lr
  rename_i he;rw[if_neg he];exact Ln _ (ih h)
theorem Qgd {a:QM}(G:Q3 a){out:LI}(h:Uu a out)(s v:Int):Uu a (fdE a s out v):=by
 unfold fdE;split
 ·rename_i hc;have hm:=G.ed _ (yQ hc.1);refine⟨λx hx=>?_,?_⟩
  ·rcases Lp.1 hx with hx|hx
   ·exact h.b x hx
   simp only[List.mem_singleton]at hx;subst hx;exact⟨hc.1,hm.2.2.2.2⟩
  rw[List.nodup_append];refine⟨h.d,by simp,λx hx y hy=>?_⟩;simp only[List.mem_singleton]at hy;subst hy;exact λe=>hc.2 (by rw[←e];exact hx)
 exact h
theorem QiG {a:QM}{out:LI}{s v:Int}:∀x∈out,x∈fdE a s out v:=λx hx=>by unfold fdE;split;exact LS _ hx;exact hx
theorem QkL {a:QM}{out:LI}{s v:Int}(h:0≤nxt a.ed s v):nxt a.ed s v∈fdE a s out v:=by
 unfold fdE;by_cases hm:nxt a.ed s v∈out
 ·rw[if_neg (λe=>e.2 hm)];exact hm
 rw[if_pos ⟨h,hm⟩];simp
theorem Qgb {a:QM}(G:Q3 a)(s:Int):∀(vs:LI) (out:LI),Uu a out→Uu a (vs.foldl (fdE a s) out)
 | [],_,h=>h
 | v::vs,_,h=>Qgb G s vs _ (Qgd G h s v)
theorem jb {a:QM}{s:Int}:∀(vs:LI) (out:LI),∀x∈out,x∈vs.foldl (fdE a s) out
 | [],_,_,hx=>hx
 | _::vs,_,x,hx=>jb vs _ x (QiG x hx)
theorem Qgc {a:QM}{s:Int}:∀(vs:LI) (out:LI),∀v∈vs,0≤nxt a.ed s v→nxt a.ed s v∈vs.foldl (fdE a s) out
 | v::vs,out,u,hu,h=>by
  rcases Lc.1 hu with rfl|hu
  ·exact jb vs _ _ (QkL h)
  exact Qgc vs _ u hu h
theorem QcX {a:QM}{s:Int}:∀(vs:LI) (out:LI),∃r,vs.foldl (fdE a s) out=out++r
 | [],out=>⟨[],by simp⟩
 | v::vs,out=>by
  obtain⟨r,G⟩:=QcX (a:=a) (s:=s) vs (fdE a s out v);rw[LM,G];unfold fdE;split
  ·exact⟨[nxt a.ed s v]++r,by simp⟩
  exact⟨r,O⟩
theorem qI {l r:LI}{i:Nat}(h:i<l.length):cget (l++r) i=cget l i:=by
 rw[←Zh h,←Zh (by simp;omega),L5 h]
def Cl (a:QM)(out:LI)(i:Nat):Prop:=∀j,j<i→j<out.length→∀v∈a.al,0≤nxt a.ed (cget out j) v→nxt a.ed (cget out j) v∈out
theorem Cl.next {a:QM}{out:LI}{i:Nat}(h:Cl a out i)(hi:i<out.length):Cl a (fdR a out (cget out i)) (i+1):=by
 intro j hj U v H G;obtain⟨r,T⟩:=QcX (a:=a) (s:=cget out i) a.al out;have I:fdR a out (cget out i)=out++r:=T;have J:j<out.length:=by omega
 rw[I,qI J]at G ⊢;by_cases e:j=i
 ·subst e;have:=Qgc a.al out v H G;rw[←I];exact this
 exact LS _ (h j (by omega) J v H G)
theorem Qga {a:QM}(G:Q3 a):∀(f i:Nat) (out:LI),Uu a out→Cl a out i→i+f=a.st.toNat→Uu a (fdL a f i out)∧Cl a (fdL a f i out) (fdL a f i out).length
 | 0,i,out,h,hc,I=>by
  have:=h.len G.st0;exact⟨h,λj hj H=>hc j (by rw[fdL]at hj;omega) H⟩
 | f+1,i,out,h,hc,I=>by
  rw[fdL];split
  ·rename_i hi;exact Qga G f (i+1) _ (Qgb G _ _ _ h) (hc.next hi) (by omega)
  rename_i hi;exact⟨h,λj hj H=>hc j (by omega) H⟩
theorem Qge (a:QM):Uu a (fd0 a):=by
 unfold fd0;split
 ·rename_i h;exact⟨λx hx=>by simp only[List.mem_singleton]at hx;subst hx;exact⟨by omega,h⟩,by simp⟩
 exact⟨by simp,by simp⟩
theorem qk {a:QM}(H:Q3 a):Uu a (found a)∧∀s∈found a,∀v∈a.al,0≤nxt a.ed s v→nxt a.ed s v∈found a:=by
 obtain⟨h1,h2⟩:=Qga H a.st.toNat 0 (fd0 a) (Qge a) (λj hj=>by omega) (by omega);refine⟨h1,λs hs v I G=>?_⟩;obtain⟨j,hj,rfl⟩:=LG hs;have:=h2 j hj hj v I;unfold found at hj G ⊢;rw[Zh hj]at G ⊢;exact this G
def zp (a:QM)(fd:LI)(i:Nat)(v:Int):Option Ed:=if 0≤nxt a.ed (cget fd i) v then some ((i:Int),v,ixR fd (nxt a.ed (cget fd i) v))else none
def KR (a:QM)(fd:LI)(n:Nat):LI:=((List.range' 0 n).filter λi=>decide (cget fd i∈a.mr)).map λi:Nat=>(i:Int)
def V5 (a:QM)(fd:LI)(n:Nat):List Ed:=(List.range' 0 n).flatMap λi=>a.al.filterMap (zp a fd i)
def Jv (a:QM):QM:=⟨a.al,(found a).length,KR a (found a) (found a).length,V5 a (found a) (found a).length⟩
theorem Xq {β:Type}{r:Int→Int→Prop}{q:β→β→Prop}{g:Int→Option β}(G:∀x y u v,r x y→g x=some u→g y=some v→q u v):∀{l:LI},l.Pairwise r→(l.filterMap g).Pairwise q
 | [],_=>by simp
 | x::l,h=>by
  obtain⟨h1,h2⟩:=LR.1 h;rw[Mx];split
  ·exact Xq G h2
  rename_i u hu;refine LR.2 ⟨λv H=>?_,Xq G h2⟩;obtain⟨y,hy,I⟩:=MQ.1 H;exact G x y u v (h1 y hy) hu I
theorem Qdb {a:QM}(H:Q3 a):Q3 (Jv a)∧(Jv a).al=a.al∧(Jv a).st≤a.st:=by
 obtain⟨h1,h2⟩:=qk H;have hl:=h1.len H.st0;have h0:=H.st0;have h4:=H.st1;refine⟨⟨H.al,H.ali,by simp[Jv],by simp only[Jv];omega,λs hs=>?_,?_,λe he=>?_,?_⟩,O,by simp only[Jv];omega⟩
 ·simp only[Jv,KR,List.mem_map,List.mem_filter,List.mem_range'_1]at hs;obtain⟨i,⟨hi,_⟩,rfl⟩:=hs;simp only[Jv];omega
 ·simp only[Jv,KR];unfold Yy;rw[MW];refine List.Pairwise.sublist Nq ?_;exact(M9 (s:=0) (n:=(found a).length)).imp (λh=>by omega)
 ·simp only[Jv,V5,List.mem_flatMap,List.mem_filterMap,List.mem_range'_1]at he;obtain⟨i,⟨_,hi⟩,v,I,G⟩:=he;unfold zp at G;split at G
  ·rename_i T;cases G
   have J:i<(found a).length:=by omega
   have hm:=h2 (cget (found a) i) (by rw[←Zh J];exact Lh J) v I T;have hx:=Mo hm;simp only[Jv];unfold ixR;rw[if_pos hm];exact⟨by omega,by omega,I,by omega,by omega⟩
  cases G
 simp only[Jv,V5];have key:∀(is:LN),is.Pairwise (·<·)→(is.flatMap λi=>a.al.filterMap (zp a (found a) i)).Pairwise λx y:Ed=>x.1<y.1∨(x.1=y.1∧x.2.1<y.2.1):=by
  intro is;induction is with
  | nil=>intro _;simp
  | cons i is ih =>
   intro hp;obtain⟨p1,p2⟩:=LR.1 hp;rw[LF,Mn];have from_i:∀(i:Nat) (e:Ed),e∈a.al.filterMap (zp a (found a) i)→e.1=i:=by
    intro i e he;obtain⟨v,_,G⟩:=MQ.1 he;unfold zp at G;split at G
    ·cases G;rfl
    cases G
   refine⟨?_,ih p2,λe he U V=>?_⟩
   ·refine Xq (r:=(·<·)) (λx y u v Y hu I=>?_) H.ali;unfold zp at hu I;split at hu
    ·cases hu;split at I
     ·cases I;exact .inr ⟨O,Y⟩
     cases I
    cases hu
   obtain⟨j,hj,ha⟩:=Mv.1 V;have e1:=from_i i e he;have e2:=from_i j U ha;have:=p1 j hj;left;omega
 exact key _ (M9 (s:=0) (n:=(found a).length))
set_option maxHeartbeats 1000000 in
theorem QdV {L:LN}{w:World}{va vm ve:Value}{a:QM}(h:Zq L w.heap va vm ve a)(ho:Q3 a):
  QE prog 125 [.agg #[va,.int .i64 a.st,vm,ve]] w λr w'=>Step [] w w'∧Qt 3 w.heap.size w' r (found a):=by
 have h0:=ho.st0;have h1:=ho.st1;have hU:=ho.al_le;refine QE.of_W func125 O ntmps125 results125 (by simp) ?_;refine Qc<|xl O<|QP (us:=[va,.int .i64 a.st,vm,ve]) O λb1 U hh hV hs=>Qe<|Qc<|Qe ?_;have h8:=hh.size;refine QZ (α:=Value) [(3,3),(7,12)] (λz=>[(3,z)]) (λz w'=>Step [] U w'∧Qt 3 U.heap.size w' z (fd0 a)) (by rfl) ?_ ?_
 ·refine Qc<|x (Qa O)<|x (Qd hs O O)<|x (ZP O O)<|xe<|QD O (λh9=>?_) (λh9=>?_)
  ·refine Qi ?_;exact⟨nS,La,Step.refl _ _,by unfold fd0;rw[if_neg h9];exact QQ _ _ _ _⟩
  refine Qx<|Qb<|xl O<|QJ (us:=[[.int .i64 0]]) O O (by decide) (by simp) ⟨rfl,rfl,Z⟩ λb11 w2 hv hW hA=>?_;have hn:w2.ownsRow U.heap.size 3 1 (nS) 0 []:=QQ _ _ _ _;have hX:=hv.size;refine xl O<|Q5 (news:=[.int .i64 0]) (L:=[]) hn O O O (hA.at (by simp)) (by simp[Value.oneCell']) (by omega) (by omega) λv3 w3 hB hC hY =>
   Qe<|⟨v3,La,hv.then hC (λb hb=>by simp[ob]at hb),?_⟩
  unfold fd0;rw[if_pos h9];exact hB
 rintro v0 g4 w4 ⟨hD,hE⟩;refine Zb (found a) λT hT=>?_;have hF:fdL a a.st.toNat 0 (fd0 a)=T:=hT;refine Qg<|Qc<|Qe<|Qh<|Qz (α:=Nat×LI×Value) [(3,6),(13,48)] (λz=>[(3,z.2.2),(4,.int .i64 z.1)])
  (λz w'=>Step [] U w'∧Qt 3 U.heap.size w' z.2.2 z.2.1∧Uu a z.2.1∧z.1≤z.2.1.length∧fdL a (a.st.toNat - z.1) z.1 z.2.1=T) (λz=>a.st.toNat - z.1) (by rfl) (0,fd0 a,v0) ⟨O,O,Z⟩
  ⟨hD,hE,Qge a,Lk _,hF⟩ ?_
 rintro⟨i,out,v⟩ g5 w5 ⟨hj,V,G,hi,Y⟩;simp only[]at V G hi Y;have hw:=G.len h0;have hy:=Qt.ints (L:=[]) V (by omega) (by simp);refine Qg<|Qc<|Qb<|Qb<|x (Qu hy O)<|x (QA O O)<|xe<|QD rfl (λhz=>?_) (λhz=>?_)
 ·have e:out=T:=by
   rw[←Y];generalize a.st.toNat - i=f;cases f with
   | zero=>rfl
   | succ f=>rw[fdL,if_neg (by omega)]
  refine Qy<|Qc<|Qb<|Qe ?_;rw[e]at V;exact Qk ⟨[v],La,hh.trans hj,by rw[hT];exact Za V h8⟩
 have I:i<out.length:=by omega
 have hG:a.st.toNat - i=(a.st.toNat - (i+1))+1:=by omega
 rw[hG,fdL,if_pos I]at Y;refine Zb (cget out i) λs J=>?_;rw[J]at Y;refine Zb (fdR a out s) λR hR=>?_;rw[hR]at Y;unfold fdR at hR;refine Qi<|Qg<|Qh<|Qc<|Qe<|Qh<|Qz (α:=Nat×LI×Value) [(3,3),(5,6),(19,48)] (λz=>[(3,z.2.2),(5,.int .i64 z.1)])
  (λz w'=>Step [] U w'∧Qt 3 U.heap.size w' z.2.2 z.2.1∧Uu a z.2.1∧z.1≤a.al.length∧i<z.2.1.length∧cget z.2.1 i=s∧(a.al.drop z.1).foldl (fdE a s) z.2.1=R) (λz=>a.al.length - z.1) (by rfl) (0,out,v) ⟨O,O,Z⟩
  ⟨hj,V,G,Lk _,I,J,hR⟩ ?_
 clear hj V G hi hw hy I J hR hz;rintro⟨k,out,v⟩ g6 w6 ⟨ha,he,G,hk,I,J,H⟩;simp only[]at he G hk I J H;have hw:=G.len h0;have h2:=(h.al.ext hh).ext ha;have hl:=hs.ext ha;have h3:=Qt.ints (L:=[]) he (by omega) (by simp);refine Qg<|Qc<|Qb<|x (Qa O)<|x (Qd hl O O)<|x (Qu h2 O)<|x (QA O O)<|xe<|QD rfl (λhH=>?_) (λhH=>?_)
 ·refine Qy<|Qx<|Qb<|QN O O<|Qe ?_;rw[Ls (by omega)]at H;have hI:out=R:=H;exact⟨(i+1,out,v),by simp only[];omega,⟨O,O,Z⟩,ha,he,G,I,by simp only[];rw[hI];exact Y⟩
 have hf:k<a.al.length:=by omega
 rw[LH hf,LM,Zh hf]at H;refine Zb (cget a.al k) λu hu=>?_;rw[hu]at H;have hJ:=(h.ed.ext hh).ext ha;refine Zb (nxt a.ed s u) λt ht=>?_;have hK:fdE a s out u=if 0≤t∧t∉out then out++[t]else out:=by unfold fdE;rw[ht]
 have hm:=Qgd ho G s u;rw[hK]at H hm;refine Qi<|Qg<|Qh<|Qg<|QU (Step [] w6) [(0,true),(1,true),(2,true),(3,true),(4,true),(5,true),(6,true),(7,true),(8,true),(9,true),(10,false),(11,true)] mixed (by rfl) (by kernel_rfl) (Step.drew _ _) ?_;refine pq (λ_ hc=>Qo (hl.ext hc) O O)<|p (λ_=>Qn)<|p (λ_=>Qn)<|pic (i:=i) O h3 O O I λhZ h4=>?_;rw[J]at h4
 refine pq (λ_ hc=>Qw (h4.ext hc) O)<|p (λ_=>Qa O)<|pq (λ_ hc=>Qd (hl.ext hc) O O)<|p (λ_=>Qn) <|
  pic (i:=k) O h2 O O hf λga h5=>?_
 rw[hu]at h5;have hsr:=jE (va:=va) (vm:=vm) (a:=a) (hJ.ext (Step.drew [] w6)) s u a.st;rw[ht]at hsr;refine pq (λ_ hc=>Qw (h5.ext hc) O)<|pk<|xf<|hsr.mono ?_;rintro r7 w7 ⟨rfl,hL⟩;have hg:=(Step.drew [] w6).trans hL;refine⟨hg,p (λ_=>Qf)<|pe ?_⟩;have h6:=Qs he hg;have hM:=h3.ext hg
 refine QZ (α:=Unit) [(37,44)] (λz=>[(44,.bool (decide (0≤t∧t∉out)))]) (λz w'=>w'=w7) (by rfl) ?_ ?_
 ·refine Qx<|Qb<|xb (ZK O O) (λhp=>?_) (λhp=>?_)
  ·refine Qb<|Qb<|Qb<|xl O<|xf<|(QcU hM t).mono ?_;rintro r8 w8 ⟨rfl,rfl⟩;refine x (Zp O)<|x (Qp O)<|xe<|⟨(),⟨congrArg Value.bool ?_,Z⟩,O⟩;show(!decide (t∈out))=_;rw[Bool.eq_iff_iff];simp[hp]
  refine Qb<|xs O<|xs O<|xs O<|xs O<|x (Qp O)<|xe ?_;exact⟨(),⟨congrArg Value.bool (decide_eq_false (λe=>hp e.1)).symm,Z⟩,O⟩
 rintro _ g9 w9 rfl;refine QD rfl (λhq=>?_) (λhq=>?_)
 ·rw[if_neg hq]at H;refine Qi<|Qx<|Qb<|QN O O<|Qe ?_;exact⟨(k+1,out,v),by simp only[];omega,⟨O,O,Z⟩,ha.trans hg,h6,G,hf,I,J,H⟩
 rw[if_pos hq]at H hm;have h7:=ha.trans hg;have gb:=h7.size;refine Qx<|Qb<|Qb<|xl O<|QJ (us:=[[.int .i64 t]]) O O (by decide) (by simp) ⟨rfl,rfl,Z⟩ λgc ge hr gg hN=>?_;have hO:=Qs h6 hr;have gh:=hr.size;refine xl rfl<|Q5 (news:=[.int .i64 t]) (L:=[]) hO O O O (hN.at (by simp)) (by simp[Value.oneCell']) (by omega) (by omega) λhP gi hQ hS gj =>
  Qe ?_
 have hge:=Qq he;refine Qx<|Qb<|QN O O<|Qe<|⟨(k+1,out++[t],hP),by simp only[];omega,⟨O,O,Z⟩,(h7.trans hr).then hS (λb hb=>.inr (hge b hb).1),Qt.snoc hQ,hm,hf,by simp;omega,?_,H⟩;simp only[];rw[qI I];exact J
structure CrI (w7:World)(b4:Nat)(vcl:Value)(n:Int)(vm vd:Value)(M:LI)(E:List Ed)(w:World):Prop where
 st:Step [b4] w7 w
 B:QS w.heap b4 50 [vcl,.int .i64 n,vm,vd]
 m:Qt 3 w7.heap.size w vm M
 e:ZY 129 w7.heap.size w vd E
 dj:Dj vm vd
section
variable {w7 w w' w'':World}{b4:Nat}{vcl:Value}{n:Int}{vm vd:Value}{M:LI}{E:List Ed}
theorem CrI.ext (h:CrI w7 b4 vcl n vm vd M E w)(hs:Step [] w w'):CrI w7 b4 vcl n vm vd M E w':=⟨h.st.trans hs,h.B.ext hs,Qs h.m hs,Qs h.e hs,h.dj⟩
theorem CrI.setM (h:CrI w7 b4 vcl n vm vd M E w)(hb:b4<w7.heap.size){vm':Value}{M':LI}(hs:Step (ob vm) w w')(hm:Qt 3 w7.heap.size w' vm' M')(H:∀b∈ob vm',b∈ob vm∨w.heap.size≤b)(G:Step [b4] w' w'')
  (I:QS w''.heap b4 50 [vcl,.int .i64 n,vm',vd]):CrI w7 b4 vcl n vm' vd M' E w'' :=
 ⟨(h.st.then hs (λb hb=>.inr (Qq h.m b hb).1)).trans' G,I,Ql hm G (λb hb'=>by have:=(Qq hm b hb').1;simp;omega),
  Ql (Ql h.e hs h.dj.symm) G (λb hb'=>by have:=(Qq h.e b hb').1;simp;omega),(h.dj.symm.grow H (Q4 h.e)).symm⟩
theorem CrI.setE (h:CrI w7 b4 vcl n vm vd M E w)(hb:b4<w7.heap.size){G:Value}{E':List Ed}(hs:Step (ob vd) w w')(hm:ZY 129 w7.heap.size w' G E')(I:∀b∈ob G,b∈ob vd∨w.heap.size≤b)(H:Step [b4] w' w'')
  (J:QS w''.heap b4 50 [vcl,.int .i64 n,vm,G]):CrI w7 b4 vcl n vm G M E' w'' :=
 ⟨(h.st.then hs (λb hb=>.inr (Qq h.e b hb).1)).trans' H,J,Ql (Ql h.m hs h.dj) H (λb hb'=>by have:=(Qq h.m b hb').1;simp;omega),
  Ql hm H (λb hb'=>by have:=(Qq hm b hb').1;simp;omega),h.dj.grow I (Q4 h.m)⟩
end
theorem yf (a:QM)(fd:LI)(k:Nat):KR a fd (k+1)=if cget fd k∈a.mr then KR a fd k++[(k:Int)]else KR a fd k:=by
 unfold KR;rw[Mu,L7,Lv,LQ];by_cases h:cget fd k∈a.mr
 ·rw[if_pos h,Md,if_pos (decide_eq_true h)];rfl
 rw[if_neg h,Md,if_neg (by rw[decide_eq_false h];simp),Nj,Nv,LL]
theorem QaI (a:QM)(fd:LI):∀k,(KR a fd k).length≤k
 | 0=>by simp[KR]
 | k+1=>by
  have:=QaI a fd k;rw[yf];split
  ·simp;omega
  omega
theorem Qd5 (a:QM)(fd:LI)(k:Nat):V5 a fd (k+1)=V5 a fd k++a.al.filterMap (zp a fd k):=by
 unfold V5;rw[Mu,LD,LQ];simp
set_option maxHeartbeats 2000000 in
theorem zo {L:LN}{w:World}{va vm ve:Value}{a:QM}(h:Zq L w.heap va vm ve a)(U:Q3 a):
  QE prog 71 [.agg #[va,.int .i64 a.st,vm,ve]] w λr w'=>Step [] w w'∧Xk w.heap.size w'.heap r (Jv a):=by
 have h0:=U.st0;have h1:=U.st1;have ku:=U.al_le;have gb:=(qk U).1;have gc:=gb.len h0;refine QE.of_W func71 O ntmps71 results71 (by simp) ?_;refine Zb (found a) λfd hv=>?_;rw[hv]at gc;have ge:Jv a=⟨a.al,fd.length,KR a fd fd.length,V5 a fd fd.length⟩:=by unfold Jv;rw[hv]
 refine Qc<|xl O<|QP (us:=[va,.int .i64 a.st,vm,ve]) O λb1 w1 gg kv hw=>xl O<|Qr (us:=[nS,.int .i64 0,nS,nS]) O λb2 w2 hz kw hF=>xe ?_;have V:=gg.trans hz;have hfr:=QdV (h.ext V) U;rw[hv]at hfr;refine Qc<|x (Qo (hw.ext hz) O O)<|xl O<|xf<|hfr.mono ?_;rintro vf w3 ⟨hn,gh⟩;refine Qe ?_;have hG:=V.trans hn;have hH:=(hw.ext hz).ext hn
 refine Qc<|x (Qa O)<|x (Qd hH O O)<|xl O<|xf<|(VY (h.al.ext hG) (by omega)).mono ?_;rintro r4 w4 ⟨hJ,vcl,rfl,Y⟩;have hK:=Qt.ints (L:=[]) Y (by omega) (by simp);refine xl rfl<|Qr (us:=[nS,.int .i64 0,nS,nS]) O λb4 w5 gi gj gk =>
  xl rfl<|Qm (us:=[vcl,.int .i64 0,nS,nS]) gk O O O O ⟨hK.one,O,O,O,Z⟩ λw6 gl hL=>xe ?_
 have h2:Step [] w4 w6:=gi.then1 gl gj;have ha:=hJ.trans h2;have hM:=Qt.ints (L:=[]) gh (by omega) (by simp);have kx:=hn.size;have kz:=hJ.size;have k0:=h2.size;have k4:=hw.lt;have k5:=hF.lt;have k6:=hL.lt;refine Qc<|Qb<|x (Qu hM O)<|x (Qa O)<|xl O<|QC (u:=.int .i64 fd.length) hL O O (by simp) rfl λw7 J gm=>xe ?_;have k7:=J.size
 have k8:Step [b4] w3 w7:=(ha.any (L:=[b4])).trans' J;have hN:Step [] w w7:=(hG.trans ha).then1 J (by omega);have hO:QI [b4] w7.heap vf fd:=((hM.up (L':=[b4]) (λb hb=>.inr (by simp at hb;omega))).ext ha).st J;have h3:Zq [b4] w7.heap va vm ve a:=(h.up (λb hb=>.inr (by simp at hb;omega))).ext hN
 have gn:Qt 3 w3.heap.size w7 vcl a.al:=Ql (Qs Y h2) J (λb hb=>by have:=Q4 Y b hb;simp;omega);have hP:=(hH.ext ha).step J (by simp;omega);have go:=((hF.ext hn).ext ha).step J (by simp;omega);have he:b4<w7.heap.size:=by omega
 have n1:b1∉[b4]:=by simp;omega
 have n2:b2∉[b4]:=by simp;omega
 refine Qg<|Qc<|Qe<|Qh<|Qz (α:=Nat×Value×Value) [(5,7),(16,69)] (λz=>[(5,.int .i64 z.1)])
  (λz w'=>z.1≤fd.length∧CrI w7 b4 vcl fd.length z.2.1 z.2.2 (KR a fd z.1) (V5 a fd z.1) w'∧(V5 a fd z.1).length≤z.1*32) (λz=>fd.length - z.1) (by rfl) (0,nS,nS) La
  ⟨Lk _,⟨Step.refl _ _,gm,QQ _ _ _ _,QQ _ _ _ _,Dj.nil' _⟩,Lk _⟩ ?_
 rintro⟨i,v1,v2⟩ g8 w8 ⟨hi,G,h4⟩;simp only[]at hi G h4;have gq:=QaI a fd i;have hQ:=hO.st G.st;refine Qg<|Qc<|Qb<|Qb<|x (Qu hQ O)<|x (QA O O)<|xe<|QD rfl (λgr=>?_) (λgr=>?_)
 ·have gs:i=fd.length:=by omega
  rw[gs]at G h4 gq;refine Qy ?_;have gt:=Qt.ints (L:=[]) G.m (by omega) (by simp);have gu:=ZY.eds (L:=[]) G.e (by omega) (by simp);refine Qc<|x (Qo G.B O O)<|xl O<|Qm (us:=[vcl,.int .i64 fd.length,v1,v2]) (go.step G.st n2) O O O O ⟨hK.one,O,gt.one,gu.one,Z⟩ λw9 hp gv=>xe ?_
  refine Qk ⟨[.agg #[vcl,.int .i64 fd.length,v1,v2]],⟨⟨_,O,Qv O (gv.at (L:=[]) (by simp)).cells⟩,Z⟩,(hN.then1 G.st (by omega)).then1 hp (by omega),?_⟩;rw[ge];have k1:=Ql (Ql gn G.st (λb hb=>by have:=Q4 Y b hb;simp;omega)) hp (λb hb=>by have:=(Qq Y b hb).1;simp;omega);have k2:=Ql G.m hp (λb hb=>by have:=(Qq G.m b hb).1;simp;omega)
  have k3:=Ql G.e hp (λb hb=>by have:=(Qq G.e b hb).1;simp;omega);refine⟨vcl,v1,v2,O,λL' h5=>⟨?_,?_,?_⟩⟩
  ·exact Qt.ints k1 (by show a.al.length≤_;omega) (λb hb=>by have:=h5 b hb;omega)
  ·exact Qt.ints k2 (by show(KR a fd fd.length).length≤_;omega) (λb hb=>by have:=h5 b hb;omega)
  exact ZY.eds k3 (by show(V5 a fd fd.length).length≤_;omega) (λb hb=>by have:=h5 b hb;omega)
 have h6:i<fd.length:=by omega
 refine Zb (cget fd i) λs hq=>?_;have hf:=yf a fd i;rw[hq]at hf;refine Qi<|Qg<|Qh<|QZ (α:=Value) [(22,34)] (λz=>[]) (λz w'=>CrI w7 b4 vcl fd.length z v2 (KR a fd (i+1)) (V5 a fd i) w') (by rfl) ?_ ?_
 ·have gx:=h3.st G.st;have gy:=hP.step G.st n1;refine Qg<|QU (Step [] w8) [(0,true),(1,true),(2,true),(3,true),(4,true),(5,true),(6,false)] mixed (by rfl) (by kernel_rfl) (Step.drew _ _) ?_;refine p (λ_=>Qa O)<|pq (λ_ hc=>Qd (gy.ext hc) O O)<|p (λ_=>Qn)<|p (λ_=>Qn)<|pic (i:=i) O hQ O O h6 λk9 hR=>?_;rw[hq]at hR
  refine pq (λ_ hc=>Qw (hR.ext hc) O)<|pk<|xf<|(QcU (gx.mr.ext (Step.drew [] w8)) s).mono ?_;rintro ma mc ⟨rfl,rfl⟩;have h7:=G.ext (Step.drew [] w8);refine⟨Step.drew _ _,pe ?_⟩;refine QD O (λh8=>?_) (λh8=>?_)
  ·rw[if_neg h8]at hf;refine Qi ?_;exact⟨v1,Z,by rw[hf];exact h7⟩
  rw[if_pos h8]at hf;refine Qx<|x (Qa O)<|x (Qd h7.B O O)<|Qb<|xl O<|QJ (us:=[[.int .i64 i]]) O O (by decide) (by simp) ⟨rfl,rfl,Z⟩ λmf mg gz mh g0=>?_;have hg:=h7.ext gz;refine xl O<|Q5 (news:=[.int .i64 i]) (L:=[]) hg.m O O O (g0.at (by simp)) (by simp[Value.oneCell']) (by omega) hg.st.size λhS g1 g2 V g3=>?_
  have hT:Qt 3 w7.heap.size g1 hS (KR a fd i++[(i:Int)]):=Qt.snoc g2;refine x (Qa O)<|xl O<|QC (hg.B.step V (QW hg.m he)) O O (by simp) (Qt.ints (L:=[]) hT (by simp;omega) (by simp)).one λmj g4 g5 =>
   xe ?_
  exact⟨hS,Z,by rw[hf];exact hg.setM he V hT g3 g4 g5⟩
 rintro v3 mo mq g6;refine Zb (V5 a fd (i+1)) λE1 h9=>?_;have hU:=Qd5 a fd i;rw[h9]at hU;refine Qc<|Qe<|Qh<|Qz (α:=Nat×List Ed×Value) [(6,7),(35,69)] (λz=>[(6,.int .i64 z.1)])
  (λz w'=>z.1≤a.al.length∧CrI w7 b4 vcl fd.length v3 z.2.2 (KR a fd (i+1)) z.2.1 w'∧z.2.1.length≤i*32+z.1∧z.2.1++(a.al.drop z.1).filterMap (zp a fd i)=E1) (λz=>a.al.length - z.1) (by rfl) (0,V5 a fd i,v2) La
  ⟨Lk _,g6,h4,hU.symm⟩ ?_
 rintro⟨k,E,vd⟩ ms hA ⟨hk,I,g7,H⟩;simp only[]at hk I g7 H;have hB:=h3.st I.st;have hr:=hP.step I.st n1;have hV:=hO.st I.st;refine Qg<|Qc<|Qb<|x (Qa O)<|x (Qd hr O O)<|x (Qu hB.al O)<|x (QA O O)<|xe<|QD rfl (λg9=>?_) (λg9=>?_)
 ·refine Qy<|Qx<|Qb<|QN O O<|Qe ?_;rw[Ls (by omega),List.filterMap_nil,LL]at H;refine⟨(i+1,v3,vd),by simp only[];omega,La,h6,?_,?_⟩
  ·simp only[];rw[h9,←H];exact I
  simp only[];rw[h9,←H];omega
 have T:k<a.al.length:=by omega
 refine Zb (cget a.al k) λu hu=>?_;rw[LH T,Zh T,hu,Mx]at H;refine Zb (nxt a.ed s u) λt ht=>?_;have ka:zp a fd i u=if 0≤t then some ((i:Int),u,ixR fd t)else none:=by unfold zp;rw[hq,ht]
 rw[ka]at H;have hsr:=jE (va:=va) (vm:=vm) (a:=a) (hB.ed.ext (Step.drew [] hA)) s u a.st;rw[ht]at hsr;refine Qi<|Qg<|Qh<|Qg<|QU (Step [] hA) [(0,true),(1,true),(2,true),(3,true),(4,true),(5,true),(6,true),(7,true),(8,true),(9,true),(10,false),(11,true)] mixed (by rfl) (by kernel_rfl) (Step.drew _ _) ?_
 refine pq (λ_ hc=>Qo (hr.ext hc) O O)<|p (λ_=>Qn)<|p (λ_=>Qn)<|pic (i:=i) O hV O O h6 λmt hW=>?_;rw[hq]at hW;refine pq (λ_ hc=>Qw (hW.ext hc) O)<|p (λ_=>Qa O)<|pq (λ_ hc=>Qd (hr.ext hc) O O)<|p (λ_=>Qn) <|
  pic (i:=k) O hB.al O O T λmu hX=>?_
 rw[hu]at hX;refine pq (λ_ hc=>Qw (hX.ext hc) O)<|pk<|xf<|hsr.mono ?_;rintro mv hs ⟨rfl,kb⟩;have hh:=(Step.drew [] hA).trans kb;refine⟨hh,p (λ_=>Qf)<|pe ?_⟩;have hj:=I.ext hh;have kc:=hr.ext hh;have ke:=hV.ext hh;refine Qc<|Qb<|x (ZK O O)<|xe<|QD rfl (λhC=>?_) (λhC=>?_)
 ·rw[if_neg hC]at H;refine Qi<|Qx<|Qb<|QN O O<|Qe ?_;exact⟨(k+1,E,vd),by simp only[];omega,La,T,hj,by simp only[];omega,H⟩
 rw[if_pos hC]at H;have kf:=Qq I.e;have kg:QI (b4::ob vd) hs.heap va a.al:=(((h3.al.up (L':=b4::ob vd) (λb hb=>by
  rcases Lc.1 hb with rfl|hb
  ·exact .inl (by simp)
  exact .inr (kf b hb).1)).step I.st (by simp)).ext hh)
 have kh:=QW hj.e he;have ki:b1∉ob vd:=QW hj.e (by omega);refine QU (Step (ob vd) hs) [(0,true),(1,true),(2,true),(3,true),(4,true),(5,true),(6,true),(7,true),(8,true),(9,true),(10,false),(11,true),(12,false),(13,false),(14,true),(15,false)] mixed (by rfl) (by kernel_rfl) (Step.drew _ _) ?_
 refine p (λ_=>Qa O)<|pq (λ_ hc=>Qd (hj.B.step hc kh) O O)<|p (λ_=>Qn)<|p (λ_=>Qa O)<|pq (λ_ hc=>Qd (kc.step hc ki) O O) <|
  p (λ_=>Qn)<|pic (i:=k) O kg O O T λmw hY=>?_
 rw[hu]at hY;refine pq (λ_ hc=>Qw (hY.step hc (λb hb=>Ln _ hb)) O)<|p (λ_=>Qn)<|p (λ_=>Qn) <|
  pk<|xf<|(QdU (ke.ext (Step.drew [] hs)) t).mono ?_
 rintro mx my ⟨rfl,rfl⟩;refine⟨Step.drew _ _,p (λ_=>QK ⟨O,O,O,Z⟩)<|pk<|QJ (us:=[QB ((i:Int),u,ixR fd t)]) O O (by decide) (by exact(by decide:1*3≤1000000)) ⟨O,O,Z⟩ λmz m0 kj m1 kk=>?_⟩;have hD:=(Step.drew [] hs).trans kj;have hm:=hj.ext hD;refine⟨hD.any,?_⟩
 refine pk<|Q5 (news:=QB ((i:Int),u,ixR fd t)) (L:=[]) hm.e O O O (kk.at (by simp)) (λy hy=>by simp only[QB,List.mem_cons,List.not_mem_nil,or_false]at hy;rcases hy with rfl|rfl|rfl <;> rfl) (by omega) hm.st.size λhZ kn ko hE kp=>⟨(hD.any (L:=ob vd)).trans' hE,?_⟩
 have ga:ZY 129 w7.heap.size kn hZ (E++[((i:Int),u,ixR fd t)]):=ZY.snoc ko;refine p (λ_=>Qa O)<|pkl (hl:=by kernel_rfl)<|QC (hm.B.step hE (QW hm.e he)) O O (by simp) (ZY.eds (L:=[]) ga (by simp;omega) (by simp)).one λm2 kq kr =>
  pe ?_
 have kt:=hm.setE he hE ga kp kq kr;refine Qx<|Qb<|QN O O<|Qe<|⟨(k+1,E++[((i:Int),u,ixR fd t)],hZ),by simp only[];omega,La,T,kt,by simp;omega,?_⟩;simp only[List.append_assoc,List.singleton_append];exact H
end Go.Proofs.YtjcgijbhaemldaaGreatDoor
namespace Go.Lg
section
variable {P:Program}{f:Fr}{w:World}{d:Option Nat}{ty:Nat}{ps:String}{af:Array Edge}{gd:Option (Nat×Bool)}
theorem Ve {t G:Nat}{x y:Operand}{k:IntKind}{a b:Int}(hx:ev f x=.int k a)(hy:ev f y=.int k b)(ha:0≤a)(hb:0<b):
  (execOp (ev f) ⟨d,.binOp .rem t x y G,ty,ps,af,gd⟩).run P w=.ok (.value (.int k (a % b))) w:=by
 refine YV hx hy ?_;have h1:¬b=0:=by omega
 simp[binOp,Op.intDiv,h1,Int.tmod_eq_emod_of_nonneg ha]
end
end Go.Lg
namespace Go.Proofs.YtjcgijbhaemldaaGreatDoor
open Go.Proofs.Tryz
open Go.Lg
instance ayMa1:Ay prog 23 5 22 5:=⟨by kernel_rfl,by kernel_rfl⟩
instance ayMa2:Ay prog 22 5 5 1:=⟨by kernel_rfl,by kernel_rfl⟩
abbrev bys (ns:LN):LV:=ns.map λn:Nat=>.int .u8 (n:Int)
theorem V6 {ns:LN}{j:Nat}(h:j<ns.length):(bys ns)[j]?=some (.int .u8 ((ns.getD j 0:Nat):Int)):=by simp[bys,List.getD,h]
theorem QaJ:∀(ns:LN),ZF (bys ns)
 | []=>trivial
 | _::ns=>⟨rfl,QaJ ns⟩
theorem Xs {ns:LN}(h:∀n∈ns,n<256)(j:Nat):ns.getD j 0<256:=by
 by_cases hj:j<ns.length
 ·simp only[List.getD,List.getElem?_eq_getElem hj,Option.getD_some];exact h _ (Lh hj)
 simp[List.getD,hj]
structure GrI (al:LI)(S i k:Nat)(M:LI)(E:List Ed):Prop where
 mb:∀x∈M,0≤x∧x<S
 mi:Yy M
 ml:∀x∈M,x<(i:Int)+1
 mn:M.length≤S
 eb:∀e∈E,0≤e.1∧e.1<S∧e.2.1∈al∧0≤e.2.2∧e.2.2<S
 ei:E.Pairwise λx y=>x.1<y.1∨(x.1=y.1∧x.2.1<y.2.1)
 el:∀e∈E,e.1<i∨(e.1=i∧e.2.1∈al.take k)
 en:E.length≤i*5+k
theorem yZ {S:Nat}{M:LI}(hb:∀x∈M,0≤x∧x<S)(hi:Yy M):M.length≤S:=pig S M (hi.imp (λh=>by omega)) hb
theorem GrI.mark {al:LI}{S i:Nat}{M:LI}{E:List Ed}(h:GrI al S i 0 M E)(hm:∀x∈M,x<(i:Int))(hi:i<S):GrI al S i 0 (M++[(i:Int)]) E:=by
 have G:∀x∈M++[(i:Int)],0≤x∧x<S:=λx hx=>by
  rcases Lp.1 hx with hx|hx
  ·exact h.mb x hx
  simp only[List.mem_singleton]at hx;omega
 have H:Yy (M++[(i:Int)]):=by
  refine Mn.2 ⟨h.mi,by simp,λx hx y hy=>?_⟩;simp only[List.mem_singleton]at hy;subst hy;exact hm x hx
 refine⟨G,H,λx hx=>?_,yZ G H,h.eb,h.ei,h.el,h.en⟩;rcases Lp.1 hx with hx|hx
 ·have:=hm x hx;omega
 simp only[List.mem_singleton]at hx;omega
theorem GrI.skip {al:LI}{S i k:Nat}{M:LI}{E:List Ed}(h:GrI al S i k M E)(hk:k<al.length):GrI al S i (k+1) M E :=
 ⟨h.mb,h.mi,h.ml,h.mn,h.eb,h.ei,λe he=>(h.el e he).imp id (λx=>⟨x.1,by rw[Le hk];exact LS _ x.2⟩),by have:=h.en;omega⟩
theorem GrI.edge {al:LI}{S i k:Nat}{M:LI}{E:List Ed}(h:GrI al S i k M E)(hk:k<al.length)(ha:Yy al)(hi:i<S){t:Int}(G:0≤t)(ht:t<S):GrI al S i (k+1) M (E++[((i:Int),cget al k,t)]):=by
 have H:cget al k∈al:=XQ hk;refine⟨h.mb,h.mi,h.ml,h.mn,λe he=>?_,?_,λe he=>?_,by have:=h.en;simp;omega⟩
 ·rcases Lp.1 he with he|he
  ·exact h.eb e he
  simp only[List.mem_singleton]at he;subst he;exact⟨by simp only[];omega,by simp only[];omega,H,G,ht⟩
 ·refine Mn.2 ⟨h.ei,by simp,λx hx y hy=>?_⟩;simp only[List.mem_singleton]at hy;subst hy;rcases h.el x hx with h1|⟨h1,h2⟩
  ·left;exact h1
  right;refine⟨h1,?_⟩;simp only[];have hp:Yy (al.take k++al.drop k):=by rw[My];exact ha
  refine(Mn.1 hp).2.2 _ h2 _ ?_;rw[LH hk,Zh hk];exact Lr
 rw[Le hk,Zh hk];rcases Lp.1 he with he|he
 ·exact(h.el e he).imp id (λx=>⟨x.1,LS _ x.2⟩)
 simp only[List.mem_singleton]at he;subst he;exact .inr ⟨O,MZ _ (by simp)⟩
theorem GrI.next {al:LI}{S i k:Nat}{M:LI}{E:List Ed}(h:GrI al S i k M E)(hk:k≤5):GrI al S (i+1) 0 M E :=
 ⟨h.mb,h.mi,λx hx=>by have:=h.ml x hx;omega,h.mn,h.eb,h.ei,λe he=>by rcases h.el e he with h1|h1 <;> (left;omega),by have:=h.en;omega⟩
set_option maxHeartbeats 2000000 in
theorem QdN {L:LN}{w:World}{v:Value}{al:LI}{ns:LN}(h:QI L w.heap v al)(hb:∀e∈al,0≤e∧e<32)(hi:Yy al)(hn:ns.length=27)(ho:∀n∈ns,n<256):
  QE prog 30 [v,.agg (bys ns).toArray] w λr w'=>Step [] w w'∧∃a:QM,Xk w.heap.size w'.heap r a∧Q3 a∧a.st≤5∧a.al=al ∧
   (ns.getD 0 0<250→∃a0:QM,Q3 a0∧0<a0.st∧a0.st≤((1+ns.getD 0 0 % 5:Nat):Int)∧a=Jv a0):=by
 have kx:al.length≤32:=pig 32 al (hi.imp (λh=>by omega)) (λx hx=>by have:=hb x hx;omega);refine QE.of_W func30 O ntmps30 results30 (by simp) ?_;have g0:=V6 (ns:=ns) (j:=0) (by omega);have g1:=V6 (ns:=ns) (j:=1) (by omega);have l0:=Xs ho 0;have l1:=Xs ho 1;refine Zb (ns.getD 0 0) λs0 hW=>?_;refine Zb (ns.getD 1 0) λm1 hX=>?_;rw[hW]at g0 l0;rw[hX]at g1 l1
 refine Qc<|xl O<|QP (us:=bys ns) O λb3 w1 hY kz h3=>xl O<|Qr (us:=[nS,.int .i64 0,nS,nS]) O λb4 w2 h4 k0 hp=>xe ?_;have hm:=hY.trans h4;have hr:=h3.ext h4;have k4:=h3.lt;have k5:=hp.lt;refine Qg<|Qc<|x (Qa O)<|x (Qd hr O g0)<|x (ZK O O)<|xe<|Q2 rfl (λhZ=>?_) (λhZ=>?_)
 ·refine Qc<|Qb<|xl O<|xf<|(VY (h.ext hm) (by omega)).mono ?_;rintro r3 w3 ⟨h5,vcl,rfl,T⟩;have hs:=Qt.ints (L:=[]) T (by omega) (by simp);refine xl O<|Qm (us:=[vcl,.int .i64 0,nS,nS]) (hp.ext h5) O O O O ⟨hs.one,O,O,O,Z⟩ λw4 h6 ga=>xe ?_;have gb:=Ql T h6 (λb hb=>by have:=(Qq T b hb).1;simp;omega)
  refine Qk ⟨[.agg #[vcl,.int .i64 0,nS,nS]],⟨⟨_,O,Qv O (ga.at (L:=[]) (by simp)).cells⟩,Z⟩,(hm.trans h5).then1 h6 (by omega),⟨al,0,[],[]⟩,?_,?_,(by decide:(0:Int)≤5),rfl,λh=>absurd h (by omega)⟩
  ·exact⟨vcl,_,_,O,λL' gc=>⟨Qt.ints gb (by show al.length≤_;omega) (λb hb=>by have:=gc b hb;omega),Zv.nil _ _ _,Zv.nil _ _ _⟩⟩
  exact⟨hb,hi,(by decide:(0:Int)≤0),(by decide:(0:Int)≤4096),by simp,by simp,by simp,by simp⟩
 refine Qi<|Qc<|Qb<|xl O<|xf<|(VY (h.ext hm) (by omega)).mono ?_;rintro r5 w5 ⟨h7,vcl,rfl,T⟩;have hs:=Qt.ints (L:=[]) T (by omega) (by simp);refine xl rfl<|Qr (us:=[nS,.int .i64 0,nS,nS]) O λH w6 ge gg gh =>
  xl rfl<|Qm (us:=[vcl,.int .i64 0,nS,nS]) gh O O O O ⟨hs.one,O,O,O,Z⟩ λw7 gi h8=>xe ?_
 have h9:Step [] w5 w7:=ge.then1 gi gg;have hf:=h7.trans h9;have k6:=h7.size;have k7:=h8.lt;refine Zb (1+s0 % 5) λS hS=>?_;have gk:(1:Int)+(s0:Int) % 5=(S:Int):=by omega
 refine Qc<|x (Qa O)<|x (Qd (hr.ext hf) O g0)<|x (Ve (a:=(s0:Int)) (b:=5) O O (by omega) (by omega))<|x (ZZ (k':=.i64) O ⟨by omega,by omega⟩)<|QN O O<|x (Qa O) <|
  xl rfl<|QC (u:=.int .i64 S) h8 O (congrArg (Value.int .i64) gk) (by simp) rfl λI Y gl=>xe ?_
 have k8:=Y.size;have k9:Step [H] w2 I:=(hf.any (L:=[H])).trans' Y;have hA:Step [] w I:=(hm.trans hf).then1 Y (by omega);have hB:QI [H] I.heap v al:=(h.up (L':=[H]) (λb hb=>.inr (by simp at hb;omega))).ext hA;have gm:Qt 3 w2.heap.size I vcl al:=Ql (Qs T h9) Y (λb hb=>by have:=Q4 T b hb;simp;omega);have hC:=(hr.ext hf).step Y (by simp;omega)
 have gn:=(hp.ext hf).step Y (by simp;omega);have hg:H<I.heap.size:=by omega
 have n3:b3∉[H]:=by simp;omega
 have n4:b4∉[H]:=by simp;omega
 refine Qg<|Qc<|Qe<|Qh<|Qz (α:=Nat×Value×Value×LI×List Ed) [(6,8),(22,76)] (λz=>[(6,.int .i64 z.1)])
  (λz w'=>z.1≤S∧CrI I H vcl S z.2.1 z.2.2.1 z.2.2.2.1 z.2.2.2.2 w'∧GrI al S z.1 0 z.2.2.2.1 z.2.2.2.2∧∀x∈z.2.2.2.1,x<(z.1:Int)) (λz=>S - z.1) (by rfl) (0,nS,nS,[],[]) La
  ⟨Lk _,⟨Step.refl _ _,gl,QQ _ _ _ _,QQ _ _ _ _,Dj.nil' _⟩,⟨by simp,by simp,by simp,by simp,by simp,by simp,by simp,by simp⟩,by simp⟩ ?_
 rintro⟨i,v1,v2,M,E⟩ g9 w9 ⟨go,G,J,hM⟩;simp only[]at go G J hM;have ma:=J.mn;have mc:=J.en;refine Qg<|Qc<|Qb<|x (Qa O)<|x (Qd G.B O O)<|x (QA O O)<|xe<|QD rfl (λgq=>?_) (λgq=>?_)
 ·have mf:i=S:=by omega
  refine Qy ?_;have gr:=Qt.ints (L:=[]) G.m (by omega) (by simp);have gs:=ZY.eds (L:=[]) G.e (by omega) (by simp);have gt:Qt 3 w2.heap.size w9 vcl al:=Ql gm G.st (λb hb=>by have:=Q4 T b hb;simp;omega);have gu:Zq [] w9.heap vcl v1 v2 ⟨al,(S:Int),M,E⟩:=⟨Qt.ints gt (by show al.length≤_;omega) (by simp),gr,gs⟩
  have hu:Q3 ⟨al,(S:Int),M,E⟩:=⟨hb,hi,by simp only[];omega,by simp only[];omega,J.mb,J.mi,J.eb,J.ei⟩;have hv:=Qdb hu;have hD:Step [] w w9:=hA.then1 G.st (by omega);have gv:=gn.step G.st n4;have mg:=G.st.size;refine Qc<|x (Qo G.B O O)<|xl O<|xf<|(zo (a:=⟨al,(S:Int),M,E⟩) gu hu).mono ?_;rintro vr mh ⟨hE,hF⟩;obtain⟨us,hH,hJ,gx⟩:=Yo hF
  refine xl O<|Qm (us:=us) (gv.ext hE) O hH hJ O gx λmj hK gy=>xe ?_;have gz:=hD.size;refine Qk ⟨[.agg us.toArray],⟨⟨_,O,Qv hJ (gy.at (L:=[]) (by simp)).cells⟩,Z⟩,(hD.trans hE).then1 hK (by omega),Jv ⟨al,(S:Int),M,E⟩,?_,hv.1,?_,hv.2.1,λ_=>⟨⟨al,(S:Int),M,E⟩,hu,by simp only[];omega,by simp only[];omega,O⟩⟩
  ·show Xk _ _ (.agg us.toArray) _;rw[←hH];exact(Xe hF (by omega) hK).mono gz
  have:=hv.2.2;simp only[]at this;omega
 have hw:i<S:=by omega
 refine Qi<|Qg<|Qh<|QZ (α:=Value×LI) [(28,39)] (λz=>[]) (λz w'=>CrI I H vcl S z.1 v2 z.2 E w'∧GrI al S i 0 z.2 E) (by rfl) ?_ ?_
 ·have g2:m1 / 2 ^ i<256:=Nat.lt_of_le_of_lt (Nat.div_le_self _ _) l1;refine Qc<|x (Qa O)<|x (Qd (hC.step G.st n3) O g1)<|Qb<|x (zH (n:=i) O O (by show i≤8;omega))<|x (UW (a:=m1 / 2 ^ i) (b:=1) (congrArg (Value.int .u8) (yA m1 i)) O g2 (by decide))<|x (Zc O O)<|xe<|QD O (λg3=>?_) (λg3=>?_)
  ·refine Qi ?_;exact⟨(v1,M),Z,G,J⟩
  refine Qx<|x (Qa O)<|x (Qd G.B O O)<|Qb<|xl O<|QJ (us:=[[.int .i64 i]]) O O (by decide) (by simp) ⟨rfl,rfl,Z⟩ λmo mq g4 ms g5=>?_;have hh:=G.ext g4;refine xl O<|Q5 (news:=[.int .i64 i]) (L:=[]) hh.m O O O (g5.at (by simp)) (by simp[Value.oneCell']) (by omega) hh.st.size λhL g6 g7 hN g8=>?_;have hO:Qt 3 I.heap.size g6 hL (M++[(i:Int)]):=Qt.snoc g7
  refine x (Qa O)<|xl O<|QC (hh.B.step hN (QW hh.m hg)) O O (by simp) (Qt.ints (L:=[]) hO (by simp;omega) (by simp)).one λmt ka kb =>
   xe ?_
  exact⟨(hL,M++[(i:Int)]),Z,hh.setM hg hN hO g8 ka kb,J.mark hM hw⟩
 rintro⟨v3,M3⟩ mu mv ⟨hP,hQ⟩;simp only[]at hP hQ;refine Qc<|Qe<|Qh<|Qz (α:=Nat×Value×List Ed) [(7,8),(40,76)] (λz=>[(7,.int .i64 z.1)])
  (λz w'=>z.1≤al.length∧z.1≤5∧CrI I H vcl S v3 z.2.1 M3 z.2.2 w'∧GrI al S i z.1 M3 z.2.2) (λz=>5 - z.1) (by rfl) (0,v2,E) La
  ⟨Lk _,Lk _,hP,hQ⟩ ?_
 rintro⟨k,vd,F⟩ mw kc ⟨hk,hR,ha,he⟩;simp only[]at hk hR ha he;have ke:=hB.st ha.st;have mx:=he.en;refine Qg<|QZ (α:=Unit) [(40,47)] (λz=>[(47,.bool (decide (k<al.length∧k<5)))]) (λz w'=>w'=kc) (by rfl) ?_ ?_
 ·refine Qx<|Qb<|Qb<|x (Qu ke O)<|xb (QA O O) (λhT=>?_) (λhT=>?_)
  ·refine Qb<|Qb<|x (QA O O)<|x (Qp O)<|xe<|⟨(),⟨congrArg Value.bool ?_,Z⟩,O⟩;exact decide_eq_decide.2 ⟨λe=>⟨by omega,by omega⟩,λe=>by omega⟩
  refine Qb<|xs O<|xs O<|x (Qp O)<|xe ?_;exact⟨(),⟨congrArg Value.bool (decide_eq_false (λe=>hT (by omega))).symm,Z⟩,O⟩
 rintro _ my U rfl;refine QD rfl (λhz=>?_) (λhz=>?_)
 ·refine Qy<|Qx<|Qb<|QN O O<|Qe ?_;exact⟨(i+1,v3,vd,M3,F),by simp only[];omega,La,hw,ha,he.next hR,λx hx=>by have:=he.ml x hx;simp only[];omega⟩
 have hk1:k<al.length:=hz.1;have h0:k<5:=hz.2;have gj:=V6 (ns:=ns) (j:=0+2+i*5+k*1) (by omega);have lj:=Xs ho (0+2+i*5+k*1);refine Zb (ns.getD (0+2+i*5+k*1) 0) λq hq=>?_;rw[hq]at gj lj;have kf:=hC.step ha.st n3;have kg:0≤(q:Int) % ((S:Int)+2):=Int.emod_nonneg _ (by omega)
 refine Qi<|Qg<|Qh<|Qg<|QU (Step [] U) [(0,true),(1,true),(2,true),(3,true),(4,true),(5,true),(6,true),(7,true),(8,true),(9,true),(10,true),(11,true)] mixed (by rfl) (by kernel_rfl) (Step.drew _ _) ?_;refine p (λ_=>Qn)<|p (λ_=>Qn)<|p (λ_=>Qa O)<|p (λ_=>ZD (i:=i) O O (by omega))<|p (λ_=>ZD (i:=k) O O h0)<|pq (λ_ hc=>Qd (kf.ext hc) O gj) <|
  p (λ_=>ZZ (k':=.i64) O ⟨by omega,by omega⟩)<|p (λ_=>Qa O)<|pq (λ_ hc=>Qd (ha.B.ext hc) O O)<|p (λ_=>XG O O ⟨by omega,by omega⟩) <|
  p (λ_=>Ve (a:=(q:Int)) (b:=(S:Int)+2) O O (by omega) (by omega))<|p (λ_=>Qf)<|pe ?_
 have V:=ha.ext (Step.drew [] U);refine Zb ((q:Int) % ((S:Int)+2)) λt ht=>?_;refine Qc<|Qb<|x (Qa O)<|x (Qd V.B O O)<|x (QA O O)<|xe<|QD rfl (λkh=>?_) (λkh=>?_)
 ·refine Qi<|Qx<|Qb<|QN O O<|Qe ?_;exact⟨(k+1,vd,F),by simp only[];omega,La,hk1,h0,V,he.skip hk1⟩
 have ki:=Qq V.e;have kj:QI (H::ob vd) { U with drawn:=U.drawn+1 }.heap v al:=((hB.up (L':=H::ob vd) (λb hb=>by
  rcases Lc.1 hb with rfl|hb
  ·exact .inl (by simp)
  exact .inr (ki b hb).1)).step V.st (by simp))
 have kk:=QW V.e hg;refine QU (Step (ob vd) { U with drawn:=U.drawn+1 }) [(0,true),(1,true),(2,true),(3,true),(4,true),(5,true),(6,true),(7,true),(8,true),(9,false),(10,false),(11,true),(12,false)] mixed (by rfl) (by kernel_rfl) (Step.drew _ _) ?_
 refine p (λ_=>Qa O)<|pq (λ_ hc=>Qd (V.B.step hc kk) O O)<|p (λ_=>Qn)<|p (λ_=>Qn)<|p (λ_=>Qn) <|
  pic (i:=k) O kj O O hk1 λmz kn=>pq (λ_ hc=>Qw (kn.step hc (λb hb=>Ln _ hb)) O)<|p (λ_=>Qn)<|p (λ_=>QK ⟨O,O,O,Z⟩) <|
  pk<|QJ (us:=[QB ((i:Int),cget al k,(q:Int) % ((S:Int)+2))]) O O (by decide) (by exact(by decide:1*3≤1000000)) ⟨O,O,Z⟩ λm0 m2 ko m3 kp=>?_
 have h1:=(Step.drew [] { U with drawn:=U.drawn+1 }).trans ko
 have hj:=V.ext h1;refine⟨h1.any,?_⟩;refine pk<|Q5 (news:=QB ((i:Int),cget al k,(q:Int) % ((S:Int)+2))) (L:=[]) hj.e O O O (kp.at (by simp)) (λy hy=>by simp only[QB,List.mem_cons,List.not_mem_nil,or_false]at hy;rcases hy with rfl|rfl|rfl <;> rfl) (by omega) hj.st.size λhU kq kr h2 kt=>⟨(h1.any (L:=ob vd)).trans' h2,?_⟩
 have hV:ZY 129 I.heap.size kq hU (F++[((i:Int),cget al k,(q:Int) % ((S:Int)+2))]):=ZY.snoc kr;refine p (λ_=>Qa O)<|pkl (hl:=by kernel_rfl)<|QC (hj.B.step h2 (QW hj.e hg)) O O (by simp) (ZY.eds (L:=[]) hV (by simp;omega) (by simp)).one λm4 ku kv=>pe ?_;have kw:=hj.setE hg h2 hV kt ku kv;refine Qx<|Qb<|QN O O<|Qe ?_
 exact⟨(k+1,hU,F++[((i:Int),cget al k,(q:Int) % ((S:Int)+2))]),by simp only[];omega,La,hk1,h0,kw,he.edge hk1 hi hw kg (by omega)⟩
end Go.Proofs.YtjcgijbhaemldaaGreatDoor
namespace Go.Lg
section
variable {P:Program}{f:Fr}{w:World}{d:Option Nat}{ty:Nat}{ps:String}{af:Array Edge}{gd:Option (Nat×Bool)}
theorem VR {t sz:Nat}[Ag P t sz]{x:Operand}{b o T:Nat}{cs us:LV}(h:QS w.heap b T cs)(hx:ev f x=.pointer (some ⟨b,o,none⟩))(hl:us.length=sz)(G:∀j u,us[j]?=some u→cs[o+j]?=some u):
  (execOp (ev f) ⟨d,.load t x,ty,ps,af,gd⟩).run P w=.ok (.value (.agg us.toArray)) w:=by
 refine Uv hx hl λj u hu=>?_;rw[Xz,Yk,h.cell];exact G j u hu
end
end Go.Lg
namespace Go.Proofs.YtjcgijbhaemldaaGreatDoor
open Go.Proofs.Tryz
open Go.Lg
theorem Qja {ns:LN}{o n:Nat}:∀j u,(bys ((ns.drop o).take n))[j]?=some u→(bys ns)[o+j]?=some u:=by
 intro j u h;simp only[bys,List.getElem?_map,List.getElem?_take,List.getElem?_drop]at h ⊢;split at h
 ·exact h
 cases h
theorem Qjb {ns:LN}(h:∀n∈ns,n<256)(o n:Nat):∀m∈(ns.drop o).take n,m<256:=λm hm=>h m (Mz (LO hm))
theorem Qcm (m k:Nat):∀e∈setK m k,0≤e∧e<k:=by
 intro e he;simp only[setK,List.mem_map,List.mem_filter,List.mem_range'_1]at he;obtain⟨i,⟨hi,_⟩,rfl⟩:=he;omega
theorem QcF (keep:Bool→Bool→Bool):∀(n:Nat) (a b:LI),a.length+b.length≤n→Yy a→Yy b→Yy (mrg keep a b):=by
 intro n;induction n with
 | zero =>
  intro a b h _ _;have ha:a=[]:=Lq (by omega);have hb:b=[]:=Lq (by omega);subst ha hb;rw[JD];exact List.Pairwise.nil
 | succ n ih =>
  intro a b H ia ib;by_cases h:a=[]∧b=[]
  ·obtain⟨rfl,rfl⟩:=h;rw[JD];exact List.Pairwise.nil
  have I:=qd h;have itl:∀(c:Bool) (l:LI),Yy l→Yy (tl c l):=λc l hl=>by
   cases c
   ·exact hl
   cases l with
   | nil=>exact hl
   | cons y l=>exact hl.tail
  have G:=ih (tl (Xr a b) a) (tl (Xr b a) b) (by omega) (itl _ _ ia) (itl _ _ ib);rw[Jn keep h];cases keep (Xr a b) (Xr b a)with
  | false=>simpa using G
  | true =>
   simp only[cond_true,List.singleton_append];refine LR.2 ⟨λx hx=>?_,G⟩;have hm:=(yR (itl _ _ ia) (itl _ _ ib) x).1 hx;cases a with
   | nil =>
    cases b with
    | nil=>exact absurd ⟨O,O⟩ h
    | cons y b =>
     simp only[Xr,tl,cond_true,cond_false,List.tail_cons,List.not_mem_nil,false_or,Go.Proofs.YtjcgijbhaemldaaGreatDoor.hx,List.headD_cons]at hm ⊢;exact ib.lt_of hm.1
   | cons u a =>
    cases b with
    | nil =>
     simp only[Xr,tl,cond_true,cond_false,List.tail_cons,List.not_mem_nil,or_false,Go.Proofs.YtjcgijbhaemldaaGreatDoor.hx,List.headD_cons]at hm ⊢;exact ia.lt_of hm.1
    | cons y b =>
     rcases Int.lt_trichotomy u y with h1|h1|h1
     ·have e1:decide (u≤y)=true:=decide_eq_true (by omega);have e2:decide (y≤u)=false:=decide_eq_false (by omega);simp only[Xr,tl,e1,e2,cond_true,cond_false,List.tail_cons,Go.Proofs.YtjcgijbhaemldaaGreatDoor.hx,List.headD_cons]at hm ⊢;rcases hm.1 with h2|h2
      ·exact ia.lt_of h2
      rcases Lc.1 h2 with h2|h2
      ·omega
      have:=ib.lt_of h2;omega
     ·have e1:decide (u≤y)=true:=decide_eq_true (by omega);have e2:decide (y≤u)=true:=decide_eq_true (by omega);simp only[Xr,tl,e1,e2,cond_true,List.tail_cons,Go.Proofs.YtjcgijbhaemldaaGreatDoor.hx,List.headD_cons]at hm ⊢;rcases hm.1 with h2|h2
      ·have:=ia.lt_of h2;omega
      have:=ib.lt_of h2;omega
     have e1:decide (u≤y)=false:=decide_eq_false (by omega);have e2:decide (y≤u)=true:=decide_eq_true (by omega);simp only[Xr,tl,e1,e2,cond_true,cond_false,List.tail_cons,Go.Proofs.YtjcgijbhaemldaaGreatDoor.hx,List.headD_cons]at hm ⊢;rcases hm.1 with h2|h2
     ·rcases Lc.1 h2 with h2|h2
      ·omega
      have:=ia.lt_of h2;omega
     exact ib.lt_of h2
end Go.Proofs.YtjcgijbhaemldaaGreatDoor
namespace Go.Lg
section
variable {P:Program}{f:Fr}{w:World}{d:Option Nat}{ty:Nat}{ps:String}{af:Array Edge}{gd:Option (Nat×Bool)}{all:List Oper}{C:World→Prop}{K:Fr→World→Prop}
theorem tf {pre:List (Nat×Bool)}{i j:Nat}{G H:Pt}(h:XP P all C (λf w=>(Z2 all f (QO all i)=true∧XO P (QO all i) f w λE w'=>C w'∧XT P all C K G E w') ∧
   (Z2 all f (QO all j)=true∧XO P (QO all j) f w λE w'=>C w'∧XT P all C K H E w')) pre f w):XT P all C K (.fk pre i j G H) f w:=h
theorem tp {l:List (Nat×Bool)}(h:XP P all C K l f w):XT P all C K (.pl l) f w:=h
end
end Go.Lg
namespace Go.Proofs.YtjcgijbhaemldaaGreatDoor
open Go.Lg
theorem Vi (es:List Ed)(s v:Int):nxt es s v=match eget es s v with|some u=>u|none=>-1:=by
 induction es with
 | nil=>rfl
 | cons e es ih =>
  rw[nxt,eget];split
  ·rfl
  exact ih
end Go.Proofs.YtjcgijbhaemldaaGreatDoor
namespace Go.Lg
section
variable {P:Program}{f:Fr}{w:World}{d:Option Nat}{ty:Nat}{ps:String}{af:Array Edge}{gd:Option (Nat×Bool)}
end
end Go.Lg
namespace Go.Proofs.YtjcgijbhaemldaaGreatDoor
open Go.Lg
section
variable {w4 w w' w'':World}{b:Nat}{m q:Bool}{ve vd:Value}{E D:LI}
end
end Go.Proofs.YtjcgijbhaemldaaGreatDoor
namespace Go.Lg
section
variable {P:Program}{f:Fr}{w:World}{d:Option Nat}{ty:Nat}{ps:String}{af:Array Edge}{gd:Option (Nat×Bool)}
end
end Go.Lg
namespace Go.Proofs.YtjcgijbhaemldaaGreatDoor
open Go.Lg
def grid (g:Nat→Int→Option Ed)(vs:LI)(n:Nat):List Ed:=(List.range' 0 n).flatMap λj=>vs.filterMap (g j)
theorem VX (g:Nat→Int→Option Ed)(vs:LI)(n:Nat):grid g vs (n+1)=grid g vs n++vs.filterMap (g n):=by
 unfold grid;rw[Mu,LD];simp
theorem Ue (l m:List Ed)(s v:Int):eget (l++m) s v=match eget l s v with|some u=>some u|none=>eget m s v:=by
 induction l with
 | nil=>rfl
 | cons e l ih =>
  rw[Mg,eget,eget];split
  ·rfl
  exact ih
def qV (g:Nat→Int→Option Ed):Prop:=∀j v e,g j v=some e→e.1=(j:Int)∧e.2.1=v
theorem Qat {g:Nat→Int→Option Ed}(E:qV g)(j:Nat)(v:Int):∀(vs:LI),eget (vs.filterMap (g j)) j v=if v∈vs then(g j v).map (·.2.2)else none
 | []=>by simp[eget]
 | u::vs=>by
  have ih:=Qat E j v vs;rw[Mx];cases hu:g j u with
  | none =>
   simp only[];rw[ih];by_cases e:v=u
   ·subst e;simp[hu]
   simp[e]
  | some e =>
   have he:=E j u e hu;simp only[];rw[eget];by_cases e2:u=v
   ·subst e2;rw[if_pos he,if_pos Lr,hu];rfl
   rw[if_neg (λh=>e2 (he.2.symm.trans h.2)),ih];simp[Ne.symm e2]
theorem Qas {g:Nat→Int→Option Ed}(E:qV g){j i:Nat}(h:j≠i)(v:Int)(vs:LI):eget (vs.filterMap (g j)) i v=none:=by
 refine Ju λe he h2=>?_;obtain⟨u,_,hu⟩:=MQ.1 he;have:=E j u e hu;omega
theorem yb {g:Nat→Int→Option Ed}(E:qV g)(vs:LI)(j:Nat)(v:Int):∀n,eget (grid g vs n) j v=if j<n∧v∈vs then(g j v).map (·.2.2)else none
 | 0=>by simp[grid,eget]
 | n+1=>by
  rw[VX,Ue,yb E vs j v n];by_cases e:j=n
  ·subst e;rw[if_neg (by omega),Qat E];simp
  rw[Qas E (Ne.symm e)];by_cases h:j<n∧v∈vs
  ·rw[if_pos h,if_pos ⟨by omega,h.2⟩];cases(g j v).map (·.2.2) <;> rfl
  rw[if_neg h,if_neg (λh2=>h ⟨by omega,h2.2⟩)]
theorem Qak {g:Nat→Int→Option Ed}{vs:LI}{n:Nat}{e:Ed}(h:e∈grid g vs n):∃j v,j<n∧v∈vs∧g j v=some e:=by
 unfold grid at h;obtain⟨j,hj,h2⟩:=Mv.1 h;obtain⟨v,E,h3⟩:=MQ.1 h2;rw[Mc]at hj;exact⟨j,v,by omega,E,h3⟩
theorem QcV {g:Nat→Int→Option Ed}(E:qV g){vs:LI}(hi:Yy vs):∀n,(grid g vs n).Pairwise λx y:Ed=>x.1<y.1∨(x.1=y.1∧x.2.1<y.2.1)
 | 0=>by simp[grid]
 | n+1=>by
  rw[VX,Mn];refine⟨QcV E hi n,Xq (r:=(·<·)) (λx y u v J hu G=>?_) hi,λe he H I=>?_⟩
  ·have h1:=E n x u hu;have h2:=E n y v G;right;omega
  obtain⟨j,v,hj,_,h1⟩:=Qak he;obtain⟨v',_,h2⟩:=MQ.1 I;have h3:=E j v e h1;have h4:=E n v' H h2;left;omega
theorem QlV (l:List QM):∀(acc:LI),(∀a∈l,Yy a.al)→Yy acc→Yy (l.foldl (λacc a=>mrg (· || ·) acc a.al) acc)∧∀x,x∈l.foldl (λacc a=>mrg (· || ·) acc a.al) acc↔x∈acc∨∃a∈l,x∈a.al:=by
 induction l with
 | nil=>intro acc _ h;exact⟨h,λx=>by simp⟩
 | cons a l ih =>
  intro acc hl h;have ha:=hl a Lr;obtain⟨h1,h2⟩:=ih (mrg (· || ·) acc a.al) (λb hb=>hl b (Ln _ hb)) (QcF _ _ _ _ (Lu _) h ha);rw[LM];refine⟨h1,λx=>?_⟩;rw[h2 x,yR h ha];simp only[List.mem_cons,exists_eq_or_imp];constructor
  ·rintro(⟨h3|h3,_⟩|h3)
   ·exact .inl h3
   ·exact .inr (.inl h3)
   exact .inr (.inr h3)
  rintro(h3|h3|h3)
  ·exact .inl ⟨.inl h3,by simp[h3]⟩
  ·exact .inl ⟨.inr h3,by simp[h3]⟩
  exact .inr h3
theorem je {l:List QM}(h:∀a∈l,Q3 a):Yy (evs l):=(QlV l [] (λa ha=>(h a ha).ali) (by simp)).1
theorem UB {l:List QM}(h:∀a∈l,Q3 a)(x:Int):x∈evs l↔∃a∈l,x∈a.al:=by
 have:=(QlV l [] (λa ha=>(h a ha).ali) (by simp)).2 x;unfold evs;rw[this];simp
def syF (aa:List QM)(tup:List (LI))(j:Nat)(v:Int):Option Ed:=(Zt v aa (tup.getD j [])).map λu=>((j:Int),v,(tup.idxOf u:Int))
theorem QeC (aa:List QM)(tup:List (LI)):qV (syF aa tup):=by
 intro j v e h;unfold syF at h;obtain⟨u,_,rfl⟩:=MG.1 h;exact⟨O,O⟩
theorem Qao {α β:Type}{f g:α→Option β}:∀{l:List α},(∀x∈l,f x=g x)→l.filterMap f=l.filterMap g
 | [],_=>rfl
 | x::l,h=>by rw[Mx,Mx,h x Lr,Qao (λy hy=>h y (Ln _ hy))]
theorem Qf6 {α β:Type}{f:α→Option β}{v:α}{e:β}(h:f v=some e):[v].filterMap f=[e]:=by rw[Mx,h];rfl
theorem QiE {α β:Type}{f:α→Option β}{v:α}(h:f v=none):[v].filterMap f=[]:=by rw[Mx,h];rfl
theorem QeD {aa:List QM}{tup:List (LI)}{j:Nat}{v:Int}(h:Zt v aa (tup.getD j [])=none):syF aa tup j v=none:=by unfold syF;rw[h];rfl
theorem jB {aa:List QM}{tup:List (LI)}{j:Nat}{v:Int}{u:LI}(h:Zt v aa (tup.getD j [])=some u):syF aa tup j v=some ((j:Int),v,(tup.idxOf u:Int)):=by unfold syF;rw[h];rfl
def Clo (aa:List QM)(tup:List (LI))(j:Nat)(vs:LI):Prop:=∀v∈vs,∀u,Zt v aa (tup.getD j [])=some u→u∈tup
theorem J4 {tup r:List (LI)}{j:Nat}(h:j<tup.length):(tup++r).getD j []=tup.getD j []:=by simp[List.getD,List.getElem?_append_left h]
theorem Qcd {aa:List QM}{tup r:List (LI)}{j:Nat}{vs:LI}(hj:j<tup.length)(hc:Clo aa tup j vs):vs.filterMap (syF aa (tup++r) j)=vs.filterMap (syF aa tup j):=by
 refine Qao λv E=>?_;unfold syF;rw[J4 hj];cases hs:Zt v aa (tup.getD j [])with
 | none=>rfl
 | some u =>
  have hu:=hc v E u hs;simp only[Option.map_some,Option.some.injEq,Prod.mk.injEq,true_and];rw[Mr,if_pos hu]
theorem Clo.pre {aa:List QM}{tup r:List (LI)}{j:Nat}{vs:LI}(hj:j<tup.length)(hc:Clo aa tup j vs):Clo aa (tup++r) j vs:=by
 intro v E u hu;rw[J4 hj]at hu;exact LS _ (hc v E u hu)
theorem JC {α:Type}{l:List α}{u:α}(h:l.Nodup)(hu:u∉l):(l++[u]).Nodup:=by
 rw[List.nodup_append];exact⟨h,by simp,λa ha b hb=>by simp only[List.mem_singleton]at hb;subst hb;exact λe=>hu (by rw[←e];exact ha)⟩
theorem zx {aa:List QM}{i:Nat}:∀(vs:LI) (s E:Sy),i<s.tup.length→s.tup.Nodup→KK aa i (Ub s i) vs s=some E →
  ∃r,E.tup=s.tup++r∧E.mk'=s.mk'∧E.ed=s.ed++vs.filterMap (syF aa E.tup i)∧Clo aa E.tup i vs∧E.tup.Nodup
 | [],s,E,_,hd,e=>by cases e;exact⟨[],by simp,rfl,by simp,λv V=>(by cases V),hd⟩
 | v::vs,s,E,hi,hd,e=>by
  rw[KK]at e;obtain⟨G,h1,h2⟩:=Mk.1 e;have key:∃I,G.tup=s.tup++I∧G.mk'=s.mk'∧G.ed=s.ed++[v].filterMap (syF aa G.tup i)∧Clo aa G.tup i [v]∧G.tup.Nodup:=by
   unfold syE at h1;have eT:Ub s i=s.tup.getD i []:=rfl;rw[eT]at h1;cases hs:Zt v aa (s.tup.getD i [])with
   | none =>
    rw[hs]at h1;cases h1
    refine⟨[],by simp,rfl,by rw[QiE (QeD hs),List.append_nil],λv' hv' u hu=>?_,hd⟩;simp only[List.mem_singleton]at hv';subst hv';rw[hs]at hu;cases hu
   | some u =>
    rw[hs]at h1;simp only[]at h1;by_cases hu:u∈s.tup
    ·rw[if_pos hu]at h1;cases h1
     refine⟨[],by simp,rfl,by rw[Qf6 (jB hs)],λv' hv' Y H=>?_,hd⟩;simp only[List.mem_singleton]at hv';subst hv';simp only[]at H ⊢;rw[hs]at H;cases H;exact hu
    rw[if_neg hu]at h1;split at h1
    ·cases h1
    cases h1
    have e2:(s.tup++[u]).getD i []=s.tup.getD i []:=J4 hi;have e3:(s.tup++[u]).idxOf u=s.tup.length:=by rw[Mr,if_neg hu];simp
    refine⟨[u],O,O,?_,λv' hv' Y H=>?_,JC hd hu⟩
    ·rw[Qf6 (jB (tup:=s.tup++[u]) (u:=u) (by rw[e2];exact hs)),e3]
    simp only[List.mem_singleton]at hv';subst hv';simp only[]at H ⊢;rw[e2,hs]at H;cases H;simp
  obtain⟨I,k1,k2,k3,U,k5⟩:=key;have J:i<G.tup.length:=by rw[k1];simp;omega
  have eT:Ub G i=Ub s i:=by unfold Ub;rw[k1];exact J4 hi
  rw[←eT]at h2;obtain⟨r2,T,g2,g3,g4,g5⟩:=zx vs G E J k5 h2;refine⟨I++r2,by rw[T,k1,LC],g2.trans k2,?_,?_,g5⟩
  ·rw[g3,k3,LC];congr 1;rw[show v::vs=[v]++vs from rfl,List.filterMap_append];congr 1;rw[T];exact(Qcd J U).symm
  intro v' hv' u hu;rcases Lc.1 hv' with rfl|hv'
  ·have:=U.pre (r:=r2) J;rw[←T]at this;exact this v' Lr u hu
  exact g4 v' hv' u hu
structure SyG (aa:List QM)(i:Nat)(s:Sy):Prop where
 nd:s.tup.Nodup
 le:i≤s.tup.length
 hd:s.tup.getD 0 []=List.replicate aa.length 0∧0<s.tup.length
 mk2:s.mk'=((List.range' 0 i).filter λj=>Xm aa (s.tup.getD j [])).map λj:Nat=>(j:Int)
 ed:s.ed=grid (syF aa s.tup) (evs aa) i
 cl:∀j,j<i→Clo aa s.tup j (evs aa)
theorem XK {α β:Type}{f g:α→List β}:∀{l:List α},(∀x∈l,f x=g x)→l.flatMap f=l.flatMap g
 | [],_=>rfl
 | x::l,h=>by rw[LF,LF,h x Lr,XK (λy hy=>h y (Ln _ hy))]
theorem SyG.next {aa:List QM}{i:Nat}{s E:Sy}(h:SyG aa i s)(hi:i<s.tup.length)(e:KK aa i (Ub s i) (evs aa) (ZC aa i (Ub s i) s)=some E):SyG aa (i+1) E:=by
 have ht:(ZC aa i (Ub s i) s).tup=s.tup:=by unfold ZC;split <;> rfl
 have T:(ZC aa i (Ub s i) s).ed=s.ed:=by unfold ZC;split <;> rfl
 have I:Ub (ZC aa i (Ub s i) s) i=Ub s i:=by show(ZC aa i (Ub s i) s).tup.getD i []=s.tup.getD i [];rw[ht]
 rw[←I]at e;obtain⟨r,G,U,J,V,Y⟩:=zx (evs aa) _ E (by rw[ht];exact hi) (by rw[ht];exact h.nd) (by rw[I]at e ⊢;exact e);rw[ht]at G;rw[T]at J;have pre:∀j,j≤i→E.tup.getD j []=s.tup.getD j []:=λj hj=>by rw[G];exact J4 (by omega)
 refine⟨Y,by rw[G];simp;omega,⟨by rw[pre 0 (by omega)];exact h.hd.1,by rw[G];simp;omega⟩,?_,?_,λj hj=>?_⟩
 ·rw[U,Mu,L7,Lv,LQ];have e1:((List.range' 0 i).filter λj=>Xm aa (E.tup.getD j []))=(List.range' 0 i).filter λj=>Xm aa (s.tup.getD j []):=by
   refine List.filter_congr λj hj=>?_;rw[Mc]at hj;rw[pre j (by omega)]
  rw[e1];unfold ZC;by_cases hm:Xm aa (Ub s i)=true
  ·rw[if_pos hm];have H:Xm aa (E.tup.getD i [])=true:=by rw[pre i (Lu _)];exact hm
   simp only[List.filter_cons,H,if_true,List.filter_nil,List.map_cons,List.map_nil];rw[h.mk2]
  rw[if_neg hm];have H:Xm aa (E.tup.getD i [])=false:=by rw[pre i (Lu _)];exact eq_false_of_ne_true hm
  rw[Md,if_neg (by rw[H];simp),Nj,h.mk2];simp
 ·rw[J,VX,h.ed];congr 1;unfold grid;refine XK λj hj=>?_;rw[Mc]at hj;rw[G];exact(Qcd (by omega) (h.cl j (by omega))).symm
 by_cases e2:j=i
 ·subst e2;exact V
 have:=(h.cl j (by omega)).pre (r:=r) (by omega);rw[←G]at this;exact this
theorem jz {aa:List QM}:∀(f i:Nat) (s E:Sy),SyG aa i s→jA aa f i s=some E→∃G,SyG aa G E∧(E.tup.length=G∨G=i+f)
 | 0,i,s,E,h,e=>by cases e;exact⟨i,h,.inr O⟩
 | f+1,i,s,E,h,e=>by
  rw[jA]at e;split at e
  ·rename_i hi;obtain⟨H,h1,h2⟩:=Mk.1 e;obtain⟨G,h3,h4⟩:=jz f (i+1) H E (h.next hi h1) h2;exact⟨G,h3,by omega⟩
  cases e;exact⟨i,h,.inl (by have:=h.le;omega)⟩
structure SyP (aa:List QM)(A:QM)(Q:List (LI)):Prop where
 al:A.al=evs aa
 st:A.st=(Q.length:Int)
 nd:Q.Nodup
 v:∀t∈Q,Vt aa t
 le:Q.length≤4096
 hd:0<Q.length→Q.getD 0 []=List.replicate aa.length 0
 mk2:A.mr=((List.range' 0 Q.length).filter λj=>Xm aa (Q.getD j [])).map λj:Nat=>(j:Int)
 ed:A.ed=grid (syF aa Q) (evs aa) Q.length
 cl:∀j,j<Q.length→Clo aa Q j (evs aa)
theorem Xu {aa:List QM}(H:∀a∈aa,Q3 a){A:QM}{Q:List (LI)}(h:sync aa=some (A,Q)):SyP aa A Q∧(Q.length=0↔∃a∈aa,a.st=0):=by
 have E:=yy H h;unfold sync at h;split at h
 ·rename_i G;cases h
  exact⟨⟨O,O,by simp,by simp,by simp,λh=>by simp at h,by simp,by simp[grid],λj hj=>by simp at hj⟩,by simpa using G⟩
 rename_i G;obtain⟨s,h1,h2⟩:=MG.1 h;have I:SyG aa 0 (Un aa):=⟨by simp[Un],by simp,⟨by simp[Un],by simp[Un]⟩,by simp[Un],by simp[Un,grid],λj hj=>by omega⟩;obtain⟨J,h3,h4⟩:=jz 4096 0 (Un aa) s I h1;cases h2
 have hl:J=s.tup.length:=by
  have h5:=h3.le;have T:=E.2;simp only[]at T;omega
 subst hl;refine⟨⟨rfl,O,h3.nd,E.1,E.2,λ_=>h3.hd.1,h3.mk2,h3.ed,h3.cl⟩,?_⟩;have:=h3.hd.2;constructor
 ·intro h;have U:s.tup.length=0:=h;omega
 intro h;exact absurd h G
theorem SyP.step {aa:List QM}{A:QM}{Q:List (LI)}(h:SyP aa A Q){j:Nat}(hj:j<Q.length)(v:Int):
  eget A.ed j v=if v∈evs aa then(Zt v aa (Q.getD j [])).map λu=>(Q.idxOf u:Int)else none:=by
 rw[h.ed,yb (QeC aa Q)];by_cases E:v∈evs aa
 ·rw[if_pos ⟨hj,E⟩,if_pos E];unfold syF;rw[Option.map_map];rfl
 rw[if_neg (λe=>E e.2),if_neg E]
theorem SyP.to {aa:List QM}{A:QM}{Q:List (LI)}(h:SyP aa A Q){j:Nat}(hj:j<Q.length){v:Int}(E:v∈evs aa){u:LI}(hu:Zt v aa (Q.getD j [])=some u):Q.idxOf u<Q.length∧Q.getD (Q.idxOf u) []=u:=by
 have hm:=h.cl j hj v E u hu;have hl:=Mo hm;refine⟨hl,?_⟩;simp[List.getD,hl]
theorem SyP.okay {aa:List QM}(E:∀a∈aa,Q3 a){A:QM}{Q:List (LI)}(h:SyP aa A Q):Q3 A:=by
 have I:=h.le;refine⟨λe he=>?_,by rw[h.al];exact je E,by rw[h.st];omega,by rw[h.st];omega,λs hs=>?_,?_,λe he=>?_,by rw[h.ed];exact QcV (QeC aa Q) (je E) _⟩
 ·rw[h.al]at he;obtain⟨a,ha,hx⟩:=(UB E e).1 he;exact(E a ha).al e hx
 ·rw[h.mk2]at hs;simp only[List.mem_map,List.mem_filter,List.mem_range'_1]at hs;obtain⟨i,⟨hi,_⟩,rfl⟩:=hs;rw[h.st];omega
 ·rw[h.mk2];unfold Yy;rw[MW];refine List.Pairwise.sublist Nq ?_;exact(M9 (s:=0) (n:=Q.length)).imp (λh=>by omega)
 rw[h.ed]at he;obtain⟨j,v,hj,G,H⟩:=Qak he;unfold syF at H;obtain⟨u,hu,rfl⟩:=MG.1 H;have:=(h.to hj G hu).1;rw[h.st,h.al];exact⟨by simp only[];omega,by simp only[];omega,G,by simp only[];omega,by simp only[];omega⟩
end Go.Proofs.YtjcgijbhaemldaaGreatDoor
namespace Go.Lg
open Go.RowKit
instance:LawfulBEq ByteArray where
 eq_of_beq h:=(MapKept.bytes_beq _ _).1 h;rfl:=(MapKept.bytes_beq _ _).2 O
def chr (s:ByteArray)(i:Nat):Nat:=(s.get! i).toNat
theorem QkX {s:ByteArray}{i:Nat}(h:i<s.size):(s[i]'h).toNat=chr s i:=by
 unfold chr;obtain⟨d⟩:=s;have hd:i<d.size:=h;simp[ByteArray.get!,hd,ByteArray.getElem_eq_getElem_data]
theorem Qd7 {a b:ByteArray}(h:a.data.toList=b.data.toList):a=b:=by
 obtain⟨⟨x⟩⟩:=a;obtain⟨⟨y⟩⟩:=b;have h':x=y:=h;rw[h']
theorem bytes_beq (a b:ByteArray):(a.toList == b.toList)=decide (a=b):=by
 rw[ByteArray.toList_eq,ByteArray.toList_eq];by_cases h:a=b
 ·subst h;simp
 rw[decide_eq_false h];have:a.data.toList≠b.data.toList:=λe=>h (Qd7 e);simpa using this
section
variable {P:Program}{f:Fr}{w:World}{d:Option Nat}{ty:Nat}{ps:String}{af:Array Edge}{gd:Option (Nat×Bool)}{t t':Nat}{x y:Operand}
theorem Qfc [h:St P t]{s:ByteArray}{k:IntKind}{i:Nat}(hx:ev f x=.string s)(hy:ev f y=.int k i)(hi:i<s.size):
  (execOp (ev f) ⟨d,.index t x y,ty,ps,af,gd⟩).run P w=.ok (.value (.int .u8 (chr s i))) w:=by
 have h1:=run_index_string (P:=P) w t s k i h.u;rw[dif_pos ⟨by omega,by omega⟩]at h1;have e:(s[(i:Int).toNat]'(by simpa using hi)).toNat=chr s i:=QkX hi;simp only[execOp,hx,hy,Sem.run_bind,h1,Result.andThen_ok,Sem.run_pure,e]
theorem Qbk [h:St P t]{s:ByteArray}(hx:ev f x=.string s):
  (execOp (ev f) ⟨d,.call ⟨.builtin .len,#[x],#[t]⟩,ty,ps,af,gd⟩).run P w=.ok (.value (.int .i64 s.size)) w:=Qfa h.u hx
theorem yK {a b:ByteArray}(hx:ev f x=.string a)(hy:ev f y=.string b):
  (execOp (ev f) ⟨d,.binOp .eql t x y t',ty,ps,af,gd⟩).run P w=.ok (.value (.bool (decide (a=b)))) w:=by
 have E:(eqGuard .eql t x y (.string a) (.string b)).run P w=.ok () w:=by simp[eqGuard]
 simp only[execOp,hx,hy,Sem.run_bind,E,Result.andThen_ok,binOp_string_eql,Sem.run_pure,bytes_beq]
theorem Xp {a b:ByteArray}(hx:ev f x=.string a)(hy:ev f y=.string b)(hl:a.size+b.size≤1000000000):
  (execOp (ev f) ⟨d,.binOp .add t x y t',ty,ps,af,gd⟩).run P w=.ok (.value (.string (a++b))) w:=by
 have E:(eqGuard .add t x y (.string a) (.string b)).run P w=.ok () w:=by simp[eqGuard]
 have G:¬(((a.size+b.size:Nat):Int) > IntKind.i64.max):=by
  rw[show IntKind.i64.max=9223372036854775807 from rfl];omega
 simp only[execOp,hx,hy,Sem.run_bind,E,Result.andThen_ok,binOp_string_add,Op.stringOp,if_neg G,Sem.run_pure]
theorem QhX {a b:Nat}(hx:ev f x=.int .u16 a)(hy:ev f y=.int .u16 b)(ha:a<65536)(hb:b<65536):
  (execOp (ev f) ⟨d,.binOp .and t x y t',ty,ps,af,gd⟩).run P w=.ok (.value (.int .u16 ((a &&& b:Nat):Int))) w:=by
 refine YV hx hy ?_;have hi:inK .u16 ((a &&& b:Nat):Int):=by
  have:a &&& b≤a:=Nat.and_le_left;exact⟨by omega,by omega⟩
 simp only[binOp,Op.intBits,BitVec.ofInt_natCast,ne_eq,not_true_eq_false,if_false,Sem.run_pure];rw[BitVec.toNat_and,BitVec.toNat_ofNat,BitVec.toNat_ofNat,Ml (show a<2 ^ IntKind.u16.bits from ha),Ml (show b<2 ^ IntKind.u16.bits from hb),YL hi]
theorem Qcz {a b:Nat}(ha:a<65536)(hb:b<65536):a ||| b<65536:=Nat.or_lt_two_pow (n:=16) ha hb
theorem Qbi {a b:Nat}(hx:ev f x=.int .u16 a)(hy:ev f y=.int .u16 b)(ha:a<65536)(hb:b<65536):
  (execOp (ev f) ⟨d,.binOp .or t x y t',ty,ps,af,gd⟩).run P w=.ok (.value (.int .u16 ((a ||| b:Nat):Int))) w:=by
 refine YV hx hy ?_;have hi:inK .u16 ((a ||| b:Nat):Int):=by
  have:=Qcz ha hb;exact⟨by omega,by omega⟩
 simp only[binOp,Op.intBits,BitVec.ofInt_natCast,ne_eq,not_true_eq_false,if_false,Sem.run_pure];rw[BitVec.toNat_or,BitVec.toNat_ofNat,BitVec.toNat_ofNat,Ml (show a<2 ^ IntKind.u16.bits from ha),Ml (show b<2 ^ IntKind.u16.bits from hb),YL hi]
theorem Qbl {a b:Nat}(hx:ev f x=.int .u16 a)(hy:ev f y=.int .u16 b)(ha:a<65536)(hb:b<65536):
  (execOp (ev f) ⟨d,.binOp .andNot t x y t',ty,ps,af,gd⟩).run P w=.ok (.value (.int .u16 ((a &&& (65535 ^^^ b):Nat):Int))) w:=by
 refine YV hx hy ?_;have hi:inK .u16 ((a &&& (65535 ^^^ b):Nat):Int):=by
  have:a &&& (65535 ^^^ b)≤a:=Nat.and_le_left;exact⟨by omega,by omega⟩
 have e:(~~~(BitVec.ofNat IntKind.u16.bits b))=BitVec.ofNat IntKind.u16.bits (65535 ^^^ b):=by
  have E:BitVec.allOnes 16=BitVec.ofNat 16 65535:=by decide
  have G:∀z:BitVec 16,~~~z=BitVec.allOnes 16 ^^^ z:=λz=>by
   first
   | exact BitVec.allOnes_xor.symm
   | exact(BitVec.xor_allOnes.symm.trans (BitVec.xor_comm _ _))
  show ~~~(BitVec.ofNat 16 b)=BitVec.ofNat 16 (65535 ^^^ b);rw[G,E];apply BitVec.eq_of_toNat_eq;simp only[BitVec.toNat_xor,BitVec.toNat_ofNat];rw[Ml (show 65535<2 ^ 16 by decide),Ml (show b<2 ^ 16 from hb)];rw[Ml (Nat.xor_lt_two_pow (n:=16) (by decide) hb)]
 simp only[binOp,Op.intBits,BitVec.ofInt_natCast,ne_eq,not_true_eq_false,if_false,Sem.run_pure];rw[e,BitVec.toNat_and,BitVec.toNat_ofNat,BitVec.toNat_ofNat,Ml (show a<2 ^ IntKind.u16.bits from ha),Ml (show 65535 ^^^ b<2 ^ IntKind.u16.bits from Nat.xor_lt_two_pow (n:=16) (by decide) hb),YL hi]
theorem Qcr {k k':IntKind}{a:Int}{n:Nat}(hx:ev f x=.int k a)(hy:ev f y=.int k' n)(E:n≤k.bits)(hi:inK k (a*2 ^ n)):
  (execOp (ev f) ⟨d,.binOp .shl t x y t',ty,ps,af,gd⟩).run P w=.ok (.value (.int k (a*2 ^ n))) w:=by
 refine YV hx hy ?_;have h1:¬((n:Int)<0):=by omega
 simp only[binOp,Op.shift,h1,if_false,Int.toNat_natCast,Nat.min_eq_left E,Sem.run_pure];rw[YL hi]
end
section
variable {P:Program}{ops:List Oper}{K:Fr→World→Prop}{f:Fr}{w:World}{d:Option Nat}{ty:Nat}{ps:String}{af:Array Edge}{gd:Option (Nat×Bool)}{l:List Oper}
 {t e sz bys:Nat} {z:Value} {x y1 y2:Operand} {L:LN} {v:Value} {n:Nat} {cs:LV} {H:Array Obj} {k k':IntKind} {hi:Nat}
theorem Qe7 [h:Sl P t e sz bys z](E:Zv L H v n sz cs)(hx:ev f x=v)(G:ev f y1=.int k hi)(hm:ev f y2=.int k' hi)(h1:hi≤n):
  ∃v',Zv L H v' hi sz (cs.take (hi*sz))∧∀w,(execOp (ev f) ⟨d,.slice t x none (some y1) (some y2),ty,ps,af,gd⟩).run P w=.ok (.value v') w:=by
 obtain⟨ii,I,_,hs,_⟩:=Sl.info h;rcases E.2.2 with⟨rfl,rfl⟩|⟨a,cap,rfl,hc,J⟩
 ·have T:hi=0:=by omega
  subst T;refine⟨nS,?_,λw=>?_⟩
  ·rw[Nat.zero_mul,Nf];exact Zv.nil _ _ _
  simp[execOp,hx,G,hm,Instr.sliceAt,Instr.slice,Instr.sliceBounds,Instr.sliceBound,asIntOf,run_underlying h.u,sizeOf,typeInfo,I]
 refine⟨.slice (some a) hi hi,⟨?_,by have:=E.2.1;omega,.inr ⟨a,hi,O,Lu _,λu hu=>J.out u (LO hu),λu hu=>J.lt u (LO hu),λj u hu=>?_⟩⟩,λw=>?_⟩
 ·rw[Lx,E.1,MN (Ms _ h1)]
 ·rw[LX]at hu;split at hu
  ·exact J.cell j u hu
  cases hu
 by_cases T:hi=0
 ·subst T;simp[execOp,hx,G,hm,Instr.sliceAt,Instr.slice,Instr.sliceBounds,Instr.sliceBound,asIntOf,run_underlying h.u,sizeOf,typeInfo,I]
 simp[execOp,hx,G,hm,Instr.sliceAt,Instr.slice,Instr.sliceBounds,Instr.sliceBound,asIntOf,run_underlying h.u,sizeOf,typeInfo,I,Addr.add];intro h9;omega
end
section
variable {P:Program}{ops l:List Oper}{K:Fr→World→Prop}{f:Fr}{w:World}{o:Oper}{C:World→Prop}{pl:List (Nat×Bool)}{i:Nat}
theorem xB {b:Bool}(E:(execOp (ev f) o).run P w=.ok (.value (.bool b)) w)(ht:b=true→XL P ops K l (QY f o.dst (.bool true)) w)(I:b=false→XL P ops K l (QY f o.dst (.bool false)) w)
  (G:Z2 ops f o=true:=by rfl):XL P ops K (o::l) f w:=by
 cases hb:b with
 | true=>rw[hb]at E;exact x E (ht hb) G
 | false=>rw[hb]at E;exact x E (I hb) G
theorem pB {b:Bool}(E:∀w',(execOp (ev f) (QO ops i)).run P w'=.ok (.value (.bool b)) w')(ht:b=true→XP P ops C K pl (QY f (QO ops i).dst (.bool true)) w)(I:b=false→XP P ops C K pl (QY f (QO ops i).dst (.bool false)) w)
  (G:Z2 ops f (QO ops i)=true:=by rfl):XP P ops C K ((i,true)::pl) f w:=by
 cases hb:b with
 | true=>rw[hb]at E;exact p E (ht hb) G
 | false=>rw[hb]at E;exact p E (I hb) G
theorem Qgl {G:Prop}(b:Bool)(ht:b=true→G)(E:b=false→G):G:=by cases h:b with|true=>exact ht h|false=>exact E h
theorem bT {q:Prop}[Decidable q](h:q):true=decide q:=(decide_eq_true h).symm
theorem bF {q:Prop}[Decidable q](h:¬q):false=decide q:=(decide_eq_false h).symm
theorem bD {q r:Prop}[Decidable q][Decidable r](h:q↔r):decide q=decide r:=decide_eq_decide.2 h
end
section
variable {P:Program}{f:Fr}{w:World}{d:Option Nat}{ty:Nat}{ps:String}{af:Array Edge}{gd:Option (Nat×Bool)}{t:Nat}{x:Operand}
theorem UU {q:Prop}[Decidable q](hx:ev f x=.bool (decide q)):(execOp (ev f) ⟨d,.unOp .not t x,ty,ps,af,gd⟩).run P w=.ok (.value (.bool (decide (¬q)))) w:=by
 rw[Zp hx];simp
end
end Go.Lg
namespace Go.Proofs.YtjcgijbhaemldaaGreatDoor
open Go.Lg
structure K5 where
 nm:ByteArray
 co:Bool
 ob:Bool
 fo:Bool
 fl:Int
structure Jz where
 nm:ByteArray
 a:QM
structure Exc where
 nm:ByteArray
 ls:List (Int×Int)
structure Jh where
 nm:ByteArray
 ts:List (Int×Int)
 bd:Int
structure ZE where
 ev:List K5
 co:List Jz
 rq:List Jz
 ex:List Exc
 cs:List Jh
def Kw (n:Nat):LI:=(List.range n).map λi:Nat=>(i:Int)
def nmP (i c:Nat):Prop:=((97≤c∧c≤122)∨(65≤c∧c≤90)∨c=95)∨(i≠0∧48≤c∧c≤57)
instance (i c:Nat):Decidable (nmP i c):=by unfold nmP;infer_instance
def nmQ (s:ByteArray)(i:Nat):Bool:=decide (nmP i (chr s i))
def Y0 (s:ByteArray):Bool:=(List.range' 0 s.size).all (nmQ s) && decide (0<s.size∧s.size≤32)
def Xn (seen:List ByteArray)(e:K5):Int:=if Y0 e.nm=false then 7 else if e.nm∈seen then 8 else if e.fl<0∨4<e.fl then 2 else if e.fl≠0∧(e.co || e.ob)=true then 13 else 0
def Ug:List ByteArray→List K5→Int
 | _,[]=>0
 | seen,e::l=>if Xn seen e≠0 then Xn seen e else Ug (seen++[e.nm]) l
def Jd (l:List K5):Int:=if 32<l.length then 3 else Ug [] l
def ixs {α:Type}(q:α→Bool):Nat→List α→LI
 | _,[]=>[]
 | i,e::l=>if q e=true then(i:Int)::ixs q (i+1) l else ixs q (i+1) l
def unc (l:List K5):LI:=ixs (λe=>!e.co) 0 l
def Xb (sz:LI):Option Int→List (Int×Int)→Int
 | _,[]=>0
 | pr,l::ls=>if l.1<0∨(sz.length:Int)≤l.1 then 2 else if U8 pr l.1=true then 5 else if l.2<0∨cget sz l.1.toNat≤l.2 then 2 else Xb sz (some l.1) ls
def JN (sz:LI)(ls:List (Int×Int)):Int:=if ls.length=0 then 12 else Xb sz none ls
def grt (n:Int):Bool:=decide (n < -65536) || decide (65536<n)
def Ja (sz:LI):Option Int→List (Int×Int)→Int
 | _,[]=>0
 | pr,l::ls=>if l.1<0∨(sz.length:Int)≤l.1 then 2 else if U8 pr l.1=true then 5 else if l.2=0∨grt l.2=true then 2 else Ja sz (some l.1) ls
def YW (sz:LI)(k:Jh):Int:=if k.ts.length=0 then 12 else if Ja sz none k.ts≠0 then Ja sz none k.ts else if grt k.bd=true then 2 else 0
def V3 (seen:List ByteArray)(s:ByteArray):Int:=if Y0 s=false then 7 else if s∈seen then 8 else 0
def Ym (sz:LI):List ByteArray→List Exc→Int
 | _,[]=>0
 | seen,x::l=>if V3 seen x.nm≠0 then V3 seen x.nm else if JN sz x.ls≠0 then JN sz x.ls else Ym sz (seen++[x.nm]) l
def YO (sz:LI):List ByteArray→List Jh→Int
 | _,[]=>0
 | seen,x::l=>if V3 seen x.nm≠0 then V3 seen x.nm else if YW sz x≠0 then YW sz x else YO sz (seen++[x.nm]) l
def KE (n:Int):Bool:=decide (n<1) || decide (4096<n)
def YF (sz:LI)(ex:List Exc)(cs:List Jh):Int:=if 8<sz.length then 3 else if sz.any KE=true then 2 else if 32<ex.length∨32<cs.length then 3 else if Ym sz [] ex≠0 then Ym sz [] ex else YO sz [] cs
def mns (a b:LI):LI:=mrg (λp q=>p && !q) a b
def Ud (a:QM):Bool:=decide (Y6 a=0) && decide ((YK a).st=a.st∧(YK a).al=a.al∧(YK a).mr=a.mr∧(YK a).ed=a.ed)
def Yc (nev:Nat)(amg:LI)(seen:List ByteArray)(x:Jz):Int :=
 if Y0 x.nm=false then 7 else if x.nm∈seen then 8 else if Y6 x.a≠0 then Y6 x.a else if Ud x.a=false then 6 else if x.a.st=0 then 12 else
 if(x.a.al.any λe=>decide ((nev:Int)≤e))=true then 2 else if(mns x.a.al amg).length≠0 then 9 else 0
def Yn (nev:Nat)(al:LI):List ByteArray→LI→List Jz→Int×List ByteArray×LI
 | s,u,[]=>(0,s,u)
 | s,u,x::l=>if Yc nev al s x≠0 then(Yc nev al s x,s,u)else Yn nev al (s++[x.nm]) (mrg (· || ·) u x.a.al) l
def J7 (nev:Nat)(u:LI):List ByteArray→List Jz→Int
 | _,[]=>0
 | s,x::l=>if Yc nev u s x≠0 then Yc nev u s x else J7 nev u (s++[x.nm]) l
def szs (l:List Jz):LI:=l.map (·.a.st)
def auts (l:List Jz):List QM:=l.map (·.a)
def Zi (c:ZE):Int :=
 if Jd c.ev≠0 then Jd c.ev else if c.co.length=0 then 12 else if 8<c.co.length∨12<c.co.length+c.rq.length then 3 else
 if(Yn c.ev.length (Kw c.ev.length) [] [] c.co).1≠0 then(Yn c.ev.length (Kw c.ev.length) [] [] c.co).1 else
 if J7 c.ev.length (Yn c.ev.length (Kw c.ev.length) [] [] c.co).2.2 (Yn c.ev.length (Kw c.ev.length) [] [] c.co).2.1 c.rq≠0 then J7 c.ev.length (Yn c.ev.length (Kw c.ev.length) [] [] c.co).2.2 (Yn c.ev.length (Kw c.ev.length) [] [] c.co).2.1 c.rq else
 YF (szs c.co) c.ex c.cs
def KJ (t:LI)(x:Exc):Bool:=x.ls.all λl=>decide (t.getD l.1.toNat 0=l.2)
def Qlz (t:LI)(k:Jh):Int:=k.ts.foldl (λs p=>s+p.2*t.getD p.1.toNat 0) 0
def VL (t:LI)(k:Jh):Bool:=decide (k.bd<Qlz t k)
def fix {α:Type}(q:α→Bool):Nat→List α→Int
 | _,[]=>-1
 | i,e::l=>if q e=true then(i:Int)else fix q (i+1) l
def vio (c:ZE)(t:LI):Option (Int×Int):=
 if 0≤fix (KJ t) 0 c.ex then some (1,fix (KJ t) 0 c.ex)else if 0≤fix (VL t) 0 c.cs then some (2,fix (VL t) 0 c.cs)else none
def rfr (v:Int):Nat→List Jz→LI→Int
 | i,x::l,s::ss=>if v∈x.a.al∧(eget x.a.ed s v).isSome=false then(i:Int)else rfr v (i+1) l ss
 | _,_,_=>-1
structure Rsn where
 st:Int
 kd:Int
 ix:Int
 ev:Int
def rfd (c:ZE)(rs:LI):LI→Option (Int×Int)
 | []=>none
 | v::l=>if 0≤rfr v 0 c.rq rs∧(c.ev.getD v.toNat ⟨.empty,false,false,false,0⟩).co=false then some (rfr v 0 c.rq rs,v)else rfd c rs l
def QdY (a:QM)(s:Int):LI:=(ZI a.ed s).map (·.2.1)
def rsn (c:ZE)(pl:QM)(plc:Int)(i:Nat)(t:LI):Option Rsn :=
 match vio c (t.take c.co.length)with
 | some (k,j)=>some ⟨i,k,j,-1⟩
 | none=>match rfd c (t.drop c.co.length) (QdY pl plc)with
  | some (j,v)=>some ⟨i,3,j,v⟩
  | none=>none
structure Spc where
 a:QM
 co:List (LI)
 rq:List (LI)
 pl:LI
 fb:List Rsn
def plx (ps:List (LI))(t:LI):Int:=if t∈ps then(ps.idxOf t:Int)else 0
def Qj5 (c:ZE)(pl:QM)(ps:List (LI))(s:Spc)(p:LI×Nat):Spc :=
 ⟨s.a,s.co++[p.1.take c.co.length],s.rq++[p.1.drop c.co.length],s.pl++[plx ps (p.1.take c.co.length)],
  match rsn c pl (plx ps (p.1.take c.co.length)) p.2 p.1 with|some r=>s.fb++[r]|none=>s.fb⟩
def YX (c:ZE):Int:=if Zi c≠0 then Zi c else if JM (auts c.co)≠0 then JM (auts c.co)else match sync (auts c.co)with
 | none=>3
 | some _=>if JM (auts c.co++auts c.rq)≠0 then JM (auts c.co++auts c.rq)else match sync (auts c.co++auts c.rq)with
  | none=>3
  | some _=>0
def syA (l:List QM):QM:=match sync l with|none=>⟨[],0,[],[]⟩|some z=>z.1
def syQ (l:List QM):List (LI):=match sync l with|none=>[]|some z=>z.2
def spc (c:ZE):Spc:=(syQ (auts c.co++auts c.rq)).zipIdx.foldl (Qj5 c (syA (auts c.co)) (syQ (auts c.co))) ⟨syA (auts c.co++auts c.rq),[],[],[],[]⟩
end Go.Proofs.YtjcgijbhaemldaaGreatDoor
namespace Go.Lg
section
variable {P:Program}{f:Fr}{w:World}{d:Option Nat}{ty:Nat}{ps:String}{af:Array Edge}{gd:Option (Nat×Bool)}
theorem Qbj {t E:Nat}[h:Bk P t]{x y:Operand}{a b:Bool}(hx:ev f x=.bool a)(hy:ev f y=.bool b):
  (execOp (ev f) ⟨d,.binOp .neq t x y E,ty,ps,af,gd⟩).run P w=.ok (.value (.bool (!(a == b)))) w:=by
 have G:(eqGuard .neq t x y (.bool a) (.bool b)).run P w=.ok () w:=by simp[eqGuard]
 simp[execOp,hx,hy,G,run_neq_bool (P:=P) (w:=w) t a b h.u]
end
inductive Pu where
 | pl (l:List (Nat×Bool))
 | f2 (pre:List (Nat×Bool)) (i j:Nat) (t1 t2:Pu)
 | f3 (pre:List (Nat×Bool)) (i j k:Nat) (t1 t2 t3:Pu)
def Pu.len:Pu→Nat
 | .pl l=>l.length
 | .f2 pre _ _ t1 _=>pre.length+(1+t1.len)
 | .f3 pre _ _ _ t1 _ _=>pre.length+(1+t1.len)
def yM (all:Array Oper):Pu→Array Bool→Bool
 | .pl l,ls=>YC all l ls
 | .f2 pre i j t1 t2,ls=>Y4 all pre ls && Region.ready .any all (Zs pre ls) == [i,j] && t1.len == t2.len && yM all t1 ((Zs pre ls).setIfInBounds i true) && yM all t2 ((Zs pre ls).setIfInBounds j true)
 | .f3 pre i j k t1 t2 t3,ls=>Y4 all pre ls && Region.ready .any all (Zs pre ls) == [i,j,k] && t1.len == t2.len && t1.len == t3.len && yM all t1 ((Zs pre ls).setIfInBounds i true) && yM all t2 ((Zs pre ls).setIfInBounds j true) && yM all t3 ((Zs pre ls).setIfInBounds k true)
def QlH (all:List Oper)(t:Pu):Bool:=Region.noSelect all.toArray && t.len == all.length && yM all.toArray t (Array.replicate all.length false)
def XE (P:Program)(all:List Oper)(C:World→Prop)(i:Nat)(N:Fr→World→Prop)(f:Fr)(w:World):Prop:=Z2 all f (QO all i)=true∧XO P (QO all i) f w λE w'=>C w'∧N E w'
def XU (P:Program)(all:List Oper)(C:World→Prop)(K:Fr→World→Prop):Pu→Fr→World→Prop
 | .pl l=>XP P all C K l
 | .f2 pre i j t1 t2=>XP P all C (λf w=>XE P all C i (XU P all C K t1) f w∧XE P all C j (XU P all C K t2) f w) pre
 | .f3 pre i j k t1 t2 t3=>XP P all C (λf w=>XE P all C i (XU P all C K t1) f w∧XE P all C j (XU P all C K t2) f w∧XE P all C k (XU P all C K t3) f w) pre
section
variable {P:Program}{n:Nat}{f:Fr}{w:World}{all:List Oper}{C:World→Prop}{K B:Fr→World→Prop}
theorem Jw (hs:Region.noSelect all.toArray=true):∀(t:Pu) (ls:Array Bool) (f:Fr) (w:World),ls.size=all.length→C w→yM all.toArray t ls=true→XU P all C K t f w→XA P all C K t.len ls f w
 | .pl l,ls,f,w,J,hC,hp,h=>Zx hs l ls f w J (.inl hC) hp h
 | .f2 pre i j t1 t2,ls,f,w,J,hC,hp,h=>by
  simp only[yM,Bool.and_eq_true,beq_iff_eq]at hp;obtain⟨⟨⟨⟨hq,E⟩,hl⟩,h1⟩,h2⟩:=hp;rw[Pu.len];refine ZN (B:=λf w=>XE P all C i (XU P all C K t1) f w∧XE P all C j (XU P all C K t2) f w) hs pre ls f w hC hq (λf G=>?_) h;have H:∀k,((Zs pre ls).setIfInBounds k true).size=all.length:=λk=>by simp[ZM,J]
  rw[ME 1];refine YS (λT=>(by rw[T]at E;cases E)) ?_;rw[E];intro k hk o I;simp only[List.mem_cons,List.not_mem_nil,or_false]at hk;rcases hk with rfl|rfl
  ·have:=G.1;unfold XE at this;rw[Zg I]at this;rw[this.1,cond_true];exact this.2.mono λv w' hx=>⟨.inr (.inr hx.1),Jw hs t1 _ _ _ (H _) hx.1 h1 hx.2⟩
  have:=G.2;unfold XE at this;rw[Zg I]at this;rw[this.1,cond_true,hl];exact this.2.mono λv w' hx=>⟨.inr (.inr hx.1),Jw hs t2 _ _ _ (H _) hx.1 h2 hx.2⟩
 | .f3 pre i j k t1 t2 t3,ls,f,w,J,hC,hp,h=>by
  simp only[yM,Bool.and_eq_true,beq_iff_eq]at hp;obtain⟨⟨⟨⟨⟨⟨hq,E⟩,hl⟩,U⟩,h1⟩,h2⟩,h3⟩:=hp;rw[Pu.len];refine ZN (B:=λf w=>XE P all C i (XU P all C K t1) f w∧XE P all C j (XU P all C K t2) f w∧XE P all C k (XU P all C K t3) f w) hs pre ls f w hC hq (λf G=>?_) h;have H:∀k,((Zs pre ls).setIfInBounds k true).size=all.length:=λk=>by simp[ZM,J]
  rw[ME 1];refine YS (λT=>(by rw[T]at E;cases E)) ?_;rw[E];intro q hk o I;simp only[List.mem_cons,List.not_mem_nil,or_false]at hk;rcases hk with rfl|rfl|rfl
  ·have:=G.1;unfold XE at this;rw[Zg I]at this;rw[this.1,cond_true];exact this.2.mono λv w' hx=>⟨.inr (.inr hx.1),Jw hs t1 _ _ _ (H _) hx.1 h1 hx.2⟩
  ·have:=G.2.1;unfold XE at this;rw[Zg I]at this;rw[this.1,cond_true,hl];exact this.2.mono λv w' hx=>⟨.inr (.inr hx.1),Jw hs t2 _ _ _ (H _) hx.1 h2 hx.2⟩
  have:=G.2.2;unfold XE at this;rw[Zg I]at this;rw[this.1,cond_true,U];exact this.2.mono λv w' hx=>⟨.inr (.inr hx.1),Jw hs t3 _ _ _ (H _) hx.1 h3 hx.2⟩
theorem Qjl {Q:Exit→Fr→World→Prop}{id:Nat}(C:World→Prop)(t:Pu)(hm:P.follows .mixedOrders=true)(E:Xa n all=true)(hp:QlH all t=true)
  (hC:C { w with drawn:=w.drawn+1 }) (h:XU P all C (λf w=>Q .normal f w) t f { w with drawn:=w.drawn+1 }):W P n (.region id all.toArray true) Q f w:=by
 simp only[QlH,Bool.and_eq_true,beq_iff_eq]at hp;obtain⟨⟨hs,hl⟩,hp⟩:=hp;refine Y2 C hm E ?_;have h1:=Jw hs t _ _ _ (by simp) hC hp h;rw[hl]at h1;exact h1
theorem uP {l:List (Nat×Bool)}(h:XP P all C K l f w):XU P all C K (.pl l) f w:=h
theorem u2 {pre:List (Nat×Bool)}{i j:Nat}{E G:Pu}(h:XP P all C (λf w=>XE P all C i (XU P all C K E) f w∧XE P all C j (XU P all C K G) f w) pre f w):XU P all C K (.f2 pre i j E G) f w:=h
theorem u3 {pre:List (Nat×Bool)}{i j k:Nat}{E G H:Pu}(h:XP P all C (λf w=>XE P all C i (XU P all C K E) f w∧XE P all C j (XU P all C K G) f w∧XE P all C k (XU P all C K H) f w) pre f w):XU P all C K (.f3 pre i j k E G H) f w:=h
theorem ue {i:Nat}{N:Fr→World→Prop}(h:XO P (QO all i) f w λE w'=>C w'∧N E w')(G:Z2 all f (QO all i)=true:=by rfl):XE P all C i N f w:=⟨G,h⟩
end
attribute [irreducible] XU XE
open Go.RowKit
abbrev fen (ro:Option Nat):Fence:={ Fence.wide with round:=ro }
def coll (ds:LN):List Deferred:=ds.map λD=>{ target:=.collected D,args:=#[] }
structure Yu (n:Nat)(ds:LN)(a:Act)(f:Fr):Prop where
 size:a.tmps.size=n
 defers:a.defers=coll ds
 get:∀t,a.tmps.getD t undef=f t
theorem Yu.rel {n:Nat}{ds:LN}{a:Act}{f:Fr}(h:Yu n ds a f):jt n { a with defers:=[] } f:=⟨h.size,O,h.get⟩
theorem Yu.eval {n:Nat}{ds:LN}{a:Act}{f:Fr}(h:Yu n ds a f):a.eval=ev f:=by
 have:=h.rel.eval;rw[←this];funext x;cases x <;> rfl
theorem Yu.put {n:Nat}{ds:LN}{a:Act}{f:Fr}(h:Yu n ds a f){dst:Option Nat}(hd:∀d,dst=some d→d<n)(v:Value):Yu n ds (a.put dst v) (QY f dst v):=by
 have:=h.rel.put hd v;cases dst with
 | none=>exact h
 | some d=>exact⟨this.size,h.defers,this.get⟩
def Xf:Code→Nat→Bool
 | .region _ ops _,t=>ZL ops.toList t
 | .seq a b,t=>Xf a t || Xf b t
 | .cond _ a b,t=>Xf a t || Xf b t
 | .block _ a,t=>Xf a t
 | .loop a,t=>Xf a t
 | .skip,_| .exit _,_| .label _,_| .goto _,_| .ret,_| .rangeFunc ..,_=>false
 | _,_=>true
def wrG (D:List (Nat×Nat)):Code→Bool
 | .region _ ops _=>Qb8 D ops.toList
 | .seq a b=>wrG D a && wrG D b
 | .cond _ a b=>wrG D a && wrG D b
 | .block _ a=>wrG D a
 | .loop a=>wrG D a
 | .skip| .exit _| .label _| .goto _| .ret| .rangeFunc ..=>true
 | _=>false
theorem XZ {D:List (Nat×Nat)}{t:Nat}(ht:YY D t=false):∀c:Code,wrG D c=true→Xf c t=false
 | .region _ ops _,h=>zu h ht
 | .seq a b,h=>by simp only[wrG,Bool.and_eq_true]at h;simp[Xf,XZ ht a h.1,XZ ht b h.2]
 | .cond _ a b,h=>by simp only[wrG,Bool.and_eq_true]at h;simp[Xf,XZ ht a h.1,XZ ht b h.2]
 | .block _ a,h=>XZ ht a (by simpa[wrG]using h)
 | .loop a,h=>XZ ht a (by simpa[wrG]using h)
 | .skip,_=>rfl
 | .exit _,_=>rfl
 | .label _,_=>rfl
 | .goto _,_=>rfl
 | .ret,_=>rfl
 | .rangeFunc ..,_=>rfl
 | .scope _,h=>by simp[wrG]at h
 | .refuse _,h=>by simp[wrG]at h
def WG (ro:Option Nat)(m:Nat)(P:Program)(n:Nat)(c:Code)(Q:Exit→LN→Fr→World→Prop)(ds:LN)(f:Fr)(w:World):Prop :=
 ∀a,Yu n ds a f→c.wpIn (fen ro) m P (λe E w'=>∃ds' f',Yu n ds' E f'∧(∀t,Xf c t=false→f' t=f t)∧Q e ds' f' w') a w
def Qa6 (K:LN→Fr→World→Prop)(Q:Exit→LN→Fr→World→Prop):Exit→LN→Fr→World→Prop
 | .normal,ds,f,w=>K ds f w
 | e,ds,f,w=>Q e ds f w
def Ql6 (id:Nat)(Q:Exit→LN→Fr→World→Prop):Exit→LN→Fr→World→Prop
 | .exit i,ds,f,w=>bif Nat.beq i id then Q .normal ds f w else Q (.exit i) ds f w
 | e,ds,f,w=>Q e ds f w
section
variable {ro:Option Nat}{m:Nat}{P:Program}{n:Nat}{Q:Exit→LN→Fr→World→Prop}{ds:LN}{f:Fr}{w:World}
theorem WG.mono {c:Code}{Q':Exit→LN→Fr→World→Prop}(h:WG ro m P n c Q ds f w)(hq:∀e ds f w,Q e ds f w→Q' e ds f w):WG ro m P n c Q' ds f w :=
 λa ha=>wpIn_mono (h a ha) λ_ _ _ ⟨E,G,h1,h2,h3⟩=>⟨E,G,h1,h2,hq _ _ _ _ h3⟩
theorem WG.keeps {c:Code}(h:WG ro m P n c Q ds f w):WG ro m P n c (λe G E w'=>(∀t,Xf c t=false→E t=f t)∧Q e G E w') ds f w :=
 λa ha=>wpIn_mono (h a ha) λ_ _ _ ⟨G,E,h1,h2,h3⟩=>⟨G,E,h1,h2,h2,h3⟩
theorem Z6 (h:Q .normal ds f w):WG ro m P n .skip Q ds f w:=λ_ ha=>wpIn_skip ⟨ds,f,ha,λ_ _=>O,h⟩
theorem JJ {i:Nat}(h:Q (.exit i) ds f w):WG ro m P n (.exit i) Q ds f w:=λ_ ha=>wpIn_exit ⟨ds,f,ha,λ_ _=>O,h⟩
theorem Kf (h:Q .ret ds f w):WG ro m P n .ret Q ds f w:=λ_ ha=>wpIn_ret ⟨ds,f,ha,λ_ _=>O,h⟩
theorem Q0 {x y:Code}(h:WG ro m P n x (Qa6 (λds f w=>WG ro m P n y Q ds f w) Q) ds f w):WG ro m P n (.seq x y) Q ds f w:=by
 intro a ha;refine wpIn_seq (wpIn_mono (h a ha) ?_);rintro e H w' ⟨G,E,h1,h2,h3⟩;have k1:∀t,Xf (.seq x y) t=false→E t=f t:=λt ht=>h2 t (by simp only[Xf,Bool.or_eq_false_iff]at ht;exact ht.1);cases e with
 | normal =>
  refine wpIn_mono (h3 H h1) λ_ _ _ ⟨I,J,T,U,V⟩=>⟨I,J,T,λt ht=>(U t ?_).trans (k1 t ht),V⟩;simp only[Xf,Bool.or_eq_false_iff]at ht;exact ht.2
 | exit id=>exact⟨G,E,h1,k1,h3⟩
 | goto l=>exact⟨G,E,h1,k1,h3⟩
 | ret=>exact⟨G,E,h1,k1,h3⟩
 | panic ch=>exact⟨G,E,h1,k1,h3⟩
 | outgrown=>exact⟨G,E,h1,k1,h3⟩
theorem QjV {α:Type}{x y:Code}(D:List (Nat×Nat))(S:α→List (Nat×Value))(I:α→LN→World→Prop)(hD:wrG D x=true)
  (h1:WG ro m P n x (Qa6 (λE G w'=>∃z,YT G (S z)∧I z E w') Q) ds f w)
  (h2:∀z g E w',I z E w'→WG ro m P n y Q E (VM (S z) (mix D f g)) w'):WG ro m P n (.seq x y) Q ds f w:=by
 refine Q0 (h1.keeps.mono ?_);rintro e E G w' ⟨hk,hq⟩;cases e with
 | normal =>
  obtain⟨z,hs,hi⟩:=hq;have h3:=h2 z G E w' hi;rw[Xi (λt ht=>hk t (XZ ht x hD)),Yp hs]at h3;exact h3
 | exit id=>exact hq
 | goto l=>exact hq
 | ret=>exact hq
 | panic ch=>exact hq
 | outgrown=>exact hq
theorem Kg {c:Operand}{x y:Code}{t:Bool}(hc:ev f c=.bool t)(ht:t=true→WG ro m P n x Q ds f w)(E:t=false→WG ro m P n y Q ds f w):
  WG ro m P n (.cond c x y) Q ds f w:=by
 intro a ha;have G:a.eval c=.bool t:=by rw[ha.eval];exact hc
 refine wpIn_cond_split G (λe=>wpIn_mono (ht e a ha) ?_) (λe=>wpIn_mono (E e a ha) ?_) <;>
  (rintro e J w' ⟨H,I,h1,h2,h3⟩
   refine⟨H,I,h1,λt ht=>h2 t ?_,h3⟩;simp only[Xf,Bool.or_eq_false_iff]at ht
   first|exact ht.1|exact ht.2)
theorem Qlc {c:Operand}{x y:Code}{p:Prop}[Decidable p](hc:ev f c=.bool (decide p))(ht:p→WG ro m P n x Q ds f w)(E:¬p→WG ro m P n y Q ds f w):
  WG ro m P n (.cond c x y) Q ds f w :=
 Kg hc (λe=>ht (of_decide_eq_true e)) (λe=>E (of_decide_eq_false e))
theorem qW {c:Operand}{x y:Code}{p:Prop}[Decidable p](hc:ev f c=.bool (decide p))(E:¬p→WG ro m P n y Q ds f w)(ht:p→WG ro m P n x Q ds f w):
  WG ro m P n (.cond c x y) Q ds f w:=Qlc hc ht E
theorem jo {c:Operand}{x y:Code}(hc:ev f c=.bool true)(h:WG ro m P n x Q ds f w):WG ro m P n (.cond c x y) Q ds f w:=Kg hc (λ_=>h) (λe=>by cases e)
theorem Ku {c:Operand}{x y:Code}(hc:ev f c=.bool false)(h:WG ro m P n y Q ds f w):WG ro m P n (.cond c x y) Q ds f w:=Kg hc (λe=>by cases e) (λ_=>h)
theorem ZJ {id:Nat}{c:Code}(h:WG ro m P n c (Ql6 id Q) ds f w):WG ro m P n (.block id c) Q ds f w:=by
 intro a ha;refine wpIn_block (wpIn_mono (h a ha) ?_);rintro e H w' ⟨G,E,h1,h2,h3⟩;have k1:∀t,Xf (.block id c) t=false→E t=f t:=λt ht=>h2 t (by simpa[Xf]using ht);cases e with
 | exit i =>
  simp only[Exit.inBlock];simp only[Ql6]at h3;by_cases hi:i=id
  ·subst hi;simp only[Nat.beq_refl,cond_true]at h3;simp only[if_true];exact⟨G,E,h1,k1,h3⟩
  have hb:Nat.beq i id=false:=by
   cases e:Nat.beq i id with
   | false=>rfl
   | true=>exact absurd (Nat.eq_of_beq_eq_true e) hi
  rw[hb]at h3;rw[if_neg hi];exact⟨G,E,h1,k1,h3⟩
 | normal=>exact⟨G,E,h1,k1,h3⟩
 | goto l=>exact⟨G,E,h1,k1,h3⟩
 | ret=>exact⟨G,E,h1,k1,h3⟩
 | panic ch=>exact⟨G,E,h1,k1,h3⟩
 | outgrown=>exact⟨G,E,h1,k1,h3⟩
end
def j0 (l:List Oper):Bool:=l.all λo=>match o.op with| .defer _=>false|_=>true
theorem KM {l:List Oper}(h:j0 l=true):∀o∈l,∀c,o.op≠.defer c:=λo E c e=>by
 have:=LW.1 h o E;rw[e]at this;cases this
section
variable {ro:Option Nat}{m:Nat}{P:Program}{n:Nat}{ds:LN}
theorem Qdk {o:Oper}{a:Act}{f:Fr}{w:World}{K:Fr→World→Prop}{K':Act→World→Prop}{Q:Exit→Act→World→Prop}(h:Yu n ds a f)(G:∀c,o.op≠.defer c)
  (E:∀v w',K (QY f o.dst v) w'→K' (a.put o.dst v) w') (hx:XO P o f w K):o.wpIn (fen ro) m P a w K' Q:=by
 unfold XO at hx;refine⟨λ_ _=>trivial,?_⟩;have e:Oper.semAt (fen ro).round a.eval o=execOp (ev f) o:=by
  rw[h.eval];cases ro with
  | none=>rfl
  | some l=>exact Oper.semAt_some l _ _ G
 rw[e];generalize (execOp (ev f) o).run P w=r at hx;cases r with
 | ok nx w' =>
  cases nx <;> simp only[upF]at hx <;> simp only[Oper.uponIn]
  case value v=>exact E v w' hx
  case skip=>exact E _ w' hx
  case enter g args =>
   refine⟨λh=>by simp[Fence.wide]at h,?_⟩;refine(callsIn_wide (n:=m - 1)).2 (Calls.mono hx λe H he=>?_);cases e with
   | returned v=>exact E v H he
   | panicked c=>exact he.elim
   | outgrown=>exact he.elim
 | halt x w'=>exact hx.elim
theorem KI {l:List Oper}{a:Act}{f:Fr}(h:Yu n ds a f)(E:∀o∈l,∀d,o.dst=some d→d<n)(o:Oper):Region.wanted o (yielded l.toArray a.tmps)=Z2 l f o:=VK h.rel E o
theorem Qdm {Q:Exit→LN→Fr→World→Prop}{all:List Oper}(G:∀o∈all,∀d,o.dst=some d→d<n)(hd:∀o∈all,∀c,o.op≠.defer c)(f0:Fr):
  ∀(l:List Oper) (k:Nat) (a:Act) (f:Fr) (w:World),(∀j,l[j]?=all[k+j]?)→Yu n ds a f→(∀t,ZL all t=false→f t=f0 t) →
   XL P all (λf w=>Q .normal ds f w) l f w →
   wpOpsIn (fen ro) m P all.toArray (λe T w'=>∃ds' f',Yu n ds' T f'∧(∀t,ZL all t=false→f' t=f0 t)∧Q e ds' f' w') (List.range' k l.length) a w
 | [],_,a,f,w,_,E,hk,h=>⟨ds,f,E,hk,by unfold XL at h;exact h⟩
 | o::l,k,a,f,w,hl,E,hk,h=>by
  have I:all[k]?=some o:=by simpa using(hl 0).symm
  have H:o∈all:=Mf I;have ih:=λa f w=>Qdm (Q:=Q) G hd f0 l (k+1) a f w (λj=>by have:=hl (j+1);simpa[Nat.add_assoc,Nat.add_comm 1 j]using this);have next:∀v,(∀t,ZL all t=false→QY f o.dst v t=f0 t):=λv t ht=>(Z3 (XC H ht) v).trans (hk t ht);simp only[List.length_cons,List.range'_succ,wpOpsIn,List.getElem?_toArray,I];rw[KI E G o];unfold XL at h;cases J:Z2 all f o with
  | false =>
   rw[J]at h;exact⟨λ_ _=>trivial,ih _ _ _ (E.put (G o H) _) (next _) h⟩
  | true =>
   rw[J]at h;exact Qdk E (hd o H) (λv w' hx=>ih _ _ _ (E.put (G o H) v) (next v) hx) h
theorem QH {Q:Exit→LN→Fr→World→Prop}{f:Fr}{w:World}{id:Nat}{l:List Oper}(E:Xa n l=true)(hd:j0 l=true)(h:XL P l (λf w=>Q .normal ds f w) l f w):WG ro m P n (.region id l.toArray false) Q ds f w:=by
 intro a ha;refine wpIn_region ?_;have:=Qdm (ro:=ro) (m:=m) (YE E) (KM hd) f l 0 a f w (by simp) ha (λ_ _=>rfl) h;simpa[List.range_eq_range',Xf]using this
attribute [local semireducible] XA in
theorem UE {Q:Exit→Act→World→Prop}{all:List Oper}{C:World→Prop}{K:Fr→World→Prop}(G:∀o∈all,∀d,o.dst=some d→d<n)(hd:∀o∈all,∀c,o.op≠.defer c)(f0:Fr)
  (H:∀a f w,Yu n ds a f→(∀t,ZL all t=false→f t=f0 t)→K f w→Q .normal a w):
  ∀(k:Nat) (ls:Array Bool) (a:Act) (f:Fr) (w:World),Yu n ds a f→(∀t,ZL all t=false→f t=f0 t)→XA P all C K k ls f w→wpAnyIn (fen ro) m P .any all.toArray Q k ls a w
 | 0,_,a,f,w,E,hk,h=>⟨h.1,H a f w E hk h.2⟩
 | k+1,ls,a,f,w,E,hk,h=>by
  refine⟨λU=>H a f w E hk (h.1 U),λi hi=>?_⟩;unfold wpOpIn;simp only[List.getElem?_toArray];cases J:all[i]? with
  | none =>
   exfalso;obtain⟨_,o,V,_⟩:=mem_ready.1 hi;simp[J]at V
  | some o =>
   have I:o∈all:=Mf J;have h1:=h.2 i hi o J;have next:∀v,(∀t,ZL all t=false→QY f o.dst v t=f0 t):=λv t ht=>(Z3 (XC I ht) v).trans (hk t ht);simp only[];rw[KI E G o];cases T:Z2 all f o with
   | false =>
    rw[T]at h1;exact⟨λ_ _=>trivial,UE G hd f0 H k _ _ _ _ (E.put (G o I) _) (next _) h1⟩
   | true =>
    rw[T]at h1;exact Qdk E (hd o I) (λv w' hx=>UE G hd f0 H k _ _ _ _ (E.put (G o I) v) (next v) hx.2) h1
theorem jp {Q:Exit→LN→Fr→World→Prop}{f:Fr}{w:World}{all:List Oper}{id:Nat}(C:World→Prop)(pl:List (Nat×Bool))(hm:P.follows .mixedOrders=true)(G:Xa n all=true)(hd:j0 all=true)(hp:yO all pl=true)
  (hC:C { w with drawn:=w.drawn+1 }) (h:XP P all C (λf w=>Q .normal ds f w) pl f { w with drawn:=w.drawn+1 }):WG ro m P n (.region id all.toArray true) Q ds f w:=by
 intro a ha;simp only[yO,Bool.and_eq_true,beq_iff_eq]at hp;obtain⟨⟨hs,hl⟩,hp⟩:=hp;refine wpIn_region_any hm ?_;have h1:=Zx hs pl _ _ _ (by simp) (.inl hC) hp h;rw[hl]at h1;have h2:=UE (ro:=ro) (m:=m) (n:=n) (ds:=ds) (Q:=λe H w'=>∃ds' E,Yu n ds' H E∧(∀t,ZL all t=false→E t=f t)∧Q e ds' E w') (YE G) (KM hd) f
  (λa E w I hk hq=>⟨ds,E,I,hk,hq⟩) _ _ a f _ ha (λ_ _=>O) h1
 simpa[Xf]using h2
end
section
variable {ro:Option Nat}{m:Nat}{P:Program}{n:Nat}{Q:Exit→LN→Fr→World→Prop}{ds:LN}{f:Fr}{w:World}
theorem Um {α:Type}{F:Fence}{c:Code}{Q:Exit→Act→World→Prop}{a:Act}{w:World}(J:α→Act→World→Prop)(μ:α→Nat)(z:α)(h₀:J z a w)
  (round:∀x a w,J x a w→c.wpIn F m P (Exit.then (λG w'=>∃H,μ H<μ x∧J H G w') Q) a w):(Code.loop c).wpIn F m P Q a w:=by
 intro b k cs T hb I;have key:∀j x a w,μ x=j→J x a w →
   ∃e G w',Q e G w'∧ArrivesIn (Machine.fenced P F) P (lone (b.atR a (.code c::.inLoop c::k)) cs w) b k cs e G w':=by
  intro j;induction j using Nat.strongRecOn with
  | _ j ih =>
   intro x a w U V;obtain⟨e,a₁,w₁,hq,E⟩:=round x a w V b (.inLoop c::k) cs T hb I;cases e with
   | normal =>
    obtain⟨H,Y,ha⟩:=hq;obtain⟨e₂,a₂,w₂,hq₂,harr₂⟩:=ih (μ H) (U ▸ Y) H a₁ w₁ O ha;exact⟨e₂,a₂,w₂,hq₂,.of_steps (StepsIn.trans E (.one (fenced_calm hb I O) stepR_inLoop)) harr₂⟩
   | exit id=>exact⟨_,a₁,w₁,hq,.pass (x:=.inLoop c) O (λ_ _=>.inl (by simp)) E⟩
   | goto l=>exact⟨_,a₁,w₁,hq,.pass (x:=.inLoop c) O (λ_ _=>.inl (by simp)) E⟩
   | ret=>exact⟨_,a₁,w₁,hq,.pass (x:=.inLoop c) O (λ_ _=>.inl (by simp)) E⟩
   | panic ch=>exact⟨_,a₁,w₁,hq,.pass (x:=.inLoop c) O (λ_ _=>.inl (by simp)) E⟩
   | outgrown=>exact⟨_,a₁,w₁,hq,.pass (x:=.inLoop c) O (λ_ _=>.inl (by simp)) E⟩
 obtain⟨e,G,w',hq,E⟩:=key _ z a w O h₀;exact⟨e,G,w',hq,.of_steps (.one (fenced_calm hb I O) stepR_loop) E⟩
theorem KW {α:Type}{c:Code}(D:List (Nat×Nat))(S:α→List (Nat×Value))(I:α→LN→World→Prop)(μ:α→Nat)(hD:wrG D c=true)(z:α)
  (h0:YT f (S z)) (hI:I z ds w)
  (round:∀x g H w',I x H w'→WG ro m P n c (Qa6 (λE J hb=>∃V,μ V<μ x∧YT J (S V)∧I V E hb) Q) H (VM (S x) (mix D f g)) w'):WG ro m P n (.loop c) Q ds f w:=by
 intro a ha;refine Um (λ(x:α) Y w'=>∃H J,Yu n H Y J∧(∀t,Xf c t=false→J t=f t)∧YT J (S x)∧I x H w') μ z ⟨ds,f,ha,λ_ _=>O,h0,hI⟩ ?_;rintro x Y w' ⟨H,J,h1,h2,h3,h4⟩;have h5:=round x J H w' h4;rw[Xi (λt ht=>h2 t (XZ ht c hD)),Yp h3]at h5;refine wpIn_mono (h5 Y h1) ?_;rintro e hc hb ⟨E,G,T,g2,U⟩;have k1:∀t,Xf c t=false→G t=f t:=λt ht=>(g2 t ht).trans (h2 t ht)
 have k2:∀t,Xf (.loop c) t=false→G t=f t:=λt ht=>k1 t (by simpa[Xf]using ht);cases e with
 | normal=>obtain⟨V,hm,hs,hi⟩:=U;exact⟨V,hm,E,G,T,k1,hs,hi⟩
 | exit id=>exact⟨E,G,T,k2,U⟩
 | goto l=>exact⟨E,G,T,k2,U⟩
 | ret=>exact⟨E,G,T,k2,U⟩
 | panic ch=>exact⟨E,G,T,k2,U⟩
 | outgrown=>exact⟨E,G,T,k2,U⟩
end
def rqG (P:Program)(rs:List ResultVar)(R:Value→World→Prop):Exit→LN→Fr→World→Prop
 | .normal,ds,f,w=>(∀D∈ds,w.heap[D]?=some (.deferred (some [])))∧ds.Nodup∧∃vs,∀w',Step ds w w'→VI P f w' rs vs∧R (tup vs) w'
 | .ret,ds,f,w=>(∀D∈ds,w.heap[D]?=some (.deferred (some [])))∧ds.Nodup∧∃vs,∀w',Step ds w w'→VI P f w' rs vs∧R (tup vs) w'
 | _,_,_,_=>False
theorem Step.putObj (w:World)(D:Nat)(o:Obj):Step [D] w (w.putObj D o):=⟨O,O,O,by simp,λk _ hk=>World.putObj_heap_other (λe=>hk (by simp[e]))⟩
theorem U7 {F:Fence}{m:Nat}{P:Program}{fn:Func}{tmps:Array Value}{R:Ending→World→Prop}:∀(ds:LN) (w:World),(∀D∈ds,w.heap[D]?=some (.deferred (some [])))→ds.Nodup →
  (∀w',Step ds w w'→∃v,(results fn tmps).run P w'=.ok v w'∧R (.returned v) w')→LeavesInM F m P fn tmps R (coll ds) .returning w
 | [],w,_,_,h=>h w (Step.refl _ _)
 | D::ds,w,hD,H,h=>by
  refine⟨by simp,.inl ⟨D,_,rfl,run_takeDeferred (hD D Lr),?_⟩⟩;have hs:=Step.putObj w D (.deferred none);have G:=List.nodup_cons.1 H;refine U7 ds _ (λE hE=>?_) G.2 (λw' I=>h w' ?_)
  ·rw[World.putObj_heap_other (λe=>G.1 (by rw[←e];exact hE))];exact hD E (Ln _ hE)
  exact(hs.mono (λb hb=>by simp at hb;simp[hb])).trans' (I.mono (λb hb=>Ln _ hb))
theorem QE.of_G {P:Program}{g:Nat}{fn:Func}{c:Code}{args:LV}{w:World}{R:Value→World→Prop}{n:Nat}{rs:List ResultVar}(m:Nat)
  (T:P.funcs[g]?=some fn) (hb:fn.body=some c) (U:fn.ntmps=n) (V:fn.results=rs.toArray) (hl:args.length≤n)
  (h:WG none m P n c (rqG P rs R) [] (ent args) w):QE P g args w R:=by
 unfold QE;refine(callsIn_wide (n:=m)).1 (callsIn_of_wp_marks T hb Z (wpIn_mono (h _ ?_) ?_))
 ·refine⟨by simp[U];omega,O,λt=>?_⟩;have key:∀(l:LV) (t:Nat),l[t]?.getD undef=ent l t:=by
   intro l;induction l with
   | nil=>intro t;rfl
   | cons v l ih=>intro t;cases t with|zero=>rfl|succ t=>simpa[ent]using ih t
  rw[←key];simp only[Array.getD_eq_getD_getElem?,Array.getElem?_append,List.size_toArray,List.getElem?_toArray];by_cases ht:t<args.length
  ·simp[ht]
  simp[ht,Array.getElem?_replicate];split <;> rfl
 rintro e H w' ⟨G,Y,h1,_,h3⟩;have fin:((∀D∈G,w'.heap[D]?=some (.deferred (some [])))∧G.Nodup∧∃vs,∀E,Step G w' E→VI P Y E rs vs∧R (tup vs) E) →
   LeavesInM Fence.wide m P fn H.tmps (λe w'=>match e with| .returned v=>R v w'|_=>False) H.defers .returning w':=by
  rintro⟨hd,ha,vs,I⟩;rw[h1.defers];refine U7 G w' hd ha λE J=>⟨tup vs,?_,(I E J).2⟩;simp only[results,V,List.mapM_toArray,Sem.run_bind,Sem.run_map];rw[X2 (a:={ H with defers:=[] }) h1.rel _ (λ_=>rfl) (λ_ _=>rfl) rs vs (I E J).1]
  cases vs with
  | nil=>rfl
  | cons v vs=>cases vs with|nil=>rfl|cons u us=>rfl
 cases e with
 | normal=>exact fin h3
 | ret=>exact fin h3
 | exit id=>exact h3.elim
 | goto l=>exact h3.elim
 | panic c=>exact h3.elim
 | outgrown=>exact h3.elim
attribute [irreducible] WG
end Go.Lg
namespace Go.Proofs.YtjcgijbhaemldaaGreatDoor
open Go.Proofs.Tryz
open Go.Lg
def IxQ {α:Type}(q:α→Bool)(es:List α)(r:Value):Prop:=(r=.int .i64 (-1)∧∀m (hm:m<es.length),q (es[m]'hm)=false)∨∃(i:Nat) (hi:i<es.length),r=.int .i64 i∧q (es[i]'hi)=true∧∀m (hm:m<i),q (es[m]'(by omega))=false
theorem Qiv {g:Nat}{fn:Func}[Fu prog g fn]{cap:LV}{q:Ed→Bool}{L:LN}{w:World}{v:Value}{es:List Ed}(h:UF L w.heap v es)
  (hk:∀(e:Ed) (E:World),Step [] w E→QE prog g ([.agg (QB e).toArray]++cap) E λr w'=>r=.bool (q e)∧Step [] E w'):
  QE prog 228 [v,.func (.func g) #[] cap.toArray] w λr w'=>Step [] w w'∧IxQ q es r:=by
 have V:=h.le;refine QE.of_W func228 O ntmps228 results228 (by simp) ?_;refine Qc<|Qe<|Qg<|Qc<|Qb<|x (Qu h O)<|Qb<|xe<|Qh<|Qz (α:=Nat) [(4,5),(8,18)] (λz=>[(8,.int .i64 z)]) (λz w'=>z≤es.length∧Step [] w w'∧∀m (hm:m<es.length),m<z→q (es[m]'hm)=false) (λz=>es.length - z) (by rfl) 0 La ⟨Lk _,Step.refl _ _,λm _ T=>absurd T (Nx m)⟩ ?_;rintro k Y E ⟨hk1,G,hq⟩
 refine Qc<|x (QA O O)<|xe<|Qg<|QD O (λh9=>?_) (λh9=>?_)
 ·refine Qy<|Qc<|Qe ?_;exact Qk ⟨[.int .i64 (-1)],La,G,.inl ⟨O,λm hm=>hq m hm (by omega)⟩⟩
 have H:k<es.length:=by omega
 refine Qi<|Qg<|Qh<|Qc<|Qb<|Qe<|Qc<|Qb<|Qb<|Qb<|xie (h.ext G) O O H λha U=>x (QG U O O)<|xl O<|xc (first:=[]) (capt:=cap) O<|(hk (es[k]'H) E G).mono ?_;rintro r2 w2 ⟨rfl,J⟩;refine xe<|QX rfl (λI=>?_) (λI=>?_)
 ·refine Qc<|Qb<|Qe ?_;exact Qk ⟨[.int .i64 k],La,G.trans J,.inr ⟨k,H,O,I,λm hm=>hq m (by omega) hm⟩⟩
 refine Qi<|Qx<|QN O O<|Qb<|xe<|⟨k+1,by omega,La,H,G.trans J,λm hm hb=>?_⟩;by_cases e:m=k
 ·subst e;exact I
 exact hq m hm (by omega)
theorem Qiu {g:Nat}{fn:Func}[Fu prog g fn]{cap:LV}{q:Int→Bool}{L:LN}{w:World}{v:Value}{es:LI}(h:QI L w.heap v es)
  (hk:∀(e:Int) (E:World),Step [] w E→QE prog g ([.int .i64 e]++cap) E λr w'=>r=.bool (q e)∧Step [] E w'):
  QE prog 111 [v,.func (.func g) #[] cap.toArray] w λr w'=>Step [] w w'∧IxQ q es r:=by
 have V:=h.le;refine QE.of_W func111 O ntmps111 results111 (by simp) ?_;refine Qc<|Qe<|Qg<|Qc<|Qb<|x (Qu h O)<|Qb<|xe<|Qh<|Qz (α:=Nat) [(4,5),(8,18)] (λz=>[(8,.int .i64 z)]) (λz w'=>z≤es.length∧Step [] w w'∧∀m (hm:m<es.length),m<z→q (es[m]'hm)=false) (λz=>es.length - z) (by rfl) 0 La ⟨Lk _,Step.refl _ _,λm _ T=>absurd T (Nx m)⟩ ?_;rintro k Y E ⟨hk1,G,hq⟩
 refine Qc<|x (QA O O)<|xe<|Qg<|QD O (λh9=>?_) (λh9=>?_)
 ·refine Qy<|Qc<|Qe ?_;exact Qk ⟨[.int .i64 (-1)],La,G,.inl ⟨O,λm hm=>hq m hm (by omega)⟩⟩
 have H:k<es.length:=by omega
 refine Qi<|Qg<|Qh<|Qc<|Qb<|Qe<|Qc<|Qb<|Qb<|Qb<|xii (h.ext G) O O H λha U=>x (Qw U O)<|xl O<|xc (first:=[]) (capt:=cap) O<|(hk (es[k]'H) E G).mono ?_;rintro r2 w2 ⟨rfl,J⟩;refine xe<|QX rfl (λI=>?_) (λI=>?_)
 ·refine Qc<|Qb<|Qe ?_;exact Qk ⟨[.int .i64 k],La,G.trans J,.inr ⟨k,H,O,I,λm hm=>hq m (by omega) hm⟩⟩
 refine Qi<|Qx<|QN O O<|Qb<|xe<|⟨k+1,by omega,La,H,G.trans J,λm hm hb=>?_⟩;by_cases e:m=k
 ·subst e;exact I
 exact hq m hm (by omega)
theorem Qc6 {g:Nat}{fn:Func}[Fu prog g fn]{cap:LV}{q:Int→Bool}{L:LN}{w:World}{v:Value}{es:LI}(h:QI L w.heap v es)
  (hk:∀(e:Int) (G:World),Step [] w G→QE prog g ([.int .i64 e]++cap) G λr w'=>r=.bool (q e)∧Step [] G w'):
  QE prog 153 [v,.func (.func g) #[] cap.toArray] w λr w'=>r=.bool (es.any q)∧Step [] w w':=by
 refine QE.of_W func153 O ntmps153 results153 (by simp) ?_;refine Qc<|Qe<|Qc<|Qb<|Qb<|xl O<|xf<|(Qiu h hk).mono ?_;rintro J G ⟨H,E⟩;refine Or.elim E (λE=>?_) (λE=>?_)
 ·obtain⟨rfl,hq⟩:=E;have e:es.any q=false:=by
   rw[Nk];intro z I;obtain⟨i,hi,rfl⟩:=LG I;rw[hq i hi];simp
  refine x (ZK O O)<|Qe ?_;exact Qk ⟨[.bool false],La,by rw[e];rfl,H⟩
 obtain⟨i,hi,rfl,h1,_⟩:=E;have e:es.any q=true:=Nt.2 ⟨_,Lh hi,h1⟩;have e2:decide ((0:Int)≤(i:Int))=true:=by simp
 refine x (ZK O O)<|Qe ?_;exact Qk ⟨[.bool (decide ((0:Int)≤(i:Int)))],La,by rw[e,e2];rfl,H⟩
theorem Qh4 (es:List Ed)(s v:Int):nxt es s v=nxt (ZI es s) s v:=by
 induction es with
 | nil=>rfl
 | cons e es ih =>
  unfold ZI at *;rw[Md];by_cases h:e.1=s
  ·rw[if_pos (by simpa using h),nxt,nxt,ih]
  rw[if_neg (by simpa using h),nxt,if_neg (λc=>h c.1),ih]
theorem Qfr:∀(l:List Ed) (s v:Int) (i:Nat) (hi:i<l.length),(∀e∈l,e.1=s)→(l[i]'hi).2.1=v→(∀m (hm:m<i),(l[m]'(by omega)).2.1≠v)→nxt l s v=(l[i]'hi).2.2
 | e::l,s,v,0,_,hs,E,_=>by rw[nxt,if_pos ⟨hs e Lr,E⟩];rfl
 | e::l,s,v,i+1,hi,hs,E,hm=>by
  rw[nxt,if_neg (λc=>hm 0 (by omega) c.2)];exact Qfr l s v i (by simpa using hi) (λe he=>hs e (Ln _ he)) E (λm G=>hm (m+1) (by omega))
theorem Qfn:∀(l:List Ed) (s v:Int),(∀e∈l,e.2.1≠v)→nxt l s v=-1
 | [],_,_,_=>rfl
 | e::l,s,v,h=>by rw[nxt,if_neg (λc=>h e Lr c.2)];exact Qfn l s v (λe he=>h e (Ln _ he))
theorem Qfv {b T:Nat}{n:Int}(e:Ed)(w:World)(G:QS w.heap b T [.int .i64 n]):
  QE prog 229 ([.agg (QB e).toArray]++[.pointer (some ⟨b,0,none⟩)]) w λr w'=>r=.bool (decide (e.2.1=n))∧Step [] w w':=by
 refine QE.of_W func229 O ntmps229 results229 (by simp) ?_;refine Qc<|xl O<|QP (us:=QB e) O λI J E U H=>Qe<|Qc<|x (Qa O)<|x (Qd H O O)<|x (Qd (G.ext E) O O)<|x (Zc O O)<|Qe ?_;exact Qk ⟨[_],La,O,E⟩
theorem QaN {L:LN}{w:World}{va vm ve:Value}{st:Int}{a:QM}(h:UF L w.heap ve a.ed)(G:Q3 a)(s v:Int)(ha:0≤s)(I:s<a.st):
  QE prog 198 [.agg #[va,.int .i64 st,vm,ve],.int .i64 s,.int .i64 v] w λr w'=>r=.int .i64 (nxt a.ed s v)∧Step [] w w':=by
 have hh:=G.st1;refine QE.of_W func198 O ntmps198 results198 (by simp) ?_;refine Qc<|xl O<|QP (us:=[va,.int .i64 st,vm,ve]) O λb3 w1 I hj hb=>xl O<|QP (us:=[.int .i64 v]) O λb5 w2 J hk hc=>Qe<|Qc<|x (Qo (hb.ext J) O O)<|Qb<|xl O<|xf<|(Qbn ((h.ext I).ext J) G.eds (λe he=>⟨(G.ed e he).1,by have:=(G.ed e he).2.1;omega⟩) s ha (by omega)).mono ?_;rintro vo w3 ⟨T,hE⟩;refine Qe ?_
 have hf:∀e∈ZI a.ed s,e.1=s:=λe he=>(Yi he).2;rw[Qh4];refine Qc<|Qb<|x (Zj (l:=[]) (l':=[.tmp 5]))<|xl O<|xf<|(Qiv (q:=λe=>decide (e.2.1=v)) (cap:=[.pointer (some ⟨b5,0,none⟩)]) hE (λe U H=>Qfv e U ((hc.ext T).ext H))).mono ?_;rintro r4 U ⟨H,E⟩;have V:=((I.trans J).trans T).trans H;refine Or.elim E (λE=>?_) (λE=>?_)
 ·obtain⟨rfl,hq⟩:=E;have e1:nxt (ZI a.ed s) s v=-1:=Qfn _ _ _ λe he=>by
   obtain⟨i,hi,rfl⟩:=LG he;simpa using hq i hi
  rw[e1];refine Qe<|Qg<|Qc<|Qb<|x (QA O O)<|xe<|qR O ?_;refine Qc<|Qe ?_;exact Qk ⟨[.int .i64 (-1)],La,O,V⟩
 obtain⟨i,hi,rfl,h1,h2⟩:=E;have e1:nxt (ZI a.ed s) s v=((ZI a.ed s)[i]'hi).2.2:=Qfr _ s v i hi hf (by simpa using h1) (λm hm=>by simpa using h2 m hm);rw[e1];refine Qe<|Qg<|Qc<|Qb<|x (QA O O)<|xe<|Q2 O (λY=>absurd Y (by omega)) (λY=>?_);refine Qi<|Qc<|Qb<|Qb<|xie (hE.ext H) O O hi λhl hg=>x (Zk O)<|x (Qw (hg.fld 2 _ O) O)<|Qe ?_;exact Qk ⟨[_],La,O,V⟩
def flw (a:QM):Int→LI→Int×Nat
 | s,[]=>(s,0)
 | s,v::u=>if nxt a.ed s v<0 then(s,0)else((flw a (nxt a.ed s v) u).1,(flw a (nxt a.ed s v) u).2+1)
theorem Qfo {a:QM}(E:Q3 a){s v:Int}(h:¬nxt a.ed s v<0):nxt a.ed s v<a.st:=(E.ed _ (yQ (by omega))).2.2.2.2
theorem zZ {L L':LN}{w:World}{va vm ve vw:Value}{st:Int}{a:QM}{u:LI}(h:UF L w.heap ve a.ed)(H:QI L' w.heap vw u)(U:Q3 a)(s:Int)(he:0≤s)(V:s<a.st):
  QE prog 161 [.agg #[va,.int .i64 st,vm,ve],.int .i64 s,vw] w λr w'=>r=.tuple #[.int .i64 (flw a s u).1,.int .i64 (flw a s u).2]∧Step [] w w':=by
 have hj:=H.le;refine QE.of_W func161 O ntmps161 results161 (by simp) ?_;refine Qc<|xl O<|QP (us:=[va,.int .i64 st,vm,ve]) O λb3 w1 V hl hg=>x Qf<|Qe<|Qg<|Qc<|Qb<|x (Qu H O)<|Qb<|xe ?_
 refine Qh<|Qz (α:=Nat×Int) [(1,1),(6,10),(13,27)] (λz=>[(1,.int .i64 z.2),(13,.int .i64 z.1)]) (λz w'=>z.1≤u.length∧0≤z.2∧z.2<a.st∧Step [] w1 w'∧flw a s u=((flw a z.2 (u.drop z.1)).1,(flw a z.2 (u.drop z.1)).2+z.1)) (λz=>u.length - z.1) (by rfl) (0,s) ⟨O,O,Z⟩ ⟨Lk _,he,by assumption,Step.refl _ _,by simp⟩ ?_;rintro⟨k,t⟩ g w2 ⟨hk,Y,ha,T,E⟩;simp only[]at hk Y ha E
 have I:=V.trans T;refine Qc<|x (QA O O)<|xe<|Qg<|QD O (λhb=>?_) (λhb=>?_)
 ·refine Qy<|Qc<|Qb<|Qb<|x (Qu H O)<|x Qf<|Qe ?_;rw[Ls (by omega)]at E;have hh:k=u.length:=by have hm:¬(k:Int)<(u.length:Int):=hb;omega
  refine Qk ⟨[.int .i64 t,.int .i64 u.length],⟨O,O,Z⟩,?_,I⟩;rw[E,hh];simp[flw,tup]
 have G:k<u.length:=by omega
 rw[Q6 G,flw]at E;refine Qi<|Qg<|Qh<|Qc<|Qb<|xii (H.ext I) O O G λhp hi=>x (Qw hi O)<|x Qf<|Qe<|Qc<|x (Qo (hg.ext T) O O)<|Qb<|Qb<|xl O<|xf<|(QaN (h.ext I) U t (u[k]'G) Y ha).mono ?_;rintro r3 w3 ⟨rfl,hc⟩;refine Qe<|Qg<|Qc<|Qb<|x (QA O O)<|xe<|Q2 rfl (λJ=>?_) (λJ=>?_)
 ·rw[if_pos J]at E;refine Qc<|Qb<|Qb<|x Qf<|Qe<|Qk ⟨[.int .i64 t,.int .i64 k],⟨O,O,Z⟩,?_,I.trans hc⟩;rw[E];simp[tup]
 rw[if_neg J]at E;have hn:=Qfo U J;refine Qi<|Qx<|Qb<|Qe<|Qx<|QN O O<|Qb<|xe<|⟨(k+1,nxt a.ed t (u[k]'G)),by simp only[];omega,⟨O,O,Z⟩,G,by simp only[];omega,hn,T.trans hc,?_⟩;simp only[];rw[E];simp;omega
def rchd (a:QM)(u:LI):Int×Bool:=if a.st=0 then(0,false)else((flw a 0 u).1,decide (((flw a 0 u).2:Int)=(u.length:Int)))
theorem Qbg {L L':LN}{w:World}{va vm ve vw:Value}{a:QM}{u:LI}(h:UF L w.heap ve a.ed)(H:QI L' w.heap vw u)(I:Q3 a):
  QE prog 159 [.agg #[va,.int .i64 a.st,vm,ve],vw] w λr w'=>r=.tuple #[.int .i64 (rchd a u).1,.bool (rchd a u).2]∧Step [] w w':=by
 have U:=I.st0;refine QE.of_W func159 O ntmps159 results159 (by simp) ?_;refine Qc<|xl O<|QP (us:=[va,.int .i64 a.st,vm,ve]) O λV Y E ha J=>x Qf<|Qe<|Qg<|Qc<|x (Qa O)<|x (Qd J O O)<|x (Zc O O)<|xe ?_;unfold rchd;refine Q2 rfl (λG=>?_) (λG=>?_)
 ·refine Qc<|x Qf<|Qe ?_;exact Qk ⟨[.int .i64 0,.bool false],⟨O,O,Z⟩,by rw[if_pos G];rfl,E⟩
 rw[if_neg G];refine Qi<|Qc<|x (Qo J O O)<|Qb<|xl O<|xf<|(zZ (h.ext E) (H.ext E) I 0 (by omega) (by omega)).mono ?_;rintro r2 w2 ⟨rfl,T⟩;refine Qb<|x (Qj O O)<|x (Qj O O) <|
  x Qf<|Qe<|Qc<|Qb<|Qb<|Qb<|x (Qu H O)<|x (Zc O O)<|x Qf<|Qe ?_
 exact Qk ⟨[_,_],⟨O,O,Z⟩,O,E.trans T⟩
def gens (a:QM)(u:LI):Bool:=if Y6 a≠0 then false else(rchd a u).2
theorem jn {L L':LN}{w:World}{va vm ve vw:Value}{a:QM}{u:LI}(h:Zq L w.heap va vm ve a)(T:QI L' w.heap vw u):
  QE prog 102 [.agg #[va,.int .i64 a.st,vm,ve],vw] w λr w'=>r=.tuple #[.bool (gens a u),.int .i64 (Y6 a)]∧Step [] w w':=by
 refine QE.of_W func102 O ntmps102 results102 (by simp) ?_;refine Qc<|xl O<|QP (us:=[va,.int .i64 a.st,vm,ve]) O λV Y G ha J=>x Qf<|Qe<|Qg<|Qc<|x (Qo J O O)<|xl O<|xf<|(YP (h.ext G)).mono ?_;rintro r2 w2 ⟨rfl,H⟩;refine Qe<|Qc<|Qb<|x (Q7 O O)<|xe ?_;unfold gens;refine Q2 rfl (λE=>?_) (λE=>?_)
 ·refine Qc<|Qb<|x Qf<|Qe ?_;exact Qk ⟨[_,_],⟨O,O,Z⟩,by rw[if_pos E];rfl,G.trans H⟩
 have hc:Y6 a=0:=Ll.1 E;rw[if_neg E,hc];have I:=G.trans H;refine Qi<|Qc<|x (Qo (J.ext H) O O)<|Qb<|xl O<|xf<|(Qbg (h.ed.ext I) (T.ext I) ((Zw a).1 hc)).mono ?_;rintro r3 w3 ⟨rfl,U⟩;refine Qb<|x (Qj O O) <|
  x (Qj rfl O)<|x Qf<|Qe<|Qc<|Qb<|x Qf<|Qe ?_
 exact Qk ⟨[_,_],⟨O,O,Z⟩,O,I.trans U⟩
def cks (a:QM)(s:Int):Int:=if Y6 a≠0 then Y6 a else if s<0∨a.st≤s then 2 else 0
theorem Je {L:LN}{w:World}{va vm ve:Value}{a:QM}(h:Zq L w.heap va vm ve a)(s:Int):
  QE prog 104 [.agg #[va,.int .i64 a.st,vm,ve],.int .i64 s] w λr w'=>r=.int .i64 (cks a s)∧Step [] w w':=by
 refine QE.of_W func104 O ntmps104 results104 (by simp) ?_;refine Qc<|xl O<|QP (us:=[va,.int .i64 a.st,vm,ve]) O λV Y I ha J=>Qe<|Qg<|Qc<|x (Qo J O O)<|xl O<|xf<|(YP (h.ext I)).mono ?_;rintro r2 U ⟨rfl,T⟩;refine Qe ?_;unfold cks;have E:=I.trans T;refine Qc<|Qb<|x (Q7 O O)<|xe<|Q2 rfl (λh9=>?_) (λh9=>?_)
 ·refine Qc<|Qb<|Qe ?_;exact Qk ⟨[_],La,by rw[if_pos h9];rfl,E⟩
 rw[if_neg h9];refine Qi<|Qg<|QZ (α:=Unit) [(11,18)] (λz=>[(18,.bool (decide (s<0∨a.st≤s)))]) (λz w'=>w'=U) (by rfl) ?_ ?_
 ·refine Qx<|Qb<|xb (QA O O) (λG=>?_) (λG=>?_)
  ·refine Qb<|xs O<|xs O<|xs O<|xs O<|x (Qp O)<|xe ?_;exact⟨(),⟨by rw[decide_eq_true (Or.inl G)];rfl,Z⟩,O⟩
  refine Qb<|Qb<|x (Qa O)<|x (Qd (J.ext T) O O)<|x (ZK O O)<|x (Qp O)<|xe ?_;exact⟨(),⟨by show Value.bool (decide (a.st≤s))=_;simp[G],Z⟩,rfl⟩
 rintro z g w3 rfl;refine Q2 rfl (λH=>?_) (λH=>?_)
 ·refine Qc<|Qe ?_;exact Qk ⟨[_],La,by rw[if_pos H];rfl,E⟩
 refine Qi<|Qc<|Qe ?_;exact Qk ⟨[_],La,by rw[if_neg H];rfl,E⟩
theorem QaA {a:QM}{s:Int}(h:cks a s=0):Q3 a∧0≤s∧s<a.st:=by
 unfold cks at h;split at h
 ·rename_i h1;exact absurd h h1
 rename_i h1;split at h
 ·cases h
 rename_i h2;exact⟨(Zw a).1 (Ll.1 h1),by omega,by omega⟩
theorem QhT {L:LN}{b T:Nat}{va:Value}{al:LI}{us:LV}(e:Int)(w:World)(E:QS w.heap b T (va::us))(G:QI L w.heap va al):
  QE prog 160 ([.int .i64 e]++[.pointer (some ⟨b,0,none⟩)]) w λr w'=>r=.bool (decide (e∉al))∧Step [] w w':=by
 refine QE.of_W func160 O ntmps160 results160 (by simp) ?_;refine Qc<|Qe<|Qc<|x (Qa O)<|x (Qd E O O)<|Qb<|xl O<|xf<|(Z7 G e).mono ?_;rintro H I ⟨rfl,rfl⟩;refine x (Zp O)<|Qe<|Qk ⟨[_],La,?_,Step.refl _ _⟩;show Value.bool (!decide (e∈al))=_;rw[decide_not]
def QeW (a:QM)(s:Int)(u:LI):Int:=if cks a s≠0 then cks a s else if(u.any λe=>decide (e∉a.al))=true then 9 else 0
theorem Qk9 {L L':LN}{w:World}{va vm ve vw:Value}{a:QM}{u:LI}(h:Zq L w.heap va vm ve a)(V:QI L' w.heap vw u)(s:Int):
  QE prog 103 [.agg #[va,.int .i64 a.st,vm,ve],.int .i64 s,vw] w λr w'=>Step [] w w'∧r=if QeW a s u≠0 then .tuple #[.int .i64 0,.int .i64 0,.int .i64 (QeW a s u)]else .tuple #[.int .i64 (flw a s u).1,.int .i64 (flw a s u).2,.int .i64 0]:=by
 refine QE.of_W func103 O ntmps103 results103 (by simp) ?_;refine Qc<|xl O<|QP (us:=[va,.int .i64 a.st,vm,ve]) O λb3 w1 Y hb J=>x Qf<|x Qf<|Qe<|Qg<|Qc<|x (Qo J O O)<|Qb<|xl O<|xf<|(Je (h.ext Y) s).mono ?_;rintro r2 w2 ⟨rfl,T⟩;refine Qe ?_;have G:=Y.trans T;unfold QeW;refine Qc<|Qb<|x (Q7 O O)<|xe<|Q2 rfl (λE=>?_) (λE=>?_)
 ·refine Qc<|Qb<|x Qf<|x Qf<|Qe ?_;exact Qk ⟨[_,_,_],⟨O,O,O,Z⟩,G,by rw[if_pos E,if_pos E];rfl⟩
 have hc:cks a s=0:=Ll.1 E;obtain⟨ho,h0,h1⟩:=QaA hc;rw[if_neg E];refine Qi<|Qg<|Qc<|Qb<|x (Zj (l:=[]) (l':=[.tmp 3]))<|xl O<|xf<|(Qc6 (q:=λe=>decide (e∉a.al)) (cap:=[.pointer (some ⟨b3,0,none⟩)]) (V.ext G) (λe w4 H=>QhT e w4 ((J.ext T).ext H) ((h.al.ext G).ext H))).mono ?_;rintro r3 w3 ⟨rfl,ha⟩;refine xe ?_;have I:=G.trans ha
 refine QX rfl (λU=>?_) (λU=>?_)
 ·rw[if_pos U];refine Qc<|x Qf<|x Qf<|Qe ?_;exact Qk ⟨[_,_,_],⟨O,O,O,Z⟩,I,by rw[if_pos (by decide)];rfl⟩
 rw[if_neg (by rw[U];simp)];refine Qi<|Qc<|x (Qo ((J.ext T).ext ha) O O)<|Qb<|Qb<|xl O<|xf<|(zZ (h.ed.ext I) (V.ext I) ho s h0 h1).mono ?_;rintro r4 w4 ⟨rfl,H⟩;refine Qb<|x (Qj O O) <|
  x (Qj rfl O)<|x Qf<|Qe<|Qc<|Qb<|Qb<|x Qf<|x Qf<|Qe ?_
 exact Qk ⟨[_,_,_],⟨O,O,O,Z⟩,I.trans H,O⟩
def enb (a:QM)(s:Int):LI:=(ZI a.ed s).map (·.2.1)
theorem Qgq {l:List Ed}{k:Nat}(h:k<l.length):(l.take (k+1)).map (·.2.1)=(l.take k).map (·.2.1)++[(l[k]'h).2.1]:=by
 rw[List.take_add_one,LA h,Lv];rfl
theorem KY {L:LN}{w:World}{va vm ve:Value}{a:QM}(h:Zq L w.heap va vm ve a)(s:Int):
  QE prog 55 [.agg #[va,.int .i64 a.st,vm,ve],.int .i64 s] w λr w'=>Step [] w w'∧∃v,r=.tuple #[v,.int .i64 (cks a s)]∧(cks a s≠0→v=Zd)∧(cks a s=0→Qt 3 w.heap.size w' v (enb a s)):=by
 refine QE.of_W func55 O ntmps55 results55 (by simp) ?_;refine Qc<|xl O<|QP (us:=[va,.int .i64 a.st,vm,ve]) O λb2 w1 hf h2 hg=>x Qf<|Qe<|Qg<|Qc<|x (Qo hg O O)<|Qb<|xl O<|xf<|(Je (h.ext hf) s).mono ?_;rintro r2 w2 ⟨rfl,hh⟩;refine Qe ?_;have T:=hf.trans hh;refine Qc<|Qb<|x (Q7 O O)<|xe<|Q2 rfl (λU=>?_) (λU=>?_)
 ·refine Qc<|Qb<|x Qf<|Qe ?_;exact Qk ⟨[Zd,_],⟨O,O,Z⟩,T,Zd,O,λ_=>O,λe=>absurd e U⟩
 have hc:cks a s=0:=Ll.1 U;obtain⟨G,h0,h1⟩:=QaA hc;have h3:=G.st1;rw[hc];refine Qi<|Qc<|Qe<|Qg<|Qc<|x (Qo (hg.ext hh) O O)<|Qb<|xl O<|xf<|(Qbn (h.ed.ext T) G.eds (λe he=>⟨(G.ed e he).1,by have:=(G.ed e he).2.1;omega⟩) s h0 (by omega)).mono ?_;rintro vo w3 ⟨hj,hE⟩;refine x (Qu hE O)<|Qb<|xe ?_;have hi:=T.trans hj;have hl:=hi.size;have hm:=Jk a.ed s
 have h4:=G.ed_le;refine Zb (ZI a.ed s) λos H=>?_;rw[H]at hE hm;refine Qh<|Qz (α:=Nat×Value) [(7,7),(9,9),(20,29)] (λz=>[(7,z.2),(20,.int .i64 z.1)]) (λz w'=>z.1≤os.length∧Step [] w3 w'∧Qt 3 w3.heap.size w' z.2 ((os.take z.1).map (·.2.1))) (λz=>os.length - z.1) (by rfl) (0,nS) ⟨O,by rw[H];rfl,Z⟩ ⟨Lk _,Step.refl _ _,QQ _ _ _ _⟩ ?_;rintro⟨k,v⟩ g w4 ⟨hk,J,I⟩
 simp only[]at hk I;have h5:=J.size;refine Qc<|x (QA O O)<|xe<|Qg<|QD O (λV=>?_) (λV=>?_)
 ·refine Qy<|Qc<|Qb<|x Qf<|Qe ?_;rw[Lm (by rw[H]at V;omega)]at I;refine Qk ⟨[v,_],⟨O,O,Z⟩,hi.trans J,v,O,λe=>absurd O e,λ_=>?_⟩;unfold enb;rw[H];exact Za I hl
 have E:k<os.length:=by rw[H]at V;omega
 refine Qi<|Qg<|Qh<|Qc<|xie (hE.ext J) O O E λh6 hn=>x (QG hn O O)<|xl O<|Qr (us:=[.int .i64 0,.int .i64 0,.int .i64 0]) O λb9 w5 hp hq hr=>xl O<|Qm (us:=QB (os[k]'E)) hr O O O O ⟨O,O,O,Z⟩ λw6 hs ht =>
  xe ?_
 have Y:Step [] w4 w6:=hp.then1 hs hq;have hu:=Qs I Y;refine Qx<|Qb<|x (Qa O)<|x (Qd ht O O)<|xl O<|QJ (us:=[[.int .i64 (os[k]'E).2.1]]) O O (by decide) (by simp) ⟨rfl,rfl,Z⟩ λh7 w7 ha h8 hv=>?_;have hw:=Qs hu ha;have h9:=(Y.trans ha).size;have hA:((os.take k).map (·.2.1)).length≤131072:=by simp;omega
 refine xl rfl<|Q5 (news:=[.int .i64 (os[k]'E).2.1]) (L:=[]) hw O O O (hv.at (by simp)) (by simp[Value.oneCell']) (by omega) (by omega) λv8 w8 hy hz hB=>Qe ?_;have hge:=Qq I;refine Qx<|QN O O<|Qb<|xe<|⟨(k+1,v8),by simp only[];omega,⟨O,O,Z⟩,E,((J.trans Y).trans ha).then hz (λb hb=>.inr (hge b hb).1),?_⟩;simp only[];rw[Qgq E];exact Qt.snoc hy
def QbJ:List QM→LI→Int
 | a::l,t::ts=>if t<0∨a.st≤t then 2 else QbJ l ts
 | _,_=>0
def ckT (l:List QM)(t:LI):Int:=if JM l≠0 then JM l else if t.length≠l.length then 4 else QbJ l t
theorem zl {L L':LN}{w:World}{v vt:Value}{ps:List AV}{ts:LI}(h:YH L w.heap v ps)(ht:QI L' w.heap vt ts):
  QE prog 162 [v,vt] w λr w'=>r=.int .i64 (ckT (ps.map (·.a)) ts)∧Step [] w w':=by
 have hy:=YH.le h;have hz:=ht.le;refine QE.of_W func162 O ntmps162 results162 (by simp) ?_;refine Qc<|Qe<|Qg<|Qc<|Qb<|xl O<|xf<|(zK h).mono ?_;rintro r1 w1 ⟨rfl,J⟩;refine Qe ?_;unfold ckT;refine Qc<|Qb<|x (Q7 O O)<|xe<|Q2 rfl (λT=>?_) (λT=>?_)
 ·refine Qc<|Qb<|Qe ?_;exact Qk ⟨[_],La,by rw[if_pos T];rfl,J⟩
 rw[if_neg T];refine Qi<|Qg<|Qc<|Qb<|x (Qu ht O)<|Qb<|x (Qu h.arr O)<|x (Q7 O O)<|xe<|Q2 rfl (λho=>?_) (λho=>?_)
 ·refine Qc<|Qe ?_;exact Qk ⟨[_],La,by rw[if_pos (by rw[Li];omega)];rfl,J⟩
 have hl:ts.length=ps.length:=by omega
 rw[if_neg (by rw[Li];omega)];refine Qi<|Qg<|Qc<|Qb<|x (Qu h.arr O)<|Qb<|xe<|Qh<|Qz (α:=Nat) [(4,4),(6,7),(20,39)] (λz=>[(20,.int .i64 z)]) (λz w'=>z≤ps.length∧Step [] w1 w'∧QbJ (ps.map (·.a)) ts=QbJ ((ps.drop z).map (·.a)) (ts.drop z)) (λz=>ps.length - z) (by rfl) 0 La ⟨Lk _,Step.refl _ _,O⟩ ?_;rintro k g w2 ⟨hk,hf,E⟩;have U:=J.trans hf
 refine Qc<|x (QA O O)<|xe<|Qg<|QD O (λhp=>?_) (λhp=>?_)
 ·refine Qy<|Qc<|Qe<|Qk ⟨[_],La,?_,U⟩;rw[E,Ls (by omega)];rfl
 have G:k<ps.length:=by omega
 have H:k<ts.length:=by omega
 rw[Q6 G,Q6 H,LT,QbJ]at E;have I:=h.each _ (Lh G);refine Zb (ps[k]'G) λpk hg=>?_;rw[hg]at I E;refine Qi<|Qg<|Qh<|Qc<|Qb<|xig Jf (h.arr.ext U) O O G λh0 hh=>?_;rw[hg]at hh;refine x (QG hh O O)<|xl O<|Qr (us:=[nS,.int .i64 0,nS,nS]) O λb7 w3 hq hs hu=>x Qf <|
  xl rfl<|Qm (us:=Q9 pk) hu O O O O ⟨I.al.one,O,I.mr.one,I.ed.one,Z⟩ λV hv hw=>xe ?_
 have hi:Step [] w2 V:=hq.then1 hv hs;have Y:=U.trans hi;refine Zb (ts[k]'H) λtk ha=>?_;rw[ha]at E;refine QZ (α:=Unit) [(25,38)] (λz=>[(38,.bool (decide (tk<0∨pk.a.st≤tk)))]) (λz w'=>Step [] V w') (by rfl) ?_ ?_
 ·refine QU (Step [] V) [(0,true),(1,true),(2,true),(3,true),(4,true),(5,true),(6,true),(7,true),(8,true),(9,true),(10,true),(11,true),(12,true),(13,true)] mixed (by rfl) (by kernel_rfl) (Step.drew _ _) ?_;refine p (λ_=>Qn)<|p (λ_=>Qn)<|pii O (ht.ext Y) O O H λh1 hj=>?_;rw[ha]at hj;refine pq (λ_ hc=>Qw (hj.ext hc) O) <|
   pb (λ_=>QA O O) (λhb=>?_) (λhb=>?_)
  ·refine p (λ_=>Qn)<|Lg.ps<|Lg.ps<|Lg.ps<|Lg.ps<|Lg.ps<|Lg.ps<|Lg.ps<|p (λ_=>Qp O)<|pe ?_;exact⟨(),⟨by rw[decide_eq_true (Or.inl hb)];rfl,Z⟩,Step.drew _ _⟩
  refine p (λ_=>Qn)<|p (λ_=>Qn)<|p (λ_=>Qn)<|pii O (ht.ext Y) O O H λh2 hm=>?_;rw[ha]at hm;refine pq (λ_ hc=>Qw (hm.ext hc) O) <|
   p (λ_=>Qa O)<|pq (λ_ hc=>Qd (hw.ext hc) O O)<|p (λ_=>ZK O O)<|p (λ_=>Qp O)<|pe ?_
  exact⟨(),⟨by show Value.bool (decide (pk.a.st≤tk))=_;simp[hb],Z⟩,Step.drew _ _⟩
 rintro z g w5 hn;refine Q2 rfl (λhe=>?_) (λhe=>?_)
 ·refine Qc<|Qe ?_;exact Qk ⟨[_],La,by rw[E,if_pos he];rfl,Y.trans hn⟩
 refine Qi<|Qx<|QN O O<|Qb<|xe ?_;exact⟨k+1,by omega,La,G,(hf.trans hi).trans hn,by rw[E,if_neg he]⟩
theorem QgG {l:List QM}(h:JM l=0):l.length≤12∧∀a∈l,Q3 a:=by
 unfold JM at h;split at h
 ·cases h
 rename_i h1;exact⟨by omega,(VD l).1 h⟩
theorem yd:∀{l:List QM}{t:LI},t.length=l.length→(QbJ l t=0↔Vt l t)
 | [],t,hl=>by
  have:t=[]:=Lq hl;subst this;exact⟨λ_=>⟨O,λi h=>by simp at h⟩,λ_=>rfl⟩
 | a::l,[],hl=>by simp at hl
 | a::l,t::ts,hl=>by
  rw[QbJ];have ih:=yd (l:=l) (t:=ts) (by simpa using hl);constructor
  ·intro h;split at h
   ·cases h
   rename_i h1;exact Vt.cons (by omega) (by omega) (ih.1 h)
  intro h;have E:=h.2 0 (by simp) (by simp);simp only[List.getElem_cons_zero]at E;rw[if_neg (by omega),ih];exact⟨by simpa using hl,λi h2 h3=>h.2 (i+1) (by simpa using h2) (by simpa using h3)⟩
theorem QaB {l:List QM}{t:LI}(h:ckT l t=0):l.length≤12∧(∀a∈l,Q3 a)∧Vt l t:=by
 unfold ckT at h;split at h
 ·rename_i h1;exact absurd h h1
 rename_i h1;split at h
 ·cases h
 rename_i h2;obtain⟨h3,h4⟩:=QgG (Ll.1 h1);exact⟨h3,h4,(yd (by omega)).1 h⟩
def ckV (l:List QM)(t:LI)(v:Int):Int:=if ckT l t≠0 then ckT l t else if v∉evs l then 9 else 0
theorem zm {L L':LN}{w:World}{v vt:Value}{ps:List AV}{ts:LI}(h:YH L w.heap v ps)(ht:QI L' w.heap vt ts)(e:Int):
  QE prog 105 [v,vt,.int .i64 e] w λr w'=>r=.int .i64 (ckV (ps.map (·.a)) ts e)∧Step [] w w':=by
 refine QE.of_W func105 O ntmps105 results105 (by simp) ?_;refine Qc<|Qe<|Qg<|Qc<|Qb<|Qb<|xl O<|xf<|(zl h ht).mono ?_;rintro Y w1 ⟨rfl,G⟩;refine Qe ?_;unfold ckV;refine Qc<|Qb<|x (Q7 O O)<|xe<|Q2 rfl (λE=>?_) (λE=>?_)
 ·refine Qc<|Qb<|Qe ?_;exact Qk ⟨[_],La,by rw[if_pos E];rfl,G⟩
 rw[if_neg E];obtain⟨h1,h2,h3⟩:=QaB (Ll.1 E);rw[Li]at h1;have T:(evs (ps.map (·.a))).length≤1099511627776:=by have:=UC (ps.map (·.a)) (λa ha=>(h2 a ha).al_le);rw[Li]at this;omega
 refine Qi<|Qg<|Qc<|Qb<|xl O<|xf<|(ya (h.ext G) h1 (λp hp=>(h2 p.a (LK hp)).al_le)).mono ?_;rintro r2 w2 ⟨U,V⟩;refine Qb<|xl O<|xf<|(Yx (Qt.ints (L:=[]) V T (by simp)) (je h2) e).mono ?_;rintro r3 w3 ⟨rfl,rfl⟩;refine x (Zp O)<|xe ?_;have J:=G.trans U;refine QX rfl (λH=>?_) (λH=>?_)
 ·have I:e∉evs (ps.map (·.a)):=by simpa using H
  refine Qc<|Qe ?_;exact Qk ⟨[_],La,by rw[if_pos I];rfl,J⟩
 have I:¬e∉evs (ps.map (·.a)):=by simpa using H
 refine Qi<|Qc<|Qe ?_;exact Qk ⟨[_],La,by rw[if_neg I];rfl,J⟩
def goT (aa:List QM):LI→LI→Option (LI)
 | t,[]=>some t
 | t,v::u=>if v∉evs aa then none else match Zt v aa t with|none=>none|some t'=>goT aa t' u
theorem Qf0 {aa:List QM}{A:QM}{Q:List (LI)}(h:SyP aa A Q):∀(u:LI) (j:Nat),j<Q.length →
  (∃G:Nat,G<Q.length∧flw A j u=((G:Int),u.length)∧goT aa (Q.getD j []) u=some (Q.getD G []))∨((flw A j u).2<u.length∧goT aa (Q.getD j []) u=none)
 | [],j,hj=>.inl ⟨j,hj,O,O⟩
 | v::u,j,hj=>by
  have hs:=h.step hj v;by_cases E:v∈evs aa
  ·rw[if_pos E]at hs;cases ht:Zt v aa (Q.getD j [])with
   | none =>
    rw[ht]at hs;have H:nxt A.ed j v=-1:=by rw[Vi,hs];rfl
    right;rw[flw,if_pos (by rw[H];decide),goT,if_neg (λe=>e E),ht];exact⟨by simp,rfl⟩
   | some t' =>
    obtain⟨h1,h2⟩:=h.to hj E ht;rw[ht]at hs;have H:nxt A.ed j v=(Q.idxOf t':Int):=by rw[Vi,hs];rfl
    rw[flw,H,if_neg (by omega),goT,if_neg (λe=>e E),ht];rcases Qf0 h u (Q.idxOf t') h1 with⟨G,k1,k2,k3⟩|⟨k1,k2⟩
    ·left;refine⟨G,k1,?_,?_⟩
     ·rw[k2];simp
     rw[h2]at k3;exact k3
    right;rw[h2]at k2;exact⟨by simp;omega,k2⟩
  rw[if_neg E]at hs;have H:nxt A.ed j v=-1:=by rw[Vi,hs]
  right;rw[flw,if_pos (by rw[H];decide),goT,if_pos E];exact⟨by simp,rfl⟩
theorem QiB {A:QM}(G:Q3 A){aa:List QM}{Q:List (LI)}(h:SyP aa A Q){u:LI}(E:gens A u=true):∃j:Nat,j<Q.length∧flw A 0 u=((j:Int),u.length)∧goT aa (Q.getD 0 []) u=some (Q.getD j []):=by
 unfold gens at E;rw[if_neg (by simpa using(Zw A).2 G)]at E;unfold rchd at E;split at E
 ·cases E
 rename_i I;have J:=h.st;have H:0<Q.length:=by omega
 rcases Qf0 h u 0 H with⟨j,k1,k2,k3⟩|⟨k1,_⟩
 ·exact⟨j,k1,k2,k3⟩
 simp only[decide_eq_true_eq]at E;have:((0:Nat):Int)=0:=rfl;rw[this]at k1;omega
theorem Qf7 {a:QM}(E:Q3 a):∀(u:LI) (s:Int),(flw a s u).2=u.length→∀e∈u,e∈a.al
 | [],_,_,e,he=>by cases he
 | v::u,s,h,e,he=>by
  rw[flw]at h;split at h
  ·simp at h
  rename_i G;rcases Lc.1 he with rfl|he
  ·exact(E.ed _ (yQ (show 0≤nxt a.ed s e by omega))).2.2.1
  exact Qf7 E u _ (by simpa using h) e he
theorem yH {L:LN}{w:World}{v:Value}{l:LI}(h:QI L w.heap v l)(n:Int):
  QE prog 136 [v,.int .i64 n] w λr w'=>r=.int .i64 (YJ n none l)∧w'=w:=by
 have hc:=h.le;refine QE.of_W func136 O ntmps136 results136 (by simp) ?_;refine Qc<|Qe<|Qg<|Qc<|Qb<|x (Qu h O)<|Qb<|xe<|Qh<|Qz (α:=Nat) [(4,6),(9,34)] (λk=>[(9,.int .i64 k)]) (λk w'=>w'=w∧k≤l.length∧YJ n (pv l k) (l.drop k)=YJ n none l) (λk=>l.length - k) (by rfl) 0 La ⟨O,Lk _,O⟩ ?_;rintro k g T ⟨rfl,hk,hm⟩;refine Qc<|x (QA O O)<|xe<|Qg<|QD O (λU=>?_) (λU=>?_)
 ·refine Qy<|Qc<|Qe<|Qk ⟨[.int .i64 0],La,?_,O⟩;rw[←hm,Ls (by omega)];rfl
 have E:k<l.length:=by omega
 have hd:=Q6 E;rw[hd,YJ]at hm;refine Qi<|Qg<|Qh<|Qc<|Qb<|xii h O O E λhe V=>x (Qw V O)<|x Qf<|Qe<|Qh<|QZ (α:=Bool) [(14,21)] (λz=>[(14,.bool z)]) (λz w'=>w'=T∧z=decide (l[k]<0∨n≤l[k])) (by rfl) ?_ ?_
 ·refine Qx<|Qb<|xb (QA O O) (λG=>?_) (λG=>?_)
  ·refine Qb<|xs O<|xs O<|xs O<|x (Qp O)<|Qe ?_;exact⟨true,La,O,by simp[G]⟩
  refine Qb<|Qb<|Qb<|x (ZK O O)<|x (Qp O)<|Qe ?_;exact⟨_,La,O,by simp[G]⟩
 rintro z g Y ⟨rfl,rfl⟩;refine Q2 rfl (λH=>?_) (λH=>?_)
 ·refine Qc<|Qe<|Qk ⟨[.int .i64 2],La,?_,O⟩;rw[←hm,if_pos H];rfl
 rw[if_neg H]at hm;refine QZ (α:=Bool) [(22,33)] (λz=>[(22,.bool z)]) (λz w'=>w'=Y∧z=U8 (pv l k) l[k]) (by rfl) ?_ ?_
 ·refine Qx<|Qb<|xb (ZP O O) (λha=>?_) (λha=>?_)
  ·have hk1:((k:Int) - 1)=((k - 1:Nat):Int):=by omega
   refine Qb<|Qb<|Qb<|Qb<|x (X4 O O ⟨by omega,by omega⟩)<|xii (i:=k - 1) h O (by show Value.int _ ((k:Int) - 1)=_;rw[hk1]) (by omega) λhf hb=>x (Qw hb rfl)<|x (Jj rfl rfl)<|x (Qp rfl)<|Qe<|⟨_,⟨rfl,Z⟩,rfl,?_⟩;have:pv l k=some l[k - 1]:=by
    have I:k≠0:=by omega
    simp[pv,I,show k - 1<l.length by omega]
   rw[this];rfl
  refine Qb<|xs O<|xs O<|xs O<|xs O<|xs O<|xs O<|xs O<|x (Qp O)<|Qe ?_;have I:k=0:=by omega
  exact⟨false,La,O,by simp[pv,I,U8]⟩
 rintro z g w3 ⟨rfl,rfl⟩;refine QX rfl (λJ=>?_) (λJ=>?_)
 ·refine Qc<|Qe<|Qk ⟨[.int .i64 5],La,?_,O⟩;rw[←hm,if_pos J];rfl
 rw[if_neg (by simp[J])]at hm;refine Qi<|Qx<|QN O O<|Qb<|xe ?_;exact⟨k+1,by omega,La,O,by omega,by rw[JB E];exact hm⟩
theorem Kh {L:LN}{w:World}{v:Value}{l:LI}(h:QI L w.heap v l)(n:Int):
  QE prog 167 [v,.int .i64 n] w λr w'=>r=.int .i64 (YJ n none l)∧w'=w:=by
 have hc:=h.le;refine QE.of_W func167 O ntmps167 results167 (by simp) ?_;refine Qc<|Qe<|Qg<|Qc<|Qb<|x (Qu h O)<|Qb<|xe<|Qh<|Qz (α:=Nat) [(4,6),(9,32)] (λk=>[(9,.int .i64 k)]) (λk w'=>w'=w∧k≤l.length∧YJ n (pv l k) (l.drop k)=YJ n none l) (λk=>l.length - k) (by rfl) 0 La ⟨O,Lk _,O⟩ ?_;rintro k g T ⟨rfl,hk,hm⟩;refine Qc<|x (QA O O)<|xe<|Qg<|QD O (λU=>?_) (λU=>?_)
 ·refine Qy<|Qc<|Qe<|Qk ⟨[.int .i64 0],La,?_,O⟩;rw[←hm,Ls (by omega)];rfl
 have E:k<l.length:=by omega
 have hd:=Q6 E;rw[hd,YJ]at hm;refine Qi<|Qg<|Qh<|Qc<|Qb<|xii h O O E λhe V=>x (Qw V O)<|x Qf<|Qe<|Qg<|QZ (α:=Bool) [(14,20)] (λz=>[(20,.bool z)]) (λz w'=>w'=T∧z=decide (l[k]<0∨n≤l[k])) (by rfl) ?_ ?_
 ·refine Qx<|Qb<|xb (QA O O) (λG=>?_) (λG=>?_)
  ·refine Qb<|xs O<|xs O<|xs O<|x (Qp O)<|xe ?_;exact⟨true,La,O,by simp[G]⟩
  refine Qb<|Qb<|Qb<|x (ZK O O)<|x (Qp O)<|xe ?_;exact⟨_,La,O,by simp[G]⟩
 rintro z g Y ⟨rfl,rfl⟩;refine Q2 rfl (λH=>?_) (λH=>?_)
 ·refine Qc<|Qe<|Qk ⟨[.int .i64 2],La,?_,O⟩;rw[←hm,if_pos H];rfl
 rw[if_neg H]at hm;refine Qi<|QZ (α:=Bool) [(21,31)] (λz=>[(31,.bool z)]) (λz w'=>w'=Y∧z=U8 (pv l k) l[k]) (by rfl) ?_ ?_
 ·refine Qx<|Qb<|xb (ZP O O) (λha=>?_) (λha=>?_)
  ·have hk1:((k:Int) - 1)=((k - 1:Nat):Int):=by omega
   refine Qb<|Qb<|Qb<|Qb<|x (X4 O O ⟨by omega,by omega⟩)<|xii (i:=k - 1) h O (by show Value.int _ ((k:Int) - 1)=_;rw[hk1]) (by omega) λhf hb=>x (Qw hb rfl)<|x (Jj rfl rfl)<|x (Qp rfl)<|xe<|⟨_,La,O,?_⟩;have:pv l k=some l[k - 1]:=by
    have I:k≠0:=by omega
    simp[pv,I,show k - 1<l.length by omega]
   rw[this];rfl
  refine Qb<|xs O<|xs O<|xs O<|xs O<|xs O<|xs O<|xs O<|x (Qp O)<|xe ?_;have I:k=0:=by omega
  exact⟨false,La,O,by simp[pv,I,U8]⟩
 rintro z g w3 ⟨rfl,rfl⟩;refine QX rfl (λJ=>?_) (λJ=>?_)
 ·refine Qc<|Qe<|Qk ⟨[.int .i64 5],La,?_,O⟩;rw[←hm,if_pos J];rfl
 rw[if_neg (by simp[J])]at hm;refine Qi<|Qx<|QN O O<|Qb<|xe ?_;exact⟨k+1,by omega,La,O,by omega,by rw[JB E];exact hm⟩
theorem qG {L:LN}{w:World}{va vm ve v:Value}{a:QM}{l:LI}(h:QI L w.heap v l):
  QE prog 79 [.agg #[va,.int .i64 a.st,vm,ve],v] w λr w'=>r=.int .i64 (YJ a.st none l)∧Step [] w w':=by
 refine QE.of_W func79 O ntmps79 results79 (by simp) ?_;refine Qc<|xl O<|QP (us:=[va,.int .i64 a.st,vm,ve]) O λH I E J G=>Qe<|Qc<|Qb<|x (Qa O)<|x (Qd G O O)<|xl O<|xf<|(yH (h.ext E) a.st).mono ?_;rintro r2 T ⟨rfl,rfl⟩;refine Qe ?_;exact Qk ⟨[.int .i64 (YJ a.st none l)],La,O,E⟩
def flg (n:Nat)(l:LI):List Bool:=(List.range n).map λi:Nat=>decide ((i:Int)∈l)
theorem UA (n:Nat)(l:LI):(flg n l).length=n:=by simp[flg]
theorem y8 {n:Nat}{l:LI}{i:Nat}(h:i<(flg n l).length):(flg n l)[i]'h=decide ((i:Int)∈l):=by simp[flg]
theorem y7 {n:Nat}{l:LI}{x:Int}(E:0≤x):(flg n l).set x.toNat true=flg n (l++[x]):=by
 apply Ma
 ·simp[flg]
 intro i h2 h3;rw[Nb,y8 h3];by_cases e:x.toNat=i
 ·have:(i:Int)=x:=by omega
  rw[if_pos e,this];simp
 have:(i:Int)≠x:=by omega
 rw[if_neg e,y8];simp[this]
theorem Qap {L:LN}{w:World}{va vm ve v:Value}{a:QM}{l:LI}{n:Nat}(h:QI L w.heap v l)(U:a.st=(n:Int))(hp:a.st≤4096)(hl:∀s∈l,0≤s∧s<a.st):
  QE prog 80 [.agg #[va,.int .i64 a.st,vm,ve],v] w λr w'=>Step [] w w'∧∃b,r=.slice (some ⟨b,0,none⟩) n n∧w.heap.size≤b∧QS w'.heap b 4 ((flg n l).map Value.bool):=by
 have hq:=h.le;refine QE.of_W func80 O ntmps80 results80 (by simp) ?_;refine Qc<|xl O<|QP (us:=[va,.int .i64 a.st,vm,ve]) O λb2 w1 G hr ha=>Qe<|Qc<|x (Qa O)<|x (Qd ha O O)<|xl O<|Xh (n:=n) (congrArg (Value.int .i64) U) (congrArg (Value.int .i64) U) (by omega) λb10 w2 V hb hc=>Qe ?_;have he:=G.trans V;have hf:QS w2.heap b10 4 ((flg n (l.take 0)).map Value.bool):=by
  have e:(List.replicate n (Value.bool false).cells.toList).flatten=(flg n (l.take 0)).map Value.bool:=by
   simp only[flg,List.take_zero,List.not_mem_nil,decide_false,List.map_map];apply Ma
   ·simp[Value.cells]
   intro i h1 h2;simp[Value.cells]
  rw[←e];exact hc
 refine Qg<|Qc<|Qb<|x (Qu (h.ext he) O)<|Qb<|xe<|Qh<|Qz (α:=Nat) [(7,7),(13,20)] (λz=>[(13,.int .i64 z)]) (λz w'=>z≤l.length∧Step [] w1 w'∧QS w'.heap b10 4 ((flg n (l.take z)).map Value.bool)) (λz=>l.length - z) (by rfl) 0 La ⟨Lk _,V,hf⟩ ?_;rintro k g w3 ⟨hk,I,J⟩;refine Qc<|x (QA O O)<|xe<|Qg<|QD O (λT=>?_) (λT=>?_)
 ·refine Qy ?_;have hg:l.length≤k:=by have H:¬(k:Int)<(l.length:Int):=T;omega
  rw[Lm hg]at J;refine Qc<|Qb<|Qe ?_;have ht:=G.size;exact Qk ⟨[.slice (some ⟨b10,0,none⟩) n n],La,G.trans I,b10,O,by omega,J⟩
 have E:k<l.length:=by have H:(k:Int)<(l.length:Int):=T;omega
 have hx:=hl _ (Lh E);have Y:l.take (k+1)=l.take k++[l[k]'E]:=Le E;refine Zb (l[k]'E) λs hs=>?_;rw[hs]at hx Y;have hh:s=(s.toNat:Int):=by omega
 have hi:=y7 (n:=n) (l:=l.take k) hx.1;refine Qi<|Qg<|Qh<|Qc<|xii (i:=k) ((h.ext G).ext I) O O E λhu H=>?_;rw[hs]at H;refine x (Qw H O)<|Qe<|Qx<|Qb<|Qb<|x (QR (i:=s.toNat) O (congrArg (Value.int .i64) hh) (by omega))<|xl O<|QC (j:=0+s.toNat*1) (u:=.bool true) J O O (by rw[Li,UA];omega) O λw4 hj hm=>xe ?_
 have ho:QS w4.heap b10 4 ((flg n (l.take (k+1))).map Value.bool):=by
  rw[Y,←hi,Nw];simpa using hm
 refine Qx<|QN O O<|Qb<|xe ?_;exact⟨k+1,by omega,La,E,I.then1 hj hb,ho⟩
def Rv (l:LI)(i:Nat)(li:LI):Prop:=∃h:li.length=l.length,∀k (hk:k<l.length),li[k]'(by omega)=if k<i∨l.length≤k+i then l[l.length - 1 - k]'(by omega)else l[k]'hk
theorem Rv.start (l:LI):Rv l 0 l:=⟨O,λk hk=>by rw[if_neg (by omega)]⟩
theorem Rv.next {l li:LI}{i:Nat}(h:Rv l i li)(hi:i<l.length - 1 - i):Rv l (i+1) ((li.set i (l[l.length - 1 - i]'(by omega))).set (l.length - 1 - i) (l[i]'(by omega))):=by
 obtain⟨h1,h2⟩:=h;refine⟨by simp[h1],λk hk=>?_⟩;rw[Nb,Nb];by_cases e1:l.length - 1 - i=k
 ·rw[if_pos e1,if_pos (by omega)];congr 1;omega
 rw[if_neg e1];by_cases e2:i=k
 ·rw[if_pos e2,if_pos (by omega)];subst e2;rfl
 rw[if_neg e2,h2 k hk];by_cases e3:k<i∨l.length≤k+i
 ·rw[if_pos e3,if_pos (by omega)]
 rw[if_neg e3,if_neg (by omega)]
theorem Rv.fin {l li:LI}{i:Nat}(h:Rv l i li)(hi:l.length - 1 - i≤i)(G:2*i≤l.length):li=l.reverse:=by
 obtain⟨h1,h2⟩:=h;apply Ma
 ·simp[h1]
 intro k hk H;have E:k<l.length:=by omega
 rw[h2 k E,List.getElem_reverse];by_cases e:k<i∨l.length≤k+i
 ·rw[if_pos e]
 rw[if_neg e];congr 1;omega
theorem Rv.at_i {l li:LI}{i:Nat}(h:Rv l i li)(hi:i<l.length - 1 - i):∃(E:i<li.length) (h3:l.length - 1 - i<li.length),li[i]'E=l[i]'(by omega)∧li[l.length - 1 - i]'h3=l[l.length - 1 - i]'(by omega):=by
 obtain⟨h1,h2⟩:=h;refine⟨by omega,by omega,?_,?_⟩
 ·rw[h2 i (by omega),if_neg (by omega)]
 rw[h2 _ (by omega),if_neg (by omega)]
theorem qU {w:World}{base:Nat}{v:Value}{l:LI}(h:Qt 3 base w v l)(he:l.length≤1099511627776):
  QE prog 137 [v] w λ_ w'=>Qt 3 base w' v l.reverse∧Step (ob v) w w':=by
 refine QE.of_W func137 O ntmps137 results137 (by simp) ?_;refine Qc<|Qb<|x (Qu (QV (L:=[]) h he (by simp)) rfl)<|x (X4 rfl rfl ⟨by omega,by omega⟩)<|x Qf<|Qe<|Qh<|Qz (α:=Nat×LI) [(2,3),(7,27)] (λz=>[(2,.int .i64 z.1),(3,.int .i64 ((l.length:Int) - 1 - z.1))])
  (λz w'=>Rv l z.1 z.2∧2*z.1≤l.length∧Step (ob v) w w'∧Qt 3 base w' v z.2) (λz=>l.length - z.1) (by rfl) (0,l) ⟨O,congrArg (Value.int .i64) (by simp),Z⟩ ⟨Rv.start l,by simp,Step.refl _ _,h⟩ ?_
 rintro⟨i,li⟩ g G ⟨hR,J,T,E⟩;simp only[]at hR J E;refine Qg<|Qc<|Qb<|Qb<|x (QA O O)<|xe<|QD rfl (λh9=>?_) (λh9=>?_)
 ·refine Qy ?_;rw[hR.fin (by omega) J]at E;exact⟨[],Z,E,T⟩
 have U:i<l.length - 1 - i:=by omega
 have hj:(l.length:Int) - 1 - (i:Int)=((l.length - 1 - i:Nat):Int):=by omega
 have hn:li.length=l.length:=hR.1;have hf:=hR.next U;refine Exists.elim (hR.at_i U) λV H=>Exists.elim H λh3 H=>?_;refine Exists.elim (VS E (by omega)) λgg hg=>Exists.elim hg λcap I=>?_;have Y:QI [] G.heap v li:=QV E (by omega) (by simp)
 refine Qi<|Qg<|Qh<|QU (Step [] G) [(0,true),(1,true),(2,true),(3,true),(4,true),(5,true),(6,true),(7,true),(8,true),(9,true),(10,true),(11,true),(12,true),(13,false),(14,true),(15,false)] mixed (by rfl) (by kernel_rfl) (Step.drew _ _) ?_;refine p (λ_=>Qn)<|p (λ_=>Qn)<|p (λ_=>Qn)<|p (λ_=>Qn)<|p (λ_=>Qn)<|p (λ_=>Qn)<|pii (i:=l.length - 1 - i) O Y O (congrArg (Value.int .i64) hj) h3 λho ha=>?_
 rw[H.2]at ha;refine pq (λ_ hc=>Qw (ha.ext hc) O)<|p (λ_=>Qn)<|p (λ_=>Qn)<|pii (i:=i) O Y O O V λhp hb=>?_;rw[H.1]at hb;refine pq (λ_ hc=>Qw (hb.ext hc) O)<|p (λ_=>QR (i:=i) (show ev _ _=_ from I) O (by omega)) <|
  pkl (hl:=by kernel_rfl)<|zL (Qs E (Step.drew [] G)) I O O V λw2 hh hi=>p (λ_=>QR (i:=l.length - 1 - i) (show ev _ _=_ from I) (congrArg (Value.int .i64) hj) (by omega)) <|
  pkl (hl:=by kernel_rfl)<|zL hi (by rw[ML];exact I) O O (by rw[ML];exact h3) λw3 hk hm=>pe ?_
 refine Qx<|Qb<|QN O O<|Qb<|x (X4 O O ⟨by omega,by omega⟩)<|x Qf<|Qe ?_;exact⟨(i+1,_),by simp only[];omega,⟨O,congrArg (Value.int .i64) (by omega),Z⟩,hf,by simp only[];omega,((T.trans (Step.drew [] G)).trans' hh).trans' hk,hm⟩
end Go.Proofs.YtjcgijbhaemldaaGreatDoor
namespace Go.Lg
open Go.RowKit
def upY (P:Program)(m:Nat)(dst:Option Nat)(f:Fr)(K:Fr→World→Prop):Result Next→Prop
 | .ok (.value v) w'=>K (QY f dst v) w'
 | .ok .skip w'=>K (QY f dst undef) w'
 | .ok (.enter g args) w'=>Calls P g args w' λe E=>match e with| .returned v=>K (QY f dst v) E|_=>False
 | .ok (.round l fn tmps assign body) w'=>RoundIn (fen none) (m - 1) P l fn tmps assign body w' λe E=>match e with| .returned v=>K (QY f dst v) E|_=>False
 | _=>False
def XOY (P:Program)(m:Nat)(o:Oper)(f:Fr)(w:World)(K:Fr→World→Prop):Prop:=upY P m o.dst f K ((execOp (ev f) o).run P w)
def XY (P:Program)(m:Nat)(ops:List Oper)(K:Fr→World→Prop):List Oper→Fr→World→Prop
 | [],f,w=>K f w
 | o::l,f,w=>bif Z2 ops f o then XOY P m o f w (XY P m ops K l)else XY P m ops K l (QY f o.dst undef) w
section
variable {m:Nat}{P:Program}{n:Nat}{ds:LN}
theorem XOY.of_XO {o:Oper}{f:Fr}{w:World}{K K':Fr→World→Prop}(E:∀f w,K f w→K' f w)(h:XO P o f w K):XOY P m o f w K':=by
 unfold XO at h;unfold XOY;generalize (execOp (ev f) o).run P w=r at h;cases r with
 | ok nx w' =>
  cases nx <;> simp only[upF]at h <;> simp only[upY]
  case value v=>exact E _ _ h
  case skip=>exact E _ _ h
  case enter g args =>
   refine Calls.mono h λe G he=>?_;cases e with
   | returned v=>exact E _ _ he
   | panicked c=>exact he.elim
   | outgrown=>exact he.elim
 | halt x w'=>exact h.elim
theorem XY.pre {ops:List Oper}{K:Fr→World→Prop}{l2:List Oper}:∀(E:List Oper) (f:Fr) (w:World),XL P ops (λf w=>XY P m ops K l2 f w) E f w→XY P m ops K (E++l2) f w
 | [],f,w,h=>by unfold XL at h;exact h
 | o::E,f,w,h=>by
  unfold XL at h;show(bif Z2 ops f o then XOY P m o f w (XY P m ops K (E++l2))else XY P m ops K (E++l2) (QY f o.dst undef) w);cases G:Z2 ops f o with
  | false=>rw[G]at h;exact XY.pre E _ _ h
  | true=>rw[G]at h;exact XOY.of_XO (λf w h=>XY.pre E f w h) h
theorem XY.pre2 {ops:List Oper}{K:Fr→World→Prop}{o1 o2:Oper}{l2:List Oper}{f:Fr}{w:World}(h:XL P ops (λf w=>XY P m ops K l2 f w) [o1,o2] f w):XY P m ops K (o1::o2::l2) f w:=XY.pre [o1,o2] f w h
theorem XY.of_XL {ops:List Oper}{K:Fr→World→Prop}{l:List Oper}{f:Fr}{w:World}(h:XL P ops K l f w):XY P m ops K l f w:=by
 have:=XY.pre (m:=m) (l2:=[]) l f w h
 rwa [LL]at this
theorem QgX {o:Oper}{a:Act}{f:Fr}{w:World}{K:Fr→World→Prop}{K':Act→World→Prop}{Q:Exit→Act→World→Prop}(h:Yu n ds a f)
  (E:∀v w',K (QY f o.dst v) w'→K' (a.put o.dst v) w') (hx:XOY P m o f w K):o.wpIn (fen none) m P a w K' Q:=by
 unfold XOY at hx;refine⟨λ_ _=>trivial,?_⟩;have e:Oper.semAt (fen none).round a.eval o=execOp (ev f) o:=by rw[h.eval];rfl
 rw[e];generalize (execOp (ev f) o).run P w=r at hx;cases r with
 | ok nx w' =>
  cases nx <;> simp only[upY]at hx <;> simp only[Oper.uponIn]
  case value v=>exact E v w' hx
  case skip=>exact E _ w' hx
  case enter g args =>
   refine⟨λh=>by simp[Fence.wide]at h,?_⟩;refine(callsIn_wide (n:=m - 1)).2 (Calls.mono hx λe G he=>?_);cases e with
   | returned v=>exact E v G he
   | panicked c=>exact he.elim
   | outgrown=>exact he.elim
  case round l fn tmps assign body =>
   refine⟨λh=>by simp[Fence.wide]at h,?_⟩;refine RoundIn.mono hx λe G he=>?_;cases e with
   | returned v=>exact E v G he
   | panicked c=>exact he.elim
   | outgrown=>exact he.elim
 | halt x w'=>exact hx.elim
theorem QaP {Q:Exit→LN→Fr→World→Prop}{all:List Oper}(G:∀o∈all,∀d,o.dst=some d→d<n)(f0:Fr):
  ∀(l:List Oper) (k:Nat) (a:Act) (f:Fr) (w:World),(∀j,l[j]?=all[k+j]?)→Yu n ds a f→(∀t,ZL all t=false→f t=f0 t) →
   XY P m all (λf w=>Q .normal ds f w) l f w →
   wpOpsIn (fen none) m P all.toArray (λe T w'=>∃ds' f',Yu n ds' T f'∧(∀t,ZL all t=false→f' t=f0 t)∧Q e ds' f' w') (List.range' k l.length) a w
 | [],_,a,f,w,_,E,hk,h=>⟨ds,f,E,hk,by unfold XY at h;exact h⟩
 | o::l,k,a,f,w,hl,E,hk,h=>by
  have I:all[k]?=some o:=by simpa using(hl 0).symm
  have H:o∈all:=Mf I;have ih:=λa f w=>QaP (Q:=Q) G f0 l (k+1) a f w (λj=>by have:=hl (j+1);simpa[Nat.add_assoc,Nat.add_comm 1 j]using this);have next:∀v,(∀t,ZL all t=false→QY f o.dst v t=f0 t):=λv t ht=>(Z3 (XC H ht) v).trans (hk t ht);simp only[List.length_cons,List.range'_succ,wpOpsIn,List.getElem?_toArray,I];rw[KI E G o];unfold XY at h;cases J:Z2 all f o with
  | false =>
   rw[J]at h;exact⟨λ_ _=>trivial,ih _ _ _ (E.put (G o H) _) (next _) h⟩
  | true =>
   rw[J]at h;exact QgX E (λv w' hx=>ih _ _ _ (E.put (G o H) v) (next v) hx) h
theorem Kt {Q:Exit→LN→Fr→World→Prop}{f:Fr}{w:World}{id:Nat}{l:List Oper}(E:Xa n l=true)(h:XY P m l (λf w=>Q .normal ds f w) l f w):WG none m P n (.region id l.toArray false) Q ds f w:=by
 unfold WG;intro a ha;refine wpIn_region ?_;have:=QaP (m:=m) (YE E) f l 0 a f w (by simp) ha (λ_ _=>rfl) h;simpa[List.range_eq_range',Xf]using this
theorem xy {ops:List Oper}{rest:List Oper}{f:Fr}{w:World}{K:Fr→World→Prop}{d:Option Nat}{ty:Nat}{ps:String}{af:Array Edge}{gd:Option (Nat×Bool)}{x y:Operand}{at_:Array Nat}{l:Nat}{R:Ending→World→Prop}
  (hx:ev f x=.func (.yield l) #[] #[]) (hy:YieldAt (fen none) (m - 1) P l #[ev f y] w R) (E:∀e w',R e w'→∃v,e=.returned v∧XY P m ops K rest (QY f d v) w')
  (G:Z2 ops f ⟨d,.call ⟨.value x,[y].toArray,at_⟩,ty,ps,af,gd⟩=true:=by rfl):
  XY P m ops K (⟨d,.call ⟨.value x,[y].toArray,at_⟩,ty,ps,af,gd⟩::rest) f w:=by
 obtain⟨fn,tmps,assign,body,h1,h2⟩:=hy;have H:(execOp (ev f) ⟨d,.call ⟨.value x,[y].toArray,at_⟩,ty,ps,af,gd⟩).run P w=.ok (.round l fn tmps assign body) w:=by
  simp[execOp,resolve,hx,Deferred.ofValue,invoke,h1]
 unfold XY;rw[G];simp only[XOY,H,upY,cond_true];exact h2.mono λe w' h=>by obtain⟨v,rfl,hk⟩:=E e w' h;exact hk
end
attribute [irreducible] XY
structure Lw (B:Nat)(L:LN)(w w':World):Prop where
 os:w'.os=w.os
 tape:w'.tape=w.tape
 output:w'.output=w.output
 size:w.heap.size≤w'.heap.size
 low:∀k,k<B→k∉L→w'.heap[k]?=w.heap[k]?
theorem Lw.refl (B:Nat)(L:LN)(w:World):Lw B L w w:=⟨O,O,O,Lu _,λ_ _ _=>O⟩
theorem Lw.trans {B:Nat}{L:LN}{E w w':World}(h:Lw B L E w)(k:Lw B L w w'):Lw B L E w' :=
 ⟨k.os.trans h.os,k.tape.trans h.tape,k.output.trans h.output,LJ h.size k.size,λi hi G=>(k.low i hi G).trans (h.low i hi G)⟩
theorem Step.lw {L:LN}{w w' E:World}(h:Step L w w')(k:Lw w.heap.size L w' E):Step L w E :=
 ⟨k.os.trans h.os,k.tape.trans h.tape,k.output.trans h.output,LJ h.size k.size,λi hi G=>(k.low i hi G).trans (h.block i hi G)⟩
structure XB (B:Nat)(L:LN)(W W':World):Prop where
 lw:Lw B L W W'
 other:∀(k:Nat) (o:Obj),W.heap[k]?=some o→o.isCells=false→W'.heap[k]?=some o
theorem XB.refl (B:Nat)(L:LN)(w:World):XB B L w w:=⟨Lw.refl _ _ _,λ_ _ h _=>h⟩
theorem XB.trans {B:Nat}{L:LN}{E w w':World}(h:XB B L E w)(k:XB B L w w'):XB B L E w':=⟨h.lw.trans k.lw,λi o hi G=>k.other i o (h.other i o hi G) G⟩
theorem XB.step {B:Nat}{L X:LN}{W W':World}(h:Step X W W')(I:B≤W.heap.size)(E:∀b∈X,(b∈L∨B≤b)∧∃o:Obj,W.heap[b]?=some o∧o.isCells=true):XB B L W W':=by
 refine⟨⟨h.os,h.tape,h.output,h.size,λk hk G=>h.block k (by omega) (λhx=>?_)⟩,λk o hk H=>?_⟩
 ·rcases(E k hx).1 with h1|h1
  ·exact G h1
  omega
 refine(h.block k (LB.1 hk).1 (λhx=>?_)).trans hk;obtain⟨J,h1,h2⟩:=(E k hx).2;rw[hk]at h1;cases h1;rw[H]at h2;cases h2
theorem XB.ext {B:Nat}{L:LN}{W W':World}(h:Step [] W W')(E:B≤W.heap.size):XB B L W W':=XB.step h E (λ_ hb=>by cases hb)
theorem QS.cells {H:Array Obj}{b T:Nat}{cs:LV}(h:QS H b T cs):∃o:Obj,H[b]?=some o∧o.isCells=true:=⟨_,h,O⟩
theorem XB.blk {B:Nat}{L:LN}{W W':World}{b T:Nat}{cs:LV}(h:Step [b] W W')(E:B≤W.heap.size)(hb:QS W.heap b T cs)(G:b∈L∨B≤b):XB B L W W' :=
 XB.step h E (λc hc=>by
  have e:c=b:=by simpa using hc
  subst e;exact⟨G,hb.cells⟩)
def Z0 (B:Nat)(I:World→Prop):Prop:=∀W W' X,I W→Step X W W'→(∀r∈X,B≤r∧∃o:Obj,W.heap[r]?=some o∧o.isCells=false)→I W'
theorem Z0.own {β:Type}{B:Nat}{I:β→World→Prop}(h:∀s,Z0 B (I s)):OwnFrom B I:=λs W W' row hs G H =>
 h s W W' _ hs (Step.of_grown G) (λr E=>H r (by cases row <;> simp at E ⊢;exact E.symm))
theorem Z0.blk {B:Nat}{b T:Nat}{cs:LV}:Z0 B (λW=>QS W.heap b T cs):=λW W' X h hs E=>h.step hs (λhb=>by
 obtain⟨_,o,h1,h2⟩:=E b hb;unfold QS at h;rw[h]at h1;cases h1;cases h2)
theorem Z0.and {B:Nat}{I J:World→Prop}(h:Z0 B I)(k:Z0 B J):Z0 B (λW=>I W∧J W):=λW W' X hi hs E=>⟨h W W' X hi.1 hs E,k W W' X hi.2 hs E⟩
theorem Z0.ex {B:Nat}{β:Type}{I:β→World→Prop}(h:∀z,Z0 B (I z)):Z0 B (λW=>∃z,I z W):=λW W' X ⟨z,hi⟩ hs E=>⟨z,h z W W' X hi hs E⟩
theorem Z0.pure {B:Nat}(p:Prop):Z0 B (λ_=>p):=λ_ _ _ h _ _=>h
theorem Z0.step {B:Nat}{L:LN}{w:World}(G:w.heap.size≤B):Z0 B (λW=>Step L w W):=λW W' X h hs E=>h.then hs (λb hb=>.inr (by have:=(E b hb).1;omega))
theorem Zl {w:World}{base e sz n:Nat}{v:Value}{cs:LV}(h:w.ownsRow base e sz v n cs):∀b∈ob v,∃o:Obj,w.heap[b]?=some o∧o.isCells=true:=by
 intro b hb;rcases h.2 with⟨h1,_⟩|⟨g,cap,cur,h1,h2,h3,_⟩
 ·subst h1;simp[ob]at hb
 subst h1;simp[ob]at hb;subst hb;exact⟨_,h3,O⟩
theorem Z0.row {B base e sz n:Nat}{v:Value}{cs:LV}:Z0 B (λW=>W.ownsRow base e sz v n cs):=λW W' X h hs E=>Ql h hs (λb hb hx=>by
 obtain⟨_,o,h1,h2⟩:=E b hx;obtain⟨G,h3,h4⟩:=Zl h b hb;rw[h1]at h3;cases h3;rw[h2]at h4;cases h4)
theorem Qjr {α:Type}{m:Nat}{P:Program}{n:Nat}{Q:Exit→LN→Fr→World→Prop}{ds:LN}{f:Fr}{w:World}{g:Operand}{p:Nat}{assign body:Code}(L:LN)(h1:1≤m)
  {gf:Nat} {fn:Func} [hF:Fu P gf fn] {capt:LV} (V:ev f g=.func (.func gf) #[] capt.toArray) {enc:α→Value} {S:List α→Prop} {N:Nat} (hp:p<n)
  (Y:SeqStopsK (fen none) (m - 1) P gf capt.toArray (λx=>#[enc x]) (Lw w.heap.size L) S (λ_=>True) N w)
  (I:List α→World→Prop) (hI:∀s,Z0 w.heap.size (I s)) (h0:I [] w) (A:Fr→α→Fr→World→Prop) (hA:∀x E,Z0 w.heap.size (A f x E))
  (J:∀l pre x W,I pre W→WG (some l) (m - 1 - 1) P n assign (Qa6 (λH E W'=>H=[]∧XB w.heap.size L W W'∧I pre W'∧A f x E W') (λ_ _ _ _=>False)) [] (upd f p (enc x)) W)
  (T:∀l pre x E W,I pre W→A f x E W→pre.length<N→WG (some l) (m - 1 - 1) P n body (Qa6 (λ_ _ W'=>XB w.heap.size L W W'∧I (pre++[x]) W') (λ_ _ _ _=>False)) [] E W)
  (hb:∀D xs W,w.heap.size≤D→S xs→I xs W→W.heap[D]?=some (.deferred (some []))→Q .normal (D::ds) f W):
  WG none m P n (.rangeFunc g #[p] assign body) Q ds f w:=by
 unfold WG at J T ⊢;intro a ha;have eg:∀args w,(callFunc gf args).run P w=.ok (.enter gf args) w:=by
  intro args w;have h1:¬fn.name = "runtime.NumGoroutine" := by simpa using hF.nm
  have h2:¬fn.body=none:=by have:=hF.b;intro e;rw[e]at this;cases this
  simp[callFunc,hF.f,h1,h2]
 have keep:∀{W W':World},XB w.heap.size L W W'→KeepsFrom w.heap.size W W':=λh=>⟨h.lw.size,λk o _ hk U=>h.other k o hk U⟩;refine wpIn_rangeFunc_ownH (F:=fen none) O h1 (gf:=gf) (lb:=capt.toArray) (by rw[ha.eval];exact V) Z eg Y (λh k=>h.trans k)
  (λW l o o' hl U _ _=>⟨O,O,O,by simp,λk hk _=>World.putObj_heap_other (by omega)⟩) (Below.refl _ _) (λ_=>rfl) I (λ_ _ _=>False) (Z0.own hI) (λ_ _ _ _ _ hs _ _=>hs) h0
  (λx G W=>∃E,Yu n [] G E∧A f x E W) (λx G=>Z0.own λ_=>Z0.ex λE=>Z0.and (Z0.pure _) (hA x E)) ?_ ?_ ?_ ?_
 ·intro l pre x W K hi hK;have hr:Yu n [] { tmps:=((#[p]:Array Nat).zip #[enc x]).foldl (λt (p,v)=>t.setIfInBounds p v) a.tmps,defers:=[] } (upd f p (enc x)):=by
   have h2:Yu n [] { a with defers:=[] } f:=⟨ha.size,O,ha.get⟩
   have h3:=h2.put (dst:=some p) (λd e=>by cases e;exact hp) (enc x);have e:((#[p]:Array Nat).zip #[enc x]).foldl (λt (p,v)=>t.setIfInBounds p v) a.tmps=a.tmps.setIfInBounds p (enc x):=by simp
   rw[e];exact h3
  refine wpIn_mono (J l pre x W hi _ hr) ?_;rintro e G W' ⟨H,E,h2,_,h3⟩;cases e with
  | normal=>obtain⟨rfl,h4,h5,h6⟩:=h3;exact hK G W' (keep h4) h4.lw h5 ⟨E,h2,h6⟩
  | exit id=>exact h3.elim
  | goto l=>exact h3.elim
  | ret=>exact h3.elim
  | panic ch=>exact h3.elim
  | outgrown=>exact h3.elim
 ·rintro l pre x G W _ _ hi ⟨E,h2,h3⟩ hc;refine wpIn_mono (T l pre x E W hi h3 hc G h2) ?_;rintro e he W' ⟨H,hf,h4,_,h5⟩;cases e with
  | normal=>exact⟨keep h5.1,h5.1.lw,h5.2⟩
  | exit id=>exact h5.elim
  | goto l=>exact h5.elim
  | ret=>exact h5.elim
  | panic ch=>exact h5.elim
  | outgrown=>exact h5.elim
 ·intro D xs W hD hS hi hd;exact⟨D::ds,f,⟨ha.size,by rw[show coll (D::ds)={ target:=.collected D,args:=#[] }::coll ds from rfl,ha.defers],ha.get⟩,λ_ _=>rfl,hb D xs W hD hS hi hd⟩
 intro D c pre W _ _ h _;exact h.elim
def Qk3 (P:Program)(t:Nat):Option (LV×List (Nat×Nat)):=match P.info? t,P.underlying t with
 | some it,some (.struct fs)=>match it.zero,fs.toList.mapM (λf=>(P.info? f.type).map λi=>(f.offset,i.size))with
  | some (.agg zs),some pl=>some (zs.toList,pl)
  | _,_=>none
 | _,_=>none
class Bw (P:Program)(t:Nat)(zs:outParam (LV))(pl:outParam (List (Nat×Nat))):Prop where
 h:Qk3 P t=some (zs,pl)
 b:pl.all (λx=>x.1+x.2≤zs.length)=true
def jM:LV→Nat→LV→LV
 | zs,_,[]=>zs
 | zs,o,u::us=>jM (zs.set o u) (o+1) us
def QgU (pl:List (Nat×Nat))(zs:LV):List (Nat×LV)→LV
 | []=>zs
 | (j,us)::ps=>QgU pl (jM zs (pl.getD j (0,0)).1 us) ps
def Qju:List (Nat×Value)→List (Nat×LV)→Prop
 | [],[]=>True
 | (j,v)::vs,(j',us)::uss=>v.cells=us.toArray∧j=j'∧Qju vs uss
 | _,_=>False
theorem jL:∀(us zs:LV) (o:Nat),(jM zs o us).length=zs.length
 | [],_,_=>rfl
 | u::us,zs,o=>by rw[jM,jL us,ML]
theorem zC (o:Nat):∀(us:LV) (k:Nat) (zs:LV),(us.zipIdx k).foldl (λ(cs:Array Value) (x:Value×Nat)=>cs.setIfInBounds (o+x.2) x.1) zs.toArray=(jM zs (o+k) us).toArray
 | [],_,_=>rfl
 | u::us,k,zs=>by
  rw[List.zipIdx_cons,LM,jM];have:=zC o us (k+1) (zs.set (o+k) u);rw[←List.setIfInBounds_toArray]at this;exact this
theorem Qf9 {pl:List (Nat×Nat)}:∀(vs:List (Nat×Value)) (uss:List (Nat×LV)) (zs:LV),Qju vs uss→uss.all (λp=>p.1<pl.length && (p.2.length == (pl.getD p.1 (0,0)).2))=true →
  (∀x∈pl,x.1+x.2≤zs.length)→Instr.fill (pl.toArray[·]?) zs.toArray vs=some (QgU pl zs uss).toArray
 | [],[],zs,_,_,_=>rfl
 | [],_::_,_,h,_,_=>h.elim
 | _::_,[],_,h,_,_=>h.elim
 | (j,v)::vs,(j',us)::uss,zs,h1,h2,h3=>by
  obtain⟨hc,rfl,h1⟩:=h1;simp only[List.all_cons,Bool.and_eq_true,decide_eq_true_eq,beq_iff_eq]at h2;obtain⟨⟨hj,hl⟩,h2⟩:=h2;have E:pl.getD j (0,0)=pl[j]'hj:=by simp[List.getD,hj]
  have hm:=h3 _ (Lh hj);unfold Instr.fill;simp only[List.getElem?_toArray,List.getElem?_eq_getElem hj,hc];rw[E]at hl;rw[if_neg (by simp only[List.size_toArray,hl,ne_eq,not_true,decide_false,Bool.false_or,decide_eq_true_eq];omega)];have e:=zC (pl[j]'hj).1 us 0 zs;rw[MM]at e
  have e2:(us.toArray.zipIdx).foldl (λ(cs:Array Value) (x:Value×Nat)=>cs.setIfInBounds ((pl[j]'hj).1+x.2) x.1) zs.toArray=(jM zs (pl[j]'hj).1 us).toArray:=by
   rw[←e];simp
  rw[e2,QgU,E];have G:=Qf9 vs uss (jM zs (pl[j]'hj).1 us) h1 h2 (λx hx=>by rw[jL];exact h3 x hx);simpa only[List.getElem?_toArray]using G
theorem QbP {P:Program}{t:Nat}{zs:LV}{pl:List (Nat×Nat)}(h:Qk3 P t=some (zs,pl))(hb:pl.all (λx=>x.1+x.2≤zs.length)=true)(vs:List (Nat×Value))(uss:List (Nat×LV))(h1:Qju vs uss)
  (h2:uss.all (λp=>p.1<pl.length && (p.2.length == (pl.getD p.1 (0,0)).2))=true):P.built t vs=some (QgU pl zs uss).toArray:=by
 have h3:∀x∈pl,x.1+x.2≤zs.length:=λo G=>by simpa using LW.1 hb o G
 unfold Qk3 at h;unfold Program.built;cases hi:P.info? t with
 | none=>simp[hi]at h
 | some it =>
  cases hu:P.underlying t with
  | none=>simp[hi,hu]at h
  | some dd =>
   simp only[hi,hu]at h;cases dd <;> simp only[]at h <;> try (cases h)
   case struct fs =>
    cases E:it.zero with
    | none=>simp[E]at h
    | some z =>
     cases z <;> simp only[E]at h <;> try (cases h)
     rename_i za;cases hm:fs.toList.mapM (λf=>(P.info? f.type).map λi=>(f.offset,i.size))with
     | none=>simp[hm]at h
     | some pl' =>
      simp only[hm,Option.some.injEq,Prod.mk.injEq]at h;obtain⟨rfl,rfl⟩:=h;simp only[E,hm,Value.cells];exact Qf9 vs uss za.toList h1 h2 h3
theorem Zz {P:Program}{f:Fr}{w:World}{d:Option Nat}{ty:Nat}{ps:String}{af:Array Edge}{gd:Option (Nat×Bool)}{t:Nat}{zs:LV}{pl:List (Nat×Nat)}[h:Bw P t zs pl]{parts:List (Nat×Operand)}(uss:List (Nat×LV))
  (h1:Qju (parts.map λx=>(x.1,ev f x.2)) uss) (h2:uss.all (λp=>p.1<pl.length && (p.2.length == (pl.getD p.1 (0,0)).2))=true:=by rfl):
  (execOp (ev f) ⟨d,.build t parts.toArray,ty,ps,af,gd⟩).run P w=.ok (.value (.agg (QgU pl zs uss).toArray)) w:=by
 have hb:=QbP h.h h.b _ uss h1 h2;have E:=run_build (P:=P) w t (parts.toArray.map λ(i,x)=>(i,ev f x)) _ (by simpa using hb);simp only[execOp,Sem.run_bind,E,Result.andThen_ok,Sem.run_pure]
end Go.Lg
namespace Go.Proofs.YtjcgijbhaemldaaGreatDoor
open Go.Proofs.Tryz
open Go.Lg
def cnE (p:Ed→Bool)(es:List Ed):Int:=((es.filter p).length:Int)
theorem Qaz (p:Ed→Bool)(es:List Ed)(e:Ed):cnE p (es++[e])=cnE p es+if p e=true then 1 else 0:=by
 unfold cnE;rw[L7,Lj];by_cases h:p e=true
 ·simp[h]
 simp[h]
theorem KO (p:Ed→Bool)(es:List Ed):0≤cnE p es∧cnE p es≤es.length:=by
 unfold cnE;have:=LU p es;omega
def gA (n:Nat)(f:Nat→Int):LI:=(List.range n).map f
theorem QkH (n:Nat)(f:Nat→Int):(gA n f).length=n:=by simp[gA]
theorem Qf3 {n:Nat}{f:Nat→Int}{i:Nat}(h:i<(gA n f).length):(gA n f)[i]'h=f i:=by simp[gA]
theorem qi {n:Nat}{f g:Nat→Int}{i:Nat}{u:Int}(hu:u=g i)(h:∀j,j<n→j≠i→g j=f j):(gA n f).set i u=gA n g:=by
 apply Ma
 ·simp[gA]
 intro k h1 h2;rw[Nb,Qf3 h2];by_cases e:i=k
 ·rw[if_pos e,hu,e]
 rw[if_neg e,Qf3];exact(h k (by simpa[gA]using h2) (Ne.symm e)).symm
theorem qj {n:Nat}{f g:Nat→Int}(h:∀j,j<n→f j=g j):gA n f=gA n g:=Np (λj hj=>h j (M2.1 hj))
def cN (es:List Ed)(s:Nat):Int:=cnE (λe=>decide (e.1+1=(s:Int))) es
def fS (es:List Ed)(s:Nat):Int:=cnE (λe=>decide (e.1<(s:Int))) es
theorem Qc0 (es:List Ed)(s:Nat):fS es (s+1)=cN es (s+1)+fS es s:=by
 unfold fS cN cnE;induction es with
 | nil=>rfl
 | cons e es ih =>
  simp only[List.filter_cons];by_cases h1:e.1<(s:Int)
  ·have h2:e.1<((s+1:Nat):Int):=by omega
   have h3:¬e.1+1=((s+1:Nat):Int):=by omega
   simp only[h1,h2,h3,decide_true,decide_false,if_true,List.length_cons]at ih ⊢;simp only[Bool.false_eq_true,if_false]at ih ⊢;omega
  by_cases h2:e.1+1=((s+1:Nat):Int)
  ·have h3:e.1<((s+1:Nat):Int):=by omega
   simp only[h1,h2,h3,decide_true,decide_false,if_true,List.length_cons]at ih ⊢;simp only[Bool.false_eq_true,if_false]at ih ⊢;omega
  have h3:¬e.1<((s+1:Nat):Int):=by omega
  simp only[h1,h2,h3,decide_false,Bool.false_eq_true,if_false]at ih ⊢;exact ih
theorem QcZ {es:List Ed}(h:∀e∈es,0≤e.1):fS es 0=0∧cN es 0=0:=by
 unfold fS cN cnE;refine⟨?_,?_⟩
 ·have:(es.filter λe=>decide (e.1<((0:Nat):Int)))=[]:=MF.2 (λe he=>by have:=h e he;simp;omega);rw[this];rfl
 have:(es.filter λe=>decide (e.1+1=((0:Nat):Int)))=[]:=MF.2 (λe he=>by have:=h e he;simp;omega);rw[this];rfl
def mX (es:List Ed)(s j:Nat):Int:=if j≤s then fS es j else cN es j
theorem Qic {es:List Ed}(h:∀e∈es,0≤e.1)(n:Nat):gA n (cN es)=gA n (mX es 0):=qj λj _=>by
 unfold mX;by_cases e:j≤0
 ·have:j=0:=by omega
  subst this;rw[if_pos (Lu _),(QcZ h).1,(QcZ h).2]
 rw[if_neg e]
theorem Qid (es:List Ed)(s n:Nat):(gA n (mX es s)).set (s+1) (mX es s (s+1)+mX es s s)=gA n (mX es (s+1)):=by
 refine qi ?_ λj _ hj=>?_
 ·unfold mX;rw[if_neg (by omega),if_pos (Lu _),if_pos (Lu _),Qc0]
 unfold mX;by_cases e:j≤s
 ·rw[if_pos (by omega),if_pos e]
 rw[if_neg (by omega),if_neg e]
theorem Qi9 (es:List Ed)(e:Ed)(E:0≤e.1)(n:Nat):(gA n (cN es)).set (e.1.toNat+1) (cN es (e.1.toNat+1)+1)=gA n (cN (es++[e])):=by
 refine qi ?_ λj _ hj=>?_
 ·unfold cN;rw[Qaz,if_pos (by simp;omega)]
 unfold cN;rw[Qaz,if_neg (by simp;omega)];simp
theorem zQ (n:Nat):(List.replicate n (Value.int .i64 0).cells.toList).flatten=(gA n (cN [])).map (Value.int .i64):=by
 apply Ma
 ·simp[Value.cells,gA]
 intro i h1 h2;simp[Value.cells,gA,cN,cnE]
section
variable {P:Program}{K:Fr→World→Prop}{f:Fr}{w:World}{d:Option Nat}{ty:Nat}{ps:String}{af:Array Edge}{gd:Option (Nat×Bool)}
theorem Vf {t:Nat}[Xj P t]{x:Operand}{b T i n:Nat}{g:Nat→Int}(h:QS w.heap b T ((gA n g).map (.int .i64)))(hx:ev f x=.pointer (some ⟨b,0+i*1,none⟩))(hi:i<n):
  (execOp (ev f) ⟨d,.load t x,ty,ps,af,gd⟩).run P w=.ok (.value (.int .i64 (g i))) w:=Qd h hx (by simp[gA,hi])
theorem J1 {t:Nat}[h1:Xj P t]{x y:Operand}{b T i n:Nat}{g E:Nat→Int}{u:Int}(G:QS w.heap b T ((gA n g).map (.int .i64)))(hx:ev f x=.pointer (some ⟨b,0+i*1,none⟩))(hy:ev f y=.int .i64 u)(hi:i<n)(H:(gA n g).set i u=gA n E)
  (I:∀w',Step [b] w w'→QS w'.heap b T ((gA n E).map (.int .i64))→K (QY f d undef) w'):XO P ⟨d,.store t x y,ty,ps,af,gd⟩ f w K :=
 XH G hx hy (by rw[QkH];exact hi) λw' hs J=>I w' hs (by rw[←H];exact J)
end
instance:Bw prog 171 [nS,.int .i64 0,nS,nS,nS] [(0,4),(4,1)]:=⟨by kernel_rfl,by decide⟩
theorem Uc {w:World}{va vm ve:Value}{a:QM}{n:Nat}(h:Zq [] w.heap va vm ve a)(hn:a.st=(n:Int))(hV:a.st≤4096)(h5:∀e∈a.ed,0≤e.1∧e.1<a.st):
  QE prog 76 [.agg #[va,.int .i64 a.st,vm,ve]] w λr w'=>Step [] w w'∧∃b,r=.agg #[va,.int .i64 a.st,vm,ve,.slice (some ⟨b,0,none⟩) (n+1) (n+1)]∧w.heap.size≤b∧QS w'.heap b 3 ((gA (n+1) (fS a.ed)).map (Value.int .i64)):=by
 have hW:=h.ed.le;refine QE.of_W func76 O ntmps76 results76 (by simp) ?_;refine Qc<|xl O<|QP (us:=[va,.int .i64 a.st,vm,ve]) O λb1 w1 ht hD hE=>xl O<|Qr (us:=[nS,.int .i64 0,nS,nS,nS]) O λb2 E hu hX h6=>xe ?_;have hF:=ht.trans hu;have Y:=hE.ext hu;have h2:=h.ext hF;have hm:a.st+1=((n+1:Nat):Int):=by omega
 have hv:Step [] E { E with drawn:=E.drawn+1 }:=Step.drew [] E
 have hY:=hv.size;refine QZ (α:=Nat×Nat) [(3,3),(7,12)] (λz=>[(3,.pointer (some ⟨z.1,0,none⟩))]) (λz w'=>Step [] E w'∧QS w'.heap z.1 171 [va,.int .i64 a.st,vm,ve,.slice (some ⟨z.2,0,none⟩) (n+1) (n+1)]∧QS w'.heap z.2 3 ((gA (n+1) (cN [])).map (Value.int .i64))∧E.heap.size≤z.1∧E.heap.size≤z.2∧z.1≠z.2) (by rfl) ?_ ?_
 ·refine Qjl (Step [] E) (.f2 [(0,true),(1,true),(2,true),(3,true)] 4 6 (.pl [(5,true),(6,false),(7,false)]) (.pl [(4,false),(5,true),(7,false)])) mixed (by rfl) (by kernel_rfl) (Step.drew _ _) ?_;refine u2<|pq (λ_ hc=>Qo (Y.ext hc) O O)<|p (λ_=>Qa O)<|pq (λ_ hc=>Qd (Y.ext hc) O O)<|p (λ_=>XG O O ⟨by omega,by omega⟩)<|pe ⟨?_,?_⟩
  ·refine ue<|Xh (n:=n+1) (congrArg (Value.int .i64) hm) (congrArg (Value.int .i64) hm) (by omega) λb11 w3 hw hG ho=>?_;have ha:=hv.trans hw;have hZ:=ho.lt;refine⟨ha,?_⟩;refine uP<|p (λ_=>Zz [(0,[va,.int .i64 a.st,vm,ve]),(1,[.slice (some ⟨b11,0,none⟩) (n+1) (n+1)])] ⟨O,O,O,O,Z⟩)<|pk<|Qr (us:=[nS,.int .i64 0,nS,nS,nS]) O λT w4 hb hy G=>?_;have H:=ha.trans hb
   refine⟨H,?_⟩;refine pk<|Qm (us:=[va,.int .i64 a.st,vm,ve,.slice (some ⟨b11,0,none⟩) (n+1) (n+1)]) G O O O O ⟨h.al.one,O,h.mr.one,h.ed.one,O,Z⟩ λw5 I hf=>⟨H.then1 I (by omega),pe ?_⟩;have hz:QS w3.heap b11 3 ((gA (n+1) (cN [])).map (Value.int .i64)):=by rw[←zQ];exact ho
   exact⟨(T,b11),La,H.then1 I (by omega),hf,(hz.ext hb).step I (by simp;omega),by simp only[];omega,by simp only[];omega,by simp only[];omega⟩
  refine ue<|Qr (us:=[nS,.int .i64 0,nS,nS,nS]) O λT w3 hw hy G=>?_;have ha:=hv.trans hw;have ga:=G.lt;refine⟨ha,?_⟩;refine uP<|pk<|Xh (n:=n+1) (congrArg (Value.int .i64) hm) (congrArg (Value.int .i64) hm) (by omega) λb11 w4 hb hG ho=>?_;have H:=ha.trans hb;refine⟨H,?_⟩
  refine p (λ_=>Zz [(0,[va,.int .i64 a.st,vm,ve]),(1,[.slice (some ⟨b11,0,none⟩) (n+1) (n+1)])] ⟨O,O,O,O,Z⟩)<|pk<|Qm (us:=[va,.int .i64 a.st,vm,ve,.slice (some ⟨b11,0,none⟩) (n+1) (n+1)]) (G.ext hb) O O O O ⟨h.al.one,O,h.mr.one,h.ed.one,O,Z⟩ λw5 I hf=>⟨H.then1 I (by omega),pe ?_⟩;have hz:QS w4.heap b11 3 ((gA (n+1) (cN [])).map (Value.int .i64)):=by rw[←zQ];exact ho
  exact⟨(T,b11),La,H.then1 I (by omega),hf,hz.step I (by simp;omega),by simp only[];omega,by simp only[];omega,by simp only[];omega⟩
 rintro⟨T,bF⟩ g6 w6 ⟨h7,G,h8,hy,h0,hH⟩;simp only[]at G h8 hy h0 hH;have hI:=Y.ext h7;have gb:=Y.lt;have gc:=h6.lt;refine Qg<|Qc<|x (Qa O)<|x (Qd hI O O)<|x (Qu h.ed O)<|Qb<|xe ?_;have hJ:∀e∈a.ed,0≤e.1:=λe he=>(h5 e he).1
 refine Qh<|Qz (α:=Nat) [(5,5),(16,29)] (λz=>[(16,.int .i64 z)]) (λz w'=>z≤a.ed.length∧Step [] E w'∧QS w'.heap T 171 [va,.int .i64 a.st,vm,ve,.slice (some ⟨bF,0,none⟩) (n+1) (n+1)]∧QS w'.heap bF 3 ((gA (n+1) (cN (a.ed.take z))).map (Value.int .i64))) (λz=>a.ed.length - z) (by rfl) 0 La
  ⟨Lk _,h7,G,h8⟩ ?_
 rintro k g w7 ⟨hk,hp,h1,hq⟩;refine Qc<|x (QA O O)<|xe<|Qg<|QD O (λh3=>?_) (λh3=>?_)
 ·refine Qy ?_;have hK:a.ed.length≤k:=by have hr:¬(k:Int)<(a.ed.length:Int):=h3;omega
  rw[Lm hK,Qic hJ (n+1)]at hq;refine Qg<|Qc<|x (Qa O)<|x (Qd (Y.ext hp) O O)<|Qb<|xe<|Qh<|Qz (α:=Nat) [(6,6),(32,48)] (λz=>[(32,.int .i64 z)]) (λz w'=>z≤n∧Step [] E w'∧QS w'.heap T 171 [va,.int .i64 a.st,vm,ve,.slice (some ⟨bF,0,none⟩) (n+1) (n+1)]∧QS w'.heap bF 3 ((gA (n+1) (mX a.ed z)).map (Value.int .i64))) (λz=>n - z) (by rfl) 0 La
   ⟨Lk _,hp,h1,hq⟩ ?_
  rintro j g w8 ⟨hj,hg,hs,U⟩;refine Qc<|x (QA O O)<|xe<|Qg<|QD O (λh9=>?_) (λh9=>?_)
  ·refine Qy ?_;have h4:j=n:=by omega
   rw[h4]at U;have hL:gA (n+1) (mX a.ed n)=gA (n+1) (fS a.ed):=qj λi hi=>by unfold mX;rw[if_pos (by omega)]
   rw[hL]at U;refine Qc<|x (Qo hs O O)<|xl O<|Qm (us:=[va,.int .i64 a.st,vm,ve,.slice (some ⟨bF,0,none⟩) (n+1) (n+1)]) (h6.ext hg) O O O O ⟨h.al.one,O,h.mr.one,h.ed.one,O,Z⟩ λw9 J hM=>xe ?_;have ge:=ht.size;refine Qk ⟨[_],⟨⟨_,O,Qv O (hM.at (L:=[]) (by simp)).cells⟩,Z⟩,((ht.trans hu).trans hg).then1 J (by omega),bF,rfl,by omega,U.step J (by simp;omega)⟩
  have h4:j<n:=by have gg:(j:Int)<a.st:=h9;omega
  have gh:=KO (λe:Ed=>decide (e.1<(j:Int))) a.ed;have gi:=KO (λe:Ed=>decide (e.1+1=((j+1:Nat):Int))) a.ed;have hN:mX a.ed j (j+1)=cN a.ed (j+1):=by unfold mX;rw[if_neg (by omega)]
  have hO:mX a.ed j j=fS a.ed j:=by unfold mX;rw[if_pos (Lu _)]
  have hD:0≤mX a.ed j (j+1)∧mX a.ed j (j+1)≤1099511627776:=by rw[hN];unfold cN;omega
  have gj:0≤mX a.ed j j∧mX a.ed j j≤1099511627776:=by rw[hO];unfold fS;omega
  refine Qi<|Qg<|Qh<|Qc<|Qb<|Qe<|QU (Step [] w8) [(0,true),(1,true),(2,true),(3,true),(4,true),(5,true),(6,true),(7,true),(8,true),(9,true),(10,true),(11,true),(12,true),(13,false)] mixed (by rfl) (by kernel_rfl) (Step.drew _ _) ?_;refine p (λ_=>Qa O)<|pq (λ_ hc=>Qd (hs.ext hc) O O)<|p (λ_=>Qn)<|p (λ_=>XG O O ⟨by omega,by omega⟩) <|
   p (λ_=>QR (i:=j+1) O O (by omega))<|pq (λ_ hc=>Vf (i:=j+1) (U.ext hc) O (by omega))<|p (λ_=>Qa O)<|pq (λ_ hc=>Qd (hs.ext hc) O O) <|
   p (λ_=>Qn)<|p (λ_=>QR (i:=j) O O (by omega))<|pq (λ_ hc=>Vf (i:=j) (U.ext hc) O (by omega))<|p (λ_=>XG O O ⟨by omega,by omega⟩) <|
   p (λ_=>QR (i:=j+1) O O (by omega))<|pkl (hl:=by kernel_rfl)<|J1 (i:=j+1) (U.ext (Step.drew [] w8)) O O (by omega) (Qid a.ed j (n+1)) λw9 J hP=>pe ?_
  refine Qx<|QN O O<|Qb<|xe ?_;exact⟨j+1,by omega,La,h4,(hg.trans (Step.drew [] w8)).then1 J h0,(hs.ext (Step.drew [] w8)).step J (by simp;omega),hP⟩
 have V:k<a.ed.length:=by have hr:(k:Int)<(a.ed.length:Int):=h3;omega
 have hA:a.ed.take (k+1)=a.ed.take k++[a.ed[k]'V]:=Le V;have hB:=h5 _ (Lh V);refine Zb (a.ed[k]'V) λe he=>?_;rw[he]at hA hB;have hfr:e.1+1=((e.1.toNat+1:Nat):Int):=by omega
 have hQ:=Qi9 (a.ed.take k) e hB.1 (n+1);have hR:=KO (λd:Ed=>decide (d.1+1=((e.1.toNat+1:Nat):Int))) (a.ed.take k);have gk:0≤cN (a.ed.take k) (e.1.toNat+1)∧cN (a.ed.take k) (e.1.toNat+1)≤1099511627776:=by unfold cN;rw[Lx]at hR;omega
 refine Qi<|Qg<|Qh<|Qc<|xie (h2.ed.ext hp) O O V λgl hr=>?_;rw[he]at hr;refine x (QG hr O O)<|xl O<|Qr (us:=[.int .i64 0,.int .i64 0,.int .i64 0]) O λb5 w8 hg hS hf=>xl O<|Qm (us:=QB e) hf O O O O ⟨O,O,O,Z⟩ λw9 J hT=>xe ?_;have hh:Step [] w7 w9:=hg.then1 J hS
 refine Qx<|x (Qa O)<|x (Qd (h1.ext hh) O O)<|x (Qa O)<|x (Qd hT O O)<|QN O O<|x (QR (i:=e.1.toNat+1) O (congrArg (Value.int .i64) hfr) (by omega)) <|
  x (Vf (i:=e.1.toNat+1) (hq.ext hh) O (by omega))<|QN O O<|x (QR (i:=e.1.toNat+1) O (congrArg (Value.int .i64) hfr) (by omega)) <|
  xl rfl<|J1 (i:=e.1.toNat+1) (hq.ext hh) O O (by omega) hQ λgm hC hU=>xe ?_
 refine Qx<|QN O O<|Qb<|xe<|⟨k+1,by omega,La,V,(hp.trans hh).then1 hC h0,(h1.ext hh).step hC (by simp;omega),?_⟩;rw[hA];exact hU
end Go.Proofs.YtjcgijbhaemldaaGreatDoor
namespace Go.Lg
open Go.RowKit
def YI (w:World)(base e sz:Nat)(v:Value)(n:Nat)(cs:LV):Prop :=
 cs.length=n*sz∧((v=nS∧n=0)∨∃g off cap cur,v=.slice (some ⟨g,off,none⟩) n cap∧base≤g∧w.heap[g]?=some (.cells cur e (0,0))∧n≤cap∧cap≤maxLen∧off+cap*sz≤cur.size∧(cur.toList.drop off).take (n*sz)=cs)
theorem YI.of_row {w:World}{base e sz n:Nat}{v:Value}{cs:LV}(h:w.ownsRow base e sz v n cs):YI w base e sz v n cs :=
 ⟨h.1,h.2.imp id λ⟨g,cap,cur,h1,h2,h3,h4,h5,G,E⟩=>⟨g,0,cap,cur,h1,h2,h3,h4,h5,by omega,by simpa using E⟩⟩
theorem Qfe {X:LN}{w w':World}{base e sz n:Nat}{v:Value}{cs:LV}(h:YI w base e sz v n cs)(hs:Step X w w')(E:∀b∈ob v,b∉X):YI w' base e sz v n cs:=by
 refine⟨h.1,h.2.imp id λ⟨g,off,cap,cur,h1,h2,h3,h4⟩=>⟨g,off,cap,cur,h1,h2,?_,h4⟩⟩;rw[hs.block g (LB.1 h3).1 (E g (by rw[h1];simp[ob]))];exact h3
theorem QlF {w w':World}{base e sz n:Nat}{v:Value}{cs:LV}(h:YI w base e sz v n cs)(hs:Step [] w w'):YI w' base e sz v n cs:=Qfe h hs (λ_ _=>by simp)
theorem Qkd {w:World}{base e sz n:Nat}{v:Value}{cs:LV}(h:YI w base e sz v n cs):∀b∈ob v,base≤b∧b<w.heap.size:=by
 intro b hb;rcases h.2 with⟨h1,_⟩|⟨g,off,cap,cur,h1,h2,h3,_⟩
 ·subst h1;simp[ob]at hb
 subst h1;simp[ob]at hb;subst hb;exact⟨h2,(LB.1 h3).1⟩
theorem Qcu {w:World}{g off e n:Nat}{cur:Array Value}{cs:LV}(h3:w.heap[g]?=some (.cells cur e (0,0)))(E:(cur.toList.drop off).take n=cs):∀j u,cs[j]?=some u→w.cell? ((⟨g,off,none⟩:Addr).add j)=some u:=by
 intro j u hu;rw[Xz,Yk];unfold cel;simp only[h3];rw[←E,LX]at hu;split at hu
 ·simpa using hu
 cases hu
theorem QjC {L:LN}{w:World}{base e sz n:Nat}{v:Value}{cs:LV}(h:YI w base e sz v n cs)(E:n≤1099511627776)(G:∀b∈ob v,b∉L):Zv L w.heap v n sz cs:=by
 refine⟨h.1,E,?_⟩;rcases h.2 with h1|⟨g,off,cap,cur,h1,h2,h3,h4,h5,I,H⟩
 ·exact .inl h1
 exact .inr ⟨_,_,h1,h4,λ_ _=>G g (by rw[h1];simp[ob]),λ_ _=>(LB.1 h3).1,λj u hu=>Qcu h3 H j u hu⟩
section
variable {P:Program}{K:Fr→World→Prop}{f:Fr}{w:World}{d:Option Nat}{ty:Nat}{ps:String}{af:Array Edge}{gd:Option (Nat×Bool)}{ops l:List Oper}
theorem Qmv {t e sz bys:Nat}{z:Value}[h:Sl P t e sz bys z]{x E:Operand}{base:Nat}{v:Value}{n:Nat}{cs:LV}{k:IntKind}{lo:Nat}(I:YI w base e sz v n cs)(hx:ev f x=v)(hl:ev f E=.int k lo)(h1:lo≤n)
  (J:∀v',YI w base e sz v' (n - lo) (cs.drop (lo*sz))→ob v'=ob v→XL P ops K l (QY f d v') w)
  (T:Z2 ops f ⟨d,.slice t x (some E) none none,ty,ps,af,gd⟩=true:=by rfl):XL P ops K (⟨d,.slice t x (some E) none none,ty,ps,af,gd⟩::l) f w:=by
 obtain⟨i,V,_,Y,_⟩:=Sl.info h;rcases I.2 with⟨U,hn⟩|⟨g,off,cap,cur,U,h2,h3,h4,h5,h6,h7⟩
 ·have e2:lo=0:=by omega
  subst e2 hn U;have ha:cs=[]:=Lq (by simpa using I.1);subst ha;refine xl T (xv (v:=nS) ?_ (J _ ⟨by simp,.inl ⟨rfl,rfl⟩⟩ rfl));simp[execOp,hx,hl,Instr.sliceAt,Instr.slice,run_underlying h.u,Instr.sliceBounds,Instr.sliceBound,asIntOf,sizeOf,typeInfo,V]
 subst U;have e2:(Instr.sliceBound (.int k lo) n .sliceB).run P w=.ok lo w:=ZO h1;have G:(execOp (ev f) ⟨d,.slice t x (some E) none none,ty,ps,af,gd⟩).run P w=.ok (.value (.slice (if cap=lo then some ⟨g,off,none⟩else some ((⟨g,off,none⟩:Addr).add (lo*sz))) (n - lo) (cap - lo))) w:=by
  simp[execOp,hx,hl,Instr.sliceAt,Instr.slice,run_underlying h.u,Instr.sliceBounds,e2,sizeOf,typeInfo,V,Y]
 have H:(cs.drop (lo*sz)).length=(n - lo)*sz:=by rw[L9,I.1,←Nat.sub_mul]
 by_cases hc:cap=lo
 ·rw[if_pos hc]at G;have hb:n - lo=0:=by omega
  refine xl T (xv G (J _ ⟨H,.inr ⟨g,off,cap - lo,cur,O,h2,h3,by omega,by omega,?_,?_⟩⟩ O))
  ·have:(cap - lo)*sz≤cap*sz:=Ms _ (by omega);omega
  rw[hb]at H ⊢;have:cs.drop (lo*sz)=[]:=Lq (by simpa using H);rw[this];simp
 rw[if_neg hc,Yk]at G;refine xl T (xv G (J _ ⟨H,.inr ⟨g,off+lo*sz,cap - lo,cur,O,h2,h3,by omega,by omega,?_,?_⟩⟩ O))
 ·rw[Nat.sub_mul];have:lo*sz≤cap*sz:=Ms _ (by omega);omega
 rw[←h7,List.drop_take,List.drop_drop,←Nat.sub_mul]
theorem yF {base t ty e:Nat}{sz bys:Nat}{z:Value}[h:Sl P t e sz bys z]{v:Value}{n:Nat}{cs:LV}(E:YI w base e sz v n cs)
  {a:Addr} {m c:Nat} {news:LV} (hl:news.length=m*sz) (hm:0<m) (T:∀j u,news[j]?=some u→w.cell? (a.add j)=some u) (h1:∀u∈news,u.oneCell'=true)
  (hb:n+m≤1099511627776) (hj:bys≤128) (ho:base≤w.heap.size):
  ∃v' w',(Builtin.append_ #[t,t] ty #[v,.slice (some a) m c]).run P w=.ok v' w'∧YI w' base e sz v' (n+m) (cs++news)∧Step (ob v) w w'∧(∀b∈ob v',b∈ob v∨w.heap.size≤b):=by
 obtain⟨i,hi,Y,H,ha⟩:=Sl.info h;have hc:(n+m)*bys≤140737488355328:=LJ (Nat.mul_le_mul hb hj) (by omega);have hp:n+m≤maxLen:=by simp only[maxLen];omega
 have new:∀(old:Nat),∀G,G=(Obj.cells (cs.toArray++news.toArray++Builtin.zeroCells z.cells (grownCap w (n+m) old e - (n+m))) e) →
    YI (w.drew.alloc G) base e sz (.slice (some ⟨w.heap.size,0,none⟩) (n+m) (grownCap w (n+m) old e)) (n+m) (cs++news):=by
   intro old G hq;subst hq;have hge:=grownCap_ge w (n+m) old e;have U:grownCap w (n+m) old e≤maxLen:=grownCap_le_maxLen w (n+m) old e hp;have J:(cs++news).length=(n+m)*sz:=by rw[Lj,E.1,hl,Mh]
   refine YI.of_row ⟨J,.inr ⟨w.heap.size,_,_,O,ho,J8 w.drew _,hge,U,?_,?_⟩⟩
   ·simp only[Array.size_append,List.size_toArray,size_zeroCells,h.zs,E.1,hl,←Nat.add_mul];congr 1;omega
   simp only[Array.toList_append,List.append_assoc];rw[←LC,←J];exact List.take_left
 have stp:∀G,Step (ob v) w (w.drew.alloc G):=λG=>⟨O,O,O,by rw[jk];exact Nat.le_succ _,λk hk _=>QbT w.drew G k hk⟩;have fin:∀(b:Nat),b∈ob (.slice (some ⟨w.heap.size,0,none⟩) (n+m) 0)→b∈ob v∨w.heap.size≤b:=λb hb'=>by simp[ob]at hb';omega
 rcases E.2 with⟨rfl,rfl⟩|⟨g,off,cap,cur,rfl,hs,V,hv,U,hw,he⟩
 ·have hx:cs=[]:=Lq (by simpa using E.1);subst hx;have I:=run_append_nil (P:=P) w t ty e i z h.u hi Y a m c news (by rw[H];exact hl) T hm (by omega) (by rw[ha];have ht:=hc;simp only[Nat.zero_add]at ht;omega);have hn:=new 0 _ O;simp only[Nat.zero_add,List.nil_append,Array.empty_append]at hn ⊢;exact⟨_,_,I,hn,stp _,λb hb'=>fin b hb'⟩
 rcases Nat.lt_or_ge cap (n+m)with hroom|hroom
 ·have hu:=Qcu (w:=w) V he;have I:=run_append_grow (P:=P) w t ty e i z h.u hi Y ⟨g,off,none⟩ n cap cs (by rw[H];exact E.1) hu a m c news (by rw[H];exact hl) T hroom (by omega) (growslice_fits hroom (by rw[ha];exact hc));exact⟨_,_,I,new cap _ O,stp _,λb hb'=>fin b hb'⟩
 have hg:off+n*i.size+news.length≤cur.size:=by
  rw[hl,H];have:(n+m)*sz≤cap*sz:=Ms _ hroom;rw[Mh]at this;omega
 have hf:=run_firstCells_some (P:=P) w i.size m a m c news (by rw[H];exact hl) T;have hh:=run_storeCells_at P g (off+n*i.size) e news 0 cur w V (by simpa using hg) h1;simp only[Nat.add_zero]at hh;have I:(Builtin.append_ #[t,t] ty #[.slice (some ⟨g,off,none⟩) n cap,.slice (some a) m c]).run P w =
   .ok (.slice (some ⟨g,off,none⟩) (n+m) cap) (w.setRow g (cur.toList.take (off+n*i.size)++news++cur.toList.drop (off+n*i.size+news.length)).toArray):=by
  simp[Builtin.append_,run_underlying h.u,sizeOf,typeInfo,hi,Builtin.lenOf,hroom,hf,Yk,hh]
 refine⟨_,_,I,⟨by rw[Lj,E.1,hl,Mh],.inr ⟨g,off,cap,_,rfl,hs,setRow_heap w g _ _ e (0,0) V,hroom,U,?_,?_⟩⟩,?_,λb hb'=>.inl hb'⟩
 ·simp only[List.size_toArray,List.length_append,List.length_take,List.length_drop,Array.length_toList];omega
 ·have hy:cur.toList.length=cur.size:=Nn;rw[H]at hg ⊢;have e1:(cur.toList.take (off+n*sz)).drop off=cs:=by
   rw[List.drop_take,show off+n*sz - off=n*sz by omega];exact he
  have e2:(List.toArray (cur.toList.take (off+n*sz)++news++cur.toList.drop (off+n*sz+news.length))).toList.drop off=cs++news++cur.toList.drop (off+n*sz+news.length):=by
   show(cur.toList.take (off+n*sz)++news++cur.toList.drop (off+n*sz+news.length)).drop off=_;rw[LC,List.drop_append_of_le_length (by rw[Lx];omega),e1,LC]
  rw[e2];have J:(cs++news).length=(n+m)*sz:=by rw[Lj,E.1,hl,Mh]
  rw[←J];exact List.take_left
 exact Step.setRow w g _
theorem Qkl {t e sz bys:Nat}{z:Value}[h:Sl P t e sz bys z]{s y:Operand}{base:Nat}{v:Value}{n:Nat}{cs:LV}(E:YI w base e sz v n cs)(hs:ev f s=v)
  {a:Addr} {m c:Nat} {news:LV} (hy:ev f y=.slice (some a) m c) (hl:news.length=m*sz) (hm:0<m) {L:LN} (G:At L w.heap a news) (h1:∀u∈news,u.oneCell'=true)
  (hb:n+m≤1099511627776) (H:base≤w.heap.size)
  (I:∀v' w',YI w' base e sz v' (n+m) (cs++news)→Step (ob v) w w'→(∀b∈ob v',b∈ob v∨w.heap.size≤b)→K (QY f d v') w') (J:bys≤128:=by decide):
  XO P ⟨d,.call ⟨.builtin .append,#[s,y],#[t,t]⟩,ty,ps,af,gd⟩ f w K:=by
 obtain⟨v',w',T,h2,h3,h4⟩:=yF (P:=P) (t:=t) (ty:=ty) E hl hm G.cells h1 hb J H (c:=c);have U:(execOp (ev f) ⟨d,.call ⟨.builtin .append,#[s,y],#[t,t]⟩,ty,ps,af,gd⟩).run P w=.ok (.value v') w':=by
  simp[execOp,resolve,invoke,builtin,hs,hy,T]
 exact xv U (I v' w' h2 h3 h4)
end
abbrev JO (e base:Nat)(w:World)(v:Value)(l:LI):Prop:=YI w base e 1 v l.length (l.map (.int .i64))
theorem JO.snoc {e base:Nat}{w:World}{v:Value}{l:LI}{n:Int}(h:YI w base e 1 v (l.length+1) (l.map (Value.int .i64)++[.int .i64 n])):JO e base w v (l++[n]):=by
 unfold JO;simpa using h
theorem JO.tail {e base:Nat}{w:World}{v:Value}{s:Int}{l:LI}(h:YI w base e 1 v ((s::l).length - 1) (((s::l).map (Value.int .i64)).drop (1*1))):JO e base w v l:=by
 unfold JO;simpa using h
end Go.Lg
namespace Go.Proofs.YtjcgijbhaemldaaGreatDoor
open Go.Lg
def JP {α:Type}(f:Nat→α)(i:Nat)(x:α):Nat→α:=λj=>if j=i then x else f j
theorem ZU {α:Type}(f:Nat→α)(i:Nat)(x:α):JP f i x i=x:=by simp[JP]
theorem Ye {α:Type}(f:Nat→α){i j:Nat}(x:α)(h:j≠i):JP f i x j=f j:=by simp[JP,h]
theorem jx {α β:Type}(k:α→β)(n:Nat)(f:Nat→α)(i:Nat)(x:α):((List.range n).map λj=>k (f j)).set i (k x)=(List.range n).map λj=>k (JP f i x j):=by
 apply Ma
 ·simp
 intro j h1 h2;rw[Nb];by_cases e:i=j
 ·subst e;simp[ZU]
 rw[if_neg e];simp[Ye _ _ (Ne.symm e)]
structure Kc (base:Nat)(w:World)(n:Nat)(f:Nat→Value)(g:Nat→LI):Prop where
 own:∀i,i<n→Qt 3 base w (f i) (g i)
 dj:∀i j,i<n→j<n→i≠j→Dj (f i) (f j)
theorem Kc.app {base n i:Nat}{w w':World}{f:Nat→Value}{g:Nat→LI}{v':Value}{l:LI}(h:Kc base w n f g)(hi:i<n)(H:Qt 3 base w' v' l)(hs:Step (ob (f i)) w w')
  (I:∀b∈ob v',b∈ob (f i)∨w.heap.size≤b):Kc base w' n (JP f i v') (JP g i l):=by
 refine⟨λj hj=>?_,λj k hj hk E=>?_⟩
 ·by_cases e:j=i
  ·subst e;rw[ZU,ZU];exact H
  rw[Ye _ _ e,Ye _ _ e];exact Ql (h.own j hj) hs (h.dj j i hj hi e)
 have key:∀j,j<n→j≠i→Dj v' (f j):=λj hj e b hb G=>by
  rcases I b hb with h1|h1
  ·exact h.dj i j hi hj (Ne.symm e) b h1 G
  have:=Q4 (h.own j hj) b G;omega
 by_cases e1:j=i
 ·subst e1;rw[ZU,Ye _ _ (Ne.symm E)];exact key k hk (Ne.symm E)
 rw[Ye _ _ e1];by_cases e2:k=i
 ·subst e2;rw[ZU];exact(key j hj e1).symm
 rw[Ye _ _ e2];exact h.dj j k hj hk E
theorem Kc.step {base n:Nat}{X:LN}{w w':World}{f:Nat→Value}{g:Nat→LI}(h:Kc base w n f g)(hs:Step X w w')(E:∀i,i<n→∀b∈ob (f i),b∉X):Kc base w' n f g :=
 ⟨λi hi=>Ql (h.own i hi) hs (E i hi),h.dj⟩
theorem Kc.ext {base n:Nat}{w w':World}{f:Nat→Value}{g:Nat→LI}(h:Kc base w n f g)(hs:Step [] w w'):Kc base w' n f g:=h.step hs (λ_ _ _ _=>by simp)
def ZB (es:List Ed)(s:Nat):LI:=(es.filter λe=>decide (e.2.2=(s:Int))).map (·.1)
theorem qb (es:List Ed)(e:Ed)(E:0≤e.2.2):∀s,JP (ZB es) e.2.2.toNat (ZB es e.2.2.toNat++[e.1]) s=ZB (es++[e]) s:=by
 intro s;unfold ZB;rw[L7,Lv];by_cases h:s=e.2.2.toNat
 ·subst h;rw[ZU];have:e.2.2=(e.2.2.toNat:Int):=by omega
  simp[←this]
 rw[Ye _ _ h];have:¬e.2.2=(s:Int):=by omega
 simp[this]
theorem Jq {es:List Ed}{s:Nat}{p:Int}(h:p∈ZB es s):∃e∈es,e.1=p∧e.2.2=(s:Int):=by
 unfold ZB at h;simp only[List.mem_map,List.mem_filter,decide_eq_true_eq]at h;obtain⟨e,⟨h1,h2⟩,h3⟩:=h;exact⟨e,h1,h3,h2⟩
theorem Xy (es:List Ed)(s:Nat):(ZB es s).length≤es.length:=by
 unfold ZB;rw[Li];exact LU _ _
def K4 (s:Int)(st:LI×LI)(p:Int):LI×LI:=if cget st.1 p.toNat<0 then(st.1.set p.toNat (cget st.1 s.toNat+1),st.2++[p])else st
def bwL (es:List Ed):Nat→LI→LI→LI
 | 0,o,_=>o
 | _+1,o,[]=>o
 | f+1,o,s::q=>bwL es f ((ZB es s.toNat).foldl (K4 s) (o,q)).1 ((ZB es s.toNat).foldl (K4 s) (o,q)).2
def Ks (n:Nat)(to:LI):LI:=(List.range n).map λi:Nat=>if(i:Int)∈to then 0 else -1
def bwd (n:Nat)(es:List Ed)(to:LI):LI:=bwL es (n+to.length) (Ks n to) to
theorem Qje (es:List Ed)(f:Nat)(o:LI):bwL es f o []=o:=by cases f <;> rfl
structure q6 (n:Nat)(o q:LI):Prop where
 len:o.length=n
 q:∀x∈q,0≤x∧x<(n:Int)
 le:∀x∈o,-1≤x∧x+(neg o:Int)≤n
theorem Qbr (l:LI):neg l≤l.length:=LU _ _
theorem QbQ {n:Nat}{s p:Int}{st:LI×LI}(h:q6 n st.1 st.2)(hs:0≤s∧s<(n:Int))(E:0≤cget st.1 s.toNat)(hp:0≤p∧p<(n:Int)):
  q6 n (K4 s st p).1 (K4 s st p).2∧neg (K4 s st p).1+(K4 s st p).2.length=neg st.1+st.2.length∧0≤cget (K4 s st p).1 s.toNat:=by
 unfold K4;have hl:=h.len;have G:p.toNat<st.1.length:=by omega
 have H:s.toNat<st.1.length:=by omega
 by_cases hc:cget st.1 p.toNat<0
 ·rw[if_pos hc];have I:st.1[p.toNat]'G<0:=by rw[Zh G];exact hc
  have T:=h.le _ (XQ H);have U:=Vj st.1 p.toNat (cget st.1 s.toNat+1) G I (by omega);refine⟨⟨by simp[hl],λx hx=>?_,λx hx=>?_⟩,?_,?_⟩
  ·simp only[List.mem_append,List.mem_singleton]at hx;rcases hx with hx|rfl
   ·exact h.q x hx
   exact hp
  ·simp only[]at hx ⊢;rcases Ni hx with h1|h1
   ·have:=h.le x h1;omega
   subst h1;omega
  ·simp only[List.length_append,List.length_singleton];omega
  simp only[];have J:s.toNat≠p.toNat:=λe=>by rw[e]at E;omega
  have:cget (st.1.set p.toNat (cget st.1 s.toNat+1)) s.toNat=cget st.1 s.toNat:=by
   unfold cget;simp[List.getD,List.getElem?_set_ne (Ne.symm J)]
  rw[this];exact E
 rw[if_neg hc];exact⟨h,rfl,E⟩
theorem YR (n:Nat)(to:LI):(Ks n to).length=n:=by simp[Ks]
theorem QbR {n:Nat}{to:LI}(h:∀x∈to,0≤x∧x<(n:Int)):q6 n (Ks n to) to:=by
 refine⟨YR n to,h,λx hx=>?_⟩;have E:=Qbr (Ks n to);rw[YR]at E;unfold Ks at hx;simp only[List.mem_map]at hx;obtain⟨i,_,rfl⟩:=hx;split <;> omega
theorem UD {n:Nat}{to:LI}{x:Int}(h:0≤x∧x<(n:Int))(hx:x∈to):cget (Ks n to) x.toNat=0:=by
 have h1:x.toNat<(Ks n to).length:=by rw[YR];omega
 rw[←Zh h1];have:((x.toNat:Nat):Int)=x:=by omega
 simp[Ks,this,hx]
def QaU (o q:LI):Prop:=∀x∈q,0≤cget o x.toNat
theorem qL {n:Nat}{s p:Int}{st:LI×LI}(h:q6 n st.1 st.2)(H:0≤cget st.1 s.toNat)(hp:0≤p∧p<(n:Int))(E:QaU st.1 st.2):QaU (K4 s st p).1 (K4 s st p).2:=by
 unfold K4;have G:p.toNat<st.1.length:=by have:=h.len;omega
 by_cases hc:cget st.1 p.toNat<0
 ·rw[if_pos hc];intro x hx;simp only[]at hx ⊢;have e1:cget (st.1.set p.toNat (cget st.1 s.toNat+1)) x.toNat=if x.toNat=p.toNat then cget st.1 s.toNat+1 else cget st.1 x.toNat:=by
   by_cases e:x.toNat=p.toNat
   ·rw[if_pos e,e];unfold cget;simp[List.getD,G]
   rw[if_neg e];unfold cget;simp[List.getD,List.getElem?_set_ne (Ne.symm e)]
  rw[e1];split
  ·omega
  rename_i e;simp only[List.mem_append,List.mem_singleton]at hx;rcases hx with hx|rfl
  ·exact E x hx
  exact absurd O e
 rw[if_neg hc];exact E
open Go.Proofs.Tryz
theorem jP (n:Nat):(List.replicate n (nS).cells.toList).flatten=(List.range n).map (λ_=>nS):=by
 apply Ma
 ·simp[Value.cells]
 intro i h1 h2;simp[Value.cells]
theorem zY (n:Nat):(List.replicate n (Value.int .i64 0).cells.toList).flatten=(gA n (λj=>if j<0 then -1 else 0)).map (Value.int .i64):=by
 apply Ma
 ·simp[Value.cells,gA]
 intro i h1 h2;simp[Value.cells,gA]
theorem Vd {rv:Nat→Value}{n i:Nat}(hi:i<n):((List.range n).map rv)[0+i*1]?=some (rv i):=by simp[hi]
theorem QaM {w:World}{va vm ve vf vt:Value}{a:QM}{n:Nat}{to:LI}(h:Zq [] w.heap va vm ve a)(hn:a.st=(n:Int))(mz:a.st≤4096)(go:∀e∈a.ed,0≤e.1∧e.1<a.st∧0≤e.2.2∧e.2.2<a.st)
  (m0:a.ed.length≤1000000) (ka:QI [] w.heap vt to) (kb:∀s∈to,0≤s∧s<a.st) (m1:to.length≤4096):
  QE prog 77 [.agg #[va,.int .i64 a.st,vm,ve,vf],vt] w λr w'=>Step [] w w'∧∃b,r=.slice (some ⟨b,0,none⟩) n n∧w.heap.size≤b∧QS w'.heap b 3 ((bwd n a.ed to).map (Value.int .i64)):=by
 refine QE.of_W func77 O ntmps77 results77 (by simp) ?_;refine Qc<|xl O<|QP (us:=[va,.int .i64 a.st,vm,ve,vf]) O λb2 w1 h0 m2 h2=>Qe<|Qc<|x (Qa O)<|x (Qa O)<|x (Qd h2 O O)<|xl O<|Xh (n:=n) (congrArg (Value.int .i64) hn) (congrArg (Value.int .i64) hn) (by omega) λbI w2 hH kc hI=>Qe ?_;rw[jP]at hI;have h3:=h0.trans hH;have m3:=hI.lt;have m4:=h2.lt
 have hJ:∀s∈to,0≤s∧s<(n:Int):=λs hs=>by have:=kb s hs;omega
 refine Qg<|Qc<|x (Qa O)<|x (Qa O)<|x (Qd (h2.ext hH) O O)<|x (Qu h.ed O)<|Qb<|xe<|Qh<|Qz (α:=Nat×(Nat→Value)) [(7,7),(24,41)] (λz=>[(24,.int .i64 z.1)]) (λz w'=>z.1≤a.ed.length∧Step [bI] w2 w'∧QS w'.heap bI 39 ((List.range n).map z.2)∧Kc w2.heap.size w' n z.2 (ZB (a.ed.take z.1))) (λz=>a.ed.length - z.1) (by rfl) (0,λ_=>nS) La
  ⟨Lk _,Step.refl _ _,hI,⟨λi _=>QQ _ _ _ _,λi j _ _ _=>Dj.nil _⟩⟩ ?_
 rintro⟨k,rv⟩ g H ⟨hk,hK,hL,ha⟩;simp only[]at hk hL ha;have m5:=hK.size;have h4:Step [] w1 H:=hH.then1 hK kc;refine Qc<|x (QA O O)<|xe<|Qg<|QD O (λhM=>?_) (λhM=>?_)
 ·refine Qy ?_;have ke:a.ed.length≤k:=by have h6:¬(k:Int)<(a.ed.length:Int):=hM;omega
  rw[Lm ke]at ha;have gq:∀i,i<n→QI [] H.heap (rv i) (ZB a.ed i):=λi hi=>QV (ha.own i hi) (by have:=Xy a.ed i;omega) (by simp);have hN:=(ka.ext h0).ext h4;refine Qc<|x (Qa O)<|x (Qa O)<|x (Qd (h2.ext h4) O O)<|xl O<|Xh (n:=n) (congrArg (Value.int .i64) hn) (congrArg (Value.int .i64) hn) (by omega) λbO w4 hO m6 hP=>Qe ?_;rw[zY]at hP
  refine Qg<|Qc<|Qb<|x (Qu (L:=[]) (hP.arr (by simp) (n:=n) (cap:=n) (sz:=1) (by simp[gA]) (by omega) (Lu _)) rfl)<|Qb<|xe<|Qh<|Qz (α:=Nat) [(9,9),(48,54)] (λz=>[(48,.int .i64 z)]) (λz w'=>z≤n∧Step [] H w'∧QS w'.heap bO 3 ((gA n (λj=>if j<z then -1 else 0)).map (Value.int .i64))) (λz=>n - z) (by rfl) 0 La ⟨Lk _,hO,hP⟩ ?_
  rintro j g E ⟨hj,hf,h7⟩;refine Qc<|x (QA O O)<|xe<|Qg<|QD O (λhQ=>?_) (λhQ=>?_)
  ·refine Qy ?_;have hR:j=n:=by have kf:¬(j:Int)<(n:Int):=hQ;omega
   have kg:gA n (λi=>if i<j then -1 else 0)=gA n (λi:Nat=>if(i:Int)∈to.take 0 then 0 else -1):=qj λi hi=>by rw[if_pos (by omega),if_neg (by simp)]
   rw[kg]at h7;refine Qc<|Qb<|xl O<|xf<|(Yl (hN.ext hf)).mono ?_;rintro vq w6 ⟨T,kh⟩;have m7:=h7.lt;have gr:=hf.trans T;have ki:=hf.size;refine Qe<|Qg<|Qc<|Qb<|x (Qu (hN.ext gr) O)<|Qb<|xe ?_
   refine Qh<|Qz (α:=Nat) [(12,12),(59,66)] (λz=>[(59,.int .i64 z)]) (λz w'=>z≤to.length∧Step [] H w'∧QS w'.heap bO 3 ((gA n (λi:Nat=>if(i:Int)∈to.take z then 0 else -1)).map (Value.int .i64))∧Qt 3 E.heap.size w' vq to∧E.heap.size≤w'.heap.size) (λz=>to.length - z) (by rfl) 0 La
    ⟨Lk _,gr,h7.ext T,kh,T.size⟩ ?_
   rintro i g w7 ⟨hi,U,hS,hT,kj⟩;refine Qc<|x (QA O O)<|xe<|Qg<|QD O (λhU=>?_) (λhU=>?_)
   ·refine Qy ?_;have kk:to.length≤i:=by have h8:¬(i:Int)<(to.length:Int):=hU;omega
    rw[Lm kk]at hS;have kn:QS w7.heap bO 3 ((Ks n to).map (Value.int .i64)):=hS;refine Qg<|Qh<|Qz (α:=Nat×Value×LI×LI) [(10,10),(13,13),(15,15),(67,101)] (λz=>[(10,z.2.1)])
     (λz w'=>Step [] H w'∧E.heap.size≤w'.heap.size∧QS w'.heap bO 3 (z.2.2.1.map (Value.int .i64))∧JO 3 E.heap.size w' z.2.1 z.2.2.2∧q6 n z.2.2.1 z.2.2.2∧QaU z.2.2.1 z.2.2.2∧neg z.2.2.1+z.2.2.2.length≤z.1∧z.1≤8192∧bwL a.ed z.1 z.2.2.1 z.2.2.2=bwd n a.ed to)
     (λz=>z.1+1 - (if z.2.2.2=[]then 1 else 0)) (by rfl) (n+to.length,vq,Ks n to,to) La
     ⟨U,kj,kn,YI.of_row hT,QbR hJ,λx hx=>by rw[UD (hJ x hx) hx];omega,by have:=Qbr (Ks n to);rw[YR]at this;simp only[];omega,by simp only[];omega,O⟩ ?_
    rintro⟨fu,vq,o,q⟩ g w8 ⟨G,hV,hg,h9,hy,hW,hX,ko,hh⟩;simp only[]at hV hg h9 hy hW hX ko hh;have m8:neg o+q.length≤8192:=by omega
    refine Qg<|Qc<|Qb<|x (Qu (QjC (L:=[]) h9 (by omega) (by simp)) rfl)<|x (ZP rfl rfl)<|xe<|QD O (λhY=>?_) (λhY=>?_)
    ·refine Qy ?_;have kp:q=[]:=Lq (by have kq:¬(q.length:Int) > 0:=hY;omega);rw[kp,Qje]at hh;rw[hh]at hg;refine Qc<|Qb<|Qe ?_;exact Qk ⟨[.slice (some ⟨bO,0,none⟩) n n],La,h0.trans (h4.trans G),bO,O,by omega,hg⟩
    refine Qi ?_;have kr:0<q.length:=by have kq:(q.length:Int) > 0:=hY;omega
    refine Exists.elim (List.exists_cons_of_length_pos kr) λs kt=>Exists.elim kt λq' ku=>?_;subst ku;have m9:0<fu:=by simp only[List.length_cons]at hX;omega
    refine Exists.elim (MJ (show fu≠0 by omega)) λgs hZ=>?_;subst hZ;have hsr:=hy.q s Lr;have kv:=hW s Lr;have ho:s=(s.toNat:Int):=by omega
    rw[bwL]at hh;simp only[List.length_cons]at hX;refine Qh<|Qc<|Qb<|xii (i:=0) (QjC (L:=[]) h9 (by simp only[List.length_cons];omega) (by simp)) rfl rfl (by simp) λpa kw=>x (Qw kw rfl)<|Qe<|Qc<|Qb<|Qmv (lo:=1) h9 rfl rfl (by simp only[List.length_cons];omega) λgt kx pc=>Qe ?_;have I:JO 3 E.heap.size w8 gt q':=JO.tail kx
    refine Qc<|Qb<|Qb<|x (QR (i:=s.toNat) O (congrArg (Value.int .i64) ho) (by omega))<|x (Qd (u:=rv s.toNat) (hL.ext G) O (Vd (by omega)))<|x (Qu ((gq s.toNat (by omega)).ext G) O)<|Qb<|xe ?_;have gu:=Xy a.ed s.toNat;refine Qh<|Qz (α:=Nat×Value×LI×LI) [(10,10),(15,15),(80,101)] (λz=>[(10,z.2.1),(80,.int .i64 z.1)])
     (λz w'=>z.1≤(ZB a.ed s.toNat).length∧Step [] H w'∧E.heap.size≤w'.heap.size∧QS w'.heap bO 3 (z.2.2.1.map (Value.int .i64))∧JO 3 E.heap.size w' z.2.1 z.2.2.2∧q6 n z.2.2.1 z.2.2.2∧QaU z.2.2.1 z.2.2.2∧0≤cget z.2.2.1 s.toNat∧neg z.2.2.1+z.2.2.2.length≤gs∧((ZB a.ed s.toNat).drop z.1).foldl (K4 s) (z.2.2.1,z.2.2.2)=(ZB a.ed s.toNat).foldl (K4 s) (o,q'))
     (λz=>(ZB a.ed s.toNat).length - z.1) (by rfl) (0,gt,o,q') ⟨O,O,Z⟩
     ⟨Lk _,G,hV,hg,I,⟨hy.len,λx hx=>hy.q x (Ln _ hx),hy.le⟩,λx hx=>hW x (Ln _ hx),kv,by simp only[];omega,O⟩ ?_
    rintro⟨m,ga,o2,q2⟩ g w9 ⟨hm,hA,gb,hq,I,V,hB,hC,gc,J⟩;simp only[]at hm gb hq I V hB hC gc J;refine Qc<|x (QA O O)<|xe<|Qg<|QD O (λge=>?_) (λge=>?_)
    ·refine Qy ?_;have kz:(ZB a.ed s.toNat).length≤m:=by have hD:¬(m:Int)<((ZB a.ed s.toNat).length:Int):=ge;omega
     rw[Ls kz]at J;rw[←J]at hh;exact⟨(gs,ga,o2,q2),by simp only[];split <;> simp <;> omega,La,hA,gb,hq,I,V,hB,gc,by simp only[];omega,hh⟩
    refine Qi ?_;have hr:m<(ZB a.ed s.toNat).length:=by have hD:(m:Int)<((ZB a.ed s.toNat).length:Int):=ge;omega
    have gv:=Jq (Lh hr);have k0:=Q6 hr;rw[k0,LM]at J;refine Zb ((ZB a.ed s.toNat)[m]'hr) λp hp=>?_;rw[hp]at gv J;have gx:0≤p∧p<(n:Int):=by
     obtain⟨e,he,h1,_⟩:=gv;have:=go e he;omega
    have gy:p=(p.toNat:Int):=by omega
    have pd:=V.len;have hE:p.toNat<o2.length:=by omega
    have gg:s.toNat<o2.length:=by omega
    have pf:=V.le _ (XQ gg);have hF:=QbQ (st:=(o2,q2)) V hsr hC gx;have gz:=qL (st:=(o2,q2)) V hC gx hB;refine Qg<|Qh<|Qc<|xii (i:=m) ((gq s.toNat (by omega)).ext hA) O O hr λpg hD=>?_;rw[hp]at hD;refine x (Qw hD O)<|Qe<|Qc<|Qb<|Qb<|x (QR (i:=p.toNat) O (congrArg (Value.int .i64) gy) (by omega))<|x (Kk (i:=p.toNat) hq O hE)<|x (QA O O)<|xe ?_
    refine QD O (λgh=>?_) (λgh=>?_)
    ·refine Qi ?_;have hc:¬cget o2 p.toNat<0:=by rw[←Zh hE];exact gh
     have gi:K4 s (o2,q2) p=(o2,q2):=by unfold K4;rw[if_neg hc]
     rw[gi]at J;refine Qx<|QN O O<|Qb<|xe ?_;exact⟨(m+1,ga,o2,q2),by simp only[];omega,⟨O,O,Z⟩,hr,hA,gb,hq,I,V,hB,hC,gc,J⟩
    have hc:cget o2 p.toNat<0:=by rw[←Zh hE];exact gh
    have gi:K4 s (o2,q2) p=(o2.set p.toNat (cget o2 s.toNat+1),q2++[p]):=by unfold K4;rw[if_pos hc]
    rw[gi]at J hF gz;have k4:=Zh gg;refine Qc<|Qb<|Qb<|Qb<|Qb<|x (QR (i:=s.toNat) O (congrArg (Value.int .i64) ho) (by omega))<|x (Kk (i:=s.toNat) hq O gg)<|x (XG O O ⟨by omega,by omega⟩) <|
     x (QR (i:=p.toNat) O (congrArg (Value.int .i64) gy) (by omega))<|xl O<|XH (i:=p.toNat) hq O O hE λk5 gj g0=>xe ?_
    rw[k4]at g0;have ph:=gj.size;have k6:∀b∈ob ga,b∉[bO]:=λb hb=>by have:=Qkd I b hb;simp;omega
    have k7:=Qfe I gj k6;have k8:Step [] H k5:=hA.then1 gj (by omega);refine Qx<|Qb<|Qb<|xl O<|QJ (us:=[[.int .i64 p]]) O O (by decide) (by simp) ⟨rfl,rfl,Z⟩ λpj pn hz po k9=>xl rfl<|Qkl (m:=1) (news:=[.int .i64 p]) (QlF k7 hz) rfl rfl rfl (by omega) (k9.at (L:=[]) (by simp)) (by simp[Value.oneCell']) (by omega) (by have:=hz.size;omega) λg1 ma mc h3 pp =>
     Qe ?_
    have pt:=hz.size;have pu:=h3.size;have mf:JO 3 E.heap.size ma g1 (q2++[p]):=JO.snoc mc;refine Qx<|QN O O<|Qb<|xe<|⟨(m+1,g1,_,q2++[p]),by simp only[];omega,⟨O,O,Z⟩,hr,(k8.trans hz).then h3 (λb hb=>.inr (by have:=Qkd I b hb;omega)),by omega,(g0.ext hz).step h3 (λhb=>by have:=Qkd I _ hb;omega),mf,hF.1,gz,hF.2.2,?_,J⟩
    have h5:neg (o2.set p.toNat (cget o2 s.toNat+1))+(q2++[p]).length=neg o2+q2.length:=hF.2.1;simp only[];omega
   refine Qi ?_;have ht:i<to.length:=by have h8:(i:Int)<(to.length:Int):=hU;omega
   have mg:=hJ _ (Lh ht);have hu:to.take (i+1)=to.take i++[to[i]'ht]:=Le ht;refine Zb (to[i]'ht) λs hs=>?_;rw[hs]at mg hu;have ho:s=(s.toNat:Int):=by omega
   have gk:(gA n (λj:Nat=>if(j:Int)∈to.take i then 0 else -1)).set s.toNat 0=gA n (λj:Nat=>if(j:Int)∈to.take (i+1)then 0 else -1):=qi (by rw[hu];simp;omega) (λj _ hj=>by
    rw[hu];have:¬(j:Int)=s:=by omega
    simp[this])
   refine Qg<|Qh<|Qc<|xii (i:=i) (hN.ext U) O O ht λpw h8=>?_;rw[hs]at h8;refine x (Qw h8 O)<|Qe<|Qx<|Qb<|Qb<|x (QR (i:=s.toNat) O (congrArg (Value.int .i64) ho) (by omega))<|xl O<|J1 (i:=s.toNat) hS O O (by omega) gk λw8 G hg=>xe ?_;refine Qx<|QN O O<|Qb<|xe ?_;have hV:=G.size
   exact⟨i+1,by omega,La,ht,U.then1 G (by omega),hg,Ql hT G (λb hb=>by have:=Qq hT b hb;simp;omega),by omega⟩
  refine Qi ?_;have hR:j<n:=by have kf:(j:Int)<(n:Int):=hQ;omega
  refine Qg<|Qh<|Qc<|Qb<|Qe<|Qx ?_;have gk:(gA n (λi=>if i<j then -1 else 0)).set j (-1)=gA n (λi=>if i<j+1 then -1 else 0):=qi (by rw[if_pos (by omega)]) (λi _ hi=>by
   by_cases e:i<j
   ·rw[if_pos e,if_pos (by omega)]
   rw[if_neg e,if_neg (by omega)])
  refine Qb<|Qb<|x (QR (i:=j) O O (by omega))<|xl O<|J1 (i:=j) h7 O O hR gk λw6 T mh=>xe ?_;refine Qx<|QN O O<|Qb<|xe ?_;exact⟨j+1,by omega,La,hR,hf.then1 T (by omega),mh⟩
 refine Qi ?_;have hv:k<a.ed.length:=by have h6:(k:Int)<(a.ed.length:Int):=hM;omega
 have hu:a.ed.take (k+1)=a.ed.take k++[a.ed[k]'hv]:=Le hv;have g2:=go _ (Lh hv);refine Zb (a.ed[k]'hv) λe he=>?_;rw[he]at hu g2;have g3:e.2.2=(e.2.2.toNat:Int):=by omega
 have Y:e.2.2.toNat<n:=by omega
 have gu:=Xy (a.ed.take k) e.2.2.toNat;rw[Lx]at gu;have ho:=qb (a.ed.take k) e g2.2.2.1;refine Qg<|Qh<|Qc<|xie ((h.ed.ext h0).ext h4) O O hv λpz h6=>?_;rw[he]at h6;refine x (QG h6 O O)<|xl O<|Qr (us:=[.int .i64 0,.int .i64 0,.int .i64 0]) O λb7 w4 hO mj mo=>xl O<|Qm (us:=QB e) mo O O O O ⟨O,O,O,Z⟩ λE hf gl=>xe ?_;have hG:Step [] H E:=hO.then1 hf mj
 have ki:=hG.size;have g4:=ha.ext hG;have mq:=g4.own _ Y;have gm:∀b∈ob (rv e.2.2.toNat),w2.heap.size≤b∧b<H.heap.size:=λb hb=>⟨(Qq (ha.own _ Y) b hb).1,Q4 (ha.own _ Y) b hb⟩;have g5:bI∉ob (rv e.2.2.toNat):=λhb=>by have:=gm _ hb;omega
 have gn:b7∉ob (rv e.2.2.toNat):=λhb=>by have:=gm _ hb;omega
 have g6:=hL.ext hG;refine QU (Step (ob (rv e.2.2.toNat)) E) [(0,true),(1,true),(2,true),(3,true),(4,true),(5,true),(6,true),(7,true),(8,true),(9,true),(10,false),(11,false),(12,true),(13,false)] mixed (by rfl) (by kernel_rfl) (Step.drew _ _) ?_;refine p (λ_=>Qn)<|p (λ_=>Qa O)<|pq (λ_ hc=>Qd (gl.step hc gn) O O)<|p (λ_=>Qn)<|p (λ_=>Qa O)<|pq (λ_ hc=>Qd (gl.step hc gn) O O) <|
  p (λ_=>QR (i:=e.2.2.toNat) O (congrArg (Value.int .i64) g3) Y)<|pq (λ_ hc=>Qd (u:=rv e.2.2.toNat) (g6.step hc g5) O (Vd Y))<|p (λ_=>Qa O)<|pq (λ_ hc=>Qd (gl.step hc gn) O O) <|
  pk<|QJ (us:=[[.int .i64 e.1]]) O O (by decide) (by simp) ⟨rfl,rfl,Z⟩ λp0 w6 T p4 ms=>⟨(Step.drew _ _).trans T,?_⟩
 have hw:Step [] E w6:=(Step.drew _ _).trans T;have p5:=hw.size;refine pk<|Q5 (m:=1) (news:=[.int .i64 e.1]) (Qs mq hw) O O O (ms.at (L:=[]) (by simp)) (by simp[Value.oneCell']) (by omega) (by omega) λvr w7 g7 U mt=>⟨hw.any.trans' U,?_⟩;have mu:=(g6.ext hw).step U g5;have mv:((List.range n).map rv).length=n:=by simp
 refine p (λ_=>QR (i:=e.2.2.toNat) O (congrArg (Value.int .i64) g3) Y)<|pkl (hl:=by kernel_rfl)<|QC (j:=0+e.2.2.toNat*1) (u:=vr) mu O O (by rw[mv];omega) (QV (L:=[]) g7 (by omega) (by simp)).one λw8 G mw=>pe ?_;have mx:QS w8.heap bI 39 ((List.range n).map (JP rv e.2.2.toNat vr)):=by
  have e1:=jx id n rv e.2.2.toNat vr;simp only[id]at e1;rw[←e1];simpa using mw
 have my:∀b∈ob vr,b∈ob (rv e.2.2.toNat)∨E.heap.size≤b:=λb hb=>(mt b hb).imp id (λh=>by omega);have g8:=g4.app Y (Qt.snoc g7) (hw.any.trans' U) my;have g9:=g8.step G (λi hi b hb=>by have:=(Qq (g8.own i hi) b hb).1;simp;omega);have hZ:JP (ZB (a.ed.take k)) e.2.2.toNat (ZB (a.ed.take k) e.2.2.toNat++[e.1])=ZB (a.ed.take (k+1)):=by rw[hu];exact funext ho
 rw[hZ]at g9;refine Qx<|QN O O<|Qb<|xe<|⟨(k+1,JP rv e.2.2.toNat vr),by simp only[];omega,La,hv,?_,mx,g9⟩;exact(((hK.trans hG).trans hw).then U (λb hb=>.inr (gm b hb).1)).trans' G
def KN (d:LI)(k:Nat):LI:=((List.range k).filter λi=>decide (0≤cget d i)).map λi:Nat=>(i:Int)
def cor (a:QM):LI:=KN (bwd a.st.toNat a.ed a.mr) a.st.toNat
theorem yc (d:LI)(k:Nat):KN d (k+1)=if 0≤cget d k then KN d k++[(k:Int)]else KN d k:=by
 unfold KN;rw[List.range_succ,L7,Lv];by_cases h:0≤cget d k
 ·simp[h]
 simp[h]
theorem Qgx (d:LI)(k:Nat):(KN d k).length≤k:=by
 unfold KN;rw[Li];have:=LU (λi=>decide (0≤cget d i)) (List.range k);simpa using this
theorem Qjf (s:Int)(st:LI×LI)(p:Int):(K4 s st p).1.length=st.1.length:=by unfold K4;split <;> simp
theorem QaK (s:Int):∀(ps:LI) (st:LI×LI),(ps.foldl (K4 s) st).1.length=st.1.length
 | [],_=>rfl
 | p::ps,st=>by rw[LM,QaK s ps,Qjf]
theorem Qde (es:List Ed):∀(f:Nat) (o q:LI),(bwL es f o q).length=o.length
 | 0,_,_=>rfl
 | _+1,_,[]=>rfl
 | f+1,o,s::q=>by rw[bwL,Qde es f,QaK]
theorem Qjc (n:Nat)(es:List Ed)(to:LI):(bwd n es to).length=n:=by unfold bwd;rw[Qde,YR]
theorem qX {w:World}{va vm ve:Value}{a:QM}(h:Zq [] w.heap va vm ve a):
  QE prog 35 [.agg #[va,.int .i64 a.st,vm,ve]] w λr w'=>Step [] w w'∧∃v,r=.tuple #[v,.int .i64 (Y6 a)]∧Qt 3 w.heap.size w' v (if Y6 a=0 then cor a else[]):=by
 refine QE.of_W func35 O ntmps35 results35 (by simp) ?_;refine Qc<|xl O<|QP (us:=[va,.int .i64 a.st,vm,ve]) O λb1 w1 I h5 ha=>x Qf<|Qe<|Qg<|Qc<|x (Qo ha O O)<|xl O<|xf<|(YP (h.ext I)).mono ?_;rintro r2 T ⟨rfl,G⟩;refine Qe<|Qc<|Qb<|x (Q7 O O)<|xe ?_;have h6:=I.size;have h7:=G.size;refine Q2 rfl (λhf=>?_) (λhf=>?_)
 ·refine Qc<|Qb<|x Qf<|Qe<|Qk ⟨[nS,.int .i64 (Y6 a)],⟨O,O,Z⟩,I.trans G,_,O,?_⟩;rw[if_neg hf];exact QQ _ _ _ _
 have hck:Y6 a=0:=Ll.1 hf;have E:=(Zw a).1 hck;refine exN E.st0 λn hn=>?_;have hu:a.st.toNat=n:=by omega
 have hm:=E.st1;have hv:=E.mr_le;have h8:=E.ed_le;refine Qi<|Qc<|Qe ?_;have hg:=(h.ext I).ext G;have hh:Step [] T { T with drawn:=T.drawn+1 }:=Step.drew _ _
 refine Qg<|Qg<|QU (Step [] T) [(0,true),(2,true),(3,true),(6,true),(1,false),(4,false),(5,true)] mixed (by rfl) (by kernel_rfl) (Step.drew _ _) ?_;refine pq (λ_ hc=>Qo ((ha.ext G).ext hc) O O)<|p (λ_=>Qa O)<|pq (λ_ hc=>Qd ((ha.ext G).ext hc) O O) <|
  p (λ_=>Qn)<|pk<|xf<|(Uc (hg.ext hh) hn hm (λe he=>⟨(E.ed e he).1,(E.ed e he).2.1⟩)).mono ?_
 rintro r3 w3 ⟨hp,bF,rfl,_,_⟩;refine⟨hh.trans hp,?_⟩;have U:=hh.trans hp;refine pk<|xf<|(QaM (hg.ext U) hn hm (λe he=>⟨(E.ed e he).1,(E.ed e he).2.1,(E.ed e he).2.2.2⟩) (by omega) (hg.mr.ext U) E.mr hv).mono ?_;rintro r4 w4 ⟨hq,bO,rfl,h9,hw⟩;refine⟨U.trans hq,?_⟩;have hr:=U.trans hq;have hs:=Qjc n a.ed a.mr
 have ht:Zv [] w4.heap (.slice (some ⟨bO,0,none⟩) n n) n 1 ((bwd n a.ed a.mr).map (Value.int .i64)):=hw.arr (by simp) (by simp[hs]) (by omega) (Lu _);refine p (λ_=>Qu ht O)<|pe ?_;have hA:=hr.size;have hy:cor a=KN (bwd n a.ed a.mr) n:=by unfold cor;rw[hu]
 refine Qh<|Qz (α:=Nat×Value) [(5,7),(19,30)] (λz=>[(5,z.2),(19,.int .i64 z.1)]) (λz w'=>z.1≤n∧Step [] w4 w'∧Qt 3 w4.heap.size w' z.2 (KN (bwd n a.ed a.mr) z.1)) (λz=>n - z.1) (by rfl) (0,nS) ⟨O,O,Z⟩
  ⟨Lk _,Step.refl _ _,QQ _ _ _ _⟩ ?_
 rintro⟨k,v⟩ g w5 ⟨hk,J,H⟩;simp only[]at hk H;refine Qc<|x (QA O O)<|xe<|Qg<|QD O (λhi=>?_) (λhi=>?_)
 ·refine Qy ?_;have V:k=n:=by have hz:¬(k:Int)<(n:Int):=hi;omega
  rw[V,←hy]at H;refine Qc<|Qb<|x Qf<|Qe<|Qk ⟨[v,.int .i64 0],⟨O,O,Z⟩,(I.trans G).trans (hr.trans J),_,by rw[hck];rfl,?_⟩;rw[if_pos hck];exact Za H (by omega)
 have V:k<n:=by have hz:(k:Int)<(n:Int):=hi;omega
 have Y:=yc (bwd n a.ed a.mr) k;have hB:=Qgx (bwd n a.ed a.mr) k;refine Qi<|Qg<|Qh<|Qc ?_;have h0:QI [] w5.heap (.slice (some ⟨bO,0,none⟩) n n) (bwd n a.ed a.mr):=by unfold QI;rw[hs];exact ht.ext J
 refine Qb<|xic (i:=k) h0 O O (by omega) λhC h1=>x (Qw h1 O)<|x Qf<|Qe<|Qc<|Qb<|x (ZK O O)<|xe<|QD rfl (λhj=>?_) (λhj=>?_)
 ·refine Qi ?_;rw[if_neg hj]at Y;refine Qx<|QN O O<|Qb<|xe ?_;exact⟨(k+1,v),by simp only[];omega,⟨O,O,Z⟩,V,J,by rw[Y];exact H⟩
 rw[if_pos hj]at Y;have hD:=J.size;refine Qx<|Qb<|Qb<|xl O<|QJ (us:=[[.int .i64 k]]) O O (by decide) (by simp) ⟨rfl,rfl,Z⟩ λhE w6 hl hF h2=>xl rfl<|Q5 (m:=1) (news:=[.int .i64 k]) (Qs H hl) rfl rfl rfl (h2.at (L:=[]) (by simp)) (by simp[Value.oneCell']) (by omega) (by have:=hl.size;omega) λv7 w7 h3 h4 hG =>
  Qe<|Qx<|QN O O<|Qb<|xe ?_
 exact⟨(k+1,v7),by simp only[];omega,⟨O,O,Z⟩,V,(J.trans hl).then h4 (λb hb=>.inr (Qq H b hb).1),by rw[Y];exact Qt.snoc h3⟩
theorem QmI {P:Program}{ops:List Oper}{K:Fr→World→Prop}{f:Fr}{w:World}{d:Option Nat}{ty:Nat}{ps:String}{af:Array Edge}{gd:Option (Nat×Bool)}{C:World→Prop}{pl:List (Nat×Bool)}{E:Nat}
  {t e sz bys:Nat} {z:Value} {x G I:Operand} {L:LN} {v:Value} {n:Nat} {cs:LV} {H:Array Obj} {k k':IntKind} {lo hi:Nat} [h:Sl P t e sz bys z]
  (J:QO ops E=⟨d,.slice t x (some G) (some I) none,ty,ps,af,gd⟩) (T:Zv L H v n sz cs) (hx:ev f x=v) (hl:ev f G=.int k lo) (U:ev f I=.int k' hi) (h1:lo≤hi) (h2:hi≤n)
  (V:∀v',Zv L H v' (hi - lo) sz ((cs.drop (lo*sz)).take ((hi - lo)*sz))→XP P ops C K pl (QY f d v') w)
  (Y:Z2 ops f (QO ops E)=true:=by rfl):XP P ops C K ((E,true)::pl) f w:=by
 obtain⟨v',h3,h4⟩:=Qcq (P:=P) (d:=d) (ty:=ty) (ps:=ps) (af:=af) (gd:=gd) (t:=t) T hx hl U h1 h2;exact Lg.p (λw'=>by rw[J];exact h4 w') (by rw[J];exact V v' h3) Y
theorem Qc1 {es:List Ed}(hs:es.Pairwise λx y=>x.1≤y.1)(s:Nat):∀(m:Nat) (hm:m<es.length),(m:Int)<fS es s↔(es[m]'hm).1<(s:Int):=by
 unfold fS cnE;induction es with
 | nil=>intro m hm;simp at hm
 | cons e es ih =>
  intro m hm;simp only[List.pairwise_cons]at hs;have ih:=ih hs.2;simp only[List.filter_cons];by_cases h1:e.1<(s:Int)
  ·simp only[h1,decide_true,if_true,List.length_cons];cases m with
   | zero=>simp only[List.getElem_cons_zero];omega
   | succ m =>
    have:=ih m (by simpa using hm);simp only[List.getElem_cons_succ];rw[←this];omega
  have E:(es.filter λe=>decide (e.1<(s:Int)))=[]:=MF.2 (λd hd=>by have:=hs.1 d hd;simp;omega);simp only[h1,decide_false,Bool.false_eq_true,if_false,E,List.length_nil];cases m with
  | zero=>simp only[List.getElem_cons_zero];omega
  | succ m =>
   have hd:es[m]'(by simpa using hm)∈es:=Lh _;have:=hs.1 _ hd;simp only[List.getElem_cons_succ];omega
theorem QiQ (es:List Ed)(s:Nat):fS es s≤fS es (s+1):=by
 have h:=Qc0 es s;have:=(KO (λe:Ed=>decide (e.1+1=((s+1:Nat):Int))) es).1;unfold cN at h;omega
theorem QhS {es:List Ed}(hs:es.Pairwise λx y=>x.1≤y.1)(s lo hi:Nat)(h1:fS es s=(lo:Int))(h2:fS es (s+1)=(hi:Int)):(es.drop lo).take (hi - lo)=ZI es s∧hi≤es.length∧lo≤hi:=by
 have hm:=QiQ es s;have hl:=(KO (λe:Ed=>decide (e.1<((s+1:Nat):Int))) es).2;have E:hi≤es.length:=by unfold fS at h2;omega
 refine⟨?_,E,by omega⟩;exact qz (λe:Ed=>decide (e.1=(s:Int))) es lo hi (by omega) E
  (λm hm H=>by have:=(Qc1 hs s m hm).1 (by omega);simp;omega)
  (λm hm h3 h4=>by
   have h5:¬(es[m]'hm).1<(s:Int):=λh=>by have:=(Qc1 hs s m hm).2 h;omega
   have G:=(Qc1 hs (s+1) m hm).1 (by omega);simp;omega)
  (λm hm h3=>by
   have G:¬(es[m]'hm).1<((s+1:Nat):Int):=λh=>by have:=(Qc1 hs (s+1) m hm).2 h;omega
   simp;omega)
theorem z6:∀(l:List Ed) (k:Nat),(l.flatMap QB).drop (k*3)=(l.drop k).flatMap QB
 | [],k=>by simp
 | e::l,0=>by simp
 | e::l,k+1=>by
  simp only[List.flatMap_cons,List.drop_succ_cons,Nat.add_mul,Nat.one_mul];rw[ME,←List.drop_drop,show(QB e++l.flatMap QB).drop 3=l.flatMap QB from rfl,z6 l k]
theorem z1:∀(l:List Ed) (k:Nat),(l.flatMap QB).take (k*3)=(l.take k).flatMap QB
 | [],k=>by simp
 | e::l,0=>by simp
 | e::l,k+1=>by
  simp only[List.flatMap_cons,List.take_succ_cons,Nat.add_mul,Nat.one_mul];rw[ME,Nr,show(QB e).length=3 from rfl,show 3+k*3 - 3=k*3 by omega,z1 l k,Lm (by rw[show(QB e).length=3 from rfl];omega)]
theorem Qgt {w:World}{va vm ve vf:Value}{st s:Int}:
  QE prog 138 [.agg #[va,.int .i64 st,vm,ve,vf],.int .i64 s] w λr w'=>Step [] w w'∧∃b1 E,r=.func (.func 182) #[] #[.pointer (some ⟨b1,0,none⟩),.pointer (some ⟨E,0,none⟩)] ∧
   w.heap.size≤b1∧w.heap.size≤E∧QS w'.heap b1 171 [va,.int .i64 st,vm,ve,vf]∧QS w'.heap E 3 [.int .i64 s]:=by
 refine QE.of_W func138 O ntmps138 results138 (by simp) ?_;refine Qc<|xl O<|QP (us:=[va,.int .i64 st,vm,ve,vf]) O λE V G I J=>xl O<|QP (us:=[.int .i64 s]) O λT Y H ha U=>Qe<|Qc<|x Zj<|Qe ?_;have hb:=G.size;exact Qk ⟨[_],La,G.trans H,E,T,O,I,by omega,J.ext H,U⟩
theorem QbE {L:LN}{w:World}{I T bF n s m:Nat}{va vm ve:Value}{a:QM}(hy:QS w.heap I 171 [va,.int .i64 a.st,vm,ve,.slice (some ⟨bF,0,none⟩) (n+1) (n+1)])(hz:QS w.heap T 3 [.int .i64 s])
  (h2:QS w.heap bF 3 ((gA (n+1) (fS a.ed)).map (Value.int .i64))) (hE:UF L w.heap ve a.ed) (h3:a.ed.Pairwise λx y=>x.1≤y.1) (hs:s<n) (hn:n≤4096):
  SeqStopsK (fen none) m prog 182 [.pointer (some ⟨I,0,none⟩),.pointer (some ⟨T,0,none⟩)].toArray (λx:{ e:Ed // e∈a.ed }=>#[.agg (QB x.1).toArray]) (Lw w.heap.size L)
   (λE=>E.map (·.1)=ZI a.ed s) (λ_=>True) (a.ed.length+1) w:=by
 intro l J Jx W h4 hJ h5 hY h0;have Y:Step [] w W:=Step.of_below h4;have ab:∀{E:List { e:Ed // e∈a.ed }} {W1 W2:World},J E W1→Step [] W1 W2→J E W2:=λ{E W1 W2} hj U=>hJ E W1 W2 none hj ⟨U.os,U.tape,U.output,U.size,λk hk _=>U.block k hk (by simp)⟩ (λr e=>by cases e);have hK:=KO (λe:Ed=>decide (e.1<(s:Int))) a.ed;have hL:=KO (λe:Ed=>decide (e.1<((s+1:Nat):Int))) a.ed
 obtain⟨lo,hl⟩:∃lo:Nat,fS a.ed s=(lo:Int):=⟨(fS a.ed s).toNat,by unfold fS;omega⟩;obtain⟨hi,hm⟩:∃hi:Nat,fS a.ed (s+1)=(hi:Int):=⟨(fS a.ed (s+1)).toNat,by unfold fS;omega⟩;obtain⟨ho,h6,h7⟩:=QhS h3 s lo hi hl hm;have hM:=hE.le;have h8:(ZI a.ed s).length=hi - lo:=by rw[←ho,Lx,L9];omega
 have h9:∀e∈ZI a.ed s,e∈a.ed:=λe he=>(Yi he).1;have key:QE prog 182 [.func (.yield l) #[] #[],.pointer (some ⟨I,0,none⟩),.pointer (some ⟨T,0,none⟩)] W (λ_ W'=>(∃E,E.map (·.1)=ZI a.ed s∧J E W')∨(∃pre,True∧Jx pre W')):=by
  refine QE.of_G m func182 O ntmps182 results182 (by simp) ?_;have hf:=hy.ext Y;have hp:=hz.ext Y;have hq:=h2.ext Y;refine Q0<|jp (Step [] W) [(0,true),(1,true),(2,true),(3,true),(4,true),(5,true),(6,true),(7,true),(8,true),(9,true),(10,true),(11,true),(12,true),(13,true),(14,true),(15,true),(16,true)] mixed (by rfl) (by rfl) (by kernel_rfl) (Step.drew _ _) ?_
  refine p (λ_=>Qa O)<|p (λ_=>Qa O)<|pq (λ_ hc=>Qd (hf.ext hc) O O)<|p (λ_=>Qa O)<|pq (λ_ hc=>Qd (hf.ext hc) O O)<|pq (λ_ hc=>Qd (hp.ext hc) O O) <|
   p (λ_=>QR (i:=s) O O (by omega))<|pq (λ_ hc=>Vf (i:=s) (hq.ext hc) O (by omega))<|p (λ_=>Qa O)<|pq (λ_ hc=>Qd (hf.ext hc) O O) <|
   pq (λ_ hc=>Qd (hp.ext hc) O O)<|p (λ_=>XG O O ⟨by omega,by omega⟩)<|p (λ_=>QR (i:=s+1) O O (by omega))<|pq (λ_ hc=>Vf (i:=s+1) (hq.ext hc) O (by omega)) <|
   QmI (lo:=lo) (hi:=hi) O hE O (congrArg (Value.int .i64) hl) (congrArg (Value.int .i64) hm) h7 h6 λhA hr=>p (λ_=>Qu hr O)<|p (λ_=>Qn)<|pe ?_
  have hS:UF L w.heap hA (ZI a.ed s):=by
   unfold UF;rw[h8,←ho,←z1,←z6];exact hr
  have ht:Step [] W { W with drawn:=W.drawn+1 }:=Step.drew _ _
  refine ZJ<|KW (α:=Nat×List { e:Ed // e∈a.ed }) [(5,5),(22,30)] (λz=>[(22,.int .i64 z.1)]) (λz ds W'=>ds=[]∧z.1≤(ZI a.ed s).length∧Step L w W'∧z.2.map (·.1)=(ZI a.ed s).take z.1∧J z.2 W') (λz=>(ZI a.ed s).length - z.1) (by rfl) (0,[]) La
   ⟨O,Lk _,(Y.trans ht).any,O,ab h0 ht⟩ ?_
  rintro⟨k,E⟩ g ds w1 ⟨rfl,hk,hu,V,hg⟩;simp only[]at hk V hg;refine Q0<|QH (by rfl) (by rfl) ?_;refine x (QA O O)<|xe<|Q0<|qW O (λhh=>?_) (λhh=>?_)
  ·refine JJ ?_;have hB:(ZI a.ed s).length≤k:=by
    have ha:¬(k:Int)<((hi - lo:Nat):Int):=hh;omega
   rw[Lm hB]at V;exact⟨λ_ h=>(by cases h),MA,[],λW' G=>⟨Z,.inl ⟨E,V,ab hg G⟩⟩⟩
  refine Z6 ?_;have H:k<(ZI a.ed s).length:=by
   have ha:(k:Int)<((hi - lo:Nat):Int):=hh;omega
  have hN:=Jk a.ed s;have hv:(ZI a.ed s).take (k+1)=(ZI a.ed s).take k++[(ZI a.ed s)[k]'H]:=Le H;have hb:=h9 _ (Lh H);have hO:E.length=k:=by have:=congrArg List.length V;rw[Li,Lx]at this;omega
  refine Zb ((ZI a.ed s)[k]'H) λe he=>?_;rw[he]at hv hb;refine Q0<|ZJ<|Q0<|QH (by rfl) (by rfl) ?_;refine xie (i:=k) (hS.st hu) O O H λhP ha=>?_;rw[he]at ha;refine x (QG ha O O)<|xl O<|Qr (us:=[.int .i64 0,.int .i64 0,.int .i64 0]) O λb5 w2 hC hD hF=>xl O<|Qm (us:=QB e) hF O O O O ⟨O,O,O,Z⟩ λw3 hG hH=>xe ?_;have hw:Step [] w1 w3:=hC.then1 hG hD;refine Q0<|Kt (by rfl) ?_
  refine XY.pre2 ?_;refine Qb<|x (Qo hH O O)<|xe<|xy (l:=l) O (hY E ⟨e,hb⟩ w3 (ab hg hw) (by omega)) λen W3 hI=>Or.elim hI (λh1=>⟨.bool true,h1.1,?_⟩) (λh1=>⟨.bool false,h1.1,?_⟩)
  ·refine XY.of_XL<|x (Zp O)<|xe<|Ku O<|Z6 ?_;refine QH (by rfl) (by rfl) ?_;refine QN O O<|Qb<|xe ?_;exact⟨(k+1,E++[⟨e,hb⟩]),by simp only[];omega,La,O,H,(hu.trans hw).lw h1.2.2,by rw[hv,Lv,V];rfl,h1.2.1⟩
  refine XY.of_XL<|x (Zp O)<|xe<|jo O ?_;refine Kf ⟨λ_ h=>(by cases h),MA,[],λW' G=>⟨Z,.inr ⟨E++[⟨e,hb⟩],Z,?_⟩⟩⟩;exact h5 _ W3 W' none h1.2 ⟨G.os,G.tape,G.output,G.size,λk hk _=>G.block k hk (by simp)⟩ (λr e=>by cases e)
 refine(callsIn_wide (n:=m)).2 ?_;have ea:(#[.func (.yield l) #[] #[]]++[.pointer (some ⟨I,0,none⟩),.pointer (some ⟨T,0,none⟩)].toArray:Array Value)=[.func (.yield l) #[] #[],.pointer (some ⟨I,0,none⟩),.pointer (some ⟨T,0,none⟩)].toArray:=by simp
 rw[ea];unfold QE at key;refine Calls.mono key λe w' he=>?_;cases e with
 | returned v=>exact⟨⟨v,O⟩,he⟩
 | panicked c=>exact he.elim
 | outgrown=>exact he.elim
def Par (n:Nat)(ed:List Ed):Prop:=∀j:Nat,0<j→j<n→∃e∈ed,e.2.2=(j:Int)∧e.1<(j:Int)
theorem QhC {aa:List QM}{i:Nat}{t:LI}{s E:Sy}{v:Int}(h:Par s.tup.length s.ed)(hi:i<s.tup.length)(e:syE aa i t s v=some E):Par E.tup.length E.ed∧i<E.tup.length:=by
 unfold syE at e;cases hs:Zt v aa t with
 | none=>rw[hs]at e;cases e;exact⟨h,hi⟩
 | some u =>
  rw[hs]at e;simp only[]at e;by_cases hu:u∈s.tup
  ·rw[if_pos hu]at e;cases e
   refine⟨λj G hj=>?_,hi⟩;obtain⟨d,hd,h1⟩:=h j G hj;exact⟨d,LS _ hd,h1⟩
  rw[if_neg hu]at e;split at e
  ·cases e
  cases e
  refine⟨λj G hj=>?_,by simp;omega⟩;simp only[List.length_append,List.length_singleton]at hj;by_cases H:j=s.tup.length
  ·exact⟨((i:Int),v,(s.tup.length:Int)),by simp,by rw[H],by simp only[];omega⟩
  obtain⟨d,hd,h1⟩:=h j G (by omega);exact⟨d,LS _ hd,h1⟩
theorem jC {aa:List QM}{i:Nat}{t:LI}:∀(vs:LI) (s E:Sy),Par s.tup.length s.ed→i<s.tup.length→KK aa i t vs s=some E→Par E.tup.length E.ed
 | [],s,E,h,_,e=>by cases e;exact h
 | v::vs,s,E,h,hi,e=>by
  rw[KK]at e;obtain⟨G,h1,h2⟩:=Mk.1 e;have:=QhC h hi h1;exact jC vs G E this.1 this.2 h2
theorem Qcc {aa:List QM}:∀(f i:Nat) (s E:Sy),Par s.tup.length s.ed→jA aa f i s=some E→Par E.tup.length E.ed
 | 0,i,s,E,h,e=>by cases e;exact h
 | f+1,i,s,E,h,e=>by
  rw[jA]at e;split at e
  ·rename_i hi;obtain⟨G,h1,h2⟩:=Mk.1 e;have ht:(ZC aa i (Ub s i) s).tup=s.tup:=by unfold ZC;split <;> rfl
   have H:(ZC aa i (Ub s i) s).ed=s.ed:=by unfold ZC;split <;> rfl
   refine Qcc f (i+1) G E (jC _ _ G (by rw[ht,H];exact h) (by rw[ht];exact hi) h1) h2
  cases e;exact h
theorem Qey {aa:List QM}{A:QM}{Q:List (LI)}(h:sync aa=some (A,Q)):Par Q.length A.ed:=by
 unfold sync at h;split at h
 ·cases h;intro j _ hj;simp at hj
 obtain⟨s,h1,h2⟩:=MG.1 h;cases h2
 exact Qcc 4096 0 (Un aa) s (λj E hj=>by simp[Un]at hj;omega) h1
def stS (st:List Ed):LI:=st.map (·.1)
def gE (st:List Ed)(k:Nat):Ed:=st.getD k (0,-1,0)
theorem Qf2 {st:List Ed}{k:Nat}(h:k<st.length):st[k]'h=gE st k:=by simp[gE,List.getD,h]
theorem QkG {st:List Ed}{k:Nat}(h:k<st.length):gE st k∈st:=by rw[←Qf2 h];exact Lh h
def JR (pm:Ed→Bool)(i:Nat)(st:List Ed)(e:Ed):List Ed:=if e.2.2∉stS st∧pm e=true then st++[(e.2.2,(i:Int),e.2.1)]else st
def wrd (st:List Ed):Nat→Nat→LI
 | 0,_=>[]
 | f+1,k=>if 0≤(gE st k).2.1 then(gE st k).2.2::wrd st f (gE st k).2.1.toNat else[]
def QdG (wt:Int→Bool)(pm:Ed→Bool)(es:List Ed):Nat→Nat→List Ed→LI×Bool
 | 0,_,_=>([],false)
 | f+1,i,st=>if i<st.length then(if wt (gE st i).1=true then((wrd st (i+1) i).reverse,true)else QdG wt pm es f (i+1) ((ZI es (gE st i).1).foldl (JR pm i) st))else([],false)
def pth (wt:Int→Bool)(pm:Ed→Bool)(es:List Ed)(n from0:Nat):LI×Bool:=QdG wt pm es (n+1) 0 [((from0:Int),-1,-1)]
structure Qb0 (n:Nat)(st:List Ed):Prop where
 nd:(stS st).Nodup
 rg:∀x∈st,0≤x.1∧x.1<(n:Int)
 par:∀k,k<st.length→(gE st k).2.1=-1∨(0≤(gE st k).2.1∧(gE st k).2.1<(k:Int))
theorem Qb0.le {n:Nat}{st:List Ed}(h:Qb0 n st):st.length≤n:=by
 have:=pig n (stS st) h.nd (λx hx=>by
  unfold stS at hx;obtain⟨y,hy,rfl⟩:=Ly.1 hx;exact h.rg y hy)
 simpa[stS]using this
theorem QiC {st:List Ed}{x:Ed}{k:Nat}(h:k<st.length):gE (st++[x]) k=gE st k:=by
 unfold gE;simp[List.getD,List.getElem?_append_left h]
theorem QiD (st:List Ed)(x:Ed):gE (st++[x]) st.length=x:=by
 unfold gE;simp[List.getD]
theorem Qjj {n i:Nat}{pm:Ed→Bool}{st:List Ed}{e:Ed}(h:Qb0 n st)(hi:i<st.length)(he:0≤e.2.2∧e.2.2<(n:Int)):Qb0 n (JR pm i st e)∧i<(JR pm i st e).length:=by
 unfold JR;split
 ·rename_i hc;refine⟨⟨?_,λx hx=>?_,λk hk=>?_⟩,by simp;omega⟩
  ·unfold stS at hc ⊢;rw[Lv];exact JC h.nd hc.1
  ·simp only[List.mem_append,List.mem_singleton]at hx;rcases hx with hx|rfl
   ·exact h.rg x hx
   exact he
  by_cases E:k<st.length
  ·rw[QiC E];exact h.par k E
  have:k=st.length:=by simp at hk;omega
  subst this;rw[QiD];simp only[];omega
 exact⟨h,hi⟩
theorem Qkf {n from0:Nat}(h:from0<n):Qb0 n [((from0:Int),-1,-1)]:=by
 refine⟨by simp[stS],λx hx=>?_,λk hk=>?_⟩
 ·simp at hx;subst hx;simp only[];omega
 simp at hk;subst hk;exact .inl O
theorem QdF {wt:Int→Bool}{pm:Ed→Bool}{es:List Ed}{f i:Nat}{st:List Ed}(h:¬i<st.length):QdG wt pm es f i st=([],false):=by
 cases f with
 | zero=>rfl
 | succ f=>rw[QdG,if_neg h]
abbrev Lf:=List Bool
def lft (l:Lf)(s:Int):Bool:=l.getD s.toNat false
def cut (l:Lf)(s:Int):Lf:=l.set s.toNat false
def J2 (ul:LI)(lf:Lf)(out:List (Int×Int))(e:Ed):List (Int×Int):=
 if lft lf e.1=false∨lft lf e.2.2=true∨e.2.1∉ul then out else if out.getLast?.map (·.1)=some e.1 then out else out++[(e.1,e.2.1)]
def lost (a:QM)(ul:LI)(lf:Lf):List (Int×Int):=a.ed.foldl (J2 ul lf) []
def Ur (lf:Lf)(x:Int)(z:LI×LI)(y:Int):LI×LI:=if lft lf y=true∧cget z.1 y.toNat<0 then(z.1.set y.toNat (cget z.1 x.toNat+1),z.2++[y])else z
def dsL (es:List Ed)(lf:Lf):Nat→Nat→LI×LI→LI×LI
 | 0,_,z=>z
 | f+1,i,z=>if i<z.2.length then dsL es lf f (i+1) ((ZB es (cget z.2 i).toNat).foldl (Ur lf (cget z.2 i)) z)else z
def js (lf:Lf)(z:LI×LI)(x:Int):LI×LI:=if lft lf x=true then(z.1.set x.toNat 0,z.2++[x])else z
def ds0 (a:QM)(lf:Lf):LI×LI:=a.mr.foldl (js lf) (List.replicate a.st.toNat (-1),[])
def dsts (a:QM)(lf:Lf):LI:=(dsL a.ed lf a.st.toNat 0 (ds0 a lf)).1
def JI (lf:Lf):Nat→LI→LI
 | _,[]=>[]
 | i,d::l=>if lf.getD i false=true∧d<0 then(i:Int)::JI lf (i+1) l else JI lf (i+1) l
def nxs (a:QM)(ul:LI)(lf:Lf):LI:=if(lost a ul lf).length≠0 then(lost a ul lf).map (·.1)else JI lf 0 (dsts a lf)
def Uq (a:QM)(ul:LI):Nat→Lf→Lf
 | 0,lf=>lf
 | f+1,lf=>if(nxs a ul lf).length=0 then lf else Uq a ul f ((nxs a ul lf).foldl cut lf)
def lf0 (n:Nat)(fb:LI):Lf:=fb.foldl cut (List.replicate n true)
def Qe4 (a:QM)(fb ul:LI):Lf:=Uq a ul (a.st.toNat+1) (lf0 a.st.toNat fb)
def rstr (a:QM)(lf:Lf):QM:=⟨a.al,a.st,a.mr,a.ed.filter λe=>lft lf e.2.2⟩
def JQ (a:QM)(lf:Lf):QM:=if a.st=0∨lft lf 0=false then⟨a.al,0,[],[]⟩else YK (rstr a lf)
def K8 (a:QM)(fb ul:LI):Int:=if Y6 a≠0 then Y6 a else if YJ a.st none fb≠0 then YJ a.st none fb else YJ 32 none ul
def JX (a:QM)(fb ul:LI):QM:=JQ a (Qe4 a fb ul)
def fbs (s:Spc):LI:=s.fb.map (·.st)
def suE (c:ZE):Int:=YX c
def Va (c:ZE):QM:=JX (spc c).a (fbs (spc c)) (unc c.ev)
def orB (b:Nat)(k:Nat):Nat:=b ||| (1 <<< k)
def rqB (x:Jz):Nat→Nat→List Jz→Nat
 | _,b,[]=>b
 | k,b,y::l=>rqB x (k+1) (if(y.a.al.any λe=>decide (e∈x.a.al))=true then orB b k else b) l
def prB (ls:List (Int×Int)):Nat:=ls.foldl (λb l=>orB b l.1.toNat) 0
def srR (c:ZE):LN:=c.rq.map λx=>rqB x 0 0 c.co
def srX (c:ZE):LN:=c.ex.map λx=>prB x.ls
def srC (c:ZE):LN:=c.cs.map λx=>prB x.ts
def srK (c:ZE)(k:Int):LN:=if k=1 then srR c else if k=2 then srX c else srC c
structure Mdl where
 kd:Int
 ix:Int
 co:LI
def U3 (k:Int):Nat→LN→List Mdl
 | _,[]=>[]
 | i,b::l=>⟨k,i,setK b 8⟩::U3 k (i+1) l
def mods (c:ZE):List Mdl:=U3 1 0 (srR c)++(U3 2 0 (srX c)++U3 3 0 (srC c))
def sets (c:ZE):LN:=srR c++(srX c++srC c)
def Qbe (c:ZE):Nat:=(sets c).foldl (λl b=>l &&& (65535 ^^^ b)) (2 ^ c.co.length - 1)
def rem (c:ZE):LI:=setK (Qbe c) 8
def mdE (c:ZE)(m:Mdl):Int:=if Zi c≠0 then Zi c else if m.kd<1∨3<m.kd then 11 else if m.ix<0∨((srK c m.kd).length:Int)≤m.ix then 10 else if m.co=setK ((srK c m.kd).getD m.ix.toNat 0) 8 then 0 else 13
structure Prt where
 co:LI
 rq:LI
 ex:LI
 cs:LI
def chs (l:List Jz)(ix:LI):List Jz:=ix.map λi=>l.getD i.toNat ⟨.empty,⟨[],0,[],[]⟩⟩
def ixP (co:LI)(ls:List (Int×Int)):List (Int×Int):=ls.map λl=>((co.idxOf l.1:Int),l.2)
def mis (co:LI)(ls:List (Int×Int)):Bool:=ls.any λl=>decide (l.1∉co)
def QhP (c:ZE)(p:Prt):List Exc:=p.ex.map λi=>⟨(c.ex.getD i.toNat ⟨.empty,[]⟩).nm,ixP p.co (c.ex.getD i.toNat ⟨.empty,[]⟩).ls⟩
def QhR (c:ZE)(p:Prt):List Jh:=p.cs.map λi=>⟨(c.cs.getD i.toNat ⟨.empty,[],0⟩).nm,ixP p.co (c.cs.getD i.toNat ⟨.empty,[],0⟩).ts,(c.cs.getD i.toNat ⟨.empty,[],0⟩).bd⟩
def Qdv (c:ZE)(p:Prt):ZE:=⟨c.ev,chs c.co p.co,chs c.rq p.rq,QhP c p,QhR c p⟩
def QlB (c:ZE)(p:Prt):Bool:=(p.ex.any λi=>mis p.co (c.ex.getD i.toNat ⟨.empty,[]⟩).ls) || (p.cs.any λi=>mis p.co (c.cs.getD i.toNat ⟨.empty,[],0⟩).ts)
def yB (c:ZE)(p:Prt):Int :=
 if Zi c≠0 then Zi c else if YJ c.co.length none p.co≠0 then YJ c.co.length none p.co else if YJ c.rq.length none p.rq≠0 then YJ c.rq.length none p.rq else
 if YJ c.ex.length none p.ex≠0 then YJ c.ex.length none p.ex else if YJ c.cs.length none p.cs≠0 then YJ c.cs.length none p.cs else if QlB c p=true then 13 else Zi (Qdv c p)
def prt (m:Mdl):Prt:=⟨m.co,if m.kd=1 then[m.ix]else[],if m.kd=2 then[m.ix]else[],if m.kd≠1∧m.kd≠2 then[m.ix]else[]⟩
def mcE (c:ZE)(m:Mdl):Int:=if mdE c m≠0 then mdE c m else yB c (prt m)
def mcC (c:ZE)(m:Mdl):ZE:=Qdv c (prt m)
def msE (c:ZE)(m:Mdl):Int:=if mcE c m≠0 then mcE c m else suE (mcC c m)
def msA (c:ZE)(m:Mdl):QM:=Va (mcC c m)
def msL (c:ZE):List Mdl→Int
 | []=>0
 | m::l=>if msE c m≠0 then msE c m else msL c l
def K9 (c:ZE):Int:=if Zi c≠0 then Zi c else msL c (mods c)
def XD (c:ZE):List QM:=(mods c).map (msA c)++(rem c).map λi=>(c.co.getD i.toNat ⟨.empty,⟨[],0,[],[]⟩⟩).a
def XW (l:List QM):Int:=if JM l≠0 then JM l else match sync l with|none=>3|some _=>0
def YU (c:ZE):Int:=if K9 c≠0 then K9 c else XW (XD c)
def Xg (c:ZE):QM:=syA (XD c)
def tgQ (c:ZE):List (LI):=syQ (XD c)
def ownr (c:ZE)(v:Int):LI:=ixs (λx:Jz=>decide (v∈x.a.al)) 0 c.co
def shd (c:ZE):LI→Option (Int×Int×Int)
 | []=>none
 | v::l=>if 2≤(ownr c v).length then some (v,cget (ownr c v) 0,cget (ownr c v) 1)else shd c l
def UO (c:ZE):Option (Int×Int×Int):=shd c (Kw c.ev.length)
abbrev QT (p:Int×Int):LV:=[.int .i64 p.1,.int .i64 p.2]
theorem YM (p:Int×Int):(QT p).length=2:=rfl
abbrev P2s (L:LN)(H:Array Obj)(v:Value)(l:List (Int×Int)):Prop:=Zv L H v l.length 2 (l.flatMap QT)
abbrev Zo (e:K5):LV:=[.string e.nm,.bool e.co,.bool e.ob,.bool e.fo,.int .i64 e.fl]
theorem jd (e:K5):(Zo e).length=5:=rfl
abbrev zi (s:ByteArray):Prop:=s.size≤9223372036854775807
structure KX (L:LN)(H:Array Obj)(v:Value)(l:List K5):Prop where
 arr:Zv L H v l.length 5 (l.flatMap Zo)
 nm:∀e∈l,zi e.nm
theorem KX.ext {L:LN}{w w':World}{v:Value}{l:List K5}(h:KX L w.heap v l)(hs:Step [] w w'):KX L w'.heap v l:=⟨h.arr.ext hs,h.nm⟩
theorem KX.st {L:LN}{w w':World}{v:Value}{l:List K5}(h:KX L w.heap v l)(hs:Step L w w'):KX L w'.heap v l:=⟨h.arr.st hs,h.nm⟩
theorem KX.up {L L':LN}{H:Array Obj}{v:Value}{l:List K5}(h:KX L H v l)(E:∀b∈L',b∈L∨H.size≤b):KX L' H v l:=⟨h.arr.up E,h.nm⟩
structure IV where
 nm:ByteArray
 p:AV
def IV.it (q:IV):Jz:=⟨q.nm,q.p.a⟩
abbrev Zm (q:IV):LV:=[.string q.nm,q.p.va,.int .i64 q.p.a.st,q.p.vm,q.p.ve]
theorem YZ (q:IV):(Zm q).length=5:=rfl
structure Xt (L:LN)(H:Array Obj)(v:Value)(qs:List IV):Prop where
 arr:Zv L H v qs.length 5 (qs.flatMap Zm)
 each:∀q∈qs,Zq L H q.p.va q.p.vm q.p.ve q.p.a
 nm:∀q∈qs,zi q.nm
structure XV where
 nm:ByteArray
 v:Value
 ls:List (Int×Int)
def XV.x (q:XV):Exc:=⟨q.nm,q.ls⟩
abbrev Zu (q:XV):LV:=[.string q.nm,q.v]
theorem JT (q:XV):(Zu q).length=2:=rfl
structure ym (L:LN)(H:Array Obj)(v:Value)(qs:List XV):Prop where
 arr:Zv L H v qs.length 2 (qs.flatMap Zu)
 each:∀q∈qs,P2s L H q.v q.ls
 nm:∀q∈qs,zi q.nm
structure KV where
 nm:ByteArray
 v:Value
 ts:List (Int×Int)
 bd:Int
def KV.k (q:KV):Jh:=⟨q.nm,q.ts,q.bd⟩
abbrev ZA (q:KV):LV:=[.string q.nm,q.v,.int .i64 q.bd]
theorem JE (q:KV):(ZA q).length=3:=rfl
structure zc (L:LN)(H:Array Obj)(v:Value)(qs:List KV):Prop where
 arr:Zv L H v qs.length 3 (qs.flatMap ZA)
 each:∀q∈qs,P2s L H q.v q.ts
 nm:∀q∈qs,zi q.nm
theorem Xt.ext {L:LN}{w w':World}{v:Value}{qs:List IV}(h:Xt L w.heap v qs)(hs:Step [] w w'):Xt L w'.heap v qs:=⟨h.arr.ext hs,λq hq=>(h.each q hq).ext hs,h.nm⟩
theorem Xt.st {L:LN}{w w':World}{v:Value}{qs:List IV}(h:Xt L w.heap v qs)(hs:Step L w w'):Xt L w'.heap v qs:=⟨h.arr.st hs,λq hq=>(h.each q hq).st hs,h.nm⟩
theorem Xt.up {L L':LN}{H:Array Obj}{v:Value}{qs:List IV}(h:Xt L H v qs)(E:∀b∈L',b∈L∨H.size≤b):Xt L' H v qs:=⟨h.arr.up E,λq hq=>(h.each q hq).up E,h.nm⟩
theorem ym.ext {L:LN}{w w':World}{v:Value}{qs:List XV}(h:ym L w.heap v qs)(hs:Step [] w w'):ym L w'.heap v qs:=⟨h.arr.ext hs,λq hq=>(h.each q hq).ext hs,h.nm⟩
theorem ym.st {L:LN}{w w':World}{v:Value}{qs:List XV}(h:ym L w.heap v qs)(hs:Step L w w'):ym L w'.heap v qs:=⟨h.arr.st hs,λq hq=>(h.each q hq).st hs,h.nm⟩
theorem ym.up {L L':LN}{H:Array Obj}{v:Value}{qs:List XV}(h:ym L H v qs)(E:∀b∈L',b∈L∨H.size≤b):ym L' H v qs:=⟨h.arr.up E,λq hq=>(h.each q hq).up E,h.nm⟩
theorem zc.ext {L:LN}{w w':World}{v:Value}{qs:List KV}(h:zc L w.heap v qs)(hs:Step [] w w'):zc L w'.heap v qs:=⟨h.arr.ext hs,λq hq=>(h.each q hq).ext hs,h.nm⟩
theorem zc.st {L:LN}{w w':World}{v:Value}{qs:List KV}(h:zc L w.heap v qs)(hs:Step L w w'):zc L w'.heap v qs:=⟨h.arr.st hs,λq hq=>(h.each q hq).st hs,h.nm⟩
theorem zc.up {L L':LN}{H:Array Obj}{v:Value}{qs:List KV}(h:zc L H v qs)(E:∀b∈L',b∈L∨H.size≤b):zc L' H v qs:=⟨h.arr.up E,λq hq=>(h.each q hq).up E,h.nm⟩
structure CL where
 ve:Value
 vc:Value
 vr:Value
 vx:Value
 vk:Value
 ev:List K5
 co:List IV
 rq:List IV
 ex:List XV
 cs:List KV
def CL.cel (c:CL):ZE:=⟨c.ev,c.co.map (·.it),c.rq.map (·.it),c.ex.map (·.x),c.cs.map (·.k)⟩
abbrev CL.cells (c:CL):LV:=[c.ve,c.vc,c.vr,c.vx,c.vk]
abbrev CL.val (c:CL):Value:=.agg #[c.ve,c.vc,c.vr,c.vx,c.vk]
structure ZH (L:LN)(H:Array Obj)(c:CL):Prop where
 ev:KX L H c.ve c.ev
 co:Xt L H c.vc c.co
 rq:Xt L H c.vr c.rq
 ex:ym L H c.vx c.ex
 cs:zc L H c.vk c.cs
theorem ZH.ext {L:LN}{w w':World}{c:CL}(h:ZH L w.heap c)(hs:Step [] w w'):ZH L w'.heap c:=⟨h.ev.ext hs,h.co.ext hs,h.rq.ext hs,h.ex.ext hs,h.cs.ext hs⟩
theorem ZH.st {L:LN}{w w':World}{c:CL}(h:ZH L w.heap c)(hs:Step L w w'):ZH L w'.heap c:=⟨h.ev.st hs,h.co.st hs,h.rq.st hs,h.ex.st hs,h.cs.st hs⟩
theorem ZH.up {L L':LN}{H:Array Obj}{c:CL}(h:ZH L H c)(E:∀b∈L',b∈L∨H.size≤b):ZH L' H c:=⟨h.ev.up E,h.co.up E,h.rq.up E,h.ex.up E,h.cs.up E⟩
theorem ZH.ones {L:LN}{H:Array Obj}{c:CL}(h:ZH L H c):ZF c.cells:=⟨h.ev.arr.one,h.co.arr.one,h.rq.arr.one,h.ex.arr.one,h.cs.arr.one,Z⟩
def Qjv (N:Nat)(H:Array Obj)(v:Value)(k:ZE):Prop:=∃c:CL,v=c.val∧c.cel=k∧∀L:LN,(∀b∈L,b<N)→ZH L H c
end Go.Proofs.YtjcgijbhaemldaaGreatDoor
