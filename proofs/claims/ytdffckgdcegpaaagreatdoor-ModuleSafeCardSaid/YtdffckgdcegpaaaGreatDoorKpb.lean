/- Merged out of 56 texts. -/
import Derived.Test.YtdffckgdcegpaaaGreatDoorKpa
import Derived.Laws.Strings
import Derived.RangeFuncNested
import Derived.RangeFuncLeaves
import Derived.RangeFuncCalls
import Derived.OrdersIn
import Derived.TacticsIn
namespace Go.Proofs.YtdffckgdcegpaaaGreatDoor
open Go.Proofs.Tryz
open Go.Lg
theorem QnI {α:Type}(o:Option α):o=none∨∃t,o=some t:=by cases o;exact .inl O;exact .inr ⟨_,O⟩
def zA:Value:=.agg #[nS,.int .i64 0,nS,nS]
def Zg:Value:=nS
def Yb (N:Nat) (H:Array Obj) (aa:List QN) (va vt:Value) (c:Int):Prop :=
 if KB aa≠0 then c=KB aa∧va=zA∧vt=Zg else match sync aa with
  | none=>c=3∧va=zA∧vt=Zg
  | some z=>c=0∧Y0 N H va z.1∧Qa4 N H vt z.2
def Yr (s:Sy) (u:LI):Sy:=if u∈s.tup then s else ⟨s.tup++[u],s.mk',s.ed⟩
theorem Qfp (s:Sy) (u:LI):(Yr s u).mk'=s.mk':=by unfold Yr;split <;> rfl
theorem Qfq (s:Sy) (u:LI):(Yr s u).ed=s.ed:=by unfold Yr;split <;> rfl
theorem Qiz {aa:List QN}{i:Nat}{t u:LI}{s:Sy}{v:Int}(h:Zl v aa t=some u) (hl:u∈s.tup∨s.tup.length≠4096) :
  syE aa i t s v=some ⟨(Yr s u).tup,(Yr s u).mk',(Yr s u).ed++[((i:Int),v,((Yr s u).tup.idxOf u:Int))]⟩:=by
 unfold syE Yr;rw[h];simp only[];by_cases hu:u∈s.tup
 ·simp only[if_pos hu]
 simp only[if_neg hu];rw[if_neg (by rcases hl with h1 | h1;exact absurd h1 hu;exact h1),Mi,if_neg hu];simp
theorem Qfo {aa:List QN}{i:Nat}{t u:LI}{s:Sy}{v:Int}(h:Zl v aa t=some u) (hu:u∉s.tup) (hl:s.tup.length=4096):syE aa i t s v=none:=by
 unfold syE;rw[h];simp only[];rw[if_neg hu,if_pos hl]
theorem Qfm {aa:List QN}{i:Nat}{t:LI}{s:Sy}{v:Int}(h:Zl v aa t=none):syE aa i t s v=some s:=by
 unfold syE;rw[h]
theorem QmC {s:Sy}{qs:List TV}{i:Nat}(hq:qs.map (·.2)=s.tup) (h:i<qs.length):Uj s i=qs[i].2:=by
 unfold Uj;rw[←hq];simp[List.getD,h]
theorem Vt.bd {aa:List QN}{t:LI}(h:Vt aa t) {m:Int}(hm:∀a∈aa,a.st≤m):∀x∈t,0≤x∧x<m:=by
 intro x hx;obtain ⟨i,hi,rfl⟩:=LD hx;have E:i<aa.length:=by rw[←h.1];exact hi
 have:=h.2 i hi E;have:=hm aa[i] (Lc E);omega
set_option maxHeartbeats 20000000 in
theorem zd {L:LN}{w:World}{vl:Value}{ps:List AV}{km:Int}(h:XM L w.heap vl ps) (gn:Kb w km) (kf:0<km) (m2:∀p∈ps,p.a.st≤km) :
  QK prog 69 [vl] w λr w'=>Step [] w w'∧∃va vt c,r=.tuple #[va,vt,.int .i64 c]∧Yb w.heap.size w'.heap (ps.map (·.a)) va vt c:=by
 refine QK.of_W func69 O ntmps69 results69 (by simp) ?_;generalize J:ps.map (·.a)=aa;refine Qc<|xl O<|Qt (us:=[nS,.int .i64 0,nS,nS]) O λH w1 hB hC go=>x Qg<|Qe ?_;have hz1:=hB.size;have hl2:=go.lt;refine Qf<|Qc<|Qb<|xl O<|xf<|(Qec (h.ext hB)).mono ?_;rintro r2 w2 ⟨rfl,ho⟩;refine Qe ?_;rw[J];refine Qc<|Qb<|x (Q9 O O)<|xe<|Q7 rfl (λhw=>?_) (λhw=>?_)
 ·refine Qc<|x (QD U)<|Qb<|xl O<|Qo (us:=[nS,.int .i64 0,nS,nS]) (go.ext ho) O O O O ⟨O,O,O,O,U⟩ λw3 m3 m6=>x Qg<|Qe<|Qn ⟨[zA,Zg,.int .i64 (KB aa)],⟨⟨_,O,Qv O (m6.at (L:=[]) (by simp)).cells⟩,rfl,rfl,U⟩,(hB.trans ho).then1 m3 hC,zA,Zg,KB aa,rfl,?_⟩;unfold Yb;rw[if_pos hw];exact ⟨O,O,O⟩
 have hq:KB aa=0:=Ls.1 hw;have hn:ps.length≤12:=by
  unfold KB at hq;split at hq
  ·cases hq
  rename_i h1;rw[←J] at h1;simp at h1;exact h1
 have hD:∀a∈aa,Q2 a:=by
  unfold KB at hq;split at hq
  ·cases hq
  exact (VM aa).1 hq
 have hV:∀p∈ps,Q2 p.a:=λp hp=>hD p.a (by rw[←J];exact LK hp);have m7:∀p∈ps,p.a.al.length≤32:=λp hp=>(hV p hp).al_le;have m8:∀a∈aa,a.st≤km:=λa ha=>by rw[←J] at ha;obtain ⟨p,hp,rfl⟩:=Lp.1 ha;exact m2 p hp
 have hE:aa.length=ps.length:=by rw[←J];simp
 refine Qi<|Qc<|Qb<|xl O<|xf<|(Qi1 (L:=[H]) (((h.up (λb hb=>.inr (by simp at hb;omega))).ext hB).ext ho) hn m7 (λb hb=>by simp at hb;have:=ho.size;omega)).mono ?_;rintro r4 w4 ⟨gp,ve,vs,ms,rfl,kg,hl⟩;rw[J] at hl;have m9:=h.arr.one;have hel:=jr aa (λa ha=>(hD a ha).al_le);have hevl:(evs aa).length≤1000:=by omega
 have hW:=Qu.ints (L:=[]) hl (by omega) (by simp);refine xl rfl<|Qt (us:=[nS,nS,nS]) O λb6 w5 pa pc hF=>xl O<|Qo (us:=[vl,ve,vs]) hF O O O O ⟨m9,hW.one,kg.sl.one,U⟩ λw6 pd hF=>xe ?_;have hG:Step [] w4 w6:=pa.then1 pd pc;have hz2:=ho.size;have hz4:=gp.size;have hz6:=hG.size;have hl6:=hF.lt;refine Qc ?_;have pf:=((go.ext ho).ext gp).ext hG
 refine x (Qa O)<|x (Qd hF O O)<|x (Qa O)<|xl O<|QF pf O O (by simp) hW.one λw7 hH pg=>xe ?_;have hz7:=hH.size;have gq:Step [] w w7:=((((hB.trans ho).trans gp).trans hG).then1 hH hC);have kh:Kn [H] w7.heap vl ve vs ps ms:=(kg.ext hG).st hH;have ki:Qu 3 w2.heap.size w7 ve (evs aa):=Qj (Qq hl hG) hH (λb hb=>by have:=(Qm hl b hb).1;simp;omega)
 have kj:=hF.step hH (by simp;omega);refine Qc<|x (Qr kj O O)<|xl O<|xf<|(QbY kh hn).mono ?_;rintro r8 w8 ⟨hh,hX⟩;have hz8:=hh.size;have gr:=pg.ext hh;have hY:(∃p∈ps,p.a.st=0)↔(∃a∈aa,a.st=0):=by
  rw[←J];constructor
  ·rintro ⟨p,hp,h0⟩;exact ⟨p.a,LK hp,h0⟩
  rintro ⟨a,ha,h0⟩;obtain ⟨p,hp,rfl⟩:=Lp.1 ha;exact ⟨p,hp,h0⟩
 by_cases hz:∃p∈ps,p.a.st=0
 ·rw[if_pos hz] at hX;subst hX;refine Qb<|x (Qk O O)<|x (Qk O O)<|x Qg<|Qe<|Qf<|Qc<|Qb<|x (Zm O)<|xe<|zc O ?_;refine Qc<|x (Qr gr O O)<|xl O<|Qo (us:=[ve,.int .i64 0,nS,nS]) gr O O O O ⟨hW.one,O,O,O,U⟩ λw9 kk ph=>x Qg<|Qe<|Qn ⟨[.agg #[ve,.int .i64 0,nS,nS],Zg,.int .i64 0],⟨⟨_,O,Qv O (ph.at (L:=[]) (by simp)).cells⟩,rfl,rfl,U⟩,(gq.trans hh).then1 kk hC,_,Zg,0,rfl,?_⟩
  unfold Yb;rw[if_neg hw];unfold sync;rw[if_pos (hY.1 hz)];have pj:=Qj (Qq ki hh) kk (λb hb=>by have:=(Qm hl b hb).1;simp;omega);refine ⟨O,⟨ve,_,_,O,λL' hk=>⟨Qu.ints pj (by show (evs aa).length≤_;omega) (λb hb=>by have:=hk b hb;omega),Zs.nil _ _ _,Zs.nil _ _ _⟩⟩,[],O,λL' hk=>⟨Zs.nil _ _ _,λp hp=>by cases hp⟩⟩
 rw[if_neg hz] at hX;obtain ⟨vf,rfl,gs⟩:=hX;have kn:=Qu.ints (L:=[]) gs (by simp;omega) (by simp);refine Qb<|x (Qk O O)<|x (Qk O O)<|x Qg<|Qe<|Qf<|Qc<|Qb<|x (Zm O)<|xe<|ZM rfl ?_;refine Qi<|Qc<|Qb<|xl O<|QC (us:=[[vf]]) O O (by decide) (by simp) ⟨kn.cells,rfl,U⟩ λS w10 hZ hb37 ko=>Qe ?_;have hz10:=hZ.size;have hl37:=ko.lt;refine Qc<|xl O<|YB XG λhe w11 hJ hb38 kp=>?_
 have hz11:=hJ.size;have hl38:=kp.lt;refine Qb<|xl O<|xf<|(jg ((kn.ext hZ).ext hJ) (gn.ext ((gq.trans hh).trans (hZ.trans hJ))) (λn hn=>by have:=Nk hn;omega) (by simp;omega)).mono ?_;rintro r12 pm ⟨rfl,ga⟩;have hz12:=ga.size;refine xl rfl<|Xc (k:=JW (List.replicate ps.length 0)) (kp.ext ga) O O λwS gt pn=>Qb<|Qe ?_;have hzS:=gt.size
 have po:Step [] w8 pm:=(hZ.trans hJ).trans ga;have h5:Step [] w8 wS:=po.then1 gt (by omega);have hK:Step [] w wS:=(gq.trans hh).trans h5;have hzWS:=hK.size;have pp:∀b∈[H,he,S],b∈[H]∨w8.heap.size≤b:=λb hb=>by
  simp only[List.mem_cons,List.not_mem_nil,or_false] at hb;rcases hb with rfl | rfl | rfl
  ·exact .inl (by simp)
  ·exact .inr (by omega)
  exact .inr (by omega)
 have gu:Kn [H,he,S] wS.heap vl ve vs ps ms:=((kh.ext hh).up pp).ext h5;have gv:QZ wS.heap b6 243 [vl,ve,vs]:=(kj.ext hh).ext h5;have pt:Qu 3 w2.heap.size wS ve (evs aa):=Qq (Qq ki hh) h5;have pu:=QR hl;have pw:=Qm gs;have hL:SyN w1.heap.size H he S wS:=⟨by omega,by omega,by omega,by omega,by omega,by omega⟩
 have pz:yq w1.heap.size H he S ve wS (U6 aa) (mput [] (JW (List.replicate ps.length 0)) (.int .i64 0)) [(vf,List.replicate ps.length 0)] (.slice (some ⟨S,0,none⟩) 1 1) Zg Zg wS:=by
  refine ⟨Step.refl _ _,gr.ext h5,pn,?_,λb hb=>by simp[ob] at hb;exact .inl hb,QP _ _ _ _,QP _ _ _ _,by simp[U6,hE],λp hp=>?_,λp hp b hb=>?_,Dj.nil' _,Dj.nil' _,Dj.nil' _⟩
  ·exact (((ko.ext hJ).ext ga).step gt (by simp;omega)).own (n:=1) (sz:=1) O (by omega) (by omega)
  ·simp only[List.mem_singleton] at hp;subst hp;exact Zr (Qq gs h5) (by omega)
  simp only[List.mem_singleton] at hp;subst hp;have:=pw b hb;refine ⟨by omega,?_,by simp[ob,Zg],by simp[ob,Zg]⟩;simp[ob];omega
 have p0:Ug ps.length (mput [] (JW (List.replicate ps.length 0)) (.int .i64 0)) (U6 aa).tup:=by
  have kf:Ug ps.length [] []:=λu _ _=>O;have:=kf.add (u:=List.replicate ps.length 0) (by simp) (λx hx=>by have:=Nk hx;omega);simpa[U6,hE] using this
 have p1:Uf aa (U6 aa):=by
  refine ⟨λt ht=>?_,by simp[U6]⟩;simp only[U6,List.mem_singleton] at ht;subst ht;refine ⟨by simp,λi h1 h2=>?_⟩;have h3:=(hD aa[i] (Lc h2)).st0;have h4:aa[i].st≠0:=λe=>hz (hY.2 ⟨aa[i],Lc h2,e⟩);simp only[List.getElem_replicate];omega
 generalize hT:jQ aa 4096 0 (U6 aa)=T;have p2:∀s,T=some s→sync aa=some (⟨evs aa,s.tup.length,s.mk',s.ed⟩,s.tup):=λs hs=>by
  unfold sync;rw[if_neg (λe=>hz (hY.2 e)),hT,hs];rfl
 have p3:T=none→sync aa=none:=λhs=>by unfold sync;rw[if_neg (λe=>hz (hY.2 e)),hT,hs];rfl
 refine Qf<|Qc<|Qe ?_;have gw:b6∉[H,he,S]:=by simp;omega
 refine Qh<|QA (α:=Nat×Sy×List (ByteArray×Value)×List TV×Value×Value×Value) [(3,4),(10,10),(12,16),(42,111)] (λz=>[(3,z.2.2.2.2.1),(10,.int .i64 z.1)])
  (λz w'=>yq w1.heap.size H he S ve wS z.2.1 z.2.2.1 z.2.2.2.1 z.2.2.2.2.1 z.2.2.2.2.2.1 z.2.2.2.2.2.2 w'∧Uf aa z.2.1∧Ug ps.length z.2.2.1 z.2.1.tup∧z.1≤z.2.1.tup.length∧z.2.1.mk'.length≤z.1∧z.2.1.ed.length≤z.1*1000∧jQ aa (4096 - z.1) z.1 z.2.1=T)
  (λz=>4096 - z.1) (by rfl) (0,U6 aa,_,_,_,Zg,Zg) ⟨O,O,U⟩ ⟨pz,p1,p0,Ll _,Ll _,Ll _,hT⟩ ?_
 rintro ⟨i,s,m,qs,vt,vk,vd⟩ g hM ⟨G,gb,kq,hi,p4,kr,gx⟩;simp only[] at G gb kq hi p4 kr gx;have hle:=gb.le;have p5:qs.length=s.tup.length:=by rw[←G.q];simp
 have kt:∀p∈qs,Vt aa p.2:=λp hp=>gb.v p.2 (by rw[←G.q];exact LK hp);have ku:∀p∈qs,p.2.length≤12:=λp hp=>by have:=(kt p hp).1;omega
 have gy:=QU (L:=[]) G.t (by omega) (by simp);refine Qf<|Qc<|Qb<|Qb<|x (Qs gy O)<|x (QB O O)<|xe<|QG rfl (λp6=>?_) (λp6=>?_)
 ·have p7:T=some s:=by rw[←gx,Qfj (by omega)]
  refine Qz<|Qc<|Qb<|x (Qs gy O)<|x (Qa O)<|xl O<|QF G.A O O (by simp) rfl λw15 p8 kv=>xe ?_;refine Qc ?_;have p9:=Qu.ints (L:=[]) G.k (by omega) (by simp);have qc:=Z8.eds (L:=[]) G.e (by omega) (by simp);refine x (Qr kv O O)<|Qb<|xl O<|Qo (us:=[ve,.int .i64 qs.length,vk,vd]) kv O O O O ⟨hW.one,O,p9.one,qc.one,U⟩ λgz qf ql=>x Qg<|Qe ?_
  have h6:Step [H] hM gz:=p8.trans' qf;have qo:Step [] w gz:=(hK.then G.st (λb hb=>.inr (by simp at hb;omega))).then1 h6 hC;refine Qn ⟨[.agg #[ve,.int .i64 qs.length,vk,vd],vt,.int .i64 0],⟨⟨_,O,Qv O (ql.at (L:=[]) (by simp)).cells⟩,rfl,rfl,U⟩,qo,_,vt,0,rfl,?_⟩;unfold Yb;rw[if_neg hw,p2 s p7];have e1:(qs.length:Int)=s.tup.length:=by rw[p5]
  have k0:Qu 3 w2.heap.size gz ve (evs aa):=Qj (Qj pt G.st (λb hb=>by have:=(Qm hl b hb).1;have:=pu b hb;simp;omega)) h6 (λb hb=>by have:=(Qm hl b hb).1;simp;omega);have k1:=Qj G.k h6 (λb hb=>by have:=(Qm G.k b hb).1;simp;omega);have k2:=Qj G.e h6 (λb hb=>by have:=(Qm G.e b hb).1;simp;omega);have k3:=Qj G.t h6 (λb hb=>by have:=(Qm G.t b hb).1;simp;omega)
  refine ⟨O,⟨ve,vk,vd,by rw[e1],λL' hk=>⟨Qu.ints k0 (by show (evs aa).length≤_;omega) (λb hb=>by have:=hk b hb;omega),Qu.ints k1 (by show s.mk'.length≤_;omega) (λb hb=>by have:=hk b hb;omega),Z8.eds k2 (by show s.ed.length≤_;omega) (λb hb=>by have:=hk b hb;omega)⟩⟩,qs,G.q,λL' hk=>⟨?_,λp hp=>?_⟩⟩
  ·exact QU k3 (by omega) (λb hb qr=>by have:=(Qm G.t b hb).1;have:=hk b qr;omega)
  exact Qu.ints (Qj (G.el p hp) h6 (λb hb=>by have:=(Qm (G.el p hp) b hb).1;simp;omega)) (by have:=ku p hp;omega) (λb hb=>by have:=hk b hb;omega)
 have q0:i<s.tup.length:=by omega
 have V:i<qs.length:=by omega
 have kw:=QmC G.q V;have h7:=kt (qs[i]'V) (Lc V);obtain ⟨t,g0⟩:∃t,(qs[i]'V).2=t:=⟨_,O⟩;rw[g0] at kw h7;refine Qi ?_;have q1:(KO aa i t (evs aa) (ZA aa i t s)).bind (jQ aa (4096 - (i+1)) (i+1))=T:=by
  rw[←gx];obtain ⟨f,hf⟩:∃f,4096 - i=f+1:=⟨4096 - i - 1,by omega⟩;rw[hf,jQ,if_pos q0,kw,show 4096 - (i+1)=f by omega]
 have q2:=gu.st G.st;have q3:Kn [] hM.heap vl ve vs ps ms:=q2.up (λ_ hb=>by cases hb);have q4:=gv.step G.st gw;have q5:QL [] hM.heap (qs[i]'V).1 t:=by rw[←g0];exact Qu.ints (G.el (qs[i]'V) (Lc V)) (by have:=ku (qs[i]'V) (Lc V);omega) (by simp)
 refine Qf<|Qh<|QT (α:=Value) [(48,59)] (λz=>[]) (λz w'=>yq w1.heap.size H he S ve wS (ZA aa i t s) m qs vt z vd w') (by rfl) ?_ ?_
 ·refine Qf<|QW (Step [] hM) [(0,true),(1,true),(2,true),(3,true),(4,true),(5,false)] mixed (by rfl) (by kernel_rfl) (Step.drew _ _) ?_;refine pq (λ_ hc=>Qr (q4.ext hc) O O)<|p (λ_=>Qp)<|p (λ_=>Qp)<|pig O KN gy O O V λa51 za =>
   pq (λ_ hc=>Qw (za.ext hc) O)<|pk<|xf<|(Qej (q3.ext (Step.drew _ _)) (q5.ext (Step.drew _ _)) (by rw[h7.1,hE]) (λp hp=>(hV p hp).mri) hn).mono ?_
  rintro r17 w17 ⟨rfl,zv⟩;have kx:=(Step.drew [] hM).trans zv;refine ⟨kx,?_⟩;refine pe ?_;have g2:=G.ext kx;refine Q3 O (λhN=>?_) (λhN=>?_)
  rotate_left
  ·refine Qi<|⟨vk,U,?_⟩;rw[J] at hN;unfold ZA;rw[if_neg (by rw[hN];simp)];exact g2
  refine Qy<|x (Qa O)<|x (Qd g2.A O O)<|Qb<|xl O<|QC (us:=[[.int .i64 i]]) O O (by decide) (by simp) ⟨rfl,rfl,U⟩ λb57 w18 z0 hb57 z1=>?_;have hO:=g2.ext z0;refine xl O<|Q5 (news:=[.int .i64 i]) (L:=[]) hO.k O O O (z1.at (by simp)) (by simp[Value.oneCell']) (by omega) hO.st.size λky z2 z3 kz z4=>?_;have k4:Qu 3 wS.heap.size z2 ky (s.mk'++[(i:Int)]):=Qu.snoc z3
  refine x (Qa O)<|xl O<|QF (hO.A.step kz (QM hO.k (by omega))) O O (by simp) (Qu.ints (L:=[]) k4 (by simp;omega) (by simp)).one λw20 z5 z9=>xe ?_;refine ⟨ky,U,?_⟩;rw[J] at hN;unfold ZA;rw[if_pos hN];exact hO.setK hL kz k4 z4 z5 z9
 rintro gc g3 w21 k5;have hsk2:Uf aa (ZA aa i t s):=zG gb;have htup2:(ZA aa i t s).tup=s.tup:=by unfold ZA;split <;> rfl
 have hed2:(ZA aa i t s).ed=s.ed:=by unfold ZA;split <;> rfl
 have hmk2:(ZA aa i t s).mk'.length≤i+1:=by
  unfold ZA;split
  ·simp only[List.length_append,List.length_singleton];omega
  omega
 have k6:QL [H,he,S] wS.heap ve (evs aa):=by have:=gu.ev;rw[J] at this;exact this
 refine Qc<|x (Qa O)<|x (Qd (gv.step k5.st gw) O O)<|x (Qs k6 O)<|Qb<|xe<|Qh<|QA (α:=Nat×Sy×List (ByteArray×Value)×List TV×Value×Value) [(3,4),(12,16),(63,111)] (λz=>[(3,z.2.2.2.2.1),(63,.int .i64 z.1)])
  (λz w'=>yq w1.heap.size H he S ve wS z.2.1 z.2.2.1 z.2.2.2.1 z.2.2.2.2.1 gc z.2.2.2.2.2 w'∧Uf aa z.2.1∧Ug ps.length z.2.2.1 z.2.1.tup∧z.1≤(evs aa).length∧z.2.1.mk'=(ZA aa i t s).mk'∧z.2.1.ed.length≤i*1000+z.1 ∧
   (∃h:i<z.2.2.2.1.length,(z.2.2.2.1[i]'h).2=t)∧(KO aa i t ((evs aa).drop z.1) z.2.1).bind (jQ aa (4096 - (i+1)) (i+1))=T)
  (λz=>(evs aa).length - z.1) (by rfl) (0,ZA aa i t s,m,qs,vt,vd) ⟨O,O,U⟩
  ⟨k5,hsk2,by rw[htup2];exact kq,Ll _,O,by rw[hed2];simpa using kr,⟨V,g0⟩,q1⟩ ?_
 rintro ⟨j,E,m4,hg,ge,gg⟩ g4 h8 ⟨I,hP,hr,hj,gh,k7,⟨hm,h9⟩,Y⟩;simp only[] at I hP hr hj gh k7 Y hm h9;have k8:hg.length=E.tup.length:=by rw[←I.q];simp
 have hle4:=hP.le;refine Qc<|x (QB O O)<|xe<|Qf<|QG O (λh64=>?_) (λh64=>?_)
 ·rw[Lr (by omega),KO] at Y;refine Qz<|Qy<|Qb<|QO O O<|Qe<|⟨(i+1,E,m4,hg,ge,gc,gg),by simp only[];omega,⟨O,O,U⟩,I,hP,hr,by simp only[];omega,by simp only[];rw[gh];exact hmk2,by simp only[];omega,Y⟩
 have gi:j<(evs aa).length:=by omega
 rw[QX gi,KO] at Y;obtain ⟨v,k9⟩:∃v,(evs aa)[j]=v:=⟨_,O⟩;rw[k9] at Y;refine Qi<|Qf<|Qh<|Qc ?_;have hveI4:=k6.st I.st;refine xii hveI4 O O gi λa65 ma=>?_;rw[k9] at ma;refine x (Qw ma O)<|Qe ?_;have hM22:=(gu.st I.st).up (L':=[]) (λ_ hb=>by cases hb);have hB622:=gv.step I.st gw;have htA4:=QU (L:=[]) I.t (by omega) (by simp)
 have htI4:QL [] h8.heap (hg[i]'hm).1 t:=by rw[←h9];exact Qu.ints (I.el (hg[i]'hm) (Lc hm)) (by rw[h9,h7.1];omega) (by simp)
 refine Qf<|QW (Step [] h8) [(0,true),(1,true),(2,true),(3,true),(4,true),(5,true),(6,false),(7,true),(8,true),(9,true),(10,true),(11,true)] mixed (by rfl) (by kernel_rfl) (Step.drew _ _) ?_;refine pq (λ_ hc=>Qr (hB622.ext hc) O O)<|p (λ_=>Qp)<|p (λ_=>Qp)<|pig O KN htA4 O O hm λa71 h71 =>
  pq (λ_ hc=>Qw (h71.ext hc) O)<|p (λ_=>Qp)<|pk<|xf<|(QfX (hM22.ext (Step.drew _ _)) (htI4.ext (Step.drew _ _)) (by rw[h7.1,hE]) (λp hp=>(hV p hp).ali) (λp hp=>(hV p hp).edi) hn _).mono ?_
 rintro r23 w23 ⟨hs23,hQ⟩;rw[J] at hQ;have g5:=(Step.drew [] h8).trans hs23;refine ⟨g5,?_⟩;have hR:=I.ext g5;have hz23:=g5.size;have hz22:=I.st.size;rcases QnI (Zl v aa t) with hv | ⟨u,hv⟩
 ·rw[hv] at hQ;subst hQ;rw[Qfm hv] at Y;refine p (λ_=>Qp)<|p (λ_=>Qk O O)<|p (λ_=>Qk O O)<|p (λ_=>Qg)<|p (λ_=>Qg)<|pe ?_;refine Qf<|Qc<|Qb<|x (Zm O)<|xe<|zc O ?_;refine Qz<|Qy<|QO O O<|Qb<|xe ?_;exact ⟨(j+1,E,m4,hg,ge,gg),by simp only[];omega,⟨O,O,U⟩,hR,hP,hr,gi,gh,by simp only[];omega,⟨hm,h9⟩,Y⟩
 rw[hv] at hQ;obtain ⟨vx,rfl,g8⟩:=hQ;have mc:=Y9 hD h7 hv;have mf:u.length=ps.length:=by rw[mc.1,hE]
 have g9:=mc.bd m8;have ka:∀x∈u,0≤x:=λx hx=>(g9 x hx).1;refine p (λ_=>Qp)<|p (λ_=>Qk O O)<|p (λ_=>Qk O O)<|p (λ_=>Qg)<|p (λ_=>Qg)<|pe ?_;refine Qf<|Qc<|Qb<|x (Zm O)<|xe<|ZM O ?_;refine Qi ?_;have gj:=Qu.ints (L:=[]) g8 (by omega) (by simp);have mg:=Qm g8
 refine QT (α:=Unit) [(15,16),(79,85)] (λz=>[(15,.int .i64 (if u∈E.tup then (E.tup.idxOf u:Int) else 0)),(16,.bool (decide (u∈E.tup)))]) (λz w'=>Step [] w23 w') (by rfl) ?_ ?_
 ·refine Qy<|Qb<|Qb<|xl O<|xf<|(jg gj (gn.ext (hK.then hR.st (λb hb=>.inr (by simp at hb;omega)))) g9 (by omega)).mono ?_;rintro r24 w24 ⟨rfl,gk⟩;by_cases hu:u∈E.tup
  ·refine x (zT (k:=JW u) ((hR.ext gk).M) O O (by rw[hr u mf ka,if_pos hu]))<|Qb<|x (Qk rfl rfl)<|x (Qk rfl rfl)<|x Qg<|Qe ?_;exact ⟨(),⟨congrArg (Value.int .i64) (if_pos hu).symm,congrArg Value.bool (decide_eq_true hu).symm,U⟩,gk⟩
  refine x (Qeb (k:=JW u) ((hR.ext gk).M) O O (by rw[hr u mf ka,if_neg hu]))<|Qb<|x (Qk rfl rfl)<|x (Qk rfl rfl)<|x Qg<|Qe ?_;exact ⟨(),⟨congrArg (Value.int .i64) (if_neg hu).symm,congrArg Value.bool (decide_eq_false hu).symm,U⟩,gk⟩
 rintro _ g6 w25 gl;have hA:=hR.ext gl;have hx25:=Qq g8 gl;have hxA25:=gj.ext gl;have hz25:=gl.size;have hadd:∀b∈ob vx,b∉ob ge∧b∉ob gc∧b∉ob gg:=λb hb=>by
  have h1:=(mg b hb).1;have h1':h8.heap.size≤b:=h1;exact ⟨λhS=>by have:=QR I.t b hS;omega,λhS=>by have:=QR I.k b hS;omega,λhS=>by have:=QR I.e b hS;omega⟩
 refine QT (α:=List (ByteArray×Value)×List TV×Value) [(3,4),(15,15),(86,101)] (λz=>[(3,z.2.2),(15,.int .i64 ((Yr E u).tup.idxOf u:Int))])
  (λz w'=>yq w1.heap.size H he S ve wS (Yr E u) z.1 z.2.1 z.2.2 gc gg w'∧(u∈E.tup∨E.tup.length≠4096)∧Ug ps.length z.1 (Yr E u).tup∧∃h:i<z.2.1.length,(z.2.1[i]'h).2=t) (by rfl) ?_ ?_
 ·refine Qc<|Qb<|x (Zm O)<|xe<|Q3 O (λkb=>?_) (λkb=>?_)
  rotate_left
  ·have hu:u∈E.tup:=by simpa using kb
   refine Qi ?_;have e1:Yr E u=E:=by unfold Yr;rw[if_pos hu]
   have e2:(if u∈E.tup then (E.tup.idxOf u:Int) else 0)=((Yr E u).tup.idxOf u:Int):=by rw[e1,if_pos hu]
   refine ⟨(m4,hg,ge),⟨O,congrArg (Value.int .i64) e2,U⟩,?_,.inl hu,?_,hm,h9⟩
   ·rw[e1];exact hA
   rw[e1];exact hr
  have hu:u∉E.tup:=by simpa using kb
  have mh:=QU (L:=[]) hA.t (by omega) (by simp);refine Qf<|Qc<|Qb<|x (Qs mh O)<|x (Q4 O O)<|xe<|Q7 O (λh90=>?_) (λh90=>?_)
  ·refine Qc<|x (QD U)<|xl O<|Qo (us:=[nS,.int .i64 0,nS,nS]) hA.A O O O O ⟨O,O,O,O,U⟩ λw26 gm hB26=>x Qg<|Qe<|Qn ⟨[zA,Zg,.int .i64 3],⟨⟨_,O,Qv O (hB26.at (L:=[]) (by simp)).cells⟩,rfl,rfl,U⟩,(hK.then hA.st (λb hb=>.inr (by simp at hb;omega))).then1 gm hC,zA,Zg,3,O,?_⟩;unfold Yb;rw[Qfo hv hu (by omega)] at Y;rw[if_neg hw,p3 Y.symm];exact ⟨rfl,O,O⟩
  have hl4:E.tup.length≠4096:=by omega
  refine Qi<|Qc<|Qb<|x (Qs mh O)<|Qe<|Qc<|Qb<|Qb<|xl O<|xf<|(jg hxA25 (gn.ext (hK.then hA.st (λb hb=>.inr (by simp at hb;omega)))) g9 (by omega)).mono ?_;rintro r26 w26 ⟨rfl,gm⟩;have mj:=hA.ext gm;refine Qb<|xl O<|XB (k:=JW u) mj.M O O λw27 mo hm27=>xe ?_;have hI8:=mj.setM hL mo hm27
  have hx27:=Qj (Qq hx25 gm) mo (λb hb=>by have:=(mg b hb).1;have h1':h8.heap.size≤b:=this;simp;omega);refine Qy<|Qb<|Qb<|xl O<|QC (us:=[[vx]]) O O (by decide) (by simp) ⟨gj.cells,rfl,U⟩ λb100 w28 mq hb100 hB100=>?_;have kc:=hI8.ext mq
  refine xl O<|Q5 (news:=[vx]) (L:=[]) kc.t O O O (hB100.at (by simp)) (λy hy=>by simp only[List.mem_singleton] at hy;subst hy;exact gj.one) (by omega) (by have:=kc.st.size;have:=hL.nS;omega) λmt w29 ho29 hs29 hn29=>Qe ?_;have hk29:zy 37 w1.heap.size w29 mt (hg++[(vx,u)]):=zy.snoc ho29
  have hIA:=kc.setT hL (u:=u) (Zr (Qq hx27 mq) (by show wS.heap.size≤h8.heap.size;omega)) hadd hs29 hk29 hn29;have e1:Yr E u=⟨E.tup++[u],E.mk',E.ed⟩:=by unfold Yr;rw[if_neg hu]
  have e2:(hg.length:Int)=((Yr E u).tup.idxOf u:Int):=by
   rw[e1];simp only[];rw[Mi,if_neg hu,←k8];simp
  refine ⟨(mput m4 (JW u) (.int .i64 (hg.length:Int)),hg++[(vx,u)],mt),⟨O,congrArg (Value.int .i64) e2,U⟩,?_,.inr hl4,?_,by simp;omega,?_⟩
  ·rw[e1];exact hIA
  ·rw[e1];simp only[];rw[k8];exact hr.add hu ka
  simp only[];rw[Mc hm];exact h9
 rintro ⟨m5,qs5,vt5⟩ g7 w30 ⟨ke,hlim,mu,mv,mw⟩;simp only[] at ke mu mv mw;have hed5:(Yr E u).ed.length≤i*1000+j:=by rw[Qfq];exact k7
 have my:=Qiz (aa:=aa) (i:=i) (s:=E) hv hlim;have hsk5:=Qfn hD hP h7 my;rw[my] at Y;refine Qy<|x (Qa O)<|x (Qd ke.A O O)<|Qb<|Qb<|Qb<|x (QD ⟨O,O,O,U⟩)<|xl O<|QC (us:=[Qx ((i:Int),v,((Yr E u).tup.idxOf u:Int))]) O O (by decide) (by exact (by decide:1*3≤1000000)) ⟨O,O,U⟩ λb108 w31 hs31 hb108 hB108=>?_;have hU:=ke.ext hs31
 refine xl O<|Q5 (news:=Qx ((i:Int),v,((Yr E u).tup.idxOf u:Int))) (L:=[]) hU.e O O O (hB108.at (by simp)) (λy hy=>by simp only[Qx,List.mem_cons,List.not_mem_nil,or_false] at hy;rcases hy with rfl | rfl | rfl <;> rfl) (by omega) hU.st.size λmz w32 ho32 m0 hn32=>?_
 have m1:Z8 144 wS.heap.size w32 mz ((Yr E u).ed++[((i:Int),v,((Yr E u).tup.idxOf u:Int))]):=Z8.snoc ho32;refine x (Qa O)<|xl O<|QF (hU.A.step m0 (QM hU.e (by omega))) O O (by simp) (Z8.eds (L:=[]) m1 (by simp;omega) (by simp)).one λw33 hs33 hB33=>xe ?_;have hI12:=hU.setE hL m0 m1 hn32 hs33 hB33;refine Qy<|QO O O<|Qb<|xe ?_
 refine ⟨(j+1,_,m5,qs5,vt5,mz),by simp only[];omega,⟨O,O,U⟩,hI12,hsk5,mu,gi,?_,?_,⟨mv,mw⟩,Y⟩
 ·simp only[];rw[Qfp];exact gh
 simp only[List.length_append,List.length_singleton];omega
structure Vc where
 en:LI
 dis:LI
 mk':Bool
 ps:Bool
def QlV:Vc:=⟨[],[],false,false⟩
def QkJ (l:LI) (v:Int):LI:=mrg (· || ·) l [v]
def QnQ (p s:QN) (x y:Int) (c:Vc) (v:Int):Vc :=
 match eget p.ed x v with
 | none=>c
 | some _=>match eget s.ed y v with
  | some _=>⟨QkJ c.en v,c.dis,c.mk',c.ps⟩
  | none=>⟨c.en,QkJ c.dis v,c.mk',c.ps⟩
def QnR (p s:QN) (x y:Int) (c:Vc):Vc:=⟨c.en,c.dis,decide (y∈s.mr),c.ps || decide (x∈p.mr)⟩
def QnP (p s:QN) (x y:Int) (c:Vc):Vc:=s.al.foldl (QnQ p s x y) (QnR p s x y c)
def px (q:LI):Int:=q.getD 0 0
def py (q:LI):Int:=q.getD 1 0
def QnO (p s:QN) (l:List Vc) (q:LI):List Vc:=l.set (py q).toNat (QnP p s (px q) (py q) (l.getD (py q).toNat QlV))
def ctls (p s:QN) (pairs:List (LI)):List Vc:=pairs.foldl (QnO p s) (List.replicate s.st.toNat QlV)
def occs (n:Nat) (pairs:List (LI)):List Bool:=pairs.foldl (λo q=>o.set (py q).toNat true) (List.replicate n false)
def meets (a b:LI):LI:=mrg (· && ·) a b
def Qm4 (a b:Vc):Bool:=decide ((meets a.en b.dis).length+(meets b.en a.dis).length=0) && (!a.ps || !b.ps || a.mk' == b.mk')
def cget (l:LI) (i:Nat):Int:=l.getD i 0
def Qgr (cl:LI) (x y:Nat):LI:=cl.map λc=>if c=cget cl y then cget cl x else c
def lget (l:List Vc) (i:Nat):Vc:=l.getD i QlV
def to0 (s:QN) (x:Nat) (v:Int):Int:=match eget s.ed x v with | some u=>u | none=>0
def clE (s:QN) (x y:Nat) (z:LI×Bool) (v:Int):LI×Bool :=
 if cget z.1 (to0 s x v).toNat≠cget z.1 (to0 s y v).toNat then (Qgr z.1 (to0 s x v).toNat (to0 s y v).toNat,true) else z
def clY (s:QN) (l:List Vc) (x:Nat) (z:LI×Bool) (y:Nat):LI×Bool :=
 if cget z.1 x<0∨cget z.1 x≠cget z.1 y then z else (meets (lget l x).en (lget l y).en).foldl (clE s x y) z
def clX (s:QN) (l:List Vc) (n:Nat) (z:LI×Bool) (x:Nat):LI×Bool:=(List.range' (x+1) (n - (x+1))).foldl (clY s l x) z
def pass (s:QN) (l:List Vc) (cl:LI):LI×Bool:=(List.range' 0 cl.length).foldl (clX s l cl.length) (cl,false)
def QhC (s:QN) (l:List Vc):Nat→LI→LI
 | 0,cl=>cl
 | f+1,cl=>if (pass s l cl).2=true then QhC s l f (pass s l cl).1 else (pass s l cl).1
def QjS (l:List Vc) (cl:LI):Bool :=
 (List.range' 0 cl.length).all λx=>(List.range' 0 x).all λy=>!(decide (0≤cget cl x∧cget cl x=cget cl y) && !Qm4 (lget l x) (lget l y))
def Qny (s:QN) (l:List Vc) (cl:LI) (x y:Nat):LI :=
 if cget cl x<0∨cget cl y<0∨cget cl x=cget cl y then cl else
  let d:=QhC s l (cl.length*cl.length+1) (Qgr cl x y)
  if QjS l d=true then d else cl
def Qnx (s:QN) (l:List Vc) (n:Nat) (cl:LI) (x:Nat):LI:=(List.range' (x+1) (n - (x+1))).foldl (λc y=>Qny s l c x y) cl
def QnT (o:List Bool):LI:=(List.range' 0 o.length).map λi=>if o.getD i false=true then (i:Int) else -1
def QnS (s:QN) (l:List Vc) (cl:LI):LI:=(List.range' 0 cl.length).foldl (Qnx s l cl.length) cl
def QnK (z:LI×LI) (c:Int):LI×LI :=
 if c∈z.1 then (z.1,z.2++[(z.1.idxOf c:Int) - 1]) else (z.1++[c],z.2++[(z.1.length:Int) - 1])
def nums (cl:LI):LI:=(cl.foldl QnK ([-1],[])).2
def Qm9 (p s:QN) (pairs:List (LI)):LI:=nums (QnS s (ctls p s pairs) (QnT (occs s.st.toNat pairs)))
theorem Kf {α:Type}(g:α→LV) (sz:Nat) (E:∀x,(g x).length=sz):∀(l:List α) (i j:Nat) (h:i<l.length) (y:α) (u:Value),j<sz→g y=(g l[i]).set j u →
  (l.flatMap g).set (i*sz+j) u=(l.set i y).flatMap g
 | x::l,0,j,h,y,u,G,hy=>by
  simp only[List.getElem_cons_zero] at hy;simp only[Nat.zero_mul,Nat.zero_add,List.flatMap_cons,List.set_cons_zero];rw[List.set_append_left _ _ (by rw[E];exact G),hy]
 | x::l,i+1,j,h,y,u,G,hy=>by
  simp only[List.getElem_cons_succ] at hy;simp only[List.flatMap_cons,List.set_cons_succ];rw[List.set_append_right _ _ (by rw[E,MI];omega),E,show (i+1)*sz+j - sz=i*sz+j by rw[MI];omega,Kf g sz E l i j (by simpa using h) y u G hy]
end Go.Proofs.YtdffckgdcegpaaaGreatDoor
namespace Go.Lg
section
variable {P:Program} {n:Nat} {f:Fr} {w:World} {all:List Oper} {C:World→Prop} {K:Fr→World→Prop}
def qM (all:Array Oper) (i j:Nat) (E G:List (Nat×Bool)):List (Nat×Bool)→Array Bool→Bool
 | [],ls=>Region.ready .any all ls == [i,j] && Xk all E (ls.setIfInBounds i true) && Xk all G (ls.setIfInBounds j true)
 | (k,q)::pl,ls=>q && (Region.ready .any all ls).contains k && Region.free .any all ls k && qM all i j E G pl (ls.setIfInBounds k true)
def Qg3 (all:List Oper) (pl:List (Nat×Bool)) (i j:Nat) (E G:List (Nat×Bool)):Bool :=
 Region.noSelect all.toArray && pl.length+1+E.length == all.length && E.length == G.length && qM all.toArray i j E G pl (Array.replicate all.length false)
def Fk (P:Program) (all:List Oper) (C:World→Prop) (K:Fr→World→Prop) (i j:Nat) (G H:List (Nat×Bool)) (f:Fr) (w:World):Prop :=
 (Yk all f (Q6 all i)=true∧XO P (Q6 all i) f w λE w'=>C w'∧XP P all C K G E w') ∧
 (Yk all f (Q6 all j)=true∧XO P (Q6 all j) f w λE w'=>C w'∧XP P all C K H E w')
theorem K5 {i j:Nat}{G S:List (Nat×Bool)}(hl:G.length=S.length) (hs:Region.noSelect all.toArray=true):∀(pl:List (Nat×Bool)) (ls:Array Bool) (f:Fr) (w:World),ls.size=all.length→C w→qM all.toArray i j G S pl ls=true →
  XP P all C (Fk P all C K i j G S) pl f w→XA P all C K (pl.length+(1+G.length)) ls f w
 | [],ls,f,w,Y,hC,hp,h=>by
  simp only[qM,Bool.and_eq_true,beq_iff_eq] at hp;obtain ⟨⟨H,h1⟩,h2⟩:=hp;simp only[XP] at h;rw[List.length_nil,LG,M2];refine JM (λh0=>(by rw[h0] at H;cases H)) ?_;rw[H];intro k hk o E;have I:(ls.setIfInBounds k true).size=all.length:=by simpa using Y
  simp only[List.mem_cons,List.not_mem_nil,or_false] at hk;rcases hk with rfl | rfl
  ·have:=h.1;rw[Zp E] at this;rw[this.1,cond_true];exact this.2.mono λv w' hx=>⟨.inr (.inr hx.1),ZD hs G _ _ _ I (.inl hx.1) h1 hx.2⟩
  have:=h.2;rw[Zp E] at this;rw[this.1,cond_true,hl];exact this.2.mono λv w' hx=>⟨.inr (.inr hx.1),ZD hs S _ _ _ I (.inl hx.1) h2 hx.2⟩
 | (J,q)::pl,ls,f,w,Y,hC,hp,h=>by
  simp only[qM,Bool.and_eq_true] at hp;obtain ⟨⟨⟨rfl,H⟩,hf⟩,hb⟩:=hp;simp only[XP] at h;have ha:J∈Region.ready .any all.toArray ls:=by simpa using H
  have e:(List.length ((J,true)::pl))+(1+G.length)=(pl.length+(1+G.length))+1:=by simp;omega
  rw[e];cases E:all[J]? with
  | none =>
   exfalso;obtain ⟨_,o,hh,_⟩:=mem_ready.1 ha;simp[E] at hh
  | some o =>
   rw[Zp E] at h;have hc:∀(j:Nat) (o:Oper) cs b,all[j]?=some o→o.op≠.select cs b:=λj o cs b hj=>Region.noSelect_spec hs j o cs b (by simpa using hj);have he:=λj oj hj=>Region.free_spec (ops:=all.toArray) (md:=.any) (i:=J) (oi:=o) (listed:=ls) (by simpa using E) hf j oj (by simpa using hj);have I:(ls.setIfInBounds J true).size=all.length:=by simpa using Y
   cases V:Yk all f o with
   | false =>
    rw[V] at h;exact Xg (v:=undef) (D:=λw=>zl o=true→C w) E (λ_ h=>h) hc _ ls f w (λ_=>hC) he ha (.inr ⟨V,O⟩) (K5 hl hs pl _ _ _ I hC hb h)
   | true =>
    rw[V] at h;simp only[cond_true] at h;obtain ⟨v,hv,hx⟩:=h;exact Xg (v:=v) (D:=λw=>zl o=true→C w) E (λ_ h=>h) hc _ ls f w (λ_=>hC) he ha (.inl ⟨V,hv⟩) (K5 hl hs pl _ _ _ I hC hb hx)
theorem Qka {Q:Exit→Fr→World→Prop}{id:Nat}(C:World→Prop) (pl:List (Nat×Bool)) (i j:Nat) (E G:List (Nat×Bool)) (hm:P.follows .mixedOrders=true) (H:X7 n all=true) (hp:Qg3 all pl i j E G=true)
  (hC:C { w with drawn:=w.drawn+1 }) (h:XP P all C (Fk P all C (λf w=>Q .normal f w) i j E G) pl f { w with drawn:=w.drawn+1 }):W P n (.region id all.toArray true) Q f w:=by
 simp only[Qg3,Bool.and_eq_true,beq_iff_eq] at hp;obtain ⟨⟨⟨hs,hl⟩,I⟩,hp⟩:=hp;refine K6 C hm H ?_;have h1:=K5 I hs pl _ _ _ (by simp) hC hp h;rw[←Nat.add_assoc,hl] at h1;exact h1
end
end Go.Lg
namespace Go.Proofs.YtdffckgdcegpaaaGreatDoor
open Go.Lg
end Go.Proofs.YtdffckgdcegpaaaGreatDoor
namespace Go.Lg
open Go.Proofs.YtdffckgdcegpaaaGreatDoor
theorem Za {l:LI}{i:Nat}(h:i<l.length):l[i]=cget l i:=by simp[cget,List.getD,h]
section
variable {P:Program} {ops l:List Oper} {K:Fr→World→Prop} {f:Fr} {w:World} {d:Option Nat} {ty:Nat} {ps:String} {af:Array Edge} {gd:Option (Nat×Bool)} {C:World→Prop} {pl:List (Nat×Bool)} {i0:Nat}
theorem xic {x y:Operand}{t e bys:Nat}{z:Value}[Sl P t e 1 bys z] {L:LN}{li:LI}{v:Value}{k:IntKind}{i:Nat}
  (h:QL L w.heap v li) (E:ev f x=v) (hy:ev f y=.int k i) (hi:i<li.length)
  (G:∀a,At L w.heap a [.int .i64 (cget li i)]→XL P ops K l (QV f d (.pointer (some a))) w) (H:Yk ops f ⟨d,.indexAddr t x y,ty,ps,af,gd⟩=true:=by rfl) :
  XL P ops K (⟨d,.indexAddr t x y,ty,ps,af,gd⟩::l) f w :=
 xii h E hy hi (λa ha=>G a (by rw[←Za hi];exact ha)) H
theorem pic {x y:Operand}{t e bys:Nat}{z:Value}[Sl P t e 1 bys z] {L:LN}{li:LI}{v:Value}{H:Array Obj}{k:IntKind}{i:Nat}
  (E:Q6 ops i0=⟨d,.indexAddr t x y,ty,ps,af,gd⟩) (h:QL L H v li) (G:ev f x=v) (hy:ev f y=.int k i) (hi:i<li.length)
  (I:∀a,At L H a [.int .i64 (cget li i)]→XP P ops C K pl (QV f d (.pointer (some a))) w) (J:Yk ops f (Q6 ops i0)=true:=by rfl):XP P ops C K ((i0,true)::pl) f w :=
 pii E h G hy hi (λa ha=>I a (by rw[←Za hi];exact ha)) J
end
theorem QfM {a n:Nat}(h:a<n):List.range' a (n - a)=a::List.range' (a+1) (n - (a+1)):=by
 rw[show n - a=(n - (a+1))+1 by omega,Nd]
theorem QiQ {a n:Nat}(h:n≤a):List.range' a (n - a)=[]:=by rw[show n - a=0 by omega];rfl
end Go.Lg
namespace Go.Proofs.YtdffckgdcegpaaaGreatDoor
open Go.Lg
end Go.Proofs.YtdffckgdcegpaaaGreatDoor
namespace Go.Lg
section
variable {P:Program} {f:Fr} {w:World} {d:Option Nat} {ty:Nat} {ps:String} {af:Array Edge} {gd:Option (Nat×Bool)} {κ:Type} [DecidableEq κ]
end
end Go.Lg
namespace Go.Proofs.YtdffckgdcegpaaaGreatDoor
open Go.Lg
theorem QcE {aa:List QN}{i:Nat}{t:LI}(G:∀a∈aa,Q2 a) (ht:Vt aa t):∀(vs:LI) (s E:Sy),Uf aa s→KO aa i t vs s=some E→Uf aa E
 | [],s,E,h,e=>by cases e;exact h
 | v::vs,s,E,h,e=>by
  rw[KO] at e;obtain ⟨H,h1,h2⟩:=Ml.1 e;exact QcE G ht vs H E (Qfn G h ht h1) h2
theorem Qfh {aa:List QN}(G:∀a∈aa,Q2 a):∀(f i:Nat) (s E:Sy),Uf aa s→jQ aa f i s=some E→Uf aa E
 | 0,i,s,E,h,e=>by cases e;exact h
 | f+1,i,s,E,h,e=>by
  rw[jQ] at e;split at e
  ·rename_i hi;obtain ⟨H,h1,h2⟩:=Ml.1 e;have I:Vt aa (Uj s i):=h.v _ (by unfold Uj;simp[List.getD,hi]);exact Qfh G f _ H E (QcE G I _ _ _ (zG h) h1) h2
  cases e;exact h
theorem QkP {aa:List QN}(E:∀a∈aa,Q2 a) (G:¬∃a∈aa,a.st=0):Uf aa (U6 aa):=by
 refine ⟨λt ht=>?_,by simp[U6]⟩;simp only[U6,List.mem_singleton] at ht;subst ht;refine ⟨by simp,λi h1 h2=>?_⟩;have h3:=(E aa[i] (Lc h2)).st0;have H:aa[i].st≠0:=λe=>G ⟨aa[i],Lc h2,e⟩;simp only[List.getElem_replicate];omega
theorem UL {aa:List QN}(E:∀a∈aa,Q2 a) {z:QN×List (LI)}(h:sync aa=some z):(∀t∈z.2,Vt aa t)∧z.2.length≤4096:=by
 unfold sync at h;split at h
 ·cases h;simp
 rename_i G;obtain ⟨s,h1,rfl⟩:=L9.1 h;have:=Qfh E _ _ _ _ (QkP E G) h1;exact ⟨this.v,this.le⟩
def opC (p s:QN):Int:=if JI p≠0 then JI p else if JI s≠0 then JI s else if mrg (λp q=>p && !q) s.al p.al=[] then 0 else 9
def opE (p s:QN):Int:=if opC p s≠0 then opC p s else match sync [p,s] with | none=>3 | some _=>0
def opQ (p s:QN):List (LI):=match sync [p,s] with | none=>[] | some z=>z.2
def QmN (l:LI):Int:=(l.drop 1).foldl max (cget l 0)
theorem Xi {N b:Nat}{w w':World}{v:Value}{a:QN}(h:Y0 N w.heap v a) (hb:b<N) (hs:Step [b] w w'):Y0 N w'.heap v a:=by
 obtain ⟨va,vm,ve,h1,h2⟩:=h;refine ⟨va,vm,ve,h1,λL E=>?_⟩;exact ((h2 (b::L) (λc hc=>by rcases Lb.1 hc with rfl | hc;exact hb;exact E c hc)).st (hs.mono (by simp))).up (λc hc=>.inl (Lk _ hc))
theorem Qh2 {N b:Nat}{w w':World}{v:Value}{l:List (LI)}(h:Qa4 N w.heap v l) (hb:b<N) (hs:Step [b] w w'):Qa4 N w'.heap v l:=by
 obtain ⟨ps,h1,h2⟩:=h;refine ⟨ps,h1,λL E=>?_⟩;exact ((h2 (b::L) (λc hc=>by rcases Lb.1 hc with rfl | hc;exact hb;exact E c hc)).st (hs.mono (by simp))).up (λc hc=>.inl (Lk _ hc))
theorem Y5 {N:Nat}{H:Array Obj}{v:Value}{a:QN}(h:Y0 N H v a):∃us,v=.agg us.toArray∧us.length=4∧ZQ us:=by
 obtain ⟨va,vm,ve,h1,h2⟩:=h;have:=h2 [] (by simp);exact ⟨[va,.int .i64 a.st,vm,ve],h1,O,this.al.one,O,this.mr.one,this.ed.one,U⟩
open Go.Proofs.Tryz
theorem jH {L:LN}{w:World}{va vm ve:Value}{a:QN}(h:Zv L w.heap va vm ve a) :
  QK prog 123 [.agg #[va,.int .i64 a.st,vm,ve]] w λr w'=>Step [] w w'∧∃v,r=.tuple #[v,.int .i64 (JI a)]∧(JI a≠0→v=zA)∧(JI a=0→Y0 w.heap.size w'.heap v (Yi a)):=by
 refine QK.of_W func123 O ntmps123 results123 (by simp) ?_;refine Qc<|xl O<|QS (us:=[va,.int .i64 a.st,vm,ve]) O λb1 w1 V hn Y=>xl O<|Qt (us:=[nS,.int .i64 0,nS,nS]) O λb2 w2 G ho H=>Qe ?_;have I:=V.trans G;refine Qf<|Qc<|x (Qr (Y.ext G) O O)<|xl O<|xf<|(XJ (h.ext I)).mono ?_;rintro r3 w3 ⟨rfl,E⟩;refine Qe ?_;have hp:=V.size;refine Qc<|Qb<|x (Q9 O O)<|xe ?_
 refine Q7 rfl (λJ=>?_) (λJ=>?_)
 ·refine Qc<|x (QD U)<|Qb<|xl O<|Qo (us:=[nS,.int .i64 0,nS,nS]) (H.ext E) O O O O ⟨O,O,O,O,U⟩ λw4 hg hh=>Qe ?_;exact Qn ⟨[zA,.int .i64 (JI a)],⟨⟨_,O,Qv O (hh.at (L:=[]) (by simp)).cells⟩,rfl,U⟩,(I.trans E).then1 hg (by omega),zA,rfl,λ_=>rfl,λe=>absurd e J⟩
 have hc:JI a=0:=Ls.1 J;have hj:=(ZE a).1 hc;have hq:=H.lt;have S:=I.trans E;refine Qi<|Qc<|x (Qr ((Y.ext G).ext E) O O)<|xl O<|xf<|(JK (h.ext S) hj).mono ?_;rintro v w5 ⟨ha,hF⟩;obtain ⟨us,hb,he,hk⟩:=Y5 hF;have hr:=E.size;have hl:=S.size;refine xl rfl<|Qo (us:=us) ((H.ext E).ext ha) O hb he O hk λw6 hf hm =>
  Qe<|Qn ⟨[.agg us.toArray,.int .i64 0],⟨⟨_,O,Qv he (hm.at (L:=[]) (by simp)).cells⟩,rfl,U⟩,(S.trans ha).then1 hf (by omega),v,by rw[hc,hb];rfl,λe=>absurd hc e,λ_=>?_⟩
 exact (Xi hF (by omega) hf).mono hl
def gget:List ((Int×Int)×Int)→Int×Int→Option Int
 | [],_=>none
 | (k',v)::m,k=>if k'=k then some v else gget m k
def gput:List ((Int×Int)×Int)→Int×Int→Int→List ((Int×Int)×Int)
 | [],k,v=>[(k,v)]
 | (k',v')::m,k,v=>if k'=k then (k',v)::m else (k',v')::gput m k v
def QnD (s:QN) (cls:LI) (x:Nat) (m:List ((Int×Int)×Int)) (v:Int):List ((Int×Int)×Int):=gput m (cget cls x,v) (cget cls (to0 s x v).toNat)
def QnA (s:QN) (l:List Vc) (cls:LI) (z:LI×List ((Int×Int)×Int)) (x:Nat):LI×List ((Int×Int)×Int) :=
 if cget cls x<0 then z else (if ((lget l x).mk' && (lget l x).ps)=true then QkJ z.1 (cget cls x) else z.1,(lget l x).en.foldl (QnD s cls x) z.2)
def QmD (s:QN) (l:List Vc) (cls:LI):LI×List ((Int×Int)×Int):=(List.range' 0 cls.length).foldl (QnA s l cls) ([],[])
def QnC (m:List ((Int×Int)×Int)) (c:Nat) (v:Int):Option Ed:=(gget m ((c:Int),v)).map λt=>((c:Int),v,t)
def QnB (m:List ((Int×Int)×Int)) (al:LI) (n:Nat):List Ed:=(List.range' 0 n).flatMap λc=>al.filterMap (QnC m c)
def QnE (s:QN) (l:List Vc) (cls:LI):QN:=⟨s.al,QmN cls+1,(QmD s l cls).1,QnB (QmD s l cls).2 s.al (QmN cls+1).toNat⟩
def red (p s:QN):QN:=QnE s (ctls p s (opQ p s)) (Qm9 p s (opQ p s))
def rdE (p s:QN):Int:=if opE p s≠0 then opE p s else if opQ p s=[] then 0 else JI (red p s)
theorem Jt {l:LI}{i:Nat}(h:i<l.length):cget l i∈l:=by rw[←Za h];exact Lc h
theorem Zc {α:Type}(a:α) {Q:Prop}(h:∀b,a=b→Q):Q:=h a O
theorem yv {N:Nat}{H:Array Obj}{a:QN}{I J S n1 E G:Nat}(h1:QZ H I 3 (a.al.map (.int .i64))) (h2:QZ H J 3 (a.mr.map (.int .i64))) (h3:QZ H S 144 (a.ed.flatMap Qx)) (g1:N≤I) (g2:N≤J) (g3:N≤S)
  (Y:a.al.length=n1) (l2:a.mr.length=E) (l3:a.ed.length=G) (m1:n1≤1000) (m2:E≤1000) (m3:G≤1000) :
  Y0 N H (.agg #[.slice (some ⟨I,0,none⟩) n1 n1,.int .i64 a.st,.slice (some ⟨J,0,none⟩) E E,.slice (some ⟨S,0,none⟩) G G]) a:=by
 subst Y l2 l3;refine ⟨_,_,_,O,λL V=>⟨?_,?_,?_⟩⟩
 ·exact h1.arr (λhb=>by have:=V _ hb;omega) (by simp) (by omega) (Lt _)
 ·exact h2.arr (λhb=>by have:=V _ hb;omega) (by simp) (by omega) (Lt _)
 exact h3.arr (λhb=>by have:=V _ hb;omega) (by rw[Kg _ 3 X6]) (by omega) (Lt _)
end Go.Proofs.YtdffckgdcegpaaaGreatDoor
namespace Go.Lg
section
variable {P:Program} {n:Nat} {f:Fr} {w:World} {d:Option Nat} {ty:Nat} {ps:String} {af:Array Edge} {gd:Option (Nat×Bool)}
class Ay (P:Program) (t:Nat) (m e sz:outParam Nat):Prop where
 u:P.underlying t=some (.array m e)
 i:(P.info? e).map (·.size)=some sz
theorem ZJ {x y:Operand}{t m e sz:Nat}[h:Ay P t m e sz] {b o:Nat}{k:IntKind}{i:Nat}(hx:ev f x=.pointer (some ⟨b,o,none⟩)) (hy:ev f y=.int k i) (h1:i<m) :
  (execOp (ev f) ⟨d,.indexAddr t x y,ty,ps,af,gd⟩).run P w=.ok (.value (.pointer (some ⟨b,o+i*sz,none⟩))) w:=by
 have hi:=h.i;cases E:P.info? e with
 | none=>simp[E] at hi
 | some ii =>
  simp[E] at hi;simp[execOp,hx,hy,Instr.indexAt,asIntOf,run_underlying h.u,Instr.sureAddr,sizeOf,typeInfo,E,hi,Ka];intro h2;omega
theorem Qj7 {a b:Nat}(ha:a<256):inK .u8 ((a &&& b:Nat):Int):=by
 have:a &&& b≤a:=Nat.and_le_left;exact ⟨by omega,by omega⟩
theorem qp {t E:Nat}{x y:Operand}{a b:Nat}(hx:ev f x=.int .u8 a) (hy:ev f y=.int .u8 b) (ha:a<256) (hb:b<256) :
  (execOp (ev f) ⟨d,.binOp .and t x y E,ty,ps,af,gd⟩).run P w=.ok (.value (.int .u8 ((a &&& b:Nat):Int))) w:=by
 refine Xb hx hy ?_;simp only[binOp,Op.intBits,BitVec.ofInt_natCast,ne_eq,not_true_eq_false,if_false,Sem.run_pure];rw[BitVec.toNat_and,BitVec.toNat_ofNat,BitVec.toNat_ofNat,Mw (show a<2 ^ IntKind.u8.bits from ha),Mw (show b<2 ^ IntKind.u8.bits from hb),Yl (Qj7 ha)]
theorem yG (m i:Nat):((m:Int) / 2 ^ i)=((m / 2 ^ i:Nat):Int):=by rw[Int.natCast_ediv,Int.natCast_pow];rfl
end
inductive Pt where
 | pl (l:List (Nat×Bool))
 | fk (pre:List (Nat×Bool)) (i j:Nat) (t1 t2:Pt)
def Kr (all:Array Oper):List (Nat×Bool)→Array Bool→Bool
 | [],_=>true
 | (k,q)::pl,ls=>q && (Region.ready .any all ls).contains k && Region.free .any all ls k && Kr all pl (ls.setIfInBounds k true)
def Z3:List (Nat×Bool)→Array Bool→Array Bool
 | [],ls=>ls
 | (k,_)::pl,ls=>Z3 pl (ls.setIfInBounds k true)
def XT (P:Program) (all:List Oper) (C:World→Prop) (K:Fr→World→Prop):Pt→Fr→World→Prop
 | .pl l=>XP P all C K l
 | .fk pre i j t1 t2=>XP P all C (λf w=>(Yk all f (Q6 all i)=true∧XO P (Q6 all i) f w λE w'=>C w'∧XT P all C K t1 E w') ∧
   (Yk all f (Q6 all j)=true∧XO P (Q6 all j) f w λE w'=>C w'∧XT P all C K t2 E w')) pre
section
variable {P:Program} {n:Nat} {f:Fr} {w:World} {all:List Oper} {C:World→Prop} {K B:Fr→World→Prop}
theorem YW:∀(pl:List (Nat×Bool)) (ls:Array Bool),(Z3 pl ls).size=ls.size
 | [],_=>rfl
 | (k,q)::pl,ls=>by rw[Z3,YW];simp
theorem YU {m:Nat}(hs:Region.noSelect all.toArray=true):∀(pl:List (Nat×Bool)) (ls:Array Bool) (f:Fr) (w:World),C w→Kr all.toArray pl ls=true →
  (∀f,B f w→XA P all C K m (Z3 pl ls) f w)→XP P all C B pl f w→XA P all C K (pl.length+m) ls f w
 | [],ls,f,w,hC,hp,G,h=>by
  simp only[XP] at h;rw[List.length_nil,LG];exact G f h
 | (H,q)::pl,ls,f,w,hC,hp,G,h=>by
  simp only[Kr,Bool.and_eq_true] at hp;obtain ⟨⟨⟨rfl,hr⟩,hf⟩,V⟩:=hp;simp only[XP] at h;have J:H∈Region.ready .any all.toArray ls:=by simpa using hr
  have e:(List.length ((H,true)::pl))+m=(pl.length+m)+1:=by simp;omega
  rw[e];cases E:all[H]? with
  | none =>
   exfalso;obtain ⟨_,o,hb,_⟩:=mem_ready.1 J;simp[E] at hb
  | some o =>
   rw[Zp E] at h;have Y:∀(j:Nat) (o:Oper) cs b,all[j]?=some o→o.op≠.select cs b:=λj o cs b S=>Region.noSelect_spec hs j o cs b (by simpa using S);have ha:=λj oj S=>Region.free_spec (ops:=all.toArray) (md:=.any) (i:=H) (oi:=o) (listed:=ls) (by simpa using E) hf j oj (by simpa using S);cases I:Yk all f o with
   | false =>
    rw[I] at h;exact Xg (v:=undef) (D:=λw=>zl o=true→C w) E (λ_ h=>h) Y _ ls f w (λ_=>hC) ha J (.inr ⟨I,O⟩) (YU hs pl _ _ _ hC V G h)
   | true =>
    rw[I] at h;simp only[cond_true] at h;obtain ⟨v,hv,hx⟩:=h;exact Xg (v:=v) (D:=λw=>zl o=true→C w) E (λ_ h=>h) Y _ ls f w (λ_=>hC) ha J (.inl ⟨I,hv⟩) (YU hs pl _ _ _ hC V G hx)
end
end Go.Lg
namespace Go.Proofs.YtdffckgdcegpaaaGreatDoor
open Go.Lg
theorem Z0.lt_of {a:Int}{l:LI}(h:Z0 (a::l)) {x:Int}(hx:x∈l):a<x:=(L0.1 h).1 x hx
theorem Z0.tail {a:Int}{l:LI}(h:Z0 (a::l)):Z0 l:=(L0.1 h).2
theorem Qi7 (keep:Bool→Bool→Bool):∀(n:Nat) (a b:LI),a.length+b.length≤n→Z0 a→Z0 b→∀x,x∈mrg keep a b↔(x∈a∨x∈b)∧keep (decide (x∈a)) (decide (x∈b))=true:=by
 intro n;induction n with
 | zero =>
  intro a b h _ _ x;have ha:a=[]:=Ln (by omega);have hb:b=[]:=Ln (by omega);subst ha hb;simp[JB]
 | succ n ih =>
  intro a b E ia ib x;cases a with
  | nil =>
   cases b with
   | nil=>simp[JB]
   | cons y b =>
    rw[Jo keep (by simp)];have:=ih [] b (by simp at E ⊢;omega) ia ib.tail x;have hy:y∉b:=λh=>by have:=ib.lt_of h;omega
    simp only[Xv,tl,hx,cond_true,cond_false,List.tail_cons,List.headD_cons,List.mem_append];rw[this];by_cases e:x=y
    ·subst e;cases hk:keep false true <;> simp[hk,hy]
    cases keep false true <;> simp[e]
  | cons u a =>
   cases b with
   | nil =>
    rw[Jo keep (by simp)];have:=ih a [] (by simp at E ⊢;omega) ia.tail ib x;have hy:u∉a:=λh=>by have:=ia.lt_of h;omega
    simp only[Xv,tl,hx,cond_true,cond_false,List.tail_cons,List.headD_cons,List.mem_append];rw[this];by_cases e:x=u
    ·subst e;cases hk:keep true false <;> simp[hk,hy]
    cases keep true false <;> simp[e]
   | cons y b =>
    rw[Jo keep (by simp)];have hu:u∉a:=λh=>by have:=ia.lt_of h;omega
    have hy:y∉b:=λh=>by have:=ib.lt_of h;omega
    rcases Int.lt_trichotomy u y with h1 | h1 | h1
    ·have G:u∉y::b:=λh=>by
      rcases Lb.1 h with h | h
      ·omega
      have:=ib.lt_of h;omega
     have:=ih a (y::b) (by simp at E ⊢;omega) ia.tail ib x;have e1:decide (u≤y)=true:=decide_eq_true (by omega);have e2:decide (y≤u)=false:=decide_eq_false (by omega);simp only[Xv,tl,hx,e1,e2,cond_true,cond_false,List.tail_cons,List.headD_cons,List.mem_append];rw[this];by_cases e:x=u
     ·subst e;cases hk:keep true false <;> simp[hk,hu,G]
     cases keep true false <;> simp[e]
    ·subst h1;have:=ih a b (by simp at E ⊢;omega) ia.tail ib.tail x;have e1:decide (u≤u)=true:=decide_eq_true (by omega);simp only[Xv,tl,hx,e1,cond_true,List.tail_cons,List.headD_cons,List.mem_append];rw[this];by_cases e:x=u
     ·subst e;cases hk:keep true true <;> simp[hk,hu,hy]
     cases keep true true <;> simp[e]
    have G:y∉u::a:=λh=>by
     rcases Lb.1 h with h | h
     ·omega
     have:=ia.lt_of h;omega
    have:=ih (u::a) b (by simp at E ⊢;omega) ia ib.tail x;have e1:decide (u≤y)=false:=decide_eq_false (by omega);have e2:decide (y≤u)=true:=decide_eq_true (by omega);simp only[Xv,tl,hx,e1,e2,cond_true,cond_false,List.tail_cons,List.headD_cons,List.mem_append];rw[this];by_cases e:x=y
    ·subst e;cases hk:keep false true <;> simp[hk,hy,G]
    cases keep false true <;> simp[e]
theorem UU {keep:Bool→Bool→Bool}{a b:LI}(ia:Z0 a) (ib:Z0 b) (x:Int):x∈mrg keep a b↔(x∈a∨x∈b)∧keep (decide (x∈a)) (decide (x∈b))=true :=
 Qi7 keep _ a b (Lt _) ia ib x
def setK (m k:Nat):LI:=((List.range' 0 k).filter λi=>decide (((m / 2 ^ i) &&& 1)=1)).map λi:Nat=>(i:Int)
theorem VW (m k:Nat):setK m (k+1)=if (m / 2 ^ k) &&& 1=1 then setK m k++[(k:Int)] else setK m k:=by
 unfold setK;rw[Mg,L7,Lu,LG];by_cases h:(m / 2 ^ k) &&& 1=1
 ·rw[if_pos h,Mh,if_pos (decide_eq_true h)];rfl
 rw[if_neg h,Mh,if_neg (by rw[decide_eq_false h];simp),M9,Nu,LH]
theorem Xa (m:Nat):∀k,(setK m k).length≤k
 | 0=>by simp[setK]
 | k+1=>by
  have:=Xa m k;rw[VW];split
  ·simp;omega
  omega
theorem J4 (m k:Nat):Z0 (setK m k):=by
 unfold setK Z0;rw[Ms];refine List.Pairwise.sublist MB ?_;exact (M8 (s:=0) (n:=k)).imp (λh=>by omega)
open Go.Proofs.Tryz
instance ayCx1:Ay prog 119 4 5 1:=⟨by kernel_rfl,by kernel_rfl⟩
end Go.Proofs.YtdffckgdcegpaaaGreatDoor
namespace Go.Lg
section
variable {P:Program} {f:Fr} {w:World} {K:Fr→World→Prop} {d:Option Nat} {ty:Nat} {ps:String} {af:Array Edge} {gd:Option (Nat×Bool)}
theorem Uz {t ty e sz bys:Nat}{z:Value}[h:Sl P t e sz bys z] {base:Nat}{v:Value}{n:Nat}{cs:LV}(E:w.ownsRow base e sz v n cs) :
  (Builtin.append_ #[t,t] ty #[v,nS]).run P w=.ok v w:=by
 obtain ⟨i,hi,_,H,_⟩:=Sl.info h;rcases E.2 with ⟨rfl,rfl⟩ | ⟨g,cap,cur,rfl,I,J,G,S,V,Y⟩
 ·simp[Builtin.append_,run_underlying h.u,sizeOf,typeInfo,hi,Builtin.lenOf,Builtin.firstCells]
 simp[Builtin.append_,run_underlying h.u,sizeOf,typeInfo,hi,Builtin.lenOf,Builtin.firstCells,G,storeCells]
theorem yY {t e sz bys:Nat}{z:Value}[h:Sl P t e sz bys z] {s y:Operand}{base:Nat}{v:Value}{n:Nat}{cs:LV}(E:w.ownsRow base e sz v n cs) (hs:ev f s=v)
  {H:Value} {m:Nat} {news:LV} {L:LN} (G:Zs L w.heap H m sz news) (hy:ev f y=H) (h1:∀u∈news,u.oneCell'=true)
  (hb:n+m≤1099511627776) (J:base≤w.heap.size)
  (I:∀v' w',w'.ownsRow base e sz v' (n+m) (cs++news)→Step (ob v) w w'→(∀b∈ob v',b∈ob v∨w.heap.size≤b)→K (QV f d v') w') (S:bys≤128:=by decide) :
  XO P ⟨d,.call ⟨.builtin .append,#[s,y],#[t,t]⟩,ty,ps,af,gd⟩ f w K:=by
 rcases G.2.2 with ⟨e1,e2⟩ | ⟨a,c,e1,_,e3⟩
 ·subst e2;have V:news=[]:=Ln (by have:=G.1;simpa using this);subst V;have Y:(execOp (ev f) ⟨d,.call ⟨.builtin .append,#[s,y],#[t,t]⟩,ty,ps,af,gd⟩).run P w=.ok (.value v) w:=by
   simp[execOp,resolve,invoke,builtin,hs,hy,e1,Uz (ty:=ty) E]
  exact xv Y (I v w (by simpa using E) (Step.refl _ _) (λb hb=>.inl hb))
 exact Q5 E hs (hy.trans e1) G.1 e3 h1 hb J I S
end
end Go.Lg
namespace Go.Proofs.YtdffckgdcegpaaaGreatDoor
open Go.Proofs.Tryz
open Go.Lg
theorem Qdq {L:LN}{w:World}{v:Value}{l:LI}(h:QL L w.heap v l) (x:Int) :
  QK prog 254 [v,.int .i64 x] w λr w'=>r=.bool (decide (x∈l))∧w'=w:=by
 have J:=h.le;refine QK.of_W func254 O ntmps254 results254 (by simp) ?_;refine Qc<|Lg.Qe<|Qf<|Qc<|Lg.Qe<|Qh<|QA (α:=Nat) [(4,17)] (λk=>[(5,.int .i64 k)]) (λk w'=>w'=w∧k≤l.length∧(x∈l↔x∈l.drop k)) (λk=>l.length - k) (by rfl) 0 Z ⟨O,Ll _,by simp⟩ ?_;rintro k g w' ⟨rfl,hk,hm⟩;refine Qf<|Qc<|Lg.Qb<|Lg.Qb<|Lg.x (Qs h O)<|Lg.x (QB O O)<|xe<|QG rfl (λh9=>?_) (λh9=>?_)
 ·refine Qz<|Qc<|Lg.Qe<|Qn ⟨[.bool false],Z,?_,O⟩;rw[Lr (by omega)] at hm;simp[tup,hm]
 have H:k<l.length:=by omega
 have hd:=QX H;refine Qi<|Qf<|Qh<|Qc<|Lg.Qb<|Lg.Qb<|xii h O O H λS I=>Lg.x (Qw I O)<|Lg.Qb<|Lg.x (Q4 O O)<|xe<|Q7 rfl (λG=>?_) (λG=>?_)
 ·refine Qc<|Lg.Qe<|Qn ⟨[.bool true],Z,?_,O⟩;have:x∈l:=by rw[hm,hd,G];exact Lm
  simp[tup,this]
 refine Qi<|Qy<|Lg.Qb<|Lg.QO O O<|Lg.Qe<|⟨k+1,by omega,Z,O,by omega,?_⟩;rw[hm,hd,Lb];exact ⟨λh=>h.resolve_left (λe=>G e.symm),.inr⟩
theorem jU {L:LN}{w:World}{va vm ve:Value}{a:QN}(h:zj L w.heap ve a.ed) (s e:Int) (st:Int) :
  QK prog 255 [.agg #[va,.int .i64 st,vm,ve],.int .i64 s,.int .i64 e] w λr w'=>r=.int .i64 (nxt a.ed s e)∧Step [] w w':=by
 have hf:=h.le;refine QK.of_W func255 O ntmps255 results255 (by simp) ?_;refine Qc<|xl O<|QS (us:=[va,.int .i64 st,vm,ve]) O λb3 Y J hg G=>Lg.Qe ?_
 replace h:=h.ext J;refine Qf<|Qc<|Lg.Qe<|Qh<|QA (α:=Nat) [(6,38)] (λk=>[(7,.int .i64 k)]) (λk w'=>w'=Y∧k≤a.ed.length∧nxt (a.ed.drop k) s e=nxt a.ed s e) (λk=>a.ed.length - k) (by rfl) 0 Z ⟨O,Ll _,O⟩ ?_;rintro k g w2 ⟨rfl,hk,H⟩;refine Qf<|Qc<|Lg.Qb<|Lg.x (Qa O)<|Lg.x (Qd G O O)<|Lg.x (Qs h O)<|Lg.x (QB O O)<|xe<|QG rfl (λha=>?_) (λha=>?_)
 ·refine Qz<|Qc<|Lg.Qe<|Qn ⟨[.int .i64 (-1)],Z,?_,J⟩;rw[Lr (by omega)] at H;rw[←H];rfl
 have I:k<a.ed.length:=by omega
 have hd:=QX I;refine Qi<|Qf<|Qh<|QT (α:=Bool) [(15,32)] (λz=>[(32,.bool z)]) (λz w'=>w'=w2∧z=decide (a.ed[k].1=s∧a.ed[k].2.1=e)) (by rfl) ?_ ?_
 ·refine Qy<|Lg.x (Qa O)<|Lg.x (Qd G O O)<|Lg.Qb<|xie h O O I λhh hb=>Lg.x (Zo O)<|Lg.x (Qw (hb.fld 0 _ O) O) <|
   Lg.Qb<|xb (Q4 O O) (λS=>?_) (λS=>?_)
  ·refine Lg.Qb<|Lg.x (Qa O)<|Lg.x (Qd G O O)<|Lg.Qb<|xie h O O I λhj hc=>Lg.x (Zo O)<|Lg.x (Qw (hc.fld 1 _ O) O) <|
    Lg.Qb<|Lg.x (Q4 O O)<|Lg.x (Ql O)<|xe ?_
   exact ⟨_,Z,O,by simp[S]⟩
  refine Lg.Qb<|xs O<|xs O<|xs O<|xs O<|xs O<|xs O<|xs O<|xs O<|Lg.x (Ql O)<|xe ?_;exact ⟨_,Z,O,by simp[S]⟩
 rintro z g w3 ⟨rfl,rfl⟩;refine Q7 rfl (λV=>?_) (λV=>?_)
 ·refine Qc<|Lg.x (Qa O)<|Lg.x (Qd G O O)<|Lg.Qb<|xie h O O I λhl he=>Lg.x (Zo O)<|Lg.x (Qw (he.fld 2 _ O) O) <|
   Lg.Qe<|Qn ⟨[.int .i64 a.ed[k].2.2],Z,?_,J⟩
  rw[←H,hd,nxt,if_pos V];rfl
 refine Qi<|Qy<|Lg.Qb<|Lg.QO O O<|Lg.Qe<|⟨k+1,by omega,Z,O,by omega,?_⟩;rw[←H,hd,nxt,if_neg V]
def qF (l:LI) (n:Int):Int:=if n∈l then (l.idxOf n:Int) else -1
theorem QgQ {l:LI}{n:Int}{k:Nat}(h:n∉l.take k) (hk:k<l.length) (he:cget l k=n):qF l n=k:=by
 have hm:n∈l:=by rw[←he,←Za hk];exact Lc hk
 unfold qF;rw[if_pos hm];have hs:l=l.take k++l.drop k:=(MK k l).symm;have:l.idxOf n=k:=by
  rw[hs,Mi,if_neg h,LP hk,List.idxOf_cons,show l[k]=n by rw[Za hk];exact he];simp;omega
 rw[this]
theorem Qet {L:LN}{w:World}{v:Value}{l:LI}(h:QL L w.heap v l) (n:Int) :
  QK prog 256 [v,.int .i64 n] w λr w'=>r=.int .i64 (qF l n)∧w'=w:=by
 have J:=h.le;refine QK.of_W func256 O ntmps256 results256 (by simp) ?_;refine Qc<|Qe<|Qf<|Qc<|Qe<|Qh<|QA (α:=Nat) [(4,18)] (λz=>[(5,.int .i64 z)]) (λz w'=>w'=w∧z≤l.length∧n∉l.take z) (λz=>l.length - z) (by rfl) 0 Z ⟨O,Ll _,by simp⟩ ?_;rintro k g S ⟨rfl,hk,hm⟩;refine Qf<|Qc<|Qb<|Qb<|x (Qs h O)<|x (QB O O)<|xe<|QG rfl (λh9=>?_) (λh9=>?_)
 ·refine Qz<|Qc<|Qe ?_;rw[Lo (by omega)] at hm;exact Qn ⟨[.int .i64 (-1)],Z,by unfold qF;rw[if_neg hm];rfl,O⟩
 have G:k<l.length:=by omega
 refine Qi<|Qf<|Qh<|Qc<|Qb<|Qb<|xic (i:=k) h O O G λV I=>x (Qw I O)<|Qb<|x (Q4 O O)<|xe<|Q7 rfl (λH=>?_) (λH=>?_)
 ·refine Qc<|Qb<|Qe ?_;exact Qn ⟨[.int .i64 k],Z,by rw[QgQ hm G H];rfl,O⟩
 refine Qi<|Qy<|Qb<|QO O O<|Qe<|⟨k+1,by omega,Z,O,G,?_⟩;rw[Li G,Za G];simp only[List.mem_append,List.mem_singleton,not_or];exact ⟨hm,λe=>H e.symm⟩
theorem V8 {L:LN}{w:World}{v:Value}{l:LI}(h:QL L w.heap v l) (hl:l.length≤1000000) :
  QK prog 200 [v] w λr w'=>Step [] w w'∧∃va,r=.agg #[va,.int .i64 0,nS,nS]∧Qu 3 w.heap.size w' va l:=by
 refine QK.of_W func200 O ntmps200 results200 (by simp) ?_;refine Qc<|xl O<|Qt (us:=[nS,.int .i64 0,nS,nS]) O λb2 G V hf Y=>xe ?_;have hg:=V.size;have hh:=Y.lt;refine Qc<|xl O<|KS λb3 w2 H hj hk=>Qb<|?_;have ha:=V.trans H;have hr:=H.size;have I:w2.ownsRow G.heap.size 3 1 (.slice (some ⟨b3,0,none⟩) 0 0) 0 []:=hk.own (n:=0) (sz:=1) O (by omega) hj
 refine xl rfl<|yY I O (h.ext ha) O (Vo l) (by omega) (by omega) λva J hm hc ht=>?_;have S:Qu 3 G.heap.size J va l:=by
  have:J.ownsRow G.heap.size 3 1 va (0+l.length) ([]++l.map (.int .i64)):=hm;rw[LG,Mb] at this;exact this
 have hA:=Qu.ints (L:=[]) S (by omega) (by simp);have hn:=(Y.ext H).step hc (QM I hh);have ho:Step [] w J:=ha.then hc (λb hb=>.inr (by have:=(Qm I b hb).1;omega));refine x (QD ⟨hA.cells,U⟩)<|xl O<|Qo (us:=[va,.int .i64 0,nS,nS]) hn O O O O ⟨hA.one,O,O,O,U⟩ λw4 he hp=>xe ?_;have hq:=Qj S he (λb hb=>by have:=(Qm S b hb).1;simp;omega)
 exact Qn ⟨[.agg #[va,.int .i64 0,nS,nS]],⟨⟨_,O,Qv O (hp.at (L:=[]) (by simp)).cells⟩,U⟩,ho.then1 he hf,va,rfl,Zr hq hg⟩
theorem pig:∀(n:Nat) (l:LI),l.Nodup→(∀x∈l,0≤x∧x<n)→l.length≤n
 | 0,l,_,h=>by
  cases l with
  | nil=>simp
  | cons a l=>have:=h a Lm;omega
 | n+1,l,hd,h=>by
  by_cases hm:(n:Int)∈l
  ·have h1:=pig n (l.erase (n:Int)) (hd.erase _) (λx hx=>by
    have h2:=(List.Nodup.mem_erase_iff hd).1 hx;have h3:=h x h2.2;have G:x≠(n:Int):=h2.1;omega)
   rw[List.length_erase_of_mem hm] at h1;omega
  have:=pig n l hd (λx hx=>by
   have h3:=h x hx;have G:x≠(n:Int):=λe=>hm (by rw[←e];exact hx);omega)
  omega
def Vb (a:QN) (s:Int) (out:LI) (v:Int):LI:=if 0≤nxt a.ed s v∧nxt a.ed s v∉out then out++[nxt a.ed s v] else out
def fdR (a:QN) (out:LI) (s:Int):LI:=a.al.foldl (Vb a s) out
def yd (a:QN):Nat→Nat→LI→LI
 | 0,_,out=>out
 | f+1,i,out=>if i<out.length then yd a f (i+1) (fdR a out (cget out i)) else out
def fd0 (a:QN):LI:=if 0<a.st then [0] else []
def found (a:QN):LI:=yd a a.st.toNat 0 (fd0 a)
structure UH (a:QN) (out:LI):Prop where
 b:∀x∈out,0≤x∧x<a.st
 d:out.Nodup
theorem UH.len {a:QN}{out:LI}(h:UH a out) (G:0≤a.st):out.length≤a.st.toNat:=pig _ _ h.d (λx hx=>by have:=h.b x hx;omega)
theorem US {G:List Ed}{s v:Int}(h:0≤nxt G s v):(s,v,nxt G s v)∈G:=by
 induction G with
 | nil=>simp[nxt] at h
 | cons e G ih =>
  rw[nxt] at h ⊢;split at h
  ·rename_i he;rw[if_pos he];obtain ⟨p,q,r⟩:=e;obtain ⟨h1,h2⟩:=he;simp only[] at h1 h2;subst h1 h2;exact Lm
  rename_i he;rw[if_neg he];exact Lk _ (ih h)
theorem Qhe {a:QN}(G:Q2 a) {out:LI}(h:UH a out) (s v:Int):UH a (Vb a s out v):=by
 unfold Vb;split
 ·rename_i hc;have hm:=G.ed _ (US hc.1);refine ⟨λx hx=>?_,?_⟩
  ·rcases Lj.1 hx with hx | hx
   ·exact h.b x hx
   simp only[List.mem_singleton] at hx;subst hx;exact ⟨hc.1,hm.2.2.2.2⟩
  rw[MD];refine ⟨h.d,by simp,λx hx y hy=>?_⟩;simp only[List.mem_singleton] at hy;subst hy;exact λe=>hc.2 (by rw[←e];exact hx)
 exact h
theorem QjF {a:QN}{out:LI}{s v:Int}:∀x∈out,x∈Vb a s out v:=λx hx=>by unfold Vb;split;exact Lz _ hx;exact hx
theorem QlK {a:QN}{out:LI}{s v:Int}(h:0≤nxt a.ed s v):nxt a.ed s v∈Vb a s out v:=by
 unfold Vb;by_cases hm:nxt a.ed s v∈out
 ·rw[if_neg (λe=>e.2 hm)];exact hm
 rw[if_pos ⟨h,hm⟩];simp
theorem Qhc {a:QN}(G:Q2 a) (s:Int):∀(vs:LI) (out:LI),UH a out→UH a (vs.foldl (Vb a s) out)
 | [],_,h=>h
 | v::vs,_,h=>Qhc G s vs _ (Qhe G h s v)
theorem jp {a:QN}{s:Int}:∀(vs:LI) (out:LI),∀x∈out,x∈vs.foldl (Vb a s) out
 | [],_,_,hx=>hx
 | _::vs,_,x,hx=>jp vs _ x (QjF x hx)
theorem Qhd {a:QN}{s:Int}:∀(vs:LI) (out:LI),∀v∈vs,0≤nxt a.ed s v→nxt a.ed s v∈vs.foldl (Vb a s) out
 | v::vs,out,u,hu,h=>by
  rcases Lb.1 hu with rfl | hu
  ·exact jp vs _ _ (QlK h)
  exact Qhd vs _ u hu h
theorem Qdu {a:QN}{s:Int}:∀(vs:LI) (out:LI),∃r,vs.foldl (Vb a s) out=out++r
 | [],out=>⟨[],by simp⟩
 | v::vs,out=>by
  obtain ⟨r,G⟩:=Qdu (a:=a) (s:=s) vs (Vb a s out v);rw[LM,G];unfold Vb;split
  ·exact ⟨[nxt a.ed s v]++r,by simp⟩
  exact ⟨r,O⟩
theorem qY {l r:LI}{i:Nat}(h:i<l.length):cget (l++r) i=cget l i:=by
 rw[←Za h,←Za (by simp;omega),Mc h]
def Cl (a:QN) (out:LI) (i:Nat):Prop:=∀j,j<i→j<out.length→∀v∈a.al,0≤nxt a.ed (cget out j) v→nxt a.ed (cget out j) v∈out
theorem Cl.next {a:QN}{out:LI}{i:Nat}(h:Cl a out i) (hi:i<out.length):Cl a (fdR a out (cget out i)) (i+1):=by
 intro j V Y v H G;obtain ⟨r,S⟩:=Qdu (a:=a) (s:=cget out i) a.al out;have I:fdR a out (cget out i)=out++r:=S;have J:j<out.length:=by omega
 rw[I,qY J] at G ⊢;by_cases e:j=i
 ·subst e;have:=Qhd a.al out v H G;rw[←I];exact this
 exact Lz _ (h j (by omega) J v H G)
theorem Qhb {a:QN}(G:Q2 a):∀(f i:Nat) (out:LI),UH a out→Cl a out i→i+f=a.st.toNat→UH a (yd a f i out)∧Cl a (yd a f i out) (yd a f i out).length
 | 0,i,out,h,hc,J=>by
  have:=h.len G.st0;exact ⟨h,λj I H=>hc j (by rw[yd] at I;omega) H⟩
 | f+1,i,out,h,hc,J=>by
  rw[yd];split
  ·rename_i hi;exact Qhb G f (i+1) _ (Qhc G _ _ _ h) (hc.next hi) (by omega)
  rename_i hi;exact ⟨h,λj I H=>hc j (by omega) H⟩
theorem Qhf (a:QN):UH a (fd0 a):=by
 unfold fd0;split
 ·rename_i h;exact ⟨λx hx=>by simp only[List.mem_singleton] at hx;subst hx;exact ⟨by omega,h⟩,by simp⟩
 exact ⟨by simp,by simp⟩
theorem VB {a:QN}(I:Q2 a):UH a (found a)∧∀s∈found a,∀v∈a.al,0≤nxt a.ed s v→nxt a.ed s v∈found a:=by
 obtain ⟨h1,h2⟩:=Qhb I a.st.toNat 0 (fd0 a) (Qhf a) (λj G=>by omega) (by omega);refine ⟨h1,λs hs v J H=>?_⟩;obtain ⟨j,G,rfl⟩:=LD hs;have:=h2 j G G v J;unfold found at G H ⊢;rw[Za G] at H ⊢;exact this H
def JL (a:QN) (fd:LI) (i:Nat) (v:Int):Option Ed:=if 0≤nxt a.ed (cget fd i) v then some ((i:Int),v,qF fd (nxt a.ed (cget fd i) v)) else none
def YE (a:QN) (fd:LI) (n:Nat):LI:=((List.range' 0 n).filter λi=>decide (cget fd i∈a.mr)).map λi:Nat=>(i:Int)
def YR (a:QN) (fd:LI) (n:Nat):List Ed:=(List.range' 0 n).flatMap λi=>a.al.filterMap (JL a fd i)
def YI (a:QN):QN:=⟨a.al,(found a).length,YE a (found a) (found a).length,YR a (found a) (found a).length⟩
theorem Xu {β:Type}{r:Int→Int→Prop}{q:β→β→Prop}{g:Int→Option β}(G:∀x y u v,r x y→g x=some u→g y=some v→q u v):∀{l:LI},l.Pairwise r→(l.filterMap g).Pairwise q
 | [],_=>by simp
 | x::l,h=>by
  obtain ⟨h1,h2⟩:=L0.1 h;rw[Mn];split
  ·exact Xu G h2
  rename_i u hu;refine L0.2 ⟨λv H=>?_,Xu G h2⟩;obtain ⟨y,hy,I⟩:=My.1 H;exact G x y u v (h1 y hy) hu I
theorem jA {a:QN}(H:Q2 a):Q2 (YI a)∧(YI a).al=a.al∧(YI a).st≤a.st:=by
 obtain ⟨h1,h2⟩:=VB H;have hl:=h1.len H.st0;have h0:=H.st0;have h4:=H.st1;refine ⟨⟨H.al,H.ali,by simp[YI],by simp only[YI];omega,λs hs=>?_,?_,λe he=>?_,?_⟩,O,by simp only[YI];omega⟩
 ·simp only[YI,YE,List.mem_map,List.mem_filter,List.mem_range'_1] at hs;obtain ⟨i,⟨hi,_⟩,rfl⟩:=hs;simp only[YI];omega
 ·simp only[YI,YE];unfold Z0;rw[Ms];refine List.Pairwise.sublist MB ?_;exact (M8 (s:=0) (n:=(found a).length)).imp (λh=>by omega)
 ·simp only[YI,YR,List.mem_flatMap,List.mem_filterMap,List.mem_range'_1] at he;obtain ⟨i,⟨_,hi⟩,v,I,G⟩:=he;unfold JL at G;split at G
  ·rename_i S;cases G
   have J:i<(found a).length:=by omega
   have hm:=h2 (cget (found a) i) (by rw[←Za J];exact Lc J) v I S;have hx:=LZ hm;simp only[YI];unfold qF;rw[if_pos hm];exact ⟨by omega,by omega,I,by omega,by omega⟩
  cases G
 simp only[YI,YR];have key:∀(is:LN),is.Pairwise (·<·)→(is.flatMap λi=>a.al.filterMap (JL a (found a) i)).Pairwise λx y:Ed=>x.1<y.1∨(x.1=y.1∧x.2.1<y.2.1):=by
  intro is;induction is with
  | nil=>intro _;simp
  | cons i is ih =>
   intro hp;obtain ⟨V,Y⟩:=L0.1 hp;rw[LF,Mo];have from_i:∀(i:Nat) (e:Ed),e∈a.al.filterMap (JL a (found a) i)→e.1=i:=by
    intro i e he;obtain ⟨v,_,G⟩:=My.1 he;unfold JL at G;split at G
    ·cases G;rfl
    cases G
   refine ⟨?_,ih Y,λe he e' ha=>?_⟩
   ·refine Xu (r:=(·<·)) (λx y u v hb hu I=>?_) H.ali;unfold JL at hu I;split at hu
    ·cases hu;split at I
     ·cases I;exact .inr ⟨O,hb⟩
     cases I
    cases hu
   obtain ⟨j,hj,hc⟩:=Mv.1 ha;have e1:=from_i i e he;have e2:=from_i j e' hc;have:=V j hj;left;omega
 exact key _ (M8 (s:=0) (n:=(found a).length))
set_option maxHeartbeats 1000000 in
theorem Qeu {L:LN}{w:World}{va vm ve:Value}{a:QN}(h:Zv L w.heap va vm ve a) (ho:Q2 a) :
  QK prog 253 [.agg #[va,.int .i64 a.st,vm,ve]] w λr w'=>Step [] w w'∧Qu 3 w.heap.size w' r (found a):=by
 have h0:=ho.st0;have h1:=ho.st1;have hV:=ho.al_le;refine QK.of_W func253 O ntmps253 results253 (by simp) ?_;refine Qc<|xl O<|QS (us:=[va,.int .i64 a.st,vm,ve]) O λb1 S he hW hj=>Qe<|Qc<|Qe ?_;have hB:=he.size;have hX:=hj.lt;refine QT (α:=Value) [(3,3),(7,12)] (λz=>[(3,z)]) (λz w'=>Step [] S w'∧Qu 3 S.heap.size w' z (fd0 a)) (by rfl) ?_ ?_
 ·refine Qc<|x (Qa O)<|x (Qd hj O O)<|x (ZR O O)<|xe<|QG O (λh9=>?_) (λh9=>?_)
  ·refine Qi ?_;exact ⟨nS,Z,Step.refl _ _,by unfold fd0;rw[if_neg h9];exact QP _ _ _ _⟩
  refine Qy<|Qb<|xl O<|QC (us:=[[.int .i64 0]]) O O (by decide) (by simp) ⟨rfl,rfl,U⟩ λhY w2 hy hZ hC=>?_;have hn:w2.ownsRow S.heap.size 3 1 (nS) 0 []:=QP _ _ _ _;have ga:=hy.size;refine xl O<|Q5 (news:=[.int .i64 0]) (L:=[]) hn O O O (hC.at (by simp)) (by simp[Value.oneCell']) (by omega) (by omega) λv3 w3 hD hE gb =>
   Qe<|⟨v3,Z,hy.then hE (λb hb=>by simp[ob] at hb),?_⟩
  unfold fd0;rw[if_pos h9];exact hD
 rintro v0 g4 w4 ⟨hl,hF⟩;have gc:=he.trans hl;have ge:=hl.size;refine Zc (found a) λT hT=>?_;have hG:yd a a.st.toNat 0 (fd0 a)=T:=hT;refine Qf<|Qc<|Qe<|Qh<|QA (α:=Nat×LI×Value) [(3,6),(13,48)] (λz=>[(3,z.2.2),(4,.int .i64 z.1)])
  (λz w'=>Step [] S w'∧Qu 3 S.heap.size w' z.2.2 z.2.1∧UH a z.2.1∧z.1≤z.2.1.length∧yd a (a.st.toNat - z.1) z.1 z.2.1=T) (λz=>a.st.toNat - z.1) (by rfl) (0,fd0 a,v0) ⟨O,O,U⟩
  ⟨hl,hF,Qhf a,Ll _,hG⟩ ?_
 rintro ⟨i,out,v⟩ g5 w5 ⟨hm,V,G,hi,Y⟩;simp only[] at V G hi Y;have hz:=G.len h0;have h2:=Qu.ints (L:=[]) V (by omega) (by simp);refine Qf<|Qc<|Qb<|Qb<|x (Qs h2 O)<|x (QB O O)<|xe<|QG rfl (λh3=>?_) (λh3=>?_)
 ·have e:out=T:=by
   rw[←Y];generalize a.st.toNat - i=f;cases f with
   | zero=>rfl
   | succ f=>rw[yd,if_neg (by omega)]
  refine Qz<|Qc<|Qb<|Qe ?_;rw[e] at V;exact Qn ⟨[v],Z,he.trans hm,by rw[hT];exact Zr V hB⟩
 have I:i<out.length:=by omega
 have hH:a.st.toNat - i=(a.st.toNat - (i+1))+1:=by omega
 rw[hH,yd,if_pos I] at Y;refine Zc (cget out i) λs J=>?_;rw[J] at Y;refine Zc (fdR a out s) λR hR=>?_;rw[hR] at Y;unfold fdR at hR;refine Qi<|Qf<|Qh<|Qc<|Qe<|Qh<|QA (α:=Nat×LI×Value) [(3,3),(5,6),(19,48)] (λz=>[(3,z.2.2),(5,.int .i64 z.1)])
  (λz w'=>Step [] S w'∧Qu 3 S.heap.size w' z.2.2 z.2.1∧UH a z.2.1∧z.1≤a.al.length∧i<z.2.1.length∧cget z.2.1 i=s∧(a.al.drop z.1).foldl (Vb a s) z.2.1=R) (λz=>a.al.length - z.1) (by rfl) (0,out,v) ⟨O,O,U⟩
  ⟨hm,V,G,Ll _,I,J,hR⟩ ?_
 clear hm V G hi hz h2 I J hR h3;rintro ⟨k,out,v⟩ g6 w6 ⟨ha,hf,G,hk,I,J,H⟩;simp only[] at hf G hk I J H;have hz:=G.len h0;have h4:=(h.al.ext he).ext ha;have hp:=hj.ext ha;have h5:=Qu.ints (L:=[]) hf (by omega) (by simp);refine Qf<|Qc<|Qb<|x (Qa O)<|x (Qd hp O O)<|x (Qs h4 O)<|x (QB O O)<|xe<|QG rfl (λhI=>?_) (λhI=>?_)
 ·refine Qz<|Qy<|Qb<|QO O O<|Qe ?_;rw[Lr (by omega)] at H;have hJ:out=R:=H;exact ⟨(i+1,out,v),by simp only[];omega,⟨O,O,U⟩,ha,hf,G,I,by simp only[];rw[hJ];exact Y⟩
 have hg:k<a.al.length:=by omega
 rw[LP hg,LM,Za hg] at H;refine Zc (cget a.al k) λu hu=>?_;rw[hu] at H;have hK:=(h.ed.ext he).ext ha;refine Zc (nxt a.ed s u) λt ht=>?_;have hL:Vb a s out u=if 0≤t∧t∉out then out++[t] else out:=by unfold Vb;rw[ht]
 have hq:=Qhe ho G s u;rw[hL] at H hq;refine Qi<|Qf<|Qh<|Qf<|QW (Step [] w6) [(0,true),(1,true),(2,true),(3,true),(4,true),(5,true),(6,true),(7,true),(8,true),(9,true),(10,false),(11,true)] mixed (by rfl) (by kernel_rfl) (Step.drew _ _) ?_;refine pq (λ_ hc=>Qr (hp.ext hc) O O)<|p (λ_=>Qp)<|p (λ_=>Qp)<|pic (i:=i) O h5 O O I λgg h6=>?_;rw[J] at h6
 refine pq (λ_ hc=>Qw (h6.ext hc) O)<|p (λ_=>Qa O)<|pq (λ_ hc=>Qd (hp.ext hc) O O)<|p (λ_=>Qp) <|
  pic (i:=k) O h4 O O hg λgh h7=>?_
 rw[hu] at h7;have hsr:=jU (va:=va) (vm:=vm) (a:=a) (hK.ext (Step.drew [] w6)) s u a.st;rw[ht] at hsr;refine pq (λ_ hc=>Qw (h7.ext hc) O)<|pk<|xf<|hsr.mono ?_;rintro r7 w7 ⟨rfl,hM⟩;have hh:=(Step.drew [] w6).trans hM;refine ⟨hh,p (λ_=>Qg)<|pe ?_⟩;have h8:=Qq hf hh;have hN:=h5.ext hh
 refine QT (α:=Unit) [(37,44)] (λz=>[(44,.bool (decide (0≤t∧t∉out)))]) (λz w'=>w'=w7) (by rfl) ?_ ?_
 ·refine Qy<|Qb<|xb (ZV O O) (λhr=>?_) (λhr=>?_)
  ·refine Qb<|Qb<|Qb<|xl O<|xf<|(Qdq hN t).mono ?_;rintro r8 w8 ⟨rfl,rfl⟩;refine x (Zm O)<|x (Ql O)<|xe<|⟨(),⟨congrArg Value.bool ?_,U⟩,O⟩;show (!decide (t∈out))=_;rw[Bool.eq_iff_iff];simp[hr]
  refine Qb<|xs O<|xs O<|xs O<|xs O<|x (Ql O)<|xe ?_;exact ⟨(),⟨congrArg Value.bool (decide_eq_false (λe=>hr e.1)).symm,U⟩,O⟩
 rintro _ g9 w9 rfl;refine QG rfl (λhv=>?_) (λhv=>?_)
 ·rw[if_neg hv] at H;refine Qi<|Qy<|Qb<|QO O O<|Qe ?_;exact ⟨(k+1,out,v),by simp only[];omega,⟨O,O,U⟩,ha.trans hh,h8,G,hg,I,J,H⟩
 rw[if_pos hv] at H hq;have hA:=ha.trans hh;have gi:=hA.size;refine Qy<|Qb<|Qb<|xl O<|QC (us:=[[.int .i64 t]]) O O (by decide) (by simp) ⟨rfl,rfl,U⟩ λgj gk hw gl hO=>?_;have hP:=Qq h8 hw;have gm:=hw.size;refine xl rfl<|Q5 (news:=[.int .i64 t]) (L:=[]) hP O O O (hO.at (by simp)) (by simp[Value.oneCell']) (by omega) (by omega) λhQ gn hS hU go =>
  Qe ?_
 have hge:=Qm hf;refine Qy<|Qb<|QO O O<|Qe<|⟨(k+1,out++[t],hQ),by simp only[];omega,⟨O,O,U⟩,(hA.trans hw).then hU (λb hb=>.inr (hge b hb).1),Qu.snoc hS,hq,hg,by simp;omega,?_,H⟩;simp only[];rw[qY I];exact J
structure CrI (w7:World) (b4:Nat) (vcl:Value) (n:Int) (vm vd:Value) (M:LI) (E:List Ed) (w:World):Prop where
 st:Step [b4] w7 w
 B:QZ w.heap b4 58 [vcl,.int .i64 n,vm,vd]
 m:Qu 3 w7.heap.size w vm M
 e:Z8 144 w7.heap.size w vd E
 dj:Dj vm vd
section
variable {w7 w w' w'':World} {b4:Nat} {vcl:Value} {n:Int} {vm vd:Value} {M:LI} {E:List Ed}
theorem CrI.ext (h:CrI w7 b4 vcl n vm vd M E w) (hs:Step [] w w'):CrI w7 b4 vcl n vm vd M E w':=⟨h.st.trans hs,h.B.ext hs,Qq h.m hs,Qq h.e hs,h.dj⟩
theorem CrI.setM (h:CrI w7 b4 vcl n vm vd M E w) (hb:b4<w7.heap.size) {G:Value}{M':LI}(hs:Step (ob vm) w w') (hm:Qu 3 w7.heap.size w' G M') (J:∀b∈ob G,b∈ob vm∨w.heap.size≤b) (H:Step [b4] w' w'')
  (S:QZ w''.heap b4 58 [vcl,.int .i64 n,G,vd]):CrI w7 b4 vcl n G vd M' E w'' :=
 ⟨(h.st.then hs (λb hb=>.inr (Qm h.m b hb).1)).trans' H,S,Qj hm H (λb I=>by have:=(Qm hm b I).1;simp;omega),
  Qj (Qj h.e hs h.dj.symm) H (λb I=>by have:=(Qm h.e b I).1;simp;omega),(h.dj.symm.grow J (QR h.e)).symm⟩
theorem CrI.setE (h:CrI w7 b4 vcl n vm vd M E w) (hb:b4<w7.heap.size) {G:Value}{E':List Ed}(hs:Step (ob vd) w w') (hm:Z8 144 w7.heap.size w' G E') (J:∀b∈ob G,b∈ob vd∨w.heap.size≤b) (H:Step [b4] w' w'')
  (S:QZ w''.heap b4 58 [vcl,.int .i64 n,vm,G]):CrI w7 b4 vcl n vm G M E' w'' :=
 ⟨(h.st.then hs (λb hb=>.inr (Qm h.e b hb).1)).trans' H,S,Qj (Qj h.m hs h.dj) H (λb I=>by have:=(Qm h.m b I).1;simp;omega),
  Qj hm H (λb I=>by have:=(Qm hm b I).1;simp;omega),h.dj.grow J (QR h.m)⟩
end
theorem yk (a:QN) (fd:LI) (k:Nat):YE a fd (k+1)=if cget fd k∈a.mr then YE a fd k++[(k:Int)] else YE a fd k:=by
 unfold YE;rw[Mg,L7,Lu,LG];by_cases h:cget fd k∈a.mr
 ·rw[if_pos h,Mh,if_pos (decide_eq_true h)];rfl
 rw[if_neg h,Mh,if_neg (by rw[decide_eq_false h];simp),M9,Nu,LH]
theorem QaV (a:QN) (fd:LI):∀k,(YE a fd k).length≤k
 | 0=>by simp[YE]
 | k+1=>by
  have:=QaV a fd k;rw[yk];split
  ·simp;omega
  omega
theorem QeG (a:QN) (fd:LI) (k:Nat):YR a fd (k+1)=YR a fd k++a.al.filterMap (JL a fd k):=by
 unfold YR;rw[Mg,Ly,LG];simp
set_option maxHeartbeats 2000000 in
theorem zx {L:LN}{w:World}{va vm ve:Value}{a:QN}(h:Zv L w.heap va vm ve a) (V:Q2 a) :
  QK prog 201 [.agg #[va,.int .i64 a.st,vm,ve]] w λr w'=>Step [] w w'∧Y0 w.heap.size w'.heap r (YI a):=by
 have h0:=V.st0;have h1:=V.st1;have kv:=V.al_le;have gg:=(VB V).1;have gh:=gg.len h0;refine QK.of_W func201 O ntmps201 results201 (by simp) ?_;refine Zc (found a) λfd h2=>?_;rw[h2] at gh;have gi:YI a=⟨a.al,fd.length,YE a fd fd.length,YR a fd fd.length⟩:=by unfold YI;rw[h2]
 refine Qc<|xl O<|QS (us:=[va,.int .i64 a.st,vm,ve]) O λb1 w1 hH kw h3=>xl O<|Qt (us:=[nS,.int .i64 0,nS,nS]) O λb2 w2 hp kx hJ=>xe ?_;have Y:=hH.trans hp;have hfr:=Qeu (h.ext Y) V;rw[h2] at hfr;refine Qc<|x (Qr (h3.ext hp) O O)<|xl O<|xf<|hfr.mono ?_;rintro vf w3 ⟨hq,gj⟩;refine Qe ?_;have hK:=Y.trans hq;have hL:=(h3.ext hp).ext hq
 refine Qc<|x (Qa O)<|x (Qd hL O O)<|xl O<|xf<|(V8 (h.al.ext hK) (by omega)).mono ?_;rintro r4 w4 ⟨hM,vcl,rfl,ha⟩;have hN:=Qu.ints (L:=[]) ha (by omega) (by simp);refine xl rfl<|Qt (us:=[nS,.int .i64 0,nS,nS]) O λb4 w5 gk gl gm =>
  xl rfl<|Qo (us:=[vcl,.int .i64 0,nS,nS]) gm O O O O ⟨hN.one,O,O,O,U⟩ λw6 gn hO=>xe ?_
 have h4:Step [] w4 w6:=gk.then1 gn gl;have he:=hM.trans h4;have hP:=Qu.ints (L:=[]) gj (by omega) (by simp);have ky:=hH.size;have kz:=hp.size;have k0:=hq.size;have k4:=hM.size;have k5:=h4.size;have k6:=h3.lt;have k7:=hJ.lt;have k8:=hO.lt;refine Qc<|Qb<|x (Qs hP O)<|x (Qa O)<|xl O<|QF (u:=.int .i64 fd.length) hO O O (by simp) rfl λw7 J go=>xe ?_
 have k9:=J.size;have ma:Step [b4] w3 w7:=(he.any (L:=[b4])).trans' J;have hQ:Step [] w w7:=(hK.trans he).then1 J (by omega);have hR:QL [b4] w7.heap vf fd:=((hP.up (L':=[b4]) (λb hb=>.inr (by simp at hb;omega))).ext he).st J;have h5:Zv [b4] w7.heap va vm ve a:=(h.up (λb hb=>.inr (by simp at hb;omega))).ext hQ
 have gp:Qu 3 w3.heap.size w7 vcl a.al:=Qj (Qq ha h4) J (λb hb=>by have:=QR ha b hb;simp;omega);have hS:=(hL.ext he).step J (by simp;omega);have gq:=((hJ.ext hq).ext he).step J (by simp;omega);have hf:b4<w7.heap.size:=by omega
 have n1:b1∉[b4]:=by simp;omega
 have n2:b2∉[b4]:=by simp;omega
 refine Qf<|Qc<|Qe<|Qh<|QA (α:=Nat×Value×Value) [(5,7),(16,69)] (λz=>[(5,.int .i64 z.1)])
  (λz w'=>z.1≤fd.length∧CrI w7 b4 vcl fd.length z.2.1 z.2.2 (YE a fd z.1) (YR a fd z.1) w'∧(YR a fd z.1).length≤z.1*32) (λz=>fd.length - z.1) (by rfl) (0,nS,nS) Z
  ⟨Ll _,⟨Step.refl _ _,go,QP _ _ _ _,QP _ _ _ _,Dj.nil' _⟩,Ll _⟩ ?_
 rintro ⟨i,v1,v2⟩ g8 w8 ⟨hi,G,h6⟩;simp only[] at hi G h6;have gr:=QaV a fd i;have hT:=hR.st G.st;refine Qf<|Qc<|Qb<|Qb<|x (Qs hT O)<|x (QB O O)<|xe<|QG rfl (λgs=>?_) (λgs=>?_)
 ·have gt:i=fd.length:=by omega
  rw[gt] at G h6 gr;refine Qz ?_;have gu:=Qu.ints (L:=[]) G.m (by omega) (by simp);have gv:=Z8.eds (L:=[]) G.e (by omega) (by simp);refine Qc<|x (Qr G.B O O)<|xl O<|Qo (us:=[vcl,.int .i64 fd.length,v1,v2]) (gq.step G.st n2) O O O O ⟨hN.one,O,gu.one,gv.one,U⟩ λw9 hr gw=>xe ?_
  refine Qn ⟨[.agg #[vcl,.int .i64 fd.length,v1,v2]],⟨⟨_,O,Qv O (gw.at (L:=[]) (by simp)).cells⟩,U⟩,(hQ.then1 G.st (by omega)).then1 hr (by omega),?_⟩;rw[gi];have k1:=Qj (Qj gp G.st (λb hb=>by have:=QR ha b hb;simp;omega)) hr (λb hb=>by have:=(Qm ha b hb).1;simp;omega);have k2:=Qj G.m hr (λb hb=>by have:=(Qm G.m b hb).1;simp;omega)
  have k3:=Qj G.e hr (λb hb=>by have:=(Qm G.e b hb).1;simp;omega);refine ⟨vcl,v1,v2,O,λL' h7=>⟨?_,?_,?_⟩⟩
  ·exact Qu.ints k1 (by show a.al.length≤_;omega) (λb hb=>by have:=h7 b hb;omega)
  ·exact Qu.ints k2 (by show (YE a fd fd.length).length≤_;omega) (λb hb=>by have:=h7 b hb;omega)
  exact Z8.eds k3 (by show (YR a fd fd.length).length≤_;omega) (λb hb=>by have:=h7 b hb;omega)
 have h8:i<fd.length:=by omega
 refine Zc (cget fd i) λs hv=>?_;have hg:=yk a fd i;rw[hv] at hg;refine Qi<|Qf<|Qh<|QT (α:=Value) [(22,34)] (λz=>[]) (λz w'=>CrI w7 b4 vcl fd.length z v2 (YE a fd (i+1)) (YR a fd i) w') (by rfl) ?_ ?_
 ·have gx:=h5.st G.st;have gy:=hS.step G.st n1;refine Qf<|QW (Step [] w8) [(0,true),(1,true),(2,true),(3,true),(4,true),(5,true),(6,false)] mixed (by rfl) (by kernel_rfl) (Step.drew _ _) ?_;refine p (λ_=>Qa O)<|pq (λ_ hc=>Qd (gy.ext hc) O O)<|p (λ_=>Qp)<|p (λ_=>Qp)<|pic (i:=i) O hT O O h8 λmc hU=>?_;rw[hv] at hU
  refine pq (λ_ hc=>Qw (hU.ext hc) O)<|pk<|xf<|(Qdq (gx.mr.ext (Step.drew [] w8)) s).mono ?_;rintro mf mg ⟨rfl,rfl⟩;have h9:=G.ext (Step.drew [] w8);refine ⟨Step.drew _ _,pe ?_⟩;refine QG O (λhA=>?_) (λhA=>?_)
  ·rw[if_neg hA] at hg;refine Qi ?_;exact ⟨v1,U,by rw[hg];exact h9⟩
  rw[if_pos hA] at hg;refine Qy<|x (Qa O)<|x (Qd h9.B O O)<|Qb<|xl O<|QC (us:=[[.int .i64 i]]) O O (by decide) (by simp) ⟨rfl,rfl,U⟩ λmh mj gz mo g0=>?_;have hh:=h9.ext gz;refine xl O<|Q5 (news:=[.int .i64 i]) (L:=[]) hh.m O O O (g0.at (by simp)) (by simp[Value.oneCell']) (by omega) hh.st.size λhV g2 g3 Y g4=>?_
  have hW:Qu 3 w7.heap.size g2 hV (YE a fd i++[(i:Int)]):=Qu.snoc g3;refine x (Qa O)<|xl O<|QF (hh.B.step Y (QM hh.m hf)) O O (by simp) (Qu.ints (L:=[]) hW (by simp;omega) (by simp)).one λmq g5 g6 =>
   xe ?_
  exact ⟨hV,U,by rw[hg];exact hh.setM hf Y hW g4 g5 g6⟩
 rintro v3 ms mt g7;refine Zc (YR a fd (i+1)) λE1 hB=>?_;have hX:=QeG a fd i;rw[hB] at hX;refine Qc<|Qe<|Qh<|QA (α:=Nat×List Ed×Value) [(6,7),(35,69)] (λz=>[(6,.int .i64 z.1)])
  (λz w'=>z.1≤a.al.length∧CrI w7 b4 vcl fd.length v3 z.2.2 (YE a fd (i+1)) z.2.1 w'∧z.2.1.length≤i*32+z.1∧z.2.1++(a.al.drop z.1).filterMap (JL a fd i)=E1) (λz=>a.al.length - z.1) (by rfl) (0,YR a fd i,v2) Z
  ⟨Ll _,g7,h6,hX.symm⟩ ?_
 rintro ⟨k,E,vd⟩ mu hC ⟨hk,I,g9,H⟩;simp only[] at hk I g9 H;have hD:=h5.st I.st;have hw:=hS.step I.st n1;have hY:=hR.st I.st;refine Qf<|Qc<|Qb<|x (Qa O)<|x (Qd hw O O)<|x (Qs hD.al O)<|x (QB O O)<|xe<|QG rfl (λka=>?_) (λka=>?_)
 ·refine Qz<|Qy<|Qb<|QO O O<|Qe ?_;rw[Lr (by omega),List.filterMap_nil,LH] at H;refine ⟨(i+1,v3,vd),by simp only[];omega,Z,h8,?_,?_⟩
  ·simp only[];rw[hB,←H];exact I
  simp only[];rw[hB,←H];omega
 have S:k<a.al.length:=by omega
 refine Zc (cget a.al k) λu hu=>?_;rw[LP S,Za S,hu,Mn] at H;refine Zc (nxt a.ed s u) λt ht=>?_;have kb:JL a fd i u=if 0≤t then some ((i:Int),u,qF fd t) else none:=by unfold JL;rw[hv,ht]
 rw[kb] at H;have hsr:=jU (va:=va) (vm:=vm) (a:=a) (hD.ed.ext (Step.drew [] hC)) s u a.st;rw[ht] at hsr;refine Qi<|Qf<|Qh<|Qf<|QW (Step [] hC) [(0,true),(1,true),(2,true),(3,true),(4,true),(5,true),(6,true),(7,true),(8,true),(9,true),(10,false),(11,true)] mixed (by rfl) (by kernel_rfl) (Step.drew _ _) ?_
 refine pq (λ_ hc=>Qr (hw.ext hc) O O)<|p (λ_=>Qp)<|p (λ_=>Qp)<|pic (i:=i) O hY O O h8 λmv hZ=>?_;rw[hv] at hZ;refine pq (λ_ hc=>Qw (hZ.ext hc) O)<|p (λ_=>Qa O)<|pq (λ_ hc=>Qd (hw.ext hc) O O)<|p (λ_=>Qp) <|
  pic (i:=k) O hD.al O O S λmw ga=>?_
 rw[hu] at ga;refine pq (λ_ hc=>Qw (ga.ext hc) O)<|pk<|xf<|hsr.mono ?_;rintro my hz ⟨rfl,kc⟩;have hj:=(Step.drew [] hC).trans kc;refine ⟨hj,p (λ_=>Qg)<|pe ?_⟩;have hm:=I.ext hj;have ke:=hw.ext hj;have kf:=hY.ext hj;refine Qc<|Qb<|x (ZV O O)<|xe<|QG rfl (λhE=>?_) (λhE=>?_)
 ·rw[if_neg hE] at H;refine Qi<|Qy<|Qb<|QO O O<|Qe ?_;exact ⟨(k+1,E,vd),by simp only[];omega,Z,S,hm,by simp only[];omega,H⟩
 rw[if_pos hE] at H;have kg:=Qm I.e;have kh:QL (b4::ob vd) hz.heap va a.al:=(((h5.al.up (L':=b4::ob vd) (λb hb=>by
  rcases Lb.1 hb with rfl | hb
  ·exact .inl (by simp)
  exact .inr (kg b hb).1)).step I.st (by simp)).ext hj)
 have ki:=QM hm.e hf;have kj:b1∉ob vd:=QM hm.e (by omega);refine QW (Step (ob vd) hz) [(0,true),(1,true),(2,true),(3,true),(4,true),(5,true),(6,true),(7,true),(8,true),(9,true),(10,false),(11,true),(12,false),(13,false),(14,true),(15,false)] mixed (by rfl) (by kernel_rfl) (Step.drew _ _) ?_
 refine p (λ_=>Qa O)<|pq (λ_ hc=>Qd (hm.B.step hc ki) O O)<|p (λ_=>Qp)<|p (λ_=>Qa O)<|pq (λ_ hc=>Qd (ke.step hc kj) O O) <|
  p (λ_=>Qp)<|pic (i:=k) O kh O O S λmz gb=>?_
 rw[hu] at gb;refine pq (λ_ hc=>Qw (gb.step hc (λb hb=>Lk _ hb)) O)<|p (λ_=>Qp)<|p (λ_=>Qp) <|
  pk<|xf<|(Qet (kf.ext (Step.drew [] hz)) t).mono ?_
 rintro m0 m1 ⟨rfl,rfl⟩;refine ⟨Step.drew _ _,p (λ_=>QD ⟨O,O,O,U⟩)<|pk<|QC (us:=[Qx ((i:Int),u,qF fd t)]) O O (by decide) (by exact (by decide:1*3≤1000000)) ⟨O,O,U⟩ λm2 m3 kk m4 kn=>?_⟩;have hF:=(Step.drew [] hz).trans kk;have hn:=hm.ext hF;refine ⟨hF.any,?_⟩
 refine pk<|Q5 (news:=Qx ((i:Int),u,qF fd t)) (L:=[]) hn.e O O O (kn.at (by simp)) (λy hy=>by simp only[Qx,List.mem_cons,List.not_mem_nil,or_false] at hy;rcases hy with rfl | rfl | rfl <;> rfl) (by omega) hn.st.size λgc ko kp hG kq=>⟨(hF.any (L:=ob vd)).trans' hG,?_⟩
 have ge:Z8 144 w7.heap.size ko gc (E++[((i:Int),u,qF fd t)]):=Z8.snoc kp;refine p (λ_=>Qa O)<|pkl (hl:=by kernel_rfl)<|QF (hn.B.step hG (QM hn.e hf)) O O (by simp) (Z8.eds (L:=[]) ge (by simp;omega) (by simp)).one λm5 kr kt =>
  pe ?_
 have ku:=hn.setE hf hG ge kq kr kt;refine Qy<|Qb<|QO O O<|Qe<|⟨(k+1,E++[((i:Int),u,qF fd t)],gc),by simp only[];omega,Z,S,ku,by simp;omega,?_⟩;simp only[List.append_assoc,List.singleton_append];exact H
end Go.Proofs.YtdffckgdcegpaaaGreatDoor
namespace Go.Lg
section
variable {P:Program} {f:Fr} {w:World} {d:Option Nat} {ty:Nat} {ps:String} {af:Array Edge} {gd:Option (Nat×Bool)}
theorem Ul {t G:Nat}{x y:Operand}{k:IntKind}{a b:Int}(hx:ev f x=.int k a) (hy:ev f y=.int k b) (ha:0≤a) (hb:0<b) :
  (execOp (ev f) ⟨d,.binOp .rem t x y G,ty,ps,af,gd⟩).run P w=.ok (.value (.int k (a % b))) w:=by
 refine Xb hx hy ?_;have h1:¬b=0:=by omega
 simp[binOp,Op.intDiv,h1,Int.tmod_eq_emod_of_nonneg ha]
end
end Go.Lg
namespace Go.Proofs.YtdffckgdcegpaaaGreatDoor
open Go.Proofs.Tryz
open Go.Lg
instance ayMa1:Ay prog 26 5 22 5:=⟨by kernel_rfl,by kernel_rfl⟩
instance ayMa2:Ay prog 22 5 5 1:=⟨by kernel_rfl,by kernel_rfl⟩
abbrev bys (ns:LN):LV:=ns.map λn:Nat=>.int .u8 (n:Int)
theorem Ud {ns:LN}{j:Nat}(h:j<ns.length):(bys ns)[j]?=some (.int .u8 ((ns.getD j 0:Nat):Int)):=by simp[bys,List.getD,h]
theorem QaX:∀(ns:LN),ZQ (bys ns)
 | []=>trivial
 | _::ns=>⟨rfl,QaX ns⟩
theorem Xw {ns:LN}(h:∀n∈ns,n<256) (j:Nat):ns.getD j 0<256:=by
 by_cases G:j<ns.length
 ·simp only[List.getD,List.getElem?_eq_getElem G,Option.getD_some];exact h _ (Lc G)
 simp[List.getD,G]
structure GrI (al:LI) (S i k:Nat) (M:LI) (E:List Ed):Prop where
 mb:∀x∈M,0≤x∧x<S
 mi:Z0 M
 ml:∀x∈M,x<(i:Int)+1
 mn:M.length≤S
 eb:∀e∈E,0≤e.1∧e.1<S∧e.2.1∈al∧0≤e.2.2∧e.2.2<S
 ei:E.Pairwise λx y=>x.1<y.1∨(x.1=y.1∧x.2.1<y.2.1)
 el:∀e∈E,e.1<i∨(e.1=i∧e.2.1∈al.take k)
 en:E.length≤i*5+k
theorem QjA {S:Nat}{M:LI}(hb:∀x∈M,0≤x∧x<S) (hi:Z0 M):M.length≤S:=pig S M (hi.imp (λh=>by omega)) hb
theorem GrI.mark {al:LI}{S i:Nat}{M:LI}{E:List Ed}(h:GrI al S i 0 M E) (hm:∀x∈M,x<(i:Int)) (hi:i<S):GrI al S i 0 (M++[(i:Int)]) E:=by
 have G:∀x∈M++[(i:Int)],0≤x∧x<S:=λx hx=>by
  rcases Lj.1 hx with hx | hx
  ·exact h.mb x hx
  simp only[List.mem_singleton] at hx;omega
 have H:Z0 (M++[(i:Int)]):=by
  refine Mo.2 ⟨h.mi,by simp,λx hx y hy=>?_⟩;simp only[List.mem_singleton] at hy;subst hy;exact hm x hx
 refine ⟨G,H,λx hx=>?_,QjA G H,h.eb,h.ei,h.el,h.en⟩;rcases Lj.1 hx with hx | hx
 ·have:=hm x hx;omega
 simp only[List.mem_singleton] at hx;omega
theorem GrI.skip {al:LI}{S i k:Nat}{M:LI}{E:List Ed}(h:GrI al S i k M E) (hk:k<al.length):GrI al S i (k+1) M E :=
 ⟨h.mb,h.mi,h.ml,h.mn,h.eb,h.ei,λe he=>(h.el e he).imp id (λx=>⟨x.1,by rw[Li hk];exact Lz _ x.2⟩),by have:=h.en;omega⟩
theorem GrI.edge {al:LI}{S i k:Nat}{M:LI}{E:List Ed}(h:GrI al S i k M E) (hk:k<al.length) (ha:Z0 al) (hi:i<S) {t:Int}(G:0≤t) (ht:t<S):GrI al S i (k+1) M (E++[((i:Int),cget al k,t)]):=by
 have H:cget al k∈al:=Jt hk;refine ⟨h.mb,h.mi,h.ml,h.mn,λe he=>?_,?_,λe he=>?_,by have:=h.en;simp;omega⟩
 ·rcases Lj.1 he with he | he
  ·exact h.eb e he
  simp only[List.mem_singleton] at he;subst he;exact ⟨by simp only[];omega,by simp only[];omega,H,G,ht⟩
 ·refine Mo.2 ⟨h.ei,by simp,λx hx y hy=>?_⟩;simp only[List.mem_singleton] at hy;subst hy;rcases h.el x hx with h1 | ⟨h1,h2⟩
  ·left;exact h1
  right;refine ⟨h1,?_⟩;simp only[];have hp:Z0 (al.take k++al.drop k):=by rw[MK];exact ha
  refine (Mo.1 hp).2.2 _ h2 _ ?_;rw[LP hk,Za hk];exact Lm
 rw[Li hk,Za hk];rcases Lj.1 he with he | he
 ·exact (h.el e he).imp id (λx=>⟨x.1,Lz _ x.2⟩)
 simp only[List.mem_singleton] at he;subst he;exact .inr ⟨O,LU _ (by simp)⟩
theorem GrI.next {al:LI}{S i k:Nat}{M:LI}{E:List Ed}(h:GrI al S i k M E) (hk:k≤5):GrI al S (i+1) 0 M E :=
 ⟨h.mb,h.mi,λx hx=>by have:=h.ml x hx;omega,h.mn,h.eb,h.ei,λe he=>by rcases h.el e he with h1 | h1 <;> (left;omega),by have:=h.en;omega⟩
set_option maxHeartbeats 2000000 in
theorem Qek {L:LN}{w:World}{v:Value}{al:LI}{ns:LN}(h:QL L w.heap v al) (hb:∀e∈al,0≤e∧e<32) (hi:Z0 al) (hn:ns.length=27) (hu:∀n∈ns,n<256) :
  QK prog 130 [v,.agg (bys ns).toArray] w λr w'=>Step [] w w'∧∃a:QN,Y0 w.heap.size w'.heap r a∧Q2 a∧a.st≤5∧a.al=al ∧
   (ns.getD 0 0<250→∃a0:QN,Q2 a0∧0<a0.st∧a0.st≤((1+ns.getD 0 0 % 5:Nat):Int)∧a=YI a0):=by
 have kz:al.length≤32:=pig 32 al (hi.imp (λh=>by omega)) (λx hx=>by have:=hb x hx;omega);refine QK.of_W func130 O ntmps130 results130 (by simp) ?_;have g0:=Ud (ns:=ns) (j:=0) (by omega);have g1:=Ud (ns:=ns) (j:=1) (by omega);have l0:=Xw hu 0;have l1:=Xw hu 1;refine Zc (ns.getD 0 0) λs0 gb=>?_;refine Zc (ns.getD 1 0) λm1 gc=>?_;rw[gb] at g0 l0;rw[gc] at g1 l1
 refine Qc<|xl O<|QS (us:=bys ns) O λb3 w1 h9 k0 hA=>xl O<|Qt (us:=[nS,.int .i64 0,nS,nS]) O λb4 w2 hv k4 hw=>xe ?_;have hr:=h9.trans hv;have hz:=hA.ext hv;have k5:=h9.size;have k6:=hv.size;have k7:=hA.lt;have k8:=hw.lt;refine Qf<|Qc<|x (Qa O)<|x (Qd hz O g0)<|x (ZV O O)<|xe<|Q7 rfl (λge=>?_) (λge=>?_)
 ·refine Qc<|Qb<|xl O<|xf<|(V8 (h.ext hr) (by omega)).mono ?_;rintro r3 w3 ⟨hB,vcl,rfl,V⟩;have h0:=Qu.ints (L:=[]) V (by omega) (by simp);refine xl O<|Qo (us:=[vcl,.int .i64 0,nS,nS]) (hw.ext hB) O O O O ⟨h0.one,O,O,O,U⟩ λw4 hC gg=>xe ?_;have gh:=Qj V hC (λb hb=>by have:=(Qm V b hb).1;simp;omega)
  refine Qn ⟨[.agg #[vcl,.int .i64 0,nS,nS]],⟨⟨_,O,Qv O (gg.at (L:=[]) (by simp)).cells⟩,U⟩,(hr.trans hB).then1 hC (by omega),⟨al,0,[],[]⟩,?_,?_,(by decide:(0:Int)≤5),rfl,λh=>absurd h (by omega)⟩
  ·exact ⟨vcl,_,_,O,λL' gi=>⟨Qu.ints gh (by show al.length≤_;omega) (λb hb=>by have:=gi b hb;omega),Zs.nil _ _ _,Zs.nil _ _ _⟩⟩
  exact ⟨hb,hi,(by decide:(0:Int)≤0),(by decide:(0:Int)≤4096),by simp,by simp,by simp,by simp⟩
 refine Qi<|Qc<|Qb<|xl O<|xf<|(V8 (h.ext hr) (by omega)).mono ?_;rintro r5 w5 ⟨hD,vcl,rfl,V⟩;have h0:=Qu.ints (L:=[]) V (by omega) (by simp);refine xl rfl<|Qt (us:=[nS,.int .i64 0,nS,nS]) O λH w6 gk gl gm =>
  xl rfl<|Qo (us:=[vcl,.int .i64 0,nS,nS]) gm O O O O ⟨h0.one,O,O,O,U⟩ λw7 gn hE=>xe ?_
 have h1:Step [] w5 w7:=gk.then1 gn gl;have hh:=hD.trans h1;have k9:=hD.size;have ma:=h1.size;have mc:=hE.lt;refine Zc (1+s0 % 5) λS hS=>?_;have mf:1≤S∧S≤5:=by omega
 have go:(1:Int)+(s0:Int) % 5=(S:Int):=by omega
 refine Qc<|x (Qa O)<|x (Qd (hz.ext hh) O g0)<|x (Ul (a:=(s0:Int)) (b:=5) O O (by omega) (by omega))<|x (ZL (k':=.i64) O ⟨by omega,by omega⟩)<|QO O O<|x (Qa O) <|
  xl rfl<|QF (u:=.int .i64 S) hE O (congrArg (Value.int .i64) go) (by simp) rfl λI he gp=>xe ?_
 have mg:=he.size;have mh:Step [H] w2 I:=(hh.any (L:=[H])).trans' he;have hH:Step [] w I:=(hr.trans hh).then1 he (by omega);have hJ:QL [H] I.heap v al:=(h.up (L':=[H]) (λb hb=>.inr (by simp at hb;omega))).ext hH;have gq:Qu 3 w2.heap.size I vcl al:=Qj (Qq V h1) he (λb hb=>by have:=QR V b hb;simp;omega);have hK:=(hz.ext hh).step he (by simp;omega)
 have gr:=(hw.ext hh).step he (by simp;omega);have hj:H<I.heap.size:=by omega
 have n3:b3∉[H]:=by simp;omega
 have n4:b4∉[H]:=by simp;omega
 refine Qf<|Qc<|Qe<|Qh<|QA (α:=Nat×Value×Value×LI×List Ed) [(6,8),(22,76)] (λz=>[(6,.int .i64 z.1)])
  (λz w'=>z.1≤S∧CrI I H vcl S z.2.1 z.2.2.1 z.2.2.2.1 z.2.2.2.2 w'∧GrI al S z.1 0 z.2.2.2.1 z.2.2.2.2∧∀x∈z.2.2.2.1,x<(z.1:Int)) (λz=>S - z.1) (by rfl) (0,nS,nS,[],[]) Z
  ⟨Ll _,⟨Step.refl _ _,gp,QP _ _ _ _,QP _ _ _ _,Dj.nil' _⟩,⟨by simp,by simp,by simp,by simp,by simp,by simp,by simp,by simp⟩,by simp⟩ ?_
 rintro ⟨i,v1,v2,M,E⟩ g9 w9 ⟨gs,G,J,hM⟩;simp only[] at gs G J hM;have mj:=J.mn;have mo:=J.en;refine Qf<|Qc<|Qb<|x (Qa O)<|x (Qd G.B O O)<|x (QB O O)<|xe<|QG rfl (λgt=>?_) (λgt=>?_)
 ·have mq:i=S:=by omega
  refine Qz ?_;have gu:=Qu.ints (L:=[]) G.m (by omega) (by simp);have gv:=Z8.eds (L:=[]) G.e (by omega) (by simp);have gw:Qu 3 w2.heap.size w9 vcl al:=Qj gq G.st (λb hb=>by have:=QR V b hb;simp;omega);have gx:Zv [] w9.heap vcl v1 v2 ⟨al,(S:Int),M,E⟩:=⟨Qu.ints gw (by show al.length≤_;omega) (by simp),gu,gv⟩
  have h2:Q2 ⟨al,(S:Int),M,E⟩:=⟨hb,hi,by simp only[];omega,by simp only[];omega,J.mb,J.mi,J.eb,J.ei⟩;have h3:=jA h2;have hL:Step [] w w9:=hH.then1 G.st (by omega);have gy:=gr.step G.st n4;have ms:=G.st.size;refine Qc<|x (Qr G.B O O)<|xl O<|xf<|(zx (a:=⟨al,(S:Int),M,E⟩) gx h2).mono ?_;rintro vr mt ⟨hN,hF⟩;obtain ⟨us,hO,hP,gz⟩:=Y5 hF
  refine xl O<|Qo (us:=us) (gy.ext hN) O hO hP O gz λmu hQ g2=>xe ?_;have g3:=hL.size;refine Qn ⟨[.agg us.toArray],⟨⟨_,O,Qv hP (g2.at (L:=[]) (by simp)).cells⟩,U⟩,(hL.trans hN).then1 hQ (by omega),YI ⟨al,(S:Int),M,E⟩,?_,h3.1,?_,h3.2.1,λ_=>⟨⟨al,(S:Int),M,E⟩,h2,by simp only[];omega,by simp only[];omega,O⟩⟩
  ·show Y0 _ _ (.agg us.toArray) _;rw[←hO];exact (Xi hF (by omega) hQ).mono g3
  have:=h3.2.2;simp only[] at this;omega
 have h4:i<S:=by omega
 refine Qi<|Qf<|Qh<|QT (α:=Value×LI) [(28,39)] (λz=>[]) (λz w'=>CrI I H vcl S z.1 v2 z.2 E w'∧GrI al S i 0 z.2 E) (by rfl) ?_ ?_
 ·have g4:m1 / 2 ^ i<256:=Nat.lt_of_le_of_lt (Nat.div_le_self _ _) l1;refine Qc<|x (Qa O)<|x (Qd (hK.step G.st n3) O g1)<|Qb<|x (zS (n:=i) O O (by show i≤8;omega))<|x (qp (a:=m1 / 2 ^ i) (b:=1) (congrArg (Value.int .u8) (yG m1 i)) O g4 (by decide))<|x (Q4 O O)<|xe<|QG O (λg5=>?_) (λg5=>?_)
  ·refine Qi ?_;exact ⟨(v1,M),U,G,J⟩
  refine Qy<|x (Qa O)<|x (Qd G.B O O)<|Qb<|xl O<|QC (us:=[[.int .i64 i]]) O O (by decide) (by simp) ⟨rfl,rfl,U⟩ λmv mw g6 my g7=>?_;have hm:=G.ext g6;refine xl O<|Q5 (news:=[.int .i64 i]) (L:=[]) hm.m O O O (g7.at (by simp)) (by simp[Value.oneCell']) (by omega) hm.st.size λhR g8 ka hT kb=>?_;have hU:Qu 3 I.heap.size g8 hR (M++[(i:Int)]):=Qu.snoc ka
  refine x (Qa O)<|xl O<|QF (hm.B.step hT (QM hm.m hj)) O O (by simp) (Qu.ints (L:=[]) hU (by simp;omega) (by simp)).one λmz kc ke =>
   xe ?_
  exact ⟨(hR,M++[(i:Int)]),U,hm.setM hj hT hU kb kc ke,J.mark hM h4⟩
 rintro ⟨v3,M3⟩ m0 m2 ⟨hV,hW⟩;simp only[] at hV hW;refine Qc<|Qe<|Qh<|QA (α:=Nat×Value×List Ed) [(7,8),(40,76)] (λz=>[(7,.int .i64 z.1)])
  (λz w'=>z.1≤al.length∧z.1≤5∧CrI I H vcl S v3 z.2.1 M3 z.2.2 w'∧GrI al S i z.1 M3 z.2.2) (λz=>5 - z.1) (by rfl) (0,v2,E) Z
  ⟨Ll _,Ll _,hV,hW⟩ ?_
 rintro ⟨k,vd,F⟩ m3 kf ⟨hk,hX,hf,hg⟩;simp only[] at hk hX hf hg;have kg:=hJ.st hf.st;have m4:=hg.en;refine Qf<|QT (α:=Unit) [(40,47)] (λz=>[(47,.bool (decide (k<al.length∧k<5)))]) (λz w'=>w'=kf) (by rfl) ?_ ?_
 ·refine Qy<|Qb<|Qb<|x (Qs kg O)<|xb (QB O O) (λhY=>?_) (λhY=>?_)
  ·refine Qb<|Qb<|x (QB O O)<|x (Ql O)<|xe<|⟨(),⟨congrArg Value.bool ?_,U⟩,O⟩;exact decide_eq_decide.2 ⟨λe=>⟨by omega,by omega⟩,λe=>by omega⟩
  refine Qb<|xs O<|xs O<|x (Ql O)<|xe ?_;exact ⟨(),⟨congrArg Value.bool (decide_eq_false (λe=>hY (by omega))).symm,U⟩,O⟩
 rintro _ m5 Y rfl;refine QG rfl (λh5=>?_) (λh5=>?_)
 ·refine Qz<|Qy<|Qb<|QO O O<|Qe ?_;exact ⟨(i+1,v3,vd,M3,F),by simp only[];omega,Z,h4,hf,hg.next hX,λx hx=>by have:=hg.ml x hx;simp only[];omega⟩
 have ho:k<al.length:=h5.1;have h6:k<5:=h5.2;have gj:=Ud (ns:=ns) (j:=0+2+i*5+k*1) (by omega);have lj:=Xw hu (0+2+i*5+k*1);refine Zc (ns.getD (0+2+i*5+k*1) 0) λq hq=>?_;rw[hq] at gj lj;have kh:=hK.step hf.st n3;have ki:0≤(q:Int) % ((S:Int)+2):=Int.emod_nonneg _ (by omega);have m6:(q:Int) % ((S:Int)+2)<(S:Int)+2:=Int.emod_lt_of_pos _ (by omega)
 refine Qi<|Qf<|Qh<|Qf<|QW (Step [] Y) [(0,true),(1,true),(2,true),(3,true),(4,true),(5,true),(6,true),(7,true),(8,true),(9,true),(10,true),(11,true)] mixed (by rfl) (by kernel_rfl) (Step.drew _ _) ?_;refine p (λ_=>Qp)<|p (λ_=>Qp)<|p (λ_=>Qa O)<|p (λ_=>ZJ (i:=i) O O (by omega))<|p (λ_=>ZJ (i:=k) O O h6)<|pq (λ_ hc=>Qd (kh.ext hc) O gj) <|
  p (λ_=>ZL (k':=.i64) O ⟨by omega,by omega⟩)<|p (λ_=>Qa O)<|pq (λ_ hc=>Qd (hf.B.ext hc) O O)<|p (λ_=>Jk O O ⟨by omega,by omega⟩) <|
  p (λ_=>Ul (a:=(q:Int)) (b:=(S:Int)+2) O O (by omega) (by omega))<|p (λ_=>Qg)<|pe ?_
 have ha:=hf.ext (Step.drew [] Y);refine Zc ((q:Int) % ((S:Int)+2)) λt ht=>?_;have m7:0≤t:=by omega
 refine Qc<|Qb<|x (Qa O)<|x (Qd ha.B O O)<|x (QB O O)<|xe<|QG rfl (λkj=>?_) (λkj=>?_)
 ·refine Qi<|Qy<|Qb<|QO O O<|Qe ?_;exact ⟨(k+1,vd,F),by simp only[];omega,Z,ho,h6,ha,hg.skip ho⟩
 have kk:=Qm ha.e;have kn:QL (H::ob vd) { Y with drawn:=Y.drawn+1 }.heap v al:=((hJ.up (L':=H::ob vd) (λb hb=>by
  rcases Lb.1 hb with rfl | hb
  ·exact .inl (by simp)
  exact .inr (kk b hb).1)).step ha.st (by simp))
 have ko:=QM ha.e hj;refine QW (Step (ob vd) { Y with drawn:=Y.drawn+1 }) [(0,true),(1,true),(2,true),(3,true),(4,true),(5,true),(6,true),(7,true),(8,true),(9,false),(10,false),(11,true),(12,false)] mixed (by rfl) (by kernel_rfl) (Step.drew _ _) ?_
 refine p (λ_=>Qa O)<|pq (λ_ hc=>Qd (ha.B.step hc ko) O O)<|p (λ_=>Qp)<|p (λ_=>Qp)<|p (λ_=>Qp) <|
  pic (i:=k) O kn O O ho λm8 kp=>pq (λ_ hc=>Qw (kp.step hc (λb hb=>Lk _ hb)) O)<|p (λ_=>Qp)<|p (λ_=>QD ⟨O,O,O,U⟩) <|
  pk<|QC (us:=[Qx ((i:Int),cget al k,(q:Int) % ((S:Int)+2))]) O O (by decide) (by exact (by decide:1*3≤1000000)) ⟨O,O,U⟩ λm9 pa kq pc kr=>?_
 have h7:=(Step.drew [] { Y with drawn:=Y.drawn+1 }).trans kq
 have hp:=ha.ext h7;refine ⟨h7.any,?_⟩;refine pk<|Q5 (news:=Qx ((i:Int),cget al k,(q:Int) % ((S:Int)+2))) (L:=[]) hp.e O O O (kr.at (by simp)) (λy hy=>by simp only[Qx,List.mem_cons,List.not_mem_nil,or_false] at hy;rcases hy with rfl | rfl | rfl <;> rfl) (by omega) hp.st.size λhZ kt ku h8 kv=>⟨(h7.any (L:=ob vd)).trans' h8,?_⟩
 have ga:Z8 144 I.heap.size kt hZ (F++[((i:Int),cget al k,(q:Int) % ((S:Int)+2))]):=Z8.snoc ku;refine p (λ_=>Qa O)<|pkl (hl:=by kernel_rfl)<|QF (hp.B.step h8 (QM hp.e hj)) O O (by simp) (Z8.eds (L:=[]) ga (by simp;omega) (by simp)).one λpd kw kx=>pe ?_;have ky:=hp.setE hj h8 ga kv kw kx;refine Qy<|Qb<|QO O O<|Qe ?_
 exact ⟨(k+1,hZ,F++[((i:Int),cget al k,(q:Int) % ((S:Int)+2))]),by simp only[];omega,Z,ho,h6,ky,hg.edge ho hi h4 ki (by omega)⟩
end Go.Proofs.YtdffckgdcegpaaaGreatDoor
namespace Go.Lg
section
variable {P:Program} {f:Fr} {w:World} {d:Option Nat} {ty:Nat} {ps:String} {af:Array Edge} {gd:Option (Nat×Bool)}
theorem VZ {t sz:Nat}[Ag P t sz] {x:Operand}{b o T:Nat}{cs us:LV}(h:QZ w.heap b T cs) (hx:ev f x=.pointer (some ⟨b,o,none⟩)) (hl:us.length=sz) (G:∀j u,us[j]?=some u→cs[o+j]?=some u) :
  (execOp (ev f) ⟨d,.load t x,ty,ps,af,gd⟩).run P w=.ok (.value (.agg us.toArray)) w:=by
 refine UO hx hl λj u hu=>?_;rw[Xx,Ka,h.cell];exact G j u hu
end
end Go.Lg
namespace Go.Proofs.YtdffckgdcegpaaaGreatDoor
open Go.Proofs.Tryz
open Go.Lg
theorem Qj2 {ns:LN}{o n:Nat}:∀j u,(bys ((ns.drop o).take n))[j]?=some u→(bys ns)[o+j]?=some u:=by
 intro j u h;simp only[bys,List.getElem?_map,List.getElem?_take,List.getElem?_drop] at h ⊢;split at h
 ·exact h
 cases h
theorem Qj3 {ns:LN}(h:∀n∈ns,n<256) (o n:Nat):∀m∈(ns.drop o).take n,m<256:=λm hm=>h m (MN (LT hm))
theorem QcM (m k:Nat):∀e∈setK m k,0≤e∧e<k:=by
 intro e he;simp only[setK,List.mem_map,List.mem_filter,List.mem_range'_1] at he;obtain ⟨i,⟨hi,_⟩,rfl⟩:=he;omega
theorem Qc8 (keep:Bool→Bool→Bool):∀(n:Nat) (a b:LI),a.length+b.length≤n→Z0 a→Z0 b→Z0 (mrg keep a b):=by
 intro n;induction n with
 | zero =>
  intro a b h _ _;have ha:a=[]:=Ln (by omega);have hb:b=[]:=Ln (by omega);subst ha hb;rw[JB];exact List.Pairwise.nil
 | succ n ih =>
  intro a b H ia ib;by_cases h:a=[]∧b=[]
  ·obtain ⟨rfl,rfl⟩:=h;rw[JB];exact List.Pairwise.nil
  have I:=qI h;have itl:∀(c:Bool) (l:LI),Z0 l→Z0 (tl c l):=λc l hl=>by
   cases c
   ·exact hl
   cases l with
   | nil=>exact hl
   | cons y l=>exact hl.tail
  have G:=ih (tl (Xv a b) a) (tl (Xv b a) b) (by omega) (itl _ _ ia) (itl _ _ ib);rw[Jo keep h];cases keep (Xv a b) (Xv b a) with
  | false=>simpa using G
  | true =>
   simp only[cond_true,List.singleton_append];refine L0.2 ⟨λx hx=>?_,G⟩;have hm:=(UU (itl _ _ ia) (itl _ _ ib) x).1 hx;cases a with
   | nil =>
    cases b with
    | nil=>exact absurd ⟨O,O⟩ h
    | cons y b =>
     simp only[Xv,tl,cond_true,cond_false,List.tail_cons,List.not_mem_nil,false_or,Go.Proofs.YtdffckgdcegpaaaGreatDoor.hx,List.headD_cons] at hm ⊢;exact ib.lt_of hm.1
   | cons u a =>
    cases b with
    | nil =>
     simp only[Xv,tl,cond_true,cond_false,List.tail_cons,List.not_mem_nil,or_false,Go.Proofs.YtdffckgdcegpaaaGreatDoor.hx,List.headD_cons] at hm ⊢;exact ia.lt_of hm.1
    | cons y b =>
     rcases Int.lt_trichotomy u y with h1 | h1 | h1
     ·have e1:decide (u≤y)=true:=decide_eq_true (by omega);have e2:decide (y≤u)=false:=decide_eq_false (by omega);simp only[Xv,tl,e1,e2,cond_true,cond_false,List.tail_cons,Go.Proofs.YtdffckgdcegpaaaGreatDoor.hx,List.headD_cons] at hm ⊢;rcases hm.1 with h2 | h2
      ·exact ia.lt_of h2
      rcases Lb.1 h2 with h2 | h2
      ·omega
      have:=ib.lt_of h2;omega
     ·have e1:decide (u≤y)=true:=decide_eq_true (by omega);have e2:decide (y≤u)=true:=decide_eq_true (by omega);simp only[Xv,tl,e1,e2,cond_true,List.tail_cons,Go.Proofs.YtdffckgdcegpaaaGreatDoor.hx,List.headD_cons] at hm ⊢;rcases hm.1 with h2 | h2
      ·have:=ia.lt_of h2;omega
      have:=ib.lt_of h2;omega
     have e1:decide (u≤y)=false:=decide_eq_false (by omega);have e2:decide (y≤u)=true:=decide_eq_true (by omega);simp only[Xv,tl,e1,e2,cond_true,cond_false,List.tail_cons,Go.Proofs.YtdffckgdcegpaaaGreatDoor.hx,List.headD_cons] at hm ⊢;rcases hm.1 with h2 | h2
     ·rcases Lb.1 h2 with h2 | h2
      ·omega
      have:=ia.lt_of h2;omega
     exact ib.lt_of h2
end Go.Proofs.YtdffckgdcegpaaaGreatDoor
namespace Go.Lg
section
variable {P:Program} {f:Fr} {w:World} {d:Option Nat} {ty:Nat} {ps:String} {af:Array Edge} {gd:Option (Nat×Bool)} {all:List Oper} {C:World→Prop} {K:Fr→World→Prop}
theorem tp {l:List (Nat×Bool)}(h:XP P all C K l f w):XT P all C K (.pl l) f w:=h
end
end Go.Lg
namespace Go.Proofs.YtdffckgdcegpaaaGreatDoor
open Go.Lg
theorem Z0.ext:∀{a b:LI},Z0 a→Z0 b→(∀x,x∈a↔x∈b)→a=b
 | [],[],_,_,_=>rfl
 | [],y::b,_,_,h=>by have:=(h y).2 Lm;cases this
 | x::a,[],_,_,h=>by have:=(h x).1 Lm;cases this
 | x::a,y::b,ia,ib,h=>by
  have e:x=y:=by
   have h1:=(h x).1 Lm;have h2:=(h y).2 Lm;rcases Lb.1 h1 with h1 | h1
   ·exact h1
   rcases Lb.1 h2 with h2 | h2
   ·exact h2.symm
   have:=ib.lt_of h1;have:=ia.lt_of h2;omega
  subst e;congr 1;refine Z0.ext ia.tail ib.tail λz=>?_;have G:=h z;constructor
  ·intro hm;have:=G.1 (Lk _ hm);rcases Lb.1 this with h1 | h1
   ·have:=ia.lt_of hm;omega
   exact h1
  intro hm;have:=G.2 (Lk _ hm);rcases Lb.1 this with h1 | h1
  ·have:=ib.lt_of hm;omega
  exact h1
theorem qv (G:List Ed) (s v:Int):nxt G s v=match eget G s v with | some u=>u | none=>-1:=by
 induction G with
 | nil=>rfl
 | cons e G ih =>
  rw[nxt,eget];split
  ·rfl
  exact ih
theorem KT {a:QN}(G:Q2 a) (s v:Int):0≤nxt a.ed s v↔(eget a.ed s v).isSome=true:=by
 rw[qv];cases h:eget a.ed s v with
 | none=>simp
 | some u=>simp;exact (G.ed _ (YY h)).2.2.2.1
end Go.Proofs.YtdffckgdcegpaaaGreatDoor
namespace Go.Lg
section
variable {P:Program} {f:Fr} {w:World} {d:Option Nat} {ty:Nat} {ps:String} {af:Array Edge} {gd:Option (Nat×Bool)}
end
end Go.Lg
namespace Go.Proofs.YtdffckgdcegpaaaGreatDoor
open Go.Lg
section
variable {w4 w w' w'':World} {b:Nat} {m q:Bool} {ve vd:Value} {E D:LI}
end
end Go.Proofs.YtdffckgdcegpaaaGreatDoor
namespace Go.Lg
section
variable {P:Program} {f:Fr} {w:World} {d:Option Nat} {ty:Nat} {ps:String} {af:Array Edge} {gd:Option (Nat×Bool)}
end
end Go.Lg
namespace Go.Proofs.YtdffckgdcegpaaaGreatDoor
open Go.Lg
def grid (g:Nat→Int→Option Ed) (vs:LI) (n:Nat):List Ed:=(List.range' 0 n).flatMap λj=>vs.filterMap (g j)
theorem V6 (g:Nat→Int→Option Ed) (vs:LI) (n:Nat):grid g vs (n+1)=grid g vs n++vs.filterMap (g n):=by
 unfold grid;rw[Mg,Ly];simp
theorem Uo (l m:List Ed) (s v:Int):eget (l++m) s v=match eget l s v with | some u=>some u | none=>eget m s v:=by
 induction l with
 | nil=>rfl
 | cons e l ih =>
  rw[Mm,eget,eget];split
  ·rfl
  exact ih
def zh (g:Nat→Int→Option Ed):Prop:=∀j v e,g j v=some e→e.1=(j:Int)∧e.2.1=v
theorem QaE {g:Nat→Int→Option Ed}(E:zh g) (j:Nat) (v:Int):∀(vs:LI),eget (vs.filterMap (g j)) j v=if v∈vs then (g j v).map (·.2.2) else none
 | []=>by simp[eget]
 | u::vs=>by
  have ih:=QaE E j v vs;rw[Mn];cases hu:g j u with
  | none =>
   simp only[];rw[ih];by_cases e:v=u
   ·subst e;simp[hu]
   simp[e]
  | some e =>
   have he:=E j u e hu;simp only[];rw[eget];by_cases e2:u=v
   ·subst e2;rw[if_pos he,if_pos Lm,hu];rfl
   rw[if_neg (λh=>e2 (he.2.symm.trans h.2)),ih];simp[Ne.symm e2]
theorem QaD {g:Nat→Int→Option Ed}(E:zh g) {j i:Nat}(h:j≠i) (v:Int) (vs:LI):eget (vs.filterMap (g j)) i v=none:=by
 refine Kz λe he h2=>?_;obtain ⟨u,_,hu⟩:=My.1 he;have:=E j u e hu;omega
theorem yf {g:Nat→Int→Option Ed}(E:zh g) (vs:LI) (j:Nat) (v:Int):∀n,eget (grid g vs n) j v=if j<n∧v∈vs then (g j v).map (·.2.2) else none
 | 0=>by simp[grid,eget]
 | n+1=>by
  rw[V6,Uo,yf E vs j v n];by_cases e:j=n
  ·subst e;rw[if_neg (by omega),QaE E];simp
  rw[QaD E (Ne.symm e)];by_cases h:j<n∧v∈vs
  ·rw[if_pos h,if_pos ⟨by omega,h.2⟩];cases (g j v).map (·.2.2) <;> rfl
  rw[if_neg h,if_neg (λh2=>h ⟨by omega,h2.2⟩)]
theorem Qat {g:Nat→Int→Option Ed}{vs:LI}{n:Nat}{e:Ed}(h:e∈grid g vs n):∃j v,j<n∧v∈vs∧g j v=some e:=by
 unfold grid at h;obtain ⟨j,E,h2⟩:=Mv.1 h;obtain ⟨v,G,h3⟩:=My.1 h2;rw[L8] at E;exact ⟨j,v,by omega,G,h3⟩
theorem Qdr {g:Nat→Int→Option Ed}(E:zh g) {vs:LI}(hi:Z0 vs):∀n,(grid g vs n).Pairwise λx y:Ed=>x.1<y.1∨(x.1=y.1∧x.2.1<y.2.1)
 | 0=>by simp[grid]
 | n+1=>by
  rw[V6,Mo];refine ⟨Qdr E hi n,Xu (r:=(·<·)) (λx y u v J hu G=>?_) hi,λe he H I=>?_⟩
  ·have h1:=E n x u hu;have h2:=E n y v G;right;omega
  obtain ⟨j,v,S,_,h1⟩:=Qat he;obtain ⟨v',_,h2⟩:=My.1 I;have h3:=E j v e h1;have V:=E n v' H h2;left;omega
theorem Qm2 (l:List QN):∀(acc:LI),(∀a∈l,Z0 a.al)→Z0 acc→Z0 (l.foldl (λacc a=>mrg (· || ·) acc a.al) acc)∧∀x,x∈l.foldl (λacc a=>mrg (· || ·) acc a.al) acc↔x∈acc∨∃a∈l,x∈a.al:=by
 induction l with
 | nil=>intro acc _ h;exact ⟨h,λx=>by simp⟩
 | cons a l ih =>
  intro acc hl h;have ha:=hl a Lm;obtain ⟨h1,h2⟩:=ih (mrg (· || ·) acc a.al) (λb hb=>hl b (Lk _ hb)) (Qc8 _ _ _ _ (Lt _) h ha);rw[LM];refine ⟨h1,λx=>?_⟩;rw[h2 x,UU h ha];simp only[List.mem_cons,exists_eq_or_imp];constructor
  ·rintro (⟨h3 | h3,_⟩ | h3)
   ·exact .inl h3
   ·exact .inr (.inl h3)
   exact .inr (.inr h3)
  rintro (h3 | h3 | h3)
  ·exact .inl ⟨.inl h3,by simp[h3]⟩
  ·exact .inl ⟨.inr h3,by simp[h3]⟩
  exact .inr h3
theorem Qdx {l:List QN}(h:∀a∈l,Q2 a):Z0 (evs l):=(Qm2 l [] (λa ha=>(h a ha).ali) (by simp)).1
theorem Yn {l:List QN}(h:∀a∈l,Q2 a) (x:Int):x∈evs l↔∃a∈l,x∈a.al:=by
 have:=(Qm2 l [] (λa ha=>(h a ha).ali) (by simp)).2 x;unfold evs;rw[this];simp
def syF (aa:List QN) (tup:List (LI)) (j:Nat) (v:Int):Option Ed:=(Zl v aa (tup.getD j [])).map λu=>((j:Int),v,(tup.idxOf u:Int))
theorem Qfk (aa:List QN) (tup:List (LI)):zh (syF aa tup):=by
 intro j v e h;unfold syF at h;obtain ⟨u,_,rfl⟩:=L9.1 h;exact ⟨O,O⟩
theorem Qax {α β:Type}{f g:α→Option β}:∀{l:List α},(∀x∈l,f x=g x)→l.filterMap f=l.filterMap g
 | [],_=>rfl
 | x::l,h=>by rw[Mn,Mn,h x Lm,Qax (λy hy=>h y (Lk _ hy))]
theorem Qg4 {α β:Type}{f:α→Option β}{v:α}{e:β}(h:f v=some e):[v].filterMap f=[e]:=by rw[Mn,h];rfl
theorem QjD {α β:Type}{f:α→Option β}{v:α}(h:f v=none):[v].filterMap f=[]:=by rw[Mn,h];rfl
theorem Qfl {aa:List QN}{tup:List (LI)}{j:Nat}{v:Int}(h:Zl v aa (tup.getD j [])=none):syF aa tup j v=none:=by unfold syF;rw[h];rfl
theorem jR {aa:List QN}{tup:List (LI)}{j:Nat}{v:Int}{u:LI}(h:Zl v aa (tup.getD j [])=some u):syF aa tup j v=some ((j:Int),v,(tup.idxOf u:Int)):=by unfold syF;rw[h];rfl
def Clo (aa:List QN) (tup:List (LI)) (j:Nat) (vs:LI):Prop:=∀v∈vs,∀u,Zl v aa (tup.getD j [])=some u→u∈tup
theorem Ke {tup r:List (LI)}{j:Nat}(h:j<tup.length):(tup++r).getD j []=tup.getD j []:=by simp[List.getD,List.getElem?_append_left h]
theorem QcD {aa:List QN}{tup r:List (LI)}{j:Nat}{vs:LI}(E:j<tup.length) (hc:Clo aa tup j vs):vs.filterMap (syF aa (tup++r) j)=vs.filterMap (syF aa tup j):=by
 refine Qax λv G=>?_;unfold syF;rw[Ke E];cases hs:Zl v aa (tup.getD j []) with
 | none=>rfl
 | some u =>
  have hu:=hc v G u hs;simp only[Option.map_some,Option.some.injEq,Prod.mk.injEq,true_and];rw[Mi,if_pos hu]
theorem Clo.pre {aa:List QN}{tup r:List (LI)}{j:Nat}{vs:LI}(E:j<tup.length) (hc:Clo aa tup j vs):Clo aa (tup++r) j vs:=by
 intro v G u hu;rw[Ke E] at hu;exact Lz _ (hc v G u hu)
theorem KU {α:Type}{l:List α}{u:α}(h:l.Nodup) (hu:u∉l):(l++[u]).Nodup:=by
 rw[MD];exact ⟨h,by simp,λa ha b hb=>by simp only[List.mem_singleton] at hb;subst hb;exact λe=>hu (by rw[←e];exact ha)⟩
theorem zH {aa:List QN}{i:Nat}:∀(vs:LI) (s E:Sy),i<s.tup.length→s.tup.Nodup→KO aa i (Uj s i) vs s=some E →
  ∃r,E.tup=s.tup++r∧E.mk'=s.mk'∧E.ed=s.ed++vs.filterMap (syF aa E.tup i)∧Clo aa E.tup i vs∧E.tup.Nodup
 | [],s,E,_,hd,e=>by cases e;exact ⟨[],by simp,rfl,by simp,λv V=>(by cases V),hd⟩
 | v::vs,s,E,hi,hd,e=>by
  rw[KO] at e;obtain ⟨G,h1,h2⟩:=Ml.1 e;have key:∃I,G.tup=s.tup++I∧G.mk'=s.mk'∧G.ed=s.ed++[v].filterMap (syF aa G.tup i)∧Clo aa G.tup i [v]∧G.tup.Nodup:=by
   unfold syE at h1;have eT:Uj s i=s.tup.getD i []:=rfl;rw[eT] at h1;cases hs:Zl v aa (s.tup.getD i []) with
   | none =>
    rw[hs] at h1;cases h1
    refine ⟨[],by simp,rfl,by rw[QjD (Qfl hs),List.append_nil],λv' hv' u hu=>?_,hd⟩;simp only[List.mem_singleton] at hv';subst hv';rw[hs] at hu;cases hu
   | some u =>
    rw[hs] at h1;simp only[] at h1;by_cases hu:u∈s.tup
    ·rw[if_pos hu] at h1;cases h1
     refine ⟨[],by simp,rfl,by rw[Qg4 (jR hs)],λv' hv' Y H=>?_,hd⟩;simp only[List.mem_singleton] at hv';subst hv';simp only[] at H ⊢;rw[hs] at H;cases H;exact hu
    rw[if_neg hu] at h1;split at h1
    ·cases h1
    cases h1
    have e2:(s.tup++[u]).getD i []=s.tup.getD i []:=Ke hi;have e3:(s.tup++[u]).idxOf u=s.tup.length:=by rw[Mi,if_neg hu];simp
    refine ⟨[u],O,O,?_,λv' hv' Y H=>?_,KU hd hu⟩
    ·rw[Qg4 (jR (tup:=s.tup++[u]) (u:=u) (by rw[e2];exact hs)),e3]
    simp only[List.mem_singleton] at hv';subst hv';simp only[] at H ⊢;rw[e2,hs] at H;cases H;simp
  obtain ⟨I,k1,k2,k3,S,k5⟩:=key;have J:i<G.tup.length:=by rw[k1];simp;omega
  have eT:Uj G i=Uj s i:=by unfold Uj;rw[k1];exact Ke hi
  rw[←eT] at h2;obtain ⟨r2,g1,g2,g3,g4,g5⟩:=zH vs G E J k5 h2;refine ⟨I++r2,by rw[g1,k1,LC],g2.trans k2,?_,?_,g5⟩
  ·rw[g3,k3,LC];congr 1;rw[show v::vs=[v]++vs from rfl,List.filterMap_append];congr 1;rw[g1];exact (QcD J S).symm
  intro v' hv' u hu;rcases Lb.1 hv' with rfl | hv'
  ·have:=S.pre (r:=r2) J;rw[←g1] at this;exact this v' Lm u hu
  exact g4 v' hv' u hu
structure SyG (aa:List QN) (i:Nat) (s:Sy):Prop where
 nd:s.tup.Nodup
 le:i≤s.tup.length
 hd:s.tup.getD 0 []=List.replicate aa.length 0∧0<s.tup.length
 mk2:s.mk'=((List.range' 0 i).filter λj=>XD aa (s.tup.getD j [])).map λj:Nat=>(j:Int)
 ed:s.ed=grid (syF aa s.tup) (evs aa) i
 cl:∀j,j<i→Clo aa s.tup j (evs aa)
theorem XI {α β:Type}{f g:α→List β}:∀{l:List α},(∀x∈l,f x=g x)→l.flatMap f=l.flatMap g
 | [],_=>rfl
 | x::l,h=>by rw[LF,LF,h x Lm,XI (λy hy=>h y (Lk _ hy))]
theorem SyG.next {aa:List QN}{i:Nat}{s E:Sy}(h:SyG aa i s) (hi:i<s.tup.length) (e:KO aa i (Uj s i) (evs aa) (ZA aa i (Uj s i) s)=some E):SyG aa (i+1) E:=by
 have ht:(ZA aa i (Uj s i) s).tup=s.tup:=by unfold ZA;split <;> rfl
 have S:(ZA aa i (Uj s i) s).ed=s.ed:=by unfold ZA;split <;> rfl
 have I:Uj (ZA aa i (Uj s i) s) i=Uj s i:=by show (ZA aa i (Uj s i) s).tup.getD i []=s.tup.getD i [];rw[ht]
 rw[←I] at e;obtain ⟨r,g1,V,J,Y,g5⟩:=zH (evs aa) _ E (by rw[ht];exact hi) (by rw[ht];exact h.nd) (by rw[I] at e ⊢;exact e);rw[ht] at g1;rw[S] at J;have pre:∀j,j≤i→E.tup.getD j []=s.tup.getD j []:=λj G=>by rw[g1];exact Ke (by omega)
 refine ⟨g5,by rw[g1];simp;omega,⟨by rw[pre 0 (by omega)];exact h.hd.1,by rw[g1];simp;omega⟩,?_,?_,λj G=>?_⟩
 ·rw[V,Mg,L7,Lu,LG];have e1:((List.range' 0 i).filter λj=>XD aa (E.tup.getD j []))=(List.range' 0 i).filter λj=>XD aa (s.tup.getD j []):=by
   refine List.filter_congr λj G=>?_;rw[L8] at G;rw[pre j (by omega)]
  rw[e1];unfold ZA;by_cases hm:XD aa (Uj s i)=true
  ·rw[if_pos hm];have H:XD aa (E.tup.getD i [])=true:=by rw[pre i (Lt _)];exact hm
   simp only[List.filter_cons,H,if_true,List.filter_nil,List.map_cons,List.map_nil];rw[h.mk2]
  rw[if_neg hm];have H:XD aa (E.tup.getD i [])=false:=by rw[pre i (Lt _)];exact eq_false_of_ne_true hm
  rw[Mh,if_neg (by rw[H];simp),M9,h.mk2];simp
 ·rw[J,V6,h.ed];congr 1;unfold grid;refine XI λj G=>?_;rw[L8] at G;rw[g1];exact (QcD (by omega) (h.cl j (by omega))).symm
 by_cases e2:j=i
 ·subst e2;exact Y
 have:=(h.cl j (by omega)).pre (r:=r) (by omega);rw[←g1] at this;exact this
theorem jP {aa:List QN}:∀(f i:Nat) (s E:Sy),SyG aa i s→jQ aa f i s=some E→∃G,SyG aa G E∧(E.tup.length=G∨G=i+f)
 | 0,i,s,E,h,e=>by cases e;exact ⟨i,h,.inr O⟩
 | f+1,i,s,E,h,e=>by
  rw[jQ] at e;split at e
  ·rename_i hi;obtain ⟨H,h1,h2⟩:=Ml.1 e;obtain ⟨G,h3,I⟩:=jP f (i+1) H E (h.next hi h1) h2;exact ⟨G,h3,by omega⟩
  cases e;exact ⟨i,h,.inl (by have:=h.le;omega)⟩
structure SyP (aa:List QN) (A:QN) (Q:List (LI)):Prop where
 al:A.al=evs aa
 st:A.st=(Q.length:Int)
 nd:Q.Nodup
 v:∀t∈Q,Vt aa t
 le:Q.length≤4096
 hd:0<Q.length→Q.getD 0 []=List.replicate aa.length 0
 mk2:A.mr=((List.range' 0 Q.length).filter λj=>XD aa (Q.getD j [])).map λj:Nat=>(j:Int)
 ed:A.ed=grid (syF aa Q) (evs aa) Q.length
 cl:∀j,j<Q.length→Clo aa Q j (evs aa)
theorem Yj {aa:List QN}(I:∀a∈aa,Q2 a) {A:QN}{Q:List (LI)}(h:sync aa=some (A,Q)):SyP aa A Q∧(Q.length=0↔∃a∈aa,a.st=0):=by
 have E:=UL I h;unfold sync at h;split at h
 ·rename_i G;cases h
  exact ⟨⟨O,O,by simp,by simp,by simp,λh=>by simp at h,by simp,by simp[grid],λj H=>by simp at H⟩,by simpa using G⟩
 rename_i G;obtain ⟨s,h1,h2⟩:=L9.1 h;have J:SyG aa 0 (U6 aa):=⟨by simp[U6],by simp,⟨by simp[U6],by simp[U6]⟩,by simp[U6],by simp[U6,grid],λj H=>by omega⟩;obtain ⟨S,h3,Y⟩:=jP 4096 0 (U6 aa) s J h1;cases h2
 have hl:S=s.tup.length:=by
  have h5:=h3.le;have V:=E.2;simp only[] at V;omega
 subst hl;refine ⟨⟨rfl,O,h3.nd,E.1,E.2,λ_=>h3.hd.1,h3.mk2,h3.ed,h3.cl⟩,?_⟩;have:=h3.hd.2;constructor
 ·intro h;have h7:s.tup.length=0:=h;omega
 intro h;exact absurd h G
theorem SyP.step {aa:List QN}{A:QN}{Q:List (LI)}(h:SyP aa A Q) {j:Nat}(G:j<Q.length) (v:Int) :
  eget A.ed j v=if v∈evs aa then (Zl v aa (Q.getD j [])).map λu=>(Q.idxOf u:Int) else none:=by
 rw[h.ed,yf (Qfk aa Q)];by_cases E:v∈evs aa
 ·rw[if_pos ⟨G,E⟩,if_pos E];unfold syF;rw[Option.map_map];rfl
 rw[if_neg (λe=>E e.2),if_neg E]
theorem SyP.to {aa:List QN}{A:QN}{Q:List (LI)}(h:SyP aa A Q) {j:Nat}(E:j<Q.length) {v:Int}(G:v∈evs aa) {u:LI}(hu:Zl v aa (Q.getD j [])=some u):Q.idxOf u<Q.length∧Q.getD (Q.idxOf u) []=u:=by
 have hm:=h.cl j E v G u hu;have hl:=LZ hm;refine ⟨hl,?_⟩;simp[List.getD,hl]
theorem SyP.okay {aa:List QN}(E:∀a∈aa,Q2 a) {A:QN}{Q:List (LI)}(h:SyP aa A Q):Q2 A:=by
 have J:=h.le;refine ⟨λe he=>?_,by rw[h.al];exact Qdx E,by rw[h.st];omega,by rw[h.st];omega,λs hs=>?_,?_,λe he=>?_,by rw[h.ed];exact Qdr (Qfk aa Q) (Qdx E) _⟩
 ·rw[h.al] at he;obtain ⟨a,ha,hx⟩:=(Yn E e).1 he;exact (E a ha).al e hx
 ·rw[h.mk2] at hs;simp only[List.mem_map,List.mem_filter,List.mem_range'_1] at hs;obtain ⟨i,⟨hi,_⟩,rfl⟩:=hs;rw[h.st];omega
 ·rw[h.mk2];unfold Z0;rw[Ms];refine List.Pairwise.sublist MB ?_;exact (M8 (s:=0) (n:=Q.length)).imp (λh=>by omega)
 rw[h.ed] at he;obtain ⟨j,v,I,G,H⟩:=Qat he;unfold syF at H;obtain ⟨u,hu,rfl⟩:=L9.1 H;have:=(h.to I G hu).1;rw[h.st,h.al];exact ⟨by simp only[];omega,by simp only[];omega,G,by simp only[];omega,by simp only[];omega⟩
end Go.Proofs.YtdffckgdcegpaaaGreatDoor
namespace Go.Lg
open Go.RowKit
instance:LawfulBEq ByteArray where
 eq_of_beq h:=(MapKept.bytes_beq _ _).1 h;rfl:=(MapKept.bytes_beq _ _).2 O
def chr (s:ByteArray) (i:Nat):Nat:=(s.get! i).toNat
theorem Ql3 {s:ByteArray}{i:Nat}(h:i<s.size):(s[i]'h).toNat=chr s i:=by
 unfold chr;obtain ⟨d⟩:=s;have hd:i<d.size:=h;simp[ByteArray.get!,hd,ByteArray.getElem_eq_getElem_data]
theorem QeJ {a b:ByteArray}(h:a.data.toList=b.data.toList):a=b:=by
 obtain ⟨⟨x⟩⟩:=a;obtain ⟨⟨y⟩⟩:=b;have h':x=y:=h;rw[h']
theorem bytes_beq (a b:ByteArray):(a.toList == b.toList)=decide (a=b):=by
 rw[ByteArray.toList_eq,ByteArray.toList_eq];by_cases h:a=b
 ·subst h;simp
 rw[decide_eq_false h];have:a.data.toList≠b.data.toList:=λe=>h (QeJ e);simpa using this
section
variable {P:Program} {f:Fr} {w:World} {d:Option Nat} {ty:Nat} {ps:String} {af:Array Edge} {gd:Option (Nat×Bool)} {t t':Nat} {x y:Operand}
theorem QfV [h:St P t] {s:ByteArray}{k:IntKind}{i:Nat}(hx:ev f x=.string s) (hy:ev f y=.int k i) (hi:i<s.size) :
  (execOp (ev f) ⟨d,.index t x y,ty,ps,af,gd⟩).run P w=.ok (.value (.int .u8 (chr s i))) w:=by
 have h1:=run_index_string (P:=P) w t s k i h.u;rw[dif_pos ⟨by omega,by omega⟩] at h1;have e:(s[(i:Int).toNat]'(by simpa using hi)).toNat=chr s i:=Ql3 hi;simp only[execOp,hx,hy,Sem.run_bind,h1,Result.andThen_ok,Sem.run_pure,e]
theorem QbB [h:St P t] {s:ByteArray}(hx:ev f x=.string s) :
  (execOp (ev f) ⟨d,.call ⟨.builtin .len,#[x],#[t]⟩,ty,ps,af,gd⟩).run P w=.ok (.value (.int .i64 s.size)) w:=QfU h.u hx
theorem yP {a b:ByteArray}(hx:ev f x=.string a) (hy:ev f y=.string b) :
  (execOp (ev f) ⟨d,.binOp .eql t x y t',ty,ps,af,gd⟩).run P w=.ok (.value (.bool (decide (a=b)))) w:=by
 have E:(eqGuard .eql t x y (.string a) (.string b)).run P w=.ok () w:=by simp[eqGuard]
 simp only[execOp,hx,hy,Sem.run_bind,E,Result.andThen_ok,binOp_string_eql,Sem.run_pure,bytes_beq]
theorem Yd {a b:ByteArray}(hx:ev f x=.string a) (hy:ev f y=.string b) (hl:a.size+b.size≤1000000000) :
  (execOp (ev f) ⟨d,.binOp .add t x y t',ty,ps,af,gd⟩).run P w=.ok (.value (.string (a++b))) w:=by
 have E:(eqGuard .add t x y (.string a) (.string b)).run P w=.ok () w:=by simp[eqGuard]
 have G:¬(((a.size+b.size:Nat):Int) > IntKind.i64.max):=by
  rw[show IntKind.i64.max=9223372036854775807 from rfl];omega
 simp only[execOp,hx,hy,Sem.run_bind,E,Result.andThen_ok,binOp_string_add,Op.stringOp,if_neg G,Sem.run_pure]
theorem QiV {a b:Nat}(hx:ev f x=.int .u16 a) (hy:ev f y=.int .u16 b) (ha:a<65536) (hb:b<65536) :
  (execOp (ev f) ⟨d,.binOp .and t x y t',ty,ps,af,gd⟩).run P w=.ok (.value (.int .u16 ((a &&& b:Nat):Int))) w:=by
 refine Xb hx hy ?_;have hi:inK .u16 ((a &&& b:Nat):Int):=by
  have:a &&& b≤a:=Nat.and_le_left;exact ⟨by omega,by omega⟩
 simp only[binOp,Op.intBits,BitVec.ofInt_natCast,ne_eq,not_true_eq_false,if_false,Sem.run_pure];rw[BitVec.toNat_and,BitVec.toNat_ofNat,BitVec.toNat_ofNat,Mw (show a<2 ^ IntKind.u16.bits from ha),Mw (show b<2 ^ IntKind.u16.bits from hb),Yl hi]
theorem Qc1 {a b:Nat}(ha:a<65536) (hb:b<65536):a ||| b<65536:=Nat.or_lt_two_pow (n:=16) ha hb
theorem QbA {a b:Nat}(hx:ev f x=.int .u16 a) (hy:ev f y=.int .u16 b) (ha:a<65536) (hb:b<65536) :
  (execOp (ev f) ⟨d,.binOp .or t x y t',ty,ps,af,gd⟩).run P w=.ok (.value (.int .u16 ((a ||| b:Nat):Int))) w:=by
 refine Xb hx hy ?_;have hi:inK .u16 ((a ||| b:Nat):Int):=by
  have:=Qc1 ha hb;exact ⟨by omega,by omega⟩
 simp only[binOp,Op.intBits,BitVec.ofInt_natCast,ne_eq,not_true_eq_false,if_false,Sem.run_pure];rw[BitVec.toNat_or,BitVec.toNat_ofNat,BitVec.toNat_ofNat,Mw (show a<2 ^ IntKind.u16.bits from ha),Mw (show b<2 ^ IntKind.u16.bits from hb),Yl hi]
theorem QbC {a b:Nat}(hx:ev f x=.int .u16 a) (hy:ev f y=.int .u16 b) (ha:a<65536) (hb:b<65536) :
  (execOp (ev f) ⟨d,.binOp .andNot t x y t',ty,ps,af,gd⟩).run P w=.ok (.value (.int .u16 ((a &&& (65535 ^^^ b):Nat):Int))) w:=by
 refine Xb hx hy ?_;have hi:inK .u16 ((a &&& (65535 ^^^ b):Nat):Int):=by
  have:a &&& (65535 ^^^ b)≤a:=Nat.and_le_left;exact ⟨by omega,by omega⟩
 have e:(~~~(BitVec.ofNat IntKind.u16.bits b))=BitVec.ofNat IntKind.u16.bits (65535 ^^^ b):=by
  have E:BitVec.allOnes 16=BitVec.ofNat 16 65535:=by decide
  have G:∀z:BitVec 16,~~~z=BitVec.allOnes 16 ^^^ z:=λz=>by
   first
   | exact BitVec.allOnes_xor.symm
   | exact (BitVec.xor_allOnes.symm.trans (BitVec.xor_comm _ _))
  show ~~~(BitVec.ofNat 16 b)=BitVec.ofNat 16 (65535 ^^^ b);rw[G,E];apply BitVec.eq_of_toNat_eq;simp only[BitVec.toNat_xor,BitVec.toNat_ofNat];rw[Mw (show 65535<2 ^ 16 by decide),Mw (show b<2 ^ 16 from hb)];rw[Mw (Nat.xor_lt_two_pow (n:=16) (by decide) hb)]
 simp only[binOp,Op.intBits,BitVec.ofInt_natCast,ne_eq,not_true_eq_false,if_false,Sem.run_pure];rw[e,BitVec.toNat_and,BitVec.toNat_ofNat,BitVec.toNat_ofNat,Mw (show a<2 ^ IntKind.u16.bits from ha),Mw (show 65535 ^^^ b<2 ^ IntKind.u16.bits from Nat.xor_lt_two_pow (n:=16) (by decide) hb),Yl hi]
theorem QcT {k k':IntKind}{a:Int}{n:Nat}(hx:ev f x=.int k a) (hy:ev f y=.int k' n) (E:n≤k.bits) (hi:inK k (a*2 ^ n)) :
  (execOp (ev f) ⟨d,.binOp .shl t x y t',ty,ps,af,gd⟩).run P w=.ok (.value (.int k (a*2 ^ n))) w:=by
 refine Xb hx hy ?_;have h1:¬((n:Int)<0):=by omega
 simp only[binOp,Op.shift,h1,if_false,Int.toNat_natCast,Nat.min_eq_left E,Sem.run_pure];rw[Yl hi]
end
section
variable {P:Program} {ops:List Oper} {K:Fr→World→Prop} {f:Fr} {w:World} {d:Option Nat} {ty:Nat} {ps:String} {af:Array Edge} {gd:Option (Nat×Bool)} {l:List Oper}
 {t e sz bys:Nat} {z:Value} {x y1 y2:Operand} {L:LN} {v:Value} {n:Nat} {cs:LV} {H:Array Obj} {k k':IntKind} {hi:Nat}
theorem QfP [h:Sl P t e sz bys z] (E:Zs L H v n sz cs) (hx:ev f x=v) (G:ev f y1=.int k hi) (hm:ev f y2=.int k' hi) (h1:hi≤n) :
  ∃v',Zs L H v' hi sz (cs.take (hi*sz))∧∀w,(execOp (ev f) ⟨d,.slice t x none (some y1) (some y2),ty,ps,af,gd⟩).run P w=.ok (.value v') w:=by
 obtain ⟨ii,I,_,hs,_⟩:=Sl.info h;rcases E.2.2 with ⟨rfl,rfl⟩ | ⟨a,cap,rfl,hc,J⟩
 ·have S:hi=0:=by omega
  subst S;refine ⟨nS,?_,λw=>?_⟩
  ·rw[Nat.zero_mul,Nn];exact Zs.nil _ _ _
  simp[execOp,hx,G,hm,Instr.sliceAt,Instr.slice,Instr.sliceBounds,Instr.sliceBound,asIntOf,run_underlying h.u,sizeOf,typeInfo,I]
 refine ⟨.slice (some a) hi hi,⟨?_,by have:=E.2.1;omega,.inr ⟨a,hi,O,Lt _,λu hu=>J.out u (LT hu),λu hu=>J.lt u (LT hu),λj u hu=>?_⟩⟩,λw=>?_⟩
 ·rw[Lx,E.1,MP (ME _ h1)]
 ·rw[LW] at hu;split at hu
  ·exact J.cell j u hu
  cases hu
 by_cases S:hi=0
 ·subst S;simp[execOp,hx,G,hm,Instr.sliceAt,Instr.slice,Instr.sliceBounds,Instr.sliceBound,asIntOf,run_underlying h.u,sizeOf,typeInfo,I]
 simp[execOp,hx,G,hm,Instr.sliceAt,Instr.slice,Instr.sliceBounds,Instr.sliceBound,asIntOf,run_underlying h.u,sizeOf,typeInfo,I,Addr.add];intro h9;omega
end
section
variable {P:Program} {ops l:List Oper} {K:Fr→World→Prop} {f:Fr} {w:World} {o:Oper} {C:World→Prop} {pl:List (Nat×Bool)} {i:Nat}
theorem xB {b:Bool}(E:(execOp (ev f) o).run P w=.ok (.value (.bool b)) w) (ht:b=true→XL P ops K l (QV f o.dst (.bool true)) w) (I:b=false→XL P ops K l (QV f o.dst (.bool false)) w)
  (G:Yk ops f o=true:=by rfl):XL P ops K (o::l) f w:=by
 cases hb:b with
 | true=>rw[hb] at E;exact x E (ht hb) G
 | false=>rw[hb] at E;exact x E (I hb) G
theorem pB {b:Bool}(E:∀w',(execOp (ev f) (Q6 ops i)).run P w'=.ok (.value (.bool b)) w') (ht:b=true→XP P ops C K pl (QV f (Q6 ops i).dst (.bool true)) w) (I:b=false→XP P ops C K pl (QV f (Q6 ops i).dst (.bool false)) w)
  (G:Yk ops f (Q6 ops i)=true:=by rfl):XP P ops C K ((i,true)::pl) f w:=by
 cases hb:b with
 | true=>rw[hb] at E;exact p E (ht hb) G
 | false=>rw[hb] at E;exact p E (I hb) G
theorem Qhl {G:Prop} (b:Bool) (ht:b=true→G) (E:b=false→G):G:=by cases h:b with | true=>exact ht h | false=>exact E h
theorem bT {q:Prop}[Decidable q] (h:q):true=decide q:=(decide_eq_true h).symm
theorem bF {q:Prop}[Decidable q] (h:¬q):false=decide q:=(decide_eq_false h).symm
theorem bD {q r:Prop}[Decidable q] [Decidable r] (h:q↔r):decide q=decide r:=decide_eq_decide.2 h
end
section
variable {P:Program} {f:Fr} {w:World} {d:Option Nat} {ty:Nat} {ps:String} {af:Array Edge} {gd:Option (Nat×Bool)} {t:Nat} {x:Operand}
theorem qn {q:Prop}[Decidable q] (hx:ev f x=.bool (decide q)):(execOp (ev f) ⟨d,.unOp .not t x,ty,ps,af,gd⟩).run P w=.ok (.value (.bool (decide (¬q)))) w:=by
 rw[Zm hx];simp
end
end Go.Lg
namespace Go.Proofs.YtdffckgdcegpaaaGreatDoor
open Go.Lg
structure KG where
 nm:ByteArray
 co:Bool
 ob:Bool
 fo:Bool
 fl:Int
structure Yp where
 nm:ByteArray
 a:QN
structure jF where
 nm:ByteArray
 ls:List (Int×Int)
structure Xr where
 nm:ByteArray
 ts:List (Int×Int)
 bd:Int
structure Q8 where
 ev:List KG
 co:List Yp
 rq:List Yp
 ex:List jF
 cs:List Xr
def JY (n:Nat):LI:=(List.range n).map λi:Nat=>(i:Int)
def nmP (i c:Nat):Prop:=((97≤c∧c≤122)∨(65≤c∧c≤90)∨c=95)∨(i≠0∧48≤c∧c≤57)
instance (i c:Nat):Decidable (nmP i c):=by unfold nmP;infer_instance
def nmQ (s:ByteArray) (i:Nat):Bool:=decide (nmP i (chr s i))
def YG (s:ByteArray):Bool:=(List.range' 0 s.size).all (nmQ s) && decide (0<s.size∧s.size≤32)
def Xq (seen:List ByteArray) (e:KG):Int:=if YG e.nm=false then 7 else if e.nm∈seen then 8 else if e.fl<0∨4<e.fl then 2 else if e.fl≠0∧(e.co || e.ob)=true then 13 else 0
def Ur:List ByteArray→List KG→Int
 | _,[]=>0
 | seen,e::l=>if Xq seen e≠0 then Xq seen e else Ur (seen++[e.nm]) l
def Je (l:List KG):Int:=if 32<l.length then 3 else Ur [] l
def ixs {α:Type}(q:α→Bool):Nat→List α→LI
 | _,[]=>[]
 | i,e::l=>if q e=true then (i:Int)::ixs q (i+1) l else ixs q (i+1) l
def unc (l:List KG):LI:=ixs (λe=>!e.co) 0 l
def Yv (sz:LI):Option Int→List (Int×Int)→Int
 | _,[]=>0
 | pr,l::ls=>if l.1<0∨(sz.length:Int)≤l.1 then 2 else if UW pr l.1=true then 5 else if l.2<0∨cget sz l.1.toNat≤l.2 then 2 else Yv sz (some l.1) ls
def X8 (sz:LI) (ls:List (Int×Int)):Int:=if ls.length=0 then 12 else Yv sz none ls
def grt (n:Int):Bool:=decide (n < -65536) || decide (65536<n)
def YT (sz:LI):Option Int→List (Int×Int)→Int
 | _,[]=>0
 | pr,l::ls=>if l.1<0∨(sz.length:Int)≤l.1 then 2 else if UW pr l.1=true then 5 else if l.2=0∨grt l.2=true then 2 else YT sz (some l.1) ls
def Yw (sz:LI) (k:Xr):Int:=if k.ts.length=0 then 12 else if YT sz none k.ts≠0 then YT sz none k.ts else if grt k.bd=true then 2 else 0
def Kj (seen:List ByteArray) (s:ByteArray):Int:=if YG s=false then 7 else if s∈seen then 8 else 0
def Yf (sz:LI):List ByteArray→List jF→Int
 | _,[]=>0
 | seen,x::l=>if Kj seen x.nm≠0 then Kj seen x.nm else if X8 sz x.ls≠0 then X8 sz x.ls else Yf sz (seen++[x.nm]) l
def YQ (sz:LI):List ByteArray→List Xr→Int
 | _,[]=>0
 | seen,x::l=>if Kj seen x.nm≠0 then Kj seen x.nm else if Yw sz x≠0 then Yw sz x else YQ sz (seen++[x.nm]) l
def JS (n:Int):Bool:=decide (n<1) || decide (4096<n)
def YH (sz:LI) (ex:List jF) (cs:List Xr):Int:=if 8<sz.length then 3 else if sz.any JS=true then 2 else if 32<ex.length∨32<cs.length then 3 else if Yf sz [] ex≠0 then Yf sz [] ex else YQ sz [] cs
def mns (a b:LI):LI:=mrg (λp q=>p && !q) a b
def Kd (a:QN):Bool:=decide (JI a=0) && decide ((Yi a).st=a.st∧(Yi a).al=a.al∧(Yi a).mr=a.mr∧(Yi a).ed=a.ed)
def Z5 (nev:Nat) (amg:LI) (seen:List ByteArray) (x:Yp):Int :=
 if YG x.nm=false then 7 else if x.nm∈seen then 8 else if JI x.a≠0 then JI x.a else if Kd x.a=false then 6 else if x.a.st=0 then 12 else
 if (x.a.al.any λe=>decide ((nev:Int)≤e))=true then 2 else if (mns x.a.al amg).length≠0 then 9 else 0
def Z9 (nev:Nat) (al:LI):List ByteArray→LI→List Yp→Int×List ByteArray×LI
 | s,u,[]=>(0,s,u)
 | s,u,x::l=>if Z5 nev al s x≠0 then (Z5 nev al s x,s,u) else Z9 nev al (s++[x.nm]) (mrg (· || ·) u x.a.al) l
def Js (nev:Nat) (u:LI):List ByteArray→List Yp→Int
 | _,[]=>0
 | s,x::l=>if Z5 nev u s x≠0 then Z5 nev u s x else Js nev u (s++[x.nm]) l
def szs (l:List Yp):LI:=l.map (·.a.st)
def auts (l:List Yp):List QN:=l.map (·.a)
def Zb (c:Q8):Int :=
 if Je c.ev≠0 then Je c.ev else if c.co.length=0 then 12 else if 8<c.co.length∨12<c.co.length+c.rq.length then 3 else
 if (Z9 c.ev.length (JY c.ev.length) [] [] c.co).1≠0 then (Z9 c.ev.length (JY c.ev.length) [] [] c.co).1 else
 if Js c.ev.length (Z9 c.ev.length (JY c.ev.length) [] [] c.co).2.2 (Z9 c.ev.length (JY c.ev.length) [] [] c.co).2.1 c.rq≠0 then Js c.ev.length (Z9 c.ev.length (JY c.ev.length) [] [] c.co).2.2 (Z9 c.ev.length (JY c.ev.length) [] [] c.co).2.1 c.rq else
 YH (szs c.co) c.ex c.cs
def Jh (t:LI) (x:jF):Bool:=x.ls.all λl=>decide (t.getD l.1.toNat 0=l.2)
def QkQ (t:LI) (k:Xr):Int:=k.ts.foldl (λs p=>s+p.2*t.getD p.1.toNat 0) 0
def JT (t:LI) (k:Xr):Bool:=decide (k.bd<QkQ t k)
def fix {α:Type}(q:α→Bool):Nat→List α→Int
 | _,[]=>-1
 | i,e::l=>if q e=true then (i:Int) else fix q (i+1) l
def vio (c:Q8) (t:LI):Option (Int×Int) :=
 if 0≤fix (Jh t) 0 c.ex then some (1,fix (Jh t) 0 c.ex) else if 0≤fix (JT t) 0 c.cs then some (2,fix (JT t) 0 c.cs) else none
def rfr (v:Int):Nat→List Yp→LI→Int
 | i,x::l,s::ss=>if v∈x.a.al∧(eget x.a.ed s v).isSome=false then (i:Int) else rfr v (i+1) l ss
 | _,_,_=>-1
structure Rsn where
 st:Int
 kd:Int
 ix:Int
 ev:Int
def rfd (c:Q8) (rs:LI):LI→Option (Int×Int)
 | []=>none
 | v::l=>if 0≤rfr v 0 c.rq rs∧(c.ev.getD v.toNat ⟨.empty,false,false,false,0⟩).co=false then some (rfr v 0 c.rq rs,v) else rfd c rs l
def zu (a:QN) (s:Int):LI:=(Zz a.ed s).map (·.2.1)
def rsn (c:Q8) (pl:QN) (plc:Int) (i:Nat) (t:LI):Option Rsn :=
 match vio c (t.take c.co.length) with
 | some (k,j)=>some ⟨i,k,j,-1⟩
 | none=>match rfd c (t.drop c.co.length) (zu pl plc) with
  | some (j,v)=>some ⟨i,3,j,v⟩
  | none=>none
structure Spc where
 a:QN
 co:List (LI)
 rq:List (LI)
 pl:LI
 fb:List Rsn
def plx (ps:List (LI)) (t:LI):Int:=if t∈ps then (ps.idxOf t:Int) else 0
def QkS (c:Q8) (pl:QN) (ps:List (LI)) (s:Spc) (p:LI×Nat):Spc :=
 ⟨s.a,s.co++[p.1.take c.co.length],s.rq++[p.1.drop c.co.length],s.pl++[plx ps (p.1.take c.co.length)],
  match rsn c pl (plx ps (p.1.take c.co.length)) p.2 p.1 with | some r=>s.fb++[r] | none=>s.fb⟩
def Yz (c:Q8):Int:=if Zb c≠0 then Zb c else if KB (auts c.co)≠0 then KB (auts c.co) else match sync (auts c.co) with
 | none=>3
 | some _=>if KB (auts c.co++auts c.rq)≠0 then KB (auts c.co++auts c.rq) else match sync (auts c.co++auts c.rq) with
  | none=>3
  | some _=>0
def XN (l:List QN):QN:=match sync l with | none=>⟨[],0,[],[]⟩ | some z=>z.1
def YV (l:List QN):List (LI):=match sync l with | none=>[] | some z=>z.2
def spc (c:Q8):Spc:=(YV (auts c.co++auts c.rq)).zipIdx.foldl (QkS c (XN (auts c.co)) (YV (auts c.co))) ⟨XN (auts c.co++auts c.rq),[],[],[],[]⟩
end Go.Proofs.YtdffckgdcegpaaaGreatDoor
namespace Go.Lg
section
variable {P:Program} {f:Fr} {w:World} {d:Option Nat} {ty:Nat} {ps:String} {af:Array Edge} {gd:Option (Nat×Bool)}
end
inductive Pu where
 | pl (l:List (Nat×Bool))
 | f2 (pre:List (Nat×Bool)) (i j:Nat) (t1 t2:Pu)
 | f3 (pre:List (Nat×Bool)) (i j k:Nat) (t1 t2 t3:Pu)
def Pu.len:Pu→Nat
 | .pl l=>l.length
 | .f2 pre _ _ t1 _=>pre.length+(1+t1.len)
 | .f3 pre _ _ _ t1 _ _=>pre.length+(1+t1.len)
def yR (all:Array Oper):Pu→Array Bool→Bool
 | .pl l,ls=>Xk all l ls
 | .f2 pre i j t1 t2,ls=>Kr all pre ls && Region.ready .any all (Z3 pre ls) == [i,j] && t1.len == t2.len && yR all t1 ((Z3 pre ls).setIfInBounds i true) && yR all t2 ((Z3 pre ls).setIfInBounds j true)
 | .f3 pre i j k t1 t2 t3,ls=>Kr all pre ls && Region.ready .any all (Z3 pre ls) == [i,j,k] && t1.len == t2.len && t1.len == t3.len && yR all t1 ((Z3 pre ls).setIfInBounds i true) && yR all t2 ((Z3 pre ls).setIfInBounds j true) && yR all t3 ((Z3 pre ls).setIfInBounds k true)
def QmF (all:List Oper) (t:Pu):Bool:=Region.noSelect all.toArray && t.len == all.length && yR all.toArray t (Array.replicate all.length false)
def XE (P:Program) (all:List Oper) (C:World→Prop) (i:Nat) (N:Fr→World→Prop) (f:Fr) (w:World):Prop:=Yk all f (Q6 all i)=true∧XO P (Q6 all i) f w λE w'=>C w'∧N E w'
def XU (P:Program) (all:List Oper) (C:World→Prop) (K:Fr→World→Prop):Pu→Fr→World→Prop
 | .pl l=>XP P all C K l
 | .f2 pre i j t1 t2=>XP P all C (λf w=>XE P all C i (XU P all C K t1) f w∧XE P all C j (XU P all C K t2) f w) pre
 | .f3 pre i j k t1 t2 t3=>XP P all C (λf w=>XE P all C i (XU P all C K t1) f w∧XE P all C j (XU P all C K t2) f w∧XE P all C k (XU P all C K t3) f w) pre
section
variable {P:Program} {n:Nat} {f:Fr} {w:World} {all:List Oper} {C:World→Prop} {K B:Fr→World→Prop}
theorem Ju (hs:Region.noSelect all.toArray=true):∀(t:Pu) (ls:Array Bool) (f:Fr) (w:World),ls.size=all.length→C w→yR all.toArray t ls=true→XU P all C K t f w→XA P all C K t.len ls f w
 | .pl l,ls,f,w,J,hC,hp,h=>ZD hs l ls f w J (.inl hC) hp h
 | .f2 pre i j t1 t2,ls,f,w,J,hC,hp,h=>by
  simp only[yR,Bool.and_eq_true,beq_iff_eq] at hp;obtain ⟨⟨⟨⟨hq,E⟩,hl⟩,h1⟩,h2⟩:=hp;rw[Pu.len];refine YU (B:=λf w=>XE P all C i (XU P all C K t1) f w∧XE P all C j (XU P all C K t2) f w) hs pre ls f w hC hq (λf G=>?_) h;have H:∀k,((Z3 pre ls).setIfInBounds k true).size=all.length:=λk=>by simp[YW,J]
  rw[M2 1];refine JM (λS=>(by rw[S] at E;cases E)) ?_;rw[E];intro k hk o I;simp only[List.mem_cons,List.not_mem_nil,or_false] at hk;rcases hk with rfl | rfl
  ·have:=G.1;unfold XE at this;rw[Zp I] at this;rw[this.1,cond_true];exact this.2.mono λv w' hx=>⟨.inr (.inr hx.1),Ju hs t1 _ _ _ (H _) hx.1 h1 hx.2⟩
  have:=G.2;unfold XE at this;rw[Zp I] at this;rw[this.1,cond_true,hl];exact this.2.mono λv w' hx=>⟨.inr (.inr hx.1),Ju hs t2 _ _ _ (H _) hx.1 h2 hx.2⟩
 | .f3 pre i j k t1 t2 t3,ls,f,w,J,hC,hp,h=>by
  simp only[yR,Bool.and_eq_true,beq_iff_eq] at hp;obtain ⟨⟨⟨⟨⟨⟨hq,E⟩,hl⟩,V⟩,h1⟩,h2⟩,h3⟩:=hp;rw[Pu.len];refine YU (B:=λf w=>XE P all C i (XU P all C K t1) f w∧XE P all C j (XU P all C K t2) f w∧XE P all C k (XU P all C K t3) f w) hs pre ls f w hC hq (λf G=>?_) h;have H:∀k,((Z3 pre ls).setIfInBounds k true).size=all.length:=λk=>by simp[YW,J]
  rw[M2 1];refine JM (λS=>(by rw[S] at E;cases E)) ?_;rw[E];intro q hk o I;simp only[List.mem_cons,List.not_mem_nil,or_false] at hk;rcases hk with rfl | rfl | rfl
  ·have:=G.1;unfold XE at this;rw[Zp I] at this;rw[this.1,cond_true];exact this.2.mono λv w' hx=>⟨.inr (.inr hx.1),Ju hs t1 _ _ _ (H _) hx.1 h1 hx.2⟩
  ·have:=G.2.1;unfold XE at this;rw[Zp I] at this;rw[this.1,cond_true,hl];exact this.2.mono λv w' hx=>⟨.inr (.inr hx.1),Ju hs t2 _ _ _ (H _) hx.1 h2 hx.2⟩
  have:=G.2.2;unfold XE at this;rw[Zp I] at this;rw[this.1,cond_true,V];exact this.2.mono λv w' hx=>⟨.inr (.inr hx.1),Ju hs t3 _ _ _ (H _) hx.1 h3 hx.2⟩
theorem Qj9 {Q:Exit→Fr→World→Prop}{id:Nat}(C:World→Prop) (t:Pu) (hm:P.follows .mixedOrders=true) (E:X7 n all=true) (hp:QmF all t=true)
  (hC:C { w with drawn:=w.drawn+1 }) (h:XU P all C (λf w=>Q .normal f w) t f { w with drawn:=w.drawn+1 }):W P n (.region id all.toArray true) Q f w:=by
 simp only[QmF,Bool.and_eq_true,beq_iff_eq] at hp;obtain ⟨⟨hs,hl⟩,hp⟩:=hp;refine K6 C hm E ?_;have h1:=Ju hs t _ _ _ (by simp) hC hp h;rw[hl] at h1;exact h1
theorem uP {l:List (Nat×Bool)}(h:XP P all C K l f w):XU P all C K (.pl l) f w:=h
theorem u2 {pre:List (Nat×Bool)}{i j:Nat}{E G:Pu}(h:XP P all C (λf w=>XE P all C i (XU P all C K E) f w∧XE P all C j (XU P all C K G) f w) pre f w):XU P all C K (.f2 pre i j E G) f w:=h
theorem u3 {pre:List (Nat×Bool)}{i j k:Nat}{E G H:Pu}(h:XP P all C (λf w=>XE P all C i (XU P all C K E) f w∧XE P all C j (XU P all C K G) f w∧XE P all C k (XU P all C K H) f w) pre f w):XU P all C K (.f3 pre i j k E G H) f w:=h
theorem ue {i:Nat}{N:Fr→World→Prop}(h:XO P (Q6 all i) f w λE w'=>C w'∧N E w') (G:Yk all f (Q6 all i)=true:=by rfl):XE P all C i N f w:=⟨G,h⟩
end
attribute [irreducible] XU XE
open Go.RowKit
abbrev fen (ro:Option Nat):Fence:={ Fence.wide with round:=ro }
def coll (ds:LN):List Deferred:=ds.map λD=>{ target:=.collected D,args:=#[] }
structure YF (n:Nat) (ds:LN) (a:Act) (f:Fr):Prop where
 size:a.tmps.size=n
 defers:a.defers=coll ds
 get:∀t,a.tmps.getD t undef=f t
theorem YF.rel {n:Nat} {ds:LN} {a:Act} {f:Fr} (h:YF n ds a f):jK n { a with defers:=[] } f:=⟨h.size,O,h.get⟩
theorem YF.eval {n:Nat}{ds:LN}{a:Act}{f:Fr}(h:YF n ds a f):a.eval=ev f:=by
 have:=h.rel.eval;rw[←this];funext x;cases x <;> rfl
theorem YF.put {n:Nat}{ds:LN}{a:Act}{f:Fr}(h:YF n ds a f) {dst:Option Nat}(hd:∀d,dst=some d→d<n) (v:Value):YF n ds (a.put dst v) (QV f dst v):=by
 have:=h.rel.put hd v;cases dst with
 | none=>exact h
 | some d=>exact ⟨this.size,h.defers,this.get⟩
def Xj:Code→Nat→Bool
 | .region _ ops _,t=>ZK ops.toList t
 | .seq a b,t=>Xj a t || Xj b t
 | .cond _ a b,t=>Xj a t || Xj b t
 | .block _ a,t=>Xj a t
 | .loop a,t=>Xj a t
 | .skip,_ | .exit _,_ | .label _,_ | .goto _,_ | .ret,_ | .rangeFunc ..,_=>false
 | _,_=>true
def wrG (D:List (Nat×Nat)):Code→Bool
 | .region _ ops _=>Qcu D ops.toList
 | .seq a b=>wrG D a && wrG D b
 | .cond _ a b=>wrG D a && wrG D b
 | .block _ a=>wrG D a
 | .loop a=>wrG D a
 | .skip | .exit _ | .label _ | .goto _ | .ret | .rangeFunc ..=>true
 | _=>false
theorem XZ {D:List (Nat×Nat)}{t:Nat}(ht:XC D t=false):∀c:Code,wrG D c=true→Xj c t=false
 | .region _ ops _,h=>zF h ht
 | .seq a b,h=>by simp only[wrG,Bool.and_eq_true] at h;simp[Xj,XZ ht a h.1,XZ ht b h.2]
 | .cond _ a b,h=>by simp only[wrG,Bool.and_eq_true] at h;simp[Xj,XZ ht a h.1,XZ ht b h.2]
 | .block _ a,h=>XZ ht a (by simpa[wrG] using h)
 | .loop a,h=>XZ ht a (by simpa[wrG] using h)
 | .skip,_=>rfl
 | .exit _,_=>rfl
 | .label _,_=>rfl
 | .goto _,_=>rfl
 | .ret,_=>rfl
 | .rangeFunc ..,_=>rfl
 | .scope _,h=>by simp[wrG] at h
 | .refuse _,h=>by simp[wrG] at h
def WG (ro:Option Nat) (m:Nat) (P:Program) (n:Nat) (c:Code) (Q:Exit→LN→Fr→World→Prop) (ds:LN) (f:Fr) (w:World):Prop :=
 ∀a,YF n ds a f→c.wpIn (fen ro) m P (λe E w'=>∃ds' f',YF n ds' E f'∧(∀t,Xj c t=false→f' t=f t)∧Q e ds' f' w') a w
def Qbi (K:LN→Fr→World→Prop) (Q:Exit→LN→Fr→World→Prop):Exit→LN→Fr→World→Prop
 | .normal,ds,f,w=>K ds f w
 | e,ds,f,w=>Q e ds f w
def Qnc (id:Nat) (Q:Exit→LN→Fr→World→Prop):Exit→LN→Fr→World→Prop
 | .exit i,ds,f,w=>bif Nat.beq i id then Q .normal ds f w else Q (.exit i) ds f w
 | e,ds,f,w=>Q e ds f w
section
variable {ro:Option Nat} {m:Nat} {P:Program} {n:Nat} {Q:Exit→LN→Fr→World→Prop} {ds:LN} {f:Fr} {w:World}
theorem WG.mono {c:Code}{Q':Exit→LN→Fr→World→Prop}(h:WG ro m P n c Q ds f w) (hq:∀e ds f w,Q e ds f w→Q' e ds f w):WG ro m P n c Q' ds f w :=
 λa ha=>wpIn_mono (h a ha) λ_ _ _ ⟨E,G,h1,h2,h3⟩=>⟨E,G,h1,h2,hq _ _ _ _ h3⟩
theorem WG.keeps {c:Code}(h:WG ro m P n c Q ds f w):WG ro m P n c (λe G E w'=>(∀t,Xj c t=false→E t=f t)∧Q e G E w') ds f w :=
 λa ha=>wpIn_mono (h a ha) λ_ _ _ ⟨G,E,h1,h2,h3⟩=>⟨G,E,h1,h2,h2,h3⟩
theorem Yg (h:Q .normal ds f w):WG ro m P n .skip Q ds f w:=λ_ ha=>wpIn_skip ⟨ds,f,ha,λ_ _=>O,h⟩
theorem Kp {i:Nat}(h:Q (.exit i) ds f w):WG ro m P n (.exit i) Q ds f w:=λ_ ha=>wpIn_exit ⟨ds,f,ha,λ_ _=>O,h⟩
theorem Ko (h:Q .ret ds f w):WG ro m P n .ret Q ds f w:=λ_ ha=>wpIn_ret ⟨ds,f,ha,λ_ _=>O,h⟩
theorem QY {x y:Code}(h:WG ro m P n x (Qbi (λds f w=>WG ro m P n y Q ds f w) Q) ds f w):WG ro m P n (.seq x y) Q ds f w:=by
 intro a ha;refine wpIn_seq (wpIn_mono (h a ha) ?_);rintro e H w' ⟨G,E,h1,h2,h3⟩;have k1:∀t,Xj (.seq x y) t=false→E t=f t:=λt ht=>h2 t (by simp only[Xj,Bool.or_eq_false_iff] at ht;exact ht.1);cases e with
 | normal =>
  refine wpIn_mono (h3 H h1) λ_ _ _ ⟨I,J,g1,S,V⟩=>⟨I,J,g1,λt ht=>(S t ?_).trans (k1 t ht),V⟩;simp only[Xj,Bool.or_eq_false_iff] at ht;exact ht.2
 | exit id=>exact ⟨G,E,h1,k1,h3⟩
 | goto l=>exact ⟨G,E,h1,k1,h3⟩
 | ret=>exact ⟨G,E,h1,k1,h3⟩
 | panic ch=>exact ⟨G,E,h1,k1,h3⟩
 | outgrown=>exact ⟨G,E,h1,k1,h3⟩
theorem QdV {α:Type}{x y:Code}(D:List (Nat×Nat)) (S:α→List (Nat×Value)) (I:α→LN→World→Prop) (hD:wrG D x=true)
  (h1:WG ro m P n x (Qbi (λE G w'=>∃z,XK G (S z)∧I z E w') Q) ds f w)
  (h2:∀z g E w',I z E w'→WG ro m P n y Q E (yy (S z) (mix D f g)) w'):WG ro m P n (.seq x y) Q ds f w:=by
 refine QY (h1.keeps.mono ?_);rintro e E G w' ⟨hk,hq⟩;cases e with
 | normal =>
  obtain ⟨z,hs,hi⟩:=hq;have h3:=h2 z G E w' hi;rw[J8 (λt ht=>hk t (XZ ht x hD)),Y1 hs] at h3;exact h3
 | exit id=>exact hq
 | goto l=>exact hq
 | ret=>exact hq
 | panic ch=>exact hq
 | outgrown=>exact hq
theorem K7 {c:Operand}{x y:Code}{t:Bool}(hc:ev f c=.bool t) (ht:t=true→WG ro m P n x Q ds f w) (E:t=false→WG ro m P n y Q ds f w) :
  WG ro m P n (.cond c x y) Q ds f w:=by
 intro a ha;have G:a.eval c=.bool t:=by rw[ha.eval];exact hc
 refine wpIn_cond_split G (λe=>wpIn_mono (ht e a ha) ?_) (λe=>wpIn_mono (E e a ha) ?_) <;>
  (rintro e J w' ⟨H,I,h1,h2,h3⟩
   refine ⟨H,I,h1,λt ht=>h2 t ?_,h3⟩;simp only[Xj,Bool.or_eq_false_iff] at ht
   first | exact ht.1 | exact ht.2)
theorem Qke {c:Operand}{x y:Code}{p:Prop}[Decidable p] (hc:ev f c=.bool (decide p)) (ht:p→WG ro m P n x Q ds f w) (E:¬p→WG ro m P n y Q ds f w) :
  WG ro m P n (.cond c x y) Q ds f w :=
 K7 hc (λe=>ht (of_decide_eq_true e)) (λe=>E (of_decide_eq_false e))
theorem yu {c:Operand}{x y:Code}{p:Prop}[Decidable p] (hc:ev f c=.bool (decide p)) (E:¬p→WG ro m P n y Q ds f w) (ht:p→WG ro m P n x Q ds f w) :
  WG ro m P n (.cond c x y) Q ds f w:=Qke hc ht E
theorem jE {c:Operand}{x y:Code}(hc:ev f c=.bool true) (h:WG ro m P n x Q ds f w):WG ro m P n (.cond c x y) Q ds f w:=K7 hc (λ_=>h) (λe=>by cases e)
theorem KD {c:Operand}{x y:Code}(hc:ev f c=.bool false) (h:WG ro m P n y Q ds f w):WG ro m P n (.cond c x y) Q ds f w:=K7 hc (λe=>by cases e) (λ_=>h)
theorem ZI {id:Nat}{c:Code}(h:WG ro m P n c (Qnc id Q) ds f w):WG ro m P n (.block id c) Q ds f w:=by
 intro a ha;refine wpIn_block (wpIn_mono (h a ha) ?_);rintro e H w' ⟨G,E,h1,h2,h3⟩;have k1:∀t,Xj (.block id c) t=false→E t=f t:=λt ht=>h2 t (by simpa[Xj] using ht);cases e with
 | exit i =>
  simp only[Exit.inBlock];simp only[Qnc] at h3;by_cases hi:i=id
  ·subst hi;simp only[Nat.beq_refl,cond_true] at h3;simp only[if_true];exact ⟨G,E,h1,k1,h3⟩
  have hb:Nat.beq i id=false:=by
   cases e:Nat.beq i id with
   | false=>rfl
   | true=>exact absurd (Nat.eq_of_beq_eq_true e) hi
  rw[hb] at h3;rw[if_neg hi];exact ⟨G,E,h1,k1,h3⟩
 | normal=>exact ⟨G,E,h1,k1,h3⟩
 | goto l=>exact ⟨G,E,h1,k1,h3⟩
 | ret=>exact ⟨G,E,h1,k1,h3⟩
 | panic ch=>exact ⟨G,E,h1,k1,h3⟩
 | outgrown=>exact ⟨G,E,h1,k1,h3⟩
end
def Qad (l:List Oper):Bool:=l.all λo=>match o.op with | .defer _=>false | _=>true
theorem KW {l:List Oper}(h:Qad l=true):∀o∈l,∀c,o.op≠.defer c:=λo E c e=>by
 have:=Mk.1 h o E;rw[e] at this;cases this
section
variable {ro:Option Nat} {m:Nat} {P:Program} {n:Nat} {ds:LN}
theorem QdP {o:Oper}{a:Act}{f:Fr}{w:World}{K:Fr→World→Prop}{K':Act→World→Prop}{Q:Exit→Act→World→Prop}(h:YF n ds a f) (G:∀c,o.op≠.defer c)
  (E:∀v w',K (QV f o.dst v) w'→K' (a.put o.dst v) w') (hx:XO P o f w K):o.wpIn (fen ro) m P a w K' Q:=by
 unfold XO at hx;refine ⟨λ_ _=>trivial,?_⟩;have e:Oper.semAt (fen ro).round a.eval o=execOp (ev f) o:=by
  rw[h.eval];cases ro with
  | none=>rfl
  | some l=>exact Oper.semAt_some l _ _ G
 rw[e];generalize (execOp (ev f) o).run P w=r at hx;cases r with
 | ok nx w' =>
  cases nx <;> simp only[upF] at hx <;> simp only[Oper.uponIn]
  case value v=>exact E v w' hx
  case skip=>exact E _ w' hx
  case enter g args =>
   refine ⟨λh=>by simp[Fence.wide] at h,?_⟩;refine (callsIn_wide (n:=m - 1)).2 (Calls.mono hx λe H he=>?_);cases e with
   | returned v=>exact E v H he
   | panicked c=>exact he.elim
   | outgrown=>exact he.elim
 | halt x w'=>exact hx.elim
theorem KL {l:List Oper}{a:Act}{f:Fr}(h:YF n ds a f) (E:∀o∈l,∀d,o.dst=some d→d<n) (o:Oper):Region.wanted o (yielded l.toArray a.tmps)=Yk l f o:=VU h.rel E o
theorem QdR {Q:Exit→LN→Fr→World→Prop}{all:List Oper}(G:∀o∈all,∀d,o.dst=some d→d<n) (hd:∀o∈all,∀c,o.op≠.defer c) (f0:Fr) :
  ∀(l:List Oper) (k:Nat) (a:Act) (f:Fr) (w:World),(∀j,l[j]?=all[k+j]?)→YF n ds a f→(∀t,ZK all t=false→f t=f0 t) →
   XL P all (λf w=>Q .normal ds f w) l f w →
   wpOpsIn (fen ro) m P all.toArray (λe S w'=>∃ds' f',YF n ds' S f'∧(∀t,ZK all t=false→f' t=f0 t)∧Q e ds' f' w') (List.range' k l.length) a w
 | [],_,a,f,w,_,E,hk,h=>⟨ds,f,E,hk,by unfold XL at h;exact h⟩
 | o::l,k,a,f,w,hl,E,hk,h=>by
  have I:all[k]?=some o:=by simpa using (hl 0).symm
  have H:o∈all:=Mf I;have ih:=λa f w=>QdR (Q:=Q) G hd f0 l (k+1) a f w (λj=>by have:=hl (j+1);simpa[Nat.add_assoc,Nat.add_comm 1 j] using this);have next:∀v,(∀t,ZK all t=false→QV f o.dst v t=f0 t):=λv t ht=>(Y2 (Xy H ht) v).trans (hk t ht);simp only[List.length_cons,List.range'_succ,wpOpsIn,List.getElem?_toArray,I];rw[KL E G o];unfold XL at h;cases J:Yk all f o with
  | false =>
   rw[J] at h;exact ⟨λ_ _=>trivial,ih _ _ _ (E.put (G o H) _) (next _) h⟩
  | true =>
   rw[J] at h;exact QdP E (hd o H) (λv w' hx=>ih _ _ _ (E.put (G o H) v) (next v) hx) h
theorem QJ {Q:Exit→LN→Fr→World→Prop}{f:Fr}{w:World}{id:Nat}{l:List Oper}(E:X7 n l=true) (hd:Qad l=true) (h:XL P l (λf w=>Q .normal ds f w) l f w):WG ro m P n (.region id l.toArray false) Q ds f w:=by
 intro a ha;refine wpIn_region ?_;have:=QdR (ro:=ro) (m:=m) (YP E) (KW hd) f l 0 a f w (by simp) ha (λ_ _=>rfl) h;simpa[List.range_eq_range',Xj] using this
attribute [local semireducible] XA in
theorem U3 {Q:Exit→Act→World→Prop}{all:List Oper}{C:World→Prop}{K:Fr→World→Prop}(G:∀o∈all,∀d,o.dst=some d→d<n) (hd:∀o∈all,∀c,o.op≠.defer c) (f0:Fr)
  (H:∀a f w,YF n ds a f→(∀t,ZK all t=false→f t=f0 t)→K f w→Q .normal a w) :
  ∀(k:Nat) (ls:Array Bool) (a:Act) (f:Fr) (w:World),YF n ds a f→(∀t,ZK all t=false→f t=f0 t)→XA P all C K k ls f w→wpAnyIn (fen ro) m P .any all.toArray Q k ls a w
 | 0,_,a,f,w,E,hk,h=>⟨h.1,H a f w E hk h.2⟩
 | k+1,ls,a,f,w,E,hk,h=>by
  refine ⟨λV=>H a f w E hk (h.1 V),λi hi=>?_⟩;unfold wpOpIn;simp only[List.getElem?_toArray];cases J:all[i]? with
  | none =>
   exfalso;obtain ⟨_,o,Y,_⟩:=mem_ready.1 hi;simp[J] at Y
  | some o =>
   have I:o∈all:=Mf J;have h1:=h.2 i hi o J;have next:∀v,(∀t,ZK all t=false→QV f o.dst v t=f0 t):=λv t ht=>(Y2 (Xy I ht) v).trans (hk t ht);simp only[];rw[KL E G o];cases S:Yk all f o with
   | false =>
    rw[S] at h1;exact ⟨λ_ _=>trivial,U3 G hd f0 H k _ _ _ _ (E.put (G o I) _) (next _) h1⟩
   | true =>
    rw[S] at h1;exact QdP E (hd o I) (λv w' hx=>U3 G hd f0 H k _ _ _ _ (E.put (G o I) v) (next v) hx.2) h1
theorem zi {Q:Exit→LN→Fr→World→Prop}{f:Fr}{w:World}{all:List Oper}{id:Nat}(C:World→Prop) (pl:List (Nat×Bool)) (hm:P.follows .mixedOrders=true) (G:X7 n all=true) (hd:Qad all=true) (hp:yT all pl=true)
  (hC:C { w with drawn:=w.drawn+1 }) (h:XP P all C (λf w=>Q .normal ds f w) pl f { w with drawn:=w.drawn+1 }):WG ro m P n (.region id all.toArray true) Q ds f w:=by
 intro a ha;simp only[yT,Bool.and_eq_true,beq_iff_eq] at hp;obtain ⟨⟨hs,hl⟩,hp⟩:=hp;refine wpIn_region_any hm ?_;have h1:=ZD hs pl _ _ _ (by simp) (.inl hC) hp h;rw[hl] at h1;have h2:=U3 (ro:=ro) (m:=m) (n:=n) (ds:=ds) (Q:=λe H w'=>∃ds' E,YF n ds' H E∧(∀t,ZK all t=false→E t=f t)∧Q e ds' E w') (YP G) (KW hd) f
  (λa E w I hk hq=>⟨ds,E,I,hk,hq⟩) _ _ a f _ ha (λ_ _=>O) h1
 simpa[Xj] using h2
end
section
variable {ro:Option Nat} {m:Nat} {P:Program} {n:Nat} {Q:Exit→LN→Fr→World→Prop} {ds:LN} {f:Fr} {w:World}
theorem Ux {α:Type}{F:Fence}{c:Code}{Q:Exit→Act→World→Prop}{a:Act}{w:World}(J:α→Act→World→Prop) (μ:α→Nat) (z:α) (h₀:J z a w)
  (round:∀x a w,J x a w→c.wpIn F m P (Exit.then (λG w'=>∃H,μ H<μ x∧J H G w') Q) a w):(Code.loop c).wpIn F m P Q a w:=by
 intro b k cs S hb I;have key:∀j x a w,μ x=j→J x a w →
   ∃e G w',Q e G w'∧ArrivesIn (Machine.fenced P F) P (lone (b.atR a (.code c::.inLoop c::k)) cs w) b k cs e G w':=by
  intro j;induction j using Nat.strongRecOn with
  | _ j ih =>
   intro x a w V Y;obtain ⟨e,a₁,w₁,hq,E⟩:=round x a w Y b (.inLoop c::k) cs S hb I;cases e with
   | normal =>
    obtain ⟨H,ha,hc⟩:=hq;obtain ⟨e₂,a₂,w₂,hq₂,harr₂⟩:=ih (μ H) (V ▸ ha) H a₁ w₁ O hc;exact ⟨e₂,a₂,w₂,hq₂,.of_steps (StepsIn.trans E (.one (fenced_calm hb I O) stepR_inLoop)) harr₂⟩
   | exit id=>exact ⟨_,a₁,w₁,hq,.pass (x:=.inLoop c) O (λ_ _=>.inl (by simp)) E⟩
   | goto l=>exact ⟨_,a₁,w₁,hq,.pass (x:=.inLoop c) O (λ_ _=>.inl (by simp)) E⟩
   | ret=>exact ⟨_,a₁,w₁,hq,.pass (x:=.inLoop c) O (λ_ _=>.inl (by simp)) E⟩
   | panic ch=>exact ⟨_,a₁,w₁,hq,.pass (x:=.inLoop c) O (λ_ _=>.inl (by simp)) E⟩
   | outgrown=>exact ⟨_,a₁,w₁,hq,.pass (x:=.inLoop c) O (λ_ _=>.inl (by simp)) E⟩
 obtain ⟨e,G,w',hq,E⟩:=key _ z a w O h₀;exact ⟨e,G,w',hq,.of_steps (.one (fenced_calm hb I O) stepR_loop) E⟩
theorem Ui {α:Type}{c:Code}(D:List (Nat×Nat)) (S:α→List (Nat×Value)) (I:α→LN→World→Prop) (μ:α→Nat) (hD:wrG D c=true) (z:α)
  (h0:XK f (S z)) (hI:I z ds w)
  (round:∀x g H w',I x H w'→WG ro m P n c (Qbi (λE J hb=>∃Y,μ Y<μ x∧XK J (S Y)∧I Y E hb) Q) H (yy (S x) (mix D f g)) w'):WG ro m P n (.loop c) Q ds f w:=by
 intro a ha;refine Ux (λ(x:α) a' w'=>∃H J,YF n H a' J∧(∀t,Xj c t=false→J t=f t)∧XK J (S x)∧I x H w') μ z ⟨ds,f,ha,λ_ _=>O,h0,hI⟩ ?_;rintro x a' w' ⟨H,J,h1,h2,h3,h4⟩;have h5:=round x J H w' h4;rw[J8 (λt ht=>h2 t (XZ ht c hD)),Y1 h3] at h5;refine wpIn_mono (h5 a' h1) ?_;rintro e hc hb ⟨E,G,g1,g2,V⟩;have k1:∀t,Xj c t=false→G t=f t:=λt ht=>(g2 t ht).trans (h2 t ht)
 have k2:∀t,Xj (.loop c) t=false→G t=f t:=λt ht=>k1 t (by simpa[Xj] using ht);cases e with
 | normal=>obtain ⟨Y,hm,hs,hi⟩:=V;exact ⟨Y,hm,E,G,g1,k1,hs,hi⟩
 | exit id=>exact ⟨E,G,g1,k2,V⟩
 | goto l=>exact ⟨E,G,g1,k2,V⟩
 | ret=>exact ⟨E,G,g1,k2,V⟩
 | panic ch=>exact ⟨E,G,g1,k2,V⟩
 | outgrown=>exact ⟨E,G,g1,k2,V⟩
end
def rqG (P:Program) (rs:List ResultVar) (R:Value→World→Prop):Exit→LN→Fr→World→Prop
 | .normal,ds,f,w=>(∀D∈ds,w.heap[D]?=some (.deferred (some [])))∧ds.Nodup∧∃vs,∀w',Step ds w w'→VR P f w' rs vs∧R (tup vs) w'
 | .ret,ds,f,w=>(∀D∈ds,w.heap[D]?=some (.deferred (some [])))∧ds.Nodup∧∃vs,∀w',Step ds w w'→VR P f w' rs vs∧R (tup vs) w'
 | _,_,_,_=>False
theorem Step.putObj (w:World) (D:Nat) (o:Obj):Step [D] w (w.putObj D o):=⟨O,O,O,by simp,λk _ hk=>World.putObj_heap_other (λe=>hk (by simp[e]))⟩
theorem qD {F:Fence}{m:Nat}{P:Program}{fn:Func}{tmps:Array Value}{R:Ending→World→Prop}:∀(ds:LN) (w:World),(∀D∈ds,w.heap[D]?=some (.deferred (some [])))→ds.Nodup →
  (∀w',Step ds w w'→∃v,(results fn tmps).run P w'=.ok v w'∧R (.returned v) w')→LeavesInM F m P fn tmps R (coll ds) .returning w
 | [],w,_,_,h=>h w (Step.refl _ _)
 | D::ds,w,hD,H,h=>by
  refine ⟨by simp,.inl ⟨D,_,rfl,run_takeDeferred (hD D Lm),?_⟩⟩;have hs:=Step.putObj w D (.deferred none);have G:=List.nodup_cons.1 H;refine qD ds _ (λE hE=>?_) G.2 (λw' I=>h w' ?_)
  ·rw[World.putObj_heap_other (λe=>G.1 (by rw[←e];exact hE))];exact hD E (Lk _ hE)
  exact (hs.mono (λb hb=>by simp at hb;simp[hb])).trans' (I.mono (λb hb=>Lk _ hb))
theorem QK.of_G {P:Program}{g:Nat}{fn:Func}{c:Code}{args:LV}{w:World}{R:Value→World→Prop}{n:Nat}{rs:List ResultVar}(m:Nat)
  (S:P.funcs[g]?=some fn) (hb:fn.body=some c) (V:fn.ntmps=n) (Y:fn.results=rs.toArray) (hl:args.length≤n)
  (h:WG none m P n c (rqG P rs R) [] (ent args) w):QK P g args w R:=by
 unfold QK;refine (callsIn_wide (n:=m)).1 (callsIn_of_wp_marks S hb U (wpIn_mono (h _ ?_) ?_))
 ·refine ⟨by simp[V];omega,O,λt=>?_⟩;have key:∀(l:LV) (t:Nat),l[t]?.getD undef=ent l t:=by
   intro l;induction l with
   | nil=>intro t;rfl
   | cons v l ih=>intro t;cases t with | zero=>rfl | succ t=>simpa[ent] using ih t
  rw[←key];simp only[Array.getD_eq_getD_getElem?,Array.getElem?_append,List.size_toArray,List.getElem?_toArray];by_cases ht:t<args.length
  ·simp[ht]
  simp[ht,Array.getElem?_replicate];split <;> rfl
 rintro e H w' ⟨G,f',h1,_,h3⟩;have fin:((∀D∈G,w'.heap[D]?=some (.deferred (some [])))∧G.Nodup∧∃vs,∀E,Step G w' E→VR P f' E rs vs∧R (tup vs) E) →
   LeavesInM Fence.wide m P fn H.tmps (λe w'=>match e with | .returned v=>R v w' | _=>False) H.defers .returning w':=by
  rintro ⟨hd,ha,vs,I⟩;rw[h1.defers];refine qD G w' hd ha λE J=>⟨tup vs,?_,(I E J).2⟩;simp only[results,Y,List.mapM_toArray,Sem.run_bind,Sem.run_map];rw[X0 (a:={ H with defers:=[] }) h1.rel _ (λ_=>rfl) (λ_ _=>rfl) rs vs (I E J).1]
  cases vs with
  | nil=>rfl
  | cons v vs=>cases vs with | nil=>rfl | cons u us=>rfl
 cases e with
 | normal=>exact fin h3
 | ret=>exact fin h3
 | exit id=>exact h3.elim
 | goto l=>exact h3.elim
 | panic c=>exact h3.elim
 | outgrown=>exact h3.elim
attribute [irreducible] WG
end Go.Lg
namespace Go.Proofs.YtdffckgdcegpaaaGreatDoor
open Go.Proofs.Tryz
open Go.Lg
def IxQ {α:Type}(q:α→Bool) (E:List α) (r:Value):Prop:=(r=.int .i64 (-1)∧∀m (hm:m<E.length),q (E[m]'hm)=false)∨∃(i:Nat) (hi:i<E.length),r=.int .i64 i∧q (E[i]'hi)=true∧∀m (hm:m<i),q (E[m]'(by omega))=false
theorem Qjx {g:Nat}{fn:Func}[Fu prog g fn] {cap:LV}{q:Ed→Bool}{L:LN}{w:World}{v:Value}{E:List Ed}(h:zj L w.heap v E)
  (hk:∀(e:Ed) (G:World),Step [] w G→QK prog g ([.agg (Qx e).toArray]++cap) G λr w'=>r=.bool (q e)∧Step [] G w') :
  QK prog 157 [v,.func (.func g) #[] cap.toArray] w λr w'=>Step [] w w'∧IxQ q E r:=by
 have ha:=h.le;refine QK.of_W func157 O ntmps157 results157 (by simp) ?_;refine Qc<|Qe<|Qf<|Qc<|Qb<|x (Qs h O)<|Qb<|xe<|Qh<|QA (α:=Nat) [(4,5),(8,18)] (λz=>[(8,.int .i64 z)]) (λz w'=>z≤E.length∧Step [] w w'∧∀m (hm:m<E.length),m<z→q (E[m]'hm)=false) (λz=>E.length - z) (by rfl) 0 Z ⟨Ll _,Step.refl _ _,λm _ V=>absurd V (Nh m)⟩ ?_;rintro k g1 G ⟨hb,H,hq⟩
 refine Qc<|x (QB O O)<|xe<|Qf<|QG O (λh9=>?_) (λh9=>?_)
 ·refine Qz<|Qc<|Qe ?_;exact Qn ⟨[.int .i64 (-1)],Z,H,.inl ⟨O,λm hm=>hq m hm (by omega)⟩⟩
 have I:k<E.length:=by omega
 refine Qi<|Qf<|Qh<|Qc<|Qb<|Qe<|Qc<|Qb<|Qb<|Qb<|xie (h.ext H) O O I λhc Y=>x (QI Y O O)<|xl O<|xc (first:=[]) (capt:=cap) O<|(hk (E[k]'I) G H).mono ?_;rintro r2 w2 ⟨rfl,S⟩;refine xe<|Q3 rfl (λJ=>?_) (λJ=>?_)
 ·refine Qc<|Qb<|Qe ?_;exact Qn ⟨[.int .i64 k],Z,H.trans S,.inr ⟨k,I,O,J,λm hm=>hq m (by omega) hm⟩⟩
 refine Qi<|Qy<|QO O O<|Qb<|xe<|⟨k+1,by omega,Z,I,H.trans S,λm hm he=>?_⟩;by_cases e:m=k
 ·subst e;exact J
 exact hq m hm (by omega)
theorem Qjw {g:Nat}{fn:Func}[Fu prog g fn] {cap:LV}{q:Int→Bool}{L:LN}{w:World}{v:Value}{E:LI}(h:QL L w.heap v E)
  (hk:∀(e:Int) (G:World),Step [] w G→QK prog g ([.int .i64 e]++cap) G λr w'=>r=.bool (q e)∧Step [] G w') :
  QK prog 131 [v,.func (.func g) #[] cap.toArray] w λr w'=>Step [] w w'∧IxQ q E r:=by
 have ha:=h.le;refine QK.of_W func131 O ntmps131 results131 (by simp) ?_;refine Qc<|Qe<|Qf<|Qc<|Qb<|x (Qs h O)<|Qb<|xe<|Qh<|QA (α:=Nat) [(4,5),(8,18)] (λz=>[(8,.int .i64 z)]) (λz w'=>z≤E.length∧Step [] w w'∧∀m (hm:m<E.length),m<z→q (E[m]'hm)=false) (λz=>E.length - z) (by rfl) 0 Z ⟨Ll _,Step.refl _ _,λm _ V=>absurd V (Nh m)⟩ ?_;rintro k g1 G ⟨hb,H,hq⟩
 refine Qc<|x (QB O O)<|xe<|Qf<|QG O (λh9=>?_) (λh9=>?_)
 ·refine Qz<|Qc<|Qe ?_;exact Qn ⟨[.int .i64 (-1)],Z,H,.inl ⟨O,λm hm=>hq m hm (by omega)⟩⟩
 have I:k<E.length:=by omega
 refine Qi<|Qf<|Qh<|Qc<|Qb<|Qe<|Qc<|Qb<|Qb<|Qb<|xii (h.ext H) O O I λhc Y=>x (Qw Y O)<|xl O<|xc (first:=[]) (capt:=cap) O<|(hk (E[k]'I) G H).mono ?_;rintro r2 w2 ⟨rfl,S⟩;refine xe<|Q3 rfl (λJ=>?_) (λJ=>?_)
 ·refine Qc<|Qb<|Qe ?_;exact Qn ⟨[.int .i64 k],Z,H.trans S,.inr ⟨k,I,O,J,λm hm=>hq m (by omega) hm⟩⟩
 refine Qi<|Qy<|QO O O<|Qb<|xe<|⟨k+1,by omega,Z,I,H.trans S,λm hm he=>?_⟩;by_cases e:m=k
 ·subst e;exact J
 exact hq m hm (by omega)
theorem QdD {g:Nat}{fn:Func}[Fu prog g fn] {cap:LV}{q:Int→Bool}{L:LN}{w:World}{v:Value}{G:LI}(h:QL L w.heap v G)
  (hk:∀(e:Int) (H:World),Step [] w H→QK prog g ([.int .i64 e]++cap) H λr w'=>r=.bool (q e)∧Step [] H w') :
  QK prog 135 [v,.func (.func g) #[] cap.toArray] w λr w'=>r=.bool (G.any q)∧Step [] w w':=by
 refine QK.of_W func135 O ntmps135 results135 (by simp) ?_;refine Qc<|Qe<|Qc<|Qb<|Qb<|xl O<|xf<|(Qjw h hk).mono ?_;rintro S H ⟨I,E⟩;refine Or.elim E (λE=>?_) (λE=>?_)
 ·obtain ⟨rfl,hq⟩:=E;have e:G.any q=false:=by
   rw[M7];intro z J;obtain ⟨i,hi,rfl⟩:=LD J;rw[hq i hi];simp
  refine x (ZV O O)<|Qe ?_;exact Qn ⟨[.bool false],Z,by rw[e];rfl,I⟩
 obtain ⟨i,hi,rfl,h1,_⟩:=E;have e:G.any q=true:=Mr.2 ⟨_,Lc hi,h1⟩;have e2:decide ((0:Int)≤(i:Int))=true:=by simp
 refine x (ZV O O)<|Qe ?_;exact Qn ⟨[.bool (decide ((0:Int)≤(i:Int)))],Z,by rw[e,e2];rfl,I⟩
theorem Qc3 (E:List Ed) (s v:Int):nxt E s v=nxt (Zz E s) s v:=by
 induction E with
 | nil=>rfl
 | cons e E ih =>
  unfold Zz at *;rw[Mh];by_cases h:e.1=s
  ·rw[if_pos (by simpa using h),nxt,nxt,ih]
  rw[if_neg (by simpa using h),nxt,if_neg (λc=>h c.1),ih]
theorem QbL:∀(l:List Ed) (s v:Int) (i:Nat) (hi:i<l.length),(∀e∈l,e.1=s)→(l[i]'hi).2.1=v→(∀m (hm:m<i),(l[m]'(by omega)).2.1≠v)→nxt l s v=(l[i]'hi).2.2
 | e::l,s,v,0,_,hs,E,_=>by rw[nxt,if_pos ⟨hs e Lm,E⟩];rfl
 | e::l,s,v,i+1,hi,hs,E,hm=>by
  rw[nxt,if_neg (λc=>hm 0 (by omega) c.2)];exact QbL l s v i (by simpa using hi) (λe he=>hs e (Lk _ he)) E (λm G=>hm (m+1) (by omega))
theorem Qga:∀(l:List Ed) (s v:Int),(∀e∈l,e.2.1≠v)→nxt l s v=-1
 | [],_,_,_=>rfl
 | e::l,s,v,h=>by rw[nxt,if_neg (λc=>h e Lm c.2)];exact Qga l s v (λe he=>h e (Lk _ he))
theorem Qgg {b T:Nat}{n:Int}(e:Ed) (w:World) (G:QZ w.heap b T [.int .i64 n]) :
  QK prog 158 ([.agg (Qx e).toArray]++[.pointer (some ⟨b,0,none⟩)]) w λr w'=>r=.bool (decide (e.2.1=n))∧Step [] w w':=by
 refine QK.of_W func158 O ntmps158 results158 (by simp) ?_;refine Qc<|xl O<|QS (us:=Qx e) O λI J E S H=>Qe<|Qc<|x (Qa O)<|x (Qd H O O)<|x (Qd (G.ext E) O O)<|x (Q4 O O)<|Qe ?_;exact Qn ⟨[_],Z,O,E⟩
theorem QaZ {L:LN}{w:World}{va vm ve:Value}{st:Int}{a:QN}(h:zj L w.heap ve a.ed) (G:Q2 a) (s v:Int) (hb:0≤s) (I:s<a.st) :
  QK prog 78 [.agg #[va,.int .i64 st,vm,ve],.int .i64 s,.int .i64 v] w λr w'=>r=.int .i64 (nxt a.ed s v)∧Step [] w w':=by
 have hj:=G.st1;refine QK.of_W func78 O ntmps78 results78 (by simp) ?_;refine Qc<|xl O<|QS (us:=[va,.int .i64 st,vm,ve]) O λb3 w1 I hk hc=>xl O<|QS (us:=[.int .i64 v]) O λb5 w2 J hl hf=>Qe<|Qc<|x (Qr (hc.ext J) O O)<|Qb<|xl O<|xf<|(yU ((h.ext I).ext J) G.eds (λe he=>⟨(G.ed e he).1,by have:=(G.ed e he).2.1;omega⟩) s hb (by omega)).mono ?_;rintro vo w3 ⟨S,hE⟩;refine Qe ?_
 have hg:∀e∈Zz a.ed s,e.1=s:=λe he=>(Zt he).2;rw[Qc3];refine Qc<|Qb<|x (Zq (l:=[]) (l':=[.tmp 5]))<|xl O<|xf<|(Qjx (q:=λe=>decide (e.2.1=v)) (cap:=[.pointer (some ⟨b5,0,none⟩)]) hE (λe V H=>Qgg e V ((hf.ext S).ext H))).mono ?_;rintro r4 V ⟨H,E⟩;have Y:=((I.trans J).trans S).trans H;refine Or.elim E (λE=>?_) (λE=>?_)
 ·obtain ⟨rfl,hq⟩:=E;have e1:nxt (Zz a.ed s) s v=-1:=Qga _ _ _ λe he=>by
   obtain ⟨i,hi,rfl⟩:=LD he;simpa using hq i hi
  rw[e1];refine Qe<|Qf<|Qc<|Qb<|x (QB O O)<|xe<|zc O ?_;refine Qc<|Qe ?_;exact Qn ⟨[.int .i64 (-1)],Z,O,Y⟩
 obtain ⟨i,hi,rfl,h1,h2⟩:=E;have e1:nxt (Zz a.ed s) s v=((Zz a.ed s)[i]'hi).2.2:=QbL _ s v i hi hg (by simpa using h1) (λm hm=>by simpa using h2 m hm);rw[e1];refine Qe<|Qf<|Qc<|Qb<|x (QB O O)<|xe<|Q7 O (λha=>absurd ha (by omega)) (λha=>?_);refine Qi<|Qc<|Qb<|Qb<|xie (hE.ext H) O O hi λhn hh=>x (Zo O)<|x (Qw (hh.fld 2 _ O) O)<|Qe ?_;exact Qn ⟨[_],Z,O,Y⟩
def flw (a:QN):Int→LI→Int×Nat
 | s,[]=>(s,0)
 | s,v::u=>if nxt a.ed s v<0 then (s,0) else ((flw a (nxt a.ed s v) u).1,(flw a (nxt a.ed s v) u).2+1)
theorem Qle {a:QN}(E:Q2 a) {s v:Int}(h:¬nxt a.ed s v<0):nxt a.ed s v<a.st:=(E.ed _ (US (by omega))).2.2.2.2
theorem Qev {L L':LN}{w:World}{va vm ve vw:Value}{st:Int}{a:QN}{u:LI}(h:zj L w.heap ve a.ed) (H:QL L' w.heap vw u) (V:Q2 a) (s:Int) (hg:0≤s) (Y:s<a.st) :
  QK prog 279 [.agg #[va,.int .i64 st,vm,ve],.int .i64 s,vw] w λr w'=>r=.tuple #[.int .i64 (flw a s u).1,.int .i64 (flw a s u).2]∧Step [] w w':=by
 have hm:=H.le;refine QK.of_W func279 O ntmps279 results279 (by simp) ?_;refine Qc<|xl O<|QS (us:=[va,.int .i64 st,vm,ve]) O λb3 w1 Y hp hh=>x Qg<|Qe<|Qf<|Qc<|Qb<|x (Qs H O)<|Qb<|xe ?_
 refine Qh<|QA (α:=Nat×Int) [(1,1),(6,10),(13,27)] (λz=>[(1,.int .i64 z.2),(13,.int .i64 z.1)]) (λz w'=>z.1≤u.length∧0≤z.2∧z.2<a.st∧Step [] w1 w'∧flw a s u=((flw a z.2 (u.drop z.1)).1,(flw a z.2 (u.drop z.1)).2+z.1)) (λz=>u.length - z.1) (by rfl) (0,s) ⟨O,O,U⟩ ⟨Ll _,hg,by assumption,Step.refl _ _,by simp⟩ ?_;rintro ⟨k,t⟩ g w2 ⟨hk,ha,hb,S,E⟩;simp only[] at hk ha hb E
 have I:=Y.trans S;refine Qc<|x (QB O O)<|xe<|Qf<|QG O (λhc=>?_) (λhc=>?_)
 ·refine Qz<|Qc<|Qb<|Qb<|x (Qs H O)<|x Qg<|Qe ?_;rw[Lr (by omega)] at E;have hj:k=u.length:=by have hq:¬(k:Int)<(u.length:Int):=hc;omega
  refine Qn ⟨[.int .i64 t,.int .i64 u.length],⟨O,O,U⟩,?_,I⟩;rw[E,hj];simp[flw,tup]
 have G:k<u.length:=by omega
 rw[QX G,flw] at E;refine Qi<|Qf<|Qh<|Qc<|Qb<|xii (H.ext I) O O G λhr hl=>x (Qw hl O)<|x Qg<|Qe<|Qc<|x (Qr (hh.ext S) O O)<|Qb<|Qb<|xl O<|xf<|(QaZ (h.ext I) V t (u[k]'G) ha hb).mono ?_;rintro r3 w3 ⟨rfl,he⟩;refine Qe<|Qf<|Qc<|Qb<|x (QB O O)<|xe<|Q7 rfl (λJ=>?_) (λJ=>?_)
 ·rw[if_pos J] at E;refine Qc<|Qb<|Qb<|x Qg<|Qe<|Qn ⟨[.int .i64 t,.int .i64 k],⟨O,O,U⟩,?_,I.trans he⟩;rw[E];simp[tup]
 rw[if_neg J] at E;have hn:=Qle V J;refine Qi<|Qy<|Qb<|Qe<|Qy<|QO O O<|Qb<|xe<|⟨(k+1,nxt a.ed t (u[k]'G)),by simp only[];omega,⟨O,O,U⟩,G,by simp only[];omega,hn,S.trans he,?_⟩;simp only[];rw[E];simp;omega
def cks (a:QN) (s:Int):Int:=if JI a≠0 then JI a else if s<0∨a.st≤s then 2 else 0
theorem Jf {L:LN}{w:World}{va vm ve:Value}{a:QN}(h:Zv L w.heap va vm ve a) (s:Int) :
  QK prog 76 [.agg #[va,.int .i64 a.st,vm,ve],.int .i64 s] w λr w'=>r=.int .i64 (cks a s)∧Step [] w w':=by
 refine QK.of_W func76 O ntmps76 results76 (by simp) ?_;refine Qc<|xl O<|QS (us:=[va,.int .i64 a.st,vm,ve]) O λY w1 I ha J=>Qe<|Qf<|Qc<|x (Qr J O O)<|xl O<|xf<|(XJ (h.ext I)).mono ?_;rintro r2 V ⟨rfl,S⟩;refine Qe ?_;unfold cks;have E:=I.trans S;refine Qc<|Qb<|x (Q9 O O)<|xe<|Q7 rfl (λh9=>?_) (λh9=>?_)
 ·refine Qc<|Qb<|Qe ?_;exact Qn ⟨[_],Z,by rw[if_pos h9];rfl,E⟩
 rw[if_neg h9];refine Qi<|Qf<|QT (α:=Unit) [(11,18)] (λz=>[(18,.bool (decide (s<0∨a.st≤s)))]) (λz w'=>w'=V) (by rfl) ?_ ?_
 ·refine Qy<|Qb<|xb (QB O O) (λG=>?_) (λG=>?_)
  ·refine Qb<|xs O<|xs O<|xs O<|xs O<|x (Ql O)<|xe ?_;exact ⟨(),⟨by rw[decide_eq_true (Or.inl G)];rfl,U⟩,O⟩
  refine Qb<|Qb<|x (Qa O)<|x (Qd (J.ext S) O O)<|x (ZV O O)<|x (Ql O)<|xe ?_;exact ⟨(),⟨by show Value.bool (decide (a.st≤s))=_;simp[G],U⟩,rfl⟩
 rintro z g w3 rfl;refine Q7 rfl (λH=>?_) (λH=>?_)
 ·refine Qc<|Qe ?_;exact Qn ⟨[_],Z,by rw[if_pos H];rfl,E⟩
 refine Qi<|Qc<|Qe ?_;exact Qn ⟨[_],Z,by rw[if_neg H];rfl,E⟩
theorem QaK {a:QN}{s:Int}(h:cks a s=0):Q2 a∧0≤s∧s<a.st:=by
 unfold cks at h;split at h
 ·rename_i h1;exact absurd h h1
 rename_i h1;split at h
 ·cases h
 rename_i h2;exact ⟨(ZE a).1 (Ls.1 h1),by omega,by omega⟩
theorem QiM {L:LN}{b T:Nat}{va:Value}{al:LI}{us:LV}(e:Int) (w:World) (E:QZ w.heap b T (va::us)) (G:QL L w.heap va al) :
  QK prog 278 ([.int .i64 e]++[.pointer (some ⟨b,0,none⟩)]) w λr w'=>r=.bool (decide (e∉al))∧Step [] w w':=by
 refine QK.of_W func278 O ntmps278 results278 (by simp) ?_;refine Qc<|Qe<|Qc<|x (Qa O)<|x (Qd E O O)<|Qb<|xl O<|xf<|(ZP G e).mono ?_;rintro H I ⟨rfl,rfl⟩;refine x (Zm O)<|Qe<|Qn ⟨[_],Z,?_,Step.refl _ _⟩;show Value.bool (!decide (e∈al))=_;rw[decide_not]
def QiL (a:QN) (s:Int) (u:LI):Int:=if cks a s≠0 then cks a s else if (u.any λe=>decide (e∉a.al))=true then 9 else 0
theorem Qmi {L L':LN}{w:World}{va vm ve vw:Value}{a:QN}{u:LI}(h:Zv L w.heap va vm ve a) (Y:QL L' w.heap vw u) (s:Int) :
  QK prog 248 [.agg #[va,.int .i64 a.st,vm,ve],.int .i64 s,vw] w λr w'=>Step [] w w'∧r=if QiL a s u≠0 then .tuple #[.int .i64 0,.int .i64 0,.int .i64 (QiL a s u)] else .tuple #[.int .i64 (flw a s u).1,.int .i64 (flw a s u).2,.int .i64 0]:=by
 refine QK.of_W func248 O ntmps248 results248 (by simp) ?_;refine Qc<|xl O<|QS (us:=[va,.int .i64 a.st,vm,ve]) O λb3 w1 ha he J=>x Qg<|x Qg<|Qe<|Qf<|Qc<|x (Qr J O O)<|Qb<|xl O<|xf<|(Jf (h.ext ha) s).mono ?_;rintro r2 w2 ⟨rfl,S⟩;refine Qe ?_;have G:=ha.trans S;unfold QiL;refine Qc<|Qb<|x (Q9 O O)<|xe<|Q7 rfl (λE=>?_) (λE=>?_)
 ·refine Qc<|Qb<|x Qg<|x Qg<|Qe ?_;exact Qn ⟨[_,_,_],⟨O,O,O,U⟩,G,by rw[if_pos E,if_pos E];rfl⟩
 have hc:cks a s=0:=Ls.1 E;obtain ⟨ho,h0,h1⟩:=QaK hc;rw[if_neg E];refine Qi<|Qf<|Qc<|Qb<|x (Zq (l:=[]) (l':=[.tmp 3]))<|xl O<|xf<|(QdD (q:=λe=>decide (e∉a.al)) (cap:=[.pointer (some ⟨b3,0,none⟩)]) (Y.ext G) (λe w4 H=>QiM e w4 ((J.ext S).ext H) ((h.al.ext G).ext H))).mono ?_;rintro r3 w3 ⟨rfl,hb⟩;refine xe ?_;have I:=G.trans hb
 refine Q3 rfl (λV=>?_) (λV=>?_)
 ·rw[if_pos V];refine Qc<|x Qg<|x Qg<|Qe ?_;exact Qn ⟨[_,_,_],⟨O,O,O,U⟩,I,by rw[if_pos (by decide)];rfl⟩
 rw[if_neg (by rw[V];simp)];refine Qi<|Qc<|x (Qr ((J.ext S).ext hb) O O)<|Qb<|Qb<|xl O<|xf<|(Qev (h.ed.ext I) (Y.ext I) ho s h0 h1).mono ?_;rintro r4 w4 ⟨rfl,H⟩;refine Qb<|x (Qk O O) <|
  x (Qk rfl O)<|x Qg<|Qe<|Qc<|Qb<|Qb<|x Qg<|x Qg<|Qe ?_
 exact Qn ⟨[_,_,_],⟨O,O,O,U⟩,I.trans H,O⟩
def enb (a:QN) (s:Int):LI:=(Zz a.ed s).map (·.2.1)
theorem Qhp {l:List Ed}{k:Nat}(h:k<l.length):(l.take (k+1)).map (·.2.1)=(l.take k).map (·.2.1)++[(l[k]'h).2.1]:=by
 rw[List.take_add_one,LB h,Lu];rfl
theorem K9 {L:LN}{w:World}{va vm ve:Value}{a:QN}(h:Zv L w.heap va vm ve a) (s:Int) :
  QK prog 29 [.agg #[va,.int .i64 a.st,vm,ve],.int .i64 s] w λr w'=>Step [] w w'∧∃v,r=.tuple #[v,.int .i64 (cks a s)]∧(cks a s≠0→v=Zg)∧(cks a s=0→Qu 3 w.heap.size w' v (enb a s)):=by
 refine QK.of_W func29 O ntmps29 results29 (by simp) ?_;refine Qc<|xl O<|QS (us:=[va,.int .i64 a.st,vm,ve]) O λb2 w1 hg h5 hh=>x Qg<|Qe<|Qf<|Qc<|x (Qr hh O O)<|Qb<|xl O<|xf<|(Jf (h.ext hg) s).mono ?_;rintro r2 w2 ⟨rfl,hj⟩;refine Qe ?_;have S:=hg.trans hj;refine Qc<|Qb<|x (Q9 O O)<|xe<|Q7 rfl (λV=>?_) (λV=>?_)
 ·refine Qc<|Qb<|x Qg<|Qe ?_;exact Qn ⟨[Zg,_],⟨O,O,U⟩,S,Zg,O,λ_=>O,λe=>absurd e V⟩
 have hc:cks a s=0:=Ls.1 V;obtain ⟨G,h0,h1⟩:=QaK hc;have h6:=G.st1;rw[hc];refine Qi<|Qc<|Qe<|Qf<|Qc<|x (Qr (hh.ext hj) O O)<|Qb<|xl O<|xf<|(yU (h.ed.ext S) G.eds (λe he=>⟨(G.ed e he).1,by have:=(G.ed e he).2.1;omega⟩) s h0 (by omega)).mono ?_;rintro vo w3 ⟨hm,hE⟩;refine x (Qs hE O)<|Qb<|xe ?_;have hl:=S.trans hm;have hn:=hl.size;have hp:=J6 a.ed s
 have h7:=G.ed_le;refine Zc (Zz a.ed s) λos H=>?_;rw[H] at hE hp;refine Qh<|QA (α:=Nat×Value) [(7,7),(9,9),(20,29)] (λz=>[(7,z.2),(20,.int .i64 z.1)]) (λz w'=>z.1≤os.length∧Step [] w3 w'∧Qu 3 w3.heap.size w' z.2 ((os.take z.1).map (·.2.1))) (λz=>os.length - z.1) (by rfl) (0,nS) ⟨O,by rw[H];rfl,U⟩ ⟨Ll _,Step.refl _ _,QP _ _ _ _⟩ ?_;rintro ⟨k,v⟩ g w4 ⟨hk,J,I⟩
 simp only[] at hk I;have h8:=J.size;refine Qc<|x (QB O O)<|xe<|Qf<|QG O (λY=>?_) (λY=>?_)
 ·refine Qz<|Qc<|Qb<|x Qg<|Qe ?_;rw[Lo (by rw[H] at Y;omega)] at I;refine Qn ⟨[v,_],⟨O,O,U⟩,hl.trans J,v,O,λe=>absurd O e,λ_=>?_⟩;unfold enb;rw[H];exact Zr I hn
 have E:k<os.length:=by rw[H] at Y;omega
 refine Qi<|Qf<|Qh<|Qc<|xie (hE.ext J) O O E λh9 hq=>x (QI hq O O)<|xl O<|Qt (us:=[.int .i64 0,.int .i64 0,.int .i64 0]) O λb9 w5 hr ht hu=>xl O<|Qo (us:=Qx (os[k]'E)) hu O O O O ⟨O,O,O,U⟩ λw6 hv hw =>
  xe ?_
 have ha:Step [] w4 w6:=hr.then1 hv ht;have hy:=Qq I ha;refine Qy<|Qb<|x (Qa O)<|x (Qd hw O O)<|xl O<|QC (us:=[[.int .i64 (os[k]'E).2.1]]) O O (by decide) (by simp) ⟨rfl,rfl,U⟩ λhA w7 hf hB hz=>?_;have h2:=Qq hy hf;have hC:=(ha.trans hf).size;have hD:((os.take k).map (·.2.1)).length≤131072:=by simp;omega
 refine xl rfl<|Q5 (news:=[.int .i64 (os[k]'E).2.1]) (L:=[]) h2 O O O (hz.at (by simp)) (by simp[Value.oneCell']) (by omega) (by omega) λv8 w8 h3 h4 hF=>Qe ?_;have hge:=Qm I;refine Qy<|QO O O<|Qb<|xe<|⟨(k+1,v8),by simp only[];omega,⟨O,O,U⟩,E,((J.trans ha).trans hf).then h4 (λb hb=>.inr (hge b hb).1),?_⟩;simp only[];rw[Qhp E];exact Qu.snoc h3
theorem Qdy {a:QN}(G:Q2 a) (x v:Int):v∈enb a x↔0≤nxt a.ed x v:=by
 unfold enb;rw[KT G];constructor
 ·intro h;obtain ⟨e,he,rfl⟩:=Lp.1 h;obtain ⟨h1,h2⟩:=Zt he;cases E:eget a.ed x e.2.1 with
  | some _=>rfl
  | none =>
   exfalso;have key:∀(l:List Ed),e∈l→eget l x e.2.1=none→False:=by
    intro l;induction l with
    | nil=>intro h;cases h
    | cons d l ih =>
     intro hm E;rw[eget] at E;split at E
     ·cases E
     rename_i H;rcases Lb.1 hm with rfl | hm
     ·exact H ⟨h2,O⟩
     exact ih hm E
   exact key a.ed h1 E
 intro h;obtain ⟨u,hu⟩:=Me.1 h;have:=YY hu;refine Lp.2 ⟨(x,v,u),?_,O⟩;unfold Zz;exact LR.2 ⟨this,by simp⟩
theorem QjM {a:QN}(E:Q2 a) (x:Int):Z0 (enb a x):=by
 unfold enb Z0;rw[Ms];have h1:(Zz a.ed x).Pairwise λx y:Ed=>x.1<y.1∨(x.1=y.1∧x.2.1<y.2.1):=List.Pairwise.sublist MB E.edi;refine List.Pairwise.imp_of_mem (λ{a b} ha hb G=>?_) h1;have h2:=(Zt ha).2;have h3:=(Zt hb).2;omega
theorem Qb3 {a:QN}(E:Q2 a) (x:Int):enb a x=a.al.filter λv=>decide (0≤nxt a.ed x v):=by
 refine Z0.ext (QjM E x) (List.Pairwise.sublist MB E.ali) λv=>?_;rw[Qdy E,LR];constructor
 ·intro h;exact ⟨(E.ed _ (US h)).2.2.1,by simpa using h⟩
 intro h;simpa using h.2
theorem QiT {L:LN}{w:World}{v:Value}{l:LI}(h:QL L w.heap v l) (n:Int) :
  QK prog 241 [v,.int .i64 n] w λr w'=>r=.int .i64 (Xp n none l)∧w'=w:=by
 have he:=h.le;refine QK.of_W func241 O ntmps241 results241 (by simp) ?_;refine Qc<|Qe<|Qf<|Qc<|Qb<|x (Qs h O)<|Qb<|xe<|Qh<|QA (α:=Nat) [(4,6),(9,34)] (λk=>[(9,.int .i64 k)]) (λk w'=>w'=w∧k≤l.length∧Xp n (pv l k) (l.drop k)=Xp n none l) (λk=>l.length - k) (by rfl) 0 Z ⟨O,Ll _,O⟩ ?_;rintro k g S ⟨rfl,hk,hm⟩;refine Qc<|x (QB O O)<|xe<|Qf<|QG O (λV=>?_) (λV=>?_)
 ·refine Qz<|Qc<|Qe<|Qn ⟨[.int .i64 0],Z,?_,O⟩;rw[←hm,Lr (by omega)];rfl
 have E:k<l.length:=by omega
 have hd:=QX E;rw[hd,Xp] at hm;refine Qi<|Qf<|Qh<|Qc<|Qb<|xii h O O E λhf Y=>x (Qw Y O)<|x Qg<|Qe<|Qh<|QT (α:=Bool) [(14,21)] (λz=>[(14,.bool z)]) (λz w'=>w'=S∧z=decide (l[k]<0∨n≤l[k])) (by rfl) ?_ ?_
 ·refine Qy<|Qb<|xb (QB O O) (λG=>?_) (λG=>?_)
  ·refine Qb<|xs O<|xs O<|xs O<|x (Ql O)<|Qe ?_;exact ⟨true,Z,O,by simp[G]⟩
  refine Qb<|Qb<|Qb<|x (ZV O O)<|x (Ql O)<|Qe ?_;exact ⟨_,Z,O,by simp[G]⟩
 rintro z g w2 ⟨rfl,rfl⟩;refine Q7 rfl (λH=>?_) (λH=>?_)
 ·refine Qc<|Qe<|Qn ⟨[.int .i64 2],Z,?_,O⟩;rw[←hm,if_pos H];rfl
 rw[if_neg H] at hm;refine QT (α:=Bool) [(22,33)] (λz=>[(22,.bool z)]) (λz w'=>w'=w2∧z=UW (pv l k) l[k]) (by rfl) ?_ ?_
 ·refine Qy<|Qb<|xb (ZR O O) (λha=>?_) (λha=>?_)
  ·have hb:((k:Int) - 1)=((k - 1:Nat):Int):=by omega
   refine Qb<|Qb<|Qb<|Qb<|x (JR O O ⟨by omega,by omega⟩)<|xii (i:=k - 1) h O (by show Value.int _ ((k:Int) - 1)=_;rw[hb]) (by omega) λhg hc=>x (Qw hc rfl)<|x (X3 rfl rfl)<|x (Ql rfl)<|Qe<|⟨_,⟨rfl,U⟩,rfl,?_⟩;have:pv l k=some l[k - 1]:=by
    have I:k≠0:=by omega
    simp[pv,I,show k - 1<l.length by omega]
   rw[this];rfl
  refine Qb<|xs O<|xs O<|xs O<|xs O<|xs O<|xs O<|xs O<|x (Ql O)<|Qe ?_;have I:k=0:=by omega
  exact ⟨false,Z,O,by simp[pv,I,UW]⟩
 rintro z g w3 ⟨rfl,rfl⟩;refine Q3 rfl (λJ=>?_) (λJ=>?_)
 ·refine Qc<|Qe<|Qn ⟨[.int .i64 5],Z,?_,O⟩;rw[←hm,if_pos J];rfl
 rw[if_neg (by simp[J])] at hm;refine Qi<|Qy<|QO O O<|Qb<|xe ?_;exact ⟨k+1,by omega,Z,O,by omega,by rw[Jz E];exact hm⟩
theorem Qba {L:LN}{w:World}{v:Value}{l:LI}(h:QL L w.heap v l) (n:Int) :
  QK prog 80 [v,.int .i64 n] w λr w'=>r=.int .i64 (Xp n none l)∧w'=w:=by
 have he:=h.le;refine QK.of_W func80 O ntmps80 results80 (by simp) ?_;refine Qc<|Qe<|Qf<|Qc<|Qb<|x (Qs h O)<|Qb<|xe<|Qh<|QA (α:=Nat) [(4,6),(9,32)] (λk=>[(9,.int .i64 k)]) (λk w'=>w'=w∧k≤l.length∧Xp n (pv l k) (l.drop k)=Xp n none l) (λk=>l.length - k) (by rfl) 0 Z ⟨O,Ll _,O⟩ ?_;rintro k g S ⟨rfl,hk,hm⟩;refine Qc<|x (QB O O)<|xe<|Qf<|QG O (λV=>?_) (λV=>?_)
 ·refine Qz<|Qc<|Qe<|Qn ⟨[.int .i64 0],Z,?_,O⟩;rw[←hm,Lr (by omega)];rfl
 have E:k<l.length:=by omega
 have hd:=QX E;rw[hd,Xp] at hm;refine Qi<|Qf<|Qh<|Qc<|Qb<|xii h O O E λhf Y=>x (Qw Y O)<|x Qg<|Qe<|Qf<|QT (α:=Bool) [(14,20)] (λz=>[(20,.bool z)]) (λz w'=>w'=S∧z=decide (l[k]<0∨n≤l[k])) (by rfl) ?_ ?_
 ·refine Qy<|Qb<|xb (QB O O) (λG=>?_) (λG=>?_)
  ·refine Qb<|xs O<|xs O<|xs O<|x (Ql O)<|xe ?_;exact ⟨true,Z,O,by simp[G]⟩
  refine Qb<|Qb<|Qb<|x (ZV O O)<|x (Ql O)<|xe ?_;exact ⟨_,Z,O,by simp[G]⟩
 rintro z g w2 ⟨rfl,rfl⟩;refine Q7 rfl (λH=>?_) (λH=>?_)
 ·refine Qc<|Qe<|Qn ⟨[.int .i64 2],Z,?_,O⟩;rw[←hm,if_pos H];rfl
 rw[if_neg H] at hm;refine Qi<|QT (α:=Bool) [(21,31)] (λz=>[(31,.bool z)]) (λz w'=>w'=w2∧z=UW (pv l k) l[k]) (by rfl) ?_ ?_
 ·refine Qy<|Qb<|xb (ZR O O) (λha=>?_) (λha=>?_)
  ·have hb:((k:Int) - 1)=((k - 1:Nat):Int):=by omega
   refine Qb<|Qb<|Qb<|Qb<|x (JR O O ⟨by omega,by omega⟩)<|xii (i:=k - 1) h O (by show Value.int _ ((k:Int) - 1)=_;rw[hb]) (by omega) λhg hc=>x (Qw hc rfl)<|x (X3 rfl rfl)<|x (Ql rfl)<|xe<|⟨_,Z,O,?_⟩;have:pv l k=some l[k - 1]:=by
    have I:k≠0:=by omega
    simp[pv,I,show k - 1<l.length by omega]
   rw[this];rfl
  refine Qb<|xs O<|xs O<|xs O<|xs O<|xs O<|xs O<|xs O<|x (Ql O)<|xe ?_;have I:k=0:=by omega
  exact ⟨false,Z,O,by simp[pv,I,UW]⟩
 rintro z g w3 ⟨rfl,rfl⟩;refine Q3 rfl (λJ=>?_) (λJ=>?_)
 ·refine Qc<|Qe<|Qn ⟨[.int .i64 5],Z,?_,O⟩;rw[←hm,if_pos J];rfl
 rw[if_neg (by simp[J])] at hm;refine Qi<|Qy<|QO O O<|Qb<|xe ?_;exact ⟨k+1,by omega,Z,O,by omega,by rw[Jz E];exact hm⟩
end Go.Proofs.YtdffckgdcegpaaaGreatDoor
namespace Go.Lg
open Go.RowKit
def upY (P:Program) (m:Nat) (dst:Option Nat) (f:Fr) (K:Fr→World→Prop):Result Next→Prop
 | .ok (.value v) w'=>K (QV f dst v) w'
 | .ok .skip w'=>K (QV f dst undef) w'
 | .ok (.enter g args) w'=>Calls P g args w' λe E=>match e with | .returned v=>K (QV f dst v) E | _=>False
 | .ok (.round l fn tmps assign body) w'=>RoundIn (fen none) (m - 1) P l fn tmps assign body w' λe E=>match e with | .returned v=>K (QV f dst v) E | _=>False
 | _=>False
def XOY (P:Program) (m:Nat) (o:Oper) (f:Fr) (w:World) (K:Fr→World→Prop):Prop:=upY P m o.dst f K ((execOp (ev f) o).run P w)
def XW (P:Program) (m:Nat) (ops:List Oper) (K:Fr→World→Prop):List Oper→Fr→World→Prop
 | [],f,w=>K f w
 | o::l,f,w=>bif Yk ops f o then XOY P m o f w (XW P m ops K l) else XW P m ops K l (QV f o.dst undef) w
section
variable {m:Nat} {P:Program} {n:Nat} {ds:LN}
theorem XOY.of_XO {o:Oper}{f:Fr}{w:World}{K K':Fr→World→Prop}(E:∀f w,K f w→K' f w) (h:XO P o f w K):XOY P m o f w K':=by
 unfold XO at h;unfold XOY;generalize (execOp (ev f) o).run P w=r at h;cases r with
 | ok nx w' =>
  cases nx <;> simp only[upF] at h <;> simp only[upY]
  case value v=>exact E _ _ h
  case skip=>exact E _ _ h
  case enter g args =>
   refine Calls.mono h λe G he=>?_;cases e with
   | returned v=>exact E _ _ he
   | panicked c=>exact he.elim
   | outgrown=>exact he.elim
 | halt x w'=>exact h.elim
theorem XW.pre {ops:List Oper}{K:Fr→World→Prop}{l2:List Oper}:∀(E:List Oper) (f:Fr) (w:World),XL P ops (λf w=>XW P m ops K l2 f w) E f w→XW P m ops K (E++l2) f w
 | [],f,w,h=>by unfold XL at h;exact h
 | o::E,f,w,h=>by
  unfold XL at h;show (bif Yk ops f o then XOY P m o f w (XW P m ops K (E++l2)) else XW P m ops K (E++l2) (QV f o.dst undef) w);cases G:Yk ops f o with
  | false=>rw[G] at h;exact XW.pre E _ _ h
  | true=>rw[G] at h;exact XOY.of_XO (λf w h=>XW.pre E f w h) h
theorem XW.pre2 {ops:List Oper}{K:Fr→World→Prop}{o1 o2:Oper}{l2:List Oper}{f:Fr}{w:World}(h:XL P ops (λf w=>XW P m ops K l2 f w) [o1,o2] f w):XW P m ops K (o1::o2::l2) f w:=XW.pre [o1,o2] f w h
theorem XW.of_XL {ops:List Oper}{K:Fr→World→Prop}{l:List Oper}{f:Fr}{w:World}(h:XL P ops K l f w):XW P m ops K l f w:=by
 have:=XW.pre (m:=m) (l2:=[]) l f w h
 rwa [LH] at this
theorem QhZ {o:Oper}{a:Act}{f:Fr}{w:World}{K:Fr→World→Prop}{K':Act→World→Prop}{Q:Exit→Act→World→Prop}(h:YF n ds a f)
  (E:∀v w',K (QV f o.dst v) w'→K' (a.put o.dst v) w') (hx:XOY P m o f w K):o.wpIn (fen none) m P a w K' Q:=by
 unfold XOY at hx;refine ⟨λ_ _=>trivial,?_⟩;have e:Oper.semAt (fen none).round a.eval o=execOp (ev f) o:=by rw[h.eval];rfl
 rw[e];generalize (execOp (ev f) o).run P w=r at hx;cases r with
 | ok nx w' =>
  cases nx <;> simp only[upY] at hx <;> simp only[Oper.uponIn]
  case value v=>exact E v w' hx
  case skip=>exact E _ w' hx
  case enter g args =>
   refine ⟨λh=>by simp[Fence.wide] at h,?_⟩;refine (callsIn_wide (n:=m - 1)).2 (Calls.mono hx λe G he=>?_);cases e with
   | returned v=>exact E v G he
   | panicked c=>exact he.elim
   | outgrown=>exact he.elim
  case round l fn tmps assign body =>
   refine ⟨λh=>by simp[Fence.wide] at h,?_⟩;refine RoundIn.mono hx λe G he=>?_;cases e with
   | returned v=>exact E v G he
   | panicked c=>exact he.elim
   | outgrown=>exact he.elim
 | halt x w'=>exact hx.elim
theorem Qa1 {Q:Exit→LN→Fr→World→Prop}{all:List Oper}(G:∀o∈all,∀d,o.dst=some d→d<n) (f0:Fr) :
  ∀(l:List Oper) (k:Nat) (a:Act) (f:Fr) (w:World),(∀j,l[j]?=all[k+j]?)→YF n ds a f→(∀t,ZK all t=false→f t=f0 t) →
   XW P m all (λf w=>Q .normal ds f w) l f w →
   wpOpsIn (fen none) m P all.toArray (λe S w'=>∃ds' f',YF n ds' S f'∧(∀t,ZK all t=false→f' t=f0 t)∧Q e ds' f' w') (List.range' k l.length) a w
 | [],_,a,f,w,_,E,hk,h=>⟨ds,f,E,hk,by unfold XW at h;exact h⟩
 | o::l,k,a,f,w,hl,E,hk,h=>by
  have I:all[k]?=some o:=by simpa using (hl 0).symm
  have H:o∈all:=Mf I;have ih:=λa f w=>Qa1 (Q:=Q) G f0 l (k+1) a f w (λj=>by have:=hl (j+1);simpa[Nat.add_assoc,Nat.add_comm 1 j] using this);have next:∀v,(∀t,ZK all t=false→QV f o.dst v t=f0 t):=λv t ht=>(Y2 (Xy H ht) v).trans (hk t ht);simp only[List.length_cons,List.range'_succ,wpOpsIn,List.getElem?_toArray,I];rw[KL E G o];unfold XW at h;cases J:Yk all f o with
  | false =>
   rw[J] at h;exact ⟨λ_ _=>trivial,ih _ _ _ (E.put (G o H) _) (next _) h⟩
  | true =>
   rw[J] at h;exact QhZ E (λv w' hx=>ih _ _ _ (E.put (G o H) v) (next v) hx) h
theorem KC {Q:Exit→LN→Fr→World→Prop}{f:Fr}{w:World}{id:Nat}{l:List Oper}(E:X7 n l=true) (h:XW P m l (λf w=>Q .normal ds f w) l f w):WG none m P n (.region id l.toArray false) Q ds f w:=by
 unfold WG;intro a ha;refine wpIn_region ?_;have:=Qa1 (m:=m) (YP E) f l 0 a f w (by simp) ha (λ_ _=>rfl) h;simpa[List.range_eq_range',Xj] using this
theorem xy {ops:List Oper}{rest:List Oper}{f:Fr}{w:World}{K:Fr→World→Prop}{d:Option Nat}{ty:Nat}{ps:String}{af:Array Edge}{gd:Option (Nat×Bool)}{x y:Operand}{at_:Array Nat}{l:Nat}{R:Ending→World→Prop}
  (hx:ev f x=.func (.yield l) #[] #[]) (hy:YieldAt (fen none) (m - 1) P l #[ev f y] w R) (E:∀e w',R e w'→∃v,e=.returned v∧XW P m ops K rest (QV f d v) w')
  (G:Yk ops f ⟨d,.call ⟨.value x,[y].toArray,at_⟩,ty,ps,af,gd⟩=true:=by rfl) :
  XW P m ops K (⟨d,.call ⟨.value x,[y].toArray,at_⟩,ty,ps,af,gd⟩::rest) f w:=by
 obtain ⟨fn,tmps,assign,body,h1,h2⟩:=hy;have H:(execOp (ev f) ⟨d,.call ⟨.value x,[y].toArray,at_⟩,ty,ps,af,gd⟩).run P w=.ok (.round l fn tmps assign body) w:=by
  simp[execOp,resolve,hx,Deferred.ofValue,invoke,h1]
 unfold XW;rw[G];simp only[XOY,H,upY,cond_true];exact h2.mono λe w' h=>by obtain ⟨v,rfl,hk⟩:=E e w' h;exact hk
end
attribute [irreducible] XW
structure Lw (B:Nat) (L:LN) (w w':World):Prop where
 os:w'.os=w.os
 tape:w'.tape=w.tape
 output:w'.output=w.output
 size:w.heap.size≤w'.heap.size
 low:∀k,k<B→k∉L→w'.heap[k]?=w.heap[k]?
theorem Lw.refl (B:Nat) (L:LN) (w:World):Lw B L w w:=⟨O,O,O,Lt _,λ_ _ _=>O⟩
theorem Lw.trans {B:Nat}{L:LN}{E w w':World}(h:Lw B L E w) (k:Lw B L w w'):Lw B L E w' :=
 ⟨k.os.trans h.os,k.tape.trans h.tape,k.output.trans h.output,LS h.size k.size,λi hi G=>(k.low i hi G).trans (h.low i hi G)⟩
theorem Step.lw {L:LN}{w w' E:World}(h:Step L w w') (k:Lw w.heap.size L w' E):Step L w E :=
 ⟨k.os.trans h.os,k.tape.trans h.tape,k.output.trans h.output,LS h.size k.size,λi hi G=>(k.low i hi G).trans (h.block i hi G)⟩
structure JO (B:Nat) (L:LN) (W W':World):Prop where
 lw:Lw B L W W'
 other:∀(k:Nat) (o:Obj),W.heap[k]?=some o→o.isCells=false→W'.heap[k]?=some o
theorem JO.refl (B:Nat) (L:LN) (w:World):JO B L w w:=⟨Lw.refl _ _ _,λ_ _ h _=>h⟩
theorem JO.trans {B:Nat}{L:LN}{E w w':World}(h:JO B L E w) (k:JO B L w w'):JO B L E w':=⟨h.lw.trans k.lw,λi o hi G=>k.other i o (h.other i o hi G) G⟩
theorem JO.step {B:Nat}{L X:LN}{W W':World}(h:Step X W W') (I:B≤W.heap.size) (E:∀b∈X,(b∈L∨B≤b)∧∃o:Obj,W.heap[b]?=some o∧o.isCells=true):JO B L W W':=by
 refine ⟨⟨h.os,h.tape,h.output,h.size,λk hk G=>h.block k (by omega) (λhx=>?_)⟩,λk o hk H=>?_⟩
 ·rcases (E k hx).1 with h1 | h1
  ·exact G h1
  omega
 refine (h.block k (LE.1 hk).1 (λhx=>?_)).trans hk;obtain ⟨J,h1,h2⟩:=(E k hx).2;rw[hk] at h1;cases h1;rw[H] at h2;cases h2
theorem JO.ext {B:Nat}{L:LN}{W W':World}(h:Step [] W W') (E:B≤W.heap.size):JO B L W W':=JO.step h E (λ_ hb=>by cases hb)
theorem QZ.cells {H:Array Obj}{b T:Nat}{cs:LV}(h:QZ H b T cs):∃o:Obj,H[b]?=some o∧o.isCells=true:=⟨_,h,O⟩
theorem JO.blk {B:Nat}{L:LN}{W W':World}{b T:Nat}{cs:LV}(h:Step [b] W W') (E:B≤W.heap.size) (hb:QZ W.heap b T cs) (G:b∈L∨B≤b):JO B L W W' :=
 JO.step h E (λc hc=>by
  have e:c=b:=by simpa using hc
  subst e;exact ⟨G,hb.cells⟩)
def Z1 (B:Nat) (I:World→Prop):Prop:=∀W W' X,I W→Step X W W'→(∀r∈X,B≤r∧∃o:Obj,W.heap[r]?=some o∧o.isCells=false)→I W'
theorem Z1.own {β:Type}{B:Nat}{I:β→World→Prop}(h:∀s,Z1 B (I s)):OwnFrom B I:=λs W W' row hs G H =>
 h s W W' _ hs (Step.of_grown G) (λr E=>H r (by cases row <;> simp at E ⊢;exact E.symm))
theorem Z1.blk {B:Nat}{b T:Nat}{cs:LV}:Z1 B (λW=>QZ W.heap b T cs):=λW W' X h hs E=>h.step hs (λhb=>by
 obtain ⟨_,o,h1,h2⟩:=E b hb;unfold QZ at h;rw[h] at h1;cases h1;cases h2)
theorem Z1.and {B:Nat}{I J:World→Prop}(h:Z1 B I) (k:Z1 B J):Z1 B (λW=>I W∧J W):=λW W' X hi hs E=>⟨h W W' X hi.1 hs E,k W W' X hi.2 hs E⟩
theorem Z1.ex {B:Nat}{β:Type}{I:β→World→Prop}(h:∀z,Z1 B (I z)):Z1 B (λW=>∃z,I z W):=λW W' X ⟨z,hi⟩ hs E=>⟨z,h z W W' X hi hs E⟩
theorem Z1.pure {B:Nat}(p:Prop):Z1 B (λ_=>p):=λ_ _ _ h _ _=>h
theorem Z1.step {B:Nat}{L:LN}{w:World}(G:w.heap.size≤B):Z1 B (λW=>Step L w W):=λW W' X h hs E=>h.then hs (λb hb=>.inr (by have:=(E b hb).1;omega))
theorem Q0 {w:World}{base e sz n:Nat}{v:Value}{cs:LV}(h:w.ownsRow base e sz v n cs):∀b∈ob v,∃o:Obj,w.heap[b]?=some o∧o.isCells=true:=by
 intro b hb;rcases h.2 with ⟨h1,_⟩ | ⟨g,cap,cur,h1,h2,h3,_⟩
 ·subst h1;simp[ob] at hb
 subst h1;simp[ob] at hb;subst hb;exact ⟨_,h3,O⟩
theorem Z1.row {B base e sz n:Nat}{v:Value}{cs:LV}:Z1 B (λW=>W.ownsRow base e sz v n cs):=λW W' X h hs G=>Qj h hs (λb hb hx=>by
 obtain ⟨_,o,h1,h2⟩:=G b hx;obtain ⟨H,h3,E⟩:=Q0 h b hb;rw[h1] at h3;cases h3;rw[h2] at E;cases E)
theorem Qkd {α:Type}{m:Nat}{P:Program}{n:Nat}{Q:Exit→LN→Fr→World→Prop}{ds:LN}{f:Fr}{w:World}{g:Operand}{p:Nat}{assign body:Code}(L:LN) (h1:1≤m)
  {gf:Nat} {fn:Func} [hF:Fu P gf fn] {capt:LV} (hg:ev f g=.func (.func gf) #[] capt.toArray) {enc:α→Value} {S:List α→Prop} {N:Nat} (hp:p<n)
  (hb:SeqStopsK (fen none) (m - 1) P gf capt.toArray (λx=>#[enc x]) (Lw w.heap.size L) S (λ_=>True) N w)
  (I:List α→World→Prop) (hI:∀s,Z1 w.heap.size (I s)) (h0:I [] w) (A:Fr→α→Fr→World→Prop) (hA:∀x E,Z1 w.heap.size (A f x E))
  (V:∀l pre x W,I pre W→WG (some l) (m - 1 - 1) P n assign (Qbi (λH E W'=>H=[]∧JO w.heap.size L W W'∧I pre W'∧A f x E W') (λ_ _ _ _=>False)) [] (upd f p (enc x)) W)
  (Y:∀l pre x E W,I pre W→A f x E W→pre.length<N→WG (some l) (m - 1 - 1) P n body (Qbi (λ_ _ W'=>JO w.heap.size L W W'∧I (pre++[x]) W') (λ_ _ _ _=>False)) [] E W)
  (hc:∀D xs W,w.heap.size≤D→S xs→I xs W→W.heap[D]?=some (.deferred (some []))→Q .normal (D::ds) f W) :
  WG none m P n (.rangeFunc g #[p] assign body) Q ds f w:=by
 unfold WG at V Y ⊢;intro a ha;have eg:∀args w,(callFunc gf args).run P w=.ok (.enter gf args) w:=by
  intro args w;have h1:¬fn.name = "runtime.NumGoroutine" := by simpa using hF.nm
  have h2:¬fn.body=none:=by have:=hF.b;intro e;rw[e] at this;cases this
  simp[callFunc,hF.f,h1,h2]
 have keep:∀{W W':World},JO w.heap.size L W W'→KeepsFrom w.heap.size W W':=λh=>⟨h.lw.size,λk o _ hk ho=>h.other k o hk ho⟩;refine wpIn_rangeFunc_ownH (F:=fen none) O h1 (gf:=gf) (lb:=capt.toArray) (by rw[ha.eval];exact hg) U eg hb (λh k=>h.trans k)
  (λW l o o' hl ho _ _=>⟨O,O,O,by simp,λk hk _=>World.putObj_heap_other (by omega)⟩) (Below.refl _ _) (λ_=>rfl) I (λ_ _ _=>False) (Z1.own hI) (λ_ _ _ _ _ hs _ _=>hs) h0
  (λx G W=>∃E,YF n [] G E∧A f x E W) (λx G=>Z1.own λ_=>Z1.ex λE=>Z1.and (Z1.pure _) (hA x E)) ?_ ?_ ?_ ?_
 ·intro l pre x W K hi hK;have hr:YF n [] { tmps:=((#[p]:Array Nat).zip #[enc x]).foldl (λt (p,v)=>t.setIfInBounds p v) a.tmps,defers:=[] } (upd f p (enc x)):=by
   have h2:YF n [] { a with defers:=[] } f:=⟨ha.size,O,ha.get⟩
   have h3:=h2.put (dst:=some p) (λd e=>by cases e;exact hp) (enc x);have e:((#[p]:Array Nat).zip #[enc x]).foldl (λt (p,v)=>t.setIfInBounds p v) a.tmps=a.tmps.setIfInBounds p (enc x):=by simp
   rw[e];exact h3
  refine wpIn_mono (V l pre x W hi _ hr) ?_;rintro e G W' ⟨H,E,h2,_,h3⟩;cases e with
  | normal=>obtain ⟨rfl,J,h5,h6⟩:=h3;exact hK G W' (keep J) J.lw h5 ⟨E,h2,h6⟩
  | exit id=>exact h3.elim
  | goto l=>exact h3.elim
  | ret=>exact h3.elim
  | panic ch=>exact h3.elim
  | outgrown=>exact h3.elim
 ·rintro l pre x G W _ _ hi ⟨E,h2,h3⟩ he;refine wpIn_mono (Y l pre x E W hi h3 he G h2) ?_;rintro e hf W' ⟨H,hh,J,_,h5⟩;cases e with
  | normal=>exact ⟨keep h5.1,h5.1.lw,h5.2⟩
  | exit id=>exact h5.elim
  | goto l=>exact h5.elim
  | ret=>exact h5.elim
  | panic ch=>exact h5.elim
  | outgrown=>exact h5.elim
 ·intro D xs W hD hS hi hd;exact ⟨D::ds,f,⟨ha.size,by rw[show coll (D::ds)={ target:=.collected D,args:=#[] }::coll ds from rfl,ha.defers],ha.get⟩,λ_ _=>rfl,hc D xs W hD hS hi hd⟩
 intro D c pre W _ _ h _;exact h.elim
def Ql8 (P:Program) (t:Nat):Option (LV×List (Nat×Nat)):=match P.info? t,P.underlying t with
 | some it,some (.struct fs)=>match it.zero,fs.toList.mapM (λf=>(P.info? f.type).map λi=>(f.offset,i.size)) with
  | some (.agg zs),some pl=>some (zs.toList,pl)
  | _,_=>none
 | _,_=>none
class Bw (P:Program) (t:Nat) (zs:outParam (LV)) (pl:outParam (List (Nat×Nat))):Prop where
 h:Ql8 P t=some (zs,pl)
 b:pl.all (λx=>x.1+x.2≤zs.length)=true
def j2:LV→Nat→LV→LV
 | zs,_,[]=>zs
 | zs,o,u::us=>j2 (zs.set o u) (o+1) us
def QhX (pl:List (Nat×Nat)) (zs:LV):List (Nat×LV)→LV
 | []=>zs
 | (j,us)::ps=>QhX pl (j2 zs (pl.getD j (0,0)).1 us) ps
def Qkh:List (Nat×Value)→List (Nat×LV)→Prop
 | [],[]=>True
 | (j,v)::vs,(j',us)::uss=>v.cells=us.toArray∧j=j'∧Qkh vs uss
 | _,_=>False
theorem j1:∀(us zs:LV) (o:Nat),(j2 zs o us).length=zs.length
 | [],_,_=>rfl
 | u::us,zs,o=>by rw[j2,j1 us,Nv]
theorem zO (o:Nat):∀(us:LV) (k:Nat) (zs:LV),(us.zipIdx k).foldl (λ(cs:Array Value) (x:Value×Nat)=>cs.setIfInBounds (o+x.2) x.1) zs.toArray=(j2 zs (o+k) us).toArray
 | [],_,_=>rfl
 | u::us,k,zs=>by
  rw[Nr,LM,j2];have:=zO o us (k+1) (zs.set (o+k) u);rw[←List.setIfInBounds_toArray] at this;exact this
theorem Qg7 {pl:List (Nat×Nat)}:∀(vs:List (Nat×Value)) (uss:List (Nat×LV)) (zs:LV),Qkh vs uss→uss.all (λp=>p.1<pl.length && (p.2.length == (pl.getD p.1 (0,0)).2))=true →
  (∀x∈pl,x.1+x.2≤zs.length)→Instr.fill (pl.toArray[·]?) zs.toArray vs=some (QhX pl zs uss).toArray
 | [],[],zs,_,_,_=>rfl
 | [],_::_,_,h,_,_=>h.elim
 | _::_,[],_,h,_,_=>h.elim
 | (j,v)::vs,(j',us)::uss,zs,h1,h2,h3=>by
  obtain ⟨hc,rfl,h1⟩:=h1;simp only[List.all_cons,Bool.and_eq_true,decide_eq_true_eq,beq_iff_eq] at h2;obtain ⟨⟨E,hl⟩,h2⟩:=h2;have G:pl.getD j (0,0)=pl[j]'E:=by simp[List.getD,E]
  have hm:=h3 _ (Lc E);unfold Instr.fill;simp only[List.getElem?_toArray,List.getElem?_eq_getElem E,hc];rw[G] at hl;rw[if_neg (by simp only[List.size_toArray,hl,ne_eq,not_true,decide_false,Bool.false_or,decide_eq_true_eq];omega)];have e:=zO (pl[j]'E).1 us 0 zs;rw[Nb] at e
  have e2:(us.toArray.zipIdx).foldl (λ(cs:Array Value) (x:Value×Nat)=>cs.setIfInBounds ((pl[j]'E).1+x.2) x.1) zs.toArray=(j2 zs (pl[j]'E).1 us).toArray:=by
   rw[←e];simp
  rw[e2,QhX,G];have H:=Qg7 vs uss (j2 zs (pl[j]'E).1 us) h1 h2 (λx hx=>by rw[j1];exact h3 x hx);simpa only[List.getElem?_toArray] using H
theorem Qch {P:Program}{t:Nat}{zs:LV}{pl:List (Nat×Nat)}(h:Ql8 P t=some (zs,pl)) (hb:pl.all (λx=>x.1+x.2≤zs.length)=true) (vs:List (Nat×Value)) (uss:List (Nat×LV)) (h1:Qkh vs uss)
  (h2:uss.all (λp=>p.1<pl.length && (p.2.length == (pl.getD p.1 (0,0)).2))=true):P.built t vs=some (QhX pl zs uss).toArray:=by
 have h3:∀x∈pl,x.1+x.2≤zs.length:=λo G=>by simpa using Mk.1 hb o G
 unfold Ql8 at h;unfold Program.built;cases hi:P.info? t with
 | none=>simp[hi] at h
 | some it =>
  cases hu:P.underlying t with
  | none=>simp[hi,hu] at h
  | some dd =>
   simp only[hi,hu] at h;cases dd <;> simp only[] at h <;> try (cases h)
   case struct fs =>
    cases E:it.zero with
    | none=>simp[E] at h
    | some z =>
     cases z <;> simp only[E] at h <;> try (cases h)
     rename_i za;cases hm:fs.toList.mapM (λf=>(P.info? f.type).map λi=>(f.offset,i.size)) with
     | none=>simp[hm] at h
     | some pl' =>
      simp only[hm,Option.some.injEq,Prod.mk.injEq] at h;obtain ⟨rfl,rfl⟩:=h;simp only[E,hm,Value.cells];exact Qg7 vs uss za.toList h1 h2 h3
theorem ZY {P:Program}{f:Fr}{w:World}{d:Option Nat}{ty:Nat}{ps:String}{af:Array Edge}{gd:Option (Nat×Bool)}{t:Nat}{zs:LV}{pl:List (Nat×Nat)}[h:Bw P t zs pl] {parts:List (Nat×Operand)}(uss:List (Nat×LV))
  (h1:Qkh (parts.map λx=>(x.1,ev f x.2)) uss) (h2:uss.all (λp=>p.1<pl.length && (p.2.length == (pl.getD p.1 (0,0)).2))=true:=by rfl) :
  (execOp (ev f) ⟨d,.build t parts.toArray,ty,ps,af,gd⟩).run P w=.ok (.value (.agg (QhX pl zs uss).toArray)) w:=by
 have hb:=Qch h.h h.b _ uss h1 h2;have E:=run_build (P:=P) w t (parts.toArray.map λ(i,x)=>(i,ev f x)) _ (by simpa using hb);simp only[execOp,Sem.run_bind,E,Result.andThen_ok,Sem.run_pure]
end Go.Lg
namespace Go.Proofs.YtdffckgdcegpaaaGreatDoor
open Go.Lg
def cnE (p:Ed→Bool) (E:List Ed):Int:=((E.filter p).length:Int)
def gA (n:Nat) (f:Nat→Int):LI:=(List.range n).map f
theorem QlI (n:Nat) (f:Nat→Int):(gA n f).length=n:=by simp[gA]
theorem Qg1 {n:Nat}{f:Nat→Int}{i:Nat}(h:i<(gA n f).length):(gA n f)[i]'h=f i:=by simp[gA]
theorem QlH {n:Nat}{f g:Nat→Int}{i:Nat}{u:Int}(hu:u=g i) (h:∀j,j<n→j≠i→g j=f j):(gA n f).set i u=gA n g:=by
 apply L5
 ·simp[gA]
 intro k h1 h2;rw[Np,Qg1 h2];by_cases e:i=k
 ·rw[if_pos e,hu,e]
 rw[if_neg e,Qg1];exact (h k (by simpa[gA] using h2) (Ne.symm e)).symm
def fS (E:List Ed) (s:Nat):Int:=cnE (λe=>decide (e.1<(s:Int))) E
section
variable {P:Program} {K:Fr→World→Prop} {f:Fr} {w:World} {d:Option Nat} {ty:Nat} {ps:String} {af:Array Edge} {gd:Option (Nat×Bool)}
theorem Qf7 {t:Nat}[h1:X9 P t] {x y:Operand}{b T i n:Nat}{g E:Nat→Int}{u:Int}(G:QZ w.heap b T ((gA n g).map (.int .i64))) (hx:ev f x=.pointer (some ⟨b,0+i*1,none⟩)) (hy:ev f y=.int .i64 u) (hi:i<n) (H:(gA n g).set i u=gA n E)
  (I:∀w',Step [b] w w'→QZ w'.heap b T ((gA n E).map (.int .i64))→K (QV f d undef) w'):XO P ⟨d,.store t x y,ty,ps,af,gd⟩ f w K :=
 Jm G hx hy (by rw[QlI];exact hi) λw' hs J=>I w' hs (by rw[←H];exact J)
end
end Go.Proofs.YtdffckgdcegpaaaGreatDoor
namespace Go.Lg
open Go.RowKit
section
variable {P:Program} {K:Fr→World→Prop} {f:Fr} {w:World} {d:Option Nat} {ty:Nat} {ps:String} {af:Array Edge} {gd:Option (Nat×Bool)} {ops l:List Oper}
end
end Go.Lg
namespace Go.Proofs.YtdffckgdcegpaaaGreatDoor
open Go.Lg
def KM {α:Type}(f:Nat→α) (i:Nat) (x:α):Nat→α:=λj=>if j=i then x else f j
theorem ZX {α:Type}(f:Nat→α) (i:Nat) (x:α):KM f i x i=x:=by simp[KM]
theorem Ym {α:Type}(f:Nat→α) {i j:Nat}(x:α) (h:j≠i):KM f i x j=f j:=by simp[KM,h]
theorem Qe5 {α β:Type}(k:α→β) (n:Nat) (f:Nat→α) (i:Nat) (x:α):((List.range n).map λj=>k (f j)).set i (k x)=(List.range n).map λj=>k (KM f i x j):=by
 apply L5
 ·simp
 intro j h1 h2;rw[Np];by_cases e:i=j
 ·subst e;simp[ZX]
 rw[if_neg e];simp[Ym _ _ (Ne.symm e)]
structure KJ (base:Nat) (w:World) (n:Nat) (f:Nat→Value) (g:Nat→LI):Prop where
 own:∀i,i<n→Qu 3 base w (f i) (g i)
 dj:∀i j,i<n→j<n→i≠j→Dj (f i) (f j)
theorem KJ.app {base n i:Nat}{w w':World}{f:Nat→Value}{g:Nat→LI}{v':Value}{l:LI}(h:KJ base w n f g) (hi:i<n) (I:Qu 3 base w' v' l) (hs:Step (ob (f i)) w w')
  (J:∀b∈ob v',b∈ob (f i)∨w.heap.size≤b):KJ base w' n (KM f i v') (KM g i l):=by
 refine ⟨λj E=>?_,λj k E hk G=>?_⟩
 ·by_cases e:j=i
  ·subst e;rw[ZX,ZX];exact I
  rw[Ym _ _ e,Ym _ _ e];exact Qj (h.own j E) hs (h.dj j i E hi e)
 have key:∀j,j<n→j≠i→Dj v' (f j):=λj E e b hb H=>by
  rcases J b hb with h1 | h1
  ·exact h.dj i j hi E (Ne.symm e) b h1 H
  have:=QR (h.own j E) b H;omega
 by_cases e1:j=i
 ·subst e1;rw[ZX,Ym _ _ (Ne.symm G)];exact key k hk (Ne.symm G)
 rw[Ym _ _ e1];by_cases e2:k=i
 ·subst e2;rw[ZX];exact (key j E e1).symm
 rw[Ym _ _ e2];exact h.dj j k E hk G
theorem KJ.step {base n:Nat}{X:LN}{w w':World}{f:Nat→Value}{g:Nat→LI}(h:KJ base w n f g) (hs:Step X w w') (E:∀i,i<n→∀b∈ob (f i),b∉X):KJ base w' n f g :=
 ⟨λi hi=>Qj (h.own i hi) hs (E i hi),h.dj⟩
theorem KJ.ext {base n:Nat}{w w':World}{f:Nat→Value}{g:Nat→LI}(h:KJ base w n f g) (hs:Step [] w w'):KJ base w' n f g:=h.step hs (λ_ _ _ _=>by simp)
def Yt (E:List Ed) (s:Nat):LI:=(E.filter λe=>decide (e.2.2=(s:Int))).map (·.1)
theorem QbX (E:List Ed) (e:Ed) (G:0≤e.2.2):∀s,KM (Yt E) e.2.2.toNat (Yt E e.2.2.toNat++[e.1]) s=Yt (E++[e]) s:=by
 intro s;unfold Yt;rw[L7,Lu];by_cases h:s=e.2.2.toNat
 ·subst h;rw[ZX];have:e.2.2=(e.2.2.toNat:Int):=by omega
  simp[←this]
 rw[Ym _ _ h];have:¬e.2.2=(s:Int):=by omega
 simp[this]
theorem Qes {E:List Ed}{s:Nat}{p:Int}(h:p∈Yt E s):∃e∈E,e.1=p∧e.2.2=(s:Int):=by
 unfold Yt at h;simp only[List.mem_map,List.mem_filter,decide_eq_true_eq] at h;obtain ⟨e,⟨h1,h2⟩,h3⟩:=h;exact ⟨e,h1,h3,h2⟩
theorem V5 (E:List Ed) (s:Nat):(Yt E s).length≤E.length:=by
 unfold Yt;rw[Le];exact Ma _ _
def bwE (s:Int) (st:LI×LI) (p:Int):LI×LI:=if cget st.1 p.toNat<0 then (st.1.set p.toNat (cget st.1 s.toNat+1),st.2++[p]) else st
def UE (n:Nat) (to:LI):LI:=(List.range n).map λi:Nat=>if (i:Int)∈to then 0 else -1
structure Qih (n:Nat) (o q:LI):Prop where
 len:o.length=n
 q:∀x∈q,0≤x∧x<(n:Int)
 le:∀x∈o,-1≤x∧x+(neg o:Int)≤n
theorem Qgh (l:LI):neg l≤l.length:=Ma _ _
theorem Ql9 {n:Nat}{s p:Int}{st:LI×LI}(h:Qih n st.1 st.2) (hs:0≤s∧s<(n:Int)) (E:0≤cget st.1 s.toNat) (hp:0≤p∧p<(n:Int)) :
  Qih n (bwE s st p).1 (bwE s st p).2∧neg (bwE s st p).1+(bwE s st p).2.length=neg st.1+st.2.length∧0≤cget (bwE s st p).1 s.toNat:=by
 unfold bwE;have hl:=h.len;have G:p.toNat<st.1.length:=by omega
 have H:s.toNat<st.1.length:=by omega
 by_cases hc:cget st.1 p.toNat<0
 ·rw[if_pos hc];have I:st.1[p.toNat]'G<0:=by rw[Za G];exact hc
  have S:=h.le _ (Jt H);have V:=Vq st.1 p.toNat (cget st.1 s.toNat+1) G I (by omega);refine ⟨⟨by simp[hl],λx hx=>?_,λx hx=>?_⟩,?_,?_⟩
  ·simp only[List.mem_append,List.mem_singleton] at hx;rcases hx with hx | rfl
   ·exact h.q x hx
   exact hp
  ·simp only[] at hx ⊢;rcases Ng hx with h1 | h1
   ·have:=h.le x h1;omega
   subst h1;omega
  ·simp only[List.length_append,List.length_singleton];omega
  simp only[];have J:s.toNat≠p.toNat:=λe=>by rw[e] at E;omega
  have:cget (st.1.set p.toNat (cget st.1 s.toNat+1)) s.toNat=cget st.1 s.toNat:=by
   unfold cget;simp[List.getD,List.getElem?_set_ne (Ne.symm J)]
  rw[this];exact E
 rw[if_neg hc];exact ⟨h,rfl,E⟩
theorem VP (n:Nat) (to:LI):(UE n to).length=n:=by simp[UE]
theorem Qma {n:Nat}{to:LI}(h:∀x∈to,0≤x∧x<(n:Int)):Qih n (UE n to) to:=by
 refine ⟨VP n to,h,λx hx=>?_⟩;have E:=Qgh (UE n to);rw[VP] at E;unfold UE at hx;simp only[List.mem_map] at hx;obtain ⟨i,_,rfl⟩:=hx;split <;> omega
theorem Qj4 {n:Nat}{to:LI}{x:Int}(h:0≤x∧x<(n:Int)) (hx:x∈to):cget (UE n to) x.toNat=0:=by
 have h1:x.toNat<(UE n to).length:=by rw[VP];omega
 rw[←Za h1];have:((x.toNat:Nat):Int)=x:=by omega
 simp[UE,this,hx]
def Qmh (o q:LI):Prop:=∀x∈q,0≤cget o x.toNat
theorem QhU {n:Nat}{s p:Int}{st:LI×LI}(h:Qih n st.1 st.2) (H:0≤cget st.1 s.toNat) (hp:0≤p∧p<(n:Int)) (E:Qmh st.1 st.2):Qmh (bwE s st p).1 (bwE s st p).2:=by
 unfold bwE;have G:p.toNat<st.1.length:=by have:=h.len;omega
 by_cases hc:cget st.1 p.toNat<0
 ·rw[if_pos hc];intro x hx;simp only[] at hx ⊢;have e1:cget (st.1.set p.toNat (cget st.1 s.toNat+1)) x.toNat=if x.toNat=p.toNat then cget st.1 s.toNat+1 else cget st.1 x.toNat:=by
   by_cases e:x.toNat=p.toNat
   ·rw[if_pos e,e];unfold cget;simp[List.getD,G]
   rw[if_neg e];unfold cget;simp[List.getD,List.getElem?_set_ne (Ne.symm e)]
  rw[e1];split
  ·omega
  rename_i e;simp only[List.mem_append,List.mem_singleton] at hx;rcases hx with hx | rfl
  ·exact E x hx
  exact absurd O e
 rw[if_neg hc];exact E
theorem QfL (n:Nat):(List.replicate n (nS).cells.toList).flatten=(List.range n).map (λ_=>nS):=by
 apply L5
 ·simp[Value.cells]
 intro i h1 h2;simp[Value.cells]
theorem Qer (n:Nat):(List.replicate n (Value.int .i64 0).cells.toList).flatten=(gA n (λj=>if j<0 then -1 else 0)).map (Value.int .i64):=by
 apply L5
 ·simp[Value.cells,gA]
 intro i h1 h2;simp[Value.cells,gA]
theorem j3 {rv:Nat→Value}{n i:Nat}(hi:i<n):((List.range n).map rv)[0+i*1]?=some (rv i):=by simp[hi]
abbrev Lf:=List Bool
def lft (l:Lf) (s:Int):Bool:=l.getD s.toNat false
def cut (l:Lf) (s:Int):Lf:=l.set s.toNat false
def XR (ul:LI) (lf:Lf) (out:List (Int×Int)) (e:Ed):List (Int×Int) :=
 if lft lf e.1=false∨lft lf e.2.2=true∨e.2.1∉ul then out else if out.getLast?.map (·.1)=some e.1 then out else out++[(e.1,e.2.1)]
def lost (a:QN) (ul:LI) (lf:Lf):List (Int×Int):=a.ed.foldl (XR ul lf) []
def dsE (lf:Lf) (x:Int) (z:LI×LI) (y:Int):LI×LI:=if lft lf y=true∧cget z.1 y.toNat<0 then (z.1.set y.toNat (cget z.1 x.toNat+1),z.2++[y]) else z
def dsL (E:List Ed) (lf:Lf):Nat→Nat→LI×LI→LI×LI
 | 0,_,z=>z
 | f+1,i,z=>if i<z.2.length then dsL E lf f (i+1) ((Yt E (cget z.2 i).toNat).foldl (dsE lf (cget z.2 i)) z) else z
def jJ (lf:Lf) (z:LI×LI) (x:Int):LI×LI:=if lft lf x=true then (z.1.set x.toNat 0,z.2++[x]) else z
def ds0 (a:QN) (lf:Lf):LI×LI:=a.mr.foldl (jJ lf) (List.replicate a.st.toNat (-1),[])
def dsts (a:QN) (lf:Lf):LI:=(dsL a.ed lf a.st.toNat 0 (ds0 a lf)).1
def K3 (lf:Lf):Nat→LI→LI
 | _,[]=>[]
 | i,d::l=>if lf.getD i false=true∧d<0 then (i:Int)::K3 lf (i+1) l else K3 lf (i+1) l
def nxs (a:QN) (ul:LI) (lf:Lf):LI:=if (lost a ul lf).length≠0 then (lost a ul lf).map (·.1) else K3 lf 0 (dsts a lf)
def Vj (a:QN) (ul:LI):Nat→Lf→Lf
 | 0,lf=>lf
 | f+1,lf=>if (nxs a ul lf).length=0 then lf else Vj a ul f ((nxs a ul lf).foldl cut lf)
def lf0 (n:Nat) (fb:LI):Lf:=fb.foldl cut (List.replicate n true)
def J5 (a:QN) (fb ul:LI):Lf:=Vj a ul (a.st.toNat+1) (lf0 a.st.toNat fb)
def rstr (a:QN) (lf:Lf):QN:=⟨a.al,a.st,a.mr,a.ed.filter λe=>lft lf e.2.2⟩
def jT (a:QN) (lf:Lf):QN:=if a.st=0∨lft lf 0=false then ⟨a.al,0,[],[]⟩ else Yi (rstr a lf)
def Uy (a:QN) (fb ul:LI):QN:=jT a (J5 a fb ul)
def fbs (s:Spc):LI:=s.fb.map (·.st)
def suE (c:Q8):Int:=Yz c
def suA (c:Q8):QN:=Uy (spc c).a (fbs (spc c)) (unc c.ev)
def orB (b:Nat) (k:Nat):Nat:=b ||| (1 <<< k)
def rqB (x:Yp):Nat→Nat→List Yp→Nat
 | _,b,[]=>b
 | k,b,y::l=>rqB x (k+1) (if (y.a.al.any λe=>decide (e∈x.a.al))=true then orB b k else b) l
def zr (ls:List (Int×Int)):Nat:=ls.foldl (λb l=>orB b l.1.toNat) 0
def srR (c:Q8):LN:=c.rq.map λx=>rqB x 0 0 c.co
def srX (c:Q8):LN:=c.ex.map λx=>zr x.ls
def srC (c:Q8):LN:=c.cs.map λx=>zr x.ts
def srK (c:Q8) (k:Int):LN:=if k=1 then srR c else if k=2 then srX c else srC c
structure YO where
 kd:Int
 ix:Int
 co:LI
def XQ (k:Int):Nat→LN→List YO
 | _,[]=>[]
 | i,b::l=>⟨k,i,setK b 8⟩::XQ k (i+1) l
def mods (c:Q8):List YO:=XQ 1 0 (srR c)++(XQ 2 0 (srX c)++XQ 3 0 (srC c))
def sets (c:Q8):LN:=srR c++(srX c++srC c)
def yN (c:Q8):Nat:=(sets c).foldl (λl b=>l &&& (65535 ^^^ b)) (2 ^ c.co.length - 1)
def rem (c:Q8):LI:=setK (yN c) 8
def mdE (c:Q8) (m:YO):Int:=if Zb c≠0 then Zb c else if m.kd<1∨3<m.kd then 11 else if m.ix<0∨((srK c m.kd).length:Int)≤m.ix then 10 else if m.co=setK ((srK c m.kd).getD m.ix.toNat 0) 8 then 0 else 13
structure Prt where
 co:LI
 rq:LI
 ex:LI
 cs:LI
def chs (l:List Yp) (ix:LI):List Yp:=ix.map λi=>l.getD i.toNat ⟨.empty,⟨[],0,[],[]⟩⟩
def jj (co:LI) (ls:List (Int×Int)):List (Int×Int):=ls.map λl=>((co.idxOf l.1:Int),l.2)
def mis (co:LI) (ls:List (Int×Int)):Bool:=ls.any λl=>decide (l.1∉co)
def QiI (c:Q8) (p:Prt):List jF:=p.ex.map λi=>⟨(c.ex.getD i.toNat ⟨.empty,[]⟩).nm,jj p.co (c.ex.getD i.toNat ⟨.empty,[]⟩).ls⟩
def QiK (c:Q8) (p:Prt):List Xr:=p.cs.map λi=>⟨(c.cs.getD i.toNat ⟨.empty,[],0⟩).nm,jj p.co (c.cs.getD i.toNat ⟨.empty,[],0⟩).ts,(c.cs.getD i.toNat ⟨.empty,[],0⟩).bd⟩
def Qd3 (c:Q8) (p:Prt):Q8:=⟨c.ev,chs c.co p.co,chs c.rq p.rq,QiI c p,QiK c p⟩
def QfJ (c:Q8) (p:Prt):Bool:=(p.ex.any λi=>mis p.co (c.ex.getD i.toNat ⟨.empty,[]⟩).ls) || (p.cs.any λi=>mis p.co (c.cs.getD i.toNat ⟨.empty,[],0⟩).ts)
def qe (c:Q8) (p:Prt):Int :=
 if Zb c≠0 then Zb c else if Xp c.co.length none p.co≠0 then Xp c.co.length none p.co else if Xp c.rq.length none p.rq≠0 then Xp c.rq.length none p.rq else
 if Xp c.ex.length none p.ex≠0 then Xp c.ex.length none p.ex else if Xp c.cs.length none p.cs≠0 then Xp c.cs.length none p.cs else if QfJ c p=true then 13 else Zb (Qd3 c p)
def prt (m:YO):Prt:=⟨m.co,if m.kd=1 then [m.ix] else [],if m.kd=2 then [m.ix] else [],if m.kd≠1∧m.kd≠2 then [m.ix] else []⟩
def mcE (c:Q8) (m:YO):Int:=if mdE c m≠0 then mdE c m else qe c (prt m)
def YK (c:Q8) (m:YO):Q8:=Qd3 c (prt m)
def zX (c:Q8) (m:YO):Int:=if mcE c m≠0 then mcE c m else suE (YK c m)
def UT (c:Q8) (m:YO):QN:=suA (YK c m)
def msL (c:Q8):List YO→Int
 | []=>0
 | m::l=>if zX c m≠0 then zX c m else msL c l
def JU (c:Q8):Int:=if Zb c≠0 then Zb c else msL c (mods c)
def Yx (c:Q8):List QN:=(mods c).map (UT c)++(rem c).map λi=>(c.co.getD i.toNat ⟨.empty,⟨[],0,[],[]⟩⟩).a
def J2 (l:List QN):Int:=if KB l≠0 then KB l else match sync l with | none=>3 | some _=>0
def zn (c:Q8):Int:=if JU c≠0 then JU c else J2 (Yx c)
def Jw (c:Q8):QN:=XN (Yx c)
def tgQ (c:Q8):List (LI):=YV (Yx c)
def ownr (c:Q8) (v:Int):LI:=ixs (λx:Yp=>decide (v∈x.a.al)) 0 c.co
def shd (c:Q8):LI→Option (Int×Int×Int)
 | []=>none
 | v::l=>if 2≤(ownr c v).length then some (v,cget (ownr c v) 0,cget (ownr c v) 1) else shd c l
def QkW (c:Q8):Option (Int×Int×Int):=shd c (JY c.ev.length)
abbrev QQ (p:Int×Int):LV:=[.int .i64 p.1,.int .i64 p.2]
theorem YX (p:Int×Int):(QQ p).length=2:=rfl
abbrev P2s (L:LN) (H:Array Obj) (v:Value) (l:List (Int×Int)):Prop:=Zs L H v l.length 2 (l.flatMap QQ)
abbrev Zn (e:KG):LV:=[.string e.nm,.bool e.co,.bool e.ob,.bool e.fo,.int .i64 e.fl]
theorem U1 (e:KG):(Zn e).length=5:=rfl
abbrev UC (s:ByteArray):Prop:=s.size≤9223372036854775807
structure K8 (L:LN) (H:Array Obj) (v:Value) (l:List KG):Prop where
 arr:Zs L H v l.length 5 (l.flatMap Zn)
 nm:∀e∈l,UC e.nm
theorem K8.ext {L:LN}{w w':World}{v:Value}{l:List KG}(h:K8 L w.heap v l) (hs:Step [] w w'):K8 L w'.heap v l:=⟨h.arr.ext hs,h.nm⟩
theorem K8.st {L:LN}{w w':World}{v:Value}{l:List KG}(h:K8 L w.heap v l) (hs:Step L w w'):K8 L w'.heap v l:=⟨h.arr.st hs,h.nm⟩
theorem K8.up {L L':LN}{H:Array Obj}{v:Value}{l:List KG}(h:K8 L H v l) (E:∀b∈L',b∈L∨H.size≤b):K8 L' H v l:=⟨h.arr.up E,h.nm⟩
structure IV where
 nm:ByteArray
 p:AV
def IV.it (q:IV):Yp:=⟨q.nm,q.p.a⟩
abbrev Zh (q:IV):LV:=[.string q.nm,q.p.va,.int .i64 q.p.a.st,q.p.vm,q.p.ve]
theorem Xl (q:IV):(Zh q).length=5:=rfl
structure Xm (L:LN) (H:Array Obj) (v:Value) (qs:List IV):Prop where
 arr:Zs L H v qs.length 5 (qs.flatMap Zh)
 each:∀q∈qs,Zv L H q.p.va q.p.vm q.p.ve q.p.a
 nm:∀q∈qs,UC q.nm
structure XV where
 nm:ByteArray
 v:Value
 ls:List (Int×Int)
def XV.x (q:XV):jF:=⟨q.nm,q.ls⟩
abbrev Zu (q:XV):LV:=[.string q.nm,q.v]
theorem JZ (q:XV):(Zu q).length=2:=rfl
structure zm (L:LN) (H:Array Obj) (v:Value) (qs:List XV):Prop where
 arr:Zs L H v qs.length 2 (qs.flatMap Zu)
 each:∀q∈qs,P2s L H q.v q.ls
 nm:∀q∈qs,UC q.nm
structure KV where
 nm:ByteArray
 v:Value
 ts:List (Int×Int)
 bd:Int
def KV.k (q:KV):Xr:=⟨q.nm,q.ts,q.bd⟩
abbrev Zw (q:KV):LV:=[.string q.nm,q.v,.int .i64 q.bd]
theorem JE (q:KV):(Zw q).length=3:=rfl
structure zg (L:LN) (H:Array Obj) (v:Value) (qs:List KV):Prop where
 arr:Zs L H v qs.length 3 (qs.flatMap Zw)
 each:∀q∈qs,P2s L H q.v q.ts
 nm:∀q∈qs,UC q.nm
theorem Xm.ext {L:LN}{w w':World}{v:Value}{qs:List IV}(h:Xm L w.heap v qs) (hs:Step [] w w'):Xm L w'.heap v qs:=⟨h.arr.ext hs,λq hq=>(h.each q hq).ext hs,h.nm⟩
theorem Xm.st {L:LN}{w w':World}{v:Value}{qs:List IV}(h:Xm L w.heap v qs) (hs:Step L w w'):Xm L w'.heap v qs:=⟨h.arr.st hs,λq hq=>(h.each q hq).st hs,h.nm⟩
theorem Xm.up {L L':LN}{H:Array Obj}{v:Value}{qs:List IV}(h:Xm L H v qs) (E:∀b∈L',b∈L∨H.size≤b):Xm L' H v qs:=⟨h.arr.up E,λq hq=>(h.each q hq).up E,h.nm⟩
theorem zm.ext {L:LN}{w w':World}{v:Value}{qs:List XV}(h:zm L w.heap v qs) (hs:Step [] w w'):zm L w'.heap v qs:=⟨h.arr.ext hs,λq hq=>(h.each q hq).ext hs,h.nm⟩
theorem zm.st {L:LN}{w w':World}{v:Value}{qs:List XV}(h:zm L w.heap v qs) (hs:Step L w w'):zm L w'.heap v qs:=⟨h.arr.st hs,λq hq=>(h.each q hq).st hs,h.nm⟩
theorem zm.up {L L':LN}{H:Array Obj}{v:Value}{qs:List XV}(h:zm L H v qs) (E:∀b∈L',b∈L∨H.size≤b):zm L' H v qs:=⟨h.arr.up E,λq hq=>(h.each q hq).up E,h.nm⟩
theorem zg.ext {L:LN}{w w':World}{v:Value}{qs:List KV}(h:zg L w.heap v qs) (hs:Step [] w w'):zg L w'.heap v qs:=⟨h.arr.ext hs,λq hq=>(h.each q hq).ext hs,h.nm⟩
theorem zg.st {L:LN}{w w':World}{v:Value}{qs:List KV}(h:zg L w.heap v qs) (hs:Step L w w'):zg L w'.heap v qs:=⟨h.arr.st hs,λq hq=>(h.each q hq).st hs,h.nm⟩
theorem zg.up {L L':LN}{H:Array Obj}{v:Value}{qs:List KV}(h:zg L H v qs) (E:∀b∈L',b∈L∨H.size≤b):zg L' H v qs:=⟨h.arr.up E,λq hq=>(h.each q hq).up E,h.nm⟩
structure CL where
 ve:Value
 vc:Value
 vr:Value
 vx:Value
 vk:Value
 ev:List KG
 co:List IV
 rq:List IV
 ex:List XV
 cs:List KV
def CL.cel (c:CL):Q8:=⟨c.ev,c.co.map (·.it),c.rq.map (·.it),c.ex.map (·.x),c.cs.map (·.k)⟩
abbrev CL.cells (c:CL):LV:=[c.ve,c.vc,c.vr,c.vx,c.vk]
abbrev CL.val (c:CL):Value:=.agg #[c.ve,c.vc,c.vr,c.vx,c.vk]
structure ZF (L:LN) (H:Array Obj) (c:CL):Prop where
 ev:K8 L H c.ve c.ev
 co:Xm L H c.vc c.co
 rq:Xm L H c.vr c.rq
 ex:zm L H c.vx c.ex
 cs:zg L H c.vk c.cs
theorem ZF.ext {L:LN}{w w':World}{c:CL}(h:ZF L w.heap c) (hs:Step [] w w'):ZF L w'.heap c:=⟨h.ev.ext hs,h.co.ext hs,h.rq.ext hs,h.ex.ext hs,h.cs.ext hs⟩
theorem ZF.st {L:LN}{w w':World}{c:CL}(h:ZF L w.heap c) (hs:Step L w w'):ZF L w'.heap c:=⟨h.ev.st hs,h.co.st hs,h.rq.st hs,h.ex.st hs,h.cs.st hs⟩
theorem ZF.up {L L':LN}{H:Array Obj}{c:CL}(h:ZF L H c) (E:∀b∈L',b∈L∨H.size≤b):ZF L' H c:=⟨h.ev.up E,h.co.up E,h.rq.up E,h.ex.up E,h.cs.up E⟩
theorem ZF.ones {L:LN}{H:Array Obj}{c:CL}(h:ZF L H c):ZQ c.cells:=⟨h.ev.arr.one,h.co.arr.one,h.rq.arr.one,h.ex.arr.one,h.cs.arr.one,U⟩
def Qig (N:Nat) (H:Array Obj) (v:Value) (k:Q8):Prop:=∃c:CL,v=c.val∧c.cel=k∧∀L:LN,(∀b∈L,b<N)→ZF L H c
open Go.Proofs.Tryz
theorem Uh (s:ByteArray) (Y:UC s) (w:World):QK prog 162 [.string s] w λr w'=>r=.bool (YG s)∧w'=w:=by
 unfold UC at Y;refine QK.of_W func162 O ntmps162 results162 (by simp) ?_;refine Qc<|Qe<|Qf<|Qc<|Qb<|x (QbB O)<|Qb<|xe<|Qh<|QA (α:=Nat) [(2,5),(8,46)] (λz=>[(8,.int .i64 z)]) (λz w'=>w'=w∧z≤s.size∧(List.range' z (s.size - z)).all (nmQ s)=(List.range' 0 s.size).all (nmQ s)) (λz=>s.size - z) (by rfl) 0 Z ⟨O,Ll _,by rw[Nat.sub_zero]⟩ ?_;rintro k g V ⟨rfl,hk,E⟩
 refine Qc<|x (QB O O)<|xe<|Qf<|QG O (λh9=>?_) (λh9=>?_)
 ·refine Qz ?_;have ha:s.size≤k:=by have hb:¬(k:Int)<(s.size:Int):=h9;omega
  rw[QiQ ha] at E;have G:YG s=decide (0<s.size∧s.size≤32):=by unfold YG;rw[←E];simp
  rw[G];refine QT (α:=Bool) [(2,2),(47,54)] (λz=>[(2,.bool z)]) (λz w'=>w'=V∧z=decide (0<s.size∧s.size≤32)) (by rfl) ?_ ?_
  ·refine Qy<|Qb<|x (QbB O)<|xb (ZR O O) (λhe=>?_) (λhe=>?_)
   ·refine Qb<|Qb<|x (QbB O)<|x (X3 O O)<|x (Ql O)<|Qe ?_;exact ⟨_,Z,O,by first | exact bT (by omega) | exact bF (by omega) | exact bD (by omega)⟩
   refine Qb<|xs O<|xs O<|xs O<|x (Ql O)<|Qe ?_;exact ⟨_,Z,O,by first | exact bT (by omega) | exact bF (by omega) | exact bD (by omega)⟩
  rintro z g w2 ⟨rfl,rfl⟩;exact Qn ⟨[_],Z,O,O⟩
 have H:k<s.size:=by have hb:(k:Int)<(s.size:Int):=h9;omega
 rw[QfM H,Md] at E;refine Qi<|Qf<|Qh<|Qc<|Qb<|Qe<|Qc<|Qb<|Qb<|x (QfV (i:=k) O O H)<|Qe ?_;have hq:nmQ s k=decide (nmP k (chr s k)):=rfl;refine Zc (chr s k) λc hc=>?_;rw[hc] at hq;refine QT (α:=Bool) [(5,5),(14,31)] (λz=>[(5,.bool z)]) (λz w'=>w'=V∧z=decide ((97≤c∧c≤122)∨(65≤c∧c≤90)∨c=95)) (by rfl) ?_ ?_
 ·rw[←hc];refine Qy<|Qb<|xb (ZV O O) (λhf=>?_) (λhf=>?_)
  ·refine Qb<|Qb<|xb (X3 O O) (λhg=>?_) (λhg=>?_)
   ·refine x (Ql O)<|Qb<|xs O<|xs O<|xs O<|xs O<|xs O<|xs O<|x (Ql O)<|Qb<|xs O<|xs O<|x (Ql O) <|
     Qe ?_
    exact ⟨_,Z,O,by first | exact bT (by omega) | exact bF (by omega) | exact bD (by omega)⟩
   refine x (Ql O)<|Qb<|Qb<|xb (ZV O O) (λI=>?_) (λI=>?_)
   ·refine Qb<|Qb<|xb (X3 O O) (λJ=>?_) (λJ=>?_)
    ·refine x (Ql O)<|x (Ql O)<|Qb<|xs O<|xs O<|x (Ql O)<|Qe ?_;exact ⟨_,Z,O,by first | exact bT (by omega) | exact bF (by omega) | exact bD (by omega)⟩
    refine x (Ql O)<|x (Ql O)<|Qb<|Qb<|x (Q4 O O)<|x (Ql O)<|Qe ?_;exact ⟨_,Z,O,by first | exact bT (by omega) | exact bF (by omega) | exact bD (by omega)⟩
   refine Qb<|xs O<|xs O<|x (Ql O)<|x (Ql O)<|Qb<|Qb<|x (Q4 O O)<|x (Ql O)<|x Qg <|
    xe ?_
   exact ⟨_,Z,O,by first | exact bT (by omega) | exact bF (by omega) | exact bD (by omega)⟩
  refine Qb<|xs O<|xs O<|x (Ql O)<|Qb<|Qb<|xb (ZV O O) (λI=>?_) (λI=>?_)
  ·refine Qb<|Qb<|xb (X3 O O) (λJ=>?_) (λJ=>?_)
   ·refine x (Ql O)<|x (Ql O)<|Qb<|xs O<|xs O<|x (Ql O)<|Qe ?_;exact ⟨_,Z,O,by first | exact bT (by omega) | exact bF (by omega) | exact bD (by omega)⟩
   refine x (Ql O)<|x (Ql O)<|Qb<|Qb<|x (Q4 O O)<|x (Ql O)<|Qe ?_;exact ⟨_,Z,O,by first | exact bT (by omega) | exact bF (by omega) | exact bD (by omega)⟩
  refine Qb<|xs O<|xs O<|x (Ql O)<|x (Ql O)<|Qb<|Qb<|x (Q4 O O)<|x (Ql O)<|x Qg <|
   xe ?_
  exact ⟨_,Z,O,by first | exact bT (by omega) | exact bF (by omega) | exact bD (by omega)⟩
 rintro z g w4 ⟨rfl,rfl⟩;refine QT (α:=Bool) [(32,45)] (λz=>[(45,.bool z)]) (λz w'=>w'=w4∧z=decide (¬nmP k c)) (by rfl) ?_ ?_
 ·unfold nmP;rw[←hc];refine Qy<|Qb<|xb (qn O) (λhh=>?_) (λhh=>?_)
  ·refine Qb<|Qb<|xb (Q4 O O) (λhj=>?_) (λhj=>?_)
   ·refine Qb<|xs O<|xs O<|x (Ql O)<|Qb<|xs O<|xs O<|x (Ql O)<|x (Ql O)<|xe ?_;exact ⟨_,Z,O,by first | exact bT (by omega) | exact bF (by omega) | exact bD (by omega)⟩
   refine Qb<|Qb<|xb (QB O O) (λhl=>?_) (λhl=>?_)
   ·refine x (Ql O)<|Qb<|xs O<|xs O<|x (Ql O)<|x (Ql O)<|xe ?_;exact ⟨_,Z,O,by first | exact bT (by omega) | exact bF (by omega) | exact bD (by omega)⟩
   refine x (Ql O)<|Qb<|Qb<|x (ZR O O)<|x (Ql O)<|x (Ql O)<|xe ?_;exact ⟨_,Z,O,by first | exact bT (by omega) | exact bF (by omega) | exact bD (by omega)⟩
  refine Qb<|xs O<|xs O<|xs O<|xs O<|xs O<|xs O<|xs O<|xs O<|xs O<|xs O<|x (Ql O)<|xe ?_;exact ⟨_,Z,O,by first | exact bT (by omega) | exact bF (by omega) | exact bD (by omega)⟩
 rintro z g w5 ⟨rfl,rfl⟩;refine Q7 rfl (λS=>?_) (λS=>?_)
 ·refine Qc<|Qe ?_;have G:YG s=false:=by
   unfold YG;rw[←E,hq,decide_eq_false S];rfl
  exact Qn ⟨[_],Z,by rw[G];rfl,O⟩
 refine Qi ?_;have hm:nmP k c:=Ls.1 S;refine Qy<|QO O O<|Qb<|xe ?_;rw[hq,decide_eq_true hm,Bool.true_and] at E;exact ⟨k+1,by omega,Z,O,H,E⟩
def nmM (l:List ByteArray):List (ByteArray×Value):=l.map λs=>(s,.bool true)
theorem Qi4 (l:List ByteArray) (s:ByteArray):mget (nmM l) s=if s∈l then some (.bool true) else none:=by
 induction l with
 | nil=>rfl
 | cons a l ih =>
  show (if a=s then some (Value.bool true) else mget (nmM l) s)=_
  rw[ih];by_cases h:a=s
  ·subst h;simp
  have:s≠a:=λe=>h e.symm;simp[h,this]
theorem Qc5 {l:List ByteArray}{s:ByteArray}(h:s∉l):mput (nmM l) s (.bool true)=nmM (l++[s]):=by
 induction l with
 | nil=>rfl
 | cons a l ih =>
  have h1:a≠s:=λe=>h (by subst e;exact Lm);show (if a=s then (a,Value.bool true)::nmM l else (a,Value.bool true)::mput (nmM l) s (.bool true))=_
  rw[if_neg h1,ih (λhm=>h (Lk _ hm))];rfl
section
variable {P:Program} {f:Fr} {w:World} {d:Option Nat} {ty:Nat} {ps:String} {af:Array Edge} {gd:Option (Nat×Bool)}
theorem j8 {t kt et:Nat}[hm:Mp P t kt et (.bool false)] [hk:Key P kt XG] {x y:Operand}{b:Nat}{l:List ByteArray}{s:ByteArray}(h:Z7 XG w.heap b (nmM l)) (hx:ev f x=.map (some b)) (hy:ev f y=.string s) :
  (execOp (ev f) ⟨d,.lookup t x y false,ty,ps,af,gd⟩).run P w=.ok (.value (.bool (decide (s∈l)))) w:=by
 rw[Jj h hx hy,Qi4];by_cases hs:s∈l <;> simp[hs]
end
theorem Qce {s:List ByteArray}{l:List KG}{k:Nat}(h:k<l.length):Ur s (l.drop k)=if Xq s (l[k]'h)≠0 then Xq s (l[k]'h) else Ur (s++[(l[k]'h).nm]) (l.drop (k+1)):=by
 rw[QX h];rfl
theorem qS {L:LN}{w:World}{v:Value}{l:List KG}(h:K8 L w.heap v l):QK prog 94 [v] w λr w'=>r=.int .i64 (Je l)∧Step [] w w':=by
 have h4:=h.arr.le;refine QK.of_W func94 O ntmps94 results94 (by simp) ?_;refine Qc<|Qe<|Qf<|Qc<|Qb<|x (Qs h.arr O)<|x (ZR O O)<|xe<|Q7 rfl (λh8=>?_) (λh8=>?_)
 ·refine Qc<|Qe ?_;exact Qn ⟨[_],Z,by unfold Je;rw[if_pos (by have h9:(32:Int)<(l.length:Int):=h8;omega)];rfl,Step.refl _ _⟩
 have hp:Je l=Ur [] l:=by unfold Je;rw[if_neg (by have h9:¬(32:Int)<(l.length:Int):=h8;omega)]
 rw[hp];refine Qi<|Qc<|xl O<|YB XG λb9 w1 hh hq hr=>Qe<|Qf<|Qc<|Qb<|x (Qs (h.arr.ext hh) O)<|Qb<|xe<|Qh<|QA (α:=Nat×List ByteArray) [(2,2),(5,5),(12,50)] (λz=>[(12,.int .i64 z.1)]) (λz w'=>z.1≤l.length∧Step [] w w'∧Z7 XG w'.heap b9 (nmM z.2)∧Ur z.2 (l.drop z.1)=Ur [] l) (λz=>l.length - z.1) (by rfl) (0,[]) Z
  ⟨Ll _,hh,hr,O⟩ ?_
 rintro ⟨k,sn⟩ g w2 ⟨hk,H,hj,E⟩;simp only[] at hk hj E;refine Qc<|x (QB O O)<|xe<|Qf<|QG O (λhb=>?_) (λhb=>?_)
 ·refine Qz ?_;have ht:l.length≤k:=by have hu:¬(k:Int)<(l.length:Int):=hb;omega
  rw[Lr ht] at E;refine Qc<|Qe ?_;exact Qn ⟨[_],Z,by rw[←E];rfl,H⟩
 have V:k<l.length:=by have hu:(k:Int)<(l.length:Int):=hb;omega
 rw[Qce V] at E;have hl:=h.nm _ (Lc V);refine Qi<|Qf<|Qh<|Qc<|xig U1 (h.arr.ext H) O O V λh5 hm=>?_;refine Zc (l[k]'V) λe he=>?_;rw[he] at hm E hl;refine x (QI hm O O)<|xl O<|Qt (us:=[.string .empty,.bool false,.bool false,.bool false,.int .i64 0]) O λb5 w3 hv hw G=>xl O<|Qo (us:=Zn e) G O O O O ⟨O,O,O,O,O,U⟩ λw4 hy G =>
  xe ?_
 have I:Step [] w2 w4:=hv.then1 hy hw;have ho:=hj.ext I;refine Qf<|Qh<|Qc<|x (Qa O)<|x (Qd G O O)<|xl O<|xf<|(Uh e.nm hl _).mono ?_;rintro r5 w5 ⟨rfl,rfl⟩;refine x (Zm O)<|Qe<|Q3 O (λhc=>?_) (λhc=>?_)
 ·have J:YG e.nm=false:=by simpa using hc
  have h1:Xq sn e=7:=by unfold Xq;rw[if_pos J]
  refine Qc<|Qe ?_;exact Qn ⟨[_],Z,by rw[←E,h1];rfl,H.trans I⟩
 have J:¬YG e.nm=false:=by simpa using hc
 refine Qc<|Qb<|x (Qa O)<|x (Qd G O O)<|x (j8 ho O O)<|Qe<|Q7 O (λS=>?_) (λS=>?_)
 ·have h1:Xq sn e=8:=by unfold Xq;rw[if_neg J,if_pos S]
  refine Qc<|Qe ?_;exact Qn ⟨[_],Z,by rw[←E,h1];rfl,H.trans I⟩
 refine QT (α:=Bool) [(26,34)] (λz=>[(26,.bool z)]) (λz w'=>w'=w5∧z=decide (e.fl<0∨4<e.fl)) (by rfl) ?_ ?_
 ·refine Qy<|x (Qa O)<|x (Qd G O O)<|xb (QB O O) (λhz=>?_) (λhz=>?_)
  ·refine Qb<|xs O<|xs O<|xs O<|x (Ql O)<|Qe ?_;exact ⟨_,Z,O,by first | exact bT (by omega) | exact bF (by omega) | exact bD (by omega)⟩
  refine Qb<|x (Qa O)<|x (Qd G O O)<|x (ZR O O)<|x (Ql O)<|Qe ?_;exact ⟨_,Z,O,by first | exact bT (by omega) | exact bF (by omega) | exact bD (by omega)⟩
 rintro z g w6 ⟨rfl,rfl⟩;refine Q7 rfl (λY=>?_) (λY=>?_)
 ·have h1:Xq sn e=2:=by unfold Xq;rw[if_neg J,if_neg S,if_pos Y]
  refine Qc<|Qe ?_;exact Qn ⟨[_],Z,by rw[←E,h1];rfl,H.trans I⟩
 refine QT (α:=Bool) [(35,46)] (λz=>[(35,.bool z)]) (λz w'=>w'=w6∧z=decide (e.fl≠0∧(e.co || e.ob)=true)) (by rfl) ?_ ?_
 ·refine Qy<|x (Qa O)<|x (Qd G O O)<|xb (Q9 O O) (λha=>?_) (λha=>?_)
  ·refine Qb<|x (Qa O)<|xB (Qd G O O) (λhf=>?_) (λhf=>?_)
   ·refine Qb<|xs O<|xs O<|x (Ql O)<|x (Ql O)<|Qe ?_;exact ⟨_,Z,O,by rw[hf,decide_eq_true ⟨ha,by simp⟩]⟩
   refine Qb<|x (Qa O)<|x (Qd G O O)<|x (Ql O)<|x (Ql O)<|Qe<|⟨_,Z,O,?_⟩;show e.ob=_;rw[hf];cases e.ob <;> simp[show ¬e.fl=0 from ha]
  refine Qb<|xs O<|xs O<|xs O<|xs O<|xs O<|xs O<|x (Ql O)<|Qe ?_;exact ⟨_,Z,O,bF (λh1=>ha h1.1)⟩
 rintro z g w7 ⟨rfl,rfl⟩;refine Q7 rfl (λhg=>?_) (λhg=>?_)
 ·have h1:Xq sn e=13:=by unfold Xq;rw[if_neg J,if_neg S,if_neg Y,if_pos hg]
  refine Qc<|Qe ?_;exact Qn ⟨[_],Z,by rw[←E,h1];rfl,H.trans I⟩
 have h1:Xq sn e=0:=by unfold Xq;rw[if_neg J,if_neg S,if_neg Y,if_neg hg]
 rw[h1,if_neg (λh=>h rfl)] at E;refine Qi<|Qy<|Qb<|x (Qa O)<|x (Qd G O O)<|xl O<|XB (k:=e.nm) ho O O λw8 h0 h2=>xe ?_;refine Qy<|QO O O<|Qb<|xe ?_;have h3:Z7 XG w8.heap b9 (nmM (sn++[e.nm])):=by rw[←Qc5 S];exact h2
 exact ⟨(k+1,sn++[e.nm]),by simp only[];omega,Z,V,(H.trans I).then1 h0 hq,h3,E⟩
theorem Qar {α:Type}(q:α→Bool) (x:α):∀(l:List α) (i:Nat),ixs q i (l++[x])=ixs q i l++if q x=true then [((i+l.length:Nat):Int)] else []
 | [],i=>by simp[ixs]
 | a::l,i=>by
  have ih:=Qar q x l (i+1);simp only[List.cons_append,ixs,ih,List.length_cons];rw[show i+1+l.length=i+(l.length+1) by omega];split <;> simp
theorem UX {α:Type}(q:α→Bool):∀(l:List α) (i:Nat),(ixs q i l).length≤l.length
 | [],i=>by simp[ixs]
 | a::l,i=>by
  have ih:=UX q l (i+1);unfold ixs;split <;> simp <;> omega
theorem Qaq {α:Type}(q:α→Bool) {l:List α}{k:Nat}(h:k<l.length):ixs q 0 (l.take (k+1))=ixs q 0 (l.take k)++if q (l[k]'h)=true then [(k:Int)] else []:=by
 rw[Li h,Qar];simp[Nat.min_eq_left (Nat.le_of_lt h)]
theorem QeF {g:Nat}{fn:Func}[Fu prog g fn] {q:KG→Bool}(hq:∀(e:KG) (w:World),QK prog g [.agg (Zn e).toArray] w λr w'=>r=.bool (q e)∧Step [] w w') {L:LN}{w:World}{v:Value}{l:List KG}(h:K8 L w.heap v l) :
  QK prog 114 [v,.func (.func g) #[] #[]] w λr w'=>Step [] w w'∧Qu 3 w.heap.size w' r (ixs q 0 l):=by
 have hv:=h.arr.le;refine QK.of_W func114 O ntmps114 results114 (by simp) ?_;refine Qc<|Qe<|Qc<|Qe<|Qf<|Qc<|Qb<|x (Qs h.arr O)<|Qb<|xe<|Qh<|QA (α:=Nat×Value) [(5,7),(10,22)] (λz=>[(5,z.2),(10,.int .i64 z.1)]) (λz w'=>z.1≤l.length∧Step [] w w'∧Qu 3 w.heap.size w' z.2 (ixs q 0 (l.take z.1))) (λz=>l.length - z.1) (by rfl) (0,nS) ⟨O,O,U⟩
  ⟨Ll _,Step.refl _ _,QP _ _ _ _⟩ ?_
 rintro ⟨k,vo⟩ g w1 ⟨hk,E,I⟩;simp only[] at hk I;refine Qc<|x (QB O O)<|xe<|Qf<|QG O (λS=>?_) (λS=>?_)
 ·refine Qz ?_;have hg:l.length≤k:=by have hh:¬(k:Int)<(l.length:Int):=S;omega
  rw[Lo hg] at I;refine Qc<|Qb<|Qe ?_;exact Qn ⟨[_],Z,E,I⟩
 have G:k<l.length:=by have hh:(k:Int)<(l.length:Int):=S;omega
 have H:=Qaq q G;have hw:=UX q (l.take k) 0;have hy:(l.take k).length=k:=by simp;omega
 refine Qi<|Qf<|Qh<|Qc<|Qb<|xig U1 (h.arr.ext E) O O G λhz hf=>?_;refine Zc (l[k]'G) λe he=>?_;rw[he] at hf H;refine x (QI hf O O)<|xl O<|Qt (us:=[.string .empty,.bool false,.bool false,.bool false,.int .i64 0]) O λb7 w2 hj hl V=>x Qg <|
  xl rfl<|Qo (us:=Zn e) V O O O O ⟨O,O,O,O,O,U⟩ λw3 hm V=>xe ?_
 have hn:Step [] w1 w3:=hj.then1 hm hl;refine Qc<|Qb<|x (Qr V O O)<|xl O<|xc (first:=[]) (capt:=[]) O<|(hq e w3).mono ?_;rintro r4 w4 ⟨rfl,ho⟩;have J:=hn.trans ho;have Y:=Qq I J;have h0:=(E.trans J).size;refine xe<|Q3 rfl (λha=>?_) (λha=>?_)
 ·rw[if_pos ha] at H;refine Qy<|Qb<|Qb<|xl O<|QC (us:=[[.int .i64 k]]) O O (by decide) (by simp) ⟨rfl,rfl,U⟩ λh1 w5 hc h2 hp=>?_;have hr:=Qq Y hc;have h3:=hc.size;refine xl O<|Q5 (news:=[.int .i64 k]) (L:=[]) hr O O O (hp.at (by simp)) (by simp[Value.oneCell']) (by omega) (by omega) λv6 w6 ht hu h4 =>
   Qe ?_
  have hge:=Qm Y;refine Qy<|QO O O<|Qb<|xe<|⟨(k+1,v6),by simp only[];omega,⟨O,O,U⟩,G,((E.trans J).trans hc).then hu (λb hb=>.inr (hge b hb).1),?_⟩;simp only[];rw[H];exact Qu.snoc ht
 rw[if_neg (by rw[ha];decide),LH] at H;refine Qi<|Qy<|QO O O<|Qb<|xe ?_;exact ⟨(k+1,vo),by simp only[];omega,⟨O,O,U⟩,G,E.trans J,by simp only[];rw[H];exact Y⟩
theorem Qck (e:KG) (w:World):QK prog 109 [.agg (Zn e).toArray] w λr w'=>r=.bool (!e.co)∧Step [] w w':=by
 refine QK.of_W func109 O ntmps109 results109 (by simp) ?_;refine Qc<|xl O<|QS (us:=Zn e) O λH I E J G=>Qe<|Qc<|x (Qa O)<|x (Qd G O O)<|x (Zm O)<|Qe ?_;exact Qn ⟨[_],Z,O,E⟩
theorem QeP {L:LN}{w:World}{v:Value}{l:List KG}(h:K8 L w.heap v l):QK prog 44 [v,.int .i64 2] w λr w'=>Step [] w w' ∧
  ∃vo,r=.tuple #[vo,.int .i64 (Je l)]∧Qu 3 w.heap.size w' vo (if Je l=0 then unc l else []):=by
 refine QK.of_W func44 O ntmps44 results44 (by simp) ?_;refine Qc<|x Qg<|Qe<|Qf<|Qc<|Qb<|xl O<|xf<|(qS h).mono ?_;rintro r1 I ⟨rfl,J⟩;refine Qe<|Qc<|Qb<|x (Q9 O O)<|xe<|Q7 rfl (λG=>?_) (λG=>?_)
 ·refine Qc<|Qb<|x Qg<|Qe ?_;exact Qn ⟨[_,_],⟨O,O,U⟩,J,_,O,by rw[if_neg G];exact QP _ _ _ _⟩
 have S:Je l=0:=Ls.1 G;refine Qi<|Qc<|xl O<|YB KX λV w2 Y E ha=>xl O<|Xc (k:=1) ha O O λw3 hb hc=>xl O<|Xc (k:=2) hc O O λw4 he hf =>
  xl rfl<|Xc (k:=3) hf O O λw5 hg hh=>xl O<|Xc (k:=4) hh O O λw6 hj hk=>xl O<|Xc (k:=5) hk O O λw7 hl hm=>xl O<|Xc (k:=6) hm O O λw8 hn ho =>
  Qb<|Qe ?_
 have ht:I.heap.size≤V:=E;have hp:Step [] I w8:=(((((Y.then1 hb E).then1 he E).then1 hg E).then1 hj E).then1 hl E).then1 hn E;refine Qc<|Qb<|Qb<|x (zT (k:=(2:Int)) ho O O O)<|Qb<|x (Qk O O)<|x (Qk O O)<|x Qg<|Qe<|Qf<|Qc<|Qb<|x (Zm O)<|xe<|ZM rfl ?_;refine Qi ?_;have H:=J.trans hp;refine Qc<|Qb<|Qb<|xl O<|xf<|(QeF Qck (h.ext H)).mono ?_
 rintro r9 w9 ⟨hq,hr⟩;refine x Qg<|Qe<|Qn ⟨[_,_],⟨O,O,U⟩,H.trans hq,_,by rw[S];rfl,?_⟩;rw[if_pos S];exact Zr hr H.size
theorem Qau (n:Int) (w:World):QK prog 220 [.int .i64 n] w λr w'=>r=.bool (grt n)∧w'=w:=by
 refine QK.of_W func220 O ntmps220 results220 (by simp) ?_;refine Qc<|Qe<|QT (α:=Bool) [(2,8)] (λz=>[(2,.bool z)]) (λz w'=>w'=w∧z=grt n) (by rfl) ?_ ?_
 ·refine Qy<|Qb<|xb (QB O O) (λE=>?_) (λE=>?_)
  ·refine Qb<|xs O<|xs O<|x (Ql O)<|Qe ?_;exact ⟨_,Z,O,by unfold grt;rw[decide_eq_true E];rfl⟩
  refine Qb<|Qb<|x (ZR O O)<|x (Ql O)<|Qe ?_;exact ⟨_,Z,O,by unfold grt;rw[decide_eq_false E];rfl⟩
 rintro z g G ⟨rfl,rfl⟩;exact Qn ⟨[_],Z,O,O⟩
theorem Qcd {sz:LI}{ls:List (Int×Int)}{k:Nat}(h:k<ls.length):Yv sz (pv (ls.map (·.1)) k) (ls.drop k)=if (ls[k]'h).1<0∨(sz.length:Int)≤(ls[k]'h).1 then 2 else if UW (pv (ls.map (·.1)) k) (ls[k]'h).1=true then 5 else if (ls[k]'h).2<0∨cget sz (ls[k]'h).1.toNat≤(ls[k]'h).2 then 2 else Yv sz (pv (ls.map (·.1)) (k+1)) (ls.drop (k+1)):=by
 rw[QX h,Jz (by simpa using h),LL];rfl
theorem VN {w:World}{vs vx vk vl:Value}{sz:LI}{ls:List (Int×Int)}{nm:ByteArray}(hS:QL [] w.heap vs sz) (hl:P2s [] w.heap vl ls) :
  QK prog 170 [.agg #[vs,vx,vk],.agg #[.string nm,vl]] w λr w'=>r=.int .i64 (X8 sz ls)∧Step [] w w':=by
 have hK:=hl.le;have hL:=hS.le;refine QK.of_W func170 O ntmps170 results170 (by simp) ?_;refine Qc<|xl O<|QS (us:=[vs,vx,vk]) O λb2 w1 h1 hM Y=>xl O<|QS (us:=[.string nm,vl]) O λb3 w2 hr hN ha=>Qe ?_;have G:=h1.trans hr
 replace Y:=Y.ext hr;refine Qf<|Qc<|x (Qa O)<|x (Qd ha O O)<|x (Qs (hl.ext G) O)<|x (Q4 O O)<|xe<|Q7 rfl (λhb=>?_) (λhb=>?_)
 ·refine Qc<|Qe ?_;exact Qn ⟨[_],Z,by unfold X8;rw[if_pos (by have h2:(ls.length:Int)=0:=hb;omega)];rfl,G⟩
 have h3:ls.length≠0:=by have h2:¬(ls.length:Int)=0:=hb;omega
 have h4:X8 sz ls=Yv sz none ls:=by unfold X8;rw[if_neg h3]
 rw[h4];refine Qi<|Qf<|Qc<|x (Qa O)<|x (Qd ha O O)<|x (Qs (hl.ext G) O)<|Qb<|xe<|Qh<|QA (α:=Nat) [(4,6),(14,61)] (λz=>[(14,.int .i64 z)]) (λz w'=>z≤ls.length∧Step [] w2 w'∧Yv sz (pv (ls.map (·.1)) z) (ls.drop z)=Yv sz none ls) (λz=>ls.length - z) (by rfl) 0 Z
  ⟨Ll _,Step.refl _ _,O⟩ ?_
 rintro k g w3 ⟨hk,J,E⟩;have hf:=G.trans J;have ht:=Y.ext J;have h5:=ha.ext J;have hu:=hl.ext hf;have hv:=hS.ext hf;refine Qc<|x (QB O O)<|xe<|Qf<|QG O (λhg=>?_) (λhg=>?_)
 ·refine Qz ?_;have h6:ls.length≤k:=by have h7:¬(k:Int)<(ls.length:Int):=hg;omega
  rw[Lr h6] at E;refine Qc<|Qe ?_;exact Qn ⟨[_],Z,by rw[←E];rfl,hf⟩
 have S:k<ls.length:=by have h7:(k:Int)<(ls.length:Int):=hg;omega
 rw[Qcd S] at E;refine Qi<|Qf<|Qh<|Qc<|Qb<|xig YX hu O O S λhO hw=>?_;refine Zc (ls[k]'S) λe he=>?_;rw[he] at hw E;refine x (QI hw O O)<|xl O<|Qt (us:=[.int .i64 0,.int .i64 0]) O λb6 w4 h8 h9 I=>x Qg<|xl O<|Qo (us:=QQ e) I O O O O ⟨O,O,U⟩ λw5 hA I=>xe ?_;have H:Step [] w3 w5:=h8.then1 hA h9;have hy:=J.trans H
 refine Qh<|QT (α:=Bool) [(19,30)] (λz=>[(19,.bool z)]) (λz w'=>w'=w5∧z=decide (e.1<0∨(sz.length:Int)≤e.1)) (by rfl) ?_ ?_
 ·refine Qy<|x (Qa O)<|x (Qd I O O)<|xb (QB O O) (λhB=>?_) (λhB=>?_)
  ·refine Qb<|xs O<|xs O<|xs O<|xs O<|xs O<|xs O<|x (Ql O)<|Qe ?_;exact ⟨_,Z,O,by first | exact bT (by omega) | exact bF (by omega) | exact bD (by omega)⟩
  refine Qb<|x (Qa O)<|x (Qd I O O)<|x (Qa O)<|x (Qd (ht.ext H) O O)<|x (Qs (hv.ext H) O)<|x (ZV O O) <|
   x (Ql rfl)<|Qe ?_
  exact ⟨_,Z,O,by first | exact bT (by omega) | exact bF (by omega) | exact bD (by omega)⟩
 rintro z g w6 ⟨rfl,rfl⟩;refine Q7 rfl (λhh=>?_) (λhh=>?_)
 ·rw[if_pos hh] at E;refine Qc<|Qe ?_;exact Qn ⟨[_],Z,by rw[←E];rfl,G.trans hy⟩
 rw[if_neg hh] at E;have hC:e.1=((e.1.toNat:Nat):Int):=by omega
 have hD:e.1.toNat<sz.length:=by omega
 refine QT (α:=Bool) [(31,45)] (λz=>[(31,.bool z)]) (λz w'=>Step [] w6 w'∧z=UW (pv (ls.map (·.1)) k) e.1) (by rfl) ?_ ?_
 ·refine QW (Step [] w6) [(0,true),(1,true),(2,true),(3,true),(4,true),(5,true),(6,true),(7,true),(8,true),(9,true),(10,true),(11,true),(12,true),(13,true),(14,true)] mixed (by rfl) (by kernel_rfl) (Step.drew _ _) ?_;refine p (λ_=>Qp)<|pb (λ_=>ZR O O) (λhj=>?_) (λhj=>?_)
  ·have hm:k≠0:=by have hE:(0:Int)<(k:Int):=hj;omega
   have hF:((k:Int) - 1)=((k - 1:Nat):Int):=by omega
   have hn:k - 1<ls.length:=by omega
   refine p (λ_=>Qp)<|p (λ_=>Qa O)<|pq (λ_ hc=>Qd (I.ext hc) O O)<|p (λ_=>Qa O)<|pq (λ_ hc=>Qd ((h5.ext H).ext hc) O O) <|
    p (λ_=>Qp)<|p (λ_=>JR O O ⟨by omega,by omega⟩)<|Lg.pig (g:=QQ) (i:=k - 1) O YX (hu.ext H) O (congrArg (Value.int .i64) hF) hn λhP hG=>p (λ_=>Zo O) <|
    pq (λ_ hc=>Qw ((hG.fld 0 _ O).ext hc) O)<|p (λ_=>X3 O O)<|p (λ_=>Ql O)<|p (λ_=>Qg)<|pe ?_
   refine ⟨_,Z,Step.drew _ _,?_⟩;have:pv (ls.map (·.1)) k=some (ls[k - 1]'hn).1:=by simp[pv,hm,hn]
   rw[this];rfl
  have hm:k=0:=by have hE:¬(0:Int)<(k:Int):=hj;omega
  refine p (λ_=>Qp)<|ps<|ps<|ps<|ps<|ps<|ps<|ps<|ps<|ps<|ps<|p (λ_=>Ql O)<|p (λ_=>Qg)<|pe ?_;exact ⟨false,Z,Step.drew _ _,by simp[pv,hm,UW]⟩
 rintro z g w7 ⟨V,rfl⟩;have hz:=hy.trans V;refine Q3 rfl (λho=>?_) (λho=>?_)
 ·rw[if_pos ho] at E;refine Qc<|Qe ?_;exact Qn ⟨[_],Z,by rw[←E];rfl,G.trans hz⟩
 rw[if_neg (by simp[ho])] at E;have hp:=I.ext V;refine QT (α:=Bool) [(46,60)] (λz=>[(46,.bool z)]) (λz w'=>Step [] w7 w'∧z=decide (e.2<0∨cget sz e.1.toNat≤e.2)) (by rfl) ?_ ?_
 ·refine QW (Step [] w7) [(0,true),(1,true),(2,true),(3,true),(4,true),(5,true),(6,true),(7,true),(8,true),(9,true),(10,true),(11,true),(12,true),(13,true),(14,true)] mixed (by rfl) (by kernel_rfl) (Step.drew _ _) ?_;refine p (λ_=>Qa O)<|pq (λ_ hc=>Qd (hp.ext hc) O O)<|pb (λ_=>QB O O) (λhH=>?_) (λhH=>?_)
  ·refine p (λ_=>Qp)<|ps<|ps<|ps<|ps<|ps<|ps<|ps<|ps<|ps<|p (λ_=>Ql O)<|p (λ_=>Qg)<|pe ?_;exact ⟨_,Z,Step.drew _ _,by first | exact bT (by omega) | exact bF (by omega) | exact bD (by omega)⟩
  refine p (λ_=>Qp)<|p (λ_=>Qa O)<|pq (λ_ hc=>Qd (hp.ext hc) O O)<|p (λ_=>Qa O)<|pq (λ_ hc=>Qd (((ht.ext H).ext V).ext hc) O O) <|
   p (λ_=>Qa O)<|pq (λ_ hc=>Qd (hp.ext hc) O O)<|pic (i:=e.1.toNat) O ((hv.ext H).ext V) O (congrArg (Value.int .i64) hC) hD λhQ hI=>pq (λ_ hc=>Qw (hI.ext hc) O) <|
   p (λ_=>ZV O O)<|p (λ_=>Ql O)<|p (λ_=>Qg)<|pe ?_
  exact ⟨_,Z,Step.drew _ _,by first | exact bT (by omega) | exact bF (by omega) | exact bD (by omega)⟩
 rintro z g w8 ⟨hJ,rfl⟩;have h0:=hz.trans hJ;refine Q7 rfl (λhq=>?_) (λhq=>?_)
 ·rw[if_pos hq] at E;refine Qc<|Qe ?_;exact Qn ⟨[_],Z,by rw[←E];rfl,G.trans h0⟩
 rw[if_neg hq] at E;refine Qi<|Qy<|QO O O<|Qb<|xe ?_;exact ⟨k+1,by omega,Z,S,h0,E⟩
theorem Qcc {sz:LI}{ls:List (Int×Int)}{k:Nat}(h:k<ls.length):YT sz (pv (ls.map (·.1)) k) (ls.drop k)=if (ls[k]'h).1<0∨(sz.length:Int)≤(ls[k]'h).1 then 2 else if UW (pv (ls.map (·.1)) k) (ls[k]'h).1=true then 5 else if (ls[k]'h).2=0∨grt (ls[k]'h).2=true then 2 else YT sz (pv (ls.map (·.1)) (k+1)) (ls.drop (k+1)):=by
 rw[QX h,Jz (by simpa using h),LL];rfl
theorem K2 {w:World}{vs vx vk vl:Value}{sz:LI}{ls:List (Int×Int)}{nm:ByteArray}{bd:Int}(hS:QL [] w.heap vs sz) (hl:P2s [] w.heap vl ls) :
  QK prog 172 [.agg #[vs,vx,vk],.agg #[.string nm,vl,.int .i64 bd]] w λr w'=>r=.int .i64 (Yw sz ⟨nm,ls,bd⟩)∧Step [] w w':=by
 have hK:=hl.le;have hL:=hS.le;refine QK.of_W func172 O ntmps172 results172 (by simp) ?_;refine Qc<|xl O<|QS (us:=[vs,vx,vk]) O λb2 w1 h3 hM Y=>xl O<|QS (us:=[.string nm,vl,.int .i64 bd]) O λb3 w2 ht hN ha=>Qe ?_;have G:=h3.trans ht
 replace Y:=Y.ext ht;refine Qf<|Qc<|x (Qa O)<|x (Qd ha O O)<|x (Qs (hl.ext G) O)<|x (Q4 O O)<|xe<|Q7 rfl (λhb=>?_) (λhb=>?_)
 ·refine Qc<|Qe ?_;exact Qn ⟨[_],Z,by unfold Yw;rw[if_pos (by have h4:(ls.length:Int)=0:=hb;show ls.length=0;omega)];rfl,G⟩
 have h5:ls.length≠0:=by have h4:¬(ls.length:Int)=0:=hb;omega
 have h6:Yw sz ⟨nm,ls,bd⟩=if YT sz none ls≠0 then YT sz none ls else if grt bd=true then 2 else 0:=by unfold Yw;rw[if_neg h5]
 rw[h6];refine Qi<|Qf<|Qc<|x (Qa O)<|x (Qd ha O O)<|x (Qs (hl.ext G) O)<|Qb<|xe<|Qh<|QA (α:=Nat) [(4,6),(14,55)] (λz=>[(14,.int .i64 z)]) (λz w'=>z≤ls.length∧Step [] w2 w'∧YT sz (pv (ls.map (·.1)) z) (ls.drop z)=YT sz none ls) (λz=>ls.length - z) (by rfl) 0 Z
  ⟨Ll _,Step.refl _ _,O⟩ ?_
 rintro k g w3 ⟨hk,J,E⟩;have S:=G.trans J;have h7:=Y.ext J;have hu:=ha.ext J;have hv:=hl.ext S;have h8:=hS.ext S;refine Qc<|x (QB O O)<|xe<|Qf<|QG O (λhf=>?_) (λhf=>?_)
 ·refine Qz ?_;have h9:ls.length≤k:=by have hA:¬(k:Int)<(ls.length:Int):=hf;omega
  rw[Lr h9] at E;have hB:YT sz none ls=0:=E.symm;rw[hB,if_neg (λh=>h rfl)];refine Qf<|Qc<|x (Qa O)<|x (Qd hu O O)<|xl O<|xf<|(Qau bd _).mono ?_;rintro r4 w4 ⟨rfl,rfl⟩;refine xe<|Q3 O (λhh=>?_) (λhh=>?_)
  ·rw[if_pos hh];refine Qc<|Qe ?_;exact Qn ⟨[_],Z,O,S⟩
  rw[if_neg (by simp[hh])];refine Qi<|Qc<|Qe ?_;exact Qn ⟨[_],Z,O,S⟩
 have V:k<ls.length:=by have hA:(k:Int)<(ls.length:Int):=hf;omega
 rw[Qcc V] at E;refine Qi<|Qf<|Qh<|Qc<|Qb<|xig YX hv O O V λhO hw=>?_;refine Zc (ls[k]'V) λe he=>?_;rw[he] at hw E;refine x (QI hw O O)<|xl O<|Qt (us:=[.int .i64 0,.int .i64 0]) O λb6 w4 hC hD H=>x Qg<|xl O<|Qo (us:=QQ e) H O O O O ⟨O,O,U⟩ λw5 hE H=>xe ?_;have I:Step [] w3 w5:=hC.then1 hE hD;have hy:=J.trans I
 refine Qh<|QT (α:=Bool) [(19,30)] (λz=>[(19,.bool z)]) (λz w'=>w'=w5∧z=decide (e.1<0∨(sz.length:Int)≤e.1)) (by rfl) ?_ ?_
 ·refine Qy<|x (Qa O)<|x (Qd H O O)<|xb (QB O O) (λhF=>?_) (λhF=>?_)
  ·refine Qb<|xs O<|xs O<|xs O<|xs O<|xs O<|xs O<|x (Ql O)<|Qe ?_;exact ⟨_,Z,O,by first | exact bT (by omega) | exact bF (by omega) | exact bD (by omega)⟩
  refine Qb<|x (Qa O)<|x (Qd H O O)<|x (Qa O)<|x (Qd (h7.ext I) O O)<|x (Qs (h8.ext I) O)<|x (ZV O O) <|
   x (Ql rfl)<|Qe ?_
  exact ⟨_,Z,O,by first | exact bT (by omega) | exact bF (by omega) | exact bD (by omega)⟩
 rintro z g w6 ⟨rfl,rfl⟩;refine Q7 rfl (λhj=>?_) (λhj=>?_)
 ·rw[if_pos hj] at E;refine Qc<|Qe ?_;exact Qn ⟨[_],Z,by rw[←E,if_pos (by decide)];rfl,G.trans hy⟩
 rw[if_neg hj] at E;have hP:e.1=((e.1.toNat:Nat):Int):=by omega
 have hQ:e.1.toNat<sz.length:=by omega
 refine QT (α:=Bool) [(31,45)] (λz=>[(31,.bool z)]) (λz w'=>Step [] w6 w'∧z=UW (pv (ls.map (·.1)) k) e.1) (by rfl) ?_ ?_
 ·refine QW (Step [] w6) [(0,true),(1,true),(2,true),(3,true),(4,true),(5,true),(6,true),(7,true),(8,true),(9,true),(10,true),(11,true),(12,true),(13,true),(14,true)] mixed (by rfl) (by kernel_rfl) (Step.drew _ _) ?_;refine p (λ_=>Qp)<|pb (λ_=>ZR O O) (λhm=>?_) (λhm=>?_)
  ·have hn:k≠0:=by have hG:(0:Int)<(k:Int):=hm;omega
   have hH:((k:Int) - 1)=((k - 1:Nat):Int):=by omega
   have ho:k - 1<ls.length:=by omega
   refine p (λ_=>Qp)<|p (λ_=>Qa O)<|pq (λ_ hc=>Qd (H.ext hc) O O)<|p (λ_=>Qa O)<|pq (λ_ hc=>Qd ((hu.ext I).ext hc) O O) <|
    p (λ_=>Qp)<|p (λ_=>JR O O ⟨by omega,by omega⟩)<|Lg.pig (g:=QQ) (i:=k - 1) O YX (hv.ext I) O (congrArg (Value.int .i64) hH) ho λhR hI=>p (λ_=>Zo O) <|
    pq (λ_ hc=>Qw ((hI.fld 0 _ O).ext hc) O)<|p (λ_=>X3 O O)<|p (λ_=>Ql O)<|p (λ_=>Qg)<|pe ?_
   refine ⟨_,Z,Step.drew _ _,?_⟩;have:pv (ls.map (·.1)) k=some (ls[k - 1]'ho).1:=by simp[pv,hn,ho]
   rw[this];rfl
  have hn:k=0:=by have hG:¬(0:Int)<(k:Int):=hm;omega
  refine p (λ_=>Qp)<|ps<|ps<|ps<|ps<|ps<|ps<|ps<|ps<|ps<|ps<|p (λ_=>Ql O)<|p (λ_=>Qg)<|pe ?_;exact ⟨false,Z,Step.drew _ _,by simp[pv,hn,UW]⟩
 rintro z g w7 ⟨hz,rfl⟩;have h0:=hy.trans hz;refine Q3 rfl (λhp=>?_) (λhp=>?_)
 ·rw[if_pos hp] at E;refine Qc<|Qe ?_;exact Qn ⟨[_],Z,by rw[←E,if_pos (by decide)];rfl,G.trans h0⟩
 rw[if_neg (by simp[hp])] at E;have h1:=H.ext hz;refine QT (α:=Bool) [(46,54)] (λz=>[(46,.bool z)]) (λz w'=>Step [] w7 w'∧z=decide (e.2=0∨grt e.2=true)) (by rfl) ?_ ?_
 ·refine Qy<|x (Qa O)<|x (Qd h1 O O)<|xb (Q4 O O) (λhq=>?_) (λhq=>?_)
  ·refine Qb<|xs O<|xs O<|xs O<|x (Ql O)<|Qe ?_;exact ⟨_,Z,Step.refl _ _,bT (.inl hq)⟩
  refine Qb<|x (Qa O)<|x (Qd h1 O O)<|xl O<|xf<|(Qau e.2 _).mono ?_;rintro r9 w9 ⟨rfl,rfl⟩;refine x (Ql O)<|Qe<|⟨grt e.2,Z,Step.refl _ _,?_⟩;cases hg:grt e.2 with
  | true=>exact bT (.inr O)
  | false=>exact bF (λh=>by rcases h with h | h;exact hq h;cases h)
 rintro z g w8 ⟨hJ,rfl⟩;have h2:=h0.trans hJ;refine Q7 rfl (λhr=>?_) (λhr=>?_)
 ·rw[if_pos hr] at E;refine Qc<|Qe ?_;exact Qn ⟨[_],Z,by rw[←E,if_pos (by decide)];rfl,G.trans h2⟩
 rw[if_neg hr] at E;refine Qi<|Qy<|QO O O<|Qb<|xe ?_;exact ⟨k+1,by omega,Z,V,h2,E⟩
end Go.Proofs.YtdffckgdcegpaaaGreatDoor
namespace Go.Lg
open Go.RowKit
def Qbg:Fr→LN→LV→Fr
 | f,p::ps,v::vs=>Qbg (upd f p v) ps vs
 | f,_,_=>f
theorem VX {n:Nat}{ds:LN}:∀(ps:LN) (vs:LV) (a:Act) (f:Fr),YF n ds a f→(∀p∈ps,p<n) →
  YF n ds { tmps:=(ps.zip vs).foldl (λt (x:Nat×Value)=>t.setIfInBounds x.1 x.2) a.tmps,defers:=a.defers } (Qbg f ps vs)
 | [],_,a,f,h,_=>by cases h;exact ⟨by assumption,by assumption,by assumption⟩
 | p::ps,[],a,f,h,_=>by cases h;exact ⟨by assumption,by assumption,by assumption⟩
 | p::ps,v::vs,a,f,h,hp=>by
  have h2:=h.put (dst:=some p) (λd e=>by cases e;exact hp p Lm) v;exact VX ps vs _ _ h2 (λq hq=>hp q (Lk _ hq))
def rdE {α:Type}(B:Nat) (L:LN) (I:List α→World→Prop) (X:Exit→List α→World→Prop) (xs:List α) (W:World):Exit→LN→Fr→World→Prop
 | .normal,_,_,W'=>JO B L W W'∧I xs W'
 | .ret,_,_,W'=>JO B L W W'∧X .ret xs W'
 | .exit i,_,_,W'=>JO B L W W'∧X (.exit i) xs W'
 | _,_,_,_=>False
theorem Qic {α:Type}{m:Nat}{P:Program}{n:Nat}{Q:Exit→LN→Fr→World→Prop}{ds:LN}{f:Fr}{w:World}{g:Operand}{ps:LN}{assign body:Code}(L:LN) (h1:1≤m)
  {gf:Nat} {fn:Func} [hF:Fu P gf fn] {capt:LV} (hg:ev f g=.func (.func gf) #[] capt.toArray) {encs:α→LV} {S Sp:List α→Prop} {N:Nat} (hp:∀p∈ps,p<n) (hf:∀x,(encs x).length=ps.length)
  (hh:SeqStopsK (fen none) (m - 1) P gf capt.toArray (λx=>(encs x).toArray) (Lw w.heap.size L) S Sp N w)
  (I:List α→World→Prop) (hI:∀s,Z1 w.heap.size (I s)) (X:Exit→List α→World→Prop) (hX:∀e s,Z1 w.heap.size (X e s)) (h0:I [] w) (A:Fr→α→Fr→World→Prop) (hA:∀x E,Z1 w.heap.size (A f x E))
  (Y:∀l pre x W,I pre W→WG (some l) (m - 1 - 1) P n assign (Qbi (λJ E W'=>J=[]∧JO w.heap.size L W W'∧I pre W'∧A f x E W') (λ_ _ _ _=>False)) [] (Qbg f ps (encs x)) W)
  (hb:∀l pre x E W,I pre W→A f x E W→pre.length<N→WG (some l) (m - 1 - 1) P n body (rdE w.heap.size L I X (pre++[x]) W) [] E W)
  (hj:∀D xs W,w.heap.size≤D→S xs→I xs W→W.heap[D]?=some (.deferred (some []))→Q .normal (D::ds) f W)
  (hc:∀D e pre W,w.heap.size≤D→Sp pre→X e pre W→W.heap[D]?=some (.deferred (some []))→(e=.ret∨∃i,e=.exit i)→Q e (D::ds) f W) :
  WG none m P n (.rangeFunc g ps.toArray assign body) Q ds f w:=by
 unfold WG at Y hb ⊢;intro a ha;have eg:∀args w,(callFunc gf args).run P w=.ok (.enter gf args) w:=by
  intro args w;have h1:¬fn.name = "runtime.NumGoroutine" := by simpa using hF.nm
  have h2:¬fn.body=none:=by have:=hF.b;intro e;rw[e] at this;cases this
  simp[callFunc,hF.f,h1,h2]
 have keep:∀{W W':World},JO w.heap.size L W W'→KeepsFrom w.heap.size W W':=λh=>⟨h.lw.size,λk o _ hk ho=>h.other k o hk ho⟩;refine wpIn_rangeFunc_ownH (F:=fen none) O h1 (gf:=gf) (lb:=capt.toArray) (by rw[ha.eval];exact hg) U eg hh (λh k=>h.trans k)
  (λW l o o' hl ho _ _=>⟨O,O,O,by simp,λk hk _=>World.putObj_heap_other (by omega)⟩) (Below.refl _ _) (λx=>by simp[hf x]) I
  (λc pre W=>match c with | .ret=>X .ret pre W | .exit i=>X (.exit i) pre W | _=>False) (Z1.own hI) (λc=>Z1.own λs=>?_) h0
  (λx G W=>∃E,YF n [] G E∧A f x E W) (λx G=>Z1.own λ_=>Z1.ex λE=>Z1.and (Z1.pure _) (hA x E)) ?_ ?_ ?_ ?_
 ·cases c <;> first | exact hX _ s | exact Z1.pure _
 ·intro l pre x W K hi hK;have hr:YF n [] { tmps:=(ps.toArray.zip (encs x).toArray).foldl (λt (p,v)=>t.setIfInBounds p v) a.tmps,defers:=[] } (Qbg f ps (encs x)):=by
   have h2:YF n [] { a with defers:=[] } f:=⟨ha.size,O,ha.get⟩
   have h3:=VX ps (encs x) _ _ h2 hp;have e:(ps.toArray.zip (encs x).toArray).foldl (λt (p,v)=>t.setIfInBounds p v) a.tmps=(ps.zip (encs x)).foldl (λt (x:Nat×Value)=>t.setIfInBounds x.1 x.2) a.tmps:=by simp
   rw[e];exact h3
  refine wpIn_mono (Y l pre x W hi _ hr) ?_;rintro e G W' ⟨J,E,h2,_,h3⟩;cases e with
  | normal=>obtain ⟨rfl,V,h5,h6⟩:=h3;exact hK G W' (keep V) V.lw h5 ⟨E,h2,h6⟩
  | exit id=>exact h3.elim
  | goto l=>exact h3.elim
  | ret=>exact h3.elim
  | panic ch=>exact h3.elim
  | outgrown=>exact h3.elim
 ·rintro l pre x G W _ _ hi ⟨E,h2,h3⟩ hm;refine wpIn_mono (hb l pre x E W hi h3 hm G h2) ?_;rintro e hn W' ⟨J,hq,V,_,h5⟩;cases e with
  | normal=>exact ⟨keep h5.1,h5.1.lw,h5.2⟩
  | exit id=>exact ⟨keep h5.1,h5.2⟩
  | goto l=>exact h5.elim
  | ret=>exact ⟨keep h5.1,h5.2⟩
  | panic ch=>exact h5.elim
  | outgrown=>exact h5.elim
 ·intro D xs W hD H hi hd;exact ⟨D::ds,f,⟨ha.size,by rw[show coll (D::ds)={ target:=.collected D,args:=#[] }::coll ds from rfl,ha.defers],ha.get⟩,λ_ _=>rfl,hj D xs W hD H hi hd⟩
 intro D c pre W hD H hx hd;have he:YF n (D::ds) { a with defers:={ target:=.collected D,args:=#[] }::a.defers } f:=⟨ha.size,by rw[show coll (D::ds)={ target:=.collected D,args:=#[] }::coll ds from rfl,ha.defers],ha.get⟩
 cases c with
 | ret=>exact wpIn_ret ⟨_,f,he,λ_ _=>O,hc D .ret pre W hD H hx hd (.inl O)⟩
 | exit i=>exact wpIn_exit ⟨_,f,he,λ_ _=>O,hc D (.exit i) pre W hD H hx hd (.inr ⟨i,O⟩)⟩
 | _=>exact hx.elim
end Go.Lg
namespace Go.Proofs.YtdffckgdcegpaaaGreatDoor
open Go.Proofs.Tryz
open Go.Lg
theorem Qg5 {α:Type}(g:α→LV) (sz:Nat) (E:∀x,(g x).length=sz):∀(l:List α) (k:Nat),(l.flatMap g).take (k*sz)=(l.take k).flatMap g
 | [],k=>by simp
 | e::l,0=>by simp
 | e::l,k+1=>by
  simp only[List.flatMap_cons,List.take_succ_cons,Nat.add_mul,Nat.one_mul];rw[M2,List.take_append,E,show sz+k*sz - sz=k*sz by omega,Qg5 g sz E l k,Lo (by rw[E];omega)]
theorem Qc6 {gf:Nat}{fn:Func}[Fu prog gf fn] {capt:LV}{nms:List ByteArray}{s:ByteArray}(hl:UC s) {w:World}{N:Nat}
  (ho:∀(w':World) (L:LN),Step [] w w'→(∀b∈L,w.heap.size≤b)→SeqStopsK (fen none) 9 prog gf capt.toArray (λx:{ x:ByteArray // x∈nms }=>[Value.string x.1].toArray) (Lw w'.heap.size L) (λys=>ys.map (·.1)=nms) (λ_=>True) N w') :
  QK prog 169 [.string s,.func (.func gf) #[] capt.toArray] w λr w'=>r=.int .i64 (Kj nms s)∧Step [] w w':=by
 refine QK.of_G 10 func169 O ntmps169 results169 (by simp) ?_;refine QY<|QJ (by rfl) (by rfl) ?_;refine xl rfl<|QS (us:=[.string s]) O λb2 w1 hg ht hh=>xl O<|Qt (us:=[.int .i64 0]) O λG w2 hj hu he=>xe ?_;have S:=hg.trans hj;have hv:=hg.size;have hw:=he.lt;have hk:=hh.ext hj;have hz:=hh.lt;refine QY<|QY<|QJ (by rfl) (by rfl) ?_
 refine x (Qd hk O O)<|xl O<|xf<|(Uh s hl _).mono ?_;rintro r3 w3 ⟨rfl,rfl⟩;refine x (Zm O)<|xe<|K7 rfl (λh8=>?_) (λh8=>?_)
 ·have hn:YG s=false:=by simpa using h8
  have V:Kj nms s=7:=by unfold Kj;rw[if_pos hn]
  refine QY<|QJ (by rfl) (by rfl) ?_;refine xl O<|QF (j:=0) (u:=.int .i64 7) he O O (by decide) O λw4 I Y=>xe ?_;refine Ko ⟨λ_ h=>(by cases h),MH,[.int .i64 7],λW' H=>⟨⟨⟨_,rfl,YN (At.one ((Y.ext H).at (L:=[]) (by simp)))⟩,U⟩,by rw[V];rfl,(S.then1 I (by omega)).trans H⟩⟩
 have hn:¬YG s=false:=by simpa using h8
 refine Yg<|QY<|QY<|QJ (by rfl) (by rfl) ?_;refine Qb<|xe<|ZI<|Qic (α:={ x:ByteArray // x∈nms }) (ps:=[10]) [G] (by omega) (capt:=capt) O (encs:=λx=>[.string x.1]) (by simp) (λ_=>rfl)
  (ho w3 [G] S (λb hb=>by simp at hb;omega))
  (λpre W=>Step [G] w3 W∧QZ W.heap b2 9 [.string s]∧QZ W.heap G 49 [.int .i64 0]∧∀x∈pre,x.1≠s)
  (λpre=>(Z1.step (Lt _)).and (Z1.blk.and (Z1.blk.and (Z1.pure _))))
  (λe pre W=>e=.ret∧Step [G] w3 W∧QZ W.heap G 49 [.int .i64 8]∧s∈nms)
  (λe pre=>(Z1.pure _).and ((Z1.step (Lt _)).and (Z1.blk.and (Z1.pure _))))
  ⟨Step.refl _ _,hk,he,λx hx=>by cases hx⟩
  (λf x f' W=>f'=upd (Qbg f [10] [.string x.1]) 5 (.string x.1)) (λx f'=>Z1.pure _) ?_ ?_ ?_ ?_
 ·rintro l pre x W ⟨h1,h2,h3,J⟩;refine QJ (by rfl) (by rfl) ?_;refine Lg.Qe ?_;exact ⟨O,JO.refl _ _ _,⟨h1,h2,h3,J⟩,O⟩
 ·rintro l pre x f' W ⟨h1,h2,h3,J⟩ rfl _;refine ZI<|QY<|QJ (by rfl) (by rfl) ?_;refine Lg.Qb<|Lg.x (Qd h2 O O)<|Lg.x (yP O O)<|xe<|Qke O (λhf=>?_) (λhf=>?_)
  ·refine QY<|QJ (by rfl) (by rfl) ?_;refine xl O<|QF (j:=0) (u:=.int .i64 8) h3 O O (by decide) O λw4 I Y=>xe ?_;refine Ko ?_;exact ⟨JO.blk I h1.size h3 (.inl (by simp)),rfl,h1.trans' I,Y,by rw[←hf];exact x.2⟩
  refine Yg<|⟨JO.refl _ _ _,h1,h2,h3,λy hy=>?_⟩;rcases Lj.1 hy with hy | hy
  ·exact J y hy
  simp only[List.mem_singleton] at hy;subst hy;exact hf
 ·rintro D xs W hD hp ⟨h1,h2,h3,J⟩ ha;have V:Kj nms s=0:=by
   unfold Kj;rw[if_neg hn,if_neg];intro hm;rw[←hp] at hm;obtain ⟨y,hy,e⟩:=Lp.1 hm;exact J y hy e
  refine QY<|QJ (by rfl) (by rfl) ?_;refine xl O<|QF (j:=0) (u:=.int .i64 0) h3 O O (by decide) O λw4 I Y=>xe ?_;have hc:D≠G:=by omega
  have hq:w4.heap[D]?=some (.deferred (some [])):=by rw[I.block D (LE.1 ha).1 (by simpa using hc)];exact ha
  refine Ko ⟨λE hE=>by simp only[List.mem_singleton] at hE;subst hE;exact hq,by simp,[.int .i64 0],λW' H=>?_⟩;refine ⟨⟨⟨_,O,YN (At.one ((Y.step H (by simpa using hc.symm)).at (L:=[]) (by simp)))⟩,U⟩,by rw[V];rfl,?_⟩;exact ((S.then h1 (λb hb=>.inr (by simp at hb;omega))).then1 I (by omega)).then H (λb hb=>.inr (by simp at hb;have:=S.size;omega))
 rintro D e pre W hD _ ⟨rfl,h1,h3,J⟩ ha _;have V:Kj nms s=8:=by unfold Kj;rw[if_neg hn,if_pos J]
 have hc:D≠G:=by omega
 refine ⟨λE hE=>by simp only[List.mem_singleton] at hE;subst hE;exact ha,by simp,[.int .i64 8],λW' H=>?_⟩;refine ⟨⟨⟨_,O,YN (At.one ((h3.step H (by simpa using hc.symm)).at (L:=[]) (by simp)))⟩,U⟩,by rw[V];rfl,?_⟩;exact (S.then h1 (λb hb=>.inr (by simp at hb;omega))).then H (λb hb=>.inr (by simp at hb;have:=S.size;omega))
end Go.Proofs.YtdffckgdcegpaaaGreatDoor
namespace Go.Lg
theorem XW.pre3 {P:Program}{m:Nat}{ops:List Oper}{K:Fr→World→Prop}{o1 o2 o3:Oper}{l2:List Oper}{f:Fr}{w:World}(h:XL P ops (λf w=>XW P m ops K l2 f w) [o1,o2,o3] f w):XW P m ops K (o1::o2::o3::l2) f w:=XW.pre [o1,o2,o3] f w h
end Go.Lg
namespace Go.Proofs.YtdffckgdcegpaaaGreatDoor
open Go.Proofs.Tryz
open Go.Lg
theorem Qhj {L:LN}{w:World}{H I i m:Nat}{vs vx vk:Value}{qs:List XV}{nms:List ByteArray}(hr:QZ w.heap H 151 [vs,vx,vk]) (ht:QZ w.heap I 3 [.int .i64 i]) (hX:zm L w.heap vx qs) (hi:i≤qs.length) (hn:nms=(qs.take i).map (·.nm)) :
  SeqStopsK (fen none) m prog 168 [.pointer (some ⟨H,0,none⟩),.pointer (some ⟨I,0,none⟩)].toArray (λx:{ x:ByteArray // x∈nms }=>[Value.string x.1].toArray) (Lw w.heap.size L)
   (λE=>E.map (·.1)=nms) (λ_=>True) (nms.length+1) w:=by
 intro l J Jx W hu hJ hv hY h0;have hf:Step [] w W:=Step.of_below hu;have ab:∀{E:List { x:ByteArray // x∈nms }} {W1 W2:World},J E W1→Step [] W1 W2→J E W2:=λ{E W1 W2} hj S=>hJ E W1 W2 none hj ⟨S.os,S.tape,S.output,S.size,λk hk _=>S.block k hk (by simp)⟩ (λr e=>by cases e);have hB:=hX.arr.le;have hC:nms.length=i:=by rw[hn];simp;omega
 have key:QK prog 168 [.func (.yield l) #[] #[],.pointer (some ⟨H,0,none⟩),.pointer (some ⟨I,0,none⟩)] W (λ_ W'=>(∃E,E.map (·.1)=nms∧J E W')∨(∃pre,True∧Jx pre W')):=by
  refine QK.of_G m func168 O ntmps168 results168 (by simp) ?_;have hw:=hr.ext hf;have hy:=ht.ext hf;refine QY<|QJ (by rfl) (by rfl) ?_;refine x (Qa O)<|x (Qd hw O O)<|x (Qd hy O O)<|QkF hX.arr O O hi λv9 hm=>x (Qs hm O)<|Qb<|xe ?_;have hz:(qs.take i).length=i:=by simp;omega
  have hS:Zs L w.heap v9 (qs.take i).length 2 ((qs.take i).flatMap Zu):=by
   rw[hz,←Qg5 Zu 2 JZ];exact hm
  refine ZI<|Ui (α:=Nat×List { x:ByteArray // x∈nms }) [(5,5),(11,20)] (λz=>[(11,.int .i64 z.1)]) (λz ds W'=>ds=[]∧z.1≤i∧Step L w W'∧z.2.map (·.1)=nms.take z.1∧J z.2 W') (λz=>i - z.1) (by rfl) (0,[]) Z
   ⟨O,Ll _,hf.any,O,h0⟩ ?_
  rintro ⟨k,E⟩ g ds w1 ⟨rfl,hk,ho,V,hg⟩;simp only[] at hk V hg;refine QY<|QJ (by rfl) (by rfl) ?_;refine x (QB O O)<|xe<|QY<|yu O (λhh=>?_) (λhh=>?_)
  ·refine Kp ?_;have hD:i≤k:=by have ha:¬(k:Int)<(i:Int):=hh;omega
   rw[Lo (by omega)] at V;exact ⟨λ_ h=>(by cases h),MH,[],λW' G=>⟨U,.inl ⟨E,V,ab hg G⟩⟩⟩
  refine Yg ?_;have h2:k<i:=by have ha:(k:Int)<(i:Int):=hh;omega
  have hb:k<(qs.take i).length:=by omega
  have hc:k<nms.length:=by omega
  have hl:nms.take (k+1)=nms.take k++[nms[k]'hc]:=Li hc;have hE:E.length=k:=by have:=congrArg List.length V;rw[Le,Lx] at this;omega
  have h3:nms[k]'hc=((qs.take i)[k]'hb).nm:=by subst hn;simp
  have Y:=Lc hc;rw[h3] at hl Y;refine QY<|ZI<|QY<|QJ (by rfl) (by rfl) ?_;refine xig JZ (i:=k) (hS.st ho) O O hb λhF ha=>?_;refine Zc ((qs.take i)[k]'hb) λq hq=>?_;rw[hq] at ha hl Y;have h4:=(hX.each q (LT (by rw[←hq];exact Lc hb))).one
  refine x (QI ha O O)<|xl O<|Qt (us:=[.string .empty,nS]) O λb5 w2 h5 h6 h7=>xl O<|Qo (us:=Zu q) h7 O O O O ⟨O,h4,U⟩ λw3 h8 h9=>xe ?_;have hp:Step [] w1 w3:=h5.then1 h8 h6;refine QY<|KC (by rfl) ?_;refine XW.pre3 ?_;refine Qb<|x (Qa O)<|x (Qd h9 O O)<|xe ?_
  refine xy (l:=l) O (hY E ⟨q.nm,Y⟩ w3 (ab hg hp) (by omega)) λen W3 hA=>Or.elim hA (λh1=>⟨.bool true,h1.1,?_⟩) (λh1=>⟨.bool false,h1.1,?_⟩)
  ·refine XW.of_XL<|x (Zm O)<|xe<|KD O<|Yg ?_;refine QJ (by rfl) (by rfl) ?_;refine QO O O<|Qb<|xe ?_;exact ⟨(k+1,E++[⟨q.nm,Y⟩]),by simp only[];omega,Z,O,h2,(ho.trans hp).lw h1.2.2,by rw[hl,Lu,V];rfl,h1.2.1⟩
  refine XW.of_XL<|x (Zm O)<|xe<|jE O ?_;refine Ko ⟨λ_ h=>(by cases h),MH,[],λW' G=>⟨U,.inr ⟨E++[⟨q.nm,Y⟩],U,?_⟩⟩⟩;exact hv _ W3 W' none h1.2 ⟨G.os,G.tape,G.output,G.size,λk hk _=>G.block k hk (by simp)⟩ (λr e=>by cases e)
 refine (callsIn_wide (n:=m)).2 ?_;have ea:(#[.func (.yield l) #[] #[]]++[.pointer (some ⟨H,0,none⟩),.pointer (some ⟨I,0,none⟩)].toArray:Array Value)=[.func (.yield l) #[] #[],.pointer (some ⟨H,0,none⟩),.pointer (some ⟨I,0,none⟩)].toArray:=by simp
 rw[ea];unfold QK at key;refine Calls.mono key λe w' he=>?_;cases e with
 | returned v=>exact ⟨⟨v,O⟩,he⟩
 | panicked c=>exact he.elim
 | outgrown=>exact he.elim
theorem Qhx {L:LN}{w:World}{H I i m:Nat}{vs vx vk:Value}{qs:List KV}{nms:List ByteArray}(hr:QZ w.heap H 151 [vs,vx,vk]) (ht:QZ w.heap I 3 [.int .i64 i]) (hX:zg L w.heap vk qs) (hi:i≤qs.length) (hn:nms=(qs.take i).map (·.nm)) :
  SeqStopsK (fen none) m prog 171 [.pointer (some ⟨H,0,none⟩),.pointer (some ⟨I,0,none⟩)].toArray (λx:{ x:ByteArray // x∈nms }=>[Value.string x.1].toArray) (Lw w.heap.size L)
   (λE=>E.map (·.1)=nms) (λ_=>True) (nms.length+1) w:=by
 intro l J Jx W hu hJ hv hY h0;have hf:Step [] w W:=Step.of_below hu;have ab:∀{E:List { x:ByteArray // x∈nms }} {W1 W2:World},J E W1→Step [] W1 W2→J E W2:=λ{E W1 W2} hj S=>hJ E W1 W2 none hj ⟨S.os,S.tape,S.output,S.size,λk hk _=>S.block k hk (by simp)⟩ (λr e=>by cases e);have hB:=hX.arr.le;have hC:nms.length=i:=by rw[hn];simp;omega
 have key:QK prog 171 [.func (.yield l) #[] #[],.pointer (some ⟨H,0,none⟩),.pointer (some ⟨I,0,none⟩)] W (λ_ W'=>(∃E,E.map (·.1)=nms∧J E W')∨(∃pre,True∧Jx pre W')):=by
  refine QK.of_G m func171 O ntmps171 results171 (by simp) ?_;have hw:=hr.ext hf;have hy:=ht.ext hf;refine QY<|QJ (by rfl) (by rfl) ?_;refine x (Qa O)<|x (Qd hw O O)<|x (Qd hy O O)<|QkF hX.arr O O hi λv9 hm=>x (Qs hm O)<|Qb<|xe ?_;have hz:(qs.take i).length=i:=by simp;omega
  have hS:Zs L w.heap v9 (qs.take i).length 3 ((qs.take i).flatMap Zw):=by
   rw[hz,←Qg5 Zw 3 JE];exact hm
  refine ZI<|Ui (α:=Nat×List { x:ByteArray // x∈nms }) [(5,5),(11,20)] (λz=>[(11,.int .i64 z.1)]) (λz ds W'=>ds=[]∧z.1≤i∧Step L w W'∧z.2.map (·.1)=nms.take z.1∧J z.2 W') (λz=>i - z.1) (by rfl) (0,[]) Z
   ⟨O,Ll _,hf.any,O,h0⟩ ?_
  rintro ⟨k,E⟩ g ds w1 ⟨rfl,hk,ho,V,hg⟩;simp only[] at hk V hg;refine QY<|QJ (by rfl) (by rfl) ?_;refine x (QB O O)<|xe<|QY<|yu O (λhh=>?_) (λhh=>?_)
  ·refine Kp ?_;have hD:i≤k:=by have ha:¬(k:Int)<(i:Int):=hh;omega
   rw[Lo (by omega)] at V;exact ⟨λ_ h=>(by cases h),MH,[],λW' G=>⟨U,.inl ⟨E,V,ab hg G⟩⟩⟩
  refine Yg ?_;have h2:k<i:=by have ha:(k:Int)<(i:Int):=hh;omega
  have hb:k<(qs.take i).length:=by omega
  have hc:k<nms.length:=by omega
  have hl:nms.take (k+1)=nms.take k++[nms[k]'hc]:=Li hc;have hE:E.length=k:=by have:=congrArg List.length V;rw[Le,Lx] at this;omega
  have h3:nms[k]'hc=((qs.take i)[k]'hb).nm:=by subst hn;simp
  have Y:=Lc hc;rw[h3] at hl Y;refine QY<|ZI<|QY<|QJ (by rfl) (by rfl) ?_;refine xig JE (i:=k) (hS.st ho) O O hb λhF ha=>?_;refine Zc ((qs.take i)[k]'hb) λq hq=>?_;rw[hq] at ha hl Y;have h4:=(hX.each q (LT (by rw[←hq];exact Lc hb))).one
  refine x (QI ha O O)<|xl O<|Qt (us:=[.string .empty,nS,.int .i64 0]) O λb5 w2 h5 h6 h7=>xl O<|Qo (us:=Zw q) h7 O O O O ⟨O,h4,O,U⟩ λw3 h8 h9=>xe ?_;have hp:Step [] w1 w3:=h5.then1 h8 h6;refine QY<|KC (by rfl) ?_;refine XW.pre3 ?_;refine Qb<|x (Qa O)<|x (Qd h9 O O)<|xe ?_
  refine xy (l:=l) O (hY E ⟨q.nm,Y⟩ w3 (ab hg hp) (by omega)) λen W3 hA=>Or.elim hA (λh1=>⟨.bool true,h1.1,?_⟩) (λh1=>⟨.bool false,h1.1,?_⟩)
  ·refine XW.of_XL<|x (Zm O)<|xe<|KD O<|Yg ?_;refine QJ (by rfl) (by rfl) ?_;refine QO O O<|Qb<|xe ?_;exact ⟨(k+1,E++[⟨q.nm,Y⟩]),by simp only[];omega,Z,O,h2,(ho.trans hp).lw h1.2.2,by rw[hl,Lu,V];rfl,h1.2.1⟩
  refine XW.of_XL<|x (Zm O)<|xe<|jE O ?_;refine Ko ⟨λ_ h=>(by cases h),MH,[],λW' G=>⟨U,.inr ⟨E++[⟨q.nm,Y⟩],U,?_⟩⟩⟩;exact hv _ W3 W' none h1.2 ⟨G.os,G.tape,G.output,G.size,λk hk _=>G.block k hk (by simp)⟩ (λr e=>by cases e)
 refine (callsIn_wide (n:=m)).2 ?_;have ea:(#[.func (.yield l) #[] #[]]++[.pointer (some ⟨H,0,none⟩),.pointer (some ⟨I,0,none⟩)].toArray:Array Value)=[.func (.yield l) #[] #[],.pointer (some ⟨H,0,none⟩),.pointer (some ⟨I,0,none⟩)].toArray:=by simp
 rw[ea];unfold QK at key;refine Calls.mono key λe w' he=>?_;cases e with
 | returned v=>exact ⟨⟨v,O⟩,he⟩
 | panicked c=>exact he.elim
 | outgrown=>exact he.elim
set_option maxHeartbeats 4000000 in
theorem qR {w:World}{vs vx vk:Value}{sz:LI}{qx:List XV}{ks:List KV}(hS:QL [] w.heap vs sz) (hX:zm [] w.heap vx qx) (hK:zg [] w.heap vk ks) :
  QK prog 97 [.agg #[vs,vx,vk]] w λr w'=>r=.int .i64 (YH sz (qx.map (·.x)) (ks.map (·.k)))∧Step [] w w':=by
 have ga:=hS.le;have gb:=hX.arr.le;have gc:=hK.arr.le;refine QK.of_W func97 O ntmps97 results97 (by simp) ?_;refine Qc<|xl O<|QS (us:=[vs,vx,vk]) O λb1 w1 G ge Y=>Qe<|Qf<|Qc<|x (Qa O)<|x (Qd Y O O)<|x (Qs (hS.ext G) O)<|x (ZR O O)<|xe<|Q7 rfl (λh3=>?_) (λh3=>?_)
 ·refine Qc<|Qe ?_;exact Qn ⟨[_],Z,by unfold YH;rw[if_pos (by have hR:(8:Int)<(sz.length:Int):=h3;omega)];rfl,G⟩
 have h1:¬8<sz.length:=by have hR:¬(8:Int)<(sz.length:Int):=h3;omega
 refine Qi<|Qf<|Qc<|x (Qa O)<|x (Qd Y O O)<|x (Qs (hS.ext G) O)<|Qb<|xe<|Qh<|QA (α:=Nat) [(2,2),(4,4),(22,32)] (λz=>[(22,.int .i64 z)]) (λz w'=>z≤sz.length∧w'=w1∧(sz.drop z).any JS=sz.any JS) (λz=>sz.length - z) (by rfl) 0 Z
  ⟨Ll _,O,O⟩ ?_
 rintro k g w2 ⟨hk,rfl,hc⟩;refine Qc<|x (QB O O)<|xe<|Qf<|QG O (λh4=>?_) (λh4=>?_)
 ·refine Qz ?_;have hm:sz.length≤k:=by have h2:¬(k:Int)<(sz.length:Int):=h4;omega
  rw[Lr hm] at hc;have h5:¬sz.any JS=true:=by rw[←hc];decide
  refine Qf<|QT (α:=Bool) [(33,42)] (λz=>[(42,.bool z)]) (λz w'=>w'=w2∧z=decide (32<qx.length∨32<ks.length)) (by rfl) ?_ ?_
  ·refine Qy<|x (Qa O)<|x (Qd Y O O)<|x (Qs (hX.ext G).arr O)<|xb (ZR O O) (λhT=>?_) (λhT=>?_)
   ·refine Qb<|xs O<|xs O<|xs O<|xs O<|x (Ql O)<|xe ?_;exact ⟨_,Z,O,by first | exact bT (by omega) | exact bF (by omega) | exact bD (by omega)⟩
   refine Qb<|x (Qa O)<|x (Qd Y O O)<|x (Qs (hK.ext G).arr O)<|x (ZR O O)<|x (Ql O)<|xe ?_;exact ⟨_,Z,O,by first | exact bT (by omega) | exact bF (by omega) | exact bD (by omega)⟩
  rintro z g w3 ⟨rfl,rfl⟩;refine Q7 O (λh6=>?_) (λh6=>?_)
  ·refine Qc<|Qe ?_;exact Qn ⟨[_],Z,by unfold YH;rw[if_neg h1,if_neg h5,if_pos (by simpa using h6)];rfl,G⟩
  have hO:¬(32<(qx.map (·.x)).length∨32<(ks.map (·.k)).length):=by simpa using h6
  have hP:Yf sz [] (qx.map (·.x))≠0→YH sz (qx.map (·.x)) (ks.map (·.k))=Yf sz [] (qx.map (·.x)):=λh=>by
   unfold YH;rw[if_neg h1,if_neg h5,if_neg hO,if_pos h]
  have hU:Yf sz [] (qx.map (·.x))=0→YH sz (qx.map (·.x)) (ks.map (·.k))=YQ sz [] (ks.map (·.k)):=λh=>by
   unfold YH;rw[if_neg h1,if_neg h5,if_neg hO,if_neg (by rw[h];exact λh=>h O)]
  refine Qi<|Qf<|Qc<|x (Qa O)<|x (Qd (Y.ext (Step.refl [] w3)) O O)<|x (Qs ((hX.ext G).ext (Step.refl [] w3)).arr O)<|Qb<|xe<|Qh<|QA (α:=Nat) [(2,2),(5,9),(46,65)] (λz=>[(46,.int .i64 z)]) (λz w'=>z≤qx.length∧Step [] w3 w'∧Yf sz ((qx.take z).map (·.nm)) ((qx.drop z).map (·.x))=Yf sz [] (qx.map (·.x))) (λz=>qx.length - z) (by rfl) 0 Z
   ⟨Ll _,(Step.refl [] w3),O⟩ ?_
  rintro k g wA ⟨hk,H,I⟩;refine Qc<|x (QB O O)<|xe<|Qf<|QG O (λhe=>?_) (λhe=>?_)
  ·refine Qz ?_;have hm:qx.length≤k:=by have h7:¬(k:Int)<(qx.length:Int):=he;omega
   rw[Lr hm] at I;have hV:Yf sz [] (qx.map (·.x))=0:=I.symm;have h8:=hU hV;refine Qf<|Qc<|x (Qa O)<|x (Qd (Y.ext H) O O)<|x (Qs ((hK.ext G).ext H).arr O)<|Qb<|xe ?_
   refine Qh<|QA (α:=Nat) [(2,2),(10,14),(69,88)] (λz=>[(69,.int .i64 z)]) (λz w'=>z≤ks.length∧Step [] w3 w'∧YQ sz ((ks.take z).map (·.nm)) ((ks.drop z).map (·.k))=YQ sz [] (ks.map (·.k))) (λz=>ks.length - z) (by rfl) 0 Z
    ⟨Ll _,H,O⟩ ?_
   rintro k g wA ⟨hk,H,I⟩;refine Qc<|x (QB O O)<|xe<|Qf<|QG O (λhe=>?_) (λhe=>?_)
   ·refine Qz ?_;have hm:ks.length≤k:=by have h7:¬(k:Int)<(ks.length:Int):=he;omega
    rw[Lr hm] at I;have hW:YQ sz [] (ks.map (·.k))=0:=I.symm;refine Qc<|Qe ?_;exact Qn ⟨[_],Z,by rw[h8,hW];rfl,G.trans H⟩
   have E:k<ks.length:=by have h7:(k:Int)<(ks.length:Int):=he;omega
   have ho:(ks.take (k+1)).map (·.nm)=(ks.take k).map (·.nm)++[(ks[k]'E).nm]:=by rw[Li E,Lu];rfl
   rw[QX E,LO] at I;have hf:=Lc E;have J:=(hK.ext G).ext H;have h9:=Y.ext H;refine Qi<|Qf<|Qh<|Qc<|Qb<|xig JE J.arr O O E λaA hA=>?_;refine Zc (ks[k]'E) λq hq=>?_;rw[hq] at hA I ho hf;have hp:=J.each q hf
   refine x (QI hA O O)<|xl O<|Qt (us:=[.int .i64 0]) O λb5 w3 hr hB hg=>xl O<|Qt (us:=[.string .empty,nS,.int .i64 0]) O λb6 w4 ht hY hC =>
    xl rfl<|QF (j:=0) (u:=.int .i64 k) (hg.ext ht) O O (by decide) O λw5 hu hD=>xl O<|Qo (us:=Zw q) (hC.step hu (by have:=hg.lt;simp;omega)) O O O O ⟨O,hp.one,O,U⟩ λw6 hv hw=>xe ?_
   have hZ:b5<b6:=by have:=hg.lt;omega
   have hh:Step [] wA w6:=((hr.trans ht).then1 hu hB).then1 hv (by have:=hr.size;omega);have hE:QZ w6.heap b5 3 [.int .i64 k]:=hD.step hv (by simp;omega);have hy:=h9.ext hh;have hF:=J.ext hh
   refine Qc<|x Zq<|Qe<|Qf<|Qc<|x (Qa O)<|x (Qd hw O O)<|Qb<|xl O<|xf<|(Qc6 (nms:=(ks.take k).map (·.nm)) (capt:=[.pointer (some ⟨b1,0,none⟩),.pointer (some ⟨b5,0,none⟩)]) (J.nm q hf) (λw' L hj hL=>Qhx (hy.ext hj) (hE.ext hj) ((hF.up (λb hb=>.inr (hL b hb))).ext hj) hk O)).mono ?_;rintro r7 w7 ⟨rfl,hl⟩;refine Qe ?_;have S:=hh.trans hl;refine Qc<|Qb<|x (Q9 O O)<|xe ?_
   refine Q7 O (λha=>?_) (λha=>?_)
   ·have e1:YQ sz [] (ks.map (·.k))=Kj ((ks.take k).map (·.nm)) q.nm:=by rw[←I];exact if_pos ha
    refine Qc<|Qb<|Qe ?_;exact Qn ⟨[_],Z,by rw[h8,e1];rfl,G.trans (H.trans S)⟩
   have hz:(if Yw sz q.k≠0 then Yw sz q.k else YQ sz ((ks.take k).map (·.nm)++[q.nm]) ((ks.drop (k+1)).map (·.k)))=YQ sz [] (ks.map (·.k)):=by rw[←I];exact (if_neg ha).symm
   refine Qi ?_;have hG:=hy.ext hl;have hH:=hw.ext hl;refine Qc<|x (Qr hG O O)<|x (Qr hH O O)<|xl O<|xf<|(K2 (((hS.ext G).ext H).ext S) (hp.ext S)).mono ?_;rintro r8 w8 ⟨rfl,hI⟩;refine Qe ?_;have h0:=S.trans hI;refine Qc<|Qb<|x (Q9 O O)<|xe<|Q7 O (λV=>?_) (λV=>?_)
   ·have e1:YQ sz [] (ks.map (·.k))=Yw sz q.k:=by rw[←hz];exact if_pos V
    have hQ:Yw sz q.k≠0:=V;refine Qc<|Qb<|Qe ?_;exact Qn ⟨[_],Z,by rw[h8,e1];rfl,G.trans (H.trans h0)⟩
   have hJ:YQ sz ((ks.take k).map (·.nm)++[q.nm]) ((ks.drop (k+1)).map (·.k))=YQ sz [] (ks.map (·.k)):=by rw[←hz];exact (if_neg V).symm
   refine Qi<|Qy<|QO O O<|Qb<|xe ?_;exact ⟨k+1,by omega,Z,E,H.trans h0,by rw[ho];exact hJ⟩
  have E:k<qx.length:=by have h7:(k:Int)<(qx.length:Int):=he;omega
  have ho:(qx.take (k+1)).map (·.nm)=(qx.take k).map (·.nm)++[(qx[k]'E).nm]:=by rw[Li E,Lu];rfl
  rw[QX E,LO] at I;have hf:=Lc E;have J:=(hX.ext G).ext H;have h9:=Y.ext H;refine Qi<|Qf<|Qh<|Qc<|Qb<|xig JZ J.arr O O E λaA hA=>?_;refine Zc (qx[k]'E) λq hq=>?_;rw[hq] at hA I ho hf;have hp:=J.each q hf;refine x (QI hA O O)<|xl O<|Qt (us:=[.int .i64 0]) O λb5 w3 hr hB hg=>xl O<|Qt (us:=[.string .empty,nS]) O λb6 w4 ht hY hC =>
   xl rfl<|QF (j:=0) (u:=.int .i64 k) (hg.ext ht) O O (by decide) O λw5 hu hD=>xl O<|Qo (us:=Zu q) (hC.step hu (by have:=hg.lt;simp;omega)) O O O O ⟨O,hp.one,U⟩ λw6 hv hw=>xe ?_
  have hZ:b5<b6:=by have:=hg.lt;omega
  have hh:Step [] wA w6:=((hr.trans ht).then1 hu hB).then1 hv (by have:=hr.size;omega);have hE:QZ w6.heap b5 3 [.int .i64 k]:=hD.step hv (by simp;omega);have hy:=h9.ext hh;have hF:=J.ext hh
  refine Qc<|x Zq<|Qe<|Qf<|Qc<|x (Qa O)<|x (Qd hw O O)<|Qb<|xl O<|xf<|(Qc6 (nms:=(qx.take k).map (·.nm)) (capt:=[.pointer (some ⟨b1,0,none⟩),.pointer (some ⟨b5,0,none⟩)]) (J.nm q hf) (λw' L hj hL=>Qhj (hy.ext hj) (hE.ext hj) ((hF.up (λb hb=>.inr (hL b hb))).ext hj) hk O)).mono ?_;rintro r7 w7 ⟨rfl,hl⟩;refine Qe ?_;have S:=hh.trans hl;refine Qc<|Qb<|x (Q9 O O)<|xe ?_
  refine Q7 O (λha=>?_) (λha=>?_)
  ·have e1:Yf sz [] (qx.map (·.x))=Kj ((qx.take k).map (·.nm)) q.nm:=by rw[←I];exact if_pos ha
   refine Qc<|Qb<|Qe ?_;exact Qn ⟨[_],Z,by rw[hP (by rw[e1];exact ha),e1];rfl,G.trans (H.trans S)⟩
  have hz:(if X8 sz q.ls≠0 then X8 sz q.ls else Yf sz ((qx.take k).map (·.nm)++[q.nm]) ((qx.drop (k+1)).map (·.x)))=Yf sz [] (qx.map (·.x)):=by rw[←I];exact (if_neg ha).symm
  refine Qi ?_;have hG:=hy.ext hl;have hH:=hw.ext hl;refine Qc<|x (Qr hG O O)<|x (Qr hH O O)<|xl O<|xf<|(VN (((hS.ext G).ext H).ext S) (hp.ext S)).mono ?_;rintro r8 w8 ⟨rfl,hI⟩;refine Qe ?_;have h0:=S.trans hI;refine Qc<|Qb<|x (Q9 O O)<|xe<|Q7 O (λV=>?_) (λV=>?_)
  ·have e1:Yf sz [] (qx.map (·.x))=X8 sz q.ls:=by rw[←hz];exact if_pos V
   have hQ:X8 sz q.ls≠0:=V;refine Qc<|Qb<|Qe ?_;exact Qn ⟨[_],Z,by rw[hP (by rw[e1];exact hQ),e1];rfl,G.trans (H.trans h0)⟩
  have hJ:Yf sz ((qx.take k).map (·.nm)++[q.nm]) ((qx.drop (k+1)).map (·.x))=Yf sz [] (qx.map (·.x)):=by rw[←hz];exact (if_neg V).symm
  refine Qi<|Qy<|QO O O<|Qb<|xe ?_;exact ⟨k+1,by omega,Z,E,H.trans h0,by rw[ho];exact hJ⟩
 have E:k<sz.length:=by have h2:(k:Int)<(sz.length:Int):=h4;omega
 rw[QX E,Nw] at hc;refine Qi<|Qf<|Qh<|Qc<|xii (hS.ext G) O O E λgg h2=>?_;refine Zc (sz[k]'E) λn hn=>?_;rw[hn] at h2 hc;refine x (Qw h2 O)<|Qe<|QT (α:=Bool) [(26,31)] (λz=>[(31,.bool z)]) (λz w'=>w'=w2∧z=JS n) (by rfl) ?_ ?_
 ·refine Qy<|Qb<|xb (QB O O) (λhM=>?_) (λhM=>?_)
  ·refine Qb<|xs O<|xs O<|x (Ql O)<|xe ?_;exact ⟨_,Z,O,by unfold JS;rw[decide_eq_true hM];rfl⟩
  refine Qb<|Qb<|x (ZR O O)<|x (Ql O)<|xe ?_;exact ⟨_,Z,O,by unfold JS;rw[decide_eq_false hM];rfl⟩
 rintro z g w3 ⟨rfl,rfl⟩;refine Q3 rfl (λhN=>?_) (λhN=>?_)
 ·refine Qc<|Qe ?_;exact Qn ⟨[_],Z,by unfold YH;rw[if_neg h1,if_pos (by rw[←hc,hN];rfl)];rfl,G⟩
 rw[hN,Bool.false_or] at hc;refine Qi<|Qy<|QO O O<|Qb<|xe ?_;exact ⟨k+1,by omega,Z,E,O,hc⟩
theorem ZT {α:Type}(q:α→Bool) (i:Nat) (a:α) (l:List α):fix q i (a::l)=if q a=true then (i:Int) else fix q (i+1) l:=rfl
theorem QbZ {α:Type}(q:α→Bool):∀(l:List α) (i:Nat),fix q i l=-1∨((i:Int)≤fix q i l∧fix q i l<(i:Int)+l.length)
 | [],i=>.inl O
 | a::l,i=>by
  rw[ZT];split
  ·right;simp only[List.length_cons];omega
  rcases QbZ q l (i+1) with h | h
  ·exact .inl h
  right;simp only[List.length_cons];omega
theorem VF {α:Type}(q:α→Bool):∀(l:List α) (i:Nat),decide (0≤fix q i l)=l.any q
 | [],i=>rfl
 | a::l,i=>by
  rw[ZT,Nw];cases h:q a with
  | true=>rw[if_pos rfl];simp
  | false=>rw[if_neg (by decide),VF q l (i+1)];rfl
theorem qO {α:Type}(q:α→Bool) (m:List α):∀(l:List α) (i:Nat),fix q i (l++m)=if 0≤fix q i l then fix q i l else fix q (i+l.length) m
 | [],i=>by
  show fix q i m=if (0:Int)≤-1 then (-1) else fix q i m
  rw[if_neg (by decide)]
 | a::l,i=>by
  rw[Mm,ZT,ZT];by_cases h:q a=true
  ·rw[if_pos h,if_pos h,if_pos (by omega)]
  rw[if_neg h,if_neg h,qO q m l (i+1),LJ];rw[show i+1+l.length=i+(l.length+1) by omega]
theorem yc {α:Type}(q:α→Bool) (d:Nat):∀(l:List α) (i:Nat),fix q (i+d) l=if 0≤fix q i l then fix q i l+d else -1
 | [],i=>rfl
 | a::l,i=>by
  rw[ZT,ZT];by_cases h:q a=true
  ·rw[if_pos h,if_pos h,if_pos (by omega)];omega
  rw[if_neg h,if_neg h,show i+d+1=(i+1)+d by omega,yc q d l (i+1)]
theorem Kx {α β:Type}(q:β→Bool) (g:α→β):∀(l:List α) (i:Nat),fix q i (l.map g)=fix (λa=>q (g a)) i l
 | [],i=>rfl
 | a::l,i=>by rw[LO,ZT,ZT,Kx q g l (i+1)]
theorem Qew {α:Type}{q q':α→Bool}:∀{l:List α}{i:Nat},(∀a∈l,q a=q' a)→fix q i l=fix q' i l
 | [],i,_=>rfl
 | a::l,i,h=>by rw[ZT,ZT,h a Lm,Qew (λb hb=>h b (Lk _ hb))]
theorem QlD {gp:Nat}{fn:Func}[Fu prog gp fn] {cap:LV}{q:(Int×Int)→Bool}{L:LN}{w:World}{v:Value}{l:List (Int×Int)}(h:Zs L w.heap v l.length 2 (l.flatMap QQ))
  (hk:∀e∈l,∀(G:World),Step [] w G→QK prog gp ([.agg (QQ e).toArray]++cap) G λr w'=>r=.bool (q e)∧Step [] G w') :
  QK prog 287 [v,.func (.func gp) #[] cap.toArray] w λr w'=>r=.int .i64 (fix q 0 l)∧Step [] w w':=by
 have hc:=h.le;refine QK.of_W func287 O ntmps287 results287 (by simp) ?_;refine Qc<|Qe<|Qf<|Qc<|Qb<|x (Qs h O)<|Qb<|xe<|Qh<|QA (α:=Nat) [(4,5),(8,18)] (λz=>[(8,.int .i64 z)]) (λz w'=>z≤l.length∧Step [] w w'∧fix q z (l.drop z)=fix q 0 l) (λz=>l.length - z) (by rfl) 0 Z
  ⟨Ll _,Step.refl _ _,O⟩ ?_
 rintro k g G ⟨hf,H,E⟩;refine Qc<|x (QB O O)<|xe<|Qf<|QG O (λh9=>?_) (λh9=>?_)
 ·refine Qz ?_;have ha:l.length≤k:=by have hb:¬(k:Int)<(l.length:Int):=h9;omega
  rw[Lr ha] at E;refine Qc<|Qe ?_;exact Qn ⟨[_],Z,by rw[←E];rfl,H⟩
 have I:k<l.length:=by have hb:(k:Int)<(l.length:Int):=h9;omega
 rw[QX I,ZT] at E;have S:=Lc I;refine Qi<|Qf<|Qh<|Qc<|Qb<|Qe<|Qc<|Qb<|Qb<|Qb<|xig YX (h.ext H) O O I λhg V=>?_;refine Zc (l[k]'I) λe he=>?_;rw[he] at V E S;refine x (QI V O O)<|xl O<|xc (first:=[]) (capt:=cap) O<|(hk e S G H).mono ?_;rintro r2 w2 ⟨rfl,Y⟩;refine xe<|Q3 rfl (λJ=>?_) (λJ=>?_)
 ·rw[if_pos J] at E;refine Qc<|Qb<|Qe ?_;exact Qn ⟨[_],Z,by rw[←E];rfl,H.trans Y⟩
 rw[if_neg (by rw[J];decide)] at E;refine Qi<|Qy<|QO O O<|Qb<|xe ?_;exact ⟨k+1,by omega,Z,I,H.trans Y,E⟩
theorem Ql4 {gp:Nat}{fn:Func}[Fu prog gp fn] {cap:LV}{q:(Int×Int)→Bool}{L:LN}{w:World}{v:Value}{l:List (Int×Int)}(h:Zs L w.heap v l.length 2 (l.flatMap QQ))
  (hk:∀e∈l,∀(E:World),Step [] w E→QK prog gp ([.agg (QQ e).toArray]++cap) E λr w'=>r=.bool (q e)∧Step [] E w') :
  QK prog 260 [v,.func (.func gp) #[] cap.toArray] w λr w'=>r=.bool (l.any q)∧Step [] w w':=by
 refine QK.of_W func260 O ntmps260 results260 (by simp) ?_;refine Qc<|Qe<|Qc<|Qb<|Qb<|xl O<|xf<|(QlD h hk).mono ?_;rintro H E ⟨rfl,G⟩;refine x (ZV O O)<|Qe ?_;exact Qn ⟨[_],Z,congrArg Value.bool (VF q l 0),G⟩
theorem JH (sz:LI):∀(ls:List (Int×Int)) (pr:Option Int),Yv sz pr ls=0→(∀p∈ls,0≤p.1∧p.1<(sz.length:Int))∧Z0 (ls.map (·.1))∧∀y,pr=some y→∀p∈ls,y<p.1
 | [],pr,_=>⟨λp hp=>(by cases hp),List.Pairwise.nil,λy _ p hp=>(by cases hp)⟩
 | l::ls,pr,h=>by
  unfold Yv at h;split at h
  ·cases h
  rename_i h1;split at h
  ·cases h
  rename_i h2;split at h
  ·cases h
  obtain ⟨G,h5,H⟩:=JH sz ls (some l.1) h;have E:=H l.1 O;refine ⟨λp hp=>?_,L0.2 ⟨λx hx=>?_,h5⟩,λy hy p hp=>?_⟩
  ·rcases Lb.1 hp with rfl | hp
   ·omega
   exact G p hp
  ·obtain ⟨p,hp,rfl⟩:=Lp.1 hx;exact E p hp
  subst hy;have I:¬l.1≤y:=λe=>h2 (decide_eq_true e);rcases Lb.1 hp with rfl | hp
  ·omega
  have:=E p hp;omega
theorem JG (sz:LI):∀(ls:List (Int×Int)) (pr:Option Int),YT sz pr ls=0→(∀p∈ls,0≤p.1∧p.1<(sz.length:Int)∧-65536≤p.2∧p.2≤65536)∧Z0 (ls.map (·.1))∧∀y,pr=some y→∀p∈ls,y<p.1
 | [],pr,_=>⟨λp hp=>(by cases hp),List.Pairwise.nil,λy _ p hp=>(by cases hp)⟩
 | l::ls,pr,h=>by
  unfold YT at h;split at h
  ·cases h
  rename_i h1;split at h
  ·cases h
  rename_i h2;split at h
  ·cases h
  rename_i h3;obtain ⟨G,h5,H⟩:=JG sz ls (some l.1) h;have E:=H l.1 O;have h9:grt l.2=false:=by cases I:grt l.2 with | true=>exact absurd (.inr I) h3 | false=>rfl
  unfold grt at h9;simp only[Bool.or_eq_false_iff,decide_eq_false_iff_not] at h9;refine ⟨λp hp=>?_,L0.2 ⟨λx hx=>?_,h5⟩,λy hy p hp=>?_⟩
  ·rcases Lb.1 hp with rfl | hp
   ·omega
   exact G p hp
  ·obtain ⟨p,hp,rfl⟩:=Lp.1 hx;exact E p hp
  subst hy;have J:¬l.1≤y:=λe=>h2 (decide_eq_true e);rcases Lb.1 hp with rfl | hp
  ·omega
  have:=E p hp;omega
theorem Uq (sz:LI):∀(l:List jF) (sn:List ByteArray),Yf sz sn l=0→∀x∈l,X8 sz x.ls=0
 | [],_,_,x,hx=>by cases hx
 | a::l,sn,h,x,hx=>by
  unfold Yf at h;split at h
  ·rename_i h1;exact absurd h h1
  split at h
  ·rename_i h1;exact absurd h h1
  rename_i h1;rcases Lb.1 hx with rfl | hx
  ·exact Ls.1 h1
  exact Uq sz l _ h x hx
theorem Us (sz:LI):∀(l:List Xr) (sn:List ByteArray),YQ sz sn l=0→∀x∈l,Yw sz x=0
 | [],_,_,x,hx=>by cases hx
 | a::l,sn,h,x,hx=>by
  unfold YQ at h;split at h
  ·rename_i h1;exact absurd h h1
  split at h
  ·rename_i h1;exact absurd h h1
  rename_i h1;rcases Lb.1 hx with rfl | hx
  ·exact Ls.1 h1
  exact Us sz l _ h x hx
structure Qn1 (sz:LI) (ex:List jF) (cs:List Xr):Prop where
 s8:sz.length≤8
 s:∀n∈sz,1≤n∧n≤4096
 xl:ex.length≤32
 kl:cs.length≤32
 x:∀e∈ex,∀p∈e.ls,0≤p.1∧p.1<(sz.length:Int)
 k:∀e∈cs,(∀p∈e.ts,0≤p.1∧p.1<(sz.length:Int)∧-65536≤p.2∧p.2≤65536)∧e.ts.length≤8
theorem Ut {sz:LI}{ex:List jF}{cs:List Xr}(h:YH sz ex cs=0):Qn1 sz ex cs:=by
 unfold YH at h;split at h
 ·cases h
 rename_i I;split at h
 ·cases h
 rename_i hs;split at h
 ·cases h
 rename_i J;split at h
 ·rename_i hx;exact absurd h hx
 rename_i hx;have E:=Ls.1 hx;refine ⟨by omega,λn G=>?_,by omega,by omega,λe he p hp=>?_,λe he=>?_⟩
 ·have h1:JS n=false:=by
   cases hb:JS n with
   | false=>rfl
   | true=>exact absurd (Mr.2 ⟨n,G,hb⟩) hs
  unfold JS at h1;simp only[Bool.or_eq_false_iff,decide_eq_false_iff_not] at h1;omega
 ·have h1:=Uq sz ex [] E e he;unfold X8 at h1;split at h1
  ·cases h1
  exact (JH sz e.ls none h1).1 p hp
 have h1:=Us sz cs [] h e he;unfold Yw at h1;split at h1
 ·cases h1
 split at h1
 ·rename_i h2;exact absurd h1 h2
 rename_i h2;obtain ⟨h3,H,_⟩:=JG sz e.ts none (Ls.1 h2);refine ⟨h3,?_⟩;have:=Go.Proofs.YtdffckgdcegpaaaGreatDoor.pig sz.length (e.ts.map (·.1)) (List.Pairwise.imp (λ{a b} (h:a<b)=>(by omega:a≠b)) H) (λx hx=>by
  obtain ⟨p,hp,rfl⟩:=Lp.1 hx;exact ⟨(h3 p hp).1,(h3 p hp).2.1⟩)
 rw[Le] at this;omega
def Qkb (sz t:LI):Prop:=t.length=sz.length∧∀i,i<t.length→0≤cget t i∧cget t i<cget sz i
theorem QdY (t:LI) (p:Int×Int) (l:List (Int×Int)) (s:Int):(l++[p]).foldl (λs p=>s+p.2*t.getD p.1.toNat 0) s=l.foldl (λs p=>s+p.2*t.getD p.1.toNat 0) s+p.2*cget t p.1.toNat:=by
 rw[Mx];rfl
theorem Qe4 {w:World}{vl vt:Value}{nm:ByteArray}{ts:List (Int×Int)}{bd:Int}{t:LI}(hl:P2s [] w.heap vl ts) (ht:QL [] w.heap vt t)
  (hh:∀p∈ts,0≤p.1∧p.1<(t.length:Int)∧-65536≤p.2∧p.2≤65536) (h8:ts.length≤8) (hj:∀i,i<t.length→0≤cget t i∧cget t i≤4096) :
  QK prog 263 [.agg #[.string nm,vl,.int .i64 bd],vt] w λr w'=>r=.int .i64 (QkQ t ⟨nm,ts,bd⟩)∧Step [] w w':=by
 refine QK.of_W func263 O ntmps263 results263 (by simp) ?_;refine Qc<|xl O<|QS (us:=[.string nm,vl,.int .i64 bd]) O λb2 w1 Y hz hm=>Qe<|Qc<|Qe<|Qf<|Qc<|x (Qa O)<|x (Qd hm O O)<|x (Qs (hl.ext Y) O)<|Qb<|xe ?_
 refine Qh<|QA (α:=Nat×Int) [(5,5),(7,7),(11,25)] (λz=>[(5,.int .i64 z.2),(11,.int .i64 z.1)]) (λz w'=>z.1≤ts.length∧Step [] w w'∧z.2=(ts.take z.1).foldl (λs p=>s+p.2*t.getD p.1.toNat 0) 0∧-(268435456*(z.1:Int))≤z.2∧z.2≤268435456*(z.1:Int)) (λz=>ts.length - z.1) (by rfl) (0,0) ⟨O,O,U⟩
  ⟨Ll _,Y,O,by simp only[];omega,by simp only[];omega⟩ ?_
 rintro ⟨k,s⟩ g w2 ⟨hk,J,G,hn,ho⟩;simp only[] at hk G hn ho;refine Qc<|x (QB O O)<|xe<|Qf<|QG O (λS=>?_) (λS=>?_)
 ·refine Qz ?_;have hp:ts.length≤k:=by have H:¬(k:Int)<(ts.length:Int):=S;omega
  rw[Lo hp] at G;refine Qc<|Qb<|Qe ?_;exact Qn ⟨[_],Z,by rw[G];rfl,J⟩
 have E:k<ts.length:=by have H:(k:Int)<(ts.length:Int):=S;omega
 have V:=hh _ (Lc E);have ha:ts.take (k+1)=ts.take k++[ts[k]'E]:=Li E;refine Qi<|Qf<|Qh<|Qc<|xig YX (hl.ext J) O O E λh0 H=>?_;refine Zc (ts[k]'E) λe he=>?_;rw[he] at H V ha;refine x (QI H O O)<|xl O<|Qt (us:=[.int .i64 0,.int .i64 0]) O λb7 w3 hq hr I=>xl O<|Qo (us:=QQ e) I O O O O ⟨O,O,U⟩ λw4 hu I=>xe ?_
 have hv:Step [] w2 w4:=hq.then1 hu hr;have hb:=J.trans hv;have hw:e.1=((e.1.toNat:Nat):Int):=by omega
 have hf:e.1.toNat<t.length:=by omega
 have hg:=hj _ hf;have h3:-268435456≤e.2*cget t e.1.toNat∧e.2*cget t e.1.toNat≤268435456:=by
  have h1:(-65536)*cget t e.1.toNat≤e.2*cget t e.1.toNat:=Int.mul_le_mul_of_nonneg_right V.2.2.1 hg.1;have h2:e.2*cget t e.1.toNat≤65536*cget t e.1.toNat:=Int.mul_le_mul_of_nonneg_right V.2.2.2 hg.1;omega
 refine Zc (e.2*cget t e.1.toNat) λpr h4=>?_;refine QW (Step [] w4) [(0,true),(1,true),(2,true),(3,true),(4,true),(5,true),(6,true),(7,true),(8,true),(9,true),(10,true)] mixed (by rfl) (by kernel_rfl) (Step.drew _ _) ?_;refine p (λ_=>Qp)<|p (λ_=>Qa O)<|pq (λ_ hc=>Qd (I.ext hc) O O)<|p (λ_=>Qp)<|p (λ_=>Qa O) <|
  pq (λ_ hc=>Qd (I.ext hc) O O)<|pic (i:=e.1.toNat) O (ht.ext hb) O (congrArg (Value.int .i64) hw) hf λh5 hy=>pq (λ_ hc=>Qw (hy.ext hc) O) <|
  p (λ_=>QfS O O ⟨by omega,by omega⟩)<|p (λ_=>Jk O O ⟨by omega,by omega⟩)<|p (λ_=>Qg)<|pe ?_
 refine Qy<|QO O O<|Qb<|xe<|⟨(k+1,s+e.2*cget t e.1.toNat),by simp only[];omega,⟨O,O,U⟩,E,hb.trans (Step.drew _ _),?_,by simp only[];omega,by simp only[];omega⟩;simp only[];rw[ha,QdY,←G]
theorem Qhh {w:World}{bt:Nat}{vt:Value}{t:LI}(H:QZ w.heap bt 37 [vt]) (ht:QL [] w.heap vt t) (e:Int×Int) (he:0≤e.1∧e.1<(t.length:Int)) :
  QK prog 261 ([.agg (QQ e).toArray]++[.pointer (some ⟨bt,0,none⟩)]) w λr w'=>r=.bool (!decide (t.getD e.1.toNat 0=e.2))∧Step [] w w':=by
 refine QK.of_W func261 O ntmps261 results261 (by simp) ?_;refine Qc<|xl O<|QS (us:=QQ e) O λY I E ha G=>Qe ?_;have J:e.1=((e.1.toNat:Nat):Int):=by omega
 have S:e.1.toNat<t.length:=by omega
 refine Qf<|QW (Step [] I) [(0,true),(1,true),(2,true),(3,true),(4,true),(5,true),(6,true),(7,true),(8,true)] mixed (by rfl) (by kernel_rfl) (Step.drew _ _) ?_;refine pq (λ_ hc=>Qd ((H.ext E).ext hc) O O)<|p (λ_=>Qa O)<|pq (λ_ hc=>Qd (G.ext hc) O O)<|pic (i:=e.1.toNat) O (ht.ext E) O (congrArg (Value.int .i64) J) S λa7 V =>
  pq (λ_ hc=>Qw (V.ext hc) O)<|p (λ_=>Qa O)<|pq (λ_ hc=>Qd (G.ext hc) O O)<|p (λ_=>Q9 O O) <|
  p (λ_=>Qg)<|pe ?_
 refine Qn ⟨[_],Z,?_,E.trans (Step.drew _ _)⟩;show Value.bool (decide (¬cget t e.1.toNat=e.2))=_;unfold cget;simp
theorem Qe2 (t:LI) (x:jF):(!(x.ls.any λl=>!decide (t.getD l.1.toNat 0=l.2)))=Jh t x:=by
 unfold Jh;induction x.ls with
 | nil=>rfl
 | cons a l ih=>rw[Nw,Md,←ih];cases decide (t.getD a.1.toNat 0=a.2) <;> simp
theorem QjH {w:World}{b:Nat}{q:XV}{vt:Value}{t:LI}(H:QZ w.heap b 122 (Zu q)) (hq:P2s [] w.heap q.v q.ls) (ht:QL [] w.heap vt t) (I:∀p∈q.ls,0≤p.1∧p.1<(t.length:Int)) :
  QK prog 259 ([vt]++[.pointer (some ⟨b,0,none⟩)]) w λr w'=>r=.bool (Jh t q.x)∧Step [] w w':=by
 refine QK.of_W func259 O ntmps259 results259 (by simp) ?_;refine Qc<|xl O<|QS (us:=[vt]) ht.cells λJ Y E ha S=>Qe<|Qc<|x (Qa O)<|x (Qd (H.ext E) O O)<|x Zq<|xl O<|xf<|(Ql4 (q:=λl=>!decide (t.getD l.1.toNat 0=l.2)) (cap:=[.pointer (some ⟨J,0,none⟩)]) (hq.ext E) (λe he V G=>Qhh (S.ext G) ((ht.ext E).ext G) e (I e he))).mono ?_;rintro r2 V ⟨rfl,G⟩;refine x (Zm O)<|Qe ?_
 exact Qn ⟨[_],Z,congrArg Value.bool (Qe2 t q.x),E.trans G⟩
theorem QjG {w:World}{b:Nat}{q:KV}{vt:Value}{t:LI}(E:QZ w.heap b 127 (Zw q)) (hq:P2s [] w.heap q.v q.ts) (ht:QL [] w.heap vt t)
  (H:∀p∈q.ts,0≤p.1∧p.1<(t.length:Int)∧-65536≤p.2∧p.2≤65536) (I:q.ts.length≤8) (J:∀i,i<t.length→0≤cget t i∧cget t i≤4096) :
  QK prog 262 ([vt]++[.pointer (some ⟨b,0,none⟩)]) w λr w'=>r=.bool (JT t q.k)∧Step [] w w':=by
 refine QK.of_W func262 O ntmps262 results262 (by simp) ?_;refine Qc<|Qe ?_;have hd:Step [] w { w with drawn:=w.drawn+1 }:=Step.drew _ _
 refine Qf<|QW (Step [] { w with drawn:=w.drawn+1 }) [(0,true),(1,true),(3,true),(4,true),(2,false),(5,true),(6,true)] mixed (by rfl) (by kernel_rfl) (Step.refl _ _) ?_
 refine pq (λ_ hc=>Qr ((E.ext hd).ext hc) O O)<|p (λ_=>Qp)<|p (λ_=>Qa O)<|pq (λ_ hc=>Qd ((E.ext hd).ext hc) O O)<|pk<|xf<|(Qe4 (hq.ext hd) (ht.ext hd) H I J).mono ?_;rintro S V ⟨rfl,G⟩;refine ⟨G,?_⟩;refine p (λ_=>ZR O O)<|p (λ_=>Qg)<|pe ?_;exact Qn ⟨[_],Z,O,hd.trans G⟩
end Go.Proofs.YtdffckgdcegpaaaGreatDoor
