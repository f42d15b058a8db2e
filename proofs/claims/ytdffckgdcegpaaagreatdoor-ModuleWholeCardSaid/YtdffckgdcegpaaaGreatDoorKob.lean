/- Merged out of 56 texts. -/
import Derived.Test.YtdffckgdcegpaaaGreatDoorKoa
import Derived.Laws.Strings
import Derived.RangeFuncNested
import Derived.RangeFuncLeaves
import Derived.RangeFuncCalls
import Derived.OrdersIn
import Derived.TacticsIn
namespace Go.Proofs.YtdffckgdcegpaaaGreatDoor
open Go.Proofs.Tryz
open Go.Lg
theorem Qlw {α:Type}(o:Option α):o=none∨∃t,o=some t:=by cases o;exact .inl O;exact .inr ⟨_,O⟩
def zA:Value:=.agg #[nS,.int .i64 0,nS,nS]
def Zf:Value:=nS
def Yf (N:Nat) (H:Array Obj) (aa:List QQ) (va vt:Value) (c:Int):Prop :=
 if KK aa≠0 then c=KK aa∧va=zA∧vt=Zf else match sync aa with
  | none=>c=3∧va=zA∧vt=Zf
  | some z=>c=0∧YO N H va z.1∧Qbd N H vt z.2
def Yn (s:Sy) (u:LI):Sy:=if u∈s.tup then s else ⟨s.tup++[u],s.mk',s.ed⟩
theorem QdX (s:Sy) (u:LI):(Yn s u).mk'=s.mk':=by unfold Yn;split <;> rfl
theorem QdY (s:Sy) (u:LI):(Yn s u).ed=s.ed:=by unfold Yn;split <;> rfl
theorem QgO {aa:List QQ}{i:Nat}{t u:LI}{s:Sy}{v:Int}(h:ZX v aa t=some u) (hl:u∈s.tup∨s.tup.length≠4096) :
  syE aa i t s v=some ⟨(Yn s u).tup,(Yn s u).mk',(Yn s u).ed++[((i:Int),v,((Yn s u).tup.idxOf u:Int))]⟩:=by
 unfold syE Yn;rw[h];simp only[];by_cases hu:u∈s.tup
 ·simp only[if_pos hu]
 simp only[if_neg hu];rw[if_neg (by rcases hl with h1 | h1;exact absurd h1 hu;exact h1),L2,if_neg hu];simp
theorem QdW {aa:List QQ}{i:Nat}{t u:LI}{s:Sy}{v:Int}(h:ZX v aa t=some u) (hu:u∉s.tup) (hl:s.tup.length=4096):syE aa i t s v=none:=by
 unfold syE;rw[h];simp only[];rw[if_neg hu,if_pos hl]
theorem QdU {aa:List QQ}{i:Nat}{t:LI}{s:Sy}{v:Int}(h:ZX v aa t=none):syE aa i t s v=some s:=by
 unfold syE;rw[h]
theorem Qks {s:Sy}{qs:List TV}{i:Nat}(hq:qs.map (·.2)=s.tup) (h:i<qs.length):qu s i=qs[i].2:=by
 unfold qu;rw[←hq];simp[List.getD,h]
theorem Vt.bd {aa:List QQ}{t:LI}(h:Vt aa t) {m:Int}(hm:∀a∈aa,a.st≤m):∀x∈t,0≤x∧x<m:=by
 intro x hx;obtain ⟨i,hi,rfl⟩:=LE hx;have E:i<aa.length:=by rw[←h.1];exact hi
 have:=h.2 i hi E;have:=hm aa[i] (Li E);omega
set_option maxHeartbeats 20000000 in
theorem qj {L:LN}{w:World}{vl:Value}{ps:List AV}{km:Int}(h:Xw L w.heap vl ps) (gn:Kb w km) (kf:0<km) (m2:∀p∈ps,p.a.st≤km) :
  QK prog 69 [vl] w λr w'=>Step [] w w'∧∃va vt c,r=.tuple #[va,vt,.int .i64 c]∧Yf w.heap.size w'.heap (ps.map (·.a)) va vt c:=by
 refine QK.of_W func69 O ntmps69 results69 (by simp) ?_;generalize J:ps.map (·.a)=aa;refine Qc<|xl O<|Qt (us:=[nS,.int .i64 0,nS,nS]) O λH w1 hB hC go=>x Qg<|Qe ?_;have hz1:=hB.size;have hl2:=go.lt;refine Qf<|Qc<|Qb<|xl O<|xf<|(QcP (h.ext hB)).mono ?_;rintro r2 w2 ⟨rfl,ho⟩;refine Qe ?_;rw[J];refine Qc<|Qb<|x (Q9 O O)<|xe<|Q6 rfl (λhw=>?_) (λhw=>?_)
 ·refine Qc<|x (QD U)<|Qb<|xl O<|Qp (us:=[nS,.int .i64 0,nS,nS]) (go.ext ho) O O O O ⟨O,O,O,O,U⟩ λw3 m3 m6=>x Qg<|Qe<|Qn ⟨[zA,Zf,.int .i64 (KK aa)],⟨⟨_,O,Qv O (m6.at (L:=[]) (by simp)).cells⟩,rfl,rfl,U⟩,(hB.trans ho).then1 m3 hC,zA,Zf,KK aa,rfl,?_⟩;unfold Yf;rw[if_pos hw];exact ⟨O,O,O⟩
 have hq:KK aa=0:=Ls.1 hw;have hn:ps.length≤12:=by
  unfold KK at hq;split at hq
  ·cases hq
  rename_i h1;rw[←J] at h1;simp at h1;exact h1
 have hD:∀a∈aa,Q8 a:=by
  unfold KK at hq;split at hq
  ·cases hq
  exact (U8 aa).1 hq
 have hV:∀p∈ps,Q8 p.a:=λp hp=>hD p.a (by rw[←J];exact LH hp);have m7:∀p∈ps,p.a.al.length≤32:=λp hp=>(hV p hp).al_le;have m8:∀a∈aa,a.st≤km:=λa ha=>by rw[←J] at ha;obtain ⟨p,hp,rfl⟩:=Lx.1 ha;exact m2 p hp
 have hE:aa.length=ps.length:=by rw[←J];simp
 refine Qi<|Qc<|Qb<|xl O<|xf<|(Qhd (L:=[H]) (((h.up (λb hb=>.inr (by simp at hb;omega))).ext hB).ext ho) hn m7 (λb hb=>by simp at hb;have:=ho.size;omega)).mono ?_;rintro r4 w4 ⟨gp,ve,vs,ms,rfl,kg,hl⟩;rw[J] at hl;have m9:=h.arr.one;have hel:=yx aa (λa ha=>(hD a ha).al_le);have hevl:(evs aa).length≤1000:=by omega
 have hW:=Qu.ints (L:=[]) hl (by omega) (by simp);refine xl rfl<|Qt (us:=[nS,nS,nS]) O λb6 w5 pa pc hF=>xl O<|Qp (us:=[vl,ve,vs]) hF O O O O ⟨m9,hW.one,kg.sl.one,U⟩ λw6 pd hF=>xe ?_;have hG:Step [] w4 w6:=pa.then1 pd pc;have hz2:=ho.size;have hz4:=gp.size;have hz6:=hG.size;have hl6:=hF.lt;refine Qc ?_;have pf:=((go.ext ho).ext gp).ext hG
 refine x (Qa O)<|x (Qd hF O O)<|x (Qa O)<|xl O<|QE pf O O (by simp) hW.one λw7 hH pg=>xe ?_;have hz7:=hH.size;have gq:Step [] w w7:=((((hB.trans ho).trans gp).trans hG).then1 hH hC);have kh:JY [H] w7.heap vl ve vs ps ms:=(kg.ext hG).st hH;have ki:Qu 3 w2.heap.size w7 ve (evs aa):=Qj (Qq hl hG) hH (λb hb=>by have:=(Qk hl b hb).1;simp;omega)
 have kj:=hF.step hH (by simp;omega);refine Qc<|x (Qr kj O O)<|xl O<|xf<|(QaS kh hn).mono ?_;rintro r8 w8 ⟨hh,hX⟩;have hz8:=hh.size;have gr:=pg.ext hh;have hY:(∃p∈ps,p.a.st=0)↔(∃a∈aa,a.st=0):=by
  rw[←J];constructor
  ·rintro ⟨p,hp,h0⟩;exact ⟨p.a,LH hp,h0⟩
  rintro ⟨a,ha,h0⟩;obtain ⟨p,hp,rfl⟩:=Lx.1 ha;exact ⟨p,hp,h0⟩
 by_cases hz:∃p∈ps,p.a.st=0
 ·rw[if_pos hz] at hX;subst hX;refine Qb<|x (Ql O O)<|x (Ql O O)<|x Qg<|Qe<|Qf<|Qc<|Qb<|x (Zr O)<|xe<|qi O ?_;refine Qc<|x (Qr gr O O)<|xl O<|Qp (us:=[ve,.int .i64 0,nS,nS]) gr O O O O ⟨hW.one,O,O,O,U⟩ λw9 kk ph=>x Qg<|Qe<|Qn ⟨[.agg #[ve,.int .i64 0,nS,nS],Zf,.int .i64 0],⟨⟨_,O,Qv O (ph.at (L:=[]) (by simp)).cells⟩,rfl,rfl,U⟩,(gq.trans hh).then1 kk hC,_,Zf,0,rfl,?_⟩
  unfold Yf;rw[if_neg hw];unfold sync;rw[if_pos (hY.1 hz)];have pj:=Qj (Qq ki hh) kk (λb hb=>by have:=(Qk hl b hb).1;simp;omega);refine ⟨O,⟨ve,_,_,O,λL' hk=>⟨Qu.ints pj (by show (evs aa).length≤_;omega) (λb hb=>by have:=hk b hb;omega),Zp.nil _ _ _,Zp.nil _ _ _⟩⟩,[],O,λL' hk=>⟨Zp.nil _ _ _,λp hp=>by cases hp⟩⟩
 rw[if_neg hz] at hX;obtain ⟨vf,rfl,gs⟩:=hX;have kn:=Qu.ints (L:=[]) gs (by simp;omega) (by simp);refine Qb<|x (Ql O O)<|x (Ql O O)<|x Qg<|Qe<|Qf<|Qc<|Qb<|x (Zr O)<|xe<|Yl rfl ?_;refine Qi<|Qc<|Qb<|xl O<|QC (us:=[[vf]]) O O (by decide) (by simp) ⟨kn.cells,rfl,U⟩ λS w10 hZ hb37 ko=>Qe ?_;have hz10:=hZ.size;have hl37:=ko.lt;refine Qc<|xl O<|Yq Xp λhe w11 hJ hb38 kp=>?_
 have hz11:=hJ.size;have hl38:=kp.lt;refine Qb<|xl O<|xf<|(yj ((kn.ext hZ).ext hJ) (gn.ext ((gq.trans hh).trans (hZ.trans hJ))) (λn hn=>by have:=Nd hn;omega) (by simp;omega)).mono ?_;rintro r12 pm ⟨rfl,ga⟩;have hz12:=ga.size;refine xl rfl<|Y0 (k:=Jz (List.replicate ps.length 0)) (kp.ext ga) O O λwS gt pn=>Qb<|Qe ?_;have hzS:=gt.size
 have po:Step [] w8 pm:=(hZ.trans hJ).trans ga;have h5:Step [] w8 wS:=po.then1 gt (by omega);have hK:Step [] w wS:=(gq.trans hh).trans h5;have hzWS:=hK.size;have pp:∀b∈[H,he,S],b∈[H]∨w8.heap.size≤b:=λb hb=>by
  simp only[List.mem_cons,List.not_mem_nil,or_false] at hb;rcases hb with rfl | rfl | rfl
  ·exact .inl (by simp)
  ·exact .inr (by omega)
  exact .inr (by omega)
 have gu:JY [H,he,S] wS.heap vl ve vs ps ms:=((kh.ext hh).up pp).ext h5;have gv:QZ wS.heap b6 243 [vl,ve,vs]:=(kj.ext hh).ext h5;have pt:Qu 3 w2.heap.size wS ve (evs aa):=Qq (Qq ki hh) h5;have pu:=QR hl;have pw:=Qk gs;have hL:SyN w1.heap.size H he S wS:=⟨by omega,by omega,by omega,by omega,by omega,by omega⟩
 have pz:zt w1.heap.size H he S ve wS (qv aa) (mput [] (Jz (List.replicate ps.length 0)) (.int .i64 0)) [(vf,List.replicate ps.length 0)] (.slice (some ⟨S,0,none⟩) 1 1) Zf Zf wS:=by
  refine ⟨Step.refl _ _,gr.ext h5,pn,?_,λb hb=>by simp[ob] at hb;exact .inl hb,QN _ _ _ _,QN _ _ _ _,by simp[qv,hE],λp hp=>?_,λp hp b hb=>?_,Dj.nil' _,Dj.nil' _,Dj.nil' _⟩
  ·exact (((ko.ext hJ).ext ga).step gt (by simp;omega)).own (n:=1) (sz:=1) O (by omega) (by omega)
  ·simp only[List.mem_singleton] at hp;subst hp;exact Zq (Qq gs h5) (by omega)
  simp only[List.mem_singleton] at hp;subst hp;have:=pw b hb;refine ⟨by omega,?_,by simp[ob,Zf],by simp[ob,Zf]⟩;simp[ob];omega
 have p0:VR ps.length (mput [] (Jz (List.replicate ps.length 0)) (.int .i64 0)) (qv aa).tup:=by
  have kf:VR ps.length [] []:=λu _ _=>O;have:=kf.add (u:=List.replicate ps.length 0) (by simp) (λx hx=>by have:=Nd hx;omega);simpa[qv,hE] using this
 have p1:VQ aa (qv aa):=by
  refine ⟨λt ht=>?_,by simp[qv]⟩;simp only[qv,List.mem_singleton] at ht;subst ht;refine ⟨by simp,λi h1 h2=>?_⟩;have h3:=(hD aa[i] (Li h2)).st0;have h4:aa[i].st≠0:=λe=>hz (hY.2 ⟨aa[i],Li h2,e⟩);simp only[List.getElem_replicate];omega
 generalize hT:syL aa 4096 0 (qv aa)=T;have p2:∀s,T=some s→sync aa=some (⟨evs aa,s.tup.length,s.mk',s.ed⟩,s.tup):=λs hs=>by
  unfold sync;rw[if_neg (λe=>hz (hY.2 e)),hT,hs];rfl
 have p3:T=none→sync aa=none:=λhs=>by unfold sync;rw[if_neg (λe=>hz (hY.2 e)),hT,hs];rfl
 refine Qf<|Qc<|Qe ?_;have gw:b6∉[H,he,S]:=by simp;omega
 refine Qh<|QB (α:=Nat×Sy×List (ByteArray×Value)×List TV×Value×Value×Value) [(3,4),(10,10),(12,16),(42,111)] (λz=>[(3,z.2.2.2.2.1),(10,.int .i64 z.1)])
  (λz w'=>zt w1.heap.size H he S ve wS z.2.1 z.2.2.1 z.2.2.2.1 z.2.2.2.2.1 z.2.2.2.2.2.1 z.2.2.2.2.2.2 w'∧VQ aa z.2.1∧VR ps.length z.2.2.1 z.2.1.tup∧z.1≤z.2.1.tup.length∧z.2.1.mk'.length≤z.1∧z.2.1.ed.length≤z.1*1000∧syL aa (4096 - z.1) z.1 z.2.1=T)
  (λz=>4096 - z.1) (by rfl) (0,qv aa,_,_,_,Zf,Zf) ⟨O,O,U⟩ ⟨pz,p1,p0,Lk _,Lk _,Lk _,hT⟩ ?_
 rintro ⟨i,s,m,qs,vt,vk,vd⟩ g hM ⟨G,gb,kq,hi,p4,kr,gx⟩;simp only[] at G gb kq hi p4 kr gx;have hle:=gb.le;have p5:qs.length=s.tup.length:=by rw[←G.q];simp
 have kt:∀p∈qs,Vt aa p.2:=λp hp=>gb.v p.2 (by rw[←G.q];exact LH hp);have ku:∀p∈qs,p.2.length≤12:=λp hp=>by have:=(kt p hp).1;omega
 have gy:=QT (L:=[]) G.t (by omega) (by simp);refine Qf<|Qc<|Qb<|Qb<|x (Qs gy O)<|x (QA O O)<|xe<|QG rfl (λp6=>?_) (λp6=>?_)
 ·have p7:T=some s:=by rw[←gx,Ut (by omega)]
  refine Qz<|Qc<|Qb<|x (Qs gy O)<|x (Qa O)<|xl O<|QE G.A O O (by simp) rfl λw15 p8 kv=>xe ?_;refine Qc ?_;have p9:=Qu.ints (L:=[]) G.k (by omega) (by simp);have qc:=Z5.eds (L:=[]) G.e (by omega) (by simp);refine x (Qr kv O O)<|Qb<|xl O<|Qp (us:=[ve,.int .i64 qs.length,vk,vd]) kv O O O O ⟨hW.one,O,p9.one,qc.one,U⟩ λgz qf ql=>x Qg<|Qe ?_
  have h6:Step [H] hM gz:=p8.trans' qf;have qo:Step [] w gz:=(hK.then G.st (λb hb=>.inr (by simp at hb;omega))).then1 h6 hC;refine Qn ⟨[.agg #[ve,.int .i64 qs.length,vk,vd],vt,.int .i64 0],⟨⟨_,O,Qv O (ql.at (L:=[]) (by simp)).cells⟩,rfl,rfl,U⟩,qo,_,vt,0,rfl,?_⟩;unfold Yf;rw[if_neg hw,p2 s p7];have e1:(qs.length:Int)=s.tup.length:=by rw[p5]
  have k0:Qu 3 w2.heap.size gz ve (evs aa):=Qj (Qj pt G.st (λb hb=>by have:=(Qk hl b hb).1;have:=pu b hb;simp;omega)) h6 (λb hb=>by have:=(Qk hl b hb).1;simp;omega);have k1:=Qj G.k h6 (λb hb=>by have:=(Qk G.k b hb).1;simp;omega);have k2:=Qj G.e h6 (λb hb=>by have:=(Qk G.e b hb).1;simp;omega);have k3:=Qj G.t h6 (λb hb=>by have:=(Qk G.t b hb).1;simp;omega)
  refine ⟨O,⟨ve,vk,vd,by rw[e1],λL' hk=>⟨Qu.ints k0 (by show (evs aa).length≤_;omega) (λb hb=>by have:=hk b hb;omega),Qu.ints k1 (by show s.mk'.length≤_;omega) (λb hb=>by have:=hk b hb;omega),Z5.eds k2 (by show s.ed.length≤_;omega) (λb hb=>by have:=hk b hb;omega)⟩⟩,qs,G.q,λL' hk=>⟨?_,λp hp=>?_⟩⟩
  ·exact QT k3 (by omega) (λb hb qr=>by have:=(Qk G.t b hb).1;have:=hk b qr;omega)
  exact Qu.ints (Qj (G.el p hp) h6 (λb hb=>by have:=(Qk (G.el p hp) b hb).1;simp;omega)) (by have:=ku p hp;omega) (λb hb=>by have:=hk b hb;omega)
 have q0:i<s.tup.length:=by omega
 have V:i<qs.length:=by omega
 have kw:=Qks G.q V;have h7:=kt (qs[i]'V) (Li V);obtain ⟨t,g0⟩:∃t,(qs[i]'V).2=t:=⟨_,O⟩;rw[g0] at kw h7;refine Qi ?_;have q1:(Vs aa i t (evs aa) (ZF aa i t s)).bind (syL aa (4096 - (i+1)) (i+1))=T:=by
  rw[←gx];obtain ⟨f,hf⟩:∃f,4096 - i=f+1:=⟨4096 - i - 1,by omega⟩;rw[hf,syL,if_pos q0,kw,show 4096 - (i+1)=f by omega]
 have q2:=gu.st G.st;have q3:JY [] hM.heap vl ve vs ps ms:=q2.up (λ_ hb=>by cases hb);have q4:=gv.step G.st gw;have q5:QL [] hM.heap (qs[i]'V).1 t:=by rw[←g0];exact Qu.ints (G.el (qs[i]'V) (Li V)) (by have:=ku (qs[i]'V) (Li V);omega) (by simp)
 refine Qf<|Qh<|QU (α:=Value) [(48,59)] (λz=>[]) (λz w'=>zt w1.heap.size H he S ve wS (ZF aa i t s) m qs vt z vd w') (by rfl) ?_ ?_
 ·refine Qf<|QW (Step [] hM) [(0,true),(1,true),(2,true),(3,true),(4,true),(5,false)] mixed (by rfl) (by kernel_rfl) (Step.drew _ _) ?_;refine pq (λ_ hc=>Qr (q4.ext hc) O O)<|p (λ_=>Qo)<|p (λ_=>Qo)<|pig O Kn gy O O V λa51 za =>
   pq (λ_ hc=>Qx (za.ext hc) O)<|pk<|xf<|(QcW (q3.ext (Step.drew _ _)) (q5.ext (Step.drew _ _)) (by rw[h7.1,hE]) (λp hp=>(hV p hp).mri) hn).mono ?_
  rintro r17 w17 ⟨rfl,zv⟩;have kx:=(Step.drew [] hM).trans zv;refine ⟨kx,?_⟩;refine pe ?_;have g2:=G.ext kx;refine Q3 O (λhN=>?_) (λhN=>?_)
  rotate_left
  ·refine Qi<|⟨vk,U,?_⟩;rw[J] at hN;unfold ZF;rw[if_neg (by rw[hN];simp)];exact g2
  refine Qy<|x (Qa O)<|x (Qd g2.A O O)<|Qb<|xl O<|QC (us:=[[.int .i64 i]]) O O (by decide) (by simp) ⟨rfl,rfl,U⟩ λb57 w18 z0 hb57 z2=>?_;have hO:=g2.ext z0;refine xl O<|Q2 (news:=[.int .i64 i]) (L:=[]) hO.k O O O (z2.at (by simp)) (by simp[Value.oneCell']) (by omega) hO.st.size λky z3 z4 kz z5=>?_;have k4:Qu 3 wS.heap.size z3 ky (s.mk'++[(i:Int)]):=Qu.snoc z4
  refine x (Qa O)<|xl O<|QE (hO.A.step kz (QM hO.k (by omega))) O O (by simp) (Qu.ints (L:=[]) k4 (by simp;omega) (by simp)).one λw20 z9 hB20=>xe ?_;refine ⟨ky,U,?_⟩;rw[J] at hN;unfold ZF;rw[if_pos hN];exact hO.setK hL kz k4 z5 z9 hB20
 rintro gc g3 w21 k5;have hsk2:VQ aa (ZF aa i t s):=qO gb;have htup2:(ZF aa i t s).tup=s.tup:=by unfold ZF;split <;> rfl
 have hed2:(ZF aa i t s).ed=s.ed:=by unfold ZF;split <;> rfl
 have hmk2:(ZF aa i t s).mk'.length≤i+1:=by
  unfold ZF;split
  ·simp only[List.length_append,List.length_singleton];omega
  omega
 have k6:QL [H,he,S] wS.heap ve (evs aa):=by have:=gu.ev;rw[J] at this;exact this
 refine Qc<|x (Qa O)<|x (Qd (gv.step k5.st gw) O O)<|x (Qs k6 O)<|Qb<|xe<|Qh<|QB (α:=Nat×Sy×List (ByteArray×Value)×List TV×Value×Value) [(3,4),(12,16),(63,111)] (λz=>[(3,z.2.2.2.2.1),(63,.int .i64 z.1)])
  (λz w'=>zt w1.heap.size H he S ve wS z.2.1 z.2.2.1 z.2.2.2.1 z.2.2.2.2.1 gc z.2.2.2.2.2 w'∧VQ aa z.2.1∧VR ps.length z.2.2.1 z.2.1.tup∧z.1≤(evs aa).length∧z.2.1.mk'=(ZF aa i t s).mk'∧z.2.1.ed.length≤i*1000+z.1 ∧
   (∃h:i<z.2.2.2.1.length,(z.2.2.2.1[i]'h).2=t)∧(Vs aa i t ((evs aa).drop z.1) z.2.1).bind (syL aa (4096 - (i+1)) (i+1))=T)
  (λz=>(evs aa).length - z.1) (by rfl) (0,ZF aa i t s,m,qs,vt,vd) ⟨O,O,U⟩
  ⟨k5,hsk2,by rw[htup2];exact kq,Lk _,O,by rw[hed2];simpa using kr,⟨V,g0⟩,q1⟩ ?_
 rintro ⟨j,E,m4,hg,ge,gg⟩ g4 h8 ⟨I,hP,hr,hj,gh,k7,⟨hm,h9⟩,Y⟩;simp only[] at I hP hr hj gh k7 Y hm h9;have k8:hg.length=E.tup.length:=by rw[←I.q];simp
 have hle4:=hP.le;refine Qc<|x (QA O O)<|xe<|Qf<|QG O (λh64=>?_) (λh64=>?_)
 ·rw[Lq (by omega),Vs] at Y;refine Qz<|Qy<|Qb<|QP O O<|Qe<|⟨(i+1,E,m4,hg,ge,gc,gg),by simp only[];omega,⟨O,O,U⟩,I,hP,hr,by simp only[];omega,by simp only[];rw[gh];exact hmk2,by simp only[];omega,Y⟩
 have gi:j<(evs aa).length:=by omega
 rw[QY gi,Vs] at Y;obtain ⟨v,k9⟩:∃v,(evs aa)[j]=v:=⟨_,O⟩;rw[k9] at Y;refine Qi<|Qf<|Qh<|Qc ?_;have hveI4:=k6.st I.st;refine xii hveI4 O O gi λa65 ma=>?_;rw[k9] at ma;refine x (Qx ma O)<|Qe ?_;have hM22:=(gu.st I.st).up (L':=[]) (λ_ hb=>by cases hb);have hB622:=gv.step I.st gw;have htA4:=QT (L:=[]) I.t (by omega) (by simp)
 have htI4:QL [] h8.heap (hg[i]'hm).1 t:=by rw[←h9];exact Qu.ints (I.el (hg[i]'hm) (Li hm)) (by rw[h9,h7.1];omega) (by simp)
 refine Qf<|QW (Step [] h8) [(0,true),(1,true),(2,true),(3,true),(4,true),(5,true),(6,false),(7,true),(8,true),(9,true),(10,true),(11,true)] mixed (by rfl) (by kernel_rfl) (Step.drew _ _) ?_;refine pq (λ_ hc=>Qr (hB622.ext hc) O O)<|p (λ_=>Qo)<|p (λ_=>Qo)<|pig O Kn htA4 O O hm λa71 h71 =>
  pq (λ_ hc=>Qx (h71.ext hc) O)<|p (λ_=>Qo)<|pk<|xf<|(Qew (hM22.ext (Step.drew _ _)) (htI4.ext (Step.drew _ _)) (by rw[h7.1,hE]) (λp hp=>(hV p hp).ali) (λp hp=>(hV p hp).edi) hn _).mono ?_
 rintro r23 w23 ⟨hs23,hQ⟩;rw[J] at hQ;have g5:=(Step.drew [] h8).trans hs23;refine ⟨g5,?_⟩;have hR:=I.ext g5;have hz23:=g5.size;have hz22:=I.st.size;rcases Qlw (ZX v aa t) with hv | ⟨u,hv⟩
 ·rw[hv] at hQ;subst hQ;rw[QdU hv] at Y;refine p (λ_=>Qo)<|p (λ_=>Ql O O)<|p (λ_=>Ql O O)<|p (λ_=>Qg)<|p (λ_=>Qg)<|pe ?_;refine Qf<|Qc<|Qb<|x (Zr O)<|xe<|qi O ?_;refine Qz<|Qy<|QP O O<|Qb<|xe ?_;exact ⟨(j+1,E,m4,hg,ge,gg),by simp only[];omega,⟨O,O,U⟩,hR,hP,hr,gi,gh,by simp only[];omega,⟨hm,h9⟩,Y⟩
 rw[hv] at hQ;obtain ⟨vx,rfl,g8⟩:=hQ;have mc:=XG hD h7 hv;have mf:u.length=ps.length:=by rw[mc.1,hE]
 have g9:=mc.bd m8;have ka:∀x∈u,0≤x:=λx hx=>(g9 x hx).1;refine p (λ_=>Qo)<|p (λ_=>Ql O O)<|p (λ_=>Ql O O)<|p (λ_=>Qg)<|p (λ_=>Qg)<|pe ?_;refine Qf<|Qc<|Qb<|x (Zr O)<|xe<|Yl O ?_;refine Qi ?_;have gj:=Qu.ints (L:=[]) g8 (by omega) (by simp);have mg:=Qk g8
 refine QU (α:=Unit) [(15,16),(79,85)] (λz=>[(15,.int .i64 (if u∈E.tup then (E.tup.idxOf u:Int) else 0)),(16,.bool (decide (u∈E.tup)))]) (λz w'=>Step [] w23 w') (by rfl) ?_ ?_
 ·refine Qy<|Qb<|Qb<|xl O<|xf<|(yj gj (gn.ext (hK.then hR.st (λb hb=>.inr (by simp at hb;omega)))) g9 (by omega)).mono ?_;rintro r24 w24 ⟨rfl,gk⟩;by_cases hu:u∈E.tup
  ·refine x (qZ (k:=Jz u) ((hR.ext gk).M) O O (by rw[hr u mf ka,if_pos hu]))<|Qb<|x (Ql rfl rfl)<|x (Ql rfl rfl)<|x Qg<|Qe ?_;exact ⟨(),⟨congrArg (Value.int .i64) (if_pos hu).symm,congrArg Value.bool (decide_eq_true hu).symm,U⟩,gk⟩
  refine x (QcO (k:=Jz u) ((hR.ext gk).M) O O (by rw[hr u mf ka,if_neg hu]))<|Qb<|x (Ql rfl rfl)<|x (Ql rfl rfl)<|x Qg<|Qe ?_;exact ⟨(),⟨congrArg (Value.int .i64) (if_neg hu).symm,congrArg Value.bool (decide_eq_false hu).symm,U⟩,gk⟩
 rintro _ g6 w25 gl;have hA:=hR.ext gl;have hx25:=Qq g8 gl;have hxA25:=gj.ext gl;have hz25:=gl.size;have hadd:∀b∈ob vx,b∉ob ge∧b∉ob gc∧b∉ob gg:=λb hb=>by
  have h1:=(mg b hb).1;have h1':h8.heap.size≤b:=h1;exact ⟨λhS=>by have:=QR I.t b hS;omega,λhS=>by have:=QR I.k b hS;omega,λhS=>by have:=QR I.e b hS;omega⟩
 refine QU (α:=List (ByteArray×Value)×List TV×Value) [(3,4),(15,15),(86,101)] (λz=>[(3,z.2.2),(15,.int .i64 ((Yn E u).tup.idxOf u:Int))])
  (λz w'=>zt w1.heap.size H he S ve wS (Yn E u) z.1 z.2.1 z.2.2 gc gg w'∧(u∈E.tup∨E.tup.length≠4096)∧VR ps.length z.1 (Yn E u).tup∧∃h:i<z.2.1.length,(z.2.1[i]'h).2=t) (by rfl) ?_ ?_
 ·refine Qc<|Qb<|x (Zr O)<|xe<|Q3 O (λkb=>?_) (λkb=>?_)
  rotate_left
  ·have hu:u∈E.tup:=by simpa using kb
   refine Qi ?_;have e1:Yn E u=E:=by unfold Yn;rw[if_pos hu]
   have e2:(if u∈E.tup then (E.tup.idxOf u:Int) else 0)=((Yn E u).tup.idxOf u:Int):=by rw[e1,if_pos hu]
   refine ⟨(m4,hg,ge),⟨O,congrArg (Value.int .i64) e2,U⟩,?_,.inl hu,?_,hm,h9⟩
   ·rw[e1];exact hA
   rw[e1];exact hr
  have hu:u∉E.tup:=by simpa using kb
  have mh:=QT (L:=[]) hA.t (by omega) (by simp);refine Qf<|Qc<|Qb<|x (Qs mh O)<|x (Q5 O O)<|xe<|Q6 O (λh90=>?_) (λh90=>?_)
  ·refine Qc<|x (QD U)<|xl O<|Qp (us:=[nS,.int .i64 0,nS,nS]) hA.A O O O O ⟨O,O,O,O,U⟩ λw26 gm hB26=>x Qg<|Qe<|Qn ⟨[zA,Zf,.int .i64 3],⟨⟨_,O,Qv O (hB26.at (L:=[]) (by simp)).cells⟩,rfl,rfl,U⟩,(hK.then hA.st (λb hb=>.inr (by simp at hb;omega))).then1 gm hC,zA,Zf,3,O,?_⟩;unfold Yf;rw[QdW hv hu (by omega)] at Y;rw[if_neg hw,p3 Y.symm];exact ⟨rfl,O,O⟩
  have hl4:E.tup.length≠4096:=by omega
  refine Qi<|Qc<|Qb<|x (Qs mh O)<|Qe<|Qc<|Qb<|Qb<|xl O<|xf<|(yj hxA25 (gn.ext (hK.then hA.st (λb hb=>.inr (by simp at hb;omega)))) g9 (by omega)).mono ?_;rintro r26 w26 ⟨rfl,gm⟩;have mj:=hA.ext gm;refine Qb<|xl O<|Xn (k:=Jz u) mj.M O O λw27 mo hm27=>xe ?_;have hI8:=mj.setM hL mo hm27
  have hx27:=Qj (Qq hx25 gm) mo (λb hb=>by have:=(mg b hb).1;have h1':h8.heap.size≤b:=this;simp;omega);refine Qy<|Qb<|Qb<|xl O<|QC (us:=[[vx]]) O O (by decide) (by simp) ⟨gj.cells,rfl,U⟩ λb100 w28 mq hb100 hB100=>?_;have kc:=hI8.ext mq
  refine xl O<|Q2 (news:=[vx]) (L:=[]) kc.t O O O (hB100.at (by simp)) (λy hy=>by simp only[List.mem_singleton] at hy;subst hy;exact gj.one) (by omega) (by have:=kc.st.size;have:=hL.nS;omega) λmt w29 ho29 hs29 hn29=>Qe ?_;have hk29:qJ 37 w1.heap.size w29 mt (hg++[(vx,u)]):=qJ.snoc ho29
  have hIA:=kc.setT hL (u:=u) (Zq (Qq hx27 mq) (by show wS.heap.size≤h8.heap.size;omega)) hadd hs29 hk29 hn29;have e1:Yn E u=⟨E.tup++[u],E.mk',E.ed⟩:=by unfold Yn;rw[if_neg hu]
  have e2:(hg.length:Int)=((Yn E u).tup.idxOf u:Int):=by
   rw[e1];simp only[];rw[L2,if_neg hu,←k8];simp
  refine ⟨(mput m4 (Jz u) (.int .i64 (hg.length:Int)),hg++[(vx,u)],mt),⟨O,congrArg (Value.int .i64) e2,U⟩,?_,.inr hl4,?_,by simp;omega,?_⟩
  ·rw[e1];exact hIA
  ·rw[e1];simp only[];rw[k8];exact hr.add hu ka
  simp only[];rw[Mm hm];exact h9
 rintro ⟨m5,qs5,vt5⟩ g7 w30 ⟨ke,hlim,mu,mv,mw⟩;simp only[] at ke mu mv mw;have hed5:(Yn E u).ed.length≤i*1000+j:=by rw[QdY];exact k7
 have my:=QgO (aa:=aa) (i:=i) (s:=E) hv hlim;have hsk5:=QdV hD hP h7 my;rw[my] at Y;refine Qy<|x (Qa O)<|x (Qd ke.A O O)<|Qb<|Qb<|Qb<|x (QD ⟨O,O,O,U⟩)<|xl O<|QC (us:=[Qw ((i:Int),v,((Yn E u).tup.idxOf u:Int))]) O O (by decide) (by exact (by decide:1*3≤1000000)) ⟨O,O,U⟩ λb108 w31 hs31 hb108 hB108=>?_;have hU:=ke.ext hs31
 refine xl O<|Q2 (news:=Qw ((i:Int),v,((Yn E u).tup.idxOf u:Int))) (L:=[]) hU.e O O O (hB108.at (by simp)) (λy hy=>by simp only[Qw,List.mem_cons,List.not_mem_nil,or_false] at hy;rcases hy with rfl | rfl | rfl <;> rfl) (by omega) hU.st.size λmz w32 ho32 m0 hn32=>?_
 have m1:Z5 144 wS.heap.size w32 mz ((Yn E u).ed++[((i:Int),v,((Yn E u).tup.idxOf u:Int))]):=Z5.snoc ho32;refine x (Qa O)<|xl O<|QE (hU.A.step m0 (QM hU.e (by omega))) O O (by simp) (Z5.eds (L:=[]) m1 (by simp;omega) (by simp)).one λw33 hs33 hB33=>xe ?_;have hI12:=hU.setE hL m0 m1 hn32 hs33 hB33;refine Qy<|QP O O<|Qb<|xe ?_
 refine ⟨(j+1,_,m5,qs5,vt5,mz),by simp only[];omega,⟨O,O,U⟩,hI12,hsk5,mu,gi,?_,?_,⟨mv,mw⟩,Y⟩
 ·simp only[];rw[QdX];exact gh
 simp only[List.length_append,List.length_singleton];omega
structure KL where
 en:LI
 dis:LI
 mk':Bool
 ps:Bool
def QjM:KL:=⟨[],[],false,false⟩
def QiK (l:LI) (v:Int):LI:=mrg (· || ·) l [v]
def QlE (p s:QQ) (x y:Int) (c:KL) (v:Int):KL :=
 match eget p.ed x v with
 | none=>c
 | some _=>match eget s.ed y v with
  | some _=>⟨QiK c.en v,c.dis,c.mk',c.ps⟩
  | none=>⟨c.en,QiK c.dis v,c.mk',c.ps⟩
def QlF (p s:QQ) (x y:Int) (c:KL):KL:=⟨c.en,c.dis,decide (y∈s.mr),c.ps || decide (x∈p.mr)⟩
def QlD (p s:QQ) (x y:Int) (c:KL):KL:=s.al.foldl (QlE p s x y) (QlF p s x y c)
def px (q:LI):Int:=q.getD 0 0
def py (q:LI):Int:=q.getD 1 0
def QlC (p s:QQ) (l:List KL) (q:LI):List KL:=l.set (py q).toNat (QlD p s (px q) (py q) (l.getD (py q).toNat QjM))
def ctls (p s:QQ) (pairs:List (LI)):List KL:=pairs.foldl (QlC p s) (List.replicate s.st.toNat QjM)
def occs (n:Nat) (pairs:List (LI)):List Bool:=pairs.foldl (λo q=>o.set (py q).toNat true) (List.replicate n false)
def meets (a b:LI):LI:=mrg (· && ·) a b
def QkV (a b:KL):Bool:=decide ((meets a.en b.dis).length+(meets b.en a.dis).length=0) && (!a.ps || !b.ps || a.mk' == b.mk')
def cget (l:LI) (i:Nat):Int:=l.getD i 0
def QeW (cl:LI) (x y:Nat):LI:=cl.map λc=>if c=cget cl y then cget cl x else c
def lget (l:List KL) (i:Nat):KL:=l.getD i QjM
def to0 (s:QQ) (x:Nat) (v:Int):Int:=match eget s.ed x v with | some u=>u | none=>0
def clE (s:QQ) (x y:Nat) (z:LI×Bool) (v:Int):LI×Bool :=
 if cget z.1 (to0 s x v).toNat≠cget z.1 (to0 s y v).toNat then (QeW z.1 (to0 s x v).toNat (to0 s y v).toNat,true) else z
def clY (s:QQ) (l:List KL) (x:Nat) (z:LI×Bool) (y:Nat):LI×Bool :=
 if cget z.1 x<0∨cget z.1 x≠cget z.1 y then z else (meets (lget l x).en (lget l y).en).foldl (clE s x y) z
def clX (s:QQ) (l:List KL) (n:Nat) (z:LI×Bool) (x:Nat):LI×Bool:=(List.range' (x+1) (n - (x+1))).foldl (clY s l x) z
def pass (s:QQ) (l:List KL) (cl:LI):LI×Bool:=(List.range' 0 cl.length).foldl (clX s l cl.length) (cl,false)
def QfY (s:QQ) (l:List KL):Nat→LI→LI
 | 0,cl=>cl
 | f+1,cl=>if (pass s l cl).2=true then QfY s l f (pass s l cl).1 else (pass s l cl).1
def Qh1 (l:List KL) (cl:LI):Bool :=
 (List.range' 0 cl.length).all λx=>(List.range' 0 x).all λy=>!(decide (0≤cget cl x∧cget cl x=cget cl y) && !QkV (lget l x) (lget l y))
def Qlm (s:QQ) (l:List KL) (cl:LI) (x y:Nat):LI :=
 if cget cl x<0∨cget cl y<0∨cget cl x=cget cl y then cl else
  let d:=QfY s l (cl.length*cl.length+1) (QeW cl x y)
  if Qh1 l d=true then d else cl
def Qll (s:QQ) (l:List KL) (n:Nat) (cl:LI) (x:Nat):LI:=(List.range' (x+1) (n - (x+1))).foldl (λc y=>Qlm s l c x y) cl
def QlH (o:List Bool):LI:=(List.range' 0 o.length).map λi=>if o.getD i false=true then (i:Int) else -1
def QlG (s:QQ) (l:List KL) (cl:LI):LI:=(List.range' 0 cl.length).foldl (Qll s l cl.length) cl
def Qly (z:LI×LI) (c:Int):LI×LI :=
 if c∈z.1 then (z.1,z.2++[(z.1.idxOf c:Int) - 1]) else (z.1++[c],z.2++[(z.1.length:Int) - 1])
def nums (cl:LI):LI:=(cl.foldl Qly ([-1],[])).2
def Qk0 (p s:QQ) (pairs:List (LI)):LI:=nums (QlG s (ctls p s pairs) (QlH (occs s.st.toNat pairs)))
theorem JQ {α:Type}(g:α→LV) (sz:Nat) (E:∀x,(g x).length=sz):∀(l:List α) (i j:Nat) (h:i<l.length) (y:α) (u:Value),j<sz→g y=(g l[i]).set j u →
  (l.flatMap g).set (i*sz+j) u=(l.set i y).flatMap g
 | x::l,0,j,h,y,u,G,hy=>by
  simp only[List.getElem_cons_zero] at hy;simp only[Nat.zero_mul,Nat.zero_add,List.flatMap_cons,List.set_cons_zero];rw[List.set_append_left _ _ (by rw[E];exact G),hy]
 | x::l,i+1,j,h,y,u,G,hy=>by
  simp only[List.getElem_cons_succ] at hy;simp only[List.flatMap_cons,List.set_cons_succ];rw[List.set_append_right _ _ (by rw[E,MA];omega),E,show (i+1)*sz+j - sz=i*sz+j by rw[MA];omega,JQ g sz E l i j (by simpa using h) y u G hy]
end Go.Proofs.YtdffckgdcegpaaaGreatDoor
namespace Go.Lg
section
variable {P:Program} {n:Nat} {f:Fr} {w:World} {all:List Oper} {C:World→Prop} {K:Fr→World→Prop}
def UY (all:Array Oper) (i j:Nat) (E G:List (Nat×Bool)):List (Nat×Bool)→Array Bool→Bool
 | [],ls=>Region.ready .any all ls == [i,j] && Y8 all E (ls.setIfInBounds i true) && Y8 all G (ls.setIfInBounds j true)
 | (k,q)::pl,ls=>q && (Region.ready .any all ls).contains k && Region.free .any all ls k && UY all i j E G pl (ls.setIfInBounds k true)
def Qfr (all:List Oper) (pl:List (Nat×Bool)) (i j:Nat) (E G:List (Nat×Bool)):Bool :=
 Region.noSelect all.toArray && pl.length+1+E.length == all.length && E.length == G.length && UY all.toArray i j E G pl (Array.replicate all.length false)
def Fk (P:Program) (all:List Oper) (C:World→Prop) (K:Fr→World→Prop) (i j:Nat) (G H:List (Nat×Bool)) (f:Fr) (w:World):Prop :=
 (Yh all f (Q4 all i)=true∧XO P (Q4 all i) f w λE w'=>C w'∧XP P all C K G E w') ∧
 (Yh all f (Q4 all j)=true∧XO P (Q4 all j) f w λE w'=>C w'∧XP P all C K H E w')
theorem KB {i j:Nat}{G S:List (Nat×Bool)}(hl:G.length=S.length) (hs:Region.noSelect all.toArray=true):∀(pl:List (Nat×Bool)) (ls:Array Bool) (f:Fr) (w:World),ls.size=all.length→C w→UY all.toArray i j G S pl ls=true →
  XP P all C (Fk P all C K i j G S) pl f w→XA P all C K (pl.length+(1+G.length)) ls f w
 | [],ls,f,w,V,hC,hp,h=>by
  simp only[UY,Bool.and_eq_true,beq_iff_eq] at hp;obtain ⟨⟨H,h1⟩,h2⟩:=hp;simp only[XP] at h;rw[List.length_nil,LP,MX];refine Jq (λh0=>(by rw[h0] at H;cases H)) ?_;rw[H];intro k hk o E;have I:(ls.setIfInBounds k true).size=all.length:=by simpa using V
  simp only[List.mem_cons,List.not_mem_nil,or_false] at hk;rcases hk with rfl | rfl
  ·have:=h.1;rw[Zm E] at this;rw[this.1,cond_true];exact this.2.mono λv w' hx=>⟨.inr (.inr hx.1),ZE hs G _ _ _ I (.inl hx.1) h1 hx.2⟩
  have:=h.2;rw[Zm E] at this;rw[this.1,cond_true,hl];exact this.2.mono λv w' hx=>⟨.inr (.inr hx.1),ZE hs S _ _ _ I (.inl hx.1) h2 hx.2⟩
 | (J,q)::pl,ls,f,w,V,hC,hp,h=>by
  simp only[UY,Bool.and_eq_true] at hp;obtain ⟨⟨⟨rfl,H⟩,hf⟩,ha⟩:=hp;simp only[XP] at h;have Y:J∈Region.ready .any all.toArray ls:=by simpa using H
  have e:(List.length ((J,true)::pl))+(1+G.length)=(pl.length+(1+G.length))+1:=by simp;omega
  rw[e];cases E:all[J]? with
  | none =>
   exfalso;obtain ⟨_,o,he,_⟩:=mem_ready.1 Y;simp[E] at he
  | some o =>
   rw[Zm E] at h;have hb:∀(j:Nat) (o:Oper) cs b,all[j]?=some o→o.op≠.select cs b:=λj o cs b hj=>Region.noSelect_spec hs j o cs b (by simpa using hj);have hc:=λj oj hj=>Region.free_spec (ops:=all.toArray) (md:=.any) (i:=J) (oi:=o) (listed:=ls) (by simpa using E) hf j oj (by simpa using hj);have I:(ls.setIfInBounds J true).size=all.length:=by simpa using V
   cases T:Yh all f o with
   | false =>
    rw[T] at h;exact Y4 (v:=undef) (D:=λw=>qw o=true→C w) E (λ_ h=>h) hb _ ls f w (λ_=>hC) hc Y (.inr ⟨T,O⟩) (KB hl hs pl _ _ _ I hC ha h)
   | true =>
    rw[T] at h;simp only[cond_true] at h;obtain ⟨v,hv,hx⟩:=h;exact Y4 (v:=v) (D:=λw=>qw o=true→C w) E (λ_ h=>h) hb _ ls f w (λ_=>hC) hc Y (.inl ⟨T,hv⟩) (KB hl hs pl _ _ _ I hC ha hx)
theorem Qij {Q:Exit→Fr→World→Prop}{id:Nat}(C:World→Prop) (pl:List (Nat×Bool)) (i j:Nat) (E G:List (Nat×Bool)) (hm:P.follows .mixedOrders=true) (H:XQ n all=true) (hp:Qfr all pl i j E G=true)
  (hC:C { w with drawn:=w.drawn+1 }) (h:XP P all C (Fk P all C (λf w=>Q .normal f w) i j E G) pl f { w with drawn:=w.drawn+1 }):W P n (.region id all.toArray true) Q f w:=by
 simp only[Qfr,Bool.and_eq_true,beq_iff_eq] at hp;obtain ⟨⟨⟨hs,hl⟩,I⟩,hp⟩:=hp;refine KC C hm H ?_;have h1:=KB I hs pl _ _ _ (by simp) hC hp h;rw[←Nat.add_assoc,hl] at h1;exact h1
end
end Go.Lg
namespace Go.Proofs.YtdffckgdcegpaaaGreatDoor
open Go.Lg
end Go.Proofs.YtdffckgdcegpaaaGreatDoor
namespace Go.Lg
open Go.Proofs.YtdffckgdcegpaaaGreatDoor
theorem Zi {l:LI}{i:Nat}(h:i<l.length):l[i]=cget l i:=by simp[cget,List.getD,h]
section
variable {P:Program} {ops l:List Oper} {K:Fr→World→Prop} {f:Fr} {w:World} {d:Option Nat} {ty:Nat} {ps:String} {af:Array Edge} {gd:Option (Nat×Bool)} {C:World→Prop} {pl:List (Nat×Bool)} {i0:Nat}
theorem xic {x y:Operand}{t e bys:Nat}{z:Value}[Sl P t e 1 bys z] {L:LN}{li:LI}{v:Value}{k:IntKind}{i:Nat}
  (h:QL L w.heap v li) (E:ev f x=v) (hy:ev f y=.int k i) (hi:i<li.length)
  (G:∀a,At L w.heap a [.int .i64 (cget li i)]→XL P ops K l (QV f d (.pointer (some a))) w) (H:Yh ops f ⟨d,.indexAddr t x y,ty,ps,af,gd⟩=true:=by rfl) :
  XL P ops K (⟨d,.indexAddr t x y,ty,ps,af,gd⟩::l) f w :=
 xii h E hy hi (λa ha=>G a (by rw[←Zi hi];exact ha)) H
theorem pic {x y:Operand}{t e bys:Nat}{z:Value}[Sl P t e 1 bys z] {L:LN}{li:LI}{v:Value}{H:Array Obj}{k:IntKind}{i:Nat}
  (E:Q4 ops i0=⟨d,.indexAddr t x y,ty,ps,af,gd⟩) (h:QL L H v li) (G:ev f x=v) (hy:ev f y=.int k i) (hi:i<li.length)
  (I:∀a,At L H a [.int .i64 (cget li i)]→XP P ops C K pl (QV f d (.pointer (some a))) w) (J:Yh ops f (Q4 ops i0)=true:=by rfl):XP P ops C K ((i0,true)::pl) f w :=
 pii E h G hy hi (λa ha=>I a (by rw[←Zi hi];exact ha)) J
end
theorem Qej {a n:Nat}(h:a<n):List.range' a (n - a)=a::List.range' (a+1) (n - (a+1)):=by
 rw[show n - a=(n - (a+1))+1 by omega,MW]
theorem Qg1 {a n:Nat}(h:n≤a):List.range' a (n - a)=[]:=by rw[show n - a=0 by omega];rfl
end Go.Lg
namespace Go.Proofs.YtdffckgdcegpaaaGreatDoor
open Go.Lg
end Go.Proofs.YtdffckgdcegpaaaGreatDoor
namespace Go.Lg
section
variable {P:Program} {f:Fr} {w:World} {d:Option Nat} {ty:Nat} {ps:String} {af:Array Edge} {gd:Option (Nat×Bool)} {κ:Type} [DecidableEq κ]
end
end Go.Lg
namespace Go.Proofs.YtdffckgdcegpaaaGreatDoor
open Go.Lg
theorem Qbu {aa:List QQ}{i:Nat}{t:LI}(G:∀a∈aa,Q8 a) (H:Vt aa t):∀(vs:LI) (s E:Sy),VQ aa s→Vs aa i t vs s=some E→VQ aa E
 | [],s,E,h,e=>by cases e;exact h
 | v::vs,s,E,h,e=>by
  rw[Vs] at e;obtain ⟨I,h1,h2⟩:=MD.1 e;exact Qbu G H vs I E (QdV G h H h1) h2
theorem QdS {aa:List QQ}(G:∀a∈aa,Q8 a):∀(f i:Nat) (s E:Sy),VQ aa s→syL aa f i s=some E→VQ aa E
 | 0,i,s,E,h,e=>by cases e;exact h
 | f+1,i,s,E,h,e=>by
  rw[syL] at e;split at e
  ·rename_i hi;obtain ⟨H,h1,h2⟩:=MD.1 e;have I:Vt aa (qu s i):=h.v _ (by unfold qu;simp[List.getD,hi]);exact QdS G f _ H E (Qbu G I _ _ _ (qO h) h1) h2
  cases e;exact h
theorem QiO {aa:List QQ}(G:∀a∈aa,Q8 a) (H:¬∃a∈aa,a.st=0):VQ aa (qv aa):=by
 refine ⟨λt E=>?_,by simp[qv]⟩;simp only[qv,List.mem_singleton] at E;subst E;refine ⟨by simp,λi h1 h2=>?_⟩;have h3:=(G aa[i] (Li h2)).st0;have I:aa[i].st≠0:=λe=>H ⟨aa[i],Li h2,e⟩;simp only[List.getElem_replicate];omega
theorem Uf {aa:List QQ}(E:∀a∈aa,Q8 a) {z:QQ×List (LI)}(h:sync aa=some z):(∀t∈z.2,Vt aa t)∧z.2.length≤4096:=by
 unfold sync at h;split at h
 ·cases h;simp
 rename_i G;obtain ⟨s,h1,rfl⟩:=MR.1 h;have:=QdS E _ _ _ _ (QiO E G) h1;exact ⟨this.v,this.le⟩
def opC (p s:QQ):Int:=if Jn p≠0 then Jn p else if Jn s≠0 then Jn s else if mrg (λp q=>p && !q) s.al p.al=[] then 0 else 9
def opE (p s:QQ):Int:=if opC p s≠0 then opC p s else match sync [p,s] with | none=>3 | some _=>0
def opQ (p s:QQ):List (LI):=match sync [p,s] with | none=>[] | some z=>z.2
def QkF (l:LI):Int:=(l.drop 1).foldl max (cget l 0)
theorem Y6 {N b:Nat}{w w':World}{v:Value}{a:QQ}(h:YO N w.heap v a) (hb:b<N) (hs:Step [b] w w'):YO N w'.heap v a:=by
 obtain ⟨va,vm,ve,h1,h2⟩:=h;refine ⟨va,vm,ve,h1,λL E=>?_⟩;exact ((h2 (b::L) (λc hc=>by rcases Lb.1 hc with rfl | hc;exact hb;exact E c hc)).st (hs.mono (by simp))).up (λc hc=>.inl (Ll _ hc))
theorem Qgk {N b:Nat}{w w':World}{v:Value}{l:List (LI)}(h:Qbd N w.heap v l) (hb:b<N) (hs:Step [b] w w'):Qbd N w'.heap v l:=by
 obtain ⟨ps,h1,h2⟩:=h;refine ⟨ps,h1,λL E=>?_⟩;exact ((h2 (b::L) (λc hc=>by rcases Lb.1 hc with rfl | hc;exact hb;exact E c hc)).st (hs.mono (by simp))).up (λc hc=>.inl (Ll _ hc))
theorem YV {N:Nat}{H:Array Obj}{v:Value}{a:QQ}(h:YO N H v a):∃us,v=.agg us.toArray∧us.length=4∧ZN us:=by
 obtain ⟨va,vm,ve,h1,h2⟩:=h;have:=h2 [] (by simp);exact ⟨[va,.int .i64 a.st,vm,ve],h1,O,this.al.one,O,this.mr.one,this.ed.one,U⟩
open Go.Proofs.Tryz
theorem yH {L:LN}{w:World}{va vm ve:Value}{a:QQ}(h:Zt L w.heap va vm ve a) :
  QK prog 123 [.agg #[va,.int .i64 a.st,vm,ve]] w λr w'=>Step [] w w'∧∃v,r=.tuple #[v,.int .i64 (Jn a)]∧(Jn a≠0→v=zA)∧(Jn a=0→YO w.heap.size w'.heap v (ZD a)):=by
 refine QK.of_W func123 O ntmps123 results123 (by simp) ?_;refine Qc<|xl O<|QS (us:=[va,.int .i64 a.st,vm,ve]) O λb1 w1 T hl V=>xl O<|Qt (us:=[nS,.int .i64 0,nS,nS]) O λb2 w2 G hm H=>Qe ?_;have I:=T.trans G;refine Qf<|Qc<|x (Qr (V.ext G) O O)<|xl O<|xf<|(Xt (h.ext I)).mono ?_;rintro r3 w3 ⟨rfl,E⟩;refine Qe ?_;have hn:=T.size;refine Qc<|Qb<|x (Q9 O O)<|xe ?_
 refine Q6 rfl (λJ=>?_) (λJ=>?_)
 ·refine Qc<|x (QD U)<|Qb<|xl O<|Qp (us:=[nS,.int .i64 0,nS,nS]) (H.ext E) O O O O ⟨O,O,O,O,U⟩ λw4 hf hg=>Qe ?_;exact Qn ⟨[zA,.int .i64 (Jn a)],⟨⟨_,O,Qv O (hg.at (L:=[]) (by simp)).cells⟩,rfl,U⟩,(I.trans E).then1 hf (by omega),zA,rfl,λ_=>rfl,λe=>absurd e J⟩
 have hc:Jn a=0:=Ls.1 J;have hh:=(ZJ a).1 hc;have ho:=H.lt;have S:=I.trans E;refine Qi<|Qc<|x (Qr ((V.ext G).ext E) O O)<|xl O<|xf<|(Jo (h.ext S) hh).mono ?_;rintro v w5 ⟨Y,hF⟩;obtain ⟨us,ha,hb,hi⟩:=YV hF;have hp:=E.size;have hj:=S.size;refine xl rfl<|Qp (us:=us) ((H.ext E).ext Y) O ha hb O hi λw6 he hk =>
  Qe<|Qn ⟨[.agg us.toArray,.int .i64 0],⟨⟨_,O,Qv hb (hk.at (L:=[]) (by simp)).cells⟩,rfl,U⟩,(S.trans Y).then1 he (by omega),v,by rw[hc,ha];rfl,λe=>absurd hc e,λ_=>?_⟩
 exact (Y6 hF (by omega) he).mono hj
def gget:List ((Int×Int)×Int)→Int×Int→Option Int
 | [],_=>none
 | (k',v)::m,k=>if k'=k then some v else gget m k
def gput:List ((Int×Int)×Int)→Int×Int→Int→List ((Int×Int)×Int)
 | [],k,v=>[(k,v)]
 | (k',v')::m,k,v=>if k'=k then (k',v)::m else (k',v')::gput m k v
def Qlr (s:QQ) (cls:LI) (x:Nat) (m:List ((Int×Int)×Int)) (v:Int):List ((Int×Int)×Int):=gput m (cget cls x,v) (cget cls (to0 s x v).toNat)
def Qlo (s:QQ) (l:List KL) (cls:LI) (z:LI×List ((Int×Int)×Int)) (x:Nat):LI×List ((Int×Int)×Int) :=
 if cget cls x<0 then z else (if ((lget l x).mk' && (lget l x).ps)=true then QiK z.1 (cget cls x) else z.1,(lget l x).en.foldl (Qlr s cls x) z.2)
def Qkv (s:QQ) (l:List KL) (cls:LI):LI×List ((Int×Int)×Int):=(List.range' 0 cls.length).foldl (Qlo s l cls) ([],[])
def Qlq (m:List ((Int×Int)×Int)) (c:Nat) (v:Int):Option Ed:=(gget m ((c:Int),v)).map λt=>((c:Int),v,t)
def Qlp (m:List ((Int×Int)×Int)) (al:LI) (n:Nat):List Ed:=(List.range' 0 n).flatMap λc=>al.filterMap (Qlq m c)
def Qls (s:QQ) (l:List KL) (cls:LI):QQ:=⟨s.al,QkF cls+1,(Qkv s l cls).1,Qlp (Qkv s l cls).2 s.al (QkF cls+1).toNat⟩
def red (p s:QQ):QQ:=Qls s (ctls p s (opQ p s)) (Qk0 p s (opQ p s))
def rdE (p s:QQ):Int:=if opE p s≠0 then opE p s else if opQ p s=[] then 0 else Jn (red p s)
theorem Jb {l:LI}{i:Nat}(h:i<l.length):cget l i∈l:=by rw[←Zi h];exact Li h
theorem Zd {α:Type}(a:α) {Q:Prop}(h:∀b,a=b→Q):Q:=h a O
theorem zx {N:Nat}{H:Array Obj}{a:QQ}{I J S n1 E G:Nat}(h1:QZ H I 3 (a.al.map (.int .i64))) (h2:QZ H J 3 (a.mr.map (.int .i64))) (h3:QZ H S 144 (a.ed.flatMap Qw)) (g1:N≤I) (g2:N≤J) (g3:N≤S)
  (V:a.al.length=n1) (l2:a.mr.length=E) (Y:a.ed.length=G) (m1:n1≤1000) (m2:E≤1000) (m3:G≤1000) :
  YO N H (.agg #[.slice (some ⟨I,0,none⟩) n1 n1,.int .i64 a.st,.slice (some ⟨J,0,none⟩) E E,.slice (some ⟨S,0,none⟩) G G]) a:=by
 subst V l2 Y;refine ⟨_,_,_,O,λL T=>⟨?_,?_,?_⟩⟩
 ·exact h1.arr (λhb=>by have:=T _ hb;omega) (by simp) (by omega) (Lr _)
 ·exact h2.arr (λhb=>by have:=T _ hb;omega) (by simp) (by omega) (Lr _)
 exact h3.arr (λhb=>by have:=T _ hb;omega) (by rw[JR _ 3 XN]) (by omega) (Lr _)
end Go.Proofs.YtdffckgdcegpaaaGreatDoor
namespace Go.Lg
section
variable {P:Program} {n:Nat} {f:Fr} {w:World} {d:Option Nat} {ty:Nat} {ps:String} {af:Array Edge} {gd:Option (Nat×Bool)}
class Ay (P:Program) (t:Nat) (m e sz:outParam Nat):Prop where
 u:P.underlying t=some (.array m e)
 i:(P.info? e).map (·.size)=some sz
theorem ZI {x y:Operand}{t m e sz:Nat}[h:Ay P t m e sz] {b o:Nat}{k:IntKind}{i:Nat}(hx:ev f x=.pointer (some ⟨b,o,none⟩)) (hy:ev f y=.int k i) (h1:i<m) :
  (execOp (ev f) ⟨d,.indexAddr t x y,ty,ps,af,gd⟩).run P w=.ok (.value (.pointer (some ⟨b,o+i*sz,none⟩))) w:=by
 have hi:=h.i;cases E:P.info? e with
 | none=>simp[E] at hi
 | some ii =>
  simp[E] at hi;simp[execOp,hx,hy,Instr.indexAt,asIntOf,run_underlying h.u,Instr.sureAddr,sizeOf,typeInfo,E,hi,JM];intro h2;omega
theorem Qig {a b:Nat}(ha:a<256):inK .u8 ((a &&& b:Nat):Int):=by
 have:a &&& b≤a:=Nat.and_le_left;exact ⟨by omega,by omega⟩
theorem UG {t E:Nat}{x y:Operand}{a b:Nat}(hx:ev f x=.int .u8 a) (hy:ev f y=.int .u8 b) (ha:a<256) (hb:b<256) :
  (execOp (ev f) ⟨d,.binOp .and t x y E,ty,ps,af,gd⟩).run P w=.ok (.value (.int .u8 ((a &&& b:Nat):Int))) w:=by
 refine YZ hx hy ?_;simp only[binOp,Op.intBits,BitVec.ofInt_natCast,ne_eq,not_true_eq_false,if_false,Sem.run_pure];rw[BitVec.toNat_and,BitVec.toNat_ofNat,BitVec.toNat_ofNat,Mj (show a<2 ^ IntKind.u8.bits from ha),Mj (show b<2 ^ IntKind.u8.bits from hb),Yi (Qig ha)]
theorem zH (m i:Nat):((m:Int) / 2 ^ i)=((m / 2 ^ i:Nat):Int):=by rw[Int.natCast_ediv,Int.natCast_pow];rfl
end
inductive Pt where
 | pl (l:List (Nat×Bool))
 | fk (pre:List (Nat×Bool)) (i j:Nat) (t1 t2:Pt)
def J1 (all:Array Oper):List (Nat×Bool)→Array Bool→Bool
 | [],_=>true
 | (k,q)::pl,ls=>q && (Region.ready .any all ls).contains k && Region.free .any all ls k && J1 all pl (ls.setIfInBounds k true)
def Z0:List (Nat×Bool)→Array Bool→Array Bool
 | [],ls=>ls
 | (k,_)::pl,ls=>Z0 pl (ls.setIfInBounds k true)
def XT (P:Program) (all:List Oper) (C:World→Prop) (K:Fr→World→Prop):Pt→Fr→World→Prop
 | .pl l=>XP P all C K l
 | .fk pre i j t1 t2=>XP P all C (λf w=>(Yh all f (Q4 all i)=true∧XO P (Q4 all i) f w λE w'=>C w'∧XT P all C K t1 E w') ∧
   (Yh all f (Q4 all j)=true∧XO P (Q4 all j) f w λE w'=>C w'∧XT P all C K t2 E w')) pre
section
variable {P:Program} {n:Nat} {f:Fr} {w:World} {all:List Oper} {C:World→Prop} {K B:Fr→World→Prop}
theorem YJ:∀(pl:List (Nat×Bool)) (ls:Array Bool),(Z0 pl ls).size=ls.size
 | [],_=>rfl
 | (k,q)::pl,ls=>by rw[Z0,YJ];simp
theorem YI {m:Nat}(hs:Region.noSelect all.toArray=true):∀(pl:List (Nat×Bool)) (ls:Array Bool) (f:Fr) (w:World),C w→J1 all.toArray pl ls=true →
  (∀f,B f w→XA P all C K m (Z0 pl ls) f w)→XP P all C B pl f w→XA P all C K (pl.length+m) ls f w
 | [],ls,f,w,hC,hp,G,h=>by
  simp only[XP] at h;rw[List.length_nil,LP];exact G f h
 | (H,q)::pl,ls,f,w,hC,hp,G,h=>by
  simp only[J1,Bool.and_eq_true] at hp;obtain ⟨⟨⟨rfl,hr⟩,hf⟩,T⟩:=hp;simp only[XP] at h;have J:H∈Region.ready .any all.toArray ls:=by simpa using hr
  have e:(List.length ((H,true)::pl))+m=(pl.length+m)+1:=by simp;omega
  rw[e];cases E:all[H]? with
  | none =>
   exfalso;obtain ⟨_,o,ha,_⟩:=mem_ready.1 J;simp[E] at ha
  | some o =>
   rw[Zm E] at h;have V:∀(j:Nat) (o:Oper) cs b,all[j]?=some o→o.op≠.select cs b:=λj o cs b S=>Region.noSelect_spec hs j o cs b (by simpa using S);have Y:=λj oj S=>Region.free_spec (ops:=all.toArray) (md:=.any) (i:=H) (oi:=o) (listed:=ls) (by simpa using E) hf j oj (by simpa using S);cases I:Yh all f o with
   | false =>
    rw[I] at h;exact Y4 (v:=undef) (D:=λw=>qw o=true→C w) E (λ_ h=>h) V _ ls f w (λ_=>hC) Y J (.inr ⟨I,O⟩) (YI hs pl _ _ _ hC T G h)
   | true =>
    rw[I] at h;simp only[cond_true] at h;obtain ⟨v,hv,hx⟩:=h;exact Y4 (v:=v) (D:=λw=>qw o=true→C w) E (λ_ h=>h) V _ ls f w (λ_=>hC) Y J (.inl ⟨I,hv⟩) (YI hs pl _ _ _ hC T G hx)
end
end Go.Lg
namespace Go.Proofs.YtdffckgdcegpaaaGreatDoor
open Go.Lg
theorem Yg.lt_of {a:Int}{l:LI}(h:Yg (a::l)) {x:Int}(hx:x∈l):a<x:=(LU.1 h).1 x hx
theorem Yg.tail {a:Int}{l:LI}(h:Yg (a::l)):Yg l:=(LU.1 h).2
theorem QbQ (keep:Bool→Bool→Bool):∀(n:Nat) (a b:LI),a.length+b.length≤n→Yg a→Yg b→∀x,x∈mrg keep a b↔(x∈a∨x∈b)∧keep (decide (x∈a)) (decide (x∈b))=true:=by
 intro n;induction n with
 | zero =>
  intro a b h _ _ x;have ha:a=[]:=Lp (by omega);have hb:b=[]:=Lp (by omega);subst ha hb;simp[Jj]
 | succ n ih =>
  intro a b E ia ib x;cases a with
  | nil =>
   cases b with
   | nil=>simp[Jj]
   | cons y b =>
    rw[X7 keep (by simp)];have:=ih [] b (by simp at E ⊢;omega) ia ib.tail x;have hy:y∉b:=λh=>by have:=ib.lt_of h;omega
    simp only[Xh,tl,hx,cond_true,cond_false,List.tail_cons,List.headD_cons,List.mem_append];rw[this];by_cases e:x=y
    ·subst e;cases hk:keep false true <;> simp[hk,hy]
    cases keep false true <;> simp[e]
  | cons u a =>
   cases b with
   | nil =>
    rw[X7 keep (by simp)];have:=ih a [] (by simp at E ⊢;omega) ia.tail ib x;have hy:u∉a:=λh=>by have:=ia.lt_of h;omega
    simp only[Xh,tl,hx,cond_true,cond_false,List.tail_cons,List.headD_cons,List.mem_append];rw[this];by_cases e:x=u
    ·subst e;cases hk:keep true false <;> simp[hk,hy]
    cases keep true false <;> simp[e]
   | cons y b =>
    rw[X7 keep (by simp)];have hu:u∉a:=λh=>by have:=ia.lt_of h;omega
    have hy:y∉b:=λh=>by have:=ib.lt_of h;omega
    rcases Int.lt_trichotomy u y with h1 | h1 | h1
    ·have G:u∉y::b:=λh=>by
      rcases Lb.1 h with h | h
      ·omega
      have:=ib.lt_of h;omega
     have:=ih a (y::b) (by simp at E ⊢;omega) ia.tail ib x;have e1:decide (u≤y)=true:=decide_eq_true (by omega);have e2:decide (y≤u)=false:=decide_eq_false (by omega);simp only[Xh,tl,hx,e1,e2,cond_true,cond_false,List.tail_cons,List.headD_cons,List.mem_append];rw[this];by_cases e:x=u
     ·subst e;cases hk:keep true false <;> simp[hk,hu,G]
     cases keep true false <;> simp[e]
    ·subst h1;have:=ih a b (by simp at E ⊢;omega) ia.tail ib.tail x;have e1:decide (u≤u)=true:=decide_eq_true (by omega);simp only[Xh,tl,hx,e1,cond_true,List.tail_cons,List.headD_cons,List.mem_append];rw[this];by_cases e:x=u
     ·subst e;cases hk:keep true true <;> simp[hk,hu,hy]
     cases keep true true <;> simp[e]
    have G:y∉u::a:=λh=>by
     rcases Lb.1 h with h | h
     ·omega
     have:=ia.lt_of h;omega
    have:=ih (u::a) b (by simp at E ⊢;omega) ia ib.tail x;have e1:decide (u≤y)=false:=decide_eq_false (by omega);have e2:decide (y≤u)=true:=decide_eq_true (by omega);simp only[Xh,tl,hx,e1,e2,cond_true,cond_false,List.tail_cons,List.headD_cons,List.mem_append];rw[this];by_cases e:x=y
    ·subst e;cases hk:keep false true <;> simp[hk,hy,G]
    cases keep false true <;> simp[e]
theorem Um {keep:Bool→Bool→Bool}{a b:LI}(ia:Yg a) (ib:Yg b) (x:Int):x∈mrg keep a b↔(x∈a∨x∈b)∧keep (decide (x∈a)) (decide (x∈b))=true :=
 QbQ keep _ a b (Lr _) ia ib x
def setK (m k:Nat):LI:=((List.range' 0 k).filter λi=>decide (((m / 2 ^ i) &&& 1)=1)).map λi:Nat=>(i:Int)
theorem Vw (m k:Nat):setK m (k+1)=if (m / 2 ^ k) &&& 1=1 then setK m k++[(k:Int)] else setK m k:=by
 unfold setK;rw[L8,L0,Lt,LP];by_cases h:(m / 2 ^ k) &&& 1=1
 ·rw[if_pos h,L9,if_pos (decide_eq_true h)];rfl
 rw[if_neg h,L9,if_neg (by rw[decide_eq_false h];simp),M2,Nn,LF]
theorem YY (m:Nat):∀k,(setK m k).length≤k
 | 0=>by simp[setK]
 | k+1=>by
  have:=YY m k;rw[Vw];split
  ·simp;omega
  omega
theorem JG (m k:Nat):Yg (setK m k):=by
 unfold setK Yg;rw[MJ];refine List.Pairwise.sublist MI ?_;exact (M1 (s:=0) (n:=k)).imp (λh=>by omega)
open Go.Proofs.Tryz
instance ayCx1:Ay prog 119 4 5 1:=⟨by kernel_rfl,by kernel_rfl⟩
end Go.Proofs.YtdffckgdcegpaaaGreatDoor
namespace Go.Lg
section
variable {P:Program} {f:Fr} {w:World} {K:Fr→World→Prop} {d:Option Nat} {ty:Nat} {ps:String} {af:Array Edge} {gd:Option (Nat×Bool)}
theorem V5 {t ty e sz bys:Nat}{z:Value}[h:Sl P t e sz bys z] {base:Nat}{v:Value}{n:Nat}{cs:LV}(E:w.ownsRow base e sz v n cs) :
  (Builtin.append_ #[t,t] ty #[v,nS]).run P w=.ok v w:=by
 obtain ⟨i,hi,_,H,_⟩:=Sl.info h;rcases E.2 with ⟨rfl,rfl⟩ | ⟨g,cap,cur,rfl,I,J,G,S,T,V⟩
 ·simp[Builtin.append_,run_underlying h.u,sizeOf,typeInfo,hi,Builtin.lenOf,Builtin.firstCells]
 simp[Builtin.append_,run_underlying h.u,sizeOf,typeInfo,hi,Builtin.lenOf,Builtin.firstCells,G,storeCells]
theorem zZ {t e sz bys:Nat}{z:Value}[h:Sl P t e sz bys z] {s y:Operand}{base:Nat}{v:Value}{n:Nat}{cs:LV}(E:w.ownsRow base e sz v n cs) (hs:ev f s=v)
  {H:Value} {m:Nat} {news:LV} {L:LN} (G:Zp L w.heap H m sz news) (hy:ev f y=H) (h1:∀u∈news,u.oneCell'=true)
  (hb:n+m≤1099511627776) (J:base≤w.heap.size)
  (I:∀v' w',w'.ownsRow base e sz v' (n+m) (cs++news)→Step (ob v) w w'→(∀b∈ob v',b∈ob v∨w.heap.size≤b)→K (QV f d v') w') (S:bys≤128:=by decide) :
  XO P ⟨d,.call ⟨.builtin .append,#[s,y],#[t,t]⟩,ty,ps,af,gd⟩ f w K:=by
 rcases G.2.2 with ⟨e1,e2⟩ | ⟨a,c,e1,_,e3⟩
 ·subst e2;have T:news=[]:=Lp (by have:=G.1;simpa using this);subst T;have V:(execOp (ev f) ⟨d,.call ⟨.builtin .append,#[s,y],#[t,t]⟩,ty,ps,af,gd⟩).run P w=.ok (.value v) w:=by
   simp[execOp,resolve,invoke,builtin,hs,hy,e1,V5 (ty:=ty) E]
  exact xv V (I v w (by simpa using E) (Step.refl _ _) (λb hb=>.inl hb))
 exact Q2 E hs (hy.trans e1) G.1 e3 h1 hb J I S
end
end Go.Lg
namespace Go.Proofs.YtdffckgdcegpaaaGreatDoor
open Go.Proofs.Tryz
open Go.Lg
theorem Qb3 {L:LN}{w:World}{v:Value}{l:LI}(h:QL L w.heap v l) (x:Int) :
  QK prog 254 [v,.int .i64 x] w λr w'=>r=.bool (decide (x∈l))∧w'=w:=by
 have J:=h.le;refine QK.of_W func254 O ntmps254 results254 (by simp) ?_;refine Qc<|Lg.Qe<|Qf<|Qc<|Lg.Qe<|Qh<|QB (α:=Nat) [(4,17)] (λk=>[(5,.int .i64 k)]) (λk w'=>w'=w∧k≤l.length∧(x∈l↔x∈l.drop k)) (λk=>l.length - k) (by rfl) 0 Z ⟨O,Lk _,by simp⟩ ?_;rintro k g w' ⟨rfl,hk,hm⟩;refine Qf<|Qc<|Lg.Qb<|Lg.Qb<|Lg.x (Qs h O)<|Lg.x (QA O O)<|xe<|QG rfl (λh9=>?_) (λh9=>?_)
 ·refine Qz<|Qc<|Lg.Qe<|Qn ⟨[.bool false],Z,?_,O⟩;rw[Lq (by omega)] at hm;simp[tup,hm]
 have H:k<l.length:=by omega
 have hd:=QY H;refine Qi<|Qf<|Qh<|Qc<|Lg.Qb<|Lg.Qb<|xii h O O H λS I=>Lg.x (Qx I O)<|Lg.Qb<|Lg.x (Q5 O O)<|xe<|Q6 rfl (λG=>?_) (λG=>?_)
 ·refine Qc<|Lg.Qe<|Qn ⟨[.bool true],Z,?_,O⟩;have:x∈l:=by rw[hm,hd,G];exact Ln
  simp[tup,this]
 refine Qi<|Qy<|Lg.Qb<|Lg.QP O O<|Lg.Qe<|⟨k+1,by omega,Z,O,by omega,?_⟩;rw[hm,hd,Lb];exact ⟨λh=>h.resolve_left (λe=>G e.symm),.inr⟩
theorem yS {L:LN}{w:World}{va vm ve:Value}{a:QQ}(h:qq L w.heap ve a.ed) (s e:Int) (st:Int) :
  QK prog 255 [.agg #[va,.int .i64 st,vm,ve],.int .i64 s,.int .i64 e] w λr w'=>r=.int .i64 (nxt a.ed s e)∧Step [] w w':=by
 have hf:=h.le;refine QK.of_W func255 O ntmps255 results255 (by simp) ?_;refine Qc<|xl O<|QS (us:=[va,.int .i64 st,vm,ve]) O λb3 V J hg G=>Lg.Qe ?_
 replace h:=h.ext J;refine Qf<|Qc<|Lg.Qe<|Qh<|QB (α:=Nat) [(6,38)] (λk=>[(7,.int .i64 k)]) (λk w'=>w'=V∧k≤a.ed.length∧nxt (a.ed.drop k) s e=nxt a.ed s e) (λk=>a.ed.length - k) (by rfl) 0 Z ⟨O,Lk _,O⟩ ?_;rintro k g Y ⟨rfl,hk,H⟩;refine Qf<|Qc<|Lg.Qb<|Lg.x (Qa O)<|Lg.x (Qd G O O)<|Lg.x (Qs h O)<|Lg.x (QA O O)<|xe<|QG rfl (λha=>?_) (λha=>?_)
 ·refine Qz<|Qc<|Lg.Qe<|Qn ⟨[.int .i64 (-1)],Z,?_,J⟩;rw[Lq (by omega)] at H;rw[←H];rfl
 have I:k<a.ed.length:=by omega
 have hd:=QY I;refine Qi<|Qf<|Qh<|QU (α:=Bool) [(15,32)] (λz=>[(32,.bool z)]) (λz w'=>w'=Y∧z=decide (a.ed[k].1=s∧a.ed[k].2.1=e)) (by rfl) ?_ ?_
 ·refine Qy<|Lg.x (Qa O)<|Lg.x (Qd G O O)<|Lg.Qb<|xie h O O I λhh hb=>Lg.x (Zl O)<|Lg.x (Qx (hb.fld 0 _ O) O) <|
   Lg.Qb<|xb (Q5 O O) (λS=>?_) (λS=>?_)
  ·refine Lg.Qb<|Lg.x (Qa O)<|Lg.x (Qd G O O)<|Lg.Qb<|xie h O O I λhi hc=>Lg.x (Zl O)<|Lg.x (Qx (hc.fld 1 _ O) O) <|
    Lg.Qb<|Lg.x (Q5 O O)<|Lg.x (Qm O)<|xe ?_
   exact ⟨_,Z,O,by simp[S]⟩
  refine Lg.Qb<|xs O<|xs O<|xs O<|xs O<|xs O<|xs O<|xs O<|xs O<|Lg.x (Qm O)<|xe ?_;exact ⟨_,Z,O,by simp[S]⟩
 rintro z g w3 ⟨rfl,rfl⟩;refine Q6 rfl (λT=>?_) (λT=>?_)
 ·refine Qc<|Lg.x (Qa O)<|Lg.x (Qd G O O)<|Lg.Qb<|xie h O O I λhj he=>Lg.x (Zl O)<|Lg.x (Qx (he.fld 2 _ O) O) <|
   Lg.Qe<|Qn ⟨[.int .i64 a.ed[k].2.2],Z,?_,J⟩
  rw[←H,hd,nxt,if_pos T];rfl
 refine Qi<|Qy<|Lg.Qb<|Lg.QP O O<|Lg.Qe<|⟨k+1,by omega,Z,O,by omega,?_⟩;rw[←H,hd,nxt,if_neg T]
def UR (l:LI) (n:Int):Int:=if n∈l then (l.idxOf n:Int) else -1
theorem Qff {l:LI}{n:Int}{k:Nat}(h:n∉l.take k) (hk:k<l.length) (he:cget l k=n):UR l n=k:=by
 have hm:n∈l:=by rw[←he,←Zi hk];exact Li hk
 unfold UR;rw[if_pos hm];have hs:l=l.take k++l.drop k:=(MC k l).symm;have:l.idxOf n=k:=by
  rw[hs,L2,if_neg h,LK hk,List.idxOf_cons,show l[k]=n by rw[Zi hk];exact he];simp;omega
 rw[this]
theorem Qc6 {L:LN}{w:World}{v:Value}{l:LI}(h:QL L w.heap v l) (n:Int) :
  QK prog 256 [v,.int .i64 n] w λr w'=>r=.int .i64 (UR l n)∧w'=w:=by
 have J:=h.le;refine QK.of_W func256 O ntmps256 results256 (by simp) ?_;refine Qc<|Qe<|Qf<|Qc<|Qe<|Qh<|QB (α:=Nat) [(4,18)] (λz=>[(5,.int .i64 z)]) (λz w'=>w'=w∧z≤l.length∧n∉l.take z) (λz=>l.length - z) (by rfl) 0 Z ⟨O,Lk _,by simp⟩ ?_;rintro k g S ⟨rfl,hk,hm⟩;refine Qf<|Qc<|Qb<|Qb<|x (Qs h O)<|x (QA O O)<|xe<|QG rfl (λh9=>?_) (λh9=>?_)
 ·refine Qz<|Qc<|Qe ?_;rw[Lm (by omega)] at hm;exact Qn ⟨[.int .i64 (-1)],Z,by unfold UR;rw[if_neg hm];rfl,O⟩
 have G:k<l.length:=by omega
 refine Qi<|Qf<|Qh<|Qc<|Qb<|Qb<|xic (i:=k) h O O G λT I=>x (Qx I O)<|Qb<|x (Q5 O O)<|xe<|Q6 rfl (λH=>?_) (λH=>?_)
 ·refine Qc<|Qb<|Qe ?_;exact Qn ⟨[.int .i64 k],Z,by rw[Qff hm G H];rfl,O⟩
 refine Qi<|Qy<|Qb<|QP O O<|Qe<|⟨k+1,by omega,Z,O,G,?_⟩;rw[Le G,Zi G];simp only[List.mem_append,List.mem_singleton,not_or];exact ⟨hm,λe=>H e.symm⟩
theorem VJ {L:LN}{w:World}{v:Value}{l:LI}(h:QL L w.heap v l) (hl:l.length≤1000000) :
  QK prog 200 [v] w λr w'=>Step [] w w'∧∃va,r=.agg #[va,.int .i64 0,nS,nS]∧Qu 3 w.heap.size w' va l:=by
 refine QK.of_W func200 O ntmps200 results200 (by simp) ?_;refine Qc<|xl O<|Qt (us:=[nS,.int .i64 0,nS,nS]) O λb2 G T he V=>xe ?_;have hf:=T.size;have hg:=V.lt;refine Qc<|xl O<|Kp λb3 w2 H hh hi=>Qb<|?_;have Y:=T.trans H;have hp:=H.size;have I:w2.ownsRow G.heap.size 3 1 (.slice (some ⟨b3,0,none⟩) 0 0) 0 []:=hi.own (n:=0) (sz:=1) O (by omega) hh
 refine xl rfl<|zZ I O (h.ext Y) O (KY l) (by omega) (by omega) λva J hj ha hq=>?_;have S:Qu 3 G.heap.size J va l:=by
  have:J.ownsRow G.heap.size 3 1 va (0+l.length) ([]++l.map (.int .i64)):=hj;rw[LP,Md] at this;exact this
 have hA:=Qu.ints (L:=[]) S (by omega) (by simp);have hk:=(V.ext H).step ha (QM I hg);have hm:Step [] w J:=Y.then ha (λb hb=>.inr (by have:=(Qk I b hb).1;omega));refine x (QD ⟨hA.cells,U⟩)<|xl O<|Qp (us:=[va,.int .i64 0,nS,nS]) hk O O O O ⟨hA.one,O,O,O,U⟩ λw4 hc hn=>xe ?_;have ho:=Qj S hc (λb hb=>by have:=(Qk S b hb).1;simp;omega)
 exact Qn ⟨[.agg #[va,.int .i64 0,nS,nS]],⟨⟨_,O,Qv O (hn.at (L:=[]) (by simp)).cells⟩,U⟩,hm.then1 hc he,va,rfl,Zq ho hf⟩
theorem pig:∀(n:Nat) (l:LI),l.Nodup→(∀x∈l,0≤x∧x<n)→l.length≤n
 | 0,l,_,h=>by
  cases l with
  | nil=>simp
  | cons a l=>have:=h a Ln;omega
 | n+1,l,hd,h=>by
  by_cases hm:(n:Int)∈l
  ·have h1:=pig n (l.erase (n:Int)) (hd.erase _) (λx hx=>by
    have h2:=(List.Nodup.mem_erase_iff hd).1 hx;have h3:=h x h2.2;have G:x≠(n:Int):=h2.1;omega)
   rw[List.length_erase_of_mem hm] at h1;omega
  have:=pig n l hd (λx hx=>by
   have h3:=h x hx;have G:x≠(n:Int):=λe=>hm (by rw[←e];exact hx);omega)
  omega
def KJ (a:QQ) (s:Int) (out:LI) (v:Int):LI:=if 0≤nxt a.ed s v∧nxt a.ed s v∉out then out++[nxt a.ed s v] else out
def fdR (a:QQ) (out:LI) (s:Int):LI:=a.al.foldl (KJ a s) out
def zi (a:QQ):Nat→Nat→LI→LI
 | 0,_,out=>out
 | f+1,i,out=>if i<out.length then zi a f (i+1) (fdR a out (cget out i)) else out
def fd0 (a:QQ):LI:=if 0<a.st then [0] else []
def found (a:QQ):LI:=zi a a.st.toNat 0 (fd0 a)
structure Uc (a:QQ) (out:LI):Prop where
 b:∀x∈out,0≤x∧x<a.st
 d:out.Nodup
theorem Uc.len {a:QQ}{out:LI}(h:Uc a out) (G:0≤a.st):out.length≤a.st.toNat:=pig _ _ h.d (λx hx=>by have:=h.b x hx;omega)
theorem z1 {G:List Ed}{s v:Int}(h:0≤nxt G s v):(s,v,nxt G s v)∈G:=by
 induction G with
 | nil=>simp[nxt] at h
 | cons e G ih =>
  rw[nxt] at h ⊢;split at h
  ·rename_i he;rw[if_pos he];obtain ⟨p,q,r⟩:=e;obtain ⟨h1,h2⟩:=he;simp only[] at h1 h2;subst h1 h2;exact Ln
  rename_i he;rw[if_neg he];exact Ll _ (ih h)
theorem QfB {a:QQ}(G:Q8 a) {out:LI}(h:Uc a out) (s v:Int):Uc a (KJ a s out v):=by
 unfold KJ;split
 ·rename_i hc;have hm:=G.ed _ (z1 hc.1);refine ⟨λx hx=>?_,?_⟩
  ·rcases Lj.1 hx with hx | hx
   ·exact h.b x hx
   simp only[List.mem_singleton] at hx;subst hx;exact ⟨hc.1,hm.2.2.2.2⟩
  rw[MP];refine ⟨h.d,by simp,λx hx y hy=>?_⟩;simp only[List.mem_singleton] at hy;subst hy;exact λe=>hc.2 (by rw[←e];exact hx)
 exact h
theorem QhP {a:QQ}{out:LI}{s v:Int}:∀x∈out,x∈KJ a s out v:=λx hx=>by unfold KJ;split;exact LL _ hx;exact hx
theorem QjC {a:QQ}{out:LI}{s v:Int}(h:0≤nxt a.ed s v):nxt a.ed s v∈KJ a s out v:=by
 unfold KJ;by_cases hm:nxt a.ed s v∈out
 ·rw[if_neg (λe=>e.2 hm)];exact hm
 rw[if_pos ⟨h,hm⟩];simp
theorem Qfz {a:QQ}(G:Q8 a) (s:Int):∀(vs:LI) (out:LI),Uc a out→Uc a (vs.foldl (KJ a s) out)
 | [],_,h=>h
 | v::vs,_,h=>Qfz G s vs _ (QfB G h s v)
theorem yt {a:QQ}{s:Int}:∀(vs:LI) (out:LI),∀x∈out,x∈vs.foldl (KJ a s) out
 | [],_,_,hx=>hx
 | _::vs,_,x,hx=>yt vs _ x (QhP x hx)
theorem QfA {a:QQ}{s:Int}:∀(vs:LI) (out:LI),∀v∈vs,0≤nxt a.ed s v→nxt a.ed s v∈vs.foldl (KJ a s) out
 | v::vs,out,u,hu,h=>by
  rcases Lb.1 hu with rfl | hu
  ·exact yt vs _ _ (QjC h)
  exact QfA vs _ u hu h
theorem Qb6 {a:QQ}{s:Int}:∀(vs:LI) (out:LI),∃r,vs.foldl (KJ a s) out=out++r
 | [],out=>⟨[],by simp⟩
 | v::vs,out=>by
  obtain ⟨r,G⟩:=Qb6 (a:=a) (s:=s) vs (KJ a s out v);rw[LJ,G];unfold KJ;split
  ·exact ⟨[nxt a.ed s v]++r,by simp⟩
  exact ⟨r,O⟩
theorem qa {l r:LI}{i:Nat}(h:i<l.length):cget (l++r) i=cget l i:=by
 rw[←Zi h,←Zi (by simp;omega),Mm h]
def Cl (a:QQ) (out:LI) (i:Nat):Prop:=∀j,j<i→j<out.length→∀v∈a.al,0≤nxt a.ed (cget out j) v→nxt a.ed (cget out j) v∈out
theorem Cl.next {a:QQ}{out:LI}{i:Nat}(h:Cl a out i) (hi:i<out.length):Cl a (fdR a out (cget out i)) (i+1):=by
 intro j T V v H G;obtain ⟨r,S⟩:=Qb6 (a:=a) (s:=cget out i) a.al out;have I:fdR a out (cget out i)=out++r:=S;have J:j<out.length:=by omega
 rw[I,qa J] at G ⊢;by_cases e:j=i
 ·subst e;have:=QfA a.al out v H G;rw[←I];exact this
 exact LL _ (h j (by omega) J v H G)
theorem Qfy {a:QQ}(G:Q8 a):∀(f i:Nat) (out:LI),Uc a out→Cl a out i→i+f=a.st.toNat→Uc a (zi a f i out)∧Cl a (zi a f i out) (zi a f i out).length
 | 0,i,out,h,hc,J=>by
  have:=h.len G.st0;exact ⟨h,λj I H=>hc j (by rw[zi] at I;omega) H⟩
 | f+1,i,out,h,hc,J=>by
  rw[zi];split
  ·rename_i hi;exact Qfy G f (i+1) _ (Qfz G _ _ _ h) (hc.next hi) (by omega)
  rename_i hi;exact ⟨h,λj I H=>hc j (by omega) H⟩
theorem QfC (a:QQ):Uc a (fd0 a):=by
 unfold fd0;split
 ·rename_i h;exact ⟨λx hx=>by simp only[List.mem_singleton] at hx;subst hx;exact ⟨by omega,h⟩,by simp⟩
 exact ⟨by simp,by simp⟩
theorem Vb {a:QQ}(I:Q8 a):Uc a (found a)∧∀s∈found a,∀v∈a.al,0≤nxt a.ed s v→nxt a.ed s v∈found a:=by
 obtain ⟨h1,h2⟩:=Qfy I a.st.toNat 0 (fd0 a) (QfC a) (λj G=>by omega) (by omega);refine ⟨h1,λs hs v J H=>?_⟩;obtain ⟨j,G,rfl⟩:=LE hs;have:=h2 j G G v J;unfold found at G H ⊢;rw[Zi G] at H ⊢;exact this H
def Jp (a:QQ) (fd:LI) (i:Nat) (v:Int):Option Ed:=if 0≤nxt a.ed (cget fd i) v then some ((i:Int),v,UR fd (nxt a.ed (cget fd i) v)) else none
def Ys (a:QQ) (fd:LI) (n:Nat):LI:=((List.range' 0 n).filter λi=>decide (cget fd i∈a.mr)).map λi:Nat=>(i:Int)
def YG (a:QQ) (fd:LI) (n:Nat):List Ed:=(List.range' 0 n).flatMap λi=>a.al.filterMap (Jp a fd i)
def Yv (a:QQ):QQ:=⟨a.al,(found a).length,Ys a (found a) (found a).length,YG a (found a) (found a).length⟩
theorem Xg {β:Type}{r:Int→Int→Prop}{q:β→β→Prop}{g:Int→Option β}(G:∀x y u v,r x y→g x=some u→g y=some v→q u v):∀{l:LI},l.Pairwise r→(l.filterMap g).Pairwise q
 | [],_=>by simp
 | x::l,h=>by
  obtain ⟨h1,h2⟩:=LU.1 h;rw[L5];split
  ·exact Xg G h2
  rename_i u hu;refine LU.2 ⟨λv H=>?_,Xg G h2⟩;obtain ⟨y,hy,I⟩:=Ml.1 H;exact G x y u v (h1 y hy) hu I
theorem yC {a:QQ}(H:Q8 a):Q8 (Yv a)∧(Yv a).al=a.al∧(Yv a).st≤a.st:=by
 obtain ⟨h1,h2⟩:=Vb H;have hl:=h1.len H.st0;have h0:=H.st0;have h4:=H.st1;refine ⟨⟨H.al,H.ali,by simp[Yv],by simp only[Yv];omega,λs hs=>?_,?_,λe he=>?_,?_⟩,O,by simp only[Yv];omega⟩
 ·simp only[Yv,Ys,List.mem_map,List.mem_filter,List.mem_range'_1] at hs;obtain ⟨i,⟨hi,_⟩,rfl⟩:=hs;simp only[Yv];omega
 ·simp only[Yv,Ys];unfold Yg;rw[MJ];refine List.Pairwise.sublist MI ?_;exact (M1 (s:=0) (n:=(found a).length)).imp (λh=>by omega)
 ·simp only[Yv,YG,List.mem_flatMap,List.mem_filterMap,List.mem_range'_1] at he;obtain ⟨i,⟨_,hi⟩,v,I,G⟩:=he;unfold Jp at G;split at G
  ·rename_i S;cases G
   have J:i<(found a).length:=by omega
   have hm:=h2 (cget (found a) i) (by rw[←Zi J];exact Li J) v I S;have hx:=Me hm;simp only[Yv];unfold UR;rw[if_pos hm];exact ⟨by omega,by omega,I,by omega,by omega⟩
  cases G
 simp only[Yv,YG];have key:∀(is:LN),is.Pairwise (·<·)→(is.flatMap λi=>a.al.filterMap (Jp a (found a) i)).Pairwise λx y:Ed=>x.1<y.1∨(x.1=y.1∧x.2.1<y.2.1):=by
  intro is;induction is with
  | nil=>intro _;simp
  | cons i is ih =>
   intro hp;obtain ⟨T,V⟩:=LU.1 hp;rw[LD,Mf];have from_i:∀(i:Nat) (e:Ed),e∈a.al.filterMap (Jp a (found a) i)→e.1=i:=by
    intro i e he;obtain ⟨v,_,G⟩:=Ml.1 he;unfold Jp at G;split at G
    ·cases G;rfl
    cases G
   refine ⟨?_,ih V,λe he Y ha=>?_⟩
   ·refine Xg (r:=(·<·)) (λx y u v hb hu I=>?_) H.ali;unfold Jp at hu I;split at hu
    ·cases hu;split at I
     ·cases I;exact .inr ⟨O,hb⟩
     cases I
    cases hu
   obtain ⟨j,hj,hc⟩:=Mi.1 ha;have e1:=from_i i e he;have e2:=from_i j Y hc;have:=T j hj;left;omega
 exact key _ (M1 (s:=0) (n:=(found a).length))
set_option maxHeartbeats 1000000 in
theorem Qc7 {L:LN}{w:World}{va vm ve:Value}{a:QQ}(h:Zt L w.heap va vm ve a) (ho:Q8 a) :
  QK prog 253 [.agg #[va,.int .i64 a.st,vm,ve]] w λr w'=>Step [] w w'∧Qu 3 w.heap.size w' r (found a):=by
 have h0:=ho.st0;have h1:=ho.st1;have hU:=ho.al_le;refine QK.of_W func253 O ntmps253 results253 (by simp) ?_;refine Qc<|xl O<|QS (us:=[va,.int .i64 a.st,vm,ve]) O λb1 S he hV hj=>Qe<|Qc<|Qe ?_;have hA:=he.size;have hW:=hj.lt;refine QU (α:=Value) [(3,3),(7,12)] (λz=>[(3,z)]) (λz w'=>Step [] S w'∧Qu 3 S.heap.size w' z (fd0 a)) (by rfl) ?_ ?_
 ·refine Qc<|x (Qa O)<|x (Qd hj O O)<|x (ZO O O)<|xe<|QG O (λh9=>?_) (λh9=>?_)
  ·refine Qi ?_;exact ⟨nS,Z,Step.refl _ _,by unfold fd0;rw[if_neg h9];exact QN _ _ _ _⟩
  refine Qy<|Qb<|xl O<|QC (us:=[[.int .i64 0]]) O O (by decide) (by simp) ⟨rfl,rfl,U⟩ λhX w2 hw hY hB=>?_;have hn:w2.ownsRow S.heap.size 3 1 (nS) 0 []:=QN _ _ _ _;have hZ:=hw.size;refine xl O<|Q2 (news:=[.int .i64 0]) (L:=[]) hn O O O (hB.at (by simp)) (by simp[Value.oneCell']) (by omega) (by omega) λv3 w3 hC hD ga =>
   Qe<|⟨v3,Z,hw.then hD (λb hb=>by simp[ob] at hb),?_⟩
  unfold fd0;rw[if_pos h9];exact hC
 rintro v0 g4 w4 ⟨hl,hE⟩;have gb:=he.trans hl;have gc:=hl.size;refine Zd (found a) λT hT=>?_;have hF:zi a a.st.toNat 0 (fd0 a)=T:=hT;refine Qf<|Qc<|Qe<|Qh<|QB (α:=Nat×LI×Value) [(3,6),(13,48)] (λz=>[(3,z.2.2),(4,.int .i64 z.1)])
  (λz w'=>Step [] S w'∧Qu 3 S.heap.size w' z.2.2 z.2.1∧Uc a z.2.1∧z.1≤z.2.1.length∧zi a (a.st.toNat - z.1) z.1 z.2.1=T) (λz=>a.st.toNat - z.1) (by rfl) (0,fd0 a,v0) ⟨O,O,U⟩
  ⟨hl,hE,QfC a,Lk _,hF⟩ ?_
 rintro ⟨i,out,v⟩ g5 w5 ⟨hm,V,G,hi,Y⟩;simp only[] at V G hi Y;have hy:=G.len h0;have hz:=Qu.ints (L:=[]) V (by omega) (by simp);refine Qf<|Qc<|Qb<|Qb<|x (Qs hz O)<|x (QA O O)<|xe<|QG rfl (λh2=>?_) (λh2=>?_)
 ·have e:out=T:=by
   rw[←Y];generalize a.st.toNat - i=f;cases f with
   | zero=>rfl
   | succ f=>rw[zi,if_neg (by omega)]
  refine Qz<|Qc<|Qb<|Qe ?_;rw[e] at V;exact Qn ⟨[v],Z,he.trans hm,by rw[hT];exact Zq V hA⟩
 have I:i<out.length:=by omega
 have hG:a.st.toNat - i=(a.st.toNat - (i+1))+1:=by omega
 rw[hG,zi,if_pos I] at Y;refine Zd (cget out i) λs J=>?_;rw[J] at Y;refine Zd (fdR a out s) λR hR=>?_;rw[hR] at Y;unfold fdR at hR;refine Qi<|Qf<|Qh<|Qc<|Qe<|Qh<|QB (α:=Nat×LI×Value) [(3,3),(5,6),(19,48)] (λz=>[(3,z.2.2),(5,.int .i64 z.1)])
  (λz w'=>Step [] S w'∧Qu 3 S.heap.size w' z.2.2 z.2.1∧Uc a z.2.1∧z.1≤a.al.length∧i<z.2.1.length∧cget z.2.1 i=s∧(a.al.drop z.1).foldl (KJ a s) z.2.1=R) (λz=>a.al.length - z.1) (by rfl) (0,out,v) ⟨O,O,U⟩
  ⟨hm,V,G,Lk _,I,J,hR⟩ ?_
 clear hm V G hi hy hz I J hR h2;rintro ⟨k,out,v⟩ g6 w6 ⟨ha,hf,G,hk,I,J,H⟩;simp only[] at hf G hk I J H;have hy:=G.len h0;have h3:=(h.al.ext he).ext ha;have hp:=hj.ext ha;have h4:=Qu.ints (L:=[]) hf (by omega) (by simp);refine Qf<|Qc<|Qb<|x (Qa O)<|x (Qd hp O O)<|x (Qs h3 O)<|x (QA O O)<|xe<|QG rfl (λhH=>?_) (λhH=>?_)
 ·refine Qz<|Qy<|Qb<|QP O O<|Qe ?_;rw[Lq (by omega)] at H;have hI:out=R:=H;exact ⟨(i+1,out,v),by simp only[];omega,⟨O,O,U⟩,ha,hf,G,I,by simp only[];rw[hI];exact Y⟩
 have hg:k<a.al.length:=by omega
 rw[LK hg,LJ,Zi hg] at H;refine Zd (cget a.al k) λu hu=>?_;rw[hu] at H;have hJ:=(h.ed.ext he).ext ha;refine Zd (nxt a.ed s u) λt ht=>?_;have hK:KJ a s out u=if 0≤t∧t∉out then out++[t] else out:=by unfold KJ;rw[ht]
 have hq:=QfB ho G s u;rw[hK] at H hq;refine Qi<|Qf<|Qh<|Qf<|QW (Step [] w6) [(0,true),(1,true),(2,true),(3,true),(4,true),(5,true),(6,true),(7,true),(8,true),(9,true),(10,false),(11,true)] mixed (by rfl) (by kernel_rfl) (Step.drew _ _) ?_;refine pq (λ_ hc=>Qr (hp.ext hc) O O)<|p (λ_=>Qo)<|p (λ_=>Qo)<|pic (i:=i) O h4 O O I λge h5=>?_;rw[J] at h5
 refine pq (λ_ hc=>Qx (h5.ext hc) O)<|p (λ_=>Qa O)<|pq (λ_ hc=>Qd (hp.ext hc) O O)<|p (λ_=>Qo) <|
  pic (i:=k) O h3 O O hg λgg h6=>?_
 rw[hu] at h6;have hsr:=yS (va:=va) (vm:=vm) (a:=a) (hJ.ext (Step.drew [] w6)) s u a.st;rw[ht] at hsr;refine pq (λ_ hc=>Qx (h6.ext hc) O)<|pk<|xf<|hsr.mono ?_;rintro r7 w7 ⟨rfl,hL⟩;have hh:=(Step.drew [] w6).trans hL;refine ⟨hh,p (λ_=>Qg)<|pe ?_⟩;have h7:=Qq hf hh;have hM:=h4.ext hh
 refine QU (α:=Unit) [(37,44)] (λz=>[(44,.bool (decide (0≤t∧t∉out)))]) (λz w'=>w'=w7) (by rfl) ?_ ?_
 ·refine Qy<|Qb<|xb (ZU O O) (λhr=>?_) (λhr=>?_)
  ·refine Qb<|Qb<|Qb<|xl O<|xf<|(Qb3 hM t).mono ?_;rintro r8 w8 ⟨rfl,rfl⟩;refine x (Zr O)<|x (Qm O)<|xe<|⟨(),⟨congrArg Value.bool ?_,U⟩,O⟩;show (!decide (t∈out))=_;rw[Bool.eq_iff_iff];simp[hr]
  refine Qb<|xs O<|xs O<|xs O<|xs O<|x (Qm O)<|xe ?_;exact ⟨(),⟨congrArg Value.bool (decide_eq_false (λe=>hr e.1)).symm,U⟩,O⟩
 rintro _ g9 w9 rfl;refine QG rfl (λhs=>?_) (λhs=>?_)
 ·rw[if_neg hs] at H;refine Qi<|Qy<|Qb<|QP O O<|Qe ?_;exact ⟨(k+1,out,v),by simp only[];omega,⟨O,O,U⟩,ha.trans hh,h7,G,hg,I,J,H⟩
 rw[if_pos hs] at H hq;have h8:=ha.trans hh;have gh:=h8.size;refine Qy<|Qb<|Qb<|xl O<|QC (us:=[[.int .i64 t]]) O O (by decide) (by simp) ⟨rfl,rfl,U⟩ λgi gj hv gk hN=>?_;have hO:=Qq h7 hv;have gl:=hv.size;refine xl rfl<|Q2 (news:=[.int .i64 t]) (L:=[]) hO O O O (hN.at (by simp)) (by simp[Value.oneCell']) (by omega) (by omega) λhP gm hQ hS gn =>
  Qe ?_
 have hge:=Qk hf;refine Qy<|Qb<|QP O O<|Qe<|⟨(k+1,out++[t],hP),by simp only[];omega,⟨O,O,U⟩,(h8.trans hv).then hS (λb hb=>.inr (hge b hb).1),Qu.snoc hQ,hq,hg,by simp;omega,?_,H⟩;simp only[];rw[qa I];exact J
structure CrI (w7:World) (b4:Nat) (vcl:Value) (n:Int) (vm vd:Value) (M:LI) (E:List Ed) (w:World):Prop where
 st:Step [b4] w7 w
 B:QZ w.heap b4 58 [vcl,.int .i64 n,vm,vd]
 m:Qu 3 w7.heap.size w vm M
 e:Z5 144 w7.heap.size w vd E
 dj:Dj vm vd
section
variable {w7 w w' w'':World} {b4:Nat} {vcl:Value} {n:Int} {vm vd:Value} {M:LI} {E:List Ed}
theorem CrI.ext (h:CrI w7 b4 vcl n vm vd M E w) (hs:Step [] w w'):CrI w7 b4 vcl n vm vd M E w':=⟨h.st.trans hs,h.B.ext hs,Qq h.m hs,Qq h.e hs,h.dj⟩
theorem CrI.setM (h:CrI w7 b4 vcl n vm vd M E w) (hb:b4<w7.heap.size) {G:Value}{M':LI}(hs:Step (ob vm) w w') (hm:Qu 3 w7.heap.size w' G M') (J:∀b∈ob G,b∈ob vm∨w.heap.size≤b) (H:Step [b4] w' w'')
  (S:QZ w''.heap b4 58 [vcl,.int .i64 n,G,vd]):CrI w7 b4 vcl n G vd M' E w'' :=
 ⟨(h.st.then hs (λb hb=>.inr (Qk h.m b hb).1)).trans' H,S,Qj hm H (λb I=>by have:=(Qk hm b I).1;simp;omega),
  Qj (Qj h.e hs h.dj.symm) H (λb I=>by have:=(Qk h.e b I).1;simp;omega),(h.dj.symm.grow J (QR h.e)).symm⟩
theorem CrI.setE (h:CrI w7 b4 vcl n vm vd M E w) (hb:b4<w7.heap.size) {G:Value}{E':List Ed}(hs:Step (ob vd) w w') (hm:Z5 144 w7.heap.size w' G E') (J:∀b∈ob G,b∈ob vd∨w.heap.size≤b) (H:Step [b4] w' w'')
  (S:QZ w''.heap b4 58 [vcl,.int .i64 n,vm,G]):CrI w7 b4 vcl n vm G M E' w'' :=
 ⟨(h.st.then hs (λb hb=>.inr (Qk h.e b hb).1)).trans' H,S,Qj (Qj h.m hs h.dj) H (λb I=>by have:=(Qk h.m b I).1;simp;omega),
  Qj hm H (λb I=>by have:=(Qk hm b I).1;simp;omega),h.dj.grow J (QR h.m)⟩
end
theorem zm (a:QQ) (fd:LI) (k:Nat):Ys a fd (k+1)=if cget fd k∈a.mr then Ys a fd k++[(k:Int)] else Ys a fd k:=by
 unfold Ys;rw[L8,L0,Lt,LP];by_cases h:cget fd k∈a.mr
 ·rw[if_pos h,L9,if_pos (decide_eq_true h)];rfl
 rw[if_neg h,L9,if_neg (by rw[decide_eq_false h];simp),M2,Nn,LF]
theorem jY (a:QQ) (fd:LI):∀k,(Ys a fd k).length≤k
 | 0=>by simp[Ys]
 | k+1=>by
  have:=jY a fd k;rw[zm];split
  ·simp;omega
  omega
theorem Qdk (a:QQ) (fd:LI) (k:Nat):YG a fd (k+1)=YG a fd k++a.al.filterMap (Jp a fd k):=by
 unfold YG;rw[L8,Ly,LP];simp
set_option maxHeartbeats 2000000 in
theorem qI {L:LN}{w:World}{va vm ve:Value}{a:QQ}(h:Zt L w.heap va vm ve a) (T:Q8 a) :
  QK prog 201 [.agg #[va,.int .i64 a.st,vm,ve]] w λr w'=>Step [] w w'∧YO w.heap.size w'.heap r (Yv a):=by
 have h0:=T.st0;have h1:=T.st1;have kt:=T.al_le;have gc:=(Vb T).1;have ge:=gc.len h0;refine QK.of_W func201 O ntmps201 results201 (by simp) ?_;refine Zd (found a) λfd hw=>?_;rw[hw] at ge;have gg:Yv a=⟨a.al,fd.length,Ys a fd fd.length,YG a fd fd.length⟩:=by unfold Yv;rw[hw]
 refine Qc<|xl O<|QS (us:=[va,.int .i64 a.st,vm,ve]) O λb1 w1 hF ku hz=>xl O<|Qt (us:=[nS,.int .i64 0,nS,nS]) O λb2 w2 hn kv hG=>xe ?_;have V:=hF.trans hn;have hfr:=Qc7 (h.ext V) T;rw[hw] at hfr;refine Qc<|x (Qr (hz.ext hn) O O)<|xl O<|xf<|hfr.mono ?_;rintro vf w3 ⟨hp,gh⟩;refine Qe ?_;have hH:=V.trans hp;have hJ:=(hz.ext hn).ext hp
 refine Qc<|x (Qa O)<|x (Qd hJ O O)<|xl O<|xf<|(VJ (h.al.ext hH) (by omega)).mono ?_;rintro r4 w4 ⟨hK,vcl,rfl,Y⟩;have hL:=Qu.ints (L:=[]) Y (by omega) (by simp);refine xl rfl<|Qt (us:=[nS,.int .i64 0,nS,nS]) O λb4 w5 gi gj gk =>
  xl rfl<|Qp (us:=[vcl,.int .i64 0,nS,nS]) gk O O O O ⟨hL.one,O,O,O,U⟩ λw6 gl hM=>xe ?_
 have h2:Step [] w4 w6:=gi.then1 gl gj;have ha:=hK.trans h2;have hN:=Qu.ints (L:=[]) gh (by omega) (by simp);have kw:=hF.size;have kx:=hn.size;have ky:=hp.size;have kz:=hK.size;have k0:=h2.size;have k4:=hz.lt;have k5:=hG.lt;have k6:=hM.lt;refine Qc<|Qb<|x (Qs hN O)<|x (Qa O)<|xl O<|QE (u:=.int .i64 fd.length) hM O O (by simp) rfl λw7 J gm=>xe ?_
 have k7:=J.size;have k8:Step [b4] w3 w7:=(ha.any (L:=[b4])).trans' J;have hO:Step [] w w7:=(hH.trans ha).then1 J (by omega);have hP:QL [b4] w7.heap vf fd:=((hN.up (L':=[b4]) (λb hb=>.inr (by simp at hb;omega))).ext ha).st J;have h3:Zt [b4] w7.heap va vm ve a:=(h.up (λb hb=>.inr (by simp at hb;omega))).ext hO
 have gn:Qu 3 w3.heap.size w7 vcl a.al:=Qj (Qq Y h2) J (λb hb=>by have:=QR Y b hb;simp;omega);have hQ:=(hJ.ext ha).step J (by simp;omega);have go:=((hG.ext hp).ext ha).step J (by simp;omega);have he:b4<w7.heap.size:=by omega
 have n1:b1∉[b4]:=by simp;omega
 have n2:b2∉[b4]:=by simp;omega
 refine Qf<|Qc<|Qe<|Qh<|QB (α:=Nat×Value×Value) [(5,7),(16,69)] (λz=>[(5,.int .i64 z.1)])
  (λz w'=>z.1≤fd.length∧CrI w7 b4 vcl fd.length z.2.1 z.2.2 (Ys a fd z.1) (YG a fd z.1) w'∧(YG a fd z.1).length≤z.1*32) (λz=>fd.length - z.1) (by rfl) (0,nS,nS) Z
  ⟨Lk _,⟨Step.refl _ _,gm,QN _ _ _ _,QN _ _ _ _,Dj.nil' _⟩,Lk _⟩ ?_
 rintro ⟨i,v1,v2⟩ g8 w8 ⟨hi,G,h4⟩;simp only[] at hi G h4;have gp:=jY a fd i;have hR:=hP.st G.st;refine Qf<|Qc<|Qb<|Qb<|x (Qs hR O)<|x (QA O O)<|xe<|QG rfl (λgq=>?_) (λgq=>?_)
 ·have gr:i=fd.length:=by omega
  rw[gr] at G h4 gp;refine Qz ?_;have gs:=Qu.ints (L:=[]) G.m (by omega) (by simp);have gt:=Z5.eds (L:=[]) G.e (by omega) (by simp);refine Qc<|x (Qr G.B O O)<|xl O<|Qp (us:=[vcl,.int .i64 fd.length,v1,v2]) (go.step G.st n2) O O O O ⟨hL.one,O,gs.one,gt.one,U⟩ λw9 hq gu=>xe ?_
  refine Qn ⟨[.agg #[vcl,.int .i64 fd.length,v1,v2]],⟨⟨_,O,Qv O (gu.at (L:=[]) (by simp)).cells⟩,U⟩,(hO.then1 G.st (by omega)).then1 hq (by omega),?_⟩;rw[gg];have k1:=Qj (Qj gn G.st (λb hb=>by have:=QR Y b hb;simp;omega)) hq (λb hb=>by have:=(Qk Y b hb).1;simp;omega);have k2:=Qj G.m hq (λb hb=>by have:=(Qk G.m b hb).1;simp;omega)
  have k3:=Qj G.e hq (λb hb=>by have:=(Qk G.e b hb).1;simp;omega);refine ⟨vcl,v1,v2,O,λL' h5=>⟨?_,?_,?_⟩⟩
  ·exact Qu.ints k1 (by show a.al.length≤_;omega) (λb hb=>by have:=h5 b hb;omega)
  ·exact Qu.ints k2 (by show (Ys a fd fd.length).length≤_;omega) (λb hb=>by have:=h5 b hb;omega)
  exact Z5.eds k3 (by show (YG a fd fd.length).length≤_;omega) (λb hb=>by have:=h5 b hb;omega)
 have h6:i<fd.length:=by omega
 refine Zd (cget fd i) λs hr=>?_;have hf:=zm a fd i;rw[hr] at hf;refine Qi<|Qf<|Qh<|QU (α:=Value) [(22,34)] (λz=>[]) (λz w'=>CrI w7 b4 vcl fd.length z v2 (Ys a fd (i+1)) (YG a fd i) w') (by rfl) ?_ ?_
 ·have gv:=h3.st G.st;have gw:=hQ.step G.st n1;refine Qf<|QW (Step [] w8) [(0,true),(1,true),(2,true),(3,true),(4,true),(5,true),(6,false)] mixed (by rfl) (by kernel_rfl) (Step.drew _ _) ?_;refine p (λ_=>Qa O)<|pq (λ_ hc=>Qd (gw.ext hc) O O)<|p (λ_=>Qo)<|p (λ_=>Qo)<|pic (i:=i) O hR O O h6 λk9 hS=>?_;rw[hr] at hS
  refine pq (λ_ hc=>Qx (hS.ext hc) O)<|pk<|xf<|(Qb3 (gv.mr.ext (Step.drew [] w8)) s).mono ?_;rintro ma mc ⟨rfl,rfl⟩;have h7:=G.ext (Step.drew [] w8);refine ⟨Step.drew _ _,pe ?_⟩;refine QG O (λh8=>?_) (λh8=>?_)
  ·rw[if_neg h8] at hf;refine Qi ?_;exact ⟨v1,U,by rw[hf];exact h7⟩
  rw[if_pos h8] at hf;refine Qy<|x (Qa O)<|x (Qd h7.B O O)<|Qb<|xl O<|QC (us:=[[.int .i64 i]]) O O (by decide) (by simp) ⟨rfl,rfl,U⟩ λmf mg gx mh gy=>?_;have hg:=h7.ext gx;refine xl O<|Q2 (news:=[.int .i64 i]) (L:=[]) hg.m O O O (gy.at (by simp)) (by simp[Value.oneCell']) (by omega) hg.st.size λhT gz g0 V g2=>?_
  have hU:Qu 3 w7.heap.size gz hT (Ys a fd i++[(i:Int)]):=Qu.snoc g0;refine x (Qa O)<|xl O<|QE (hg.B.step V (QM hg.m he)) O O (by simp) (Qu.ints (L:=[]) hU (by simp;omega) (by simp)).one λmj g3 g4 =>
   xe ?_
  exact ⟨hT,U,by rw[hf];exact hg.setM he V hU g2 g3 g4⟩
 rintro v3 mo mq g5;refine Zd (YG a fd (i+1)) λE1 h9=>?_;have hV:=Qdk a fd i;rw[h9] at hV;refine Qc<|Qe<|Qh<|QB (α:=Nat×List Ed×Value) [(6,7),(35,69)] (λz=>[(6,.int .i64 z.1)])
  (λz w'=>z.1≤a.al.length∧CrI w7 b4 vcl fd.length v3 z.2.2 (Ys a fd (i+1)) z.2.1 w'∧z.2.1.length≤i*32+z.1∧z.2.1++(a.al.drop z.1).filterMap (Jp a fd i)=E1) (λz=>a.al.length - z.1) (by rfl) (0,YG a fd i,v2) Z
  ⟨Lk _,g5,h4,hV.symm⟩ ?_
 rintro ⟨k,E,vd⟩ ms hA ⟨hk,I,g6,H⟩;simp only[] at hk I g6 H;have hB:=h3.st I.st;have hs:=hQ.step I.st n1;have hW:=hP.st I.st;refine Qf<|Qc<|Qb<|x (Qa O)<|x (Qd hs O O)<|x (Qs hB.al O)<|x (QA O O)<|xe<|QG rfl (λg7=>?_) (λg7=>?_)
 ·refine Qz<|Qy<|Qb<|QP O O<|Qe ?_;rw[Lq (by omega),List.filterMap_nil,LF] at H;refine ⟨(i+1,v3,vd),by simp only[];omega,Z,h6,?_,?_⟩
  ·simp only[];rw[h9,←H];exact I
  simp only[];rw[h9,←H];omega
 have S:k<a.al.length:=by omega
 refine Zd (cget a.al k) λu hu=>?_;rw[LK S,Zi S,hu,L5] at H;refine Zd (nxt a.ed s u) λt ht=>?_;have g9:Jp a fd i u=if 0≤t then some ((i:Int),u,UR fd t) else none:=by unfold Jp;rw[hr,ht]
 rw[g9] at H;have hsr:=yS (va:=va) (vm:=vm) (a:=a) (hB.ed.ext (Step.drew [] hA)) s u a.st;rw[ht] at hsr;refine Qi<|Qf<|Qh<|Qf<|QW (Step [] hA) [(0,true),(1,true),(2,true),(3,true),(4,true),(5,true),(6,true),(7,true),(8,true),(9,true),(10,false),(11,true)] mixed (by rfl) (by kernel_rfl) (Step.drew _ _) ?_
 refine pq (λ_ hc=>Qr (hs.ext hc) O O)<|p (λ_=>Qo)<|p (λ_=>Qo)<|pic (i:=i) O hW O O h6 λmt hX=>?_;rw[hr] at hX;refine pq (λ_ hc=>Qx (hX.ext hc) O)<|p (λ_=>Qa O)<|pq (λ_ hc=>Qd (hs.ext hc) O O)<|p (λ_=>Qo) <|
  pic (i:=k) O hB.al O O S λmu hY=>?_
 rw[hu] at hY;refine pq (λ_ hc=>Qx (hY.ext hc) O)<|pk<|xf<|hsr.mono ?_;rintro mv hv ⟨rfl,ka⟩;have hh:=(Step.drew [] hA).trans ka;refine ⟨hh,p (λ_=>Qg)<|pe ?_⟩;have hj:=I.ext hh;have kb:=hs.ext hh;have kc:=hW.ext hh;refine Qc<|Qb<|x (ZU O O)<|xe<|QG rfl (λhC=>?_) (λhC=>?_)
 ·rw[if_neg hC] at H;refine Qi<|Qy<|Qb<|QP O O<|Qe ?_;exact ⟨(k+1,E,vd),by simp only[];omega,Z,S,hj,by simp only[];omega,H⟩
 rw[if_pos hC] at H;have ke:=Qk I.e;have kf:QL (b4::ob vd) hv.heap va a.al:=(((h3.al.up (L':=b4::ob vd) (λb hb=>by
  rcases Lb.1 hb with rfl | hb
  ·exact .inl (by simp)
  exact .inr (ke b hb).1)).step I.st (by simp)).ext hh)
 have kg:=QM hj.e he;have kh:b1∉ob vd:=QM hj.e (by omega);refine QW (Step (ob vd) hv) [(0,true),(1,true),(2,true),(3,true),(4,true),(5,true),(6,true),(7,true),(8,true),(9,true),(10,false),(11,true),(12,false),(13,false),(14,true),(15,false)] mixed (by rfl) (by kernel_rfl) (Step.drew _ _) ?_
 refine p (λ_=>Qa O)<|pq (λ_ hc=>Qd (hj.B.step hc kg) O O)<|p (λ_=>Qo)<|p (λ_=>Qa O)<|pq (λ_ hc=>Qd (kb.step hc kh) O O) <|
  p (λ_=>Qo)<|pic (i:=k) O kf O O S λmw hZ=>?_
 rw[hu] at hZ;refine pq (λ_ hc=>Qx (hZ.step hc (λb hb=>Ll _ hb)) O)<|p (λ_=>Qo)<|p (λ_=>Qo) <|
  pk<|xf<|(Qc6 (kc.ext (Step.drew [] hv)) t).mono ?_
 rintro my mz ⟨rfl,rfl⟩;refine ⟨Step.drew _ _,p (λ_=>QD ⟨O,O,O,U⟩)<|pk<|QC (us:=[Qw ((i:Int),u,UR fd t)]) O O (by decide) (by exact (by decide:1*3≤1000000)) ⟨O,O,U⟩ λm0 m1 ki m2 kj=>?_⟩;have hD:=(Step.drew [] hv).trans ki;have hm:=hj.ext hD;refine ⟨hD.any,?_⟩
 refine pk<|Q2 (news:=Qw ((i:Int),u,UR fd t)) (L:=[]) hm.e O O O (kj.at (by simp)) (λy hy=>by simp only[Qw,List.mem_cons,List.not_mem_nil,or_false] at hy;rcases hy with rfl | rfl | rfl <;> rfl) (by omega) hm.st.size λga kk kn hE ko=>⟨(hD.any (L:=ob vd)).trans' hE,?_⟩
 have gb:Z5 144 w7.heap.size kk ga (E++[((i:Int),u,UR fd t)]):=Z5.snoc kn;refine p (λ_=>Qa O)<|pkl (hl:=by kernel_rfl)<|QE (hm.B.step hE (QM hm.e he)) O O (by simp) (Z5.eds (L:=[]) gb (by simp;omega) (by simp)).one λm3 kp kq =>
  pe ?_
 have kr:=hm.setE he hE gb ko kp kq;refine Qy<|Qb<|QP O O<|Qe<|⟨(k+1,E++[((i:Int),u,UR fd t)],ga),by simp only[];omega,Z,S,kr,by simp;omega,?_⟩;simp only[List.append_assoc,List.singleton_append];exact H
end Go.Proofs.YtdffckgdcegpaaaGreatDoor
namespace Go.Lg
section
variable {P:Program} {f:Fr} {w:World} {d:Option Nat} {ty:Nat} {ps:String} {af:Array Edge} {gd:Option (Nat×Bool)}
theorem UE {t G:Nat}{x y:Operand}{k:IntKind}{a b:Int}(hx:ev f x=.int k a) (hy:ev f y=.int k b) (ha:0≤a) (hb:0<b) :
  (execOp (ev f) ⟨d,.binOp .rem t x y G,ty,ps,af,gd⟩).run P w=.ok (.value (.int k (a % b))) w:=by
 refine YZ hx hy ?_;have h1:¬b=0:=by omega
 simp[binOp,Op.intDiv,h1,Int.tmod_eq_emod_of_nonneg ha]
end
end Go.Lg
namespace Go.Proofs.YtdffckgdcegpaaaGreatDoor
open Go.Proofs.Tryz
open Go.Lg
instance ayMa1:Ay prog 26 5 22 5:=⟨by kernel_rfl,by kernel_rfl⟩
instance ayMa2:Ay prog 22 5 5 1:=⟨by kernel_rfl,by kernel_rfl⟩
abbrev bys (ns:LN):LV:=ns.map λn:Nat=>.int .u8 (n:Int)
theorem VO {ns:LN}{j:Nat}(h:j<ns.length):(bys ns)[j]?=some (.int .u8 ((ns.getD j 0:Nat):Int)):=by simp[bys,List.getD,h]
theorem j1:∀(ns:LN),ZN (bys ns)
 | []=>trivial
 | _::ns=>⟨rfl,j1 ns⟩
theorem Xi {ns:LN}(h:∀n∈ns,n<256) (j:Nat):ns.getD j 0<256:=by
 by_cases G:j<ns.length
 ·simp only[List.getD,List.getElem?_eq_getElem G,Option.getD_some];exact h _ (Li G)
 simp[List.getD,G]
structure GrI (al:LI) (S i k:Nat) (M:LI) (E:List Ed):Prop where
 mb:∀x∈M,0≤x∧x<S
 mi:Yg M
 ml:∀x∈M,x<(i:Int)+1
 mn:M.length≤S
 eb:∀e∈E,0≤e.1∧e.1<S∧e.2.1∈al∧0≤e.2.2∧e.2.2<S
 ei:E.Pairwise λx y=>x.1<y.1∨(x.1=y.1∧x.2.1<y.2.1)
 el:∀e∈E,e.1<i∨(e.1=i∧e.2.1∈al.take k)
 en:E.length≤i*5+k
theorem QhK {S:Nat}{M:LI}(hb:∀x∈M,0≤x∧x<S) (hi:Yg M):M.length≤S:=pig S M (hi.imp (λh=>by omega)) hb
theorem GrI.mark {al:LI}{S i:Nat}{M:LI}{E:List Ed}(h:GrI al S i 0 M E) (hm:∀x∈M,x<(i:Int)) (hi:i<S):GrI al S i 0 (M++[(i:Int)]) E:=by
 have G:∀x∈M++[(i:Int)],0≤x∧x<S:=λx hx=>by
  rcases Lj.1 hx with hx | hx
  ·exact h.mb x hx
  simp only[List.mem_singleton] at hx;omega
 have H:Yg (M++[(i:Int)]):=by
  refine Mf.2 ⟨h.mi,by simp,λx hx y hy=>?_⟩;simp only[List.mem_singleton] at hy;subst hy;exact hm x hx
 refine ⟨G,H,λx hx=>?_,QhK G H,h.eb,h.ei,h.el,h.en⟩;rcases Lj.1 hx with hx | hx
 ·have:=hm x hx;omega
 simp only[List.mem_singleton] at hx;omega
theorem GrI.skip {al:LI}{S i k:Nat}{M:LI}{E:List Ed}(h:GrI al S i k M E) (hk:k<al.length):GrI al S i (k+1) M E :=
 ⟨h.mb,h.mi,h.ml,h.mn,h.eb,h.ei,λe he=>(h.el e he).imp id (λx=>⟨x.1,by rw[Le hk];exact LL _ x.2⟩),by have:=h.en;omega⟩
theorem GrI.edge {al:LI}{S i k:Nat}{M:LI}{E:List Ed}(h:GrI al S i k M E) (hk:k<al.length) (ha:Yg al) (hi:i<S) {t:Int}(G:0≤t) (H:t<S):GrI al S i (k+1) M (E++[((i:Int),cget al k,t)]):=by
 have I:cget al k∈al:=Jb hk;refine ⟨h.mb,h.mi,h.ml,h.mn,λe he=>?_,?_,λe he=>?_,by have:=h.en;simp;omega⟩
 ·rcases Lj.1 he with he | he
  ·exact h.eb e he
  simp only[List.mem_singleton] at he;subst he;exact ⟨by simp only[];omega,by simp only[];omega,I,G,H⟩
 ·refine Mf.2 ⟨h.ei,by simp,λx hx y hy=>?_⟩;simp only[List.mem_singleton] at hy;subst hy;rcases h.el x hx with h1 | ⟨h1,h2⟩
  ·left;exact h1
  right;refine ⟨h1,?_⟩;simp only[];have hp:Yg (al.take k++al.drop k):=by rw[MC];exact ha
  refine (Mf.1 hp).2.2 _ h2 _ ?_;rw[LK hk,Zi hk];exact Ln
 rw[Le hk,Zi hk];rcases Lj.1 he with he | he
 ·exact (h.el e he).imp id (λx=>⟨x.1,LL _ x.2⟩)
 simp only[List.mem_singleton] at he;subst he;exact .inr ⟨O,Mc _ (by simp)⟩
theorem GrI.next {al:LI}{S i k:Nat}{M:LI}{E:List Ed}(h:GrI al S i k M E) (hk:k≤5):GrI al S (i+1) 0 M E :=
 ⟨h.mb,h.mi,λx hx=>by have:=h.ml x hx;omega,h.mn,h.eb,h.ei,λe he=>by rcases h.el e he with h1 | h1 <;> (left;omega),by have:=h.en;omega⟩
set_option maxHeartbeats 2000000 in
theorem QcX {L:LN}{w:World}{v:Value}{al:LI}{ns:LN}(h:QL L w.heap v al) (hb:∀e∈al,0≤e∧e<32) (hi:Yg al) (hn:ns.length=27) (hr:∀n∈ns,n<256) :
  QK prog 130 [v,.agg (bys ns).toArray] w λr w'=>Step [] w w'∧∃a:QQ,YO w.heap.size w'.heap r a∧Q8 a∧a.st≤5∧a.al=al ∧
   (ns.getD 0 0<250→∃a0:QQ,Q8 a0∧0<a0.st∧a0.st≤((1+ns.getD 0 0 % 5:Nat):Int)∧a=Yv a0):=by
 have kx:al.length≤32:=pig 32 al (hi.imp (λh=>by omega)) (λx hx=>by have:=hb x hx;omega);refine QK.of_W func130 O ntmps130 results130 (by simp) ?_;have g0:=VO (ns:=ns) (j:=0) (by omega);have g1:=VO (ns:=ns) (j:=1) (by omega);have l0:=Xi hr 0;have l1:=Xi hr 1;refine Zd (ns.getD 0 0) λs0 hZ=>?_;refine Zd (ns.getD 1 0) λm1 ga=>?_;rw[hZ] at g0 l0;rw[ga] at g1 l1
 refine Qc<|xl O<|QS (us:=bys ns) O λb3 w1 h7 ky h8=>xl O<|Qt (us:=[nS,.int .i64 0,nS,nS]) O λb4 w2 hs kz hu=>xe ?_;have hp:=h7.trans hs;have hv:=h8.ext hs;have k0:=h7.size;have k4:=hs.size;have k5:=h8.lt;have k6:=hu.lt;refine Qf<|Qc<|x (Qa O)<|x (Qd hv O g0)<|x (ZU O O)<|xe<|Q6 rfl (λgb=>?_) (λgb=>?_)
 ·refine Qc<|Qb<|xl O<|xf<|(VJ (h.ext hp) (by omega)).mono ?_;rintro r3 w3 ⟨h9,vcl,rfl,T⟩;have hw:=Qu.ints (L:=[]) T (by omega) (by simp);refine xl O<|Qp (us:=[vcl,.int .i64 0,nS,nS]) (hu.ext h9) O O O O ⟨hw.one,O,O,O,U⟩ λw4 hA gc=>xe ?_;have ge:=Qj T hA (λb hb=>by have:=(Qk T b hb).1;simp;omega)
  refine Qn ⟨[.agg #[vcl,.int .i64 0,nS,nS]],⟨⟨_,O,Qv O (gc.at (L:=[]) (by simp)).cells⟩,U⟩,(hp.trans h9).then1 hA (by omega),⟨al,0,[],[]⟩,?_,?_,(by decide:(0:Int)≤5),rfl,λh=>absurd h (by omega)⟩
  ·exact ⟨vcl,_,_,O,λL' gg=>⟨Qu.ints ge (by show al.length≤_;omega) (λb hb=>by have:=gg b hb;omega),Zp.nil _ _ _,Zp.nil _ _ _⟩⟩
  exact ⟨hb,hi,(by decide:(0:Int)≤0),(by decide:(0:Int)≤4096),by simp,by simp,by simp,by simp⟩
 refine Qi<|Qc<|Qb<|xl O<|xf<|(VJ (h.ext hp) (by omega)).mono ?_;rintro r5 w5 ⟨hB,vcl,rfl,T⟩;have hw:=Qu.ints (L:=[]) T (by omega) (by simp);refine xl rfl<|Qt (us:=[nS,.int .i64 0,nS,nS]) O λH w6 gh gi gk =>
  xl rfl<|Qp (us:=[vcl,.int .i64 0,nS,nS]) gk O O O O ⟨hw.one,O,O,O,U⟩ λw7 gl hC=>xe ?_
 have hz:Step [] w5 w7:=gh.then1 gl gi;have hg:=hB.trans hz;have k7:=hB.size;have k8:=hz.size;have k9:=hC.lt;refine Zd (1+s0 % 5) λS hS=>?_;have ma:1≤S∧S≤5:=by omega
 have gm:(1:Int)+(s0:Int) % 5=(S:Int):=by omega
 refine Qc<|x (Qa O)<|x (Qd (hv.ext hg) O g0)<|x (UE (a:=(s0:Int)) (b:=5) O O (by omega) (by omega))<|x (ZP (k':=.i64) O ⟨by omega,by omega⟩)<|QP O O<|x (Qa O) <|
  xl rfl<|QE (u:=.int .i64 S) hC O (congrArg (Value.int .i64) gm) (by simp) rfl λI ha gn=>xe ?_
 have mc:=ha.size;have mf:Step [H] w2 I:=(hg.any (L:=[H])).trans' ha;have hD:Step [] w I:=(hp.trans hg).then1 ha (by omega);have hE:QL [H] I.heap v al:=(h.up (L':=[H]) (λb hb=>.inr (by simp at hb;omega))).ext hD;have go:Qu 3 w2.heap.size I vcl al:=Qj (Qq T hz) ha (λb hb=>by have:=QR T b hb;simp;omega);have hH:=(hv.ext hg).step ha (by simp;omega)
 have gp:=(hu.ext hg).step ha (by simp;omega);have hh:H<I.heap.size:=by omega
 have n3:b3∉[H]:=by simp;omega
 have n4:b4∉[H]:=by simp;omega
 refine Qf<|Qc<|Qe<|Qh<|QB (α:=Nat×Value×Value×LI×List Ed) [(6,8),(22,76)] (λz=>[(6,.int .i64 z.1)])
  (λz w'=>z.1≤S∧CrI I H vcl S z.2.1 z.2.2.1 z.2.2.2.1 z.2.2.2.2 w'∧GrI al S z.1 0 z.2.2.2.1 z.2.2.2.2∧∀x∈z.2.2.2.1,x<(z.1:Int)) (λz=>S - z.1) (by rfl) (0,nS,nS,[],[]) Z
  ⟨Lk _,⟨Step.refl _ _,gn,QN _ _ _ _,QN _ _ _ _,Dj.nil' _⟩,⟨by simp,by simp,by simp,by simp,by simp,by simp,by simp,by simp⟩,by simp⟩ ?_
 rintro ⟨i,v1,v2,M,E⟩ g9 w9 ⟨gq,G,J,hM⟩;simp only[] at gq G J hM;have mg:=J.mn;have mh:=J.en;refine Qf<|Qc<|Qb<|x (Qa O)<|x (Qd G.B O O)<|x (QA O O)<|xe<|QG rfl (λgr=>?_) (λgr=>?_)
 ·have mj:i=S:=by omega
  refine Qz ?_;have gs:=Qu.ints (L:=[]) G.m (by omega) (by simp);have gt:=Z5.eds (L:=[]) G.e (by omega) (by simp);have gu:Qu 3 w2.heap.size w9 vcl al:=Qj go G.st (λb hb=>by have:=QR T b hb;simp;omega);have gv:Zt [] w9.heap vcl v1 v2 ⟨al,(S:Int),M,E⟩:=⟨Qu.ints gu (by show al.length≤_;omega) (by simp),gs,gt⟩
  have h0:Q8 ⟨al,(S:Int),M,E⟩:=⟨hb,hi,by simp only[];omega,by simp only[];omega,J.mb,J.mi,J.eb,J.ei⟩;have h1:=yC h0;have hJ:Step [] w w9:=hD.then1 G.st (by omega);have gw:=gp.step G.st n4;have mo:=G.st.size;refine Qc<|x (Qr G.B O O)<|xl O<|xf<|(qI (a:=⟨al,(S:Int),M,E⟩) gv h0).mono ?_;rintro vr mq ⟨hK,hF⟩;obtain ⟨us,hL,hN,gx⟩:=YV hF
  refine xl O<|Qp (us:=us) (gw.ext hK) O hL hN O gx λms hO gy=>xe ?_;have gz:=hJ.size;refine Qn ⟨[.agg us.toArray],⟨⟨_,O,Qv hN (gy.at (L:=[]) (by simp)).cells⟩,U⟩,(hJ.trans hK).then1 hO (by omega),Yv ⟨al,(S:Int),M,E⟩,?_,h1.1,?_,h1.2.1,λ_=>⟨⟨al,(S:Int),M,E⟩,h0,by simp only[];omega,by simp only[];omega,O⟩⟩
  ·show YO _ _ (.agg us.toArray) _;rw[←hL];exact (Y6 hF (by omega) hO).mono gz
  have:=h1.2.2;simp only[] at this;omega
 have h2:i<S:=by omega
 refine Qi<|Qf<|Qh<|QU (α:=Value×LI) [(28,39)] (λz=>[]) (λz w'=>CrI I H vcl S z.1 v2 z.2 E w'∧GrI al S i 0 z.2 E) (by rfl) ?_ ?_
 ·have g2:m1 / 2 ^ i<256:=Nat.lt_of_le_of_lt (Nat.div_le_self _ _) l1;refine Qc<|x (Qa O)<|x (Qd (hH.step G.st n3) O g1)<|Qb<|x (qY (n:=i) O O (by show i≤8;omega))<|x (UG (a:=m1 / 2 ^ i) (b:=1) (congrArg (Value.int .u8) (zH m1 i)) O g2 (by decide))<|x (Q5 O O)<|xe<|QG O (λg3=>?_) (λg3=>?_)
  ·refine Qi ?_;exact ⟨(v1,M),U,G,J⟩
  refine Qy<|x (Qa O)<|x (Qd G.B O O)<|Qb<|xl O<|QC (us:=[[.int .i64 i]]) O O (by decide) (by simp) ⟨rfl,rfl,U⟩ λmt mu g4 mv g5=>?_;have hj:=G.ext g4;refine xl O<|Q2 (news:=[.int .i64 i]) (L:=[]) hj.m O O O (g5.at (by simp)) (by simp[Value.oneCell']) (by omega) hj.st.size λhP g6 g7 hQ g8=>?_;have hR:Qu 3 I.heap.size g6 hP (M++[(i:Int)]):=Qu.snoc g7
  refine x (Qa O)<|xl O<|QE (hj.B.step hQ (QM hj.m hh)) O O (by simp) (Qu.ints (L:=[]) hR (by simp;omega) (by simp)).one λmw ka kb =>
   xe ?_
  exact ⟨(hP,M++[(i:Int)]),U,hj.setM hh hQ hR g8 ka kb,J.mark hM h2⟩
 rintro ⟨v3,M3⟩ my mz ⟨hT,hU⟩;simp only[] at hT hU;refine Qc<|Qe<|Qh<|QB (α:=Nat×Value×List Ed) [(7,8),(40,76)] (λz=>[(7,.int .i64 z.1)])
  (λz w'=>z.1≤al.length∧z.1≤5∧CrI I H vcl S v3 z.2.1 M3 z.2.2 w'∧GrI al S i z.1 M3 z.2.2) (λz=>5 - z.1) (by rfl) (0,v2,E) Z
  ⟨Lk _,Lk _,hT,hU⟩ ?_
 rintro ⟨k,vd,F⟩ m0 kc ⟨hk,hV,he,hf⟩;simp only[] at hk hV he hf;have ke:=hE.st he.st;have m2:=hf.en;refine Qf<|QU (α:=Unit) [(40,47)] (λz=>[(47,.bool (decide (k<al.length∧k<5)))]) (λz w'=>w'=kc) (by rfl) ?_ ?_
 ·refine Qy<|Qb<|Qb<|x (Qs ke O)<|xb (QA O O) (λhW=>?_) (λhW=>?_)
  ·refine Qb<|Qb<|x (QA O O)<|x (Qm O)<|xe<|⟨(),⟨congrArg Value.bool ?_,U⟩,O⟩;exact decide_eq_decide.2 ⟨λe=>⟨by omega,by omega⟩,λe=>by omega⟩
  refine Qb<|xs O<|xs O<|x (Qm O)<|xe ?_;exact ⟨(),⟨congrArg Value.bool (decide_eq_false (λe=>hW (by omega))).symm,U⟩,O⟩
 rintro _ m3 V rfl;refine QG rfl (λh3=>?_) (λh3=>?_)
 ·refine Qz<|Qy<|Qb<|QP O O<|Qe ?_;exact ⟨(i+1,v3,vd,M3,F),by simp only[];omega,Z,h2,he,hf.next hV,λx hx=>by have:=hf.ml x hx;simp only[];omega⟩
 have hm:k<al.length:=h3.1;have h4:k<5:=h3.2;have gj:=VO (ns:=ns) (j:=0+2+i*5+k*1) (by omega);have lj:=Xi hr (0+2+i*5+k*1);refine Zd (ns.getD (0+2+i*5+k*1) 0) λq hq=>?_;rw[hq] at gj lj;have kf:=hH.step he.st n3;have kg:0≤(q:Int) % ((S:Int)+2):=Int.emod_nonneg _ (by omega);have m4:(q:Int) % ((S:Int)+2)<(S:Int)+2:=Int.emod_lt_of_pos _ (by omega)
 refine Qi<|Qf<|Qh<|Qf<|QW (Step [] V) [(0,true),(1,true),(2,true),(3,true),(4,true),(5,true),(6,true),(7,true),(8,true),(9,true),(10,true),(11,true)] mixed (by rfl) (by kernel_rfl) (Step.drew _ _) ?_;refine p (λ_=>Qo)<|p (λ_=>Qo)<|p (λ_=>Qa O)<|p (λ_=>ZI (i:=i) O O (by omega))<|p (λ_=>ZI (i:=k) O O h4)<|pq (λ_ hc=>Qd (kf.ext hc) O gj) <|
  p (λ_=>ZP (k':=.i64) O ⟨by omega,by omega⟩)<|p (λ_=>Qa O)<|pq (λ_ hc=>Qd (he.B.ext hc) O O)<|p (λ_=>X2 O O ⟨by omega,by omega⟩) <|
  p (λ_=>UE (a:=(q:Int)) (b:=(S:Int)+2) O O (by omega) (by omega))<|p (λ_=>Qg)<|pe ?_
 have Y:=he.ext (Step.drew [] V);refine Zd ((q:Int) % ((S:Int)+2)) λt ht=>?_;have m5:0≤t:=by omega
 refine Qc<|Qb<|x (Qa O)<|x (Qd Y.B O O)<|x (QA O O)<|xe<|QG rfl (λkh=>?_) (λkh=>?_)
 ·refine Qi<|Qy<|Qb<|QP O O<|Qe ?_;exact ⟨(k+1,vd,F),by simp only[];omega,Z,hm,h4,Y,hf.skip hm⟩
 have ki:=Qk Y.e;have kj:QL (H::ob vd) { V with drawn:=V.drawn+1 }.heap v al:=((hE.up (L':=H::ob vd) (λb hb=>by
  rcases Lb.1 hb with rfl | hb
  ·exact .inl (by simp)
  exact .inr (ki b hb).1)).step Y.st (by simp))
 have kk:=QM Y.e hh;refine QW (Step (ob vd) { V with drawn:=V.drawn+1 }) [(0,true),(1,true),(2,true),(3,true),(4,true),(5,true),(6,true),(7,true),(8,true),(9,false),(10,false),(11,true),(12,false)] mixed (by rfl) (by kernel_rfl) (Step.drew _ _) ?_
 refine p (λ_=>Qa O)<|pq (λ_ hc=>Qd (Y.B.step hc kk) O O)<|p (λ_=>Qo)<|p (λ_=>Qo)<|p (λ_=>Qo) <|
  pic (i:=k) O kj O O hm λm6 kn=>pq (λ_ hc=>Qx (kn.step hc (λb hb=>Ll _ hb)) O)<|p (λ_=>Qo)<|p (λ_=>QD ⟨O,O,O,U⟩) <|
  pk<|QC (us:=[Qw ((i:Int),cget al k,(q:Int) % ((S:Int)+2))]) O O (by decide) (by exact (by decide:1*3≤1000000)) ⟨O,O,U⟩ λm7 m8 ko m9 kp=>?_
 have h5:=(Step.drew [] { V with drawn:=V.drawn+1 }).trans ko
 have ho:=Y.ext h5;refine ⟨h5.any,?_⟩;refine pk<|Q2 (news:=Qw ((i:Int),cget al k,(q:Int) % ((S:Int)+2))) (L:=[]) ho.e O O O (kp.at (by simp)) (λy hy=>by simp only[Qw,List.mem_cons,List.not_mem_nil,or_false] at hy;rcases hy with rfl | rfl | rfl <;> rfl) (by omega) ho.st.size λhX kq kr h6 kt=>⟨(h5.any (L:=ob vd)).trans' h6,?_⟩
 have hY:Z5 144 I.heap.size kq hX (F++[((i:Int),cget al k,(q:Int) % ((S:Int)+2))]):=Z5.snoc kr;refine p (λ_=>Qa O)<|pkl (hl:=by kernel_rfl)<|QE (ho.B.step h6 (QM ho.e hh)) O O (by simp) (Z5.eds (L:=[]) hY (by simp;omega) (by simp)).one λpa ku kv=>pe ?_;have kw:=ho.setE hh h6 hY kt ku kv;refine Qy<|Qb<|QP O O<|Qe ?_
 exact ⟨(k+1,hX,F++[((i:Int),cget al k,(q:Int) % ((S:Int)+2))]),by simp only[];omega,Z,hm,h4,kw,hf.edge hm hi h2 kg (by omega)⟩
end Go.Proofs.YtdffckgdcegpaaaGreatDoor
namespace Go.Lg
section
variable {P:Program} {f:Fr} {w:World} {d:Option Nat} {ty:Nat} {ps:String} {af:Array Edge} {gd:Option (Nat×Bool)}
theorem VA {t sz:Nat}[Ag P t sz] {x:Operand}{b o T:Nat}{cs us:LV}(h:QZ w.heap b T cs) (hx:ev f x=.pointer (some ⟨b,o,none⟩)) (hl:us.length=sz) (G:∀j u,us[j]?=some u→cs[o+j]?=some u) :
  (execOp (ev f) ⟨d,.load t x,ty,ps,af,gd⟩).run P w=.ok (.value (.agg us.toArray)) w:=by
 refine Ui hx hl λj u hu=>?_;rw[Jc,JM,h.cell];exact G j u hu
end
end Go.Lg
namespace Go.Proofs.YtdffckgdcegpaaaGreatDoor
open Go.Proofs.Tryz
open Go.Lg
theorem Qib {ns:LN}{o n:Nat}:∀j u,(bys ((ns.drop o).take n))[j]?=some u→(bys ns)[o+j]?=some u:=by
 intro j u h;simp only[bys,List.getElem?_map,List.getElem?_take,List.getElem?_drop] at h ⊢;split at h
 ·exact h
 cases h
theorem Qic {ns:LN}(h:∀n∈ns,n<256) (o n:Nat):∀m∈(ns.drop o).take n,m<256:=λm hm=>h m (MF (LM hm))
theorem Qbx (m k:Nat):∀e∈setK m k,0≤e∧e<k:=by
 intro e he;simp only[setK,List.mem_map,List.mem_filter,List.mem_range'_1] at he;obtain ⟨i,⟨hi,_⟩,rfl⟩:=he;omega
theorem yb (keep:Bool→Bool→Bool):∀(n:Nat) (a b:LI),a.length+b.length≤n→Yg a→Yg b→Yg (mrg keep a b):=by
 intro n;induction n with
 | zero =>
  intro a b h _ _;have ha:a=[]:=Lp (by omega);have hb:b=[]:=Lp (by omega);subst ha hb;rw[Jj];exact List.Pairwise.nil
 | succ n ih =>
  intro a b H ia ib;by_cases h:a=[]∧b=[]
  ·obtain ⟨rfl,rfl⟩:=h;rw[Jj];exact List.Pairwise.nil
  have I:=UU h;have itl:∀(c:Bool) (l:LI),Yg l→Yg (tl c l):=λc l hl=>by
   cases c
   ·exact hl
   cases l with
   | nil=>exact hl
   | cons y l=>exact hl.tail
  have G:=ih (tl (Xh a b) a) (tl (Xh b a) b) (by omega) (itl _ _ ia) (itl _ _ ib);rw[X7 keep h];cases keep (Xh a b) (Xh b a) with
  | false=>simpa using G
  | true =>
   simp only[cond_true,List.singleton_append];refine LU.2 ⟨λx hx=>?_,G⟩;have hm:=(Um (itl _ _ ia) (itl _ _ ib) x).1 hx;cases a with
   | nil =>
    cases b with
    | nil=>exact absurd ⟨O,O⟩ h
    | cons y b =>
     simp only[Xh,tl,cond_true,cond_false,List.tail_cons,List.not_mem_nil,false_or,Go.Proofs.YtdffckgdcegpaaaGreatDoor.hx,List.headD_cons] at hm ⊢;exact ib.lt_of hm.1
   | cons u a =>
    cases b with
    | nil =>
     simp only[Xh,tl,cond_true,cond_false,List.tail_cons,List.not_mem_nil,or_false,Go.Proofs.YtdffckgdcegpaaaGreatDoor.hx,List.headD_cons] at hm ⊢;exact ia.lt_of hm.1
    | cons y b =>
     rcases Int.lt_trichotomy u y with h1 | h1 | h1
     ·have e1:decide (u≤y)=true:=decide_eq_true (by omega);have e2:decide (y≤u)=false:=decide_eq_false (by omega);simp only[Xh,tl,e1,e2,cond_true,cond_false,List.tail_cons,Go.Proofs.YtdffckgdcegpaaaGreatDoor.hx,List.headD_cons] at hm ⊢;rcases hm.1 with h2 | h2
      ·exact ia.lt_of h2
      rcases Lb.1 h2 with h2 | h2
      ·omega
      have:=ib.lt_of h2;omega
     ·have e1:decide (u≤y)=true:=decide_eq_true (by omega);have e2:decide (y≤u)=true:=decide_eq_true (by omega);simp only[Xh,tl,e1,e2,cond_true,List.tail_cons,Go.Proofs.YtdffckgdcegpaaaGreatDoor.hx,List.headD_cons] at hm ⊢;rcases hm.1 with h2 | h2
      ·have:=ia.lt_of h2;omega
      have:=ib.lt_of h2;omega
     have e1:decide (u≤y)=false:=decide_eq_false (by omega);have e2:decide (y≤u)=true:=decide_eq_true (by omega);simp only[Xh,tl,e1,e2,cond_true,cond_false,List.tail_cons,Go.Proofs.YtdffckgdcegpaaaGreatDoor.hx,List.headD_cons] at hm ⊢;rcases hm.1 with h2 | h2
     ·rcases Lb.1 h2 with h2 | h2
      ·omega
      have:=ia.lt_of h2;omega
     exact ib.lt_of h2
end Go.Proofs.YtdffckgdcegpaaaGreatDoor
namespace Go.Lg
section
variable {P:Program} {f:Fr} {w:World} {d:Option Nat} {ty:Nat} {ps:String} {af:Array Edge} {gd:Option (Nat×Bool)} {all:List Oper} {C:World→Prop} {K:Fr→World→Prop}
theorem tp {l:List (Nat×Bool)}(h:XP P all C K l f w):XT P all C K (.pl l) f w:=h
end
end Go.Lg
namespace Go.Proofs.YtdffckgdcegpaaaGreatDoor
open Go.Lg
end Go.Proofs.YtdffckgdcegpaaaGreatDoor
namespace Go.Lg
section
variable {P:Program} {f:Fr} {w:World} {d:Option Nat} {ty:Nat} {ps:String} {af:Array Edge} {gd:Option (Nat×Bool)}
end
end Go.Lg
namespace Go.Proofs.YtdffckgdcegpaaaGreatDoor
open Go.Lg
section
variable {w4 w w' w'':World} {b:Nat} {m q:Bool} {ve vd:Value} {E D:LI}
end
end Go.Proofs.YtdffckgdcegpaaaGreatDoor
namespace Go.Lg
section
variable {P:Program} {f:Fr} {w:World} {d:Option Nat} {ty:Nat} {ps:String} {af:Array Edge} {gd:Option (Nat×Bool)}
end
end Go.Lg
namespace Go.Proofs.YtdffckgdcegpaaaGreatDoor
open Go.Lg
def grid (g:Nat→Int→Option Ed) (vs:LI) (n:Nat):List Ed:=(List.range' 0 n).flatMap λj=>vs.filterMap (g j)
theorem VH (g:Nat→Int→Option Ed) (vs:LI) (n:Nat):grid g vs (n+1)=grid g vs n++vs.filterMap (g n):=by
 unfold grid;rw[L8,Ly];simp
theorem VW (l m:List Ed) (s v:Int):eget (l++m) s v=match eget l s v with | some u=>some u | none=>eget m s v:=by
 induction l with
 | nil=>rfl
 | cons e l ih =>
  rw[Ma,eget,eget];split
  ·rfl
  exact ih
def qn (g:Nat→Int→Option Ed):Prop:=∀j v e,g j v=some e→e.1=(j:Int)∧e.2.1=v
theorem jJ {g:Nat→Int→Option Ed}(E:qn g) (j:Nat) (v:Int):∀(vs:LI),eget (vs.filterMap (g j)) j v=if v∈vs then (g j v).map (·.2.2) else none
 | []=>by simp[eget]
 | u::vs=>by
  have ih:=jJ E j v vs;rw[L5];cases hu:g j u with
  | none =>
   simp only[];rw[ih];by_cases e:v=u
   ·subst e;simp[hu]
   simp[e]
  | some e =>
   have he:=E j u e hu;simp only[];rw[eget];by_cases e2:u=v
   ·subst e2;rw[if_pos he,if_pos Ln,hu];rfl
   rw[if_neg (λh=>e2 (he.2.symm.trans h.2)),ih];simp[Ne.symm e2]
theorem jI {g:Nat→Int→Option Ed}(E:qn g) {j i:Nat}(h:j≠i) (v:Int) (vs:LI):eget (vs.filterMap (g j)) i v=none:=by
 refine J8 λe he h2=>?_;obtain ⟨u,_,hu⟩:=Ml.1 he;have:=E j u e hu;omega
theorem Qdf {g:Nat→Int→Option Ed}(E:qn g) (vs:LI) (j:Nat) (v:Int):∀n,eget (grid g vs n) j v=if j<n∧v∈vs then (g j v).map (·.2.2) else none
 | 0=>by simp[grid,eget]
 | n+1=>by
  rw[VH,VW,Qdf E vs j v n];by_cases e:j=n
  ·subst e;rw[if_neg (by omega),jJ E];simp
  rw[jI E (Ne.symm e)];by_cases h:j<n∧v∈vs
  ·rw[if_pos h,if_pos ⟨by omega,h.2⟩];cases (g j v).map (·.2.2) <;> rfl
  rw[if_neg h,if_neg (λh2=>h ⟨by omega,h2.2⟩)]
theorem jA {g:Nat→Int→Option Ed}{vs:LI}{n:Nat}{e:Ed}(h:e∈grid g vs n):∃j v,j<n∧v∈vs∧g j v=some e:=by
 unfold grid at h;obtain ⟨j,E,h2⟩:=Mi.1 h;obtain ⟨v,G,h3⟩:=Ml.1 h2;rw[LX] at E;exact ⟨j,v,by omega,G,h3⟩
theorem Qb4 {g:Nat→Int→Option Ed}(E:qn g) {vs:LI}(hi:Yg vs):∀n,(grid g vs n).Pairwise λx y:Ed=>x.1<y.1∨(x.1=y.1∧x.2.1<y.2.1)
 | 0=>by simp[grid]
 | n+1=>by
  rw[VH,Mf];refine ⟨Qb4 E hi n,Xg (r:=(·<·)) (λx y u v J hu G=>?_) hi,λe he H I=>?_⟩
  ·have h1:=E n x u hu;have h2:=E n y v G;right;omega
  obtain ⟨j,v,S,_,h1⟩:=jA he;obtain ⟨v',_,h2⟩:=Ml.1 I;have h3:=E j v e h1;have T:=E n v' H h2;left;omega
theorem QkT (l:List QQ):∀(acc:LI),(∀a∈l,Yg a.al)→Yg acc→Yg (l.foldl (λacc a=>mrg (· || ·) acc a.al) acc)∧∀x,x∈l.foldl (λacc a=>mrg (· || ·) acc a.al) acc↔x∈acc∨∃a∈l,x∈a.al:=by
 induction l with
 | nil=>intro acc _ h;exact ⟨h,λx=>by simp⟩
 | cons a l ih =>
  intro acc hl h;have ha:=hl a Ln;obtain ⟨h1,h2⟩:=ih (mrg (· || ·) acc a.al) (λb hb=>hl b (Ll _ hb)) (yb _ _ _ _ (Lr _) h ha);rw[LJ];refine ⟨h1,λx=>?_⟩;rw[h2 x,Um h ha];simp only[List.mem_cons,exists_eq_or_imp];constructor
  ·rintro (⟨h3 | h3,_⟩ | h3)
   ·exact .inl h3
   ·exact .inr (.inl h3)
   exact .inr (.inr h3)
  rintro (h3 | h3 | h3)
  ·exact .inl ⟨.inl h3,by simp[h3]⟩
  ·exact .inl ⟨.inr h3,by simp[h3]⟩
  exact .inr h3
theorem Qca {l:List QQ}(h:∀a∈l,Q8 a):Yg (evs l):=(QkT l [] (λa ha=>(h a ha).ali) (by simp)).1
theorem Qb9 {l:List QQ}(h:∀a∈l,Q8 a) (x:Int):x∈evs l↔∃a∈l,x∈a.al:=by
 have:=(QkT l [] (λa ha=>(h a ha).ali) (by simp)).2 x;unfold evs;rw[this];simp
def syF (aa:List QQ) (tup:List (LI)) (j:Nat) (v:Int):Option Ed:=(ZX v aa (tup.getD j [])).map λu=>((j:Int),v,(tup.idxOf u:Int))
theorem QiN (aa:List QQ) (tup:List (LI)):qn (syF aa tup):=by
 intro j v e h;unfold syF at h;obtain ⟨u,_,rfl⟩:=MR.1 h;exact ⟨O,O⟩
theorem jD {α β:Type}{f g:α→Option β}:∀{l:List α},(∀x∈l,f x=g x)→l.filterMap f=l.filterMap g
 | [],_=>rfl
 | x::l,h=>by rw[L5,L5,h x Ln,jD (λy hy=>h y (Ll _ hy))]
theorem Qfs {α β:Type}{f:α→Option β}{v:α}{e:β}(h:f v=some e):[v].filterMap f=[e]:=by rw[L5,h];rfl
theorem QhN {α β:Type}{f:α→Option β}{v:α}(h:f v=none):[v].filterMap f=[]:=by rw[L5,h];rfl
theorem QdT {aa:List QQ}{tup:List (LI)}{j:Nat}{v:Int}(h:ZX v aa (tup.getD j [])=none):syF aa tup j v=none:=by unfold syF;rw[h];rfl
theorem yQ {aa:List QQ}{tup:List (LI)}{j:Nat}{v:Int}{u:LI}(h:ZX v aa (tup.getD j [])=some u):syF aa tup j v=some ((j:Int),v,(tup.idxOf u:Int)):=by unfold syF;rw[h];rfl
def Clo (aa:List QQ) (tup:List (LI)) (j:Nat) (vs:LI):Prop:=∀v∈vs,∀u,ZX v aa (tup.getD j [])=some u→u∈tup
theorem JP {tup r:List (LI)}{j:Nat}(h:j<tup.length):(tup++r).getD j []=tup.getD j []:=by simp[List.getD,List.getElem?_append_left h]
theorem Qbs {aa:List QQ}{tup r:List (LI)}{j:Nat}{vs:LI}(E:j<tup.length) (hc:Clo aa tup j vs):vs.filterMap (syF aa (tup++r) j)=vs.filterMap (syF aa tup j):=by
 refine jD λv G=>?_;unfold syF;rw[JP E];cases hs:ZX v aa (tup.getD j []) with
 | none=>rfl
 | some u =>
  have hu:=hc v G u hs;simp only[Option.map_some,Option.some.injEq,Prod.mk.injEq,true_and];rw[L2,if_pos hu]
theorem Clo.pre {aa:List QQ}{tup r:List (LI)}{j:Nat}{vs:LI}(E:j<tup.length) (hc:Clo aa tup j vs):Clo aa (tup++r) j vs:=by
 intro v G u hu;rw[JP E] at hu;exact LL _ (hc v G u hu)
theorem UJ {α:Type}{l:List α}{u:α}(h:l.Nodup) (hu:u∉l):(l++[u]).Nodup:=by
 rw[MP];exact ⟨h,by simp,λa ha b hb=>by simp only[List.mem_singleton] at hb;subst hb;exact λe=>hu (by rw[←e];exact ha)⟩
theorem qP {aa:List QQ}{i:Nat}:∀(vs:LI) (s E:Sy),i<s.tup.length→s.tup.Nodup→Vs aa i (qu s i) vs s=some E →
  ∃r,E.tup=s.tup++r∧E.mk'=s.mk'∧E.ed=s.ed++vs.filterMap (syF aa E.tup i)∧Clo aa E.tup i vs∧E.tup.Nodup
 | [],s,E,_,hd,e=>by cases e;exact ⟨[],by simp,rfl,by simp,λv T=>(by cases T),hd⟩
 | v::vs,s,E,hi,hd,e=>by
  rw[Vs] at e;obtain ⟨G,h1,h2⟩:=MD.1 e;have key:∃I,G.tup=s.tup++I∧G.mk'=s.mk'∧G.ed=s.ed++[v].filterMap (syF aa G.tup i)∧Clo aa G.tup i [v]∧G.tup.Nodup:=by
   unfold syE at h1;have eT:qu s i=s.tup.getD i []:=rfl;rw[eT] at h1;cases hs:ZX v aa (s.tup.getD i []) with
   | none =>
    rw[hs] at h1;cases h1
    refine ⟨[],by simp,rfl,by rw[QhN (QdT hs),List.append_nil],λv' hv' u hu=>?_,hd⟩;simp only[List.mem_singleton] at hv';subst hv';rw[hs] at hu;cases hu
   | some u =>
    rw[hs] at h1;simp only[] at h1;by_cases hu:u∈s.tup
    ·rw[if_pos hu] at h1;cases h1
     refine ⟨[],by simp,rfl,by rw[Qfs (yQ hs)],λv' hv' V H=>?_,hd⟩;simp only[List.mem_singleton] at hv';subst hv';simp only[] at H ⊢;rw[hs] at H;cases H;exact hu
    rw[if_neg hu] at h1;split at h1
    ·cases h1
    cases h1
    have e2:(s.tup++[u]).getD i []=s.tup.getD i []:=JP hi;have Y:(s.tup++[u]).idxOf u=s.tup.length:=by rw[L2,if_neg hu];simp
    refine ⟨[u],O,O,?_,λv' hv' V H=>?_,UJ hd hu⟩
    ·rw[Qfs (yQ (tup:=s.tup++[u]) (u:=u) (by rw[e2];exact hs)),Y]
    simp only[List.mem_singleton] at hv';subst hv';simp only[] at H ⊢;rw[e2,hs] at H;cases H;simp
  obtain ⟨I,k1,k2,k3,S,k5⟩:=key;have J:i<G.tup.length:=by rw[k1];simp;omega
  have eT:qu G i=qu s i:=by unfold qu;rw[k1];exact JP hi
  rw[←eT] at h2;obtain ⟨r2,g1,g2,g3,g4,g5⟩:=qP vs G E J k5 h2;refine ⟨I++r2,by rw[g1,k1,Lz],g2.trans k2,?_,?_,g5⟩
  ·rw[g3,k3,Lz];congr 1;rw[show v::vs=[v]++vs from rfl,List.filterMap_append];congr 1;rw[g1];exact (Qbs J S).symm
  intro v' hv' u hu;rcases Lb.1 hv' with rfl | hv'
  ·have:=S.pre (r:=r2) J;rw[←g1] at this;exact this v' Ln u hu
  exact g4 v' hv' u hu
structure SyG (aa:List QQ) (i:Nat) (s:Sy):Prop where
 nd:s.tup.Nodup
 le:i≤s.tup.length
 hd:s.tup.getD 0 []=List.replicate aa.length 0∧0<s.tup.length
 mk2:s.mk'=((List.range' 0 i).filter λj=>Xa aa (s.tup.getD j [])).map λj:Nat=>(j:Int)
 ed:s.ed=grid (syF aa s.tup) (evs aa) i
 cl:∀j,j<i→Clo aa s.tup j (evs aa)
theorem Xr {α β:Type}{f g:α→List β}:∀{l:List α},(∀x∈l,f x=g x)→l.flatMap f=l.flatMap g
 | [],_=>rfl
 | x::l,h=>by rw[LD,LD,h x Ln,Xr (λy hy=>h y (Ll _ hy))]
theorem SyG.next {aa:List QQ}{i:Nat}{s E:Sy}(h:SyG aa i s) (hi:i<s.tup.length) (e:Vs aa i (qu s i) (evs aa) (ZF aa i (qu s i) s)=some E):SyG aa (i+1) E:=by
 have H:(ZF aa i (qu s i) s).tup=s.tup:=by unfold ZF;split <;> rfl
 have T:(ZF aa i (qu s i) s).ed=s.ed:=by unfold ZF;split <;> rfl
 have J:qu (ZF aa i (qu s i) s) i=qu s i:=by show (ZF aa i (qu s i) s).tup.getD i []=s.tup.getD i [];rw[H]
 rw[←J] at e;obtain ⟨r,g1,V,S,Y,g5⟩:=qP (evs aa) _ E (by rw[H];exact hi) (by rw[H];exact h.nd) (by rw[J] at e ⊢;exact e);rw[H] at g1;rw[T] at S;have pre:∀j,j≤i→E.tup.getD j []=s.tup.getD j []:=λj G=>by rw[g1];exact JP (by omega)
 refine ⟨g5,by rw[g1];simp;omega,⟨by rw[pre 0 (by omega)];exact h.hd.1,by rw[g1];simp;omega⟩,?_,?_,λj G=>?_⟩
 ·rw[V,L8,L0,Lt,LP];have e1:((List.range' 0 i).filter λj=>Xa aa (E.tup.getD j []))=(List.range' 0 i).filter λj=>Xa aa (s.tup.getD j []):=by
   refine List.filter_congr λj G=>?_;rw[LX] at G;rw[pre j (by omega)]
  rw[e1];unfold ZF;by_cases hm:Xa aa (qu s i)=true
  ·rw[if_pos hm];have I:Xa aa (E.tup.getD i [])=true:=by rw[pre i (Lr _)];exact hm
   simp only[List.filter_cons,I,if_true,List.filter_nil,List.map_cons,List.map_nil];rw[h.mk2]
  rw[if_neg hm];have I:Xa aa (E.tup.getD i [])=false:=by rw[pre i (Lr _)];exact eq_false_of_ne_true hm
  rw[L9,if_neg (by rw[I];simp),M2,h.mk2];simp
 ·rw[S,VH,h.ed];congr 1;unfold grid;refine Xr λj G=>?_;rw[LX] at G;rw[g1];exact (Qbs (by omega) (h.cl j (by omega))).symm
 by_cases e2:j=i
 ·subst e2;exact Y
 have:=(h.cl j (by omega)).pre (r:=r) (by omega);rw[←g1] at this;exact this
theorem yP {aa:List QQ}:∀(f i:Nat) (s E:Sy),SyG aa i s→syL aa f i s=some E→∃G,SyG aa G E∧(E.tup.length=G∨G=i+f)
 | 0,i,s,E,h,e=>by cases e;exact ⟨i,h,.inr O⟩
 | f+1,i,s,E,h,e=>by
  rw[syL] at e;split at e
  ·rename_i hi;obtain ⟨H,h1,h2⟩:=MD.1 e;obtain ⟨G,h3,I⟩:=yP f (i+1) H E (h.next hi h1) h2;exact ⟨G,h3,by omega⟩
  cases e;exact ⟨i,h,.inl (by have:=h.le;omega)⟩
structure SyP (aa:List QQ) (A:QQ) (Q:List (LI)):Prop where
 al:A.al=evs aa
 st:A.st=(Q.length:Int)
 nd:Q.Nodup
 v:∀t∈Q,Vt aa t
 le:Q.length≤4096
 hd:0<Q.length→Q.getD 0 []=List.replicate aa.length 0
 mk2:A.mr=((List.range' 0 Q.length).filter λj=>Xa aa (Q.getD j [])).map λj:Nat=>(j:Int)
 ed:A.ed=grid (syF aa Q) (evs aa) Q.length
 cl:∀j,j<Q.length→Clo aa Q j (evs aa)
theorem Xk {aa:List QQ}(I:∀a∈aa,Q8 a) {A:QQ}{Q:List (LI)}(h:sync aa=some (A,Q)):SyP aa A Q∧(Q.length=0↔∃a∈aa,a.st=0):=by
 have E:=Uf I h;unfold sync at h;split at h
 ·rename_i G;cases h
  exact ⟨⟨O,O,by simp,by simp,by simp,λh=>by simp at h,by simp,by simp[grid],λj H=>by simp at H⟩,by simpa using G⟩
 rename_i G;obtain ⟨s,h1,h2⟩:=MR.1 h;have J:SyG aa 0 (qv aa):=⟨by simp[qv],by simp,⟨by simp[qv],by simp[qv]⟩,by simp[qv],by simp[qv,grid],λj H=>by omega⟩;obtain ⟨S,h3,V⟩:=yP 4096 0 (qv aa) s J h1;cases h2
 have hl:S=s.tup.length:=by
  have h5:=h3.le;have T:=E.2;simp only[] at T;omega
 subst hl;refine ⟨⟨rfl,O,h3.nd,E.1,E.2,λ_=>h3.hd.1,h3.mk2,h3.ed,h3.cl⟩,?_⟩;have:=h3.hd.2;constructor
 ·intro h;have Y:s.tup.length=0:=h;omega
 intro h;exact absurd h G
theorem SyP.to {aa:List QQ}{A:QQ}{Q:List (LI)}(h:SyP aa A Q) {j:Nat}(E:j<Q.length) {v:Int}(G:v∈evs aa) {u:LI}(hu:ZX v aa (Q.getD j [])=some u):Q.idxOf u<Q.length∧Q.getD (Q.idxOf u) []=u:=by
 have hm:=h.cl j E v G u hu;have hl:=Me hm;refine ⟨hl,?_⟩;simp[List.getD,hl]
theorem SyP.okay {aa:List QQ}(E:∀a∈aa,Q8 a) {A:QQ}{Q:List (LI)}(h:SyP aa A Q):Q8 A:=by
 have J:=h.le;refine ⟨λe he=>?_,by rw[h.al];exact Qca E,by rw[h.st];omega,by rw[h.st];omega,λs hs=>?_,?_,λe he=>?_,by rw[h.ed];exact Qb4 (QiN aa Q) (Qca E) _⟩
 ·rw[h.al] at he;obtain ⟨a,ha,hx⟩:=(Qb9 E e).1 he;exact (E a ha).al e hx
 ·rw[h.mk2] at hs;simp only[List.mem_map,List.mem_filter,List.mem_range'_1] at hs;obtain ⟨i,⟨hi,_⟩,rfl⟩:=hs;rw[h.st];omega
 ·rw[h.mk2];unfold Yg;rw[MJ];refine List.Pairwise.sublist MI ?_;exact (M1 (s:=0) (n:=Q.length)).imp (λh=>by omega)
 rw[h.ed] at he;obtain ⟨j,v,I,G,H⟩:=jA he;unfold syF at H;obtain ⟨u,hu,rfl⟩:=MR.1 H;have:=(h.to I G hu).1;rw[h.st,h.al];exact ⟨by simp only[];omega,by simp only[];omega,G,by simp only[];omega,by simp only[];omega⟩
end Go.Proofs.YtdffckgdcegpaaaGreatDoor
namespace Go.Lg
open Go.RowKit
instance:LawfulBEq ByteArray where
 eq_of_beq h:=(MapKept.bytes_beq _ _).1 h;rfl:=(MapKept.bytes_beq _ _).2 O
def chr (s:ByteArray) (i:Nat):Nat:=(s.get! i).toNat
theorem QjS {s:ByteArray}{i:Nat}(h:i<s.size):(s[i]'h).toNat=chr s i:=by
 unfold chr;obtain ⟨d⟩:=s;have hd:i<d.size:=h;simp[ByteArray.get!,hd,ByteArray.getElem_eq_getElem_data]
theorem Qdn {a b:ByteArray}(h:a.data.toList=b.data.toList):a=b:=by
 obtain ⟨⟨x⟩⟩:=a;obtain ⟨⟨y⟩⟩:=b;have h':x=y:=h;rw[h']
theorem bytes_beq (a b:ByteArray):(a.toList == b.toList)=decide (a=b):=by
 rw[ByteArray.toList_eq,ByteArray.toList_eq];by_cases h:a=b
 ·subst h;simp
 rw[decide_eq_false h];have:a.data.toList≠b.data.toList:=λe=>h (Qdn e);simpa using this
section
variable {P:Program} {f:Fr} {w:World} {d:Option Nat} {ty:Nat} {ps:String} {af:Array Edge} {gd:Option (Nat×Bool)} {t t':Nat} {x y:Operand}
theorem Qeu [h:St P t] {s:ByteArray}{k:IntKind}{i:Nat}(hx:ev f x=.string s) (hy:ev f y=.int k i) (hi:i<s.size) :
  (execOp (ev f) ⟨d,.index t x y,ty,ps,af,gd⟩).run P w=.ok (.value (.int .u8 (chr s i))) w:=by
 have h1:=run_index_string (P:=P) w t s k i h.u;rw[dif_pos ⟨by omega,by omega⟩] at h1;have e:(s[(i:Int).toNat]'(by simpa using hi)).toNat=chr s i:=QjS hi;simp only[execOp,hx,hy,Sem.run_bind,h1,Result.andThen_ok,Sem.run_pure,e]
theorem QaE [h:St P t] {s:ByteArray}(hx:ev f x=.string s) :
  (execOp (ev f) ⟨d,.call ⟨.builtin .len,#[x],#[t]⟩,ty,ps,af,gd⟩).run P w=.ok (.value (.int .i64 s.size)) w:=Qet h.u hx
theorem zQ {a b:ByteArray}(hx:ev f x=.string a) (hy:ev f y=.string b) :
  (execOp (ev f) ⟨d,.binOp .eql t x y t',ty,ps,af,gd⟩).run P w=.ok (.value (.bool (decide (a=b)))) w:=by
 have E:(eqGuard .eql t x y (.string a) (.string b)).run P w=.ok () w:=by simp[eqGuard]
 simp only[execOp,hx,hy,Sem.run_bind,E,Result.andThen_ok,binOp_string_eql,Sem.run_pure,bytes_beq]
theorem Z9 {a b:ByteArray}(hx:ev f x=.string a) (hy:ev f y=.string b) (hl:a.size+b.size≤1000000000) :
  (execOp (ev f) ⟨d,.binOp .add t x y t',ty,ps,af,gd⟩).run P w=.ok (.value (.string (a++b))) w:=by
 have E:(eqGuard .add t x y (.string a) (.string b)).run P w=.ok () w:=by simp[eqGuard]
 have G:¬(((a.size+b.size:Nat):Int) > IntKind.i64.max):=by
  rw[show IntKind.i64.max=9223372036854775807 from rfl];omega
 simp only[execOp,hx,hy,Sem.run_bind,E,Result.andThen_ok,binOp_string_add,Op.stringOp,if_neg G,Sem.run_pure]
theorem Qg6 {a b:Nat}(hx:ev f x=.int .u16 a) (hy:ev f y=.int .u16 b) (ha:a<65536) (hb:b<65536) :
  (execOp (ev f) ⟨d,.binOp .and t x y t',ty,ps,af,gd⟩).run P w=.ok (.value (.int .u16 ((a &&& b:Nat):Int))) w:=by
 refine YZ hx hy ?_;have hi:inK .u16 ((a &&& b:Nat):Int):=by
  have:a &&& b≤a:=Nat.and_le_left;exact ⟨by omega,by omega⟩
 simp only[binOp,Op.intBits,BitVec.ofInt_natCast,ne_eq,not_true_eq_false,if_false,Sem.run_pure];rw[BitVec.toNat_and,BitVec.toNat_ofNat,BitVec.toNat_ofNat,Mj (show a<2 ^ IntKind.u16.bits from ha),Mj (show b<2 ^ IntKind.u16.bits from hb),Yi hi]
theorem QbJ {a b:Nat}(ha:a<65536) (hb:b<65536):a ||| b<65536:=Nat.or_lt_two_pow (n:=16) ha hb
theorem QaD {a b:Nat}(hx:ev f x=.int .u16 a) (hy:ev f y=.int .u16 b) (ha:a<65536) (hb:b<65536) :
  (execOp (ev f) ⟨d,.binOp .or t x y t',ty,ps,af,gd⟩).run P w=.ok (.value (.int .u16 ((a ||| b:Nat):Int))) w:=by
 refine YZ hx hy ?_;have hi:inK .u16 ((a ||| b:Nat):Int):=by
  have:=QbJ ha hb;exact ⟨by omega,by omega⟩
 simp only[binOp,Op.intBits,BitVec.ofInt_natCast,ne_eq,not_true_eq_false,if_false,Sem.run_pure];rw[BitVec.toNat_or,BitVec.toNat_ofNat,BitVec.toNat_ofNat,Mj (show a<2 ^ IntKind.u16.bits from ha),Mj (show b<2 ^ IntKind.u16.bits from hb),Yi hi]
theorem QaF {a b:Nat}(hx:ev f x=.int .u16 a) (hy:ev f y=.int .u16 b) (ha:a<65536) (hb:b<65536) :
  (execOp (ev f) ⟨d,.binOp .andNot t x y t',ty,ps,af,gd⟩).run P w=.ok (.value (.int .u16 ((a &&& (65535 ^^^ b):Nat):Int))) w:=by
 refine YZ hx hy ?_;have hi:inK .u16 ((a &&& (65535 ^^^ b):Nat):Int):=by
  have:a &&& (65535 ^^^ b)≤a:=Nat.and_le_left;exact ⟨by omega,by omega⟩
 have e:(~~~(BitVec.ofNat IntKind.u16.bits b))=BitVec.ofNat IntKind.u16.bits (65535 ^^^ b):=by
  have E:BitVec.allOnes 16=BitVec.ofNat 16 65535:=by decide
  have G:∀z:BitVec 16,~~~z=BitVec.allOnes 16 ^^^ z:=λz=>by
   first
   | exact BitVec.allOnes_xor.symm
   | exact (BitVec.xor_allOnes.symm.trans (BitVec.xor_comm _ _))
  show ~~~(BitVec.ofNat 16 b)=BitVec.ofNat 16 (65535 ^^^ b);rw[G,E];apply BitVec.eq_of_toNat_eq;simp only[BitVec.toNat_xor,BitVec.toNat_ofNat];rw[Mj (show 65535<2 ^ 16 by decide),Mj (show b<2 ^ 16 from hb)];rw[Mj (Nat.xor_lt_two_pow (n:=16) (by decide) hb)]
 simp only[binOp,Op.intBits,BitVec.ofInt_natCast,ne_eq,not_true_eq_false,if_false,Sem.run_pure];rw[e,BitVec.toNat_and,BitVec.toNat_ofNat,BitVec.toNat_ofNat,Mj (show a<2 ^ IntKind.u16.bits from ha),Mj (show 65535 ^^^ b<2 ^ IntKind.u16.bits from Nat.xor_lt_two_pow (n:=16) (by decide) hb),Yi hi]
theorem QbB {k k':IntKind}{a:Int}{n:Nat}(hx:ev f x=.int k a) (hy:ev f y=.int k' n) (E:n≤k.bits) (hi:inK k (a*2 ^ n)) :
  (execOp (ev f) ⟨d,.binOp .shl t x y t',ty,ps,af,gd⟩).run P w=.ok (.value (.int k (a*2 ^ n))) w:=by
 refine YZ hx hy ?_;have h1:¬((n:Int)<0):=by omega
 simp only[binOp,Op.shift,h1,if_false,Int.toNat_natCast,Nat.min_eq_left E,Sem.run_pure];rw[Yi hi]
end
section
variable {P:Program} {ops:List Oper} {K:Fr→World→Prop} {f:Fr} {w:World} {d:Option Nat} {ty:Nat} {ps:String} {af:Array Edge} {gd:Option (Nat×Bool)} {l:List Oper}
 {t e sz bys:Nat} {z:Value} {x y1 y2:Operand} {L:LN} {v:Value} {n:Nat} {cs:LV} {H:Array Obj} {k k':IntKind} {hi:Nat}
theorem Qeo [h:Sl P t e sz bys z] (E:Zp L H v n sz cs) (hx:ev f x=v) (G:ev f y1=.int k hi) (hm:ev f y2=.int k' hi) (h1:hi≤n) :
  ∃v',Zp L H v' hi sz (cs.take (hi*sz))∧∀w,(execOp (ev f) ⟨d,.slice t x none (some y1) (some y2),ty,ps,af,gd⟩).run P w=.ok (.value v') w:=by
 obtain ⟨ii,I,_,hs,_⟩:=Sl.info h;rcases E.2.2 with ⟨rfl,rfl⟩ | ⟨a,cap,rfl,hc,J⟩
 ·have S:hi=0:=by omega
  subst S;refine ⟨nS,?_,λw=>?_⟩
  ·rw[Nat.zero_mul,Nh];exact Zp.nil _ _ _
  simp[execOp,hx,G,hm,Instr.sliceAt,Instr.slice,Instr.sliceBounds,Instr.sliceBound,asIntOf,run_underlying h.u,sizeOf,typeInfo,I]
 refine ⟨.slice (some a) hi hi,⟨?_,by have:=E.2.1;omega,.inr ⟨a,hi,O,Lr _,λu hu=>J.out u (LM hu),λu hu=>J.lt u (LM hu),λj u hu=>?_⟩⟩,λw=>?_⟩
 ·rw[Lv,E.1,ML (Mt _ h1)]
 ·rw[LT] at hu;split at hu
  ·exact J.cell j u hu
  cases hu
 by_cases S:hi=0
 ·subst S;simp[execOp,hx,G,hm,Instr.sliceAt,Instr.slice,Instr.sliceBounds,Instr.sliceBound,asIntOf,run_underlying h.u,sizeOf,typeInfo,I]
 simp[execOp,hx,G,hm,Instr.sliceAt,Instr.slice,Instr.sliceBounds,Instr.sliceBound,asIntOf,run_underlying h.u,sizeOf,typeInfo,I,Addr.add];intro h9;omega
end
section
variable {P:Program} {ops l:List Oper} {K:Fr→World→Prop} {f:Fr} {w:World} {o:Oper} {C:World→Prop} {pl:List (Nat×Bool)} {i:Nat}
theorem xB {b:Bool}(E:(execOp (ev f) o).run P w=.ok (.value (.bool b)) w) (I:b=true→XL P ops K l (QV f o.dst (.bool true)) w) (J:b=false→XL P ops K l (QV f o.dst (.bool false)) w)
  (G:Yh ops f o=true:=by rfl):XL P ops K (o::l) f w:=by
 cases hb:b with
 | true=>rw[hb] at E;exact x E (I hb) G
 | false=>rw[hb] at E;exact x E (J hb) G
theorem pB {b:Bool}(E:∀w',(execOp (ev f) (Q4 ops i)).run P w'=.ok (.value (.bool b)) w') (I:b=true→XP P ops C K pl (QV f (Q4 ops i).dst (.bool true)) w) (J:b=false→XP P ops C K pl (QV f (Q4 ops i).dst (.bool false)) w)
  (G:Yh ops f (Q4 ops i)=true:=by rfl):XP P ops C K ((i,true)::pl) f w:=by
 cases hb:b with
 | true=>rw[hb] at E;exact p E (I hb) G
 | false=>rw[hb] at E;exact p E (J hb) G
theorem QfH {G:Prop} (b:Bool) (E:b=true→G) (I:b=false→G):G:=by cases h:b with | true=>exact E h | false=>exact I h
theorem bT {q:Prop}[Decidable q] (h:q):true=decide q:=(decide_eq_true h).symm
theorem bF {q:Prop}[Decidable q] (h:¬q):false=decide q:=(decide_eq_false h).symm
theorem bD {q r:Prop}[Decidable q] [Decidable r] (h:q↔r):decide q=decide r:=decide_eq_decide.2 h
end
section
variable {P:Program} {f:Fr} {w:World} {d:Option Nat} {ty:Nat} {ps:String} {af:Array Edge} {gd:Option (Nat×Bool)} {t:Nat} {x:Operand}
theorem UF {q:Prop}[Decidable q] (hx:ev f x=.bool (decide q)):(execOp (ev f) ⟨d,.unOp .not t x,ty,ps,af,gd⟩).run P w=.ok (.value (.bool (decide (¬q)))) w:=by
 rw[Zr hx];simp
end
end Go.Lg
namespace Go.Proofs.YtdffckgdcegpaaaGreatDoor
open Go.Lg
structure Ke where
 nm:ByteArray
 co:Bool
 ob:Bool
 fo:Bool
 fl:Int
structure YN where
 nm:ByteArray
 a:QQ
structure Exc where
 nm:ByteArray
 ls:List (Int×Int)
structure Xv where
 nm:ByteArray
 ts:List (Int×Int)
 bd:Int
structure Zw where
 ev:List Ke
 co:List YN
 rq:List YN
 ex:List Exc
 cs:List Xv
def JB (n:Nat):LI:=(List.range n).map λi:Nat=>(i:Int)
def nmP (i c:Nat):Prop:=((97≤c∧c≤122)∨(65≤c∧c≤90)∨c=95)∨(i≠0∧48≤c∧c≤57)
instance (i c:Nat):Decidable (nmP i c):=by unfold nmP;infer_instance
def nmQ (s:ByteArray) (i:Nat):Bool:=decide (nmP i (chr s i))
def YC (s:ByteArray):Bool:=(List.range' 0 s.size).all (nmQ s) && decide (0<s.size∧s.size≤32)
def Xd (seen:List ByteArray) (e:Ke):Int:=if YC e.nm=false then 7 else if e.nm∈seen then 8 else if e.fl<0∨4<e.fl then 2 else if e.fl≠0∧(e.co || e.ob)=true then 13 else 0
def VZ:List ByteArray→List Ke→Int
 | _,[]=>0
 | seen,e::l=>if Xd seen e≠0 then Xd seen e else VZ (seen++[e.nm]) l
def Jm (l:List Ke):Int:=if 32<l.length then 3 else VZ [] l
def ixs {α:Type}(q:α→Bool):Nat→List α→LI
 | _,[]=>[]
 | i,e::l=>if q e=true then (i:Int)::ixs q (i+1) l else ixs q (i+1) l
def unc (l:List Ke):LI:=ixs (λe=>!e.co) 0 l
def YP (sz:LI):Option Int→List (Int×Int)→Int
 | _,[]=>0
 | pr,l::ls=>if l.1<0∨(sz.length:Int)≤l.1 then 2 else if UP pr l.1=true then 5 else if l.2<0∨cget sz l.1.toNat≤l.2 then 2 else YP sz (some l.1) ls
def XR (sz:LI) (ls:List (Int×Int)):Int:=if ls.length=0 then 12 else YP sz none ls
def grt (n:Int):Bool:=decide (n < -65536) || decide (65536<n)
def Xs (sz:LI):Option Int→List (Int×Int)→Int
 | _,[]=>0
 | pr,l::ls=>if l.1<0∨(sz.length:Int)≤l.1 then 2 else if UP pr l.1=true then 5 else if l.2=0∨grt l.2=true then 2 else Xs sz (some l.1) ls
def YL (sz:LI) (k:Xv):Int:=if k.ts.length=0 then 12 else if Xs sz none k.ts≠0 then Xs sz none k.ts else if grt k.bd=true then 2 else 0
def JU (seen:List ByteArray) (s:ByteArray):Int:=if YC s=false then 7 else if s∈seen then 8 else 0
def Yc (sz:LI):List ByteArray→List Exc→Int
 | _,[]=>0
 | seen,x::l=>if JU seen x.nm≠0 then JU seen x.nm else if XR sz x.ls≠0 then XR sz x.ls else Yc sz (seen++[x.nm]) l
def YF (sz:LI):List ByteArray→List Xv→Int
 | _,[]=>0
 | seen,x::l=>if JU seen x.nm≠0 then JU seen x.nm else if YL sz x≠0 then YL sz x else YF sz (seen++[x.nm]) l
def Jw (n:Int):Bool:=decide (n<1) || decide (4096<n)
def Yu (sz:LI) (ex:List Exc) (cs:List Xv):Int:=if 8<sz.length then 3 else if sz.any Jw=true then 2 else if 32<ex.length∨32<cs.length then 3 else if Yc sz [] ex≠0 then Yc sz [] ex else YF sz [] cs
def mns (a b:LI):LI:=mrg (λp q=>p && !q) a b
def JO (a:QQ):Bool:=decide (Jn a=0) && decide ((ZD a).st=a.st∧(ZD a).al=a.al∧(ZD a).mr=a.mr∧(ZD a).ed=a.ed)
def Z2 (nev:Nat) (amg:LI) (seen:List ByteArray) (x:YN):Int :=
 if YC x.nm=false then 7 else if x.nm∈seen then 8 else if Jn x.a≠0 then Jn x.a else if JO x.a=false then 6 else if x.a.st=0 then 12 else
 if (x.a.al.any λe=>decide ((nev:Int)≤e))=true then 2 else if (mns x.a.al amg).length≠0 then 9 else 0
def Z6 (nev:Nat) (al:LI):List ByteArray→LI→List YN→Int×List ByteArray×LI
 | s,u,[]=>(0,s,u)
 | s,u,x::l=>if Z2 nev al s x≠0 then (Z2 nev al s x,s,u) else Z6 nev al (s++[x.nm]) (mrg (· || ·) u x.a.al) l
def Ja (nev:Nat) (u:LI):List ByteArray→List YN→Int
 | _,[]=>0
 | s,x::l=>if Z2 nev u s x≠0 then Z2 nev u s x else Ja nev u (s++[x.nm]) l
def szs (l:List YN):LI:=l.map (·.a.st)
def auts (l:List YN):List QQ:=l.map (·.a)
def Zb (c:Zw):Int :=
 if Jm c.ev≠0 then Jm c.ev else if c.co.length=0 then 12 else if 8<c.co.length∨12<c.co.length+c.rq.length then 3 else
 if (Z6 c.ev.length (JB c.ev.length) [] [] c.co).1≠0 then (Z6 c.ev.length (JB c.ev.length) [] [] c.co).1 else
 if Ja c.ev.length (Z6 c.ev.length (JB c.ev.length) [] [] c.co).2.2 (Z6 c.ev.length (JB c.ev.length) [] [] c.co).2.1 c.rq≠0 then Ja c.ev.length (Z6 c.ev.length (JB c.ev.length) [] [] c.co).2.2 (Z6 c.ev.length (JB c.ev.length) [] [] c.co).2.1 c.rq else
 Yu (szs c.co) c.ex c.cs
def Kl (t:LI) (x:Exc):Bool:=x.ls.all λl=>decide (t.getD l.1.toNat 0=l.2)
def Qkt (t:LI) (k:Xv):Int:=k.ts.foldl (λs p=>s+p.2*t.getD p.1.toNat 0) 0
def Vr (t:LI) (k:Xv):Bool:=decide (k.bd<Qkt t k)
def fix {α:Type}(q:α→Bool):Nat→List α→Int
 | _,[]=>-1
 | i,e::l=>if q e=true then (i:Int) else fix q (i+1) l
def vio (c:Zw) (t:LI):Option (Int×Int) :=
 if 0≤fix (Kl t) 0 c.ex then some (1,fix (Kl t) 0 c.ex) else if 0≤fix (Vr t) 0 c.cs then some (2,fix (Vr t) 0 c.cs) else none
def rfr (v:Int):Nat→List YN→LI→Int
 | i,x::l,s::ss=>if v∈x.a.al∧(eget x.a.ed s v).isSome=false then (i:Int) else rfr v (i+1) l ss
 | _,_,_=>-1
structure Rsn where
 st:Int
 kd:Int
 ix:Int
 ev:Int
def rfd (c:Zw) (rs:LI):LI→Option (Int×Int)
 | []=>none
 | v::l=>if 0≤rfr v 0 c.rq rs∧(c.ev.getD v.toNat ⟨.empty,false,false,false,0⟩).co=false then some (rfr v 0 c.rq rs,v) else rfd c rs l
def Qdc (a:QQ) (s:Int):LI:=(Zy a.ed s).map (·.2.1)
def rsn (c:Zw) (pl:QQ) (plc:Int) (i:Nat) (t:LI):Option Rsn :=
 match vio c (t.take c.co.length) with
 | some (k,j)=>some ⟨i,k,j,-1⟩
 | none=>match rfd c (t.drop c.co.length) (Qdc pl plc) with
  | some (j,v)=>some ⟨i,3,j,v⟩
  | none=>none
structure Spc where
 a:QQ
 co:List (LI)
 rq:List (LI)
 pl:LI
 fb:List Rsn
def plx (ps:List (LI)) (t:LI):Int:=if t∈ps then (ps.idxOf t:Int) else 0
def QiQ (c:Zw) (pl:QQ) (ps:List (LI)) (s:Spc) (p:LI×Nat):Spc :=
 ⟨s.a,s.co++[p.1.take c.co.length],s.rq++[p.1.drop c.co.length],s.pl++[plx ps (p.1.take c.co.length)],
  match rsn c pl (plx ps (p.1.take c.co.length)) p.2 p.1 with | some r=>s.fb++[r] | none=>s.fb⟩
def Yx (c:Zw):Int:=if Zb c≠0 then Zb c else if KK (auts c.co)≠0 then KK (auts c.co) else match sync (auts c.co) with
 | none=>3
 | some _=>if KK (auts c.co++auts c.rq)≠0 then KK (auts c.co++auts c.rq) else match sync (auts c.co++auts c.rq) with
  | none=>3
  | some _=>0
def syA (l:List QQ):QQ:=match sync l with | none=>⟨[],0,[],[]⟩ | some z=>z.1
def syQ (l:List QQ):List (LI):=match sync l with | none=>[] | some z=>z.2
def spc (c:Zw):Spc:=(syQ (auts c.co++auts c.rq)).zipIdx.foldl (QiQ c (syA (auts c.co)) (syQ (auts c.co))) ⟨syA (auts c.co++auts c.rq),[],[],[],[]⟩
end Go.Proofs.YtdffckgdcegpaaaGreatDoor
namespace Go.Lg
section
variable {P:Program} {f:Fr} {w:World} {d:Option Nat} {ty:Nat} {ps:String} {af:Array Edge} {gd:Option (Nat×Bool)}
end
inductive Pu where
 | pl (l:List (Nat×Bool))
 | f2 (pre:List (Nat×Bool)) (i j:Nat) (t1 t2:Pu)
 | f3 (pre:List (Nat×Bool)) (i j k:Nat) (t1 t2 t3:Pu)
def Pu.len:Pu→Nat
 | .pl l=>l.length
 | .f2 pre _ _ t1 _=>pre.length+(1+t1.len)
 | .f3 pre _ _ _ t1 _ _=>pre.length+(1+t1.len)
def zS (all:Array Oper):Pu→Array Bool→Bool
 | .pl l,ls=>Y8 all l ls
 | .f2 pre i j t1 t2,ls=>J1 all pre ls && Region.ready .any all (Z0 pre ls) == [i,j] && t1.len == t2.len && zS all t1 ((Z0 pre ls).setIfInBounds i true) && zS all t2 ((Z0 pre ls).setIfInBounds j true)
 | .f3 pre i j k t1 t2 t3,ls=>J1 all pre ls && Region.ready .any all (Z0 pre ls) == [i,j,k] && t1.len == t2.len && t1.len == t3.len && zS all t1 ((Z0 pre ls).setIfInBounds i true) && zS all t2 ((Z0 pre ls).setIfInBounds j true) && zS all t3 ((Z0 pre ls).setIfInBounds k true)
def Qkx (all:List Oper) (t:Pu):Bool:=Region.noSelect all.toArray && t.len == all.length && zS all.toArray t (Array.replicate all.length false)
def XE (P:Program) (all:List Oper) (C:World→Prop) (i:Nat) (N:Fr→World→Prop) (f:Fr) (w:World):Prop:=Yh all f (Q4 all i)=true∧XO P (Q4 all i) f w λE w'=>C w'∧N E w'
def XU (P:Program) (all:List Oper) (C:World→Prop) (K:Fr→World→Prop):Pu→Fr→World→Prop
 | .pl l=>XP P all C K l
 | .f2 pre i j t1 t2=>XP P all C (λf w=>XE P all C i (XU P all C K t1) f w∧XE P all C j (XU P all C K t2) f w) pre
 | .f3 pre i j k t1 t2 t3=>XP P all C (λf w=>XE P all C i (XU P all C K t1) f w∧XE P all C j (XU P all C K t2) f w∧XE P all C k (XU P all C K t3) f w) pre
section
variable {P:Program} {n:Nat} {f:Fr} {w:World} {all:List Oper} {C:World→Prop} {K B:Fr→World→Prop}
theorem Jd (hs:Region.noSelect all.toArray=true):∀(t:Pu) (ls:Array Bool) (f:Fr) (w:World),ls.size=all.length→C w→zS all.toArray t ls=true→XU P all C K t f w→XA P all C K t.len ls f w
 | .pl l,ls,f,w,J,hC,hp,h=>ZE hs l ls f w J (.inl hC) hp h
 | .f2 pre i j t1 t2,ls,f,w,J,hC,hp,h=>by
  simp only[zS,Bool.and_eq_true,beq_iff_eq] at hp;obtain ⟨⟨⟨⟨hq,E⟩,hl⟩,h1⟩,h2⟩:=hp;rw[Pu.len];refine YI (B:=λf w=>XE P all C i (XU P all C K t1) f w∧XE P all C j (XU P all C K t2) f w) hs pre ls f w hC hq (λf G=>?_) h;have H:∀k,((Z0 pre ls).setIfInBounds k true).size=all.length:=λk=>by simp[YJ,J]
  rw[MX 1];refine Jq (λS=>(by rw[S] at E;cases E)) ?_;rw[E];intro k hk o I;simp only[List.mem_cons,List.not_mem_nil,or_false] at hk;rcases hk with rfl | rfl
  ·have:=G.1;unfold XE at this;rw[Zm I] at this;rw[this.1,cond_true];exact this.2.mono λv w' hx=>⟨.inr (.inr hx.1),Jd hs t1 _ _ _ (H _) hx.1 h1 hx.2⟩
  have:=G.2;unfold XE at this;rw[Zm I] at this;rw[this.1,cond_true,hl];exact this.2.mono λv w' hx=>⟨.inr (.inr hx.1),Jd hs t2 _ _ _ (H _) hx.1 h2 hx.2⟩
 | .f3 pre i j k t1 t2 t3,ls,f,w,J,hC,hp,h=>by
  simp only[zS,Bool.and_eq_true,beq_iff_eq] at hp;obtain ⟨⟨⟨⟨⟨⟨hq,E⟩,hl⟩,T⟩,h1⟩,h2⟩,h3⟩:=hp;rw[Pu.len];refine YI (B:=λf w=>XE P all C i (XU P all C K t1) f w∧XE P all C j (XU P all C K t2) f w∧XE P all C k (XU P all C K t3) f w) hs pre ls f w hC hq (λf G=>?_) h;have H:∀k,((Z0 pre ls).setIfInBounds k true).size=all.length:=λk=>by simp[YJ,J]
  rw[MX 1];refine Jq (λS=>(by rw[S] at E;cases E)) ?_;rw[E];intro q hk o I;simp only[List.mem_cons,List.not_mem_nil,or_false] at hk;rcases hk with rfl | rfl | rfl
  ·have:=G.1;unfold XE at this;rw[Zm I] at this;rw[this.1,cond_true];exact this.2.mono λv w' hx=>⟨.inr (.inr hx.1),Jd hs t1 _ _ _ (H _) hx.1 h1 hx.2⟩
  ·have:=G.2.1;unfold XE at this;rw[Zm I] at this;rw[this.1,cond_true,hl];exact this.2.mono λv w' hx=>⟨.inr (.inr hx.1),Jd hs t2 _ _ _ (H _) hx.1 h2 hx.2⟩
  have:=G.2.2;unfold XE at this;rw[Zm I] at this;rw[this.1,cond_true,T];exact this.2.mono λv w' hx=>⟨.inr (.inr hx.1),Jd hs t3 _ _ _ (H _) hx.1 h3 hx.2⟩
theorem Qii {Q:Exit→Fr→World→Prop}{id:Nat}(C:World→Prop) (t:Pu) (hm:P.follows .mixedOrders=true) (E:XQ n all=true) (hp:Qkx all t=true)
  (hC:C { w with drawn:=w.drawn+1 }) (h:XU P all C (λf w=>Q .normal f w) t f { w with drawn:=w.drawn+1 }):W P n (.region id all.toArray true) Q f w:=by
 simp only[Qkx,Bool.and_eq_true,beq_iff_eq] at hp;obtain ⟨⟨hs,hl⟩,hp⟩:=hp;refine KC C hm E ?_;have h1:=Jd hs t _ _ _ (by simp) hC hp h;rw[hl] at h1;exact h1
theorem uP {l:List (Nat×Bool)}(h:XP P all C K l f w):XU P all C K (.pl l) f w:=h
theorem u2 {pre:List (Nat×Bool)}{i j:Nat}{E G:Pu}(h:XP P all C (λf w=>XE P all C i (XU P all C K E) f w∧XE P all C j (XU P all C K G) f w) pre f w):XU P all C K (.f2 pre i j E G) f w:=h
theorem u3 {pre:List (Nat×Bool)}{i j k:Nat}{E G H:Pu}(h:XP P all C (λf w=>XE P all C i (XU P all C K E) f w∧XE P all C j (XU P all C K G) f w∧XE P all C k (XU P all C K H) f w) pre f w):XU P all C K (.f3 pre i j k E G H) f w:=h
theorem ue {i:Nat}{N:Fr→World→Prop}(h:XO P (Q4 all i) f w λE w'=>C w'∧N E w') (G:Yh all f (Q4 all i)=true:=by rfl):XE P all C i N f w:=⟨G,h⟩
end
attribute [irreducible] XU XE
open Go.RowKit
abbrev fen (ro:Option Nat):Fence:={ Fence.wide with round:=ro }
def coll (ds:LN):List Deferred:=ds.map λD=>{ target:=.collected D,args:=#[] }
structure Yt (n:Nat) (ds:LN) (a:Act) (f:Fr):Prop where
 size:a.tmps.size=n
 defers:a.defers=coll ds
 get:∀t,a.tmps.getD t undef=f t
theorem Yt.rel {n:Nat} {ds:LN} {a:Act} {f:Fr} (h:Yt n ds a f):yK n { a with defers:=[] } f:=⟨h.size,O,h.get⟩
theorem Yt.eval {n:Nat}{ds:LN}{a:Act}{f:Fr}(h:Yt n ds a f):a.eval=ev f:=by
 have:=h.rel.eval;rw[←this];funext x;cases x <;> rfl
theorem Yt.put {n:Nat}{ds:LN}{a:Act}{f:Fr}(h:Yt n ds a f) {dst:Option Nat}(hd:∀d,dst=some d→d<n) (v:Value):Yt n ds (a.put dst v) (QV f dst v):=by
 have:=h.rel.put hd v;cases dst with
 | none=>exact h
 | some d=>exact ⟨this.size,h.defers,this.get⟩
def Y7:Code→Nat→Bool
 | .region _ ops _,t=>ZK ops.toList t
 | .seq a b,t=>Y7 a t || Y7 b t
 | .cond _ a b,t=>Y7 a t || Y7 b t
 | .block _ a,t=>Y7 a t
 | .loop a,t=>Y7 a t
 | .skip,_ | .exit _,_ | .label _,_ | .goto _,_ | .ret,_ | .rangeFunc ..,_=>false
 | _,_=>true
def wrG (D:List (Nat×Nat)):Code→Bool
 | .region _ ops _=>Qbo D ops.toList
 | .seq a b=>wrG D a && wrG D b
 | .cond _ a b=>wrG D a && wrG D b
 | .block _ a=>wrG D a
 | .loop a=>wrG D a
 | .skip | .exit _ | .label _ | .goto _ | .ret | .rangeFunc ..=>true
 | _=>false
theorem XD {D:List (Nat×Nat)}{t:Nat}(E:Xo D t=false):∀c:Code,wrG D c=true→Y7 c t=false
 | .region _ ops _,h=>qN h E
 | .seq a b,h=>by simp only[wrG,Bool.and_eq_true] at h;simp[Y7,XD E a h.1,XD E b h.2]
 | .cond _ a b,h=>by simp only[wrG,Bool.and_eq_true] at h;simp[Y7,XD E a h.1,XD E b h.2]
 | .block _ a,h=>XD E a (by simpa[wrG] using h)
 | .loop a,h=>XD E a (by simpa[wrG] using h)
 | .skip,_=>rfl
 | .exit _,_=>rfl
 | .label _,_=>rfl
 | .goto _,_=>rfl
 | .ret,_=>rfl
 | .rangeFunc ..,_=>rfl
 | .scope _,h=>by simp[wrG] at h
 | .refuse _,h=>by simp[wrG] at h
def WG (ro:Option Nat) (m:Nat) (P:Program) (n:Nat) (c:Code) (Q:Exit→LN→Fr→World→Prop) (ds:LN) (f:Fr) (w:World):Prop :=
 ∀a,Yt n ds a f→c.wpIn (fen ro) m P (λe E w'=>∃ds' f',Yt n ds' E f'∧(∀t,Y7 c t=false→f' t=f t)∧Q e ds' f' w') a w
def Qak (K:LN→Fr→World→Prop) (Q:Exit→LN→Fr→World→Prop):Exit→LN→Fr→World→Prop
 | .normal,ds,f,w=>K ds f w
 | e,ds,f,w=>Q e ds f w
def Qk2 (id:Nat) (Q:Exit→LN→Fr→World→Prop):Exit→LN→Fr→World→Prop
 | .exit i,ds,f,w=>bif Nat.beq i id then Q .normal ds f w else Q (.exit i) ds f w
 | e,ds,f,w=>Q e ds f w
section
variable {ro:Option Nat} {m:Nat} {P:Program} {n:Nat} {Q:Exit→LN→Fr→World→Prop} {ds:LN} {f:Fr} {w:World}
theorem WG.mono {c:Code}{Q':Exit→LN→Fr→World→Prop}(h:WG ro m P n c Q ds f w) (hq:∀e ds f w,Q e ds f w→Q' e ds f w):WG ro m P n c Q' ds f w :=
 λa ha=>wpIn_mono (h a ha) λ_ _ _ ⟨E,G,h1,h2,h3⟩=>⟨E,G,h1,h2,hq _ _ _ _ h3⟩
theorem WG.keeps {c:Code}(h:WG ro m P n c Q ds f w):WG ro m P n c (λe G E w'=>(∀t,Y7 c t=false→E t=f t)∧Q e G E w') ds f w :=
 λa ha=>wpIn_mono (h a ha) λ_ _ _ ⟨G,E,h1,h2,h3⟩=>⟨G,E,h1,h2,h2,h3⟩
theorem Ye (h:Q .normal ds f w):WG ro m P n .skip Q ds f w:=λ_ ha=>wpIn_skip ⟨ds,f,ha,λ_ _=>O,h⟩
theorem J0 {i:Nat}(h:Q (.exit i) ds f w):WG ro m P n (.exit i) Q ds f w:=λ_ ha=>wpIn_exit ⟨ds,f,ha,λ_ _=>O,h⟩
theorem JZ (h:Q .ret ds f w):WG ro m P n .ret Q ds f w:=λ_ ha=>wpIn_ret ⟨ds,f,ha,λ_ _=>O,h⟩
theorem QX {x y:Code}(h:WG ro m P n x (Qak (λds f w=>WG ro m P n y Q ds f w) Q) ds f w):WG ro m P n (.seq x y) Q ds f w:=by
 intro a ha;refine wpIn_seq (wpIn_mono (h a ha) ?_);rintro e I w' ⟨H,E,h1,h2,h3⟩;have k1:∀t,Y7 (.seq x y) t=false→E t=f t:=λt G=>h2 t (by simp only[Y7,Bool.or_eq_false_iff] at G;exact G.1);cases e with
 | normal =>
  refine wpIn_mono (h3 I h1) λ_ _ _ ⟨J,S,g1,T,V⟩=>⟨J,S,g1,λt G=>(T t ?_).trans (k1 t G),V⟩;simp only[Y7,Bool.or_eq_false_iff] at G;exact G.2
 | exit id=>exact ⟨H,E,h1,k1,h3⟩
 | goto l=>exact ⟨H,E,h1,k1,h3⟩
 | ret=>exact ⟨H,E,h1,k1,h3⟩
 | panic ch=>exact ⟨H,E,h1,k1,h3⟩
 | outgrown=>exact ⟨H,E,h1,k1,h3⟩
theorem Qcx {α:Type}{x y:Code}(D:List (Nat×Nat)) (S:α→List (Nat×Value)) (I:α→LN→World→Prop) (hD:wrG D x=true)
  (h1:WG ro m P n x (Qak (λE G w'=>∃z,Xu G (S z)∧I z E w') Q) ds f w)
  (h2:∀z g E w',I z E w'→WG ro m P n y Q E (zB (S z) (mix D f g)) w'):WG ro m P n (.seq x y) Q ds f w:=by
 refine QX (h1.keeps.mono ?_);rintro e E G w' ⟨hk,hq⟩;cases e with
 | normal =>
  obtain ⟨z,hs,hi⟩:=hq;have h3:=h2 z G E w' hi;rw[JJ (λt H=>hk t (XD H x hD)),YQ hs] at h3;exact h3
 | exit id=>exact hq
 | goto l=>exact hq
 | ret=>exact hq
 | panic ch=>exact hq
 | outgrown=>exact hq
theorem KG {c:Operand}{x y:Code}{t:Bool}(hc:ev f c=.bool t) (E:t=true→WG ro m P n x Q ds f w) (G:t=false→WG ro m P n y Q ds f w) :
  WG ro m P n (.cond c x y) Q ds f w:=by
 intro a ha;have H:a.eval c=.bool t:=by rw[ha.eval];exact hc
 refine wpIn_cond_split H (λe=>wpIn_mono (E e a ha) ?_) (λe=>wpIn_mono (G e a ha) ?_) <;>
  (rintro e S w' ⟨I,J,h1,h2,h3⟩
   refine ⟨I,J,h1,λt E=>h2 t ?_,h3⟩;simp only[Y7,Bool.or_eq_false_iff] at E
   first | exact E.1 | exact E.2)
theorem Qin {c:Operand}{x y:Code}{p:Prop}[Decidable p] (hc:ev f c=.bool (decide p)) (E:p→WG ro m P n x Q ds f w) (G:¬p→WG ro m P n y Q ds f w) :
  WG ro m P n (.cond c x y) Q ds f w :=
 KG hc (λe=>E (of_decide_eq_true e)) (λe=>G (of_decide_eq_false e))
theorem zw {c:Operand}{x y:Code}{p:Prop}[Decidable p] (hc:ev f c=.bool (decide p)) (E:¬p→WG ro m P n y Q ds f w) (G:p→WG ro m P n x Q ds f w) :
  WG ro m P n (.cond c x y) Q ds f w:=Qin hc G E
theorem yF {c:Operand}{x y:Code}(hc:ev f c=.bool true) (h:WG ro m P n x Q ds f w):WG ro m P n (.cond c x y) Q ds f w:=KG hc (λ_=>h) (λe=>by cases e)
theorem Kc {c:Operand}{x y:Code}(hc:ev f c=.bool false) (h:WG ro m P n y Q ds f w):WG ro m P n (.cond c x y) Q ds f w:=KG hc (λe=>by cases e) (λ_=>h)
theorem ZH {id:Nat}{c:Code}(h:WG ro m P n c (Qk2 id Q) ds f w):WG ro m P n (.block id c) Q ds f w:=by
 intro a ha;refine wpIn_block (wpIn_mono (h a ha) ?_);rintro e I w' ⟨G,E,h1,h2,h3⟩;have k1:∀t,Y7 (.block id c) t=false→E t=f t:=λt H=>h2 t (by simpa[Y7] using H);cases e with
 | exit i =>
  simp only[Exit.inBlock];simp only[Qk2] at h3;by_cases hi:i=id
  ·subst hi;simp only[Nat.beq_refl,cond_true] at h3;simp only[if_true];exact ⟨G,E,h1,k1,h3⟩
  have hb:Nat.beq i id=false:=by
   cases e:Nat.beq i id with
   | false=>rfl
   | true=>exact absurd (Nat.eq_of_beq_eq_true e) hi
  rw[hb] at h3;rw[if_neg hi];exact ⟨G,E,h1,k1,h3⟩
 | normal=>exact ⟨G,E,h1,k1,h3⟩
 | goto l=>exact ⟨G,E,h1,k1,h3⟩
 | ret=>exact ⟨G,E,h1,k1,h3⟩
 | panic ch=>exact ⟨G,E,h1,k1,h3⟩
 | outgrown=>exact ⟨G,E,h1,k1,h3⟩
end
def ji (l:List Oper):Bool:=l.all λo=>match o.op with | .defer _=>false | _=>true
theorem Kq {l:List Oper}(h:ji l=true):∀o∈l,∀c,o.op≠.defer c:=λo E c e=>by
 have:=Mh.1 h o E;rw[e] at this;cases this
section
variable {ro:Option Nat} {m:Nat} {P:Program} {n:Nat} {ds:LN}
theorem Qcr {o:Oper}{a:Act}{f:Fr}{w:World}{K:Fr→World→Prop}{K':Act→World→Prop}{Q:Exit→Act→World→Prop}(h:Yt n ds a f) (G:∀c,o.op≠.defer c)
  (E:∀v w',K (QV f o.dst v) w'→K' (a.put o.dst v) w') (hx:XO P o f w K):o.wpIn (fen ro) m P a w K' Q:=by
 unfold XO at hx;refine ⟨λ_ _=>trivial,?_⟩;have e:Oper.semAt (fen ro).round a.eval o=execOp (ev f) o:=by
  rw[h.eval];cases ro with
  | none=>rfl
  | some l=>exact Oper.semAt_some l _ _ G
 rw[e];generalize (execOp (ev f) o).run P w=r at hx;cases r with
 | ok nx w' =>
  cases nx <;> simp only[upF] at hx <;> simp only[Oper.uponIn]
  case value v=>exact E v w' hx
  case skip=>exact E _ w' hx
  case enter g args =>
   refine ⟨λh=>by simp[Fence.wide] at h,?_⟩;refine (callsIn_wide (n:=m - 1)).2 (Calls.mono hx λe H he=>?_);cases e with
   | returned v=>exact E v H he
   | panicked c=>exact he.elim
   | outgrown=>exact he.elim
 | halt x w'=>exact hx.elim
theorem Kk {l:List Oper}{a:Act}{f:Fr}(h:Yt n ds a f) (E:∀o∈l,∀d,o.dst=some d→d<n) (o:Oper):Region.wanted o (yielded l.toArray a.tmps)=Yh l f o:=Vq h.rel E o
theorem Qct {Q:Exit→LN→Fr→World→Prop}{all:List Oper}(G:∀o∈all,∀d,o.dst=some d→d<n) (hd:∀o∈all,∀c,o.op≠.defer c) (f0:Fr) :
  ∀(l:List Oper) (k:Nat) (a:Act) (f:Fr) (w:World),(∀j,l[j]?=all[k+j]?)→Yt n ds a f→(∀t,ZK all t=false→f t=f0 t) →
   XL P all (λf w=>Q .normal ds f w) l f w →
   wpOpsIn (fen ro) m P all.toArray (λe T w'=>∃ds' f',Yt n ds' T f'∧(∀t,ZK all t=false→f' t=f0 t)∧Q e ds' f' w') (List.range' k l.length) a w
 | [],_,a,f,w,_,E,hk,h=>⟨ds,f,E,hk,by unfold XL at h;exact h⟩
 | o::l,k,a,f,w,hl,E,hk,h=>by
  have I:all[k]?=some o:=by simpa using (hl 0).symm
  have H:o∈all:=L7 I;have ih:=λa f w=>Qct (Q:=Q) G hd f0 l (k+1) a f w (λj=>by have:=hl (j+1);simpa[Nat.add_assoc,Nat.add_comm 1 j] using this);have next:∀v,(∀t,ZK all t=false→QV f o.dst v t=f0 t):=λv t J=>(YR (Xl H J) v).trans (hk t J);simp only[List.length_cons,List.range'_succ,wpOpsIn,List.getElem?_toArray,I];rw[Kk E G o];unfold XL at h;cases S:Yh all f o with
  | false =>
   rw[S] at h;exact ⟨λ_ _=>trivial,ih _ _ _ (E.put (G o H) _) (next _) h⟩
  | true =>
   rw[S] at h;exact Qcr E (hd o H) (λv w' hx=>ih _ _ _ (E.put (G o H) v) (next v) hx) h
theorem QJ {Q:Exit→LN→Fr→World→Prop}{f:Fr}{w:World}{id:Nat}{l:List Oper}(E:XQ n l=true) (hd:ji l=true) (h:XL P l (λf w=>Q .normal ds f w) l f w):WG ro m P n (.region id l.toArray false) Q ds f w:=by
 intro a ha;refine wpIn_region ?_;have:=Qct (ro:=ro) (m:=m) (YD E) (Kq hd) f l 0 a f w (by simp) ha (λ_ _=>rfl) h;simpa[List.range_eq_range',Y7] using this
attribute [local semireducible] XA in
theorem Ur {Q:Exit→Act→World→Prop}{all:List Oper}{C:World→Prop}{K:Fr→World→Prop}(G:∀o∈all,∀d,o.dst=some d→d<n) (hd:∀o∈all,∀c,o.op≠.defer c) (f0:Fr)
  (H:∀a f w,Yt n ds a f→(∀t,ZK all t=false→f t=f0 t)→K f w→Q .normal a w) :
  ∀(k:Nat) (ls:Array Bool) (a:Act) (f:Fr) (w:World),Yt n ds a f→(∀t,ZK all t=false→f t=f0 t)→XA P all C K k ls f w→wpAnyIn (fen ro) m P .any all.toArray Q k ls a w
 | 0,_,a,f,w,E,hk,h=>⟨h.1,H a f w E hk h.2⟩
 | k+1,ls,a,f,w,E,hk,h=>by
  refine ⟨λV=>H a f w E hk (h.1 V),λi hi=>?_⟩;unfold wpOpIn;simp only[List.getElem?_toArray];cases J:all[i]? with
  | none =>
   exfalso;obtain ⟨_,o,Y,_⟩:=mem_ready.1 hi;simp[J] at Y
  | some o =>
   have I:o∈all:=L7 J;have h1:=h.2 i hi o J;have next:∀v,(∀t,ZK all t=false→QV f o.dst v t=f0 t):=λv t S=>(YR (Xl I S) v).trans (hk t S);simp only[];rw[Kk E G o];cases T:Yh all f o with
   | false =>
    rw[T] at h1;exact ⟨λ_ _=>trivial,Ur G hd f0 H k _ _ _ _ (E.put (G o I) _) (next _) h1⟩
   | true =>
    rw[T] at h1;exact Qcr E (hd o I) (λv w' hx=>Ur G hd f0 H k _ _ _ _ (E.put (G o I) v) (next v) hx.2) h1
theorem qp {Q:Exit→LN→Fr→World→Prop}{f:Fr}{w:World}{all:List Oper}{id:Nat}(C:World→Prop) (pl:List (Nat×Bool)) (hm:P.follows .mixedOrders=true) (G:XQ n all=true) (hd:ji all=true) (hp:zU all pl=true)
  (hC:C { w with drawn:=w.drawn+1 }) (h:XP P all C (λf w=>Q .normal ds f w) pl f { w with drawn:=w.drawn+1 }):WG ro m P n (.region id all.toArray true) Q ds f w:=by
 intro a ha;simp only[zU,Bool.and_eq_true,beq_iff_eq] at hp;obtain ⟨⟨hs,hl⟩,hp⟩:=hp;refine wpIn_region_any hm ?_;have h1:=ZE hs pl _ _ _ (by simp) (.inl hC) hp h;rw[hl] at h1;have h2:=Ur (ro:=ro) (m:=m) (n:=n) (ds:=ds) (Q:=λe H w'=>∃ds' E,Yt n ds' H E∧(∀t,ZK all t=false→E t=f t)∧Q e ds' E w') (YD G) (Kq hd) f
  (λa E w I hk hq=>⟨ds,E,I,hk,hq⟩) _ _ a f _ ha (λ_ _=>O) h1
 simpa[Y7] using h2
end
section
variable {ro:Option Nat} {m:Nat} {P:Program} {n:Nat} {Q:Exit→LN→Fr→World→Prop} {ds:LN} {f:Fr} {w:World}
theorem V4 {α:Type}{F:Fence}{c:Code}{Q:Exit→Act→World→Prop}{a:Act}{w:World}(J:α→Act→World→Prop) (μ:α→Nat) (z:α) (h₀:J z a w)
  (round:∀x a w,J x a w→c.wpIn F m P (Exit.then (λG w'=>∃H,μ H<μ x∧J H G w') Q) a w):(Code.loop c).wpIn F m P Q a w:=by
 intro b k cs S hb I;have key:∀j x a w,μ x=j→J x a w →
   ∃e G w',Q e G w'∧ArrivesIn (Machine.fenced P F) P (lone (b.atR a (.code c::.inLoop c::k)) cs w) b k cs e G w':=by
  intro j;induction j using Nat.strongRecOn with
  | _ j ih =>
   intro x a w T V;obtain ⟨e,a₁,w₁,hq,E⟩:=round x a w V b (.inLoop c::k) cs S hb I;cases e with
   | normal =>
    obtain ⟨H,Y,ha⟩:=hq;obtain ⟨e₂,a₂,w₂,hq₂,harr₂⟩:=ih (μ H) (T ▸ Y) H a₁ w₁ O ha;exact ⟨e₂,a₂,w₂,hq₂,.of_steps (StepsIn.trans E (.one (fenced_calm hb I O) stepR_inLoop)) harr₂⟩
   | exit id=>exact ⟨_,a₁,w₁,hq,.pass (x:=.inLoop c) O (λ_ _=>.inl (by simp)) E⟩
   | goto l=>exact ⟨_,a₁,w₁,hq,.pass (x:=.inLoop c) O (λ_ _=>.inl (by simp)) E⟩
   | ret=>exact ⟨_,a₁,w₁,hq,.pass (x:=.inLoop c) O (λ_ _=>.inl (by simp)) E⟩
   | panic ch=>exact ⟨_,a₁,w₁,hq,.pass (x:=.inLoop c) O (λ_ _=>.inl (by simp)) E⟩
   | outgrown=>exact ⟨_,a₁,w₁,hq,.pass (x:=.inLoop c) O (λ_ _=>.inl (by simp)) E⟩
 obtain ⟨e,G,w',hq,E⟩:=key _ z a w O h₀;exact ⟨e,G,w',hq,.of_steps (.one (fenced_calm hb I O) stepR_loop) E⟩
theorem VT {α:Type}{c:Code}(D:List (Nat×Nat)) (S:α→List (Nat×Value)) (I:α→LN→World→Prop) (μ:α→Nat) (hD:wrG D c=true) (z:α)
  (h0:Xu f (S z)) (hI:I z ds w)
  (round:∀x g H w',I x H w'→WG ro m P n c (Qak (λE J hb=>∃Y,μ Y<μ x∧Xu J (S Y)∧I Y E hb) Q) H (zB (S x) (mix D f g)) w'):WG ro m P n (.loop c) Q ds f w:=by
 intro a ha;refine V4 (λ(x:α) a' w'=>∃H J,Yt n H a' J∧(∀t,Y7 c t=false→J t=f t)∧Xu J (S x)∧I x H w') μ z ⟨ds,f,ha,λ_ _=>O,h0,hI⟩ ?_;rintro x a' w' ⟨H,J,h1,h2,h3,h4⟩;have h5:=round x J H w' h4;rw[JJ (λt T=>h2 t (XD T c hD)),YQ h3] at h5;refine wpIn_mono (h5 a' h1) ?_;rintro e hc hb ⟨E,G,g1,g2,V⟩;have k1:∀t,Y7 c t=false→G t=f t:=λt T=>(g2 t T).trans (h2 t T)
 have k2:∀t,Y7 (.loop c) t=false→G t=f t:=λt T=>k1 t (by simpa[Y7] using T);cases e with
 | normal=>obtain ⟨Y,hm,hs,hi⟩:=V;exact ⟨Y,hm,E,G,g1,k1,hs,hi⟩
 | exit id=>exact ⟨E,G,g1,k2,V⟩
 | goto l=>exact ⟨E,G,g1,k2,V⟩
 | ret=>exact ⟨E,G,g1,k2,V⟩
 | panic ch=>exact ⟨E,G,g1,k2,V⟩
 | outgrown=>exact ⟨E,G,g1,k2,V⟩
end
def rqG (P:Program) (rs:List ResultVar) (R:Value→World→Prop):Exit→LN→Fr→World→Prop
 | .normal,ds,f,w=>(∀D∈ds,w.heap[D]?=some (.deferred (some [])))∧ds.Nodup∧∃vs,∀w',Step ds w w'→Vn P f w' rs vs∧R (tup vs) w'
 | .ret,ds,f,w=>(∀D∈ds,w.heap[D]?=some (.deferred (some [])))∧ds.Nodup∧∃vs,∀w',Step ds w w'→Vn P f w' rs vs∧R (tup vs) w'
 | _,_,_,_=>False
theorem Step.putObj (w:World) (D:Nat) (o:Obj):Step [D] w (w.putObj D o):=⟨O,O,O,by simp,λk _ hk=>World.putObj_heap_other (λe=>hk (by simp[e]))⟩
theorem UO {F:Fence}{m:Nat}{P:Program}{fn:Func}{tmps:Array Value}{R:Ending→World→Prop}:∀(ds:LN) (w:World),(∀D∈ds,w.heap[D]?=some (.deferred (some [])))→ds.Nodup →
  (∀w',Step ds w w'→∃v,(results fn tmps).run P w'=.ok v w'∧R (.returned v) w')→LeavesInM F m P fn tmps R (coll ds) .returning w
 | [],w,_,_,h=>h w (Step.refl _ _)
 | D::ds,w,hD,H,h=>by
  refine ⟨by simp,.inl ⟨D,_,rfl,run_takeDeferred (hD D Ln),?_⟩⟩;have hs:=Step.putObj w D (.deferred none);have G:=List.nodup_cons.1 H;refine UO ds _ (λE hE=>?_) G.2 (λw' I=>h w' ?_)
  ·rw[World.putObj_heap_other (λe=>G.1 (by rw[←e];exact hE))];exact hD E (Ll _ hE)
  exact (hs.mono (λb hb=>by simp at hb;simp[hb])).trans' (I.mono (λb hb=>Ll _ hb))
theorem QK.of_G {P:Program}{g:Nat}{fn:Func}{c:Code}{args:LV}{w:World}{R:Value→World→Prop}{n:Nat}{rs:List ResultVar}(m:Nat)
  (T:P.funcs[g]?=some fn) (hb:fn.body=some c) (V:fn.ntmps=n) (Y:fn.results=rs.toArray) (hl:args.length≤n)
  (h:WG none m P n c (rqG P rs R) [] (ent args) w):QK P g args w R:=by
 unfold QK;refine (callsIn_wide (n:=m)).1 (callsIn_of_wp_marks T hb U (wpIn_mono (h _ ?_) ?_))
 ·refine ⟨by simp[V];omega,O,λt=>?_⟩;have key:∀(l:LV) (t:Nat),l[t]?.getD undef=ent l t:=by
   intro l;induction l with
   | nil=>intro t;rfl
   | cons v l ih=>intro t;cases t with | zero=>rfl | succ t=>simpa[ent] using ih t
  rw[←key];simp only[Array.getD_eq_getD_getElem?,Array.getElem?_append,List.size_toArray,List.getElem?_toArray];by_cases I:t<args.length
  ·simp[I]
  simp[I,Array.getElem?_replicate];split <;> rfl
 rintro e H w' ⟨G,f',h1,_,h3⟩;have fin:((∀D∈G,w'.heap[D]?=some (.deferred (some [])))∧G.Nodup∧∃vs,∀E,Step G w' E→Vn P f' E rs vs∧R (tup vs) E) →
   LeavesInM Fence.wide m P fn H.tmps (λe w'=>match e with | .returned v=>R v w' | _=>False) H.defers .returning w':=by
  rintro ⟨hd,ha,vs,J⟩;rw[h1.defers];refine UO G w' hd ha λE S=>⟨tup vs,?_,(J E S).2⟩;simp only[results,Y,List.mapM_toArray,Sem.run_bind,Sem.run_map];rw[XH (a:={ H with defers:=[] }) h1.rel _ (λ_=>rfl) (λ_ _=>rfl) rs vs (J E S).1]
  cases vs with
  | nil=>rfl
  | cons v vs=>cases vs with | nil=>rfl | cons u us=>rfl
 cases e with
 | normal=>exact fin h3
 | ret=>exact fin h3
 | exit id=>exact h3.elim
 | goto l=>exact h3.elim
 | panic c=>exact h3.elim
 | outgrown=>exact h3.elim
attribute [irreducible] WG
end Go.Lg
namespace Go.Proofs.YtdffckgdcegpaaaGreatDoor
open Go.Proofs.Tryz
open Go.Lg
def IxQ {α:Type}(q:α→Bool) (E:List α) (r:Value):Prop:=(r=.int .i64 (-1)∧∀m (hm:m<E.length),q (E[m]'hm)=false)∨∃(i:Nat) (hi:i<E.length),r=.int .i64 i∧q (E[i]'hi)=true∧∀m (hm:m<i),q (E[m]'(by omega))=false
theorem QhH {g:Nat}{fn:Func}[Fu prog g fn] {cap:LV}{q:Ed→Bool}{L:LN}{w:World}{v:Value}{E:List Ed}(h:qq L w.heap v E)
  (hk:∀(e:Ed) (G:World),Step [] w G→QK prog g ([.agg (Qw e).toArray]++cap) G λr w'=>r=.bool (q e)∧Step [] G w') :
  QK prog 157 [v,.func (.func g) #[] cap.toArray] w λr w'=>Step [] w w'∧IxQ q E r:=by
 have Y:=h.le;refine QK.of_W func157 O ntmps157 results157 (by simp) ?_;refine Qc<|Qe<|Qf<|Qc<|Qb<|x (Qs h O)<|Qb<|xe<|Qh<|QB (α:=Nat) [(4,5),(8,18)] (λz=>[(8,.int .i64 z)]) (λz w'=>z≤E.length∧Step [] w w'∧∀m (hm:m<E.length),m<z→q (E[m]'hm)=false) (λz=>E.length - z) (by rfl) 0 Z ⟨Lk _,Step.refl _ _,λm _ T=>absurd T (Nr m)⟩ ?_;rintro k g1 G ⟨ha,H,hq⟩
 refine Qc<|x (QA O O)<|xe<|Qf<|QG O (λh9=>?_) (λh9=>?_)
 ·refine Qz<|Qc<|Qe ?_;exact Qn ⟨[.int .i64 (-1)],Z,H,.inl ⟨O,λm hm=>hq m hm (by omega)⟩⟩
 have I:k<E.length:=by omega
 refine Qi<|Qf<|Qh<|Qc<|Qb<|Qe<|Qc<|Qb<|Qb<|Qb<|xie (h.ext H) O O I λhb V=>x (QI V O O)<|xl O<|xc (first:=[]) (capt:=cap) O<|(hk (E[k]'I) G H).mono ?_;rintro r2 w2 ⟨rfl,S⟩;refine xe<|Q3 rfl (λJ=>?_) (λJ=>?_)
 ·refine Qc<|Qb<|Qe ?_;exact Qn ⟨[.int .i64 k],Z,H.trans S,.inr ⟨k,I,O,J,λm hm=>hq m (by omega) hm⟩⟩
 refine Qi<|Qy<|QP O O<|Qb<|xe<|⟨k+1,by omega,Z,I,H.trans S,λm hm hc=>?_⟩;by_cases e:m=k
 ·subst e;exact J
 exact hq m hm (by omega)
theorem QhG {g:Nat}{fn:Func}[Fu prog g fn] {cap:LV}{q:Int→Bool}{L:LN}{w:World}{v:Value}{E:LI}(h:QL L w.heap v E)
  (hk:∀(e:Int) (G:World),Step [] w G→QK prog g ([.int .i64 e]++cap) G λr w'=>r=.bool (q e)∧Step [] G w') :
  QK prog 131 [v,.func (.func g) #[] cap.toArray] w λr w'=>Step [] w w'∧IxQ q E r:=by
 have Y:=h.le;refine QK.of_W func131 O ntmps131 results131 (by simp) ?_;refine Qc<|Qe<|Qf<|Qc<|Qb<|x (Qs h O)<|Qb<|xe<|Qh<|QB (α:=Nat) [(4,5),(8,18)] (λz=>[(8,.int .i64 z)]) (λz w'=>z≤E.length∧Step [] w w'∧∀m (hm:m<E.length),m<z→q (E[m]'hm)=false) (λz=>E.length - z) (by rfl) 0 Z ⟨Lk _,Step.refl _ _,λm _ T=>absurd T (Nr m)⟩ ?_;rintro k g1 G ⟨ha,H,hq⟩
 refine Qc<|x (QA O O)<|xe<|Qf<|QG O (λh9=>?_) (λh9=>?_)
 ·refine Qz<|Qc<|Qe ?_;exact Qn ⟨[.int .i64 (-1)],Z,H,.inl ⟨O,λm hm=>hq m hm (by omega)⟩⟩
 have I:k<E.length:=by omega
 refine Qi<|Qf<|Qh<|Qc<|Qb<|Qe<|Qc<|Qb<|Qb<|Qb<|xii (h.ext H) O O I λhb V=>x (Qx V O)<|xl O<|xc (first:=[]) (capt:=cap) O<|(hk (E[k]'I) G H).mono ?_;rintro r2 w2 ⟨rfl,S⟩;refine xe<|Q3 rfl (λJ=>?_) (λJ=>?_)
 ·refine Qc<|Qb<|Qe ?_;exact Qn ⟨[.int .i64 k],Z,H.trans S,.inr ⟨k,I,O,J,λm hm=>hq m (by omega) hm⟩⟩
 refine Qi<|Qy<|QP O O<|Qb<|xe<|⟨k+1,by omega,Z,I,H.trans S,λm hm hc=>?_⟩;by_cases e:m=k
 ·subst e;exact J
 exact hq m hm (by omega)
theorem Qcf {g:Nat}{fn:Func}[Fu prog g fn] {cap:LV}{q:Int→Bool}{L:LN}{w:World}{v:Value}{G:LI}(h:QL L w.heap v G)
  (hk:∀(e:Int) (H:World),Step [] w H→QK prog g ([.int .i64 e]++cap) H λr w'=>r=.bool (q e)∧Step [] H w') :
  QK prog 135 [v,.func (.func g) #[] cap.toArray] w λr w'=>r=.bool (G.any q)∧Step [] w w':=by
 refine QK.of_W func135 O ntmps135 results135 (by simp) ?_;refine Qc<|Qe<|Qc<|Qb<|Qb<|xl O<|xf<|(QhG h hk).mono ?_;rintro S H ⟨I,E⟩;refine Or.elim E (λE=>?_) (λE=>?_)
 ·obtain ⟨rfl,hq⟩:=E;have e:G.any q=false:=by
   rw[Nb];intro z J;obtain ⟨i,hi,rfl⟩:=LE J;rw[hq i hi];simp
  refine x (ZU O O)<|Qe ?_;exact Qn ⟨[.bool false],Z,by rw[e];rfl,I⟩
 obtain ⟨i,hi,rfl,h1,_⟩:=E;have e:G.any q=true:=Mz.2 ⟨_,Li hi,h1⟩;have e2:decide ((0:Int)≤(i:Int))=true:=by simp
 refine x (ZU O O)<|Qe ?_;exact Qn ⟨[.bool (decide ((0:Int)≤(i:Int)))],Z,by rw[e,e2];rfl,I⟩
theorem QbL (E:List Ed) (s v:Int):nxt E s v=nxt (Zy E s) s v:=by
 induction E with
 | nil=>rfl
 | cons e E ih =>
  unfold Zy at *;rw[L9];by_cases h:e.1=s
  ·rw[if_pos (by simpa using h),nxt,nxt,ih]
  rw[if_neg (by simpa using h),nxt,if_neg (λc=>h c.1),ih]
theorem QaJ:∀(l:List Ed) (s v:Int) (i:Nat) (hi:i<l.length),(∀e∈l,e.1=s)→(l[i]'hi).2.1=v→(∀m (hm:m<i),(l[m]'(by omega)).2.1≠v)→nxt l s v=(l[i]'hi).2.2
 | e::l,s,v,0,_,hs,E,_=>by rw[nxt,if_pos ⟨hs e Ln,E⟩];rfl
 | e::l,s,v,i+1,hi,hs,E,hm=>by
  rw[nxt,if_neg (λc=>hm 0 (by omega) c.2)];exact QaJ l s v i (by simpa using hi) (λe he=>hs e (Ll _ he)) E (λm G=>hm (m+1) (by omega))
theorem QeI:∀(l:List Ed) (s v:Int),(∀e∈l,e.2.1≠v)→nxt l s v=-1
 | [],_,_,_=>rfl
 | e::l,s,v,h=>by rw[nxt,if_neg (λc=>h e Ln c.2)];exact QeI l s v (λe he=>h e (Ll _ he))
theorem QeQ {b T:Nat}{n:Int}(e:Ed) (w:World) (G:QZ w.heap b T [.int .i64 n]) :
  QK prog 158 ([.agg (Qw e).toArray]++[.pointer (some ⟨b,0,none⟩)]) w λr w'=>r=.bool (decide (e.2.1=n))∧Step [] w w':=by
 refine QK.of_W func158 O ntmps158 results158 (by simp) ?_;refine Qc<|xl O<|QS (us:=Qw e) O λI J E S H=>Qe<|Qc<|x (Qa O)<|x (Qd H O O)<|x (Qd (G.ext E) O O)<|x (Q5 O O)<|Qe ?_;exact Qn ⟨[_],Z,O,E⟩
theorem j3 {L:LN}{w:World}{va vm ve:Value}{st:Int}{a:QQ}(h:qq L w.heap ve a.ed) (G:Q8 a) (s v:Int) (ha:0≤s) (I:s<a.st) :
  QK prog 78 [.agg #[va,.int .i64 st,vm,ve],.int .i64 s,.int .i64 v] w λr w'=>r=.int .i64 (nxt a.ed s v)∧Step [] w w':=by
 have hh:=G.st1;refine QK.of_W func78 O ntmps78 results78 (by simp) ?_;refine Qc<|xl O<|QS (us:=[va,.int .i64 st,vm,ve]) O λb3 w1 I hj hb=>xl O<|QS (us:=[.int .i64 v]) O λb5 w2 J hk hc=>Qe<|Qc<|x (Qr (hb.ext J) O O)<|Qb<|xl O<|xf<|(zV ((h.ext I).ext J) G.eds (λe he=>⟨(G.ed e he).1,by have:=(G.ed e he).2.1;omega⟩) s ha (by omega)).mono ?_;rintro vo w3 ⟨S,hE⟩;refine Qe ?_
 have hf:∀e∈Zy a.ed s,e.1=s:=λe he=>(Zu he).2;rw[QbL];refine Qc<|Qb<|x (Zo (l:=[]) (l':=[.tmp 5]))<|xl O<|xf<|(QhH (q:=λe=>decide (e.2.1=v)) (cap:=[.pointer (some ⟨b5,0,none⟩)]) hE (λe T H=>QeQ e T ((hc.ext S).ext H))).mono ?_;rintro r4 T ⟨H,E⟩;have V:=((I.trans J).trans S).trans H;refine Or.elim E (λE=>?_) (λE=>?_)
 ·obtain ⟨rfl,hq⟩:=E;have e1:nxt (Zy a.ed s) s v=-1:=QeI _ _ _ λe he=>by
   obtain ⟨i,hi,rfl⟩:=LE he;simpa using hq i hi
  rw[e1];refine Qe<|Qf<|Qc<|Qb<|x (QA O O)<|xe<|qi O ?_;refine Qc<|Qe ?_;exact Qn ⟨[.int .i64 (-1)],Z,O,V⟩
 obtain ⟨i,hi,rfl,h1,h2⟩:=E;have e1:nxt (Zy a.ed s) s v=((Zy a.ed s)[i]'hi).2.2:=QaJ _ s v i hi hf (by simpa using h1) (λm hm=>by simpa using h2 m hm);rw[e1];refine Qe<|Qf<|Qc<|Qb<|x (QA O O)<|xe<|Q6 O (λY=>absurd Y (by omega)) (λY=>?_);refine Qi<|Qc<|Qb<|Qb<|xie (hE.ext H) O O hi λhl hg=>x (Zl O)<|x (Qx (hg.fld 2 _ O) O)<|Qe ?_;exact Qn ⟨[_],Z,O,V⟩
def flw (a:QQ):Int→LI→Int×Nat
 | s,[]=>(s,0)
 | s,v::u=>if nxt a.ed s v<0 then (s,0) else ((flw a (nxt a.ed s v) u).1,(flw a (nxt a.ed s v) u).2+1)
theorem Qi9 {a:QQ}(E:Q8 a) {s v:Int}(h:¬nxt a.ed s v<0):nxt a.ed s v<a.st:=(E.ed _ (z1 (by omega))).2.2.2.2
theorem Qc8 {L L':LN}{w:World}{va vm ve vw:Value}{st:Int}{a:QQ}{u:LI}(h:qq L w.heap ve a.ed) (H:QL L' w.heap vw u) (T:Q8 a) (s:Int) (he:0≤s) (V:s<a.st) :
  QK prog 279 [.agg #[va,.int .i64 st,vm,ve],.int .i64 s,vw] w λr w'=>r=.tuple #[.int .i64 (flw a s u).1,.int .i64 (flw a s u).2]∧Step [] w w':=by
 have hj:=H.le;refine QK.of_W func279 O ntmps279 results279 (by simp) ?_;refine Qc<|xl O<|QS (us:=[va,.int .i64 st,vm,ve]) O λb3 w1 V hl hg=>x Qg<|Qe<|Qf<|Qc<|Qb<|x (Qs H O)<|Qb<|xe ?_
 refine Qh<|QB (α:=Nat×Int) [(1,1),(6,10),(13,27)] (λz=>[(1,.int .i64 z.2),(13,.int .i64 z.1)]) (λz w'=>z.1≤u.length∧0≤z.2∧z.2<a.st∧Step [] w1 w'∧flw a s u=((flw a z.2 (u.drop z.1)).1,(flw a z.2 (u.drop z.1)).2+z.1)) (λz=>u.length - z.1) (by rfl) (0,s) ⟨O,O,U⟩ ⟨Lk _,he,by assumption,Step.refl _ _,by simp⟩ ?_;rintro ⟨k,t⟩ g w2 ⟨hk,Y,ha,S,E⟩;simp only[] at hk Y ha E
 have I:=V.trans S;refine Qc<|x (QA O O)<|xe<|Qf<|QG O (λhb=>?_) (λhb=>?_)
 ·refine Qz<|Qc<|Qb<|Qb<|x (Qs H O)<|x Qg<|Qe ?_;rw[Lq (by omega)] at E;have hh:k=u.length:=by have hm:¬(k:Int)<(u.length:Int):=hb;omega
  refine Qn ⟨[.int .i64 t,.int .i64 u.length],⟨O,O,U⟩,?_,I⟩;rw[E,hh];simp[flw,tup]
 have G:k<u.length:=by omega
 rw[QY G,flw] at E;refine Qi<|Qf<|Qh<|Qc<|Qb<|xii (H.ext I) O O G λhp hi=>x (Qx hi O)<|x Qg<|Qe<|Qc<|x (Qr (hg.ext S) O O)<|Qb<|Qb<|xl O<|xf<|(j3 (h.ext I) T t (u[k]'G) Y ha).mono ?_;rintro r3 w3 ⟨rfl,hc⟩;refine Qe<|Qf<|Qc<|Qb<|x (QA O O)<|xe<|Q6 rfl (λJ=>?_) (λJ=>?_)
 ·rw[if_pos J] at E;refine Qc<|Qb<|Qb<|x Qg<|Qe<|Qn ⟨[.int .i64 t,.int .i64 k],⟨O,O,U⟩,?_,I.trans hc⟩;rw[E];simp[tup]
 rw[if_neg J] at E;have hn:=Qi9 T J;refine Qi<|Qy<|Qb<|Qe<|Qy<|QP O O<|Qb<|xe<|⟨(k+1,nxt a.ed t (u[k]'G)),by simp only[];omega,⟨O,O,U⟩,G,by simp only[];omega,hn,S.trans hc,?_⟩;simp only[];rw[E];simp;omega
def cks (a:QQ) (s:Int):Int:=if Jn a≠0 then Jn a else if s<0∨a.st≤s then 2 else 0
theorem XY {L:LN}{w:World}{va vm ve:Value}{a:QQ}(h:Zt L w.heap va vm ve a) (s:Int) :
  QK prog 76 [.agg #[va,.int .i64 a.st,vm,ve],.int .i64 s] w λr w'=>r=.int .i64 (cks a s)∧Step [] w w':=by
 refine QK.of_W func76 O ntmps76 results76 (by simp) ?_;refine Qc<|xl O<|QS (us:=[va,.int .i64 a.st,vm,ve]) O λV Y I ha J=>Qe<|Qf<|Qc<|x (Qr J O O)<|xl O<|xf<|(Xt (h.ext I)).mono ?_;rintro r2 T ⟨rfl,S⟩;refine Qe ?_;unfold cks;have E:=I.trans S;refine Qc<|Qb<|x (Q9 O O)<|xe<|Q6 rfl (λh9=>?_) (λh9=>?_)
 ·refine Qc<|Qb<|Qe ?_;exact Qn ⟨[_],Z,by rw[if_pos h9];rfl,E⟩
 rw[if_neg h9];refine Qi<|Qf<|QU (α:=Unit) [(11,18)] (λz=>[(18,.bool (decide (s<0∨a.st≤s)))]) (λz w'=>w'=T) (by rfl) ?_ ?_
 ·refine Qy<|Qb<|xb (QA O O) (λG=>?_) (λG=>?_)
  ·refine Qb<|xs O<|xs O<|xs O<|xs O<|x (Qm O)<|xe ?_;exact ⟨(),⟨by rw[decide_eq_true (Or.inl G)];rfl,U⟩,O⟩
  refine Qb<|Qb<|x (Qa O)<|x (Qd (J.ext S) O O)<|x (ZU O O)<|x (Qm O)<|xe ?_;exact ⟨(),⟨by show Value.bool (decide (a.st≤s))=_;simp[G],U⟩,rfl⟩
 rintro z g w3 rfl;refine Q6 rfl (λH=>?_) (λH=>?_)
 ·refine Qc<|Qe ?_;exact Qn ⟨[_],Z,by rw[if_pos H];rfl,E⟩
 refine Qi<|Qc<|Qe ?_;exact Qn ⟨[_],Z,by rw[if_neg H];rfl,E⟩
theorem jP {a:QQ}{s:Int}(h:cks a s=0):Q8 a∧0≤s∧s<a.st:=by
 unfold cks at h;split at h
 ·rename_i h1;exact absurd h h1
 rename_i h1;split at h
 ·cases h
 rename_i h2;exact ⟨(ZJ a).1 (Ls.1 h1),by omega,by omega⟩
theorem QgZ {L:LN}{b T:Nat}{va:Value}{al:LI}{us:LV}(e:Int) (w:World) (E:QZ w.heap b T (va::us)) (G:QL L w.heap va al) :
  QK prog 278 ([.int .i64 e]++[.pointer (some ⟨b,0,none⟩)]) w λr w'=>r=.bool (decide (e∉al))∧Step [] w w':=by
 refine QK.of_W func278 O ntmps278 results278 (by simp) ?_;refine Qc<|Qe<|Qc<|x (Qa O)<|x (Qd E O O)<|Qb<|xl O<|xf<|(ZM G e).mono ?_;rintro H I ⟨rfl,rfl⟩;refine x (Zr O)<|Qe<|Qn ⟨[_],Z,?_,Step.refl _ _⟩;show Value.bool (!decide (e∈al))=_;rw[decide_not]
def QgY (a:QQ) (s:Int) (u:LI):Int:=if cks a s≠0 then cks a s else if (u.any λe=>decide (e∉a.al))=true then 9 else 0
theorem Qj6 {L L':LN}{w:World}{va vm ve vw:Value}{a:QQ}{u:LI}(h:Zt L w.heap va vm ve a) (V:QL L' w.heap vw u) (s:Int) :
  QK prog 248 [.agg #[va,.int .i64 a.st,vm,ve],.int .i64 s,vw] w λr w'=>Step [] w w'∧r=if QgY a s u≠0 then .tuple #[.int .i64 0,.int .i64 0,.int .i64 (QgY a s u)] else .tuple #[.int .i64 (flw a s u).1,.int .i64 (flw a s u).2,.int .i64 0]:=by
 refine QK.of_W func248 O ntmps248 results248 (by simp) ?_;refine Qc<|xl O<|QS (us:=[va,.int .i64 a.st,vm,ve]) O λb3 w1 Y hb J=>x Qg<|x Qg<|Qe<|Qf<|Qc<|x (Qr J O O)<|Qb<|xl O<|xf<|(XY (h.ext Y) s).mono ?_;rintro r2 w2 ⟨rfl,S⟩;refine Qe ?_;have G:=Y.trans S;unfold QgY;refine Qc<|Qb<|x (Q9 O O)<|xe<|Q6 rfl (λE=>?_) (λE=>?_)
 ·refine Qc<|Qb<|x Qg<|x Qg<|Qe ?_;exact Qn ⟨[_,_,_],⟨O,O,O,U⟩,G,by rw[if_pos E,if_pos E];rfl⟩
 have hc:cks a s=0:=Ls.1 E;obtain ⟨ho,h0,h1⟩:=jP hc;rw[if_neg E];refine Qi<|Qf<|Qc<|Qb<|x (Zo (l:=[]) (l':=[.tmp 3]))<|xl O<|xf<|(Qcf (q:=λe=>decide (e∉a.al)) (cap:=[.pointer (some ⟨b3,0,none⟩)]) (V.ext G) (λe w4 H=>QgZ e w4 ((J.ext S).ext H) ((h.al.ext G).ext H))).mono ?_;rintro r3 w3 ⟨rfl,ha⟩;refine xe ?_;have I:=G.trans ha
 refine Q3 rfl (λT=>?_) (λT=>?_)
 ·rw[if_pos T];refine Qc<|x Qg<|x Qg<|Qe ?_;exact Qn ⟨[_,_,_],⟨O,O,O,U⟩,I,by rw[if_pos (by decide)];rfl⟩
 rw[if_neg (by rw[T];simp)];refine Qi<|Qc<|x (Qr ((J.ext S).ext ha) O O)<|Qb<|Qb<|xl O<|xf<|(Qc8 (h.ed.ext I) (V.ext I) ho s h0 h1).mono ?_;rintro r4 w4 ⟨rfl,H⟩;refine Qb<|x (Ql O O) <|
  x (Ql rfl O)<|x Qg<|Qe<|Qc<|Qb<|Qb<|x Qg<|x Qg<|Qe ?_
 exact Qn ⟨[_,_,_],⟨O,O,O,U⟩,I.trans H,O⟩
def enb (a:QQ) (s:Int):LI:=(Zy a.ed s).map (·.2.1)
theorem QfM {l:List Ed}{k:Nat}(h:k<l.length):(l.take (k+1)).map (·.2.1)=(l.take k).map (·.2.1)++[(l[k]'h).2.1]:=by
 rw[List.take_add_one,LB h,Lt];rfl
theorem Qbl {L:LN}{w:World}{va vm ve:Value}{a:QQ}(h:Zt L w.heap va vm ve a) (s:Int) :
  QK prog 29 [.agg #[va,.int .i64 a.st,vm,ve],.int .i64 s] w λr w'=>Step [] w w'∧∃v,r=.tuple #[v,.int .i64 (cks a s)]∧(cks a s≠0→v=Zf)∧(cks a s=0→Qu 3 w.heap.size w' v (enb a s)):=by
 refine QK.of_W func29 O ntmps29 results29 (by simp) ?_;refine Qc<|xl O<|QS (us:=[va,.int .i64 a.st,vm,ve]) O λb2 w1 hf h2 hg=>x Qg<|Qe<|Qf<|Qc<|x (Qr hg O O)<|Qb<|xl O<|xf<|(XY (h.ext hf) s).mono ?_;rintro r2 w2 ⟨rfl,hh⟩;refine Qe ?_;have S:=hf.trans hh;refine Qc<|Qb<|x (Q9 O O)<|xe<|Q6 rfl (λT=>?_) (λT=>?_)
 ·refine Qc<|Qb<|x Qg<|Qe ?_;exact Qn ⟨[Zf,_],⟨O,O,U⟩,S,Zf,O,λ_=>O,λe=>absurd e T⟩
 have hc:cks a s=0:=Ls.1 T;obtain ⟨G,h0,h1⟩:=jP hc;have h3:=G.st1;rw[hc];refine Qi<|Qc<|Qe<|Qf<|Qc<|x (Qr (hg.ext hh) O O)<|Qb<|xl O<|xf<|(zV (h.ed.ext S) G.eds (λe he=>⟨(G.ed e he).1,by have:=(G.ed e he).2.1;omega⟩) s h0 (by omega)).mono ?_;rintro vo w3 ⟨hj,hE⟩;refine x (Qs hE O)<|Qb<|xe ?_;have hi:=S.trans hj;have hl:=hi.size;have hm:=JH a.ed s
 have h4:=G.ed_le;refine Zd (Zy a.ed s) λos H=>?_;rw[H] at hE hm;refine Qh<|QB (α:=Nat×Value) [(7,7),(9,9),(20,29)] (λz=>[(7,z.2),(20,.int .i64 z.1)]) (λz w'=>z.1≤os.length∧Step [] w3 w'∧Qu 3 w3.heap.size w' z.2 ((os.take z.1).map (·.2.1))) (λz=>os.length - z.1) (by rfl) (0,nS) ⟨O,by rw[H];rfl,U⟩ ⟨Lk _,Step.refl _ _,QN _ _ _ _⟩ ?_;rintro ⟨k,v⟩ g w4 ⟨hk,J,I⟩
 simp only[] at hk I;have h5:=J.size;refine Qc<|x (QA O O)<|xe<|Qf<|QG O (λV=>?_) (λV=>?_)
 ·refine Qz<|Qc<|Qb<|x Qg<|Qe ?_;rw[Lm (by rw[H] at V;omega)] at I;refine Qn ⟨[v,_],⟨O,O,U⟩,hi.trans J,v,O,λe=>absurd O e,λ_=>?_⟩;unfold enb;rw[H];exact Zq I hl
 have E:k<os.length:=by rw[H] at V;omega
 refine Qi<|Qf<|Qh<|Qc<|xie (hE.ext J) O O E λh6 hn=>x (QI hn O O)<|xl O<|Qt (us:=[.int .i64 0,.int .i64 0,.int .i64 0]) O λb9 w5 hp hq hr=>xl O<|Qp (us:=Qw (os[k]'E)) hr O O O O ⟨O,O,O,U⟩ λw6 hs ht =>
  xe ?_
 have Y:Step [] w4 w6:=hp.then1 hs hq;have hu:=Qq I Y;refine Qy<|Qb<|x (Qa O)<|x (Qd ht O O)<|xl O<|QC (us:=[[.int .i64 (os[k]'E).2.1]]) O O (by decide) (by simp) ⟨rfl,rfl,U⟩ λh7 w7 ha h8 hv=>?_;have hw:=Qq hu ha;have h9:=(Y.trans ha).size;have hA:((os.take k).map (·.2.1)).length≤131072:=by simp;omega
 refine xl rfl<|Q2 (news:=[.int .i64 (os[k]'E).2.1]) (L:=[]) hw O O O (hv.at (by simp)) (by simp[Value.oneCell']) (by omega) (by omega) λv8 w8 hy hz hB=>Qe ?_;have hge:=Qk I;refine Qy<|QP O O<|Qb<|xe<|⟨(k+1,v8),by simp only[];omega,⟨O,O,U⟩,E,((J.trans Y).trans ha).then hz (λb hb=>.inr (hge b hb).1),?_⟩;simp only[];rw[QfM E];exact Qu.snoc hy
theorem Qg4 {L:LN}{w:World}{v:Value}{l:LI}(h:QL L w.heap v l) (n:Int) :
  QK prog 241 [v,.int .i64 n] w λr w'=>r=.int .i64 (Xj n none l)∧w'=w:=by
 have he:=h.le;refine QK.of_W func241 O ntmps241 results241 (by simp) ?_;refine Qc<|Qe<|Qf<|Qc<|Qb<|x (Qs h O)<|Qb<|xe<|Qh<|QB (α:=Nat) [(4,6),(9,34)] (λk=>[(9,.int .i64 k)]) (λk w'=>w'=w∧k≤l.length∧Xj n (pv l k) (l.drop k)=Xj n none l) (λk=>l.length - k) (by rfl) 0 Z ⟨O,Lk _,O⟩ ?_;rintro k g S ⟨rfl,hk,hm⟩;refine Qc<|x (QA O O)<|xe<|Qf<|QG O (λT=>?_) (λT=>?_)
 ·refine Qz<|Qc<|Qe<|Qn ⟨[.int .i64 0],Z,?_,O⟩;rw[←hm,Lq (by omega)];rfl
 have E:k<l.length:=by omega
 have hd:=QY E;rw[hd,Xj] at hm;refine Qi<|Qf<|Qh<|Qc<|Qb<|xii h O O E λhf V=>x (Qx V O)<|x Qg<|Qe<|Qh<|QU (α:=Bool) [(14,21)] (λz=>[(14,.bool z)]) (λz w'=>w'=S∧z=decide (l[k]<0∨n≤l[k])) (by rfl) ?_ ?_
 ·refine Qy<|Qb<|xb (QA O O) (λG=>?_) (λG=>?_)
  ·refine Qb<|xs O<|xs O<|xs O<|x (Qm O)<|Qe ?_;exact ⟨true,Z,O,by simp[G]⟩
  refine Qb<|Qb<|Qb<|x (ZU O O)<|x (Qm O)<|Qe ?_;exact ⟨_,Z,O,by simp[G]⟩
 rintro z g Y ⟨rfl,rfl⟩;refine Q6 rfl (λH=>?_) (λH=>?_)
 ·refine Qc<|Qe<|Qn ⟨[.int .i64 2],Z,?_,O⟩;rw[←hm,if_pos H];rfl
 rw[if_neg H] at hm;refine QU (α:=Bool) [(22,33)] (λz=>[(22,.bool z)]) (λz w'=>w'=Y∧z=UP (pv l k) l[k]) (by rfl) ?_ ?_
 ·refine Qy<|Qb<|xb (ZO O O) (λha=>?_) (λha=>?_)
  ·have hb:((k:Int) - 1)=((k - 1:Nat):Int):=by omega
   refine Qb<|Qb<|Qb<|Qb<|x (Jv O O ⟨by omega,by omega⟩)<|xii (i:=k - 1) h O (by show Value.int _ ((k:Int) - 1)=_;rw[hb]) (by omega) λhg hc=>x (Qx hc rfl)<|x (X1 rfl rfl)<|x (Qm rfl)<|Qe<|⟨_,⟨rfl,U⟩,rfl,?_⟩;have:pv l k=some l[k - 1]:=by
    have I:k≠0:=by omega
    simp[pv,I,show k - 1<l.length by omega]
   rw[this];rfl
  refine Qb<|xs O<|xs O<|xs O<|xs O<|xs O<|xs O<|xs O<|x (Qm O)<|Qe ?_;have I:k=0:=by omega
  exact ⟨false,Z,O,by simp[pv,I,UP]⟩
 rintro z g w3 ⟨rfl,rfl⟩;refine Q3 rfl (λJ=>?_) (λJ=>?_)
 ·refine Qc<|Qe<|Qn ⟨[.int .i64 5],Z,?_,O⟩;rw[←hm,if_pos J];rfl
 rw[if_neg (by simp[J])] at hm;refine Qi<|Qy<|QP O O<|Qb<|xe ?_;exact ⟨k+1,by omega,Z,O,by omega,by rw[Jh E];exact hm⟩
theorem Qae {L:LN}{w:World}{v:Value}{l:LI}(h:QL L w.heap v l) (n:Int) :
  QK prog 80 [v,.int .i64 n] w λr w'=>r=.int .i64 (Xj n none l)∧w'=w:=by
 have he:=h.le;refine QK.of_W func80 O ntmps80 results80 (by simp) ?_;refine Qc<|Qe<|Qf<|Qc<|Qb<|x (Qs h O)<|Qb<|xe<|Qh<|QB (α:=Nat) [(4,6),(9,32)] (λk=>[(9,.int .i64 k)]) (λk w'=>w'=w∧k≤l.length∧Xj n (pv l k) (l.drop k)=Xj n none l) (λk=>l.length - k) (by rfl) 0 Z ⟨O,Lk _,O⟩ ?_;rintro k g S ⟨rfl,hk,hm⟩;refine Qc<|x (QA O O)<|xe<|Qf<|QG O (λT=>?_) (λT=>?_)
 ·refine Qz<|Qc<|Qe<|Qn ⟨[.int .i64 0],Z,?_,O⟩;rw[←hm,Lq (by omega)];rfl
 have E:k<l.length:=by omega
 have hd:=QY E;rw[hd,Xj] at hm;refine Qi<|Qf<|Qh<|Qc<|Qb<|xii h O O E λhf V=>x (Qx V O)<|x Qg<|Qe<|Qf<|QU (α:=Bool) [(14,20)] (λz=>[(20,.bool z)]) (λz w'=>w'=S∧z=decide (l[k]<0∨n≤l[k])) (by rfl) ?_ ?_
 ·refine Qy<|Qb<|xb (QA O O) (λG=>?_) (λG=>?_)
  ·refine Qb<|xs O<|xs O<|xs O<|x (Qm O)<|xe ?_;exact ⟨true,Z,O,by simp[G]⟩
  refine Qb<|Qb<|Qb<|x (ZU O O)<|x (Qm O)<|xe ?_;exact ⟨_,Z,O,by simp[G]⟩
 rintro z g Y ⟨rfl,rfl⟩;refine Q6 rfl (λH=>?_) (λH=>?_)
 ·refine Qc<|Qe<|Qn ⟨[.int .i64 2],Z,?_,O⟩;rw[←hm,if_pos H];rfl
 rw[if_neg H] at hm;refine Qi<|QU (α:=Bool) [(21,31)] (λz=>[(31,.bool z)]) (λz w'=>w'=Y∧z=UP (pv l k) l[k]) (by rfl) ?_ ?_
 ·refine Qy<|Qb<|xb (ZO O O) (λha=>?_) (λha=>?_)
  ·have hb:((k:Int) - 1)=((k - 1:Nat):Int):=by omega
   refine Qb<|Qb<|Qb<|Qb<|x (Jv O O ⟨by omega,by omega⟩)<|xii (i:=k - 1) h O (by show Value.int _ ((k:Int) - 1)=_;rw[hb]) (by omega) λhg hc=>x (Qx hc rfl)<|x (X1 rfl rfl)<|x (Qm rfl)<|xe<|⟨_,Z,O,?_⟩;have:pv l k=some l[k - 1]:=by
    have I:k≠0:=by omega
    simp[pv,I,show k - 1<l.length by omega]
   rw[this];rfl
  refine Qb<|xs O<|xs O<|xs O<|xs O<|xs O<|xs O<|xs O<|x (Qm O)<|xe ?_;have I:k=0:=by omega
  exact ⟨false,Z,O,by simp[pv,I,UP]⟩
 rintro z g w3 ⟨rfl,rfl⟩;refine Q3 rfl (λJ=>?_) (λJ=>?_)
 ·refine Qc<|Qe<|Qn ⟨[.int .i64 5],Z,?_,O⟩;rw[←hm,if_pos J];rfl
 rw[if_neg (by simp[J])] at hm;refine Qi<|Qy<|QP O O<|Qb<|xe ?_;exact ⟨k+1,by omega,Z,O,by omega,by rw[Jh E];exact hm⟩
end Go.Proofs.YtdffckgdcegpaaaGreatDoor
namespace Go.Lg
open Go.RowKit
def upY (P:Program) (m:Nat) (dst:Option Nat) (f:Fr) (K:Fr→World→Prop):Result Next→Prop
 | .ok (.value v) w'=>K (QV f dst v) w'
 | .ok .skip w'=>K (QV f dst undef) w'
 | .ok (.enter g args) w'=>Calls P g args w' λe E=>match e with | .returned v=>K (QV f dst v) E | _=>False
 | .ok (.round l fn tmps assign body) w'=>RoundIn (fen none) (m - 1) P l fn tmps assign body w' λe E=>match e with | .returned v=>K (QV f dst v) E | _=>False
 | _=>False
def XOY (P:Program) (m:Nat) (o:Oper) (f:Fr) (w:World) (K:Fr→World→Prop):Prop:=upY P m o.dst f K ((execOp (ev f) o).run P w)
def Xz (P:Program) (m:Nat) (ops:List Oper) (K:Fr→World→Prop):List Oper→Fr→World→Prop
 | [],f,w=>K f w
 | o::l,f,w=>bif Yh ops f o then XOY P m o f w (Xz P m ops K l) else Xz P m ops K l (QV f o.dst undef) w
section
variable {m:Nat} {P:Program} {n:Nat} {ds:LN}
theorem XOY.of_XO {o:Oper}{f:Fr}{w:World}{K K':Fr→World→Prop}(E:∀f w,K f w→K' f w) (h:XO P o f w K):XOY P m o f w K':=by
 unfold XO at h;unfold XOY;generalize (execOp (ev f) o).run P w=r at h;cases r with
 | ok nx w' =>
  cases nx <;> simp only[upF] at h <;> simp only[upY]
  case value v=>exact E _ _ h
  case skip=>exact E _ _ h
  case enter g args =>
   refine Calls.mono h λe G he=>?_;cases e with
   | returned v=>exact E _ _ he
   | panicked c=>exact he.elim
   | outgrown=>exact he.elim
 | halt x w'=>exact h.elim
theorem Xz.pre {ops:List Oper}{K:Fr→World→Prop}{l2:List Oper}:∀(E:List Oper) (f:Fr) (w:World),XL P ops (λf w=>Xz P m ops K l2 f w) E f w→Xz P m ops K (E++l2) f w
 | [],f,w,h=>by unfold XL at h;exact h
 | o::E,f,w,h=>by
  unfold XL at h;show (bif Yh ops f o then XOY P m o f w (Xz P m ops K (E++l2)) else Xz P m ops K (E++l2) (QV f o.dst undef) w);cases G:Yh ops f o with
  | false=>rw[G] at h;exact Xz.pre E _ _ h
  | true=>rw[G] at h;exact XOY.of_XO (λf w h=>Xz.pre E f w h) h
theorem Xz.pre2 {ops:List Oper}{K:Fr→World→Prop}{o1 o2:Oper}{l2:List Oper}{f:Fr}{w:World}(h:XL P ops (λf w=>Xz P m ops K l2 f w) [o1,o2] f w):Xz P m ops K (o1::o2::l2) f w:=Xz.pre [o1,o2] f w h
theorem Xz.of_XL {ops:List Oper}{K:Fr→World→Prop}{l:List Oper}{f:Fr}{w:World}(h:XL P ops K l f w):Xz P m ops K l f w:=by
 have:=Xz.pre (m:=m) (l2:=[]) l f w h
 rwa [LF] at this
theorem Qgh {o:Oper}{a:Act}{f:Fr}{w:World}{K:Fr→World→Prop}{K':Act→World→Prop}{Q:Exit→Act→World→Prop}(h:Yt n ds a f)
  (E:∀v w',K (QV f o.dst v) w'→K' (a.put o.dst v) w') (hx:XOY P m o f w K):o.wpIn (fen none) m P a w K' Q:=by
 unfold XOY at hx;refine ⟨λ_ _=>trivial,?_⟩;have e:Oper.semAt (fen none).round a.eval o=execOp (ev f) o:=by rw[h.eval];rfl
 rw[e];generalize (execOp (ev f) o).run P w=r at hx;cases r with
 | ok nx w' =>
  cases nx <;> simp only[upY] at hx <;> simp only[Oper.uponIn]
  case value v=>exact E v w' hx
  case skip=>exact E _ w' hx
  case enter g args =>
   refine ⟨λh=>by simp[Fence.wide] at h,?_⟩;refine (callsIn_wide (n:=m - 1)).2 (Calls.mono hx λe G he=>?_);cases e with
   | returned v=>exact E v G he
   | panicked c=>exact he.elim
   | outgrown=>exact he.elim
  case round l fn tmps assign body =>
   refine ⟨λh=>by simp[Fence.wide] at h,?_⟩;refine RoundIn.mono hx λe G he=>?_;cases e with
   | returned v=>exact E v G he
   | panicked c=>exact he.elim
   | outgrown=>exact he.elim
 | halt x w'=>exact hx.elim
theorem j5 {Q:Exit→LN→Fr→World→Prop}{all:List Oper}(G:∀o∈all,∀d,o.dst=some d→d<n) (f0:Fr) :
  ∀(l:List Oper) (k:Nat) (a:Act) (f:Fr) (w:World),(∀j,l[j]?=all[k+j]?)→Yt n ds a f→(∀t,ZK all t=false→f t=f0 t) →
   Xz P m all (λf w=>Q .normal ds f w) l f w →
   wpOpsIn (fen none) m P all.toArray (λe T w'=>∃ds' f',Yt n ds' T f'∧(∀t,ZK all t=false→f' t=f0 t)∧Q e ds' f' w') (List.range' k l.length) a w
 | [],_,a,f,w,_,E,hk,h=>⟨ds,f,E,hk,by unfold Xz at h;exact h⟩
 | o::l,k,a,f,w,hl,E,hk,h=>by
  have I:all[k]?=some o:=by simpa using (hl 0).symm
  have H:o∈all:=L7 I;have ih:=λa f w=>j5 (Q:=Q) G f0 l (k+1) a f w (λj=>by have:=hl (j+1);simpa[Nat.add_assoc,Nat.add_comm 1 j] using this);have next:∀v,(∀t,ZK all t=false→QV f o.dst v t=f0 t):=λv t J=>(YR (Xl H J) v).trans (hk t J);simp only[List.length_cons,List.range'_succ,wpOpsIn,List.getElem?_toArray,I];rw[Kk E G o];unfold Xz at h;cases S:Yh all f o with
  | false =>
   rw[S] at h;exact ⟨λ_ _=>trivial,ih _ _ _ (E.put (G o H) _) (next _) h⟩
  | true =>
   rw[S] at h;exact Qgh E (λv w' hx=>ih _ _ _ (E.put (G o H) v) (next v) hx) h
theorem Ka {Q:Exit→LN→Fr→World→Prop}{f:Fr}{w:World}{id:Nat}{l:List Oper}(E:XQ n l=true) (h:Xz P m l (λf w=>Q .normal ds f w) l f w):WG none m P n (.region id l.toArray false) Q ds f w:=by
 unfold WG;intro a ha;refine wpIn_region ?_;have:=j5 (m:=m) (YD E) f l 0 a f w (by simp) ha (λ_ _=>rfl) h;simpa[List.range_eq_range',Y7] using this
theorem xy {ops:List Oper}{rest:List Oper}{f:Fr}{w:World}{K:Fr→World→Prop}{d:Option Nat}{ty:Nat}{ps:String}{af:Array Edge}{gd:Option (Nat×Bool)}{x y:Operand}{at_:Array Nat}{l:Nat}{R:Ending→World→Prop}
  (hx:ev f x=.func (.yield l) #[] #[]) (hy:YieldAt (fen none) (m - 1) P l #[ev f y] w R) (E:∀e w',R e w'→∃v,e=.returned v∧Xz P m ops K rest (QV f d v) w')
  (G:Yh ops f ⟨d,.call ⟨.value x,[y].toArray,at_⟩,ty,ps,af,gd⟩=true:=by rfl) :
  Xz P m ops K (⟨d,.call ⟨.value x,[y].toArray,at_⟩,ty,ps,af,gd⟩::rest) f w:=by
 obtain ⟨fn,tmps,assign,body,h1,h2⟩:=hy;have H:(execOp (ev f) ⟨d,.call ⟨.value x,[y].toArray,at_⟩,ty,ps,af,gd⟩).run P w=.ok (.round l fn tmps assign body) w:=by
  simp[execOp,resolve,hx,Deferred.ofValue,invoke,h1]
 unfold Xz;rw[G];simp only[XOY,H,upY,cond_true];exact h2.mono λe w' h=>by obtain ⟨v,rfl,hk⟩:=E e w' h;exact hk
end
attribute [irreducible] Xz
structure Lw (B:Nat) (L:LN) (w w':World):Prop where
 os:w'.os=w.os
 tape:w'.tape=w.tape
 output:w'.output=w.output
 size:w.heap.size≤w'.heap.size
 low:∀k,k<B→k∉L→w'.heap[k]?=w.heap[k]?
theorem Lw.refl (B:Nat) (L:LN) (w:World):Lw B L w w:=⟨O,O,O,Lr _,λ_ _ _=>O⟩
theorem Lw.trans {B:Nat}{L:LN}{E w w':World}(h:Lw B L E w) (k:Lw B L w w'):Lw B L E w' :=
 ⟨k.os.trans h.os,k.tape.trans h.tape,k.output.trans h.output,LR h.size k.size,λi hi G=>(k.low i hi G).trans (h.low i hi G)⟩
theorem Step.lw {L:LN}{w w' E:World}(h:Step L w w') (k:Lw w.heap.size L w' E):Step L w E :=
 ⟨k.os.trans h.os,k.tape.trans h.tape,k.output.trans h.output,LR h.size k.size,λi hi G=>(k.low i hi G).trans (h.block i hi G)⟩
structure Jr (B:Nat) (L:LN) (W W':World):Prop where
 lw:Lw B L W W'
 other:∀(k:Nat) (o:Obj),W.heap[k]?=some o→o.isCells=false→W'.heap[k]?=some o
theorem Jr.refl (B:Nat) (L:LN) (w:World):Jr B L w w:=⟨Lw.refl _ _ _,λ_ _ h _=>h⟩
theorem Jr.trans {B:Nat}{L:LN}{E w w':World}(h:Jr B L E w) (k:Jr B L w w'):Jr B L E w':=⟨h.lw.trans k.lw,λi o hi G=>k.other i o (h.other i o hi G) G⟩
theorem Jr.step {B:Nat}{L X:LN}{W W':World}(h:Step X W W') (I:B≤W.heap.size) (E:∀b∈X,(b∈L∨B≤b)∧∃o:Obj,W.heap[b]?=some o∧o.isCells=true):Jr B L W W':=by
 refine ⟨⟨h.os,h.tape,h.output,h.size,λk hk G=>h.block k (by omega) (λhx=>?_)⟩,λk o hk H=>?_⟩
 ·rcases (E k hx).1 with h1 | h1
  ·exact G h1
  omega
 refine (h.block k (LC.1 hk).1 (λhx=>?_)).trans hk;obtain ⟨J,h1,h2⟩:=(E k hx).2;rw[hk] at h1;cases h1;rw[H] at h2;cases h2
theorem Jr.ext {B:Nat}{L:LN}{W W':World}(h:Step [] W W') (E:B≤W.heap.size):Jr B L W W':=Jr.step h E (λ_ hb=>by cases hb)
theorem QZ.cells {H:Array Obj}{b T:Nat}{cs:LV}(h:QZ H b T cs):∃o:Obj,H[b]?=some o∧o.isCells=true:=⟨_,h,O⟩
theorem Jr.blk {B:Nat}{L:LN}{W W':World}{b T:Nat}{cs:LV}(h:Step [b] W W') (E:B≤W.heap.size) (hb:QZ W.heap b T cs) (G:b∈L∨B≤b):Jr B L W W' :=
 Jr.step h E (λc hc=>by
  have e:c=b:=by simpa using hc
  subst e;exact ⟨G,hb.cells⟩)
def ZY (B:Nat) (I:World→Prop):Prop:=∀W W' X,I W→Step X W W'→(∀r∈X,B≤r∧∃o:Obj,W.heap[r]?=some o∧o.isCells=false)→I W'
theorem ZY.own {β:Type}{B:Nat}{I:β→World→Prop}(h:∀s,ZY B (I s)):OwnFrom B I:=λs W W' row hs G H =>
 h s W W' _ hs (Step.of_grown G) (λr E=>H r (by cases row <;> simp at E ⊢;exact E.symm))
theorem ZY.blk {B:Nat}{b T:Nat}{cs:LV}:ZY B (λW=>QZ W.heap b T cs):=λW W' X h hs E=>h.step hs (λhb=>by
 obtain ⟨_,o,h1,h2⟩:=E b hb;unfold QZ at h;rw[h] at h1;cases h1;cases h2)
theorem ZY.and {B:Nat}{I J:World→Prop}(h:ZY B I) (k:ZY B J):ZY B (λW=>I W∧J W):=λW W' X hi hs E=>⟨h W W' X hi.1 hs E,k W W' X hi.2 hs E⟩
theorem ZY.ex {B:Nat}{β:Type}{I:β→World→Prop}(h:∀z,ZY B (I z)):ZY B (λW=>∃z,I z W):=λW W' X ⟨z,hi⟩ hs E=>⟨z,h z W W' X hi hs E⟩
theorem ZY.pure {B:Nat}(p:Prop):ZY B (λ_=>p):=λ_ _ _ h _ _=>h
theorem ZY.step {B:Nat}{L:LN}{w:World}(G:w.heap.size≤B):ZY B (λW=>Step L w W):=λW W' X h hs E=>h.then hs (λb hb=>.inr (by have:=(E b hb).1;omega))
theorem Q0 {w:World}{base e sz n:Nat}{v:Value}{cs:LV}(h:w.ownsRow base e sz v n cs):∀b∈ob v,∃o:Obj,w.heap[b]?=some o∧o.isCells=true:=by
 intro b hb;rcases h.2 with ⟨h1,_⟩ | ⟨g,cap,cur,h1,h2,h3,_⟩
 ·subst h1;simp[ob] at hb
 subst h1;simp[ob] at hb;subst hb;exact ⟨_,h3,O⟩
theorem ZY.row {B base e sz n:Nat}{v:Value}{cs:LV}:ZY B (λW=>W.ownsRow base e sz v n cs):=λW W' X h hs G=>Qj h hs (λb hb hx=>by
 obtain ⟨_,o,h1,h2⟩:=G b hx;obtain ⟨H,h3,E⟩:=Q0 h b hb;rw[h1] at h3;cases h3;rw[h2] at E;cases E)
theorem Qim {α:Type}{m:Nat}{P:Program}{n:Nat}{Q:Exit→LN→Fr→World→Prop}{ds:LN}{f:Fr}{w:World}{g:Operand}{p:Nat}{assign body:Code}(L:LN) (h1:1≤m)
  {gf:Nat} {fn:Func} [hF:Fu P gf fn] {capt:LV} (hg:ev f g=.func (.func gf) #[] capt.toArray) {enc:α→Value} {S:List α→Prop} {N:Nat} (hp:p<n)
  (hb:SeqStopsK (fen none) (m - 1) P gf capt.toArray (λx=>#[enc x]) (Lw w.heap.size L) S (λ_=>True) N w)
  (I:List α→World→Prop) (hI:∀s,ZY w.heap.size (I s)) (h0:I [] w) (A:Fr→α→Fr→World→Prop) (hA:∀x E,ZY w.heap.size (A f x E))
  (T:∀l pre x W,I pre W→WG (some l) (m - 1 - 1) P n assign (Qak (λH E W'=>H=[]∧Jr w.heap.size L W W'∧I pre W'∧A f x E W') (λ_ _ _ _=>False)) [] (upd f p (enc x)) W)
  (V:∀l pre x E W,I pre W→A f x E W→pre.length<N→WG (some l) (m - 1 - 1) P n body (Qak (λ_ _ W'=>Jr w.heap.size L W W'∧I (pre++[x]) W') (λ_ _ _ _=>False)) [] E W)
  (hc:∀D xs W,w.heap.size≤D→S xs→I xs W→W.heap[D]?=some (.deferred (some []))→Q .normal (D::ds) f W) :
  WG none m P n (.rangeFunc g #[p] assign body) Q ds f w:=by
 unfold WG at T V ⊢;intro a ha;have eg:∀args w,(callFunc gf args).run P w=.ok (.enter gf args) w:=by
  intro args w;have h1:¬fn.name = "runtime.NumGoroutine" := by simpa using hF.nm
  have h2:¬fn.body=none:=by have:=hF.b;intro e;rw[e] at this;cases this
  simp[callFunc,hF.f,h1,h2]
 have keep:∀{W W':World},Jr w.heap.size L W W'→KeepsFrom w.heap.size W W':=λh=>⟨h.lw.size,λk o _ hk Y=>h.other k o hk Y⟩;refine wpIn_rangeFunc_ownH (F:=fen none) O h1 (gf:=gf) (lb:=capt.toArray) (by rw[ha.eval];exact hg) U eg hb (λh k=>h.trans k)
  (λW l o o' hl Y _ _=>⟨O,O,O,by simp,λk hk _=>World.putObj_heap_other (by omega)⟩) (Below.refl _ _) (λ_=>rfl) I (λ_ _ _=>False) (ZY.own hI) (λ_ _ _ _ _ hs _ _=>hs) h0
  (λx G W=>∃E,Yt n [] G E∧A f x E W) (λx G=>ZY.own λ_=>ZY.ex λE=>ZY.and (ZY.pure _) (hA x E)) ?_ ?_ ?_ ?_
 ·intro l pre x W K hi hK;have hr:Yt n [] { tmps:=((#[p]:Array Nat).zip #[enc x]).foldl (λt (p,v)=>t.setIfInBounds p v) a.tmps,defers:=[] } (upd f p (enc x)):=by
   have h2:Yt n [] { a with defers:=[] } f:=⟨ha.size,O,ha.get⟩
   have h3:=h2.put (dst:=some p) (λd e=>by cases e;exact hp) (enc x);have e:((#[p]:Array Nat).zip #[enc x]).foldl (λt (p,v)=>t.setIfInBounds p v) a.tmps=a.tmps.setIfInBounds p (enc x):=by simp
   rw[e];exact h3
  refine wpIn_mono (T l pre x W hi _ hr) ?_;rintro e G W' ⟨H,E,h2,_,h3⟩;cases e with
  | normal=>obtain ⟨rfl,J,h5,h6⟩:=h3;exact hK G W' (keep J) J.lw h5 ⟨E,h2,h6⟩
  | exit id=>exact h3.elim
  | goto l=>exact h3.elim
  | ret=>exact h3.elim
  | panic ch=>exact h3.elim
  | outgrown=>exact h3.elim
 ·rintro l pre x G W _ _ hi ⟨E,h2,h3⟩ he;refine wpIn_mono (V l pre x E W hi h3 he G h2) ?_;rintro e hf W' ⟨H,hh,J,_,h5⟩;cases e with
  | normal=>exact ⟨keep h5.1,h5.1.lw,h5.2⟩
  | exit id=>exact h5.elim
  | goto l=>exact h5.elim
  | ret=>exact h5.elim
  | panic ch=>exact h5.elim
  | outgrown=>exact h5.elim
 ·intro D xs W hD hS hi hd;exact ⟨D::ds,f,⟨ha.size,by rw[show coll (D::ds)={ target:=.collected D,args:=#[] }::coll ds from rfl,ha.defers],ha.get⟩,λ_ _=>rfl,hc D xs W hD hS hi hd⟩
 intro D c pre W _ _ h _;exact h.elim
def QjW (P:Program) (t:Nat):Option (LV×List (Nat×Nat)):=match P.info? t,P.underlying t with
 | some it,some (.struct fs)=>match it.zero,fs.toList.mapM (λf=>(P.info? f.type).map λi=>(f.offset,i.size)) with
  | some (.agg zs),some pl=>some (zs.toList,pl)
  | _,_=>none
 | _,_=>none
class Bw (P:Program) (t:Nat) (zs:outParam (LV)) (pl:outParam (List (Nat×Nat))):Prop where
 h:QjW P t=some (zs,pl)
 b:pl.all (λx=>x.1+x.2≤zs.length)=true
def y0:LV→Nat→LV→LV
 | zs,_,[]=>zs
 | zs,o,u::us=>y0 (zs.set o u) (o+1) us
def Qge (pl:List (Nat×Nat)) (zs:LV):List (Nat×LV)→LV
 | []=>zs
 | (j,us)::ps=>Qge pl (y0 zs (pl.getD j (0,0)).1 us) ps
def Qiq:List (Nat×Value)→List (Nat×LV)→Prop
 | [],[]=>True
 | (j,v)::vs,(j',us)::uss=>v.cells=us.toArray∧j=j'∧Qiq vs uss
 | _,_=>False
theorem yZ:∀(us zs:LV) (o:Nat),(y0 zs o us).length=zs.length
 | [],_,_=>rfl
 | u::us,zs,o=>by rw[y0,yZ us,Nq]
theorem qV (o:Nat):∀(us:LV) (k:Nat) (zs:LV),(us.zipIdx k).foldl (λ(cs:Array Value) (x:Value×Nat)=>cs.setIfInBounds (o+x.2) x.1) zs.toArray=(y0 zs (o+k) us).toArray
 | [],_,_=>rfl
 | u::us,k,zs=>by
  rw[Nk,LJ,y0];have:=qV o us (k+1) (zs.set (o+k) u);rw[←List.setIfInBounds_toArray] at this;exact this
theorem Qfu {pl:List (Nat×Nat)}:∀(vs:List (Nat×Value)) (uss:List (Nat×LV)) (zs:LV),Qiq vs uss→uss.all (λp=>p.1<pl.length && (p.2.length == (pl.getD p.1 (0,0)).2))=true →
  (∀x∈pl,x.1+x.2≤zs.length)→Instr.fill (pl.toArray[·]?) zs.toArray vs=some (Qge pl zs uss).toArray
 | [],[],zs,_,_,_=>rfl
 | [],_::_,_,h,_,_=>h.elim
 | _::_,[],_,h,_,_=>h.elim
 | (j,v)::vs,(j',us)::uss,zs,h1,h2,h3=>by
  obtain ⟨hc,rfl,h1⟩:=h1;simp only[List.all_cons,Bool.and_eq_true,decide_eq_true_eq,beq_iff_eq] at h2;obtain ⟨⟨E,hl⟩,h2⟩:=h2;have G:pl.getD j (0,0)=pl[j]'E:=by simp[List.getD,E]
  have hm:=h3 _ (Li E);unfold Instr.fill;simp only[List.getElem?_toArray,List.getElem?_eq_getElem E,hc];rw[G] at hl;rw[if_neg (by simp only[List.size_toArray,hl,ne_eq,not_true,decide_false,Bool.false_or,decide_eq_true_eq];omega)];have e:=qV (pl[j]'E).1 us 0 zs;rw[M4] at e
  have e2:(us.toArray.zipIdx).foldl (λ(cs:Array Value) (x:Value×Nat)=>cs.setIfInBounds ((pl[j]'E).1+x.2) x.1) zs.toArray=(y0 zs (pl[j]'E).1 us).toArray:=by
   rw[←e];simp
  rw[e2,Qge,G];have H:=Qfu vs uss (y0 zs (pl[j]'E).1 us) h1 h2 (λx hx=>by rw[yZ];exact h3 x hx);simpa only[List.getElem?_toArray] using H
theorem Qba {P:Program}{t:Nat}{zs:LV}{pl:List (Nat×Nat)}(h:QjW P t=some (zs,pl)) (hb:pl.all (λx=>x.1+x.2≤zs.length)=true) (vs:List (Nat×Value)) (uss:List (Nat×LV)) (h1:Qiq vs uss)
  (h2:uss.all (λp=>p.1<pl.length && (p.2.length == (pl.getD p.1 (0,0)).2))=true):P.built t vs=some (Qge pl zs uss).toArray:=by
 have h3:∀x∈pl,x.1+x.2≤zs.length:=λo G=>by simpa using Mh.1 hb o G
 unfold QjW at h;unfold Program.built;cases hi:P.info? t with
 | none=>simp[hi] at h
 | some it =>
  cases hu:P.underlying t with
  | none=>simp[hi,hu] at h
  | some dd =>
   simp only[hi,hu] at h;cases dd <;> simp only[] at h <;> try (cases h)
   case struct fs =>
    cases E:it.zero with
    | none=>simp[E] at h
    | some z =>
     cases z <;> simp only[E] at h <;> try (cases h)
     rename_i za;cases hm:fs.toList.mapM (λf=>(P.info? f.type).map λi=>(f.offset,i.size)) with
     | none=>simp[hm] at h
     | some pl' =>
      simp only[hm,Option.some.injEq,Prod.mk.injEq] at h;obtain ⟨rfl,rfl⟩:=h;simp only[E,hm,Value.cells];exact Qfu vs uss za.toList h1 h2 h3
theorem ZV {P:Program}{f:Fr}{w:World}{d:Option Nat}{ty:Nat}{ps:String}{af:Array Edge}{gd:Option (Nat×Bool)}{t:Nat}{zs:LV}{pl:List (Nat×Nat)}[h:Bw P t zs pl] {parts:List (Nat×Operand)}(uss:List (Nat×LV))
  (h1:Qiq (parts.map λx=>(x.1,ev f x.2)) uss) (h2:uss.all (λp=>p.1<pl.length && (p.2.length == (pl.getD p.1 (0,0)).2))=true:=by rfl) :
  (execOp (ev f) ⟨d,.build t parts.toArray,ty,ps,af,gd⟩).run P w=.ok (.value (.agg (Qge pl zs uss).toArray)) w:=by
 have hb:=Qba h.h h.b _ uss h1 h2;have E:=run_build (P:=P) w t (parts.toArray.map λ(i,x)=>(i,ev f x)) _ (by simpa using hb);simp only[execOp,Sem.run_bind,E,Result.andThen_ok,Sem.run_pure]
end Go.Lg
namespace Go.Proofs.YtdffckgdcegpaaaGreatDoor
open Go.Lg
def cnE (p:Ed→Bool) (E:List Ed):Int:=((E.filter p).length:Int)
def gA (n:Nat) (f:Nat→Int):LI:=(List.range n).map f
theorem QjA (n:Nat) (f:Nat→Int):(gA n f).length=n:=by simp[gA]
theorem Qfp {n:Nat}{f:Nat→Int}{i:Nat}(h:i<(gA n f).length):(gA n f)[i]'h=f i:=by simp[gA]
theorem Qjz {n:Nat}{f g:Nat→Int}{i:Nat}{u:Int}(hu:u=g i) (h:∀j,j<n→j≠i→g j=f j):(gA n f).set i u=gA n g:=by
 apply L4
 ·simp[gA]
 intro k h1 h2;rw[Ni,Qfp h2];by_cases e:i=k
 ·rw[if_pos e,hu,e]
 rw[if_neg e,Qfp];exact (h k (by simpa[gA] using h2) (Ne.symm e)).symm
def fS (E:List Ed) (s:Nat):Int:=cnE (λe=>decide (e.1<(s:Int))) E
section
variable {P:Program} {K:Fr→World→Prop} {f:Fr} {w:World} {d:Option Nat} {ty:Nat} {ps:String} {af:Array Edge} {gd:Option (Nat×Bool)}
theorem QeF {t:Nat}[h1:XS P t] {x y:Operand}{b T i n:Nat}{g E:Nat→Int}{u:Int}(G:QZ w.heap b T ((gA n g).map (.int .i64))) (hx:ev f x=.pointer (some ⟨b,0+i*1,none⟩)) (hy:ev f y=.int .i64 u) (hi:i<n) (H:(gA n g).set i u=gA n E)
  (I:∀w',Step [b] w w'→QZ w'.heap b T ((gA n E).map (.int .i64))→K (QV f d undef) w'):XO P ⟨d,.store t x y,ty,ps,af,gd⟩ f w K :=
 X4 G hx hy (by rw[QjA];exact hi) λw' hs J=>I w' hs (by rw[←H];exact J)
end
end Go.Proofs.YtdffckgdcegpaaaGreatDoor
namespace Go.Lg
open Go.RowKit
section
variable {P:Program} {K:Fr→World→Prop} {f:Fr} {w:World} {d:Option Nat} {ty:Nat} {ps:String} {af:Array Edge} {gd:Option (Nat×Bool)} {ops l:List Oper}
end
end Go.Lg
namespace Go.Proofs.YtdffckgdcegpaaaGreatDoor
open Go.Lg
def Km {α:Type}(f:Nat→α) (i:Nat) (x:α):Nat→α:=λj=>if j=i then x else f j
theorem ZT {α:Type}(f:Nat→α) (i:Nat) (x:α):Km f i x i=x:=by simp[Km]
theorem Yj {α:Type}(f:Nat→α) {i j:Nat}(x:α) (h:j≠i):Km f i x j=f j:=by simp[Km,h]
theorem QdL {α β:Type}(k:α→β) (n:Nat) (f:Nat→α) (i:Nat) (x:α):((List.range n).map λj=>k (f j)).set i (k x)=(List.range n).map λj=>k (Km f i x j):=by
 apply L4
 ·simp
 intro j h1 h2;rw[Ni];by_cases e:i=j
 ·subst e;simp[ZT]
 rw[if_neg e];simp[Yj _ _ (Ne.symm e)]
structure Ki (base:Nat) (w:World) (n:Nat) (f:Nat→Value) (g:Nat→LI):Prop where
 own:∀i,i<n→Qu 3 base w (f i) (g i)
 dj:∀i j,i<n→j<n→i≠j→Dj (f i) (f j)
theorem Ki.app {base n i:Nat}{w w':World}{f:Nat→Value}{g:Nat→LI}{v':Value}{l:LI}(h:Ki base w n f g) (hi:i<n) (I:Qu 3 base w' v' l) (hs:Step (ob (f i)) w w')
  (J:∀b∈ob v',b∈ob (f i)∨w.heap.size≤b):Ki base w' n (Km f i v') (Km g i l):=by
 refine ⟨λj E=>?_,λj k E hk G=>?_⟩
 ·by_cases e:j=i
  ·subst e;rw[ZT,ZT];exact I
  rw[Yj _ _ e,Yj _ _ e];exact Qj (h.own j E) hs (h.dj j i E hi e)
 have key:∀j,j<n→j≠i→Dj v' (f j):=λj E e b hb H=>by
  rcases J b hb with h1 | h1
  ·exact h.dj i j hi E (Ne.symm e) b h1 H
  have:=QR (h.own j E) b H;omega
 by_cases e1:j=i
 ·subst e1;rw[ZT,Yj _ _ (Ne.symm G)];exact key k hk (Ne.symm G)
 rw[Yj _ _ e1];by_cases e2:k=i
 ·subst e2;rw[ZT];exact (key j E e1).symm
 rw[Yj _ _ e2];exact h.dj j k E hk G
theorem Ki.step {base n:Nat}{X:LN}{w w':World}{f:Nat→Value}{g:Nat→LI}(h:Ki base w n f g) (hs:Step X w w') (E:∀i,i<n→∀b∈ob (f i),b∉X):Ki base w' n f g :=
 ⟨λi hi=>Qj (h.own i hi) hs (E i hi),h.dj⟩
theorem Ki.ext {base n:Nat}{w w':World}{f:Nat→Value}{g:Nat→LI}(h:Ki base w n f g) (hs:Step [] w w'):Ki base w' n f g:=h.step hs (λ_ _ _ _=>by simp)
def Yo (E:List Ed) (s:Nat):LI:=(E.filter λe=>decide (e.2.2=(s:Int))).map (·.1)
theorem QaR (E:List Ed) (e:Ed) (G:0≤e.2.2):∀s,Km (Yo E) e.2.2.toNat (Yo E e.2.2.toNat++[e.1]) s=Yo (E++[e]) s:=by
 intro s;unfold Yo;rw[L0,Lt];by_cases h:s=e.2.2.toNat
 ·subst h;rw[ZT];have:e.2.2=(e.2.2.toNat:Int):=by omega
  simp[←this]
 rw[Yj _ _ h];have:¬e.2.2=(s:Int):=by omega
 simp[this]
theorem Qc5 {E:List Ed}{s:Nat}{p:Int}(h:p∈Yo E s):∃e∈E,e.1=p∧e.2.2=(s:Int):=by
 unfold Yo at h;simp only[List.mem_map,List.mem_filter,decide_eq_true_eq] at h;obtain ⟨e,⟨h1,h2⟩,h3⟩:=h;exact ⟨e,h1,h3,h2⟩
theorem VG (E:List Ed) (s:Nat):(Yo E s).length≤E.length:=by
 unfold Yo;rw[Lc];exact Mb _ _
def bwE (s:Int) (st:LI×LI) (p:Int):LI×LI:=if cget st.1 p.toNat<0 then (st.1.set p.toNat (cget st.1 s.toNat+1),st.2++[p]) else st
def V9 (n:Nat) (to:LI):LI:=(List.range n).map λi:Nat=>if (i:Int)∈to then 0 else -1
structure Qgy (n:Nat) (o q:LI):Prop where
 len:o.length=n
 q:∀x∈q,0≤x∧x<(n:Int)
 le:∀x∈o,-1≤x∧x+(neg o:Int)≤n
theorem QeR (l:LI):neg l≤l.length:=Mb _ _
theorem QjX {n:Nat}{s p:Int}{st:LI×LI}(h:Qgy n st.1 st.2) (hs:0≤s∧s<(n:Int)) (E:0≤cget st.1 s.toNat) (hp:0≤p∧p<(n:Int)) :
  Qgy n (bwE s st p).1 (bwE s st p).2∧neg (bwE s st p).1+(bwE s st p).2.length=neg st.1+st.2.length∧0≤cget (bwE s st p).1 s.toNat:=by
 unfold bwE;have hl:=h.len;have G:p.toNat<st.1.length:=by omega
 have H:s.toNat<st.1.length:=by omega
 by_cases hc:cget st.1 p.toNat<0
 ·rw[if_pos hc];have I:st.1[p.toNat]'G<0:=by rw[Zi G];exact hc
  have S:=h.le _ (Jb H);have T:=K0 st.1 p.toNat (cget st.1 s.toNat+1) G I (by omega);refine ⟨⟨by simp[hl],λx hx=>?_,λx hx=>?_⟩,?_,?_⟩
  ·simp only[List.mem_append,List.mem_singleton] at hx;rcases hx with hx | rfl
   ·exact h.q x hx
   exact hp
  ·simp only[] at hx ⊢;rcases M7 hx with h1 | h1
   ·have:=h.le x h1;omega
   subst h1;omega
  ·simp only[List.length_append,List.length_singleton];omega
  simp only[];have J:s.toNat≠p.toNat:=λe=>by rw[e] at E;omega
  have:cget (st.1.set p.toNat (cget st.1 s.toNat+1)) s.toNat=cget st.1 s.toNat:=by
   unfold cget;simp[List.getD,List.getElem?_set_ne (Ne.symm J)]
  rw[this];exact E
 rw[if_neg hc];exact ⟨h,rfl,E⟩
theorem Vl (n:Nat) (to:LI):(V9 n to).length=n:=by simp[V9]
theorem QjY {n:Nat}{to:LI}(h:∀x∈to,0≤x∧x<(n:Int)):Qgy n (V9 n to) to:=by
 refine ⟨Vl n to,h,λx hx=>?_⟩;have E:=QeR (V9 n to);rw[Vl] at E;unfold V9 at hx;simp only[List.mem_map] at hx;obtain ⟨i,_,rfl⟩:=hx;split <;> omega
theorem Qid {n:Nat}{to:LI}{x:Int}(h:0≤x∧x<(n:Int)) (hx:x∈to):cget (V9 n to) x.toNat=0:=by
 have h1:x.toNat<(V9 n to).length:=by rw[Vl];omega
 rw[←Zi h1];have:((x.toNat:Nat):Int)=x:=by omega
 simp[V9,this,hx]
def Qj5 (o q:LI):Prop:=∀x∈q,0≤cget o x.toNat
theorem Qgb {n:Nat}{s p:Int}{st:LI×LI}(h:Qgy n st.1 st.2) (H:0≤cget st.1 s.toNat) (hp:0≤p∧p<(n:Int)) (E:Qj5 st.1 st.2):Qj5 (bwE s st p).1 (bwE s st p).2:=by
 unfold bwE;have G:p.toNat<st.1.length:=by have:=h.len;omega
 by_cases hc:cget st.1 p.toNat<0
 ·rw[if_pos hc];intro x hx;simp only[] at hx ⊢;have e1:cget (st.1.set p.toNat (cget st.1 s.toNat+1)) x.toNat=if x.toNat=p.toNat then cget st.1 s.toNat+1 else cget st.1 x.toNat:=by
   by_cases e:x.toNat=p.toNat
   ·rw[if_pos e,e];unfold cget;simp[List.getD,G]
   rw[if_neg e];unfold cget;simp[List.getD,List.getElem?_set_ne (Ne.symm e)]
  rw[e1];split
  ·omega
  rename_i e;simp only[List.mem_append,List.mem_singleton] at hx;rcases hx with hx | rfl
  ·exact E x hx
  exact absurd O e
 rw[if_neg hc];exact E
theorem Qei (n:Nat):(List.replicate n (nS).cells.toList).flatten=(List.range n).map (λ_=>nS):=by
 apply L4
 ·simp[Value.cells]
 intro i h1 h2;simp[Value.cells]
theorem Qc4 (n:Nat):(List.replicate n (Value.int .i64 0).cells.toList).flatten=(gA n (λj=>if j<0 then -1 else 0)).map (Value.int .i64):=by
 apply L4
 ·simp[Value.cells,gA]
 intro i h1 h2;simp[Value.cells,gA]
theorem y8 {rv:Nat→Value}{n i:Nat}(hi:i<n):((List.range n).map rv)[0+i*1]?=some (rv i):=by simp[hi]
abbrev Lf:=List Bool
def lft (l:Lf) (s:Int):Bool:=l.getD s.toNat false
def cut (l:Lf) (s:Int):Lf:=l.set s.toNat false
def JL (ul:LI) (lf:Lf) (out:List (Int×Int)) (e:Ed):List (Int×Int) :=
 if lft lf e.1=false∨lft lf e.2.2=true∨e.2.1∉ul then out else if out.getLast?.map (·.1)=some e.1 then out else out++[(e.1,e.2.1)]
def lost (a:QQ) (ul:LI) (lf:Lf):List (Int×Int):=a.ed.foldl (JL ul lf) []
def dsE (lf:Lf) (x:Int) (z:LI×LI) (y:Int):LI×LI:=if lft lf y=true∧cget z.1 y.toNat<0 then (z.1.set y.toNat (cget z.1 x.toNat+1),z.2++[y]) else z
def dsL (E:List Ed) (lf:Lf):Nat→Nat→LI×LI→LI×LI
 | 0,_,z=>z
 | f+1,i,z=>if i<z.2.length then dsL E lf f (i+1) ((Yo E (cget z.2 i).toNat).foldl (dsE lf (cget z.2 i)) z) else z
def yJ (lf:Lf) (z:LI×LI) (x:Int):LI×LI:=if lft lf x=true then (z.1.set x.toNat 0,z.2++[x]) else z
def ds0 (a:QQ) (lf:Lf):LI×LI:=a.mr.foldl (yJ lf) (List.replicate a.st.toNat (-1),[])
def dsts (a:QQ) (lf:Lf):LI:=(dsL a.ed lf a.st.toNat 0 (ds0 a lf)).1
def Kz (lf:Lf):Nat→LI→LI
 | _,[]=>[]
 | i,d::l=>if lf.getD i false=true∧d<0 then (i:Int)::Kz lf (i+1) l else Kz lf (i+1) l
def nxs (a:QQ) (ul:LI) (lf:Lf):LI:=if (lost a ul lf).length≠0 then (lost a ul lf).map (·.1) else Kz lf 0 (dsts a lf)
def qE (a:QQ) (ul:LI):Nat→Lf→Lf
 | 0,lf=>lf
 | f+1,lf=>if (nxs a ul lf).length=0 then lf else qE a ul f ((nxs a ul lf).foldl cut lf)
def lf0 (n:Nat) (fb:LI):Lf:=fb.foldl cut (List.replicate n true)
def Qku (a:QQ) (fb ul:LI):Lf:=qE a ul (a.st.toNat+1) (lf0 a.st.toNat fb)
def rstr (a:QQ) (lf:Lf):QQ:=⟨a.al,a.st,a.mr,a.ed.filter λe=>lft lf e.2.2⟩
def qB (a:QQ) (lf:Lf):QQ:=if a.st=0∨lft lf 0=false then ⟨a.al,0,[],[]⟩ else ZD (rstr a lf)
def zD (a:QQ) (fb ul:LI):QQ:=qB a (Qku a fb ul)
def fbs (s:Spc):LI:=s.fb.map (·.st)
def suE (c:Zw):Int:=Yx c
def zE (c:Zw):QQ:=zD (spc c).a (fbs (spc c)) (unc c.ev)
def orB (b:Nat) (k:Nat):Nat:=b ||| (1 <<< k)
def rqB (x:YN):Nat→Nat→List YN→Nat
 | _,b,[]=>b
 | k,b,y::l=>rqB x (k+1) (if (y.a.al.any λe=>decide (e∈x.a.al))=true then orB b k else b) l
def qF (ls:List (Int×Int)):Nat:=ls.foldl (λb l=>orB b l.1.toNat) 0
def srR (c:Zw):LN:=c.rq.map λx=>rqB x 0 0 c.co
def srX (c:Zw):LN:=c.ex.map λx=>qF x.ls
def srC (c:Zw):LN:=c.cs.map λx=>qF x.ts
def srK (c:Zw) (k:Int):LN:=if k=1 then srR c else if k=2 then srX c else srC c
structure Js where
 kd:Int
 ix:Int
 co:LI
def Xx (k:Int):Nat→LN→List Js
 | _,[]=>[]
 | i,b::l=>⟨k,i,setK b 8⟩::Xx k (i+1) l
def mods (c:Zw):List Js:=Xx 1 0 (srR c)++(Xx 2 0 (srX c)++Xx 3 0 (srC c))
def sets (c:Zw):LN:=srR c++(srX c++srC c)
def zO (c:Zw):Nat:=(sets c).foldl (λl b=>l &&& (65535 ^^^ b)) (2 ^ c.co.length - 1)
def rem (c:Zw):LI:=setK (zO c) 8
def mdE (c:Zw) (m:Js):Int:=if Zb c≠0 then Zb c else if m.kd<1∨3<m.kd then 11 else if m.ix<0∨((srK c m.kd).length:Int)≤m.ix then 10 else if m.co=setK ((srK c m.kd).getD m.ix.toNat 0) 8 then 0 else 13
structure Prt where
 co:LI
 rq:LI
 ex:LI
 cs:LI
def chs (l:List YN) (ix:LI):List YN:=ix.map λi=>l.getD i.toNat ⟨.empty,⟨[],0,[],[]⟩⟩
def ixP (co:LI) (ls:List (Int×Int)):List (Int×Int):=ls.map λl=>((co.idxOf l.1:Int),l.2)
def mis (co:LI) (ls:List (Int×Int)):Bool:=ls.any λl=>decide (l.1∉co)
def Qee (c:Zw) (p:Prt):List Exc:=p.ex.map λi=>⟨(c.ex.getD i.toNat ⟨.empty,[]⟩).nm,ixP p.co (c.ex.getD i.toNat ⟨.empty,[]⟩).ls⟩
def Qef (c:Zw) (p:Prt):List Xv:=p.cs.map λi=>⟨(c.cs.getD i.toNat ⟨.empty,[],0⟩).nm,ixP p.co (c.cs.getD i.toNat ⟨.empty,[],0⟩).ts,(c.cs.getD i.toNat ⟨.empty,[],0⟩).bd⟩
def y7 (c:Zw) (p:Prt):Zw:=⟨c.ev,chs c.co p.co,chs c.rq p.rq,Qee c p,Qef c p⟩
def QiW (c:Zw) (p:Prt):Bool:=(p.ex.any λi=>mis p.co (c.ex.getD i.toNat ⟨.empty,[]⟩).ls) || (p.cs.any λi=>mis p.co (c.cs.getD i.toNat ⟨.empty,[],0⟩).ts)
def Uy (c:Zw) (p:Prt):Int :=
 if Zb c≠0 then Zb c else if Xj c.co.length none p.co≠0 then Xj c.co.length none p.co else if Xj c.rq.length none p.rq≠0 then Xj c.rq.length none p.rq else
 if Xj c.ex.length none p.ex≠0 then Xj c.ex.length none p.ex else if Xj c.cs.length none p.cs≠0 then Xj c.cs.length none p.cs else if QiW c p=true then 13 else Zb (y7 c p)
def prt (m:Js):Prt:=⟨m.co,if m.kd=1 then [m.ix] else [],if m.kd=2 then [m.ix] else [],if m.kd≠1∧m.kd≠2 then [m.ix] else []⟩
def mcE (c:Zw) (m:Js):Int:=if mdE c m≠0 then mdE c m else Uy c (prt m)
def mcC (c:Zw) (m:Js):Zw:=y7 c (prt m)
def msE (c:Zw) (m:Js):Int:=if mcE c m≠0 then mcE c m else suE (mcC c m)
def z8 (c:Zw) (m:Js):QQ:=zE (mcC c m)
def msL (c:Zw):List Js→Int
 | []=>0
 | m::l=>if msE c m≠0 then msE c m else msL c l
def Vu (c:Zw):Int:=if Zb c≠0 then Zb c else msL c (mods c)
def qA (c:Zw):List QQ:=(mods c).map (z8 c)++(rem c).map λi=>(c.co.getD i.toNat ⟨.empty,⟨[],0,[],[]⟩⟩).a
def KO (l:List QQ):Int:=if KK l≠0 then KK l else match sync l with | none=>3 | some _=>0
def tgE (c:Zw):Int:=if Vu c≠0 then Vu c else KO (qA c)
def tgA (c:Zw):QQ:=syA (qA c)
def ownr (c:Zw) (v:Int):LI:=ixs (λx:YN=>decide (v∈x.a.al)) 0 c.co
def shd (c:Zw):LI→Option (Int×Int×Int)
 | []=>none
 | v::l=>if 2≤(ownr c v).length then some (v,cget (ownr c v) 0,cget (ownr c v) 1) else shd c l
def QiU (c:Zw):Option (Int×Int×Int):=shd c (JB c.ev.length)
abbrev QO (p:Int×Int):LV:=[.int .i64 p.1,.int .i64 p.2]
theorem YK (p:Int×Int):(QO p).length=2:=rfl
abbrev P2s (L:LN) (H:Array Obj) (v:Value) (l:List (Int×Int)):Prop:=Zp L H v l.length 2 (l.flatMap QO)
abbrev Zk (e:Ke):LV:=[.string e.nm,.bool e.co,.bool e.ob,.bool e.fo,.int .i64 e.fl]
theorem yv (e:Ke):(Zk e).length=5:=rfl
abbrev V7 (s:ByteArray):Prop:=s.size≤9223372036854775807
structure KH (L:LN) (H:Array Obj) (v:Value) (l:List Ke):Prop where
 arr:Zp L H v l.length 5 (l.flatMap Zk)
 nm:∀e∈l,V7 e.nm
theorem KH.ext {L:LN}{w w':World}{v:Value}{l:List Ke}(h:KH L w.heap v l) (hs:Step [] w w'):KH L w'.heap v l:=⟨h.arr.ext hs,h.nm⟩
theorem KH.st {L:LN}{w w':World}{v:Value}{l:List Ke}(h:KH L w.heap v l) (hs:Step L w w'):KH L w'.heap v l:=⟨h.arr.st hs,h.nm⟩
theorem KH.up {L L':LN}{H:Array Obj}{v:Value}{l:List Ke}(h:KH L H v l) (E:∀b∈L',b∈L∨H.size≤b):KH L' H v l:=⟨h.arr.up E,h.nm⟩
structure IV where
 nm:ByteArray
 p:AV
def IV.it (q:IV):YN:=⟨q.nm,q.p.a⟩
abbrev Za (q:IV):LV:=[.string q.nm,q.p.va,.int .i64 q.p.a.st,q.p.vm,q.p.ve]
theorem YT (q:IV):(Za q).length=5:=rfl
structure Y9 (L:LN) (H:Array Obj) (v:Value) (qs:List IV):Prop where
 arr:Zp L H v qs.length 5 (qs.flatMap Za)
 each:∀q∈qs,Zt L H q.p.va q.p.vm q.p.ve q.p.a
 nm:∀q∈qs,V7 q.nm
structure XV where
 nm:ByteArray
 v:Value
 ls:List (Int×Int)
def XV.x (q:XV):Exc:=⟨q.nm,q.ls⟩
abbrev Zs (q:XV):LV:=[.string q.nm,q.v]
theorem JC (q:XV):(Zs q).length=2:=rfl
structure qy (L:LN) (H:Array Obj) (v:Value) (qs:List XV):Prop where
 arr:Zp L H v qs.length 2 (qs.flatMap Zs)
 each:∀q∈qs,P2s L H q.v q.ls
 nm:∀q∈qs,V7 q.nm
structure KV where
 nm:ByteArray
 v:Value
 ts:List (Int×Int)
 bd:Int
def KV.k (q:KV):Xv:=⟨q.nm,q.ts,q.bd⟩
abbrev Zx (q:KV):LV:=[.string q.nm,q.v,.int .i64 q.bd]
theorem Jk (q:KV):(Zx q).length=3:=rfl
structure qm (L:LN) (H:Array Obj) (v:Value) (qs:List KV):Prop where
 arr:Zp L H v qs.length 3 (qs.flatMap Zx)
 each:∀q∈qs,P2s L H q.v q.ts
 nm:∀q∈qs,V7 q.nm
theorem Y9.ext {L:LN}{w w':World}{v:Value}{qs:List IV}(h:Y9 L w.heap v qs) (hs:Step [] w w'):Y9 L w'.heap v qs:=⟨h.arr.ext hs,λq hq=>(h.each q hq).ext hs,h.nm⟩
theorem Y9.st {L:LN}{w w':World}{v:Value}{qs:List IV}(h:Y9 L w.heap v qs) (hs:Step L w w'):Y9 L w'.heap v qs:=⟨h.arr.st hs,λq hq=>(h.each q hq).st hs,h.nm⟩
theorem Y9.up {L L':LN}{H:Array Obj}{v:Value}{qs:List IV}(h:Y9 L H v qs) (E:∀b∈L',b∈L∨H.size≤b):Y9 L' H v qs:=⟨h.arr.up E,λq hq=>(h.each q hq).up E,h.nm⟩
theorem qy.ext {L:LN}{w w':World}{v:Value}{qs:List XV}(h:qy L w.heap v qs) (hs:Step [] w w'):qy L w'.heap v qs:=⟨h.arr.ext hs,λq hq=>(h.each q hq).ext hs,h.nm⟩
theorem qy.st {L:LN}{w w':World}{v:Value}{qs:List XV}(h:qy L w.heap v qs) (hs:Step L w w'):qy L w'.heap v qs:=⟨h.arr.st hs,λq hq=>(h.each q hq).st hs,h.nm⟩
theorem qy.up {L L':LN}{H:Array Obj}{v:Value}{qs:List XV}(h:qy L H v qs) (E:∀b∈L',b∈L∨H.size≤b):qy L' H v qs:=⟨h.arr.up E,λq hq=>(h.each q hq).up E,h.nm⟩
theorem qm.ext {L:LN}{w w':World}{v:Value}{qs:List KV}(h:qm L w.heap v qs) (hs:Step [] w w'):qm L w'.heap v qs:=⟨h.arr.ext hs,λq hq=>(h.each q hq).ext hs,h.nm⟩
theorem qm.st {L:LN}{w w':World}{v:Value}{qs:List KV}(h:qm L w.heap v qs) (hs:Step L w w'):qm L w'.heap v qs:=⟨h.arr.st hs,λq hq=>(h.each q hq).st hs,h.nm⟩
theorem qm.up {L L':LN}{H:Array Obj}{v:Value}{qs:List KV}(h:qm L H v qs) (E:∀b∈L',b∈L∨H.size≤b):qm L' H v qs:=⟨h.arr.up E,λq hq=>(h.each q hq).up E,h.nm⟩
structure CL where
 ve:Value
 vc:Value
 vr:Value
 vx:Value
 vk:Value
 ev:List Ke
 co:List IV
 rq:List IV
 ex:List XV
 cs:List KV
def CL.cel (c:CL):Zw:=⟨c.ev,c.co.map (·.it),c.rq.map (·.it),c.ex.map (·.x),c.cs.map (·.k)⟩
abbrev CL.cells (c:CL):LV:=[c.ve,c.vc,c.vr,c.vx,c.vk]
abbrev CL.val (c:CL):Value:=.agg #[c.ve,c.vc,c.vr,c.vx,c.vk]
structure ZA (L:LN) (H:Array Obj) (c:CL):Prop where
 ev:KH L H c.ve c.ev
 co:Y9 L H c.vc c.co
 rq:Y9 L H c.vr c.rq
 ex:qy L H c.vx c.ex
 cs:qm L H c.vk c.cs
theorem ZA.ext {L:LN}{w w':World}{c:CL}(h:ZA L w.heap c) (hs:Step [] w w'):ZA L w'.heap c:=⟨h.ev.ext hs,h.co.ext hs,h.rq.ext hs,h.ex.ext hs,h.cs.ext hs⟩
theorem ZA.st {L:LN}{w w':World}{c:CL}(h:ZA L w.heap c) (hs:Step L w w'):ZA L w'.heap c:=⟨h.ev.st hs,h.co.st hs,h.rq.st hs,h.ex.st hs,h.cs.st hs⟩
theorem ZA.up {L L':LN}{H:Array Obj}{c:CL}(h:ZA L H c) (E:∀b∈L',b∈L∨H.size≤b):ZA L' H c:=⟨h.ev.up E,h.co.up E,h.rq.up E,h.ex.up E,h.cs.up E⟩
theorem ZA.ones {L:LN}{H:Array Obj}{c:CL}(h:ZA L H c):ZN c.cells:=⟨h.ev.arr.one,h.co.arr.one,h.rq.arr.one,h.ex.arr.one,h.cs.arr.one,U⟩
def Qgx (N:Nat) (H:Array Obj) (v:Value) (k:Zw):Prop:=∃c:CL,v=c.val∧c.cel=k∧∀L:LN,(∀b∈L,b<N)→ZA L H c
open Go.Proofs.Tryz
theorem VS (s:ByteArray) (V:V7 s) (w:World):QK prog 162 [.string s] w λr w'=>r=.bool (YC s)∧w'=w:=by
 unfold V7 at V;refine QK.of_W func162 O ntmps162 results162 (by simp) ?_;refine Qc<|Qe<|Qf<|Qc<|Qb<|x (QaE O)<|Qb<|xe<|Qh<|QB (α:=Nat) [(2,5),(8,46)] (λz=>[(8,.int .i64 z)]) (λz w'=>w'=w∧z≤s.size∧(List.range' z (s.size - z)).all (nmQ s)=(List.range' 0 s.size).all (nmQ s)) (λz=>s.size - z) (by rfl) 0 Z ⟨O,Lk _,by rw[Nat.sub_zero]⟩ ?_;rintro k g T ⟨rfl,hk,E⟩
 refine Qc<|x (QA O O)<|xe<|Qf<|QG O (λh9=>?_) (λh9=>?_)
 ·refine Qz ?_;have Y:s.size≤k:=by have ha:¬(k:Int)<(s.size:Int):=h9;omega
  rw[Qg1 Y] at E;have G:YC s=decide (0<s.size∧s.size≤32):=by unfold YC;rw[←E];simp
  rw[G];refine QU (α:=Bool) [(2,2),(47,54)] (λz=>[(2,.bool z)]) (λz w'=>w'=T∧z=decide (0<s.size∧s.size≤32)) (by rfl) ?_ ?_
  ·refine Qy<|Qb<|x (QaE O)<|xb (ZO O O) (λhb=>?_) (λhb=>?_)
   ·refine Qb<|Qb<|x (QaE O)<|x (X1 O O)<|x (Qm O)<|Qe ?_;exact ⟨_,Z,O,by first | exact bT (by omega) | exact bF (by omega) | exact bD (by omega)⟩
   refine Qb<|xs O<|xs O<|xs O<|x (Qm O)<|Qe ?_;exact ⟨_,Z,O,by first | exact bT (by omega) | exact bF (by omega) | exact bD (by omega)⟩
  rintro z g w2 ⟨rfl,rfl⟩;exact Qn ⟨[_],Z,O,O⟩
 have H:k<s.size:=by have ha:(k:Int)<(s.size:Int):=h9;omega
 rw[Qej H,L6] at E;refine Qi<|Qf<|Qh<|Qc<|Qb<|Qe<|Qc<|Qb<|Qb<|x (Qeu (i:=k) O O H)<|Qe ?_;have hq:nmQ s k=decide (nmP k (chr s k)):=rfl;refine Zd (chr s k) λc hc=>?_;rw[hc] at hq;refine QU (α:=Bool) [(5,5),(14,31)] (λz=>[(5,.bool z)]) (λz w'=>w'=T∧z=decide ((97≤c∧c≤122)∨(65≤c∧c≤90)∨c=95)) (by rfl) ?_ ?_
 ·rw[←hc];refine Qy<|Qb<|xb (ZU O O) (λhe=>?_) (λhe=>?_)
  ·refine Qb<|Qb<|xb (X1 O O) (λhf=>?_) (λhf=>?_)
   ·refine x (Qm O)<|Qb<|xs O<|xs O<|xs O<|xs O<|xs O<|xs O<|x (Qm O)<|Qb<|xs O<|xs O<|x (Qm O) <|
     Qe ?_
    exact ⟨_,Z,O,by first | exact bT (by omega) | exact bF (by omega) | exact bD (by omega)⟩
   refine x (Qm O)<|Qb<|Qb<|xb (ZU O O) (λI=>?_) (λI=>?_)
   ·refine Qb<|Qb<|xb (X1 O O) (λJ=>?_) (λJ=>?_)
    ·refine x (Qm O)<|x (Qm O)<|Qb<|xs O<|xs O<|x (Qm O)<|Qe ?_;exact ⟨_,Z,O,by first | exact bT (by omega) | exact bF (by omega) | exact bD (by omega)⟩
    refine x (Qm O)<|x (Qm O)<|Qb<|Qb<|x (Q5 O O)<|x (Qm O)<|Qe ?_;exact ⟨_,Z,O,by first | exact bT (by omega) | exact bF (by omega) | exact bD (by omega)⟩
   refine Qb<|xs O<|xs O<|x (Qm O)<|x (Qm O)<|Qb<|Qb<|x (Q5 O O)<|x (Qm O)<|x Qg <|
    xe ?_
   exact ⟨_,Z,O,by first | exact bT (by omega) | exact bF (by omega) | exact bD (by omega)⟩
  refine Qb<|xs O<|xs O<|x (Qm O)<|Qb<|Qb<|xb (ZU O O) (λI=>?_) (λI=>?_)
  ·refine Qb<|Qb<|xb (X1 O O) (λJ=>?_) (λJ=>?_)
   ·refine x (Qm O)<|x (Qm O)<|Qb<|xs O<|xs O<|x (Qm O)<|Qe ?_;exact ⟨_,Z,O,by first | exact bT (by omega) | exact bF (by omega) | exact bD (by omega)⟩
   refine x (Qm O)<|x (Qm O)<|Qb<|Qb<|x (Q5 O O)<|x (Qm O)<|Qe ?_;exact ⟨_,Z,O,by first | exact bT (by omega) | exact bF (by omega) | exact bD (by omega)⟩
  refine Qb<|xs O<|xs O<|x (Qm O)<|x (Qm O)<|Qb<|Qb<|x (Q5 O O)<|x (Qm O)<|x Qg <|
   xe ?_
  exact ⟨_,Z,O,by first | exact bT (by omega) | exact bF (by omega) | exact bD (by omega)⟩
 rintro z g w4 ⟨rfl,rfl⟩;refine QU (α:=Bool) [(32,45)] (λz=>[(45,.bool z)]) (λz w'=>w'=w4∧z=decide (¬nmP k c)) (by rfl) ?_ ?_
 ·unfold nmP;rw[←hc];refine Qy<|Qb<|xb (UF O) (λhg=>?_) (λhg=>?_)
  ·refine Qb<|Qb<|xb (Q5 O O) (λhh=>?_) (λhh=>?_)
   ·refine Qb<|xs O<|xs O<|x (Qm O)<|Qb<|xs O<|xs O<|x (Qm O)<|x (Qm O)<|xe ?_;exact ⟨_,Z,O,by first | exact bT (by omega) | exact bF (by omega) | exact bD (by omega)⟩
   refine Qb<|Qb<|xb (QA O O) (λhi=>?_) (λhi=>?_)
   ·refine x (Qm O)<|Qb<|xs O<|xs O<|x (Qm O)<|x (Qm O)<|xe ?_;exact ⟨_,Z,O,by first | exact bT (by omega) | exact bF (by omega) | exact bD (by omega)⟩
   refine x (Qm O)<|Qb<|Qb<|x (ZO O O)<|x (Qm O)<|x (Qm O)<|xe ?_;exact ⟨_,Z,O,by first | exact bT (by omega) | exact bF (by omega) | exact bD (by omega)⟩
  refine Qb<|xs O<|xs O<|xs O<|xs O<|xs O<|xs O<|xs O<|xs O<|xs O<|xs O<|x (Qm O)<|xe ?_;exact ⟨_,Z,O,by first | exact bT (by omega) | exact bF (by omega) | exact bD (by omega)⟩
 rintro z g w5 ⟨rfl,rfl⟩;refine Q6 rfl (λS=>?_) (λS=>?_)
 ·refine Qc<|Qe ?_;have G:YC s=false:=by
   unfold YC;rw[←E,hq,decide_eq_false S];rfl
  exact Qn ⟨[_],Z,by rw[G];rfl,O⟩
 refine Qi ?_;have hj:nmP k c:=Ls.1 S;refine Qy<|QP O O<|Qb<|xe ?_;rw[hq,decide_eq_true hj,Bool.true_and] at E;exact ⟨k+1,by omega,Z,O,H,E⟩
def nmM (l:List ByteArray):List (ByteArray×Value):=l.map λs=>(s,.bool true)
theorem Qhg (l:List ByteArray) (s:ByteArray):mget (nmM l) s=if s∈l then some (.bool true) else none:=by
 induction l with
 | nil=>rfl
 | cons a l ih =>
  show (if a=s then some (Value.bool true) else mget (nmM l) s)=_
  rw[ih];by_cases h:a=s
  ·subst h;simp
  have:s≠a:=λe=>h e.symm;simp[h,this]
theorem QbN {l:List ByteArray}{s:ByteArray}(h:s∉l):mput (nmM l) s (.bool true)=nmM (l++[s]):=by
 induction l with
 | nil=>rfl
 | cons a l ih =>
  have h1:a≠s:=λe=>h (by subst e;exact Ln);show (if a=s then (a,Value.bool true)::nmM l else (a,Value.bool true)::mput (nmM l) s (.bool true))=_
  rw[if_neg h1,ih (λhm=>h (Ll _ hm))];rfl
section
variable {P:Program} {f:Fr} {w:World} {d:Option Nat} {ty:Nat} {ps:String} {af:Array Edge} {gd:Option (Nat×Bool)}
theorem jd {t kt et:Nat}[hm:Mp P t kt et (.bool false)] [hk:Key P kt Xp] {x y:Operand}{b:Nat}{l:List ByteArray}{s:ByteArray}(h:Z4 Xp w.heap b (nmM l)) (hx:ev f x=.map (some b)) (hy:ev f y=.string s) :
  (execOp (ev f) ⟨d,.lookup t x y false,ty,ps,af,gd⟩).run P w=.ok (.value (.bool (decide (s∈l)))) w:=by
 rw[X0 h hx hy,Qhg];by_cases hs:s∈l <;> simp[hs]
end
theorem Qa7 {s:List ByteArray}{l:List Ke}{k:Nat}(h:k<l.length):VZ s (l.drop k)=if Xd s (l[k]'h)≠0 then Xd s (l[k]'h) else VZ (s++[(l[k]'h).nm]) (l.drop (k+1)):=by
 rw[QY h];rfl
theorem U4 {L:LN}{w:World}{v:Value}{l:List Ke}(h:KH L w.heap v l):QK prog 94 [v] w λr w'=>r=.int .i64 (Jm l)∧Step [] w w':=by
 have h0:=h.arr.le;refine QK.of_W func94 O ntmps94 results94 (by simp) ?_;refine Qc<|Qe<|Qf<|Qc<|Qb<|x (Qs h.arr O)<|x (ZO O O)<|xe<|Q6 rfl (λh8=>?_) (λh8=>?_)
 ·refine Qc<|Qe ?_;exact Qn ⟨[_],Z,by unfold Jm;rw[if_pos (by have h9:(32:Int)<(l.length:Int):=h8;omega)];rfl,Step.refl _ _⟩
 have hm:Jm l=VZ [] l:=by unfold Jm;rw[if_neg (by have h9:¬(32:Int)<(l.length:Int):=h8;omega)]
 rw[hm];refine Qi<|Qc<|xl O<|Yq Xp λb9 w1 hg ho hp=>Qe<|Qf<|Qc<|Qb<|x (Qs (h.arr.ext hg) O)<|Qb<|xe<|Qh<|QB (α:=Nat×List ByteArray) [(2,2),(5,5),(12,50)] (λz=>[(12,.int .i64 z.1)]) (λz w'=>z.1≤l.length∧Step [] w w'∧Z4 Xp w'.heap b9 (nmM z.2)∧VZ z.2 (l.drop z.1)=VZ [] l) (λz=>l.length - z.1) (by rfl) (0,[]) Z
  ⟨Lk _,hg,hp,O⟩ ?_
 rintro ⟨k,sn⟩ g w2 ⟨hk,H,hh,E⟩;simp only[] at hk hh E;refine Qc<|x (QA O O)<|xe<|Qf<|QG O (λha=>?_) (λha=>?_)
 ·refine Qz ?_;have hq:l.length≤k:=by have hr:¬(k:Int)<(l.length:Int):=ha;omega
  rw[Lq hq] at E;refine Qc<|Qe ?_;exact Qn ⟨[_],Z,by rw[←E];rfl,H⟩
 have T:k<l.length:=by have hr:(k:Int)<(l.length:Int):=ha;omega
 rw[Qa7 T] at E;have hi:=h.nm _ (Li T);refine Qi<|Qf<|Qh<|Qc<|xig yv (h.arr.ext H) O O T λh2 hj=>?_;refine Zd (l[k]'T) λe he=>?_;rw[he] at hj E hi;refine x (QI hj O O)<|xl O<|Qt (us:=[.string .empty,.bool false,.bool false,.bool false,.int .i64 0]) O λb5 w3 hs ht G=>xl O<|Qp (us:=Zk e) G O O O O ⟨O,O,O,O,O,U⟩ λw4 hu G =>
  xe ?_
 have I:Step [] w2 w4:=hs.then1 hu ht;have hl:=hh.ext I;refine Qf<|Qh<|Qc<|x (Qa O)<|x (Qd G O O)<|xl O<|xf<|(VS e.nm hi _).mono ?_;rintro r5 w5 ⟨rfl,rfl⟩;refine x (Zr O)<|Qe<|Q3 O (λhb=>?_) (λhb=>?_)
 ·have J:YC e.nm=false:=by simpa using hb
  have h1:Xd sn e=7:=by unfold Xd;rw[if_pos J]
  refine Qc<|Qe ?_;exact Qn ⟨[_],Z,by rw[←E,h1];rfl,H.trans I⟩
 have J:¬YC e.nm=false:=by simpa using hb
 refine Qc<|Qb<|x (Qa O)<|x (Qd G O O)<|x (jd hl O O)<|Qe<|Q6 O (λS=>?_) (λS=>?_)
 ·have h1:Xd sn e=8:=by unfold Xd;rw[if_neg J,if_pos S]
  refine Qc<|Qe ?_;exact Qn ⟨[_],Z,by rw[←E,h1];rfl,H.trans I⟩
 refine QU (α:=Bool) [(26,34)] (λz=>[(26,.bool z)]) (λz w'=>w'=w5∧z=decide (e.fl<0∨4<e.fl)) (by rfl) ?_ ?_
 ·refine Qy<|x (Qa O)<|x (Qd G O O)<|xb (QA O O) (λhv=>?_) (λhv=>?_)
  ·refine Qb<|xs O<|xs O<|xs O<|x (Qm O)<|Qe ?_;exact ⟨_,Z,O,by first | exact bT (by omega) | exact bF (by omega) | exact bD (by omega)⟩
  refine Qb<|x (Qa O)<|x (Qd G O O)<|x (ZO O O)<|x (Qm O)<|Qe ?_;exact ⟨_,Z,O,by first | exact bT (by omega) | exact bF (by omega) | exact bD (by omega)⟩
 rintro z g w6 ⟨rfl,rfl⟩;refine Q6 rfl (λV=>?_) (λV=>?_)
 ·have h1:Xd sn e=2:=by unfold Xd;rw[if_neg J,if_neg S,if_pos V]
  refine Qc<|Qe ?_;exact Qn ⟨[_],Z,by rw[←E,h1];rfl,H.trans I⟩
 refine QU (α:=Bool) [(35,46)] (λz=>[(35,.bool z)]) (λz w'=>w'=w6∧z=decide (e.fl≠0∧(e.co || e.ob)=true)) (by rfl) ?_ ?_
 ·refine Qy<|x (Qa O)<|x (Qd G O O)<|xb (Q9 O O) (λY=>?_) (λY=>?_)
  ·refine Qb<|x (Qa O)<|xB (Qd G O O) (λhc=>?_) (λhc=>?_)
   ·refine Qb<|xs O<|xs O<|x (Qm O)<|x (Qm O)<|Qe ?_;exact ⟨_,Z,O,by rw[hc,decide_eq_true ⟨Y,by simp⟩]⟩
   refine Qb<|x (Qa O)<|x (Qd G O O)<|x (Qm O)<|x (Qm O)<|Qe<|⟨_,Z,O,?_⟩;show e.ob=_;rw[hc];cases e.ob <;> simp[show ¬e.fl=0 from Y]
  refine Qb<|xs O<|xs O<|xs O<|xs O<|xs O<|xs O<|x (Qm O)<|Qe ?_;exact ⟨_,Z,O,bF (λh1=>Y h1.1)⟩
 rintro z g w7 ⟨rfl,rfl⟩;refine Q6 rfl (λhf=>?_) (λhf=>?_)
 ·have h1:Xd sn e=13:=by unfold Xd;rw[if_neg J,if_neg S,if_neg V,if_pos hf]
  refine Qc<|Qe ?_;exact Qn ⟨[_],Z,by rw[←E,h1];rfl,H.trans I⟩
 have h1:Xd sn e=0:=by unfold Xd;rw[if_neg J,if_neg S,if_neg V,if_neg hf]
 rw[h1,if_neg (λh=>h rfl)] at E;refine Qi<|Qy<|Qb<|x (Qa O)<|x (Qd G O O)<|xl O<|Xn (k:=e.nm) hl O O λw8 hw hy=>xe ?_;refine Qy<|QP O O<|Qb<|xe ?_;have hz:Z4 Xp w8.heap b9 (nmM (sn++[e.nm])):=by rw[←QbN S];exact hy
 exact ⟨(k+1,sn++[e.nm]),by simp only[];omega,Z,T,(H.trans I).then1 hw ho,hz,E⟩
theorem jx {α:Type}(q:α→Bool) (x:α):∀(l:List α) (i:Nat),ixs q i (l++[x])=ixs q i l++if q x=true then [((i+l.length:Nat):Int)] else []
 | [],i=>by simp[ixs]
 | a::l,i=>by
  have ih:=jx q x l (i+1);simp only[List.cons_append,ixs,ih,List.length_cons];rw[show i+1+l.length=i+(l.length+1) by omega];split <;> simp
theorem K6 {α:Type}(q:α→Bool):∀(l:List α) (i:Nat),(ixs q i l).length≤l.length
 | [],i=>by simp[ixs]
 | a::l,i=>by
  have ih:=K6 q l (i+1);unfold ixs;split <;> simp <;> omega
theorem jw {α:Type}(q:α→Bool) {l:List α}{k:Nat}(h:k<l.length):ixs q 0 (l.take (k+1))=ixs q 0 (l.take k)++if q (l[k]'h)=true then [(k:Int)] else []:=by
 rw[Le h,jx];simp[Nat.min_eq_left (Nat.le_of_lt h)]
theorem Qdj {g:Nat}{fn:Func}[Fu prog g fn] {q:Ke→Bool}(hq:∀(e:Ke) (w:World),QK prog g [.agg (Zk e).toArray] w λr w'=>r=.bool (q e)∧Step [] w w') {L:LN}{w:World}{v:Value}{l:List Ke}(h:KH L w.heap v l) :
  QK prog 114 [v,.func (.func g) #[] #[]] w λr w'=>Step [] w w'∧Qu 3 w.heap.size w' r (ixs q 0 l):=by
 have hs:=h.arr.le;refine QK.of_W func114 O ntmps114 results114 (by simp) ?_;refine Qc<|Qe<|Qc<|Qe<|Qf<|Qc<|Qb<|x (Qs h.arr O)<|Qb<|xe<|Qh<|QB (α:=Nat×Value) [(5,7),(10,22)] (λz=>[(5,z.2),(10,.int .i64 z.1)]) (λz w'=>z.1≤l.length∧Step [] w w'∧Qu 3 w.heap.size w' z.2 (ixs q 0 (l.take z.1))) (λz=>l.length - z.1) (by rfl) (0,nS) ⟨O,O,U⟩
  ⟨Lk _,Step.refl _ _,QN _ _ _ _⟩ ?_
 rintro ⟨k,vo⟩ g w1 ⟨hk,E,I⟩;simp only[] at hk I;refine Qc<|x (QA O O)<|xe<|Qf<|QG O (λS=>?_) (λS=>?_)
 ·refine Qz ?_;have hf:l.length≤k:=by have hg:¬(k:Int)<(l.length:Int):=S;omega
  rw[Lm hf] at I;refine Qc<|Qb<|Qe ?_;exact Qn ⟨[_],Z,E,I⟩
 have G:k<l.length:=by have hg:(k:Int)<(l.length:Int):=S;omega
 have H:=jw q G;have ht:=K6 q (l.take k) 0;have hu:(l.take k).length=k:=by simp;omega
 refine Qi<|Qf<|Qh<|Qc<|Qb<|xig yv (h.arr.ext E) O O G λhv hc=>?_;refine Zd (l[k]'G) λe he=>?_;rw[he] at hc H;refine x (QI hc O O)<|xl O<|Qt (us:=[.string .empty,.bool false,.bool false,.bool false,.int .i64 0]) O λb7 w2 hh hi T=>x Qg <|
  xl rfl<|Qp (us:=Zk e) T O O O O ⟨O,O,O,O,O,U⟩ λw3 hj T=>xe ?_
 have hl:Step [] w1 w3:=hh.then1 hj hi;refine Qc<|Qb<|x (Qr T O O)<|xl O<|xc (first:=[]) (capt:=[]) O<|(hq e w3).mono ?_;rintro r4 w4 ⟨rfl,hm⟩;have J:=hl.trans hm;have V:=Qq I J;have hw:=(E.trans J).size;refine xe<|Q3 rfl (λY=>?_) (λY=>?_)
 ·rw[if_pos Y] at H;refine Qy<|Qb<|Qb<|xl O<|QC (us:=[[.int .i64 k]]) O O (by decide) (by simp) ⟨rfl,rfl,U⟩ λhy w5 ha hz hn=>?_;have ho:=Qq V ha;have h0:=ha.size;refine xl O<|Q2 (news:=[.int .i64 k]) (L:=[]) ho O O O (hn.at (by simp)) (by simp[Value.oneCell']) (by omega) (by omega) λv6 w6 hp hr h1 =>
   Qe ?_
  have hge:=Qk V;refine Qy<|QP O O<|Qb<|xe<|⟨(k+1,v6),by simp only[];omega,⟨O,O,U⟩,G,((E.trans J).trans ha).then hr (λb hb=>.inr (hge b hb).1),?_⟩;simp only[];rw[H];exact Qu.snoc hp
 rw[if_neg (by rw[Y];decide),LF] at H;refine Qi<|Qy<|QP O O<|Qb<|xe ?_;exact ⟨(k+1,vo),by simp only[];omega,⟨O,O,U⟩,G,E.trans J,by simp only[];rw[H];exact V⟩
theorem Qbe (e:Ke) (w:World):QK prog 109 [.agg (Zk e).toArray] w λr w'=>r=.bool (!e.co)∧Step [] w w':=by
 refine QK.of_W func109 O ntmps109 results109 (by simp) ?_;refine Qc<|xl O<|QS (us:=Zk e) O λH I E J G=>Qe<|Qc<|x (Qa O)<|x (Qd G O O)<|x (Zr O)<|Qe ?_;exact Qn ⟨[_],Z,O,E⟩
theorem Qdu {L:LN}{w:World}{v:Value}{l:List Ke}(h:KH L w.heap v l):QK prog 44 [v,.int .i64 2] w λr w'=>Step [] w w' ∧
  ∃vo,r=.tuple #[vo,.int .i64 (Jm l)]∧Qu 3 w.heap.size w' vo (if Jm l=0 then unc l else []):=by
 refine QK.of_W func44 O ntmps44 results44 (by simp) ?_;refine Qc<|x Qg<|Qe<|Qf<|Qc<|Qb<|xl O<|xf<|(U4 h).mono ?_;rintro r1 I ⟨rfl,J⟩;refine Qe<|Qc<|Qb<|x (Q9 O O)<|xe<|Q6 rfl (λG=>?_) (λG=>?_)
 ·refine Qc<|Qb<|x Qg<|Qe ?_;exact Qn ⟨[_,_],⟨O,O,U⟩,J,_,O,by rw[if_neg G];exact QN _ _ _ _⟩
 have S:Jm l=0:=Ls.1 G;refine Qi<|Qc<|xl O<|Yq Kr λT w2 V E Y=>xl O<|Y0 (k:=1) Y O O λw3 ha hb=>xl O<|Y0 (k:=2) hb O O λw4 hc he =>
  xl rfl<|Y0 (k:=3) he O O λw5 hf hg=>xl O<|Y0 (k:=4) hg O O λw6 hh hi=>xl O<|Y0 (k:=5) hi O O λw7 hj hk=>xl O<|Y0 (k:=6) hk O O λw8 hl hm =>
  Qb<|Qe ?_
 have hq:I.heap.size≤T:=E;have hn:Step [] I w8:=(((((V.then1 ha E).then1 hc E).then1 hf E).then1 hh E).then1 hj E).then1 hl E;refine Qc<|Qb<|Qb<|x (qZ (k:=(2:Int)) hm O O O)<|Qb<|x (Ql O O)<|x (Ql O O)<|x Qg<|Qe<|Qf<|Qc<|Qb<|x (Zr O)<|xe<|Yl rfl ?_;refine Qi ?_;have H:=J.trans hn;refine Qc<|Qb<|Qb<|xl O<|xf<|(Qdj Qbe (h.ext H)).mono ?_
 rintro r9 w9 ⟨ho,hp⟩;refine x Qg<|Qe<|Qn ⟨[_,_],⟨O,O,U⟩,H.trans ho,_,by rw[S];rfl,?_⟩;rw[if_pos S];exact Zq hp H.size
theorem jB (n:Int) (w:World):QK prog 220 [.int .i64 n] w λr w'=>r=.bool (grt n)∧w'=w:=by
 refine QK.of_W func220 O ntmps220 results220 (by simp) ?_;refine Qc<|Qe<|QU (α:=Bool) [(2,8)] (λz=>[(2,.bool z)]) (λz w'=>w'=w∧z=grt n) (by rfl) ?_ ?_
 ·refine Qy<|Qb<|xb (QA O O) (λE=>?_) (λE=>?_)
  ·refine Qb<|xs O<|xs O<|x (Qm O)<|Qe ?_;exact ⟨_,Z,O,by unfold grt;rw[decide_eq_true E];rfl⟩
  refine Qb<|Qb<|x (ZO O O)<|x (Qm O)<|Qe ?_;exact ⟨_,Z,O,by unfold grt;rw[decide_eq_false E];rfl⟩
 rintro z g G ⟨rfl,rfl⟩;exact Qn ⟨[_],Z,O,O⟩
theorem Qa6 {sz:LI}{ls:List (Int×Int)}{k:Nat}(h:k<ls.length):YP sz (pv (ls.map (·.1)) k) (ls.drop k)=if (ls[k]'h).1<0∨(sz.length:Int)≤(ls[k]'h).1 then 2 else if UP (pv (ls.map (·.1)) k) (ls[k]'h).1=true then 5 else if (ls[k]'h).2<0∨cget sz (ls[k]'h).1.toNat≤(ls[k]'h).2 then 2 else YP sz (pv (ls.map (·.1)) (k+1)) (ls.drop (k+1)):=by
 rw[QY h,Jh (by simpa using h),MG];rfl
theorem Vj {w:World}{vs vx vk vl:Value}{sz:LI}{ls:List (Int×Int)}{nm:ByteArray}(hS:QL [] w.heap vs sz) (hl:P2s [] w.heap vl ls) :
  QK prog 170 [.agg #[vs,vx,vk],.agg #[.string nm,vl]] w λr w'=>r=.int .i64 (XR sz ls)∧Step [] w w':=by
 have hH:=hl.le;have hI:=hS.le;refine QK.of_W func170 O ntmps170 results170 (by simp) ?_;refine Qc<|xl O<|QS (us:=[vs,vx,vk]) O λb2 w1 hy hJ V=>xl O<|QS (us:=[.string nm,vl]) O λb3 w2 hp hK Y=>Qe ?_;have G:=hy.trans hp
 replace V:=V.ext hp;refine Qf<|Qc<|x (Qa O)<|x (Qd Y O O)<|x (Qs (hl.ext G) O)<|x (Q5 O O)<|xe<|Q6 rfl (λha=>?_) (λha=>?_)
 ·refine Qc<|Qe ?_;exact Qn ⟨[_],Z,by unfold XR;rw[if_pos (by have hz:(ls.length:Int)=0:=ha;omega)];rfl,G⟩
 have h0:ls.length≠0:=by have hz:¬(ls.length:Int)=0:=ha;omega
 have h1:XR sz ls=YP sz none ls:=by unfold XR;rw[if_neg h0]
 rw[h1];refine Qi<|Qf<|Qc<|x (Qa O)<|x (Qd Y O O)<|x (Qs (hl.ext G) O)<|Qb<|xe<|Qh<|QB (α:=Nat) [(4,6),(14,61)] (λz=>[(14,.int .i64 z)]) (λz w'=>z≤ls.length∧Step [] w2 w'∧YP sz (pv (ls.map (·.1)) z) (ls.drop z)=YP sz none ls) (λz=>ls.length - z) (by rfl) 0 Z
  ⟨Lk _,Step.refl _ _,O⟩ ?_
 rintro k g w3 ⟨hk,J,E⟩;have hb:=G.trans J;have hq:=V.ext J;have h2:=Y.ext J;have hr:=hl.ext hb;have hs:=hS.ext hb;refine Qc<|x (QA O O)<|xe<|Qf<|QG O (λhf=>?_) (λhf=>?_)
 ·refine Qz ?_;have h3:ls.length≤k:=by have h4:¬(k:Int)<(ls.length:Int):=hf;omega
  rw[Lq h3] at E;refine Qc<|Qe ?_;exact Qn ⟨[_],Z,by rw[←E];rfl,hb⟩
 have S:k<ls.length:=by have h4:(k:Int)<(ls.length:Int):=hf;omega
 rw[Qa6 S] at E;refine Qi<|Qf<|Qh<|Qc<|Qb<|xig YK hr O O S λhL ht=>?_;refine Zd (ls[k]'S) λe he=>?_;rw[he] at ht E;refine x (QI ht O O)<|xl O<|Qt (us:=[.int .i64 0,.int .i64 0]) O λb6 w4 h5 h6 I=>x Qg<|xl O<|Qp (us:=QO e) I O O O O ⟨O,O,U⟩ λw5 h7 I=>xe ?_;have H:Step [] w3 w5:=h5.then1 h7 h6;have hu:=J.trans H
 refine Qh<|QU (α:=Bool) [(19,30)] (λz=>[(19,.bool z)]) (λz w'=>w'=w5∧z=decide (e.1<0∨(sz.length:Int)≤e.1)) (by rfl) ?_ ?_
 ·refine Qy<|x (Qa O)<|x (Qd I O O)<|xb (QA O O) (λh8=>?_) (λh8=>?_)
  ·refine Qb<|xs O<|xs O<|xs O<|xs O<|xs O<|xs O<|x (Qm O)<|Qe ?_;exact ⟨_,Z,O,by first | exact bT (by omega) | exact bF (by omega) | exact bD (by omega)⟩
  refine Qb<|x (Qa O)<|x (Qd I O O)<|x (Qa O)<|x (Qd (hq.ext H) O O)<|x (Qs (hs.ext H) O)<|x (ZU O O) <|
   x (Qm rfl)<|Qe ?_
  exact ⟨_,Z,O,by first | exact bT (by omega) | exact bF (by omega) | exact bD (by omega)⟩
 rintro z g w6 ⟨rfl,rfl⟩;refine Q6 rfl (λhg=>?_) (λhg=>?_)
 ·rw[if_pos hg] at E;refine Qc<|Qe ?_;exact Qn ⟨[_],Z,by rw[←E];rfl,G.trans hu⟩
 rw[if_neg hg] at E;have h9:e.1=((e.1.toNat:Nat):Int):=by omega
 have hA:e.1.toNat<sz.length:=by omega
 refine QU (α:=Bool) [(31,45)] (λz=>[(31,.bool z)]) (λz w'=>Step [] w6 w'∧z=UP (pv (ls.map (·.1)) k) e.1) (by rfl) ?_ ?_
 ·refine QW (Step [] w6) [(0,true),(1,true),(2,true),(3,true),(4,true),(5,true),(6,true),(7,true),(8,true),(9,true),(10,true),(11,true),(12,true),(13,true),(14,true)] mixed (by rfl) (by kernel_rfl) (Step.drew _ _) ?_;refine p (λ_=>Qo)<|pb (λ_=>ZO O O) (λhh=>?_) (λhh=>?_)
  ·have hi:k≠0:=by have hB:(0:Int)<(k:Int):=hh;omega
   have hC:((k:Int) - 1)=((k - 1:Nat):Int):=by omega
   have hj:k - 1<ls.length:=by omega
   refine p (λ_=>Qo)<|p (λ_=>Qa O)<|pq (λ_ hc=>Qd (I.ext hc) O O)<|p (λ_=>Qa O)<|pq (λ_ hc=>Qd ((h2.ext H).ext hc) O O) <|
    p (λ_=>Qo)<|p (λ_=>Jv O O ⟨by omega,by omega⟩)<|Lg.pig (g:=QO) (i:=k - 1) O YK (hr.ext H) O (congrArg (Value.int .i64) hC) hj λhM hD=>p (λ_=>Zl O) <|
    pq (λ_ hc=>Qx ((hD.fld 0 _ O).ext hc) O)<|p (λ_=>X1 O O)<|p (λ_=>Qm O)<|p (λ_=>Qg)<|pe ?_
   refine ⟨_,Z,Step.drew _ _,?_⟩;have:pv (ls.map (·.1)) k=some (ls[k - 1]'hj).1:=by simp[pv,hi,hj]
   rw[this];rfl
  have hi:k=0:=by have hB:¬(0:Int)<(k:Int):=hh;omega
  refine p (λ_=>Qo)<|ps<|ps<|ps<|ps<|ps<|ps<|ps<|ps<|ps<|ps<|p (λ_=>Qm O)<|p (λ_=>Qg)<|pe ?_;exact ⟨false,Z,Step.drew _ _,by simp[pv,hi,UP]⟩
 rintro z g w7 ⟨T,rfl⟩;have hv:=hu.trans T;refine Q3 rfl (λhm=>?_) (λhm=>?_)
 ·rw[if_pos hm] at E;refine Qc<|Qe ?_;exact Qn ⟨[_],Z,by rw[←E];rfl,G.trans hv⟩
 rw[if_neg (by simp[hm])] at E;have hn:=I.ext T;refine QU (α:=Bool) [(46,60)] (λz=>[(46,.bool z)]) (λz w'=>Step [] w7 w'∧z=decide (e.2<0∨cget sz e.1.toNat≤e.2)) (by rfl) ?_ ?_
 ·refine QW (Step [] w7) [(0,true),(1,true),(2,true),(3,true),(4,true),(5,true),(6,true),(7,true),(8,true),(9,true),(10,true),(11,true),(12,true),(13,true),(14,true)] mixed (by rfl) (by kernel_rfl) (Step.drew _ _) ?_;refine p (λ_=>Qa O)<|pq (λ_ hc=>Qd (hn.ext hc) O O)<|pb (λ_=>QA O O) (λhE=>?_) (λhE=>?_)
  ·refine p (λ_=>Qo)<|ps<|ps<|ps<|ps<|ps<|ps<|ps<|ps<|ps<|p (λ_=>Qm O)<|p (λ_=>Qg)<|pe ?_;exact ⟨_,Z,Step.drew _ _,by first | exact bT (by omega) | exact bF (by omega) | exact bD (by omega)⟩
  refine p (λ_=>Qo)<|p (λ_=>Qa O)<|pq (λ_ hc=>Qd (hn.ext hc) O O)<|p (λ_=>Qa O)<|pq (λ_ hc=>Qd (((hq.ext H).ext T).ext hc) O O) <|
   p (λ_=>Qa O)<|pq (λ_ hc=>Qd (hn.ext hc) O O)<|pic (i:=e.1.toNat) O ((hs.ext H).ext T) O (congrArg (Value.int .i64) h9) hA λhN hF=>pq (λ_ hc=>Qx (hF.ext hc) O) <|
   p (λ_=>ZU O O)<|p (λ_=>Qm O)<|p (λ_=>Qg)<|pe ?_
  exact ⟨_,Z,Step.drew _ _,by first | exact bT (by omega) | exact bF (by omega) | exact bD (by omega)⟩
 rintro z g w8 ⟨hG,rfl⟩;have hw:=hv.trans hG;refine Q6 rfl (λho=>?_) (λho=>?_)
 ·rw[if_pos ho] at E;refine Qc<|Qe ?_;exact Qn ⟨[_],Z,by rw[←E];rfl,G.trans hw⟩
 rw[if_neg ho] at E;refine Qi<|Qy<|QP O O<|Qb<|xe ?_;exact ⟨k+1,by omega,Z,S,hw,E⟩
theorem Qa5 {sz:LI}{ls:List (Int×Int)}{k:Nat}(h:k<ls.length):Xs sz (pv (ls.map (·.1)) k) (ls.drop k)=if (ls[k]'h).1<0∨(sz.length:Int)≤(ls[k]'h).1 then 2 else if UP (pv (ls.map (·.1)) k) (ls[k]'h).1=true then 5 else if (ls[k]'h).2=0∨grt (ls[k]'h).2=true then 2 else Xs sz (pv (ls.map (·.1)) (k+1)) (ls.drop (k+1)):=by
 rw[QY h,Jh (by simpa using h),MG];rfl
theorem Ky {w:World}{vs vx vk vl:Value}{sz:LI}{ls:List (Int×Int)}{nm:ByteArray}{bd:Int}(hS:QL [] w.heap vs sz) (hl:P2s [] w.heap vl ls) :
  QK prog 172 [.agg #[vs,vx,vk],.agg #[.string nm,vl,.int .i64 bd]] w λr w'=>r=.int .i64 (YL sz ⟨nm,ls,bd⟩)∧Step [] w w':=by
 have hH:=hl.le;have hI:=hS.le;refine QK.of_W func172 O ntmps172 results172 (by simp) ?_;refine Qc<|xl O<|QS (us:=[vs,vx,vk]) O λb2 w1 h0 hJ V=>xl O<|QS (us:=[.string nm,vl,.int .i64 bd]) O λb3 w2 hq hK Y=>Qe ?_;have G:=h0.trans hq
 replace V:=V.ext hq;refine Qf<|Qc<|x (Qa O)<|x (Qd Y O O)<|x (Qs (hl.ext G) O)<|x (Q5 O O)<|xe<|Q6 rfl (λha=>?_) (λha=>?_)
 ·refine Qc<|Qe ?_;exact Qn ⟨[_],Z,by unfold YL;rw[if_pos (by have h1:(ls.length:Int)=0:=ha;show ls.length=0;omega)];rfl,G⟩
 have h2:ls.length≠0:=by have h1:¬(ls.length:Int)=0:=ha;omega
 have h3:YL sz ⟨nm,ls,bd⟩=if Xs sz none ls≠0 then Xs sz none ls else if grt bd=true then 2 else 0:=by unfold YL;rw[if_neg h2]
 rw[h3];refine Qi<|Qf<|Qc<|x (Qa O)<|x (Qd Y O O)<|x (Qs (hl.ext G) O)<|Qb<|xe<|Qh<|QB (α:=Nat) [(4,6),(14,55)] (λz=>[(14,.int .i64 z)]) (λz w'=>z≤ls.length∧Step [] w2 w'∧Xs sz (pv (ls.map (·.1)) z) (ls.drop z)=Xs sz none ls) (λz=>ls.length - z) (by rfl) 0 Z
  ⟨Lk _,Step.refl _ _,O⟩ ?_
 rintro k g w3 ⟨hk,J,E⟩;have S:=G.trans J;have h4:=V.ext J;have hr:=Y.ext J;have hs:=hl.ext S;have h5:=hS.ext S;refine Qc<|x (QA O O)<|xe<|Qf<|QG O (λhb=>?_) (λhb=>?_)
 ·refine Qz ?_;have h6:ls.length≤k:=by have h7:¬(k:Int)<(ls.length:Int):=hb;omega
  rw[Lq h6] at E;have h8:Xs sz none ls=0:=E.symm;rw[h8,if_neg (λh=>h rfl)];refine Qf<|Qc<|x (Qa O)<|x (Qd hr O O)<|xl O<|xf<|(jB bd _).mono ?_;rintro r4 w4 ⟨rfl,rfl⟩;refine xe<|Q3 O (λhf=>?_) (λhf=>?_)
  ·rw[if_pos hf];refine Qc<|Qe ?_;exact Qn ⟨[_],Z,O,S⟩
  rw[if_neg (by simp[hf])];refine Qi<|Qc<|Qe ?_;exact Qn ⟨[_],Z,O,S⟩
 have T:k<ls.length:=by have h7:(k:Int)<(ls.length:Int):=hb;omega
 rw[Qa5 T] at E;refine Qi<|Qf<|Qh<|Qc<|Qb<|xig YK hs O O T λhL ht=>?_;refine Zd (ls[k]'T) λe he=>?_;rw[he] at ht E;refine x (QI ht O O)<|xl O<|Qt (us:=[.int .i64 0,.int .i64 0]) O λb6 w4 h9 hA H=>x Qg<|xl O<|Qp (us:=QO e) H O O O O ⟨O,O,U⟩ λw5 hB H=>xe ?_;have I:Step [] w3 w5:=h9.then1 hB hA;have hu:=J.trans I
 refine Qh<|QU (α:=Bool) [(19,30)] (λz=>[(19,.bool z)]) (λz w'=>w'=w5∧z=decide (e.1<0∨(sz.length:Int)≤e.1)) (by rfl) ?_ ?_
 ·refine Qy<|x (Qa O)<|x (Qd H O O)<|xb (QA O O) (λhC=>?_) (λhC=>?_)
  ·refine Qb<|xs O<|xs O<|xs O<|xs O<|xs O<|xs O<|x (Qm O)<|Qe ?_;exact ⟨_,Z,O,by first | exact bT (by omega) | exact bF (by omega) | exact bD (by omega)⟩
  refine Qb<|x (Qa O)<|x (Qd H O O)<|x (Qa O)<|x (Qd (h4.ext I) O O)<|x (Qs (h5.ext I) O)<|x (ZU O O) <|
   x (Qm rfl)<|Qe ?_
  exact ⟨_,Z,O,by first | exact bT (by omega) | exact bF (by omega) | exact bD (by omega)⟩
 rintro z g w6 ⟨rfl,rfl⟩;refine Q6 rfl (λhh=>?_) (λhh=>?_)
 ·rw[if_pos hh] at E;refine Qc<|Qe ?_;exact Qn ⟨[_],Z,by rw[←E,if_pos (by decide)];rfl,G.trans hu⟩
 rw[if_neg hh] at E;have hM:e.1=((e.1.toNat:Nat):Int):=by omega
 have hN:e.1.toNat<sz.length:=by omega
 refine QU (α:=Bool) [(31,45)] (λz=>[(31,.bool z)]) (λz w'=>Step [] w6 w'∧z=UP (pv (ls.map (·.1)) k) e.1) (by rfl) ?_ ?_
 ·refine QW (Step [] w6) [(0,true),(1,true),(2,true),(3,true),(4,true),(5,true),(6,true),(7,true),(8,true),(9,true),(10,true),(11,true),(12,true),(13,true),(14,true)] mixed (by rfl) (by kernel_rfl) (Step.drew _ _) ?_;refine p (λ_=>Qo)<|pb (λ_=>ZO O O) (λhi=>?_) (λhi=>?_)
  ·have hj:k≠0:=by have hD:(0:Int)<(k:Int):=hi;omega
   have hE:((k:Int) - 1)=((k - 1:Nat):Int):=by omega
   have hm:k - 1<ls.length:=by omega
   refine p (λ_=>Qo)<|p (λ_=>Qa O)<|pq (λ_ hc=>Qd (H.ext hc) O O)<|p (λ_=>Qa O)<|pq (λ_ hc=>Qd ((hr.ext I).ext hc) O O) <|
    p (λ_=>Qo)<|p (λ_=>Jv O O ⟨by omega,by omega⟩)<|Lg.pig (g:=QO) (i:=k - 1) O YK (hs.ext I) O (congrArg (Value.int .i64) hE) hm λhO hF=>p (λ_=>Zl O) <|
    pq (λ_ hc=>Qx ((hF.fld 0 _ O).ext hc) O)<|p (λ_=>X1 O O)<|p (λ_=>Qm O)<|p (λ_=>Qg)<|pe ?_
   refine ⟨_,Z,Step.drew _ _,?_⟩;have:pv (ls.map (·.1)) k=some (ls[k - 1]'hm).1:=by simp[pv,hj,hm]
   rw[this];rfl
  have hj:k=0:=by have hD:¬(0:Int)<(k:Int):=hi;omega
  refine p (λ_=>Qo)<|ps<|ps<|ps<|ps<|ps<|ps<|ps<|ps<|ps<|ps<|p (λ_=>Qm O)<|p (λ_=>Qg)<|pe ?_;exact ⟨false,Z,Step.drew _ _,by simp[pv,hj,UP]⟩
 rintro z g w7 ⟨hv,rfl⟩;have hw:=hu.trans hv;refine Q3 rfl (λhn=>?_) (λhn=>?_)
 ·rw[if_pos hn] at E;refine Qc<|Qe ?_;exact Qn ⟨[_],Z,by rw[←E,if_pos (by decide)];rfl,G.trans hw⟩
 rw[if_neg (by simp[hn])] at E;have hy:=H.ext hv;refine QU (α:=Bool) [(46,54)] (λz=>[(46,.bool z)]) (λz w'=>Step [] w7 w'∧z=decide (e.2=0∨grt e.2=true)) (by rfl) ?_ ?_
 ·refine Qy<|x (Qa O)<|x (Qd hy O O)<|xb (Q5 O O) (λho=>?_) (λho=>?_)
  ·refine Qb<|xs O<|xs O<|xs O<|x (Qm O)<|Qe ?_;exact ⟨_,Z,Step.refl _ _,bT (.inl ho)⟩
  refine Qb<|x (Qa O)<|x (Qd hy O O)<|xl O<|xf<|(jB e.2 _).mono ?_;rintro r9 w9 ⟨rfl,rfl⟩;refine x (Qm O)<|Qe<|⟨grt e.2,Z,Step.refl _ _,?_⟩;cases hg:grt e.2 with
  | true=>exact bT (.inr O)
  | false=>exact bF (λh=>by rcases h with h | h;exact ho h;cases h)
 rintro z g w8 ⟨hG,rfl⟩;have hz:=hw.trans hG;refine Q6 rfl (λhp=>?_) (λhp=>?_)
 ·rw[if_pos hp] at E;refine Qc<|Qe ?_;exact Qn ⟨[_],Z,by rw[←E,if_pos (by decide)];rfl,G.trans hz⟩
 rw[if_neg hp] at E;refine Qi<|Qy<|QP O O<|Qb<|xe ?_;exact ⟨k+1,by omega,Z,T,hz,E⟩
end Go.Proofs.YtdffckgdcegpaaaGreatDoor
namespace Go.Lg
open Go.RowKit
def Qai:Fr→LN→LV→Fr
 | f,p::ps,v::vs=>Qai (upd f p v) ps vs
 | f,_,_=>f
theorem Vy {n:Nat}{ds:LN}:∀(ps:LN) (vs:LV) (a:Act) (f:Fr),Yt n ds a f→(∀p∈ps,p<n) →
  Yt n ds { tmps:=(ps.zip vs).foldl (λt (x:Nat×Value)=>t.setIfInBounds x.1 x.2) a.tmps,defers:=a.defers } (Qai f ps vs)
 | [],_,a,f,h,_=>by cases h;exact ⟨by assumption,by assumption,by assumption⟩
 | p::ps,[],a,f,h,_=>by cases h;exact ⟨by assumption,by assumption,by assumption⟩
 | p::ps,v::vs,a,f,h,hp=>by
  have h2:=h.put (dst:=some p) (λd e=>by cases e;exact hp p Ln) v;exact Vy ps vs _ _ h2 (λq hq=>hp q (Ll _ hq))
def rdE {α:Type}(B:Nat) (L:LN) (I:List α→World→Prop) (X:Exit→List α→World→Prop) (xs:List α) (W:World):Exit→LN→Fr→World→Prop
 | .normal,_,_,W'=>Jr B L W W'∧I xs W'
 | .ret,_,_,W'=>Jr B L W W'∧X .ret xs W'
 | .exit i,_,_,W'=>Jr B L W W'∧X (.exit i) xs W'
 | _,_,_,_=>False
theorem Qgu {α:Type}{m:Nat}{P:Program}{n:Nat}{Q:Exit→LN→Fr→World→Prop}{ds:LN}{f:Fr}{w:World}{g:Operand}{ps:LN}{assign body:Code}(L:LN) (h1:1≤m)
  {gf:Nat} {fn:Func} [hF:Fu P gf fn] {capt:LV} (hg:ev f g=.func (.func gf) #[] capt.toArray) {encs:α→LV} {S Sp:List α→Prop} {N:Nat} (hp:∀p∈ps,p<n) (he:∀x,(encs x).length=ps.length)
  (hf:SeqStopsK (fen none) (m - 1) P gf capt.toArray (λx=>(encs x).toArray) (Lw w.heap.size L) S Sp N w)
  (I:List α→World→Prop) (hI:∀s,ZY w.heap.size (I s)) (X:Exit→List α→World→Prop) (hX:∀e s,ZY w.heap.size (X e s)) (h0:I [] w) (A:Fr→α→Fr→World→Prop) (hA:∀x E,ZY w.heap.size (A f x E))
  (V:∀l pre x W,I pre W→WG (some l) (m - 1 - 1) P n assign (Qak (λJ E W'=>J=[]∧Jr w.heap.size L W W'∧I pre W'∧A f x E W') (λ_ _ _ _=>False)) [] (Qai f ps (encs x)) W)
  (Y:∀l pre x E W,I pre W→A f x E W→pre.length<N→WG (some l) (m - 1 - 1) P n body (rdE w.heap.size L I X (pre++[x]) W) [] E W)
  (hh:∀D xs W,w.heap.size≤D→S xs→I xs W→W.heap[D]?=some (.deferred (some []))→Q .normal (D::ds) f W)
  (hb:∀D e pre W,w.heap.size≤D→Sp pre→X e pre W→W.heap[D]?=some (.deferred (some []))→(e=.ret∨∃i,e=.exit i)→Q e (D::ds) f W) :
  WG none m P n (.rangeFunc g ps.toArray assign body) Q ds f w:=by
 unfold WG at V Y ⊢;intro a ha;have eg:∀args w,(callFunc gf args).run P w=.ok (.enter gf args) w:=by
  intro args w;have h1:¬fn.name = "runtime.NumGoroutine" := by simpa using hF.nm
  have h2:¬fn.body=none:=by have:=hF.b;intro e;rw[e] at this;cases this
  simp[callFunc,hF.f,h1,h2]
 have keep:∀{W W':World},Jr w.heap.size L W W'→KeepsFrom w.heap.size W W':=λh=>⟨h.lw.size,λk o _ hk ho=>h.other k o hk ho⟩;refine wpIn_rangeFunc_ownH (F:=fen none) O h1 (gf:=gf) (lb:=capt.toArray) (by rw[ha.eval];exact hg) U eg hf (λh k=>h.trans k)
  (λW l o o' hl ho _ _=>⟨O,O,O,by simp,λk hk _=>World.putObj_heap_other (by omega)⟩) (Below.refl _ _) (λx=>by simp[he x]) I
  (λc pre W=>match c with | .ret=>X .ret pre W | .exit i=>X (.exit i) pre W | _=>False) (ZY.own hI) (λc=>ZY.own λs=>?_) h0
  (λx G W=>∃E,Yt n [] G E∧A f x E W) (λx G=>ZY.own λ_=>ZY.ex λE=>ZY.and (ZY.pure _) (hA x E)) ?_ ?_ ?_ ?_
 ·cases c <;> first | exact hX _ s | exact ZY.pure _
 ·intro l pre x W K hi hK;have hr:Yt n [] { tmps:=(ps.toArray.zip (encs x).toArray).foldl (λt (p,v)=>t.setIfInBounds p v) a.tmps,defers:=[] } (Qai f ps (encs x)):=by
   have h2:Yt n [] { a with defers:=[] } f:=⟨ha.size,O,ha.get⟩
   have h3:=Vy ps (encs x) _ _ h2 hp;have e:(ps.toArray.zip (encs x).toArray).foldl (λt (p,v)=>t.setIfInBounds p v) a.tmps=(ps.zip (encs x)).foldl (λt (x:Nat×Value)=>t.setIfInBounds x.1 x.2) a.tmps:=by simp
   rw[e];exact h3
  refine wpIn_mono (V l pre x W hi _ hr) ?_;rintro e G W' ⟨J,E,h2,_,h3⟩;cases e with
  | normal=>obtain ⟨rfl,T,h5,h6⟩:=h3;exact hK G W' (keep T) T.lw h5 ⟨E,h2,h6⟩
  | exit id=>exact h3.elim
  | goto l=>exact h3.elim
  | ret=>exact h3.elim
  | panic ch=>exact h3.elim
  | outgrown=>exact h3.elim
 ·rintro l pre x G W _ _ hi ⟨E,h2,h3⟩ hj;refine wpIn_mono (Y l pre x E W hi h3 hj G h2) ?_;rintro e hm W' ⟨J,hn,T,_,h5⟩;cases e with
  | normal=>exact ⟨keep h5.1,h5.1.lw,h5.2⟩
  | exit id=>exact ⟨keep h5.1,h5.2⟩
  | goto l=>exact h5.elim
  | ret=>exact ⟨keep h5.1,h5.2⟩
  | panic ch=>exact h5.elim
  | outgrown=>exact h5.elim
 ·intro D xs W hD H hi hd;exact ⟨D::ds,f,⟨ha.size,by rw[show coll (D::ds)={ target:=.collected D,args:=#[] }::coll ds from rfl,ha.defers],ha.get⟩,λ_ _=>rfl,hh D xs W hD H hi hd⟩
 intro D c pre W hD H hx hd;have hc:Yt n (D::ds) { a with defers:={ target:=.collected D,args:=#[] }::a.defers } f:=⟨ha.size,by rw[show coll (D::ds)={ target:=.collected D,args:=#[] }::coll ds from rfl,ha.defers],ha.get⟩
 cases c with
 | ret=>exact wpIn_ret ⟨_,f,hc,λ_ _=>O,hb D .ret pre W hD H hx hd (.inl O)⟩
 | exit i=>exact wpIn_exit ⟨_,f,hc,λ_ _=>O,hb D (.exit i) pre W hD H hx hd (.inr ⟨i,O⟩)⟩
 | _=>exact hx.elim
end Go.Lg
namespace Go.Proofs.YtdffckgdcegpaaaGreatDoor
open Go.Proofs.Tryz
open Go.Lg
theorem Qb5 {α:Type}(g:α→LV) (sz:Nat) (E:∀x,(g x).length=sz):∀(l:List α) (k:Nat),(l.flatMap g).take (k*sz)=(l.take k).flatMap g
 | [],k=>by simp
 | e::l,0=>by simp
 | e::l,k+1=>by
  simp only[List.flatMap_cons,List.take_succ_cons,Nat.add_mul,Nat.one_mul];rw[MX,List.take_append,E,show sz+k*sz - sz=k*sz by omega,Qb5 g sz E l k,Lm (by rw[E];omega)]
theorem QbO {gf:Nat}{fn:Func}[Fu prog gf fn] {capt:LV}{nms:List ByteArray}{s:ByteArray}(hk:V7 s) {w:World}{N:Nat}
  (hl:∀(w':World) (L:LN),Step [] w w'→(∀b∈L,w.heap.size≤b)→SeqStopsK (fen none) 9 prog gf capt.toArray (λx:{ x:ByteArray // x∈nms }=>[Value.string x.1].toArray) (Lw w'.heap.size L) (λys=>ys.map (·.1)=nms) (λ_=>True) N w') :
  QK prog 169 [.string s,.func (.func gf) #[] capt.toArray] w λr w'=>r=.int .i64 (JU nms s)∧Step [] w w':=by
 refine QK.of_G 10 func169 O ntmps169 results169 (by simp) ?_;refine QX<|QJ (by rfl) (by rfl) ?_;refine xl rfl<|QS (us:=[.string s]) O λb2 w1 hg hq hh=>xl O<|Qt (us:=[.int .i64 0]) O λG w2 hi hs he=>xe ?_;have S:=hg.trans hi;have ht:=hg.size;have hu:=he.lt;have hj:=hh.ext hi;have hv:=hh.lt;refine QX<|QX<|QJ (by rfl) (by rfl) ?_
 refine x (Qd hj O O)<|xl O<|xf<|(VS s hk _).mono ?_;rintro r3 w3 ⟨rfl,rfl⟩;refine x (Zr O)<|xe<|KG rfl (λh8=>?_) (λh8=>?_)
 ·have Y:YC s=false:=by simpa using h8
  have T:JU nms s=7:=by unfold JU;rw[if_pos Y]
  refine QX<|QJ (by rfl) (by rfl) ?_;refine xl O<|QE (j:=0) (u:=.int .i64 7) he O O (by decide) O λw4 I V=>xe ?_;refine JZ ⟨λ_ h=>(by cases h),My,[.int .i64 7],λW' H=>⟨⟨⟨_,rfl,YB (At.one ((V.ext H).at (L:=[]) (by simp)))⟩,U⟩,by rw[T];rfl,(S.then1 I (by omega)).trans H⟩⟩
 have Y:¬YC s=false:=by simpa using h8
 refine Ye<|QX<|QX<|QJ (by rfl) (by rfl) ?_;refine Qb<|xe<|ZH<|Qgu (α:={ x:ByteArray // x∈nms }) (ps:=[10]) [G] (by omega) (capt:=capt) O (encs:=λx=>[.string x.1]) (by simp) (λ_=>rfl)
  (hl w3 [G] S (λb hb=>by simp at hb;omega))
  (λpre W=>Step [G] w3 W∧QZ W.heap b2 9 [.string s]∧QZ W.heap G 49 [.int .i64 0]∧∀x∈pre,x.1≠s)
  (λpre=>(ZY.step (Lr _)).and (ZY.blk.and (ZY.blk.and (ZY.pure _))))
  (λe pre W=>e=.ret∧Step [G] w3 W∧QZ W.heap G 49 [.int .i64 8]∧s∈nms)
  (λe pre=>(ZY.pure _).and ((ZY.step (Lr _)).and (ZY.blk.and (ZY.pure _))))
  ⟨Step.refl _ _,hj,he,λx hx=>by cases hx⟩
  (λf x f' W=>f'=upd (Qai f [10] [.string x.1]) 5 (.string x.1)) (λx f'=>ZY.pure _) ?_ ?_ ?_ ?_
 ·rintro l pre x W ⟨h1,h2,h3,J⟩;refine QJ (by rfl) (by rfl) ?_;refine Lg.Qe ?_;exact ⟨O,Jr.refl _ _ _,⟨h1,h2,h3,J⟩,O⟩
 ·rintro l pre x f' W ⟨h1,h2,h3,J⟩ rfl _;refine ZH<|QX<|QJ (by rfl) (by rfl) ?_;refine Lg.Qb<|Lg.x (Qd h2 O O)<|Lg.x (zQ O O)<|xe<|Qin O (λhf=>?_) (λhf=>?_)
  ·refine QX<|QJ (by rfl) (by rfl) ?_;refine xl O<|QE (j:=0) (u:=.int .i64 8) h3 O O (by decide) O λw4 I V=>xe ?_;refine JZ ?_;exact ⟨Jr.blk I h1.size h3 (.inl (by simp)),rfl,h1.trans' I,V,by rw[←hf];exact x.2⟩
  refine Ye<|⟨Jr.refl _ _ _,h1,h2,h3,λy hy=>?_⟩;rcases Lj.1 hy with hy | hy
  ·exact J y hy
  simp only[List.mem_singleton] at hy;subst hy;exact hf
 ·rintro D xs W hD ho ⟨h1,h2,h3,J⟩ ha;have T:JU nms s=0:=by
   unfold JU;rw[if_neg Y,if_neg];intro hm;rw[←ho] at hm;obtain ⟨y,hy,e⟩:=Lx.1 hm;exact J y hy e
  refine QX<|QJ (by rfl) (by rfl) ?_;refine xl O<|QE (j:=0) (u:=.int .i64 0) h3 O O (by decide) O λw4 I V=>xe ?_;have hc:D≠G:=by omega
  have hp:w4.heap[D]?=some (.deferred (some [])):=by rw[I.block D (LC.1 ha).1 (by simpa using hc)];exact ha
  refine JZ ⟨λE hE=>by simp only[List.mem_singleton] at hE;subst hE;exact hp,by simp,[.int .i64 0],λW' H=>?_⟩;refine ⟨⟨⟨_,O,YB (At.one ((V.step H (by simpa using hc.symm)).at (L:=[]) (by simp)))⟩,U⟩,by rw[T];rfl,?_⟩;exact ((S.then h1 (λb hb=>.inr (by simp at hb;omega))).then1 I (by omega)).then H (λb hb=>.inr (by simp at hb;have:=S.size;omega))
 rintro D e pre W hD _ ⟨rfl,h1,h3,J⟩ ha _;have T:JU nms s=8:=by unfold JU;rw[if_neg Y,if_pos J]
 have hc:D≠G:=by omega
 refine ⟨λE hE=>by simp only[List.mem_singleton] at hE;subst hE;exact ha,by simp,[.int .i64 8],λW' H=>?_⟩;refine ⟨⟨⟨_,O,YB (At.one ((h3.step H (by simpa using hc.symm)).at (L:=[]) (by simp)))⟩,U⟩,by rw[T];rfl,?_⟩;exact (S.then h1 (λb hb=>.inr (by simp at hb;omega))).then H (λb hb=>.inr (by simp at hb;have:=S.size;omega))
end Go.Proofs.YtdffckgdcegpaaaGreatDoor
namespace Go.Lg
theorem Xz.pre3 {P:Program}{m:Nat}{ops:List Oper}{K:Fr→World→Prop}{o1 o2 o3:Oper}{l2:List Oper}{f:Fr}{w:World}(h:XL P ops (λf w=>Xz P m ops K l2 f w) [o1,o2,o3] f w):Xz P m ops K (o1::o2::o3::l2) f w:=Xz.pre [o1,o2,o3] f w h
end Go.Lg
namespace Go.Proofs.YtdffckgdcegpaaaGreatDoor
open Go.Proofs.Tryz
open Go.Lg
theorem QfF {L:LN}{w:World}{H I i m:Nat}{vs vx vk:Value}{qs:List XV}{nms:List ByteArray}(hp:QZ w.heap H 151 [vs,vx,vk]) (hr:QZ w.heap I 3 [.int .i64 i]) (hX:qy L w.heap vx qs) (hi:i≤qs.length) (hn:nms=(qs.take i).map (·.nm)) :
  SeqStopsK (fen none) m prog 168 [.pointer (some ⟨H,0,none⟩),.pointer (some ⟨I,0,none⟩)].toArray (λx:{ x:ByteArray // x∈nms }=>[Value.string x.1].toArray) (Lw w.heap.size L)
   (λE=>E.map (·.1)=nms) (λ_=>True) (nms.length+1) w:=by
 intro l J Jx W hs hJ ht hY h0;have hc:Step [] w W:=Step.of_below hs;have ab:∀{E:List { x:ByteArray // x∈nms }} {W1 W2:World},J E W1→Step [] W1 W2→J E W2:=λ{E W1 W2} hj S=>hJ E W1 W2 none hj ⟨S.os,S.tape,S.output,S.size,λk hk _=>S.block k hk (by simp)⟩ (λr e=>by cases e);have h9:=hX.arr.le;have hA:nms.length=i:=by rw[hn];simp;omega
 have key:QK prog 168 [.func (.yield l) #[] #[],.pointer (some ⟨H,0,none⟩),.pointer (some ⟨I,0,none⟩)] W (λ_ W'=>(∃E,E.map (·.1)=nms∧J E W')∨(∃pre,True∧Jx pre W')):=by
  refine QK.of_G m func168 O ntmps168 results168 (by simp) ?_;have hu:=hp.ext hc;have hv:=hr.ext hc;refine QX<|QJ (by rfl) (by rfl) ?_;refine x (Qa O)<|x (Qd hu O O)<|x (Qd hv O O)<|QgK hX.arr O O hi λv9 hl=>x (Qs hl O)<|Qb<|xe ?_;have hw:(qs.take i).length=i:=by simp;omega
  have hS:Zp L w.heap v9 (qs.take i).length 2 ((qs.take i).flatMap Zs):=by
   rw[hw,←Qb5 Zs 2 JC];exact hl
  refine ZH<|VT (α:=Nat×List { x:ByteArray // x∈nms }) [(5,5),(11,20)] (λz=>[(11,.int .i64 z.1)]) (λz ds W'=>ds=[]∧z.1≤i∧Step L w W'∧z.2.map (·.1)=nms.take z.1∧J z.2 W') (λz=>i - z.1) (by rfl) (0,[]) Z
   ⟨O,Lk _,hc.any,O,h0⟩ ?_
  rintro ⟨k,E⟩ g ds w1 ⟨rfl,hk,hm,T,hf⟩;simp only[] at hk T hf;refine QX<|QJ (by rfl) (by rfl) ?_;refine x (QA O O)<|xe<|QX<|zw O (λhg=>?_) (λhg=>?_)
  ·refine J0 ?_;have hB:i≤k:=by have Y:¬(k:Int)<(i:Int):=hg;omega
   rw[Lm (by omega)] at T;exact ⟨λ_ h=>(by cases h),My,[],λW' G=>⟨U,.inl ⟨E,T,ab hf G⟩⟩⟩
  refine Ye ?_;have hy:k<i:=by have Y:(k:Int)<(i:Int):=hg;omega
  have ha:k<(qs.take i).length:=by omega
  have hb:k<nms.length:=by omega
  have hh:nms.take (k+1)=nms.take k++[nms[k]'hb]:=Le hb;have hC:E.length=k:=by have:=congrArg List.length T;rw[Lc,Lv] at this;omega
  have hz:nms[k]'hb=((qs.take i)[k]'ha).nm:=by subst hn;simp
  have V:=Li hb;rw[hz] at hh V;refine QX<|ZH<|QX<|QJ (by rfl) (by rfl) ?_;refine xig JC (i:=k) (hS.st hm) O O ha λhD Y=>?_;refine Zd ((qs.take i)[k]'ha) λq hq=>?_;rw[hq] at Y hh V;have h2:=(hX.each q (LM (by rw[←hq];exact Li ha))).one
  refine x (QI Y O O)<|xl O<|Qt (us:=[.string .empty,nS]) O λb5 w2 h3 h4 h5=>xl O<|Qp (us:=Zs q) h5 O O O O ⟨O,h2,U⟩ λw3 h6 h7=>xe ?_;have ho:Step [] w1 w3:=h3.then1 h6 h4;refine QX<|Ka (by rfl) ?_;refine Xz.pre3 ?_;refine Qb<|x (Qa O)<|x (Qd h7 O O)<|xe ?_
  refine xy (l:=l) O (hY E ⟨q.nm,V⟩ w3 (ab hf ho) (by omega)) λen W3 h8=>Or.elim h8 (λh1=>⟨.bool true,h1.1,?_⟩) (λh1=>⟨.bool false,h1.1,?_⟩)
  ·refine Xz.of_XL<|x (Zr O)<|xe<|Kc O<|Ye ?_;refine QJ (by rfl) (by rfl) ?_;refine QP O O<|Qb<|xe ?_;exact ⟨(k+1,E++[⟨q.nm,V⟩]),by simp only[];omega,Z,O,hy,(hm.trans ho).lw h1.2.2,by rw[hh,Lt,T];rfl,h1.2.1⟩
  refine Xz.of_XL<|x (Zr O)<|xe<|yF O ?_;refine JZ ⟨λ_ h=>(by cases h),My,[],λW' G=>⟨U,.inr ⟨E++[⟨q.nm,V⟩],U,?_⟩⟩⟩;exact ht _ W3 W' none h1.2 ⟨G.os,G.tape,G.output,G.size,λk hk _=>G.block k hk (by simp)⟩ (λr e=>by cases e)
 refine (callsIn_wide (n:=m)).2 ?_;have ea:(#[.func (.yield l) #[] #[]]++[.pointer (some ⟨H,0,none⟩),.pointer (some ⟨I,0,none⟩)].toArray:Array Value)=[.func (.yield l) #[] #[],.pointer (some ⟨H,0,none⟩),.pointer (some ⟨I,0,none⟩)].toArray:=by simp
 rw[ea];unfold QK at key;refine Calls.mono key λe w' he=>?_;cases e with
 | returned v=>exact ⟨⟨v,O⟩,he⟩
 | panicked c=>exact he.elim
 | outgrown=>exact he.elim
theorem QfT {L:LN}{w:World}{H I i m:Nat}{vs vx vk:Value}{qs:List KV}{nms:List ByteArray}(hp:QZ w.heap H 151 [vs,vx,vk]) (hr:QZ w.heap I 3 [.int .i64 i]) (hX:qm L w.heap vk qs) (hi:i≤qs.length) (hn:nms=(qs.take i).map (·.nm)) :
  SeqStopsK (fen none) m prog 171 [.pointer (some ⟨H,0,none⟩),.pointer (some ⟨I,0,none⟩)].toArray (λx:{ x:ByteArray // x∈nms }=>[Value.string x.1].toArray) (Lw w.heap.size L)
   (λE=>E.map (·.1)=nms) (λ_=>True) (nms.length+1) w:=by
 intro l J Jx W hs hJ ht hY h0;have hc:Step [] w W:=Step.of_below hs;have ab:∀{E:List { x:ByteArray // x∈nms }} {W1 W2:World},J E W1→Step [] W1 W2→J E W2:=λ{E W1 W2} hj S=>hJ E W1 W2 none hj ⟨S.os,S.tape,S.output,S.size,λk hk _=>S.block k hk (by simp)⟩ (λr e=>by cases e);have h9:=hX.arr.le;have hA:nms.length=i:=by rw[hn];simp;omega
 have key:QK prog 171 [.func (.yield l) #[] #[],.pointer (some ⟨H,0,none⟩),.pointer (some ⟨I,0,none⟩)] W (λ_ W'=>(∃E,E.map (·.1)=nms∧J E W')∨(∃pre,True∧Jx pre W')):=by
  refine QK.of_G m func171 O ntmps171 results171 (by simp) ?_;have hu:=hp.ext hc;have hv:=hr.ext hc;refine QX<|QJ (by rfl) (by rfl) ?_;refine x (Qa O)<|x (Qd hu O O)<|x (Qd hv O O)<|QgK hX.arr O O hi λv9 hl=>x (Qs hl O)<|Qb<|xe ?_;have hw:(qs.take i).length=i:=by simp;omega
  have hS:Zp L w.heap v9 (qs.take i).length 3 ((qs.take i).flatMap Zx):=by
   rw[hw,←Qb5 Zx 3 Jk];exact hl
  refine ZH<|VT (α:=Nat×List { x:ByteArray // x∈nms }) [(5,5),(11,20)] (λz=>[(11,.int .i64 z.1)]) (λz ds W'=>ds=[]∧z.1≤i∧Step L w W'∧z.2.map (·.1)=nms.take z.1∧J z.2 W') (λz=>i - z.1) (by rfl) (0,[]) Z
   ⟨O,Lk _,hc.any,O,h0⟩ ?_
  rintro ⟨k,E⟩ g ds w1 ⟨rfl,hk,hm,T,hf⟩;simp only[] at hk T hf;refine QX<|QJ (by rfl) (by rfl) ?_;refine x (QA O O)<|xe<|QX<|zw O (λhg=>?_) (λhg=>?_)
  ·refine J0 ?_;have hB:i≤k:=by have Y:¬(k:Int)<(i:Int):=hg;omega
   rw[Lm (by omega)] at T;exact ⟨λ_ h=>(by cases h),My,[],λW' G=>⟨U,.inl ⟨E,T,ab hf G⟩⟩⟩
  refine Ye ?_;have hy:k<i:=by have Y:(k:Int)<(i:Int):=hg;omega
  have ha:k<(qs.take i).length:=by omega
  have hb:k<nms.length:=by omega
  have hh:nms.take (k+1)=nms.take k++[nms[k]'hb]:=Le hb;have hC:E.length=k:=by have:=congrArg List.length T;rw[Lc,Lv] at this;omega
  have hz:nms[k]'hb=((qs.take i)[k]'ha).nm:=by subst hn;simp
  have V:=Li hb;rw[hz] at hh V;refine QX<|ZH<|QX<|QJ (by rfl) (by rfl) ?_;refine xig Jk (i:=k) (hS.st hm) O O ha λhD Y=>?_;refine Zd ((qs.take i)[k]'ha) λq hq=>?_;rw[hq] at Y hh V;have h2:=(hX.each q (LM (by rw[←hq];exact Li ha))).one
  refine x (QI Y O O)<|xl O<|Qt (us:=[.string .empty,nS,.int .i64 0]) O λb5 w2 h3 h4 h5=>xl O<|Qp (us:=Zx q) h5 O O O O ⟨O,h2,O,U⟩ λw3 h6 h7=>xe ?_;have ho:Step [] w1 w3:=h3.then1 h6 h4;refine QX<|Ka (by rfl) ?_;refine Xz.pre3 ?_;refine Qb<|x (Qa O)<|x (Qd h7 O O)<|xe ?_
  refine xy (l:=l) O (hY E ⟨q.nm,V⟩ w3 (ab hf ho) (by omega)) λen W3 h8=>Or.elim h8 (λh1=>⟨.bool true,h1.1,?_⟩) (λh1=>⟨.bool false,h1.1,?_⟩)
  ·refine Xz.of_XL<|x (Zr O)<|xe<|Kc O<|Ye ?_;refine QJ (by rfl) (by rfl) ?_;refine QP O O<|Qb<|xe ?_;exact ⟨(k+1,E++[⟨q.nm,V⟩]),by simp only[];omega,Z,O,hy,(hm.trans ho).lw h1.2.2,by rw[hh,Lt,T];rfl,h1.2.1⟩
  refine Xz.of_XL<|x (Zr O)<|xe<|yF O ?_;refine JZ ⟨λ_ h=>(by cases h),My,[],λW' G=>⟨U,.inr ⟨E++[⟨q.nm,V⟩],U,?_⟩⟩⟩;exact ht _ W3 W' none h1.2 ⟨G.os,G.tape,G.output,G.size,λk hk _=>G.block k hk (by simp)⟩ (λr e=>by cases e)
 refine (callsIn_wide (n:=m)).2 ?_;have ea:(#[.func (.yield l) #[] #[]]++[.pointer (some ⟨H,0,none⟩),.pointer (some ⟨I,0,none⟩)].toArray:Array Value)=[.func (.yield l) #[] #[],.pointer (some ⟨H,0,none⟩),.pointer (some ⟨I,0,none⟩)].toArray:=by simp
 rw[ea];unfold QK at key;refine Calls.mono key λe w' he=>?_;cases e with
 | returned v=>exact ⟨⟨v,O⟩,he⟩
 | panicked c=>exact he.elim
 | outgrown=>exact he.elim
set_option maxHeartbeats 4000000 in
theorem U3 {w:World}{vs vx vk:Value}{sz:LI}{qx:List XV}{ks:List KV}(hS:QL [] w.heap vs sz) (hX:qy [] w.heap vx qx) (hK:qm [] w.heap vk ks) :
  QK prog 97 [.agg #[vs,vx,vk]] w λr w'=>r=.int .i64 (Yu sz (qx.map (·.x)) (ks.map (·.k)))∧Step [] w w':=by
 have hY:=hS.le;have hZ:=hX.arr.le;have ga:=hK.arr.le;refine QK.of_W func97 O ntmps97 results97 (by simp) ?_;refine Qc<|xl O<|QS (us:=[vs,vx,vk]) O λb1 w1 G gb V=>Qe<|Qf<|Qc<|x (Qa O)<|x (Qd V O O)<|x (Qs (hS.ext G) O)<|x (ZO O O)<|xe<|Q6 rfl (λh1=>?_) (λh1=>?_)
 ·refine Qc<|Qe ?_;exact Qn ⟨[_],Z,by unfold Yu;rw[if_pos (by have hP:(8:Int)<(sz.length:Int):=h1;omega)];rfl,G⟩
 have hz:¬8<sz.length:=by have hP:¬(8:Int)<(sz.length:Int):=h1;omega
 refine Qi<|Qf<|Qc<|x (Qa O)<|x (Qd V O O)<|x (Qs (hS.ext G) O)<|Qb<|xe<|Qh<|QB (α:=Nat) [(2,2),(4,4),(22,32)] (λz=>[(22,.int .i64 z)]) (λz w'=>z≤sz.length∧w'=w1∧(sz.drop z).any Jw=sz.any Jw) (λz=>sz.length - z) (by rfl) 0 Z
  ⟨Lk _,O,O⟩ ?_
 rintro k g w2 ⟨hk,rfl,hc⟩;refine Qc<|x (QA O O)<|xe<|Qf<|QG O (λh2=>?_) (λh2=>?_)
 ·refine Qz ?_;have hl:sz.length≤k:=by have h0:¬(k:Int)<(sz.length:Int):=h2;omega
  rw[Lq hl] at hc;have h3:¬sz.any Jw=true:=by rw[←hc];decide
  refine Qf<|QU (α:=Bool) [(33,42)] (λz=>[(42,.bool z)]) (λz w'=>w'=w2∧z=decide (32<qx.length∨32<ks.length)) (by rfl) ?_ ?_
  ·refine Qy<|x (Qa O)<|x (Qd V O O)<|x (Qs (hX.ext G).arr O)<|xb (ZO O O) (λhQ=>?_) (λhQ=>?_)
   ·refine Qb<|xs O<|xs O<|xs O<|xs O<|x (Qm O)<|xe ?_;exact ⟨_,Z,O,by first | exact bT (by omega) | exact bF (by omega) | exact bD (by omega)⟩
   refine Qb<|x (Qa O)<|x (Qd V O O)<|x (Qs (hK.ext G).arr O)<|x (ZO O O)<|x (Qm O)<|xe ?_;exact ⟨_,Z,O,by first | exact bT (by omega) | exact bF (by omega) | exact bD (by omega)⟩
  rintro z g Y ⟨rfl,rfl⟩;refine Q6 O (λh4=>?_) (λh4=>?_)
  ·refine Qc<|Qe ?_;exact Qn ⟨[_],Z,by unfold Yu;rw[if_neg hz,if_neg h3,if_pos (by simpa using h4)];rfl,G⟩
  have hM:¬(32<(qx.map (·.x)).length∨32<(ks.map (·.k)).length):=by simpa using h4
  have hN:Yc sz [] (qx.map (·.x))≠0→Yu sz (qx.map (·.x)) (ks.map (·.k))=Yc sz [] (qx.map (·.x)):=λh=>by
   unfold Yu;rw[if_neg hz,if_neg h3,if_neg hM,if_pos h]
  have hR:Yc sz [] (qx.map (·.x))=0→Yu sz (qx.map (·.x)) (ks.map (·.k))=YF sz [] (ks.map (·.k)):=λh=>by
   unfold Yu;rw[if_neg hz,if_neg h3,if_neg hM,if_neg (by rw[h];exact λh=>h O)]
  refine Qi<|Qf<|Qc<|x (Qa O)<|x (Qd (V.ext (Step.refl [] Y)) O O)<|x (Qs ((hX.ext G).ext (Step.refl [] Y)).arr O)<|Qb<|xe<|Qh<|QB (α:=Nat) [(2,2),(5,9),(46,65)] (λz=>[(46,.int .i64 z)]) (λz w'=>z≤qx.length∧Step [] Y w'∧Yc sz ((qx.take z).map (·.nm)) ((qx.drop z).map (·.x))=Yc sz [] (qx.map (·.x))) (λz=>qx.length - z) (by rfl) 0 Z
   ⟨Lk _,(Step.refl [] Y),O⟩ ?_
  rintro k g wA ⟨hk,H,I⟩;refine Qc<|x (QA O O)<|xe<|Qf<|QG O (λhe=>?_) (λhe=>?_)
  ·refine Qz ?_;have hl:qx.length≤k:=by have h5:¬(k:Int)<(qx.length:Int):=he;omega
   rw[Lq hl] at I;have hT:Yc sz [] (qx.map (·.x))=0:=I.symm;have h6:=hR hT;refine Qf<|Qc<|x (Qa O)<|x (Qd (V.ext H) O O)<|x (Qs ((hK.ext G).ext H).arr O)<|Qb<|xe ?_
   refine Qh<|QB (α:=Nat) [(2,2),(10,14),(69,88)] (λz=>[(69,.int .i64 z)]) (λz w'=>z≤ks.length∧Step [] Y w'∧YF sz ((ks.take z).map (·.nm)) ((ks.drop z).map (·.k))=YF sz [] (ks.map (·.k))) (λz=>ks.length - z) (by rfl) 0 Z
    ⟨Lk _,H,O⟩ ?_
   rintro k g wA ⟨hk,H,I⟩;refine Qc<|x (QA O O)<|xe<|Qf<|QG O (λhe=>?_) (λhe=>?_)
   ·refine Qz ?_;have hl:ks.length≤k:=by have h5:¬(k:Int)<(ks.length:Int):=he;omega
    rw[Lq hl] at I;have hU:YF sz [] (ks.map (·.k))=0:=I.symm;refine Qc<|Qe ?_;exact Qn ⟨[_],Z,by rw[h6,hU];rfl,G.trans H⟩
   have E:k<ks.length:=by have h5:(k:Int)<(ks.length:Int):=he;omega
   have hm:(ks.take (k+1)).map (·.nm)=(ks.take k).map (·.nm)++[(ks[k]'E).nm]:=by rw[Le E,Lt];rfl
   rw[QY E,LO] at I;have hf:=Li E;have J:=(hK.ext G).ext H;have h7:=V.ext H;refine Qi<|Qf<|Qh<|Qc<|Qb<|xig Jk J.arr O O E λaA hA=>?_;refine Zd (ks[k]'E) λq hq=>?_;rw[hq] at hA I hm hf;have ho:=J.each q hf
   refine x (QI hA O O)<|xl O<|Qt (us:=[.int .i64 0]) O λb5 Y hp h8 hg=>xl O<|Qt (us:=[.string .empty,nS,.int .i64 0]) O λb6 w4 hr hV h9 =>
    xl rfl<|QE (j:=0) (u:=.int .i64 k) (hg.ext hr) O O (by decide) O λw5 hs hB=>xl O<|Qp (us:=Zx q) (h9.step hs (by have:=hg.lt;simp;omega)) O O O O ⟨O,ho.one,O,U⟩ λw6 ht hu=>xe ?_
   have hW:b5<b6:=by have:=hg.lt;omega
   have hh:Step [] wA w6:=((hp.trans hr).then1 hs h8).then1 ht (by have:=hp.size;omega);have hC:QZ w6.heap b5 3 [.int .i64 k]:=hB.step ht (by simp;omega);have hv:=h7.ext hh;have hD:=J.ext hh
   refine Qc<|x Zo<|Qe<|Qf<|Qc<|x (Qa O)<|x (Qd hu O O)<|Qb<|xl O<|xf<|(QbO (nms:=(ks.take k).map (·.nm)) (capt:=[.pointer (some ⟨b1,0,none⟩),.pointer (some ⟨b5,0,none⟩)]) (J.nm q hf) (λw' L hi hL=>QfT (hv.ext hi) (hC.ext hi) ((hD.up (λb hb=>.inr (hL b hb))).ext hi) hk O)).mono ?_;rintro r7 w7 ⟨rfl,hj⟩;refine Qe ?_;have S:=hh.trans hj;refine Qc<|Qb<|x (Q9 O O)<|xe ?_
   refine Q6 O (λha=>?_) (λha=>?_)
   ·have e1:YF sz [] (ks.map (·.k))=JU ((ks.take k).map (·.nm)) q.nm:=by rw[←I];exact if_pos ha
    refine Qc<|Qb<|Qe ?_;exact Qn ⟨[_],Z,by rw[h6,e1];rfl,G.trans (H.trans S)⟩
   have hw:(if YL sz q.k≠0 then YL sz q.k else YF sz ((ks.take k).map (·.nm)++[q.nm]) ((ks.drop (k+1)).map (·.k)))=YF sz [] (ks.map (·.k)):=by rw[←I];exact (if_neg ha).symm
   refine Qi ?_;have hE:=hv.ext hj;have hF:=hu.ext hj;refine Qc<|x (Qr hE O O)<|x (Qr hF O O)<|xl O<|xf<|(Ky (((hS.ext G).ext H).ext S) (ho.ext S)).mono ?_;rintro r8 w8 ⟨rfl,hG⟩;refine Qe ?_;have hy:=S.trans hG;refine Qc<|Qb<|x (Q9 O O)<|xe<|Q6 O (λT=>?_) (λT=>?_)
   ·have e1:YF sz [] (ks.map (·.k))=YL sz q.k:=by rw[←hw];exact if_pos T
    have hO:YL sz q.k≠0:=T;refine Qc<|Qb<|Qe ?_;exact Qn ⟨[_],Z,by rw[h6,e1];rfl,G.trans (H.trans hy)⟩
   have hH:YF sz ((ks.take k).map (·.nm)++[q.nm]) ((ks.drop (k+1)).map (·.k))=YF sz [] (ks.map (·.k)):=by rw[←hw];exact (if_neg T).symm
   refine Qi<|Qy<|QP O O<|Qb<|xe ?_;exact ⟨k+1,by omega,Z,E,H.trans hy,by rw[hm];exact hH⟩
  have E:k<qx.length:=by have h5:(k:Int)<(qx.length:Int):=he;omega
  have hm:(qx.take (k+1)).map (·.nm)=(qx.take k).map (·.nm)++[(qx[k]'E).nm]:=by rw[Le E,Lt];rfl
  rw[QY E,LO] at I;have hf:=Li E;have J:=(hX.ext G).ext H;have h7:=V.ext H;refine Qi<|Qf<|Qh<|Qc<|Qb<|xig JC J.arr O O E λaA hA=>?_;refine Zd (qx[k]'E) λq hq=>?_;rw[hq] at hA I hm hf;have ho:=J.each q hf;refine x (QI hA O O)<|xl O<|Qt (us:=[.int .i64 0]) O λb5 Y hp h8 hg=>xl O<|Qt (us:=[.string .empty,nS]) O λb6 w4 hr hV h9 =>
   xl rfl<|QE (j:=0) (u:=.int .i64 k) (hg.ext hr) O O (by decide) O λw5 hs hB=>xl O<|Qp (us:=Zs q) (h9.step hs (by have:=hg.lt;simp;omega)) O O O O ⟨O,ho.one,U⟩ λw6 ht hu=>xe ?_
  have hW:b5<b6:=by have:=hg.lt;omega
  have hh:Step [] wA w6:=((hp.trans hr).then1 hs h8).then1 ht (by have:=hp.size;omega);have hC:QZ w6.heap b5 3 [.int .i64 k]:=hB.step ht (by simp;omega);have hv:=h7.ext hh;have hD:=J.ext hh
  refine Qc<|x Zo<|Qe<|Qf<|Qc<|x (Qa O)<|x (Qd hu O O)<|Qb<|xl O<|xf<|(QbO (nms:=(qx.take k).map (·.nm)) (capt:=[.pointer (some ⟨b1,0,none⟩),.pointer (some ⟨b5,0,none⟩)]) (J.nm q hf) (λw' L hi hL=>QfF (hv.ext hi) (hC.ext hi) ((hD.up (λb hb=>.inr (hL b hb))).ext hi) hk O)).mono ?_;rintro r7 w7 ⟨rfl,hj⟩;refine Qe ?_;have S:=hh.trans hj;refine Qc<|Qb<|x (Q9 O O)<|xe ?_
  refine Q6 O (λha=>?_) (λha=>?_)
  ·have e1:Yc sz [] (qx.map (·.x))=JU ((qx.take k).map (·.nm)) q.nm:=by rw[←I];exact if_pos ha
   refine Qc<|Qb<|Qe ?_;exact Qn ⟨[_],Z,by rw[hN (by rw[e1];exact ha),e1];rfl,G.trans (H.trans S)⟩
  have hw:(if XR sz q.ls≠0 then XR sz q.ls else Yc sz ((qx.take k).map (·.nm)++[q.nm]) ((qx.drop (k+1)).map (·.x)))=Yc sz [] (qx.map (·.x)):=by rw[←I];exact (if_neg ha).symm
  refine Qi ?_;have hE:=hv.ext hj;have hF:=hu.ext hj;refine Qc<|x (Qr hE O O)<|x (Qr hF O O)<|xl O<|xf<|(Vj (((hS.ext G).ext H).ext S) (ho.ext S)).mono ?_;rintro r8 w8 ⟨rfl,hG⟩;refine Qe ?_;have hy:=S.trans hG;refine Qc<|Qb<|x (Q9 O O)<|xe<|Q6 O (λT=>?_) (λT=>?_)
  ·have e1:Yc sz [] (qx.map (·.x))=XR sz q.ls:=by rw[←hw];exact if_pos T
   have hO:XR sz q.ls≠0:=T;refine Qc<|Qb<|Qe ?_;exact Qn ⟨[_],Z,by rw[hN (by rw[e1];exact hO),e1];rfl,G.trans (H.trans hy)⟩
  have hH:Yc sz ((qx.take k).map (·.nm)++[q.nm]) ((qx.drop (k+1)).map (·.x))=Yc sz [] (qx.map (·.x)):=by rw[←hw];exact (if_neg T).symm
  refine Qi<|Qy<|QP O O<|Qb<|xe ?_;exact ⟨k+1,by omega,Z,E,H.trans hy,by rw[hm];exact hH⟩
 have E:k<sz.length:=by have h0:(k:Int)<(sz.length:Int):=h2;omega
 rw[QY E,List.any_cons] at hc;refine Qi<|Qf<|Qh<|Qc<|xii (hS.ext G) O O E λgc h0=>?_;refine Zd (sz[k]'E) λn hn=>?_;rw[hn] at h0 hc;refine x (Qx h0 O)<|Qe<|QU (α:=Bool) [(26,31)] (λz=>[(31,.bool z)]) (λz w'=>w'=w2∧z=Jw n) (by rfl) ?_ ?_
 ·refine Qy<|Qb<|xb (QA O O) (λhI=>?_) (λhI=>?_)
  ·refine Qb<|xs O<|xs O<|x (Qm O)<|xe ?_;exact ⟨_,Z,O,by unfold Jw;rw[decide_eq_true hI];rfl⟩
  refine Qb<|Qb<|x (ZO O O)<|x (Qm O)<|xe ?_;exact ⟨_,Z,O,by unfold Jw;rw[decide_eq_false hI];rfl⟩
 rintro z g Y ⟨rfl,rfl⟩;refine Q3 rfl (λhJ=>?_) (λhJ=>?_)
 ·refine Qc<|Qe ?_;exact Qn ⟨[_],Z,by unfold Yu;rw[if_neg hz,if_pos (by rw[←hc,hJ];rfl)];rfl,G⟩
 rw[hJ,Bool.false_or] at hc;refine Qi<|Qy<|QP O O<|Qb<|xe ?_;exact ⟨k+1,by omega,Z,E,O,hc⟩
theorem ZQ {α:Type}(q:α→Bool) (i:Nat) (a:α) (l:List α):fix q i (a::l)=if q a=true then (i:Int) else fix q (i+1) l:=rfl
theorem QaT {α:Type}(q:α→Bool):∀(l:List α) (i:Nat),fix q i l=-1∨((i:Int)≤fix q i l∧fix q i l<(i:Int)+l.length)
 | [],i=>.inl O
 | a::l,i=>by
  rw[ZQ];split
  ·right;simp only[List.length_cons];omega
  rcases QaT q l (i+1) with h | h
  ·exact .inl h
  right;simp only[List.length_cons];omega
theorem yr {α:Type}(q:α→Bool):∀(l:List α) (i:Nat),decide (0≤fix q i l)=l.any q
 | [],i=>rfl
 | a::l,i=>by
  rw[ZQ,List.any_cons];cases h:q a with
  | true=>rw[if_pos rfl];simp
  | false=>rw[if_neg (by decide),yr q l (i+1)];rfl
theorem U0 {α:Type}(q:α→Bool) (m:List α):∀(l:List α) (i:Nat),fix q i (l++m)=if 0≤fix q i l then fix q i l else fix q (i+l.length) m
 | [],i=>by
  show fix q i m=if (0:Int)≤-1 then (-1) else fix q i m
  rw[if_neg (by decide)]
 | a::l,i=>by
  rw[Ma,ZQ,ZQ];by_cases h:q a=true
  ·rw[if_pos h,if_pos h,if_pos (by omega)]
  rw[if_neg h,if_neg h,U0 q m l (i+1),LG];rw[show i+1+l.length=i+(l.length+1) by omega]
theorem zh {α:Type}(q:α→Bool) (d:Nat):∀(l:List α) (i:Nat),fix q (i+d) l=if 0≤fix q i l then fix q i l+d else -1
 | [],i=>rfl
 | a::l,i=>by
  rw[ZQ,ZQ];by_cases h:q a=true
  ·rw[if_pos h,if_pos h,if_pos (by omega)];omega
  rw[if_neg h,if_neg h,show i+d+1=(i+1)+d by omega,zh q d l (i+1)]
theorem J5 {α β:Type}(q:β→Bool) (g:α→β):∀(l:List α) (i:Nat),fix q i (l.map g)=fix (λa=>q (g a)) i l
 | [],i=>rfl
 | a::l,i=>by rw[LO,ZQ,ZQ,J5 q g l (i+1)]
theorem Qc9 {α:Type}{q q':α→Bool}:∀{l:List α}{i:Nat},(∀a∈l,q a=q' a)→fix q i l=fix q' i l
 | [],i,_=>rfl
 | a::l,i,h=>by rw[ZQ,ZQ,h a Ln,Qc9 (λb hb=>h b (Ll _ hb))]
theorem Qjv {gp:Nat}{fn:Func}[Fu prog gp fn] {cap:LV}{q:(Int×Int)→Bool}{L:LN}{w:World}{v:Value}{l:List (Int×Int)}(h:Zp L w.heap v l.length 2 (l.flatMap QO))
  (hk:∀e∈l,∀(G:World),Step [] w G→QK prog gp ([.agg (QO e).toArray]++cap) G λr w'=>r=.bool (q e)∧Step [] G w') :
  QK prog 287 [v,.func (.func gp) #[] cap.toArray] w λr w'=>r=.int .i64 (fix q 0 l)∧Step [] w w':=by
 have hb:=h.le;refine QK.of_W func287 O ntmps287 results287 (by simp) ?_;refine Qc<|Qe<|Qf<|Qc<|Qb<|x (Qs h O)<|Qb<|xe<|Qh<|QB (α:=Nat) [(4,5),(8,18)] (λz=>[(8,.int .i64 z)]) (λz w'=>z≤l.length∧Step [] w w'∧fix q z (l.drop z)=fix q 0 l) (λz=>l.length - z) (by rfl) 0 Z
  ⟨Lk _,Step.refl _ _,O⟩ ?_
 rintro k g G ⟨hc,H,E⟩;refine Qc<|x (QA O O)<|xe<|Qf<|QG O (λh9=>?_) (λh9=>?_)
 ·refine Qz ?_;have Y:l.length≤k:=by have ha:¬(k:Int)<(l.length:Int):=h9;omega
  rw[Lq Y] at E;refine Qc<|Qe ?_;exact Qn ⟨[_],Z,by rw[←E];rfl,H⟩
 have I:k<l.length:=by have ha:(k:Int)<(l.length:Int):=h9;omega
 rw[QY I,ZQ] at E;have S:=Li I;refine Qi<|Qf<|Qh<|Qc<|Qb<|Qe<|Qc<|Qb<|Qb<|Qb<|xig YK (h.ext H) O O I λhf T=>?_;refine Zd (l[k]'I) λe he=>?_;rw[he] at T E S;refine x (QI T O O)<|xl O<|xc (first:=[]) (capt:=cap) O<|(hk e S G H).mono ?_;rintro r2 w2 ⟨rfl,V⟩;refine xe<|Q3 rfl (λJ=>?_) (λJ=>?_)
 ·rw[if_pos J] at E;refine Qc<|Qb<|Qe ?_;exact Qn ⟨[_],Z,by rw[←E];rfl,H.trans V⟩
 rw[if_neg (by rw[J];decide)] at E;refine Qi<|Qy<|QP O O<|Qb<|xe ?_;exact ⟨k+1,by omega,Z,I,H.trans V,E⟩
theorem QjT {gp:Nat}{fn:Func}[Fu prog gp fn] {cap:LV}{q:(Int×Int)→Bool}{L:LN}{w:World}{v:Value}{l:List (Int×Int)}(h:Zp L w.heap v l.length 2 (l.flatMap QO))
  (hk:∀e∈l,∀(E:World),Step [] w E→QK prog gp ([.agg (QO e).toArray]++cap) E λr w'=>r=.bool (q e)∧Step [] E w') :
  QK prog 260 [v,.func (.func gp) #[] cap.toArray] w λr w'=>r=.bool (l.any q)∧Step [] w w':=by
 refine QK.of_W func260 O ntmps260 results260 (by simp) ?_;refine Qc<|Qe<|Qc<|Qb<|Qb<|xl O<|xf<|(Qjv h hk).mono ?_;rintro H E ⟨rfl,G⟩;refine x (ZU O O)<|Qe ?_;exact Qn ⟨[_],Z,congrArg Value.bool (yr q l 0),G⟩
theorem Kw (sz:LI):∀(ls:List (Int×Int)) (pr:Option Int),YP sz pr ls=0→(∀p∈ls,0≤p.1∧p.1<(sz.length:Int))∧Yg (ls.map (·.1))∧∀y,pr=some y→∀p∈ls,y<p.1
 | [],pr,_=>⟨λp hp=>(by cases hp),List.Pairwise.nil,λy _ p hp=>(by cases hp)⟩
 | l::ls,pr,h=>by
  unfold YP at h;split at h
  ·cases h
  rename_i h1;split at h
  ·cases h
  rename_i h2;split at h
  ·cases h
  obtain ⟨G,h5,H⟩:=Kw sz ls (some l.1) h;have E:=H l.1 O;refine ⟨λp hp=>?_,LU.2 ⟨λx hx=>?_,h5⟩,λy hy p hp=>?_⟩
  ·rcases Lb.1 hp with rfl | hp
   ·omega
   exact G p hp
  ·obtain ⟨p,hp,rfl⟩:=Lx.1 hx;exact E p hp
  subst hy;have I:¬l.1≤y:=λe=>h2 (decide_eq_true e);rcases Lb.1 hp with rfl | hp
  ·omega
  have:=E p hp;omega
theorem Kv (sz:LI):∀(ls:List (Int×Int)) (pr:Option Int),Xs sz pr ls=0→(∀p∈ls,0≤p.1∧p.1<(sz.length:Int)∧-65536≤p.2∧p.2≤65536)∧Yg (ls.map (·.1))∧∀y,pr=some y→∀p∈ls,y<p.1
 | [],pr,_=>⟨λp hp=>(by cases hp),List.Pairwise.nil,λy _ p hp=>(by cases hp)⟩
 | l::ls,pr,h=>by
  unfold Xs at h;split at h
  ·cases h
  rename_i h1;split at h
  ·cases h
  rename_i h2;split at h
  ·cases h
  rename_i h3;obtain ⟨G,h5,H⟩:=Kv sz ls (some l.1) h;have E:=H l.1 O;have h9:grt l.2=false:=by cases I:grt l.2 with | true=>exact absurd (.inr I) h3 | false=>rfl
  unfold grt at h9;simp only[Bool.or_eq_false_iff,decide_eq_false_iff_not] at h9;refine ⟨λp hp=>?_,LU.2 ⟨λx hx=>?_,h5⟩,λy hy p hp=>?_⟩
  ·rcases Lb.1 hp with rfl | hp
   ·omega
   exact G p hp
  ·obtain ⟨p,hp,rfl⟩:=Lx.1 hx;exact E p hp
  subst hy;have J:¬l.1≤y:=λe=>h2 (decide_eq_true e);rcases Lb.1 hp with rfl | hp
  ·omega
  have:=E p hp;omega
theorem VY (sz:LI):∀(l:List Exc) (sn:List ByteArray),Yc sz sn l=0→∀x∈l,XR sz x.ls=0
 | [],_,_,x,hx=>by cases hx
 | a::l,sn,h,x,hx=>by
  unfold Yc at h;split at h
  ·rename_i h1;exact absurd h h1
  split at h
  ·rename_i h1;exact absurd h h1
  rename_i h1;rcases Lb.1 hx with rfl | hx
  ·exact Ls.1 h1
  exact VY sz l _ h x hx
theorem V0 (sz:LI):∀(l:List Xv) (sn:List ByteArray),YF sz sn l=0→∀x∈l,YL sz x=0
 | [],_,_,x,hx=>by cases hx
 | a::l,sn,h,x,hx=>by
  unfold YF at h;split at h
  ·rename_i h1;exact absurd h h1
  split at h
  ·rename_i h1;exact absurd h h1
  rename_i h1;rcases Lb.1 hx with rfl | hx
  ·exact Ls.1 h1
  exact V0 sz l _ h x hx
structure QlP (sz:LI) (ex:List Exc) (cs:List Xv):Prop where
 s8:sz.length≤8
 s:∀n∈sz,1≤n∧n≤4096
 xl:ex.length≤32
 kl:cs.length≤32
 x:∀e∈ex,∀p∈e.ls,0≤p.1∧p.1<(sz.length:Int)
 k:∀e∈cs,(∀p∈e.ts,0≤p.1∧p.1<(sz.length:Int)∧-65536≤p.2∧p.2≤65536)∧e.ts.length≤8
theorem V1 {sz:LI}{ex:List Exc}{cs:List Xv}(h:Yu sz ex cs=0):QlP sz ex cs:=by
 unfold Yu at h;split at h
 ·cases h
 rename_i I;split at h
 ·cases h
 rename_i hs;split at h
 ·cases h
 rename_i J;split at h
 ·rename_i hx;exact absurd h hx
 rename_i hx;have E:=Ls.1 hx;refine ⟨by omega,λn G=>?_,by omega,by omega,λe he p hp=>?_,λe he=>?_⟩
 ·have h1:Jw n=false:=by
   cases hb:Jw n with
   | false=>rfl
   | true=>exact absurd (Mz.2 ⟨n,G,hb⟩) hs
  unfold Jw at h1;simp only[Bool.or_eq_false_iff,decide_eq_false_iff_not] at h1;omega
 ·have h1:=VY sz ex [] E e he;unfold XR at h1;split at h1
  ·cases h1
  exact (Kw sz e.ls none h1).1 p hp
 have h1:=V0 sz cs [] h e he;unfold YL at h1;split at h1
 ·cases h1
 split at h1
 ·rename_i h2;exact absurd h1 h2
 rename_i h2;obtain ⟨h3,H,_⟩:=Kv sz e.ts none (Ls.1 h2);refine ⟨h3,?_⟩;have:=Go.Proofs.YtdffckgdcegpaaaGreatDoor.pig sz.length (e.ts.map (·.1)) (List.Pairwise.imp (λ{a b} (h:a<b)=>(by omega:a≠b)) H) (λx hx=>by
  obtain ⟨p,hp,rfl⟩:=Lx.1 hx;exact ⟨(h3 p hp).1,(h3 p hp).2.1⟩)
 rw[Lc] at this;omega
def Qik (sz t:LI):Prop:=t.length=sz.length∧∀i,i<t.length→0≤cget t i∧cget t i<cget sz i
theorem QcB (t:LI) (p:Int×Int) (l:List (Int×Int)) (s:Int):(l++[p]).foldl (λs p=>s+p.2*t.getD p.1.toNat 0) s=l.foldl (λs p=>s+p.2*t.getD p.1.toNat 0) s+p.2*cget t p.1.toNat:=by
 rw[Mk];rfl
theorem QdK {w:World}{vl vt:Value}{nm:ByteArray}{ts:List (Int×Int)}{bd:Int}{t:LI}(hl:P2s [] w.heap vl ts) (ht:QL [] w.heap vt t)
  (hg:∀p∈ts,0≤p.1∧p.1<(t.length:Int)∧-65536≤p.2∧p.2≤65536) (h8:ts.length≤8) (hh:∀i,i<t.length→0≤cget t i∧cget t i≤4096) :
  QK prog 263 [.agg #[.string nm,vl,.int .i64 bd],vt] w λr w'=>r=.int .i64 (Qkt t ⟨nm,ts,bd⟩)∧Step [] w w':=by
 refine QK.of_W func263 O ntmps263 results263 (by simp) ?_;refine Qc<|xl O<|QS (us:=[.string nm,vl,.int .i64 bd]) O λb2 w1 V hv hi=>Qe<|Qc<|Qe<|Qf<|Qc<|x (Qa O)<|x (Qd hi O O)<|x (Qs (hl.ext V) O)<|Qb<|xe ?_
 refine Qh<|QB (α:=Nat×Int) [(5,5),(7,7),(11,25)] (λz=>[(5,.int .i64 z.2),(11,.int .i64 z.1)]) (λz w'=>z.1≤ts.length∧Step [] w w'∧z.2=(ts.take z.1).foldl (λs p=>s+p.2*t.getD p.1.toNat 0) 0∧-(268435456*(z.1:Int))≤z.2∧z.2≤268435456*(z.1:Int)) (λz=>ts.length - z.1) (by rfl) (0,0) ⟨O,O,U⟩
  ⟨Lk _,V,O,by simp only[];omega,by simp only[];omega⟩ ?_
 rintro ⟨k,s⟩ g w2 ⟨hk,J,G,hj,hm⟩;simp only[] at hk G hj hm;refine Qc<|x (QA O O)<|xe<|Qf<|QG O (λS=>?_) (λS=>?_)
 ·refine Qz ?_;have hn:ts.length≤k:=by have H:¬(k:Int)<(ts.length:Int):=S;omega
  rw[Lm hn] at G;refine Qc<|Qb<|Qe ?_;exact Qn ⟨[_],Z,by rw[G];rfl,J⟩
 have E:k<ts.length:=by have H:(k:Int)<(ts.length:Int):=S;omega
 have T:=hg _ (Li E);have Y:ts.take (k+1)=ts.take k++[ts[k]'E]:=Le E;refine Qi<|Qf<|Qh<|Qc<|xig YK (hl.ext J) O O E λhw H=>?_;refine Zd (ts[k]'E) λe he=>?_;rw[he] at H T Y;refine x (QI H O O)<|xl O<|Qt (us:=[.int .i64 0,.int .i64 0]) O λb7 w3 ho hp I=>xl O<|Qp (us:=QO e) I O O O O ⟨O,O,U⟩ λw4 hq I=>xe ?_
 have hr:Step [] w2 w4:=ho.then1 hq hp;have ha:=J.trans hr;have hs:e.1=((e.1.toNat:Nat):Int):=by omega
 have hb:e.1.toNat<t.length:=by omega
 have hf:=hh _ hb;have hy:-268435456≤e.2*cget t e.1.toNat∧e.2*cget t e.1.toNat≤268435456:=by
  have h1:(-65536)*cget t e.1.toNat≤e.2*cget t e.1.toNat:=Int.mul_le_mul_of_nonneg_right T.2.2.1 hf.1;have h2:e.2*cget t e.1.toNat≤65536*cget t e.1.toNat:=Int.mul_le_mul_of_nonneg_right T.2.2.2 hf.1;omega
 refine Zd (e.2*cget t e.1.toNat) λpr hz=>?_;refine QW (Step [] w4) [(0,true),(1,true),(2,true),(3,true),(4,true),(5,true),(6,true),(7,true),(8,true),(9,true),(10,true)] mixed (by rfl) (by kernel_rfl) (Step.drew _ _) ?_;refine p (λ_=>Qo)<|p (λ_=>Qa O)<|pq (λ_ hc=>Qd (I.ext hc) O O)<|p (λ_=>Qo)<|p (λ_=>Qa O) <|
  pq (λ_ hc=>Qd (I.ext hc) O O)<|pic (i:=e.1.toNat) O (ht.ext ha) O (congrArg (Value.int .i64) hs) hb λh0 hu=>pq (λ_ hc=>Qx (hu.ext hc) O) <|
  p (λ_=>Qer O O ⟨by omega,by omega⟩)<|p (λ_=>X2 O O ⟨by omega,by omega⟩)<|p (λ_=>Qg)<|pe ?_
 refine Qy<|QP O O<|Qb<|xe<|⟨(k+1,s+e.2*cget t e.1.toNat),by simp only[];omega,⟨O,O,U⟩,E,ha.trans (Step.drew _ _),?_,by simp only[];omega,by simp only[];omega⟩;simp only[];rw[Y,QcB,←G]
theorem QfE {w:World}{bt:Nat}{vt:Value}{t:LI}(H:QZ w.heap bt 37 [vt]) (I:QL [] w.heap vt t) (e:Int×Int) (he:0≤e.1∧e.1<(t.length:Int)) :
  QK prog 261 ([.agg (QO e).toArray]++[.pointer (some ⟨bt,0,none⟩)]) w λr w'=>r=.bool (!decide (t.getD e.1.toNat 0=e.2))∧Step [] w w':=by
 refine QK.of_W func261 O ntmps261 results261 (by simp) ?_;refine Qc<|xl O<|QS (us:=QO e) O λY J E ha G=>Qe ?_;have S:e.1=((e.1.toNat:Nat):Int):=by omega
 have T:e.1.toNat<t.length:=by omega
 refine Qf<|QW (Step [] J) [(0,true),(1,true),(2,true),(3,true),(4,true),(5,true),(6,true),(7,true),(8,true)] mixed (by rfl) (by kernel_rfl) (Step.drew _ _) ?_;refine pq (λ_ hc=>Qd ((H.ext E).ext hc) O O)<|p (λ_=>Qa O)<|pq (λ_ hc=>Qd (G.ext hc) O O)<|pic (i:=e.1.toNat) O (I.ext E) O (congrArg (Value.int .i64) S) T λa7 V =>
  pq (λ_ hc=>Qx (V.ext hc) O)<|p (λ_=>Qa O)<|pq (λ_ hc=>Qd (G.ext hc) O O)<|p (λ_=>Q9 O O) <|
  p (λ_=>Qg)<|pe ?_
 refine Qn ⟨[_],Z,?_,E.trans (Step.drew _ _)⟩;show Value.bool (decide (¬cget t e.1.toNat=e.2))=_;unfold cget;simp
theorem QdI (t:LI) (x:Exc):(!(x.ls.any λl=>!decide (t.getD l.1.toNat 0=l.2)))=Kl t x:=by
 unfold Kl;induction x.ls with
 | nil=>rfl
 | cons a l ih=>rw[List.any_cons,L6,←ih];cases decide (t.getD a.1.toNat 0=a.2) <;> simp
theorem QhR {w:World}{b:Nat}{q:XV}{vt:Value}{t:LI}(I:QZ w.heap b 122 (Zs q)) (hq:P2s [] w.heap q.v q.ls) (H:QL [] w.heap vt t) (J:∀p∈q.ls,0≤p.1∧p.1<(t.length:Int)) :
  QK prog 259 ([vt]++[.pointer (some ⟨b,0,none⟩)]) w λr w'=>r=.bool (Kl t q.x)∧Step [] w w':=by
 refine QK.of_W func259 O ntmps259 results259 (by simp) ?_;refine Qc<|xl O<|QS (us:=[vt]) H.cells λS Y E ha T=>Qe<|Qc<|x (Qa O)<|x (Qd (I.ext E) O O)<|x Zo<|xl O<|xf<|(QjT (q:=λl=>!decide (t.getD l.1.toNat 0=l.2)) (cap:=[.pointer (some ⟨S,0,none⟩)]) (hq.ext E) (λe he V G=>QfE (T.ext G) ((H.ext E).ext G) e (J e he))).mono ?_;rintro r2 V ⟨rfl,G⟩;refine x (Zr O)<|Qe ?_
 exact Qn ⟨[_],Z,congrArg Value.bool (QdI t q.x),E.trans G⟩
theorem QhQ {w:World}{b:Nat}{q:KV}{vt:Value}{t:LI}(E:QZ w.heap b 127 (Zx q)) (hq:P2s [] w.heap q.v q.ts) (H:QL [] w.heap vt t)
  (I:∀p∈q.ts,0≤p.1∧p.1<(t.length:Int)∧-65536≤p.2∧p.2≤65536) (J:q.ts.length≤8) (S:∀i,i<t.length→0≤cget t i∧cget t i≤4096) :
  QK prog 262 ([vt]++[.pointer (some ⟨b,0,none⟩)]) w λr w'=>r=.bool (Vr t q.k)∧Step [] w w':=by
 refine QK.of_W func262 O ntmps262 results262 (by simp) ?_;refine Qc<|Qe ?_;have hd:Step [] w { w with drawn:=w.drawn+1 }:=Step.drew _ _
 refine Qf<|QW (Step [] { w with drawn:=w.drawn+1 }) [(0,true),(1,true),(3,true),(4,true),(2,false),(5,true),(6,true)] mixed (by rfl) (by kernel_rfl) (Step.refl _ _) ?_
 refine pq (λ_ hc=>Qr ((E.ext hd).ext hc) O O)<|p (λ_=>Qo)<|p (λ_=>Qa O)<|pq (λ_ hc=>Qd ((E.ext hd).ext hc) O O)<|pk<|xf<|(QdK (hq.ext hd) (H.ext hd) I J S).mono ?_;rintro T V ⟨rfl,G⟩;refine ⟨G,?_⟩;refine p (λ_=>ZO O O)<|p (λ_=>Qg)<|pe ?_;exact Qn ⟨[_],Z,O,hd.trans G⟩
end Go.Proofs.YtdffckgdcegpaaaGreatDoor
