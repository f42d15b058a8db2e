/- Merged out of 31 texts. -/
import Derived.Test.YtdffckgdcegpaaaGreatDoorKna
import Derived.Laws.Strings
import Derived.RangeFuncNested
import Derived.RangeFuncLeaves
import Derived.RangeFuncCalls
import Derived.OrdersIn
import Derived.TacticsIn
namespace Go.Proofs.YtdffckgdcegpaaaGreatDoor
open Go.Proofs.Tryz
open Go.Lg
theorem Qn2 {α:Type}(o:Option α):o=none∨∃t,o=some t:=by cases o;exact .inl O;exact .inr ⟨_,O⟩
def zA:Value:=.agg #[nS,.int .i64 0,nS,nS]
def Zr:Value:=nS
def Ye (N:Nat) (H:Array Obj) (aa:List QE) (va vt:Value) (c:Int):Prop :=
 if VF aa≠0 then c=VF aa∧va=zA∧vt=Zr else match sync aa with
  | none=>c=3∧va=zA∧vt=Zr
  | some z=>c=0∧Xb N H va z.1∧QaZ N H vt z.2
def YF (s:Sy) (u:LI):Sy:=if u∈s.tup then s else ⟨s.tup++[u],s.mk',s.ed⟩
theorem QgP (s:Sy) (u:LI):(YF s u).mk'=s.mk':=by unfold YF;split <;> rfl
theorem QgQ (s:Sy) (u:LI):(YF s u).ed=s.ed:=by unfold YF;split <;> rfl
theorem Qjw {aa:List QE}{i:Nat}{t u:LI}{s:Sy}{v:Int}(h:Q7 v aa t=some u) (hl:u∈s.tup∨s.tup.length≠4096) :
  yU aa i t s v=some ⟨(YF s u).tup,(YF s u).mk',(YF s u).ed++[((i:Int),v,((YF s u).tup.idxOf u:Int))]⟩:=by
 unfold yU YF;rw[h];simp only[];by_cases hu:u∈s.tup
 ·simp only[if_pos hu]
 simp only[if_neg hu];rw[if_neg (by rcases hl with h1 | h1;exact absurd h1 hu;exact h1),L3,if_neg hu];simp
theorem QgO {aa:List QE}{i:Nat}{t u:LI}{s:Sy}{v:Int}(h:Q7 v aa t=some u) (hu:u∉s.tup) (hl:s.tup.length=4096):yU aa i t s v=none:=by
 unfold yU;rw[h];simp only[];rw[if_neg hu,if_pos hl]
theorem QgM {aa:List QE}{i:Nat}{t:LI}{s:Sy}{v:Int}(h:Q7 v aa t=none):yU aa i t s v=some s:=by
 unfold yU;rw[h]
theorem Qm7 {s:Sy}{qs:List TV}{i:Nat}(hq:qs.map (·.2)=s.tup) (h:i<qs.length):VU s i=qs[i].2:=by
 unfold VU;rw[←hq];simp[List.getD,h]
theorem Vt.bd {aa:List QE}{t:LI}(h:Vt aa t) {m:Int}(hm:∀a∈aa,a.st≤m):∀x∈t,0≤x∧x<m:=by
 intro x hx;obtain ⟨i,hi,rfl⟩:=LO hx;have E:i<aa.length:=by rw[←h.1];exact hi
 have:=h.2 i hi E;have:=hm aa[i] (Lj E);omega
set_option maxHeartbeats 20000000 in
theorem Ux {L:LN}{w:World}{vl:Value}{ps:List AV}{km:Int}(h:JA L w.heap vl ps) (gm:Kb w km) (kg:0<km) (m8:∀p∈ps,p.a.st≤km) :
  QM prog 69 [vl] w λr w'=>Step [] w w'∧∃va vt c,r=.tuple #[va,vt,.int .i64 c]∧Ye w.heap.size w'.heap (ps.map (·.a)) va vt c:=by
 refine QM.of_W func69 O ntmps69 results69 (by simp) ?_;generalize J:ps.map (·.a)=aa;refine Qd<|xl O<|Qu (us:=[nS,.int .i64 0,nS,nS]) O λb2 w1 h9 hA gn=>x Qe<|Qf ?_;have hz1:=h9.size;have hl2:=gn.lt;refine Qg<|Qd<|Qb<|xl O<|xf<|(QfI (h.ext h9)).mono ?_;rintro r2 w2 ⟨rfl,hl⟩;refine Qf ?_;rw[J];refine Qd<|Qb<|x (Zj O O)<|xe<|Zc rfl (λhr=>?_) (λhr=>?_)
 ·refine Qd<|x (QG La)<|Qb<|xl O<|Qq (us:=[nS,.int .i64 0,nS,nS]) (gn.ext hl) O O O O ⟨O,O,O,O,La⟩ λw3 m9 pa=>x Qe<|Qf<|Qs ⟨[zA,Zr,.int .i64 (VF aa)],⟨⟨_,O,QF O (pa.at (L:=[]) (by simp)).cells⟩,rfl,rfl,La⟩,(h9.trans hl).then1 m9 hA,zA,Zr,VF aa,rfl,?_⟩;unfold Ye;rw[if_pos hr];exact ⟨O,O,O⟩
 have hm:VF aa=0:=Lt.1 hr;have hn:ps.length≤12:=by
  unfold VF at hm;split at hm
  ·cases hm
  rename_i h1;rw[←J] at h1;simp at h1;exact h1
 have hB:∀a∈aa,QK a:=by
  unfold VF at hm;split at hm
  ·cases hm
  exact (Ur aa).1 hm
 have hS:∀p∈ps,QK p.a:=λp hp=>hB p.a (by rw[←J];exact LX hp);have pc:∀p∈ps,p.a.al.length≤32:=λp hp=>(hS p hp).al_le;have pd:∀a∈aa,a.st≤km:=λa ha=>by rw[←J] at ha;obtain ⟨p,hp,rfl⟩:=Lz.1 ha;exact m8 p hp
 have hC:aa.length=ps.length:=by rw[←J];simp
 refine Qj<|Qd<|Qb<|xl O<|xf<|(QjK (L:=[b2]) (((h.up (λb hb=>.inr (by simp at hb;omega))).ext h9).ext hl) hn pc (λb hb=>by simp at hb;have:=hl.size;omega)).mono ?_;rintro r4 w4 ⟨gq,ve,vs,ms,rfl,kh,hh⟩;rw[J] at hh;have pf:=h.arr.one;have hel:=QaP aa (λa ha=>(hB a ha).al_le);have hevl:(evs aa).length≤1000:=by omega
 have hU:=Qn.ints (L:=[]) hh (by omega) (by simp);refine xl rfl<|Qu (us:=[nS,nS,nS]) O λb6 w5 pg ph hD=>xl O<|Qq (us:=[vl,ve,vs]) hD O O O O ⟨pf,hU.one,kh.sl.one,La⟩ λw6 pj hD=>xe ?_;have hE:Step [] w4 w6:=pg.then1 pj ph;have hz2:=hl.size;have hz4:=gq.size;have hz6:=hE.size;have hl6:=hD.lt;refine Qd ?_;have pn:=((gn.ext hl).ext gq).ext hE
 refine x (Qa O)<|x (Qc hD O O)<|x (Qa O)<|xl O<|QH pn O O (by simp) hU.one λw7 hF pp=>xe ?_;have hz7:=hF.size;have gr:Step [] w w7:=((((h9.trans hl).trans gq).trans hE).then1 hF hA);have ki:Vb [b2] w7.heap vl ve vs ps ms:=(kh.ext hE).st hF;have kj:Qn 3 w2.heap.size w7 ve (evs aa):=Qi (Qt hh hE) hF (λb hb=>by have:=(Qm hh b hb).1;simp;omega)
 have kk:=hD.step hF (by simp;omega);refine Qd<|x (Qo kk O O)<|xl O<|xf<|(Qdq ki hn).mono ?_;rintro r8 w8 ⟨he,hV⟩;have hz8:=he.size;have gs:=pp.ext he;have hW:(∃p∈ps,p.a.st=0)↔(∃a∈aa,a.st=0):=by
  rw[←J];constructor
  ·rintro ⟨p,hp,h0⟩;exact ⟨p.a,LX hp,h0⟩
  rintro ⟨a,ha,h0⟩;obtain ⟨p,hp,rfl⟩:=Lz.1 ha;exact ⟨p,hp,h0⟩
 by_cases hz:∃p∈ps,p.a.st=0
 ·rw[if_pos hz] at hV;subst hV;refine Qb<|x (Qk O O)<|x (Qk O O)<|x Qe<|Qf<|Qg<|Qd<|Qb<|x (Zh O)<|xe<|JU O ?_;refine Qd<|x (Qo gs O O)<|xl O<|Qq (us:=[ve,.int .i64 0,nS,nS]) gs O O O O ⟨hU.one,O,O,O,La⟩ λw9 kn pt=>x Qe<|Qf<|Qs ⟨[.agg #[ve,.int .i64 0,nS,nS],Zr,.int .i64 0],⟨⟨_,O,QF O (pt.at (L:=[]) (by simp)).cells⟩,rfl,rfl,La⟩,(gr.trans he).then1 kn hA,_,Zr,0,rfl,?_⟩
  unfold Ye;rw[if_neg hr];unfold sync;rw[if_pos (hW.1 hz)];have pu:=Qi (Qt kj he) kn (λb hb=>by have:=(Qm hh b hb).1;simp;omega);refine ⟨O,⟨ve,_,_,O,λL' hg=>⟨Qn.ints pu (by show (evs aa).length≤_;omega) (λb hb=>by have:=hg b hb;omega),Zz.nil _ _ _,Zz.nil _ _ _⟩⟩,[],O,λL' hg=>⟨Zz.nil _ _ _,λp hp=>by cases hp⟩⟩
 rw[if_neg hz] at hV;obtain ⟨vf,rfl,gt⟩:=hV;have ko:=Qn.ints (L:=[]) gt (by simp;omega) (by simp);refine Qb<|x (Qk O O)<|x (Qk O O)<|x Qe<|Qf<|Qg<|Qd<|Qb<|x (Zh O)<|xe<|ZW rfl ?_;refine Qj<|Qd<|Qb<|xl O<|QL (us:=[[vf]]) O O (by decide) (by simp) ⟨ko.cells,rfl,La⟩ λS w10 hX hb37 kq=>Qf ?_;have hz10:=hX.size;have hl37:=kq.lt
 refine Qd<|xl O<|ZM Jp λY w11 hG hb38 kr=>?_;have hz11:=hG.size;have hl38:=kr.lt;refine Qb<|xl O<|xf<|(QaC ((ko.ext hX).ext hG) (gm.ext ((gr.trans he).trans (hX.trans hG))) (λn hn=>by have:=Nh hn;omega) (by simp;omega)).mono ?_;rintro r12 pw ⟨rfl,hY⟩;have hz12:=hY.size
 refine xl rfl<|Xg (k:=Vz (List.replicate ps.length 0)) (kr.ext hY) O O λwS gu pz=>Qb<|Qf ?_;have hzS:=gu.size;have p0:Step [] w8 pw:=(hX.trans hG).trans hY;have hv:Step [] w8 wS:=p0.then1 gu (by omega);have hH:Step [] w wS:=(gr.trans he).trans hv;have hzWS:=hH.size;have p1:∀b∈[b2,Y,S],b∈[b2]∨w8.heap.size≤b:=λb hb=>by
  simp only[List.mem_cons,List.not_mem_nil,or_false] at hb;rcases hb with rfl | rfl | rfl
  ·exact .inl (by simp)
  ·exact .inr (by omega)
  exact .inr (by omega)
 have gv:Vb [b2,Y,S] wS.heap vl ve vs ps ms:=((ki.ext he).up p1).ext hv;have gx:QX wS.heap b6 243 [vl,ve,vs]:=(kk.ext he).ext hv;have p2:Qn 3 w2.heap.size wS ve (evs aa):=Qt (Qt kj he) hv;have p3:=QY hh;have p4:=Qm gt;have hJ:SyN w1.heap.size b2 Y S wS:=⟨by omega,by omega,by omega,by omega,by omega,by omega⟩
 have p5:SyI w1.heap.size b2 Y S ve wS (UG aa) (mput [] (Vz (List.replicate ps.length 0)) (.int .i64 0)) [(vf,List.replicate ps.length 0)] (.slice (some ⟨S,0,none⟩) 1 1) Zr Zr wS:=by
  refine ⟨Step.refl _ _,gs.ext hv,pz,?_,λb hb=>by simp[ob] at hb;exact .inl hb,QR _ _ _ _,QR _ _ _ _,by simp[UG,hC],λp hp=>?_,λp hp b hb=>?_,Dj.nil' _,Dj.nil' _,Dj.nil' _⟩
  ·exact (((kq.ext hG).ext hY).step gu (by simp;omega)).own (n:=1) (sz:=1) O (by omega) (by omega)
  ·simp only[List.mem_singleton] at hp;subst hp;exact QT (Qt gt hv) (by omega)
  simp only[List.mem_singleton] at hp;subst hp;have:=p4 b hb;refine ⟨by omega,?_,by simp[ob,Zr],by simp[ob,Zr]⟩;simp[ob];omega
 have p6:U6 ps.length (mput [] (Vz (List.replicate ps.length 0)) (.int .i64 0)) (UG aa).tup:=by
  have kg:U6 ps.length [] []:=λu _ _=>O;have:=kg.add (u:=List.replicate ps.length 0) (by simp) (λx hx=>by have:=Nh hx;omega);simpa[UG,hC] using this
 have p7:U4 aa (UG aa):=by
  refine ⟨λt ht=>?_,by simp[UG]⟩;simp only[UG,List.mem_singleton] at ht;subst ht;refine ⟨by simp,λi h1 h2=>?_⟩;have h3:=(hB aa[i] (Lj h2)).st0;have h4:aa[i].st≠0:=λe=>hz (hW.2 ⟨aa[i],Lj h2,e⟩);simp only[List.getElem_replicate];omega
 generalize hT:yT aa 4096 0 (UG aa)=T;have p8:∀s,T=some s→sync aa=some (⟨evs aa,s.tup.length,s.mk',s.ed⟩,s.tup):=λs hs=>by
  unfold sync;rw[if_neg (λe=>hz (hW.2 e)),hT,hs];rfl
 have p9:T=none→sync aa=none:=λhs=>by unfold sync;rw[if_neg (λe=>hz (hW.2 e)),hT,hs];rfl
 refine Qg<|Qd<|Qf ?_;have gy:b6∉[b2,Y,S]:=by simp;omega
 refine Qh<|QC (α:=Nat×Sy×List (ByteArray×Value)×List TV×Value×Value×Value) [(3,4),(10,10),(12,16),(42,111)] (λz=>[(3,z.2.2.2.2.1),(10,.int .i64 z.1)])
  (λz w'=>SyI w1.heap.size b2 Y S ve wS z.2.1 z.2.2.1 z.2.2.2.1 z.2.2.2.2.1 z.2.2.2.2.2.1 z.2.2.2.2.2.2 w'∧U4 aa z.2.1∧U6 ps.length z.2.2.1 z.2.1.tup∧z.1≤z.2.1.tup.length∧z.2.1.mk'.length≤z.1∧z.2.1.ed.length≤z.1*1000∧yT aa (4096 - z.1) z.1 z.2.1=T)
  (λz=>4096 - z.1) (by rfl) (0,UG aa,_,_,_,Zr,Zr) ⟨O,O,La⟩ ⟨p5,p7,p6,Lm _,Lm _,Lm _,hT⟩ ?_
 rintro ⟨i,s,m,qs,vt,vk,vd⟩ g hK ⟨G,hZ,kt,hi,qa,ku,gz⟩;simp only[] at G hZ kt hi qa ku gz;have hle:=hZ.le;have qe:qs.length=s.tup.length:=by rw[←G.q];simp
 have kv:∀p∈qs,Vt aa p.2:=λp hp=>hZ.v p.2 (by rw[←G.q];exact LX hp);have kw:∀p∈qs,p.2.length≤12:=λp hp=>by have:=(kv p hp).1;omega
 have g0:=QW (L:=[]) G.t (by omega) (by simp);refine Qg<|Qd<|Qb<|Qb<|x (Qw g0 O)<|x (QD O O)<|xe<|QI rfl (λqf=>?_) (λqf=>?_)
 ·have ql:T=some s:=by rw[←gz,zi (by omega)]
  refine Qy<|Qd<|Qb<|x (Qw g0 O)<|x (Qa O)<|xl O<|QH G.A O O (by simp) rfl λw15 qm kx=>xe ?_;refine Qd ?_;have q0:=Qn.ints (L:=[]) G.k (by omega) (by simp);have q1:=ZS.eds (L:=[]) G.e (by omega) (by simp);refine x (Qo kx O O)<|Qb<|xl O<|Qq (us:=[ve,.int .i64 qs.length,vk,vd]) kx O O O O ⟨hU.one,O,q0.one,q1.one,La⟩ λg1 q2 q3=>x Qe<|Qf ?_
  have hw:Step [b2] hK g1:=qm.trans' q2;have q4:Step [] w g1:=(hH.then G.st (λb hb=>.inr (by simp at hb;omega))).then1 hw hA;refine Qs ⟨[.agg #[ve,.int .i64 qs.length,vk,vd],vt,.int .i64 0],⟨⟨_,O,QF O (q3.at (L:=[]) (by simp)).cells⟩,rfl,rfl,La⟩,q4,_,vt,0,rfl,?_⟩;unfold Ye;rw[if_neg hr,p8 s ql];have e1:(qs.length:Int)=s.tup.length:=by rw[qe]
  have k0:Qn 3 w2.heap.size g1 ve (evs aa):=Qi (Qi p2 G.st (λb hb=>by have:=(Qm hh b hb).1;have:=p3 b hb;simp;omega)) hw (λb hb=>by have:=(Qm hh b hb).1;simp;omega);have k1:=Qi G.k hw (λb hb=>by have:=(Qm G.k b hb).1;simp;omega);have k2:=Qi G.e hw (λb hb=>by have:=(Qm G.e b hb).1;simp;omega);have k3:=Qi G.t hw (λb hb=>by have:=(Qm G.t b hb).1;simp;omega)
  refine ⟨O,⟨ve,vk,vd,by rw[e1],λL' hg=>⟨Qn.ints k0 (by show (evs aa).length≤_;omega) (λb hb=>by have:=hg b hb;omega),Qn.ints k1 (by show s.mk'.length≤_;omega) (λb hb=>by have:=hg b hb;omega),ZS.eds k2 (by show s.ed.length≤_;omega) (λb hb=>by have:=hg b hb;omega)⟩⟩,qs,G.q,λL' hg=>⟨?_,λp hp=>?_⟩⟩
  ·exact QW k3 (by omega) (λb hb q5=>by have:=(Qm G.t b hb).1;have:=hg b q5;omega)
  exact Qn.ints (Qi (G.el p hp) hw (λb hb=>by have:=(Qm (G.el p hp) b hb).1;simp;omega)) (by have:=kw p hp;omega) (λb hb=>by have:=hg b hb;omega)
 have j1:i<s.tup.length:=by omega
 have U:i<qs.length:=by omega
 have kz:=Qm7 G.q U;have h5:=kv (qs[i]'U) (Lj U);obtain ⟨t,g2⟩:∃t,(qs[i]'U).2=t:=⟨_,O⟩;rw[g2] at kz h5;refine Qj ?_;have j2:(Kj aa i t (evs aa) (Zw aa i t s)).bind (yT aa (4096 - (i+1)) (i+1))=T:=by
  rw[←gz];obtain ⟨f,hf⟩:∃f,4096 - i=f+1:=⟨4096 - i - 1,by omega⟩;rw[hf,yT,if_pos j1,kz,show 4096 - (i+1)=f by omega]
 have za:=gv.st G.st;have zb:Vb [] hK.heap vl ve vs ps ms:=za.up (λ_ hb=>by cases hb);have z0:=gx.step G.st gy;have z1:QO [] hK.heap (qs[i]'U).1 t:=by rw[←g2];exact Qn.ints (G.el (qs[i]'U) (Lj U)) (by have:=kw (qs[i]'U) (Lj U);omega) (by simp)
 refine Qg<|Qh<|Q0 (α:=Value) [(48,59)] (λz=>[]) (λz w'=>SyI w1.heap.size b2 Y S ve wS (Zw aa i t s) m qs vt z vd w') (by rfl) ?_ ?_
 ·refine Qg<|QV (Step [] hK) [(0,true),(1,true),(2,true),(3,true),(4,true),(5,false)] mixed (by rfl) (by kernel_rfl) (Step.drew _ _) ?_;refine pq (λ_ hc=>Qo (z0.ext hc) O O)<|p (λ_=>Ql)<|p (λ_=>Ql)<|pig O Qah g0 O O U λa51 z2 =>
   pq (λ_ hc=>Qv (z2.ext hc) O)<|pk<|xf<|(QfP (zb.ext (Step.drew _ _)) (z1.ext (Step.drew _ _)) (by rw[h5.1,hC]) (λp hp=>(hS p hp).mri) hn).mono ?_
  rintro r17 w17 ⟨rfl,z3⟩;have k4:=(Step.drew [] hK).trans z3;refine ⟨k4,?_⟩;refine pe ?_;have g5:=G.ext k4;refine Q8 O (λhL=>?_) (λhL=>?_)
  rotate_left
  ·refine Qj<|⟨vk,La,?_⟩;rw[J] at hL;unfold Zw;rw[if_neg (by rw[hL];simp)];exact g5
  refine Qx<|x (Qa O)<|x (Qc g5.A O O)<|Qb<|xl O<|QL (us:=[[.int .i64 i]]) O O (by decide) (by simp) ⟨rfl,rfl,La⟩ λb57 w18 z4 hb57 z5=>?_;have hM:=g5.ext z4;refine xl O<|QZ (news:=[.int .i64 i]) (L:=[]) hM.k O O O (z5.at (by simp)) (by simp[Value.oneCell']) (by omega) hM.st.size λk5 z6 z9 k6 hn19=>?_;have k7:Qn 3 wS.heap.size z6 k5 (s.mk'++[(i:Int)]):=Qn.snoc z9
  refine x (Qa O)<|xl O<|QH (hM.A.step k6 (QU hM.k (by omega))) O O (by simp) (Qn.ints (L:=[]) k7 (by simp;omega) (by simp)).one λw20 hs20 hB20=>xe ?_;refine ⟨k5,La,?_⟩;rw[J] at hL;unfold Zw;rw[if_pos hL];exact hM.setK hJ k6 k7 hn19 hs20 hB20
 rintro ga g3 w21 k8;have hsk2:U4 aa (Zw aa i t s):=jk hZ;have htup2:(Zw aa i t s).tup=s.tup:=by unfold Zw;split <;> rfl
 have hed2:(Zw aa i t s).ed=s.ed:=by unfold Zw;split <;> rfl
 have hmk2:(Zw aa i t s).mk'.length≤i+1:=by
  unfold Zw;split
  ·simp only[List.length_append,List.length_singleton];omega
  omega
 have k9:QO [b2,Y,S] wS.heap ve (evs aa):=by have:=gv.ev;rw[J] at this;exact this
 refine Qd<|x (Qa O)<|x (Qc (gx.step k8.st gy) O O)<|x (Qw k9 O)<|Qb<|xe<|Qh<|QC (α:=Nat×Sy×List (ByteArray×Value)×List TV×Value×Value) [(3,4),(12,16),(63,111)] (λz=>[(3,z.2.2.2.2.1),(63,.int .i64 z.1)])
  (λz w'=>SyI w1.heap.size b2 Y S ve wS z.2.1 z.2.2.1 z.2.2.2.1 z.2.2.2.2.1 ga z.2.2.2.2.2 w'∧U4 aa z.2.1∧U6 ps.length z.2.2.1 z.2.1.tup∧z.1≤(evs aa).length∧z.2.1.mk'=(Zw aa i t s).mk'∧z.2.1.ed.length≤i*1000+z.1 ∧
   (∃h:i<z.2.2.2.1.length,(z.2.2.2.1[i]'h).2=t)∧(Kj aa i t ((evs aa).drop z.1) z.2.1).bind (yT aa (4096 - (i+1)) (i+1))=T)
  (λz=>(evs aa).length - z.1) (by rfl) (0,Zw aa i t s,m,qs,vt,vd) ⟨O,O,La⟩
  ⟨k8,hsk2,by rw[htup2];exact kt,Lm _,O,by rw[hed2];simpa using ku,⟨U,g2⟩,j2⟩ ?_
 rintro ⟨j,E,m4,Z,gc,ge⟩ g4 h6 ⟨H,hN,ho,hj,gg,ma,⟨hk,h7⟩,V⟩;simp only[] at H hN ho hj gg ma V hk h7;have mc:Z.length=E.tup.length:=by rw[←H.q];simp
 have hle4:=hN.le;refine Qd<|x (QD O O)<|xe<|Qg<|QI O (λh64=>?_) (λh64=>?_)
 ·rw[Lr (by omega),Kj] at V;refine Qy<|Qx<|Qb<|QN O O<|Qf<|⟨(i+1,E,m4,Z,gc,ga,ge),by simp only[];omega,⟨O,O,La⟩,H,hN,ho,by simp only[];omega,by simp only[];rw[gg];exact hmk2,by simp only[];omega,V⟩
 have gh:j<(evs aa).length:=by omega
 rw[Q9 gh,Kj] at V;obtain ⟨v,mf⟩:∃v,(evs aa)[j]=v:=⟨_,O⟩;rw[mf] at V;refine Qj<|Qg<|Qh<|Qd ?_;have hveI4:=k9.st H.st;refine xii hveI4 O O gh λa65 mg=>?_;rw[mf] at mg;refine x (Qv mg O)<|Qf ?_;have hM22:=(gv.st H.st).up (L':=[]) (λ_ hb=>by cases hb);have hB622:=gx.step H.st gy;have htA4:=QW (L:=[]) H.t (by omega) (by simp)
 have htI4:QO [] h6.heap (Z[i]'hk).1 t:=by rw[←h7];exact Qn.ints (H.el (Z[i]'hk) (Lj hk)) (by rw[h7,h5.1];omega) (by simp)
 refine Qg<|QV (Step [] h6) [(0,true),(1,true),(2,true),(3,true),(4,true),(5,true),(6,false),(7,true),(8,true),(9,true),(10,true),(11,true)] mixed (by rfl) (by kernel_rfl) (Step.drew _ _) ?_;refine pq (λ_ hc=>Qo (hB622.ext hc) O O)<|p (λ_=>Ql)<|p (λ_=>Ql)<|pig O Qah htA4 O O hk λa71 h71 =>
  pq (λ_ hc=>Qv (h71.ext hc) O)<|p (λ_=>Ql)<|pk<|xf<|(Qhb (hM22.ext (Step.drew _ _)) (htI4.ext (Step.drew _ _)) (by rw[h5.1,hC]) (λp hp=>(hS p hp).ali) (λp hp=>(hS p hp).edi) hn _).mono ?_
 rintro r23 w23 ⟨hs23,hO⟩;rw[J] at hO;have g8:=(Step.drew [] h6).trans hs23;refine ⟨g8,?_⟩;have hP:=H.ext g8;have hz23:=g8.size;have hz22:=H.st.size;rcases Qn2 (Q7 v aa t) with hq | ⟨u,hq⟩
 ·rw[hq] at hO;subst hO;rw[QgM hq] at V;refine p (λ_=>Ql)<|p (λ_=>Qk O O)<|p (λ_=>Qk O O)<|p (λ_=>Qe)<|p (λ_=>Qe)<|pe ?_;refine Qg<|Qd<|Qb<|x (Zh O)<|xe<|JU O ?_;refine Qy<|Qx<|QN O O<|Qb<|xe ?_;exact ⟨(j+1,E,m4,Z,gc,ge),by simp only[];omega,⟨O,O,La⟩,hP,hN,ho,gh,gg,by simp only[];omega,⟨hk,h7⟩,V⟩
 rw[hq] at hO;obtain ⟨vx,rfl,g9⟩:=hO;have mh:=XI hB h5 hq;have mj:u.length=ps.length:=by rw[mh.1,hC]
 have ka:=mh.bd pd;have kb:∀x∈u,0≤x:=λx hx=>(ka x hx).1;refine p (λ_=>Ql)<|p (λ_=>Qk O O)<|p (λ_=>Qk O O)<|p (λ_=>Qe)<|p (λ_=>Qe)<|pe ?_;refine Qg<|Qd<|Qb<|x (Zh O)<|xe<|ZW O ?_;refine Qj ?_;have gi:=Qn.ints (L:=[]) g9 (by omega) (by simp);have mo:=Qm g9
 refine Q0 (α:=Unit) [(15,16),(79,85)] (λz=>[(15,.int .i64 (if u∈E.tup then (E.tup.idxOf u:Int) else 0)),(16,.bool (decide (u∈E.tup)))]) (λz w'=>Step [] w23 w') (by rfl) ?_ ?_
 ·refine Qx<|Qb<|Qb<|xl O<|xf<|(QaC gi (gm.ext (hH.then hP.st (λb hb=>.inr (by simp at hb;omega)))) ka (by omega)).mono ?_;rintro r24 w24 ⟨rfl,gj⟩;by_cases hu:u∈E.tup
  ·refine x (Xu (k:=Vz u) ((hP.ext gj).M) O O (by rw[ho u mj kb,if_pos hu]))<|Qb<|x (Qk rfl rfl)<|x (Qk rfl rfl)<|x Qe<|Qf ?_;exact ⟨(),⟨congrArg (Value.int .i64) (if_pos hu).symm,congrArg Value.bool (decide_eq_true hu).symm,La⟩,gj⟩
  refine x (Jg (k:=Vz u) ((hP.ext gj).M) O O (by rw[ho u mj kb,if_neg hu]))<|Qb<|x (Qk rfl rfl)<|x (Qk rfl rfl)<|x Qe<|Qf ?_;exact ⟨(),⟨congrArg (Value.int .i64) (if_neg hu).symm,congrArg Value.bool (decide_eq_false hu).symm,La⟩,gj⟩
 rintro _ g6 w25 gk;have h8:=hP.ext gk;have hx25:=Qt g9 gk;have hxA25:=gi.ext gk;have hz25:=gk.size;have hadd:∀b∈ob vx,b∉ob gc∧b∉ob ga∧b∉ob ge:=λb hb=>by
  have h1:=(mo b hb).1;have h1':h6.heap.size≤b:=h1;exact ⟨λhQ=>by have:=QY H.t b hQ;omega,λhQ=>by have:=QY H.k b hQ;omega,λhQ=>by have:=QY H.e b hQ;omega⟩
 refine Q0 (α:=List (ByteArray×Value)×List TV×Value) [(3,4),(15,15),(86,101)] (λz=>[(3,z.2.2),(15,.int .i64 ((YF E u).tup.idxOf u:Int))])
  (λz w'=>SyI w1.heap.size b2 Y S ve wS (YF E u) z.1 z.2.1 z.2.2 ga ge w'∧(u∈E.tup∨E.tup.length≠4096)∧U6 ps.length z.1 (YF E u).tup∧∃h:i<z.2.1.length,(z.2.1[i]'h).2=t) (by rfl) ?_ ?_
 ·refine Qd<|Qb<|x (Zh O)<|xe<|Q8 O (λkc=>?_) (λkc=>?_)
  rotate_left
  ·have hu:u∈E.tup:=by simpa using kc
   refine Qj ?_;have e1:YF E u=E:=by unfold YF;rw[if_pos hu]
   have e2:(if u∈E.tup then (E.tup.idxOf u:Int) else 0)=((YF E u).tup.idxOf u:Int):=by rw[e1,if_pos hu]
   refine ⟨(m4,Z,gc),⟨O,congrArg (Value.int .i64) e2,La⟩,?_,.inl hu,?_,hk,h7⟩
   ·rw[e1];exact h8
   rw[e1];exact ho
  have hu:u∉E.tup:=by simpa using kc
  have mq:=QW (L:=[]) h8.t (by omega) (by simp);refine Qg<|Qd<|Qb<|x (Qw mq O)<|x (Zf O O)<|xe<|Zc O (λh90=>?_) (λh90=>?_)
  ·refine Qd<|x (QG La)<|xl O<|Qq (us:=[nS,.int .i64 0,nS,nS]) h8.A O O O O ⟨O,O,O,O,La⟩ λw26 gl hB26=>x Qe<|Qf<|Qs ⟨[zA,Zr,.int .i64 3],⟨⟨_,O,QF O (hB26.at (L:=[]) (by simp)).cells⟩,rfl,rfl,La⟩,(hH.then h8.st (λb hb=>.inr (by simp at hb;omega))).then1 gl hA,zA,Zr,3,O,?_⟩;unfold Ye;rw[QgO hq hu (by omega)] at V;rw[if_neg hr,p9 V.symm];exact ⟨rfl,O,O⟩
  have hl4:E.tup.length≠4096:=by omega
  refine Qj<|Qd<|Qb<|x (Qw mq O)<|Qf<|Qd<|Qb<|Qb<|xl O<|xf<|(QaC hxA25 (gm.ext (hH.then h8.st (λb hb=>.inr (by simp at hb;omega)))) ka (by omega)).mono ?_;rintro r26 w26 ⟨rfl,gl⟩;have mt:=h8.ext gl;refine Qb<|xl O<|Yx (k:=Vz u) mt.M O O λw27 mu hm27=>xe ?_;have hI8:=mt.setM hJ mu hm27
  have hx27:=Qi (Qt hx25 gl) mu (λb hb=>by have:=(mo b hb).1;have h1':h6.heap.size≤b:=this;simp;omega);refine Qx<|Qb<|Qb<|xl O<|QL (us:=[[vx]]) O O (by decide) (by simp) ⟨gi.cells,rfl,La⟩ λb100 w28 mv hb100 hB100=>?_;have ke:=hI8.ext mv
  refine xl O<|QZ (news:=[vx]) (L:=[]) ke.t O O O (hB100.at (by simp)) (λy hy=>by simp only[List.mem_singleton] at hy;subst hy;exact gi.one) (by omega) (by have:=ke.st.size;have:=hJ.nS;omega) λmw w29 ho29 hs29 hn29=>Qf ?_;have hk29:QdO 37 w1.heap.size w29 mw (Z++[(vx,u)]):=QdO.snoc ho29
  have hIA:=ke.setT hJ (u:=u) (QT (Qt hx27 mv) (by show wS.heap.size≤h6.heap.size;omega)) hadd hs29 hk29 hn29;have e1:YF E u=⟨E.tup++[u],E.mk',E.ed⟩:=by unfold YF;rw[if_neg hu]
  have e2:(Z.length:Int)=((YF E u).tup.idxOf u:Int):=by
   rw[e1];simp only[];rw[L3,if_neg hu,←mc];simp
  refine ⟨(mput m4 (Vz u) (.int .i64 (Z.length:Int)),Z++[(vx,u)],mw),⟨O,congrArg (Value.int .i64) e2,La⟩,?_,.inr hl4,?_,by simp;omega,?_⟩
  ·rw[e1];exact hIA
  ·rw[e1];simp only[];rw[mc];exact ho.add hu kb
  simp only[];rw[LT hk];exact h7
 rintro ⟨m5,qs5,vt5⟩ g7 w30 ⟨kf,hlim,my,mz,m0⟩;simp only[] at kf my mz m0;have hed5:(YF E u).ed.length≤i*1000+j:=by rw[QgQ];exact ma
 have m2:=Qjw (aa:=aa) (i:=i) (s:=E) hq hlim;have hsk5:=QgN hB hN h5 m2;rw[m2] at V;refine Qx<|x (Qa O)<|x (Qc kf.A O O)<|Qb<|Qb<|Qb<|x (QG ⟨O,O,O,La⟩)<|xl O<|QL (us:=[Qz ((i:Int),v,((YF E u).tup.idxOf u:Int))]) O O (by decide) (by exact (by decide:1*3≤1000000)) ⟨O,O,La⟩ λb108 w31 hs31 hb108 hB108=>?_;have hR:=kf.ext hs31
 refine xl O<|QZ (news:=Qz ((i:Int),v,((YF E u).tup.idxOf u:Int))) (L:=[]) hR.e O O O (hB108.at (by simp)) (λy hy=>by simp only[Qz,List.mem_cons,List.not_mem_nil,or_false] at hy;rcases hy with rfl | rfl | rfl <;> rfl) (by omega) hR.st.size λm3 w32 ho32 m6 hn32=>?_
 have m7:ZS 144 wS.heap.size w32 m3 ((YF E u).ed++[((i:Int),v,((YF E u).tup.idxOf u:Int))]):=ZS.snoc ho32;refine x (Qa O)<|xl O<|QH (hR.A.step m6 (QU hR.e (by omega))) O O (by simp) (ZS.eds (L:=[]) m7 (by simp;omega) (by simp)).one λw33 hs33 hB33=>xe ?_;have hI12:=hR.setE hJ m6 m7 hn32 hs33 hB33;refine Qx<|QN O O<|Qb<|xe ?_
 refine ⟨(j+1,_,m5,qs5,vt5,m3),by simp only[];omega,⟨O,O,La⟩,hI12,hsk5,my,gh,?_,?_,⟨mz,m0⟩,V⟩
 ·simp only[];rw[QgP];exact gg
 simp only[List.length_append,List.length_singleton];omega
structure Z6 where
 en:LI
 dis:LI
 mk':Bool
 ps:Bool
def J9:Z6:=⟨[],[],false,false⟩
def Ki (l:LI) (v:Int):LI:=mrg (· || ·) l [v]
def K3 (p s:QE) (x y:Int) (c:Z6) (v:Int):Z6 :=
 match eget p.ed x v with
 | none=>c
 | some _=>match eget s.ed y v with
  | some _=>⟨Ki c.en v,c.dis,c.mk',c.ps⟩
  | none=>⟨c.en,Ki c.dis v,c.mk',c.ps⟩
def QaU (p s:QE) (x y:Int) (c:Z6):Z6:=⟨c.en,c.dis,decide (y∈s.mr),c.ps || decide (x∈p.mr)⟩
def QdB (p s:QE) (x y:Int) (c:Z6):Z6:=s.al.foldl (K3 p s x y) (QaU p s x y c)
def px (q:LI):Int:=q.getD 0 0
def py (q:LI):Int:=q.getD 1 0
def yu (p s:QE) (l:List Z6) (q:LI):List Z6:=l.set (py q).toNat (QdB p s (px q) (py q) (l.getD (py q).toNat J9))
def ctls (p s:QE) (pairs:List (LI)):List Z6:=pairs.foldl (yu p s) (List.replicate s.st.toNat J9)
def occs (n:Nat) (pairs:List (LI)):List Bool:=pairs.foldl (λo q=>o.set (py q).toNat true) (List.replicate n false)
def meets (a b:LI):LI:=mrg (· && ·) a b
def VE (a b:Z6):Bool:=decide ((meets a.en b.dis).length+(meets b.en a.dis).length=0) && (!a.ps || !b.ps || a.mk' == b.mk')
def cget (l:LI) (i:Nat):Int:=l.getD i 0
def Zq (cl:LI) (x y:Nat):LI:=cl.map λc=>if c=cget cl y then cget cl x else c
def lget (l:List Z6) (i:Nat):Z6:=l.getD i J9
def X4 (s:QE) (x:Nat) (v:Int):Int:=match eget s.ed x v with | some u=>u | none=>0
def clE (s:QE) (x y:Nat) (z:LI×Bool) (v:Int):LI×Bool :=
 if cget z.1 (X4 s x v).toNat≠cget z.1 (X4 s y v).toNat then (Zq z.1 (X4 s x v).toNat (X4 s y v).toNat,true) else z
def clY (s:QE) (l:List Z6) (x:Nat) (z:LI×Bool) (y:Nat):LI×Bool :=
 if cget z.1 x<0∨cget z.1 x≠cget z.1 y then z else (meets (lget l x).en (lget l y).en).foldl (clE s x y) z
def clX (s:QE) (l:List Z6) (n:Nat) (z:LI×Bool) (x:Nat):LI×Bool:=(List.range' (x+1) (n - (x+1))).foldl (clY s l x) z
def pass (s:QE) (l:List Z6) (cl:LI):LI×Bool:=(List.range' 0 cl.length).foldl (clX s l cl.length) (cl,false)
def YS (s:QE) (l:List Z6):Nat→LI→LI
 | 0,cl=>cl
 | f+1,cl=>if (pass s l cl).2=true then YS s l f (pass s l cl).1 else (pass s l cl).1
def uneq (cl:LI):Nat:=(cl.flatMap λa=>cl.map λb=>(a,b)).countP λp=>decide (p.1≠p.2)
theorem jV {α:Type}(p q:α→Bool):∀(l:List α),(∀x∈l,q x=true→p x=true)→l.countP q≤l.countP p
 | [],_=>by simp
 | x::l,h=>by
  have ih:=jV p q l (λy hy=>h y (Le _ hy));have hx:=h x Lh;rw[List.countP_cons,List.countP_cons];cases hq:q x
  ·simp;omega
  rw[hx hq];simp;omega
theorem jU {α:Type}(p q:α→Bool):∀(l:List α),(∀x∈l,q x=true→p x=true)→(∃x∈l,p x=true∧q x=false)→l.countP q<l.countP p
 | [],_,h=>by obtain ⟨x,hx,_⟩:=h;cases hx
 | x::l,h,he=>by
  have ih:=jU p q l (λy hy=>h y (Le _ hy));have il:=jV p q l (λy hy=>h y (Le _ hy));have hx:=h x Lh;rw[List.countP_cons,List.countP_cons];obtain ⟨y,hy,h1,h2⟩:=he;rcases Li.1 hy with rfl | hy
  ·rw[h1,h2];simp;omega
  have:=ih ⟨y,hy,h1,h2⟩;cases hq:q x
  ·simp;omega
  rw[hx hq];simp;omega
theorem Qgy (cl:LI) (g:Int→Int):uneq (cl.map g)=(cl.flatMap λa=>cl.map λb=>(a,b)).countP λp=>decide (g p.1≠g p.2):=by
 have e:((cl.map g).flatMap λa=>(cl.map g).map λb=>(a,b))=(cl.flatMap λa=>cl.map λb=>(a,b)).map λp=>(g p.1,g p.2):=by
  rw[List.map_flatMap,List.flatMap_map];simp only[List.map_map];rfl
 unfold uneq;rw[e,List.countP_map];rfl
theorem VC {cl:LI}{x y:Nat}(hx:x<cl.length) (hy:y<cl.length) (h:cget cl x≠cget cl y):uneq (Zq cl x y)<uneq cl:=by
 unfold Zq;rw[Qgy];unfold uneq;have ex:cget cl x=cl[x]:=by simp[cget,List.getD,hx]
 have ey:cget cl y=cl[y]:=by simp[cget,List.getD,hy]
 refine jU _ _ _ ?_ ⟨(cl[x],cl[y]),?_,?_,?_⟩
 ·rintro ⟨a,b⟩ _ hq;simp only[decide_eq_true_eq] at hq ⊢;rintro rfl;exact hq rfl
 ·simp only[List.mem_flatMap,List.mem_map];exact ⟨cl[x],Lj hx,cl[y],Lj hy,O⟩
 ·rw[ex,ey] at h;simpa using h
 simp only[decide_eq_false_iff_not,Decidable.not_not];rw[ex,ey] at *;simp
theorem Vf (cl:LI):uneq cl≤cl.length*cl.length:=by
 unfold uneq;refine L5 List.countP_le_length ?_;have:∀(l:LI),(l.flatMap λa=>cl.map λb=>(a,b)).length=l.length*cl.length:=by
  intro l;induction l with
  | nil=>simp
  | cons a l ih=>simp only[List.flatMap_cons,List.length_append,List.length_map,ih,List.length_cons,Nat.add_mul,Nat.one_mul];omega
 rw[this];exact Lv _
theorem ZC (cl:LI) (x y:Nat):(Zq cl x y).length=cl.length:=by simp[Zq]
def StB (s:QE) (n:Nat):Prop:=∀e∈s.ed,0≤e.2.2∧e.2.2<n
theorem QcW {s:QE}{n:Nat}(h:StB s n) (E:0<n) (x:Nat) (v:Int):0≤X4 s x v∧X4 s x v<n:=by
 unfold X4;split
 ·rename_i u hu;have:=h _ (ZR hu);exact this
 omega
def Yc (l:List Z6) (cl:LI):Bool :=
 (List.range' 0 cl.length).all λx=>(List.range' 0 x).all λy=>!(decide (0≤cget cl x∧cget cl x=cget cl y) && !VE (lget l x) (lget l y))
def KO (s:QE) (l:List Z6) (cl:LI) (x y:Nat):LI :=
 if cget cl x<0∨cget cl y<0∨cget cl x=cget cl y then cl else
  let d:=YS s l (cl.length*cl.length+1) (Zq cl x y)
  if Yc l d=true then d else cl
def qA (s:QE) (l:List Z6) (n:Nat) (cl:LI) (x:Nat):LI:=(List.range' (x+1) (n - (x+1))).foldl (λc y=>KO s l c x y) cl
def yv (o:List Bool):LI:=(List.range' 0 o.length).map λi=>if o.getD i false=true then (i:Int) else -1
def YR (s:QE) (l:List Z6) (cl:LI):LI:=(List.range' 0 cl.length).foldl (qA s l cl.length) cl
def Jm (z:LI×LI) (c:Int):LI×LI :=
 if c∈z.1 then (z.1,z.2++[(z.1.idxOf c:Int) - 1]) else (z.1++[c],z.2++[(z.1.length:Int) - 1])
def nums (cl:LI):LI:=(cl.foldl Jm ([-1],[])).2
def Ka (p s:QE) (pairs:List (LI)):LI:=nums (YR s (ctls p s pairs) (yv (occs s.st.toNat pairs)))
theorem J7 {α:Type}(g:α→LV) (sz:Nat) (E:∀x,(g x).length=sz):∀(l:List α) (i j:Nat) (h:i<l.length) (y:α) (u:Value),j<sz→g y=(g l[i]).set j u →
  (l.flatMap g).set (i*sz+j) u=(l.set i y).flatMap g
 | x::l,0,j,h,y,u,hj,hy=>by
  simp only[List.getElem_cons_zero] at hy;simp only[Nat.zero_mul,Nat.zero_add,List.flatMap_cons,List.set_cons_zero];rw[List.set_append_left _ _ (by rw[E];exact hj),hy]
 | x::l,i+1,j,h,y,u,hj,hy=>by
  simp only[List.getElem_cons_succ] at hy;simp only[List.flatMap_cons,List.set_cons_succ];rw[Nu _ _ (by rw[E,Ms];omega),E,show (i+1)*sz+j - sz=i*sz+j by rw[Ms];omega,J7 g sz E l i j (by simpa using h) y u hj hy]
theorem Qh0 {α:Type}(g:α→LV) (sz:Nat) (E:∀x,(g x).length=sz) (l:List α) (i j:Nat) (h:i<l.length) (hj:j<sz):(l.flatMap g)[i*sz+j]?=(g l[i])[j]?:=by
 rw[←Kr g sz E l i h,Ma,if_pos hj,MK]
structure CV where
 ve:Value
 vd:Value
 c:Z6
abbrev Zl (p:CV):LV:=[p.ve,p.vd,.bool p.c.mk',.bool p.c.ps]
theorem Yi (p:CV):(Zl p).length=4:=rfl
structure CvA (L:LN) (H:Array Obj) (p:CV):Prop where
 en:QO L H p.ve p.c.en
 dis:QO L H p.vd p.c.dis
structure Kg (L:LN) (H:Array Obj) (v:Value) (cs:List CV):Prop where
 arr:Zz L H v cs.length 4 (cs.flatMap Zl)
 each:∀p∈cs,CvA L H p
theorem CvA.ext {L:LN}{w w':World}{p:CV}(h:CvA L w.heap p) (hs:Step [] w w'):CvA L w'.heap p:=⟨h.en.ext hs,h.dis.ext hs⟩
theorem CvA.st {L:LN}{w w':World}{p:CV}(h:CvA L w.heap p) (hs:Step L w w'):CvA L w'.heap p:=⟨h.en.st hs,h.dis.st hs⟩
theorem CvA.up {L L':LN}{H:Array Obj}{p:CV}(h:CvA L H p) (E:∀b∈L',b∈L∨H.size≤b):CvA L' H p:=⟨h.en.up E,h.dis.up E⟩
theorem Kg.ext {L:LN}{w w':World}{v:Value}{cs:List CV}(h:Kg L w.heap v cs) (hs:Step [] w w'):Kg L w'.heap v cs:=⟨h.arr.ext hs,λp hp=>(h.each p hp).ext hs⟩
theorem Kg.st {L:LN}{w w':World}{v:Value}{cs:List CV}(h:Kg L w.heap v cs) (hs:Step L w w'):Kg L w'.heap v cs:=⟨h.arr.st hs,λp hp=>(h.each p hp).st hs⟩
theorem Kg.up {L L':LN}{H:Array Obj}{v:Value}{cs:List CV}(h:Kg L H v cs) (E:∀b∈L',b∈L∨H.size≤b):Kg L' H v cs:=⟨h.arr.up E,λp hp=>(h.each p hp).up E⟩
def Qa4 (N:Nat) (H:Array Obj) (v:Value) (l:List Z6):Prop:=∃cs:List CV,cs.map (·.c)=l∧∀L:LN,(∀b∈L,b<N)→Kg L H v cs
theorem Qa4.mono {N M:Nat}{H:Array Obj}{v:Value}{l:List Z6}(h:Qa4 N H v l) (E:M≤N):Qa4 M H v l:=let ⟨cs,h1,h2⟩:=h;⟨cs,h1,λL G=>h2 L (λb hb=>MC (G b hb) E)⟩
theorem Uc {cs:List CV}{l:List Z6}(h:cs.map (·.c)=l) {i:Nat}(hi:i<cs.length):lget l i=cs[i].c:=by
 subst h;simp[lget,List.getD,hi]
end Go.Proofs.YtdffckgdcegpaaaGreatDoor
namespace Go.Lg
section
variable {P:Program} {n:Nat} {f:Fr} {w:World} {all:List Oper} {C:World→Prop} {K:Fr→World→Prop}
def yd (all:Array Oper) (i j:Nat) (E G:List (Nat×Bool)):List (Nat×Bool)→Array Bool→Bool
 | [],ls=>Region.ready .any all ls == [i,j] && Xw all E (ls.setIfInBounds i true) && Xw all G (ls.setIfInBounds j true)
 | (k,q)::pl,ls=>q && (Region.ready .any all ls).contains k && Region.free .any all ls k && yd all i j E G pl (ls.setIfInBounds k true)
def QhY (all:List Oper) (pl:List (Nat×Bool)) (i j:Nat) (E G:List (Nat×Bool)):Bool :=
 Region.noSelect all.toArray && pl.length+1+E.length == all.length && E.length == G.length && yd all.toArray i j E G pl (Array.replicate all.length false)
def Fk (P:Program) (all:List Oper) (C:World→Prop) (K:Fr→World→Prop) (i j:Nat) (G H:List (Nat×Bool)) (f:Fr) (w:World):Prop :=
 (YD all f (Q6 all i)=true∧XO P (Q6 all i) f w λE w'=>C w'∧XP P all C K G E w') ∧
 (YD all f (Q6 all j)=true∧XO P (Q6 all j) f w λE w'=>C w'∧XP P all C K H E w')
theorem VQ {i j:Nat}{G V:List (Nat×Bool)}(hl:G.length=V.length) (hs:Region.noSelect all.toArray=true):∀(pl:List (Nat×Bool)) (ls:Array Bool) (f:Fr) (w:World),ls.size=all.length→C w→yd all.toArray i j G V pl ls=true →
  XP P all C (Fk P all C K i j G V) pl f w→XA P all C K (pl.length+(1+G.length)) ls f w
 | [],ls,f,w,Z,H,hp,h=>by
  simp only[yd,Bool.and_eq_true,beq_iff_eq] at hp;obtain ⟨⟨J,h1⟩,h2⟩:=hp;simp only[XP] at h;rw[List.length_nil,LJ,MX];refine Vs (λh0=>(by rw[h0] at J;cases J)) ?_;rw[J];intro k hk o E;have S:(ls.setIfInBounds k true).size=all.length:=by simpa using Z
  simp only[List.mem_cons,List.not_mem_nil,or_false] at hk;rcases hk with rfl | rfl
  ·have:=h.1;rw[ZD E] at this;rw[this.1,cond_true];exact this.2.mono λv w' hx=>⟨.inr (.inr hx.1),ZO hs G _ _ _ S (.inl hx.1) h1 hx.2⟩
  have:=h.2;rw[ZD E] at this;rw[this.1,cond_true,hl];exact this.2.mono λv w' hx=>⟨.inr (.inr hx.1),ZO hs V _ _ _ S (.inl hx.1) h2 hx.2⟩
 | (U,q)::pl,ls,f,w,Z,H,hp,h=>by
  simp only[yd,Bool.and_eq_true] at hp;obtain ⟨⟨⟨rfl,J⟩,hf⟩,hb⟩:=hp;simp only[XP] at h;have ha:U∈Region.ready .any all.toArray ls:=by simpa using J
  have e:(List.length ((U,true)::pl))+(1+G.length)=(pl.length+(1+G.length))+1:=by simp;omega
  rw[e];cases E:all[U]? with
  | none =>
   exfalso;obtain ⟨_,o,hh,_⟩:=mem_ready.1 ha;simp[E] at hh
  | some o =>
   rw[ZD E] at h;have hc:∀(j:Nat) (o:Oper) cs b,all[j]?=some o→o.op≠.select cs b:=λj o cs b hj=>Region.noSelect_spec hs j o cs b (by simpa using hj);have he:=λj oj hj=>Region.free_spec (ops:=all.toArray) (md:=.any) (i:=U) (oi:=o) (listed:=ls) (by simpa using E) hf j oj (by simpa using hj);have S:(ls.setIfInBounds U true).size=all.length:=by simpa using Z
   cases Y:YD all f o with
   | false =>
    rw[Y] at h;exact Jt (v:=undef) (D:=λw=>ju o=true→C w) E (λ_ h=>h) hc _ ls f w (λ_=>H) he ha (.inr ⟨Y,O⟩) (VQ hl hs pl _ _ _ S H hb h)
   | true =>
    rw[Y] at h;simp only[cond_true] at h;obtain ⟨v,hv,hx⟩:=h;exact Jt (v:=v) (D:=λw=>ju o=true→C w) E (λ_ h=>h) hc _ ls f w (λ_=>H) he ha (.inl ⟨Y,hv⟩) (VQ hl hs pl _ _ _ S H hb hx)
theorem Qfo {Q:Exit→Fr→World→Prop}{id:Nat}(C:World→Prop) (pl:List (Nat×Bool)) (i j:Nat) (E G:List (Nat×Bool)) (hm:P.follows .mixedOrders=true) (H:JL n all=true) (hp:QhY all pl i j E G=true)
  (J:C { w with drawn:=w.drawn+1 }) (h:XP P all C (Fk P all C (λf w=>Q .normal f w) i j E G) pl f { w with drawn:=w.drawn+1 }):W P n (.region id all.toArray true) Q f w:=by
 simp only[QhY,Bool.and_eq_true,beq_iff_eq] at hp;obtain ⟨⟨⟨hs,hl⟩,S⟩,hp⟩:=hp;refine VR C hm H ?_;have h1:=VQ S hs pl _ _ _ (by simp) J hp h;rw[←Nat.add_assoc,hl] at h1;exact h1
end
end Go.Lg
namespace Go.Proofs.YtdffckgdcegpaaaGreatDoor
open Go.Proofs.Tryz
open Go.Lg
theorem yq {m:List ((Int×Int)×Value)}{es:List Ed}{k:Nat}(h:k<es.length):YW m (es.take (k+1))=mput (YW m (es.take k)) (es[k].1,es[k].2.1) (.int .i64 es[k].2.2):=by
 unfold YW;rw[Ll h,LW];rfl
theorem JV {L:LN}{w:World}{va vm ve:Value}{st:Int}{es:List Ed}(h:qc L w.heap ve es) :
  QM prog 122 [.agg #[va,.int .i64 st,vm,ve]] w λr w'=>Step [] w w'∧∃b,r=.map (some b)∧w.heap.size≤b∧ZE Zy w'.heap b (YW [] es):=by
 have hm:=h.le;refine QM.of_W func122 O ntmps122 results122 (by simp) ?_;refine Qd<|xl O<|QS (us:=[va,.int .i64 st,vm,ve]) O λb1 w1 U hn hc=>Qf<|Qd<|xl O<|ZM Zy λE Z H ho J=>Qf<|Qg<|Qd<|x (Qa O)<|x (Qc (hc.ext H) O O)<|x (Qw h O)<|Qb<|xe ?_;have hp:=U.size;have hq:=H.size;have hr:=J.lt
 have hE:qc [E] Z.heap ve es:=(h.up (L':=[E]) (λb hb=>.inr (by simp at hb;omega))).ext (U.trans H);refine Qh<|QC (α:=Nat) [(5,5),(10,22)] (λz=>[(10,.int .i64 z)]) (λz w'=>z≤es.length∧Step [E] Z w'∧ZE Zy w'.heap E (YW [] (es.take z))) (λz=>es.length - z) (by rfl) 0 Lb
  ⟨Lm _,Step.refl _ _,J⟩ ?_
 rintro k g w3 ⟨hk,S,V⟩;have hs:=S.size;refine Qd<|x (QD O O)<|xe<|Qg<|QI O (λhe=>?_) (λhe=>?_)
 ·refine Qy<|Qd<|Qb<|Qf ?_;rw[Lq (by omega)] at V;refine Qs ⟨[.map (some E)],Lb,(U.trans H).then1 S (by omega),E,O,by omega,V⟩
 have Y:k<es.length:=by omega
 refine Qj<|Qg<|Qh<|Qd<|xie (hE.st S) O O Y λht hf=>x (QQ hf O O)<|xl O<|Qu (us:=[.int .i64 0,.int .i64 0,.int .i64 0]) O λb5 w4 hg hh G=>xl O<|Qq (us:=Qz es[k]) G O O O O ⟨O,O,O,La⟩ λw5 hj G =>
  xe ?_
 have ha:Step [] w3 w5:=hg.then1 hj hh;refine Qx<|Qb<|x (Qa O)<|x (Qc G O O)<|x (Qa O)<|x (Qc G O O)<|x (QG ⟨O,O,La⟩)<|x (Qa O) <|
  x (Qc G O O)<|xl O<|Yx (k:=(es[k].1,es[k].2.1)) (V.ext ha) O O λw6 hl J=>xe ?_
 refine Qx<|QN O O<|Qb<|xe<|⟨k+1,by omega,Lb,Y,(S.trans ha).trans' hl,?_⟩;rw[yq Y];exact J
theorem Vt2 {a b:QE}{t:LI}(h:Vt [a,b] t):∃x y:Nat,t=[(x:Int),(y:Int)]∧(x:Int)<a.st∧(y:Int)<b.st:=by
 obtain ⟨h1,h2⟩:=h
 match t,h1,h2 with
 | [u,v],_,h2 =>
  have e0:=h2 0 (by simp) (by simp);have e1:=h2 1 (by simp) (by simp);simp only[List.getElem_cons_zero,List.getElem_cons_succ] at e0 e1;exact ⟨u.toNat,v.toNat,by rw[Int.toNat_of_nonneg e0.1,Int.toNat_of_nonneg e1.1],by omega,by omega⟩
def cv0:CV:=⟨nS,nS,J9⟩
theorem J6 {cs:List CV}{i j:Nat}(h:i<cs.length) {y:CV}{u:Value}(hj:j<4) (hy:Zl y=(Zl cs[i]).set j u):(cs.flatMap Zl).set (0+i*4+j) u=(cs.set i y).flatMap Zl:=by
 rw[LJ];exact J7 Zl 4 Yi cs i j h y u hj hy
theorem Vk {cs:List CV}{i j:Nat}(h:i<cs.length) (hj:j<4):(cs.flatMap Zl)[0+i*4+j]?=(Zl cs[i])[j]?:=by
 rw[LJ];exact Qh0 Zl 4 Yi cs i j h hj
theorem Qnl {α:Type}(o:Option α):o=none∨∃t,o=some t:=by cases o;exact .inl O;exact .inr ⟨_,O⟩
theorem zg (l:LI) (v:Int):(Ki l v).length≤l.length+1:=by have:=X9 (· || ·) l [v];simpa[Ki] using this
theorem QjL {cs:List CV}{l:List Z6}{n i:Nat}(h:cs.map (·.c)=l) (hl:cs.length=n) (hi:i<n):l.getD i J9=(cs[i]'(by omega)).c:=by
 subst h;subst hl;simp[List.getD,hi]
set_option maxHeartbeats 4000000 in
theorem qo {L:LN}{w:World}{pva pvm pve sa sm se vt:Value}{aP aS:QE}{qs:List TV}(hp:Zi L w.heap pva pvm pve aP) (hs:Zi L w.heap sa sm se aS) (ka:QK aP) (hw:QK aS)
  (ht:XB L w.heap vt qs) (hq:∀q∈qs,Vt [aP,aS] q.2) (p1:qs.length≤4096) :
  QM prog 178 [.agg #[pva,.int .i64 aP.st,pvm,pve],.agg #[sa,.int .i64 aS.st,sm,se],vt] w λr w'=>Step [] w w'∧∃vo b,r=.tuple #[vo,.slice (some ⟨b,0,none⟩) aS.st.toNat aS.st.toNat] ∧
   Qa4 w.heap.size w'.heap vo (ctls aP aS (qs.map (·.2)))∧(∀c∈ctls aP aS (qs.map (·.2)),c.en.length≤1000000∧c.dis.length≤1000000)∧w.heap.size≤b∧QX w'.heap b 4 ((occs aS.st.toNat (qs.map (·.2))).map .bool):=by
 obtain ⟨n,Y⟩:∃n:Nat,aS.st=n:=⟨aS.st.toNat,by have:=hw.st0;omega⟩;have p2:n≤4096:=by have:=hw.st1;omega
 have hX:aS.st.toNat=n:=by omega
 rw[hX];have p3:=hw.al_le;refine QM.of_W func178 O ntmps178 results178 (by simp) ?_;refine Qd<|xl O<|QS (us:=[pva,.int .i64 aP.st,pvm,pve]) O λb3 w1 kb p4 hY=>xl O<|QS (us:=[sa,.int .i64 aS.st,sm,se]) O λb4 w2 h8 p5 hy=>x Qe<|Qf ?_;have hZ:=kb.trans h8
 refine Qg<|QV (Step [] w2) [(0,true),(2,true),(1,false),(3,false),(4,true),(5,true)] mixed (by rfl) (by kernel_rfl) (Step.drew _ _) ?_;refine pq (λ_ hc=>Qo ((hY.ext h8).ext hc) O O)<|pq (λ_ hc=>Qo (hy.ext hc) O O)<|pk<|xf<|(JV ((hp.ed.ext hZ).ext (Step.drew _ _))).mono ?_;rintro r3 w3 ⟨ma,mc,rfl,p6,kc⟩;have h9:=(Step.drew [] w2).trans ma;refine ⟨h9,?_⟩
 refine pk<|xf<|(JV ((hs.ed.ext hZ).ext h9)).mono ?_;rintro r4 Z ⟨ga,mf,rfl,p7,ke⟩;have hA:=h9.trans ga;refine ⟨hA,?_⟩;refine p (λ_=>Qe)<|p (λ_=>Qe)<|pe ?_;have p8:=kb.size;have p9:=h8.size;have qa:=h9.size;have qe:=ga.size;have qf:=hY.lt;have ql:=hy.lt;have qm:=kc.lt;have q0:=ke.lt
 refine Q0 (α:=Nat×Nat) [(10,11),(25,30)] (λz=>[(10,.slice (some ⟨z.1,0,none⟩) n n),(11,.slice (some ⟨z.2,0,none⟩) n n)])
  (λz w'=>Step [] Z w'∧Z.heap.size≤z.1∧Z.heap.size≤z.2∧z.1≠z.2∧QX w'.heap z.1 212 ((List.replicate n cv0).flatMap Zl)∧QX w'.heap z.2 4 ((List.replicate n false).map .bool)) (by rfl) ?_ ?_
 ·have e1:(List.replicate n [nS,nS,.bool false,.bool false]).flatten=(List.replicate n cv0).flatMap Zl:=by rw[List.flatMap_def,NH];rfl
  have e2:(List.replicate n [Value.bool false]).flatten=(List.replicate n false).map .bool:=by rw[V4,NH]
  refine Qfo (Step [] Z) [(0,true),(1,true),(3,true),(4,true)] 2 5 [(6,true),(5,false),(7,true)] [(2,false),(6,true),(7,true)] mixed (by rfl) (by kernel_rfl) (Step.drew _ _) ?_;refine p (λ_=>Qa O)<|pq (λ_ hc=>Qc ((hy.ext hA).ext hc) O O)<|p (λ_=>Qa O)<|pq (λ_ hc=>Qc ((hy.ext hA).ext hc) O O) <|
   pe ⟨⟨rfl,?_⟩,O,?_⟩
  ·refine YG (n:=n) (congrArg (Value.int .i64) Y) (congrArg (Value.int .i64) Y) (by omega) λhB w5 he kf hC=>?_;have H:=(Step.drew [] Z).trans he;have q1:=hC.lt;refine ⟨H,p (λ_=>Qe)<|pk<|YG (n:=n) (congrArg (Value.int .i64) Y) (congrArg (Value.int .i64) Y) (by omega) λhD J E kg hE=>?_⟩;have mg:Z.heap.size≤hB:=kf;have kh:=H.size
   refine ⟨H.trans E,p (λ_=>Qe)<|pe ⟨(hB,hD),⟨O,O,La⟩,H.trans E,mg,by simp only[];omega,by simp only[ne_eq];omega,?_,?_⟩⟩
   ·rw[←e1];exact hC.ext E
   rw[←e2];exact hE
  refine YG (n:=n) (congrArg (Value.int .i64) Y) (congrArg (Value.int .i64) Y) (by omega) λhD w5 he kg hE=>?_;have H:=(Step.drew [] Z).trans he;have q2:=hE.lt;refine ⟨H,pk<|YG (n:=n) (congrArg (Value.int .i64) Y) (congrArg (Value.int .i64) Y) (by omega) λhB J E kf hC=>?_⟩;have mh:Z.heap.size≤hD:=kg;have kh:=H.size
  refine ⟨H.trans E,p (λ_=>Qe)<|p (λ_=>Qe)<|pe ⟨(hB,hD),⟨O,O,La⟩,H.trans E,by simp only[];omega,mh,by simp only[ne_eq];omega,?_,?_⟩⟩
  ·rw[←e1];exact hC
  rw[←e2];exact hE.ext E
 rintro ⟨bo,bb⟩ g5 wS ⟨hF,mj,mo,ki,gc,ge⟩;simp only[] at mj mo ki gc ge;have q3:=hF.size;have q4:=gc.lt;have q5:=ge.lt;have gg:=hA.trans hF;have hG:Step [] w wS:=hZ.trans gg;have gh:∀b∈[bo,bb],b∈L∨w.heap.size≤b:=λb hb=>by
  simp only[List.mem_cons,List.not_mem_nil,or_false] at hb;right;omega
 have mq:Zi [bo,bb] wS.heap pva pvm pve aP:=(hp.up gh).ext hG;have he:Zi [bo,bb] wS.heap sa sm se aS:=(hs.up gh).ext hG;have gi:XB [bo,bb] wS.heap vt qs:=(ht.up gh).ext hG;have ms:=(hY.ext h8).ext gg;have kj:=hy.ext gg;have mt:=(kc.ext ga).ext hF;have mu:=ke.ext hF;have n3:b3∉[bo,bb]:=by simp;omega
 have n4:b4∉[bo,bb]:=by simp;omega
 have mv:mc∉[bo,bb]:=by simp;omega
 have mw:mf∉[bo,bb]:=by simp;omega
 refine Qg<|Qd<|Qb<|x (Qw gi.arr O)<|Qb<|xe<|Qh<|QC (α:=Nat×List CV×List Bool) [(13,14),(16,20),(33,122)] (λz=>[(33,.int .i64 z.1)])
  (λz w'=>z.1≤qs.length∧Step [bo,bb] wS w'∧QX w'.heap bo 212 (z.2.1.flatMap Zl)∧QX w'.heap bb 4 (z.2.2.map .bool)∧z.2.1.length=n∧z.2.2.length=n ∧
   (∀c∈z.2.1,Qn 3 wS.heap.size w' c.ve c.c.en∧Qn 3 wS.heap.size w' c.vd c.c.dis∧c.c.en.length≤z.1*32∧c.c.dis.length≤z.1*32) ∧
   z.2.1.map (·.c)=((qs.map (·.2)).take z.1).foldl (yu aP aS) (List.replicate n J9)∧z.2.2=((qs.map (·.2)).take z.1).foldl (λo q=>o.set (py q).toNat true) (List.replicate n false))
  (λz=>qs.length - z.1) (by rfl) (0,List.replicate n cv0,List.replicate n false) Lb
  ⟨Lm _,Step.refl _ _,gc,ge,by simp,by simp,λc hc=>by
   have:=Nh hc;subst this;exact ⟨QR _ _ _ _,QR _ _ _ _,Lm _,Lm _⟩,by simp[cv0],by simp⟩ ?_
 rintro ⟨k,cs,os⟩ g w5 ⟨hk,hh,gj,gk,hm,kk,hz,h0,hH⟩;simp only[] at hk gj gk hm kk hz h0 hH;have kh:=hh.size;refine Qd<|x (QD O O)<|xe<|Qg<|QI O (λmy=>?_) (λmy=>?_)
 ·refine Qy<|Qd<|Qb<|Qb<|x Qe<|Qf ?_;rw[Lq (by simp;omega)] at h0 hH;refine Qs ⟨[.slice (some ⟨bo,0,none⟩) n n,.slice (some ⟨bb,0,none⟩) n n],⟨O,O,La⟩,hG.then hh (λb hb=>.inr (by simp only[List.mem_cons,List.not_mem_nil,or_false] at hb;omega)),_,bb,O,⟨cs,?_,λL' gl=>⟨?_,λc hc=>?_⟩⟩,?_,by omega,?_⟩
  ·unfold ctls;rw[hX];exact h0
  ·rw[hm];exact gj.arr (λhb=>by have:=gl _ hb;omega) (by rw[YI _ 4 Yi,hm]) (by omega) (Lv _)
  ·obtain ⟨c1,c2,c3,c4⟩:=hz c hc;exact ⟨Qn.ints c1 (by omega) (λb hb=>by have:=gl b hb;omega),Qn.ints c2 (by omega) (λb hb=>by have:=gl b hb;omega)⟩
  ·unfold ctls;rw[hX,←h0];intro c hc;obtain ⟨c',mz,rfl⟩:=Lz.1 hc;obtain ⟨_,_,c3,c4⟩:=hz c' mz;exact ⟨by omega,by omega⟩
  unfold occs;rw[←hH];exact gk
 have h1:k<qs.length:=by omega
 obtain ⟨xi,yi,gm,j1,j2⟩:=Vt2 (hq qs[k] (Lj h1));have gn:yi<n:=by omega
 have gq:yi<cs.length:=by omega
 have ha:QO [bo,bb] wS.heap qs[k].1 [(xi:Int),(yi:Int)]:=by rw[←gm];exact gi.each qs[k] (Lj h1)
 obtain ⟨gr,gs,kn,ko⟩:=hz cs[yi] (Lj gq);generalize kq:cs[yi]=cv at gr gs kn ko;refine Qj<|Qg<|Qh<|Qd<|xig (g:=Yo) (λ_=>O) (gi.arr.st hh) O O h1 λza m0=>x (Qv m0 O)<|Qf<|Qd<|Qb<|Qb<|xii (i:=1) (ha.st hh) O O (by simp) λzb m2=>x (Qv m2 rfl)<|x (QP (i:=yi) rfl rfl gn) <|
  Qf<|Qd<|Qb<|Qb<|xii (i:=1) (ha.st hh) O O (by simp) λz0 m3=>x (Qv m3 rfl)<|x (QP (i:=yi) rfl rfl gn) <|
  xl rfl<|QH (u:=.bool true) gk O O (by simp;omega) O λJ E m4=>xe ?_
 have kr:Step [bo,bb] w5 J:=E.mono (by simp);have hI:=hh.trans' kr;have m5:QX J.heap bb 4 ((os.set yi true).map .bool):=by rw[Np];simpa using m4
 have m6:QX J.heap bo 212 (cs.flatMap Zl):=gj.step E (by simp[ki]);refine Qg<|QV (Step [] J) [(0,true),(1,true),(2,true),(3,true),(4,true),(5,true),(6,false),(7,true),(8,true),(9,false)] mixed (by rfl) (by kernel_rfl) (Step.drew _ _) ?_;refine p (λ_=>Ql)<|p (λ_=>Qa O)<|pq (λ_ hc=>Qc ((kj.step hI n4).ext hc) O O)<|p (λ_=>Ql)<|pii (i:=1) O (ha.st hI) O O (by simp) λz1 m7 =>
  pq (λ_ hc=>Qv (m7.ext hc) O)<|pk<|xf<|(ZX (((he.mr.st hI)).ext (Step.drew _ _)) hw.mri _).mono ?_
 rintro r7 w7 ⟨rfl,rfl⟩;refine ⟨Step.drew _ _,?_⟩;refine p (λ_=>Qr O)<|p (λ_=>Qa O) <|
  pkl (hl:=by kernel_rfl)<|QH (m6.ext (Step.drew _ _)) O O (by rw[YI _ 4 Yi];omega) O λG kt m8=>pe ?_
 have ku:Step [bo,bb] J G:=((Step.drew [bo,bb] J).then kt (λb hb=>.inl (by simp at hb;simp[hb])));have hJ:=hI.trans' ku;have kv:QX G.heap bb 4 ((os.set yi true).map .bool):=(m5.ext (Step.drew [] J)).step kt (by simp;omega);have h2:QX G.heap bo 212 ((cs.set yi ⟨cv.ve,cv.vd,⟨cv.c.en,cv.c.dis,decide ((yi:Int)∈aS.mr),cv.c.ps⟩⟩).flatMap Zl):=by
  rw[←J6 (j:=2) (u:=.bool (decide ((yi:Int)∈aS.mr))) gq (by omega) (by rw[kq];rfl)];exact m8
 generalize gt:cs.set yi ⟨cv.ve,cv.vd,⟨cv.c.en,cv.c.dis,decide ((yi:Int)∈aS.mr),cv.c.ps⟩⟩=hK at h2;have z2:hK.length=n:=by rw[←gt];simpa using hm
 have hL:yi<hK.length:=by omega
 have hM:hK[yi]=⟨cv.ve,cv.vd,⟨cv.c.en,cv.c.dis,decide ((yi:Int)∈aS.mr),cv.c.ps⟩⟩:=by subst gt;simp
 have kw:∀c,hK.set yi c=cs.set yi c:=λc=>by subst gt;simp
 refine Q0 (α:=Unit) [(56,70)] (λz=>[]) (λz w'=>Step [bo,bb] G w'∧QX w'.heap bb 4 ((os.set yi true).map .bool)∧QX w'.heap bo 212 ((cs.set yi ⟨cv.ve,cv.vd,QaU aP aS xi yi cv.c⟩).flatMap Zl)) (by rfl) ?_ ?_
 ·cases hN:cv.c.ps with
  | true =>
   refine QV (Step [] G) [(0,true),(1,true),(2,true),(3,true),(4,true),(5,true),(6,true),(7,true),(8,true),(9,true),(10,true),(11,false),(12,true),(13,true),(14,true),(15,false)] mixed (by rfl) (by kernel_rfl) (Step.drew _ _) ?_;refine p (λ_=>Ql)<|p (λ_=>Ql)<|p (λ_=>Qr O)<|p (λ_=>Qa O)<|pq (λ_ hc=>Qc (u:=.bool true) (h2.ext hc) O (by rw[Vk hL (by omega),hM];simp[hN]))<|p (λ_=>Ql) <|
    ps<|ps<|ps<|ps<|ps<|ps<|p (λ_=>Qp O) <|
    p (λ_=>Qr O)<|p (λ_=>Qa O)<|pkl (hl:=by kernel_rfl)<|QH (u:=.bool true) (h2.ext (Step.drew _ _)) O O (by rw[YI _ 4 Yi];omega) O λm9 h3 gu=>pe ?_
   refine ⟨(),La,(Step.drew [bo,bb] G).then h3 (λb hb=>.inl (by simp at hb;simp[hb])),(kv.ext (Step.drew [] G)).step h3 (by simp;omega),?_⟩;rw[←kw,←J6 (j:=3) (u:=.bool true) hL (by omega) (by rw[hM];simp[QaU,hN])];exact gu
  | false =>
   refine QV (Step [] G) [(0,true),(1,true),(2,true),(3,true),(4,true),(5,true),(6,true),(7,true),(8,true),(9,true),(10,true),(11,false),(12,true),(13,true),(14,true),(15,false)] mixed (by rfl) (by kernel_rfl) (Step.drew _ _) ?_;refine p (λ_=>Ql)<|p (λ_=>Ql)<|p (λ_=>Qr O)<|p (λ_=>Qa O)<|pq (λ_ hc=>Qc (u:=.bool false) (h2.ext hc) O (by rw[Vk hL (by omega),hM];simp[hN]))<|p (λ_=>Ql) <|
    p (λ_=>Qa O)<|pq (λ_ hc=>Qc ((ms.step hJ n3).ext hc) O O)<|p (λ_=>Ql)<|pii (i:=0) O (ha.st hJ) O O (by simp) λz3 pa =>
    pq (λ_ hc=>Qv (pa.ext hc) O)<|pk<|xf<|(ZX ((mq.mr.st hJ).ext (Step.drew _ _)) ka.mri _).mono ?_
   rintro r9 w9 ⟨rfl,rfl⟩;refine ⟨Step.drew _ _,?_⟩;refine p (λ_=>Qp O) <|
    p (λ_=>Qr O)<|p (λ_=>Qa O)<|pkl (hl:=by kernel_rfl)<|QH (u:=.bool (decide ((xi:Int)∈aP.mr))) (h2.ext (Step.drew _ _)) O O (by rw[YI _ 4 Yi];omega) O λm9 h3 gu=>pe ?_
   refine ⟨(),La,(Step.drew [bo,bb] G).then h3 (λb hb=>.inl (by simp at hb;simp[hb])),(kv.ext (Step.drew [] G)).step h3 (by simp;omega),?_⟩;rw[←kw,←J6 (j:=3) (u:=.bool (decide ((xi:Int)∈aP.mr))) hL (by omega) (by rw[hM];simp[QaU,hN])];exact gu
 rintro _ g8 kx ⟨kz,pc,pd⟩;have k0:=hJ.trans' kz;have gv:Step [bo,bb] w5 kx:=(kr.trans' ku).trans' kz;have hO:∀v:Value,(∀b∈ob v,wS.heap.size≤b)→∀b∈ob v,b∉[bo,bb]:=λv hv b hb=>by have:=hv b hb;simp;omega
 refine Qd<|x (Qa O)<|x (Qc (kj.step k0 n4) O O)<|x (Qw he.al O)<|Qb<|xe<|Qh<|QC (α:=Nat×CV) [(16,20),(74,121)] (λz=>[(74,.int .i64 z.1)])
  (λz w'=>z.1≤aS.al.length∧Step [bo,bb] kx w'∧QX w'.heap bb 4 ((os.set yi true).map .bool)∧QX w'.heap bo 212 ((cs.set yi z.2).flatMap Zl) ∧
   z.2.c=(aS.al.take z.1).foldl (K3 aP aS xi yi) (QaU aP aS xi yi cv.c)∧Qn 3 wS.heap.size w' z.2.ve z.2.c.en∧Qn 3 wS.heap.size w' z.2.vd z.2.c.dis∧z.2.c.en.length≤k*32+z.1∧z.2.c.dis.length≤k*32+z.1)
  (λz=>aS.al.length - z.1) (by rfl) (0,⟨cv.ve,cv.vd,QaU aP aS xi yi cv.c⟩) Lb
  ⟨Lm _,Step.refl _ _,pc,pd,O,Qi gr gv (hO _ (λb hb=>(Qm gr b hb).1)),Qi gs gv (hO _ (λb hb=>(Qm gs b hb).1)),kn,ko⟩ ?_
 rintro ⟨j,cz⟩ z4 k4 ⟨hj,h4,hP,hf,hQ,ho,hr,pf,pg⟩;simp only[] at hj hf hQ ho hr pf pg;have S:=k0.trans' h4;have z5:=S.size;have hR:yi<(cs.set yi cz).length:=by simpa using gq
 have hS:(cs.set yi cz)[yi]=cz:=by simp
 refine Qd<|x (QD O O)<|xe<|Qg<|QI O (λph=>?_) (λph=>?_)
 ·refine Qy<|Qx<|QN O O<|Qb<|xe ?_;rw[Lq (by omega)] at hQ;have k5:(qs.map (·.2)).take (k+1)=(qs.map (·.2)).take k++[qs[k].2]:=by rw[Ll (by simpa using h1),Mv]
  refine ⟨(k+1,cs.set yi cz,os.set yi true),by simp only[];omega,Lb,h1,S,hf,hP,by simpa using hm,by simpa using kk,λc hc=>?_,?_,?_⟩
  ·rcases Nb hc with hc | rfl
   ·obtain ⟨c1,c2,c3,c4⟩:=hz c hc;have k6:=gv.trans' h4;exact ⟨Qi c1 k6 (hO _ (λb hb=>(Qm c1 b hb).1)),Qi c2 k6 (hO _ (λb hb=>(Qm c2 b hb).1)),by simp only[];omega,by simp only[];omega⟩
   exact ⟨ho,hr,by simp only[];omega,by simp only[];omega⟩
  ·simp only[];rw[k5,LW,←h0,Np,hQ];show _=yu aP aS (cs.map (·.c)) qs[k].2;unfold yu QdB;rw[gm,show py [(xi:Int),(yi:Int)]=(yi:Int) from rfl,show px [(xi:Int),(yi:Int)]=(xi:Int) from rfl,LY,QjL rfl hm gn,kq]
  simp only[];rw[k5,LW,←hH,gm];show _=os.set (py [(xi:Int),(yi:Int)]).toNat true;rw[show py [(xi:Int),(yi:Int)]=(yi:Int) from rfl,LY]
 have h5:j<aS.al.length:=by omega
 have pj:aS.al.take (j+1)=aS.al.take j++[aS.al[j]]:=Ll h5;have pn:=he.al.st S;obtain ⟨v,hv⟩:∃v,aS.al[j]=v:=⟨_,O⟩;have gx:(aS.al.take (j+1)).foldl (K3 aP aS xi yi) (QaU aP aS xi yi cv.c)=K3 aP aS xi yi cz.c v:=by rw[pj,LW,←hQ,hv];rfl
 refine Qj<|Qg<|Qh<|Qd<|xii pn O O h5 λz6 k7=>?_;rw[hv] at k7;refine x (Qv k7 O)<|Qf ?_;have hT:=Xz aP.ed [] xi v ka.edi;have hW:=Xz aS.ed [] yi v hw.edi;have k8:=mt.step S mv;have k9:=mu.step S mw;rcases Qnl (eget aP.ed xi v) with hu | ⟨t1,hu⟩
 ·rw[hu] at hT;refine Qg<|Qd<|Qb<|Qb<|xii (i:=0) (ha.st S) O O (by simp) λpp gy=>x (Qv gy rfl)<|Qb<|x (QG ⟨rfl,rfl,La⟩) <|
   x (Jg (k:=((xi:Int),v)) k8 O O hT)<|Qb<|x (Qk O O)<|x (Qk O O)<|x Qe<|Qf<|Qd<|Qb<|x (Zh O)<|xe ?_
  refine JU O ?_;refine Qy<|Qx<|QN O O<|Qb<|xe<|⟨(j+1,cz),by simp only[];omega,Lb,h5,h4,hP,hf,?_,ho,hr,by simp only[];omega,by simp only[];omega⟩;simp only[];rw[gx];unfold K3;rw[hu]
 rw[hu] at hT;have pt:=Qnl (eget aS.ed yi v);refine Qg<|Qd<|Qb<|Qb<|xii (i:=0) (ha.st S) O O (by simp) λpp gy=>x (Qv gy rfl)<|Qb<|x (QG ⟨rfl,rfl,La⟩) <|
  x (Xu (k:=((xi:Int),v)) k8 O O hT)<|Qb<|x (Qk O O)<|x (Qk O O)<|x Qe<|Qf<|Qd<|Qb<|x (Zh O)<|xe ?_
 refine ZW rfl ?_;refine Qj<|Qd ?_;rcases pt with h6 | ⟨t2,h6⟩
 rotate_left
 ·rw[h6] at hW;refine Qb<|Qb<|xii (i:=1) (ha.st S) O O (by simp) λpu gz=>x (Qv gz rfl)<|Qb<|x (QG ⟨rfl,rfl,La⟩) <|
   x (Xu (k:=((yi:Int),v)) k9 O O hW)<|Qb<|x (Qk O O)<|x (Qk O O)<|x Qe<|Qf<|Qd<|Qb<|xe ?_
  refine JU O ?_;refine Qx<|Qb<|Qb<|x (Qr O)<|x (Qa O)<|x (Qc (u:=cz.ve) hf O (by rw[Vk hR (by omega),hS];rfl))<|Qb<|xl O<|QL (us:=[[.int .i64 v]]) O O (by decide) (by simp) ⟨rfl,rfl,La⟩ λg0 g1 hg pw g2=>?_;have hV:QO [] g1.heap (.slice (some ⟨g0,0,none⟩) 1 1) [v]:=g2.arr (by simp) rfl (by simp) (by simp)
  refine xl O<|xf<|(K7 (Qn.ints (L:=[]) (Qt ho hg) (by omega) (by simp)) hV (by simp;omega)).mono ?_;rintro vU pz ⟨g3,hU⟩;have U:=hg.trans g3;have p0:=zg cz.c.en v;have g4:=Qn.ints (L:=[]) (l:=Ki cz.c.en v) hU (by omega) (by simp);refine x (Qr O)<|x (Qa O)<|xl O<|QH (u:=vU) (hf.ext U) O O (by rw[YI _ 4 Yi];omega) g4.one λg6 V g7 =>
   xe ?_
  have g9:Step [bo,bb] k4 g6:=(U.any).then V (λb hb=>.inl (by simp at hb;simp[hb]));have h7:=QT (base':=wS.heap.size) hU (by have:=hg.size;omega);refine Qx<|QN O O<|Qb<|xe<|⟨(j+1,⟨vU,cz.vd,⟨Ki cz.c.en v,cz.c.dis,cz.c.mk',cz.c.ps⟩⟩),by simp only[];omega,Lb,h5,h4.trans' g9,(hP.ext U).step V (by simp;omega),?_,?_,
   Qi h7 V (λb hb=>by have:=(Qm h7 b hb).1;simp;omega),Qi (Qt hr U) V (λb hb=>by have:=(Qm hr b hb).1;simp;omega),by simp only[];omega,by simp only[];omega⟩
  ·have:=J6 (cs:=cs.set yi cz) (i:=yi) (j:=0) (u:=vU) (y:=⟨vU,cz.vd,⟨Ki cz.c.en v,cz.c.dis,cz.c.mk',cz.c.ps⟩⟩) hR (by omega) (by rw[hS];rfl);rw[List.set_set] at this;simp only[];rw[←this];exact g7
  simp only[];rw[gx];unfold K3;rw[hu];simp only[];rw[h6]
 rw[h6] at hW;refine Qb<|Qb<|xii (i:=1) (ha.st S) O O (by simp) λpu gz=>x (Qv gz rfl)<|Qb<|x (QG ⟨rfl,rfl,La⟩) <|
  x (Jg (k:=((yi:Int),v)) k9 O O hW)<|Qb<|x (Qk O O)<|x (Qk O O)<|x Qe<|Qf<|Qd<|Qb<|xe ?_
 refine ZW O ?_;refine Qx<|Qb<|Qb<|x (Qr O)<|x (Qa O)<|x (Qc (u:=cz.vd) hf O (by rw[Vk hR (by omega),hS];rfl))<|Qb<|xl O<|QL (us:=[[.int .i64 v]]) O O (by decide) (by simp) ⟨rfl,rfl,La⟩ λg0 g1 hg pw g2=>?_;have hV:QO [] g1.heap (.slice (some ⟨g0,0,none⟩) 1 1) [v]:=g2.arr (by simp) rfl (by simp) (by simp)
 refine xl O<|xf<|(K7 (Qn.ints (L:=[]) (Qt hr hg) (by omega) (by simp)) hV (by simp;omega)).mono ?_;rintro vU pz ⟨g3,hU⟩;have U:=hg.trans g3;have p0:=zg cz.c.dis v;have g4:=Qn.ints (L:=[]) (l:=Ki cz.c.dis v) hU (by omega) (by simp);refine x (Qr O)<|x (Qa O)<|xl O<|QH (u:=vU) (hf.ext U) O O (by rw[YI _ 4 Yi];omega) g4.one λg6 V g7 =>
  xe ?_
 have g9:Step [bo,bb] k4 g6:=(U.any).then V (λb hb=>.inl (by simp at hb;simp[hb]));have h7:=QT (base':=wS.heap.size) hU (by have:=hg.size;omega);refine Qx<|QN O O<|Qb<|xe<|⟨(j+1,⟨cz.ve,vU,⟨cz.c.en,Ki cz.c.dis v,cz.c.mk',cz.c.ps⟩⟩),by simp only[];omega,Lb,h5,h4.trans' g9,(hP.ext U).step V (by simp;omega),?_,?_,
  Qi (Qt ho U) V (λb hb=>by have:=(Qm ho b hb).1;simp;omega),Qi h7 V (λb hb=>by have:=(Qm h7 b hb).1;simp;omega),by simp only[];omega,by simp only[];omega⟩
 ·have:=J6 (cs:=cs.set yi cz) (i:=yi) (j:=1) (u:=vU) (y:=⟨cz.ve,vU,⟨cz.c.en,Ki cz.c.dis v,cz.c.mk',cz.c.ps⟩⟩) hR (by omega) (by rw[hS];rfl);rw[List.set_set] at this;simp only[];rw[←this];exact g7
 simp only[];rw[gx];unfold K3;rw[hu];simp only[];rw[h6]
end Go.Proofs.YtdffckgdcegpaaaGreatDoor
namespace Go.Lg
open Go.Proofs.YtdffckgdcegpaaaGreatDoor
theorem Q5 {l:LI}{i:Nat}(h:i<l.length):l[i]=cget l i:=by simp[cget,List.getD,h]
section
variable {P:Program} {ops l:List Oper} {K:Fr→World→Prop} {f:Fr} {w:World} {d:Option Nat} {ty:Nat} {ps:String} {af:Array Edge} {gd:Option (Nat×Bool)} {C:World→Prop} {pl:List (Nat×Bool)} {i0:Nat}
theorem xic {x y:Operand}{t e bys:Nat}{z:Value}[Sl P t e 1 bys z] {L:LN}{li:LI}{v:Value}{k:IntKind}{i:Nat}
  (h:QO L w.heap v li) (E:ev f x=v) (hy:ev f y=.int k i) (hi:i<li.length)
  (G:∀a,At L w.heap a [.int .i64 (cget li i)]→XL P ops K l (Q4 f d (.pointer (some a))) w) (H:YD ops f ⟨d,.indexAddr t x y,ty,ps,af,gd⟩=true:=by rfl) :
  XL P ops K (⟨d,.indexAddr t x y,ty,ps,af,gd⟩::l) f w :=
 xii h E hy hi (λa ha=>G a (by rw[←Q5 hi];exact ha)) H
theorem pic {x y:Operand}{t e bys:Nat}{z:Value}[Sl P t e 1 bys z] {L:LN}{li:LI}{v:Value}{H:Array Obj}{k:IntKind}{i:Nat}
  (E:Q6 ops i0=⟨d,.indexAddr t x y,ty,ps,af,gd⟩) (h:QO L H v li) (G:ev f x=v) (hy:ev f y=.int k i) (hi:i<li.length)
  (J:∀a,At L H a [.int .i64 (cget li i)]→XP P ops C K pl (Q4 f d (.pointer (some a))) w) (S:YD ops f (Q6 ops i0)=true:=by rfl):XP P ops C K ((i0,true)::pl) f w :=
 pii E h G hy hi (λa ha=>J a (by rw[←Q5 hi];exact ha)) S
theorem Qas {t kt et:Nat}[hm:Mp P t kt et (.int .i64 0)] [hk:Key P kt Zy] {x y:Operand}{b:Nat}{s:QE}{q:Nat}{v:Int}{u:Nat}(h:ZE Zy w.heap b (YW [] s.ed)) (hs:s.ed.Pairwise λx y=>x.1<y.1∨(x.1=y.1∧x.2.1<y.2.1))
  (hu:X4 s q v=u) (hx:ev f x=.map (some b)) (hy:ev f y=Zy ((q:Int),v)) :
  (execOp (ev f) ⟨d,.lookup t x y false,ty,ps,af,gd⟩).run P w=.ok (.value (.int .i64 u)) w:=by
 rw[Xv h hx hy,Xz s.ed [] q v hs,←hu];unfold X4;cases eget s.ed q v <;> rfl
theorem UO {t:Nat}[h1:Jk P t] {x y:Operand}{base e g cap i:Nat}{li:LI}{v:Value}{u:Int}(h:Qn e base w v li) (E:v=.slice (some ⟨g,0,none⟩) li.length cap) (hx:ev f x=.pointer (some ⟨g,0+i*1,none⟩)) (hy:ev f y=.int .i64 u) (hi:i<li.length)
  (G:∀w',Step (ob v) w w'→Qn e base w' v (li.set i u)→K (Q4 f d undef) w'):XO P ⟨d,.store t x y,ty,ps,af,gd⟩ f w K:=by
 have h':=h;unfold Qn at h';rw[E] at h';refine QbG h' hx hy hi O λw' hs H=>G w' (by rw[E];exact hs) ?_;unfold Qn;rw[MV,Np,E];exact H
end
theorem Xc {a n:Nat}(h:a<n):List.range' a (n - a)=a::List.range' (a+1) (n - (a+1)):=by
 rw[show n - a=(n - (a+1))+1 by omega,Nq]
theorem X5 {a n:Nat}(h:n≤a):List.range' a (n - a)=[]:=by rw[show n - a=0 by omega];rfl
end Go.Lg
namespace Go.Proofs.YtdffckgdcegpaaaGreatDoor
open Go.Proofs.Tryz
open Go.Lg
structure Mg (N bm bs:Nat) (s:QE) (vl:Value) (cs:List CV) (vc:Value) (cl:LI) (w:World):Prop where
 B:QX w.heap bm 300 [vc,vl,.map (some bs)]
 c:Qn 3 N w vc cl
 l:Kg (ob vc) w.heap vl cs
 m:ZE Zy w.heap bs (YW [] s.ed)
 nm:bm∉ob vc
 ns:bs∉ob vc
theorem Mg.ext {N bm E:Nat}{s:QE}{vl:Value}{cs:List CV}{vc:Value}{cl:LI}{w w':World}(h:Mg N bm E s vl cs vc cl w) (hs:Step [] w w'):Mg N bm E s vl cs vc cl w' :=
 ⟨h.B.ext hs,Qt h.c hs,h.l.ext hs,h.m.ext hs,h.nm,h.ns⟩
theorem Mg.st {N bm E:Nat}{s:QE}{vl:Value}{cs:List CV}{vc:Value}{cl G:LI}{w w':World}(h:Mg N bm E s vl cs vc cl w) (hs:Step (ob vc) w w') (hc:Qn 3 N w' vc G):Mg N bm E s vl cs vc G w' :=
 ⟨h.B.step hs h.nm,hc,h.l.st hs,h.m.step hs h.ns,h.nm,h.ns⟩
def mgF (a b c:Int):Int:=if c=a then b else c
theorem Ql1 {cl:LI}{k:Nat}{a b:Int}(h:k<cl.length):((cl.take k).map (mgF a b)++cl.drop k).set k (mgF a b (cget cl k))=(cl.take (k+1)).map (mgF a b)++cl.drop (k+1):=by
 have h1:((cl.take k).map (mgF a b)).length=k:=by simp;omega
 rw[Nu _ _ (by omega),h1,Nn,LQ h,NG,Ll h,LA,LB,←Q5 h];rfl
theorem Ql2 {cl:LI}{k:Nat}{a b:Int}(h:k<cl.length):cget ((cl.take k).map (mgF a b)++cl.drop k) k=cget cl k:=by
 have h1:((cl.take k).map (mgF a b)).length=k:=by simp;omega
 have h2:k<((cl.take k).map (mgF a b)++cl.drop k).length:=by simp;omega
 rw[←Q5 h2,Mr (by omega),←Q5 h];simp only[h1,Nat.sub_self,List.getElem_drop,Nat.add_zero]
theorem QjV {cl:LI}{k:Nat}{a b:Int}(h:k<cl.length) (E:cget cl k≠a):(cl.take k).map (mgF a b)++cl.drop k=(cl.take (k+1)).map (mgF a b)++cl.drop (k+1):=by
 rw[LQ h,Ll h,LA,LB];have:cl[k]=mgF a b cl[k]:=by unfold mgF;rw[if_neg (by rw[Q5 h];exact E)]
 simp[←this]
theorem jA {N bm bs:Nat}{s:QE}{vl:Value}{cs:List CV}{vc:Value}{cl:LI}{w:World}{E G:Nat}(h:Mg N bm bs s vl cs vc cl w) (hx:E<cl.length) (hy:G<cl.length) (hn:cl.length≤4096) :
  QM prog 191 [.pointer (some ⟨bm,0,none⟩),.int .i64 E,.int .i64 G] w λ_ w'=>Step (ob vc) w w'∧Qn 3 N w' vc (Zq cl E G):=by
 refine QM.of_W func191 O ntmps191 results191 (by simp) ?_;have U:=Qn.ints (L:=[]) h.c (by omega) (by simp);obtain ⟨g0,cap,Y⟩:=UM h.c (by omega);refine Qg<|QV (Step [] w) [(0,true),(1,true),(2,true),(3,true),(4,true),(5,true),(6,true),(7,true),(8,true),(9,true),(10,true),(11,true),(12,true),(13,true),(14,true),(15,true)] mixed (by rfl) (by kernel_rfl) (Step.drew _ _) ?_
 refine p (λ_=>Ql)<|p (λ_=>Qr O)<|p (λ_=>Qa O)<|pq (λ_ hc=>Qc (h.B.ext hc) O O)<|p (λ_=>Ql)<|pic (i:=G) O U O O hy λhq hb =>
  pq (λ_ hc=>Qv (hb.ext hc) O)<|p (λ_=>Ql)<|p (λ_=>Qr O)<|p (λ_=>Qa O)<|pq (λ_ hc=>Qc (h.B.ext hc) O O) <|
  p (λ_=>Ql)<|pic (i:=E) O U O O hx λhr he=>pq (λ_ hc=>Qv (he.ext hc) O)<|p (λ_=>Qe) <|
  p (λ_=>Qe)<|pe ?_
 have h1:=h.ext (Step.drew [] w);generalize hf:({ w with drawn:=w.drawn+1 }:World)=Z at h1
 have hg:Step [] w Z:=by rw[←hf];exact Step.drew _ _
 refine Qd<|Qb<|x (Qr O)<|x (Qa O)<|x (Qc h1.B O O)<|x (Qw U O)<|Qb<|xe<|Qh<|QC (α:=Nat) [(8,8),(28,47)] (λz=>[(28,.int .i64 z)]) (λz w'=>z≤cl.length∧Step (ob vc) Z w'∧Qn 3 N w' vc ((cl.take z).map (mgF (cget cl G) (cget cl E))++cl.drop z)) (λz=>cl.length - z) (by rfl) 0 Lb
  ⟨Lm _,Step.refl _ _,by simpa using h1.c⟩ ?_
 rintro k g w2 ⟨hk,S,H⟩;have h2:=h1.st S H;have hh:((cl.take k).map (mgF (cget cl G) (cget cl E))++cl.drop k).length=cl.length:=by simp;omega
 refine Qd<|x (QD O O)<|xe<|Qg<|QI O (λhj=>?_) (λhj=>?_)
 ·refine Qy ?_;rw[Lq (by omega),Lr (by omega),LU] at H;exact ⟨[],La,hg.any.trans' S,H⟩
 have J:k<cl.length:=by omega
 have hl:=Ql2 (a:=cget cl G) (b:=cget cl E) J;have hm:=Qn.ints (L:=[]) H (by omega) (by simp);refine Qj<|Qg<|Qh<|Qd<|Qb<|Qf<|Qd<|Qb<|x (Qr O)<|x (Qa O)<|x (Qc h2.B O O)<|Qb<|xic (i:=k) hm O O (by omega) λhs ha=>?_;rw[hl] at ha;refine x (Qv ha O)<|Qb<|x (Zf O O)<|xe<|QI rfl (λV=>?_) (λV=>?_)
 ·refine Qj<|Qx<|QN O O<|Qb<|xe ?_;exact ⟨k+1,by omega,Lb,J,S,by rw[←QjV J V];exact H⟩
 refine Qx<|Qb<|x (Qr O)<|x (Qa O)<|x (Qc h2.B O O)<|Qb<|Qb<|x (QP (i:=k) Y O J) <|
  xl rfl<|UO (u:=cget cl E) H (by rw[hh];exact Y) O O (by omega) λw3 ho hp=>xe ?_
 refine Qx<|QN O O<|Qb<|xe<|⟨k+1,by omega,Lb,J,S.trans' ho,?_⟩;rw[←Ql1 J,show mgF (cget cl G) (cget cl E) (cget cl k)=cget cl E by unfold mgF;rw[if_pos V]];exact hp
theorem jg {L L':LN}{w:World}{c d:CV}(hc:CvA L w.heap c) (hd:CvA L' w.heap d) (l1:c.c.en.length≤1000000) (l2:c.c.dis.length≤1000000) (l3:d.c.en.length≤1000000) (l4:d.c.dis.length≤1000000) :
  QM prog 243 [.agg (Zl c).toArray,.agg (Zl d).toArray] w λr w'=>r=.bool (VE c.c d.c)∧Step [] w w':=by
 refine QM.of_W func243 O ntmps243 results243 (by simp) ?_;refine Qd<|xl O<|QS (us:=Zl c) O λb2 w1 hb hn he=>xl O<|QS (us:=Zl d) O λb3 w2 ha ho U=>Qf ?_;have E:=hb.trans ha;have e1:=X9 (· && ·) c.c.en d.c.dis;have e2:=X9 (· && ·) d.c.en c.c.dis;have V:=he.ext ha
 refine Qg<|Qg<|QV (Step [] w2) [(0,true),(1,true),(2,true),(3,true),(6,true),(7,true),(8,true),(9,true),(4,false),(5,true),(10,false),(11,true),(12,true),(13,true)] mixed (by rfl) (by kernel_rfl) (Step.drew _ _) ?_;refine p (λ_=>Qa O)<|pq (λ_ hc=>Qc (V.ext hc) O O)<|p (λ_=>Qa O)<|pq (λ_ hc=>Qc (U.ext hc) O O) <|
  p (λ_=>Qa O)<|pq (λ_ hc=>Qc (U.ext hc) O O)<|p (λ_=>Qa O)<|pq (λ_ hc=>Qc (V.ext hc) O O) <|
  pk<|xf<|(Je ((hc.en.ext E).ext (Step.drew _ _)) ((hd.dis.ext E).ext (Step.drew _ _)) (by omega)).mono ?_
 rintro v3 w3 ⟨hf,hg⟩;have G:=(Step.drew [] w2).trans hf;refine ⟨G,?_⟩;have hh:=Qn.ints (L:=[]) hg (by omega) (by simp);refine p (λ_=>Qw hh O)<|pk<|xf<|(Je ((hd.en.ext E).ext G) ((hc.dis.ext E).ext G) (by omega)).mono ?_;rintro v4 w4 ⟨hj,hk⟩;have H:=G.trans hj;refine ⟨H,?_⟩;have hl:=Qn.ints (L:=[]) hk (by omega) (by simp)
 refine p (λ_=>Qw hl O)<|p (λ_=>X1 O O ⟨by omega,by omega⟩)<|p (λ_=>ZL O O)<|pe ?_;have J:=E.trans H;refine Zc rfl (λhm=>?_) (λhm=>?_)
 ·refine Qd<|Qf<|Qs ⟨[.bool false],Lb,?_,J⟩;unfold VE meets;rw[decide_eq_false (by omega)];rfl
 have Y:decide ((meets c.c.en d.c.dis).length+(meets d.c.en c.c.dis).length=0)=true:=decide_eq_true (by unfold meets;omega);refine Qj ?_;have S:=V.ext H;have Z:=U.ext H;refine Qd ?_;rcases Bool.eq_false_or_eq_true c.c.ps with hp1 | hp1
 ·rcases Bool.eq_false_or_eq_true d.c.ps with hp2 | hp2
  ·refine x (Qa O)<|x (Qc (u:=.bool true) S O (congrArg (λb=>some (Value.bool b)) hp1))<|x (Zh O)<|Qb<|x (Qa O)<|x (Qc (u:=.bool true) Z O (congrArg (λb=>some (Value.bool b)) hp2)) <|
    x (Zh rfl)<|x (Qp O)<|Qb<|x (Qa O)<|x (Qc S O O)<|x (Qa O) <|
    x (Qc Z O O)<|x (Qdb O O)<|x (Qp O)<|Qf<|Qs ⟨[.bool (c.c.mk' == d.c.mk')],Lb,?_,J⟩
   unfold VE;rw[Y,hp1,hp2];rfl
  refine x (Qa O)<|x (Qc (u:=.bool true) S O (congrArg (λb=>some (Value.bool b)) hp1))<|x (Zh O)<|Qb<|x (Qa O)<|x (Qc (u:=.bool false) Z O (congrArg (λb=>some (Value.bool b)) hp2)) <|
   x (Zh rfl)<|x (Qp O)<|Qb<|xs O<|xs O<|xs O<|xs O<|xs O<|x (Qp O)<|Qf<|Qs ⟨[.bool true],Lb,?_,J⟩
  unfold VE;rw[Y,hp1,hp2];rfl
 refine x (Qa O)<|x (Qc (u:=.bool false) S O (congrArg (λb=>some (Value.bool b)) hp1))<|x (Zh O)<|Qb<|xs O<|xs O<|xs O <|
  x (Qp rfl)<|Qb<|xs O<|xs O<|xs O<|xs O<|xs O<|x (Qp O)<|Qf<|Qs ⟨[.bool true],Lb,?_,J⟩
 unfold VE;rw[Y,hp1];rfl
def Sht (cs:List CV):Prop:=∀c∈cs,c.c.en.length≤1000000∧c.c.dis.length≤1000000
theorem Qhu {N bm bs:Nat}{s:QE}{vl:Value}{cs:List CV}{vc:Value}{cl:LI}{w:World}(h:Mg N bm bs s vl cs vc cl w) (hl:cs.length=cl.length) (hn:cl.length≤4096) (hh:Sht cs) :
  QM prog 193 [.pointer (some ⟨bm,0,none⟩)] w λr w'=>r=.bool (Yc (cs.map (·.c)) cl)∧Step [] w w':=by
 refine QM.of_W func193 O ntmps193 results193 (by simp) ?_;have hI:=Qn.ints (L:=[]) h.c (by omega) (by simp);obtain ⟨q,hq⟩:∃q:Nat→Nat→Bool,q=λx y=>!(decide (0≤cget cl x∧cget cl x=cget cl y) && !VE (lget (cs.map (·.c)) x) (lget (cs.map (·.c)) y)):=⟨_,O⟩;have hw:Yc (cs.map (·.c)) cl=(List.range' 0 (cl.length - 0)).all λx=>(List.range' 0 (x - 0)).all (q x):=by subst hq;rfl
 rw[hw];refine Qd<|Qf<|Qg<|Qd<|Qb<|x (Qr O)<|x (Qa O)<|x (Qc h.B O O)<|x (Qw hI O)<|Qb<|xe<|Qh<|QC (α:=Nat) [(2,4),(10,61)] (λz=>[(10,.int .i64 z)]) (λz w'=>z≤cl.length∧Step [] w w'∧((List.range' 0 (cl.length - 0)).all λx=>(List.range' 0 (x - 0)).all (q x))=((List.range' z (cl.length - z)).all λx=>(List.range' 0 (x - 0)).all (q x)))
  (λz=>cl.length - z) (by rfl) 0 Lb ⟨Lm _,Step.refl _ _,O⟩ ?_
 rintro i g w1 ⟨hi,hk,V⟩;refine Qd<|x (QD O O)<|xe<|Qg<|QI O (λhy=>?_) (λhy=>?_)
 ·refine Qy<|Qd<|Qf<|Qs ⟨[.bool true],Lb,?_,hk⟩;rw[V,X5 (by omega)];rfl
 have H:i<cl.length:=by omega
 rw[Xc H,My] at V;refine Qj<|Qg<|Qh<|Qd<|Qb<|Qf<|Qd<|Qb<|Qb<|xe<|Qh<|QC (α:=Nat) [(2,2),(4,4),(14,60)] (λz=>[(14,.int .i64 z)]) (λz w'=>z≤i∧Step [] w w'∧(List.range' 0 (i - 0)).all (q i)=(List.range' z (i - z)).all (q i)) (λz=>i - z) (by rfl) 0 Lb
  ⟨Lm _,hk,O⟩ ?_
 rintro j g2 w2 ⟨hj,J,S⟩;refine Qd<|x (QD O O)<|xe<|Qg<|QI O (λhz=>?_) (λhz=>?_)
 ·refine Qy<|Qx<|QN O O<|Qb<|xe ?_;rw[X5 (a:=j) (by omega)] at S;refine ⟨i+1,by omega,Lb,H,J,?_⟩;rw[V,S];rfl
 have Y:j<i:=by omega
 rw[Xc Y,My] at S;have h2:=h.ext J;have Z:=Qn.ints (L:=[]) h2.c (by omega) (by simp);have E:i<cs.length:=by omega
 have G:j<cs.length:=by omega
 have U:q i j=!(decide (0≤cget cl i∧cget cl i=cget cl j) && !VE (cs[i]'E).c (cs[j]'G).c):=by subst hq;simp only[];rw[Uc rfl E,Uc rfl G]
 have ha:=hh _ (Lj E);have hb:=hh _ (Lj G);have hm:=h2.l.each _ (Lj E);have ho:=h2.l.each _ (Lj G);obtain ⟨ci,hp⟩:∃c,cs[i]'E=c:=⟨_,O⟩;obtain ⟨cj,hr⟩:∃c,cs[j]'G=c:=⟨_,O⟩;rw[hp] at ha hm U;rw[hr] at hb ho U
 refine Qj<|Qg<|Qh<|Qd<|Qb<|Qf<|Q0 (α:=Unit) [(17,59)] (λz=>[(59,.bool (!q i j))]) (λz w'=>Step [] w w') (by rfl) ?_ ?_
 ·refine QV (Step [] w2) [(0,true),(1,true),(2,true),(3,true),(4,true),(5,true),(6,true),(7,true),(8,true),(9,true),(10,true),(11,true),(12,true),(13,true),(14,true),(15,true),(16,true),(17,true),(18,true),(19,true),(20,true),(21,true),(22,true),(23,true),(24,true),(25,true),(26,true),(27,true),(28,true),(29,true),(30,true),(31,true),(32,true),(33,true),(34,true),(35,true),(36,true),(37,true),(38,true),(39,true),(40,false),(41,true),(42,true)] mixed (by rfl) (by kernel_rfl) (Step.drew _ _) ?_
  refine p (λ_=>Ql)<|p (λ_=>Qr O)<|p (λ_=>Qa O)<|pq (λ_ hc=>Qc (h2.B.ext hc) O O)<|p (λ_=>Ql)<|pic (i:=i) O Z O O H λh5 h0 =>
   pq (λ_ hc=>Qv (h0.ext hc) O)<|pb (λ_=>Yg O O) (λhe=>?_) (λhe=>?_)
  ·refine p (λ_=>Ql)<|p (λ_=>Ql)<|p (λ_=>Qr O)<|p (λ_=>Qa O)<|pq (λ_ hc=>Qc (h2.B.ext hc) O O)<|p (λ_=>Ql) <|
    pic (i:=i) O Z O O H λh6 h1=>pq (λ_ hc=>Qv (h1.ext hc) O)<|p (λ_=>Ql)<|p (λ_=>Qr O) <|
    p (λ_=>Qa O)<|pq (λ_ hc=>Qc (h2.B.ext hc) O O)<|p (λ_=>Ql)<|pic (i:=j) O Z O O (Nat.lt_trans Y H) λh7 h3=>pq (λ_ hc=>Qv (h3.ext hc) O) <|
    pb (λ_=>Zf O O) (λhf=>?_) (λhf=>?_)
   ·refine p (λ_=>Qp O)<|p (λ_=>Ql)<|p (λ_=>Ql)<|p (λ_=>Qr O)<|p (λ_=>Qa O)<|pq (λ_ hc=>Qc (h2.B.ext hc) O O) <|
     p (λ_=>Ql)<|pig (g:=Zl) (i:=i) O Yi h2.l.arr O O E λh8 hs=>?_
    rw[hp] at hs;refine pq (λ_ hc=>QQ (hs.ext hc) O O)<|p (λ_=>Ql) <|
     p (λ_=>Qr O)<|p (λ_=>Qa O)<|pq (λ_ hc=>Qc (h2.B.ext hc) O O)<|p (λ_=>Ql)<|pig (g:=Zl) (i:=j) O Yi h2.l.arr O O G λh9 ht=>?_
    rw[hr] at ht;refine pq (λ_ hc=>QQ (ht.ext hc) O O)<|pk<|xf<|(jg (hm.ext (Step.drew _ _)) (ho.ext (Step.drew _ _)) ha.1 ha.2 hb.1 hb.2).mono ?_;rintro r3 w3 ⟨rfl,h4⟩;have hu:=(Step.drew [] w2).trans h4;refine ⟨hu,?_⟩;refine p (λ_=>Zh O)<|p (λ_=>Qp O)<|pe ?_;refine ⟨(),⟨congrArg Value.bool ?_,La⟩,J.trans hu⟩;rw[U,decide_eq_true ⟨he,hf⟩];simp
   refine p (λ_=>Qp O)<|p (λ_=>Ql)<|ps<|ps<|ps<|ps<|ps<|ps<|ps<|ps<|ps<|ps<|ps<|ps<|ps<|ps<|ps<|ps<|p (λ_=>Qp O) <|
    pe ?_
   refine ⟨(),⟨congrArg Value.bool ?_,La⟩,J.trans (Step.drew _ _)⟩;rw[U,decide_eq_false (λe=>hf e.2)];rfl
  refine p (λ_=>Ql)<|ps<|ps<|ps<|ps<|ps<|ps<|ps<|ps<|ps<|ps<|ps<|ps<|ps<|ps<|ps<|p (λ_=>Qp O)<|p (λ_=>Ql) <|
   ps<|ps<|ps<|ps<|ps<|ps<|ps<|ps<|ps<|ps<|ps<|ps<|ps<|ps<|ps<|ps<|p (λ_=>Qp O)<|pe ?_
  refine ⟨(),⟨congrArg Value.bool ?_,La⟩,J.trans (Step.drew _ _)⟩;rw[U,decide_eq_false (λe=>he e.1)];rfl
 rintro _ g4 w4 hv;refine Q8 rfl (λhg=>?_) (λhg=>?_)
 ·refine Qd<|Qf<|Qs ⟨[.bool false],Lb,?_,hv⟩;rw[V,S,show q i j=false by simpa using hg];rfl
 refine Qj<|Qx<|QN O O<|Qb<|xe<|⟨j+1,by omega,Lb,Y,hv,?_⟩;rw[S,show q i j=true by simpa using hg];rfl
structure ClS (N:Nat) (vc:Value) (n U:Nat) (w0:World) (z:LI×Bool) (w:World):Prop where
 st:Step (ob vc) w0 w
 c:Qn 3 N w vc z.1
 len:z.1.length=n
 le:uneq z.1≤U
 lt:z.2=true→uneq z.1<U
theorem ClS.ext {N:Nat}{vc:Value}{n U:Nat}{E w w':World}{z:LI×Bool}(h:ClS N vc n U E z w) (hs:Step [] w w'):ClS N vc n U E z w':=⟨h.st.trans hs,Qt h.c hs,h.len,h.le,h.lt⟩
theorem Qmw {s:QE}{x y:Nat}{z:LI×Bool}{v:Int}{u t:Nat}(hu:X4 s x v=u) (ht:X4 s y v=t):clE s x y z v=if cget z.1 u≠cget z.1 t then (Zq z.1 u t,true) else z:=by
 unfold clE;rw[hu,ht,LY,LY]
set_option maxHeartbeats 4000000 in
theorem QfO {N bm bs:Nat}{s:QE}{vl:Value}{cs:List CV}{vc:Value}{cl:LI}{w:World}(h:Mg N bm bs s vl cs vc cl w) (hl:cs.length=cl.length) (hn:cl.length≤4096) (hH:Sht cs)
  (hI:s.ed.Pairwise λx y=>x.1<y.1∨(x.1=y.1∧x.2.1<y.2.1)) (h2:StB s cl.length) :
  QM prog 192 [.pointer (some ⟨bm,0,none⟩)] w λ_ w'=>Step (ob vc) w w'∧Qn 3 N w' vc (YS s (cs.map (·.c)) (cl.length*cl.length+1) cl):=by
 refine QM.of_W func192 O ntmps192 results192 (by simp) ?_;obtain ⟨l,hJ⟩:∃l,cs.map (·.c)=l:=⟨_,O⟩;obtain ⟨n,hw⟩:∃n,cl.length=n:=⟨_,O⟩;rw[hJ,hw];rw[hw] at hn hl h2;obtain ⟨T,hT⟩:∃T,YS s l (n*n+1) cl=T:=⟨_,O⟩;rw[hT];have gj:=Vf cl;rw[hw] at gj;refine Qd<|Qf<|Qh<|QC (α:=LI×Bool×Nat) [(2,4),(6,112)] (λz=>[(2,.bool z.2.1)])
  (λz w'=>Step (ob vc) w w'∧Qn 3 N w' vc z.1∧z.1.length=n∧(z.2.1=true→YS s l z.2.2 z.1=T∧uneq z.1<z.2.2)∧(z.2.1=false→z.1=T))
  (λz=>bif z.2.1 then uneq z.1+1 else 0) (by rfl) (cl,true,n*n+1) Lb ⟨Step.refl _ _,h.c,hw,λ_=>⟨hT,by simp only[];omega⟩,λe=>by cases e⟩ ?_
 rintro ⟨c1,more,fu⟩ g1 w1 ⟨h3,hf,hy,hK,hL⟩;simp only[] at hf hy hK hL;have h4:=h.st h3 hf;refine Qg<|Qd<|Qb<|xe<|Q8 rfl (λh9=>?_) (λh9=>?_)
 rotate_left
 ·refine Qy ?_;have e:=hL h9;rw[e] at hf;exact ⟨[],La,h3,hf⟩
 obtain ⟨hm,kq⟩:=hK h9;obtain ⟨f',gk⟩:∃f',fu=f'+1:=⟨fu - 1,by omega⟩;obtain ⟨U,hU⟩:∃U,uneq c1=U:=⟨_,O⟩;obtain ⟨Pz,hP⟩:∃Pz,pass s l c1=Pz:=⟨_,O⟩;rw[gk,YS,hP] at hm;unfold pass at hP;rw[hy] at hP;refine Qj<|Qh<|Qd<|Qf<|Qd ?_;have gl:=Qn.ints (L:=[]) hf (by omega) (by simp);have gm:Zz [] w1.heap vc n 1 (c1.map (.int .i64)):=by rw[←hy];exact gl
 refine Qb<|x (Qr O)<|x (Qa O)<|x (Qc h4.B O O)<|x (Qw gm O)<|Qb<|xe<|Qh<|QC (α:=(LI×Bool)×Nat) [(2,4),(6,8),(15,112)] (λz=>[(2,.bool z.1.2),(15,.int .i64 z.2)])
  (λz w'=>ClS N vc n U w1 z.1 w'∧z.2≤n∧(List.range' z.2 (n - z.2)).foldl (clX s l n) z.1=Pz) (λz=>n - z.2) (by rfl) ((c1,false),0) ⟨O,O,La⟩
  ⟨⟨Step.refl _ _,hf,hy,by simp only[];omega,λe=>by cases e⟩,Lm _,hP⟩ ?_
 rintro ⟨S,i⟩ g2 w2 ⟨Y,hi,hg⟩;simp only[] at Y hi hg;refine Qd<|x (QD O O)<|xe<|Qg<|QI O (λgn=>?_) (λgn=>?_)
 ·refine Qy ?_;rw[X5 (by omega)] at hg;have gq:S=Pz:=hg;subst gq;refine ⟨(S.1,S.2,f'),?_,Lb,h3.trans' Y.st,Y.c,Y.len,λe=>?_,λe=>?_⟩
  ·show (bif S.2 then uneq S.1+1 else 0)<(bif more then uneq c1+1 else 0);rw[show more=true from h9,cond_true];cases hz:S.2
   ·rw[cond_false];omega
   rw[cond_true];have:=Y.lt hz;omega
  ·simp only[] at e ⊢;rw[if_pos e] at hm;exact ⟨hm,by have:=Y.lt e;omega⟩
  simp only[] at e ⊢;rw[if_neg (by rw[e];simp)] at hm;exact hm
 have h5:i<n:=by omega
 rw[Xc h5,Ls] at hg;obtain ⟨Z1,h6⟩:∃Z,clX s l n S i=Z:=⟨_,O⟩;rw[h6] at hg;unfold clX at h6;refine Qj<|Qg<|Qh<|Qd<|Qb<|Qf<|Qd<|Qb<|QN O O<|Qf<|Qh<|QC (α:=(LI×Bool)×Nat) [(2,2),(4,4),(6,8),(20,111)] (λz=>[(2,.bool z.1.2),(4,.int .i64 z.2)])
  (λz w'=>ClS N vc n U w1 z.1 w'∧z.2≤n∧(List.range' z.2 (n - z.2)).foldl (clY s l i) z.1=Z1) (λz=>n - z.2) (by rfl) (S,i+1) ⟨O,O,La⟩ ⟨Y,h5,h6⟩ ?_
 rintro ⟨G,j⟩ g3 w3 ⟨ha,hj,he⟩;simp only[] at ha hj he;have ho:=h4.st ha.st ha.c;have gr:=ha.len;have h0:=Qn.ints (L:=[]) ha.c (by omega) (by simp);have gs:Zz [] w3.heap vc n 1 (G.1.map (.int .i64)):=by rw[←gr];exact h0
 refine Qg<|Qd<|Qb<|Qb<|x (Qr O)<|x (Qa O)<|x (Qc ho.B O O)<|x (Qw gs O)<|x (QD O O)<|xe<|QI rfl (λgt=>?_) (λgt=>?_)
 ·refine Qy<|Qx<|QN O O<|Qb<|xe ?_;rw[X5 (by omega)] at he;have gu:G=Z1:=he;refine ⟨(G,i+1),by simp only[];omega,⟨O,O,La⟩,ha,h5,?_⟩;simp only[];rw[gu];exact hg
 have h7:j<n:=by omega
 rw[Xc h7,Ls] at he;obtain ⟨Z2,H⟩:∃Z,clY s l i G j=Z:=⟨_,O⟩;rw[H] at he;unfold clY at H;have hM:i<G.1.length:=by omega
 have gv:j<G.1.length:=by omega
 have hp:i<cs.length:=by omega
 have hq:j<cs.length:=by omega
 refine Qj<|Qg<|Qh<|Qg<|Q0 (α:=Unit) [(29,53)] (λz=>[(53,.bool (decide (cget G.1 i<0∨cget G.1 i≠cget G.1 j)))]) (λz w'=>Step [] w3 w') (by rfl) ?_ ?_
 ·refine QV (Step [] w3) [(0,true),(1,true),(2,true),(3,true),(4,true),(5,true),(6,true),(7,true),(8,true),(9,true),(10,true),(11,true),(12,true),(13,true),(14,true),(15,true),(16,true),(17,true),(18,true),(19,true),(20,true),(21,true),(22,true),(23,true),(24,true)] mixed (by rfl) (by kernel_rfl) (Step.drew _ _) ?_
  refine p (λ_=>Ql)<|p (λ_=>Qr O)<|p (λ_=>Qa O)<|pq (λ_ hc=>Qc (ho.B.ext hc) O O)<|p (λ_=>Ql)<|pic (i:=i) O h0 O O hM λkr gx =>
   pq (λ_ hc=>Qv (gx.ext hc) O)<|pb (λ_=>QD O O) (λh8=>?_) (λh8=>?_)
  ·refine p (λ_=>Ql)<|ps<|ps<|ps<|ps<|ps<|ps<|ps<|ps<|ps<|ps<|ps<|ps<|ps<|ps<|ps<|p (λ_=>Qp O)<|pe ?_;exact ⟨(),⟨congrArg Value.bool (decide_eq_true (.inl h8)).symm,La⟩,Step.drew _ _⟩
  refine p (λ_=>Ql)<|p (λ_=>Ql)<|p (λ_=>Qr O)<|p (λ_=>Qa O)<|pq (λ_ hc=>Qc (ho.B.ext hc) O O)<|p (λ_=>Ql) <|
   pic (i:=i) O h0 O O hM λkt gy=>pq (λ_ hc=>Qv (gy.ext hc) O)<|p (λ_=>Ql)<|p (λ_=>Qr O) <|
   p (λ_=>Qa O)<|pq (λ_ hc=>Qc (ho.B.ext hc) O O)<|p (λ_=>Ql)<|pic (i:=j) O h0 O O gv λku gz=>pq (λ_ hc=>Qv (gz.ext hc) O) <|
   p (λ_=>Zj O O)<|p (λ_=>Qp O)<|pe ?_
  refine ⟨(),⟨congrArg Value.bool ?_,La⟩,Step.drew _ _⟩;exact decide_eq_decide.2 ⟨λe=>.inr e,λe=>e.resolve_left h8⟩
 rintro _ g4 w4 hN;have hA:=ha.ext hN;refine Zc rfl (λhB=>?_) (λhB=>?_)
 ·rw[if_pos hB] at H;refine Qy<|Qx<|Qb<|QN O O<|Qf<|⟨(G,j+1),by simp only[];omega,⟨O,O,La⟩,hA,h7,?_⟩;simp only[];rw[H];exact he
 rw[if_neg hB] at H;have hh:=ho.ext hN;have g0:=hH _ (Lj hp);have g5:=hH _ (Lj hq);have hO:=hh.l.each _ (Lj hp);have hQ:=hh.l.each _ (Lj hq);rw[←hJ,Uc rfl hp,Uc rfl hq] at H;obtain ⟨ci,hR⟩:∃c,cs[i]'hp=c:=⟨_,O⟩;obtain ⟨cj,hS⟩:∃c,cs[j]'hq=c:=⟨_,O⟩;rw[hR] at g0 hO H;rw[hS] at g5 hQ H
 obtain ⟨E,hE⟩:∃E,meets ci.c.en cj.c.en=E:=⟨_,O⟩;rw[hE] at H;unfold meets at hE;have g7:=X9 (· && ·) ci.c.en cj.c.en;rw[hE] at g7;refine Qj<|Qg<|QV (Step [] w4) [(0,true),(1,true),(2,true),(3,true),(4,true),(5,true),(6,true),(7,true),(8,true),(9,true),(10,true),(11,true),(12,true),(13,true),(14,true),(15,true),(18,true),(16,false),(17,true)] mixed (by rfl) (by kernel_rfl) (Step.drew _ _) ?_
 refine p (λ_=>Ql)<|p (λ_=>Qr O)<|p (λ_=>Qa O)<|pq (λ_ hc=>Qc (hh.B.ext hc) O O)<|p (λ_=>Ql)<|pig (g:=Zl) (i:=i) O Yi hh.l.arr O O hp λkv hV=>?_;rw[hR] at hV;refine p (λ_=>Zn O)<|pq (λ_ hc=>Qv ((hV.fld 0 _ O).ext hc) O)<|p (λ_=>Ql)<|p (λ_=>Qr O)<|p (λ_=>Qa O) <|
  pq (λ_ hc=>Qc (hh.B.ext hc) O O)<|p (λ_=>Ql)<|pig (g:=Zl) (i:=j) O Yi hh.l.arr O O hq λkw hW=>?_
 rw[hS] at hW;refine p (λ_=>Zn O)<|pq (λ_ hc=>Qv ((hW.fld 0 _ O).ext hc) O) <|
  p (λ_=>Ql)<|pk<|xf<|(Je (hO.en.ext (Step.drew _ _)) (hQ.en.ext (Step.drew _ _)) (by omega)).mono ?_
 rintro vE w5 ⟨g8,hX⟩;rw[hE] at hX;have hY:=(Step.drew [] w4).trans g8;refine ⟨hY,?_⟩;have g9:=QY hA.c;have hZ:=Qn.ints (L:=ob vc) hX (by omega) (λb hb=>g9 b hb);refine p (λ_=>Qw hZ O)<|pe ?_;have ka:=hA.ext hY;refine Qh<|QC (α:=(LI×Bool)×Nat) [(2,2),(6,8),(72,111)] (λz=>[(2,.bool z.1.2),(72,.int .i64 z.2)])
  (λz w'=>ClS N vc n U w1 z.1 w'∧Step (ob vc) w5 w'∧z.2≤E.length∧(E.drop z.2).foldl (clE s i j) z.1=Z2) (λz=>E.length - z.2) (by rfl) (G,0) ⟨O,O,La⟩ ⟨ka,Step.refl _ _,Lm _,H⟩ ?_
 rintro ⟨z6,k⟩ g6 w6 ⟨V,ga,hk,J⟩;simp only[] at V hk J;have kb:=V.len;refine Qd<|x (QD O O)<|xe<|Qg<|QI O (λkc=>?_) (λkc=>?_)
 ·refine Qy ?_;rw[Lr (by omega)] at J;have ke:z6=Z2:=J;refine Qx<|Qb<|QN O O<|Qf<|⟨(z6,j+1),by simp only[];omega,⟨O,O,La⟩,V,h7,?_⟩;simp only[];rw[ke];exact he
 have hr:k<E.length:=by omega
 rw[LQ hr,Ls,Q5 hr] at J;obtain ⟨v,hv⟩:∃v,cget E k=v:=⟨_,O⟩;rw[hv] at J;have kf:=hZ.st ga;have hs:=h4.st V.st V.c;have kg:=Qn.ints (L:=[]) V.c (by omega) (by simp);have kx:=QcW h2 (by omega) i v;have kz:=QcW h2 (by omega) j v;obtain ⟨u,hu⟩:∃u:Nat,X4 s i v=u:=⟨(X4 s i v).toNat,by omega⟩
 obtain ⟨t,ht⟩:∃t:Nat,X4 s j v=t:=⟨(X4 s j v).toNat,by omega⟩;rw[Qmw hu ht] at J;have hC:u<z6.1.length:=by omega
 have hD:t<z6.1.length:=by omega
 refine Qj<|Qg<|Qh<|Qd<|xic kf O O hr λk0 gc=>?_;rw[hv] at gc;refine x (Qv gc O)<|Qf<|Qg<|QV (Step [] w6) [(0,true),(1,true),(2,true),(3,true),(4,true),(5,true),(6,true),(7,true),(8,true),(9,true),(10,true),(11,true),(12,true),(13,true),(14,true),(15,true),(16,true),(17,true)] mixed (by rfl) (by kernel_rfl) (Step.drew _ _) ?_
 refine p (λ_=>Ql)<|p (λ_=>Qr O)<|p (λ_=>Qa O)<|pq (λ_ hc=>Qc (hs.B.ext hc) O O)<|p (λ_=>Ql)<|p (λ_=>Ql) <|
  p (λ_=>QG ⟨O,O,La⟩)<|pq (λ_ hc=>Qas (hs.m.ext hc) hI hu O O)<|p (λ_=>Ql)<|p (λ_=>Qr O)<|p (λ_=>Qa O) <|
  pq (λ_ hc=>Qc (hs.B.ext hc) O O)<|p (λ_=>Ql)<|p (λ_=>Ql)<|p (λ_=>QG ⟨O,O,La⟩)<|pq (λ_ hc=>Qas (hs.m.ext hc) hI ht O O) <|
  p (λ_=>Qe)<|p (λ_=>Qe)<|pe ?_
 have hd:=Step.drew [] w6;have kh:=V.ext hd;have hF:=hs.ext hd;have ki:=ga.trans hd;have ge:=kg.ext hd;refine Qg<|QV (Step [] { w6 with drawn:=w6.drawn+1 }) [(0,true),(1,true),(2,true),(3,true),(4,true),(5,true),(6,true),(7,true),(8,true),(9,true),(10,true),(11,true),(12,true),(13,true),(14,true)] mixed (by rfl) (by kernel_rfl) (Step.drew _ _) ?_
 refine p (λ_=>Ql)<|p (λ_=>Qr O)<|p (λ_=>Qa O)<|pq (λ_ hc=>Qc (hF.B.ext hc) O O)<|p (λ_=>Ql)<|pic (i:=u) O ge O O hC λk4 kj =>
  pq (λ_ hc=>Qv (kj.ext hc) O)<|p (λ_=>Ql)<|p (λ_=>Qr O)<|p (λ_=>Qa O)<|pq (λ_ hc=>Qc (hF.B.ext hc) O O) <|
  p (λ_=>Ql)<|pic (i:=t) O ge O O hD λk5 kk=>pq (λ_ hc=>Qv (kk.ext hc) O)<|p (λ_=>Zj O O) <|
  pe ?_
 have hG:=Step.drew [] { w6 with drawn:=w6.drawn+1 }
 have gg:=kh.ext hG;have kn:=hF.ext hG;have gh:=ki.trans hG;refine QI rfl (λh1=>?_) (λh1=>?_)
 ·rw[if_neg h1] at J;refine Qj<|Qx<|QN O O<|Qb<|xe ?_;exact ⟨(z6,k+1),by simp only[];omega,⟨O,O,La⟩,gg,gh,hr,J⟩
 rw[if_pos h1] at J;have k6:=VC hC hD h1;have k7:=V.le;refine Qd<|Qb<|Qb<|Qb<|xl O<|xf<|(jA kn hC hD (by omega)).mono ?_;rintro r9 w9 ⟨gi,ko⟩;refine xe<|Qx<|Qf<|Qx<|QN O O<|Qb<|xe ?_;exact ⟨((Zq z6.1 u t,true),k+1),by simp only[];omega,⟨O,O,La⟩,⟨gg.st.trans' gi,ko,by simp only[ZC];exact kb,by simp only[];omega,λ_=>by simp only[];omega⟩,gh.trans' gi,hr,J⟩
end Go.Proofs.YtdffckgdcegpaaaGreatDoor
namespace Go.Lg
section
variable {P:Program} {f:Fr} {w:World} {d:Option Nat} {ty:Nat} {ps:String} {af:Array Edge} {gd:Option (Nat×Bool)} {κ:Type} [DecidableEq κ]
theorem zw {t kt et:Nat}{z:Value}[hm:Mp P t kt et z] {enc:κ→Value}[hk:Key P kt enc] {x y:Operand}{b:Nat}{m:List (κ×Value)}{k:κ}{u:Value}(h:ZE enc w.heap b m) (hx:ev f x=.map (some b)) (hy:ev f y=enc k) (E:mget m k=some u) :
  (execOp (ev f) ⟨d,.lookup t x y false,ty,ps,af,gd⟩).run P w=.ok (.value u) w:=by
 rw[Xv h hx hy,E]
end
end Go.Lg
namespace Go.Proofs.YtdffckgdcegpaaaGreatDoor
open Go.Proofs.Tryz
open Go.Lg
structure QdT (m:List (Int×Value)) (K:LI):Prop where
 g:∀c,mget m c=if c∈K then some (.int .i64 ((K.idxOf c:Int) - 1)) else none
 len:m.length=K.length
theorem QdT.add {m:List (Int×Value)}{K:LI}(h:QdT m K) {c:Int}(hc:c∉K):QdT (mput m c (.int .i64 ((K.length:Int) - 1))) (K++[c]):=by
 refine ⟨λd=>?_,?_⟩
 ·rw[Xx,h.g d];by_cases e:c=d
  ·subst e;rw[if_pos rfl,if_pos (by simp),L3,if_neg hc];simp
  rw[if_neg e];by_cases hm:d∈K
  ·rw[if_pos hm,if_pos (by simp[hm]),L3,if_pos hm]
  rw[if_neg hm,if_neg (by simp[hm,Ne.symm e])]
 rw[qD (by rw[h.g c,if_neg hc]),h.len];simp
theorem QdM (l:List Bool):l.flatMap (λb=>[Value.bool b])=l.map .bool:=by induction l with | nil=>rfl | cons a l ih=>simp[ih]
theorem V6 (n:Nat) (q:List (LI)):(occs n q).length=n:=by
 unfold occs;have:∀(q:List (LI)) (o:List Bool),(q.foldl (λo q=>o.set (py q).toNat true) o).length=o.length:=by
  intro q;induction q with
  | nil=>intro o;rfl
  | cons a q ih=>intro o;rw[Ls,ih];simp
 rw[this];simp
theorem Qhm (z:LI×LI) (c:Int):(Jm z c).2.length=z.2.length+1:=by unfold Jm;split <;> simp
theorem QbI:∀(l:LI) (z:LI×LI),(l.foldl Jm z).2.length=z.2.length+l.length
 | [],z=>by simp
 | c::l,z=>by rw[Ls,QbI l,Qhm];simp;omega
theorem QgW {l:LI}{n k:Nat}{u:Int}(hl:l.length=k) (hk:k<n):(l++List.replicate (n - k) 0).set k u=(l++[u])++List.replicate (n - (k+1)) 0:=by
 rw[Nu _ _ (by omega),hl,Nn,show n - k=(n - (k+1))+1 by omega,List.replicate_succ,NG,LB];rfl
theorem exD {α:Type}(a:α):∃b,a=b:=⟨a,O⟩
theorem yw (aS:QE) (l:List Z6):∀(f:Nat) (c:LI),(YS aS l f c).length=c.length:=by
 have e1:∀(z:LI×Bool) (v:Int) (x y:Nat),(clE aS x y z v).1.length=z.1.length:=λz v x y=>by unfold clE;split <;> simp[ZC]
 have e2:∀(E:LI) (x y:Nat) (z:LI×Bool),(E.foldl (clE aS x y) z).1.length=z.1.length:=by
  intro E x y;induction E with
  | nil=>intro z;rfl
  | cons a E ih=>intro z;rw[Ls,ih,e1]
 have H:∀(x:Nat) (z:LI×Bool) (y:Nat),(clY aS l x z y).1.length=z.1.length:=λx z y=>by unfold clY;split;rfl;exact e2 _ _ _ _
 have J:∀(G:LN) (x:Nat) (z:LI×Bool),(G.foldl (clY aS l x) z).1.length=z.1.length:=by
  intro G x;induction G with
  | nil=>intro z;rfl
  | cons a G ih=>intro z;rw[Ls,ih,H]
 have S:∀(xs:LN) (m:Nat) (z:LI×Bool),(xs.foldl (clX aS l m) z).1.length=z.1.length:=by
  intro xs m;induction xs with
  | nil=>intro z;rfl
  | cons a xs ih=>intro z;rw[Ls,ih];unfold clX;exact J _ _ _
 have U:∀(f:Nat) (c:LI),(YS aS l f c).length=c.length:=by
  intro f;induction f with
  | zero=>intro c;rfl
  | succ f ih =>
   intro c;rw[YS];have:(pass aS l c).1.length=c.length:=by unfold pass;exact S _ _ _
   split
   ·rw[ih,this]
   exact this
 exact U
set_option maxHeartbeats 8000000 in
theorem yx {L:LN}{w:World}{pva pvm pve sa sm se vt:Value}{aP aS:QE}{qs:List TV}(hp:Zi L w.heap pva pvm pve aP) (hs:Zi L w.heap sa sm se aS) (mc:QK aP) (hC:QK aS)
  (ht:XB L w.heap vt qs) (hq:∀q∈qs,Vt [aP,aS] q.2) (mf:qs.length≤4096) :
  QM prog 120 [.agg #[pva,.int .i64 aP.st,pvm,pve],.agg #[sa,.int .i64 aS.st,sm,se],vt] w λr w'=>Step [] w w'∧∃vo vl,r=.tuple #[vo,vl] ∧
   Qn 3 w.heap.size w' vo (Ka aP aS (qs.map (·.2)))∧Qa4 w.heap.size w'.heap vl (ctls aP aS (qs.map (·.2)))∧(∀c∈ctls aP aS (qs.map (·.2)),c.en.length≤1000000∧c.dis.length≤1000000):=by
 obtain ⟨n,hn⟩:∃n:Nat,aS.st=n:=⟨aS.st.toNat,by have:=hC.st0;omega⟩;have q1:n≤4096:=by have:=hC.st1;omega
 have hV:aS.st.toNat=n:=by omega
 have mg:StB aS n:=λe he=>by have:=hC.ed e he;omega
 refine QM.of_W func120 O ntmps120 results120 (by simp) ?_;refine Qd<|xl O<|QS (us:=[pva,.int .i64 aP.st,pvm,pve]) O λb3 w1 g4 q2 mh=>xl O<|QS (us:=[sa,.int .i64 aS.st,sm,se]) O λb4 w2 hW q3 g6=>x Qe<|Qf ?_;have hy:=g4.trans hW;refine Qd<|x (Qo (mh.ext hW) O O)<|x (Qo g6 O O)<|Qb<|xl O<|xf<|(qo (hp.ext hy) (hs.ext hy) mc hC (ht.ext hy) hq mf).mono ?_
 rintro r3 w3 ⟨hX,vl,bo,rfl,hY,hZ,q4,ga⟩;refine Qb<|x (Qk O O)<|x (Qk O O)<|x Qe<|Qf ?_;obtain ⟨l,hM⟩:=exD (ctls aP aS (qs.map (·.2)));obtain ⟨os,gc⟩:=exD (occs aS.st.toNat (qs.map (·.2)));have ge:os.length=n:=by rw[←gc,V6,hV]
 have mj:Ka aP aS (qs.map (·.2))=nums (YR aS l (yv os)):=by unfold Ka;rw[hM,gc]
 rw[hM] at hY hZ;rw[gc] at ga;rw[mj,hM];rw[hV];have q5:=hY;obtain ⟨cs,hE,gg⟩:=hY;have j1:cs.length=n:=by
  have:l.length=n:=by
   rw[←hM];unfold ctls;have:∀(q:List (LI)) (o:List Z6),(q.foldl (yu aP aS) o).length=o.length:=by
    intro q;induction q with
    | nil=>intro o;rfl
    | cons a q ih=>intro o;rw[Ls,ih];simp[yu]
   rw[this];simp[hV]
  rw[←hE] at this;simpa using this
 have ka:Sht cs:=λc hc=>hZ c.c (by rw[←hE];exact LX hc);have kb:=hy.trans hX;have mo:=g6.ext hX;refine Qd<|Qb<|x (Qo mo O O)<|xl O<|xf<|(JV (hs.ed.ext kb)).mono ?_;rintro r4 w4 ⟨kc,bs,rfl,j2,ke⟩;refine x (QG ⟨(gg [] (by simp)).arr.cells,rfl,La⟩)<|xl rfl<|QS (us:=[nS,vl,.map (some bs)]) rfl λbm E gh za kf =>
  Qf ?_
 have zb:=g4.size;have z0:=hW.size;have z1:=hX.size;have z2:=kc.size;have z3:=gh.size;have z4:=ke.lt;have kg:=kf.lt;have z5:=ga.lt;have hN:=kc.trans gh;have mq:Step [] w E:=kb.trans hN;have ms:=ke.ext gh
 have mk:∀(vc:Value) (cl:LI) (w':World),Step [bm] E w'→QX w'.heap bm 300 [vc,vl,.map (some bs)]→Qn 3 E.heap.size w' vc cl→Mg E.heap.size bm bs aS vl cs vc cl w':=by
  intro vc cl w' hF hB hc;have hge:=Qm hc;refine ⟨hB,hc,?_,ms.step hF (by simp;omega),QU hc kg,QU hc (by omega)⟩;have h1:Kg (bm::ob vc) w3.heap vl cs:=(gg [] (by simp)).up (λb hb=>.inr (by
   rcases Li.1 hb with rfl | hb
   ·omega
   have:=(hge b hb).1;omega))
  exact ((h1.ext hN).st (hF.mono (by simp))).up (λb hb=>.inl (Le _ hb))
 have kh:Zz [bm] E.heap (.slice (some ⟨bo,0,none⟩) n n) os.length 1 (os.flatMap (λb=>[Value.bool b])):=by
  rw[QdM,ge];exact (ga.ext hN).arr (by simp;omega) (by simp[ge]) (by omega) (Lv _)
 refine Q0 (α:=Value) [(11,12),(34,53)] (λz=>[]) (λz w'=>Step [bm] E w'∧QX w'.heap bm 300 [z,vl,.map (some bs)]∧Qn 3 E.heap.size w' z (yv os)) (by rfl) ?_ ?_
 ·refine Qd<|Qb<|x (Qw kh O)<|Qb<|xe<|Qh<|QC (α:=Nat×Value) [(11,12),(36,53)] (λz=>[(36,.int .i64 z.1)])
   (λz w'=>z.1≤os.length∧Step [bm] E w'∧QX w'.heap bm 300 [z.2,vl,.map (some bs)]∧Qn 3 E.heap.size w' z.2 ((List.range' 0 z.1).map λi=>if os.getD i false=true then (i:Int) else -1))
   (λz=>os.length - z.1) (by rfl) (0,nS) Lb ⟨Lm _,Step.refl _ _,kf,QR _ _ _ _⟩ ?_
  rintro ⟨k,vc⟩ g w6 ⟨hk,hh,ha,J⟩;simp only[] at hk ha J;have z6:=hh.size;refine Qd<|x (QD O O)<|xe<|Qg<|QI O (λmt=>?_) (λmt=>?_)
  ·refine Qy ?_;have hO:k=os.length:=by omega
   rw[hO] at J;exact ⟨vc,La,hh,ha,J⟩
  have G:k<os.length:=by omega
  obtain ⟨is,ki⟩:=exD (os[k]'G);have V:os.getD k false=is:=by rw[←ki];simp[List.getD,G]
  obtain ⟨q,gi⟩:=exD ((if is=true then (k:Int) else -1))
  have mu:=kh.st hh;refine Qj<|Qg<|Qh<|Qd<|Qb<|xig (g:=λb=>[Value.bool b]) (λ_=>O) mu O O G λz9 kj=>?_;rw[ki] at kj;refine x (Qv kj O)<|x Qe<|Qf<|Q0 (α:=Unit) [(11,11),(41,42)] (λz=>[(11,.int .i64 q)]) (λz w'=>w'=w6) (by rfl) ?_ ?_
  ·refine Qd<|Qb<|x (Zh O)<|xe<|Q8 O (λgj=>?_) (λgj=>?_)
   ·refine Qx<|Qf ?_;have e:is=false:=by simpa using gj
    exact ⟨(),⟨congrArg (Value.int .i64) (by rw[←gi,if_neg (by rw[e];simp)]),La⟩,rfl⟩
   refine Qj ?_;have e:is=true:=by simpa using gj
   exact ⟨(),⟨congrArg (Value.int .i64) (by rw[←gi,if_pos e]),La⟩,rfl⟩
  rintro _ g2 w7 rfl;refine Qx<|Qb<|Qb<|x (Qr O)<|x (Qa O)<|x (Qc ha O O)<|Qb<|xl O<|QL (us:=[[.int .i64 q]]) O O (by decide) (by simp) ⟨rfl,rfl,La⟩ λb49 w8 S hb49 mv=>?_;have hl:=Qt J S;have hz8:=S.size;have hlenr:((List.range' 0 k).map λi=>if os.getD i false=true then (i:Int) else -1).length=k:=by simp
  refine xl O<|QZ (news:=[.int .i64 q]) (L:=[]) hl O O O (mv.at (by simp)) (by simp[Value.oneCell']) (by omega) (by omega) λv9 w9 hG U hn9=>?_;have gk:=Qn.snoc hG;have hP:=(ha.ext S).step U (QU J kg);refine x (Qr O)<|x (Qa O)<|xl O<|QH hP O O (by simp) (Qn.ints (L:=[]) gk (by simp;omega) (by simp)).one λhz Y mw=>xe ?_;refine Qx<|QN O O<|Qb<|xe ?_;have my:=Qm J
  refine ⟨(k+1,v9),by simp only[];omega,Lb,G,((hh.trans S).then U (λb hb=>.inr (my b hb).1)).trans' Y,mw,?_⟩;simp only[];rw[LS,LA,Ns,LJ,V,gi];exact Qi gk Y (λb hb=>by have:=(Qm gk b hb).1;simp;omega)
 rintro kk g5 w6 ⟨hh,ha,J⟩;have hH:(yv os).length=n:=by simp[yv,ge]
 obtain ⟨CL,h3⟩:=exD (YR aS l (yv os));rw[h3];unfold YR at h3;rw[hH] at h3;generalize yv os=c0 at hH J h3;refine Q0 (α:=Value) [(13,15),(54,126)] (λz=>[]) (λz w'=>Step [bm] E w'∧QX w'.heap bm 300 [z,vl,.map (some bs)]∧Qn 3 E.heap.size w' z CL∧CL.length=n) (by rfl) ?_ ?_
 ·have mz:=Qn.ints (L:=[]) J (by omega) (by simp);have m0:Zz [] w6.heap kk n 1 (c0.map (.int .i64)):=by rw[←hH];exact mz
  refine Qd<|Qb<|x (Qr O)<|x (Qa O)<|x (Qc ha O O)<|x (Qw m0 O)<|Qb<|xe<|Qh<|QC (α:=Nat×Value×LI) [(13,15),(59,126)] (λz=>[(59,.int .i64 z.1)])
   (λz w'=>z.1≤n∧Step [bm] E w'∧QX w'.heap bm 300 [z.2.1,vl,.map (some bs)]∧Qn 3 E.heap.size w' z.2.1 z.2.2∧z.2.2.length=n∧(List.range' z.1 (n - z.1)).foldl (qA aS l n) z.2.2=CL)
   (λz=>n - z.1) (by rfl) (0,kk,c0) Lb ⟨Lm _,hh,ha,J,hH,h3⟩ ?_
  rintro ⟨i,vc,cl⟩ g7 w7 ⟨hi,hm,ho,hr,hI,h4⟩;simp only[] at hi ho hr hI h4;refine Qd<|x (QD O O)<|xe<|Qg<|QI O (λm2=>?_) (λm2=>?_)
  ·refine Qy ?_;rw[X5 (by omega)] at h4;have m3:cl=CL:=h4;rw[m3] at hr hI;exact ⟨vc,La,hm,ho,hr,hI⟩
  have G:i<n:=by omega
  rw[Xc G,Ls] at h4;obtain ⟨C1,hQ⟩:=exD (qA aS l n cl i);rw[hQ] at h4;unfold qA at hQ;refine Qj<|Qg<|Qh<|Qd<|Qb<|Qf<|Qd<|Qb<|QN O O<|Qf<|Qh<|QC (α:=Nat×Value×LI) [(14,15),(64,125)] (λz=>[(14,.int .i64 z.1)])
   (λz w'=>z.1≤n∧Step [bm] E w'∧QX w'.heap bm 300 [z.2.1,vl,.map (some bs)]∧Qn 3 E.heap.size w' z.2.1 z.2.2∧z.2.2.length=n∧(List.range' z.1 (n - z.1)).foldl (λc y=>KO aS l c i y) z.2.2=C1)
   (λz=>n - z.1) (by rfl) (i+1,vc,cl) Lb ⟨G,hm,ho,hr,hI,hQ⟩ ?_
  clear ho hr hI hQ hm;rintro ⟨j,vd,cm⟩ g8 w8 ⟨hj,S,Z,hl,hu,hf⟩;simp only[] at hj Z hl hu hf;have m4:=mk vd cm w8 S Z hl;have h5:=Qn.ints (L:=[]) hl (by omega) (by simp);have m5:Zz [] w8.heap vd n 1 (cm.map (.int .i64)):=by rw[←hu];exact h5
  refine Qg<|Qd<|Qb<|Qb<|x (Qr O)<|x (Qa O)<|x (Qc Z O O)<|x (Qw m5 O)<|x (QD O O) <|
   xe ?_
  refine QI O (λm6=>?_) (λm6=>?_)
  ·refine Qy<|Qx<|QN O O<|Qb<|xe ?_;rw[X5 (by omega)] at hf;have m7:cm=C1:=hf;refine ⟨(i+1,vd,cm),by simp only[];omega,Lb,G,S,Z,hl,hu,?_⟩;simp only[];rw[m7];exact h4
  have hR:j<n:=by omega
  rw[Xc hR,Ls] at hf;obtain ⟨C2,H⟩:=exD (KO aS l cm i j);rw[H] at hf;unfold KO at H;have gl:i<cm.length:=by omega
  have gm:j<cm.length:=by omega
  refine Qj<|Qg<|Qh<|Qg<|Q0 (α:=Unit) [(73,107)] (λz=>[(107,.bool (decide (cget cm i<0∨cget cm j<0∨cget cm i=cget cm j)))]) (λz w'=>Step [] w8 w') (by rfl) ?_ ?_
  ·refine QV (Step [] w8) [(0,true),(1,true),(2,true),(3,true),(4,true),(5,true),(6,true),(7,true),(8,true),(9,true),(10,true),(11,true),(12,true),(13,true),(14,true),(15,true),(16,true),(17,true),(18,true),(19,true),(20,true),(21,true),(22,true),(23,true),(24,true),(25,true),(26,true),(27,true),(28,true),(29,true),(30,true),(31,true),(32,true),(33,true),(34,true)] mixed (by rfl) (by kernel_rfl) (Step.drew _ _) ?_
   refine p (λ_=>Ql)<|p (λ_=>Qr O)<|p (λ_=>Qa O)<|pq (λ_ hc=>Qc (Z.ext hc) O O) <|
    p (λ_=>Ql)<|pic (i:=i) O h5 O O gl λa78 m8=>pq (λ_ hc=>Qv (m8.ext hc) O)<|pb (λ_=>QD O O) (λgn=>?_) (λgn=>?_)
   ·refine p (λ_=>Ql)<|ps<|ps<|ps<|ps<|ps<|ps<|ps<|ps<|p (λ_=>Qp O)<|p (λ_=>Ql)<|ps<|ps<|ps<|ps<|ps<|ps<|ps<|ps<|ps<|ps<|ps<|ps<|ps<|ps<|ps<|p (λ_=>Qp O) <|
     pe ?_
    exact ⟨(),⟨congrArg Value.bool (decide_eq_true (.inl gn)).symm,La⟩,Step.drew _ _⟩
   refine p (λ_=>Ql)<|p (λ_=>Ql)<|p (λ_=>Qr O)<|p (λ_=>Qa O)<|pq (λ_ hc=>Qc (Z.ext hc) O O) <|
    p (λ_=>Ql)<|pic (i:=j) O h5 O O gm λa87 m9=>pq (λ_ hc=>Qv (m9.ext hc) O)<|pb (λ_=>QD O O) (λgq=>?_) (λgq=>?_)
   ·refine p (λ_=>Qp O)<|p (λ_=>Ql)<|ps<|ps<|ps<|ps<|ps<|ps<|ps<|ps<|ps<|ps<|ps<|ps<|ps<|ps<|ps<|p (λ_=>Qp O) <|
     pe ?_
    exact ⟨(),⟨congrArg Value.bool (decide_eq_true (.inr (.inl gq))).symm,La⟩,Step.drew _ _⟩
   refine p (λ_=>Qp O)<|p (λ_=>Ql)<|p (λ_=>Ql)<|p (λ_=>Qr O)<|p (λ_=>Qa O)<|pq (λ_ hc=>Qc (Z.ext hc) O O) <|
    p (λ_=>Ql)<|pic (i:=i) O h5 O O gl λa97 pa=>pq (λ_ hc=>Qv (pa.ext hc) O)<|p (λ_=>Ql)<|p (λ_=>Qr O) <|
    p (λ_=>Qa O)<|pq (λ_ hc=>Qc (Z.ext hc) O O)<|p (λ_=>Ql)<|pic (i:=j) O h5 O O gm λa104 pc =>
    pq (λ_ hc=>Qv (pc.ext hc) O)<|p (λ_=>Zf O O)<|p (λ_=>Qp O)<|pe ?_
   refine ⟨(),⟨congrArg Value.bool ?_,La⟩,Step.drew _ _⟩;exact decide_eq_decide.2 ⟨λe=>.inr (.inr e),λe=>(e.resolve_left gn).resolve_left gq⟩
  rintro _ g9 w9 U;have hP:=Z.ext U;have hG:=Qt hl U;have gr:=S.trans U;refine Zc O (λgs=>?_) (λgs=>?_)
  ·rw[if_pos gs] at H;refine Qy<|Qx<|Qb<|QN O O<|Qf<|⟨(j+1,vd,cm),by simp only[];omega,Lb,hR,gr,hP,hG,hu,?_⟩;simp only[];rw[H];exact hf
  rw[if_neg gs] at H;simp only[] at H;rw[hu] at H;have hJ:(Zq cm i j).length=n:=by rw[ZC];exact hu
  obtain ⟨D,hD⟩:=exD (YS aS l (n*n+1) (Zq cm i j));have pd:D.length=n:=by rw[←hD,yw,hJ]
  rw[hD] at H;have pf:=m4.ext U;have pg:=h5.ext U;refine Qj<|Qd<|Qb<|x (Qr O)<|x (Qa O)<|x (Qc hP O O)<|xl O<|xf<|(Zk pg).mono ?_;rintro vb hz ⟨Y,kn⟩;refine Qf ?_;have ko:=pf.ext Y;have ph:=QY hG;have kq:=Qm kn;have kr:∀b∈ob vb,b∉ob vd:=λb hb pj=>by have:=ph b pj;have:=(kq b hb).1;omega
  refine Qd<|Qb<|Qb<|Qb<|xl O<|xf<|(jA ko gl gm (by omega)).mono ?_;rintro r11 hS ⟨hv,pn⟩;refine xe ?_;have kt:=ko.st hv pn;refine Qd<|Qb<|xl O<|xf<|(QfO kt (by omega) (by omega) ka hC.edi (by rw[hJ];exact mg)).mono ?_;rintro r12 pp ⟨gt,ku⟩;refine xe ?_;rw[hE,hJ,hD] at ku;have kv:=kt.st gt ku;have hmc:=Qhu kv (by omega) (by omega) ka;rw[hE] at hmc
  refine Qd<|Qb<|xl O<|xf<|hmc.mono ?_;rintro r13 gu ⟨rfl,h6⟩;have gv:=kv.ext h6;have kw:=Qm hG;have kx:Step [bm] E gu:=(((gr.trans Y).then hv (λb hb=>.inr (kw b hb).1)).then gt (λb hb=>.inr (kw b hb).1)).trans h6;refine x (Zh O)<|xe<|Q8 O (λgx=>?_) (λgx=>?_)
  rotate_left
  ·have e:Yc l D=true:=by simpa using gx
   rw[if_pos e] at H;refine Qj<|Qx<|Qb<|QN O O<|Qf<|⟨(j+1,vd,D),by simp only[];omega,Lb,hR,kx,gv.B,gv.c,pd,?_⟩;simp only[];rw[H];exact hf
  have e:¬Yc l D=true:=by simpa using gx
  rw[if_neg e] at H;have kz:Qn 3 w9.heap.size gu vb cm:=Qt (Qi (Qi kn hv kr) gt kr) h6;have pt:=gr.size;refine Qx<|Qb<|Qb<|x (Qr O)<|x (Qa O)<|xl O<|QH gv.B O O (by simp) (Qn.ints (L:=[]) kz (by omega) (by simp)).one λpu hK gy=>xe ?_
  refine Qx<|Qb<|QN O O<|Qf<|⟨(j+1,vb,cm),by simp only[];omega,Lb,hR,kx.trans' hK,gy,QT (Qi kz hK (λb hb=>by have:=(kq b hb).1;simp;omega)) (by omega),hu,?_⟩;simp only[];rw[H];exact hf
 clear hh ha J hH h3;rintro vc g7 w7 ⟨hm,ho,hr,k0⟩;have hz7:=hm.size;have k4:=Qn.ints (L:=[]) hr (by omega) (by simp);have pw:Zz [] w7.heap vc n 1 (CL.map (.int .i64)):=by rw[←k0];exact k4
 have pz:Step [] w w7:=mq.then1 hm (by omega);refine Qd<|xl O<|ZM KH λh7 w8 S p0 p1=>xl O<|Xg (k:=(-1:Int)) p1 O O λw9 U k5=>Qb<|Qf ?_;have gz:Step [] w7 w9:=S.then1 U p0;have pt:=gz.size;have hl127:=k5.lt;refine Qd<|Qb<|x (Qr O)<|x (Qa O)<|x (Qc (ho.ext gz) O O)<|x (Qw pw O)<|xl O<|YG (n:=n) O O (by omega) λh8 hz Y hb134 k6 =>
  Qf ?_
 have hl134:=k6.lt;have g0:=gz.trans Y;have hz10:=Y.size;have p2:QX hz.heap h8 3 ((List.replicate n 0).map (.int .i64)):=by
  rw[NH,←V4];exact k6
 have k7:QO [h7,h8] hz.heap vc CL:=(k4.up (λb hb=>.inr (by
  simp only[List.mem_cons,List.not_mem_nil,or_false] at hb;omega))).ext g0
 have p3:Zz [h7,h8] hz.heap vc n 1 (CL.map (.int .i64)):=by rw[←k0];exact k7
 refine Qg<|Qd<|Qb<|x (Qr O)<|x (Qa O)<|x (Qc (ho.ext g0) O O)<|x (Qw p3 O)<|Qb<|xe ?_;have p4:QdT (mput [] (-1:Int) (.int .i64 (-1))) [-1]:=by
  have h0:QdT [] []:=⟨λc=>O,O⟩;exact h0.add (c:=-1) (by simp)
 refine Qh<|QC (α:=Nat×List (Int×Value)×LI×LI) [(18,21),(140,164)] (λz=>[(140,.int .i64 z.1)])
  (λz w'=>z.1≤n∧Step [h7,h8] hz w'∧ZE KH w'.heap h7 z.2.1∧QdT z.2.1 z.2.2.1∧z.2.2.1.length≤z.1+1∧z.2.2.2.length=z.1∧QX w'.heap h8 3 ((z.2.2.2++List.replicate (n - z.1) 0).map (.int .i64))∧(CL.drop z.1).foldl Jm (z.2.2.1,z.2.2.2)=CL.foldl Jm ([-1],[]))
  (λz=>n - z.1) (by rfl) (0,_,[-1],[]) Lb ⟨Lm _,Step.refl _ _,k5.ext Y,p4,by simp,rfl,p2,rfl⟩ ?_
 rintro ⟨k,m,K,out⟩ g11 hS ⟨hk,hv,h9,hL,p5,hT,hU,hA⟩;simp only[] at hk h9 hL p5 hT hU hA;refine Qd<|x (QD O O)<|xe<|Qg<|QI O (λp6=>?_) (λp6=>?_)
 ·refine Qy<|Qd<|Qb<|Qb<|x Qe<|Qf ?_;have hO:k=n:=by omega
  rw[Lr (by omega)] at hA;have p7:nums CL=out:=by unfold nums;rw[←hA];rfl
  rw[hO,Nn,List.replicate_zero,LU] at hU;have hF:Step [] w7 hS:=g0.then hv (λb hb=>.inr (by
   simp only[List.mem_cons,List.not_mem_nil,or_false] at hb;omega))
  have p8:Step [bm] E hS:=hm.trans hF;refine Qs ⟨[.slice (some ⟨h8,0,none⟩) n n,vl],⟨O,O,La⟩,pz.trans hF,_,vl,O,?_,⟨cs,hE,λL' p9=>?_⟩,hZ⟩
  ·rw[p7];unfold Qn;rw[hT,hO];exact hU.own (sz:=1) (by simp;omega) (by omega) (by omega)
  have h1:Kg L' w3.heap vl cs:=gg L' (λb hb=>by have:=p9 b hb;omega);have h2:Kg (bm::L') w3.heap vl cs:=h1.up (λb hb=>by
   rcases Li.1 hb with rfl | hb
   ·right;omega
   exact .inl hb)
  exact ((h2.ext hN).st (p8.mono (by simp))).up (λb hb=>.inl (Le _ hb))
 have G:k<n:=by omega
 have g1:k<CL.length:=by omega
 obtain ⟨c,hc⟩:=exD (cget CL k);rw[LQ g1,Ls,Q5 g1,hc] at hA;have qa:=k7.st hv;refine Qj<|Qg<|Qh<|Qd<|Qb<|xic qa O O g1 λa143 k8=>?_;rw[hc] at k8;refine x (Qv k8 O)<|x Qe<|Qf ?_;obtain ⟨K',hw⟩:=exD ((if c∈K then K else K++[c]))
 have qe:c∈K':=by rw[←hw];split;assumption;simp
 have qf:Jm (K,out) c=(K',out++[(K'.idxOf c:Int) - 1]):=by
  unfold Jm;rw[←hw];by_cases e:c∈K
  ·simp only[if_pos e]
  simp only[if_neg e];rw[L3,if_neg e];simp
 rw[qf] at hA;have ql:K'.length≤k+1+1:=by rw[←hw];split;omega;simp;omega
 refine Q0 (α:=List (Int×Value)) [(20,21),(145,157)] (λz=>[]) (λz w'=>Step [h7] hS w'∧ZE KH w'.heap h7 z∧QdT z K') (by rfl) ?_ ?_
 ·have V:=hL.g c;by_cases g3:c∈K
  ·rw[if_pos g3] at V hw;refine Qd<|Qb<|Qb<|x (Xu h9 O O V)<|Qb<|x (Qk O O)<|x (Qk O O)<|x Qe<|Qf<|Qd<|Qb<|x (Zh O)<|xe<|ZW O ?_;refine Qj ?_;exact ⟨m,La,Step.refl _ _,h9,by rw[←hw];exact hL⟩
  rw[if_neg g3] at V hw;refine Qd<|Qb<|Qb<|x (Jg h9 O O V)<|Qb<|x (Qk O O)<|x (Qk O O)<|x Qe<|Qf<|Qd<|Qb<|x (Zh O)<|xe<|JU O ?_;have hJ:=hL.len;refine Qx<|Qb<|Qb<|Qb<|x (QlJ h9 O)<|x (JF O O ⟨by omega,by omega⟩)<|xl O<|Yx (k:=c) h9 O O λpp hy qm =>
   xe ?_
  refine ⟨mput m c (.int .i64 ((K.length:Int) - 1)),La,hy,?_,by rw[←hw];exact hL.add g3⟩;rw[←hJ];exact qm
 rintro m' g13 gu ⟨h6,k9,ma⟩;have V:=ma.g c;rw[if_pos qe] at V;have q0:=hU.step h6 (by simp;omega);refine Qx<|Qb<|Qb<|Qb<|Qb<|x (zw k9 O O V)<|x (QP (i:=k) O O G)<|xl O<|XK (u:=(K'.idxOf c:Int) - 1) q0 O O (by simp;omega) λpu hK gy =>
  xe ?_
 refine Qx<|QN O O<|Qb<|xe<|⟨(k+1,m',K',out++[(K'.idxOf c:Int) - 1]),by simp only[];omega,Lb,G,(hv.then h6 (λb hb=>.inl (by simp at hb;simp[hb]))).then hK (λb hb=>.inl (by simp at hb;simp[hb])),k9.step hK (by simp;omega),ma,ql,by simp[hT],?_,hA⟩;simp only[];rw[←QgW hT G];exact gy
theorem Qd8 {aa:List QE}{i:Nat}{t:LI}(G:∀a∈aa,QK a) (ht:Vt aa t):∀(vs:LI) (s E:Sy),U4 aa s→Kj aa i t vs s=some E→U4 aa E
 | [],s,E,h,e=>by cases e;exact h
 | v::vs,s,E,h,e=>by
  rw[Kj] at e;obtain ⟨H,h1,h2⟩:=L4.1 e;exact Qd8 G ht vs H E (QgN G h ht h1) h2
theorem QgI {aa:List QE}(G:∀a∈aa,QK a):∀(f i:Nat) (s E:Sy),U4 aa s→yT aa f i s=some E→U4 aa E
 | 0,i,s,E,h,e=>by cases e;exact h
 | f+1,i,s,E,h,e=>by
  rw[yT] at e;split at e
  ·rename_i hi;obtain ⟨H,h1,h2⟩:=L4.1 e;have J:Vt aa (VU s i):=h.v _ (by unfold VU;simp[List.getD,hi]);exact QgI G f _ H E (Qd8 G J _ _ _ (jk h) h1) h2
  cases e;exact h
theorem Qly {aa:List QE}(E:∀a∈aa,QK a) (G:¬∃a∈aa,a.st=0):U4 aa (UG aa):=by
 refine ⟨λt ht=>?_,by simp[UG]⟩;simp only[UG,List.mem_singleton] at ht;subst ht;refine ⟨by simp,λi h1 h2=>?_⟩;have h3:=(E aa[i] (Lj h2)).st0;have h4:aa[i].st≠0:=λe=>G ⟨aa[i],Lj h2,e⟩;simp only[List.getElem_replicate];omega
theorem qK {aa:List QE}(E:∀a∈aa,QK a) {z:QE×List (LI)}(h:sync aa=some z):(∀t∈z.2,Vt aa t)∧z.2.length≤4096:=by
 unfold sync at h;split at h
 ·cases h;simp
 rename_i G;obtain ⟨s,h1,rfl⟩:=LZ.1 h;have:=QgI E _ _ _ _ (Qly E G) h1;exact ⟨this.v,this.le⟩
def opC (p s:QE):Int:=if XW p≠0 then XW p else if XW s≠0 then XW s else if mrg (λp q=>p && !q) s.al p.al=[] then 0 else 9
def Xf (p s:QE):Int:=if opC p s≠0 then opC p s else match sync [p,s] with | none=>3 | some _=>0
def Xa (p s:QE):QE:=match sync [p,s] with | none=>⟨[],0,[],[]⟩ | some z=>z.1
def Zu (p s:QE):List (LI):=match sync [p,s] with | none=>[] | some z=>z.2
theorem zB {p s:QE}(h:opC p s=0):QK p∧QK s:=by
 unfold opC at h;split at h
 ·rename_i h1;exact absurd h h1
 rename_i h1;split at h
 ·rename_i h2;exact absurd h h2
 rename_i h2;exact ⟨(Zp p).1 (Lt.1 h1),(Zp s).1 (Lt.1 h2)⟩
theorem Yw {p s:QE}(h:Xf p s=0):QK p∧QK s∧sync [p,s]=some (Xa p s,Zu p s)∧(∀t∈Zu p s,Vt [p,s] t)∧(Zu p s).length≤4096:=by
 have h':=h;unfold Xf at h';split at h'
 ·rename_i h1;exact absurd h' h1
 rename_i h1;obtain ⟨h2,h3⟩:=zB (Lt.1 h1);cases hs:sync [p,s] with
 | none=>rw[hs] at h';cases h'
 | some z =>
  have hk:=qK (aa:=[p,s]) (by intro a ha;simp at ha;rcases ha with rfl | rfl <;> assumption) hs
  have e1:Xa p s=z.1:=by unfold Xa;rw[hs]
  have e2:Zu p s=z.2:=by unfold Zu;rw[hs]
  rw[e1,e2];exact ⟨h2,h3,O,hk⟩
def UQ (l:LI):Int:=(l.drop 1).foldl max (cget l 0)
theorem Ju {N b:Nat}{w w':World}{v:Value}{a:QE}(h:Xb N w.heap v a) (hb:b<N) (hs:Step [b] w w'):Xb N w'.heap v a:=by
 obtain ⟨va,vm,ve,h1,h2⟩:=h;refine ⟨va,vm,ve,h1,λL E=>?_⟩;exact ((h2 (b::L) (λc hc=>by rcases Li.1 hc with rfl | hc;exact hb;exact E c hc)).st (hs.mono (by simp))).up (λc hc=>.inl (Le _ hc))
theorem QcK {N b:Nat}{w w':World}{v:Value}{l:List (LI)}(h:QaZ N w.heap v l) (hb:b<N) (hs:Step [b] w w'):QaZ N w'.heap v l:=by
 obtain ⟨ps,h1,h2⟩:=h;refine ⟨ps,h1,λL E=>?_⟩;exact ((h2 (b::L) (λc hc=>by rcases Li.1 hc with rfl | hc;exact hb;exact E c hc)).st (hs.mono (by simp))).up (λc hc=>.inl (Le _ hc))
theorem XC {N:Nat}{H:Array Obj}{v:Value}{a:QE}(h:Xb N H v a):∃us,v=.agg us.toArray∧us.length=4∧Y0 us:=by
 obtain ⟨va,vm,ve,h1,h2⟩:=h;have:=h2 [] (by simp);exact ⟨[va,.int .i64 a.st,vm,ve],h1,O,this.al.one,O,this.mr.one,this.ed.one,La⟩
structure qw (N:Nat) (H:Array Obj) (p s:QE) (va vt:Value):Prop where
 bad:Xf p s≠0→va=zA∧vt=Zr
 good:Xf p s=0→Xb N H va (Xa p s)∧QaZ N H vt (Zu p s)
theorem qw.shape {N:Nat}{H:Array Obj}{p s:QE}{va vt:Value}(h:qw N H p s va vt):∃us,va=.agg us.toArray∧us.length=4∧Y0 us:=by
 by_cases e:Xf p s=0
 ·exact XC (h.good e).1
 exact ⟨[nS,.int .i64 0,nS,nS],(h.bad e).1,O,O,O,O,O,La⟩
theorem qw.of {N:Nat}{H:Array Obj}{p s:QE}{va vt:Value}{c:Int}(hc:opC p s=0) (h:Ye N H [p,s] va vt c):c=Xf p s∧qw N H p s va vt:=by
 obtain ⟨h1,h2⟩:=zB hc;have E:VF [p,s]=0:=by unfold VF;rw[if_neg (by simp)];exact (Ur _).2 (by intro a ha;simp at ha;rcases ha with rfl | rfl <;> assumption)
 unfold Ye at h;rw[if_neg (by simp[E])] at h;have hE:Xf p s=match sync [p,s] with | none=>3 | some _=>0:=by unfold Xf;exact if_neg (by simp[hc])
 cases hs:sync [p,s] with
 | none =>
  rw[hs] at h hE;simp only[] at h hE;exact ⟨by rw[hE];exact h.1,λ_=>h.2,λe=>by rw[hE] at e;cases e⟩
 | some z =>
  rw[hs] at h hE;simp only[] at h hE;have e1:Xa p s=z.1:=by unfold Xa;rw[hs]
  have e2:Zu p s=z.2:=by unfold Zu;rw[hs]
  exact ⟨by rw[hE];exact h.1,λe=>absurd hE e,λ_=>by rw[e1,e2];exact h.2⟩
set_option maxHeartbeats 2000000 in
theorem UH {L:LN}{w:World}{pva pvm pve sa sm se:Value}{aP aS:QE}(hp:Zi L w.heap pva pvm pve aP) (hs:Zi L w.heap sa sm se aS) {km:Int}(h6:Kb w km) (h7:0<km) (h8:QK aP→QK aS→aP.st≤km∧aS.st≤km) :
  QM prog 115 [.agg #[pva,.int .i64 aP.st,pvm,pve],.agg #[sa,.int .i64 aS.st,sm,se]] w λr w'=>Step [] w w'∧∃va vt,r=.tuple #[va,vt,.int .i64 (Xf aP aS)]∧qw w.heap.size w'.heap aP aS va vt:=by
 refine QM.of_W func115 O ntmps115 results115 (by simp) ?_;refine Qd<|xl O<|QS (us:=[pva,.int .i64 aP.st,pvm,pve]) O λb2 w1 ho gi h9=>xl O<|QS (us:=[sa,.int .i64 aS.st,sm,se]) O λb3 w2 hf gj hB =>
  xl rfl<|Qu (us:=[nS,.int .i64 0,nS,nS]) O λb4 w3 ha gk hr=>x Qe<|Qf ?_
 obtain ⟨ps,U⟩:=exD ([⟨pva,pvm,pve,aP⟩,⟨sa,sm,se,aS⟩]:List AV);have hC:=(ho.trans hf).trans ha;have hg:=(h9.ext hf).ext ha;have hh:=hB.ext ha;refine Qg<|Qd<|x (Qo hg O O)<|x (Qo hh O O)<|xl O<|QL (us:=[Zg ⟨pva,pvm,pve,aP⟩,Zg ⟨sa,sm,se,aS⟩]) O O (by decide) (by exact (by decide:2*4≤1000000)) ⟨O,O,O,O,La⟩ λht w4 G gl hD=>?_
 have hu:Zz [] w4.heap (.slice (some ⟨ht,0,none⟩) 2 2) 2 4 (ps.flatMap Zg):=by rw[←U];exact hD.arr (by simp) rfl (by omega) (by omega)
 have hF:ps.length=2:=by rw[←U];rfl
 have hG:Zz [] w4.heap (.slice (some ⟨ht,0,none⟩) 2 2) ps.length 4 (ps.flatMap Zg):=by rw[hF];exact hu
 have gm:=ho.size;have gn:=hf.size;have gq:=ha.size;have gr:=G.size;have gs:=hr.lt;have hH:=hC.trans G;have hI:∀p∈ps,Zi L w.heap p.va p.vm p.ve p.a:=by rw[←U];intro p V;simp at V;rcases V with rfl | rfl <;> assumption
 refine x (Qw hu O)<|Qb<|xe<|Qh<|QC (α:=Nat) [(5,6),(8,9),(14,24)] (λz=>[(14,.int .i64 z)]) (λz w'=>z≤2∧Step [] w4 w'∧∀p∈ps.take z,XW p.a=0) (λz=>2 - z) (by rfl) 0 Lb
  ⟨Lm _,Step.refl _ _,λp hp=>by simp at hp⟩ ?_
 rintro k g w5 ⟨hk,E,Y⟩;have H:=hH.trans E;have gt:=E.size;have hv:=(hr.ext G).ext E;refine Qd<|x (QD O O)<|xe<|Qg<|QI O (λhJ=>?_) (λhJ=>?_)
 ·refine Qy ?_;rw[Lq (by omega),←U] at Y;have c1:XW aP=0:=Y ⟨pva,pvm,pve,aP⟩ (by simp);have c2:XW aS=0:=Y ⟨sa,sm,se,aS⟩ (by simp);have o1:=(Zp aP).1 c1;have o2:=(Zp aS).1 c2;have gu:=o1.al_le;have gv:=o2.al_le;have Z:opC aP aS=if mrg (λp q=>p && !q) aS.al aP.al=[] then 0 else 9:=by unfold opC;rw[if_neg (by simp[c1]),if_neg (by simp[c2])]
  refine Qg<|Qd<|x (Qa O)<|x (Qc ((hh.ext G).ext E) O O)<|x (Qa O)<|x (Qc ((hg.ext G).ext E) O O)<|xl O<|xf<|(U5 (hs.al.ext H) (hp.al.ext H) (by omega)).mono ?_;rintro r6 w6 ⟨J,rfl⟩;refine x (Zh O)<|xe ?_;have hw:=hv.ext J;refine Q8 O (λhj=>?_) (λhj=>?_)
  ·have hK:¬mrg (λp q=>p && !q) aS.al aP.al=[]:=by simpa using hj
   rw[if_neg hK] at Z;have hE:Xf aP aS=9:=by unfold Xf;rw[if_pos (by rw[Z];decide),Z]
   refine Qd<|x (QG La)<|xl O<|Qq (us:=[nS,.int .i64 0,nS,nS]) hw O O O O ⟨O,O,O,O,La⟩ λw7 hL hM=>x Qe<|Qf<|Qs ⟨[zA,Zr,.int .i64 9],⟨⟨_,O,QF O (hM.at (L:=[]) (by simp)).cells⟩,rfl,rfl,La⟩,(H.trans J).then1 hL (by omega),zA,Zr,by rw[hE];rfl,λ_=>⟨O,O⟩,λe=>by rw[hE] at e;cases e⟩
  have heq:mrg (λp q=>p && !q) aS.al aP.al=[]:=by simpa using hj
  rw[if_pos heq] at Z;have hy:=h8 o1 o2;refine Qj<|Qd<|x (Qo (((hg.ext G).ext E).ext J) O O)<|x (Qo (((hh.ext G).ext E).ext J) O O)<|xl O<|QL (us:=[Zg ⟨pva,pvm,pve,aP⟩,Zg ⟨sa,sm,se,aS⟩]) O O (by decide) (by exact (by decide:2*4≤1000000)) ⟨O,O,O,O,La⟩ λhN w8 hl gx hP=>?_;have hc:=(H.trans J).trans hl
  have hQ:JA [] w8.heap (.slice (some ⟨hN,0,none⟩) 2 2) [⟨pva,pvm,pve,aP⟩,⟨sa,sm,se,aS⟩]:=by
   refine ⟨hP.arr (by simp) rfl (by simp) (by simp),λq hq=>?_⟩;simp at hq;rcases hq with rfl | rfl
   ·exact (hp.ext hc).up (λ_ hb=>by cases hb)
   exact (hs.ext hc).up (λ_ hb=>by cases hb)
  refine xl O<|xf<|(Ux hQ (h6.ext hc) h7 (by intro q hq;simp at hq;rcases hq with rfl | rfl;exact hy.1;exact hy.2)).mono ?_
  rintro r9 w9 ⟨hz,va,vt,c,rfl,hR⟩;obtain ⟨rfl,hO⟩:=qw.of Z hR;obtain ⟨us,h0,h2,hS⟩:=hO.shape;have gy:=J.size;have gz:=hl.size;refine x (Qk O O)<|x (Qk O O)<|x (Qk O O)<|xl O<|Qq (us:=us) ((hw.ext hl).ext hz) O h0 h2 O hS λg0 hm hT =>
   x Qe<|Qf<|Qs ⟨[.agg us.toArray,vt,.int .i64 (Xf aP aS)],⟨⟨_,O,QF h2 (hT.at (L:=[]) (by simp)).cells⟩,rfl,rfl,La⟩,(hc.trans hz).then1 hm (by omega),va,vt,by rw[h0];rfl,hO.bad,λe=>?_⟩
  obtain ⟨g1,g2⟩:=hO.good e;exact ⟨(Ju g1 (by omega) hm).mono (by omega),(QcK g2 (by omega) hm).mono (by omega)⟩
 have he:k<ps.length:=by omega
 have hA:=hI _ (Lj he);obtain ⟨q,hq⟩:=exD (ps[k]'he);rw[hq] at hA;have hU:=hG.ext E;refine Qj<|Qg<|Qh<|Qd<|xig K5 hU O O he λg3 h3=>?_;rw[hq] at h3;refine x (QQ h3 O O)<|xl O<|Qu (us:=[nS,.int .i64 0,nS,nS]) O λb8 g4 hV hW hX=>xl O<|Qq (us:=Zg q) hX O O O O ⟨hA.al.one,O,hA.mr.one,hA.ed.one,La⟩ λhY hZ ga =>
  xe ?_
 have h4:Step [] w5 hY:=hV.then1 hZ hW;refine Qd<|x (Qo ga O O)<|xl O<|xf<|(Xk ((hA.ext H).ext h4)).mono ?_;rintro g5 g6 ⟨rfl,gc⟩;refine Qf ?_;have hn:=h4.trans gc;refine Qd<|Qb<|x (Zj O O)<|xe<|Zc rfl (λS=>?_) (λS=>?_)
 ·have h5:opC aP aS=XW q.a:=by
   have ge:k=0∨k=1:=by omega
   subst U;rcases ge with rfl | rfl
   ·simp only[List.getElem_cons_zero] at hq;subst hq;unfold opC;rw[if_pos S]
   simp only[List.getElem_cons_succ,List.getElem_cons_zero] at hq;subst hq;have c1:XW aP=0:=Y ⟨pva,pvm,pve,aP⟩ (by simp);unfold opC;rw[if_neg (by simp[c1]),if_pos S]
  have hE:Xf aP aS=XW q.a:=by unfold Xf;rw[if_pos (by rw[h5];exact S),h5]
  refine Qd<|x (QG La)<|Qb<|xl O<|Qq (us:=[nS,.int .i64 0,nS,nS]) (hv.ext hn) O O O O ⟨O,O,O,O,La⟩ λg7 gg gh=>x Qe<|Qf<|Qs ⟨[zA,Zr,.int .i64 (XW q.a)],⟨⟨_,O,QF O (gh.at (L:=[]) (by simp)).cells⟩,rfl,rfl,La⟩,(H.trans hn).then1 gg (by omega),zA,Zr,by rw[hE];rfl,λ_=>⟨O,O⟩,λe=>by rw[hE] at e;exact absurd e S⟩
 refine Qj<|Qx<|QN O O<|Qb<|xe<|⟨k+1,by omega,Lb,by omega,E.trans hn,λp V=>?_⟩;rw[Ll he,hq] at V;rcases Lp.1 V with h1 | h1
 ·exact Y p h1
 simp only[List.mem_singleton] at h1;subst h1;exact Lt.1 S
theorem KP {L:LN}{w:World}{pva pvm pve sa sm se:Value}{aP aS:QE}(hp:Zi L w.heap pva pvm pve aP) (hs:Zi L w.heap sa sm se aS) (E:QK aP→QK aS→aP.st≤100∧aS.st≤100) :
  QM prog 115 [.agg #[pva,.int .i64 aP.st,pvm,pve],.agg #[sa,.int .i64 aS.st,sm,se]] w λr w'=>Step [] w w'∧∃va vt,r=.tuple #[va,vt,.int .i64 (Xf aP aS)]∧qw w.heap.size w'.heap aP aS va vt:=UH hp hs (km:=100) (.inl (Ni _)) (by decide) E
theorem QmM {L:LN}{w:World}{pva pvm pve sa sm se:Value}{aP aS:QE}(hp:Zi L w.heap pva pvm pve aP) (hs:Zi L w.heap sa sm se aS) (hf:QK aP→QK aS→aP.st≤100∧aS.st≤100) :
  QM prog 105 [.agg #[pva,.int .i64 aP.st,pvm,pve],.agg #[sa,.int .i64 aS.st,sm,se]] w λr w'=>Step [] w w'∧∃v,r=.tuple #[v,.int .i64 (Xf aP aS)] ∧
   (Xf aP aS≠0→v=Zr)∧(Xf aP aS=0→Qa4 w.heap.size w'.heap v (ctls aP aS (Zu aP aS))∧∀c∈ctls aP aS (Zu aP aS),c.en.length≤1000000∧c.dis.length≤1000000):=by
 refine QM.of_W func105 O ntmps105 results105 (by simp) ?_;refine Qd<|xl O<|QS (us:=[pva,.int .i64 aP.st,pvm,pve]) O λb2 w1 hg h2 Z=>xl O<|QS (us:=[sa,.int .i64 aS.st,sm,se]) O λb3 w2 J h3 ha=>x Qe<|Qf ?_;have S:=hg.trans J;refine Qd<|x (Qo (Z.ext J) O O)<|x (Qo ha O O)<|xl O<|xf<|(KP (hp.ext S) (hs.ext S) hf).mono ?_;rintro r3 w3 ⟨U,va,vt,rfl,hO⟩
 obtain ⟨us,hh,hj,hk⟩:=hO.shape;refine Qb<|x (Qk O O) <|
  x (Qk rfl O)<|x (Qk O O)<|xl O<|Qu (us:=[nS,.int .i64 0,nS,nS]) O λb6 w4 hm hn hc=>xl O<|Qq (us:=us) hc O hh hj O hk λw5 ho hc =>
  x Qe<|Qf ?_
 have G:Step [] w3 w5:=hm.then1 ho hn;have E:=(S.trans U).trans G;refine Qg<|Qd<|Qb<|x (Zj O O)<|xe<|Zc rfl (λV=>?_) (λV=>?_)
 ·refine Qd<|Qb<|x Qe<|Qf ?_;exact Qs ⟨[Zr,.int .i64 (Xf aP aS)],⟨O,O,La⟩,E,Zr,O,λ_=>O,λe=>absurd e V⟩
 have H:Xf aP aS=0:=Lt.1 V;obtain ⟨o1,o2,_,hv,hl⟩:=Yw H;obtain ⟨qs,Y,hr⟩:=(hO.good H).2;have ht:qs.length≤4096:=by rw[←Y] at hl;simpa using hl
 have hu:XB [] w5.heap vt qs:=(hr [] (by simp)).ext G;have hw:=((Z.ext J).ext U).ext G;have hy:=(ha.ext U).ext G;refine Qj<|Qd<|x (Qo hw O O)<|x (Qo hy O O)<|Qb<|xl O<|xf<|(qo ((hp.ext E).up (L':=[]) (λ_ hb=>by cases hb)) ((hs.ext E).up (L':=[]) (λ_ hb=>by cases hb)) o1 o2 hu (λq hq=>hv q.2 (by rw[←Y];exact LX hq)) ht).mono ?_
 rintro r6 w6 ⟨h1,vo,bo,rfl,hC,he,_,_⟩;refine Qb<|x (Qk O O)<|x (Qk O O)<|x Qe<|Qf<|Qd<|Qb<|x Qe<|Qf ?_;rw[Y] at hC he;have hz:=E.size;exact Qs ⟨[vo,.int .i64 0],⟨O,O,La⟩,E.trans h1,vo,by rw[H];rfl,λe=>absurd H e,λ_=>⟨hC.mono hz,he⟩⟩
theorem QdY {L:LN}{w:World}{pva pvm pve sa sm se:Value}{aP aS:QE}(hp:Zi L w.heap pva pvm pve aP) (hs:Zi L w.heap sa sm se aS) (he:QK aP→QK aS→aP.st≤100∧aS.st≤100) :
  QM prog 106 [.agg #[pva,.int .i64 aP.st,pvm,pve],.agg #[sa,.int .i64 aS.st,sm,se]] w λr w'=>Step [] w w'∧∃v,r=.tuple #[v,.int .i64 (Xf aP aS)] ∧
   (Xf aP aS≠0→v=Zr)∧(Xf aP aS=0→Qn 3 w.heap.size w' v (Ka aP aS (Zu aP aS))):=by
 refine QM.of_W func106 O ntmps106 results106 (by simp) ?_;refine Qd<|xl O<|QS (us:=[pva,.int .i64 aP.st,pvm,pve]) O λb2 w1 hf h1 Z=>xl O<|QS (us:=[sa,.int .i64 aS.st,sm,se]) O λb3 w2 J h2 ha=>x Qe<|Qf ?_;have S:=hf.trans J;refine Qd<|x (Qo (Z.ext J) O O)<|x (Qo ha O O)<|xl O<|xf<|(KP (hp.ext S) (hs.ext S) he).mono ?_;rintro r3 w3 ⟨U,va,vt,rfl,hO⟩
 obtain ⟨us,hg,hh,hj⟩:=hO.shape;refine Qb<|x (Qk O O) <|
  x (Qk rfl O)<|x (Qk O O)<|xl O<|Qu (us:=[nS,.int .i64 0,nS,nS]) O λb6 w4 hk hm hc=>xl O<|Qq (us:=us) hc O hg hh O hj λw5 hn hc =>
  x Qe<|Qf ?_
 have G:Step [] w3 w5:=hk.then1 hn hm;have E:=(S.trans U).trans G;refine Qg<|Qd<|Qb<|x (Zj O O)<|xe<|Zc rfl (λV=>?_) (λV=>?_)
 ·refine Qd<|Qb<|x Qe<|Qf ?_;exact Qs ⟨[Zr,.int .i64 (Xf aP aS)],⟨O,O,La⟩,E,Zr,O,λ_=>O,λe=>absurd e V⟩
 have H:Xf aP aS=0:=Lt.1 V;obtain ⟨o1,o2,_,hv,hl⟩:=Yw H;obtain ⟨qs,Y,ho⟩:=(hO.good H).2;have hr:qs.length≤4096:=by rw[←Y] at hl;simpa using hl
 have ht:XB [] w5.heap vt qs:=(ho [] (by simp)).ext G;have hu:=((Z.ext J).ext U).ext G;have hw:=(ha.ext U).ext G;refine Qj<|Qd<|x (Qo hu O O)<|x (Qo hw O O)<|Qb<|xl O<|xf<|(yx ((hp.ext E).up (L':=[]) (λ_ hb=>by cases hb)) ((hs.ext E).up (L':=[]) (λ_ hb=>by cases hb)) o1 o2 ht (λq hq=>hv q.2 (by rw[←Y];exact LX hq)) hr).mono ?_
 rintro r6 w6 ⟨hy,vo,vl,rfl,hC,_,_⟩;refine Qb<|x (Qk O O)<|x (Qk O O)<|x Qe<|Qf<|Qd<|Qb<|x Qe<|Qf ?_;rw[Y] at hC;have hz:=E.size;exact Qs ⟨[vo,.int .i64 0],⟨O,O,La⟩,E.trans hy,vo,by rw[H];rfl,λe=>absurd H e,λ_=>QT hC hz⟩
theorem QmL {L:LN}{w:World}{v:Value}{l:LI}(h:QO L w.heap v l) (H:0<l.length) :
  QM prog 121 [v] w λr w'=>r=.int .i64 (UQ l)∧w'=w:=by
 have Y:=h.le;refine QM.of_W func121 O ntmps121 results121 (by simp) ?_;refine Qd<|Qf<|Qg<|Qd<|Qb<|x (Qw h O)<|x (QD O O)<|xe<|QI rfl (λJ=>?_) (λJ=>absurd J (by omega))
 refine Qj<|Qd<|Qb<|xic (i:=0) h O O H λZ S=>x (Qv S O)<|Qf<|Qg<|Qd<|Qf<|Qh<|QC (α:=Nat×Int) [(3,4),(12,23)] (λz=>[(3,.int .i64 z.2),(4,.int .i64 z.1)]) (λz w'=>w'=w∧z.1≤l.length∧(l.drop z.1).foldl max z.2=UQ l) (λz=>l.length - z.1) (by rfl) (1,cget l 0) ⟨O,O,La⟩
  ⟨O,H,O⟩ ?_
 rintro ⟨k,m⟩ g w4 ⟨rfl,hk,E⟩;simp only[] at hk E;refine Qg<|Qd<|Qb<|Qb<|x (Qw h O)<|x (QD O O)<|xe<|QI rfl (λU=>?_) (λU=>?_)
 ·refine Qy<|Qd<|Qb<|Qf ?_;rw[Lr (by omega)] at E;exact Qs ⟨[.int .i64 m],Lb,by rw[←E];rfl,O⟩
 have G:k<l.length:=by omega
 rw[LQ G,Ls,Q5 G] at E;refine Qj<|Qg<|Qh<|Qx<|Qb<|Qb<|Qb<|xic (i:=k) h O O G λha V=>x (Qv V O)<|x (Qnb O O)<|x Qe <|
  xe ?_
 refine Qx<|Qb<|QN O O<|Qf ?_;exact ⟨(k+1,max m (cget l k)),by simp only[];omega,⟨O,O,La⟩,O,G,E⟩
theorem Qa6 {L:LN}{w:World}{va vm ve:Value}{a:QE}(h:Zi L w.heap va vm ve a) :
  QM prog 123 [.agg #[va,.int .i64 a.st,vm,ve]] w λr w'=>Step [] w w'∧∃v,r=.tuple #[v,.int .i64 (XW a)]∧(XW a≠0→v=zA)∧(XW a=0→Xb w.heap.size w'.heap v (Zt a)):=by
 refine QM.of_W func123 O ntmps123 results123 (by simp) ?_;refine Qd<|xl O<|QS (us:=[va,.int .i64 a.st,vm,ve]) O λb1 w1 V hm Y=>xl O<|Qu (us:=[nS,.int .i64 0,nS,nS]) O λb2 w2 G hn H=>Qf ?_;have J:=V.trans G;refine Qg<|Qd<|x (Qo (Y.ext G) O O)<|xl O<|xf<|(Xk (h.ext J)).mono ?_;rintro r3 w3 ⟨rfl,E⟩;refine Qf ?_;have ho:=V.size;refine Qd<|Qb<|x (Zj O O)<|xe ?_
 refine Zc rfl (λS=>?_) (λS=>?_)
 ·refine Qd<|x (QG La)<|Qb<|xl O<|Qq (us:=[nS,.int .i64 0,nS,nS]) (H.ext E) O O O O ⟨O,O,O,O,La⟩ λw4 hf hg=>Qf ?_;exact Qs ⟨[zA,.int .i64 (XW a)],⟨⟨_,O,QF O (hg.at (L:=[]) (by simp)).cells⟩,rfl,La⟩,(J.trans E).then1 hf (by omega),zA,rfl,λ_=>rfl,λe=>absurd e S⟩
 have hc:XW a=0:=Lt.1 S;have hh:=(Zp a).1 hc;have hp:=H.lt;have U:=J.trans E;refine Qj<|Qd<|x (Qo ((Y.ext G).ext E) O O)<|xl O<|xf<|(Uv (h.ext U) hh).mono ?_;rintro v w5 ⟨Z,hF⟩;obtain ⟨us,ha,hb,hj⟩:=XC hF;have hq:=E.size;have hk:=U.size;refine xl rfl<|Qq (us:=us) ((H.ext E).ext Z) O ha hb O hj λw6 he hl =>
  Qf<|Qs ⟨[.agg us.toArray,.int .i64 0],⟨⟨_,O,QF hb (hl.at (L:=[]) (by simp)).cells⟩,rfl,La⟩,(U.trans Z).then1 he (by omega),v,by rw[hc,ha];rfl,λe=>absurd hc e,λ_=>?_⟩
 exact (Ju hF (by omega) he).mono hk
def gget:List ((Int×Int)×Int)→Int×Int→Option Int
 | [],_=>none
 | (k',v)::m,k=>if k'=k then some v else gget m k
def gput:List ((Int×Int)×Int)→Int×Int→Int→List ((Int×Int)×Int)
 | [],k,v=>[(k,v)]
 | (k',v')::m,k,v=>if k'=k then (k',v)::m else (k',v')::gput m k v
def genc (m:List ((Int×Int)×Int)):List ((Int×Int)×Value):=m.map λp=>(p.1,.int .i64 p.2)
theorem Qb2 (k:Int×Int):∀m,mget (genc m) k=(gget m k).map (Value.int .i64)
 | []=>rfl
 | (k',v)::m=>by
  have ih:=Qb2 k m;unfold genc at *;simp only[List.map_cons,mget,gget];split
  ·rfl
  exact ih
theorem Qb1 (k:Int×Int) (v:Int):∀m,mput (genc m) k (.int .i64 v)=genc (gput m k v)
 | []=>rfl
 | (k',v')::m=>by
  have ih:=Qb1 k v m;unfold genc at *;simp only[List.map_cons,mput,gput];split
  ·rfl
  simp only[List.map_cons,ih]
theorem jK (k k':Int×Int) (v:Int):∀m,gget (gput m k v) k'=if k=k' then some v else gget m k'
 | []=>by simp[gput,gget]
 | (q,v')::m=>by
  have ih:=jK k k' v m;rw[gput];by_cases h:q=k
  ·subst h;rw[if_pos rfl,gget,gget];split <;> rfl
  rw[if_neg h,gget,gget,ih];by_cases h2:q=k'
  ·subst h2;rw[if_pos rfl,if_pos rfl,if_neg (Ne.symm h)]
  rw[if_neg h2,if_neg h2]
def QfA (s:QE) (cls:LI) (x:Nat) (m:List ((Int×Int)×Int)) (v:Int):List ((Int×Int)×Int):=gput m (cget cls x,v) (cget cls (X4 s x v).toNat)
def QbB (s:QE) (l:List Z6) (cls:LI) (z:LI×List ((Int×Int)×Int)) (x:Nat):LI×List ((Int×Int)×Int) :=
 if cget cls x<0 then z else (if ((lget l x).mk' && (lget l x).ps)=true then Ki z.1 (cget cls x) else z.1,(lget l x).en.foldl (QfA s cls x) z.2)
def QbA (s:QE) (l:List Z6) (cls:LI):LI×List ((Int×Int)×Int):=(List.range' 0 cls.length).foldl (QbB s l cls) ([],[])
def Qap (m:List ((Int×Int)×Int)) (c:Nat) (v:Int):Option Ed:=(gget m ((c:Int),v)).map λt=>((c:Int),v,t)
def Qg0 (m:List ((Int×Int)×Int)) (al:LI) (n:Nat):List Ed:=(List.range' 0 n).flatMap λc=>al.filterMap (Qap m c)
def QjD (s:QE) (l:List Z6) (cls:LI):QE:=⟨s.al,UQ cls+1,(QbA s l cls).1,Qg0 (QbA s l cls).2 s.al (UQ cls+1).toNat⟩
def red (p s:QE):QE:=QjD s (ctls p s (Zu p s)) (Ka p s (Zu p s))
def rdE (p s:QE):Int:=if Xf p s≠0 then Xf p s else if Zu p s=[] then 0 else XW (red p s)
def qd (p s:QE):QE:=if Zu p s=[] then ⟨s.al,0,[],[]⟩ else Zt (red p s)
theorem QjP {z:LI×LI}{n:Nat}(h:∀c∈z.2,-1≤c∧c<n) (G:z.1.length≤n) (E:0<z.1.length) (c:Int):(∀d∈(Jm z c).2,-1≤d∧d<(n+1:Nat))∧(Jm z c).1.length≤n+1∧0<(Jm z c).1.length:=by
 unfold Jm;split
 ·rename_i hc;have:=LC hc;refine ⟨λd hd=>?_,by simp only[];omega,E⟩;simp only[List.mem_append,List.mem_singleton] at hd;rcases hd with hd | rfl
  ·have:=h d hd;omega
  omega
 refine ⟨λd hd=>?_,by simp;omega,by simp⟩;simp only[List.mem_append,List.mem_singleton] at hd;rcases hd with hd | rfl
 ·have:=h d hd;omega
 omega
theorem QbJ:∀(l:LI) (z:LI×LI) (n:Nat),(∀c∈z.2,-1≤c∧c<n)→z.1.length≤n→0<z.1.length→∀c∈(l.foldl Jm z).2,-1≤c∧c<(n+l.length:Nat)
 | [],z,n,h,_,_=>by simpa using h
 | d::l,z,n,h,E,G=>by
  obtain ⟨h1,h2,h3⟩:=QjP h E G d;have:=QbJ l (Jm z d) (n+1) h1 h2 h3;rw[Ls];intro c hc;have:=this c hc;simp only[List.length_cons];omega
theorem QjO (l:LI):∀c∈nums l,-1≤c∧c≤l.length:=by
 intro c hc;have:=QbJ l ([-1],[]) 1 (by simp) (by simp) (by simp) c hc;omega
theorem QbN {l:LI}(h:0<l.length):UQ l∈l:=by
 have key:∀(r:LI) (m:Int),r.foldl max m=m∨r.foldl max m∈r:=by
  intro r;induction r with
  | nil=>intro m;exact .inl O
  | cons a r ih =>
   intro m;rw[Ls];rcases ih (max m a) with h1 | h1
   ·rw[h1];by_cases e:m≤a
    ·rw[Int.max_eq_right e];exact .inr Lh
    rw[Int.max_eq_left (by omega)];exact .inl O
   exact .inr (Le _ h1)
 cases l with
 | nil=>simp at h
 | cons a l =>
  unfold UQ;simp only[List.drop_succ_cons,List.drop_zero];have e:cget (a::l) 0=a:=rfl;rw[e];rcases key l a with h1 | h1
  ·rw[h1];exact Lh
  exact Le _ h1
theorem Qcg (p s:QE) (q:List (LI)):(ctls p s q).length=s.st.toNat:=by
 unfold ctls;have:∀(q:List (LI)) (o:List Z6),(q.foldl (yu p s) o).length=o.length:=by
  intro q;induction q with
  | nil=>intro o;rfl
  | cons a q ih=>intro o;rw[Ls,ih];simp[yu]
 rw[this];simp
theorem QgE (s:QE) (l:List Z6) (c:LI) (x y:Nat):(KO s l c x y).length=c.length:=by
 unfold KO;split
 ·rfl
 simp only[];split
 ·rw[yw,ZC]
 rfl
theorem QgD (s:QE) (l:List Z6) (n x:Nat) (c:LI):(qA s l n c x).length=c.length:=by
 unfold qA;generalize List.range' (x+1) (n - (x+1))=ys;induction ys generalizing c with
 | nil=>rfl
 | cons y ys ih=>rw[Ls,ih,QgE]
theorem Qcl (s:QE) (l:List Z6) (c:LI):(YR s l c).length=c.length:=by
 unfold YR;have:∀(n:Nat) (xs:LN) (c:LI),(xs.foldl (qA s l n) c).length=c.length:=by
  intro n xs;induction xs with
  | nil=>intro c;rfl
  | cons x xs ih=>intro c;rw[Ls,ih,QgD]
 exact this _ _ _
theorem Qf9 (p s:QE) (q:List (LI)):(Ka p s q).length=s.st.toNat:=by
 unfold Ka nums;rw[QbI,Qcl];simp[yv,V6]
theorem Qix (p s:QE) (q:List (LI)):∀c∈Ka p s q,-1≤c∧c≤s.st.toNat:=by
 intro c hc;have:=QjO _ c hc;rw[Qcl] at this;simpa[yv,V6] using this
theorem XX {l:LI}{i:Nat}(h:i<l.length):cget l i∈l:=by rw[←Q5 h];exact Lj h
theorem Zs {α:Type}(a:α) {Q:Prop}(h:∀b,a=b→Q):Q:=h a O
theorem exN {a:Int}(E:0≤a) {Q:Prop}(h:∀u:Nat,a=u→Q):Q:=h a.toNat (Int.toNat_of_nonneg E).symm
theorem QfX (m:List ((Int×Int)×Int)) (k:Int×Int) {Q:Prop}(h1:mget (genc m) k=none→gget m k=none→Q) (h2:∀t,mget (genc m) k=some (.int .i64 t)→gget m k=some t→Q):Q:=by
 rw[Qb2] at h1 h2;cases h:gget m k with
 | none=>rw[h] at h1;exact h1 O O
 | some t=>rw[h] at h2;exact h2 t O O
set_option maxHeartbeats 8000000 in
theorem Qad {L:LN}{w:World}{pva pvm pve sa sm se:Value}{aP aS:QE}(hp:Zi L w.heap pva pvm pve aP) (h8:Zi L w.heap sa sm se aS) (ph:QK aP→QK aS→aP.st≤100∧aS.st≤100) :
  QM prog 47 [.agg #[pva,.int .i64 aP.st,pvm,pve],.agg #[sa,.int .i64 aS.st,sm,se]] w λr w'=>Step [] w w'∧∃v,r=.tuple #[v,.int .i64 (rdE aP aS)] ∧
   (rdE aP aS≠0→v=zA)∧(rdE aP aS=0→Xb w.heap.size w'.heap v (qd aP aS)):=by
 refine QM.of_W func47 O ntmps47 results47 (by simp) ?_;refine Qd<|xl O<|QS (us:=[pva,.int .i64 aP.st,pvm,pve]) O λb2 w1 kj hb2 kk=>xl O<|QS (us:=[sa,.int .i64 aS.st,sm,se]) O λb3 w2 hP hb3 h9 =>
  xl rfl<|Qu (us:=[nS,.int .i64 0,nS,nS]) O λb4 w3 hA hb4 kn=>Qf ?_
 have gk:=(kj.trans hP).trans hA;refine Qd<|x (Qo ((kk.ext hP).ext hA) O O)<|x (Qo (h9.ext hA) O O)<|xl O<|xf<|(KP (hp.ext gk) (h8.ext gk) ph).mono ?_;rintro r4 w4 ⟨pj,va,vt,rfl,hO⟩;obtain ⟨us,pn,hQ,gl⟩:=hO.shape;refine Qb<|x (Qk O O) <|
  x (Qk rfl O)<|x (Qk O O)<|xl O<|Qu (us:=[nS,.int .i64 0,nS,nS]) O λb6 w5 pp pt ko=>xl O<|Qq (us:=us) ko O pn hQ O gl λw6 pu ko =>
  x Qe<|Qf ?_
 have kq:Step [] w4 w6:=pp.then1 pu pt;have hB:=pj.trans kq;have hR:=gk.trans hB;have kr:=kn.ext hB;have hl4:=kn.lt;have hz1:=kj.size;have hz2:=hP.size;have hz36:=hB.size;have hzW6:=hR.size;refine Qg<|Qd<|Qb<|x (Zj O O)<|xe<|Zc rfl (λhC=>?_) (λhC=>?_)
 ·have hE:rdE aP aS=Xf aP aS:=by unfold rdE;rw[if_pos hC]
  refine Qd<|x (QG La)<|Qb<|xl O<|Qq (us:=[nS,.int .i64 0,nS,nS]) kr O O O O ⟨O,O,O,O,La⟩ λw7 pw pz=>Qf ?_;exact Qs ⟨[zA,.int .i64 (Xf aP aS)],⟨⟨_,O,QF O (pz.at (L:=[]) (by simp)).cells⟩,rfl,La⟩,hR.then1 pw (by omega),zA,by rw[hE];rfl,λ_=>O,λe=>by rw[hE] at e;exact absurd e hC⟩
 have h0:Xf aP aS=0:=Lt.1 hC;obtain ⟨o1,o2,_,hv,hl⟩:=Yw h0;obtain ⟨qs,hD,p0⟩:=(hO.good h0).2;have p1:qs.length≤4096:=by rw[←hD] at hl;simpa using hl
 obtain ⟨n,hn⟩:∃n:Nat,aS.st=n:=⟨aS.st.toNat,by have:=o2.st0;omega⟩;have hn4:n≤4096:=by have:=o2.st1;omega
 have kt:aS.st.toNat=n:=by omega
 have p2:StB aS n:=λe he=>by have:=o2.ed e he;omega
 have hal:=o2.al_le;have hE:rdE aP aS=if Zu aP aS=[] then 0 else XW (red aP aS):=by unfold rdE;rw[if_neg hC]
 have U:qd aP aS=if Zu aP aS=[] then ⟨aS.al,0,[],[]⟩ else Zt (red aP aS):=rfl
 unfold red at hE U;have hT:=Qf9 aP aS (Zu aP aS);have hW:=Qix aP aS (Zu aP aS);rw[kt] at hT hW;refine Qj ?_;have gm:=(h9.ext hA).ext hB;have p3:=((kk.ext hP).ext hA).ext hB;refine Qd<|x (Qa O)<|x (Qc gm O O)<|xl O<|xf<|(Zk (h8.al.ext hR)).mono ?_;rintro vcl w8 ⟨ku,hX⟩;have hY:=Qn.ints (L:=[]) hX (by omega) (by simp)
 refine x (QG ⟨hY.cells,La⟩)<|xl O<|Qu (us:=[nS,.int .i64 0,nS,nS]) O λG w9 p4 p5 p6 =>
  xl rfl<|Qq (us:=[vcl,.int .i64 0,nS,nS]) p6 O O O O ⟨hY.one,O,O,O,La⟩ λkv p7 kw=>xe ?_
 have ga:Step [] w8 kv:=p4.then1 p7 p5;have hF:=ku.trans ga;have gn:=hR.trans hF;have kx:XB [] kv.heap vt qs:=((p0 [] (by simp)).ext kq).ext hF;have hz8:=ku.size;have hz810:=ga.size;have hl9:=kw.lt;have hclt:=QY hX
 refine Qd<|x (Qo (p3.ext hF) O O)<|x (Qo (gm.ext hF) O O)<|Qb<|xl O<|xf<|(yx ((hp.ext gn).up (L':=[]) (λ_ hb=>by cases hb)) ((h8.ext gn).up (L':=[]) (λ_ hb=>by cases hb)) o1 o2 kx (λq hq=>hv q.2 (by rw[←hD];exact LX hq)) p1).mono ?_;rintro r11 w11 ⟨hs,vk,vl,rfl,hK,gq,gr⟩;refine Qb<|x (Qk O O)<|x (Qk O O)<|x Qe<|Qf ?_;rw[hD] at hK gq gr
 have kz:=hF.trans hs;have gs:=gn.trans hs;have k0:=kr.ext kz;have k4:=kw.ext hs;have hz11:=hs.size;have p8:=kx.ext hs;have p9:=Qt hX (ga.trans hs);refine Qg<|Qd<|Qb<|x (Qw p8.arr O)<|x (Zf O O)<|xe<|Zc rfl (λk5=>?_) (λk5=>?_)
 ·have qa:Zu aP aS=[]:=by rw[←hD];have:qs=[]:=List.length_eq_zero_iff.1 (by omega);rw[this];rfl
  rw[if_pos qa] at hE U;refine Qd<|x (Qo k4 O O)<|xl O<|Qq (us:=[vcl,.int .i64 0,nS,nS]) k0 O O O O ⟨hY.one,O,O,O,La⟩ λw12 k6 qe=>Qf<|Qs ⟨[.agg #[vcl,.int .i64 0,nS,nS],.int .i64 0],⟨⟨_,O,QF O (qe.at (L:=[]) (by simp)).cells⟩,rfl,La⟩,gs.then1 k6 (by omega),_,by rw[hE];rfl,λe=>absurd hE e,λ_=>?_⟩;rw[U];have qf:=Qi p9 k6 (λb hb=>by have:=(Qm hX b hb).1;simp;omega)
  exact ⟨vcl,_,_,O,λL' ql=>⟨Qn.ints qf (by show aS.al.length≤_;omega) (λb hb=>by have:=ql b hb;omega),Zz.nil _ _ _,Zz.nil _ _ _⟩⟩
 have k7:Zu aP aS≠[]:=λe=>k5 (by rw[←hD] at e;have:=List.map_eq_nil_iff.1 e;rw[this];rfl);rw[if_neg k7] at hE U;have qm:0<n:=by
  cases k8:Zu aP aS with
  | nil=>exact absurd k8 k7
  | cons t _ =>
   obtain ⟨_,y,_,_,hy⟩:=Vt2 (hv t (by rw[k8];exact Lh));omega
 refine Zs (Ka aP aS (Zu aP aS)) λcls q0=>?_;refine Zs (ctls aP aS (Zu aP aS)) λl k9=>?_;have ma:l.length=n:=by rw[←k9,Qcg,kt]
 rw[q0] at hK hE U hT hW;rw[k9] at gq gr hE U;unfold QjD at hE U;obtain ⟨cs,gt,q1⟩:=gq;have hcsl:cs.length=n:=by rw[←gt] at ma;simpa using ma
 have q2:=QbN (l:=cls) (by omega);have hmaxb:=hW _ q2;obtain ⟨S,hS⟩:∃S:Nat,UQ cls+1=S:=⟨(UQ cls+1).toNat,by omega⟩;rw[hS,LY] at hE U;have q3:=Qn.ints (L:=[]) hK (by omega) (by simp);refine Qj<|Qd<|Qb<|xl O<|xf<|(QmL q3 (by omega)).mono ?_;rintro r13 hG ⟨rfl,rfl⟩
 refine QN rfl O<|x (Qa O)<|xl O<|QH (u:=.int .i64 S) k4 O (congrArg (Value.int .i64) hS) (by simp) rfl λq4 gc q5 =>
  xe ?_
 refine Qd ?_;have mc:=(gm.ext kz).step gc (by simp;have:=h9.lt;omega);have j1:qc [G] q4.heap se aS.ed:=(((h8.ed.up (L':=[G]) (λb hb=>.inr (by simp at hb;omega))).ext gs).st gc);refine xl rfl<|ZM Zy λH w15 ge hb53 mf=>x (Qo (mc.ext ge) O O)<|xl O<|xf<|(JV (j1.ext ge)).mono ?_;rintro r16 wS ⟨gu,bs,rfl,hbs,mg⟩;refine x Qe<|Qf ?_;have gv:=ge.trans gu
 have hz14:=gc.size;have hz15:=ge.size;have hz16:=gu.size;have hl53:=mf.lt;have hlbs:=mg.lt;have hH:Step [G] hG wS:=gc.trans gv;have mh:Step [] w wS:=gs.then1 hH (by omega);have gx:QO [G,H] wS.heap vk cls:=by
  have h1:QO [G] hG.heap vk cls:=Qn.ints hK (by omega) (λb hb=>by simp at hb;omega);have h2:QO [G,H] hG.heap vk cls:=h1.up (λb hb=>by
   simp only[List.mem_cons,List.not_mem_nil,or_false] at hb;rcases hb with rfl | rfl
   ·exact .inl (by simp)
   exact .inr (by omega))
  exact h2.step hH (by simp)
 have gg:Kg [G,H] wS.heap vl cs:=by
  have h1:Kg [G] hG.heap vl cs:=q1 [G] (λb hb=>by simp at hb;omega);have h2:Kg [G,H] hG.heap vl cs:=h1.up (λb hb=>by
   simp only[List.mem_cons,List.not_mem_nil,or_false] at hb;rcases hb with rfl | rfl
   ·exact .inl (by simp)
   exact .inr (by omega))
  exact h2.st (hH.mono (by simp))
 have j2:QO [G,H] wS.heap sa aS.al:=by
  refine (h8.al.up (L':=[G,H]) (λb hb=>.inr ?_)).ext mh;simp only[List.mem_cons,List.not_mem_nil,or_false] at hb;omega
 have za:QO [G,H] wS.heap vcl aS.al:=by
  have h1:QO [] w8.heap vcl aS.al:=hY;have h2:QO [G,H] w8.heap vcl aS.al:=h1.up (λb hb=>.inr (by
   simp only[List.mem_cons,List.not_mem_nil,or_false] at hb;omega))
  exact (h2.ext (ga.trans hs)).step hH (by simp)
 have zb:QX wS.heap G 58 [vcl,.int .i64 S,nS,nS]:=q5.ext gv;have z0:=mc.ext gv;have z1:=k0.step hH (by simp;omega);have z2:=mf.ext gu;have n3:b3∉[G,H]:=by have:=h9.lt;simp;omega
 have n4:b4∉[G,H]:=by simp;omega
 have nbs:bs∉[G,H]:=by simp;omega
 refine Zs (QbA aS l cls) λZ hZ=>?_;rw[hZ] at hE U;unfold QbA at hZ;rw[hT] at hZ;have z3:Zz [G,H] wS.heap vk n 1 (cls.map (.int .i64)):=by rw[←hT];exact gx
 refine Q0 (α:=Value) [(14,15),(17,17),(56,106)] (λz=>[]) (λz w'=>Step [G,H] wS w'∧QX w'.heap G 58 [vcl,.int .i64 S,z,nS]∧ZE Zy w'.heap H (genc Z.2)∧Qn 3 wS.heap.size w' z Z.1∧Z.1.length≤n) (by rfl) ?_ ?_
 ·refine Qd<|Qb<|x (Qw z3 O)<|Qb<|xe<|Qh<|QC (α:=Nat×(LI×List ((Int×Int)×Int))×Value) [(14,15),(17,17),(58,106)] (λz=>[(58,.int .i64 z.1)])
   (λz w'=>z.1≤n∧Step [G,H] wS w'∧QX w'.heap G 58 [vcl,.int .i64 S,z.2.2,nS]∧ZE Zy w'.heap H (genc z.2.1.2)∧Qn 3 wS.heap.size w' z.2.2 z.2.1.1∧z.2.1.1.length≤z.1 ∧
    (List.range' z.1 (n - z.1)).foldl (QbB aS l cls) z.2.1=Z)
   (λz=>n - z.1) (by rfl) (0,([],[]),nS) Lb ⟨Lm _,Step.refl _ _,zb,z2,QR _ _ _ _,Lm _,hZ⟩ ?_
  rintro ⟨i,z,vm⟩ z4 hg ⟨hi,J,hh,hr,Y,gy,ht⟩;simp only[] at hi hh hr Y gy ht;refine Qd<|x (QD O O)<|xe<|Qg<|QI O (λz5=>?_) (λz5=>?_)
  ·refine Qy ?_;rw[X5 (by omega)] at ht;have z6:z=Z:=ht;rw[z6] at hr Y gy;exact ⟨vm,La,J,hh,hr,Y,by omega⟩
  have hz:i<n:=by omega
  rw[Xc hz,Ls] at ht;have mj:i<cls.length:=by omega
  have ha:i<cs.length:=by omega
  refine Zs (cget cls i) λc hc=>?_;have z9:=hW _ (XX mj);rw[hc] at z9;refine Zs (QbB aS l cls z i) λZ1 hf=>?_;rw[hf] at ht;unfold QbB at hf;rw[hc] at hf;have mo:lget l i=(cs[i]'ha).c:=Uc gt ha;have hCi:=(gg.st J).each _ (Lj ha);have hCbi:=gr _ (by rw[←gt];exact LX (Lj ha));refine Zs (cs[i]'ha) λci h3=>?_
  rw[h3] at mo hCi hCbi;rw[mo] at hf;refine Zs (if (ci.c.mk' && ci.c.ps)=true then Ki z.1 c else z.1) λmr h4=>?_
  rw[h4] at hf;have hul:=zg z.1 c;have hmkc:=Bool.eq_false_or_eq_true ci.c.mk';have hmrl:mr.length≤i+1:=by rw[←h4];split <;> omega
  have hKi:=gx.st J;have gz:=(gg.st J).arr;have hz17:=J.size;refine Qj<|Qg<|Qh<|Qd<|Qb<|xic hKi O O mj λa61 mq=>?_;rw[hc] at mq;refine x (Qv mq O)<|x Qe<|Qf<|Qg<|Qd<|Qb<|x (QD O O)<|xe<|Zc O (λg0=>?_) (λg0=>?_)
  ·rw[if_pos g0] at hf;refine Qy<|Qx<|QN O O<|Qb<|xe<|⟨(i+1,z,vm),by simp only[];omega,Lb,hz,J,hh,hr,Y,by simp only[];omega,?_⟩;simp only[];rw[hf];exact ht
  rw[if_neg g0] at hf;refine Qj<|Q0 (α:=Value) [(65,82)] (λz=>[]) (λz' w'=>Step [G,H] wS w'∧QX w'.heap G 58 [vcl,.int .i64 S,z',nS]∧ZE Zy w'.heap H (genc z.2)∧Qn 3 wS.heap.size w' z' mr) (by rfl) ?_ ?_
  ·refine Q0 (α:=Unit) [(65,76)] (λ_=>[(76,.bool (ci.c.mk' && ci.c.ps))]) (λ_ w'=>w'=hg) (by rfl) ?_ ?_
   ·refine Or.elim hmkc (λhI=>?_) (λhI=>?_)
    ·refine Qx<|Qb<|Qb<|xig (g:=Zl) (i:=i) Yi gz O O ha λg1 hJ=>?_;rw[h3] at hJ;have g2:At [G,H] hg.heap (g1.add 2) [.bool true]:=hJ.fld 2 _ (congrArg (λb=>some (Value.bool b)) hI);refine x (Zn O)<|x (Qv g2 O)<|Qb<|Qb<|Qb<|xig (g:=Zl) (i:=i) Yi gz O O ha λa73 ms=>?_;rw[h3] at ms;refine x (Zn O)<|x (Qv (ms.fld 3 _ O) O)<|x (Qp O)<|xe ?_
     exact ⟨(),⟨congrArg Value.bool (by rw[hI];rfl),La⟩,O⟩
    refine Qx<|Qb<|Qb<|xig (g:=Zl) (i:=i) Yi gz O O ha λg1 hJ=>?_;rw[h3] at hJ;have g2:At [G,H] hg.heap (g1.add 2) [.bool false]:=hJ.fld 2 _ (congrArg (λb=>some (Value.bool b)) hI);refine x (Zn O)<|x (Qv g2 O)<|Qb<|xs O<|xs O<|xs O<|xs O<|xs O<|x (Qp O)<|xe ?_;exact ⟨(),⟨congrArg Value.bool (by rw[hI];rfl),La⟩,O⟩
   rintro _ g25 w25 rfl;refine Q8 O (λg3=>?_) (λg3=>?_)
   rotate_left
   ·rw[if_neg (by rw[g3];simp)] at h4;refine Qj ?_;exact ⟨vm,La,J,hh,hr,by rw[←h4];exact Y⟩
   rw[if_pos g3] at h4;refine Qx<|x (Qa O)<|x (Qc hh O O)<|Qb<|xl O<|QL (us:=[[.int .i64 c]]) O O (by decide) (by simp) ⟨rfl,rfl,La⟩ λb80 w26 g4 hb80 hB80=>?_;have hV:QO [] w26.heap (.slice (some ⟨b80,0,none⟩) 1 1) [c]:=hB80.arr (by simp) rfl (by simp) (by simp);refine xl O<|xf<|(K7 (Qn.ints (L:=[]) (Qt Y g4) (by omega) (by simp)) hV (by simp;omega)).mono ?_;rintro vU w27 ⟨hs27,hU⟩
   have g5:=g4.trans hs27;have hUA:=Qn.ints (L:=[]) (l:=Ki z.1 c) hU (by omega) (by simp);refine x (Qa O)<|xl O<|QH (u:=vU) (hh.ext g5) O O (by simp) hUA.one λw28 g6 hB28 =>
    xe ?_
   have hz26:=g4.size;have mt:Qn 3 wS.heap.size w27 vU (Ki z.1 c):=QT hU (by omega);refine ⟨vU,La,(J.trans g5).then g6 (λb hb=>.inl (by simp at hb;simp[hb])),hB28,(hr.ext g5).step g6 (by simp;omega),?_⟩;rw[←h4];exact Qi mt g6 (λb hb=>by have:=(Qm mt b hb).1;simp;omega)
  rintro vm2 g29 w29 ⟨g7,hB29,hm29,mu⟩;have hCa29:=(gg.st g7).arr;have g8:=((gg.st g7).each _ (Lj ha)).en;rw[h3] at g8;refine Qd<|Qb<|Qb<|xig (g:=Zl) (i:=i) Yi hCa29 O O ha λa85 mv=>?_;rw[h3] at mv;refine x (Zn O)<|x (Qv (mv.fld 0 _ O) O)<|x (Qw g8 O) <|
   Qb<|xe ?_
  refine Qh<|QC (α:=Nat×List ((Int×Int)×Int)) [(17,17),(89,105)] (λz=>[(89,.int .i64 z.1)])
   (λy w'=>y.1≤ci.c.en.length∧Step [H] w29 w'∧ZE Zy w'.heap H (genc y.2)∧(ci.c.en.drop y.1).foldl (QfA aS cls i) y.2=Z1.2) (λy=>ci.c.en.length - y.1) (by rfl) (0,z.2) Lb
   ⟨Lm _,Step.refl _ _,hm29,by rw[←hf];rfl⟩ ?_
  rintro ⟨j,m⟩ g30 w30 ⟨hj,hL,g9,hw⟩;simp only[] at hj g9 hw;have ka:Step [G,H] wS w30:=g7.then hL (λb hb=>.inl (by simp at hb;simp[hb]));refine Qd<|x (QD O O)<|xe<|Qg<|QI O (λh90=>?_) (λh90=>?_)
  ·refine Qy<|Qx<|QN O O<|Qb<|xe ?_;rw[Lr (by omega)] at hw;have hr30':m=Z1.2:=hw;have mw:mr=Z1.1:=by rw[←hf]
   refine ⟨(i+1,Z1,vm2),by simp only[];omega,Lb,hz,ka,hB29.step hL (by simp;omega),?_,?_,?_,ht⟩
   ·simp only[];rw[←hr30'];exact g9
   ·simp only[];rw[←mw];exact Qi mu hL (λb hb=>by have:=(Qm mu b hb).1;simp;omega)
   simp only[];rw[←mw];exact hmrl
  have V:j<ci.c.en.length:=by omega
  rw[LQ V,Ls,Q5 V] at hw;refine Zs (cget ci.c.en j) λv hv'=>?_;rw[hv'] at hw;have hut:=QcW p2 qm i v;refine exN hut.1 λu hu=>?_;have hre:QfA aS cls i m v=gput m (c,v) (cget cls u):=by unfold QfA;rw[hc,hu,LY]
  rw[hre] at hw;have hen30:=g8.step hL (X:=[H]) (by simp);have hK30:=gx.st ka;have hms30:=mg.step ka nbs;refine Qj<|Qg<|Qh<|Qd<|xic hen30 O O V λa91 my=>?_;rw[hv'] at my;refine x (Qv my O)<|Qf<|Qx<|Qb<|Qb<|Qb<|x (QG ⟨O,O,La⟩)<|Qb<|Qb<|Qb<|Qb<|x (QG ⟨O,O,La⟩) <|
   x (Qas hms30 o2.edi hu O O)<|xic (i:=u) hK30 O O (by omega) λa103 h103=>x (Qv h103 O)<|xl O<|Yx (k:=(c,v)) g9 O O λw31 hs31 hm31 =>
   xe ?_
  refine Qx<|QN O O<|Qb<|xe<|⟨(j+1,gput m (c,v) (cget cls u)),by simp only[];omega,Lb,V,hL.trans' hs31,?_,hw⟩;simp only[];rw[←Qb1];exact hm31
 rintro vm z4 hg ⟨J,hh,hr,Y,gy⟩;have hz17:=J.size;refine Zs (Qg0 Z.2 aS.al S) λE kb=>?_;rw[kb] at hE U;unfold Qg0 at kb;have mz:=j2.st J;have hvlt:=QY Y;refine Qg<|Qd<|x (Qa O)<|x (Qc hh O O)<|Qb<|xe<|Qh<|QC (α:=Nat×List Ed×Value) [(18,18),(20,22),(109,138)] (λz=>[(109,.int .i64 z.1)])
  (λz w'=>z.1≤S∧Step [G] hg w'∧QX w'.heap G 58 [vcl,.int .i64 S,vm,z.2.2]∧ZS 144 hg.heap.size w' z.2.2 z.2.1∧z.2.1.length≤z.1*32∧z.2.1++(List.range' z.1 (S - z.1)).flatMap (λc=>aS.al.filterMap (Qap Z.2 c))=E)
  (λz=>S - z.1) (by rfl) (0,[],nS) Lb ⟨Lm _,Step.refl _ _,hh,QR _ _ _ _,Lm _,kb⟩ ?_
 rintro ⟨k,es,vd⟩ g18 m0 ⟨hk,hm,gh,gi,kc,h5⟩;simp only[] at hk gh gi kc h5;have hz18:=hm.size;refine Qd<|x (QD O O)<|xe<|Qg<|QI O (λh110=>?_) (λh110=>?_)
 ·refine Qy ?_;rw[X5 (by omega)] at h5;have hr18':es=E:=by simpa using h5
  have hA18:Zi [] m0.heap vcl vm vd ⟨aS.al,(S:Int),Z.1,E⟩:=by
   refine ⟨?_,?_,?_⟩
   ·exact ((za.st J).step hm (by simp)).up (λ_ hb=>by cases hb)
   ·exact Qn.ints (Qi Y hm (λb hb=>by have:=(Qm Y b hb).1;simp;omega)) (by show Z.1.length≤_;omega) (by simp)
   rw[←hr18'];exact ZS.eds gi (by show es.length≤_;omega) (by simp)
  have m2:Step [] w m0:=(mh.then J (λb hb=>.inr (by simp only[List.mem_cons,List.not_mem_nil,or_false] at hb;omega))).then1 hm (by omega);have hB418:=(z1.step J n4).step hm (by simp;omega);refine Qd<|x (Qo gh O O)<|xl O<|xf<|(Qa6 (a:=⟨aS.al,(S:Int),Z.1,E⟩) hA18).mono ?_;rintro r19 w19 ⟨m3,v,rfl,m4,m5⟩;have hshape:∃us,v=.agg us.toArray∧us.length=4∧Y0 us:=by
   by_cases e:XW ⟨aS.al,(S:Int),Z.1,E⟩=0
   ·exact XC (m5 e)
   exact ⟨[nS,.int .i64 0,nS,nS],m4 e,O,O,O,O,O,La⟩
  obtain ⟨us,m6,hQ,gl⟩:=hshape;refine x (Qk O O)<|x (Qk O O) <|
   xl rfl<|Qq (us:=us) (hB418.ext m3) O m6 hQ O gl λw20 m7 hB20=>Qf ?_
  have hzW:=m2.size;refine Qs ⟨[.agg us.toArray,.int .i64 (XW ⟨aS.al,(S:Int),Z.1,E⟩)],⟨⟨_,O,QF hQ (hB20.at (L:=[]) (by simp)).cells⟩,rfl,La⟩,(m2.trans m3).then1 m7 (by omega),v,by rw[hE,m6];rfl,λe=>m4 (by rw[hE] at e;exact e),λe=>?_⟩;rw[hE] at e;rw[U];exact (Ju (m5 e) (by omega) m7).mono hzW
 have hz:k<S:=by omega
 rw[Xc hz,LM,←LB] at h5;refine Zs (es++aS.al.filterMap (Qap Z.2 k)) λE1 ke=>?_;rw[ke] at h5;refine Qj<|Qg<|Qh<|Qd<|Qb<|Qf ?_;have m8:=(z0.step J n3).step hm (by have:=h9.lt;simp;omega);have m9:=mz.step hm (by simp);refine Qd<|x (Qa O)<|x (Qc m8 O O)<|x (Qw m9 O)<|Qb<|xe ?_
 refine Qh<|QC (α:=Nat×List Ed×Value) [(20,22),(115,137)] (λz=>[(115,.int .i64 z.1)])
  (λz w'=>z.1≤aS.al.length∧Step [G] hg w'∧QX w'.heap G 58 [vcl,.int .i64 S,vm,z.2.2]∧ZS 144 hg.heap.size w' z.2.2 z.2.1∧z.2.1.length≤k*32+z.1∧z.2.1++(aS.al.drop z.1).filterMap (Qap Z.2 k)=E1)
  (λz=>aS.al.length - z.1) (by rfl) (0,es,vd) Lb ⟨Lm _,hm,gh,gi,kc,ke⟩ ?_
 clear gh gi ke kc hm hz18 m9 m8;rintro ⟨j,fs,ve⟩ g21 w21 ⟨hj,h6,hM,h7,hfl,ho⟩;simp only[] at hj hM h7 hfl ho;have hz21:=h6.size;refine Qd<|x (QD O O)<|xe<|Qg<|QI O (λh116=>?_) (λh116=>?_)
 ·refine Qy<|Qx<|QN O O<|Qb<|xe ?_;rw[Lr (by omega)] at ho;have hr21':fs=E1:=by simpa using ho
  refine ⟨(k+1,fs,ve),by simp only[];omega,Lb,hz,h6,hM,h7,by simp only[];omega,?_⟩;simp only[];rw[hr21'];exact h5
 have V:j<aS.al.length:=by omega
 rw[LQ V,Q5 V] at ho;refine Zs (cget aS.al j) λv hv'=>?_;rw[hv',Mk] at ho;have pa:=mz.step h6 (by simp);have pc:=hr.step h6 (by simp;omega);refine QfX Z.2 ((k:Int),v) (λkf kg=>?_) (λt kf kg=>?_)
 ·have kh:Qap Z.2 k v=none:=by unfold Qap;rw[kg];rfl
  rw[kh] at ho;refine Qj<|Qg<|Qh<|Qd<|xic pa O O V λa117 hN=>?_;rw[hv'] at hN;refine x (Qv hN O)<|Qf<|Qd<|Qb<|Qb<|Qb<|x (QG ⟨O,O,La⟩)<|x (Jg (k:=((k:Int),v)) pc O O kf)<|Qb<|x (Qk O O)<|x (Qk O O) <|
   x Qe<|Qf<|Qd<|Qb<|xe ?_
  refine ZW O ?_;refine Qj<|Qx<|QN O O<|Qb<|xe ?_;exact ⟨(j+1,fs,ve),by simp only[];omega,Lb,V,h6,hM,h7,by simp only[];omega,ho⟩
 have kh:Qap Z.2 k v=some ((k:Int),v,t):=by unfold Qap;rw[kg];rfl
 rw[kh] at ho;refine Qj<|Qg<|Qh<|Qd<|xic pa O O V λa117 hN=>?_;rw[hv'] at hN;refine x (Qv hN O)<|Qf<|Qd<|Qb<|Qb<|Qb<|x (QG ⟨O,O,La⟩)<|x (Xu (k:=((k:Int),v)) pc O O kf)<|Qb<|x (Qk O O)<|x (Qk O O) <|
  x Qe<|Qf<|Qd<|Qb<|xe ?_
 refine JU rfl ?_;refine Qx<|x (Qa O)<|x (Qc hM O O)<|Qb<|Qb<|Qb<|x (QG ⟨O,O,O,La⟩)<|xl O<|QL (us:=[Qz ((k:Int),v,t)]) O O (by decide) (by exact (by decide:1*3≤1000000)) ⟨O,O,La⟩ λb134 w22 gj hb134 hB134=>?_;have hd22:=Qt h7 gj;have hz22:=gj.size
 refine xl rfl<|QZ (news:=Qz ((k:Int),v,t)) (L:=[]) hd22 O O O (hB134.at (by simp)) (λy hy=>by simp only[Qz,List.mem_cons,List.not_mem_nil,or_false] at hy;rcases hy with rfl | rfl | rfl <;> rfl) (by omega) (by omega) λpd w23 ho23 pf hn23=>?_
 have ki:ZS 144 hg.heap.size w23 pd (fs++[((k:Int),v,t)]):=ZS.snoc ho23;have hB23:=(hM.ext gj).step pf (QU h7 (by omega));refine x (Qa O)<|xl O<|QH hB23 O O (by simp) (ZS.eds (L:=[]) ki (by simp;omega) (by simp)).one λw24 pg hB24 =>
  xe ?_
 refine Qx<|QN O O<|Qb<|xe ?_;have hge21:=Qm h7;refine ⟨(j+1,fs++[((k:Int),v,t)],pd),by simp only[];omega,Lb,V,((h6.trans gj).then pf (λb hb=>.inr (hge21 b hb).1)).trans' pg,hB24,Qi ki pg (λb hb=>by have:=(Qm ki b hb).1;simp;omega),by simp;omega,?_⟩;simp only[List.append_assoc,List.singleton_append];exact ho
def exP:QE:=⟨[0,1],2,[0,1],[(0,0,1),(1,0,1),(1,1,0)]⟩
def exL:QE:=⟨[0,1],2,[0,1],[(0,0,1),(1,1,0)]⟩
def exS:QE:=⟨[0,1],3,[0,1,2],[(0,0,1),(1,0,2),(1,1,0),(2,1,0)]⟩
theorem QaM:Xf exP exS=0:=by rfl
theorem Qmp:ctls exP exS (Zu exP exS)=[⟨[0],[],true,true⟩,⟨[0,1],[],true,true⟩,⟨[1],[0],true,true⟩]:=by rfl
theorem Qmo:Ka exP exS (Zu exP exS)=[0,1,2]:=by rfl
theorem Qib:rdE exL exS=0:=by rfl
theorem Qmq:qd exL exS=⟨[0,1],1,[0],[(0,0,0),(0,1,0)]⟩:=by rfl
theorem UE {L L':LN}{w:World}{v v':Value}{l l':LI}(h:QO L w.heap v l) (h':QO L' w.heap v' l') :
  QM prog 107 [v,v'] w λr w'=>r=.bool (decide (l=l'))∧Step [] w w':=by
 refine QM.of_W func107 O ntmps107 results107 (by simp) ?_;refine Qd<|Qf<|Qd<|Qb<|Qb<|xl O<|xf<|(UU h h').mono ?_;rintro G H ⟨rfl,E⟩;refine Qf ?_;exact Qs ⟨[.bool (decide (l=l'))],Lb,O,E⟩
theorem Qae {N:Nat}{H:Array Obj}{a:QE}{b1 b2 b3 n1 n2 n3:Nat}(h1:QX H b1 3 (a.al.map (.int .i64))) (h2:QX H b2 3 (a.mr.map (.int .i64))) (h3:QX H b3 144 (a.ed.flatMap Qz)) (S:N≤b1) (U:N≤b2) (V:N≤b3)
  (G:a.al.length=n1) (l2:a.mr.length=n2) (J:a.ed.length=n3) (m1:n1≤1000) (Y:n2≤1000) (Z:n3≤1000) :
  Xb N H (.agg #[.slice (some ⟨b1,0,none⟩) n1 n1,.int .i64 a.st,.slice (some ⟨b2,0,none⟩) n2 n2,.slice (some ⟨b3,0,none⟩) n3 n3]) a:=by
 subst G l2 J;refine ⟨_,_,_,O,λL E=>⟨?_,?_,?_⟩⟩
 ·exact h1.arr (λhb=>by have:=E _ hb;omega) (by simp) (by omega) (Lv _)
 ·exact h2.arr (λhb=>by have:=E _ hb;omega) (by simp) (by omega) (Lv _)
 exact h3.arr (λhb=>by have:=E _ hb;omega) (by rw[YI _ 3 JK]) (by omega) (Lv _)
def exA (again:Bool):QE:=bif again then exP else exL
set_option maxHeartbeats 1000000 in
theorem yk (again:Bool) (w:World):QM prog 104 [.bool again] w λr w'=>Step [] w w'∧∃v1 v2,r=.tuple #[v1,v2]∧Xb w.heap.size w'.heap v1 (exA again)∧Xb w.heap.size w'.heap v2 exS:=by
 refine QM.of_W func104 O ntmps104 results104 (by simp) ?_;refine Qd<|xl O<|Qu (us:=[nS,.int .i64 0,nS,nS]) O λb2 w1 ht hg hu=>xl O<|Qu (us:=[nS,.int .i64 0,nS,nS]) O λb3 w2 hh hS hv=>xe ?_;have hT:=ht.size;have hU:=hh.size;have hV:=hu.lt;have hW:=hv.lt;have hB:=ht.trans hh;have hC:=hu.ext hh
 refine Qd<|xl O<|QL (us:=[[.int .i64 0],[.int .i64 1]]) O O (by decide) (by decide) ⟨O,O,O,O,La⟩ λG w3 hw hX hy=>xl O<|QL (us:=[[.int .i64 0],[.int .i64 1]]) O O (by decide) (by decide) ⟨O,O,O,O,La⟩ λH w4 hj hY hz =>
  x (QG ⟨rfl,O,O,La⟩)<|x (QG ⟨O,O,O,La⟩)<|x (QG ⟨O,O,O,La⟩)<|xl O<|QL (us:=[Qz (0,0,1),Qz (1,0,1),Qz (1,1,0)]) O O (by decide) (by exact (by decide:3*3≤1000000)) ⟨O,O,O,O,O,O,La⟩ λb9 w5 V hZ h0=>?_
 have Y:=(hw.trans hj).trans V;refine x (QG ⟨O,O,O,O,La⟩)<|xl O<|Qq (us:=[.slice (some ⟨G,0,none⟩) 2 2,.int .i64 2,.slice (some ⟨H,0,none⟩) 2 2,.slice (some ⟨b9,0,none⟩) 3 3]) (hC.ext Y) O O O O ⟨O,O,O,O,La⟩ λJ E h1=>xe ?_;have ga:=hw.size;have gc:=hj.size;have ge:=V.size;have gg:=hy.lt;have gh:=hz.lt;have gi:=h0.lt
 have gj:Step [b2] w2 J:=(Y.any (L:=[b2])).trans' E;have hD:Step [] w J:=(hB.trans Y).then1 E hg;have hE:=(hv.ext Y).step E (by simp;omega);have hF:QX J.heap G 3 ([0,1].map (.int .i64)):=((hy.ext hj).ext V).step E (by simp;omega);have hG:QX J.heap H 3 ([0,1].map (.int .i64)):=(hz.ext V).step E (by simp;omega)
 have hH:QX J.heap b9 144 ([(0,0,1),(1,0,1),(1,1,0)].flatMap Qz):=h0.step E (by simp;omega);refine Q0 (α:=Nat) [(11,16)] (λz=>[]) (λz w'=>Step [b2] J w'∧w2.heap.size≤z∧z<w'.heap.size∧QX w'.heap b2 58 [.slice (some ⟨G,0,none⟩) 2 2,.int .i64 2,.slice (some ⟨H,0,none⟩) 2 2,.slice (some ⟨z,0,none⟩) (exA again).ed.length (exA again).ed.length] ∧
  QX w'.heap z 144 ((exA again).ed.flatMap Qz)) (by rfl) ?_ ?_
 ·refine Qd<|Qb<|x (Zh O)<|xe<|Q8 O (λhk=>?_) (λhk=>?_)
  ·have e:again=false:=by simpa using hk
   refine Qx<|x (QG ⟨O,O,O,La⟩)<|x (QG ⟨O,O,O,La⟩)<|xl O<|QL (us:=[Qz (0,0,1),Qz (1,1,0)]) O O (by decide) (by exact (by decide:2*3≤1000000)) ⟨O,O,O,O,La⟩ λb15 w7 hm gk Z =>
    x (Qa O)<|xl O<|QH (u:=.slice (some ⟨b15,0,none⟩) 2 2) (h1.ext hm) O O (by simp) rfl λw8 hn hI=>xe ?_
   have h2:=E.size;have gl:=hm.size;have gm:=hn.size;have gn:=Z.lt;refine ⟨b15,La,(hm.any (L:=[b2])).trans' hn,by omega,by omega,?_,?_⟩
   ·rw[e];exact hI
   rw[e];exact Z.step hn (by simp;omega)
  have e:again=true:=by simpa using hk
  have h2:=E.size;refine Qj<|⟨b9,La,Step.refl _ _,by omega,by omega,?_,?_⟩
  ·rw[e];exact h1
  rw[e];exact hH
 rintro be g9 w9 ⟨U,gq,gr,hJ,hK⟩;have h2:=E.size;have gs:=U.size;have hL:Step [] w w9:=hD.then1 U hg;have hM:=hE.step U (by simp;omega);have hN:=hF.step U (by simp;omega);have hO:=hG.step U (by simp;omega)
 refine Qd<|xl O<|QL (us:=[[.int .i64 0],[.int .i64 1]]) O O (by decide) (by decide) ⟨O,O,O,O,La⟩ λho gt h3 gu h4=>xl O<|QL (us:=[[.int .i64 0],[.int .i64 1],[.int .i64 2]]) O O (by decide) (by decide) ⟨O,O,O,O,O,O,La⟩ λhp gv hq gx h5 =>
  x (QG ⟨rfl,O,O,La⟩)<|x (QG ⟨O,O,O,La⟩)<|x (QG ⟨O,O,O,La⟩)<|x (QG ⟨O,O,O,La⟩) <|
  xl rfl<|QL (us:=[Qz (0,0,1),Qz (1,0,2),Qz (1,1,0),Qz (2,1,0)]) O O (by decide) (by exact (by decide:4*3≤1000000)) ⟨O,O,O,O,O,O,O,O,La⟩ λhr hP ha gy h6=>?_
 have S:=(h3.trans hq).trans ha;refine x (QG ⟨O,O,O,O,La⟩) <|
  xl rfl<|Qq (us:=[.slice (some ⟨ho,0,none⟩) 2 2,.int .i64 3,.slice (some ⟨hp,0,none⟩) 3 3,.slice (some ⟨hr,0,none⟩) 4 4]) (hM.ext S) O O O O ⟨O,O,O,O,La⟩ λhb he h7=>xe ?_
 have gz:=h3.size;have g0:=hq.size;have g1:=ha.size;have g2:=he.size;have g3:=h4.lt;have g4:=h5.lt;have g5:=h6.lt;have h8:=(hJ.ext S).step he (by simp;omega)
 refine Qg<|QV (λw'=>Step [b2] hb w'∧QX w'.heap b2 58 [.slice (some ⟨G,0,none⟩) 2 2,.int .i64 2,.slice (some ⟨H,0,none⟩) 2 2,.slice (some ⟨be,0,none⟩) (exA again).ed.length (exA again).ed.length]) [(0,true),(1,true),(2,false),(3,false)] mixed (by rfl) (by kernel_rfl) ⟨Step.drew _ _,h8.ext (Step.drew _ _)⟩ ?_
 refine pq (λ_ hc=>Qo hc.2 O O)<|pq (λ_ hc=>Qo (h7.step hc.1 (by simp;omega)) O O) <|
  pk<|Qq (us:=[.slice (some ⟨G,0,none⟩) 2 2,.int .i64 2,.slice (some ⟨H,0,none⟩) 2 2,.slice (some ⟨be,0,none⟩) (exA again).ed.length (exA again).ed.length]) (h8.ext (Step.drew _ _)) O O O O ⟨O,O,O,O,La⟩ λg6 hf h9=>⟨⟨(Step.drew [b2] hb).trans' hf,h9⟩,?_⟩
 refine pkl (hl:=by kernel_rfl)<|Qq (us:=[.slice (some ⟨ho,0,none⟩) 2 2,.int .i64 3,.slice (some ⟨hp,0,none⟩) 3 3,.slice (some ⟨hr,0,none⟩) 4 4]) ((h7.ext (Step.drew [] hb)).step hf (by simp;omega)) O O O O ⟨O,O,O,O,La⟩ λhA hs Z=>pe ?_;have hd:=Step.drew [] hb;have hQ:=h9.step hs (by simp;omega)
 have mv:∀{b T:Nat} {cs:LV},QX hP.heap b T cs→b≠b2→b≠b3→QX hA.heap b T cs:=λh n2 n3=>(((h.step he (by simpa using n3)).ext hd).step hf (by simpa using n2)).step hs (by simpa using n3);have hR:Step [] w hA:=(((hL.trans S).then1 he (by omega)).trans hd |>.then1 hf hg).then1 hs (by omega)
 refine Qs ⟨[.agg #[.slice (some ⟨G,0,none⟩) 2 2,.int .i64 2,.slice (some ⟨H,0,none⟩) 2 2,.slice (some ⟨be,0,none⟩) (exA again).ed.length (exA again).ed.length],.agg #[.slice (some ⟨ho,0,none⟩) 2 2,.int .i64 3,.slice (some ⟨hp,0,none⟩) 3 3,.slice (some ⟨hr,0,none⟩) 4 4]],
  ⟨⟨_,O,QF O (hQ.at (L:=[]) (by simp)).cells⟩,⟨_,rfl,QF rfl (Z.at (L:=[]) (by simp)).cells⟩,La⟩,hR,_,_,rfl,?_,?_⟩
 ·have e1:(exA again).al=[0,1]:=by cases again <;> rfl
  have e2:(exA again).mr=[0,1]:=by cases again <;> rfl
  have e3:(exA again).st=2:=by cases again <;> rfl
  have e4:(exA again).ed.length≤3:=by cases again <;> decide
  have:=Qae (N:=w.heap.size) (a:=exA again) (b1:=G) (b2:=H) (b3:=be) (n1:=2) (n2:=2) (n3:=(exA again).ed.length) (by rw[e1];exact mv (hN.ext S) (by omega) (by omega)) (by rw[e2];exact mv (hO.ext S) (by omega) (by omega)) (mv (hK.ext S) (by omega) (by omega)) (by omega) (by omega) (by omega) (by rw[e1];rfl) (by rw[e2];rfl) O (by omega) (by omega) (by omega);rw[e3] at this
  exact this
 exact Qae (a:=exS) (mv ((h4.ext hq).ext ha) (by omega) (by omega)) (mv (h5.ext ha) (by omega) (by omega)) (mv h6 (by omega) (by omega)) (by omega) (by omega) (by omega) O O O (by decide) (by decide) (by decide)
theorem Qa4.three {N:Nat}{H:Array Obj}{v:Value}{c0 E G:Z6}(h:Qa4 N H v [c0,E,G]):∃d0 d1 d2:CV,d0.c=c0∧d1.c=E∧d2.c=G∧Kg [] H v [d0,d1,d2]:=by
 obtain ⟨cs,h1,h2⟩:=h;have:=h2 [] (by simp)
 match cs,h1,this with
 | [d0,d1,d2],h1,h3 =>
  simp only[List.map_cons,List.map_nil,List.cons.injEq,and_true] at h1;exact ⟨d0,d1,d2,h1.1,h1.2.1,h1.2.2,h3⟩
set_option maxHeartbeats 2000000 in
theorem QbW (w:World):QM prog 43 [] w λr w'=>r=.bool true∧Step [] w w':=by
 refine QM.of_W func43 O ntmps43 results43 (by simp) ?_;refine Qd<|Qf<|Qd<|xl O<|xf<|(yk true w).mono ?_;rintro r1 w1 ⟨hg,v1,v2,rfl,hE,hF⟩;obtain ⟨pva,pvm,pve,rfl,hP⟩:Xb w.heap.size w1.heap v1 exP:=hE;obtain ⟨sa,sm,se,rfl,hS⟩:=hF;have J:=hP [] (by simp);have S:=hS [] (by simp);refine Qb<|x (Qk O O)<|x (Qk O O)<|xl O<|Qu (us:=[nS,.int .i64 0,nS,nS]) O λb1 w2 hh hG hj =>
  xl rfl<|Qu (us:=[nS,.int .i64 0,nS,nS]) O λb2 w3 hk ku hH=>xl O<|Qq (us:=[pva,.int .i64 exP.st,pvm,pve]) (hj.ext hk) O O O O ⟨J.al.one,O,J.mr.one,J.ed.one,La⟩ λw4 hl hI=>?_
 have kv:=hj.lt;have hJ:=hH.step hl (by simp;omega);refine xl rfl<|Qq (us:=[sa,.int .i64 exS.st,sm,se]) hJ O O O O ⟨S.al.one,O,S.mr.one,S.ed.one,La⟩ λw5 hm Z =>
  xe ?_
 have kw:=hg.size;have kx:=hh.size;have hn:=hI.step hm (by simp;omega);have ha:Step [] w1 w5:=((hh.trans hk).then1 hl hG).then1 hm (by omega);have hK:=hg.trans ha;have ho:=J.ext ha;have hb:=S.ext ha;refine Qd<|x (Qo hn O O)<|x (Qo Z O O)<|xl O<|xf<|(QmM ho hb (λ_ _=>⟨by decide,by decide⟩)).mono ?_;rintro r6 w6 ⟨E,vl,hp,_,hM⟩;rw[QaM] at hp;subst hp
 have hq:=(hM QaM).1;rw[Qmp] at hq;obtain ⟨d0,d1,d2,kz,hN,hO,hQ⟩:=Qa4.three hq;refine Qb<|x (Qk O O) <|
  x (Qk rfl O)<|x Qe<|Qf<|Qd<|x (Qo (hn.ext E) O O)<|x (Qo (Z.ext E) O O)<|xl O<|xf<|(QdY (ho.ext E) (hb.ext E) (λ_ _=>⟨by decide,by decide⟩)).mono ?_
 rintro r7 w7 ⟨hr,vk,hs,_,hU⟩;rw[QaM] at hs;subst hs;have ht:=hU QaM;rw[Qmo] at ht;refine Qb<|x (Qk O O) <|
  x (Qk rfl O)<|x Qe<|Qf<|Qd<|xl O<|xf<|(yk false w7).mono ?_
 rintro r8 w8 ⟨hu,v3,v4,rfl,hV,hW⟩;obtain ⟨lva,lvm,lve,rfl,hL⟩:Xb w7.heap.size w8.heap v3 exL:=hV;obtain ⟨ta,tm,te,rfl,hT⟩:=hW;have U:=hL [] (by simp);have hc:=hT [] (by simp);refine Qb<|x (Qk O O)<|x (Qk O O)<|xl O<|Qu (us:=[nS,.int .i64 0,nS,nS]) O λb7 w9 hv hX hw =>
  xl rfl<|Qu (us:=[nS,.int .i64 0,nS,nS]) O λb8 k0 hy k4 hY=>xl O<|Qq (us:=[lva,.int .i64 exL.st,lvm,lve]) (hw.ext hy) O O O O ⟨U.al.one,O,U.mr.one,U.ed.one,La⟩ λk5 hz hZ=>?_
 have k6:=hw.lt;have ga:=hY.step hz (by simp;omega);refine xl rfl<|Qq (us:=[ta,.int .i64 exS.st,tm,te]) ga O O O O ⟨hc.al.one,O,hc.mr.one,hc.ed.one,La⟩ λhe h0 k7 =>
  xe ?_
 have k8:=hv.size;have gc:=hZ.step h0 (by simp;omega);have hf:Step [] w8 he:=((hv.trans hy).then1 hz hX).then1 h0 (by omega);have h1:Step [] w5 he:=((E.trans hr).trans hu).trans hf;have ge:Step [] w7 he:=hu.trans hf;refine Qd<|x (Qo gc O O)<|x (Qo (Z.ext h1) O O)<|xl O<|xf<|(Qad (U.ext hf) (hb.ext h1) (λ_ _=>⟨by decide,by decide⟩)).mono ?_
 rintro k9 gg ⟨gh,vr,h2,_,gi⟩;rw[Qib] at h2;subst h2;have hR:=gi Qib;rw[Qmq] at hR;obtain ⟨ra,rm,re,rfl,gj⟩:=hR;have V:=gj [] (by simp);refine Qb<|x (Qk O O) <|
  x (Qk rfl O)<|xl O<|Qu (us:=[nS,.int .i64 0,nS,nS]) O λb9 ma gk gl gm=>xl O<|Qq (us:=[ra,.int .i64 1,rm,re]) gm O O O O ⟨V.al.one,O,V.mr.one,V.ed.one,La⟩ λgn gq gr=>x Qe <|
  xe ?_
 have gs:Step [] gg gn:=gk.then1 gq gl;have h3:=(ge.trans gh).trans gs;have h4:=hr.trans h3;have gt:=(hK.trans E).trans h4;have Y:=hQ.ext h4;have h5:=Qn.ints (L:=[]) (Qt ht h3) (by decide) (by simp);have e1:∀{H:Array Obj},Kg [] H vl [d0,d1,d2]→QO [] H d1.ve [0,1]:=λh=>by have:=(h.each d1 (by simp)).en;rw[hN] at this;exact this
 have e2:∀{H:Array Obj},Kg [] H vl [d0,d1,d2]→QO [] H d2.vd [0]:=λh=>by have:=(h.each d2 (by simp)).dis;rw[hO] at this;exact this
 have gu:=V.ed;refine Qd<|Qb<|x (Zf O O)<|Qb<|Qb<|x (Qw Y.arr O)<|x (Zf O O) <|
  x (Qp rfl)<|Qb<|Qb<|xig (g:=Zl) (i:=1) Yi Y.arr O O (by simp) λmc gv=>x (Zn rfl)<|x (Qv (gv.fld 0 _ rfl) rfl) <|
  xl rfl<|QL (us:=[[.int .i64 0],[.int .i64 1]]) O O (by decide) (by decide) ⟨O,O,O,O,La⟩ λgx gy h6 mf gz=>?_
 have g0:QO [] gy.heap (.slice (some ⟨gx,0,none⟩) 2 2) [0,1]:=gz.arr (by simp) rfl (by simp) (by simp);refine xl rfl<|xf<|(UE (e1 (Y.ext h6)) g0).mono ?_;rintro g1 mg ⟨g2,g3⟩;have g4:g1=.bool true:=g2;subst g4;have h7:=h6.trans g3;have G:=Y.ext h7;refine x (Qp O) <|
  Qb<|Qb<|xig (g:=Zl) (i:=1) Yi G.arr O O (by simp) λmh g5=>x (Zn rfl)<|x (Qv (g5.fld 0 _ rfl) rfl) <|
  x (Qw (e1 G) O)<|x (Zf O O)<|x (Qp O)<|Qb<|Qb<|xig (g:=Zl) (i:=2) Yi G.arr O O (by simp) λmj g6=>x (Zn rfl) <|
  x (Qv (g6.fld 1 _ O) O)<|xl O<|QL (us:=[[.int .i64 0]]) O O (by decide) (by decide) ⟨O,O,La⟩ λg7 g8 h8 mo g9=>?_
 have ka:QO [] g8.heap (.slice (some ⟨g7,0,none⟩) 1 1) [0]:=g9.arr (by simp) rfl (by simp) (by simp);refine xl rfl<|xf<|(UE (e2 (G.ext h8)) ka).mono ?_;rintro kb mq ⟨kc,ke⟩;have kf:kb=.bool true:=kc;subst kf;have h9:=h8.trans ke;have hA:=G.ext h9;refine x (Qp O)<|Qb<|Qb<|xig (g:=Zl) (i:=2) Yi hA.arr O O (by simp) λms kg =>
  x (Zn rfl)<|x (Qv (kg.fld 1 _ O) O)<|x (Qw (e2 hA) O)<|x (Zf O O)<|x (Qp O)<|Qb<|Qb<|x (Zf O O) <|
  x (Qp rfl)<|Qb<|Qb<|xl O<|QL (us:=[[.int .i64 0],[.int .i64 1],[.int .i64 2]]) O O (by decide) (by decide) ⟨O,O,O,O,O,O,La⟩ λkh ki kj mt kk=>?_
 have kn:QO [] ki.heap (.slice (some ⟨kh,0,none⟩) 3 3) [0,1,2]:=kk.arr (by simp) rfl (by simp) (by simp);have hB:=(h7.trans h9).trans kj;refine xl rfl<|xf<|(UE (h5.ext hB) kn).mono ?_;rintro ko mu ⟨kq,kr⟩;have kt:ko=.bool true:=kq;subst kt;have hC:=hB.trans kr;have hD:=gr.ext hC
 refine x (Qp O)<|Qb<|Qb<|x (Qw h5 O)<|x (Zf O O)<|x (Qp O)<|Qb<|Qb<|x (Zf O O) <|
  x (Qp rfl)<|Qb<|x (Qa O)<|x (Qc hD O O)<|x (Zf O O)<|x (Qp O)<|Qb<|x (Qa O)<|x (Qc hD O O)<|x (Qw gu O) <|
  x (Zf rfl O)<|x (Qp O)<|Qf ?_
 exact Qs ⟨[.bool true],Lb,O,gt.trans hC⟩
end Go.Proofs.YtdffckgdcegpaaaGreatDoor
namespace Go.Lg
section
variable {P:Program} {n:Nat} {f:Fr} {w:World} {d:Option Nat} {ty:Nat} {ps:String} {af:Array Edge} {gd:Option (Nat×Bool)}
class Ay (P:Program) (t:Nat) (m e sz:outParam Nat):Prop where
 u:P.underlying t=some (.array m e)
 i:(P.info? e).map (·.size)=some sz
theorem ZP {x y:Operand}{t m e sz:Nat}[h:Ay P t m e sz] {b o:Nat}{k:IntKind}{i:Nat}(hx:ev f x=.pointer (some ⟨b,o,none⟩)) (hy:ev f y=.int k i) (h1:i<m) :
  (execOp (ev f) ⟨d,.indexAddr t x y,ty,ps,af,gd⟩).run P w=.ok (.value (.pointer (some ⟨b,o+i*sz,none⟩))) w:=by
 have hi:=h.i;cases E:P.info? e with
 | none=>simp[E] at hi
 | some ii =>
  simp[E] at hi;simp[execOp,hx,hy,Instr.indexAt,asIntOf,run_underlying h.u,Instr.sureAddr,sizeOf,typeInfo,E,hi,XN];intro h2;omega
theorem QkU {a b:Nat}(ha:a<256):inK .u8 ((a &&& b:Nat):Int):=by
 have:a &&& b≤a:=Nat.and_le_left;exact ⟨by omega,by omega⟩
theorem zx {t E:Nat}{x y:Operand}{a b:Nat}(hx:ev f x=.int .u8 a) (hy:ev f y=.int .u8 b) (ha:a<256) (hb:b<256) :
  (execOp (ev f) ⟨d,.binOp .and t x y E,ty,ps,af,gd⟩).run P w=.ok (.value (.int .u8 ((a &&& b:Nat):Int))) w:=by
 refine JW hx hy ?_;simp only[binOp,Op.intBits,BitVec.ofInt_natCast,ne_eq,not_true_eq_false,if_false,Sem.run_pure];rw[BitVec.toNat_and,BitVec.toNat_ofNat,BitVec.toNat_ofNat,Nat.mod_eq_of_lt (show a<2 ^ IntKind.u8.bits from ha),Nat.mod_eq_of_lt (show b<2 ^ IntKind.u8.bits from hb),Ve (QkU ha)]
theorem Qed (m i:Nat):((m:Int) / 2 ^ i)=((m / 2 ^ i:Nat):Int):=by rw[Int.natCast_ediv,Int.natCast_pow];rfl
end
inductive Pt where
 | pl (l:List (Nat×Bool))
 | fk (pre:List (Nat×Bool)) (i j:Nat) (t1 t2:Pt)
def Km (all:Array Oper):List (Nat×Bool)→Array Bool→Bool
 | [],_=>true
 | (k,q)::pl,ls=>q && (Region.ready .any all ls).contains k && Region.free .any all ls k && Km all pl (ls.setIfInBounds k true)
def Z4:List (Nat×Bool)→Array Bool→Array Bool
 | [],ls=>ls
 | (k,_)::pl,ls=>Z4 pl (ls.setIfInBounds k true)
def XT (P:Program) (all:List Oper) (C:World→Prop) (K:Fr→World→Prop):Pt→Fr→World→Prop
 | .pl l=>XP P all C K l
 | .fk pre i j t1 t2=>XP P all C (λf w=>(YD all f (Q6 all i)=true∧XO P (Q6 all i) f w λE w'=>C w'∧XT P all C K t1 E w') ∧
   (YD all f (Q6 all j)=true∧XO P (Q6 all j) f w λE w'=>C w'∧XT P all C K t2 E w')) pre
section
variable {P:Program} {n:Nat} {f:Fr} {w:World} {all:List Oper} {C:World→Prop} {K B:Fr→World→Prop}
theorem Xe:∀(pl:List (Nat×Bool)) (ls:Array Bool),(Z4 pl ls).size=ls.size
 | [],_=>rfl
 | (k,q)::pl,ls=>by rw[Z4,Xe];simp
theorem Y9 {m:Nat}(hs:Region.noSelect all.toArray=true):∀(pl:List (Nat×Bool)) (ls:Array Bool) (f:Fr) (w:World),C w→Km all.toArray pl ls=true →
  (∀f,B f w→XA P all C K m (Z4 pl ls) f w)→XP P all C B pl f w→XA P all C K (pl.length+m) ls f w
 | [],ls,f,w,E,hp,H,h=>by
  simp only[XP] at h;rw[List.length_nil,LJ];exact H f h
 | (J,q)::pl,ls,f,w,E,hp,H,h=>by
  simp only[Km,Bool.and_eq_true] at hp;obtain ⟨⟨⟨rfl,hr⟩,hf⟩,V⟩:=hp;simp only[XP] at h;have U:J∈Region.ready .any all.toArray ls:=by simpa using hr
  have e:(List.length ((J,true)::pl))+m=(pl.length+m)+1:=by simp;omega
  rw[e];cases G:all[J]? with
  | none =>
   exfalso;obtain ⟨_,o,ha,_⟩:=mem_ready.1 U;simp[G] at ha
  | some o =>
   rw[ZD G] at h;have Y:∀(j:Nat) (o:Oper) cs b,all[j]?=some o→o.op≠.select cs b:=λj o cs b hj=>Region.noSelect_spec hs j o cs b (by simpa using hj);have Z:=λj oj hj=>Region.free_spec (ops:=all.toArray) (md:=.any) (i:=J) (oi:=o) (listed:=ls) (by simpa using G) hf j oj (by simpa using hj);cases S:YD all f o with
   | false =>
    rw[S] at h;exact Jt (v:=undef) (D:=λw=>ju o=true→C w) G (λ_ h=>h) Y _ ls f w (λ_=>E) Z U (.inr ⟨S,O⟩) (Y9 hs pl _ _ _ E V H h)
   | true =>
    rw[S] at h;simp only[cond_true] at h;obtain ⟨v,hv,hx⟩:=h;exact Jt (v:=v) (D:=λw=>ju o=true→C w) G (λ_ h=>h) Y _ ls f w (λ_=>E) Z U (.inl ⟨S,hv⟩) (Y9 hs pl _ _ _ E V H hx)
end
end Go.Lg
namespace Go.Proofs.YtdffckgdcegpaaaGreatDoor
open Go.Lg
theorem ZT.lt_of {a:Int}{l:LI}(h:ZT (a::l)) {x:Int}(hx:x∈l):a<x:=(L7.1 h).1 x hx
theorem ZT.tail {a:Int}{l:LI}(h:ZT (a::l)):ZT l:=(L7.1 h).2
theorem QeB (keep:Bool→Bool→Bool):∀(n:Nat) (a b:LI),a.length+b.length≤n→ZT a→ZT b→∀x,x∈mrg keep a b↔(x∈a∨x∈b)∧keep (decide (x∈a)) (decide (x∈b))=true:=by
 intro n;induction n with
 | zero =>
  intro a b h _ _ x;have ha:a=[]:=Ln (by omega);have hb:b=[]:=Ln (by omega);subst ha hb;simp[Kq]
 | succ n ih =>
  intro a b E ia ib x;cases a with
  | nil =>
   cases b with
   | nil=>simp[Kq]
   | cons y b =>
    rw[J0 keep (by simp)];have:=ih [] b (by simp at E ⊢;omega) ia ib.tail x;have hy:y∉b:=λh=>by have:=ib.lt_of h;omega
    simp only[Jb,tl,hx,cond_true,cond_false,List.tail_cons,List.headD_cons,List.mem_append];rw[this];by_cases e:x=y
    ·subst e;cases hk:keep false true <;> simp[hk,hy]
    cases keep false true <;> simp[e]
  | cons u a =>
   cases b with
   | nil =>
    rw[J0 keep (by simp)];have:=ih a [] (by simp at E ⊢;omega) ia.tail ib x;have hy:u∉a:=λh=>by have:=ia.lt_of h;omega
    simp only[Jb,tl,hx,cond_true,cond_false,List.tail_cons,List.headD_cons,List.mem_append];rw[this];by_cases e:x=u
    ·subst e;cases hk:keep true false <;> simp[hk,hy]
    cases keep true false <;> simp[e]
   | cons y b =>
    rw[J0 keep (by simp)];have hu:u∉a:=λh=>by have:=ia.lt_of h;omega
    have hy:y∉b:=λh=>by have:=ib.lt_of h;omega
    rcases Int.lt_trichotomy u y with h1 | h1 | h1
    ·have G:u∉y::b:=λh=>by
      rcases Li.1 h with h | h
      ·omega
      have:=ib.lt_of h;omega
     have:=ih a (y::b) (by simp at E ⊢;omega) ia.tail ib x;have e1:decide (u≤y)=true:=decide_eq_true (by omega);have e2:decide (y≤u)=false:=decide_eq_false (by omega);simp only[Jb,tl,hx,e1,e2,cond_true,cond_false,List.tail_cons,List.headD_cons,List.mem_append];rw[this];by_cases e:x=u
     ·subst e;cases hk:keep true false <;> simp[hk,hu,G]
     cases keep true false <;> simp[e]
    ·subst h1;have:=ih a b (by simp at E ⊢;omega) ia.tail ib.tail x;have e1:decide (u≤u)=true:=decide_eq_true (by omega);simp only[Jb,tl,hx,e1,cond_true,List.tail_cons,List.headD_cons,List.mem_append];rw[this];by_cases e:x=u
     ·subst e;cases hk:keep true true <;> simp[hk,hu,hy]
     cases keep true true <;> simp[e]
    have G:y∉u::a:=λh=>by
     rcases Li.1 h with h | h
     ·omega
     have:=ia.lt_of h;omega
    have:=ih (u::a) b (by simp at E ⊢;omega) ia ib.tail x;have e1:decide (u≤y)=false:=decide_eq_false (by omega);have e2:decide (y≤u)=true:=decide_eq_true (by omega);simp only[Jb,tl,hx,e1,e2,cond_true,cond_false,List.tail_cons,List.headD_cons,List.mem_append];rw[this];by_cases e:x=y
    ·subst e;cases hk:keep false true <;> simp[hk,hy,G]
    cases keep false true <;> simp[e]
theorem Ja {keep:Bool→Bool→Bool}{a b:LI}(ia:ZT a) (ib:ZT b) (x:Int):x∈mrg keep a b↔(x∈a∨x∈b)∧keep (decide (x∈a)) (decide (x∈b))=true :=
 QeB keep _ a b (Lv _) ia ib x
theorem Vh {a b:LI}(ia:ZT a) (ib:ZT b) (x:Int):x∈meets a b↔x∈a∧x∈b:=by
 unfold meets;rw[Ja ia ib];simp;intro h _;exact .inl h
theorem jC {a b:LI}(ia:ZT a) (ib:ZT b):(meets a b).length=0↔∀x∈a,x∉b:=by
 rw[List.length_eq_zero_iff];constructor
 ·intro h x hx hb;have:=(Vh ia ib x).2 ⟨hx,hb⟩;rw[h] at this;cases this
 intro h;refine List.eq_nil_iff_forall_not_mem.2 λx hx=>?_;have:=(Vh ia ib x).1 hx;exact h x this.1 this.2
def y9 (a b:Z6):Bool:=(a.en.all λx=>!decide (x∈b.dis)) && (b.en.all λx=>!decide (x∈a.dis)) && (!a.ps || !b.ps || a.mk' == b.mk')
theorem jX {a b:Z6}(h1:ZT a.en) (h2:ZT a.dis) (h3:ZT b.en) (h4:ZT b.dis):VE a b=y9 a b:=by
 unfold VE y9;congr 1;rw[Bool.eq_iff_iff];simp only[decide_eq_true_eq,Nat.add_eq_zero_iff,Bool.and_eq_true,List.all_eq_true,Bool.not_eq_true',decide_eq_false_iff_not];rw[jC h1 h4,jC h3 h2]
theorem QfU (a b:Z6):y9 b a=y9 a b:=by
 unfold y9;rw[Bool.and_comm (b.en.all _),Bool.or_comm (!b.ps)];congr 2;cases a.mk' <;> cases b.mk' <;> rfl
def setK (m k:Nat):LI:=((List.range' 0 k).filter λi=>decide (((m / 2 ^ i) &&& 1)=1)).map λi:Nat=>(i:Int)
theorem jr (m k:Nat):setK m (k+1)=if (m / 2 ^ k) &&& 1=1 then setK m k++[(k:Int)] else setK m k:=by
 unfold setK;rw[LS,Me,LA,LJ];by_cases h:(m / 2 ^ k) &&& 1=1
 ·rw[if_pos h,Mw,if_pos (decide_eq_true h)];rfl
 rw[if_neg h,Mw,if_neg (by rw[decide_eq_false h];simp),Nw,List.map_nil,LU]
theorem V0 (m:Nat):∀k,(setK m k).length≤k
 | 0=>by simp[setK]
 | k+1=>by
  have:=V0 m k;rw[jr];split
  ·simp;omega
  omega
theorem Qbs (m k:Nat):ZT (setK m k):=by
 unfold setK ZT;rw[Mm];refine List.Pairwise.sublist Mz ?_;exact (MM (s:=0) (n:=k)).imp (λh=>by omega)
open Go.Proofs.Tryz
instance ayCx1:Ay prog 119 4 5 1:=⟨by kernel_rfl,by kernel_rfl⟩
end Go.Proofs.YtdffckgdcegpaaaGreatDoor
namespace Go.Lg
section
variable {P:Program} {f:Fr} {w:World} {K:Fr→World→Prop} {d:Option Nat} {ty:Nat} {ps:String} {af:Array Edge} {gd:Option (Nat×Bool)}
theorem qC {t ty e sz bys:Nat}{z:Value}[h:Sl P t e sz bys z] {base:Nat}{v:Value}{n:Nat}{cs:LV}(E:w.ownsRow base e sz v n cs) :
  (Builtin.append_ #[t,t] ty #[v,nS]).run P w=.ok v w:=by
 obtain ⟨i,hi,_,H,_⟩:=Sl.info h;rcases E.2 with ⟨rfl,rfl⟩ | ⟨g,cap,cur,rfl,J,S,G,U,V,Y⟩
 ·simp[Builtin.append_,run_underlying h.u,sizeOf,typeInfo,hi,Builtin.lenOf,Builtin.firstCells]
 simp[Builtin.append_,run_underlying h.u,sizeOf,typeInfo,hi,Builtin.lenOf,Builtin.firstCells,G,storeCells]
theorem Qdh {t e sz bys:Nat}{z:Value}[h:Sl P t e sz bys z] {s y:Operand}{base:Nat}{v:Value}{n:Nat}{cs:LV}(E:w.ownsRow base e sz v n cs) (hs:ev f s=v)
  {H:Value} {m:Nat} {news:LV} {L:LN} (G:Zz L w.heap H m sz news) (hy:ev f y=H) (h1:∀u∈news,u.oneCell'=true)
  (hb:n+m≤1099511627776) (S:base≤w.heap.size)
  (J:∀v' w',w'.ownsRow base e sz v' (n+m) (cs++news)→Step (ob v) w w'→(∀b∈ob v',b∈ob v∨w.heap.size≤b)→K (Q4 f d v') w') (U:bys≤128:=by decide) :
  XO P ⟨d,.call ⟨.builtin .append,#[s,y],#[t,t]⟩,ty,ps,af,gd⟩ f w K:=by
 rcases G.2.2 with ⟨e1,e2⟩ | ⟨a,c,e1,_,e3⟩
 ·subst e2;have V:news=[]:=Ln (by have:=G.1;simpa using this);subst V;have Y:(execOp (ev f) ⟨d,.call ⟨.builtin .append,#[s,y],#[t,t]⟩,ty,ps,af,gd⟩).run P w=.ok (.value v) w:=by
   simp[execOp,resolve,invoke,builtin,hs,hy,e1,qC (ty:=ty) E]
  exact xv Y (J v w (by simpa using E) (Step.refl _ _) (λb hb=>.inl hb))
 exact QZ E hs (hy.trans e1) G.1 e3 h1 hb S J U
end
end Go.Lg
namespace Go.Proofs.YtdffckgdcegpaaaGreatDoor
open Go.Proofs.Tryz
open Go.Lg
theorem QeP {L:LN}{w:World}{v:Value}{l:LI}(h:QO L w.heap v l) (x:Int) :
  QM prog 254 [v,.int .i64 x] w λr w'=>r=.bool (decide (x∈l))∧w'=w:=by
 have U:=h.le;refine QM.of_W func254 O ntmps254 results254 (by simp) ?_;refine Qd<|Lg.Qf<|Qg<|Qd<|Lg.Qf<|Qh<|QC (α:=Nat) [(4,17)] (λk=>[(5,.int .i64 k)]) (λk w'=>w'=w∧k≤l.length∧(x∈l↔x∈l.drop k)) (λk=>l.length - k) (by rfl) 0 Lb ⟨O,Lm _,by simp⟩ ?_;rintro k g w' ⟨rfl,hk,hm⟩;refine Qg<|Qd<|Lg.Qb<|Lg.Qb<|Lg.x (Qw h O)<|Lg.x (QD O O)<|xe<|QI rfl (λJ=>?_) (λJ=>?_)
 ·refine Qy<|Qd<|Lg.Qf<|Qs ⟨[.bool false],Lb,?_,O⟩;rw[Lr (by omega)] at hm;simp[tup,hm]
 have H:k<l.length:=by omega
 have hd:=Q9 H;refine Qj<|Qg<|Qh<|Qd<|Lg.Qb<|Lg.Qb<|xii h O O H λV S=>Lg.x (Qv S O)<|Lg.Qb<|Lg.x (Zf O O)<|xe<|Zc rfl (λG=>?_) (λG=>?_)
 ·refine Qd<|Lg.Qf<|Qs ⟨[.bool true],Lb,?_,O⟩;have:x∈l:=by rw[hm,hd,G];exact Lh
  simp[tup,this]
 refine Qj<|Qx<|Lg.Qb<|Lg.QN O O<|Lg.Qf<|⟨k+1,by omega,Lb,O,by omega,?_⟩;rw[hm,hd,Li];exact ⟨λh=>h.resolve_left (λe=>G e.symm),.inr⟩
theorem Qbm {L:LN}{w:World}{va vm ve:Value}{a:QE}(h:qc L w.heap ve a.ed) (s e:Int) (st:Int) :
  QM prog 255 [.agg #[va,.int .i64 st,vm,ve],.int .i64 s,.int .i64 e] w λr w'=>r=.int .i64 (nxt a.ed s e)∧Step [] w w':=by
 have hf:=h.le;refine QM.of_W func255 O ntmps255 results255 (by simp) ?_;refine Qd<|xl O<|QS (us:=[va,.int .i64 st,vm,ve]) O λb3 Y S hg G=>Lg.Qf ?_
 replace h:=h.ext S;refine Qg<|Qd<|Lg.Qf<|Qh<|QC (α:=Nat) [(6,38)] (λk=>[(7,.int .i64 k)]) (λk w'=>w'=Y∧k≤a.ed.length∧nxt (a.ed.drop k) s e=nxt a.ed s e) (λk=>a.ed.length - k) (by rfl) 0 Lb ⟨O,Lm _,O⟩ ?_;rintro k g Z ⟨rfl,hk,H⟩;refine Qg<|Qd<|Lg.Qb<|Lg.x (Qa O)<|Lg.x (Qc G O O)<|Lg.x (Qw h O)<|Lg.x (QD O O)<|xe<|QI rfl (λha=>?_) (λha=>?_)
 ·refine Qy<|Qd<|Lg.Qf<|Qs ⟨[.int .i64 (-1)],Lb,?_,S⟩;rw[Lr (by omega)] at H;rw[←H];rfl
 have J:k<a.ed.length:=by omega
 have hd:=Q9 J;refine Qj<|Qg<|Qh<|Q0 (α:=Bool) [(15,32)] (λz=>[(32,.bool z)]) (λz w'=>w'=Z∧z=decide (a.ed[k].1=s∧a.ed[k].2.1=e)) (by rfl) ?_ ?_
 ·refine Qx<|Lg.x (Qa O)<|Lg.x (Qc G O O)<|Lg.Qb<|xie h O O J λhh hb=>Lg.x (Zn O)<|Lg.x (Qv (hb.fld 0 _ O) O) <|
   Lg.Qb<|xb (Zf O O) (λU=>?_) (λU=>?_)
  ·refine Lg.Qb<|Lg.x (Qa O)<|Lg.x (Qc G O O)<|Lg.Qb<|xie h O O J λhj hc=>Lg.x (Zn O)<|Lg.x (Qv (hc.fld 1 _ O) O) <|
    Lg.Qb<|Lg.x (Zf O O)<|Lg.x (Qp O)<|xe ?_
   exact ⟨_,Lb,O,by simp[U]⟩
  refine Lg.Qb<|xs O<|xs O<|xs O<|xs O<|xs O<|xs O<|xs O<|xs O<|Lg.x (Qp O)<|xe ?_;exact ⟨_,Lb,O,by simp[U]⟩
 rintro z g w3 ⟨rfl,rfl⟩;refine Zc rfl (λV=>?_) (λV=>?_)
 ·refine Qd<|Lg.x (Qa O)<|Lg.x (Qc G O O)<|Lg.Qb<|xie h O O J λhl he=>Lg.x (Zn O)<|Lg.x (Qv (he.fld 2 _ O) O) <|
   Lg.Qf<|Qs ⟨[.int .i64 a.ed[k].2.2],Lb,?_,S⟩
  rw[←H,hd,nxt,if_pos V];rfl
 refine Qj<|Qx<|Lg.Qb<|Lg.QN O O<|Lg.Qf<|⟨k+1,by omega,Lb,O,by omega,?_⟩;rw[←H,hd,nxt,if_neg V]
def zT (l:LI) (n:Int):Int:=if n∈l then (l.idxOf n:Int) else -1
theorem QhM {l:LI}{n:Int}{k:Nat}(h:n∉l.take k) (hk:k<l.length) (he:cget l k=n):zT l n=k:=by
 have hm:n∈l:=by rw[←he,←Q5 hk];exact Lj hk
 unfold zT;rw[if_pos hm];have hs:l=l.take k++l.drop k:=(MT k l).symm;have:l.idxOf n=k:=by
  rw[hs,L3,if_neg h,LQ hk,List.idxOf_cons,show l[k]=n by rw[Q5 hk];exact he];simp;omega
 rw[this]
theorem QfW {L:LN}{w:World}{v:Value}{l:LI}(h:QO L w.heap v l) (n:Int) :
  QM prog 256 [v,.int .i64 n] w λr w'=>r=.int .i64 (zT l n)∧w'=w:=by
 have U:=h.le;refine QM.of_W func256 O ntmps256 results256 (by simp) ?_;refine Qd<|Qf<|Qg<|Qd<|Qf<|Qh<|QC (α:=Nat) [(4,18)] (λz=>[(5,.int .i64 z)]) (λz w'=>w'=w∧z≤l.length∧n∉l.take z) (λz=>l.length - z) (by rfl) 0 Lb ⟨O,Lm _,by simp⟩ ?_;rintro k g V ⟨rfl,hk,hm⟩;refine Qg<|Qd<|Qb<|Qb<|x (Qw h O)<|x (QD O O)<|xe<|QI rfl (λJ=>?_) (λJ=>?_)
 ·refine Qy<|Qd<|Qf ?_;rw[Lq (by omega)] at hm;exact Qs ⟨[.int .i64 (-1)],Lb,by unfold zT;rw[if_neg hm];rfl,O⟩
 have G:k<l.length:=by omega
 refine Qj<|Qg<|Qh<|Qd<|Qb<|Qb<|xic (i:=k) h O O G λY S=>x (Qv S O)<|Qb<|x (Zf O O)<|xe<|Zc rfl (λH=>?_) (λH=>?_)
 ·refine Qd<|Qb<|Qf ?_;exact Qs ⟨[.int .i64 k],Lb,by rw[QhM hm G H];rfl,O⟩
 refine Qj<|Qx<|Qb<|QN O O<|Qf<|⟨k+1,by omega,Lb,O,G,?_⟩;rw[Ll G,Q5 G];simp only[List.mem_append,List.mem_singleton,not_or];exact ⟨hm,λe=>H e.symm⟩
theorem UV {L:LN}{w:World}{v:Value}{l:LI}(h:QO L w.heap v l) (hl:l.length≤1000000) :
  QM prog 200 [v] w λr w'=>Step [] w w'∧∃va,r=.agg #[va,.int .i64 0,nS,nS]∧Qn 3 w.heap.size w' va l:=by
 refine QM.of_W func200 O ntmps200 results200 (by simp) ?_;refine Qd<|xl O<|Qu (us:=[nS,.int .i64 0,nS,nS]) O λb2 G V he Y=>xe ?_;have hf:=V.size;have hg:=Y.lt;refine Qd<|xl O<|Qay λb3 w2 H hh hj=>Qb<|?_;have Z:=V.trans H;have hq:=H.size;have J:w2.ownsRow G.heap.size 3 1 (.slice (some ⟨b3,0,none⟩) 0 0) 0 []:=hj.own (n:=0) (sz:=1) O (by omega) hh
 refine xl rfl<|Qdh J O (h.ext Z) O (zC l) (by omega) (by omega) λva S hk ha hr=>?_;have U:Qn 3 G.heap.size S va l:=by
  have:S.ownsRow G.heap.size 3 1 va (0+l.length) ([]++l.map (.int .i64)):=hk;rw[LJ,Mo] at this;exact this
 have hA:=Qn.ints (L:=[]) U (by omega) (by simp);have hm:=(Y.ext H).step ha (QU J hg);have hn:Step [] w S:=Z.then ha (λb hb=>.inr (by have:=(Qm J b hb).1;omega));refine x (QG ⟨hA.cells,La⟩)<|xl O<|Qq (us:=[va,.int .i64 0,nS,nS]) hm O O O O ⟨hA.one,O,O,O,La⟩ λw4 hc ho=>xe ?_;have hp:=Qi U hc (λb hb=>by have:=(Qm U b hb).1;simp;omega)
 exact Qs ⟨[.agg #[va,.int .i64 0,nS,nS]],⟨⟨_,O,QF O (ho.at (L:=[]) (by simp)).cells⟩,La⟩,hn.then1 hc he,va,rfl,QT hp hf⟩
theorem pig:∀(n:Nat) (l:LI),l.Nodup→(∀x∈l,0≤x∧x<n)→l.length≤n
 | 0,l,_,h=>by
  cases l with
  | nil=>simp
  | cons a l=>have:=h a Lh;omega
 | n+1,l,hd,h=>by
  by_cases hm:(n:Int)∈l
  ·have h1:=pig n (l.erase (n:Int)) (hd.erase _) (λx hx=>by
    have h2:=(List.Nodup.mem_erase_iff hd).1 hx;have h3:=h x h2.2;have h4:x≠(n:Int):=h2.1;omega)
   rw[List.length_erase_of_mem hm] at h1;omega
  have:=pig n l hd (λx hx=>by
   have h3:=h x hx;have h4:x≠(n:Int):=λe=>hm (by rw[←e];exact hx);omega)
  omega
def VV (a:QE) (s:Int) (out:LI) (v:Int):LI:=if 0≤nxt a.ed s v∧nxt a.ed s v∉out then out++[nxt a.ed s v] else out
def fdR (a:QE) (out:LI) (s:Int):LI:=a.al.foldl (VV a s) out
def jR (a:QE):Nat→Nat→LI→LI
 | 0,_,out=>out
 | f+1,i,out=>if i<out.length then jR a f (i+1) (fdR a out (cget out i)) else out
def fd0 (a:QE):LI:=if 0<a.st then [0] else []
def found (a:QE):LI:=jR a a.st.toNat 0 (fd0 a)
structure qH (a:QE) (out:LI):Prop where
 b:∀x∈out,0≤x∧x<a.st
 d:out.Nodup
theorem qH.len {a:QE}{out:LI}(h:qH a out) (G:0≤a.st):out.length≤a.st.toNat:=pig _ _ h.d (λx hx=>by have:=h.b x hx;omega)
theorem qU {es:List Ed}{s v:Int}(h:0≤nxt es s v):(s,v,nxt es s v)∈es:=by
 induction es with
 | nil=>simp[nxt] at h
 | cons e es ih =>
  rw[nxt] at h ⊢;split at h
  ·rename_i he;rw[if_pos he];obtain ⟨p,q,r⟩:=e;obtain ⟨h1,h2⟩:=he;simp only[] at h1 h2;subst h1 h2;exact Lh
  rename_i he;rw[if_neg he];exact Le _ (ih h)
theorem Qh7 {a:QE}(G:QK a) {out:LI}(h:qH a out) (s v:Int):qH a (VV a s out v):=by
 unfold VV;split
 ·rename_i hc;have hm:=G.ed _ (qU hc.1);refine ⟨λx hx=>?_,?_⟩
  ·rcases Lp.1 hx with hx | hx
   ·exact h.b x hx
   simp only[List.mem_singleton] at hx;subst hx;exact ⟨hc.1,hm.2.2.2.2⟩
  rw[M7];refine ⟨h.d,by simp,λx hx y hy=>?_⟩;simp only[List.mem_singleton] at hy;subst hy;exact λe=>hc.2 (by rw[←e];exact hx)
 exact h
theorem Qks {a:QE}{out:LI}{s v:Int}:∀x∈out,x∈VV a s out v:=λx hx=>by unfold VV;split;exact LE _ hx;exact hx
theorem Qml {a:QE}{out:LI}{s v:Int}(h:0≤nxt a.ed s v):nxt a.ed s v∈VV a s out v:=by
 unfold VV;by_cases hm:nxt a.ed s v∈out
 ·rw[if_neg (λe=>e.2 hm)];exact hm
 rw[if_pos ⟨h,hm⟩];simp
theorem Qh5 {a:QE}(G:QK a) (s:Int):∀(vs:LI) (out:LI),qH a out→qH a (vs.foldl (VV a s) out)
 | [],_,h=>h
 | v::vs,_,h=>Qh5 G s vs _ (Qh7 G h s v)
theorem QaL {a:QE}{s:Int}:∀(vs:LI) (out:LI),∀x∈out,x∈vs.foldl (VV a s) out
 | [],_,_,hx=>hx
 | _::vs,_,x,hx=>QaL vs _ x (Qks x hx)
theorem Qh6 {a:QE}{s:Int}:∀(vs:LI) (out:LI),∀v∈vs,0≤nxt a.ed s v→nxt a.ed s v∈vs.foldl (VV a s) out
 | v::vs,out,u,hu,h=>by
  rcases Li.1 hu with rfl | hu
  ·exact QaL vs _ _ (Qml h)
  exact Qh6 vs _ u hu h
theorem QeQ {a:QE}{s:Int}:∀(vs:LI) (out:LI),∃r,vs.foldl (VV a s) out=out++r
 | [],out=>⟨[],by simp⟩
 | v::vs,out=>by
  obtain ⟨r,G⟩:=QeQ (a:=a) (s:=s) vs (VV a s out v);rw[Ls,G];unfold VV;split
  ·exact ⟨[nxt a.ed s v]++r,by simp⟩
  exact ⟨r,O⟩
theorem Ut {l r:LI}{i:Nat}(h:i<l.length):cget (l++r) i=cget l i:=by
 rw[←Q5 h,←Q5 (by simp;omega),LT h]
def Cl (a:QE) (out:LI) (i:Nat):Prop:=∀j,j<i→j<out.length→∀v∈a.al,0≤nxt a.ed (cget out j) v→nxt a.ed (cget out j) v∈out
theorem Cl.next {a:QE}{out:LI}{i:Nat}(h:Cl a out i) (hi:i<out.length):Cl a (fdR a out (cget out i)) (i+1):=by
 intro j hj V v H G;obtain ⟨r,U⟩:=QeQ (a:=a) (s:=cget out i) a.al out;have J:fdR a out (cget out i)=out++r:=U;have S:j<out.length:=by omega
 rw[J,Ut S] at G ⊢;by_cases e:j=i
 ·subst e;have:=Qh6 a.al out v H G;rw[←J];exact this
 exact LE _ (h j (by omega) S v H G)
theorem Qh4 {a:QE}(G:QK a):∀(f i:Nat) (out:LI),qH a out→Cl a out i→i+f=a.st.toNat→qH a (jR a f i out)∧Cl a (jR a f i out) (jR a f i out).length
 | 0,i,out,h,hc,J=>by
  have:=h.len G.st0;exact ⟨h,λj hj H=>hc j (by rw[jR] at hj;omega) H⟩
 | f+1,i,out,h,hc,J=>by
  rw[jR];split
  ·rename_i hi;exact Qh4 G f (i+1) _ (Qh5 G _ _ _ h) (hc.next hi) (by omega)
  rename_i hi;exact ⟨h,λj hj H=>hc j (by omega) H⟩
theorem Qh8 (a:QE):qH a (fd0 a):=by
 unfold fd0;split
 ·rename_i h;exact ⟨λx hx=>by simp only[List.mem_singleton] at hx;subst hx;exact ⟨by omega,h⟩,by simp⟩
 exact ⟨by simp,by simp⟩
theorem Ui {a:QE}(H:QK a):qH a (found a)∧∀s∈found a,∀v∈a.al,0≤nxt a.ed s v→nxt a.ed s v∈found a:=by
 obtain ⟨h1,h2⟩:=Qh4 H a.st.toNat 0 (fd0 a) (Qh8 a) (λj hj=>by omega) (by omega);refine ⟨h1,λs hs v J G=>?_⟩;obtain ⟨j,hj,rfl⟩:=LO hs;have:=h2 j hj hj v J;unfold found at hj G ⊢;rw[Q5 hj] at G ⊢;exact this G
def Ku (a:QE) (fd:LI) (i:Nat) (v:Int):Option Ed:=if 0≤nxt a.ed (cget fd i) v then some ((i:Int),v,zT fd (nxt a.ed (cget fd i) v)) else none
def YO (a:QE) (fd:LI) (n:Nat):LI:=((List.range' 0 n).filter λi=>decide (cget fd i∈a.mr)).map λi:Nat=>(i:Int)
def Y6 (a:QE) (fd:LI) (n:Nat):List Ed:=(List.range' 0 n).flatMap λi=>a.al.filterMap (Ku a fd i)
def YU (a:QE):QE:=⟨a.al,(found a).length,YO a (found a) (found a).length,Y6 a (found a) (found a).length⟩
theorem X8 {β:Type}{r:Int→Int→Prop}{q:β→β→Prop}{g:Int→Option β}(G:∀x y u v,r x y→g x=some u→g y=some v→q u v):∀{l:LI},l.Pairwise r→(l.filterMap g).Pairwise q
 | [],_=>by simp
 | x::l,h=>by
  obtain ⟨h1,h2⟩:=L7.1 h;rw[Mk];split
  ·exact X8 G h2
  rename_i u hu;refine L7.2 ⟨λv H=>?_,X8 G h2⟩;obtain ⟨y,hy,J⟩:=Mx.1 H;exact G x y u v (h1 y hy) hu J
theorem QaX {a:QE}(H:QK a):QK (YU a)∧(YU a).al=a.al∧(YU a).st≤a.st:=by
 obtain ⟨h1,h2⟩:=Ui H;have hl:=h1.len H.st0;have h0:=H.st0;have h4:=H.st1;refine ⟨⟨H.al,H.ali,by simp[YU],by simp only[YU];omega,λs hs=>?_,?_,λe he=>?_,?_⟩,O,by simp only[YU];omega⟩
 ·simp only[YU,YO,List.mem_map,List.mem_filter,List.mem_range'_1] at hs;obtain ⟨i,⟨hi,_⟩,rfl⟩:=hs;simp only[YU];omega
 ·simp only[YU,YO];unfold ZT;rw[Mm];refine List.Pairwise.sublist Mz ?_;exact (MM (s:=0) (n:=(found a).length)).imp (λh=>by omega)
 ·simp only[YU,Y6,List.mem_flatMap,List.mem_filterMap,List.mem_range'_1] at he;obtain ⟨i,⟨_,hi⟩,v,J,G⟩:=he;unfold Ku at G;split at G
  ·rename_i U;cases G
   have S:i<(found a).length:=by omega
   have hm:=h2 (cget (found a) i) (by rw[←Q5 S];exact Lj S) v J U;have hx:=LC hm;simp only[YU];unfold zT;rw[if_pos hm];exact ⟨by omega,by omega,J,by omega,by omega⟩
  cases G
 simp only[YU,Y6];have key:∀(is:LN),is.Pairwise (·<·)→(is.flatMap λi=>a.al.filterMap (Ku a (found a) i)).Pairwise λx y:Ed=>x.1<y.1∨(x.1=y.1∧x.2.1<y.2.1):=by
  intro is;induction is with
  | nil=>intro _;simp
  | cons i is ih =>
   intro hp;obtain ⟨V,Y⟩:=L7.1 hp;rw[LM,Mu];have from_i:∀(i:Nat) (e:Ed),e∈a.al.filterMap (Ku a (found a) i)→e.1=i:=by
    intro i e he;obtain ⟨v,_,G⟩:=Mx.1 he;unfold Ku at G;split at G
    ·cases G;rfl
    cases G
   refine ⟨?_,ih Y,λe he e' Z=>?_⟩
   ·refine X8 (r:=(·<·)) (λx y u v ha hu J=>?_) H.ali;unfold Ku at hu J;split at hu
    ·cases hu;split at J
     ·cases J;exact .inr ⟨O,ha⟩
     cases J
    cases hu
   obtain ⟨j,hj,hb⟩:=MP.1 Z;have e1:=from_i i e he;have e2:=from_i j e' hb;have:=V j hj;left;omega
 exact key _ (MM (s:=0) (n:=(found a).length))
set_option maxHeartbeats 1000000 in
theorem QfY {L:LN}{w:World}{va vm ve:Value}{a:QE}(h:Zi L w.heap va vm ve a) (ho:QK a) :
  QM prog 253 [.agg #[va,.int .i64 a.st,vm,ve]] w λr w'=>Step [] w w'∧Qn 3 w.heap.size w' r (found a):=by
 have h0:=ho.st0;have h1:=ho.st1;have hS:=ho.al_le;refine QM.of_W func253 O ntmps253 results253 (by simp) ?_;refine Qd<|xl O<|QS (us:=[va,.int .i64 a.st,vm,ve]) O λb1 U ha hU hh=>Qf<|Qd<|Qf ?_;have h8:=ha.size;have hV:=hh.lt;refine Q0 (α:=Value) [(3,3),(7,12)] (λz=>[(3,z)]) (λz w'=>Step [] U w'∧Qn 3 U.heap.size w' z (fd0 a)) (by rfl) ?_ ?_
 ·refine Qd<|x (Qa O)<|x (Qc hh O O)<|x (ZL O O)<|xe<|QI O (λh9=>?_) (λh9=>?_)
  ·refine Qj ?_;exact ⟨nS,Lb,Step.refl _ _,by unfold fd0;rw[if_neg h9];exact QR _ _ _ _⟩
  refine Qx<|Qb<|xl O<|QL (us:=[[.int .i64 0]]) O O (by decide) (by simp) ⟨rfl,rfl,La⟩ λhW w2 hv hX hA=>?_;have hn:w2.ownsRow U.heap.size 3 1 (nS) 0 []:=QR _ _ _ _;have hY:=hv.size;refine xl O<|QZ (news:=[.int .i64 0]) (L:=[]) hn O O O (hA.at (by simp)) (by simp[Value.oneCell']) (by omega) (by omega) λv3 w3 hB hC hZ =>
   Qf<|⟨v3,Lb,hv.then hC (λb hb=>by simp[ob] at hb),?_⟩
  unfold fd0;rw[if_pos h9];exact hB
 rintro v0 g4 w4 ⟨hj,hD⟩;have ga:=ha.trans hj;have gc:=hj.size;refine Zs (found a) λT hT=>?_;have hE:jR a a.st.toNat 0 (fd0 a)=T:=hT;refine Qg<|Qd<|Qf<|Qh<|QC (α:=Nat×LI×Value) [(3,6),(13,48)] (λz=>[(3,z.2.2),(4,.int .i64 z.1)])
  (λz w'=>Step [] U w'∧Qn 3 U.heap.size w' z.2.2 z.2.1∧qH a z.2.1∧z.1≤z.2.1.length∧jR a (a.st.toNat - z.1) z.1 z.2.1=T) (λz=>a.st.toNat - z.1) (by rfl) (0,fd0 a,v0) ⟨O,O,La⟩
  ⟨hj,hD,Qh8 a,Lm _,hE⟩ ?_
 rintro ⟨i,out,v⟩ g5 w5 ⟨hl,V,G,hi,Y⟩;simp only[] at V G hi Y;have hw:=G.len h0;have hy:=Qn.ints (L:=[]) V (by omega) (by simp);refine Qg<|Qd<|Qb<|Qb<|x (Qw hy O)<|x (QD O O)<|xe<|QI rfl (λhz=>?_) (λhz=>?_)
 ·have e:out=T:=by
   rw[←Y];generalize a.st.toNat - i=f;cases f with
   | zero=>rfl
   | succ f=>rw[jR,if_neg (by omega)]
  refine Qy<|Qd<|Qb<|Qf ?_;rw[e] at V;exact Qs ⟨[v],Lb,ha.trans hl,by rw[hT];exact QT V h8⟩
 have J:i<out.length:=by omega
 have hF:a.st.toNat - i=(a.st.toNat - (i+1))+1:=by omega
 rw[hF,jR,if_pos J] at Y;refine Zs (cget out i) λs S=>?_;rw[S] at Y;refine Zs (fdR a out s) λR hR=>?_;rw[hR] at Y;unfold fdR at hR;refine Qj<|Qg<|Qh<|Qd<|Qf<|Qh<|QC (α:=Nat×LI×Value) [(3,3),(5,6),(19,48)] (λz=>[(3,z.2.2),(5,.int .i64 z.1)])
  (λz w'=>Step [] U w'∧Qn 3 U.heap.size w' z.2.2 z.2.1∧qH a z.2.1∧z.1≤a.al.length∧i<z.2.1.length∧cget z.2.1 i=s∧(a.al.drop z.1).foldl (VV a s) z.2.1=R) (λz=>a.al.length - z.1) (by rfl) (0,out,v) ⟨O,O,La⟩
  ⟨hl,V,G,Lm _,J,S,hR⟩ ?_
 clear hl V G hi hw hy J S hR hz;rintro ⟨k,out,v⟩ g6 w6 ⟨Z,he,G,hk,J,S,H⟩;simp only[] at he G hk J S H;have hw:=G.len h0;have h2:=(h.al.ext ha).ext Z;have hm:=hh.ext Z;have h3:=Qn.ints (L:=[]) he (by omega) (by simp);refine Qg<|Qd<|Qb<|x (Qa O)<|x (Qc hm O O)<|x (Qw h2 O)<|x (QD O O)<|xe<|QI rfl (λhG=>?_) (λhG=>?_)
 ·refine Qy<|Qx<|Qb<|QN O O<|Qf ?_;rw[Lr (by omega)] at H;have hH:out=R:=H;exact ⟨(i+1,out,v),by simp only[];omega,⟨O,O,La⟩,Z,he,G,J,by simp only[];rw[hH];exact Y⟩
 have hf:k<a.al.length:=by omega
 rw[LQ hf,Ls,Q5 hf] at H;refine Zs (cget a.al k) λu hu=>?_;rw[hu] at H;have hI:=(h.ed.ext ha).ext Z;refine Zs (nxt a.ed s u) λt ht=>?_;have hJ:VV a s out u=if 0≤t∧t∉out then out++[t] else out:=by unfold VV;rw[ht]
 have hp:=Qh7 ho G s u;rw[hJ] at H hp;refine Qj<|Qg<|Qh<|Qg<|QV (Step [] w6) [(0,true),(1,true),(2,true),(3,true),(4,true),(5,true),(6,true),(7,true),(8,true),(9,true),(10,false),(11,true)] mixed (by rfl) (by kernel_rfl) (Step.drew _ _) ?_;refine pq (λ_ hc=>Qo (hm.ext hc) O O)<|p (λ_=>Ql)<|p (λ_=>Ql)<|pic (i:=i) O h3 O O J λge h4=>?_;rw[S] at h4
 refine pq (λ_ hc=>Qv (h4.ext hc) O)<|p (λ_=>Qa O)<|pq (λ_ hc=>Qc (hm.ext hc) O O)<|p (λ_=>Ql) <|
  pic (i:=k) O h2 O O hf λgg h5=>?_
 rw[hu] at h5;have hsr:=Qbm (va:=va) (vm:=vm) (a:=a) (hI.ext (Step.drew [] w6)) s u a.st;rw[ht] at hsr;refine pq (λ_ hc=>Qv (h5.ext hc) O)<|pk<|xf<|hsr.mono ?_;rintro r7 w7 ⟨rfl,hK⟩;have hg:=(Step.drew [] w6).trans hK;refine ⟨hg,p (λ_=>Qe)<|pe ?_⟩;have h6:=Qt he hg;have hL:=h3.ext hg
 refine Q0 (α:=Unit) [(37,44)] (λz=>[(44,.bool (decide (0≤t∧t∉out)))]) (λz w'=>w'=w7) (by rfl) ?_ ?_
 ·refine Qx<|Qb<|xb (Yg O O) (λhq=>?_) (λhq=>?_)
  ·refine Qb<|Qb<|Qb<|xl O<|xf<|(QeP hL t).mono ?_;rintro r8 w8 ⟨rfl,rfl⟩;refine x (Zh O)<|x (Qp O)<|xe<|⟨(),⟨congrArg Value.bool ?_,La⟩,O⟩;show (!decide (t∈out))=_;rw[Bool.eq_iff_iff];simp[hq]
  refine Qb<|xs O<|xs O<|xs O<|xs O<|x (Qp O)<|xe ?_;exact ⟨(),⟨congrArg Value.bool (decide_eq_false (λe=>hq e.1)).symm,La⟩,O⟩
 rintro _ g9 w9 rfl;refine QI rfl (λhr=>?_) (λhr=>?_)
 ·rw[if_neg hr] at H;refine Qj<|Qx<|Qb<|QN O O<|Qf ?_;exact ⟨(k+1,out,v),by simp only[];omega,⟨O,O,La⟩,Z.trans hg,h6,G,hf,J,S,H⟩
 rw[if_pos hr] at H hp;have h7:=Z.trans hg;have gh:=h7.size;refine Qx<|Qb<|Qb<|xl O<|QL (us:=[[.int .i64 t]]) O O (by decide) (by simp) ⟨rfl,rfl,La⟩ λgi gj hs gk hM=>?_;have hN:=Qt h6 hs;have gl:=hs.size;refine xl rfl<|QZ (news:=[.int .i64 t]) (L:=[]) hN O O O (hM.at (by simp)) (by simp[Value.oneCell']) (by omega) (by omega) λhO gm hP hQ gn =>
  Qf ?_
 have hge:=Qm he;refine Qx<|Qb<|QN O O<|Qf<|⟨(k+1,out++[t],hO),by simp only[];omega,⟨O,O,La⟩,(h7.trans hs).then hQ (λb hb=>.inr (hge b hb).1),Qn.snoc hP,hp,hf,by simp;omega,?_,H⟩;simp only[];rw[Ut J];exact S
structure CrI (w7:World) (b4:Nat) (vcl:Value) (n:Int) (vm vd:Value) (M:LI) (E:List Ed) (w:World):Prop where
 st:Step [b4] w7 w
 B:QX w.heap b4 58 [vcl,.int .i64 n,vm,vd]
 m:Qn 3 w7.heap.size w vm M
 e:ZS 144 w7.heap.size w vd E
 dj:Dj vm vd
section
variable {w7 w w' w'':World} {b4:Nat} {vcl:Value} {n:Int} {vm vd:Value} {M:LI} {E:List Ed}
theorem CrI.ext (h:CrI w7 b4 vcl n vm vd M E w) (hs:Step [] w w'):CrI w7 b4 vcl n vm vd M E w':=⟨h.st.trans hs,h.B.ext hs,Qt h.m hs,Qt h.e hs,h.dj⟩
theorem CrI.setM (h:CrI w7 b4 vcl n vm vd M E w) (hb:b4<w7.heap.size) {G:Value}{M':LI}(hs:Step (ob vm) w w') (hm:Qn 3 w7.heap.size w' G M') (S:∀b∈ob G,b∈ob vm∨w.heap.size≤b) (H:Step [b4] w' w'')
  (U:QX w''.heap b4 58 [vcl,.int .i64 n,G,vd]):CrI w7 b4 vcl n G vd M' E w'' :=
 ⟨(h.st.then hs (λb hb=>.inr (Qm h.m b hb).1)).trans' H,U,Qi hm H (λb J=>by have:=(Qm hm b J).1;simp;omega),
  Qi (Qi h.e hs h.dj.symm) H (λb J=>by have:=(Qm h.e b J).1;simp;omega),(h.dj.symm.grow S (QY h.e)).symm⟩
theorem CrI.setE (h:CrI w7 b4 vcl n vm vd M E w) (hb:b4<w7.heap.size) {G:Value}{E':List Ed}(hs:Step (ob vd) w w') (hm:ZS 144 w7.heap.size w' G E') (S:∀b∈ob G,b∈ob vd∨w.heap.size≤b) (H:Step [b4] w' w'')
  (U:QX w''.heap b4 58 [vcl,.int .i64 n,vm,G]):CrI w7 b4 vcl n vm G M E' w'' :=
 ⟨(h.st.then hs (λb hb=>.inr (Qm h.e b hb).1)).trans' H,U,Qi (Qi h.m hs h.dj) H (λb J=>by have:=(Qm h.m b J).1;simp;omega),
  Qi hm H (λb J=>by have:=(Qm hm b J).1;simp;omega),h.dj.grow S (QY h.m)⟩
end
theorem j3 (a:QE) (fd:LI) (k:Nat):YO a fd (k+1)=if cget fd k∈a.mr then YO a fd k++[(k:Int)] else YO a fd k:=by
 unfold YO;rw[LS,Me,LA,LJ];by_cases h:cget fd k∈a.mr
 ·rw[if_pos h,Mw,if_pos (decide_eq_true h)];rfl
 rw[if_neg h,Mw,if_neg (by rw[decide_eq_false h];simp),Nw,List.map_nil,LU]
theorem QcA (a:QE) (fd:LI):∀k,(YO a fd k).length≤k
 | 0=>by simp[YO]
 | k+1=>by
  have:=QcA a fd k;rw[j3];split
  ·simp;omega
  omega
theorem Qgd (a:QE) (fd:LI) (k:Nat):Y6 a fd (k+1)=Y6 a fd k++a.al.filterMap (Ku a fd k):=by
 unfold Y6;rw[LS,LL,LJ];simp
set_option maxHeartbeats 2000000 in
theorem jc {L:LN}{w:World}{va vm ve:Value}{a:QE}(h:Zi L w.heap va vm ve a) (V:QK a) :
  QM prog 201 [.agg #[va,.int .i64 a.st,vm,ve]] w λr w'=>Step [] w w'∧Xb w.heap.size w'.heap r (YU a):=by
 have h0:=V.st0;have h1:=V.st1;have kx:=V.al_le;have ge:=(Ui V).1;have gg:=ge.len h0;refine QM.of_W func201 O ntmps201 results201 (by simp) ?_;refine Zs (found a) λfd hw=>?_;rw[hw] at gg;have gh:YU a=⟨a.al,fd.length,YO a fd fd.length,Y6 a fd fd.length⟩:=by unfold YU;rw[hw]
 refine Qd<|xl O<|QS (us:=[va,.int .i64 a.st,vm,ve]) O λb1 w1 hF kz hz=>xl O<|Qu (us:=[nS,.int .i64 0,nS,nS]) O λb2 w2 hn k0 hG=>xe ?_;have Y:=hF.trans hn;have hfr:=QfY (h.ext Y) V;rw[hw] at hfr;refine Qd<|x (Qo (hz.ext hn) O O)<|xl O<|xf<|hfr.mono ?_;rintro vf w3 ⟨hp,gi⟩;refine Qf ?_;have hH:=Y.trans hp;have hJ:=(hz.ext hn).ext hp
 refine Qd<|x (Qa O)<|x (Qc hJ O O)<|xl O<|xf<|(UV (h.al.ext hH) (by omega)).mono ?_;rintro r4 w4 ⟨hK,vcl,rfl,Z⟩;have hL:=Qn.ints (L:=[]) Z (by omega) (by simp);refine xl rfl<|Qu (us:=[nS,.int .i64 0,nS,nS]) O λb4 w5 gj gk gl =>
  xl rfl<|Qq (us:=[vcl,.int .i64 0,nS,nS]) gl O O O O ⟨hL.one,O,O,O,La⟩ λw6 gm hM=>xe ?_
 have h2:Step [] w4 w6:=gj.then1 gm gk;have ha:=hK.trans h2;have hN:=Qn.ints (L:=[]) gi (by omega) (by simp);have k4:=hF.size;have k5:=hn.size;have k6:=hp.size;have k7:=hK.size;have k8:=h2.size;have k9:=hz.lt;have ma:=hG.lt;have mc:=hM.lt;refine Qd<|Qb<|x (Qw hN O)<|x (Qa O)<|xl O<|QH (u:=.int .i64 fd.length) hM O O (by simp) rfl λw7 S gn=>xe ?_
 have mf:=S.size;have mg:Step [b4] w3 w7:=(ha.any (L:=[b4])).trans' S;have hO:Step [] w w7:=(hH.trans ha).then1 S (by omega);have hP:QO [b4] w7.heap vf fd:=((hN.up (L':=[b4]) (λb hb=>.inr (by simp at hb;omega))).ext ha).st S;have h3:Zi [b4] w7.heap va vm ve a:=(h.up (λb hb=>.inr (by simp at hb;omega))).ext hO
 have gq:Qn 3 w3.heap.size w7 vcl a.al:=Qi (Qt Z h2) S (λb hb=>by have:=QY Z b hb;simp;omega);have hQ:=(hJ.ext ha).step S (by simp;omega);have gr:=((hG.ext hp).ext ha).step S (by simp;omega);have he:b4<w7.heap.size:=by omega
 have n1:b1∉[b4]:=by simp;omega
 have n2:b2∉[b4]:=by simp;omega
 refine Qg<|Qd<|Qf<|Qh<|QC (α:=Nat×Value×Value) [(5,7),(16,69)] (λz=>[(5,.int .i64 z.1)])
  (λz w'=>z.1≤fd.length∧CrI w7 b4 vcl fd.length z.2.1 z.2.2 (YO a fd z.1) (Y6 a fd z.1) w'∧(Y6 a fd z.1).length≤z.1*32) (λz=>fd.length - z.1) (by rfl) (0,nS,nS) Lb
  ⟨Lm _,⟨Step.refl _ _,gn,QR _ _ _ _,QR _ _ _ _,Dj.nil' _⟩,Lm _⟩ ?_
 rintro ⟨i,v1,v2⟩ g8 w8 ⟨hi,G,h4⟩;simp only[] at hi G h4;have gs:=QcA a fd i;have hR:=hP.st G.st;refine Qg<|Qd<|Qb<|Qb<|x (Qw hR O)<|x (QD O O)<|xe<|QI rfl (λgt=>?_) (λgt=>?_)
 ·have gu:i=fd.length:=by omega
  rw[gu] at G h4 gs;refine Qy ?_;have gv:=Qn.ints (L:=[]) G.m (by omega) (by simp);have gx:=ZS.eds (L:=[]) G.e (by omega) (by simp);refine Qd<|x (Qo G.B O O)<|xl O<|Qq (us:=[vcl,.int .i64 fd.length,v1,v2]) (gr.step G.st n2) O O O O ⟨hL.one,O,gv.one,gx.one,La⟩ λw9 hq gy=>xe ?_
  refine Qs ⟨[.agg #[vcl,.int .i64 fd.length,v1,v2]],⟨⟨_,O,QF O (gy.at (L:=[]) (by simp)).cells⟩,La⟩,(hO.then1 G.st (by omega)).then1 hq (by omega),?_⟩;rw[gh];have k1:=Qi (Qi gq G.st (λb hb=>by have:=QY Z b hb;simp;omega)) hq (λb hb=>by have:=(Qm Z b hb).1;simp;omega);have k2:=Qi G.m hq (λb hb=>by have:=(Qm G.m b hb).1;simp;omega)
  have k3:=Qi G.e hq (λb hb=>by have:=(Qm G.e b hb).1;simp;omega);refine ⟨vcl,v1,v2,O,λL' h5=>⟨?_,?_,?_⟩⟩
  ·exact Qn.ints k1 (by show a.al.length≤_;omega) (λb hb=>by have:=h5 b hb;omega)
  ·exact Qn.ints k2 (by show (YO a fd fd.length).length≤_;omega) (λb hb=>by have:=h5 b hb;omega)
  exact ZS.eds k3 (by show (Y6 a fd fd.length).length≤_;omega) (λb hb=>by have:=h5 b hb;omega)
 have h6:i<fd.length:=by omega
 refine Zs (cget fd i) λs hr=>?_;have hf:=j3 a fd i;rw[hr] at hf;refine Qj<|Qg<|Qh<|Q0 (α:=Value) [(22,34)] (λz=>[]) (λz w'=>CrI w7 b4 vcl fd.length z v2 (YO a fd (i+1)) (Y6 a fd i) w') (by rfl) ?_ ?_
 ·have gz:=h3.st G.st;have g0:=hQ.step G.st n1;refine Qg<|QV (Step [] w8) [(0,true),(1,true),(2,true),(3,true),(4,true),(5,true),(6,false)] mixed (by rfl) (by kernel_rfl) (Step.drew _ _) ?_;refine p (λ_=>Qa O)<|pq (λ_ hc=>Qc (g0.ext hc) O O)<|p (λ_=>Ql)<|p (λ_=>Ql)<|pic (i:=i) O hR O O h6 λmh hS=>?_;rw[hr] at hS
  refine pq (λ_ hc=>Qv (hS.ext hc) O)<|pk<|xf<|(QeP (gz.mr.ext (Step.drew [] w8)) s).mono ?_;rintro mj mo ⟨rfl,rfl⟩;have h7:=G.ext (Step.drew [] w8);refine ⟨Step.drew _ _,pe ?_⟩;refine QI O (λh8=>?_) (λh8=>?_)
  ·rw[if_neg h8] at hf;refine Qj ?_;exact ⟨v1,La,by rw[hf];exact h7⟩
  rw[if_pos h8] at hf;refine Qx<|x (Qa O)<|x (Qc h7.B O O)<|Qb<|xl O<|QL (us:=[[.int .i64 i]]) O O (by decide) (by simp) ⟨rfl,rfl,La⟩ λmq ms g1 mt g2=>?_;have hg:=h7.ext g1;refine xl O<|QZ (news:=[.int .i64 i]) (L:=[]) hg.m O O O (g2.at (by simp)) (by simp[Value.oneCell']) (by omega) hg.st.size λhT g3 g4 Y g5=>?_
  have hU:Qn 3 w7.heap.size g3 hT (YO a fd i++[(i:Int)]):=Qn.snoc g4;refine x (Qa O)<|xl O<|QH (hg.B.step Y (QU hg.m he)) O O (by simp) (Qn.ints (L:=[]) hU (by simp;omega) (by simp)).one λmu g6 g7 =>
   xe ?_
  exact ⟨hT,La,by rw[hf];exact hg.setM he Y hU g5 g6 g7⟩
 rintro v3 mv mw g9;refine Zs (Y6 a fd (i+1)) λE1 h9=>?_;have hV:=Qgd a fd i;rw[h9] at hV;refine Qd<|Qf<|Qh<|QC (α:=Nat×List Ed×Value) [(6,7),(35,69)] (λz=>[(6,.int .i64 z.1)])
  (λz w'=>z.1≤a.al.length∧CrI w7 b4 vcl fd.length v3 z.2.2 (YO a fd (i+1)) z.2.1 w'∧z.2.1.length≤i*32+z.1∧z.2.1++(a.al.drop z.1).filterMap (Ku a fd i)=E1) (λz=>a.al.length - z.1) (by rfl) (0,Y6 a fd i,v2) Lb
  ⟨Lm _,g9,h4,hV.symm⟩ ?_
 rintro ⟨k,E,vd⟩ my hA ⟨hk,J,ka,H⟩;simp only[] at hk J ka H;have hB:=h3.st J.st;have hs:=hQ.step J.st n1;have hW:=hP.st J.st;refine Qg<|Qd<|Qb<|x (Qa O)<|x (Qc hs O O)<|x (Qw hB.al O)<|x (QD O O)<|xe<|QI rfl (λkb=>?_) (λkb=>?_)
 ·refine Qy<|Qx<|Qb<|QN O O<|Qf ?_;rw[Lr (by omega),List.filterMap_nil,LU] at H;refine ⟨(i+1,v3,vd),by simp only[];omega,Lb,h6,?_,?_⟩
  ·simp only[];rw[h9,←H];exact J
  simp only[];rw[h9,←H];omega
 have U:k<a.al.length:=by omega
 refine Zs (cget a.al k) λu hu=>?_;rw[LQ U,Q5 U,hu,Mk] at H;refine Zs (nxt a.ed s u) λt ht=>?_;have kc:Ku a fd i u=if 0≤t then some ((i:Int),u,zT fd t) else none:=by unfold Ku;rw[hr,ht]
 rw[kc] at H;have hsr:=Qbm (va:=va) (vm:=vm) (a:=a) (hB.ed.ext (Step.drew [] hA)) s u a.st;rw[ht] at hsr;refine Qj<|Qg<|Qh<|Qg<|QV (Step [] hA) [(0,true),(1,true),(2,true),(3,true),(4,true),(5,true),(6,true),(7,true),(8,true),(9,true),(10,false),(11,true)] mixed (by rfl) (by kernel_rfl) (Step.drew _ _) ?_
 refine pq (λ_ hc=>Qo (hs.ext hc) O O)<|p (λ_=>Ql)<|p (λ_=>Ql)<|pic (i:=i) O hW O O h6 λmz hX=>?_;rw[hr] at hX;refine pq (λ_ hc=>Qv (hX.ext hc) O)<|p (λ_=>Qa O)<|pq (λ_ hc=>Qc (hs.ext hc) O O)<|p (λ_=>Ql) <|
  pic (i:=k) O hB.al O O U λm0 hY=>?_
 rw[hu] at hY;refine pq (λ_ hc=>Qv (hY.ext hc) O)<|pk<|xf<|hsr.mono ?_;rintro m2 hv ⟨rfl,ke⟩;have hh:=(Step.drew [] hA).trans ke;refine ⟨hh,p (λ_=>Qe)<|pe ?_⟩;have hj:=J.ext hh;have kf:=hs.ext hh;have kg:=hW.ext hh;refine Qd<|Qb<|x (Yg O O)<|xe<|QI rfl (λhC=>?_) (λhC=>?_)
 ·rw[if_neg hC] at H;refine Qj<|Qx<|Qb<|QN O O<|Qf ?_;exact ⟨(k+1,E,vd),by simp only[];omega,Lb,U,hj,by simp only[];omega,H⟩
 rw[if_pos hC] at H;have kh:=Qm J.e;have ki:QO (b4::ob vd) hv.heap va a.al:=(((h3.al.up (L':=b4::ob vd) (λb hb=>by
  rcases Li.1 hb with rfl | hb
  ·exact .inl (by simp)
  exact .inr (kh b hb).1)).step J.st (by simp)).ext hh)
 have kj:=QU hj.e he;have kk:b1∉ob vd:=QU hj.e (by omega);refine QV (Step (ob vd) hv) [(0,true),(1,true),(2,true),(3,true),(4,true),(5,true),(6,true),(7,true),(8,true),(9,true),(10,false),(11,true),(12,false),(13,false),(14,true),(15,false)] mixed (by rfl) (by kernel_rfl) (Step.drew _ _) ?_
 refine p (λ_=>Qa O)<|pq (λ_ hc=>Qc (hj.B.step hc kj) O O)<|p (λ_=>Ql)<|p (λ_=>Qa O)<|pq (λ_ hc=>Qc (kf.step hc kk) O O) <|
  p (λ_=>Ql)<|pic (i:=k) O ki O O U λm3 hZ=>?_
 rw[hu] at hZ;refine pq (λ_ hc=>Qv (hZ.step hc (λb hb=>Le _ hb)) O)<|p (λ_=>Ql)<|p (λ_=>Ql) <|
  pk<|xf<|(QfW (kg.ext (Step.drew [] hv)) t).mono ?_
 rintro m4 m5 ⟨rfl,rfl⟩;refine ⟨Step.drew _ _,p (λ_=>QG ⟨O,O,O,La⟩)<|pk<|QL (us:=[Qz ((i:Int),u,zT fd t)]) O O (by decide) (by exact (by decide:1*3≤1000000)) ⟨O,O,La⟩ λm6 m7 kn m8 ko=>?_⟩;have hD:=(Step.drew [] hv).trans kn;have hm:=hj.ext hD;refine ⟨hD.any,?_⟩
 refine pk<|QZ (news:=Qz ((i:Int),u,zT fd t)) (L:=[]) hm.e O O O (ko.at (by simp)) (λy hy=>by simp only[Qz,List.mem_cons,List.not_mem_nil,or_false] at hy;rcases hy with rfl | rfl | rfl <;> rfl) (by omega) hm.st.size λga kq kr hE kt=>⟨(hD.any (L:=ob vd)).trans' hE,?_⟩
 have gc:ZS 144 w7.heap.size kq ga (E++[((i:Int),u,zT fd t)]):=ZS.snoc kr;refine p (λ_=>Qa O)<|pkl (hl:=by kernel_rfl)<|QH (hm.B.step hE (QU hm.e he)) O O (by simp) (ZS.eds (L:=[]) gc (by simp;omega) (by simp)).one λm9 ku kv =>
  pe ?_
 have kw:=hm.setE he hE gc kt ku kv;refine Qx<|Qb<|QN O O<|Qf<|⟨(k+1,E++[((i:Int),u,zT fd t)],ga),by simp only[];omega,Lb,U,kw,by simp;omega,?_⟩;simp only[List.append_assoc,List.singleton_append];exact H
end Go.Proofs.YtdffckgdcegpaaaGreatDoor
namespace Go.Lg
section
variable {P:Program} {f:Fr} {w:World} {d:Option Nat} {ty:Nat} {ps:String} {af:Array Edge} {gd:Option (Nat×Bool)}
theorem zt {t G:Nat}{x y:Operand}{k:IntKind}{a b:Int}(hx:ev f x=.int k a) (hy:ev f y=.int k b) (ha:0≤a) (hb:0<b) :
  (execOp (ev f) ⟨d,.binOp .rem t x y G,ty,ps,af,gd⟩).run P w=.ok (.value (.int k (a % b))) w:=by
 refine JW hx hy ?_;have h1:¬b=0:=by omega
 simp[binOp,Op.intDiv,h1,Int.tmod_eq_emod_of_nonneg ha]
end
end Go.Lg
namespace Go.Proofs.YtdffckgdcegpaaaGreatDoor
open Go.Proofs.Tryz
open Go.Lg
instance ayMa1:Ay prog 26 5 22 5:=⟨by kernel_rfl,by kernel_rfl⟩
instance ayMa2:Ay prog 22 5 5 1:=⟨by kernel_rfl,by kernel_rfl⟩
abbrev bys (ns:LN):LV:=ns.map λn:Nat=>.int .u8 (n:Int)
theorem U3 {ns:LN}{j:Nat}(h:j<ns.length):(bys ns)[j]?=some (.int .u8 ((ns.getD j 0:Nat):Int)):=by simp[bys,List.getD,h]
theorem QcC:∀(ns:LN),Y0 (bys ns)
 | []=>trivial
 | _::ns=>⟨rfl,QcC ns⟩
theorem Jc {ns:LN}(h:∀n∈ns,n<256) (j:Nat):ns.getD j 0<256:=by
 by_cases hj:j<ns.length
 ·simp only[List.getD,List.getElem?_eq_getElem hj,Option.getD_some];exact h _ (Lj hj)
 simp[List.getD,hj]
structure GrI (al:LI) (S i k:Nat) (M:LI) (E:List Ed):Prop where
 mb:∀x∈M,0≤x∧x<S
 mi:ZT M
 ml:∀x∈M,x<(i:Int)+1
 mn:M.length≤S
 eb:∀e∈E,0≤e.1∧e.1<S∧e.2.1∈al∧0≤e.2.2∧e.2.2<S
 ei:E.Pairwise λx y=>x.1<y.1∨(x.1=y.1∧x.2.1<y.2.1)
 el:∀e∈E,e.1<i∨(e.1=i∧e.2.1∈al.take k)
 en:E.length≤i*5+k
theorem Qkm {S:Nat}{M:LI}(hb:∀x∈M,0≤x∧x<S) (hi:ZT M):M.length≤S:=pig S M (hi.imp (λh=>by omega)) hb
theorem GrI.mark {al:LI}{S i:Nat}{M:LI}{E:List Ed}(h:GrI al S i 0 M E) (hm:∀x∈M,x<(i:Int)) (hi:i<S):GrI al S i 0 (M++[(i:Int)]) E:=by
 have G:∀x∈M++[(i:Int)],0≤x∧x<S:=λx hx=>by
  rcases Lp.1 hx with hx | hx
  ·exact h.mb x hx
  simp only[List.mem_singleton] at hx;omega
 have H:ZT (M++[(i:Int)]):=by
  refine Mu.2 ⟨h.mi,by simp,λx hx y hy=>?_⟩;simp only[List.mem_singleton] at hy;subst hy;exact hm x hx
 refine ⟨G,H,λx hx=>?_,Qkm G H,h.eb,h.ei,h.el,h.en⟩;rcases Lp.1 hx with hx | hx
 ·have:=hm x hx;omega
 simp only[List.mem_singleton] at hx;omega
theorem GrI.skip {al:LI}{S i k:Nat}{M:LI}{E:List Ed}(h:GrI al S i k M E) (hk:k<al.length):GrI al S i (k+1) M E :=
 ⟨h.mb,h.mi,h.ml,h.mn,h.eb,h.ei,λe he=>(h.el e he).imp id (λx=>⟨x.1,by rw[Ll hk];exact LE _ x.2⟩),by have:=h.en;omega⟩
theorem GrI.edge {al:LI}{S i k:Nat}{M:LI}{E:List Ed}(h:GrI al S i k M E) (hk:k<al.length) (ha:ZT al) (hi:i<S) {t:Int}(G:0≤t) (ht:t<S):GrI al S i (k+1) M (E++[((i:Int),cget al k,t)]):=by
 have H:cget al k∈al:=XX hk;refine ⟨h.mb,h.mi,h.ml,h.mn,λe he=>?_,?_,λe he=>?_,by have:=h.en;simp;omega⟩
 ·rcases Lp.1 he with he | he
  ·exact h.eb e he
  simp only[List.mem_singleton] at he;subst he;exact ⟨by simp only[];omega,by simp only[];omega,H,G,ht⟩
 ·refine Mu.2 ⟨h.ei,by simp,λx hx y hy=>?_⟩;simp only[List.mem_singleton] at hy;subst hy;rcases h.el x hx with h1 | ⟨h1,h2⟩
  ·left;exact h1
  right;refine ⟨h1,?_⟩;simp only[];have hp:ZT (al.take k++al.drop k):=by rw[MT];exact ha
  refine (Mu.1 hp).2.2 _ h2 _ ?_;rw[LQ hk,Q5 hk];exact Lh
 rw[Ll hk,Q5 hk];rcases Lp.1 he with he | he
 ·exact (h.el e he).imp id (λx=>⟨x.1,LE _ x.2⟩)
 simp only[List.mem_singleton] at he;subst he;exact .inr ⟨O,Nc _ (by simp)⟩
theorem GrI.next {al:LI}{S i k:Nat}{M:LI}{E:List Ed}(h:GrI al S i k M E) (hk:k≤5):GrI al S (i+1) 0 M E :=
 ⟨h.mb,h.mi,λx hx=>by have:=h.ml x hx;omega,h.mn,h.eb,h.ei,λe he=>by rcases h.el e he with h1 | h1 <;> (left;omega),by have:=h.en;omega⟩
set_option maxHeartbeats 2000000 in
theorem QfQ {L:LN}{w:World}{v:Value}{al:LI}{ns:LN}(h:QO L w.heap v al) (hb:∀e∈al,0≤e∧e<32) (hi:ZT al) (hn:ns.length=27) (hp:∀n∈ns,n<256) :
  QM prog 130 [v,.agg (bys ns).toArray] w λr w'=>Step [] w w'∧∃a:QE,Xb w.heap.size w'.heap r a∧QK a∧a.st≤5∧a.al=al ∧
   (ns.getD 0 0<250→∃a0:QE,QK a0∧0<a0.st∧a0.st≤((1+ns.getD 0 0 % 5:Nat):Int)∧a=YU a0):=by
 have k5:al.length≤32:=pig 32 al (hi.imp (λh=>by omega)) (λx hx=>by have:=hb x hx;omega);refine QM.of_W func130 O ntmps130 results130 (by simp) ?_;have g0:=U3 (ns:=ns) (j:=0) (by omega);have g1:=U3 (ns:=ns) (j:=1) (by omega);have l0:=Jc hp 0;have l1:=Jc hp 1;refine Zs (ns.getD 0 0) λs0 hY=>?_;refine Zs (ns.getD 1 0) λm1 hZ=>?_;rw[hY] at g0 l0;rw[hZ] at g1 l1
 refine Qd<|xl O<|QS (us:=bys ns) O λb3 w1 h6 k6 h7=>xl O<|Qu (us:=[nS,.int .i64 0,nS,nS]) O λb4 w2 hr k7 hs=>xe ?_;have ho:=h6.trans hr;have hu:=h7.ext hr;have k8:=h6.size;have k9:=hr.size;have ma:=h7.lt;have mc:=hs.lt;refine Qg<|Qd<|x (Qa O)<|x (Qc hu O g0)<|x (Yg O O)<|xe<|Zc rfl (λga=>?_) (λga=>?_)
 ·refine Qd<|Qb<|xl O<|xf<|(UV (h.ext ho) (by omega)).mono ?_;rintro r3 w3 ⟨h8,vcl,rfl,V⟩;have hv:=Qn.ints (L:=[]) V (by omega) (by simp);refine xl O<|Qq (us:=[vcl,.int .i64 0,nS,nS]) (hs.ext h8) O O O O ⟨hv.one,O,O,O,La⟩ λw4 h9 gc=>xe ?_;have ge:=Qi V h9 (λb hb=>by have:=(Qm V b hb).1;simp;omega)
  refine Qs ⟨[.agg #[vcl,.int .i64 0,nS,nS]],⟨⟨_,O,QF O (gc.at (L:=[]) (by simp)).cells⟩,La⟩,(ho.trans h8).then1 h9 (by omega),⟨al,0,[],[]⟩,?_,?_,(by decide:(0:Int)≤5),rfl,λh=>absurd h (by omega)⟩
  ·exact ⟨vcl,_,_,O,λL' gg=>⟨Qn.ints ge (by show al.length≤_;omega) (λb hb=>by have:=gg b hb;omega),Zz.nil _ _ _,Zz.nil _ _ _⟩⟩
  exact ⟨hb,hi,(by decide:(0:Int)≤0),(by decide:(0:Int)≤4096),by simp,by simp,by simp,by simp⟩
 refine Qj<|Qd<|Qb<|xl O<|xf<|(UV (h.ext ho) (by omega)).mono ?_;rintro r5 w5 ⟨hA,vcl,rfl,V⟩;have hv:=Qn.ints (L:=[]) V (by omega) (by simp);refine xl rfl<|Qu (us:=[nS,.int .i64 0,nS,nS]) O λH w6 gh gi gk =>
  xl rfl<|Qq (us:=[vcl,.int .i64 0,nS,nS]) gk O O O O ⟨hv.one,O,O,O,La⟩ λw7 gl hB=>xe ?_
 have hw:Step [] w5 w7:=gh.then1 gl gi;have hg:=hA.trans hw;have mf:=hA.size;have mg:=hw.size;have mh:=hB.lt;refine Zs (1+s0 % 5) λS hS=>?_;have mj:1≤S∧S≤5:=by omega
 have gm:(1:Int)+(s0:Int) % 5=(S:Int):=by omega
 refine Qd<|x (Qa O)<|x (Qc (hu.ext hg) O g0)<|x (zt (a:=(s0:Int)) (b:=5) O O (by omega) (by omega))<|x (YA (k':=.i64) O ⟨by omega,by omega⟩)<|QN O O<|x (Qa O) <|
  xl rfl<|QH (u:=.int .i64 S) hB O (congrArg (Value.int .i64) gm) (by simp) rfl λJ ha gn=>xe ?_
 have mo:=ha.size;have mq:Step [H] w2 J:=(hg.any (L:=[H])).trans' ha;have hC:Step [] w J:=(ho.trans hg).then1 ha (by omega);have hD:QO [H] J.heap v al:=(h.up (L':=[H]) (λb hb=>.inr (by simp at hb;omega))).ext hC;have gq:Qn 3 w2.heap.size J vcl al:=Qi (Qt V hw) ha (λb hb=>by have:=QY V b hb;simp;omega);have hE:=(hu.ext hg).step ha (by simp;omega)
 have gr:=(hs.ext hg).step ha (by simp;omega);have hh:H<J.heap.size:=by omega
 have n3:b3∉[H]:=by simp;omega
 have n4:b4∉[H]:=by simp;omega
 refine Qg<|Qd<|Qf<|Qh<|QC (α:=Nat×Value×Value×LI×List Ed) [(6,8),(22,76)] (λz=>[(6,.int .i64 z.1)])
  (λz w'=>z.1≤S∧CrI J H vcl S z.2.1 z.2.2.1 z.2.2.2.1 z.2.2.2.2 w'∧GrI al S z.1 0 z.2.2.2.1 z.2.2.2.2∧∀x∈z.2.2.2.1,x<(z.1:Int)) (λz=>S - z.1) (by rfl) (0,nS,nS,[],[]) Lb
  ⟨Lm _,⟨Step.refl _ _,gn,QR _ _ _ _,QR _ _ _ _,Dj.nil' _⟩,⟨by simp,by simp,by simp,by simp,by simp,by simp,by simp,by simp⟩,by simp⟩ ?_
 rintro ⟨i,v1,v2,M,E⟩ g9 w9 ⟨gs,G,U,hM⟩;simp only[] at gs G U hM;have ms:=U.mn;have mt:=U.en;refine Qg<|Qd<|Qb<|x (Qa O)<|x (Qc G.B O O)<|x (QD O O)<|xe<|QI rfl (λgt=>?_) (λgt=>?_)
 ·have mu:i=S:=by omega
  refine Qy ?_;have gu:=Qn.ints (L:=[]) G.m (by omega) (by simp);have gv:=ZS.eds (L:=[]) G.e (by omega) (by simp);have gx:Qn 3 w2.heap.size w9 vcl al:=Qi gq G.st (λb hb=>by have:=QY V b hb;simp;omega);have gy:Zi [] w9.heap vcl v1 v2 ⟨al,(S:Int),M,E⟩:=⟨Qn.ints gx (by show al.length≤_;omega) (by simp),gu,gv⟩
  have hz:QK ⟨al,(S:Int),M,E⟩:=⟨hb,hi,by simp only[];omega,by simp only[];omega,U.mb,U.mi,U.eb,U.ei⟩;have h0:=QaX hz;have hH:Step [] w w9:=hC.then1 G.st (by omega);have gz:=gr.step G.st n4;have mv:=G.st.size;refine Qd<|x (Qo G.B O O)<|xl O<|xf<|(jc (a:=⟨al,(S:Int),M,E⟩) gy hz).mono ?_;rintro vr mw ⟨hJ,hF⟩;obtain ⟨us,hK,hL,g2⟩:=XC hF
  refine xl O<|Qq (us:=us) (gz.ext hJ) O hK hL O g2 λmy hN g3=>xe ?_;have g4:=hH.size;refine Qs ⟨[.agg us.toArray],⟨⟨_,O,QF hL (g3.at (L:=[]) (by simp)).cells⟩,La⟩,(hH.trans hJ).then1 hN (by omega),YU ⟨al,(S:Int),M,E⟩,?_,h0.1,?_,h0.2.1,λ_=>⟨⟨al,(S:Int),M,E⟩,hz,by simp only[];omega,by simp only[];omega,O⟩⟩
  ·show Xb _ _ (.agg us.toArray) _;rw[←hK];exact (Ju hF (by omega) hN).mono g4
  have:=h0.2.2;simp only[] at this;omega
 have h1:i<S:=by omega
 refine Qj<|Qg<|Qh<|Q0 (α:=Value×LI) [(28,39)] (λz=>[]) (λz w'=>CrI J H vcl S z.1 v2 z.2 E w'∧GrI al S i 0 z.2 E) (by rfl) ?_ ?_
 ·have g5:m1 / 2 ^ i<256:=Nat.lt_of_le_of_lt (Nat.div_le_self _ _) l1;refine Qd<|x (Qa O)<|x (Qc (hE.step G.st n3) O g1)<|Qb<|x (Qel (n:=i) O O (by show i≤8;omega))<|x (zx (a:=m1 / 2 ^ i) (b:=1) (congrArg (Value.int .u8) (Qed m1 i)) O g5 (by decide))<|x (Zf O O)<|xe<|QI O (λg6=>?_) (λg6=>?_)
  ·refine Qj ?_;exact ⟨(v1,M),La,G,U⟩
  refine Qx<|x (Qa O)<|x (Qc G.B O O)<|Qb<|xl O<|QL (us:=[[.int .i64 i]]) O O (by decide) (by simp) ⟨rfl,rfl,La⟩ λmz m0 g7 m2 g8=>?_;have hj:=G.ext g7;refine xl O<|QZ (news:=[.int .i64 i]) (L:=[]) hj.m O O O (g8.at (by simp)) (by simp[Value.oneCell']) (by omega) hj.st.size λhO ka kb hP kc=>?_;have hQ:Qn 3 J.heap.size ka hO (M++[(i:Int)]):=Qn.snoc kb
  refine x (Qa O)<|xl O<|QH (hj.B.step hP (QU hj.m hh)) O O (by simp) (Qn.ints (L:=[]) hQ (by simp;omega) (by simp)).one λm3 ke kf =>
   xe ?_
  exact ⟨(hO,M++[(i:Int)]),La,hj.setM hh hP hQ kc ke kf,U.mark hM h1⟩
 rintro ⟨v3,M3⟩ m4 m5 ⟨hR,hT⟩;simp only[] at hR hT;refine Qd<|Qf<|Qh<|QC (α:=Nat×Value×List Ed) [(7,8),(40,76)] (λz=>[(7,.int .i64 z.1)])
  (λz w'=>z.1≤al.length∧z.1≤5∧CrI J H vcl S v3 z.2.1 M3 z.2.2 w'∧GrI al S i z.1 M3 z.2.2) (λz=>5 - z.1) (by rfl) (0,v2,E) Lb
  ⟨Lm _,Lm _,hR,hT⟩ ?_
 rintro ⟨k,vd,F⟩ m6 kg ⟨hk,hU,he,hf⟩;simp only[] at hk hU he hf;have kh:=hD.st he.st;have m7:=hf.en;refine Qg<|Q0 (α:=Unit) [(40,47)] (λz=>[(47,.bool (decide (k<al.length∧k<5)))]) (λz w'=>w'=kg) (by rfl) ?_ ?_
 ·refine Qx<|Qb<|Qb<|x (Qw kh O)<|xb (QD O O) (λhV=>?_) (λhV=>?_)
  ·refine Qb<|Qb<|x (QD O O)<|x (Qp O)<|xe<|⟨(),⟨congrArg Value.bool ?_,La⟩,O⟩;exact decide_eq_decide.2 ⟨λe=>⟨by omega,by omega⟩,λe=>by omega⟩
  refine Qb<|xs O<|xs O<|x (Qp O)<|xe ?_;exact ⟨(),⟨congrArg Value.bool (decide_eq_false (λe=>hV (by omega))).symm,La⟩,O⟩
 rintro _ m8 Y rfl;refine QI rfl (λh2=>?_) (λh2=>?_)
 ·refine Qy<|Qx<|Qb<|QN O O<|Qf ?_;exact ⟨(i+1,v3,vd,M3,F),by simp only[];omega,Lb,h1,he,hf.next hU,λx hx=>by have:=hf.ml x hx;simp only[];omega⟩
 have hk1:k<al.length:=h2.1;have h3:k<5:=h2.2;have gj:=U3 (ns:=ns) (j:=0+2+i*5+k*1) (by omega);have lj:=Jc hp (0+2+i*5+k*1);refine Zs (ns.getD (0+2+i*5+k*1) 0) λq hq=>?_;rw[hq] at gj lj;have ki:=hE.step he.st n3;have kj:0≤(q:Int) % ((S:Int)+2):=Int.emod_nonneg _ (by omega);have m9:(q:Int) % ((S:Int)+2)<(S:Int)+2:=Int.emod_lt_of_pos _ (by omega)
 refine Qj<|Qg<|Qh<|Qg<|QV (Step [] Y) [(0,true),(1,true),(2,true),(3,true),(4,true),(5,true),(6,true),(7,true),(8,true),(9,true),(10,true),(11,true)] mixed (by rfl) (by kernel_rfl) (Step.drew _ _) ?_;refine p (λ_=>Ql)<|p (λ_=>Ql)<|p (λ_=>Qa O)<|p (λ_=>ZP (i:=i) O O (by omega))<|p (λ_=>ZP (i:=k) O O h3)<|pq (λ_ hc=>Qc (ki.ext hc) O gj) <|
  p (λ_=>YA (k':=.i64) O ⟨by omega,by omega⟩)<|p (λ_=>Qa O)<|pq (λ_ hc=>Qc (he.B.ext hc) O O)<|p (λ_=>X1 O O ⟨by omega,by omega⟩) <|
  p (λ_=>zt (a:=(q:Int)) (b:=(S:Int)+2) O O (by omega) (by omega))<|p (λ_=>Qe)<|pe ?_
 have Z:=he.ext (Step.drew [] Y);refine Zs ((q:Int) % ((S:Int)+2)) λt ht=>?_;have pa:0≤t:=by omega
 refine Qd<|Qb<|x (Qa O)<|x (Qc Z.B O O)<|x (QD O O)<|xe<|QI rfl (λkk=>?_) (λkk=>?_)
 ·refine Qj<|Qx<|Qb<|QN O O<|Qf ?_;exact ⟨(k+1,vd,F),by simp only[];omega,Lb,hk1,h3,Z,hf.skip hk1⟩
 have kn:=Qm Z.e;have ko:QO (H::ob vd) { Y with drawn:=Y.drawn+1 }.heap v al:=((hD.up (L':=H::ob vd) (λb hb=>by
  rcases Li.1 hb with rfl | hb
  ·exact .inl (by simp)
  exact .inr (kn b hb).1)).step Z.st (by simp))
 have kq:=QU Z.e hh;refine QV (Step (ob vd) { Y with drawn:=Y.drawn+1 }) [(0,true),(1,true),(2,true),(3,true),(4,true),(5,true),(6,true),(7,true),(8,true),(9,false),(10,false),(11,true),(12,false)] mixed (by rfl) (by kernel_rfl) (Step.drew _ _) ?_
 refine p (λ_=>Qa O)<|pq (λ_ hc=>Qc (Z.B.step hc kq) O O)<|p (λ_=>Ql)<|p (λ_=>Ql)<|p (λ_=>Ql) <|
  pic (i:=k) O ko O O hk1 λpc kr=>pq (λ_ hc=>Qv (kr.step hc (λb hb=>Le _ hb)) O)<|p (λ_=>Ql)<|p (λ_=>QG ⟨O,O,O,La⟩) <|
  pk<|QL (us:=[Qz ((i:Int),cget al k,(q:Int) % ((S:Int)+2))]) O O (by decide) (by exact (by decide:1*3≤1000000)) ⟨O,O,La⟩ λpd pf kt pg ku=>?_
 have h4:=(Step.drew [] { Y with drawn:=Y.drawn+1 }).trans kt
 have hm:=Z.ext h4;refine ⟨h4.any,?_⟩;refine pk<|QZ (news:=Qz ((i:Int),cget al k,(q:Int) % ((S:Int)+2))) (L:=[]) hm.e O O O (ku.at (by simp)) (λy hy=>by simp only[Qz,List.mem_cons,List.not_mem_nil,or_false] at hy;rcases hy with rfl | rfl | rfl <;> rfl) (by omega) hm.st.size λhW kv kw h5 kx=>⟨(h4.any (L:=ob vd)).trans' h5,?_⟩
 have hX:ZS 144 J.heap.size kv hW (F++[((i:Int),cget al k,(q:Int) % ((S:Int)+2))]):=ZS.snoc kw;refine p (λ_=>Qa O)<|pkl (hl:=by kernel_rfl)<|QH (hm.B.step h5 (QU hm.e hh)) O O (by simp) (ZS.eds (L:=[]) hX (by simp;omega) (by simp)).one λph kz k0=>pe ?_;have k4:=hm.setE hh h5 hX kx kz k0;refine Qx<|Qb<|QN O O<|Qf ?_
 exact ⟨(k+1,hW,F++[((i:Int),cget al k,(q:Int) % ((S:Int)+2))]),by simp only[];omega,Lb,hk1,h3,k4,hf.edge hk1 hi h1 kj (by omega)⟩
end Go.Proofs.YtdffckgdcegpaaaGreatDoor
namespace Go.Lg
section
variable {P:Program} {f:Fr} {w:World} {d:Option Nat} {ty:Nat} {ps:String} {af:Array Edge} {gd:Option (Nat×Bool)}
theorem UK {t sz:Nat}[Ag P t sz] {x:Operand}{b o T:Nat}{cs us:LV}(h:QX w.heap b T cs) (hx:ev f x=.pointer (some ⟨b,o,none⟩)) (hl:us.length=sz) (G:∀j u,us[j]?=some u→cs[o+j]?=some u) :
  (execOp (ev f) ⟨d,.load t x,ty,ps,af,gd⟩).run P w=.ok (.value (.agg us.toArray)) w:=by
 refine qR hx hl λj u hu=>?_;rw[Ji,XN,h.cell];exact G j u hu
end
end Go.Lg
namespace Go.Proofs.YtdffckgdcegpaaaGreatDoor
open Go.Proofs.Tryz
open Go.Lg
theorem QkK {ns:LN}{o n:Nat}:∀j u,(bys ((ns.drop o).take n))[j]?=some u→(bys ns)[o+j]?=some u:=by
 intro j u h;simp only[bys,List.getElem?_map,List.getElem?_take,List.getElem?_drop] at h ⊢;split at h
 ·exact h
 cases h
theorem QkL {ns:LN}(h:∀n∈ns,n<256) (o n:Nat):∀m∈(ns.drop o).take n,m<256:=λm hm=>h m (Mt (Mh hm))
theorem Qee (m k:Nat):∀e∈setK m k,0≤e∧e<k:=by
 intro e he;simp only[setK,List.mem_map,List.mem_filter,List.mem_range'_1] at he;obtain ⟨i,⟨hi,_⟩,rfl⟩:=he;omega
theorem V9 (keep:Bool→Bool→Bool):∀(n:Nat) (a b:LI),a.length+b.length≤n→ZT a→ZT b→ZT (mrg keep a b):=by
 intro n;induction n with
 | zero =>
  intro a b h _ _;have ha:a=[]:=Ln (by omega);have hb:b=[]:=Ln (by omega);subst ha hb;rw[Kq];exact List.Pairwise.nil
 | succ n ih =>
  intro a b H ia ib;by_cases h:a=[]∧b=[]
  ·obtain ⟨rfl,rfl⟩:=h;rw[Kq];exact List.Pairwise.nil
  have J:=zV h;have itl:∀(c:Bool) (l:LI),ZT l→ZT (tl c l):=λc l hl=>by
   cases c
   ·exact hl
   cases l with
   | nil=>exact hl
   | cons y l=>exact hl.tail
  have G:=ih (tl (Jb a b) a) (tl (Jb b a) b) (by omega) (itl _ _ ia) (itl _ _ ib);rw[J0 keep h];cases keep (Jb a b) (Jb b a) with
  | false=>simpa using G
  | true =>
   simp only[cond_true,List.singleton_append];refine L7.2 ⟨λx hx=>?_,G⟩;have hm:=(Ja (itl _ _ ia) (itl _ _ ib) x).1 hx;cases a with
   | nil =>
    cases b with
    | nil=>exact absurd ⟨O,O⟩ h
    | cons y b =>
     simp only[Jb,tl,cond_true,cond_false,List.tail_cons,List.not_mem_nil,false_or,Go.Proofs.YtdffckgdcegpaaaGreatDoor.hx,List.headD_cons] at hm ⊢;exact ib.lt_of hm.1
   | cons u a =>
    cases b with
    | nil =>
     simp only[Jb,tl,cond_true,cond_false,List.tail_cons,List.not_mem_nil,or_false,Go.Proofs.YtdffckgdcegpaaaGreatDoor.hx,List.headD_cons] at hm ⊢;exact ia.lt_of hm.1
    | cons y b =>
     rcases Int.lt_trichotomy u y with h1 | h1 | h1
     ·have e1:decide (u≤y)=true:=decide_eq_true (by omega);have e2:decide (y≤u)=false:=decide_eq_false (by omega);simp only[Jb,tl,e1,e2,cond_true,cond_false,List.tail_cons,Go.Proofs.YtdffckgdcegpaaaGreatDoor.hx,List.headD_cons] at hm ⊢;rcases hm.1 with h2 | h2
      ·exact ia.lt_of h2
      rcases Li.1 h2 with h2 | h2
      ·omega
      have:=ib.lt_of h2;omega
     ·have e1:decide (u≤y)=true:=decide_eq_true (by omega);have e2:decide (y≤u)=true:=decide_eq_true (by omega);simp only[Jb,tl,e1,e2,cond_true,List.tail_cons,Go.Proofs.YtdffckgdcegpaaaGreatDoor.hx,List.headD_cons] at hm ⊢;rcases hm.1 with h2 | h2
      ·have:=ia.lt_of h2;omega
      have:=ib.lt_of h2;omega
     have e1:decide (u≤y)=false:=decide_eq_false (by omega);have e2:decide (y≤u)=true:=decide_eq_true (by omega);simp only[Jb,tl,e1,e2,cond_true,cond_false,List.tail_cons,Go.Proofs.YtdffckgdcegpaaaGreatDoor.hx,List.headD_cons] at hm ⊢;rcases hm.1 with h2 | h2
     ·rcases Li.1 h2 with h2 | h2
      ·omega
      have:=ia.lt_of h2;omega
     exact ib.lt_of h2
end Go.Proofs.YtdffckgdcegpaaaGreatDoor
namespace Go.Lg
section
variable {P:Program} {f:Fr} {w:World} {d:Option Nat} {ty:Nat} {ps:String} {af:Array Edge} {gd:Option (Nat×Bool)} {all:List Oper} {C:World→Prop} {K:Fr→World→Prop}
theorem tp {l:List (Nat×Bool)}(h:XP P all C K l f w):XT P all C K (.pl l) f w:=h
end
end Go.Lg
namespace Go.Proofs.YtdffckgdcegpaaaGreatDoor
open Go.Lg
theorem ZT.ext:∀{a b:LI},ZT a→ZT b→(∀x,x∈a↔x∈b)→a=b
 | [],[],_,_,_=>rfl
 | [],y::b,_,_,h=>by have:=(h y).2 Lh;cases this
 | x::a,[],_,_,h=>by have:=(h x).1 Lh;cases this
 | x::a,y::b,ia,ib,h=>by
  have e:x=y:=by
   have h1:=(h x).1 Lh;have h2:=(h y).2 Lh;rcases Li.1 h1 with h1 | h1
   ·exact h1
   rcases Li.1 h2 with h2 | h2
   ·exact h2.symm
   have:=ib.lt_of h1;have:=ia.lt_of h2;omega
  subst e;congr 1;refine ZT.ext ia.tail ib.tail λz=>?_;have G:=h z;constructor
  ·intro hm;have:=G.1 (Le _ hm);rcases Li.1 this with h1 | h1
   ·have:=ia.lt_of hm;omega
   exact h1
  intro hm;have:=G.2 (Le _ hm);rcases Li.1 this with h1 | h1
  ·have:=ib.lt_of hm;omega
  exact h1
theorem zf {l:LI}(h:ZT l) (v x:Int):x∈Ki l v↔x∈l∨x=v:=by
 unfold Ki;rw[Ja h (by simp)];simp
theorem zh {l:LI}(h:ZT l) (v:Int):ZT (Ki l v):=V9 _ _ l [v] (Lv _) h (by simp)
theorem Yh (es:List Ed) (s v:Int):nxt es s v=match eget es s v with | some u=>u | none=>-1:=by
 induction es with
 | nil=>rfl
 | cons e es ih =>
  rw[nxt,eget];split
  ·rfl
  exact ih
theorem Yr {a:QE}(G:QK a) (s v:Int):0≤nxt a.ed s v↔(eget a.ed s v).isSome=true:=by
 rw[Yh];cases h:eget a.ed s v with
 | none=>simp
 | some u=>simp;exact (G.ed _ (ZR h)).2.2.2.1
def KI (p:QE) (pairs:List (LI)) (x e:Int):Bool:=pairs.any λq=>decide (py q=x) && decide (0≤nxt p.ed (px q) e)
def Qiq (p s:QE) (pairs:List (LI)) (x:Int):Z6 :=
 ⟨s.al.filter λe=>KI p pairs x e && decide (0≤nxt s.ed x e),s.al.filter λe=>KI p pairs x e && !decide (0≤nxt s.ed x e),
  (pairs.any λq=>decide (py q=x)) && decide (x∈s.mr),pairs.any λq=>decide (py q=x) && decide (px q∈p.mr)⟩
structure UA (p s:QE) (pairs:List (LI)) (x:Int) (c:Z6):Prop where
 ei:ZT c.en
 di:ZT c.dis
 em:∀e,e∈c.en↔e∈s.al∧KI p pairs x e=true∧0≤nxt s.ed x e
 dm:∀e,e∈c.dis↔e∈s.al∧KI p pairs x e=true∧¬0≤nxt s.ed x e
 mk2:c.mk'=((pairs.any λq=>decide (py q=x)) && decide (x∈s.mr))
 ps:c.ps=pairs.any λq=>decide (py q=x) && decide (px q∈p.mr)
theorem UA.eq {p s:QE}{pairs:List (LI)}{x:Int}{c:Z6}(h:UA p s pairs x c) (hi:ZT s.al):c=Qiq p s pairs x:=by
 obtain ⟨en,dis,mk',ps⟩:=c;have e1:en=s.al.filter λe=>KI p pairs x e && decide (0≤nxt s.ed x e):=by
  refine ZT.ext h.ei (List.Pairwise.sublist Mz hi) λe=>?_;rw[h.em e,LH];simp
 have e2:dis=s.al.filter λe=>KI p pairs x e && !decide (0≤nxt s.ed x e):=by
  refine ZT.ext h.di (List.Pairwise.sublist Mz hi) λe=>?_;rw[h.dm e,LH];simp
 have G:=h.mk2;have H:=h.ps;simp only[] at G H;unfold Qiq;rw[e1,e2,G,H]
theorem UA.zero (p s:QE) (x:Int):UA p s [] x J9:=⟨by simp[J9],by simp[J9],by simp[J9,KI],by simp[J9,KI],by simp[J9],by simp[J9]⟩
theorem UA.other {p s:QE}{pairs:List (LI)}{x:Int}{c:Z6}(h:UA p s pairs x c) {q:LI}(hq:py q≠x):UA p s (pairs++[q]) x c:=by
 have hc:∀e,KI p (pairs++[q]) x e=KI p pairs x e:=λe=>by unfold KI;rw[Ny];simp[hq]
 refine ⟨h.ei,h.di,λe=>by rw[hc];exact h.em e,λe=>by rw[hc];exact h.dm e,?_,?_⟩
 ·rw[h.mk2,Ny];simp[hq]
 rw[h.ps,Ny];simp[hq]
theorem Vq {p s:QE}(hp:QK p) (hs:QK s) (x y:Int):∀(vs:LI) (c:Z6),ZT c.en→ZT c.dis →
  ZT (vs.foldl (K3 p s x y) c).en∧ZT (vs.foldl (K3 p s x y) c).dis∧(vs.foldl (K3 p s x y) c).mk'=c.mk'∧(vs.foldl (K3 p s x y) c).ps=c.ps ∧
  (∀e,e∈(vs.foldl (K3 p s x y) c).en↔e∈c.en∨(e∈vs∧0≤nxt p.ed x e∧0≤nxt s.ed y e))∧(∀e,e∈(vs.foldl (K3 p s x y) c).dis↔e∈c.dis∨(e∈vs∧0≤nxt p.ed x e∧¬0≤nxt s.ed y e))
 | [],c,h1,h2=>⟨h1,h2,O,O,λe=>by simp,λe=>by simp⟩
 | v::vs,c,h1,h2=>by
  rw[Ls];have np:=Yr hp x v;have ns:=Yr hs y v;unfold K3;cases U:eget p.ed x v with
  | none =>
   rw[U] at np;obtain ⟨G,i2,H,i4,i5,J⟩:=Vq hp hs x y vs c h1 h2;unfold K3 at G i2 H i4 i5 J;refine ⟨G,i2,H,i4,λe=>?_,λe=>?_⟩
   ·rw[i5 e];constructor
    ·rintro (h | h)
     ·exact .inl h
     exact .inr ⟨Le _ h.1,h.2⟩
    rintro (h | ⟨h,h3,h4⟩)
    ·exact .inl h
    rcases Li.1 h with rfl | h
    ·have:=np.1 h3;cases this
    exact .inr ⟨h,h3,h4⟩
   rw[J e];constructor
   ·rintro (h | h)
    ·exact .inl h
    exact .inr ⟨Le _ h.1,h.2⟩
   rintro (h | ⟨h,h3,h4⟩)
   ·exact .inl h
   rcases Li.1 h with rfl | h
   ·have:=np.1 h3;cases this
   exact .inr ⟨h,h3,h4⟩
  | some t =>
   rw[U] at np;have V:0≤nxt p.ed x v:=np.2 O;cases Y:eget s.ed y v with
   | some u =>
    rw[Y] at ns;have S:0≤nxt s.ed y v:=ns.2 O;obtain ⟨G,i2,H,i4,i5,J⟩:=Vq hp hs x y vs ⟨Ki c.en v,c.dis,c.mk',c.ps⟩ (zh h1 v) h2;unfold K3 at G i2 H i4 i5 J;refine ⟨G,i2,H,i4,λe=>?_,λe=>?_⟩
    ·rw[i5 e,zf h1];constructor
     ·rintro ((h | rfl) | h)
      ·exact .inl h
      ·exact .inr ⟨Lh,V,S⟩
      exact .inr ⟨Le _ h.1,h.2⟩
     rintro (h | ⟨h,h3⟩)
     ·exact .inl (.inl h)
     rcases Li.1 h with rfl | h
     ·exact .inl (.inr O)
     exact .inr ⟨h,h3⟩
    rw[J e];constructor
    ·rintro (h | h)
     ·exact .inl h
     exact .inr ⟨Le _ h.1,h.2⟩
    rintro (h | ⟨h,h3,h4⟩)
    ·exact .inl h
    rcases Li.1 h with rfl | h
    ·exact absurd S h4
    exact .inr ⟨h,h3,h4⟩
   | none =>
    rw[Y] at ns;have S:¬0≤nxt s.ed y v:=λh=>by have:=ns.1 h;cases this
    obtain ⟨G,i2,H,i4,i5,J⟩:=Vq hp hs x y vs ⟨c.en,Ki c.dis v,c.mk',c.ps⟩ h1 (zh h2 v);unfold K3 at G i2 H i4 i5 J;refine ⟨G,i2,H,i4,λe=>?_,λe=>?_⟩
    ·rw[i5 e];constructor
     ·rintro (h | h)
      ·exact .inl h
      exact .inr ⟨Le _ h.1,h.2⟩
     rintro (h | ⟨h,h3,h4⟩)
     ·exact .inl h
     rcases Li.1 h with rfl | h
     ·exact absurd h4 S
     exact .inr ⟨h,h3,h4⟩
    rw[J e,zf h2];constructor
    ·rintro ((h | rfl) | h)
     ·exact .inl h
     ·exact .inr ⟨Lh,V,S⟩
     exact .inr ⟨Le _ h.1,h.2⟩
    rintro (h | ⟨h,h3⟩)
    ·exact .inl (.inl h)
    rcases Li.1 h with rfl | h
    ·exact .inl (.inr O)
    exact .inr ⟨h,h3⟩
theorem UA.pair {p s:QE}(hp:QK p) (hs:QK s) {pairs:List (LI)}{c:Z6}{q:LI}(h:UA p s pairs (py q) c):UA p s (pairs++[q]) (py q) (QdB p s (px q) (py q) c):=by
 unfold QdB;obtain ⟨G,i2,H,i4,i5,J⟩:=Vq hp hs (px q) (py q) s.al (QaU p s (px q) (py q) c) h.ei h.di;have hc:∀e,KI p (pairs++[q]) (py q) e=true↔KI p pairs (py q) e=true∨0≤nxt p.ed (px q) e:=λe=>by unfold KI;rw[Ny];simp
 refine ⟨G,i2,λe=>?_,λe=>?_,?_,?_⟩
 ·rw[i5 e,hc];show e∈c.en∨_↔_;rw[h.em e];constructor
  ·rintro (⟨a1,a2,a3⟩ | ⟨a1,a2,a3⟩)
   ·exact ⟨a1,.inl a2,a3⟩
   exact ⟨a1,.inr a2,a3⟩
  rintro ⟨a1,a2 | a2,a3⟩
  ·exact .inl ⟨a1,a2,a3⟩
  exact .inr ⟨a1,a2,a3⟩
 ·rw[J e,hc];show e∈c.dis∨_↔_;rw[h.dm e];constructor
  ·rintro (⟨a1,a2,a3⟩ | ⟨a1,a2,a3⟩)
   ·exact ⟨a1,.inl a2,a3⟩
   exact ⟨a1,.inr a2,a3⟩
  rintro ⟨a1,a2 | a2,a3⟩
  ·exact .inl ⟨a1,a2,a3⟩
  exact .inr ⟨a1,a2,a3⟩
 ·rw[H,Ny];simp[QaU]
 rw[i4,Ny];show (c.ps || _)=_;rw[h.ps];simp
theorem yt {p s:QE}(hp:QK p) (hs:QK s) {pairs:List (LI)}(S:∀q∈pairs,Vt [p,s] q):∀x,x<s.st.toNat→lget (ctls p s pairs) x=Qiq p s pairs x:=by
 have key:∀(r pre:List (LI)) (l:List Z6),(∀q∈r,Vt [p,s] q)→l.length=s.st.toNat→(∀x,x<s.st.toNat→UA p s pre x (lget l x))→∀x,x<s.st.toNat→UA p s (pre++r) x (lget (r.foldl (yu p s) l) x):=by
  intro r;induction r with
  | nil=>intro pre l _ _ h x hx;simpa using h x hx
  | cons q r ih =>
   intro pre l J hl h x hx;obtain ⟨xi,yi,rfl,U,V⟩:=Vt2 (J q Lh);rw[Ls,show pre++[(xi:Int),(yi:Int)]::r=(pre++[[(xi:Int),(yi:Int)]])++r by simp];refine ih _ _ (λq hq=>J q (Le _ hq)) (by simp[yu,hl]) (λz G=>?_) x hx;have e1:py [(xi:Int),(yi:Int)]=(yi:Int):=rfl;have e2:px [(xi:Int),(yi:Int)]=(xi:Int):=rfl;unfold yu;rw[e1,e2,LY]
   by_cases ez:z=yi
   ·subst ez;have H:lget (l.set z (QdB p s xi z (l.getD z J9))) z=QdB p s xi z (lget l z):=by
     unfold lget;simp only[List.getD];rw[List.getElem?_set_self (by omega)];rfl
    rw[H];have:=UA.pair hp hs (q:=[(xi:Int),(z:Int)]) (c:=lget l z) (h z G);exact this
   have H:lget (l.set yi (QdB p s xi yi (l.getD yi J9))) z=lget l z:=by
    unfold lget;simp only[List.getD,List.getElem?_set];rw[if_neg (λe=>ez e.symm)]
   rw[H];exact (h z G).other (by rw[e1];omega)
 intro x hx;have h1:=key pairs [] (List.replicate s.st.toNat J9) S (by simp) (λz G=>by
  have:lget (List.replicate s.st.toNat J9) z=J9:=by unfold lget;simp[List.getD,G]
  rw[this];exact UA.zero p s z) x hx
 rw[Mo] at h1;exact h1.eq hs.ali
end Go.Proofs.YtdffckgdcegpaaaGreatDoor
namespace Go.Lg
section
variable {P:Program} {f:Fr} {w:World} {d:Option Nat} {ty:Nat} {ps:String} {af:Array Edge} {gd:Option (Nat×Bool)}
end
end Go.Lg
namespace Go.Proofs.YtdffckgdcegpaaaGreatDoor
open Go.Lg
section
variable {w4 w w' w'':World} {b:Nat} {m q:Bool} {ve vd:Value} {E D:LI}
end
end Go.Proofs.YtdffckgdcegpaaaGreatDoor
namespace Go.Lg
section
variable {P:Program} {f:Fr} {w:World} {d:Option Nat} {ty:Nat} {ps:String} {af:Array Edge} {gd:Option (Nat×Bool)}
end
end Go.Lg
namespace Go.Proofs.YtdffckgdcegpaaaGreatDoor
open Go.Lg
def grid (g:Nat→Int→Option Ed) (vs:LI) (n:Nat):List Ed:=(List.range' 0 n).flatMap λj=>vs.filterMap (g j)
theorem UT (g:Nat→Int→Option Ed) (vs:LI) (n:Nat):grid g vs (n+1)=grid g vs n++vs.filterMap (g n):=by
 unfold grid;rw[LS,LL];simp
theorem qn (l m:List Ed) (s v:Int):eget (l++m) s v=match eget l s v with | some u=>some u | none=>eget m s v:=by
 induction l with
 | nil=>rfl
 | cons e l ih =>
  rw[MG,eget,eget];split
  ·rfl
  exact ih
def U9 (g:Nat→Int→Option Ed):Prop:=∀j v e,g j v=some e→e.1=(j:Int)∧e.2.1=v
theorem Qcc {g:Nat→Int→Option Ed}(E:U9 g) (j:Nat) (v:Int):∀(vs:LI),eget (vs.filterMap (g j)) j v=if v∈vs then (g j v).map (·.2.2) else none
 | []=>by simp[eget]
 | u::vs=>by
  have ih:=Qcc E j v vs;rw[Mk];cases hu:g j u with
  | none =>
   simp only[];rw[ih];by_cases e:v=u
   ·subst e;simp[hu]
   simp[e]
  | some e =>
   have he:=E j u e hu;simp only[];rw[eget];by_cases e2:u=v
   ·subst e2;rw[if_pos he,if_pos Lh,hu];rfl
   rw[if_neg (λh=>e2 (he.2.symm.trans h.2)),ih];simp[Ne.symm e2]
theorem Qcb {g:Nat→Int→Option Ed}(E:U9 g) {j i:Nat}(h:j≠i) (v:Int) (vs:LI):eget (vs.filterMap (g j)) i v=none:=by
 refine Vn λe he h2=>?_;obtain ⟨u,_,hu⟩:=Mx.1 he;have:=E j u e hu;omega
theorem UW {g:Nat→Int→Option Ed}(E:U9 g) (vs:LI) (j:Nat) (v:Int):∀n,eget (grid g vs n) j v=if j<n∧v∈vs then (g j v).map (·.2.2) else none
 | 0=>by simp[grid,eget]
 | n+1=>by
  rw[UT,qn,UW E vs j v n];by_cases e:j=n
  ·subst e;rw[if_neg (by omega),Qcc E];simp
  rw[Qcb E (Ne.symm e)];by_cases h:j<n∧v∈vs
  ·rw[if_pos h,if_pos ⟨by omega,h.2⟩];cases (g j v).map (·.2.2) <;> rfl
  rw[if_neg h,if_neg (λh2=>h ⟨by omega,h2.2⟩)]
theorem zY {g:Nat→Int→Option Ed}{vs:LI}{n:Nat}{e:Ed}(h:e∈grid g vs n):∃j v,j<n∧v∈vs∧g j v=some e:=by
 unfold grid at h;obtain ⟨j,hj,h2⟩:=MP.1 h;obtain ⟨v,E,h3⟩:=Mx.1 h2;rw[Ly] at hj;exact ⟨j,v,by omega,E,h3⟩
theorem QaF {g:Nat→Int→Option Ed}(E:U9 g) {vs:LI}(hi:ZT vs):∀n,(grid g vs n).Pairwise λx y:Ed=>x.1<y.1∨(x.1=y.1∧x.2.1<y.2.1)
 | 0=>by simp[grid]
 | n+1=>by
  rw[UT,Mu];refine ⟨QaF E hi n,X8 (r:=(·<·)) (λx y u v J hu G=>?_) hi,λe he e' H=>?_⟩
  ·have h1:=E n x u hu;have h2:=E n y v G;right;omega
  obtain ⟨j,v,hj,_,h1⟩:=zY he;obtain ⟨v',_,h2⟩:=Mx.1 H;have h3:=E j v e h1;have h4:=E n v' e' h2;left;omega
theorem Qnu (l:List QE):∀(acc:LI),(∀a∈l,ZT a.al)→ZT acc→ZT (l.foldl (λacc a=>mrg (· || ·) acc a.al) acc)∧∀x,x∈l.foldl (λacc a=>mrg (· || ·) acc a.al) acc↔x∈acc∨∃a∈l,x∈a.al:=by
 induction l with
 | nil=>intro acc _ h;exact ⟨h,λx=>by simp⟩
 | cons a l ih =>
  intro acc hl h;have ha:=hl a Lh;obtain ⟨h1,h2⟩:=ih (mrg (· || ·) acc a.al) (λb hb=>hl b (Le _ hb)) (V9 _ _ _ _ (Lv _) h ha);rw[Ls];refine ⟨h1,λx=>?_⟩;rw[h2 x,Ja h ha];simp only[List.mem_cons,exists_eq_or_imp];constructor
  ·rintro (⟨h3 | h3,_⟩ | h3)
   ·exact .inl h3
   ·exact .inr (.inl h3)
   exact .inr (.inr h3)
  rintro (h3 | h3 | h3)
  ·exact .inl ⟨.inl h3,by simp[h3]⟩
  ·exact .inl ⟨.inr h3,by simp[h3]⟩
  exact .inr h3
theorem QaQ {l:List QE}(h:∀a∈l,QK a):ZT (evs l):=(Qnu l [] (λa ha=>(h a ha).ali) (by simp)).1
theorem Xj {l:List QE}(h:∀a∈l,QK a) (x:Int):x∈evs l↔∃a∈l,x∈a.al:=by
 have:=(Qnu l [] (λa ha=>(h a ha).ali) (by simp)).2 x;unfold evs;rw[this];simp
def syF (aa:List QE) (tup:List (LI)) (j:Nat) (v:Int):Option Ed:=(Q7 v aa (tup.getD j [])).map λu=>((j:Int),v,(tup.idxOf u:Int))
theorem QgK (aa:List QE) (tup:List (LI)):U9 (syF aa tup):=by
 intro j v e h;unfold syF at h;obtain ⟨u,_,rfl⟩:=LZ.1 h;exact ⟨O,O⟩
theorem yf {α β:Type}{f g:α→Option β}:∀{l:List α},(∀x∈l,f x=g x)→l.filterMap f=l.filterMap g
 | [],_=>rfl
 | x::l,h=>by rw[Mk,Mk,h x Lh,yf (λy hy=>h y (Le _ hy))]
theorem QhZ {α β:Type}{f:α→Option β}{v:α}{e:β}(h:f v=some e):[v].filterMap f=[e]:=by rw[Mk,h];rfl
theorem Qkq {α β:Type}{f:α→Option β}{v:α}(h:f v=none):[v].filterMap f=[]:=by rw[Mk,h];rfl
theorem QgL {aa:List QE}{tup:List (LI)}{j:Nat}{v:Int}(h:Q7 v aa (tup.getD j [])=none):syF aa tup j v=none:=by unfold syF;rw[h];rfl
theorem Qbi {aa:List QE}{tup:List (LI)}{j:Nat}{v:Int}{u:LI}(h:Q7 v aa (tup.getD j [])=some u):syF aa tup j v=some ((j:Int),v,(tup.idxOf u:Int)):=by unfold syF;rw[h];rfl
def Clo (aa:List QE) (tup:List (LI)) (j:Nat) (vs:LI):Prop:=∀v∈vs,∀u,Q7 v aa (tup.getD j [])=some u→u∈tup
theorem KZ {tup r:List (LI)}{j:Nat}(h:j<tup.length):(tup++r).getD j []=tup.getD j []:=by simp[List.getD,List.getElem?_append_left h]
theorem Qd7 {aa:List QE}{tup r:List (LI)}{j:Nat}{vs:LI}(hj:j<tup.length) (hc:Clo aa tup j vs):vs.filterMap (syF aa (tup++r) j)=vs.filterMap (syF aa tup j):=by
 refine yf λv E=>?_;unfold syF;rw[KZ hj];cases hs:Q7 v aa (tup.getD j []) with
 | none=>rfl
 | some u =>
  have hu:=hc v E u hs;simp only[Option.map_some,Option.some.injEq,Prod.mk.injEq,true_and];rw[L3,if_pos hu]
theorem Clo.pre {aa:List QE}{tup r:List (LI)}{j:Nat}{vs:LI}(hj:j<tup.length) (hc:Clo aa tup j vs):Clo aa (tup++r) j vs:=by
 intro v E u hu;rw[KZ hj] at hu;exact LE _ (hc v E u hu)
theorem Jn {α:Type}{l:List α}{u:α}(h:l.Nodup) (hu:u∉l):(l++[u]).Nodup:=by
 rw[M7];exact ⟨h,by simp,λa ha b hb=>by simp only[List.mem_singleton] at hb;subst hb;exact λe=>hu (by rw[←e];exact ha)⟩
theorem jl {aa:List QE}{i:Nat}:∀(vs:LI) (s E:Sy),i<s.tup.length→s.tup.Nodup→Kj aa i (VU s i) vs s=some E →
  ∃r,E.tup=s.tup++r∧E.mk'=s.mk'∧E.ed=s.ed++vs.filterMap (syF aa E.tup i)∧Clo aa E.tup i vs∧E.tup.Nodup
 | [],s,E,_,hd,e=>by cases e;exact ⟨[],by simp,rfl,by simp,λv Y=>(by cases Y),hd⟩
 | v::vs,s,E,hi,hd,e=>by
  rw[Kj] at e;obtain ⟨G,h1,h2⟩:=L4.1 e;have key:∃J,G.tup=s.tup++J∧G.mk'=s.mk'∧G.ed=s.ed++[v].filterMap (syF aa G.tup i)∧Clo aa G.tup i [v]∧G.tup.Nodup:=by
   unfold yU at h1;have eT:VU s i=s.tup.getD i []:=rfl;rw[eT] at h1;cases hs:Q7 v aa (s.tup.getD i []) with
   | none =>
    rw[hs] at h1;cases h1
    refine ⟨[],by simp,rfl,by rw[Qkq (QgL hs),List.append_nil],λv' hv' u hu=>?_,hd⟩;simp only[List.mem_singleton] at hv';subst hv';rw[hs] at hu;cases hu
   | some u =>
    rw[hs] at h1;simp only[] at h1;by_cases hu:u∈s.tup
    ·rw[if_pos hu] at h1;cases h1
     refine ⟨[],by simp,rfl,by rw[QhZ (Qbi hs)],λv' hv' Z H=>?_,hd⟩;simp only[List.mem_singleton] at hv';subst hv';simp only[] at H ⊢;rw[hs] at H;cases H;exact hu
    rw[if_neg hu] at h1;split at h1
    ·cases h1
    cases h1
    have e2:(s.tup++[u]).getD i []=s.tup.getD i []:=KZ hi;have e3:(s.tup++[u]).idxOf u=s.tup.length:=by rw[L3,if_neg hu];simp
    refine ⟨[u],O,O,?_,λv' hv' Z H=>?_,Jn hd hu⟩
    ·rw[QhZ (Qbi (tup:=s.tup++[u]) (u:=u) (by rw[e2];exact hs)),e3]
    simp only[List.mem_singleton] at hv';subst hv';simp only[] at H ⊢;rw[e2,hs] at H;cases H;simp
  obtain ⟨J,k1,k2,k3,V,k5⟩:=key;have S:i<G.tup.length:=by rw[k1];simp;omega
  have eT:VU G i=VU s i:=by unfold VU;rw[k1];exact KZ hi
  rw[←eT] at h2;obtain ⟨r2,U,g2,g3,g4,g5⟩:=jl vs G E S k5 h2;refine ⟨J++r2,by rw[U,k1,LB],g2.trans k2,?_,?_,g5⟩
  ·rw[g3,k3,LB];congr 1;rw[show v::vs=[v]++vs from rfl,List.filterMap_append];congr 1;rw[U];exact (Qd7 S V).symm
  intro v' hv' u hu;rcases Li.1 hv' with rfl | hv'
  ·have:=V.pre (r:=r2) S;rw[←U] at this;exact this v' Lh u hu
  exact g4 v' hv' u hu
structure SyG (aa:List QE) (i:Nat) (s:Sy):Prop where
 nd:s.tup.Nodup
 le:i≤s.tup.length
 hd:s.tup.getD 0 []=List.replicate aa.length 0∧0<s.tup.length
 mk2:s.mk'=((List.range' 0 i).filter λj=>Yd aa (s.tup.getD j [])).map λj:Nat=>(j:Int)
 ed:s.ed=grid (syF aa s.tup) (evs aa) i
 cl:∀j,j<i→Clo aa s.tup j (evs aa)
theorem Xi {α β:Type}{f g:α→List β}:∀{l:List α},(∀x∈l,f x=g x)→l.flatMap f=l.flatMap g
 | [],_=>rfl
 | x::l,h=>by rw[LM,LM,h x Lh,Xi (λy hy=>h y (Le _ hy))]
theorem SyG.next {aa:List QE}{i:Nat}{s E:Sy}(h:SyG aa i s) (hi:i<s.tup.length) (e:Kj aa i (VU s i) (evs aa) (Zw aa i (VU s i) s)=some E):SyG aa (i+1) E:=by
 have ht:(Zw aa i (VU s i) s).tup=s.tup:=by unfold Zw;split <;> rfl
 have U:(Zw aa i (VU s i) s).ed=s.ed:=by unfold Zw;split <;> rfl
 have J:VU (Zw aa i (VU s i) s) i=VU s i:=by show (Zw aa i (VU s i) s).tup.getD i []=s.tup.getD i [];rw[ht]
 rw[←J] at e;obtain ⟨r,G,V,S,Y,Z⟩:=jl (evs aa) _ E (by rw[ht];exact hi) (by rw[ht];exact h.nd) (by rw[J] at e ⊢;exact e);rw[ht] at G;rw[U] at S;have pre:∀j,j≤i→E.tup.getD j []=s.tup.getD j []:=λj hj=>by rw[G];exact KZ (by omega)
 refine ⟨Z,by rw[G];simp;omega,⟨by rw[pre 0 (by omega)];exact h.hd.1,by rw[G];simp;omega⟩,?_,?_,λj hj=>?_⟩
 ·rw[V,LS,Me,LA,LJ];have e1:((List.range' 0 i).filter λj=>Yd aa (E.tup.getD j []))=(List.range' 0 i).filter λj=>Yd aa (s.tup.getD j []):=by
   refine List.filter_congr λj hj=>?_;rw[Ly] at hj;rw[pre j (by omega)]
  rw[e1];unfold Zw;by_cases hm:Yd aa (VU s i)=true
  ·rw[if_pos hm];have H:Yd aa (E.tup.getD i [])=true:=by rw[pre i (Lv _)];exact hm
   simp only[List.filter_cons,H,if_true,List.filter_nil,List.map_cons,List.map_nil];rw[h.mk2]
  rw[if_neg hm];have H:Yd aa (E.tup.getD i [])=false:=by rw[pre i (Lv _)];exact eq_false_of_ne_true hm
  rw[Mw,if_neg (by rw[H];simp),Nw,h.mk2];simp
 ·rw[S,UT,h.ed];congr 1;unfold grid;refine Xi λj hj=>?_;rw[Ly] at hj;rw[G];exact (Qd7 (by omega) (h.cl j (by omega))).symm
 by_cases e2:j=i
 ·subst e2;exact Y
 have:=(h.cl j (by omega)).pre (r:=r) (by omega);rw[←G] at this;exact this
theorem Qbh {aa:List QE}:∀(f i:Nat) (s E:Sy),SyG aa i s→yT aa f i s=some E→∃G,SyG aa G E∧(E.tup.length=G∨G=i+f)
 | 0,i,s,E,h,e=>by cases e;exact ⟨i,h,.inr O⟩
 | f+1,i,s,E,h,e=>by
  rw[yT] at e;split at e
  ·rename_i hi;obtain ⟨H,h1,h2⟩:=L4.1 e;obtain ⟨G,h3,h4⟩:=Qbh f (i+1) H E (h.next hi h1) h2;exact ⟨G,h3,by omega⟩
  cases e;exact ⟨i,h,.inl (by have:=h.le;omega)⟩
structure SyP (aa:List QE) (A:QE) (Q:List (LI)):Prop where
 al:A.al=evs aa
 st:A.st=(Q.length:Int)
 nd:Q.Nodup
 v:∀t∈Q,Vt aa t
 le:Q.length≤4096
 hd:0<Q.length→Q.getD 0 []=List.replicate aa.length 0
 mk2:A.mr=((List.range' 0 Q.length).filter λj=>Yd aa (Q.getD j [])).map λj:Nat=>(j:Int)
 ed:A.ed=grid (syF aa Q) (evs aa) Q.length
 cl:∀j,j<Q.length→Clo aa Q j (evs aa)
theorem Xs {aa:List QE}(H:∀a∈aa,QK a) {A:QE}{Q:List (LI)}(h:sync aa=some (A,Q)):SyP aa A Q∧(Q.length=0↔∃a∈aa,a.st=0):=by
 have E:=qK H h;unfold sync at h;split at h
 ·rename_i G;cases h
  exact ⟨⟨O,O,by simp,by simp,by simp,λh=>by simp at h,by simp,by simp[grid],λj hj=>by simp at hj⟩,by simpa using G⟩
 rename_i G;obtain ⟨s,h1,h2⟩:=LZ.1 h;have J:SyG aa 0 (UG aa):=⟨by simp[UG],by simp,⟨by simp[UG],by simp[UG]⟩,by simp[UG],by simp[UG,grid],λj hj=>by omega⟩;obtain ⟨S,h3,h4⟩:=Qbh 4096 0 (UG aa) s J h1;cases h2
 have hl:S=s.tup.length:=by
  have h5:=h3.le;have U:=E.2;simp only[] at U;omega
 subst hl;refine ⟨⟨rfl,O,h3.nd,E.1,E.2,λ_=>h3.hd.1,h3.mk2,h3.ed,h3.cl⟩,?_⟩;have:=h3.hd.2;constructor
 ·intro h;have V:s.tup.length=0:=h;omega
 intro h;exact absurd h G
theorem SyP.step {aa:List QE}{A:QE}{Q:List (LI)}(h:SyP aa A Q) {j:Nat}(hj:j<Q.length) (v:Int) :
  eget A.ed j v=if v∈evs aa then (Q7 v aa (Q.getD j [])).map λu=>(Q.idxOf u:Int) else none:=by
 rw[h.ed,UW (QgK aa Q)];by_cases E:v∈evs aa
 ·rw[if_pos ⟨hj,E⟩,if_pos E];unfold syF;rw[Option.map_map];rfl
 rw[if_neg (λe=>E e.2),if_neg E]
theorem SyP.to {aa:List QE}{A:QE}{Q:List (LI)}(h:SyP aa A Q) {j:Nat}(hj:j<Q.length) {v:Int}(E:v∈evs aa) {u:LI}(hu:Q7 v aa (Q.getD j [])=some u):Q.idxOf u<Q.length∧Q.getD (Q.idxOf u) []=u:=by
 have hm:=h.cl j hj v E u hu;have hl:=LC hm;refine ⟨hl,?_⟩;simp[List.getD,hl]
theorem SyP.okay {aa:List QE}(E:∀a∈aa,QK a) {A:QE}{Q:List (LI)}(h:SyP aa A Q):QK A:=by
 have J:=h.le;refine ⟨λe he=>?_,by rw[h.al];exact QaQ E,by rw[h.st];omega,by rw[h.st];omega,λs hs=>?_,?_,λe he=>?_,by rw[h.ed];exact QaF (QgK aa Q) (QaQ E) _⟩
 ·rw[h.al] at he;obtain ⟨a,ha,hx⟩:=(Xj E e).1 he;exact (E a ha).al e hx
 ·rw[h.mk2] at hs;simp only[List.mem_map,List.mem_filter,List.mem_range'_1] at hs;obtain ⟨i,⟨hi,_⟩,rfl⟩:=hs;rw[h.st];omega
 ·rw[h.mk2];unfold ZT;rw[Mm];refine List.Pairwise.sublist Mz ?_;exact (MM (s:=0) (n:=Q.length)).imp (λh=>by omega)
 rw[h.ed] at he;obtain ⟨j,v,hj,G,H⟩:=zY he;unfold syF at H;obtain ⟨u,hu,rfl⟩:=LZ.1 H;have:=(h.to hj G hu).1;rw[h.st,h.al];exact ⟨by simp only[];omega,by simp only[];omega,G,by simp only[];omega,by simp only[];omega⟩
end Go.Proofs.YtdffckgdcegpaaaGreatDoor
namespace Go.Lg
open Go.RowKit
instance:LawfulBEq ByteArray where
 eq_of_beq h:=(MapKept.bytes_beq _ _).1 h;rfl:=(MapKept.bytes_beq _ _).2 O
def chr (s:ByteArray) (i:Nat):Nat:=(s.get! i).toNat
theorem Qmx {s:ByteArray}{i:Nat}(h:i<s.size):(s[i]'h).toNat=chr s i:=by
 unfold chr;obtain ⟨d⟩:=s;have hd:i<d.size:=h;simp[ByteArray.get!,hd,ByteArray.getElem_eq_getElem_data]
theorem Qgf {a b:ByteArray}(h:a.data.toList=b.data.toList):a=b:=by
 obtain ⟨⟨x⟩⟩:=a;obtain ⟨⟨y⟩⟩:=b;have h':x=y:=h;rw[h']
theorem bytes_beq (a b:ByteArray):(a.toList == b.toList)=decide (a=b):=by
 rw[ByteArray.toList_eq,ByteArray.toList_eq];by_cases h:a=b
 ·subst h;simp
 rw[decide_eq_false h];have:a.data.toList≠b.data.toList:=λe=>h (Qgf e);simpa using this
section
variable {P:Program} {f:Fr} {w:World} {d:Option Nat} {ty:Nat} {ps:String} {af:Array Edge} {gd:Option (Nat×Bool)} {t t':Nat} {x y:Operand}
theorem Qg8 [h:St P t] {s:ByteArray}{k:IntKind}{i:Nat}(hx:ev f x=.string s) (hy:ev f y=.int k i) (hi:i<s.size) :
  (execOp (ev f) ⟨d,.index t x y,ty,ps,af,gd⟩).run P w=.ok (.value (.int .u8 (chr s i))) w:=by
 have h1:=run_index_string (P:=P) w t s k i h.u;rw[dif_pos ⟨by omega,by omega⟩] at h1;have e:(s[(i:Int).toNat]'(by simpa using hi)).toNat=chr s i:=Qmx hi;simp only[execOp,hx,hy,Sem.run_bind,h1,Result.andThen_ok,Sem.run_pure,e]
theorem Qda [h:St P t] {s:ByteArray}(hx:ev f x=.string s) :
  (execOp (ev f) ⟨d,.call ⟨.builtin .len,#[x],#[t]⟩,ty,ps,af,gd⟩).run P w=.ok (.value (.int .i64 s.size)) w:=Qg6 h.u hx
theorem Qau {a b:ByteArray}(hx:ev f x=.string a) (hy:ev f y=.string b) :
  (execOp (ev f) ⟨d,.binOp .eql t x y t',ty,ps,af,gd⟩).run P w=.ok (.value (.bool (decide (a=b)))) w:=by
 have E:(eqGuard .eql t x y (.string a) (.string b)).run P w=.ok () w:=by simp[eqGuard]
 simp only[execOp,hx,hy,Sem.run_bind,E,Result.andThen_ok,binOp_string_eql,Sem.run_pure,bytes_beq]
theorem X7 {a b:ByteArray}(hx:ev f x=.string a) (hy:ev f y=.string b) (hl:a.size+b.size≤1000000000) :
  (execOp (ev f) ⟨d,.binOp .add t x y t',ty,ps,af,gd⟩).run P w=.ok (.value (.string (a++b))) w:=by
 have E:(eqGuard .add t x y (.string a) (.string b)).run P w=.ok () w:=by simp[eqGuard]
 have G:¬(((a.size+b.size:Nat):Int) > IntKind.i64.max):=by
  rw[show IntKind.i64.max=9223372036854775807 from rfl];omega
 simp only[execOp,hx,hy,Sem.run_bind,E,Result.andThen_ok,binOp_string_add,Op.stringOp,if_neg G,Sem.run_pure]
end
section
variable {P:Program} {ops:List Oper} {K:Fr→World→Prop} {f:Fr} {w:World} {d:Option Nat} {ty:Nat} {ps:String} {af:Array Edge} {gd:Option (Nat×Bool)} {l:List Oper}
 {t e sz bys:Nat} {z:Value} {x y1 y2:Operand} {L:LN} {v:Value} {n:Nat} {cs:LV} {H:Array Obj} {k k':IntKind} {hi:Nat}
theorem Qg3 [h:Sl P t e sz bys z] (E:Zz L H v n sz cs) (hx:ev f x=v) (G:ev f y1=.int k hi) (hm:ev f y2=.int k' hi) (h1:hi≤n) :
  ∃v',Zz L H v' hi sz (cs.take (hi*sz))∧∀w,(execOp (ev f) ⟨d,.slice t x none (some y1) (some y2),ty,ps,af,gd⟩).run P w=.ok (.value v') w:=by
 obtain ⟨ii,J,_,hs,_⟩:=Sl.info h;rcases E.2.2 with ⟨rfl,rfl⟩ | ⟨a,cap,rfl,hc,S⟩
 ·have U:hi=0:=by omega
  subst U;refine ⟨nS,?_,λw=>?_⟩
  ·rw[Nat.zero_mul,List.take_zero];exact Zz.nil _ _ _
  simp[execOp,hx,G,hm,Instr.sliceAt,Instr.slice,Instr.sliceBounds,Instr.sliceBound,asIntOf,run_underlying h.u,sizeOf,typeInfo,J]
 refine ⟨.slice (some a) hi hi,⟨?_,by have:=E.2.1;omega,.inr ⟨a,hi,O,Lv _,λu hu=>S.out u (Mh hu),λu hu=>S.lt u (Mh hu),λj u hu=>?_⟩⟩,λw=>?_⟩
 ·rw[LF,E.1,Nm (MB _ h1)]
 ·rw[Ma] at hu;split at hu
  ·exact S.cell j u hu
  cases hu
 by_cases U:hi=0
 ·subst U;simp[execOp,hx,G,hm,Instr.sliceAt,Instr.slice,Instr.sliceBounds,Instr.sliceBound,asIntOf,run_underlying h.u,sizeOf,typeInfo,J]
 simp[execOp,hx,G,hm,Instr.sliceAt,Instr.slice,Instr.sliceBounds,Instr.sliceBound,asIntOf,run_underlying h.u,sizeOf,typeInfo,J,Addr.add];intro V;omega
end
section
variable {P:Program} {ops l:List Oper} {K:Fr→World→Prop} {f:Fr} {w:World} {o:Oper} {C:World→Prop} {pl:List (Nat×Bool)} {i:Nat}
theorem xB {b:Bool}(E:(execOp (ev f) o).run P w=.ok (.value (.bool b)) w) (ht:b=true→XL P ops K l (Q4 f o.dst (.bool true)) w) (J:b=false→XL P ops K l (Q4 f o.dst (.bool false)) w)
  (G:YD ops f o=true:=by rfl):XL P ops K (o::l) f w:=by
 cases hb:b with
 | true=>rw[hb] at E;exact x E (ht hb) G
 | false=>rw[hb] at E;exact x E (J hb) G
theorem pB {b:Bool}(E:∀w',(execOp (ev f) (Q6 ops i)).run P w'=.ok (.value (.bool b)) w') (ht:b=true→XP P ops C K pl (Q4 f (Q6 ops i).dst (.bool true)) w) (J:b=false→XP P ops C K pl (Q4 f (Q6 ops i).dst (.bool false)) w)
  (G:YD ops f (Q6 ops i)=true:=by rfl):XP P ops C K ((i,true)::pl) f w:=by
 cases hb:b with
 | true=>rw[hb] at E;exact p E (ht hb) G
 | false=>rw[hb] at E;exact p E (J hb) G
theorem Qid {G:Prop} (b:Bool) (ht:b=true→G) (E:b=false→G):G:=by cases h:b with | true=>exact ht h | false=>exact E h
theorem bT {q:Prop}[Decidable q] (h:q):true=decide q:=(decide_eq_true h).symm
theorem bF {q:Prop}[Decidable q] (h:¬q):false=decide q:=(decide_eq_false h).symm
theorem bD {q r:Prop}[Decidable q] [Decidable r] (h:q↔r):decide q=decide r:=decide_eq_decide.2 h
end
section
variable {P:Program} {f:Fr} {w:World} {d:Option Nat} {ty:Nat} {ps:String} {af:Array Edge} {gd:Option (Nat×Bool)} {t:Nat} {x:Operand}
theorem zu {q:Prop}[Decidable q] (hx:ev f x=.bool (decide q)):(execOp (ev f) ⟨d,.unOp .not t x,ty,ps,af,gd⟩).run P w=.ok (.value (.bool (decide (¬q)))) w:=by
 rw[Zh hx];simp
end
end Go.Lg
namespace Go.Proofs.YtdffckgdcegpaaaGreatDoor
open Go.Lg
structure q9 where
 nm:ByteArray
 co:Bool
 ob:Bool
 fo:Bool
 fl:Int
structure Kx where
 nm:ByteArray
 a:QE
structure Exc where
 nm:ByteArray
 ls:List (Int×Int)
structure Kh where
 nm:ByteArray
 ts:List (Int×Int)
 bd:Int
structure Yz where
 ev:List q9
 co:List Kx
 rq:List Kx
 ex:List Exc
 cs:List Kh
def VX (n:Nat):LI:=(List.range n).map λi:Nat=>(i:Int)
def nmP (i c:Nat):Prop:=((97≤c∧c≤122)∨(65≤c∧c≤90)∨c=95)∨(i≠0∧48≤c∧c≤57)
instance (i c:Nat):Decidable (nmP i c):=by unfold nmP;infer_instance
def nmQ (s:ByteArray) (i:Nat):Bool:=decide (nmP i (chr s i))
def Y3 (s:ByteArray):Bool:=(List.range' 0 s.size).all (nmQ s) && decide (0<s.size∧s.size≤32)
def X3 (seen:List ByteArray) (e:q9):Int:=if Y3 e.nm=false then 7 else if e.nm∈seen then 8 else if e.fl<0∨4<e.fl then 2 else if e.fl≠0∧(e.co || e.ob)=true then 13 else 0
def qr:List ByteArray→List q9→Int
 | _,[]=>0
 | seen,e::l=>if X3 seen e≠0 then X3 seen e else qr (seen++[e.nm]) l
def JT (l:List q9):Int:=if 32<l.length then 3 else qr [] l
def ixs {α:Type}(q:α→Bool):Nat→List α→LI
 | _,[]=>[]
 | i,e::l=>if q e=true then (i:Int)::ixs q (i+1) l else ixs q (i+1) l
def unc (l:List q9):LI:=ixs (λe=>!e.co) 0 l
def Xp (sz:LI):Option Int→List (Int×Int)→Int
 | _,[]=>0
 | pr,l::ls=>if l.1<0∨(sz.length:Int)≤l.1 then 2 else if zP pr l.1=true then 5 else if l.2<0∨cget sz l.1.toNat≤l.2 then 2 else Xp sz (some l.1) ls
def JN (sz:LI) (ls:List (Int×Int)):Int:=if ls.length=0 then 12 else Xp sz none ls
def grt (n:Int):Bool:=decide (n < -65536) || decide (65536<n)
def JM (sz:LI):Option Int→List (Int×Int)→Int
 | _,[]=>0
 | pr,l::ls=>if l.1<0∨(sz.length:Int)≤l.1 then 2 else if zP pr l.1=true then 5 else if l.2=0∨grt l.2=true then 2 else JM sz (some l.1) ls
def Xq (sz:LI) (k:Kh):Int:=if k.ts.length=0 then 12 else if JM sz none k.ts≠0 then JM sz none k.ts else if grt k.bd=true then 2 else 0
def K4 (seen:List ByteArray) (s:ByteArray):Int:=if Y3 s=false then 7 else if s∈seen then 8 else 0
def Yt (sz:LI):List ByteArray→List Exc→Int
 | _,[]=>0
 | seen,x::l=>if K4 seen x.nm≠0 then K4 seen x.nm else if JN sz x.ls≠0 then JN sz x.ls else Yt sz (seen++[x.nm]) l
def Y5 (sz:LI):List ByteArray→List Kh→Int
 | _,[]=>0
 | seen,x::l=>if K4 seen x.nm≠0 then K4 seen x.nm else if Xq sz x≠0 then Xq sz x else Y5 sz (seen++[x.nm]) l
def KC (n:Int):Bool:=decide (n<1) || decide (4096<n)
def YT (sz:LI) (ex:List Exc) (cs:List Kh):Int:=if 8<sz.length then 3 else if sz.any KC=true then 2 else if 32<ex.length∨32<cs.length then 3 else if Yt sz [] ex≠0 then Yt sz [] ex else Y5 sz [] cs
def mns (a b:LI):LI:=mrg (λp q=>p && !q) a b
def KY (a:QE):Bool:=decide (XW a=0) && decide ((Zt a).st=a.st∧(Zt a).al=a.al∧(Zt a).mr=a.mr∧(Zt a).ed=a.ed)
def Yj (nev:Nat) (amg:LI) (seen:List ByteArray) (x:Kx):Int :=
 if Y3 x.nm=false then 7 else if x.nm∈seen then 8 else if XW x.a≠0 then XW x.a else if KY x.a=false then 6 else if x.a.st=0 then 12 else
 if (x.a.al.any λe=>decide ((nev:Int)≤e))=true then 2 else if (mns x.a.al amg).length≠0 then 9 else 0
def Ym (nev:Nat) (al:LI):List ByteArray→LI→List Kx→Int×List ByteArray×LI
 | s,u,[]=>(0,s,u)
 | s,u,x::l=>if Yj nev al s x≠0 then (Yj nev al s x,s,u) else Ym nev al (s++[x.nm]) (mrg (· || ·) u x.a.al) l
def Kc (nev:Nat) (u:LI):List ByteArray→List Kx→Int
 | _,[]=>0
 | s,x::l=>if Yj nev u s x≠0 then Yj nev u s x else Kc nev u (s++[x.nm]) l
def szs (l:List Kx):LI:=l.map (·.a.st)
def auts (l:List Kx):List QE:=l.map (·.a)
def Yn (c:Yz):Int :=
 if JT c.ev≠0 then JT c.ev else if c.co.length=0 then 12 else if 8<c.co.length∨12<c.co.length+c.rq.length then 3 else
 if (Ym c.ev.length (VX c.ev.length) [] [] c.co).1≠0 then (Ym c.ev.length (VX c.ev.length) [] [] c.co).1 else
 if Kc c.ev.length (Ym c.ev.length (VX c.ev.length) [] [] c.co).2.2 (Ym c.ev.length (VX c.ev.length) [] [] c.co).2.1 c.rq≠0 then Kc c.ev.length (Ym c.ev.length (VX c.ev.length) [] [] c.co).2.2 (Ym c.ev.length (VX c.ev.length) [] [] c.co).2.1 c.rq else
 YT (szs c.co) c.ex c.cs
def VJ (t:LI) (x:Exc):Bool:=x.ls.all λl=>decide (t.getD l.1.toNat 0=l.2)
def Qm8 (t:LI) (k:Kh):Int:=k.ts.foldl (λs p=>s+p.2*t.getD p.1.toNat 0) 0
def UF (t:LI) (k:Kh):Bool:=decide (k.bd<Qm8 t k)
def fix {α:Type}(q:α→Bool):Nat→List α→Int
 | _,[]=>-1
 | i,e::l=>if q e=true then (i:Int) else fix q (i+1) l
def vio (c:Yz) (t:LI):Option (Int×Int) :=
 if 0≤fix (VJ t) 0 c.ex then some (1,fix (VJ t) 0 c.ex) else if 0≤fix (UF t) 0 c.cs then some (2,fix (UF t) 0 c.cs) else none
def rfr (v:Int):Nat→List Kx→LI→Int
 | i,x::l,s::ss=>if v∈x.a.al∧(eget x.a.ed s v).isSome=false then (i:Int) else rfr v (i+1) l ss
 | _,_,_=>-1
structure Rsn where
 st:Int
 kd:Int
 ix:Int
 ev:Int
def rfd (c:Yz) (rs:LI):LI→Option (Int×Int)
 | []=>none
 | v::l=>if 0≤rfr v 0 c.rq rs∧(c.ev.getD v.toNat ⟨.empty,false,false,false,0⟩).co=false then some (rfr v 0 c.rq rs,v) else rfd c rs l
def Qb7 (a:QE) (s:Int):LI:=(Zv a.ed s).map (·.2.1)
def rsn (c:Yz) (pl:QE) (plc:Int) (i:Nat) (t:LI):Option Rsn :=
 match vio c (t.take c.co.length) with
 | some (k,j)=>some ⟨i,k,j,-1⟩
 | none=>match rfd c (t.drop c.co.length) (Qb7 pl plc) with
  | some (j,v)=>some ⟨i,3,j,v⟩
  | none=>none
structure Spc where
 a:QE
 co:List (LI)
 rq:List (LI)
 pl:LI
 fb:List Rsn
def plx (ps:List (LI)) (t:LI):Int:=if t∈ps then (ps.idxOf t:Int) else 0
def QlC (c:Yz) (pl:QE) (ps:List (LI)) (s:Spc) (p:LI×Nat):Spc :=
 ⟨s.a,s.co++[p.1.take c.co.length],s.rq++[p.1.drop c.co.length],s.pl++[plx ps (p.1.take c.co.length)],
  match rsn c pl (plx ps (p.1.take c.co.length)) p.2 p.1 with | some r=>s.fb++[r] | none=>s.fb⟩
def XZ (c:Yz):Int:=if Yn c≠0 then Yn c else if VF (auts c.co)≠0 then VF (auts c.co) else match sync (auts c.co) with
 | none=>3
 | some _=>if VF (auts c.co++auts c.rq)≠0 then VF (auts c.co++auts c.rq) else match sync (auts c.co++auts c.rq) with
  | none=>3
  | some _=>0
def yV (l:List QE):QE:=match sync l with | none=>⟨[],0,[],[]⟩ | some z=>z.1
def JC (l:List QE):List (LI):=match sync l with | none=>[] | some z=>z.2
def spc (c:Yz):Spc:=(JC (auts c.co++auts c.rq)).zipIdx.foldl (QlC c (yV (auts c.co)) (JC (auts c.co))) ⟨yV (auts c.co++auts c.rq),[],[],[],[]⟩
end Go.Proofs.YtdffckgdcegpaaaGreatDoor
namespace Go.Lg
section
variable {P:Program} {f:Fr} {w:World} {d:Option Nat} {ty:Nat} {ps:String} {af:Array Edge} {gd:Option (Nat×Bool)}
theorem zv {t E:Nat}[h:Bk P t] {x y:Operand}{a b:Bool}(hx:ev f x=.bool a) (hy:ev f y=.bool b) :
  (execOp (ev f) ⟨d,.binOp .neq t x y E,ty,ps,af,gd⟩).run P w=.ok (.value (.bool (!(a == b)))) w:=by
 have G:(eqGuard .neq t x y (.bool a) (.bool b)).run P w=.ok () w:=by simp[eqGuard]
 simp[execOp,hx,hy,G,run_neq_bool (P:=P) (w:=w) t a b h.u]
class A2 (P:Program) (t:Nat):Prop where
 u:∃e,P.underlying t=some (.array 2 e)∧P.underlying e=some (.int .i64)∧(P.info? e).map (·.size)=some 1
 g:P.eqGuardType P.depth t=false
theorem Qc8 {t E:Nat}[h:A2 P t] {x y:Operand}{p q:Int×Int}(hx:ev f x=Zy p) (hy:ev f y=Zy q) :
  (execOp (ev f) ⟨d,.binOp .neq t x y E,ty,ps,af,gd⟩).run P w=.ok (.value (.bool (decide (¬p=q)))) w:=by
 obtain ⟨e,h1,h2,h3⟩:=h.u;have G:(eqGuard .neq t x y (Zy p) (Zy q)).run P w=.ok () w:=by simp[eqGuard,Zy,h.g]
 have he:=KQ h1 h2 h3 w p q;simp only[execOp,hx,hy,Sem.run_bind,G,Result.andThen_ok,binOp,he,Sem.run_pure];by_cases e:p=q <;> simp[e]
end
inductive Pu where
 | pl (l:List (Nat×Bool))
 | f2 (pre:List (Nat×Bool)) (i j:Nat) (t1 t2:Pu)
 | f3 (pre:List (Nat×Bool)) (i j k:Nat) (t1 t2 t3:Pu)
def Pu.len:Pu→Nat
 | .pl l=>l.length
 | .f2 pre _ _ t1 _=>pre.length+(1+t1.len)
 | .f3 pre _ _ _ t1 _ _=>pre.length+(1+t1.len)
def Qaw (all:Array Oper):Pu→Array Bool→Bool
 | .pl l,ls=>Xw all l ls
 | .f2 pre i j t1 t2,ls=>Km all pre ls && Region.ready .any all (Z4 pre ls) == [i,j] && t1.len == t2.len && Qaw all t1 ((Z4 pre ls).setIfInBounds i true) && Qaw all t2 ((Z4 pre ls).setIfInBounds j true)
 | .f3 pre i j k t1 t2 t3,ls=>Km all pre ls && Region.ready .any all (Z4 pre ls) == [i,j,k] && t1.len == t2.len && t1.len == t3.len && Qaw all t1 ((Z4 pre ls).setIfInBounds i true) && Qaw all t2 ((Z4 pre ls).setIfInBounds j true) && Qaw all t3 ((Z4 pre ls).setIfInBounds k true)
def Qne (all:List Oper) (t:Pu):Bool:=Region.noSelect all.toArray && t.len == all.length && Qaw all.toArray t (Array.replicate all.length false)
def XE (P:Program) (all:List Oper) (C:World→Prop) (i:Nat) (N:Fr→World→Prop) (f:Fr) (w:World):Prop:=YD all f (Q6 all i)=true∧XO P (Q6 all i) f w λE w'=>C w'∧N E w'
def XU (P:Program) (all:List Oper) (C:World→Prop) (K:Fr→World→Prop):Pu→Fr→World→Prop
 | .pl l=>XP P all C K l
 | .f2 pre i j t1 t2=>XP P all C (λf w=>XE P all C i (XU P all C K t1) f w∧XE P all C j (XU P all C K t2) f w) pre
 | .f3 pre i j k t1 t2 t3=>XP P all C (λf w=>XE P all C i (XU P all C K t1) f w∧XE P all C j (XU P all C K t2) f w∧XE P all C k (XU P all C K t3) f w) pre
section
variable {P:Program} {n:Nat} {f:Fr} {w:World} {all:List Oper} {C:World→Prop} {K B:Fr→World→Prop}
theorem Kd (hs:Region.noSelect all.toArray=true):∀(t:Pu) (ls:Array Bool) (f:Fr) (w:World),ls.size=all.length→C w→Qaw all.toArray t ls=true→XU P all C K t f w→XA P all C K t.len ls f w
 | .pl l,ls,f,w,S,U,hp,h=>ZO hs l ls f w S (.inl U) hp h
 | .f2 pre i j t1 t2,ls,f,w,S,U,hp,h=>by
  simp only[Qaw,Bool.and_eq_true,beq_iff_eq] at hp;obtain ⟨⟨⟨⟨hq,E⟩,hl⟩,h1⟩,h2⟩:=hp;rw[Pu.len];refine Y9 (B:=λf w=>XE P all C i (XU P all C K t1) f w∧XE P all C j (XU P all C K t2) f w) hs pre ls f w U hq (λf G=>?_) h;have H:∀k,((Z4 pre ls).setIfInBounds k true).size=all.length:=λk=>by simp[Xe,S]
  rw[MX 1];refine Vs (λV=>(by rw[V] at E;cases E)) ?_;rw[E];intro k hk o J;simp only[List.mem_cons,List.not_mem_nil,or_false] at hk;rcases hk with rfl | rfl
  ·have:=G.1;unfold XE at this;rw[ZD J] at this;rw[this.1,cond_true];exact this.2.mono λv w' hx=>⟨.inr (.inr hx.1),Kd hs t1 _ _ _ (H _) hx.1 h1 hx.2⟩
  have:=G.2;unfold XE at this;rw[ZD J] at this;rw[this.1,cond_true,hl];exact this.2.mono λv w' hx=>⟨.inr (.inr hx.1),Kd hs t2 _ _ _ (H _) hx.1 h2 hx.2⟩
 | .f3 pre i j k t1 t2 t3,ls,f,w,S,U,hp,h=>by
  simp only[Qaw,Bool.and_eq_true,beq_iff_eq] at hp;obtain ⟨⟨⟨⟨⟨⟨hq,E⟩,hl⟩,Y⟩,h1⟩,h2⟩,h3⟩:=hp;rw[Pu.len];refine Y9 (B:=λf w=>XE P all C i (XU P all C K t1) f w∧XE P all C j (XU P all C K t2) f w∧XE P all C k (XU P all C K t3) f w) hs pre ls f w U hq (λf G=>?_) h;have H:∀k,((Z4 pre ls).setIfInBounds k true).size=all.length:=λk=>by simp[Xe,S]
  rw[MX 1];refine Vs (λV=>(by rw[V] at E;cases E)) ?_;rw[E];intro q hk o J;simp only[List.mem_cons,List.not_mem_nil,or_false] at hk;rcases hk with rfl | rfl | rfl
  ·have:=G.1;unfold XE at this;rw[ZD J] at this;rw[this.1,cond_true];exact this.2.mono λv w' hx=>⟨.inr (.inr hx.1),Kd hs t1 _ _ _ (H _) hx.1 h1 hx.2⟩
  ·have:=G.2.1;unfold XE at this;rw[ZD J] at this;rw[this.1,cond_true,hl];exact this.2.mono λv w' hx=>⟨.inr (.inr hx.1),Kd hs t2 _ _ _ (H _) hx.1 h2 hx.2⟩
  have:=G.2.2;unfold XE at this;rw[ZD J] at this;rw[this.1,cond_true,Y];exact this.2.mono λv w' hx=>⟨.inr (.inr hx.1),Kd hs t3 _ _ _ (H _) hx.1 h3 hx.2⟩
theorem Qfn {Q:Exit→Fr→World→Prop}{id:Nat}(C:World→Prop) (t:Pu) (hm:P.follows .mixedOrders=true) (E:JL n all=true) (hp:Qne all t=true)
  (G:C { w with drawn:=w.drawn+1 }) (h:XU P all C (λf w=>Q .normal f w) t f { w with drawn:=w.drawn+1 }):W P n (.region id all.toArray true) Q f w:=by
 simp only[Qne,Bool.and_eq_true,beq_iff_eq] at hp;obtain ⟨⟨hs,hl⟩,hp⟩:=hp;refine VR C hm E ?_;have h1:=Kd hs t _ _ _ (by simp) G hp h;rw[hl] at h1;exact h1
theorem uP {l:List (Nat×Bool)}(h:XP P all C K l f w):XU P all C K (.pl l) f w:=h
theorem u2 {pre:List (Nat×Bool)}{i j:Nat}{E G:Pu}(h:XP P all C (λf w=>XE P all C i (XU P all C K E) f w∧XE P all C j (XU P all C K G) f w) pre f w):XU P all C K (.f2 pre i j E G) f w:=h
theorem u3 {pre:List (Nat×Bool)}{i j k:Nat}{E G H:Pu}(h:XP P all C (λf w=>XE P all C i (XU P all C K E) f w∧XE P all C j (XU P all C K G) f w∧XE P all C k (XU P all C K H) f w) pre f w):XU P all C K (.f3 pre i j k E G H) f w:=h
theorem ue {i:Nat}{N:Fr→World→Prop}(h:XO P (Q6 all i) f w λE w'=>C w'∧N E w') (G:YD all f (Q6 all i)=true:=by rfl):XE P all C i N f w:=⟨G,h⟩
end
attribute [irreducible] XU XE
open Go.RowKit
abbrev fen (ro:Option Nat):Fence:={ Fence.wide with round:=ro }
def coll (ds:LN):List Deferred:=ds.map λD=>{ target:=.collected D,args:=#[] }
structure YP (n:Nat) (ds:LN) (a:Act) (f:Fr):Prop where
 size:a.tmps.size=n
 defers:a.defers=coll ds
 get:∀t,a.tmps.getD t undef=f t
theorem YP.rel {n:Nat} {ds:LN} {a:Act} {f:Fr} (h:YP n ds a f):Rel n { a with defers:=[] } f:=⟨h.size,O,h.get⟩
theorem YP.eval {n:Nat}{ds:LN}{a:Act}{f:Fr}(h:YP n ds a f):a.eval=ev f:=by
 have:=h.rel.eval;rw[←this];funext x;cases x <;> rfl
theorem YP.put {n:Nat}{ds:LN}{a:Act}{f:Fr}(h:YP n ds a f) {dst:Option Nat}(hd:∀d,dst=some d→d<n) (v:Value):YP n ds (a.put dst v) (Q4 f dst v):=by
 have:=h.rel.put hd v;cases dst with
 | none=>exact h
 | some d=>exact ⟨this.size,h.defers,this.get⟩
def XY:Code→Nat→Bool
 | .region _ ops _,t=>ZU ops.toList t
 | .seq a b,t=>XY a t || XY b t
 | .cond _ a b,t=>XY a t || XY b t
 | .block _ a,t=>XY a t
 | .loop a,t=>XY a t
 | .skip,_ | .exit _,_ | .label _,_ | .goto _,_ | .ret,_ | .rangeFunc ..,_=>false
 | _,_=>true
def wrG (D:List (Nat×Nat)):Code→Bool
 | .region _ ops _=>Qd0 D ops.toList
 | .seq a b=>wrG D a && wrG D b
 | .cond _ a b=>wrG D a && wrG D b
 | .block _ a=>wrG D a
 | .loop a=>wrG D a
 | .skip | .exit _ | .label _ | .goto _ | .ret | .rangeFunc ..=>true
 | _=>false
theorem JB {D:List (Nat×Nat)}{t:Nat}(ht:J1 D t=false):∀c:Code,wrG D c=true→XY c t=false
 | .region _ ops _,h=>jj h ht
 | .seq a b,h=>by simp only[wrG,Bool.and_eq_true] at h;simp[XY,JB ht a h.1,JB ht b h.2]
 | .cond _ a b,h=>by simp only[wrG,Bool.and_eq_true] at h;simp[XY,JB ht a h.1,JB ht b h.2]
 | .block _ a,h=>JB ht a (by simpa[wrG] using h)
 | .loop a,h=>JB ht a (by simpa[wrG] using h)
 | .skip,_=>rfl
 | .exit _,_=>rfl
 | .label _,_=>rfl
 | .goto _,_=>rfl
 | .ret,_=>rfl
 | .rangeFunc ..,_=>rfl
 | .scope _,h=>by simp[wrG] at h
 | .refuse _,h=>by simp[wrG] at h
def WG (ro:Option Nat) (m:Nat) (P:Program) (n:Nat) (c:Code) (Q:Exit→LN→Fr→World→Prop) (ds:LN) (f:Fr) (w:World):Prop :=
 ∀a,YP n ds a f→c.wpIn (fen ro) m P (λe E w'=>∃ds' f',YP n ds' E f'∧(∀t,XY c t=false→f' t=f t)∧Q e ds' f' w') a w
def QcX (K:LN→Fr→World→Prop) (Q:Exit→LN→Fr→World→Prop):Exit→LN→Fr→World→Prop
 | .normal,ds,f,w=>K ds f w
 | e,ds,f,w=>Q e ds f w
def QnB (id:Nat) (Q:Exit→LN→Fr→World→Prop):Exit→LN→Fr→World→Prop
 | .exit i,ds,f,w=>bif Nat.beq i id then Q .normal ds f w else Q (.exit i) ds f w
 | e,ds,f,w=>Q e ds f w
section
variable {ro:Option Nat} {m:Nat} {P:Program} {n:Nat} {Q:Exit→LN→Fr→World→Prop} {ds:LN} {f:Fr} {w:World}
theorem WG.mono {c:Code}{Q':Exit→LN→Fr→World→Prop}(h:WG ro m P n c Q ds f w) (hq:∀e ds f w,Q e ds f w→Q' e ds f w):WG ro m P n c Q' ds f w :=
 λa ha=>wpIn_mono (h a ha) λ_ _ _ ⟨E,G,h1,h2,h3⟩=>⟨E,G,h1,h2,hq _ _ _ _ h3⟩
theorem WG.keeps {c:Code}(h:WG ro m P n c Q ds f w):WG ro m P n c (λe G E w'=>(∀t,XY c t=false→E t=f t)∧Q e G E w') ds f w :=
 λa ha=>wpIn_mono (h a ha) λ_ _ _ ⟨G,E,h1,h2,h3⟩=>⟨G,E,h1,h2,h2,h3⟩
theorem Yl (h:Q .normal ds f w):WG ro m P n .skip Q ds f w:=λ_ ha=>wpIn_skip ⟨ds,f,ha,λ_ _=>O,h⟩
theorem Ky {i:Nat}(h:Q (.exit i) ds f w):WG ro m P n (.exit i) Q ds f w:=λ_ ha=>wpIn_exit ⟨ds,f,ha,λ_ _=>O,h⟩
theorem Vc (h:Q .ret ds f w):WG ro m P n .ret Q ds f w:=λ_ ha=>wpIn_ret ⟨ds,f,ha,λ_ _=>O,h⟩
theorem Q2 {x y:Code}(h:WG ro m P n x (QcX (λds f w=>WG ro m P n y Q ds f w) Q) ds f w):WG ro m P n (.seq x y) Q ds f w:=by
 intro a ha;refine wpIn_seq (wpIn_mono (h a ha) ?_);rintro e H w' ⟨G,E,h1,h2,h3⟩;have k1:∀t,XY (.seq x y) t=false→E t=f t:=λt ht=>h2 t (by simp only[XY,Bool.or_eq_false_iff] at ht;exact ht.1);cases e with
 | normal =>
  refine wpIn_mono (h3 H h1) λ_ _ _ ⟨J,S,U,V,Y⟩=>⟨J,S,U,λt ht=>(V t ?_).trans (k1 t ht),Y⟩;simp only[XY,Bool.or_eq_false_iff] at ht;exact ht.2
 | exit id=>exact ⟨G,E,h1,k1,h3⟩
 | goto l=>exact ⟨G,E,h1,k1,h3⟩
 | ret=>exact ⟨G,E,h1,k1,h3⟩
 | panic ch=>exact ⟨G,E,h1,k1,h3⟩
 | outgrown=>exact ⟨G,E,h1,k1,h3⟩
theorem Qlo {α:Type}{x y:Code}(D:List (Nat×Nat)) (S:α→List (Nat×Value)) (I:α→LN→World→Prop) (hD:wrG D x=true)
  (h1:WG ro m P n x (QcX (λE G w'=>∃z,JO G (S z)∧I z E w') Q) ds f w)
  (h2:∀z g E w',I z E w'→WG ro m P n y Q E (yR (S z) (mix D f g)) w'):WG ro m P n (.seq x y) Q ds f w:=by
 refine Q2 (h1.keeps.mono ?_);rintro e E G w' ⟨hk,hq⟩;cases e with
 | normal =>
  obtain ⟨z,hs,hi⟩:=hq;have h3:=h2 z G E w' hi;rw[KU (λt ht=>hk t (JB ht x hD)),Xr hs] at h3;exact h3
 | exit id=>exact hq
 | goto l=>exact hq
 | ret=>exact hq
 | panic ch=>exact hq
 | outgrown=>exact hq
theorem Vd {c:Operand}{x y:Code}{t:Bool}(hc:ev f c=.bool t) (ht:t=true→WG ro m P n x Q ds f w) (E:t=false→WG ro m P n y Q ds f w) :
  WG ro m P n (.cond c x y) Q ds f w:=by
 intro a ha;have G:a.eval c=.bool t:=by rw[ha.eval];exact hc
 refine wpIn_cond_split G (λe=>wpIn_mono (ht e a ha) ?_) (λe=>wpIn_mono (E e a ha) ?_) <;>
  (rintro e S w' ⟨H,J,h1,h2,h3⟩
   refine ⟨H,J,h1,λt ht=>h2 t ?_,h3⟩;simp only[XY,Bool.or_eq_false_iff] at ht
   first | exact ht.1 | exact ht.2)
theorem QmO {c:Operand}{x y:Code}{p:Prop}[Decidable p] (hc:ev f c=.bool (decide p)) (ht:p→WG ro m P n x Q ds f w) (E:¬p→WG ro m P n y Q ds f w) :
  WG ro m P n (.cond c x y) Q ds f w :=
 Vd hc (λe=>ht (of_decide_eq_true e)) (λe=>E (of_decide_eq_false e))
theorem yL {c:Operand}{x y:Code}{p:Prop}[Decidable p] (hc:ev f c=.bool (decide p)) (E:¬p→WG ro m P n y Q ds f w) (ht:p→WG ro m P n x Q ds f w) :
  WG ro m P n (.cond c x y) Q ds f w:=QmO hc ht E
theorem Qa2 {c:Operand}{x y:Code}(hc:ev f c=.bool true) (h:WG ro m P n x Q ds f w):WG ro m P n (.cond c x y) Q ds f w:=Vd hc (λ_=>h) (λe=>by cases e)
theorem Vv {c:Operand}{x y:Code}(hc:ev f c=.bool false) (h:WG ro m P n y Q ds f w):WG ro m P n (.cond c x y) Q ds f w:=Vd hc (λe=>by cases e) (λ_=>h)
theorem ZN {id:Nat}{c:Code}(h:WG ro m P n c (QnB id Q) ds f w):WG ro m P n (.block id c) Q ds f w:=by
 intro a ha;refine wpIn_block (wpIn_mono (h a ha) ?_);rintro e H w' ⟨G,E,h1,h2,h3⟩;have k1:∀t,XY (.block id c) t=false→E t=f t:=λt ht=>h2 t (by simpa[XY] using ht);cases e with
 | exit i =>
  simp only[Exit.inBlock];simp only[QnB] at h3;by_cases hi:i=id
  ·subst hi;simp only[Nat.beq_refl,cond_true] at h3;simp only[if_true];exact ⟨G,E,h1,k1,h3⟩
  have hb:Nat.beq i id=false:=by
   cases e:Nat.beq i id with
   | false=>rfl
   | true=>exact absurd (Nat.eq_of_beq_eq_true e) hi
  rw[hb] at h3;rw[if_neg hi];exact ⟨G,E,h1,k1,h3⟩
 | normal=>exact ⟨G,E,h1,k1,h3⟩
 | goto l=>exact ⟨G,E,h1,k1,h3⟩
 | ret=>exact ⟨G,E,h1,k1,h3⟩
 | panic ch=>exact ⟨G,E,h1,k1,h3⟩
 | outgrown=>exact ⟨G,E,h1,k1,h3⟩
end
def QbK (l:List Oper):Bool:=l.all λo=>match o.op with | .defer _=>false | _=>true
theorem VK {l:List Oper}(h:QbK l=true):∀o∈l,∀c,o.op≠.defer c:=λo E c e=>by
 have:=L6.1 h o E;rw[e] at this;cases this
section
variable {ro:Option Nat} {m:Nat} {P:Program} {n:Nat} {ds:LN}
theorem Qfj {o:Oper}{a:Act}{f:Fr}{w:World}{K:Fr→World→Prop}{K':Act→World→Prop}{Q:Exit→Act→World→Prop}(h:YP n ds a f) (G:∀c,o.op≠.defer c)
  (E:∀v w',K (Q4 f o.dst v) w'→K' (a.put o.dst v) w') (hx:XO P o f w K):o.wpIn (fen ro) m P a w K' Q:=by
 unfold XO at hx;refine ⟨λ_ _=>trivial,?_⟩;have e:Oper.semAt (fen ro).round a.eval o=execOp (ev f) o:=by
  rw[h.eval];cases ro with
  | none=>rfl
  | some l=>exact Oper.semAt_some l _ _ G
 rw[e];generalize (execOp (ev f) o).run P w=r at hx;cases r with
 | ok nx w' =>
  cases nx <;> simp only[upF] at hx <;> simp only[Oper.uponIn]
  case value v=>exact E v w' hx
  case skip=>exact E _ w' hx
  case enter g args =>
   refine ⟨λh=>by simp[Fence.wide] at h,?_⟩;refine (callsIn_wide (n:=m - 1)).2 (Calls.mono hx λe H he=>?_);cases e with
   | returned v=>exact E v H he
   | panicked c=>exact he.elim
   | outgrown=>exact he.elim
 | halt x w'=>exact hx.elim
theorem VI {l:List Oper}{a:Act}{f:Fr}(h:YP n ds a f) (E:∀o∈l,∀d,o.dst=some d→d<n) (o:Oper):Region.wanted o (yielded l.toArray a.tmps)=YD l f o:=UD h.rel E o
theorem Qfk {Q:Exit→LN→Fr→World→Prop}{all:List Oper}(G:∀o∈all,∀d,o.dst=some d→d<n) (hd:∀o∈all,∀c,o.op≠.defer c) (f0:Fr) :
  ∀(l:List Oper) (k:Nat) (a:Act) (f:Fr) (w:World),(∀j,l[j]?=all[k+j]?)→YP n ds a f→(∀t,ZU all t=false→f t=f0 t) →
   XL P all (λf w=>Q .normal ds f w) l f w →
   wpOpsIn (fen ro) m P all.toArray (λe U w'=>∃ds' f',YP n ds' U f'∧(∀t,ZU all t=false→f' t=f0 t)∧Q e ds' f' w') (List.range' k l.length) a w
 | [],_,a,f,w,_,E,hk,h=>⟨ds,f,E,hk,by unfold XL at h;exact h⟩
 | o::l,k,a,f,w,hl,E,hk,h=>by
  have J:all[k]?=some o:=by simpa using (hl 0).symm
  have H:o∈all:=Ml J;have ih:=λa f w=>Qfk (Q:=Q) G hd f0 l (k+1) a f w (λj=>by have:=hl (j+1);simpa[Nat.add_assoc,Nat.add_comm 1 j] using this);have next:∀v,(∀t,ZU all t=false→Q4 f o.dst v t=f0 t):=λv t ht=>(YL (Jl H ht) v).trans (hk t ht);simp only[List.length_cons,List.range'_succ,wpOpsIn,List.getElem?_toArray,J];rw[VI E G o];unfold XL at h;cases S:YD all f o with
  | false =>
   rw[S] at h;exact ⟨λ_ _=>trivial,ih _ _ _ (E.put (G o H) _) (next _) h⟩
  | true =>
   rw[S] at h;exact Qfj E (hd o H) (λv w' hx=>ih _ _ _ (E.put (G o H) v) (next v) hx) h
theorem QJ {Q:Exit→LN→Fr→World→Prop}{f:Fr}{w:World}{id:Nat}{l:List Oper}(E:JL n l=true) (hd:QbK l=true) (h:XL P l (λf w=>Q .normal ds f w) l f w):WG ro m P n (.region id l.toArray false) Q ds f w:=by
 intro a ha;refine wpIn_region ?_;have:=Qfk (ro:=ro) (m:=m) (Y4 E) (VK hd) f l 0 a f w (by simp) ha (λ_ _=>rfl) h;simpa[List.range_eq_range',XY] using this
attribute [local semireducible] XA in
theorem q8 {Q:Exit→Act→World→Prop}{all:List Oper}{C:World→Prop}{K:Fr→World→Prop}(G:∀o∈all,∀d,o.dst=some d→d<n) (hd:∀o∈all,∀c,o.op≠.defer c) (f0:Fr)
  (H:∀a f w,YP n ds a f→(∀t,ZU all t=false→f t=f0 t)→K f w→Q .normal a w) :
  ∀(k:Nat) (ls:Array Bool) (a:Act) (f:Fr) (w:World),YP n ds a f→(∀t,ZU all t=false→f t=f0 t)→XA P all C K k ls f w→wpAnyIn (fen ro) m P .any all.toArray Q k ls a w
 | 0,_,a,f,w,E,hk,h=>⟨h.1,H a f w E hk h.2⟩
 | k+1,ls,a,f,w,E,hk,h=>by
  refine ⟨λV=>H a f w E hk (h.1 V),λi hi=>?_⟩;unfold wpOpIn;simp only[List.getElem?_toArray];cases S:all[i]? with
  | none =>
   exfalso;obtain ⟨_,o,Y,_⟩:=mem_ready.1 hi;simp[S] at Y
  | some o =>
   have J:o∈all:=Ml S;have h1:=h.2 i hi o S;have next:∀v,(∀t,ZU all t=false→Q4 f o.dst v t=f0 t):=λv t ht=>(YL (Jl J ht) v).trans (hk t ht);simp only[];rw[VI E G o];cases U:YD all f o with
   | false =>
    rw[U] at h1;exact ⟨λ_ _=>trivial,q8 G hd f0 H k _ _ _ _ (E.put (G o J) _) (next _) h1⟩
   | true =>
    rw[U] at h1;exact Qfj E (hd o J) (λv w' hx=>q8 G hd f0 H k _ _ _ _ (E.put (G o J) v) (next v) hx.2) h1
theorem Qa3 {Q:Exit→LN→Fr→World→Prop}{f:Fr}{w:World}{all:List Oper}{id:Nat}(C:World→Prop) (pl:List (Nat×Bool)) (hm:P.follows .mixedOrders=true) (G:JL n all=true) (hd:QbK all=true) (hp:Qax all pl=true)
  (H:C { w with drawn:=w.drawn+1 }) (h:XP P all C (λf w=>Q .normal ds f w) pl f { w with drawn:=w.drawn+1 }):WG ro m P n (.region id all.toArray true) Q ds f w:=by
 intro a ha;simp only[Qax,Bool.and_eq_true,beq_iff_eq] at hp;obtain ⟨⟨hs,hl⟩,hp⟩:=hp;refine wpIn_region_any hm ?_;have h1:=ZO hs pl _ _ _ (by simp) (.inl H) hp h;rw[hl] at h1;have h2:=q8 (ro:=ro) (m:=m) (n:=n) (ds:=ds) (Q:=λe J w'=>∃ds' E,YP n ds' J E∧(∀t,ZU all t=false→E t=f t)∧Q e ds' E w') (Y4 G) (VK hd) f
  (λa E w S hk hq=>⟨ds,E,S,hk,hq⟩) _ _ a f _ ha (λ_ _=>O) h1
 simpa[XY] using h2
end
section
variable {ro:Option Nat} {m:Nat} {P:Program} {n:Nat} {Q:Exit→LN→Fr→World→Prop} {ds:LN} {f:Fr} {w:World}
theorem qz {α:Type}{F:Fence}{c:Code}{Q:Exit→Act→World→Prop}{a:Act}{w:World}(J:α→Act→World→Prop) (μ:α→Nat) (z:α) (h₀:J z a w)
  (round:∀x a w,J x a w→c.wpIn F m P (Exit.then (λG w'=>∃H,μ H<μ x∧J H G w') Q) a w):(Code.loop c).wpIn F m P Q a w:=by
 intro b k cs U hb S;have key:∀j x a w,μ x=j→J x a w →
   ∃e G w',Q e G w'∧ArrivesIn (Machine.fenced P F) P (lone (b.atR a (.code c::.inLoop c::k)) cs w) b k cs e G w':=by
  intro j;induction j using Nat.strongRecOn with
  | _ j ih =>
   intro x a w V Y;obtain ⟨e,a₁,w₁,hq,E⟩:=round x a w Y b (.inLoop c::k) cs U hb S;cases e with
   | normal =>
    obtain ⟨H,Z,ha⟩:=hq;obtain ⟨e₂,a₂,w₂,hq₂,harr₂⟩:=ih (μ H) (V ▸ Z) H a₁ w₁ O ha;exact ⟨e₂,a₂,w₂,hq₂,.of_steps (StepsIn.trans E (.one (fenced_calm hb S O) stepR_inLoop)) harr₂⟩
   | exit id=>exact ⟨_,a₁,w₁,hq,.pass (x:=.inLoop c) O (λ_ _=>.inl (by simp)) E⟩
   | goto l=>exact ⟨_,a₁,w₁,hq,.pass (x:=.inLoop c) O (λ_ _=>.inl (by simp)) E⟩
   | ret=>exact ⟨_,a₁,w₁,hq,.pass (x:=.inLoop c) O (λ_ _=>.inl (by simp)) E⟩
   | panic ch=>exact ⟨_,a₁,w₁,hq,.pass (x:=.inLoop c) O (λ_ _=>.inl (by simp)) E⟩
   | outgrown=>exact ⟨_,a₁,w₁,hq,.pass (x:=.inLoop c) O (λ_ _=>.inl (by simp)) E⟩
 obtain ⟨e,G,w',hq,E⟩:=key _ z a w O h₀;exact ⟨e,G,w',hq,.of_steps (.one (fenced_calm hb S O) stepR_loop) E⟩
theorem VS {α:Type}{c:Code}(D:List (Nat×Nat)) (S:α→List (Nat×Value)) (I:α→LN→World→Prop) (μ:α→Nat) (hD:wrG D c=true) (z:α)
  (h0:JO f (S z)) (hI:I z ds w)
  (round:∀x g H w',I x H w'→WG ro m P n c (QcX (λE J hb=>∃Y,μ Y<μ x∧JO J (S Y)∧I Y E hb) Q) H (yR (S x) (mix D f g)) w'):WG ro m P n (.loop c) Q ds f w:=by
 intro a ha;refine qz (λ(x:α) Z w'=>∃H J,YP n H Z J∧(∀t,XY c t=false→J t=f t)∧JO J (S x)∧I x H w') μ z ⟨ds,f,ha,λ_ _=>O,h0,hI⟩ ?_;rintro x Z w' ⟨H,J,h1,h2,h3,h4⟩;have h5:=round x J H w' h4;rw[KU (λt ht=>h2 t (JB ht c hD)),Xr h3] at h5;refine wpIn_mono (h5 Z h1) ?_;rintro e hc hb ⟨E,G,U,g2,V⟩;have k1:∀t,XY c t=false→G t=f t:=λt ht=>(g2 t ht).trans (h2 t ht)
 have k2:∀t,XY (.loop c) t=false→G t=f t:=λt ht=>k1 t (by simpa[XY] using ht);cases e with
 | normal=>obtain ⟨Y,hm,hs,hi⟩:=V;exact ⟨Y,hm,E,G,U,k1,hs,hi⟩
 | exit id=>exact ⟨E,G,U,k2,V⟩
 | goto l=>exact ⟨E,G,U,k2,V⟩
 | ret=>exact ⟨E,G,U,k2,V⟩
 | panic ch=>exact ⟨E,G,U,k2,V⟩
 | outgrown=>exact ⟨E,G,U,k2,V⟩
end
def rqG (P:Program) (rs:List ResultVar) (R:Value→World→Prop):Exit→LN→Fr→World→Prop
 | .normal,ds,f,w=>(∀D∈ds,w.heap[D]?=some (.deferred (some [])))∧ds.Nodup∧∃vs,∀w',Step ds w w'→Uz P f w' rs vs∧R (tup vs) w'
 | .ret,ds,f,w=>(∀D∈ds,w.heap[D]?=some (.deferred (some [])))∧ds.Nodup∧∃vs,∀w',Step ds w w'→Uz P f w' rs vs∧R (tup vs) w'
 | _,_,_,_=>False
theorem Step.putObj (w:World) (D:Nat) (o:Obj):Step [D] w (w.putObj D o):=⟨O,O,O,by simp,λk _ hk=>World.putObj_heap_other (λe=>hk (by simp[e]))⟩
theorem zO {F:Fence}{m:Nat}{P:Program}{fn:Func}{tmps:Array Value}{R:Ending→World→Prop}:∀(ds:LN) (w:World),(∀D∈ds,w.heap[D]?=some (.deferred (some [])))→ds.Nodup →
  (∀w',Step ds w w'→∃v,(results fn tmps).run P w'=.ok v w'∧R (.returned v) w')→LeavesInM F m P fn tmps R (coll ds) .returning w
 | [],w,_,_,h=>h w (Step.refl _ _)
 | D::ds,w,hD,H,h=>by
  refine ⟨by simp,.inl ⟨D,_,rfl,run_takeDeferred (hD D Lh),?_⟩⟩;have hs:=Step.putObj w D (.deferred none);have G:=List.nodup_cons.1 H;refine zO ds _ (λE hE=>?_) G.2 (λw' J=>h w' ?_)
  ·rw[World.putObj_heap_other (λe=>G.1 (by rw[←e];exact hE))];exact hD E (Le _ hE)
  exact (hs.mono (λb hb=>by simp at hb;simp[hb])).trans' (J.mono (λb hb=>Le _ hb))
theorem QM.of_G {P:Program}{g:Nat}{fn:Func}{c:Code}{args:LV}{w:World}{R:Value→World→Prop}{n:Nat}{rs:List ResultVar}(m:Nat)
  (U:P.funcs[g]?=some fn) (hb:fn.body=some c) (V:fn.ntmps=n) (Y:fn.results=rs.toArray) (hl:args.length≤n)
  (h:WG none m P n c (rqG P rs R) [] (ent args) w):QM P g args w R:=by
 unfold QM;refine (callsIn_wide (n:=m)).1 (callsIn_of_wp_marks U hb La (wpIn_mono (h _ ?_) ?_))
 ·refine ⟨by simp[V];omega,O,λt=>?_⟩;have key:∀(l:LV) (t:Nat),l[t]?.getD undef=ent l t:=by
   intro l;induction l with
   | nil=>intro t;rfl
   | cons v l ih=>intro t;cases t with | zero=>rfl | succ t=>simpa[ent] using ih t
  rw[←key];simp only[Array.getD_eq_getD_getElem?,Array.getElem?_append,List.size_toArray,List.getElem?_toArray];by_cases ht:t<args.length
  ·simp[ht]
  simp[ht,Array.getElem?_replicate];split <;> rfl
 rintro e H w' ⟨G,Z,h1,_,h3⟩;have fin:((∀D∈G,w'.heap[D]?=some (.deferred (some [])))∧G.Nodup∧∃vs,∀E,Step G w' E→Uz P Z E rs vs∧R (tup vs) E) →
   LeavesInM Fence.wide m P fn H.tmps (λe w'=>match e with | .returned v=>R v w' | _=>False) H.defers .returning w':=by
  rintro ⟨hd,ha,vs,J⟩;rw[h1.defers];refine zO G w' hd ha λE S=>⟨tup vs,?_,(J E S).2⟩;simp only[results,Y,List.mapM_toArray,Sem.run_bind,Sem.run_map];rw[JD (a:={ H with defers:=[] }) h1.rel _ (λ_=>rfl) (λ_ _=>rfl) rs vs (J E S).1]
  cases vs with
  | nil=>rfl
  | cons v vs=>cases vs with | nil=>rfl | cons u us=>rfl
 cases e with
 | normal=>exact fin h3
 | ret=>exact fin h3
 | exit id=>exact h3.elim
 | goto l=>exact h3.elim
 | panic c=>exact h3.elim
 | outgrown=>exact h3.elim
attribute [irreducible] WG
end Go.Lg
