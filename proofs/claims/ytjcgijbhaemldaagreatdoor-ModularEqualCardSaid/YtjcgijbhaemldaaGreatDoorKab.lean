/- Merged out of 49 texts. -/
import Derived.Test.YtjcgijbhaemldaaGreatDoorKaa
import Derived.Laws.Strings
import Derived.RangeFuncNested
import Derived.RangeFuncLeaves
import Derived.RangeFuncCalls
import Derived.OrdersIn
import Derived.TacticsIn
namespace Go.Proofs.YtjcgijbhaemldaaGreatDoor
open Go.Proofs.Tryz
open Go.Lg
theorem Qqt {α:Type}(o:Option α):o=none∨∃t,o=some t:=by cases o;exact .inl Z;exact .inr ⟨_,Z⟩
def zA:Value:=.agg #[nS,.int .i64 0,nS,nS]
def Zg:Value:=nS
def YA (N:Nat) (H:Array Obj) (aa:List QD) (va vt:Value) (c:Int):Prop :=
 if JP aa≠0 then c=JP aa∧va=zA∧vt=Zg else match sync aa with
  | none=>c=3∧va=zA∧vt=Zg
  | some z=>c=0∧JY N H va z.1∧QeA N H vt z.2
def YH (s:Sy) (u:LI):Sy:=if u∈s.tup then s else ⟨s.tup++[u],s.mk',s.ed⟩
theorem QhH (s:Sy) (u:LI):(YH s u).mk'=s.mk':=by unfold YH;split <;> rfl
theorem QhI (s:Sy) (u:LI):(YH s u).ed=s.ed:=by unfold YH;split <;> rfl
theorem QkP {aa:List QD}{i:Nat}{t u:LI}{s:Sy}{v:Int}(h:Q5 v aa t=some u) (hl:u∈s.tup∨s.tup.length≠4096) :
  syE aa i t s v=some ⟨(YH s u).tup,(YH s u).mk',(YH s u).ed++[((i:Int),v,((YH s u).tup.idxOf u:Int))]⟩:=by
 unfold syE YH;rw[h];simp only[];by_cases hu:u∈s.tup
 ·simp only[if_pos hu]
 simp only[if_neg hu];rw[if_neg (by rcases hl with h1 | h1;exact absurd h1 hu;exact h1),Mj,if_neg hu];simp
theorem QhG {aa:List QD}{i:Nat}{t u:LI}{s:Sy}{v:Int}(h:Q5 v aa t=some u) (hu:u∉s.tup) (hl:s.tup.length=4096):syE aa i t s v=none:=by
 unfold syE;rw[h];simp only[];rw[if_neg hu,if_pos hl]
theorem QhE {aa:List QD}{i:Nat}{t:LI}{s:Sy}{v:Int}(h:Q5 v aa t=none):syE aa i t s v=some s:=by
 unfold syE;rw[h]
theorem Qph {s:Sy}{qs:List TV}{i:Nat}(hq:qs.map (·.2)=s.tup) (h:i<qs.length):UT s i=qs[i].2:=by
 unfold UT;rw[←hq];simp[List.getD,h]
theorem Vt.bd {aa:List QD}{t:LI}(h:Vt aa t) {m:Int}(hm:∀a∈aa,a.st≤m):∀x∈t,0≤x∧x<m:=by
 intro x hx;obtain ⟨i,hi,rfl⟩:=LB hx;have E:i<aa.length:=by rw[←h.1];exact hi
 have:=h.2 i hi E;have:=hm aa[i] (Le E);omega
set_option maxHeartbeats 20000000 in
theorem UQ {L:LN}{w:World}{vl:Value}{ps:List AV}{km:Int}(h:Xf L w.heap vl ps) (gk:Kb w km) (kf:0<km) (m3:∀p∈ps,p.a.st≤km) :
  QG prog 74 [vl] w λr w'=>Step [] w w'∧∃va vt c,r=.tuple #[va,vt,.int .i64 c]∧YA w.heap.size w'.heap (ps.map (·.a)) va vt c:=by
 refine QG.of_W func74 Z ntmps74 results74 (by simp) ?_;generalize U:ps.map (·.a)=aa;refine Qc<|xl Z<|Qu (us:=[nS,.int .i64 0,nS,nS]) Z λI w1 hP hB gl=>x Qe<|Qf ?_;have hl2:=gl.lt;refine Qg<|Qc<|Qb<|xl Z<|xf<|(jC (h.ext hP)).mono ?_;rintro r2 w2 ⟨rfl,hq⟩;refine Qf ?_;rw[U];refine Qc<|Qb<|x (Q8 Z Z)<|xe<|Q3 rfl (λhw=>?_) (λhw=>?_)
 ·refine Qc<|x (QN La)<|Qb<|xl Z<|Qn (us:=[nS,.int .i64 0,nS,nS]) (gl.ext hq) Z Z Z Z ⟨Z,Z,Z,Z,La⟩ λw3 m6 m7=>x Qe<|Qf<|Ql ⟨[zA,Zg,.int .i64 (JP aa)],⟨⟨_,Z,Qw Z (m7.at (L:=[]) (by simp)).cells⟩,rfl,rfl,La⟩,(hP.trans hq).then1 m6 hB,zA,Zg,JP aa,rfl,?_⟩;unfold YA;rw[if_pos hw];exact ⟨Z,Z,Z⟩
 have hck:JP aa=0:=Lo.1 hw;have hn:ps.length≤12:=by
  unfold JP at hck;split at hck
  ·cases hck
  rename_i h1;rw[←U] at h1;simp at h1;exact h1
 have hC:∀a∈aa,QM a:=by
  unfold JP at hck;split at hck
  ·cases hck
  exact (Jw aa).1 hck
 have hQ:∀p∈ps,QM p.a:=λp hp=>hC p.a (by rw[←U];exact LW hp);have m8:∀p∈ps,p.a.al.length≤32:=λp hp=>(hQ p hp).al_le;have m9:∀a∈aa,a.st≤km:=λa ha=>by rw[←U] at ha;obtain ⟨p,hp,rfl⟩:=Lq.1 ha;exact m3 p hp
 have hD:aa.length=ps.length:=by rw[←U];simp
 refine Qi<|Qc<|Qb<|xl Z<|xf<|(Qfh (L:=[I]) (((h.up (λb hb=>.inr (by simp at hb;omega))).ext hP).ext hq) hn m8 (λb hb=>by simp at hb;have:=hq.size;omega)).mono ?_;rintro r4 w4 ⟨gm,ve,vs,ms,rfl,kg,hm⟩;rw[U] at hm;have pa:=h.arr.one;have hel:=q5 aa (λa ha=>(hC a ha).al_le);have hevl:(evs aa).length≤1000:=by omega
 have hR:=Qs.ints (L:=[]) hm (by omega) (by simp);refine xl rfl<|Qu (us:=[nS,nS,nS]) Z λb6 w5 pc pd hE=>xl Z<|Qn (us:=[vl,ve,vs]) hE Z Z Z Z ⟨pa,hR.one,kg.sl.one,La⟩ λw6 pf hE=>xe ?_;have hS:Step [] w4 w6:=pc.then1 pf pd;have hz2:=hq.size;have hz4:=gm.size;have hl6:=hE.lt;refine Qc ?_;have pg:=((gl.ext hq).ext gm).ext hS
 refine x (Qa Z)<|x (Qd hE Z Z)<|x (Qa Z)<|xl Z<|QF pg Z Z (by simp) hR.one λw7 hF ph=>xe ?_;have hz7:=hF.size;have gn:Step [] w w7:=((((hP.trans hq).trans gm).trans hS).then1 hF hB);have kh:Vk [I] w7.heap vl ve vs ps ms:=(kg.ext hS).st hF;have ki:Qs 3 w2.heap.size w7 ve (evs aa):=Qk (Qt hm hS) hF (λb hb=>by have:=(Qq hm b hb).1;simp;omega)
 have kj:=hE.step hF (by simp;omega);refine Qc<|x (Qp kj Z Z)<|xl Z<|xf<|(Qed kh hn).mono ?_;rintro r8 w8 ⟨hk,hU⟩;have hz8:=hk.size;have gq:=ph.ext hk;have hV:(∃p∈ps,p.a.st=0)↔(∃a∈aa,a.st=0):=by
  rw[←U];constructor
  ·rintro ⟨p,hp,h0⟩;exact ⟨p.a,LW hp,h0⟩
  rintro ⟨a,ha,h0⟩;obtain ⟨p,hp,rfl⟩:=Lq.1 ha;exact ⟨p,hp,h0⟩
 by_cases hz:∃p∈ps,p.a.st=0
 ·rw[if_pos hz] at hU;subst hU;refine Qb<|x (Qj Z Z)<|x (Qj Z Z)<|x Qe<|Qf<|Qg<|Qc<|Qb<|x (Zs Z)<|xe<|yL Z ?_;refine Qc<|x (Qp gq Z Z)<|xl Z<|Qn (us:=[ve,.int .i64 0,nS,nS]) gq Z Z Z Z ⟨hR.one,Z,Z,Z,La⟩ λw9 kk pj=>x Qe<|Qf<|Ql ⟨[.agg #[ve,.int .i64 0,nS,nS],Zg,.int .i64 0],⟨⟨_,Z,Qw Z (pj.at (L:=[]) (by simp)).cells⟩,rfl,rfl,La⟩,(gn.trans hk).then1 kk hB,_,Zg,0,rfl,?_⟩
  unfold YA;rw[if_neg hw];unfold sync;rw[if_pos (hV.1 hz)];have pn:=Qk (Qt ki hk) kk (λb hb=>by have:=(Qq hm b hb).1;simp;omega);refine ⟨Z,⟨ve,_,_,Z,λL' hl=>⟨Qs.ints pn (by show (evs aa).length≤_;omega) (λb hb=>by have:=hl b hb;omega),ZA.nil _ _ _,ZA.nil _ _ _⟩⟩,[],Z,λL' hl=>⟨ZA.nil _ _ _,λp hp=>by cases hp⟩⟩
 rw[if_neg hz] at hU;obtain ⟨vf,rfl,gr⟩:=hU;have kn:=Qs.ints (L:=[]) gr (by simp;omega) (by simp);refine Qb<|x (Qj Z Z)<|x (Qj Z Z)<|x Qe<|Qf<|Qg<|Qc<|Qb<|x (Zs Z)<|xe<|YT rfl ?_;refine Qi<|Qc<|Qb<|xl Z<|QH (us:=[[vf]]) Z Z (by decide) (by simp) ⟨kn.cells,rfl,La⟩ λV w10 gs hb37 ko=>Qf ?_;have hl37:=ko.lt;refine Qc<|xl Z<|Ya Js λhg w11 hW hb38 kp=>?_;have hl38:=kp.lt
 refine Qb<|xl Z<|xf<|(Qa9 ((kn.ext gs).ext hW) (gk.ext ((gn.trans hk).trans (gs.trans hW))) (λn hn=>by have:=Nl hn;omega) (by simp;omega)).mono ?_;rintro r12 po ⟨rfl,hX⟩;have hz12:=hX.size;refine xl rfl<|Yz (k:=VF (List.replicate ps.length 0)) (kp.ext hX) Z Z λwS gt pp=>Qb<|Qf ?_;have hzS:=gt.size
 have pt:Step [] w8 po:=(gs.trans hW).trans hX;have h5:Step [] w8 wS:=pt.then1 gt (by omega);have hY:Step [] w wS:=(gn.trans hk).trans h5;have pu:∀b∈[I,hg,V],b∈[I]∨w8.heap.size≤b:=λb hb=>by
  simp only[List.mem_cons,List.not_mem_nil,or_false] at hb;rcases hb with rfl | rfl | rfl
  ·exact .inl (by simp)
  ·exact .inr (by omega)
  exact .inr (by omega)
 have gu:Vk [I,hg,V] wS.heap vl ve vs ps ms:=((kh.ext hk).up pu).ext h5;have gv:QT wS.heap b6 215 [vl,ve,vs]:=(kj.ext hk).ext h5;have pw:Qs 3 w2.heap.size wS ve (evs aa):=Qt (Qt ki hk) h5;have pz:=Q2 hm;have p0:=Qq gr;have hG:SyN w1.heap.size I hg V wS:=⟨by omega,by omega,by omega,by omega,by omega,by omega⟩
 have p4:SyI w1.heap.size I hg V ve wS (qG aa) (mput [] (VF (List.replicate ps.length 0)) (.int .i64 0)) [(vf,List.replicate ps.length 0)] (.slice (some ⟨V,0,none⟩) 1 1) Zg Zg wS:=by
  refine ⟨Step.refl _ _,gq.ext h5,pp,?_,λb hb=>by simp[ob] at hb;exact .inl hb,QP _ _ _ _,QP _ _ _ _,by simp[qG,hD],λp hp=>?_,λp hp b hb=>?_,Dj.nil' _,Dj.nil' _,Dj.nil' _⟩
  ·exact (((ko.ext hW).ext hX).step gt (by simp;omega)).own (n:=1) (sz:=1) Z (by omega) (by omega)
  ·simp only[List.mem_singleton] at hp;subst hp;exact Zi (Qt gr h5) (by omega)
  simp only[List.mem_singleton] at hp;subst hp;have:=p0 b hb;refine ⟨by omega,?_,by simp[ob,Zg],by simp[ob,Zg]⟩;simp[ob];omega
 have p5:qq ps.length (mput [] (VF (List.replicate ps.length 0)) (.int .i64 0)) (qG aa).tup:=by
  have kf:qq ps.length [] []:=λu _ _=>Z;have:=kf.add (u:=List.replicate ps.length 0) (by simp) (λx hx=>by have:=Nl hx;omega);simpa[qG,hD] using this
 have p6:qp aa (qG aa):=by
  refine ⟨λt ht=>?_,by simp[qG]⟩;simp only[qG,List.mem_singleton] at ht;subst ht;refine ⟨by simp,λi h1 h2=>?_⟩;have h3:=(hC aa[i] (Le h2)).st0;have h4:aa[i].st≠0:=λe=>hz (hV.2 ⟨aa[i],Le h2,e⟩);simp only[List.getElem_replicate];omega
 generalize hT:syL aa 4096 0 (qG aa)=T;have p7:∀s,T=some s→sync aa=some (⟨evs aa,s.tup.length,s.mk',s.ed⟩,s.tup):=λs hs=>by
  unfold sync;rw[if_neg (λe=>hz (hV.2 e)),hT,hs];rfl
 have p8:T=none→sync aa=none:=λhs=>by unfold sync;rw[if_neg (λe=>hz (hV.2 e)),hT,hs];rfl
 refine Qg<|Qc<|Qf ?_;have gx:b6∉[I,hg,V]:=by simp;omega
 refine Qh<|Qz (α:=Nat×Sy×List (ByteArray×Value)×List TV×Value×Value×Value) [(3,4),(10,10),(12,16),(42,111)] (λz=>[(3,z.2.2.2.2.1),(10,.int .i64 z.1)])
  (λz w'=>SyI w1.heap.size I hg V ve wS z.2.1 z.2.2.1 z.2.2.2.1 z.2.2.2.2.1 z.2.2.2.2.2.1 z.2.2.2.2.2.2 w'∧qp aa z.2.1∧qq ps.length z.2.2.1 z.2.1.tup∧z.1≤z.2.1.tup.length∧z.2.1.mk'.length≤z.1∧z.2.1.ed.length≤z.1*1000∧syL aa (4096 - z.1) z.1 z.2.1=T)
  (λz=>4096 - z.1) (by rfl) (0,qG aa,_,_,_,Zg,Zg) ⟨Z,Z,La⟩ ⟨p4,p6,p5,Ln _,Ln _,Ln _,hT⟩ ?_
 rintro ⟨i,s,m,qs,vt,vk,vd⟩ g hH ⟨H,hZ,kq,hi,p9,kr,gy⟩;simp only[] at H hZ kq hi p9 kr gy;have hle:=hZ.le;have qc:qs.length=s.tup.length:=by rw[←H.q];simp
 have kt:∀p∈qs,Vt aa p.2:=λp hp=>hZ.v p.2 (by rw[←H.q];exact LW hp);have ku:∀p∈qs,p.2.length≤12:=λp hp=>by have:=(kt p hp).1;omega
 have gz:=QX (L:=[]) H.t (by omega) (by simp);refine Qg<|Qc<|Qb<|Qb<|x (Qr gz Z)<|x (QA Z Z)<|xe<|QC rfl (λqo=>?_) (λqo=>?_)
 ·have qr:T=some s:=by rw[←gy,QhB (by omega)]
  refine Qy<|Qc<|Qb<|x (Qr gz Z)<|x (Qa Z)<|xl Z<|QF H.A Z Z (by simp) rfl λw15 q0 kv=>xe ?_;refine Qc ?_;have q4:=Qs.ints (L:=[]) H.k (by omega) (by simp);have q9:=Ye.eds (L:=[]) H.e (by omega) (by simp);refine x (Qp kv Z Z)<|Qb<|xl Z<|Qn (us:=[ve,.int .i64 qs.length,vk,vd]) kv Z Z Z Z ⟨hR.one,Z,q4.one,q9.one,La⟩ λg0 j1 j2=>x Qe<|Qf ?_
  have h6:Step [I] hH g0:=q0.trans' j1;have j3:Step [] w g0:=(hY.then H.st (λb hb=>.inr (by simp at hb;omega))).then1 h6 hB;refine Ql ⟨[.agg #[ve,.int .i64 qs.length,vk,vd],vt,.int .i64 0],⟨⟨_,Z,Qw Z (j2.at (L:=[]) (by simp)).cells⟩,rfl,rfl,La⟩,j3,_,vt,0,rfl,?_⟩;unfold YA;rw[if_neg hw,p7 s qr];have e1:(qs.length:Int)=s.tup.length:=by rw[qc]
  have k0:Qs 3 w2.heap.size g0 ve (evs aa):=Qk (Qk pw H.st (λb hb=>by have:=(Qq hm b hb).1;have:=pz b hb;simp;omega)) h6 (λb hb=>by have:=(Qq hm b hb).1;simp;omega);have k1:=Qk H.k h6 (λb hb=>by have:=(Qq H.k b hb).1;simp;omega);have k2:=Qk H.e h6 (λb hb=>by have:=(Qq H.e b hb).1;simp;omega);have k3:=Qk H.t h6 (λb hb=>by have:=(Qq H.t b hb).1;simp;omega)
  refine ⟨Z,⟨ve,vk,vd,by rw[e1],λL' hl=>⟨Qs.ints k0 (by show (evs aa).length≤_;omega) (λb hb=>by have:=hl b hb;omega),Qs.ints k1 (by show s.mk'.length≤_;omega) (λb hb=>by have:=hl b hb;omega),Ye.eds k2 (by show s.ed.length≤_;omega) (λb hb=>by have:=hl b hb;omega)⟩⟩,qs,H.q,λL' hl=>⟨?_,λp hp=>?_⟩⟩
  ·exact QX k3 (by omega) (λb hb j4=>by have:=(Qq H.t b hb).1;have:=hl b j4;omega)
  exact Qs.ints (Qk (H.el p hp) h6 (λb hb=>by have:=(Qq (H.el p hp) b hb).1;simp;omega)) (by have:=ku p hp;omega) (λb hb=>by have:=hl b hb;omega)
 have za:i<s.tup.length:=by omega
 have Y:i<qs.length:=by omega
 have kw:=Qph H.q Y;have h7:=kt (qs[i]'Y) (Le Y);obtain ⟨t,g1⟩:∃t,(qs[i]'Y).2=t:=⟨_,Z⟩;rw[g1] at kw h7;refine Qi ?_;have zb:(KP aa i t (evs aa) (ZB aa i t s)).bind (syL aa (4096 - (i+1)) (i+1))=T:=by
  rw[←gy];obtain ⟨f,hf⟩:∃f,4096 - i=f+1:=⟨4096 - i - 1,by omega⟩;rw[hf,syL,if_pos za,kw,show 4096 - (i+1)=f by omega]
 have zv:=gu.st H.st;have z0:Vk [] hH.heap vl ve vs ps ms:=zv.up (λ_ hb=>by cases hb);have z1:=gv.step H.st gx;have z2:QL [] hH.heap (qs[i]'Y).1 t:=by rw[←g1];exact Qs.ints (H.el (qs[i]'Y) (Le Y)) (by have:=ku (qs[i]'Y) (Le Y);omega) (by simp)
 refine Qg<|Qh<|QZ (α:=Value) [(48,59)] (λz=>[]) (λz w'=>SyI w1.heap.size I hg V ve wS (ZB aa i t s) m qs vt z vd w') (by rfl) ?_ ?_
 ·refine Qg<|QU (Step [] hH) [(0,true),(1,true),(2,true),(3,true),(4,true),(5,false)] mixed (by rfl) (by kernel_rfl) (Step.drew _ _) ?_;refine pq (λ_ hc=>Qp (z1.ext hc) Z Z)<|p (λ_=>Qm)<|p (λ_=>Qm)<|pig Z Qas gz Z Z Y λa51 z3 =>
   pq (λ_ hc=>Qv (z3.ext hc) Z)<|pk<|xf<|(QgK (z0.ext (Step.drew _ _)) (z2.ext (Step.drew _ _)) (by rw[h7.1,hD]) (λp hp=>(hQ p hp).mri) hn).mono ?_
  rintro r17 w17 ⟨rfl,z4⟩;have kx:=(Step.drew [] hH).trans z4;refine ⟨kx,?_⟩;refine pe ?_;have g2:=H.ext kx;refine QW Z (λhJ=>?_) (λhJ=>?_)
  rotate_left
  ·refine Qi<|⟨vk,La,?_⟩;rw[U] at hJ;unfold ZB;rw[if_neg (by rw[hJ];simp)];exact g2
  refine Qx<|x (Qa Z)<|x (Qd g2.A Z Z)<|Qb<|xl Z<|QH (us:=[[.int .i64 i]]) Z Z (by decide) (by simp) ⟨rfl,rfl,La⟩ λb57 w18 z5 hb57 z9=>?_;have hK:=g2.ext z5;refine xl Z<|Q6 (news:=[.int .i64 i]) (L:=[]) hK.k Z Z Z (z9.at (by simp)) (by simp[Value.oneCell']) (by omega) hK.st.size λkz w19 ho19 k4 hn19=>?_;have k5:Qs 3 wS.heap.size w19 kz (s.mk'++[(i:Int)]):=Qs.snoc ho19
  refine x (Qa Z)<|xl Z<|QF (hK.A.step k4 (QY hK.k (by omega))) Z Z (by simp) (Qs.ints (L:=[]) k5 (by simp;omega) (by simp)).one λw20 hs20 hB20=>xe ?_;refine ⟨kz,La,?_⟩;rw[U] at hJ;unfold ZB;rw[if_pos hJ];exact hK.setK hG k4 k5 hn19 hs20 hB20
 rintro ga g3 w21 k6;have hsk2:qp aa (ZB aa i t s):=jq hZ;have htup2:(ZB aa i t s).tup=s.tup:=by unfold ZB;split <;> rfl
 have hed2:(ZB aa i t s).ed=s.ed:=by unfold ZB;split <;> rfl
 have hmk2:(ZB aa i t s).mk'.length≤i+1:=by
  unfold ZB;split
  ·simp only[List.length_append,List.length_singleton];omega
  omega
 have k7:QL [I,hg,V] wS.heap ve (evs aa):=by have:=gu.ev;rw[U] at this;exact this
 refine Qc<|x (Qa Z)<|x (Qd (gv.step k6.st gx) Z Z)<|x (Qr k7 Z)<|Qb<|xe<|Qh<|Qz (α:=Nat×Sy×List (ByteArray×Value)×List TV×Value×Value) [(3,4),(12,16),(63,111)] (λz=>[(3,z.2.2.2.2.1),(63,.int .i64 z.1)])
  (λz w'=>SyI w1.heap.size I hg V ve wS z.2.1 z.2.2.1 z.2.2.2.1 z.2.2.2.2.1 ga z.2.2.2.2.2 w'∧qp aa z.2.1∧qq ps.length z.2.2.1 z.2.1.tup∧z.1≤(evs aa).length∧z.2.1.mk'=(ZB aa i t s).mk'∧z.2.1.ed.length≤i*1000+z.1 ∧
   (∃h:i<z.2.2.2.1.length,(z.2.2.2.1[i]'h).2=t)∧(KP aa i t ((evs aa).drop z.1) z.2.1).bind (syL aa (4096 - (i+1)) (i+1))=T)
  (λz=>(evs aa).length - z.1) (by rfl) (0,ZB aa i t s,m,qs,vt,vd) ⟨Z,Z,La⟩
  ⟨k6,hsk2,by rw[htup2];exact kq,Ln _,Z,by rw[hed2];simpa using kr,⟨Y,g1⟩,zb⟩ ?_
 rintro ⟨j,E,m4,hh,gb,gc⟩ g4 h8 ⟨J,hL,hr,hj,ge,k8,⟨ho,h9⟩,he⟩;simp only[] at J hL hr hj ge k8 he ho h9;have k9:hh.length=E.tup.length:=by rw[←J.q];simp
 have hle4:=hL.le;refine Qc<|x (QA Z Z)<|xe<|Qg<|QC Z (λh64=>?_) (λh64=>?_)
 ·rw[Lx (by omega),KP] at he;refine Qy<|Qx<|Qb<|QQ Z Z<|Qf<|⟨(i+1,E,m4,hh,gb,ga,gc),by simp only[];omega,⟨Z,Z,La⟩,J,hL,hr,by simp only[];omega,by simp only[];rw[ge];exact hmk2,by simp only[];omega,he⟩
 have gg:j<(evs aa).length:=by omega
 rw[Q7 gg,KP] at he;obtain ⟨v,ma⟩:∃v,(evs aa)[j]=v:=⟨_,Z⟩;rw[ma] at he;refine Qi<|Qg<|Qh<|Qc ?_;have hveI4:=k7.st J.st;refine xii hveI4 Z Z gg λa65 mc=>?_;rw[ma] at mc;refine x (Qv mc Z)<|Qf ?_;have hM22:=(gu.st J.st).up (L':=[]) (λ_ hb=>by cases hb);have hB622:=gv.step J.st gx;have htA4:=QX (L:=[]) J.t (by omega) (by simp)
 have htI4:QL [] h8.heap (hh[i]'ho).1 t:=by rw[←h9];exact Qs.ints (J.el (hh[i]'ho) (Le ho)) (by rw[h9,h7.1];omega) (by simp)
 refine Qg<|QU (Step [] h8) [(0,true),(1,true),(2,true),(3,true),(4,true),(5,true),(6,false),(7,true),(8,true),(9,true),(10,true),(11,true)] mixed (by rfl) (by kernel_rfl) (Step.drew _ _) ?_;refine pq (λ_ hc=>Qp (hB622.ext hc) Z Z)<|p (λ_=>Qm)<|p (λ_=>Qm)<|pig Z Qas htA4 Z Z ho λa71 h71 =>
  pq (λ_ hc=>Qv (h71.ext hc) Z)<|p (λ_=>Qm)<|pk<|xf<|(Qil (hM22.ext (Step.drew _ _)) (htI4.ext (Step.drew _ _)) (by rw[h7.1,hD]) (λp hp=>(hQ p hp).ali) (λp hp=>(hQ p hp).edi) hn _).mono ?_
 rintro r23 w23 ⟨hs23,hM⟩;rw[U] at hM;have mf:=(Step.drew [] h8).trans hs23;refine ⟨mf,?_⟩;have hN:=J.ext mf;have hz22:=J.st.size;rcases Qqt (Q5 v aa t) with hv | ⟨u,hv⟩
 ·rw[hv] at hM;subst hM;rw[QhE hv] at he;refine p (λ_=>Qm)<|p (λ_=>Qj Z Z)<|p (λ_=>Qj Z Z)<|p (λ_=>Qe)<|p (λ_=>Qe)<|pe ?_;refine Qg<|Qc<|Qb<|x (Zs Z)<|xe<|yL Z ?_;refine Qy<|Qx<|QQ Z Z<|Qb<|xe ?_;exact ⟨(j+1,E,m4,hh,gb,gc),by simp only[];omega,⟨Z,Z,La⟩,hN,hL,hr,gg,ge,by simp only[];omega,⟨ho,h9⟩,he⟩
 rw[hv] at hM;obtain ⟨vx,rfl,g5⟩:=hM;have mg:=XQ hC h7 hv;have mh:u.length=ps.length:=by rw[mg.1,hD]
 have g8:=mg.bd m9;have g9:∀x∈u,0≤x:=λx hx=>(g8 x hx).1;refine p (λ_=>Qm)<|p (λ_=>Qj Z Z)<|p (λ_=>Qj Z Z)<|p (λ_=>Qe)<|p (λ_=>Qe)<|pe ?_;refine Qg<|Qc<|Qb<|x (Zs Z)<|xe<|YT Z ?_;refine Qi ?_;have gh:=Qs.ints (L:=[]) g5 (by omega) (by simp);have mj:=Qq g5
 refine QZ (α:=Unit) [(15,16),(79,85)] (λz=>[(15,.int .i64 (if u∈E.tup then (E.tup.idxOf u:Int) else 0)),(16,.bool (decide (u∈E.tup)))]) (λz w'=>Step [] w23 w') (by rfl) ?_ ?_
 ·refine Qx<|Qb<|Qb<|xl Z<|xf<|(Qa9 gh (gk.ext (hY.then hN.st (λb hb=>.inr (by simp at hb;omega)))) g8 (by omega)).mono ?_;rintro r24 w24 ⟨rfl,gi⟩;by_cases hu:u∈E.tup
  ·refine x (jA (k:=VF u) ((hN.ext gi).M) Z Z (by rw[hr u mh g9,if_pos hu]))<|Qb<|x (Qj rfl rfl)<|x (Qj rfl rfl)<|x Qe<|Qf ?_;exact ⟨(),⟨congrArg (Value.int .i64) (if_pos hu).symm,congrArg Value.bool (decide_eq_true hu).symm,La⟩,gi⟩
  refine x (QgD (k:=VF u) ((hN.ext gi).M) Z Z (by rw[hr u mh g9,if_neg hu]))<|Qb<|x (Qj rfl rfl)<|x (Qj rfl rfl)<|x Qe<|Qf ?_;exact ⟨(),⟨congrArg (Value.int .i64) (if_neg hu).symm,congrArg Value.bool (decide_eq_false hu).symm,La⟩,gi⟩
 rintro _ g6 w25 ka;have hA:=hN.ext ka;have hx25:=Qt g5 ka;have hxA25:=gh.ext ka;have hadd:∀b∈ob vx,b∉ob gb∧b∉ob ga∧b∉ob gc:=λb hb=>by
  have h1:=(mj b hb).1;have h1':h8.heap.size≤b:=h1;exact ⟨λhb'=>by have:=Q2 J.t b hb';omega,λhb'=>by have:=Q2 J.k b hb';omega,λhb'=>by have:=Q2 J.e b hb';omega⟩
 refine QZ (α:=List (ByteArray×Value)×List TV×Value) [(3,4),(15,15),(86,101)] (λz=>[(3,z.2.2),(15,.int .i64 ((YH E u).tup.idxOf u:Int))])
  (λz w'=>SyI w1.heap.size I hg V ve wS (YH E u) z.1 z.2.1 z.2.2 ga gc w'∧(u∈E.tup∨E.tup.length≠4096)∧qq ps.length z.1 (YH E u).tup∧∃h:i<z.2.1.length,(z.2.1[i]'h).2=t) (by rfl) ?_ ?_
 ·refine Qc<|Qb<|x (Zs Z)<|xe<|QW Z (λkb=>?_) (λkb=>?_)
  rotate_left
  ·have hu:u∈E.tup:=by simpa using kb
   refine Qi ?_;have e1:YH E u=E:=by unfold YH;rw[if_pos hu]
   have e2:(if u∈E.tup then (E.tup.idxOf u:Int) else 0)=((YH E u).tup.idxOf u:Int):=by rw[e1,if_pos hu]
   refine ⟨(m4,hh,gb),⟨Z,congrArg (Value.int .i64) e2,La⟩,?_,.inl hu,?_,ho,h9⟩
   ·rw[e1];exact hA
   rw[e1];exact hr
  have hu:u∉E.tup:=by simpa using kb
  have mo:=QX (L:=[]) hA.t (by omega) (by simp);refine Qg<|Qc<|Qb<|x (Qr mo Z)<|x (Zr Z Z)<|xe<|Q3 Z (λh90=>?_) (λh90=>?_)
  ·refine Qc<|x (QN La)<|xl Z<|Qn (us:=[nS,.int .i64 0,nS,nS]) hA.A Z Z Z Z ⟨Z,Z,Z,Z,La⟩ λw26 gj hB26=>x Qe<|Qf<|Ql ⟨[zA,Zg,.int .i64 3],⟨⟨_,Z,Qw Z (hB26.at (L:=[]) (by simp)).cells⟩,rfl,rfl,La⟩,(hY.then hA.st (λb hb=>.inr (by simp at hb;omega))).then1 gj hB,zA,Zg,3,Z,?_⟩;unfold YA;rw[QhG hv hu (by omega)] at he;rw[if_neg hw,p8 he.symm];exact ⟨rfl,Z,Z⟩
  have hl4:E.tup.length≠4096:=by omega
  refine Qi<|Qc<|Qb<|x (Qr mo Z)<|Qf<|Qc<|Qb<|Qb<|xl Z<|xf<|(Qa9 hxA25 (gk.ext (hY.then hA.st (λb hb=>.inr (by simp at hb;omega)))) g8 (by omega)).mono ?_;rintro r26 w26 ⟨rfl,gj⟩;have mq:=hA.ext gj;refine Qb<|xl Z<|Y1 (k:=VF u) mq.M Z Z λw27 mt hm27=>xe ?_;have hI8:=mq.setM hG mt hm27
  have hx27:=Qk (Qt hx25 gj) mt (λb hb=>by have:=(mj b hb).1;have h1':h8.heap.size≤b:=this;simp;omega);refine Qx<|Qb<|Qb<|xl Z<|QH (us:=[[vx]]) Z Z (by decide) (by simp) ⟨gh.cells,rfl,La⟩ λb100 w28 mu hb100 hB100=>?_;have kc:=hI8.ext mu
  refine xl Z<|Q6 (news:=[vx]) (L:=[]) kc.t Z Z Z (hB100.at (by simp)) (λy hy=>by simp only[List.mem_singleton] at hy;subst hy;exact gh.one) (by omega) (by have:=kc.st.size;have:=hG.nS;omega) λmv w29 ho29 hs29 hn29=>Qf ?_;have hk29:Qez 39 w1.heap.size w29 mv (hh++[(vx,u)]):=Qez.snoc ho29
  have hIA:=kc.setT hG (u:=u) (Zi (Qt hx27 mu) (by show wS.heap.size≤h8.heap.size;omega)) hadd hs29 hk29 hn29;have e1:YH E u=⟨E.tup++[u],E.mk',E.ed⟩:=by unfold YH;rw[if_neg hu]
  have e2:(hh.length:Int)=((YH E u).tup.idxOf u:Int):=by
   rw[e1];simp only[];rw[Mj,if_neg hu,←k9];simp
  refine ⟨(mput m4 (VF u) (.int .i64 (hh.length:Int)),hh++[(vx,u)],mv),⟨Z,congrArg (Value.int .i64) e2,La⟩,?_,.inr hl4,?_,by simp;omega,?_⟩
  ·rw[e1];exact hIA
  ·rw[e1];simp only[];rw[k9];exact hr.add hu g9
  simp only[];rw[L7 ho];exact h9
 rintro ⟨m5,qs5,vt5⟩ g7 w30 ⟨ke,hlim,mw,mx,my⟩;simp only[] at ke mw mx my;have hed5:(YH E u).ed.length≤i*1000+j:=by rw[QhI];exact k8
 have mz:=QkP (aa:=aa) (i:=i) (s:=E) hv hlim;have hsk5:=QhF hC hL h7 mz;rw[mz] at he;refine Qx<|x (Qa Z)<|x (Qd ke.A Z Z)<|Qb<|Qb<|Qb<|x (QN ⟨Z,Z,Z,La⟩)<|xl Z<|QH (us:=[QB ((i:Int),v,((YH E u).tup.idxOf u:Int))]) Z Z (by decide) (by exact (by decide:1*3≤1000000)) ⟨Z,Z,La⟩ λb108 w31 hs31 hb108 hB108=>?_;have hO:=ke.ext hs31
 refine xl Z<|Q6 (news:=QB ((i:Int),v,((YH E u).tup.idxOf u:Int))) (L:=[]) hO.e Z Z Z (hB108.at (by simp)) (λy hy=>by simp only[QB,List.mem_cons,List.not_mem_nil,or_false] at hy;rcases hy with rfl | rfl | rfl <;> rfl) (by omega) hO.st.size λm0 w32 ho32 m1 hn32=>?_
 have m2:Ye 129 wS.heap.size w32 m0 ((YH E u).ed++[((i:Int),v,((YH E u).tup.idxOf u:Int))]):=Ye.snoc ho32;refine x (Qa Z)<|xl Z<|QF (hO.A.step m1 (QY hO.e (by omega))) Z Z (by simp) (Ye.eds (L:=[]) m2 (by simp;omega) (by simp)).one λw33 hs33 hB33=>xe ?_;have hI12:=hO.setE hG m1 m2 hn32 hs33 hB33;refine Qx<|QQ Z Z<|Qb<|xe ?_
 refine ⟨(j+1,_,m5,qs5,vt5,m0),by simp only[];omega,⟨Z,Z,La⟩,hI12,hsk5,mw,gg,?_,?_,⟨mx,my⟩,he⟩
 ·simp only[];rw[QhH];exact ge
 simp only[List.length_append,List.length_singleton];omega
structure V8 where
 en:LI
 dis:LI
 mk':Bool
 ps:Bool
def Qoq:V8:=⟨[],[],false,false⟩
def Qnk (l:LI) (v:Int):LI:=mrg (· || ·) l [v]
def QqB (p s:QD) (x y:Int) (c:V8) (v:Int):V8 :=
 match eget p.ed x v with
 | none=>c
 | some _=>match eget s.ed y v with
  | some _=>⟨Qnk c.en v,c.dis,c.mk',c.ps⟩
  | none=>⟨c.en,Qnk c.dis v,c.mk',c.ps⟩
def QqC (p s:QD) (x y:Int) (c:V8):V8:=⟨c.en,c.dis,decide (y∈s.mr),c.ps || decide (x∈p.mr)⟩
def QqA (p s:QD) (x y:Int) (c:V8):V8:=s.al.foldl (QqB p s x y) (QqC p s x y c)
def px (q:LI):Int:=q.getD 0 0
def py (q:LI):Int:=q.getD 1 0
def Qqz (p s:QD) (l:List V8) (q:LI):List V8:=l.set (py q).toNat (QqA p s (px q) (py q) (l.getD (py q).toNat Qoq))
def ctls (p s:QD) (pairs:List (LI)):List V8:=pairs.foldl (Qqz p s) (List.replicate s.st.toNat Qoq)
def occs (n:Nat) (pairs:List (LI)):List Bool:=pairs.foldl (λo q=>o.set (py q).toNat true) (List.replicate n false)
def meets (a b:LI):LI:=mrg (· && ·) a b
def QpL (a b:V8):Bool:=decide ((meets a.en b.dis).length+(meets b.en a.dis).length=0) && (!a.ps || !b.ps || a.mk' == b.mk')
def cget (l:LI) (i:Nat):Int:=l.getD i 0
def QiJ (cl:LI) (x y:Nat):LI:=cl.map λc=>if c=cget cl y then cget cl x else c
def lget (l:List V8) (i:Nat):V8:=l.getD i Qoq
def to0 (s:QD) (x:Nat) (v:Int):Int:=match eget s.ed x v with | some u=>u | none=>0
def clE (s:QD) (x y:Nat) (z:LI×Bool) (v:Int):LI×Bool :=
 if cget z.1 (to0 s x v).toNat≠cget z.1 (to0 s y v).toNat then (QiJ z.1 (to0 s x v).toNat (to0 s y v).toNat,true) else z
def clY (s:QD) (l:List V8) (x:Nat) (z:LI×Bool) (y:Nat):LI×Bool :=
 if cget z.1 x<0∨cget z.1 x≠cget z.1 y then z else (meets (lget l x).en (lget l y).en).foldl (clE s x y) z
def clX (s:QD) (l:List V8) (n:Nat) (z:LI×Bool) (x:Nat):LI×Bool:=(List.range' (x+1) (n - (x+1))).foldl (clY s l x) z
def pass (s:QD) (l:List V8) (cl:LI):LI×Bool:=(List.range' 0 cl.length).foldl (clX s l cl.length) (cl,false)
def QjW (s:QD) (l:List V8):Nat→LI→LI
 | 0,cl=>cl
 | f+1,cl=>if (pass s l cl).2=true then QjW s l f (pass s l cl).1 else (pass s l cl).1
def Qmr (l:List V8) (cl:LI):Bool :=
 (List.range' 0 cl.length).all λx=>(List.range' 0 x).all λy=>!(decide (0≤cget cl x∧cget cl x=cget cl y) && !QpL (lget l x) (lget l y))
def Qqi (s:QD) (l:List V8) (cl:LI) (x y:Nat):LI :=
 if cget cl x<0∨cget cl y<0∨cget cl x=cget cl y then cl else
  let d:=QjW s l (cl.length*cl.length+1) (QiJ cl x y)
  if Qmr l d=true then d else cl
def Qqh (s:QD) (l:List V8) (n:Nat) (cl:LI) (x:Nat):LI:=(List.range' (x+1) (n - (x+1))).foldl (λc y=>Qqi s l c x y) cl
def QqF (o:List Bool):LI:=(List.range' 0 o.length).map λi=>if o.getD i false=true then (i:Int) else -1
def QqE (s:QD) (l:List V8) (cl:LI):LI:=(List.range' 0 cl.length).foldl (Qqh s l cl.length) cl
def Qqv (z:LI×LI) (c:Int):LI×LI :=
 if c∈z.1 then (z.1,z.2++[(z.1.idxOf c:Int) - 1]) else (z.1++[c],z.2++[(z.1.length:Int) - 1])
def nums (cl:LI):LI:=(cl.foldl Qqv ([-1],[])).2
def QpO (p s:QD) (pairs:List (LI)):LI:=nums (QqE s (ctls p s pairs) (QqF (occs s.st.toNat pairs)))
end Go.Proofs.YtjcgijbhaemldaaGreatDoor
namespace Go.Lg
section
variable {P:Program} {n:Nat} {f:Fr} {w:World} {all:List Oper} {C:World→Prop} {K:Fr→World→Prop}
def yf (all:Array Oper) (i j:Nat) (p1 p2:List (Nat×Bool)):List (Nat×Bool)→Array Bool→Bool
 | [],ls=>Region.ready .any all ls == [i,j] && Y9 all p1 (ls.setIfInBounds i true) && Y9 all p2 (ls.setIfInBounds j true)
 | (k,q)::pl,ls=>q && (Region.ready .any all ls).contains k && Region.free .any all ls k && yf all i j p1 p2 pl (ls.setIfInBounds k true)
def Qjh (all:List Oper) (pl:List (Nat×Bool)) (i j:Nat) (p1 p2:List (Nat×Bool)):Bool :=
 Region.noSelect all.toArray && pl.length+1+p1.length == all.length && p1.length == p2.length && yf all.toArray i j p1 p2 pl (Array.replicate all.length false)
def Fk (P:Program) (all:List Oper) (C:World→Prop) (K:Fr→World→Prop) (i j:Nat) (p1 p2:List (Nat×Bool)) (f:Fr) (w:World):Prop :=
 (Yi all f (QK all i)=true∧XO P (QK all i) f w λE w'=>C w'∧XP P all C K p1 E w') ∧
 (Yi all f (QK all j)=true∧XO P (QK all j) f w λE w'=>C w'∧XP P all C K p2 E w')
theorem V2 {i j:Nat}{p1 p2:List (Nat×Bool)}(hl:p1.length=p2.length) (hs:Region.noSelect all.toArray=true):∀(pl:List (Nat×Bool)) (ls:Array Bool) (f:Fr) (w:World),ls.size=all.length→C w→yf all.toArray i j p1 p2 pl ls=true →
  XP P all C (Fk P all C K i j p1 p2) pl f w→XA P all C K (pl.length+(1+p1.length)) ls f w
 | [],ls,f,w,V,hC,hp,h=>by
  simp only[yf,Bool.and_eq_true,beq_iff_eq] at hp;obtain ⟨⟨H,h1⟩,h2⟩:=hp;simp only[XP] at h;rw[List.length_nil,LR,MP];refine Y7 (λh0=>(by rw[h0] at H;cases H)) ?_;rw[H];intro k hk o E;have I:(ls.setIfInBounds k true).size=all.length:=by simpa using V
  simp only[List.mem_cons,List.not_mem_nil,or_false] at hk;rcases hk with rfl | rfl
  ·have:=h.1;rw[Zd E] at this;rw[this.1,cond_true];exact this.2.mono λv w' hx=>⟨.inr (.inr hx.1),Zy hs p1 _ _ _ I (.inl hx.1) h1 hx.2⟩
  have:=h.2;rw[Zd E] at this;rw[this.1,cond_true,hl];exact this.2.mono λv w' hx=>⟨.inr (.inr hx.1),Zy hs p2 _ _ _ I (.inl hx.1) h2 hx.2⟩
 | (J,q)::pl,ls,f,w,V,hC,hp,h=>by
  simp only[yf,Bool.and_eq_true] at hp;obtain ⟨⟨⟨rfl,H⟩,hf⟩,ha⟩:=hp;simp only[XP] at h;have Y:J∈Region.ready .any all.toArray ls:=by simpa using H
  have e:(List.length ((J,true)::pl))+(1+p1.length)=(pl.length+(1+p1.length))+1:=by simp;omega
  rw[e];cases E:all[J]? with
  | none =>
   exfalso;obtain ⟨_,o,he,_⟩:=mem_ready.1 Y;simp[E] at he
  | some o =>
   rw[Zd E] at h;have hb:∀(j:Nat) (o:Oper) cs b,all[j]?=some o→o.op≠.select cs b:=λj o cs b hj=>Region.noSelect_spec hs j o cs b (by simpa using hj);have hc:=λj oj hj=>Region.free_spec (ops:=all.toArray) (md:=.any) (i:=J) (oi:=o) (listed:=ls) (by simpa using E) hf j oj (by simpa using hj);have I:(ls.setIfInBounds J true).size=all.length:=by simpa using V
   cases U:Yi all f o with
   | false =>
    rw[U] at h;exact XX (v:=undef) (D:=λw=>yV o=true→C w) E (λ_ h=>h) hb _ ls f w (λ_=>hC) hc Y (.inr ⟨U,Z⟩) (V2 hl hs pl _ _ _ I hC ha h)
   | true =>
    rw[U] at h;simp only[cond_true] at h;obtain ⟨v,hv,hx⟩:=h;exact XX (v:=v) (D:=λw=>yV o=true→C w) E (λ_ h=>h) hb _ ls f w (λ_=>hC) hc Y (.inl ⟨U,hv⟩) (V2 hl hs pl _ _ _ I hC ha hx)
theorem QmM {Q:Exit→Fr→World→Prop}{id:Nat}(C:World→Prop) (pl:List (Nat×Bool)) (i j:Nat) (p1 p2:List (Nat×Bool)) (hm:P.follows .mixedOrders=true) (E:Xs n all=true) (hp:Qjh all pl i j p1 p2=true)
  (hC:C { w with drawn:=w.drawn+1 }) (h:XP P all C (Fk P all C (λf w=>Q .normal f w) i j p1 p2) pl f { w with drawn:=w.drawn+1 }):W P n (.region id all.toArray true) Q f w:=by
 simp only[Qjh,Bool.and_eq_true,beq_iff_eq] at hp;obtain ⟨⟨⟨hs,hl⟩,H⟩,hp⟩:=hp;refine Xe C hm E ?_;have h1:=V2 H hs pl _ _ _ (by simp) hC hp h;rw[←Nat.add_assoc,hl] at h1;exact h1
end
end Go.Lg
namespace Go.Proofs.YtjcgijbhaemldaaGreatDoor
open Go.Lg
end Go.Proofs.YtjcgijbhaemldaaGreatDoor
namespace Go.Lg
open Go.Proofs.YtjcgijbhaemldaaGreatDoor
theorem Q9 {l:LI}{i:Nat}(h:i<l.length):l[i]=cget l i:=by simp[cget,List.getD,h]
section
variable {P:Program} {ops l:List Oper} {K:Fr→World→Prop} {f:Fr} {w:World} {d:Option Nat} {ty:Nat} {ps:String} {af:Array Edge} {gd:Option (Nat×Bool)} {C:World→Prop} {pl:List (Nat×Bool)} {i0:Nat}
theorem xic {x y:Operand}{t e bys:Nat}{z:Value}[Sl P t e 1 bys z] {L:LN}{li:LI}{v:Value}{k:IntKind}{i:Nat}
  (h:QL L w.heap v li) (E:ev f x=v) (hy:ev f y=.int k i) (hi:i<li.length)
  (H:∀a,At L w.heap a [.int .i64 (cget li i)]→XL P ops K l (QV f d (.pointer (some a))) w) (I:Yi ops f ⟨d,.indexAddr t x y,ty,ps,af,gd⟩=true:=by rfl) :
  XL P ops K (⟨d,.indexAddr t x y,ty,ps,af,gd⟩::l) f w :=
 xii h E hy hi (λa ha=>H a (by rw[←Q9 hi];exact ha)) I
theorem pic {x y:Operand}{t e bys:Nat}{z:Value}[Sl P t e 1 bys z] {L:LN}{li:LI}{v:Value}{H:Array Obj}{k:IntKind}{i:Nat}
  (E:QK ops i0=⟨d,.indexAddr t x y,ty,ps,af,gd⟩) (h:QL L H v li) (I:ev f x=v) (hy:ev f y=.int k i) (hi:i<li.length)
  (J:∀a,At L H a [.int .i64 (cget li i)]→XP P ops C K pl (QV f d (.pointer (some a))) w) (U:Yi ops f (QK ops i0)=true:=by rfl):XP P ops C K ((i0,true)::pl) f w :=
 pii E h I hy hi (λa ha=>J a (by rw[←Q9 hi];exact ha)) U
theorem jE {t:Nat}[h1:X7 P t] {x y:Operand}{base e g cap i:Nat}{li:LI}{v:Value}{u:Int}(h:Qs e base w v li) (E:v=.slice (some ⟨g,0,none⟩) li.length cap) (hx:ev f x=.pointer (some ⟨g,0+i*1,none⟩)) (hy:ev f y=.int .i64 u) (hi:i<li.length)
  (H:∀w',Step (ob v) w w'→Qs e base w' v (li.set i u)→K (QV f d undef) w'):XO P ⟨d,.store t x y,ty,ps,af,gd⟩ f w K:=by
 have h':=h;unfold Qs at h';rw[E] at h';refine Qci h' hx hy hi Z λw' hs I=>H w' (by rw[E];exact hs) ?_;unfold Qs;rw[MS,Nu,E];exact I
end
theorem Qh6 {a n:Nat}(h:a<n):List.range' a (n - a)=a::List.range' (a+1) (n - (a+1)):=by
 rw[show n - a=(n - (a+1))+1 by omega,Nd]
theorem Qlb {a n:Nat}(h:n≤a):List.range' a (n - a)=[]:=by rw[show n - a=0 by omega];rfl
end Go.Lg
namespace Go.Proofs.YtjcgijbhaemldaaGreatDoor
open Go.Lg
end Go.Proofs.YtjcgijbhaemldaaGreatDoor
namespace Go.Lg
section
variable {P:Program} {f:Fr} {w:World} {d:Option Nat} {ty:Nat} {ps:String} {af:Array Edge} {gd:Option (Nat×Bool)} {κ:Type} [DecidableEq κ]
end
end Go.Lg
namespace Go.Proofs.YtjcgijbhaemldaaGreatDoor
open Go.Lg
theorem QeW {aa:List QD}{i:Nat}{t:LI}(H:∀a∈aa,QM a) (ht:Vt aa t):∀(vs:LI) (s E:Sy),qp aa s→KP aa i t vs s=some E→qp aa E
 | [],s,E,h,e=>by cases e;exact h
 | v::vs,s,E,h,e=>by
  rw[KP] at e;obtain ⟨I,h1,h2⟩:=L6.1 e;exact QeW H ht vs I E (QhF H h ht h1) h2
theorem Qhz {aa:List QD}(H:∀a∈aa,QM a):∀(f i:Nat) (s E:Sy),qp aa s→syL aa f i s=some E→qp aa E
 | 0,i,s,E,h,e=>by cases e;exact h
 | f+1,i,s,E,h,e=>by
  rw[syL] at e;split at e
  ·rename_i hi;obtain ⟨I,h1,h2⟩:=L6.1 e;have J:Vt aa (UT s i):=h.v _ (by unfold UT;simp[List.getD,hi]);exact Qhz H f _ I E (QeW H J _ _ _ (jq h) h1) h2
  cases e;exact h
theorem Qns {aa:List QD}(E:∀a∈aa,QM a) (H:¬∃a∈aa,a.st=0):qp aa (qG aa):=by
 refine ⟨λt ht=>?_,by simp[qG]⟩;simp only[qG,List.mem_singleton] at ht;subst ht;refine ⟨by simp,λi h1 h2=>?_⟩;have h3:=(E aa[i] (Le h2)).st0;have h4:aa[i].st≠0:=λe=>H ⟨aa[i],Le h2,e⟩;simp only[List.getElem_replicate];omega
theorem Qau {aa:List QD}(E:∀a∈aa,QM a) {z:QD×List (LI)}(h:sync aa=some z):(∀t∈z.2,Vt aa t)∧z.2.length≤4096:=by
 unfold sync at h;split at h
 ·cases h;simp
 rename_i H;obtain ⟨s,h1,rfl⟩:=LP.1 h;have:=Qhz E _ _ _ _ (Qns E H) h1;exact ⟨this.v,this.le⟩
def opC (p s:QD):Int:=if XM p≠0 then XM p else if XM s≠0 then XM s else if mrg (λp q=>p && !q) s.al p.al=[] then 0 else 9
def opE (p s:QD):Int:=if opC p s≠0 then opC p s else match sync [p,s] with | none=>3 | some _=>0
def opQ (p s:QD):List (LI):=match sync [p,s] with | none=>[] | some z=>z.2
def Qpx (l:LI):Int:=(l.drop 1).foldl max (cget l 0)
theorem US {N b:Nat}{w w':World}{v:Value}{a:QD}(h:JY N w.heap v a) (hb:b<N) (hs:Step [b] w w'):JY N w'.heap v a:=by
 obtain ⟨va,vm,ve,h1,h2⟩:=h;refine ⟨va,vm,ve,h1,λL E=>?_⟩;exact ((h2 (b::L) (λc hc=>by rcases Lh.1 hc with rfl | hc;exact hb;exact E c hc)).st (hs.mono (by simp))).up (λc hc=>.inl (Lk _ hc))
theorem Qkm {N b:Nat}{w w':World}{v:Value}{l:List (LI)}(h:QeA N w.heap v l) (hb:b<N) (hs:Step [b] w w'):QeA N w'.heap v l:=by
 obtain ⟨ps,h1,h2⟩:=h;refine ⟨ps,h1,λL E=>?_⟩;exact ((h2 (b::L) (λc hc=>by rcases Lh.1 hc with rfl | hc;exact hb;exact E c hc)).st (hs.mono (by simp))).up (λc hc=>.inl (Lk _ hc))
theorem V6 {N:Nat}{H:Array Obj}{v:Value}{a:QD}(h:JY N H v a):∃us,v=.agg us.toArray∧us.length=4∧ZP us:=by
 obtain ⟨va,vm,ve,h1,h2⟩:=h;have:=h2 [] (by simp);exact ⟨[va,.int .i64 a.st,vm,ve],h1,Z,this.al.one,Z,this.mr.one,this.ed.one,La⟩
def gget:List ((Int×Int)×Int)→Int×Int→Option Int
 | [],_=>none
 | (k',v)::m,k=>if k'=k then some v else gget m k
def gput:List ((Int×Int)×Int)→Int×Int→Int→List ((Int×Int)×Int)
 | [],k,v=>[(k,v)]
 | (k',v')::m,k,v=>if k'=k then (k',v)::m else (k',v')::gput m k v
def Qqn (s:QD) (cls:LI) (x:Nat) (m:List ((Int×Int)×Int)) (v:Int):List ((Int×Int)×Int):=gput m (cget cls x,v) (cget cls (to0 s x v).toNat)
def Qqk (s:QD) (l:List V8) (cls:LI) (z:LI×List ((Int×Int)×Int)) (x:Nat):LI×List ((Int×Int)×Int) :=
 if cget cls x<0 then z else (if ((lget l x).mk' && (lget l x).ps)=true then Qnk z.1 (cget cls x) else z.1,(lget l x).en.foldl (Qqn s cls x) z.2)
def Qpk (s:QD) (l:List V8) (cls:LI):LI×List ((Int×Int)×Int):=(List.range' 0 cls.length).foldl (Qqk s l cls) ([],[])
def Qqm (m:List ((Int×Int)×Int)) (c:Nat) (v:Int):Option Ed:=(gget m ((c:Int),v)).map λt=>((c:Int),v,t)
def Qql (m:List ((Int×Int)×Int)) (al:LI) (n:Nat):List Ed:=(List.range' 0 n).flatMap λc=>al.filterMap (Qqm m c)
def Qqo (s:QD) (l:List V8) (cls:LI):QD:=⟨s.al,Qpx cls+1,(Qpk s l cls).1,Qql (Qpk s l cls).2 s.al (Qpx cls+1).toNat⟩
def red (p s:QD):QD:=Qqo s (ctls p s (opQ p s)) (QpO p s (opQ p s))
def rdE (p s:QD):Int:=if opE p s≠0 then opE p s else if opQ p s=[] then 0 else XM (red p s)
theorem Jy {l:LI}{i:Nat}(h:i<l.length):cget l i∈l:=by rw[←Q9 h];exact Le h
theorem Zh {α:Type}(a:α) {Q:Prop}(h:∀b,a=b→Q):Q:=h a Z
theorem exN {a:Int}(E:0≤a) {Q:Prop}(h:∀u:Nat,a=u→Q):Q:=h a.toNat (Int.toNat_of_nonneg E).symm
open Go.Proofs.Tryz
theorem jp {L L':LN}{w:World}{v v':Value}{l l':LI}(h:QL L w.heap v l) (h':QL L' w.heap v' l') :
  QG prog 28 [v,v'] w λr w'=>r=.bool (decide (l=l'))∧Step [] w w':=by
 refine QG.of_W func28 Z ntmps28 results28 (by simp) ?_;refine Qc<|Qf<|Qc<|Qb<|Qb<|xl Z<|xf<|(Vy h h').mono ?_;rintro H I ⟨rfl,E⟩;refine Qf ?_;exact Ql ⟨[.bool (decide (l=l'))],Lb,Z,E⟩
end Go.Proofs.YtjcgijbhaemldaaGreatDoor
namespace Go.Lg
section
variable {P:Program} {n:Nat} {f:Fr} {w:World} {d:Option Nat} {ty:Nat} {ps:String} {af:Array Edge} {gd:Option (Nat×Bool)}
class Ay (P:Program) (t:Nat) (m e sz:outParam Nat):Prop where
 u:P.underlying t=some (.array m e)
 i:(P.info? e).map (·.size)=some sz
theorem Xi {x y:Operand}{t m e sz:Nat}[h:Ay P t m e sz] {b o:Nat}{k:IntKind}{i:Nat}(hx:ev f x=.pointer (some ⟨b,o,none⟩)) (hy:ev f y=.int k i) (h1:i<m) :
  (execOp (ev f) ⟨d,.indexAddr t x y,ty,ps,af,gd⟩).run P w=.ok (.value (.pointer (some ⟨b,o+i*sz,none⟩))) w:=by
 have hi:=h.i;cases E:P.info? e with
 | none=>simp[E] at hi
 | some ii =>
  simp[E] at hi;simp[execOp,hx,hy,Instr.indexAt,asIntOf,run_underlying h.u,Instr.sureAddr,sizeOf,typeInfo,E,hi,YM];intro h2;omega
theorem QmH {a b:Nat}(ha:a<256):inK .u8 ((a &&& b:Nat):Int):=by
 have:a &&& b≤a:=Nat.and_le_left;exact ⟨by omega,by omega⟩
theorem QdS {t E:Nat}{x y:Operand}{a b:Nat}(hx:ev f x=.int .u8 a) (hy:ev f y=.int .u8 b) (ha:a<256) (hb:b<256) :
  (execOp (ev f) ⟨d,.binOp .and t x y E,ty,ps,af,gd⟩).run P w=.ok (.value (.int .u8 ((a &&& b:Nat):Int))) w:=by
 refine X4 hx hy ?_;simp only[binOp,Op.intBits,BitVec.ofInt_natCast,ne_eq,not_true_eq_false,if_false,Sem.run_pure];rw[BitVec.toNat_and,BitVec.toNat_ofNat,BitVec.toNat_ofNat,MA (show a<2 ^ IntKind.u8.bits from ha),MA (show b<2 ^ IntKind.u8.bits from hb),XC (QmH ha)]
theorem qP (m i:Nat):((m:Int) / 2 ^ i)=((m / 2 ^ i:Nat):Int):=by rw[Int.natCast_ediv,Int.natCast_pow];rfl
end
inductive Pt where
 | pl (l:List (Nat×Bool))
 | fk (pre:List (Nat×Bool)) (i j:Nat) (t1 t2:Pt)
def Pt.len:Pt→Nat
 | .pl l=>l.length
 | .fk pre _ _ t1 _=>pre.length+(1+t1.len)
def XI (all:Array Oper):List (Nat×Bool)→Array Bool→Bool
 | [],_=>true
 | (k,q)::pl,ls=>q && (Region.ready .any all ls).contains k && Region.free .any all ls k && XI all pl (ls.setIfInBounds k true)
def Zu:List (Nat×Bool)→Array Bool→Array Bool
 | [],ls=>ls
 | (k,_)::pl,ls=>Zu pl (ls.setIfInBounds k true)
def Qik (all:Array Oper):Pt→Array Bool→Bool
 | .pl l,ls=>Y9 all l ls
 | .fk pre i j t1 t2,ls=>XI all pre ls && Region.ready .any all (Zu pre ls) == [i,j] && t1.len == t2.len && Qik all t1 ((Zu pre ls).setIfInBounds i true) && Qik all t2 ((Zu pre ls).setIfInBounds j true)
def XT (P:Program) (all:List Oper) (C:World→Prop) (K:Fr→World→Prop):Pt→Fr→World→Prop
 | .pl l=>XP P all C K l
 | .fk pre i j t1 t2=>XP P all C (λf w=>(Yi all f (QK all i)=true∧XO P (QK all i) f w λE w'=>C w'∧XT P all C K t1 E w') ∧
   (Yi all f (QK all j)=true∧XO P (QK all j) f w λE w'=>C w'∧XT P all C K t2 E w')) pre
section
variable {P:Program} {n:Nat} {f:Fr} {w:World} {all:List Oper} {C:World→Prop} {K B:Fr→World→Prop}
theorem ZQ:∀(pl:List (Nat×Bool)) (ls:Array Bool),(Zu pl ls).size=ls.size
 | [],_=>rfl
 | (k,q)::pl,ls=>by rw[Zu,ZQ];simp
theorem ZR {m:Nat}(hs:Region.noSelect all.toArray=true):∀(pl:List (Nat×Bool)) (ls:Array Bool) (f:Fr) (w:World),C w→XI all.toArray pl ls=true →
  (∀f,B f w→XA P all C K m (Zu pl ls) f w)→XP P all C B pl f w→XA P all C K (pl.length+m) ls f w
 | [],ls,f,w,hC,hp,H,h=>by
  simp only[XP] at h;rw[List.length_nil,LR];exact H f h
 | (I,q)::pl,ls,f,w,hC,hp,H,h=>by
  simp only[XI,Bool.and_eq_true] at hp;obtain ⟨⟨⟨rfl,hr⟩,hf⟩,V⟩:=hp;simp only[XP] at h;have U:I∈Region.ready .any all.toArray ls:=by simpa using hr
  have e:(List.length ((I,true)::pl))+m=(pl.length+m)+1:=by simp;omega
  rw[e];cases E:all[I]? with
  | none =>
   exfalso;obtain ⟨_,o,hb,_⟩:=mem_ready.1 U;simp[E] at hb
  | some o =>
   rw[Zd E] at h;have Y:∀(j:Nat) (o:Oper) cs b,all[j]?=some o→o.op≠.select cs b:=λj o cs b hj=>Region.noSelect_spec hs j o cs b (by simpa using hj);have ha:=λj oj hj=>Region.free_spec (ops:=all.toArray) (md:=.any) (i:=I) (oi:=o) (listed:=ls) (by simpa using E) hf j oj (by simpa using hj);cases J:Yi all f o with
   | false =>
    rw[J] at h;exact XX (v:=undef) (D:=λw=>yV o=true→C w) E (λ_ h=>h) Y _ ls f w (λ_=>hC) ha U (.inr ⟨J,Z⟩) (ZR hs pl _ _ _ hC V H h)
   | true =>
    rw[J] at h;simp only[cond_true] at h;obtain ⟨v,hv,hx⟩:=h;exact XX (v:=v) (D:=λw=>yV o=true→C w) E (λ_ h=>h) Y _ ls f w (λ_=>hC) ha U (.inl ⟨J,hv⟩) (ZR hs pl _ _ _ hC V H hx)
theorem V1 (hs:Region.noSelect all.toArray=true):∀(t:Pt) (ls:Array Bool) (f:Fr) (w:World),ls.size=all.length→C w→Qik all.toArray t ls=true→XT P all C K t f w→XA P all C K t.len ls f w
 | .pl l,ls,f,w,E,hC,hp,h=>Zy hs l ls f w E (.inl hC) hp h
 | .fk pre i j t1 t2,ls,f,w,E,hC,hp,h=>by
  simp only[Qik,Bool.and_eq_true,beq_iff_eq] at hp;obtain ⟨⟨⟨⟨hq,H⟩,hl⟩,h1⟩,h2⟩:=hp;rw[Pt.len];refine ZR (B:=λf w=>(Yi all f (QK all i)=true∧XO P (QK all i) f w λI w'=>C w'∧XT P all C K t1 I w') ∧
   (Yi all f (QK all j)=true∧XO P (QK all j) f w λI w'=>C w'∧XT P all C K t2 I w')) hs pre ls f w hC hq (λf J=>?_) h
  have U:∀k,((Zu pre ls).setIfInBounds k true).size=all.length:=λk=>by simp[ZQ,E]
  rw[MP 1];refine Y7 (λY=>(by rw[Y] at H;cases H)) ?_;rw[H];intro k hk o V;simp only[List.mem_cons,List.not_mem_nil,or_false] at hk;rcases hk with rfl | rfl
  ·have:=J.1;rw[Zd V] at this;rw[this.1,cond_true];exact this.2.mono λv w' hx=>⟨.inr (.inr hx.1),V1 hs t1 _ _ _ (U _) hx.1 h1 hx.2⟩
  have:=J.2;rw[Zd V] at this;rw[this.1,cond_true,hl];exact this.2.mono λv w' hx=>⟨.inr (.inr hx.1),V1 hs t2 _ _ _ (U _) hx.1 h2 hx.2⟩
end
end Go.Lg
namespace Go.Proofs.YtjcgijbhaemldaaGreatDoor
open Go.Lg
theorem Z8.lt_of {a:Int}{l:LI}(h:Z8 (a::l)) {x:Int}(hx:x∈l):a<x:=(L3.1 h).1 x hx
theorem Z8.tail {a:Int}{l:LI}(h:Z8 (a::l)):Z8 l:=(L3.1 h).2
theorem Qlu (keep:Bool→Bool→Bool):∀(n:Nat) (a b:LI),a.length+b.length≤n→Z8 a→Z8 b→∀x,x∈mrg keep a b↔(x∈a∨x∈b)∧keep (decide (x∈a)) (decide (x∈b))=true:=by
 intro n;induction n with
 | zero =>
  intro a b h _ _ x;have ha:a=[]:=Lt (by omega);have hb:b=[]:=Lt (by omega);subst ha hb;simp[Kk]
 | succ n ih =>
  intro a b E ia ib x;cases a with
  | nil =>
   cases b with
   | nil=>simp[Kk]
   | cons y b =>
    rw[J5 keep (by simp)];have:=ih [] b (by simp at E ⊢;omega) ia ib.tail x;have hy:y∉b:=λh=>by have:=ib.lt_of h;omega
    simp only[Jg,tl,hx,cond_true,cond_false,List.tail_cons,List.headD_cons,List.mem_append];rw[this];by_cases e:x=y
    ·subst e;cases hk:keep false true <;> simp[hk,hy]
    cases keep false true <;> simp[e]
  | cons u a =>
   cases b with
   | nil =>
    rw[J5 keep (by simp)];have:=ih a [] (by simp at E ⊢;omega) ia.tail ib x;have hy:u∉a:=λh=>by have:=ia.lt_of h;omega
    simp only[Jg,tl,hx,cond_true,cond_false,List.tail_cons,List.headD_cons,List.mem_append];rw[this];by_cases e:x=u
    ·subst e;cases hk:keep true false <;> simp[hk,hy]
    cases keep true false <;> simp[e]
   | cons y b =>
    rw[J5 keep (by simp)];have hu:u∉a:=λh=>by have:=ia.lt_of h;omega
    have hy:y∉b:=λh=>by have:=ib.lt_of h;omega
    rcases Int.lt_trichotomy u y with h1 | h1 | h1
    ·have H:u∉y::b:=λh=>by
      rcases Lh.1 h with h | h
      ·omega
      have:=ib.lt_of h;omega
     have:=ih a (y::b) (by simp at E ⊢;omega) ia.tail ib x;have e1:decide (u≤y)=true:=decide_eq_true (by omega);have e2:decide (y≤u)=false:=decide_eq_false (by omega);simp only[Jg,tl,hx,e1,e2,cond_true,cond_false,List.tail_cons,List.headD_cons,List.mem_append];rw[this];by_cases e:x=u
     ·subst e;cases hk:keep true false <;> simp[hk,hu,H]
     cases keep true false <;> simp[e]
    ·subst h1;have:=ih a b (by simp at E ⊢;omega) ia.tail ib.tail x;have e1:decide (u≤u)=true:=decide_eq_true (by omega);simp only[Jg,tl,hx,e1,cond_true,List.tail_cons,List.headD_cons,List.mem_append];rw[this];by_cases e:x=u
     ·subst e;cases hk:keep true true <;> simp[hk,hu,hy]
     cases keep true true <;> simp[e]
    have H:y∉u::a:=λh=>by
     rcases Lh.1 h with h | h
     ·omega
     have:=ia.lt_of h;omega
    have:=ih (u::a) b (by simp at E ⊢;omega) ia ib.tail x;have e1:decide (u≤y)=false:=decide_eq_false (by omega);have e2:decide (y≤u)=true:=decide_eq_true (by omega);simp only[Jg,tl,hx,e1,e2,cond_true,cond_false,List.tail_cons,List.headD_cons,List.mem_append];rw[this];by_cases e:x=y
    ·subst e;cases hk:keep false true <;> simp[hk,hy,H]
    cases keep false true <;> simp[e]
theorem Kl {keep:Bool→Bool→Bool}{a b:LI}(ia:Z8 a) (ib:Z8 b) (x:Int):x∈mrg keep a b↔(x∈a∨x∈b)∧keep (decide (x∈a)) (decide (x∈b))=true :=
 Qlu keep _ a b (Lv _) ia ib x
def setK (m k:Nat):LI:=((List.range' 0 k).filter λi=>decide (((m / 2 ^ i) &&& 1)=1)).map λi:Nat=>(i:Int)
theorem U1 (m k:Nat):setK m (k+1)=if (m / 2 ^ k) &&& 1=1 then setK m k++[(k:Int)] else setK m k:=by
 unfold setK;rw[Mi,Mb,Ly,LR];by_cases h:(m / 2 ^ k) &&& 1=1
 ·rw[if_pos h,Ml,if_pos (decide_eq_true h)];rfl
 rw[if_neg h,Ml,if_neg (by rw[decide_eq_false h];simp),Nj,List.map_nil,LS]
theorem Jq (m:Nat):∀k,(setK m k).length≤k
 | 0=>by simp[setK]
 | k+1=>by
  have:=Jq m k;rw[U1];split
  ·simp;omega
  omega
theorem J1 (m k:Nat):Z8 (setK m k):=by
 unfold setK Z8;rw[ME];refine List.Pairwise.sublist Np ?_;exact (Na (s:=0) (n:=k)).imp (λh=>by omega)
end Go.Proofs.YtjcgijbhaemldaaGreatDoor
namespace Go.Lg
section
variable {P:Program} {f:Fr} {w:World} {K:Fr→World→Prop} {d:Option Nat} {ty:Nat} {ps:String} {af:Array Edge} {gd:Option (Nat×Bool)}
theorem qH {t ty e sz bys:Nat}{z:Value}[h:Sl P t e sz bys z] {base:Nat}{v:Value}{n:Nat}{cs:LV}(E:w.ownsRow base e sz v n cs) :
  (Builtin.append_ #[t,t] ty #[v,nS]).run P w=.ok v w:=by
 obtain ⟨i,hi,_,I,_⟩:=Sl.info h;rcases E.2 with ⟨rfl,rfl⟩ | ⟨g,cap,cur,rfl,J,U,H,V,Y,ha⟩
 ·simp[Builtin.append_,run_underlying h.u,sizeOf,typeInfo,hi,Builtin.lenOf,Builtin.firstCells]
 simp[Builtin.append_,run_underlying h.u,sizeOf,typeInfo,hi,Builtin.lenOf,Builtin.firstCells,H,storeCells]
theorem Qiq {t e sz bys:Nat}{z:Value}[h:Sl P t e sz bys z] {s y:Operand}{base:Nat}{v:Value}{n:Nat}{cs:LV}(E:w.ownsRow base e sz v n cs) (hs:ev f s=v)
  {I:Value} {m:Nat} {news:LV} {L:LN} (H:ZA L w.heap I m sz news) (hy:ev f y=I) (h1:∀u∈news,u.oneCell'=true)
  (hb:n+m≤1099511627776) (U:base≤w.heap.size)
  (J:∀v' w',w'.ownsRow base e sz v' (n+m) (cs++news)→Step (ob v) w w'→(∀b∈ob v',b∈ob v∨w.heap.size≤b)→K (QV f d v') w') (V:bys≤128:=by decide) :
  XO P ⟨d,.call ⟨.builtin .append,#[s,y],#[t,t]⟩,ty,ps,af,gd⟩ f w K:=by
 rcases H.2.2 with ⟨e1,e2⟩ | ⟨a,c,e1,_,e3⟩
 ·subst e2;have Y:news=[]:=Lt (by have:=H.1;simpa using this);subst Y;have ha:(execOp (ev f) ⟨d,.call ⟨.builtin .append,#[s,y],#[t,t]⟩,ty,ps,af,gd⟩).run P w=.ok (.value v) w:=by
   simp[execOp,resolve,invoke,builtin,hs,hy,e1,qH (ty:=ty) E]
  exact xv ha (J v w (by simpa using E) (Step.refl _ _) (λb hb=>.inl hb))
 exact Q6 E hs (hy.trans e1) H.1 e3 h1 hb U J V
end
end Go.Lg
namespace Go.Proofs.YtjcgijbhaemldaaGreatDoor
open Go.Proofs.Tryz
open Go.Lg
theorem QfN {L:LN}{w:World}{v:Value}{l:LI}(h:QL L w.heap v l) (x:Int) :
  QG prog 126 [v,.int .i64 x] w λr w'=>r=.bool (decide (x∈l))∧w'=w:=by
 have U:=h.le;refine QG.of_W func126 Z ntmps126 results126 (by simp) ?_;refine Qc<|Lg.Qf<|Qg<|Qc<|Lg.Qf<|Qh<|Qz (α:=Nat) [(4,17)] (λk=>[(5,.int .i64 k)]) (λk w'=>w'=w∧k≤l.length∧(x∈l↔x∈l.drop k)) (λk=>l.length - k) (by rfl) 0 Lb ⟨Z,Ln _,by simp⟩ ?_;rintro k g w' ⟨rfl,hk,hm⟩;refine Qg<|Qc<|Lg.Qb<|Lg.Qb<|Lg.x (Qr h Z)<|Lg.x (QA Z Z)<|xe<|QC rfl (λh9=>?_) (λh9=>?_)
 ·refine Qy<|Qc<|Lg.Qf<|Ql ⟨[.bool false],Lb,?_,Z⟩;rw[Lx (by omega)] at hm;simp[tup,hm]
 have I:k<l.length:=by omega
 have hd:=Q7 I;refine Qi<|Qg<|Qh<|Qc<|Lg.Qb<|Lg.Qb<|xii h Z Z I λV J=>Lg.x (Qv J Z)<|Lg.Qb<|Lg.x (Zr Z Z)<|xe<|Q3 rfl (λH=>?_) (λH=>?_)
 ·refine Qc<|Lg.Qf<|Ql ⟨[.bool true],Lb,?_,Z⟩;have:x∈l:=by rw[hm,hd,H];exact Lm
  simp[tup,this]
 refine Qi<|Qx<|Lg.Qb<|Lg.QQ Z Z<|Lg.Qf<|⟨k+1,by omega,Lb,Z,by omega,?_⟩;rw[hm,hd,Lh];exact ⟨λh=>h.resolve_left (λe=>H e.symm),.inr⟩
theorem QbX {L:LN}{w:World}{va vm ve:Value}{a:QD}(h:zf L w.heap ve a.ed) (s e:Int) (st:Int) :
  QG prog 127 [.agg #[va,.int .i64 st,vm,ve],.int .i64 s,.int .i64 e] w λr w'=>r=.int .i64 (nxt a.ed s e)∧Step [] w w':=by
 have hf:=h.le;refine QG.of_W func127 Z ntmps127 results127 (by simp) ?_;refine Qc<|xl Z<|QR (us:=[va,.int .i64 st,vm,ve]) Z λb3 w1 U hg H=>Lg.Qf ?_
 replace h:=h.ext U;refine Qg<|Qc<|Lg.Qf<|Qh<|Qz (α:=Nat) [(6,38)] (λk=>[(7,.int .i64 k)]) (λk w'=>w'=w1∧k≤a.ed.length∧nxt (a.ed.drop k) s e=nxt a.ed s e) (λk=>a.ed.length - k) (by rfl) 0 Lb ⟨Z,Ln _,Z⟩ ?_;rintro k g w2 ⟨rfl,hk,I⟩;refine Qg<|Qc<|Lg.Qb<|Lg.x (Qa Z)<|Lg.x (Qd H Z Z)<|Lg.x (Qr h Z)<|Lg.x (QA Z Z)<|xe<|QC rfl (λha=>?_) (λha=>?_)
 ·refine Qy<|Qc<|Lg.Qf<|Ql ⟨[.int .i64 (-1)],Lb,?_,U⟩;rw[Lx (by omega)] at I;rw[←I];rfl
 have J:k<a.ed.length:=by omega
 have hd:=Q7 J;refine Qi<|Qg<|Qh<|QZ (α:=Bool) [(15,32)] (λz=>[(32,.bool z)]) (λz w'=>w'=w2∧z=decide (a.ed[k].1=s∧a.ed[k].2.1=e)) (by rfl) ?_ ?_
 ·refine Qx<|Lg.x (Qa Z)<|Lg.x (Qd H Z Z)<|Lg.Qb<|xie h Z Z J λhh hb=>Lg.x (Zj Z)<|Lg.x (Qv (hb.fld 0 _ Z) Z) <|
   Lg.Qb<|xb (Zr Z Z) (λV=>?_) (λV=>?_)
  ·refine Lg.Qb<|Lg.x (Qa Z)<|Lg.x (Qd H Z Z)<|Lg.Qb<|xie h Z Z J λhi hc=>Lg.x (Zj Z)<|Lg.x (Qv (hc.fld 1 _ Z) Z) <|
    Lg.Qb<|Lg.x (Zr Z Z)<|Lg.x (Qo Z)<|xe ?_
   exact ⟨_,Lb,Z,by simp[V]⟩
  refine Lg.Qb<|xs Z<|xs Z<|xs Z<|xs Z<|xs Z<|xs Z<|xs Z<|xs Z<|Lg.x (Qo Z)<|xe ?_;exact ⟨_,Lb,Z,by simp[V]⟩
 rintro z g w3 ⟨rfl,rfl⟩;refine Q3 rfl (λY=>?_) (λY=>?_)
 ·refine Qc<|Lg.x (Qa Z)<|Lg.x (Qd H Z Z)<|Lg.Qb<|xie h Z Z J λhj he=>Lg.x (Zj Z)<|Lg.x (Qv (he.fld 2 _ Z) Z) <|
   Lg.Qf<|Ql ⟨[.int .i64 a.ed[k].2.2],Lb,?_,U⟩
  rw[←I,hd,nxt,if_pos Y];rfl
 refine Qi<|Qx<|Lg.Qb<|Lg.QQ Z Z<|Lg.Qf<|⟨k+1,by omega,Lb,Z,by omega,?_⟩;rw[←I,hd,nxt,if_neg Y]
def z6 (l:LI) (n:Int):Int:=if n∈l then (l.idxOf n:Int) else -1
theorem Qi6 {l:LI}{n:Int}{k:Nat}(h:n∉l.take k) (hk:k<l.length) (he:cget l k=n):z6 l n=k:=by
 have hm:n∈l:=by rw[←he,←Q9 hk];exact Le hk
 unfold z6;rw[if_pos hm];have hs:l=l.take k++l.drop k:=(ML k l).symm;have:l.idxOf n=k:=by
  rw[hs,Mj,if_neg h,LQ hk,List.idxOf_cons,show l[k]=n by rw[Q9 hk];exact he];simp;omega
 rw[this]
theorem QgP {L:LN}{w:World}{v:Value}{l:LI}(h:QL L w.heap v l) (n:Int) :
  QG prog 128 [v,.int .i64 n] w λr w'=>r=.int .i64 (z6 l n)∧w'=w:=by
 have U:=h.le;refine QG.of_W func128 Z ntmps128 results128 (by simp) ?_;refine Qc<|Qf<|Qg<|Qc<|Qf<|Qh<|Qz (α:=Nat) [(4,18)] (λz=>[(5,.int .i64 z)]) (λz w'=>w'=w∧z≤l.length∧n∉l.take z) (λz=>l.length - z) (by rfl) 0 Lb ⟨Z,Ln _,by simp⟩ ?_;rintro k g V ⟨rfl,hk,hm⟩;refine Qg<|Qc<|Qb<|Qb<|x (Qr h Z)<|x (QA Z Z)<|xe<|QC rfl (λh9=>?_) (λh9=>?_)
 ·refine Qy<|Qc<|Qf ?_;rw[Ls (by omega)] at hm;exact Ql ⟨[.int .i64 (-1)],Lb,by unfold z6;rw[if_neg hm];rfl,Z⟩
 have H:k<l.length:=by omega
 refine Qi<|Qg<|Qh<|Qc<|Qb<|Qb<|xic (i:=k) h Z Z H λY J=>x (Qv J Z)<|Qb<|x (Zr Z Z)<|xe<|Q3 rfl (λI=>?_) (λI=>?_)
 ·refine Qc<|Qb<|Qf ?_;exact Ql ⟨[.int .i64 k],Lb,by rw[Qi6 hm H I];rfl,Z⟩
 refine Qi<|Qx<|Qb<|QQ Z Z<|Qf<|⟨k+1,by omega,Lb,Z,H,?_⟩;rw[Lj H,Q9 H];simp only[List.mem_append,List.mem_singleton,not_or];exact ⟨hm,λe=>I e.symm⟩
theorem qe {L:LN}{w:World}{v:Value}{l:LI}(h:QL L w.heap v l) (hl:l.length≤1000000) :
  QG prog 70 [v] w λr w'=>Step [] w w'∧∃va,r=.agg #[va,.int .i64 0,nS,nS]∧Qs 3 w.heap.size w' va l:=by
 refine QG.of_W func70 Z ntmps70 results70 (by simp) ?_;refine Qc<|xl Z<|Qu (us:=[nS,.int .i64 0,nS,nS]) Z λb2 H Y hg ha=>xe ?_;have hh:=Y.size;have hi:=ha.lt;refine Qc<|xl Z<|U6 λb3 w2 I hj hk=>Qb<|?_;have hc:=Y.trans I;have hr:=I.size;have J:w2.ownsRow H.heap.size 3 1 (.slice (some ⟨b3,0,none⟩) 0 0) 0 []:=hk.own (n:=0) (sz:=1) Z (by omega) hj
 refine xl rfl<|Qiq J Z (h.ext hc) Z (Qch l) (by omega) (by omega) λva U hm he hs=>?_;have V:Qs 3 H.heap.size U va l:=by
  have:U.ownsRow H.heap.size 3 1 va (0+l.length) ([]++l.map (.int .i64)):=hm;rw[LR,Mt] at this;exact this
 have hA:=Qs.ints (L:=[]) V (by omega) (by simp);have hn:=(ha.ext I).step he (QY J hi);have ho:Step [] w U:=hc.then he (λb hb=>.inr (by have:=(Qq J b hb).1;omega));refine x (QN ⟨hA.cells,La⟩)<|xl Z<|Qn (us:=[va,.int .i64 0,nS,nS]) hn Z Z Z Z ⟨hA.one,Z,Z,Z,La⟩ λw4 hf hp=>xe ?_;have hq:=Qk V hf (λb hb=>by have:=(Qq V b hb).1;simp;omega)
 exact Ql ⟨[.agg #[va,.int .i64 0,nS,nS]],⟨⟨_,Z,Qw Z (hp.at (L:=[]) (by simp)).cells⟩,La⟩,ho.then1 hf hg,va,rfl,Zi hq hh⟩
theorem pig:∀(n:Nat) (l:LI),l.Nodup→(∀x∈l,0≤x∧x<n)→l.length≤n
 | 0,l,_,h=>by
  cases l with
  | nil=>simp
  | cons a l=>have:=h a Lm;omega
 | n+1,l,hd,h=>by
  by_cases hm:(n:Int)∈l
  ·have h1:=pig n (l.erase (n:Int)) (hd.erase _) (λx hx=>by
    have h2:=(List.Nodup.mem_erase_iff hd).1 hx;have h3:=h x h2.2;have h4:x≠(n:Int):=h2.1;omega)
   rw[List.length_erase_of_mem hm] at h1;omega
  have:=pig n l hd (λx hx=>by
   have h3:=h x hx;have h4:x≠(n:Int):=λe=>hm (by rw[←e];exact hx);omega)
  omega
def V7 (a:QD) (s:Int) (out:LI) (v:Int):LI:=if 0≤nxt a.ed s v∧nxt a.ed s v∉out then out++[nxt a.ed s v] else out
def fdR (a:QD) (out:LI) (s:Int):LI:=a.al.foldl (V7 a s) out
def jZ (a:QD):Nat→Nat→LI→LI
 | 0,_,out=>out
 | f+1,i,out=>if i<out.length then jZ a f (i+1) (fdR a out (cget out i)) else out
def fd0 (a:QD):LI:=if 0<a.st then [0] else []
def found (a:QD):LI:=jZ a a.st.toNat 0 (fd0 a)
structure qL (a:QD) (out:LI):Prop where
 b:∀x∈out,0≤x∧x<a.st
 d:out.Nodup
theorem qL.len {a:QD}{out:LI}(h:qL a out) (H:0≤a.st):out.length≤a.st.toNat:=pig _ _ h.d (λx hx=>by have:=h.b x hx;omega)
theorem QaZ {es:List Ed}{s v:Int}(h:0≤nxt es s v):(s,v,nxt es s v)∈es:=by
 induction es with
 | nil=>simp[nxt] at h
 | cons e es ih =>
  rw[nxt] at h ⊢;split at h
  ·rename_i he;rw[if_pos he];obtain ⟨p,q,r⟩:=e;obtain ⟨h1,h2⟩:=he;simp only[] at h1 h2;subst h1 h2;exact Lm
  rename_i he;rw[if_neg he];exact Lk _ (ih h)
theorem Qjr {a:QD}(H:QM a) {out:LI}(h:qL a out) (s v:Int):qL a (V7 a s out v):=by
 unfold V7;split
 ·rename_i hc;have hm:=H.ed _ (QaZ hc.1);refine ⟨λx hx=>?_,?_⟩
  ·rcases Lp.1 hx with hx | hx
   ·exact h.b x hx
   simp only[List.mem_singleton] at hx;subst hx;exact ⟨hc.1,hm.2.2.2.2⟩
  rw[Mu];refine ⟨h.d,by simp,λx hx y hy=>?_⟩;simp only[List.mem_singleton] at hy;subst hy;exact λe=>hc.2 (by rw[←e];exact hx)
 exact h
theorem Ql4 {a:QD}{out:LI}{s v:Int}:∀x∈out,x∈V7 a s out v:=λx hx=>by unfold V7;split;exact Lz _ hx;exact hx
theorem Qoj {a:QD}{out:LI}{s v:Int}(h:0≤nxt a.ed s v):nxt a.ed s v∈V7 a s out v:=by
 unfold V7;by_cases hm:nxt a.ed s v∈out
 ·rw[if_neg (λe=>e.2 hm)];exact hm
 rw[if_pos ⟨h,hm⟩];simp
theorem Qjp {a:QD}(H:QM a) (s:Int):∀(vs:LI) (out:LI),qL a out→qL a (vs.foldl (V7 a s) out)
 | [],_,h=>h
 | v::vs,_,h=>Qjp H s vs _ (Qjr H h s v)
theorem Qbi {a:QD}{s:Int}:∀(vs:LI) (out:LI),∀x∈out,x∈vs.foldl (V7 a s) out
 | [],_,_,hx=>hx
 | _::vs,_,x,hx=>Qbi vs _ x (Ql4 x hx)
theorem Qjq {a:QD}{s:Int}:∀(vs:LI) (out:LI),∀v∈vs,0≤nxt a.ed s v→nxt a.ed s v∈vs.foldl (V7 a s) out
 | v::vs,out,u,hu,h=>by
  rcases Lh.1 hu with rfl | hu
  ·exact Qbi vs _ _ (Qoj h)
  exact Qjq vs _ u hu h
theorem QfR {a:QD}{s:Int}:∀(vs:LI) (out:LI),∃r,vs.foldl (V7 a s) out=out++r
 | [],out=>⟨[],by simp⟩
 | v::vs,out=>by
  obtain ⟨r,H⟩:=QfR (a:=a) (s:=s) vs (V7 a s out v);rw[LM,H];unfold V7;split
  ·exact ⟨[nxt a.ed s v]++r,by simp⟩
  exact ⟨r,Z⟩
theorem yz {l r:LI}{i:Nat}(h:i<l.length):cget (l++r) i=cget l i:=by
 rw[←Q9 h,←Q9 (by simp;omega),L7 h]
def Cl (a:QD) (out:LI) (i:Nat):Prop:=∀j,j<i→j<out.length→∀v∈a.al,0≤nxt a.ed (cget out j) v→nxt a.ed (cget out j) v∈out
theorem Cl.next {a:QD}{out:LI}{i:Nat}(h:Cl a out i) (hi:i<out.length):Cl a (fdR a out (cget out i)) (i+1):=by
 intro j hj Y v I H;obtain ⟨r,V⟩:=QfR (a:=a) (s:=cget out i) a.al out;have J:fdR a out (cget out i)=out++r:=V;have U:j<out.length:=by omega
 rw[J,yz U] at H ⊢;by_cases e:j=i
 ·subst e;have:=Qjq a.al out v I H;rw[←J];exact this
 exact Lz _ (h j (by omega) U v I H)
theorem Qjo {a:QD}(H:QM a):∀(f i:Nat) (out:LI),qL a out→Cl a out i→i+f=a.st.toNat→qL a (jZ a f i out)∧Cl a (jZ a f i out) (jZ a f i out).length
 | 0,i,out,h,hc,J=>by
  have:=h.len H.st0;exact ⟨h,λj hj I=>hc j (by rw[jZ] at hj;omega) I⟩
 | f+1,i,out,h,hc,J=>by
  rw[jZ];split
  ·rename_i hi;exact Qjo H f (i+1) _ (Qjp H _ _ _ h) (hc.next hi) (by omega)
  rename_i hi;exact ⟨h,λj hj I=>hc j (by omega) I⟩
theorem Qjs (a:QD):qL a (fd0 a):=by
 unfold fd0;split
 ·rename_i h;exact ⟨λx hx=>by simp only[List.mem_singleton] at hx;subst hx;exact ⟨by omega,h⟩,by simp⟩
 exact ⟨by simp,by simp⟩
theorem Uy {a:QD}(I:QM a):qL a (found a)∧∀s∈found a,∀v∈a.al,0≤nxt a.ed s v→nxt a.ed s v∈found a:=by
 obtain ⟨h1,h2⟩:=Qjo I a.st.toNat 0 (fd0 a) (Qjs a) (λj hj=>by omega) (by omega);refine ⟨h1,λs hs v J H=>?_⟩;obtain ⟨j,hj,rfl⟩:=LB hs;have:=h2 j hj hj v J;unfold found at hj H ⊢;rw[Q9 hj] at H ⊢;exact this H
def Kt (a:QD) (fd:LI) (i:Nat) (v:Int):Option Ed:=if 0≤nxt a.ed (cget fd i) v then some ((i:Int),v,z6 fd (nxt a.ed (cget fd i) v)) else none
def YR (a:QD) (fd:LI) (n:Nat):LI:=((List.range' 0 n).filter λi=>decide (cget fd i∈a.mr)).map λi:Nat=>(i:Int)
def Xc (a:QD) (fd:LI) (n:Nat):List Ed:=(List.range' 0 n).flatMap λi=>a.al.filterMap (Kt a fd i)
def YX (a:QD):QD:=⟨a.al,(found a).length,YR a (found a) (found a).length,Xc a (found a) (found a).length⟩
theorem Jd {β:Type}{r:Int→Int→Prop}{q:β→β→Prop}{g:Int→Option β}(H:∀x y u v,r x y→g x=some u→g y=some v→q u v):∀{l:LI},l.Pairwise r→(l.filterMap g).Pairwise q
 | [],_=>by simp
 | x::l,h=>by
  obtain ⟨h1,h2⟩:=L3.1 h;rw[Mz];split
  ·exact Jd H h2
  rename_i u hu;refine L3.2 ⟨λv I=>?_,Jd H h2⟩;obtain ⟨y,hy,J⟩:=MD.1 I;exact H x y u v (h1 y hy) hu J
theorem Qbu {a:QD}(I:QM a):QM (YX a)∧(YX a).al=a.al∧(YX a).st≤a.st:=by
 obtain ⟨h1,h2⟩:=Uy I;have hl:=h1.len I.st0;have h0:=I.st0;have h4:=I.st1;refine ⟨⟨I.al,I.ali,by simp[YX],by simp only[YX];omega,λs hs=>?_,?_,λe he=>?_,?_⟩,Z,by simp only[YX];omega⟩
 ·simp only[YX,YR,List.mem_map,List.mem_filter,List.mem_range'_1] at hs;obtain ⟨i,⟨hi,_⟩,rfl⟩:=hs;simp only[YX];omega
 ·simp only[YX,YR];unfold Z8;rw[ME];refine List.Pairwise.sublist Np ?_;exact (Na (s:=0) (n:=(found a).length)).imp (λh=>by omega)
 ·simp only[YX,Xc,List.mem_flatMap,List.mem_filterMap,List.mem_range'_1] at he;obtain ⟨i,⟨_,hi⟩,v,J,H⟩:=he;unfold Kt at H;split at H
  ·rename_i V;cases H
   have U:i<(found a).length:=by omega
   have hm:=h2 (cget (found a) i) (by rw[←Q9 U];exact Le U) v J V;have hx:=LU hm;simp only[YX];unfold z6;rw[if_pos hm];exact ⟨by omega,by omega,J,by omega,by omega⟩
  cases H
 simp only[YX,Xc];have key:∀(is:LN),is.Pairwise (·<·)→(is.flatMap λi=>a.al.filterMap (Kt a (found a) i)).Pairwise λx y:Ed=>x.1<y.1∨(x.1=y.1∧x.2.1<y.2.1):=by
  intro is;induction is with
  | nil=>intro _;simp
  | cons i is ih =>
   intro hp;obtain ⟨p1,p2⟩:=L3.1 hp;rw[LY,MF];have from_i:∀(i:Nat) (e:Ed),e∈a.al.filterMap (Kt a (found a) i)→e.1=i:=by
    intro i e he;obtain ⟨v,_,H⟩:=MD.1 he;unfold Kt at H;split at H
    ·cases H;rfl
    cases H
   refine ⟨?_,ih p2,λe he Y ha=>?_⟩
   ·refine Jd (r:=(·<·)) (λx y u v hb hu J=>?_) I.ali;unfold Kt at hu J;split at hu
    ·cases hu;split at J
     ·cases J;exact .inr ⟨Z,hb⟩
     cases J
    cases hu
   obtain ⟨j,hj,hc⟩:=MJ.1 ha;have e1:=from_i i e he;have e2:=from_i j Y hc;have:=p1 j hj;left;omega
 exact key _ (Na (s:=0) (n:=(found a).length))
set_option maxHeartbeats 1000000 in
theorem QgQ {L:LN}{w:World}{va vm ve:Value}{a:QD}(h:Zq L w.heap va vm ve a) (ho:QM a) :
  QG prog 125 [.agg #[va,.int .i64 a.st,vm,ve]] w λr w'=>Step [] w w'∧Qs 3 w.heap.size w' r (found a):=by
 have h0:=ho.st0;have h1:=ho.st1;have hV:=ho.al_le;refine QG.of_W func125 Z ntmps125 results125 (by simp) ?_;refine Qc<|xl Z<|QR (us:=[va,.int .i64 a.st,vm,ve]) Z λb1 V hj hW hv=>Qf<|Qc<|Qf ?_;have hA:=hj.size;refine QZ (α:=Value) [(3,3),(7,12)] (λz=>[(3,z)]) (λz w'=>Step [] V w'∧Qs 3 V.heap.size w' z (fd0 a)) (by rfl) ?_ ?_
 ·refine Qc<|x (Qa Z)<|x (Qd hv Z Z)<|x (ZY Z Z)<|xe<|QC Z (λh9=>?_) (λh9=>?_)
  ·refine Qi ?_;exact ⟨nS,Lb,Step.refl _ _,by unfold fd0;rw[if_neg h9];exact QP _ _ _ _⟩
  refine Qx<|Qb<|xl Z<|QH (us:=[[.int .i64 0]]) Z Z (by decide) (by simp) ⟨rfl,rfl,La⟩ λb11 w2 hw hX hB=>?_;have hn:w2.ownsRow V.heap.size 3 1 (nS) 0 []:=QP _ _ _ _;have hY:=hw.size;refine xl Z<|Q6 (news:=[.int .i64 0]) (L:=[]) hn Z Z Z (hB.at (by simp)) (by simp[Value.oneCell']) (by omega) (by omega) λv3 w3 hC hD hZ =>
   Qf<|⟨v3,Lb,hw.then hD (λb hb=>by simp[ob] at hb),?_⟩
  unfold fd0;rw[if_pos h9];exact hC
 rintro v0 g4 w4 ⟨hE,hF⟩;refine Zh (found a) λT hT=>?_;have hG:jZ a a.st.toNat 0 (fd0 a)=T:=hT;refine Qg<|Qc<|Qf<|Qh<|Qz (α:=Nat×LI×Value) [(3,6),(13,48)] (λz=>[(3,z.2.2),(4,.int .i64 z.1)])
  (λz w'=>Step [] V w'∧Qs 3 V.heap.size w' z.2.2 z.2.1∧qL a z.2.1∧z.1≤z.2.1.length∧jZ a (a.st.toNat - z.1) z.1 z.2.1=T) (λz=>a.st.toNat - z.1) (by rfl) (0,fd0 a,v0) ⟨Z,Z,La⟩
  ⟨hE,hF,Qjs a,Ln _,hG⟩ ?_
 rintro ⟨i,out,v⟩ g5 w5 ⟨hl,Y,H,hi,ha⟩;simp only[] at Y H hi ha;have hy:=H.len h0;have hz:=Qs.ints (L:=[]) Y (by omega) (by simp);refine Qg<|Qc<|Qb<|Qb<|x (Qr hz Z)<|x (QA Z Z)<|xe<|QC rfl (λh2=>?_) (λh2=>?_)
 ·have e:out=T:=by
   rw[←ha];generalize a.st.toNat - i=f;cases f with
   | zero=>rfl
   | succ f=>rw[jZ,if_neg (by omega)]
  refine Qy<|Qc<|Qb<|Qf ?_;rw[e] at Y;exact Ql ⟨[v],Lb,hj.trans hl,by rw[hT];exact Zi Y hA⟩
 have J:i<out.length:=by omega
 have hH:a.st.toNat - i=(a.st.toNat - (i+1))+1:=by omega
 rw[hH,jZ,if_pos J] at ha;refine Zh (cget out i) λs U=>?_;rw[U] at ha;refine Zh (fdR a out s) λR hR=>?_;rw[hR] at ha;unfold fdR at hR;refine Qi<|Qg<|Qh<|Qc<|Qf<|Qh<|Qz (α:=Nat×LI×Value) [(3,3),(5,6),(19,48)] (λz=>[(3,z.2.2),(5,.int .i64 z.1)])
  (λz w'=>Step [] V w'∧Qs 3 V.heap.size w' z.2.2 z.2.1∧qL a z.2.1∧z.1≤a.al.length∧i<z.2.1.length∧cget z.2.1 i=s∧(a.al.drop z.1).foldl (V7 a s) z.2.1=R) (λz=>a.al.length - z.1) (by rfl) (0,out,v) ⟨Z,Z,La⟩
  ⟨hl,Y,H,Ln _,J,U,hR⟩ ?_
 clear hl Y H hi hy hz J U hR h2;rintro ⟨k,out,v⟩ g6 w6 ⟨he,hf,H,hk,J,U,I⟩;simp only[] at hf H hk J U I;have hy:=H.len h0;have h3:=(h.al.ext hj).ext he;have hm:=hv.ext he;have h4:=Qs.ints (L:=[]) hf (by omega) (by simp);refine Qg<|Qc<|Qb<|x (Qa Z)<|x (Qd hm Z Z)<|x (Qr h3 Z)<|x (QA Z Z)<|xe<|QC rfl (λhI=>?_) (λhI=>?_)
 ·refine Qy<|Qx<|Qb<|QQ Z Z<|Qf ?_;rw[Lx (by omega)] at I;have hJ:out=R:=I;exact ⟨(i+1,out,v),by simp only[];omega,⟨Z,Z,La⟩,he,hf,H,J,by simp only[];rw[hJ];exact ha⟩
 have hg:k<a.al.length:=by omega
 rw[LQ hg,LM,Q9 hg] at I;refine Zh (cget a.al k) λu hu=>?_;rw[hu] at I;have hK:=(h.ed.ext hj).ext he;refine Zh (nxt a.ed s u) λt ht=>?_;have hL:V7 a s out u=if 0≤t∧t∉out then out++[t] else out:=by unfold V7;rw[ht]
 have hp:=Qjr ho H s u;rw[hL] at I hp;refine Qi<|Qg<|Qh<|Qg<|QU (Step [] w6) [(0,true),(1,true),(2,true),(3,true),(4,true),(5,true),(6,true),(7,true),(8,true),(9,true),(10,false),(11,true)] mixed (by rfl) (by kernel_rfl) (Step.drew _ _) ?_;refine pq (λ_ hc=>Qp (hm.ext hc) Z Z)<|p (λ_=>Qm)<|p (λ_=>Qm)<|pic (i:=i) Z h4 Z Z J λga h5=>?_;rw[U] at h5
 refine pq (λ_ hc=>Qv (h5.ext hc) Z)<|p (λ_=>Qa Z)<|pq (λ_ hc=>Qd (hm.ext hc) Z Z)<|p (λ_=>Qm) <|
  pic (i:=k) Z h3 Z Z hg λgb h6=>?_
 rw[hu] at h6;have hsr:=QbX (va:=va) (vm:=vm) (a:=a) (hK.ext (Step.drew [] w6)) s u a.st;rw[ht] at hsr;refine pq (λ_ hc=>Qv (h6.ext hc) Z)<|pk<|xf<|hsr.mono ?_;rintro r7 w7 ⟨rfl,hM⟩;have hh:=(Step.drew [] w6).trans hM;refine ⟨hh,p (λ_=>Qe)<|pe ?_⟩;have h7:=Qt hf hh;have hN:=h4.ext hh
 refine QZ (α:=Unit) [(37,44)] (λz=>[(44,.bool (decide (0≤t∧t∉out)))]) (λz w'=>w'=w7) (by rfl) ?_ ?_
 ·refine Qx<|Qb<|xb (ZZ Z Z) (λhq=>?_) (λhq=>?_)
  ·refine Qb<|Qb<|Qb<|xl Z<|xf<|(QfN hN t).mono ?_;rintro r8 w8 ⟨rfl,rfl⟩;refine x (Zs Z)<|x (Qo Z)<|xe<|⟨(),⟨congrArg Value.bool ?_,La⟩,Z⟩;show (!decide (t∈out))=_;rw[Bool.eq_iff_iff];simp[hq]
  refine Qb<|xs Z<|xs Z<|xs Z<|xs Z<|x (Qo Z)<|xe ?_;exact ⟨(),⟨congrArg Value.bool (decide_eq_false (λe=>hq e.1)).symm,La⟩,Z⟩
 rintro _ g9 w9 rfl;refine QC rfl (λhr=>?_) (λhr=>?_)
 ·rw[if_neg hr] at I;refine Qi<|Qx<|Qb<|QQ Z Z<|Qf ?_;exact ⟨(k+1,out,v),by simp only[];omega,⟨Z,Z,La⟩,he.trans hh,h7,H,hg,J,U,I⟩
 rw[if_pos hr] at I hp;have h8:=he.trans hh;have gc:=h8.size;refine Qx<|Qb<|Qb<|xl Z<|QH (us:=[[.int .i64 t]]) Z Z (by decide) (by simp) ⟨rfl,rfl,La⟩ λge gg hs gh hO=>?_;have hP:=Qt h7 hs;have gi:=hs.size;refine xl rfl<|Q6 (news:=[.int .i64 t]) (L:=[]) hP Z Z Z (hO.at (by simp)) (by simp[Value.oneCell']) (by omega) (by omega) λhQ gj hS hU gk =>
  Qf ?_
 have hge:=Qq hf;refine Qx<|Qb<|QQ Z Z<|Qf<|⟨(k+1,out++[t],hQ),by simp only[];omega,⟨Z,Z,La⟩,(h8.trans hs).then hU (λb hb=>.inr (hge b hb).1),Qs.snoc hS,hp,hg,by simp;omega,?_,I⟩;simp only[];rw[yz J];exact U
structure CrI (w7:World) (b4:Nat) (vcl:Value) (n:Int) (vm vd:Value) (M:LI) (E:List Ed) (w:World):Prop where
 st:Step [b4] w7 w
 B:QT w.heap b4 50 [vcl,.int .i64 n,vm,vd]
 m:Qs 3 w7.heap.size w vm M
 e:Ye 129 w7.heap.size w vd E
 dj:Dj vm vd
section
variable {w7 w w' w'':World} {b4:Nat} {vcl:Value} {n:Int} {vm vd:Value} {M:LI} {E:List Ed}
theorem CrI.ext (h:CrI w7 b4 vcl n vm vd M E w) (hs:Step [] w w'):CrI w7 b4 vcl n vm vd M E w':=⟨h.st.trans hs,h.B.ext hs,Qt h.m hs,Qt h.e hs,h.dj⟩
theorem CrI.setM (h:CrI w7 b4 vcl n vm vd M E w) (hb:b4<w7.heap.size) {vm':Value}{M':LI}(hs:Step (ob vm) w w') (hm:Qs 3 w7.heap.size w' vm' M') (I:∀b∈ob vm',b∈ob vm∨w.heap.size≤b) (H:Step [b4] w' w'')
  (J:QT w''.heap b4 50 [vcl,.int .i64 n,vm',vd]):CrI w7 b4 vcl n vm' vd M' E w'' :=
 ⟨(h.st.then hs (λb hb=>.inr (Qq h.m b hb).1)).trans' H,J,Qk hm H (λb hb'=>by have:=(Qq hm b hb').1;simp;omega),
  Qk (Qk h.e hs h.dj.symm) H (λb hb'=>by have:=(Qq h.e b hb').1;simp;omega),(h.dj.symm.grow I (Q2 h.e)).symm⟩
theorem CrI.setE (h:CrI w7 b4 vcl n vm vd M E w) (hb:b4<w7.heap.size) {H:Value}{E':List Ed}(hs:Step (ob vd) w w') (hm:Ye 129 w7.heap.size w' H E') (J:∀b∈ob H,b∈ob vd∨w.heap.size≤b) (I:Step [b4] w' w'')
  (U:QT w''.heap b4 50 [vcl,.int .i64 n,vm,H]):CrI w7 b4 vcl n vm H M E' w'' :=
 ⟨(h.st.then hs (λb hb=>.inr (Qq h.e b hb).1)).trans' I,U,Qk (Qk h.m hs h.dj) I (λb hb'=>by have:=(Qq h.m b hb').1;simp;omega),
  Qk hm I (λb hb'=>by have:=(Qq hm b hb').1;simp;omega),h.dj.grow J (Q2 h.m)⟩
end
theorem Qab (a:QD) (fd:LI) (k:Nat):YR a fd (k+1)=if cget fd k∈a.mr then YR a fd k++[(k:Int)] else YR a fd k:=by
 unfold YR;rw[Mi,Mb,Ly,LR];by_cases h:cget fd k∈a.mr
 ·rw[if_pos h,Ml,if_pos (decide_eq_true h)];rfl
 rw[if_neg h,Ml,if_neg (by rw[decide_eq_false h];simp),Nj,List.map_nil,LS]
theorem Qdc (a:QD) (fd:LI):∀k,(YR a fd k).length≤k
 | 0=>by simp[YR]
 | k+1=>by
  have:=Qdc a fd k;rw[Qab];split
  ·simp;omega
  omega
theorem QgY (a:QD) (fd:LI) (k:Nat):Xc a fd (k+1)=Xc a fd k++a.al.filterMap (Kt a fd k):=by
 unfold Xc;rw[Mi,LH,LR];simp
set_option maxHeartbeats 2000000 in
theorem ji {L:LN}{w:World}{va vm ve:Value}{a:QD}(h:Zq L w.heap va vm ve a) (Y:QM a) :
  QG prog 71 [.agg #[va,.int .i64 a.st,vm,ve]] w λr w'=>Step [] w w'∧JY w.heap.size w'.heap r (YX a):=by
 have h0:=Y.st0;have h1:=Y.st1;have kx:=Y.al_le;have ge:=(Uy Y).1;have gg:=ge.len h0;refine QG.of_W func71 Z ntmps71 results71 (by simp) ?_;refine Zh (found a) λfd hz=>?_;rw[hz] at gg;have gh:YX a=⟨a.al,fd.length,YR a fd fd.length,Xc a fd fd.length⟩:=by unfold YX;rw[hz]
 refine Qc<|xl Z<|QR (us:=[va,.int .i64 a.st,vm,ve]) Z λb1 w1 gi kz h2=>xl Z<|Qu (us:=[nS,.int .i64 0,nS,nS]) Z λb2 w2 h3 k0 hH=>xe ?_;have ha:=gi.trans h3;have hfr:=QgQ (h.ext ha) Y;rw[hz] at hfr;refine Qc<|x (Qp (h2.ext h3) Z Z)<|xl Z<|xf<|hfr.mono ?_;rintro vf w3 ⟨hq,gj⟩;refine Qf ?_;have hJ:=ha.trans hq;have hK:=(h2.ext h3).ext hq
 refine Qc<|x (Qa Z)<|x (Qd hK Z Z)<|xl Z<|xf<|(qe (h.al.ext hJ) (by omega)).mono ?_;rintro r4 w4 ⟨hL,vcl,rfl,he⟩;have hM:=Qs.ints (L:=[]) he (by omega) (by simp);refine xl rfl<|Qu (us:=[nS,.int .i64 0,nS,nS]) Z λb4 w5 gk gl gm =>
  xl rfl<|Qn (us:=[vcl,.int .i64 0,nS,nS]) gm Z Z Z Z ⟨hM.one,Z,Z,Z,La⟩ λw6 gn hN=>xe ?_
 have h4:Step [] w4 w6:=gk.then1 gn gl;have hf:=hL.trans h4;have hO:=Qs.ints (L:=[]) gj (by omega) (by simp);have k4:=hq.size;have k5:=hL.size;have k6:=h4.size;have k7:=h2.lt;have k8:=hH.lt;have k9:=hN.lt;refine Qc<|Qb<|x (Qr hO Z)<|x (Qa Z)<|xl Z<|QF (u:=.int .i64 fd.length) hN Z Z (by simp) rfl λw7 U gq=>xe ?_;have ma:=U.size
 have mc:Step [b4] w3 w7:=(hf.any (L:=[b4])).trans' U;have hP:Step [] w w7:=(hJ.trans hf).then1 U (by omega);have hQ:QL [b4] w7.heap vf fd:=((hO.up (L':=[b4]) (λb hb=>.inr (by simp at hb;omega))).ext hf).st U;have h5:Zq [b4] w7.heap va vm ve a:=(h.up (λb hb=>.inr (by simp at hb;omega))).ext hP
 have gr:Qs 3 w3.heap.size w7 vcl a.al:=Qk (Qt he h4) U (λb hb=>by have:=Q2 he b hb;simp;omega);have hR:=(hK.ext hf).step U (by simp;omega);have gs:=((hH.ext hq).ext hf).step U (by simp;omega);have hg:b4<w7.heap.size:=by omega
 have n1:b1∉[b4]:=by simp;omega
 have n2:b2∉[b4]:=by simp;omega
 refine Qg<|Qc<|Qf<|Qh<|Qz (α:=Nat×Value×Value) [(5,7),(16,69)] (λz=>[(5,.int .i64 z.1)])
  (λz w'=>z.1≤fd.length∧CrI w7 b4 vcl fd.length z.2.1 z.2.2 (YR a fd z.1) (Xc a fd z.1) w'∧(Xc a fd z.1).length≤z.1*32) (λz=>fd.length - z.1) (by rfl) (0,nS,nS) Lb
  ⟨Ln _,⟨Step.refl _ _,gq,QP _ _ _ _,QP _ _ _ _,Dj.nil' _⟩,Ln _⟩ ?_
 rintro ⟨i,v1,v2⟩ g8 w8 ⟨hi,H,h6⟩;simp only[] at hi H h6;have gt:=Qdc a fd i;have hS:=hQ.st H.st;refine Qg<|Qc<|Qb<|Qb<|x (Qr hS Z)<|x (QA Z Z)<|xe<|QC rfl (λgu=>?_) (λgu=>?_)
 ·have gv:i=fd.length:=by omega
  rw[gv] at H h6 gt;refine Qy ?_;have gx:=Qs.ints (L:=[]) H.m (by omega) (by simp);have gy:=Ye.eds (L:=[]) H.e (by omega) (by simp);refine Qc<|x (Qp H.B Z Z)<|xl Z<|Qn (us:=[vcl,.int .i64 fd.length,v1,v2]) (gs.step H.st n2) Z Z Z Z ⟨hM.one,Z,gx.one,gy.one,La⟩ λw9 hr gz=>xe ?_
  refine Ql ⟨[.agg #[vcl,.int .i64 fd.length,v1,v2]],⟨⟨_,Z,Qw Z (gz.at (L:=[]) (by simp)).cells⟩,La⟩,(hP.then1 H.st (by omega)).then1 hr (by omega),?_⟩;rw[gh];have k1:=Qk (Qk gr H.st (λb hb=>by have:=Q2 he b hb;simp;omega)) hr (λb hb=>by have:=(Qq he b hb).1;simp;omega);have k2:=Qk H.m hr (λb hb=>by have:=(Qq H.m b hb).1;simp;omega)
  have k3:=Qk H.e hr (λb hb=>by have:=(Qq H.e b hb).1;simp;omega);refine ⟨vcl,v1,v2,Z,λL' h7=>⟨?_,?_,?_⟩⟩
  ·exact Qs.ints k1 (by show a.al.length≤_;omega) (λb hb=>by have:=h7 b hb;omega)
  ·exact Qs.ints k2 (by show (YR a fd fd.length).length≤_;omega) (λb hb=>by have:=h7 b hb;omega)
  exact Ye.eds k3 (by show (Xc a fd fd.length).length≤_;omega) (λb hb=>by have:=h7 b hb;omega)
 have h8:i<fd.length:=by omega
 refine Zh (cget fd i) λs hs=>?_;have hh:=Qab a fd i;rw[hs] at hh;refine Qi<|Qg<|Qh<|QZ (α:=Value) [(22,34)] (λz=>[]) (λz w'=>CrI w7 b4 vcl fd.length z v2 (YR a fd (i+1)) (Xc a fd i) w') (by rfl) ?_ ?_
 ·have g0:=h5.st H.st;have g1:=hR.step H.st n1;refine Qg<|QU (Step [] w8) [(0,true),(1,true),(2,true),(3,true),(4,true),(5,true),(6,false)] mixed (by rfl) (by kernel_rfl) (Step.drew _ _) ?_;refine p (λ_=>Qa Z)<|pq (λ_ hc=>Qd (g1.ext hc) Z Z)<|p (λ_=>Qm)<|p (λ_=>Qm)<|pic (i:=i) Z hS Z Z h8 λmf hT=>?_;rw[hs] at hT
  refine pq (λ_ hc=>Qv (hT.ext hc) Z)<|pk<|xf<|(QfN (g0.mr.ext (Step.drew [] w8)) s).mono ?_;rintro mg mh ⟨rfl,rfl⟩;have h9:=H.ext (Step.drew [] w8);refine ⟨Step.drew _ _,pe ?_⟩;refine QC Z (λhA=>?_) (λhA=>?_)
  ·rw[if_neg hA] at hh;refine Qi ?_;exact ⟨v1,La,by rw[hh];exact h9⟩
  rw[if_pos hA] at hh;refine Qx<|x (Qa Z)<|x (Qd h9.B Z Z)<|Qb<|xl Z<|QH (us:=[[.int .i64 i]]) Z Z (by decide) (by simp) ⟨rfl,rfl,La⟩ λmj mo g2 mq g3=>?_;have hj:=h9.ext g2;refine xl Z<|Q6 (news:=[.int .i64 i]) (L:=[]) hj.m Z Z Z (g3.at (by simp)) (by simp[Value.oneCell']) (by omega) hj.st.size λhU g4 g5 ha g6=>?_
  have hV:Qs 3 w7.heap.size g4 hU (YR a fd i++[(i:Int)]):=Qs.snoc g5;refine x (Qa Z)<|xl Z<|QF (hj.B.step ha (QY hj.m hg)) Z Z (by simp) (Qs.ints (L:=[]) hV (by simp;omega) (by simp)).one λms g7 g9 =>
   xe ?_
  exact ⟨hU,La,by rw[hh];exact hj.setM hg ha hV g6 g7 g9⟩
 rintro v3 mt mu ka;refine Zh (Xc a fd (i+1)) λE1 hB=>?_;have hW:=QgY a fd i;rw[hB] at hW;refine Qc<|Qf<|Qh<|Qz (α:=Nat×List Ed×Value) [(6,7),(35,69)] (λz=>[(6,.int .i64 z.1)])
  (λz w'=>z.1≤a.al.length∧CrI w7 b4 vcl fd.length v3 z.2.2 (YR a fd (i+1)) z.2.1 w'∧z.2.1.length≤i*32+z.1∧z.2.1++(a.al.drop z.1).filterMap (Kt a fd i)=E1) (λz=>a.al.length - z.1) (by rfl) (0,Xc a fd i,v2) Lb
  ⟨Ln _,ka,h6,hW.symm⟩ ?_
 rintro ⟨k,E,vd⟩ mv hC ⟨hk,J,kb,I⟩;simp only[] at hk J kb I;have hD:=h5.st J.st;have hv:=hR.step J.st n1;have hX:=hQ.st J.st;refine Qg<|Qc<|Qb<|x (Qa Z)<|x (Qd hv Z Z)<|x (Qr hD.al Z)<|x (QA Z Z)<|xe<|QC rfl (λkc=>?_) (λkc=>?_)
 ·refine Qy<|Qx<|Qb<|QQ Z Z<|Qf ?_;rw[Lx (by omega),List.filterMap_nil,LS] at I;refine ⟨(i+1,v3,vd),by simp only[];omega,Lb,h8,?_,?_⟩
  ·simp only[];rw[hB,←I];exact J
  simp only[];rw[hB,←I];omega
 have V:k<a.al.length:=by omega
 refine Zh (cget a.al k) λu hu=>?_;rw[LQ V,Q9 V,hu,Mz] at I;refine Zh (nxt a.ed s u) λt ht=>?_;have ke:Kt a fd i u=if 0≤t then some ((i:Int),u,z6 fd t) else none:=by unfold Kt;rw[hs,ht]
 rw[ke] at I;have hsr:=QbX (va:=va) (vm:=vm) (a:=a) (hD.ed.ext (Step.drew [] hC)) s u a.st;rw[ht] at hsr;refine Qi<|Qg<|Qh<|Qg<|QU (Step [] hC) [(0,true),(1,true),(2,true),(3,true),(4,true),(5,true),(6,true),(7,true),(8,true),(9,true),(10,false),(11,true)] mixed (by rfl) (by kernel_rfl) (Step.drew _ _) ?_
 refine pq (λ_ hc=>Qp (hv.ext hc) Z Z)<|p (λ_=>Qm)<|p (λ_=>Qm)<|pic (i:=i) Z hX Z Z h8 λmw hY=>?_;rw[hs] at hY;refine pq (λ_ hc=>Qv (hY.ext hc) Z)<|p (λ_=>Qa Z)<|pq (λ_ hc=>Qd (hv.ext hc) Z Z)<|p (λ_=>Qm) <|
  pic (i:=k) Z hD.al Z Z V λmx hZ=>?_
 rw[hu] at hZ;refine pq (λ_ hc=>Qv (hZ.ext hc) Z)<|pk<|xf<|hsr.mono ?_;rintro my hw ⟨rfl,kf⟩;have hm:=(Step.drew [] hC).trans kf;refine ⟨hm,p (λ_=>Qe)<|pe ?_⟩;have hn:=J.ext hm;have kg:=hv.ext hm;have kh:=hX.ext hm;refine Qc<|Qb<|x (ZZ Z Z)<|xe<|QC rfl (λhE=>?_) (λhE=>?_)
 ·rw[if_neg hE] at I;refine Qi<|Qx<|Qb<|QQ Z Z<|Qf ?_;exact ⟨(k+1,E,vd),by simp only[];omega,Lb,V,hn,by simp only[];omega,I⟩
 rw[if_pos hE] at I;have ki:=Qq J.e;have kj:QL (b4::ob vd) hw.heap va a.al:=(((h5.al.up (L':=b4::ob vd) (λb hb=>by
  rcases Lh.1 hb with rfl | hb
  ·exact .inl (by simp)
  exact .inr (ki b hb).1)).step J.st (by simp)).ext hm)
 have kk:=QY hn.e hg;have kn:b1∉ob vd:=QY hn.e (by omega);refine QU (Step (ob vd) hw) [(0,true),(1,true),(2,true),(3,true),(4,true),(5,true),(6,true),(7,true),(8,true),(9,true),(10,false),(11,true),(12,false),(13,false),(14,true),(15,false)] mixed (by rfl) (by kernel_rfl) (Step.drew _ _) ?_
 refine p (λ_=>Qa Z)<|pq (λ_ hc=>Qd (hn.B.step hc kk) Z Z)<|p (λ_=>Qm)<|p (λ_=>Qa Z)<|pq (λ_ hc=>Qd (kg.step hc kn) Z Z) <|
  p (λ_=>Qm)<|pic (i:=k) Z kj Z Z V λmz ga=>?_
 rw[hu] at ga;refine pq (λ_ hc=>Qv (ga.step hc (λb hb=>Lk _ hb)) Z)<|p (λ_=>Qm)<|p (λ_=>Qm) <|
  pk<|xf<|(QgP (kh.ext (Step.drew [] hw)) t).mono ?_
 rintro m0 m1 ⟨rfl,rfl⟩;refine ⟨Step.drew _ _,p (λ_=>QN ⟨Z,Z,Z,La⟩)<|pk<|QH (us:=[QB ((i:Int),u,z6 fd t)]) Z Z (by decide) (by exact (by decide:1*3≤1000000)) ⟨Z,Z,La⟩ λm2 m3 ko m4 kp=>?_⟩;have hF:=(Step.drew [] hw).trans ko;have hp:=hn.ext hF;refine ⟨hF.any,?_⟩
 refine pk<|Q6 (news:=QB ((i:Int),u,z6 fd t)) (L:=[]) hp.e Z Z Z (kp.at (by simp)) (λy hy=>by simp only[QB,List.mem_cons,List.not_mem_nil,or_false] at hy;rcases hy with rfl | rfl | rfl <;> rfl) (by omega) hp.st.size λgb kq kr hG kt=>⟨(hF.any (L:=ob vd)).trans' hG,?_⟩
 have gc:Ye 129 w7.heap.size kq gb (E++[((i:Int),u,z6 fd t)]):=Ye.snoc kr;refine p (λ_=>Qa Z)<|pkl (hl:=by kernel_rfl)<|QF (hp.B.step hG (QY hp.e hg)) Z Z (by simp) (Ye.eds (L:=[]) gc (by simp;omega) (by simp)).one λm5 ku kv =>
  pe ?_
 have kw:=hp.setE hg hG gc kt ku kv;refine Qx<|Qb<|QQ Z Z<|Qf<|⟨(k+1,E++[((i:Int),u,z6 fd t)],gb),by simp only[];omega,Lb,V,kw,by simp;omega,?_⟩;simp only[List.append_assoc,List.singleton_append];exact I
end Go.Proofs.YtjcgijbhaemldaaGreatDoor
namespace Go.Lg
section
variable {P:Program} {f:Fr} {w:World} {d:Option Nat} {ty:Nat} {ps:String} {af:Array Edge} {gd:Option (Nat×Bool)}
theorem zB {t H:Nat}{x y:Operand}{k:IntKind}{a b:Int}(hx:ev f x=.int k a) (hy:ev f y=.int k b) (ha:0≤a) (hb:0<b) :
  (execOp (ev f) ⟨d,.binOp .rem t x y H,ty,ps,af,gd⟩).run P w=.ok (.value (.int k (a % b))) w:=by
 refine X4 hx hy ?_;have h1:¬b=0:=by omega
 simp[binOp,Op.intDiv,h1,Int.tmod_eq_emod_of_nonneg ha]
end
end Go.Lg
namespace Go.Proofs.YtjcgijbhaemldaaGreatDoor
open Go.Proofs.Tryz
open Go.Lg
theorem Qeh (m:Nat) (hm:m<256) (w:World):QG prog 32 [.int .u8 m] w λr w'=>Step [] w w'∧Qs 3 w.heap.size w' r (setK m 5):=by
 refine QG.of_W func32 Z ntmps32 results32 (by simp) ?_;refine Qc<|Qf<|Qc<|Qf<|Qg<|Qc<|Qf<|Qh<|Qz (α:=Nat×Value) [(3,17)] (λz=>[(3,z.2),(4,.int .i64 z.1)]) (λz w'=>z.1≤5∧Step [] w w'∧Qs 3 w.heap.size w' z.2 (setK m z.1)) (λz=>5 - z.1) (by rfl) (0,nS) ⟨Z,Z,La⟩
  ⟨Ln _,Step.refl _ _,QP _ _ _ _⟩ ?_
 rintro ⟨k,v⟩ g w1 ⟨hk,I,H⟩;simp only[] at hk H;have hi:=Jq m k;have hj:=I.size;refine Qg<|Qc<|Qb<|x (QA Z Z)<|xe<|QC rfl (λh6=>?_) (λh6=>?_)
 ·refine Qy<|Qc<|Qb<|Qf ?_;have ha:k=5:=by omega
  rw[ha] at H;exact Ql ⟨[v],Lb,I,H⟩
 have V:k<5:=by omega
 have hc:m / 2 ^ k<256:=Nw (Nat.div_le_self _ _) hm;have J:=U1 m k;refine Qi<|Qg<|Qh<|Qc<|Qb<|Qb<|x (zz (n:=k) Z Z (by show k≤8;omega))<|x (QdS (a:=m / 2 ^ k) (b:=1) (congrArg (Value.int .u8) (qP m k)) Z hc (by decide))<|x (Zr Z Z)<|xe<|QC rfl (λY=>?_) (λY=>?_)
 ·rw[if_neg (λe=>Y (by rw[e];rfl))] at J;refine Qi<|Qx<|Qb<|QQ Z Z<|Qf ?_;exact ⟨(k+1,v),by simp only[];omega,⟨Z,Z,La⟩,V,I,by simp only[];rw[J];exact H⟩
 rw[if_pos (by omega)] at J;refine Qx<|Qb<|Qb<|xl Z<|QH (us:=[[.int .i64 k]]) Z Z (by decide) (by simp) ⟨rfl,rfl,La⟩ λb15 w2 U hl he=>?_;have hf:=Qt H U;have hn:=U.size;refine xl rfl<|Q6 (news:=[.int .i64 k]) (L:=[]) hf Z Z Z (he.at (by simp)) (by simp[Value.oneCell']) (by omega) (by omega) λv3 w3 hg hh ho =>
  Qf ?_
 have hge:=Qq H;refine Qx<|Qb<|QQ Z Z<|Qf<|⟨(k+1,v3),by simp only[];omega,⟨Z,Z,La⟩,V,(I.trans U).then hh (λb hb=>.inr (hge b hb).1),?_⟩;simp only[];rw[J];exact Qs.snoc hg
instance ayMa1:Ay prog 23 5 22 5:=⟨by kernel_rfl,by kernel_rfl⟩
instance ayMa2:Ay prog 22 5 5 1:=⟨by kernel_rfl,by kernel_rfl⟩
abbrev bys (ns:LN):LV:=ns.map λn:Nat=>.int .u8 (n:Int)
theorem qm {ns:LN}{j:Nat}(h:j<ns.length):(bys ns)[j]?=some (.int .u8 ((ns.getD j 0:Nat):Int)):=by simp[bys,List.getD,h]
theorem yE:∀(ns:LN),ZP (bys ns)
 | []=>trivial
 | _::ns=>⟨rfl,yE ns⟩
theorem Vw {ns:LN}(h:∀n∈ns,n<256) (j:Nat):ns.getD j 0<256:=by
 by_cases hj:j<ns.length
 ·simp only[List.getD,List.getElem?_eq_getElem hj,Option.getD_some];exact h _ (Le hj)
 simp[List.getD,hj]
structure GrI (al:LI) (S i k:Nat) (M:LI) (E:List Ed):Prop where
 mb:∀x∈M,0≤x∧x<S
 mi:Z8 M
 ml:∀x∈M,x<(i:Int)+1
 mn:M.length≤S
 eb:∀e∈E,0≤e.1∧e.1<S∧e.2.1∈al∧0≤e.2.2∧e.2.2<S
 ei:E.Pairwise λx y=>x.1<y.1∨(x.1=y.1∧x.2.1<y.2.1)
 el:∀e∈E,e.1<i∨(e.1=i∧e.2.1∈al.take k)
 en:E.length≤i*5+k
theorem Qbd {S:Nat}{M:LI}(hb:∀x∈M,0≤x∧x<S) (hi:Z8 M):M.length≤S:=pig S M (hi.imp (λh=>by omega)) hb
theorem GrI.mark {al:LI}{S i:Nat}{M:LI}{E:List Ed}(h:GrI al S i 0 M E) (hm:∀x∈M,x<(i:Int)) (hi:i<S):GrI al S i 0 (M++[(i:Int)]) E:=by
 have H:∀x∈M++[(i:Int)],0≤x∧x<S:=λx hx=>by
  rcases Lp.1 hx with hx | hx
  ·exact h.mb x hx
  simp only[List.mem_singleton] at hx;omega
 have I:Z8 (M++[(i:Int)]):=by
  refine MF.2 ⟨h.mi,by simp,λx hx y hy=>?_⟩;simp only[List.mem_singleton] at hy;subst hy;exact hm x hx
 refine ⟨H,I,λx hx=>?_,Qbd H I,h.eb,h.ei,h.el,h.en⟩;rcases Lp.1 hx with hx | hx
 ·have:=hm x hx;omega
 simp only[List.mem_singleton] at hx;omega
theorem GrI.skip {al:LI}{S i k:Nat}{M:LI}{E:List Ed}(h:GrI al S i k M E) (hk:k<al.length):GrI al S i (k+1) M E :=
 ⟨h.mb,h.mi,h.ml,h.mn,h.eb,h.ei,λe he=>(h.el e he).imp id (λx=>⟨x.1,by rw[Lj hk];exact Lz _ x.2⟩),by have:=h.en;omega⟩
theorem GrI.edge {al:LI}{S i k:Nat}{M:LI}{E:List Ed}(h:GrI al S i k M E) (hk:k<al.length) (ha:Z8 al) (hi:i<S) {t:Int}(H:0≤t) (ht:t<S):GrI al S i (k+1) M (E++[((i:Int),cget al k,t)]):=by
 have I:cget al k∈al:=Jy hk;refine ⟨h.mb,h.mi,h.ml,h.mn,λe he=>?_,?_,λe he=>?_,by have:=h.en;simp;omega⟩
 ·rcases Lp.1 he with he | he
  ·exact h.eb e he
  simp only[List.mem_singleton] at he;subst he;exact ⟨by simp only[];omega,by simp only[];omega,I,H,ht⟩
 ·refine MF.2 ⟨h.ei,by simp,λx hx y hy=>?_⟩;simp only[List.mem_singleton] at hy;subst hy;rcases h.el x hx with h1 | ⟨h1,h2⟩
  ·left;exact h1
  right;refine ⟨h1,?_⟩;simp only[];have hp:Z8 (al.take k++al.drop k):=by rw[ML];exact ha
  refine (MF.1 hp).2.2 _ h2 _ ?_;rw[LQ hk,Q9 hk];exact Lm
 rw[Lj hk,Q9 hk];rcases Lp.1 he with he | he
 ·exact (h.el e he).imp id (λx=>⟨x.1,Lz _ x.2⟩)
 simp only[List.mem_singleton] at he;subst he;exact .inr ⟨Z,L4 _ (by simp)⟩
theorem GrI.next {al:LI}{S i k:Nat}{M:LI}{E:List Ed}(h:GrI al S i k M E) (hk:k≤5):GrI al S (i+1) 0 M E :=
 ⟨h.mb,h.mi,λx hx=>by have:=h.ml x hx;omega,h.mn,h.eb,h.ei,λe he=>by rcases h.el e he with h1 | h1 <;> (left;omega),by have:=h.en;omega⟩
set_option maxHeartbeats 2000000 in
theorem jM {L:LN}{w:World}{v:Value}{al:LI}{ns:LN}(h:QL L w.heap v al) (hb:∀e∈al,0≤e∧e<32) (hi:Z8 al) (hn:ns.length=27) (hr:∀n∈ns,n<256) :
  QG prog 30 [v,.agg (bys ns).toArray] w λr w'=>Step [] w w'∧∃a:QD,JY w.heap.size w'.heap r a∧QM a∧a.st≤5∧a.al=al ∧
   (ns.getD 0 0<250→∃a0:QD,QM a0∧0<a0.st∧a0.st≤((1+ns.getD 0 0 % 5:Nat):Int)∧a=YX a0):=by
 have k4:al.length≤32:=pig 32 al (hi.imp (λh=>by omega)) (λx hx=>by have:=hb x hx;omega);refine QG.of_W func30 Z ntmps30 results30 (by simp) ?_;have g0:=qm (ns:=ns) (j:=0) (by omega);have g1:=qm (ns:=ns) (j:=1) (by omega);have l0:=Vw hr 0;have l1:=Vw hr 1;refine Zh (ns.getD 0 0) λs0 hY=>?_;refine Zh (ns.getD 1 0) λm1 hZ=>?_;rw[hY] at g0 l0;rw[hZ] at g1 l1
 refine Qc<|xl Z<|QR (us:=bys ns) Z λb3 w1 ga k5 h5=>xl Z<|Qu (us:=[nS,.int .i64 0,nS,nS]) Z λb4 w2 h6 k6 hs=>xe ?_;have hp:=ga.trans h6;have hu:=h5.ext h6;have k7:=h5.lt;have k8:=hs.lt;refine Qg<|Qc<|x (Qa Z)<|x (Qd hu Z g0)<|x (ZZ Z Z)<|xe<|Q3 rfl (λgb=>?_) (λgb=>?_)
 ·refine Qc<|Qb<|xl Z<|xf<|(qe (h.ext hp) (by omega)).mono ?_;rintro r3 w3 ⟨h7,vcl,rfl,V⟩;have hv:=Qs.ints (L:=[]) V (by omega) (by simp);refine xl Z<|Qn (us:=[vcl,.int .i64 0,nS,nS]) (hs.ext h7) Z Z Z Z ⟨hv.one,Z,Z,Z,La⟩ λw4 h8 gc=>xe ?_;have ge:=Qk V h8 (λb hb=>by have:=(Qq V b hb).1;simp;omega)
  refine Ql ⟨[.agg #[vcl,.int .i64 0,nS,nS]],⟨⟨_,Z,Qw Z (gc.at (L:=[]) (by simp)).cells⟩,La⟩,(hp.trans h7).then1 h8 (by omega),⟨al,0,[],[]⟩,?_,?_,(by decide:(0:Int)≤5),rfl,λh=>absurd h (by omega)⟩
  ·exact ⟨vcl,_,_,Z,λL' gg=>⟨Qs.ints ge (by show al.length≤_;omega) (λb hb=>by have:=gg b hb;omega),ZA.nil _ _ _,ZA.nil _ _ _⟩⟩
  exact ⟨hb,hi,(by decide:(0:Int)≤0),(by decide:(0:Int)≤4096),by simp,by simp,by simp,by simp⟩
 refine Qi<|Qc<|Qb<|xl Z<|xf<|(qe (h.ext hp) (by omega)).mono ?_;rintro r5 w5 ⟨h9,vcl,rfl,V⟩;have hv:=Qs.ints (L:=[]) V (by omega) (by simp);refine xl rfl<|Qu (us:=[nS,.int .i64 0,nS,nS]) Z λI w6 gh gi gk =>
  xl rfl<|Qn (us:=[vcl,.int .i64 0,nS,nS]) gk Z Z Z Z ⟨hv.one,Z,Z,Z,La⟩ λw7 gl hA=>xe ?_
 have hB:Step [] w5 w7:=gh.then1 gl gi;have hh:=h9.trans hB;have k9:=h9.size;have ma:=hA.lt;refine Zh (1+s0 % 5) λS hS=>?_;have gm:(1:Int)+(s0:Int) % 5=(S:Int):=by omega
 refine Qc<|x (Qa Z)<|x (Qd (hu.ext hh) Z g0)<|x (zB (a:=(s0:Int)) (b:=5) Z Z (by omega) (by omega))<|x (Xy (k':=.i64) Z ⟨by omega,by omega⟩)<|QQ Z Z<|x (Qa Z) <|
  xl rfl<|QF (u:=.int .i64 S) hA Z (congrArg (Value.int .i64) gm) (by simp) rfl λJ he gn=>xe ?_
 have mc:=he.size;have mf:Step [I] w2 J:=(hh.any (L:=[I])).trans' he;have hC:Step [] w J:=(hp.trans hh).then1 he (by omega);have hD:QL [I] J.heap v al:=(h.up (L':=[I]) (λb hb=>.inr (by simp at hb;omega))).ext hC;have gq:Qs 3 w2.heap.size J vcl al:=Qk (Qt V hB) he (λb hb=>by have:=Q2 V b hb;simp;omega);have hE:=(hu.ext hh).step he (by simp;omega)
 have gr:=(hs.ext hh).step he (by simp;omega);have hj:I<J.heap.size:=by omega
 have n3:b3∉[I]:=by simp;omega
 have n4:b4∉[I]:=by simp;omega
 refine Qg<|Qc<|Qf<|Qh<|Qz (α:=Nat×Value×Value×LI×List Ed) [(6,8),(22,76)] (λz=>[(6,.int .i64 z.1)])
  (λz w'=>z.1≤S∧CrI J I vcl S z.2.1 z.2.2.1 z.2.2.2.1 z.2.2.2.2 w'∧GrI al S z.1 0 z.2.2.2.1 z.2.2.2.2∧∀x∈z.2.2.2.1,x<(z.1:Int)) (λz=>S - z.1) (by rfl) (0,nS,nS,[],[]) Lb
  ⟨Ln _,⟨Step.refl _ _,gn,QP _ _ _ _,QP _ _ _ _,Dj.nil' _⟩,⟨by simp,by simp,by simp,by simp,by simp,by simp,by simp,by simp⟩,by simp⟩ ?_
 rintro ⟨i,v1,v2,M,E⟩ g9 w9 ⟨gs,H,U,hM⟩;simp only[] at gs H U hM;have mg:=U.mn;have mh:=U.en;refine Qg<|Qc<|Qb<|x (Qa Z)<|x (Qd H.B Z Z)<|x (QA Z Z)<|xe<|QC rfl (λgt=>?_) (λgt=>?_)
 ·have mj:i=S:=by omega
  refine Qy ?_;have gu:=Qs.ints (L:=[]) H.m (by omega) (by simp);have gv:=Ye.eds (L:=[]) H.e (by omega) (by simp);have gx:Qs 3 w2.heap.size w9 vcl al:=Qk gq H.st (λb hb=>by have:=Q2 V b hb;simp;omega);have gy:Zq [] w9.heap vcl v1 v2 ⟨al,(S:Int),M,E⟩:=⟨Qs.ints gx (by show al.length≤_;omega) (by simp),gu,gv⟩
  have hw:QM ⟨al,(S:Int),M,E⟩:=⟨hb,hi,by simp only[];omega,by simp only[];omega,U.mb,U.mi,U.eb,U.ei⟩;have hz:=Qbu hw;have hH:Step [] w w9:=hC.then1 H.st (by omega);have gz:=gr.step H.st n4;have mo:=H.st.size;refine Qc<|x (Qp H.B Z Z)<|xl Z<|xf<|(ji (a:=⟨al,(S:Int),M,E⟩) gy hw).mono ?_;rintro vr mq ⟨hJ,hF⟩;obtain ⟨us,hK,hL,g2⟩:=V6 hF
  refine xl Z<|Qn (us:=us) (gz.ext hJ) Z hK hL Z g2 λms hN g3=>xe ?_;have g4:=hH.size;refine Ql ⟨[.agg us.toArray],⟨⟨_,Z,Qw hL (g3.at (L:=[]) (by simp)).cells⟩,La⟩,(hH.trans hJ).then1 hN (by omega),YX ⟨al,(S:Int),M,E⟩,?_,hz.1,?_,hz.2.1,λ_=>⟨⟨al,(S:Int),M,E⟩,hw,by simp only[];omega,by simp only[];omega,Z⟩⟩
  ·show JY _ _ (.agg us.toArray) _;rw[←hK];exact (US hF (by omega) hN).mono g4
  have:=hz.2.2;simp only[] at this;omega
 have h0:i<S:=by omega
 refine Qi<|Qg<|Qh<|QZ (α:=Value×LI) [(28,39)] (λz=>[]) (λz w'=>CrI J I vcl S z.1 v2 z.2 E w'∧GrI al S i 0 z.2 E) (by rfl) ?_ ?_
 ·have g5:m1 / 2 ^ i<256:=Nw (Nat.div_le_self _ _) l1;refine Qc<|x (Qa Z)<|x (Qd (hE.step H.st n3) Z g1)<|Qb<|x (zz (n:=i) Z Z (by show i≤8;omega))<|x (QdS (a:=m1 / 2 ^ i) (b:=1) (congrArg (Value.int .u8) (qP m1 i)) Z g5 (by decide))<|x (Zr Z Z)<|xe<|QC Z (λg6=>?_) (λg6=>?_)
  ·refine Qi ?_;exact ⟨(v1,M),La,H,U⟩
  refine Qx<|x (Qa Z)<|x (Qd H.B Z Z)<|Qb<|xl Z<|QH (us:=[[.int .i64 i]]) Z Z (by decide) (by simp) ⟨rfl,rfl,La⟩ λmt mu g7 mv g8=>?_;have hm:=H.ext g7;refine xl Z<|Q6 (news:=[.int .i64 i]) (L:=[]) hm.m Z Z Z (g8.at (by simp)) (by simp[Value.oneCell']) (by omega) hm.st.size λhO ka kb hP kc=>?_;have hQ:Qs 3 J.heap.size ka hO (M++[(i:Int)]):=Qs.snoc kb
  refine x (Qa Z)<|xl Z<|QF (hm.B.step hP (QY hm.m hj)) Z Z (by simp) (Qs.ints (L:=[]) hQ (by simp;omega) (by simp)).one λmw ke kf =>
   xe ?_
  exact ⟨(hO,M++[(i:Int)]),La,hm.setM hj hP hQ kc ke kf,U.mark hM h0⟩
 rintro ⟨v3,M3⟩ mx my ⟨hR,hT⟩;simp only[] at hR hT;refine Qc<|Qf<|Qh<|Qz (α:=Nat×Value×List Ed) [(7,8),(40,76)] (λz=>[(7,.int .i64 z.1)])
  (λz w'=>z.1≤al.length∧z.1≤5∧CrI J I vcl S v3 z.2.1 M3 z.2.2 w'∧GrI al S i z.1 M3 z.2.2) (λz=>5 - z.1) (by rfl) (0,v2,E) Lb
  ⟨Ln _,Ln _,hR,hT⟩ ?_
 rintro ⟨k,vd,F⟩ mz kg ⟨hk,hU,hf,hg⟩;simp only[] at hk hU hf hg;have kh:=hD.st hf.st;have m0:=hg.en;refine Qg<|QZ (α:=Unit) [(40,47)] (λz=>[(47,.bool (decide (k<al.length∧k<5)))]) (λz w'=>w'=kg) (by rfl) ?_ ?_
 ·refine Qx<|Qb<|Qb<|x (Qr kh Z)<|xb (QA Z Z) (λhV=>?_) (λhV=>?_)
  ·refine Qb<|Qb<|x (QA Z Z)<|x (Qo Z)<|xe<|⟨(),⟨congrArg Value.bool ?_,La⟩,Z⟩;exact decide_eq_decide.2 ⟨λe=>⟨by omega,by omega⟩,λe=>by omega⟩
  refine Qb<|xs Z<|xs Z<|x (Qo Z)<|xe ?_;exact ⟨(),⟨congrArg Value.bool (decide_eq_false (λe=>hV (by omega))).symm,La⟩,Z⟩
 rintro _ m2 Y rfl;refine QC rfl (λh1=>?_) (λh1=>?_)
 ·refine Qy<|Qx<|Qb<|QQ Z Z<|Qf ?_;exact ⟨(i+1,v3,vd,M3,F),by simp only[];omega,Lb,h0,hf,hg.next hU,λx hx=>by have:=hg.ml x hx;simp only[];omega⟩
 have hk1:k<al.length:=h1.1;have h2:k<5:=h1.2;have gj:=qm (ns:=ns) (j:=0+2+i*5+k*1) (by omega);have lj:=Vw hr (0+2+i*5+k*1);refine Zh (ns.getD (0+2+i*5+k*1) 0) λq hq=>?_;rw[hq] at gj lj;have ki:=hE.step hf.st n3;have kj:0≤(q:Int) % ((S:Int)+2):=Int.emod_nonneg _ (by omega)
 refine Qi<|Qg<|Qh<|Qg<|QU (Step [] Y) [(0,true),(1,true),(2,true),(3,true),(4,true),(5,true),(6,true),(7,true),(8,true),(9,true),(10,true),(11,true)] mixed (by rfl) (by kernel_rfl) (Step.drew _ _) ?_;refine p (λ_=>Qm)<|p (λ_=>Qm)<|p (λ_=>Qa Z)<|p (λ_=>Xi (i:=i) Z Z (by omega))<|p (λ_=>Xi (i:=k) Z Z h2)<|pq (λ_ hc=>Qd (ki.ext hc) Z gj) <|
  p (λ_=>Xy (k':=.i64) Z ⟨by omega,by omega⟩)<|p (λ_=>Qa Z)<|pq (λ_ hc=>Qd (hf.B.ext hc) Z Z)<|p (λ_=>JL Z Z ⟨by omega,by omega⟩) <|
  p (λ_=>zB (a:=(q:Int)) (b:=(S:Int)+2) Z Z (by omega) (by omega))<|p (λ_=>Qe)<|pe ?_
 have ha:=hf.ext (Step.drew [] Y);refine Zh ((q:Int) % ((S:Int)+2)) λt ht=>?_;refine Qc<|Qb<|x (Qa Z)<|x (Qd ha.B Z Z)<|x (QA Z Z)<|xe<|QC rfl (λkk=>?_) (λkk=>?_)
 ·refine Qi<|Qx<|Qb<|QQ Z Z<|Qf ?_;exact ⟨(k+1,vd,F),by simp only[];omega,Lb,hk1,h2,ha,hg.skip hk1⟩
 have kn:=Qq ha.e;have ko:QL (I::ob vd) { Y with drawn:=Y.drawn+1 }.heap v al:=((hD.up (L':=I::ob vd) (λb hb=>by
  rcases Lh.1 hb with rfl | hb
  ·exact .inl (by simp)
  exact .inr (kn b hb).1)).step ha.st (by simp))
 have kp:=QY ha.e hj;refine QU (Step (ob vd) { Y with drawn:=Y.drawn+1 }) [(0,true),(1,true),(2,true),(3,true),(4,true),(5,true),(6,true),(7,true),(8,true),(9,false),(10,false),(11,true),(12,false)] mixed (by rfl) (by kernel_rfl) (Step.drew _ _) ?_
 refine p (λ_=>Qa Z)<|pq (λ_ hc=>Qd (ha.B.step hc kp) Z Z)<|p (λ_=>Qm)<|p (λ_=>Qm)<|p (λ_=>Qm) <|
  pic (i:=k) Z ko Z Z hk1 λm3 kq=>pq (λ_ hc=>Qv (kq.step hc (λb hb=>Lk _ hb)) Z)<|p (λ_=>Qm)<|p (λ_=>QN ⟨Z,Z,Z,La⟩) <|
  pk<|QH (us:=[QB ((i:Int),cget al k,(q:Int) % ((S:Int)+2))]) Z Z (by decide) (by exact (by decide:1*3≤1000000)) ⟨Z,Z,La⟩ λm4 m5 kr m6 kt=>?_
 have h3:=(Step.drew [] { Y with drawn:=Y.drawn+1 }).trans kr
 have ho:=ha.ext h3;refine ⟨h3.any,?_⟩;refine pk<|Q6 (news:=QB ((i:Int),cget al k,(q:Int) % ((S:Int)+2))) (L:=[]) ho.e Z Z Z (kt.at (by simp)) (λy hy=>by simp only[QB,List.mem_cons,List.not_mem_nil,or_false] at hy;rcases hy with rfl | rfl | rfl <;> rfl) (by omega) ho.st.size λhW ku kv h4 kw=>⟨(h3.any (L:=ob vd)).trans' h4,?_⟩
 have hX:Ye 129 J.heap.size ku hW (F++[((i:Int),cget al k,(q:Int) % ((S:Int)+2))]):=Ye.snoc kv;refine p (λ_=>Qa Z)<|pkl (hl:=by kernel_rfl)<|QF (ho.B.step h4 (QY ho.e hj)) Z Z (by simp) (Ye.eds (L:=[]) hX (by simp;omega) (by simp)).one λm7 kx kz=>pe ?_;have k0:=ho.setE hj h4 hX kw kx kz;refine Qx<|Qb<|QQ Z Z<|Qf ?_
 exact ⟨(k+1,hW,F++[((i:Int),cget al k,(q:Int) % ((S:Int)+2))]),by simp only[];omega,Lb,hk1,h2,k0,hg.edge hk1 hi h0 kj (by omega)⟩
end Go.Proofs.YtjcgijbhaemldaaGreatDoor
namespace Go.Lg
section
variable {P:Program} {f:Fr} {w:World} {d:Option Nat} {ty:Nat} {ps:String} {af:Array Edge} {gd:Option (Nat×Bool)}
theorem QgE {t sz:Nat}[Ag P t sz] {x:Operand}{b o T:Nat}{cs us:LV}(h:QT w.heap b T cs) (hx:ev f x=.pointer (some ⟨b,o,none⟩)) (hl:us.length=sz) (H:∀j u,us[j]?=some u→cs[o+j]?=some u) :
  (execOp (ev f) ⟨d,.load t x,ty,ps,af,gd⟩).run P w=.ok (.value (.agg us.toArray)) w:=by
 refine qS hx hl λj u hu=>?_;rw[Jm,YM,h.cell];exact H j u hu
end
end Go.Lg
namespace Go.Proofs.YtjcgijbhaemldaaGreatDoor
open Go.Proofs.Tryz
open Go.Lg
theorem Qmz {ns:LN}{o n:Nat}:∀j u,(bys ((ns.drop o).take n))[j]?=some u→(bys ns)[o+j]?=some u:=by
 intro j u h;simp only[bys,List.getElem?_map,List.getElem?_take,List.getElem?_drop] at h ⊢;split at h
 ·exact h
 cases h
theorem QmA {ns:LN}(h:∀n∈ns,n<256) (o n:Nat):∀m∈(ns.drop o).take n,m<256:=λm hm=>h m (MO (L2 hm))
theorem Qk0 (m k:Nat):∀e∈setK m k,0≤e∧e<k:=by
 intro e he;simp only[setK,List.mem_map,List.mem_filter,List.mem_range'_1] at he;obtain ⟨i,⟨hi,_⟩,rfl⟩:=he;omega
theorem qV (keep:Bool→Bool→Bool):∀(n:Nat) (a b:LI),a.length+b.length≤n→Z8 a→Z8 b→Z8 (mrg keep a b):=by
 intro n;induction n with
 | zero =>
  intro a b h _ _;have ha:a=[]:=Lt (by omega);have hb:b=[]:=Lt (by omega);subst ha hb;rw[Kk];exact List.Pairwise.nil
 | succ n ih =>
  intro a b I ia ib;by_cases h:a=[]∧b=[]
  ·obtain ⟨rfl,rfl⟩:=h;rw[Kk];exact List.Pairwise.nil
  have J:=ya h;have itl:∀(c:Bool) (l:LI),Z8 l→Z8 (tl c l):=λc l hl=>by
   cases c
   ·exact hl
   cases l with
   | nil=>exact hl
   | cons y l=>exact hl.tail
  have H:=ih (tl (Jg a b) a) (tl (Jg b a) b) (by omega) (itl _ _ ia) (itl _ _ ib);rw[J5 keep h];cases keep (Jg a b) (Jg b a) with
  | false=>simpa using H
  | true =>
   simp only[cond_true,List.singleton_append];refine L3.2 ⟨λx hx=>?_,H⟩;have hm:=(Kl (itl _ _ ia) (itl _ _ ib) x).1 hx;cases a with
   | nil =>
    cases b with
    | nil=>exact absurd ⟨Z,Z⟩ h
    | cons y b =>
     simp only[Jg,tl,cond_true,cond_false,List.tail_cons,List.not_mem_nil,false_or,Go.Proofs.YtjcgijbhaemldaaGreatDoor.hx,List.headD_cons] at hm ⊢;exact ib.lt_of hm.1
   | cons u a =>
    cases b with
    | nil =>
     simp only[Jg,tl,cond_true,cond_false,List.tail_cons,List.not_mem_nil,or_false,Go.Proofs.YtjcgijbhaemldaaGreatDoor.hx,List.headD_cons] at hm ⊢;exact ia.lt_of hm.1
    | cons y b =>
     rcases Int.lt_trichotomy u y with h1 | h1 | h1
     ·have e1:decide (u≤y)=true:=decide_eq_true (by omega);have e2:decide (y≤u)=false:=decide_eq_false (by omega);simp only[Jg,tl,e1,e2,cond_true,cond_false,List.tail_cons,Go.Proofs.YtjcgijbhaemldaaGreatDoor.hx,List.headD_cons] at hm ⊢;rcases hm.1 with h2 | h2
      ·exact ia.lt_of h2
      rcases Lh.1 h2 with h2 | h2
      ·omega
      have:=ib.lt_of h2;omega
     ·have e1:decide (u≤y)=true:=decide_eq_true (by omega);have e2:decide (y≤u)=true:=decide_eq_true (by omega);simp only[Jg,tl,e1,e2,cond_true,List.tail_cons,Go.Proofs.YtjcgijbhaemldaaGreatDoor.hx,List.headD_cons] at hm ⊢;rcases hm.1 with h2 | h2
      ·have:=ia.lt_of h2;omega
      have:=ib.lt_of h2;omega
     have e1:decide (u≤y)=false:=decide_eq_false (by omega);have e2:decide (y≤u)=true:=decide_eq_true (by omega);simp only[Jg,tl,e1,e2,cond_true,cond_false,List.tail_cons,Go.Proofs.YtjcgijbhaemldaaGreatDoor.hx,List.headD_cons] at hm ⊢;rcases hm.1 with h2 | h2
     ·rcases Lh.1 h2 with h2 | h2
      ·omega
      have:=ia.lt_of h2;omega
     exact ib.lt_of h2
end Go.Proofs.YtjcgijbhaemldaaGreatDoor
namespace Go.Lg
section
variable {P:Program} {f:Fr} {w:World} {d:Option Nat} {ty:Nat} {ps:String} {af:Array Edge} {gd:Option (Nat×Bool)} {all:List Oper} {C:World→Prop} {K:Fr→World→Prop}
theorem tf {pre:List (Nat×Bool)}{i j:Nat}{H I:Pt}(h:XP P all C (λf w=>(Yi all f (QK all i)=true∧XO P (QK all i) f w λE w'=>C w'∧XT P all C K H E w') ∧
   (Yi all f (QK all j)=true∧XO P (QK all j) f w λE w'=>C w'∧XT P all C K I E w')) pre f w):XT P all C K (.fk pre i j H I) f w:=h
theorem tp {l:List (Nat×Bool)}(h:XP P all C K l f w):XT P all C K (.pl l) f w:=h
end
end Go.Lg
namespace Go.Proofs.YtjcgijbhaemldaaGreatDoor
open Go.Lg
theorem Z8.ext:∀{a b:LI},Z8 a→Z8 b→(∀x,x∈a↔x∈b)→a=b
 | [],[],_,_,_=>rfl
 | [],y::b,_,_,h=>by have:=(h y).2 Lm;cases this
 | x::a,[],_,_,h=>by have:=(h x).1 Lm;cases this
 | x::a,y::b,ia,ib,h=>by
  have e:x=y:=by
   have h1:=(h x).1 Lm;have h2:=(h y).2 Lm;rcases Lh.1 h1 with h1 | h1
   ·exact h1
   rcases Lh.1 h2 with h2 | h2
   ·exact h2.symm
   have:=ib.lt_of h1;have:=ia.lt_of h2;omega
  subst e;congr 1;refine Z8.ext ia.tail ib.tail λz=>?_;have H:=h z;constructor
  ·intro hm;have:=H.1 (Lk _ hm);rcases Lh.1 this with h1 | h1
   ·have:=ia.lt_of hm;omega
   exact h1
  intro hm;have:=H.2 (Lk _ hm);rcases Lh.1 this with h1 | h1
  ·have:=ib.lt_of hm;omega
  exact h1
theorem XR (es:List Ed) (s v:Int):nxt es s v=match eget es s v with | some u=>u | none=>-1:=by
 induction es with
 | nil=>rfl
 | cons e es ih =>
  rw[nxt,eget];split
  ·rfl
  exact ih
theorem zI {a:QD}(H:QM a) (s v:Int):0≤nxt a.ed s v↔(eget a.ed s v).isSome=true:=by
 rw[XR];cases h:eget a.ed s v with
 | none=>simp
 | some u=>simp;exact (H.ed _ (ZV h)).2.2.2.1
end Go.Proofs.YtjcgijbhaemldaaGreatDoor
namespace Go.Lg
section
variable {P:Program} {f:Fr} {w:World} {d:Option Nat} {ty:Nat} {ps:String} {af:Array Edge} {gd:Option (Nat×Bool)}
end
end Go.Lg
namespace Go.Proofs.YtjcgijbhaemldaaGreatDoor
open Go.Lg
section
variable {w4 w w' w'':World} {b:Nat} {m q:Bool} {ve vd:Value} {E D:LI}
end
end Go.Proofs.YtjcgijbhaemldaaGreatDoor
namespace Go.Lg
section
variable {P:Program} {f:Fr} {w:World} {d:Option Nat} {ty:Nat} {ps:String} {af:Array Edge} {gd:Option (Nat×Bool)}
end
end Go.Lg
namespace Go.Proofs.YtjcgijbhaemldaaGreatDoor
open Go.Lg
def grid (g:Nat→Int→Option Ed) (vs:LI) (n:Nat):List Ed:=(List.range' 0 n).flatMap λj=>vs.filterMap (g j)
theorem qd (g:Nat→Int→Option Ed) (vs:LI) (n:Nat):grid g vs (n+1)=grid g vs n++vs.filterMap (g n):=by
 unfold grid;rw[Mi,LH];simp
theorem qy (l m:List Ed) (s v:Int):eget (l++m) s v=match eget l s v with | some u=>some u | none=>eget m s v:=by
 induction l with
 | nil=>rfl
 | cons e l ih =>
  rw[Mm,eget,eget];split
  ·rfl
  exact ih
def yQ (g:Nat→Int→Option Ed):Prop:=∀j v e,g j v=some e→e.1=(j:Int)∧e.2.1=v
theorem QcP {g:Nat→Int→Option Ed}(E:yQ g) (j:Nat) (v:Int):∀(vs:LI),eget (vs.filterMap (g j)) j v=if v∈vs then (g j v).map (·.2.2) else none
 | []=>by simp[eget]
 | u::vs=>by
  have ih:=QcP E j v vs;rw[Mz];cases hu:g j u with
  | none =>
   simp only[];rw[ih];by_cases e:v=u
   ·subst e;simp[hu]
   simp[e]
  | some e =>
   have he:=E j u e hu;simp only[];rw[eget];by_cases e2:u=v
   ·subst e2;rw[if_pos he,if_pos Lm,hu];rfl
   rw[if_neg (λh=>e2 (he.2.symm.trans h.2)),ih];simp[Ne.symm e2]
theorem QcO {g:Nat→Int→Option Ed}(E:yQ g) {j i:Nat}(h:j≠i) (v:Int) (vs:LI):eget (vs.filterMap (g j)) i v=none:=by
 refine Ka λe he h2=>?_;obtain ⟨u,_,hu⟩:=MD.1 he;have:=E j u e hu;omega
theorem j5 {g:Nat→Int→Option Ed}(E:yQ g) (vs:LI) (j:Nat) (v:Int):∀n,eget (grid g vs n) j v=if j<n∧v∈vs then (g j v).map (·.2.2) else none
 | 0=>by simp[grid,eget]
 | n+1=>by
  rw[qd,qy,j5 E vs j v n];by_cases e:j=n
  ·subst e;rw[if_neg (by omega),QcP E];simp
  rw[QcO E (Ne.symm e)];by_cases h:j<n∧v∈vs
  ·rw[if_pos h,if_pos ⟨by omega,h.2⟩];cases (g j v).map (·.2.2) <;> rfl
  rw[if_neg h,if_neg (λh2=>h ⟨by omega,h2.2⟩)]
theorem QcE {g:Nat→Int→Option Ed}{vs:LI}{n:Nat}{e:Ed}(h:e∈grid g vs n):∃j v,j<n∧v∈vs∧g j v=some e:=by
 unfold grid at h;obtain ⟨j,hj,h2⟩:=MJ.1 h;obtain ⟨v,E,h3⟩:=MD.1 h2;rw[L5] at hj;exact ⟨j,v,by omega,E,h3⟩
theorem QfO {g:Nat→Int→Option Ed}(E:yQ g) {vs:LI}(hi:Z8 vs):∀n,(grid g vs n).Pairwise λx y:Ed=>x.1<y.1∨(x.1=y.1∧x.2.1<y.2.1)
 | 0=>by simp[grid]
 | n+1=>by
  rw[qd,MF];refine ⟨QfO E hi n,Jd (r:=(·<·)) (λx y u v U hu H=>?_) hi,λe he I J=>?_⟩
  ·have h1:=E n x u hu;have h2:=E n y v H;right;omega
  obtain ⟨j,v,hj,_,h1⟩:=QcE he;obtain ⟨v',_,h2⟩:=MD.1 J;have h3:=E j v e h1;have h4:=E n v' I h2;left;omega
theorem QpI (l:List QD):∀(acc:LI),(∀a∈l,Z8 a.al)→Z8 acc→Z8 (l.foldl (λacc a=>mrg (· || ·) acc a.al) acc)∧∀x,x∈l.foldl (λacc a=>mrg (· || ·) acc a.al) acc↔x∈acc∨∃a∈l,x∈a.al:=by
 induction l with
 | nil=>intro acc _ h;exact ⟨h,λx=>by simp⟩
 | cons a l ih =>
  intro acc hl h;have ha:=hl a Lm;obtain ⟨h1,h2⟩:=ih (mrg (· || ·) acc a.al) (λb hb=>hl b (Lk _ hb)) (qV _ _ _ _ (Lv _) h ha);rw[LM];refine ⟨h1,λx=>?_⟩;rw[h2 x,Kl h ha];simp only[List.mem_cons,exists_eq_or_imp];constructor
  ·rintro (⟨h3 | h3,_⟩ | h3)
   ·exact .inl h3
   ·exact .inr (.inl h3)
   exact .inr (.inr h3)
  rintro (h3 | h3 | h3)
  ·exact .inl ⟨.inl h3,by simp[h3]⟩
  ·exact .inl ⟨.inr h3,by simp[h3]⟩
  exact .inr h3
theorem q6 {l:List QD}(h:∀a∈l,QM a):Z8 (evs l):=(QpI l [] (λa ha=>(h a ha).ali) (by simp)).1
theorem ZC {l:List QD}(h:∀a∈l,QM a) (x:Int):x∈evs l↔∃a∈l,x∈a.al:=by
 have:=(QpI l [] (λa ha=>(h a ha).ali) (by simp)).2 x;unfold evs;rw[this];simp
def syF (aa:List QD) (tup:List (LI)) (j:Nat) (v:Int):Option Ed:=(Q5 v aa (tup.getD j [])).map λu=>((j:Int),v,(tup.idxOf u:Int))
theorem QhC (aa:List QD) (tup:List (LI)):yQ (syF aa tup):=by
 intro j v e h;unfold syF at h;obtain ⟨u,_,rfl⟩:=LP.1 h;exact ⟨Z,Z⟩
theorem QcJ {α β:Type}{f g:α→Option β}:∀{l:List α},(∀x∈l,f x=g x)→l.filterMap f=l.filterMap g
 | [],_=>rfl
 | x::l,h=>by rw[Mz,Mz,h x Lm,QcJ (λy hy=>h y (Lk _ hy))]
theorem Qji {α β:Type}{f:α→Option β}{v:α}{e:β}(h:f v=some e):[v].filterMap f=[e]:=by rw[Mz,h];rfl
theorem Ql2 {α β:Type}{f:α→Option β}{v:α}(h:f v=none):[v].filterMap f=[]:=by rw[Mz,h];rfl
theorem QhD {aa:List QD}{tup:List (LI)}{j:Nat}{v:Int}(h:Q5 v aa (tup.getD j [])=none):syF aa tup j v=none:=by unfold syF;rw[h];rfl
theorem QbU {aa:List QD}{tup:List (LI)}{j:Nat}{v:Int}{u:LI}(h:Q5 v aa (tup.getD j [])=some u):syF aa tup j v=some ((j:Int),v,(tup.idxOf u:Int)):=by unfold syF;rw[h];rfl
def Clo (aa:List QD) (tup:List (LI)) (j:Nat) (vs:LI):Prop:=∀v∈vs,∀u,Q5 v aa (tup.getD j [])=some u→u∈tup
theorem K6 {tup r:List (LI)}{j:Nat}(h:j<tup.length):(tup++r).getD j []=tup.getD j []:=by simp[List.getD,List.getElem?_append_left h]
theorem QeV {aa:List QD}{tup r:List (LI)}{j:Nat}{vs:LI}(hj:j<tup.length) (hc:Clo aa tup j vs):vs.filterMap (syF aa (tup++r) j)=vs.filterMap (syF aa tup j):=by
 refine QcJ λv E=>?_;unfold syF;rw[K6 hj];cases hs:Q5 v aa (tup.getD j []) with
 | none=>rfl
 | some u =>
  have hu:=hc v E u hs;simp only[Option.map_some,Option.some.injEq,Prod.mk.injEq,true_and];rw[Mj,if_pos hu]
theorem Clo.pre {aa:List QD}{tup r:List (LI)}{j:Nat}{vs:LI}(hj:j<tup.length) (hc:Clo aa tup j vs):Clo aa (tup++r) j vs:=by
 intro v E u hu;rw[K6 hj] at hu;exact Lz _ (hc v E u hu)
theorem Ki {α:Type}{l:List α}{u:α}(h:l.Nodup) (hu:u∉l):(l++[u]).Nodup:=by
 rw[Mu];exact ⟨h,by simp,λa ha b hb=>by simp only[List.mem_singleton] at hb;subst hb;exact λe=>hu (by rw[←e];exact ha)⟩
theorem jr {aa:List QD}{i:Nat}:∀(vs:LI) (s E:Sy),i<s.tup.length→s.tup.Nodup→KP aa i (UT s i) vs s=some E →
  ∃r,E.tup=s.tup++r∧E.mk'=s.mk'∧E.ed=s.ed++vs.filterMap (syF aa E.tup i)∧Clo aa E.tup i vs∧E.tup.Nodup
 | [],s,E,_,hd,e=>by cases e;exact ⟨[],by simp,rfl,by simp,λv hv=>(by cases hv),hd⟩
 | v::vs,s,E,hi,hd,e=>by
  rw[KP] at e;obtain ⟨H,h1,h2⟩:=L6.1 e;have key:∃J,H.tup=s.tup++J∧H.mk'=s.mk'∧H.ed=s.ed++[v].filterMap (syF aa H.tup i)∧Clo aa H.tup i [v]∧H.tup.Nodup:=by
   unfold syE at h1;have eT:UT s i=s.tup.getD i []:=rfl;rw[eT] at h1;cases hs:Q5 v aa (s.tup.getD i []) with
   | none =>
    rw[hs] at h1;cases h1
    refine ⟨[],by simp,rfl,by rw[Ql2 (QhD hs),List.append_nil],λv' hv' u hu=>?_,hd⟩;simp only[List.mem_singleton] at hv';subst hv';rw[hs] at hu;cases hu
   | some u =>
    rw[hs] at h1;simp only[] at h1;by_cases hu:u∈s.tup
    ·rw[if_pos hu] at h1;cases h1
     refine ⟨[],by simp,rfl,by rw[Qji (QbU hs)],λv' hv' u' I=>?_,hd⟩;simp only[List.mem_singleton] at hv';subst hv';simp only[] at I ⊢;rw[hs] at I;cases I;exact hu
    rw[if_neg hu] at h1;split at h1
    ·cases h1
    cases h1
    have e2:(s.tup++[u]).getD i []=s.tup.getD i []:=K6 hi;have e3:(s.tup++[u]).idxOf u=s.tup.length:=by rw[Mj,if_neg hu];simp
    refine ⟨[u],Z,Z,?_,λv' hv' u' I=>?_,Ki hd hu⟩
    ·rw[Qji (QbU (tup:=s.tup++[u]) (u:=u) (by rw[e2];exact hs)),e3]
    simp only[List.mem_singleton] at hv';subst hv';simp only[] at I ⊢;rw[e2,hs] at I;cases I;simp
  obtain ⟨J,k1,k2,k3,Y,k5⟩:=key;have U:i<H.tup.length:=by rw[k1];simp;omega
  have eT:UT H i=UT s i:=by unfold UT;rw[k1];exact K6 hi
  rw[←eT] at h2;obtain ⟨r2,V,g2,g3,g4,g5⟩:=jr vs H E U k5 h2;refine ⟨J++r2,by rw[V,k1,LC],g2.trans k2,?_,?_,g5⟩
  ·rw[g3,k3,LC];congr 1;rw[show v::vs=[v]++vs from rfl,List.filterMap_append];congr 1;rw[V];exact (QeV U Y).symm
  intro v' hv' u hu;rcases Lh.1 hv' with rfl | hv'
  ·have:=Y.pre (r:=r2) U;rw[←V] at this;exact this v' Lm u hu
  exact g4 v' hv' u hu
structure SyG (aa:List QD) (i:Nat) (s:Sy):Prop where
 nd:s.tup.Nodup
 le:i≤s.tup.length
 hd:s.tup.getD 0 []=List.replicate aa.length 0∧0<s.tup.length
 mk2:s.mk'=((List.range' 0 i).filter λj=>Yp aa (s.tup.getD j [])).map λj:Nat=>(j:Int)
 ed:s.ed=grid (syF aa s.tup) (evs aa) i
 cl:∀j,j<i→Clo aa s.tup j (evs aa)
theorem Jv {α β:Type}{f g:α→List β}:∀{l:List α},(∀x∈l,f x=g x)→l.flatMap f=l.flatMap g
 | [],_=>rfl
 | x::l,h=>by rw[LY,LY,h x Lm,Jv (λy hy=>h y (Lk _ hy))]
theorem SyG.next {aa:List QD}{i:Nat}{s E:Sy}(h:SyG aa i s) (hi:i<s.tup.length) (e:KP aa i (UT s i) (evs aa) (ZB aa i (UT s i) s)=some E):SyG aa (i+1) E:=by
 have ht:(ZB aa i (UT s i) s).tup=s.tup:=by unfold ZB;split <;> rfl
 have V:(ZB aa i (UT s i) s).ed=s.ed:=by unfold ZB;split <;> rfl
 have J:UT (ZB aa i (UT s i) s) i=UT s i:=by show (ZB aa i (UT s i) s).tup.getD i []=s.tup.getD i [];rw[ht]
 rw[←J] at e;obtain ⟨r,H,Y,U,g4,g5⟩:=jr (evs aa) _ E (by rw[ht];exact hi) (by rw[ht];exact h.nd) (by rw[J] at e ⊢;exact e);rw[ht] at H;rw[V] at U;have pre:∀j,j≤i→E.tup.getD j []=s.tup.getD j []:=λj hj=>by rw[H];exact K6 (by omega)
 refine ⟨g5,by rw[H];simp;omega,⟨by rw[pre 0 (by omega)];exact h.hd.1,by rw[H];simp;omega⟩,?_,?_,λj hj=>?_⟩
 ·rw[Y,Mi,Mb,Ly,LR];have e1:((List.range' 0 i).filter λj=>Yp aa (E.tup.getD j []))=(List.range' 0 i).filter λj=>Yp aa (s.tup.getD j []):=by
   refine List.filter_congr λj hj=>?_;rw[L5] at hj;rw[pre j (by omega)]
  rw[e1];unfold ZB;by_cases hm:Yp aa (UT s i)=true
  ·rw[if_pos hm];have I:Yp aa (E.tup.getD i [])=true:=by rw[pre i (Lv _)];exact hm
   simp only[List.filter_cons,I,if_true,List.filter_nil,List.map_cons,List.map_nil];rw[h.mk2]
  rw[if_neg hm];have I:Yp aa (E.tup.getD i [])=false:=by rw[pre i (Lv _)];exact eq_false_of_ne_true hm
  rw[Ml,if_neg (by rw[I];simp),Nj,h.mk2];simp
 ·rw[U,qd,h.ed];congr 1;unfold grid;refine Jv λj hj=>?_;rw[L5] at hj;rw[H];exact (QeV (by omega) (h.cl j (by omega))).symm
 by_cases e2:j=i
 ·subst e2;exact g4
 have:=(h.cl j (by omega)).pre (r:=r) (by omega);rw[←H] at this;exact this
theorem QbT {aa:List QD}:∀(f i:Nat) (s E:Sy),SyG aa i s→syL aa f i s=some E→∃H,SyG aa H E∧(E.tup.length=H∨H=i+f)
 | 0,i,s,E,h,e=>by cases e;exact ⟨i,h,.inr Z⟩
 | f+1,i,s,E,h,e=>by
  rw[syL] at e;split at e
  ·rename_i hi;obtain ⟨I,h1,h2⟩:=L6.1 e;obtain ⟨H,h3,h4⟩:=QbT f (i+1) I E (h.next hi h1) h2;exact ⟨H,h3,by omega⟩
  cases e;exact ⟨i,h,.inl (by have:=h.le;omega)⟩
structure ze (aa:List QD) (A:QD) (Q:List (LI)):Prop where
 al:A.al=evs aa
 st:A.st=(Q.length:Int)
 nd:Q.Nodup
 v:∀t∈Q,Vt aa t
 le:Q.length≤4096
 hd:0<Q.length→Q.getD 0 []=List.replicate aa.length 0
 mk2:A.mr=((List.range' 0 Q.length).filter λj=>Yp aa (Q.getD j [])).map λj:Nat=>(j:Int)
 ed:A.ed=grid (syF aa Q) (evs aa) Q.length
 cl:∀j,j<Q.length→Clo aa Q j (evs aa)
theorem Yj {aa:List QD}(I:∀a∈aa,QM a) {A:QD}{Q:List (LI)}(h:sync aa=some (A,Q)):ze aa A Q∧(Q.length=0↔∃a∈aa,a.st=0):=by
 have E:=Qau I h;unfold sync at h;split at h
 ·rename_i H;cases h
  exact ⟨⟨Z,Z,by simp,by simp,by simp,λh=>by simp at h,by simp,by simp[grid],λj hj=>by simp at hj⟩,by simpa using H⟩
 rename_i H;obtain ⟨s,h1,h2⟩:=LP.1 h;have J:SyG aa 0 (qG aa):=⟨by simp[qG],by simp,⟨by simp[qG],by simp[qG]⟩,by simp[qG],by simp[qG,grid],λj hj=>by omega⟩;obtain ⟨U,h3,h4⟩:=QbT 4096 0 (qG aa) s J h1;cases h2
 have hl:U=s.tup.length:=by
  have h5:=h3.le;have h6:=E.2;simp only[] at h6;omega
 subst hl;refine ⟨⟨rfl,Z,h3.nd,E.1,E.2,λ_=>h3.hd.1,h3.mk2,h3.ed,h3.cl⟩,?_⟩;have:=h3.hd.2;constructor
 ·intro h;have V:s.tup.length=0:=h;omega
 intro h;exact absurd h H
theorem ze.step {aa:List QD}{A:QD}{Q:List (LI)}(h:ze aa A Q) {j:Nat}(hj:j<Q.length) (v:Int) :
  eget A.ed j v=if v∈evs aa then (Q5 v aa (Q.getD j [])).map λu=>(Q.idxOf u:Int) else none:=by
 rw[h.ed,j5 (QhC aa Q)];by_cases E:v∈evs aa
 ·rw[if_pos ⟨hj,E⟩,if_pos E];unfold syF;rw[Option.map_map];rfl
 rw[if_neg (λe=>E e.2),if_neg E]
theorem ze.to {aa:List QD}{A:QD}{Q:List (LI)}(h:ze aa A Q) {j:Nat}(hj:j<Q.length) {v:Int}(E:v∈evs aa) {u:LI}(hu:Q5 v aa (Q.getD j [])=some u):Q.idxOf u<Q.length∧Q.getD (Q.idxOf u) []=u:=by
 have hm:=h.cl j hj v E u hu;have hl:=LU hm;refine ⟨hl,?_⟩;simp[List.getD,hl]
theorem ze.okay {aa:List QD}(E:∀a∈aa,QM a) {A:QD}{Q:List (LI)}(h:ze aa A Q):QM A:=by
 have J:=h.le;refine ⟨λe he=>?_,by rw[h.al];exact q6 E,by rw[h.st];omega,by rw[h.st];omega,λs hs=>?_,?_,λe he=>?_,by rw[h.ed];exact QfO (QhC aa Q) (q6 E) _⟩
 ·rw[h.al] at he;obtain ⟨a,ha,hx⟩:=(ZC E e).1 he;exact (E a ha).al e hx
 ·rw[h.mk2] at hs;simp only[List.mem_map,List.mem_filter,List.mem_range'_1] at hs;obtain ⟨i,⟨hi,_⟩,rfl⟩:=hs;rw[h.st];omega
 ·rw[h.mk2];unfold Z8;rw[ME];refine List.Pairwise.sublist Np ?_;exact (Na (s:=0) (n:=Q.length)).imp (λh=>by omega)
 rw[h.ed] at he;obtain ⟨j,v,hj,H,I⟩:=QcE he;unfold syF at I;obtain ⟨u,hu,rfl⟩:=LP.1 I;have:=(h.to hj H hu).1;rw[h.st,h.al];exact ⟨by simp only[];omega,by simp only[];omega,H,by simp only[];omega,by simp only[];omega⟩
end Go.Proofs.YtjcgijbhaemldaaGreatDoor
namespace Go.Lg
open Go.RowKit
instance:LawfulBEq ByteArray where
 eq_of_beq h:=(MapKept.bytes_beq _ _).1 h;rfl:=(MapKept.bytes_beq _ _).2 Z
def chr (s:ByteArray) (i:Nat):Nat:=(s.get! i).toNat
theorem Qow {s:ByteArray}{i:Nat}(h:i<s.size):(s[i]'h).toNat=chr s i:=by
 unfold chr;obtain ⟨d⟩:=s;have hd:i<d.size:=h;simp[ByteArray.get!,hd,ByteArray.getElem_eq_getElem_data]
theorem Qg0 {a b:ByteArray}(h:a.data.toList=b.data.toList):a=b:=by
 obtain ⟨⟨x⟩⟩:=a;obtain ⟨⟨y⟩⟩:=b;have h':x=y:=h;rw[h']
theorem bytes_beq (a b:ByteArray):(a.toList == b.toList)=decide (a=b):=by
 rw[ByteArray.toList_eq,ByteArray.toList_eq];by_cases h:a=b
 ·subst h;simp
 rw[decide_eq_false h];have:a.data.toList≠b.data.toList:=λe=>h (Qg0 e);simpa using this
section
variable {P:Program} {f:Fr} {w:World} {d:Option Nat} {ty:Nat} {ps:String} {af:Array Edge} {gd:Option (Nat×Bool)} {t t':Nat} {x y:Operand}
theorem Qig [h:St P t] {s:ByteArray}{k:IntKind}{i:Nat}(hx:ev f x=.string s) (hy:ev f y=.int k i) (hi:i<s.size) :
  (execOp (ev f) ⟨d,.index t x y,ty,ps,af,gd⟩).run P w=.ok (.value (.int .u8 (chr s i))) w:=by
 have h1:=run_index_string (P:=P) w t s k i h.u;rw[dif_pos ⟨by omega,by omega⟩] at h1;have e:(s[(i:Int).toNat]'(by simpa using hi)).toNat=chr s i:=Qow hi;simp only[execOp,hx,hy,Sem.run_bind,h1,Result.andThen_ok,Sem.run_pure,e]
theorem QdQ [h:St P t] {s:ByteArray}(hx:ev f x=.string s) :
  (execOp (ev f) ⟨d,.call ⟨.builtin .len,#[x],#[t]⟩,ty,ps,af,gd⟩).run P w=.ok (.value (.int .i64 s.size)) w:=Qid h.u hx
theorem QaP {a b:ByteArray}(hx:ev f x=.string a) (hy:ev f y=.string b) :
  (execOp (ev f) ⟨d,.binOp .eql t x y t',ty,ps,af,gd⟩).run P w=.ok (.value (.bool (decide (a=b)))) w:=by
 have E:(eqGuard .eql t x y (.string a) (.string b)).run P w=.ok () w:=by simp[eqGuard]
 simp only[execOp,hx,hy,Sem.run_bind,E,Result.andThen_ok,binOp_string_eql,Sem.run_pure,bytes_beq]
theorem Kg {a b:ByteArray}(hx:ev f x=.string a) (hy:ev f y=.string b) (hl:a.size+b.size≤1000000000) :
  (execOp (ev f) ⟨d,.binOp .add t x y t',ty,ps,af,gd⟩).run P w=.ok (.value (.string (a++b))) w:=by
 have E:(eqGuard .add t x y (.string a) (.string b)).run P w=.ok () w:=by simp[eqGuard]
 have I:¬(((a.size+b.size:Nat):Int) > IntKind.i64.max):=by
  rw[show IntKind.i64.max=9223372036854775807 from rfl];omega
 simp only[execOp,hx,hy,Sem.run_bind,E,Result.andThen_ok,binOp_string_add,Op.stringOp,if_neg I,Sem.run_pure]
theorem Qle {a b:Nat}(hx:ev f x=.int .u16 a) (hy:ev f y=.int .u16 b) (ha:a<65536) (hb:b<65536) :
  (execOp (ev f) ⟨d,.binOp .and t x y t',ty,ps,af,gd⟩).run P w=.ok (.value (.int .u16 ((a &&& b:Nat):Int))) w:=by
 refine X4 hx hy ?_;have hi:inK .u16 ((a &&& b:Nat):Int):=by
  have:a &&& b≤a:=Nat.and_le_left;exact ⟨by omega,by omega⟩
 simp only[binOp,Op.intBits,BitVec.ofInt_natCast,ne_eq,not_true_eq_false,if_false,Sem.run_pure];rw[BitVec.toNat_and,BitVec.toNat_ofNat,BitVec.toNat_ofNat,MA (show a<2 ^ IntKind.u16.bits from ha),MA (show b<2 ^ IntKind.u16.bits from hb),XC hi]
theorem Qfg {a b:Nat}(ha:a<65536) (hb:b<65536):a ||| b<65536:=Nat.or_lt_two_pow (n:=16) ha hb
theorem QdN {a b:Nat}(hx:ev f x=.int .u16 a) (hy:ev f y=.int .u16 b) (ha:a<65536) (hb:b<65536) :
  (execOp (ev f) ⟨d,.binOp .or t x y t',ty,ps,af,gd⟩).run P w=.ok (.value (.int .u16 ((a ||| b:Nat):Int))) w:=by
 refine X4 hx hy ?_;have hi:inK .u16 ((a ||| b:Nat):Int):=by
  have:=Qfg ha hb;exact ⟨by omega,by omega⟩
 simp only[binOp,Op.intBits,BitVec.ofInt_natCast,ne_eq,not_true_eq_false,if_false,Sem.run_pure];rw[BitVec.toNat_or,BitVec.toNat_ofNat,BitVec.toNat_ofNat,MA (show a<2 ^ IntKind.u16.bits from ha),MA (show b<2 ^ IntKind.u16.bits from hb),XC hi]
theorem QdR {a b:Nat}(hx:ev f x=.int .u16 a) (hy:ev f y=.int .u16 b) (ha:a<65536) (hb:b<65536) :
  (execOp (ev f) ⟨d,.binOp .andNot t x y t',ty,ps,af,gd⟩).run P w=.ok (.value (.int .u16 ((a &&& (65535 ^^^ b):Nat):Int))) w:=by
 refine X4 hx hy ?_;have hi:inK .u16 ((a &&& (65535 ^^^ b):Nat):Int):=by
  have:a &&& (65535 ^^^ b)≤a:=Nat.and_le_left;exact ⟨by omega,by omega⟩
 have e:(~~~(BitVec.ofNat IntKind.u16.bits b))=BitVec.ofNat IntKind.u16.bits (65535 ^^^ b):=by
  have E:BitVec.allOnes 16=BitVec.ofNat 16 65535:=by decide
  have I:∀z:BitVec 16,~~~z=BitVec.allOnes 16 ^^^ z:=λz=>by
   first
   | exact BitVec.allOnes_xor.symm
   | exact (BitVec.xor_allOnes.symm.trans (BitVec.xor_comm _ _))
  show ~~~(BitVec.ofNat 16 b)=BitVec.ofNat 16 (65535 ^^^ b);rw[I,E];apply BitVec.eq_of_toNat_eq;simp only[BitVec.toNat_xor,BitVec.toNat_ofNat];rw[MA (show 65535<2 ^ 16 by decide),MA (show b<2 ^ 16 from hb)];rw[MA (Nat.xor_lt_two_pow (n:=16) (by decide) hb)]
 simp only[binOp,Op.intBits,BitVec.ofInt_natCast,ne_eq,not_true_eq_false,if_false,Sem.run_pure];rw[e,BitVec.toNat_and,BitVec.toNat_ofNat,BitVec.toNat_ofNat,MA (show a<2 ^ IntKind.u16.bits from ha),MA (show 65535 ^^^ b<2 ^ IntKind.u16.bits from Nat.xor_lt_two_pow (n:=16) (by decide) hb),XC hi]
theorem Qfa {k k':IntKind}{a:Int}{n:Nat}(hx:ev f x=.int k a) (hy:ev f y=.int k' n) (E:n≤k.bits) (hi:inK k (a*2 ^ n)) :
  (execOp (ev f) ⟨d,.binOp .shl t x y t',ty,ps,af,gd⟩).run P w=.ok (.value (.int k (a*2 ^ n))) w:=by
 refine X4 hx hy ?_;have h1:¬((n:Int)<0):=by omega
 simp only[binOp,Op.shift,h1,if_false,Int.toNat_natCast,Nat.min_eq_left E,Sem.run_pure];rw[XC hi]
end
section
variable {P:Program} {ops:List Oper} {K:Fr→World→Prop} {f:Fr} {w:World} {d:Option Nat} {ty:Nat} {ps:String} {af:Array Edge} {gd:Option (Nat×Bool)} {l:List Oper}
 {t e sz bys:Nat} {z:Value} {x y1 y2:Operand} {L:LN} {v:Value} {n:Nat} {cs:LV} {H:Array Obj} {k k':IntKind} {hi:Nat}
theorem Qib [h:Sl P t e sz bys z] (E:ZA L H v n sz cs) (hx:ev f x=v) (I:ev f y1=.int k hi) (hm:ev f y2=.int k' hi) (h1:hi≤n) :
  ∃v',ZA L H v' hi sz (cs.take (hi*sz))∧∀w,(execOp (ev f) ⟨d,.slice t x none (some y1) (some y2),ty,ps,af,gd⟩).run P w=.ok (.value v') w:=by
 obtain ⟨ii,J,_,hs,_⟩:=Sl.info h;rcases E.2.2 with ⟨rfl,rfl⟩ | ⟨a,cap,rfl,hc,U⟩
 ·have V:hi=0:=by omega
  subst V;refine ⟨nS,?_,λw=>?_⟩
  ·rw[Nat.zero_mul,List.take_zero];exact ZA.nil _ _ _
  simp[execOp,hx,I,hm,Instr.sliceAt,Instr.slice,Instr.sliceBounds,Instr.sliceBound,asIntOf,run_underlying h.u,sizeOf,typeInfo,J]
 refine ⟨.slice (some a) hi hi,⟨?_,by have:=E.2.1;omega,.inr ⟨a,hi,Z,Lv _,λu hu=>U.out u (L2 hu),λu hu=>U.lt u (L2 hu),λj u hu=>?_⟩⟩,λw=>?_⟩
 ·rw[LD,E.1,Ni (MW _ h1)]
 ·rw[Mo] at hu;split at hu
  ·exact U.cell j u hu
  cases hu
 by_cases V:hi=0
 ·subst V;simp[execOp,hx,I,hm,Instr.sliceAt,Instr.slice,Instr.sliceBounds,Instr.sliceBound,asIntOf,run_underlying h.u,sizeOf,typeInfo,J]
 simp[execOp,hx,I,hm,Instr.sliceAt,Instr.slice,Instr.sliceBounds,Instr.sliceBound,asIntOf,run_underlying h.u,sizeOf,typeInfo,J,Addr.add];intro h9;omega
end
section
variable {P:Program} {ops l:List Oper} {K:Fr→World→Prop} {f:Fr} {w:World} {o:Oper} {C:World→Prop} {pl:List (Nat×Bool)} {i:Nat}
theorem xB {b:Bool}(E:(execOp (ev f) o).run P w=.ok (.value (.bool b)) w) (ht:b=true→XL P ops K l (QV f o.dst (.bool true)) w) (J:b=false→XL P ops K l (QV f o.dst (.bool false)) w)
  (I:Yi ops f o=true:=by rfl):XL P ops K (o::l) f w:=by
 cases hb:b with
 | true=>rw[hb] at E;exact x E (ht hb) I
 | false=>rw[hb] at E;exact x E (J hb) I
theorem pB {b:Bool}(E:∀w',(execOp (ev f) (QK ops i)).run P w'=.ok (.value (.bool b)) w') (ht:b=true→XP P ops C K pl (QV f (QK ops i).dst (.bool true)) w) (J:b=false→XP P ops C K pl (QV f (QK ops i).dst (.bool false)) w)
  (I:Yi ops f (QK ops i)=true:=by rfl):XP P ops C K ((i,true)::pl) f w:=by
 cases hb:b with
 | true=>rw[hb] at E;exact p E (ht hb) I
 | false=>rw[hb] at E;exact p E (J hb) I
theorem QjB {G:Prop} (b:Bool) (ht:b=true→G) (E:b=false→G):G:=by cases h:b with | true=>exact ht h | false=>exact E h
theorem bT {q:Prop}[Decidable q] (h:q):true=decide q:=(decide_eq_true h).symm
theorem bF {q:Prop}[Decidable q] (h:¬q):false=decide q:=(decide_eq_false h).symm
theorem bD {q r:Prop}[Decidable q] [Decidable r] (h:q↔r):decide q=decide r:=decide_eq_decide.2 h
end
section
variable {P:Program} {f:Fr} {w:World} {d:Option Nat} {ty:Nat} {ps:String} {af:Array Edge} {gd:Option (Nat×Bool)} {t:Nat} {x:Operand}
theorem zC {q:Prop}[Decidable q] (hx:ev f x=.bool (decide q)):(execOp (ev f) ⟨d,.unOp .not t x,ty,ps,af,gd⟩).run P w=.ok (.value (.bool (decide (¬q)))) w:=by
 rw[Zs hx];simp
end
end Go.Lg
namespace Go.Proofs.YtjcgijbhaemldaaGreatDoor
open Go.Lg
structure VD where
 nm:ByteArray
 co:Bool
 ob:Bool
 fo:Bool
 fl:Int
structure Yo where
 nm:ByteArray
 a:QD
structure Exc where
 nm:ByteArray
 ls:List (Int×Int)
structure JF where
 nm:ByteArray
 ts:List (Int×Int)
 bd:Int
structure Q4 where
 ev:List VD
 co:List Yo
 rq:List Yo
 ex:List Exc
 cs:List JF
def KJ (n:Nat):LI:=(List.range n).map λi:Nat=>(i:Int)
def nmP (i c:Nat):Prop:=((97≤c∧c≤122)∨(65≤c∧c≤90)∨c=95)∨(i≠0∧48≤c∧c≤57)
instance (i c:Nat):Decidable (nmP i c):=by unfold nmP;infer_instance
def nmQ (s:ByteArray) (i:Nat):Bool:=decide (nmP i (chr s i))
def Xq (s:ByteArray):Bool:=(List.range' 0 s.size).all (nmQ s) && decide (0<s.size∧s.size≤32)
def X5 (seen:List ByteArray) (e:VD):Int:=if Xq e.nm=false then 7 else if e.nm∈seen then 8 else if e.fl<0∨4<e.fl then 2 else if e.fl≠0∧(e.co || e.ob)=true then 13 else 0
def qA:List ByteArray→List VD→Int
 | _,[]=>0
 | seen,e::l=>if X5 seen e≠0 then X5 seen e else qA (seen++[e.nm]) l
def JD (l:List VD):Int:=if 32<l.length then 3 else qA [] l
def ixs {α:Type}(q:α→Bool):Nat→List α→LI
 | _,[]=>[]
 | i,e::l=>if q e=true then (i:Int)::ixs q (i+1) l else ixs q (i+1) l
def unc (l:List VD):LI:=ixs (λe=>!e.co) 0 l
def YF (sz:LI):Option Int→List (Int×Int)→Int
 | _,[]=>0
 | pr,l::ls=>if l.1<0∨(sz.length:Int)≤l.1 then 2 else if zX pr l.1=true then 5 else if l.2<0∨cget sz l.1.toNat≤l.2 then 2 else YF sz (some l.1) ls
def JQ (sz:LI) (ls:List (Int×Int)):Int:=if ls.length=0 then 12 else YF sz none ls
def grt (n:Int):Bool:=decide (n < -65536) || decide (65536<n)
def Xt (sz:LI):Option Int→List (Int×Int)→Int
 | _,[]=>0
 | pr,l::ls=>if l.1<0∨(sz.length:Int)≤l.1 then 2 else if zX pr l.1=true then 5 else if l.2=0∨grt l.2=true then 2 else Xt sz (some l.1) ls
def Xu (sz:LI) (k:JF):Int:=if k.ts.length=0 then 12 else if Xt sz none k.ts≠0 then Xt sz none k.ts else if grt k.bd=true then 2 else 0
def Vd (seen:List ByteArray) (s:ByteArray):Int:=if Xq s=false then 7 else if s∈seen then 8 else 0
def Yw (sz:LI):List ByteArray→List Exc→Int
 | _,[]=>0
 | seen,x::l=>if Vd seen x.nm≠0 then Vd seen x.nm else if JQ sz x.ls≠0 then JQ sz x.ls else Yw sz (seen++[x.nm]) l
def Xb (sz:LI):List ByteArray→List JF→Int
 | _,[]=>0
 | seen,x::l=>if Vd seen x.nm≠0 then Vd seen x.nm else if Xu sz x≠0 then Xu sz x else Xb sz (seen++[x.nm]) l
def Ky (n:Int):Bool:=decide (n<1) || decide (4096<n)
def YW (sz:LI) (ex:List Exc) (cs:List JF):Int:=if 8<sz.length then 3 else if sz.any Ky=true then 2 else if 32<ex.length∨32<cs.length then 3 else if Yw sz [] ex≠0 then Yw sz [] ex else Xb sz [] cs
def mns (a b:LI):LI:=mrg (λp q=>p && !q) a b
def K5 (a:QD):Bool:=decide (XM a=0) && decide ((ZJ a).st=a.st∧(ZJ a).al=a.al∧(ZJ a).mr=a.mr∧(ZJ a).ed=a.ed)
def Yl (nev:Nat) (amg:LI) (seen:List ByteArray) (x:Yo):Int :=
 if Xq x.nm=false then 7 else if x.nm∈seen then 8 else if XM x.a≠0 then XM x.a else if K5 x.a=false then 6 else if x.a.st=0 then 12 else
 if (x.a.al.any λe=>decide ((nev:Int)≤e))=true then 2 else if (mns x.a.al amg).length≠0 then 9 else 0
def Yq (nev:Nat) (al:LI):List ByteArray→LI→List Yo→Int×List ByteArray×LI
 | s,u,[]=>(0,s,u)
 | s,u,x::l=>if Yl nev al s x≠0 then (Yl nev al s x,s,u) else Yq nev al (s++[x.nm]) (mrg (· || ·) u x.a.al) l
def Kc (nev:Nat) (u:LI):List ByteArray→List Yo→Int
 | _,[]=>0
 | s,x::l=>if Yl nev u s x≠0 then Yl nev u s x else Kc nev u (s++[x.nm]) l
def szs (l:List Yo):LI:=l.map (·.a.st)
def auts (l:List Yo):List QD:=l.map (·.a)
def Zf (c:Q4):Int :=
 if JD c.ev≠0 then JD c.ev else if c.co.length=0 then 12 else if 8<c.co.length∨12<c.co.length+c.rq.length then 3 else
 if (Yq c.ev.length (KJ c.ev.length) [] [] c.co).1≠0 then (Yq c.ev.length (KJ c.ev.length) [] [] c.co).1 else
 if Kc c.ev.length (Yq c.ev.length (KJ c.ev.length) [] [] c.co).2.2 (Yq c.ev.length (KJ c.ev.length) [] [] c.co).2.1 c.rq≠0 then Kc c.ev.length (Yq c.ev.length (KJ c.ev.length) [] [] c.co).2.2 (Yq c.ev.length (KJ c.ev.length) [] [] c.co).2.1 c.rq else
 YW (szs c.co) c.ex c.cs
def JZ (t:LI) (x:Exc):Bool:=x.ls.all λl=>decide (t.getD l.1.toNat 0=l.2)
def Qnt (t:LI) (k:JF):Int:=k.ts.foldl (λs p=>s+p.2*t.getD p.1.toNat 0) 0
def KA (t:LI) (k:JF):Bool:=decide (k.bd<Qnt t k)
def fix {α:Type}(q:α→Bool):Nat→List α→Int
 | _,[]=>-1
 | i,e::l=>if q e=true then (i:Int) else fix q (i+1) l
def vio (c:Q4) (t:LI):Option (Int×Int) :=
 if 0≤fix (JZ t) 0 c.ex then some (1,fix (JZ t) 0 c.ex) else if 0≤fix (KA t) 0 c.cs then some (2,fix (KA t) 0 c.cs) else none
def rfr (v:Int):Nat→List Yo→LI→Int
 | i,x::l,s::ss=>if v∈x.a.al∧(eget x.a.ed s v).isSome=false then (i:Int) else rfr v (i+1) l ss
 | _,_,_=>-1
structure Rsn where
 st:Int
 kd:Int
 ix:Int
 ev:Int
def rfd (c:Q4) (rs:LI):LI→Option (Int×Int)
 | []=>none
 | v::l=>if 0≤rfr v 0 c.rq rs∧(c.ev.getD v.toNat ⟨.empty,false,false,false,0⟩).co=false then some (rfr v 0 c.rq rs,v) else rfd c rs l
def VW (a:QD) (s:Int):LI:=(ZE a.ed s).map (·.2.1)
def rsn (c:Q4) (pl:QD) (plc:Int) (i:Nat) (t:LI):Option Rsn :=
 match vio c (t.take c.co.length) with
 | some (k,j)=>some ⟨i,k,j,-1⟩
 | none=>match rfd c (t.drop c.co.length) (VW pl plc) with
  | some (j,v)=>some ⟨i,3,j,v⟩
  | none=>none
structure Spc where
 a:QD
 co:List (LI)
 rq:List (LI)
 pl:LI
 fb:List Rsn
def plx (ps:List (LI)) (t:LI):Int:=if t∈ps then (ps.idxOf t:Int) else 0
def Qnw (c:Q4) (pl:QD) (ps:List (LI)) (s:Spc) (p:LI×Nat):Spc :=
 ⟨s.a,s.co++[p.1.take c.co.length],s.rq++[p.1.drop c.co.length],s.pl++[plx ps (p.1.take c.co.length)],
  match rsn c pl (plx ps (p.1.take c.co.length)) p.2 p.1 with | some r=>s.fb++[r] | none=>s.fb⟩
def Xh (c:Q4):Int:=if Zf c≠0 then Zf c else if JP (auts c.co)≠0 then JP (auts c.co) else match sync (auts c.co) with
 | none=>3
 | some _=>if JP (auts c.co++auts c.rq)≠0 then JP (auts c.co++auts c.rq) else match sync (auts c.co++auts c.rq) with
  | none=>3
  | some _=>0
def UX (l:List QD):QD:=match sync l with | none=>⟨[],0,[],[]⟩ | some z=>z.1
def XG (l:List QD):List (LI):=match sync l with | none=>[] | some z=>z.2
def spc (c:Q4):Spc:=(XG (auts c.co++auts c.rq)).zipIdx.foldl (Qnw c (UX (auts c.co)) (XG (auts c.co))) ⟨UX (auts c.co++auts c.rq),[],[],[],[]⟩
end Go.Proofs.YtjcgijbhaemldaaGreatDoor
namespace Go.Lg
section
variable {P:Program} {f:Fr} {w:World} {d:Option Nat} {ty:Nat} {ps:String} {af:Array Edge} {gd:Option (Nat×Bool)}
theorem QdO {t E:Nat}[h:Bk P t] {x y:Operand}{a b:Bool}(hx:ev f x=.bool a) (hy:ev f y=.bool b) :
  (execOp (ev f) ⟨d,.binOp .neq t x y E,ty,ps,af,gd⟩).run P w=.ok (.value (.bool (!(a == b)))) w:=by
 have H:(eqGuard .neq t x y (.bool a) (.bool b)).run P w=.ok () w:=by simp[eqGuard]
 simp[execOp,hx,hy,H,run_neq_bool (P:=P) (w:=w) t a b h.u]
end
inductive Pu where
 | pl (l:List (Nat×Bool))
 | f2 (pre:List (Nat×Bool)) (i j:Nat) (t1 t2:Pu)
 | f3 (pre:List (Nat×Bool)) (i j k:Nat) (t1 t2 t3:Pu)
def Pu.len:Pu→Nat
 | .pl l=>l.length
 | .f2 pre _ _ t1 _=>pre.length+(1+t1.len)
 | .f3 pre _ _ _ t1 _ _=>pre.length+(1+t1.len)
def QaR (all:Array Oper):Pu→Array Bool→Bool
 | .pl l,ls=>Y9 all l ls
 | .f2 pre i j t1 t2,ls=>XI all pre ls && Region.ready .any all (Zu pre ls) == [i,j] && t1.len == t2.len && QaR all t1 ((Zu pre ls).setIfInBounds i true) && QaR all t2 ((Zu pre ls).setIfInBounds j true)
 | .f3 pre i j k t1 t2 t3,ls=>XI all pre ls && Region.ready .any all (Zu pre ls) == [i,j,k] && t1.len == t2.len && t1.len == t3.len && QaR all t1 ((Zu pre ls).setIfInBounds i true) && QaR all t2 ((Zu pre ls).setIfInBounds j true) && QaR all t3 ((Zu pre ls).setIfInBounds k true)
def Qpn (all:List Oper) (t:Pu):Bool:=Region.noSelect all.toArray && t.len == all.length && QaR all.toArray t (Array.replicate all.length false)
def XE (P:Program) (all:List Oper) (C:World→Prop) (i:Nat) (N:Fr→World→Prop) (f:Fr) (w:World):Prop:=Yi all f (QK all i)=true∧XO P (QK all i) f w λE w'=>C w'∧N E w'
def XU (P:Program) (all:List Oper) (C:World→Prop) (K:Fr→World→Prop):Pu→Fr→World→Prop
 | .pl l=>XP P all C K l
 | .f2 pre i j t1 t2=>XP P all C (λf w=>XE P all C i (XU P all C K t1) f w∧XE P all C j (XU P all C K t2) f w) pre
 | .f3 pre i j k t1 t2 t3=>XP P all C (λf w=>XE P all C i (XU P all C K t1) f w∧XE P all C j (XU P all C K t2) f w∧XE P all C k (XU P all C K t3) f w) pre
section
variable {P:Program} {n:Nat} {f:Fr} {w:World} {all:List Oper} {C:World→Prop} {K B:Fr→World→Prop}
theorem Kd (hs:Region.noSelect all.toArray=true):∀(t:Pu) (ls:Array Bool) (f:Fr) (w:World),ls.size=all.length→C w→QaR all.toArray t ls=true→XU P all C K t f w→XA P all C K t.len ls f w
 | .pl l,ls,f,w,U,hC,hp,h=>Zy hs l ls f w U (.inl hC) hp h
 | .f2 pre i j t1 t2,ls,f,w,U,hC,hp,h=>by
  simp only[QaR,Bool.and_eq_true,beq_iff_eq] at hp;obtain ⟨⟨⟨⟨hq,E⟩,hl⟩,h1⟩,h2⟩:=hp;rw[Pu.len];refine ZR (B:=λf w=>XE P all C i (XU P all C K t1) f w∧XE P all C j (XU P all C K t2) f w) hs pre ls f w hC hq (λf H=>?_) h;have I:∀k,((Zu pre ls).setIfInBounds k true).size=all.length:=λk=>by simp[ZQ,U]
  rw[MP 1];refine Y7 (λV=>(by rw[V] at E;cases E)) ?_;rw[E];intro k hk o J;simp only[List.mem_cons,List.not_mem_nil,or_false] at hk;rcases hk with rfl | rfl
  ·have:=H.1;unfold XE at this;rw[Zd J] at this;rw[this.1,cond_true];exact this.2.mono λv w' hx=>⟨.inr (.inr hx.1),Kd hs t1 _ _ _ (I _) hx.1 h1 hx.2⟩
  have:=H.2;unfold XE at this;rw[Zd J] at this;rw[this.1,cond_true,hl];exact this.2.mono λv w' hx=>⟨.inr (.inr hx.1),Kd hs t2 _ _ _ (I _) hx.1 h2 hx.2⟩
 | .f3 pre i j k t1 t2 t3,ls,f,w,U,hC,hp,h=>by
  simp only[QaR,Bool.and_eq_true,beq_iff_eq] at hp;obtain ⟨⟨⟨⟨⟨⟨hq,E⟩,hl⟩,Y⟩,h1⟩,h2⟩,h3⟩:=hp;rw[Pu.len];refine ZR (B:=λf w=>XE P all C i (XU P all C K t1) f w∧XE P all C j (XU P all C K t2) f w∧XE P all C k (XU P all C K t3) f w) hs pre ls f w hC hq (λf H=>?_) h;have I:∀k,((Zu pre ls).setIfInBounds k true).size=all.length:=λk=>by simp[ZQ,U]
  rw[MP 1];refine Y7 (λV=>(by rw[V] at E;cases E)) ?_;rw[E];intro q hk o J;simp only[List.mem_cons,List.not_mem_nil,or_false] at hk;rcases hk with rfl | rfl | rfl
  ·have:=H.1;unfold XE at this;rw[Zd J] at this;rw[this.1,cond_true];exact this.2.mono λv w' hx=>⟨.inr (.inr hx.1),Kd hs t1 _ _ _ (I _) hx.1 h1 hx.2⟩
  ·have:=H.2.1;unfold XE at this;rw[Zd J] at this;rw[this.1,cond_true,hl];exact this.2.mono λv w' hx=>⟨.inr (.inr hx.1),Kd hs t2 _ _ _ (I _) hx.1 h2 hx.2⟩
  have:=H.2.2;unfold XE at this;rw[Zd J] at this;rw[this.1,cond_true,Y];exact this.2.mono λv w' hx=>⟨.inr (.inr hx.1),Kd hs t3 _ _ _ (I _) hx.1 h3 hx.2⟩
theorem QmK {Q:Exit→Fr→World→Prop}{id:Nat}(C:World→Prop) (t:Pu) (hm:P.follows .mixedOrders=true) (E:Xs n all=true) (hp:Qpn all t=true)
  (hC:C { w with drawn:=w.drawn+1 }) (h:XU P all C (λf w=>Q .normal f w) t f { w with drawn:=w.drawn+1 }):W P n (.region id all.toArray true) Q f w:=by
 simp only[Qpn,Bool.and_eq_true,beq_iff_eq] at hp;obtain ⟨⟨hs,hl⟩,hp⟩:=hp;refine Xe C hm E ?_;have h1:=Kd hs t _ _ _ (by simp) hC hp h;rw[hl] at h1;exact h1
theorem uP {l:List (Nat×Bool)}(h:XP P all C K l f w):XU P all C K (.pl l) f w:=h
theorem u2 {pre:List (Nat×Bool)}{i j:Nat}{E H:Pu}(h:XP P all C (λf w=>XE P all C i (XU P all C K E) f w∧XE P all C j (XU P all C K H) f w) pre f w):XU P all C K (.f2 pre i j E H) f w:=h
theorem u3 {pre:List (Nat×Bool)}{i j k:Nat}{E H I:Pu}(h:XP P all C (λf w=>XE P all C i (XU P all C K E) f w∧XE P all C j (XU P all C K H) f w∧XE P all C k (XU P all C K I) f w) pre f w):XU P all C K (.f3 pre i j k E H I) f w:=h
theorem ue {i:Nat}{N:Fr→World→Prop}(h:XO P (QK all i) f w λE w'=>C w'∧N E w') (H:Yi all f (QK all i)=true:=by rfl):XE P all C i N f w:=⟨H,h⟩
end
attribute [irreducible] XU XE
open Go.RowKit
abbrev fen (ro:Option Nat):Fence:={ Fence.wide with round:=ro }
def coll (ds:LN):List Deferred:=ds.map λD=>{ target:=.collected D,args:=#[] }
structure YU (n:Nat) (ds:LN) (a:Act) (f:Fr):Prop where
 size:a.tmps.size=n
 defers:a.defers=coll ds
 get:∀t,a.tmps.getD t undef=f t
theorem YU.rel {n:Nat} {ds:LN} {a:Act} {f:Fr} (h:YU n ds a f):Rel n { a with defers:=[] } f:=⟨h.size,Z,h.get⟩
theorem YU.eval {n:Nat}{ds:LN}{a:Act}{f:Fr}(h:YU n ds a f):a.eval=ev f:=by
 have:=h.rel.eval;rw[←this];funext x;cases x <;> rfl
theorem YU.put {n:Nat}{ds:LN}{a:Act}{f:Fr}(h:YU n ds a f) {dst:Option Nat}(hd:∀d,dst=some d→d<n) (v:Value):YU n ds (a.put dst v) (QV f dst v):=by
 have:=h.rel.put hd v;cases dst with
 | none=>exact h
 | some d=>exact ⟨this.size,h.defers,this.get⟩
def XY:Code→Nat→Bool
 | .region _ ops _,t=>ZW ops.toList t
 | .seq a b,t=>XY a t || XY b t
 | .cond _ a b,t=>XY a t || XY b t
 | .block _ a,t=>XY a t
 | .loop a,t=>XY a t
 | .skip,_ | .exit _,_ | .label _,_ | .goto _,_ | .ret,_ | .rangeFunc ..,_=>false
 | _,_=>true
def wrG (D:List (Nat×Nat)):Code→Bool
 | .region _ ops _=>QeM D ops.toList
 | .seq a b=>wrG D a && wrG D b
 | .cond _ a b=>wrG D a && wrG D b
 | .block _ a=>wrG D a
 | .loop a=>wrG D a
 | .skip | .exit _ | .label _ | .goto _ | .ret | .rangeFunc ..=>true
 | _=>false
theorem JG {D:List (Nat×Nat)}{t:Nat}(ht:Xp D t=false):∀c:Code,wrG D c=true→XY c t=false
 | .region _ ops _,h=>jo h ht
 | .seq a b,h=>by simp only[wrG,Bool.and_eq_true] at h;simp[XY,JG ht a h.1,JG ht b h.2]
 | .cond _ a b,h=>by simp only[wrG,Bool.and_eq_true] at h;simp[XY,JG ht a h.1,JG ht b h.2]
 | .block _ a,h=>JG ht a (by simpa[wrG] using h)
 | .loop a,h=>JG ht a (by simpa[wrG] using h)
 | .skip,_=>rfl
 | .exit _,_=>rfl
 | .label _,_=>rfl
 | .goto _,_=>rfl
 | .ret,_=>rfl
 | .rangeFunc ..,_=>rfl
 | .scope _,h=>by simp[wrG] at h
 | .refuse _,h=>by simp[wrG] at h
def WG (ro:Option Nat) (m:Nat) (P:Program) (n:Nat) (c:Code) (Q:Exit→LN→Fr→World→Prop) (ds:LN) (f:Fr) (w:World):Prop :=
 ∀a,YU n ds a f→c.wpIn (fen ro) m P (λe E w'=>∃ds' f',YU n ds' E f'∧(∀t,XY c t=false→f' t=f t)∧Q e ds' f' w') a w
def Qdx (K:LN→Fr→World→Prop) (Q:Exit→LN→Fr→World→Prop):Exit→LN→Fr→World→Prop
 | .normal,ds,f,w=>K ds f w
 | e,ds,f,w=>Q e ds f w
def QpT (id:Nat) (Q:Exit→LN→Fr→World→Prop):Exit→LN→Fr→World→Prop
 | .exit i,ds,f,w=>bif Nat.beq i id then Q .normal ds f w else Q (.exit i) ds f w
 | e,ds,f,w=>Q e ds f w
section
variable {ro:Option Nat} {m:Nat} {P:Program} {n:Nat} {Q:Exit→LN→Fr→World→Prop} {ds:LN} {f:Fr} {w:World}
theorem WG.mono {c:Code}{Q':Exit→LN→Fr→World→Prop}(h:WG ro m P n c Q ds f w) (hq:∀e ds f w,Q e ds f w→Q' e ds f w):WG ro m P n c Q' ds f w :=
 λa ha=>wpIn_mono (h a ha) λ_ _ _ ⟨E,H,h1,h2,h3⟩=>⟨E,H,h1,h2,hq _ _ _ _ h3⟩
theorem WG.keeps {c:Code}(h:WG ro m P n c Q ds f w):WG ro m P n c (λe H E w'=>(∀t,XY c t=false→E t=f t)∧Q e H E w') ds f w :=
 λa ha=>wpIn_mono (h a ha) λ_ _ _ ⟨H,E,h1,h2,h3⟩=>⟨H,E,h1,h2,h2,h3⟩
theorem Yn (h:Q .normal ds f w):WG ro m P n .skip Q ds f w:=λ_ ha=>wpIn_skip ⟨ds,f,ha,λ_ _=>Z,h⟩
theorem Ku {i:Nat}(h:Q (.exit i) ds f w):WG ro m P n (.exit i) Q ds f w:=λ_ ha=>wpIn_exit ⟨ds,f,ha,λ_ _=>Z,h⟩
theorem Vl (h:Q .ret ds f w):WG ro m P n .ret Q ds f w:=λ_ ha=>wpIn_ret ⟨ds,f,ha,λ_ _=>Z,h⟩
theorem Q0 {x y:Code}(h:WG ro m P n x (Qdx (λds f w=>WG ro m P n y Q ds f w) Q) ds f w):WG ro m P n (.seq x y) Q ds f w:=by
 intro a ha;refine wpIn_seq (wpIn_mono (h a ha) ?_);rintro e I w' ⟨H,E,h1,h2,h3⟩;have k1:∀t,XY (.seq x y) t=false→E t=f t:=λt ht=>h2 t (by simp only[XY,Bool.or_eq_false_iff] at ht;exact ht.1);cases e with
 | normal =>
  refine wpIn_mono (h3 I h1) λ_ _ _ ⟨J,U,V,Y,g3⟩=>⟨J,U,V,λt ht=>(Y t ?_).trans (k1 t ht),g3⟩;simp only[XY,Bool.or_eq_false_iff] at ht;exact ht.2
 | exit id=>exact ⟨H,E,h1,k1,h3⟩
 | goto l=>exact ⟨H,E,h1,k1,h3⟩
 | ret=>exact ⟨H,E,h1,k1,h3⟩
 | panic ch=>exact ⟨H,E,h1,k1,h3⟩
 | outgrown=>exact ⟨H,E,h1,k1,h3⟩
theorem Qnf {α:Type}{x y:Code}(D:List (Nat×Nat)) (S:α→List (Nat×Value)) (I:α→LN→World→Prop) (hD:wrG D x=true)
  (h1:WG ro m P n x (Qdx (λE H w'=>∃z,Y4 H (S z)∧I z E w') Q) ds f w)
  (h2:∀z g E w',I z E w'→WG ro m P n y Q E (VP (S z) (mix D f g)) w'):WG ro m P n (.seq x y) Q ds f w:=by
 refine Q0 (h1.keeps.mono ?_);rintro e E H w' ⟨hk,hq⟩;cases e with
 | normal =>
  obtain ⟨z,hs,hi⟩:=hq;have h3:=h2 z H E w' hi;rw[Xk (λt ht=>hk t (JG ht x hD)),YB hs] at h3;exact h3
 | exit id=>exact hq
 | goto l=>exact hq
 | ret=>exact hq
 | panic ch=>exact hq
 | outgrown=>exact hq
theorem Vm {c:Operand}{x y:Code}{t:Bool}(hc:ev f c=.bool t) (ht:t=true→WG ro m P n x Q ds f w) (E:t=false→WG ro m P n y Q ds f w) :
  WG ro m P n (.cond c x y) Q ds f w:=by
 intro a ha;have H:a.eval c=.bool t:=by rw[ha.eval];exact hc
 refine wpIn_cond_split H (λe=>wpIn_mono (ht e a ha) ?_) (λe=>wpIn_mono (E e a ha) ?_) <;>
  (rintro e U w' ⟨I,J,h1,h2,h3⟩
   refine ⟨I,J,h1,λt ht=>h2 t ?_,h3⟩;simp only[XY,Bool.or_eq_false_iff] at ht
   first | exact ht.1 | exact ht.2)
theorem QoS {c:Operand}{x y:Code}{p:Prop}[Decidable p] (hc:ev f c=.bool (decide p)) (ht:p→WG ro m P n x Q ds f w) (E:¬p→WG ro m P n y Q ds f w) :
  WG ro m P n (.cond c x y) Q ds f w :=
 Vm hc (λe=>ht (of_decide_eq_true e)) (λe=>E (of_decide_eq_false e))
theorem yR {c:Operand}{x y:Code}{p:Prop}[Decidable p] (hc:ev f c=.bool (decide p)) (E:¬p→WG ro m P n y Q ds f w) (ht:p→WG ro m P n x Q ds f w) :
  WG ro m P n (.cond c x y) Q ds f w:=QoS hc ht E
theorem QbF {c:Operand}{x y:Code}(hc:ev f c=.bool true) (h:WG ro m P n x Q ds f w):WG ro m P n (.cond c x y) Q ds f w:=Vm hc (λ_=>h) (λe=>by cases e)
theorem VC {c:Operand}{x y:Code}(hc:ev f c=.bool false) (h:WG ro m P n y Q ds f w):WG ro m P n (.cond c x y) Q ds f w:=Vm hc (λe=>by cases e) (λ_=>h)
theorem ZU {id:Nat}{c:Code}(h:WG ro m P n c (QpT id Q) ds f w):WG ro m P n (.block id c) Q ds f w:=by
 intro a ha;refine wpIn_block (wpIn_mono (h a ha) ?_);rintro e I w' ⟨H,E,h1,h2,h3⟩;have k1:∀t,XY (.block id c) t=false→E t=f t:=λt ht=>h2 t (by simpa[XY] using ht);cases e with
 | exit i =>
  simp only[Exit.inBlock];simp only[QpT] at h3;by_cases hi:i=id
  ·subst hi;simp only[Nat.beq_refl,cond_true] at h3;simp only[if_true];exact ⟨H,E,h1,k1,h3⟩
  have hb:Nat.beq i id=false:=by
   cases e:Nat.beq i id with
   | false=>rfl
   | true=>exact absurd (Nat.eq_of_beq_eq_true e) hi
  rw[hb] at h3;rw[if_neg hi];exact ⟨H,E,h1,k1,h3⟩
 | normal=>exact ⟨H,E,h1,k1,h3⟩
 | goto l=>exact ⟨H,E,h1,k1,h3⟩
 | ret=>exact ⟨H,E,h1,k1,h3⟩
 | panic ch=>exact ⟨H,E,h1,k1,h3⟩
 | outgrown=>exact ⟨H,E,h1,k1,h3⟩
end
def Qcj (l:List Oper):Bool:=l.all λo=>match o.op with | .defer _=>false | _=>true
theorem VV {l:List Oper}(h:Qcj l=true):∀o∈l,∀c,o.op≠.defer c:=λo E c e=>by
 have:=LZ.1 h o E;rw[e] at this;cases this
section
variable {ro:Option Nat} {m:Nat} {P:Program} {n:Nat} {ds:LN}
theorem Qgm {o:Oper}{a:Act}{f:Fr}{w:World}{K:Fr→World→Prop}{K':Act→World→Prop}{Q:Exit→Act→World→Prop}(h:YU n ds a f) (H:∀c,o.op≠.defer c)
  (E:∀v w',K (QV f o.dst v) w'→K' (a.put o.dst v) w') (hx:XO P o f w K):o.wpIn (fen ro) m P a w K' Q:=by
 unfold XO at hx;refine ⟨λ_ _=>trivial,?_⟩;have e:Oper.semAt (fen ro).round a.eval o=execOp (ev f) o:=by
  rw[h.eval];cases ro with
  | none=>rfl
  | some l=>exact Oper.semAt_some l _ _ H
 rw[e];generalize (execOp (ev f) o).run P w=r at hx;cases r with
 | ok nx w' =>
  cases nx <;> simp only[upF] at hx <;> simp only[Oper.uponIn]
  case value v=>exact E v w' hx
  case skip=>exact E _ w' hx
  case enter g args =>
   refine ⟨λh=>by simp[Fence.wide] at h,?_⟩;refine (callsIn_wide (n:=m - 1)).2 (Calls.mono hx λe I he=>?_);cases e with
   | returned v=>exact E v I he
   | panicked c=>exact he.elim
   | outgrown=>exact he.elim
 | halt x w'=>exact hx.elim
theorem VO {l:List Oper}{a:Act}{f:Fr}(h:YU n ds a f) (E:∀o∈l,∀d,o.dst=some d→d<n) (o:Oper):Region.wanted o (yielded l.toArray a.tmps)=Yi l f o:=UU h.rel E o
theorem Qgo {Q:Exit→LN→Fr→World→Prop}{all:List Oper}(H:∀o∈all,∀d,o.dst=some d→d<n) (hd:∀o∈all,∀c,o.op≠.defer c) (I:Fr) :
  ∀(l:List Oper) (k:Nat) (a:Act) (f:Fr) (w:World),(∀j,l[j]?=all[k+j]?)→YU n ds a f→(∀t,ZW all t=false→f t=I t) →
   XL P all (λf w=>Q .normal ds f w) l f w →
   wpOpsIn (fen ro) m P all.toArray (λe Y w'=>∃ds' f',YU n ds' Y f'∧(∀t,ZW all t=false→f' t=I t)∧Q e ds' f' w') (List.range' k l.length) a w
 | [],_,a,f,w,_,E,hk,h=>⟨ds,f,E,hk,by unfold XL at h;exact h⟩
 | o::l,k,a,f,w,hl,E,hk,h=>by
  have U:all[k]?=some o:=by simpa using (hl 0).symm
  have J:o∈all:=Mr U;have ih:=λa f w=>Qgo (Q:=Q) H hd I l (k+1) a f w (λj=>by have:=hl (j+1);simpa[Nat.add_assoc,Nat.add_comm 1 j] using this);have next:∀v,(∀t,ZW all t=false→QV f o.dst v t=I t):=λv t ht=>(Z1 (Jo J ht) v).trans (hk t ht);simp only[List.length_cons,List.range'_succ,wpOpsIn,List.getElem?_toArray,U];rw[VO E H o];unfold XL at h;cases V:Yi all f o with
  | false =>
   rw[V] at h;exact ⟨λ_ _=>trivial,ih _ _ _ (E.put (H o J) _) (next _) h⟩
  | true =>
   rw[V] at h;exact Qgm E (hd o J) (λv w' hx=>ih _ _ _ (E.put (H o J) v) (next v) hx) h
theorem QI {Q:Exit→LN→Fr→World→Prop}{f:Fr}{w:World}{id:Nat}{l:List Oper}(E:Xs n l=true) (hd:Qcj l=true) (h:XL P l (λf w=>Q .normal ds f w) l f w):WG ro m P n (.region id l.toArray false) Q ds f w:=by
 intro a ha;refine wpIn_region ?_;have:=Qgo (ro:=ro) (m:=m) (Xa E) (VV hd) f l 0 a f w (by simp) ha (λ_ _=>rfl) h;simpa[List.range_eq_range',XY] using this
attribute [local semireducible] XA in
theorem zd {Q:Exit→Act→World→Prop}{all:List Oper}{C:World→Prop}{K:Fr→World→Prop}(H:∀o∈all,∀d,o.dst=some d→d<n) (hd:∀o∈all,∀c,o.op≠.defer c) (I:Fr)
  (J:∀a f w,YU n ds a f→(∀t,ZW all t=false→f t=I t)→K f w→Q .normal a w) :
  ∀(k:Nat) (ls:Array Bool) (a:Act) (f:Fr) (w:World),YU n ds a f→(∀t,ZW all t=false→f t=I t)→XA P all C K k ls f w→wpAnyIn (fen ro) m P .any all.toArray Q k ls a w
 | 0,_,a,f,w,E,hk,h=>⟨h.1,J a f w E hk h.2⟩
 | k+1,ls,a,f,w,E,hk,h=>by
  refine ⟨λh0=>J a f w E hk (h.1 h0),λi hi=>?_⟩;unfold wpOpIn;simp only[List.getElem?_toArray];cases V:all[i]? with
  | none =>
   exfalso;obtain ⟨_,o,ha,_⟩:=mem_ready.1 hi;simp[V] at ha
  | some o =>
   have U:o∈all:=Mr V;have h1:=h.2 i hi o V;have next:∀v,(∀t,ZW all t=false→QV f o.dst v t=I t):=λv t ht=>(Z1 (Jo U ht) v).trans (hk t ht);simp only[];rw[VO E H o];cases Y:Yi all f o with
   | false =>
    rw[Y] at h1;exact ⟨λ_ _=>trivial,zd H hd I J k _ _ _ _ (E.put (H o U) _) (next _) h1⟩
   | true =>
    rw[Y] at h1;exact Qgm E (hd o U) (λv w' hx=>zd H hd I J k _ _ _ _ (E.put (H o U) v) (next v) hx.2) h1
theorem QbG {Q:Exit→LN→Fr→World→Prop}{f:Fr}{w:World}{all:List Oper}{id:Nat}(C:World→Prop) (pl:List (Nat×Bool)) (hm:P.follows .mixedOrders=true) (H:Xs n all=true) (hd:Qcj all=true) (hp:QaV all pl=true)
  (hC:C { w with drawn:=w.drawn+1 }) (h:XP P all C (λf w=>Q .normal ds f w) pl f { w with drawn:=w.drawn+1 }):WG ro m P n (.region id all.toArray true) Q ds f w:=by
 intro a ha;simp only[QaV,Bool.and_eq_true,beq_iff_eq] at hp;obtain ⟨⟨hs,hl⟩,hp⟩:=hp;refine wpIn_region_any hm ?_;have h1:=Zy hs pl _ _ _ (by simp) (.inl hC) hp h;rw[hl] at h1;have h2:=zd (ro:=ro) (m:=m) (n:=n) (ds:=ds) (Q:=λe I w'=>∃ds' E,YU n ds' I E∧(∀t,ZW all t=false→E t=f t)∧Q e ds' E w') (Xa H) (VV hd) f
  (λa E w J hk hq=>⟨ds,E,J,hk,hq⟩) _ _ a f _ ha (λ_ _=>Z) h1
 simpa[XY] using h2
end
section
variable {ro:Option Nat} {m:Nat} {P:Program} {n:Nat} {Q:Exit→LN→Fr→World→Prop} {ds:LN} {f:Fr} {w:World}
theorem qF {α:Type}{F:Fence}{c:Code}{Q:Exit→Act→World→Prop}{a:Act}{w:World}(J:α→Act→World→Prop) (μ:α→Nat) (z:α) (h₀:J z a w)
  (round:∀x a w,J x a w→c.wpIn F m P (Exit.then (λH w'=>∃I,μ I<μ x∧J I H w') Q) a w):(Code.loop c).wpIn F m P Q a w:=by
 intro b k cs V hb U;have key:∀j x a w,μ x=j→J x a w →
   ∃e H w',Q e H w'∧ArrivesIn (Machine.fenced P F) P (lone (b.atR a (.code c::.inLoop c::k)) cs w) b k cs e H w':=by
  intro j;induction j using Nat.strongRecOn with
  | _ j ih =>
   intro x a w Y hJ;obtain ⟨e,a₁,w₁,hq,E⟩:=round x a w hJ b (.inLoop c::k) cs V hb U;cases e with
   | normal =>
    obtain ⟨I,ha,hc⟩:=hq;obtain ⟨e₂,a₂,w₂,hq₂,harr₂⟩:=ih (μ I) (Y ▸ ha) I a₁ w₁ Z hc;exact ⟨e₂,a₂,w₂,hq₂,.of_steps (StepsIn.trans E (.one (fenced_calm hb U Z) stepR_inLoop)) harr₂⟩
   | exit id=>exact ⟨_,a₁,w₁,hq,.pass (x:=.inLoop c) Z (λ_ _=>.inl (by simp)) E⟩
   | goto l=>exact ⟨_,a₁,w₁,hq,.pass (x:=.inLoop c) Z (λ_ _=>.inl (by simp)) E⟩
   | ret=>exact ⟨_,a₁,w₁,hq,.pass (x:=.inLoop c) Z (λ_ _=>.inl (by simp)) E⟩
   | panic ch=>exact ⟨_,a₁,w₁,hq,.pass (x:=.inLoop c) Z (λ_ _=>.inl (by simp)) E⟩
   | outgrown=>exact ⟨_,a₁,w₁,hq,.pass (x:=.inLoop c) Z (λ_ _=>.inl (by simp)) E⟩
 obtain ⟨e,H,w',hq,E⟩:=key _ z a w Z h₀;exact ⟨e,H,w',hq,.of_steps (.one (fenced_calm hb U Z) stepR_loop) E⟩
theorem V3 {α:Type}{c:Code}(D:List (Nat×Nat)) (S:α→List (Nat×Value)) (I:α→LN→World→Prop) (μ:α→Nat) (hD:wrG D c=true) (z:α)
  (h0:Y4 f (S z)) (hI:I z ds w)
  (round:∀x g J w',I x J w'→WG ro m P n c (Qdx (λE U hb=>∃x',μ x'<μ x∧Y4 U (S x')∧I x' E hb) Q) J (VP (S x) (mix D f g)) w'):WG ro m P n (.loop c) Q ds f w:=by
 intro a ha;refine qF (λ(x:α) a' w'=>∃J U,YU n J a' U∧(∀t,XY c t=false→U t=f t)∧Y4 U (S x)∧I x J w') μ z ⟨ds,f,ha,λ_ _=>Z,h0,hI⟩ ?_;rintro x a' w' ⟨J,U,h1,h2,h3,h4⟩;have h5:=round x U J w' h4;rw[Xk (λt ht=>h2 t (JG ht c hD)),YB h3] at h5;refine wpIn_mono (h5 a' h1) ?_;rintro e hc hb ⟨E,H,V,g2,Y⟩;have k1:∀t,XY c t=false→H t=f t:=λt ht=>(g2 t ht).trans (h2 t ht)
 have k2:∀t,XY (.loop c) t=false→H t=f t:=λt ht=>k1 t (by simpa[XY] using ht);cases e with
 | normal=>obtain ⟨x',hm,hs,hi⟩:=Y;exact ⟨x',hm,E,H,V,k1,hs,hi⟩
 | exit id=>exact ⟨E,H,V,k2,Y⟩
 | goto l=>exact ⟨E,H,V,k2,Y⟩
 | ret=>exact ⟨E,H,V,k2,Y⟩
 | panic ch=>exact ⟨E,H,V,k2,Y⟩
 | outgrown=>exact ⟨E,H,V,k2,Y⟩
end
def rqG (P:Program) (rs:List ResultVar) (R:Value→World→Prop):Exit→LN→Fr→World→Prop
 | .normal,ds,f,w=>(∀D∈ds,w.heap[D]?=some (.deferred (some [])))∧ds.Nodup∧∃vs,∀w',Step ds w w'→UR P f w' rs vs∧R (tup vs) w'
 | .ret,ds,f,w=>(∀D∈ds,w.heap[D]?=some (.deferred (some [])))∧ds.Nodup∧∃vs,∀w',Step ds w w'→UR P f w' rs vs∧R (tup vs) w'
 | _,_,_,_=>False
theorem Step.putObj (w:World) (D:Nat) (o:Obj):Step [D] w (w.putObj D o):=⟨Z,Z,Z,by simp,λk _ hk=>World.putObj_heap_other (λe=>hk (by simp[e]))⟩
theorem zW {F:Fence}{m:Nat}{P:Program}{fn:Func}{tmps:Array Value}{R:Ending→World→Prop}:∀(ds:LN) (w:World),(∀D∈ds,w.heap[D]?=some (.deferred (some [])))→ds.Nodup →
  (∀w',Step ds w w'→∃v,(results fn tmps).run P w'=.ok v w'∧R (.returned v) w')→LeavesInM F m P fn tmps R (coll ds) .returning w
 | [],w,_,_,h=>h w (Step.refl _ _)
 | D::ds,w,hD,I,h=>by
  refine ⟨by simp,.inl ⟨D,_,rfl,run_takeDeferred (hD D Lm),?_⟩⟩;have hs:=Step.putObj w D (.deferred none);have H:=List.nodup_cons.1 I;refine zW ds _ (λE hE=>?_) H.2 (λw' J=>h w' ?_)
  ·rw[World.putObj_heap_other (λe=>H.1 (by rw[←e];exact hE))];exact hD E (Lk _ hE)
  exact (hs.mono (λb hb=>by simp at hb;simp[hb])).trans' (J.mono (λb hb=>Lk _ hb))
theorem QG.of_G {P:Program}{g:Nat}{fn:Func}{c:Code}{args:LV}{w:World}{R:Value→World→Prop}{n:Nat}{rs:List ResultVar}(m:Nat)
  (V:P.funcs[g]?=some fn) (hb:fn.body=some c) (Y:fn.ntmps=n) (ha:fn.results=rs.toArray) (hl:args.length≤n)
  (h:WG none m P n c (rqG P rs R) [] (ent args) w):QG P g args w R:=by
 unfold QG;refine (callsIn_wide (n:=m)).1 (callsIn_of_wp_marks V hb La (wpIn_mono (h _ ?_) ?_))
 ·refine ⟨by simp[Y];omega,Z,λt=>?_⟩;have key:∀(l:LV) (t:Nat),l[t]?.getD undef=ent l t:=by
   intro l;induction l with
   | nil=>intro t;rfl
   | cons v l ih=>intro t;cases t with | zero=>rfl | succ t=>simpa[ent] using ih t
  rw[←key];simp only[Array.getD_eq_getD_getElem?,Array.getElem?_append,List.size_toArray,List.getElem?_toArray];by_cases ht:t<args.length
  ·simp[ht]
  simp[ht,Array.getElem?_replicate];split <;> rfl
 rintro e I w' ⟨H,f',h1,_,h3⟩;have fin:((∀D∈H,w'.heap[D]?=some (.deferred (some [])))∧H.Nodup∧∃vs,∀E,Step H w' E→UR P f' E rs vs∧R (tup vs) E) →
   LeavesInM Fence.wide m P fn I.tmps (λe w'=>match e with | .returned v=>R v w' | _=>False) I.defers .returning w':=by
  rintro ⟨hd,hc,vs,J⟩;rw[h1.defers];refine zW H w' hd hc λE U=>⟨tup vs,?_,(J E U).2⟩;simp only[results,ha,List.mapM_toArray,Sem.run_bind,Sem.run_map];rw[JI (a:={ I with defers:=[] }) h1.rel _ (λ_=>rfl) (λ_ _=>rfl) rs vs (J E U).1]
  cases vs with
  | nil=>rfl
  | cons v vs=>cases vs with | nil=>rfl | cons u us=>rfl
 cases e with
 | normal=>exact fin h3
 | ret=>exact fin h3
 | exit id=>exact h3.elim
 | goto l=>exact h3.elim
 | panic c=>exact h3.elim
 | outgrown=>exact h3.elim
attribute [irreducible] WG
end Go.Lg
namespace Go.Proofs.YtjcgijbhaemldaaGreatDoor
open Go.Proofs.Tryz
open Go.Lg
def IxQ {α:Type}(q:α→Bool) (es:List α) (r:Value):Prop:=(r=.int .i64 (-1)∧∀m (hm:m<es.length),q (es[m]'hm)=false)∨∃(i:Nat) (hi:i<es.length),r=.int .i64 i∧q (es[i]'hi)=true∧∀m (hm:m<i),q (es[m]'(by omega))=false
theorem QlU {g:Nat}{fn:Func}[Fu prog g fn] {cap:LV}{q:Ed→Bool}{L:LN}{w:World}{v:Value}{es:List Ed}(h:zf L w.heap v es)
  (hk:∀(e:Ed) (E:World),Step [] w E→QG prog g ([.agg (QB e).toArray]++cap) E λr w'=>r=.bool (q e)∧Step [] E w') :
  QG prog 228 [v,.func (.func g) #[] cap.toArray] w λr w'=>Step [] w w'∧IxQ q es r:=by
 have ha:=h.le;refine QG.of_W func228 Z ntmps228 results228 (by simp) ?_;refine Qc<|Qf<|Qg<|Qc<|Qb<|x (Qr h Z)<|Qb<|xe<|Qh<|Qz (α:=Nat) [(4,5),(8,18)] (λz=>[(8,.int .i64 z)]) (λz w'=>z≤es.length∧Step [] w w'∧∀m (hm:m<es.length),m<z→q (es[m]'hm)=false) (λz=>es.length - z) (by rfl) 0 Lb ⟨Ln _,Step.refl _ _,λm _ V=>absurd V (Me m)⟩ ?_;rintro k g1 E ⟨hk1,H,hq⟩
 refine Qc<|x (QA Z Z)<|xe<|Qg<|QC Z (λh9=>?_) (λh9=>?_)
 ·refine Qy<|Qc<|Qf ?_;exact Ql ⟨[.int .i64 (-1)],Lb,H,.inl ⟨Z,λm hm=>hq m hm (by omega)⟩⟩
 have I:k<es.length:=by omega
 refine Qi<|Qg<|Qh<|Qc<|Qb<|Qf<|Qc<|Qb<|Qb<|Qb<|xie (h.ext H) Z Z I λhb Y=>x (QJ Y Z Z)<|xl Z<|xc (first:=[]) (capt:=cap) Z<|(hk (es[k]'I) E H).mono ?_;rintro r2 w2 ⟨rfl,U⟩;refine xe<|QW rfl (λJ=>?_) (λJ=>?_)
 ·refine Qc<|Qb<|Qf ?_;exact Ql ⟨[.int .i64 k],Lb,H.trans U,.inr ⟨k,I,Z,J,λm hm=>hq m (by omega) hm⟩⟩
 refine Qi<|Qx<|QQ Z Z<|Qb<|xe<|⟨k+1,by omega,Lb,I,H.trans U,λm hm hc=>?_⟩;by_cases e:m=k
 ·subst e;exact J
 exact hq m hm (by omega)
theorem QlT {g:Nat}{fn:Func}[Fu prog g fn] {cap:LV}{q:Int→Bool}{L:LN}{w:World}{v:Value}{es:LI}(h:QL L w.heap v es)
  (hk:∀(e:Int) (E:World),Step [] w E→QG prog g ([.int .i64 e]++cap) E λr w'=>r=.bool (q e)∧Step [] E w') :
  QG prog 111 [v,.func (.func g) #[] cap.toArray] w λr w'=>Step [] w w'∧IxQ q es r:=by
 have ha:=h.le;refine QG.of_W func111 Z ntmps111 results111 (by simp) ?_;refine Qc<|Qf<|Qg<|Qc<|Qb<|x (Qr h Z)<|Qb<|xe<|Qh<|Qz (α:=Nat) [(4,5),(8,18)] (λz=>[(8,.int .i64 z)]) (λz w'=>z≤es.length∧Step [] w w'∧∀m (hm:m<es.length),m<z→q (es[m]'hm)=false) (λz=>es.length - z) (by rfl) 0 Lb ⟨Ln _,Step.refl _ _,λm _ V=>absurd V (Me m)⟩ ?_;rintro k g1 E ⟨hk1,H,hq⟩
 refine Qc<|x (QA Z Z)<|xe<|Qg<|QC Z (λh9=>?_) (λh9=>?_)
 ·refine Qy<|Qc<|Qf ?_;exact Ql ⟨[.int .i64 (-1)],Lb,H,.inl ⟨Z,λm hm=>hq m hm (by omega)⟩⟩
 have I:k<es.length:=by omega
 refine Qi<|Qg<|Qh<|Qc<|Qb<|Qf<|Qc<|Qb<|Qb<|Qb<|xii (h.ext H) Z Z I λhb Y=>x (Qv Y Z)<|xl Z<|xc (first:=[]) (capt:=cap) Z<|(hk (es[k]'I) E H).mono ?_;rintro r2 w2 ⟨rfl,U⟩;refine xe<|QW rfl (λJ=>?_) (λJ=>?_)
 ·refine Qc<|Qb<|Qf ?_;exact Ql ⟨[.int .i64 k],Lb,H.trans U,.inr ⟨k,I,Z,J,λm hm=>hq m (by omega) hm⟩⟩
 refine Qi<|Qx<|QQ Z Z<|Qb<|xe<|⟨k+1,by omega,Lb,I,H.trans U,λm hm hc=>?_⟩;by_cases e:m=k
 ·subst e;exact J
 exact hq m hm (by omega)
theorem Qf5 {g:Nat}{fn:Func}[Fu prog g fn] {cap:LV}{q:Int→Bool}{L:LN}{w:World}{v:Value}{es:LI}(h:QL L w.heap v es)
  (hk:∀(e:Int) (H:World),Step [] w H→QG prog g ([.int .i64 e]++cap) H λr w'=>r=.bool (q e)∧Step [] H w') :
  QG prog 153 [v,.func (.func g) #[] cap.toArray] w λr w'=>r=.bool (es.any q)∧Step [] w w':=by
 refine QG.of_W func153 Z ntmps153 results153 (by simp) ?_;refine Qc<|Qf<|Qc<|Qb<|Qb<|xl Z<|xf<|(QlT h hk).mono ?_;rintro U H ⟨I,E⟩;refine Or.elim E (λE=>?_) (λE=>?_)
 ·obtain ⟨rfl,hq⟩:=E;have e:es.any q=false:=by
   rw[M8];intro z J;obtain ⟨i,hi,rfl⟩:=LB J;rw[hq i hi];simp
  refine x (ZZ Z Z)<|Qf ?_;exact Ql ⟨[.bool false],Lb,by rw[e];rfl,I⟩
 obtain ⟨i,hi,rfl,h1,_⟩:=E;have e:es.any q=true:=Mk.2 ⟨_,Le hi,h1⟩;have e2:decide ((0:Int)≤(i:Int))=true:=by simp
 refine x (ZZ Z Z)<|Qf ?_;exact Ql ⟨[.bool (decide ((0:Int)≤(i:Int)))],Lb,by rw[e,e2];rfl,I⟩
theorem Qlk (es:List Ed) (s v:Int):nxt es s v=nxt (ZE es s) s v:=by
 induction es with
 | nil=>rfl
 | cons e es ih =>
  unfold ZE at *;rw[Ml];by_cases h:e.1=s
  ·rw[if_pos (by simpa using h),nxt,nxt,ih]
  rw[if_neg (by simpa using h),nxt,if_neg (λc=>h c.1),ih]
theorem Qiw:∀(l:List Ed) (s v:Int) (i:Nat) (hi:i<l.length),(∀e∈l,e.1=s)→(l[i]'hi).2.1=v→(∀m (hm:m<i),(l[m]'(by omega)).2.1≠v)→nxt l s v=(l[i]'hi).2.2
 | e::l,s,v,0,_,hs,E,_=>by rw[nxt,if_pos ⟨hs e Lm,E⟩];rfl
 | e::l,s,v,i+1,hi,hs,E,hm=>by
  rw[nxt,if_neg (λc=>hm 0 (by omega) c.2)];exact Qiw l s v i (by simpa using hi) (λe he=>hs e (Lk _ he)) E (λm H=>hm (m+1) (by omega))
theorem Qis:∀(l:List Ed) (s v:Int),(∀e∈l,e.2.1≠v)→nxt l s v=-1
 | [],_,_,_=>rfl
 | e::l,s,v,h=>by rw[nxt,if_neg (λc=>h e Lm c.2)];exact Qis l s v (λe he=>h e (Lk _ he))
theorem QiB {b T:Nat}{n:Int}(e:Ed) (w:World) (H:QT w.heap b T [.int .i64 n]) :
  QG prog 229 ([.agg (QB e).toArray]++[.pointer (some ⟨b,0,none⟩)]) w λr w'=>r=.bool (decide (e.2.1=n))∧Step [] w w':=by
 refine QG.of_W func229 Z ntmps229 results229 (by simp) ?_;refine Qc<|xl Z<|QR (us:=QB e) Z λJ U E V I=>Qf<|Qc<|x (Qa Z)<|x (Qd I Z Z)<|x (Qd (H.ext E) Z Z)<|x (Zr Z Z)<|Qf ?_;exact Ql ⟨[_],Lb,Z,E⟩
theorem Qdi {L:LN}{w:World}{va vm ve:Value}{st:Int}{a:QD}(h:zf L w.heap ve a.ed) (H:QM a) (s v:Int) (hb:0≤s) (J:s<a.st) :
  QG prog 198 [.agg #[va,.int .i64 st,vm,ve],.int .i64 s,.int .i64 v] w λr w'=>r=.int .i64 (nxt a.ed s v)∧Step [] w w':=by
 have hj:=H.st1;refine QG.of_W func198 Z ntmps198 results198 (by simp) ?_;refine Qc<|xl Z<|QR (us:=[va,.int .i64 st,vm,ve]) Z λb3 w1 J hk hc=>xl Z<|QR (us:=[.int .i64 v]) Z λb5 w2 U hl hf=>Qf<|Qc<|x (Qp (hc.ext U) Z Z)<|Qb<|xl Z<|xf<|(QdW ((h.ext J).ext U) H.eds (λe he=>⟨(H.ed e he).1,by have:=(H.ed e he).2.1;omega⟩) s hb (by omega)).mono ?_;rintro vo w3 ⟨V,hE⟩;refine Qf ?_
 have hg:∀e∈ZE a.ed s,e.1=s:=λe he=>(Yy he).2;rw[Qlk];refine Qc<|Qb<|x (Zo (l:=[]) (l':=[.tmp 5]))<|xl Z<|xf<|(QlU (q:=λe=>decide (e.2.1=v)) (cap:=[.pointer (some ⟨b5,0,none⟩)]) hE (λe Y I=>QiB e Y ((hf.ext V).ext I))).mono ?_;rintro r4 Y ⟨I,E⟩;have hW:=((J.trans U).trans V).trans I;refine Or.elim E (λE=>?_) (λE=>?_)
 ·obtain ⟨rfl,hq⟩:=E;have e1:nxt (ZE a.ed s) s v=-1:=Qis _ _ _ λe he=>by
   obtain ⟨i,hi,rfl⟩:=LB he;simpa using hq i hi
  rw[e1];refine Qf<|Qg<|Qc<|Qb<|x (QA Z Z)<|xe<|yL Z ?_;refine Qc<|Qf ?_;exact Ql ⟨[.int .i64 (-1)],Lb,Z,hW⟩
 obtain ⟨i,hi,rfl,h1,h2⟩:=E;have e1:nxt (ZE a.ed s) s v=((ZE a.ed s)[i]'hi).2.2:=Qiw _ s v i hi hg (by simpa using h1) (λm hm=>by simpa using h2 m hm);rw[e1];refine Qf<|Qg<|Qc<|Qb<|x (QA Z Z)<|xe<|Q3 Z (λha=>absurd ha (by omega)) (λha=>?_);refine Qi<|Qc<|Qb<|Qb<|xie (hE.ext I) Z Z hi λhn hh=>x (Zj Z)<|x (Qv (hh.fld 2 _ Z) Z)<|Qf ?_;exact Ql ⟨[_],Lb,Z,hW⟩
def flw (a:QD):Int→LI→Int×Nat
 | s,[]=>(s,0)
 | s,v::u=>if nxt a.ed s v<0 then (s,0) else ((flw a (nxt a.ed s v) u).1,(flw a (nxt a.ed s v) u).2+1)
theorem Qit {a:QD}(E:QM a) {s v:Int}(h:¬nxt a.ed s v<0):nxt a.ed s v<a.st:=(E.ed _ (QaZ (by omega))).2.2.2.2
theorem jV {L L':LN}{w:World}{va vm ve vw:Value}{st:Int}{a:QD}{u:LI}(h:zf L w.heap ve a.ed) (I:QL L' w.heap vw u) (Y:QM a) (s:Int) (hh:0≤s) (ha:s<a.st) :
  QG prog 161 [.agg #[va,.int .i64 st,vm,ve],.int .i64 s,vw] w λr w'=>r=.tuple #[.int .i64 (flw a s u).1,.int .i64 (flw a s u).2]∧Step [] w w':=by
 have hm:=I.le;refine QG.of_W func161 Z ntmps161 results161 (by simp) ?_;refine Qc<|xl Z<|QR (us:=[va,.int .i64 st,vm,ve]) Z λb3 w1 ha hp hi=>x Qe<|Qf<|Qg<|Qc<|Qb<|x (Qr I Z)<|Qb<|xe ?_
 refine Qh<|Qz (α:=Nat×Int) [(1,1),(6,10),(13,27)] (λz=>[(1,.int .i64 z.2),(13,.int .i64 z.1)]) (λz w'=>z.1≤u.length∧0≤z.2∧z.2<a.st∧Step [] w1 w'∧flw a s u=((flw a z.2 (u.drop z.1)).1,(flw a z.2 (u.drop z.1)).2+z.1)) (λz=>u.length - z.1) (by rfl) (0,s) ⟨Z,Z,La⟩ ⟨Ln _,hh,by assumption,Step.refl _ _,by simp⟩ ?_;rintro ⟨k,t⟩ g w2 ⟨hk,hb,hc,V,E⟩;simp only[] at hk hb hc E
 have J:=ha.trans V;refine Qc<|x (QA Z Z)<|xe<|Qg<|QC Z (λhe=>?_) (λhe=>?_)
 ·refine Qy<|Qc<|Qb<|Qb<|x (Qr I Z)<|x Qe<|Qf ?_;rw[Lx (by omega)] at E;have hj:k=u.length:=by have hq:¬(k:Int)<(u.length:Int):=he;omega
  refine Ql ⟨[.int .i64 t,.int .i64 u.length],⟨Z,Z,La⟩,?_,J⟩;rw[E,hj];simp[flw,tup]
 have H:k<u.length:=by omega
 rw[Q7 H,flw] at E;refine Qi<|Qg<|Qh<|Qc<|Qb<|xii (I.ext J) Z Z H λhr hl=>x (Qv hl Z)<|x Qe<|Qf<|Qc<|x (Qp (hi.ext V) Z Z)<|Qb<|Qb<|xl Z<|xf<|(Qdi (h.ext J) Y t (u[k]'H) hb hc).mono ?_;rintro r3 w3 ⟨rfl,hg⟩;refine Qf<|Qg<|Qc<|Qb<|x (QA Z Z)<|xe<|Q3 rfl (λU=>?_) (λU=>?_)
 ·rw[if_pos U] at E;refine Qc<|Qb<|Qb<|x Qe<|Qf<|Ql ⟨[.int .i64 t,.int .i64 k],⟨Z,Z,La⟩,?_,J.trans hg⟩;rw[E];simp[tup]
 rw[if_neg U] at E;have hn:=Qit Y U;refine Qi<|Qx<|Qb<|Qf<|Qx<|QQ Z Z<|Qb<|xe<|⟨(k+1,nxt a.ed t (u[k]'H)),by simp only[];omega,⟨Z,Z,La⟩,H,by simp only[];omega,hn,V.trans hg,?_⟩;simp only[];rw[E];simp;omega
def rchd (a:QD) (u:LI):Int×Bool:=if a.st=0 then (0,false) else ((flw a 0 u).1,decide (((flw a 0 u).2:Int)=(u.length:Int)))
theorem QdL {L L':LN}{w:World}{va vm ve vw:Value}{a:QD}{u:LI}(h:zf L w.heap ve a.ed) (I:QL L' w.heap vw u) (J:QM a) :
  QG prog 159 [.agg #[va,.int .i64 a.st,vm,ve],vw] w λr w'=>r=.tuple #[.int .i64 (rchd a u).1,.bool (rchd a u).2]∧Step [] w w':=by
 have Y:=J.st0;refine QG.of_W func159 Z ntmps159 results159 (by simp) ?_;refine Qc<|xl Z<|QR (us:=[va,.int .i64 a.st,vm,ve]) Z λb2 w1 E ha U=>x Qe<|Qf<|Qg<|Qc<|x (Qa Z)<|x (Qd U Z Z)<|x (Zr Z Z)<|xe ?_;unfold rchd;refine Q3 rfl (λH=>?_) (λH=>?_)
 ·refine Qc<|x Qe<|Qf ?_;exact Ql ⟨[.int .i64 0,.bool false],⟨Z,Z,La⟩,by rw[if_pos H];rfl,E⟩
 rw[if_neg H];refine Qi<|Qc<|x (Qp U Z Z)<|Qb<|xl Z<|xf<|(jV (h.ext E) (I.ext E) J 0 (by omega) (by omega)).mono ?_;rintro r2 w2 ⟨rfl,V⟩;refine Qb<|x (Qj Z Z)<|x (Qj Z Z) <|
  x Qe<|Qf<|Qc<|Qb<|Qb<|Qb<|x (Qr I Z)<|x (Zr Z Z)<|x Qe<|Qf ?_
 exact Ql ⟨[_,_],⟨Z,Z,La⟩,Z,E.trans V⟩
def gens (a:QD) (u:LI):Bool:=if XM a≠0 then false else (rchd a u).2
theorem QbE {L L':LN}{w:World}{va vm ve vw:Value}{a:QD}{u:LI}(h:Zq L w.heap va vm ve a) (V:QL L' w.heap vw u) :
  QG prog 102 [.agg #[va,.int .i64 a.st,vm,ve],vw] w λr w'=>r=.tuple #[.bool (gens a u),.int .i64 (XM a)]∧Step [] w w':=by
 refine QG.of_W func102 Z ntmps102 results102 (by simp) ?_;refine Qc<|xl Z<|QR (us:=[va,.int .i64 a.st,vm,ve]) Z λb2 w1 H ha U=>x Qe<|Qf<|Qg<|Qc<|x (Qp U Z Z)<|xl Z<|xf<|(Xn (h.ext H)).mono ?_;rintro r2 w2 ⟨rfl,I⟩;refine Qf<|Qc<|Qb<|x (Q8 Z Z)<|xe ?_;unfold gens;refine Q3 rfl (λE=>?_) (λE=>?_)
 ·refine Qc<|Qb<|x Qe<|Qf ?_;exact Ql ⟨[_,_],⟨Z,Z,La⟩,by rw[if_pos E];rfl,H.trans I⟩
 have hc:XM a=0:=Lo.1 E;rw[if_neg E,hc];have J:=H.trans I;refine Qi<|Qc<|x (Qp (U.ext I) Z Z)<|Qb<|xl Z<|xf<|(QdL (h.ed.ext J) (V.ext J) ((Zv a).1 hc)).mono ?_;rintro r3 w3 ⟨rfl,Y⟩;refine Qb<|x (Qj Z Z) <|
  x (Qj rfl Z)<|x Qe<|Qf<|Qc<|Qb<|x Qe<|Qf ?_
 exact Ql ⟨[_,_],⟨Z,Z,La⟩,Z,J.trans Y⟩
def cks (a:QD) (s:Int):Int:=if XM a≠0 then XM a else if s<0∨a.st≤s then 2 else 0
theorem JW {L:LN}{w:World}{va vm ve:Value}{a:QD}(h:Zq L w.heap va vm ve a) (s:Int) :
  QG prog 104 [.agg #[va,.int .i64 a.st,vm,ve],.int .i64 s] w λr w'=>r=.int .i64 (cks a s)∧Step [] w w':=by
 refine QG.of_W func104 Z ntmps104 results104 (by simp) ?_;refine Qc<|xl Z<|QR (us:=[va,.int .i64 a.st,vm,ve]) Z λb2 w1 J ha U=>Qf<|Qg<|Qc<|x (Qp U Z Z)<|xl Z<|xf<|(Xn (h.ext J)).mono ?_;rintro r2 Y ⟨rfl,V⟩;refine Qf ?_;unfold cks;have E:=J.trans V;refine Qc<|Qb<|x (Q8 Z Z)<|xe<|Q3 rfl (λh9=>?_) (λh9=>?_)
 ·refine Qc<|Qb<|Qf ?_;exact Ql ⟨[_],Lb,by rw[if_pos h9];rfl,E⟩
 rw[if_neg h9];refine Qi<|Qg<|QZ (α:=Unit) [(11,18)] (λz=>[(18,.bool (decide (s<0∨a.st≤s)))]) (λz w'=>w'=Y) (by rfl) ?_ ?_
 ·refine Qx<|Qb<|xb (QA Z Z) (λH=>?_) (λH=>?_)
  ·refine Qb<|xs Z<|xs Z<|xs Z<|xs Z<|x (Qo Z)<|xe ?_;exact ⟨(),⟨by rw[decide_eq_true (Or.inl H)];rfl,La⟩,Z⟩
  refine Qb<|Qb<|x (Qa Z)<|x (Qd (U.ext V) Z Z)<|x (ZZ Z Z)<|x (Qo Z)<|xe ?_;exact ⟨(),⟨by show Value.bool (decide (a.st≤s))=_;simp[H],La⟩,rfl⟩
 rintro z g w3 rfl;refine Q3 rfl (λI=>?_) (λI=>?_)
 ·refine Qc<|Qf ?_;exact Ql ⟨[_],Lb,by rw[if_pos I];rfl,E⟩
 refine Qi<|Qc<|Qf ?_;exact Ql ⟨[_],Lb,by rw[if_neg I];rfl,E⟩
theorem QcZ {a:QD}{s:Int}(h:cks a s=0):QM a∧0≤s∧s<a.st:=by
 unfold cks at h;split at h
 ·rename_i h1;exact absurd h h1
 rename_i h1;split at h
 ·cases h
 rename_i h2;exact ⟨(Zv a).1 (Lo.1 h1),by omega,by omega⟩
theorem Qk8 {L:LN}{b T:Nat}{va:Value}{al:LI}{us:LV}(e:Int) (w:World) (E:QT w.heap b T (va::us)) (H:QL L w.heap va al) :
  QG prog 160 ([.int .i64 e]++[.pointer (some ⟨b,0,none⟩)]) w λr w'=>r=.bool (decide (e∉al))∧Step [] w w':=by
 refine QG.of_W func160 Z ntmps160 results160 (by simp) ?_;refine Qc<|Qf<|Qc<|x (Qa Z)<|x (Qd E Z Z)<|Qb<|xl Z<|xf<|(YN H e).mono ?_;rintro I J ⟨rfl,rfl⟩;refine x (Zs Z)<|Qf<|Ql ⟨[_],Lb,?_,Step.refl _ _⟩;show Value.bool (!decide (e∈al))=_;rw[decide_not]
def Qh1 (a:QD) (s:Int) (u:LI):Int:=if cks a s≠0 then cks a s else if (u.any λe=>decide (e∉a.al))=true then 9 else 0
theorem QoO {L L':LN}{w:World}{va vm ve vw:Value}{a:QD}{u:LI}(h:Zq L w.heap va vm ve a) (hw:QL L' w.heap vw u) (s:Int) :
  QG prog 103 [.agg #[va,.int .i64 a.st,vm,ve],.int .i64 s,vw] w λr w'=>Step [] w w'∧r=if Qh1 a s u≠0 then .tuple #[.int .i64 0,.int .i64 0,.int .i64 (Qh1 a s u)] else .tuple #[.int .i64 (flw a s u).1,.int .i64 (flw a s u).2,.int .i64 0]:=by
 refine QG.of_W func103 Z ntmps103 results103 (by simp) ?_;refine Qc<|xl Z<|QR (us:=[va,.int .i64 a.st,vm,ve]) Z λb3 w1 ha he U=>x Qe<|x Qe<|Qf<|Qg<|Qc<|x (Qp U Z Z)<|Qb<|xl Z<|xf<|(JW (h.ext ha) s).mono ?_;rintro r2 w2 ⟨rfl,V⟩;refine Qf ?_;have H:=ha.trans V;unfold Qh1;refine Qc<|Qb<|x (Q8 Z Z)<|xe<|Q3 rfl (λE=>?_) (λE=>?_)
 ·refine Qc<|Qb<|x Qe<|x Qe<|Qf ?_;exact Ql ⟨[_,_,_],⟨Z,Z,Z,La⟩,H,by rw[if_pos E,if_pos E];rfl⟩
 have hc:cks a s=0:=Lo.1 E;obtain ⟨ho,h0,h1⟩:=QcZ hc;rw[if_neg E];refine Qi<|Qg<|Qc<|Qb<|x (Zo (l:=[]) (l':=[.tmp 3]))<|xl Z<|xf<|(Qf5 (q:=λe=>decide (e∉a.al)) (cap:=[.pointer (some ⟨b3,0,none⟩)]) (hw.ext H) (λe w4 I=>Qk8 e w4 ((U.ext V).ext I) ((h.al.ext H).ext I))).mono ?_;rintro r3 w3 ⟨rfl,hb⟩;refine xe ?_;have J:=H.trans hb
 refine QW rfl (λY=>?_) (λY=>?_)
 ·rw[if_pos Y];refine Qc<|x Qe<|x Qe<|Qf ?_;exact Ql ⟨[_,_,_],⟨Z,Z,Z,La⟩,J,by rw[if_pos (by decide)];rfl⟩
 rw[if_neg (by rw[Y];simp)];refine Qi<|Qc<|x (Qp ((U.ext V).ext hb) Z Z)<|Qb<|Qb<|xl Z<|xf<|(jV (h.ed.ext J) (hw.ext J) ho s h0 h1).mono ?_;rintro r4 w4 ⟨rfl,I⟩;refine Qb<|x (Qj Z Z) <|
  x (Qj rfl Z)<|x Qe<|Qf<|Qc<|Qb<|Qb<|x Qe<|x Qe<|Qf ?_
 exact Ql ⟨[_,_,_],⟨Z,Z,Z,La⟩,J.trans I,Z⟩
def enb (a:QD) (s:Int):LI:=(ZE a.ed s).map (·.2.1)
theorem QjF {l:List Ed}{k:Nat}(h:k<l.length):(l.take (k+1)).map (·.2.1)=(l.take k).map (·.2.1)++[(l[k]'h).2.1]:=by
 rw[List.take_add_one,LE h,Ly];rfl
theorem V4 {L:LN}{w:World}{va vm ve:Value}{a:QD}(h:Zq L w.heap va vm ve a) (s:Int) :
  QG prog 55 [.agg #[va,.int .i64 a.st,vm,ve],.int .i64 s] w λr w'=>Step [] w w'∧∃v,r=.tuple #[v,.int .i64 (cks a s)]∧(cks a s≠0→v=Zg)∧(cks a s=0→Qs 3 w.heap.size w' v (enb a s)):=by
 refine QG.of_W func55 Z ntmps55 results55 (by simp) ?_;refine Qc<|xl Z<|QR (us:=[va,.int .i64 a.st,vm,ve]) Z λb2 w1 hh h4 hi=>x Qe<|Qf<|Qg<|Qc<|x (Qp hi Z Z)<|Qb<|xl Z<|xf<|(JW (h.ext hh) s).mono ?_;rintro r2 w2 ⟨rfl,hj⟩;refine Qf ?_;have V:=hh.trans hj;refine Qc<|Qb<|x (Q8 Z Z)<|xe<|Q3 rfl (λY=>?_) (λY=>?_)
 ·refine Qc<|Qb<|x Qe<|Qf ?_;exact Ql ⟨[Zg,_],⟨Z,Z,La⟩,V,Zg,Z,λ_=>Z,λe=>absurd e Y⟩
 have hc:cks a s=0:=Lo.1 Y;obtain ⟨H,h0,h1⟩:=QcZ hc;have h5:=H.st1;rw[hc];refine Qi<|Qc<|Qf<|Qg<|Qc<|x (Qp (hi.ext hj) Z Z)<|Qb<|xl Z<|xf<|(QdW (h.ed.ext V) H.eds (λe he=>⟨(H.ed e he).1,by have:=(H.ed e he).2.1;omega⟩) s h0 (by omega)).mono ?_;rintro vo w3 ⟨hm,hE⟩;refine x (Qr hE Z)<|Qb<|xe ?_;have hl:=V.trans hm;have hn:=hl.size;have hp:=J4 a.ed s
 have h6:=H.ed_le;refine Zh (ZE a.ed s) λos I=>?_;rw[I] at hE hp;refine Qh<|Qz (α:=Nat×Value) [(7,7),(9,9),(20,29)] (λz=>[(7,z.2),(20,.int .i64 z.1)]) (λz w'=>z.1≤os.length∧Step [] w3 w'∧Qs 3 w3.heap.size w' z.2 ((os.take z.1).map (·.2.1))) (λz=>os.length - z.1) (by rfl) (0,nS) ⟨Z,by rw[I];rfl,La⟩ ⟨Ln _,Step.refl _ _,QP _ _ _ _⟩ ?_;rintro ⟨k,v⟩ g w4 ⟨hk,U,J⟩
 simp only[] at hk J;have h7:=U.size;refine Qc<|x (QA Z Z)<|xe<|Qg<|QC Z (λha=>?_) (λha=>?_)
 ·refine Qy<|Qc<|Qb<|x Qe<|Qf ?_;rw[Ls (by rw[I] at ha;omega)] at J;refine Ql ⟨[v,_],⟨Z,Z,La⟩,hl.trans U,v,Z,λe=>absurd Z e,λ_=>?_⟩;unfold enb;rw[I];exact Zi J hn
 have E:k<os.length:=by rw[I] at ha;omega
 refine Qi<|Qg<|Qh<|Qc<|xie (hE.ext U) Z Z E λh8 hq=>x (QJ hq Z Z)<|xl Z<|Qu (us:=[.int .i64 0,.int .i64 0,.int .i64 0]) Z λb9 w5 hr hs ht=>xl Z<|Qn (us:=QB (os[k]'E)) ht Z Z Z Z ⟨Z,Z,Z,La⟩ λw6 hu hv =>
  xe ?_
 have hf:Step [] w4 w6:=hr.then1 hu hs;have hw:=Qt J hf;refine Qx<|Qb<|x (Qa Z)<|x (Qd hv Z Z)<|xl Z<|QH (us:=[[.int .i64 (os[k]'E).2.1]]) Z Z (by decide) (by simp) ⟨rfl,rfl,La⟩ λh9 w7 hg hA hy=>?_;have hz:=Qt hw hg;have hB:=(hf.trans hg).size;have hC:((os.take k).map (·.2.1)).length≤131072:=by simp;omega
 refine xl rfl<|Q6 (news:=[.int .i64 (os[k]'E).2.1]) (L:=[]) hz Z Z Z (hy.at (by simp)) (by simp[Value.oneCell']) (by omega) (by omega) λv8 w8 h2 h3 hD=>Qf ?_;have hge:=Qq J;refine Qx<|QQ Z Z<|Qb<|xe<|⟨(k+1,v8),by simp only[];omega,⟨Z,Z,La⟩,E,((U.trans hf).trans hg).then h3 (λb hb=>.inr (hge b hb).1),?_⟩;simp only[];rw[QjF E];exact Qs.snoc h2
def Qen:List QD→LI→Int
 | a::l,t::ts=>if t<0∨a.st≤t then 2 else Qen l ts
 | _,_=>0
def ckT (l:List QD) (t:LI):Int:=if JP l≠0 then JP l else if t.length≠l.length then 4 else Qen l t
theorem jf {L L':LN}{w:World}{v vt:Value}{ps:List AV}{ts:LI}(h:Xf L w.heap v ps) (ht:QL L' w.heap vt ts) :
  QG prog 162 [v,vt] w λr w'=>r=.int .i64 (ckT (ps.map (·.a)) ts)∧Step [] w w':=by
 have hz:=Xf.le h;have h0:=ht.le;refine QG.of_W func162 Z ntmps162 results162 (by simp) ?_;refine Qc<|Qf<|Qg<|Qc<|Qb<|xl Z<|xf<|(jC h).mono ?_;rintro r1 w1 ⟨rfl,U⟩;refine Qf ?_;unfold ckT;refine Qc<|Qb<|x (Q8 Z Z)<|xe<|Q3 rfl (λV=>?_) (λV=>?_)
 ·refine Qc<|Qb<|Qf ?_;exact Ql ⟨[_],Lb,by rw[if_pos V];rfl,U⟩
 rw[if_neg V];refine Qi<|Qg<|Qc<|Qb<|x (Qr ht Z)<|Qb<|x (Qr h.arr Z)<|x (Q8 Z Z)<|xe<|Q3 rfl (λhp=>?_) (λhp=>?_)
 ·refine Qc<|Qf ?_;exact Ql ⟨[_],Lb,by rw[if_pos (by rw[Li];omega)];rfl,U⟩
 have hl:ts.length=ps.length:=by omega
 rw[if_neg (by rw[Li];omega)];refine Qi<|Qg<|Qc<|Qb<|x (Qr h.arr Z)<|Qb<|xe<|Qh<|Qz (α:=Nat) [(4,4),(6,7),(20,39)] (λz=>[(20,.int .i64 z)]) (λz w'=>z≤ps.length∧Step [] w1 w'∧Qen (ps.map (·.a)) ts=Qen ((ps.drop z).map (·.a)) (ts.drop z)) (λz=>ps.length - z) (by rfl) 0 Lb ⟨Ln _,Step.refl _ _,Z⟩ ?_;rintro k g w2 ⟨hk,hg,E⟩;have Y:=U.trans hg
 refine Qc<|x (QA Z Z)<|xe<|Qg<|QC Z (λhq=>?_) (λhq=>?_)
 ·refine Qy<|Qc<|Qf<|Ql ⟨[_],Lb,?_,Y⟩;rw[E,Lx (by omega)];rfl
 have H:k<ps.length:=by omega
 have I:k<ts.length:=by omega
 rw[Q7 H,Q7 I,L1,Qen] at E;have J:=h.each _ (Le H);refine Zh (ps[k]'H) λpk hh=>?_;rw[hh] at J E;refine Qi<|Qg<|Qh<|Qc<|Qb<|xig JX (h.arr.ext Y) Z Z H λh1 hi=>?_;rw[hh] at hi;refine x (QJ hi Z Z)<|xl Z<|Qu (us:=[nS,.int .i64 0,nS,nS]) Z λb7 w3 hs hu hv=>x Qe <|
  xl rfl<|Qn (us:=Zc pk) hv Z Z Z Z ⟨J.al.one,Z,J.mr.one,J.ed.one,La⟩ λw4 hw hy=>xe ?_
 have hj:Step [] w2 w4:=hs.then1 hw hu;have ha:=Y.trans hj;refine Zh (ts[k]'I) λtk hb=>?_;rw[hb] at E;refine QZ (α:=Unit) [(25,38)] (λz=>[(38,.bool (decide (tk<0∨pk.a.st≤tk)))]) (λz w'=>Step [] w4 w') (by rfl) ?_ ?_
 ·refine QU (Step [] w4) [(0,true),(1,true),(2,true),(3,true),(4,true),(5,true),(6,true),(7,true),(8,true),(9,true),(10,true),(11,true),(12,true),(13,true)] mixed (by rfl) (by kernel_rfl) (Step.drew _ _) ?_;refine p (λ_=>Qm)<|p (λ_=>Qm)<|pii Z (ht.ext ha) Z Z I λh2 hm=>?_;rw[hb] at hm;refine pq (λ_ hc=>Qv (hm.ext hc) Z) <|
   pb (λ_=>QA Z Z) (λhe=>?_) (λhe=>?_)
  ·refine p (λ_=>Qm)<|Lg.ps<|Lg.ps<|Lg.ps<|Lg.ps<|Lg.ps<|Lg.ps<|Lg.ps<|p (λ_=>Qo Z)<|pe ?_;exact ⟨(),⟨by rw[decide_eq_true (Or.inl he)];rfl,La⟩,Step.drew _ _⟩
  refine p (λ_=>Qm)<|p (λ_=>Qm)<|p (λ_=>Qm)<|pii Z (ht.ext ha) Z Z I λh3 hn=>?_;rw[hb] at hn;refine pq (λ_ hc=>Qv (hn.ext hc) Z) <|
   p (λ_=>Qa Z)<|pq (λ_ hc=>Qd (hy.ext hc) Z Z)<|p (λ_=>ZZ Z Z)<|p (λ_=>Qo Z)<|pe ?_
  exact ⟨(),⟨by show Value.bool (decide (pk.a.st≤tk))=_;simp[he],La⟩,Step.drew _ _⟩
 rintro z g w5 ho;refine Q3 rfl (λhf=>?_) (λhf=>?_)
 ·refine Qc<|Qf ?_;exact Ql ⟨[_],Lb,by rw[E,if_pos hf];rfl,ha.trans ho⟩
 refine Qi<|Qx<|QQ Z Z<|Qb<|xe ?_;exact ⟨k+1,by omega,Lb,H,(hg.trans hj).trans ho,by rw[E,if_neg hf]⟩
theorem QjZ {l:List QD}(h:JP l=0):l.length≤12∧∀a∈l,QM a:=by
 unfold JP at h;split at h
 ·cases h
 rename_i h1;exact ⟨by omega,(Jw l).1 h⟩
theorem j8:∀{l:List QD}{t:LI},t.length=l.length→(Qen l t=0↔Vt l t)
 | [],t,hl=>by
  have:t=[]:=Lt hl;subst this;exact ⟨λ_=>⟨Z,λi h=>by simp at h⟩,λ_=>rfl⟩
 | a::l,[],hl=>by simp at hl
 | a::l,t::ts,hl=>by
  rw[Qen];have ih:=j8 (l:=l) (t:=ts) (by simpa using hl);constructor
  ·intro h;split at h
   ·cases h
   rename_i h1;exact Vt.cons (by omega) (by omega) (ih.1 h)
  intro h;have E:=h.2 0 (by simp) (by simp);simp only[List.getElem_cons_zero] at E;rw[if_neg (by omega),ih];exact ⟨by simpa using hl,λi h2 h3=>h.2 (i+1) (by simpa using h2) (by simpa using h3)⟩
theorem Qc1 {l:List QD}{t:LI}(h:ckT l t=0):l.length≤12∧(∀a∈l,QM a)∧Vt l t:=by
 unfold ckT at h;split at h
 ·rename_i h1;exact absurd h h1
 rename_i h1;split at h
 ·cases h
 rename_i h2;obtain ⟨h3,h4⟩:=QjZ (Lo.1 h1);exact ⟨h3,h4,(j8 (by omega)).1 h⟩
def ckV (l:List QD) (t:LI) (v:Int):Int:=if ckT l t≠0 then ckT l t else if v∉evs l then 9 else 0
theorem jg {L L':LN}{w:World}{v vt:Value}{ps:List AV}{ts:LI}(h:Xf L w.heap v ps) (ht:QL L' w.heap vt ts) (e:Int) :
  QG prog 105 [v,vt,.int .i64 e] w λr w'=>r=.int .i64 (ckV (ps.map (·.a)) ts e)∧Step [] w w':=by
 refine QG.of_W func105 Z ntmps105 results105 (by simp) ?_;refine Qc<|Qf<|Qg<|Qc<|Qb<|Qb<|xl Z<|xf<|(jf h ht).mono ?_;rintro r1 w1 ⟨rfl,H⟩;refine Qf ?_;unfold ckV;refine Qc<|Qb<|x (Q8 Z Z)<|xe<|Q3 rfl (λE=>?_) (λE=>?_)
 ·refine Qc<|Qb<|Qf ?_;exact Ql ⟨[_],Lb,by rw[if_pos E];rfl,H⟩
 rw[if_neg E];obtain ⟨h1,h2,h3⟩:=Qc1 (Lo.1 E);rw[Li] at h1;have V:(evs (ps.map (·.a))).length≤1099511627776:=by have:=q5 (ps.map (·.a)) (λa ha=>(h2 a ha).al_le);rw[Li] at this;omega
 refine Qi<|Qg<|Qc<|Qb<|xl Z<|xf<|(j0 (h.ext H) h1 (λp hp=>(h2 p.a (LW hp)).al_le)).mono ?_;rintro r2 w2 ⟨Y,hb⟩;refine Qb<|xl Z<|xf<|(Y3 (Qs.ints (L:=[]) hb V (by simp)) (q6 h2) e).mono ?_;rintro r3 w3 ⟨rfl,rfl⟩;refine x (Zs Z)<|xe ?_;have U:=H.trans Y;refine QW rfl (λI=>?_) (λI=>?_)
 ·have J:e∉evs (ps.map (·.a)):=by simpa using I
  refine Qc<|Qf ?_;exact Ql ⟨[_],Lb,by rw[if_pos J];rfl,U⟩
 have J:¬e∉evs (ps.map (·.a)):=by simpa using I
 refine Qi<|Qc<|Qf ?_;exact Ql ⟨[_],Lb,by rw[if_neg J];rfl,U⟩
def goT (aa:List QD):LI→LI→Option (LI)
 | t,[]=>some t
 | t,v::u=>if v∉evs aa then none else match Q5 v aa t with | none=>none | some t'=>goT aa t' u
theorem Qjc {aa:List QD}{A:QD}{Q:List (LI)}(h:ze aa A Q):∀(u:LI) (j:Nat),j<Q.length →
  (∃H:Nat,H<Q.length∧flw A j u=((H:Int),u.length)∧goT aa (Q.getD j []) u=some (Q.getD H []))∨((flw A j u).2<u.length∧goT aa (Q.getD j []) u=none)
 | [],j,hj=>.inl ⟨j,hj,Z,Z⟩
 | v::u,j,hj=>by
  have hs:=h.step hj v;by_cases E:v∈evs aa
  ·rw[if_pos E] at hs;cases ht:Q5 v aa (Q.getD j []) with
   | none =>
    rw[ht] at hs;have I:nxt A.ed j v=-1:=by rw[XR,hs];rfl
    right;rw[flw,if_pos (by rw[I];decide),goT,if_neg (λe=>e E),ht];exact ⟨by simp,rfl⟩
   | some t' =>
    obtain ⟨h1,h2⟩:=h.to hj E ht;rw[ht] at hs;have I:nxt A.ed j v=(Q.idxOf t':Int):=by rw[XR,hs];rfl
    rw[flw,I,if_neg (by omega),goT,if_neg (λe=>e E),ht];rcases Qjc h u (Q.idxOf t') h1 with ⟨H,k1,k2,k3⟩ | ⟨k1,k2⟩
    ·left;refine ⟨H,k1,?_,?_⟩
     ·rw[k2];simp
     rw[h2] at k3;exact k3
    right;rw[h2] at k2;exact ⟨by simp;omega,k2⟩
  rw[if_neg E] at hs;have I:nxt A.ed j v=-1:=by rw[XR,hs]
  right;rw[flw,if_pos (by rw[I];decide),goT,if_pos E];exact ⟨by simp,rfl⟩
theorem Qmm {a:QD}(H:QM a) (x v:Int):v∈enb a x↔0≤nxt a.ed x v:=by
 unfold enb;rw[zI H];constructor
 ·intro h;obtain ⟨e,he,rfl⟩:=Lq.1 h;obtain ⟨h1,h2⟩:=Yy he;cases E:eget a.ed x e.2.1 with
  | some _=>rfl
  | none =>
   exfalso;have key:∀(l:List Ed),e∈l→eget l x e.2.1=none→False:=by
    intro l;induction l with
    | nil=>intro h;cases h
    | cons d l ih =>
     intro hm E;rw[eget] at E;split at E
     ·cases E
     rename_i I;rcases Lh.1 hm with rfl | hm
     ·exact I ⟨h2,Z⟩
     exact ih hm E
   exact key a.ed h1 E
 intro h;obtain ⟨u,hu⟩:=Mh.1 h;have:=ZV hu;refine Lq.2 ⟨(x,v,u),?_,Z⟩;unfold ZE;exact LL.2 ⟨this,by simp⟩
theorem Qmj {p s:QD}(hp:QM p) (hs:QM s) (H:∀x∈s.al,x∈p.al):evs [p,s]=p.al:=by
 have E:∀a∈[p,s],QM a:=λa ha=>by
  simp only[List.mem_cons,List.not_mem_nil,or_false] at ha;rcases ha with rfl | rfl
  ·exact hp
  exact hs
 refine Z8.ext (q6 E) hp.ali λx=>?_;rw[ZC E];simp only[List.mem_cons,List.not_mem_nil,or_false,exists_eq_or_imp,exists_eq_left];exact ⟨λh=>h.elim id (H x),.inl⟩
theorem QlZ {A:QD}(H:QM A) {aa:List QD}{Q:List (LI)}(h:ze aa A Q) {u:LI}(E:gens A u=true):∃j:Nat,j<Q.length∧flw A 0 u=((j:Int),u.length)∧goT aa (Q.getD 0 []) u=some (Q.getD j []):=by
 unfold gens at E;rw[if_neg (by simpa using (Zv A).2 H)] at E;unfold rchd at E;split at E
 ·cases E
 rename_i J;have U:=h.st;have I:0<Q.length:=by omega
 rcases Qjc h u 0 I with ⟨j,k1,k2,k3⟩ | ⟨k1,_⟩
 ·exact ⟨j,k1,k2,k3⟩
 simp only[decide_eq_true_eq] at E;have:((0:Nat):Int)=0:=rfl;rw[this] at k1;omega
theorem Qjj {a:QD}(E:QM a):∀(u:LI) (s:Int),(flw a s u).2=u.length→∀e∈u,e∈a.al
 | [],_,_,e,he=>by cases he
 | v::u,s,h,e,he=>by
  rw[flw] at h;split at h
  ·simp at h
  rename_i H;rcases Lh.1 he with rfl | he
  ·exact (E.ed _ (QaZ (show 0≤nxt a.ed s e by omega))).2.2.1
  exact Qjj E u _ (by simpa using h) e he
theorem QaN {L:LN}{w:World}{v:Value}{l:LI}(h:QL L w.heap v l) (n:Int) :
  QG prog 136 [v,.int .i64 n] w λr w'=>r=.int .i64 (YV n none l)∧w'=w:=by
 have he:=h.le;refine QG.of_W func136 Z ntmps136 results136 (by simp) ?_;refine Qc<|Qf<|Qg<|Qc<|Qb<|x (Qr h Z)<|Qb<|xe<|Qh<|Qz (α:=Nat) [(4,6),(9,34)] (λk=>[(9,.int .i64 k)]) (λk w'=>w'=w∧k≤l.length∧YV n (pv l k) (l.drop k)=YV n none l) (λk=>l.length - k) (by rfl) 0 Lb ⟨Z,Ln _,Z⟩ ?_;rintro k g V ⟨rfl,hk,hm⟩;refine Qc<|x (QA Z Z)<|xe<|Qg<|QC Z (λY=>?_) (λY=>?_)
 ·refine Qy<|Qc<|Qf<|Ql ⟨[.int .i64 0],Lb,?_,Z⟩;rw[←hm,Lx (by omega)];rfl
 have E:k<l.length:=by omega
 have hd:=Q7 E;rw[hd,YV] at hm;refine Qi<|Qg<|Qh<|Qc<|Qb<|xii h Z Z E λhf ha=>x (Qv ha Z)<|x Qe<|Qf<|Qh<|QZ (α:=Bool) [(14,21)] (λz=>[(14,.bool z)]) (λz w'=>w'=V∧z=decide (l[k]<0∨n≤l[k])) (by rfl) ?_ ?_
 ·refine Qx<|Qb<|xb (QA Z Z) (λH=>?_) (λH=>?_)
  ·refine Qb<|xs Z<|xs Z<|xs Z<|x (Qo Z)<|Qf ?_;exact ⟨true,Lb,Z,by simp[H]⟩
  refine Qb<|Qb<|Qb<|x (ZZ Z Z)<|x (Qo Z)<|Qf ?_;exact ⟨_,Lb,Z,by simp[H]⟩
 rintro z g w2 ⟨rfl,rfl⟩;refine Q3 rfl (λI=>?_) (λI=>?_)
 ·refine Qc<|Qf<|Ql ⟨[.int .i64 2],Lb,?_,Z⟩;rw[←hm,if_pos I];rfl
 rw[if_neg I] at hm;refine QZ (α:=Bool) [(22,33)] (λz=>[(22,.bool z)]) (λz w'=>w'=w2∧z=zX (pv l k) l[k]) (by rfl) ?_ ?_
 ·refine Qx<|Qb<|xb (ZY Z Z) (λhb=>?_) (λhb=>?_)
  ·have hk1:((k:Int) - 1)=((k - 1:Nat):Int):=by omega
   refine Qb<|Qb<|Qb<|Qb<|x (J2 Z Z ⟨by omega,by omega⟩)<|xii (i:=k - 1) h Z (by show Value.int _ ((k:Int) - 1)=_;rw[hk1]) (by omega) λhg hc=>x (Qv hc rfl)<|x (Kw rfl rfl)<|x (Qo rfl)<|Qf<|⟨_,⟨rfl,La⟩,rfl,?_⟩;have:pv l k=some l[k - 1]:=by
    have J:k≠0:=by omega
    simp[pv,J,show k - 1<l.length by omega]
   rw[this];rfl
  refine Qb<|xs Z<|xs Z<|xs Z<|xs Z<|xs Z<|xs Z<|xs Z<|x (Qo Z)<|Qf ?_;have J:k=0:=by omega
  exact ⟨false,Lb,Z,by simp[pv,J,zX]⟩
 rintro z g w3 ⟨rfl,rfl⟩;refine QW rfl (λU=>?_) (λU=>?_)
 ·refine Qc<|Qf<|Ql ⟨[.int .i64 5],Lb,?_,Z⟩;rw[←hm,if_pos U];rfl
 rw[if_neg (by simp[U])] at hm;refine Qi<|Qx<|QQ Z Z<|Qb<|xe ?_;exact ⟨k+1,by omega,Lb,Z,by omega,by rw[Kh E];exact hm⟩
theorem Vo {L:LN}{w:World}{v:Value}{l:LI}(h:QL L w.heap v l) (n:Int) :
  QG prog 167 [v,.int .i64 n] w λr w'=>r=.int .i64 (YV n none l)∧w'=w:=by
 have he:=h.le;refine QG.of_W func167 Z ntmps167 results167 (by simp) ?_;refine Qc<|Qf<|Qg<|Qc<|Qb<|x (Qr h Z)<|Qb<|xe<|Qh<|Qz (α:=Nat) [(4,6),(9,32)] (λk=>[(9,.int .i64 k)]) (λk w'=>w'=w∧k≤l.length∧YV n (pv l k) (l.drop k)=YV n none l) (λk=>l.length - k) (by rfl) 0 Lb ⟨Z,Ln _,Z⟩ ?_;rintro k g V ⟨rfl,hk,hm⟩;refine Qc<|x (QA Z Z)<|xe<|Qg<|QC Z (λY=>?_) (λY=>?_)
 ·refine Qy<|Qc<|Qf<|Ql ⟨[.int .i64 0],Lb,?_,Z⟩;rw[←hm,Lx (by omega)];rfl
 have E:k<l.length:=by omega
 have hd:=Q7 E;rw[hd,YV] at hm;refine Qi<|Qg<|Qh<|Qc<|Qb<|xii h Z Z E λhf ha=>x (Qv ha Z)<|x Qe<|Qf<|Qg<|QZ (α:=Bool) [(14,20)] (λz=>[(20,.bool z)]) (λz w'=>w'=V∧z=decide (l[k]<0∨n≤l[k])) (by rfl) ?_ ?_
 ·refine Qx<|Qb<|xb (QA Z Z) (λH=>?_) (λH=>?_)
  ·refine Qb<|xs Z<|xs Z<|xs Z<|x (Qo Z)<|xe ?_;exact ⟨true,Lb,Z,by simp[H]⟩
  refine Qb<|Qb<|Qb<|x (ZZ Z Z)<|x (Qo Z)<|xe ?_;exact ⟨_,Lb,Z,by simp[H]⟩
 rintro z g w2 ⟨rfl,rfl⟩;refine Q3 rfl (λI=>?_) (λI=>?_)
 ·refine Qc<|Qf<|Ql ⟨[.int .i64 2],Lb,?_,Z⟩;rw[←hm,if_pos I];rfl
 rw[if_neg I] at hm;refine Qi<|QZ (α:=Bool) [(21,31)] (λz=>[(31,.bool z)]) (λz w'=>w'=w2∧z=zX (pv l k) l[k]) (by rfl) ?_ ?_
 ·refine Qx<|Qb<|xb (ZY Z Z) (λhb=>?_) (λhb=>?_)
  ·have hk1:((k:Int) - 1)=((k - 1:Nat):Int):=by omega
   refine Qb<|Qb<|Qb<|Qb<|x (J2 Z Z ⟨by omega,by omega⟩)<|xii (i:=k - 1) h Z (by show Value.int _ ((k:Int) - 1)=_;rw[hk1]) (by omega) λhg hc=>x (Qv hc rfl)<|x (Kw rfl rfl)<|x (Qo rfl)<|xe<|⟨_,Lb,Z,?_⟩;have:pv l k=some l[k - 1]:=by
    have J:k≠0:=by omega
    simp[pv,J,show k - 1<l.length by omega]
   rw[this];rfl
  refine Qb<|xs Z<|xs Z<|xs Z<|xs Z<|xs Z<|xs Z<|xs Z<|x (Qo Z)<|xe ?_;have J:k=0:=by omega
  exact ⟨false,Lb,Z,by simp[pv,J,zX]⟩
 rintro z g w3 ⟨rfl,rfl⟩;refine QW rfl (λU=>?_) (λU=>?_)
 ·refine Qc<|Qf<|Ql ⟨[.int .i64 5],Lb,?_,Z⟩;rw[←hm,if_pos U];rfl
 rw[if_neg (by simp[U])] at hm;refine Qi<|Qx<|QQ Z Z<|Qb<|xe ?_;exact ⟨k+1,by omega,Lb,Z,by omega,by rw[Kh E];exact hm⟩
theorem yx {L:LN}{w:World}{va vm ve v:Value}{a:QD}{l:LI}(h:QL L w.heap v l) :
  QG prog 79 [.agg #[va,.int .i64 a.st,vm,ve],v] w λr w'=>r=.int .i64 (YV a.st none l)∧Step [] w w':=by
 refine QG.of_W func79 Z ntmps79 results79 (by simp) ?_;refine Qc<|xl Z<|QR (us:=[va,.int .i64 a.st,vm,ve]) Z λI J E U H=>Qf<|Qc<|Qb<|x (Qa Z)<|x (Qd H Z Z)<|xl Z<|xf<|(QaN (h.ext E) a.st).mono ?_;rintro r2 V ⟨rfl,rfl⟩;refine Qf ?_;exact Ql ⟨[.int .i64 (YV a.st none l)],Lb,Z,E⟩
def flg (n:Nat) (l:LI):List Bool:=(List.range n).map λi:Nat=>decide ((i:Int)∈l)
theorem qX (n:Nat) (l:LI):(flg n l).length=n:=by simp[flg]
theorem Qbg {n:Nat}{l:LI}{i:Nat}(h:i<(flg n l).length):(flg n l)[i]'h=decide ((i:Int)∈l):=by simp[flg]
theorem Qbf {n:Nat}{l:LI}{x:Int}(E:0≤x):(flg n l).set x.toNat true=flg n (l++[x]):=by
 apply LX
 ·simp[flg]
 intro i h2 h3;rw[MU,Qbg h3];by_cases e:x.toNat=i
 ·have:(i:Int)=x:=by omega
  rw[if_pos e,this];simp
 have:(i:Int)≠x:=by omega
 rw[if_neg e,Qbg];simp[this]
theorem QcK {L:LN}{w:World}{va vm ve v:Value}{a:QD}{l:LI}{n:Nat}(h:QL L w.heap v l) (Y:a.st=(n:Int)) (hr:a.st≤4096) (hl:∀s∈l,0≤s∧s<a.st) :
  QG prog 80 [.agg #[va,.int .i64 a.st,vm,ve],v] w λr w'=>Step [] w w'∧∃b,r=.slice (some ⟨b,0,none⟩) n n∧w.heap.size≤b∧QT w'.heap b 4 ((flg n l).map Value.bool):=by
 have ht:=h.le;refine QG.of_W func80 Z ntmps80 results80 (by simp) ?_;refine Qc<|xl Z<|QR (us:=[va,.int .i64 a.st,vm,ve]) Z λb2 w1 H hu hc=>Qf<|Qc<|x (Qa Z)<|x (Qd hc Z Z)<|xl Z<|XZ (n:=n) (congrArg (Value.int .i64) Y) (congrArg (Value.int .i64) Y) (by omega) λb10 w2 ha he hf=>Qf ?_;have hg:=H.trans ha;have hh:QT w2.heap b10 4 ((flg n (l.take 0)).map Value.bool):=by
  have e:(List.replicate n (Value.bool false).cells.toList).flatten=(flg n (l.take 0)).map Value.bool:=by
   simp only[flg,List.take_zero,List.not_mem_nil,decide_false,List.map_map];apply LX
   ·simp[Value.cells]
   intro i h1 h2;simp[Value.cells]
  rw[←e];exact hf
 refine Qg<|Qc<|Qb<|x (Qr (h.ext hg) Z)<|Qb<|xe<|Qh<|Qz (α:=Nat) [(7,7),(13,20)] (λz=>[(13,.int .i64 z)]) (λz w'=>z≤l.length∧Step [] w1 w'∧QT w'.heap b10 4 ((flg n (l.take z)).map Value.bool)) (λz=>l.length - z) (by rfl) 0 Lb ⟨Ln _,ha,hh⟩ ?_;rintro k g w3 ⟨hk,J,U⟩;refine Qc<|x (QA Z Z)<|xe<|Qg<|QC Z (λV=>?_) (λV=>?_)
 ·refine Qy ?_;have hi:l.length≤k:=by have I:¬(k:Int)<(l.length:Int):=V;omega
  rw[Ls hi] at U;refine Qc<|Qb<|Qf ?_;have hv:=H.size;exact Ql ⟨[.slice (some ⟨b10,0,none⟩) n n],Lb,H.trans J,b10,Z,by omega,U⟩
 have E:k<l.length:=by have I:(k:Int)<(l.length:Int):=V;omega
 have hx:=hl _ (Le E);have hb:l.take (k+1)=l.take k++[l[k]'E]:=Lj E;refine Zh (l[k]'E) λs hs=>?_;rw[hs] at hx hb;have hj:s=(s.toNat:Int):=by omega
 have hm:=Qbf (n:=n) (l:=l.take k) hx.1;refine Qi<|Qg<|Qh<|Qc<|xii (i:=k) ((h.ext H).ext J) Z Z E λhw I=>?_;rw[hs] at I;refine x (Qv I Z)<|Qf<|Qx<|Qb<|Qb<|x (QS (i:=s.toNat) Z (congrArg (Value.int .i64) hj) (by omega))<|xl Z<|QF (j:=0+s.toNat*1) (u:=.bool true) U Z Z (by rw[Li,qX];omega) Z λw4 ho hp=>xe ?_
 have hq:QT w4.heap b10 4 ((flg n (l.take (k+1))).map Value.bool):=by
  rw[hb,←hm,Nu];simpa using hp
 refine Qx<|QQ Z Z<|Qb<|xe ?_;exact ⟨k+1,by omega,Lb,E,J.then1 ho he,hq⟩
def Rv (l:LI) (i:Nat) (li:LI):Prop:=∃h:li.length=l.length,∀k (hk:k<l.length),li[k]'(by omega)=if k<i∨l.length≤k+i then l[l.length - 1 - k]'(by omega) else l[k]'hk
theorem Rv.start (l:LI):Rv l 0 l:=⟨Z,λk hk=>by rw[if_neg (by omega)]⟩
theorem Rv.next {l li:LI}{i:Nat}(h:Rv l i li) (hi:i<l.length - 1 - i):Rv l (i+1) ((li.set i (l[l.length - 1 - i]'(by omega))).set (l.length - 1 - i) (l[i]'(by omega))):=by
 obtain ⟨h1,h2⟩:=h;refine ⟨by simp[h1],λk hk=>?_⟩;rw[MU,MU];by_cases e1:l.length - 1 - i=k
 ·rw[if_pos e1,if_pos (by omega)];congr 1;omega
 rw[if_neg e1];by_cases e2:i=k
 ·rw[if_pos e2,if_pos (by omega)];subst e2;rfl
 rw[if_neg e2,h2 k hk];by_cases e3:k<i∨l.length≤k+i
 ·rw[if_pos e3,if_pos (by omega)]
 rw[if_neg e3,if_neg (by omega)]
theorem Rv.fin {l li:LI}{i:Nat}(h:Rv l i li) (hi:l.length - 1 - i≤i) (H:2*i≤l.length):li=l.reverse:=by
 obtain ⟨h1,h2⟩:=h;apply LX
 ·simp[h1]
 intro k hk I;have E:k<l.length:=by omega
 rw[h2 k E,List.getElem_reverse];by_cases e:k<i∨l.length≤k+i
 ·rw[if_pos e]
 rw[if_neg e];congr 1;omega
theorem Rv.at_i {l li:LI}{i:Nat}(h:Rv l i li) (hi:i<l.length - 1 - i):∃(E:i<li.length) (h3:l.length - 1 - i<li.length),li[i]'E=l[i]'(by omega)∧li[l.length - 1 - i]'h3=l[l.length - 1 - i]'(by omega):=by
 obtain ⟨h1,h2⟩:=h;refine ⟨by omega,by omega,?_,?_⟩
 ·rw[h2 i (by omega),if_neg (by omega)]
 rw[h2 _ (by omega),if_neg (by omega)]
theorem yP {w:World}{base:Nat}{v:Value}{l:LI}(h:Qs 3 base w v l) (hf:l.length≤1099511627776) :
  QG prog 137 [v] w λ_ w'=>Qs 3 base w' v l.reverse∧Step (ob v) w w':=by
 refine QG.of_W func137 Z ntmps137 results137 (by simp) ?_;refine Qc<|Qb<|x (Qr (QX (L:=[]) h hf (by simp)) rfl)<|x (J2 rfl rfl ⟨by omega,by omega⟩)<|x Qe<|Qf<|Qh<|Qz (α:=Nat×LI) [(2,3),(7,27)] (λz=>[(2,.int .i64 z.1),(3,.int .i64 ((l.length:Int) - 1 - z.1))])
  (λz w'=>Rv l z.1 z.2∧2*z.1≤l.length∧Step (ob v) w w'∧Qs 3 base w' v z.2) (λz=>l.length - z.1) (by rfl) (0,l) ⟨Z,congrArg (Value.int .i64) (by simp),La⟩ ⟨Rv.start l,by simp,Step.refl _ _,h⟩ ?_
 rintro ⟨i,li⟩ g H ⟨hR,U,V,E⟩;simp only[] at hR U E;refine Qg<|Qc<|Qb<|Qb<|x (QA Z Z)<|xe<|QC rfl (λh9=>?_) (λh9=>?_)
 ·refine Qy ?_;rw[hR.fin (by omega) U] at E;exact ⟨[],La,E,V⟩
 have Y:i<l.length - 1 - i:=by omega
 have hj:(l.length:Int) - 1 - (i:Int)=((l.length - 1 - i:Nat):Int):=by omega
 have ho:li.length=l.length:=hR.1;have hh:=hR.next Y;refine Exists.elim (hR.at_i Y) λh0 I=>Exists.elim I λh3 I=>?_;refine Exists.elim (U5 E (by omega)) λgg hg=>Exists.elim hg λcap J=>?_;have ha:QL [] H.heap v li:=QX E (by omega) (by simp)
 refine Qi<|Qg<|Qh<|QU (Step [] H) [(0,true),(1,true),(2,true),(3,true),(4,true),(5,true),(6,true),(7,true),(8,true),(9,true),(10,true),(11,true),(12,true),(13,false),(14,true),(15,false)] mixed (by rfl) (by kernel_rfl) (Step.drew _ _) ?_;refine p (λ_=>Qm)<|p (λ_=>Qm)<|p (λ_=>Qm)<|p (λ_=>Qm)<|p (λ_=>Qm)<|p (λ_=>Qm)<|pii (i:=l.length - 1 - i) Z ha Z (congrArg (Value.int .i64) hj) h3 λhp hb=>?_
 rw[I.2] at hb;refine pq (λ_ hc=>Qv (hb.ext hc) Z)<|p (λ_=>Qm)<|p (λ_=>Qm)<|pii (i:=i) Z ha Z Z h0 λhq he=>?_;rw[I.1] at he;refine pq (λ_ hc=>Qv (he.ext hc) Z)<|p (λ_=>QS (i:=i) (show ev _ _=_ from J) Z (by omega)) <|
  pkl (hl:=by kernel_rfl)<|jE (Qt E (Step.drew [] H)) J Z Z h0 λw2 hi hk=>p (λ_=>QS (i:=l.length - 1 - i) (show ev _ _=_ from J) (congrArg (Value.int .i64) hj) (by omega)) <|
  pkl (hl:=by kernel_rfl)<|jE hk (by rw[MS];exact J) Z Z (by rw[MS];exact h3) λw3 hm hn=>pe ?_
 refine Qx<|Qb<|QQ Z Z<|Qb<|x (J2 Z Z ⟨by omega,by omega⟩)<|x Qe<|Qf ?_;exact ⟨(i+1,_),by simp only[];omega,⟨Z,congrArg (Value.int .i64) (by omega),La⟩,hh,by simp only[];omega,((V.trans (Step.drew [] H)).trans' hi).trans' hm,hn⟩
end Go.Proofs.YtjcgijbhaemldaaGreatDoor
namespace Go.Lg
open Go.RowKit
def upY (P:Program) (m:Nat) (dst:Option Nat) (f:Fr) (K:Fr→World→Prop):Result Next→Prop
 | .ok (.value v) w'=>K (QV f dst v) w'
 | .ok .skip w'=>K (QV f dst undef) w'
 | .ok (.enter g args) w'=>Calls P g args w' λe E=>match e with | .returned v=>K (QV f dst v) E | _=>False
 | .ok (.round l fn tmps assign body) w'=>RoundIn (fen none) (m - 1) P l fn tmps assign body w' λe E=>match e with | .returned v=>K (QV f dst v) E | _=>False
 | _=>False
def XOY (P:Program) (m:Nat) (o:Oper) (f:Fr) (w:World) (K:Fr→World→Prop):Prop:=upY P m o.dst f K ((execOp (ev f) o).run P w)
def JE (P:Program) (m:Nat) (ops:List Oper) (K:Fr→World→Prop):List Oper→Fr→World→Prop
 | [],f,w=>K f w
 | o::l,f,w=>bif Yi ops f o then XOY P m o f w (JE P m ops K l) else JE P m ops K l (QV f o.dst undef) w
section
variable {m:Nat} {P:Program} {n:Nat} {ds:LN}
theorem XOY.of_XO {o:Oper}{f:Fr}{w:World}{K K':Fr→World→Prop}(E:∀f w,K f w→K' f w) (h:XO P o f w K):XOY P m o f w K':=by
 unfold XO at h;unfold XOY;generalize (execOp (ev f) o).run P w=r at h;cases r with
 | ok nx w' =>
  cases nx <;> simp only[upF] at h <;> simp only[upY]
  case value v=>exact E _ _ h
  case skip=>exact E _ _ h
  case enter g args =>
   refine Calls.mono h λe H he=>?_;cases e with
   | returned v=>exact E _ _ he
   | panicked c=>exact he.elim
   | outgrown=>exact he.elim
 | halt x w'=>exact h.elim
theorem JE.pre {ops:List Oper}{K:Fr→World→Prop}{l2:List Oper}:∀(E:List Oper) (f:Fr) (w:World),XL P ops (λf w=>JE P m ops K l2 f w) E f w→JE P m ops K (E++l2) f w
 | [],f,w,h=>by unfold XL at h;exact h
 | o::E,f,w,h=>by
  unfold XL at h;show (bif Yi ops f o then XOY P m o f w (JE P m ops K (E++l2)) else JE P m ops K (E++l2) (QV f o.dst undef) w);cases H:Yi ops f o with
  | false=>rw[H] at h;exact JE.pre E _ _ h
  | true=>rw[H] at h;exact XOY.of_XO (λf w h=>JE.pre E f w h) h
theorem JE.pre2 {ops:List Oper}{K:Fr→World→Prop}{o1 o2:Oper}{l2:List Oper}{f:Fr}{w:World}(h:XL P ops (λf w=>JE P m ops K l2 f w) [o1,o2] f w):JE P m ops K (o1::o2::l2) f w:=JE.pre [o1,o2] f w h
theorem JE.of_XL {ops:List Oper}{K:Fr→World→Prop}{l:List Oper}{f:Fr}{w:World}(h:XL P ops K l f w):JE P m ops K l f w:=by
 have:=JE.pre (m:=m) (l2:=[]) l f w h
 rwa [LS] at this
theorem Qkj {o:Oper}{a:Act}{f:Fr}{w:World}{K:Fr→World→Prop}{K':Act→World→Prop}{Q:Exit→Act→World→Prop}(h:YU n ds a f)
  (E:∀v w',K (QV f o.dst v) w'→K' (a.put o.dst v) w') (hx:XOY P m o f w K):o.wpIn (fen none) m P a w K' Q:=by
 unfold XOY at hx;refine ⟨λ_ _=>trivial,?_⟩;have e:Oper.semAt (fen none).round a.eval o=execOp (ev f) o:=by rw[h.eval];rfl
 rw[e];generalize (execOp (ev f) o).run P w=r at hx;cases r with
 | ok nx w' =>
  cases nx <;> simp only[upY] at hx <;> simp only[Oper.uponIn]
  case value v=>exact E v w' hx
  case skip=>exact E _ w' hx
  case enter g args =>
   refine ⟨λh=>by simp[Fence.wide] at h,?_⟩;refine (callsIn_wide (n:=m - 1)).2 (Calls.mono hx λe H he=>?_);cases e with
   | returned v=>exact E v H he
   | panicked c=>exact he.elim
   | outgrown=>exact he.elim
  case round l fn tmps assign body =>
   refine ⟨λh=>by simp[Fence.wide] at h,?_⟩;refine RoundIn.mono hx λe H he=>?_;cases e with
   | returned v=>exact E v H he
   | panicked c=>exact he.elim
   | outgrown=>exact he.elim
 | halt x w'=>exact hx.elim
theorem Qdk {Q:Exit→LN→Fr→World→Prop}{all:List Oper}(H:∀o∈all,∀d,o.dst=some d→d<n) (I:Fr) :
  ∀(l:List Oper) (k:Nat) (a:Act) (f:Fr) (w:World),(∀j,l[j]?=all[k+j]?)→YU n ds a f→(∀t,ZW all t=false→f t=I t) →
   JE P m all (λf w=>Q .normal ds f w) l f w →
   wpOpsIn (fen none) m P all.toArray (λe Y w'=>∃ds' f',YU n ds' Y f'∧(∀t,ZW all t=false→f' t=I t)∧Q e ds' f' w') (List.range' k l.length) a w
 | [],_,a,f,w,_,E,hk,h=>⟨ds,f,E,hk,by unfold JE at h;exact h⟩
 | o::l,k,a,f,w,hl,E,hk,h=>by
  have U:all[k]?=some o:=by simpa using (hl 0).symm
  have J:o∈all:=Mr U;have ih:=λa f w=>Qdk (Q:=Q) H I l (k+1) a f w (λj=>by have:=hl (j+1);simpa[Nat.add_assoc,Nat.add_comm 1 j] using this);have next:∀v,(∀t,ZW all t=false→QV f o.dst v t=I t):=λv t ht=>(Z1 (Jo J ht) v).trans (hk t ht);simp only[List.length_cons,List.range'_succ,wpOpsIn,List.getElem?_toArray,U];rw[VO E H o];unfold JE at h;cases V:Yi all f o with
  | false =>
   rw[V] at h;exact ⟨λ_ _=>trivial,ih _ _ _ (E.put (H o J) _) (next _) h⟩
  | true =>
   rw[V] at h;exact Qkj E (λv w' hx=>ih _ _ _ (E.put (H o J) v) (next v) hx) h
theorem VB {Q:Exit→LN→Fr→World→Prop}{f:Fr}{w:World}{id:Nat}{l:List Oper}(E:Xs n l=true) (h:JE P m l (λf w=>Q .normal ds f w) l f w):WG none m P n (.region id l.toArray false) Q ds f w:=by
 unfold WG;intro a ha;refine wpIn_region ?_;have:=Qdk (m:=m) (Xa E) f l 0 a f w (by simp) ha (λ_ _=>rfl) h;simpa[List.range_eq_range',XY] using this
theorem xy {ops:List Oper}{rest:List Oper}{f:Fr}{w:World}{K:Fr→World→Prop}{d:Option Nat}{ty:Nat}{ps:String}{af:Array Edge}{gd:Option (Nat×Bool)}{x y:Operand}{at_:Array Nat}{l:Nat}{R:Ending→World→Prop}
  (hx:ev f x=.func (.yield l) #[] #[]) (hy:YieldAt (fen none) (m - 1) P l #[ev f y] w R) (E:∀e w',R e w'→∃v,e=.returned v∧JE P m ops K rest (QV f d v) w')
  (H:Yi ops f ⟨d,.call ⟨.value x,[y].toArray,at_⟩,ty,ps,af,gd⟩=true:=by rfl) :
  JE P m ops K (⟨d,.call ⟨.value x,[y].toArray,at_⟩,ty,ps,af,gd⟩::rest) f w:=by
 obtain ⟨fn,tmps,assign,body,h1,h2⟩:=hy;have I:(execOp (ev f) ⟨d,.call ⟨.value x,[y].toArray,at_⟩,ty,ps,af,gd⟩).run P w=.ok (.round l fn tmps assign body) w:=by
  simp[execOp,resolve,hx,Deferred.ofValue,invoke,h1]
 unfold JE;rw[H];simp only[XOY,I,upY,cond_true];exact h2.mono λe w' h=>by obtain ⟨v,rfl,hk⟩:=E e w' h;exact hk
end
attribute [irreducible] JE
structure Lw (B:Nat) (L:LN) (w w':World):Prop where
 os:w'.os=w.os
 tape:w'.tape=w.tape
 output:w'.output=w.output
 size:w.heap.size≤w'.heap.size
 low:∀k,k<B→k∉L→w'.heap[k]?=w.heap[k]?
theorem Lw.refl (B:Nat) (L:LN) (w:World):Lw B L w w:=⟨Z,Z,Z,Lv _,λ_ _ _=>Z⟩
theorem Lw.trans {B:Nat}{L:LN}{E w w':World}(h:Lw B L E w) (k:Lw B L w w'):Lw B L E w' :=
 ⟨k.os.trans h.os,k.tape.trans h.tape,k.output.trans h.output,LT h.size k.size,λi hi H=>(k.low i hi H).trans (h.low i hi H)⟩
theorem Step.lw {L:LN}{w w' E:World}(h:Step L w w') (k:Lw w.heap.size L w' E):Step L w E :=
 ⟨k.os.trans h.os,k.tape.trans h.tape,k.output.trans h.output,LT h.size k.size,λi hi H=>(k.low i hi H).trans (h.block i hi H)⟩
structure Jn (B:Nat) (L:LN) (W W':World):Prop where
 lw:Lw B L W W'
 other:∀(k:Nat) (o:Obj),W.heap[k]?=some o→o.isCells=false→W'.heap[k]?=some o
theorem Jn.refl (B:Nat) (L:LN) (w:World):Jn B L w w:=⟨Lw.refl _ _ _,λ_ _ h _=>h⟩
theorem Jn.trans {B:Nat}{L:LN}{E w w':World}(h:Jn B L E w) (k:Jn B L w w'):Jn B L E w':=⟨h.lw.trans k.lw,λi o hi H=>k.other i o (h.other i o hi H) H⟩
theorem Jn.step {B:Nat}{L X:LN}{W W':World}(h:Step X W W') (J:B≤W.heap.size) (E:∀b∈X,(b∈L∨B≤b)∧∃o:Obj,W.heap[b]?=some o∧o.isCells=true):Jn B L W W':=by
 refine ⟨⟨h.os,h.tape,h.output,h.size,λk hk H=>h.block k (by omega) (λhx=>?_)⟩,λk o hk I=>?_⟩
 ·rcases (E k hx).1 with h1 | h1
  ·exact H h1
  omega
 refine (h.block k (LK.1 hk).1 (λhx=>?_)).trans hk;obtain ⟨U,h1,h2⟩:=(E k hx).2;rw[hk] at h1;cases h1;rw[I] at h2;cases h2
theorem Jn.ext {B:Nat}{L:LN}{W W':World}(h:Step [] W W') (E:B≤W.heap.size):Jn B L W W':=Jn.step h E (λ_ hb=>by cases hb)
theorem QT.cells {H:Array Obj}{b T:Nat}{cs:LV}(h:QT H b T cs):∃o:Obj,H[b]?=some o∧o.isCells=true:=⟨_,h,Z⟩
theorem Jn.blk {B:Nat}{L:LN}{W W':World}{b T:Nat}{cs:LV}(h:Step [b] W W') (E:B≤W.heap.size) (hb:QT W.heap b T cs) (H:b∈L∨B≤b):Jn B L W W' :=
 Jn.step h E (λc hc=>by
  have e:c=b:=by simpa using hc
  subst e;exact ⟨H,hb.cells⟩)
def Yg (B:Nat) (I:World→Prop):Prop:=∀W W' X,I W→Step X W W'→(∀r∈X,B≤r∧∃o:Obj,W.heap[r]?=some o∧o.isCells=false)→I W'
theorem Yg.own {β:Type}{B:Nat}{I:β→World→Prop}(h:∀s,Yg B (I s)):OwnFrom B I:=λs W W' row hs H J =>
 h s W W' _ hs (Step.of_grown H) (λr E=>J r (by cases row <;> simp at E ⊢;exact E.symm))
theorem Yg.blk {B:Nat}{b T:Nat}{cs:LV}:Yg B (λW=>QT W.heap b T cs):=λW W' X h hs E=>h.step hs (λhb=>by
 obtain ⟨_,o,h1,h2⟩:=E b hb;unfold QT at h;rw[h] at h1;cases h1;cases h2)
theorem Yg.and {B:Nat}{I J:World→Prop}(h:Yg B I) (k:Yg B J):Yg B (λW=>I W∧J W):=λW W' X hi hs E=>⟨h W W' X hi.1 hs E,k W W' X hi.2 hs E⟩
theorem Yg.ex {B:Nat}{β:Type}{I:β→World→Prop}(h:∀z,Yg B (I z)):Yg B (λW=>∃z,I z W):=λW W' X ⟨z,hi⟩ hs E=>⟨z,h z W W' X hi hs E⟩
theorem Yg.pure {B:Nat}(p:Prop):Yg B (λ_=>p):=λ_ _ _ h _ _=>h
theorem Yg.step {B:Nat}{L:LN}{w:World}(H:w.heap.size≤B):Yg B (λW=>Step L w W):=λW W' X h hs E=>h.then hs (λb hb=>.inr (by have:=(E b hb).1;omega))
theorem Zp {w:World}{base e sz n:Nat}{v:Value}{cs:LV}(h:w.ownsRow base e sz v n cs):∀b∈ob v,∃o:Obj,w.heap[b]?=some o∧o.isCells=true:=by
 intro b hb;rcases h.2 with ⟨h1,_⟩ | ⟨g,cap,cur,h1,h2,h3,_⟩
 ·subst h1;simp[ob] at hb
 subst h1;simp[ob] at hb;subst hb;exact ⟨_,h3,Z⟩
theorem Yg.row {B base e sz n:Nat}{v:Value}{cs:LV}:Yg B (λW=>W.ownsRow base e sz v n cs):=λW W' X h hs E=>Qk h hs (λb hb hx=>by
 obtain ⟨_,o,h1,h2⟩:=E b hx;obtain ⟨H,h3,h4⟩:=Zp h b hb;rw[h1] at h3;cases h3;rw[h2] at h4;cases h4)
theorem QmR {α:Type}{m:Nat}{P:Program}{n:Nat}{Q:Exit→LN→Fr→World→Prop}{ds:LN}{f:Fr}{w:World}{g:Operand}{p:Nat}{assign body:Code}(L:LN) (h1:1≤m)
  {gf:Nat} {fn:Func} [hF:Fu P gf fn] {capt:LV} (hg:ev f g=.func (.func gf) #[] capt.toArray) {enc:α→Value} {S:List α→Prop} {N:Nat} (hp:p<n)
  (hb:SeqStopsK (fen none) (m - 1) P gf capt.toArray (λx=>#[enc x]) (Lw w.heap.size L) S (λ_=>True) N w)
  (I:List α→World→Prop) (hI:∀s,Yg w.heap.size (I s)) (h0:I [] w) (A:Fr→α→Fr→World→Prop) (hA:∀x E,Yg w.heap.size (A f x E))
  (U:∀l pre x W,I pre W→WG (some l) (m - 1 - 1) P n assign (Qdx (λJ E W'=>J=[]∧Jn w.heap.size L W W'∧I pre W'∧A f x E W') (λ_ _ _ _=>False)) [] (upd f p (enc x)) W)
  (V:∀l pre x E W,I pre W→A f x E W→pre.length<N→WG (some l) (m - 1 - 1) P n body (Qdx (λ_ _ W'=>Jn w.heap.size L W W'∧I (pre++[x]) W') (λ_ _ _ _=>False)) [] E W)
  (hc:∀D xs W,w.heap.size≤D→S xs→I xs W→W.heap[D]?=some (.deferred (some []))→Q .normal (D::ds) f W) :
  WG none m P n (.rangeFunc g #[p] assign body) Q ds f w:=by
 unfold WG at U V ⊢;intro a ha;have eg:∀args w,(callFunc gf args).run P w=.ok (.enter gf args) w:=by
  intro args w;have h1:¬fn.name = "runtime.NumGoroutine" := by simpa using hF.nm
  have h2:¬fn.body=none:=by have:=hF.b;intro e;rw[e] at this;cases this
  simp[callFunc,hF.f,h1,h2]
 have keep:∀{W W':World},Jn w.heap.size L W W'→KeepsFrom w.heap.size W W':=λh=>⟨h.lw.size,λk o _ hk Y=>h.other k o hk Y⟩;refine wpIn_rangeFunc_ownH (F:=fen none) Z h1 (gf:=gf) (lb:=capt.toArray) (by rw[ha.eval];exact hg) La eg hb (λh k=>h.trans k)
  (λW l o o' hl Y _ _=>⟨Z,Z,Z,by simp,λk hk _=>World.putObj_heap_other (by omega)⟩) (Below.refl _ _) (λ_=>rfl) I (λ_ _ _=>False) (Yg.own hI) (λ_ _ _ _ _ hs _ _=>hs) h0
  (λx H W=>∃E,YU n [] H E∧A f x E W) (λx H=>Yg.own λ_=>Yg.ex λE=>Yg.and (Yg.pure _) (hA x E)) ?_ ?_ ?_ ?_
 ·intro l pre x W K hi hK;have hr:YU n [] { tmps:=((#[p]:Array Nat).zip #[enc x]).foldl (λt (p,v)=>t.setIfInBounds p v) a.tmps,defers:=[] } (upd f p (enc x)):=by
   have h2:YU n [] { a with defers:=[] } f:=⟨ha.size,Z,ha.get⟩
   have h3:=h2.put (dst:=some p) (λd e=>by cases e;exact hp) (enc x);have e:((#[p]:Array Nat).zip #[enc x]).foldl (λt (p,v)=>t.setIfInBounds p v) a.tmps=a.tmps.setIfInBounds p (enc x):=by simp
   rw[e];exact h3
  refine wpIn_mono (U l pre x W hi _ hr) ?_;rintro e H W' ⟨J,E,h2,_,h3⟩;cases e with
  | normal=>obtain ⟨rfl,h4,h5,h6⟩:=h3;exact hK H W' (keep h4) h4.lw h5 ⟨E,h2,h6⟩
  | exit id=>exact h3.elim
  | goto l=>exact h3.elim
  | ret=>exact h3.elim
  | panic ch=>exact h3.elim
  | outgrown=>exact h3.elim
 ·rintro l pre x H W _ _ hi ⟨E,h2,h3⟩ he;refine wpIn_mono (V l pre x E W hi h3 he H h2) ?_;rintro e hf W' ⟨J,hh,h4,_,h5⟩;cases e with
  | normal=>exact ⟨keep h5.1,h5.1.lw,h5.2⟩
  | exit id=>exact h5.elim
  | goto l=>exact h5.elim
  | ret=>exact h5.elim
  | panic ch=>exact h5.elim
  | outgrown=>exact h5.elim
 ·intro D xs W hD hS hi hd;exact ⟨D::ds,f,⟨ha.size,by rw[show coll (D::ds)={ target:=.collected D,args:=#[] }::coll ds from rfl,ha.defers],ha.get⟩,λ_ _=>rfl,hc D xs W hD hS hi hd⟩
 intro D c pre W _ _ h _;exact h.elim
def QoD (P:Program) (t:Nat):Option (LV×List (Nat×Nat)):=match P.info? t,P.underlying t with
 | some it,some (.struct fs)=>match it.zero,fs.toList.mapM (λf=>(P.info? f.type).map λi=>(f.offset,i.size)) with
  | some (.agg zs),some pl=>some (zs.toList,pl)
  | _,_=>none
 | _,_=>none
class Bw (P:Program) (t:Nat) (zs:outParam (LV)) (pl:outParam (List (Nat×Nat))):Prop where
 h:QoD P t=some (zs,pl)
 b:pl.all (λx=>x.1+x.2≤zs.length)=true
def Qb5:LV→Nat→LV→LV
 | zs,_,[]=>zs
 | zs,o,u::us=>Qb5 (zs.set o u) (o+1) us
def Qke (pl:List (Nat×Nat)) (zs:LV):List (Nat×LV)→LV
 | []=>zs
 | (j,us)::ps=>Qke pl (Qb5 zs (pl.getD j (0,0)).1 us) ps
def QmU:List (Nat×Value)→List (Nat×LV)→Prop
 | [],[]=>True
 | (j,v)::vs,(j',us)::uss=>v.cells=us.toArray∧j=j'∧QmU vs uss
 | _,_=>False
theorem Qb4:∀(us zs:LV) (o:Nat),(Qb5 zs o us).length=zs.length
 | [],_,_=>rfl
 | u::us,zs,o=>by rw[Qb5,Qb4 us,MS]
theorem jw (o:Nat):∀(us:LV) (k:Nat) (zs:LV),(us.zipIdx k).foldl (λ(cs:Array Value) (x:Value×Nat)=>cs.setIfInBounds (o+x.2) x.1) zs.toArray=(Qb5 zs (o+k) us).toArray
 | [],_,_=>rfl
 | u::us,k,zs=>by
  rw[List.zipIdx_cons,LM,Qb5];have:=jw o us (k+1) (zs.set (o+k) u);rw[←List.setIfInBounds_toArray] at this;exact this
theorem Qjm {pl:List (Nat×Nat)}:∀(vs:List (Nat×Value)) (uss:List (Nat×LV)) (zs:LV),QmU vs uss→uss.all (λp=>p.1<pl.length && (p.2.length == (pl.getD p.1 (0,0)).2))=true →
  (∀x∈pl,x.1+x.2≤zs.length)→Instr.fill (pl.toArray[·]?) zs.toArray vs=some (Qke pl zs uss).toArray
 | [],[],zs,_,_,_=>rfl
 | [],_::_,_,h,_,_=>h.elim
 | _::_,[],_,h,_,_=>h.elim
 | (j,v)::vs,(j',us)::uss,zs,h1,h2,h3=>by
  obtain ⟨hc,rfl,h1⟩:=h1;simp only[List.all_cons,Bool.and_eq_true,decide_eq_true_eq,beq_iff_eq] at h2;obtain ⟨⟨hj,hl⟩,h2⟩:=h2;have E:pl.getD j (0,0)=pl[j]'hj:=by simp[List.getD,hj]
  have hm:=h3 _ (Le hj);unfold Instr.fill;simp only[List.getElem?_toArray,List.getElem?_eq_getElem hj,hc];rw[E] at hl;rw[if_neg (by simp only[List.size_toArray,hl,ne_eq,not_true,decide_false,Bool.false_or,decide_eq_true_eq];omega)];have e:=jw (pl[j]'hj).1 us 0 zs;rw[M5] at e
  have e2:(us.toArray.zipIdx).foldl (λ(cs:Array Value) (x:Value×Nat)=>cs.setIfInBounds ((pl[j]'hj).1+x.2) x.1) zs.toArray=(Qb5 zs (pl[j]'hj).1 us).toArray:=by
   rw[←e];simp
  rw[e2,Qke,E];have H:=Qjm vs uss (Qb5 zs (pl[j]'hj).1 us) h1 h2 (λx hx=>by rw[Qb4];exact h3 x hx);simpa only[List.getElem?_toArray] using H
theorem Qet {P:Program}{t:Nat}{zs:LV}{pl:List (Nat×Nat)}(h:QoD P t=some (zs,pl)) (hb:pl.all (λx=>x.1+x.2≤zs.length)=true) (vs:List (Nat×Value)) (uss:List (Nat×LV)) (h1:QmU vs uss)
  (h2:uss.all (λp=>p.1<pl.length && (p.2.length == (pl.getD p.1 (0,0)).2))=true):P.built t vs=some (Qke pl zs uss).toArray:=by
 have h3:∀x∈pl,x.1+x.2≤zs.length:=λo H=>by simpa using LZ.1 hb o H
 unfold QoD at h;unfold Program.built;cases hi:P.info? t with
 | none=>simp[hi] at h
 | some it =>
  cases hu:P.underlying t with
  | none=>simp[hi,hu] at h
  | some dd =>
   simp only[hi,hu] at h;cases dd <;> simp only[] at h <;> try (cases h)
   case struct fs =>
    cases E:it.zero with
    | none=>simp[E] at h
    | some z =>
     cases z <;> simp only[E] at h <;> try (cases h)
     rename_i za;cases hm:fs.toList.mapM (λf=>(P.info? f.type).map λi=>(f.offset,i.size)) with
     | none=>simp[hm] at h
     | some pl' =>
      simp only[hm,Option.some.injEq,Prod.mk.injEq] at h;obtain ⟨rfl,rfl⟩:=h;simp only[E,hm,Value.cells];exact Qjm vs uss za.toList h1 h2 h3
theorem ZF {P:Program}{f:Fr}{w:World}{d:Option Nat}{ty:Nat}{ps:String}{af:Array Edge}{gd:Option (Nat×Bool)}{t:Nat}{zs:LV}{pl:List (Nat×Nat)}[h:Bw P t zs pl] {parts:List (Nat×Operand)}(uss:List (Nat×LV))
  (h1:QmU (parts.map λx=>(x.1,ev f x.2)) uss) (h2:uss.all (λp=>p.1<pl.length && (p.2.length == (pl.getD p.1 (0,0)).2))=true:=by rfl) :
  (execOp (ev f) ⟨d,.build t parts.toArray,ty,ps,af,gd⟩).run P w=.ok (.value (.agg (Qke pl zs uss).toArray)) w:=by
 have hb:=Qet h.h h.b _ uss h1 h2;have E:=run_build (P:=P) w t (parts.toArray.map λ(i,x)=>(i,ev f x)) _ (by simpa using hb);simp only[execOp,Sem.run_bind,E,Result.andThen_ok,Sem.run_pure]
end Go.Lg
namespace Go.Proofs.YtjcgijbhaemldaaGreatDoor
open Go.Proofs.Tryz
open Go.Lg
def cnE (p:Ed→Bool) (es:List Ed):Int:=((es.filter p).length:Int)
theorem QcX (p:Ed→Bool) (es:List Ed) (e:Ed):cnE p (es++[e])=cnE p es+if p e=true then 1 else 0:=by
 unfold cnE;rw[Mb,Ll];by_cases h:p e=true
 ·simp[h]
 simp[h]
theorem VX (p:Ed→Bool) (es:List Ed):0≤cnE p es∧cnE p es≤es.length:=by
 unfold cnE;have:=My p es;omega
def gA (n:Nat) (f:Nat→Int):LI:=(List.range n).map f
theorem Qof (n:Nat) (f:Nat→Int):(gA n f).length=n:=by simp[gA]
theorem Qjf {n:Nat}{f:Nat→Int}{i:Nat}(h:i<(gA n f).length):(gA n f)[i]'h=f i:=by simp[gA]
theorem yd {n:Nat}{f g:Nat→Int}{i:Nat}{u:Int}(hu:u=g i) (h:∀j,j<n→j≠i→g j=f j):(gA n f).set i u=gA n g:=by
 apply LX
 ·simp[gA]
 intro k h1 h2;rw[MU,Qjf h2];by_cases e:i=k
 ·rw[if_pos e,hu,e]
 rw[if_neg e,Qjf];exact (h k (by simpa[gA] using h2) (Ne.symm e)).symm
theorem ye {n:Nat}{f g:Nat→Int}(h:∀j,j<n→f j=g j):gA n f=gA n g:=MK (λj hj=>h j (L8.1 hj))
def cN (es:List Ed) (s:Nat):Int:=cnE (λe=>decide (e.1+1=(s:Int))) es
def fS (es:List Ed) (s:Nat):Int:=cnE (λe=>decide (e.1<(s:Int))) es
theorem QfV (es:List Ed) (s:Nat):fS es (s+1)=cN es (s+1)+fS es s:=by
 unfold fS cN cnE;induction es with
 | nil=>rfl
 | cons e es ih =>
  simp only[List.filter_cons];by_cases h1:e.1<(s:Int)
  ·have h2:e.1<((s+1:Nat):Int):=by omega
   have h3:¬e.1+1=((s+1:Nat):Int):=by omega
   simp only[h1,h2,h3,decide_true,decide_false,if_true,List.length_cons] at ih ⊢;simp only[Bool.false_eq_true,if_false] at ih ⊢;omega
  by_cases h2:e.1+1=((s+1:Nat):Int)
  ·have h3:e.1<((s+1:Nat):Int):=by omega
   simp only[h1,h2,h3,decide_true,decide_false,if_true,List.length_cons] at ih ⊢;simp only[Bool.false_eq_true,if_false] at ih ⊢;omega
  have h3:¬e.1<((s+1:Nat):Int):=by omega
  simp only[h1,h2,h3,decide_false,Bool.false_eq_true,if_false] at ih ⊢;exact ih
theorem QfU {es:List Ed}(h:∀e∈es,0≤e.1):fS es 0=0∧cN es 0=0:=by
 unfold fS cN cnE;refine ⟨?_,?_⟩
 ·have:(es.filter λe=>decide (e.1<((0:Nat):Int)))=[]:=MI.2 (λe he=>by have:=h e he;simp;omega);rw[this];rfl
 have:(es.filter λe=>decide (e.1+1=((0:Nat):Int)))=[]:=MI.2 (λe he=>by have:=h e he;simp;omega);rw[this];rfl
def mX (es:List Ed) (s j:Nat):Int:=if j≤s then fS es j else cN es j
theorem Qlx {es:List Ed}(h:∀e∈es,0≤e.1) (n:Nat):gA n (cN es)=gA n (mX es 0):=ye λj _=>by
 unfold mX;by_cases e:j≤0
 ·have:j=0:=by omega
  subst this;rw[if_pos (Lv _),(QfU h).1,(QfU h).2]
 rw[if_neg e]
theorem Qly (es:List Ed) (s n:Nat):(gA n (mX es s)).set (s+1) (mX es s (s+1)+mX es s s)=gA n (mX es (s+1)):=by
 refine yd ?_ λj _ hj=>?_
 ·unfold mX;rw[if_neg (by omega),if_pos (Lv _),if_pos (Lv _),QfV]
 unfold mX;by_cases e:j≤s
 ·rw[if_pos (by omega),if_pos e]
 rw[if_neg (by omega),if_neg e]
theorem Qmy (es:List Ed) (e:Ed) (E:0≤e.1) (n:Nat):(gA n (cN es)).set (e.1.toNat+1) (cN es (e.1.toNat+1)+1)=gA n (cN (es++[e])):=by
 refine yd ?_ λj _ hj=>?_
 ·unfold cN;rw[QcX,if_pos (by simp;omega)]
 unfold cN;rw[QcX,if_neg (by simp;omega)];simp
theorem jL (n:Nat):(List.replicate n (Value.int .i64 0).cells.toList).flatten=(gA n (cN [])).map (Value.int .i64):=by
 apply LX
 ·simp[Value.cells,gA]
 intro i h1 h2;simp[Value.cells,gA,cN,cnE]
section
variable {P:Program} {K:Fr→World→Prop} {f:Fr} {w:World} {d:Option Nat} {ty:Nat} {ps:String} {af:Array Edge} {gd:Option (Nat×Bool)}
theorem Ug {t:Nat}[X7 P t] {x:Operand}{b T i n:Nat}{g:Nat→Int}(h:QT w.heap b T ((gA n g).map (.int .i64))) (hx:ev f x=.pointer (some ⟨b,0+i*1,none⟩)) (hi:i<n) :
  (execOp (ev f) ⟨d,.load t x,ty,ps,af,gd⟩).run P w=.ok (.value (.int .i64 (g i))) w:=Qd h hx (by simp[gA,hi])
theorem KU {t:Nat}[h1:X7 P t] {x y:Operand}{b T i n:Nat}{g E:Nat→Int}{u:Int}(H:QT w.heap b T ((gA n g).map (.int .i64))) (hx:ev f x=.pointer (some ⟨b,0+i*1,none⟩)) (hy:ev f y=.int .i64 u) (hi:i<n) (I:(gA n g).set i u=gA n E)
  (J:∀w',Step [b] w w'→QT w'.heap b T ((gA n E).map (.int .i64))→K (QV f d undef) w'):XO P ⟨d,.store t x y,ty,ps,af,gd⟩ f w K :=
 Jr H hx hy (by rw[Qof];exact hi) λw' hs U=>J w' hs (by rw[←I];exact U)
end
instance:Bw prog 171 [nS,.int .i64 0,nS,nS,nS] [(0,4),(4,1)]:=⟨by kernel_rfl,by decide⟩
theorem qv {w:World}{va vm ve:Value}{a:QD}{n:Nat}(h:Zq [] w.heap va vm ve a) (hn:a.st=(n:Int)) (hX:a.st≤4096) (h7:∀e∈a.ed,0≤e.1∧e.1<a.st) :
  QG prog 76 [.agg #[va,.int .i64 a.st,vm,ve]] w λr w'=>Step [] w w'∧∃b,r=.agg #[va,.int .i64 a.st,vm,ve,.slice (some ⟨b,0,none⟩) (n+1) (n+1)]∧w.heap.size≤b∧QT w'.heap b 3 ((gA (n+1) (fS a.ed)).map (Value.int .i64)):=by
 have hY:=h.ed.le;refine QG.of_W func76 Z ntmps76 results76 (by simp) ?_;refine Qc<|xl Z<|QR (us:=[va,.int .i64 a.st,vm,ve]) Z λb1 w1 hv hF hG=>xl Z<|Qu (us:=[nS,.int .i64 0,nS,nS,nS]) Z λb2 E hw hZ h8=>xe ?_;have hH:=hv.trans hw;have hb:=hG.ext hw;have h2:=h.ext hH;have hp:a.st+1=((n+1:Nat):Int):=by omega
 have hy:Step [] E { E with drawn:=E.drawn+1 }:=Step.drew [] E
 have ga:=hy.size;refine QZ (α:=Nat×Nat) [(3,3),(7,12)] (λz=>[(3,.pointer (some ⟨z.1,0,none⟩))]) (λz w'=>Step [] E w'∧QT w'.heap z.1 171 [va,.int .i64 a.st,vm,ve,.slice (some ⟨z.2,0,none⟩) (n+1) (n+1)]∧QT w'.heap z.2 3 ((gA (n+1) (cN [])).map (Value.int .i64))∧E.heap.size≤z.1∧E.heap.size≤z.2∧z.1≠z.2) (by rfl) ?_ ?_
 ·refine QmK (Step [] E) (.f2 [(0,true),(1,true),(2,true),(3,true)] 4 6 (.pl [(5,true),(6,false),(7,false)]) (.pl [(4,false),(5,true),(7,false)])) mixed (by rfl) (by kernel_rfl) (Step.drew _ _) ?_;refine u2<|pq (λ_ hc=>Qp (hb.ext hc) Z Z)<|p (λ_=>Qa Z)<|pq (λ_ hc=>Qd (hb.ext hc) Z Z)<|p (λ_=>JL Z Z ⟨by omega,by omega⟩)<|pe ⟨?_,?_⟩
  ·refine ue<|XZ (n:=n+1) (congrArg (Value.int .i64) hp) (congrArg (Value.int .i64) hp) (by omega) λb11 w3 hz hI hq=>?_;have hf:=hy.trans hz;have gb:=hq.lt;refine ⟨hf,?_⟩;refine uP<|p (λ_=>ZF [(0,[va,.int .i64 a.st,vm,ve]),(1,[.slice (some ⟨b11,0,none⟩) (n+1) (n+1)])] ⟨Z,Z,Z,Z,La⟩)<|pk<|Qu (us:=[nS,.int .i64 0,nS,nS,nS]) Z λV w4 hg h0 H=>?_;have I:=hf.trans hg
   refine ⟨I,?_⟩;refine pk<|Qn (us:=[va,.int .i64 a.st,vm,ve,.slice (some ⟨b11,0,none⟩) (n+1) (n+1)]) H Z Z Z Z ⟨h.al.one,Z,h.mr.one,h.ed.one,Z,La⟩ λw5 J hh=>⟨I.then1 J (by omega),pe ?_⟩;have h1:QT w3.heap b11 3 ((gA (n+1) (cN [])).map (Value.int .i64)):=by rw[←jL];exact hq
   exact ⟨(V,b11),Lb,I.then1 J (by omega),hh,(h1.ext hg).step J (by simp;omega),by simp only[];omega,by simp only[];omega,by simp only[];omega⟩
  refine ue<|Qu (us:=[nS,.int .i64 0,nS,nS,nS]) Z λV w3 hz h0 H=>?_;have hf:=hy.trans hz;have gc:=H.lt;refine ⟨hf,?_⟩;refine uP<|pk<|XZ (n:=n+1) (congrArg (Value.int .i64) hp) (congrArg (Value.int .i64) hp) (by omega) λb11 w4 hg hI hq=>?_;have I:=hf.trans hg;refine ⟨I,?_⟩
  refine p (λ_=>ZF [(0,[va,.int .i64 a.st,vm,ve]),(1,[.slice (some ⟨b11,0,none⟩) (n+1) (n+1)])] ⟨Z,Z,Z,Z,La⟩)<|pk<|Qn (us:=[va,.int .i64 a.st,vm,ve,.slice (some ⟨b11,0,none⟩) (n+1) (n+1)]) (H.ext hg) Z Z Z Z ⟨h.al.one,Z,h.mr.one,h.ed.one,Z,La⟩ λw5 J hh=>⟨I.then1 J (by omega),pe ?_⟩;have h1:QT w4.heap b11 3 ((gA (n+1) (cN [])).map (Value.int .i64)):=by rw[←jL];exact hq
  exact ⟨(V,b11),Lb,I.then1 J (by omega),hh,h1.step J (by simp;omega),by simp only[];omega,by simp only[];omega,by simp only[];omega⟩
 rintro ⟨V,bF⟩ g6 w6 ⟨h9,H,hA,h0,h3,hJ⟩;simp only[] at H hA h0 h3 hJ;have hK:=hb.ext h9;have ge:=hb.lt;have gg:=h8.lt;refine Qg<|Qc<|x (Qa Z)<|x (Qd hK Z Z)<|x (Qr h.ed Z)<|Qb<|xe ?_;have hL:∀e∈a.ed,0≤e.1:=λe he=>(h7 e he).1
 refine Qh<|Qz (α:=Nat) [(5,5),(16,29)] (λz=>[(16,.int .i64 z)]) (λz w'=>z≤a.ed.length∧Step [] E w'∧QT w'.heap V 171 [va,.int .i64 a.st,vm,ve,.slice (some ⟨bF,0,none⟩) (n+1) (n+1)]∧QT w'.heap bF 3 ((gA (n+1) (cN (a.ed.take z))).map (Value.int .i64))) (λz=>a.ed.length - z) (by rfl) 0 Lb
  ⟨Ln _,h9,H,hA⟩ ?_
 rintro k g w7 ⟨hk,hr,h4,hs⟩;refine Qc<|x (QA Z Z)<|xe<|Qg<|QC Z (λh5=>?_) (λh5=>?_)
 ·refine Qy ?_;have hM:a.ed.length≤k:=by have ht:¬(k:Int)<(a.ed.length:Int):=h5;omega
  rw[Ls hM,Qlx hL (n+1)] at hs;refine Qg<|Qc<|x (Qa Z)<|x (Qd (hb.ext hr) Z Z)<|Qb<|xe<|Qh<|Qz (α:=Nat) [(6,6),(32,48)] (λz=>[(32,.int .i64 z)]) (λz w'=>z≤n∧Step [] E w'∧QT w'.heap V 171 [va,.int .i64 a.st,vm,ve,.slice (some ⟨bF,0,none⟩) (n+1) (n+1)]∧QT w'.heap bF 3 ((gA (n+1) (mX a.ed z)).map (Value.int .i64))) (λz=>n - z) (by rfl) 0 Lb
   ⟨Ln _,hr,h4,hs⟩ ?_
  rintro j g w8 ⟨hj,hm,hu,Y⟩;refine Qc<|x (QA Z Z)<|xe<|Qg<|QC Z (λhB=>?_) (λhB=>?_)
  ·refine Qy ?_;have h6:j=n:=by omega
   rw[h6] at Y;have hN:gA (n+1) (mX a.ed n)=gA (n+1) (fS a.ed):=ye λi hi=>by unfold mX;rw[if_pos (by omega)]
   rw[hN] at Y;refine Qc<|x (Qp hu Z Z)<|xl Z<|Qn (us:=[va,.int .i64 a.st,vm,ve,.slice (some ⟨bF,0,none⟩) (n+1) (n+1)]) (h8.ext hm) Z Z Z Z ⟨h.al.one,Z,h.mr.one,h.ed.one,Z,La⟩ λw9 U hO=>xe ?_;have gh:=hv.size;refine Ql ⟨[_],⟨⟨_,Z,Qw Z (hO.at (L:=[]) (by simp)).cells⟩,La⟩,((hv.trans hw).trans hm).then1 U (by omega),bF,rfl,by omega,Y.step U (by simp;omega)⟩
  have h6:j<n:=by have gi:(j:Int)<a.st:=hB;omega
  have gj:=VX (λe:Ed=>decide (e.1<(j:Int))) a.ed;have gk:=VX (λe:Ed=>decide (e.1+1=((j+1:Nat):Int))) a.ed;have hP:mX a.ed j (j+1)=cN a.ed (j+1):=by unfold mX;rw[if_neg (by omega)]
  have hQ:mX a.ed j j=fS a.ed j:=by unfold mX;rw[if_pos (Lv _)]
  have hF:0≤mX a.ed j (j+1)∧mX a.ed j (j+1)≤1099511627776:=by rw[hP];unfold cN;omega
  have gl:0≤mX a.ed j j∧mX a.ed j j≤1099511627776:=by rw[hQ];unfold fS;omega
  refine Qi<|Qg<|Qh<|Qc<|Qb<|Qf<|QU (Step [] w8) [(0,true),(1,true),(2,true),(3,true),(4,true),(5,true),(6,true),(7,true),(8,true),(9,true),(10,true),(11,true),(12,true),(13,false)] mixed (by rfl) (by kernel_rfl) (Step.drew _ _) ?_;refine p (λ_=>Qa Z)<|pq (λ_ hc=>Qd (hu.ext hc) Z Z)<|p (λ_=>Qm)<|p (λ_=>JL Z Z ⟨by omega,by omega⟩) <|
   p (λ_=>QS (i:=j+1) Z Z (by omega))<|pq (λ_ hc=>Ug (i:=j+1) (Y.ext hc) Z (by omega))<|p (λ_=>Qa Z)<|pq (λ_ hc=>Qd (hu.ext hc) Z Z) <|
   p (λ_=>Qm)<|p (λ_=>QS (i:=j) Z Z (by omega))<|pq (λ_ hc=>Ug (i:=j) (Y.ext hc) Z (by omega))<|p (λ_=>JL Z Z ⟨by omega,by omega⟩) <|
   p (λ_=>QS (i:=j+1) Z Z (by omega))<|pkl (hl:=by kernel_rfl)<|KU (i:=j+1) (Y.ext (Step.drew [] w8)) Z Z (by omega) (Qly a.ed j (n+1)) λw9 U hR=>pe ?_
  refine Qx<|QQ Z Z<|Qb<|xe ?_;exact ⟨j+1,by omega,Lb,h6,(hm.trans (Step.drew [] w8)).then1 U h3,(hu.ext (Step.drew [] w8)).step U (by simp;omega),hR⟩
 have ha:k<a.ed.length:=by have ht:(k:Int)<(a.ed.length:Int):=h5;omega
 have hC:a.ed.take (k+1)=a.ed.take k++[a.ed[k]'ha]:=Lj ha;have hD:=h7 _ (Le ha);refine Zh (a.ed[k]'ha) λe he=>?_;rw[he] at hC hD;have hfr:e.1+1=((e.1.toNat+1:Nat):Int):=by omega
 have hS:=Qmy (a.ed.take k) e hD.1 (n+1);have hT:=VX (λd:Ed=>decide (d.1+1=((e.1.toNat+1:Nat):Int))) (a.ed.take k);have gm:0≤cN (a.ed.take k) (e.1.toNat+1)∧cN (a.ed.take k) (e.1.toNat+1)≤1099511627776:=by unfold cN;rw[LD] at hT;omega
 refine Qi<|Qg<|Qh<|Qc<|xie (h2.ed.ext hr) Z Z ha λgn ht=>?_;rw[he] at ht;refine x (QJ ht Z Z)<|xl Z<|Qu (us:=[.int .i64 0,.int .i64 0,.int .i64 0]) Z λb5 w8 hm hU hh=>xl Z<|Qn (us:=QB e) hh Z Z Z Z ⟨Z,Z,Z,La⟩ λw9 U hV=>xe ?_;have ho:Step [] w7 w9:=hm.then1 U hU
 refine Qx<|x (Qa Z)<|x (Qd (h4.ext ho) Z Z)<|x (Qa Z)<|x (Qd hV Z Z)<|QQ Z Z<|x (QS (i:=e.1.toNat+1) Z (congrArg (Value.int .i64) hfr) (by omega)) <|
  x (Ug (i:=e.1.toNat+1) (hs.ext ho) Z (by omega))<|QQ Z Z<|x (QS (i:=e.1.toNat+1) Z (congrArg (Value.int .i64) hfr) (by omega)) <|
  xl rfl<|KU (i:=e.1.toNat+1) (hs.ext ho) Z Z (by omega) hS λgq hE hW=>xe ?_
 refine Qx<|QQ Z Z<|Qb<|xe<|⟨k+1,by omega,Lb,ha,(hr.trans ho).then1 hE h3,(h4.ext ho).step hE (by simp;omega),?_⟩;rw[hC];exact hW
end Go.Proofs.YtjcgijbhaemldaaGreatDoor
namespace Go.Lg
open Go.RowKit
def Xg (w:World) (base e sz:Nat) (v:Value) (n:Nat) (cs:LV):Prop :=
 cs.length=n*sz∧((v=nS∧n=0)∨∃g off cap cur,v=.slice (some ⟨g,off,none⟩) n cap∧base≤g∧w.heap[g]?=some (.cells cur e (0,0))∧n≤cap∧cap≤maxLen∧off+cap*sz≤cur.size∧(cur.toList.drop off).take (n*sz)=cs)
theorem Xg.of_row {w:World}{base e sz n:Nat}{v:Value}{cs:LV}(h:w.ownsRow base e sz v n cs):Xg w base e sz v n cs :=
 ⟨h.1,h.2.imp id λ⟨g,cap,cur,h1,h2,h3,h4,h5,h6,E⟩=>⟨g,0,cap,cur,h1,h2,h3,h4,h5,by omega,by simpa using E⟩⟩
theorem Qii {X:LN}{w w':World}{base e sz n:Nat}{v:Value}{cs:LV}(h:Xg w base e sz v n cs) (hs:Step X w w') (E:∀b∈ob v,b∉X):Xg w' base e sz v n cs:=by
 refine ⟨h.1,h.2.imp id λ⟨g,off,cap,cur,h1,h2,h3,h4⟩=>⟨g,off,cap,cur,h1,h2,?_,h4⟩⟩;rw[hs.block g (LK.1 h3).1 (E g (by rw[h1];simp[ob]))];exact h3
theorem Qpm {w w':World}{base e sz n:Nat}{v:Value}{cs:LV}(h:Xg w base e sz v n cs) (hs:Step [] w w'):Xg w' base e sz v n cs:=Qii h hs (λ_ _=>by simp)
theorem QnE {w:World}{base e sz n:Nat}{v:Value}{cs:LV}(h:Xg w base e sz v n cs):∀b∈ob v,base≤b∧b<w.heap.size:=by
 intro b hb;rcases h.2 with ⟨h1,_⟩ | ⟨g,off,cap,cur,h1,h2,h3,_⟩
 ·subst h1;simp[ob] at hb
 subst h1;simp[ob] at hb;subst hb;exact ⟨h2,(LK.1 h3).1⟩
theorem Qfd {w:World}{g off e n:Nat}{cur:Array Value}{cs:LV}(h3:w.heap[g]?=some (.cells cur e (0,0))) (E:(cur.toList.drop off).take n=cs):∀j u,cs[j]?=some u→w.cell? ((⟨g,off,none⟩:Addr).add j)=some u:=by
 intro j u hu;rw[Jm,YM];unfold cel;simp only[h3];rw[←E,Mo] at hu;split at hu
 ·simpa using hu
 cases hu
theorem Qm4 {L:LN}{w:World}{base e sz n:Nat}{v:Value}{cs:LV}(h:Xg w base e sz v n cs) (E:n≤1099511627776) (H:∀b∈ob v,b∉L):ZA L w.heap v n sz cs:=by
 refine ⟨h.1,E,?_⟩;rcases h.2 with h1 | ⟨g,off,cap,cur,h1,h2,h3,h4,h5,h6,I⟩
 ·exact .inl h1
 exact .inr ⟨_,_,h1,h4,λ_ _=>H g (by rw[h1];simp[ob]),λ_ _=>(LK.1 h3).1,λj u hu=>Qfd h3 I j u hu⟩
section
variable {P:Program} {K:Fr→World→Prop} {f:Fr} {w:World} {d:Option Nat} {ty:Nat} {ps:String} {af:Array Edge} {gd:Option (Nat×Bool)} {ops l:List Oper}
theorem Qqe {t e sz bys:Nat}{z:Value}[h:Sl P t e sz bys z] {x E:Operand}{base:Nat}{v:Value}{n:Nat}{cs:LV}{k:IntKind}{lo:Nat}(J:Xg w base e sz v n cs) (hx:ev f x=v) (hl:ev f E=.int k lo) (h1:lo≤n)
  (U:∀v',Xg w base e sz v' (n - lo) (cs.drop (lo*sz))→ob v'=ob v→XL P ops K l (QV f d v') w)
  (V:Yi ops f ⟨d,.slice t x (some E) none none,ty,ps,af,gd⟩=true:=by rfl):XL P ops K (⟨d,.slice t x (some E) none none,ty,ps,af,gd⟩::l) f w:=by
 obtain ⟨i,ha,_,hb,_⟩:=Sl.info h;rcases J.2 with ⟨Y,hn⟩ | ⟨g,off,cap,cur,Y,h2,h3,h4,h5,h6,h7⟩
 ·have e2:lo=0:=by omega
  subst e2 hn Y;have he:cs=[]:=Lt (by simpa using J.1);subst he;refine xl V (xv (v:=nS) ?_ (U _ ⟨by simp,.inl ⟨rfl,rfl⟩⟩ rfl));simp[execOp,hx,hl,Instr.sliceAt,Instr.slice,run_underlying h.u,Instr.sliceBounds,Instr.sliceBound,asIntOf,sizeOf,typeInfo,ha]
 subst Y;have e2:(Instr.sliceBound (.int k lo) n .sliceB).run P w=.ok lo w:=YK h1;have H:(execOp (ev f) ⟨d,.slice t x (some E) none none,ty,ps,af,gd⟩).run P w=.ok (.value (.slice (if cap=lo then some ⟨g,off,none⟩ else some ((⟨g,off,none⟩:Addr).add (lo*sz))) (n - lo) (cap - lo))) w:=by
  simp[execOp,hx,hl,Instr.sliceAt,Instr.slice,run_underlying h.u,Instr.sliceBounds,e2,sizeOf,typeInfo,ha,hb]
 have I:(cs.drop (lo*sz)).length=(n - lo)*sz:=by rw[Ms,J.1,←Nat.sub_mul]
 by_cases hc:cap=lo
 ·rw[if_pos hc] at H;have hf:n - lo=0:=by omega
  refine xl V (xv H (U _ ⟨I,.inr ⟨g,off,cap - lo,cur,Z,h2,h3,by omega,by omega,?_,?_⟩⟩ Z))
  ·have:(cap - lo)*sz≤cap*sz:=MW _ (by omega);omega
  rw[hf] at I ⊢;have:cs.drop (lo*sz)=[]:=Lt (by simpa using I);rw[this];simp
 rw[if_neg hc,YM] at H;refine xl V (xv H (U _ ⟨I,.inr ⟨g,off+lo*sz,cap - lo,cur,Z,h2,h3,by omega,by omega,?_,?_⟩⟩ Z))
 ·rw[Nat.sub_mul];have:lo*sz≤cap*sz:=MW _ (by omega);omega
 rw[←h7,List.drop_take,List.drop_drop,←Nat.sub_mul]
theorem QaD {base t ty e:Nat}{sz bys:Nat}{z:Value}[h:Sl P t e sz bys z] {v:Value}{n:Nat}{cs:LV}(E:Xg w base e sz v n cs)
  {a:Addr} {m c:Nat} {news:LV} (hl:news.length=m*sz) (hm:0<m) (V:∀j u,news[j]?=some u→w.cell? (a.add j)=some u) (h1:∀u∈news,u.oneCell'=true)
  (hb:n+m≤1099511627776) (ho:bys≤128) (hp:base≤w.heap.size) :
  ∃v' w',(Builtin.append_ #[t,t] ty #[v,.slice (some a) m c]).run P w=.ok v' w'∧Xg w' base e sz v' (n+m) (cs++news)∧Step (ob v) w w'∧(∀b∈ob v',b∈ob v∨w.heap.size≤b):=by
 obtain ⟨i,hi,hz,I,hc⟩:=Sl.info h;have he:(n+m)*bys≤140737488355328:=LT (Nat.mul_le_mul hb ho) (by omega);have hq:n+m≤maxLen:=by simp only[maxLen];omega
 have new:∀(old:Nat),∀H,H=(Obj.cells (cs.toArray++news.toArray++Builtin.zeroCells z.cells (grownCap w (n+m) old e - (n+m))) e) →
    Xg (w.drew.alloc H) base e sz (.slice (some ⟨w.heap.size,0,none⟩) (n+m) (grownCap w (n+m) old e)) (n+m) (cs++news):=by
   intro old H hs;subst hs;have hge:=grownCap_ge w (n+m) old e;have Y:grownCap w (n+m) old e≤maxLen:=grownCap_le_maxLen w (n+m) old e hq;have U:(cs++news).length=(n+m)*sz:=by rw[Ll,E.1,hl,MB]
   refine Xg.of_row ⟨U,.inr ⟨w.heap.size,_,_,Z,hp,Vg w.drew _,hge,Y,?_,?_⟩⟩
   ·simp only[Array.size_append,List.size_toArray,size_zeroCells,h.zs,E.1,hl,←Nat.add_mul];congr 1;omega
   simp only[Array.toList_append,List.append_assoc];rw[←LC,←U];exact List.take_left
 have stp:∀H,Step (ob v) w (w.drew.alloc H):=λH=>⟨Z,Z,Z,by rw[Qbx];exact Nat.le_succ _,λk hk _=>Qex w.drew H k hk⟩;have fin:∀(b:Nat),b∈ob (.slice (some ⟨w.heap.size,0,none⟩) (n+m) 0)→b∈ob v∨w.heap.size≤b:=λb hb'=>by simp[ob] at hb';omega
 rcases E.2 with ⟨rfl,rfl⟩ | ⟨g,off,cap,cur,rfl,ht,ha,hw,Y,hy,hg⟩
 ·have hx:cs=[]:=Lt (by simpa using E.1);subst hx;have J:=run_append_nil (P:=P) w t ty e i z h.u hi hz a m c news (by rw[I];exact hl) V hm (by omega) (by rw[hc];have hu:=he;simp only[Nat.zero_add] at hu;omega);have hn:=new 0 _ Z;simp only[Nat.zero_add,List.nil_append,Array.empty_append] at hn ⊢;exact ⟨_,_,J,hn,stp _,λb hb'=>fin b hb'⟩
 rcases Nat.lt_or_ge cap (n+m) with hroom | hroom
 ·have hv:=Qfd (w:=w) ha hg;have J:=run_append_grow (P:=P) w t ty e i z h.u hi hz ⟨g,off,none⟩ n cap cs (by rw[I];exact E.1) hv a m c news (by rw[I];exact hl) V hroom (by omega) (growslice_fits hroom (by rw[hc];exact he));exact ⟨_,_,J,new cap _ Z,stp _,λb hb'=>fin b hb'⟩
 have hh:off+n*i.size+news.length≤cur.size:=by
  rw[hl,I];have:(n+m)*sz≤cap*sz:=MW _ hroom;rw[MB] at this;omega
 have hf:=run_firstCells_some (P:=P) w i.size m a m c news (by rw[I];exact hl) V;have hj:=run_storeCells_at P g (off+n*i.size) e news 0 cur w ha (by simpa using hh) h1;simp only[Nat.add_zero] at hj;have J:(Builtin.append_ #[t,t] ty #[.slice (some ⟨g,off,none⟩) n cap,.slice (some a) m c]).run P w =
   .ok (.slice (some ⟨g,off,none⟩) (n+m) cap) (w.setRow g (cur.toList.take (off+n*i.size)++news++cur.toList.drop (off+n*i.size+news.length)).toArray):=by
  simp[Builtin.append_,run_underlying h.u,sizeOf,typeInfo,hi,Builtin.lenOf,hroom,hf,YM,hj]
 refine ⟨_,_,J,⟨by rw[Ll,E.1,hl,MB],.inr ⟨g,off,cap,_,rfl,ht,setRow_heap w g _ _ e (0,0) ha,hroom,Y,?_,?_⟩⟩,?_,λb hb'=>.inl hb'⟩
 ·simp only[List.size_toArray,List.length_append,List.length_take,List.length_drop,Array.length_toList];omega
 ·have h0:cur.toList.length=cur.size:=Array.length_toList;rw[I] at hh ⊢;have e1:(cur.toList.take (off+n*sz)).drop off=cs:=by
   rw[List.drop_take,show off+n*sz - off=n*sz by omega];exact hg
  have e2:(List.toArray (cur.toList.take (off+n*sz)++news++cur.toList.drop (off+n*sz+news.length))).toList.drop off=cs++news++cur.toList.drop (off+n*sz+news.length):=by
   show (cur.toList.take (off+n*sz)++news++cur.toList.drop (off+n*sz+news.length)).drop off=_;rw[LC,List.drop_append_of_le_length (by rw[LD];omega),e1,LC]
  rw[e2];have U:(cs++news).length=(n+m)*sz:=by rw[Ll,E.1,hl,MB]
  rw[←U];exact List.take_left
 exact Step.setRow w g _
theorem QnO {t e sz bys:Nat}{z:Value}[h:Sl P t e sz bys z] {s y:Operand}{base:Nat}{v:Value}{n:Nat}{cs:LV}(E:Xg w base e sz v n cs) (hs:ev f s=v)
  {a:Addr} {m c:Nat} {news:LV} (hy:ev f y=.slice (some a) m c) (hl:news.length=m*sz) (hm:0<m) {L:LN} (H:At L w.heap a news) (h1:∀u∈news,u.oneCell'=true)
  (hb:n+m≤1099511627776) (I:base≤w.heap.size)
  (J:∀v' w',Xg w' base e sz v' (n+m) (cs++news)→Step (ob v) w w'→(∀b∈ob v',b∈ob v∨w.heap.size≤b)→K (QV f d v') w') (U:bys≤128:=by decide) :
  XO P ⟨d,.call ⟨.builtin .append,#[s,y],#[t,t]⟩,ty,ps,af,gd⟩ f w K:=by
 obtain ⟨v',w',V,h2,h3,h4⟩:=QaD (P:=P) (t:=t) (ty:=ty) E hl hm H.cells h1 hb U I (c:=c);have Y:(execOp (ev f) ⟨d,.call ⟨.builtin .append,#[s,y],#[t,t]⟩,ty,ps,af,gd⟩).run P w=.ok (.value v') w':=by
  simp[execOp,resolve,invoke,builtin,hs,hy,V]
 exact xv Y (J v' w' h2 h3 h4)
end
abbrev Kz (e base:Nat) (w:World) (v:Value) (l:LI):Prop:=Xg w base e 1 v l.length (l.map (.int .i64))
theorem Kz.snoc {e base:Nat}{w:World}{v:Value}{l:LI}{n:Int}(h:Xg w base e 1 v (l.length+1) (l.map (Value.int .i64)++[.int .i64 n])):Kz e base w v (l++[n]):=by
 unfold Kz;simpa using h
theorem Kz.tail {e base:Nat}{w:World}{v:Value}{s:Int}{l:LI}(h:Xg w base e 1 v ((s::l).length - 1) (((s::l).map (Value.int .i64)).drop (1*1))):Kz e base w v l:=by
 unfold Kz;simpa using h
end Go.Lg
namespace Go.Proofs.YtjcgijbhaemldaaGreatDoor
open Go.Lg
def KB {α:Type}(f:Nat→α) (i:Nat) (x:α):Nat→α:=λj=>if j=i then x else f j
theorem Z9 {α:Type}(f:Nat→α) (i:Nat) (x:α):KB f i x i=x:=by simp[KB]
theorem YD {α:Type}(f:Nat→α) {i j:Nat}(x:α) (h:j≠i):KB f i x j=f j:=by simp[KB,h]
theorem QbP {α β:Type}(k:α→β) (n:Nat) (f:Nat→α) (i:Nat) (x:α):((List.range n).map λj=>k (f j)).set i (k x)=(List.range n).map λj=>k (KB f i x j):=by
 apply LX
 ·simp
 intro j h1 h2;rw[MU];by_cases e:i=j
 ·subst e;simp[Z9]
 rw[if_neg e];simp[YD _ _ (Ne.symm e)]
structure Vi (base:Nat) (w:World) (n:Nat) (f:Nat→Value) (g:Nat→LI):Prop where
 own:∀i,i<n→Qs 3 base w (f i) (g i)
 dj:∀i j,i<n→j<n→i≠j→Dj (f i) (f j)
theorem Vi.app {base n i:Nat}{w w':World}{f:Nat→Value}{g:Nat→LI}{v':Value}{l:LI}(h:Vi base w n f g) (hi:i<n) (I:Qs 3 base w' v' l) (hs:Step (ob (f i)) w w')
  (J:∀b∈ob v',b∈ob (f i)∨w.heap.size≤b):Vi base w' n (KB f i v') (KB g i l):=by
 refine ⟨λj hj=>?_,λj k hj hk E=>?_⟩
 ·by_cases e:j=i
  ·subst e;rw[Z9,Z9];exact I
  rw[YD _ _ e,YD _ _ e];exact Qk (h.own j hj) hs (h.dj j i hj hi e)
 have key:∀j,j<n→j≠i→Dj v' (f j):=λj hj e b hb H=>by
  rcases J b hb with h1 | h1
  ·exact h.dj i j hi hj (Ne.symm e) b h1 H
  have:=Q2 (h.own j hj) b H;omega
 by_cases e1:j=i
 ·subst e1;rw[Z9,YD _ _ (Ne.symm E)];exact key k hk (Ne.symm E)
 rw[YD _ _ e1];by_cases e2:k=i
 ·subst e2;rw[Z9];exact (key j hj e1).symm
 rw[YD _ _ e2];exact h.dj j k hj hk E
theorem Vi.step {base n:Nat}{X:LN}{w w':World}{f:Nat→Value}{g:Nat→LI}(h:Vi base w n f g) (hs:Step X w w') (E:∀i,i<n→∀b∈ob (f i),b∉X):Vi base w' n f g :=
 ⟨λi hi=>Qk (h.own i hi) hs (E i hi),h.dj⟩
theorem Vi.ext {base n:Nat}{w w':World}{f:Nat→Value}{g:Nat→LI}(h:Vi base w n f g) (hs:Step [] w w'):Vi base w' n f g:=h.step hs (λ_ _ _ _=>by simp)
def Zz (es:List Ed) (s:Nat):LI:=(es.filter λe=>decide (e.2.2=(s:Int))).map (·.1)
theorem z7 (es:List Ed) (e:Ed) (E:0≤e.2.2):∀s,KB (Zz es) e.2.2.toNat (Zz es e.2.2.toNat++[e.1]) s=Zz (es++[e]) s:=by
 intro s;unfold Zz;rw[Mb,Ly];by_cases h:s=e.2.2.toNat
 ·subst h;rw[Z9];have:e.2.2=(e.2.2.toNat:Int):=by omega
  simp[←this]
 rw[YD _ _ h];have:¬e.2.2=(s:Int):=by omega
 simp[this]
theorem Xz {es:List Ed}{s:Nat}{p:Int}(h:p∈Zz es s):∃e∈es,e.1=p∧e.2.2=(s:Int):=by
 unfold Zz at h;simp only[List.mem_map,List.mem_filter,decide_eq_true_eq] at h;obtain ⟨e,⟨h1,h2⟩,h3⟩:=h;exact ⟨e,h1,h3,h2⟩
theorem Jl (es:List Ed) (s:Nat):(Zz es s).length≤es.length:=by
 unfold Zz;rw[Li];exact My _ _
def KE (s:Int) (st:LI×LI) (p:Int):LI×LI:=if cget st.1 p.toNat<0 then (st.1.set p.toNat (cget st.1 s.toNat+1),st.2++[p]) else st
def bwL (es:List Ed):Nat→LI→LI→LI
 | 0,o,_=>o
 | _+1,o,[]=>o
 | f+1,o,s::q=>bwL es f ((Zz es s.toNat).foldl (KE s) (o,q)).1 ((Zz es s.toNat).foldl (KE s) (o,q)).2
def Vf (n:Nat) (to:LI):LI:=(List.range n).map λi:Nat=>if (i:Int)∈to then 0 else -1
def bwd (n:Nat) (es:List Ed) (to:LI):LI:=bwL es (n+to.length) (Vf n to) to
theorem QmD (es:List Ed) (f:Nat) (o:LI):bwL es f o []=o:=by cases f <;> rfl
structure yT (n:Nat) (o q:LI):Prop where
 len:o.length=n
 q:∀x∈q,0≤x∧x<(n:Int)
 le:∀x∈o,-1≤x∧x+(neg o:Int)≤n
theorem Qd0 (l:LI):neg l≤l.length:=My _ _
theorem Qeu {n:Nat}{s p:Int}{st:LI×LI}(h:yT n st.1 st.2) (hs:0≤s∧s<(n:Int)) (E:0≤cget st.1 s.toNat) (hp:0≤p∧p<(n:Int)) :
  yT n (KE s st p).1 (KE s st p).2∧neg (KE s st p).1+(KE s st p).2.length=neg st.1+st.2.length∧0≤cget (KE s st p).1 s.toNat:=by
 unfold KE;have hl:=h.len;have H:p.toNat<st.1.length:=by omega
 have I:s.toNat<st.1.length:=by omega
 by_cases hc:cget st.1 p.toNat<0
 ·rw[if_pos hc];have J:st.1[p.toNat]'H<0:=by rw[Q9 H];exact hc
  have V:=h.le _ (Jy I);have Y:=Ui st.1 p.toNat (cget st.1 s.toNat+1) H J (by omega);refine ⟨⟨by simp[hl],λx hx=>?_,λx hx=>?_⟩,?_,?_⟩
  ·simp only[List.mem_append,List.mem_singleton] at hx;rcases hx with hx | rfl
   ·exact h.q x hx
   exact hp
  ·simp only[] at hx ⊢;rcases Nh hx with h1 | h1
   ·have:=h.le x h1;omega
   subst h1;omega
  ·simp only[List.length_append,List.length_singleton];omega
  simp only[];have U:s.toNat≠p.toNat:=λe=>by rw[e] at E;omega
  have:cget (st.1.set p.toNat (cget st.1 s.toNat+1)) s.toNat=cget st.1 s.toNat:=by
   unfold cget;simp[List.getD,List.getElem?_set_ne (Ne.symm U)]
  rw[this];exact E
 rw[if_neg hc];exact ⟨h,rfl,E⟩
theorem Yx (n:Nat) (to:LI):(Vf n to).length=n:=by simp[Vf]
theorem Qev {n:Nat}{to:LI}(h:∀x∈to,0≤x∧x<(n:Int)):yT n (Vf n to) to:=by
 refine ⟨Yx n to,h,λx hx=>?_⟩;have E:=Qd0 (Vf n to);rw[Yx] at E;unfold Vf at hx;simp only[List.mem_map] at hx;obtain ⟨i,_,rfl⟩:=hx;split <;> omega
theorem q8 {n:Nat}{to:LI}{x:Int}(h:0≤x∧x<(n:Int)) (hx:x∈to):cget (Vf n to) x.toNat=0:=by
 have h1:x.toNat<(Vf n to).length:=by rw[Yx];omega
 rw[←Q9 h1];have:((x.toNat:Nat):Int)=x:=by omega
 simp[Vf,this,hx]
def Qdq (o q:LI):Prop:=∀x∈q,0≤cget o x.toNat
theorem yF {n:Nat}{s p:Int}{st:LI×LI}(h:yT n st.1 st.2) (I:0≤cget st.1 s.toNat) (hp:0≤p∧p<(n:Int)) (E:Qdq st.1 st.2):Qdq (KE s st p).1 (KE s st p).2:=by
 unfold KE;have H:p.toNat<st.1.length:=by have:=h.len;omega
 by_cases hc:cget st.1 p.toNat<0
 ·rw[if_pos hc];intro x hx;simp only[] at hx ⊢;have e1:cget (st.1.set p.toNat (cget st.1 s.toNat+1)) x.toNat=if x.toNat=p.toNat then cget st.1 s.toNat+1 else cget st.1 x.toNat:=by
   by_cases e:x.toNat=p.toNat
   ·rw[if_pos e,e];unfold cget;simp[List.getD,H]
   rw[if_neg e];unfold cget;simp[List.getD,List.getElem?_set_ne (Ne.symm e)]
  rw[e1];split
  ·omega
  rename_i e;simp only[List.mem_append,List.mem_singleton] at hx;rcases hx with hx | rfl
  ·exact E x hx
  exact absurd Z e
 rw[if_neg hc];exact E
open Go.Proofs.Tryz
theorem Qb8 (n:Nat):(List.replicate n (nS).cells.toList).flatten=(List.range n).map (λ_=>nS):=by
 apply LX
 ·simp[Value.cells]
 intro i h1 h2;simp[Value.cells]
theorem jS (n:Nat):(List.replicate n (Value.int .i64 0).cells.toList).flatten=(gA n (λj=>if j<0 then -1 else 0)).map (Value.int .i64):=by
 apply LX
 ·simp[Value.cells,gA]
 intro i h1 h2;simp[Value.cells,gA]
theorem Ue {rv:Nat→Value}{n i:Nat}(hi:i<n):((List.range n).map rv)[0+i*1]?=some (rv i):=by simp[hi]
theorem Qdh {w:World}{va vm ve vf vt:Value}{a:QD}{n:Nat}{to:LI}(h:Zq [] w.heap va vm ve a) (hn:a.st=(n:Int)) (m2:a.st≤4096) (gs:∀e∈a.ed,0≤e.1∧e.1<a.st∧0≤e.2.2∧e.2.2<a.st)
  (m3:a.ed.length≤1000000) (ke:QL [] w.heap vt to) (kf:∀s∈to,0≤s∧s<a.st) (m4:to.length≤4096) :
  QG prog 77 [.agg #[va,.int .i64 a.st,vm,ve,vf],vt] w λr w'=>Step [] w w'∧∃b,r=.slice (some ⟨b,0,none⟩) n n∧w.heap.size≤b∧QT w'.heap b 3 ((bwd n a.ed to).map (Value.int .i64)):=by
 refine QG.of_W func77 Z ntmps77 results77 (by simp) ?_;refine Qc<|xl Z<|QR (us:=[va,.int .i64 a.st,vm,ve,vf]) Z λb2 w1 h3 m5 h4=>Qf<|Qc<|x (Qa Z)<|x (Qa Z)<|x (Qd h4 Z Z)<|xl Z<|XZ (n:=n) (congrArg (Value.int .i64) hn) (congrArg (Value.int .i64) hn) (by omega) λbI w2 hJ kg hK=>Qf ?_;rw[Qb8] at hK;have h6:=h3.trans hJ;have m6:=hK.lt;have m7:=h4.lt
 have hL:∀s∈to,0≤s∧s<(n:Int):=λs hs=>by have:=kf s hs;omega
 refine Qg<|Qc<|x (Qa Z)<|x (Qa Z)<|x (Qd (h4.ext hJ) Z Z)<|x (Qr h.ed Z)<|Qb<|xe<|Qh<|Qz (α:=Nat×(Nat→Value)) [(7,7),(24,41)] (λz=>[(24,.int .i64 z.1)]) (λz w'=>z.1≤a.ed.length∧Step [bI] w2 w'∧QT w'.heap bI 39 ((List.range n).map z.2)∧Vi w2.heap.size w' n z.2 (Zz (a.ed.take z.1))) (λz=>a.ed.length - z.1) (by rfl) (0,λ_=>nS) Lb
  ⟨Ln _,Step.refl _ _,hK,⟨λi _=>QP _ _ _ _,λi j _ _ _=>Dj.nil _⟩⟩ ?_
 rintro ⟨k,rv⟩ g I ⟨hk,hM,hN,hg⟩;simp only[] at hk hN hg;have m8:=hM.size;have h7:Step [] w1 I:=hJ.then1 hM kg;refine Qc<|x (QA Z Z)<|xe<|Qg<|QC Z (λhO=>?_) (λhO=>?_)
 ·refine Qy ?_;have kh:a.ed.length≤k:=by have h8:¬(k:Int)<(a.ed.length:Int):=hO;omega
  rw[Ls kh] at hg;have gt:∀i,i<n→QL [] I.heap (rv i) (Zz a.ed i):=λi hi=>QX (hg.own i hi) (by have:=Jl a.ed i;omega) (by simp);have hP:=(ke.ext h3).ext h7;refine Qc<|x (Qa Z)<|x (Qa Z)<|x (Qd (h4.ext h7) Z Z)<|xl Z<|XZ (n:=n) (congrArg (Value.int .i64) hn) (congrArg (Value.int .i64) hn) (by omega) λbO w4 hQ m9 hR=>Qf ?_;rw[jS] at hR
  refine Qg<|Qc<|Qb<|x (Qr (L:=[]) (hR.arr (by simp) (n:=n) (cap:=n) (sz:=1) (by simp[gA]) (by omega) (Lv _)) rfl)<|Qb<|xe<|Qh<|Qz (α:=Nat) [(9,9),(48,54)] (λz=>[(48,.int .i64 z)]) (λz w'=>z≤n∧Step [] I w'∧QT w'.heap bO 3 ((gA n (λj=>if j<z then -1 else 0)).map (Value.int .i64))) (λz=>n - z) (by rfl) 0 Lb ⟨Ln _,hQ,hR⟩ ?_
  rintro j g E ⟨hj,hh,h9⟩;refine Qc<|x (QA Z Z)<|xe<|Qg<|QC Z (λhS=>?_) (λhS=>?_)
  ·refine Qy ?_;have hT:j=n:=by have ki:¬(j:Int)<(n:Int):=hS;omega
   have kj:gA n (λi=>if i<j then -1 else 0)=gA n (λi:Nat=>if (i:Int)∈to.take 0 then 0 else -1):=ye λi hi=>by rw[if_pos (by omega),if_neg (by simp)]
   rw[kj] at h9;refine Qc<|Qb<|xl Z<|xf<|(Y2 (hP.ext hh)).mono ?_;rintro vq w6 ⟨V,kk⟩;have pa:=h9.lt;have gu:=hh.trans V;have kn:=hh.size;refine Qf<|Qg<|Qc<|Qb<|x (Qr (hP.ext gu) Z)<|Qb<|xe ?_
   refine Qh<|Qz (α:=Nat) [(12,12),(59,66)] (λz=>[(59,.int .i64 z)]) (λz w'=>z≤to.length∧Step [] I w'∧QT w'.heap bO 3 ((gA n (λi:Nat=>if (i:Int)∈to.take z then 0 else -1)).map (Value.int .i64))∧Qs 3 E.heap.size w' vq to∧E.heap.size≤w'.heap.size) (λz=>to.length - z) (by rfl) 0 Lb
    ⟨Ln _,gu,h9.ext V,kk,V.size⟩ ?_
   rintro i g w7 ⟨hi,Y,hU,hV,ko⟩;refine Qc<|x (QA Z Z)<|xe<|Qg<|QC Z (λhW=>?_) (λhW=>?_)
   ·refine Qy ?_;have kp:to.length≤i:=by have hA:¬(i:Int)<(to.length:Int):=hW;omega
    rw[Ls kp] at hU;have kq:QT w7.heap bO 3 ((Vf n to).map (Value.int .i64)):=hU;refine Qg<|Qh<|Qz (α:=Nat×Value×LI×LI) [(10,10),(13,13),(15,15),(67,101)] (λz=>[(10,z.2.1)])
     (λz w'=>Step [] I w'∧E.heap.size≤w'.heap.size∧QT w'.heap bO 3 (z.2.2.1.map (Value.int .i64))∧Kz 3 E.heap.size w' z.2.1 z.2.2.2∧yT n z.2.2.1 z.2.2.2∧Qdq z.2.2.1 z.2.2.2∧neg z.2.2.1+z.2.2.2.length≤z.1∧z.1≤8192∧bwL a.ed z.1 z.2.2.1 z.2.2.2=bwd n a.ed to)
     (λz=>z.1+1 - (if z.2.2.2=[] then 1 else 0)) (by rfl) (n+to.length,vq,Vf n to,to) Lb
     ⟨Y,ko,kq,Xg.of_row hV,Qev hL,λx hx=>by rw[q8 (hL x hx) hx];omega,by have:=Qd0 (Vf n to);rw[Yx] at this;simp only[];omega,by simp only[];omega,Z⟩ ?_
    rintro ⟨fu,vq,o,q⟩ g w8 ⟨H,hX,ho,hB,h0,hY,hZ,kr,hq⟩;simp only[] at hX ho hB h0 hY hZ kr hq;have pc:neg o+q.length≤8192:=by omega
    refine Qg<|Qc<|Qb<|x (Qr (Qm4 (L:=[]) hB (by omega) (by simp)) rfl)<|x (ZY rfl rfl)<|xe<|QC Z (λga=>?_) (λga=>?_)
    ·refine Qy ?_;have kt:q=[]:=Lt (by have ku:¬(q.length:Int) > 0:=ga;omega);rw[kt,QmD] at hq;rw[hq] at ho;refine Qc<|Qb<|Qf ?_;exact Ql ⟨[.slice (some ⟨bO,0,none⟩) n n],Lb,h3.trans (h7.trans H),bO,Z,by omega,ho⟩
    refine Qi ?_;have kv:0<q.length:=by have ku:(q.length:Int) > 0:=ga;omega
    refine Exists.elim (List.exists_cons_of_length_pos kv) λs kw=>Exists.elim kw λq' kx=>?_;subst kx;have pd:0<fu:=by simp only[List.length_cons] at hZ;omega
    refine Exists.elim (MR (show fu≠0 by omega)) λgv gb=>?_;subst gb;have hsr:=h0.q s Lm;have kz:=hY s Lm;have hr:s=(s.toNat:Int):=by omega
    rw[bwL] at hq;simp only[List.length_cons] at hZ;refine Qh<|Qc<|Qb<|xii (i:=0) (Qm4 (L:=[]) hB (by simp only[List.length_cons];omega) (by simp)) rfl rfl (by simp) λpf k0=>x (Qv k0 rfl)<|Qf<|Qc<|Qb<|Qqe (lo:=1) hB rfl rfl (by simp only[List.length_cons];omega) λgx k4 pg=>Qf ?_;have J:Kz 3 E.heap.size w8 gx q':=Kz.tail k4
    refine Qc<|Qb<|Qb<|x (QS (i:=s.toNat) Z (congrArg (Value.int .i64) hr) (by omega))<|x (Qd (u:=rv s.toNat) (hN.ext H) Z (Ue (by omega)))<|x (Qr ((gt s.toNat (by omega)).ext H) Z)<|Qb<|xe ?_;have gy:=Jl a.ed s.toNat;refine Qh<|Qz (α:=Nat×Value×LI×LI) [(10,10),(15,15),(80,101)] (λz=>[(10,z.2.1),(80,.int .i64 z.1)])
     (λz w'=>z.1≤(Zz a.ed s.toNat).length∧Step [] I w'∧E.heap.size≤w'.heap.size∧QT w'.heap bO 3 (z.2.2.1.map (Value.int .i64))∧Kz 3 E.heap.size w' z.2.1 z.2.2.2∧yT n z.2.2.1 z.2.2.2∧Qdq z.2.2.1 z.2.2.2∧0≤cget z.2.2.1 s.toNat∧neg z.2.2.1+z.2.2.2.length≤gv∧((Zz a.ed s.toNat).drop z.1).foldl (KE s) (z.2.2.1,z.2.2.2)=(Zz a.ed s.toNat).foldl (KE s) (o,q'))
     (λz=>(Zz a.ed s.toNat).length - z.1) (by rfl) (0,gx,o,q') ⟨Z,Z,La⟩
     ⟨Ln _,H,hX,ho,J,⟨h0.len,λx hx=>h0.q x (Lk _ hx),h0.le⟩,λx hx=>hY x (Lk _ hx),kz,by simp only[];omega,Z⟩ ?_
    rintro ⟨m,gc,o2,q2⟩ g w9 ⟨hm,hC,ge,ht,J,ha,hD,hE,gg,U⟩;simp only[] at hm ge ht J ha hD hE gg U;refine Qc<|x (QA Z Z)<|xe<|Qg<|QC Z (λgh=>?_) (λgh=>?_)
    ·refine Qy ?_;have k5:(Zz a.ed s.toNat).length≤m:=by have hF:¬(m:Int)<((Zz a.ed s.toNat).length:Int):=gh;omega
     rw[Lx k5] at U;rw[←U] at hq;exact ⟨(gv,gc,o2,q2),by simp only[];split <;> simp <;> omega,Lb,hC,ge,ht,J,ha,hD,gg,by simp only[];omega,hq⟩
    refine Qi ?_;have hu:m<(Zz a.ed s.toNat).length:=by have hF:(m:Int)<((Zz a.ed s.toNat).length:Int):=gh;omega
    have gz:=Xz (Le hu);have k6:=Q7 hu;rw[k6,LM] at U;refine Zh ((Zz a.ed s.toNat)[m]'hu) λp hp=>?_;rw[hp] at gz U;have g0:0≤p∧p<(n:Int):=by
     obtain ⟨e,he,h1,_⟩:=gz;have:=gs e he;omega
    have g1:p=(p.toNat:Int):=by omega
    have ph:=ha.len;have hG:p.toNat<o2.length:=by omega
    have gi:s.toNat<o2.length:=by omega
    have pj:=ha.le _ (Jy gi);have hH:=Qeu (st:=(o2,q2)) ha hsr hE g0;have g2:=yF (st:=(o2,q2)) ha hE g0 hD;refine Qg<|Qh<|Qc<|xii (i:=m) ((gt s.toNat (by omega)).ext hC) Z Z hu λpn hF=>?_;rw[hp] at hF;refine x (Qv hF Z)<|Qf<|Qc<|Qb<|Qb<|x (QS (i:=p.toNat) Z (congrArg (Value.int .i64) g1) (by omega))<|x (Vq (i:=p.toNat) ht Z hG)<|x (QA Z Z)<|xe ?_
    refine QC Z (λgj=>?_) (λgj=>?_)
    ·refine Qi ?_;have hc:¬cget o2 p.toNat<0:=by rw[←Q9 hG];exact gj
     have gk:KE s (o2,q2) p=(o2,q2):=by unfold KE;rw[if_neg hc]
     rw[gk] at U;refine Qx<|QQ Z Z<|Qb<|xe ?_;exact ⟨(m+1,gc,o2,q2),by simp only[];omega,⟨Z,Z,La⟩,hu,hC,ge,ht,J,ha,hD,hE,gg,U⟩
    have hc:cget o2 p.toNat<0:=by rw[←Q9 hG];exact gj
    have gk:KE s (o2,q2) p=(o2.set p.toNat (cget o2 s.toNat+1),q2++[p]):=by unfold KE;rw[if_pos hc]
    rw[gk] at U hH g2;have k7:=Q9 gi;refine Qc<|Qb<|Qb<|Qb<|Qb<|x (QS (i:=s.toNat) Z (congrArg (Value.int .i64) hr) (by omega))<|x (Vq (i:=s.toNat) ht Z gi)<|x (JL Z Z ⟨by omega,by omega⟩) <|
     x (QS (i:=p.toNat) Z (congrArg (Value.int .i64) g1) (by omega))<|xl Z<|Jr (i:=p.toNat) ht Z Z hG λk8 gl g3=>xe ?_
    rw[k7] at g3;have po:=gl.size;have k9:∀b∈ob gc,b∉[bO]:=λb hb=>by have:=QnE J b hb;simp;omega
    have ma:=Qii J gl k9;have mc:Step [] I k8:=hC.then1 gl (by omega);refine Qx<|Qb<|Qb<|xl Z<|QH (us:=[[.int .i64 p]]) Z Z (by decide) (by simp) ⟨rfl,rfl,La⟩ λpp pt h2 pu mf=>xl rfl<|QnO (m:=1) (news:=[.int .i64 p]) (Qpm ma h2) rfl rfl rfl (by omega) (mf.at (L:=[]) (by simp)) (by simp[Value.oneCell']) (by omega) (by have:=h2.size;omega) λg4 mg mh h6 pw =>
     Qf ?_
    have pz:=h2.size;have p0:=h6.size;have mj:Kz 3 E.heap.size mg g4 (q2++[p]):=Kz.snoc mh;refine Qx<|QQ Z Z<|Qb<|xe<|⟨(m+1,g4,_,q2++[p]),by simp only[];omega,⟨Z,Z,La⟩,hu,(mc.trans h2).then h6 (λb hb=>.inr (by have:=QnE J b hb;omega)),by omega,(g3.ext h2).step h6 (λhb=>by have:=QnE J _ hb;omega),mj,hH.1,g2,hH.2.2,?_,U⟩
    have h5:neg (o2.set p.toNat (cget o2 s.toNat+1))+(q2++[p]).length=neg o2+q2.length:=hH.2.1;simp only[];omega
   refine Qi ?_;have hv:i<to.length:=by have hA:(i:Int)<(to.length:Int):=hW;omega
   have mo:=hL _ (Le hv);have hw:to.take (i+1)=to.take i++[to[i]'hv]:=Lj hv;refine Zh (to[i]'hv) λs hs=>?_;rw[hs] at mo hw;have hr:s=(s.toNat:Int):=by omega
   have gm:(gA n (λj:Nat=>if (j:Int)∈to.take i then 0 else -1)).set s.toNat 0=gA n (λj:Nat=>if (j:Int)∈to.take (i+1) then 0 else -1):=yd (by rw[hw];simp;omega) (λj _ hj=>by
    rw[hw];have:¬(j:Int)=s:=by omega
    simp[this])
   refine Qg<|Qh<|Qc<|xii (i:=i) (hP.ext Y) Z Z hv λp4 hA=>?_;rw[hs] at hA;refine x (Qv hA Z)<|Qf<|Qx<|Qb<|Qb<|x (QS (i:=s.toNat) Z (congrArg (Value.int .i64) hr) (by omega))<|xl Z<|KU (i:=s.toNat) hU Z Z (by omega) gm λw8 H ho=>xe ?_;refine Qx<|QQ Z Z<|Qb<|xe ?_;have hX:=H.size
   exact ⟨i+1,by omega,Lb,hv,Y.then1 H (by omega),ho,Qk hV H (λb hb=>by have:=Qq hV b hb;simp;omega),by omega⟩
  refine Qi ?_;have hT:j<n:=by have ki:(j:Int)<(n:Int):=hS;omega
  refine Qg<|Qh<|Qc<|Qb<|Qf<|Qx ?_;have gm:(gA n (λi=>if i<j then -1 else 0)).set j (-1)=gA n (λi=>if i<j+1 then -1 else 0):=yd (by rw[if_pos (by omega)]) (λi _ hi=>by
   by_cases e:i<j
   ·rw[if_pos e,if_pos (by omega)]
   rw[if_neg e,if_neg (by omega)])
  refine Qb<|Qb<|x (QS (i:=j) Z Z (by omega))<|xl Z<|KU (i:=j) h9 Z Z hT gm λw6 V mq=>xe ?_;refine Qx<|QQ Z Z<|Qb<|xe ?_;exact ⟨j+1,by omega,Lb,hT,hh.then1 V (by omega),mq⟩
 refine Qi ?_;have hy:k<a.ed.length:=by have h8:(k:Int)<(a.ed.length:Int):=hO;omega
 have hw:a.ed.take (k+1)=a.ed.take k++[a.ed[k]'hy]:=Lj hy;have g5:=gs _ (Le hy);refine Zh (a.ed[k]'hy) λe he=>?_;rw[he] at hw g5;have g6:e.2.2=(e.2.2.toNat:Int):=by omega
 have hf:e.2.2.toNat<n:=by omega
 have gy:=Jl (a.ed.take k) e.2.2.toNat;rw[LD] at gy;have hr:=z7 (a.ed.take k) e g5.2.2.1;refine Qg<|Qh<|Qc<|xie ((h.ed.ext h3).ext h7) Z Z hy λp5 h8=>?_;rw[he] at h8;refine x (QJ h8 Z Z)<|xl Z<|Qu (us:=[.int .i64 0,.int .i64 0,.int .i64 0]) Z λb7 w4 hQ ms mt=>xl Z<|Qn (us:=QB e) mt Z Z Z Z ⟨Z,Z,Z,La⟩ λE hh gn=>xe ?_;have hI:Step [] I E:=hQ.then1 hh ms
 have kn:=hI.size;have g7:=hg.ext hI;have mu:=g7.own _ hf;have gq:∀b∈ob (rv e.2.2.toNat),w2.heap.size≤b∧b<I.heap.size:=λb hb=>⟨(Qq (hg.own _ hf) b hb).1,Q2 (hg.own _ hf) b hb⟩;have g8:bI∉ob (rv e.2.2.toNat):=λhb=>by have:=gq _ hb;omega
 have gr:b7∉ob (rv e.2.2.toNat):=λhb=>by have:=gq _ hb;omega
 have g9:=hN.ext hI;refine QU (Step (ob (rv e.2.2.toNat)) E) [(0,true),(1,true),(2,true),(3,true),(4,true),(5,true),(6,true),(7,true),(8,true),(9,true),(10,false),(11,false),(12,true),(13,false)] mixed (by rfl) (by kernel_rfl) (Step.drew _ _) ?_;refine p (λ_=>Qm)<|p (λ_=>Qa Z)<|pq (λ_ hc=>Qd (gn.step hc gr) Z Z)<|p (λ_=>Qm)<|p (λ_=>Qa Z)<|pq (λ_ hc=>Qd (gn.step hc gr) Z Z) <|
  p (λ_=>QS (i:=e.2.2.toNat) Z (congrArg (Value.int .i64) g6) hf)<|pq (λ_ hc=>Qd (u:=rv e.2.2.toNat) (g9.step hc g8) Z (Ue hf))<|p (λ_=>Qa Z)<|pq (λ_ hc=>Qd (gn.step hc gr) Z Z) <|
  pk<|QH (us:=[[.int .i64 e.1]]) Z Z (by decide) (by simp) ⟨rfl,rfl,La⟩ λp6 w6 V p7 mv=>⟨(Step.drew _ _).trans V,?_⟩
 have hz:Step [] E w6:=(Step.drew _ _).trans V;have p8:=hz.size;refine pk<|Q6 (m:=1) (news:=[.int .i64 e.1]) (Qt mu hz) Z Z Z (mv.at (L:=[]) (by simp)) (by simp[Value.oneCell']) (by omega) (by omega) λvr w7 ka Y mw=>⟨hz.any.trans' Y,?_⟩;have mx:=(g9.ext hz).step Y g8;have my:((List.range n).map rv).length=n:=by simp
 refine p (λ_=>QS (i:=e.2.2.toNat) Z (congrArg (Value.int .i64) g6) hf)<|pkl (hl:=by kernel_rfl)<|QF (j:=0+e.2.2.toNat*1) (u:=vr) mx Z Z (by rw[my];omega) (QX (L:=[]) ka (by omega) (by simp)).one λw8 H mz=>pe ?_;have m0:QT w8.heap bI 39 ((List.range n).map (KB rv e.2.2.toNat vr)):=by
  have e1:=QbP id n rv e.2.2.toNat vr;simp only[id] at e1;rw[←e1];simpa using mz
 have m1:∀b∈ob vr,b∈ob (rv e.2.2.toNat)∨E.heap.size≤b:=λb hb=>(mw b hb).imp id (λh=>by omega);have kb:=g7.app hf (Qs.snoc ka) (hz.any.trans' Y) m1;have kc:=kb.step H (λi hi b hb=>by have:=(Qq (kb.own i hi) b hb).1;simp;omega);have gb:KB (Zz (a.ed.take k)) e.2.2.toNat (Zz (a.ed.take k) e.2.2.toNat++[e.1])=Zz (a.ed.take (k+1)):=by rw[hw];exact funext hr
 rw[gb] at kc;refine Qx<|QQ Z Z<|Qb<|xe<|⟨(k+1,KB rv e.2.2.toNat vr),by simp only[];omega,Lb,hy,?_,m0,kc⟩;exact (((hM.trans hI).trans hz).then Y (λb hb=>.inr (gq b hb).1)).trans' H
def VH (d:LI) (k:Nat):LI:=((List.range k).filter λi=>decide (0≤cget d i)).map λi:Nat=>(i:Int)
def cor (a:QD):LI:=VH (bwd a.st.toNat a.ed a.mr) a.st.toNat
theorem j7 (d:LI) (k:Nat):VH d (k+1)=if 0≤cget d k then VH d k++[(k:Int)] else VH d k:=by
 unfold VH;rw[List.range_succ,Mb,Ly];by_cases h:0≤cget d k
 ·simp[h]
 simp[h]
theorem QjQ (d:LI) (k:Nat):(VH d k).length≤k:=by
 unfold VH;rw[Li];have:=My (λi=>decide (0≤cget d i)) (List.range k);simpa using this
theorem QmE (s:Int) (st:LI×LI) (p:Int):(KE s st p).1.length=st.1.length:=by unfold KE;split <;> simp
theorem Qdf (s:Int):∀(ps:LI) (st:LI×LI),(ps.foldl (KE s) st).1.length=st.1.length
 | [],_=>rfl
 | p::ps,st=>by rw[LM,Qdf s ps,QmE]
theorem Qbv (es:List Ed):∀(f:Nat) (o q:LI),(bwL es f o q).length=o.length
 | 0,_,_=>rfl
 | _+1,_,[]=>rfl
 | f+1,o,s::q=>by rw[bwL,Qbv es f,Qdf]
theorem QmB (n:Nat) (es:List Ed) (to:LI):(bwd n es to).length=n:=by unfold bwd;rw[Qbv,Yx]
theorem yS {w:World}{va vm ve:Value}{a:QD}(h:Zq [] w.heap va vm ve a) :
  QG prog 35 [.agg #[va,.int .i64 a.st,vm,ve]] w λr w'=>Step [] w w'∧∃v,r=.tuple #[v,.int .i64 (XM a)]∧Qs 3 w.heap.size w' v (if XM a=0 then cor a else []):=by
 refine QG.of_W func35 Z ntmps35 results35 (by simp) ?_;refine Qc<|xl Z<|QR (us:=[va,.int .i64 a.st,vm,ve]) Z λb1 w1 J h7 hg=>x Qe<|Qf<|Qg<|Qc<|x (Qp hg Z Z)<|xl Z<|xf<|(Xn (h.ext J)).mono ?_;rintro r2 V ⟨rfl,H⟩;refine Qf<|Qc<|Qb<|x (Q8 Z Z)<|xe ?_;have h8:=J.size;have h9:=H.size;refine Q3 rfl (λhh=>?_) (λhh=>?_)
 ·refine Qc<|Qb<|x Qe<|Qf<|Ql ⟨[nS,.int .i64 (XM a)],⟨Z,Z,La⟩,J.trans H,_,Z,?_⟩;rw[if_neg hh];exact QP _ _ _ _
 have hck:XM a=0:=Lo.1 hh;have E:=(Zv a).1 hck;refine exN E.st0 λn hn=>?_;have hw:a.st.toNat=n:=by omega
 have hq:=E.st1;have hy:=E.mr_le;have hA:=E.ed_le;refine Qi<|Qc<|Qf ?_;have hi:=(h.ext J).ext H;have hj:Step [] V { V with drawn:=V.drawn+1 }:=Step.drew _ _
 refine Qg<|Qg<|QU (Step [] V) [(0,true),(2,true),(3,true),(6,true),(1,false),(4,false),(5,true)] mixed (by rfl) (by kernel_rfl) (Step.drew _ _) ?_;refine pq (λ_ hc=>Qp ((hg.ext H).ext hc) Z Z)<|p (λ_=>Qa Z)<|pq (λ_ hc=>Qd ((hg.ext H).ext hc) Z Z) <|
  p (λ_=>Qm)<|pk<|xf<|(qv (hi.ext hj) hn hq (λe he=>⟨(E.ed e he).1,(E.ed e he).2.1⟩)).mono ?_
 rintro r3 w3 ⟨hr,bF,rfl,_,_⟩;refine ⟨hj.trans hr,?_⟩;have Y:=hj.trans hr;refine pk<|xf<|(Qdh (hi.ext Y) hn hq (λe he=>⟨(E.ed e he).1,(E.ed e he).2.1,(E.ed e he).2.2.2⟩) (by omega) (hi.mr.ext Y) E.mr hy).mono ?_;rintro r4 w4 ⟨hs,bO,rfl,hB,hz⟩;refine ⟨Y.trans hs,?_⟩;have ht:=Y.trans hs;have hu:=QmB n a.ed a.mr
 have hv:ZA [] w4.heap (.slice (some ⟨bO,0,none⟩) n n) n 1 ((bwd n a.ed a.mr).map (Value.int .i64)):=hz.arr (by simp) (by simp[hu]) (by omega) (Lv _);refine p (λ_=>Qr hv Z)<|pe ?_;have hC:=ht.size;have h0:cor a=VH (bwd n a.ed a.mr) n:=by unfold cor;rw[hw]
 refine Qh<|Qz (α:=Nat×Value) [(5,7),(19,30)] (λz=>[(5,z.2),(19,.int .i64 z.1)]) (λz w'=>z.1≤n∧Step [] w4 w'∧Qs 3 w4.heap.size w' z.2 (VH (bwd n a.ed a.mr) z.1)) (λz=>n - z.1) (by rfl) (0,nS) ⟨Z,Z,La⟩
  ⟨Ln _,Step.refl _ _,QP _ _ _ _⟩ ?_
 rintro ⟨k,v⟩ g w5 ⟨hk,U,I⟩;simp only[] at hk I;refine Qc<|x (QA Z Z)<|xe<|Qg<|QC Z (λhl=>?_) (λhl=>?_)
 ·refine Qy ?_;have ha:k=n:=by have h1:¬(k:Int)<(n:Int):=hl;omega
  rw[ha,←h0] at I;refine Qc<|Qb<|x Qe<|Qf<|Ql ⟨[v,.int .i64 0],⟨Z,Z,La⟩,(J.trans H).trans (ht.trans U),_,by rw[hck];rfl,?_⟩;rw[if_pos hck];exact Zi I (by omega)
 have ha:k<n:=by have h1:(k:Int)<(n:Int):=hl;omega
 have hf:=j7 (bwd n a.ed a.mr) k;have hD:=QjQ (bwd n a.ed a.mr) k;refine Qi<|Qg<|Qh<|Qc ?_;have h2:QL [] w5.heap (.slice (some ⟨bO,0,none⟩) n n) (bwd n a.ed a.mr):=by unfold QL;rw[hu];exact hv.ext U
 refine Qb<|xic (i:=k) h2 Z Z (by omega) λhE h3=>x (Qv h3 Z)<|x Qe<|Qf<|Qc<|Qb<|x (ZZ Z Z)<|xe<|QC rfl (λhm=>?_) (λhm=>?_)
 ·refine Qi ?_;rw[if_neg hm] at hf;refine Qx<|QQ Z Z<|Qb<|xe ?_;exact ⟨(k+1,v),by simp only[];omega,⟨Z,Z,La⟩,ha,U,by rw[hf];exact I⟩
 rw[if_pos hm] at hf;have hF:=U.size;refine Qx<|Qb<|Qb<|xl Z<|QH (us:=[[.int .i64 k]]) Z Z (by decide) (by simp) ⟨rfl,rfl,La⟩ λhG w6 hp hH h4=>xl rfl<|Q6 (m:=1) (news:=[.int .i64 k]) (Qt I hp) rfl rfl rfl (h4.at (L:=[]) (by simp)) (by simp[Value.oneCell']) (by omega) (by have:=hp.size;omega) λv7 w7 h5 h6 hI =>
  Qf<|Qx<|QQ Z Z<|Qb<|xe ?_
 exact ⟨(k+1,v7),by simp only[];omega,⟨Z,Z,La⟩,ha,(U.trans hp).then h6 (λb hb=>.inr (Qq I b hb).1),by rw[hf];exact Qs.snoc h5⟩
theorem Qqq {P:Program}{ops:List Oper}{K:Fr→World→Prop}{f:Fr}{w:World}{d:Option Nat}{ty:Nat}{ps:String}{af:Array Edge}{gd:Option (Nat×Bool)}{C:World→Prop}{pl:List (Nat×Bool)}{E:Nat}
  {t e sz bys:Nat} {z:Value} {x I J:Operand} {L:LN} {v:Value} {n:Nat} {cs:LV} {H:Array Obj} {k k':IntKind} {lo hi:Nat} [h:Sl P t e sz bys z]
  (U:QK ops E=⟨d,.slice t x (some I) (some J) none,ty,ps,af,gd⟩) (V:ZA L H v n sz cs) (hx:ev f x=v) (hl:ev f I=.int k lo) (Y:ev f J=.int k' hi) (h1:lo≤hi) (h2:hi≤n)
  (hK:∀v',ZA L H v' (hi - lo) sz ((cs.drop (lo*sz)).take ((hi - lo)*sz))→XP P ops C K pl (QV f d v') w)
  (hg:Yi ops f (QK ops E)=true:=by rfl):XP P ops C K ((E,true)::pl) f w:=by
 obtain ⟨v',h3,h4⟩:=Qe9 (P:=P) (d:=d) (ty:=ty) (ps:=ps) (af:=af) (gd:=gd) (t:=t) V hx hl Y h1 h2;exact Lg.p (λw'=>by rw[U];exact h4 w') (by rw[U];exact hK v' h3) hg
theorem QfW {es:List Ed}(hs:es.Pairwise λx y=>x.1≤y.1) (s:Nat):∀(m:Nat) (hm:m<es.length),(m:Int)<fS es s↔(es[m]'hm).1<(s:Int):=by
 unfold fS cnE;induction es with
 | nil=>intro m hm;simp at hm
 | cons e es ih =>
  intro m hm;simp only[List.pairwise_cons] at hs;have ih:=ih hs.2;simp only[List.filter_cons];by_cases h1:e.1<(s:Int)
  ·simp only[h1,decide_true,if_true,List.length_cons];cases m with
   | zero=>simp only[List.getElem_cons_zero];omega
   | succ m =>
    have:=ih m (by simpa using hm);simp only[List.getElem_cons_succ];rw[←this];omega
  have E:(es.filter λe=>decide (e.1<(s:Int)))=[]:=MI.2 (λd hd=>by have:=hs.1 d hd;simp;omega);simp only[h1,decide_false,Bool.false_eq_true,if_false,E,List.length_nil];cases m with
  | zero=>simp only[List.getElem_cons_zero];omega
  | succ m =>
   have hd:es[m]'(by simpa using hm)∈es:=Le _;have:=hs.1 _ hd;simp only[List.getElem_cons_succ];omega
theorem Qme (es:List Ed) (s:Nat):fS es s≤fS es (s+1):=by
 have h:=QfV es s;have:=(VX (λe:Ed=>decide (e.1+1=((s+1:Nat):Int))) es).1;unfold cN at h;omega
theorem Qk7 {es:List Ed}(hs:es.Pairwise λx y=>x.1≤y.1) (s lo hi:Nat) (h1:fS es s=(lo:Int)) (h2:fS es (s+1)=(hi:Int)):(es.drop lo).take (hi - lo)=ZE es s∧hi≤es.length∧lo≤hi:=by
 have hm:=Qme es s;have hl:=(VX (λe:Ed=>decide (e.1<((s+1:Nat):Int))) es).2;have E:hi≤es.length:=by unfold fS at h2;omega
 refine ⟨?_,E,by omega⟩;exact yq (λe:Ed=>decide (e.1=(s:Int))) es lo hi (by omega) E
  (λm hm H=>by have:=(QfW hs s m hm).1 (by omega);simp;omega)
  (λm hm h3 h4=>by
   have h5:¬(es[m]'hm).1<(s:Int):=λh=>by have:=(QfW hs s m hm).2 h;omega
   have h6:=(QfW hs (s+1) m hm).1 (by omega);simp;omega)
  (λm hm h3=>by
   have h6:¬(es[m]'hm).1<((s+1:Nat):Int):=λh=>by have:=(QfW hs (s+1) m hm).2 h;omega
   simp;omega)
theorem jX:∀(l:List Ed) (k:Nat),(l.flatMap QB).drop (k*3)=(l.drop k).flatMap QB
 | [],k=>by simp
 | e::l,0=>by simp
 | e::l,k+1=>by
  simp only[List.flatMap_cons,List.drop_succ_cons,Nat.add_mul,Nat.one_mul];rw[MP,←List.drop_drop,show (QB e++l.flatMap QB).drop 3=l.flatMap QB from rfl,jX l k]
theorem jW:∀(l:List Ed) (k:Nat),(l.flatMap QB).take (k*3)=(l.take k).flatMap QB
 | [],k=>by simp
 | e::l,0=>by simp
 | e::l,k+1=>by
  simp only[List.flatMap_cons,List.take_succ_cons,Nat.add_mul,Nat.one_mul];rw[MP,List.take_append,show (QB e).length=3 from rfl,show 3+k*3 - 3=k*3 by omega,jW l k,Ls (by rw[show (QB e).length=3 from rfl];omega)]
theorem QjI {w:World}{va vm ve vf:Value}{st s:Int} :
  QG prog 138 [.agg #[va,.int .i64 st,vm,ve,vf],.int .i64 s] w λr w'=>Step [] w w'∧∃b1 E,r=.func (.func 182) #[] #[.pointer (some ⟨b1,0,none⟩),.pointer (some ⟨E,0,none⟩)] ∧
   w.heap.size≤b1∧w.heap.size≤E∧QT w'.heap b1 171 [va,.int .i64 st,vm,ve,vf]∧QT w'.heap E 3 [.int .i64 s]:=by
 refine QG.of_W func138 Z ntmps138 results138 (by simp) ?_;refine Qc<|xl Z<|QR (us:=[va,.int .i64 st,vm,ve,vf]) Z λE w1 H J U=>xl Z<|QR (us:=[.int .i64 s]) Z λV w2 I ha Y=>Qf<|Qc<|x Zo<|Qf ?_;have hb:=H.size;exact Ql ⟨[_],Lb,H.trans I,E,V,Z,J,by omega,U.ext I,Y⟩
theorem Qej {L:LN}{w:World}{U V bF n s m:Nat}{va vm ve:Value}{a:QD}(h2:QT w.heap U 171 [va,.int .i64 a.st,vm,ve,.slice (some ⟨bF,0,none⟩) (n+1) (n+1)]) (h3:QT w.heap V 3 [.int .i64 s])
  (h4:QT w.heap bF 3 ((gA (n+1) (fS a.ed)).map (Value.int .i64))) (hE:zf L w.heap ve a.ed) (h5:a.ed.Pairwise λx y=>x.1≤y.1) (hs:s<n) (hn:n≤4096) :
  SeqStopsK (fen none) m prog 182 [.pointer (some ⟨U,0,none⟩),.pointer (some ⟨V,0,none⟩)].toArray (λx:{ e:Ed // e∈a.ed }=>#[.agg (QB x.1).toArray]) (Lw w.heap.size L)
   (λE=>E.map (·.1)=ZE a.ed s) (λ_=>True) (a.ed.length+1) w:=by
 intro l J Jx W h6 hJ h7 hY h0;have hb:Step [] w W:=Step.of_below h6;have ab:∀{E:List { e:Ed // e∈a.ed }} {W1 W2:World},J E W1→Step [] W1 W2→J E W2:=λ{E W1 W2} hj Y=>hJ E W1 W2 none hj ⟨Y.os,Y.tape,Y.output,Y.size,λk hk _=>Y.block k hk (by simp)⟩ (λr e=>by cases e);have hM:=VX (λe:Ed=>decide (e.1<(s:Int))) a.ed;have hN:=VX (λe:Ed=>decide (e.1<((s+1:Nat):Int))) a.ed
 obtain ⟨lo,ho⟩:∃lo:Nat,fS a.ed s=(lo:Int):=⟨(fS a.ed s).toNat,by unfold fS;omega⟩;obtain ⟨hi,hp⟩:∃hi:Nat,fS a.ed (s+1)=(hi:Int):=⟨(fS a.ed (s+1)).toNat,by unfold fS;omega⟩;obtain ⟨hq,h8,h9⟩:=Qk7 h5 s lo hi ho hp;have hO:=hE.le;have hA:(ZE a.ed s).length=hi - lo:=by rw[←hq,LD,Ms];omega
 have hB:∀e∈ZE a.ed s,e∈a.ed:=λe he=>(Yy he).1;have key:QG prog 182 [.func (.yield l) #[] #[],.pointer (some ⟨U,0,none⟩),.pointer (some ⟨V,0,none⟩)] W (λ_ W'=>(∃E,E.map (·.1)=ZE a.ed s∧J E W')∨(∃pre,True∧Jx pre W')):=by
  refine QG.of_G m func182 Z ntmps182 results182 (by simp) ?_;have hh:=h2.ext hb;have hr:=h3.ext hb;have ht:=h4.ext hb;refine Q0<|QbG (Step [] W) [(0,true),(1,true),(2,true),(3,true),(4,true),(5,true),(6,true),(7,true),(8,true),(9,true),(10,true),(11,true),(12,true),(13,true),(14,true),(15,true),(16,true)] mixed (by rfl) (by rfl) (by kernel_rfl) (Step.drew _ _) ?_
  refine p (λ_=>Qa Z)<|p (λ_=>Qa Z)<|pq (λ_ hc=>Qd (hh.ext hc) Z Z)<|p (λ_=>Qa Z)<|pq (λ_ hc=>Qd (hh.ext hc) Z Z)<|pq (λ_ hc=>Qd (hr.ext hc) Z Z) <|
   p (λ_=>QS (i:=s) Z Z (by omega))<|pq (λ_ hc=>Ug (i:=s) (ht.ext hc) Z (by omega))<|p (λ_=>Qa Z)<|pq (λ_ hc=>Qd (hh.ext hc) Z Z) <|
   pq (λ_ hc=>Qd (hr.ext hc) Z Z)<|p (λ_=>JL Z Z ⟨by omega,by omega⟩)<|p (λ_=>QS (i:=s+1) Z Z (by omega))<|pq (λ_ hc=>Ug (i:=s+1) (ht.ext hc) Z (by omega)) <|
   Qqq (lo:=lo) (hi:=hi) Z hE Z (congrArg (Value.int .i64) ho) (congrArg (Value.int .i64) hp) h9 h8 λhC hu=>p (λ_=>Qr hu Z)<|p (λ_=>Qm)<|pe ?_
  have hS:zf L w.heap hC (ZE a.ed s):=by
   unfold zf;rw[hA,←hq,←jW,←jX];exact hu
  have hv:Step [] W { W with drawn:=W.drawn+1 }:=Step.drew _ _
  refine ZU<|V3 (α:=Nat×List { e:Ed // e∈a.ed }) [(5,5),(22,30)] (λz=>[(22,.int .i64 z.1)]) (λz ds W'=>ds=[]∧z.1≤(ZE a.ed s).length∧Step L w W'∧z.2.map (·.1)=(ZE a.ed s).take z.1∧J z.2 W') (λz=>(ZE a.ed s).length - z.1) (by rfl) (0,[]) Lb
   ⟨Z,Ln _,(hb.trans hv).any,Z,ab h0 hv⟩ ?_
  rintro ⟨k,E⟩ g ds w1 ⟨rfl,hk,hw,ha,hl⟩;simp only[] at hk ha hl;refine Q0<|QI (by rfl) (by rfl) ?_;refine x (QA Z Z)<|xe<|Q0<|yR Z (λhm=>?_) (λhm=>?_)
  ·refine Ku ?_;have hD:(ZE a.ed s).length≤k:=by
    have hf:¬(k:Int)<((hi - lo:Nat):Int):=hm;omega
   rw[Ls hD] at ha;exact ⟨λ_ h=>(by cases h),MC,[],λW' H=>⟨La,.inl ⟨E,ha,ab hl H⟩⟩⟩
  refine Yn ?_;have I:k<(ZE a.ed s).length:=by
   have hf:(k:Int)<((hi - lo:Nat):Int):=hm;omega
  have hP:=J4 a.ed s;have hy:(ZE a.ed s).take (k+1)=(ZE a.ed s).take k++[(ZE a.ed s)[k]'I]:=Lj I;have hg:=hB _ (Le I);have hQ:E.length=k:=by have:=congrArg List.length ha;rw[Li,LD] at this;omega
  refine Zh ((ZE a.ed s)[k]'I) λe he=>?_;rw[he] at hy hg;refine Q0<|ZU<|Q0<|QI (by rfl) (by rfl) ?_;refine xie (i:=k) (hS.st hw) Z Z I λhR hf=>?_;rw[he] at hf;refine x (QJ hf Z Z)<|xl Z<|Qu (us:=[.int .i64 0,.int .i64 0,.int .i64 0]) Z λb5 w2 hF hG hH=>xl Z<|Qn (us:=QB e) hH Z Z Z Z ⟨Z,Z,Z,La⟩ λw3 hI hK=>xe ?_;have hz:Step [] w1 w3:=hF.then1 hI hG;refine Q0<|VB (by rfl) ?_
  refine JE.pre2 ?_;refine Qb<|x (Qp hK Z Z)<|xe<|xy (l:=l) Z (hY E ⟨e,hg⟩ w3 (ab hl hz) (by omega)) λen W3 hL=>Or.elim hL (λh1=>⟨.bool true,h1.1,?_⟩) (λh1=>⟨.bool false,h1.1,?_⟩)
  ·refine JE.of_XL<|x (Zs Z)<|xe<|VC Z<|Yn ?_;refine QI (by rfl) (by rfl) ?_;refine QQ Z Z<|Qb<|xe ?_;exact ⟨(k+1,E++[⟨e,hg⟩]),by simp only[];omega,Lb,Z,I,(hw.trans hz).lw h1.2.2,by rw[hy,Ly,ha];rfl,h1.2.1⟩
  refine JE.of_XL<|x (Zs Z)<|xe<|QbF Z ?_;refine Vl ⟨λ_ h=>(by cases h),MC,[],λW' H=>⟨La,.inr ⟨E++[⟨e,hg⟩],La,?_⟩⟩⟩;exact h7 _ W3 W' none h1.2 ⟨H.os,H.tape,H.output,H.size,λk hk _=>H.block k hk (by simp)⟩ (λr e=>by cases e)
 refine (callsIn_wide (n:=m)).2 ?_;have ea:(#[.func (.yield l) #[] #[]]++[.pointer (some ⟨U,0,none⟩),.pointer (some ⟨V,0,none⟩)].toArray:Array Value)=[.func (.yield l) #[] #[],.pointer (some ⟨U,0,none⟩),.pointer (some ⟨V,0,none⟩)].toArray:=by simp
 rw[ea];unfold QG at key;refine Calls.mono key λe w' he=>?_;cases e with
 | returned v=>exact ⟨⟨v,Z⟩,he⟩
 | panicked c=>exact he.elim
 | outgrown=>exact he.elim
def Par (n:Nat) (ed:List Ed):Prop:=∀j:Nat,0<j→j<n→∃e∈ed,e.2.2=(j:Int)∧e.1<(j:Int)
theorem QkN {aa:List QD}{i:Nat}{t:LI}{s E:Sy}{v:Int}(h:Par s.tup.length s.ed) (hi:i<s.tup.length) (e:syE aa i t s v=some E):Par E.tup.length E.ed∧i<E.tup.length:=by
 unfold syE at e;cases hs:Q5 v aa t with
 | none=>rw[hs] at e;cases e;exact ⟨h,hi⟩
 | some u =>
  rw[hs] at e;simp only[] at e;by_cases hu:u∈s.tup
  ·rw[if_pos hu] at e;cases e
   refine ⟨λj H hj=>?_,hi⟩;obtain ⟨d,hd,h1⟩:=h j H hj;exact ⟨d,Lz _ hd,h1⟩
  rw[if_neg hu] at e;split at e
  ·cases e
  cases e
  refine ⟨λj H hj=>?_,by simp;omega⟩;simp only[List.length_append,List.length_singleton] at hj;by_cases I:j=s.tup.length
  ·exact ⟨((i:Int),v,(s.tup.length:Int)),by simp,by rw[I],by simp only[];omega⟩
  obtain ⟨d,hd,h1⟩:=h j H (by omega);exact ⟨d,Lz _ hd,h1⟩
theorem QbV {aa:List QD}{i:Nat}{t:LI}:∀(vs:LI) (s E:Sy),Par s.tup.length s.ed→i<s.tup.length→KP aa i t vs s=some E→Par E.tup.length E.ed
 | [],s,E,h,_,e=>by cases e;exact h
 | v::vs,s,E,h,hi,e=>by
  rw[KP] at e;obtain ⟨H,h1,h2⟩:=L6.1 e;have:=QkN h hi h1;exact QbV vs H E this.1 this.2 h2
theorem QeT {aa:List QD}:∀(f i:Nat) (s E:Sy),Par s.tup.length s.ed→syL aa f i s=some E→Par E.tup.length E.ed
 | 0,i,s,E,h,e=>by cases e;exact h
 | f+1,i,s,E,h,e=>by
  rw[syL] at e;split at e
  ·rename_i hi;obtain ⟨H,h1,h2⟩:=L6.1 e;have ht:(ZB aa i (UT s i) s).tup=s.tup:=by unfold ZB;split <;> rfl
   have I:(ZB aa i (UT s i) s).ed=s.ed:=by unfold ZB;split <;> rfl
   refine QeT f (i+1) H E (QbV _ _ H (by rw[ht,I];exact h) (by rw[ht];exact hi) h1) h2
  cases e;exact h
theorem Qhx {aa:List QD}{A:QD}{Q:List (LI)}(h:sync aa=some (A,Q)):Par Q.length A.ed:=by
 unfold sync at h;split at h
 ·cases h;intro j _ hj;simp at hj
 obtain ⟨s,h1,h2⟩:=LP.1 h;cases h2
 exact QeT 4096 0 (qG aa) s (λj E hj=>by simp[qG] at hj;omega) h1
def stS (st:List Ed):LI:=st.map (·.1)
def gE (st:List Ed) (k:Nat):Ed:=st.getD k (0,-1,0)
theorem Qje {st:List Ed}{k:Nat}(h:k<st.length):st[k]'h=gE st k:=by simp[gE,List.getD,h]
theorem Qoe {st:List Ed}{k:Nat}(h:k<st.length):gE st k∈st:=by rw[←Qje h];exact Le h
def KG (pm:Ed→Bool) (i:Nat) (st:List Ed) (e:Ed):List Ed:=if e.2.2∉stS st∧pm e=true then st++[(e.2.2,(i:Int),e.2.1)] else st
def wrd (st:List Ed):Nat→Nat→LI
 | 0,_=>[]
 | f+1,k=>if 0≤(gE st k).2.1 then (gE st k).2.2::wrd st f (gE st k).2.1.toNat else []
def QgH (wt:Int→Bool) (pm:Ed→Bool) (es:List Ed):Nat→Nat→List Ed→LI×Bool
 | 0,_,_=>([],false)
 | f+1,i,st=>if i<st.length then (if wt (gE st i).1=true then ((wrd st (i+1) i).reverse,true) else QgH wt pm es f (i+1) ((ZE es (gE st i).1).foldl (KG pm i) st)) else ([],false)
def pth (wt:Int→Bool) (pm:Ed→Bool) (es:List Ed) (n from0:Nat):LI×Bool:=QgH wt pm es (n+1) 0 [((from0:Int),-1,-1)]
structure QeE (n:Nat) (st:List Ed):Prop where
 nd:(stS st).Nodup
 rg:∀x∈st,0≤x.1∧x.1<(n:Int)
 par:∀k,k<st.length→(gE st k).2.1=-1∨(0≤(gE st k).2.1∧(gE st k).2.1<(k:Int))
theorem QeE.le {n:Nat}{st:List Ed}(h:QeE n st):st.length≤n:=by
 have:=pig n (stS st) h.nd (λx hx=>by
  unfold stS at hx;obtain ⟨y,hy,rfl⟩:=Lq.1 hx;exact h.rg y hy)
 simpa[stS] using this
theorem Ql0 {st:List Ed}{x:Ed}{k:Nat}(h:k<st.length):gE (st++[x]) k=gE st k:=by
 unfold gE;simp[List.getD,List.getElem?_append_left h]
theorem Ql1 (st:List Ed) (x:Ed):gE (st++[x]) st.length=x:=by
 unfold gE;simp[List.getD]
theorem QmI {n i:Nat}{pm:Ed→Bool}{st:List Ed}{e:Ed}(h:QeE n st) (hi:i<st.length) (he:0≤e.2.2∧e.2.2<(n:Int)):QeE n (KG pm i st e)∧i<(KG pm i st e).length:=by
 unfold KG;split
 ·rename_i hc;refine ⟨⟨?_,λx hx=>?_,λk hk=>?_⟩,by simp;omega⟩
  ·unfold stS at hc ⊢;rw[Ly];exact Ki h.nd hc.1
  ·simp only[List.mem_append,List.mem_singleton] at hx;rcases hx with hx | rfl
   ·exact h.rg x hx
   exact he
  by_cases E:k<st.length
  ·rw[Ql0 E];exact h.par k E
  have:k=st.length:=by simp at hk;omega
  subst this;rw[Ql1];simp only[];omega
 exact ⟨h,hi⟩
theorem QnF {n from0:Nat}(h:from0<n):QeE n [((from0:Int),-1,-1)]:=by
 refine ⟨by simp[stS],λx hx=>?_,λk hk=>?_⟩
 ·simp at hx;subst hx;simp only[];omega
 simp at hk;subst hk;exact .inl Z
theorem QgG {wt:Int→Bool}{pm:Ed→Bool}{es:List Ed}{f i:Nat}{st:List Ed}(h:¬i<st.length):QgH wt pm es f i st=([],false):=by
 cases f with
 | zero=>rfl
 | succ f=>rw[QgH,if_neg h]
abbrev Lf:=List Bool
def lft (l:Lf) (s:Int):Bool:=l.getD s.toNat false
def cut (l:Lf) (s:Int):Lf:=l.set s.toNat false
def Jf (ul:LI) (lf:Lf) (out:List (Int×Int)) (e:Ed):List (Int×Int) :=
 if lft lf e.1=false∨lft lf e.2.2=true∨e.2.1∉ul then out else if out.getLast?.map (·.1)=some e.1 then out else out++[(e.1,e.2.1)]
def lost (a:QD) (ul:LI) (lf:Lf):List (Int×Int):=a.ed.foldl (Jf ul lf) []
def Va (lf:Lf) (x:Int) (z:LI×LI) (y:Int):LI×LI:=if lft lf y=true∧cget z.1 y.toNat<0 then (z.1.set y.toNat (cget z.1 x.toNat+1),z.2++[y]) else z
def q7 (es:List Ed) (lf:Lf):Nat→Nat→LI×LI→LI×LI
 | 0,_,z=>z
 | f+1,i,z=>if i<z.2.length then q7 es lf f (i+1) ((Zz es (cget z.2 i).toNat).foldl (Va lf (cget z.2 i)) z) else z
def ds1 (lf:Lf) (z:LI×LI) (x:Int):LI×LI:=if lft lf x=true then (z.1.set x.toNat 0,z.2++[x]) else z
def j6 (a:QD) (lf:Lf):LI×LI:=a.mr.foldl (ds1 lf) (List.replicate a.st.toNat (-1),[])
def dsts (a:QD) (lf:Lf):LI:=(q7 a.ed lf a.st.toNat 0 (j6 a lf)).1
def Jz (lf:Lf):Nat→LI→LI
 | _,[]=>[]
 | i,d::l=>if lf.getD i false=true∧d<0 then (i:Int)::Jz lf (i+1) l else Jz lf (i+1) l
def nxs (a:QD) (ul:LI) (lf:Lf):LI:=if (lost a ul lf).length≠0 then (lost a ul lf).map (·.1) else Jz lf 0 (dsts a lf)
def KD (a:QD) (ul:LI):Nat→Lf→Lf
 | 0,lf=>lf
 | f+1,lf=>if (nxs a ul lf).length=0 then lf else KD a ul f ((nxs a ul lf).foldl cut lf)
def lf0 (n:Nat) (fb:LI):Lf:=fb.foldl cut (List.replicate n true)
def YG (a:QD) (fb ul:LI):Lf:=KD a ul (a.st.toNat+1) (lf0 a.st.toNat fb)
def rstr (a:QD) (lf:Lf):QD:=⟨a.al,a.st,a.mr,a.ed.filter λe=>lft lf e.2.2⟩
def Ja (a:QD) (lf:Lf):QD:=if a.st=0∨lft lf 0=false then ⟨a.al,0,[],[]⟩ else ZJ (rstr a lf)
def Ub (a:QD) (fb ul:LI):Int:=if XM a≠0 then XM a else if YV a.st none fb≠0 then YV a.st none fb else YV 32 none ul
def X8 (a:QD) (fb ul:LI):QD:=Ja a (YG a fb ul)
def fbs (s:Spc):LI:=s.fb.map (·.st)
def suE (c:Q4):Int:=Xh c
def Jp (c:Q4):QD:=X8 (spc c).a (fbs (spc c)) (unc c.ev)
def orB (b:Nat) (k:Nat):Nat:=b ||| (1 <<< k)
def rqB (x:Yo):Nat→Nat→List Yo→Nat
 | _,b,[]=>b
 | k,b,y::l=>rqB x (k+1) (if (y.a.al.any λe=>decide (e∈x.a.al))=true then orB b k else b) l
def jd (ls:List (Int×Int)):Nat:=ls.foldl (λb l=>orB b l.1.toNat) 0
def srR (c:Q4):LN:=c.rq.map λx=>rqB x 0 0 c.co
def srX (c:Q4):LN:=c.ex.map λx=>jd x.ls
def srC (c:Q4):LN:=c.cs.map λx=>jd x.ts
def srK (c:Q4) (k:Int):LN:=if k=1 then srR c else if k=2 then srX c else srC c
structure YZ where
 kd:Int
 ix:Int
 co:LI
def JB (k:Int):Nat→LN→List YZ
 | _,[]=>[]
 | i,b::l=>⟨k,i,setK b 8⟩::JB k (i+1) l
def mods (c:Q4):List YZ:=JB 1 0 (srR c)++(JB 2 0 (srX c)++JB 3 0 (srC c))
def sets (c:Q4):LN:=srR c++(srX c++srC c)
def QaL (c:Q4):Nat:=(sets c).foldl (λl b=>l &&& (65535 ^^^ b)) (2 ^ c.co.length - 1)
def rem (c:Q4):LI:=setK (QaL c) 8
def mdE (c:Q4) (m:YZ):Int:=if Zf c≠0 then Zf c else if m.kd<1∨3<m.kd then 11 else if m.ix<0∨((srK c m.kd).length:Int)≤m.ix then 10 else if m.co=setK ((srK c m.kd).getD m.ix.toNat 0) 8 then 0 else 13
structure Prt where
 co:LI
 rq:LI
 ex:LI
 cs:LI
def chs (l:List Yo) (ix:LI):List Yo:=ix.map λi=>l.getD i.toNat ⟨.empty,⟨[],0,[],[]⟩⟩
def ixP (co:LI) (ls:List (Int×Int)):List (Int×Int):=ls.map λl=>((co.idxOf l.1:Int),l.2)
def mis (co:LI) (ls:List (Int×Int)):Bool:=ls.any λl=>decide (l.1∉co)
def Qk4 (c:Q4) (p:Prt):List Exc:=p.ex.map λi=>⟨(c.ex.getD i.toNat ⟨.empty,[]⟩).nm,ixP p.co (c.ex.getD i.toNat ⟨.empty,[]⟩).ls⟩
def Qk6 (c:Q4) (p:Prt):List JF:=p.cs.map λi=>⟨(c.cs.getD i.toNat ⟨.empty,[],0⟩).nm,ixP p.co (c.cs.getD i.toNat ⟨.empty,[],0⟩).ts,(c.cs.getD i.toNat ⟨.empty,[],0⟩).bd⟩
def Qgx (c:Q4) (p:Prt):Q4:=⟨c.ev,chs c.co p.co,chs c.rq p.rq,Qk4 c p,Qk6 c p⟩
def Qh0 (c:Q4) (p:Prt):Bool:=(p.ex.any λi=>mis p.co (c.ex.getD i.toNat ⟨.empty,[]⟩).ls) || (p.cs.any λi=>mis p.co (c.cs.getD i.toNat ⟨.empty,[],0⟩).ts)
def zr (c:Q4) (p:Prt):Int :=
 if Zf c≠0 then Zf c else if YV c.co.length none p.co≠0 then YV c.co.length none p.co else if YV c.rq.length none p.rq≠0 then YV c.rq.length none p.rq else
 if YV c.ex.length none p.ex≠0 then YV c.ex.length none p.ex else if YV c.cs.length none p.cs≠0 then YV c.cs.length none p.cs else if Qh0 c p=true then 13 else Zf (Qgx c p)
def prt (m:YZ):Prt:=⟨m.co,if m.kd=1 then [m.ix] else [],if m.kd=2 then [m.ix] else [],if m.kd≠1∧m.kd≠2 then [m.ix] else []⟩
def mcE (c:Q4) (m:YZ):Int:=if mdE c m≠0 then mdE c m else zr c (prt m)
def Yb (c:Q4) (m:YZ):Q4:=Qgx c (prt m)
def yX (c:Q4) (m:YZ):Int:=if mcE c m≠0 then mcE c m else suE (Yb c m)
def U8 (c:Q4) (m:YZ):QD:=Jp (Yb c m)
def msL (c:Q4):List YZ→Int
 | []=>0
 | m::l=>if yX c m≠0 then yX c m else msL c l
def KC (c:Q4):Int:=if Zf c≠0 then Zf c else msL c (mods c)
def ZD (c:Q4):List QD:=(mods c).map (U8 c)++(rem c).map λi=>(c.co.getD i.toNat ⟨.empty,⟨[],0,[],[]⟩⟩).a
def X9 (l:List QD):Int:=if JP l≠0 then JP l else match sync l with | none=>3 | some _=>0
def X2 (c:Q4):Int:=if KC c≠0 then KC c else X9 (ZD c)
def ZT (c:Q4):QD:=UX (ZD c)
def Y5 (c:Q4):List (LI):=XG (ZD c)
def ownr (c:Q4) (v:Int):LI:=ixs (λx:Yo=>decide (v∈x.a.al)) 0 c.co
def shd (c:Q4):LI→Option (Int×Int×Int)
 | []=>none
 | v::l=>if 2≤(ownr c v).length then some (v,cget (ownr c v) 0,cget (ownr c v) 1) else shd c l
def U0 (c:Q4):Option (Int×Int×Int):=shd c (KJ c.ev.length)
end Go.Proofs.YtjcgijbhaemldaaGreatDoor
