/- Merged out of 41 texts. -/
import Derived.Test.YtdffckgdcegpaaaGreatDoorKod
import Derived.ChangeSame
import Derived.Carry
import Derived.OpenShut
import Derived.RowKit
import Derived.ChangeSlices
import Derived.WideShapes
import Derived.ProofKit
import Derived.ChangeArms
import Derived.Lib.LaidTab
import Derived.Stop.LaidErr
import Derived.MakeChecks
import Derived.Test.YtdffckgdcegpaaaGreatDoorRows
import Derived.JoinedOf
import Derived.Test.YtdffckgdcegpaaaGreatDoorCards
import Derived.SevenTiedAt
namespace Go.Proofs.YtdffckgdcegpaaaGreatDoor
open Go.Proofs.Tryz
open Go.Lg
theorem qb {l r:LI}{i:Nat}(h:i<l.length):cget (l++r) i=cget l i:=by
 unfold cget;simp[List.getD,List.getElem?_append_left h]
set_option maxHeartbeats 4000000 in
theorem Vh {w:World}{bp:Nat}{q:Pz}{lf:Lf}(hA:yL [] w.heap bp q) (hq:PzQ q) (hB:QZ w.heap q.bl 4 (lf.map Value.bool)) (hl:lf.length=q.n) :
  QK prog 217 [.pointer (some ⟨bp,0,none⟩)] w λr w'=>Step [] w w'∧∃b,r=.slice (some ⟨b,0,none⟩) q.n q.n∧w.heap.size≤b∧QZ w'.heap b 3 ((dsts q.a lf).map (Value.int .i64))∧(dsts q.a lf).length=q.n:=by
 have hn:=hq.n;have kp:=hq.ok.st1;have gb:=hq.ok.mr;have kq:=hq.ok.mr_le;have kr:=hq.ok.ed_le;have hL:q.a.st.toNat=q.n:=by omega
 have gs:=QjJ (lf:=lf) hq.ok hn;have gc:(dsL q.a.ed lf q.n 0 (ds0 q.a lf)).1=dsts q.a lf:=by unfold dsts;rw[hL]
 refine Zd (dsts q.a lf) λDD gt=>?_;rw[gt] at gc ⊢;refine QK.of_W func217 O ntmps217 results217 (by simp) ?_;refine Qc<|Qe<|Qc<|Qb<|x (QF O)<|x (Qa O)<|x (Qa O)<|x (Qd hA.B O O)<|xl O<|VC (n:=q.n) (congrArg (Value.int .i64) hn) (congrArg (Value.int .i64) hn) (by omega) λbO w1 ge h9 hM=>Qe ?_;rw[Qc4] at hM
 refine Qf<|Qc<|Qb<|x (Qs (L:=[]) (hM.arr (by simp) (n:=q.n) (cap:=q.n) (sz:=1) (by simp[gA]) (by omega) (Lr _)) rfl)<|Qb<|xe<|Qh<|QB (α:=Nat) [(4,4),(19,25)] (λz=>[(19,.int .i64 z)]) (λz w'=>z≤q.n∧Step [] w w'∧QZ w'.heap bO 3 ((gA q.n (λj=>if j<z then -1 else 0)).map (Value.int .i64))) (λz=>q.n - z) (by rfl) 0 Z ⟨Lk _,ge,hM⟩ ?_
 rintro j g G ⟨hj,hh,hw⟩;refine Qc<|x (QA O O)<|xe<|Qf<|QG O (λhN=>?_) (λhN=>?_)
 ·refine Qz ?_;have hO:j=q.n:=by have gu:¬(j:Int)<(q.n:Int):=hN;omega
  have gv:gA q.n (λi=>if i<j then -1 else 0)=((q.a.mr.take 0).foldl (yJ lf) (List.replicate q.n (-1),[])).1:=by
   apply L4
   ·simp[gA]
   intro i h1 h2;have:i<q.n:=by simpa[gA] using h1
   simp[gA];omega
  rw[gv] at hw;refine Qc<|Qe<|Qf<|Qc<|Qb<|x (QF O)<|x (Qa O)<|x (Qa O)<|x (Qd (hA.ext hh).B O O)<|x (Qs (hA.ext hh).a.mr O)<|Qb<|xe<|Qh<|QB (α:=Nat×Value) [(5,5),(7,7),(32,50)] (λz=>[(5,z.2),(32,.int .i64 z.1)]) (λz w'=>z.1≤q.a.mr.length∧Step [] w w'∧G.heap.size≤w'.heap.size∧QZ w'.heap bO 3 (((q.a.mr.take z.1).foldl (yJ lf) (List.replicate q.n (-1),[])).1.map (Value.int .i64)) ∧
   Qu 3 G.heap.size w' z.2 ((q.a.mr.take z.1).foldl (yJ lf) (List.replicate q.n (-1),[])).2) (λz=>q.a.mr.length - z.1) (by rfl) (0,nS) ⟨O,O,U⟩ ⟨Lk _,hh,Lr _,hw,QN _ _ _ _⟩ ?_
  rintro ⟨k,vl⟩ g w3 ⟨hk,h0,gg,Y,ha⟩;simp only[] at hk Y ha;have gh:=jM (lf:=lf) (λx hx=>(gb x hx).1) k;rw[hL] at gh;have kt:=Y.lt;refine Qc<|x (QA O O)<|xe<|Qf<|QG O (λhP=>?_) (λhP=>?_)
  ·refine Qz ?_;have gw:q.a.mr.length≤k:=by have hC:¬(k:Int)<(q.a.mr.length:Int):=hP;omega
   have e0:(q.a.mr.take k).foldl (yJ lf) (List.replicate q.n (-1),[])=ds0 q.a lf:=by rw[Lm gw];unfold ds0;rw[hL]
   rw[e0] at Y ha;have gx:bO<G.heap.size:=hw.lt;refine Qf<|Qc<|Qe<|Qh<|QB (α:=Nat×Nat×Value×LI×LI) [(5,5),(8,8),(10,10),(51,100)] (λz=>[(5,z.2.2.1),(8,.int .i64 z.2.1)])
    (λz w'=>Step [] w w'∧G.heap.size≤w'.heap.size∧QZ w'.heap bO 3 (z.2.2.2.1.map (Value.int .i64))∧Qu 3 G.heap.size w' z.2.2.1 z.2.2.2.2∧DsI q.n z.2.2.2∧z.1+z.2.1=q.n∧(dsL q.a.ed lf z.1 z.2.1 z.2.2.2).1=DD) (λz=>q.n - z.2.1) (by rfl) (q.n,0,vl,(ds0 q.a lf).1,(ds0 q.a lf).2) ⟨O,O,U⟩
    ⟨h0,gg,Y,ha,gs,O,gc⟩ ?_
   rintro ⟨f,i,vl,o,l⟩ g w4 ⟨hf,hQ,h3,J,ho,gy,S⟩;simp only[] at hQ h3 J ho gy S;have gz:=ho.le;have gi:=ho.ok.len;simp only[] at gz gi;have hD:=hA.ext hf;refine Qf<|Qc<|Qb<|Qb<|x (Qs (L:=[]) (QT J (by omega) (by simp)) rfl)<|x (QA rfl rfl)<|xe<|QG O (λhR=>?_) (λhR=>?_)
   ·refine Qz ?_;have g0:¬i<l.length:=by have g2:¬(i:Int)<(l.length:Int):=hR;omega
    rw[QfQ g0] at S;simp only[] at S;subst S;refine Qc<|Qb<|Qe ?_;exact Qn ⟨[.slice (some ⟨bO,0,none⟩) q.n q.n],Z,hf,bO,O,h9,h3,gi⟩
   refine Qi ?_;have hp:i<l.length:=by have g2:(i:Int)<(l.length:Int):=hR;omega
   refine Exists.elim (Nat.exists_eq_succ_of_ne_zero (show f≠0 by omega)) λf' g3=>?_;subst g3;rw[dsL,if_pos hp] at S;have gj:=Zi hp;have hsr:=ho.ok.q _ (Jb hp);have hS:=ho.s0 _ (Jb hp);refine Zd (cget l i) λs hs=>?_;rw[hs] at S hsr gj;simp only[] at hsr hS;rw[hs] at hS;have gk:s=(s.toNat:Int):=by omega
   have gl:=hD.g s.toNat (by omega);rw[←gk] at gl;have g4:=hD.R s.toNat (by omega);have ku:=VG q.a.ed s.toNat;refine Qf<|Qh<|Qf<|QW (Step [] w4) [(0,true),(1,true),(2,true),(3,true),(4,true),(5,true),(6,true),(7,true),(8,true),(9,true),(10,true)] mixed (by rfl) (by kernel_rfl) (Step.drew _ _) ?_
   refine p (λ_=>Qo)<|p (λ_=>QF O)<|p (λ_=>Qa O)<|pq (λ_ hc=>Qd (hD.B.ext hc) O O)<|p (λ_=>Qo)<|p (λ_=>Qo) <|
    pii (i:=i) O (QT (L:=[]) J (by omega) (by simp)) rfl rfl hp λkv gm=>?_
   rw[gj] at gm;refine pq (λ_ hc=>Qx (gm.ext hc) O)<|pq (λ_ hc=>(X0 (k:=s) (hD.M.ext hc) O O).trans (congrArg (λv=>Result.ok (Next.value v) _) gl))<|p (λ_=>Qs g4 O)<|p (λ_=>Qo)<|pe ?_;have hF:Step [] w4 { w4 with drawn:=w4.drawn+1 }:=Step.drew _ _
   refine Qh<|QB (α:=Nat×Value×LI×LI) [(5,5),(10,10),(67,100)] (λz=>[(5,z.2.1),(67,.int .i64 z.1)])
    (λz w'=>z.1≤(Yo q.a.ed s.toNat).length∧Step [] w w'∧G.heap.size≤w'.heap.size∧QZ w'.heap bO 3 (z.2.2.1.map (Value.int .i64))∧Qu 3 G.heap.size w' z.2.1 z.2.2.2∧DsI q.n z.2.2∧0≤cget z.2.2.1 s.toNat∧i<z.2.2.2.length∧cget z.2.2.2 i=s ∧
     ((Yo q.a.ed s.toNat).drop z.1).foldl (dsE lf s) z.2.2=(Yo q.a.ed s.toNat).foldl (dsE lf s) (o,l)) (λz=>(Yo q.a.ed s.toNat).length - z.1) (by rfl) (0,vl,o,l) ⟨O,O,U⟩
    ⟨Lk _,hf.trans hF,LR hQ hF.size,h3.ext hF,Qq J hF,ho,hS,hp,hs,O⟩ ?_
   rintro ⟨m,hG,o2,l2⟩ g w5 ⟨hm,E,hH,hr,ht,hg,hT,h4,hI,H⟩;simp only[] at hm hH hr ht hg hT h4 hI H;have gn:=hA.ext E;have g5:=hg.le;have g6:=hg.ok.len;simp only[] at g5 g6;refine Qc<|x (QA O O)<|xe<|Qf<|QG O (λhU=>?_) (λhU=>?_)
   ·refine Qz ?_;have g7:(Yo q.a.ed s.toNat).length≤m:=by have hJ:¬(m:Int)<((Yo q.a.ed s.toNat).length:Int):=hU;omega
    rw[Lq g7] at H;simp only[List.foldl_nil] at H;rw[←H] at S;refine Qy<|Qb<|QP O O<|Qe ?_;exact ⟨(f',i+1,hG,o2,l2),by simp only[];omega,⟨O,O,U⟩,E,hH,hr,ht,hg,by simp only[];omega,S⟩
   refine Qi ?_;have hu:m<(Yo q.a.ed s.toNat).length:=by have hJ:(m:Int)<((Yo q.a.ed s.toNat).length:Int):=hU;omega
   have go:=Qc5 (Li hu);have g8:=QY hu;rw[g8,LJ] at H;refine Zd ((Yo q.a.ed s.toNat)[m]'hu) λy hy=>?_;rw[hy] at go H;have g9:0≤y∧y<(q.n:Int):=by
    obtain ⟨e,he,h1,_⟩:=go;have:=hq.ok.ed e he;omega
   have hv:y=(y.toNat:Int):=by omega
   have h5:y.toNat<o2.length:=by omega
   have hV:s.toNat<o2.length:=by omega
   have ka:=hg.ok.le _ (Jb hV);simp only[] at ka;have hE:=QfR (lf:=lf) hg hsr hT g9;have hW:=VF (l:=lf) (s:=y) (by omega);have kw:=QeR o2;refine Qf<|Qh<|Qc<|xii (i:=m) ((gn.R s.toNat (by omega))) O O hu λkx hJ=>?_;rw[hy] at hJ;refine x (Qx hJ O)<|Qe<|QU (α:=Bool) [(71,84)] (λz=>[(84,.bool z)]) (λz w'=>w'=w5∧z=(lft lf y && decide (cget o2 y.toNat<0))) (by rfl) ?_ ?_
   ·refine Qy ?_;have ky:∀{P:Prop},(∀b,lft lf y=b→P)→P:=λh=>h _ O;refine Qb<|x (QF O)<|x (Qa O)<|x (Qd gn.B O O)<|Qb<|x (Zh (i:=y.toNat) O (congrArg (Value.int .i64) hv) (by omega))<|x (XJ (i:=y.toNat) (hB.ext E) O (by omega))<|?_;rw[hW];cases lft lf y with
    | true =>
     refine Qb<|Qb<|Qb<|x (Zh (i:=y.toNat) O (congrArg (Value.int .i64) hv) (by omega))<|x (Uj (i:=y.toNat) hr O h5)<|x (QA O O)<|x (Qm O)<|xe ?_;exact ⟨_,Z,O,by rw[Zi h5];rfl⟩
    | false =>
     refine Qb<|xs O<|xs O<|xs O<|xs O<|xs O<|x (Qm O)<|xe ?_;exact ⟨_,Z,O,O⟩
   rintro z g kz ⟨rfl,rfl⟩;refine Q3 O (λh6=>?_) (λh6=>?_)
   ·rw[Lu,decide_eq_true_eq] at h6;have hX:dsE lf s (o2,l2) y=(o2.set y.toNat (cget o2 s.toNat+1),l2++[y]):=by unfold dsE;rw[if_pos h6]
    rw[hX] at H hE;have kb:=Zi hV;have gp:=Zi h4;rw[hI] at gp;refine Qc<|Qb<|Qb<|Qb<|Qb<|Qb<|xii (i:=i) (QT (L:=[]) ht (by omega) (by simp)) rfl rfl h4 λk0 gq=>?_;rw[gp] at gq;refine x (Qx gq O)<|x (Zh (i:=s.toNat) O (congrArg (Value.int .i64) gk) (by omega))<|x (Uj (i:=s.toNat) hr O hV)<|x (X2 O O ⟨by omega,by omega⟩) <|
     x (Zh (i:=y.toNat) O (congrArg (Value.int .i64) hv) (by omega))<|xl O<|X4 (i:=y.toNat) hr O O h5 λw6 I hK=>xe ?_
    rw[kb] at hK;have kc:=I.size;have ke:∀b∈ob hG,b∉[bO]:=λb hb=>by have:=Qk ht b hb;simp only[List.mem_singleton];omega
    have h7:Qu 3 G.heap.size w6 hG l2:=Qj ht I ke;have kf:Step [] w w6:=E.then1 I h9;refine Qy<|Qb<|Qb<|xl O<|QC (us:=[[.int .i64 y]]) O O (by decide) (by simp) ⟨rfl,rfl,U⟩ λk4 w7 h8 k5 kg=>xl rfl<|Q2 (m:=1) (news:=[.int .i64 y]) (Qq h7 h8) rfl rfl rfl (kg.at (L:=[]) (by simp)) (by simp[Value.oneCell']) (by omega) (by have:=h8.size;omega) λhY w8 kh hZ k6 =>
     Qe ?_
    have k7:=h8.size;have k8:=hZ.size;refine Qy<|QP O O<|Qb<|xe<|⟨(m+1,hY,_,l2++[y]),by simp only[];omega,⟨O,O,U⟩,hu,(kf.trans h8).then hZ (λb hb=>.inr (by have:=Qk h7 b hb;have:=ge.size;have:=hh.size;omega)),by omega,(hK.ext h8).step hZ (λhb=>by have:=Qk h7 _ hb;omega),Qu.snoc kh,hE.1,hE.2,by simp only[List.length_append];omega,by rw[qb h4];exact hI,H⟩
   have hX:dsE lf s (o2,l2) y=(o2,l2):=by
    unfold dsE;rw[if_neg];intro hc;rw[hc.1,decide_eq_true hc.2] at h6;cases h6
   rw[hX] at H;refine Qi<|Qy<|QP O O<|Qb<|xe ?_;exact ⟨(m+1,hG,o2,l2),by simp only[];omega,⟨O,O,U⟩,hu,E,hH,hr,ht,hg,hT,h4,hI,H⟩
  refine Qi ?_;have T:k<q.a.mr.length:=by have hC:(k:Int)<(q.a.mr.length:Int):=hP;omega
  have ki:=gb _ (Li T);have kj:q.a.mr.take (k+1)=q.a.mr.take k++[q.a.mr[k]'T]:=Le T;have V:(q.a.mr.take (k+1)).foldl (yJ lf) (List.replicate q.n (-1),[])=yJ lf ((q.a.mr.take k).foldl (yJ lf) (List.replicate q.n (-1),[])) (q.a.mr[k]'T):=by rw[kj,Mk];rfl
  have kk:((q.a.mr.take k).foldl (yJ lf) (List.replicate q.n (-1),[])).1.length=q.n∧((q.a.mr.take k).foldl (yJ lf) (List.replicate q.n (-1),[])).2.length≤q.a.mr.length:=by
   rw[gh];exact ⟨Vl _ _,LR (Mb _ _) (by rw[Lv];omega)⟩
  refine Zd ((q.a.mr.take k).foldl (yJ lf) (List.replicate q.n (-1),[])) λz hz=>?_;rw[hz] at Y ha V kk;refine Zd (q.a.mr[k]'T) λy hy=>?_;rw[hy] at ki V;have hv:y=(y.toNat:Int):=by omega
  have h5:y.toNat<z.1.length:=by omega
  have hW:=VF (l:=lf) (s:=y) (by omega);have gr:=hA.ext h0;refine Qf<|Qh<|Qc<|xii (i:=k) gr.a.mr O O T λk9 hC=>?_;rw[hy] at hC;refine x (Qx hC O)<|Qe<|Qc<|Qb<|x (QF O)<|x (Qa O)<|x (Qd gr.B O O)<|Qb<|x (Zh (i:=y.toNat) O (congrArg (Value.int .i64) hv) (by omega))<|x (XJ (i:=y.toNat) (hB.ext h0) O (by omega))<|xe ?_;rw[hW];refine Q3 O (λga=>?_) (λga=>?_)
  ·have e1:yJ lf z y=(z.1.set y.toNat 0,z.2++[y]):=by unfold yJ;rw[if_pos ga]
   rw[e1] at V;refine Qc<|Qb<|Qb<|x (Zh (i:=y.toNat) O (congrArg (Value.int .i64) hv) (by omega))<|xl O<|X4 (i:=y.toNat) Y O O h5 λw4 hf h3=>xe ?_;have hQ:=hf.size;have gx:bO<G.heap.size:=hw.lt;have J:Qu 3 G.heap.size w4 vl z.2:=Qj ha hf (λb hb=>by have:=Qk ha b hb;simp only[List.mem_singleton];omega)
   refine Qy<|Qb<|Qb<|xl O<|QC (us:=[[.int .i64 y]]) O O (by decide) (by simp) ⟨rfl,rfl,U⟩ λma w5 E mc kn=>xl rfl<|Q2 (m:=1) (news:=[.int .i64 y]) (Qq J E) rfl rfl rfl (kn.at (L:=[]) (by simp)) (by simp[Value.oneCell']) (by omega) (by have:=E.size;omega) λhY w6 h7 I mf =>
    Qe ?_
   have hH:=E.size;have kc:=I.size;refine Qy<|QP O O<|Qb<|xe<|⟨(k+1,hY),by simp only[];omega,⟨O,O,U⟩,T,((h0.then1 hf h9).trans E).then I (λb hb=>.inr (by have:=Qk J b hb;have:=hh.size;omega)),by omega,?_,?_⟩
   ·simp only[];rw[V];exact (h3.ext E).step I (λhb=>by have:=Qk J _ hb;omega)
   simp only[];rw[V];exact Qu.snoc h7
  have e1:yJ lf z y=z:=by unfold yJ;rw[if_neg (by rw[ga];decide)]
  rw[e1] at V;refine Qi<|Qy<|QP O O<|Qb<|xe ?_;exact ⟨(k+1,vl),by simp only[];omega,⟨O,O,U⟩,T,h0,gg,by simp only[];rw[V];exact Y,by simp only[];rw[V];exact ha⟩
 refine Qi ?_;have hO:j<q.n:=by have gu:(j:Int)<(q.n:Int):=hN;omega
 refine Qf<|Qh<|Qc<|Qb<|Qe<|Qy ?_;have ko:(gA q.n (λi=>if i<j then -1 else 0)).set j (-1)=gA q.n (λi=>if i<j+1 then -1 else 0):=Qjz (by rw[if_pos (by omega)]) (λi _ hi=>by
  by_cases e:i<j
  ·rw[if_pos e,if_pos (by omega)]
  rw[if_neg e,if_neg (by omega)])
 refine Qb<|Qb<|x (Zh (i:=j) O O (by omega))<|xl O<|QeF (i:=j) hw O O hO ko λw6 I hK=>xe ?_;refine Qy<|QP O O<|Qb<|xe ?_;exact ⟨j+1,by omega,Z,hO,hh.then1 I h9,hK⟩
abbrev jb (rk rs:Int) (x:Int×Int):LV:=[.int .i64 x.1,.int .i64 rk,.int .i64 rs,.int .i64 x.2]
theorem Qbz (rk rs:Int) (x:Int×Int):(jb rk rs x).length=4:=rfl
abbrev RmO (base:Nat) (w:World) (v:Value) (rk rs:Int) (l:List (Int×Int)):Prop:=w.ownsRow base 320 4 v l.length (l.flatMap (jb rk rs))
theorem RmO.snoc {base:Nat}{w:World}{v:Value}{rk rs:Int}{l:List (Int×Int)}{x:Int×Int}(h:w.ownsRow base 320 4 v (l.length+1) (l.flatMap (jb rk rs)++jb rk rs x)):RmO base w v rk rs (l++[x]):=by
 unfold RmO;rw[Lh,Ly];simpa using h
theorem Qe1 {a:QQ}{ul:LI}{lf:Lf}{k:Nat}(h:k<a.ed.length):(a.ed.take (k+1)).foldl (JL ul lf) []=JL ul lf ((a.ed.take k).foldl (JL ul lf) []) (a.ed[k]'h):=by
 rw[Le h,Mk];rfl
set_option maxHeartbeats 4000000 in
theorem QeC {w:World}{bp:Nat}{q:Pz}{lf:Lf}(S:yL [] w.heap bp q) (hq:PzQ q) (hB:QZ w.heap q.bl 4 (lf.map Value.bool)) (hl:lf.length=q.n) (rk:Int) :
  QK prog 264 [.pointer (some ⟨bp,0,none⟩),.int .i64 rk] w λr w'=>Step [] w w'∧RmO w.heap.size w' r rk 2 (lost q.a q.unc lf):=by
 have hn:=hq.n;have hS:=hq.ok.st1;have hT:=hq.ok.ed_le;refine QK.of_W func264 O ntmps264 results264 (by simp) ?_;refine Qc<|Qe<|Qc<|Qe<|Qf<|Qc<|Qb<|x (QF O)<|x (Qa O)<|x (Qa O)<|x (Qd S.B O O)<|x (Qs S.a.ed O)<|Qb<|xe ?_
 refine Qh<|QB (α:=Nat×Value) [(5,5),(7,8),(15,72)] (λz=>[(5,z.2),(15,.int .i64 z.1)]) (λz w'=>z.1≤q.a.ed.length∧Step [] w w'∧RmO w.heap.size w' z.2 rk 2 ((q.a.ed.take z.1).foldl (JL q.unc lf) [])) (λz=>q.a.ed.length - z.1) (by rfl) (0,nS) ⟨O,O,U⟩ ⟨Lk _,Step.refl _ _,QN _ _ _ _⟩ ?_;rintro ⟨k,vo⟩ g w1 ⟨hk,hg,I⟩;simp only[] at hk I
 have hh:=(UN (a:=q.a) (ul:=q.unc) (lf:=lf) (q.a.ed.take k) [] (λe he=>LM he) (λp hp=>by cases hp)).2;rw[Lv] at hh;refine Qc<|x (QA O O)<|xe<|Qf<|QG O (λhi=>?_) (λhi=>?_)
 ·refine Qz ?_;have h9:q.a.ed.length≤k:=by have T:¬(k:Int)<(q.a.ed.length:Int):=hi;omega
  rw[Lm h9] at I;refine Qc<|Qb<|Qe ?_;exact Qn ⟨[_],Z,hg,I⟩
 refine Qi ?_;have G:k<q.a.ed.length:=by have T:(k:Int)<(q.a.ed.length:Int):=hi;omega
 have hC:=hq.ok.ed _ (Li G);have E:=Qe1 (ul:=q.unc) (lf:=lf) G;refine Zd ((q.a.ed.take k).foldl (JL q.unc lf) []) λout hout=>?_;rw[hout] at I E hh;refine Zd (q.a.ed[k]'G) λe he=>?_;rw[he] at hC E;simp only[List.length_nil] at hh;have hD:e.1=(e.1.toNat:Int):=by omega
 have hE:e.2.2=(e.2.2.toNat:Int):=by omega
 have hF:=VF (l:=lf) (s:=e.1) (by omega);have hG:=VF (l:=lf) (s:=e.2.2) (by omega);have hH:=S.ext hg;refine Qf<|Qh<|Qc<|xie hH.a.ed O O G λhU T=>?_;rw[he] at T;refine x (QI T O O)<|xl O<|Qt (us:=[.int .i64 0,.int .i64 0,.int .i64 0]) O λb7 w2 hI hJ H=>xl O<|Qp (us:=Qw e) H O O O O ⟨O,O,O,U⟩ λw3 hK V=>xe ?_;have h1:Step [] w1 w3:=hI.then1 hK hJ
 have hj:=hg.trans h1;have Y:=S.ext hj;have h2:=hB.ext hj;have hL:=Qq I h1;refine Qf<|QU (α:=Bool) [(19,47)] (λz=>[(47,.bool z)]) (λz w'=>Step [] w3 w'∧(z=true↔(lft lf e.1=false∨lft lf e.2.2=true∨e.2.1∉q.unc))) (by rfl) ?_ ?_
 ·refine QW (Step [] w3) [(0,true),(1,true),(2,true),(3,true),(4,true),(5,true),(6,true),(7,true),(8,true),(9,true),(10,true),(11,true),(12,true),(13,true),(14,true),(15,true),(16,true),(17,true),(18,true),(19,true),(20,true),(21,true),(22,true),(23,true),(24,true),(25,true),(26,false),(27,true),(28,true)] mixed (by rfl) (by kernel_rfl) (Step.drew _ _) ?_
  refine p (λ_=>Qo)<|p (λ_=>QF O)<|p (λ_=>Qa O)<|pq (λ_ hc=>Qd (Y.B.ext hc) O O)<|p (λ_=>Qa O)<|pq (λ_ hc=>Qd (V.ext hc) O O) <|
   p (λ_=>Zh (i:=e.1.toNat) O (congrArg (Value.int .i64) hD) (by omega))<|pq (v:=.bool (lft lf e.1)) (λ_ hc=>(XJ (i:=e.1.toNat) (h2.ext hc) O (by omega)).trans (by rw[hF]))<|pB (λ_=>Zr rfl) (λJ=>?_) (λJ=>?_)
  ·refine p (λ_=>Qo)<|ps<|ps<|ps<|ps<|ps<|ps<|ps<|ps<|p (λ_=>Qm O)<|p (λ_=>Qo)<|ps<|ps<|ps<|ps<|ps<|ps<|ps<|ps<|p (λ_=>Qm O)<|pe ?_;exact ⟨_,Z,Step.drew _ _,by simp at J;simp[J]⟩
  refine p (λ_=>Qo)<|p (λ_=>Qo)<|p (λ_=>QF O)<|p (λ_=>Qa O)<|pq (λ_ hc=>Qd (Y.B.ext hc) O O)<|p (λ_=>Qa O)<|pq (λ_ hc=>Qd (V.ext hc) O O) <|
   p (λ_=>Zh (i:=e.2.2.toNat) O (congrArg (Value.int .i64) hE) (by omega))<|?_
  refine pqB (b:=lft lf e.2.2) (λ_ hc=>(XJ (i:=e.2.2.toNat) (h2.ext hc) O (by omega)).trans (by rw[hG])) (λhm=>?_) (λhm=>?_)
  ·refine p (λ_=>Qm O)<|p (λ_=>Qo)<|ps<|ps<|ps<|ps<|ps<|ps<|ps<|ps<|p (λ_=>Qm O)<|pe ?_;exact ⟨_,Z,Step.drew _ _,by simp[hm]⟩
  refine p (λ_=>Qm O)<|p (λ_=>Qo)<|p (λ_=>Qo)<|p (λ_=>QF O)<|p (λ_=>Qa O)<|pq (λ_ hc=>Qd (Y.B.ext hc) O O) <|
   p (λ_=>Qa O)<|pq (λ_ hc=>Qd (V.ext hc) O O)<|pk<|xf<|(ZM (Y.u.ext (Step.drew _ _)) e.2.1).mono ?_
  rintro r4 w4 ⟨rfl,rfl⟩;refine ⟨Step.drew _ _,?_⟩;refine p (λ_=>UF O)<|p (λ_=>Qm O)<|pe ?_;exact ⟨_,Z,Step.drew _ _,by simp at J;simp[J,hm]⟩
 rintro z g w4 ⟨ho,hz⟩;have h3:=hj.trans ho;have hr:=Qq hL ho;have H:=V.ext ho;refine Q3 rfl (λha=>?_) (λha=>?_)
 ·refine Qz ?_;have e1:JL q.unc lf out e=out:=by unfold JL;rw[if_pos (hz.1 ha)]
  rw[e1] at E;refine Qy<|QP O O<|Qb<|xe ?_;exact ⟨(k+1,vo),by simp only[];omega,⟨O,O,U⟩,G,h3,by simp only[];rw[E];exact hr⟩
 refine Qi ?_;have h4:¬(lft lf e.1=false∨lft lf e.2.2=true∨e.2.1∉q.unc):=λh=>by rw[hz.2 h] at ha;cases ha
 have h5:Zp [] w4.heap vo out.length 4 (out.flatMap (jb rk 2)):=QT hr (by omega) (by simp);refine Qf<|Qc<|Qb<|x (Qs h5 O)<|Qe<|QU (α:=Bool) [(50,62)] (λz=>[(62,.bool z)]) (λz w'=>Step [] w4 w'∧(z=true↔out.getLast?.map (·.1)=some e.1)) (by rfl) ?_ ?_
 ·refine QW (Step [] w4) [(0,true),(1,true),(2,true),(3,true),(4,true),(5,true),(6,true),(7,true),(8,true),(9,true),(10,true),(11,true),(12,true)] mixed (by rfl) (by kernel_rfl) (Step.drew _ _) ?_;refine p (λ_=>Qo)<|pb (λ_=>ZO O O) (λhs=>?_) (λhs=>?_)
  ·have hV:0<out.length:=by have hM:(0:Int)<(out.length:Int):=hs;omega
   have h6:out.getLast?=some (out[out.length - 1]'(by omega)):=by rw[List.getLast?_eq_getElem?,LB]
   refine Zd (out[out.length - 1]'(by omega)) λy hy=>?_;rw[hy] at h6;refine p (λ_=>Qo)<|p (λ_=>Qo)<|p (λ_=>Qo)<|p (λ_=>Jv O O ⟨by omega,by omega⟩)<|Go.Lg.pig (g:=jb rk 2) (i:=out.length - 1) O (Qbz rk 2) h5 O (congrArg (Value.int .i64) (show (out.length:Int) - 1=((out.length - 1:Nat):Int) by omega)) (by omega) λhW h7=>?_;rw[hy] at h7
   refine p (λ_=>Zl O)<|pq (λ_ hc=>Qx ((h7.fld 0 (.int .i64 y.1) O).ext hc) O)<|p (λ_=>Qa O)<|pq (λ_ hc=>Qd (H.ext hc) O O) <|
    p (λ_=>Q5 O O)<|p (λ_=>Qm O)<|pe ?_
   exact ⟨_,Z,Step.drew _ _,by rw[h6];simp⟩
  have h0:out=[]:=Lp (by have hM:¬(0:Int)<(out.length:Int):=hs;omega);refine p (λ_=>Qo)<|ps<|ps<|ps<|ps<|ps<|ps<|ps<|ps<|ps<|p (λ_=>Qm O)<|pe ?_;exact ⟨_,Z,Step.drew _ _,by simp[h0]⟩
 rintro z2 g w5 ⟨ht,h8⟩;have hu:=h3.trans ht;have hv:=Qq hr ht;have H:=H.ext ht;refine Q3 rfl (λhf=>?_) (λhf=>?_)
 ·refine Qz ?_;have e1:JL q.unc lf out e=out:=by unfold JL;rw[if_neg h4,if_pos (h8.1 hf)]
  rw[e1] at E;refine Qy<|QP O O<|Qb<|xe ?_;exact ⟨(k+1,vo),by simp only[];omega,⟨O,O,U⟩,G,hu,by simp only[];rw[E];exact hv⟩
 refine Qi ?_;have hN:¬out.getLast?.map (·.1)=some e.1:=λh=>by rw[h8.2 h] at hf;cases hf
 have e1:JL q.unc lf out e=out++[(e.1,e.2.1)]:=by unfold JL;rw[if_neg h4,if_neg hN]
 rw[e1] at E;refine Qy<|Qb<|x (Qa O)<|x (Qd H O O)<|Qb<|x (Qa O)<|x (Qd H O O)<|x (QD ⟨O,O,O,O,U⟩) <|
  xl rfl<|QC (us:=[jb rk 2 (e.1,e.2.1)]) O O (by decide) (by simp) ⟨rfl,rfl,U⟩ λhX w6 hw hY hO =>
  xl rfl<|Q2 (m:=1) (news:=jb rk 2 (e.1,e.2.1)) (Qq hv hw) O O O (hO.at (L:=[]) (by simp)) (by simp[Value.oneCell']) (by omega) (by have:=hu.size;have:=hw.size;omega) λhP w7 hQ hR hZ=>Qe<|Qy<|QP O O<|Qb<|xe ?_
 exact ⟨(k+1,hP),by simp only[];omega,⟨O,O,U⟩,G,(hu.trans hw).then hR (λb hb=>.inr (Qk hv b hb).1),by simp only[];rw[E];exact RmO.snoc hQ⟩
theorem zq (lf:Lf) (d:Int):∀(l:LI) (i:Nat),Kz lf i (l++[d])=Kz lf i l++if lf.getD (i+l.length) false=true∧d<0 then [((i+l.length:Nat):Int)] else []
 | [],i=>by
  simp only[List.nil_append,Kz,List.length_nil,Nat.add_zero]
 | a::l,i=>by
  have ih:=zq lf d l (i+1);rw[show i+1+l.length=i+(a::l).length by simp;omega] at ih;simp only[List.cons_append,Kz,ih];by_cases h:lf.getD i false=true∧a<0
  ·rw[if_pos h,if_pos h,Ma]
  rw[if_neg h,if_neg h]
abbrev blP (l:LI):List (Int×Int):=l.map λs=>(s,-1)
set_option maxHeartbeats 4000000 in
theorem jh {w:World}{bp:Nat}{q:Pz}{lf:Lf}(hA:yL [] w.heap bp q) (hq:PzQ q) (hB:QZ w.heap q.bl 4 (lf.map Value.bool)) (hl:lf.length=q.n) (rk:Int) :
  QK prog 265 [.pointer (some ⟨bp,0,none⟩),.int .i64 rk] w λr w'=>Step [] w w'∧RmO w.heap.size w' r rk 3 (blP (Kz lf 0 (dsts q.a lf)))∧(Kz lf 0 (dsts q.a lf)).length≤q.n:=by
 have hn:=hq.n;have hy:=hq.ok.st1;refine QK.of_W func265 O ntmps265 results265 (by simp) ?_;refine Qc<|Qe<|Qc<|Qe<|Qf<|Qc<|Qb<|xl O<|xf<|(Vh hA hq hB hl).mono ?_;rintro r1 S ⟨hf,b,rfl,hb,hg,T⟩;refine Zd (dsts q.a lf) λD hD=>?_;rw[hD] at hg T ⊢;have hh:QL [] S.heap (.slice (some ⟨b,0,none⟩) q.n q.n) D:=by
  have h:=hg.arr (L:=[]) (by simp) (n:=q.n) (cap:=q.n) (sz:=1) (by simp[T]) (by omega) (Lr _);unfold QL;rw[T];exact h
 refine x (Qs hh O)<|Qb<|xe<|Qh<|QB (α:=Nat×Value) [(5,7),(11,33)] (λz=>[(5,z.2),(11,.int .i64 z.1)]) (λz w'=>z.1≤D.length∧Step [] S w'∧RmO S.heap.size w' z.2 rk 3 (blP (Kz lf 0 (D.take z.1)))) (λz=>D.length - z.1) (by rfl) (0,nS) ⟨O,O,U⟩ ⟨Lk _,Step.refl _ _,QN _ _ _ _⟩ ?_;rintro ⟨k,vo⟩ g w2 ⟨hk,I,E⟩;simp only[] at hk E;have hi:=(Vm lf (D.take k) 0).2
 rw[Lv] at hi;have V:=hf.trans I;refine Qc<|x (QA O O)<|xe<|Qf<|QG O (λY=>?_) (λY=>?_)
 ·refine Qz ?_;have hm:D.length≤k:=by have ho:¬(k:Int)<(D.length:Int):=Y;omega
  rw[Lm hm] at E;refine Qc<|Qb<|Qe ?_;exact Qn ⟨[_],Z,V,Zq E hf.size,by have:=(Vm lf D 0).2;omega⟩
 refine Qi ?_;have G:k<D.length:=by have ho:(k:Int)<(D.length:Int):=Y;omega
 have hp:D.take (k+1)=D.take k++[D[k]'G]:=Le G;have H:=zq lf (D[k]'G) (D.take k) 0;rw[←hp,Lv,LP,ML (by omega)] at H;refine Zd (D[k]'G) λd hd=>?_;rw[hd] at H;refine Zd (Kz lf 0 (D.take k)) λout hout=>?_;rw[hout] at H E hi;have ha:k<lf.length:=by omega
 have hr:lf[k]'ha=lf.getD k false:=by simp[List.getD,ha]
 have hs:=hA.ext V;refine Qf<|Qh<|Qc<|Qb<|xii (i:=k) (hh.ext I) O O G λh0 hj=>?_;rw[hd] at hj;refine x (Qx hj O)<|x Qg<|Qe<|QU (α:=Bool) [(16,26)] (λz=>[(26,.bool z)]) (λz w'=>w'=w2∧(z=true↔lf.getD k false=true∧d<0)) (by rfl) ?_ ?_
 ·refine Qy<|Qb<|x (QF O)<|x (Qa O)<|x (Qd hs.B O O)<|Qb<|x (Zh (i:=k) O O (by omega))<|xB (b:=lf.getD k false) ((XJ (i:=k) (hB.ext V) O ha).trans (by rw[hr])) (λhc=>?_) (λhc=>?_)
  ·refine Qb<|Qb<|x (QA O O)<|x (Qm O)<|xe ?_;exact ⟨_,Z,O,by rw[hc];simp⟩
  refine Qb<|xs O<|xs O<|x (Qm O)<|xe ?_;exact ⟨_,Z,O,by rw[hc];simp⟩
 rintro z g w3 ⟨rfl,hz⟩;refine Q3 rfl (λJ=>?_) (λJ=>?_)
 ·rw[if_pos (hz.1 J)] at H;refine Qy<|Qb<|Qb<|Qb<|x (QD ⟨O,O,O,O,U⟩)<|xl O<|QC (us:=[jb rk 3 ((k:Int),-1)]) O O (by decide) (by simp) ⟨rfl,rfl,U⟩ λh1 w4 he h2 ht =>
   xl rfl<|Q2 (m:=1) (news:=jb rk 3 ((k:Int),-1)) (Qq E he) O O O (ht.at (L:=[]) (by simp)) (by simp[Value.oneCell']) (by rw[Lc];omega) (by have:=I.size;have:=he.size;omega) λhu w5 hv hw h3=>Qe<|Qy<|QP O O<|Qb<|xe ?_
  refine ⟨(k+1,hu),by simp only[];omega,⟨O,O,U⟩,G,(I.trans he).then hw (λb hb=>.inr (Qk E b hb).1),?_⟩;simp only[];rw[H,show blP (out++[(k:Int)])=blP out++[((k:Int),-1)] by simp];exact RmO.snoc hv
 rw[if_neg (λh=>by rw[hz.2 h] at J;cases J),LF] at H;refine Qi<|Qy<|QP O O<|Qb<|xe ?_;exact ⟨(k+1,vo),by simp only[];omega,⟨O,O,U⟩,G,I,by simp only[];rw[H];exact E⟩
theorem QeB {w:World}{bp:Nat}{q:Pz}{lf:Lf}(S:yL [] w.heap bp q) (hq:PzQ q) (T:QZ w.heap q.bl 4 (lf.map Value.bool)) (hl:lf.length=q.n) (rk:Int) :
  QK prog 214 [.pointer (some ⟨bp,0,none⟩),.int .i64 rk,.bool true] w λr w'=>Step [] w w'∧∃rs l,RmO w.heap.size w' r rk rs l∧l.map (·.1)=nxs q.a q.unc lf∧l.length≤1000000:=by
 have ha:=(yf q.a q.unc lf).2;have hf:=hq.ok.ed_le;have hn:=hq.n;have hg:=hq.ok.st1;have E:nxs q.a q.unc lf=if (lost q.a q.unc lf).length≠0 then (lost q.a q.unc lf).map (·.1) else Kz lf 0 (dsts q.a lf):=rfl
 refine QK.of_W func214 O ntmps214 results214 (by simp) ?_;refine Qc<|Qe<|Qf<|Qc<|Qb<|Qb<|xl O<|xf<|(QeC S hq T hl rk).mono ?_;rintro r1 w1 ⟨G,I⟩;refine Zd (lost q.a q.unc lf) λL hL=>?_;rw[hL] at I E ha;refine Qe<|QU (α:=Bool) [(11,17)] (λz=>[(17,.bool z)]) (λz w'=>w'=w1∧(z=true↔L.length≠0)) (by rfl) ?_ ?_
 ·refine Qy<|Qb<|x (Qs (L:=[]) (QT I (by omega) (by simp)) rfl)<|xb (ZO rfl rfl) (λJ=>?_) (λJ=>?_)
  ·refine Qb<|xs O<|xs O<|x (Qm O)<|xe ?_;exact ⟨_,Z,O,by have V:(0:Int)<(L.length:Int):=J;simp;intro e;subst e;simp at V⟩
  refine Qb<|Qb<|x (Zr O)<|x (Qm O)<|xe ?_;have V:¬(0:Int)<(L.length:Int):=J;have hb:L.length=0:=by omega
  exact ⟨_,Z,O,by rw[hb];simp⟩
 rintro z g w2 ⟨rfl,Y⟩;refine Q3 rfl (λH=>?_) (λH=>?_)
 ·rw[if_pos (Y.1 H)] at E;refine Qc<|Qb<|Qe ?_;exact Qn ⟨[_],Z,G,2,L,I,E.symm,by omega⟩
 rw[if_neg (λh=>by rw[Y.2 h] at H;cases H)] at E;refine Qi<|Qc<|Qb<|Qb<|xl O<|xf<|(jh (S.ext G) hq (T.ext G) hl rk).mono ?_;rintro r3 w3 ⟨hc,he,hh⟩;refine Qe<|Qn ⟨[_],Z,G.trans hc,3,_,Zq he G.size,?_,?_⟩
 ·rw[E,MH];exact List.map_id _
 rw[Lc];omega
structure JX (base:Nat) (w:World) (n:Nat) (f:Nat→Value) (g:Nat→List Ed):Prop where
 own:∀i,i<n→Z5 144 base w (f i) (g i)
 dj:∀i j,i<n→j<n→i≠j→Dj (f i) (f j)
theorem JX.app {base n i:Nat}{w w':World}{f:Nat→Value}{g:Nat→List Ed}{v':Value}{l:List Ed}(h:JX base w n f g) (hi:i<n) (I:Z5 144 base w' v' l) (hs:Step (ob (f i)) w w')
  (J:∀b∈ob v',b∈ob (f i)∨w.heap.size≤b):JX base w' n (Km f i v') (Km g i l):=by
 refine ⟨λj E=>?_,λj k E hk G=>?_⟩
 ·by_cases e:j=i
  ·subst e;rw[ZT,ZT];exact I
  rw[Yj _ _ e,Yj _ _ e];exact Qj (h.own j E) hs (h.dj j i E hi e)
 have key:∀j,j<n→j≠i→Dj v' (f j):=λj E e b hb H=>by
  rcases J b hb with h1 | h1
  ·exact h.dj i j hi E (Ne.symm e) b h1 H
  have:=QR (h.own j E) b H;omega
 by_cases e1:j=i
 ·subst e1;rw[ZT,Yj _ _ (Ne.symm G)];exact key k hk (Ne.symm G)
 rw[Yj _ _ e1];by_cases e2:k=i
 ·subst e2;rw[ZT];exact (key j E e1).symm
 rw[Yj _ _ e2];exact h.dj j k E hk G
theorem JX.step {base n:Nat}{X:LN}{w w':World}{f:Nat→Value}{g:Nat→List Ed}(h:JX base w n f g) (hs:Step X w w') (E:∀i,i<n→∀b∈ob (f i),b∉X):JX base w' n f g :=
 ⟨λi hi=>Qj (h.own i hi) hs (E i hi),h.dj⟩
theorem JX.ext {base n:Nat}{w w':World}{f:Nat→Value}{g:Nat→List Ed}(h:JX base w n f g) (hs:Step [] w w'):JX base w' n f g:=h.step hs (λ_ _ _ _=>by simp)
def qD (E:List Ed) (s:Nat):List Ed:=Zy E (s:Int)
theorem QcG (E:List Ed) (e:Ed) (G:0≤e.1):Km (qD E) e.1.toNat (qD E e.1.toNat++[e])=qD (E++[e]):=by
 funext s;unfold qD Zy;rw[L0];by_cases h:s=e.1.toNat
 ·subst h;rw[ZT];have:e.1=(e.1.toNat:Int):=by omega
  simp[←this]
 rw[Yj _ _ h];have:¬e.1=(s:Int):=by omega
 simp[this]
theorem y9 (E:List Ed) (s:Nat):(qD E s).length≤E.length:=JH E _
def Qbh (num:LI) (m:List (Int×Value)):Prop:=∀s:Nat,s<num.length→mget m (s:Int)=if cget num s<0 then none else some (.int .i64 (cget num s))
theorem J4 (l:LI) (k:Int):Zn l k=cget l k.toNat:=rfl
structure JA (b4 mb:Nat) (r2:Value) (wS:World) (c:Cs) (m:List (Int×Value)) (vo vk ve:Value) (w:World):Prop where
 st:Step [b4,mb] wS w
 B4:QZ w.heap b4 58 [r2,.int .i64 0,vk,ve]
 M:Z4 Kr w.heap mb m
 nm:Qbh c.num m
 o:Qu 3 wS.heap.size w vo c.ord
 k:Qu 3 wS.heap.size w vk c.mk'
 e:Z5 144 wS.heap.size w ve c.ed
 d1:Dj vo vk
 d2:Dj vo ve
 d3:Dj vk ve
section
variable {b4 mb:Nat} {r2:Value} {wS:World} {c:Cs} {m:List (Int×Value)} {vo vk ve:Value} {w w' w'':World}
theorem JA.ext (h:JA b4 mb r2 wS c m vo vk ve w) (hs:Step [] w w'):JA b4 mb r2 wS c m vo vk ve w' :=
 ⟨h.st.trans hs,h.B4.ext hs,h.M.ext hs,h.nm,Qq h.o hs,Qq h.k hs,Qq h.e hs,h.d1,h.d2,h.d3⟩
theorem JA.setK (h:JA b4 mb r2 wS c m vo vk ve w) (S:b4<wS.heap.size) (lm:mb<wS.heap.size) (ne:mb≠b4) {G:Value}{l:LI}(hs:Step (ob vk) w w') (H:Qu 3 wS.heap.size w' G l)
  (I:∀b∈ob G,b∈ob vk∨w.heap.size≤b) (E:Step [b4] w' w'') (J:QZ w''.heap b4 58 [r2,.int .i64 0,G,ve]):JA b4 mb r2 wS ⟨c.ord,c.num,l,c.ed⟩ m vo G ve w'' :=
 ⟨(h.st.then hs (λb hb=>.inr (Qk h.k b hb).1)).then E (λb hb=>.inl (by simp at hb;simp[hb])),J,(h.M.step hs (QM h.k lm)).step E (by simpa using ne),h.nm,
  Qj (Qj h.o hs h.d1) E (λb hb=>by have:=(Qk h.o b hb).1;simp;omega),Qj H E (λb hb=>by have:=(Qk H b hb).1;simp;omega),
  Qj (Qj h.e hs h.d3.symm) E (λb hb=>by have:=(Qk h.e b hb).1;simp;omega),h.d1.grow I (QR h.o),h.d2,(h.d3.symm.grow I (QR h.e)).symm⟩
theorem JA.setE (h:JA b4 mb r2 wS c m vo vk ve w) (S:b4<wS.heap.size) (lm:mb<wS.heap.size) (ne:mb≠b4) {G:Value}{l:List Ed}(hs:Step (ob ve) w w') (H:Z5 144 wS.heap.size w' G l)
  (I:∀b∈ob G,b∈ob ve∨w.heap.size≤b) (E:Step [b4] w' w'') (J:QZ w''.heap b4 58 [r2,.int .i64 0,vk,G]):JA b4 mb r2 wS ⟨c.ord,c.num,c.mk',l⟩ m vo vk G w'' :=
 ⟨(h.st.then hs (λb hb=>.inr (Qk h.e b hb).1)).then E (λb hb=>.inl (by simp at hb;simp[hb])),J,(h.M.step hs (QM h.e lm)).step E (by simpa using ne),h.nm,
  Qj (Qj h.o hs h.d2) E (λb hb=>by have:=(Qk h.o b hb).1;simp;omega),Qj (Qj h.k hs h.d3) E (λb hb=>by have:=(Qk h.k b hb).1;simp;omega),
  Qj H E (λb hb=>by have:=(Qk H b hb).1;simp;omega),h.d1,h.d2.grow I (QR h.o),h.d3.grow I (QR h.k)⟩
theorem JA.setN (h:JA b4 mb r2 wS c m vo vk ve w) (lm:mb<wS.heap.size) (ne:mb≠b4) {l:LI}{G:List (Int×Value)}(E:Step [mb] w w') (H:Z4 Kr w'.heap mb G) (hm:Qbh l G):JA b4 mb r2 wS ⟨c.ord,l,c.mk',c.ed⟩ G vo vk ve w' :=
 ⟨h.st.then E (λb hb=>.inl (by simp at hb;simp[hb])),h.B4.step E (by simpa using ne.symm),H,hm,Qj h.o E (λb hb=>by have:=(Qk h.o b hb).1;simp;omega),
  Qj h.k E (λb hb=>by have:=(Qk h.k b hb).1;simp;omega),Qj h.e E (λb hb=>by have:=(Qk h.e b hb).1;simp;omega),h.d1,h.d2,h.d3⟩
theorem JA.setO (h:JA b4 mb r2 wS c m vo vk ve w) (H:b4<wS.heap.size) (lm:mb<wS.heap.size) {E:Value}{l:LI}(hs:Step (ob vo) w w') (I:Qu 3 wS.heap.size w' E l)
  (G:∀b∈ob E,b∈ob vo∨w.heap.size≤b):JA b4 mb r2 wS ⟨l,c.num,c.mk',c.ed⟩ m E vk ve w' :=
 ⟨h.st.then hs (λb hb=>.inr (Qk h.o b hb).1),h.B4.step hs (QM h.o H),h.M.step hs (QM h.o lm),h.nm,I,Qj h.k hs h.d1.symm,Qj h.e hs h.d2.symm,
  (h.d1.symm.grow G (QR h.k)).symm,(h.d2.symm.grow G (QR h.e)).symm,h.d3⟩
end
theorem Qbh.set {num:LI}{m:List (Int×Value)}(h:Qbh num m) {k:Nat}(hk:k<num.length) {v:Int}(E:0≤v):Qbh (num.set k v) (mput m (k:Int) (.int .i64 v)):=by
 intro s hs;rw[Nq] at hs;rw[X8];by_cases e:s=k
 ·subst e;have:cget (num.set s v) s=v:=by unfold cget;simp[List.getD,hk]
  rw[if_pos rfl,this,if_neg (by omega)]
 rw[if_neg (by omega)];have:cget (num.set k v) s=cget num s:=by unfold cget;simp[List.getD,List.getElem?_set_ne (Ne.symm e)]
 rw[this];exact h s hs
theorem yU (i:Nat) (c:Cs) (m:LI) (e:Ed):Q7 i ⟨c.ord,c.num,m,c.ed⟩ e=⟨(Q7 i c e).ord,(Q7 i c e).num,m,(Q7 i c e).ed⟩∧(Q7 i c e).mk'=c.mk':=by
 unfold Q7;split <;> exact ⟨O,O⟩
theorem yq (i:Nat):∀(l:List Ed) (c:Cs) (m:LI),l.foldl (Q7 i) ⟨c.ord,c.num,m,c.ed⟩=⟨(l.foldl (Q7 i) c).ord,(l.foldl (Q7 i) c).num,m,(l.foldl (Q7 i) c).ed⟩∧(l.foldl (Q7 i) c).mk'=c.mk'
 | [],c,m=>⟨O,O⟩
 | e::l,c,m=>by
  have h1:=yU i c m e;have h2:=yq i l (Q7 i c e) m;rw[LJ,LJ,h1.1,h2.1];exact ⟨O,h2.2.trans h1.2⟩
theorem qR (i:Nat) (c:Cs) (e:Ed):∃r,(Q7 i c e).ord=c.ord++r:=by
 unfold Q7;split
 ·exact ⟨_,rfl⟩
 exact ⟨[],by simp⟩
theorem jC (i:Nat):∀(l:List Ed) (c:Cs),∃r,(l.foldl (Q7 i) c).ord=c.ord++r
 | [],c=>⟨[],by simp⟩
 | e::l,c=>by
  obtain ⟨E,h1⟩:=qR i c e;obtain ⟨r2,h2⟩:=jC i l (Q7 i c e);exact ⟨E++r2,by rw[LJ,h2,h1,Lz]⟩
theorem QcH {a:QQ}{i:Nat}{c:Cs}(hi:i<c.ord.length):Kd a i c=Zv a i ((Zy a.ed (cget c.ord i)).foldl (Q7 i) c):=by
 unfold Kd;rw[J4,Ms];obtain ⟨r,E⟩:=jC i (Zy a.ed (cget c.ord i)) c;have hm:=(yq i (Zy a.ed (cget c.ord i)) c c.mk').2;unfold Zv;have G:Zn ((Zy a.ed (cget c.ord i)).foldl (Q7 i) c).ord (i:Int)=Zn c.ord (i:Int):=by
  rw[J4,J4,E];simp only[Int.toNat_natCast];exact qb hi
 rw[G];split
 ·rw[(yq i _ c _).1,hm]
 rfl
set_option maxHeartbeats 8000000 in
theorem UH {w:World}{bp:Nat}{q:Pz}{lf:Lf}(hA:yL [] w.heap bp q) (hq:PzQ q) (hB:QZ w.heap q.bl 4 (lf.map Value.bool)) (hl:lf.length=q.n) :
  QK prog 218 [.pointer (some ⟨bp,0,none⟩)] w λr w'=>Step [] w w'∧∃v o,r=.tuple #[v,o]∧YO w.heap.size w'.heap v (qB q.a lf)∧o.oneCell'=true:=by
 have hn:=hq.n;have hst1:=hq.ok.st1;have kg:=hq.ok.ed_le;have hml:=hq.ok.mr_le;have pd:=Vx hq.ok lf;have V:qB q.a lf=if q.a.st=0∨lft lf 0=false then ⟨q.a.al,0,[],[]⟩ else ZD (rstr q.a lf):=rfl
 refine Zd (qB q.a lf) λSA pf=>?_;rw[pf] at V ⊢;refine QK.of_W func218 O ntmps218 results218 (by simp) ?_;refine Qc<|xl O<|Qt (us:=[nS,.int .i64 0,nS,nS]) O λb2 w1 gi hb2 h9=>Qe ?_;have hz1:=gi.size;have hl2:=h9.lt;have kh:=hA.ext gi;refine Qc<|Qb<|x (QF O)<|x (Qa O)<|x (Qa O)<|x (Qd kh.B O O)<|xl O<|xf<|(ZW kh.a.al).mono ?_;rintro r2 w2 ⟨hL,hv⟩;have hz2:=hL.size
 have hM:=Qu.ints (L:=[]) hv hA.a.al.le (by simp);refine x (QD ⟨hM.cells,U⟩)<|xl O<|Qt (us:=[nS,.int .i64 0,nS,nS]) O λb4 w3 pg ph hC =>
  xl rfl<|Qp (us:=[r2,.int .i64 0,nS,nS]) hC O O O O ⟨hM.one,O,O,O,U⟩ λw4 pj hC=>xe ?_
 have S:Step [] w2 w4:=pg.then1 pj ph;have Y:=gi.trans hL;have hD:=Y.trans S;have hl4:=hC.lt;have hz24:=S.size;have gj:=hA.ext hD;have pm:∀b∈ob r2,b<w2.heap.size:=QR hv;refine Qf<|QU (α:=Bool) [(22,36)] (λz=>[(36,.bool z)]) (λz w'=>w'=w4∧(z=true↔(q.a.st=0∨lft lf 0=false))) (by rfl) ?_ ?_
 ·refine Qy<|Qb<|x (QF O)<|x (Qa O)<|x (Qa O)<|x (Qd gj.B O O)<|xb (Q5 O O) (λgk=>?_) (λgk=>?_)
  ·refine Qb<|xs O<|xs O<|xs O<|xs O<|xs O<|xs O<|xs O<|x (Qm O)<|xe ?_;exact ⟨_,Z,O,by simp[gk]⟩
  have gl:(0:Int).toNat<lf.length:=by
   have:0<q.n:=by omega
   simp;omega
  have gm:=VF (l:=lf) (s:=0) gl;refine Qb<|Qb<|x (QF O)<|x (Qa O)<|x (Qd gj.B O O)<|x (Zh (i:=0) O O (by simp at gl;omega))<|x (v:=.bool (lft lf 0)) ((XJ (i:=0) (hB.ext hD) O gl).trans (by rw[←gm];rfl))<|x (Zr O)<|x (Qm O)<|xe ?_;exact ⟨_,Z,O,by simp[gk]⟩
 rintro z g w4 ⟨rfl,hz⟩;refine Q3 rfl (λhN=>?_) (λhN=>?_)
 ·rw[if_pos (hz.1 hN)] at V;subst V;refine Qc<|x (Qr hC O O)<|xl O<|Qp (us:=[r2,.int .i64 0,nS,nS]) ((h9.ext hL).ext S) O O O O ⟨hM.one,O,O,O,U⟩ λw6 hw h9=>Qe<|Qn ⟨[.agg #[r2,.int .i64 0,nS,nS],nS],⟨⟨_,O,Qv O (h9.at (L:=[]) (by simp)).cells⟩,rfl,U⟩,hD.then1 hw (by omega),_,_,rfl,?_,rfl⟩;have pn:=Qj (Qq hv S) hw (λb hb=>by have:=(Qk hv b hb).1;simp;omega)
  exact ⟨r2,_,_,O,λL' hE=>⟨Qu.ints pn hA.a.al.le (λb hb=>by have:=hE b hb;omega),Zp.nil _ _ _,Zp.nil _ _ _⟩⟩
 have ki:¬(q.a.st=0∨lft lf 0=false):=λh=>by rw[hz.2 h] at hN;cases hN
 rw[if_neg ki] at V;have po:0<q.a.st:=by have:=hq.ok.st0;omega
 have kj:(rstr q.a lf).st.toNat=q.n:=by show q.a.st.toNat=q.n;omega
 unfold ZD at V;rw[if_neg (show ¬(rstr q.a lf).st=0 from λh=>ki (.inl h)),kj] at V;simp only[] at V;refine Qi<|Qc<|Qb<|x (QF O)<|x (Qa O)<|x (Qa O)<|x (Qd gj.B O O)<|xl O<|VC (n:=q.n) (congrArg (Value.int .i64) hn) (congrArg (Value.int .i64) hn) (by omega) λbE w6 hw pp gn=>Qe ?_;rw[Qei] at gn;have hz6:=hw.size;have hlE:=gn.lt;have pt:=hD.trans hw;have kk:=hA.ext pt
 refine Qf<|Qc<|Qb<|x (QF O)<|x (Qa O)<|x (Qa O)<|x (Qd kk.B O O)<|x (Qs kk.a.ed O)<|Qb<|xe<|Qh<|QB (α:=Nat×(Nat→Value)) [(7,7),(50,74)] (λz=>[(50,.int .i64 z.1)]) (λz w'=>z.1≤q.a.ed.length∧Step [bE] w6 w'∧QZ w'.heap bE 56 ((List.range q.n).map z.2)∧JX w6.heap.size w' q.n z.2 (qD ((q.a.ed.take z.1).filter λe=>lft lf e.2.2))) (λz=>q.a.ed.length - z.1) (by rfl) (0,λ_=>nS) Z
  ⟨Lk _,Step.refl _ _,gn,⟨λi _=>QN _ _ _ _,λi j _ _ _=>Dj.nil _⟩⟩ ?_
 rintro ⟨k,rv⟩ g w7 ⟨hk,hO,go,T⟩;simp only[] at hk go T;have hF:Step [] w4 w7:=hw.then1 hO pp;have gp:=hD.trans hF;have hz7:=hO.size;have kn:=hA.ext gp;refine Qc<|x (QA O O)<|xe<|Qf<|QG O (λgq=>?_) (λgq=>?_)
 ·refine Qz ?_;have pu:q.a.ed.length≤k:=by have hP:¬(k:Int)<(q.a.ed.length:Int):=gq;omega
  rw[Lm pu] at T;have T:JX w6.heap.size w7 q.n rv (qD (rstr q.a lf).ed):=T;have ko:(rstr q.a lf).ed.length≤q.a.ed.length:=Mb _ _;refine Qc<|xl O<|Yq Kr λmb w8 gr pw pz=>xl O<|Y0 (k:=(0:Int)) pz O O λE gs kp=>Qb<|Qe ?_;have H:Step [] w7 E:=gr.then1 gs pw;have p0:=H.size;have hQ:=kp.lt
  refine Qc<|xl O<|QC (us:=[[.int .i64 0]]) O O (by decide) (by simp) ⟨rfl,rfl,U⟩ λkq gt hy hb77 p1=>Qe<|Qf<|Qc<|Qe ?_;have gu:mb≠b4:=by omega
  have hG:b4<E.heap.size:=by omega
  have kr:=gp.trans H;have gv:∀b∈[b4,mb],w2.heap.size≤b:=λb hb=>by simp only[List.mem_cons,List.not_mem_nil,or_false] at hb;omega
  have p2:yL [b4,mb] E.heap bp q:=((hA.ext Y).up (λb hb=>.inr (gv b hb))).ext (S.trans (hF.trans H));have hBS:QZ E.heap q.bl 4 (lf.map Value.bool):=hB.ext kr;have hlw:=hB.lt;have kt:∀s,s<q.n→qq [b4,mb] E.heap (rv s) (qD (rstr q.a lf).ed s):=λs hs=>QT (Qq (T.own s hs) H) (by have:=y9 (rstr q.a lf).ed s;omega) (λb hb hm=>by
   have h1:=(Qk (T.own s hs) b hb).1;have h2:=QR (T.own s hs) b hb;simp only[List.mem_cons,List.not_mem_nil,or_false] at hm;omega)
  have hH:=go.ext H;have gw:∀b,b<w2.heap.size→b∉[b4,mb]:=λb hb hm=>by have:=gv b hm;omega
  have p3:bE∉[b4,mb]:=by simp only[List.mem_cons,List.not_mem_nil,or_false];omega
  have p4:q.bl<w2.heap.size:=by omega
  have hBl9:q.bl∉[b4,mb]:=gw _ p4;have p5:QZ E.heap b4 58 [r2,.int .i64 0,nS,nS]:=((hC.ext hF)).ext H;have p6:QZ E.heap b2 58 [nS,.int .i64 0,nS,nS]:=((h9.ext hL).ext S).ext (hF.trans H);have p7:=Qq hv (S.trans (hF.trans H));have p8:Qu 3 E.heap.size gt (.slice (some ⟨kq,0,none⟩) 1 1) [0]:=p1.own (n:=1) (sz:=1) O (by omega) (by omega)
  have ku:Qbh (Zz (rstr q.a lf)).num (mput [] (0:Int) (.int .i64 0)):=by
   have h0:Qbh (List.replicate q.n (-1)) ([]:List (Int×Value)):=λs hs=>by
    have p9:s<q.n:=by simpa using hs
    have:cget (List.replicate q.n (-1)) s=-1:=by unfold cget;simp[List.getD,p9]
    rw[this];rfl
   have h1:=h0.set (k:=0) (by simp;omega) (v:=0) (Nc _);unfold Zz;rw[kj];exact h1
  have gx:∀e∈(rstr q.a lf).ed,0≤e.1∧e.1<q.a.st∧0≤e.2.2∧e.2.2<q.a.st:=λe he=>by have:=pd.ed e he;exact ⟨this.1,this.2.1,this.2.2.2.1,this.2.2.2.2⟩
  have kv:KI q.a.st (Zz (rstr q.a lf)):=Qcn (a:=rstr q.a lf) po;have kw:(rstr q.a lf).mr=q.a.mr:=rfl;refine Zd (rstr q.a lf) λR hR=>?_;rw[hR] at V kt ku gx kv kw ko;have qc:R.al=q.a.al:=by rw[←hR];rfl
  have hnN:q.a.st.toNat=q.n:=by omega
  refine Qh<|QB (α:=Nat×Cs×List (Int×Value)×Value×Value×Value) [(9,10),(12,14),(78,142)] (λz=>[(9,z.2.2.2.1),(10,.int .i64 z.1)])
   (λz w'=>JA b4 mb r2 E z.2.1 z.2.2.1 z.2.2.2.1 z.2.2.2.2.1 z.2.2.2.2.2 w'∧z.1≤z.2.1.ord.length∧KI q.a.st z.2.1∧z.2.1.mk'.length≤z.1∧z.2.1.ed.length≤z.1*131072∧Yd R (q.n - z.1) z.1 z.2.1=Yd R q.n 0 (Zz R)) (λz=>q.n - z.1) (by rfl)
   (0,Zz R,mput [] (0:Int) (.int .i64 0),.slice (some ⟨kq,0,none⟩) 1 1,nS,nS) ⟨O,O,U⟩
   ⟨⟨hy.any,p5.ext hy,kp.ext hy,ku,p8,QN _ _ _ _,QN _ _ _ _,Dj.nil' _,Dj.nil' _,Dj.nil' _⟩,Lk _,kv,Lk _,Lk _,O⟩ ?_
  rintro ⟨i,c,m,vo,vk,ve⟩ g qf ⟨I,hi,hc,ql,qo,gy⟩;simp only[] at I hi hc ql qo gy;have hcle:=hc.le;have hS:=Qu.ints (L:=[]) I.o (by omega) (by simp);refine Qf<|Qc<|Qb<|Qb<|x (Qs hS O)<|x (QA O O)<|xe<|QG O (λqr=>?_) (λqr=>?_)
  ·refine Qz ?_;have q0:c=Yd R q.n 0 (Zz R):=by rw[←gy,zn (by omega)]
   refine Qc<|Qb<|x (Qs hS O)<|x (Qa O)<|xl O<|QE I.B4 O O (by simp) rfl λhj Y hf=>xe ?_;have q1:=Qu.ints (L:=[]) I.k (by omega) (by simp);have q2:=Z5.eds (L:=[]) I.e (by have:=hc.el;omega) (by simp)
   refine Qc<|x (Qr hf O O)<|Qb<|xl O<|Qp (us:=[r2,.int .i64 c.ord.length,vk,ve]) ((p6.step I.st (gw _ (by omega))).step Y (by simp;omega)) O O O O ⟨hM.one,O,q1.one,q2.one,U⟩ λq3 hT q4=>Qe ?_;have kx:Step [b4,mb] E hj:=I.st.then Y (λb hb=>.inl (by simp at hb;simp[hb]));have q5:Step [] w q3:=(kr.then kx (λb hb=>.inr (by have:=gv b hb;omega))).then1 hT (by omega)
   refine Qn ⟨[.agg #[r2,.int .i64 c.ord.length,vk,ve],vo],⟨⟨_,O,Qv O (q4.at (L:=[]) (by simp)).cells⟩,rfl,U⟩,q5,_,_,rfl,?_,hS.one⟩;rw[←q0] at V;subst V;have k1:=Qj (Qj I.k Y (λb hb=>by have:=(Qk I.k b hb).1;simp;omega)) hT (λb hb=>by have:=(Qk I.k b hb).1;simp;omega)
   have k2:=Qj (Qj I.e Y (λb hb=>by have:=(Qk I.e b hb).1;simp;omega)) hT (λb hb=>by have:=(Qk I.e b hb).1;simp;omega);have k3:=Qj (Qj p7 kx (λb hb=>gw b (pm b hb))) hT (λb hb=>by have:=(Qk hv b hb).1;simp;omega)
   exact ⟨r2,vk,ve,O,λL' hE=>⟨by rw[qc];exact Qu.ints k3 hA.a.al.le (λb hb=>by have:=hE b hb;omega),Qu.ints k1 (by show c.mk'.length≤_;omega) (λb hb=>by have:=hE b hb;omega),Z5.eds k2 (by show c.ed.length≤_;have:=hc.el;omega) (λb hb=>by have:=hE b hb;omega)⟩⟩
  have G:i<c.ord.length:=by omega
  refine Qi ?_;have ky:=Zi G;have hsr:=hc.ord _ (Jb G);have hh:=QcH (a:=R) G;refine Zd (cget c.ord i) λs0 kz=>?_;rw[kz] at ky hsr hh;have k0:s0=(s0.toNat:Int):=by omega
  have gz:s0.toNat<q.n:=by omega
  have za:qD R.ed s0.toNat=Zy R.ed s0:=by unfold qD;rw[←k0]
  have hU:=kt s0.toNat gz;rw[za] at hU;have zv:=JH R.ed s0;have k5:∀e∈Zy R.ed s0,0≤e.2.2∧e.2.2<q.a.st:=λe he=>⟨(gx e (Zu he).1).2.2.1,(gx e (Zu he).1).2.2.2⟩;refine Zd (Zy R.ed s0) λos z0=>?_;rw[z0] at hU zv k5 hh;refine Qf<|Qh<|Qf<|Qc<|Qb<|Qb<|Qb<|xii (i:=i) hS O O G λa87 k6=>?_;rw[ky] at k6
  refine x (Qx k6 O)<|x (Zh (i:=s0.toNat) O (congrArg (Value.int .i64) k0) gz)<|x (Qd (u:=rv s0.toNat) (hH.step I.st p3) O (y8 gz))<|x (Qs (hU.st I.st) O)<|Qb<|xe<|Qh<|QB (α:=Nat×Cs×List (Int×Value)×Value×Value) [(9,9),(12,14),(92,126)] (λz=>[(9,z.2.2.2.1),(92,.int .i64 z.1)])
   (λz w'=>JA b4 mb r2 E z.2.1 z.2.2.1 z.2.2.2.1 vk z.2.2.2.2 w'∧z.1≤os.length∧KI q.a.st z.2.1∧z.2.1.mk'=c.mk'∧z.2.1.ed.length=c.ed.length+z.1∧(∃r,z.2.1.ord=c.ord++r)∧(os.drop z.1).foldl (Q7 i) z.2.1=os.foldl (Q7 i) c) (λz=>os.length - z.1) (by rfl) (0,c,m,vo,ve) ⟨O,O,U⟩
   ⟨I,Lk _,hc,O,O,⟨[],by simp⟩,rfl⟩ ?_
  rintro ⟨k4,d,m4,hV,hW⟩ g hj ⟨hg,z2,J,g0,k7,hX,h3⟩;simp only[] at hg z2 J g0 k7 hX h3;have hcle4:=J.le;have z3:=Qu.ints (L:=[]) hg.o (by omega) (by simp);have g2:i<d.ord.length:=by obtain ⟨r,hr⟩:=hX;rw[hr,Lh];omega
  have k8:cget d.ord i=s0:=by obtain ⟨r,hr⟩:=hX;rw[hr,qb G];exact kz
  refine Qc<|x (QA O O)<|xe<|Qf<|QG O (λz4=>?_) (λz4=>?_)
  ·refine Qz ?_;rw[Lq (by omega),Nl] at h3;rw[←h3] at hh;have k9:=p2.st hg.st;have z9:d.ord[i]'g2=s0:=by rw[Zi g2];exact k8
   have hmkC:Zv R i d=if s0∈q.a.mr then ⟨d.ord,d.num,d.mk'++[(i:Int)],d.ed⟩ else d:=by
    unfold Zv;rw[J4,Ms,k8,kw]
   rw[hmkC] at hh;have hY:Yd R (q.n - (i+1)) (i+1) (Kd R i c)=Yd R q.n 0 (Zz R):=by
    rw[←gy];obtain ⟨t,ht⟩:∃t,q.n - i=t+1:=⟨q.n - i - 1,by omega⟩;rw[ht,Yd,if_pos G,show q.n - (i+1)=t by omega]
   have hm4l:=congrArg List.length g0;refine Qf<|QW (Step [] hj) [(0,true),(1,true),(2,true),(3,true),(4,true),(5,true),(6,true),(7,true),(8,true),(9,false)] mixed (by rfl) (by kernel_rfl) (Step.drew _ _) ?_;refine p (λ_=>Qo)<|p (λ_=>QF O)<|p (λ_=>Qa O)<|p (λ_=>Qa O)<|pq (λ_ hc=>Qd (k9.B.ext hc) O O)<|p (λ_=>Qo) <|
    p (λ_=>Qo)<|pii (i:=i) O z3 O O g2 λa134 ma=>?_
   rw[z9] at ma;refine pq (λ_ hc=>Qx (ma.ext hc) O)<|pk<|xf<|(ZM (k9.a.mr.ext (Step.drew _ _)) s0).mono ?_;rintro r16 w16 ⟨rfl,rfl⟩;refine ⟨Step.drew _ _,pe ?_⟩;have ha:=hg.ext (Step.drew [] hj);refine QG O (λg3=>?_) (λg3=>?_)
   ·rw[if_neg g3] at hh;refine Qi<|Qy<|Qb<|QP O O<|Qe ?_;rw[hh] at hY;exact ⟨(i+1,d,m4,hV,vk,hW),by simp only[];omega,⟨O,O,U⟩,ha,by simp only[];omega,J,by simp only[];omega,by simp only[];omega,hY⟩
   rw[if_pos g3] at hh;refine Qy<|x (Qa O)<|x (Qd ha.B4 O O)<|Qb<|xl O<|QC (us:=[[.int .i64 i]]) O O (by decide) (by simp) ⟨rfl,rfl,U⟩ λb140 w17 hs17 hb140 hB140=>?_;have hJ:=ha.ext hs17;refine xl O<|Q2 (news:=[.int .i64 i]) (L:=[]) hJ.k O O O (hB140.at (by simp)) (by simp[Value.oneCell']) (by omega) hJ.st.size λmc w18 mf mg hn18=>?_
   have hk18:Qu 3 E.heap.size w18 mc (d.mk'++[(i:Int)]):=Qu.snoc mf;refine x (Qa O)<|xl O<|QE (hJ.B4.step mg (QM hJ.k hG)) O O (by simp) (QH mf) λw19 hs19 hB19=>xe ?_;have hI19:=hJ.setK hG hQ gu mg hk18 hn18 hs19 hB19;refine Qy<|Qb<|QP O O<|Qe ?_;rw[hh] at hY
   exact ⟨(i+1,⟨d.ord,d.num,d.mk'++[(i:Int)],d.ed⟩,m4,hV,mc,hW),by simp only[];omega,⟨O,O,U⟩,hI19,by simp only[];omega,⟨J.nl,J.sum,J.ord,J.num,J.el⟩,by simp only[List.length_append,List.length_singleton];omega,by simp only[];omega,hY⟩
  refine Qi ?_;have hZ:k4<os.length:=by omega
  have hdr:=QY hZ;rw[hdr,LJ] at h3;have g4:=k5 _ (Li hZ);refine Zd (os[k4]'hZ) λe he=>?_;rw[he] at h3 g4;have ga:e.2.2=(e.2.2.toNat:Int):=by omega
  have gb:e.2.2.toNat<d.num.length:=by rw[J.nl];omega
  have mh:=hg.nm e.2.2.toNat gb;rw[←ga] at mh;have mj:Zn d.num e.2.2=cget d.num e.2.2.toNat:=rfl;refine Qf<|Qh<|Qc<|xie (hU.st hg.st) O O hZ λa94 mo=>?_;rw[he] at mo;refine x (QI mo O O)<|xl O<|Qt (us:=[.int .i64 0,.int .i64 0,.int .i64 0]) O λg5 w20 hs20 g6 hf=>xl O<|Qp (us:=Qw e) hf O O O O ⟨O,O,O,U⟩ λgc hs21 hf=>xe ?_;have mq:Step [] hj gc:=hs20.then1 hs21 g6
  have ha:=hg.ext mq;have hl12:=hf.lt;have hz21:=mq.size;have hIz:=hg.st.size;have ms:KI q.a.st (Q7 i d e):=yT J g4.1 g4.2 (by have:=J.el;omega);have mt:Q7 i d e=⟨(ZS d e).ord,(ZS d e).num,(ZS d e).mk',(ZS d e).ed++[((i:Int),e.2.1,Zn (ZS d e).num e.2.2)]⟩:=Uv gb;have hordl:=ms.le
  refine QU (α:=Value) [(13,14),(96,102)] (λz=>[(13,.int .i64 (if cget d.num e.2.2.toNat<0 then 0 else cget d.num e.2.2.toNat)),(14,.bool (!decide (cget d.num e.2.2.toNat<0)))]) (λz w'=>w'=gc) (by rfl) ?_ ?_
  ·refine Qy<|Qb<|x (Qa O)<|x (Qd hf O O)<|x (v:=.tuple #[.int .i64 (if cget d.num e.2.2.toNat<0 then 0 else cget d.num e.2.2.toNat),.bool (!decide (cget d.num e.2.2.toNat<0))]) ((KW (k:=e.2.2) ha.M O O).trans (congrArg (λv=>Result.ok (Next.value v) _) ?_))<|Qb<|x (Ql O O)<|x (Ql O O)<|x Qg<|Qe ?_
   ·rw[mh];by_cases ho:cget d.num e.2.2.toNat<0
    ·simp[ho]
    simp[ho]
   exact ⟨.bool true,⟨O,O,U⟩,O⟩
  rintro z5 g gc rfl;refine QU (α:=Value×List (Int×Value)×Int) [(9,9),(13,13),(103,115)] (λz=>[(9,z.1),(13,.int .i64 z.2.2)]) (λz w'=>cget (ZS d e).num e.2.2.toNat=z.2.2∧JA b4 mb r2 E (ZS d e) z.2.1 z.1 vk hW w'∧QZ w'.heap g5 144 (Qw e)∧gc.heap.size≤w'.heap.size) (by rfl) ?_ ?_
  ·refine Qc<|Qb<|x (Zr O)<|xe<|Q3 O (λg7=>?_) (λg7=>?_)
   ·have ho:cget d.num e.2.2.toNat<0:=by simpa using g7
    have hK:ZS d e=⟨d.ord++[e.2.2],d.num.set e.2.2.toNat d.ord.length,d.mk',d.ed⟩:=by unfold ZS;rw[mj,if_pos ho]
    have hcg:cget (ZS d e).num e.2.2.toNat=(d.ord.length:Int):=by rw[hK];unfold cget;simp[List.getD,gb]
    refine Qc<|Qb<|x (Qs (Qu.ints (L:=[]) ha.o (by omega) (by simp)) rfl)<|Qe<|Qc<|Qb<|x (Qa rfl)<|x (Qd hf rfl rfl)<|Qb<|xl rfl<|Xn (k:=e.2.2) ha.M rfl rfl λw22 g8 hM22=>xe ?_;have mu:=ha.nm.set gb (v:=(d.ord.length:Int)) (by omega);rw[←ga] at mu;have hI6:=ha.setN hQ gu g8 hM22 mu;have ge:=hf.step g8 (by simp;omega)
    refine Qy<|Qb<|x (Qa O)<|x (Qd ge O O)<|xl O<|QC (us:=[[.int .i64 e.2.2]]) O O (by decide) (by simp) ⟨rfl,rfl,U⟩ λb114 w23 g9 hb114 hB114=>?_;have ka:=hI6.ext g9;refine xl O<|Q2 (news:=[.int .i64 e.2.2]) (L:=[]) ka.o O O O (hB114.at (by simp)) (by simp[Value.oneCell']) (by show d.ord.length+1≤_;omega) ka.st.size λmv w24 ho24 S hn24=>Qe ?_
    have hk24:Qu 3 E.heap.size w24 mv (d.ord++[e.2.2]):=Qu.snoc ho24;have hb12o:g5∉ob hV:=λhb=>by have:=QR hg.o g5 hb;omega
    have h4:=ka.setO hG hQ S hk24 hn24;have:=g8.size;have:=g9.size;have:=S.size;refine ⟨(mv,mput m4 e.2.2 (.int .i64 d.ord.length),(d.ord.length:Int)),⟨O,O,U⟩,hcg,?_,(ge.ext g9).step S hb12o,by omega⟩;simp only[];rw[hK];exact h4
   have ho:¬cget d.num e.2.2.toNat<0:=by simpa using g7
   have hK:ZS d e=d:=by unfold ZS;rw[mj,if_neg ho]
   have kg:(if cget d.num e.2.2.toNat<0 then 0 else cget d.num e.2.2.toNat)=cget (ZS d e).num e.2.2.toNat:=by rw[hK,if_neg ho]
   refine Qi<|⟨(hV,m4,if cget d.num e.2.2.toNat<0 then 0 else cget d.num e.2.2.toNat),⟨O,O,U⟩,kg.symm,?_,hf,Lr _⟩
   rw[hK];exact ha
  rintro ⟨vo5,m5,tn⟩ g w25 ⟨mw,h4,ge,hz25⟩;simp only[] at h4 mw;have hnl:(ZS d e).num.length=d.num.length:=QbM d e;have my:(ZS d e).ed=d.ed:=by unfold ZS;split <;> rfl
  have hgN:Zn (ZS d e).num e.2.2=cget (ZS d e).num e.2.2.toNat:=rfl;rw[hgN,my,mw] at mt;have heN:Z5 144 E.heap.size w25 hW d.ed:=by have:=h4.e;rw[my] at this;exact this
  refine Qy<|x (Qa O)<|x (Qd h4.B4 O O)<|Qb<|x (Qa O)<|x (Qd ge O O)<|Qb<|x (QD ⟨O,O,O,U⟩) <|
   xl rfl<|QC (us:=[Qw ((i:Int),e.2.1,tn)]) O O (by decide) (by exact (by decide:1*3≤1000000)) ⟨O,O,U⟩ λb123 w26 mz hb123 hB123=>?_
  have gg:=h4.ext mz;refine xl O<|Q2 (m:=1) (news:=Qw ((i:Int),e.2.1,tn)) (L:=[]) (Qq heN mz) O O O (hB123.at (by simp)) (λu hu=>by simp only[Qw,List.mem_cons,List.not_mem_nil,or_false] at hu;rcases hu with rfl | rfl | rfl <;> rfl) (by have:=J.el;omega) gg.st.size λm0 w27 m1 m2 hn27=>?_
  have hk27:Z5 144 E.heap.size w27 m0 (d.ed++[((i:Int),e.2.1,tn)]):=Z5.snoc m1;refine x (Qa O)<|xl O<|QE (gg.B4.step m2 (QM gg.e hG)) O O (by simp) (QH m1) λw28 hs28 hB28=>xe ?_;have m3:=gg.setE hG hQ gu m2 hk27 hn27 hs28 hB28;rw[←mt] at m3;refine Qy<|QP O O<|Qb<|xe<|⟨(k4+1,Q7 i d e,m5,vo5,m0),by simp only[];omega,⟨O,O,U⟩,m3,by simp only[];omega,ms,?_,?_,?_,h3⟩
  ·simp only[];rw[←g0];exact (yU i d [] e).2
  ·simp only[];rw[yV,k7];omega
  simp only[];obtain ⟨r1,h1⟩:=qR i d e;obtain ⟨r2',h2⟩:=hX;exact ⟨r2'++r1,by rw[h1,h2,Lz]⟩
 refine Qi ?_;have G:k<q.a.ed.length:=by have hP:(k:Int)<(q.a.ed.length:Int):=gq;omega
 have m6:=hq.ok.ed _ (Li G);have htk:q.a.ed.take (k+1)=q.a.ed.take k++[q.a.ed[k]'G]:=Le G;have h5:(q.a.ed.take (k+1)).filter (λe=>lft lf e.2.2)=(q.a.ed.take k).filter (λe=>lft lf e.2.2)++if lft lf (q.a.ed[k]'G).2.2=true then [q.a.ed[k]'G] else []:=by
  rw[htk,L0];congr 1;by_cases h:lft lf (q.a.ed[k]'G).2.2=true
  ·simp[h]
  simp[h]
 have hfll:((q.a.ed.take k).filter (λe=>lft lf e.2.2)).length≤k:=LR (Mb _ _) (by rw[Lv];omega);refine Zd ((q.a.ed.take k).filter (λe=>lft lf e.2.2)) λkept hkept=>?_;rw[hkept] at h5 T hfll;refine Zd (q.a.ed[k]'G) λe he=>?_;rw[he] at m6 h5;have m7:e.1=(e.1.toNat:Int):=by omega
 have ga:e.2.2=(e.2.2.toNat:Int):=by omega
 have gm:=VF (l:=lf) (s:=e.2.2) (by omega);have hp:e.1.toNat<q.n:=by omega
 refine Qf<|Qh<|Qc<|xie kn.a.ed O O G λa52 hP=>?_;rw[he] at hP;refine x (QI hP O O)<|xl O<|Qt (us:=[.int .i64 0,.int .i64 0,.int .i64 0]) O λb7 w8 gr hb7 h6=>xl O<|Qp (us:=Qw e) h6 O O O O ⟨O,O,O,U⟩ λE gs h6=>xe ?_;have H:Step [] w7 E:=gr.then1 gs hb7;have p0:=H.size;have hA9:=kn.ext H;have hB9:=hB.ext (gp.trans H);have kb:=T.ext H;have hH:=go.ext H
 refine Qf<|QW (Step [] E) [(0,true),(1,true),(2,true),(3,true),(4,true),(5,true),(6,true),(7,true)] mixed (by rfl) (by kernel_rfl) (Step.drew _ _) ?_;refine p (λ_=>Qo)<|p (λ_=>QF O)<|p (λ_=>Qa O)<|pq (λ_ hc=>Qd (hA9.B.ext hc) O O)<|p (λ_=>Qa O)<|pq (λ_ hc=>Qd (h6.ext hc) O O) <|
  p (λ_=>Zh (i:=e.2.2.toNat) O (congrArg (Value.int .i64) ga) (by omega))<|pq (v:=.bool (lft lf e.2.2)) (λ_ hc=>(XJ (i:=e.2.2.toNat) (hB9.ext hc) O (by omega)).trans (by rw[gm]))<|pe ?_
 have h7:Step [] E { E with drawn:=E.drawn+1 }:=Step.drew _ _
 refine Q3 rfl (λkc=>?_) (λkc=>?_)
 ·rw[if_pos kc] at h5;have hrow:=kb.own _ hp;have ke:∀b∈ob (rv e.1.toNat),w6.heap.size≤b∧b<w7.heap.size:=λb hb=>⟨(Qk (T.own _ hp) b hb).1,QR (T.own _ hp) b hb⟩;have m8:bE∉ob (rv e.1.toNat):=λhb=>by have:=ke _ hb;omega
  have kf:b7∉ob (rv e.1.toNat):=λhb=>by have:=ke _ hb;omega
  have ko:=y9 kept e.1.toNat;refine QW (Step (ob (rv e.1.toNat)) E) [(0,true),(1,true),(2,true),(3,true),(4,true),(5,true),(6,true),(7,true),(8,true),(9,false),(10,false),(11,true),(12,false)] mixed (by rfl) (by kernel_rfl) (h7.any.trans' (Step.drew _ _)) ?_;refine p (λ_=>Qo)<|p (λ_=>Qa O)<|pq (λ_ hc=>Qd (h6.step hc kf) O O)<|p (λ_=>Qo)<|p (λ_=>Qa O) <|
   pq (λ_ hc=>Qd (h6.step hc kf) O O)<|p (λ_=>Zh (i:=e.1.toNat) O (congrArg (Value.int .i64) m7) hp)<|pq (λ_ hc=>Qd (u:=rv e.1.toNat) (hH.step hc m8) O (y8 hp)) <|
   pq (λ_ hc=>Qr (h6.step hc kf) O O)<|pk<|QC (us:=[Qw e]) O O (by decide) (by exact (by decide:1*3≤1000000)) ⟨O,O,U⟩ λb71 gt hy hb71 hB71=>⟨(h7.any.trans' (Step.drew _ _)).trans' hy.any,?_⟩
  have h8:Step [] E gt:=(h7.trans (Step.drew _ _)).trans hy;have hz10:=h8.size;refine pk<|Q2 (m:=1) (news:=Qw e) (L:=[]) (Qq hrow h8) O O O (hB71.at (by simp)) (λu hu=>by simp only[Qw,List.mem_cons,List.not_mem_nil,or_false] at hu;rcases hu with rfl | rfl | rfl <;> rfl) (by omega) (by omega) λvr qf m9 gh hn11=>⟨h8.any.trans' gh,?_⟩
  have hBE11:=(hH.ext h8).step gh m8;have hlen:((List.range q.n).map rv).length=q.n:=by simp
  refine p (λ_=>Zh (i:=e.1.toNat) O (congrArg (Value.int .i64) m7) hp)<|pkl (hl:=by kernel_rfl)<|QE (j:=0+e.1.toNat*1) (u:=vr) hBE11 O O (by rw[hlen];omega) (QH m9) λhj Y hBE12=>pe ?_;have g6:QZ hj.heap bE 56 ((List.range q.n).map (Km rv e.1.toNat vr)):=by
   have e1:=QdL id q.n rv e.1.toNat vr;simp only[id] at e1;rw[←e1];simpa using hBE12
  have hvn:∀b∈ob vr,b∈ob (rv e.1.toNat)∨E.heap.size≤b:=λb hb=>(hn11 b hb).imp id (λh=>by omega);have pa:=kb.app hp (Z5.snoc m9) (h8.any.trans' gh) hvn;have pc:=pa.step Y (λi hi b hb=>by have:=(Qk (pa.own i hi) b hb).1;simp only[List.mem_singleton];omega);rw[QcG kept e m6.1,←h5] at pc;refine Qy<|QP O O<|Qb<|xe ?_
  exact ⟨(k+1,Km rv e.1.toNat vr),by simp only[];omega,Z,G,(((hO.trans H).trans h8).then gh (λb hb=>.inr (ke b hb).1)).trans' Y,g6,pc⟩
 rw[if_neg (by rw[kc];decide),LF] at h5;refine Qi<|Qy<|QP O O<|Qb<|xe ?_;exact ⟨(k+1,rv),by simp only[];omega,Z,G,(hO.trans H).trans h7,(hH.ext h7),by simp only[];rw[h5];exact kb.ext h7⟩
open Go.Sort
abbrev Rz:={ x:Int×Int×Int×Int // 0≤x.1∧x.1<4096 }
instance:Inhabited Rz:=⟨⟨(0,0,0,0),by decide⟩⟩
abbrev Uz (x:Rz):LV:=[.int .i64 x.1.1,.int .i64 x.1.2.1,.int .i64 x.1.2.2.1,.int .i64 x.1.2.2.2]
abbrev RzO (base:Nat) (w:World) (v:Value) (l:List Rz):Prop:=w.ownsRow base 320 4 v l.length (l.flatMap Uz)
set_option maxHeartbeats 1000000 in
theorem QkW (x y:Rz) (W:World):Calls prog 216 #[.agg (Uz x).toArray,.agg (Uz y).toArray] W λe w'=>e=.returned (.int .i64 (x.1.1 - y.1.1))∧∃q os',w'=grow (W.drewN q) os':=by
 have E:IntKind.i64.wrap (x.1.1 - y.1.1)=x.1.1 - y.1.1:=Yi ⟨by have:=x.2;have:=y.2;omega,by have:=x.2;have:=y.2;omega⟩
 go_enter func216,ntmps216
 go_wp2
 go_ret;exact ⟨by rw[←E];rfl,0,_,by rw[alloc_eq_grow,alloc_eq_grow,grow_grow];rfl⟩
theorem zJ (x:Rz):(Uz x).length=4:=rfl
theorem zI:∀l:List Rz,(l.flatMap Uz).length=l.length*4
 | []=>rfl
 | x::l=>by rw[LD,Lh,zI l,zJ,LG];omega
theorem Qby {l:List Rz}{j:Nat}(G:j<l.length*4):(l.flatMap Uz)[j]?=some ((flatK Uz 4 l.toArray)[j]!):=by
 have h1:j / 4<l.length:=Nat.div_lt_of_lt_mul (by omega);have h2:j % 4<4:=Nat.mod_lt _ (by decide);rw[get_flatK _ _ _ _ (by simpa using G)];have h3:=XM Uz 4 zJ l (j / 4) h1;have H:(l.flatMap Uz)[j]?=(Uz (l[j / 4]'h1))[j % 4]?:=by
  rw[←h3,LT,if_pos h2,ME];congr 1;omega
 rw[H];have h5:(l.toArray)[j / 4]! = l[j / 4]'h1:=by simp[h1]
 rw[h5];have E:j % 4<(Uz (l[j / 4]'h1)).length:=h2;exact (LB E).trans (congrArg some (getElem!_pos (Uz (l[j / 4]'h1)) (j % 4) E).symm)
theorem QiZ:SWO (ltOf λx y:Rz=>x.1.1 - y.1.1) where
 irrefl x:=by unfold ltOf;simp
 trans x y z h1 h2:=by unfold ltOf at *;simp at *;omega
 ntrans x y z h1 h2:=by unfold ltOf at *;simp at *;omega
set_option maxHeartbeats 1000000 in
theorem QcE {w:World}{base:Nat}{v:Value}{l:List Rz}(h:RzO base w v l) (hl:l.length≤1099511627776) :
  QK prog 215 [v,.func (.func 216) #[] #[]] w λ_ w'=>Step (ob v) w w'∧∃l',l'.length=l.length∧RzO base w' v l':=by
 unfold QK;rcases h.2 with ⟨rfl,h0⟩ | ⟨g,cap,cur,rfl,ha,H,S,hb,T,hf⟩
 ·have hh:l=[]:=Lp h0;subst hh;have hc:=AnyF.slices_SortFunc_none Tryz.sortRm none 0 (.func (.func 216) #[] #[]) w;change Calls prog 215 _ _ _ at hc;refine Calls.mono hc λe w' he=>?_;obtain ⟨rfl,rfl⟩:=he;exact ⟨Step.refl _ _,[],O,h⟩
 have V:g<w.heap.size:=(LC.1 H).1;have hq:l.length*4≤cur.size:=by rw[T];exact Mt _ S
 have hH:HoldsK Uz 4 w g 0 l.toArray:=by
  intro j E;rw[size_flatK,LQ] at E;have h1:=Qby E;rw[←hf,LT,if_pos E] at h1;constructor
  ·show (match w.heap[g]? with | some (.cells c _ _)=>if (none:Option _).isSome then none else c[0+j]? | _=>none)=_
   rw[H];simp only[Nat.zero_add,Option.isSome_none,Bool.false_eq_true,if_false];rw[←MB,h1];rfl
  show (match w.heap[g]? with | some (.cells _ _ (lo,hi))=>decide (lo≤0+j) && decide (0+j<hi) | _=>false)=false
  rw[H];simp
 have eg:∀args w,(callFunc 216 args).run prog w=.ok (.enter 216 args) w:=enters_of func216 (by kernel_rfl) O;have hc:=AnyQ.slices_SortFunc Tryz.sortRm 4 Tryz.isAgg320 Tryz.sizeOf320 Uz zJ (λx v Y=>by simp at Y;rcases Y with rfl | rfl | rfl | rfl <;> rfl) (λx y=>x.1.1 - y.1.1) QiZ 216 #[] g 0 cap l.toArray w eg (λm os dk _ x y=>QkW x y _) hH V (by simp;omega)
 change Calls prog 215 _ _ _ at hc;rw[LQ] at hc;refine Calls.mono hc λe w' he=>?_;obtain ⟨rfl,G,n,os,hp,_,rfl⟩:=he;have I:G.size=l.length:=by have:=hp.1;simpa using this
 have J:(sortWorldK Uz 4 w g 0 n G os).heap=w.heap.modify g (onCells (putCells id 0 (flatK Uz 4 G)))++os:=rfl;refine ⟨⟨rfl,O,O,?_,λk hk hn=>?_⟩,G.toList,by simpa using I,?_⟩
 ·rw[J,M9,Mr];omega
 ·rw[J,Mn,Mr,if_pos hk,MK,if_neg (λe=>hn (by simp[ob,e]))]
 refine ⟨zI _,.inr ⟨g,cap,putCells id 0 (flatK Uz 4 G) cur,by simp[I],ha,?_,by simp[I];exact S,hb,by simp[putCells,T],?_⟩⟩
 ·rw[J,Mn,Mr,if_pos V,MK,if_pos rfl,H];rfl
 apply Na;intro j;rw[LT];by_cases E:j<G.toList.length*4
 ·rw[if_pos E,Qby E,MB];have hm:j<cur.size:=by simp[I] at E;omega
  have ho:j<(flatK Uz 4 G).size:=by simpa using E
  simp only[putCells,Array.getElem?_mapIdx,Array.getElem?_eq_getElem hm,Option.map_some,Nat.zero_le,Nat.zero_add,true_and,if_pos ho,Nat.sub_zero,id]
 rw[if_neg E,MT];rw[zI];omega
theorem Qja {a:QQ}{ul:LI}{lf:Lf}{n:Nat}(E:Q8 a) (G:a.st=(n:Int)) (hl:lf.length=n):∀x∈nxs a ul lf,0≤x∧x<(n:Int):=λx hx=>by
 have h1:=QeK x hx;have h2:x.toNat<n:=by
  refine Decidable.byContradiction λh=>?_;unfold lft at h1;simp[List.getD,List.getElem?_eq_none (show lf.length≤x.toNat by omega)] at h1
 unfold nxs at hx;split at hx
 ·obtain ⟨p,hp,rfl⟩:=Lx.1 hx;obtain ⟨_,e,he,h3,_⟩:=(yf a ul lf).1 p hp;have:=E.ed e he;omega
 have:=((Vm lf (dsts a lf) 0).1 x hx).2;omega
theorem Qiu {rk rs:Int}:∀(l:List (Int×Int)),(∀x∈l.map (·.1),0≤x∧x<4096)→∃lz:List Rz,lz.flatMap Uz=l.flatMap (jb rk rs)∧lz.length=l.length
 | [],_=>⟨[],O,O⟩
 | x::l,h=>by
  obtain ⟨lz,h1,h2⟩:=Qiu l (λy hy=>h y (Ll _ hy));exact ⟨⟨(x.1,rk,rs,x.2),h x.1 Ln⟩::lz,by rw[LD,LD,h1],by simp[h2]⟩
theorem QbK:∀l:List Rz,∀u∈l.flatMap Uz,u.oneCell'=true
 | [],u,h=>by cases h
 | x::l,u,h=>by
  rw[LD,Lj] at h;rcases h with h | h
  ·simp only[Uz,List.mem_cons,List.not_mem_nil,or_false] at h;rcases h with rfl | rfl | rfl | rfl <;> rfl
  exact QbK l u h
theorem RzO.snoc {base:Nat}{w:World}{v:Value}{l m:List Rz}(h:w.ownsRow base 320 4 v (l.length+m.length) (l.flatMap Uz++m.flatMap Uz)):RzO base w v (l++m):=by
 unfold RzO;rw[Lh,Ly];exact h
abbrev Ju (k d r:Value) (n:Int):LV:=[k,d,r,.int .i64 n,nS,.int .i64 0,nS,nS,nS]
structure ReI (b10:Nat) (q:Pz) (wB:World) (lf:Lf) (rn:Int) (vr:Value) (lz:List Rz) (w:World):Prop where
 st:Step [b10,q.bl] wB w
 B10:QZ w.heap b10 170 (Ju (nS) (nS) vr rn)
 R:RzO wB.heap.size w vr lz
 F:QZ w.heap q.bl 4 (lf.map Value.bool)
 n:lf.length=q.n
section
variable {b10:Nat} {q:Pz} {wB w w' w'':World} {lf:Lf} {rn:Int} {vr:Value} {lz:List Rz}
theorem ReI.ext (h:ReI b10 q wB lf rn vr lz w) (hs:Step [] w w'):ReI b10 q wB lf rn vr lz w':=⟨h.st.trans hs,h.B10.ext hs,Qq h.R hs,h.F.ext hs,h.n⟩
theorem ReI.cut (h:ReI b10 q wB lf rn vr lz w) (l:q.bl<wB.heap.size) (ne:b10≠q.bl) (hs:Step [q.bl] w w') {E:Lf}(G:QZ w'.heap q.bl 4 (E.map Value.bool)) (H:E.length=q.n):ReI b10 q wB E rn vr lz w' :=
 ⟨h.st.then hs (λb hb=>.inl (by simp only[List.mem_singleton] at hb;simp[hb])),h.B10.step hs (by simpa using ne),Qj h.R hs (λb hb=>by have:=(Qk h.R b hb).1;simp only[List.mem_singleton];omega),G,H⟩
theorem ReI.app (h:ReI b10 q wB lf rn vr lz w) (l:q.bl<wB.heap.size) (T:b10<wB.heap.size) (ne:b10≠q.bl) {E:Value}{H:List Rz}{I:Int}(hs:Step (ob vr) w w') (J:RzO wB.heap.size w' E H) (G:Step [b10] w' w'')
  (S:QZ w''.heap b10 170 (Ju (nS) (nS) E I)):ReI b10 q wB lf I E H w'':=by
 have hge:=Qk h.R;exact ⟨(h.st.then hs (λb hb=>.inr (hge b hb).1)).then G (λb hb=>.inl (by simp only[List.mem_singleton] at hb;simp[hb])),S,Qj J G (λb hb=>by have:=(Qk J b hb).1;simp only[List.mem_singleton];omega),
  (h.F.step hs (λhb=>by have:=(hge _ hb).1;omega)).step G (by simpa using ne.symm),h.n⟩
theorem ReI.rounds (h:ReI b10 q wB lf rn vr lz w) (I:b10<wB.heap.size) (ne:b10≠q.bl) {G:Int}(E:Step [b10] w w') (H:QZ w'.heap b10 170 (Ju (nS) (nS) vr G)):ReI b10 q wB lf G vr lz w' :=
 ⟨h.st.then E (λb hb=>.inl (by simp only[List.mem_singleton] at hb;simp[hb])),H,Qj h.R E (λb hb=>by have:=(Qk h.R b hb).1;simp only[List.mem_singleton];omega),h.F.step E (by simpa using ne.symm),h.n⟩
end
set_option maxHeartbeats 8000000 in
theorem QcI {w:World}{va vm ve vf vu:Value}{a:QQ}{forb unc:LI}(h:Zt [] w.heap va vm ve a) (hw:Q8 a) (hf:QL [] w.heap vf forb) (gv:∀x∈forb,0≤x∧x<a.st) (qo:forb.length≤4096) (hu:QL [] w.heap vu unc) :
  QK prog 159 [.agg #[va,.int .i64 a.st,vm,ve],vf,vu,.bool true] w λr w'=>Step [] w w'∧∃c0 c1 c2 c3 sa sm se o,r=.agg #[c0,c1,c2,c3,sa,.int .i64 (zD a forb unc).st,sm,se,o] ∧
   ZN [c0,c1,c2,c3,o]∧∀L:LN,(∀b∈L,b<w.heap.size)→Zt L w'.heap sa sm se (zD a forb unc):=by
 have qr:=hw.st0;have q0:=hw.st1;obtain ⟨n,hn⟩:∃n:Nat,a.st=n:=⟨a.st.toNat,by omega⟩;have kw:a.st.toNat=n:=by omega
 have hC:zD a forb unc=qB a (qE a unc (n+1) (lf0 n forb)):=by unfold zD Qku;rw[kw]
 refine Zd (zD a forb unc) λSA kx=>?_;rw[kx] at hC ⊢;refine QK.of_W func159 O ntmps159 results159 (by simp) ?_;refine Qc<|xl O<|QS (us:=[va,.int .i64 a.st,vm,ve]) O λb4 w1 gw q1 ky=>xl O<|Qt (us:=Ju (nS) (nS) (nS) 0) O λb8 w2 hU q2 gx=>xe ?_;have hE:=gw.trans hU;have q3:=gx.lt;have q4:=gw.size;have q5:=hU.size
 refine Qc<|x (Qr (ky.ext hU) O O)<|Qb<|Qb<|xl O<|xf<|(Qd1 (h.ext hE) hw hn (hf.ext hE) gv (hu.ext hE)).mono ?_;rintro r3 w3 ⟨hV,bp,q,rfl,kz,k0,k4,za,hP,hF⟩;refine Qe ?_;subst kz k0 k4;have hq:PzQ q:=⟨hw,hn⟩;have k5:=hE.trans hV;have zv:=hV.size;have z0:=hF.lt;refine Qc<|xl O<|Qt (us:=Ju (nS) (nS) (nS) 0) O λb10 I hz k6 gy=>xe ?_;have hW:=k5.trans hz
 have z2:=hz.size;have hG:=gy.lt;have hg:b10≠q.bl:=by omega
 have hX:q.bl<I.heap.size:=by omega
 have k7:yL [b10,q.bl] I.heap bp q:=(hP.up (λb hb=>by
  simp only[List.mem_cons,List.not_mem_nil,or_false] at hb;rcases hb with rfl | rfl
  ·exact .inr k6
  exact .inl (by simp))).ext hz
 have k8:=Qhr q.n forb;have h3:∀{w'},Step [b10,q.bl] I w'→yL [] w'.heap bp q:=λhs=>(k7.st hs).up (by simp);refine Qf<|Qc<|Qb<|x (Qs (hf.ext hW) O)<|Qb<|xe ?_
 refine Qh<|QB (α:=Nat×Int×Value×List Rz) [(12,12),(25,39)] (λz=>[(25,.int .i64 z.1)]) (λz w'=>z.1≤forb.length∧ReI b10 q I (lf0 q.n forb) z.2.1 z.2.2.1 z.2.2.2 w'∧z.2.2.2.length=z.1∧(z.2.1=0∨z.2.1=1)) (λz=>forb.length - z.1) (by rfl) (0,0,nS,[]) Z
  ⟨Lk _,⟨Step.refl _ _,gy,QN _ _ _ _,hF.ext hz,k8⟩,O,.inl O⟩ ?_
 rintro ⟨k,rn,vr,lz⟩ g w5 ⟨hk,G,hY,hH⟩;simp only[] at hk G hY hH;have k9:QL [] w5.heap vf forb:=((hf.up (L':=[b10,q.bl]) (λb hb=>by
  simp only[List.mem_cons,List.not_mem_nil,or_false] at hb;exact .inr (by omega))).ext hW |>.st G.st).up (by simp)
 refine Qc<|x (QA O O)<|xe<|Qf<|QG O (λgz=>?_) (λgz=>?_)
 ·refine Qz ?_;have z3:=Qh3 (lf0 q.n forb);refine Qf<|Qc<|Qe<|Qh<|QB (α:=Nat×Nat×Int×Value×List Rz×Lf) [(13,14),(16,16),(40,71)] (λz=>[(13,.int .i64 z.2.1)])
   (λz w'=>ReI b10 q I z.2.2.2.2.2 z.2.2.1 z.2.2.2.1 z.2.2.2.2.1 w'∧z.2.1+z.1=q.n+3∧z.2.2.2.2.1.length≤4096+z.2.1*1000000∧qE q.a q.unc z.1 z.2.2.2.2.2=qE q.a q.unc (q.n+1) (lf0 q.n forb)∧Kt z.2.2.2.2.2+1≤z.1) (λz=>z.1) (by rfl)
   (q.n+1,2,rn,vr,lz,lf0 q.n forb) Z ⟨G,by simp only[];omega,by simp only[];omega,O,by simp only[];omega⟩ ?_
  rintro ⟨f,rank,rn,vr,lz,lf⟩ g w6 ⟨G,ma,hY,h4,mc⟩;simp only[] at G ma hY h4 mc;refine Qf<|Qh<|Qc<|Qb<|Qb<|Qb<|xl O<|xf<|(QeB (h3 G.st) hq G.F G.n rank).mono ?_;rintro r7 w7 ⟨h5,rs,l,hZ,hJ,z4⟩;refine Qe ?_;have J:=G.ext h5;have g0:Zp [] w7.heap r7 l.length 4 (l.flatMap (jb rank rs)):=QT hZ (by omega) (by simp)
  have g2:(nxs q.a q.unc lf).length=l.length:=by rw[←hJ,Lc]
  have ga:=Qja (ul:=q.unc) hw hn G.n;rw[←hJ] at ga;refine Qf<|Qc<|Qb<|x (Qs g0 O)<|x (Q5 O O)<|xe<|Q6 O (λgb=>?_) (λgb=>?_)
  ·refine Qz ?_;have hM:l.length=0:=by have z5:(l.length:Int)=0:=gb;omega
   rw[QcK (by rw[g2];exact hM)] at h4;rw[←h4] at hC;refine Qc<|x (Qa O)<|x (Qa O)<|x (Qd J.B10 O O)<|xl O<|xf<|(QcE J.R (by omega)).mono ?_;rintro r8 S ⟨T,z9,_,mf⟩;refine xe ?_;have hge:=Qk J.R;have gc:Step [b10,q.bl] I S:=J.st.then T (λb hb=>.inr (hge b hb).1);have ge:QZ S.heap b10 170 (Ju (nS) (nS) vr rn):=J.B10.step T (λhb=>by have:=(hge _ hb).1;omega)
   have g3:QZ S.heap q.bl 4 (lf.map Value.bool):=J.F.step T (λhb=>by have:=(hge _ hb).1;omega);have g4:=QH mf;have hz8:=gc.size;refine Qf<|Qc<|Qb<|xl O<|xf<|(Vh (h3 gc) hq g3 J.n).mono ?_;rintro r9 E ⟨V,bD,rfl,hbD,g5,hN⟩;refine Zd (dsts q.a lf) λD hD=>?_;rw[hD] at g5 hN;have g6:QL [b10] E.heap (.slice (some ⟨bD,0,none⟩) q.n q.n) D:=by
    have h1:=g5.arr (L:=[b10]) (by simp only[List.mem_singleton];omega) (n:=q.n) (cap:=q.n) (sz:=1) (by simp[hN]) (by omega) (Lr _);unfold QL;rw[hN];exact h1
   have mg:=gc.trans V;have hz9:=V.size;have mh:=g3.ext V;refine x (Qs g6 O)<|Qb<|xe<|Qh<|QB (α:=Nat×Value×Value×LI×LI) [(17,18),(79,107)] (λz=>[(79,.int .i64 z.1)])
    (λz w'=>z.1≤D.length∧Step [b10] E w'∧QZ w'.heap b10 170 (Ju z.2.1 z.2.2.1 vr rn)∧Qu 3 E.heap.size w' z.2.1 z.2.2.2.1∧Qu 3 E.heap.size w' z.2.2.1 z.2.2.2.2∧Dj z.2.1 z.2.2.1∧z.2.2.2.1.length≤z.1∧z.2.2.2.2.length≤z.1) (λz=>D.length - z.1) (by rfl) (0,nS,nS,[],[]) Z
    ⟨Lk _,Step.refl _ _,ge.ext V,QN _ _ _ _,QN _ _ _ _,Dj.nil' _,Lr _,Lr _⟩ ?_
   rintro ⟨i,vk,vd,lk,ld⟩ g h6 ⟨hi,Y,h7,hK,hh,hO,mj,mo⟩;simp only[] at hi h7 hK hh hO mj mo;have hz10:=Y.size;have hQ:Step [b10,q.bl] I h6:=mg.then Y (λb hb=>.inl (by simp only[List.mem_singleton] at hb;simp[hb]));have g7:QZ h6.heap q.bl 4 (lf.map Value.bool):=mh.step Y (by simpa using hg.symm);refine Qc<|x (QA O O)<|xe ?_
   refine Qf<|QG O (λg8=>?_) (λg8=>?_)
   ·refine Qz<|Qc<|Qb<|xl O<|xf<|(UH (h3 hQ) hq g7 J.n).mono ?_;rintro r11 mq ⟨he,_,o,rfl,⟨sa,sm,se,rfl,gg⟩,gh⟩;rw[←hC] at gg;have hp:=gg [] (by simp);have hz11:=he.size
    refine Qb<|x (Ql O O)<|x (Ql O O)<|x (Qa O)<|xl O<|X3 (us:=[sa,.int .i64 SA.st,sm,se]) (h7.ext he) O (by rw[←hC];rfl) O (by simp) ⟨hp.al.one,rfl,hp.mr.one,hp.ed.one,U⟩ rfl λw12 gi ms =>
     x (Qa rfl)<|xl O<|QE (j:=8) (u:=o) ms O O (by simp) gh λw13 gj mt=>xe ?_
    have mu:b8∉[b10,q.bl]:=by simp only[List.mem_cons,List.not_mem_nil,or_false];omega
    have g9:b8∉[b10]:=by simp only[List.mem_singleton];omega
    have mv:=(((((gx.ext (hV.trans hz)).step hQ mu).ext he).step gi g9).step gj g9);refine Qc<|x (Qr mt O O)<|xl O<|Qp (us:=[vk,vd,vr,.int .i64 rn,sa,.int .i64 SA.st,sm,se,o]) mv O O O O ⟨QH hK,QH hh,g4,O,hp.al.one,O,hp.mr.one,hp.ed.one,gh,U⟩ λmw ka my=>xe ?_
    have mz:∀b∈[b10,q.bl],w.heap.size≤b:=λb hb=>by simp only[List.mem_cons,List.not_mem_nil,or_false] at hb;omega
    have m0:Step [] w mw:=((((hW.then hQ (λb hb=>.inr (mz b hb))).trans he).then1 gi (by omega)).then1 gj (by omega)).then1 ka (by omega);refine Qn ⟨[.agg [vk,vd,vr,.int .i64 rn,sa,.int .i64 SA.st,sm,se,o].toArray],⟨⟨_,O,Qv O (my.at (L:=[]) (by simp)).cells⟩,U⟩,m0,vk,vd,vr,.int .i64 rn,sa,sm,se,o,rfl,⟨QH hK,QH hh,g4,rfl,gh,U⟩,λL hL=>?_⟩
    have h1:=gg (b10::b8::L) (λb hb=>by
     simp only[List.mem_cons] at hb;rcases hb with rfl | rfl | hb
     ·omega
     ·omega
     have:=hL b hb;omega)
    have h2:=((h1.st (gi.mono (by simp))).st (gj.mono (by simp))).st (ka.mono (by simp));exact h2.up (λb hb=>.inl (by simp[hb]))
   refine Qi ?_;have h8:i<D.length:=by have h81:(i:Int)<(D.length:Int):=g8;omega
   have gk:i<lf.length:=by rw[J.n,←hN];exact h8
   have m1:lf[i]'gk=lf.getD i false:=by simp[List.getD,gk]
   refine Qf<|Qh<|Qc<|Qb<|xii (i:=i) (g6.st Y) O O h8 λa82 kb=>?_;refine Zd (D[i]'h8) λd hd=>?_;rw[hd] at kb;refine x (Qx kb O)<|x Qg<|Qe<|Qc<|Qb<|x (QF O)<|x (Qa O)<|x (Qd (h3 hQ).B O O)<|Qb<|x (Zh (i:=i) O O (by omega))<|x (v:=.bool (lf.getD i false)) ((XJ (i:=i) g7 O gk).trans (by rw[m1]))<|xe<|Q3 O (λm2=>?_) (λm2=>?_)
   ·have h9:∀{v:Value} {l:LI} {w':World},Qu 3 E.heap.size w' v l→b10∉ob v:=λho hm=>by have:=(Qk ho b10 hm).1;omega
    refine Qc<|x (Qa O)<|x (Qa O)<|x (Qd h7 O O)<|Qb<|xl O<|QC (us:=[[.int .i64 i]]) O O (by decide) (by simp) ⟨rfl,rfl,U⟩ λb95 y1 hr hb95 m3=>xl rfl<|Q2 (m:=1) (news:=[.int .i64 i]) (L:=[]) (Qq hK hr) rfl rfl rfl (m3.at (by simp)) (by simp[Value.oneCell']) (by omega) (by have:=hr.size;omega) λhA y2 kc hR m4 =>
     x (Qa rfl)<|x (Qa O)<|xl O<|QE (j:=0) (u:=hA) ((h7.ext hr).step hR (h9 hK)) O O (by simp) (QH kc) λy3 gl ke=>xe ?_
    have m5:Qu 3 E.heap.size y2 hA (lk++[(i:Int)]):=Qu.snoc kc;have hzy1:=hr.size;have hzy2:=hR.size;have hzy3:=gl.size;have m6:Qu 3 E.heap.size y2 vd ld:=Qj (Qq hh hr) hR (λb hb hm=>hO b hm hb);have kf:Dj hA vd:=λb hb hm=>by
     rcases m4 b hb with h1 | h1
     ·exact hO b h1 hm
     have:=QR hh b hm;omega
    have kg:∀{v:Value} {l:LI},Qu 3 E.heap.size y2 v l→Qu 3 E.heap.size y3 v l:=λho=>Qj ho gl (λb hb hm=>by simp only[List.mem_singleton] at hm;subst hm;exact h9 ho hb);have kh:=kg m5;have gm:=kg m6;have m7:Step [b10] E y3:=(((Y.trans hr).then hR (λb hb=>.inr (Qk hK b hb).1))).trans' gl
    refine Qy<|x (Qa O)<|x (Qa O)<|x (Qd ke O O)<|Qb<|xl O<|QC (us:=[[.int .i64 d]]) O O (by decide) (by simp) ⟨rfl,rfl,U⟩ λb103 y4 ht hb103 m8=>xl rfl<|Q2 (m:=1) (news:=[.int .i64 d]) (L:=[]) (Qq gm ht) rfl rfl rfl (m8.at (by simp)) (by simp[Value.oneCell']) (by omega) (by have:=ht.size;omega) λgn y5 ki go m9 =>
     x (Qa rfl)<|x (Qa O)<|xl O<|QE (j:=1) (u:=gn) ((ke.ext ht).step go (h9 gm)) O O (by simp) (QH ki) λy6 gp pa=>xe ?_
    have kj:Qu 3 E.heap.size y5 gn (ld++[d]):=Qu.snoc ki;have kk:Qu 3 E.heap.size y5 hA (lk++[(i:Int)]):=Qj (Qq kh ht) go (λb hb hm=>kf b hb hm);have hzy4:=ht.size;refine Qy<|QP O O<|Qb<|xe ?_
    refine ⟨(i+1,hA,gn,_,_),by simp only[];omega,Z,h8,(((m7.trans ht).then go (λb hb=>.inr (Qk gm b hb).1))).trans' gp,pa,Qj kk gp (λb hb hm=>by simp only[List.mem_singleton] at hm;subst hm;exact h9 kk hb),Qj kj gp (λb hb hm=>by simp only[List.mem_singleton] at hm;subst hm;exact h9 kj hb),λb hb hm=>?_,by simp only[List.length_append,List.length_singleton];omega,by simp only[List.length_append,List.length_singleton];omega⟩
    rcases m9 b hm with h1 | h1
    ·exact kf b hb h1
    have:=QR kh b hb;omega
   refine Qi<|Qy<|QP O O<|Qb<|xe ?_;exact ⟨(i+1,vk,vd,lk,ld),by simp only[];omega,Z,h8,Y,h7,hK,hh,hO,by simp only[];omega,by simp only[];omega⟩
  refine Qi ?_;have hM:¬l.length=0:=λe=>gb (by show (l.length:Int)=0;omega);have kn:(nxs q.a q.unc lf).length≠0:=by rw[g2];exact hM
  have pc:=QeL kn;refine Exists.elim (Nat.exists_eq_succ_of_ne_zero (show f≠0 by omega)) λf' pd=>?_;subst pd;rw[QcJ kn,←hJ] at h4;rw[←hJ] at pc;refine Exists.elim (Qiu (rk:=(rank:Int)) (rs:=rs) l (λx hx=>by have:=ga x hx;omega)) λln hv=>?_;have hz67:=h5.size;refine Qf<|Qc<|Qb<|x (Qs g0 O)<|Qb<|xe ?_
  refine Qh<|QB (α:=Nat) [(16,16),(51,62)] (λz=>[(51,.int .i64 z)]) (λz w'=>z≤l.length∧Step [q.bl] w7 w'∧ReI b10 q I (((l.take z).map (·.1)).foldl cut lf) rn vr lz w') (λz=>l.length - z) (by rfl) 0 Z ⟨Lk _,Step.refl _ _,J⟩ ?_;rintro j g S ⟨hj,T,H⟩;have hH:∀b∈ob r7,b≠q.bl:=λb hb e=>by have:=(Qk hZ b hb).1;have:=G.st.size;omega
  have pf:RmO w6.heap.size S r7 rank rs l:=Qj hZ T (λb hb hm=>hH b hb (by simpa using hm));have ko:Zp [q.bl] S.heap r7 l.length 4 (l.flatMap (jb rank rs)):=QT pf (by omega) (λb hb hm=>hH b hb (by simpa using hm));refine Qc<|x (QA O O)<|xe<|Qf<|QG O (λgq=>?_) (λgq=>?_)
  ·refine Qz ?_;have pg:l.length≤j:=by have hS:¬(j:Int)<(l.length:Int):=gq;omega
   rw[Lm pg] at H;obtain ⟨ad,cap7,ph,_,pj⟩:∃ad cap,r7=.slice (some ad) l.length cap∧l.length≤cap∧At [q.bl] S.heap ad (l.flatMap (jb rank rs)):=by
    rcases ko.2.2 with ⟨_,h0⟩ | h1
    ·exact absurd h0 hM
    exact h1
   have hlnl:ln.length*4=l.length*4:=by rw[hv.2]
   refine Qc<|x (Qa O)<|x (Qa O)<|x (Qd H.B10 O O)<|Qb<|xl O<|Q2 (m:=l.length) (news:=l.flatMap (jb rank rs)) (L:=[q.bl]) H.R O ph (by rw[←hv.1,zI,hv.2]) pj (by rw[←hv.1];exact QbK ln) (by omega) H.st.size λgr pm kp kq hn22 =>
    x (Qa O)<|x (Qa O)<|xl O<|QE (j:=2) (u:=gr) (H.B10.step kq (λhb=>by have:=(Qk H.R _ hb).1;omega)) O O (by simp) (QH kp) λw23 pn po=>xe ?_
   have pp:RzO I.heap.size pm gr (lz++ln):=RzO.snoc (by rw[hv.1,hv.2];exact kp);have kr:=H.app hX hG hg kq pp pn po;refine Qy<|Qb<|x (Qa O)<|xl O<|QE (j:=3) (u:=.int .i64 rank) kr.B10 O O (by simp) rfl λw24 pt pu=>xe ?_;have pw:=kr.rounds hG hg pt pu;have pz:(-9223372036854775808:Int)≤(rank:Int)+1:=by omega
   have p0:(rank:Int)+1≤9223372036854775807:=by omega
   refine Qy<|Qb<|x (X2 O O ⟨pz,p0⟩)<|Qe ?_;exact ⟨(f',rank+1,(rank:Int),gr,lz++ln,(l.map (·.1)).foldl cut lf),by simp only[];omega,Z,pw,by simp only[];omega,by simp only[List.length_append];omega,h4,by simp only[];omega⟩
  refine Qi ?_;have ha:j<l.length:=by have hS:(j:Int)<(l.length:Int):=gq;omega
  have p1:l.take (j+1)=l.take j++[l[j]'ha]:=Le ha;have kt:((l.take (j+1)).map (·.1)).foldl cut lf=cut (((l.take j).map (·.1)).foldl cut lf) (l[j]'ha).1:=by rw[p1,Lt,Mk];rfl
  have p2:=ga (l[j]'ha).1 (LH (Li ha));refine Zd (l[j]'ha) λy hy=>?_;rw[hy] at kt p2;have p3:y.1=(y.1.toNat:Int):=by omega
  refine Qf<|Qh<|Qc<|xig (g:=jb rank rs) (i:=j) (Qbz rank rs) ko O O ha λa53 hS=>?_;rw[hy] at hS;refine x (QI hS O O)<|xl O<|Qt (us:=[.int .i64 0,.int .i64 0,.int .i64 0,.int .i64 0]) O λb16 E V p4 gs=>xl O<|Qp (us:=jb rank rs y) gs O O O O ⟨O,O,O,O,U⟩ λh6 Y gs=>xe ?_;have ku:Step [] S h6:=V.then1 Y p4;have gt:=H.ext ku;have p5:=H.n
  refine QW (Step [] h6) [(0,true),(1,true),(2,true),(3,true),(4,true),(5,true),(6,true),(7,false)] mixed (by rfl) (by kernel_rfl) (Step.drew _ _) ?_;refine p (λ_=>Qo)<|p (λ_=>QF O)<|p (λ_=>Qa O)<|pq (λ_ hc=>Qd ((h3 gt.st).B.ext hc) O O)<|p (λ_=>Qa O)<|pq (λ_ hc=>Qd (gs.ext hc) O O) <|
   p (λ_=>Zh (i:=y.1.toNat) O (congrArg (Value.int .i64) p3) (by omega))<|pkl (hl:=by kernel_rfl)<|UI (i:=y.1.toNat) (gt.F.ext (Step.drew _ _)) O O (by omega) λmq he p6=>pe ?_
  refine Qy<|QP O O<|Qb<|xe<|⟨j+1,by omega,Z,ha,((T.trans ku).trans (Step.drew _ _)).trans' he,?_⟩;rw[kt];exact (gt.ext (Step.drew _ _)).cut hX hg he p6 (by rw[Qcc];exact p5)
 refine Qi ?_;have hT:k<forb.length:=by have gu:(k:Int)<(forb.length:Int):=gz;omega
 have p7:=gv _ (Li hT);refine Zd (forb[k]'hT) λy hy=>?_;rw[hy] at p7;refine Qf<|Qh<|Qc<|xii (i:=k) k9 O O hT λa27 gu=>?_;rw[hy] at gu;refine x (Qx gu O)<|Qe<|Qc<|x (Qa O)<|x (Qa O)<|x (Qd G.B10 O O)<|Qb<|x (QD ⟨O,O,O,O,U⟩)<|xl O<|QC (us:=[[.int .i64 y,.int .i64 1,.int .i64 1,.int .i64 (-1)]]) O O (by decide) (by simp) ⟨rfl,rfl,U⟩ λb34 w6 p8 hb34 p9=>?_
 have hB:=G.ext p8;refine xl rfl<|Q2 (m:=1) (news:=[.int .i64 y,.int .i64 1,.int .i64 1,.int .i64 (-1)]) (L:=[]) hB.R O O O (p9.at (by simp)) (by simp[Value.oneCell']) (by omega) hB.st.size λv7 w7 kv h5 hn7 =>
  x (Qa rfl)<|x (Qa O)<|xl O<|QE (j:=2) (u:=v7) (hB.B10.step h5 (λhb=>by have:=(Qk hB.R _ hb).1;omega)) O O (by simp) (QH kv) λS T ge=>xe ?_
 have qc:RzO I.heap.size w7 v7 (lz++[⟨(y,1,1,-1),by simp only[];omega⟩]):=RzO.snoc kv;have H:=hB.app hX hG hg h5 qc T ge;refine Qy<|x (Qa O)<|xl O<|QE (j:=3) (u:=.int .i64 1) H.B10 O O (by simp) rfl λE V qf=>xe ?_;have ql:=H.rounds hG hg V qf;refine Qy<|QP O O<|Qb<|xe ?_
 exact ⟨(k+1,1,v7,_),by simp only[];omega,Z,hT,ql,by simp only[List.length_append,List.length_singleton];omega,.inr O⟩
instance:Bw prog 170 (Ju (nS) (nS) (nS) 0) [(0,3),(3,1),(4,4),(8,1)]:=⟨by kernel_rfl,by decide⟩
theorem QiR {c:Zw}{pl:QQ}{ps:List (LI)}{l:List (LI)}:∀r∈spF c pl ps l,0≤r.st∧r.st<(l.length:Int):=λr E=>by
 unfold spF at E;obtain ⟨⟨t,i⟩,hp,h1⟩:=Ml.1 E;have hi:=List.snd_lt_add_of_mem_zipIdx hp;simp only[Nat.zero_add] at hi;have h2:r.st=(i:Int):=by
  simp only[] at h1;unfold rsn at h1;split at h1
  ·cases h1;rfl
  split at h1
  ·cases h1;rfl
  cases h1
 omega
theorem Qat {c:Zw}(h:Yx c=0):Q8 (spc c).a∧(∀x∈fbs (spc c),0≤x∧x<(spc c).a.st)∧(fbs (spc c)).length≤4096∧(spc c).fb.length≤4096∧Jm c.ev=0:=by
 unfold Yx at h;by_cases h1:Zb c≠0
 ·rw[if_pos h1] at h;exact absurd h h1
 rw[if_neg h1] at h;have I:Zb c=0:=Ls.1 h1;have E:=ZR I;by_cases h2:KK (auts c.co)≠0
 ·rw[if_pos h2] at h;exact absurd h h2
 rw[if_neg h2] at h;cases hs:sync (auts c.co) with
 | none=>rw[hs] at h;cases h
 | some z =>
  rw[hs] at h;simp only[] at h;by_cases h3:KK (auts c.co++auts c.rq)≠0
  ·rw[if_pos h3] at h;exact absurd h h3
  rw[if_neg h3] at h;cases G:sync (auts c.co++auts c.rq) with
  | none=>rw[G] at h;cases h
  | some y =>
   have H:∀a∈auts c.co++auts c.rq,Q8 a:=λa ha=>by
    rcases Lj.1 ha with ha | ha
    ·exact Yk E.co a ha
    exact Yk E.rq a ha
   have hsp:=(Xk H (A:=y.1) (Q:=y.2) G).1;have he:=Qau (c:=c) (pl:=z.1) (ps:=z.2) (sa:=y.1) (ts:=y.2) hs G;have hl:=Qbw c z.1 z.2 y.2;have S:=hsp.le;rw[he];unfold fbs;refine ⟨hsp.okay H,λx hx=>?_,by rw[Lc];simp only[];omega,by simp only[];omega,E.e0⟩;obtain ⟨r,J,rfl⟩:=Lx.1 hx;have:=QiR r J;rw[hsp.st];exact this
theorem st4 (r:Rsn):(ZB r).length=4:=rfl
set_option maxHeartbeats 4000000 in
theorem Qal {L:LN}{w:World}{c:CL}(h0:ZA L w.heap c) (hB:Kb w 4096) :
  QK prog 79 [c.val] w λr w'=>Step [] w w'∧∃us c0 V Y c3 sa sm se o,r=.tuple #[.agg us.toArray,.agg #[c0,V,Y,c3,sa,.int .i64 (if Yx c.cel=0 then (zE c.cel).st else 0),sm,se,o],.int .i64 (Yx c.cel)]∧us.length=8∧ZN us∧ZN [c0,V,Y,c3,sa,sm,se,o] ∧
   (Yx c.cel≠0→sa=nS∧sm=nS∧se=nS)∧(Yx c.cel=0→∀L:LN,(∀b∈L,b<w.heap.size)→Zt L w'.heap sa sm se (zE c.cel)):=by
 have h:=h0.up (L':=[]) (by simp);have hn:zE c.cel=zD (spc c.cel).a (fbs (spc c.cel)) (unc c.cel.ev):=rfl;have hQ:c.cel.ev=c.ev:=rfl;have ho:=Qat (c:=c.cel);refine Zd (zE c.cel) λSA hR=>?_;rw[hR] at hn ⊢;have gv:=KD (h.ext (Step.refl [] w)) hB;refine Zd (Yx c.cel) λE hE=>?_;rw[hE] at ho ⊢;refine Zd (spc c.cel) λS hS=>?_;rw[hS] at ho hn;rw[hQ] at ho hn
 refine QK.of_W func79 O ntmps79 results79 (by simp) ?_;refine Qc<|xl O<|QS (us:=c.cells) O λb1 w1 hC gw hD=>xl O<|Qt (us:=[nS,.int .i64 0,nS,nS,nS,nS,nS,nS]) O λb2 w2 hp gx hq=>xl O<|Qt (us:=Ju (nS) (nS) (nS) 0) O λb3 w3 hh gy hs=>Qe ?_;have h3:=(hC.trans hp).trans hh;have gz:=hC.size;have g0:=hp.size;have g2:=hh.size;have g3:=hq.lt;have g4:=hs.lt
 have hsp:=KD (h.ext h3) (hB.ext h3);rw[hE,hS] at hsp;refine Qc<|x (Qr ((hD.ext hp).ext hh) O O)<|xl O<|xf<|hsp.mono ?_;rintro r4 w4 ⟨hi,v,rfl,⟨us,rfl,h4,h5⟩,hF⟩;have g5:=hi.size;refine Qb<|x (Ql O O)<|x (Ql O O)<|xl O<|Qt (us:=[nS,.int .i64 0,nS,nS,nS,nS,nS,nS]) O λb5 w5 hT hV hj=>xl O<|Qp (us:=us) hj O O h4 O h5 λw6 hW hj=>Qe ?_;have J:Step [] w4 w6:=hT.then1 hW hV
 have g6:=J.size;have ht:=(h3.trans hi).trans J;have hG:=(hq.ext (hh.trans hi)).ext J;have hH:=(hs.ext hi).ext J;have g7:=hj.lt;refine Qf<|Qc<|Qb<|x (Q9 O O)<|xe<|Q6 rfl (λhu=>?_) (λhu=>?_)
 ·refine Qc<|x (ZV [] U)<|x (ZV [] U)<|Qb<|xl O<|Qp (us:=[nS,.int .i64 0,nS,nS,nS,nS,nS,nS]) hG O O O O ⟨O,O,O,O,O,O,O,O,U⟩ λw7 G hX =>
   xl rfl<|Qp (us:=Ju (nS) (nS) (nS) 0) (hH.step G (by simp only[List.mem_singleton];omega)) O O O O ⟨O,O,O,O,O,O,O,O,O,U⟩ λw8 hv hY=>Qe<|Qn ⟨[.agg [nS,.int .i64 0,nS,nS,nS,nS,nS,nS].toArray,.agg (Ju (nS) (nS) (nS) 0).toArray,.int .i64 E],⟨⟨_,O,Qv O ((hX.step hv (by simp only[List.mem_singleton];omega)).at (L:=[]) (by simp)).cells⟩,⟨_,rfl,Qv rfl (hY.at (L:=[]) (by simp)).cells⟩,rfl,U⟩,(ht.then1 G (by omega)).then1 hv (by omega),[nS,.int .i64 0,nS,nS,nS,nS,nS,nS],nS,nS,nS,.int .i64 0,nS,nS,nS,nS,by rw[if_neg hu];rfl,O,⟨O,O,O,O,O,O,O,O,U⟩,⟨O,O,O,O,O,O,O,O,U⟩,λ_=>⟨O,O,O⟩,λe=>absurd e hu⟩
 have hw:E=0:=Ls.1 hu;obtain ⟨hZ,ga,gb,g8,hI⟩:=ho hw;obtain ⟨va,vm,ve,v1,v2,v3,v4,cos,rqs,gc,_,_,ge⟩:=hF hw;have gg:us=[va,.int .i64 S.a.st,vm,ve,v1,v2,v3,v4]:=by
  have h1:=congrArg (λv=>match v with | Value.agg a=>a.toList | _=>[]) gc
  simpa using h1
 subst gg;have hJ:=(ge [] (by simp));have gh:=hJ.1.ext J;have hK:=hJ.2.2.2.2.ext J;refine Qi<|Qc<|Qe<|Qf<|Qc<|x (Qa O)<|x (Qd hj O O)<|x (Qs hK O)<|Qb<|xe ?_
 refine Qh<|QB (α:=Nat×Value) [(7,7),(9,9),(24,33)] (λz=>[(7,z.2),(24,.int .i64 z.1)]) (λz w'=>z.1≤S.fb.length∧Step [] w6 w'∧Qu 3 w6.heap.size w' z.2 ((S.fb.take z.1).map (·.st))) (λz=>S.fb.length - z.1) (by rfl) (0,nS) ⟨O,O,U⟩ ⟨Lk _,Step.refl _ _,QN _ _ _ _⟩ ?_;rintro ⟨k,vf⟩ g w7 ⟨hk,G,T⟩;simp only[] at hk T;refine Qc<|x (QA O O)<|xe<|Qf<|QG O (λh6=>?_) (λh6=>?_)
 ·refine Qz ?_;have gi:S.fb.length≤k:=by have hy:¬(k:Int)<(S.fb.length:Int):=h6;omega
  rw[Lm gi] at T;have T:Qu 3 w6.heap.size w7 vf (fbs S):=T;have gj:=ht.trans G;have gk:=G.size;refine Qc<|x (Qa O)<|x (Qd ((hD.ext (hp.trans hh)).ext ((hi.trans J).trans G)) O O)<|xl O<|xf<|(Qdu (h.ev.ext gj)).mono ?_;rintro g9 I ⟨ha,vu,rfl,hU⟩;rw[if_pos hI] at hU;refine Qb<|x (Ql O O)<|x (Ql O O)<|x Qg<|Qe<|Qf<|Qc<|Qb<|x (Q9 O O)<|xe ?_
  refine Q6 O (λgl=>absurd hI gl) (λ_=>?_);refine Qi ?_;have h4:(unc c.ev).length≤1099511627776:=LR (K6 _ c.ev 0) h.ev.arr.le;have he:=G.trans ha;have gm:=gh.ext he;have hz:Step [] I { I with drawn:=I.drawn+1 }:=Step.drew _ _
  have hM:=hj.ext he;have hN:b5∉[b2]:=by simp only[List.mem_singleton];omega
  have ka:=he.size;refine Qf<|QW (Step [b2] I) [(0,true),(1,true),(2,true),(3,true),(4,true),(5,false),(6,false),(7,false),(8,true)] mixed (by rfl) (by kernel_rfl) (Step.drew _ _) ?_;refine pq (λ_ hc=>Qr (hM.step hc hN) O O)<|p (λ_=>Qa O)<|pq (λ_ hc=>Yy (us:=[va,.int .i64 S.a.st,vm,ve]) (hM.step hc hN) O O O) <|
   p (λ_=>Qo)<|p (λ_=>Qo)<|pk<|xf<|(QcI (gm.ext hz) hZ (((Qu.ints (L:=[]) T (by omega) (by simp)).ext ha).ext hz) ga gb ((Qu.ints (L:=[]) hU h4 (by simp)).ext hz)).mono ?_
  rintro kb kc ⟨gn,c0,V,Y,c3,sa,sm,se,o,rfl,H,h7⟩;have hf:=hz.trans gn;have ke:=hf.size;refine ⟨hf.any,?_⟩;have hO:zD S.a (fbs S) (unc c.ev)=SA:=hn.symm;rw[hO] at h7;have hg:=h7 [] (by simp);refine pk<|Qp (us:=[va,.int .i64 S.a.st,vm,ve,v1,v2,v3,v4]) ((hG.ext he).ext hf) O O O O h5 λkf h2 hq=>⟨hf.any.trans' h2,?_⟩
  refine pkl (hl:=by kernel_rfl)<|Qp (us:=[c0,V,Y,c3,sa,.int .i64 SA.st,sm,se,o]) (((hH.ext he).ext hf).step h2 (by simp only[List.mem_singleton];omega)) O (by rw[←hO];rfl) O O ⟨H.1,H.2.1,H.2.2.1,H.2.2.2.1,hg.al.one,O,hg.mr.one,hg.ed.one,H.2.2.2.2.1,U⟩ λkg h8 hs=>p (λ_=>Qg)<|pe ?_;have go:b2∉[b3]:=by simp only[List.mem_singleton];omega
  refine Qn ⟨[.agg [va,.int .i64 S.a.st,vm,ve,v1,v2,v3,v4].toArray,.agg [c0,V,Y,c3,sa,.int .i64 SA.st,sm,se,o].toArray,.int .i64 0],⟨⟨_,O,Qv O ((hq.step h8 go).at (L:=[]) (by simp)).cells⟩,⟨_,rfl,Qv rfl (hs.at (L:=[]) (by simp)).cells⟩,rfl,U⟩,
   (((ht.trans he).trans hf).then1 h2 (by omega)).then1 h8 (by omega),_,c0,V,Y,c3,sa,sm,se,o,by rw[hw,if_pos rfl];rfl,O,h5,⟨H.1,H.2.1,H.2.2.1,H.2.2.2.1,hg.al.one,hg.mr.one,hg.ed.one,H.2.2.2.2.1,U⟩,λe=>absurd hw e,λ_ L hL=>?_⟩
  have kh:=ht.size;have h1:=h7 (b2::b3::L) (λb hb=>by
   have ki:({ I with drawn:=I.drawn+1 }:World).heap.size=I.heap.size:=rfl
   simp only[List.mem_cons] at hb;rcases hb with rfl | rfl | hb
   ·omega
   ·omega
   have:=hL b hb;omega)
  exact ((h1.st (h2.mono (by simp))).st (h8.mono (by simp))).up (λb hb=>.inl (by simp[hb]))
 refine Qi ?_;have hm:k<S.fb.length:=by have hy:(k:Int)<(S.fb.length:Int):=h6;omega
 have hP:S.fb.take (k+1)=S.fb.take k++[S.fb[k]'hm]:=Le hm;have kj:((S.fb.take k).map (·.st)).length=k:=by rw[Lc,Lv];omega
 refine Zd (S.fb[k]'hm) λr hr=>?_;rw[hr] at hP;refine Qf<|Qh<|Qc<|xig (g:=ZB) (i:=k) st4 (hK.ext G) O O hm λkk hy=>?_;rw[hr] at hy;refine x (QI hy O O)<|xl O<|Qt (us:=[.int .i64 0,.int .i64 0,.int .i64 0,.int .i64 0]) O λb9 w8 hv gp h9=>xl O<|Qp (us:=ZB r) h9 O O O O ⟨O,O,O,O,U⟩ λw9 gq h9=>xe ?_;have hA:Step [] w7 w9:=hv.then1 gq gp;have kn:=hA.size;have gk:=G.size
 refine Qy<|Qb<|x (Qa O)<|x (Qd h9 O O)<|xl O<|QC (us:=[[.int .i64 r.st]]) O O (by decide) (by simp) ⟨rfl,rfl,U⟩ λko I ha kp gr =>
  xl rfl<|Q2 (m:=1) (news:=[.int .i64 r.st]) (L:=[]) (Qq T (hA.trans ha)) O O O (gr.at (by simp)) (by simp[Value.oneCell']) (by omega) (by have:=ha.size;omega) λgs kq gt gu kr=>Qe<|Qy<|QP O O<|Qb<|xe ?_
 refine ⟨(k+1,gs),by simp only[];omega,⟨O,O,U⟩,hm,((G.trans hA).trans ha).then gu (λb hb=>.inr (Qk T b hb).1),?_⟩;simp only[];rw[hP,Lt];exact Qu.snoc gt
theorem Kh {L:LN}{w:World}{c:CL}(h0:ZA L w.heap c) (hf:Kb w 4096) :
  QK prog 32 [c.val] w λr w'=>Step [] w w'∧∃sa sm se,r=.tuple #[.agg #[sa,.int .i64 (if Yx c.cel=0 then (zE c.cel).st else 0),sm,se],.int .i64 (suE c.cel)]∧ZN [sa,sm,se] ∧
   (suE c.cel≠0→sa=nS∧sm=nS∧se=nS)∧(suE c.cel=0→∀L:LN,(∀b∈L,b<w.heap.size)→Zt L w'.heap sa sm se (zE c.cel)):=by
 have h:=h0.up (L':=[]) (by simp);have hg:suE c.cel=Yx c.cel:=rfl;rw[hg];refine QK.of_W func32 O ntmps32 results32 (by simp) ?_;refine Qc<|xl O<|QS (us:=c.cells) O λb1 w1 Y hp hh=>xl O<|Qt (us:=[nS,.int .i64 0,nS,nS]) O λb2 w2 I hq G=>Qe ?_;have J:=Y.trans I;have hr:=Y.size;have hs:=I.size;have ht:=G.lt
 refine Qc<|x (Qr (hh.ext I) O O)<|xl O<|xf<|(Qal (h.ext J) (hf.ext J)).mono ?_;rintro r3 w3 ⟨S,us,c0,c1,c2,c3,sa,sm,se,o,rfl,hi,hj,E,hk,hl⟩;refine Zd (if Yx c.cel=0 then (zE c.cel).st else 0) λN hN=>?_
 rw[hN];have hu:=S.size;refine Qb<|x (Ql O O)<|x (Ql O O)<|x (Ql O O)<|xl O<|Qt (us:=[nS,.int .i64 0,nS,nS,nS,nS,nS,nS]) O λb4 w4 ha hv T=>xl O<|Qt (us:=Ju (nS) (nS) (nS) 0) O λb5 w5 V hw hm =>
  xl rfl<|Qp (us:=us) (T.ext V) O O hi O hj λw6 hc hy=>xl O<|Qp (us:=[c0,c1,c2,c3,sa,.int .i64 N,sm,se,o]) (hm.step hc (by have:=T.lt;simp only[List.mem_singleton];omega)) O O O O ⟨E.1,E.2.1,E.2.2.1,E.2.2.2.1,E.2.2.2.2.1,O,E.2.2.2.2.2.1,E.2.2.2.2.2.2.1,E.2.2.2.2.2.2.2.1,U⟩ λw7 hn ho=>Qe ?_
 have hz:=T.lt;have h2:=ha.size;have h3:=V.size;have H:Step [] w3 w7:=((ha.trans V).then1 hc (by omega)).then1 hn (by omega);have h4:=H.size
 refine Qc<|x (Qa O)<|x (Yy (us:=[sa,.int .i64 N,sm,se]) ho O O O)<|Qb<|xl O<|Qp (us:=[sa,.int .i64 N,sm,se]) ((G.ext S).ext H) O O O O ⟨E.2.2.2.2.1,O,E.2.2.2.2.2.1,E.2.2.2.2.2.2.1,U⟩ λw8 he G=>Qe<|Qn ⟨[.agg [sa,.int .i64 N,sm,se].toArray,.int .i64 (Yx c.cel)],⟨⟨_,O,Qv O (G.at (L:=[]) (by simp)).cells⟩,rfl,U⟩,((J.trans S).trans H).then1 he (by omega),sa,sm,se,rfl,⟨E.2.2.2.2.1,E.2.2.2.2.2.1,E.2.2.2.2.2.2.1,U⟩,hk,λe L hL=>?_⟩
 have h1:=hl e (b2::L) (λb hb=>by
  simp only[List.mem_cons] at hb;rcases hb with rfl | hb
  ·omega
  have:=hL b hb;omega)
 exact ((h1.ext H).st (he.mono (by simp))).up (λb hb=>.inl (by simp[hb]))
theorem Qhq {L:LN}{H:Array Obj}{b T:Nat}{n:Int}(h:QZ H b T [.int .i64 n]) (hb:b∉L):QL L H (.slice (some ⟨b,0,none⟩) 1 1) [n] :=
 h.arr hb (n:=1) (cap:=1) (sz:=1) O (by omega) (Lr _)
set_option maxHeartbeats 4000000 in
theorem QeZ {L:LN}{w:World}{c:CL}{q:MV}(h0:ZA L w.heap c) (h9:QL L w.heap q.v q.co) :
  QK prog 18 [c.val,.agg #[.int .i64 q.kd,.int .i64 q.ix,q.v]] w λr w'=>Step [] w w'∧∃us,r=.tuple #[.agg us.toArray,.int .i64 (mcE c.cel q.m)]∧us.length=5∧ZN us∧(mcE c.cel q.m≠0→us=Ym)∧(mcE c.cel q.m=0→Qgx w.heap.size w'.heap (.agg us.toArray) (mcC c.cel q.m)):=by
 have h:=h0.up (L':=[]) (by simp);have hm:=h9.up (L':=[]) (by simp);have T:mcE c.cel q.m=if mdE c.cel q.m≠0 then mdE c.cel q.m else Uy c.cel (prt q.m):=rfl
 have hA:mcC c.cel q.m=y7 c.cel (prt q.m):=rfl;rw[hA];refine Zd (mcE c.cel q.m) λE hE=>?_;rw[hE] at T ⊢;refine QK.of_W func18 O ntmps18 results18 (by simp) ?_;refine Qc<|xl O<|QS (us:=c.cells) O λb2 w1 hv hS hh=>xl O<|QS (us:=ZC q) O λb3 w2 ha hT hw=>xl O<|Qt (us:=Ym) O λb4 w3 J hU hy=>Qe ?_;have hi:=(hv.trans ha).trans J;have hV:=hv.size;have hW:=ha.size;have hX:=J.size
 have hY:=hy.lt;refine Qf<|Qc<|x (Qr ((hh.ext ha).ext J) O O)<|x (Qr (hw.ext J) O O)<|xl O<|xf<|(QcZ (h.ext hi) (hm.ext hi)).mono ?_;rintro r4 w4 ⟨rfl,V⟩;refine Qe ?_;have hz:=hi.trans V;have hZ:=V.size;have hB:=((hh.ext ha).ext J).ext V;have hj:=(hw.ext J).ext V;have h2:=hy.ext V;refine Qc<|Qb<|x (Q9 O O)<|xe<|Q6 rfl (λhc=>?_) (λhc=>?_)
 ·rw[if_pos hc] at T;subst T;refine Qc<|x (QD U)<|Qb<|xl O<|Qp (us:=Ym) h2 O O O O ⟨O,O,O,O,O,U⟩ λw5 hC hD=>Qe ?_;exact Qn ⟨[.agg Ym.toArray,.int .i64 (mdE c.cel q.m)],⟨⟨_,O,Qv O (hD.at (L:=[]) (by simp)).cells⟩,rfl,U⟩,hz.then1 hC (by omega),Ym,rfl,rfl,⟨rfl,rfl,rfl,rfl,rfl,U⟩,λ_=>rfl,λh0=>absurd h0 hc⟩
 rw[if_neg hc] at T;subst T;refine Qi<|Qc<|x (Qa O)<|x (Qd hj O O)<|x (QD ⟨hm.cells,U⟩)<|xl O<|Qt (us:=[nS,nS,nS,nS]) O λb7 w6 hF hG hH=>xl O<|Qp (us:=[q.v,nS,nS,nS]) hH O O O O ⟨hm.one,O,O,O,U⟩ λw7 hI h3 =>
  xe ?_
 have hk:Step [] w4 w7:=hF.then1 hI hG;have ga:=hk.size;have gb:=h3.lt;refine Qc<|x (Qa O)<|x (Qd (hj.ext hk) O O)<|xl O<|QC (us:=[[.int .i64 q.ix]]) O O (by decide) (by simp) ⟨rfl,rfl,U⟩ λI w8 hl gc hJ =>
  Qe ?_
 have he:=hk.trans hl;have hK:=hz.trans he;have ge:=hl.size;have hn:=h3.ext hl;have hM:w.heap.size≤b7:=by omega
 refine QU (α:=Value×Value×Value) [(22,33)] (λ_=>[]) (λz w'=>Step [b7] w8 w'∧QZ w'.heap b7 95 [q.v,z.1,z.2.1,z.2.2]∧QL [] w'.heap z.1 (prt q.m).rq∧QL [] w'.heap z.2.1 (prt q.m).ex∧QL [] w'.heap z.2.2 (prt q.m).cs) (by rfl) ?_ ?_
 ·have ho:∀{w':World},Step [b7] w8 w'→QL [] w'.heap (.slice (some ⟨I,0,none⟩) 1 1) [q.ix]:=λhs=>Qhq (hJ.step hs (by simp only[List.mem_singleton];omega)) (by simp);refine Qc<|x (Qa O)<|x (Qd (hj.ext he) O O)<|xe<|Qh<|Qc<|x (Q5 O O)<|Qe<|Q6 O (λhp=>?_) (λhp=>?_)
  ·have Y:q.kd=1:=hp;refine Qy<|Qb<|x (Qa O)<|xl O<|QE (j:=1) (u:=.slice (some ⟨I,0,none⟩) 1 1) hn O O (by simp) rfl λS G H=>xe ?_;refine ⟨(.slice (some ⟨I,0,none⟩) 1 1,nS,nS),U,G,H,?_,?_,?_⟩
   ·show QL _ _ _ (if q.kd=1 then [q.ix] else []);rw[if_pos Y];exact ho G
   ·show QL _ _ _ (if q.kd=2 then [q.ix] else []);rw[if_neg (by omega)];exact Ji _ _
   show QL _ _ _ (if q.kd≠1∧q.kd≠2 then [q.ix] else []);rw[if_neg (by omega)];exact Ji _ _
  have Y:¬q.kd=1:=hp;refine Qc<|x (Q5 O O)<|Qe<|Q6 O (λhq=>?_) (λhq=>?_)
  ·have hf:q.kd=2:=hq;refine Qy<|Qb<|x (Qa O)<|xl O<|QE (j:=2) (u:=.slice (some ⟨I,0,none⟩) 1 1) hn O O (by simp) rfl λS G H=>xe ?_;refine ⟨(nS,.slice (some ⟨I,0,none⟩) 1 1,nS),U,G,H,?_,?_,?_⟩
   ·show QL _ _ _ (if q.kd=1 then [q.ix] else []);rw[if_neg Y];exact Ji _ _
   ·show QL _ _ _ (if q.kd=2 then [q.ix] else []);rw[if_pos hf];exact ho G
   show QL _ _ _ (if q.kd≠1∧q.kd≠2 then [q.ix] else []);rw[if_neg (by omega)];exact Ji _ _
  have hf:¬q.kd=2:=hq;refine Qy<|Qb<|x (Qa O)<|xl O<|QE (j:=3) (u:=.slice (some ⟨I,0,none⟩) 1 1) hn O O (by simp) rfl λS G H=>xe ?_;refine ⟨(nS,nS,.slice (some ⟨I,0,none⟩) 1 1),U,G,H,?_,?_,?_⟩
  ·show QL _ _ _ (if q.kd=1 then [q.ix] else []);rw[if_neg Y];exact Ji _ _
  ·show QL _ _ _ (if q.kd=2 then [q.ix] else []);rw[if_neg hf];exact Ji _ _
  show QL _ _ _ (if q.kd≠1∧q.kd≠2 then [q.ix] else []);rw[if_pos ⟨Y,hf⟩];exact ho G
 rintro ⟨v1,v2,v3⟩ g S ⟨G,H,h4,h5,h6⟩;simp only[] at H h4 h5 h6;have hg:Step [] w S:=hK.then1 G hM;have gg:=G.size;have hN:QZ S.heap b2 47 c.cells:=(hB.ext he).step G (by have:=hh.lt;simp only[List.mem_singleton];omega);have hO:QZ S.heap b4 47 Ym:=(h2.ext he).step G (by simp only[List.mem_singleton];omega)
 refine Qc<|x (Qr hN O O)<|x (Qr H O O)<|xl O<|xf<|(Qa8 (p:=prt q.m) (h.ext hg) (hm.ext hg) h4 h5 h6).mono ?_;rintro gh gi ⟨ht,us,rfl,hu,h7,hP,hQ⟩;have gj:=ht.size
 refine x (Ql O O)<|x (Ql O O)<|xl O<|Qp (us:=us) (hO.ext ht) O O hu O h7 λgk h8 hR=>Qe<|Qn ⟨[.agg us.toArray,.int .i64 (Uy c.cel (prt q.m))],⟨⟨_,O,Qv hu (hR.at (L:=[]) (by simp)).cells⟩,rfl,U⟩,(hg.trans ht).then1 h8 (by omega),us,rfl,hu,h7,hP,λe=>?_⟩;obtain ⟨cl,e1,e2,e3⟩:=hQ e;refine ⟨cl,e1,e2,λL hL=>?_⟩;have h1:=e3 (b4::L) (λb hb=>by
  rcases Lb.1 hb with rfl | hb
  ·omega
  have:=hL b hb;have:=hg.size;omega)
 exact (h1.st (h8.mono (by simp))).up (λb hb=>.inl (by simp[hb]))
set_option maxHeartbeats 4000000 in
theorem Qhm {L:LN}{w:World}{c:CL}{q:MV}(h0:ZA L w.heap c) (hn:QL L w.heap q.v q.co) (ho:Kb w 4096) :
  QK prog 19 [c.val,.agg #[.int .i64 q.kd,.int .i64 q.ix,q.v]] w λr w'=>Step [] w w'∧∃sa st sm se,r=.tuple #[.agg #[sa,.int .i64 st,sm,se],.int .i64 (msE c.cel q.m)]∧ZN [sa,sm,se] ∧
   (msE c.cel q.m=0→st=(z8 c.cel q.m).st∧∀L:LN,(∀b∈L,b<w.heap.size)→Zt L w'.heap sa sm se (z8 c.cel q.m))∧(msE c.cel q.m≠0→st=0∧sa=nS∧sm=nS∧se=nS):=by
 have h:=h0.up (L':=[]) (by simp);have hm:=hn.up (L':=[]) (by simp);have G:msE c.cel q.m=if mcE c.cel q.m≠0 then mcE c.cel q.m else suE (mcC c.cel q.m):=rfl
 have hp:z8 c.cel q.m=zE (mcC c.cel q.m):=rfl;rw[hp];refine Zd (msE c.cel q.m) λE hE=>?_;rw[hE] at G ⊢;refine QK.of_W func19 O ntmps19 results19 (by simp) ?_;refine Qc<|xl O<|QS (us:=c.cells) O λb2 w1 hg hF hq=>xl O<|QS (us:=ZC q) O λb3 w2 ha hG hs=>xl O<|Qt (us:=[nS,.int .i64 0,nS,nS]) O λb4 w3 J hH hh=>Qe ?_;have hc:=(hg.trans ha).trans J;have hI:=hg.size;have hJ:=ha.size
 have hK:=J.size;have hM:=hh.lt;refine Qc<|x (Qr ((hq.ext ha).ext J) O O)<|x (Qr (hs.ext J) O O)<|xl O<|xf<|(QeZ (h.ext hc) (hm.ext hc)).mono ?_;rintro r4 w4 ⟨he,us,rfl,hi,ht,hO,hu⟩;have hP:=he.size;have hw:=hc.trans he;refine Qb<|x (Ql O O)<|x (Ql O O)<|xl O<|Qt (us:=Ym) O λb6 w5 hy hz h2=>xl O<|Qp (us:=us) h2 O O hi O ht λS h3 h4 =>
  Qe ?_
 have T:Step [] w4 S:=hy.then1 h3 hz;have V:=hw.trans T;have hQ:=T.size;have hj:=(hh.ext he).ext T;refine Qf<|Qc<|Qb<|x (Q9 O O)<|xe<|Q6 rfl (λH=>?_) (λH=>?_)
 ·rw[if_pos H] at G;subst G;refine Qc<|x (QD U)<|Qb<|xl O<|Qp (us:=[nS,.int .i64 0,nS,nS]) hj O O O O ⟨O,O,O,O,U⟩ λw7 h5 h6=>Qe ?_;exact Qn ⟨[.agg [nS,.int .i64 0,nS,nS].toArray,.int .i64 (mcE c.cel q.m)],⟨⟨_,O,Qv O (h6.at (L:=[]) (by simp)).cells⟩,rfl,U⟩,V.then1 h5 (by omega),nS,0,nS,nS,rfl,⟨rfl,rfl,rfl,U⟩,λh0=>absurd h0 H,λ_=>⟨rfl,rfl,rfl,rfl⟩⟩
 rw[if_neg H] at G;subst G;obtain ⟨cl,hv,h7,h8⟩:=hu (Ls.1 H);have h9:ZA [] S.heap cl:=(h8 [] (by simp)).ext T;have hk:=Kh h9 (ho.ext V);rw[h7] at hk;have hA:∀R,QK prog 32 [cl.val] S R→QK prog 32 [.agg us.toArray] S R:=λR hR=>by rw[hv];exact hR
 have hsup':=hA _ hk;refine Qi<|Qc<|x (Qr h4 O hi)<|xl O<|xf<|hsup'.mono ?_;rintro r8 w8 ⟨hf,sa,sm,se,rfl,Y,hB,hC⟩;refine Zd (if Yx (mcC c.cel q.m)=0 then (zE (mcC c.cel q.m)).st else 0) λN I=>?_
 rw[I];have hS:=hf.size;refine x (Ql O O)<|x (Ql O O)<|xl O<|Qp (us:=[sa,.int .i64 N,sm,se]) (hj.ext hf) O O O O ⟨Y.1,O,Y.2.1,Y.2.2.1,U⟩ λw9 hl hD=>Qe<|Qn ⟨[.agg [sa,.int .i64 N,sm,se].toArray,.int .i64 (suE (mcC c.cel q.m))],⟨⟨_,O,Qv O (hD.at (L:=[]) (by simp)).cells⟩,rfl,U⟩,(V.trans hf).then1 hl (by omega),sa,N,sm,se,rfl,Y,λe=>⟨?_,λL hL=>?_⟩,λe=>?_⟩
 ·have e':Yx (mcC c.cel q.m)=0:=e;rw[if_pos e'] at I;exact I.symm
 ·have h1:=hC e (b4::L) (λb hb=>by
   rcases Lb.1 hb with rfl | hb
   ·omega
   have:=hL b hb;have:=V.size;omega)
  exact (h1.st (hl.mono (by simp))).up (λb hb=>.inl (by simp[hb]))
 have e':¬Yx (mcC c.cel q.m)=0:=e;rw[if_neg e'] at I;exact ⟨I.symm,hB e⟩
theorem Y5.app3 {α:Type}{g:α→LV}{sz T:Nat}{ps:α→List (Value×Nat×Nat×LV)}{base:Nat}{E G:World}{v H:Value}{l:List α}{q:α}(h:Y5 g sz T ps base E v l)
  (hq:∀t∈ps q,ZL base (ob v) E.heap t.1 t.2.1 t.2.2.1 t.2.2.2)
  (V:G.ownsRow base T sz H (l.length+1) (l.flatMap g++g q)) (I:Step (ob v) E G) (J:∀b∈ob H,b∈ob v∨E.heap.size≤b):Y5 g sz T ps base G H (l++[q]):=by
 refine ⟨?_,λd hd t S=>?_⟩
 ·rw[Lh,Ly];simpa using V
 rcases Lj.1 hd with hd | hd
 ·exact (h.each d hd t S).app I J
 simp only[List.mem_singleton] at hd;subst hd;exact (hq t S).app I J
abbrev Qk3 (p:AV):List (Value×Nat×Nat×LV):=[(p.va,p.a.al.length,1,p.a.al.map (.int .i64)),(p.vm,p.a.mr.length,1,p.a.mr.map (.int .i64)),(p.ve,p.a.ed.length,3,p.a.ed.flatMap Qw)]
abbrev AvP (base:Nat) (w:World) (v:Value) (l:List AV):Prop:=Y5 Zj 4 58 Qk3 base w v l
theorem AvP.auts {base:Nat}{w:World}{v:Value}{l:List AV}{L:LN}(h:AvP base w v l) (G:l.length≤1099511627776) (E:∀b∈L,b<base):Xw L w.heap v l :=
 ⟨QT h.own G (λb hb H=>by have:=(Qk h.own b hb).1;have:=E b H;omega),λp hp=>⟨h.each p hp (p.va,p.a.al.length,1,p.a.al.map (.int .i64)) (by simp) L (λb hb=>.inl (E b hb)),h.each p hp (p.vm,p.a.mr.length,1,p.a.mr.map (.int .i64)) (by simp) L (λb hb=>.inl (E b hb)),h.each p hp (p.ve,p.a.ed.length,3,p.a.ed.flatMap Qw) (by simp) L (λb hb=>.inl (E b hb))⟩⟩
def Qla (N:Nat) (H:Array Obj) (v:Value) (l:List QQ):Prop:=∃ps:List AV,ps.map (·.a)=l∧∀L:LN,(∀b∈L,b<N)→Xw L H v ps
theorem Qgf {p:AV}(h1:p.va.oneCell'=true) (h2:p.vm.oneCell'=true) (h3:p.ve.oneCell'=true):∀u∈Zj p,u.oneCell'=true:=by
 intro u hu;simp only[Zj,List.mem_cons,List.not_mem_nil,or_false] at hu;rcases hu with rfl | rfl | rfl | rfl
 ·exact h1
 ·rfl
 ·exact h2
 exact h3
theorem Zt.parts {base N:Nat}{av:LN}{H:Array Obj}{p:AV}(h:∀L:LN,(∀b∈L,b<N)→Zt L H p.va p.vm p.ve p.a) (hb:base≤N) (G:∀b∈av,b<N):∀t∈Qk3 p,ZL base av H t.1 t.2.1 t.2.2.1 t.2.2.2:=by
 intro t I;simp only[List.mem_cons,List.not_mem_nil,or_false] at I;rcases I with rfl | rfl | rfl
 ·exact ZL.of_lt (λL E=>(h L E).al) hb G
 ·exact ZL.of_lt (λL E=>(h L E).mr) hb G
 exact ZL.of_lt (λL E=>(h L E).ed) hb G
theorem QeT {c:Zw}(h:Ua c):(mods c).length≤96:=by have:=ye h 3 (by omega);rw[js] at this;omega
theorem QbA:∀(l:LN) (b:Nat),l.foldl (λl b=>l &&& (65535 ^^^ b)) b≤b
 | [],_=>Lr _
 | _::l,_=>LR (QbA l _) Nat.and_le_left
theorem Qel {c:Zw}:∀i∈rem c,0≤i∧i<(c.co.length:Int):=by
 intro i hi;unfold rem setK at hi;obtain ⟨j,E,rfl⟩:=Lx.1 hi;have h1:=(LS.1 E).2;have h2:=of_decide_eq_true h1;refine ⟨by omega,?_⟩;refine Decidable.byContradiction λI=>?_;have G:c.co.length≤j:=by omega
 have J:zO c≤2 ^ c.co.length - 1:=QbA _ _;have hp:0<2 ^ c.co.length:=Nat.pow_pos (by decide);have S:2 ^ c.co.length≤2 ^ j:=Nat.pow_le_pow_right (by decide) G;have H:zO c / 2 ^ j=0:=Nat.div_eq_of_lt (by omega);rw[H] at h2;cases h2
theorem Qao (c:Zw):Vu c=if Zb c≠0 then Zb c else msL c (mods c):=rfl
theorem UK (c:Zw) (m:Js) (l:List Js):msL c (m::l)=if msE c m≠0 then msE c m else msL c l:=rfl
abbrev coA (c:Zw) (i:Int):QQ:=(c.co.getD i.toNat ⟨.empty,⟨[],0,[],[]⟩⟩).a
set_option maxRecDepth 4096 in
set_option maxHeartbeats 8000000 in
theorem JW {L:LN}{w:World}{c:CL}(I:ZA L w.heap c) (g5:Kb w 4096) :
  QK prog 22 [c.val] w λr w'=>Step [] w w'∧∃v,r=.tuple #[v,.int .i64 (Vu c.cel)]∧(Vu c.cel≠0→v=nS)∧(Vu c.cel=0→v.oneCell'=true∧Qla w.heap.size w'.heap v (qA c.cel)):=by
 have h:=I.up (L':=[]) (by simp);have ho:=Qao c.cel;have g6:qA c.cel=(mods c.cel).map (z8 c.cel)++(rem c.cel).map (coA c.cel):=rfl;refine Zd (Vu c.cel) λE hE=>?_;rw[hE] at ho ⊢;refine QK.of_W func22 O ntmps22 results22 (by simp) ?_;refine Qc<|xl O<|QS (us:=c.cells) O λb1 w1 hG mh gb=>x Qg<|Qe<|Qc<|x (Qr gb O O)<|xl O<|xf<|(KE (h.ext hG)).mono ?_
 rintro r2 T ⟨hH,vM,lM,rfl,hM,mj,g7⟩;have gc:=hG.trans hH;have mo:=hG.size;have mq:=hH.size;refine Qb<|x (Ql O O)<|x (Ql O O)<|x Qg<|Qe<|Qf<|Qc<|Qb<|x (Q9 O O)<|xe<|Q6 rfl (λhp=>?_) (λhp=>?_)
 ·rw[if_pos hp] at ho;subst ho;refine Qc<|Qb<|x Qg<|Qe ?_;exact Qn ⟨[nS,.int .i64 (Zb c.cel)],⟨O,O,U⟩,gc,nS,O,λ_=>O,λI=>absurd I hp⟩
 rw[if_neg hp] at ho;have h4:=Ls.1 hp;have g8:Ua c.cel:=(ZR h4).sr;have h6:=g7 h4;have ms:lM.length≤96:=by have:=QeT g8;rw[←h6,Lc] at this;exact this
 have ge:Zp [] T.heap vM lM.length 3 (lM.flatMap ZC):=hM.arr (by omega) (by simp);have mt:(rem c.cel).length≤8:=YY _ _;have gg:=gb.ext hH;refine Qi<|Qc<|Qe<|Qf<|Qc<|Qb<|x (Qs ge O)<|Qb<|xe ?_
 refine Qh<|QB (α:=Nat×Value×List AV) [(2,3),(6,6),(8,10),(25,42)] (λz=>[(6,z.2.1),(25,.int .i64 z.1)]) (λz w'=>z.1≤lM.length∧Step [] T w'∧AvP T.heap.size w' z.2.1 z.2.2∧z.2.2.map (·.a)=(lM.take z.1).map (λq=>z8 c.cel q.m)∧msL c.cel ((lM.drop z.1).map MV.m)=E) (λz=>lM.length - z.1) (by rfl) (0,nS,[]) ⟨O,O,U⟩
  ⟨Lk _,Step.refl _ _,Y5.nil,O,by rw[List.drop_zero,h6];exact ho.symm⟩ ?_
 rintro ⟨k,v,l⟩ g w3 ⟨hk,V,Y,hr,G⟩;simp only[] at hk Y hr G;have h7:=gc.trans V;have mu:=V.size;have mv:l.length=k:=by have:=congrArg List.length hr;rw[Lc,Lc,Lv] at this;omega
 have hI:=gg.ext V;have h3:=h.ext h7;refine Qc<|x (QA O O)<|xe<|Qf<|QG O (λhJ=>?_) (λhJ=>?_)
 ·refine Qz ?_;have gh:lM.length≤k:=by have hK:¬(k:Int)<(lM.length:Int):=hJ;omega
  rw[Lm gh] at hr;rw[Lq gh] at G;have gi:E=0:=G.symm;have g9:l.map (·.a)=(mods c.cel).map (z8 c.cel):=by rw[hr,←h6,MH];rfl
  refine Qc<|x (Qr hI O O)<|xl O<|xf<|(Vo h3).mono ?_;rintro r4 w4 ⟨h8,vR,rfl,_,ka⟩;have hR:=ka h4;have kb:=h7.trans h8;have mw:=h8.size;refine Qb<|x (Ql O O)<|x (Ql O O)<|x Qg<|Qe<|Qf<|Qc<|Qb<|x (Q9 O O)<|xe<|Q6 O (λgj=>?_) (λgj=>?_)
  ·exact absurd h4 gj
  refine Qi ?_;have kc:QL [] w4.heap vR (rem c.cel):=Qu.ints hR (by omega) (by simp);refine Qf<|Qc<|Qb<|x (Qs kc O)<|Qb<|xe ?_
  refine Qh<|QB (α:=Nat×Value×List AV) [(6,6),(13,14),(53,78)] (λz=>[(6,z.2.1),(53,.int .i64 z.1)]) (λz w'=>z.1≤(rem c.cel).length∧Step (ob v) w4 w'∧AvP T.heap.size w' z.2.1 z.2.2∧z.2.2.map (·.a)=(mods c.cel).map (z8 c.cel)++((rem c.cel).take z.1).map (coA c.cel)∧∀b∈ob z.2.1,b∈ob v∨w4.heap.size≤b) (λz=>(rem c.cel).length - z.1) (by rfl) (0,v,l) ⟨O,O,U⟩
   ⟨Lk _,Step.refl _ _,Y5.ext Y h8,by simp only[List.take_zero,List.map_nil,List.append_nil];exact g9,λb hb=>.inl hb⟩ ?_
  rintro ⟨j,vj,lj⟩ g w5 ⟨hj,hs,ha,hu,hN⟩;simp only[] at hj ha hu hN;have hO:=Qk Y.own;have gk:=Qk ha.own;have gl:Step [] w w5:=kb.then hs (λb hb=>.inr (by have:=(hO b hb).1;omega));have h5:=h.ext gl;have my:=hs.size;have mz:lj.length≤200:=by
   have e1:=congrArg List.length hu;rw[Lc,Lh,Lc,Lc,Lv,←h6,Lc] at e1;omega
  have ke:QZ w5.heap b1 47 c.cells:=(hI.ext h8).step hs (λhb=>by have:=(hO b1 hb).1;have:=gg.lt;omega);have kf:QL [] w5.heap vR (rem c.cel):=(((Qu.ints hR (by omega) (L:=ob v) (λb hb=>(hO b hb).2)).st hs)).up (by simp);refine Qc<|x (QA O O)<|xe<|Qf<|QG O (λhP=>?_) (λhP=>?_)
  ·refine Qz ?_;have kg:(rem c.cel).length≤j:=by have hK:¬(j:Int)<((rem c.cel).length:Int):=hP;omega
   rw[Lm kg,←g6] at hu;refine Qc<|Qb<|x Qg<|Qe ?_;exact Qn ⟨[vj,.int .i64 0],⟨O,O,U⟩,gl,vj,by rw[gi];rfl,λI=>absurd gi I,λ_=>⟨QH ha.own,lj,hu,λL hL=>AvP.auts ha (by omega) (λb hb=>by have:=hL b hb;omega)⟩⟩
  have he:j<(rem c.cel).length:=by have hK:(j:Int)<((rem c.cel).length:Int):=hP;omega
  have gm:(rem c.cel).take (j+1)=(rem c.cel).take j++[(rem c.cel)[j]'he]:=Le he;have gn:=Qel _ (Li he);refine Qi<|Qf<|Qh<|Qc<|xii (i:=j) kf O O he λm0 go=>?_;refine Zd ((rem c.cel)[j]'he) λi hi=>?_;rw[hi] at go gm gn;have kh:c.cel.co.length=c.co.length:=Lc ..;rw[kh] at gn;have ki:i=(i.toNat:Int):=by omega
  have hv:i.toNat<c.co.length:=by omega
  have hw:=Li hv;have gp:coA c.cel i=(c.co[i.toNat]'hv).p.a:=by
   show ((c.co.map IV.it).getD i.toNat _).a=_;simp[List.getD,hv,IV.it]
  refine x (Qx go O)<|Qe<|Qc<|x (Qa O)<|x (Qd ke O O)<|Qb<|xig (g:=Za) (i:=i.toNat) YT h5.co.arr O (congrArg (Value.int .i64) ki) hv λm1 gq=>?_;refine Zd (c.co[i.toNat]'hv) λq hq=>?_;rw[hq] at gq hw gp;have J:=h5.co.each q hw;refine x (Zl O)<|x (QI (us:=[q.p.va,.int .i64 q.p.a.st,q.p.vm,q.p.ve]) (gq.from 1) O O)<|xl O<|Qt (us:=[nS,.int .i64 0,nS,nS]) O λgr w6 kj kk hf =>
   xl rfl<|Qp (us:=[q.p.va,.int .i64 q.p.a.st,q.p.vm,q.p.ve]) hf O O O O ⟨J.al.one,O,J.mr.one,J.ed.one,U⟩ λH kn hf=>xe ?_
  have hQ:Step [] w5 H:=kj.then1 kn kk;have hg:Step [] H { H with drawn:=H.drawn+1 }:=Step.drew _ _
  have m2:=hQ.size;have hB:gr∉ob vj:=λhm=>by have:=(gk gr hm).2;omega
  have hS:=J.ext hQ;refine QW (Step (ob vj) H) [(0,true),(1,true),(2,true),(4,true),(5,true),(6,true),(7,true),(9,true),(10,true),(3,false),(8,false),(11,false),(12,true),(13,false),(14,false),(15,true)] mixed (by rfl) (by kernel_rfl) (Step.drew _ _) ?_;refine p (λ_=>Qo)<|p (λ_=>Qa O)<|pq (λ_ hc=>Qd (hf.step hc hB) O O)<|p (λ_=>Qa O)<|pq (λ_ hc=>Qd (hf.step hc hB) O O) <|
   p (λ_=>Qa O)<|pq (λ_ hc=>Qd (hf.step hc hB) O O)<|p (λ_=>Qa O)<|pq (λ_ hc=>Qd (hf.step hc hB) O O) <|
   pk<|xf<|(ZW (hS.al.ext hg)).mono ?_
  rintro r8 w8 ⟨hh,hT⟩;refine ⟨(hg.trans hh).any,?_⟩;refine pk<|xf<|(ZW ((hS.mr.ext hg).ext hh)).mono ?_;rintro r9 w9 ⟨hy,hU⟩;refine ⟨((hg.trans hh).trans hy).any,?_⟩;refine pk<|xf<|(Ku (((hS.ed.ext hg).ext hh).ext hy)).mono ?_;rintro hz m3 ⟨hV,hW⟩;have hC:=((hg.trans hh).trans hy).trans hV;refine ⟨hC.any,?_⟩
  refine p (λ_=>QD ⟨Q0 hT,O,Q0 hU,Q0 hW,U⟩)<|pk<|QC (us:=[Zj ⟨r8,r9,hz,q.p.a⟩]) O O (by decide) (by simp) ⟨rfl,rfl,U⟩ λm4 m5 hl m6 ko=>⟨(hC.trans hl).any,?_⟩;have hD:=(hQ.trans hC).trans hl;have m7:=hD.size;have m8:=hh.size;have m9:=hy.size;have pa:({ H with drawn:=H.drawn+1 }:World).heap.size=H.heap.size:=rfl
  refine pk<|Q2 (news:=Zj ⟨r8,r9,hz,q.p.a⟩) (L:=[]) (Qq ha.own hD) O O O (ko.at (by simp)) (Qgf (p:=⟨r8,r9,hz,q.p.a⟩) (QH hT) (QH hU) (QH hW)) (by omega) (by omega) λgs kp kq hX gt=>⟨(hC.trans hl).any.trans' hX,?_⟩;refine p (λ_=>Qg)<|pe ?_;have hY:∀b∈ob vj,b<H.heap.size:=λb hb=>by have:=(gk b hb).2;omega
  have kr:AvP T.heap.size kp gs (lj++[⟨r8,r9,hz,q.p.a⟩]):=Y5.app3 (Y5.ext ha hD) (λt ht=>by
   simp only[List.mem_cons,List.not_mem_nil,or_false] at ht;rcases ht with rfl | rfl | rfl
   ·exact ZL.of_own (Qq (Qq (Qq hT hy) hV) hl) J.al.le (by omega) (λb hb=>by have:=hY b hb;omega)
   ·exact ZL.of_own (Qq (Qq hU hV) hl) J.mr.le (by omega) (λb hb=>by have:=hY b hb;omega)
   exact ZL.of_own (Qq hW hl) J.ed.le (by omega) (λb hb=>by have:=hY b hb;omega)) kq hX gt
  refine Qy<|QP O O<|Qb<|xe<|⟨(j+1,gs,lj++[⟨r8,r9,hz,q.p.a⟩]),by simp only[];omega,⟨O,O,U⟩,he,(hs.trans hD).then hX hN,kr,?_,λb hb=>?_⟩
  ·simp only[];rw[gm,Lt,hu,Lt,Lz,Mx,Mx,gp]
  rcases gt b hb with h9 | h9
  ·exact hN b h9
  exact .inr (by omega)
 have S:k<lM.length:=by have hK:(k:Int)<(lM.length:Int):=hJ;omega
 have gu:lM.take (k+1)=lM.take k++[lM[k]'S]:=Le S;have hw:=Li S;rw[LK S,LO,UK] at G;have kt:=ZZ.ext hM V;have ku:=ge.ext V;refine Qi<|Qf<|Qh<|Qc<|xig (g:=ZC) (i:=k) z7 ku O O S λpc gv=>?_;refine Zd (lM[k]'S) λq hq=>?_;rw[hq] at gv gu hw G
 have gw:QL [] w3.heap q.v q.co:=kt.each q hw [] (by simp);refine x (QI gv O O)<|xl O<|Qt (us:=[.int .i64 0,.int .i64 0,nS]) O λb8 pd kv kw hZ=>xl O<|Qp (us:=ZC q) hZ O O O O ⟨O,O,gw.one,U⟩ λgx kx hZ =>
  xe ?_
 have h1:Step [] w3 gx:=kv.then1 kx kw;have gy:=h7.trans h1;have pf:=h1.size;refine Qc<|x (Qr (hI.ext h1) O O)<|x (Qr hZ O O)<|xl O<|xf<|(Qhm (q:=q) (h.ext gy) (gw.ext h1) (g5.ext gy)).mono ?_;rintro pg ky ⟨kz,sa,st,sm,se,rfl,hn,k0,_⟩
 refine Qb<|x (Ql O O)<|x (Ql O O)<|xl O<|Qt (us:=[nS,.int .i64 0,nS,nS]) O λb9 ph k4 k5 ga=>xl O<|Qp (us:=[sa,.int .i64 st,sm,se]) ga O O O O ⟨hn.1,O,hn.2.1,hn.2.2.1,U⟩ λk6 k7 ga =>
  Qe ?_
 have gz:Step [] ky k6:=k4.then1 k7 k5;have g0:=(h1.trans kz).trans gz;refine Qf<|Qc<|Qb<|x (Q9 O O)<|xe<|Q6 rfl (λh2=>?_) (λh2=>?_)
 ·rw[if_pos h2] at G;subst G;refine Qc<|Qb<|x Qg<|Qe ?_;exact Qn ⟨[nS,.int .i64 (msE c.cel q.m)],⟨O,O,U⟩,h7.trans g0,nS,O,λ_=>O,λI=>absurd I h2⟩
 rw[if_neg h2] at G;obtain ⟨k8,hA⟩:=k0 (Ls.1 h2);subst k8;have hge:=Qk Y.own;refine Qi<|Qy<|Qb<|x (Qr ga O O)<|xl O<|QC (us:=[Zj ⟨sa,sm,se,z8 c.cel q.m⟩]) O O (by decide) (by simp) ⟨rfl,rfl,U⟩ λpj pm g2 pn k9=>?_;have hF:=g0.trans g2;have po:=hF.size
 refine xl rfl<|Q2 (news:=Zj ⟨sa,sm,se,z8 c.cel q.m⟩) (L:=[]) (Qq Y.own hF) O O O (k9.at (by simp)) (Qgf (p:=⟨sa,sm,se,z8 c.cel q.m⟩) hn.1 hn.2.1 hn.2.2.1) (by omega) (by omega) λg3 ma mc g4 mf =>
  Qe ?_
 have mg:AvP T.heap.size ma g3 (l++[⟨sa,sm,se,z8 c.cel q.m⟩]):=Y5.app3 (Y5.ext Y hF) (Zt.parts (N:=gx.heap.size) (p:=⟨sa,sm,se,z8 c.cel q.m⟩) (λL hL=>((hA L hL).ext gz).ext g2) (by omega) (λb hb=>by have:=(hge b hb).2;omega)) mc g4 mf;refine Qy<|QP O O<|Qb<|xe ?_
 refine ⟨(k+1,g3,l++[⟨sa,sm,se,z8 c.cel q.m⟩]),by simp only[];omega,⟨O,O,U⟩,S,(V.trans hF).then g4 (λb hb=>.inr (hge b hb).1),mg,?_,G⟩;simp only[];rw[gu,Lt,hr,Lt];rfl
section
variable {s:QQ} {l:List KL} {n:Nat}
end
section
variable {s:QQ} {l:List KL} {n:Nat}
end
section
variable {s:QQ} {l:List KL} {n:Nat}
end
section
variable {p s:QQ} {pairs:List (LI)}
end
section
variable {s:QQ} {l:List KL} {n:Nat}
end
section
variable {s:QQ} {l:List KL} {n:Nat} {nm:LI}
end
def cnF (ord:LI) (j:Nat) (e:Ed):Ed:=((j:Int),e.2.1,(ord.idxOf e.2.2:Int))
def yA (a:QQ) (ord:LI) (j:Nat):List Ed:=(Zy a.ed (Zn ord j)).map (cnF ord j)
theorem UX {l r:LI}{j:Nat}(h:j<l.length):Zn (l++r) j=Zn l j:=by unfold Zn;rw[Ms];exact qa h
structure NuI (st:Int) (ord num:LI):Prop where
 nd:ord.Nodup
 bd:∀s∈ord,0≤s∧s<st
 nl:num.length=st.toNat
 nu:∀k,0≤k→k<st→Zn num k=if k∈ord then (ord.idxOf k:Int) else -1
theorem Uu {st:Int}{i:Nat}{c:Cs}(h:NuI st c.ord c.num) {e:Ed}(G:0≤e.2.2) (h1:e.2.2<st):NuI st (Q7 i c e).ord (Q7 i c e).num∧(∃r,(Q7 i c e).ord=c.ord++r)∧(Q7 i c e).mk'=c.mk'∧(Q7 i c e).ed=c.ed++[cnF (Q7 i c e).ord i e]∧e.2.2∈(Q7 i c e).ord:=by
 have E:=h.nu e.2.2 G h1;have I:e.2.2.toNat<c.num.length:=by rw[h.nl];omega
 unfold Q7;by_cases hm:e.2.2∈c.ord
 ·rw[if_pos hm] at E;rw[if_neg (by rw[E];omega)];refine ⟨h,⟨[],by simp⟩,rfl,?_,hm⟩;simp only[cnF];rw[E]
 rw[if_neg hm] at E;rw[if_pos (by rw[E];decide)];have H:(c.ord++[e.2.2]).idxOf e.2.2=c.ord.length:=by rw[L2,if_neg hm];simp
 refine ⟨⟨UJ h.nd hm,λs hs=>?_,by simp[h.nl],λk J k1=>?_⟩,⟨[e.2.2],rfl⟩,rfl,?_,by simp⟩
 ·rcases Lj.1 hs with hs | hs
  ·exact h.bd s hs
  simp only[List.mem_singleton] at hs;subst hs;exact ⟨G,h1⟩
 ·simp only[];by_cases ek:k=e.2.2
  ·subst ek;rw[if_pos (by simp),H];unfold Zn;simp[List.getD,List.getElem?_set_self I]
  have S:e.2.2.toNat≠k.toNat:=by omega
  have e1:Zn (c.num.set e.2.2.toNat c.ord.length) k=Zn c.num k:=by unfold Zn;simp[List.getD,List.getElem?_set_ne S]
  rw[e1,h.nu k J k1];by_cases hk:k∈c.ord
  ·rw[if_pos hk,if_pos (LL _ hk),L2,if_pos hk]
  rw[if_neg hk,if_neg (λT=>by
   rcases Lj.1 T with h2 | h2
   ·exact hk h2
   simp only[List.mem_singleton] at h2;exact ek h2)]
 simp only[cnF];rw[H]
theorem Jf {st:Int}{i:Nat}:∀(E:List Ed) (c:Cs),NuI st c.ord c.num→(∀e∈E,0≤e.2.2∧e.2.2<st)→NuI st (E.foldl (Q7 i) c).ord (E.foldl (Q7 i) c).num∧(∃r,(E.foldl (Q7 i) c).ord=c.ord++r)∧(E.foldl (Q7 i) c).mk'=c.mk' ∧
  (E.foldl (Q7 i) c).ed=c.ed++E.map (cnF (E.foldl (Q7 i) c).ord i)∧∀e∈E,e.2.2∈(E.foldl (Q7 i) c).ord
 | [],c,h,_=>⟨h,⟨[],by simp⟩,rfl,by simp,λe he=>by cases he⟩
 | e::E,c,h,hb=>by
  obtain ⟨G,H⟩:=hb e Ln;obtain ⟨h1,⟨I,h2⟩,h3,J,h5⟩:=Uu (i:=i) h G H;obtain ⟨k1,⟨r2,k2⟩,k3,S,T⟩:=Jf (i:=i) E (Q7 i c e) h1 (λd hd=>hb d (Ll _ hd));rw[LJ];refine ⟨k1,⟨I++r2,by rw[k2,h2,Lz]⟩,k3.trans h3,?_,λd hd=>?_⟩
  ·rw[S,J,Lz,LO];have:cnF (Q7 i c e).ord i e=cnF (E.foldl (Q7 i) (Q7 i c e)).ord i e:=by
    unfold cnF;rw[k2,L2,if_pos h5]
   rw[this];rfl
  rcases Lb.1 hd with rfl | hd
  ·rw[k2];exact LL _ h5
  exact T d hd
structure CnG (a:QQ) (i:Nat) (c:Cs):Prop where
 nu:NuI a.st c.ord c.num
 le:i≤c.ord.length
 hd:Zn c.ord 0=0∧0<c.ord.length
 mk2:c.mk'=((List.range' 0 i).filter λj:Nat=>decide (Zn c.ord j∈a.mr)).map λj:Nat=>(j:Int)
 ed:c.ed=(List.range' 0 i).flatMap (yA a c.ord)
 cl:∀j,j<i→∀e∈Zy a.ed (Zn c.ord j),e.2.2∈c.ord
theorem Qh4 {a:QQ}{ord r:LI}{j:Nat}(E:j<ord.length) (hc:∀e∈Zy a.ed (Zn ord j),e.2.2∈ord):yA a (ord++r) j=yA a ord j:=by
 unfold yA;rw[UX E];refine List.map_congr_left λe he=>?_;unfold cnF;rw[L2,if_pos (hc e he)]
theorem CnG.next {a:QQ}(S:Q8 a) {i:Nat}{c:Cs}(h:CnG a i c) (hi:i<c.ord.length):CnG a (i+1) (Kd a i c):=by
 unfold Kd;have H:(Zv a i c).ord=c.ord:=by unfold Zv;split <;> rfl
 have T:(Zv a i c).num=c.num:=by unfold Zv;split <;> rfl
 have V:(Zv a i c).ed=c.ed:=by unfold Zv;split <;> rfl
 obtain ⟨k1,⟨r,k2⟩,k3,G,I⟩:=Jf (st:=a.st) (i:=i) (Zy a.ed (Zn c.ord i)) (Zv a i c) (by rw[H,T];exact h.nu) (λe he=>(S.ed e (Zu he).1).2.2.2);generalize (Zy a.ed (Zn c.ord i)).foldl (Q7 i) (Zv a i c)=d at k1 k2 k3 G I;rw[H] at k2;rw[V] at G;have pre:∀j:Nat,j≤i→Zn d.ord j=Zn c.ord j:=λj E=>by rw[k2];exact UX (by omega)
 refine ⟨k1,by rw[k2];simp;omega,⟨by have:=pre 0 (by omega);rw[show ((0:Nat):Int)=0 from rfl] at this;rw[this];exact h.hd.1,by rw[k2];simp;omega⟩,?_,?_,λj E=>?_⟩
 ·rw[k3,L8,L0,Lt,LP];have e1:((List.range' 0 i).filter λj:Nat=>decide (Zn d.ord j∈a.mr))=(List.range' 0 i).filter λj:Nat=>decide (Zn c.ord j∈a.mr):=by
   refine List.filter_congr λj E=>?_;rw[LX] at E;rw[pre j (by omega)]
  rw[e1];unfold Zv;by_cases hm:Zn c.ord i∈a.mr
  ·rw[if_pos hm];simp only[];rw[L9,if_pos (by rw[pre i (Lr _)];exact decide_eq_true hm),M2,h.mk2];rfl
  rw[if_neg hm];rw[L9,if_neg (by rw[pre i (Lr _),decide_eq_false hm];simp),M2,h.mk2];simp
 ·rw[G,L8,Ly,LP,h.ed];congr 1
  ·refine Xr λj E=>?_;rw[LX] at E;rw[k2];exact (Qh4 (by omega) (h.cl j (by omega))).symm
  simp only[List.flatMap_cons,List.flatMap_nil,List.append_nil];unfold yA;rw[pre i (Lr _)]
 by_cases e:j=i
 ·subst e;rw[pre j (Lr _)];exact I
 intro Y J;rw[pre j (by omega)] at J;rw[k2];exact LL _ (h.cl j (by omega) Y J)
theorem VN {a:QQ}(G:Q8 a):∀(f i:Nat) (c:Cs),CnG a i c→∃E,CnG a E (Yd a f i c)∧((Yd a f i c).ord.length=E∨E=i+f)
 | 0,i,c,h=>⟨i,h,.inr O⟩
 | f+1,i,c,h=>by
  rw[Yd];split
  ·rename_i hi;obtain ⟨E,h1,h2⟩:=VN G f (i+1) _ (h.next G hi);exact ⟨E,h1,by omega⟩
  exact ⟨i,h,.inl (by have:=h.le;omega)⟩
structure CnP (a:QQ) (ord:LI):Prop where
 nd:ord.Nodup
 bd:∀s∈ord,0≤s∧s<a.st
 hd:Zn ord 0=0∧0<ord.length
 al:(ZD a).al=a.al
 st:(ZD a).st=(ord.length:Int)
 mk2:(ZD a).mr=((List.range' 0 ord.length).filter λj:Nat=>decide (Zn ord j∈a.mr)).map λj:Nat=>(j:Int)
 ed:(ZD a).ed=(List.range' 0 ord.length).flatMap (yA a ord)
 cl:∀j,j<ord.length→∀e∈Zy a.ed (Zn ord j),e.2.2∈ord
theorem Qdl {a:QQ}(G:Q8 a) (Y:0<a.st):∃ord,CnP a ord:=by
 have H:0<a.st.toNat:=by omega
 have I:CnG a 0 (Zz a):=by
  refine ⟨⟨by simp[Zz],λs hs=>by simp[Zz] at hs;subst hs;omega,by simp[Zz],λk k0 k1=>?_⟩,Lk _,⟨by simp[Zz,Zn],by simp[Zz]⟩,by simp[Zz],by simp[Zz],λj hj=>by omega⟩;by_cases ek:k=0
  ·subst ek;rw[if_pos (by simp[Zz])];unfold Zn Zz;simp[List.getD,H]
  rw[if_neg (by simpa[Zz] using ek)];unfold Zz;have J:0≠k.toNat:=by omega
  have S:k.toNat<a.st.toNat:=by omega
  unfold Zn;rw[List.getD_eq_getElem?_getD,MY J];simp[S]
 obtain ⟨T,h1,h2⟩:=VN G a.st.toNat 0 (Zz a) I;have ha:(Yd a a.st.toNat 0 (Zz a)).ord.length≤a.st.toNat:=pig _ _ h1.nu.nd (λx hx=>by have:=h1.nu.bd x hx;omega);have V:T=(Yd a a.st.toNat 0 (Zz a)).ord.length:=by have:=h1.le;omega
 subst V;have E:ZD a=⟨a.al,((Yd a a.st.toNat 0 (Zz a)).ord.length:Int),(Yd a a.st.toNat 0 (Zz a)).mk',(Yd a a.st.toNat 0 (Zz a)).ed⟩:=by unfold ZD;rw[if_neg (by omega)]
 refine ⟨(Yd a a.st.toNat 0 (Zz a)).ord,h1.nu.nd,h1.nu.bd,h1.hd,by rw[E],by rw[E],?_,?_,h1.cl⟩
 ·rw[E];exact h1.mk2
 rw[E];exact h1.ed
theorem QfN (E:List Ed) (s v:Int):eget E s v=eget (Zy E s) s v:=by
 induction E with
 | nil=>rfl
 | cons e E ih =>
  unfold Zy at *;rw[L9];by_cases h:e.1=s
  ·rw[if_pos (by simpa using h),eget,eget,ih]
  rw[if_neg (by simpa using h),eget,if_neg (λc=>h c.1),ih]
theorem QfO {a:QQ}{ord:LI}{j:Nat}(v:Int):eget (yA a ord j) j v=(eget a.ed (Zn ord j) v).map λu=>(ord.idxOf u:Int):=by
 rw[QfN a.ed];unfold yA;have key:∀(l:List Ed),(∀e∈l,e.1=Zn ord j)→eget (l.map (cnF ord j)) j v=(eget l (Zn ord j) v).map λu=>(ord.idxOf u:Int):=by
  intro l;induction l with
  | nil=>intro _;rfl
  | cons e l ih =>
   intro hl;rw[LO,eget,eget];have he:=hl e Ln;by_cases E:e.2.1=v
   ·rw[if_pos ⟨rfl,E⟩,if_pos ⟨he,E⟩];rfl
   rw[if_neg (λc=>E c.2),if_neg (λc=>E c.2)];exact ih (λd hd=>hl d (Ll _ hd))
 exact key _ (λe he=>(Zu he).2)
theorem QaX {a:QQ}{ord:LI}{j i:Nat}(h:j≠i) (v:Int):eget (yA a ord j) i v=none:=by
 refine J8 λe he h2=>?_;unfold yA at he;obtain ⟨d,_,rfl⟩:=Lx.1 he;have:(j:Int)=i:=h2.1;omega
theorem CnP.step {a:QQ}{ord:LI}(h:CnP a ord) {j:Nat}(G:j<ord.length) (v:Int):eget (ZD a).ed j v=(eget a.ed (Zn ord j) v).map λu=>(ord.idxOf u:Int):=by
 rw[h.ed];have key:∀n,j<n→eget ((List.range' 0 n).flatMap (yA a ord)) j v=eget (yA a ord j) j v:=by
  intro n;induction n with
  | zero=>intro h;omega
  | succ n ih =>
   intro H;rw[L8,Ly,LP,VW];simp only[List.flatMap_cons,List.flatMap_nil,List.append_nil];by_cases e:j=n
   ·subst e;have:eget ((List.range' 0 j).flatMap (yA a ord)) j v=none:=J8 λd hd h2=>by
     obtain ⟨k,hk,E⟩:=Mi.1 hd;rw[LX] at hk;unfold yA at E;obtain ⟨I,_,rfl⟩:=Lx.1 E;have:(k:Int)=j:=h2.1;omega
    rw[this]
   rw[ih (by omega),QaX (Ne.symm e)];cases eget (yA a ord j) j v <;> rfl
 rw[key _ G];exact QfO v
section
variable {p s:QQ} {pn xn v:Int}
end
section
variable {s:QQ} {l:List KL} {n:Nat}
end
theorem Qdm {a:QQ}(E:Q8 a):Q8 (ZD a):=by
 have T:=E.st0;have h1:=E.st1;by_cases J:a.st=0
 ·unfold ZD;rw[if_pos J];exact ⟨E.al,E.ali,by simp,by simp,by simp,by simp,by simp,by simp⟩
 obtain ⟨ord,h⟩:=Qdl E (by omega);have hl:ord.length≤a.st.toNat:=pig _ _ h.nd (λx hx=>by have:=h.bd x hx;omega);refine ⟨by rw[h.al];exact E.al,by rw[h.al];exact E.ali,by rw[h.st];omega,by rw[h.st];omega,λs hs=>?_,?_,λe he=>?_,?_⟩
 ·rw[h.mk2] at hs;simp only[List.mem_map,List.mem_filter,List.mem_range'_1] at hs;obtain ⟨i,⟨hi,_⟩,rfl⟩:=hs;rw[h.st];omega
 ·rw[h.mk2];unfold Yg;rw[MJ];refine List.Pairwise.sublist MI ?_;exact (M1 (s:=0) (n:=ord.length)).imp (λh=>by omega)
 ·rw[h.ed] at he;obtain ⟨j,G,hd⟩:=Mi.1 he;rw[LX] at G;unfold yA at hd;obtain ⟨d,H,rfl⟩:=Lx.1 hd;have hm:=h.cl j (by omega) d H;have:=Me hm;have S:=(E.ed d (Zu H).1).2.2.1;rw[h.st,h.al];unfold cnF;exact ⟨by simp only[];omega,by simp only[];omega,S,by simp only[];omega,by simp only[];omega⟩
 rw[h.ed];have key:∀n,((List.range' 0 n).flatMap (yA a ord)).Pairwise λx y:Ed=>x.1<y.1∨(x.1=y.1∧x.2.1<y.2.1):=by
  intro n;induction n with
  | zero=>simp
  | succ n ih =>
   rw[L8,Ly,LP,Mf];refine ⟨ih,?_,λx hx y hy=>?_⟩
   ·simp only[List.flatMap_cons,List.flatMap_nil,List.append_nil];unfold yA;rw[MJ];have h2:(Zy a.ed (Zn ord n)).Pairwise λx y:Ed=>x.1<y.1∨(x.1=y.1∧x.2.1<y.2.1):=List.Pairwise.sublist MI E.edi;refine List.Pairwise.imp_of_mem (λ{x y} hx hy V=>?_) h2;have e1:=(Zu hx).2;have e2:=(Zu hy).2;right;exact ⟨O,by show x.2.1<y.2.1;omega⟩
   obtain ⟨j,G,I⟩:=Mi.1 hx;rw[LX] at G;simp only[List.flatMap_cons,List.flatMap_nil,List.append_nil] at hy;unfold yA at I hy;obtain ⟨d,_,rfl⟩:=Lx.1 I;obtain ⟨Y,_,rfl⟩:=Lx.1 hy;left;show (j:Int)<(n:Int);omega
 exact key _
theorem q8 {a:QQ}(E:Q8 a):Q8 ⟨a.al,0,[],[]⟩ :=
 ⟨E.al,E.ali,Nc _,(by decide:(0:Int)≤4096),(λs hs=>by cases hs),List.Pairwise.nil,(λe he=>by cases he),List.Pairwise.nil⟩
theorem QcA {a:QQ}(E:Q8 a) (lf:Lf):Q8 (qB a lf):=by
 unfold qB;split
 ·exact q8 E
 exact Qdm (Vx E lf)
theorem yR {c:Zw}(h:suE c=0):Q8 (zE c):=QcA (Qat h).1 _
theorem QeS {c:Zw}{m:Js}(h:msE c m=0):Q8 (z8 c m):=by
 have h1:msE c m=if mcE c m≠0 then mcE c m else suE (mcC c m):=rfl
 rw[h1] at h;split at h
 ·rename_i h2;exact absurd h h2
 exact yR h
theorem jn {c:Zw}:∀{l:List Js},msL c l=0→∀m∈l,msE c m=0
 | [],_,m,hm=>by cases hm
 | x::l,h,m,hm=>by
  rw[UK] at h;by_cases h1:msE c x≠0
  ·rw[if_pos h1] at h;exact absurd h h1
  rw[if_neg h1] at h;rcases Lb.1 hm with rfl | hm
  ·exact Ls.1 h1
  exact jn h m hm
theorem Qd0 {c:Zw}(h:Vu c=0):∀a∈qA c,Q8 a:=by
 rw[Qao] at h;by_cases h1:Zb c≠0
 ·rw[if_pos h1] at h;exact absurd h h1
 rw[if_neg h1] at h;have G:=ZR (Ls.1 h1);have H:qA c=(mods c).map (z8 c)++(rem c).map (coA c):=rfl;intro a ha;rw[H] at ha;rcases Lj.1 ha with ha | ha
 ·obtain ⟨m,hm,rfl⟩:=Lx.1 ha;exact QeS (jn h m hm)
 obtain ⟨i,hi,rfl⟩:=Lx.1 ha;have I:=Qel i hi;have E:i.toNat<c.co.length:=by omega
 have e:coA c i=(c.co[i.toNat]'E).a:=by unfold coA;simp[List.getD,E]
 rw[e];exact G.co _ (Li E)
theorem Qir (c:Zw):tgE c=if Vu c≠0 then Vu c else KO (qA c):=rfl
theorem QdN {n k:Nat}(h:k<n):(JB n).drop k=(k:Int)::(JB n).drop (k+1):=by
 have hl:k<(JB n).length:=by rw[zC];exact h
 rw[LK hl];congr 1;simp[JB]
theorem Qec (c:Zw) (v:Int) (l:LI):shd c (v::l)=if 2≤(ownr c v).length then some (v,cget (ownr c v) 0,cget (ownr c v) 1) else shd c l:=rfl
def shR (c:Zw):Option (Int×Int×Int):=if Zb c≠0 then none else QiU c
set_option maxHeartbeats 4000000 in
theorem Qdt {L:LN}{w:World}{c:CL}(h0:ZA L w.heap c) :
  QK prog 20 [c.val] w λr w'=>Step [] w w'∧r=.tuple #[.int .i64 (Qi0 (shR c.cel)).1,.int .i64 (Qi0 (shR c.cel)).2.1,.int .i64 (Qi0 (shR c.cel)).2.2,.bool (shR c.cel).isSome,.int .i64 (Zb c.cel)]:=by
 have h:=h0.up (L':=[]) (by simp);have hsr:shR c.cel=if Zb c.cel≠0 then none else QiU c.cel:=rfl
 refine Zd (Zb c.cel) λE hE=>?_;refine Zd (shR c.cel) λS hS=>?_;rw[hS,hE] at hsr;rw[hS,hE];have hP:=h.co.arr.le;have hQ:=h.ev.arr.le;refine QK.of_W func20 O ntmps20 results20 (by simp) ?_;refine Qc<|xl O<|QS (us:=c.cells) O λb1 w1 ht hR hu=>x Qg<|x Qg<|x Qg<|x Qg<|Qe<|Qf<|Qc<|x (Qr hu O O)<|xl O<|xf<|(YU (h.ext ht)).mono ?_;rintro r2 w2 ⟨hv,hw⟩;rw[hE] at hv;subst hv;refine Qe ?_
 have he:=ht.trans hw;have hy:=hu.ext hw;refine Qc<|Qb<|x (Q9 O O)<|xe<|Q6 rfl (λV=>?_) (λV=>?_)
 ·rw[if_pos V] at hsr;subst hsr;refine Qc<|Qb<|x Qg<|x Qg<|x Qg<|x Qg<|Qe ?_;exact Qn ⟨[.int .i64 0,.int .i64 0,.int .i64 0,.bool false,.int .i64 E],⟨O,O,O,O,O,U⟩,he,O⟩
 rw[if_neg V] at hsr;have hz:E=0:=Ls.1 V;have hT:c.cel.ev.length=c.ev.length:=rfl;have hC:QiU c.cel=shd c.cel (JB c.ev.length):=rfl;rw[hC] at hsr;refine Qi<|Qf<|Qc<|x (Qa O)<|x (Qd hy O O)<|x (Qs (h.ext he).ev.arr O)<|Qb<|xe ?_
 refine Qh<|QB (α:=Nat) [(2,6),(8,11),(20,51)] (λz=>[(20,.int .i64 z)]) (λz w'=>z≤c.ev.length∧Step [] w2 w'∧shd c.cel ((JB c.ev.length).drop z)=S) (λz=>c.ev.length - z) (by rfl) 0 Z
  ⟨Lk _,Step.refl _ _,hsr.symm⟩ ?_
 rintro k g w3 ⟨hk,hf,G⟩;have hg:=he.trans hf;have hD:=hy.ext hf;have h3:=h.ext hg;refine Qc<|x (QA O O)<|xe<|Qf<|QG O (λhh=>?_) (λhh=>?_)
 ·refine Qz ?_;have hF:c.ev.length≤k:=by have hj:¬(k:Int)<(c.ev.length:Int):=hh;omega
  rw[Lq (by rw[zC];exact hF)] at G;have hG:S=none:=G.symm;subst hG;refine Qc<|x Qg<|x Qg<|x Qg<|x Qg<|Qe ?_;exact Qn ⟨[.int .i64 0,.int .i64 0,.int .i64 0,.bool false,.int .i64 0],⟨O,O,O,O,O,U⟩,hg,by rw[hz];rfl⟩
 have h1:k<c.ev.length:=by have hj:(k:Int)<(c.ev.length:Int):=hh;omega
 rw[QdN h1,Qec] at G;refine Qi<|Qf<|Qh<|Qc<|Qb<|Qe<|Qc<|Qe<|Qf<|Qc<|x (Qa O)<|x (Qd hD O O)<|x (Qs h3.co.arr O)<|Qb<|xe ?_;have hl:ownr c.cel (k:Int)=ixs (λq:IV=>decide ((k:Int)∈q.p.a.al)) 0 c.co:=by
  show ixs (λx:YN=>decide ((k:Int)∈x.a.al)) 0 (c.co.map (·.it))=_;generalize 0=i0;generalize c.co=l;induction l generalizing i0 with
  | nil=>rfl
  | cons a l ih=>rw[LO,ixs,ixs,ih (i0+1)];rfl
 rw[hl] at G;refine Qh<|QB (α:=Nat×Value) [(9,11),(26,40)] (λz=>[(9,z.2),(26,.int .i64 z.1)]) (λz w'=>z.1≤c.co.length∧Step [] w3 w'∧Qu 3 w3.heap.size w' z.2 (ixs (λq:IV=>decide ((k:Int)∈q.p.a.al)) 0 (c.co.take z.1))) (λz=>c.co.length - z.1) (by rfl) (0,nS) ⟨O,O,U⟩
  ⟨Lk _,Step.refl _ _,QN _ _ _ _⟩ ?_
 rintro ⟨i,v⟩ g w4 ⟨hi,J,H⟩;simp only[] at hi H;have h5:=hg.trans J;have h4:=h.ext h5;have hU:=J.size;have hm:=K6 (λq:IV=>decide ((k:Int)∈q.p.a.al)) (c.co.take i) 0;rw[Lv] at hm;refine Qc<|x (QA O O)<|xe<|Qf<|QG O (λhn=>?_) (λhn=>?_)
 ·refine Qz ?_;have h6:c.co.length≤i:=by have hj:¬(i:Int)<(c.co.length:Int):=hn;omega
  rw[Lm h6] at H;rw[Lm h6] at hm;refine Zd (ixs (λq:IV=>decide ((k:Int)∈q.p.a.al)) 0 c.co) λow hl=>?_;rw[hl] at H hm G;have hA:QL [] w4.heap v ow:=Qu.ints H (by omega) (by simp);refine Qc<|Qb<|x (Qs hA O)<|x (ZU O O)<|xe<|Q6 O (λho=>?_) (λho=>?_)
  ·have h2:2≤ow.length:=by have hH:(2:Int)≤(ow.length:Int):=ho;omega
   rw[if_pos h2] at G;subst G;have e0:cget ow 0=ow[0]'(by omega):=by unfold cget;simp[List.getD,show 0<ow.length by omega]
   have e1:cget ow 1=ow[1]'(by omega):=by unfold cget;simp[List.getD,show 1<ow.length by omega]
   refine Qf<|QW (Step [] w4) [(0,true),(1,true),(2,true),(3,true),(4,true),(5,true),(6,true),(7,true),(8,true),(9,true),(10,true),(11,true)] mixed (by rfl) (by kernel_rfl) (Step.drew _ _) ?_;refine p (λ_=>Qo)<|p (λ_=>Qo)<|pii (i:=0) O hA O O (by omega) λhV h7=>?_;rw[←e0] at h7;refine pq (λ_ hc=>Qx (h7.st hc) O) <|
    p (λ_=>Qo)<|pii (i:=1) O hA O O (by omega) λhW h8=>?_
   rw[←e1] at h8;refine pq (λ_ hc=>Qx (h8.st hc) O)<|p (λ_=>Qg) <|
    p (λ_=>Qg)<|p (λ_=>Qg)<|p (λ_=>Qg)<|p (λ_=>Qg)<|pe ?_
   exact Qn ⟨[.int .i64 k,.int .i64 (cget ow 0),.int .i64 (cget ow 1),.bool true,.int .i64 0],⟨O,O,O,O,O,U⟩,h5.trans (Step.drew _ _),by rw[hz];rfl⟩
  have h2:¬2≤ow.length:=by have hH:¬(2:Int)≤(ow.length:Int):=ho;omega
  rw[if_neg h2] at G;refine Qi<|Qy<|QP O O<|Qb<|xe ?_;exact ⟨k+1,by omega,Z,h1,hf.trans J,G⟩
 have I:i<c.co.length:=by have hj:(i:Int)<(c.co.length:Int):=hn;omega
 have h9:=Li I;have T:=jw (λq:IV=>decide ((k:Int)∈q.p.a.al)) I;refine Qi<|Qf<|Qh<|Qc<|Qb<|xig (g:=Za) (i:=i) YT h4.co.arr O O I λhX hB=>?_;refine Zd (c.co[i]'I) λq hq=>?_;rw[hq] at hB h9 T;have Y:=h4.co.each q h9;refine x (QI hB O O)<|xl O<|Qt (us:=[.string .empty,nS,.int .i64 0,nS,nS]) O λhY w5 hI hJ hp=>x Qg <|
  xl rfl<|Qp (us:=Za q) hp O O O O ⟨O,Y.al.one,O,Y.mr.one,Y.ed.one,U⟩ λw6 hK hp=>xe ?_
 have ha:Step [] w4 w6:=hI.then1 hK hJ;refine Qc<|x (Qa O)<|x (Qa O)<|x (Qd hp O O)<|Qb<|xl O<|xf<|(ZM (Y.al.ext ha) (k:Int)).mono ?_;rintro r7 w7 ⟨rfl,rfl⟩;refine xe<|Q6 rfl (λhr=>?_) (λhr=>?_)
 ·rw[if_pos (decide_eq_true hr)] at T;refine Qy<|Qb<|Qb<|xl O<|QC (us:=[[.int .i64 i]]) O O (by decide) (by simp) ⟨rfl,rfl,U⟩ λhZ w8 hL ga hM=>?_;have hs:=ha.trans hL;have gb:=hs.size;refine xl O<|Q2 (news:=[.int .i64 i]) (L:=[]) (Qq H hs) O O O (hM.at (by simp)) (by simp[Value.oneCell']) (by omega) (by omega) λv9 w9 hN hO gc =>
   Qe ?_
  have hge:=Qk H;refine Qy<|QP O O<|Qb<|xe<|⟨(i+1,v9),by simp only[];omega,⟨O,O,U⟩,I,(J.trans hs).then hO (λb hb=>.inr (hge b hb).1),?_⟩;simp only[];rw[T];exact Qu.snoc hN
 rw[if_neg (by simpa using hr),LF] at T;refine Qi<|Qy<|QP O O<|Qb<|xe ?_;exact ⟨(i+1,v),by simp only[];omega,⟨O,O,U⟩,I,J.trans ha,by simp only[];rw[T];exact Qq H ha⟩
theorem Qbj {w:World}(E:Kb w 4096):QK prog 50 [] w λr w'=>r=.bool true∧Step [] w w':=by
 refine QK.of_W func50 O ntmps50 results50 (by simp) ?_;refine Qc<|Qe<|QU (α:=Unit) [(0,4)] (λz=>[(0,.bool true)]) (λz w'=>Step [] w w') (by rfl) ?_ ?_
 ·refine Qy<|xl O<|xf<|(QaN E).mono ?_;rintro S G ⟨rfl,H⟩;refine Qb<|xl O<|xf<|(Qdw G).mono ?_;rintro r2 T ⟨rfl,I⟩;refine x (Qm O)<|Qe ?_;exact ⟨(),Z,H.trans I⟩
 rintro z g V J;exact Qn ⟨[.bool true],Z,O,J⟩
theorem Js.eq_iff (a b:Js):a=b↔a.kd=b.kd∧a.ix=b.ix∧a.co=b.co:=by
 cases a;cases b;simp
instance mdlDec (a b:Js):Decidable (a=b):=decidable_of_iff _ (Js.eq_iff a b).symm
theorem U5 {L L':LN}{w:World}{q q':MV}(h:QL L w.heap q.v q.co) (h':QL L' w.heap q'.v q'.co):QK prog 16 [.agg (ZC q).toArray,.agg (ZC q').toArray] w λr w'=>r=.bool (decide (q.m=q'.m))∧Step [] w w':=by
 refine QK.of_W func16 O ntmps16 results16 (by simp) ?_;refine Qc<|xl O<|QS (us:=ZC q) O λb2 w1 S ha T=>xl O<|QS (us:=ZC q') O λb3 w2 J hb G=>Qe ?_;have E:=S.trans J;have H:=T.ext J;refine QU (α:=Bool) [(4,23)] (λz=>[(4,.bool z)]) (λz w'=>Step [] w w'∧z=decide (q.m=q'.m)) (by rfl) ?_ ?_
 ·refine Qy<|x (Qa O)<|x (Qd H O O)<|x (Qa O)<|x (Qd G O O)<|xb (Q5 O O) (λh9=>?_) (λh9=>?_)
  ·refine Qb<|x (Qa O)<|x (Qd H O O)<|x (Qa O)<|x (Qd G O O)<|xb (Q5 O O) (λI=>?_) (λI=>?_)
   ·refine x (Qm O)<|Qb<|x (Qa O)<|x (Qd H O O)<|x (Qa O)<|x (Qd G O O)<|xl O<|xf<|(qX (h.ext E) (h'.ext E)).mono ?_;rintro r3 w3 ⟨rfl,V⟩;refine x (Qm O)<|Qe<|⟨_,Z,E.trans V,?_⟩;refine decide_eq_decide.2 ?_;rw[Js.eq_iff];exact ⟨λe=>⟨h9,I,e⟩,λe=>e.2.2⟩
   refine x (Qm O)<|Qb<|xs O<|xs O<|xs O<|xs O<|xs O<|x (Qm O)<|Qe<|⟨false,Z,E,(decide_eq_false λe=>I ?_).symm⟩;exact congrArg Js.ix e
  refine Qb<|xs O<|xs O<|xs O<|xs O<|xs O<|x (Qm O)<|Qb<|xs O<|xs O<|xs O<|xs O<|xs O<|x (Qm O)<|Qe<|⟨false,Z,E,(decide_eq_false λe=>h9 ?_).symm⟩;exact congrArg Js.kd e
 rintro z g w4 ⟨Y,hz⟩;exact Qn ⟨[.bool z],Z,by rw[←hz];rfl,Y⟩
def X5:ByteArray:=⟨#[98,117,102,102,101,114]⟩
def K7:YN:=⟨X5,⟨[1,2],2,[0,1],[(0,1,1),(1,2,0)]⟩⟩
def Qhy:Zw:={ mzC 3 with rq:=[K7],ex:=[QfG 1 2] }
def QaO:Zw:={ Qhy with ex:=[] }
theorem Qe7:Zb Qhy=0:=by kernel_rfl
theorem Qe6:mods Qhy=[⟨1,0,[0,1]⟩,⟨2,0,[1,2]⟩]:=by kernel_rfl
theorem yk:Zb QaO=0:=by kernel_rfl
theorem Qe8:rem QaO=[2]:=by kernel_rfl
theorem Qfa:Vu QaO=0:=by kernel_rfl
theorem Qe9:(qA QaO).length=2:=by kernel_rfl
theorem Qhw:((qA QaO).map (·.st)).getD 1 0=2:=by kernel_rfl
theorem Qhx:shR QaO=none:=by kernel_rfl
set_option maxHeartbeats 4000000 in
theorem Vf (w:World):QK prog 126 [] w λr w'=>Step [] w w'∧Qgx w.heap.size w'.heap r Qhy:=by
 refine QK.of_W func126 O ntmps126 results126 (by simp) ?_;refine Qc<|xl O<|Qt (us:=Ym) O λG w1 hp hR hr=>xe ?_;refine Qc<|xl O<|xf<|(XW 3 (by decide) w1).mono ?_;rintro r2 w2 ⟨hf,E,rfl,h1,hg⟩;refine xl rfl<|Qt (us:=Ym) O λH w3 h3 hs h4=>xl O<|Qp (us:=E.cells) h4 O O O O (hg [] (by simp)).ones λw4 h5 ht=>xe ?_;have ha:Step [] w2 w4:=h3.then1 h5 hs;have hS:=hp.size
 have hT:=hf.size;have hU:=ha.size;have h6:=hr.lt;have h7:=ht.lt;refine Qc<|xl O<|QC (us:=[[.int .i64 1],[.int .i64 2]]) O O (by decide) (by simp) ⟨rfl,rfl,rfl,rfl,U⟩ λS w5 hu hV h8=>xl rfl<|QC (us:=[[.int .i64 0],[.int .i64 1]]) rfl rfl (by decide) (by simp) ⟨rfl,rfl,rfl,rfl,U⟩ λT w6 hh hW hA =>
  x (QD ⟨rfl,O,O,U⟩)<|x (QD ⟨O,O,O,U⟩)<|xl O<|QC (us:=[Qw (0,1,1),Qw (1,2,0)]) O O (by decide) (by exact (by decide:2*3≤1000000)) ⟨O,O,O,O,U⟩ λV w7 hc hY hB=>?_
 have hC:=(hu.trans hh).trans hc;refine x (QD ⟨O,O,O,O,U⟩)<|x (ZV [(0,[.string X5]),(1,[.slice (some ⟨S,0,none⟩) 2 2,.int .i64 2,.slice (some ⟨T,0,none⟩) 2 2,.slice (some ⟨V,0,none⟩) 2 2])] ⟨O,O,O,O,U⟩) <|
  xl rfl<|QC (us:=[[.string X5,.slice (some ⟨S,0,none⟩) 2 2,.int .i64 2,.slice (some ⟨T,0,none⟩) 2 2,.slice (some ⟨V,0,none⟩) 2 2]]) O O (by decide) (by exact (by decide:1*5≤1000000)) ⟨O,O,U⟩ λI w8 Y hZ hD=>?_
 have hv:=hC.trans Y;refine x (Qa O)<|xl O<|QE (j:=2) (u:=.slice (some ⟨I,0,none⟩) 1 1) (ht.ext hv) O O (by simp) rfl λw9 hi hE=>xe ?_;refine Qc<|x (QD ⟨O,O,U⟩)<|x (QD ⟨O,O,U⟩)<|xl O<|QC (us:=[QO (1,1),QO (2,1)]) O O (by decide) (by exact (by decide:2*2≤1000000)) ⟨O,O,O,O,U⟩ λhe ga hw gb hF=>x (QD ⟨O,O,U⟩) <|
  xl rfl<|QC (us:=[[.string JI,.slice (some ⟨he,0,none⟩) 2 2]]) O O (by decide) (by exact (by decide:1*2≤1000000)) ⟨O,O,U⟩ λJ hG hj gc hH=>?_
 have hk:=hw.trans hj;refine x (Qa O)<|xl O<|QE (j:=3) (u:=.slice (some ⟨J,0,none⟩) 1 1) (hE.ext hk) O O (by simp) rfl λhy hl hJ=>xe ?_;have ge:=hu.size;have gg:=hh.size;have gh:=hc.size;have gi:=Y.size;have gj:=hi.size;have gk:=hw.size;have gl:=hj.size;have hn:Step [H] w4 hy:=((hv.any.trans' hi).trans hk.any).trans' hl
 have hK:G∉[H]:=by simp only[List.mem_singleton];omega
 have hM:=((hr.ext hf).ext ha).step hn hK;have hN:ZN [E.ve,E.vc,.slice (some ⟨I,0,none⟩) 1 1,.slice (some ⟨J,0,none⟩) 1 1,E.vk]:=by
  have h9:=(hg [] (by simp)).ones;exact ⟨h9.1,h9.2.1,O,O,h9.2.2.2.2.1,U⟩
 refine Qc<|x (Qr hJ O O)<|xl O<|Qp (us:=[E.ve,E.vc,.slice (some ⟨I,0,none⟩) 1 1,.slice (some ⟨J,0,none⟩) 1 1,E.vk]) hM O O O O hN λgm hz hO=>xe ?_
 have hq:=CL.cel_ex (CL.cel_rq h1 (.slice (some ⟨I,0,none⟩) 1 1) [⟨X5,⟨.slice (some ⟨S,0,none⟩) 2 2,.slice (some ⟨T,0,none⟩) 2 2,.slice (some ⟨V,0,none⟩) 2 2,K7.a⟩⟩]) (.slice (some ⟨J,0,none⟩) 1 1) [⟨JI,.slice (some ⟨he,0,none⟩) 2 2,[(1,1),(2,1)]⟩]
 refine Qn ⟨[.agg [E.ve,E.vc,.slice (some ⟨I,0,none⟩) 1 1,.slice (some ⟨J,0,none⟩) 1 1,E.vk].toArray],⟨⟨_,O,Qv O (hO.at (L:=[]) (by simp)).cells⟩,U⟩,(((hp.trans hf).trans ha).then1 hn (by omega)).then1 hz (by omega),_,rfl,hq,λL hL=>?_⟩;have h0:∀b∈G::L,b<w1.heap.size:=λb hb=>by
  rcases Lb.1 hb with rfl | hb
  ·exact h6
  have:=hL b hb;omega
 have hP:∀b∈H::G::L,b<w4.heap.size:=λb hb=>by
  rcases Lb.1 hb with rfl | hb
  ·exact h7
  have:=h0 b hb;omega
 have h2:=(hg (G::L) h0).up (L':=H::G::L) (λb hb=>by
  rcases Lb.1 hb with rfl | hb
  ·exact .inr hs
  exact .inl hb)
 have ho:=(h2.ext ha).st (hn.mono (by simp));have nB:∀b,w4.heap.size≤b→b∉H::G::L:=λb hb hm=>by have:=hP b hm;omega
 have hI:Y9 (H::G::L) w8.heap (.slice (some ⟨I,0,none⟩) 1 1) [⟨X5,⟨.slice (some ⟨S,0,none⟩) 2 2,.slice (some ⟨T,0,none⟩) 2 2,.slice (some ⟨V,0,none⟩) 2 2,K7.a⟩⟩]:=by
  refine ⟨hD.arr (nB _ (by omega)) (n:=1) (cap:=1) (sz:=5) O (by decide) (Lr _),λq hq=>?_,λq hq=>?_⟩
  ·rw[La.1 hq];exact ⟨(((h8.ext hh).ext hc).ext Y).arr (nB _ (by omega)) (n:=2) (cap:=2) (sz:=1) O (by decide) (Lr _),((hA.ext hc).ext Y).arr (nB _ (by omega)) (n:=2) (cap:=2) (sz:=1) O (by decide) (Lr _),(hB.ext Y).arr (nB _ (by omega)) (n:=2) (cap:=2) (sz:=3) O (by decide) (Lr _)⟩
  rw[La.1 hq];exact YS (by decide)
 have hX:qy (H::G::L) hG.heap (.slice (some ⟨J,0,none⟩) 1 1) [⟨JI,.slice (some ⟨he,0,none⟩) 2 2,[(1,1),(2,1)]⟩]:=by
  refine ⟨hH.arr (nB _ (by omega)) (n:=1) (cap:=1) (sz:=2) O (by decide) (Lr _),λq hq=>?_,λq hq=>?_⟩
  ·rw[La.1 hq];exact (hF.ext hj).arr (nB _ (by omega)) (n:=2) (cap:=2) (sz:=2) O (by decide) (Lr _)
  rw[La.1 hq];exact YS (by decide)
 have hQ:ZA (H::G::L) hy.heap (CL.mk E.ve E.vc (.slice (some ⟨I,0,none⟩) 1 1) (.slice (some ⟨J,0,none⟩) 1 1) E.vk E.ev E.co [⟨X5,⟨.slice (some ⟨S,0,none⟩) 2 2,.slice (some ⟨T,0,none⟩) 2 2,.slice (some ⟨V,0,none⟩) 2 2,K7.a⟩⟩] [⟨JI,.slice (some ⟨he,0,none⟩) 2 2,[(1,1),(2,1)]⟩] E.cs) :=
  ⟨ho.ev,ho.co,((hI.st (hi.mono (by simp))).ext hk).st (hl.mono (by simp)),hX.st (hl.mono (by simp)),ho.cs⟩
 exact (hQ.st (hz.mono (by simp))).up (λb hb=>.inl (Ll _ (Ll _ hb)))
theorem UT {a b:LI}(ha:Yg a) (hb:Yg b) (h:∀x,x∈a↔x∈b):a=b:=by
 have na:a.Nodup:=List.Pairwise.imp (λh=>by omega) ha;have nb:b.Nodup:=List.Pairwise.imp (λh=>by omega) hb;exact List.Perm.eq_of_pairwise (le:=λx y:Int=>x<y) (λa b _ _ h1 h2=>by omega) ha hb ((List.perm_ext_iff_of_nodup na nb).2 h)
theorem JK {m n:Nat}{e:Int}:e∈setK m n↔∃k:Nat,k<n∧e=(k:Int)∧m.testBit k=true:=by
 unfold setK;rw[Lx];constructor
 ·rintro ⟨k,hk,rfl⟩;rw[LS,LX] at hk;refine ⟨k,by omega,O,?_⟩;have:=of_decide_eq_true hk.2;rw[Nat.testBit_eq_decide_div_mod_eq];rw[Nat.and_one_is_mod] at this;exact decide_eq_true this
 rintro ⟨k,hk,rfl,E⟩;refine ⟨k,?_,O⟩;rw[LS,LX];refine ⟨by omega,decide_eq_true ?_⟩;rw[Nat.testBit_eq_decide_div_mod_eq] at E;rw[Nat.and_one_is_mod];exact of_decide_eq_true E
theorem zW (b k j:Nat):(orB b k).testBit j=true↔b.testBit j=true∨k=j:=by
 unfold orB;rw[Nat.testBit_or,Nat.one_shiftLeft,Nat.testBit_two_pow,Bool.or_eq_true,decide_eq_true_iff]
theorem QaG (j:Nat):∀(ls:List (Int×Int)) (b:Nat),(ls.foldl (λb l=>orB b l.1.toNat) b).testBit j=true↔b.testBit j=true∨∃p∈ls,p.1.toNat=j
 | [],b=>by simp
 | p::ls,b=>by
  rw[LJ,QaG j ls,zW];simp only[List.mem_cons,exists_eq_or_imp];exact or_assoc
theorem QbD {ls:List (Int×Int)}{n:Nat}(h:∀p∈ls,0≤p.1∧p.1<(n:Int)) (hi:Yg (ls.map (·.1))):setK (qF ls) n=ls.map (·.1):=by
 refine UT (JG _ _) hi λx=>?_;rw[JK,Lx];unfold qF;constructor
 ·rintro ⟨k,hk,rfl,E⟩;rw[QaG] at E;rcases E with E | ⟨p,hp,G⟩
  ·simp at E
  exact ⟨p,hp,by have:=h p hp;omega⟩
 rintro ⟨p,hp,rfl⟩;have:=h p hp;exact ⟨p.1.toNat,by omega,by omega,(QaG _ _ _).2 (.inr ⟨p,hp,O⟩)⟩
theorem Qay (x:YN) (j:Nat):∀(l:List YN) (k b:Nat),(rqB x k b l).testBit j=true↔b.testBit j=true∨∃i,∃h:i<l.length,k+i=j∧((l[i]'h).a.al.any λe=>decide (e∈x.a.al))=true
 | [],k,b=>by simp[rqB]
 | y::l,k,b=>by
  rw[rqB,Qay x j l];constructor
  ·rintro (h | ⟨i,hi,h1,h2⟩)
   ·by_cases hy:(y.a.al.any λe=>decide (e∈x.a.al))=true
    ·rw[if_pos hy,zW] at h;rcases h with h | h
     ·exact .inl h
     exact .inr ⟨0,by simp,by omega,hy⟩
    rw[if_neg hy] at h;exact .inl h
   exact .inr ⟨i+1,by simp;omega,by omega,h2⟩
  rintro (h | ⟨i,hi,h1,h2⟩)
  ·refine .inl ?_;by_cases hy:(y.a.al.any λe=>decide (e∈x.a.al))=true
   ·rw[if_pos hy,zW];exact .inl h
   rw[if_neg hy];exact h
  cases i with
  | zero =>
  have h3:(y.a.al.any λe=>decide (e∈x.a.al))=true:=h2;refine .inl ?_;rw[if_pos h3,zW];exact .inr (by omega)
  | succ i=>exact .inr ⟨i,by simpa using hi,by omega,h2⟩
def mts (a b:LI):Bool:=a.any λe=>decide (e∈b)
theorem jm (a b:LI):mts a b=mts b a:=by
 unfold mts;rw[Bool.eq_iff_iff,Mz,Mz];constructor <;> rintro ⟨e,h1,h2⟩ <;> exact ⟨e,of_decide_eq_true h2,decide_eq_true h1⟩
def lmR (co:List YN):Nat→List YN→List Js
 | _,[]=>[]
 | i,x::l=>⟨1,i,ixs (λy:YN=>mts x.a.al y.a.al) 0 co⟩::lmR co (i+1) l
def lmP (kd:Int):Nat→List (List (Int×Int))→List Js
 | _,[]=>[]
 | i,x::l=>⟨kd,i,x.map (·.1)⟩::lmP kd (i+1) l
def lmd (c:Zw):List Js:=lmR c.co 0 c.rq++(lmP 2 0 (c.ex.map (·.ls))++lmP 3 0 (c.cs.map (·.ts)))
theorem yc {α:Type}(q:α→Bool) (x:Int):∀(l:List α) (i:Nat),x∈ixs q i l↔∃k,∃h:k<l.length,x=((i+k:Nat):Int)∧q (l[k]'h)=true
 | [],i=>by simp[ixs]
 | y::l,i=>by
  rw[ixs];have ih:=yc q x l (i+1);constructor
  ·intro h;by_cases hy:q y=true
   ·rw[if_pos hy] at h;rcases Lb.1 h with h | h
    ·exact ⟨0,by simp,by rw[h];simp,hy⟩
    obtain ⟨k,hk,h1,h2⟩:=ih.1 h;exact ⟨k+1,by simp;omega,by rw[h1];congr 1;omega,h2⟩
   rw[if_neg hy] at h;obtain ⟨k,hk,h1,h2⟩:=ih.1 h;exact ⟨k+1,by simp;omega,by rw[h1];congr 1;omega,h2⟩
  rintro ⟨k,hk,h1,h2⟩;cases k with
  | zero =>
   have h3:q y=true:=h2;rw[if_pos h3];exact Lb.2 (.inl (by rw[h1];simp))
  | succ k =>
   have h3:=ih.2 ⟨k,by simpa using hk,by rw[h1];congr 1;omega,h2⟩;split
   ·exact Ll _ h3
   exact h3
theorem ym {α:Type}(q:α→Bool):∀(l:List α) (i:Nat),Yg (ixs q i l)
 | [],_=>List.Pairwise.nil
 | y::l,i=>by
  rw[ixs];split
  ·refine LU.2 ⟨λx hx=>?_,ym q l (i+1)⟩;obtain ⟨k,_,h1,_⟩:=(yc q x l (i+1)).1 hx;omega
  exact ym q l (i+1)
theorem Qg0 {x:YN}{co:List YN}{n:Nat}(G:co.length≤n):setK (rqB x 0 0 co) n=ixs (λy:YN=>mts x.a.al y.a.al) 0 co:=by
 refine UT (JG _ _) (ym _ _ _) λe=>?_;rw[JK,yc];constructor
 ·rintro ⟨k,hk,rfl,E⟩;rw[Qay] at E;rcases E with E | ⟨i,hi,h1,h2⟩
  ·simp at E
  exact ⟨i,hi,by omega,by rw[jm];exact h2⟩
 rintro ⟨k,hk,rfl,h2⟩;exact ⟨k,by omega,by simp,(Qay _ _ _ _ _).2 (.inr ⟨k,hk,by omega,by rw[jm] at h2;exact h2⟩)⟩
theorem UL {kd:Int}{f:List (Int×Int)→Prop}(E:∀ls,f ls→setK (qF ls) 8=ls.map (·.1)):∀(l:List (List (Int×Int))) (i:Nat),(∀x∈l,f x)→Xx kd i (l.map qF)=lmP kd i l
 | [],_,_=>rfl
 | x::l,i,h=>by
  rw[LO,Xx,lmP,E x (h x Ln),UL E l (i+1) (λy hy=>h y (Ll _ hy))]
theorem jr {co:List YN}(E:co.length≤8):∀(l:List YN) (i:Nat),Xx 1 i (l.map λx=>rqB x 0 0 co)=lmR co i l
 | [],_=>rfl
 | x::l,i=>by
  rw[LO,Xx,lmR,Qg0 E,jr E l (i+1)]
theorem D25.lmd {c:Zw}(h:D25 c):mods c=lmd c:=by
 have h3:=h.c3;have I:(szs c.co).length=c.co.length:=by unfold szs;rw[Lc]
 unfold mods Proofs.YtdffckgdcegpaaaGreatDoor.lmd srR srX srC;rw[jr (by omega)];have e1:c.ex.map (λx=>qF x.ls)=(c.ex.map (·.ls)).map qF:=by rw[MH];rfl
 have e2:c.cs.map (λx=>qF x.ts)=(c.cs.map (·.ts)).map qF:=by rw[MH];rfl
 rw[e1,e2,UL (f:=λls=>(∀p∈ls,0≤p.1∧p.1<(8:Int))∧Yg (ls.map (·.1))) (λls E=>QbD (n:=8) E.1 E.2) _ _ (λls H=>?_),UL (f:=λls=>(∀p∈ls,0≤p.1∧p.1<(8:Int))∧Yg (ls.map (·.1))) (λls E=>QbD (n:=8) E.1 E.2) _ _ (λls H=>?_)]
 ·obtain ⟨x,hx,rfl⟩:=Lx.1 H;have h1:=(h.cs x hx).2;have h2:Xs (szs c.co) none x.ts=0:=by
   unfold YL at h1;split at h1
   ·cases h1
   split at h1
   ·rename_i h9;exact absurd h1 h9
   rename_i h9;exact Ls.1 h9
  have G:=Kv _ _ _ h2;exact ⟨λp hp=>by have:=G.1 p hp;omega,G.2.1⟩
 obtain ⟨x,hx,rfl⟩:=Lx.1 H;have G:=Kw _ _ _ (h.ex x hx).2.2;exact ⟨λp hp=>by have:=G.1 p hp;omega,G.2.1⟩
theorem Qjg {l:List MV}{a b:Js}(h:l.map MV.m=[a,b]):∃m0 m1,l=[m0,m1]∧m0.m=a∧m1.m=b:=by
 match l,h with
 | [m0,m1],h =>
  simp only[List.map_cons,List.map_nil,List.cons.injEq,and_true] at h;exact ⟨m0,m1,O,h.1,h.2⟩
 | [],h=>simp at h
 | [_],h=>simp at h
 | _::_::_::_,h=>simp at h
theorem Qj2 {ps:List AV}{l:List QQ}(h:ps.map (·.a)=l) (hl:l.length=2):∃p0 p1,ps=[p0,p1]∧p1.a.st=(l.map (·.st)).getD 1 0:=by
 subst h
 match ps,hl with
 | [p0,p1],_=>exact ⟨p0,p1,O,O⟩
 | [],h=>simp at h
 | [_],h=>simp at h
 | _::_::_::_,h=>simp at h
set_option maxHeartbeats 8000000 in
theorem QaM {w:World}(hG:Kb w 4096):QK prog 49 [] w λr w'=>r=.bool true∧Step [] w w':=by
 refine QK.of_W func49 O ntmps49 results49 (by simp) ?_;refine Qc<|Qe<|Qc<|xl O<|xf<|(Vf w).mono ?_;rintro r1 w1 ⟨hH,c1,rfl,hi,hI⟩;refine xl rfl<|xf<|(KE (hI [] (by simp))).mono ?_;rintro r2 G ⟨hJ,vM,lM,rfl,V,_,hj⟩;rw[hi,Qe6] at hj;obtain ⟨H,I,rfl,hK,hL⟩:=Qjg (hj Qe7);refine Qb<|x (Ql O O)<|x (Ql O O)<|x Qg<|Qe ?_;have hk:=hH.trans hJ
 have hl:Zp [] G.heap vM [H,I].length 3 ([H,I].flatMap ZC):=V.arr (by simp) (by simp);have hN:QL [] G.heap H.v H.co:=V.each H (by simp) [] (by simp);have hO:QL [] G.heap I.v I.co:=V.each I (by simp) [] (by simp);refine Qf<|QU (α:=Unit) [(18,24)] (λz=>[(24,.bool false)]) (λz w'=>w'=G) (by rfl) ?_ ?_
 ·refine Qy<|Qb<|xb (Q9 O O) (λhm=>absurd (by rw[hi];exact Qe7) hm) (λhm=>?_);refine Qb<|Qb<|x (Qs hl O)<|xb (Q9 O O) (λhn=>absurd O hn) (λhn=>?_);refine x (Qm O)<|xe ?_;exact ⟨(),Z,O⟩
 rintro z g G rfl;refine Yl rfl ?_;refine Qi<|Qc<|xl O<|xf<|(Vf G).mono ?_;rintro r3 w3 ⟨ho,E,rfl,hP,hp⟩;refine xl rfl<|Qt (us:=Ym) O λb3 w4 hQ hr hR=>xl O<|Qp (us:=E.cells) hR O O O O (hp [] (by simp)).ones λw5 hS hT=>xe ?_;have hs:Step [] w3 w5:=hQ.then1 hS hr;refine Qc<|x (Qa O)<|xl O<|QE (j:=3) (u:=nS) hT O O (by simp) rfl λw6 ht Y=>xe ?_;have gs:=ho.size
 have hu:Step [] G w6:=(ho.trans hs).then1 ht (by omega);have hU:=hk.trans hu;have ha:ZA [] w6.heap (CL.mk E.ve E.vc E.vr (nS) E.vk E.ev E.co E.rq [] E.cs):=by
  have h9:=(((hp [] (by simp)).up (L':=[b3]) (λb hb=>.inr (by rw[La.1 hb];exact hr))).ext hs).st ht;have J:=h9.up (L':=[]) (by simp);exact ⟨J.ev,J.co,J.rq,⟨Zp.nil _ _ 2,λq hq=>(by cases hq),λq hq=>(by cases hq)⟩,J.cs⟩
 have hq:(CL.mk E.ve E.vc E.vr (nS) E.vk E.ev E.co E.rq [] E.cs).cel=QaO:=CL.cel_ex hP (nS) [];refine Qc<|x (Qr Y O O)<|xl O<|xf<|(Vo ha).mono ?_;rintro r7 w7 ⟨S,vr,rfl,_,hv⟩;rw[hq,Qe8] at hv;have hV:=hv yk;have hW:QL [] w7.heap vr [2]:=Qu.ints (L:=[]) hV (by simp) (by simp)
 refine Qb<|x (Ql O O)<|x (Ql O O)<|x Qg<|Qe<|Qc<|x (Qr (Y.ext S) O O)<|xl O<|xf<|(JW (ha.ext S) (hG.ext (hU.trans S))).mono ?_;rintro r8 w8 ⟨hw,vs,rfl,_,hy⟩;rw[hq] at hy;obtain ⟨_,ps,hX,hY⟩:=hy Qfa;obtain ⟨p0,p1,rfl,hz⟩:=Qj2 hX Qe9;rw[Qhw] at hz;have hZ:=hY [] (by simp);refine Qb<|x (Ql O O)<|x (Ql O O)<|x Qg<|Qe ?_;have hc:=S.trans hw
 refine Qc<|x (Qr (Y.ext hc) O O)<|xl O<|xf<|(Qdt (ha.ext hc)).mono ?_;rintro r9 w9 ⟨he,h0⟩;rw[hq,Qhx,yk] at h0;subst h0;refine Qb<|x (Ql O O)<|x (Ql O O)<|x (Ql O O)<|x (Ql O O)<|x (Ql O O)<|x Qg<|x Qg<|x Qg<|x Qg<|Qe ?_;have ga:=hc.trans he;have T:=hu.trans ga;have gb:=hw.trans he
 refine QU (α:=Unit) [(0,0),(45,91)] (λz=>[(0,.bool true)]) (λz w'=>Step [] w9 w') (by rfl) ?_ ?_
 ·refine Qy ?_;have h1:=hl.ext T;refine Qb<|xig (g:=ZC) (i:=0) z7 h1 O O (by simp) λgt gc=>x (QI gc rfl rfl)<|xl rfl<|QC (us:=[[.int .i64 0],[.int .i64 1]]) rfl rfl (by decide) (by simp) ⟨rfl,rfl,rfl,rfl,U⟩ λge gu h2 gv gg=>x (QD ⟨rfl,rfl,U⟩) <|
   xl rfl<|xf<|(U5 (q:=H) (q':=⟨1,0,.slice (some ⟨ge,0,none⟩) 2 2,[0,1]⟩) ((hN.ext T).ext h2) (gg.arr (L:=[]) (by simp) (n:=2) (cap:=2) (sz:=1) rfl (by omega) (Lr _))).mono ?_
  rintro gh gw ⟨hf,gi⟩
  replace hf:gh=.bool true:=hf.trans (congrArg Value.bool (decide_eq_true (p:=H.m=_) hK));subst hf;have hg:=h2.trans gi;refine Qb<|Qb<|xig (g:=ZC) (i:=1) z7 (h1.ext hg) O O (by simp) λgx gj=>x (QI gj rfl rfl)<|xl rfl<|QC (us:=[[.int .i64 1],[.int .i64 2]]) rfl rfl (by decide) (by simp) ⟨rfl,rfl,rfl,rfl,U⟩ λgk gy h3 gz gl=>x (QD ⟨rfl,rfl,U⟩) <|
   xl rfl<|xf<|(U5 (q:=I) (q':=⟨2,0,.slice (some ⟨gk,0,none⟩) 2 2,[1,2]⟩) (((hO.ext T).ext hg).ext h3) (gl.arr (L:=[]) (by simp) (n:=2) (cap:=2) (sz:=1) rfl (by omega) (Lr _))).mono ?_
  rintro gm g0 ⟨hh,gn⟩
  replace hh:gm=.bool true:=hh.trans (congrArg Value.bool (decide_eq_true (p:=I.m=_) hL));subst hh;have h4:=hg.trans (h3.trans gn);refine x (Qm O)<|Qb<|Qb<|xb (Q5 O O) (λh5=>?_) (λh5=>absurd (by rw[hq];exact yk) h5);refine x (Qm O)<|Qb<|Qb<|xl O<|QC (us:=[[.int .i64 2]]) O O (by decide) (by simp) ⟨rfl,rfl,U⟩ λg2 g3 h6 g4 go =>
   xl rfl<|xf<|(qX (l:=[2]) (l':=[2]) (((hW.ext gb).ext h4).ext h6) (go.arr (L:=[]) (by simp) (n:=1) (cap:=1) (sz:=1) rfl (by omega) (Lr _))).mono ?_
  rintro g5 g6 ⟨h7,gp⟩;rw[decide_eq_true rfl] at h7;subst h7;have hA:=h4.trans (h6.trans gp);have hB:=(hZ.ext he).ext hA;refine x (Qm O)<|Qb<|Qb<|xb (Q5 O O) (λhC=>?_) (λhC=>absurd (by rw[hq];exact Qfa) hC);refine x (Qm O)<|Qb<|Qb<|x (Qs hB.arr O)<|xb (Q5 O O) (λhD=>?_) (λhD=>absurd O hD)
  refine x (Qm O)<|Qb<|Qb<|xig (g:=Zj) (i:=1) KA hB.arr O O (by simp) λg7 gq=>x (Zl rfl)<|x (Qx (gq.fld 1 (.int .i64 p1.a.st) rfl) rfl)<|xb (Q5 rfl rfl) (λhE=>?_) (λhE=>Qj3 hz hE);refine x (Qm O)<|Qb<|Qb<|xb (Q5 O O) (λhF=>?_) (λhF=>absurd O hF);refine x (Qm O)<|Qb<|Qb<|x (Zr O)<|x (Qm O)<|Qe ?_;exact ⟨(),Z,hA⟩
 rintro z g g8 gr;exact Qn ⟨[.bool true],Z,O,(hk.trans T).trans gr⟩
theorem qk {w:World}(E:Kb w 4096):QK prog 12 [] w λr w'=>r=.bool true∧Step [] w w':=by
 refine QK.of_W func12 O ntmps12 results12 (by simp) ?_;refine Qc<|Qe<|QU (α:=Unit) [(0,4)] (λz=>[(0,.bool true)]) (λz w'=>Step [] w w') (by rfl) ?_ ?_
 ·refine Qy<|xl O<|xf<|(QaM E).mono ?_;rintro J S ⟨rfl,G⟩;refine Qb<|xl O<|xf<|(Qbj (E.ext G)).mono ?_;rintro r2 T ⟨rfl,H⟩;refine x (Qm O)<|Qe ?_;exact ⟨(),Z,G.trans H⟩
 rintro z g V I;exact Qn ⟨[.bool true],Z,O,I⟩
end Go.Proofs.YtdffckgdcegpaaaGreatDoor
namespace Go.Lg
open Go.ChangeShapes Go.WideShapes Go.RowKit
section
variable {H:Type} {enc:TypeId×Value→H} {P:Program}
theorem zl (hl:laidOutB P=true) {W W':World}(G:Step [] W W') {sp:Nat→Bool}:∀{ts:List TypeId}{vs:LV}{ds:List (DataW H)}{ps:List MemPlace},
  (ts.all λt=>P.readableRec t && decide (t<P.types.size))=true→DataW.TrodAll enc P W 0 (λ_=>true) true ts vs ds ps→(∀x∈ps,x.block<W.heap.size)→(∀x∈ps,sp x.block=true)→DataW.TrodAll enc P W' 0 sp true ts vs ds ps
 | [],vs,ds,ps,_,h,_,_=>by
  obtain ⟨rfl,rfl,rfl⟩:=trodAll_nil h;exact trodAll_mk0
 | t::ts,vs,ds,ps,E,h,I,hsp=>by
  obtain ⟨v,J,d,yJ,a,b,rfl,rfl,rfl,h1,h2⟩:=trodAll_cons h;simp only[List.all_cons,Bool.and_eq_true,decide_eq_true_eq] at E;have hb:Below W.heap.size W W':=G.below;refine trodAll_cons_mk (WideElems.Trod_stays hl E.1.1 E.1.2 h1 (λx hx=>hb.same (I x (LL _ hx))) (λx hx=>hsp x (LL _ hx))) ?_
  exact zl hl G (by simpa using E.2) h2 (λx hx=>I x (Mc _ hx)) (λx hx=>hsp x (Mc _ hx))
theorem Qe3 {f:Func}{s:ChangeSpec}{apart fresh handsOn again:Bool}{W W':World}{args:Array Value}{ds gs:List (DataW H)}{before:List MemPlace}{tb:TypeId}
  (hl:laidOutB P=true) (hh:(f.params.toList.all λt=>P.readableRec t && decide (t<P.types.size))=true) (J:f.resultTypes=#[tb]) (S:P.underlying tb=some .bool) (T:s.vars=[])
  (E:s.fn H (ds++gs)={ results:=[.lit (.bool true)],args:=ds })
  (G:DataW.Whole enc P f.params.toList s.vars apart W args.toList ds gs before) (V:Step [] W W'):s.post enc P f apart fresh handsOn again W args (.bool true) W':=by
 have I:=G.lt;have hi:=G;obtain ⟨p,q,hA,Y,rfl,hz,hn⟩:=G;rw[T] at Y;obtain ⟨rfl,rfl⟩:=trodVars_none Y;rw[LF] at *;have hc:∀sp:Nat→Bool,(∀x∈p,sp x.block=true)→DataW.TrodAll enc P W' 0 sp true f.params.toList args.toList ds p:=λsp hsp=>zl hl V hh hA I hsp
 have he:∀(b:Nat) (sp:Nat→Bool) (hd:Bool),DataW.TrodAll enc P W' b sp hd f.resultTypes.toList ((Value.bool true).resultList f.resultTypes.size) [.lit (.bool true)] []:=λb sp hd=>by
  rw[J];exact trodAll_mk1 (shut_bool S true)
 have hb:Below W.heap.size W W':=V.below;have hf:∀sp:Nat→Bool,DataW.TrodVars enc P W' sp s.vars ([]:List (DataW H)) []:=λsp=>by rw[T];rfl
 have hj:(s.fn H ds).results=[.lit (.bool true)]:=by rw[E]
 have hk:(s.fn H ds).args=ds:=by rw[E]
 have hm:(s.fn H ds).vars=[]:=by rw[E]
 have ho:∀(j:Nat) (t:TypeId) (r:Value),f.resultTypes[j]?=some t→((Value.bool true).resultList f.resultTypes.size)[j]?=some r→Value.okWide P W' .any 0 t r:=ok_one J O (okWide_bool_mk S true);refine ⟨ds,[],p,[],p,[],hi,?_,?_,?_,?_,λ_=>⟨ho,[.lit (.bool true)]++ds,[],([]++p)++[],⟨[]++p,[],?_,?_,O,?_,?_⟩,?_⟩⟩
 ·rw[LF,hj];exact he _ _ _
 ·rw[LF,hk];exact hc _ (λx hx=>by simpa using I x hx)
 ·rw[LF,hm];exact hf _
 ·exact World.keptBut_mono (λ_ f=>f.elim) (hb.frame (λ_=>False))
 ·exact trodAll_append (hc _ (λ_ _=>O)) (he _ _ _)
 ·exact hf _
 ·intro b off hp;have hg:MemPlace.cell b off∈p:=by simpa using hp
  rw[hb.frozen (p:=⟨b,off,none⟩) (I _ hg)];exact hz b off hg
 ·intro ha;have:=hn ha;simpa using this
 intro x hx _;simpa using hx
end
end Go.Lg
namespace Go.Proofs.YtdffckgdcegpaaaGreatDoor
open Go.ChangeShapes Go.WideShapes Go.RowKit Go.Lg
theorem Qa9:∀(l:LV),(∀v∈l,∃n:Nat,v=.int .u8 (n:Int)∧n<256)→∃ns:LN,l=bys ns∧ns.length=l.length∧∀n∈ns,n<256
 | [],_=>⟨[],O,O,by simp⟩
 | v::l,h=>by
  obtain ⟨n,rfl,E⟩:=h v Ln;obtain ⟨ns,h1,h2,h3⟩:=Qa9 l (λv G=>h v (Ll _ G));refine ⟨n::ns,by rw[h1];rfl,by simp[h2],λm hm=>?_⟩;rcases Lb.1 hm with rfl | hm
  ·exact E
  exact h3 m hm
theorem QiJ {n:Int}(h:(Lit.int .u8 n).wf=true):∃m:Nat,n=m∧m<256:=by
 simp only[Lit.wf,Bool.and_eq_true,decide_eq_true_eq] at h;rw[show IntKind.u8.min=0 from rfl,show IntKind.u8.max=255 from rfl] at h;exact ⟨n.toNat,by omega,by omega⟩
open Go.Proofs.Tryz
theorem QiT {w:World}{b:Nat}{s:TypeId×Nat}(h:w.shape? b=some s):b<w.heap.size:=by
 unfold World.shape? at h;cases hb:w.heap[b]? with
 | none=>simp[hb] at h
 | some o=>exact (LC.1 hb).1
theorem QhM {P:Program}{w:World}{base:Nat}{a:Addr}{e:TypeId}{n:Nat}(h:w.has P .any base a e n):a.block<w.heap.size:=by
 obtain ⟨_,_,row,cells,h1,_⟩:=h;exact QiT h1
theorem QgU {P:Program}{w:World}{base:Nat}{t e:TypeId}{a:Addr}{n c:Nat}(E:P.underlying t=some (.slice e)) (h:Cell.okWide P w .any base t (.slice (some a) n c)):a.block<w.heap.size:=by
 simp only[Cell.okWide,Cell.ok,E] at h;exact QhM h.2.2
theorem Qe0 {α:Type}{p:Nat→α→Prop}:∀(n:Nat),(∀i,i<n→∃e,p i e)→∃l:List α,l.length=n∧∀i (h:i<l.length),p i (l[i]'h)
 | 0,_=>⟨[],O,λi h=>by simp at h⟩
 | n+1,h=>by
  obtain ⟨l,h1,h2⟩:=Qe0 n (λi hi=>h i (by omega));obtain ⟨e,he⟩:=h n (by omega);refine ⟨l++[e],by simp[h1],λi hi=>?_⟩;by_cases E:i<l.length
  ·rw[Mm E];exact h2 i E
  have:i=n:=by simp at hi;omega
  subst this;rw[MS (by omega)];simpa[h1] using he
theorem UM {α:Type}{f:α→Option Value}:∀{L:List α}{l:LV},L.mapM f=some l→l.length=L.length∧∀(i:Nat) (a:α),L[i]?=some a→f a=l[i]?
 | [],l,h=>by
  simp at h;subst h;exact ⟨O,λi a h=>by simp at h⟩
 | x::L,l,h=>by
  simp only[List.mapM_cons,Option.bind_eq_bind,Option.pure_def,Option.bind_eq_some_iff] at h;obtain ⟨v,E,I,h1,h2⟩:=h;cases h2
  obtain ⟨h3,G⟩:=UM h1;refine ⟨by simp[h3],λi a hi=>?_⟩;cases i with
  | zero=>simp at hi;subst hi;simpa using E
  | succ i=>simpa using G i a (by simpa using hi)
def kT (P:Program) (k:IntKind):Nat→TypeId→Bool
 | 0,_=>false
 | m+1,t=>match P.underlying t with
  | some (.int k')=>k' == k
  | some (.array n e)=>kT P k m e && decide (0<P.cellsOf e) && decide (P.cellsOf t=n*P.cellsOf e)
  | some (.struct fs)=>(List.range (P.cellsOf t)).all λj=>fs.toList.any λf=>kT P k m f.type && decide (f.offset≤j∧j<f.offset+P.cellsOf f.type)
  | _=>false
theorem yz {cs:LV}{o n j:Nat}{c:Value}(h:cs[j]?=some c) (h1:o≤j) (h2:j<o+n):c∈(cs.drop o).take n:=by
 refine L7 (i:=j - o) ?_;rw[LT,if_pos (by omega),ME,show o+(j - o)=j by omega];exact h
section
variable {H:Type} {enc:TypeId×Value→H} {P:Program} {W:World} {base b0:Nat} {sp:Nat→Bool} {held:Bool}
theorem K5 {k:IntKind}:∀(m:Nat) {t:TypeId}{cs:LV}{fuel:Nat}{x:DataW H×List MemPlace},kT P k m t=true→DataW.trod enc P W b0 sp held fuel t cs=some x→∀c∈cs,∃n,c=.int k n∧(Lit.int k n).wf=true
 | 0,_,_,_,_,h,_,_,_=>by cases h
 | m+1,t,cs,fuel,x,h,G,c,hc=>by
  unfold kT at h;obtain ⟨j,J,S⟩:=LE hc;have I:cs[j]?=some c:=by rw[LB J,S]
  split at h
  ·rename_i k' hu;have hk:k'=k:=by simpa using h
   subst hk;obtain ⟨n,h1,_,h2⟩:=DataW.trod_int hu G;rw[h1] at hc;exact ⟨n,La.1 hc,h2⟩
  ·rename_i n e hu;simp only[Bool.and_eq_true,decide_eq_true_eq] at h;obtain ⟨⟨h1,h2⟩,h3⟩:=h;obtain ⟨xs,T,_,_,hl,V,hx⟩:=DataW.trod_array hu G;have Y:=Nat.div_add_mod j (P.cellsOf e);have hh:=Nat.mod_lt j h2;have hi:j / P.cellsOf e<n:=by
    refine (Nat.div_lt_iff_lt_mul h2).2 ?_;omega
   have E:=hx (j / P.cellsOf e) hi;rw[LB (show j / P.cellsOf e<xs.length by omega)] at E;rw[Nat.mul_comm] at Y;exact K5 m h1 E c (yz I (by omega) (by omega))
  ·rename_i fs hu;obtain ⟨xs,T,_,_,hl,V,hx⟩:=DataW.trod_struct hu G;have h1:=Mh.1 h j (List.mem_range.2 (by omega));obtain ⟨f,ha,h2⟩:=Mz.1 h1;simp only[Bool.and_eq_true,decide_eq_true_eq] at h2;obtain ⟨i,hi,hb⟩:=LE ha;have he:i<fs.size:=by simpa using hi
   have hg:fs[i]?=some f:=by rw[Mv he,←hb];simp
   have E:=hx i f hg;rw[LB (show i<xs.length by omega)] at E;exact K5 m h2.1 E c (yz I h2.2.1 h2.2.2)
  cases h
theorem Ve {k:IntKind}{m:Nat}{fs:Array Field}{cs:LV}{xs:List (DataW H×List MemPlace)}{I:Nat}(J:xs.length=fs.size)
  (hx:∀(i:Nat) (f:Field),fs[i]?=some f→DataW.trod enc P W b0 sp held I f.type ((cs.drop f.offset).take (P.cellsOf f.type))=xs[i]?) {i j:Nat} {f:Field} {c:Value} (E:fs[i]?=some f) (hk:kT P k m f.type=true) (h1:f.offset≤j) (h2:j<f.offset+P.cellsOf f.type) (hc:cs[j]?=some c) :
  ∃n,c=.int k n∧(Lit.int k n).wf=true:=by
 have G:=hx i f E;have hi:i<fs.size:=(LC.1 E).1;rw[LB (show i<xs.length by omega)] at G;exact K5 m hk G c (yz hc h1 h2)
theorem QdP {c:Value}(h:∃n,c=.int .u8 n∧(Lit.int .u8 n).wf=true):∃n:Nat,c=.int .u8 (n:Int)∧n<256:=by
 obtain ⟨n,rfl,h1⟩:=h;obtain ⟨m,rfl,h2⟩:=QiJ h1;exact ⟨m,O,h2⟩
end
theorem QkC {P:Program}{W:World}{base:Nat}{ts:List TypeId}{cs:Array Value}(h:∀(i:Nat) (v:Value),cs[i]?=some v→∃u,ts[i % ts.length]?=some u∧Cell.okWide P W .any base u v) (i:Nat) (t:TypeId) (v:Value) (E:cs[i]?=some v) (G:ts[i % ts.length]?=some t):Cell.okWide P W .any base t v:=by
 obtain ⟨u,hu,k⟩:=h i v E;rw[G] at hu;cases hu
 exact k
theorem QjB {H:Type}{enc:TypeId×Value→H}{P:Program}{W:World}{b0 m:Nat}{sp:Nat→Bool}{held:Bool}{fs:Array Field}{cs:LV}{xs:List (DataW H×List MemPlace)}
  (h:∀(i:Nat) (f:Field),fs[i]?=some f→DataW.trod enc P W b0 sp held m f.type ((cs.drop f.offset).take (P.cellsOf f.type))=xs[i]?) (i:Nat) {f:Field} {t o:Nat} {c:Value} (E:fs[i]?=some f) (G:f.type=t) (I:f.offset=o) (hc:P.cellsOf t=1) (J:(cs.drop o).take 1=[c]) (hi:i<xs.length) :
  DataW.trod enc P W b0 sp held m t [c]=some (xs[i]'hi):=by
 have e:=h i f E;rw[G,I,hc,J] at e;rw[e];simp[hi]
theorem Qkr {W:World}{l:List (String×DataW Unit)}{a b:String×DataW Unit}(hl:l=[a,b,("internal/strconv.uint64pow10",Lib.tabData .u64 Lib.pow10Tab)]) (h:laidMetH prog l W) (hp:(l.all λx=>x.2.handleName?.isNone)=true):Tb W:=by
 rw[Go.MakeChecks.laidMetH_plain _ _ _ hp,hl] at h;exact Lib.tabIs_of_head (n:=20) (g:=0) (by kernel_rfl) (t:=410) (by kernel_rfl) (by kernel_rfl) (e:=340) (by kernel_rfl) (by kernel_rfl) (by kernel_rfl) h.tail.tail
structure PwV where
 ns:LN
 ad:Option Addr
 n:Nat
 cp:Nat
 f0:Int
 f1:Int
 f2:Int
 bd:Int
def PwV.pl (l:PwV) (rs:List X4V):PlV:=⟨l.ns,.slice l.ad l.n l.cp,rs,l.f0,l.f1,l.f2,l.bd⟩
abbrev YX (l:PwV):LV:=bys l.ns++[.slice l.ad l.n l.cp,.int .i8 l.f0,.int .i8 l.f1,.int .i8 l.f2,.int .i8 l.bd]
structure PwA (w:World) (l:PwV):Prop where
 n:l.ns.length=147
 b:∀n∈l.ns,n<256
 f0:i8R l.f0
 f1:i8R l.f1
 f2:i8R l.f2
 bd:i8R l.bd
 r:l.n≤4→∃rs:List X4V,rs.length=l.n∧Zp [] w.heap (.slice l.ad l.n l.cp) l.n 4 (rs.flatMap YA)
theorem PwA.pl {w w':World}{l:PwV}(h:PwA w l) (hs:Step [] w w') (E:l.n≤4):∃rs,PlA [] w'.heap (l.pl rs)∧rs.length=l.n:=by
 obtain ⟨rs,h1,h2⟩:=h.r E;exact ⟨rs,⟨h.n,h.b,by show Zp _ _ _ rs.length 4 _;rw[h1];exact h2.ext hs,h.f0,h.f1,h.f2,h.bd⟩,h1⟩
theorem Qkw {l:PwV}(h:l.ns.length=147):(YX l)[147]?=some (.slice l.ad l.n l.cp):=by
 show (YX l)[147+0]?=_;rw[YX,Mq (by rw[YM];omega),YM,h,MN];rfl
theorem Qb2 {c:Value}(h:∃n,c=.int .i8 n∧(Lit.int .i8 n).wf=true):∃n:Int,c=.int .i8 n∧i8R n:=by
 obtain ⟨n,rfl,h⟩:=h;simp only[Lit.wf,Bool.and_eq_true,decide_eq_true_eq] at h;rw[show IntKind.i8.min=-128 from rfl,show IntKind.i8.max=127 from rfl] at h;exact ⟨n,O,by omega⟩
def QiC (P:Program) (fs:Array Field) (n:Nat):Bool:=(List.range n).all λj=>fs.toList.any λf=>kT P .u8 5 f.type && decide (f.offset≤j∧j<f.offset+P.cellsOf f.type)
section
variable {H:Type} {enc:TypeId×Value→H} {P:Program} {W:World} {base b0:Nat} {sp:Nat→Bool} {held:Bool}
theorem Qf9 {fs:Array Field}{n m:Nat}{cs:LV}{xs:List (DataW H×List MemPlace)}(h:QiC P fs n=true) (E:xs.length=fs.size)
  (hx:∀(i:Nat) (f:Field),fs[i]?=some f→DataW.trod enc P W b0 sp held m f.type ((cs.drop f.offset).take (P.cellsOf f.type))=xs[i]?) {j:Nat} {c:Value} (G:j<n) (hc:cs[j]?=some c):∃k:Nat,c=.int .u8 (k:Int)∧k<256:=by
 have h1:=Mh.1 h j (List.mem_range.2 G);obtain ⟨f,I,h2⟩:=Mz.1 h1;simp only[Bool.and_eq_true,decide_eq_true_eq] at h2;obtain ⟨i,hi,J⟩:=LE I;have S:i<fs.size:=by simpa using hi
 have T:fs[i]?=some f:=by rw[Mv S,←J];simp
 exact QdP (Ve E hx T h2.1 h2.2.1 h2.2.2 hc)
theorem Qk4 {t e:TypeId}{c:Value}{fuel:Nat}{x:DataW H×List MemPlace}(I:P.underlying t=some (.slice e)) (he:kT P .u8 5 e=true) (hc:P.cellsOf e=4)
  (ha:Cell.okWide P W .any base t c) (hb:DataW.trod enc P W b0 sp held fuel t [c]=some x):∃a n cp,c=.slice a n cp∧(n≤12→∃u:List X4V,u.length=n∧Zp [] W.heap (.slice a n cp) n 4 (u.flatMap YA)):=by
 rcases DataW.trod_slice I hb with ⟨E,_⟩ | ⟨a,len,cap,elems,rest,m,_,E,_,_,hl,_,hn,hf,_,_⟩
 ·simp at E;subst E;exact ⟨none,0,0,O,λ_=>⟨[],O,Zp.nil _ _ _⟩⟩
 simp at E;subst E;refine ⟨some a,len,cap,O,λho=>?_⟩;have each:∀i,i<len→∃d:X4V,∀r v,(YA d)[r]?=some v→W.cell? (a.add (i*4+r))=some v:=by
  intro i hi;have J:=hf i hi;rw[hc,LB (show i<elems.length by omega)] at J;obtain ⟨cs,E,hg⟩:=MD.1 J;have hh:=K5 5 he hg;obtain ⟨ns,h1,h2,h3⟩:=Qa9 cs (λv G=>QdP (hh v G));unfold World.cells? at E;split at E
  ·have hp:cs.length=4:=by
    simpa using (UM E).1
   refine ⟨⟨ns,by omega,h3⟩,λr v G=>?_⟩;have hv':cs[r]?=some v:=by rw[h1];exact G
   have hk:r<4:=by have:=(LY.1 hv').1;omega
   have S:=(UM E).2 r r (by simp[hk]);rw[Lg.Addr.add_add,hv'] at S;exact S
  cases E
 obtain ⟨u,T,hu⟩:=Qe0 len each;refine ⟨u,T,?_⟩;have V:(u.flatMap YA).length=u.length*4:=Go.Lg.JR YA 4 Us u;refine ⟨by rw[V,T],by omega,.inr ⟨a,cap,rfl,by omega,λ_ _=>by simp,λ_ _=>QgU I ha,λj v G=>?_⟩⟩;have hj:j<u.length*4:=by
  rw[←V];exact (LY.1 G).1
 have hi:j / 4<u.length:=by omega
 have hm:=XM YA 4 Us u (j / 4) hi;have Y:j=j / 4*4+j % 4:=by omega
 have h3:(YA (u[j / 4]'hi))[j % 4]?=some v:=by
  rw[←hm,LT,if_pos (Nat.mod_lt _ (by omega)),ME,←Y];exact G
 rw[←Jc];have:=hu (j / 4) hi (j % 4) v h3;rw[←Y] at this;exact this
theorem Qdo {v:Value}{d:DataW H}{ps:List MemPlace}{t tp te:Nat}{fs:Array Field}{f7 J S:Field}(hu:P.underlying t=some (.struct fs)) (ha:(P.cellTypes P.depth t).map (λts=>(ts.length,ts[147]?))=some (152,some tp)) (hc:P.cellsOf t=152)
  (g7:fs[7]?=some f7) (T:fs[8]?=some J) (g9:fs[9]?=some S) (hk:f7.type=tp) (o7:f7.offset=147) (o8:J.offset=148) (o9:S.offset=151) (c7:P.cellsOf tp=1) (c8:P.cellsOf J.type=3) (c9:P.cellsOf S.type=1)
  (kb:QiC P fs 147=true) (V:kT P .i8 5 J.type=true) (k9:kT P .i8 5 S.type=true) (hn:P.underlying tp=some (.slice te)) (ho:kT P .u8 5 te=true) (hp:P.cellsOf te=4)
  (hb:Value.okWide P W .any base t v) (h:DataW.Trod enc P W b0 sp held t v d ps):∃l:PwV,v=.agg (YX l).toArray∧PwA W l:=by
 simp only[Value.okWide,hu] at hb;obtain ⟨cs,rfl,he,ts,hq,_,hr⟩:=hb;rw[hq] at ha;have hg:=Option.some.inj ha;have hs:ts.length=152:=congrArg Prod.fst hg;have ht:ts[147]?=some tp:=congrArg Prod.snd hg;rw[hc] at he;obtain ⟨l⟩:=cs;have hl:l.length=152:=he;obtain ⟨fuel,hf⟩:=h;obtain ⟨xs,m,_,_,_,G,hv⟩:=DataW.trod_struct hu hf
 have E:∀(i:Nat) (f:Field),fs[i]?=some f→DataW.trod enc P W b0 sp held m f.type ((l.drop f.offset).take (P.cellsOf f.type))=xs[i]?:=hv;have h0:7<fs.size:=(LC.1 g7).1;have g0:∀c∈l.take 147,∃n:Nat,c=.int .u8 (n:Int)∧n<256:=λc hm=>by
  obtain ⟨j,hj,hh⟩:=LE hm;have hw:j<147:=by simp at hj;omega
  have hy:l[j]?=some c:=by
   rw[M0] at hh;rw[LB (by omega),hh]
  exact Qf9 kb G E hw hy
 obtain ⟨ns,e1,e2,e3⟩:=Qa9 _ g0;have hz:ns.length=147:=by rw[e2];simp;omega
 have I:∀j,j<152→∃c,l[j]?=some c:=λj hj=>⟨l[j]'(by omega),LB (by omega)⟩;obtain ⟨Y,q1⟩:=I 147 (by omega);obtain ⟨x2,q2⟩:=I 148 (by omega);obtain ⟨x3,q3⟩:=I 149 (by omega);obtain ⟨x4,q4⟩:=I 150 (by omega);obtain ⟨x5,q5⟩:=I 151 (by omega);have hi:l.drop 147=[Y,x2,x3,x4,x5]:=by
  apply Na;intro i;rw[ME]
  match i with
  | 0=>exact q1
  | 1=>exact q2
  | 2=>exact q3
  | 3=>exact q4
  | 4=>exact q5
  | i+5=>rw[MT (by omega)];rfl
 obtain ⟨y2,rfl,z2⟩:=Qb2 (Ve G E T V (by omega) (by omega) q2);obtain ⟨y3,rfl,z3⟩:=Qb2 (Ve G E T V (by omega) (by omega) q3);obtain ⟨y4,rfl,z4⟩:=Qb2 (Ve G E T V (by omega) (by omega) q4);obtain ⟨y5,rfl,z5⟩:=Qb2 (Ve G E g9 k9 (by omega) (by omega) q5);have w7:=QkC hr 147 tp Y (by simpa using q1) (by rw[hs];exact ht)
 have t7:=QjB (c:=Y) E 7 g7 hk o7 c7 (by rw[hi];rfl) (by omega);obtain ⟨a,n,cp,rfl,hP⟩:=Qk4 hn ho hp w7 t7;refine ⟨⟨ns,a,n,cp,y2,y3,y4,y5⟩,?_,hz,e3,z2,z3,z4,z5,λh3=>hP (by have h4:n≤4:=h3;omega)⟩;show Value.agg l.toArray=.agg (bys ns++_).toArray;rw[←e1,←hi,MC]
end
set_option maxRecDepth 100000 in
theorem Qk5 {H:Type}{enc:TypeId×Value→H}{W:World}{base b0:Nat}{sp:Nat→Bool}{held:Bool}{v:Value}{d:DataW H}{ps:List MemPlace}(E:Value.okWide prog W .any base 36 v) (h:DataW.Trod enc prog W b0 sp held 36 v d ps) :
  ∃l:PwV,v=.agg (YX l).toArray∧PwA W l :=
 Qdo underlying36 (tp:=32) (by kernel_rfl) (by kernel_rfl) O O O O O O O (by kernel_rfl) (by kernel_rfl) (by kernel_rfl) (by kernel_rfl) (by kernel_rfl) (by kernel_rfl) underlying32 (by kernel_rfl) (by kernel_rfl) E h
theorem Qgl {w:World}{l:PwV}(h:PwA w l):QK prog 13 [.agg (YX l).toArray] w λr w'=>r=.bool (decide (l.n≤4))∧Step [] w w':=by
 have E:=Qkw h.n;refine QK.of_W func13 O ntmps13 results13 (by simp) ?_;refine Qc<|xl O<|QS (us:=YX l) O λI J G S H=>Qe<|Qc<|x (Qa O)<|x (Qd H O E)<|x (je O)<|x (X1 O O)<|Qe<|Qn ⟨[_],Z,?_,G⟩;exact congrArg Value.bool (decide_eq_decide.2 (by omega))
theorem yg (co:List YN):∀(l:List YN) (i:Nat),(lmR co i l).length=l.length
 | [],_=>rfl
 | _::l,i=>by rw[lmR,LG,LG,yg co l]
theorem K3 (kd:Int):∀(l:List (List (Int×Int))) (i:Nat),(lmP kd i l).length=l.length
 | [],_=>rfl
 | _::l,i=>by rw[lmP,LG,LG,K3 kd l]
theorem K1 (kd:Int) (m:Js):∀(l:LN) (i:Nat),m∈Xx kd i l↔m.kd=kd∧(i:Int)≤m.ix∧m.ix<((i+l.length:Nat):Int)∧m.co=setK (l.getD (m.ix.toNat - i) 0) 8
 | [],i=>by simp[Xx];intros;omega
 | b::l,i=>by
  rw[Xx,Lb,K1 kd m l (i+1),LG];constructor
  ·rintro (h | ⟨h1,h2,h3,E⟩)
   ·subst h;refine ⟨O,Nc _,by simp only[];omega,?_⟩;rw[show (Int.toNat (i:Int)) - i=0 by omega];rfl
   refine ⟨h1,by omega,by omega,?_⟩;rw[E,show m.ix.toNat - i=m.ix.toNat - (i+1)+1 by omega];rfl
  rintro ⟨h1,h2,h3,E⟩;by_cases e:m.ix=(i:Int)
  ·left;rw[show m.ix.toNat - i=0 by omega] at E;obtain ⟨a,b',G⟩:=m;simp only[] at h1 e E;subst h1;subst e;rw[E];rfl
  right;refine ⟨h1,by omega,by omega,?_⟩;rw[E,show m.ix.toNat - i=m.ix.toNat - (i+1)+1 by omega];rfl
theorem jp {c:Zw}{m:Js}:m∈mods c↔(1≤m.kd∧m.kd≤3)∧(0≤m.ix∧m.ix<((srK c m.kd).length:Int))∧m.co=setK ((srK c m.kd).getD m.ix.toNat 0) 8:=by
 unfold mods;rw[Lj,Lj,K1,K1,K1];simp only[Nat.zero_add,Nat.sub_zero,Int.natCast_zero];unfold srK;by_cases h1:m.kd=1
 ·simp[h1,and_assoc]
 by_cases h2:m.kd=2
 ·simp[h2,and_assoc]
 by_cases h3:m.kd=3
 ·simp[h3,and_assoc]
 simp[h1,h2,h3]
 intros;omega
def lkE (c:Zw) (m:Js):Int:=if m.kd<1∨3<m.kd then 11 else if m.ix<0∨((srK c m.kd).length:Int)≤m.ix then 10 else if m∈lmd c then 0 else 13
theorem Qhp {c:Zw}(h:D25 c) (m:Js):mdE c m=lkE c m:=by
 unfold mdE lkE;rw[if_neg (by rw[h.ck];decide)];split
 ·rfl
 split
 ·rfl
 rename_i h1 h2;have e:(m.co=setK ((srK c m.kd).getD m.ix.toNat 0) 8)↔m∈lmd c:=by
  rw[←h.lmd,jp];exact ⟨λh=>⟨by omega,by omega,h⟩,λh=>h.2.2⟩
 simp only[e]
theorem Qho {c:Zw}(h:D25 c) {m:Js}(hm:m∈lmd c):mdE c m=0:=by
 rw[Qhp h];have h1:=jp.1 (by rw[h.lmd];exact hm);unfold lkE;rw[if_neg (by omega),if_neg (by omega),if_pos hm]
theorem QeP {L:LN}{H:Array Obj}:Zt L H (nS) (nS) (nS) ⟨[],0,[],[]⟩:=⟨Zp.nil _ _ _,Zp.nil _ _ _,Zp.nil _ _ _⟩
def rmT (E:List Js):Nat→LI
 | 0=>[]
 | n+1=>rmT E n++(if (E.any λm=>decide ((n:Int)∈m.co))=true then [] else [(n:Int)])
theorem Uh (G:List Js) (x:Int):∀n,x∈rmT G n↔(0≤x∧x<(n:Int))∧∀m∈G,x∉m.co
 | 0=>by simp[rmT];intros;omega
 | n+1=>by
  rw[rmT,Lj,Uh G x n];split
  ·rename_i h;obtain ⟨m,hm,h1⟩:=Mz.1 h;have h2:=of_decide_eq_true h1;constructor
   ·rintro (⟨h3,E⟩ | h3)
    ·exact ⟨by omega,E⟩
    cases h3
   rintro ⟨h3,E⟩;refine .inl ⟨?_,E⟩;have:x≠(n:Int):=λe=>E m hm (by rw[e];exact h2);omega
  rename_i h;have h1:∀m∈G,(n:Int)∉m.co:=λm hm h2=>h (Mz.2 ⟨m,hm,decide_eq_true h2⟩);constructor
  ·rintro (⟨h3,E⟩ | h3)
   ·exact ⟨by omega,E⟩
   rw[La.1 h3];exact ⟨by omega,h1⟩
  rintro ⟨h3,E⟩;by_cases e:x=(n:Int)
  ·exact .inr (La.2 e)
  exact .inl ⟨by omega,E⟩
theorem zM (E:List Js):∀n,Yg (rmT E n)
 | 0=>List.Pairwise.nil
 | n+1=>by
  rw[rmT];split
  ·rw[LF];exact zM E n
  refine Mf.2 ⟨zM E n,MZ _ _,λa ha b hb=>?_⟩;have:=((Uh E a n).1 ha).1;rw[La.1 hb];omega
theorem zN {j:Nat}(G:j<16):∀(l:LN) (E:Nat),(l.foldl (λl b=>l &&& (65535 ^^^ b)) E).testBit j=true↔E.testBit j=true∧∀b∈l,b.testBit j=false
 | [],E=>by simp
 | b::l,E=>by
  rw[LJ,zN G l,Nat.testBit_and,Nat.testBit_xor,show (65535:Nat)=2 ^ 16 - 1 from rfl,Nat.testBit_two_pow_sub_one,decide_eq_true G,Lu,MO];constructor
  ·rintro ⟨⟨h1,h2⟩,h3⟩;exact ⟨h1,by simpa using h2,h3⟩
  rintro ⟨h1,h2,h3⟩;exact ⟨⟨h1,by simpa using h2⟩,h3⟩
theorem yd {kd:Int}{m:Js}:∀(l:LN) (i:Nat),m∈Xx kd i l→∃b∈l,m.co=setK b 8
 | [],_,h=>by cases h
 | b::l,i,h=>by
  rw[Xx] at h;rcases Lb.1 h with h | h
  ·subst h;exact ⟨b,Ln ..,O⟩
  obtain ⟨b',h1,h2⟩:=yd l (i+1) h;exact ⟨b',Ll _ h1,h2⟩
theorem Un {kd:Int}{b:Nat}:∀(l:LN) (i:Nat),b∈l→∃m∈Xx kd i l,m.co=setK b 8
 | [],_,h=>by cases h
 | b'::l,i,h=>by
  rw[Xx];rcases Lb.1 h with h | h
  ·subst h;exact ⟨_,Ln ..,O⟩
  obtain ⟨m,h1,h2⟩:=Un (kd:=kd) l (i+1) h;exact ⟨m,Ll _ h1,h2⟩
theorem Qji {c:Zw}{m:Js}(h:m∈mods c):∃b∈sets c,m.co=setK b 8:=by
 unfold mods at h;unfold sets;rcases Lj.1 h with h | h
 ·obtain ⟨b,h1,h2⟩:=yd _ _ h;exact ⟨b,LL _ h1,h2⟩
 rcases Lj.1 h with h | h
 ·obtain ⟨b,h1,h2⟩:=yd _ _ h;exact ⟨b,Mc _ (LL _ h1),h2⟩
 obtain ⟨b,h1,h2⟩:=yd _ _ h;exact ⟨b,Mc _ (Mc _ h1),h2⟩
theorem Qhj {c:Zw}{b:Nat}(h:b∈sets c):∃m∈mods c,m.co=setK b 8:=by
 unfold sets at h;unfold mods;rcases Lj.1 h with h | h
 ·obtain ⟨m,h1,h2⟩:=Un (kd:=1) _ 0 h;exact ⟨m,LL _ h1,h2⟩
 rcases Lj.1 h with h | h
 ·obtain ⟨m,h1,h2⟩:=Un (kd:=2) _ 0 h;exact ⟨m,Mc _ (LL _ h1),h2⟩
 obtain ⟨m,h1,h2⟩:=Un (kd:=3) _ 0 h;exact ⟨m,Mc _ (Mc _ h1),h2⟩
theorem Qg3 {c:Zw}(H:c.co.length≤8):rem c=rmT (mods c) c.co.length:=by
 refine UT (JG _ _) (zM _ _) λx=>?_;unfold rem;rw[JK,Uh];constructor
 ·rintro ⟨k,hk,rfl,E⟩;unfold zO at E;rw[zN (by omega),Nat.testBit_two_pow_sub_one,decide_eq_true_iff] at E;refine ⟨by omega,λm hm hx=>?_⟩;obtain ⟨b,hb,e⟩:=Qji hm;rw[e,JK] at hx;obtain ⟨k',_,I,h1⟩:=hx;have e2:k'=k:=by omega
  subst e2;rw[E.2 b hb] at h1;cases h1
 rintro ⟨h1,h2⟩;refine ⟨x.toNat,by omega,by omega,?_⟩;unfold zO;rw[zN (by omega),Nat.testBit_two_pow_sub_one,decide_eq_true_iff];refine ⟨by omega,λb hb=>?_⟩;obtain ⟨m,hm,e⟩:=Qhj hb;have h3:=h2 m hm;rw[e,JK] at h3;refine Bool.eq_false_iff.2 λG=>h3 ⟨x.toNat,by omega,by omega,G⟩
theorem Qhl {c:CL}{ml:List MV}(hD:D25 c.cel) (E:ml.map MV.m=lmd c.cel):ml.length≤8:=by
 have e:=congrArg List.length E;unfold lmd at e;rw[Lc,Lh,Lh,yg,K3,K3,Lc,Lc] at e;have:=hD.r2;have:=hD.x2;have:=hD.k1;omega
theorem Qbn {w:World}{vl:Value}{ps:List AV}(h:Xw [] w.heap vl ps) (ho:∀p∈ps,Q8 p.a) (he:Kb w 4096) :
  QK prog 26 [vl] w λr w'=>Step [] w w'∧∃va,r=.tuple #[va,.int .i64 (KO (ps.map (·.a)))]∧(KO (ps.map (·.a))≠0→va=zA)∧(KO (ps.map (·.a))=0→YO w.heap.size w'.heap va (syA (ps.map (·.a)))):=by
 refine QK.of_W func26 O ntmps26 results26 (by simp) ?_;refine Qc<|xl O<|Qt (us:=Jy) O λb2 w1 E hf J=>Qe<|Qc<|Qb<|xl O<|xf<|(qj (km:=4096) (h.ext E) (he.ext E) (by decide) (zX ho)).mono ?_;rintro r2 w2 ⟨S,vA,vt,c,rfl,G⟩;have hc:=G.e;have hg:=G.good;have hb:=G.bad;obtain ⟨a,xa,xm,H,qs,rfl,T,hq,_⟩:=G.shape;have hh:=E.size;have hr:=S.size;have hi:=J.lt
 refine Qb<|x (Ql O O)<|x (Ql O O)<|x (Ql O O)<|xl O<|Qt (us:=Jy) O λb4 w3 hj hk hl=>xl O<|Qp (us:=[xa,.int .i64 a.st,xm,H]) hl O O O O T λw4 hm hn =>
  x Qg<|Qe ?_
 have V:Step [] w2 w4:=hj.then1 hm hk;have Y:=S.trans V;refine Qc<|x (Qr hn O O)<|Qb<|xl O<|Qp (us:=[xa,.int .i64 a.st,xm,H]) (J.ext Y) O O O O T λw5 ha hp=>Qe<|Qn ⟨[.agg [xa,.int .i64 a.st,xm,H].toArray,.int .i64 c],⟨⟨_,O,Qv O (hp.at (L:=[]) (by simp)).cells⟩,rfl,U⟩,(E.trans Y).then1 ha hf,.agg #[xa,.int .i64 a.st,xm,H],?_,λI=>?_,λI=>?_⟩
 ·show Value.tuple _=Value.tuple _;rw[hc]
 ·exact (hb (by rw[hc];exact I)).1
 have h1:=(hg (by rw[hc];exact I)).1;exact (Y6 (h1.ext V) hi ha).mono hh
theorem j8 {w:World}{c:CL}(h:ZA [] w.heap c) (V:Kb w 4096) :
  QK prog 23 [c.val] w λr w'=>Step [] w w'∧∃va,r=.tuple #[va,.int .i64 (tgE c.cel)]∧(tgE c.cel≠0→va=zA)∧(tgE c.cel=0→YO w.heap.size w'.heap va (tgA c.cel)):=by
 have G:=Qir c.cel;refine QK.of_W func23 O ntmps23 results23 (by simp) ?_;refine Qc<|xl O<|QS (us:=c.cells) O λb1 w1 Y hu hk=>xl O<|Qt (us:=Jy) O λb2 w2 ha hv S=>Qe ?_;have I:=Y.trans ha;have hw:=I.size;have hy:=Y.size;have hz:=S.lt;refine Qc<|x (Qr (hk.ext ha) O O)<|xl O<|xf<|(JW (h.ext I) (V.ext I)).mono ?_;rintro r3 w3 ⟨J,vl,rfl,h1,hl⟩
 refine Qb<|x (Ql O O)<|x (Ql O O)<|x Qg<|Qe ?_;have T:=I.trans J;have h2:=J.size;refine Qf<|Qc<|Qb<|x (Q9 O O)<|xe<|Q6 rfl (λH=>?_) (λH=>?_)
 ·rw[if_pos H] at G;refine Qc<|x (QD U)<|Qb<|xl O<|Qp (us:=Jy) (S.ext J) O O O O ⟨O,O,O,O,U⟩ λw4 hm hn=>Qe<|Qn ⟨[.agg Jy.toArray,.int .i64 (Vu c.cel)],⟨⟨_,O,Qv O (hn.at (L:=[]) (by simp)).cells⟩,rfl,U⟩,T.then1 hm (by omega),zA,?_,λ_=>rfl,λE=>absurd E (by rw[G];exact H)⟩;show Value.tuple _=Value.tuple _;rw[G];rfl
 rw[if_neg H] at G;have hb:=Ls.1 H;obtain ⟨h3,ps,hc,ho⟩:=hl hb;have hq:∀p∈ps,Q8 p.a:=λp hp=>Qd0 hb p.a (by rw[←hc];exact LH hp);have hC:=Qbn (ho [] (by simp)) hq (V.ext T);rw[hc,←G] at hC;refine Qi<|Qc<|Qb<|xl O<|xf<|hC.mono ?_;rintro r5 w5 ⟨he,va,rfl,hf,hg⟩;have hr:∃us,va=.agg us.toArray∧us.length=4∧ZN us:=by
  by_cases E:tgE c.cel=0
  ·exact YV (hg E)
  exact ⟨Jy,hf E,O,O,O,O,O,U⟩
 obtain ⟨us,hh,hi,hs⟩:=hr;refine x (Ql O O)<|x (Ql O O)<|xl O<|Qp (us:=us) (S.ext (J.trans he)) O (show Go.Lg.ev _ _=_ from hh) hi O hs λw6 hj ht=>Qe<|Qn ⟨[.agg us.toArray,.int .i64 (tgE c.cel)],⟨⟨_,O,Qv hi (ht.at (L:=[]) (by simp)).cells⟩,rfl,U⟩,(T.trans he).then1 hj (by omega),va,?_,hf,λE=>?_⟩
 ·show Value.tuple _=Value.tuple _;rw[hh]
 exact (Y6 (hg E) (by omega) hj).mono (by omega)
theorem Qcb:∀{E:List Ed},(E.Pairwise λx y=>x.1<y.1∨(x.1=y.1∧x.2.1<y.2.1))→∀{s v t:Int},(s,v,t)∈E→eget E s v=some t
 | [],_,_,_,_,h=>by cases h
 | e::E,hp,s,v,t,h=>by
  obtain ⟨h1,h2⟩:=LU.1 hp;rw[eget];rcases Lb.1 h with h | h
  ·subst h;rw[if_pos ⟨rfl,rfl⟩]
  have h3:=h1 _ h;rw[if_neg (λG=>by have a1:e.1=s:=G.1;have a2:e.2.1=v:=G.2;simp only[] at h3;omega)];exact Qcb h2 h
def Ks (b:QQ) (x:Int) (vs:LI):List Ed:=vs.filterMap λv=>(eget b.ed x v).map λu=>(x,v,u)
theorem Qdd (b:QQ) (x v:Int) (vs:LI):Ks b x (v::vs)=match eget b.ed x v with | none=>Ks b x vs | some u=>(x,v,u)::Ks b x vs:=by
 unfold Ks;rw[L5];cases eget b.ed x v <;> rfl
theorem Qha {b:QQ}(E:Q8 b) (x:Int):Zy b.ed x=Ks b x b.al:=by
 have G:(Zy b.ed x).Pairwise λe d=>e.2.1<d.2.1:=by
  unfold Zy;rw[List.pairwise_filter];exact E.edi.imp λ{e d} h h1 h2=>by
   have:=of_decide_eq_true h1;have:=of_decide_eq_true h2;omega
 have H:(Ks b x b.al).Pairwise λe d=>e.2.1<d.2.1:=by
  unfold Ks;rw[List.pairwise_filterMap];exact E.ali.imp λ{v w} h e he d hd=>by
   cases h1:eget b.ed x v with
   | none=>rw[h1] at he;cases he
   | some u =>
    cases h2:eget b.ed x w with
    | none=>rw[h2] at hd;cases hd
    | some u2 =>
     rw[h1] at he;rw[h2] at hd;cases he;cases hd
     exact h
 have n1:(Zy b.ed x).Nodup:=G.imp λ{e d} h he=>by subst he;omega
 have I:(Ks b x b.al).Nodup:=H.imp λ{e d} h he=>by subst he;omega
 refine List.Perm.eq_of_pairwise (le:=λe d:Ed=>e.2.1<d.2.1) (λa b _ _ h1 h2=>by omega) G H ((List.perm_ext_iff_of_nodup n1 I).2 λe=>?_);unfold Ks;rw[Ml];constructor
 ·intro h;obtain ⟨h1,h2⟩:=Zu h;refine ⟨e.2.1,(E.ed e h1).2.2.1,?_⟩;obtain ⟨p,v,u⟩:=e;have J:p=x:=h2;subst J;rw[Qcb E.edi h1];rfl
 rintro ⟨v,S,he⟩;cases h1:eget b.ed x v with
 | none=>rw[h1] at he;cases he
 | some u =>
  rw[h1] at he;cases he
  unfold Zy;exact LS.2 ⟨JT h1,decide_eq_true O⟩
theorem yw {b:QQ}(E:Q8 b):evs [b]=b.al:=by
 show mrg (· || ·) [] b.al=b.al;have hi:Yg ([]:LI):=List.Pairwise.nil;have h1:=yb (· || ·) _ _ _ (Lr _) hi E.ali;have h2:=QbQ (· || ·) _ _ _ (Lr _) hi E.ali;have na:(mrg (· || ·) [] b.al).Nodup:=List.Pairwise.imp (λh=>by omega) h1;have nb:b.al.Nodup:=List.Pairwise.imp (λh=>by omega) E.ali
 exact List.Perm.eq_of_pairwise (le:=λx y:Int=>x<y) (λa b _ _ h1 h2=>by omega) h1 E.ali ((List.perm_ext_iff_of_nodup na nb).2 λx=>by rw[h2];simp)
abbrev YE (a:QQ):Cs:=Yd a a.st.toNat 0 (Zz a)
theorem cn0 {a:QQ}(I:0<a.st):CnG a 0 (Zz a):=by
 have E:0<a.st.toNat:=by omega
 refine ⟨⟨by simp[Zz],λs hs=>by simp[Zz] at hs;subst hs;omega,by simp[Zz],λk J k1=>?_⟩,Lk _,⟨by simp[Zz,Zn],by simp[Zz]⟩,by simp[Zz],by simp[Zz],λj S=>by omega⟩;by_cases ek:k=0
 ·subst ek;rw[if_pos (by simp[Zz])];unfold Zn Zz;simp[List.getD,E]
 rw[if_neg (by simpa[Zz] using ek)];unfold Zz;have G:0≠k.toNat:=by omega
 have H:k.toNat<a.st.toNat:=by omega
 unfold Zn;rw[List.getD_eq_getElem?_getD,MY G];simp[H]
theorem Qa3 {a:QQ}(G:Q8 a) (H:0<a.st):CnP a (YE a).ord∧ZD a=⟨a.al,((YE a).ord.length:Int),(YE a).mk',(YE a).ed⟩∧(YE a).ord.length≤a.st.toNat:=by
 obtain ⟨I,h1,h2⟩:=VN G a.st.toNat 0 (Zz a) (cn0 H);have J:(Yd a a.st.toNat 0 (Zz a)).ord.length≤a.st.toNat:=pig _ _ h1.nu.nd (λx hx=>by have:=h1.nu.bd x hx;omega);have S:I=(Yd a a.st.toNat 0 (Zz a)).ord.length:=by have:=h1.le;omega
 subst S;have E:ZD a=⟨a.al,((Yd a a.st.toNat 0 (Zz a)).ord.length:Int),(Yd a a.st.toNat 0 (Zz a)).mk',(Yd a a.st.toNat 0 (Zz a)).ed⟩:=by unfold ZD;rw[if_neg (by omega)]
 refine ⟨⟨h1.nu.nd,h1.nu.bd,h1.hd,by rw[E],by rw[E],?_,?_,h1.cl⟩,E,J⟩
 ·rw[E];exact h1.mk2
 rw[E];exact h1.ed
theorem ja {a:QQ}(G:Q8 a) {i:Nat}{c:Cs}(h:CnG a i c):∃r,(Kd a i c).ord=c.ord++r:=by
 have E:(Zv a i c).ord=c.ord:=by unfold Zv;split <;> rfl
 have H:(Zv a i c).num=c.num:=by unfold Zv;split <;> rfl
 obtain ⟨_,⟨r,k2⟩,_⟩:=Jf (st:=a.st) (i:=i) (Zy a.ed (Zn c.ord i)) (Zv a i c) (by rw[E,H];exact h.nu) (λe he=>(G.ed e (Zu he).1).2.2.2);exact ⟨r,by unfold Kd;rw[k2,E]⟩
theorem jZ {a:QQ}(E:Q8 a):∀(f i:Nat) (c:Cs),CnG a i c→∃r,(Yd a f i c).ord=c.ord++r
 | 0,_,c,_=>⟨[],by simp[Yd]⟩
 | f+1,i,c,h=>by
  rw[Yd];split
  ·rename_i hi;obtain ⟨G,h1⟩:=ja E h;obtain ⟨r2,h2⟩:=jZ E f (i+1) _ (h.next E hi);exact ⟨G++r2,by rw[h2,h1,Lz]⟩
  exact ⟨[],by simp⟩
def RlS (c:Cs) (s:Sy):Prop:=s.tup=(Ya c.ord.length).map (λk=>[k])∧s.mk'=c.mk'∧s.ed=c.ed
theorem Ue {n k:Nat}:[(k:Int)]∈(Ya n).map (λk=>[k])↔k<n:=by
 rw[Lx];constructor
 ·rintro ⟨x,hx,e⟩;rw[X6] at hx;have:x=(k:Int):=by simpa using e
  omega
 exact λh=>⟨(k:Int),(X6 _ _).2 ⟨by omega,by omega⟩,O⟩
theorem Qbq:∀{n k:Nat},k<n→((Ya n).map (λk=>[k])).idxOf [(k:Int)]=k
 | 0,k,h=>by omega
 | n+1,k,h=>by
  rw[J3,Lt,L2];by_cases hk:k<n
  ·rw[if_pos (Ue.2 hk),Qbq hk]
  have e:k=n:=by omega
  subst e;rw[if_neg (λh=>hk (Ue.1 h))];simp[Y2]
theorem zL {b:QQ}(E:Q8 b) (h0:0<b.st) {i:Nat}(hi:i<(YE b).ord.length):∀(vs:LI),(∀v∈vs,v∈b.al)→∀(c:Cs) (s:Sy),RlS c s→NuI b.st c.ord c.num →
  (∃r,(YE b).ord=((Ks b (Zn (YE b).ord i) vs).foldl (Q7 i) c).ord++r)→∃s',Vs [ZD b] i [(i:Int)] vs s=some s'∧RlS ((Ks b (Zn (YE b).ord i) vs).foldl (Q7 i) c) s'
 | [],_,c,s,T,_,_=>⟨s,O,T⟩
 | v::vs,hv,c,s,T,ha,G=>by
  obtain ⟨hP,hk,hz⟩:=Qa3 E h0;have hc:=hv v Ln;have hf:(ZD b).al=b.al:=by rw[hk]
  have V:=hP.step hi v;have hl:∀e∈Ks b (Zn (YE b).ord i) vs,0≤e.2.2∧e.2.2<b.st:=λe he=>by
   unfold Ks at he;obtain ⟨v',_,h2⟩:=Ml.1 he;cases h1:eget b.ed (Zn (YE b).ord i) v' with
   | none=>rw[h1] at h2;cases h2
   | some u=>rw[h1] at h2;cases h2;exact (E.ed _ (JT h1)).2.2.2
  rw[Vs];rw[Qdd] at G ⊢;cases hg:eget b.ed (Zn (YE b).ord i) v with
  | none =>
   rw[hg] at V G;have H:ZX v [ZD b] [(i:Int)]=none:=by rw[ZX,if_neg (by rw[hf];exact λh=>h hc),V];rfl
   have hp:syE [ZD b] i [(i:Int)] s v=some s:=by unfold syE;rw[H]
   rw[hp];exact zL E h0 hi vs (λv hv'=>hv v (Ll _ hv')) c s T ha G
  | some u =>
   rw[hg] at V G;simp only[List.foldl_cons] at G ⊢;have J:=(E.ed _ (JT hg)).2.2.2;simp only[] at J;have H:ZX v [ZD b] [(i:Int)]=some [((YE b).ord.idxOf u:Int)]:=by rw[ZX,if_neg (by rw[hf];exact λh=>h hc),V];rfl
   obtain ⟨n1,⟨r1,n2⟩,n3,n4,n5⟩:=Uu (i:=i) ha (e:=(Zn (YE b).ord i,v,u)) J.1 J.2;obtain ⟨_,⟨r2,k2⟩,_⟩:=Jf (i:=i) (Ks b (Zn (YE b).ord i) vs) (Q7 i c (Zn (YE b).ord i,v,u)) n1 hl;obtain ⟨r,hh⟩:=G;have I:(YE b).ord=(Q7 i c (Zn (YE b).ord i,v,u)).ord++(r2++r):=hh.trans (by rw[k2,Lz])
   have hq:∃Y,syE [ZD b] i [(i:Int)] s v=some Y∧RlS (Q7 i c (Zn (YE b).ord i,v,u)) Y:=by
    obtain ⟨e1,e2,e3⟩:=T;have S:=ha.nu u J.1 J.2;by_cases hm:u∈c.ord
    ·rw[if_pos hm] at S;have hj:=Me hm;have hb:Q7 i c (Zn (YE b).ord i,v,u)=⟨c.ord,c.num,c.mk',c.ed++[((i:Int),v,(c.ord.idxOf u:Int))]⟩:=by
      unfold Q7;simp only[];rw[if_neg (by rw[S];omega),S]
     rw[hb] at I ⊢;have hix:(YE b).ord.idxOf u=c.ord.idxOf u:=by rw[I];simp only[];rw[L2,if_pos hm]
     rw[hix] at H;have hs:[((c.ord.idxOf u:Nat):Int)]∈s.tup:=by rw[e1];exact Ue.2 hj
     refine ⟨⟨s.tup,s.mk',s.ed++[((i:Int),v,(s.tup.idxOf [((c.ord.idxOf u:Nat):Int)]:Int))]⟩,by unfold syE;rw[H];simp only[];rw[if_pos hs],e1,e2,?_⟩;simp only[];rw[e3,e1,Qbq hj]
    rw[if_neg hm] at S;have hb:Q7 i c (Zn (YE b).ord i,v,u)=⟨c.ord++[u],c.num.set u.toNat c.ord.length,c.mk',c.ed++[((i:Int),v,(c.ord.length:Int))]⟩:=by
     unfold Q7;simp only[];rw[if_pos (by rw[S];decide)]
    rw[hb] at I ⊢;simp only[] at I;have hix:(YE b).ord.idxOf u=c.ord.length:=by rw[I,Lz,L2,if_neg hm];simp
    have h3:c.ord.length<(YE b).ord.length:=by rw[I];simp
    rw[hix] at H;have ht:¬[((c.ord.length:Nat):Int)]∈s.tup:=by rw[e1];exact λh=>Ns _ (Ue.1 h)
    have hu:s.tup.length=c.ord.length:=by rw[e1,Lc,Y2]
    have h4:=E.st1;refine ⟨⟨s.tup++[[((c.ord.length:Nat):Int)]],s.mk',s.ed++[((i:Int),v,(s.tup.length:Int))]⟩,by unfold syE;rw[H];simp only[];rw[if_neg ht,if_neg (by omega)],?_,e2,?_⟩
    ·simp only[];rw[e1,Lh,LA,J3,Lt];rfl
    simp only[];rw[e3,hu]
   obtain ⟨Y,hw,hy⟩:=hq;rw[hw];exact zL E h0 hi vs (λv hv'=>hv v (Ll _ hv')) _ Y hy n1 ⟨r,hh⟩
theorem jt {b:QQ}(G:Q8 b) (H:0<b.st):∀(f g i:Nat) (c:Cs) (s:Sy),CnG b i c→RlS c s→Yd b f i c=YE b→b.st.toNat≤i+f→b.st.toNat≤i+g →
  ∃s',syL [ZD b] g i s=some s'∧RlS (YE b) s'
 | 0,g,i,c,s,hc,E,he,hf,hg=>by
  rw[Yd] at he;have hl:c.ord.length≤b.st.toNat:=pig _ _ hc.nu.nd (λx hx=>by have:=hc.nu.bd x hx;omega);exact ⟨s,Ut (by rw[E.1,Lc,Y2];omega),by rw[←he];exact E⟩
 | f+1,g,i,c,s,hc,E,he,hf,hg=>by
  obtain ⟨hP,ha,ht⟩:=Qa3 G H;have hu:s.tup.length=c.ord.length:=by rw[E.1,Lc,Y2]
  rw[Yd] at he;by_cases hi:i<c.ord.length
  ·rw[if_pos hi] at he;have hw:c.ord.length≤b.st.toNat:=pig _ _ hc.nu.nd (λx hx=>by have:=hc.nu.bd x hx;omega);obtain ⟨I,rfl⟩:∃I,g=I+1:=⟨g - 1,by omega⟩;obtain ⟨r,J⟩:=jZ G f (i+1) _ (hc.next G hi);rw[he] at J;obtain ⟨r1,hb⟩:=ja G hc;have S:(YE b).ord=c.ord++(r1++r):=by rw[J,hb,Lz]
   have T:Zn (YE b).ord i=Zn c.ord i:=by rw[S];exact UX hi
   have hh:i<(YE b).ord.length:=by rw[S,Lh];omega
   have hT:qu s i=[(i:Int)]:=by
    unfold qu;rw[E.1];have:((Ya c.ord.length).map λk=>[k])[i]?=some [(i:Int)]:=by
     simp[Ya,hi]
    simp[List.getD,this]
   have hj:RlS (Zv b i c) (ZF [ZD b] i [(i:Int)] s):=by
    have hk:=hP.mk2;have V:(i:Int)∈(ZD b).mr↔Zn c.ord i∈b.mr:=by
     rw[hk,←T];simp only[List.mem_map,List.mem_filter,List.mem_range'_1,decide_eq_true_eq];constructor
     ·rintro ⟨k,⟨_,h2⟩,h3⟩;have:k=i:=by omega
      subst this;exact h2
     intro h2;exact ⟨i,⟨by omega,h2⟩,O⟩
    have hn:Xa [ZD b] [(i:Int)]=decide ((i:Int)∈(ZD b).mr):=by
     show (decide ((i:Int)∈(ZD b).mr) && true)=_;rw[Bool.and_true]
    unfold ZF Zv;rw[hn];by_cases hm:Zn c.ord i∈b.mr
    ·rw[if_pos hm,if_pos (decide_eq_true (V.2 hm))];exact ⟨E.1,by simp only[];rw[E.2.1],E.2.2⟩
    rw[if_neg hm,if_neg (λh=>hm (V.1 (of_decide_eq_true h)))];exact E
   have hp:(Zv b i c).ord=c.ord:=by unfold Zv;split <;> rfl
   have hq:(Zv b i c).num=c.num:=by unfold Zv;split <;> rfl
   have Y:Kd b i c=(Ks b (Zn (YE b).ord i) b.al).foldl (Q7 i) (Zv b i c):=by
    unfold Kd;rw[Qha G,T]
   have hs:evs [ZD b]=b.al:=by
    have e1:(ZD b).al=b.al:=by rw[ha]
    have e2:=yw G;have e3:evs [ZD b]=mrg (· || ·) [] (ZD b).al:=rfl;rw[e3,e1];exact e2
   obtain ⟨s1,h1,h2⟩:=zL G H hh b.al (λv hv=>hv) (Zv b i c) _ hj (by rw[hp,hq];exact hc.nu) ⟨r,by rw[←Y];exact J⟩;rw[←Y] at h2;rw[syL,if_pos (by omega),hT,hs,h1];exact jt G H f I (i+1) _ s1 (hc.next G hi) h2 he (by omega) (by omega)
  rw[if_neg hi] at he;exact ⟨s,Ut (by omega),by rw[←he];exact E⟩
theorem QdR {b:QQ}(E:Q8 b) (G:0<b.st):∃q,sync [ZD b]=some (ZD b,q):=by
 obtain ⟨I,H,hb⟩:=Qa3 E G;have hc:=E.st1;have J:RlS (Zz b) (qv [ZD b]):=⟨O,O,O⟩;obtain ⟨S,h1,h2⟩:=jt E G b.st.toNat 4096 0 (Zz b) (qv [ZD b]) (cn0 G) J O (by omega) (by omega);refine ⟨S.tup,?_⟩;have T:(ZD b).st=((YE b).ord.length:Int):=by rw[H]
 have hp:=I.hd.2;unfold sync;rw[if_neg (λ⟨a,ha,h⟩=>by rw[La.1 ha,T] at h;omega),h1];have V:evs [ZD b]=b.al:=by
  have e1:(ZD b).al=b.al:=by rw[H]
  have e2:=yw E;have Y:evs [ZD b]=mrg (· || ·) [] (ZD b).al:=rfl;rw[Y,e1];exact e2
 rw[Np,V,h2.1,h2.2.1,h2.2.2,Lc,Y2,←H]
theorem jy {α:Type}{q:α→Bool}:∀(l:List α) (i:Nat),(ixs q i l).length=l.length→ixs q i l=(List.range' i l.length).map λk:Nat=>(k:Int)
 | [],_,_=>rfl
 | x::l,i,h=>by
  have hl:=K6 q l (i+1);rw[ixs] at h ⊢;by_cases hq:q x=true
  ·rw[if_pos hq] at h ⊢;rw[jy l (i+1) (by simpa using h),LG,MW];rfl
  rw[if_neg hq,LG] at h;omega
theorem Qcz {A:QQ}(E:Q8 A) (lf:Lf):∃q,sync [qB A lf]=some (qB A lf,q):=by
 unfold qB;split
 ·have G:=q8 E;refine ⟨[],?_⟩;unfold sync;rw[if_pos ⟨_,La.2 rfl,rfl⟩,yw G]
 rename_i h;have h1:=Vx E lf;have H:=h1.st0;have hp:0<(rstr A lf).st:=by
  have h2:(rstr A lf).st≠0:=λe=>h (.inl e);omega
 exact QdR h1 hp
def whC (k:Zw):Zw:=⟨k.ev,k.co,k.rq.take 1,[],[]⟩
theorem QiI {k:Zw}(h:D25 k):D25 (whC k):=by
 refine ⟨h.ev,h.c0,h.c3,?_,h.co,λx hx=>h.rq x (LM hx),?_,by show 0≤2;omega,λx hx=>(by cases hx),My,by show 0≤1;omega,λx hx=>(by cases hx)⟩
 ·show (k.rq.take 1).length≤2;have:=h.r2;rw[Lv];omega
 show (k.co.map (·.nm)++(k.rq.take 1).map (·.nm)).Nodup;exact h.nd.sublist (((List.take_sublist 1 k.rq).map _).append_left _)
theorem QdE {k:Zw}(h:D25 k) (J:k.ex=[]) (S:k.cs=[]) {m:Js}(hm:mods k=[m]) (hl:m.co.length=k.co.length):tgE k=suE k∧(suE k=0→tgA k=zE k):=by
 have hb:=h.lmd;have hh:m∈lmd k:=by rw[←hb,hm];exact La.2 O
 have I:=hb.symm.trans hm;obtain ⟨x,T⟩:∃x,k.rq=[x]:=by
  have e:=congrArg List.length I;unfold lmd at e;rw[J,S,Lh,Lh,yg,K3,K3] at e;have e1:k.rq.length=1:=e
  match hk:k.rq,e1 with
  | [x],_=>exact ⟨x,O⟩
 have V:m=⟨1,0,ixs (λy:YN=>mts x.a.al y.a.al) 0 k.co⟩:=by
  unfold lmd at I;rw[J,S,T] at I;have e2:[(⟨1,((0:Nat):Int),ixs (λy:YN=>mts x.a.al y.a.al) 0 k.co⟩:Js)]=[m]:=I;exact (List.cons.inj e2).1.symm
 have hc:m.co=Ya k.co.length:=by
  rw[V] at hl ⊢;show ixs _ 0 k.co=_;rw[jy k.co 0 hl,Ya,List.range_eq_range']
 have G:prt m=⟨Ya k.co.length,[0],[],[]⟩:=by
  have e1:m.kd=1:=by rw[V]
  have e2:m.ix=0:=by rw[V]
  unfold prt;rw[e1,e2,hc];rfl
 have he:y7 k (prt m)=k:=by
  rw[G];have e1:chs k.co (Ya k.co.length)=k.co:=by
   apply L4
   ·simp[chs,Ya]
   intro i h1 h2;simp[chs,Ya,List.getD,h2]
  have e2:chs k.rq [0]=k.rq:=by rw[T];rfl
  unfold y7;simp only[];rw[e1,e2];have e3:Qee k ⟨Ya k.co.length,[0],[],[]⟩=k.ex:=by rw[J];rfl
  have e4:Qef k ⟨Ya k.co.length,[0],[],[]⟩=k.cs:=by rw[S];rfl
  rw[e3,e4]
 have Y:=h.ck;have hi:Uy k (prt m)=0:=by
  have hj:Xj (k.co.length:Int) none (prt m).co=0:=by
   rw[G];exact (Yz _ _ _).2 ⟨λy hy=>(X6 _ _).1 hy,jj _,λ_ h=>by cases h⟩
  have hn:Xj (k.rq.length:Int) none (prt m).rq=0:=by rw[G,T];rfl
  have ho:Xj (k.ex.length:Int) none (prt m).ex=0:=by rw[G];rfl
  have hp:Xj (k.cs.length:Int) none (prt m).cs=0:=by rw[G];rfl
  have hr:QiW k (prt m)=false:=by rw[G];rfl
  unfold Uy;rw[if_neg (not_not_intro Y),if_neg (not_not_intro hj),if_neg (not_not_intro hn),if_neg (not_not_intro ho),if_neg (not_not_intro hp),if_neg (by rw[hr];decide),he,Y]
 have hs:=Qho h hh;have ht:mcE k m=0:=by unfold mcE;rw[if_neg (not_not_intro hs),hi]
 have hf:mcC k m=k:=he;have hu:msE k m=suE k:=by unfold msE;rw[if_neg (not_not_intro ht),hf]
 have hv:z8 k m=zE k:=by unfold z8;rw[hf]
 have hw:Vu k=suE k:=by
  rw[Qao,if_neg (not_not_intro Y),hm,UK,hu];split
  ·rfl
  rename_i E;exact (Ls.1 E).symm
 have hz:rem k=[]:=by
  rw[Qg3 (by have:=h.c3;omega)];refine List.eq_nil_iff_forall_not_mem.2 λy hy=>?_;have h1:=(Uh _ _ _).1 hy;refine h1.2 m (by rw[hm];exact La.2 O) ?_;rw[hc,X6];exact h1.1
 have hg:qA k=[zE k]:=by
  show (mods k).map (z8 k)++(rem k).map (coA k)=_;rw[hm,hz,Mx,hv];rfl
 have H:=Qir k;rw[hw,hg] at H;by_cases E:suE k=0
 ·have h3:=yR E;obtain ⟨q,hq⟩:∃q,sync [zE k]=some (zE k,q):=Qcz (Qat E).1 _;rw[if_neg (not_not_intro E)] at H;have h4:KK [zE k]=0:=by
   unfold KK;rw[if_neg (by simp)];exact (U8 _).2 λa ha=>by rw[La.1 ha];exact h3
  refine ⟨?_,λ_=>?_⟩
  ·rw[H,E];unfold KO;rw[if_neg (not_not_intro h4),hq]
  unfold tgA syA;rw[hg,hq]
 rw[if_pos E] at H;exact ⟨H,λh=>absurd h E⟩
set_option maxHeartbeats 4000000 in
theorem ju {w:World}{l:PwV}(hl:PwA w l) (ha:Kb w 4096) :
  QK prog 7 [.agg (YX l).toArray] w λr w'=>r=.bool true∧Step [] w w':=by
 refine QK.of_W func7 O ntmps7 results7 (by simp) ?_;refine Qc<|xl O<|QS (us:=YX l) O λb1 w1 ho k7 hB=>Qe ?_;have hF:(YX l).length=152:=Qey (l:=l.pl []) hl.n;refine Qf<|QU (α:=Unit) [(10,16)] (λz=>[(16,.bool (!decide (l.n≤4)))]) (λz w'=>Step [] w1 w') (by rfl) ?_ ?_
 ·refine Qy<|xl O<|xf<|(qk (ha.ext ho)).mono ?_;rintro r2 w2 ⟨rfl,S⟩;refine x (Zr O)<|Qb<|x (Qr (hB.ext S) O hF)<|xl O<|xf<|(Qgl (l:=l) ⟨hl.n,hl.b,hl.f0,hl.f1,hl.f2,hl.bd,λhn=>by
   obtain ⟨rs,h1,h2⟩:=hl.r hn;exact ⟨rs,h1,(h2.ext ho).ext S⟩⟩).mono ?_
  rintro r3 T ⟨rfl,Y⟩;refine x (Zr O)<|x (Qm O)<|xe ?_;exact ⟨(),Z,S.trans Y⟩
 rintro ⟨⟩ g w2 S;have he:=ho.trans S;refine Q3 rfl (λhG=>?_) (λhG=>?_)
 ·refine Qc<|xl O<|xf<|(qk (ha.ext he)).mono ?_;rintro r3 T ⟨rfl,Y⟩;refine Qe ?_;exact Qn ⟨[.bool true],Z,O,he.trans Y⟩
 have gn:l.n≤4:=by simpa using hG
 refine Qi<|Exists.elim (hl.pl he gn) λrs go=>?_;refine Qc<|x (Qr (hB.ext S) O hF)<|xl O<|xf<|(QcY go.1).mono ?_;rintro r3 T ⟨Y,_,⟨c,rfl,rfl,hC⟩,hD⟩;have hH:=hC [] (by simp);have gp:=QiI hD;refine xl rfl<|Qt (us:=Ym) O λI w4 gq hf gr=>xl O<|Qp (us:=c.cells) gr O O O O hH.ones λw5 gs gt=>xe ?_;have hI:Step [] T w5:=gq.then1 gs hf
 have gu:ZA [I] T.heap c:=hH.up (λb hb=>.inr (by rw[La.1 hb];exact hf));have gv:ZA [I] w5.heap c:=gu.ext hI;refine Qc<|x (Qa O)<|xl O<|QE (j:=3) (u:=nS) gt O O (by simp) rfl λw6 gw gx=>x (Qa rfl)<|xl rfl<|QE (j:=4) (u:=nS) gx rfl rfl (by simp) rfl λV gy hg=>xe ?_;have hJ:Step [I] w5 V:=gw.trans' gy;have gz:Step [] T V:=hI.then1 hJ hf
 have J:ZA [I] V.heap c:=gv.st hJ;have g0:ZA [I] V.heap ⟨c.ve,c.vc,c.vr,nS,nS,c.ev,c.co,c.rq,[],[]⟩:=⟨J.ev,J.co,J.rq,⟨Zp.nil _ _ 2,nofun,nofun⟩,⟨Zp.nil _ _ 3,nofun,nofun⟩⟩;have g2:c.rq.length=c.cel.rq.length:=(Lc ..).symm;have k8:c.rq.length≤2:=by rw[g2];exact hD.r2
 refine QU (α:=CL) [(22,29)] (λ_=>[]) (λz w'=>Step [I] V w'∧QZ w'.heap I 47 z.cells∧ZA [I] w'.heap z∧z.cel=whC c.cel) (by rfl) ?_ ?_
 ·refine Qc<|x (Qa O)<|x (Qd hg O O)<|x (Qs J.rq.arr O)<|x (ZO O O)<|xe<|QG O (λhp=>?_) (λhp=>?_)
  ·refine Qi ?_;have g3:c.rq.length≤1:=by have g4:¬(c.rq.length:Int) > 1:=hp;omega
   refine ⟨⟨c.ve,c.vc,c.vr,nS,nS,c.ev,c.co,c.rq,[],[]⟩,U,Step.refl _ _,hg,g0,?_⟩;show (⟨c.ev,c.co.map IV.it,c.rq.map IV.it,[],[]⟩:Zw)=⟨c.ev,c.co.map IV.it,(c.rq.map IV.it).take 1,[],[]⟩;rw[Lm (l:=c.rq.map IV.it) (by rw[Lc];exact g3)]
  have hr:1<c.rq.length:=by have g4:(c.rq.length:Int) > 1:=hp;omega
  refine Qy<|x (Qa O)<|x (Qd hg O O)<|QgK J.rq.arr O O (hi:=1) (by omega) λvq g5=>?_;have hK:Zp [I] V.heap vq (c.rq.take 1).length 5 ((c.rq.take 1).flatMap Za):=by
   rw[←Qb5 Za 5 YT,Lv,show min 1 c.rq.length=1 by omega];exact g5
  refine x (Qa O)<|xl O<|QE (j:=2) (u:=vq) hg O O (by simp) hK.one λw8 hh hj=>xe ?_;refine ⟨⟨c.ve,c.vc,vq,nS,nS,c.ev,c.co,c.rq.take 1,[],[]⟩,U,hh,hj,ZA.st ⟨J.ev,J.co,⟨hK,λq hq=>J.rq.each q (LM hq),λq hq=>J.rq.nm q (LM hq)⟩,⟨Zp.nil _ _ 2,nofun,nofun⟩,⟨Zp.nil _ _ 3,nofun,nofun⟩⟩ hh,?_⟩
  show (⟨c.ev,c.co.map IV.it,(c.rq.take 1).map IV.it,[],[]⟩:Zw)=⟨c.ev,c.co.map IV.it,(c.rq.map IV.it).take 1,[],[]⟩;rw[List.map_take]
 rintro H g w8 ⟨hh,hj,g6,hs⟩;have g7:Step [] T w8:=gz.then1 hh hf;have g8:=(he.trans Y).trans g7;have hL:ZA [] w8.heap H:=g6.up (by simp);have hk:D25 H.cel:=by rw[hs];exact gp
 have g9:H.cel.ex=[]:=by rw[hs];rfl
 have ka:H.cel.cs=[]:=by rw[hs];rfl
 have hM:=hk.ck;refine Qc<|x (Qr hj O O)<|xl O<|xf<|(KE hL).mono ?_;rintro r9 w9 ⟨ht,vm,ml,hN,hO,_,kb⟩;have hP:=kb hM;rw[hM] at hN;subst hN;have k9:ml.length≤8:=Qhl hk (hP.trans hk.lmd);have hQ:Zp [] w9.heap vm ml.length 3 (ml.flatMap ZC):=hO.arr (by omega) (by simp);have hR:=hj.ext ht;have hS:=hL.ext ht;have kc:=g8.trans ht
 refine Qb<|x (Ql O O)<|x (Ql O O)<|x Qg<|Qe<|Qf<|QU (α:=Bool) [(35,52)] (λz=>[(52,.bool z)]) (λz w'=>Step [] w9 w'∧(z=false→∃q,ml=[q]∧q.co.length=H.co.length)) (by rfl) ?_ ?_
 ·refine QW (Step [] w9) [(0,true),(1,true),(2,true),(3,true),(4,true),(5,true),(6,true),(7,true),(8,true),(9,true),(10,true),(11,true),(12,true),(13,true),(14,true),(15,true),(16,true),(17,true)] mixed (by rfl) (by kernel_rfl) (Step.drew _ _) ?_;refine p (λ_=>Qo)<|pb (λ_=>Q9 O O) (λhT=>absurd O hT) (λhT=>?_)
  refine p (λ_=>Qo)<|p (λ_=>Qo)<|p (λ_=>Qs hQ O)<|pb (λ_=>Q9 O O) (λhU=>?_) (λhU=>?_)
  ·refine p (λ_=>Qm O)<|p (λ_=>Qo)<|ps<|ps<|ps<|ps<|ps<|ps<|ps<|ps<|ps<|p (λ_=>Qm O)<|pe ?_;exact ⟨true,Z,Step.drew _ _,λh=>by cases h⟩
  have ke:ml.length=1:=by have kf:¬¬(ml.length:Int)=1:=hU;have:=Ls.1 kf;omega
  refine p (λ_=>Qm O)<|p (λ_=>Qo)<|p (λ_=>Qo)<|Lg.pig (g:=ZC) (i:=0) O z7 hQ O O (by omega) λma hV=>?_;refine Zd (ml[0]'(by omega)) λq hq=>?_;rw[hq] at hV;have hW:ml=[q]:=L4 (by rw[ke];rfl) (λi i1 i2=>by
   have i0:i=0:=by omega
   subst i0;exact hq)
  have kg:QL [] w9.heap q.v q.co:=hO.each q (by rw[hW];exact La.2 O) [] (by simp);refine p (λ_=>Zl O)<|pq (λ_ hc=>Qx ((hV.fld 2 q.v O).ext hc) O)<|p (λ_=>Qs kg O)<|p (λ_=>Qa O)<|pq (λ_ hc=>Qd (hR.ext hc) O O) <|
   p (λ_=>Qs hS.co.arr O)<|p (λ_=>Q9 O O)<|p (λ_=>Qm O)<|pe ?_
  refine ⟨decide (¬(q.co.length:Int)=(H.co.length:Int)),Z,Step.drew _ _,λh=>⟨q,hW,?_⟩⟩;have h9:=Ls.1 (of_decide_eq_false h);omega
 rintro z g mc ⟨hu,hz⟩;have hv:=kc.trans hu;refine Q3 rfl (λhX=>?_) (λhX=>?_)
 ·refine Qc<|Qb<|x (Q5 O O)<|Qe ?_;exact Qn ⟨[.bool true],Z,O,hv⟩
 refine Exists.elim (hz hX) λq hq=>?_;have hY:=QdE hk g9 ka (m:=q.m) (by rw[←hP,hq.1];rfl) (by show q.co.length=_;rw[hq.2];exact (Lc ..).symm);have hZ:=hS.ext hu;have ga:=hR.ext hu;refine Qi<|Qc<|x (Qr ga O O)<|xl O<|xf<|(j8 hZ (ha.ext hv)).mono ?_;rintro mf gb ⟨kh,va,hw,hy,h3⟩;rw[hY.1] at hw hy h3;refine Zd (suE H.cel) λE hE=>?_
 have gc:=hY.2;rw[hE] at hw hy h3 gc;have ki:∃(A:QQ) (xa xm xe:Value),va=.agg #[xa,.int .i64 A.st,xm,xe]∧Zt [] gb.heap xa xm xe A∧(E=0→A=zE H.cel)∧(E≠0→A=⟨[],0,[],[]⟩):=by
  by_cases G:E=0
  ·obtain ⟨xa,xm,xe,e,h1⟩:=h3 G;exact ⟨_,xa,xm,xe,e,h1 [] (by simp),λ_=>gc G,λh=>absurd G h⟩
  exact ⟨⟨[],0,[],[]⟩,_,_,_,hy G,QeP,λh=>absurd h G,λ_=>O⟩
 obtain ⟨A,xa,xm,kj,rfl,hm,kk,kn⟩:=ki;subst hw;refine Qb<|x (Ql O O)<|x (Ql O O)<|xl O<|Qt (us:=Jy) O λb6 mg ko kp kq=>xl O<|Qp (us:=[xa,.int .i64 A.st,xm,kj]) kq O O O O ⟨hm.al.one,O,hm.mr.one,hm.ed.one,U⟩ λkr kt ku=>Qe ?_;have ge:Step [] gb kr:=ko.then1 kt kp;have h4:=kh.trans ge;have gg:=hv.trans h4
 refine Qc<|x (Qr (ga.ext h4) O O)<|xl O<|xf<|(Kh (hZ.ext h4) (ha.ext gg)).mono ?_;rintro mh gh ⟨kv,ta,tm,te,h5,h6,gi,hr⟩;have kw:Yx H.cel=E:=hE;rw[hE,kw] at h5;rw[hE] at gi hr;have gj:(if E=0 then (zE H.cel).st else 0)=A.st∧Zt [] gh.heap ta tm te A:=by
  by_cases G:E=0
  ·rw[kk G,if_pos G];exact ⟨O,hr G [] (by simp)⟩
  obtain ⟨t1,t2,t3⟩:=gi G;subst t1;subst t2;subst t3;rw[kn G,if_neg G];exact ⟨O,QeP⟩
 rw[gj.1] at h5;subst h5;refine Qb<|x (Ql O O)<|x (Ql O O)<|xl O<|Qt (us:=Jy) O λb8 mj kx ky kz=>xl O<|Qp (us:=[ta,.int .i64 A.st,tm,te]) kz O O O O ⟨h6.1,O,h6.2.1,h6.2.2.1,U⟩ λgk k0 k4=>Qe ?_;have gl:Step [] gh gk:=kx.then1 k0 ky;have h7:=kv.trans gl;refine QU (α:=Unit) [(2,2),(65,72)] (λz=>[(2,.bool true)]) (λz w'=>Step [] gk w') (by rfl) ?_ ?_
 ·refine Qy<|Qb<|Qb<|xb (Q5 O O) (λgm=>?_) (λgm=>absurd O gm);refine Qb<|x (Qr (ku.ext h7) O O)<|x (Qr k4 O O)<|xl O<|xf<|(Qac ((hm.ext ge).ext h7) (gj.2.ext gl)).mono ?_;rintro k5 k6 ⟨h8,hA⟩
  replace h8:k5=.bool true:=h8.trans (congrArg Value.bool (decide_eq_true ⟨O,O,O,O⟩));subst h8;refine x (Qm O)<|Qe ?_;exact ⟨(),Z,hA⟩
 rintro ⟨⟩ g k6 hA;exact Qn ⟨[.bool true],Z,O,(gg.trans h7).trans hA⟩
theorem YH {a b:Bool}(h1:a=true) (h2:b=true):(a && b)=true:=by rw[h1,h2];rfl
theorem yl {P:Program} {f:FuncId} {fn:Func} {s:ChangeSpec} {c:OpenClaim} (h1:(c.wf (OpenSpec.ofChange s))=true) (h2:(laidOutB P)=true) (h3:(mapsRowed P)=true) (E:(fn.params.all (P.readableRec ·))=true) (h5:(namedTie P c.named s.vars)=true) (G:((c.stops == []))=true) (H:((P.stops == []))=true) (I:((c.knobs == []))=true) (h9:((P.stopKnobs == []))=true) (J:((c.inPlace == P.inPlace f))=true) (S:((c.unfollowed == P.unfollowed f))=true) (T:((c.recurses == P.recurses f))=true) (V:((c.named == P.varsNamed f))=true) (Y:((c.maps == (fn.params.toList++s.plain.varTypes P).any (P.mapsRec ·)))=true) (ha:((c.ifaces == (fn.params.toList++s.plain.varTypes P).any (P.ifacesRec ·)))=true) (hb:((c.mapsOut == P.mapsAmong fn.resultTypes.toList))=true) (hc:((c.loops == (fn.params.toList++s.plain.varTypes P).any (P.loopsFrom ·)))=true) (he:((c.wideKeys == (fn.params.toList++s.plain.varTypes P++fn.resultTypes.toList).any (P.wideKeysFrom ·)))=true) (hf:(s.vars.all (P.varReadable ·))=true) (hg:(fn.resultTypes.all (λt=>P.readableRec t && decide (t<P.types.size)))=true) (hh:((c.ifacesOut == fn.resultTypes.toList.any (P.ifacesRec ·)))=true) (hi:((c.loopsOut == fn.resultTypes.toList.any (P.loopsFrom ·)))=true) (hj:((c.plainKeys == P.plainKeys))=true) (hk:(c.shortTexts.isNone)=true) (hl:(P.stopsHeard)=true) (hm:(P.mayEnter)=true) (hn:((c.lifted == P.liftsFinal))=true) (ho:((P.make == some c.make))=true) (hp:((c.kinds == (if c.domain.isEmpty then [] else fn.params.toList.map λt=>match P.underlying t with | some (.int k)=>some k | _=>none)))=true) (hq:((c.pinned == c.pinnedBy))=true) (hr:((c.veiled == (fn.params.toList++s.plain.varTypes P++fn.resultTypes.toList).any (P.veiledRec ·)))=true) (hs:(c.veiledFits P fn.params.toList (fn.params.toList++s.plain.varTypes P++fn.resultTypes.toList))=true):joinedFacts P f fn s c=true:=by
 unfold joinedFacts;exact (YH (YH (YH (YH (YH (YH (YH (YH (YH (YH (YH (YH (YH (YH (YH (YH (YH (YH (YH (YH (YH (YH (YH (YH (YH (YH (YH (YH (YH (YH (YH h1 h2) h3) E) h5) G) H) I) h9) J) S) T) V) Y) ha) hb) hc) he) hf) hg) hh) hi) hj) hk) hl) hm) hn) ho) hp) hq) hr) hs)
theorem UQ:laidOutB prog=true:=by kernel_rfl
theorem Qfb:mapsRowed prog=true:=by kernel_rfl
theorem Qfd:prog.stopsHeard=true:=by kernel_rfl
theorem Qfe:prog.mayEnter=true:=by kernel_rfl
theorem Qfc:(false == prog.liftsFinal)=true:=by kernel_rfl
theorem QhA:(prog.make == some Make.cut)=true:=by kernel_rfl
theorem QhE:(Rows.moduleWholeRow.inPlace == prog.inPlace 7)=true:=by kernel_rfl
theorem QhD:(Rows.moduleWholeRow.unfollowed == prog.unfollowed 7)=true:=by kernel_rfl
theorem QhC:(Rows.moduleWholeRow.recurses == prog.recurses 7)=true:=by kernel_rfl
theorem QhB:(Rows.moduleWholeRow.named == prog.varsNamed 7)=true:=by kernel_rfl
theorem Qjo:Rows.moduleWholeRow.wfByText (OpenSpec.ofChange Rows.moduleWholeSpec)=true:=by kernel_rfl
theorem Qjr:Tryz.pinned.checked.prog.mainIs=some (true, "7f1d7774d707b6ca2907d0280b916f7dc62d5f843e98687e905a54f8355f1b07".toList):=by kernel_rfl
theorem Qjq:prog.funcNamed "overseer/overseerlaw32.ModuleWhole" = some 7:=by kernel_rfl
theorem Qjs:false=prog.looks []:=by kernel_rfl
theorem Qjp:([36].all λu=>!prog.wantsStandIn u)=true:=by kernel_rfl
theorem Qjt:false=Rows.moduleWholeRow.goesBy Tryz.pinned.checked.prog:=by kernel_rfl
end Go.Proofs.YtdffckgdcegpaaaGreatDoor
