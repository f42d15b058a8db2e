/- Merged out of 39 texts. -/
import Derived.Test.YtdffckgdcegpaaaGreatDoorKmd
import Derived.ChangeSame
import Derived.Carry
import Derived.OpenShut
import Derived.RowKit
import Derived.ChangeSlices
import Derived.WideShapes
import Derived.ProofKit
import Derived.ChangeArms
import Derived.Lib.LaidTab
import Derived.Stop.LaidErr
import Derived.MakeChecks
import Derived.Test.YtdffckgdcegpaaaGreatDoorRows
import Derived.JoinedOf
import Derived.Test.YtdffckgdcegpaaaGreatDoorCards
import Derived.SevenTiedAt
namespace Go.Proofs.YtdffckgdcegpaaaGreatDoor
open Go.Proofs.Tryz
open Go.Lg
theorem U8 {l r:LI}{i:Nat}(h:i<l.length):cget (l++r) i=cget l i:=by
 unfold cget;simp[List.getD,List.getElem?_append_left h]
set_option maxHeartbeats 4000000 in
theorem K9 {w:World}{bp:Nat}{q:Pz}{lf:Lf}(hA:yK [] w.heap bp q) (hq:PzQ q) (hB:Q0 w.heap q.bl 4 (lf.map Value.bool)) (hl:lf.length=q.n) :
  QJ prog 217 [.pointer (some ⟨bp,0,none⟩)] w λr w'=>Step [] w w'∧∃b,r=.slice (some ⟨b,0,none⟩) q.n q.n∧w.heap.size≤b∧Q0 w'.heap b 3 ((dsts q.a lf).map (Value.int .i64))∧(dsts q.a lf).length=q.n:=by
 have hn:=hq.n;have kp:=hq.ok.st1;have gb:=hq.ok.mr;have kq:=hq.ok.mr_le;have kr:=hq.ok.ed_le;have hL:q.a.st.toNat=q.n:=by omega
 have gs:=QjJ (lf:=lf) hq.ok hn;have gc:(dsL q.a.ed lf q.n 0 (ds0 q.a lf)).1=dsts q.a lf:=by unfold dsts;rw[hL]
 refine Zb (dsts q.a lf) λDD gt=>?_;rw[gt] at gc ⊢;refine QJ.of_W func217 O ntmps217 results217 (by simp) ?_;refine Qc<|Qe<|Qc<|Qb<|x (QH O)<|x (Qa O)<|x (Qa O)<|x (Qd hA.B O O)<|xl O<|Vv (n:=q.n) (congrArg (Value.int .i64) hn) (congrArg (Value.int .i64) hn) (by omega) λbO w1 ge h9 hM=>Qe ?_;rw[Qc2] at hM
 refine Qf<|Qc<|Qb<|x (Qs (L:=[]) (hM.arr (by simp) (n:=q.n) (cap:=q.n) (sz:=1) (by simp[gA]) (by omega) (Lr _)) rfl)<|Qb<|xe<|Qg<|QA (α:=Nat) [(4,4),(19,25)] (λz=>[(19,.int .i64 z)]) (λz w'=>z≤q.n∧Step [] w w'∧Q0 w'.heap bO 3 ((gA q.n (λj=>if j<z then -1 else 0)).map (Value.int .i64))) (λz=>q.n - z) (by rfl) 0 Z ⟨Lk _,ge,hM⟩ ?_
 rintro j g G ⟨hj,hh,hw⟩;refine Qc<|x (QB O O)<|xe<|Qf<|QF O (λhN=>?_) (λhN=>?_)
 ·refine Qy ?_;have hO:j=q.n:=by have gu:¬(j:Int)<(q.n:Int):=hN;omega
  have gv:gA q.n (λi=>if i<j then -1 else 0)=((q.a.mr.take 0).foldl (yI lf) (List.replicate q.n (-1),[])).1:=by
   apply Mg
   ·simp[gA]
   intro i h1 h2;have:i<q.n:=by simpa[gA] using h1
   simp[gA];omega
  rw[gv] at hw;refine Qc<|Qe<|Qf<|Qc<|Qb<|x (QH O)<|x (Qa O)<|x (Qa O)<|x (Qd (hA.ext hh).B O O)<|x (Qs (hA.ext hh).a.mr O)<|Qb<|xe<|Qg<|QA (α:=Nat×Value) [(5,5),(7,7),(32,50)] (λz=>[(5,z.2),(32,.int .i64 z.1)]) (λz w'=>z.1≤q.a.mr.length∧Step [] w w'∧G.heap.size≤w'.heap.size∧Q0 w'.heap bO 3 (((q.a.mr.take z.1).foldl (yI lf) (List.replicate q.n (-1),[])).1.map (Value.int .i64)) ∧
   Qu 3 G.heap.size w' z.2 ((q.a.mr.take z.1).foldl (yI lf) (List.replicate q.n (-1),[])).2) (λz=>q.a.mr.length - z.1) (by rfl) (0,nS) ⟨O,O,U⟩ ⟨Lk _,hh,Lr _,hw,QO _ _ _ _⟩ ?_
  rintro ⟨k,vl⟩ g w3 ⟨hk,h0,gg,Y,ha⟩;simp only[] at hk Y ha;have gh:=jM (lf:=lf) (λx hx=>(gb x hx).1) k;rw[hL] at gh;have kt:=Y.lt;refine Qc<|x (QB O O)<|xe<|Qf<|QF O (λhP=>?_) (λhP=>?_)
  ·refine Qy ?_;have gw:q.a.mr.length≤k:=by have hC:¬(k:Int)<(q.a.mr.length:Int):=hP;omega
   have e0:(q.a.mr.take k).foldl (yI lf) (List.replicate q.n (-1),[])=ds0 q.a lf:=by rw[Ll gw];unfold ds0;rw[hL]
   rw[e0] at Y ha;have gx:bO<G.heap.size:=hw.lt;refine Qf<|Qc<|Qe<|Qg<|QA (α:=Nat×Nat×Value×LI×LI) [(5,5),(8,8),(10,10),(51,100)] (λz=>[(5,z.2.2.1),(8,.int .i64 z.2.1)])
    (λz w'=>Step [] w w'∧G.heap.size≤w'.heap.size∧Q0 w'.heap bO 3 (z.2.2.2.1.map (Value.int .i64))∧Qu 3 G.heap.size w' z.2.2.1 z.2.2.2.2∧DsI q.n z.2.2.2∧z.1+z.2.1=q.n∧(dsL q.a.ed lf z.1 z.2.1 z.2.2.2).1=DD) (λz=>q.n - z.2.1) (by rfl) (q.n,0,vl,(ds0 q.a lf).1,(ds0 q.a lf).2) ⟨O,O,U⟩
    ⟨h0,gg,Y,ha,gs,O,gc⟩ ?_
   rintro ⟨f,i,vl,o,l⟩ g w4 ⟨hf,hQ,h3,J,ho,gy,S⟩;simp only[] at hQ h3 J ho gy S;have gz:=ho.le;have gi:=ho.ok.len;simp only[] at gz gi;have hD:=hA.ext hf;refine Qf<|Qc<|Qb<|Qb<|x (Qs (L:=[]) (QT J (by omega) (by simp)) rfl)<|x (QB rfl rfl)<|xe<|QF O (λhR=>?_) (λhR=>?_)
   ·refine Qy ?_;have g0:¬i<l.length:=by have g2:¬(i:Int)<(l.length:Int):=hR;omega
    rw[QfQ g0] at S;simp only[] at S;subst S;refine Qc<|Qb<|Qe ?_;exact Qm ⟨[.slice (some ⟨bO,0,none⟩) q.n q.n],Z,hf,bO,O,h9,h3,gi⟩
   refine Qi ?_;have hp:i<l.length:=by have g2:(i:Int)<(l.length:Int):=hR;omega
   refine Exists.elim (Nat.exists_eq_succ_of_ne_zero (show f≠0 by omega)) λf' g3=>?_;subst g3;rw[dsL,if_pos hp] at S;have gj:=Zn hp;have hsr:=ho.ok.q _ (Jc hp);have hS:=ho.s0 _ (Jc hp);refine Zb (cget l i) λs hs=>?_;rw[hs] at S hsr gj;simp only[] at hsr hS;rw[hs] at hS;have gk:s=(s.toNat:Int):=by omega
   have gl:=hD.g s.toNat (by omega);rw[←gk] at gl;have g4:=hD.R s.toNat (by omega);have ku:=Vz q.a.ed s.toNat;refine Qf<|Qg<|Qf<|QV (Step [] w4) [(0,true),(1,true),(2,true),(3,true),(4,true),(5,true),(6,true),(7,true),(8,true),(9,true),(10,true)] mixed (by rfl) (by kernel_rfl) (Step.drew _ _) ?_
   refine p (λ_=>Qp)<|p (λ_=>QH O)<|p (λ_=>Qa O)<|pq (λ_ hc=>Qd (hD.B.ext hc) O O)<|p (λ_=>Qp)<|p (λ_=>Qp) <|
    pii (i:=i) O (QT (L:=[]) J (by omega) (by simp)) rfl rfl hp λkv gm=>?_
   rw[gj] at gm;refine pq (λ_ hc=>Qv (gm.ext hc) O)<|pq (λ_ hc=>(X2 (k:=s) (hD.M.ext hc) O O).trans (congrArg (λv=>Result.ok (Next.value v) _) gl))<|p (λ_=>Qs g4 O)<|p (λ_=>Qp)<|pe ?_;have hF:Step [] w4 { w4 with drawn:=w4.drawn+1 }:=Step.drew _ _
   refine Qg<|QA (α:=Nat×Value×LI×LI) [(5,5),(10,10),(67,100)] (λz=>[(5,z.2.1),(67,.int .i64 z.1)])
    (λz w'=>z.1≤(Ym q.a.ed s.toNat).length∧Step [] w w'∧G.heap.size≤w'.heap.size∧Q0 w'.heap bO 3 (z.2.2.1.map (Value.int .i64))∧Qu 3 G.heap.size w' z.2.1 z.2.2.2∧DsI q.n z.2.2∧0≤cget z.2.2.1 s.toNat∧i<z.2.2.2.length∧cget z.2.2.2 i=s ∧
     ((Ym q.a.ed s.toNat).drop z.1).foldl (dsE lf s) z.2.2=(Ym q.a.ed s.toNat).foldl (dsE lf s) (o,l)) (λz=>(Ym q.a.ed s.toNat).length - z.1) (by rfl) (0,vl,o,l) ⟨O,O,U⟩
    ⟨Lk _,hf.trans hF,LP hQ hF.size,h3.ext hF,Qq J hF,ho,hS,hp,hs,O⟩ ?_
   rintro ⟨m,hG,o2,l2⟩ g w5 ⟨hm,E,hH,hr,ht,hg,hT,h4,hI,H⟩;simp only[] at hm hH hr ht hg hT h4 hI H;have gn:=hA.ext E;have g5:=hg.le;have g6:=hg.ok.len;simp only[] at g5 g6;refine Qc<|x (QB O O)<|xe<|Qf<|QF O (λhU=>?_) (λhU=>?_)
   ·refine Qy ?_;have g7:(Ym q.a.ed s.toNat).length≤m:=by have hJ:¬(m:Int)<((Ym q.a.ed s.toNat).length:Int):=hU;omega
    rw[Lo g7] at H;simp only[List.foldl_nil] at H;rw[←H] at S;refine Qx<|Qb<|QN O O<|Qe ?_;exact ⟨(f',i+1,hG,o2,l2),by simp only[];omega,⟨O,O,U⟩,E,hH,hr,ht,hg,by simp only[];omega,S⟩
   refine Qi ?_;have hu:m<(Ym q.a.ed s.toNat).length:=by have hJ:(m:Int)<((Ym q.a.ed s.toNat).length:Int):=hU;omega
   have go:=Qc3 (Lh hu);have g8:=QX hu;rw[g8,LL] at H;refine Zb ((Ym q.a.ed s.toNat)[m]'hu) λy hy=>?_;rw[hy] at go H;have g9:0≤y∧y<(q.n:Int):=by
    obtain ⟨e,he,h1,_⟩:=go;have:=hq.ok.ed e he;omega
   have hv:y=(y.toNat:Int):=by omega
   have h5:y.toNat<o2.length:=by omega
   have hV:s.toNat<o2.length:=by omega
   have ka:=hg.ok.le _ (Jc hV);simp only[] at ka;have hE:=QfR (lf:=lf) hg hsr hT g9;have hW:=Vy (l:=lf) (s:=y) (by omega);have kw:=QeQ o2;refine Qf<|Qg<|Qc<|xii (i:=m) ((gn.R s.toNat (by omega))) O O hu λkx hJ=>?_;rw[hy] at hJ;refine x (Qv hJ O)<|Qe<|QU (α:=Bool) [(71,84)] (λz=>[(84,.bool z)]) (λz w'=>w'=w5∧z=(lft lf y && decide (cget o2 y.toNat<0))) (by rfl) ?_ ?_
   ·refine Qx ?_;have ky:∀{P:Prop},(∀b,lft lf y=b→P)→P:=λh=>h _ O;refine Qb<|x (QH O)<|x (Qa O)<|x (Qd gn.B O O)<|Qb<|x (Zj (i:=y.toNat) O (congrArg (Value.int .i64) hv) (by omega))<|x (XK (i:=y.toNat) (hB.ext E) O (by omega))<|?_;rw[hW];cases lft lf y with
    | true =>
     refine Qb<|Qb<|Qb<|x (Zj (i:=y.toNat) O (congrArg (Value.int .i64) hv) (by omega))<|x (Uc (i:=y.toNat) hr O h5)<|x (QB O O)<|x (Qn O)<|xe ?_;exact ⟨_,Z,O,by rw[Zn h5];rfl⟩
    | false =>
     refine Qb<|xs O<|xs O<|xs O<|xs O<|xs O<|x (Qn O)<|xe ?_;exact ⟨_,Z,O,O⟩
   rintro z g kz ⟨rfl,rfl⟩;refine Q3 O (λh6=>?_) (λh6=>?_)
   ·rw[Lu,decide_eq_true_eq] at h6;have hX:dsE lf s (o2,l2) y=(o2.set y.toNat (cget o2 s.toNat+1),l2++[y]):=by unfold dsE;rw[if_pos h6]
    rw[hX] at H hE;have kb:=Zn hV;have gp:=Zn h4;rw[hI] at gp;refine Qc<|Qb<|Qb<|Qb<|Qb<|Qb<|xii (i:=i) (QT (L:=[]) ht (by omega) (by simp)) rfl rfl h4 λk0 gq=>?_;rw[gp] at gq;refine x (Qv gq O)<|x (Zj (i:=s.toNat) O (congrArg (Value.int .i64) gk) (by omega))<|x (Uc (i:=s.toNat) hr O hV)<|x (X4 O O ⟨by omega,by omega⟩) <|
     x (Zj (i:=y.toNat) O (congrArg (Value.int .i64) hv) (by omega))<|xl O<|X6 (i:=y.toNat) hr O O h5 λw6 I hK=>xe ?_
    rw[kb] at hK;have kc:=I.size;have ke:∀b∈ob hG,b∉[bO]:=λb hb=>by have:=Qk ht b hb;simp only[List.mem_singleton];omega
    have h7:Qu 3 G.heap.size w6 hG l2:=Qj ht I ke;have kf:Step [] w w6:=E.then1 I h9;refine Qx<|Qb<|Qb<|xl O<|QC (us:=[[.int .i64 y]]) O O (by decide) (by simp) ⟨rfl,rfl,U⟩ λk4 w7 h8 k5 kg=>xl rfl<|QW (m:=1) (news:=[.int .i64 y]) (Qq h7 h8) rfl rfl rfl (kg.at (L:=[]) (by simp)) (by simp[Value.oneCell']) (by omega) (by have:=h8.size;omega) λhY w8 kh hZ k6 =>
     Qe ?_
    have k7:=h8.size;have k8:=hZ.size;refine Qx<|QN O O<|Qb<|xe<|⟨(m+1,hY,_,l2++[y]),by simp only[];omega,⟨O,O,U⟩,hu,(kf.trans h8).then hZ (λb hb=>.inr (by have:=Qk h7 b hb;have:=ge.size;have:=hh.size;omega)),by omega,(hK.ext h8).step hZ (λhb=>by have:=Qk h7 _ hb;omega),Qu.snoc kh,hE.1,hE.2,by simp only[List.length_append];omega,by rw[U8 h4];exact hI,H⟩
   have hX:dsE lf s (o2,l2) y=(o2,l2):=by
    unfold dsE;rw[if_neg];intro hc;rw[hc.1,decide_eq_true hc.2] at h6;cases h6
   rw[hX] at H;refine Qi<|Qx<|QN O O<|Qb<|xe ?_;exact ⟨(m+1,hG,o2,l2),by simp only[];omega,⟨O,O,U⟩,hu,E,hH,hr,ht,hg,hT,h4,hI,H⟩
  refine Qi ?_;have T:k<q.a.mr.length:=by have hC:(k:Int)<(q.a.mr.length:Int):=hP;omega
  have ki:=gb _ (Lh T);have kj:q.a.mr.take (k+1)=q.a.mr.take k++[q.a.mr[k]'T]:=Le T;have V:(q.a.mr.take (k+1)).foldl (yI lf) (List.replicate q.n (-1),[])=yI lf ((q.a.mr.take k).foldl (yI lf) (List.replicate q.n (-1),[])) (q.a.mr[k]'T):=by rw[kj,Mk];rfl
  have kk:((q.a.mr.take k).foldl (yI lf) (List.replicate q.n (-1),[])).1.length=q.n∧((q.a.mr.take k).foldl (yI lf) (List.replicate q.n (-1),[])).2.length≤q.a.mr.length:=by
   rw[gh];exact ⟨Vd _ _,LP (L9 _ _) (by rw[Lv];omega)⟩
  refine Zb ((q.a.mr.take k).foldl (yI lf) (List.replicate q.n (-1),[])) λz hz=>?_;rw[hz] at Y ha V kk;refine Zb (q.a.mr[k]'T) λy hy=>?_;rw[hy] at ki V;have hv:y=(y.toNat:Int):=by omega
  have h5:y.toNat<z.1.length:=by omega
  have hW:=Vy (l:=lf) (s:=y) (by omega);have gr:=hA.ext h0;refine Qf<|Qg<|Qc<|xii (i:=k) gr.a.mr O O T λk9 hC=>?_;rw[hy] at hC;refine x (Qv hC O)<|Qe<|Qc<|Qb<|x (QH O)<|x (Qa O)<|x (Qd gr.B O O)<|Qb<|x (Zj (i:=y.toNat) O (congrArg (Value.int .i64) hv) (by omega))<|x (XK (i:=y.toNat) (hB.ext h0) O (by omega))<|xe ?_;rw[hW];refine Q3 O (λga=>?_) (λga=>?_)
  ·have e1:yI lf z y=(z.1.set y.toNat 0,z.2++[y]):=by unfold yI;rw[if_pos ga]
   rw[e1] at V;refine Qc<|Qb<|Qb<|x (Zj (i:=y.toNat) O (congrArg (Value.int .i64) hv) (by omega))<|xl O<|X6 (i:=y.toNat) Y O O h5 λw4 hf h3=>xe ?_;have hQ:=hf.size;have gx:bO<G.heap.size:=hw.lt;have J:Qu 3 G.heap.size w4 vl z.2:=Qj ha hf (λb hb=>by have:=Qk ha b hb;simp only[List.mem_singleton];omega)
   refine Qx<|Qb<|Qb<|xl O<|QC (us:=[[.int .i64 y]]) O O (by decide) (by simp) ⟨rfl,rfl,U⟩ λma w5 E mc kn=>xl rfl<|QW (m:=1) (news:=[.int .i64 y]) (Qq J E) rfl rfl rfl (kn.at (L:=[]) (by simp)) (by simp[Value.oneCell']) (by omega) (by have:=E.size;omega) λhY w6 h7 I mf =>
    Qe ?_
   have hH:=E.size;have kc:=I.size;refine Qx<|QN O O<|Qb<|xe<|⟨(k+1,hY),by simp only[];omega,⟨O,O,U⟩,T,((h0.then1 hf h9).trans E).then I (λb hb=>.inr (by have:=Qk J b hb;have:=hh.size;omega)),by omega,?_,?_⟩
   ·simp only[];rw[V];exact (h3.ext E).step I (λhb=>by have:=Qk J _ hb;omega)
   simp only[];rw[V];exact Qu.snoc h7
  have e1:yI lf z y=z:=by unfold yI;rw[if_neg (by rw[ga];decide)]
  rw[e1] at V;refine Qi<|Qx<|QN O O<|Qb<|xe ?_;exact ⟨(k+1,vl),by simp only[];omega,⟨O,O,U⟩,T,h0,gg,by simp only[];rw[V];exact Y,by simp only[];rw[V];exact ha⟩
 refine Qi ?_;have hO:j<q.n:=by have gu:(j:Int)<(q.n:Int):=hN;omega
 refine Qf<|Qg<|Qc<|Qb<|Qe<|Qx ?_;have ko:(gA q.n (λi=>if i<j then -1 else 0)).set j (-1)=gA q.n (λi=>if i<j+1 then -1 else 0):=Qjx (by rw[if_pos (by omega)]) (λi _ hi=>by
  by_cases e:i<j
  ·rw[if_pos e,if_pos (by omega)]
  rw[if_neg e,if_neg (by omega)])
 refine Qb<|Qb<|x (Zj (i:=j) O O (by omega))<|xl O<|QeE (i:=j) hw O O hO ko λw6 I hK=>xe ?_;refine Qx<|QN O O<|Qb<|xe ?_;exact ⟨j+1,by omega,Z,hO,hh.then1 I h9,hK⟩
abbrev y9 (rk rs:Int) (x:Int×Int):LV:=[.int .i64 x.1,.int .i64 rk,.int .i64 rs,.int .i64 x.2]
theorem Qbu (rk rs:Int) (x:Int×Int):(y9 rk rs x).length=4:=rfl
abbrev RmO (base:Nat) (w:World) (v:Value) (rk rs:Int) (l:List (Int×Int)):Prop:=w.ownsRow base 320 4 v l.length (l.flatMap (y9 rk rs))
theorem RmO.snoc {base:Nat}{w:World}{v:Value}{rk rs:Int}{l:List (Int×Int)}{x:Int×Int}(h:w.ownsRow base 320 4 v (l.length+1) (l.flatMap (y9 rk rs)++y9 rk rs x)):RmO base w v rk rs (l++[x]):=by
 unfold RmO;rw[Li,Lx];simpa using h
theorem Qe1 {a:QS}{ul:LI}{lf:Lf}{k:Nat}(h:k<a.ed.length):(a.ed.take (k+1)).foldl (JK ul lf) []=JK ul lf ((a.ed.take k).foldl (JK ul lf) []) (a.ed[k]'h):=by
 rw[Le h,Mk];rfl
set_option maxHeartbeats 4000000 in
theorem QeB {w:World}{bp:Nat}{q:Pz}{lf:Lf}(S:yK [] w.heap bp q) (hq:PzQ q) (hB:Q0 w.heap q.bl 4 (lf.map Value.bool)) (hl:lf.length=q.n) (rk:Int) :
  QJ prog 264 [.pointer (some ⟨bp,0,none⟩),.int .i64 rk] w λr w'=>Step [] w w'∧RmO w.heap.size w' r rk 2 (lost q.a q.unc lf):=by
 have hn:=hq.n;have hS:=hq.ok.st1;have hT:=hq.ok.ed_le;refine QJ.of_W func264 O ntmps264 results264 (by simp) ?_;refine Qc<|Qe<|Qc<|Qe<|Qf<|Qc<|Qb<|x (QH O)<|x (Qa O)<|x (Qa O)<|x (Qd S.B O O)<|x (Qs S.a.ed O)<|Qb<|xe ?_
 refine Qg<|QA (α:=Nat×Value) [(5,5),(7,8),(15,72)] (λz=>[(5,z.2),(15,.int .i64 z.1)]) (λz w'=>z.1≤q.a.ed.length∧Step [] w w'∧RmO w.heap.size w' z.2 rk 2 ((q.a.ed.take z.1).foldl (JK q.unc lf) [])) (λz=>q.a.ed.length - z.1) (by rfl) (0,nS) ⟨O,O,U⟩ ⟨Lk _,Step.refl _ _,QO _ _ _ _⟩ ?_;rintro ⟨k,vo⟩ g w1 ⟨hk,hg,I⟩;simp only[] at hk I
 have hh:=(UJ (a:=q.a) (ul:=q.unc) (lf:=lf) (q.a.ed.take k) [] (λe he=>LQ he) (λp hp=>by cases hp)).2;rw[Lv] at hh;refine Qc<|x (QB O O)<|xe<|Qf<|QF O (λhi=>?_) (λhi=>?_)
 ·refine Qy ?_;have h9:q.a.ed.length≤k:=by have T:¬(k:Int)<(q.a.ed.length:Int):=hi;omega
  rw[Ll h9] at I;refine Qc<|Qb<|Qe ?_;exact Qm ⟨[_],Z,hg,I⟩
 refine Qi ?_;have G:k<q.a.ed.length:=by have T:(k:Int)<(q.a.ed.length:Int):=hi;omega
 have hC:=hq.ok.ed _ (Lh G);have E:=Qe1 (ul:=q.unc) (lf:=lf) G;refine Zb ((q.a.ed.take k).foldl (JK q.unc lf) []) λout hout=>?_;rw[hout] at I E hh;refine Zb (q.a.ed[k]'G) λe he=>?_;rw[he] at hC E;simp only[List.length_nil] at hh;have hD:e.1=(e.1.toNat:Int):=by omega
 have hE:e.2.2=(e.2.2.toNat:Int):=by omega
 have hF:=Vy (l:=lf) (s:=e.1) (by omega);have hG:=Vy (l:=lf) (s:=e.2.2) (by omega);have hH:=S.ext hg;refine Qf<|Qg<|Qc<|xie hH.a.ed O O G λhU T=>?_;rw[he] at T;refine x (QI T O O)<|xl O<|Qt (us:=[.int .i64 0,.int .i64 0,.int .i64 0]) O λb7 w2 hI hJ H=>xl O<|Qo (us:=Qz e) H O O O O ⟨O,O,O,U⟩ λw3 hK V=>xe ?_;have h1:Step [] w1 w3:=hI.then1 hK hJ
 have hj:=hg.trans h1;have Y:=S.ext hj;have h2:=hB.ext hj;have hL:=Qq I h1;refine Qf<|QU (α:=Bool) [(19,47)] (λz=>[(47,.bool z)]) (λz w'=>Step [] w3 w'∧(z=true↔(lft lf e.1=false∨lft lf e.2.2=true∨e.2.1∉q.unc))) (by rfl) ?_ ?_
 ·refine QV (Step [] w3) [(0,true),(1,true),(2,true),(3,true),(4,true),(5,true),(6,true),(7,true),(8,true),(9,true),(10,true),(11,true),(12,true),(13,true),(14,true),(15,true),(16,true),(17,true),(18,true),(19,true),(20,true),(21,true),(22,true),(23,true),(24,true),(25,true),(26,false),(27,true),(28,true)] mixed (by rfl) (by kernel_rfl) (Step.drew _ _) ?_
  refine p (λ_=>Qp)<|p (λ_=>QH O)<|p (λ_=>Qa O)<|pq (λ_ hc=>Qd (Y.B.ext hc) O O)<|p (λ_=>Qa O)<|pq (λ_ hc=>Qd (V.ext hc) O O) <|
   p (λ_=>Zj (i:=e.1.toNat) O (congrArg (Value.int .i64) hD) (by omega))<|pq (v:=.bool (lft lf e.1)) (λ_ hc=>(XK (i:=e.1.toNat) (h2.ext hc) O (by omega)).trans (by rw[hF]))<|pB (λ_=>Zs rfl) (λJ=>?_) (λJ=>?_)
  ·refine p (λ_=>Qp)<|ps<|ps<|ps<|ps<|ps<|ps<|ps<|ps<|p (λ_=>Qn O)<|p (λ_=>Qp)<|ps<|ps<|ps<|ps<|ps<|ps<|ps<|ps<|p (λ_=>Qn O)<|pe ?_;exact ⟨_,Z,Step.drew _ _,by simp at J;simp[J]⟩
  refine p (λ_=>Qp)<|p (λ_=>Qp)<|p (λ_=>QH O)<|p (λ_=>Qa O)<|pq (λ_ hc=>Qd (Y.B.ext hc) O O)<|p (λ_=>Qa O)<|pq (λ_ hc=>Qd (V.ext hc) O O) <|
   p (λ_=>Zj (i:=e.2.2.toNat) O (congrArg (Value.int .i64) hE) (by omega))<|?_
  refine pqB (b:=lft lf e.2.2) (λ_ hc=>(XK (i:=e.2.2.toNat) (h2.ext hc) O (by omega)).trans (by rw[hG])) (λhm=>?_) (λhm=>?_)
  ·refine p (λ_=>Qn O)<|p (λ_=>Qp)<|ps<|ps<|ps<|ps<|ps<|ps<|ps<|ps<|p (λ_=>Qn O)<|pe ?_;exact ⟨_,Z,Step.drew _ _,by simp[hm]⟩
  refine p (λ_=>Qn O)<|p (λ_=>Qp)<|p (λ_=>Qp)<|p (λ_=>QH O)<|p (λ_=>Qa O)<|pq (λ_ hc=>Qd (Y.B.ext hc) O O) <|
   p (λ_=>Qa O)<|pq (λ_ hc=>Qd (V.ext hc) O O)<|pk<|xf<|(ZL (Y.u.ext (Step.drew _ _)) e.2.1).mono ?_
  rintro r4 w4 ⟨rfl,rfl⟩;refine ⟨Step.drew _ _,?_⟩;refine p (λ_=>Uz O)<|p (λ_=>Qn O)<|pe ?_;exact ⟨_,Z,Step.drew _ _,by simp at J;simp[J,hm]⟩
 rintro z g w4 ⟨ho,hz⟩;have h3:=hj.trans ho;have hr:=Qq hL ho;have H:=V.ext ho;refine Q3 rfl (λha=>?_) (λha=>?_)
 ·refine Qy ?_;have e1:JK q.unc lf out e=out:=by unfold JK;rw[if_pos (hz.1 ha)]
  rw[e1] at E;refine Qx<|QN O O<|Qb<|xe ?_;exact ⟨(k+1,vo),by simp only[];omega,⟨O,O,U⟩,G,h3,by simp only[];rw[E];exact hr⟩
 refine Qi ?_;have h4:¬(lft lf e.1=false∨lft lf e.2.2=true∨e.2.1∉q.unc):=λh=>by rw[hz.2 h] at ha;cases ha
 have h5:Zl [] w4.heap vo out.length 4 (out.flatMap (y9 rk 2)):=QT hr (by omega) (by simp);refine Qf<|Qc<|Qb<|x (Qs h5 O)<|Qe<|QU (α:=Bool) [(50,62)] (λz=>[(62,.bool z)]) (λz w'=>Step [] w4 w'∧(z=true↔out.getLast?.map (·.1)=some e.1)) (by rfl) ?_ ?_
 ·refine QV (Step [] w4) [(0,true),(1,true),(2,true),(3,true),(4,true),(5,true),(6,true),(7,true),(8,true),(9,true),(10,true),(11,true),(12,true)] mixed (by rfl) (by kernel_rfl) (Step.drew _ _) ?_;refine p (λ_=>Qp)<|pb (λ_=>ZQ O O) (λhs=>?_) (λhs=>?_)
  ·have hV:0<out.length:=by have hM:(0:Int)<(out.length:Int):=hs;omega
   have h6:out.getLast?=some (out[out.length - 1]'(by omega)):=by rw[List.getLast?_eq_getElem?,LA]
   refine Zb (out[out.length - 1]'(by omega)) λy hy=>?_;rw[hy] at h6;refine p (λ_=>Qp)<|p (λ_=>Qp)<|p (λ_=>Qp)<|p (λ_=>Jv O O ⟨by omega,by omega⟩)<|Go.Lg.pig (g:=y9 rk 2) (i:=out.length - 1) O (Qbu rk 2) h5 O (congrArg (Value.int .i64) (show (out.length:Int) - 1=((out.length - 1:Nat):Int) by omega)) (by omega) λhW h7=>?_;rw[hy] at h7
   refine p (λ_=>Q7 O)<|pq (λ_ hc=>Qv ((h7.fld 0 (.int .i64 y.1) O).ext hc) O)<|p (λ_=>Qa O)<|pq (λ_ hc=>Qd (H.ext hc) O O) <|
    p (λ_=>Q5 O O)<|p (λ_=>Qn O)<|pe ?_
   exact ⟨_,Z,Step.drew _ _,by rw[h6];simp⟩
  have h0:out=[]:=Lq (by have hM:¬(0:Int)<(out.length:Int):=hs;omega);refine p (λ_=>Qp)<|ps<|ps<|ps<|ps<|ps<|ps<|ps<|ps<|ps<|p (λ_=>Qn O)<|pe ?_;exact ⟨_,Z,Step.drew _ _,by simp[h0]⟩
 rintro z2 g w5 ⟨ht,h8⟩;have hu:=h3.trans ht;have hv:=Qq hr ht;have H:=H.ext ht;refine Q3 rfl (λhf=>?_) (λhf=>?_)
 ·refine Qy ?_;have e1:JK q.unc lf out e=out:=by unfold JK;rw[if_neg h4,if_pos (h8.1 hf)]
  rw[e1] at E;refine Qx<|QN O O<|Qb<|xe ?_;exact ⟨(k+1,vo),by simp only[];omega,⟨O,O,U⟩,G,hu,by simp only[];rw[E];exact hv⟩
 refine Qi ?_;have hN:¬out.getLast?.map (·.1)=some e.1:=λh=>by rw[h8.2 h] at hf;cases hf
 have e1:JK q.unc lf out e=out++[(e.1,e.2.1)]:=by unfold JK;rw[if_neg h4,if_neg hN]
 rw[e1] at E;refine Qx<|Qb<|x (Qa O)<|x (Qd H O O)<|Qb<|x (Qa O)<|x (Qd H O O)<|x (QD ⟨O,O,O,O,U⟩) <|
  xl rfl<|QC (us:=[y9 rk 2 (e.1,e.2.1)]) O O (by decide) (by simp) ⟨rfl,rfl,U⟩ λhX w6 hw hY hO =>
  xl rfl<|QW (m:=1) (news:=y9 rk 2 (e.1,e.2.1)) (Qq hv hw) O O O (hO.at (L:=[]) (by simp)) (by simp[Value.oneCell']) (by omega) (by have:=hu.size;have:=hw.size;omega) λhP w7 hQ hR hZ=>Qe<|Qx<|QN O O<|Qb<|xe ?_
 exact ⟨(k+1,hP),by simp only[];omega,⟨O,O,U⟩,G,(hu.trans hw).then hR (λb hb=>.inr (Qk hv b hb).1),by simp only[];rw[E];exact RmO.snoc hQ⟩
theorem zt (lf:Lf) (d:Int):∀(l:LI) (i:Nat),Kt lf i (l++[d])=Kt lf i l++if lf.getD (i+l.length) false=true∧d<0 then [((i+l.length:Nat):Int)] else []
 | [],i=>by
  simp only[List.nil_append,Kt,List.length_nil,Nat.add_zero]
 | a::l,i=>by
  have ih:=zt lf d l (i+1);rw[show i+1+l.length=i+(a::l).length by simp;omega] at ih;simp only[List.cons_append,Kt,ih];by_cases h:lf.getD i false=true∧a<0
  ·rw[if_pos h,if_pos h,L8]
  rw[if_neg h,if_neg h]
abbrev blP (l:LI):List (Int×Int):=l.map λs=>(s,-1)
set_option maxHeartbeats 4000000 in
theorem jg {w:World}{bp:Nat}{q:Pz}{lf:Lf}(hA:yK [] w.heap bp q) (hq:PzQ q) (hB:Q0 w.heap q.bl 4 (lf.map Value.bool)) (hl:lf.length=q.n) (rk:Int) :
  QJ prog 265 [.pointer (some ⟨bp,0,none⟩),.int .i64 rk] w λr w'=>Step [] w w'∧RmO w.heap.size w' r rk 3 (blP (Kt lf 0 (dsts q.a lf)))∧(Kt lf 0 (dsts q.a lf)).length≤q.n:=by
 have hn:=hq.n;have hy:=hq.ok.st1;refine QJ.of_W func265 O ntmps265 results265 (by simp) ?_;refine Qc<|Qe<|Qc<|Qe<|Qf<|Qc<|Qb<|xl O<|xf<|(K9 hA hq hB hl).mono ?_;rintro r1 S ⟨hf,b,rfl,hb,hg,T⟩;refine Zb (dsts q.a lf) λD hD=>?_;rw[hD] at hg T ⊢;have hh:QL [] S.heap (.slice (some ⟨b,0,none⟩) q.n q.n) D:=by
  have h:=hg.arr (L:=[]) (by simp) (n:=q.n) (cap:=q.n) (sz:=1) (by simp[T]) (by omega) (Lr _);unfold QL;rw[T];exact h
 refine x (Qs hh O)<|Qb<|xe<|Qg<|QA (α:=Nat×Value) [(5,7),(11,33)] (λz=>[(5,z.2),(11,.int .i64 z.1)]) (λz w'=>z.1≤D.length∧Step [] S w'∧RmO S.heap.size w' z.2 rk 3 (blP (Kt lf 0 (D.take z.1)))) (λz=>D.length - z.1) (by rfl) (0,nS) ⟨O,O,U⟩ ⟨Lk _,Step.refl _ _,QO _ _ _ _⟩ ?_;rintro ⟨k,vo⟩ g w2 ⟨hk,I,E⟩;simp only[] at hk E;have hi:=(Ve lf (D.take k) 0).2
 rw[Lv] at hi;have V:=hf.trans I;refine Qc<|x (QB O O)<|xe<|Qf<|QF O (λY=>?_) (λY=>?_)
 ·refine Qy ?_;have hm:D.length≤k:=by have ho:¬(k:Int)<(D.length:Int):=Y;omega
  rw[Ll hm] at E;refine Qc<|Qb<|Qe ?_;exact Qm ⟨[_],Z,V,Zk E hf.size,by have:=(Ve lf D 0).2;omega⟩
 refine Qi ?_;have G:k<D.length:=by have ho:(k:Int)<(D.length:Int):=Y;omega
 have hp:D.take (k+1)=D.take k++[D[k]'G]:=Le G;have H:=zt lf (D[k]'G) (D.take k) 0;rw[←hp,Lv,LM,ML (by omega)] at H;refine Zb (D[k]'G) λd hd=>?_;rw[hd] at H;refine Zb (Kt lf 0 (D.take k)) λout hout=>?_;rw[hout] at H E hi;have ha:k<lf.length:=by omega
 have hr:lf[k]'ha=lf.getD k false:=by simp[List.getD,ha]
 have hs:=hA.ext V;refine Qf<|Qg<|Qc<|Qb<|xii (i:=k) (hh.ext I) O O G λh0 hj=>?_;rw[hd] at hj;refine x (Qv hj O)<|x Qh<|Qe<|QU (α:=Bool) [(16,26)] (λz=>[(26,.bool z)]) (λz w'=>w'=w2∧(z=true↔lf.getD k false=true∧d<0)) (by rfl) ?_ ?_
 ·refine Qx<|Qb<|x (QH O)<|x (Qa O)<|x (Qd hs.B O O)<|Qb<|x (Zj (i:=k) O O (by omega))<|xB (b:=lf.getD k false) ((XK (i:=k) (hB.ext V) O ha).trans (by rw[hr])) (λhc=>?_) (λhc=>?_)
  ·refine Qb<|Qb<|x (QB O O)<|x (Qn O)<|xe ?_;exact ⟨_,Z,O,by rw[hc];simp⟩
  refine Qb<|xs O<|xs O<|x (Qn O)<|xe ?_;exact ⟨_,Z,O,by rw[hc];simp⟩
 rintro z g w3 ⟨rfl,hz⟩;refine Q3 rfl (λJ=>?_) (λJ=>?_)
 ·rw[if_pos (hz.1 J)] at H;refine Qx<|Qb<|Qb<|Qb<|x (QD ⟨O,O,O,O,U⟩)<|xl O<|QC (us:=[y9 rk 3 ((k:Int),-1)]) O O (by decide) (by simp) ⟨rfl,rfl,U⟩ λh1 w4 he h2 ht =>
   xl rfl<|QW (m:=1) (news:=y9 rk 3 ((k:Int),-1)) (Qq E he) O O O (ht.at (L:=[]) (by simp)) (by simp[Value.oneCell']) (by rw[Lb];omega) (by have:=I.size;have:=he.size;omega) λhu w5 hv hw h3=>Qe<|Qx<|QN O O<|Qb<|xe ?_
  refine ⟨(k+1,hu),by simp only[];omega,⟨O,O,U⟩,G,(I.trans he).then hw (λb hb=>.inr (Qk E b hb).1),?_⟩;simp only[];rw[H,show blP (out++[(k:Int)])=blP out++[((k:Int),-1)] by simp];exact RmO.snoc hv
 rw[if_neg (λh=>by rw[hz.2 h] at J;cases J),LD] at H;refine Qi<|Qx<|QN O O<|Qb<|xe ?_;exact ⟨(k+1,vo),by simp only[];omega,⟨O,O,U⟩,G,I,by simp only[];rw[H];exact E⟩
theorem QeA {w:World}{bp:Nat}{q:Pz}{lf:Lf}(S:yK [] w.heap bp q) (hq:PzQ q) (T:Q0 w.heap q.bl 4 (lf.map Value.bool)) (hl:lf.length=q.n) (rk:Int) :
  QJ prog 214 [.pointer (some ⟨bp,0,none⟩),.int .i64 rk,.bool true] w λr w'=>Step [] w w'∧∃rs l,RmO w.heap.size w' r rk rs l∧l.map (·.1)=nxs q.a q.unc lf∧l.length≤1000000:=by
 have ha:=(yf q.a q.unc lf).2;have hf:=hq.ok.ed_le;have hn:=hq.n;have hg:=hq.ok.st1;have E:nxs q.a q.unc lf=if (lost q.a q.unc lf).length≠0 then (lost q.a q.unc lf).map (·.1) else Kt lf 0 (dsts q.a lf):=rfl
 refine QJ.of_W func214 O ntmps214 results214 (by simp) ?_;refine Qc<|Qe<|Qf<|Qc<|Qb<|Qb<|xl O<|xf<|(QeB S hq T hl rk).mono ?_;rintro r1 w1 ⟨G,I⟩;refine Zb (lost q.a q.unc lf) λL hL=>?_;rw[hL] at I E ha;refine Qe<|QU (α:=Bool) [(11,17)] (λz=>[(17,.bool z)]) (λz w'=>w'=w1∧(z=true↔L.length≠0)) (by rfl) ?_ ?_
 ·refine Qx<|Qb<|x (Qs (L:=[]) (QT I (by omega) (by simp)) rfl)<|xb (ZQ rfl rfl) (λJ=>?_) (λJ=>?_)
  ·refine Qb<|xs O<|xs O<|x (Qn O)<|xe ?_;exact ⟨_,Z,O,by have V:(0:Int)<(L.length:Int):=J;simp;intro e;subst e;simp at V⟩
  refine Qb<|Qb<|x (Zs O)<|x (Qn O)<|xe ?_;have V:¬(0:Int)<(L.length:Int):=J;have hb:L.length=0:=by omega
  exact ⟨_,Z,O,by rw[hb];simp⟩
 rintro z g w2 ⟨rfl,Y⟩;refine Q3 rfl (λH=>?_) (λH=>?_)
 ·rw[if_pos (Y.1 H)] at E;refine Qc<|Qb<|Qe ?_;exact Qm ⟨[_],Z,G,2,L,I,E.symm,by omega⟩
 rw[if_neg (λh=>by rw[Y.2 h] at H;cases H)] at E;refine Qi<|Qc<|Qb<|Qb<|xl O<|xf<|(jg (S.ext G) hq (T.ext G) hl rk).mono ?_;rintro r3 w3 ⟨hc,he,hh⟩;refine Qe<|Qm ⟨[_],Z,G.trans hc,3,_,Zk he G.size,?_,?_⟩
 ·rw[E,MH];exact List.map_id _
 rw[Lb];omega
structure JU (base:Nat) (w:World) (n:Nat) (f:Nat→Value) (g:Nat→List Ed):Prop where
 own:∀i,i<n→Z4 144 base w (f i) (g i)
 dj:∀i j,i<n→j<n→i≠j→Dj (f i) (f j)
theorem JU.app {base n i:Nat}{w w':World}{f:Nat→Value}{g:Nat→List Ed}{v':Value}{l:List Ed}(h:JU base w n f g) (hi:i<n) (I:Z4 144 base w' v' l) (hs:Step (ob (f i)) w w')
  (J:∀b∈ob v',b∈ob (f i)∨w.heap.size≤b):JU base w' n (Kh f i v') (Kh g i l):=by
 refine ⟨λj E=>?_,λj k E hk G=>?_⟩
 ·by_cases e:j=i
  ·subst e;rw[ZS,ZS];exact I
  rw[Yi _ _ e,Yi _ _ e];exact Qj (h.own j E) hs (h.dj j i E hi e)
 have key:∀j,j<n→j≠i→Dj v' (f j):=λj E e b hb H=>by
  rcases J b hb with h1 | h1
  ·exact h.dj i j hi E (Ne.symm e) b h1 H
  have:=QR (h.own j E) b H;omega
 by_cases e1:j=i
 ·subst e1;rw[ZS,Yi _ _ (Ne.symm G)];exact key k hk (Ne.symm G)
 rw[Yi _ _ e1];by_cases e2:k=i
 ·subst e2;rw[ZS];exact (key j E e1).symm
 rw[Yi _ _ e2];exact h.dj j k E hk G
theorem JU.step {base n:Nat}{X:LN}{w w':World}{f:Nat→Value}{g:Nat→List Ed}(h:JU base w n f g) (hs:Step X w w') (E:∀i,i<n→∀b∈ob (f i),b∉X):JU base w' n f g :=
 ⟨λi hi=>Qj (h.own i hi) hs (E i hi),h.dj⟩
theorem JU.ext {base n:Nat}{w w':World}{f:Nat→Value}{g:Nat→List Ed}(h:JU base w n f g) (hs:Step [] w w'):JU base w' n f g:=h.step hs (λ_ _ _ _=>by simp)
def qB (E:List Ed) (s:Nat):List Ed:=Zz E (s:Int)
theorem QcB (E:List Ed) (e:Ed) (G:0≤e.1):Kh (qB E) e.1.toNat (qB E e.1.toNat++[e])=qB (E++[e]):=by
 funext s;unfold qB Zz;rw[L2];by_cases h:s=e.1.toNat
 ·subst h;rw[ZS];have:e.1=(e.1.toNat:Int):=by omega
  simp[←this]
 rw[Yi _ _ h];have:¬e.1=(s:Int):=by omega
 simp[this]
theorem y8 (E:List Ed) (s:Nat):(qB E s).length≤E.length:=JG E _
def Qbe (num:LI) (m:List (Int×Value)):Prop:=∀s:Nat,s<num.length→mget m (s:Int)=if cget num s<0 then none else some (.int .i64 (cget num s))
theorem J1 (l:LI) (k:Int):ZD l k=cget l k.toNat:=rfl
structure JA (b4 mb:Nat) (r2:Value) (wS:World) (c:Cs) (m:List (Int×Value)) (vo vk ve:Value) (w:World):Prop where
 st:Step [b4,mb] wS w
 B4:Q0 w.heap b4 58 [r2,.int .i64 0,vk,ve]
 M:Z3 Km w.heap mb m
 nm:Qbe c.num m
 o:Qu 3 wS.heap.size w vo c.ord
 k:Qu 3 wS.heap.size w vk c.mk'
 e:Z4 144 wS.heap.size w ve c.ed
 d1:Dj vo vk
 d2:Dj vo ve
 d3:Dj vk ve
section
variable {b4 mb:Nat} {r2:Value} {wS:World} {c:Cs} {m:List (Int×Value)} {vo vk ve:Value} {w w' w'':World}
theorem JA.ext (h:JA b4 mb r2 wS c m vo vk ve w) (hs:Step [] w w'):JA b4 mb r2 wS c m vo vk ve w' :=
 ⟨h.st.trans hs,h.B4.ext hs,h.M.ext hs,h.nm,Qq h.o hs,Qq h.k hs,Qq h.e hs,h.d1,h.d2,h.d3⟩
theorem JA.setK (h:JA b4 mb r2 wS c m vo vk ve w) (S:b4<wS.heap.size) (lm:mb<wS.heap.size) (ne:mb≠b4) {G:Value}{l:LI}(hs:Step (ob vk) w w') (H:Qu 3 wS.heap.size w' G l)
  (I:∀b∈ob G,b∈ob vk∨w.heap.size≤b) (E:Step [b4] w' w'') (J:Q0 w''.heap b4 58 [r2,.int .i64 0,G,ve]):JA b4 mb r2 wS ⟨c.ord,c.num,l,c.ed⟩ m vo G ve w'' :=
 ⟨(h.st.then hs (λb hb=>.inr (Qk h.k b hb).1)).then E (λb hb=>.inl (by simp at hb;simp[hb])),J,(h.M.step hs (QM h.k lm)).step E (by simpa using ne),h.nm,
  Qj (Qj h.o hs h.d1) E (λb hb=>by have:=(Qk h.o b hb).1;simp;omega),Qj H E (λb hb=>by have:=(Qk H b hb).1;simp;omega),
  Qj (Qj h.e hs h.d3.symm) E (λb hb=>by have:=(Qk h.e b hb).1;simp;omega),h.d1.grow I (QR h.o),h.d2,(h.d3.symm.grow I (QR h.e)).symm⟩
theorem JA.setE (h:JA b4 mb r2 wS c m vo vk ve w) (S:b4<wS.heap.size) (lm:mb<wS.heap.size) (ne:mb≠b4) {G:Value}{l:List Ed}(hs:Step (ob ve) w w') (H:Z4 144 wS.heap.size w' G l)
  (I:∀b∈ob G,b∈ob ve∨w.heap.size≤b) (E:Step [b4] w' w'') (J:Q0 w''.heap b4 58 [r2,.int .i64 0,vk,G]):JA b4 mb r2 wS ⟨c.ord,c.num,c.mk',l⟩ m vo vk G w'' :=
 ⟨(h.st.then hs (λb hb=>.inr (Qk h.e b hb).1)).then E (λb hb=>.inl (by simp at hb;simp[hb])),J,(h.M.step hs (QM h.e lm)).step E (by simpa using ne),h.nm,
  Qj (Qj h.o hs h.d2) E (λb hb=>by have:=(Qk h.o b hb).1;simp;omega),Qj (Qj h.k hs h.d3) E (λb hb=>by have:=(Qk h.k b hb).1;simp;omega),
  Qj H E (λb hb=>by have:=(Qk H b hb).1;simp;omega),h.d1,h.d2.grow I (QR h.o),h.d3.grow I (QR h.k)⟩
theorem JA.setN (h:JA b4 mb r2 wS c m vo vk ve w) (lm:mb<wS.heap.size) (ne:mb≠b4) {l:LI}{G:List (Int×Value)}(E:Step [mb] w w') (H:Z3 Km w'.heap mb G) (hm:Qbe l G):JA b4 mb r2 wS ⟨c.ord,l,c.mk',c.ed⟩ G vo vk ve w' :=
 ⟨h.st.then E (λb hb=>.inl (by simp at hb;simp[hb])),h.B4.step E (by simpa using ne.symm),H,hm,Qj h.o E (λb hb=>by have:=(Qk h.o b hb).1;simp;omega),
  Qj h.k E (λb hb=>by have:=(Qk h.k b hb).1;simp;omega),Qj h.e E (λb hb=>by have:=(Qk h.e b hb).1;simp;omega),h.d1,h.d2,h.d3⟩
theorem JA.setO (h:JA b4 mb r2 wS c m vo vk ve w) (H:b4<wS.heap.size) (lm:mb<wS.heap.size) {E:Value}{l:LI}(hs:Step (ob vo) w w') (I:Qu 3 wS.heap.size w' E l)
  (G:∀b∈ob E,b∈ob vo∨w.heap.size≤b):JA b4 mb r2 wS ⟨l,c.num,c.mk',c.ed⟩ m E vk ve w' :=
 ⟨h.st.then hs (λb hb=>.inr (Qk h.o b hb).1),h.B4.step hs (QM h.o H),h.M.step hs (QM h.o lm),h.nm,I,Qj h.k hs h.d1.symm,Qj h.e hs h.d2.symm,
  (h.d1.symm.grow G (QR h.k)).symm,(h.d2.symm.grow G (QR h.e)).symm,h.d3⟩
end
theorem Qbe.set {num:LI}{m:List (Int×Value)}(h:Qbe num m) {k:Nat}(hk:k<num.length) {v:Int}(E:0≤v):Qbe (num.set k v) (mput m (k:Int) (.int .i64 v)):=by
 intro s hs;rw[Nn] at hs;rw[X9];by_cases e:s=k
 ·subst e;have:cget (num.set s v) s=v:=by unfold cget;simp[List.getD,hk]
  rw[if_pos rfl,this,if_neg (by omega)]
 rw[if_neg (by omega)];have:cget (num.set k v) s=cget num s:=by unfold cget;simp[List.getD,List.getElem?_set_ne (Ne.symm e)]
 rw[this];exact h s hs
theorem yU (i:Nat) (c:Cs) (m:LI) (e:Ed):Zd i ⟨c.ord,c.num,m,c.ed⟩ e=⟨(Zd i c e).ord,(Zd i c e).num,m,(Zd i c e).ed⟩∧(Zd i c e).mk'=c.mk':=by
 unfold Zd;split <;> exact ⟨O,O⟩
theorem yq (i:Nat):∀(l:List Ed) (c:Cs) (m:LI),l.foldl (Zd i) ⟨c.ord,c.num,m,c.ed⟩=⟨(l.foldl (Zd i) c).ord,(l.foldl (Zd i) c).num,m,(l.foldl (Zd i) c).ed⟩∧(l.foldl (Zd i) c).mk'=c.mk'
 | [],c,m=>⟨O,O⟩
 | e::l,c,m=>by
  have h1:=yU i c m e;have h2:=yq i l (Zd i c e) m;rw[LL,LL,h1.1,h2.1];exact ⟨O,h2.2.trans h1.2⟩
theorem qR (i:Nat) (c:Cs) (e:Ed):∃r,(Zd i c e).ord=c.ord++r:=by
 unfold Zd;split
 ·exact ⟨_,rfl⟩
 exact ⟨[],by simp⟩
theorem jA (i:Nat):∀(l:List Ed) (c:Cs),∃r,(l.foldl (Zd i) c).ord=c.ord++r
 | [],c=>⟨[],by simp⟩
 | e::l,c=>by
  obtain ⟨E,h1⟩:=qR i c e;obtain ⟨r2,h2⟩:=jA i l (Zd i c e);exact ⟨E++r2,by rw[LL,h2,h1,Lz]⟩
theorem QcC {a:QS}{i:Nat}{c:Cs}(hi:i<c.ord.length):V1 a i c=ZK a i ((Zz a.ed (cget c.ord i)).foldl (Zd i) c):=by
 unfold V1;rw[J1,Mt];obtain ⟨r,E⟩:=jA i (Zz a.ed (cget c.ord i)) c;have hm:=(yq i (Zz a.ed (cget c.ord i)) c c.mk').2;unfold ZK;have G:ZD ((Zz a.ed (cget c.ord i)).foldl (Zd i) c).ord (i:Int)=ZD c.ord (i:Int):=by
  rw[J1,J1,E];simp only[Int.toNat_natCast];exact U8 hi
 rw[G];split
 ·rw[(yq i _ c _).1,hm]
 rfl
set_option maxHeartbeats 8000000 in
theorem UB {w:World}{bp:Nat}{q:Pz}{lf:Lf}(hA:yK [] w.heap bp q) (hq:PzQ q) (hB:Q0 w.heap q.bl 4 (lf.map Value.bool)) (hl:lf.length=q.n) :
  QJ prog 218 [.pointer (some ⟨bp,0,none⟩)] w λr w'=>Step [] w w'∧∃v o,r=.tuple #[v,o]∧YL w.heap.size w'.heap v (Qal q.a lf)∧o.oneCell'=true:=by
 have hn:=hq.n;have hst1:=hq.ok.st1;have kg:=hq.ok.ed_le;have hml:=hq.ok.mr_le;have pd:=qY hq.ok lf;have V:Qal q.a lf=if q.a.st=0∨lft lf 0=false then ⟨q.a.al,0,[],[]⟩ else Y2 (rstr q.a lf):=rfl
 refine Zb (Qal q.a lf) λSA pf=>?_;rw[pf] at V ⊢;refine QJ.of_W func218 O ntmps218 results218 (by simp) ?_;refine Qc<|xl O<|Qt (us:=[nS,.int .i64 0,nS,nS]) O λb2 w1 gi hb2 h9=>Qe ?_;have hz1:=gi.size;have hl2:=h9.lt;have kh:=hA.ext gi;refine Qc<|Qb<|x (QH O)<|x (Qa O)<|x (Qa O)<|x (Qd kh.B O O)<|xl O<|xf<|(ZW kh.a.al).mono ?_;rintro r2 w2 ⟨hL,hv⟩;have hz2:=hL.size
 have hM:=Qu.ints (L:=[]) hv hA.a.al.le (by simp);refine x (QD ⟨hM.cells,U⟩)<|xl O<|Qt (us:=[nS,.int .i64 0,nS,nS]) O λb4 w3 pg ph hC =>
  xl rfl<|Qo (us:=[r2,.int .i64 0,nS,nS]) hC O O O O ⟨hM.one,O,O,O,U⟩ λw4 pj hC=>xe ?_
 have S:Step [] w2 w4:=pg.then1 pj ph;have Y:=gi.trans hL;have hD:=Y.trans S;have hl4:=hC.lt;have hz24:=S.size;have gj:=hA.ext hD;have pm:∀b∈ob r2,b<w2.heap.size:=QR hv;refine Qf<|QU (α:=Bool) [(22,36)] (λz=>[(36,.bool z)]) (λz w'=>w'=w4∧(z=true↔(q.a.st=0∨lft lf 0=false))) (by rfl) ?_ ?_
 ·refine Qx<|Qb<|x (QH O)<|x (Qa O)<|x (Qa O)<|x (Qd gj.B O O)<|xb (Q5 O O) (λgk=>?_) (λgk=>?_)
  ·refine Qb<|xs O<|xs O<|xs O<|xs O<|xs O<|xs O<|xs O<|x (Qn O)<|xe ?_;exact ⟨_,Z,O,by simp[gk]⟩
  have gl:(0:Int).toNat<lf.length:=by
   have:0<q.n:=by omega
   simp;omega
  have gm:=Vy (l:=lf) (s:=0) gl;refine Qb<|Qb<|x (QH O)<|x (Qa O)<|x (Qd gj.B O O)<|x (Zj (i:=0) O O (by simp at gl;omega))<|x (v:=.bool (lft lf 0)) ((XK (i:=0) (hB.ext hD) O gl).trans (by rw[←gm];rfl))<|x (Zs O)<|x (Qn O)<|xe ?_;exact ⟨_,Z,O,by simp[gk]⟩
 rintro z g w4 ⟨rfl,hz⟩;refine Q3 rfl (λhN=>?_) (λhN=>?_)
 ·rw[if_pos (hz.1 hN)] at V;subst V;refine Qc<|x (Qr hC O O)<|xl O<|Qo (us:=[r2,.int .i64 0,nS,nS]) ((h9.ext hL).ext S) O O O O ⟨hM.one,O,O,O,U⟩ λw6 hw h9=>Qe<|Qm ⟨[.agg #[r2,.int .i64 0,nS,nS],nS],⟨⟨_,O,Qw O (h9.at (L:=[]) (by simp)).cells⟩,rfl,U⟩,hD.then1 hw (by omega),_,_,rfl,?_,rfl⟩;have pn:=Qj (Qq hv S) hw (λb hb=>by have:=(Qk hv b hb).1;simp;omega)
  exact ⟨r2,_,_,O,λL' hE=>⟨Qu.ints pn hA.a.al.le (λb hb=>by have:=hE b hb;omega),Zl.nil _ _ _,Zl.nil _ _ _⟩⟩
 have ki:¬(q.a.st=0∨lft lf 0=false):=λh=>by rw[hz.2 h] at hN;cases hN
 rw[if_neg ki] at V;have po:0<q.a.st:=by have:=hq.ok.st0;omega
 have kj:(rstr q.a lf).st.toNat=q.n:=by show q.a.st.toNat=q.n;omega
 unfold Y2 at V;rw[if_neg (show ¬(rstr q.a lf).st=0 from λh=>ki (.inl h)),kj] at V;simp only[] at V;refine Qi<|Qc<|Qb<|x (QH O)<|x (Qa O)<|x (Qa O)<|x (Qd gj.B O O)<|xl O<|Vv (n:=q.n) (congrArg (Value.int .i64) hn) (congrArg (Value.int .i64) hn) (by omega) λbE w6 hw pp gn=>Qe ?_;rw[Qei] at gn;have hz6:=hw.size;have hlE:=gn.lt;have pt:=hD.trans hw;have kk:=hA.ext pt
 refine Qf<|Qc<|Qb<|x (QH O)<|x (Qa O)<|x (Qa O)<|x (Qd kk.B O O)<|x (Qs kk.a.ed O)<|Qb<|xe<|Qg<|QA (α:=Nat×(Nat→Value)) [(7,7),(50,74)] (λz=>[(50,.int .i64 z.1)]) (λz w'=>z.1≤q.a.ed.length∧Step [bE] w6 w'∧Q0 w'.heap bE 56 ((List.range q.n).map z.2)∧JU w6.heap.size w' q.n z.2 (qB ((q.a.ed.take z.1).filter λe=>lft lf e.2.2))) (λz=>q.a.ed.length - z.1) (by rfl) (0,λ_=>nS) Z
  ⟨Lk _,Step.refl _ _,gn,⟨λi _=>QO _ _ _ _,λi j _ _ _=>Dj.nil _⟩⟩ ?_
 rintro ⟨k,rv⟩ g w7 ⟨hk,hO,go,T⟩;simp only[] at hk go T;have hF:Step [] w4 w7:=hw.then1 hO pp;have gp:=hD.trans hF;have hz7:=hO.size;have kn:=hA.ext gp;refine Qc<|x (QB O O)<|xe<|Qf<|QF O (λgq=>?_) (λgq=>?_)
 ·refine Qy ?_;have pu:q.a.ed.length≤k:=by have hP:¬(k:Int)<(q.a.ed.length:Int):=gq;omega
  rw[Ll pu] at T;have T:JU w6.heap.size w7 q.n rv (qB (rstr q.a lf).ed):=T;have ko:(rstr q.a lf).ed.length≤q.a.ed.length:=L9 _ _;refine Qc<|xl O<|Yo Km λmb w8 gr pw pz=>xl O<|YY (k:=(0:Int)) pz O O λE gs kp=>Qb<|Qe ?_;have H:Step [] w7 E:=gr.then1 gs pw;have p0:=H.size;have hQ:=kp.lt
  refine Qc<|xl O<|QC (us:=[[.int .i64 0]]) O O (by decide) (by simp) ⟨rfl,rfl,U⟩ λkq gt hy hb77 p1=>Qe<|Qf<|Qc<|Qe ?_;have gu:mb≠b4:=by omega
  have hG:b4<E.heap.size:=by omega
  have kr:=gp.trans H;have gv:∀b∈[b4,mb],w2.heap.size≤b:=λb hb=>by simp only[List.mem_cons,List.not_mem_nil,or_false] at hb;omega
  have p2:yK [b4,mb] E.heap bp q:=((hA.ext Y).up (λb hb=>.inr (gv b hb))).ext (S.trans (hF.trans H));have hBS:Q0 E.heap q.bl 4 (lf.map Value.bool):=hB.ext kr;have hlw:=hB.lt;have kt:∀s,s<q.n→qt [b4,mb] E.heap (rv s) (qB (rstr q.a lf).ed s):=λs hs=>QT (Qq (T.own s hs) H) (by have:=y8 (rstr q.a lf).ed s;omega) (λb hb hm=>by
   have h1:=(Qk (T.own s hs) b hb).1;have h2:=QR (T.own s hs) b hb;simp only[List.mem_cons,List.not_mem_nil,or_false] at hm;omega)
  have hH:=go.ext H;have gw:∀b,b<w2.heap.size→b∉[b4,mb]:=λb hb hm=>by have:=gv b hm;omega
  have p3:bE∉[b4,mb]:=by simp only[List.mem_cons,List.not_mem_nil,or_false];omega
  have p4:q.bl<w2.heap.size:=by omega
  have hBl9:q.bl∉[b4,mb]:=gw _ p4;have p5:Q0 E.heap b4 58 [r2,.int .i64 0,nS,nS]:=((hC.ext hF)).ext H;have p6:Q0 E.heap b2 58 [nS,.int .i64 0,nS,nS]:=((h9.ext hL).ext S).ext (hF.trans H);have p7:=Qq hv (S.trans (hF.trans H));have p8:Qu 3 E.heap.size gt (.slice (some ⟨kq,0,none⟩) 1 1) [0]:=p1.own (n:=1) (sz:=1) O (by omega) (by omega)
  have ku:Qbe (Yd (rstr q.a lf)).num (mput [] (0:Int) (.int .i64 0)):=by
   have h0:Qbe (List.replicate q.n (-1)) ([]:List (Int×Value)):=λs hs=>by
    have p9:s<q.n:=by simpa using hs
    have:cget (List.replicate q.n (-1)) s=-1:=by unfold cget;simp[List.getD,p9]
    rw[this];rfl
   have h1:=h0.set (k:=0) (by simp;omega) (v:=0) (Nf _);unfold Yd;rw[kj];exact h1
  have gx:∀e∈(rstr q.a lf).ed,0≤e.1∧e.1<q.a.st∧0≤e.2.2∧e.2.2<q.a.st:=λe he=>by have:=pd.ed e he;exact ⟨this.1,this.2.1,this.2.2.2.1,this.2.2.2.2⟩
  have kv:Kz q.a.st (Yd (rstr q.a lf)):=Qch (a:=rstr q.a lf) po;have kw:(rstr q.a lf).mr=q.a.mr:=rfl;refine Zb (rstr q.a lf) λR hR=>?_;rw[hR] at V kt ku gx kv kw ko;have qc:R.al=q.a.al:=by rw[←hR];rfl
  have hnN:q.a.st.toNat=q.n:=by omega
  refine Qg<|QA (α:=Nat×Cs×List (Int×Value)×Value×Value×Value) [(9,10),(12,14),(78,142)] (λz=>[(9,z.2.2.2.1),(10,.int .i64 z.1)])
   (λz w'=>JA b4 mb r2 E z.2.1 z.2.2.1 z.2.2.2.1 z.2.2.2.2.1 z.2.2.2.2.2 w'∧z.1≤z.2.1.ord.length∧Kz q.a.st z.2.1∧z.2.1.mk'.length≤z.1∧z.2.1.ed.length≤z.1*131072∧YQ R (q.n - z.1) z.1 z.2.1=YQ R q.n 0 (Yd R)) (λz=>q.n - z.1) (by rfl)
   (0,Yd R,mput [] (0:Int) (.int .i64 0),.slice (some ⟨kq,0,none⟩) 1 1,nS,nS) ⟨O,O,U⟩
   ⟨⟨hy.any,p5.ext hy,kp.ext hy,ku,p8,QO _ _ _ _,QO _ _ _ _,Dj.nil' _,Dj.nil' _,Dj.nil' _⟩,Lk _,kv,Lk _,Lk _,O⟩ ?_
  rintro ⟨i,c,m,vo,vk,ve⟩ g qf ⟨I,hi,hc,ql,qo,gy⟩;simp only[] at I hi hc ql qo gy;have hcle:=hc.le;have hS:=Qu.ints (L:=[]) I.o (by omega) (by simp);refine Qf<|Qc<|Qb<|Qb<|x (Qs hS O)<|x (QB O O)<|xe<|QF O (λqq=>?_) (λqq=>?_)
  ·refine Qy ?_;have qr:c=YQ R q.n 0 (Yd R):=by rw[←gy,zp (by omega)]
   refine Qc<|Qb<|x (Qs hS O)<|x (Qa O)<|xl O<|QE I.B4 O O (by simp) rfl λhj Y hf=>xe ?_;have q0:=Qu.ints (L:=[]) I.k (by omega) (by simp);have q1:=Z4.eds (L:=[]) I.e (by have:=hc.el;omega) (by simp)
   refine Qc<|x (Qr hf O O)<|Qb<|xl O<|Qo (us:=[r2,.int .i64 c.ord.length,vk,ve]) ((p6.step I.st (gw _ (by omega))).step Y (by simp;omega)) O O O O ⟨hM.one,O,q0.one,q1.one,U⟩ λq2 hT q3=>Qe ?_;have kx:Step [b4,mb] E hj:=I.st.then Y (λb hb=>.inl (by simp at hb;simp[hb]));have q4:Step [] w q2:=(kr.then kx (λb hb=>.inr (by have:=gv b hb;omega))).then1 hT (by omega)
   refine Qm ⟨[.agg #[r2,.int .i64 c.ord.length,vk,ve],vo],⟨⟨_,O,Qw O (q3.at (L:=[]) (by simp)).cells⟩,rfl,U⟩,q4,_,_,rfl,?_,hS.one⟩;rw[←qr] at V;subst V;have k1:=Qj (Qj I.k Y (λb hb=>by have:=(Qk I.k b hb).1;simp;omega)) hT (λb hb=>by have:=(Qk I.k b hb).1;simp;omega)
   have k2:=Qj (Qj I.e Y (λb hb=>by have:=(Qk I.e b hb).1;simp;omega)) hT (λb hb=>by have:=(Qk I.e b hb).1;simp;omega);have k3:=Qj (Qj p7 kx (λb hb=>gw b (pm b hb))) hT (λb hb=>by have:=(Qk hv b hb).1;simp;omega)
   exact ⟨r2,vk,ve,O,λL' hE=>⟨by rw[qc];exact Qu.ints k3 hA.a.al.le (λb hb=>by have:=hE b hb;omega),Qu.ints k1 (by show c.mk'.length≤_;omega) (λb hb=>by have:=hE b hb;omega),Z4.eds k2 (by show c.ed.length≤_;have:=hc.el;omega) (λb hb=>by have:=hE b hb;omega)⟩⟩
  have G:i<c.ord.length:=by omega
  refine Qi ?_;have ky:=Zn G;have hsr:=hc.ord _ (Jc G);have hh:=QcC (a:=R) G;refine Zb (cget c.ord i) λs0 kz=>?_;rw[kz] at ky hsr hh;have k0:s0=(s0.toNat:Int):=by omega
  have gz:s0.toNat<q.n:=by omega
  have q5:qB R.ed s0.toNat=Zz R.ed s0:=by unfold qB;rw[←k0]
  have hU:=kt s0.toNat gz;rw[q5] at hU;have za:=JG R.ed s0;have k5:∀e∈Zz R.ed s0,0≤e.2.2∧e.2.2<q.a.st:=λe he=>⟨(gx e (Zx he).1).2.2.1,(gx e (Zx he).1).2.2.2⟩;refine Zb (Zz R.ed s0) λos zv=>?_;rw[zv] at hU za k5 hh;refine Qf<|Qg<|Qf<|Qc<|Qb<|Qb<|Qb<|xii (i:=i) hS O O G λa87 k6=>?_;rw[ky] at k6
  refine x (Qv k6 O)<|x (Zj (i:=s0.toNat) O (congrArg (Value.int .i64) k0) gz)<|x (Qd (u:=rv s0.toNat) (hH.step I.st p3) O (y7 gz))<|x (Qs (hU.st I.st) O)<|Qb<|xe<|Qg<|QA (α:=Nat×Cs×List (Int×Value)×Value×Value) [(9,9),(12,14),(92,126)] (λz=>[(9,z.2.2.2.1),(92,.int .i64 z.1)])
   (λz w'=>JA b4 mb r2 E z.2.1 z.2.2.1 z.2.2.2.1 vk z.2.2.2.2 w'∧z.1≤os.length∧Kz q.a.st z.2.1∧z.2.1.mk'=c.mk'∧z.2.1.ed.length=c.ed.length+z.1∧(∃r,z.2.1.ord=c.ord++r)∧(os.drop z.1).foldl (Zd i) z.2.1=os.foldl (Zd i) c) (λz=>os.length - z.1) (by rfl) (0,c,m,vo,ve) ⟨O,O,U⟩
   ⟨I,Lk _,hc,O,O,⟨[],by simp⟩,rfl⟩ ?_
  rintro ⟨k4,d,m4,hV,hW⟩ g hj ⟨hg,z0,J,g0,k7,hX,h3⟩;simp only[] at hg z0 J g0 k7 hX h3;have hcle4:=J.le;have z2:=Qu.ints (L:=[]) hg.o (by omega) (by simp);have g2:i<d.ord.length:=by obtain ⟨r,hr⟩:=hX;rw[hr,Li];omega
  have k8:cget d.ord i=s0:=by obtain ⟨r,hr⟩:=hX;rw[hr,U8 G];exact kz
  refine Qc<|x (QB O O)<|xe<|Qf<|QF O (λz3=>?_) (λz3=>?_)
  ·refine Qy ?_;rw[Lo (by omega),Nl] at h3;rw[←h3] at hh;have k9:=p2.st hg.st;have z4:d.ord[i]'g2=s0:=by rw[Zn g2];exact k8
   have z9:ZK R i d=if s0∈q.a.mr then ⟨d.ord,d.num,d.mk'++[(i:Int)],d.ed⟩ else d:=by
    unfold ZK;rw[J1,Mt,k8,kw]
   rw[z9] at hh;have hY:YQ R (q.n - (i+1)) (i+1) (V1 R i c)=YQ R q.n 0 (Yd R):=by
    rw[←gy];obtain ⟨t,ht⟩:∃t,q.n - i=t+1:=⟨q.n - i - 1,by omega⟩;rw[ht,YQ,if_pos G,show q.n - (i+1)=t by omega]
   have hm4l:=congrArg List.length g0;refine Qf<|QV (Step [] hj) [(0,true),(1,true),(2,true),(3,true),(4,true),(5,true),(6,true),(7,true),(8,true),(9,false)] mixed (by rfl) (by kernel_rfl) (Step.drew _ _) ?_;refine p (λ_=>Qp)<|p (λ_=>QH O)<|p (λ_=>Qa O)<|p (λ_=>Qa O)<|pq (λ_ hc=>Qd (k9.B.ext hc) O O)<|p (λ_=>Qp) <|
    p (λ_=>Qp)<|pii (i:=i) O z2 O O g2 λa134 ma=>?_
   rw[z4] at ma;refine pq (λ_ hc=>Qv (ma.ext hc) O)<|pk<|xf<|(ZL (k9.a.mr.ext (Step.drew _ _)) s0).mono ?_;rintro r16 w16 ⟨rfl,rfl⟩;refine ⟨Step.drew _ _,pe ?_⟩;have ha:=hg.ext (Step.drew [] hj);refine QF O (λg3=>?_) (λg3=>?_)
   ·rw[if_neg g3] at hh;refine Qi<|Qx<|Qb<|QN O O<|Qe ?_;rw[hh] at hY;exact ⟨(i+1,d,m4,hV,vk,hW),by simp only[];omega,⟨O,O,U⟩,ha,by simp only[];omega,J,by simp only[];omega,by simp only[];omega,hY⟩
   rw[if_pos g3] at hh;refine Qx<|x (Qa O)<|x (Qd ha.B4 O O)<|Qb<|xl O<|QC (us:=[[.int .i64 i]]) O O (by decide) (by simp) ⟨rfl,rfl,U⟩ λb140 w17 hs17 hb140 hB140=>?_;have hJ:=ha.ext hs17;refine xl O<|QW (news:=[.int .i64 i]) (L:=[]) hJ.k O O O (hB140.at (by simp)) (by simp[Value.oneCell']) (by omega) hJ.st.size λmc w18 mf mg hn18=>?_
   have hk18:Qu 3 E.heap.size w18 mc (d.mk'++[(i:Int)]):=Qu.snoc mf;refine x (Qa O)<|xl O<|QE (hJ.B4.step mg (QM hJ.k hG)) O O (by simp) (QG mf) λw19 hs19 hB19=>xe ?_;have hI19:=hJ.setK hG hQ gu mg hk18 hn18 hs19 hB19;refine Qx<|Qb<|QN O O<|Qe ?_;rw[hh] at hY
   exact ⟨(i+1,⟨d.ord,d.num,d.mk'++[(i:Int)],d.ed⟩,m4,hV,mc,hW),by simp only[];omega,⟨O,O,U⟩,hI19,by simp only[];omega,⟨J.nl,J.sum,J.ord,J.num,J.el⟩,by simp only[List.length_append,List.length_singleton];omega,by simp only[];omega,hY⟩
  refine Qi ?_;have hZ:k4<os.length:=by omega
  have hdr:=QX hZ;rw[hdr,LL] at h3;have g4:=k5 _ (Lh hZ);refine Zb (os[k4]'hZ) λe he=>?_;rw[he] at h3 g4;have ga:e.2.2=(e.2.2.toNat:Int):=by omega
  have gb:e.2.2.toNat<d.num.length:=by rw[J.nl];omega
  have mh:=hg.nm e.2.2.toNat gb;rw[←ga] at mh;have mj:ZD d.num e.2.2=cget d.num e.2.2.toNat:=rfl;refine Qf<|Qg<|Qc<|xie (hU.st hg.st) O O hZ λa94 mo=>?_;rw[he] at mo;refine x (QI mo O O)<|xl O<|Qt (us:=[.int .i64 0,.int .i64 0,.int .i64 0]) O λg5 w20 hs20 g6 hf=>xl O<|Qo (us:=Qz e) hf O O O O ⟨O,O,O,U⟩ λgc hs21 hf=>xe ?_;have mq:Step [] hj gc:=hs20.then1 hs21 g6
  have ha:=hg.ext mq;have hl12:=hf.lt;have hz21:=mq.size;have hIz:=hg.st.size;have ms:Kz q.a.st (Zd i d e):=yT J g4.1 g4.2 (by have:=J.el;omega);have mt:Zd i d e=⟨(ZR d e).ord,(ZR d e).num,(ZR d e).mk',(ZR d e).ed++[((i:Int),e.2.1,ZD (ZR d e).num e.2.2)]⟩:=Uo gb;have hordl:=ms.le
  refine QU (α:=Value) [(13,14),(96,102)] (λz=>[(13,.int .i64 (if cget d.num e.2.2.toNat<0 then 0 else cget d.num e.2.2.toNat)),(14,.bool (!decide (cget d.num e.2.2.toNat<0)))]) (λz w'=>w'=gc) (by rfl) ?_ ?_
  ·refine Qx<|Qb<|x (Qa O)<|x (Qd hf O O)<|x (v:=.tuple #[.int .i64 (if cget d.num e.2.2.toNat<0 then 0 else cget d.num e.2.2.toNat),.bool (!decide (cget d.num e.2.2.toNat<0))]) ((KM (k:=e.2.2) ha.M O O).trans (congrArg (λv=>Result.ok (Next.value v) _) ?_))<|Qb<|x (Ql O O)<|x (Ql O O)<|x Qh<|Qe ?_
   ·rw[mh];by_cases ho:cget d.num e.2.2.toNat<0
    ·simp[ho]
    simp[ho]
   exact ⟨.bool true,⟨O,O,U⟩,O⟩
  rintro z5 g gc rfl;refine QU (α:=Value×List (Int×Value)×Int) [(9,9),(13,13),(103,115)] (λz=>[(9,z.1),(13,.int .i64 z.2.2)]) (λz w'=>cget (ZR d e).num e.2.2.toNat=z.2.2∧JA b4 mb r2 E (ZR d e) z.2.1 z.1 vk hW w'∧Q0 w'.heap g5 144 (Qz e)∧gc.heap.size≤w'.heap.size) (by rfl) ?_ ?_
  ·refine Qc<|Qb<|x (Zs O)<|xe<|Q3 O (λg7=>?_) (λg7=>?_)
   ·have ho:cget d.num e.2.2.toNat<0:=by simpa using g7
    have hK:ZR d e=⟨d.ord++[e.2.2],d.num.set e.2.2.toNat d.ord.length,d.mk',d.ed⟩:=by unfold ZR;rw[mj,if_pos ho]
    have hcg:cget (ZR d e).num e.2.2.toNat=(d.ord.length:Int):=by rw[hK];unfold cget;simp[List.getD,gb]
    refine Qc<|Qb<|x (Qs (Qu.ints (L:=[]) ha.o (by omega) (by simp)) rfl)<|Qe<|Qc<|Qb<|x (Qa rfl)<|x (Qd hf rfl rfl)<|Qb<|xl rfl<|Xl (k:=e.2.2) ha.M rfl rfl λw22 g8 hM22=>xe ?_;have mu:=ha.nm.set gb (v:=(d.ord.length:Int)) (by omega);rw[←ga] at mu;have hI6:=ha.setN hQ gu g8 hM22 mu;have ge:=hf.step g8 (by simp;omega)
    refine Qx<|Qb<|x (Qa O)<|x (Qd ge O O)<|xl O<|QC (us:=[[.int .i64 e.2.2]]) O O (by decide) (by simp) ⟨rfl,rfl,U⟩ λb114 w23 g9 hb114 hB114=>?_;have ka:=hI6.ext g9;refine xl O<|QW (news:=[.int .i64 e.2.2]) (L:=[]) ka.o O O O (hB114.at (by simp)) (by simp[Value.oneCell']) (by show d.ord.length+1≤_;omega) ka.st.size λmv w24 ho24 S hn24=>Qe ?_
    have hk24:Qu 3 E.heap.size w24 mv (d.ord++[e.2.2]):=Qu.snoc ho24;have hb12o:g5∉ob hV:=λhb=>by have:=QR hg.o g5 hb;omega
    have h4:=ka.setO hG hQ S hk24 hn24;have:=g8.size;have:=g9.size;have:=S.size;refine ⟨(mv,mput m4 e.2.2 (.int .i64 d.ord.length),(d.ord.length:Int)),⟨O,O,U⟩,hcg,?_,(ge.ext g9).step S hb12o,by omega⟩;simp only[];rw[hK];exact h4
   have ho:¬cget d.num e.2.2.toNat<0:=by simpa using g7
   have hK:ZR d e=d:=by unfold ZR;rw[mj,if_neg ho]
   have kg:(if cget d.num e.2.2.toNat<0 then 0 else cget d.num e.2.2.toNat)=cget (ZR d e).num e.2.2.toNat:=by rw[hK,if_neg ho]
   refine Qi<|⟨(hV,m4,if cget d.num e.2.2.toNat<0 then 0 else cget d.num e.2.2.toNat),⟨O,O,U⟩,kg.symm,?_,hf,Lr _⟩
   rw[hK];exact ha
  rintro ⟨vo5,m5,tn⟩ g w25 ⟨mw,h4,ge,hz25⟩;simp only[] at h4 mw;have hnl:(ZR d e).num.length=d.num.length:=QbH d e;have my:(ZR d e).ed=d.ed:=by unfold ZR;split <;> rfl
  have hgN:ZD (ZR d e).num e.2.2=cget (ZR d e).num e.2.2.toNat:=rfl;rw[hgN,my,mw] at mt;have heN:Z4 144 E.heap.size w25 hW d.ed:=by have:=h4.e;rw[my] at this;exact this
  refine Qx<|x (Qa O)<|x (Qd h4.B4 O O)<|Qb<|x (Qa O)<|x (Qd ge O O)<|Qb<|x (QD ⟨O,O,O,U⟩) <|
   xl rfl<|QC (us:=[Qz ((i:Int),e.2.1,tn)]) O O (by decide) (by exact (by decide:1*3≤1000000)) ⟨O,O,U⟩ λb123 w26 mz hb123 hB123=>?_
  have gg:=h4.ext mz;refine xl O<|QW (m:=1) (news:=Qz ((i:Int),e.2.1,tn)) (L:=[]) (Qq heN mz) O O O (hB123.at (by simp)) (λu hu=>by simp only[Qz,List.mem_cons,List.not_mem_nil,or_false] at hu;rcases hu with rfl | rfl | rfl <;> rfl) (by have:=J.el;omega) gg.st.size λm0 w27 m1 m2 hn27=>?_
  have hk27:Z4 144 E.heap.size w27 m0 (d.ed++[((i:Int),e.2.1,tn)]):=Z4.snoc m1;refine x (Qa O)<|xl O<|QE (gg.B4.step m2 (QM gg.e hG)) O O (by simp) (QG m1) λw28 hs28 hB28=>xe ?_;have m3:=gg.setE hG hQ gu m2 hk27 hn27 hs28 hB28;rw[←mt] at m3;refine Qx<|QN O O<|Qb<|xe<|⟨(k4+1,Zd i d e,m5,vo5,m0),by simp only[];omega,⟨O,O,U⟩,m3,by simp only[];omega,ms,?_,?_,?_,h3⟩
  ·simp only[];rw[←g0];exact (yU i d [] e).2
  ·simp only[];rw[yV,k7];omega
  simp only[];obtain ⟨r1,h1⟩:=qR i d e;obtain ⟨r2',h2⟩:=hX;exact ⟨r2'++r1,by rw[h1,h2,Lz]⟩
 refine Qi ?_;have G:k<q.a.ed.length:=by have hP:(k:Int)<(q.a.ed.length:Int):=gq;omega
 have m6:=hq.ok.ed _ (Lh G);have htk:q.a.ed.take (k+1)=q.a.ed.take k++[q.a.ed[k]'G]:=Le G;have h5:(q.a.ed.take (k+1)).filter (λe=>lft lf e.2.2)=(q.a.ed.take k).filter (λe=>lft lf e.2.2)++if lft lf (q.a.ed[k]'G).2.2=true then [q.a.ed[k]'G] else []:=by
  rw[htk,L2];congr 1;by_cases h:lft lf (q.a.ed[k]'G).2.2=true
  ·simp[h]
  simp[h]
 have hfll:((q.a.ed.take k).filter (λe=>lft lf e.2.2)).length≤k:=LP (L9 _ _) (by rw[Lv];omega);refine Zb ((q.a.ed.take k).filter (λe=>lft lf e.2.2)) λkept hkept=>?_;rw[hkept] at h5 T hfll;refine Zb (q.a.ed[k]'G) λe he=>?_;rw[he] at m6 h5;have m7:e.1=(e.1.toNat:Int):=by omega
 have ga:e.2.2=(e.2.2.toNat:Int):=by omega
 have gm:=Vy (l:=lf) (s:=e.2.2) (by omega);have hp:e.1.toNat<q.n:=by omega
 refine Qf<|Qg<|Qc<|xie kn.a.ed O O G λa52 hP=>?_;rw[he] at hP;refine x (QI hP O O)<|xl O<|Qt (us:=[.int .i64 0,.int .i64 0,.int .i64 0]) O λb7 w8 gr hb7 h6=>xl O<|Qo (us:=Qz e) h6 O O O O ⟨O,O,O,U⟩ λE gs h6=>xe ?_;have H:Step [] w7 E:=gr.then1 gs hb7;have p0:=H.size;have hA9:=kn.ext H;have hB9:=hB.ext (gp.trans H);have kb:=T.ext H;have hH:=go.ext H
 refine Qf<|QV (Step [] E) [(0,true),(1,true),(2,true),(3,true),(4,true),(5,true),(6,true),(7,true)] mixed (by rfl) (by kernel_rfl) (Step.drew _ _) ?_;refine p (λ_=>Qp)<|p (λ_=>QH O)<|p (λ_=>Qa O)<|pq (λ_ hc=>Qd (hA9.B.ext hc) O O)<|p (λ_=>Qa O)<|pq (λ_ hc=>Qd (h6.ext hc) O O) <|
  p (λ_=>Zj (i:=e.2.2.toNat) O (congrArg (Value.int .i64) ga) (by omega))<|pq (v:=.bool (lft lf e.2.2)) (λ_ hc=>(XK (i:=e.2.2.toNat) (hB9.ext hc) O (by omega)).trans (by rw[gm]))<|pe ?_
 have h7:Step [] E { E with drawn:=E.drawn+1 }:=Step.drew _ _
 refine Q3 rfl (λkc=>?_) (λkc=>?_)
 ·rw[if_pos kc] at h5;have hrow:=kb.own _ hp;have ke:∀b∈ob (rv e.1.toNat),w6.heap.size≤b∧b<w7.heap.size:=λb hb=>⟨(Qk (T.own _ hp) b hb).1,QR (T.own _ hp) b hb⟩;have m8:bE∉ob (rv e.1.toNat):=λhb=>by have:=ke _ hb;omega
  have kf:b7∉ob (rv e.1.toNat):=λhb=>by have:=ke _ hb;omega
  have ko:=y8 kept e.1.toNat;refine QV (Step (ob (rv e.1.toNat)) E) [(0,true),(1,true),(2,true),(3,true),(4,true),(5,true),(6,true),(7,true),(8,true),(9,false),(10,false),(11,true),(12,false)] mixed (by rfl) (by kernel_rfl) (h7.any.trans' (Step.drew _ _)) ?_;refine p (λ_=>Qp)<|p (λ_=>Qa O)<|pq (λ_ hc=>Qd (h6.step hc kf) O O)<|p (λ_=>Qp)<|p (λ_=>Qa O) <|
   pq (λ_ hc=>Qd (h6.step hc kf) O O)<|p (λ_=>Zj (i:=e.1.toNat) O (congrArg (Value.int .i64) m7) hp)<|pq (λ_ hc=>Qd (u:=rv e.1.toNat) (hH.step hc m8) O (y7 hp)) <|
   pq (λ_ hc=>Qr (h6.step hc kf) O O)<|pk<|QC (us:=[Qz e]) O O (by decide) (by exact (by decide:1*3≤1000000)) ⟨O,O,U⟩ λb71 gt hy hb71 hB71=>⟨(h7.any.trans' (Step.drew _ _)).trans' hy.any,?_⟩
  have h8:Step [] E gt:=(h7.trans (Step.drew _ _)).trans hy;have hz10:=h8.size;refine pk<|QW (m:=1) (news:=Qz e) (L:=[]) (Qq hrow h8) O O O (hB71.at (by simp)) (λu hu=>by simp only[Qz,List.mem_cons,List.not_mem_nil,or_false] at hu;rcases hu with rfl | rfl | rfl <;> rfl) (by omega) (by omega) λvr qf m9 gh hn11=>⟨h8.any.trans' gh,?_⟩
  have hBE11:=(hH.ext h8).step gh m8;have hlen:((List.range q.n).map rv).length=q.n:=by simp
  refine p (λ_=>Zj (i:=e.1.toNat) O (congrArg (Value.int .i64) m7) hp)<|pkl (hl:=by kernel_rfl)<|QE (j:=0+e.1.toNat*1) (u:=vr) hBE11 O O (by rw[hlen];omega) (QG m9) λhj Y hBE12=>pe ?_;have g6:Q0 hj.heap bE 56 ((List.range q.n).map (Kh rv e.1.toNat vr)):=by
   have e1:=QdL id q.n rv e.1.toNat vr;simp only[id] at e1;rw[←e1];simpa using hBE12
  have hvn:∀b∈ob vr,b∈ob (rv e.1.toNat)∨E.heap.size≤b:=λb hb=>(hn11 b hb).imp id (λh=>by omega);have pa:=kb.app hp (Z4.snoc m9) (h8.any.trans' gh) hvn;have pc:=pa.step Y (λi hi b hb=>by have:=(Qk (pa.own i hi) b hb).1;simp only[List.mem_singleton];omega);rw[QcB kept e m6.1,←h5] at pc;refine Qx<|QN O O<|Qb<|xe ?_
  exact ⟨(k+1,Kh rv e.1.toNat vr),by simp only[];omega,Z,G,(((hO.trans H).trans h8).then gh (λb hb=>.inr (ke b hb).1)).trans' Y,g6,pc⟩
 rw[if_neg (by rw[kc];decide),LD] at h5;refine Qi<|Qx<|QN O O<|Qb<|xe ?_;exact ⟨(k+1,rv),by simp only[];omega,Z,G,(hO.trans H).trans h7,(hH.ext h7),by simp only[];rw[h5];exact kb.ext h7⟩
open Go.Sort
abbrev Rz:={ x:Int×Int×Int×Int // 0≤x.1∧x.1<4096 }
instance:Inhabited Rz:=⟨⟨(0,0,0,0),by decide⟩⟩
abbrev Us (x:Rz):LV:=[.int .i64 x.1.1,.int .i64 x.1.2.1,.int .i64 x.1.2.2.1,.int .i64 x.1.2.2.2]
abbrev RzO (base:Nat) (w:World) (v:Value) (l:List Rz):Prop:=w.ownsRow base 320 4 v l.length (l.flatMap Us)
set_option maxHeartbeats 1000000 in
theorem QkW (x y:Rz) (W:World):Calls prog 216 #[.agg (Us x).toArray,.agg (Us y).toArray] W λe w'=>e=.returned (.int .i64 (x.1.1 - y.1.1))∧∃q os',w'=grow (W.drewN q) os':=by
 have E:IntKind.i64.wrap (x.1.1 - y.1.1)=x.1.1 - y.1.1:=Yh ⟨by have:=x.2;have:=y.2;omega,by have:=x.2;have:=y.2;omega⟩
 go_enter func216,ntmps216
 go_wp2
 go_ret;exact ⟨by rw[←E];rfl,0,_,by rw[alloc_eq_grow,alloc_eq_grow,grow_grow];rfl⟩
theorem zJ (x:Rz):(Us x).length=4:=rfl
theorem zI:∀l:List Rz,(l.flatMap Us).length=l.length*4
 | []=>rfl
 | x::l=>by rw[LE,Li,zI l,zJ,LH];omega
theorem Qbt {l:List Rz}{j:Nat}(G:j<l.length*4):(l.flatMap Us)[j]?=some ((flatK Us 4 l.toArray)[j]!):=by
 have h1:j / 4<l.length:=Nat.div_lt_of_lt_mul (by omega);have h2:j % 4<4:=Nat.mod_lt _ (by decide);rw[get_flatK _ _ _ _ (by simpa using G)];have h3:=XN Us 4 zJ l (j / 4) h1;have H:(l.flatMap Us)[j]?=(Us (l[j / 4]'h1))[j % 4]?:=by
  rw[←h3,LT,if_pos h2,MD];congr 1;omega
 rw[H];have h5:(l.toArray)[j / 4]! = l[j / 4]'h1:=by simp[h1]
 rw[h5];have E:j % 4<(Us (l[j / 4]'h1)).length:=h2;exact (LA E).trans (congrArg some (getElem!_pos (Us (l[j / 4]'h1)) (j % 4) E).symm)
theorem QiY:SWO (ltOf λx y:Rz=>x.1.1 - y.1.1) where
 irrefl x:=by unfold ltOf;simp
 trans x y z h1 h2:=by unfold ltOf at *;simp at *;omega
 ntrans x y z h1 h2:=by unfold ltOf at *;simp at *;omega
set_option maxHeartbeats 1000000 in
theorem Qcz {w:World}{base:Nat}{v:Value}{l:List Rz}(h:RzO base w v l) (hl:l.length≤1099511627776) :
  QJ prog 215 [v,.func (.func 216) #[] #[]] w λ_ w'=>Step (ob v) w w'∧∃l',l'.length=l.length∧RzO base w' v l':=by
 unfold QJ;rcases h.2 with ⟨rfl,h0⟩ | ⟨g,cap,cur,rfl,ha,H,S,hb,T,hf⟩
 ·have hh:l=[]:=Lq h0;subst hh;have hc:=AnyF.slices_SortFunc_none Tryz.sortRm none 0 (.func (.func 216) #[] #[]) w;change Calls prog 215 _ _ _ at hc;refine Calls.mono hc λe w' he=>?_;obtain ⟨rfl,rfl⟩:=he;exact ⟨Step.refl _ _,[],O,h⟩
 have V:g<w.heap.size:=(LC.1 H).1;have hq:l.length*4≤cur.size:=by rw[T];exact Mu _ S
 have hH:HoldsK Us 4 w g 0 l.toArray:=by
  intro j E;rw[size_flatK,LR] at E;have h1:=Qbt E;rw[←hf,LT,if_pos E] at h1;constructor
  ·show (match w.heap[g]? with | some (.cells c _ _)=>if (none:Option _).isSome then none else c[0+j]? | _=>none)=_
   rw[H];simp only[Nat.zero_add,Option.isSome_none,Bool.false_eq_true,if_false];rw[←MA,h1];rfl
  show (match w.heap[g]? with | some (.cells _ _ (lo,hi))=>decide (lo≤0+j) && decide (0+j<hi) | _=>false)=false
  rw[H];simp
 have eg:∀args w,(callFunc 216 args).run prog w=.ok (.enter 216 args) w:=enters_of func216 (by kernel_rfl) O;have hc:=AnyQ.slices_SortFunc Tryz.sortRm 4 Tryz.isAgg320 Tryz.sizeOf320 Us zJ (λx v Y=>by simp at Y;rcases Y with rfl | rfl | rfl | rfl <;> rfl) (λx y=>x.1.1 - y.1.1) QiY 216 #[] g 0 cap l.toArray w eg (λm os dk _ x y=>QkW x y _) hH V (by simp;omega)
 change Calls prog 215 _ _ _ at hc;rw[LR] at hc;refine Calls.mono hc λe w' he=>?_;obtain ⟨rfl,G,n,os,hp,_,rfl⟩:=he;have I:G.size=l.length:=by have:=hp.1;simpa using this
 have J:(sortWorldK Us 4 w g 0 n G os).heap=w.heap.modify g (onCells (putCells id 0 (flatK Us 4 G)))++os:=rfl;refine ⟨⟨rfl,O,O,?_,λk hk hn=>?_⟩,G.toList,by simpa using I,?_⟩
 ·rw[J,M9,Ms];omega
 ·rw[J,Mo,Ms,if_pos hk,MK,if_neg (λe=>hn (by simp[ob,e]))]
 refine ⟨zI _,.inr ⟨g,cap,putCells id 0 (flatK Us 4 G) cur,by simp[I],ha,?_,by simp[I];exact S,hb,by simp[putCells,T],?_⟩⟩
 ·rw[J,Mo,Ms,if_pos V,MK,if_pos rfl,H];rfl
 apply Na;intro j;rw[LT];by_cases E:j<G.toList.length*4
 ·rw[if_pos E,Qbt E,MA];have hm:j<cur.size:=by simp[I] at E;omega
  have ho:j<(flatK Us 4 G).size:=by simpa using E
  simp only[putCells,Array.getElem?_mapIdx,Array.getElem?_eq_getElem hm,Option.map_some,Nat.zero_le,Nat.zero_add,true_and,if_pos ho,Nat.sub_zero,id]
 rw[if_neg E,MW];rw[zI];omega
theorem Qi8 {a:QS}{ul:LI}{lf:Lf}{n:Nat}(E:Zg a) (G:a.st=(n:Int)) (hl:lf.length=n):∀x∈nxs a ul lf,0≤x∧x<(n:Int):=λx hx=>by
 have h1:=QeJ x hx;have h2:x.toNat<n:=by
  refine Decidable.byContradiction λh=>?_;unfold lft at h1;simp[List.getD,List.getElem?_eq_none (show lf.length≤x.toNat by omega)] at h1
 unfold nxs at hx;split at hx
 ·obtain ⟨p,hp,rfl⟩:=Ly.1 hx;obtain ⟨_,e,he,h3,_⟩:=(yf a ul lf).1 p hp;have:=E.ed e he;omega
 have:=((Ve lf (dsts a lf) 0).1 x hx).2;omega
theorem Qiv {rk rs:Int}:∀(l:List (Int×Int)),(∀x∈l.map (·.1),0≤x∧x<4096)→∃lz:List Rz,lz.flatMap Us=l.flatMap (y9 rk rs)∧lz.length=l.length
 | [],_=>⟨[],O,O⟩
 | x::l,h=>by
  obtain ⟨lz,h1,h2⟩:=Qiv l (λy hy=>h y (Lm _ hy));exact ⟨⟨(x.1,rk,rs,x.2),h x.1 Ln⟩::lz,by rw[LE,LE,h1],by simp[h2]⟩
theorem QbF:∀l:List Rz,∀u∈l.flatMap Us,u.oneCell'=true
 | [],u,h=>by cases h
 | x::l,u,h=>by
  rw[LE,Lj] at h;rcases h with h | h
  ·simp only[Us,List.mem_cons,List.not_mem_nil,or_false] at h;rcases h with rfl | rfl | rfl | rfl <;> rfl
  exact QbF l u h
theorem RzO.snoc {base:Nat}{w:World}{v:Value}{l m:List Rz}(h:w.ownsRow base 320 4 v (l.length+m.length) (l.flatMap Us++m.flatMap Us)):RzO base w v (l++m):=by
 unfold RzO;rw[Li,Lx];exact h
abbrev Ju (k d r:Value) (n:Int):LV:=[k,d,r,.int .i64 n,nS,.int .i64 0,nS,nS,nS]
structure ReI (b10:Nat) (q:Pz) (wB:World) (lf:Lf) (rn:Int) (vr:Value) (lz:List Rz) (w:World):Prop where
 st:Step [b10,q.bl] wB w
 B10:Q0 w.heap b10 170 (Ju (nS) (nS) vr rn)
 R:RzO wB.heap.size w vr lz
 F:Q0 w.heap q.bl 4 (lf.map Value.bool)
 n:lf.length=q.n
section
variable {b10:Nat} {q:Pz} {wB w w' w'':World} {lf:Lf} {rn:Int} {vr:Value} {lz:List Rz}
theorem ReI.ext (h:ReI b10 q wB lf rn vr lz w) (hs:Step [] w w'):ReI b10 q wB lf rn vr lz w':=⟨h.st.trans hs,h.B10.ext hs,Qq h.R hs,h.F.ext hs,h.n⟩
theorem ReI.cut (h:ReI b10 q wB lf rn vr lz w) (l:q.bl<wB.heap.size) (ne:b10≠q.bl) (hs:Step [q.bl] w w') {E:Lf}(G:Q0 w'.heap q.bl 4 (E.map Value.bool)) (H:E.length=q.n):ReI b10 q wB E rn vr lz w' :=
 ⟨h.st.then hs (λb hb=>.inl (by simp only[List.mem_singleton] at hb;simp[hb])),h.B10.step hs (by simpa using ne),Qj h.R hs (λb hb=>by have:=(Qk h.R b hb).1;simp only[List.mem_singleton];omega),G,H⟩
theorem ReI.app (h:ReI b10 q wB lf rn vr lz w) (l:q.bl<wB.heap.size) (T:b10<wB.heap.size) (ne:b10≠q.bl) {E:Value}{H:List Rz}{I:Int}(hs:Step (ob vr) w w') (J:RzO wB.heap.size w' E H) (G:Step [b10] w' w'')
  (S:Q0 w''.heap b10 170 (Ju (nS) (nS) E I)):ReI b10 q wB lf I E H w'':=by
 have hge:=Qk h.R;exact ⟨(h.st.then hs (λb hb=>.inr (hge b hb).1)).then G (λb hb=>.inl (by simp only[List.mem_singleton] at hb;simp[hb])),S,Qj J G (λb hb=>by have:=(Qk J b hb).1;simp only[List.mem_singleton];omega),
  (h.F.step hs (λhb=>by have:=(hge _ hb).1;omega)).step G (by simpa using ne.symm),h.n⟩
theorem ReI.rounds (h:ReI b10 q wB lf rn vr lz w) (I:b10<wB.heap.size) (ne:b10≠q.bl) {G:Int}(E:Step [b10] w w') (H:Q0 w'.heap b10 170 (Ju (nS) (nS) vr G)):ReI b10 q wB lf G vr lz w' :=
 ⟨h.st.then E (λb hb=>.inl (by simp only[List.mem_singleton] at hb;simp[hb])),H,Qj h.R E (λb hb=>by have:=(Qk h.R b hb).1;simp only[List.mem_singleton];omega),h.F.step E (by simpa using ne.symm),h.n⟩
end
set_option maxHeartbeats 8000000 in
theorem QcD {w:World}{va vm ve vf vu:Value}{a:QS}{forb unc:LI}(h:Zr [] w.heap va vm ve a) (hw:Zg a) (hf:QL [] w.heap vf forb) (gv:∀x∈forb,0≤x∧x<a.st) (qo:forb.length≤4096) (hu:QL [] w.heap vu unc) :
  QJ prog 159 [.agg #[va,.int .i64 a.st,vm,ve],vf,vu,.bool true] w λr w'=>Step [] w w'∧∃c0 c1 c2 c3 sa sm se o,r=.agg #[c0,c1,c2,c3,sa,.int .i64 (zE a forb unc).st,sm,se,o] ∧
   ZG [c0,c1,c2,c3,o]∧∀L:LN,(∀b∈L,b<w.heap.size)→Zr L w'.heap sa sm se (zE a forb unc):=by
 have qq:=hw.st0;have qr:=hw.st1;obtain ⟨n,hn⟩:∃n:Nat,a.st=n:=⟨a.st.toNat,by omega⟩;have kw:a.st.toNat=n:=by omega
 have hC:zE a forb unc=Qal a (qC a unc (n+1) (lf0 n forb)):=by unfold zE Qku;rw[kw]
 refine Zb (zE a forb unc) λSA kx=>?_;rw[kx] at hC ⊢;refine QJ.of_W func159 O ntmps159 results159 (by simp) ?_;refine Qc<|xl O<|QQ (us:=[va,.int .i64 a.st,vm,ve]) O λb4 w1 gw q0 ky=>xl O<|Qt (us:=Ju (nS) (nS) (nS) 0) O λb8 w2 hU q1 gx=>xe ?_;have hE:=gw.trans hU;have q2:=gx.lt;have q3:=gw.size;have q4:=hU.size
 refine Qc<|x (Qr (ky.ext hU) O O)<|Qb<|Qb<|xl O<|xf<|(Qd2 (h.ext hE) hw hn (hf.ext hE) gv (hu.ext hE)).mono ?_;rintro r3 w3 ⟨hV,bp,q,rfl,kz,k0,k4,q5,hP,hF⟩;refine Qe ?_;subst kz k0 k4;have hq:PzQ q:=⟨hw,hn⟩;have k5:=hE.trans hV;have za:=hV.size;have zv:=hF.lt;refine Qc<|xl O<|Qt (us:=Ju (nS) (nS) (nS) 0) O λb10 I hz k6 gy=>xe ?_;have hW:=k5.trans hz
 have z0:=hz.size;have hG:=gy.lt;have hg:b10≠q.bl:=by omega
 have hX:q.bl<I.heap.size:=by omega
 have k7:yK [b10,q.bl] I.heap bp q:=(hP.up (λb hb=>by
  simp only[List.mem_cons,List.not_mem_nil,or_false] at hb;rcases hb with rfl | rfl
  ·exact .inr k6
  exact .inl (by simp))).ext hz
 have k8:=Qhr q.n forb;have h3:∀{w'},Step [b10,q.bl] I w'→yK [] w'.heap bp q:=λhs=>(k7.st hs).up (by simp);refine Qf<|Qc<|Qb<|x (Qs (hf.ext hW) O)<|Qb<|xe ?_
 refine Qg<|QA (α:=Nat×Int×Value×List Rz) [(12,12),(25,39)] (λz=>[(25,.int .i64 z.1)]) (λz w'=>z.1≤forb.length∧ReI b10 q I (lf0 q.n forb) z.2.1 z.2.2.1 z.2.2.2 w'∧z.2.2.2.length=z.1∧(z.2.1=0∨z.2.1=1)) (λz=>forb.length - z.1) (by rfl) (0,0,nS,[]) Z
  ⟨Lk _,⟨Step.refl _ _,gy,QO _ _ _ _,hF.ext hz,k8⟩,O,.inl O⟩ ?_
 rintro ⟨k,rn,vr,lz⟩ g w5 ⟨hk,G,hY,hH⟩;simp only[] at hk G hY hH;have k9:QL [] w5.heap vf forb:=((hf.up (L':=[b10,q.bl]) (λb hb=>by
  simp only[List.mem_cons,List.not_mem_nil,or_false] at hb;exact .inr (by omega))).ext hW |>.st G.st).up (by simp)
 refine Qc<|x (QB O O)<|xe<|Qf<|QF O (λgz=>?_) (λgz=>?_)
 ·refine Qy ?_;have z2:=Qh4 (lf0 q.n forb);refine Qf<|Qc<|Qe<|Qg<|QA (α:=Nat×Nat×Int×Value×List Rz×Lf) [(13,14),(16,16),(40,71)] (λz=>[(13,.int .i64 z.2.1)])
   (λz w'=>ReI b10 q I z.2.2.2.2.2 z.2.2.1 z.2.2.2.1 z.2.2.2.2.1 w'∧z.2.1+z.1=q.n+3∧z.2.2.2.2.1.length≤4096+z.2.1*1000000∧qC q.a q.unc z.1 z.2.2.2.2.2=qC q.a q.unc (q.n+1) (lf0 q.n forb)∧Kn z.2.2.2.2.2+1≤z.1) (λz=>z.1) (by rfl)
   (q.n+1,2,rn,vr,lz,lf0 q.n forb) Z ⟨G,by simp only[];omega,by simp only[];omega,O,by simp only[];omega⟩ ?_
  rintro ⟨f,rank,rn,vr,lz,lf⟩ g w6 ⟨G,ma,hY,h4,mc⟩;simp only[] at G ma hY h4 mc;refine Qf<|Qg<|Qc<|Qb<|Qb<|Qb<|xl O<|xf<|(QeA (h3 G.st) hq G.F G.n rank).mono ?_;rintro r7 w7 ⟨h5,rs,l,hZ,hJ,z3⟩;refine Qe ?_;have J:=G.ext h5;have g0:Zl [] w7.heap r7 l.length 4 (l.flatMap (y9 rank rs)):=QT hZ (by omega) (by simp)
  have g2:(nxs q.a q.unc lf).length=l.length:=by rw[←hJ,Lb]
  have ga:=Qi8 (ul:=q.unc) hw hn G.n;rw[←hJ] at ga;refine Qf<|Qc<|Qb<|x (Qs g0 O)<|x (Q5 O O)<|xe<|Q4 O (λgb=>?_) (λgb=>?_)
  ·refine Qy ?_;have hM:l.length=0:=by have z4:(l.length:Int)=0:=gb;omega
   rw[QcF (by rw[g2];exact hM)] at h4;rw[←h4] at hC;refine Qc<|x (Qa O)<|x (Qa O)<|x (Qd J.B10 O O)<|xl O<|xf<|(Qcz J.R (by omega)).mono ?_;rintro r8 S ⟨T,z5,_,mf⟩;refine xe ?_;have hge:=Qk J.R;have gc:Step [b10,q.bl] I S:=J.st.then T (λb hb=>.inr (hge b hb).1);have ge:Q0 S.heap b10 170 (Ju (nS) (nS) vr rn):=J.B10.step T (λhb=>by have:=(hge _ hb).1;omega)
   have g3:Q0 S.heap q.bl 4 (lf.map Value.bool):=J.F.step T (λhb=>by have:=(hge _ hb).1;omega);have g4:=QG mf;have z9:=gc.size;refine Qf<|Qc<|Qb<|xl O<|xf<|(K9 (h3 gc) hq g3 J.n).mono ?_;rintro r9 E ⟨V,bD,rfl,hbD,g5,hN⟩;refine Zb (dsts q.a lf) λD hD=>?_;rw[hD] at g5 hN;have g6:QL [b10] E.heap (.slice (some ⟨bD,0,none⟩) q.n q.n) D:=by
    have h1:=g5.arr (L:=[b10]) (by simp only[List.mem_singleton];omega) (n:=q.n) (cap:=q.n) (sz:=1) (by simp[hN]) (by omega) (Lr _);unfold QL;rw[hN];exact h1
   have mg:=gc.trans V;have hz9:=V.size;have mh:=g3.ext V;refine x (Qs g6 O)<|Qb<|xe<|Qg<|QA (α:=Nat×Value×Value×LI×LI) [(17,18),(79,107)] (λz=>[(79,.int .i64 z.1)])
    (λz w'=>z.1≤D.length∧Step [b10] E w'∧Q0 w'.heap b10 170 (Ju z.2.1 z.2.2.1 vr rn)∧Qu 3 E.heap.size w' z.2.1 z.2.2.2.1∧Qu 3 E.heap.size w' z.2.2.1 z.2.2.2.2∧Dj z.2.1 z.2.2.1∧z.2.2.2.1.length≤z.1∧z.2.2.2.2.length≤z.1) (λz=>D.length - z.1) (by rfl) (0,nS,nS,[],[]) Z
    ⟨Lk _,Step.refl _ _,ge.ext V,QO _ _ _ _,QO _ _ _ _,Dj.nil' _,Lr _,Lr _⟩ ?_
   rintro ⟨i,vk,vd,lk,ld⟩ g h6 ⟨hi,Y,h7,hK,hh,hO,mj,mo⟩;simp only[] at hi h7 hK hh hO mj mo;have hz10:=Y.size;have hQ:Step [b10,q.bl] I h6:=mg.then Y (λb hb=>.inl (by simp only[List.mem_singleton] at hb;simp[hb]));have g7:Q0 h6.heap q.bl 4 (lf.map Value.bool):=mh.step Y (by simpa using hg.symm);refine Qc<|x (QB O O)<|xe ?_
   refine Qf<|QF O (λg8=>?_) (λg8=>?_)
   ·refine Qy<|Qc<|Qb<|xl O<|xf<|(UB (h3 hQ) hq g7 J.n).mono ?_;rintro r11 mq ⟨he,_,o,rfl,⟨sa,sm,se,rfl,gg⟩,gh⟩;rw[←hC] at gg;have hp:=gg [] (by simp);have hz11:=he.size
    refine Qb<|x (Ql O O)<|x (Ql O O)<|x (Qa O)<|xl O<|X5 (us:=[sa,.int .i64 SA.st,sm,se]) (h7.ext he) O (by rw[←hC];rfl) O (by simp) ⟨hp.al.one,rfl,hp.mr.one,hp.ed.one,U⟩ rfl λw12 gi ms =>
     x (Qa rfl)<|xl O<|QE (j:=8) (u:=o) ms O O (by simp) gh λw13 gj mt=>xe ?_
    have mu:b8∉[b10,q.bl]:=by simp only[List.mem_cons,List.not_mem_nil,or_false];omega
    have g9:b8∉[b10]:=by simp only[List.mem_singleton];omega
    have mv:=(((((gx.ext (hV.trans hz)).step hQ mu).ext he).step gi g9).step gj g9);refine Qc<|x (Qr mt O O)<|xl O<|Qo (us:=[vk,vd,vr,.int .i64 rn,sa,.int .i64 SA.st,sm,se,o]) mv O O O O ⟨QG hK,QG hh,g4,O,hp.al.one,O,hp.mr.one,hp.ed.one,gh,U⟩ λmw ka my=>xe ?_
    have mz:∀b∈[b10,q.bl],w.heap.size≤b:=λb hb=>by simp only[List.mem_cons,List.not_mem_nil,or_false] at hb;omega
    have m0:Step [] w mw:=((((hW.then hQ (λb hb=>.inr (mz b hb))).trans he).then1 gi (by omega)).then1 gj (by omega)).then1 ka (by omega);refine Qm ⟨[.agg [vk,vd,vr,.int .i64 rn,sa,.int .i64 SA.st,sm,se,o].toArray],⟨⟨_,O,Qw O (my.at (L:=[]) (by simp)).cells⟩,U⟩,m0,vk,vd,vr,.int .i64 rn,sa,sm,se,o,rfl,⟨QG hK,QG hh,g4,rfl,gh,U⟩,λL hL=>?_⟩
    have h1:=gg (b10::b8::L) (λb hb=>by
     simp only[List.mem_cons] at hb;rcases hb with rfl | rfl | hb
     ·omega
     ·omega
     have:=hL b hb;omega)
    have h2:=((h1.st (gi.mono (by simp))).st (gj.mono (by simp))).st (ka.mono (by simp));exact h2.up (λb hb=>.inl (by simp[hb]))
   refine Qi ?_;have h8:i<D.length:=by have h81:(i:Int)<(D.length:Int):=g8;omega
   have gk:i<lf.length:=by rw[J.n,←hN];exact h8
   have m1:lf[i]'gk=lf.getD i false:=by simp[List.getD,gk]
   refine Qf<|Qg<|Qc<|Qb<|xii (i:=i) (g6.st Y) O O h8 λa82 kb=>?_;refine Zb (D[i]'h8) λd hd=>?_;rw[hd] at kb;refine x (Qv kb O)<|x Qh<|Qe<|Qc<|Qb<|x (QH O)<|x (Qa O)<|x (Qd (h3 hQ).B O O)<|Qb<|x (Zj (i:=i) O O (by omega))<|x (v:=.bool (lf.getD i false)) ((XK (i:=i) g7 O gk).trans (by rw[m1]))<|xe<|Q3 O (λm2=>?_) (λm2=>?_)
   ·have h9:∀{v:Value} {l:LI} {w':World},Qu 3 E.heap.size w' v l→b10∉ob v:=λho hm=>by have:=(Qk ho b10 hm).1;omega
    refine Qc<|x (Qa O)<|x (Qa O)<|x (Qd h7 O O)<|Qb<|xl O<|QC (us:=[[.int .i64 i]]) O O (by decide) (by simp) ⟨rfl,rfl,U⟩ λb95 y1 hr hb95 m3=>xl rfl<|QW (m:=1) (news:=[.int .i64 i]) (L:=[]) (Qq hK hr) rfl rfl rfl (m3.at (by simp)) (by simp[Value.oneCell']) (by omega) (by have:=hr.size;omega) λhA y2 kc hR m4 =>
     x (Qa rfl)<|x (Qa O)<|xl O<|QE (j:=0) (u:=hA) ((h7.ext hr).step hR (h9 hK)) O O (by simp) (QG kc) λy3 gl ke=>xe ?_
    have m5:Qu 3 E.heap.size y2 hA (lk++[(i:Int)]):=Qu.snoc kc;have hzy1:=hr.size;have hzy2:=hR.size;have hzy3:=gl.size;have m6:Qu 3 E.heap.size y2 vd ld:=Qj (Qq hh hr) hR (λb hb hm=>hO b hm hb);have kf:Dj hA vd:=λb hb hm=>by
     rcases m4 b hb with h1 | h1
     ·exact hO b h1 hm
     have:=QR hh b hm;omega
    have kg:∀{v:Value} {l:LI},Qu 3 E.heap.size y2 v l→Qu 3 E.heap.size y3 v l:=λho=>Qj ho gl (λb hb hm=>by simp only[List.mem_singleton] at hm;subst hm;exact h9 ho hb);have kh:=kg m5;have gm:=kg m6;have m7:Step [b10] E y3:=(((Y.trans hr).then hR (λb hb=>.inr (Qk hK b hb).1))).trans' gl
    refine Qx<|x (Qa O)<|x (Qa O)<|x (Qd ke O O)<|Qb<|xl O<|QC (us:=[[.int .i64 d]]) O O (by decide) (by simp) ⟨rfl,rfl,U⟩ λb103 y4 ht hb103 m8=>xl rfl<|QW (m:=1) (news:=[.int .i64 d]) (L:=[]) (Qq gm ht) rfl rfl rfl (m8.at (by simp)) (by simp[Value.oneCell']) (by omega) (by have:=ht.size;omega) λgn y5 ki go m9 =>
     x (Qa rfl)<|x (Qa O)<|xl O<|QE (j:=1) (u:=gn) ((ke.ext ht).step go (h9 gm)) O O (by simp) (QG ki) λy6 gp pa=>xe ?_
    have kj:Qu 3 E.heap.size y5 gn (ld++[d]):=Qu.snoc ki;have kk:Qu 3 E.heap.size y5 hA (lk++[(i:Int)]):=Qj (Qq kh ht) go (λb hb hm=>kf b hb hm);have hzy4:=ht.size;refine Qx<|QN O O<|Qb<|xe ?_
    refine ⟨(i+1,hA,gn,_,_),by simp only[];omega,Z,h8,(((m7.trans ht).then go (λb hb=>.inr (Qk gm b hb).1))).trans' gp,pa,Qj kk gp (λb hb hm=>by simp only[List.mem_singleton] at hm;subst hm;exact h9 kk hb),Qj kj gp (λb hb hm=>by simp only[List.mem_singleton] at hm;subst hm;exact h9 kj hb),λb hb hm=>?_,by simp only[List.length_append,List.length_singleton];omega,by simp only[List.length_append,List.length_singleton];omega⟩
    rcases m9 b hm with h1 | h1
    ·exact kf b hb h1
    have:=QR kh b hb;omega
   refine Qi<|Qx<|QN O O<|Qb<|xe ?_;exact ⟨(i+1,vk,vd,lk,ld),by simp only[];omega,Z,h8,Y,h7,hK,hh,hO,by simp only[];omega,by simp only[];omega⟩
  refine Qi ?_;have hM:¬l.length=0:=λe=>gb (by show (l.length:Int)=0;omega);have kn:(nxs q.a q.unc lf).length≠0:=by rw[g2];exact hM
  have pc:=QeK kn;refine Exists.elim (Nat.exists_eq_succ_of_ne_zero (show f≠0 by omega)) λf' pd=>?_;subst pd;rw[QcE kn,←hJ] at h4;rw[←hJ] at pc;refine Exists.elim (Qiv (rk:=(rank:Int)) (rs:=rs) l (λx hx=>by have:=ga x hx;omega)) λln hv=>?_;have hz67:=h5.size;refine Qf<|Qc<|Qb<|x (Qs g0 O)<|Qb<|xe ?_
  refine Qg<|QA (α:=Nat) [(16,16),(51,62)] (λz=>[(51,.int .i64 z)]) (λz w'=>z≤l.length∧Step [q.bl] w7 w'∧ReI b10 q I (((l.take z).map (·.1)).foldl cut lf) rn vr lz w') (λz=>l.length - z) (by rfl) 0 Z ⟨Lk _,Step.refl _ _,J⟩ ?_;rintro j g S ⟨hj,T,H⟩;have hH:∀b∈ob r7,b≠q.bl:=λb hb e=>by have:=(Qk hZ b hb).1;have:=G.st.size;omega
  have pf:RmO w6.heap.size S r7 rank rs l:=Qj hZ T (λb hb hm=>hH b hb (by simpa using hm));have ko:Zl [q.bl] S.heap r7 l.length 4 (l.flatMap (y9 rank rs)):=QT pf (by omega) (λb hb hm=>hH b hb (by simpa using hm));refine Qc<|x (QB O O)<|xe<|Qf<|QF O (λgq=>?_) (λgq=>?_)
  ·refine Qy ?_;have pg:l.length≤j:=by have hS:¬(j:Int)<(l.length:Int):=gq;omega
   rw[Ll pg] at H;obtain ⟨ad,cap7,ph,_,pj⟩:∃ad cap,r7=.slice (some ad) l.length cap∧l.length≤cap∧At [q.bl] S.heap ad (l.flatMap (y9 rank rs)):=by
    rcases ko.2.2 with ⟨_,h0⟩ | h1
    ·exact absurd h0 hM
    exact h1
   have hlnl:ln.length*4=l.length*4:=by rw[hv.2]
   refine Qc<|x (Qa O)<|x (Qa O)<|x (Qd H.B10 O O)<|Qb<|xl O<|QW (m:=l.length) (news:=l.flatMap (y9 rank rs)) (L:=[q.bl]) H.R O ph (by rw[←hv.1,zI,hv.2]) pj (by rw[←hv.1];exact QbF ln) (by omega) H.st.size λgr pm kp kq hn22 =>
    x (Qa O)<|x (Qa O)<|xl O<|QE (j:=2) (u:=gr) (H.B10.step kq (λhb=>by have:=(Qk H.R _ hb).1;omega)) O O (by simp) (QG kp) λw23 pn po=>xe ?_
   have pp:RzO I.heap.size pm gr (lz++ln):=RzO.snoc (by rw[hv.1,hv.2];exact kp);have kr:=H.app hX hG hg kq pp pn po;refine Qx<|Qb<|x (Qa O)<|xl O<|QE (j:=3) (u:=.int .i64 rank) kr.B10 O O (by simp) rfl λw24 pt pu=>xe ?_;have pw:=kr.rounds hG hg pt pu;have pz:(-9223372036854775808:Int)≤(rank:Int)+1:=by omega
   have p0:(rank:Int)+1≤9223372036854775807:=by omega
   refine Qx<|Qb<|x (X4 O O ⟨pz,p0⟩)<|Qe ?_;exact ⟨(f',rank+1,(rank:Int),gr,lz++ln,(l.map (·.1)).foldl cut lf),by simp only[];omega,Z,pw,by simp only[];omega,by simp only[List.length_append];omega,h4,by simp only[];omega⟩
  refine Qi ?_;have ha:j<l.length:=by have hS:(j:Int)<(l.length:Int):=gq;omega
  have p1:l.take (j+1)=l.take j++[l[j]'ha]:=Le ha;have kt:((l.take (j+1)).map (·.1)).foldl cut lf=cut (((l.take j).map (·.1)).foldl cut lf) (l[j]'ha).1:=by rw[p1,Lt,Mk];rfl
  have p2:=ga (l[j]'ha).1 (LG (Lh ha));refine Zb (l[j]'ha) λy hy=>?_;rw[hy] at kt p2;have p3:y.1=(y.1.toNat:Int):=by omega
  refine Qf<|Qg<|Qc<|xig (g:=y9 rank rs) (i:=j) (Qbu rank rs) ko O O ha λa53 hS=>?_;rw[hy] at hS;refine x (QI hS O O)<|xl O<|Qt (us:=[.int .i64 0,.int .i64 0,.int .i64 0,.int .i64 0]) O λb16 E V p4 gs=>xl O<|Qo (us:=y9 rank rs y) gs O O O O ⟨O,O,O,O,U⟩ λh6 Y gs=>xe ?_;have ku:Step [] S h6:=V.then1 Y p4;have gt:=H.ext ku;have p5:=H.n
  refine QV (Step [] h6) [(0,true),(1,true),(2,true),(3,true),(4,true),(5,true),(6,true),(7,false)] mixed (by rfl) (by kernel_rfl) (Step.drew _ _) ?_;refine p (λ_=>Qp)<|p (λ_=>QH O)<|p (λ_=>Qa O)<|pq (λ_ hc=>Qd ((h3 gt.st).B.ext hc) O O)<|p (λ_=>Qa O)<|pq (λ_ hc=>Qd (gs.ext hc) O O) <|
   p (λ_=>Zj (i:=y.1.toNat) O (congrArg (Value.int .i64) p3) (by omega))<|pkl (hl:=by kernel_rfl)<|UC (i:=y.1.toNat) (gt.F.ext (Step.drew _ _)) O O (by omega) λmq he p6=>pe ?_
  refine Qx<|QN O O<|Qb<|xe<|⟨j+1,by omega,Z,ha,((T.trans ku).trans (Step.drew _ _)).trans' he,?_⟩;rw[kt];exact (gt.ext (Step.drew _ _)).cut hX hg he p6 (by rw[Qb6];exact p5)
 refine Qi ?_;have hT:k<forb.length:=by have gu:(k:Int)<(forb.length:Int):=gz;omega
 have p7:=gv _ (Lh hT);refine Zb (forb[k]'hT) λy hy=>?_;rw[hy] at p7;refine Qf<|Qg<|Qc<|xii (i:=k) k9 O O hT λa27 gu=>?_;rw[hy] at gu;refine x (Qv gu O)<|Qe<|Qc<|x (Qa O)<|x (Qa O)<|x (Qd G.B10 O O)<|Qb<|x (QD ⟨O,O,O,O,U⟩)<|xl O<|QC (us:=[[.int .i64 y,.int .i64 1,.int .i64 1,.int .i64 (-1)]]) O O (by decide) (by simp) ⟨rfl,rfl,U⟩ λb34 w6 p8 hb34 p9=>?_
 have hB:=G.ext p8;refine xl rfl<|QW (m:=1) (news:=[.int .i64 y,.int .i64 1,.int .i64 1,.int .i64 (-1)]) (L:=[]) hB.R O O O (p9.at (by simp)) (by simp[Value.oneCell']) (by omega) hB.st.size λv7 w7 kv h5 hn7 =>
  x (Qa rfl)<|x (Qa O)<|xl O<|QE (j:=2) (u:=v7) (hB.B10.step h5 (λhb=>by have:=(Qk hB.R _ hb).1;omega)) O O (by simp) (QG kv) λS T ge=>xe ?_
 have qc:RzO I.heap.size w7 v7 (lz++[⟨(y,1,1,-1),by simp only[];omega⟩]):=RzO.snoc kv;have H:=hB.app hX hG hg h5 qc T ge;refine Qx<|x (Qa O)<|xl O<|QE (j:=3) (u:=.int .i64 1) H.B10 O O (by simp) rfl λE V qf=>xe ?_;have ql:=H.rounds hG hg V qf;refine Qx<|QN O O<|Qb<|xe ?_
 exact ⟨(k+1,1,v7,_),by simp only[];omega,Z,hT,ql,by simp only[List.length_append,List.length_singleton];omega,.inr O⟩
instance:Bw prog 170 (Ju (nS) (nS) (nS) 0) [(0,3),(3,1),(4,4),(8,1)]:=⟨by kernel_rfl,by decide⟩
theorem QiR {c:Zv}{pl:QS}{ps:List (LI)}{l:List (LI)}:∀r∈spF c pl ps l,0≤r.st∧r.st<(l.length:Int):=λr E=>by
 unfold spF at E;obtain ⟨⟨t,i⟩,hp,h1⟩:=ME.1 E;have hi:=List.snd_lt_add_of_mem_zipIdx hp;simp only[Nat.zero_add] at hi;have h2:r.st=(i:Int):=by
  simp only[] at h1;unfold rsn at h1;split at h1
  ·cases h1;rfl
  split at h1
  ·cases h1;rfl
  cases h1
 omega
theorem Qeb {c:Zv}(h:Yv c=0):Zg (spc c).a∧(∀x∈fbs (spc c),0≤x∧x<(spc c).a.st)∧(fbs (spc c)).length≤4096∧(spc c).fb.length≤4096∧Jm c.ev=0:=by
 unfold Yv at h;by_cases h1:Zf c≠0
 ·rw[if_pos h1] at h;exact absurd h h1
 rw[if_neg h1] at h;have I:Zf c=0:=Ls.1 h1;have E:=ZO I;by_cases h2:Vh (auts c.co)≠0
 ·rw[if_pos h2] at h;exact absurd h h2
 rw[if_neg h2] at h;cases hs:sync (auts c.co) with
 | none=>rw[hs] at h;cases h
 | some z =>
  rw[hs] at h;simp only[] at h;by_cases h3:Vh (auts c.co++auts c.rq)≠0
  ·rw[if_pos h3] at h;exact absurd h h3
  rw[if_neg h3] at h;cases G:sync (auts c.co++auts c.rq) with
  | none=>rw[G] at h;cases h
  | some y =>
   have H:∀a∈auts c.co++auts c.rq,Zg a:=λa ha=>by
    rcases Lj.1 ha with ha | ha
    ·exact Yk E.co a ha
    exact Yk E.rq a ha
   have hsp:=(Xh H (A:=y.1) (Q:=y.2) G).1;have he:=Qaq (c:=c) (pl:=z.1) (ps:=z.2) (sa:=y.1) (ts:=y.2) hs G;have hl:=Qbr c z.1 z.2 y.2;have S:=hsp.le;rw[he];unfold fbs;refine ⟨hsp.okay H,λx hx=>?_,by rw[Lb];simp only[];omega,by simp only[];omega,E.e0⟩;obtain ⟨r,J,rfl⟩:=Ly.1 hx;have:=QiR r J;rw[hsp.st];exact this
theorem st4 (r:Rsn):(Zy r).length=4:=rfl
set_option maxHeartbeats 4000000 in
theorem Qaj {L:LN}{w:World}{c:CL}(h0:Zu L w.heap c) (hB:Kb w 4096) :
  QJ prog 79 [c.val] w λr w'=>Step [] w w'∧∃us c0 V Y c3 sa sm se o,r=.tuple #[.agg us.toArray,.agg #[c0,V,Y,c3,sa,.int .i64 (if Yv c.cel=0 then (suA c.cel).st else 0),sm,se,o],.int .i64 (Yv c.cel)]∧us.length=8∧ZG us∧ZG [c0,V,Y,c3,sa,sm,se,o] ∧
   (Yv c.cel≠0→sa=nS∧sm=nS∧se=nS)∧(Yv c.cel=0→∀L:LN,(∀b∈L,b<w.heap.size)→Zr L w'.heap sa sm se (suA c.cel)):=by
 have h:=h0.up (L':=[]) (by simp);have hn:suA c.cel=zE (spc c.cel).a (fbs (spc c.cel)) (unc c.cel.ev):=rfl;have hQ:c.cel.ev=c.ev:=rfl;have ho:=Qeb (c:=c.cel);refine Zb (suA c.cel) λSA hR=>?_;rw[hR] at hn ⊢;have gv:=Kw (h.ext (Step.refl [] w)) hB;refine Zb (Yv c.cel) λE hE=>?_;rw[hE] at ho ⊢;refine Zb (spc c.cel) λS hS=>?_;rw[hS] at ho hn;rw[hQ] at ho hn
 refine QJ.of_W func79 O ntmps79 results79 (by simp) ?_;refine Qc<|xl O<|QQ (us:=c.cells) O λb1 w1 hC gw hD=>xl O<|Qt (us:=[nS,.int .i64 0,nS,nS,nS,nS,nS,nS]) O λb2 w2 hp gx hq=>xl O<|Qt (us:=Ju (nS) (nS) (nS) 0) O λb3 w3 hh gy hs=>Qe ?_;have h3:=(hC.trans hp).trans hh;have gz:=hC.size;have g0:=hp.size;have g2:=hh.size;have g3:=hq.lt;have g4:=hs.lt
 have hsp:=Kw (h.ext h3) (hB.ext h3);rw[hE,hS] at hsp;refine Qc<|x (Qr ((hD.ext hp).ext hh) O O)<|xl O<|xf<|hsp.mono ?_;rintro r4 w4 ⟨hi,v,rfl,⟨us,rfl,h4,h5⟩,hF⟩;have g5:=hi.size;refine Qb<|x (Ql O O)<|x (Ql O O)<|xl O<|Qt (us:=[nS,.int .i64 0,nS,nS,nS,nS,nS,nS]) O λb5 w5 hT hV hj=>xl O<|Qo (us:=us) hj O O h4 O h5 λw6 hW hj=>Qe ?_;have J:Step [] w4 w6:=hT.then1 hW hV
 have g6:=J.size;have ht:=(h3.trans hi).trans J;have hG:=(hq.ext (hh.trans hi)).ext J;have hH:=(hs.ext hi).ext J;have g7:=hj.lt;refine Qf<|Qc<|Qb<|x (Za O O)<|xe<|Q4 rfl (λhu=>?_) (λhu=>?_)
 ·refine Qc<|x (ZU [] U)<|x (ZU [] U)<|Qb<|xl O<|Qo (us:=[nS,.int .i64 0,nS,nS,nS,nS,nS,nS]) hG O O O O ⟨O,O,O,O,O,O,O,O,U⟩ λw7 G hX =>
   xl rfl<|Qo (us:=Ju (nS) (nS) (nS) 0) (hH.step G (by simp only[List.mem_singleton];omega)) O O O O ⟨O,O,O,O,O,O,O,O,O,U⟩ λw8 hv hY=>Qe<|Qm ⟨[.agg [nS,.int .i64 0,nS,nS,nS,nS,nS,nS].toArray,.agg (Ju (nS) (nS) (nS) 0).toArray,.int .i64 E],⟨⟨_,O,Qw O ((hX.step hv (by simp only[List.mem_singleton];omega)).at (L:=[]) (by simp)).cells⟩,⟨_,rfl,Qw rfl (hY.at (L:=[]) (by simp)).cells⟩,rfl,U⟩,(ht.then1 G (by omega)).then1 hv (by omega),[nS,.int .i64 0,nS,nS,nS,nS,nS,nS],nS,nS,nS,.int .i64 0,nS,nS,nS,nS,by rw[if_neg hu];rfl,O,⟨O,O,O,O,O,O,O,O,U⟩,⟨O,O,O,O,O,O,O,O,U⟩,λ_=>⟨O,O,O⟩,λe=>absurd e hu⟩
 have hw:E=0:=Ls.1 hu;obtain ⟨hZ,ga,gb,g8,hI⟩:=ho hw;obtain ⟨va,vm,ve,v1,v2,v3,v4,cos,rqs,gc,_,_,ge⟩:=hF hw;have gg:us=[va,.int .i64 S.a.st,vm,ve,v1,v2,v3,v4]:=by
  have h1:=congrArg (λv=>match v with | Value.agg a=>a.toList | _=>[]) gc
  simpa using h1
 subst gg;have hJ:=(ge [] (by simp));have gh:=hJ.1.ext J;have hK:=hJ.2.2.2.2.ext J;refine Qi<|Qc<|Qe<|Qf<|Qc<|x (Qa O)<|x (Qd hj O O)<|x (Qs hK O)<|Qb<|xe ?_
 refine Qg<|QA (α:=Nat×Value) [(7,7),(9,9),(24,33)] (λz=>[(7,z.2),(24,.int .i64 z.1)]) (λz w'=>z.1≤S.fb.length∧Step [] w6 w'∧Qu 3 w6.heap.size w' z.2 ((S.fb.take z.1).map (·.st))) (λz=>S.fb.length - z.1) (by rfl) (0,nS) ⟨O,O,U⟩ ⟨Lk _,Step.refl _ _,QO _ _ _ _⟩ ?_;rintro ⟨k,vf⟩ g w7 ⟨hk,G,T⟩;simp only[] at hk T;refine Qc<|x (QB O O)<|xe<|Qf<|QF O (λh6=>?_) (λh6=>?_)
 ·refine Qy ?_;have gi:S.fb.length≤k:=by have hy:¬(k:Int)<(S.fb.length:Int):=h6;omega
  rw[Ll gi] at T;have T:Qu 3 w6.heap.size w7 vf (fbs S):=T;have gj:=ht.trans G;have gk:=G.size;refine Qc<|x (Qa O)<|x (Qd ((hD.ext (hp.trans hh)).ext ((hi.trans J).trans G)) O O)<|xl O<|xf<|(Qdr (h.ev.ext gj)).mono ?_;rintro g9 I ⟨ha,vu,rfl,hU⟩;rw[if_pos hI] at hU;refine Qb<|x (Ql O O)<|x (Ql O O)<|x Qh<|Qe<|Qf<|Qc<|Qb<|x (Za O O)<|xe ?_
  refine Q4 O (λgl=>absurd hI gl) (λ_=>?_);refine Qi ?_;have h4:(unc c.ev).length≤1099511627776:=LP (KY _ c.ev 0) h.ev.arr.le;have he:=G.trans ha;have gm:=gh.ext he;have hz:Step [] I { I with drawn:=I.drawn+1 }:=Step.drew _ _
  have hM:=hj.ext he;have hN:b5∉[b2]:=by simp only[List.mem_singleton];omega
  have ka:=he.size;refine Qf<|QV (Step [b2] I) [(0,true),(1,true),(2,true),(3,true),(4,true),(5,false),(6,false),(7,false),(8,true)] mixed (by rfl) (by kernel_rfl) (Step.drew _ _) ?_;refine pq (λ_ hc=>Qr (hM.step hc hN) O O)<|p (λ_=>Qa O)<|pq (λ_ hc=>Yw (us:=[va,.int .i64 S.a.st,vm,ve]) (hM.step hc hN) O O O) <|
   p (λ_=>Qp)<|p (λ_=>Qp)<|pk<|xf<|(QcD (gm.ext hz) hZ (((Qu.ints (L:=[]) T (by omega) (by simp)).ext ha).ext hz) ga gb ((Qu.ints (L:=[]) hU h4 (by simp)).ext hz)).mono ?_
  rintro kb kc ⟨gn,c0,V,Y,c3,sa,sm,se,o,rfl,H,h7⟩;have hf:=hz.trans gn;have ke:=hf.size;refine ⟨hf.any,?_⟩;have hO:zE S.a (fbs S) (unc c.ev)=SA:=hn.symm;rw[hO] at h7;have hg:=h7 [] (by simp);refine pk<|Qo (us:=[va,.int .i64 S.a.st,vm,ve,v1,v2,v3,v4]) ((hG.ext he).ext hf) O O O O h5 λkf h2 hq=>⟨hf.any.trans' h2,?_⟩
  refine pkl (hl:=by kernel_rfl)<|Qo (us:=[c0,V,Y,c3,sa,.int .i64 SA.st,sm,se,o]) (((hH.ext he).ext hf).step h2 (by simp only[List.mem_singleton];omega)) O (by rw[←hO];rfl) O O ⟨H.1,H.2.1,H.2.2.1,H.2.2.2.1,hg.al.one,O,hg.mr.one,hg.ed.one,H.2.2.2.2.1,U⟩ λkg h8 hs=>p (λ_=>Qh)<|pe ?_;have go:b2∉[b3]:=by simp only[List.mem_singleton];omega
  refine Qm ⟨[.agg [va,.int .i64 S.a.st,vm,ve,v1,v2,v3,v4].toArray,.agg [c0,V,Y,c3,sa,.int .i64 SA.st,sm,se,o].toArray,.int .i64 0],⟨⟨_,O,Qw O ((hq.step h8 go).at (L:=[]) (by simp)).cells⟩,⟨_,rfl,Qw rfl (hs.at (L:=[]) (by simp)).cells⟩,rfl,U⟩,
   (((ht.trans he).trans hf).then1 h2 (by omega)).then1 h8 (by omega),_,c0,V,Y,c3,sa,sm,se,o,by rw[hw,if_pos rfl];rfl,O,h5,⟨H.1,H.2.1,H.2.2.1,H.2.2.2.1,hg.al.one,hg.mr.one,hg.ed.one,H.2.2.2.2.1,U⟩,λe=>absurd hw e,λ_ L hL=>?_⟩
  have kh:=ht.size;have h1:=h7 (b2::b3::L) (λb hb=>by
   have ki:({ I with drawn:=I.drawn+1 }:World).heap.size=I.heap.size:=rfl
   simp only[List.mem_cons] at hb;rcases hb with rfl | rfl | hb
   ·omega
   ·omega
   have:=hL b hb;omega)
  exact ((h1.st (h2.mono (by simp))).st (h8.mono (by simp))).up (λb hb=>.inl (by simp[hb]))
 refine Qi ?_;have hm:k<S.fb.length:=by have hy:(k:Int)<(S.fb.length:Int):=h6;omega
 have hP:S.fb.take (k+1)=S.fb.take k++[S.fb[k]'hm]:=Le hm;have kj:((S.fb.take k).map (·.st)).length=k:=by rw[Lb,Lv];omega
 refine Zb (S.fb[k]'hm) λr hr=>?_;rw[hr] at hP;refine Qf<|Qg<|Qc<|xig (g:=Zy) (i:=k) st4 (hK.ext G) O O hm λkk hy=>?_;rw[hr] at hy;refine x (QI hy O O)<|xl O<|Qt (us:=[.int .i64 0,.int .i64 0,.int .i64 0,.int .i64 0]) O λb9 w8 hv gp h9=>xl O<|Qo (us:=Zy r) h9 O O O O ⟨O,O,O,O,U⟩ λw9 gq h9=>xe ?_;have hA:Step [] w7 w9:=hv.then1 gq gp;have kn:=hA.size;have gk:=G.size
 refine Qx<|Qb<|x (Qa O)<|x (Qd h9 O O)<|xl O<|QC (us:=[[.int .i64 r.st]]) O O (by decide) (by simp) ⟨rfl,rfl,U⟩ λko I ha kp gr =>
  xl rfl<|QW (m:=1) (news:=[.int .i64 r.st]) (L:=[]) (Qq T (hA.trans ha)) O O O (gr.at (by simp)) (by simp[Value.oneCell']) (by omega) (by have:=ha.size;omega) λgs kq gt gu kr=>Qe<|Qx<|QN O O<|Qb<|xe ?_
 refine ⟨(k+1,gs),by simp only[];omega,⟨O,O,U⟩,hm,((G.trans hA).trans ha).then gu (λb hb=>.inr (Qk T b hb).1),?_⟩;simp only[];rw[hP,Lt];exact Qu.snoc gt
theorem Kc {L:LN}{w:World}{c:CL}(h0:Zu L w.heap c) (hf:Kb w 4096) :
  QJ prog 32 [c.val] w λr w'=>Step [] w w'∧∃sa sm se,r=.tuple #[.agg #[sa,.int .i64 (if Yv c.cel=0 then (suA c.cel).st else 0),sm,se],.int .i64 (suE c.cel)]∧ZG [sa,sm,se] ∧
   (suE c.cel≠0→sa=nS∧sm=nS∧se=nS)∧(suE c.cel=0→∀L:LN,(∀b∈L,b<w.heap.size)→Zr L w'.heap sa sm se (suA c.cel)):=by
 have h:=h0.up (L':=[]) (by simp);have hg:suE c.cel=Yv c.cel:=rfl;rw[hg];refine QJ.of_W func32 O ntmps32 results32 (by simp) ?_;refine Qc<|xl O<|QQ (us:=c.cells) O λb1 w1 Y hp hh=>xl O<|Qt (us:=[nS,.int .i64 0,nS,nS]) O λb2 w2 I hq G=>Qe ?_;have J:=Y.trans I;have hr:=Y.size;have hs:=I.size;have ht:=G.lt
 refine Qc<|x (Qr (hh.ext I) O O)<|xl O<|xf<|(Qaj (h.ext J) (hf.ext J)).mono ?_;rintro r3 w3 ⟨S,us,c0,c1,c2,c3,sa,sm,se,o,rfl,hi,hj,E,hk,hl⟩;refine Zb (if Yv c.cel=0 then (suA c.cel).st else 0) λN hN=>?_
 rw[hN];have hu:=S.size;refine Qb<|x (Ql O O)<|x (Ql O O)<|x (Ql O O)<|xl O<|Qt (us:=[nS,.int .i64 0,nS,nS,nS,nS,nS,nS]) O λb4 w4 ha hv T=>xl O<|Qt (us:=Ju (nS) (nS) (nS) 0) O λb5 w5 V hw hm =>
  xl rfl<|Qo (us:=us) (T.ext V) O O hi O hj λw6 hc hy=>xl O<|Qo (us:=[c0,c1,c2,c3,sa,.int .i64 N,sm,se,o]) (hm.step hc (by have:=T.lt;simp only[List.mem_singleton];omega)) O O O O ⟨E.1,E.2.1,E.2.2.1,E.2.2.2.1,E.2.2.2.2.1,O,E.2.2.2.2.2.1,E.2.2.2.2.2.2.1,E.2.2.2.2.2.2.2.1,U⟩ λw7 hn ho=>Qe ?_
 have hz:=T.lt;have h2:=ha.size;have h3:=V.size;have H:Step [] w3 w7:=((ha.trans V).then1 hc (by omega)).then1 hn (by omega);have h4:=H.size
 refine Qc<|x (Qa O)<|x (Yw (us:=[sa,.int .i64 N,sm,se]) ho O O O)<|Qb<|xl O<|Qo (us:=[sa,.int .i64 N,sm,se]) ((G.ext S).ext H) O O O O ⟨E.2.2.2.2.1,O,E.2.2.2.2.2.1,E.2.2.2.2.2.2.1,U⟩ λw8 he G=>Qe<|Qm ⟨[.agg [sa,.int .i64 N,sm,se].toArray,.int .i64 (Yv c.cel)],⟨⟨_,O,Qw O (G.at (L:=[]) (by simp)).cells⟩,rfl,U⟩,((J.trans S).trans H).then1 he (by omega),sa,sm,se,rfl,⟨E.2.2.2.2.1,E.2.2.2.2.2.1,E.2.2.2.2.2.2.1,U⟩,hk,λe L hL=>?_⟩
 have h1:=hl e (b2::L) (λb hb=>by
  simp only[List.mem_cons] at hb;rcases hb with rfl | hb
  ·omega
  have:=hL b hb;omega)
 exact ((h1.ext H).st (he.mono (by simp))).up (λb hb=>.inl (by simp[hb]))
theorem Qhq {L:LN}{H:Array Obj}{b T:Nat}{n:Int}(h:Q0 H b T [.int .i64 n]) (hb:b∉L):QL L H (.slice (some ⟨b,0,none⟩) 1 1) [n] :=
 h.arr hb (n:=1) (cap:=1) (sz:=1) O (by omega) (Lr _)
set_option maxHeartbeats 4000000 in
theorem QeZ {L:LN}{w:World}{c:CL}{q:MV}(h0:Zu L w.heap c) (h9:QL L w.heap q.v q.co) :
  QJ prog 18 [c.val,.agg #[.int .i64 q.kd,.int .i64 q.ix,q.v]] w λr w'=>Step [] w w'∧∃us,r=.tuple #[.agg us.toArray,.int .i64 (mcE c.cel q.m)]∧us.length=5∧ZG us∧(mcE c.cel q.m≠0→us=Z9)∧(mcE c.cel q.m=0→Qdx w.heap.size w'.heap (.agg us.toArray) (mcC c.cel q.m)):=by
 have h:=h0.up (L':=[]) (by simp);have hm:=h9.up (L':=[]) (by simp);have T:mcE c.cel q.m=if mdE c.cel q.m≠0 then mdE c.cel q.m else Vo c.cel (prt q.m):=rfl
 have hA:mcC c.cel q.m=KH c.cel (prt q.m):=rfl;rw[hA];refine Zb (mcE c.cel q.m) λE hE=>?_;rw[hE] at T ⊢;refine QJ.of_W func18 O ntmps18 results18 (by simp) ?_;refine Qc<|xl O<|QQ (us:=c.cells) O λb2 w1 hv hS hh=>xl O<|QQ (us:=Zm q) O λb3 w2 ha hT hw=>xl O<|Qt (us:=Z9) O λb4 w3 J hU hy=>Qe ?_;have hi:=(hv.trans ha).trans J;have hV:=hv.size;have hW:=ha.size;have hX:=J.size
 have hY:=hy.lt;refine Qf<|Qc<|x (Qr ((hh.ext ha).ext J) O O)<|x (Qr (hw.ext J) O O)<|xl O<|xf<|(QcW (h.ext hi) (hm.ext hi)).mono ?_;rintro r4 w4 ⟨rfl,V⟩;refine Qe ?_;have hz:=hi.trans V;have hZ:=V.size;have hB:=((hh.ext ha).ext J).ext V;have hj:=(hw.ext J).ext V;have h2:=hy.ext V;refine Qc<|Qb<|x (Za O O)<|xe<|Q4 rfl (λhc=>?_) (λhc=>?_)
 ·rw[if_pos hc] at T;subst T;refine Qc<|x (QD U)<|Qb<|xl O<|Qo (us:=Z9) h2 O O O O ⟨O,O,O,O,O,U⟩ λw5 hC hD=>Qe ?_;exact Qm ⟨[.agg Z9.toArray,.int .i64 (mdE c.cel q.m)],⟨⟨_,O,Qw O (hD.at (L:=[]) (by simp)).cells⟩,rfl,U⟩,hz.then1 hC (by omega),Z9,rfl,rfl,⟨rfl,rfl,rfl,rfl,rfl,U⟩,λ_=>rfl,λh0=>absurd h0 hc⟩
 rw[if_neg hc] at T;subst T;refine Qi<|Qc<|x (Qa O)<|x (Qd hj O O)<|x (QD ⟨hm.cells,U⟩)<|xl O<|Qt (us:=[nS,nS,nS,nS]) O λb7 w6 hF hG hH=>xl O<|Qo (us:=[q.v,nS,nS,nS]) hH O O O O ⟨hm.one,O,O,O,U⟩ λw7 hI h3 =>
  xe ?_
 have hk:Step [] w4 w7:=hF.then1 hI hG;have ga:=hk.size;have gb:=h3.lt;refine Qc<|x (Qa O)<|x (Qd (hj.ext hk) O O)<|xl O<|QC (us:=[[.int .i64 q.ix]]) O O (by decide) (by simp) ⟨rfl,rfl,U⟩ λI w8 hl gc hJ =>
  Qe ?_
 have he:=hk.trans hl;have hK:=hz.trans he;have ge:=hl.size;have hn:=h3.ext hl;have hM:w.heap.size≤b7:=by omega
 refine QU (α:=Value×Value×Value) [(22,33)] (λ_=>[]) (λz w'=>Step [b7] w8 w'∧Q0 w'.heap b7 95 [q.v,z.1,z.2.1,z.2.2]∧QL [] w'.heap z.1 (prt q.m).rq∧QL [] w'.heap z.2.1 (prt q.m).ex∧QL [] w'.heap z.2.2 (prt q.m).cs) (by rfl) ?_ ?_
 ·have ho:∀{w':World},Step [b7] w8 w'→QL [] w'.heap (.slice (some ⟨I,0,none⟩) 1 1) [q.ix]:=λhs=>Qhq (hJ.step hs (by simp only[List.mem_singleton];omega)) (by simp);refine Qc<|x (Qa O)<|x (Qd (hj.ext he) O O)<|xe<|Qg<|Qc<|x (Q5 O O)<|Qe<|Q4 O (λhp=>?_) (λhp=>?_)
  ·have Y:q.kd=1:=hp;refine Qx<|Qb<|x (Qa O)<|xl O<|QE (j:=1) (u:=.slice (some ⟨I,0,none⟩) 1 1) hn O O (by simp) rfl λS G H=>xe ?_;refine ⟨(.slice (some ⟨I,0,none⟩) 1 1,nS,nS),U,G,H,?_,?_,?_⟩
   ·show QL _ _ _ (if q.kd=1 then [q.ix] else []);rw[if_pos Y];exact ho G
   ·show QL _ _ _ (if q.kd=2 then [q.ix] else []);rw[if_neg (by omega)];exact Ji _ _
   show QL _ _ _ (if q.kd≠1∧q.kd≠2 then [q.ix] else []);rw[if_neg (by omega)];exact Ji _ _
  have Y:¬q.kd=1:=hp;refine Qc<|x (Q5 O O)<|Qe<|Q4 O (λhq=>?_) (λhq=>?_)
  ·have hf:q.kd=2:=hq;refine Qx<|Qb<|x (Qa O)<|xl O<|QE (j:=2) (u:=.slice (some ⟨I,0,none⟩) 1 1) hn O O (by simp) rfl λS G H=>xe ?_;refine ⟨(nS,.slice (some ⟨I,0,none⟩) 1 1,nS),U,G,H,?_,?_,?_⟩
   ·show QL _ _ _ (if q.kd=1 then [q.ix] else []);rw[if_neg Y];exact Ji _ _
   ·show QL _ _ _ (if q.kd=2 then [q.ix] else []);rw[if_pos hf];exact ho G
   show QL _ _ _ (if q.kd≠1∧q.kd≠2 then [q.ix] else []);rw[if_neg (by omega)];exact Ji _ _
  have hf:¬q.kd=2:=hq;refine Qx<|Qb<|x (Qa O)<|xl O<|QE (j:=3) (u:=.slice (some ⟨I,0,none⟩) 1 1) hn O O (by simp) rfl λS G H=>xe ?_;refine ⟨(nS,nS,.slice (some ⟨I,0,none⟩) 1 1),U,G,H,?_,?_,?_⟩
  ·show QL _ _ _ (if q.kd=1 then [q.ix] else []);rw[if_neg Y];exact Ji _ _
  ·show QL _ _ _ (if q.kd=2 then [q.ix] else []);rw[if_neg hf];exact Ji _ _
  show QL _ _ _ (if q.kd≠1∧q.kd≠2 then [q.ix] else []);rw[if_pos ⟨Y,hf⟩];exact ho G
 rintro ⟨v1,v2,v3⟩ g S ⟨G,H,h4,h5,h6⟩;simp only[] at H h4 h5 h6;have hg:Step [] w S:=hK.then1 G hM;have gg:=G.size;have hN:Q0 S.heap b2 47 c.cells:=(hB.ext he).step G (by have:=hh.lt;simp only[List.mem_singleton];omega);have hO:Q0 S.heap b4 47 Z9:=(h2.ext he).step G (by simp only[List.mem_singleton];omega)
 refine Qc<|x (Qr hN O O)<|x (Qr H O O)<|xl O<|xf<|(U9 (p:=prt q.m) (h.ext hg) (hm.ext hg) h4 h5 h6).mono ?_;rintro gh gi ⟨ht,us,rfl,hu,h7,hP,hQ⟩;have gj:=ht.size
 refine x (Ql O O)<|x (Ql O O)<|xl O<|Qo (us:=us) (hO.ext ht) O O hu O h7 λgk h8 hR=>Qe<|Qm ⟨[.agg us.toArray,.int .i64 (Vo c.cel (prt q.m))],⟨⟨_,O,Qw hu (hR.at (L:=[]) (by simp)).cells⟩,rfl,U⟩,(hg.trans ht).then1 h8 (by omega),us,rfl,hu,h7,hP,λe=>?_⟩;obtain ⟨cl,e1,e2,e3⟩:=hQ e;refine ⟨cl,e1,e2,λL hL=>?_⟩;have h1:=e3 (b4::L) (λb hb=>by
  rcases Lc.1 hb with rfl | hb
  ·omega
  have:=hL b hb;have:=hg.size;omega)
 exact (h1.st (h8.mono (by simp))).up (λb hb=>.inl (by simp[hb]))
set_option maxHeartbeats 4000000 in
theorem Qhm {L:LN}{w:World}{c:CL}{q:MV}(h0:Zu L w.heap c) (hn:QL L w.heap q.v q.co) (ho:Kb w 4096) :
  QJ prog 19 [c.val,.agg #[.int .i64 q.kd,.int .i64 q.ix,q.v]] w λr w'=>Step [] w w'∧∃sa st sm se,r=.tuple #[.agg #[sa,.int .i64 st,sm,se],.int .i64 (msE c.cel q.m)]∧ZG [sa,sm,se] ∧
   (msE c.cel q.m=0→st=(VO c.cel q.m).st∧∀L:LN,(∀b∈L,b<w.heap.size)→Zr L w'.heap sa sm se (VO c.cel q.m))∧(msE c.cel q.m≠0→st=0∧sa=nS∧sm=nS∧se=nS):=by
 have h:=h0.up (L':=[]) (by simp);have hm:=hn.up (L':=[]) (by simp);have G:msE c.cel q.m=if mcE c.cel q.m≠0 then mcE c.cel q.m else suE (mcC c.cel q.m):=rfl
 have hp:VO c.cel q.m=suA (mcC c.cel q.m):=rfl;rw[hp];refine Zb (msE c.cel q.m) λE hE=>?_;rw[hE] at G ⊢;refine QJ.of_W func19 O ntmps19 results19 (by simp) ?_;refine Qc<|xl O<|QQ (us:=c.cells) O λb2 w1 hg hF hq=>xl O<|QQ (us:=Zm q) O λb3 w2 ha hG hs=>xl O<|Qt (us:=[nS,.int .i64 0,nS,nS]) O λb4 w3 J hH hh=>Qe ?_;have hc:=(hg.trans ha).trans J;have hI:=hg.size
 have hJ:=ha.size;have hK:=J.size;have hM:=hh.lt;refine Qc<|x (Qr ((hq.ext ha).ext J) O O)<|x (Qr (hs.ext J) O O)<|xl O<|xf<|(QeZ (h.ext hc) (hm.ext hc)).mono ?_;rintro r4 w4 ⟨he,us,rfl,hi,ht,hO,hu⟩;have hP:=he.size;have hw:=hc.trans he;refine Qb<|x (Ql O O)<|x (Ql O O)<|xl O<|Qt (us:=Z9) O λb6 w5 hy hz h2=>xl O<|Qo (us:=us) h2 O O hi O ht λS h3 h4 =>
  Qe ?_
 have T:Step [] w4 S:=hy.then1 h3 hz;have V:=hw.trans T;have hQ:=T.size;have hj:=(hh.ext he).ext T;refine Qf<|Qc<|Qb<|x (Za O O)<|xe<|Q4 rfl (λH=>?_) (λH=>?_)
 ·rw[if_pos H] at G;subst G;refine Qc<|x (QD U)<|Qb<|xl O<|Qo (us:=[nS,.int .i64 0,nS,nS]) hj O O O O ⟨O,O,O,O,U⟩ λw7 h5 h6=>Qe ?_;exact Qm ⟨[.agg [nS,.int .i64 0,nS,nS].toArray,.int .i64 (mcE c.cel q.m)],⟨⟨_,O,Qw O (h6.at (L:=[]) (by simp)).cells⟩,rfl,U⟩,V.then1 h5 (by omega),nS,0,nS,nS,rfl,⟨rfl,rfl,rfl,U⟩,λh0=>absurd h0 H,λ_=>⟨rfl,rfl,rfl,rfl⟩⟩
 rw[if_neg H] at G;subst G;obtain ⟨cl,hv,h7,h8⟩:=hu (Ls.1 H);have h9:Zu [] S.heap cl:=(h8 [] (by simp)).ext T;have hk:=Kc h9 (ho.ext V);rw[h7] at hk;have hA:∀R,QJ prog 32 [cl.val] S R→QJ prog 32 [.agg us.toArray] S R:=λR hR=>by rw[hv];exact hR
 have hsup':=hA _ hk;refine Qi<|Qc<|x (Qr h4 O hi)<|xl O<|xf<|hsup'.mono ?_;rintro r8 w8 ⟨hf,sa,sm,se,rfl,Y,hB,hC⟩;refine Zb (if Yv (mcC c.cel q.m)=0 then (suA (mcC c.cel q.m)).st else 0) λN I=>?_
 rw[I];have hS:=hf.size;refine x (Ql O O)<|x (Ql O O)<|xl O<|Qo (us:=[sa,.int .i64 N,sm,se]) (hj.ext hf) O O O O ⟨Y.1,O,Y.2.1,Y.2.2.1,U⟩ λw9 hl hD=>Qe<|Qm ⟨[.agg [sa,.int .i64 N,sm,se].toArray,.int .i64 (suE (mcC c.cel q.m))],⟨⟨_,O,Qw O (hD.at (L:=[]) (by simp)).cells⟩,rfl,U⟩,(V.trans hf).then1 hl (by omega),sa,N,sm,se,rfl,Y,λe=>⟨?_,λL hL=>?_⟩,λe=>?_⟩
 ·have e':Yv (mcC c.cel q.m)=0:=e;rw[if_pos e'] at I;exact I.symm
 ·have h1:=hC e (b4::L) (λb hb=>by
   rcases Lc.1 hb with rfl | hb
   ·omega
   have:=hL b hb;have:=V.size;omega)
  exact (h1.st (hl.mono (by simp))).up (λb hb=>.inl (by simp[hb]))
 have e':¬Yv (mcC c.cel q.m)=0:=e;rw[if_neg e'] at I;exact ⟨I.symm,hB e⟩
theorem Y4.app3 {α:Type}{g:α→LV}{sz T:Nat}{ps:α→List (Value×Nat×Nat×LV)}{base:Nat}{E G:World}{v H:Value}{l:List α}{q:α}(h:Y4 g sz T ps base E v l)
  (hq:∀t∈ps q,ZJ base (ob v) E.heap t.1 t.2.1 t.2.2.1 t.2.2.2)
  (V:G.ownsRow base T sz H (l.length+1) (l.flatMap g++g q)) (I:Step (ob v) E G) (J:∀b∈ob H,b∈ob v∨E.heap.size≤b):Y4 g sz T ps base G H (l++[q]):=by
 refine ⟨?_,λd hd t S=>?_⟩
 ·rw[Li,Lx];simpa using V
 rcases Lj.1 hd with hd | hd
 ·exact (h.each d hd t S).app I J
 simp only[List.mem_singleton] at hd;subst hd;exact (hq t S).app I J
abbrev Qk4 (p:AV):List (Value×Nat×Nat×LV):=[(p.va,p.a.al.length,1,p.a.al.map (.int .i64)),(p.vm,p.a.mr.length,1,p.a.mr.map (.int .i64)),(p.ve,p.a.ed.length,3,p.a.ed.flatMap Qz)]
abbrev AvP (base:Nat) (w:World) (v:Value) (l:List AV):Prop:=Y4 Q8 4 58 Qk4 base w v l
theorem AvP.auts {base:Nat}{w:World}{v:Value}{l:List AV}{L:LN}(h:AvP base w v l) (G:l.length≤1099511627776) (E:∀b∈L,b<base):YS L w.heap v l :=
 ⟨QT h.own G (λb hb H=>by have:=(Qk h.own b hb).1;have:=E b H;omega),λp hp=>⟨h.each p hp (p.va,p.a.al.length,1,p.a.al.map (.int .i64)) (by simp) L (λb hb=>.inl (E b hb)),h.each p hp (p.vm,p.a.mr.length,1,p.a.mr.map (.int .i64)) (by simp) L (λb hb=>.inl (E b hb)),h.each p hp (p.ve,p.a.ed.length,3,p.a.ed.flatMap Qz) (by simp) L (λb hb=>.inl (E b hb))⟩⟩
def Qlc (N:Nat) (H:Array Obj) (v:Value) (l:List QS):Prop:=∃ps:List AV,ps.map (·.a)=l∧∀L:LN,(∀b∈L,b<N)→YS L H v ps
theorem yC {p:AV}(h1:p.va.oneCell'=true) (h2:p.vm.oneCell'=true) (h3:p.ve.oneCell'=true):∀u∈Q8 p,u.oneCell'=true:=by
 intro u hu;simp only[Q8,List.mem_cons,List.not_mem_nil,or_false] at hu;rcases hu with rfl | rfl | rfl | rfl
 ·exact h1
 ·rfl
 ·exact h2
 exact h3
theorem Zr.parts {base N:Nat}{av:LN}{H:Array Obj}{p:AV}(h:∀L:LN,(∀b∈L,b<N)→Zr L H p.va p.vm p.ve p.a) (hb:base≤N) (G:∀b∈av,b<N):∀t∈Qk4 p,ZJ base av H t.1 t.2.1 t.2.2.1 t.2.2.2:=by
 intro t I;simp only[List.mem_cons,List.not_mem_nil,or_false] at I;rcases I with rfl | rfl | rfl
 ·exact ZJ.of_lt (λL E=>(h L E).al) hb G
 ·exact ZJ.of_lt (λL E=>(h L E).mr) hb G
 exact ZJ.of_lt (λL E=>(h L E).ed) hb G
theorem QeT {c:Zv}(h:V5 c):(mods c).length≤96:=by have:=yd h 3 (by omega);rw[jr] at this;omega
theorem Qbv:∀(l:LN) (b:Nat),l.foldl (λl b=>l &&& (65535 ^^^ b)) b≤b
 | [],_=>Lr _
 | _::l,_=>LP (Qbv l _) Nat.and_le_left
theorem Qay {c:Zv}:∀i∈rem c,0≤i∧i<(c.co.length:Int):=by
 intro i hi;unfold rem setK at hi;obtain ⟨j,E,rfl⟩:=Ly.1 hi;have h1:=(LS.1 E).2;have h2:=of_decide_eq_true h1;refine ⟨by omega,?_⟩;refine Decidable.byContradiction λI=>?_;have G:c.co.length≤j:=by omega
 have J:zP c≤2 ^ c.co.length - 1:=Qbv _ _;have hp:0<2 ^ c.co.length:=Nat.pow_pos (by decide);have S:2 ^ c.co.length≤2 ^ j:=Nat.pow_le_pow_right (by decide) G;have H:zP c / 2 ^ j=0:=Nat.div_eq_of_lt (by omega);rw[H] at h2;cases h2
theorem Qak (c:Zv):Xw c=if Zf c≠0 then Zf c else msL c (mods c):=rfl
theorem UG (c:Zv) (m:Jy) (l:List Jy):msL c (m::l)=if msE c m≠0 then msE c m else msL c l:=rfl
abbrev coA (c:Zv) (i:Int):QS:=(c.co.getD i.toNat ⟨.empty,⟨[],0,[],[]⟩⟩).a
set_option maxRecDepth 4096 in
set_option maxHeartbeats 8000000 in
theorem Xu {L:LN}{w:World}{c:CL}(I:Zu L w.heap c) (g5:Kb w 4096) :
  QJ prog 22 [c.val] w λr w'=>Step [] w w'∧∃v,r=.tuple #[v,.int .i64 (Xw c.cel)]∧(Xw c.cel≠0→v=nS)∧(Xw c.cel=0→v.oneCell'=true∧Qlc w.heap.size w'.heap v (VY c.cel)):=by
 have h:=I.up (L':=[]) (by simp);have ho:=Qak c.cel;have g6:VY c.cel=(mods c.cel).map (VO c.cel)++(rem c.cel).map (coA c.cel):=rfl;refine Zb (Xw c.cel) λE hE=>?_;rw[hE] at ho ⊢;refine QJ.of_W func22 O ntmps22 results22 (by simp) ?_;refine Qc<|xl O<|QQ (us:=c.cells) O λb1 w1 hG mh gb=>x Qh<|Qe<|Qc<|x (Qr gb O O)<|xl O<|xf<|(qi (h.ext hG)).mono ?_
 rintro r2 T ⟨hH,vM,lM,rfl,hM,mj,g7⟩;have gc:=hG.trans hH;have mo:=hG.size;have mq:=hH.size;refine Qb<|x (Ql O O)<|x (Ql O O)<|x Qh<|Qe<|Qf<|Qc<|Qb<|x (Za O O)<|xe<|Q4 rfl (λhp=>?_) (λhp=>?_)
 ·rw[if_pos hp] at ho;subst ho;refine Qc<|Qb<|x Qh<|Qe ?_;exact Qm ⟨[nS,.int .i64 (Zf c.cel)],⟨O,O,U⟩,gc,nS,O,λ_=>O,λI=>absurd I hp⟩
 rw[if_neg hp] at ho;have h4:=Ls.1 hp;have g8:V5 c.cel:=(ZO h4).sr;have h6:=g7 h4;have ms:lM.length≤96:=by have:=QeT g8;rw[←h6,Lb] at this;exact this
 have ge:Zl [] T.heap vM lM.length 3 (lM.flatMap Zm):=hM.arr (by omega) (by simp);have mt:(rem c.cel).length≤8:=YW _ _;have gg:=gb.ext hH;refine Qi<|Qc<|Qe<|Qf<|Qc<|Qb<|x (Qs ge O)<|Qb<|xe ?_
 refine Qg<|QA (α:=Nat×Value×List AV) [(2,3),(6,6),(8,10),(25,42)] (λz=>[(6,z.2.1),(25,.int .i64 z.1)]) (λz w'=>z.1≤lM.length∧Step [] T w'∧AvP T.heap.size w' z.2.1 z.2.2∧z.2.2.map (·.a)=(lM.take z.1).map (λq=>VO c.cel q.m)∧msL c.cel ((lM.drop z.1).map MV.m)=E) (λz=>lM.length - z.1) (by rfl) (0,nS,[]) ⟨O,O,U⟩
  ⟨Lk _,Step.refl _ _,Y4.nil,O,by rw[List.drop_zero,h6];exact ho.symm⟩ ?_
 rintro ⟨k,v,l⟩ g w3 ⟨hk,V,Y,hr,G⟩;simp only[] at hk Y hr G;have h7:=gc.trans V;have mu:=V.size;have mv:l.length=k:=by have:=congrArg List.length hr;rw[Lb,Lb,Lv] at this;omega
 have hI:=gg.ext V;have h3:=h.ext h7;refine Qc<|x (QB O O)<|xe<|Qf<|QF O (λhJ=>?_) (λhJ=>?_)
 ·refine Qy ?_;have gh:lM.length≤k:=by have hK:¬(k:Int)<(lM.length:Int):=hJ;omega
  rw[Ll gh] at hr;rw[Lo gh] at G;have gi:E=0:=G.symm;have g9:l.map (·.a)=(mods c.cel).map (VO c.cel):=by rw[hr,←h6,MH];rfl
  refine Qc<|x (Qr hI O O)<|xl O<|xf<|(Vg h3).mono ?_;rintro r4 w4 ⟨h8,vR,rfl,_,ka⟩;have hR:=ka h4;have kb:=h7.trans h8;have mw:=h8.size;refine Qb<|x (Ql O O)<|x (Ql O O)<|x Qh<|Qe<|Qf<|Qc<|Qb<|x (Za O O)<|xe<|Q4 O (λgj=>?_) (λgj=>?_)
  ·exact absurd h4 gj
  refine Qi ?_;have kc:QL [] w4.heap vR (rem c.cel):=Qu.ints hR (by omega) (by simp);refine Qf<|Qc<|Qb<|x (Qs kc O)<|Qb<|xe ?_
  refine Qg<|QA (α:=Nat×Value×List AV) [(6,6),(13,14),(53,78)] (λz=>[(6,z.2.1),(53,.int .i64 z.1)]) (λz w'=>z.1≤(rem c.cel).length∧Step (ob v) w4 w'∧AvP T.heap.size w' z.2.1 z.2.2∧z.2.2.map (·.a)=(mods c.cel).map (VO c.cel)++((rem c.cel).take z.1).map (coA c.cel)∧∀b∈ob z.2.1,b∈ob v∨w4.heap.size≤b) (λz=>(rem c.cel).length - z.1) (by rfl) (0,v,l) ⟨O,O,U⟩
   ⟨Lk _,Step.refl _ _,Y4.ext Y h8,by simp only[List.take_zero,List.map_nil,List.append_nil];exact g9,λb hb=>.inl hb⟩ ?_
  rintro ⟨j,vj,lj⟩ g w5 ⟨hj,hs,ha,hu,hN⟩;simp only[] at hj ha hu hN;have hO:=Qk Y.own;have gk:=Qk ha.own;have gl:Step [] w w5:=kb.then hs (λb hb=>.inr (by have:=(hO b hb).1;omega));have h5:=h.ext gl;have my:=hs.size;have mz:lj.length≤200:=by
   have e1:=congrArg List.length hu;rw[Lb,Li,Lb,Lb,Lv,←h6,Lb] at e1;omega
  have ke:Q0 w5.heap b1 47 c.cells:=(hI.ext h8).step hs (λhb=>by have:=(hO b1 hb).1;have:=gg.lt;omega);have kf:QL [] w5.heap vR (rem c.cel):=(((Qu.ints hR (by omega) (L:=ob v) (λb hb=>(hO b hb).2)).st hs)).up (by simp);refine Qc<|x (QB O O)<|xe<|Qf<|QF O (λhP=>?_) (λhP=>?_)
  ·refine Qy ?_;have kg:(rem c.cel).length≤j:=by have hK:¬(j:Int)<((rem c.cel).length:Int):=hP;omega
   rw[Ll kg,←g6] at hu;refine Qc<|Qb<|x Qh<|Qe ?_;exact Qm ⟨[vj,.int .i64 0],⟨O,O,U⟩,gl,vj,by rw[gi];rfl,λI=>absurd gi I,λ_=>⟨QG ha.own,lj,hu,λL hL=>AvP.auts ha (by omega) (λb hb=>by have:=hL b hb;omega)⟩⟩
  have he:j<(rem c.cel).length:=by have hK:(j:Int)<((rem c.cel).length:Int):=hP;omega
  have gm:(rem c.cel).take (j+1)=(rem c.cel).take j++[(rem c.cel)[j]'he]:=Le he;have gn:=Qay _ (Lh he);refine Qi<|Qf<|Qg<|Qc<|xii (i:=j) kf O O he λm0 go=>?_;refine Zb ((rem c.cel)[j]'he) λi hi=>?_;rw[hi] at go gm gn;have kh:c.cel.co.length=c.co.length:=Lb ..;rw[kh] at gn;have ki:i=(i.toNat:Int):=by omega
  have hv:i.toNat<c.co.length:=by omega
  have hw:=Lh hv;have gp:coA c.cel i=(c.co[i.toNat]'hv).p.a:=by
   show ((c.co.map IV.it).getD i.toNat _).a=_;simp[List.getD,hv,IV.it]
  refine x (Qv go O)<|Qe<|Qc<|x (Qa O)<|x (Qd ke O O)<|Qb<|xig (g:=Zc) (i:=i.toNat) Yz h5.co.arr O (congrArg (Value.int .i64) ki) hv λm1 gq=>?_;refine Zb (c.co[i.toNat]'hv) λq hq=>?_;rw[hq] at gq hw gp;have J:=h5.co.each q hw;refine x (Q7 O)<|x (QI (us:=[q.p.va,.int .i64 q.p.a.st,q.p.vm,q.p.ve]) (gq.from 1) O O)<|xl O<|Qt (us:=[nS,.int .i64 0,nS,nS]) O λgr w6 kj kk hf =>
   xl rfl<|Qo (us:=[q.p.va,.int .i64 q.p.a.st,q.p.vm,q.p.ve]) hf O O O O ⟨J.al.one,O,J.mr.one,J.ed.one,U⟩ λH kn hf=>xe ?_
  have hQ:Step [] w5 H:=kj.then1 kn kk;have hg:Step [] H { H with drawn:=H.drawn+1 }:=Step.drew _ _
  have m2:=hQ.size;have hB:gr∉ob vj:=λhm=>by have:=(gk gr hm).2;omega
  have hS:=J.ext hQ;refine QV (Step (ob vj) H) [(0,true),(1,true),(2,true),(4,true),(5,true),(6,true),(7,true),(9,true),(10,true),(3,false),(8,false),(11,false),(12,true),(13,false),(14,false),(15,true)] mixed (by rfl) (by kernel_rfl) (Step.drew _ _) ?_;refine p (λ_=>Qp)<|p (λ_=>Qa O)<|pq (λ_ hc=>Qd (hf.step hc hB) O O)<|p (λ_=>Qa O)<|pq (λ_ hc=>Qd (hf.step hc hB) O O) <|
   p (λ_=>Qa O)<|pq (λ_ hc=>Qd (hf.step hc hB) O O)<|p (λ_=>Qa O)<|pq (λ_ hc=>Qd (hf.step hc hB) O O) <|
   pk<|xf<|(ZW (hS.al.ext hg)).mono ?_
  rintro r8 w8 ⟨hh,hT⟩;refine ⟨(hg.trans hh).any,?_⟩;refine pk<|xf<|(ZW ((hS.mr.ext hg).ext hh)).mono ?_;rintro r9 w9 ⟨hy,hU⟩;refine ⟨((hg.trans hh).trans hy).any,?_⟩;refine pk<|xf<|(Ko (((hS.ed.ext hg).ext hh).ext hy)).mono ?_;rintro hz m3 ⟨hV,hW⟩;have hC:=((hg.trans hh).trans hy).trans hV;refine ⟨hC.any,?_⟩
  refine p (λ_=>QD ⟨Q2 hT,O,Q2 hU,Q2 hW,U⟩)<|pk<|QC (us:=[Q8 ⟨r8,r9,hz,q.p.a⟩]) O O (by decide) (by simp) ⟨rfl,rfl,U⟩ λm4 m5 hl m6 ko=>⟨(hC.trans hl).any,?_⟩;have hD:=(hQ.trans hC).trans hl;have m7:=hD.size;have m8:=hh.size;have m9:=hy.size;have pa:({ H with drawn:=H.drawn+1 }:World).heap.size=H.heap.size:=rfl
  refine pk<|QW (news:=Q8 ⟨r8,r9,hz,q.p.a⟩) (L:=[]) (Qq ha.own hD) O O O (ko.at (by simp)) (yC (p:=⟨r8,r9,hz,q.p.a⟩) (QG hT) (QG hU) (QG hW)) (by omega) (by omega) λgs kp kq hX gt=>⟨(hC.trans hl).any.trans' hX,?_⟩;refine p (λ_=>Qh)<|pe ?_;have hY:∀b∈ob vj,b<H.heap.size:=λb hb=>by have:=(gk b hb).2;omega
  have kr:AvP T.heap.size kp gs (lj++[⟨r8,r9,hz,q.p.a⟩]):=Y4.app3 (Y4.ext ha hD) (λt ht=>by
   simp only[List.mem_cons,List.not_mem_nil,or_false] at ht;rcases ht with rfl | rfl | rfl
   ·exact ZJ.of_own (Qq (Qq (Qq hT hy) hV) hl) J.al.le (by omega) (λb hb=>by have:=hY b hb;omega)
   ·exact ZJ.of_own (Qq (Qq hU hV) hl) J.mr.le (by omega) (λb hb=>by have:=hY b hb;omega)
   exact ZJ.of_own (Qq hW hl) J.ed.le (by omega) (λb hb=>by have:=hY b hb;omega)) kq hX gt
  refine Qx<|QN O O<|Qb<|xe<|⟨(j+1,gs,lj++[⟨r8,r9,hz,q.p.a⟩]),by simp only[];omega,⟨O,O,U⟩,he,(hs.trans hD).then hX hN,kr,?_,λb hb=>?_⟩
  ·simp only[];rw[gm,Lt,hu,Lt,Lz,Mm,Mm,gp]
  rcases gt b hb with h9 | h9
  ·exact hN b h9
  exact .inr (by omega)
 have S:k<lM.length:=by have hK:(k:Int)<(lM.length:Int):=hJ;omega
 have gu:lM.take (k+1)=lM.take k++[lM[k]'S]:=Le S;have hw:=Lh S;rw[LK S,LO,UG] at G;have kt:=ZP.ext hM V;have ku:=ge.ext V;refine Qi<|Qf<|Qg<|Qc<|xig (g:=Zm) (i:=k) UF ku O O S λpc gv=>?_;refine Zb (lM[k]'S) λq hq=>?_;rw[hq] at gv gu hw G
 have gw:QL [] w3.heap q.v q.co:=kt.each q hw [] (by simp);refine x (QI gv O O)<|xl O<|Qt (us:=[.int .i64 0,.int .i64 0,nS]) O λb8 pd kv kw hZ=>xl O<|Qo (us:=Zm q) hZ O O O O ⟨O,O,gw.one,U⟩ λgx kx hZ =>
  xe ?_
 have h1:Step [] w3 gx:=kv.then1 kx kw;have gy:=h7.trans h1;have pf:=h1.size;refine Qc<|x (Qr (hI.ext h1) O O)<|x (Qr hZ O O)<|xl O<|xf<|(Qhm (q:=q) (h.ext gy) (gw.ext h1) (g5.ext gy)).mono ?_;rintro pg ky ⟨kz,sa,st,sm,se,rfl,hn,k0,_⟩
 refine Qb<|x (Ql O O)<|x (Ql O O)<|xl O<|Qt (us:=[nS,.int .i64 0,nS,nS]) O λb9 ph k4 k5 ga=>xl O<|Qo (us:=[sa,.int .i64 st,sm,se]) ga O O O O ⟨hn.1,O,hn.2.1,hn.2.2.1,U⟩ λk6 k7 ga =>
  Qe ?_
 have gz:Step [] ky k6:=k4.then1 k7 k5;have g0:=(h1.trans kz).trans gz;refine Qf<|Qc<|Qb<|x (Za O O)<|xe<|Q4 rfl (λh2=>?_) (λh2=>?_)
 ·rw[if_pos h2] at G;subst G;refine Qc<|Qb<|x Qh<|Qe ?_;exact Qm ⟨[nS,.int .i64 (msE c.cel q.m)],⟨O,O,U⟩,h7.trans g0,nS,O,λ_=>O,λI=>absurd I h2⟩
 rw[if_neg h2] at G;obtain ⟨k8,hA⟩:=k0 (Ls.1 h2);subst k8;have hge:=Qk Y.own;refine Qi<|Qx<|Qb<|x (Qr ga O O)<|xl O<|QC (us:=[Q8 ⟨sa,sm,se,VO c.cel q.m⟩]) O O (by decide) (by simp) ⟨rfl,rfl,U⟩ λpj pm g2 pn k9=>?_;have hF:=g0.trans g2;have po:=hF.size
 refine xl rfl<|QW (news:=Q8 ⟨sa,sm,se,VO c.cel q.m⟩) (L:=[]) (Qq Y.own hF) O O O (k9.at (by simp)) (yC (p:=⟨sa,sm,se,VO c.cel q.m⟩) hn.1 hn.2.1 hn.2.2.1) (by omega) (by omega) λg3 ma mc g4 mf =>
  Qe ?_
 have mg:AvP T.heap.size ma g3 (l++[⟨sa,sm,se,VO c.cel q.m⟩]):=Y4.app3 (Y4.ext Y hF) (Zr.parts (N:=gx.heap.size) (p:=⟨sa,sm,se,VO c.cel q.m⟩) (λL hL=>((hA L hL).ext gz).ext g2) (by omega) (λb hb=>by have:=(hge b hb).2;omega)) mc g4 mf;refine Qx<|QN O O<|Qb<|xe ?_
 refine ⟨(k+1,g3,l++[⟨sa,sm,se,VO c.cel q.m⟩]),by simp only[];omega,⟨O,O,U⟩,S,(V.trans hF).then g4 (λb hb=>.inr (hge b hb).1),mg,?_,G⟩;simp only[];rw[gu,Lt,hr,Lt];rfl
section
variable {s:QS} {l:List KB} {n:Nat}
end
section
variable {s:QS} {l:List KB} {n:Nat}
end
section
variable {s:QS} {l:List KB} {n:Nat}
end
section
variable {p s:QS} {pairs:List (LI)}
end
section
variable {s:QS} {l:List KB} {n:Nat}
end
section
variable {s:QS} {l:List KB} {n:Nat} {nm:LI}
end
def cnF (ord:LI) (j:Nat) (e:Ed):Ed:=((j:Int),e.2.1,(ord.idxOf e.2.2:Int))
def cnR (a:QS) (ord:LI) (j:Nat):List Ed:=(Zz a.ed (ZD ord j)).map (cnF ord j)
theorem jz {l r:LI}{j:Nat}(h:j<l.length):ZD (l++r) j=ZD l j:=by unfold ZD;rw[Mt];exact U7 h
structure NuI (st:Int) (ord num:LI):Prop where
 nd:ord.Nodup
 bd:∀s∈ord,0≤s∧s<st
 nl:num.length=st.toNat
 nu:∀k,0≤k→k<st→ZD num k=if k∈ord then (ord.idxOf k:Int) else -1
theorem Qao {st:Int}{i:Nat}{c:Cs}(h:NuI st c.ord c.num) {e:Ed}(G:0≤e.2.2) (h1:e.2.2<st):NuI st (Zd i c e).ord (Zd i c e).num∧(∃r,(Zd i c e).ord=c.ord++r)∧(Zd i c e).mk'=c.mk'∧(Zd i c e).ed=c.ed++[cnF (Zd i c e).ord i e]∧e.2.2∈(Zd i c e).ord:=by
 have E:=h.nu e.2.2 G h1;have I:e.2.2.toNat<c.num.length:=by rw[h.nl];omega
 unfold Zd;by_cases hm:e.2.2∈c.ord
 ·rw[if_pos hm] at E;rw[if_neg (by rw[E];omega)];refine ⟨h,⟨[],by simp⟩,rfl,?_,hm⟩;simp only[cnF];rw[E]
 rw[if_neg hm] at E;rw[if_pos (by rw[E];decide)];have H:(c.ord++[e.2.2]).idxOf e.2.2=c.ord.length:=by rw[Mh,if_neg hm];simp
 refine ⟨⟨UD h.nd hm,λs hs=>?_,by simp[h.nl],λk J k1=>?_⟩,⟨[e.2.2],rfl⟩,rfl,?_,by simp⟩
 ·rcases Lj.1 hs with hs | hs
  ·exact h.bd s hs
  simp only[List.mem_singleton] at hs;subst hs;exact ⟨G,h1⟩
 ·simp only[];by_cases ek:k=e.2.2
  ·subst ek;rw[if_pos (by simp),H];unfold ZD;simp[List.getD,List.getElem?_set_self I]
  have S:e.2.2.toNat≠k.toNat:=by omega
  have e1:ZD (c.num.set e.2.2.toNat c.ord.length) k=ZD c.num k:=by unfold ZD;simp[List.getD,List.getElem?_set_ne S]
  rw[e1,h.nu k J k1];by_cases hk:k∈c.ord
  ·rw[if_pos hk,if_pos (LJ _ hk),Mh,if_pos hk]
  rw[if_neg hk,if_neg (λT=>by
   rcases Lj.1 T with h2 | h2
   ·exact hk h2
   simp only[List.mem_singleton] at h2;exact ek h2)]
 simp only[cnF];rw[H]
theorem Up {st:Int}{i:Nat}:∀(E:List Ed) (c:Cs),NuI st c.ord c.num→(∀e∈E,0≤e.2.2∧e.2.2<st)→NuI st (E.foldl (Zd i) c).ord (E.foldl (Zd i) c).num∧(∃r,(E.foldl (Zd i) c).ord=c.ord++r)∧(E.foldl (Zd i) c).mk'=c.mk' ∧
  (E.foldl (Zd i) c).ed=c.ed++E.map (cnF (E.foldl (Zd i) c).ord i)∧∀e∈E,e.2.2∈(E.foldl (Zd i) c).ord
 | [],c,h,_=>⟨h,⟨[],by simp⟩,rfl,by simp,λe he=>by cases he⟩
 | e::E,c,h,hb=>by
  obtain ⟨G,H⟩:=hb e Ln;obtain ⟨h1,⟨I,h2⟩,h3,J,h5⟩:=Qao (i:=i) h G H;obtain ⟨k1,⟨r2,k2⟩,k3,S,T⟩:=Up (i:=i) E (Zd i c e) h1 (λd hd=>hb d (Lm _ hd));rw[LL];refine ⟨k1,⟨I++r2,by rw[k2,h2,Lz]⟩,k3.trans h3,?_,λd hd=>?_⟩
  ·rw[S,J,Lz,LO];have:cnF (Zd i c e).ord i e=cnF (E.foldl (Zd i) (Zd i c e)).ord i e:=by
    unfold cnF;rw[k2,Mh,if_pos h5]
   rw[this];rfl
  rcases Lc.1 hd with rfl | hd
  ·rw[k2];exact LJ _ h5
  exact T d hd
structure CnG (a:QS) (i:Nat) (c:Cs):Prop where
 nu:NuI a.st c.ord c.num
 le:i≤c.ord.length
 hd:ZD c.ord 0=0∧0<c.ord.length
 mk2:c.mk'=((List.range' 0 i).filter λj:Nat=>decide (ZD c.ord j∈a.mr)).map λj:Nat=>(j:Int)
 ed:c.ed=(List.range' 0 i).flatMap (cnR a c.ord)
 cl:∀j,j<i→∀e∈Zz a.ed (ZD c.ord j),e.2.2∈c.ord
theorem Qh5 {a:QS}{ord r:LI}{j:Nat}(E:j<ord.length) (hc:∀e∈Zz a.ed (ZD ord j),e.2.2∈ord):cnR a (ord++r) j=cnR a ord j:=by
 unfold cnR;rw[jz E];refine List.map_congr_left λe he=>?_;unfold cnF;rw[Mh,if_pos (hc e he)]
theorem CnG.next {a:QS}(S:Zg a) {i:Nat}{c:Cs}(h:CnG a i c) (hi:i<c.ord.length):CnG a (i+1) (V1 a i c):=by
 unfold V1;have H:(ZK a i c).ord=c.ord:=by unfold ZK;split <;> rfl
 have T:(ZK a i c).num=c.num:=by unfold ZK;split <;> rfl
 have V:(ZK a i c).ed=c.ed:=by unfold ZK;split <;> rfl
 obtain ⟨k1,⟨r,k2⟩,k3,G,I⟩:=Up (st:=a.st) (i:=i) (Zz a.ed (ZD c.ord i)) (ZK a i c) (by rw[H,T];exact h.nu) (λe he=>(S.ed e (Zx he).1).2.2.2);generalize (Zz a.ed (ZD c.ord i)).foldl (Zd i) (ZK a i c)=d at k1 k2 k3 G I;rw[H] at k2;rw[V] at G;have pre:∀j:Nat,j≤i→ZD d.ord j=ZD c.ord j:=λj E=>by rw[k2];exact jz (by omega)
 refine ⟨k1,by rw[k2];simp;omega,⟨by have:=pre 0 (by omega);rw[show ((0:Nat):Int)=0 from rfl] at this;rw[this];exact h.hd.1,by rw[k2];simp;omega⟩,?_,?_,λj E=>?_⟩
 ·rw[k3,Mc,L2,Lt,LM];have e1:((List.range' 0 i).filter λj:Nat=>decide (ZD d.ord j∈a.mr))=(List.range' 0 i).filter λj:Nat=>decide (ZD c.ord j∈a.mr):=by
   refine List.filter_congr λj E=>?_;rw[L5] at E;rw[pre j (by omega)]
  rw[e1];unfold ZK;by_cases hm:ZD c.ord i∈a.mr
  ·rw[if_pos hm];simp only[];rw[Mf,if_pos (by rw[pre i (Lr _)];exact decide_eq_true hm),M2,h.mk2];rfl
  rw[if_neg hm];rw[Mf,if_neg (by rw[pre i (Lr _),decide_eq_false hm];simp),M2,h.mk2];simp
 ·rw[G,Mc,Lx,LM,h.ed];congr 1
  ·refine Xr λj E=>?_;rw[L5] at E;rw[k2];exact (Qh5 (by omega) (h.cl j (by omega))).symm
  simp only[List.flatMap_cons,List.flatMap_nil,List.append_nil];unfold cnR;rw[pre i (Lr _)]
 by_cases e:j=i
 ·subst e;rw[pre j (Lr _)];exact I
 intro Y J;rw[pre j (by omega)] at J;rw[k2];exact LJ _ (h.cl j (by omega) Y J)
theorem zo {a:QS}(G:Zg a):∀(f i:Nat) (c:Cs),CnG a i c→∃E,CnG a E (YQ a f i c)∧((YQ a f i c).ord.length=E∨E=i+f)
 | 0,i,c,h=>⟨i,h,.inr O⟩
 | f+1,i,c,h=>by
  rw[YQ];split
  ·rename_i hi;obtain ⟨E,h1,h2⟩:=zo G f (i+1) _ (h.next G hi);exact ⟨E,h1,by omega⟩
  exact ⟨i,h,.inl (by have:=h.le;omega)⟩
structure CnP (a:QS) (ord:LI):Prop where
 nd:ord.Nodup
 bd:∀s∈ord,0≤s∧s<a.st
 hd:ZD ord 0=0∧0<ord.length
 al:(Y2 a).al=a.al
 st:(Y2 a).st=(ord.length:Int)
 mk2:(Y2 a).mr=((List.range' 0 ord.length).filter λj:Nat=>decide (ZD ord j∈a.mr)).map λj:Nat=>(j:Int)
 ed:(Y2 a).ed=(List.range' 0 ord.length).flatMap (cnR a ord)
 cl:∀j,j<ord.length→∀e∈Zz a.ed (ZD ord j),e.2.2∈ord
theorem Qdi {a:QS}(G:Zg a) (Y:0<a.st):∃ord,CnP a ord:=by
 have H:0<a.st.toNat:=by omega
 have I:CnG a 0 (Yd a):=by
  refine ⟨⟨by simp[Yd],λs hs=>by simp[Yd] at hs;subst hs;omega,by simp[Yd],λk k0 k1=>?_⟩,Lk _,⟨by simp[Yd,ZD],by simp[Yd]⟩,by simp[Yd],by simp[Yd],λj hj=>by omega⟩;by_cases ek:k=0
  ·subst ek;rw[if_pos (by simp[Yd])];unfold ZD Yd;simp[List.getD,H]
  rw[if_neg (by simpa[Yd] using ek)];unfold Yd;have J:0≠k.toNat:=by omega
  have S:k.toNat<a.st.toNat:=by omega
  unfold ZD;rw[List.getD_eq_getElem?_getD,Nd J];simp[S]
 obtain ⟨T,h1,h2⟩:=zo G a.st.toNat 0 (Yd a) I;have ha:(YQ a a.st.toNat 0 (Yd a)).ord.length≤a.st.toNat:=pig _ _ h1.nu.nd (λx hx=>by have:=h1.nu.bd x hx;omega);have V:T=(YQ a a.st.toNat 0 (Yd a)).ord.length:=by have:=h1.le;omega
 subst V;have E:Y2 a=⟨a.al,((YQ a a.st.toNat 0 (Yd a)).ord.length:Int),(YQ a a.st.toNat 0 (Yd a)).mk',(YQ a a.st.toNat 0 (Yd a)).ed⟩:=by unfold Y2;rw[if_neg (by omega)]
 refine ⟨(YQ a a.st.toNat 0 (Yd a)).ord,h1.nu.nd,h1.nu.bd,h1.hd,by rw[E],by rw[E],?_,?_,h1.cl⟩
 ·rw[E];exact h1.mk2
 rw[E];exact h1.ed
section
variable {p s:QS} {pn xn v:Int}
end
section
variable {s:QS} {l:List KB} {n:Nat}
end
theorem Qdj {a:QS}(E:Zg a):Zg (Y2 a):=by
 have T:=E.st0;have h1:=E.st1;by_cases J:a.st=0
 ·unfold Y2;rw[if_pos J];exact ⟨E.al,E.ali,by simp,by simp,by simp,by simp,by simp,by simp⟩
 obtain ⟨ord,h⟩:=Qdi E (by omega);have hl:ord.length≤a.st.toNat:=pig _ _ h.nd (λx hx=>by have:=h.bd x hx;omega);refine ⟨by rw[h.al];exact E.al,by rw[h.al];exact E.ali,by rw[h.st];omega,by rw[h.st];omega,λs hs=>?_,?_,λe he=>?_,?_⟩
 ·rw[h.mk2] at hs;simp only[List.mem_map,List.mem_filter,List.mem_range'_1] at hs;obtain ⟨i,⟨hi,_⟩,rfl⟩:=hs;rw[h.st];omega
 ·rw[h.mk2];unfold Yg;rw[MJ];refine List.Pairwise.sublist MI ?_;exact (M1 (s:=0) (n:=ord.length)).imp (λh=>by omega)
 ·rw[h.ed] at he;obtain ⟨j,G,hd⟩:=Mr.1 he;rw[L5] at G;unfold cnR at hd;obtain ⟨d,H,rfl⟩:=Ly.1 hd;have hm:=h.cl j (by omega) d H;have:=Mn hm;have S:=(E.ed d (Zx H).1).2.2.1;rw[h.st,h.al];unfold cnF;exact ⟨by simp only[];omega,by simp only[];omega,S,by simp only[];omega,by simp only[];omega⟩
 rw[h.ed];have key:∀n,((List.range' 0 n).flatMap (cnR a ord)).Pairwise λx y:Ed=>x.1<y.1∨(x.1=y.1∧x.2.1<y.2.1):=by
  intro n;induction n with
  | zero=>simp
  | succ n ih =>
   rw[Mc,Lx,LM,Md];refine ⟨ih,?_,λx hx y hy=>?_⟩
   ·simp only[List.flatMap_cons,List.flatMap_nil,List.append_nil];unfold cnR;rw[MJ];have h2:(Zz a.ed (ZD ord n)).Pairwise λx y:Ed=>x.1<y.1∨(x.1=y.1∧x.2.1<y.2.1):=List.Pairwise.sublist MI E.edi;refine List.Pairwise.imp_of_mem (λ{x y} hx hy V=>?_) h2;have e1:=(Zx hx).2;have e2:=(Zx hy).2;right;exact ⟨O,by show x.2.1<y.2.1;omega⟩
   obtain ⟨j,G,I⟩:=Mr.1 hx;rw[L5] at G;simp only[List.flatMap_cons,List.flatMap_nil,List.append_nil] at hy;unfold cnR at I hy;obtain ⟨d,_,rfl⟩:=Ly.1 I;obtain ⟨Y,_,rfl⟩:=Ly.1 hy;left;show (j:Int)<(n:Int);omega
 exact key _
theorem QcQ {a:QS}(E:Zg a):Zg ⟨a.al,0,[],[]⟩ :=
 ⟨E.al,E.ali,Nf _,(by decide:(0:Int)≤4096),(λs hs=>by cases hs),List.Pairwise.nil,(λe he=>by cases he),List.Pairwise.nil⟩
theorem Qcu {a:QS}(E:Zg a) (lf:Lf):Zg (Qal a lf):=by
 unfold Qal;split
 ·exact QcQ E
 exact Qdj (qY E lf)
theorem Qd1 {c:Zv}(h:suE c=0):Zg (suA c):=Qcu (Qeb h).1 _
theorem QeS {c:Zv}{m:Jy}(h:msE c m=0):Zg (VO c m):=by
 have h1:msE c m=if mcE c m≠0 then mcE c m else suE (mcC c m):=rfl
 rw[h1] at h;split at h
 ·rename_i h2;exact absurd h h2
 exact Qd1 h
theorem jm {c:Zv}:∀{l:List Jy},msL c l=0→∀m∈l,msE c m=0
 | [],_,m,hm=>by cases hm
 | x::l,h,m,hm=>by
  rw[UG] at h;by_cases h1:msE c x≠0
  ·rw[if_pos h1] at h;exact absurd h h1
  rw[if_neg h1] at h;rcases Lc.1 hm with rfl | hm
  ·exact Ls.1 h1
  exact jm h m hm
theorem yR {c:Zv}(h:Xw c=0):∀a∈VY c,Zg a:=by
 rw[Qak] at h;by_cases h1:Zf c≠0
 ·rw[if_pos h1] at h;exact absurd h h1
 rw[if_neg h1] at h;have G:=ZO (Ls.1 h1);have H:VY c=(mods c).map (VO c)++(rem c).map (coA c):=rfl;intro a ha;rw[H] at ha;rcases Lj.1 ha with ha | ha
 ·obtain ⟨m,hm,rfl⟩:=Ly.1 ha;exact QeS (jm h m hm)
 obtain ⟨i,hi,rfl⟩:=Ly.1 ha;have I:=Qay i hi;have E:i.toNat<c.co.length:=by omega
 have e:coA c i=(c.co[i.toNat]'E).a:=by unfold coA;simp[List.getD,E]
 rw[e];exact G.co _ (Lh E)
theorem Qis (c:Zv):tgE c=if Xw c≠0 then Xw c else Vl (VY c):=rfl
theorem QdN {n k:Nat}(h:k<n):(JB n).drop k=(k:Int)::(JB n).drop (k+1):=by
 have hl:k<(JB n).length:=by rw[zD];exact h
 rw[LK hl];congr 1;simp[JB]
theorem Qee (c:Zv) (v:Int) (l:LI):shd c (v::l)=if 2≤(ownr c v).length then some (v,cget (ownr c v) 0,cget (ownr c v) 1) else shd c l:=rfl
def shR (c:Zv):Option (Int×Int×Int):=if Zf c≠0 then none else QiU c
set_option maxHeartbeats 4000000 in
theorem Qdq {L:LN}{w:World}{c:CL}(h0:Zu L w.heap c) :
  QJ prog 20 [c.val] w λr w'=>Step [] w w'∧r=.tuple #[.int .i64 (QiZ (shR c.cel)).1,.int .i64 (QiZ (shR c.cel)).2.1,.int .i64 (QiZ (shR c.cel)).2.2,.bool (shR c.cel).isSome,.int .i64 (Zf c.cel)]:=by
 have h:=h0.up (L':=[]) (by simp);have hsr:shR c.cel=if Zf c.cel≠0 then none else QiU c.cel:=rfl
 refine Zb (Zf c.cel) λE hE=>?_;refine Zb (shR c.cel) λS hS=>?_;rw[hS,hE] at hsr;rw[hS,hE];have hP:=h.co.arr.le;have hQ:=h.ev.arr.le;refine QJ.of_W func20 O ntmps20 results20 (by simp) ?_;refine Qc<|xl O<|QQ (us:=c.cells) O λb1 w1 ht hR hu=>x Qh<|x Qh<|x Qh<|x Qh<|Qe<|Qf<|Qc<|x (Qr hu O O)<|xl O<|xf<|(YR (h.ext ht)).mono ?_;rintro r2 w2 ⟨hv,hw⟩;rw[hE] at hv;subst hv;refine Qe ?_
 have he:=ht.trans hw;have hy:=hu.ext hw;refine Qc<|Qb<|x (Za O O)<|xe<|Q4 rfl (λV=>?_) (λV=>?_)
 ·rw[if_pos V] at hsr;subst hsr;refine Qc<|Qb<|x Qh<|x Qh<|x Qh<|x Qh<|Qe ?_;exact Qm ⟨[.int .i64 0,.int .i64 0,.int .i64 0,.bool false,.int .i64 E],⟨O,O,O,O,O,U⟩,he,O⟩
 rw[if_neg V] at hsr;have hz:E=0:=Ls.1 V;have hT:c.cel.ev.length=c.ev.length:=rfl;have hC:QiU c.cel=shd c.cel (JB c.ev.length):=rfl;rw[hC] at hsr;refine Qi<|Qf<|Qc<|x (Qa O)<|x (Qd hy O O)<|x (Qs (h.ext he).ev.arr O)<|Qb<|xe ?_
 refine Qg<|QA (α:=Nat) [(2,6),(8,11),(20,51)] (λz=>[(20,.int .i64 z)]) (λz w'=>z≤c.ev.length∧Step [] w2 w'∧shd c.cel ((JB c.ev.length).drop z)=S) (λz=>c.ev.length - z) (by rfl) 0 Z
  ⟨Lk _,Step.refl _ _,hsr.symm⟩ ?_
 rintro k g w3 ⟨hk,hf,G⟩;have hg:=he.trans hf;have hD:=hy.ext hf;have h3:=h.ext hg;refine Qc<|x (QB O O)<|xe<|Qf<|QF O (λhh=>?_) (λhh=>?_)
 ·refine Qy ?_;have hF:c.ev.length≤k:=by have hj:¬(k:Int)<(c.ev.length:Int):=hh;omega
  rw[Lo (by rw[zD];exact hF)] at G;have hG:S=none:=G.symm;subst hG;refine Qc<|x Qh<|x Qh<|x Qh<|x Qh<|Qe ?_;exact Qm ⟨[.int .i64 0,.int .i64 0,.int .i64 0,.bool false,.int .i64 0],⟨O,O,O,O,O,U⟩,hg,by rw[hz];rfl⟩
 have h1:k<c.ev.length:=by have hj:(k:Int)<(c.ev.length:Int):=hh;omega
 rw[QdN h1,Qee] at G;refine Qi<|Qf<|Qg<|Qc<|Qb<|Qe<|Qc<|Qe<|Qf<|Qc<|x (Qa O)<|x (Qd hD O O)<|x (Qs h3.co.arr O)<|Qb<|xe ?_;have hl:ownr c.cel (k:Int)=ixs (λq:IV=>decide ((k:Int)∈q.p.a.al)) 0 c.co:=by
  show ixs (λx:YG=>decide ((k:Int)∈x.a.al)) 0 (c.co.map (·.it))=_;generalize 0=i0;generalize c.co=l;induction l generalizing i0 with
  | nil=>rfl
  | cons a l ih=>rw[LO,ixs,ixs,ih (i0+1)];rfl
 rw[hl] at G;refine Qg<|QA (α:=Nat×Value) [(9,11),(26,40)] (λz=>[(9,z.2),(26,.int .i64 z.1)]) (λz w'=>z.1≤c.co.length∧Step [] w3 w'∧Qu 3 w3.heap.size w' z.2 (ixs (λq:IV=>decide ((k:Int)∈q.p.a.al)) 0 (c.co.take z.1))) (λz=>c.co.length - z.1) (by rfl) (0,nS) ⟨O,O,U⟩
  ⟨Lk _,Step.refl _ _,QO _ _ _ _⟩ ?_
 rintro ⟨i,v⟩ g w4 ⟨hi,J,H⟩;simp only[] at hi H;have h5:=hg.trans J;have h4:=h.ext h5;have hU:=J.size;have hm:=KY (λq:IV=>decide ((k:Int)∈q.p.a.al)) (c.co.take i) 0;rw[Lv] at hm;refine Qc<|x (QB O O)<|xe<|Qf<|QF O (λhn=>?_) (λhn=>?_)
 ·refine Qy ?_;have h6:c.co.length≤i:=by have hj:¬(i:Int)<(c.co.length:Int):=hn;omega
  rw[Ll h6] at H;rw[Ll h6] at hm;refine Zb (ixs (λq:IV=>decide ((k:Int)∈q.p.a.al)) 0 c.co) λow hl=>?_;rw[hl] at H hm G;have hA:QL [] w4.heap v ow:=Qu.ints H (by omega) (by simp);refine Qc<|Qb<|x (Qs hA O)<|x (ZT O O)<|xe<|Q4 O (λho=>?_) (λho=>?_)
  ·have h2:2≤ow.length:=by have hH:(2:Int)≤(ow.length:Int):=ho;omega
   rw[if_pos h2] at G;subst G;have e0:cget ow 0=ow[0]'(by omega):=by unfold cget;simp[List.getD,show 0<ow.length by omega]
   have e1:cget ow 1=ow[1]'(by omega):=by unfold cget;simp[List.getD,show 1<ow.length by omega]
   refine Qf<|QV (Step [] w4) [(0,true),(1,true),(2,true),(3,true),(4,true),(5,true),(6,true),(7,true),(8,true),(9,true),(10,true),(11,true)] mixed (by rfl) (by kernel_rfl) (Step.drew _ _) ?_;refine p (λ_=>Qp)<|p (λ_=>Qp)<|pii (i:=0) O hA O O (by omega) λhV h7=>?_;rw[←e0] at h7;refine pq (λ_ hc=>Qv (h7.st hc) O) <|
    p (λ_=>Qp)<|pii (i:=1) O hA O O (by omega) λhW h8=>?_
   rw[←e1] at h8;refine pq (λ_ hc=>Qv (h8.st hc) O)<|p (λ_=>Qh) <|
    p (λ_=>Qh)<|p (λ_=>Qh)<|p (λ_=>Qh)<|p (λ_=>Qh)<|pe ?_
   exact Qm ⟨[.int .i64 k,.int .i64 (cget ow 0),.int .i64 (cget ow 1),.bool true,.int .i64 0],⟨O,O,O,O,O,U⟩,h5.trans (Step.drew _ _),by rw[hz];rfl⟩
  have h2:¬2≤ow.length:=by have hH:¬(2:Int)≤(ow.length:Int):=ho;omega
  rw[if_neg h2] at G;refine Qi<|Qx<|QN O O<|Qb<|xe ?_;exact ⟨k+1,by omega,Z,h1,hf.trans J,G⟩
 have I:i<c.co.length:=by have hj:(i:Int)<(c.co.length:Int):=hn;omega
 have h9:=Lh I;have T:=UP (λq:IV=>decide ((k:Int)∈q.p.a.al)) I;refine Qi<|Qf<|Qg<|Qc<|Qb<|xig (g:=Zc) (i:=i) Yz h4.co.arr O O I λhX hB=>?_;refine Zb (c.co[i]'I) λq hq=>?_;rw[hq] at hB h9 T;have Y:=h4.co.each q h9;refine x (QI hB O O)<|xl O<|Qt (us:=[.string .empty,nS,.int .i64 0,nS,nS]) O λhY w5 hI hJ hp=>x Qh <|
  xl rfl<|Qo (us:=Zc q) hp O O O O ⟨O,Y.al.one,O,Y.mr.one,Y.ed.one,U⟩ λw6 hK hp=>xe ?_
 have ha:Step [] w4 w6:=hI.then1 hK hJ;refine Qc<|x (Qa O)<|x (Qa O)<|x (Qd hp O O)<|Qb<|xl O<|xf<|(ZL (Y.al.ext ha) (k:Int)).mono ?_;rintro r7 w7 ⟨rfl,rfl⟩;refine xe<|Q4 rfl (λhr=>?_) (λhr=>?_)
 ·rw[if_pos (decide_eq_true hr)] at T;refine Qx<|Qb<|Qb<|xl O<|QC (us:=[[.int .i64 i]]) O O (by decide) (by simp) ⟨rfl,rfl,U⟩ λhZ w8 hL ga hM=>?_;have hs:=ha.trans hL;have gb:=hs.size;refine xl O<|QW (news:=[.int .i64 i]) (L:=[]) (Qq H hs) O O O (hM.at (by simp)) (by simp[Value.oneCell']) (by omega) (by omega) λv9 w9 hN hO gc =>
   Qe ?_
  have hge:=Qk H;refine Qx<|QN O O<|Qb<|xe<|⟨(i+1,v9),by simp only[];omega,⟨O,O,U⟩,I,(J.trans hs).then hO (λb hb=>.inr (hge b hb).1),?_⟩;simp only[];rw[T];exact Qu.snoc hN
 rw[if_neg (by simpa using hr),LD] at T;refine Qi<|Qx<|QN O O<|Qb<|xe ?_;exact ⟨(i+1,v),by simp only[];omega,⟨O,O,U⟩,I,J.trans ha,by simp only[];rw[T];exact Qq H ha⟩
theorem Qbg {w:World}(E:Kb w 4096):QJ prog 50 [] w λr w'=>r=.bool true∧Step [] w w':=by
 refine QJ.of_W func50 O ntmps50 results50 (by simp) ?_;refine Qc<|Qe<|QU (α:=Unit) [(0,4)] (λz=>[(0,.bool true)]) (λz w'=>Step [] w w') (by rfl) ?_ ?_
 ·refine Qx<|xl O<|xf<|(QaN E).mono ?_;rintro S G ⟨rfl,H⟩;refine Qb<|xl O<|xf<|(Qdu G).mono ?_;rintro r2 T ⟨rfl,I⟩;refine x (Qn O)<|Qe ?_;exact ⟨(),Z,H.trans I⟩
 rintro z g V J;exact Qm ⟨[.bool true],Z,O,J⟩
theorem Jy.eq_iff (a b:Jy):a=b↔a.kd=b.kd∧a.ix=b.ix∧a.co=b.co:=by
 cases a;cases b;simp
instance mdlDec (a b:Jy):Decidable (a=b):=decidable_of_iff _ (Jy.eq_iff a b).symm
theorem U3 {L L':LN}{w:World}{q q':MV}(h:QL L w.heap q.v q.co) (h':QL L' w.heap q'.v q'.co):QJ prog 16 [.agg (Zm q).toArray,.agg (Zm q').toArray] w λr w'=>r=.bool (decide (q.m=q'.m))∧Step [] w w':=by
 refine QJ.of_W func16 O ntmps16 results16 (by simp) ?_;refine Qc<|xl O<|QQ (us:=Zm q) O λb2 w1 S ha T=>xl O<|QQ (us:=Zm q') O λb3 w2 J hb G=>Qe ?_;have E:=S.trans J;have H:=T.ext J;refine QU (α:=Bool) [(4,23)] (λz=>[(4,.bool z)]) (λz w'=>Step [] w w'∧z=decide (q.m=q'.m)) (by rfl) ?_ ?_
 ·refine Qx<|x (Qa O)<|x (Qd H O O)<|x (Qa O)<|x (Qd G O O)<|xb (Q5 O O) (λh9=>?_) (λh9=>?_)
  ·refine Qb<|x (Qa O)<|x (Qd H O O)<|x (Qa O)<|x (Qd G O O)<|xb (Q5 O O) (λI=>?_) (λI=>?_)
   ·refine x (Qn O)<|Qb<|x (Qa O)<|x (Qd H O O)<|x (Qa O)<|x (Qd G O O)<|xl O<|xf<|(qX (h.ext E) (h'.ext E)).mono ?_;rintro r3 w3 ⟨rfl,V⟩;refine x (Qn O)<|Qe<|⟨_,Z,E.trans V,?_⟩;refine decide_eq_decide.2 ?_;rw[Jy.eq_iff];exact ⟨λe=>⟨h9,I,e⟩,λe=>e.2.2⟩
   refine x (Qn O)<|Qb<|xs O<|xs O<|xs O<|xs O<|xs O<|x (Qn O)<|Qe<|⟨false,Z,E,(decide_eq_false λe=>I ?_).symm⟩;exact congrArg Jy.ix e
  refine Qb<|xs O<|xs O<|xs O<|xs O<|xs O<|x (Qn O)<|Qb<|xs O<|xs O<|xs O<|xs O<|xs O<|x (Qn O)<|Qe<|⟨false,Z,E,(decide_eq_false λe=>h9 ?_).symm⟩;exact congrArg Jy.kd e
 rintro z g w4 ⟨Y,hz⟩;exact Qm ⟨[.bool z],Z,by rw[←hz];rfl,Y⟩
def X7:ByteArray:=⟨#[98,117,102,102,101,114]⟩
def KZ:YG:=⟨X7,⟨[1,2],2,[0,1],[(0,1,1),(1,2,0)]⟩⟩
def Qhy:Zv:={ mzC 3 with rq:=[KZ],ex:=[QfI 1 2] }
def QaO:Zv:={ Qhy with ex:=[] }
theorem Qe7:Zf Qhy=0:=by kernel_rfl
theorem Qe6:mods Qhy=[⟨1,0,[0,1]⟩,⟨2,0,[1,2]⟩]:=by kernel_rfl
theorem yj:Zf QaO=0:=by kernel_rfl
theorem Qe8:rem QaO=[2]:=by kernel_rfl
theorem Qfa:Xw QaO=0:=by kernel_rfl
theorem Qe9:(VY QaO).length=2:=by kernel_rfl
theorem Qhw:((VY QaO).map (·.st)).getD 1 0=2:=by kernel_rfl
theorem Qhx:shR QaO=none:=by kernel_rfl
set_option maxHeartbeats 4000000 in
theorem K7 (w:World):QJ prog 126 [] w λr w'=>Step [] w w'∧Qdx w.heap.size w'.heap r Qhy:=by
 refine QJ.of_W func126 O ntmps126 results126 (by simp) ?_;refine Qc<|xl O<|Qt (us:=Z9) O λG w1 hp hR hr=>xe ?_;refine Qc<|xl O<|xf<|(XX 3 (by decide) w1).mono ?_;rintro r2 w2 ⟨hf,E,rfl,h1,hg⟩;refine xl rfl<|Qt (us:=Z9) O λH w3 h3 hs h4=>xl O<|Qo (us:=E.cells) h4 O O O O (hg [] (by simp)).ones λw4 h5 ht=>xe ?_;have ha:Step [] w2 w4:=h3.then1 h5 hs;have hS:=hp.size
 have hT:=hf.size;have hU:=ha.size;have h6:=hr.lt;have h7:=ht.lt;refine Qc<|xl O<|QC (us:=[[.int .i64 1],[.int .i64 2]]) O O (by decide) (by simp) ⟨rfl,rfl,rfl,rfl,U⟩ λS w5 hu hV h8=>xl rfl<|QC (us:=[[.int .i64 0],[.int .i64 1]]) rfl rfl (by decide) (by simp) ⟨rfl,rfl,rfl,rfl,U⟩ λT w6 hh hW hA =>
  x (QD ⟨rfl,O,O,U⟩)<|x (QD ⟨O,O,O,U⟩)<|xl O<|QC (us:=[Qz (0,1,1),Qz (1,2,0)]) O O (by decide) (by exact (by decide:2*3≤1000000)) ⟨O,O,O,O,U⟩ λV w7 hc hY hB=>?_
 have hC:=(hu.trans hh).trans hc;refine x (QD ⟨O,O,O,O,U⟩)<|x (ZU [(0,[.string X7]),(1,[.slice (some ⟨S,0,none⟩) 2 2,.int .i64 2,.slice (some ⟨T,0,none⟩) 2 2,.slice (some ⟨V,0,none⟩) 2 2])] ⟨O,O,O,O,U⟩) <|
  xl rfl<|QC (us:=[[.string X7,.slice (some ⟨S,0,none⟩) 2 2,.int .i64 2,.slice (some ⟨T,0,none⟩) 2 2,.slice (some ⟨V,0,none⟩) 2 2]]) O O (by decide) (by exact (by decide:1*5≤1000000)) ⟨O,O,U⟩ λI w8 Y hZ hD=>?_
 have hv:=hC.trans Y;refine x (Qa O)<|xl O<|QE (j:=2) (u:=.slice (some ⟨I,0,none⟩) 1 1) (ht.ext hv) O O (by simp) rfl λw9 hi hE=>xe ?_;refine Qc<|x (QD ⟨O,O,U⟩)<|x (QD ⟨O,O,U⟩)<|xl O<|QC (us:=[QP (1,1),QP (2,1)]) O O (by decide) (by exact (by decide:2*2≤1000000)) ⟨O,O,O,O,U⟩ λhe ga hw gb hF=>x (QD ⟨O,O,U⟩) <|
  xl rfl<|QC (us:=[[.string JH,.slice (some ⟨he,0,none⟩) 2 2]]) O O (by decide) (by exact (by decide:1*2≤1000000)) ⟨O,O,U⟩ λJ hG hj gc hH=>?_
 have hk:=hw.trans hj;refine x (Qa O)<|xl O<|QE (j:=3) (u:=.slice (some ⟨J,0,none⟩) 1 1) (hE.ext hk) O O (by simp) rfl λhy hl hJ=>xe ?_;have ge:=hu.size;have gg:=hh.size;have gh:=hc.size;have gi:=Y.size;have gj:=hi.size;have gk:=hw.size;have gl:=hj.size;have hn:Step [H] w4 hy:=((hv.any.trans' hi).trans hk.any).trans' hl
 have hK:G∉[H]:=by simp only[List.mem_singleton];omega
 have hM:=((hr.ext hf).ext ha).step hn hK;have hN:ZG [E.ve,E.vc,.slice (some ⟨I,0,none⟩) 1 1,.slice (some ⟨J,0,none⟩) 1 1,E.vk]:=by
  have h9:=(hg [] (by simp)).ones;exact ⟨h9.1,h9.2.1,O,O,h9.2.2.2.2.1,U⟩
 refine Qc<|x (Qr hJ O O)<|xl O<|Qo (us:=[E.ve,E.vc,.slice (some ⟨I,0,none⟩) 1 1,.slice (some ⟨J,0,none⟩) 1 1,E.vk]) hM O O O O hN λgm hz hO=>xe ?_
 have hq:=CL.cel_ex (CL.cel_rq h1 (.slice (some ⟨I,0,none⟩) 1 1) [⟨X7,⟨.slice (some ⟨S,0,none⟩) 2 2,.slice (some ⟨T,0,none⟩) 2 2,.slice (some ⟨V,0,none⟩) 2 2,KZ.a⟩⟩]) (.slice (some ⟨J,0,none⟩) 1 1) [⟨JH,.slice (some ⟨he,0,none⟩) 2 2,[(1,1),(2,1)]⟩]
 refine Qm ⟨[.agg [E.ve,E.vc,.slice (some ⟨I,0,none⟩) 1 1,.slice (some ⟨J,0,none⟩) 1 1,E.vk].toArray],⟨⟨_,O,Qw O (hO.at (L:=[]) (by simp)).cells⟩,U⟩,(((hp.trans hf).trans ha).then1 hn (by omega)).then1 hz (by omega),_,rfl,hq,λL hL=>?_⟩;have h0:∀b∈G::L,b<w1.heap.size:=λb hb=>by
  rcases Lc.1 hb with rfl | hb
  ·exact h6
  have:=hL b hb;omega
 have hP:∀b∈H::G::L,b<w4.heap.size:=λb hb=>by
  rcases Lc.1 hb with rfl | hb
  ·exact h7
  have:=h0 b hb;omega
 have h2:=(hg (G::L) h0).up (L':=H::G::L) (λb hb=>by
  rcases Lc.1 hb with rfl | hb
  ·exact .inr hs
  exact .inl hb)
 have ho:=(h2.ext ha).st (hn.mono (by simp));have nB:∀b,w4.heap.size≤b→b∉H::G::L:=λb hb hm=>by have:=hP b hm;omega
 have hI:Y8 (H::G::L) w8.heap (.slice (some ⟨I,0,none⟩) 1 1) [⟨X7,⟨.slice (some ⟨S,0,none⟩) 2 2,.slice (some ⟨T,0,none⟩) 2 2,.slice (some ⟨V,0,none⟩) 2 2,KZ.a⟩⟩]:=by
  refine ⟨hD.arr (nB _ (by omega)) (n:=1) (cap:=1) (sz:=5) O (by decide) (Lr _),λq hq=>?_,λq hq=>?_⟩
  ·rw[La.1 hq];exact ⟨(((h8.ext hh).ext hc).ext Y).arr (nB _ (by omega)) (n:=2) (cap:=2) (sz:=1) O (by decide) (Lr _),((hA.ext hc).ext Y).arr (nB _ (by omega)) (n:=2) (cap:=2) (sz:=1) O (by decide) (Lr _),(hB.ext Y).arr (nB _ (by omega)) (n:=2) (cap:=2) (sz:=3) O (by decide) (Lr _)⟩
  rw[La.1 hq];exact YP (by decide)
 have hX:qy (H::G::L) hG.heap (.slice (some ⟨J,0,none⟩) 1 1) [⟨JH,.slice (some ⟨he,0,none⟩) 2 2,[(1,1),(2,1)]⟩]:=by
  refine ⟨hH.arr (nB _ (by omega)) (n:=1) (cap:=1) (sz:=2) O (by decide) (Lr _),λq hq=>?_,λq hq=>?_⟩
  ·rw[La.1 hq];exact (hF.ext hj).arr (nB _ (by omega)) (n:=2) (cap:=2) (sz:=2) O (by decide) (Lr _)
  rw[La.1 hq];exact YP (by decide)
 have hQ:Zu (H::G::L) hy.heap (CL.mk E.ve E.vc (.slice (some ⟨I,0,none⟩) 1 1) (.slice (some ⟨J,0,none⟩) 1 1) E.vk E.ev E.co [⟨X7,⟨.slice (some ⟨S,0,none⟩) 2 2,.slice (some ⟨T,0,none⟩) 2 2,.slice (some ⟨V,0,none⟩) 2 2,KZ.a⟩⟩] [⟨JH,.slice (some ⟨he,0,none⟩) 2 2,[(1,1),(2,1)]⟩] E.cs) :=
  ⟨ho.ev,ho.co,((hI.st (hi.mono (by simp))).ext hk).st (hl.mono (by simp)),hX.st (hl.mono (by simp)),ho.cs⟩
 exact (hQ.st (hz.mono (by simp))).up (λb hb=>.inl (Lm _ (Lm _ hb)))
theorem US {a b:LI}(ha:Yg a) (hb:Yg b) (h:∀x,x∈a↔x∈b):a=b:=by
 have na:a.Nodup:=List.Pairwise.imp (λh=>by omega) ha;have nb:b.Nodup:=List.Pairwise.imp (λh=>by omega) hb;exact List.Perm.eq_of_pairwise (le:=λx y:Int=>x<y) (λa b _ _ h1 h2=>by omega) ha hb ((List.perm_ext_iff_of_nodup na nb).2 h)
theorem JJ {m n:Nat}{e:Int}:e∈setK m n↔∃k:Nat,k<n∧e=(k:Int)∧m.testBit k=true:=by
 unfold setK;rw[Ly];constructor
 ·rintro ⟨k,hk,rfl⟩;rw[LS,L5] at hk;refine ⟨k,by omega,O,?_⟩;have:=of_decide_eq_true hk.2;rw[Nat.testBit_eq_decide_div_mod_eq];rw[Nat.and_one_is_mod] at this;exact decide_eq_true this
 rintro ⟨k,hk,rfl,E⟩;refine ⟨k,?_,O⟩;rw[LS,L5];refine ⟨by omega,decide_eq_true ?_⟩;rw[Nat.testBit_eq_decide_div_mod_eq] at E;rw[Nat.and_one_is_mod];exact of_decide_eq_true E
theorem zX (b k j:Nat):(orB b k).testBit j=true↔b.testBit j=true∨k=j:=by
 unfold orB;rw[Nat.testBit_or,Nat.one_shiftLeft,Nat.testBit_two_pow,Bool.or_eq_true,decide_eq_true_iff]
theorem QaD (j:Nat):∀(ls:List (Int×Int)) (b:Nat),(ls.foldl (λb l=>orB b l.1.toNat) b).testBit j=true↔b.testBit j=true∨∃p∈ls,p.1.toNat=j
 | [],b=>by simp
 | p::ls,b=>by
  rw[LL,QaD j ls,zX];simp only[List.mem_cons,exists_eq_or_imp];exact or_assoc
theorem Qby {ls:List (Int×Int)}{n:Nat}(h:∀p∈ls,0≤p.1∧p.1<(n:Int)) (hi:Yg (ls.map (·.1))):setK (qD ls) n=ls.map (·.1):=by
 refine US (JF _ _) hi λx=>?_;rw[JJ,Ly];unfold qD;constructor
 ·rintro ⟨k,hk,rfl,E⟩;rw[QaD] at E;rcases E with E | ⟨p,hp,G⟩
  ·simp at E
  exact ⟨p,hp,by have:=h p hp;omega⟩
 rintro ⟨p,hp,rfl⟩;have:=h p hp;exact ⟨p.1.toNat,by omega,by omega,(QaD _ _ _).2 (.inr ⟨p,hp,O⟩)⟩
theorem Qau (x:YG) (j:Nat):∀(l:List YG) (k b:Nat),(rqB x k b l).testBit j=true↔b.testBit j=true∨∃i,∃h:i<l.length,k+i=j∧((l[i]'h).a.al.any λe=>decide (e∈x.a.al))=true
 | [],k,b=>by simp[rqB]
 | y::l,k,b=>by
  rw[rqB,Qau x j l];constructor
  ·rintro (h | ⟨i,hi,h1,h2⟩)
   ·by_cases hy:(y.a.al.any λe=>decide (e∈x.a.al))=true
    ·rw[if_pos hy,zX] at h;rcases h with h | h
     ·exact .inl h
     exact .inr ⟨0,by simp,by omega,hy⟩
    rw[if_neg hy] at h;exact .inl h
   exact .inr ⟨i+1,by simp;omega,by omega,h2⟩
  rintro (h | ⟨i,hi,h1,h2⟩)
  ·refine .inl ?_;by_cases hy:(y.a.al.any λe=>decide (e∈x.a.al))=true
   ·rw[if_pos hy,zX];exact .inl h
   rw[if_neg hy];exact h
  cases i with
  | zero =>
  have h3:(y.a.al.any λe=>decide (e∈x.a.al))=true:=h2;refine .inl ?_;rw[if_pos h3,zX];exact .inr (by omega)
  | succ i=>exact .inr ⟨i,by simpa using hi,by omega,h2⟩
def mts (a b:LI):Bool:=a.any λe=>decide (e∈b)
theorem jl (a b:LI):mts a b=mts b a:=by
 unfold mts;rw[Bool.eq_iff_iff,My,My];constructor <;> rintro ⟨e,h1,h2⟩ <;> exact ⟨e,of_decide_eq_true h2,decide_eq_true h1⟩
def lmR (co:List YG):Nat→List YG→List Jy
 | _,[]=>[]
 | i,x::l=>⟨1,i,ixs (λy:YG=>mts x.a.al y.a.al) 0 co⟩::lmR co (i+1) l
def lmP (kd:Int):Nat→List (List (Int×Int))→List Jy
 | _,[]=>[]
 | i,x::l=>⟨kd,i,x.map (·.1)⟩::lmP kd (i+1) l
def lmd (c:Zv):List Jy:=lmR c.co 0 c.rq++(lmP 2 0 (c.ex.map (·.ls))++lmP 3 0 (c.cs.map (·.ts)))
theorem yb {α:Type}(q:α→Bool) (x:Int):∀(l:List α) (i:Nat),x∈ixs q i l↔∃k,∃h:k<l.length,x=((i+k:Nat):Int)∧q (l[k]'h)=true
 | [],i=>by simp[ixs]
 | y::l,i=>by
  rw[ixs];have ih:=yb q x l (i+1);constructor
  ·intro h;by_cases hy:q y=true
   ·rw[if_pos hy] at h;rcases Lc.1 h with h | h
    ·exact ⟨0,by simp,by rw[h];simp,hy⟩
    obtain ⟨k,hk,h1,h2⟩:=ih.1 h;exact ⟨k+1,by simp;omega,by rw[h1];congr 1;omega,h2⟩
   rw[if_neg hy] at h;obtain ⟨k,hk,h1,h2⟩:=ih.1 h;exact ⟨k+1,by simp;omega,by rw[h1];congr 1;omega,h2⟩
  rintro ⟨k,hk,h1,h2⟩;cases k with
  | zero =>
   have h3:q y=true:=h2;rw[if_pos h3];exact Lc.2 (.inl (by rw[h1];simp))
  | succ k =>
   have h3:=ih.2 ⟨k,by simpa using hk,by rw[h1];congr 1;omega,h2⟩;split
   ·exact Lm _ h3
   exact h3
theorem yl {α:Type}(q:α→Bool):∀(l:List α) (i:Nat),Yg (ixs q i l)
 | [],_=>List.Pairwise.nil
 | y::l,i=>by
  rw[ixs];split
  ·refine LU.2 ⟨λx hx=>?_,yl q l (i+1)⟩;obtain ⟨k,_,h1,_⟩:=(yb q x l (i+1)).1 hx;omega
  exact yl q l (i+1)
theorem Qg1 {x:YG}{co:List YG}{n:Nat}(G:co.length≤n):setK (rqB x 0 0 co) n=ixs (λy:YG=>mts x.a.al y.a.al) 0 co:=by
 refine US (JF _ _) (yl _ _ _) λe=>?_;rw[JJ,yb];constructor
 ·rintro ⟨k,hk,rfl,E⟩;rw[Qau] at E;rcases E with E | ⟨i,hi,h1,h2⟩
  ·simp at E
  exact ⟨i,hi,by omega,by rw[jl];exact h2⟩
 rintro ⟨k,hk,rfl,h2⟩;exact ⟨k,by omega,by simp,(Qau _ _ _ _ _).2 (.inr ⟨k,hk,by omega,by rw[jl] at h2;exact h2⟩)⟩
theorem UH {kd:Int}{f:List (Int×Int)→Prop}(E:∀ls,f ls→setK (qD ls) 8=ls.map (·.1)):∀(l:List (List (Int×Int))) (i:Nat),(∀x∈l,f x)→Xx kd i (l.map qD)=lmP kd i l
 | [],_,_=>rfl
 | x::l,i,h=>by
  rw[LO,Xx,lmP,E x (h x Ln),UH E l (i+1) (λy hy=>h y (Lm _ hy))]
theorem jq {co:List YG}(E:co.length≤8):∀(l:List YG) (i:Nat),Xx 1 i (l.map λx=>rqB x 0 0 co)=lmR co i l
 | [],_=>rfl
 | x::l,i=>by
  rw[LO,Xx,lmR,Qg1 E,jq E l (i+1)]
theorem D25.lmd {c:Zv}(h:D25 c):mods c=lmd c:=by
 have h3:=h.c3;have I:(szs c.co).length=c.co.length:=by unfold szs;rw[Lb]
 unfold mods Proofs.YtdffckgdcegpaaaGreatDoor.lmd srR srX srC;rw[jq (by omega)];have e1:c.ex.map (λx=>qD x.ls)=(c.ex.map (·.ls)).map qD:=by rw[MH];rfl
 have e2:c.cs.map (λx=>qD x.ts)=(c.cs.map (·.ts)).map qD:=by rw[MH];rfl
 rw[e1,e2,UH (f:=λls=>(∀p∈ls,0≤p.1∧p.1<(8:Int))∧Yg (ls.map (·.1))) (λls E=>Qby (n:=8) E.1 E.2) _ _ (λls H=>?_),UH (f:=λls=>(∀p∈ls,0≤p.1∧p.1<(8:Int))∧Yg (ls.map (·.1))) (λls E=>Qby (n:=8) E.1 E.2) _ _ (λls H=>?_)]
 ·obtain ⟨x,hx,rfl⟩:=Ly.1 H;have h1:=(h.cs x hx).2;have h2:Xs (szs c.co) none x.ts=0:=by
   unfold YJ at h1;split at h1
   ·cases h1
   split at h1
   ·rename_i h9;exact absurd h1 h9
   rename_i h9;exact Ls.1 h9
  have G:=Kp _ _ _ h2;exact ⟨λp hp=>by have:=G.1 p hp;omega,G.2.1⟩
 obtain ⟨x,hx,rfl⟩:=Ly.1 H;have G:=Kq _ _ _ (h.ex x hx).2.2;exact ⟨λp hp=>by have:=G.1 p hp;omega,G.2.1⟩
theorem Qje {l:List MV}{a b:Jy}(h:l.map MV.m=[a,b]):∃m0 m1,l=[m0,m1]∧m0.m=a∧m1.m=b:=by
 match l,h with
 | [m0,m1],h =>
  simp only[List.map_cons,List.map_nil,List.cons.injEq,and_true] at h;exact ⟨m0,m1,O,h.1,h.2⟩
 | [],h=>simp at h
 | [_],h=>simp at h
 | _::_::_::_,h=>simp at h
theorem Qj2 {ps:List AV}{l:List QS}(h:ps.map (·.a)=l) (hl:l.length=2):∃p0 p1,ps=[p0,p1]∧p1.a.st=(l.map (·.st)).getD 1 0:=by
 subst h
 match ps,hl with
 | [p0,p1],_=>exact ⟨p0,p1,O,O⟩
 | [],h=>simp at h
 | [_],h=>simp at h
 | _::_::_::_,h=>simp at h
set_option maxHeartbeats 8000000 in
theorem QaM {w:World}(hG:Kb w 4096):QJ prog 49 [] w λr w'=>r=.bool true∧Step [] w w':=by
 refine QJ.of_W func49 O ntmps49 results49 (by simp) ?_;refine Qc<|Qe<|Qc<|xl O<|xf<|(K7 w).mono ?_;rintro r1 w1 ⟨hH,c1,rfl,hi,hI⟩;refine xl rfl<|xf<|(qi (hI [] (by simp))).mono ?_;rintro r2 G ⟨hJ,vM,lM,rfl,V,_,hj⟩;rw[hi,Qe6] at hj;obtain ⟨H,I,rfl,hK,hL⟩:=Qje (hj Qe7);refine Qb<|x (Ql O O)<|x (Ql O O)<|x Qh<|Qe ?_;have hk:=hH.trans hJ
 have hl:Zl [] G.heap vM [H,I].length 3 ([H,I].flatMap Zm):=V.arr (by simp) (by simp);have hN:QL [] G.heap H.v H.co:=V.each H (by simp) [] (by simp);have hO:QL [] G.heap I.v I.co:=V.each I (by simp) [] (by simp);refine Qf<|QU (α:=Unit) [(18,24)] (λz=>[(24,.bool false)]) (λz w'=>w'=G) (by rfl) ?_ ?_
 ·refine Qx<|Qb<|xb (Za O O) (λhm=>absurd (by rw[hi];exact Qe7) hm) (λhm=>?_);refine Qb<|Qb<|x (Qs hl O)<|xb (Za O O) (λhn=>absurd O hn) (λhn=>?_);refine x (Qn O)<|xe ?_;exact ⟨(),Z,O⟩
 rintro z g G rfl;refine ZZ rfl ?_;refine Qi<|Qc<|xl O<|xf<|(K7 G).mono ?_;rintro r3 w3 ⟨ho,E,rfl,hP,hp⟩;refine xl rfl<|Qt (us:=Z9) O λb3 w4 hQ hr hR=>xl O<|Qo (us:=E.cells) hR O O O O (hp [] (by simp)).ones λw5 hS hT=>xe ?_;have hs:Step [] w3 w5:=hQ.then1 hS hr;refine Qc<|x (Qa O)<|xl O<|QE (j:=3) (u:=nS) hT O O (by simp) rfl λw6 ht Y=>xe ?_;have gs:=ho.size
 have hu:Step [] G w6:=(ho.trans hs).then1 ht (by omega);have hU:=hk.trans hu;have ha:Zu [] w6.heap (CL.mk E.ve E.vc E.vr (nS) E.vk E.ev E.co E.rq [] E.cs):=by
  have h9:=(((hp [] (by simp)).up (L':=[b3]) (λb hb=>.inr (by rw[La.1 hb];exact hr))).ext hs).st ht;have J:=h9.up (L':=[]) (by simp);exact ⟨J.ev,J.co,J.rq,⟨Zl.nil _ _ 2,λq hq=>(by cases hq),λq hq=>(by cases hq)⟩,J.cs⟩
 have hq:(CL.mk E.ve E.vc E.vr (nS) E.vk E.ev E.co E.rq [] E.cs).cel=QaO:=CL.cel_ex hP (nS) [];refine Qc<|x (Qr Y O O)<|xl O<|xf<|(Vg ha).mono ?_;rintro r7 w7 ⟨S,vr,rfl,_,hv⟩;rw[hq,Qe8] at hv;have hV:=hv yj;have hW:QL [] w7.heap vr [2]:=Qu.ints (L:=[]) hV (by simp) (by simp)
 refine Qb<|x (Ql O O)<|x (Ql O O)<|x Qh<|Qe<|Qc<|x (Qr (Y.ext S) O O)<|xl O<|xf<|(Xu (ha.ext S) (hG.ext (hU.trans S))).mono ?_;rintro r8 w8 ⟨hw,vs,rfl,_,hy⟩;rw[hq] at hy;obtain ⟨_,ps,hX,hY⟩:=hy Qfa;obtain ⟨p0,p1,rfl,hz⟩:=Qj2 hX Qe9;rw[Qhw] at hz;have hZ:=hY [] (by simp);refine Qb<|x (Ql O O)<|x (Ql O O)<|x Qh<|Qe ?_;have hc:=S.trans hw
 refine Qc<|x (Qr (Y.ext hc) O O)<|xl O<|xf<|(Qdq (ha.ext hc)).mono ?_;rintro r9 w9 ⟨he,h0⟩;rw[hq,Qhx,yj] at h0;subst h0;refine Qb<|x (Ql O O)<|x (Ql O O)<|x (Ql O O)<|x (Ql O O)<|x (Ql O O)<|x Qh<|x Qh<|x Qh<|x Qh<|Qe ?_;have ga:=hc.trans he;have T:=hu.trans ga;have gb:=hw.trans he
 refine QU (α:=Unit) [(0,0),(45,91)] (λz=>[(0,.bool true)]) (λz w'=>Step [] w9 w') (by rfl) ?_ ?_
 ·refine Qx ?_;have h1:=hl.ext T;refine Qb<|xig (g:=Zm) (i:=0) UF h1 O O (by simp) λgt gc=>x (QI gc rfl rfl)<|xl rfl<|QC (us:=[[.int .i64 0],[.int .i64 1]]) rfl rfl (by decide) (by simp) ⟨rfl,rfl,rfl,rfl,U⟩ λge gu h2 gv gg=>x (QD ⟨rfl,rfl,U⟩) <|
   xl rfl<|xf<|(U3 (q:=H) (q':=⟨1,0,.slice (some ⟨ge,0,none⟩) 2 2,[0,1]⟩) ((hN.ext T).ext h2) (gg.arr (L:=[]) (by simp) (n:=2) (cap:=2) (sz:=1) rfl (by omega) (Lr _))).mono ?_
  rintro gh gw ⟨hf,gi⟩
  replace hf:gh=.bool true:=hf.trans (congrArg Value.bool (decide_eq_true (p:=H.m=_) hK));subst hf;have hg:=h2.trans gi;refine Qb<|Qb<|xig (g:=Zm) (i:=1) UF (h1.ext hg) O O (by simp) λgx gj=>x (QI gj rfl rfl)<|xl rfl<|QC (us:=[[.int .i64 1],[.int .i64 2]]) rfl rfl (by decide) (by simp) ⟨rfl,rfl,rfl,rfl,U⟩ λgk gy h3 gz gl=>x (QD ⟨rfl,rfl,U⟩) <|
   xl rfl<|xf<|(U3 (q:=I) (q':=⟨2,0,.slice (some ⟨gk,0,none⟩) 2 2,[1,2]⟩) (((hO.ext T).ext hg).ext h3) (gl.arr (L:=[]) (by simp) (n:=2) (cap:=2) (sz:=1) rfl (by omega) (Lr _))).mono ?_
  rintro gm g0 ⟨hh,gn⟩
  replace hh:gm=.bool true:=hh.trans (congrArg Value.bool (decide_eq_true (p:=I.m=_) hL));subst hh;have h4:=hg.trans (h3.trans gn);refine x (Qn O)<|Qb<|Qb<|xb (Q5 O O) (λh5=>?_) (λh5=>absurd (by rw[hq];exact yj) h5);refine x (Qn O)<|Qb<|Qb<|xl O<|QC (us:=[[.int .i64 2]]) O O (by decide) (by simp) ⟨rfl,rfl,U⟩ λg2 g3 h6 g4 go =>
   xl rfl<|xf<|(qX (l:=[2]) (l':=[2]) (((hW.ext gb).ext h4).ext h6) (go.arr (L:=[]) (by simp) (n:=1) (cap:=1) (sz:=1) rfl (by omega) (Lr _))).mono ?_
  rintro g5 g6 ⟨h7,gp⟩;rw[decide_eq_true rfl] at h7;subst h7;have hA:=h4.trans (h6.trans gp);have hB:=(hZ.ext he).ext hA;refine x (Qn O)<|Qb<|Qb<|xb (Q5 O O) (λhC=>?_) (λhC=>absurd (by rw[hq];exact Qfa) hC);refine x (Qn O)<|Qb<|Qb<|x (Qs hB.arr O)<|xb (Q5 O O) (λhD=>?_) (λhD=>absurd O hD)
  refine x (Qn O)<|Qb<|Qb<|xig (g:=Q8) (i:=1) Jq hB.arr O O (by simp) λg7 gq=>x (Q7 rfl)<|x (Qv (gq.fld 1 (.int .i64 p1.a.st) rfl) rfl)<|xb (Q5 rfl rfl) (λhE=>?_) (λhE=>Qj3 hz hE);refine x (Qn O)<|Qb<|Qb<|xb (Q5 O O) (λhF=>?_) (λhF=>absurd O hF);refine x (Qn O)<|Qb<|Qb<|x (Zs O)<|x (Qn O)<|Qe ?_;exact ⟨(),Z,hA⟩
 rintro z g g8 gr;exact Qm ⟨[.bool true],Z,O,(hk.trans T).trans gr⟩
theorem qj {w:World}(E:Kb w 4096):QJ prog 12 [] w λr w'=>r=.bool true∧Step [] w w':=by
 refine QJ.of_W func12 O ntmps12 results12 (by simp) ?_;refine Qc<|Qe<|QU (α:=Unit) [(0,4)] (λz=>[(0,.bool true)]) (λz w'=>Step [] w w') (by rfl) ?_ ?_
 ·refine Qx<|xl O<|xf<|(QaM E).mono ?_;rintro J S ⟨rfl,G⟩;refine Qb<|xl O<|xf<|(Qbg (E.ext G)).mono ?_;rintro r2 T ⟨rfl,H⟩;refine x (Qn O)<|Qe ?_;exact ⟨(),Z,G.trans H⟩
 rintro z g V I;exact Qm ⟨[.bool true],Z,O,I⟩
end Go.Proofs.YtdffckgdcegpaaaGreatDoor
namespace Go.Lg
open Go.ChangeShapes Go.WideShapes Go.RowKit
section
variable {H:Type} {enc:TypeId×Value→H} {P:Program}
theorem zm (hl:laidOutB P=true) {W W':World}(G:Step [] W W') {sp:Nat→Bool}:∀{ts:List TypeId}{vs:LV}{ds:List (DataW H)}{ps:List MemPlace},
  (ts.all λt=>P.readableRec t && decide (t<P.types.size))=true→DataW.TrodAll enc P W 0 (λ_=>true) true ts vs ds ps→(∀x∈ps,x.block<W.heap.size)→(∀x∈ps,sp x.block=true)→DataW.TrodAll enc P W' 0 sp true ts vs ds ps
 | [],vs,ds,ps,_,h,_,_=>by
  obtain ⟨rfl,rfl,rfl⟩:=trodAll_nil h;exact trodAll_mk0
 | t::ts,vs,ds,ps,E,h,I,hsp=>by
  obtain ⟨v,J,d,yI,a,b,rfl,rfl,rfl,h1,h2⟩:=trodAll_cons h;simp only[List.all_cons,Bool.and_eq_true,decide_eq_true_eq] at E;have hb:Below W.heap.size W W':=G.below;refine trodAll_cons_mk (WideElems.Trod_stays hl E.1.1 E.1.2 h1 (λx hx=>hb.same (I x (LJ _ hx))) (λx hx=>hsp x (LJ _ hx))) ?_
  exact zm hl G (by simpa using E.2) h2 (λx hx=>I x (LZ _ hx)) (λx hx=>hsp x (LZ _ hx))
theorem Qe3 {f:Func}{s:ChangeSpec}{apart fresh handsOn again:Bool}{W W':World}{args:Array Value}{ds gs:List (DataW H)}{before:List MemPlace}{tb:TypeId}
  (hl:laidOutB P=true) (hh:(f.params.toList.all λt=>P.readableRec t && decide (t<P.types.size))=true) (J:f.resultTypes=#[tb]) (S:P.underlying tb=some .bool) (T:s.vars=[])
  (E:s.fn H (ds++gs)={ results:=[.lit (.bool true)],args:=ds })
  (G:DataW.Whole enc P f.params.toList s.vars apart W args.toList ds gs before) (V:Step [] W W'):s.post enc P f apart fresh handsOn again W args (.bool true) W':=by
 have I:=G.lt;have hi:=G;obtain ⟨p,q,hA,Y,rfl,hz,hn⟩:=G;rw[T] at Y;obtain ⟨rfl,rfl⟩:=trodVars_none Y;rw[LD] at *;have hc:∀sp:Nat→Bool,(∀x∈p,sp x.block=true)→DataW.TrodAll enc P W' 0 sp true f.params.toList args.toList ds p:=λsp hsp=>zm hl V hh hA I hsp
 have he:∀(b:Nat) (sp:Nat→Bool) (hd:Bool),DataW.TrodAll enc P W' b sp hd f.resultTypes.toList ((Value.bool true).resultList f.resultTypes.size) [.lit (.bool true)] []:=λb sp hd=>by
  rw[J];exact trodAll_mk1 (shut_bool S true)
 have hb:Below W.heap.size W W':=V.below;have hf:∀sp:Nat→Bool,DataW.TrodVars enc P W' sp s.vars ([]:List (DataW H)) []:=λsp=>by rw[T];rfl
 have hj:(s.fn H ds).results=[.lit (.bool true)]:=by rw[E]
 have hk:(s.fn H ds).args=ds:=by rw[E]
 have hm:(s.fn H ds).vars=[]:=by rw[E]
 have ho:∀(j:Nat) (t:TypeId) (r:Value),f.resultTypes[j]?=some t→((Value.bool true).resultList f.resultTypes.size)[j]?=some r→Value.okWide P W' .any 0 t r:=ok_one J O (okWide_bool_mk S true);refine ⟨ds,[],p,[],p,[],hi,?_,?_,?_,?_,λ_=>⟨ho,[.lit (.bool true)]++ds,[],([]++p)++[],⟨[]++p,[],?_,?_,O,?_,?_⟩,?_⟩⟩
 ·rw[LD,hj];exact he _ _ _
 ·rw[LD,hk];exact hc _ (λx hx=>by simpa using I x hx)
 ·rw[LD,hm];exact hf _
 ·exact World.keptBut_mono (λ_ f=>f.elim) (hb.frame (λ_=>False))
 ·exact trodAll_append (hc _ (λ_ _=>O)) (he _ _ _)
 ·exact hf _
 ·intro b off hp;have hg:MemPlace.cell b off∈p:=by simpa using hp
  rw[hb.frozen (p:=⟨b,off,none⟩) (I _ hg)];exact hz b off hg
 ·intro ha;have:=hn ha;simpa using this
 intro x hx _;simpa using hx
end
end Go.Lg
namespace Go.Proofs.YtdffckgdcegpaaaGreatDoor
open Go.ChangeShapes Go.WideShapes Go.RowKit Go.Lg
theorem Qa6:∀(l:LV),(∀v∈l,∃n:Nat,v=.int .u8 (n:Int)∧n<256)→∃ns:LN,l=bys ns∧ns.length=l.length∧∀n∈ns,n<256
 | [],_=>⟨[],O,O,by simp⟩
 | v::l,h=>by
  obtain ⟨n,rfl,E⟩:=h v Ln;obtain ⟨ns,h1,h2,h3⟩:=Qa6 l (λv G=>h v (Lm _ G));refine ⟨n::ns,by rw[h1];rfl,by simp[h2],λm hm=>?_⟩;rcases Lc.1 hm with rfl | hm
  ·exact E
  exact h3 m hm
theorem QiK {n:Int}(h:(Lit.int .u8 n).wf=true):∃m:Nat,n=m∧m<256:=by
 simp only[Lit.wf,Bool.and_eq_true,decide_eq_true_eq] at h;rw[show IntKind.u8.min=0 from rfl,show IntKind.u8.max=255 from rfl] at h;exact ⟨n.toNat,by omega,by omega⟩
open Go.Proofs.Tryz
theorem QiT {w:World}{b:Nat}{s:TypeId×Nat}(h:w.shape? b=some s):b<w.heap.size:=by
 unfold World.shape? at h;cases hb:w.heap[b]? with
 | none=>simp[hb] at h
 | some o=>exact (LC.1 hb).1
theorem QhM {P:Program}{w:World}{base:Nat}{a:Addr}{e:TypeId}{n:Nat}(h:w.has P .any base a e n):a.block<w.heap.size:=by
 obtain ⟨_,_,row,cells,h1,_⟩:=h;exact QiT h1
theorem QgT {P:Program}{w:World}{base:Nat}{t e:TypeId}{a:Addr}{n c:Nat}(E:P.underlying t=some (.slice e)) (h:Cell.okWide P w .any base t (.slice (some a) n c)):a.block<w.heap.size:=by
 simp only[Cell.okWide,Cell.ok,E] at h;exact QhM h.2.2
theorem Qe0 {α:Type}{p:Nat→α→Prop}:∀(n:Nat),(∀i,i<n→∃e,p i e)→∃l:List α,l.length=n∧∀i (h:i<l.length),p i (l[i]'h)
 | 0,_=>⟨[],O,λi h=>by simp at h⟩
 | n+1,h=>by
  obtain ⟨l,h1,h2⟩:=Qe0 n (λi hi=>h i (by omega));obtain ⟨e,he⟩:=h n (by omega);refine ⟨l++[e],by simp[h1],λi hi=>?_⟩;by_cases E:i<l.length
  ·rw[Ml E];exact h2 i E
  have:i=n:=by simp at hi;omega
  subst this;rw[MU (by omega)];simpa[h1] using he
theorem UI {α:Type}{f:α→Option Value}:∀{L:List α}{l:LV},L.mapM f=some l→l.length=L.length∧∀(i:Nat) (a:α),L[i]?=some a→f a=l[i]?
 | [],l,h=>by
  simp at h;subst h;exact ⟨O,λi a h=>by simp at h⟩
 | x::L,l,h=>by
  simp only[List.mapM_cons,Option.bind_eq_bind,Option.pure_def,Option.bind_eq_some_iff] at h;obtain ⟨v,E,I,h1,h2⟩:=h;cases h2
  obtain ⟨h3,G⟩:=UI h1;refine ⟨by simp[h3],λi a hi=>?_⟩;cases i with
  | zero=>simp at hi;subst hi;simpa using E
  | succ i=>simpa using G i a (by simpa using hi)
def kT (P:Program) (k:IntKind):Nat→TypeId→Bool
 | 0,_=>false
 | m+1,t=>match P.underlying t with
  | some (.int k')=>k' == k
  | some (.array n e)=>kT P k m e && decide (0<P.cellsOf e) && decide (P.cellsOf t=n*P.cellsOf e)
  | some (.struct fs)=>(List.range (P.cellsOf t)).all λj=>fs.toList.any λf=>kT P k m f.type && decide (f.offset≤j∧j<f.offset+P.cellsOf f.type)
  | _=>false
theorem yy {cs:LV}{o n j:Nat}{c:Value}(h:cs[j]?=some c) (h1:o≤j) (h2:j<o+n):c∈(cs.drop o).take n:=by
 refine L7 (i:=j - o) ?_;rw[LT,if_pos (by omega),MD,show o+(j - o)=j by omega];exact h
section
variable {H:Type} {enc:TypeId×Value→H} {P:Program} {W:World} {base b0:Nat} {sp:Nat→Bool} {held:Bool}
theorem KX {k:IntKind}:∀(m:Nat) {t:TypeId}{cs:LV}{fuel:Nat}{x:DataW H×List MemPlace},kT P k m t=true→DataW.trod enc P W b0 sp held fuel t cs=some x→∀c∈cs,∃n,c=.int k n∧(Lit.int k n).wf=true
 | 0,_,_,_,_,h,_,_,_=>by cases h
 | m+1,t,cs,fuel,x,h,G,c,hc=>by
  unfold kT at h;obtain ⟨j,J,S⟩:=LF hc;have I:cs[j]?=some c:=by rw[LA J,S]
  split at h
  ·rename_i k' hu;have hk:k'=k:=by simpa using h
   subst hk;obtain ⟨n,h1,_,h2⟩:=DataW.trod_int hu G;rw[h1] at hc;exact ⟨n,La.1 hc,h2⟩
  ·rename_i n e hu;simp only[Bool.and_eq_true,decide_eq_true_eq] at h;obtain ⟨⟨h1,h2⟩,h3⟩:=h;obtain ⟨xs,T,_,_,hl,V,hx⟩:=DataW.trod_array hu G;have Y:=Nat.div_add_mod j (P.cellsOf e);have hh:=Nat.mod_lt j h2;have hi:j / P.cellsOf e<n:=by
    refine (Nat.div_lt_iff_lt_mul h2).2 ?_;omega
   have E:=hx (j / P.cellsOf e) hi;rw[LA (show j / P.cellsOf e<xs.length by omega)] at E;rw[Nat.mul_comm] at Y;exact KX m h1 E c (yy I (by omega) (by omega))
  ·rename_i fs hu;obtain ⟨xs,T,_,_,hl,V,hx⟩:=DataW.trod_struct hu G;have h1:=Mi.1 h j (List.mem_range.2 (by omega));obtain ⟨f,ha,h2⟩:=My.1 h1;simp only[Bool.and_eq_true,decide_eq_true_eq] at h2;obtain ⟨i,hi,hb⟩:=LF ha;have he:i<fs.size:=by simpa using hi
   have hg:fs[i]?=some f:=by rw[Mw he,←hb];simp
   have E:=hx i f hg;rw[LA (show i<xs.length by omega)] at E;exact KX m h2.1 E c (yy I h2.2.1 h2.2.2)
  cases h
theorem K6 {k:IntKind}{m:Nat}{fs:Array Field}{cs:LV}{xs:List (DataW H×List MemPlace)}{I:Nat}(J:xs.length=fs.size)
  (hx:∀(i:Nat) (f:Field),fs[i]?=some f→DataW.trod enc P W b0 sp held I f.type ((cs.drop f.offset).take (P.cellsOf f.type))=xs[i]?) {i j:Nat} {f:Field} {c:Value} (E:fs[i]?=some f) (hk:kT P k m f.type=true) (h1:f.offset≤j) (h2:j<f.offset+P.cellsOf f.type) (hc:cs[j]?=some c) :
  ∃n,c=.int k n∧(Lit.int k n).wf=true:=by
 have G:=hx i f E;have hi:i<fs.size:=(LC.1 E).1;rw[LA (show i<xs.length by omega)] at G;exact KX m hk G c (yy hc h1 h2)
theorem QdP {c:Value}(h:∃n,c=.int .u8 n∧(Lit.int .u8 n).wf=true):∃n:Nat,c=.int .u8 (n:Int)∧n<256:=by
 obtain ⟨n,rfl,h1⟩:=h;obtain ⟨m,rfl,h2⟩:=QiK h1;exact ⟨m,O,h2⟩
end
theorem QkC {P:Program}{W:World}{base:Nat}{ts:List TypeId}{cs:Array Value}(h:∀(i:Nat) (v:Value),cs[i]?=some v→∃u,ts[i % ts.length]?=some u∧Cell.okWide P W .any base u v) (i:Nat) (t:TypeId) (v:Value) (E:cs[i]?=some v) (G:ts[i % ts.length]?=some t):Cell.okWide P W .any base t v:=by
 obtain ⟨u,hu,k⟩:=h i v E;rw[G] at hu;cases hu
 exact k
theorem Qjz {H:Type}{enc:TypeId×Value→H}{P:Program}{W:World}{b0 m:Nat}{sp:Nat→Bool}{held:Bool}{fs:Array Field}{cs:LV}{xs:List (DataW H×List MemPlace)}
  (h:∀(i:Nat) (f:Field),fs[i]?=some f→DataW.trod enc P W b0 sp held m f.type ((cs.drop f.offset).take (P.cellsOf f.type))=xs[i]?) (i:Nat) {f:Field} {t o:Nat} {c:Value} (E:fs[i]?=some f) (G:f.type=t) (I:f.offset=o) (hc:P.cellsOf t=1) (J:(cs.drop o).take 1=[c]) (hi:i<xs.length) :
  DataW.trod enc P W b0 sp held m t [c]=some (xs[i]'hi):=by
 have e:=h i f E;rw[G,I,hc,J] at e;rw[e];simp[hi]
theorem Qkp {W:World}{l:List (String×DataW Unit)}{a b:String×DataW Unit}(hl:l=[a,b,("internal/strconv.uint64pow10",Lib.tabData .u64 Lib.pow10Tab)]) (h:laidMetH prog l W) (hp:(l.all λx=>x.2.handleName?.isNone)=true):Tb W:=by
 rw[Go.MakeChecks.laidMetH_plain _ _ _ hp,hl] at h;exact Lib.tabIs_of_head (n:=20) (g:=0) (by kernel_rfl) (t:=410) (by kernel_rfl) (by kernel_rfl) (e:=340) (by kernel_rfl) (by kernel_rfl) (by kernel_rfl) h.tail.tail
structure PwV where
 ns:LN
 ad:Option Addr
 n:Nat
 cp:Nat
 f0:Int
 f1:Int
 f2:Int
 bd:Int
def PwV.pl (l:PwV) (rs:List X4V):PlV:=⟨l.ns,.slice l.ad l.n l.cp,rs,l.f0,l.f1,l.f2,l.bd⟩
abbrev YV (l:PwV):LV:=bys l.ns++[.slice l.ad l.n l.cp,.int .i8 l.f0,.int .i8 l.f1,.int .i8 l.f2,.int .i8 l.bd]
structure PwA (w:World) (l:PwV):Prop where
 n:l.ns.length=147
 b:∀n∈l.ns,n<256
 f0:i8R l.f0
 f1:i8R l.f1
 f2:i8R l.f2
 bd:i8R l.bd
 r:l.n≤4→∃rs:List X4V,rs.length=l.n∧Zl [] w.heap (.slice l.ad l.n l.cp) l.n 4 (rs.flatMap Yx)
theorem PwA.pl {w w':World}{l:PwV}(h:PwA w l) (hs:Step [] w w') (E:l.n≤4):∃rs,PlA [] w'.heap (l.pl rs)∧rs.length=l.n:=by
 obtain ⟨rs,h1,h2⟩:=h.r E;exact ⟨rs,⟨h.n,h.b,by show Zl _ _ _ rs.length 4 _;rw[h1];exact h2.ext hs,h.f0,h.f1,h.f2,h.bd⟩,h1⟩
theorem Qkw {l:PwV}(h:l.ns.length=147):(YV l)[147]?=some (.slice l.ad l.n l.cp):=by
 show (YV l)[147+0]?=_;rw[YV,Mq (by rw[YK];omega),YK,h,MN];rfl
theorem QbY {c:Value}(h:∃n,c=.int .i8 n∧(Lit.int .i8 n).wf=true):∃n:Int,c=.int .i8 n∧i8R n:=by
 obtain ⟨n,rfl,h⟩:=h;simp only[Lit.wf,Bool.and_eq_true,decide_eq_true_eq] at h;rw[show IntKind.i8.min=-128 from rfl,show IntKind.i8.max=127 from rfl] at h;exact ⟨n,O,by omega⟩
def QiD (P:Program) (fs:Array Field) (n:Nat):Bool:=(List.range n).all λj=>fs.toList.any λf=>kT P .u8 5 f.type && decide (f.offset≤j∧j<f.offset+P.cellsOf f.type)
section
variable {H:Type} {enc:TypeId×Value→H} {P:Program} {W:World} {base b0:Nat} {sp:Nat→Bool} {held:Bool}
theorem Qf8 {fs:Array Field}{n m:Nat}{cs:LV}{xs:List (DataW H×List MemPlace)}(h:QiD P fs n=true) (E:xs.length=fs.size)
  (hx:∀(i:Nat) (f:Field),fs[i]?=some f→DataW.trod enc P W b0 sp held m f.type ((cs.drop f.offset).take (P.cellsOf f.type))=xs[i]?) {j:Nat} {c:Value} (G:j<n) (hc:cs[j]?=some c):∃k:Nat,c=.int .u8 (k:Int)∧k<256:=by
 have h1:=Mi.1 h j (List.mem_range.2 G);obtain ⟨f,I,h2⟩:=My.1 h1;simp only[Bool.and_eq_true,decide_eq_true_eq] at h2;obtain ⟨i,hi,J⟩:=LF I;have S:i<fs.size:=by simpa using hi
 have T:fs[i]?=some f:=by rw[Mw S,←J];simp
 exact QdP (K6 E hx T h2.1 h2.2.1 h2.2.2 hc)
theorem Qk5 {t e:TypeId}{c:Value}{fuel:Nat}{x:DataW H×List MemPlace}(I:P.underlying t=some (.slice e)) (he:kT P .u8 5 e=true) (hc:P.cellsOf e=4)
  (ha:Cell.okWide P W .any base t c) (hb:DataW.trod enc P W b0 sp held fuel t [c]=some x):∃a n cp,c=.slice a n cp∧(n≤12→∃u:List X4V,u.length=n∧Zl [] W.heap (.slice a n cp) n 4 (u.flatMap Yx)):=by
 rcases DataW.trod_slice I hb with ⟨E,_⟩ | ⟨a,len,cap,elems,rest,m,_,E,_,_,hl,_,hn,hf,_,_⟩
 ·simp at E;subst E;exact ⟨none,0,0,O,λ_=>⟨[],O,Zl.nil _ _ _⟩⟩
 simp at E;subst E;refine ⟨some a,len,cap,O,λho=>?_⟩;have each:∀i,i<len→∃d:X4V,∀r v,(Yx d)[r]?=some v→W.cell? (a.add (i*4+r))=some v:=by
  intro i hi;have J:=hf i hi;rw[hc,LA (show i<elems.length by omega)] at J;obtain ⟨cs,E,hg⟩:=MC.1 J;have hh:=KX 5 he hg;obtain ⟨ns,h1,h2,h3⟩:=Qa6 cs (λv G=>QdP (hh v G));unfold World.cells? at E;split at E
  ·have hp:cs.length=4:=by
    simpa using (UI E).1
   refine ⟨⟨ns,by omega,h3⟩,λr v G=>?_⟩;have hv':cs[r]?=some v:=by rw[h1];exact G
   have hk:r<4:=by have:=(LX.1 hv').1;omega
   have S:=(UI E).2 r r (by simp[hk]);rw[Lg.Addr.add_add,hv'] at S;exact S
  cases E
 obtain ⟨u,T,hu⟩:=Qe0 len each;refine ⟨u,T,?_⟩;have V:(u.flatMap Yx).length=u.length*4:=Go.Lg.JQ Yx 4 Um u;refine ⟨by rw[V,T],by omega,.inr ⟨a,cap,rfl,by omega,λ_ _=>by simp,λ_ _=>QgT I ha,λj v G=>?_⟩⟩;have hj:j<u.length*4:=by
  rw[←V];exact (LX.1 G).1
 have hi:j / 4<u.length:=by omega
 have hm:=XN Yx 4 Um u (j / 4) hi;have Y:j=j / 4*4+j % 4:=by omega
 have h3:(Yx (u[j / 4]'hi))[j % 4]?=some v:=by
  rw[←hm,LT,if_pos (Nat.mod_lt _ (by omega)),MD,←Y];exact G
 rw[←Jd];have:=hu (j / 4) hi (j % 4) v h3;rw[←Y] at this;exact this
theorem Qdl {v:Value}{d:DataW H}{ps:List MemPlace}{t tp te:Nat}{fs:Array Field}{T J S:Field}(hu:P.underlying t=some (.struct fs)) (ha:(P.cellTypes P.depth t).map (λts=>(ts.length,ts[147]?))=some (152,some tp)) (hc:P.cellsOf t=152)
  (g7:fs[7]?=some T) (V:fs[8]?=some J) (g9:fs[9]?=some S) (hk:T.type=tp) (o7:T.offset=147) (o8:J.offset=148) (o9:S.offset=151) (c7:P.cellsOf tp=1) (c8:P.cellsOf J.type=3) (c9:P.cellsOf S.type=1)
  (kb:QiD P fs 147=true) (Y:kT P .i8 5 J.type=true) (k9:kT P .i8 5 S.type=true) (hn:P.underlying tp=some (.slice te)) (ho:kT P .u8 5 te=true) (hp:P.cellsOf te=4)
  (hb:Value.okWide P W .any base t v) (h:DataW.Trod enc P W b0 sp held t v d ps):∃l:PwV,v=.agg (YV l).toArray∧PwA W l:=by
 simp only[Value.okWide,hu] at hb;obtain ⟨cs,rfl,he,ts,hq,_,hr⟩:=hb;rw[hq] at ha;have hg:=Option.some.inj ha;have hs:ts.length=152:=congrArg Prod.fst hg;have ht:ts[147]?=some tp:=congrArg Prod.snd hg;rw[hc] at he;obtain ⟨l⟩:=cs;have hl:l.length=152:=he;obtain ⟨fuel,hf⟩:=h;obtain ⟨xs,m,_,_,_,G,hv⟩:=DataW.trod_struct hu hf
 have E:∀(i:Nat) (f:Field),fs[i]?=some f→DataW.trod enc P W b0 sp held m f.type ((l.drop f.offset).take (P.cellsOf f.type))=xs[i]?:=hv;have h0:7<fs.size:=(LC.1 g7).1;have g0:∀c∈l.take 147,∃n:Nat,c=.int .u8 (n:Int)∧n<256:=λc hm=>by
  obtain ⟨j,hj,hh⟩:=LF hm;have hw:j<147:=by simp at hj;omega
  have hy:l[j]?=some c:=by
   rw[M0] at hh;rw[LA (by omega),hh]
  exact Qf8 kb G E hw hy
 obtain ⟨ns,e1,e2,e3⟩:=Qa6 _ g0;have hz:ns.length=147:=by rw[e2];simp;omega
 have I:∀j,j<152→∃c,l[j]?=some c:=λj hj=>⟨l[j]'(by omega),LA (by omega)⟩;obtain ⟨x1,q1⟩:=I 147 (by omega);obtain ⟨x2,q2⟩:=I 148 (by omega);obtain ⟨x3,q3⟩:=I 149 (by omega);obtain ⟨x4,q4⟩:=I 150 (by omega);obtain ⟨x5,q5⟩:=I 151 (by omega);have hi:l.drop 147=[x1,x2,x3,x4,x5]:=by
  apply Na;intro i;rw[MD]
  match i with
  | 0=>exact q1
  | 1=>exact q2
  | 2=>exact q3
  | 3=>exact q4
  | 4=>exact q5
  | i+5=>rw[MW (by omega)];rfl
 obtain ⟨y2,rfl,z2⟩:=QbY (K6 G E V Y (by omega) (by omega) q2);obtain ⟨y3,rfl,z3⟩:=QbY (K6 G E V Y (by omega) (by omega) q3);obtain ⟨y4,rfl,z4⟩:=QbY (K6 G E V Y (by omega) (by omega) q4);obtain ⟨y5,rfl,z5⟩:=QbY (K6 G E g9 k9 (by omega) (by omega) q5);have w7:=QkC hr 147 tp x1 (by simpa using q1) (by rw[hs];exact ht)
 have t7:=Qjz (c:=x1) E 7 g7 hk o7 c7 (by rw[hi];rfl) (by omega);obtain ⟨a,n,cp,rfl,hP⟩:=Qk5 hn ho hp w7 t7;refine ⟨⟨ns,a,n,cp,y2,y3,y4,y5⟩,?_,hz,e3,z2,z3,z4,z5,λh3=>hP (by have h4:n≤4:=h3;omega)⟩;show Value.agg l.toArray=.agg (bys ns++_).toArray;rw[←e1,←hi,MB]
end
set_option maxRecDepth 100000 in
theorem Qk6 {H:Type}{enc:TypeId×Value→H}{W:World}{base b0:Nat}{sp:Nat→Bool}{held:Bool}{v:Value}{d:DataW H}{ps:List MemPlace}(E:Value.okWide prog W .any base 36 v) (h:DataW.Trod enc prog W b0 sp held 36 v d ps) :
  ∃l:PwV,v=.agg (YV l).toArray∧PwA W l :=
 Qdl underlying36 (tp:=32) (by kernel_rfl) (by kernel_rfl) O O O O O O O (by kernel_rfl) (by kernel_rfl) (by kernel_rfl) (by kernel_rfl) (by kernel_rfl) (by kernel_rfl) underlying32 (by kernel_rfl) (by kernel_rfl) E h
theorem jw {L:LN}{w:World}{v:Value}{l:LI}(h:QL L w.heap v l) (x:Int) :
  QJ prog 21 [v,.int .i64 x] w λr w'=>r=.bool (decide (x∈l))∧w'=w:=by
 have I:=h.le;refine QJ.of_W func21 O ntmps21 results21 (by simp) ?_;refine Qc<|Lg.Qe<|Qf<|Qc<|Lg.Qe<|Qg<|QA (α:=Nat) [(4,17)] (λk=>[(5,.int .i64 k)]) (λk w'=>w'=w∧k≤l.length∧(x∈l↔x∈l.drop k)) (λk=>l.length - k) (by rfl) 0 Z ⟨O,Lk _,by simp⟩ ?_;rintro k g w' ⟨rfl,hk,hm⟩;refine Qf<|Qc<|Lg.Qb<|Lg.Qb<|Lg.x (Qs h O)<|Lg.x (QB O O)<|xe<|QF rfl (λh9=>?_) (λh9=>?_)
 ·refine Qy<|Qc<|Lg.Qe<|Qm ⟨[.bool false],Z,?_,O⟩;rw[Lo (by omega)] at hm;simp[tup,hm]
 have G:k<l.length:=by omega
 have hd:=QX G;refine Qi<|Qf<|Qg<|Qc<|Lg.Qb<|Lg.Qb<|xii h O O G λJ H=>Lg.x (Qv H O)<|Lg.Qb<|Lg.x (Q5 O O)<|xe<|Q4 rfl (λE=>?_) (λE=>?_)
 ·refine Qc<|Lg.Qe<|Qm ⟨[.bool true],Z,?_,O⟩;have:x∈l:=by rw[hm,hd,E];exact Ln
  simp[tup,this]
 refine Qi<|Qx<|Lg.Qb<|Lg.QN O O<|Lg.Qe<|⟨k+1,by omega,Z,O,by omega,?_⟩;rw[hm,hd,Lc];exact ⟨λh=>h.resolve_left (λe=>E e.symm),.inr⟩
theorem Qgj {w:World}{l:PwV}(h:PwA w l):QJ prog 13 [.agg (YV l).toArray] w λr w'=>r=.bool (decide (l.n≤4))∧Step [] w w':=by
 have E:=Qkw h.n;refine QJ.of_W func13 O ntmps13 results13 (by simp) ?_;refine Qc<|xl O<|QQ (us:=YV l) O λI J G S H=>Qe<|Qc<|x (Qa O)<|x (Qd H O E)<|x (jd O)<|x (X3 O O)<|Qe<|Qm ⟨[_],Z,?_,G⟩;exact congrArg Value.bool (decide_eq_decide.2 (by omega))
theorem QeX {L L':LN}{w:World}{v v':Value}{a b:LI}(h:QL L w.heap v a) (h':QL L' w.heap v' b):QJ prog 60 [v,v'] w λr w'=>r=.bool (mts a b)∧w'=w:=by
 have J:=h.le;refine QJ.of_W func60 O ntmps60 results60 (by simp) ?_;refine Qc<|Qe<|Qf<|Qc<|Qe<|Qg<|QA (α:=Nat) [(4,17)] (λk=>[(5,.int .i64 k)]) (λk w'=>w'=w∧k≤a.length∧mts a b=mts (a.drop k) b) (λk=>a.length - k) (by rfl) 0 Z ⟨O,Lk _,O⟩ ?_;rintro k g w' ⟨rfl,hk,hm⟩;refine Qf<|Qc<|Qb<|Qb<|x (Qs h O)<|x (QB O O)<|xe<|QF rfl (λh9=>?_) (λh9=>?_)
 ·refine Qy ?_;rw[Lo (by omega)] at hm;refine Qc<|Qe ?_;exact Qm ⟨[.bool false],Z,congrArg Value.bool hm.symm,O⟩
 have E:k<a.length:=by omega
 have H:mts (a.drop k) b=(decide ((a[k]'E)∈b) || mts (a.drop (k+1)) b):=by rw[QX E];rfl
 refine Qi<|Qf<|Qg<|Qc<|Qb<|Qb<|Qb<|xii (i:=k) h O O E λS I=>x (Qv I O)<|xl O<|xf<|(jw h' (a[k]'E)).mono ?_;rintro r2 w' ⟨rfl,rfl⟩;refine xe<|Q4 rfl (λG=>?_) (λG=>?_)
 ·refine Qc<|Qe<|Qm ⟨[.bool true],Z,?_,O⟩;rw[hm,H,decide_eq_true G];rfl
 refine Qi<|Qx<|Qb<|QN O O<|Qe<|⟨k+1,by omega,Z,O,by omega,?_⟩;rw[hm,H,decide_eq_false G,Nq]
theorem KU (co:List YG):∀(l:List YG) (i:Nat),(lmR co i l).length=l.length
 | [],_=>rfl
 | _::l,i=>by rw[lmR,LH,LH,KU co l]
theorem J0 (kd:Int):∀(l:List (List (Int×Int))) (i:Nat),(lmP kd i l).length=l.length
 | [],_=>rfl
 | _::l,i=>by rw[lmP,LH,LH,J0 kd l]
theorem js (co:List YG):∀(l:List YG) (i j:Nat) (h:j<l.length),(lmR co i l).take (j+1)=(lmR co i l).take j++[⟨1,((i+j:Nat):Int),ixs (λy:YG=>mts (l[j]'h).a.al y.a.al) 0 co⟩]
 | x::l,i,0,_=>by simp[lmR]
 | x::l,i,j+1,h=>by
  rw[lmR,L3,L3,js co l (i+1) j (by simpa using h),show i+1+j=i+(j+1) by omega];rfl
theorem UK (kd:Int):∀(l:List (List (Int×Int))) (i j:Nat) (h:j<l.length),(lmP kd i l).take (j+1)=(lmP kd i l).take j++[⟨kd,((i+j:Nat):Int),(l[j]'h).map (·.1)⟩]
 | x::l,i,0,_=>by simp[lmP]
 | x::l,i,j+1,h=>by
  rw[lmP,L3,L3,UK kd l (i+1) j (by simpa using h),show i+1+j=i+(j+1) by omega];rfl
theorem Qff (q:YG→Bool):∀(l:List IV) (i:Nat),ixs q i (l.map IV.it)=ixs (λv:IV=>q v.it) i l
 | [],_=>rfl
 | v::l,i=>by rw[LO,ixs,ixs,Qff q l (i+1)]
theorem Qkt (c:CL) {i:Nat}(h:i<c.cel.rq.length) (h':i<c.rq.length):c.cel.rq[i]'h=(c.rq[i]'h').it:=LY (f:=λx:IV=>x.it) (l:=c.rq) (i:=i) (h:=h)
theorem QjE (c:CL) {i:Nat}(h:i<(c.cel.ex.map (·.ls)).length) (h':i<c.ex.length):(c.cel.ex.map (·.ls))[i]'h=(c.ex[i]'h').ls:=by
 rw[LY];exact congrArg yL.ls (LY (f:=λx:XV=>x.x) (l:=c.ex) (i:=i) (h:=by simpa using h'))
theorem QjN (c:CL) {i:Nat}(h:i<(c.cel.cs.map (·.ts)).length) (h':i<c.cs.length):(c.cel.cs.map (·.ts))[i]'h=(c.cs[i]'h').ts:=by
 rw[LY];exact congrArg Xi.ts (LY (f:=λx:KV=>x.k) (l:=c.cs) (i:=i) (h:=by simpa using h'))
set_option maxHeartbeats 8000000 in
theorem KR {w:World}{c:CL}(h:Zu [] w.heap c) (hc:c.co.length≤8) (hn:c.rq.length+c.ex.length+c.cs.length≤1000) :
  QJ prog 15 [c.val] w λr w'=>Step [] w w'∧∃l:List MV,MvN w.heap.size w' r l∧l.map MV.m=lmd c.cel:=by
 have kf:∀q∈c.ex,q.ls.length≤1099511627776:=λq hq=>(h.ex.each q hq).le;have kg:∀q∈c.cs,q.ts.length≤1099511627776:=λq hq=>(h.cs.each q hq).le;refine QJ.of_W func15 O ntmps15 results15 (by simp) ?_;refine Qc<|xl O<|QQ (us:=c.cells) O λb1 w1 gh kh gi=>Qe<|Qc<|Qe ?_;have g0:=gh.size;have h1:=h.ext gh
 refine QU (α:=Value×List MV) [(3,6),(13,53)] (λz=>[(3,z.1)]) (λz w'=>Step [] w1 w'∧MvN w1.heap.size w' z.1 z.2∧z.2.map MV.m=lmR c.cel.co 0 c.cel.rq) (by rfl) ?_ ?_
 ·refine Qc<|Qe<|Qg<|QA (α:=Nat×Value×List MV) [(3,6),(13,53)] (λz=>[(3,z.2.1),(4,.int .i64 z.1)]) (λz w'=>z.1≤c.rq.length∧Step [] w1 w'∧MvN w1.heap.size w' z.2.1 z.2.2∧z.2.2.map MV.m=(lmR c.cel.co 0 c.cel.rq).take z.1) (λz=>c.rq.length - z.1) (by rfl) (0,Q9,[]) ⟨O,O,U⟩
   ⟨Lk _,Step.refl _ _,ZP.nil,O⟩ ?_
  rintro ⟨i,v,lm⟩ g w2 ⟨hi,V,J,Y⟩;simp only[] at hi J Y;have h2:=h1.ext V;have ho:=gi.ext V;have hB:=V.size;have hC:c.cel.rq.length=c.rq.length:=Lb ..;have gn:lm.length≤c.rq.length:=by
   have e:=congrArg List.length Y;rw[Lb,Lv] at e;omega
  refine Qf<|Qc<|Qb<|x (Qa O)<|x (Qd ho O O)<|x (Qs h2.rq.arr O)<|x (QB O O)<|xe<|QF O (λhp=>?_) (λhp=>?_)
  ·refine Qy ?_;have hD:c.rq.length≤i:=by have hE:¬(i:Int)<(c.rq.length:Int):=hp;omega
   rw[Ll (by rw[KU,hC];exact hD)] at Y;exact ⟨(v,lm),Z,V,J,Y⟩
  have G:i<c.rq.length:=by have hE:(i:Int)<(c.rq.length:Int):=hp;omega
  have hg:=js c.cel.co c.cel.rq 0 i (by omega);have g2:c.cel.rq[i]'(by omega)=(c.rq[i]'G).it:=Qkt c _ G;rw[g2,show c.cel.co=c.co.map IV.it from rfl,Qff,LM] at hg;have hm:=Lh G;refine Zb (c.rq[i]'G) λq hq=>?_;rw[hq] at hg hm
  refine Qi<|Qf<|Qg<|Qc<|Qb<|x (QD ⟨O,O,U⟩)<|xl O<|Qt (us:=[.int .i64 0,.int .i64 0,nS]) O λH w3 hF hr hG=>xl O<|Qo (us:=[.int .i64 1,.int .i64 i,nS]) hG O O O O ⟨O,O,O,U⟩ λw4 hH h3=>xe ?_;have hh:Step [] w2 w4:=hF.then1 hH hr;have hI:=hh.size;have hJ:=h3.lt;have h4:=h2.ext hh;have hK:=ho.ext hh;have go:=ho.lt
  have hM:b1∉[H]:=by simp only[List.mem_singleton];omega
  have g3:∀b∈[H],b∈([]:LN)∨w2.heap.size≤b:=λb hb=>.inr (by rw[La.1 hb];exact hr);have g4:Zu [H] w4.heap c:=(h2.up g3).ext hh
  refine Qf<|Qc<|Qe<|Qg<|QA (α:=Nat×Value) [(6,6),(22,49)] (λz=>[(6,.int .i64 z.1)]) (λz w'=>z.1≤c.co.length∧Step [H] w4 w'∧Q0 w'.heap H 39 [.int .i64 1,.int .i64 i,z.2]∧Qu 3 w4.heap.size w' z.2 (ixs (λy:IV=>mts q.p.a.al y.p.a.al) 0 (c.co.take z.1))) (λz=>c.co.length - z.1) (by rfl) (0,Q9) Z
   ⟨Lk _,Step.refl _ _,h3,QO _ _ _ _⟩ ?_
  rintro ⟨k,vl⟩ g I ⟨hk,S,hj,E⟩;simp only[] at hk hj E;have h5:=g4.st S;have hz:=hK.step S hM;have gp:=S.size;have h8:=KY (λy:IV=>mts q.p.a.al y.p.a.al) (c.co.take k) 0;rw[Lv] at h8;have h9:=Qk E;have hA:H∉ob vl:=QM E hJ;refine Qf<|Qc<|Qb<|x (Qa O)<|x (Qd hz O O)<|x (Qs h5.co.arr O)<|x (QB O O)<|xe<|QF O (λhs=>?_) (λhs=>?_)
  ·refine Qy ?_;have hN:c.co.length≤k:=by have hO:¬(k:Int)<(c.co.length:Int):=hs;omega
   rw[Ll hN] at E h8;have g5:ixs (λv:IV=>mts q.it.a.al v.it.a.al) 0 c.co=ixs (λy:IV=>mts q.p.a.al y.p.a.al) 0 c.co:=rfl;rw[g5] at hg;refine Zb (ixs (λy:IV=>mts q.p.a.al y.p.a.al) 0 c.co) λcs hP=>?_;rw[hP] at E h8 hg;have ht:Step [] w2 I:=hh.then1 S hr;have hQ:=J.ext ht
   refine Qx<|Qb<|x (Qr hj O O)<|xl O<|QC (us:=[Zm ⟨1,i,vl,cs⟩]) O O (by decide) (by exact (by decide:1*3≤1000000)) ⟨O,O,U⟩ λgq w6 ha gr hR=>?_;have gs:=ha.size;refine xl O<|QW (news:=Zm ⟨1,i,vl,cs⟩) (L:=[]) (Qq hQ.own ha) O O O (hR.at (by simp)) (Uf (q:=⟨1,i,vl,cs⟩) (QG E)) (by omega) (by omega) λv7 w7 hS he hT=>Qe ?_;have hU:=Qk J.own
   have hV:MvN w1.heap.size w7 v7 (lm++[⟨1,i,vl,cs⟩]):=ZP.app (N:=w4.heap.size) J (ht.trans ha) (Qq E ha) (by show cs.length≤_;omega) hI hB hS he hT;refine Qx<|Qb<|QN O O<|Qe<|⟨(i+1,v7,lm++[⟨1,i,vl,cs⟩]),by simp only[];omega,⟨O,O,U⟩,G,((V.trans ht).trans ha).then he (λb hb=>.inr (hU b hb).1),hV,?_⟩;simp only[];rw[Lt,Y];exact hg.symm
  have T:k<c.co.length:=by have hO:(k:Int)<(c.co.length:Int):=hs;omega
  have gt:=Lh T;have hu:=UP (λy:IV=>mts q.p.a.al y.p.a.al) T;refine Zb (c.co[k]'T) λy hy=>?_;rw[hy] at gt hu;have g6:=(h5.rq.each q hm).up (L':=[]) (by simp);have g7:=(h5.co.each y gt).up (L':=[]) (by simp);have h6:=h5.up (L':=[]) (by simp);have h0:Step [] I { I with drawn:=I.drawn+1 }:=Step.drew _ _
  refine Qi<|Qf<|Qg<|Qf<|QV (Step [] I) [(0,true),(1,true),(2,true),(3,true),(4,true),(5,true),(6,true),(7,true),(8,true),(9,true),(10,true),(11,true),(12,true),(13,true),(14,false)] mixed (by rfl) (by kernel_rfl) h0 ?_;refine p (λ_=>Qa O)<|pq (λ_ hc=>Qd (hz.ext hc) O O)<|p (λ_=>Qp)<|Lg.pig (g:=Zc) (i:=i) O Yz h6.rq.arr O O G λki gu=>?_;rw[hq] at gu
  refine p (λ_=>Q7 O)<|p (λ_=>Q7 O)<|pq (λ_ hc=>Qv (((gu.from 1).fld 0 q.p.va O).ext hc) O)<|p (λ_=>Qa O)<|pq (λ_ hc=>Qd (hz.ext hc) O O)<|p (λ_=>Qp)<|Lg.pig (g:=Zc) (i:=k) O Yz h6.co.arr O O T λkj gv=>?_;rw[hy] at gv;refine p (λ_=>Q7 O)<|p (λ_=>Q7 O)<|pq (λ_ hc=>Qv (((gv.from 1).fld 0 y.p.va O).ext hc) O)<|pk<|xf<|(QeX (g6.al.ext h0) (g7.al.ext h0)).mono ?_
  rintro kk w6 ⟨rfl,rfl⟩;refine ⟨h0,?_⟩;refine pe<|Q3 O (λgj=>?_) (λgj=>?_)
  rotate_left
  ·rw[if_neg (by rw[gj];decide),LD] at hu;refine Qi<|Qx<|Qb<|QN O O<|Qe ?_;exact ⟨(k+1,vl),by simp only[];omega,Z,T,S.trans h0.any,hj.ext h0,by simp only[];rw[hu];exact Qq E h0⟩
  rw[if_pos gj] at hu;refine Qx<|x (Qa O)<|x (Qd (hj.ext h0) O O)<|Qb<|xl O<|QC (us:=[[.int .i64 k]]) O O (by decide) (by simp) ⟨rfl,rfl,U⟩ λgw w7 he gx hW=>?_;have hf:=h0.trans he;have gy:=hf.size;refine xl O<|QW (news:=[.int .i64 k]) (L:=[]) (Qq E hf) O O O (hW.at (by simp)) (by simp[Value.oneCell']) (by omega) (by omega) λv8 w8 hv hw gz=>?_
  refine x (Qa O)<|xl O<|QE (j:=2) (u:=v8) ((hj.ext hf).step hw hA) O O (by simp) (QG hv) λw9 h7 hX=>xe ?_;refine Qx<|Qb<|QN O O<|Qe<|⟨(k+1,v8),by simp only[];omega,Z,T,((S.trans hf.any).then hw (λb hb=>.inr (h9 b hb).1)).trans' h7,hX,?_⟩;simp only[];rw[hu];exact Qu.snoc (Qj hv h7 (λb hb=>by have:=(Qk hv b hb).1;simp only[List.mem_singleton];omega))
 rintro ⟨v0,gk⟩ g g8 ⟨gl,hY,hZ⟩;simp only[] at hY hZ;refine QU (α:=Value×List MV) [(3,3),(7,9),(54,92)] (λz=>[(3,z.1)]) (λz w'=>Step [] w1 w'∧MvN w1.heap.size w' z.1 z.2∧z.2.map MV.m=lmR c.cel.co 0 c.cel.rq++lmP 2 0 (c.cel.ex.map (·.ls))) (by rfl) ?_ ?_
 ·refine Qc<|Qe<|Qg<|QA (α:=Nat×Value×List MV) [(3,3),(7,9),(54,92)] (λz=>[(3,z.2.1),(7,.int .i64 z.1)]) (λz w'=>z.1≤c.ex.length∧Step [] w1 w'∧MvN w1.heap.size w' z.2.1 z.2.2∧z.2.2.map MV.m=lmR c.cel.co 0 c.cel.rq++(lmP 2 0 (c.cel.ex.map (·.ls))).take z.1) (λz=>c.ex.length - z.1) (by rfl) (0,v0,gk) ⟨O,O,U⟩
   ⟨Lk _,gl,hY,by simp only[];rw[MQ,LD];exact hZ⟩ ?_
  rintro ⟨i,v,lm⟩ g w2 ⟨hi,V,J,Y⟩;simp only[] at hi J Y;have h2:=h1.ext V;have ho:=gi.ext V;have hB:=V.size;have hC:(c.cel.ex.map (·.ls)).length=c.ex.length:=by rw[Lb];exact Lb ..
  have gn:lm.length≤c.rq.length+c.ex.length:=by
   have e:=congrArg List.length Y;rw[Lb,Li,Lv,KU,show c.cel.rq.length=c.rq.length from Lb ..] at e;omega
  refine Qf<|Qc<|Qb<|x (Qa O)<|x (Qd ho O O)<|x (Qs h2.ex.arr O)<|x (QB O O)<|xe<|QF O (λhp=>?_) (λhp=>?_)
  ·refine Qy ?_;have hD:c.ex.length≤i:=by have hE:¬(i:Int)<(c.ex.length:Int):=hp;omega
   rw[Ll (by rw[J0,hC];exact hD)] at Y;exact ⟨(v,lm),Z,V,J,Y⟩
  have G:i<c.ex.length:=by have hE:(i:Int)<(c.ex.length:Int):=hp;omega
  have hg:=UK 2 (c.cel.ex.map (·.ls)) 0 i (by omega);rw[QjE c (by omega) G,LM] at hg;have hm:=Lh G;refine Zb (c.ex[i]'G) λq hq=>?_;rw[hq] at hg hm;refine Qi<|Qf<|Qg<|Qc<|Qb<|x (QD ⟨O,O,U⟩)<|xl O<|Qt (us:=[.int .i64 0,.int .i64 0,nS]) O λH w3 hF hr hG=>xl O<|Qo (us:=[.int .i64 2,.int .i64 i,nS]) hG O O O O ⟨O,O,O,U⟩ λw4 hH h3=>xe ?_
  have hh:Step [] w2 w4:=hF.then1 hH hr;have hI:=hh.size;have hJ:=h3.lt;have hK:=ho.ext hh;have go:=ho.lt;have hM:b1∉[H]:=by simp only[List.mem_singleton];omega
  have g9:=(h2.ex.each q hm).le;refine Qf<|Qc<|Qe<|Qg<|QA (α:=Nat×Value) [(9,9),(63,88)] (λz=>[(9,.int .i64 z.1)]) (λz w'=>z.1≤q.ls.length∧Step [H] w4 w'∧Q0 w'.heap H 39 [.int .i64 2,.int .i64 i,z.2]∧Qu 3 w4.heap.size w' z.2 ((q.ls.take z.1).map (·.1))) (λz=>q.ls.length - z.1) (by rfl) (0,Q9) Z
   ⟨Lk _,Step.refl _ _,h3,QO _ _ _ _⟩ ?_
  rintro ⟨k,vl⟩ g I ⟨hk,S,hj,E⟩;simp only[] at hk hj E;have h9:=Qk E;have upX:∀b∈H::ob vl,b∈([]:LN)∨w2.heap.size≤b:=λb hb=>.inr (by
   rcases Lc.1 hb with e | e
   ·rw[e];exact hr
   have:=(h9 b e).1;omega)
  have ga:Zu (H::ob vl) I.heap c:=((h2.up upX).ext hh).st (S.mono (by simp));have h6:Zu [] I.heap c:=ga.up (by simp);have gb:Zu (ob vl) I.heap c:=ga.up (λb hb=>.inl (Lm _ hb));have hz:=hK.step S hM;have gp:=S.size;have hA:H∉ob vl:=QM E hJ;have gm:b1∉ob vl:=QM E (by omega)
  refine Qf<|Qc<|Qb<|x (Qa O)<|x (Qd hz O O)<|Qb<|xig XY h6.ex.arr O O G λka gc=>?_;rw[hq] at gc;refine x (Q7 O)<|x (Qv (gc.fld 1 q.v O) O)<|x (Qs (h6.ex.each q hm) O)<|x (QB O O)<|xe<|QF O (λhs=>?_) (λhs=>?_)
  ·refine Qy ?_;have hN:q.ls.length≤k:=by have hO:¬(k:Int)<(q.ls.length:Int):=hs;omega
   rw[Ll hN] at E;have h8:(q.ls.map (·.1)).length=q.ls.length:=Lb ..;refine Zb (q.ls.map (·.1)) λcs hP=>?_;rw[hP] at E h8 hg;have ht:Step [] w2 I:=hh.then1 S hr;have hQ:=J.ext ht;refine Qx<|Qb<|x (Qr hj O O)<|xl O<|QC (us:=[Zm ⟨2,i,vl,cs⟩]) O O (by decide) (by exact (by decide:1*3≤1000000)) ⟨O,O,U⟩ λgq w6 ha gr hR=>?_
   have gs:=ha.size;refine xl O<|QW (news:=Zm ⟨2,i,vl,cs⟩) (L:=[]) (Qq hQ.own ha) O O O (hR.at (by simp)) (Uf (q:=⟨2,i,vl,cs⟩) (QG E)) (by omega) (by omega) λv7 w7 hS he hT=>Qe ?_;have hU:=Qk J.own;have hV:MvN w1.heap.size w7 v7 (lm++[⟨2,i,vl,cs⟩]):=ZP.app (N:=w4.heap.size) J (ht.trans ha) (Qq E ha) (by show cs.length≤_;omega) hI hB hS he hT
   refine Qx<|Qb<|QN O O<|Qe<|⟨(i+1,v7,lm++[⟨2,i,vl,cs⟩]),by simp only[];omega,⟨O,O,U⟩,G,((V.trans ht).trans ha).then he (λb hb=>.inr (hU b hb).1),hV,?_⟩;simp only[];rw[Lt,Y,hg,Lz];rfl
  have T:k<q.ls.length:=by have hO:(k:Int)<(q.ls.length:Int):=hs;omega
  have hu:(q.ls.take (k+1)).map (·.1)=(q.ls.take k).map (·.1)++[(q.ls[k]'T).1]:=by rw[Le T,Lt];rfl
  have kb:((q.ls.take k).map (·.1)).length=k:=by rw[Lb,Lv];omega
  refine Zb (q.ls[k]'T) λy hy=>?_;rw[hy] at hu;refine Qi<|Qf<|Qg<|QV (Step (ob vl) I) [(0,true),(1,true),(2,true),(3,true),(4,true),(5,true),(6,true),(7,true),(8,true),(9,true),(10,true),(11,true),(12,false),(13,false),(14,true),(15,false)] mixed (by rfl) (by kernel_rfl) (Step.drew _ _) ?_
  refine p (λ_=>Qa O)<|pq (λ_ hc=>Qd (hj.step hc hA) O O)<|p (λ_=>Qa O)<|pq (λ_ hc=>Qd (hz.step hc gm) O O)<|p (λ_=>Qp)<|Lg.pig (i:=i) O XY gb.ex.arr O O G λkc ge=>?_;rw[hq] at ge;refine p (λ_=>Q7 O)<|pq (λ_ hc=>Qv ((ge.fld 1 q.v O).st hc) O)<|p (λ_=>Qp)<|Lg.pig (i:=k) O Yr (gb.ex.each q hm) O O T λke gg=>?_;rw[hy] at gg
  refine p (λ_=>Q7 O)<|pq (λ_ hc=>Qv ((gg.fld 0 (.int .i64 y.1) O).st hc) O)<|pk<|QC (us:=[[.int .i64 y.1]]) O O (by decide) (by simp) ⟨rfl,rfl,U⟩ λgw w7 he gx hW=>⟨((Step.drew _ _).trans he),?_⟩;have hf:Step [] I w7:=(Step.drew _ _).trans he;have gy:=hf.size
  refine pk<|QW (news:=[.int .i64 y.1]) (L:=[]) (Qq E hf) O O O (hW.at (by simp)) (by simp[Value.oneCell']) (by omega) (by omega) λv8 w8 hv hw gz=>⟨(hf.any (L:=ob vl)).trans' hw,?_⟩;refine p (λ_=>Qa O)<|pkl (hl:=by kernel_rfl)<|QE (j:=2) (u:=v8) ((hj.ext hf).step hw hA) O O (by simp) (QG hv) λw9 h7 hX=>pe ?_
  refine Qx<|Qb<|QN O O<|Qe<|⟨(k+1,v8),by simp only[];omega,Z,T,((S.trans hf).then hw (λb hb=>.inr (h9 b hb).1)).trans' h7,hX,?_⟩;simp only[];rw[hu];exact Qu.snoc (Qj hv h7 (λb hb=>by have:=(Qk hv b hb).1;simp only[List.mem_singleton];omega))
 rintro ⟨v0,gk⟩ g g8 ⟨gl,hY,hZ⟩;simp only[] at hY hZ
 refine Qf<|Qc<|Qe<|Qg<|QA (α:=Nat×Value×List MV) [(3,3),(10,12),(93,131)] (λz=>[(3,z.2.1),(10,.int .i64 z.1)]) (λz w'=>z.1≤c.cs.length∧Step [] w1 w'∧MvN w1.heap.size w' z.2.1 z.2.2∧z.2.2.map MV.m=(lmR c.cel.co 0 c.cel.rq++lmP 2 0 (c.cel.ex.map (·.ls)))++(lmP 3 0 (c.cel.cs.map (·.ts))).take z.1) (λz=>c.cs.length - z.1) (by rfl) (0,v0,gk) ⟨O,O,U⟩
  ⟨Lk _,gl,hY,by simp only[];rw[MQ,LD];exact hZ⟩ ?_
 rintro ⟨i,v,lm⟩ g w2 ⟨hi,V,J,Y⟩;simp only[] at hi J Y;have h2:=h1.ext V;have ho:=gi.ext V;have hB:=V.size;have hC:(c.cel.cs.map (·.ts)).length=c.cs.length:=by rw[Lb];exact Lb ..
 have gn:lm.length≤c.rq.length+c.ex.length+c.cs.length:=by
  have e:=congrArg List.length Y;rw[Lb,Li,Lv,Li,KU,J0,Lb,show c.cel.ex.length=c.ex.length from Lb ..,show c.cel.rq.length=c.rq.length from Lb ..] at e;omega
 refine Qf<|Qc<|Qb<|x (Qa O)<|x (Qd ho O O)<|x (Qs h2.cs.arr O)<|x (QB O O)<|xe<|QF rfl (λhp=>?_) (λhp=>?_)
 ·refine Qy ?_;have hD:c.cs.length≤i:=by have hE:¬(i:Int)<(c.cs.length:Int):=hp;omega
  rw[Ll (by rw[J0,hC];exact hD)] at Y;refine Qc<|Qb<|Qe<|Qm ⟨[v],Z,gh.trans V,lm,⟨Zk J.own g0,λq hq L hL=>J.each q hq L (λb hb=>(hL b hb).imp (λh=>by omega) id)⟩,?_⟩;rw[Y,Lz];rfl
 have G:i<c.cs.length:=by have hE:(i:Int)<(c.cs.length:Int):=hp;omega
 have hg:=UK 3 (c.cel.cs.map (·.ts)) 0 i (by omega);rw[QjN c (by omega) G,LM] at hg;have hm:=Lh G;refine Zb (c.cs[i]'G) λq hq=>?_;rw[hq] at hg hm;refine Qi<|Qf<|Qg<|Qc<|Qb<|x (QD ⟨O,O,U⟩)<|xl O<|Qt (us:=[.int .i64 0,.int .i64 0,nS]) O λH w3 hF hr hG=>xl O<|Qo (us:=[.int .i64 3,.int .i64 i,nS]) hG O O O O ⟨O,O,O,U⟩ λw4 hH h3=>xe ?_
 have hh:Step [] w2 w4:=hF.then1 hH hr;have hI:=hh.size;have hJ:=h3.lt;have hK:=ho.ext hh;have go:=ho.lt;have hM:b1∉[H]:=by simp only[List.mem_singleton];omega
 have g9:=(h2.cs.each q hm).le;refine Qf<|Qc<|Qe<|Qg<|QA (α:=Nat×Value) [(12,12),(102,127)] (λz=>[(12,.int .i64 z.1)]) (λz w'=>z.1≤q.ts.length∧Step [H] w4 w'∧Q0 w'.heap H 39 [.int .i64 3,.int .i64 i,z.2]∧Qu 3 w4.heap.size w' z.2 ((q.ts.take z.1).map (·.1))) (λz=>q.ts.length - z.1) (by rfl) (0,Q9) Z
  ⟨Lk _,Step.refl _ _,h3,QO _ _ _ _⟩ ?_
 rintro ⟨k,vl⟩ g I ⟨hk,S,hj,E⟩;simp only[] at hk hj E;have h9:=Qk E;have upX:∀b∈H::ob vl,b∈([]:LN)∨w2.heap.size≤b:=λb hb=>.inr (by
  rcases Lc.1 hb with e | e
  ·rw[e];exact hr
  have:=(h9 b e).1;omega)
 have ga:Zu (H::ob vl) I.heap c:=((h2.up upX).ext hh).st (S.mono (by simp));have h6:Zu [] I.heap c:=ga.up (by simp);have gb:Zu (ob vl) I.heap c:=ga.up (λb hb=>.inl (Lm _ hb));have hz:=hK.step S hM;have gp:=S.size;have hA:H∉ob vl:=QM E hJ;have gm:b1∉ob vl:=QM E (by omega)
 refine Qf<|Qc<|Qb<|x (Qa O)<|x (Qd hz O O)<|Qb<|xig Xo h6.cs.arr O O G λka gc=>?_;rw[hq] at gc;refine x (Q7 O)<|x (Qv (gc.fld 1 q.v O) O)<|x (Qs (h6.cs.each q hm) O)<|x (QB O O)<|xe<|QF rfl (λhs=>?_) (λhs=>?_)
 ·refine Qy ?_;have hN:q.ts.length≤k:=by have hO:¬(k:Int)<(q.ts.length:Int):=hs;omega
  rw[Ll hN] at E;have h8:(q.ts.map (·.1)).length=q.ts.length:=Lb ..;refine Zb (q.ts.map (·.1)) λcs hP=>?_;rw[hP] at E h8 hg;have ht:Step [] w2 I:=hh.then1 S hr;have hQ:=J.ext ht;refine Qx<|Qb<|x (Qr hj O O)<|xl O<|QC (us:=[Zm ⟨3,i,vl,cs⟩]) O O (by decide) (by exact (by decide:1*3≤1000000)) ⟨O,O,U⟩ λgq w6 ha gr hR=>?_
  have gs:=ha.size;refine xl O<|QW (news:=Zm ⟨3,i,vl,cs⟩) (L:=[]) (Qq hQ.own ha) O O O (hR.at (by simp)) (Uf (q:=⟨3,i,vl,cs⟩) (QG E)) (by omega) (by omega) λv7 w7 hS he hT=>Qe ?_;have hU:=Qk J.own;have hV:MvN w1.heap.size w7 v7 (lm++[⟨3,i,vl,cs⟩]):=ZP.app (N:=w4.heap.size) J (ht.trans ha) (Qq E ha) (by show cs.length≤_;omega) hI hB hS he hT
  refine Qx<|Qb<|QN O O<|Qe<|⟨(i+1,v7,lm++[⟨3,i,vl,cs⟩]),by simp only[];omega,⟨O,O,U⟩,G,((V.trans ht).trans ha).then he (λb hb=>.inr (hU b hb).1),hV,?_⟩;simp only[];rw[Lt,Y,hg,Lz];rfl
 have T:k<q.ts.length:=by have hO:(k:Int)<(q.ts.length:Int):=hs;omega
 have hu:(q.ts.take (k+1)).map (·.1)=(q.ts.take k).map (·.1)++[(q.ts[k]'T).1]:=by rw[Le T,Lt];rfl
 have kb:((q.ts.take k).map (·.1)).length=k:=by rw[Lb,Lv];omega
 refine Zb (q.ts[k]'T) λy hy=>?_;rw[hy] at hu;refine Qi<|Qf<|Qg<|QV (Step (ob vl) I) [(0,true),(1,true),(2,true),(3,true),(4,true),(5,true),(6,true),(7,true),(8,true),(9,true),(10,true),(11,true),(12,false),(13,false),(14,true),(15,false)] mixed (by rfl) (by kernel_rfl) (Step.drew _ _) ?_
 refine p (λ_=>Qa O)<|pq (λ_ hc=>Qd (hj.step hc hA) O O)<|p (λ_=>Qa O)<|pq (λ_ hc=>Qd (hz.step hc gm) O O)<|p (λ_=>Qp)<|Lg.pig (i:=i) O Xo gb.cs.arr O O G λkc ge=>?_;rw[hq] at ge;refine p (λ_=>Q7 O)<|pq (λ_ hc=>Qv ((ge.fld 1 q.v O).st hc) O)<|p (λ_=>Qp)<|Lg.pig (i:=k) O Yr (gb.cs.each q hm) O O T λke gg=>?_;rw[hy] at gg
 refine p (λ_=>Q7 O)<|pq (λ_ hc=>Qv ((gg.fld 0 (.int .i64 y.1) O).st hc) O)<|pk<|QC (us:=[[.int .i64 y.1]]) O O (by decide) (by simp) ⟨rfl,rfl,U⟩ λgw w7 he gx hW=>⟨((Step.drew _ _).trans he),?_⟩;have hf:Step [] I w7:=(Step.drew _ _).trans he;have gy:=hf.size
 refine pk<|QW (news:=[.int .i64 y.1]) (L:=[]) (Qq E hf) O O O (hW.at (by simp)) (by simp[Value.oneCell']) (by omega) (by omega) λv8 w8 hv hw gz=>⟨(hf.any (L:=ob vl)).trans' hw,?_⟩;refine p (λ_=>Qa O)<|pkl (hl:=by kernel_rfl)<|QE (j:=2) (u:=v8) ((hj.ext hf).step hw hA) O O (by simp) (QG hv) λw9 h7 hX=>pe ?_
 refine Qx<|Qb<|QN O O<|Qe<|⟨(k+1,v8),by simp only[];omega,Z,T,((S.trans hf).then hw (λb hb=>.inr (h9 b hb).1)).trans' h7,hX,?_⟩;simp only[];rw[hu];exact Qu.snoc (Qj hv h7 (λb hb=>by have:=(Qk hv b hb).1;simp only[List.mem_singleton];omega))
theorem KS (kd:Int) (m:Jy):∀(l:LN) (i:Nat),m∈Xx kd i l↔m.kd=kd∧(i:Int)≤m.ix∧m.ix<((i+l.length:Nat):Int)∧m.co=setK (l.getD (m.ix.toNat - i) 0) 8
 | [],i=>by simp[Xx];intros;omega
 | b::l,i=>by
  rw[Xx,Lc,KS kd m l (i+1),LH];constructor
  ·rintro (h | ⟨h1,h2,h3,E⟩)
   ·subst h;refine ⟨O,Nf _,by simp only[];omega,?_⟩;rw[show (Int.toNat (i:Int)) - i=0 by omega];rfl
   refine ⟨h1,by omega,by omega,?_⟩;rw[E,show m.ix.toNat - i=m.ix.toNat - (i+1)+1 by omega];rfl
  rintro ⟨h1,h2,h3,E⟩;by_cases e:m.ix=(i:Int)
  ·left;rw[show m.ix.toNat - i=0 by omega] at E;obtain ⟨a,b',G⟩:=m;simp only[] at h1 e E;subst h1;subst e;rw[E];rfl
  right;refine ⟨h1,by omega,by omega,?_⟩;rw[E,show m.ix.toNat - i=m.ix.toNat - (i+1)+1 by omega];rfl
theorem jo {c:Zv}{m:Jy}:m∈mods c↔(1≤m.kd∧m.kd≤3)∧(0≤m.ix∧m.ix<((srK c m.kd).length:Int))∧m.co=setK ((srK c m.kd).getD m.ix.toNat 0) 8:=by
 unfold mods;rw[Lj,Lj,KS,KS,KS];simp only[Nat.zero_add,Nat.sub_zero,Int.natCast_zero];unfold srK;by_cases h1:m.kd=1
 ·simp[h1,and_assoc]
 by_cases h2:m.kd=2
 ·simp[h2,and_assoc]
 by_cases h3:m.kd=3
 ·simp[h3,and_assoc]
 simp[h1,h2,h3]
 intros;omega
def lkE (c:Zv) (m:Jy):Int:=if m.kd<1∨3<m.kd then 11 else if m.ix<0∨((srK c m.kd).length:Int)≤m.ix then 10 else if m∈lmd c then 0 else 13
theorem Qhp {c:Zv}(h:D25 c) (m:Jy):mdE c m=lkE c m:=by
 unfold mdE lkE;rw[if_neg (by rw[h.ck];decide)];split
 ·rfl
 split
 ·rfl
 rename_i h1 h2;have e:(m.co=setK ((srK c m.kd).getD m.ix.toNat 0) 8)↔m∈lmd c:=by
  rw[←h.lmd,jo];exact ⟨λh=>⟨by omega,by omega,h⟩,λh=>h.2.2⟩
 simp only[e]
theorem QcK {w:World}{q:MV}(hi:q.v.oneCell'=true) :
  QJ prog 34 [.agg (Zm q).toArray] w λr w'=>Step [] w w'∧∃J S T,r=.agg #[q.v,J,S,T] ∧
   ∀L:LN,(∀b∈L,b<w.heap.size)→QL L w'.heap J (prt q.m).rq∧QL L w'.heap S (prt q.m).ex∧QL L w'.heap T (prt q.m).cs:=by
 have hp:prt q.m=⟨q.co,if q.kd=1 then [q.ix] else [],if q.kd=2 then [q.ix] else [],if q.kd≠1∧q.kd≠2 then [q.ix] else []⟩:=rfl
 refine QJ.of_W func34 O ntmps34 results34 (by simp) ?_;refine Qc<|xl O<|QQ (us:=Zm q) O λb1 w1 hl h3 hs=>xl O<|Qt (us:=[nS,nS,nS,nS]) O λb2 w2 hj h4 hm=>xe ?_;have hn:=hs.ext hj;refine Qc<|x (Qa O)<|x (Qd hn O O)<|x (QD ⟨Vu hi,U⟩)<|xl O<|Qt (us:=[nS,nS,nS,nS]) O λb3 w3 ht hu hv=>xl O<|Qo (us:=[q.v,Q9,Q9,Q9]) hv O O O O ⟨hi,O,O,O,U⟩ λw4 hw hc=>xe ?_
 have he:Step [] w2 w4:=ht.then1 hw hu;have ho:=(hl.trans hj).trans he;have hf:=hn.ext he;have hy:=hm.ext he;have h5:=hl.size;have h6:=hj.size;have h7:=he.size;have h8:=hc.lt;have h9:=hm.lt;refine QU (α:=Value×Value×Value) [(7,24)] (λ_=>[]) (λz w'=>Step [b3] w4 w'∧Q0 w'.heap b3 95 [q.v,z.1,z.2.1,z.2.2]∧ZG [z.1,z.2.1,z.2.2] ∧
   ∀L:LN,(∀b∈L,b<w4.heap.size)→QL L w'.heap z.1 (prt q.m).rq∧QL L w'.heap z.2.1 (prt q.m).ex∧QL L w'.heap z.2.2 (prt q.m).cs) (by rfl) ?_ ?_
 ·refine Qc<|x (Qa O)<|x (Qd hf O O)<|xe<|Qg<|Qc<|x (Q5 O O)<|Qe<|Q4 O (λhg=>?_) (λhg=>?_)
  ·have k1:q.kd=1:=hg;have k2:¬q.kd=2:=by omega
   rw[if_pos k1,if_neg k2,if_neg (λh=>h.1 k1)] at hp;rw[hp];refine Qx<|x (Qa O)<|x (Qd hf O O)<|xl O<|QC (us:=[[.int .i64 q.ix]]) O O (by decide) (by simp) ⟨rfl,rfl,U⟩ λG V E hq Y=>x (Qa rfl)<|xl rfl<|QE (j:=1) (u:=.slice (some ⟨G,0,none⟩) 1 1) (hc.ext E) rfl rfl (by simp) rfl λw6 H ha=>xe ?_
   refine ⟨(.slice (some ⟨G,0,none⟩) 1 1,Q9,Q9),U,E.any.trans' H,ha,⟨O,O,O,U⟩,λL I=>⟨?_,Zl.nil _ _ _,Zl.nil _ _ _⟩⟩;exact (Y.step H (by simp only[List.mem_singleton];omega)).arr (L:=L) (λhb=>by have:=I G hb;omega) (n:=1) (cap:=1) (sz:=1) O (by omega) (Lr _)
  refine Qc<|x (Q5 O O)<|Qe<|Q4 O (λhk=>?_) (λhk=>?_)
  ·have k2:q.kd=2:=hk;have k1:¬q.kd=1:=hg;rw[if_neg k1,if_pos k2,if_neg (λh=>h.2 k2)] at hp;rw[hp];refine Qx<|x (Qa O)<|x (Qd hf O O)<|xl O<|QC (us:=[[.int .i64 q.ix]]) O O (by decide) (by simp) ⟨rfl,rfl,U⟩ λG V E hq Y=>x (Qa rfl)<|xl rfl<|QE (j:=2) (u:=.slice (some ⟨G,0,none⟩) 1 1) (hc.ext E) rfl rfl (by simp) rfl λw6 H ha=>xe ?_
   refine ⟨(Q9,.slice (some ⟨G,0,none⟩) 1 1,Q9),U,E.any.trans' H,ha,⟨O,O,O,U⟩,λL I=>⟨Zl.nil _ _ _,?_,Zl.nil _ _ _⟩⟩;exact (Y.step H (by simp only[List.mem_singleton];omega)).arr (L:=L) (λhb=>by have:=I G hb;omega) (n:=1) (cap:=1) (sz:=1) O (by omega) (Lr _)
  have k1:¬q.kd=1:=hg;have k2:¬q.kd=2:=hk;rw[if_neg k1,if_neg k2,if_pos ⟨k1,k2⟩] at hp;rw[hp];refine Qx<|x (Qa O)<|x (Qd hf O O)<|xl O<|QC (us:=[[.int .i64 q.ix]]) O O (by decide) (by simp) ⟨rfl,rfl,U⟩ λG V E hq Y=>x (Qa rfl)<|xl rfl<|QE (j:=3) (u:=.slice (some ⟨G,0,none⟩) 1 1) (hc.ext E) rfl rfl (by simp) rfl λw6 H ha=>xe ?_
  refine ⟨(Q9,Q9,.slice (some ⟨G,0,none⟩) 1 1),U,E.any.trans' H,ha,⟨O,O,O,U⟩,λL I=>⟨Zl.nil _ _ _,Zl.nil _ _ _,?_⟩⟩;exact (Y.step H (by simp only[List.mem_singleton];omega)).arr (L:=L) (λhb=>by have:=I G hb;omega) (n:=1) (cap:=1) (sz:=1) O (by omega) (Lr _)
 rintro ⟨J,S,T⟩ g V ⟨E,hr,hh,hI⟩;simp only[] at hr hh hI;have hz:Step [] w V:=ho.then1 E (by omega);have h0:=hy.step E (by simp only[List.mem_singleton];omega);have hA:=E.size;refine Qc<|x (Qr hr O O)<|xl O<|Qo (us:=[q.v,J,S,T]) h0 O O O O ⟨hi,hh.1,hh.2.1,hh.2.2.1,U⟩ λw6 H h2=>xe ?_
 refine Qm ⟨[.agg [q.v,J,S,T].toArray],⟨⟨_,O,Qw O (h2.at (L:=[]) (by simp)).cells⟩,U⟩,hz.then1 H (by omega),J,S,T,rfl,λL I=>?_⟩;have h1:=hI (b2::L) (λb hb=>by
  rcases Lc.1 hb with rfl | hb
  ·omega
  have:=I b hb;have:=ho.size;omega)
 have dn:∀{v:Value} {l:LI},QL (b2::L) V.heap v l→QL L w6.heap v l:=λh=>(h.st (H.mono (by simp))).up (λb hb=>.inl (by simp[hb]));exact ⟨dn h1.1,dn h1.2.1,dn h1.2.2⟩
def QaH:Zv:=⟨[],[],[],[],[]⟩
theorem Qk1 {N:Nat}{H:Array Obj}{us:LV}{E:Int}{C:Zv}(G:E≠0→us=Z9) (I:E=0→Qdx N H (.agg us.toArray) C) :
  ∃c:CL,us=c.cells∧c.cel=(if E=0 then C else QaH)∧∀L:LN,(∀b∈L,b<N)→Zu L H c:=by
 by_cases h:E=0
 ·obtain ⟨c,h1,h2,h3⟩:=I h;refine ⟨c,?_,by rw[if_pos h];exact h2,h3⟩;have e:us.toArray=#[c.ve,c.vc,c.vr,c.vx,c.vk]:=by
   have J:Value.agg us.toArray=.agg #[c.ve,c.vc,c.vr,c.vx,c.vk]:=h1;exact Value.agg.inj J
  have e2:=congrArg Array.toList e;simpa using e2
 refine ⟨⟨nS,nS,nS,nS,nS,[],[],[],[],[]⟩,G h,by rw[if_neg h];rfl,λL _=>⟨⟨Zl.nil _ _ 5,nofun⟩,⟨Zl.nil _ _ 5,nofun,nofun⟩,⟨Zl.nil _ _ 5,nofun,nofun⟩,⟨Zl.nil _ _ 2,nofun,nofun⟩,⟨Zl.nil _ _ 3,nofun,nofun⟩⟩⟩
theorem Qho {c:Zv}(h:D25 c) {m:Jy}(hm:m∈lmd c):mdE c m=0:=by
 rw[Qhp h];have h1:=jo.1 (by rw[h.lmd];exact hm);unfold lkE;rw[if_neg (by omega),if_neg (by omega),if_pos hm]
theorem QeO {L:LN}{H:Array Obj}:Zr L H (nS) (nS) (nS) ⟨[],0,[],[]⟩:=⟨Zl.nil _ _ _,Zl.nil _ _ _,Zl.nil _ _ _⟩
def rmT (E:List Jy):Nat→LI
 | 0=>[]
 | n+1=>rmT E n++(if (E.any λm=>decide ((n:Int)∈m.co))=true then [] else [(n:Int)])
theorem zL (G:List Jy) (x:Int):∀n,x∈rmT G n↔(0≤x∧x<(n:Int))∧∀m∈G,x∉m.co
 | 0=>by simp[rmT];intros;omega
 | n+1=>by
  rw[rmT,Lj,zL G x n];split
  ·rename_i h;obtain ⟨m,hm,h1⟩:=My.1 h;have h2:=of_decide_eq_true h1;constructor
   ·rintro (⟨h3,E⟩ | h3)
    ·exact ⟨by omega,E⟩
    cases h3
   rintro ⟨h3,E⟩;refine .inl ⟨?_,E⟩;have:x≠(n:Int):=λe=>E m hm (by rw[e];exact h2);omega
  rename_i h;have h1:∀m∈G,(n:Int)∉m.co:=λm hm h2=>h (My.2 ⟨m,hm,decide_eq_true h2⟩);constructor
  ·rintro (⟨h3,E⟩ | h3)
   ·exact ⟨by omega,E⟩
   rw[La.1 h3];exact ⟨by omega,h1⟩
  rintro ⟨h3,E⟩;by_cases e:x=(n:Int)
  ·exact .inr (La.2 e)
  exact .inl ⟨by omega,E⟩
theorem zN (E:List Jy):∀n,Yg (rmT E n)
 | 0=>List.Pairwise.nil
 | n+1=>by
  rw[rmT];split
  ·rw[LD];exact zN E n
  refine Md.2 ⟨zN E n,MZ _ _,λa ha b hb=>?_⟩;have:=((zL E a n).1 ha).1;rw[La.1 hb];omega
theorem zM (E:List Jy):∀n,(rmT E n).length≤n
 | 0=>Lr _
 | n+1=>by
  rw[rmT,Li];have:=zM E n;split <;> simp <;> omega
theorem zO {j:Nat}(G:j<16):∀(l:LN) (E:Nat),(l.foldl (λl b=>l &&& (65535 ^^^ b)) E).testBit j=true↔E.testBit j=true∧∀b∈l,b.testBit j=false
 | [],E=>by simp
 | b::l,E=>by
  rw[LL,zO G l,Nat.testBit_and,Nat.testBit_xor,show (65535:Nat)=2 ^ 16 - 1 from rfl,Nat.testBit_two_pow_sub_one,decide_eq_true G,Lu,MO];constructor
  ·rintro ⟨⟨h1,h2⟩,h3⟩;exact ⟨h1,by simpa using h2,h3⟩
  rintro ⟨h1,h2,h3⟩;exact ⟨⟨h1,by simpa using h2⟩,h3⟩
theorem yc {kd:Int}{m:Jy}:∀(l:LN) (i:Nat),m∈Xx kd i l→∃b∈l,m.co=setK b 8
 | [],_,h=>by cases h
 | b::l,i,h=>by
  rw[Xx] at h;rcases Lc.1 h with h | h
  ·subst h;exact ⟨b,Ln ..,O⟩
  obtain ⟨b',h1,h2⟩:=yc l (i+1) h;exact ⟨b',Lm _ h1,h2⟩
theorem Uh {kd:Int}{b:Nat}:∀(l:LN) (i:Nat),b∈l→∃m∈Xx kd i l,m.co=setK b 8
 | [],_,h=>by cases h
 | b'::l,i,h=>by
  rw[Xx];rcases Lc.1 h with h | h
  ·subst h;exact ⟨_,Ln ..,O⟩
  obtain ⟨m,h1,h2⟩:=Uh (kd:=kd) l (i+1) h;exact ⟨m,Lm _ h1,h2⟩
theorem Qjf {c:Zv}{m:Jy}(h:m∈mods c):∃b∈sets c,m.co=setK b 8:=by
 unfold mods at h;unfold sets;rcases Lj.1 h with h | h
 ·obtain ⟨b,h1,h2⟩:=yc _ _ h;exact ⟨b,LJ _ h1,h2⟩
 rcases Lj.1 h with h | h
 ·obtain ⟨b,h1,h2⟩:=yc _ _ h;exact ⟨b,LZ _ (LJ _ h1),h2⟩
 obtain ⟨b,h1,h2⟩:=yc _ _ h;exact ⟨b,LZ _ (LZ _ h1),h2⟩
theorem Qhk {c:Zv}{b:Nat}(h:b∈sets c):∃m∈mods c,m.co=setK b 8:=by
 unfold sets at h;unfold mods;rcases Lj.1 h with h | h
 ·obtain ⟨m,h1,h2⟩:=Uh (kd:=1) _ 0 h;exact ⟨m,LJ _ h1,h2⟩
 rcases Lj.1 h with h | h
 ·obtain ⟨m,h1,h2⟩:=Uh (kd:=2) _ 0 h;exact ⟨m,LZ _ (LJ _ h1),h2⟩
 obtain ⟨m,h1,h2⟩:=Uh (kd:=3) _ 0 h;exact ⟨m,LZ _ (LZ _ h1),h2⟩
theorem Qg4 {c:Zv}(H:c.co.length≤8):rem c=rmT (mods c) c.co.length:=by
 refine US (JF _ _) (zN _ _) λx=>?_;unfold rem;rw[JJ,zL];constructor
 ·rintro ⟨k,hk,rfl,E⟩;unfold zP at E;rw[zO (by omega),Nat.testBit_two_pow_sub_one,decide_eq_true_iff] at E;refine ⟨by omega,λm hm hx=>?_⟩;obtain ⟨b,hb,e⟩:=Qjf hm;rw[e,JJ] at hx;obtain ⟨k',_,I,h1⟩:=hx;have e2:k'=k:=by omega
  subst e2;rw[E.2 b hb] at h1;cases h1
 rintro ⟨h1,h2⟩;refine ⟨x.toNat,by omega,by omega,?_⟩;unfold zP;rw[zO (by omega),Nat.testBit_two_pow_sub_one,decide_eq_true_iff];refine ⟨by omega,λb hb=>?_⟩;obtain ⟨m,hm,e⟩:=Qhk hb;have h3:=h2 m hm;rw[e,JJ] at h3;refine Bool.eq_false_iff.2 λG=>h3 ⟨x.toNat,by omega,by omega,G⟩
theorem QbM {c:CL}{ml:List MV}(hD:D25 c.cel) (E:ml.map MV.m=lmd c.cel):ml.length≤8:=by
 have e:=congrArg List.length E;unfold lmd at e;rw[Lb,Li,Li,KU,J0,J0,Lb,Lb] at e;have:=hD.r2;have:=hD.x2;have:=hD.k1;omega
theorem D25.szs {c:CL}(hD:D25 c.cel):c.co.length≤3∧c.rq.length+c.ex.length+c.cs.length≤5:=by
 have E:c.rq.length=c.cel.rq.length:=(Lb ..).symm;have G:c.ex.length=c.cel.ex.length:=(Lb ..).symm;have H:c.cs.length=c.cel.cs.length:=(Lb ..).symm;have I:c.co.length=c.cel.co.length:=(Lb ..).symm;have h1:=hD.r2;have h2:=hD.x2;have h3:=hD.k1;have J:=hD.c3;omega
set_option maxHeartbeats 4000000 in
theorem Ux {w:World}{c:CL}(h:Zu [] w.heap c) (hD:D25 c.cel) :
  QJ prog 42 [c.val] w λr w'=>Step [] w w'∧Qu 3 w.heap.size w' r (rmT (lmd c.cel) c.co.length):=by
 have h6:=hD.szs;refine QJ.of_W func42 O ntmps42 results42 (by simp) ?_;refine Qc<|xl O<|QQ (us:=c.cells) O λb1 w1 hh h7 hj=>Qe<|Qc<|Qe<|Qc<|x (Qr hj O O)<|xl O<|xf<|(KR (h.ext hh) (by omega) (by omega)).mono ?_;rintro r2 V ⟨hl,ml,hm,hn⟩;have h8:=QbM hD hn;have hs:Zl [] V.heap r2 ml.length 3 (ml.flatMap Zm):=hm.arr (by omega) (by simp);have Y:=hh.trans hl;have ht:=Y.size
 have hu:=hj.ext hl;have hv:=h.ext Y;refine Qe<|Qf<|Qc<|Qe<|Qg<|QA (α:=Nat×Value) [(3,3),(5,7),(10,38)] (λz=>[(3,z.2),(5,.int .i64 z.1)]) (λz w'=>z.1≤c.co.length∧Step [] V w'∧Qu 3 V.heap.size w' z.2 (rmT (lmd c.cel) z.1)) (λz=>c.co.length - z.1) (by rfl) (0,Q9) ⟨O,O,U⟩
  ⟨Lk _,Step.refl _ _,QO _ _ _ _⟩ ?_
 rintro ⟨i,v⟩ g w3 ⟨hi,E,H⟩;simp only[] at hi H;have h9:=E.size;have hA:=zM (lmd c.cel) i;have hge:=Qk H;refine Qf<|Qc<|Qb<|x (Qa O)<|x (Qd (hu.ext E) O O)<|x (Qs (hv.ext E).co.arr O)<|x (QB O O)<|xe<|QF rfl (λha=>?_) (λha=>?_)
 ·refine Qy ?_;have hw:i=c.co.length:=by have hy:¬(i:Int)<(c.co.length:Int):=ha;omega
  subst hw;refine Qc<|Qb<|Qe ?_;exact Qm ⟨[v],Z,Y.trans E,Zk H ht⟩
 have ho:i<c.co.length:=by have hy:(i:Int)<(c.co.length:Int):=ha;omega
 refine Qi<|Qf<|Qg<|Qc<|Qe ?_;have hp:=hs.ext E;refine Qf<|Qc<|Qe<|Qg<|QA (α:=Nat×Bool) [(6,7),(17,32)] (λz=>[(6,.bool z.2),(7,.int .i64 z.1)]) (λz w'=>z.1≤ml.length∧w'=w3∧z.2=((ml.map MV.m).take z.1).any λm=>decide ((i:Int)∈m.co)) (λz=>ml.length - z.1) (by rfl) (0,false) ⟨O,O,U⟩
  ⟨Lk _,O,O⟩ ?_
 rintro ⟨k,ib⟩ g w4 ⟨hk,rfl,I⟩;simp only[] at hk I;refine Qf<|Qc<|Qb<|Qb<|x (Qs hp O)<|x (QB O O)<|xe<|QF rfl (λhc=>?_) (λhc=>?_)
 ·refine Qy ?_;have hz:ml.length≤k:=by have J:¬(k:Int)<(ml.length:Int):=hc;omega
  rw[Ll (by rw[Lb];exact hz),hn] at I;have S:rmT (lmd c.cel) (i+1)=rmT (lmd c.cel) i++(if ib=true then [] else [(i:Int)]):=by rw[rmT,I]
  refine Qc<|Qb<|x (Zs O)<|xe<|Q3 O (λhe=>?_) (λhe=>?_)
  rotate_left
  ·have h0:ib=true:=by cases ib with | true=>rfl | false=>cases he
   rw[if_pos h0,LD] at S;refine Qi<|Qx<|Qb<|QN O O<|Qe ?_;exact ⟨(i+1,v),by simp only[];omega,⟨O,O,U⟩,ho,E,by simp only[];rw[S];exact H⟩
  have h1:¬ib=true:=by cases ib with | true=>cases he | false=>simp
  rw[if_neg h1] at S;refine Qx<|Qb<|Qb<|xl O<|QC (us:=[[.int .i64 i]]) O O (by decide) (by simp) ⟨rfl,rfl,U⟩ λhB w5 hf hC h2=>?_;have hE:=hf.size
  refine xl O<|QW (news:=[.int .i64 i]) (L:=[]) (Qq H hf) O O O (h2.at (by simp)) (by simp[Value.oneCell']) (by omega) (by omega) λv6 w6 h3 h4 hF=>Qe<|Qx<|Qb<|QN rfl rfl<|Qe<|⟨(i+1,v6),by simp only[];omega,⟨O,O,U⟩,ho,(E.trans hf).then h4 (λb hb=>.inr (hge b hb).1),?_⟩;simp only[];rw[S];exact Qu.snoc h3
 have G:k<ml.length:=by have J:(k:Int)<(ml.length:Int):=hc;omega
 have hr:=Lh G;have T:((ml.map MV.m).take (k+1)).any (λm=>decide ((i:Int)∈m.co))=(((ml.map MV.m).take k).any (λm=>decide ((i:Int)∈m.co)) || decide ((i:Int)∈(ml[k]'G).co)):=by
  rw[Le (by rw[Lb];exact G),LY,List.any_append];simp[MV.m]
 rw[←I] at T;refine Qi<|Qf<|Qg<|Qx<|xB Qp (λhg=>?_) (λhg=>?_)
 ·refine Qb<|xs O<|xs O<|xs O<|xs O<|xs O<|xs O<|xs O<|x (Qn O)<|Qe<|Qx<|Qb<|QN O O<|Qe<|⟨(k+1,true),by simp only[];omega,⟨O,O,U⟩,G,O,?_⟩;simp only[];rw[T,show ib=true from hg,Bool.true_or]
 refine Qb<|Qb<|Qb<|xig UF hp O O G λhG J=>?_;refine Zb (ml[k]'G) λq hq=>?_;rw[hq] at J hr T;have h5:QL [] w4.heap q.v q.co:=(hm.each q hr [] (by simp)).ext E;refine x (Q7 O)<|x (Qv (J.fld 2 q.v O) O)<|Qb<|xl O<|xf<|(jw h5 (i:Int)).mono ?_;rintro r7 w7 ⟨rfl,rfl⟩;refine x (Qn O)<|Qe<|Qx<|Qb<|QN O O<|Qe<|⟨(k+1,decide ((i:Int)∈q.co)),by simp only[];omega,⟨O,O,U⟩,G,O,?_⟩
 simp only[];rw[T,show ib=false from hg,Nq]
structure AvO (base:Nat) (w:World) (v:Value) (l:List AV):Prop where
 own:w.ownsRow base 58 4 v l.length (l.flatMap Q8)
 each:∀p∈l,Zr (ob v) w.heap p.va p.vm p.ve p.a
theorem AvO.app {base:Nat}{E H:World}{v G:Value}{l:List AV}{q:AV}(h:AvO base E v l) (hq:Zr (ob v) E.heap q.va q.vm q.ve q.a)
  (I:H.ownsRow base 58 4 G (l.length+1) (l.flatMap Q8++Q8 q)) (J:Step (ob v) E H) (S:∀b∈ob G,b∈ob v∨E.heap.size≤b):AvO base H G (l++[q]):=by
 have key:∀{p:AV},Zr (ob v) E.heap p.va p.vm p.ve p.a→Zr (ob G) H.heap p.va p.vm p.ve p.a:=λhp =>
  ((hp.up (L':=ob v++ob G) (λb hb=>(Lj.1 hb).elim .inl (S b))).st (J.mono (λb hb=>LJ _ hb))).up (λb hb=>.inl (LZ _ hb))
 refine ⟨?_,λp hp=>?_⟩
 ·rw[Li,Lx];simpa using I
 rcases Lj.1 hp with hp | hp
 ·exact key (h.each p hp)
 rw[La.1 hp];exact key hq
theorem AvO.ext {base:Nat}{w w':World}{v:Value}{l:List AV}(h:AvO base w v l) (hs:Step [] w w'):AvO base w' v l:=⟨Qq h.own hs,λp hp=>(h.each p hp).ext hs⟩
theorem AvO.auts {base:Nat}{w:World}{v:Value}{l:List AV}(h:AvO base w v l) (E:l.length≤1099511627776):YS [] w.heap v l :=
 ⟨QT h.own E (λb hb G=>by cases G),λp hp=>(h.each p hp).up (by simp)⟩
set_option maxHeartbeats 4000000 in
theorem QcX {w:World}{c:CL}(h:Zu [] w.heap c) (hD:D25 c.cel) (ka:Kb w 4096) :
  QJ prog 24 [c.val] w λr w'=>Step [] w w'∧∃v,r=.tuple #[v,.int .i64 (Xw c.cel)]∧(Xw c.cel≠0→v=nS)∧(Xw c.cel=0→∃ps:List AV,ps.map (·.a)=VY c.cel∧YS [] w'.heap v ps):=by
 have pd:=hD.szs;have hC:=hD.lmd;have hX:Xw c.cel=msL c.cel (lmd c.cel):=by rw[Qak,if_neg (by rw[hD.ck];decide),hC]
 have kb:rem c.cel=rmT (lmd c.cel) c.co.length:=by
  have e:=Qg4 (c:=c.cel) (by have:=hD.c3;omega);rw[hC,show c.cel.co.length=c.co.length from Lb ..] at e;exact e
 have kc:VY c.cel=(lmd c.cel).map (VO c.cel)++(rem c.cel).map (coA c.cel):=by rw[←hC];rfl
 refine Zb (Xw c.cel) λE hE=>?_;rw[hE] at hX ⊢;refine QJ.of_W func24 O ntmps24 results24 (by simp) ?_;refine Qc<|xl O<|QQ (us:=c.cells) O λb1 w1 hY pf hZ=>x Qh<|Qe<|Qc<|Qe<|Qf<|Qc<|x (Qr hZ O O)<|xl O<|xf<|(KR (h.ext hY) (by omega) (by omega)).mono ?_;rintro r2 w2 ⟨ga,ml,gb,ho⟩;have pg:=QbM hD ho;have h6:Zl [] w2.heap r2 ml.length 3 (ml.flatMap Zm):=gb.arr (by omega) (by simp)
 have hG:=hY.trans ga;have ph:=hG.size;have gc:=hZ.ext ga;have pj:=h.ext hG;refine x (Qs h6 O)<|Qb<|xe ?_
 refine Qg<|QA (α:=Nat×Value×List AV) [(2,4),(6,9),(15,41)] (λz=>[(4,z.2.1),(15,.int .i64 z.1)]) (λz w'=>z.1≤ml.length∧Step [] w2 w'∧AvO w2.heap.size w' z.2.1 z.2.2∧z.2.2.map (·.a)=((ml.map MV.m).take z.1).map (VO c.cel)∧msL c.cel ((ml.map MV.m).drop z.1)=E) (λz=>ml.length - z.1) (by rfl) (0,Q9,[]) ⟨O,O,U⟩
  ⟨Lk _,Step.refl _ _,⟨QO _ _ _ _,λp hp=>by cases hp⟩,rfl,by rw[List.drop_zero,ho];exact hX.symm⟩ ?_
 rintro ⟨k,v,l⟩ g w3 ⟨hk,ha,hr,ht,G⟩;simp only[] at hk hr ht G;have hH:=hG.trans ha;have pm:=ha.size;have pn:l.length=k:=by have:=congrArg List.length ht;rw[Lb,Lb,Lv,Lb] at this;omega
 have hI:=gc.ext ha;have h3:=h.ext hH;have hge:=Qk hr.own;refine Qc<|x (QB O O)<|xe<|Qf<|QF O (λhJ=>?_) (λhJ=>?_)
 ·refine Qy ?_;have ge:ml.length≤k:=by have Y:¬(k:Int)<(ml.length:Int):=hJ;omega
  rw[Ll (by rw[Lb];exact ge),ho] at ht;rw[Lo (by rw[Lb];exact ge)] at G;have gg:E=0:=G.symm;refine Qf<|Qc<|x (Qr hI O O)<|xl O<|xf<|(Ux h3 hD).mono ?_;rintro r4 w4 ⟨h7,hK⟩;have ke:=zM (lmd c.cel) c.co.length;rw[←kb] at hK ke;have kf:QL [] w4.heap r4 (rem c.cel):=Qu.ints hK (by omega) (by simp)
  have po:=h7.size;refine x (Qs kf O)<|Qb<|xe ?_
  refine Qg<|QA (α:=Nat×Value×List AV) [(4,4),(11,11),(45,58)] (λz=>[(4,z.2.1),(45,.int .i64 z.1)]) (λz w'=>z.1≤(rem c.cel).length∧Step (ob v) w4 w'∧AvO w2.heap.size w' z.2.1 z.2.2∧z.2.2.map (·.a)=(lmd c.cel).map (VO c.cel)++((rem c.cel).take z.1).map (coA c.cel)∧∀b∈ob z.2.1,b∈ob v∨w4.heap.size≤b) (λz=>(rem c.cel).length - z.1) (by rfl) (0,v,l) ⟨O,O,U⟩
   ⟨Lk _,Step.refl _ _,hr.ext h7,by simp only[List.take_zero,List.map_nil,List.append_nil];exact ht,λb hb=>.inl hb⟩ ?_
  rintro ⟨j,vj,lj⟩ g H ⟨hj,I,hu,hv,hM⟩;simp only[] at hj hu hv hM;have kg:=Qk hu.own;have gh:=hH.trans h7;have kh:Step [] w H:=gh.then I (λb hb=>.inr (by have:=(hge b hb).1;omega));have pp:=I.size;have pt:lj.length≤200:=by
   have e1:=congrArg List.length hv;rw[Lb,Li,Lb,Lb,Lv,←ho,Lb] at e1;omega
  have ki:Q0 H.heap b1 47 c.cells:=(hI.ext h7).step I (λhb=>by have:=(hge b1 hb).1;have:=gc.lt;omega);have kj:QL [] H.heap r4 (rem c.cel):=((Qu.ints hK (by omega) (L:=ob v) (λb hb=>(hge b hb).2)).st I).up (by simp);refine Qc<|x (QB O O)<|xe<|Qf<|QF O (λhO=>?_) (λhO=>?_)
  ·refine Qy ?_;have kk:(rem c.cel).length≤j:=by have Y:¬(j:Int)<((rem c.cel).length:Int):=hO;omega
   rw[Ll kk,←kc] at hv;refine Qc<|Qb<|x Qh<|Qe ?_;exact Qm ⟨[vj,.int .i64 0],⟨O,O,U⟩,kh,vj,by rw[gg];rfl,λh0=>absurd gg h0,λ_=>⟨lj,hv,hu.auts (by omega)⟩⟩
  have he:j<(rem c.cel).length:=by have Y:(j:Int)<((rem c.cel).length:Int):=hO;omega
  have gi:(rem c.cel).take (j+1)=(rem c.cel).take j++[(rem c.cel)[j]'he]:=Le he;have gj:=Qay _ (Lh he);refine Qi<|Qf<|Qg<|Qc<|xii (i:=j) kj O O he λpu gk=>?_;refine Zb ((rem c.cel)[j]'he) λi hi=>?_;rw[hi] at gk gi gj;have kn:c.cel.co.length=c.co.length:=Lb ..;rw[kn] at gj;have ko:i=(i.toNat:Int):=by omega
  have hw:i.toNat<c.co.length:=by omega
  have hf:=Lh hw;have gl:coA c.cel i=(c.co[i.toNat]'hw).p.a:=by
   show ((c.co.map IV.it).getD i.toNat _).a=_;simp[List.getD,hw,IV.it]
  refine x (Qv gk O)<|Qe ?_;have kp:Zu (ob v++ob vj) w4.heap c:=(h.up (L':=ob v++ob vj) (λb hb=>.inr (by
   rcases Lj.1 hb with hb | hb
   ·have:=(hge b hb).1;omega
   have:=(kg b hb).1;omega))).ext gh
  have h5:Zu (ob v++ob vj) H.heap c:=kp.st (I.mono (λb hb=>LJ _ hb));refine Qx<|Qb<|x (Qa O)<|x (Qd ki O O)<|Qb<|xig (g:=Zc) (i:=i.toNat) Yz (h5.up (L':=[]) (by simp)).co.arr rfl (congrArg (Value.int .i64) ko) hw λpw gm=>?_;refine Zb (c.co[i.toNat]'hw) λq hq=>?_;rw[hq] at gm hf gl
  have J:Zr (ob vj) H.heap q.p.va q.p.vm q.p.ve q.p.a:=(h5.co.each q hf).up (λb hb=>.inl (LZ _ hb));refine x (Q7 O)<|x (QI (us:=Q8 q.p) (gm.from 1) O O)<|xl O<|QC (us:=[Q8 q.p]) O O (by decide) (by simp) ⟨rfl,rfl,U⟩ λpz w6 hy p0 kq=>?_;have p3:=hy.size
  refine xl O<|QW (news:=Q8 q.p) (L:=[]) (Qq hu.own hy) O O O (kq.at (by simp)) (yC J.al.one J.mr.one J.ed.one) (by omega) (by omega) λv7 w7 kr gn go=>Qe ?_;have kt:AvO w2.heap.size w7 v7 (lj++[q.p]):=(hu.ext hy).app (J.ext hy) kr gn go;refine Qx<|QN O O<|Qb<|xe<|⟨(j+1,v7,lj++[q.p]),by simp only[];omega,⟨O,O,U⟩,he,(I.trans hy).then gn hM,kt,?_,λb hb=>?_⟩
  ·simp only[];rw[gi,Lt,hv,Lt,Lz,Mm,Mm,gl]
  rcases go b hb with h9 | h9
  ·exact hM b h9
  exact .inr (by omega)
 have T:k<ml.length:=by have Y:(k:Int)<(ml.length:Int):=hJ;omega
 have hf:=Lh T;have gp:(ml.map MV.m).take (k+1)=(ml.map MV.m).take k++[(ml[k]'T).m]:=by
  rw[Le (by rw[Lb];exact T),LY]
 have ku:(ml.map MV.m).drop k=(ml[k]'T).m::(ml.map MV.m).drop (k+1):=by
  rw[LK (by rw[Lb];exact T),LY]
 rw[ku,UG] at G;refine Qi<|Qf<|Qg<|Qc<|xig UF (h6.ext ha) O O T λp4 gq=>?_;refine Zb (ml[k]'T) λq hq=>?_;rw[hq] at gq gp hf G;have kv:mdE c.cel q.m=0:=Qho hD (by rw[←ho];exact LG hf);have hz:msE c.cel q.m=if Vo c.cel (prt q.m)≠0 then Vo c.cel (prt q.m) else suE (KH c.cel (prt q.m)):=by
  unfold msE;rw[show mcE c.cel q.m=Vo c.cel (prt q.m) by unfold mcE;rw[kv,if_neg (by decide)],show mcC c.cel q.m=KH c.cel (prt q.m) from rfl]
 have kw:VO c.cel q.m=suA (KH c.cel (prt q.m)):=rfl;have J:QL [] w3.heap q.v q.co:=(gb.each q hf [] (by simp)).ext ha;refine x (QI gq O O)<|xl O<|Qt (us:=[.int .i64 0,.int .i64 0,nS]) O λb6 w8 kx ky kz=>xl O<|Qo (us:=Zm q) kz O O O O ⟨O,O,J.one,U⟩ λV k0 k4=>xe ?_;have h8:Step [] w3 V:=kx.then1 k0 ky;have k5:=h3.ext h8;have k6:=J.ext h8;have k7:=hI.ext h8
 have k8:Step [] V { V with drawn:=V.drawn+1 }:=Step.drew _ _
 have k9:=λ{L:LN} {w:World} {v0 v1 v2 v3:Value}=>@U9 L w c v0 v1 v2 v3 (prt q.m);refine Zb (Vo c.cel (prt q.m)) λS hS=>?_;rw[hS] at hz;refine QU (α:=Nat×CL) [(7,8),(19,25)] (λz=>[(7,.pointer (some ⟨z.1,0,none⟩)),(8,.int .i64 S)]) (λz w'=>Step [] V w'∧Q0 w'.heap z.1 47 z.2.cells∧z.2.cel=(if S=0 then KH c.cel (prt q.m) else QaH)∧Zu [] w'.heap z.2) (by rfl) ?_ ?_
 ·refine VI (α:=CL) (Step [] V) [(0,true),(1,true)] [(2,false),(3,false),(4,true),(5,true),(6,true)] 7 7 [(8,false),(9,true)] [] [(19,25)] [(19,19),(22,25)] (λz=>[(24,z.val),(25,.int .i64 S)])
   (λz own H=>(∀b∈own,V.heap.size≤b)∧z.cel=(if S=0 then KH c.cel (prt q.m) else QaH)∧∀L:LN,(∀b∈L,b∉own)→Zu L H.heap z)
   (λv H=>∃b,v=.pointer (some ⟨b,0,none⟩)∧V.heap.size≤b∧Q0 H.heap b 47 Z9) mixed (by rfl) (by kernel_rfl) (by rfl) O k8 (by simp) ?_ ?_ ?_ ?_
  ·rintro v own wa wb ⟨b,rfl,hb,hB⟩ hs hn;exact ⟨b,O,hb,hB.step hs (hn b (by simp[ow]))⟩
  ·rintro z own wa wb ⟨h1,h2,h3⟩ hs;exact ⟨h1,h2,λL hL=>(h3 L hL).ext hs⟩
  ·rintro z g own wz v ⟨i1,i2,i3⟩ ma ⟨b8,rfl,mc,mf⟩ mg;have mh:=(mg b8 (by simp[ow])).1;have gr:=i3 [b8] (λb hb=>by rw[La.1 hb];exact mh);refine pkl (hl:=by kernel_rfl)<|Qo (us:=z.cells) mf O O O O gr.ones λH I mj=>p (λ_=>Qh)<|pe ?_;exact ⟨(b8,z),⟨O,O,U⟩,ma.then1 I mc,mj,i2,(gr.st I).up (by simp)⟩
  refine pq (λ_ hc=>Qr (k7.ext hc) O O)<|pq (λ_ hc=>Qr (k4.ext hc) O O) <|
   pe ⟨λg wf gs=>Qt (us:=Z9) O λb p5 gt gu gv=>⟨gt,gs.trans gt,⟨b,O,LP gs.size gu,gv⟩,λx hx=>?_⟩,?_⟩
  ·have mo:x=b:=by
    have mq:x∈[b]:=hx;simpa using mq
   subst mo;exact ⟨gu,gv.lt⟩
  refine f2k λx1 p1 c1=>xf<|(QcK J.one).mono ?_;rintro p6 y1 ⟨gw,v1,v2,v3,rfl,hP⟩;have hQ:=hP [] (by simp);refine ⟨c1.trans gw,ja x1.heap.size y1.heap.size,gw.any,λb hb=>.inr (ZV.1 hb),?_⟩;refine f2k λx2 p2 c2=>xf<|(k9 (k5.ext c2) (k6.ext c2) (hQ.1.ext p2) (hQ.2.1.ext p2) (hQ.2.2.ext p2)).mono ?_;rintro p7 y2 ⟨gx,p8,gy,_,_,gz,g0⟩;rw[hS] at gy gz g0;subst gy
  obtain ⟨ms,rfl,mt,h6⟩:=Qk1 gz g0;refine ⟨c2.trans gx,ja x2.heap.size y2.heap.size,gx.any,λb hb=>.inr (ZV.1 hb),?_⟩;refine f2p (λ_=>Qp)<|f2p (λ_=>Ql O O)<|f2p (λ_=>Ql O O)<|f2e ⟨ms,⟨O,O,U⟩,λb hb=>by have:=(ZV.1 hb).1;have:=c2.size;omega,mt,λL hL=>?_⟩;have h1:=h6 (L.filter λb=>decide (b<x2.heap.size)) (λb hb=>by
   have:=(LS.1 hb).2;exact of_decide_eq_true this)
  refine h1.up λb hb=>?_;by_cases mu:b<x2.heap.size
  ·exact .inl (LS.2 ⟨hb,decide_eq_true mu⟩)
  refine .inr (Nat.not_lt.1 λh3=>hL b hb (ZV.2 ⟨by omega,h3⟩))
 rintro ⟨b7,c2⟩ g p9 ⟨mv,g2,hR,g3⟩;simp only[] at g2 hR g3;have hT:=h8.trans mv;have hU:=hH.trans hT;refine Qf<|Qc<|Qb<|x (Za O O)<|xe<|Q4 rfl (λY=>?_) (λY=>?_)
 ·have hg:S≠0:=Y;rw[if_pos hg] at hz;rw[hz,if_pos hg] at G;subst G;refine Qc<|Qb<|x Qh<|Qe ?_;exact Qm ⟨[nS,.int .i64 S],⟨O,O,U⟩,hU,nS,O,λ_=>O,λh0=>absurd h0 hg⟩
 have hg:S=0:=Ls.1 Y;rw[if_neg (by rw[hg];decide)] at hz;rw[if_pos hg] at hR;rw[hz] at G;refine Qi<|Qc<|x (Qr g2 O O)<|xl O<|xf<|(Kc g3 (ka.ext hU)).mono ?_;rintro qc mw ⟨my,ta,tm,te,h4,hh,mz,hV⟩;rw[hR] at h4 mz hV;refine Zb (suE (KH c.cel (prt q.m))) λF hF=>?_;rw[hF] at h4 hV G;have m0:Yv (KH c.cel (prt q.m))=F:=hF;rw[m0] at h4
 refine Zb (if F=0 then (suA (KH c.cel (prt q.m))).st else 0) λN hN=>?_
 rw[hN] at h4;subst h4;refine Qb<|x (Ql O O)<|x (Ql O O)<|xl O<|Qt (us:=Jj) O λb9 qf m1 m2 m3=>xl O<|Qo (us:=[ta,.int .i64 N,tm,te]) m3 O O O O ⟨hh.1,O,hh.2.1,hh.2.2.1,U⟩ λm4 m5 m6=>Qe ?_;have g4:Step [] mw m4:=m1.then1 m5 m2;have g5:=my.trans g4;refine Qf<|Qc<|Qb<|x (Za O O)<|xe<|Q4 rfl (λhW=>?_) (λhW=>?_)
 ·have hm:F≠0:=hW;rw[if_pos hm] at G;subst G;refine Qc<|Qb<|x Qh<|Qe ?_;exact Qm ⟨[nS,.int .i64 F],⟨O,O,U⟩,hU.trans g5,nS,O,λ_=>O,λh0=>absurd h0 hm⟩
 have hm:F=0:=Ls.1 hW;rw[if_neg (by rw[hm];decide)] at G;rw[if_pos hm] at hN;subst hN;have g6:=hV hm (ob v) (λb hb=>by have:=(hge b hb).2;have:=hT.size;omega);rw[←kw] at g6;refine Qi<|Qx<|Qb<|x (Qr m6 O O)<|xl O<|QC (us:=[Q8 ⟨ta,tm,te,VO c.cel q.m⟩]) O O (by decide) (by simp) ⟨rfl,rfl,U⟩ λql qo g7 qq m7=>?_;have hA:=(hT.trans g5).trans g7
 have qr:=hA.size;refine xl rfl<|QW (news:=Q8 ⟨ta,tm,te,VO c.cel q.m⟩) (L:=[]) (Qq hr.own hA) O O O (m7.at (by simp)) (yC (p:=⟨ta,tm,te,VO c.cel q.m⟩) hh.1 hh.2.1 hh.2.2.1) (by omega) (by omega) λg8 m8 m9 g9 pa=>Qe ?_;have pc:AvO w2.heap.size m8 g8 (l++[⟨ta,tm,te,VO c.cel q.m⟩]):=(hr.ext hA).app (q:=⟨ta,tm,te,VO c.cel q.m⟩) ((g6.ext g4).ext g7) m9 g9 pa
 refine Qx<|QN O O<|Qb<|xe<|⟨(k+1,g8,l++[⟨ta,tm,te,VO c.cel q.m⟩]),by simp only[];omega,⟨O,O,U⟩,T,(ha.trans hA).then g9 (λb hb=>.inr (hge b hb).1),pc,?_,G⟩;simp only[];rw[gp,Lt,ht,Lt];rfl
theorem qu {w:World}{vl:Value}{ps:List AV}(h:YS [] w.heap vl ps) (ho:∀p∈ps,Zg p.a) (he:Kb w 4096) :
  QJ prog 26 [vl] w λr w'=>Step [] w w'∧∃va,r=.tuple #[va,.int .i64 (Vl (ps.map (·.a)))]∧(Vl (ps.map (·.a))≠0→va=zA)∧(Vl (ps.map (·.a))=0→YL w.heap.size w'.heap va (syA (ps.map (·.a)))):=by
 refine QJ.of_W func26 O ntmps26 results26 (by simp) ?_;refine Qc<|xl O<|Qt (us:=Jj) O λb2 w1 E hf J=>Qe<|Qc<|Qb<|xl O<|xf<|(qh (km:=4096) (h.ext E) (he.ext E) (by decide) (zY ho)).mono ?_;rintro r2 w2 ⟨S,vA,vt,c,rfl,G⟩;have hc:=G.e;have hg:=G.good;have hb:=G.bad;obtain ⟨a,xa,xm,H,qs,rfl,T,hq,_⟩:=G.shape;have hh:=E.size;have hr:=S.size;have hi:=J.lt
 refine Qb<|x (Ql O O)<|x (Ql O O)<|x (Ql O O)<|xl O<|Qt (us:=Jj) O λb4 w3 hj hk hl=>xl O<|Qo (us:=[xa,.int .i64 a.st,xm,H]) hl O O O O T λw4 hm hn =>
  x Qh<|Qe ?_
 have V:Step [] w2 w4:=hj.then1 hm hk;have Y:=S.trans V;refine Qc<|x (Qr hn O O)<|Qb<|xl O<|Qo (us:=[xa,.int .i64 a.st,xm,H]) (J.ext Y) O O O O T λw5 ha hp=>Qe<|Qm ⟨[.agg [xa,.int .i64 a.st,xm,H].toArray,.int .i64 c],⟨⟨_,O,Qw O (hp.at (L:=[]) (by simp)).cells⟩,rfl,U⟩,(E.trans Y).then1 ha hf,.agg #[xa,.int .i64 a.st,xm,H],?_,λI=>?_,λI=>?_⟩
 ·show Value.tuple _=Value.tuple _;rw[hc]
 ·exact (hb (by rw[hc];exact I)).1
 have h1:=(hg (by rw[hc];exact I)).1;exact (Y5 (h1.ext V) hi ha).mono hh
theorem j8 {w:World}{c:CL}(h:Zu [] w.heap c) (V:Kb w 4096) :
  QJ prog 23 [c.val] w λr w'=>Step [] w w'∧∃va,r=.tuple #[va,.int .i64 (tgE c.cel)]∧(tgE c.cel≠0→va=zA)∧(tgE c.cel=0→YL w.heap.size w'.heap va (tgA c.cel)):=by
 have G:=Qis c.cel;refine QJ.of_W func23 O ntmps23 results23 (by simp) ?_;refine Qc<|xl O<|QQ (us:=c.cells) O λb1 w1 Y hu hk=>xl O<|Qt (us:=Jj) O λb2 w2 ha hv S=>Qe ?_;have I:=Y.trans ha;have hw:=I.size;have hy:=Y.size;have hz:=S.lt;refine Qc<|x (Qr (hk.ext ha) O O)<|xl O<|xf<|(Xu (h.ext I) (V.ext I)).mono ?_;rintro r3 w3 ⟨J,vl,rfl,h1,hl⟩
 refine Qb<|x (Ql O O)<|x (Ql O O)<|x Qh<|Qe ?_;have T:=I.trans J;have h2:=J.size;refine Qf<|Qc<|Qb<|x (Za O O)<|xe<|Q4 rfl (λH=>?_) (λH=>?_)
 ·rw[if_pos H] at G;refine Qc<|x (QD U)<|Qb<|xl O<|Qo (us:=Jj) (S.ext J) O O O O ⟨O,O,O,O,U⟩ λw4 hm hn=>Qe<|Qm ⟨[.agg Jj.toArray,.int .i64 (Xw c.cel)],⟨⟨_,O,Qw O (hn.at (L:=[]) (by simp)).cells⟩,rfl,U⟩,T.then1 hm (by omega),zA,?_,λ_=>rfl,λE=>absurd E (by rw[G];exact H)⟩;show Value.tuple _=Value.tuple _;rw[G];rfl
 rw[if_neg H] at G;have hb:=Ls.1 H;obtain ⟨h3,ps,hc,ho⟩:=hl hb;have hq:∀p∈ps,Zg p.a:=λp hp=>yR hb p.a (by rw[←hc];exact LG hp);have hC:=qu (ho [] (by simp)) hq (V.ext T);rw[hc,←G] at hC;refine Qi<|Qc<|Qb<|xl O<|xf<|hC.mono ?_;rintro r5 w5 ⟨he,va,rfl,hf,hg⟩;have hr:∃us,va=.agg us.toArray∧us.length=4∧ZG us:=by
  by_cases E:tgE c.cel=0
  ·exact YT (hg E)
  exact ⟨Jj,hf E,O,O,O,O,O,U⟩
 obtain ⟨us,hh,hi,hs⟩:=hr;refine x (Ql O O)<|x (Ql O O)<|xl O<|Qo (us:=us) (S.ext (J.trans he)) O (show Go.Lg.ev _ _=_ from hh) hi O hs λw6 hj ht=>Qe<|Qm ⟨[.agg us.toArray,.int .i64 (tgE c.cel)],⟨⟨_,O,Qw hi (ht.at (L:=[]) (by simp)).cells⟩,rfl,U⟩,(T.trans he).then1 hj (by omega),va,?_,hf,λE=>?_⟩
 ·show Value.tuple _=Value.tuple _;rw[hh]
 exact (Y5 (hg E) (by omega) hj).mono (by omega)
set_option maxHeartbeats 4000000 in
theorem UN {w:World}{l:PwV}(hl:PwA w l) (H:Kb w 4096) :
  QJ prog 5 [.agg (YV l).toArray] w λr w'=>r=.bool true∧Step [] w w':=by
 refine QJ.of_W func5 O ntmps5 results5 (by simp) ?_;refine Qc<|xl O<|QQ (us:=YV l) O λb1 w1 ho ko hA=>Qe ?_;have hB:(YV l).length=152:=Qex (l:=l.pl []) hl.n;refine Qf<|QU (α:=Unit) [(13,19)] (λz=>[(19,.bool (!decide (l.n≤4)))]) (λz w'=>Step [] w1 w') (by rfl) ?_ ?_
 ·refine Qx<|xl O<|xf<|(qj (H.ext ho)).mono ?_;rintro r2 w2 ⟨rfl,I⟩;refine x (Zs O)<|Qb<|x (Qr (hA.ext I) O hB)<|xl O<|xf<|(Qgj (l:=l) ⟨hl.n,hl.b,hl.f0,hl.f1,hl.f2,hl.bd,λhn=>by
   obtain ⟨rs,h1,h2⟩:=hl.r hn;exact ⟨rs,h1,(h2.ext ho).ext I⟩⟩).mono ?_
  rintro r3 w3 ⟨rfl,T⟩;refine x (Zs O)<|x (Qn O)<|xe ?_;exact ⟨(),Z,I.trans T⟩
 rintro ⟨⟩ g w2 I;have hf:=ho.trans I;refine Q3 rfl (λhF=>?_) (λhF=>?_)
 ·refine Qc<|xl O<|xf<|(qj (H.ext hf)).mono ?_;rintro r3 w3 ⟨rfl,T⟩;refine Qe ?_;exact Qm ⟨[.bool true],Z,O,hf.trans T⟩
 have gh:l.n≤4:=by simpa using hF
 refine Qi<|Exists.elim (hl.pl hf gh) λrs gi=>?_;refine Qc<|x (Qr (hA.ext I) O hB)<|xl O<|xf<|(QcV gi.1).mono ?_;rintro r3 w3 ⟨T,_,⟨c,rfl,rfl,hC⟩,hD⟩;have hG:=hC [] (by simp);refine xl rfl<|Qt (us:=Z9) O λb3 w4 gj gk gl=>xl O<|Qo (us:=c.cells) gl O O O O hG.ones λw5 gm hq=>xe ?_;have hH:Step [] w3 w5:=gj.then1 gm gk;have hI:=(hf.trans T).trans hH
 have hr:=hG.ext hH;refine Qc<|x (Qr hq O O)<|xl O<|xf<|(Xu hr (H.ext hI)).mono ?_;rintro r6 w6 ⟨V,v1,rfl,gn,go⟩;refine Qb<|x (Ql O O)<|x (Ql O O)<|x Qh<|Qe ?_;have hJ:=hI.trans V;refine Qc<|x (Qr (hq.ext V) O O)<|xl O<|xf<|(j8 (hr.ext V) (H.ext hJ)).mono ?_;rintro r7 w7 ⟨gp,va,rfl,gq,gr⟩;have Y:=Qis c.cel
 have gs:∃(A:QS) (xa xm xe:Value),va=.agg #[xa,.int .i64 A.st,xm,xe]∧Zr [] w7.heap xa xm xe A∧(tgE c.cel=0→A=tgA c.cel)∧(tgE c.cel≠0→A=⟨[],0,[],[]⟩):=by
  by_cases G:tgE c.cel=0
  ·obtain ⟨xa,xm,xe,e,h1⟩:=gr G;exact ⟨_,xa,xm,xe,e,h1 [] (by simp),λ_=>rfl,λh=>absurd G h⟩
  exact ⟨⟨[],0,[],[]⟩,_,_,_,gq G,QeO,λh=>absurd h G,λ_=>O⟩
 obtain ⟨A,xa,xm,gt,rfl,hg,gu,hK⟩:=gs;refine Qb<|x (Ql O O)<|x (Ql O O)<|xl O<|Qt (us:=Jj) O λb6 w8 gv gw gx=>xl O<|Qo (us:=[xa,.int .i64 A.st,xm,gt]) gx O O O O ⟨hg.al.one,O,hg.mr.one,hg.ed.one,U⟩ λw9 gy gz=>Qe ?_;have hL:Step [] w7 w9:=gv.then1 gy gw;have hh:=gp.trans hL;have hM:=hJ.trans hh
 refine Qc<|x (Qr ((hq.ext V).ext hh) O O)<|xl O<|xf<|(QcX ((hr.ext V).ext hh) hD (H.ext hM)).mono ?_;rintro kp hs ⟨hi,v2,rfl,g0,g2⟩;have ht:=hM.trans hi;have g3:=(hg.ext hL).ext hi;have hN:=gz.ext hi;refine Qb<|x (Ql O O)<|x (Ql O O)<|x Qh<|Qe ?_
 have g4:∃ps qs:List AV,YS [] hs.heap v1 ps∧YS [] hs.heap v2 qs∧ps.map (·.a)=qs.map (·.a)∧(Xw c.cel=0→qs.map (·.a)=VY c.cel):=by
  by_cases G:Xw c.cel=0
  ·obtain ⟨_,ps,e1,h1⟩:=go G;obtain ⟨qs,e2,h2⟩:=g2 G;exact ⟨ps,qs,((h1 [] (by simp)).ext hh).ext hi,h2,e1.trans e2.symm,λ_=>e2⟩
  rw[gn G,g0 G];exact ⟨[],[],⟨Zl.nil _ _ _,nofun⟩,⟨Zl.nil _ _ _,nofun⟩,O,λh=>absurd h G⟩
 refine Exists.elim g4 λps g5=>Exists.elim g5 λqs hj=>?_;have hP:=hj.1;have hQ:=hj.2.1;have hO:=hj.2.2.1;have hR:=hj.2.2.2;have g6:ps.length=qs.length:=Qjh hO;have kq:=hP.arr.le;refine Zb (Xw c.cel) λE hE=>?_;rw[hE] at hR;refine Qf<|QU (α:=Unit) [(38,47)] (λz=>[(47,.bool false)]) (λz w'=>w'=hs) (by rfl) ?_ ?_
 ·refine Qx<|Qb<|Qb<|xb (Za O O) (λhS=>absurd O hS) (λhS=>?_);refine Qb<|Qb<|x (Qs hP.arr O)<|Qb<|x (Qs hQ.arr O)<|x (Za O O)<|x (Qn O)<|xe ?_;exact ⟨(),⟨congrArg Value.bool (decide_eq_false (not_not_intro (congrArg Int.ofNat g6))),U⟩,O⟩
 rintro ⟨⟩ g hT rfl;refine ZZ rfl ?_;refine Qi<|Qf<|Qc<|Qb<|x (Za O O)<|xe<|Q4 rfl (λhu=>?_) (λhu=>?_)
 ·have J:Xw c.cel≠0:=hu;rw[if_pos J] at Y;have g7:=hK (by rw[Y];exact J);subst g7;refine QU (α:=Unit) [(2,2),(50,57)] (λz=>[(2,.bool true)]) (λz w'=>w'=hT) (by rfl) ?_ ?_
  ·refine Qx<|Qb<|Qb<|xb (Q5 O O) (λhU=>?_) (λhU=>absurd Y hU);refine Qb<|x (Qa O)<|x (Qd hN O O)<|x (Q5 O O)<|x (Qn O)<|Qe ?_;exact ⟨(),Z,O⟩
  rintro ⟨⟩ g ha rfl;exact Qm ⟨[.bool true],Z,O,ht⟩
 have J:Xw c.cel=0:=Ls.1 hu;have hv:=hR (hE.symm.trans J);rw[if_neg (not_not_intro J),←hv] at Y;have g8:∀p∈qs,Zg p.a:=λp hp=>yR J p.a (by rw[←hv];exact LG hp);have g9:tgA c.cel=syA (qs.map (·.a)):=by rw[hv];rfl
 refine Qi<|Qf<|Qc<|Qe<|Qg<|QA (α:=Nat) [(2,2),(10,10),(58,73)] (λz=>[(10,.int .i64 z)]) (λz w'=>z≤ps.length∧Step [] hT w') (λz=>ps.length - z) (by rfl) 0 Z ⟨Lk _,Step.refl _ _⟩ ?_;rintro k g ha ⟨hk,hb⟩;have hw:=hP.ext hb;have hy:=hQ.ext hb;have ka:=ht.trans hb;refine Qf<|Qc<|Qb<|Qb<|x (Qs hw.arr O)<|x (QB O O)<|xe<|QF rfl (λhV=>?_) (λhV=>?_)
 ·refine Qy<|Qc<|Qb<|xl O<|xf<|(qu hy g8 (H.ext ka)).mono ?_;rintro hW hz ⟨h3,vb,S,hX,h4⟩;rw[←Y] at S hX h4;rw[←g9] at h4;have kb:∃ya ym ye:Value,vb=.agg #[ya,.int .i64 A.st,ym,ye]∧Zr [] hz.heap ya ym ye A:=by
   by_cases G:tgE c.cel=0
   ·obtain ⟨ya,ym,ye,e,h1⟩:=h4 G;rw[gu G];exact ⟨ya,ym,ye,e,h1 [] (by simp)⟩
   rw[hK G];exact ⟨_,_,_,hX G,QeO⟩
  obtain ⟨ya,ym,ye,rfl,hY⟩:=kb;subst S;refine Qb<|x (Ql O O)<|x (Ql O O)<|xl O<|Qt (us:=Jj) O λkr kt kc ke kf=>xl O<|Qo (us:=[ya,.int .i64 A.st,ym,ye]) kf O O O O ⟨hY.al.one,O,hY.mr.one,hY.ed.one,U⟩ λhZ kg kh=>Qe ?_;have ga:Step [] hz hZ:=kc.then1 kg ke;have h5:=(hb.trans h3).trans ga
  refine QU (α:=Unit) [(2,2),(79,86)] (λz=>[(2,.bool true)]) (λz w'=>Step [] hZ w') (by rfl) ?_ ?_
  ·refine Qx<|Qb<|Qb<|xb (Q5 O O) (λgb=>?_) (λgb=>absurd O gb);refine Qb<|x (Qr (hN.ext h5) O O)<|x (Qr kh O O)<|xl O<|xf<|(qp (g3.ext h5) (hY.ext ga)).mono ?_;rintro ki kj ⟨h6,h7⟩
   replace h6:ki=.bool true:=h6.trans (congrArg Value.bool (decide_eq_true ⟨O,O,O,O⟩));subst h6;refine x (Qn O)<|Qe ?_;exact ⟨(),Z,h7⟩
  rintro ⟨⟩ g kj h7;exact Qm ⟨[.bool true],Z,O,(ht.trans h5).trans h7⟩
 have he:k<ps.length:=by have ku:(k:Int)<(ps.length:Int):=hV;omega
 have hm:k<qs.length:=by omega
 have h8:=Qji (f:=λp:AV=>p.a) hO k he hm;have hmp:=Lh he;have gc:=Lh hm;refine Qi<|Qf<|Qg<|Qf<|QV (Step [] ha) [(0,true),(1,true),(2,true),(3,true),(4,true),(5,true),(6,true),(7,true),(8,false),(9,true)] mixed (by rfl) (by kernel_rfl) (Step.drew _ _) ?_;refine p (λ_=>Qp)<|p (λ_=>Qp)<|Lg.pig (g:=Q8) (i:=k) O Jq hw.arr O O he λkv ge=>?_
 refine Zb (ps[k]'he) λpp kk=>?_;rw[kk] at ge hmp h8;refine pq (λ_ hc=>QI (ge.ext hc) O O)<|p (λ_=>Qp)<|p (λ_=>Qp)<|Lg.pig (g:=Q8) (i:=k) O Jq hy.arr O O hm λkw gg=>?_;refine Zb (qs[k]'hm) λqq kn=>?_;rw[kn] at gg gc h8;have h9:Step [] ha { ha with drawn:=ha.drawn+1 }:=Step.drew _ _
 refine pq (λ_ hc=>QI (gg.ext hc) O O)<|pkl (hl:=by kernel_rfl)<|xf<|(qp ((hw.each pp hmp).ext h9) ((hy.each qq gc).ext h9)).mono ?_;rintro hW hz ⟨S,h3⟩
 replace S:hW=.bool true:=S.trans (congrArg Value.bool (decide_eq_true (by rw[h8];exact ⟨O,O,O,O⟩)));subst S;refine p (λ_=>Zs O)<|pe ?_;refine ZZ rfl ?_;refine Qi<|Qx<|Qb<|QN O O<|Qe ?_;exact ⟨k+1,by omega,Z,he,(hb.trans h9).trans h3⟩
theorem YE {a b:Bool}(h1:a=true) (h2:b=true):(a && b)=true:=by rw[h1,h2];rfl
theorem yk {P:Program} {f:FuncId} {fn:Func} {s:ChangeSpec} {c:OpenClaim} (h1:(c.wf (OpenSpec.ofChange s))=true) (h2:(laidOutB P)=true) (h3:(mapsRowed P)=true) (E:(fn.params.all (P.readableRec ·))=true) (h5:(namedTie P c.named s.vars)=true) (G:((c.stops == []))=true) (H:((P.stops == []))=true) (I:((c.knobs == []))=true) (h9:((P.stopKnobs == []))=true) (J:((c.inPlace == P.inPlace f))=true) (S:((c.unfollowed == P.unfollowed f))=true) (T:((c.recurses == P.recurses f))=true) (V:((c.named == P.varsNamed f))=true) (Y:((c.maps == (fn.params.toList++s.plain.varTypes P).any (P.mapsRec ·)))=true) (ha:((c.ifaces == (fn.params.toList++s.plain.varTypes P).any (P.ifacesRec ·)))=true) (hb:((c.mapsOut == P.mapsAmong fn.resultTypes.toList))=true) (hc:((c.loops == (fn.params.toList++s.plain.varTypes P).any (P.loopsFrom ·)))=true) (he:((c.wideKeys == (fn.params.toList++s.plain.varTypes P++fn.resultTypes.toList).any (P.wideKeysFrom ·)))=true) (hf:(s.vars.all (P.varReadable ·))=true) (hg:(fn.resultTypes.all (λt=>P.readableRec t && decide (t<P.types.size)))=true) (hh:((c.ifacesOut == fn.resultTypes.toList.any (P.ifacesRec ·)))=true) (hi:((c.loopsOut == fn.resultTypes.toList.any (P.loopsFrom ·)))=true) (hj:((c.plainKeys == P.plainKeys))=true) (hk:(c.shortTexts.isNone)=true) (hl:(P.stopsHeard)=true) (hm:(P.mayEnter)=true) (hn:((c.lifted == P.liftsFinal))=true) (ho:((P.make == some c.make))=true) (hp:((c.kinds == (if c.domain.isEmpty then [] else fn.params.toList.map λt=>match P.underlying t with | some (.int k)=>some k | _=>none)))=true) (hq:((c.pinned == c.pinnedBy))=true) (hr:((c.veiled == (fn.params.toList++s.plain.varTypes P++fn.resultTypes.toList).any (P.veiledRec ·)))=true) (hs:(c.veiledFits P fn.params.toList (fn.params.toList++s.plain.varTypes P++fn.resultTypes.toList))=true):joinedFacts P f fn s c=true:=by
 unfold joinedFacts;exact (YE (YE (YE (YE (YE (YE (YE (YE (YE (YE (YE (YE (YE (YE (YE (YE (YE (YE (YE (YE (YE (YE (YE (YE (YE (YE (YE (YE (YE (YE (YE h1 h2) h3) E) h5) G) H) I) h9) J) S) T) V) Y) ha) hb) hc) he) hf) hg) hh) hi) hj) hk) hl) hm) hn) ho) hp) hq) hr) hs)
theorem UO:laidOutB prog=true:=by kernel_rfl
theorem Qfb:mapsRowed prog=true:=by kernel_rfl
theorem Qfd:prog.stopsHeard=true:=by kernel_rfl
theorem Qfe:prog.mayEnter=true:=by kernel_rfl
theorem Qfc:(false == prog.liftsFinal)=true:=by kernel_rfl
theorem QhA:(prog.make == some Make.cut)=true:=by kernel_rfl
theorem QhE:(Rows.moduleTogetherRow.inPlace == prog.inPlace 5)=true:=by kernel_rfl
theorem QhD:(Rows.moduleTogetherRow.unfollowed == prog.unfollowed 5)=true:=by kernel_rfl
theorem QhC:(Rows.moduleTogetherRow.recurses == prog.recurses 5)=true:=by kernel_rfl
theorem QhB:(Rows.moduleTogetherRow.named == prog.varsNamed 5)=true:=by kernel_rfl
theorem Qjm:Rows.moduleTogetherRow.wfByText (OpenSpec.ofChange Rows.moduleTogetherSpec)=true:=by kernel_rfl
theorem Qjp:Tryz.pinned.checked.prog.mainIs=some (true, "7f1d7774d707b6ca2907d0280b916f7dc62d5f843e98687e905a54f8355f1b07".toList):=by kernel_rfl
theorem Qjo:prog.funcNamed "overseer/overseerlaw32.ModuleTogether" = some 5:=by kernel_rfl
theorem Qjq:false=prog.looks []:=by kernel_rfl
theorem Qjn:([36].all λu=>!prog.wantsStandIn u)=true:=by kernel_rfl
theorem Qjr:false=Rows.moduleTogetherRow.goesBy Tryz.pinned.checked.prog:=by kernel_rfl
end Go.Proofs.YtdffckgdcegpaaaGreatDoor
