/- Merged out of 43 texts. -/
import Derived.Test.YtdffckgdcegpaaaGreatDoorKqd
import Derived.ChangeSame
import Derived.Carry
import Derived.OpenShut
import Derived.RowKit
import Derived.ChangeSlices
import Derived.WideShapes
import Derived.ProofKit
import Derived.ChangeArms
import Derived.Lib.LaidTab
import Derived.Stop.LaidErr
import Derived.MakeChecks
import Derived.Scope
import Derived.Shelf.SlSortCmp.Whole1
namespace Go.Proofs.YtdffckgdcegpaaaGreatDoor
open Go.Proofs.Tryz
open Go.Lg
theorem qy {l r:LI}{i:Nat}(h:i<l.length):cget (l++r) i=cget l i:=by
 unfold cget;simp[List.getD,List.getElem?_append_left h]
set_option maxHeartbeats 4000000 in
theorem Vm {w:World}{bp:Nat}{q:Pz}{lf:Lf}(hA:jn [] w.heap bp q) (hq:PzQ q) (hB:Q3 w.heap q.bl 4 (lf.map Value.bool)) (hl:lf.length=q.n) :
  QJ prog 217 [.pointer (some ⟨bp,0,none⟩)] w λr w'=>Step [] w w'∧∃b,r=.slice (some ⟨b,0,none⟩) q.n q.n∧w.heap.size≤b∧Q3 w'.heap b 3 ((dsts q.a lf).map (Value.int .i64))∧(dsts q.a lf).length=q.n:=by
 have hn:=hq.n;have kp:=hq.ok.st1;have gb:=hq.ok.mr;have kq:=hq.ok.mr_le;have kr:=hq.ok.ed_le;have hL:q.a.st.toNat=q.n:=by omega
 have gs:=QkO (lf:=lf) hq.ok hn;have gc:(dsL q.a.ed lf q.n 0 (ds0 q.a lf)).1=dsts q.a lf:=by unfold dsts;rw[hL]
 refine Zb (dsts q.a lf) λDD gt=>?_;rw[gt] at gc ⊢;refine QJ.of_W func217 O ntmps217 results217 (by simp) ?_;refine Qc<|Qe<|Qc<|Qb<|x (QH O)<|x (Qa O)<|x (Qa O)<|x (Qd hA.B O O)<|xl O<|VF (n:=q.n) (congrArg (Value.int .i64) hn) (congrArg (Value.int .i64) hn) (by omega) λbO w1 ge h9 hM=>Qe ?_;rw[QdN] at hM
 refine Qf<|Qc<|Qb<|x (Qq (L:=[]) (hM.arr (by simp) (n:=q.n) (cap:=q.n) (sz:=1) (by simp[gA]) (by omega) (Lr _)) rfl)<|Qb<|xe<|Qg<|Qy (α:=Nat) [(4,4),(19,25)] (λz=>[(19,.int .i64 z)]) (λz w'=>z≤q.n∧Step [] w w'∧Q3 w'.heap bO 3 ((gA q.n (λj=>if j<z then -1 else 0)).map (Value.int .i64))) (λz=>q.n - z) (by rfl) 0 Z ⟨Lk _,ge,hM⟩ ?_
 rintro j g G ⟨hj,hh,hw⟩;refine Qc<|x (QA O O)<|xe<|Qf<|QE O (λhN=>?_) (λhN=>?_)
 ·refine Qw ?_;have hO:j=q.n:=by have gu:¬(j:Int)<(q.n:Int):=hN;omega
  have gv:gA q.n (λi=>if i<j then -1 else 0)=((q.a.mr.take 0).foldl (jl lf) (List.replicate q.n (-1),[])).1:=by
   apply Mk
   ·simp[gA]
   intro i h1 h2;have:i<q.n:=by simpa[gA] using h1
   simp[gA];omega
  rw[gv] at hw;refine Qc<|Qe<|Qf<|Qc<|Qb<|x (QH O)<|x (Qa O)<|x (Qa O)<|x (Qd (hA.ext hh).B O O)<|x (Qq (hA.ext hh).a.mr O)<|Qb<|xe<|Qg<|Qy (α:=Nat×Value) [(5,5),(7,7),(32,50)] (λz=>[(5,z.2),(32,.int .i64 z.1)]) (λz w'=>z.1≤q.a.mr.length∧Step [] w w'∧G.heap.size≤w'.heap.size∧Q3 w'.heap bO 3 (((q.a.mr.take z.1).foldl (jl lf) (List.replicate q.n (-1),[])).1.map (Value.int .i64)) ∧
   Qt 3 G.heap.size w' z.2 ((q.a.mr.take z.1).foldl (jl lf) (List.replicate q.n (-1),[])).2) (λz=>q.a.mr.length - z.1) (by rfl) (0,nS) ⟨O,O,U⟩ ⟨Lk _,hh,Lr _,hw,QO _ _ _ _⟩ ?_
  rintro ⟨k,vl⟩ g w3 ⟨hk,h0,gg,Y,ha⟩;simp only[] at hk Y ha;have gh:=Qah (lf:=lf) (λx hx=>(gb x hx).1) k;rw[hL] at gh;have kt:=Y.lt;refine Qc<|x (QA O O)<|xe<|Qf<|QE O (λhP=>?_) (λhP=>?_)
  ·refine Qw ?_;have gw:q.a.mr.length≤k:=by have hC:¬(k:Int)<(q.a.mr.length:Int):=hP;omega
   have e0:(q.a.mr.take k).foldl (jl lf) (List.replicate q.n (-1),[])=ds0 q.a lf:=by rw[Lm gw];unfold ds0;rw[hL]
   rw[e0] at Y ha;have gx:bO<G.heap.size:=hw.lt;refine Qf<|Qc<|Qe<|Qg<|Qy (α:=Nat×Nat×Value×LI×LI) [(5,5),(8,8),(10,10),(51,100)] (λz=>[(5,z.2.2.1),(8,.int .i64 z.2.1)])
    (λz w'=>Step [] w w'∧G.heap.size≤w'.heap.size∧Q3 w'.heap bO 3 (z.2.2.2.1.map (Value.int .i64))∧Qt 3 G.heap.size w' z.2.2.1 z.2.2.2.2∧DsI q.n z.2.2.2∧z.1+z.2.1=q.n∧(dsL q.a.ed lf z.1 z.2.1 z.2.2.2).1=DD) (λz=>q.n - z.2.1) (by rfl) (q.n,0,vl,(ds0 q.a lf).1,(ds0 q.a lf).2) ⟨O,O,U⟩
    ⟨h0,gg,Y,ha,gs,O,gc⟩ ?_
   rintro ⟨f,i,vl,o,l⟩ g w4 ⟨hf,hQ,h3,J,ho,gy,S⟩;simp only[] at hQ h3 J ho gy S;have gz:=ho.le;have gi:=ho.ok.len;simp only[] at gz gi;have hD:=hA.ext hf;refine Qf<|Qc<|Qb<|Qb<|x (Qq (L:=[]) (QR J (by omega) (by simp)) rfl)<|x (QA rfl rfl)<|xe<|QE O (λhR=>?_) (λhR=>?_)
   ·refine Qw ?_;have g0:¬i<l.length:=by have g2:¬(i:Int)<(l.length:Int):=hR;omega
    rw[Qgx g0] at S;simp only[] at S;subst S;refine Qc<|Qb<|Qe ?_;exact Qn ⟨[.slice (some ⟨bO,0,none⟩) q.n q.n],Z,hf,bO,O,h9,h3,gi⟩
   refine Qi ?_;have hp:i<l.length:=by have g2:(i:Int)<(l.length:Int):=hR;omega
   refine Exists.elim (Nat.exists_eq_succ_of_ne_zero (show f≠0 by omega)) λf' g3=>?_;subst g3;rw[dsL,if_pos hp] at S;have gj:=Zk hp;have hsr:=ho.ok.q _ (Jf hp);have hS:=ho.s0 _ (Jf hp);refine Zb (cget l i) λs hs=>?_;rw[hs] at S hsr gj;simp only[] at hsr hS;rw[hs] at hS;have gk:s=(s.toNat:Int):=by omega
   have gl:=hD.g s.toNat (by omega);rw[←gk] at gl;have g4:=hD.R s.toNat (by omega);have ku:=VN q.a.ed s.toNat;refine Qf<|Qg<|Qf<|QS (Step [] w4) [(0,true),(1,true),(2,true),(3,true),(4,true),(5,true),(6,true),(7,true),(8,true),(9,true),(10,true)] mixed (by rfl) (by kernel_rfl) (Step.drew _ _) ?_
   refine p (λ_=>Ql)<|p (λ_=>QH O)<|p (λ_=>Qa O)<|pq (λ_ hc=>Qd (hD.B.ext hc) O O)<|p (λ_=>Ql)<|p (λ_=>Ql) <|
    pii (i:=i) O (QR (L:=[]) J (by omega) (by simp)) rfl rfl hp λkv gm=>?_
   rw[gj] at gm;refine pq (λ_ hc=>Qu (gm.ext hc) O)<|pq (λ_ hc=>(X3 (k:=s) (hD.M.ext hc) O O).trans (congrArg (λv=>Result.ok (Next.value v) _) gl))<|p (λ_=>Qq g4 O)<|p (λ_=>Ql)<|pe ?_;have hF:Step [] w4 { w4 with drawn:=w4.drawn+1 }:=Step.drew _ _
   refine Qg<|Qy (α:=Nat×Value×LI×LI) [(5,5),(10,10),(67,100)] (λz=>[(5,z.2.1),(67,.int .i64 z.1)])
    (λz w'=>z.1≤(Yl q.a.ed s.toNat).length∧Step [] w w'∧G.heap.size≤w'.heap.size∧Q3 w'.heap bO 3 (z.2.2.1.map (Value.int .i64))∧Qt 3 G.heap.size w' z.2.1 z.2.2.2∧DsI q.n z.2.2∧0≤cget z.2.2.1 s.toNat∧i<z.2.2.2.length∧cget z.2.2.2 i=s ∧
     ((Yl q.a.ed s.toNat).drop z.1).foldl (dsE lf s) z.2.2=(Yl q.a.ed s.toNat).foldl (dsE lf s) (o,l)) (λz=>(Yl q.a.ed s.toNat).length - z.1) (by rfl) (0,vl,o,l) ⟨O,O,U⟩
    ⟨Lk _,hf.trans hF,LS hQ hF.size,h3.ext hF,Qm J hF,ho,hS,hp,hs,O⟩ ?_
   rintro ⟨m,hG,o2,l2⟩ g w5 ⟨hm,E,hH,hr,ht,hg,hT,h4,hI,H⟩;simp only[] at hm hH hr ht hg hT h4 hI H;have gn:=hA.ext E;have g5:=hg.le;have g6:=hg.ok.len;simp only[] at g5 g6;refine Qc<|x (QA O O)<|xe<|Qf<|QE O (λhU=>?_) (λhU=>?_)
   ·refine Qw ?_;have g7:(Yl q.a.ed s.toNat).length≤m:=by have hJ:¬(m:Int)<((Yl q.a.ed s.toNat).length:Int):=hU;omega
    rw[Lq g7] at H;simp only[List.foldl_nil] at H;rw[←H] at S;refine Qx<|Qb<|QN O O<|Qe ?_;exact ⟨(f',i+1,hG,o2,l2),by simp only[];omega,⟨O,O,U⟩,E,hH,hr,ht,hg,by simp only[];omega,S⟩
   refine Qi ?_;have hu:m<(Yl q.a.ed s.toNat).length:=by have hJ:(m:Int)<((Yl q.a.ed s.toNat).length:Int):=hU;omega
   have go:=QdO (Lh hu);have g8:=QY hu;rw[g8,LO] at H;refine Zb ((Yl q.a.ed s.toNat)[m]'hu) λy hy=>?_;rw[hy] at go H;have g9:0≤y∧y<(q.n:Int):=by
    obtain ⟨e,he,h1,_⟩:=go;have:=hq.ok.ed e he;omega
   have hv:y=(y.toNat:Int):=by omega
   have h5:y.toNat<o2.length:=by omega
   have hV:s.toNat<o2.length:=by omega
   have ka:=hg.ok.le _ (Jf hV);simp only[] at ka;have hE:=Qgy (lf:=lf) hg hsr hT g9;have hW:=VK (l:=lf) (s:=y) (by omega);have kw:=Qfs o2;refine Qf<|Qg<|Qc<|xii (i:=m) ((gn.R s.toNat (by omega))) O O hu λky hJ=>?_;rw[hy] at hJ;refine x (Qu hJ O)<|Qe<|QW (α:=Bool) [(71,84)] (λz=>[(84,.bool z)]) (λz w'=>w'=w5∧z=(lft lf y && decide (cget o2 y.toNat<0))) (by rfl) ?_ ?_
   ·refine Qx ?_;have kz:∀{P:Prop},(∀b,lft lf y=b→P)→P:=λh=>h _ O;refine Qb<|x (QH O)<|x (Qa O)<|x (Qd gn.B O O)<|Qb<|x (Zj (i:=y.toNat) O (congrArg (Value.int .i64) hv) (by omega))<|x (XK (i:=y.toNat) (hB.ext E) O (by omega))<|?_;rw[hW];cases lft lf y with
    | true =>
     refine Qb<|Qb<|Qb<|x (Zj (i:=y.toNat) O (congrArg (Value.int .i64) hv) (by omega))<|x (Us (i:=y.toNat) hr O h5)<|x (QA O O)<|x (Qo O)<|xe ?_;exact ⟨_,Z,O,by rw[Zk h5];rfl⟩
    | false =>
     refine Qb<|xs O<|xs O<|xs O<|xs O<|xs O<|x (Qo O)<|xe ?_;exact ⟨_,Z,O,O⟩
   rintro z g k0 ⟨rfl,rfl⟩;refine Q2 O (λh6=>?_) (λh6=>?_)
   ·rw[Lv,decide_eq_true_eq] at h6;have hX:dsE lf s (o2,l2) y=(o2.set y.toNat (cget o2 s.toNat+1),l2++[y]):=by unfold dsE;rw[if_pos h6]
    rw[hX] at H hE;have kb:=Zk hV;have gp:=Zk h4;rw[hI] at gp;refine Qc<|Qb<|Qb<|Qb<|Qb<|Qb<|xii (i:=i) (QR (L:=[]) ht (by omega) (by simp)) rfl rfl h4 λk4 gq=>?_;rw[gp] at gq;refine x (Qu gq O)<|x (Zj (i:=s.toNat) O (congrArg (Value.int .i64) gk) (by omega))<|x (Us (i:=s.toNat) hr O hV)<|x (X5 O O ⟨by omega,by omega⟩) <|
     x (Zj (i:=y.toNat) O (congrArg (Value.int .i64) hv) (by omega))<|xl O<|X9 (i:=y.toNat) hr O O h5 λw6 I hK=>xe ?_
    rw[kb] at hK;have kc:=I.size;have ke:∀b∈ob hG,b∉[bO]:=λb hb=>by have:=Qk ht b hb;simp only[List.mem_singleton];omega
    have h7:Qt 3 G.heap.size w6 hG l2:=Qj ht I ke;have kf:Step [] w w6:=E.then1 I h9;refine Qx<|Qb<|Qb<|xl O<|QC (us:=[[.int .i64 y]]) O O (by decide) (by simp) ⟨rfl,rfl,U⟩ λk5 w7 h8 k6 kg=>xl rfl<|QU (m:=1) (news:=[.int .i64 y]) (Qm h7 h8) rfl rfl rfl (kg.at (L:=[]) (by simp)) (by simp[Value.oneCell']) (by omega) (by have:=h8.size;omega) λhY w8 kh hZ k7 =>
     Qe ?_
    have k8:=h8.size;have k9:=hZ.size;refine Qx<|QN O O<|Qb<|xe<|⟨(m+1,hY,_,l2++[y]),by simp only[];omega,⟨O,O,U⟩,hu,(kf.trans h8).then hZ (λb hb=>.inr (by have:=Qk h7 b hb;have:=ge.size;have:=hh.size;omega)),by omega,(hK.ext h8).step hZ (λhb=>by have:=Qk h7 _ hb;omega),Qt.snoc kh,hE.1,hE.2,by simp only[List.length_append];omega,by rw[qy h4];exact hI,H⟩
   have hX:dsE lf s (o2,l2) y=(o2,l2):=by
    unfold dsE;rw[if_neg];intro hc;rw[hc.1,decide_eq_true hc.2] at h6;cases h6
   rw[hX] at H;refine Qi<|Qx<|QN O O<|Qb<|xe ?_;exact ⟨(m+1,hG,o2,l2),by simp only[];omega,⟨O,O,U⟩,hu,E,hH,hr,ht,hg,hT,h4,hI,H⟩
  refine Qi ?_;have T:k<q.a.mr.length:=by have hC:(k:Int)<(q.a.mr.length:Int):=hP;omega
  have ki:=gb _ (Lh T);have kj:q.a.mr.take (k+1)=q.a.mr.take k++[q.a.mr[k]'T]:=Le T;have V:(q.a.mr.take (k+1)).foldl (jl lf) (List.replicate q.n (-1),[])=jl lf ((q.a.mr.take k).foldl (jl lf) (List.replicate q.n (-1),[])) (q.a.mr[k]'T):=by rw[kj,MA];rfl
  have kk:((q.a.mr.take k).foldl (jl lf) (List.replicate q.n (-1),[])).1.length=q.n∧((q.a.mr.take k).foldl (jl lf) (List.replicate q.n (-1),[])).2.length≤q.a.mr.length:=by
   rw[gh];exact ⟨Vq _ _,LS (Mh _ _) (by rw[Lx];omega)⟩
  refine Zb ((q.a.mr.take k).foldl (jl lf) (List.replicate q.n (-1),[])) λz hz=>?_;rw[hz] at Y ha V kk;refine Zb (q.a.mr[k]'T) λy hy=>?_;rw[hy] at ki V;have hv:y=(y.toNat:Int):=by omega
  have h5:y.toNat<z.1.length:=by omega
  have hW:=VK (l:=lf) (s:=y) (by omega);have gr:=hA.ext h0;refine Qf<|Qg<|Qc<|xii (i:=k) gr.a.mr O O T λma hC=>?_;rw[hy] at hC;refine x (Qu hC O)<|Qe<|Qc<|Qb<|x (QH O)<|x (Qa O)<|x (Qd gr.B O O)<|Qb<|x (Zj (i:=y.toNat) O (congrArg (Value.int .i64) hv) (by omega))<|x (XK (i:=y.toNat) (hB.ext h0) O (by omega))<|xe ?_;rw[hW];refine Q2 O (λga=>?_) (λga=>?_)
  ·have e1:jl lf z y=(z.1.set y.toNat 0,z.2++[y]):=by unfold jl;rw[if_pos ga]
   rw[e1] at V;refine Qc<|Qb<|Qb<|x (Zj (i:=y.toNat) O (congrArg (Value.int .i64) hv) (by omega))<|xl O<|X9 (i:=y.toNat) Y O O h5 λw4 hf h3=>xe ?_;have hQ:=hf.size;have gx:bO<G.heap.size:=hw.lt;have J:Qt 3 G.heap.size w4 vl z.2:=Qj ha hf (λb hb=>by have:=Qk ha b hb;simp only[List.mem_singleton];omega)
   refine Qx<|Qb<|Qb<|xl O<|QC (us:=[[.int .i64 y]]) O O (by decide) (by simp) ⟨rfl,rfl,U⟩ λmc w5 E mf kn=>xl rfl<|QU (m:=1) (news:=[.int .i64 y]) (Qm J E) rfl rfl rfl (kn.at (L:=[]) (by simp)) (by simp[Value.oneCell']) (by omega) (by have:=E.size;omega) λhY w6 h7 I mg =>
    Qe ?_
   have hH:=E.size;have kc:=I.size;refine Qx<|QN O O<|Qb<|xe<|⟨(k+1,hY),by simp only[];omega,⟨O,O,U⟩,T,((h0.then1 hf h9).trans E).then I (λb hb=>.inr (by have:=Qk J b hb;have:=hh.size;omega)),by omega,?_,?_⟩
   ·simp only[];rw[V];exact (h3.ext E).step I (λhb=>by have:=Qk J _ hb;omega)
   simp only[];rw[V];exact Qt.snoc h7
  have e1:jl lf z y=z:=by unfold jl;rw[if_neg (by rw[ga];decide)]
  rw[e1] at V;refine Qi<|Qx<|QN O O<|Qb<|xe ?_;exact ⟨(k+1,vl),by simp only[];omega,⟨O,O,U⟩,T,h0,gg,by simp only[];rw[V];exact Y,by simp only[];rw[V];exact ha⟩
 refine Qi ?_;have hO:j<q.n:=by have gu:(j:Int)<(q.n:Int):=hN;omega
 refine Qf<|Qg<|Qc<|Qb<|Qe<|Qx ?_;have ko:(gA q.n (λi=>if i<j then -1 else 0)).set j (-1)=gA q.n (λi=>if i<j+1 then -1 else 0):=QkD (by rw[if_pos (by omega)]) (λi _ hi=>by
  by_cases e:i<j
  ·rw[if_pos e,if_pos (by omega)]
  rw[if_neg e,if_neg (by omega)])
 refine Qb<|Qb<|x (Zj (i:=j) O O (by omega))<|xl O<|Qfh (i:=j) hw O O hO ko λw6 I hK=>xe ?_;refine Qx<|QN O O<|Qb<|xe ?_;exact ⟨j+1,by omega,Z,hO,hh.then1 I h9,hK⟩
abbrev jF (rk rs:Int) (x:Int×Int):LV:=[.int .i64 x.1,.int .i64 rk,.int .i64 rs,.int .i64 x.2]
theorem Qb3 (rk rs:Int) (x:Int×Int):(jF rk rs x).length=4:=rfl
abbrev RmO (base:Nat) (w:World) (v:Value) (rk rs:Int) (l:List (Int×Int)):Prop:=w.ownsRow base 320 4 v l.length (l.flatMap (jF rk rs))
theorem RmO.snoc {base:Nat}{w:World}{v:Value}{rk rs:Int}{l:List (Int×Int)}{x:Int×Int}(h:w.ownsRow base 320 4 v (l.length+1) (l.flatMap (jF rk rs)++jF rk rs x)):RmO base w v rk rs (l++[x]):=by
 unfold RmO;rw[Li,Lz];simpa using h
theorem QfG {a:QV}{ul:LI}{lf:Lf}{k:Nat}(h:k<a.ed.length):(a.ed.take (k+1)).foldl (JT ul lf) []=JT ul lf ((a.ed.take k).foldl (JT ul lf) []) (a.ed[k]'h):=by
 rw[Le h,MA];rfl
set_option maxHeartbeats 4000000 in
theorem Qfe {w:World}{bp:Nat}{q:Pz}{lf:Lf}(S:jn [] w.heap bp q) (hq:PzQ q) (hB:Q3 w.heap q.bl 4 (lf.map Value.bool)) (hl:lf.length=q.n) (rk:Int) :
  QJ prog 264 [.pointer (some ⟨bp,0,none⟩),.int .i64 rk] w λr w'=>Step [] w w'∧RmO w.heap.size w' r rk 2 (lost q.a q.unc lf):=by
 have hn:=hq.n;have hU:=hq.ok.st1;have hV:=hq.ok.ed_le;refine QJ.of_W func264 O ntmps264 results264 (by simp) ?_;refine Qc<|Qe<|Qc<|Qe<|Qf<|Qc<|Qb<|x (QH O)<|x (Qa O)<|x (Qa O)<|x (Qd S.B O O)<|x (Qq S.a.ed O)<|Qb<|xe ?_
 refine Qg<|Qy (α:=Nat×Value) [(5,5),(7,8),(15,72)] (λz=>[(5,z.2),(15,.int .i64 z.1)]) (λz w'=>z.1≤q.a.ed.length∧Step [] w w'∧RmO w.heap.size w' z.2 rk 2 ((q.a.ed.take z.1).foldl (JT q.unc lf) [])) (λz=>q.a.ed.length - z.1) (by rfl) (0,nS) ⟨O,O,U⟩ ⟨Lk _,Step.refl _ _,QO _ _ _ _⟩ ?_;rintro ⟨k,vo⟩ g w1 ⟨hk,hg,I⟩;simp only[] at hk I
 have hh:=(U0 (a:=q.a) (ul:=q.unc) (lf:=lf) (q.a.ed.take k) [] (λe he=>LZ he) (λp hp=>by cases hp)).2;rw[Lx] at hh;refine Qc<|x (QA O O)<|xe<|Qf<|QE O (λhj=>?_) (λhj=>?_)
 ·refine Qw ?_;have hD:q.a.ed.length≤k:=by have T:¬(k:Int)<(q.a.ed.length:Int):=hj;omega
  rw[Lm hD] at I;refine Qc<|Qb<|Qe ?_;exact Qn ⟨[_],Z,hg,I⟩
 refine Qi ?_;have G:k<q.a.ed.length:=by have T:(k:Int)<(q.a.ed.length:Int):=hj;omega
 have hE:=hq.ok.ed _ (Lh G);have E:=QfG (ul:=q.unc) (lf:=lf) G;refine Zb ((q.a.ed.take k).foldl (JT q.unc lf) []) λout hout=>?_;rw[hout] at I E hh;refine Zb (q.a.ed[k]'G) λe he=>?_;rw[he] at hE E;simp only[List.length_nil] at hh;have hF:e.1=(e.1.toNat:Int):=by omega
 have hG:e.2.2=(e.2.2.toNat:Int):=by omega
 have hH:=VK (l:=lf) (s:=e.1) (by omega);have hI:=VK (l:=lf) (s:=e.2.2) (by omega);have hJ:=S.ext hg;refine Qf<|Qg<|Qc<|xie hJ.a.ed O O G λhW T=>?_;rw[he] at T;refine x (QI T O O)<|xl O<|Qv (us:=[.int .i64 0,.int .i64 0,.int .i64 0]) O λb7 w2 hK hL H=>xl O<|Qr (us:=Qz e) H O O O O ⟨O,O,O,U⟩ λw3 hM V=>xe ?_;have h3:Step [] w1 w3:=hK.then1 hM hL
 have ho:=hg.trans h3;have Y:=S.ext ho;have h4:=hB.ext ho;have hN:=Qm I h3;refine Qf<|QW (α:=Bool) [(19,47)] (λz=>[(47,.bool z)]) (λz w'=>Step [] w3 w'∧(z=true↔(lft lf e.1=false∨lft lf e.2.2=true∨e.2.1∉q.unc))) (by rfl) ?_ ?_
 ·refine QS (Step [] w3) [(0,true),(1,true),(2,true),(3,true),(4,true),(5,true),(6,true),(7,true),(8,true),(9,true),(10,true),(11,true),(12,true),(13,true),(14,true),(15,true),(16,true),(17,true),(18,true),(19,true),(20,true),(21,true),(22,true),(23,true),(24,true),(25,true),(26,false),(27,true),(28,true)] mixed (by rfl) (by kernel_rfl) (Step.drew _ _) ?_
  refine p (λ_=>Ql)<|p (λ_=>QH O)<|p (λ_=>Qa O)<|pq (λ_ hc=>Qd (Y.B.ext hc) O O)<|p (λ_=>Qa O)<|pq (λ_ hc=>Qd (V.ext hc) O O) <|
   p (λ_=>Zj (i:=e.1.toNat) O (congrArg (Value.int .i64) hF) (by omega))<|pq (v:=.bool (lft lf e.1)) (λ_ hc=>(XK (i:=e.1.toNat) (h4.ext hc) O (by omega)).trans (by rw[hH]))<|pB (λ_=>Zm rfl) (λJ=>?_) (λJ=>?_)
  ·refine p (λ_=>Ql)<|ps<|ps<|ps<|ps<|ps<|ps<|ps<|ps<|p (λ_=>Qo O)<|p (λ_=>Ql)<|ps<|ps<|ps<|ps<|ps<|ps<|ps<|ps<|p (λ_=>Qo O)<|pe ?_;exact ⟨_,Z,Step.drew _ _,by simp at J;simp[J]⟩
  refine p (λ_=>Ql)<|p (λ_=>Ql)<|p (λ_=>QH O)<|p (λ_=>Qa O)<|pq (λ_ hc=>Qd (Y.B.ext hc) O O)<|p (λ_=>Qa O)<|pq (λ_ hc=>Qd (V.ext hc) O O) <|
   p (λ_=>Zj (i:=e.2.2.toNat) O (congrArg (Value.int .i64) hG) (by omega))<|?_
  refine pqB (b:=lft lf e.2.2) (λ_ hc=>(XK (i:=e.2.2.toNat) (h4.ext hc) O (by omega)).trans (by rw[hI])) (λhr=>?_) (λhr=>?_)
  ·refine p (λ_=>Qo O)<|p (λ_=>Ql)<|ps<|ps<|ps<|ps<|ps<|ps<|ps<|ps<|p (λ_=>Qo O)<|pe ?_;exact ⟨_,Z,Step.drew _ _,by simp[hr]⟩
  refine p (λ_=>Qo O)<|p (λ_=>Ql)<|p (λ_=>Ql)<|p (λ_=>QH O)<|p (λ_=>Qa O)<|pq (λ_ hc=>Qd (Y.B.ext hc) O O) <|
   p (λ_=>Qa O)<|pq (λ_ hc=>Qd (V.ext hc) O O)<|pk<|xf<|(ZJ (Y.u.ext (Step.drew _ _)) e.2.1).mono ?_
  rintro r4 w4 ⟨rfl,rfl⟩;refine ⟨Step.drew _ _,?_⟩;refine p (λ_=>UT O)<|p (λ_=>Qo O)<|pe ?_;exact ⟨_,Z,Step.drew _ _,by simp at J;simp[J,hr]⟩
 rintro z g w4 ⟨hs,hz⟩;have h5:=ho.trans hs;have ht:=Qm hN hs;have H:=V.ext hs;refine Q2 rfl (λha=>?_) (λha=>?_)
 ·refine Qw ?_;have e1:JT q.unc lf out e=out:=by unfold JT;rw[if_pos (hz.1 ha)]
  rw[e1] at E;refine Qx<|QN O O<|Qb<|xe ?_;exact ⟨(k+1,vo),by simp only[];omega,⟨O,O,U⟩,G,h5,by simp only[];rw[E];exact ht⟩
 refine Qi ?_;have h6:¬(lft lf e.1=false∨lft lf e.2.2=true∨e.2.1∉q.unc):=λh=>by rw[hz.2 h] at ha;cases ha
 have h7:Zo [] w4.heap vo out.length 4 (out.flatMap (jF rk 2)):=QR ht (by omega) (by simp);refine Qf<|Qc<|Qb<|x (Qq h7 O)<|Qe<|QW (α:=Bool) [(50,62)] (λz=>[(62,.bool z)]) (λz w'=>Step [] w4 w'∧(z=true↔out.getLast?.map (·.1)=some e.1)) (by rfl) ?_ ?_
 ·refine QS (Step [] w4) [(0,true),(1,true),(2,true),(3,true),(4,true),(5,true),(6,true),(7,true),(8,true),(9,true),(10,true),(11,true),(12,true)] mixed (by rfl) (by kernel_rfl) (Step.drew _ _) ?_;refine p (λ_=>Ql)<|pb (λ_=>ZR O O) (λhu=>?_) (λhu=>?_)
  ·have hX:0<out.length:=by have hO:(0:Int)<(out.length:Int):=hu;omega
   have h8:out.getLast?=some (out[out.length - 1]'(by omega)):=by rw[List.getLast?_eq_getElem?,Lt]
   refine Zb (out[out.length - 1]'(by omega)) λy hy=>?_;rw[hy] at h8;refine p (λ_=>Ql)<|p (λ_=>Ql)<|p (λ_=>Ql)<|p (λ_=>X2 O O ⟨by omega,by omega⟩)<|Go.Lg.pig (g:=jF rk 2) (i:=out.length - 1) O (Qb3 rk 2) h7 O (congrArg (Value.int .i64) (show (out.length:Int) - 1=((out.length - 1:Nat):Int) by omega)) (by omega) λhY h9=>?_;rw[hy] at h9
   refine p (λ_=>Q4 O)<|pq (λ_ hc=>Qu ((h9.fld 0 (.int .i64 y.1) O).ext hc) O)<|p (λ_=>Qa O)<|pq (λ_ hc=>Qd (H.ext hc) O O) <|
    p (λ_=>Q8 O O)<|p (λ_=>Qo O)<|pe ?_
   exact ⟨_,Z,Step.drew _ _,by rw[h8];simp⟩
  have h0:out=[]:=Lo (by have hO:¬(0:Int)<(out.length:Int):=hu;omega);refine p (λ_=>Ql)<|ps<|ps<|ps<|ps<|ps<|ps<|ps<|ps<|ps<|p (λ_=>Qo O)<|pe ?_;exact ⟨_,Z,Step.drew _ _,by simp[h0]⟩
 rintro z2 g w5 ⟨hv,hC⟩;have hw:=h5.trans hv;have h1:=Qm ht hv;have H:=H.ext hv;refine Q2 rfl (λhf=>?_) (λhf=>?_)
 ·refine Qw ?_;have e1:JT q.unc lf out e=out:=by unfold JT;rw[if_neg h6,if_pos (hC.1 hf)]
  rw[e1] at E;refine Qx<|QN O O<|Qb<|xe ?_;exact ⟨(k+1,vo),by simp only[];omega,⟨O,O,U⟩,G,hw,by simp only[];rw[E];exact h1⟩
 refine Qi ?_;have hP:¬out.getLast?.map (·.1)=some e.1:=λh=>by rw[hC.2 h] at hf;cases hf
 have e1:JT q.unc lf out e=out++[(e.1,e.2.1)]:=by unfold JT;rw[if_neg h6,if_neg hP]
 rw[e1] at E;refine Qx<|Qb<|x (Qa O)<|x (Qd H O O)<|Qb<|x (Qa O)<|x (Qd H O O)<|x (QF ⟨O,O,O,O,U⟩) <|
  xl rfl<|QC (us:=[jF rk 2 (e.1,e.2.1)]) O O (by decide) (by simp) ⟨rfl,rfl,U⟩ λhZ w6 h2 ga hQ =>
  xl rfl<|QU (m:=1) (news:=jF rk 2 (e.1,e.2.1)) (Qm h1 h2) O O O (hQ.at (L:=[]) (by simp)) (by simp[Value.oneCell']) (by omega) (by have:=hw.size;have:=h2.size;omega) λhR w7 hS hT gb=>Qe<|Qx<|QN O O<|Qb<|xe ?_
 exact ⟨(k+1,hR),by simp only[];omega,⟨O,O,U⟩,G,(hw.trans h2).then hT (λb hb=>.inr (Qk h1 b hb).1),by simp only[];rw[E];exact RmO.snoc hS⟩
theorem zR (lf:Lf) (d:Int):∀(l:LI) (i:Nat),KE lf i (l++[d])=KE lf i l++if lf.getD (i+l.length) false=true∧d<0 then [((i+l.length:Nat):Int)] else []
 | [],i=>by
  simp only[List.nil_append,KE,List.length_nil,Nat.add_zero]
 | a::l,i=>by
  have ih:=zR lf d l (i+1);rw[show i+1+l.length=i+(a::l).length by simp;omega] at ih;simp only[List.cons_append,KE,ih];by_cases h:lf.getD i false=true∧a<0
  ·rw[if_pos h,if_pos h,Mc]
  rw[if_neg h,if_neg h]
abbrev blP (l:LI):List (Int×Int):=l.map λs=>(s,-1)
set_option maxHeartbeats 4000000 in
theorem jK {w:World}{bp:Nat}{q:Pz}{lf:Lf}(hA:jn [] w.heap bp q) (hq:PzQ q) (hB:Q3 w.heap q.bl 4 (lf.map Value.bool)) (hl:lf.length=q.n) (rk:Int) :
  QJ prog 265 [.pointer (some ⟨bp,0,none⟩),.int .i64 rk] w λr w'=>Step [] w w'∧RmO w.heap.size w' r rk 3 (blP (KE lf 0 (dsts q.a lf)))∧(KE lf 0 (dsts q.a lf)).length≤q.n:=by
 have hn:=hq.n;have h1:=hq.ok.st1;refine QJ.of_W func265 O ntmps265 results265 (by simp) ?_;refine Qc<|Qe<|Qc<|Qe<|Qf<|Qc<|Qb<|xl O<|xf<|(Vm hA hq hB hl).mono ?_;rintro r1 S ⟨hf,b,rfl,hb,hg,T⟩;refine Zb (dsts q.a lf) λD hD=>?_;rw[hD] at hg T ⊢;have hh:QL [] S.heap (.slice (some ⟨b,0,none⟩) q.n q.n) D:=by
  have h:=hg.arr (L:=[]) (by simp) (n:=q.n) (cap:=q.n) (sz:=1) (by simp[T]) (by omega) (Lr _);unfold QL;rw[T];exact h
 refine x (Qq hh O)<|Qb<|xe<|Qg<|Qy (α:=Nat×Value) [(5,7),(11,33)] (λz=>[(5,z.2),(11,.int .i64 z.1)]) (λz w'=>z.1≤D.length∧Step [] S w'∧RmO S.heap.size w' z.2 rk 3 (blP (KE lf 0 (D.take z.1)))) (λz=>D.length - z.1) (by rfl) (0,nS) ⟨O,O,U⟩ ⟨Lk _,Step.refl _ _,QO _ _ _ _⟩ ?_;rintro ⟨k,vo⟩ g w2 ⟨hk,I,E⟩;simp only[] at hk E;have hj:=(Vr lf (D.take k) 0).2
 rw[Lx] at hj;have V:=hf.trans I;refine Qc<|x (QA O O)<|xe<|Qf<|QE O (λY=>?_) (λY=>?_)
 ·refine Qw ?_;have hp:D.length≤k:=by have hr:¬(k:Int)<(D.length:Int):=Y;omega
  rw[Lm hp] at E;refine Qc<|Qb<|Qe ?_;exact Qn ⟨[_],Z,V,Zg E hf.size,by have:=(Vr lf D 0).2;omega⟩
 refine Qi ?_;have G:k<D.length:=by have hr:(k:Int)<(D.length:Int):=Y;omega
 have hs:D.take (k+1)=D.take k++[D[k]'G]:=Le G;have H:=zR lf (D[k]'G) (D.take k) 0;rw[←hs,Lx,LP,MI (by omega)] at H;refine Zb (D[k]'G) λd hd=>?_;rw[hd] at H;refine Zb (KE lf 0 (D.take k)) λout hout=>?_;rw[hout] at H E hj;have ha:k<lf.length:=by omega
 have ht:lf[k]'ha=lf.getD k false:=by simp[List.getD,ha]
 have hu:=hA.ext V;refine Qf<|Qg<|Qc<|Qb<|xii (i:=k) (hh.ext I) O O G λh2 ho=>?_;rw[hd] at ho;refine x (Qu ho O)<|x Qh<|Qe<|QW (α:=Bool) [(16,26)] (λz=>[(26,.bool z)]) (λz w'=>w'=w2∧(z=true↔lf.getD k false=true∧d<0)) (by rfl) ?_ ?_
 ·refine Qx<|Qb<|x (QH O)<|x (Qa O)<|x (Qd hu.B O O)<|Qb<|x (Zj (i:=k) O O (by omega))<|xB (b:=lf.getD k false) ((XK (i:=k) (hB.ext V) O ha).trans (by rw[ht])) (λhc=>?_) (λhc=>?_)
  ·refine Qb<|Qb<|x (QA O O)<|x (Qo O)<|xe ?_;exact ⟨_,Z,O,by rw[hc];simp⟩
  refine Qb<|xs O<|xs O<|x (Qo O)<|xe ?_;exact ⟨_,Z,O,by rw[hc];simp⟩
 rintro z g w3 ⟨rfl,hz⟩;refine Q2 rfl (λJ=>?_) (λJ=>?_)
 ·rw[if_pos (hz.1 J)] at H;refine Qx<|Qb<|Qb<|Qb<|x (QF ⟨O,O,O,O,U⟩)<|xl O<|QC (us:=[jF rk 3 ((k:Int),-1)]) O O (by decide) (by simp) ⟨rfl,rfl,U⟩ λh3 w4 he h4 hv =>
   xl rfl<|QU (m:=1) (news:=jF rk 3 ((k:Int),-1)) (Qm E he) O O O (hv.at (L:=[]) (by simp)) (by simp[Value.oneCell']) (by rw[Lb];omega) (by have:=I.size;have:=he.size;omega) λhw w5 hy h0 h5=>Qe<|Qx<|QN O O<|Qb<|xe ?_
  refine ⟨(k+1,hw),by simp only[];omega,⟨O,O,U⟩,G,(I.trans he).then h0 (λb hb=>.inr (Qk E b hb).1),?_⟩;simp only[];rw[H,show blP (out++[(k:Int)])=blP out++[((k:Int),-1)] by simp];exact RmO.snoc hy
 rw[if_neg (λh=>by rw[hz.2 h] at J;cases J),LH] at H;refine Qi<|Qx<|QN O O<|Qb<|xe ?_;exact ⟨(k+1,vo),by simp only[];omega,⟨O,O,U⟩,G,I,by simp only[];rw[H];exact E⟩
theorem Qfd {w:World}{bp:Nat}{q:Pz}{lf:Lf}(S:jn [] w.heap bp q) (hq:PzQ q) (T:Q3 w.heap q.bl 4 (lf.map Value.bool)) (hl:lf.length=q.n) (rk:Int) :
  QJ prog 214 [.pointer (some ⟨bp,0,none⟩),.int .i64 rk,.bool true] w λr w'=>Step [] w w'∧∃rs l,RmO w.heap.size w' r rk rs l∧l.map (·.1)=nxs q.a q.unc lf∧l.length≤1000000:=by
 have Y:=(yK q.a q.unc lf).2;have he:=hq.ok.ed_le;have hn:=hq.n;have hf:=hq.ok.st1;have E:nxs q.a q.unc lf=if (lost q.a q.unc lf).length≠0 then (lost q.a q.unc lf).map (·.1) else KE lf 0 (dsts q.a lf):=rfl
 refine QJ.of_W func214 O ntmps214 results214 (by simp) ?_;refine Qc<|Qe<|Qf<|Qc<|Qb<|Qb<|xl O<|xf<|(Qfe S hq T hl rk).mono ?_;rintro r1 w1 ⟨G,I⟩;refine Zb (lost q.a q.unc lf) λL hL=>?_;rw[hL] at I E Y;refine Qe<|QW (α:=Bool) [(11,17)] (λz=>[(17,.bool z)]) (λz w'=>w'=w1∧(z=true↔L.length≠0)) (by rfl) ?_ ?_
 ·refine Qx<|Qb<|x (Qq (L:=[]) (QR I (by omega) (by simp)) rfl)<|xb (ZR rfl rfl) (λJ=>?_) (λJ=>?_)
  ·refine Qb<|xs O<|xs O<|x (Qo O)<|xe ?_;exact ⟨_,Z,O,by have V:(0:Int)<(L.length:Int):=J;simp;intro e;subst e;simp at V⟩
  refine Qb<|Qb<|x (Zm O)<|x (Qo O)<|xe ?_;have V:¬(0:Int)<(L.length:Int):=J;have ha:L.length=0:=by omega
  exact ⟨_,Z,O,by rw[ha];simp⟩
 rintro z g w2 ⟨rfl,hz⟩;refine Q2 rfl (λH=>?_) (λH=>?_)
 ·rw[if_pos (hz.1 H)] at E;refine Qc<|Qb<|Qe ?_;exact Qn ⟨[_],Z,G,2,L,I,E.symm,by omega⟩
 rw[if_neg (λh=>by rw[hz.2 h] at H;cases H)] at E;refine Qi<|Qc<|Qb<|Qb<|xl O<|xf<|(jK (S.ext G) hq (T.ext G) hl rk).mono ?_;rintro r3 w3 ⟨hb,hc,hg⟩;refine Qe<|Qn ⟨[_],Z,G.trans hb,3,_,Zg hc G.size,?_,?_⟩
 ·rw[E,Me];exact List.map_id _
 rw[Lb];omega
structure J4 (base:Nat) (w:World) (n:Nat) (f:Nat→Value) (g:Nat→List Ed):Prop where
 own:∀i,i<n→Z4 144 base w (f i) (g i)
 dj:∀i j,i<n→j<n→i≠j→Dj (f i) (f j)
theorem J4.app {base n i:Nat}{w w':World}{f:Nat→Value}{g:Nat→List Ed}{v':Value}{l:List Ed}(h:J4 base w n f g) (hi:i<n) (I:Z4 144 base w' v' l) (J:Step (ob (f i)) w w')
  (S:∀b∈ob v',b∈ob (f i)∨w.heap.size≤b):J4 base w' n (Kt f i v') (Kt g i l):=by
 refine ⟨λj E=>?_,λj k E hk G=>?_⟩
 ·by_cases e:j=i
  ·subst e;rw[ZT,ZT];exact I
  rw[Yf _ _ e,Yf _ _ e];exact Qj (h.own j E) J (h.dj j i E hi e)
 have key:∀j,j<n→j≠i→Dj v' (f j):=λj E e b hb H=>by
  rcases S b hb with h1 | h1
  ·exact h.dj i j hi E (Ne.symm e) b h1 H
  have:=QP (h.own j E) b H;omega
 by_cases e1:j=i
 ·subst e1;rw[ZT,Yf _ _ (Ne.symm G)];exact key k hk (Ne.symm G)
 rw[Yf _ _ e1];by_cases e2:k=i
 ·subst e2;rw[ZT];exact (key j E e1).symm
 rw[Yf _ _ e2];exact h.dj j k E hk G
theorem J4.step {base n:Nat}{X:LN}{w w':World}{f:Nat→Value}{g:Nat→List Ed}(h:J4 base w n f g) (E:Step X w w') (G:∀i,i<n→∀b∈ob (f i),b∉X):J4 base w' n f g :=
 ⟨λi hi=>Qj (h.own i hi) E (G i hi),h.dj⟩
theorem J4.ext {base n:Nat}{w w':World}{f:Nat→Value}{g:Nat→List Ed}(h:J4 base w n f g) (E:Step [] w w'):J4 base w' n f g:=h.step E (λ_ _ _ _=>by simp)
def qS (E:List Ed) (s:Nat):List Ed:=ZK E (s:Int)
theorem Qdo (E:List Ed) (e:Ed) (G:0≤e.1):Kt (qS E) e.1.toNat (qS E e.1.toNat++[e])=qS (E++[e]):=by
 funext s;unfold qS ZK;rw[L3];by_cases h:s=e.1.toNat
 ·subst h;rw[ZT];have:e.1=(e.1.toNat:Int):=by omega
  simp[←this]
 rw[Yf _ _ h];have:¬e.1=(s:Int):=by omega
 simp[this]
theorem jE (E:List Ed) (s:Nat):(qS E s).length≤E.length:=JP E _
def QbM (num:LI) (m:List (Int×Value)):Prop:=∀s:Nat,s<num.length→mget m (s:Int)=if cget num s<0 then none else some (.int .i64 (cget num s))
theorem Ke (l:LI) (k:Int):Xf l k=cget l k.toNat:=rfl
structure JH (b4 mb:Nat) (r2:Value) (wS:World) (c:Cs) (m:List (Int×Value)) (vo vk ve:Value) (w:World):Prop where
 st:Step [b4,mb] wS w
 B4:Q3 w.heap b4 58 [r2,.int .i64 0,vk,ve]
 M:Z3 Ky w.heap mb m
 nm:QbM c.num m
 o:Qt 3 wS.heap.size w vo c.ord
 k:Qt 3 wS.heap.size w vk c.mk'
 e:Z4 144 wS.heap.size w ve c.ed
 d1:Dj vo vk
 d2:Dj vo ve
 d3:Dj vk ve
section
variable {b4 mb:Nat} {r2:Value} {wS:World} {c:Cs} {m:List (Int×Value)} {vo vk ve:Value} {w w' w'':World}
theorem JH.ext (h:JH b4 mb r2 wS c m vo vk ve w) (E:Step [] w w'):JH b4 mb r2 wS c m vo vk ve w' :=
 ⟨h.st.trans E,h.B4.ext E,h.M.ext E,h.nm,Qm h.o E,Qm h.k E,Qm h.e E,h.d1,h.d2,h.d3⟩
theorem JH.setK (h:JH b4 mb r2 wS c m vo vk ve w) (T:b4<wS.heap.size) (lm:mb<wS.heap.size) (ne:mb≠b4) {G:Value}{l:LI}(H:Step (ob vk) w w') (I:Qt 3 wS.heap.size w' G l)
  (J:∀b∈ob G,b∈ob vk∨w.heap.size≤b) (E:Step [b4] w' w'') (S:Q3 w''.heap b4 58 [r2,.int .i64 0,G,ve]):JH b4 mb r2 wS ⟨c.ord,c.num,l,c.ed⟩ m vo G ve w'' :=
 ⟨(h.st.then H (λb hb=>.inr (Qk h.k b hb).1)).then E (λb hb=>.inl (by simp at hb;simp[hb])),S,(h.M.step H (QM h.k lm)).step E (by simpa using ne),h.nm,
  Qj (Qj h.o H h.d1) E (λb hb=>by have:=(Qk h.o b hb).1;simp;omega),Qj I E (λb hb=>by have:=(Qk I b hb).1;simp;omega),
  Qj (Qj h.e H h.d3.symm) E (λb hb=>by have:=(Qk h.e b hb).1;simp;omega),h.d1.grow J (QP h.o),h.d2,(h.d3.symm.grow J (QP h.e)).symm⟩
theorem JH.setE (h:JH b4 mb r2 wS c m vo vk ve w) (T:b4<wS.heap.size) (lm:mb<wS.heap.size) (ne:mb≠b4) {G:Value}{l:List Ed}(H:Step (ob ve) w w') (I:Z4 144 wS.heap.size w' G l)
  (J:∀b∈ob G,b∈ob ve∨w.heap.size≤b) (E:Step [b4] w' w'') (S:Q3 w''.heap b4 58 [r2,.int .i64 0,vk,G]):JH b4 mb r2 wS ⟨c.ord,c.num,c.mk',l⟩ m vo vk G w'' :=
 ⟨(h.st.then H (λb hb=>.inr (Qk h.e b hb).1)).then E (λb hb=>.inl (by simp at hb;simp[hb])),S,(h.M.step H (QM h.e lm)).step E (by simpa using ne),h.nm,
  Qj (Qj h.o H h.d2) E (λb hb=>by have:=(Qk h.o b hb).1;simp;omega),Qj (Qj h.k H h.d3) E (λb hb=>by have:=(Qk h.k b hb).1;simp;omega),
  Qj I E (λb hb=>by have:=(Qk I b hb).1;simp;omega),h.d1,h.d2.grow J (QP h.o),h.d3.grow J (QP h.k)⟩
theorem JH.setN (h:JH b4 mb r2 wS c m vo vk ve w) (lm:mb<wS.heap.size) (ne:mb≠b4) {l:LI}{G:List (Int×Value)}(E:Step [mb] w w') (H:Z3 Ky w'.heap mb G) (hm:QbM l G):JH b4 mb r2 wS ⟨c.ord,l,c.mk',c.ed⟩ G vo vk ve w' :=
 ⟨h.st.then E (λb hb=>.inl (by simp at hb;simp[hb])),h.B4.step E (by simpa using ne.symm),H,hm,Qj h.o E (λb hb=>by have:=(Qk h.o b hb).1;simp;omega),
  Qj h.k E (λb hb=>by have:=(Qk h.k b hb).1;simp;omega),Qj h.e E (λb hb=>by have:=(Qk h.e b hb).1;simp;omega),h.d1,h.d2,h.d3⟩
theorem JH.setO (h:JH b4 mb r2 wS c m vo vk ve w) (I:b4<wS.heap.size) (lm:mb<wS.heap.size) {G:Value}{l:LI}(E:Step (ob vo) w w') (J:Qt 3 wS.heap.size w' G l)
  (H:∀b∈ob G,b∈ob vo∨w.heap.size≤b):JH b4 mb r2 wS ⟨l,c.num,c.mk',c.ed⟩ m G vk ve w' :=
 ⟨h.st.then E (λb hb=>.inr (Qk h.o b hb).1),h.B4.step E (QM h.o I),h.M.step E (QM h.o lm),h.nm,J,Qj h.k E h.d1.symm,Qj h.e E h.d2.symm,
  (h.d1.symm.grow H (QP h.k)).symm,(h.d2.symm.grow H (QP h.e)).symm,h.d3⟩
end
theorem QbM.set {num:LI}{m:List (Int×Value)}(h:QbM num m) {k:Nat}(hk:k<num.length) {v:Int}(G:0≤v):QbM (num.set k v) (mput m (k:Int) (.int .i64 v)):=by
 intro s E;rw[MS] at E;rw[Jc];by_cases e:s=k
 ·subst e;have:cget (num.set s v) s=v:=by unfold cget;simp[List.getD,hk]
  rw[if_pos rfl,this,if_neg (by omega)]
 rw[if_neg (by omega)];have:cget (num.set k v) s=cget num s:=by unfold cget;simp[List.getD,List.getElem?_set_ne (Ne.symm e)]
 rw[this];exact h s E
theorem jx (i:Nat) (c:Cs) (m:LI) (e:Ed):Zy i ⟨c.ord,c.num,m,c.ed⟩ e=⟨(Zy i c e).ord,(Zy i c e).num,m,(Zy i c e).ed⟩∧(Zy i c e).mk'=c.mk':=by
 unfold Zy;split <;> exact ⟨O,O⟩
theorem yW (i:Nat):∀(l:List Ed) (c:Cs) (m:LI),l.foldl (Zy i) ⟨c.ord,c.num,m,c.ed⟩=⟨(l.foldl (Zy i) c).ord,(l.foldl (Zy i) c).num,m,(l.foldl (Zy i) c).ed⟩∧(l.foldl (Zy i) c).mk'=c.mk'
 | [],c,m=>⟨O,O⟩
 | e::l,c,m=>by
  have h1:=jx i c m e;have h2:=yW i l (Zy i c e) m;rw[LO,LO,h1.1,h2.1];exact ⟨O,h2.2.trans h1.2⟩
theorem zi (i:Nat) (c:Cs) (e:Ed):∃r,(Zy i c e).ord=c.ord++r:=by
 unfold Zy;split
 ·exact ⟨_,rfl⟩
 exact ⟨[],by simp⟩
theorem j5 (i:Nat):∀(l:List Ed) (c:Cs),∃r,(l.foldl (Zy i) c).ord=c.ord++r
 | [],c=>⟨[],by simp⟩
 | e::l,c=>by
  obtain ⟨E,h1⟩:=zi i c e;obtain ⟨r2,h2⟩:=j5 i l (Zy i c e);exact ⟨E++r2,by rw[LO,h2,h1,LA]⟩
theorem Qdp {a:QV}{i:Nat}{c:Cs}(hi:i<c.ord.length):qT a i c=Yk a i ((ZK a.ed (cget c.ord i)).foldl (Zy i) c):=by
 unfold qT;rw[Ke,MK];obtain ⟨r,E⟩:=j5 i (ZK a.ed (cget c.ord i)) c;have hm:=(yW i (ZK a.ed (cget c.ord i)) c c.mk').2;unfold Yk;have G:Xf ((ZK a.ed (cget c.ord i)).foldl (Zy i) c).ord (i:Int)=Xf c.ord (i:Int):=by
  rw[Ke,Ke,E];simp only[Int.toNat_natCast];exact qy hi
 rw[G];split
 ·rw[(yW i _ c _).1,hm]
 rfl
set_option maxHeartbeats 8000000 in
theorem UV {w:World}{bp:Nat}{q:Pz}{lf:Lf}(hA:jn [] w.heap bp q) (hq:PzQ q) (hB:Q3 w.heap q.bl 4 (lf.map Value.bool)) (hl:lf.length=q.n) :
  QJ prog 218 [.pointer (some ⟨bp,0,none⟩)] w λr w'=>Step [] w w'∧∃v o,r=.tuple #[v,o]∧Xw w.heap.size w'.heap v (QeI q.a lf)∧o.oneCell'=true:=by
 have hn:=hq.n;have hst1:=hq.ok.st1;have kg:=hq.ok.ed_le;have hml:=hq.ok.mr_le;have ph:=Qdn hq.ok lf;have V:QeI q.a lf=if q.a.st=0∨lft lf 0=false then ⟨q.a.al,0,[],[]⟩ else JG (rstr q.a lf):=rfl
 refine Zb (QeI q.a lf) λSA pj=>?_;rw[pj] at V ⊢;refine QJ.of_W func218 O ntmps218 results218 (by simp) ?_;refine Qc<|xl O<|Qv (us:=[nS,.int .i64 0,nS,nS]) O λb2 w1 gi hb2 h9=>Qe ?_;have hz1:=gi.size;have hl2:=h9.lt;have kh:=hA.ext gi;refine Qc<|Qb<|x (QH O)<|x (Qa O)<|x (Qa O)<|x (Qd kh.B O O)<|xl O<|xf<|(ZW kh.a.al).mono ?_;rintro r2 w2 ⟨hL,hv⟩;have hz2:=hL.size
 have hM:=Qt.ints (L:=[]) hv hA.a.al.le (by simp);refine x (QF ⟨hM.cells,U⟩)<|xl O<|Qv (us:=[nS,.int .i64 0,nS,nS]) O λb4 w3 pm pn hC =>
  xl rfl<|Qr (us:=[r2,.int .i64 0,nS,nS]) hC O O O O ⟨hM.one,O,O,O,U⟩ λw4 po hC=>xe ?_
 have S:Step [] w2 w4:=pm.then1 po pn;have Y:=gi.trans hL;have hD:=Y.trans S;have hl4:=hC.lt;have hz24:=S.size;have gj:=hA.ext hD;have pp:∀b∈ob r2,b<w2.heap.size:=QP hv;refine Qf<|QW (α:=Bool) [(22,36)] (λz=>[(36,.bool z)]) (λz w'=>w'=w4∧(z=true↔(q.a.st=0∨lft lf 0=false))) (by rfl) ?_ ?_
 ·refine Qx<|Qb<|x (QH O)<|x (Qa O)<|x (Qa O)<|x (Qd gj.B O O)<|xb (Q8 O O) (λgk=>?_) (λgk=>?_)
  ·refine Qb<|xs O<|xs O<|xs O<|xs O<|xs O<|xs O<|xs O<|x (Qo O)<|xe ?_;exact ⟨_,Z,O,by simp[gk]⟩
  have gl:(0:Int).toNat<lf.length:=by
   have:0<q.n:=by omega
   simp;omega
  have gm:=VK (l:=lf) (s:=0) gl;refine Qb<|Qb<|x (QH O)<|x (Qa O)<|x (Qd gj.B O O)<|x (Zj (i:=0) O O (by simp at gl;omega))<|x (v:=.bool (lft lf 0)) ((XK (i:=0) (hB.ext hD) O gl).trans (by rw[←gm];rfl))<|x (Zm O)<|x (Qo O)<|xe ?_;exact ⟨_,Z,O,by simp[gk]⟩
 rintro z g w4 ⟨rfl,hz⟩;refine Q2 rfl (λhN=>?_) (λhN=>?_)
 ·rw[if_pos (hz.1 hN)] at V;subst V;refine Qc<|x (Qs hC O O)<|xl O<|Qr (us:=[r2,.int .i64 0,nS,nS]) ((h9.ext hL).ext S) O O O O ⟨hM.one,O,O,O,U⟩ λw6 hw h9=>Qe<|Qn ⟨[.agg #[r2,.int .i64 0,nS,nS],nS],⟨⟨_,O,QB O (h9.at (L:=[]) (by simp)).cells⟩,rfl,U⟩,hD.then1 hw (by omega),_,_,rfl,?_,rfl⟩;have pt:=Qj (Qm hv S) hw (λb hb=>by have:=(Qk hv b hb).1;simp;omega)
  exact ⟨r2,_,_,O,λL' hE=>⟨Qt.ints pt hA.a.al.le (λb hb=>by have:=hE b hb;omega),Zo.nil _ _ _,Zo.nil _ _ _⟩⟩
 have ki:¬(q.a.st=0∨lft lf 0=false):=λh=>by rw[hz.2 h] at hN;cases hN
 rw[if_neg ki] at V;have pu:0<q.a.st:=by have:=hq.ok.st0;omega
 have kj:(rstr q.a lf).st.toNat=q.n:=by show q.a.st.toNat=q.n;omega
 unfold JG at V;rw[if_neg (show ¬(rstr q.a lf).st=0 from λh=>ki (.inl h)),kj] at V;simp only[] at V;refine Qi<|Qc<|Qb<|x (QH O)<|x (Qa O)<|x (Qa O)<|x (Qd gj.B O O)<|xl O<|VF (n:=q.n) (congrArg (Value.int .i64) hn) (congrArg (Value.int .i64) hn) (by omega) λbE w6 hw pw gn=>Qe ?_;rw[QeU] at gn;have hz6:=hw.size;have hlE:=gn.lt;have pz:=hD.trans hw;have kk:=hA.ext pz
 refine Qf<|Qc<|Qb<|x (QH O)<|x (Qa O)<|x (Qa O)<|x (Qd kk.B O O)<|x (Qq kk.a.ed O)<|Qb<|xe<|Qg<|Qy (α:=Nat×(Nat→Value)) [(7,7),(50,74)] (λz=>[(50,.int .i64 z.1)]) (λz w'=>z.1≤q.a.ed.length∧Step [bE] w6 w'∧Q3 w'.heap bE 56 ((List.range q.n).map z.2)∧J4 w6.heap.size w' q.n z.2 (qS ((q.a.ed.take z.1).filter λe=>lft lf e.2.2))) (λz=>q.a.ed.length - z.1) (by rfl) (0,λ_=>nS) Z
  ⟨Lk _,Step.refl _ _,gn,⟨λi _=>QO _ _ _ _,λi j _ _ _=>Dj.nil _⟩⟩ ?_
 rintro ⟨k,rv⟩ g w7 ⟨hk,hO,go,T⟩;simp only[] at hk go T;have hF:Step [] w4 w7:=hw.then1 hO pw;have gp:=hD.trans hF;have hz7:=hO.size;have kn:=hA.ext gp;refine Qc<|x (QA O O)<|xe<|Qf<|QE O (λgq=>?_) (λgq=>?_)
 ·refine Qw ?_;have p0:q.a.ed.length≤k:=by have hP:¬(k:Int)<(q.a.ed.length:Int):=gq;omega
  rw[Lm p0] at T;have T:J4 w6.heap.size w7 q.n rv (qS (rstr q.a lf).ed):=T;have ko:(rstr q.a lf).ed.length≤q.a.ed.length:=Mh _ _;refine Qc<|xl O<|Yn Ky λmb w8 gr p1 p2=>xl O<|YX (k:=(0:Int)) p2 O O λE gs kp=>Qb<|Qe ?_;have H:Step [] w7 E:=gr.then1 gs p1;have p3:=H.size;have hQ:=kp.lt
  refine Qc<|xl O<|QC (us:=[[.int .i64 0]]) O O (by decide) (by simp) ⟨rfl,rfl,U⟩ λkq gt hy hb77 p4=>Qe<|Qf<|Qc<|Qe ?_;have gu:mb≠b4:=by omega
  have hG:b4<E.heap.size:=by omega
  have kr:=gp.trans H;have gv:∀b∈[b4,mb],w2.heap.size≤b:=λb hb=>by simp only[List.mem_cons,List.not_mem_nil,or_false] at hb;omega
  have p5:jn [b4,mb] E.heap bp q:=((hA.ext Y).up (λb hb=>.inr (gv b hb))).ext (S.trans (hF.trans H));have hBS:Q3 E.heap q.bl 4 (lf.map Value.bool):=hB.ext kr;have hlw:=hB.lt;have kt:∀s,s<q.n→qK [b4,mb] E.heap (rv s) (qS (rstr q.a lf).ed s):=λs hs=>QR (Qm (T.own s hs) H) (by have:=jE (rstr q.a lf).ed s;omega) (λb hb hm=>by
   have h1:=(Qk (T.own s hs) b hb).1;have h2:=QP (T.own s hs) b hb;simp only[List.mem_cons,List.not_mem_nil,or_false] at hm;omega)
  have hH:=go.ext H;have gw:∀b,b<w2.heap.size→b∉[b4,mb]:=λb hb hm=>by have:=gv b hm;omega
  have p6:bE∉[b4,mb]:=by simp only[List.mem_cons,List.not_mem_nil,or_false];omega
  have p7:q.bl<w2.heap.size:=by omega
  have hBl9:q.bl∉[b4,mb]:=gw _ p7;have p8:Q3 E.heap b4 58 [r2,.int .i64 0,nS,nS]:=((hC.ext hF)).ext H;have p9:Q3 E.heap b2 58 [nS,.int .i64 0,nS,nS]:=((h9.ext hL).ext S).ext (hF.trans H);have qb:=Qm hv (S.trans (hF.trans H));have qc:Qt 3 E.heap.size gt (.slice (some ⟨kq,0,none⟩) 1 1) [0]:=p4.own (n:=1) (sz:=1) O (by omega) (by omega)
  have ku:QbM (Jw (rstr q.a lf)).num (mput [] (0:Int) (.int .i64 0)):=by
   have h0:QbM (List.replicate q.n (-1)) ([]:List (Int×Value)):=λs hs=>by
    have qf:s<q.n:=by simpa using hs
    have:cget (List.replicate q.n (-1)) s=-1:=by unfold cget;simp[List.getD,qf]
    rw[this];rfl
   have h1:=h0.set (k:=0) (by simp;omega) (v:=0) (Ny _);unfold Jw;rw[kj];exact h1
  have gx:∀e∈(rstr q.a lf).ed,0≤e.1∧e.1<q.a.st∧0≤e.2.2∧e.2.2<q.a.st:=λe he=>by have:=ph.ed e he;exact ⟨this.1,this.2.1,this.2.2.2.1,this.2.2.2.2⟩
  have kv:KO q.a.st (Jw (rstr q.a lf)):=QcZ (a:=rstr q.a lf) pu;have kw:(rstr q.a lf).mr=q.a.mr:=rfl;refine Zb (rstr q.a lf) λR hR=>?_;rw[hR] at V kt ku gx kv kw ko;have qj:R.al=q.a.al:=by rw[←hR];rfl
  have hnN:q.a.st.toNat=q.n:=by omega
  refine Qg<|Qy (α:=Nat×Cs×List (Int×Value)×Value×Value×Value) [(9,10),(12,14),(78,142)] (λz=>[(9,z.2.2.2.1),(10,.int .i64 z.1)])
   (λz w'=>JH b4 mb r2 E z.2.1 z.2.2.1 z.2.2.2.1 z.2.2.2.2.1 z.2.2.2.2.2 w'∧z.1≤z.2.1.ord.length∧KO q.a.st z.2.1∧z.2.1.mk'.length≤z.1∧z.2.1.ed.length≤z.1*131072∧JF R (q.n - z.1) z.1 z.2.1=JF R q.n 0 (Jw R)) (λz=>q.n - z.1) (by rfl)
   (0,Jw R,mput [] (0:Int) (.int .i64 0),.slice (some ⟨kq,0,none⟩) 1 1,nS,nS) ⟨O,O,U⟩
   ⟨⟨hy.any,p8.ext hy,kp.ext hy,ku,qc,QO _ _ _ _,QO _ _ _ _,Dj.nil' _,Dj.nil' _,Dj.nil' _⟩,Lk _,kv,Lk _,Lk _,O⟩ ?_
  rintro ⟨i,c,m,vo,vk,ve⟩ g qk ⟨I,hi,hc,ql,qm,gy⟩;simp only[] at I hi hc ql qm gy;have hcle:=hc.le;have hS:=Qt.ints (L:=[]) I.o (by omega) (by simp);refine Qf<|Qc<|Qb<|Qb<|x (Qq hS O)<|x (QA O O)<|xe<|QE O (λqo=>?_) (λqo=>?_)
  ·refine Qw ?_;have qq:c=JF R q.n 0 (Jw R):=by rw[←gy,zO (by omega)]
   refine Qc<|Qb<|x (Qq hS O)<|x (Qa O)<|xl O<|QG I.B4 O O (by simp) rfl λhj Y hf=>xe ?_;have qr:=Qt.ints (L:=[]) I.k (by omega) (by simp);have q0:=Z4.eds (L:=[]) I.e (by have:=hc.el;omega) (by simp)
   refine Qc<|x (Qs hf O O)<|Qb<|xl O<|Qr (us:=[r2,.int .i64 c.ord.length,vk,ve]) ((p9.step I.st (gw _ (by omega))).step Y (by simp;omega)) O O O O ⟨hM.one,O,qr.one,q0.one,U⟩ λq1 hT q2=>Qe ?_;have ky:Step [b4,mb] E hj:=I.st.then Y (λb hb=>.inl (by simp at hb;simp[hb]));have q3:Step [] w q1:=(kr.then ky (λb hb=>.inr (by have:=gv b hb;omega))).then1 hT (by omega)
   refine Qn ⟨[.agg #[r2,.int .i64 c.ord.length,vk,ve],vo],⟨⟨_,O,QB O (q2.at (L:=[]) (by simp)).cells⟩,rfl,U⟩,q3,_,_,rfl,?_,hS.one⟩;rw[←qq] at V;subst V;have k1:=Qj (Qj I.k Y (λb hb=>by have:=(Qk I.k b hb).1;simp;omega)) hT (λb hb=>by have:=(Qk I.k b hb).1;simp;omega)
   have k2:=Qj (Qj I.e Y (λb hb=>by have:=(Qk I.e b hb).1;simp;omega)) hT (λb hb=>by have:=(Qk I.e b hb).1;simp;omega);have k3:=Qj (Qj qb ky (λb hb=>gw b (pp b hb))) hT (λb hb=>by have:=(Qk hv b hb).1;simp;omega)
   exact ⟨r2,vk,ve,O,λL' hE=>⟨by rw[qj];exact Qt.ints k3 hA.a.al.le (λb hb=>by have:=hE b hb;omega),Qt.ints k1 (by show c.mk'.length≤_;omega) (λb hb=>by have:=hE b hb;omega),Z4.eds k2 (by show c.ed.length≤_;have:=hc.el;omega) (λb hb=>by have:=hE b hb;omega)⟩⟩
  have G:i<c.ord.length:=by omega
  refine Qi ?_;have kz:=Zk G;have hsr:=hc.ord _ (Jf G);have hh:=Qdp (a:=R) G;refine Zb (cget c.ord i) λs0 k0=>?_;rw[k0] at kz hsr hh;have k5:s0=(s0.toNat:Int):=by omega
  have gz:s0.toNat<q.n:=by omega
  have q4:qS R.ed s0.toNat=ZK R.ed s0:=by unfold qS;rw[←k5]
  have hU:=kt s0.toNat gz;rw[q4] at hU;have q5:=JP R.ed s0;have k6:∀e∈ZK R.ed s0,0≤e.2.2∧e.2.2<q.a.st:=λe he=>⟨(gx e (ZM he).1).2.2.1,(gx e (ZM he).1).2.2.2⟩;refine Zb (ZK R.ed s0) λos za=>?_;rw[za] at hU q5 k6 hh;refine Qf<|Qg<|Qf<|Qc<|Qb<|Qb<|Qb<|xii (i:=i) hS O O G λa87 k7=>?_;rw[kz] at k7
  refine x (Qu k7 O)<|x (Zj (i:=s0.toNat) O (congrArg (Value.int .i64) k5) gz)<|x (Qd (u:=rv s0.toNat) (hH.step I.st p6) O (jD gz))<|x (Qq (hU.st I.st) O)<|Qb<|xe<|Qg<|Qy (α:=Nat×Cs×List (Int×Value)×Value×Value) [(9,9),(12,14),(92,126)] (λz=>[(9,z.2.2.2.1),(92,.int .i64 z.1)])
   (λz w'=>JH b4 mb r2 E z.2.1 z.2.2.1 z.2.2.2.1 vk z.2.2.2.2 w'∧z.1≤os.length∧KO q.a.st z.2.1∧z.2.1.mk'=c.mk'∧z.2.1.ed.length=c.ed.length+z.1∧(∃r,z.2.1.ord=c.ord++r)∧(os.drop z.1).foldl (Zy i) z.2.1=os.foldl (Zy i) c) (λz=>os.length - z.1) (by rfl) (0,c,m,vo,ve) ⟨O,O,U⟩
   ⟨I,Lk _,hc,O,O,⟨[],by simp⟩,rfl⟩ ?_
  rintro ⟨k4,d,m4,hV,hW⟩ g hj ⟨hg,zv,J,g0,k8,hX,h3⟩;simp only[] at hg zv J g0 k8 hX h3;have hcle4:=J.le;have z0:=Qt.ints (L:=[]) hg.o (by omega) (by simp);have g2:i<d.ord.length:=by obtain ⟨r,hr⟩:=hX;rw[hr,Li];omega
  have k9:cget d.ord i=s0:=by obtain ⟨r,hr⟩:=hX;rw[hr,qy G];exact k0
  refine Qc<|x (QA O O)<|xe<|Qf<|QE O (λz2=>?_) (λz2=>?_)
  ·refine Qw ?_;rw[Lq (by omega),Nq] at h3;rw[←h3] at hh;have ma:=p5.st hg.st;have z3:d.ord[i]'g2=s0:=by rw[Zk g2];exact k9
   have z4:Yk R i d=if s0∈q.a.mr then ⟨d.ord,d.num,d.mk'++[(i:Int)],d.ed⟩ else d:=by
    unfold Yk;rw[Ke,MK,k9,kw]
   rw[z4] at hh;have hY:JF R (q.n - (i+1)) (i+1) (qT R i c)=JF R q.n 0 (Jw R):=by
    rw[←gy];obtain ⟨t,ht⟩:∃t,q.n - i=t+1:=⟨q.n - i - 1,by omega⟩;rw[ht,JF,if_pos G,show q.n - (i+1)=t by omega]
   have hm4l:=congrArg List.length g0;refine Qf<|QS (Step [] hj) [(0,true),(1,true),(2,true),(3,true),(4,true),(5,true),(6,true),(7,true),(8,true),(9,false)] mixed (by rfl) (by kernel_rfl) (Step.drew _ _) ?_;refine p (λ_=>Ql)<|p (λ_=>QH O)<|p (λ_=>Qa O)<|p (λ_=>Qa O)<|pq (λ_ hc=>Qd (ma.B.ext hc) O O)<|p (λ_=>Ql) <|
    p (λ_=>Ql)<|pii (i:=i) O z0 O O g2 λa134 mc=>?_
   rw[z3] at mc;refine pq (λ_ hc=>Qu (mc.ext hc) O)<|pk<|xf<|(ZJ (ma.a.mr.ext (Step.drew _ _)) s0).mono ?_;rintro r16 w16 ⟨rfl,rfl⟩;refine ⟨Step.drew _ _,pe ?_⟩;have ha:=hg.ext (Step.drew [] hj);refine QE O (λg3=>?_) (λg3=>?_)
   ·rw[if_neg g3] at hh;refine Qi<|Qx<|Qb<|QN O O<|Qe ?_;rw[hh] at hY;exact ⟨(i+1,d,m4,hV,vk,hW),by simp only[];omega,⟨O,O,U⟩,ha,by simp only[];omega,J,by simp only[];omega,by simp only[];omega,hY⟩
   rw[if_pos g3] at hh;refine Qx<|x (Qa O)<|x (Qd ha.B4 O O)<|Qb<|xl O<|QC (us:=[[.int .i64 i]]) O O (by decide) (by simp) ⟨rfl,rfl,U⟩ λb140 w17 z9 hb140 hB140=>?_;have hJ:=ha.ext z9;refine xl O<|QU (news:=[.int .i64 i]) (L:=[]) hJ.k O O O (hB140.at (by simp)) (by simp[Value.oneCell']) (by omega) hJ.st.size λmf w18 mg mh hn18=>?_
   have hk18:Qt 3 E.heap.size w18 mf (d.mk'++[(i:Int)]):=Qt.snoc mg;refine x (Qa O)<|xl O<|QG (hJ.B4.step mh (QM hJ.k hG)) O O (by simp) (QD mg) λw19 hs19 hB19=>xe ?_;have hI19:=hJ.setK hG hQ gu mh hk18 hn18 hs19 hB19;refine Qx<|Qb<|QN O O<|Qe ?_;rw[hh] at hY
   exact ⟨(i+1,⟨d.ord,d.num,d.mk'++[(i:Int)],d.ed⟩,m4,hV,mf,hW),by simp only[];omega,⟨O,O,U⟩,hI19,by simp only[];omega,⟨J.nl,J.sum,J.ord,J.num,J.el⟩,by simp only[List.length_append,List.length_singleton];omega,by simp only[];omega,hY⟩
  refine Qi ?_;have hZ:k4<os.length:=by omega
  have hdr:=QY hZ;rw[hdr,LO] at h3;have g4:=k6 _ (Lh hZ);refine Zb (os[k4]'hZ) λe he=>?_;rw[he] at h3 g4;have ga:e.2.2=(e.2.2.toNat:Int):=by omega
  have gb:e.2.2.toNat<d.num.length:=by rw[J.nl];omega
  have mj:=hg.nm e.2.2.toNat gb;rw[←ga] at mj;have mo:Xf d.num e.2.2=cget d.num e.2.2.toNat:=rfl;refine Qf<|Qg<|Qc<|xie (hU.st hg.st) O O hZ λa94 mq=>?_;rw[he] at mq;refine x (QI mq O O)<|xl O<|Qv (us:=[.int .i64 0,.int .i64 0,.int .i64 0]) O λg5 w20 hs20 g6 hf=>xl O<|Qr (us:=Qz e) hf O O O O ⟨O,O,O,U⟩ λgc hs21 hf=>xe ?_;have mu:Step [] hj gc:=hs20.then1 hs21 g6
  have ha:=hg.ext mu;have hl12:=hf.lt;have hz21:=mu.size;have hIz:=hg.st.size;have mv:KO q.a.st (Zy i d e):=jw J g4.1 g4.2 (by have:=J.el;omega);have mw:Zy i d e=⟨(ZS d e).ord,(ZS d e).num,(ZS d e).mk',(ZS d e).ed++[((i:Int),e.2.1,Xf (ZS d e).num e.2.2)]⟩:=UG gb;have hordl:=mv.le
  refine QW (α:=Value) [(13,14),(96,102)] (λz=>[(13,.int .i64 (if cget d.num e.2.2.toNat<0 then 0 else cget d.num e.2.2.toNat)),(14,.bool (!decide (cget d.num e.2.2.toNat<0)))]) (λz w'=>w'=gc) (by rfl) ?_ ?_
  ·refine Qx<|Qb<|x (Qa O)<|x (Qd hf O O)<|x (v:=.tuple #[.int .i64 (if cget d.num e.2.2.toNat<0 then 0 else cget d.num e.2.2.toNat),.bool (!decide (cget d.num e.2.2.toNat<0))]) ((K1 (k:=e.2.2) ha.M O O).trans (congrArg (λv=>Result.ok (Next.value v) _) ?_))<|Qb<|x (Qp O O)<|x (Qp O O)<|x Qh<|Qe ?_
   ·rw[mj];by_cases ho:cget d.num e.2.2.toNat<0
    ·simp[ho]
    simp[ho]
   exact ⟨.bool true,⟨O,O,U⟩,O⟩
  rintro z5 g gc rfl;refine QW (α:=Value×List (Int×Value)×Int) [(9,9),(13,13),(103,115)] (λz=>[(9,z.1),(13,.int .i64 z.2.2)]) (λz w'=>cget (ZS d e).num e.2.2.toNat=z.2.2∧JH b4 mb r2 E (ZS d e) z.2.1 z.1 vk hW w'∧Q3 w'.heap g5 144 (Qz e)∧gc.heap.size≤w'.heap.size) (by rfl) ?_ ?_
  ·refine Qc<|Qb<|x (Zm O)<|xe<|Q2 O (λg7=>?_) (λg7=>?_)
   ·have ho:cget d.num e.2.2.toNat<0:=by simpa using g7
    have hK:ZS d e=⟨d.ord++[e.2.2],d.num.set e.2.2.toNat d.ord.length,d.mk',d.ed⟩:=by unfold ZS;rw[mo,if_pos ho]
    have hcg:cget (ZS d e).num e.2.2.toNat=(d.ord.length:Int):=by rw[hK];unfold cget;simp[List.getD,gb]
    refine Qc<|Qb<|x (Qq (Qt.ints (L:=[]) ha.o (by omega) (by simp)) rfl)<|Qe<|Qc<|Qb<|x (Qa rfl)<|x (Qd hf rfl rfl)<|Qb<|xl rfl<|Xn (k:=e.2.2) ha.M rfl rfl λw22 g8 hM22=>xe ?_;have my:=ha.nm.set gb (v:=(d.ord.length:Int)) (by omega);rw[←ga] at my;have hI6:=ha.setN hQ gu g8 hM22 my;have ge:=hf.step g8 (by simp;omega)
    refine Qx<|Qb<|x (Qa O)<|x (Qd ge O O)<|xl O<|QC (us:=[[.int .i64 e.2.2]]) O O (by decide) (by simp) ⟨rfl,rfl,U⟩ λb114 w23 g9 hb114 hB114=>?_;have ka:=hI6.ext g9;refine xl O<|QU (news:=[.int .i64 e.2.2]) (L:=[]) ka.o O O O (hB114.at (by simp)) (by simp[Value.oneCell']) (by show d.ord.length+1≤_;omega) ka.st.size λmz w24 ho24 S hn24=>Qe ?_
    have hk24:Qt 3 E.heap.size w24 mz (d.ord++[e.2.2]):=Qt.snoc ho24;have hb12o:g5∉ob hV:=λhb=>by have:=QP hg.o g5 hb;omega
    have h4:=ka.setO hG hQ S hk24 hn24;have:=g8.size;have:=g9.size;have:=S.size;refine ⟨(mz,mput m4 e.2.2 (.int .i64 d.ord.length),(d.ord.length:Int)),⟨O,O,U⟩,hcg,?_,(ge.ext g9).step S hb12o,by omega⟩;simp only[];rw[hK];exact h4
   have ho:¬cget d.num e.2.2.toNat<0:=by simpa using g7
   have hK:ZS d e=d:=by unfold ZS;rw[mo,if_neg ho]
   have kg:(if cget d.num e.2.2.toNat<0 then 0 else cget d.num e.2.2.toNat)=cget (ZS d e).num e.2.2.toNat:=by rw[hK,if_neg ho]
   refine Qi<|⟨(hV,m4,if cget d.num e.2.2.toNat<0 then 0 else cget d.num e.2.2.toNat),⟨O,O,U⟩,kg.symm,?_,hf,Lr _⟩
   rw[hK];exact ha
  rintro ⟨vo5,m5,tn⟩ g w25 ⟨m0,h4,ge,hz25⟩;simp only[] at h4 m0;have hnl:(ZS d e).num.length=d.num.length:=Qci d e;have m1:(ZS d e).ed=d.ed:=by unfold ZS;split <;> rfl
  have hgN:Xf (ZS d e).num e.2.2=cget (ZS d e).num e.2.2.toNat:=rfl;rw[hgN,m1,m0] at mw;have heN:Z4 144 E.heap.size w25 hW d.ed:=by have:=h4.e;rw[m1] at this;exact this
  refine Qx<|x (Qa O)<|x (Qd h4.B4 O O)<|Qb<|x (Qa O)<|x (Qd ge O O)<|Qb<|x (QF ⟨O,O,O,U⟩) <|
   xl rfl<|QC (us:=[Qz ((i:Int),e.2.1,tn)]) O O (by decide) (by exact (by decide:1*3≤1000000)) ⟨O,O,U⟩ λb123 w26 m2 hb123 hB123=>?_
  have gg:=h4.ext m2;refine xl O<|QU (m:=1) (news:=Qz ((i:Int),e.2.1,tn)) (L:=[]) (Qm heN m2) O O O (hB123.at (by simp)) (λu hu=>by simp only[Qz,List.mem_cons,List.not_mem_nil,or_false] at hu;rcases hu with rfl | rfl | rfl <;> rfl) (by have:=J.el;omega) gg.st.size λm3 w27 m6 m7 hn27=>?_
  have hk27:Z4 144 E.heap.size w27 m3 (d.ed++[((i:Int),e.2.1,tn)]):=Z4.snoc m6;refine x (Qa O)<|xl O<|QG (gg.B4.step m7 (QM gg.e hG)) O O (by simp) (QD m6) λw28 hs28 hB28=>xe ?_;have m8:=gg.setE hG hQ gu m7 hk27 hn27 hs28 hB28;rw[←mw] at m8;refine Qx<|QN O O<|Qb<|xe<|⟨(k4+1,Zy i d e,m5,vo5,m3),by simp only[];omega,⟨O,O,U⟩,m8,by simp only[];omega,mv,?_,?_,?_,h3⟩
  ·simp only[];rw[←g0];exact (jx i d [] e).2
  ·simp only[];rw[jy,k8];omega
  simp only[];obtain ⟨r1,h1⟩:=zi i d e;obtain ⟨r2',h2⟩:=hX;exact ⟨r2'++r1,by rw[h1,h2,LA]⟩
 refine Qi ?_;have G:k<q.a.ed.length:=by have hP:(k:Int)<(q.a.ed.length:Int):=gq;omega
 have m9:=hq.ok.ed _ (Lh G);have htk:q.a.ed.take (k+1)=q.a.ed.take k++[q.a.ed[k]'G]:=Le G;have h5:(q.a.ed.take (k+1)).filter (λe=>lft lf e.2.2)=(q.a.ed.take k).filter (λe=>lft lf e.2.2)++if lft lf (q.a.ed[k]'G).2.2=true then [q.a.ed[k]'G] else []:=by
  rw[htk,L3];congr 1;by_cases h:lft lf (q.a.ed[k]'G).2.2=true
  ·simp[h]
  simp[h]
 have hfll:((q.a.ed.take k).filter (λe=>lft lf e.2.2)).length≤k:=LS (Mh _ _) (by rw[Lx];omega);refine Zb ((q.a.ed.take k).filter (λe=>lft lf e.2.2)) λkept hkept=>?_;rw[hkept] at h5 T hfll;refine Zb (q.a.ed[k]'G) λe he=>?_;rw[he] at m9 h5;have pa:e.1=(e.1.toNat:Int):=by omega
 have ga:e.2.2=(e.2.2.toNat:Int):=by omega
 have gm:=VK (l:=lf) (s:=e.2.2) (by omega);have hp:e.1.toNat<q.n:=by omega
 refine Qf<|Qg<|Qc<|xie kn.a.ed O O G λa52 hP=>?_;rw[he] at hP;refine x (QI hP O O)<|xl O<|Qv (us:=[.int .i64 0,.int .i64 0,.int .i64 0]) O λb7 w8 gr hb7 h6=>xl O<|Qr (us:=Qz e) h6 O O O O ⟨O,O,O,U⟩ λE gs h6=>xe ?_;have H:Step [] w7 E:=gr.then1 gs hb7;have p3:=H.size;have hA9:=kn.ext H;have hB9:=hB.ext (gp.trans H);have kb:=T.ext H;have hH:=go.ext H
 refine Qf<|QS (Step [] E) [(0,true),(1,true),(2,true),(3,true),(4,true),(5,true),(6,true),(7,true)] mixed (by rfl) (by kernel_rfl) (Step.drew _ _) ?_;refine p (λ_=>Ql)<|p (λ_=>QH O)<|p (λ_=>Qa O)<|pq (λ_ hc=>Qd (hA9.B.ext hc) O O)<|p (λ_=>Qa O)<|pq (λ_ hc=>Qd (h6.ext hc) O O) <|
  p (λ_=>Zj (i:=e.2.2.toNat) O (congrArg (Value.int .i64) ga) (by omega))<|pq (v:=.bool (lft lf e.2.2)) (λ_ hc=>(XK (i:=e.2.2.toNat) (hB9.ext hc) O (by omega)).trans (by rw[gm]))<|pe ?_
 have h7:Step [] E { E with drawn:=E.drawn+1 }:=Step.drew _ _
 refine Q2 rfl (λkc=>?_) (λkc=>?_)
 ·rw[if_pos kc] at h5;have hrow:=kb.own _ hp;have ke:∀b∈ob (rv e.1.toNat),w6.heap.size≤b∧b<w7.heap.size:=λb hb=>⟨(Qk (T.own _ hp) b hb).1,QP (T.own _ hp) b hb⟩;have pc:bE∉ob (rv e.1.toNat):=λhb=>by have:=ke _ hb;omega
  have kf:b7∉ob (rv e.1.toNat):=λhb=>by have:=ke _ hb;omega
  have ko:=jE kept e.1.toNat;refine QS (Step (ob (rv e.1.toNat)) E) [(0,true),(1,true),(2,true),(3,true),(4,true),(5,true),(6,true),(7,true),(8,true),(9,false),(10,false),(11,true),(12,false)] mixed (by rfl) (by kernel_rfl) (h7.any.trans' (Step.drew _ _)) ?_;refine p (λ_=>Ql)<|p (λ_=>Qa O)<|pq (λ_ hc=>Qd (h6.step hc kf) O O)<|p (λ_=>Ql)<|p (λ_=>Qa O) <|
   pq (λ_ hc=>Qd (h6.step hc kf) O O)<|p (λ_=>Zj (i:=e.1.toNat) O (congrArg (Value.int .i64) pa) hp)<|pq (λ_ hc=>Qd (u:=rv e.1.toNat) (hH.step hc pc) O (jD hp)) <|
   pq (λ_ hc=>Qs (h6.step hc kf) O O)<|pk<|QC (us:=[Qz e]) O O (by decide) (by exact (by decide:1*3≤1000000)) ⟨O,O,U⟩ λb71 gt hy hb71 hB71=>⟨(h7.any.trans' (Step.drew _ _)).trans' hy.any,?_⟩
  have h8:Step [] E gt:=(h7.trans (Step.drew _ _)).trans hy;have hz10:=h8.size;refine pk<|QU (m:=1) (news:=Qz e) (L:=[]) (Qm hrow h8) O O O (hB71.at (by simp)) (λu hu=>by simp only[Qz,List.mem_cons,List.not_mem_nil,or_false] at hu;rcases hu with rfl | rfl | rfl <;> rfl) (by omega) (by omega) λvr qk pd gh hn11=>⟨h8.any.trans' gh,?_⟩
  have hBE11:=(hH.ext h8).step gh pc;have hlen:((List.range q.n).map rv).length=q.n:=by simp
  refine p (λ_=>Zj (i:=e.1.toNat) O (congrArg (Value.int .i64) pa) hp)<|pkl (hl:=by kernel_rfl)<|QG (j:=0+e.1.toNat*1) (u:=vr) hBE11 O O (by rw[hlen];omega) (QD pd) λhj Y hBE12=>pe ?_;have g6:Q3 hj.heap bE 56 ((List.range q.n).map (Kt rv e.1.toNat vr)):=by
   have e1:=Qet id q.n rv e.1.toNat vr;simp only[id] at e1;rw[←e1];simpa using hBE12
  have hvn:∀b∈ob vr,b∈ob (rv e.1.toNat)∨E.heap.size≤b:=λb hb=>(hn11 b hb).imp id (λh=>by omega);have pf:=kb.app hp (Z4.snoc pd) (h8.any.trans' gh) hvn;have pg:=pf.step Y (λi hi b hb=>by have:=(Qk (pf.own i hi) b hb).1;simp only[List.mem_singleton];omega);rw[Qdo kept e m9.1,←h5] at pg;refine Qx<|QN O O<|Qb<|xe ?_
  exact ⟨(k+1,Kt rv e.1.toNat vr),by simp only[];omega,Z,G,(((hO.trans H).trans h8).then gh (λb hb=>.inr (ke b hb).1)).trans' Y,g6,pg⟩
 rw[if_neg (by rw[kc];decide),LH] at h5;refine Qi<|Qx<|QN O O<|Qb<|xe ?_;exact ⟨(k+1,rv),by simp only[];omega,Z,G,(hO.trans H).trans h7,(hH.ext h7),by simp only[];rw[h5];exact kb.ext h7⟩
open Go.Sort
abbrev Rz:={ x:Int×Int×Int×Int // 0≤x.1∧x.1<4096 }
instance:Inhabited Rz:=⟨⟨(0,0,0,0),by decide⟩⟩
abbrev UJ (x:Rz):LV:=[.int .i64 x.1.1,.int .i64 x.1.2.1,.int .i64 x.1.2.2.1,.int .i64 x.1.2.2.2]
abbrev RzO (base:Nat) (w:World) (v:Value) (l:List Rz):Prop:=w.ownsRow base 320 4 v l.length (l.flatMap UJ)
set_option maxHeartbeats 1000000 in
theorem Ql2 (x y:Rz) (W:World):Calls prog 216 #[.agg (UJ x).toArray,.agg (UJ y).toArray] W λe w'=>e=.returned (.int .i64 (x.1.1 - y.1.1))∧∃q os',w'=grow (W.drewN q) os':=by
 have E:IntKind.i64.wrap (x.1.1 - y.1.1)=x.1.1 - y.1.1:=Ye ⟨by have:=x.2;have:=y.2;omega,by have:=x.2;have:=y.2;omega⟩
 go_enter func216,ntmps216
 go_wp2
 go_ret;exact ⟨by rw[←E];rfl,0,_,by rw[alloc_eq_grow,alloc_eq_grow,grow_grow];rfl⟩
theorem yg (x:Rz):(UJ x).length=4:=rfl
theorem yf:∀l:List Rz,(l.flatMap UJ).length=l.length*4
 | []=>rfl
 | x::l=>by rw[LB,Li,yf l,yg,LM];omega
theorem Qb2 {l:List Rz}{j:Nat}(G:j<l.length*4):(l.flatMap UJ)[j]?=some ((flatK UJ 4 l.toArray)[j]!):=by
 have h1:j / 4<l.length:=Nat.div_lt_of_lt_mul (by omega);have h2:j % 4<4:=Nat.mod_lt _ (by decide);rw[get_flatK _ _ _ _ (by simpa using G)];have h3:=XN UJ 4 yg l (j / 4) h1;have H:(l.flatMap UJ)[j]?=(UJ (l[j / 4]'h1))[j % 4]?:=by
  rw[←h3,LW,if_pos h2,MH];congr 1;omega
 rw[H];have h5:(l.toArray)[j / 4]! = l[j / 4]'h1:=by simp[h1]
 rw[h5];have E:j % 4<(UJ (l[j / 4]'h1)).length:=h2;exact (Lt E).trans (congrArg some (getElem!_pos (UJ (l[j / 4]'h1)) (j % 4) E).symm)
theorem QjX:SWO (ltOf λx y:Rz=>x.1.1 - y.1.1) where
 irrefl x:=by unfold ltOf;simp
 trans x y z h1 h2:=by unfold ltOf at *;simp at *;omega
 ntrans x y z h1 h2:=by unfold ltOf at *;simp at *;omega
set_option maxHeartbeats 1000000 in
theorem Qdj {w:World}{base:Nat}{v:Value}{l:List Rz}(h:RzO base w v l) (hl:l.length≤1099511627776) :
  QJ prog 215 [v,.func (.func 216) #[] #[]] w λ_ w'=>Step (ob v) w w'∧∃l',l'.length=l.length∧RzO base w' v l':=by
 unfold QJ;rcases h.2 with ⟨rfl,h0⟩ | ⟨g,cap,cur,rfl,ha,H,S,hb,T,hf⟩
 ·have hh:l=[]:=Lo h0;subst hh;have hc:=AnyF.slices_SortFunc_none Tryz.sortRm none 0 (.func (.func 216) #[] #[]) w;change Calls prog 215 _ _ _ at hc;refine Calls.mono hc λe w' he=>?_;obtain ⟨rfl,rfl⟩:=he;exact ⟨Step.refl _ _,[],O,h⟩
 have V:g<w.heap.size:=(LC.1 H).1;have hr:l.length*4≤cur.size:=by rw[T];exact Mr _ S
 have hH:HoldsK UJ 4 w g 0 l.toArray:=by
  intro j E;rw[size_flatK,LR] at E;have h1:=Qb2 E;rw[←hf,LW,if_pos E] at h1;constructor
  ·show (match w.heap[g]? with | some (.cells c _ _)=>if (none:Option _).isSome then none else c[0+j]? | _=>none)=_
   rw[H];simp only[Nat.zero_add,Option.isSome_none,Bool.false_eq_true,if_false];rw[←Mf,h1];rfl
  show (match w.heap[g]? with | some (.cells _ _ (lo,hi))=>decide (lo≤0+j) && decide (0+j<hi) | _=>false)=false
  rw[H];simp
 have eg:∀args w,(callFunc 216 args).run prog w=.ok (.enter 216 args) w:=enters_of func216 (by kernel_rfl) O;have hc:=AnyQ.slices_SortFunc Tryz.sortRm 4 Tryz.isAgg320 Tryz.sizeOf320 UJ yg (λx v Y=>by simp at Y;rcases Y with rfl | rfl | rfl | rfl <;> rfl) (λx y=>x.1.1 - y.1.1) QjX 216 #[] g 0 cap l.toArray w eg (λm os dk _ x y=>Ql2 x y _) hH V (by simp;omega)
 change Calls prog 215 _ _ _ at hc;rw[LR] at hc;refine Calls.mono hc λe w' he=>?_;obtain ⟨rfl,G,n,os,hp,_,rfl⟩:=he;have I:G.size=l.length:=by have:=hp.1;simpa using this
 have J:(sortWorldK UJ 4 w g 0 n G os).heap=w.heap.modify g (onCells (putCells id 0 (flatK UJ 4 G)))++os:=rfl;refine ⟨⟨rfl,O,O,?_,λk hk hn=>?_⟩,G.toList,by simpa using I,?_⟩
 ·rw[J,MX,Ma];omega
 ·rw[J,Mg,Ma,if_pos hk,Mu,if_neg (λe=>hn (by simp[ob,e]))]
 refine ⟨yf _,.inr ⟨g,cap,putCells id 0 (flatK UJ 4 G) cur,by simp[I],ha,?_,by simp[I];exact S,hb,by simp[putCells,T],?_⟩⟩
 ·rw[J,Mg,Ma,if_pos V,Mu,if_pos rfl,H];rfl
 apply M5;intro j;rw[LW];by_cases E:j<G.toList.length*4
 ·rw[if_pos E,Qb2 E,Mf];have ho:j<cur.size:=by simp[I] at E;omega
  have hq:j<(flatK UJ 4 G).size:=by simpa using E
  simp only[putCells,Array.getElem?_mapIdx,Array.getElem?_eq_getElem ho,Option.map_some,Nat.zero_le,Nat.zero_add,true_and,if_pos hq,Nat.sub_zero,id]
 rw[if_neg E,MB];rw[yf];omega
theorem Qkc {a:QV}{ul:LI}{lf:Lf}{n:Nat}(E:Zr a) (G:a.st=(n:Int)) (hl:lf.length=n):∀x∈nxs a ul lf,0≤x∧x<(n:Int):=λx hx=>by
 have h1:=Qfm x hx;have h2:x.toNat<n:=by
  refine Decidable.byContradiction λh=>?_;unfold lft at h1;simp[List.getD,List.getElem?_eq_none (show lf.length≤x.toNat by omega)] at h1
 unfold nxs at hx;split at hx
 ·obtain ⟨p,hp,rfl⟩:=Ly.1 hx;obtain ⟨_,e,he,h3,_⟩:=(yK a ul lf).1 p hp;have:=E.ed e he;omega
 have:=((Vr lf (dsts a lf) 0).1 x hx).2;omega
theorem Qjp {rk rs:Int}:∀(l:List (Int×Int)),(∀x∈l.map (·.1),0≤x∧x<4096)→∃lz:List Rz,lz.flatMap UJ=l.flatMap (jF rk rs)∧lz.length=l.length
 | [],_=>⟨[],O,O⟩
 | x::l,h=>by
  obtain ⟨lz,h1,h2⟩:=Qjp l (λy hy=>h y (Ll _ hy));exact ⟨⟨(x.1,rk,rs,x.2),h x.1 Ln⟩::lz,by rw[LB,LB,h1],by simp[h2]⟩
theorem Qce:∀l:List Rz,∀u∈l.flatMap UJ,u.oneCell'=true
 | [],u,h=>by cases h
 | x::l,u,h=>by
  rw[LB,Lj] at h;rcases h with h | h
  ·simp only[UJ,List.mem_cons,List.not_mem_nil,or_false] at h;rcases h with rfl | rfl | rfl | rfl <;> rfl
  exact Qce l u h
theorem RzO.snoc {base:Nat}{w:World}{v:Value}{l m:List Rz}(h:w.ownsRow base 320 4 v (l.length+m.length) (l.flatMap UJ++m.flatMap UJ)):RzO base w v (l++m):=by
 unfold RzO;rw[Li,Lz];exact h
abbrev JC (k d r:Value) (n:Int):LV:=[k,d,r,.int .i64 n,nS,.int .i64 0,nS,nS,nS]
structure ReI (b10:Nat) (q:Pz) (wB:World) (lf:Lf) (rn:Int) (vr:Value) (lz:List Rz) (w:World):Prop where
 st:Step [b10,q.bl] wB w
 B10:Q3 w.heap b10 170 (JC (nS) (nS) vr rn)
 R:RzO wB.heap.size w vr lz
 F:Q3 w.heap q.bl 4 (lf.map Value.bool)
 n:lf.length=q.n
section
variable {b10:Nat} {q:Pz} {wB w w' w'':World} {lf:Lf} {rn:Int} {vr:Value} {lz:List Rz}
theorem ReI.ext (h:ReI b10 q wB lf rn vr lz w) (E:Step [] w w'):ReI b10 q wB lf rn vr lz w':=⟨h.st.trans E,h.B10.ext E,Qm h.R E,h.F.ext E,h.n⟩
theorem ReI.cut (h:ReI b10 q wB lf rn vr lz w) (l:q.bl<wB.heap.size) (ne:b10≠q.bl) (E:Step [q.bl] w w') {G:Lf}(H:Q3 w'.heap q.bl 4 (G.map Value.bool)) (I:G.length=q.n):ReI b10 q wB G rn vr lz w' :=
 ⟨h.st.then E (λb hb=>.inl (by simp only[List.mem_singleton] at hb;simp[hb])),h.B10.step E (by simpa using ne),Qj h.R E (λb hb=>by have:=(Qk h.R b hb).1;simp only[List.mem_singleton];omega),H,I⟩
theorem ReI.app (h:ReI b10 q wB lf rn vr lz w) (l:q.bl<wB.heap.size) (V:b10<wB.heap.size) (ne:b10≠q.bl) {E:Value}{H:List Rz}{I:Int}(J:Step (ob vr) w w') (S:RzO wB.heap.size w' E H) (G:Step [b10] w' w'')
  (T:Q3 w''.heap b10 170 (JC (nS) (nS) E I)):ReI b10 q wB lf I E H w'':=by
 have hge:=Qk h.R;exact ⟨(h.st.then J (λb hb=>.inr (hge b hb).1)).then G (λb hb=>.inl (by simp only[List.mem_singleton] at hb;simp[hb])),T,Qj S G (λb hb=>by have:=(Qk S b hb).1;simp only[List.mem_singleton];omega),
  (h.F.step J (λhb=>by have:=(hge _ hb).1;omega)).step G (by simpa using ne.symm),h.n⟩
theorem ReI.rounds (h:ReI b10 q wB lf rn vr lz w) (I:b10<wB.heap.size) (ne:b10≠q.bl) {G:Int}(E:Step [b10] w w') (H:Q3 w'.heap b10 170 (JC (nS) (nS) vr G)):ReI b10 q wB lf G vr lz w' :=
 ⟨h.st.then E (λb hb=>.inl (by simp only[List.mem_singleton] at hb;simp[hb])),H,Qj h.R E (λb hb=>by have:=(Qk h.R b hb).1;simp only[List.mem_singleton];omega),h.F.step E (by simpa using ne.symm),h.n⟩
end
set_option maxHeartbeats 8000000 in
theorem Qdq {w:World}{va vm ve vf vu:Value}{a:QV}{forb unc:LI}(h:Zu [] w.heap va vm ve a) (hw:Zr a) (hf:QL [] w.heap vf forb) (gv:∀x∈forb,0≤x∧x<a.st) (qm:forb.length≤4096) (hu:QL [] w.heap vu unc) :
  QJ prog 159 [.agg #[va,.int .i64 a.st,vm,ve],vf,vu,.bool true] w λr w'=>Step [] w w'∧∃c0 c1 c2 c3 sa sm se o,r=.agg #[c0,c1,c2,c3,sa,.int .i64 (ya a forb unc).st,sm,se,o] ∧
   ZP [c0,c1,c2,c3,o]∧∀L:LN,(∀b∈L,b<w.heap.size)→Zu L w'.heap sa sm se (ya a forb unc):=by
 have qo:=hw.st0;have qq:=hw.st1;obtain ⟨n,hn⟩:∃n:Nat,a.st=n:=⟨a.st.toNat,by omega⟩;have kw:a.st.toNat=n:=by omega
 have hC:ya a forb unc=QeI a (qU a unc (n+1) (lf0 n forb)):=by unfold ya QlA;rw[kw]
 refine Zb (ya a forb unc) λSA ky=>?_;rw[ky] at hC ⊢;refine QJ.of_W func159 O ntmps159 results159 (by simp) ?_;refine Qc<|xl O<|QT (us:=[va,.int .i64 a.st,vm,ve]) O λb4 w1 gw qr kz=>xl O<|Qv (us:=JC (nS) (nS) (nS) 0) O λb8 w2 hU q0 gx=>xe ?_;have hE:=gw.trans hU;have q1:=gx.lt;have q2:=gw.size;have q3:=hU.size
 refine Qc<|x (Qs (kz.ext hU) O O)<|Qb<|Qb<|xl O<|xf<|(QeJ (h.ext hE) hw hn (hf.ext hE) gv (hu.ext hE)).mono ?_;rintro r3 w3 ⟨hV,bp,q,rfl,k0,k4,k5,q4,hP,hF⟩;refine Qe ?_;subst k0 k4 k5;have hq:PzQ q:=⟨hw,hn⟩;have k6:=hE.trans hV;have q5:=hV.size;have za:=hF.lt;refine Qc<|xl O<|Qv (us:=JC (nS) (nS) (nS) 0) O λb10 I hz k7 gy=>xe ?_;have hW:=k6.trans hz
 have zv:=hz.size;have hG:=gy.lt;have hg:b10≠q.bl:=by omega
 have hX:q.bl<I.heap.size:=by omega
 have k8:jn [b10,q.bl] I.heap bp q:=(hP.up (λb hb=>by
  simp only[List.mem_cons,List.not_mem_nil,or_false] at hb;rcases hb with rfl | rfl
  ·exact .inr k7
  exact .inl (by simp))).ext hz
 have k9:=Qig q.n forb;have h3:∀{w'},Step [b10,q.bl] I w'→jn [] w'.heap bp q:=λhs=>(k8.st hs).up (by simp);refine Qf<|Qc<|Qb<|x (Qq (hf.ext hW) O)<|Qb<|xe ?_
 refine Qg<|Qy (α:=Nat×Int×Value×List Rz) [(12,12),(25,39)] (λz=>[(25,.int .i64 z.1)]) (λz w'=>z.1≤forb.length∧ReI b10 q I (lf0 q.n forb) z.2.1 z.2.2.1 z.2.2.2 w'∧z.2.2.2.length=z.1∧(z.2.1=0∨z.2.1=1)) (λz=>forb.length - z.1) (by rfl) (0,0,nS,[]) Z
  ⟨Lk _,⟨Step.refl _ _,gy,QO _ _ _ _,hF.ext hz,k9⟩,O,.inl O⟩ ?_
 rintro ⟨k,rn,vr,lz⟩ g w5 ⟨hk,G,hY,hH⟩;simp only[] at hk G hY hH;have ma:QL [] w5.heap vf forb:=((hf.up (L':=[b10,q.bl]) (λb hb=>by
  simp only[List.mem_cons,List.not_mem_nil,or_false] at hb;exact .inr (by omega))).ext hW |>.st G.st).up (by simp)
 refine Qc<|x (QA O O)<|xe<|Qf<|QE O (λgz=>?_) (λgz=>?_)
 ·refine Qw ?_;have z0:=QiY (lf0 q.n forb);refine Qf<|Qc<|Qe<|Qg<|Qy (α:=Nat×Nat×Int×Value×List Rz×Lf) [(13,14),(16,16),(40,71)] (λz=>[(13,.int .i64 z.2.1)])
   (λz w'=>ReI b10 q I z.2.2.2.2.2 z.2.2.1 z.2.2.2.1 z.2.2.2.2.1 w'∧z.2.1+z.1=q.n+3∧z.2.2.2.2.1.length≤4096+z.2.1*1000000∧qU q.a q.unc z.1 z.2.2.2.2.2=qU q.a q.unc (q.n+1) (lf0 q.n forb)∧KA z.2.2.2.2.2+1≤z.1) (λz=>z.1) (by rfl)
   (q.n+1,2,rn,vr,lz,lf0 q.n forb) Z ⟨G,by simp only[];omega,by simp only[];omega,O,by simp only[];omega⟩ ?_
  rintro ⟨f,rank,rn,vr,lz,lf⟩ g w6 ⟨G,mc,hY,h4,mf⟩;simp only[] at G mc hY h4 mf;refine Qf<|Qg<|Qc<|Qb<|Qb<|Qb<|xl O<|xf<|(Qfd (h3 G.st) hq G.F G.n rank).mono ?_;rintro r7 w7 ⟨h5,rs,l,hZ,hJ,z2⟩;refine Qe ?_;have J:=G.ext h5;have g0:Zo [] w7.heap r7 l.length 4 (l.flatMap (jF rank rs)):=QR hZ (by omega) (by simp)
  have g2:(nxs q.a q.unc lf).length=l.length:=by rw[←hJ,Lb]
  have ga:=Qkc (ul:=q.unc) hw hn G.n;rw[←hJ] at ga;refine Qf<|Qc<|Qb<|x (Qq g0 O)<|x (Q8 O O)<|xe<|Q7 O (λgb=>?_) (λgb=>?_)
  ·refine Qw ?_;have hM:l.length=0:=by have z3:(l.length:Int)=0:=gb;omega
   rw[Qds (by rw[g2];exact hM)] at h4;rw[←h4] at hC;refine Qc<|x (Qa O)<|x (Qa O)<|x (Qd J.B10 O O)<|xl O<|xf<|(Qdj J.R (by omega)).mono ?_;rintro r8 S ⟨T,z4,_,mg⟩;refine xe ?_;have hge:=Qk J.R;have gc:Step [b10,q.bl] I S:=J.st.then T (λb hb=>.inr (hge b hb).1);have ge:Q3 S.heap b10 170 (JC (nS) (nS) vr rn):=J.B10.step T (λhb=>by have:=(hge _ hb).1;omega)
   have g3:Q3 S.heap q.bl 4 (lf.map Value.bool):=J.F.step T (λhb=>by have:=(hge _ hb).1;omega);have g4:=QD mg;have z5:=gc.size;refine Qf<|Qc<|Qb<|xl O<|xf<|(Vm (h3 gc) hq g3 J.n).mono ?_;rintro r9 E ⟨V,bD,rfl,z9,g5,hN⟩;refine Zb (dsts q.a lf) λD hD=>?_;rw[hD] at g5 hN;have g6:QL [b10] E.heap (.slice (some ⟨bD,0,none⟩) q.n q.n) D:=by
    have h1:=g5.arr (L:=[b10]) (by simp only[List.mem_singleton];omega) (n:=q.n) (cap:=q.n) (sz:=1) (by simp[hN]) (by omega) (Lr _);unfold QL;rw[hN];exact h1
   have mh:=gc.trans V;have hz9:=V.size;have mj:=g3.ext V;refine x (Qq g6 O)<|Qb<|xe<|Qg<|Qy (α:=Nat×Value×Value×LI×LI) [(17,18),(79,107)] (λz=>[(79,.int .i64 z.1)])
    (λz w'=>z.1≤D.length∧Step [b10] E w'∧Q3 w'.heap b10 170 (JC z.2.1 z.2.2.1 vr rn)∧Qt 3 E.heap.size w' z.2.1 z.2.2.2.1∧Qt 3 E.heap.size w' z.2.2.1 z.2.2.2.2∧Dj z.2.1 z.2.2.1∧z.2.2.2.1.length≤z.1∧z.2.2.2.2.length≤z.1) (λz=>D.length - z.1) (by rfl) (0,nS,nS,[],[]) Z
    ⟨Lk _,Step.refl _ _,ge.ext V,QO _ _ _ _,QO _ _ _ _,Dj.nil' _,Lr _,Lr _⟩ ?_
   rintro ⟨i,vk,vd,lk,ld⟩ g h6 ⟨hi,Y,h7,hK,hh,hO,mo,mq⟩;simp only[] at hi h7 hK hh hO mo mq;have hz10:=Y.size;have hQ:Step [b10,q.bl] I h6:=mh.then Y (λb hb=>.inl (by simp only[List.mem_singleton] at hb;simp[hb]));have g7:Q3 h6.heap q.bl 4 (lf.map Value.bool):=mj.step Y (by simpa using hg.symm);refine Qc<|x (QA O O)<|xe ?_
   refine Qf<|QE O (λg8=>?_) (λg8=>?_)
   ·refine Qw<|Qc<|Qb<|xl O<|xf<|(UV (h3 hQ) hq g7 J.n).mono ?_;rintro r11 mu ⟨he,_,o,rfl,⟨sa,sm,se,rfl,gg⟩,gh⟩;rw[←hC] at gg;have hp:=gg [] (by simp);have hz11:=he.size
    refine Qb<|x (Qp O O)<|x (Qp O O)<|x (Qa O)<|xl O<|X8 (us:=[sa,.int .i64 SA.st,sm,se]) (h7.ext he) O (by rw[←hC];rfl) O (by simp) ⟨hp.al.one,rfl,hp.mr.one,hp.ed.one,U⟩ rfl λw12 gi mv =>
     x (Qa rfl)<|xl O<|QG (j:=8) (u:=o) mv O O (by simp) gh λw13 gj mw=>xe ?_
    have my:b8∉[b10,q.bl]:=by simp only[List.mem_cons,List.not_mem_nil,or_false];omega
    have g9:b8∉[b10]:=by simp only[List.mem_singleton];omega
    have mz:=(((((gx.ext (hV.trans hz)).step hQ my).ext he).step gi g9).step gj g9);refine Qc<|x (Qs mw O O)<|xl O<|Qr (us:=[vk,vd,vr,.int .i64 rn,sa,.int .i64 SA.st,sm,se,o]) mz O O O O ⟨QD hK,QD hh,g4,O,hp.al.one,O,hp.mr.one,hp.ed.one,gh,U⟩ λm0 ka m1=>xe ?_
    have m2:∀b∈[b10,q.bl],w.heap.size≤b:=λb hb=>by simp only[List.mem_cons,List.not_mem_nil,or_false] at hb;omega
    have m3:Step [] w m0:=((((hW.then hQ (λb hb=>.inr (m2 b hb))).trans he).then1 gi (by omega)).then1 gj (by omega)).then1 ka (by omega);refine Qn ⟨[.agg [vk,vd,vr,.int .i64 rn,sa,.int .i64 SA.st,sm,se,o].toArray],⟨⟨_,O,QB O (m1.at (L:=[]) (by simp)).cells⟩,U⟩,m3,vk,vd,vr,.int .i64 rn,sa,sm,se,o,rfl,⟨QD hK,QD hh,g4,rfl,gh,U⟩,λL hL=>?_⟩
    have h1:=gg (b10::b8::L) (λb hb=>by
     simp only[List.mem_cons] at hb;rcases hb with rfl | rfl | hb
     ·omega
     ·omega
     have:=hL b hb;omega)
    have h2:=((h1.st (gi.mono (by simp))).st (gj.mono (by simp))).st (ka.mono (by simp));exact h2.up (λb hb=>.inl (by simp[hb]))
   refine Qi ?_;have h8:i<D.length:=by have h81:(i:Int)<(D.length:Int):=g8;omega
   have gk:i<lf.length:=by rw[J.n,←hN];exact h8
   have m4:lf[i]'gk=lf.getD i false:=by simp[List.getD,gk]
   refine Qf<|Qg<|Qc<|Qb<|xii (i:=i) (g6.st Y) O O h8 λa82 kb=>?_;refine Zb (D[i]'h8) λd hd=>?_;rw[hd] at kb;refine x (Qu kb O)<|x Qh<|Qe<|Qc<|Qb<|x (QH O)<|x (Qa O)<|x (Qd (h3 hQ).B O O)<|Qb<|x (Zj (i:=i) O O (by omega))<|x (v:=.bool (lf.getD i false)) ((XK (i:=i) g7 O gk).trans (by rw[m4]))<|xe<|Q2 O (λm5=>?_) (λm5=>?_)
   ·have h9:∀{v:Value} {l:LI} {w':World},Qt 3 E.heap.size w' v l→b10∉ob v:=λho hm=>by have:=(Qk ho b10 hm).1;omega
    refine Qc<|x (Qa O)<|x (Qa O)<|x (Qd h7 O O)<|Qb<|xl O<|QC (us:=[[.int .i64 i]]) O O (by decide) (by simp) ⟨rfl,rfl,U⟩ λb95 y1 hr hb95 m6=>xl rfl<|QU (m:=1) (news:=[.int .i64 i]) (L:=[]) (Qm hK hr) rfl rfl rfl (m6.at (by simp)) (by simp[Value.oneCell']) (by omega) (by have:=hr.size;omega) λhA y2 kc hR m7 =>
     x (Qa rfl)<|x (Qa O)<|xl O<|QG (j:=0) (u:=hA) ((h7.ext hr).step hR (h9 hK)) O O (by simp) (QD kc) λy3 gl ke=>xe ?_
    have m8:Qt 3 E.heap.size y2 hA (lk++[(i:Int)]):=Qt.snoc kc;have hzy1:=hr.size;have hzy2:=hR.size;have hzy3:=gl.size;have m9:Qt 3 E.heap.size y2 vd ld:=Qj (Qm hh hr) hR (λb hb hm=>hO b hm hb);have kf:Dj hA vd:=λb hb hm=>by
     rcases m7 b hb with h1 | h1
     ·exact hO b h1 hm
     have:=QP hh b hm;omega
    have kg:∀{v:Value} {l:LI},Qt 3 E.heap.size y2 v l→Qt 3 E.heap.size y3 v l:=λho=>Qj ho gl (λb hb hm=>by simp only[List.mem_singleton] at hm;subst hm;exact h9 ho hb);have kh:=kg m8;have gm:=kg m9;have pa:Step [b10] E y3:=(((Y.trans hr).then hR (λb hb=>.inr (Qk hK b hb).1))).trans' gl
    refine Qx<|x (Qa O)<|x (Qa O)<|x (Qd ke O O)<|Qb<|xl O<|QC (us:=[[.int .i64 d]]) O O (by decide) (by simp) ⟨rfl,rfl,U⟩ λb103 y4 ht hb103 pc=>xl rfl<|QU (m:=1) (news:=[.int .i64 d]) (L:=[]) (Qm gm ht) rfl rfl rfl (pc.at (by simp)) (by simp[Value.oneCell']) (by omega) (by have:=ht.size;omega) λgn y5 ki go pd =>
     x (Qa rfl)<|x (Qa O)<|xl O<|QG (j:=1) (u:=gn) ((ke.ext ht).step go (h9 gm)) O O (by simp) (QD ki) λy6 gp pf=>xe ?_
    have kj:Qt 3 E.heap.size y5 gn (ld++[d]):=Qt.snoc ki;have kk:Qt 3 E.heap.size y5 hA (lk++[(i:Int)]):=Qj (Qm kh ht) go (λb hb hm=>kf b hb hm);have hzy4:=ht.size;refine Qx<|QN O O<|Qb<|xe ?_
    refine ⟨(i+1,hA,gn,_,_),by simp only[];omega,Z,h8,(((pa.trans ht).then go (λb hb=>.inr (Qk gm b hb).1))).trans' gp,pf,Qj kk gp (λb hb hm=>by simp only[List.mem_singleton] at hm;subst hm;exact h9 kk hb),Qj kj gp (λb hb hm=>by simp only[List.mem_singleton] at hm;subst hm;exact h9 kj hb),λb hb hm=>?_,by simp only[List.length_append,List.length_singleton];omega,by simp only[List.length_append,List.length_singleton];omega⟩
    rcases pd b hm with h1 | h1
    ·exact kf b hb h1
    have:=QP kh b hb;omega
   refine Qi<|Qx<|QN O O<|Qb<|xe ?_;exact ⟨(i+1,vk,vd,lk,ld),by simp only[];omega,Z,h8,Y,h7,hK,hh,hO,by simp only[];omega,by simp only[];omega⟩
  refine Qi ?_;have hM:¬l.length=0:=λe=>gb (by show (l.length:Int)=0;omega);have kn:(nxs q.a q.unc lf).length≠0:=by rw[g2];exact hM
  have pg:=Qfn kn;refine Exists.elim (Nat.exists_eq_succ_of_ne_zero (show f≠0 by omega)) λf' ph=>?_;subst ph;rw[Qdr kn,←hJ] at h4;rw[←hJ] at pg;refine Exists.elim (Qjp (rk:=(rank:Int)) (rs:=rs) l (λx hx=>by have:=ga x hx;omega)) λln hv=>?_;have hz67:=h5.size;refine Qf<|Qc<|Qb<|x (Qq g0 O)<|Qb<|xe ?_
  refine Qg<|Qy (α:=Nat) [(16,16),(51,62)] (λz=>[(51,.int .i64 z)]) (λz w'=>z≤l.length∧Step [q.bl] w7 w'∧ReI b10 q I (((l.take z).map (·.1)).foldl cut lf) rn vr lz w') (λz=>l.length - z) (by rfl) 0 Z ⟨Lk _,Step.refl _ _,J⟩ ?_;rintro j g S ⟨hj,T,H⟩;have hH:∀b∈ob r7,b≠q.bl:=λb hb e=>by have:=(Qk hZ b hb).1;have:=G.st.size;omega
  have pj:RmO w6.heap.size S r7 rank rs l:=Qj hZ T (λb hb hm=>hH b hb (by simpa using hm));have ko:Zo [q.bl] S.heap r7 l.length 4 (l.flatMap (jF rank rs)):=QR pj (by omega) (λb hb hm=>hH b hb (by simpa using hm));refine Qc<|x (QA O O)<|xe<|Qf<|QE O (λgq=>?_) (λgq=>?_)
  ·refine Qw ?_;have pm:l.length≤j:=by have hS:¬(j:Int)<(l.length:Int):=gq;omega
   rw[Lm pm] at H;obtain ⟨ad,cap7,pn,_,po⟩:∃ad cap,r7=.slice (some ad) l.length cap∧l.length≤cap∧At [q.bl] S.heap ad (l.flatMap (jF rank rs)):=by
    rcases ko.2.2 with ⟨_,h0⟩ | h1
    ·exact absurd h0 hM
    exact h1
   have hlnl:ln.length*4=l.length*4:=by rw[hv.2]
   refine Qc<|x (Qa O)<|x (Qa O)<|x (Qd H.B10 O O)<|Qb<|xl O<|QU (m:=l.length) (news:=l.flatMap (jF rank rs)) (L:=[q.bl]) H.R O pn (by rw[←hv.1,yf,hv.2]) po (by rw[←hv.1];exact Qce ln) (by omega) H.st.size λgr pp kp kq hn22 =>
    x (Qa O)<|x (Qa O)<|xl O<|QG (j:=2) (u:=gr) (H.B10.step kq (λhb=>by have:=(Qk H.R _ hb).1;omega)) O O (by simp) (QD kp) λw23 pt pu=>xe ?_
   have pw:RzO I.heap.size pp gr (lz++ln):=RzO.snoc (by rw[hv.1,hv.2];exact kp);have kr:=H.app hX hG hg kq pw pt pu;refine Qx<|Qb<|x (Qa O)<|xl O<|QG (j:=3) (u:=.int .i64 rank) kr.B10 O O (by simp) rfl λw24 pz p0=>xe ?_;have p1:=kr.rounds hG hg pz p0;have p2:(-9223372036854775808:Int)≤(rank:Int)+1:=by omega
   have p3:(rank:Int)+1≤9223372036854775807:=by omega
   refine Qx<|Qb<|x (X5 O O ⟨p2,p3⟩)<|Qe ?_;exact ⟨(f',rank+1,(rank:Int),gr,lz++ln,(l.map (·.1)).foldl cut lf),by simp only[];omega,Z,p1,by simp only[];omega,by simp only[List.length_append];omega,h4,by simp only[];omega⟩
  refine Qi ?_;have ha:j<l.length:=by have hS:(j:Int)<(l.length:Int):=gq;omega
  have p4:l.take (j+1)=l.take j++[l[j]'ha]:=Le ha;have kt:((l.take (j+1)).map (·.1)).foldl cut lf=cut (((l.take j).map (·.1)).foldl cut lf) (l[j]'ha).1:=by rw[p4,Ls,MA];rfl
  have p5:=ga (l[j]'ha).1 (LL (Lh ha));refine Zb (l[j]'ha) λy hy=>?_;rw[hy] at kt p5;have p6:y.1=(y.1.toNat:Int):=by omega
  refine Qf<|Qg<|Qc<|xig (g:=jF rank rs) (i:=j) (Qb3 rank rs) ko O O ha λa53 hS=>?_;rw[hy] at hS;refine x (QI hS O O)<|xl O<|Qv (us:=[.int .i64 0,.int .i64 0,.int .i64 0,.int .i64 0]) O λb16 E V p7 gs=>xl O<|Qr (us:=jF rank rs y) gs O O O O ⟨O,O,O,O,U⟩ λh6 Y gs=>xe ?_;have ku:Step [] S h6:=V.then1 Y p7;have gt:=H.ext ku;have p8:=H.n
  refine QS (Step [] h6) [(0,true),(1,true),(2,true),(3,true),(4,true),(5,true),(6,true),(7,false)] mixed (by rfl) (by kernel_rfl) (Step.drew _ _) ?_;refine p (λ_=>Ql)<|p (λ_=>QH O)<|p (λ_=>Qa O)<|pq (λ_ hc=>Qd ((h3 gt.st).B.ext hc) O O)<|p (λ_=>Qa O)<|pq (λ_ hc=>Qd (gs.ext hc) O O) <|
   p (λ_=>Zj (i:=y.1.toNat) O (congrArg (Value.int .i64) p6) (by omega))<|pkl (hl:=by kernel_rfl)<|UW (i:=y.1.toNat) (gt.F.ext (Step.drew _ _)) O O (by omega) λmu he p9=>pe ?_
  refine Qx<|QN O O<|Qb<|xe<|⟨j+1,by omega,Z,ha,((T.trans ku).trans (Step.drew _ _)).trans' he,?_⟩;rw[kt];exact (gt.ext (Step.drew _ _)).cut hX hg he p9 (by rw[QcO];exact p8)
 refine Qi ?_;have hT:k<forb.length:=by have gu:(k:Int)<(forb.length:Int):=gz;omega
 have qb:=gv _ (Lh hT);refine Zb (forb[k]'hT) λy hy=>?_;rw[hy] at qb;refine Qf<|Qg<|Qc<|xii (i:=k) ma O O hT λa27 gu=>?_;rw[hy] at gu;refine x (Qu gu O)<|Qe<|Qc<|x (Qa O)<|x (Qa O)<|x (Qd G.B10 O O)<|Qb<|x (QF ⟨O,O,O,O,U⟩)<|xl O<|QC (us:=[[.int .i64 y,.int .i64 1,.int .i64 1,.int .i64 (-1)]]) O O (by decide) (by simp) ⟨rfl,rfl,U⟩ λb34 w6 qc hb34 qf=>?_
 have hB:=G.ext qc;refine xl rfl<|QU (m:=1) (news:=[.int .i64 y,.int .i64 1,.int .i64 1,.int .i64 (-1)]) (L:=[]) hB.R O O O (qf.at (by simp)) (by simp[Value.oneCell']) (by omega) hB.st.size λv7 w7 kv h5 hn7 =>
  x (Qa rfl)<|x (Qa O)<|xl O<|QG (j:=2) (u:=v7) (hB.B10.step h5 (λhb=>by have:=(Qk hB.R _ hb).1;omega)) O O (by simp) (QD kv) λS T ge=>xe ?_
 have qj:RzO I.heap.size w7 v7 (lz++[⟨(y,1,1,-1),by simp only[];omega⟩]):=RzO.snoc kv;have H:=hB.app hX hG hg h5 qj T ge;refine Qx<|x (Qa O)<|xl O<|QG (j:=3) (u:=.int .i64 1) H.B10 O O (by simp) rfl λE V qk=>xe ?_;have ql:=H.rounds hG hg V qk;refine Qx<|QN O O<|Qb<|xe ?_
 exact ⟨(k+1,1,v7,_),by simp only[];omega,Z,hT,ql,by simp only[List.length_append,List.length_singleton];omega,.inr O⟩
instance:Bw prog 170 (JC (nS) (nS) (nS) 0) [(0,3),(3,1),(4,4),(8,1)]:=⟨by kernel_rfl,by decide⟩
theorem QjQ {c:Zw}{pl:QV}{ps:List (LI)}{l:List (LI)}:∀r∈spF c pl ps l,0≤r.st∧r.st<(l.length:Int):=λr E=>by
 unfold spF at E;obtain ⟨⟨t,i⟩,hp,h1⟩:=MP.1 E;have hi:=List.snd_lt_add_of_mem_zipIdx hp;simp only[Nat.zero_add] at hi;have h2:r.st=(i:Int):=by
  simp only[] at h1;unfold rsn at h1;split at h1
  ·cases h1;rfl
  split at h1
  ·cases h1;rfl
  cases h1
 omega
theorem QjO {c:Zw}(h:Yy c=0):Zr (spc c).a∧(∀x∈fbs (spc c),0≤x∧x<(spc c).a.st)∧(fbs (spc c)).length≤4096∧(spc c).fb.length≤4096∧Js c.ev=0:=by
 unfold Yy at h;by_cases h1:Zc c≠0
 ·rw[if_pos h1] at h;exact absurd h h1
 rw[if_neg h1] at h;have J:Zc c=0:=Lu.1 h1;have E:=ZO J;by_cases h2:Vu (auts c.co)≠0
 ·rw[if_pos h2] at h;exact absurd h h2
 rw[if_neg h2] at h;cases G:sync (auts c.co) with
 | none=>rw[G] at h;cases h
 | some z =>
  rw[G] at h;simp only[] at h;by_cases h3:Vu (auts c.co++auts c.rq)≠0
  ·rw[if_pos h3] at h;exact absurd h h3
  rw[if_neg h3] at h;cases H:sync (auts c.co++auts c.rq) with
  | none=>rw[H] at h;cases h
  | some y =>
   have I:∀a∈auts c.co++auts c.rq,Zr a:=λa ha=>by
    rcases Lj.1 ha with ha | ha
    ·exact Yh E.co a ha
    exact Yh E.rq a ha
   have hsp:=(Xi I (A:=y.1) (Q:=y.2) H).1;have he:=QaT (c:=c) (pl:=z.1) (ps:=z.2) (sa:=y.1) (ts:=y.2) G H;have hl:=QbZ c z.1 z.2 y.2;have T:=hsp.le;rw[he];unfold fbs;refine ⟨hsp.okay I,λx hx=>?_,by rw[Lb];simp only[];omega,by simp only[];omega,E.e0⟩;obtain ⟨r,S,rfl⟩:=Ly.1 hx;have:=QjQ r S;rw[hsp.st];exact this
theorem st4 (r:Rsn):(ZA r).length=4:=rfl
set_option maxHeartbeats 4000000 in
theorem QaP {L:LN}{w:World}{c:CL}(h0:Zx L w.heap c) (hD:Kb w 4096) :
  QJ prog 79 [c.val] w λr w'=>Step [] w w'∧∃us c0 V Y c3 sa sm se o,r=.tuple #[.agg us.toArray,.agg #[c0,V,Y,c3,sa,.int .i64 (if Yy c.cel=0 then (suA c.cel).st else 0),sm,se,o],.int .i64 (Yy c.cel)]∧us.length=8∧ZP us∧ZP [c0,V,Y,c3,sa,sm,se,o] ∧
   (Yy c.cel≠0→sa=nS∧sm=nS∧se=nS)∧(Yy c.cel=0→∀L:LN,(∀b∈L,b<w.heap.size)→Zu L w'.heap sa sm se (suA c.cel)):=by
 have h:=h0.up (L':=[]) (by simp);have hp:suA c.cel=ya (spc c.cel).a (fbs (spc c.cel)) (unc c.cel.ev):=rfl;have hT:c.cel.ev=c.ev:=rfl;have hq:=QjO (c:=c.cel);refine Zb (suA c.cel) λSA hV=>?_;rw[hV] at hp ⊢;have gx:=KJ (h.ext (Step.refl [] w)) hD;refine Zb (Yy c.cel) λE hE=>?_;rw[hE] at hq ⊢;refine Zb (spc c.cel) λS hS=>?_;rw[hS] at hq hp;rw[hT] at hq hp
 refine QJ.of_W func79 O ntmps79 results79 (by simp) ?_;refine Qc<|xl O<|QT (us:=c.cells) O λb1 w1 hG gy hH=>xl O<|Qv (us:=[nS,.int .i64 0,nS,nS,nS,nS,nS,nS]) O λb2 w2 hs gz ht=>xl O<|Qv (us:=JC (nS) (nS) (nS) 0) O λb3 w3 hh g0 hu=>Qe ?_;have h5:=(hG.trans hs).trans hh;have g2:=hG.size;have g3:=hs.size;have g4:=hh.size;have g5:=ht.lt;have g6:=hu.lt
 have hsp:=KJ (h.ext h5) (hD.ext h5);rw[hE,hS] at hsp;refine Qc<|x (Qs ((hH.ext hs).ext hh) O O)<|xl O<|xf<|hsp.mono ?_;rintro r4 w4 ⟨hj,v,rfl,⟨us,rfl,h6,h7⟩,hF⟩;have g7:=hj.size;refine Qb<|x (Qp O O)<|x (Qp O O)<|xl O<|Qv (us:=[nS,.int .i64 0,nS,nS,nS,nS,nS,nS]) O λb5 w5 hW hX hn=>xl O<|Qr (us:=us) hn O O h6 O h7 λw6 hY hn=>Qe ?_;have J:Step [] w4 w6:=hW.then1 hY hX
 have g8:=J.size;have hv:=(h5.trans hj).trans J;have hI:=(ht.ext (hh.trans hj)).ext J;have hJ:=(hu.ext hj).ext J;have g9:=hn.lt;refine Qf<|Qc<|Qb<|x (Q9 O O)<|xe<|Q7 rfl (λhw=>?_) (λhw=>?_)
 ·refine Qc<|x (ZV [] U)<|x (ZV [] U)<|Qb<|xl O<|Qr (us:=[nS,.int .i64 0,nS,nS,nS,nS,nS,nS]) hI O O O O ⟨O,O,O,O,O,O,O,O,U⟩ λw7 G hZ =>
   xl rfl<|Qr (us:=JC (nS) (nS) (nS) 0) (hJ.step G (by simp only[List.mem_singleton];omega)) O O O O ⟨O,O,O,O,O,O,O,O,O,U⟩ λw8 hy ga=>Qe<|Qn ⟨[.agg [nS,.int .i64 0,nS,nS,nS,nS,nS,nS].toArray,.agg (JC (nS) (nS) (nS) 0).toArray,.int .i64 E],⟨⟨_,O,QB O ((hZ.step hy (by simp only[List.mem_singleton];omega)).at (L:=[]) (by simp)).cells⟩,⟨_,rfl,QB rfl (ga.at (L:=[]) (by simp)).cells⟩,rfl,U⟩,(hv.then1 G (by omega)).then1 hy (by omega),[nS,.int .i64 0,nS,nS,nS,nS,nS,nS],nS,nS,nS,.int .i64 0,nS,nS,nS,nS,by rw[if_neg hw];rfl,O,⟨O,O,O,O,O,O,O,O,U⟩,⟨O,O,O,O,O,O,O,O,U⟩,λ_=>⟨O,O,O⟩,λe=>absurd e hw⟩
 have hz:E=0:=Lu.1 hw;obtain ⟨gb,gc,ge,ka,hK⟩:=hq hz;obtain ⟨va,vm,ve,v1,v2,v3,v4,cos,rqs,gg,_,_,gh⟩:=hF hz;have gi:us=[va,.int .i64 S.a.st,vm,ve,v1,v2,v3,v4]:=by
  have h1:=congrArg (λv=>match v with | Value.agg a=>a.toList | _=>[]) gg
  simpa using h1
 subst gi;have hM:=(gh [] (by simp));have gj:=hM.1.ext J;have hN:=hM.2.2.2.2.ext J;refine Qi<|Qc<|Qe<|Qf<|Qc<|x (Qa O)<|x (Qd hn O O)<|x (Qq hN O)<|Qb<|xe ?_
 refine Qg<|Qy (α:=Nat×Value) [(7,7),(9,9),(24,33)] (λz=>[(7,z.2),(24,.int .i64 z.1)]) (λz w'=>z.1≤S.fb.length∧Step [] w6 w'∧Qt 3 w6.heap.size w' z.2 ((S.fb.take z.1).map (·.st))) (λz=>S.fb.length - z.1) (by rfl) (0,nS) ⟨O,O,U⟩ ⟨Lk _,Step.refl _ _,QO _ _ _ _⟩ ?_;rintro ⟨k,vf⟩ g w7 ⟨hk,G,T⟩;simp only[] at hk T;refine Qc<|x (QA O O)<|xe<|Qf<|QE O (λh8=>?_) (λh8=>?_)
 ·refine Qw ?_;have gk:S.fb.length≤k:=by have h2:¬(k:Int)<(S.fb.length:Int):=h8;omega
  rw[Lm gk] at T;have T:Qt 3 w6.heap.size w7 vf (fbs S):=T;have gl:=hv.trans G;have gm:=G.size;refine Qc<|x (Qa O)<|x (Qd ((hH.ext (hs.trans hh)).ext ((hj.trans J).trans G)) O O)<|xl O<|xf<|(Qeb (h.ev.ext gl)).mono ?_;rintro kb I ⟨ha,vu,rfl,hU⟩;rw[if_pos hK] at hU;refine Qb<|x (Qp O O)<|x (Qp O O)<|x Qh<|Qe<|Qf<|Qc<|Qb<|x (Q9 O O)<|xe ?_
  refine Q7 O (λgn=>absurd hK gn) (λ_=>?_);refine Qi ?_;have h6:(unc c.ev).length≤1099511627776:=LS (Va _ c.ev 0) h.ev.arr.le;have he:=G.trans ha;have go:=gj.ext he;have h3:Step [] I { I with drawn:=I.drawn+1 }:=Step.drew _ _
  have hO:=hn.ext he;have hP:b5∉[b2]:=by simp only[List.mem_singleton];omega
  have kc:=he.size;refine Qf<|QS (Step [b2] I) [(0,true),(1,true),(2,true),(3,true),(4,true),(5,false),(6,false),(7,false),(8,true)] mixed (by rfl) (by kernel_rfl) (Step.drew _ _) ?_;refine pq (λ_ hc=>Qs (hO.step hc hP) O O)<|p (λ_=>Qa O)<|pq (λ_ hc=>Yv (us:=[va,.int .i64 S.a.st,vm,ve]) (hO.step hc hP) O O O) <|
   p (λ_=>Ql)<|p (λ_=>Ql)<|pk<|xf<|(Qdq (go.ext h3) gb (((Qt.ints (L:=[]) T (by omega) (by simp)).ext ha).ext h3) gc ge ((Qt.ints (L:=[]) hU h6 (by simp)).ext h3)).mono ?_
  rintro ke kf ⟨gp,c0,V,Y,c3,sa,sm,se,o,rfl,H,h9⟩;have hf:=h3.trans gp;have kg:=hf.size;refine ⟨hf.any,?_⟩;have hQ:ya S.a (fbs S) (unc c.ev)=SA:=hp.symm;rw[hQ] at h9;have hg:=h9 [] (by simp);refine pk<|Qr (us:=[va,.int .i64 S.a.st,vm,ve,v1,v2,v3,v4]) ((hI.ext he).ext hf) O O O O h7 λkh h4 ht=>⟨hf.any.trans' h4,?_⟩
  refine pkl (hl:=by kernel_rfl)<|Qr (us:=[c0,V,Y,c3,sa,.int .i64 SA.st,sm,se,o]) (((hJ.ext he).ext hf).step h4 (by simp only[List.mem_singleton];omega)) O (by rw[←hQ];rfl) O O ⟨H.1,H.2.1,H.2.2.1,H.2.2.2.1,hg.al.one,O,hg.mr.one,hg.ed.one,H.2.2.2.2.1,U⟩ λki hA hu=>p (λ_=>Qh)<|pe ?_;have gq:b2∉[b3]:=by simp only[List.mem_singleton];omega
  refine Qn ⟨[.agg [va,.int .i64 S.a.st,vm,ve,v1,v2,v3,v4].toArray,.agg [c0,V,Y,c3,sa,.int .i64 SA.st,sm,se,o].toArray,.int .i64 0],⟨⟨_,O,QB O ((ht.step hA gq).at (L:=[]) (by simp)).cells⟩,⟨_,rfl,QB rfl (hu.at (L:=[]) (by simp)).cells⟩,rfl,U⟩,
   (((hv.trans he).trans hf).then1 h4 (by omega)).then1 hA (by omega),_,c0,V,Y,c3,sa,sm,se,o,by rw[hz,if_pos rfl];rfl,O,h7,⟨H.1,H.2.1,H.2.2.1,H.2.2.2.1,hg.al.one,hg.mr.one,hg.ed.one,H.2.2.2.2.1,U⟩,λe=>absurd hz e,λ_ L hL=>?_⟩
  have kj:=hv.size;have h1:=h9 (b2::b3::L) (λb hb=>by
   have kk:({ I with drawn:=I.drawn+1 }:World).heap.size=I.heap.size:=rfl
   simp only[List.mem_cons] at hb;rcases hb with rfl | rfl | hb
   ·omega
   ·omega
   have:=hL b hb;omega)
  exact ((h1.st (h4.mono (by simp))).st (hA.mono (by simp))).up (λb hb=>.inl (by simp[hb]))
 refine Qi ?_;have ho:k<S.fb.length:=by have h2:(k:Int)<(S.fb.length:Int):=h8;omega
 have hR:S.fb.take (k+1)=S.fb.take k++[S.fb[k]'ho]:=Le ho;have kn:((S.fb.take k).map (·.st)).length=k:=by rw[Lb,Lx];omega
 refine Zb (S.fb[k]'ho) λr hr=>?_;rw[hr] at hR;refine Qf<|Qg<|Qc<|xig (g:=ZA) (i:=k) st4 (hN.ext G) O O ho λko h2=>?_;rw[hr] at h2;refine x (QI h2 O O)<|xl O<|Qv (us:=[.int .i64 0,.int .i64 0,.int .i64 0,.int .i64 0]) O λb9 w8 hy gr hB=>xl O<|Qr (us:=ZA r) hB O O O O ⟨O,O,O,O,U⟩ λw9 gs hB=>xe ?_;have hC:Step [] w7 w9:=hy.then1 gs gr;have kp:=hC.size;have gm:=G.size
 refine Qx<|Qb<|x (Qa O)<|x (Qd hB O O)<|xl O<|QC (us:=[[.int .i64 r.st]]) O O (by decide) (by simp) ⟨rfl,rfl,U⟩ λkq I ha kr gt =>
  xl rfl<|QU (m:=1) (news:=[.int .i64 r.st]) (L:=[]) (Qm T (hC.trans ha)) O O O (gt.at (by simp)) (by simp[Value.oneCell']) (by omega) (by have:=ha.size;omega) λgu kt gv gw ku=>Qe<|Qx<|QN O O<|Qb<|xe ?_
 refine ⟨(k+1,gu),by simp only[];omega,⟨O,O,U⟩,ho,((G.trans hC).trans ha).then gw (λb hb=>.inr (Qk T b hb).1),?_⟩;simp only[];rw[hR,Ls];exact Qt.snoc gv
theorem q7 {L:LN}{w:World}{c:CL}(h0:Zx L w.heap c) (hf:Kb w 4096) :
  QJ prog 32 [c.val] w λr w'=>Step [] w w'∧∃sa sm se,r=.tuple #[.agg #[sa,.int .i64 (if Yy c.cel=0 then (suA c.cel).st else 0),sm,se],.int .i64 (suE c.cel)]∧ZP [sa,sm,se] ∧
   (suE c.cel≠0→sa=nS∧sm=nS∧se=nS)∧(suE c.cel=0→∀L:LN,(∀b∈L,b<w.heap.size)→Zu L w'.heap sa sm se (suA c.cel)):=by
 have h:=h0.up (L':=[]) (by simp);have hg:suE c.cel=Yy c.cel:=rfl;rw[hg];refine QJ.of_W func32 O ntmps32 results32 (by simp) ?_;refine Qc<|xl O<|QT (us:=c.cells) O λb1 w1 Y hs hh=>xl O<|Qv (us:=[nS,.int .i64 0,nS,nS]) O λb2 w2 I ht G=>Qe ?_;have J:=Y.trans I;have hu:=Y.size;have hv:=I.size;have hw:=G.lt
 refine Qc<|x (Qs (hh.ext I) O O)<|xl O<|xf<|(QaP (h.ext J) (hf.ext J)).mono ?_;rintro r3 w3 ⟨S,us,c0,c1,c2,c3,sa,sm,se,o,rfl,hj,hl,E,hn,ho⟩;refine Zb (if Yy c.cel=0 then (suA c.cel).st else 0) λN hN=>?_
 rw[hN];have hy:=S.size;refine Qb<|x (Qp O O)<|x (Qp O O)<|x (Qp O O)<|xl O<|Qv (us:=[nS,.int .i64 0,nS,nS,nS,nS,nS,nS]) O λb4 w4 ha hz T=>xl O<|Qv (us:=JC (nS) (nS) (nS) 0) O λb5 w5 V h2 hp =>
  xl rfl<|Qr (us:=us) (T.ext V) O O hj O hl λw6 hc h3=>xl O<|Qr (us:=[c0,c1,c2,c3,sa,.int .i64 N,sm,se,o]) (hp.step hc (by have:=T.lt;simp only[List.mem_singleton];omega)) O O O O ⟨E.1,E.2.1,E.2.2.1,E.2.2.2.1,E.2.2.2.2.1,O,E.2.2.2.2.2.1,E.2.2.2.2.2.2.1,E.2.2.2.2.2.2.2.1,U⟩ λw7 hq hr=>Qe ?_
 have h4:=T.lt;have h5:=ha.size;have h6:=V.size;have H:Step [] w3 w7:=((ha.trans V).then1 hc (by omega)).then1 hq (by omega);have h7:=H.size
 refine Qc<|x (Qa O)<|x (Yv (us:=[sa,.int .i64 N,sm,se]) hr O O O)<|Qb<|xl O<|Qr (us:=[sa,.int .i64 N,sm,se]) ((G.ext S).ext H) O O O O ⟨E.2.2.2.2.1,O,E.2.2.2.2.2.1,E.2.2.2.2.2.2.1,U⟩ λw8 he G=>Qe<|Qn ⟨[.agg [sa,.int .i64 N,sm,se].toArray,.int .i64 (Yy c.cel)],⟨⟨_,O,QB O (G.at (L:=[]) (by simp)).cells⟩,rfl,U⟩,((J.trans S).trans H).then1 he (by omega),sa,sm,se,rfl,⟨E.2.2.2.2.1,E.2.2.2.2.2.1,E.2.2.2.2.2.2.1,U⟩,hn,λe L hL=>?_⟩
 have h1:=ho e (b2::L) (λb hb=>by
  simp only[List.mem_cons] at hb;rcases hb with rfl | hb
  ·omega
  have:=hL b hb;omega)
 exact ((h1.ext H).st (he.mono (by simp))).up (λb hb=>.inl (by simp[hb]))
theorem Qif {L:LN}{H:Array Obj}{b T:Nat}{n:Int}(h:Q3 H b T [.int .i64 n]) (hb:b∉L):QL L H (.slice (some ⟨b,0,none⟩) 1 1) [n] :=
 h.arr hb (n:=1) (cap:=1) (sz:=1) O (by omega) (Lr _)
set_option maxHeartbeats 4000000 in
theorem QfE {L:LN}{w:World}{c:CL}{q:MV}(h0:Zx L w.heap c) (hB:QL L w.heap q.v q.co) :
  QJ prog 18 [c.val,.agg #[.int .i64 q.kd,.int .i64 q.ix,q.v]] w λr w'=>Step [] w w'∧∃us,r=.tuple #[.agg us.toArray,.int .i64 (mcE c.cel q.m)]∧us.length=5∧ZP us∧(mcE c.cel q.m≠0→us=Yi)∧(mcE c.cel q.m=0→Qhf w.heap.size w'.heap (.agg us.toArray) (mcC c.cel q.m)):=by
 have h:=h0.up (L':=[]) (by simp);have hm:=hB.up (L':=[]) (by simp);have T:mcE c.cel q.m=if mdE c.cel q.m≠0 then mdE c.cel q.m else ye c.cel (prt q.m):=rfl
 have hC:mcC c.cel q.m=Qdm c.cel (prt q.m):=rfl;rw[hC];refine Zb (mcE c.cel q.m) λE hE=>?_;rw[hE] at T ⊢;refine QJ.of_W func18 O ntmps18 results18 (by simp) ?_;refine Qc<|xl O<|QT (us:=c.cells) O λb2 w1 hy hU hh=>xl O<|QT (us:=Zi q) O λb3 w2 ha hV hz=>xl O<|Qv (us:=Yi) O λb4 w3 J hW h2=>Qe ?_;have hj:=(hy.trans ha).trans J;have hX:=hy.size;have hY:=ha.size
 have hZ:=J.size;have ga:=h2.lt;refine Qf<|Qc<|x (Qs ((hh.ext ha).ext J) O O)<|x (Qs (hz.ext J) O O)<|xl O<|xf<|(QdF (h.ext hj) (hm.ext hj)).mono ?_;rintro r4 w4 ⟨rfl,V⟩;refine Qe ?_;have h3:=hj.trans V;have gb:=V.size;have hD:=((hh.ext ha).ext J).ext V;have hl:=(hz.ext J).ext V;have h4:=h2.ext V;refine Qc<|Qb<|x (Q9 O O)<|xe ?_
 refine Q7 rfl (λhc=>?_) (λhc=>?_)
 ·rw[if_pos hc] at T;subst T;refine Qc<|x (QF U)<|Qb<|xl O<|Qr (us:=Yi) h4 O O O O ⟨O,O,O,O,O,U⟩ λw5 hF hG=>Qe ?_;exact Qn ⟨[.agg Yi.toArray,.int .i64 (mdE c.cel q.m)],⟨⟨_,O,QB O (hG.at (L:=[]) (by simp)).cells⟩,rfl,U⟩,h3.then1 hF (by omega),Yi,rfl,rfl,⟨rfl,rfl,rfl,rfl,rfl,U⟩,λ_=>rfl,λh0=>absurd h0 hc⟩
 rw[if_neg hc] at T;subst T;refine Qi<|Qc<|x (Qa O)<|x (Qd hl O O)<|x (QF ⟨hm.cells,U⟩)<|xl O<|Qv (us:=[nS,nS,nS,nS]) O λb7 w6 hH hI hJ=>xl O<|Qr (us:=[q.v,nS,nS,nS]) hJ O O O O ⟨hm.one,O,O,O,U⟩ λw7 hK h5 =>
  xe ?_
 have hn:Step [] w4 w7:=hH.then1 hK hI;have gc:=hn.size;have ge:=h5.lt;refine Qc<|x (Qa O)<|x (Qd (hl.ext hn) O O)<|xl O<|QC (us:=[[.int .i64 q.ix]]) O O (by decide) (by simp) ⟨rfl,rfl,U⟩ λI w8 ho gg hM =>
  Qe ?_
 have he:=hn.trans ho;have hN:=h3.trans he;have gh:=ho.size;have hp:=h5.ext ho;have hO:w.heap.size≤b7:=by omega
 refine QW (α:=Value×Value×Value) [(22,33)] (λ_=>[]) (λz w'=>Step [b7] w8 w'∧Q3 w'.heap b7 95 [q.v,z.1,z.2.1,z.2.2]∧QL [] w'.heap z.1 (prt q.m).rq∧QL [] w'.heap z.2.1 (prt q.m).ex∧QL [] w'.heap z.2.2 (prt q.m).cs) (by rfl) ?_ ?_
 ·have hq:∀{w':World},Step [b7] w8 w'→QL [] w'.heap (.slice (some ⟨I,0,none⟩) 1 1) [q.ix]:=λhs=>Qif (hM.step hs (by simp only[List.mem_singleton];omega)) (by simp);refine Qc<|x (Qa O)<|x (Qd (hl.ext he) O O)<|xe<|Qg<|Qc<|x (Q8 O O)<|Qe<|Q7 O (λht=>?_) (λht=>?_)
  ·have Y:q.kd=1:=ht;refine Qx<|Qb<|x (Qa O)<|xl O<|QG (j:=1) (u:=.slice (some ⟨I,0,none⟩) 1 1) hp O O (by simp) rfl λS G H=>xe ?_;refine ⟨(.slice (some ⟨I,0,none⟩) 1 1,nS,nS),U,G,H,?_,?_,?_⟩
   ·show QL _ _ _ (if q.kd=1 then [q.ix] else []);rw[if_pos Y];exact hq G
   ·show QL _ _ _ (if q.kd=2 then [q.ix] else []);rw[if_neg (by omega)];exact Jl _ _
   show QL _ _ _ (if q.kd≠1∧q.kd≠2 then [q.ix] else []);rw[if_neg (by omega)];exact Jl _ _
  have Y:¬q.kd=1:=ht;refine Qc<|x (Q8 O O)<|Qe<|Q7 O (λhu=>?_) (λhu=>?_)
  ·have hf:q.kd=2:=hu;refine Qx<|Qb<|x (Qa O)<|xl O<|QG (j:=2) (u:=.slice (some ⟨I,0,none⟩) 1 1) hp O O (by simp) rfl λS G H=>xe ?_;refine ⟨(nS,.slice (some ⟨I,0,none⟩) 1 1,nS),U,G,H,?_,?_,?_⟩
   ·show QL _ _ _ (if q.kd=1 then [q.ix] else []);rw[if_neg Y];exact Jl _ _
   ·show QL _ _ _ (if q.kd=2 then [q.ix] else []);rw[if_pos hf];exact hq G
   show QL _ _ _ (if q.kd≠1∧q.kd≠2 then [q.ix] else []);rw[if_neg (by omega)];exact Jl _ _
  have hf:¬q.kd=2:=hu;refine Qx<|Qb<|x (Qa O)<|xl O<|QG (j:=3) (u:=.slice (some ⟨I,0,none⟩) 1 1) hp O O (by simp) rfl λS G H=>xe ?_;refine ⟨(nS,nS,.slice (some ⟨I,0,none⟩) 1 1),U,G,H,?_,?_,?_⟩
  ·show QL _ _ _ (if q.kd=1 then [q.ix] else []);rw[if_neg Y];exact Jl _ _
  ·show QL _ _ _ (if q.kd=2 then [q.ix] else []);rw[if_neg hf];exact Jl _ _
  show QL _ _ _ (if q.kd≠1∧q.kd≠2 then [q.ix] else []);rw[if_pos ⟨Y,hf⟩];exact hq G
 rintro ⟨v1,v2,v3⟩ g S ⟨G,H,h6,h7,h8⟩;simp only[] at H h6 h7 h8;have hg:Step [] w S:=hN.then1 G hO;have gi:=G.size;have hP:Q3 S.heap b2 47 c.cells:=(hD.ext he).step G (by have:=hh.lt;simp only[List.mem_singleton];omega);have hQ:Q3 S.heap b4 47 Yi:=(h4.ext he).step G (by simp only[List.mem_singleton];omega)
 refine Qc<|x (Qs hP O O)<|x (Qs H O O)<|xl O<|xf<|(QbD (p:=prt q.m) (h.ext hg) (hm.ext hg) h6 h7 h8).mono ?_;rintro gj gk ⟨hv,us,rfl,hw,h9,hR,hS⟩;have gl:=hv.size
 refine x (Qp O O)<|x (Qp O O)<|xl O<|Qr (us:=us) (hQ.ext hv) O O hw O h9 λgm hA hT=>Qe<|Qn ⟨[.agg us.toArray,.int .i64 (ye c.cel (prt q.m))],⟨⟨_,O,QB hw (hT.at (L:=[]) (by simp)).cells⟩,rfl,U⟩,(hg.trans hv).then1 hA (by omega),us,rfl,hw,h9,hR,λe=>?_⟩;obtain ⟨cl,e1,e2,e3⟩:=hS e;refine ⟨cl,e1,e2,λL hL=>?_⟩;have h1:=e3 (b4::L) (λb hb=>by
  rcases Lc.1 hb with rfl | hb
  ·omega
  have:=hL b hb;have:=hg.size;omega)
 exact (h1.st (hA.mono (by simp))).up (λb hb=>.inl (by simp[hb]))
set_option maxHeartbeats 4000000 in
theorem Qid {L:LN}{w:World}{c:CL}{q:MV}(h0:Zx L w.heap c) (hp:QL L w.heap q.v q.co) (hq:Kb w 4096) :
  QJ prog 19 [c.val,.agg #[.int .i64 q.kd,.int .i64 q.ix,q.v]] w λr w'=>Step [] w w'∧∃sa st sm se,r=.tuple #[.agg #[sa,.int .i64 st,sm,se],.int .i64 (msE c.cel q.m)]∧ZP [sa,sm,se] ∧
   (msE c.cel q.m=0→st=(msA c.cel q.m).st∧∀L:LN,(∀b∈L,b<w.heap.size)→Zu L w'.heap sa sm se (msA c.cel q.m))∧(msE c.cel q.m≠0→st=0∧sa=nS∧sm=nS∧se=nS):=by
 have h:=h0.up (L':=[]) (by simp);have hm:=hp.up (L':=[]) (by simp);have G:msE c.cel q.m=if mcE c.cel q.m≠0 then mcE c.cel q.m else suE (mcC c.cel q.m):=rfl
 have hs:msA c.cel q.m=suA (mcC c.cel q.m):=rfl;rw[hs];refine Zb (msE c.cel q.m) λE hE=>?_;rw[hE] at G ⊢;refine QJ.of_W func19 O ntmps19 results19 (by simp) ?_;refine Qc<|xl O<|QT (us:=c.cells) O λb2 w1 hg hH ht=>xl O<|QT (us:=Zi q) O λb3 w2 ha hI hu=>xl O<|Qv (us:=[nS,.int .i64 0,nS,nS]) O λb4 w3 J hJ hh=>Qe ?_;have hc:=(hg.trans ha).trans J;have hK:=hg.size
 have hM:=ha.size;have hO:=J.size;have hP:=hh.lt;refine Qc<|x (Qs ((ht.ext ha).ext J) O O)<|x (Qs (hu.ext J) O O)<|xl O<|xf<|(QfE (h.ext hc) (hm.ext hc)).mono ?_;rintro r4 w4 ⟨he,us,rfl,hj,hw,hQ,hy⟩;have hS:=he.size;have hz:=hc.trans he;refine Qb<|x (Qp O O)<|x (Qp O O)<|xl O<|Qv (us:=Yi) O λb6 w5 h2 h3 h4=>xl O<|Qr (us:=us) h4 O O hj O hw λS h5 h6 =>
  Qe ?_
 have T:Step [] w4 S:=h2.then1 h5 h3;have V:=hz.trans T;have hT:=T.size;have hl:=(hh.ext he).ext T;refine Qf<|Qc<|Qb<|x (Q9 O O)<|xe<|Q7 rfl (λH=>?_) (λH=>?_)
 ·rw[if_pos H] at G;subst G;refine Qc<|x (QF U)<|Qb<|xl O<|Qr (us:=[nS,.int .i64 0,nS,nS]) hl O O O O ⟨O,O,O,O,U⟩ λw7 h7 h8=>Qe ?_;exact Qn ⟨[.agg [nS,.int .i64 0,nS,nS].toArray,.int .i64 (mcE c.cel q.m)],⟨⟨_,O,QB O (h8.at (L:=[]) (by simp)).cells⟩,rfl,U⟩,V.then1 h7 (by omega),nS,0,nS,nS,rfl,⟨rfl,rfl,rfl,U⟩,λh0=>absurd h0 H,λ_=>⟨rfl,rfl,rfl,rfl⟩⟩
 rw[if_neg H] at G;subst G;obtain ⟨cl,hv,h9,hA⟩:=hy (Lu.1 H);have hB:Zx [] S.heap cl:=(hA [] (by simp)).ext T;have hn:=q7 hB (hq.ext V);rw[h9] at hn;have hC:∀R,QJ prog 32 [cl.val] S R→QJ prog 32 [.agg us.toArray] S R:=λR hR=>by rw[hv];exact hR
 have hsup':=hC _ hn;refine Qi<|Qc<|x (Qs h6 O hj)<|xl O<|xf<|hsup'.mono ?_;rintro r8 w8 ⟨hf,sa,sm,se,rfl,Y,hD,hF⟩;refine Zb (if Yy (mcC c.cel q.m)=0 then (suA (mcC c.cel q.m)).st else 0) λN I=>?_
 rw[I];have hU:=hf.size;refine x (Qp O O)<|x (Qp O O)<|xl O<|Qr (us:=[sa,.int .i64 N,sm,se]) (hl.ext hf) O O O O ⟨Y.1,O,Y.2.1,Y.2.2.1,U⟩ λw9 ho hG=>Qe<|Qn ⟨[.agg [sa,.int .i64 N,sm,se].toArray,.int .i64 (suE (mcC c.cel q.m))],⟨⟨_,O,QB O (hG.at (L:=[]) (by simp)).cells⟩,rfl,U⟩,(V.trans hf).then1 ho (by omega),sa,N,sm,se,rfl,Y,λe=>⟨?_,λL hL=>?_⟩,λe=>?_⟩
 ·have e':Yy (mcC c.cel q.m)=0:=e;rw[if_pos e'] at I;exact I.symm
 ·have h1:=hF e (b4::L) (λb hb=>by
   rcases Lc.1 hb with rfl | hb
   ·omega
   have:=hL b hb;have:=V.size;omega)
  exact (h1.st (ho.mono (by simp))).up (λb hb=>.inl (by simp[hb]))
 have e':¬Yy (mcC c.cel q.m)=0:=e;rw[if_neg e'] at I;exact ⟨I.symm,hD e⟩
theorem Y3.app3 {α:Type}{g:α→LV}{sz T:Nat}{ps:α→List (Value×Nat×Nat×LV)}{base:Nat}{E G:World}{v H:Value}{l:List α}{q:α}(h:Y3 g sz T ps base E v l)
  (hq:∀t∈ps q,ZC base (ob v) E.heap t.1 t.2.1 t.2.2.1 t.2.2.2)
  (V:G.ownsRow base T sz H (l.length+1) (l.flatMap g++g q)) (I:Step (ob v) E G) (J:∀b∈ob H,b∈ob v∨E.heap.size≤b):Y3 g sz T ps base G H (l++[q]):=by
 refine ⟨?_,λd hd t S=>?_⟩
 ·rw[Li,Lz];simpa using V
 rcases Lj.1 hd with hd | hd
 ·exact (h.each d hd t S).app I J
 simp only[List.mem_singleton] at hd;subst hd;exact (hq t S).app I J
abbrev Ql9 (p:AV):List (Value×Nat×Nat×LV):=[(p.va,p.a.al.length,1,p.a.al.map (.int .i64)),(p.vm,p.a.mr.length,1,p.a.mr.map (.int .i64)),(p.ve,p.a.ed.length,3,p.a.ed.flatMap Qz)]
abbrev AvP (base:Nat) (w:World) (v:Value) (l:List AV):Prop:=Y3 Zl 4 58 Ql9 base w v l
theorem AvP.auts {base:Nat}{w:World}{v:Value}{l:List AV}{L:LN}(h:AvP base w v l) (G:l.length≤1099511627776) (E:∀b∈L,b<base):XD L w.heap v l :=
 ⟨QR h.own G (λb hb H=>by have:=(Qk h.own b hb).1;have:=E b H;omega),λp hp=>⟨h.each p hp (p.va,p.a.al.length,1,p.a.al.map (.int .i64)) (by simp) L (λb hb=>.inl (E b hb)),h.each p hp (p.vm,p.a.mr.length,1,p.a.mr.map (.int .i64)) (by simp) L (λb hb=>.inl (E b hb)),h.each p hp (p.ve,p.a.ed.length,3,p.a.ed.flatMap Qz) (by simp) L (λb hb=>.inl (E b hb))⟩⟩
def Qmg (N:Nat) (H:Array Obj) (v:Value) (l:List QV):Prop:=∃ps:List AV,ps.map (·.a)=l∧∀L:LN,(∀b∈L,b<N)→XD L H v ps
theorem QgW {p:AV}(h1:p.va.oneCell'=true) (h2:p.vm.oneCell'=true) (h3:p.ve.oneCell'=true):∀u∈Zl p,u.oneCell'=true:=by
 intro u hu;simp only[Zl,List.mem_cons,List.not_mem_nil,or_false] at hu;rcases hu with rfl | rfl | rfl | rfl
 ·exact h1
 ·rfl
 ·exact h2
 exact h3
theorem Zu.parts {base N:Nat}{av:LN}{H:Array Obj}{p:AV}(h:∀L:LN,(∀b∈L,b<N)→Zu L H p.va p.vm p.ve p.a) (hb:base≤N) (G:∀b∈av,b<N):∀t∈Ql9 p,ZC base av H t.1 t.2.1 t.2.2.1 t.2.2.2:=by
 intro t I;simp only[List.mem_cons,List.not_mem_nil,or_false] at I;rcases I with rfl | rfl | rfl
 ·exact ZC.of_lt (λL E=>(h L E).al) hb G
 ·exact ZC.of_lt (λL E=>(h L E).mr) hb G
 exact ZC.of_lt (λL E=>(h L E).ed) hb G
theorem Qfw {c:Zw}(h:Kl c):(mods c).length≤96:=by have:=yJ h 3 (by omega);rw[jU] at this;omega
theorem Qb4:∀(l:LN) (b:Nat),l.foldl (λl b=>l &&& (65535 ^^^ b)) b≤b
 | [],_=>Lr _
 | _::l,_=>LS (Qb4 l _) Nat.and_le_left
theorem Qj2 {c:Zw}:∀i∈rem c,0≤i∧i<(c.co.length:Int):=by
 intro i hi;unfold rem setK at hi;obtain ⟨j,E,rfl⟩:=Ly.1 hi;have h1:=(Md.1 E).2;have h2:=of_decide_eq_true h1;refine ⟨by omega,?_⟩;refine Decidable.byContradiction λI=>?_;have G:c.co.length≤j:=by omega
 have J:ym c≤2 ^ c.co.length - 1:=Qb4 _ _;have hp:0<2 ^ c.co.length:=Nat.pow_pos (by decide);have S:2 ^ c.co.length≤2 ^ j:=Nat.pow_le_pow_right (by decide) G;have H:ym c / 2 ^ j=0:=Nat.div_eq_of_lt (by omega);rw[H] at h2;cases h2
theorem QjL (c:Zw):Qdc c=if Zc c≠0 then Zc c else msL c (mods c):=rfl
theorem Qfv (c:Zw) (m:KL) (l:List KL):msL c (m::l)=if msE c m≠0 then msE c m else msL c l:=rfl
abbrev coA (c:Zw) (i:Int):QV:=(c.co.getD i.toNat ⟨.empty,⟨[],0,[],[]⟩⟩).a
set_option maxRecDepth 4096 in
set_option maxHeartbeats 8000000 in
theorem qE {L:LN}{w:World}{c:CL}(I:Zx L w.heap c) (g5:Kb w 4096) :
  QJ prog 22 [c.val] w λr w'=>Step [] w w'∧∃v,r=.tuple #[v,.int .i64 (Qdc c.cel)]∧(Qdc c.cel≠0→v=nS)∧(Qdc c.cel=0→v.oneCell'=true∧Qmg w.heap.size w'.heap v (QeH c.cel)):=by
 have h:=I.up (L':=[]) (by simp);have ho:=QjL c.cel;have g6:QeH c.cel=(mods c.cel).map (msA c.cel)++(rem c.cel).map (coA c.cel):=rfl;refine Zb (Qdc c.cel) λE hE=>?_;rw[hE] at ho ⊢;refine QJ.of_W func22 O ntmps22 results22 (by simp) ?_;refine Qc<|xl O<|QT (us:=c.cells) O λb1 w1 hG mj gb=>x Qh<|Qe<|Qc<|x (Qs gb O O)<|xl O<|xf<|(KK (h.ext hG)).mono ?_
 rintro r2 T ⟨hH,vM,lM,rfl,hM,mo,g7⟩;have gc:=hG.trans hH;have mq:=hG.size;have mu:=hH.size;refine Qb<|x (Qp O O)<|x (Qp O O)<|x Qh<|Qe<|Qf<|Qc<|Qb<|x (Q9 O O)<|xe<|Q7 rfl (λhp=>?_) (λhp=>?_)
 ·rw[if_pos hp] at ho;subst ho;refine Qc<|Qb<|x Qh<|Qe ?_;exact Qn ⟨[nS,.int .i64 (Zc c.cel)],⟨O,O,U⟩,gc,nS,O,λ_=>O,λI=>absurd I hp⟩
 rw[if_neg hp] at ho;have h4:=Lu.1 hp;have g8:Kl c.cel:=(ZO h4).sr;have h6:=g7 h4;have mv:lM.length≤96:=by have:=Qfw g8;rw[←h6,Lb] at this;exact this
 have ge:Zo [] T.heap vM lM.length 3 (lM.flatMap Zi):=hM.arr (by omega) (by simp);have mw:(rem c.cel).length≤8:=YV _ _;have gg:=gb.ext hH;refine Qi<|Qc<|Qe<|Qf<|Qc<|Qb<|x (Qq ge O)<|Qb<|xe ?_
 refine Qg<|Qy (α:=Nat×Value×List AV) [(2,3),(6,6),(8,10),(25,42)] (λz=>[(6,z.2.1),(25,.int .i64 z.1)]) (λz w'=>z.1≤lM.length∧Step [] T w'∧AvP T.heap.size w' z.2.1 z.2.2∧z.2.2.map (·.a)=(lM.take z.1).map (λq=>msA c.cel q.m)∧msL c.cel ((lM.drop z.1).map MV.m)=E) (λz=>lM.length - z.1) (by rfl) (0,nS,[]) ⟨O,O,U⟩
  ⟨Lk _,Step.refl _ _,Y3.nil,O,by rw[List.drop_zero,h6];exact ho.symm⟩ ?_
 rintro ⟨k,v,l⟩ g w3 ⟨hk,V,Y,hr,G⟩;simp only[] at hk Y hr G;have h7:=gc.trans V;have my:=V.size;have mz:l.length=k:=by have:=congrArg List.length hr;rw[Lb,Lb,Lx] at this;omega
 have hI:=gg.ext V;have h3:=h.ext h7;refine Qc<|x (QA O O)<|xe<|Qf<|QE O (λhJ=>?_) (λhJ=>?_)
 ·refine Qw ?_;have gh:lM.length≤k:=by have hK:¬(k:Int)<(lM.length:Int):=hJ;omega
  rw[Lm gh] at hr;rw[Lq gh] at G;have gi:E=0:=G.symm;have g9:l.map (·.a)=(mods c.cel).map (msA c.cel):=by rw[hr,←h6,Me];rfl
  refine Qc<|x (Qs hI O O)<|xl O<|xf<|(Jz h3).mono ?_;rintro r4 w4 ⟨h8,vR,rfl,_,ka⟩;have hR:=ka h4;have kb:=h7.trans h8;have m0:=h8.size;refine Qb<|x (Qp O O)<|x (Qp O O)<|x Qh<|Qe<|Qf<|Qc<|Qb<|x (Q9 O O)<|xe<|Q7 O (λgj=>?_) (λgj=>?_)
  ·exact absurd h4 gj
  refine Qi ?_;have kc:QL [] w4.heap vR (rem c.cel):=Qt.ints hR (by omega) (by simp);refine Qf<|Qc<|Qb<|x (Qq kc O)<|Qb<|xe ?_
  refine Qg<|Qy (α:=Nat×Value×List AV) [(6,6),(13,14),(53,78)] (λz=>[(6,z.2.1),(53,.int .i64 z.1)]) (λz w'=>z.1≤(rem c.cel).length∧Step (ob v) w4 w'∧AvP T.heap.size w' z.2.1 z.2.2∧z.2.2.map (·.a)=(mods c.cel).map (msA c.cel)++((rem c.cel).take z.1).map (coA c.cel)∧∀b∈ob z.2.1,b∈ob v∨w4.heap.size≤b) (λz=>(rem c.cel).length - z.1) (by rfl) (0,v,l) ⟨O,O,U⟩
   ⟨Lk _,Step.refl _ _,Y3.ext Y h8,by simp only[List.take_zero,List.map_nil,List.append_nil];exact g9,λb hb=>.inl hb⟩ ?_
  rintro ⟨j,vj,lj⟩ g w5 ⟨hj,hs,ha,hu,hN⟩;simp only[] at hj ha hu hN;have hO:=Qk Y.own;have gk:=Qk ha.own;have gl:Step [] w w5:=kb.then hs (λb hb=>.inr (by have:=(hO b hb).1;omega));have h5:=h.ext gl;have m1:=hs.size;have m2:lj.length≤200:=by
   have e1:=congrArg List.length hu;rw[Lb,Li,Lb,Lb,Lx,←h6,Lb] at e1;omega
  have ke:Q3 w5.heap b1 47 c.cells:=(hI.ext h8).step hs (λhb=>by have:=(hO b1 hb).1;have:=gg.lt;omega);have kf:QL [] w5.heap vR (rem c.cel):=(((Qt.ints hR (by omega) (L:=ob v) (λb hb=>(hO b hb).2)).st hs)).up (by simp);refine Qc<|x (QA O O)<|xe<|Qf<|QE O (λhP=>?_) (λhP=>?_)
  ·refine Qw ?_;have kg:(rem c.cel).length≤j:=by have hK:¬(j:Int)<((rem c.cel).length:Int):=hP;omega
   rw[Lm kg,←g6] at hu;refine Qc<|Qb<|x Qh<|Qe ?_;exact Qn ⟨[vj,.int .i64 0],⟨O,O,U⟩,gl,vj,by rw[gi];rfl,λI=>absurd gi I,λ_=>⟨QD ha.own,lj,hu,λL hL=>AvP.auts ha (by omega) (λb hb=>by have:=hL b hb;omega)⟩⟩
  have he:j<(rem c.cel).length:=by have hK:(j:Int)<((rem c.cel).length:Int):=hP;omega
  have gm:(rem c.cel).take (j+1)=(rem c.cel).take j++[(rem c.cel)[j]'he]:=Le he;have gn:=Qj2 _ (Lh he);refine Qi<|Qf<|Qg<|Qc<|xii (i:=j) kf O O he λm3 go=>?_;refine Zb ((rem c.cel)[j]'he) λi hi=>?_;rw[hi] at go gm gn;have kh:c.cel.co.length=c.co.length:=Lb ..;rw[kh] at gn;have ki:i=(i.toNat:Int):=by omega
  have hv:i.toNat<c.co.length:=by omega
  have hw:=Lh hv;have gp:coA c.cel i=(c.co[i.toNat]'hv).p.a:=by
   show ((c.co.map IV.it).getD i.toNat _).a=_;simp[List.getD,hv,IV.it]
  refine x (Qu go O)<|Qe<|Qc<|x (Qa O)<|x (Qd ke O O)<|Qb<|xig (g:=Zf) (i:=i.toNat) YK h5.co.arr O (congrArg (Value.int .i64) ki) hv λm4 gq=>?_;refine Zb (c.co[i.toNat]'hv) λq hq=>?_;rw[hq] at gq hw gp;have J:=h5.co.each q hw;refine x (Q4 O)<|x (QI (us:=[q.p.va,.int .i64 q.p.a.st,q.p.vm,q.p.ve]) (gq.from 1) O O)<|xl O<|Qv (us:=[nS,.int .i64 0,nS,nS]) O λgr w6 kj kk hf =>
   xl rfl<|Qr (us:=[q.p.va,.int .i64 q.p.a.st,q.p.vm,q.p.ve]) hf O O O O ⟨J.al.one,O,J.mr.one,J.ed.one,U⟩ λH kn hf=>xe ?_
  have hQ:Step [] w5 H:=kj.then1 kn kk;have hg:Step [] H { H with drawn:=H.drawn+1 }:=Step.drew _ _
  have m5:=hQ.size;have hB:gr∉ob vj:=λhm=>by have:=(gk gr hm).2;omega
  have hS:=J.ext hQ;refine QS (Step (ob vj) H) [(0,true),(1,true),(2,true),(4,true),(5,true),(6,true),(7,true),(9,true),(10,true),(3,false),(8,false),(11,false),(12,true),(13,false),(14,false),(15,true)] mixed (by rfl) (by kernel_rfl) (Step.drew _ _) ?_;refine p (λ_=>Ql)<|p (λ_=>Qa O)<|pq (λ_ hc=>Qd (hf.step hc hB) O O)<|p (λ_=>Qa O)<|pq (λ_ hc=>Qd (hf.step hc hB) O O) <|
   p (λ_=>Qa O)<|pq (λ_ hc=>Qd (hf.step hc hB) O O)<|p (λ_=>Qa O)<|pq (λ_ hc=>Qd (hf.step hc hB) O O) <|
   pk<|xf<|(ZW (hS.al.ext hg)).mono ?_
  rintro r8 w8 ⟨hh,hT⟩;refine ⟨(hg.trans hh).any,?_⟩;refine pk<|xf<|(ZW ((hS.mr.ext hg).ext hh)).mono ?_;rintro r9 w9 ⟨hy,hU⟩;refine ⟨((hg.trans hh).trans hy).any,?_⟩;refine pk<|xf<|(KB (((hS.ed.ext hg).ext hh).ext hy)).mono ?_;rintro hz m6 ⟨hV,hW⟩;have hC:=((hg.trans hh).trans hy).trans hV;refine ⟨hC.any,?_⟩
  refine p (λ_=>QF ⟨QZ hT,O,QZ hU,QZ hW,U⟩)<|pk<|QC (us:=[Zl ⟨r8,r9,hz,q.p.a⟩]) O O (by decide) (by simp) ⟨rfl,rfl,U⟩ λm7 m8 hl m9 ko=>⟨(hC.trans hl).any,?_⟩;have hD:=(hQ.trans hC).trans hl;have pa:=hD.size;have pc:=hh.size;have pd:=hy.size;have pf:({ H with drawn:=H.drawn+1 }:World).heap.size=H.heap.size:=rfl
  refine pk<|QU (news:=Zl ⟨r8,r9,hz,q.p.a⟩) (L:=[]) (Qm ha.own hD) O O O (ko.at (by simp)) (QgW (p:=⟨r8,r9,hz,q.p.a⟩) (QD hT) (QD hU) (QD hW)) (by omega) (by omega) λgs kp kq hX gt=>⟨(hC.trans hl).any.trans' hX,?_⟩;refine p (λ_=>Qh)<|pe ?_;have hY:∀b∈ob vj,b<H.heap.size:=λb hb=>by have:=(gk b hb).2;omega
  have kr:AvP T.heap.size kp gs (lj++[⟨r8,r9,hz,q.p.a⟩]):=Y3.app3 (Y3.ext ha hD) (λt ht=>by
   simp only[List.mem_cons,List.not_mem_nil,or_false] at ht;rcases ht with rfl | rfl | rfl
   ·exact ZC.of_own (Qm (Qm (Qm hT hy) hV) hl) J.al.le (by omega) (λb hb=>by have:=hY b hb;omega)
   ·exact ZC.of_own (Qm (Qm hU hV) hl) J.mr.le (by omega) (λb hb=>by have:=hY b hb;omega)
   exact ZC.of_own (Qm hW hl) J.ed.le (by omega) (λb hb=>by have:=hY b hb;omega)) kq hX gt
  refine Qx<|QN O O<|Qb<|xe<|⟨(j+1,gs,lj++[⟨r8,r9,hz,q.p.a⟩]),by simp only[];omega,⟨O,O,U⟩,he,(hs.trans hD).then hX hN,kr,?_,λb hb=>?_⟩
  ·simp only[];rw[gm,Ls,hu,Ls,LA,Mt,Mt,gp]
  rcases gt b hb with h9 | h9
  ·exact hN b h9
  exact .inr (by omega)
 have S:k<lM.length:=by have hK:(k:Int)<(lM.length:Int):=hJ;omega
 have gu:lM.take (k+1)=lM.take k++[lM[k]'S]:=Le S;have hw:=Lh S;rw[LJ S,LK,Qfv] at G;have kt:=ZQ.ext hM V;have ku:=ge.ext V;refine Qi<|Qf<|Qg<|Qc<|xig (g:=Zi) (i:=k) JR ku O O S λpg gv=>?_;refine Zb (lM[k]'S) λq hq=>?_;rw[hq] at gv gu hw G
 have gw:QL [] w3.heap q.v q.co:=kt.each q hw [] (by simp);refine x (QI gv O O)<|xl O<|Qv (us:=[.int .i64 0,.int .i64 0,nS]) O λb8 ph kv kw hZ=>xl O<|Qr (us:=Zi q) hZ O O O O ⟨O,O,gw.one,U⟩ λgx ky hZ =>
  xe ?_
 have h1:Step [] w3 gx:=kv.then1 ky kw;have gy:=h7.trans h1;have pj:=h1.size;refine Qc<|x (Qs (hI.ext h1) O O)<|x (Qs hZ O O)<|xl O<|xf<|(Qid (q:=q) (h.ext gy) (gw.ext h1) (g5.ext gy)).mono ?_;rintro pm kz ⟨k0,sa,st,sm,se,rfl,hn,k4,_⟩
 refine Qb<|x (Qp O O)<|x (Qp O O)<|xl O<|Qv (us:=[nS,.int .i64 0,nS,nS]) O λb9 pn k5 k6 ga=>xl O<|Qr (us:=[sa,.int .i64 st,sm,se]) ga O O O O ⟨hn.1,O,hn.2.1,hn.2.2.1,U⟩ λk7 k8 ga =>
  Qe ?_
 have gz:Step [] kz k7:=k5.then1 k8 k6;have g0:=(h1.trans k0).trans gz;refine Qf<|Qc<|Qb<|x (Q9 O O)<|xe<|Q7 rfl (λh2=>?_) (λh2=>?_)
 ·rw[if_pos h2] at G;subst G;refine Qc<|Qb<|x Qh<|Qe ?_;exact Qn ⟨[nS,.int .i64 (msE c.cel q.m)],⟨O,O,U⟩,h7.trans g0,nS,O,λ_=>O,λI=>absurd I h2⟩
 rw[if_neg h2] at G;obtain ⟨k9,hA⟩:=k4 (Lu.1 h2);subst k9;have hge:=Qk Y.own;refine Qi<|Qx<|Qb<|x (Qs ga O O)<|xl O<|QC (us:=[Zl ⟨sa,sm,se,msA c.cel q.m⟩]) O O (by decide) (by simp) ⟨rfl,rfl,U⟩ λpo pp g2 pt ma=>?_;have hF:=g0.trans g2;have pu:=hF.size
 refine xl rfl<|QU (news:=Zl ⟨sa,sm,se,msA c.cel q.m⟩) (L:=[]) (Qm Y.own hF) O O O (ma.at (by simp)) (QgW (p:=⟨sa,sm,se,msA c.cel q.m⟩) hn.1 hn.2.1 hn.2.2.1) (by omega) (by omega) λg3 mc mf g4 mg =>
  Qe ?_
 have mh:AvP T.heap.size mc g3 (l++[⟨sa,sm,se,msA c.cel q.m⟩]):=Y3.app3 (Y3.ext Y hF) (Zu.parts (N:=gx.heap.size) (p:=⟨sa,sm,se,msA c.cel q.m⟩) (λL hL=>((hA L hL).ext gz).ext g2) (by omega) (λb hb=>by have:=(hge b hb).2;omega)) mf g4 mg;refine Qx<|QN O O<|Qb<|xe ?_
 refine ⟨(k+1,g3,l++[⟨sa,sm,se,msA c.cel q.m⟩]),by simp only[];omega,⟨O,O,U⟩,S,(V.trans hF).then g4 (λb hb=>.inr (hge b hb).1),mh,?_,G⟩;simp only[];rw[gu,Ls,hr,Ls];rfl
section
variable {s:QV} {l:List KQ} {n:Nat}
end
section
variable {s:QV} {l:List KQ} {n:Nat}
end
section
variable {s:QV} {l:List KQ} {n:Nat}
end
section
variable {p s:QV} {pairs:List (LI)}
end
section
variable {s:QV} {l:List KQ} {n:Nat}
end
section
variable {s:QV} {l:List KQ} {n:Nat} {nm:LI}
end
section
variable {p s:QV} {pn xn v:Int}
end
section
variable {s:QV} {l:List KQ} {n:Nat}
end
theorem Qev {n k:Nat}(h:k<n):(JJ n).drop k=(k:Int)::(JJ n).drop (k+1):=by
 have hl:k<(JJ n).length:=by rw[z6];exact h
 rw[LJ hl];congr 1;simp[JJ]
theorem QeQ (c:Zw) (v:Int) (l:LI):shd c (v::l)=if 2≤(ownr c v).length then some (v,cget (ownr c v) 0,cget (ownr c v) 1) else shd c l:=rfl
def shR (c:Zw):Option (Int×Int×Int):=if Zc c≠0 then none else QjT c
set_option maxHeartbeats 4000000 in
theorem Qea {L:LN}{w:World}{c:CL}(h0:Zx L w.heap c) :
  QJ prog 20 [c.val] w λr w'=>Step [] w w'∧r=.tuple #[.int .i64 (QjY (shR c.cel)).1,.int .i64 (QjY (shR c.cel)).2.1,.int .i64 (QjY (shR c.cel)).2.2,.bool (shR c.cel).isSome,.int .i64 (Zc c.cel)]:=by
 have h:=h0.up (L':=[]) (by simp);have hsr:shR c.cel=if Zc c.cel≠0 then none else QjT c.cel:=rfl
 refine Zb (Zc c.cel) λE hE=>?_;refine Zb (shR c.cel) λS hS=>?_;rw[hS,hE] at hsr;rw[hS,hE];have hQ:=h.co.arr.le;have hR:=h.ev.arr.le;refine QJ.of_W func20 O ntmps20 results20 (by simp) ?_;refine Qc<|xl O<|QT (us:=c.cells) O λb1 w1 hu hT hv=>x Qh<|x Qh<|x Qh<|x Qh<|Qe<|Qf<|Qc<|x (Qs hv O O)<|xl O<|xf<|(YF (h.ext hu)).mono ?_;rintro r2 w2 ⟨hw,hy⟩;rw[hE] at hw;subst hw;refine Qe ?_
 have he:=hu.trans hy;have hz:=hv.ext hy;refine Qc<|Qb<|x (Q9 O O)<|xe<|Q7 rfl (λV=>?_) (λV=>?_)
 ·rw[if_pos V] at hsr;subst hsr;refine Qc<|Qb<|x Qh<|x Qh<|x Qh<|x Qh<|Qe ?_;exact Qn ⟨[.int .i64 0,.int .i64 0,.int .i64 0,.bool false,.int .i64 E],⟨O,O,O,O,O,U⟩,he,O⟩
 rw[if_neg V] at hsr;have h1:E=0:=Lu.1 V;have hU:c.cel.ev.length=c.ev.length:=rfl;have hD:QjT c.cel=shd c.cel (JJ c.ev.length):=rfl;rw[hD] at hsr;refine Qi<|Qf<|Qc<|x (Qa O)<|x (Qd hz O O)<|x (Qq (h.ext he).ev.arr O)<|Qb<|xe ?_
 refine Qg<|Qy (α:=Nat) [(2,6),(8,11),(20,51)] (λz=>[(20,.int .i64 z)]) (λz w'=>z≤c.ev.length∧Step [] w2 w'∧shd c.cel ((JJ c.ev.length).drop z)=S) (λz=>c.ev.length - z) (by rfl) 0 Z
  ⟨Lk _,Step.refl _ _,hsr.symm⟩ ?_
 rintro k g w3 ⟨hk,hf,G⟩;have hg:=he.trans hf;have hF:=hz.ext hf;have h3:=h.ext hg;refine Qc<|x (QA O O)<|xe<|Qf<|QE O (λhh=>?_) (λhh=>?_)
 ·refine Qw ?_;have hG:c.ev.length≤k:=by have hj:¬(k:Int)<(c.ev.length:Int):=hh;omega
  rw[Lq (by rw[z6];exact hG)] at G;have hH:S=none:=G.symm;subst hH;refine Qc<|x Qh<|x Qh<|x Qh<|x Qh<|Qe ?_;exact Qn ⟨[.int .i64 0,.int .i64 0,.int .i64 0,.bool false,.int .i64 0],⟨O,O,O,O,O,U⟩,hg,by rw[h1];rfl⟩
 have h5:k<c.ev.length:=by have hj:(k:Int)<(c.ev.length:Int):=hh;omega
 rw[Qev h5,QeQ] at G;refine Qi<|Qf<|Qg<|Qc<|Qb<|Qe<|Qc<|Qe<|Qf<|Qc<|x (Qa O)<|x (Qd hF O O)<|x (Qq h3.co.arr O)<|Qb<|xe ?_;have hl:ownr c.cel (k:Int)=ixs (λq:IV=>decide ((k:Int)∈q.p.a.al)) 0 c.co:=by
  show ixs (λx:YH=>decide ((k:Int)∈x.a.al)) 0 (c.co.map (·.it))=_;generalize 0=i0;generalize c.co=l;induction l generalizing i0 with
  | nil=>rfl
  | cons a l ih=>rw[LK,ixs,ixs,ih (i0+1)];rfl
 rw[hl] at G;refine Qg<|Qy (α:=Nat×Value) [(9,11),(26,40)] (λz=>[(9,z.2),(26,.int .i64 z.1)]) (λz w'=>z.1≤c.co.length∧Step [] w3 w'∧Qt 3 w3.heap.size w' z.2 (ixs (λq:IV=>decide ((k:Int)∈q.p.a.al)) 0 (c.co.take z.1))) (λz=>c.co.length - z.1) (by rfl) (0,nS) ⟨O,O,U⟩
  ⟨Lk _,Step.refl _ _,QO _ _ _ _⟩ ?_
 rintro ⟨i,v⟩ g w4 ⟨hi,J,H⟩;simp only[] at hi H;have h6:=hg.trans J;have h4:=h.ext h6;have hV:=J.size;have hn:=Va (λq:IV=>decide ((k:Int)∈q.p.a.al)) (c.co.take i) 0;rw[Lx] at hn;refine Qc<|x (QA O O)<|xe<|Qf<|QE O (λho=>?_) (λho=>?_)
 ·refine Qw ?_;have h7:c.co.length≤i:=by have hj:¬(i:Int)<(c.co.length:Int):=ho;omega
  rw[Lm h7] at H;rw[Lm h7] at hn;refine Zb (ixs (λq:IV=>decide ((k:Int)∈q.p.a.al)) 0 c.co) λow hl=>?_;rw[hl] at H hn G;have hA:QL [] w4.heap v ow:=Qt.ints H (by omega) (by simp);refine Qc<|Qb<|x (Qq hA O)<|x (ZU O O)<|xe<|Q7 O (λhp=>?_) (λhp=>?_)
  ·have h2:2≤ow.length:=by have hI:(2:Int)≤(ow.length:Int):=hp;omega
   rw[if_pos h2] at G;subst G;have e0:cget ow 0=ow[0]'(by omega):=by unfold cget;simp[List.getD,show 0<ow.length by omega]
   have e1:cget ow 1=ow[1]'(by omega):=by unfold cget;simp[List.getD,show 1<ow.length by omega]
   refine Qf<|QS (Step [] w4) [(0,true),(1,true),(2,true),(3,true),(4,true),(5,true),(6,true),(7,true),(8,true),(9,true),(10,true),(11,true)] mixed (by rfl) (by kernel_rfl) (Step.drew _ _) ?_;refine p (λ_=>Ql)<|p (λ_=>Ql)<|pii (i:=0) O hA O O (by omega) λhW h8=>?_;rw[←e0] at h8;refine pq (λ_ hc=>Qu (h8.st hc) O) <|
    p (λ_=>Ql)<|pii (i:=1) O hA O O (by omega) λhX h9=>?_
   rw[←e1] at h9;refine pq (λ_ hc=>Qu (h9.st hc) O)<|p (λ_=>Qh) <|
    p (λ_=>Qh)<|p (λ_=>Qh)<|p (λ_=>Qh)<|p (λ_=>Qh)<|pe ?_
   exact Qn ⟨[.int .i64 k,.int .i64 (cget ow 0),.int .i64 (cget ow 1),.bool true,.int .i64 0],⟨O,O,O,O,O,U⟩,h6.trans (Step.drew _ _),by rw[h1];rfl⟩
  have h2:¬2≤ow.length:=by have hI:¬(2:Int)≤(ow.length:Int):=hp;omega
  rw[if_neg h2] at G;refine Qi<|Qx<|QN O O<|Qb<|xe ?_;exact ⟨k+1,by omega,Z,h5,hf.trans J,G⟩
 have I:i<c.co.length:=by have hj:(i:Int)<(c.co.length:Int):=ho;omega
 have hB:=Lh I;have T:=U5 (λq:IV=>decide ((k:Int)∈q.p.a.al)) I;refine Qi<|Qf<|Qg<|Qc<|Qb<|xig (g:=Zf) (i:=i) YK h4.co.arr O O I λhY hC=>?_;refine Zb (c.co[i]'I) λq hq=>?_;rw[hq] at hC hB T;have Y:=h4.co.each q hB;refine x (QI hC O O)<|xl O<|Qv (us:=[.string .empty,nS,.int .i64 0,nS,nS]) O λhZ w5 hJ hK hr=>x Qh <|
  xl rfl<|Qr (us:=Zf q) hr O O O O ⟨O,Y.al.one,O,Y.mr.one,Y.ed.one,U⟩ λw6 hL hr=>xe ?_
 have ha:Step [] w4 w6:=hJ.then1 hL hK;refine Qc<|x (Qa O)<|x (Qa O)<|x (Qd hr O O)<|Qb<|xl O<|xf<|(ZJ (Y.al.ext ha) (k:Int)).mono ?_;rintro r7 w7 ⟨rfl,rfl⟩;refine xe<|Q7 rfl (λhs=>?_) (λhs=>?_)
 ·rw[if_pos (decide_eq_true hs)] at T;refine Qx<|Qb<|Qb<|xl O<|QC (us:=[[.int .i64 i]]) O O (by decide) (by simp) ⟨rfl,rfl,U⟩ λga w8 hM gb hN=>?_;have ht:=ha.trans hM;have gc:=ht.size;refine xl O<|QU (news:=[.int .i64 i]) (L:=[]) (Qm H ht) O O O (hN.at (by simp)) (by simp[Value.oneCell']) (by omega) (by omega) λv9 w9 hO hP ge =>
   Qe ?_
  have hge:=Qk H;refine Qx<|QN O O<|Qb<|xe<|⟨(i+1,v9),by simp only[];omega,⟨O,O,U⟩,I,(J.trans ht).then hP (λb hb=>.inr (hge b hb).1),?_⟩;simp only[];rw[T];exact Qt.snoc hO
 rw[if_neg (by simpa using hs),LH] at T;refine Qi<|Qx<|QN O O<|Qb<|xe ?_;exact ⟨(i+1,v),by simp only[];omega,⟨O,O,U⟩,I,J.trans ha,by simp only[];rw[T];exact Qm H ha⟩
theorem QbO {w:World}(E:Kb w 4096):QJ prog 50 [] w λr w'=>r=.bool true∧Step [] w w':=by
 refine QJ.of_W func50 O ntmps50 results50 (by simp) ?_;refine Qc<|Qe<|QW (α:=Unit) [(0,4)] (λz=>[(0,.bool true)]) (λz w'=>Step [] w w') (by rfl) ?_ ?_
 ·refine Qx<|xl O<|xf<|(Qbh E).mono ?_;rintro S G ⟨rfl,H⟩;refine Qb<|xl O<|xf<|(Qee G).mono ?_;rintro r2 T ⟨rfl,I⟩;refine x (Qo O)<|Qe ?_;exact ⟨(),Z,H.trans I⟩
 rintro z g V J;exact Qn ⟨[.bool true],Z,O,J⟩
theorem KL.eq_iff (a b:KL):a=b↔a.kd=b.kd∧a.ix=b.ix∧a.co=b.co:=by
 cases a;cases b;simp
instance mdlDec (a b:KL):Decidable (a=b):=decidable_of_iff _ (KL.eq_iff a b).symm
theorem Kz {L L':LN}{w:World}{q q':MV}(h:QL L w.heap q.v q.co) (h':QL L' w.heap q'.v q'.co):QJ prog 16 [.agg (Zi q).toArray,.agg (Zi q').toArray] w λr w'=>r=.bool (decide (q.m=q'.m))∧Step [] w w':=by
 refine QJ.of_W func16 O ntmps16 results16 (by simp) ?_;refine Qc<|xl O<|QT (us:=Zi q) O λb2 w1 S ha T=>xl O<|QT (us:=Zi q') O λb3 w2 J hb G=>Qe ?_;have E:=S.trans J;have H:=T.ext J;refine QW (α:=Bool) [(4,23)] (λz=>[(4,.bool z)]) (λz w'=>Step [] w w'∧z=decide (q.m=q'.m)) (by rfl) ?_ ?_
 ·refine Qx<|x (Qa O)<|x (Qd H O O)<|x (Qa O)<|x (Qd G O O)<|xb (Q8 O O) (λh9=>?_) (λh9=>?_)
  ·refine Qb<|x (Qa O)<|x (Qd H O O)<|x (Qa O)<|x (Qd G O O)<|xb (Q8 O O) (λI=>?_) (λI=>?_)
   ·refine x (Qo O)<|Qb<|x (Qa O)<|x (Qd H O O)<|x (Qa O)<|x (Qd G O O)<|xl O<|xf<|(J8 (h.ext E) (h'.ext E)).mono ?_;rintro r3 w3 ⟨rfl,V⟩;refine x (Qo O)<|Qe<|⟨_,Z,E.trans V,?_⟩;refine decide_eq_decide.2 ?_;rw[KL.eq_iff];exact ⟨λe=>⟨h9,I,e⟩,λe=>e.2.2⟩
   refine x (Qo O)<|Qb<|xs O<|xs O<|xs O<|xs O<|xs O<|x (Qo O)<|Qe<|⟨false,Z,E,(decide_eq_false λe=>I ?_).symm⟩;exact congrArg KL.ix e
  refine Qb<|xs O<|xs O<|xs O<|xs O<|xs O<|x (Qo O)<|Qb<|xs O<|xs O<|xs O<|xs O<|xs O<|x (Qo O)<|Qe<|⟨false,Z,E,(decide_eq_false λe=>h9 ?_).symm⟩;exact congrArg KL.kd e
 rintro z g w4 ⟨Y,hz⟩;exact Qn ⟨[.bool z],Z,by rw[←hz];rfl,Y⟩
def Ja:ByteArray:=⟨#[98,117,102,102,101,114]⟩
def Vb:YH:=⟨Ja,⟨[1,2],2,[0,1],[(0,1,1),(1,2,0)]⟩⟩
def Qin:Zw:={ mzC 3 with rq:=[Vb],ex:=[Qgp 1 2] }
def Qbi:Zw:={ Qin with ex:=[] }
theorem QfM:Zc Qin=0:=by kernel_rfl
theorem QfL:mods Qin=[⟨1,0,[0,1]⟩,⟨2,0,[1,2]⟩]:=by kernel_rfl
theorem yP:Zc Qbi=0:=by kernel_rfl
theorem QfN:rem Qbi=[2]:=by kernel_rfl
theorem QfP:Qdc Qbi=0:=by kernel_rfl
theorem QfO:(QeH Qbi).length=2:=by kernel_rfl
theorem Qil:((QeH Qbi).map (·.st)).getD 1 0=2:=by kernel_rfl
theorem Qim:shR Qbi=none:=by kernel_rfl
set_option maxHeartbeats 4000000 in
theorem Vj (w:World):QJ prog 126 [] w λr w'=>Step [] w w'∧Qhf w.heap.size w'.heap r Qin:=by
 refine QJ.of_W func126 O ntmps126 results126 (by simp) ?_;refine Qc<|xl O<|Qv (us:=Yi) O λG w1 hs hT ht=>xe ?_;refine Qc<|xl O<|xf<|(XW 3 (by decide) w1).mono ?_;rintro r2 w2 ⟨hf,E,rfl,h4,hg⟩;refine xl rfl<|Qv (us:=Yi) O λH w3 h5 hu h6=>xl O<|Qr (us:=E.cells) h6 O O O O (hg [] (by simp)).ones λw4 h7 hv=>xe ?_;have ha:Step [] w2 w4:=h5.then1 h7 hu;have hU:=hs.size
 have hV:=hf.size;have hW:=ha.size;have h8:=ht.lt;have hA:=hv.lt;refine Qc<|xl O<|QC (us:=[[.int .i64 1],[.int .i64 2]]) O O (by decide) (by simp) ⟨rfl,rfl,rfl,rfl,U⟩ λS w5 hw hY hB=>xl rfl<|QC (us:=[[.int .i64 0],[.int .i64 1]]) rfl rfl (by decide) (by simp) ⟨rfl,rfl,rfl,rfl,U⟩ λT w6 hh hZ hC =>
  x (QF ⟨rfl,O,O,U⟩)<|x (QF ⟨O,O,O,U⟩)<|xl O<|QC (us:=[Qz (0,1,1),Qz (1,2,0)]) O O (by decide) (by exact (by decide:2*3≤1000000)) ⟨O,O,O,O,U⟩ λV w7 hc ga hD=>?_
 have hE:=(hw.trans hh).trans hc;refine x (QF ⟨O,O,O,O,U⟩)<|x (ZV [(0,[.string Ja]),(1,[.slice (some ⟨S,0,none⟩) 2 2,.int .i64 2,.slice (some ⟨T,0,none⟩) 2 2,.slice (some ⟨V,0,none⟩) 2 2])] ⟨O,O,O,O,U⟩) <|
  xl rfl<|QC (us:=[[.string Ja,.slice (some ⟨S,0,none⟩) 2 2,.int .i64 2,.slice (some ⟨T,0,none⟩) 2 2,.slice (some ⟨V,0,none⟩) 2 2]]) O O (by decide) (by exact (by decide:1*5≤1000000)) ⟨O,O,U⟩ λI w8 Y gb hF=>?_
 have hy:=hE.trans Y;refine x (Qa O)<|xl O<|QG (j:=2) (u:=.slice (some ⟨I,0,none⟩) 1 1) (hv.ext hy) O O (by simp) rfl λw9 hj hG=>xe ?_;refine Qc<|x (QF ⟨O,O,U⟩)<|x (QF ⟨O,O,U⟩)<|xl O<|QC (us:=[QQ (1,1),QQ (2,1)]) O O (by decide) (by exact (by decide:2*2≤1000000)) ⟨O,O,O,O,U⟩ λhe gc hz ge hH=>x (QF ⟨O,O,U⟩) <|
  xl rfl<|QC (us:=[[.string JQ,.slice (some ⟨he,0,none⟩) 2 2]]) O O (by decide) (by exact (by decide:1*2≤1000000)) ⟨O,O,U⟩ λJ hJ hl gg hK=>?_
 have hn:=hz.trans hl;refine x (Qa O)<|xl O<|QG (j:=3) (u:=.slice (some ⟨J,0,none⟩) 1 1) (hG.ext hn) O O (by simp) rfl λh0 ho hM=>xe ?_;have gh:=hw.size;have gi:=hh.size;have gj:=hc.size;have gk:=Y.size;have gl:=hj.size;have gm:=hz.size;have gn:=hl.size;have hp:Step [H] w4 h0:=((hy.any.trans' hj).trans hn.any).trans' ho
 have hN:G∉[H]:=by simp only[List.mem_singleton];omega
 have hO:=((ht.ext hf).ext ha).step hp hN;have hP:ZP [E.ve,E.vc,.slice (some ⟨I,0,none⟩) 1 1,.slice (some ⟨J,0,none⟩) 1 1,E.vk]:=by
  have h9:=(hg [] (by simp)).ones;exact ⟨h9.1,h9.2.1,O,O,h9.2.2.2.2.1,U⟩
 refine Qc<|x (Qs hM O O)<|xl O<|Qr (us:=[E.ve,E.vc,.slice (some ⟨I,0,none⟩) 1 1,.slice (some ⟨J,0,none⟩) 1 1,E.vk]) hO O O O O hP λgo h1 hQ=>xe ?_
 have hq:=CL.cel_ex (CL.cel_rq h4 (.slice (some ⟨I,0,none⟩) 1 1) [⟨Ja,⟨.slice (some ⟨S,0,none⟩) 2 2,.slice (some ⟨T,0,none⟩) 2 2,.slice (some ⟨V,0,none⟩) 2 2,Vb.a⟩⟩]) (.slice (some ⟨J,0,none⟩) 1 1) [⟨JQ,.slice (some ⟨he,0,none⟩) 2 2,[(1,1),(2,1)]⟩]
 refine Qn ⟨[.agg [E.ve,E.vc,.slice (some ⟨I,0,none⟩) 1 1,.slice (some ⟨J,0,none⟩) 1 1,E.vk].toArray],⟨⟨_,O,QB O (hQ.at (L:=[]) (by simp)).cells⟩,U⟩,(((hs.trans hf).trans ha).then1 hp (by omega)).then1 h1 (by omega),_,rfl,hq,λL hL=>?_⟩;have h3:∀b∈G::L,b<w1.heap.size:=λb hb=>by
  rcases Lc.1 hb with rfl | hb
  ·exact h8
  have:=hL b hb;omega
 have hR:∀b∈H::G::L,b<w4.heap.size:=λb hb=>by
  rcases Lc.1 hb with rfl | hb
  ·exact hA
  have:=h3 b hb;omega
 have h2:=(hg (G::L) h3).up (L':=H::G::L) (λb hb=>by
  rcases Lc.1 hb with rfl | hb
  ·exact .inr hu
  exact .inl hb)
 have hr:=(h2.ext ha).st (hp.mono (by simp));have nB:∀b,w4.heap.size≤b→b∉H::G::L:=λb hb hm=>by have:=hR b hm;omega
 have hI:Y6 (H::G::L) w8.heap (.slice (some ⟨I,0,none⟩) 1 1) [⟨Ja,⟨.slice (some ⟨S,0,none⟩) 2 2,.slice (some ⟨T,0,none⟩) 2 2,.slice (some ⟨V,0,none⟩) 2 2,Vb.a⟩⟩]:=by
  refine ⟨hF.arr (nB _ (by omega)) (n:=1) (cap:=1) (sz:=5) O (by decide) (Lr _),λq hq=>?_,λq hq=>?_⟩
  ·rw[La.1 hq];exact ⟨(((hB.ext hh).ext hc).ext Y).arr (nB _ (by omega)) (n:=2) (cap:=2) (sz:=1) O (by decide) (Lr _),((hC.ext hc).ext Y).arr (nB _ (by omega)) (n:=2) (cap:=2) (sz:=1) O (by decide) (Lr _),(hD.ext Y).arr (nB _ (by omega)) (n:=2) (cap:=2) (sz:=3) O (by decide) (Lr _)⟩
  rw[La.1 hq];exact YQ (by decide)
 have hX:qP (H::G::L) hJ.heap (.slice (some ⟨J,0,none⟩) 1 1) [⟨JQ,.slice (some ⟨he,0,none⟩) 2 2,[(1,1),(2,1)]⟩]:=by
  refine ⟨hK.arr (nB _ (by omega)) (n:=1) (cap:=1) (sz:=2) O (by decide) (Lr _),λq hq=>?_,λq hq=>?_⟩
  ·rw[La.1 hq];exact (hH.ext hl).arr (nB _ (by omega)) (n:=2) (cap:=2) (sz:=2) O (by decide) (Lr _)
  rw[La.1 hq];exact YQ (by decide)
 have hS:Zx (H::G::L) h0.heap (CL.mk E.ve E.vc (.slice (some ⟨I,0,none⟩) 1 1) (.slice (some ⟨J,0,none⟩) 1 1) E.vk E.ev E.co [⟨Ja,⟨.slice (some ⟨S,0,none⟩) 2 2,.slice (some ⟨T,0,none⟩) 2 2,.slice (some ⟨V,0,none⟩) 2 2,Vb.a⟩⟩] [⟨JQ,.slice (some ⟨he,0,none⟩) 2 2,[(1,1),(2,1)]⟩] E.cs) :=
  ⟨hr.ev,hr.co,((hI.st (hj.mono (by simp))).ext hn).st (ho.mono (by simp)),hX.st (ho.mono (by simp)),hr.cs⟩
 exact (hS.st (h1.mono (by simp))).up (λb hb=>.inl (Ll _ (Ll _ hb)))
theorem U8 {a b:LI}(ha:Yd a) (hb:Yd b) (h:∀x,x∈a↔x∈b):a=b:=by
 have na:a.Nodup:=List.Pairwise.imp (λh=>by omega) ha;have nb:b.Nodup:=List.Pairwise.imp (λh=>by omega) hb;exact List.Perm.eq_of_pairwise (le:=λx y:Int=>x<y) (λa b _ _ h1 h2=>by omega) ha hb ((List.perm_ext_iff_of_nodup na nb).2 h)
theorem YJ {m n:Nat}{e:Int}:e∈setK m n↔∃k:Nat,k<n∧e=(k:Int)∧m.testBit k=true:=by
 unfold setK;rw[Ly];constructor
 ·rintro ⟨k,hk,rfl⟩;rw[Md,ML] at hk;refine ⟨k,by omega,O,?_⟩;have:=of_decide_eq_true hk.2;rw[Nat.testBit_eq_decide_div_mod_eq];rw[Nat.and_one_is_mod] at this;exact decide_eq_true this
 rintro ⟨k,hk,rfl,E⟩;refine ⟨k,?_,O⟩;rw[Md,ML];refine ⟨by omega,decide_eq_true ?_⟩;rw[Nat.testBit_eq_decide_div_mod_eq] at E;rw[Nat.and_one_is_mod];exact of_decide_eq_true E
theorem yy (b k j:Nat):(orB b k).testBit j=true↔b.testBit j=true∨k=j:=by
 unfold orB;rw[Nat.testBit_or,Nat.one_shiftLeft,Nat.testBit_two_pow,Nv,decide_eq_true_iff]
theorem yt (j:Nat):∀(ls:List (Int×Int)) (b:Nat),(ls.foldl (λb l=>orB b l.1.toNat) b).testBit j=true↔b.testBit j=true∨∃p∈ls,p.1.toNat=j
 | [],b=>by simp
 | p::ls,b=>by
  rw[LO,yt j ls,yy];simp only[List.mem_cons,exists_eq_or_imp];exact or_assoc
theorem Qb8 {ls:List (Int×Int)}{n:Nat}(h:∀p∈ls,0≤p.1∧p.1<(n:Int)) (hi:Yd (ls.map (·.1))):setK (qN ls) n=ls.map (·.1):=by
 refine U8 (JO _ _) hi λx=>?_;rw[YJ,Ly];unfold qN;constructor
 ·rintro ⟨k,hk,rfl,E⟩;rw[yt] at E;rcases E with E | ⟨p,hp,G⟩
  ·simp at E
  exact ⟨p,hp,by have:=h p hp;omega⟩
 rintro ⟨p,hp,rfl⟩;have:=h p hp;exact ⟨p.1.toNat,by omega,by omega,(yt _ _ _).2 (.inr ⟨p,hp,O⟩)⟩
theorem yi (x:YH) (j:Nat):∀(l:List YH) (k b:Nat),(rqB x k b l).testBit j=true↔b.testBit j=true∨∃i,∃h:i<l.length,k+i=j∧((l[i]'h).a.al.any λe=>decide (e∈x.a.al))=true
 | [],k,b=>by simp[rqB]
 | y::l,k,b=>by
  rw[rqB,yi x j l];constructor
  ·rintro (h | ⟨i,hi,h1,h2⟩)
   ·by_cases hy:(y.a.al.any λe=>decide (e∈x.a.al))=true
    ·rw[if_pos hy,yy] at h;rcases h with h | h
     ·exact .inl h
     exact .inr ⟨0,by simp,by omega,hy⟩
    rw[if_neg hy] at h;exact .inl h
   exact .inr ⟨i+1,by simp;omega,by omega,h2⟩
  rintro (h | ⟨i,hi,h1,h2⟩)
  ·refine .inl ?_;by_cases hy:(y.a.al.any λe=>decide (e∈x.a.al))=true
   ·rw[if_pos hy,yy];exact .inl h
   rw[if_neg hy];exact h
  cases i with
  | zero =>
  have h3:(y.a.al.any λe=>decide (e∈x.a.al))=true:=h2;refine .inl ?_;rw[if_pos h3,yy];exact .inr (by omega)
  | succ i=>exact .inr ⟨i,by simpa using hi,by omega,h2⟩
def mts (a b:LI):Bool:=a.any λe=>decide (e∈b)
theorem jP (a b:LI):mts a b=mts b a:=by
 unfold mts;rw[Bool.eq_iff_iff,Ml,Ml];constructor <;> rintro ⟨e,h1,h2⟩ <;> exact ⟨e,of_decide_eq_true h2,decide_eq_true h1⟩
def lmR (co:List YH):Nat→List YH→List KL
 | _,[]=>[]
 | i,x::l=>⟨1,i,ixs (λy:YH=>mts x.a.al y.a.al) 0 co⟩::lmR co (i+1) l
def lmP (kd:Int):Nat→List (List (Int×Int))→List KL
 | _,[]=>[]
 | i,x::l=>⟨kd,i,x.map (·.1)⟩::lmP kd (i+1) l
def lmd (c:Zw):List KL:=lmR c.co 0 c.rq++(lmP 2 0 (c.ex.map (·.ls))++lmP 3 0 (c.cs.map (·.ts)))
theorem yG {α:Type}(q:α→Bool) (x:Int):∀(l:List α) (i:Nat),x∈ixs q i l↔∃k,∃h:k<l.length,x=((i+k:Nat):Int)∧q (l[k]'h)=true
 | [],i=>by simp[ixs]
 | y::l,i=>by
  rw[ixs];have ih:=yG q x l (i+1);constructor
  ·intro h;by_cases hy:q y=true
   ·rw[if_pos hy] at h;rcases Lc.1 h with h | h
    ·exact ⟨0,by simp,by rw[h];simp,hy⟩
    obtain ⟨k,hk,h1,h2⟩:=ih.1 h;exact ⟨k+1,by simp;omega,by rw[h1];congr 1;omega,h2⟩
   rw[if_neg hy] at h;obtain ⟨k,hk,h1,h2⟩:=ih.1 h;exact ⟨k+1,by simp;omega,by rw[h1];congr 1;omega,h2⟩
  rintro ⟨k,hk,h1,h2⟩;cases k with
  | zero =>
   have h3:q y=true:=h2;rw[if_pos h3];exact Lc.2 (.inl (by rw[h1];simp))
  | succ k =>
   have h3:=ih.2 ⟨k,by simpa using hk,by rw[h1];congr 1;omega,h2⟩;split
   ·exact Ll _ h3
   exact h3
theorem yR {α:Type}(q:α→Bool):∀(l:List α) (i:Nat),Yd (ixs q i l)
 | [],_=>List.Pairwise.nil
 | y::l,i=>by
  rw[ixs];split
  ·refine LG.2 ⟨λx hx=>?_,yR q l (i+1)⟩;obtain ⟨k,_,h1,_⟩:=(yG q x l (i+1)).1 hx;omega
  exact yR q l (i+1)
theorem QhQ {x:YH}{co:List YH}{n:Nat}(G:co.length≤n):setK (rqB x 0 0 co) n=ixs (λy:YH=>mts x.a.al y.a.al) 0 co:=by
 refine U8 (JO _ _) (yR _ _ _) λe=>?_;rw[YJ,yG];constructor
 ·rintro ⟨k,hk,rfl,E⟩;rw[yi] at E;rcases E with E | ⟨i,hi,h1,h2⟩
  ·simp at E
  exact ⟨i,hi,by omega,by rw[jP];exact h2⟩
 rintro ⟨k,hk,rfl,h2⟩;exact ⟨k,by omega,by simp,(yi _ _ _ _ _).2 (.inr ⟨k,hk,by omega,by rw[jP] at h2;exact h2⟩)⟩
theorem UY {kd:Int}{f:List (Int×Int)→Prop}(E:∀ls,f ls→setK (qN ls) 8=ls.map (·.1)):∀(l:List (List (Int×Int))) (i:Nat),(∀x∈l,f x)→XZ kd i (l.map qN)=lmP kd i l
 | [],_,_=>rfl
 | x::l,i,h=>by
  rw[LK,XZ,lmP,E x (h x Ln),UY E l (i+1) (λy hy=>h y (Ll _ hy))]
theorem jT {co:List YH}(E:co.length≤8):∀(l:List YH) (i:Nat),XZ 1 i (l.map λx=>rqB x 0 0 co)=lmR co i l
 | [],_=>rfl
 | x::l,i=>by
  rw[LK,XZ,lmR,QhQ E,jT E l (i+1)]
theorem D25.lmd {c:Zw}(h:D25 c):mods c=lmd c:=by
 have h3:=h.c3;have hz:(szs c.co).length=c.co.length:=by unfold szs;rw[Lb]
 unfold mods Proofs.YtdffckgdcegpaaaGreatDoor.lmd srR srX srC;rw[jT (by omega)];have e1:c.ex.map (λx=>qN x.ls)=(c.ex.map (·.ls)).map qN:=by rw[Me];rfl
 have e2:c.cs.map (λx=>qN x.ts)=(c.cs.map (·.ts)).map qN:=by rw[Me];rfl
 rw[e1,e2,UY (f:=λls=>(∀p∈ls,0≤p.1∧p.1<(8:Int))∧Yd (ls.map (·.1))) (λls E=>Qb8 (n:=8) E.1 E.2) _ _ (λls H=>?_),UY (f:=λls=>(∀p∈ls,0≤p.1∧p.1<(8:Int))∧Yd (ls.map (·.1))) (λls E=>Qb8 (n:=8) E.1 E.2) _ _ (λls H=>?_)]
 ·obtain ⟨x,hx,rfl⟩:=Ly.1 H;have h1:=(h.cs x hx).2;have h2:Y9 (szs c.co) none x.ts=0:=by
   unfold YE at h1;split at h1
   ·cases h1
   split at h1
   ·rename_i h9;exact absurd h1 h9
   rename_i h9;exact Lu.1 h9
  have G:=Jq _ _ _ h2;exact ⟨λp hp=>by have:=G.1 p hp;omega,G.2.1⟩
 obtain ⟨x,hx,rfl⟩:=Ly.1 H;have G:=Jr _ _ _ (h.ex x hx).2.2;exact ⟨λp hp=>by have:=G.1 p hp;omega,G.2.1⟩
theorem Qkj {l:List MV}{a b:KL}(h:l.map MV.m=[a,b]):∃m0 m1,l=[m0,m1]∧m0.m=a∧m1.m=b:=by
 match l,h with
 | [m0,m1],h =>
  simp only[List.map_cons,List.map_nil,List.cons.injEq,and_true] at h;exact ⟨m0,m1,O,h.1,h.2⟩
 | [],h=>simp at h
 | [_],h=>simp at h
 | _::_::_::_,h=>simp at h
theorem Qk7 {ps:List AV}{l:List QV}(h:ps.map (·.a)=l) (hl:l.length=2):∃p0 p1,ps=[p0,p1]∧p1.a.st=(l.map (·.st)).getD 1 0:=by
 subst h
 match ps,hl with
 | [p0,p1],_=>exact ⟨p0,p1,O,O⟩
 | [],h=>simp at h
 | [_],h=>simp at h
 | _::_::_::_,h=>simp at h
set_option maxHeartbeats 8000000 in
theorem Qbg {w:World}(hJ:Kb w 4096):QJ prog 49 [] w λr w'=>r=.bool true∧Step [] w w':=by
 refine QJ.of_W func49 O ntmps49 results49 (by simp) ?_;refine Qc<|Qe<|Qc<|xl O<|xf<|(Vj w).mono ?_;rintro r1 w1 ⟨hK,c1,rfl,hj,hL⟩;refine xl rfl<|xf<|(KK (hL [] (by simp))).mono ?_;rintro r2 G ⟨hN,vM,lM,rfl,V,_,hl⟩;rw[hj,QfL] at hl;obtain ⟨H,I,rfl,hO,hP⟩:=Qkj (hl QfM);refine Qb<|x (Qp O O)<|x (Qp O O)<|x Qh<|Qe ?_;have hn:=hK.trans hN
 have ho:Zo [] G.heap vM [H,I].length 3 ([H,I].flatMap Zi):=V.arr (by simp) (by simp);have hQ:QL [] G.heap H.v H.co:=V.each H (by simp) [] (by simp);have hR:QL [] G.heap I.v I.co:=V.each I (by simp) [] (by simp);refine Qf<|QW (α:=Unit) [(18,24)] (λz=>[(24,.bool false)]) (λz w'=>w'=G) (by rfl) ?_ ?_
 ·refine Qx<|Qb<|xb (Q9 O O) (λhp=>absurd (by rw[hj];exact QfM) hp) (λhp=>?_);refine Qb<|Qb<|x (Qq ho O)<|xb (Q9 O O) (λhr=>absurd O hr) (λhr=>?_);refine x (Qo O)<|xe ?_;exact ⟨(),Z,O⟩
 rintro z g G rfl;refine ZX rfl ?_;refine Qi<|Qc<|xl O<|xf<|(Vj G).mono ?_;rintro r3 w3 ⟨hs,E,rfl,hS,ht⟩;refine xl rfl<|Qv (us:=Yi) O λb3 w4 hT hu hU=>xl O<|Qr (us:=E.cells) hU O O O O (ht [] (by simp)).ones λw5 hV hW=>xe ?_;have hv:Step [] w3 w5:=hT.then1 hV hu;refine Qc<|x (Qa O)<|xl O<|QG (j:=3) (u:=nS) hW O O (by simp) rfl λw6 hw Y=>xe ?_;have gv:=hs.size
 have hy:Step [] G w6:=(hs.trans hv).then1 hw (by omega);have hX:=hn.trans hy;have ha:Zx [] w6.heap (CL.mk E.ve E.vc E.vr (nS) E.vk E.ev E.co E.rq [] E.cs):=by
  have h9:=(((ht [] (by simp)).up (L':=[b3]) (λb hb=>.inr (by rw[La.1 hb];exact hu))).ext hv).st hw;have J:=h9.up (L':=[]) (by simp);exact ⟨J.ev,J.co,J.rq,⟨Zo.nil _ _ 2,λq hq=>(by cases hq),λq hq=>(by cases hq)⟩,J.cs⟩
 have hq:(CL.mk E.ve E.vc E.vr (nS) E.vk E.ev E.co E.rq [] E.cs).cel=Qbi:=CL.cel_ex hS (nS) [];refine Qc<|x (Qs Y O O)<|xl O<|xf<|(Jz ha).mono ?_;rintro r7 w7 ⟨S,vr,rfl,_,hz⟩;rw[hq,QfN] at hz;have hY:=hz yP;have hZ:QL [] w7.heap vr [2]:=Qt.ints (L:=[]) hY (by simp) (by simp)
 refine Qb<|x (Qp O O)<|x (Qp O O)<|x Qh<|Qe<|Qc<|x (Qs (Y.ext S) O O)<|xl O<|xf<|(qE (ha.ext S) (hJ.ext (hX.trans S))).mono ?_;rintro r8 w8 ⟨h0,vs,rfl,_,h1⟩;rw[hq] at h1;obtain ⟨_,ps,ga,gb⟩:=h1 QfP;obtain ⟨p0,p1,rfl,h2⟩:=Qk7 ga QfO;rw[Qil] at h2;have gc:=gb [] (by simp);refine Qb<|x (Qp O O)<|x (Qp O O)<|x Qh<|Qe ?_;have hc:=S.trans h0
 refine Qc<|x (Qs (Y.ext hc) O O)<|xl O<|xf<|(Qea (ha.ext hc)).mono ?_;rintro r9 w9 ⟨he,h3⟩;rw[hq,Qim,yP] at h3;subst h3;refine Qb<|x (Qp O O)<|x (Qp O O)<|x (Qp O O)<|x (Qp O O)<|x (Qp O O)<|x Qh<|x Qh<|x Qh<|x Qh<|Qe ?_;have ge:=hc.trans he;have T:=hy.trans ge;have gg:=h0.trans he
 refine QW (α:=Unit) [(0,0),(45,91)] (λz=>[(0,.bool true)]) (λz w'=>Step [] w9 w') (by rfl) ?_ ?_
 ·refine Qx ?_;have h4:=ho.ext T;refine Qb<|xig (g:=Zi) (i:=0) JR h4 O O (by simp) λgw gh=>x (QI gh rfl rfl)<|xl rfl<|QC (us:=[[.int .i64 0],[.int .i64 1]]) rfl rfl (by decide) (by simp) ⟨rfl,rfl,rfl,rfl,U⟩ λgi gx h5 gy gj=>x (QF ⟨rfl,rfl,U⟩) <|
   xl rfl<|xf<|(Kz (q:=H) (q':=⟨1,0,.slice (some ⟨gi,0,none⟩) 2 2,[0,1]⟩) ((hQ.ext T).ext h5) (gj.arr (L:=[]) (by simp) (n:=2) (cap:=2) (sz:=1) rfl (by omega) (Lr _))).mono ?_
  rintro gk gz ⟨hf,gl⟩
  replace hf:gk=.bool true:=hf.trans (congrArg Value.bool (decide_eq_true (p:=H.m=_) hO));subst hf;have hg:=h5.trans gl;refine Qb<|Qb<|xig (g:=Zi) (i:=1) JR (h4.ext hg) O O (by simp) λg0 gm=>x (QI gm rfl rfl)<|xl rfl<|QC (us:=[[.int .i64 1],[.int .i64 2]]) rfl rfl (by decide) (by simp) ⟨rfl,rfl,rfl,rfl,U⟩ λgn g2 h6 g3 go=>x (QF ⟨rfl,rfl,U⟩) <|
   xl rfl<|xf<|(Kz (q:=I) (q':=⟨2,0,.slice (some ⟨gn,0,none⟩) 2 2,[1,2]⟩) (((hR.ext T).ext hg).ext h6) (go.arr (L:=[]) (by simp) (n:=2) (cap:=2) (sz:=1) rfl (by omega) (Lr _))).mono ?_
  rintro gp g4 ⟨hh,gq⟩
  replace hh:gp=.bool true:=hh.trans (congrArg Value.bool (decide_eq_true (p:=I.m=_) hP));subst hh;have h7:=hg.trans (h6.trans gq);refine x (Qo O)<|Qb<|Qb<|xb (Q8 O O) (λhA=>?_) (λhA=>absurd (by rw[hq];exact yP) hA);refine x (Qo O)<|Qb<|Qb<|xl O<|QC (us:=[[.int .i64 2]]) O O (by decide) (by simp) ⟨rfl,rfl,U⟩ λg5 g6 hB g7 gr =>
   xl rfl<|xf<|(J8 (l:=[2]) (l':=[2]) (((hZ.ext gg).ext h7).ext hB) (gr.arr (L:=[]) (by simp) (n:=1) (cap:=1) (sz:=1) rfl (by omega) (Lr _))).mono ?_
  rintro g8 g9 ⟨hC,gs⟩;rw[decide_eq_true rfl] at hC;subst hC;have hD:=h7.trans (hB.trans gs);have hE:=(gc.ext he).ext hD;refine x (Qo O)<|Qb<|Qb<|xb (Q8 O O) (λhF=>?_) (λhF=>absurd (by rw[hq];exact QfP) hF);refine x (Qo O)<|Qb<|Qb<|x (Qq hE.arr O)<|xb (Q8 O O) (λhG=>?_) (λhG=>absurd O hG)
  refine x (Qo O)<|Qb<|Qb<|xig (g:=Zl) (i:=1) KG hE.arr O O (by simp) λka gt=>x (Q4 rfl)<|x (Qu (gt.fld 1 (.int .i64 p1.a.st) rfl) rfl)<|xb (Q8 rfl rfl) (λhH=>?_) (λhH=>Qk8 h2 hH);refine x (Qo O)<|Qb<|Qb<|xb (Q8 O O) (λhI=>?_) (λhI=>absurd O hI);refine x (Qo O)<|Qb<|Qb<|x (Zm O)<|x (Qo O)<|Qe ?_;exact ⟨(),Z,hD⟩
 rintro z g kb gu;exact Qn ⟨[.bool true],Z,O,(hn.trans T).trans gu⟩
theorem qF {w:World}(E:Kb w 4096):QJ prog 12 [] w λr w'=>r=.bool true∧Step [] w w':=by
 refine QJ.of_W func12 O ntmps12 results12 (by simp) ?_;refine Qc<|Qe<|QW (α:=Unit) [(0,4)] (λz=>[(0,.bool true)]) (λz w'=>Step [] w w') (by rfl) ?_ ?_
 ·refine Qx<|xl O<|xf<|(Qbg E).mono ?_;rintro J S ⟨rfl,G⟩;refine Qb<|xl O<|xf<|(QbO (E.ext G)).mono ?_;rintro r2 T ⟨rfl,H⟩;refine x (Qo O)<|Qe ?_;exact ⟨(),Z,G.trans H⟩
 rintro z g V I;exact Qn ⟨[.bool true],Z,O,I⟩
end Go.Proofs.YtdffckgdcegpaaaGreatDoor
namespace Go.Lg
open Go.ChangeShapes Go.WideShapes Go.RowKit
section
variable {H:Type} {enc:TypeId×Value→H} {P:Program}
theorem zM (hl:laidOutB P=true) {W W':World}(G:Step [] W W') {sp:Nat→Bool}:∀{ts:List TypeId}{vs:LV}{ds:List (DataW H)}{ps:List MemPlace},
  (ts.all λt=>P.readableRec t && decide (t<P.types.size))=true→DataW.TrodAll enc P W 0 (λ_=>true) true ts vs ds ps→(∀x∈ps,x.block<W.heap.size)→(∀x∈ps,sp x.block=true)→DataW.TrodAll enc P W' 0 sp true ts vs ds ps
 | [],vs,ds,ps,_,h,_,_=>by
  obtain ⟨rfl,rfl,rfl⟩:=trodAll_nil h;exact trodAll_mk0
 | t::ts,vs,ds,ps,E,h,I,hsp=>by
  obtain ⟨v,J,d,jl,a,b,rfl,rfl,rfl,h1,h2⟩:=trodAll_cons h;simp only[List.all_cons,Bool.and_eq_true,decide_eq_true_eq] at E;have hb:Below W.heap.size W W':=G.below;refine trodAll_cons_mk (WideElems.Trod_stays hl E.1.1 E.1.2 h1 (λx hx=>hb.same (I x (LF _ hx))) (λx hx=>hsp x (LF _ hx))) ?_
  exact zM hl G (by simpa using E.2) h2 (λx hx=>I x (LQ _ hx)) (λx hx=>hsp x (LQ _ hx))
theorem QfI {f:Func}{s:ChangeSpec}{apart fresh handsOn again:Bool}{W W':World}{args:Array Value}{ds gs:List (DataW H)}{before:List MemPlace}{tb:TypeId}
  (hl:laidOutB P=true) (hh:(f.params.toList.all λt=>P.readableRec t && decide (t<P.types.size))=true) (J:f.resultTypes=#[tb]) (S:P.underlying tb=some .bool) (T:s.vars=[])
  (E:s.fn H (ds++gs)={ results:=[.lit (.bool true)],args:=ds })
  (G:DataW.Whole enc P f.params.toList s.vars apart W args.toList ds gs before) (V:Step [] W W'):s.post enc P f apart fresh handsOn again W args (.bool true) W':=by
 have I:=G.lt;have hj:=G;obtain ⟨p,q,hA,Y,rfl,hz,hn⟩:=G;rw[T] at Y;obtain ⟨rfl,rfl⟩:=trodVars_none Y;rw[LH] at *;have hc:∀sp:Nat→Bool,(∀x∈p,sp x.block=true)→DataW.TrodAll enc P W' 0 sp true f.params.toList args.toList ds p:=λsp hsp=>zM hl V hh hA I hsp
 have he:∀(b:Nat) (sp:Nat→Bool) (hd:Bool),DataW.TrodAll enc P W' b sp hd f.resultTypes.toList ((Value.bool true).resultList f.resultTypes.size) [.lit (.bool true)] []:=λb sp hd=>by
  rw[J];exact trodAll_mk1 (shut_bool S true)
 have hb:Below W.heap.size W W':=V.below;have hf:∀sp:Nat→Bool,DataW.TrodVars enc P W' sp s.vars ([]:List (DataW H)) []:=λsp=>by rw[T];rfl
 have ho:(s.fn H ds).results=[.lit (.bool true)]:=by rw[E]
 have hq:(s.fn H ds).args=ds:=by rw[E]
 have hr:(s.fn H ds).vars=[]:=by rw[E]
 have hs:∀(j:Nat) (t:TypeId) (r:Value),f.resultTypes[j]?=some t→((Value.bool true).resultList f.resultTypes.size)[j]?=some r→Value.okWide P W' .any 0 t r:=ok_one J O (okWide_bool_mk S true);refine ⟨ds,[],p,[],p,[],hj,?_,?_,?_,?_,λ_=>⟨hs,[.lit (.bool true)]++ds,[],([]++p)++[],⟨[]++p,[],?_,?_,O,?_,?_⟩,?_⟩⟩
 ·rw[LH,ho];exact he _ _ _
 ·rw[LH,hq];exact hc _ (λx hx=>by simpa using I x hx)
 ·rw[LH,hr];exact hf _
 ·exact World.keptBut_mono (λ_ f=>f.elim) (hb.frame (λ_=>False))
 ·exact trodAll_append (hc _ (λ_ _=>O)) (he _ _ _)
 ·exact hf _
 ·intro b off hp;have hg:MemPlace.cell b off∈p:=by simpa using hp
  rw[hb.frozen (p:=⟨b,off,none⟩) (I _ hg)];exact hz b off hg
 ·intro ha;have:=hn ha;simpa using this
 intro x hx _;simpa using hx
end
end Go.Lg
namespace Go.Proofs.YtdffckgdcegpaaaGreatDoor
open Go.ChangeShapes Go.WideShapes Go.RowKit Go.Lg
theorem QbE:∀(l:LV),(∀v∈l,∃n:Nat,v=.int .u8 (n:Int)∧n<256)→∃ns:LN,l=bys ns∧ns.length=l.length∧∀n∈ns,n<256
 | [],_=>⟨[],O,O,by simp⟩
 | v::l,h=>by
  obtain ⟨n,rfl,E⟩:=h v Ln;obtain ⟨ns,h1,h2,h3⟩:=QbE l (λv G=>h v (Ll _ G));refine ⟨n::ns,by rw[h1];rfl,by simp[h2],λm hm=>?_⟩;rcases Lc.1 hm with rfl | hm
  ·exact E
  exact h3 m hm
theorem QjG {n:Int}(h:(Lit.int .u8 n).wf=true):∃m:Nat,n=m∧m<256:=by
 simp only[Lit.wf,Bool.and_eq_true,decide_eq_true_eq] at h;rw[show IntKind.u8.min=0 from rfl,show IntKind.u8.max=255 from rfl] at h;exact ⟨n.toNat,by omega,by omega⟩
open Go.Proofs.Tryz
theorem QjS {w:World}{b:Nat}{s:TypeId×Nat}(h:w.shape? b=some s):b<w.heap.size:=by
 unfold World.shape? at h;cases hb:w.heap[b]? with
 | none=>simp[hb] at h
 | some o=>exact (LC.1 hb).1
theorem QiB {P:Program}{w:World}{base:Nat}{a:Addr}{e:TypeId}{n:Nat}(h:w.has P .any base a e n):a.block<w.heap.size:=by
 obtain ⟨_,_,row,cells,h1,_⟩:=h;exact QjS h1
theorem QhI {P:Program}{w:World}{base:Nat}{t e:TypeId}{a:Addr}{n c:Nat}(E:P.underlying t=some (.slice e)) (h:Cell.okWide P w .any base t (.slice (some a) n c)):a.block<w.heap.size:=by
 simp only[Cell.okWide,Cell.ok,E] at h;exact QiB h.2.2
theorem QfF {α:Type}{p:Nat→α→Prop}:∀(n:Nat),(∀i,i<n→∃e,p i e)→∃l:List α,l.length=n∧∀i (h:i<l.length),p i (l[i]'h)
 | 0,_=>⟨[],O,λi h=>by simp at h⟩
 | n+1,h=>by
  obtain ⟨l,h1,h2⟩:=QfF n (λi hi=>h i (by omega));obtain ⟨e,he⟩:=h n (by omega);refine ⟨l++[e],by simp[h1],λi hi=>?_⟩;by_cases E:i<l.length
  ·rw[L2 E];exact h2 i E
  have:i=n:=by simp at hi;omega
  subst this;rw[Mw (by omega)];simpa[h1] using he
theorem UZ {α:Type}{f:α→Option Value}:∀{L:List α}{l:LV},L.mapM f=some l→l.length=L.length∧∀(i:Nat) (a:α),L[i]?=some a→f a=l[i]?
 | [],l,h=>by
  simp at h;subst h;exact ⟨O,λi a h=>by simp at h⟩
 | x::L,l,h=>by
  simp only[List.mapM_cons,Option.bind_eq_bind,Option.pure_def,Option.bind_eq_some_iff] at h;obtain ⟨v,E,I,h1,h2⟩:=h;cases h2
  obtain ⟨h3,G⟩:=UZ h1;refine ⟨by simp[h3],λi a hi=>?_⟩;cases i with
  | zero=>simp at hi;subst hi;simpa using E
  | succ i=>simpa using G i a (by simpa using hi)
def kT (P:Program) (k:IntKind):Nat→TypeId→Bool
 | 0,_=>false
 | m+1,t=>match P.underlying t with
  | some (.int k')=>k' == k
  | some (.array n e)=>kT P k m e && decide (0<P.cellsOf e) && decide (P.cellsOf t=n*P.cellsOf e)
  | some (.struct fs)=>(List.range (P.cellsOf t)).all λj=>fs.toList.any λf=>kT P k m f.type && decide (f.offset≤j∧j<f.offset+P.cellsOf f.type)
  | _=>false
theorem ja {cs:LV}{o n j:Nat}{c:Value}(h:cs[j]?=some c) (h1:o≤j) (h2:j<o+n):c∈(cs.drop o).take n:=by
 refine LT (i:=j - o) ?_;rw[LW,if_pos (by omega),MH,show o+(j - o)=j by omega];exact h
section
variable {H:Type} {enc:TypeId×Value→H} {P:Program} {W:World} {base b0:Nat} {sp:Nat→Bool} {held:Bool}
theorem K9 {k:IntKind}:∀(m:Nat) {t:TypeId}{cs:LV}{fuel:Nat}{x:DataW H×List MemPlace},kT P k m t=true→DataW.trod enc P W b0 sp held fuel t cs=some x→∀c∈cs,∃n,c=.int k n∧(Lit.int k n).wf=true
 | 0,_,_,_,_,h,_,_,_=>by cases h
 | m+1,t,cs,fuel,x,h,G,c,hc=>by
  unfold kT at h;obtain ⟨j,J,S⟩:=LE hc;have I:cs[j]?=some c:=by rw[Lt J,S]
  split at h
  ·rename_i k' hu;have hk:k'=k:=by simpa using h
   subst hk;obtain ⟨n,h1,_,h2⟩:=DataW.trod_int hu G;rw[h1] at hc;exact ⟨n,La.1 hc,h2⟩
  ·rename_i n e hu;simp only[Bool.and_eq_true,decide_eq_true_eq] at h;obtain ⟨⟨h1,h2⟩,h3⟩:=h;obtain ⟨xs,T,_,_,hl,V,hx⟩:=DataW.trod_array hu G;have Y:=Nat.div_add_mod j (P.cellsOf e);have hh:=Nat.mod_lt j h2;have hi:j / P.cellsOf e<n:=by
    refine (Nat.div_lt_iff_lt_mul h2).2 ?_;omega
   have E:=hx (j / P.cellsOf e) hi;rw[Lt (show j / P.cellsOf e<xs.length by omega)] at E;rw[Nat.mul_comm] at Y;exact K9 m h1 E c (ja I (by omega) (by omega))
  ·rename_i fs hu;obtain ⟨xs,T,_,_,hl,V,hx⟩:=DataW.trod_struct hu G;have h1:=Mx.1 h j (Np.2 (by omega));obtain ⟨f,ha,h2⟩:=Ml.1 h1;simp only[Bool.and_eq_true,decide_eq_true_eq] at h2;obtain ⟨i,hi,hb⟩:=LE ha;have he:i<fs.size:=by simpa using hi
   have hg:fs[i]?=some f:=by rw[Mo he,←hb];simp
   have E:=hx i f hg;rw[Lt (show i<xs.length by omega)] at E;exact K9 m h2.1 E c (ja I h2.2.1 h2.2.2)
  cases h
theorem Vi {k:IntKind}{m:Nat}{fs:Array Field}{cs:LV}{xs:List (DataW H×List MemPlace)}{I:Nat}(J:xs.length=fs.size)
  (hx:∀(i:Nat) (f:Field),fs[i]?=some f→DataW.trod enc P W b0 sp held I f.type ((cs.drop f.offset).take (P.cellsOf f.type))=xs[i]?) {i j:Nat} {f:Field} {c:Value} (E:fs[i]?=some f) (hk:kT P k m f.type=true) (h1:f.offset≤j) (h2:j<f.offset+P.cellsOf f.type) (hc:cs[j]?=some c) :
  ∃n,c=.int k n∧(Lit.int k n).wf=true:=by
 have G:=hx i f E;have hi:i<fs.size:=(LC.1 E).1;rw[Lt (show i<xs.length by omega)] at G;exact K9 m hk G c (ja hc h1 h2)
theorem Qex {c:Value}(h:∃n,c=.int .u8 n∧(Lit.int .u8 n).wf=true):∃n:Nat,c=.int .u8 (n:Int)∧n<256:=by
 obtain ⟨n,rfl,h1⟩:=h;obtain ⟨m,rfl,h2⟩:=QjG h1;exact ⟨m,O,h2⟩
end
theorem QlI {P:Program}{W:World}{base:Nat}{ts:List TypeId}{cs:Array Value}(h:∀(i:Nat) (v:Value),cs[i]?=some v→∃u,ts[i % ts.length]?=some u∧Cell.okWide P W .any base u v) (i:Nat) (t:TypeId) (v:Value) (E:cs[i]?=some v) (G:ts[i % ts.length]?=some t):Cell.okWide P W .any base t v:=by
 obtain ⟨u,hu,k⟩:=h i v E;rw[G] at hu;cases hu
 exact k
theorem QkF {H:Type}{enc:TypeId×Value→H}{P:Program}{W:World}{b0 m:Nat}{sp:Nat→Bool}{held:Bool}{fs:Array Field}{cs:LV}{xs:List (DataW H×List MemPlace)}
  (h:∀(i:Nat) (f:Field),fs[i]?=some f→DataW.trod enc P W b0 sp held m f.type ((cs.drop f.offset).take (P.cellsOf f.type))=xs[i]?) (i:Nat) {f:Field} {t o:Nat} {c:Value} (E:fs[i]?=some f) (G:f.type=t) (I:f.offset=o) (hc:P.cellsOf t=1) (J:(cs.drop o).take 1=[c]) (hi:i<xs.length) :
  DataW.trod enc P W b0 sp held m t [c]=some (xs[i]'hi):=by
 have e:=h i f E;rw[G,I,hc,J] at e;rw[e];simp[hi]
theorem Qlv {W:World}{l:List (String×DataW Unit)}{a b:String×DataW Unit}(hl:l=[a,b,("internal/strconv.uint64pow10",Lib.tabData .u64 Lib.pow10Tab)]) (h:laidMetH prog l W) (hp:(l.all λx=>x.2.handleName?.isNone)=true):Tb W:=by
 rw[Go.MakeChecks.laidMetH_plain _ _ _ hp,hl] at h;exact Lib.tabIs_of_head (n:=20) (g:=0) (by kernel_rfl) (t:=410) (by kernel_rfl) (by kernel_rfl) (e:=340) (by kernel_rfl) (by kernel_rfl) (by kernel_rfl) h.tail.tail
structure PwV where
 ns:LN
 ad:Option Addr
 n:Nat
 cp:Nat
 f0:Int
 f1:Int
 f2:Int
 bd:Int
def PwV.pl (l:PwV) (rs:List X4V):PlV:=⟨l.ns,.slice l.ad l.n l.cp,rs,l.f0,l.f1,l.f2,l.bd⟩
abbrev YT (l:PwV):LV:=bys l.ns++[.slice l.ad l.n l.cp,.int .i8 l.f0,.int .i8 l.f1,.int .i8 l.f2,.int .i8 l.bd]
structure PwA (w:World) (l:PwV):Prop where
 n:l.ns.length=147
 b:∀n∈l.ns,n<256
 f0:i8R l.f0
 f1:i8R l.f1
 f2:i8R l.f2
 bd:i8R l.bd
 r:l.n≤4→∃rs:List X4V,rs.length=l.n∧Zo [] w.heap (.slice l.ad l.n l.cp) l.n 4 (rs.flatMap Yw)
theorem PwA.pl {w w':World}{l:PwV}(h:PwA w l) (E:Step [] w w') (G:l.n≤4):∃rs,PlA [] w'.heap (l.pl rs)∧rs.length=l.n:=by
 obtain ⟨rs,h1,h2⟩:=h.r G;exact ⟨rs,⟨h.n,h.b,by show Zo _ _ _ rs.length 4 _;rw[h1];exact h2.ext E,h.f0,h.f1,h.f2,h.bd⟩,h1⟩
theorem QlC {l:PwV}(h:l.ns.length=147):(YT l)[147]?=some (.slice l.ad l.n l.cp):=by
 show (YT l)[147+0]?=_;rw[YT,Ms (by rw[YM];omega),YM,h,MC];rfl
theorem QcD {c:Value}(h:∃n,c=.int .i8 n∧(Lit.int .i8 n).wf=true):∃n:Int,c=.int .i8 n∧i8R n:=by
 obtain ⟨n,rfl,h⟩:=h;simp only[Lit.wf,Bool.and_eq_true,decide_eq_true_eq] at h;rw[show IntKind.i8.min=-128 from rfl,show IntKind.i8.max=127 from rfl] at h;exact ⟨n,O,by omega⟩
def Qjz (P:Program) (fs:Array Field) (n:Nat):Bool:=(List.range n).all λj=>fs.toList.any λf=>kT P .u8 5 f.type && decide (f.offset≤j∧j<f.offset+P.cellsOf f.type)
section
variable {H:Type} {enc:TypeId×Value→H} {P:Program} {W:World} {base b0:Nat} {sp:Nat→Bool} {held:Bool}
theorem QgQ {fs:Array Field}{n m:Nat}{cs:LV}{xs:List (DataW H×List MemPlace)}(h:Qjz P fs n=true) (E:xs.length=fs.size)
  (hx:∀(i:Nat) (f:Field),fs[i]?=some f→DataW.trod enc P W b0 sp held m f.type ((cs.drop f.offset).take (P.cellsOf f.type))=xs[i]?) {j:Nat} {c:Value} (G:j<n) (hc:cs[j]?=some c):∃k:Nat,c=.int .u8 (k:Int)∧k<256:=by
 have h1:=Mx.1 h j (Np.2 G);obtain ⟨f,I,h2⟩:=Ml.1 h1;simp only[Bool.and_eq_true,decide_eq_true_eq] at h2;obtain ⟨i,hi,J⟩:=LE I;have S:i<fs.size:=by simpa using hi
 have T:fs[i]?=some f:=by rw[Mo S,←J];simp
 exact Qex (Vi E hx T h2.1 h2.2.1 h2.2.2 hc)
theorem Qma {t e:TypeId}{c:Value}{fuel:Nat}{x:DataW H×List MemPlace}(I:P.underlying t=some (.slice e)) (he:kT P .u8 5 e=true) (hc:P.cellsOf e=4)
  (ha:Cell.okWide P W .any base t c) (hb:DataW.trod enc P W b0 sp held fuel t [c]=some x):∃a n cp,c=.slice a n cp∧(n≤12→∃u:List X4V,u.length=n∧Zo [] W.heap (.slice a n cp) n 4 (u.flatMap Yw)):=by
 rcases DataW.trod_slice I hb with ⟨E,_⟩ | ⟨a,len,cap,elems,rest,m,_,E,_,_,hl,_,hp,hf,_,_⟩
 ·simp at E;subst E;exact ⟨none,0,0,O,λ_=>⟨[],O,Zo.nil _ _ _⟩⟩
 simp at E;subst E;refine ⟨some a,len,cap,O,λhq=>?_⟩;have each:∀i,i<len→∃d:X4V,∀r v,(Yw d)[r]?=some v→W.cell? (a.add (i*4+r))=some v:=by
  intro i hi;have J:=hf i hi;rw[hc,Lt (show i<elems.length by omega)] at J;obtain ⟨cs,E,hg⟩:=MN.1 J;have hh:=K9 5 he hg;obtain ⟨ns,h1,h2,h3⟩:=QbE cs (λv G=>Qex (hh v G));unfold World.cells? at E;split at E
  ·have hs:cs.length=4:=by
    simpa using (UZ E).1
   refine ⟨⟨ns,by omega,h3⟩,λr v G=>?_⟩;have hv':cs[r]?=some v:=by rw[h1];exact G
   have hn:r<4:=by have:=(LX.1 hv').1;omega
   have S:=(UZ E).2 r r (by simp[hn]);rw[Lg.Addr.add_add,hv'] at S;exact S
  cases E
 obtain ⟨u,T,hu⟩:=QfF len each;refine ⟨u,T,?_⟩;have V:(u.flatMap Yw).length=u.length*4:=Go.Lg.Y0 Yw 4 UE u;refine ⟨by rw[V,T],by omega,.inr ⟨a,cap,rfl,by omega,λ_ _=>by simp,λ_ _=>QhI I ha,λj v G=>?_⟩⟩;have hj:j<u.length*4:=by
  rw[←V];exact (LX.1 G).1
 have hi:j / 4<u.length:=by omega
 have ho:=XN Yw 4 UE u (j / 4) hi;have Y:j=j / 4*4+j % 4:=by omega
 have h3:(Yw (u[j / 4]'hi))[j % 4]?=some v:=by
  rw[←ho,LW,if_pos (Nat.mod_lt _ (by omega)),MH,←Y];exact G
 rw[←Jg];have:=hu (j / 4) hi (j % 4) v h3;rw[←Y] at this;exact this
theorem Qd5 {v:Value}{d:DataW H}{ps:List MemPlace}{t tp te:Nat}{fs:Array Field}{T J S:Field}(hu:P.underlying t=some (.struct fs)) (ha:(P.cellTypes P.depth t).map (λts=>(ts.length,ts[147]?))=some (152,some tp)) (hc:P.cellsOf t=152)
  (g7:fs[7]?=some T) (V:fs[8]?=some J) (g9:fs[9]?=some S) (ho:T.type=tp) (o7:T.offset=147) (o8:J.offset=148) (o9:S.offset=151) (c7:P.cellsOf tp=1) (c8:P.cellsOf J.type=3) (c9:P.cellsOf S.type=1)
  (kb:Qjz P fs 147=true) (Y:kT P .i8 5 J.type=true) (k9:kT P .i8 5 S.type=true) (hp:P.underlying tp=some (.slice te)) (hq:kT P .u8 5 te=true) (hr:P.cellsOf te=4)
  (hb:Value.okWide P W .any base t v) (h:DataW.Trod enc P W b0 sp held t v d ps):∃l:PwV,v=.agg (YT l).toArray∧PwA W l:=by
 simp only[Value.okWide,hu] at hb;obtain ⟨cs,rfl,he,ts,hs,_,ht⟩:=hb;rw[hs] at ha;have hg:=Option.some.inj ha;have hv:ts.length=152:=congrArg Prod.fst hg;have hw:ts[147]?=some tp:=congrArg Prod.snd hg;rw[hc] at he;obtain ⟨l⟩:=cs;have hl:l.length=152:=he;obtain ⟨fuel,hf⟩:=h;obtain ⟨xs,m,_,_,_,G,hy⟩:=DataW.trod_struct hu hf
 have E:∀(i:Nat) (f:Field),fs[i]?=some f→DataW.trod enc P W b0 sp held m f.type ((l.drop f.offset).take (P.cellsOf f.type))=xs[i]?:=hy;have h2:7<fs.size:=(LC.1 g7).1;have g0:∀c∈l.take 147,∃n:Nat,c=.int .u8 (n:Int)∧n<256:=λc hm=>by
  obtain ⟨j,hj,hh⟩:=LE hm;have hz:j<147:=by simp at hj;omega
  have h0:l[j]?=some c:=by
   rw[MY] at hh;rw[Lt (by omega),hh]
  exact QgQ kb G E hz h0
 obtain ⟨ns,e1,e2,e3⟩:=QbE _ g0;have h1:ns.length=147:=by rw[e2];simp;omega
 have I:∀j,j<152→∃c,l[j]?=some c:=λj hj=>⟨l[j]'(by omega),Lt (by omega)⟩;obtain ⟨x1,q1⟩:=I 147 (by omega);obtain ⟨x2,q2⟩:=I 148 (by omega);obtain ⟨x3,q3⟩:=I 149 (by omega);obtain ⟨x4,q4⟩:=I 150 (by omega);obtain ⟨x5,q5⟩:=I 151 (by omega);have hn:l.drop 147=[x1,x2,x3,x4,x5]:=by
  apply M5;intro i;rw[MH]
  match i with
  | 0=>exact q1
  | 1=>exact q2
  | 2=>exact q3
  | 3=>exact q4
  | 4=>exact q5
  | i+5=>rw[MB (by omega)];rfl
 obtain ⟨y2,rfl,z2⟩:=QcD (Vi G E V Y (by omega) (by omega) q2);obtain ⟨y3,rfl,z3⟩:=QcD (Vi G E V Y (by omega) (by omega) q3);obtain ⟨y4,rfl,z4⟩:=QcD (Vi G E V Y (by omega) (by omega) q4);obtain ⟨y5,rfl,z5⟩:=QcD (Vi G E g9 k9 (by omega) (by omega) q5);have w7:=QlI ht 147 tp x1 (by simpa using q1) (by rw[hv];exact hw)
 have t7:=QkF (c:=x1) E 7 g7 ho o7 c7 (by rw[hn];rfl) (by omega);obtain ⟨a,n,cp,rfl,hP⟩:=Qma hp hq hr w7 t7;refine ⟨⟨ns,a,n,cp,y2,y3,y4,y5⟩,?_,h1,e3,z2,z3,z4,z5,λh3=>hP (by have h4:n≤4:=h3;omega)⟩;show Value.agg l.toArray=.agg (bys ns++_).toArray;rw[←e1,←hn,Mv]
end
set_option maxRecDepth 100000 in
theorem Qmb {H:Type}{enc:TypeId×Value→H}{W:World}{base b0:Nat}{sp:Nat→Bool}{held:Bool}{v:Value}{d:DataW H}{ps:List MemPlace}(E:Value.okWide prog W .any base 36 v) (h:DataW.Trod enc prog W b0 sp held 36 v d ps) :
  ∃l:PwV,v=.agg (YT l).toArray∧PwA W l :=
 Qd5 underlying36 (tp:=32) (by kernel_rfl) (by kernel_rfl) O O O O O O O (by kernel_rfl) (by kernel_rfl) (by kernel_rfl) (by kernel_rfl) (by kernel_rfl) (by kernel_rfl) underlying32 (by kernel_rfl) (by kernel_rfl) E h
theorem JX {L:LN}{w:World}{v:Value}{l:LI}(h:QL L w.heap v l) (x:Int) :
  QJ prog 21 [v,.int .i64 x] w λr w'=>r=.bool (decide (x∈l))∧w'=w:=by
 have I:=h.le;refine QJ.of_W func21 O ntmps21 results21 (by simp) ?_;refine Qc<|Lg.Qe<|Qf<|Qc<|Lg.Qe<|Qg<|Qy (α:=Nat) [(4,17)] (λk=>[(5,.int .i64 k)]) (λk w'=>w'=w∧k≤l.length∧(x∈l↔x∈l.drop k)) (λk=>l.length - k) (by rfl) 0 Z ⟨O,Lk _,by simp⟩ ?_;rintro k g w' ⟨rfl,hk,hm⟩;refine Qf<|Qc<|Lg.Qb<|Lg.Qb<|Lg.x (Qq h O)<|Lg.x (QA O O)<|xe<|QE rfl (λh9=>?_) (λh9=>?_)
 ·refine Qw<|Qc<|Lg.Qe<|Qn ⟨[.bool false],Z,?_,O⟩;rw[Lq (by omega)] at hm;simp[tup,hm]
 have G:k<l.length:=by omega
 have hd:=QY G;refine Qi<|Qf<|Qg<|Qc<|Lg.Qb<|Lg.Qb<|xii h O O G λJ H=>Lg.x (Qu H O)<|Lg.Qb<|Lg.x (Q8 O O)<|xe<|Q7 rfl (λE=>?_) (λE=>?_)
 ·refine Qc<|Lg.Qe<|Qn ⟨[.bool true],Z,?_,O⟩;have:x∈l:=by rw[hm,hd,E];exact Ln
  simp[tup,this]
 refine Qi<|Qx<|Lg.Qb<|Lg.QN O O<|Lg.Qe<|⟨k+1,by omega,Z,O,by omega,?_⟩;rw[hm,hd,Lc];exact ⟨λh=>h.resolve_left (λe=>E e.symm),.inr⟩
theorem Qg2 {w:World}{l:PwV}(h:PwA w l):QJ prog 13 [.agg (YT l).toArray] w λr w'=>r=.bool (decide (l.n≤4))∧Step [] w w':=by
 have E:=QlC h.n;refine QJ.of_W func13 O ntmps13 results13 (by simp) ?_;refine Qc<|xl O<|QT (us:=YT l) O λI J G S H=>Qe<|Qc<|x (Qa O)<|x (Qd H O E)<|x (V2 O)<|x (X4 O O)<|Qe<|Qn ⟨[_],Z,?_,G⟩;exact congrArg Value.bool (decide_eq_decide.2 (by omega))
theorem jS {L L':LN}{w:World}{v v':Value}{a b:LI}(h:QL L w.heap v a) (h':QL L' w.heap v' b):QJ prog 60 [v,v'] w λr w'=>r=.bool (mts a b)∧w'=w:=by
 have J:=h.le;refine QJ.of_W func60 O ntmps60 results60 (by simp) ?_;refine Qc<|Qe<|Qf<|Qc<|Qe<|Qg<|Qy (α:=Nat) [(4,17)] (λk=>[(5,.int .i64 k)]) (λk w'=>w'=w∧k≤a.length∧mts a b=mts (a.drop k) b) (λk=>a.length - k) (by rfl) 0 Z ⟨O,Lk _,O⟩ ?_;rintro k g w' ⟨rfl,hk,hm⟩;refine Qf<|Qc<|Qb<|Qb<|x (Qq h O)<|x (QA O O)<|xe<|QE rfl (λh9=>?_) (λh9=>?_)
 ·refine Qw ?_;rw[Lq (by omega)] at hm;refine Qc<|Qe ?_;exact Qn ⟨[.bool false],Z,congrArg Value.bool hm.symm,O⟩
 have E:k<a.length:=by omega
 have H:mts (a.drop k) b=(decide ((a[k]'E)∈b) || mts (a.drop (k+1)) b):=by rw[QY E];rfl
 refine Qi<|Qf<|Qg<|Qc<|Qb<|Qb<|Qb<|xii (i:=k) h O O E λS I=>x (Qu I O)<|xl O<|xf<|(JX h' (a[k]'E)).mono ?_;rintro r2 w' ⟨rfl,rfl⟩;refine xe<|Q7 rfl (λG=>?_) (λG=>?_)
 ·refine Qc<|Qe<|Qn ⟨[.bool true],Z,?_,O⟩;rw[hm,H,decide_eq_true G];rfl
 refine Qi<|Qx<|Qb<|QN O O<|Qe<|⟨k+1,by omega,Z,O,by omega,?_⟩;rw[hm,H,decide_eq_false G,Nx]
theorem K7 (co:List YH):∀(l:List YH) (i:Nat),(lmR co i l).length=l.length
 | [],_=>rfl
 | _::l,i=>by rw[lmR,LM,LM,K7 co l]
theorem Kc (kd:Int):∀(l:List (List (Int×Int))) (i:Nat),(lmP kd i l).length=l.length
 | [],_=>rfl
 | _::l,i=>by rw[lmP,LM,LM,Kc kd l]
theorem jV (co:List YH):∀(l:List YH) (i j:Nat) (h:j<l.length),(lmR co i l).take (j+1)=(lmR co i l).take j++[⟨1,((i+j:Nat):Int),ixs (λy:YH=>mts (l[j]'h).a.al y.a.al) 0 co⟩]
 | x::l,i,0,_=>by simp[lmR]
 | x::l,i,j+1,h=>by
  rw[lmR,L5,L5,jV co l (i+1) j (by simpa using h),show i+1+j=i+(j+1) by omega];rfl
theorem U1 (kd:Int):∀(l:List (List (Int×Int))) (i j:Nat) (h:j<l.length),(lmP kd i l).take (j+1)=(lmP kd i l).take j++[⟨kd,((i+j:Nat):Int),(l[j]'h).map (·.1)⟩]
 | x::l,i,0,_=>by simp[lmP]
 | x::l,i,j+1,h=>by
  rw[lmP,L5,L5,U1 kd l (i+1) j (by simpa using h),show i+1+j=i+(j+1) by omega];rfl
theorem QfU (q:YH→Bool):∀(l:List IV) (i:Nat),ixs q i (l.map IV.it)=ixs (λv:IV=>q v.it) i l
 | [],_=>rfl
 | v::l,i=>by rw[LK,ixs,ixs,QfU q l (i+1)]
theorem Qlz (c:CL) {i:Nat}(h:i<c.cel.rq.length) (h':i<c.rq.length):c.cel.rq[i]'h=(c.rq[i]'h').it:=Mb (f:=λx:IV=>x.it) (l:=c.rq) (i:=i) (h:=h)
theorem QkJ (c:CL) {i:Nat}(h:i<(c.cel.ex.map (·.ls)).length) (h':i<c.ex.length):(c.cel.ex.map (·.ls))[i]'h=(c.ex[i]'h').ls:=by
 rw[Mb];exact congrArg jo.ls (Mb (f:=λx:XV=>x.x) (l:=c.ex) (i:=i) (h:=by simpa using h'))
theorem QkS (c:CL) {i:Nat}(h:i<(c.cel.cs.map (·.ts)).length) (h':i<c.cs.length):(c.cel.cs.map (·.ts))[i]'h=(c.cs[i]'h').ts:=by
 rw[Mb];exact congrArg Xj.ts (Mb (f:=λx:KV=>x.k) (l:=c.cs) (i:=i) (h:=by simpa using h'))
set_option maxHeartbeats 8000000 in
theorem Jo {w:World}{c:CL}(h:Zx [] w.heap c) (hc:c.co.length≤8) (hn:c.rq.length+c.ex.length+c.cs.length≤1000) :
  QJ prog 15 [c.val] w λr w'=>Step [] w w'∧∃l:List MV,MvN w.heap.size w' r l∧l.map MV.m=lmd c.cel:=by
 have kg:∀q∈c.ex,q.ls.length≤1099511627776:=λq hq=>(h.ex.each q hq).le;have kh:∀q∈c.cs,q.ts.length≤1099511627776:=λq hq=>(h.cs.each q hq).le;refine QJ.of_W func15 O ntmps15 results15 (by simp) ?_;refine Qc<|xl O<|QT (us:=c.cells) O λb1 w1 gi ki gj=>Qe<|Qc<|Qe ?_;have g2:=gi.size;have h1:=h.ext gi
 refine QW (α:=Value×List MV) [(3,6),(13,53)] (λz=>[(3,z.1)]) (λz w'=>Step [] w1 w'∧MvN w1.heap.size w' z.1 z.2∧z.2.map MV.m=lmR c.cel.co 0 c.cel.rq) (by rfl) ?_ ?_
 ·refine Qc<|Qe<|Qg<|Qy (α:=Nat×Value×List MV) [(3,6),(13,53)] (λz=>[(3,z.2.1),(4,.int .i64 z.1)]) (λz w'=>z.1≤c.rq.length∧Step [] w1 w'∧MvN w1.heap.size w' z.2.1 z.2.2∧z.2.2.map MV.m=(lmR c.cel.co 0 c.cel.rq).take z.1) (λz=>c.rq.length - z.1) (by rfl) (0,Za,[]) ⟨O,O,U⟩
   ⟨Lk _,Step.refl _ _,ZQ.nil,O⟩ ?_
  rintro ⟨i,v,lm⟩ g w2 ⟨hi,V,J,Y⟩;simp only[] at hi J Y;have h2:=h1.ext V;have hp:=gj.ext V;have hC:=V.size;have hD:c.cel.rq.length=c.rq.length:=Lb ..;have go:lm.length≤c.rq.length:=by
   have e:=congrArg List.length Y;rw[Lb,Lx] at e;omega
  refine Qf<|Qc<|Qb<|x (Qa O)<|x (Qd hp O O)<|x (Qq h2.rq.arr O)<|x (QA O O)<|xe<|QE O (λhr=>?_) (λhr=>?_)
  ·refine Qw ?_;have hE:c.rq.length≤i:=by have hF:¬(i:Int)<(c.rq.length:Int):=hr;omega
   rw[Lm (by rw[K7,hD];exact hE)] at Y;exact ⟨(v,lm),Z,V,J,Y⟩
  have G:i<c.rq.length:=by have hF:(i:Int)<(c.rq.length:Int):=hr;omega
  have hg:=jV c.cel.co c.cel.rq 0 i (by omega);have g3:c.cel.rq[i]'(by omega)=(c.rq[i]'G).it:=Qlz c _ G;rw[g3,show c.cel.co=c.co.map IV.it from rfl,QfU,LP] at hg;have ho:=Lh G;refine Zb (c.rq[i]'G) λq hq=>?_;rw[hq] at hg ho
  refine Qi<|Qf<|Qg<|Qc<|Qb<|x (QF ⟨O,O,U⟩)<|xl O<|Qv (us:=[.int .i64 0,.int .i64 0,nS]) O λH w3 hG hs hH=>xl O<|Qr (us:=[.int .i64 1,.int .i64 i,nS]) hH O O O O ⟨O,O,O,U⟩ λw4 hI h6=>xe ?_;have hh:Step [] w2 w4:=hG.then1 hI hs;have hJ:=hh.size;have hK:=h6.lt;have h4:=h2.ext hh;have hM:=hp.ext hh;have gp:=hp.lt
  have hN:b1∉[H]:=by simp only[List.mem_singleton];omega
  have g4:∀b∈[H],b∈([]:LN)∨w2.heap.size≤b:=λb hb=>.inr (by rw[La.1 hb];exact hs);have g5:Zx [H] w4.heap c:=(h2.up g4).ext hh
  refine Qf<|Qc<|Qe<|Qg<|Qy (α:=Nat×Value) [(6,6),(22,49)] (λz=>[(6,.int .i64 z.1)]) (λz w'=>z.1≤c.co.length∧Step [H] w4 w'∧Q3 w'.heap H 39 [.int .i64 1,.int .i64 i,z.2]∧Qt 3 w4.heap.size w' z.2 (ixs (λy:IV=>mts q.p.a.al y.p.a.al) 0 (c.co.take z.1))) (λz=>c.co.length - z.1) (by rfl) (0,Za) Z
   ⟨Lk _,Step.refl _ _,h6,QO _ _ _ _⟩ ?_
  rintro ⟨k,vl⟩ g I ⟨hk,S,hj,E⟩;simp only[] at hk hj E;have h5:=g5.st S;have h0:=hM.step S hN;have gq:=S.size;have h9:=Va (λy:IV=>mts q.p.a.al y.p.a.al) (c.co.take k) 0;rw[Lx] at h9;have hA:=Qk E;have hB:H∉ob vl:=QM E hK;refine Qf<|Qc<|Qb<|x (Qa O)<|x (Qd h0 O O)<|x (Qq h5.co.arr O)<|x (QA O O)<|xe<|QE O (λht=>?_) (λht=>?_)
  ·refine Qw ?_;have hO:c.co.length≤k:=by have hP:¬(k:Int)<(c.co.length:Int):=ht;omega
   rw[Lm hO] at E h9;have g6:ixs (λv:IV=>mts q.it.a.al v.it.a.al) 0 c.co=ixs (λy:IV=>mts q.p.a.al y.p.a.al) 0 c.co:=rfl;rw[g6] at hg;refine Zb (ixs (λy:IV=>mts q.p.a.al y.p.a.al) 0 c.co) λcs hQ=>?_;rw[hQ] at E h9 hg;have hu:Step [] w2 I:=hh.then1 S hs;have hR:=J.ext hu
   refine Qx<|Qb<|x (Qs hj O O)<|xl O<|QC (us:=[Zi ⟨1,i,vl,cs⟩]) O O (by decide) (by exact (by decide:1*3≤1000000)) ⟨O,O,U⟩ λgr w6 ha gs hS=>?_;have gt:=ha.size;refine xl O<|QU (news:=Zi ⟨1,i,vl,cs⟩) (L:=[]) (Qm hR.own ha) O O O (hS.at (by simp)) (Uw (q:=⟨1,i,vl,cs⟩) (QD E)) (by omega) (by omega) λv7 w7 hT he hU=>Qe ?_;have hV:=Qk J.own
   have hW:MvN w1.heap.size w7 v7 (lm++[⟨1,i,vl,cs⟩]):=ZQ.app (N:=w4.heap.size) J (hu.trans ha) (Qm E ha) (by show cs.length≤_;omega) hJ hC hT he hU;refine Qx<|Qb<|QN O O<|Qe<|⟨(i+1,v7,lm++[⟨1,i,vl,cs⟩]),by simp only[];omega,⟨O,O,U⟩,G,((V.trans hu).trans ha).then he (λb hb=>.inr (hV b hb).1),hW,?_⟩;simp only[];rw[Ls,Y];exact hg.symm
  have T:k<c.co.length:=by have hP:(k:Int)<(c.co.length:Int):=ht;omega
  have gu:=Lh T;have hv:=U5 (λy:IV=>mts q.p.a.al y.p.a.al) T;refine Zb (c.co[k]'T) λy hy=>?_;rw[hy] at gu hv;have g7:=(h5.rq.each q ho).up (L':=[]) (by simp);have g8:=(h5.co.each y gu).up (L':=[]) (by simp);have h7:=h5.up (L':=[]) (by simp);have h3:Step [] I { I with drawn:=I.drawn+1 }:=Step.drew _ _
  refine Qi<|Qf<|Qg<|Qf<|QS (Step [] I) [(0,true),(1,true),(2,true),(3,true),(4,true),(5,true),(6,true),(7,true),(8,true),(9,true),(10,true),(11,true),(12,true),(13,true),(14,false)] mixed (by rfl) (by kernel_rfl) h3 ?_;refine p (λ_=>Qa O)<|pq (λ_ hc=>Qd (h0.ext hc) O O)<|p (λ_=>Ql)<|Lg.pig (g:=Zf) (i:=i) O YK h7.rq.arr O O G λkj gv=>?_;rw[hq] at gv
  refine p (λ_=>Q4 O)<|p (λ_=>Q4 O)<|pq (λ_ hc=>Qu (((gv.from 1).fld 0 q.p.va O).ext hc) O)<|p (λ_=>Qa O)<|pq (λ_ hc=>Qd (h0.ext hc) O O)<|p (λ_=>Ql)<|Lg.pig (g:=Zf) (i:=k) O YK h7.co.arr O O T λkk gw=>?_;rw[hy] at gw;refine p (λ_=>Q4 O)<|p (λ_=>Q4 O)<|pq (λ_ hc=>Qu (((gw.from 1).fld 0 y.p.va O).ext hc) O)<|pk<|xf<|(jS (g7.al.ext h3) (g8.al.ext h3)).mono ?_;rintro kn w6 ⟨rfl,rfl⟩
  refine ⟨h3,?_⟩;refine pe<|Q2 O (λgk=>?_) (λgk=>?_)
  rotate_left
  ·rw[if_neg (by rw[gk];decide),LH] at hv;refine Qi<|Qx<|Qb<|QN O O<|Qe ?_;exact ⟨(k+1,vl),by simp only[];omega,Z,T,S.trans h3.any,hj.ext h3,by simp only[];rw[hv];exact Qm E h3⟩
  rw[if_pos gk] at hv;refine Qx<|x (Qa O)<|x (Qd (hj.ext h3) O O)<|Qb<|xl O<|QC (us:=[[.int .i64 k]]) O O (by decide) (by simp) ⟨rfl,rfl,U⟩ λgx w7 he gy hX=>?_;have hf:=h3.trans he;have gz:=hf.size;refine xl O<|QU (news:=[.int .i64 k]) (L:=[]) (Qm E hf) O O O (hX.at (by simp)) (by simp[Value.oneCell']) (by omega) (by omega) λv8 w8 hw hz g0=>?_
  refine x (Qa O)<|xl O<|QG (j:=2) (u:=v8) ((hj.ext hf).step hz hB) O O (by simp) (QD hw) λw9 h8 hY=>xe ?_;refine Qx<|Qb<|QN O O<|Qe<|⟨(k+1,v8),by simp only[];omega,Z,T,((S.trans hf.any).then hz (λb hb=>.inr (hA b hb).1)).trans' h8,hY,?_⟩;simp only[];rw[hv];exact Qt.snoc (Qj hw h8 (λb hb=>by have:=(Qk hw b hb).1;simp only[List.mem_singleton];omega))
 rintro ⟨v0,gl⟩ g g9 ⟨gm,hZ,ga⟩;simp only[] at hZ ga;refine QW (α:=Value×List MV) [(3,3),(7,9),(54,92)] (λz=>[(3,z.1)]) (λz w'=>Step [] w1 w'∧MvN w1.heap.size w' z.1 z.2∧z.2.map MV.m=lmR c.cel.co 0 c.cel.rq++lmP 2 0 (c.cel.ex.map (·.ls))) (by rfl) ?_ ?_
 ·refine Qc<|Qe<|Qg<|Qy (α:=Nat×Value×List MV) [(3,3),(7,9),(54,92)] (λz=>[(3,z.2.1),(7,.int .i64 z.1)]) (λz w'=>z.1≤c.ex.length∧Step [] w1 w'∧MvN w1.heap.size w' z.2.1 z.2.2∧z.2.2.map MV.m=lmR c.cel.co 0 c.cel.rq++(lmP 2 0 (c.cel.ex.map (·.ls))).take z.1) (λz=>c.ex.length - z.1) (by rfl) (0,v0,gl) ⟨O,O,U⟩
   ⟨Lk _,gm,hZ,by simp only[];rw[M4,LH];exact ga⟩ ?_
  rintro ⟨i,v,lm⟩ g w2 ⟨hi,V,J,Y⟩;simp only[] at hi J Y;have h2:=h1.ext V;have hp:=gj.ext V;have hC:=V.size;have hD:(c.cel.ex.map (·.ls)).length=c.ex.length:=by rw[Lb];exact Lb ..
  have go:lm.length≤c.rq.length+c.ex.length:=by
   have e:=congrArg List.length Y;rw[Lb,Li,Lx,K7,show c.cel.rq.length=c.rq.length from Lb ..] at e;omega
  refine Qf<|Qc<|Qb<|x (Qa O)<|x (Qd hp O O)<|x (Qq h2.ex.arr O)<|x (QA O O)<|xe<|QE O (λhr=>?_) (λhr=>?_)
  ·refine Qw ?_;have hE:c.ex.length≤i:=by have hF:¬(i:Int)<(c.ex.length:Int):=hr;omega
   rw[Lm (by rw[Kc,hD];exact hE)] at Y;exact ⟨(v,lm),Z,V,J,Y⟩
  have G:i<c.ex.length:=by have hF:(i:Int)<(c.ex.length:Int):=hr;omega
  have hg:=U1 2 (c.cel.ex.map (·.ls)) 0 i (by omega);rw[QkJ c (by omega) G,LP] at hg;have ho:=Lh G;refine Zb (c.ex[i]'G) λq hq=>?_;rw[hq] at hg ho;refine Qi<|Qf<|Qg<|Qc<|Qb<|x (QF ⟨O,O,U⟩)<|xl O<|Qv (us:=[.int .i64 0,.int .i64 0,nS]) O λH w3 hG hs hH=>xl O<|Qr (us:=[.int .i64 2,.int .i64 i,nS]) hH O O O O ⟨O,O,O,U⟩ λw4 hI h6=>xe ?_
  have hh:Step [] w2 w4:=hG.then1 hI hs;have hJ:=hh.size;have hK:=h6.lt;have hM:=hp.ext hh;have gp:=hp.lt;have hN:b1∉[H]:=by simp only[List.mem_singleton];omega
  have ka:=(h2.ex.each q ho).le;refine Qf<|Qc<|Qe<|Qg<|Qy (α:=Nat×Value) [(9,9),(63,88)] (λz=>[(9,.int .i64 z.1)]) (λz w'=>z.1≤q.ls.length∧Step [H] w4 w'∧Q3 w'.heap H 39 [.int .i64 2,.int .i64 i,z.2]∧Qt 3 w4.heap.size w' z.2 ((q.ls.take z.1).map (·.1))) (λz=>q.ls.length - z.1) (by rfl) (0,Za) Z
   ⟨Lk _,Step.refl _ _,h6,QO _ _ _ _⟩ ?_
  rintro ⟨k,vl⟩ g I ⟨hk,S,hj,E⟩;simp only[] at hk hj E;have hA:=Qk E;have upX:∀b∈H::ob vl,b∈([]:LN)∨w2.heap.size≤b:=λb hb=>.inr (by
   rcases Lc.1 hb with e | e
   ·rw[e];exact hs
   have:=(hA b e).1;omega)
  have gb:Zx (H::ob vl) I.heap c:=((h2.up upX).ext hh).st (S.mono (by simp));have h7:Zx [] I.heap c:=gb.up (by simp);have gc:Zx (ob vl) I.heap c:=gb.up (λb hb=>.inl (Ll _ hb));have h0:=hM.step S hN;have gq:=S.size;have hB:H∉ob vl:=QM E hK;have gn:b1∉ob vl:=QM E (by omega)
  refine Qf<|Qc<|Qb<|x (Qa O)<|x (Qd h0 O O)<|Qb<|xig XX h7.ex.arr O O G λkb ge=>?_;rw[hq] at ge;refine x (Q4 O)<|x (Qu (ge.fld 1 q.v O) O)<|x (Qq (h7.ex.each q ho) O)<|x (QA O O)<|xe<|QE O (λht=>?_) (λht=>?_)
  ·refine Qw ?_;have hO:q.ls.length≤k:=by have hP:¬(k:Int)<(q.ls.length:Int):=ht;omega
   rw[Lm hO] at E;have h9:(q.ls.map (·.1)).length=q.ls.length:=Lb ..;refine Zb (q.ls.map (·.1)) λcs hQ=>?_;rw[hQ] at E h9 hg;have hu:Step [] w2 I:=hh.then1 S hs;have hR:=J.ext hu;refine Qx<|Qb<|x (Qs hj O O)<|xl O<|QC (us:=[Zi ⟨2,i,vl,cs⟩]) O O (by decide) (by exact (by decide:1*3≤1000000)) ⟨O,O,U⟩ λgr w6 ha gs hS=>?_
   have gt:=ha.size;refine xl O<|QU (news:=Zi ⟨2,i,vl,cs⟩) (L:=[]) (Qm hR.own ha) O O O (hS.at (by simp)) (Uw (q:=⟨2,i,vl,cs⟩) (QD E)) (by omega) (by omega) λv7 w7 hT he hU=>Qe ?_;have hV:=Qk J.own;have hW:MvN w1.heap.size w7 v7 (lm++[⟨2,i,vl,cs⟩]):=ZQ.app (N:=w4.heap.size) J (hu.trans ha) (Qm E ha) (by show cs.length≤_;omega) hJ hC hT he hU
   refine Qx<|Qb<|QN O O<|Qe<|⟨(i+1,v7,lm++[⟨2,i,vl,cs⟩]),by simp only[];omega,⟨O,O,U⟩,G,((V.trans hu).trans ha).then he (λb hb=>.inr (hV b hb).1),hW,?_⟩;simp only[];rw[Ls,Y,hg,LA];rfl
  have T:k<q.ls.length:=by have hP:(k:Int)<(q.ls.length:Int):=ht;omega
  have hv:(q.ls.take (k+1)).map (·.1)=(q.ls.take k).map (·.1)++[(q.ls[k]'T).1]:=by rw[Le T,Ls];rfl
  have kc:((q.ls.take k).map (·.1)).length=k:=by rw[Lb,Lx];omega
  refine Zb (q.ls[k]'T) λy hy=>?_;rw[hy] at hv;refine Qi<|Qf<|Qg<|QS (Step (ob vl) I) [(0,true),(1,true),(2,true),(3,true),(4,true),(5,true),(6,true),(7,true),(8,true),(9,true),(10,true),(11,true),(12,false),(13,false),(14,true),(15,false)] mixed (by rfl) (by kernel_rfl) (Step.drew _ _) ?_
  refine p (λ_=>Qa O)<|pq (λ_ hc=>Qd (hj.step hc hB) O O)<|p (λ_=>Qa O)<|pq (λ_ hc=>Qd (h0.step hc gn) O O)<|p (λ_=>Ql)<|Lg.pig (i:=i) O XX gc.ex.arr O O G λke gg=>?_;rw[hq] at gg;refine p (λ_=>Q4 O)<|pq (λ_ hc=>Qu ((gg.fld 1 q.v O).st hc) O)<|p (λ_=>Ql)<|Lg.pig (i:=k) O Yr (gc.ex.each q ho) O O T λkf gh=>?_;rw[hy] at gh
  refine p (λ_=>Q4 O)<|pq (λ_ hc=>Qu ((gh.fld 0 (.int .i64 y.1) O).st hc) O)<|pk<|QC (us:=[[.int .i64 y.1]]) O O (by decide) (by simp) ⟨rfl,rfl,U⟩ λgx w7 he gy hX=>⟨((Step.drew _ _).trans he),?_⟩;have hf:Step [] I w7:=(Step.drew _ _).trans he;have gz:=hf.size
  refine pk<|QU (news:=[.int .i64 y.1]) (L:=[]) (Qm E hf) O O O (hX.at (by simp)) (by simp[Value.oneCell']) (by omega) (by omega) λv8 w8 hw hz g0=>⟨(hf.any (L:=ob vl)).trans' hz,?_⟩;refine p (λ_=>Qa O)<|pkl (hl:=by kernel_rfl)<|QG (j:=2) (u:=v8) ((hj.ext hf).step hz hB) O O (by simp) (QD hw) λw9 h8 hY=>pe ?_
  refine Qx<|Qb<|QN O O<|Qe<|⟨(k+1,v8),by simp only[];omega,Z,T,((S.trans hf).then hz (λb hb=>.inr (hA b hb).1)).trans' h8,hY,?_⟩;simp only[];rw[hv];exact Qt.snoc (Qj hw h8 (λb hb=>by have:=(Qk hw b hb).1;simp only[List.mem_singleton];omega))
 rintro ⟨v0,gl⟩ g g9 ⟨gm,hZ,ga⟩;simp only[] at hZ ga
 refine Qf<|Qc<|Qe<|Qg<|Qy (α:=Nat×Value×List MV) [(3,3),(10,12),(93,131)] (λz=>[(3,z.2.1),(10,.int .i64 z.1)]) (λz w'=>z.1≤c.cs.length∧Step [] w1 w'∧MvN w1.heap.size w' z.2.1 z.2.2∧z.2.2.map MV.m=(lmR c.cel.co 0 c.cel.rq++lmP 2 0 (c.cel.ex.map (·.ls)))++(lmP 3 0 (c.cel.cs.map (·.ts))).take z.1) (λz=>c.cs.length - z.1) (by rfl) (0,v0,gl) ⟨O,O,U⟩
  ⟨Lk _,gm,hZ,by simp only[];rw[M4,LH];exact ga⟩ ?_
 rintro ⟨i,v,lm⟩ g w2 ⟨hi,V,J,Y⟩;simp only[] at hi J Y;have h2:=h1.ext V;have hp:=gj.ext V;have hC:=V.size;have hD:(c.cel.cs.map (·.ts)).length=c.cs.length:=by rw[Lb];exact Lb ..
 have go:lm.length≤c.rq.length+c.ex.length+c.cs.length:=by
  have e:=congrArg List.length Y;rw[Lb,Li,Lx,Li,K7,Kc,Lb,show c.cel.ex.length=c.ex.length from Lb ..,show c.cel.rq.length=c.rq.length from Lb ..] at e;omega
 refine Qf<|Qc<|Qb<|x (Qa O)<|x (Qd hp O O)<|x (Qq h2.cs.arr O)<|x (QA O O)<|xe<|QE rfl (λhr=>?_) (λhr=>?_)
 ·refine Qw ?_;have hE:c.cs.length≤i:=by have hF:¬(i:Int)<(c.cs.length:Int):=hr;omega
  rw[Lm (by rw[Kc,hD];exact hE)] at Y;refine Qc<|Qb<|Qe<|Qn ⟨[v],Z,gi.trans V,lm,⟨Zg J.own g2,λq hq L hL=>J.each q hq L (λb hb=>(hL b hb).imp (λh=>by omega) id)⟩,?_⟩;rw[Y,LA];rfl
 have G:i<c.cs.length:=by have hF:(i:Int)<(c.cs.length:Int):=hr;omega
 have hg:=U1 3 (c.cel.cs.map (·.ts)) 0 i (by omega);rw[QkS c (by omega) G,LP] at hg;have ho:=Lh G;refine Zb (c.cs[i]'G) λq hq=>?_;rw[hq] at hg ho;refine Qi<|Qf<|Qg<|Qc<|Qb<|x (QF ⟨O,O,U⟩)<|xl O<|Qv (us:=[.int .i64 0,.int .i64 0,nS]) O λH w3 hG hs hH=>xl O<|Qr (us:=[.int .i64 3,.int .i64 i,nS]) hH O O O O ⟨O,O,O,U⟩ λw4 hI h6=>xe ?_
 have hh:Step [] w2 w4:=hG.then1 hI hs;have hJ:=hh.size;have hK:=h6.lt;have hM:=hp.ext hh;have gp:=hp.lt;have hN:b1∉[H]:=by simp only[List.mem_singleton];omega
 have ka:=(h2.cs.each q ho).le;refine Qf<|Qc<|Qe<|Qg<|Qy (α:=Nat×Value) [(12,12),(102,127)] (λz=>[(12,.int .i64 z.1)]) (λz w'=>z.1≤q.ts.length∧Step [H] w4 w'∧Q3 w'.heap H 39 [.int .i64 3,.int .i64 i,z.2]∧Qt 3 w4.heap.size w' z.2 ((q.ts.take z.1).map (·.1))) (λz=>q.ts.length - z.1) (by rfl) (0,Za) Z
  ⟨Lk _,Step.refl _ _,h6,QO _ _ _ _⟩ ?_
 rintro ⟨k,vl⟩ g I ⟨hk,S,hj,E⟩;simp only[] at hk hj E;have hA:=Qk E;have upX:∀b∈H::ob vl,b∈([]:LN)∨w2.heap.size≤b:=λb hb=>.inr (by
  rcases Lc.1 hb with e | e
  ·rw[e];exact hs
  have:=(hA b e).1;omega)
 have gb:Zx (H::ob vl) I.heap c:=((h2.up upX).ext hh).st (S.mono (by simp));have h7:Zx [] I.heap c:=gb.up (by simp);have gc:Zx (ob vl) I.heap c:=gb.up (λb hb=>.inl (Ll _ hb));have h0:=hM.step S hN;have gq:=S.size;have hB:H∉ob vl:=QM E hK;have gn:b1∉ob vl:=QM E (by omega)
 refine Qf<|Qc<|Qb<|x (Qa O)<|x (Qd h0 O O)<|Qb<|xig Xq h7.cs.arr O O G λkb ge=>?_;rw[hq] at ge;refine x (Q4 O)<|x (Qu (ge.fld 1 q.v O) O)<|x (Qq (h7.cs.each q ho) O)<|x (QA O O)<|xe<|QE rfl (λht=>?_) (λht=>?_)
 ·refine Qw ?_;have hO:q.ts.length≤k:=by have hP:¬(k:Int)<(q.ts.length:Int):=ht;omega
  rw[Lm hO] at E;have h9:(q.ts.map (·.1)).length=q.ts.length:=Lb ..;refine Zb (q.ts.map (·.1)) λcs hQ=>?_;rw[hQ] at E h9 hg;have hu:Step [] w2 I:=hh.then1 S hs;have hR:=J.ext hu;refine Qx<|Qb<|x (Qs hj O O)<|xl O<|QC (us:=[Zi ⟨3,i,vl,cs⟩]) O O (by decide) (by exact (by decide:1*3≤1000000)) ⟨O,O,U⟩ λgr w6 ha gs hS=>?_
  have gt:=ha.size;refine xl O<|QU (news:=Zi ⟨3,i,vl,cs⟩) (L:=[]) (Qm hR.own ha) O O O (hS.at (by simp)) (Uw (q:=⟨3,i,vl,cs⟩) (QD E)) (by omega) (by omega) λv7 w7 hT he hU=>Qe ?_;have hV:=Qk J.own;have hW:MvN w1.heap.size w7 v7 (lm++[⟨3,i,vl,cs⟩]):=ZQ.app (N:=w4.heap.size) J (hu.trans ha) (Qm E ha) (by show cs.length≤_;omega) hJ hC hT he hU
  refine Qx<|Qb<|QN O O<|Qe<|⟨(i+1,v7,lm++[⟨3,i,vl,cs⟩]),by simp only[];omega,⟨O,O,U⟩,G,((V.trans hu).trans ha).then he (λb hb=>.inr (hV b hb).1),hW,?_⟩;simp only[];rw[Ls,Y,hg,LA];rfl
 have T:k<q.ts.length:=by have hP:(k:Int)<(q.ts.length:Int):=ht;omega
 have hv:(q.ts.take (k+1)).map (·.1)=(q.ts.take k).map (·.1)++[(q.ts[k]'T).1]:=by rw[Le T,Ls];rfl
 have kc:((q.ts.take k).map (·.1)).length=k:=by rw[Lb,Lx];omega
 refine Zb (q.ts[k]'T) λy hy=>?_;rw[hy] at hv;refine Qi<|Qf<|Qg<|QS (Step (ob vl) I) [(0,true),(1,true),(2,true),(3,true),(4,true),(5,true),(6,true),(7,true),(8,true),(9,true),(10,true),(11,true),(12,false),(13,false),(14,true),(15,false)] mixed (by rfl) (by kernel_rfl) (Step.drew _ _) ?_
 refine p (λ_=>Qa O)<|pq (λ_ hc=>Qd (hj.step hc hB) O O)<|p (λ_=>Qa O)<|pq (λ_ hc=>Qd (h0.step hc gn) O O)<|p (λ_=>Ql)<|Lg.pig (i:=i) O Xq gc.cs.arr O O G λke gg=>?_;rw[hq] at gg;refine p (λ_=>Q4 O)<|pq (λ_ hc=>Qu ((gg.fld 1 q.v O).st hc) O)<|p (λ_=>Ql)<|Lg.pig (i:=k) O Yr (gc.cs.each q ho) O O T λkf gh=>?_;rw[hy] at gh
 refine p (λ_=>Q4 O)<|pq (λ_ hc=>Qu ((gh.fld 0 (.int .i64 y.1) O).st hc) O)<|pk<|QC (us:=[[.int .i64 y.1]]) O O (by decide) (by simp) ⟨rfl,rfl,U⟩ λgx w7 he gy hX=>⟨((Step.drew _ _).trans he),?_⟩;have hf:Step [] I w7:=(Step.drew _ _).trans he;have gz:=hf.size
 refine pk<|QU (news:=[.int .i64 y.1]) (L:=[]) (Qm E hf) O O O (hX.at (by simp)) (by simp[Value.oneCell']) (by omega) (by omega) λv8 w8 hw hz g0=>⟨(hf.any (L:=ob vl)).trans' hz,?_⟩;refine p (λ_=>Qa O)<|pkl (hl:=by kernel_rfl)<|QG (j:=2) (u:=v8) ((hj.ext hf).step hz hB) O O (by simp) (QD hw) λw9 h8 hY=>pe ?_
 refine Qx<|Qb<|QN O O<|Qe<|⟨(k+1,v8),by simp only[];omega,Z,T,((S.trans hf).then hz (λb hb=>.inr (hA b hb).1)).trans' h8,hY,?_⟩;simp only[];rw[hv];exact Qt.snoc (Qj hw h8 (λb hb=>by have:=(Qk hw b hb).1;simp only[List.mem_singleton];omega))
def rmT (ms:List KL):Nat→LI
 | 0=>[]
 | n+1=>rmT ms n++(if (ms.any λm=>decide ((n:Int)∈m.co))=true then [] else [(n:Int)])
theorem yj (ms:List KL) (x:Int):∀n,x∈rmT ms n↔(0≤x∧x<(n:Int))∧∀m∈ms,x∉m.co
 | 0=>by simp[rmT];intros;omega
 | n+1=>by
  rw[rmT,Lj,yj ms x n];split
  ·rename_i h;obtain ⟨m,hm,h1⟩:=Ml.1 h;have h2:=of_decide_eq_true h1;constructor
   ·rintro (⟨h3,E⟩ | h3)
    ·exact ⟨by omega,E⟩
    cases h3
   rintro ⟨h3,E⟩;refine .inl ⟨?_,E⟩;have:x≠(n:Int):=λe=>E m hm (by rw[e];exact h2);omega
  rename_i h;have h1:∀m∈ms,(n:Int)∉m.co:=λm hm h2=>h (Ml.2 ⟨m,hm,decide_eq_true h2⟩);constructor
  ·rintro (⟨h3,E⟩ | h3)
   ·exact ⟨by omega,E⟩
   rw[La.1 h3];exact ⟨by omega,h1⟩
  rintro ⟨h3,E⟩;by_cases e:x=(n:Int)
  ·exact .inr (La.2 e)
  exact .inl ⟨by omega,E⟩
theorem yk (ms:List KL):∀n,Yd (rmT ms n)
 | 0=>List.Pairwise.nil
 | n+1=>by
  rw[rmT];split
  ·rw[LH];exact yk ms n
  refine L0.2 ⟨yk ms n,Mm _ _,λa ha b hb=>?_⟩;have:=((yj ms a n).1 ha).1;rw[La.1 hb];omega
theorem Uq (ms:List KL):∀n,(rmT ms n).length≤n
 | 0=>Lr _
 | n+1=>by
  rw[rmT,Li];have:=Uq ms n;split <;> simp <;> omega
theorem yl {j:Nat}(G:j<16):∀(l:LN) (E:Nat),(l.foldl (λl b=>l &&& (65535 ^^^ b)) E).testBit j=true↔E.testBit j=true∧∀b∈l,b.testBit j=false
 | [],E=>by simp
 | b::l,E=>by
  rw[LO,yl G l,Nat.testBit_and,Nat.testBit_xor,show (65535:Nat)=2 ^ 16 - 1 from rfl,Nat.testBit_two_pow_sub_one,decide_eq_true G,Lv,MW];constructor
  ·rintro ⟨⟨h1,h2⟩,h3⟩;exact ⟨h1,by simpa using h2,h3⟩
  rintro ⟨h1,h2,h3⟩;exact ⟨⟨h1,by simpa using h2⟩,h3⟩
theorem yI {kd:Int}{m:KL}:∀(l:LN) (i:Nat),m∈XZ kd i l→∃b∈l,m.co=setK b 8
 | [],_,h=>by cases h
 | b::l,i,h=>by
  rw[XZ] at h;rcases Lc.1 h with h | h
  ·subst h;exact ⟨b,Ln ..,O⟩
  obtain ⟨b',h1,h2⟩:=yI l (i+1) h;exact ⟨b',Ll _ h1,h2⟩
theorem Uy {kd:Int}{b:Nat}:∀(l:LN) (i:Nat),b∈l→∃m∈XZ kd i l,m.co=setK b 8
 | [],_,h=>by cases h
 | b'::l,i,h=>by
  rw[XZ];rcases Lc.1 h with h | h
  ·subst h;exact ⟨_,Ln ..,O⟩
  obtain ⟨m,h1,h2⟩:=Uy (kd:=kd) l (i+1) h;exact ⟨m,Ll _ h1,h2⟩
theorem Qkk {c:Zw}{m:KL}(h:m∈mods c):∃b∈sets c,m.co=setK b 8:=by
 unfold mods at h;unfold sets;rcases Lj.1 h with h | h
 ·obtain ⟨b,h1,h2⟩:=yI _ _ h;exact ⟨b,LF _ h1,h2⟩
 rcases Lj.1 h with h | h
 ·obtain ⟨b,h1,h2⟩:=yI _ _ h;exact ⟨b,LQ _ (LF _ h1),h2⟩
 obtain ⟨b,h1,h2⟩:=yI _ _ h;exact ⟨b,LQ _ (LQ _ h1),h2⟩
theorem Qia {c:Zw}{b:Nat}(h:b∈sets c):∃m∈mods c,m.co=setK b 8:=by
 unfold sets at h;unfold mods;rcases Lj.1 h with h | h
 ·obtain ⟨m,h1,h2⟩:=Uy (kd:=1) _ 0 h;exact ⟨m,LF _ h1,h2⟩
 rcases Lj.1 h with h | h
 ·obtain ⟨m,h1,h2⟩:=Uy (kd:=2) _ 0 h;exact ⟨m,LQ _ (LF _ h1),h2⟩
 obtain ⟨m,h1,h2⟩:=Uy (kd:=3) _ 0 h;exact ⟨m,LQ _ (LQ _ h1),h2⟩
theorem QhU {c:Zw}(H:c.co.length≤8):rem c=rmT (mods c) c.co.length:=by
 refine U8 (JO _ _) (yk _ _) λx=>?_;unfold rem;rw[YJ,yj];constructor
 ·rintro ⟨k,hk,rfl,E⟩;unfold ym at E;rw[yl (by omega),Nat.testBit_two_pow_sub_one,decide_eq_true_iff] at E;refine ⟨by omega,λm hm hx=>?_⟩;obtain ⟨b,hb,e⟩:=Qkk hm;rw[e,YJ] at hx;obtain ⟨k',_,I,h1⟩:=hx;have e2:k'=k:=by omega
  subst e2;rw[E.2 b hb] at h1;cases h1
 rintro ⟨h1,h2⟩;refine ⟨x.toNat,by omega,by omega,?_⟩;unfold ym;rw[yl (by omega),Nat.testBit_two_pow_sub_one,decide_eq_true_iff];refine ⟨by omega,λb hb=>?_⟩;obtain ⟨m,hm,e⟩:=Qia hb;have h3:=h2 m hm;rw[e,YJ] at h3;refine Bool.eq_false_iff.2 λG=>h3 ⟨x.toNat,by omega,by omega,G⟩
theorem yH {c:CL}{ml:List MV}(hD:D25 c.cel) (E:ml.map MV.m=lmd c.cel):ml.length≤8:=by
 have e:=congrArg List.length E;unfold lmd at e;rw[Lb,Li,Li,K7,Kc,Kc,Lb,Lb] at e;have:=hD.r2;have:=hD.x2;have:=hD.k1;omega
theorem D25.szs {c:CL}(hD:D25 c.cel):c.co.length≤3∧c.rq.length+c.ex.length+c.cs.length≤5:=by
 have E:c.rq.length=c.cel.rq.length:=(Lb ..).symm;have G:c.ex.length=c.cel.ex.length:=(Lb ..).symm;have H:c.cs.length=c.cel.cs.length:=(Lb ..).symm;have I:c.co.length=c.cel.co.length:=(Lb ..).symm;have h1:=hD.r2;have h2:=hD.x2;have h3:=hD.k1;have J:=hD.c3;omega
set_option maxHeartbeats 4000000 in
theorem UO {w:World}{c:CL}(h:Zx [] w.heap c) (hD:D25 c.cel) :
  QJ prog 42 [c.val] w λr w'=>Step [] w w'∧Qt 3 w.heap.size w' r (rmT (lmd c.cel) c.co.length):=by
 have h7:=hD.szs;refine QJ.of_W func42 O ntmps42 results42 (by simp) ?_;refine Qc<|xl O<|QT (us:=c.cells) O λb1 w1 hh h8 hj=>Qe<|Qc<|Qe<|Qc<|x (Qs hj O O)<|xl O<|xf<|(Jo (h.ext hh) (by omega) (by omega)).mono ?_;rintro r2 V ⟨hl,ml,hn,ho⟩;have h9:=yH hD ho;have ht:Zo [] V.heap r2 ml.length 3 (ml.flatMap Zi):=hn.arr (by omega) (by simp);have Y:=hh.trans hl;have hu:=Y.size
 have hv:=hj.ext hl;have hw:=h.ext Y;refine Qe<|Qf<|Qc<|Qe<|Qg<|Qy (α:=Nat×Value) [(3,3),(5,7),(10,38)] (λz=>[(3,z.2),(5,.int .i64 z.1)]) (λz w'=>z.1≤c.co.length∧Step [] V w'∧Qt 3 V.heap.size w' z.2 (rmT (lmd c.cel) z.1)) (λz=>c.co.length - z.1) (by rfl) (0,Za) ⟨O,O,U⟩
  ⟨Lk _,Step.refl _ _,QO _ _ _ _⟩ ?_
 rintro ⟨i,v⟩ g w3 ⟨hi,E,H⟩;simp only[] at hi H;have hA:=E.size;have hB:=Uq (lmd c.cel) i;have hge:=Qk H;refine Qf<|Qc<|Qb<|x (Qa O)<|x (Qd (hv.ext E) O O)<|x (Qq (hw.ext E).co.arr O)<|x (QA O O)<|xe<|QE rfl (λha=>?_) (λha=>?_)
 ·refine Qw ?_;have hy:i=c.co.length:=by have hz:¬(i:Int)<(c.co.length:Int):=ha;omega
  subst hy;refine Qc<|Qb<|Qe ?_;exact Qn ⟨[v],Z,Y.trans E,Zg H hu⟩
 have hp:i<c.co.length:=by have hz:(i:Int)<(c.co.length:Int):=ha;omega
 refine Qi<|Qf<|Qg<|Qc<|Qe ?_;have hr:=ht.ext E;refine Qf<|Qc<|Qe<|Qg<|Qy (α:=Nat×Bool) [(6,7),(17,32)] (λz=>[(6,.bool z.2),(7,.int .i64 z.1)]) (λz w'=>z.1≤ml.length∧w'=w3∧z.2=((ml.map MV.m).take z.1).any λm=>decide ((i:Int)∈m.co)) (λz=>ml.length - z.1) (by rfl) (0,false) ⟨O,O,U⟩
  ⟨Lk _,O,O⟩ ?_
 rintro ⟨k,ib⟩ g w4 ⟨hk,rfl,I⟩;simp only[] at hk I;refine Qf<|Qc<|Qb<|Qb<|x (Qq hr O)<|x (QA O O)<|xe<|QE rfl (λhc=>?_) (λhc=>?_)
 ·refine Qw ?_;have h0:ml.length≤k:=by have J:¬(k:Int)<(ml.length:Int):=hc;omega
  rw[Lm (by rw[Lb];exact h0),ho] at I;have S:rmT (lmd c.cel) (i+1)=rmT (lmd c.cel) i++(if ib=true then [] else [(i:Int)]):=by rw[rmT,I]
  refine Qc<|Qb<|x (Zm O)<|xe<|Q2 O (λhe=>?_) (λhe=>?_)
  rotate_left
  ·have h1:ib=true:=by cases ib with | true=>rfl | false=>cases he
   rw[if_pos h1,LH] at S;refine Qi<|Qx<|Qb<|QN O O<|Qe ?_;exact ⟨(i+1,v),by simp only[];omega,⟨O,O,U⟩,hp,E,by simp only[];rw[S];exact H⟩
  have h2:¬ib=true:=by cases ib with | true=>cases he | false=>simp
  rw[if_neg h2] at S;refine Qx<|Qb<|Qb<|xl O<|QC (us:=[[.int .i64 i]]) O O (by decide) (by simp) ⟨rfl,rfl,U⟩ λhC w5 hf hE h3=>?_;have hF:=hf.size
  refine xl O<|QU (news:=[.int .i64 i]) (L:=[]) (Qm H hf) O O O (h3.at (by simp)) (by simp[Value.oneCell']) (by omega) (by omega) λv6 w6 h4 h5 hG=>Qe<|Qx<|Qb<|QN rfl rfl<|Qe<|⟨(i+1,v6),by simp only[];omega,⟨O,O,U⟩,hp,(E.trans hf).then h5 (λb hb=>.inr (hge b hb).1),?_⟩;simp only[];rw[S];exact Qt.snoc h4
 have G:k<ml.length:=by have J:(k:Int)<(ml.length:Int):=hc;omega
 have hs:=Lh G;have T:((ml.map MV.m).take (k+1)).any (λm=>decide ((i:Int)∈m.co))=(((ml.map MV.m).take k).any (λm=>decide ((i:Int)∈m.co)) || decide ((i:Int)∈(ml[k]'G).co)):=by
  rw[Le (by rw[Lb];exact G),Mb,List.any_append];simp[MV.m]
 rw[←I] at T;refine Qi<|Qf<|Qg<|Qx<|xB Ql (λhg=>?_) (λhg=>?_)
 ·refine Qb<|xs O<|xs O<|xs O<|xs O<|xs O<|xs O<|xs O<|x (Qo O)<|Qe<|Qx<|Qb<|QN O O<|Qe<|⟨(k+1,true),by simp only[];omega,⟨O,O,U⟩,G,O,?_⟩;simp only[];rw[T,show ib=true from hg,Bool.true_or]
 refine Qb<|Qb<|Qb<|xig JR hr O O G λhH J=>?_;refine Zb (ml[k]'G) λq hq=>?_;rw[hq] at J hs T;have h6:QL [] w4.heap q.v q.co:=(hn.each q hs [] (by simp)).ext E;refine x (Q4 O)<|x (Qu (J.fld 2 q.v O) O)<|Qb<|xl O<|xf<|(JX h6 (i:Int)).mono ?_;rintro r7 w7 ⟨rfl,rfl⟩;refine x (Qo O)<|Qe<|Qx<|Qb<|QN O O<|Qe<|⟨(k+1,decide ((i:Int)∈q.co)),by simp only[];omega,⟨O,O,U⟩,G,O,?_⟩
 simp only[];rw[T,show ib=false from hg,Nx]
def y0 (R:Nat→Nat→Bool) (x:Nat):LN→LN→LN
 | g,[]=>g
 | g,n::ns=>y0 R x (if !g.contains n && R x n then g++[n] else g) ns
def Uh (R:Nat→Nat→Bool) (all:LN):Nat→Nat→LN→LN
 | 0,_,g=>g
 | f+1,k,g=>match g[k]? with
  | none=>g
  | some x=>Uh R all f (k+1) (y0 R x g all)
def jW (R:Nat→Nat→Bool) (all:LN):LN→LN→List (LN)
 | [],_=>[]
 | i::is,dn=>bif dn.contains i then jW R all is dn else (all.filter (Uh R all all.length 0 [i]).contains)::jW R all is (dn++Uh R all all.length 0 [i])
def yM (R:Nat→Nat→Bool) (n:Nat):List (LN):=jW R (List.range n) (List.range n) []
def VJ (R:Nat→Nat→Bool) (x y:LN):Bool:=x.any λa=>y.any λb=>R a b
def QbH (R:Nat→Nat→Bool) (g:LN):List (LN)→Option (LN×List (LN))
 | []=>none
 | h::r=>bif VJ R g h then some (g++h,r) else (QbH R g r).map λp=>(p.1,h::p.2)
def yF (R:Nat→Nat→Bool):List (LN)→Option (List (LN))
 | []=>none
 | g::r=>match QbH R g r with
  | some p=>some (p.1::p.2)
  | none=>(yF R r).map (g::·)
def Qbc (R:Nat→Nat→Bool):Nat→List (LN)→List (LN)
 | 0,l=>l
 | f+1,l=>match yF R l with
  | none=>l
  | some l'=>Qbc R f l'
def QdJ (x:Nat):LN→LN
 | []=>[x]
 | y::l=>bif Nat.ble x y then x::y::l else y::QdJ x l
def Uf (l:LN):LN:=l.foldr QdJ []
def QdL (x:LN):List (LN)→List (LN)
 | []=>[x]
 | y::l=>bif Nat.ble (x.headD 0) (y.headD 0) then x::y::l else y::QdL x l
def QdK (l:List (LN)):List (LN):=l.foldr QdL []
def Qic (R:Nat→Nat→Bool) (n:Nat):List (LN):=Qbc R n ((List.range n).map λi=>[i])
def Qbo (R:Nat→Nat→Bool) (n:Nat):List (LN):=QdK ((Qic R n).map Uf)
def z8 (E G H I J S T V Y ha:Bool) (x y:Nat):Bool :=
 match x,y with
 | 0,1=>E
 | 1,0=>E
 | 0,2=>G
 | 2,0=>G
 | 0,3=>H
 | 3,0=>H
 | 0,4=>I
 | 4,0=>I
 | 1,2=>J
 | 2,1=>J
 | 1,3=>S
 | 3,1=>S
 | 1,4=>T
 | 4,1=>T
 | 2,3=>V
 | 3,2=>V
 | 2,4=>Y
 | 4,2=>Y
 | 3,4=>ha
 | 4,3=>ha
 | _,_=>false
def QiN:LN→LN→Bool
 | [],[]=>true
 | x::l,y::m=>x.beq y && QiN l m
 | _,_=>false
def Qbt:List (LN)→List (LN)→Bool
 | [],[]=>true
 | x::l,y::m=>QiN x y && Qbt l m
 | _,_=>false
theorem QcM:∀(l m:LN),QiN l m=true→l=m
 | [],[],_=>rfl
 | x::l,y::m,h=>by
  rw[QiN,Lv] at h;rw[Nf h.1,QcM l m h.2]
 | [],_::_,h=>by cases h
 | _::_,[],h=>by cases h
theorem Vl:∀(l m:List (LN)),Qbt l m=true→l=m
 | [],[],_=>rfl
 | x::l,y::m,h=>by
  rw[Qbt,Lv] at h;rw[QcM _ _ h.1,Vl l m h.2]
 | [],_::_,h=>by cases h
 | _::_,[],h=>by cases h
def qO (f:Bool→Bool):Bool:=f false && f true
theorem Z0 {f:Bool→Bool}(h:qO f=true) (b:Bool):f b=true:=by
 unfold qO at h;rw[Lv] at h;cases b
 ·exact h.1
 exact h.2
set_option maxRecDepth 100000 in
theorem gs5:(qO λa=>qO λb=>qO λc=>qO λd=>qO λe=>qO λf=>qO λg=>qO λh=>qO λi=>qO λj=>Qbt (yM (z8 a b c d e f g h i j) 5) (Qbo (z8 a b c d e f g h i j) 5))=true:=by decide +kernel
set_option maxRecDepth 100000 in
theorem gs4:(qO λa=>qO λb=>qO λc=>qO λd=>qO λe=>qO λf=>Qbt (yM (z8 a b c false d e false f false false) 4) (Qbo (z8 a b c false d e false f false false) 4))=true:=by decide +kernel
set_option maxRecDepth 100000 in
theorem gs3:(qO λa=>qO λb=>qO λc=>Qbt (yM (z8 a b false false c false false false false false) 3) (Qbo (z8 a b false false c false false false false false) 3))=true:=by decide +kernel
theorem gs2:(qO λa=>Qbt (yM (z8 a false false false false false false false false false) 2) (Qbo (z8 a false false false false false false false false false) 2))=true:=by decide +kernel
theorem QhA {R:Nat→Nat→Bool}(E:∀x y,R x y=R y x) (hz:∀x,R x x=false) (hi:∀x y,5≤x→R x y=false):R=z8 (R 0 1) (R 0 2) (R 0 3) (R 0 4) (R 1 2) (R 1 3) (R 1 4) (R 2 3) (R 2 4) (R 3 4):=by
 funext x y;by_cases hx:5≤x
 ·rw[hi x y hx]
  match x,hx with
  | k+5,_=>rfl
 by_cases hy:5≤y
 ·rw[E,hi y x hy]
  match x,y,hx,hy with
  | 0,k+5,_,_=>rfl
  | 1,k+5,_,_=>rfl
  | 2,k+5,_,_=>rfl
  | 3,k+5,_,_=>rfl
  | 4,k+5,_,_=>rfl
  | j+5,_,h,_=>omega
 match x,y,hx,hy with
 | 0,0,_,_=>exact hz 0
 | 1,1,_,_=>exact hz 1
 | 2,2,_,_=>exact hz 2
 | 3,3,_,_=>exact hz 3
 | 4,4,_,_=>exact hz 4
 | 0,1,_,_=>rfl
 | 0,2,_,_=>rfl
 | 0,3,_,_=>rfl
 | 0,4,_,_=>rfl
 | 1,2,_,_=>rfl
 | 1,3,_,_=>rfl
 | 1,4,_,_=>rfl
 | 2,3,_,_=>rfl
 | 2,4,_,_=>rfl
 | 3,4,_,_=>rfl
 | 1,0,_,_=>exact E 1 0
 | 2,0,_,_=>exact E 2 0
 | 3,0,_,_=>exact E 3 0
 | 4,0,_,_=>exact E 4 0
 | 2,1,_,_=>exact E 2 1
 | 3,1,_,_=>exact E 3 1
 | 4,1,_,_=>exact E 4 1
 | 3,2,_,_=>exact E 3 2
 | 4,2,_,_=>exact E 4 2
 | 4,3,_,_=>exact E 4 3
 | j+5,_,h,_=>omega
 | _,j+5,_,h=>omega
theorem QiC {R:Nat→Nat→Bool}{n:Nat}(J:n≤5) (H:∀x y,R x y=R y x) (hz:∀x,R x x=false) (hi:∀x y,R x y=true→x<n):yM R n=Qbo R n:=by
 have I:∀x y,n≤x→R x y=false:=λx y h=>by
  cases e:R x y with
  | false=>rfl
  | true=>have:=hi x y e;omega
 have E:∀x y,n≤y→R x y=false:=λx y h=>by rw[H];exact I y x h
 have G:=QhA H hz (λx y h=>I x y (by omega))
 match n,J with
 | 0,_=>rfl
 | 1,_=>rfl
 | 2,_ =>
  rw[E 0 2 (by omega),E 0 3 (by omega),E 0 4 (by omega),E 1 2 (by omega),E 1 3 (by omega),E 1 4 (by omega),E 2 3 (by omega),E 2 4 (by omega),E 3 4 (by omega)] at G;rw[G];exact Vl _ _ (Z0 gs2 _)
 | 3,_ =>
  rw[E 0 3 (by omega),E 0 4 (by omega),E 1 3 (by omega),E 1 4 (by omega),E 2 3 (by omega),E 2 4 (by omega),E 3 4 (by omega)] at G;rw[G];exact Vl _ _ (Z0 (Z0 (Z0 gs3 _) _) _)
 | 4,_ =>
  rw[E 0 4 (by omega),E 1 4 (by omega),E 2 4 (by omega),E 3 4 (by omega)] at G;rw[G];exact Vl _ _ (Z0 (Z0 (Z0 (Z0 (Z0 (Z0 gs4 _) _) _) _) _) _)
 | 5,_ =>
  rw[G];exact Vl _ _ (Z0 (Z0 (Z0 (Z0 (Z0 (Z0 (Z0 (Z0 (Z0 (Z0 gs5 _) _) _) _) _) _) _) _) _) _)
def rlG (ls:List (LI)) (x y:Nat):Bool:=decide (x≠y) && mts (ls.getD x []) (ls.getD y [])
def UP (E:LN) (x y:Nat):Bool:=decide (x≠y) && decide (E.getD x 0 &&& E.getD y 0≠0)
theorem jf {a b:Nat}:a &&& b≠0↔∃j,a.testBit j=true∧b.testBit j=true:=by
 constructor
 ·intro h;refine Classical.byContradiction λE=>h (Nat.eq_of_testBit_eq λj=>?_);rw[Nat.testBit_and,Nat.zero_testBit];cases h1:a.testBit j with
  | false=>rfl
  | true =>
   cases h2:b.testBit j with
   | false=>rfl
   | true=>exact absurd ⟨j,h1,h2⟩ E
 rintro ⟨j,h1,h2⟩ h;have h3:=Nat.testBit_and a b j;rw[h,h1,h2,Nat.zero_testBit] at h3;cases h3
theorem Qfu {a b:Nat}(ha:∀j,a.testBit j=true→j<8):mts (setK a 8) (setK b 8)=decide (a &&& b≠0):=by
 rw[Bool.eq_iff_iff,decide_eq_true_iff,jf];unfold mts;rw[Ml];constructor
 ·rintro ⟨x,h1,h2⟩;obtain ⟨k,_,rfl,h3⟩:=YJ.1 h1;obtain ⟨k',_,e,E⟩:=YJ.1 (of_decide_eq_true h2);have:k=k':=by omega
  subst this;exact ⟨k,h3,E⟩
 rintro ⟨j,h1,h2⟩;exact ⟨(j:Int),YJ.2 ⟨j,ha j h1,O,h1⟩,decide_eq_true (YJ.2 ⟨j,ha j h1,O,h2⟩)⟩
theorem QhJ {c:Zw}(h:D25 c) {b:Nat}(hb:b∈sets c) {j:Nat}(G:b.testBit j=true):j<8:=by
 have h3:=h.c3;have hz:(szs c.co).length=c.co.length:=by unfold szs;rw[Lb]
 have I:∀ls:List (Int×Int),(∀p∈ls,0≤p.1∧p.1<(c.co.length:Int))→(qN ls).testBit j=true→j<8:=λls J E=>by
  rcases (yt j ls 0).1 E with E | ⟨p,hp,e⟩
  ·simp at E
  have:=J p hp;omega
 unfold sets srR srX srC at hb;rcases Lj.1 hb with hb | hb
 ·obtain ⟨x,_,rfl⟩:=Ly.1 hb;rcases (yi x j c.co 0 0).1 G with E | ⟨i,hi,e,_⟩
  ·simp at E
  omega
 rcases Lj.1 hb with hb | hb
 ·obtain ⟨x,hx,rfl⟩:=Ly.1 hb;have H:=Jr _ _ _ (h.ex x hx).2.2;exact I x.ls (λp hp=>by have:=H.1 p hp;omega) G
 obtain ⟨x,hx,rfl⟩:=Ly.1 hb;have h1:=(h.cs x hx).2;have h2:Y9 (szs c.co) none x.ts=0:=by
  unfold YE at h1;split at h1
  ·cases h1
  split at h1
  ·rename_i h9;exact absurd h1 h9
  rename_i h9;exact Lu.1 h9
 have H:=Jq _ _ _ h2;exact I x.ts (λp hp=>by have:=H.1 p hp;omega) G
theorem Uz (kd:Int):∀(l:LN) (i:Nat),(XZ kd i l).map (·.co)=l.map λb=>setK b 8
 | [],_=>rfl
 | b::l,i=>by rw[XZ,LK,LK,Uz kd l (i+1)]
theorem zx (c:Zw):(mods c).map (·.co)=(sets c).map λb=>setK b 8:=by
 unfold mods sets;rw[Ls,Ls,Uz,Uz,Uz,Ls,Ls]
theorem QhT {c:Zw}(h:D25 c):rlG ((mods c).map (·.co))=UP (sets c):=by
 funext x y;unfold rlG UP;have G:∀i,((mods c).map (·.co)).getD i []=setK ((sets c).getD i 0) 8:=λi=>by
  rw[zx,LU,Mj,LU];cases (sets c)[i]? with
  | none=>rfl
  | some b=>rfl
 rw[G,G,Qfu];intro j E;by_cases hx:x<(sets c).length
 ·rw[LU,Lt hx] at E;exact QhJ h (Lh hx) E
 rw[LU,MB (by omega)] at E;simp at E
theorem QhW (E:LN) (x y:Nat):UP E x y=UP E y x:=by
 unfold UP;rw[Nat.and_comm,Bool.and_comm,Bool.and_comm (decide (y≠x))];congr 1;exact decide_eq_decide.2 ne_comm
theorem QhX (E:LN) (x:Nat):UP E x x=false:=by unfold UP;simp
theorem Qj5 {E:LN}{x y:Nat}(h:UP E x y=true):x<E.length:=by
 refine Decidable.byContradiction λG=>?_;unfold UP at h;rw[LU,MB (by omega)] at h;simp at h
theorem QkB {c:Zw}(h:D25 c):yM (rlG ((mods c).map (·.co))) (mods c).length=Qbo (UP (sets c)) (sets c).length:=by
 have hl:(mods c).length=(sets c).length:=by
  have e:=congrArg List.length (zx c)
  rwa [Lb,Lb] at e
 have h5:(sets c).length≤5:=by
  unfold sets srR srX srC;rw[Li,Li,Lb,Lb,Lb];have:=h.r2;have:=h.x2;have:=h.k1;omega
 rw[QhT h,hl];exact QiC h5 (QhW _) (QhX _) (λx y=>Qj5)
def nI (l:LN):LI:=l.map λk:Nat=>(k:Int)
theorem Jm (l:LN):(nI l).length=l.length:=Lb ..
theorem yD (l m:LN):nI (l++m)=nI l++nI m:=Ls ..
theorem Qba {l:LN}{k:Nat}:decide ((k:Int)∈nI l)=l.contains k:=by
 rw[Bool.eq_iff_iff,decide_eq_true_iff,List.contains_iff_mem];unfold nI;rw[Ly];constructor
 ·rintro ⟨j,E,e⟩;have:j=k:=by omega
  rw[←this];exact E
 exact λh=>⟨k,h,O⟩
theorem Qkh {l:LN}{k x:Nat}(h:l[k]?=some x):k<l.length∧cget (nI l) k=(x:Int):=by
 have hk:=(LX.1 h).1;refine ⟨hk,?_⟩;unfold cget nI;rw[LU,Mj,h];rfl
theorem VI {l:LN}{n:Nat}(h:l.Nodup) (hl:∀x∈l,x<n):l.length≤n:=by
 have h1:=pig n (nI l) (by
  unfold nI List.Nodup;rw[Mn];exact List.Pairwise.imp (λE e=>E (by omega)) h) (λx hx=>by
  obtain ⟨k,hk,rfl⟩:=Ly.1 hx;have:=hl k hk;omega)
 rwa [Jm] at h1
theorem Qh7 {l:LN}{x:Nat}(h:l.Nodup) (hx:x∉l):(l++[x]).Nodup:=by
 unfold List.Nodup at *;rw[L0];refine ⟨h,Mm _ _,λa ha b hb e=>hx ?_⟩;rw[La.1 hb] at e;rw[←e];exact ha
theorem UR {n i:Nat}(h:i<n):(List.range n).drop i=i::(List.range n).drop (i+1):=by
 rw[LJ (by simpa using h),Nd]
theorem Qa2 {n i:Nat}(h:i<n):(List.range n).take (i+1)=(List.range n).take i++[i]:=by
 rw[Le (by simpa using h),Nd]
theorem QkA {R:Nat→Nat→Bool}{all:LN}:∀(f:Nat) {k:Nat}{g:LN},g.length≤k→Uh R all f k g=g
 | 0,_,_,_=>rfl
 | f+1,k,g,h=>by rw[Uh,MB h]
theorem je {L:LN}{H:Array Obj}{v:Value}{n sz cap:Nat}{cs:LV}{a:Addr}(h:Zo L H v n sz cs) (e:v=.slice (some a) n cap):At L H a cs:=by
 rcases h.2.2 with ⟨h1,_⟩ | ⟨a',cap',h1,_,h3⟩
 ·rw[h1] at e;cases e
 rw[h1] at e;simp only[Value.slice.injEq,Option.some.injEq] at e;rw[←e.1];exact h3
theorem Qt.appd {e base:Nat}{w:World}{v:Value}{l m:LI}(h:w.ownsRow base e 1 v (l.length+m.length) (l.map (Value.int .i64)++m.map (Value.int .i64))):Qt e base w v (l++m):=by
 unfold Qt;rw[Li,Ls];exact h
structure JI (base:Nat) (w:World) (vd vo:Value) (os:List TV):Prop where
 own:w.ownsRow base 37 1 vo os.length (os.flatMap Zz)
 each:∀q∈os,ZC base (ob vo++ob vd) w.heap q.1 q.2.length 1 (q.2.map (.int .i64))
 dj:∀b∈ob vd,b∉ob vo
theorem JI.nil {base:Nat}{w:World}:JI base w Za Za []:=⟨QO _ _ _ _,λq hq=>(by cases hq),λb hb=>(by cases hb)⟩
theorem JI.ext {base:Nat}{w w':World}{vd vo:Value}{os:List TV}(h:JI base w vd vo os) (E:Step [] w w'):JI base w' vd vo os:=⟨Qm h.own E,λq hq=>(h.each q hq).ext E,h.dj⟩
theorem JI.dn {base:Nat}{w w':World}{vd E vo:Value}{os:List TV}(h:JI base w vd vo os) (G:Step (ob vd) w w') (H:∀b∈ob E,b∈ob vd∨w.heap.size≤b):JI base w' E vo os:=by
 refine ⟨Qj h.own G (λb hb hm=>h.dj b hm hb),λq hq=>(h.each q hq).app (G.mono λb hb=>LQ _ hb) (λb hb=>?_),λb hb hm=>?_⟩
 ·rcases Lj.1 hb with hb | hb
  ·exact .inl (LF _ hb)
  exact (H b hb).imp (λh=>LQ _ h) id
 rcases H b hb with h1 | h1
 ·exact h.dj b h1 hm
 have:=QP h.own b hm;omega
theorem JI.add {base N e:Nat}{w E G:World}{vd vo H:Value}{os:List TV}{q:TV}(h:JI base w vd vo os) (I:Step [] w E) (hq:E.ownsRow N e 1 q.1 q.2.length (q.2.map (.int .i64))) (V:q.2.length≤1099511627776) (hN:w.heap.size≤N) (hb:base≤w.heap.size)
  (Y:G.ownsRow base 37 1 H (os.length+1) (os.flatMap Zz++[q.1])) (ha:Step (ob vo) E G) (J:∀b∈ob H,b∈ob vo∨E.heap.size≤b) (hd:∀b∈ob vd,b<w.heap.size):JI base G vd H (os++[q]):=by
 have hz:=I.size;have S:∀d:TV,ZC base (ob vo++ob vd) E.heap d.1 d.2.length 1 (d.2.map (.int .i64))→ZC base (ob H++ob vd) G.heap d.1 d.2.length 1 (d.2.map (.int .i64)):=λd hc=>by
  refine hc.app (ha.mono λb hb=>LF _ hb) (λb hb=>?_);rcases Lj.1 hb with hb | hb
  ·exact (J b hb).imp (λh=>LF _ h) id
  exact .inl (LQ _ hb)
 refine ⟨?_,λd hdm=>?_,λb T hm=>?_⟩
 ·rw[Li,Lz];simpa using Y
 ·rcases Lj.1 hdm with hdm | hdm
  ·exact S d ((h.each d hdm).ext I)
  rw[La.1 hdm];refine S q (ZC.of_own hq V (by omega) λb hb=>?_);rcases Lj.1 hb with hb | hb
  ·have:=QP h.own b hb;omega
  have:=hd b hb;omega
 rcases J b hm with h1 | h1
 ·exact h.dj b T h1
 have:=hd b T;omega
theorem JI.tup {base:Nat}{w:World}{vd vo:Value}{os:List TV}(h:JI base w vd vo os) (G:os.length≤1099511627776):q6 base w.heap vo (os.map (·.2)) :=
 ⟨os,O,λL E=>⟨QR h.own G (λb hb H=>by have:=(Qk h.own b hb).1;have:=E b H;omega),λq hq=>h.each q hq L (λb hb=>.inl (E b hb))⟩⟩
structure GqS where
 i:Nat
 dn:LN
 vd:Value
 vo:Value
 os:List TV
structure GqI (R:Nat→Nat→Bool) (n:Nat) (w w':World) (z:GqS):Prop where
 hi:z.i≤n
 st:Step [] w w'
 dO:Qt 3 w.heap.size w' z.vd (nI z.dn)
 row:JI w.heap.size w' z.vd z.vo z.os
 dl:z.dn.length≤z.i*1000
 ol:z.os.length≤z.i
 eq:z.os.map (·.2)++(jW R (List.range n) ((List.range n).drop z.i) z.dn).map nI=(yM R n).map nI
structure GkI (R:Nat→Nat→Bool) (n i:Nat) (w1 w':World) (z:Nat×Value×LN):Prop where
 hk:z.1≤n
 st:Step [] w1 w'
 o:Qt 3 w1.heap.size w' z.2.1 (nI z.2.2)
 nd:z.2.2.Nodup
 lt:∀x∈z.2.2,x<n
 hd:i∈z.2.2
 eq:Uh R (List.range n) (n - z.1) z.1 z.2.2=Uh R (List.range n) n 0 [i]
structure GnI (R:Nat→Nat→Bool) (n i k x:Nat) (G:LN) (w1 w':World) (z:Nat×Value×LN):Prop where
 hm:z.1≤n
 st:Step [] w1 w'
 o:Qt 3 w1.heap.size w' z.2.1 (nI z.2.2)
 nd:z.2.2.Nodup
 lt:∀x∈z.2.2,x<n
 hd:i∈z.2.2
 kx:z.2.2[k]?=some x
 eq:y0 R x z.2.2 ((List.range n).drop z.1)=G
theorem QjZ {ml:List MV}{x m:Nat}(hx:x<ml.length) (hm:m<ml.length) (E:x≠m):rlG (ml.map (·.co)) x m=mts (ml[x]'hx).co (ml[m]'hm).co:=by
 unfold rlG;rw[decide_eq_true E,Bool.true_and,LU,LU,Mj,Mj,Lt hx,Lt hm];rfl
set_option maxRecDepth 100000 in
set_option maxHeartbeats 8000000 in
theorem j2 {w:World}{v:Value}{ml:List MV}(hA:Zo [] w.heap v ml.length 3 (ml.flatMap Zi)) (hM:∀q∈ml,QL [] w.heap q.v q.co) (hn:ml.length≤1000) :
  QJ prog 40 [v] w λr w'=>Step [] w w'∧q6 w.heap.size w'.heap r ((yM (rlG (ml.map (·.co))) ml.length).map nI):=by
 have hW:=@QjZ ml;refine Zb (rlG (ml.map (·.co))) λR hR=>?_;rw[hR];simp only[hR] at hW;refine QJ.of_W func40 O ntmps40 results40 (by simp) ?_;refine Qc<|Qe<|Qc<|Qe<|Qc<|Qe<|Qf<|Qc<|Qe<|Qg<|Qy (α:=GqS) [(3,77)] (λz=>[(3,z.vo),(4,z.vd),(5,.int .i64 (z.i:Int))]) (λz w'=>GqI R ml.length w w' z) (λz=>ml.length - z.i) (by rfl) ⟨0,[],Za,Za,[]⟩ ⟨O,O,O,U⟩
  ⟨Lk _,Step.refl _ _,QO _ _ _ _,JI.nil,Lk _,Lr _,by rw[List.drop_zero];rfl⟩ ?_
 rintro ⟨i,dn,vd,vo,os⟩ g H hI;have hi:i≤ml.length:=hI.hi;have hf:Step [] w H:=hI.st;have hp:Qt 3 w.heap.size H vd (nI dn):=hI.dO;have h7:JI w.heap.size H vd vo os:=hI.row;have kw:dn.length≤i*1000:=hI.dl;have ky:os.length≤i:=hI.ol;have T:os.map (·.2)++(jW R (List.range ml.length) ((List.range ml.length).drop i) dn).map nI=(yM R ml.length).map nI:=hI.eq;have Ug:=Jm dn
 have kz:=hf.size;have hX:=hA.ext hf;refine Qf<|Qc<|Qb<|Qb<|x (Qq hX O)<|x (QA O O)<|xe<|QE rfl (λh8=>?_) (λh8=>?_)
 ·refine Qw ?_;have gw:ml.length≤i:=by have hg:¬(i:Int)<(ml.length:Int):=h8;omega
  rw[List.drop_eq_nil_of_le (by rw[Nj];exact gw),jW,Nh,LH] at T;refine Qc<|Qb<|Qe ?_;exact Qn ⟨[vo],Z,hf,by rw[←T];exact h7.tup (by omega)⟩
 have hv:i<ml.length:=by have hg:(i:Int)<(ml.length:Int):=h8;omega
 rw[UR hv,jW] at T;refine Qi<|Qf<|Qg<|Qf<|Qc<|Qb<|Qb<|xl O<|xf<|(JX (hp.ints (L:=[]) (by omega) (by simp)) (i:Int)).mono ?_;rintro r2 H ⟨h9,rfl⟩
 replace h9:r2=.bool (dn.contains i):=h9.trans (congrArg Value.bool Qba);subst h9;refine xe<|Q2 rfl (λhB=>?_) (λhB=>?_)
 ·rw[hB,cond_true] at T;refine Qw<|Qx<|Qb<|QN O O<|Qe ?_;exact ⟨⟨i+1,dn,vd,vo,os⟩,by show ml.length - (i+1)<ml.length - i;omega,⟨O,O,O,U⟩,⟨hv,hf,hp,h7,by show dn.length≤(i+1)*1000;omega,by show os.length≤i+1;omega,T⟩⟩
 rw[hB,cond_false,Nj] at T;refine Qi<|Qc<|Qb<|xl O<|QC (us:=[[.int .i64 i]]) O O (by decide) (by simp) ⟨rfl,rfl,U⟩ λhY w3 gy gz g0=>Qe ?_;have hZ:Qt 3 H.heap.size w3 (.slice (some ⟨hY,0,none⟩) 1 1) (nI [i]):=Q3.own (cs:=[.int .i64 i]) g0 O (by decide) gz;refine Zb (Value.slice (some ⟨hY,0,none⟩) 1 1) λg2 ga=>?_;rw[ga] at hZ
 refine Qf<|Qc<|Qe<|Qg<|Qy (α:=Nat×Value×LN) [(6,8),(22,57)] (λz=>[(6,z.2.1),(7,.int .i64 (z.1:Int))]) (λz w'=>GkI R ml.length i H w' z) (λz=>ml.length - z.1) (by rfl) (0,g2,[i]) ⟨ga,O,U⟩
  ⟨Lk _,gy,hZ,Mm _ _,λx hx=>by rw[La.1 hx];exact hv,La.2 O,O⟩ ?_
 rintro ⟨k,vg,gl⟩ g w4 hK;have hk:k≤ml.length:=hK.hk;have hq:Step [] H w4:=hK.st;have hj:Qt 3 H.heap.size w4 vg (nI gl):=hK.o;have gc:gl.Nodup:=hK.nd;have ge:∀x∈gl,x<ml.length:=hK.lt;have gg:i∈gl:=hK.hd;have hge:Uh R (List.range ml.length) (ml.length - k) k gl=Uh R (List.range ml.length) ml.length 0 [i]:=hK.eq;have k0:gl.length≤ml.length:=VI gc ge;have g3:=Jm gl;have k4:=hq.size
 have g4:QL [] w4.heap vg (nI gl):=hj.ints (by omega) (by simp);refine Qf<|Qc<|Qb<|Qb<|x (Qq g4 O)<|x (QA O O)<|xe<|QE rfl (λhC=>?_) (λhC=>?_)
 ·refine Qw ?_;have g5:gl.length≤k:=by have hg:¬(k:Int)<((nI gl).length:Int):=hC;omega
  rw[QkA _ g5] at hge;rw[←hge] at T;have g6:0<(nI gl).length:=by rw[g3];exact List.length_pos_of_mem gg
  refine Exists.elim (X6 hj g6) λgb g7=>Exists.elim g7 λcap gh=>?_;have g8:=je (hj.ints (L:=[]) (by omega) (by simp)) gh;have g9:=QP hp;have ka:=Qm hp hq;refine Qc<|Qb<|Qb<|xl O<|QU (news:=(nI gl).map (.int .i64)) (L:=[]) ka O gh (by simp) g8 (X7 _) (by omega) (by omega) λv5 E kb S kc=>Qe ?_;have gi:Qt 3 w.heap.size E v5 (nI (dn++gl)):=by rw[yD];exact Qt.appd kb
  have hw:=(h7.ext hq).dn S kc;have ho:Qt 3 H.heap.size E vg (nI gl):=Qj hj S (λb hb hm=>by have h1:=(Qk hj b hb).1;have h2:=g9 b hm;omega);have h0:QL [] E.heap vg (nI gl):=ho.ints (by omega) (by simp);have hD:Step [] w E:=(hf.trans hq).then S (λb hb=>.inr (Qk hp b hb).1);have hr:=hA.ext hD;have k5:=hD.size
  refine Qc<|Qe<|Qf<|Qc<|Qe<|Qg<|Qy (α:=Nat×Value) [(9,10),(61,73)] (λz=>[(9,z.2),(10,.int .i64 (z.1:Int))]) (λz w'=>z.1≤ml.length∧Step [] E w'∧Qt 3 E.heap.size w' z.2 (nI (((List.range ml.length).take z.1).filter gl.contains))) (λz=>ml.length - z.1) (by rfl) (0,Za) ⟨O,O,U⟩
   ⟨Lk _,Step.refl _ _,QO _ _ _ _⟩ ?_
  rintro ⟨m,vs⟩ g w6 ⟨hm,I,V⟩
  replace hm:m≤ml.length:=hm
  replace V:Qt 3 E.heap.size w6 vs (nI (((List.range ml.length).take m).filter gl.contains)):=V;have ke:(nI (((List.range ml.length).take m).filter gl.contains)).length≤m:=by
   rw[Jm];refine LS (Mh _ _) ?_;rw[Lx];omega
  have kf:=I.size;refine Qf<|Qc<|Qb<|Qb<|x (Qq (hr.ext I) O)<|x (QA O O)<|xe<|QE O (λhE=>?_) (λhE=>?_)
  ·refine Qw ?_;have hF:ml.length≤m:=by have hg:¬(m:Int)<(ml.length:Int):=hE;omega
   rw[Lm (by rw[Nj];exact hF)] at V ke;refine Qx<|Qb<|Qb<|xl O<|QC (us:=[[vs]]) O O (by decide) (by simp) ⟨QZ V,rfl,U⟩ λk6 w7 G k7 kg=>?_;have gj:=G.size;have kh:=hw.ext (I.trans G)
   refine xl O<|QU (news:=[vs]) (L:=[]) kh.own O O O (kg.at (by simp)) (λu hu=>by rw[List.mem_singleton.1 hu];exact QD V) (by omega) (by omega) λY w8 hs hh hG=>Qe ?_;have ki:JI w.heap.size w8 v5 Y (os++[(vs,nI ((List.range ml.length).filter gl.contains))]) :=
    JI.add (N:=E.heap.size) hw (I.trans G) (Qm V G) (by show (nI ((List.range ml.length).filter gl.contains)).length≤_;omega) (Lr _) (by omega) hs hh hG (QP gi)
   have kj:Qt 3 w.heap.size w8 v5 (nI (dn++gl)):=Qj (Qm gi (I.trans G)) hh hw.dj;refine Qx<|Qb<|QN O O<|Qe<|⟨⟨i+1,dn++gl,v5,Y,os++[(vs,nI ((List.range ml.length).filter gl.contains))]⟩,by show ml.length - (i+1)<ml.length - i;omega,⟨O,O,O,U⟩,⟨hv,((hD.trans I).trans G).then hh (λb hb=>.inr (Qk hw.own b hb).1),kj,ki,?_,?_,?_⟩⟩
   ·show (dn++gl).length≤(i+1)*1000;rw[Li];omega
   ·show (os++[((vs,nI ((List.range ml.length).filter gl.contains)):TV)]).length≤i+1;rw[Li,LD];omega
   show (os++[((vs,nI ((List.range ml.length).filter gl.contains)):TV)]).map (λq:TV=>q.2)++(jW R (List.range ml.length) ((List.range ml.length).drop (i+1)) (dn++gl)).map nI=_;rw[Ls,Mt,LA,M1];rw[LK] at T;exact T
  have J:m<ml.length:=by have hg:(m:Int)<(ml.length:Int):=hE;omega
  refine Qi<|Qf<|Qg<|Qc<|Qb<|Qb<|xl O<|xf<|(JX (h0.ext I) (m:Int)).mono ?_;rintro r9 w6 ⟨hH,rfl⟩
  replace hH:r9=.bool (gl.contains m):=hH.trans (congrArg Value.bool Qba);subst hH;refine xe ?_;have gk:=Qa2 J;refine Q2 O (λhJ=>?_) (λhJ=>?_)
  ·refine Qx<|Qb<|Qb<|xl O<|QC (us:=[[.int .i64 m]]) O O (by decide) (by simp) ⟨rfl,rfl,U⟩ λk8 w7 G k9 kk=>?_;have gj:=G.size
   refine xl O<|QU (news:=[.int .i64 m]) (L:=[]) (Qm V G) O O O (kk.at (by simp)) (by simp[Value.oneCell']) (by omega) (by omega) λY w8 hs hh hG=>Qe<|Qx<|Qb<|QN rfl rfl<|Qe<|⟨(m+1,Y),by show ml.length - (m+1)<ml.length - m;omega,⟨O,O,U⟩,J,(I.trans G).then hh (λb hb=>.inr (Qk V b hb).1),?_⟩
   show Qt 3 E.heap.size w8 Y (nI (((List.range ml.length).take (m+1)).filter gl.contains));rw[gk,L3,List.filter_cons_of_pos hJ,M6,yD];exact Qt.snoc hs
  refine Qi<|Qx<|Qb<|QN O O<|Qe<|⟨(m+1,vs),by show ml.length - (m+1)<ml.length - m;omega,⟨O,O,U⟩,J,I,?_⟩;show Qt 3 E.heap.size _ vs (nI (((List.range ml.length).take (m+1)).filter gl.contains));rw[gk,L3,List.filter_cons_of_neg (by rw[hJ];decide),M6,LH];exact V
 have gm:k<gl.length:=by have hg:(k:Int)<((nI gl).length:Int):=hC;omega
 refine Zb (gl[k]'gm) λgx kn=>?_;have gn:gl[k]?=some gx:=by rw[Lt gm,kn]
 have ko:ml.length - k=(ml.length - (k+1))+1:=by omega
 rw[ko,Uh,gn] at hge
 replace hge:Uh R (List.range ml.length) (ml.length - (k+1)) (k+1) (y0 R gx gl (List.range ml.length))=Uh R (List.range ml.length) ml.length 0 [i]:=hge;refine Qi<|Qf<|Qg<|Qc<|Qe<|Qg<|Qy (α:=Nat×Value×LN) [(6,6),(8,8),(28,57)] (λz=>[(6,z.2.1),(8,.int .i64 (z.1:Int))]) (λz w'=>GnI R ml.length i k gx (y0 R gx gl (List.range ml.length)) H w' z) (λz=>ml.length - z.1) (by rfl) (0,vg,gl) ⟨O,O,U⟩
  ⟨Lk _,hq,hj,gc,ge,gg,gn,by rw[List.drop_zero]⟩ ?_
 rintro ⟨m,vh,hl⟩ g E hQ;have hm:m≤ml.length:=hQ.hm;have S:Step [] H E:=hQ.st;have ho:Qt 3 H.heap.size E vh (nI hl):=hQ.o;have h3:hl.Nodup:=hQ.nd;have ht:∀x∈hl,x<ml.length:=hQ.lt;have hL:i∈hl:=hQ.hd;have h4:hl[k]?=some gx:=hQ.kx;have ha:y0 R gx hl ((List.range ml.length).drop m)=y0 R gx gl (List.range ml.length):=hQ.eq;have ma:hl.length≤ml.length:=VI h3 ht;have kp:=Jm hl
 have mc:=S.size;have h0:QL [] E.heap vh (nI hl):=ho.ints (by omega) (by simp);have hr:=hX.ext S;refine Qf<|Qc<|Qb<|Qb<|x (Qq hr O)<|x (QA O O)<|xe<|QE rfl (λhN=>?_) (λhN=>?_)
 ·refine Qw ?_;have hF:ml.length≤m:=by have hg:¬(m:Int)<(ml.length:Int):=hN;omega
  rw[List.drop_eq_nil_of_le (by rw[Nj];exact hF),y0] at ha;rw[←ha] at hge;refine Qx<|Qb<|QN O O<|Qe ?_;exact ⟨(k+1,vh,hl),by show ml.length - (k+1)<ml.length - k;omega,⟨O,O,U⟩,⟨by show k+1≤ml.length;omega,S,ho,h3,ht,hL,hge⟩⟩
 have J:m<ml.length:=by have hg:(m:Int)<(ml.length:Int):=hN;omega
 rw[UR J,y0] at ha;have hO:=Qkh h4;have hP:gx∈hl:=LT h4;have h5:=ht gx hP;have he:Step [] E { E with drawn:=E.drawn+1 }:=Step.drew _ _
 refine Qi<|Qf<|Qg<|QW (α:=Bool) [(34,53)] (λz=>[(53,.bool z)]) (λz w'=>Step [] E w'∧z=(!hl.contains m && R gx m)) (by rfl) ?_ ?_
 ·refine QS (Step [] E) [(0,true),(1,true),(2,false),(3,true),(4,true),(5,true),(6,true),(7,true),(8,true),(9,true),(10,true),(11,true),(12,true),(13,true),(14,true),(15,true),(16,true),(17,true),(18,false),(19,true)] mixed (by rfl) (by kernel_rfl) he ?_;refine p (λ_=>Ql)<|p (λ_=>Ql)<|pk<|xf<|(JX (h0.ext he) (m:Int)).mono ?_;rintro r6 _ ⟨hS,rfl⟩
  replace hS:r6=.bool (hl.contains m):=hS.trans (congrArg Value.bool Qba);subst hS;refine ⟨he,pB (λ_=>Zm O) (λhT=>?_) (λhT=>?_)⟩
  ·have hU:hl.contains m=false:=by simpa using hT
   have kq:gx≠m:=λe=>by
    rw[e] at hP;rw[List.contains_iff_mem.2 hP] at hU;cases hU
   have hV:=hW h5 J kq;refine p (λ_=>Ql)<|p (λ_=>Ql)<|p (λ_=>Ql)<|p (λ_=>Ql)<|pic O h0 O O (by rw[kp];exact hO.1) λmf go=>?_;rw[hO.2] at go;refine pq (λ_ hc=>Qu (go.ext hc) O)<|Lg.pig (g:=Zi) (i:=gx) O JR hr O O h5 λmg gp=>?_;have gq:=hM _ (Lh h5);have gr:=hM _ (Lh J);refine Zb (ml[gx]'h5) λqx ex=>?_;rw[ex] at gp gq hV
   refine p (λ_=>Q4 O)<|pq (λ_ hc=>Qu ((gp.fld 2 qx.v O).ext hc) O)<|p (λ_=>Ql)<|p (λ_=>Ql)<|Lg.pig (g:=Zi) (i:=m) O JR hr O O J λmh gs=>?_;refine Zb (ml[m]'J) λqm em=>?_;rw[em] at gs gr hV;refine p (λ_=>Q4 O)<|pq (λ_ hc=>Qu ((gs.fld 2 qm.v O).ext hc) O)<|pk<|xf<|(jS (((gq.ext hf).ext S).ext he) (((gr.ext hf).ext S).ext he)).mono ?_;rintro r7 _ ⟨gt,rfl⟩;rw[←hV] at gt
   subst gt;refine ⟨he,p (λ_=>Qo O)<|pe ?_⟩;exact ⟨R gx m,Z,he,by rw[hU];rfl⟩
  have kr:hl.contains m=true:=by simpa using hT
  refine p (λ_=>Ql)<|ps<|ps<|ps<|ps<|ps<|ps<|ps<|ps<|ps<|ps<|ps<|ps<|ps<|ps<|p (λ_=>Qo O)<|pe ?_;exact ⟨false,Z,he,by rw[kr];rfl⟩
 rintro z g w6 ⟨I,hz⟩;rw[←hz] at ha;have kf:=I.size;have gu:=S.trans I;have gv:=Qm ho I;refine Q2 rfl (λh6=>?_) (λh6=>?_)
 ·rw[h6,if_pos rfl] at ha;have kt:m∉hl:=λku=>by
   rw[List.contains_iff_mem.2 ku,h6] at hz;cases hz
  refine Qx<|Qb<|Qb<|xl O<|QC (us:=[[.int .i64 m]]) O O (by decide) (by simp) ⟨rfl,rfl,U⟩ λmj w7 G mo kv=>?_;have gj:=G.size
  refine xl O<|QU (news:=[.int .i64 m]) (L:=[]) (Qm gv G) O O O (kv.at (by simp)) (by simp[Value.oneCell']) (by omega) (by omega) λY w8 hs hh hG=>Qe<|Qx<|Qb<|QN rfl rfl<|Qe<|⟨(m+1,Y,hl++[m]),by show ml.length - (m+1)<ml.length - m;omega,⟨O,O,U⟩,⟨J,(gu.trans G).then hh (λb hb=>.inr (Qk ho b hb).1),?_,Qh7 h3 kt,λy hy=>?_,LF _ hL,?_,ha⟩⟩
  ·show Qt 3 H.heap.size w8 Y (nI (hl++[m]));rw[yD];exact Qt.snoc hs
  ·rcases Lj.1 hy with hy | hy
   ·exact ht y hy
   rw[La.1 hy];exact J
  show (hl++[m])[k]?=some gx;rw[L6 hO.1];exact h4
 rw[h6,if_neg (by decide)] at ha;refine Qi<|Qx<|Qb<|QN O O<|Qe ?_;exact ⟨(m+1,vh,hl),by show ml.length - (m+1)<ml.length - m;omega,⟨O,O,U⟩,⟨J,gu,gv,h3,ht,hL,h4,ha⟩⟩
end Go.Proofs.YtdffckgdcegpaaaGreatDoor
namespace Go.Lg
section
variable {P:Program} {n:Nat} {Q:Exit→Fr→World→Prop} {f:Fr} {w:World}
def ngt (Q:Exit→Fr→World→Prop):Exit→Fr→World→Prop
 | .goto _,_,_=>False
 | e,f,w=>Q e f w
theorem Qjc {c:Code}(h:W P n c (ngt Q) f w):W P n (.scope c) Q f w:=by
 unfold W at *;intro a ha;refine wp_scope_straight (wp_mono (h a ha) ?_);rintro e H w' ⟨G,h1,_,h3⟩;cases e with
 | goto l=>exact h3.elim
 | normal=>exact ⟨G,h1,λt E=>(by cases E),h3⟩
 | exit id=>exact ⟨G,h1,λt E=>(by cases E),h3⟩
 | ret=>exact ⟨G,h1,λt E=>(by cases E),h3⟩
 | panic ch=>exact ⟨G,h1,λt E=>(by cases E),h3⟩
 | outgrown=>exact ⟨G,h1,λt E=>(by cases E),h3⟩
end
section
variable {P:Program} {f:Fr} {w:World} {K:Fr→World→Prop} {d:Option Nat} {ty:Nat} {ps:String} {af:Array Edge} {gd:Option (Nat×Bool)}
theorem Qdu {t e sz bys:Nat}{z:Value}[h:Sl P t e sz bys z] {x E G H:Operand}{b n cap:Nat}{k:IntKind}{lo hi m:Nat}(hx:ev f x=.slice (some ⟨b,0,none⟩) n cap) (hl:ev f E=.int k lo) (I:ev f G=.int k hi) (hm:ev f H=.int k m) (h1:lo≤hi) (h2:hi≤m) (h3:m≤cap) :
  (execOp (ev f) ⟨d,.slice t x (some E) (some G) (some H),ty,ps,af,gd⟩).run P w=.ok (.value (.slice (if m=lo then some ⟨b,0,none⟩ else some ((⟨b,0,none⟩:Addr).add (lo*sz))) (hi - lo) (m - lo))) w:=by
 obtain ⟨i,J,_,S,_⟩:=Sl.info h;have e1:(Instr.sliceBound (.int k m) cap .slice3Acap).run P w=.ok m w:=Zs h3;have e2:(Instr.sliceBound (.int k hi) m .slice3B).run P w=.ok hi w:=Zs h2;have T:(Instr.sliceBound (.int k lo) hi .slice3C).run P w=.ok lo w:=Zs h1;by_cases V:m=lo
 ·subst V;simp[execOp,hx,hl,I,hm,Instr.sliceAt,Instr.slice,run_underlying h.u,Instr.sliceBounds,e1,e2,T,sizeOf,typeInfo,J,S]
 simp[execOp,hx,hl,I,hm,Instr.sliceAt,Instr.slice,run_underlying h.u,Instr.sliceBounds,e1,e2,T,sizeOf,typeInfo,J,S,V]
theorem Qdt {t e sz bys:Nat}{z:Value}[h:Sl P t e sz bys z] {x E G:Operand}{b n cap:Nat}{k:IntKind}{lo hi:Nat}(hx:ev f x=.slice (some ⟨b,0,none⟩) n cap) (hl:ev f E=.int k lo) (H:ev f G=.int k hi) (h1:lo≤hi) (h2:hi≤cap) (h3:lo<cap) :
  (execOp (ev f) ⟨d,.slice t x (some E) (some G) none,ty,ps,af,gd⟩).run P w=.ok (.value (.slice (some ⟨b,lo*sz,none⟩) (hi - lo) (cap - lo))) w:=by
 obtain ⟨i,I,_,J,_⟩:=Sl.info h;have e1:(Instr.sliceBound (.int k hi) cap .sliceAcap).run P w=.ok hi w:=Zs h2;have e2:(Instr.sliceBound (.int k lo) hi .sliceB).run P w=.ok lo w:=Zs h1;have S:¬cap=lo:=by omega
 simp[execOp,hx,hl,H,Instr.sliceAt,Instr.slice,run_underlying h.u,Instr.sliceBounds,e1,e2,sizeOf,typeInfo,I,J,S,Addr.add];exact λe=>e.symm
theorem Qka {t e sz bys:Nat}{z:Value}[h:Sl P t e sz bys z] {s y:Operand}{g n cap:Nat}{cur:LV}(H:Q3 w.heap g e cur) (J:ev f s=.slice (some ⟨g,0,none⟩) n cap) (S:cur.length=cap*sz)
  {a:Addr} {m c:Nat} {news:LV} (hy:ev f y=.slice (some a) m c) (hl:news.length=m*sz) {L:LN} (T:At L w.heap a news) (h1:∀u∈news,u.oneCell'=true) (I:n+m≤cap)
  (V:∀w',Step [g] w w'→Q3 w'.heap g e (cur.take (n*sz)++news++cur.drop (n*sz+news.length))→K (QX f d (.slice (some ⟨g,0,none⟩) (n+m) cap)) w') :
  XO P ⟨d,.call ⟨.builtin .append,#[s,y],#[t,t]⟩,ty,ps,af,gd⟩ f w K:=by
 obtain ⟨i,hi,hz,E,hb⟩:=Sl.info h;have Y:n*i.size+news.length≤cur.toArray.size:=by
  rw[LR,S,hl,E,←MF];exact Mr _ I
 have G:=run_append_room (P:=P) w t ty e i h.u hi g n cap cur.toArray H a m c news (by rw[E];exact hl) T.cells h1 I Y;rw[E] at G;have ha:(execOp (ev f) ⟨d,.call ⟨.builtin .append,#[s,y],#[t,t]⟩,ty,ps,af,gd⟩).run P w=.ok (.value (.slice (some ⟨g,0,none⟩) (n+m) cap)) (w.setRow g (cur.take (n*sz)++news++cur.drop (n*sz+news.length)).toArray):=by
  simp[execOp,resolve,invoke,builtin,J,hy] at G ⊢;simp[G]
 exact xv ha (V _ (Step.setRow _ _ _) (Xl H))
end
end Go.Lg
namespace Go.Proofs.YtdffckgdcegpaaaGreatDoor
open Go.Proofs.Tryz
open Go.Lg
theorem Qjq {f:Fr}{w:World}{K:Fr→World→Prop}{d:Option Nat}{ty:Nat}{ps:String}{af:Array Edge}{gd:Option (Nat×Bool)}{P:Program}{t:Nat}[h1:XC P t] {x y:Operand}{base T sz n g cap k:Nat}{cs:LV}{u:Value}
  (h:w.ownsRow base T sz (.slice (some ⟨g,0,none⟩) n cap) n cs) (hx:ev f x=.pointer (some ⟨g,k,none⟩)) (hy:ev f y=u) (hk:k<n*sz) (hu:u.oneCell'=true)
  (G:∀w',Step [g] w w'→w'.ownsRow base T sz (.slice (some ⟨g,0,none⟩) n cap) n (cs.set k u)→K (QX f d undef) w'):XO P ⟨d,.store t x y,ty,ps,af,gd⟩ f w K:=by
 obtain ⟨H,cur,I,hl,E⟩:=Uv h;have V:n*sz≤cap*sz:=Mr _ H;refine QG (j:=k) I hx hy (by omega) hu λw' J S=>G w' J ?_;refine yw h (Lr _) S (by rw[MS];exact hl) ?_ (by rw[MS,←E,Lx];omega);rw[List.take_set,E]
structure GV where
 v:Value
 ms:LN
 b:Nat
abbrev Q5 (g:GV):LV:=[g.v,.int .u16 (g.b:Int)]
theorem YU (g:GV):(Q5 g).length=2:=rfl
theorem QcG:∀(l:List GV) (k:Nat),(l.flatMap Q5).take (k*2)=(l.take k).flatMap Q5
 | [],k=>by simp
 | a::l,0=>by simp
 | a::l,k+1=>by
  rw[show (k+1)*2=k*2+2 by omega,LB,L5,LB,←QcG l k];rfl
theorem yU:∀(l:List GV) (k:Nat),(l.flatMap Q5).drop (k*2)=(l.drop k).flatMap Q5
 | [],k=>by simp
 | a::l,0=>by simp
 | a::l,k+1=>by
  rw[show (k+1)*2=k*2+2 by omega,LB,List.drop_succ_cons,←yU l k];rfl
theorem Qbn:∀(l:List GV) (k:Nat) (e:GV),l[k]?=some e→(∀v ms,(l.flatMap Q5).set (k*2) v=(l.set k ⟨v,ms,e.b⟩).flatMap Q5)∧∀b:Nat,(l.flatMap Q5).set (k*2+1) (.int .u16 (b:Int))=(l.set k ⟨e.v,e.ms,b⟩).flatMap Q5
 | [],k,e,h=>by simp at h
 | a::l,0,e,h=>by
  cases h
  exact ⟨λv ms=>O,λb=>O⟩
 | a::l,k+1,e,h=>by
  obtain ⟨h1,h2⟩:=Qbn l k e (by simpa using h);refine ⟨λv ms=>?_,λb=>?_⟩
  ·rw[Nc,LB,LB,←h1 v ms,show (k+1)*2=k*2+2 by omega];rfl
  rw[Nc,LB,LB,←h2 b,show (k+1)*2+1=(k*2+1)+2 by omega];rfl
set_option maxRecDepth 100000 in
set_option maxHeartbeats 4000000 in
theorem QiS {w:World}{base:Nat}{v:Value}{l:List GV}(h:w.ownsRow base 200 2 v l.length (l.flatMap Q5)) (T:∀g∈l,g.v.oneCell'=true) {k:Nat}(hk:k<l.length) (hl:l.length≤1000) :
  QJ prog 100 [v,.int .i64 (k:Int),.int .i64 ((k+1:Nat):Int)] w λr w'=>Step (ob v) w w'∧ob r=ob v∧w'.ownsRow base 200 2 r (l.length - 1) ((l.take k++l.drop (k+1)).flatMap Q5):=by
 obtain ⟨g,cap,rfl⟩:=X6 h (by omega);obtain ⟨hr,cur,V,Y,ha⟩:=Uv h;have hs:=Y0 YU l;refine QJ.of_W func100 O ntmps100 results100 (by simp) ?_;refine Qc<|Qe<|Qc<|Qb<|Qb<|Qb<|Qb<|x (V2 O)<|x (Qdu (lo:=k) (hi:=k+1) (m:=l.length) O O O O (by omega) (by omega) (by omega))<|xe<|Qf<|Qc<|Qb<|Qb<|x (Q8 O O)<|xe ?_
 refine Q7 rfl (λG=>absurd (show (k:Int)=((k+1:Nat):Int) from G) (by omega)) (λG=>?_);refine Qi<|Qc<|Qb<|x (V2 O)<|Qe ?_;have E:((l.drop (k+1)).flatMap Q5).length=(l.length - (k+1))*2:=by rw[Y0 YU,L7]
 have hb:At [] w.heap ⟨g,if cap=k+1 then 0 else (k+1)*2,none⟩ ((l.drop (k+1)).flatMap Q5):=by
  by_cases hc:cap=k+1
  ·have:(l.drop (k+1)).flatMap Q5=[]:=Lo (by rw[E];omega);rw[this];exact ⟨λu hu=>(by cases hu),λu hu=>(by cases hu),λj u hu=>(by cases hu)⟩
  rw[if_neg hc];have h1:=je (QR (L:=[]) h (by omega) (by simp)) rfl;refine ⟨λu _=>by simp,λu hu=>h1.lt u (by rw[←yU] at hu;exact Mz hu),λj u hu=>?_⟩;rw[←yU,MH] at hu;have h2:=h1.cell _ u hu;have e:(⟨g,(k+1)*2,none⟩:Addr).add j=(⟨g,0,none⟩:Addr).add ((k+1)*2+j):=by rw[Addr.add_lit,Addr.add_lit,LP]
  rw[e];exact h2
 have he:∀u∈(l.drop (k+1)).flatMap Q5,u.oneCell'=true:=λu hu=>by
  obtain ⟨q,hq,hu⟩:=ME.1 hu;have hf:=T q (Mz hq);simp only[List.mem_cons,List.not_mem_nil,or_false] at hu;rcases hu with rfl | rfl
  ·exact hf
  rfl
 refine Qf<|QS (λ_=>True) [(0,true),(1,true),(2,true),(3,true),(4,true),(5,true),(6,false),(7,true)] mixed (by rfl) (by kernel_rfl) U ?_;have hd:Step [] w { w with drawn:=w.drawn+1 }:=Step.drew _ _
 refine p (λ_=>Ql)<|p (λ_=>Ql)<|p (λ_=>zo (hi:=k) O O (by omega))<|p (λ_=>Ql)<|p (λ_=>Ql)<|p (λ_=>zn (lo:=k+1) O O (by omega)) <|
  pk<|Qka (g:=g) (n:=k) (cap:=cap) (cur:=cur) (m:=l.length - (k+1)) (L:=[]) V O Y O E (hb.ext hd) he (by omega) λw2 hg H=>⟨U,p (λ_=>Qh)<|pe ?_⟩
 have hh:Step [g] w w2:=hd.any.trans' hg;have em:k+(l.length - (k+1))=l.length - 1:=by omega
 have I:(cur.take (k*2)++(l.drop (k+1)).flatMap Q5).length=(l.length - 1)*2:=by
  rw[Li,Lx,E];omega
 have hj:(cur.take (k*2)++(l.drop (k+1)).flatMap Q5++cur.drop (k*2+((l.drop (k+1)).flatMap Q5).length)).length=cap*2:=by
  rw[Li,I,L7,E];omega
 have J:(cur.take (k*2)++(l.drop (k+1)).flatMap Q5++cur.drop (k*2+((l.drop (k+1)).flatMap Q5).length)).take ((l.length - 1)*2)=(l.take k++l.drop (k+1)).flatMap Q5:=by
  rw[List.take_left' I,Lz,←QcG l k,←ha,List.take_take,MI (by omega)]
 refine Zb (cur.take (k*2)++(l.drop (k+1)).flatMap Q5++cur.drop (k*2+((l.drop (k+1)).flatMap Q5).length)) λht hn=>?_;rw[hn] at H hj J;refine Qc<|Qb<|Qb<|x (V2 O)<|Qb<|x (Qdt (lo:=k+(l.length - (k+1))) (hi:=l.length) O O O (by omega) (by omega) (by omega)) <|
  xl rfl<|Qcg (m:=l.length - (k+(l.length - (k+1)))) (o:=(k+(l.length - (k+1)))*2) (λu hu=>by simp[Value.cells] at hu;rcases hu with rfl | rfl <;> rfl) H ⟨_,rfl,λ_=>⟨O,by omega⟩⟩ λw3 hv ho hp hw S=>xe ?_
 refine Qc<|Qb<|Qe<|Qn ⟨[.slice (some ⟨g,0,none⟩) (k+(l.length - (k+1))) cap],Z,hh.trans' ho,O,?_⟩;rw[em] at S ⊢;exact yw h (by omega) hp (by omega) (S.trans J) (by rw[Y0 YU,Li,Lx,L7];omega)
end Go.Proofs.YtdffckgdcegpaaaGreatDoor
namespace Go.Proofs
open Go.Proofs.Tryz
open Go.Shelf
def Tryz.sortLs_ren:Go.Shelf.Ren:=⟨λ| 6=>102 | 15=>176 | 14=>177 | 28=>229 | 29=>230 | 20=>231 | 21=>232 | 22=>233 | 23=>234 | 24=>235 | 25=>236 | 26=>237 | 27=>238 | 46=>272 | 47=>268 | 48=>269 | 49=>273 | 50=>274 | 57=>297 | n=>n,λ| 22=>74 | 24=>37 | 25=>204 | 3=>3 | 39=>269 | 0=>0 | 53=>338 | 55=>340 | 4=>4 | 46=>332 | 45=>331 | 50=>178 | 5=>5 | 9=>9 | 66=>372 | 70=>376 | 76=>401 | 77=>381 | n=>n,λ| n=>n⟩
theorem Tryz.sortLs:Go.Proofs.SlLaysF.n6 prog Tryz.sortLs_ren:={
 mixed:=by kernel_rfl
 f6:=⟨Tryz.f102.name,by decide,func102.trans (congrArg some (by kernel_rfl))⟩
 f14:=⟨Tryz.f177.name,by decide,func177.trans (congrArg some (by kernel_rfl))⟩
 f15:=func176.trans (congrArg some (by kernel_rfl))
 f20:=⟨Tryz.f231.name,by decide,func231.trans (congrArg some (by kernel_rfl))⟩
 f21:=⟨Tryz.f232.name,by decide,func232.trans (congrArg some (by kernel_rfl))⟩
 f22:=⟨Tryz.f233.name,by decide,func233.trans (congrArg some (by kernel_rfl))⟩
 f23:=⟨Tryz.f234.name,by decide,func234.trans (congrArg some (by kernel_rfl))⟩
 f24:=⟨Tryz.f235.name,by decide,func235.trans (congrArg some (by kernel_rfl))⟩
 f25:=⟨Tryz.f236.name,by decide,func236.trans (congrArg some (by kernel_rfl))⟩
 f26:=⟨Tryz.f237.name,by decide,func237.trans (congrArg some (by kernel_rfl))⟩
 f27:=⟨Tryz.f238.name,by decide,func238.trans (congrArg some (by kernel_rfl))⟩
 f28:=func229.trans (congrArg some (by kernel_rfl))
 f29:=func230.trans (congrArg some (by kernel_rfl))
 f46:=⟨Tryz.f272.name,by decide,func272.trans (congrArg some (by kernel_rfl))⟩
 f47:=func268.trans (congrArg some (by kernel_rfl))
 f48:=func269.trans (congrArg some (by kernel_rfl))
 f49:=⟨Tryz.f273.name,by decide,func273.trans (congrArg some (by kernel_rfl))⟩
 f50:=⟨Tryz.f274.name,by decide,func274.trans (congrArg some (by kernel_rfl))⟩
 f57:=⟨Tryz.f297.name,by decide,func297.trans (congrArg some (by kernel_rfl))⟩
 t0:=underlying0
 a0:=Tryz.isAgg0
 z0:=Tryz.sizeOf0
 v0:=Tryz.zeroValue0
 t3:=underlying3
 a3:=Tryz.isAgg3
 z3:=Tryz.sizeOf3
 v3:=Tryz.zeroValue3
 t4:=underlying4
 a4:=Tryz.isAgg4
 z4:=Tryz.sizeOf4
 v4:=Tryz.zeroValue4
 t5:=underlying5
 a5:=Tryz.isAgg5
 z5:=Tryz.sizeOf5
 v5:=Tryz.zeroValue5
 t9:=underlying9
 a9:=Tryz.isAgg9
 z9:=Tryz.sizeOf9
 v9:=Tryz.zeroValue9
 t22:=underlying74
 a22:=Tryz.isAgg74
 z22:=Tryz.sizeOf74
 v22:=Tryz.zeroValue74
 a24:=Tryz.isAgg37
 z24:=Tryz.sizeOf37
 t25:=underlying204
 a25:=Tryz.isAgg204
 z25:=Tryz.sizeOf204
 v25:=Tryz.zeroValue204
 t39:=underlying269
 a39:=Tryz.isAgg269
 z39:=Tryz.sizeOf269
 v39:=Tryz.zeroValue269
 t45:=underlying331
 a45:=Tryz.isAgg331
 z45:=Tryz.sizeOf331
 v45:=Tryz.zeroValue331
 t46:=underlying332
 a46:=Tryz.isAgg332
 z46:=Tryz.sizeOf332
 v46:=Tryz.zeroValue332
 t50:=underlying178
 a50:=Tryz.isAgg178
 z50:=Tryz.sizeOf178
 v50:=Tryz.zeroValue178
 t53:=underlying338
 a53:=Tryz.isAgg338
 z53:=Tryz.sizeOf338
 v53:=Tryz.zeroValue338
 t55:=underlying340
 a55:=Tryz.isAgg340
 z55:=Tryz.sizeOf340
 v55:=Tryz.zeroValue340
 t66:=underlying372
 a66:=Tryz.isAgg372
 z66:=Tryz.sizeOf372
 v66:=Tryz.zeroValue372
 t70:=underlying376
 a70:=Tryz.isAgg376
 z70:=Tryz.sizeOf376
 v70:=Tryz.zeroValue376
 t76:=underlying401
 a76:=Tryz.isAgg401
 z76:=Tryz.sizeOf401
 v76:=Tryz.zeroValue401
 t77:=underlying381
 a77:=Tryz.isAgg381
 z77:=Tryz.sizeOf381
 v77:=Tryz.zeroValue381 }
end Go.Proofs
namespace Go.Proofs.YtdffckgdcegpaaaGreatDoor
open Go.Proofs.Tryz
open Go.Lg Go.Sort
abbrev Ug (q:TV):Int:=cget q.2 0
theorem QgC {W:World}{x y:TV}(hx:QL [] W.heap x.1 x.2) (hy:QL [] W.heap y.1 y.2) (E:0<x.2.length) (G:0<y.2.length) (bx:0≤Ug x∧Ug x<1000) (bY:0≤Ug y∧Ug y<1000) :
  QJ prog 103 [x.1,y.1] W λr w'=>r=.int .i64 (Ug x - Ug y)∧w'={ W with drawn:=W.drawn+1 }:=by
 have I:0≤cget x.2 0∧cget x.2 0<1000:=bx;have bY':0≤cget y.2 0∧cget y.2 0<1000:=bY;refine QJ.of_W func103 O ntmps103 results103 (by simp) ?_;refine Qc<|Lg.Qe<|Qf<|QS (Step [] W) [(0,true),(1,true),(2,true),(3,true),(4,true),(5,true),(6,true),(7,true)] mixed (by rfl) (by kernel_rfl) (Step.drew _ _) ?_
 refine p (λ_=>Ql)<|pic (i:=0) O hx O O E λJ H=>pq (λ_ hc=>Qu (H.ext hc) O)<|p (λ_=>Ql)<|pic (i:=0) O hy O O G λS h9=>pq (λ_ hc=>Qu (h9.ext hc) O) <|
  p (λ_=>X2 O O ⟨by omega,by omega⟩)<|p (λ_=>Qh)<|pe ?_
 exact Qn ⟨[.int .i64 (Ug x - Ug y)],Z,O,O⟩
section
variable {α:Type} [Inhabited α] {enc:α→Value}
theorem Qa6 {e:Nat}{w:World}{l:List α}{g:Nat}{cur:Array Value}(G:w.heap[g]?=some (.cells cur e (0,0))) (H:cur.toList.take (l.length*1)=l.map enc):Holds enc w g 0 l.toArray:=by
 intro j E;rw[LR] at E;have h1:cur.toList[j]?=some (enc (l[j]'E)):=by
  have h2:(cur.toList.take (l.length*1))[j]?=(l.map enc)[j]?:=by rw[H]
  rw[LW,if_pos (by omega),Mj,Lt E] at h2;exact h2
 have h3:l.toArray[j]! = l[j]'E:=by simp[E]
 constructor
 ·show (match w.heap[g]? with | some (.cells c _ _)=>if (none:Option _).isSome then none else c[0+j]? | _=>none)=_
  rw[G,h3];simp only[Nat.zero_add,Option.isSome_none,Bool.false_eq_true,if_false];rw[←Mf,h1]
 show (match w.heap[g]? with | some (.cells _ _ (lo,hi))=>decide (lo≤0+j) && decide (0+j<hi) | _=>false)=false
 rw[G];simp
theorem Qe7 {e base:Nat}{w:World}{g cap n:Nat}{cur:Array Value}{os:Array Obj}{d:Array α}(I:base≤g) (H:w.heap[g]?=some (.cells cur e (0,0))) (J:d.size≤cap) (S:cap≤maxLen) (T:cur.size=cap*1) :
  Step [g] w (grow (putRow enc (Sort.ahead w n) g 0 d) os)∧(grow (putRow enc (Sort.ahead w n) g 0 d) os).ownsRow base e 1 (.slice (some ⟨g,0,none⟩) d.size cap) d.size (d.toList.map enc):=by
 have V:g<w.heap.size:=(LC.1 H).1;have E:(grow (putRow enc (Sort.ahead w n) g 0 d) os).heap=w.heap.modify g (onCells (putCells enc 0 d))++os:=rfl;refine ⟨⟨O,O,O,?_,λi hi Y=>?_⟩,?_⟩
 ·rw[E,MX,Ma];omega
 ·rw[E,Mg,Ma,if_pos hi,Mu,if_neg (λe=>Y (by simp[e]))]
 refine ⟨by simp,.inr ⟨g,cap,putCells enc 0 d cur,rfl,I,?_,J,S,by simp[putCells,T],?_⟩⟩
 ·rw[E,Mg,Ma,if_pos V,Mu,if_pos rfl,H];rfl
 apply M5;intro j;rw[LW,Mj];by_cases G:j<d.size
 ·rw[if_pos (by omega)];have ha:j<cur.size:=by omega
  rw[Mf,Mf,Mo G];simp only[putCells,Array.getElem?_mapIdx,Array.getElem?_eq_getElem ha,Option.map_some,Nat.zero_le,Nat.zero_add,true_and,if_pos G,Nat.sub_zero];rw[getElem!_pos d j G]
 rw[if_neg (by omega),Mf,Array.getElem?_eq_none (by omega)];rfl
end
theorem z7:∀os:List TV,os.flatMap Zz=os.map (·.1)
 | []=>rfl
 | q::os=>by rw[LB,LK,z7 os];rfl
theorem UQ (os:List TV) (E:TV):(List.range os.length).map (λk=>os.getD k E)=os:=by
 refine Mk (by simp) λi h1 h2=>?_;rw[Mb,Nd,LU,Lt h2];rfl
set_option maxHeartbeats 2000000 in
theorem Qdk {w:World}{base:Nat}{v:Value}{os:List TV}(h:w.ownsRow base 37 1 v os.length (os.flatMap Zz)) (hl:os.length≤1000) (hq:∀q∈os,QL (ob v) w.heap q.1 q.2∧0<q.2.length∧0≤Ug q∧Ug q<1000) :
  QJ prog 102 [v,.func (.func 103) #[] #[]] w λ_ w'=>Step (ob v) w w'∧∃os':List TV,os'.Perm os∧os'.Pairwise (λx y=>Ug x≤Ug y)∧w'.ownsRow base 37 1 v os'.length (os'.flatMap Zz):=by
 unfold QJ;rcases h.2 with ⟨rfl,h0⟩ | ⟨g,cap,cur,rfl,ho,S,hB,hr,hs,ht⟩
 ·have hu:os=[]:=Lo h0;subst hu;have hc:=AnyF.slices_SortFunc_none { Tryz.sortLs with } none 0 (.func (.func 103) #[] #[]) w
  change Calls prog 102 _ _ _ at hc;refine Calls.mono hc λe w' he=>?_;obtain ⟨rfl,rfl⟩:=he;exact ⟨Step.refl _ _,[],List.Perm.refl _,List.Pairwise.nil,h⟩
 by_cases hz:os=[]
 ·subst hz;have hc:=AnyF.slices_SortFunc_none { Tryz.sortLs with } (some ⟨g,0,none⟩) cap (.func (.func 103) #[] #[]) w
  change Calls prog 102 _ _ _ at hc;refine Calls.mono hc λe w' he=>?_;obtain ⟨rfl,rfl⟩:=he;exact ⟨Step.refl _ _,[],List.Perm.refl _,List.Pairwise.nil,h⟩
 obtain ⟨E,hv⟩:=List.exists_mem_of_ne_nil os hz;have T:∀k:Nat,os.getD k E∈os:=λk=>by
  rw[LU];cases e:os[k]? with
  | none=>exact hv
  | some q=>exact LT e
 have hw:g<w.heap.size:=(LC.1 S).1;have hy:cur.toList.take ((List.range os.length).length*1)=(List.range os.length).map λk:Nat=>(os.getD k E).1:=by
  rw[Nj,ht,z7];conv=>lhs;rw[←UQ os E]
  rw[Me];rfl
 have hH:Holds (λk:Nat=>(os.getD k E).1) w g 0 (List.range os.length).toArray:=Qa6 S hy;have h1:OneCell λk:Nat=>(os.getD k E).1:=λk=>(hq _ (T k)).1.one;have h3:SWO (ltOf λj k:Nat=>Ug (os.getD j E) - Ug (os.getD k E)) :=
  ⟨λx=>by unfold ltOf;simp,λx y z h1 h2=>by unfold ltOf at *;simp at *;omega,λx y z h1 h2=>by unfold ltOf at *;simp at *;omega⟩
 have eg:∀args w,(callFunc 103 args).run prog w=.ok (.enter 103 args) w:=enters_of func103 (by kernel_rfl) O;have Y:∀(m:Nat) (H:Array Obj) (dk:Array Nat),Step [g] w (sortWorld (λk:Nat=>(os.getD k E).1) w g 0 m dk H):=λm H dk=>by
  have ha:(sortWorld (λk:Nat=>(os.getD k E).1) w g 0 m dk H).heap=w.heap.modify g (onCells (putCells (λk:Nat=>(os.getD k E).1) 0 dk))++H:=rfl;refine ⟨rfl,O,O,?_,λi hi hn=>?_⟩
  ·rw[ha,MX,Ma];omega
  rw[ha,Mg,Ma,if_pos hi,Mu,if_neg (λe=>hn (by simp[e]))]
 have h4:CmpReads prog 103 #[] (λk:Nat=>(os.getD k E).1) (λj k:Nat=>Ug (os.getD j E) - Ug (os.getD k E)) g 0 (List.range os.length).toArray.size w:=λm H dk _ j k=>by
  have qj:=hq _ (T j);have qk:=hq _ (T k);have r1:=QgC (((qj.1).st (Y m H dk)).up (by simp)) (((qk.1).st (Y m H dk)).up (by simp)) qj.2.1 qk.2.1 qj.2.2 qk.2.2;unfold QJ at r1;refine Calls.mono r1 λe w' he=>?_;cases e with
  | returned r =>
   obtain ⟨rfl,rfl⟩:=he;exact ⟨rfl,1,O⟩
  | _=>exact he.elim
 have hc:=Any.slices_SortFunc Tryz.sortLs (λk:Nat=>(os.getD k E).1) h1 (λj k:Nat=>Ug (os.getD j E) - Ug (os.getD k E)) h3 103 #[] g 0 cap (List.range os.length).toArray w eg h4.lays hH hw (by simp;omega);change Calls prog 102 _ _ _ at hc;rw[LR,Nj] at hc;refine Calls.mono hc λe w' he=>?_;obtain ⟨rfl,G,n,H,hp,h8,rfl⟩:=he
 have I:G.size=os.length:=by have:=hp.1;simpa using this
 have h9:G.toList.Perm (List.range os.length):=by
  have:=hp.2.2;simpa[I,Array.extract_eq_self_of_le] using this
 have hb:=Qe7 (enc:=λk:Nat=>(os.getD k E).1) (n:=n) (os:=H) (d:=G) ho S (by omega) hr hs;refine ⟨hb.1,G.toList.map λk=>os.getD k E,?_,?_,?_⟩
 ·have:=h9.map λk=>os.getD k E
  rwa [UQ] at this
 ·rw[Mn,LY];intro i j hi V hA;have h5:=h8 i j (Lk _) hA (by simpa[I] using V);have hf:i<G.size:=by simpa using hi
  have hh:j<G.size:=by simpa using V
  rw[getElem!_pos G i hf,getElem!_pos G j hh] at h5;have h6:¬Ug (os.getD (G[j]'hh) E) - Ug (os.getD (G[i]'hf) E)<0:=of_decide_eq_false h5;show Ug (os.getD (G.toList[i]'hi) E)≤Ug (os.getD (G.toList[j]'V) E);rw[Array.getElem_toList,Array.getElem_toList];exact Int.not_lt.1 λJ=>h6 (Int.sub_neg_of_lt J)
 have J:=hb.2;rw[I] at J;have e8:G.toList.length=os.length:=by simpa using I
 rw[Lb,e8,z7,Me];exact J
theorem zS {R:Nat→Nat→Bool}{g q:LN}:∀(B:List (LN)) (C:List (LN)),(∀h∈B,VJ R g h=false)→VJ R g q=true→QbH R g (B++q::C)=some (g++q,B++C)
 | [],C,_,h=>by rw[L8,QbH,h,cond_true];rfl
 | b::B,C,E,h=>by
  rw[Mc,QbH,E b Ln,cond_false,zS B C (λx hx=>E x (Ll _ hx)) h];rfl
theorem VV {R:Nat→Nat→Bool}{g:LN}:∀(B:List (LN)),(∀h∈B,VJ R g h=false)→QbH R g B=none
 | [],_=>rfl
 | b::B,E=>by rw[QbH,E b Ln,cond_false,VV B (λx hx=>E x (Ll _ hx))];rfl
theorem zB {R:Nat→Nat→Bool}:∀l:List (LN),l.Pairwise (λx y=>VJ R x y=false)→yF R l=none
 | [],_=>rfl
 | g::r,h=>by
  have h':=LG.1 h;rw[yF,VV r h'.1,zB r h'.2];rfl
theorem zz {R:Nat→Nat→Bool}{p q:LN}{B C:List (LN)}(E:∀h∈B,VJ R p h=false) (G:VJ R p q=true):∀A:List (LN),A.Pairwise (λx y=>VJ R x y=false)→(∀x∈A,∀y∈p::(B++q::C),VJ R x y=false) →
  yF R (A++p::(B++q::C))=some (A++(p++q)::(B++C))
 | [],_,_=>by rw[L8,yF,zS B C E G];rfl
 | a::A,I,hx=>by
  have H:=LG.1 I;rw[Mc,yF,VV _ (λy hy=>by
   rcases Lj.1 hy with hy | hy
   ·exact H.1 y hy
   exact hx a Ln y hy),zz E G A H.2 (λx J y hy=>hx x (Ll _ J) y hy)]
  rfl
structure GrP (bs:LN) (l:List GV):Prop where
 bt:∀q∈l,∀j,q.b.testBit j=true↔∃x∈q.ms,(bs.getD x 0).testBit j=true
 lt:∀q∈l,q.b<65536
 ne:∀q∈l,q.ms≠[]
 nd:(l.flatMap (·.ms)).Nodup
 rg:∀q∈l,∀x∈q.ms,x<bs.length
theorem Qh8 {E:LN}{p q:GV}(hp:∀j,p.b.testBit j=true↔∃x∈p.ms,(E.getD x 0).testBit j=true) (hq:∀j,q.b.testBit j=true↔∃x∈q.ms,(E.getD x 0).testBit j=true) (hd:∀x∈p.ms,x∉q.ms) :
  VJ (UP E) p.ms q.ms=decide (p.b &&& q.b≠0):=by
 rw[Bool.eq_iff_iff,decide_eq_true_iff,jf];unfold VJ;rw[Ml];constructor
 ·rintro ⟨a,ha,h1⟩;obtain ⟨c,hc,h2⟩:=Ml.1 h1;unfold UP at h2;rw[Lv,decide_eq_true_iff,decide_eq_true_iff,jf] at h2;obtain ⟨_,j,h3,G⟩:=h2;exact ⟨j,(hp j).2 ⟨a,ha,h3⟩,(hq j).2 ⟨c,hc,G⟩⟩
 rintro ⟨j,h3,G⟩;obtain ⟨a,ha,h5⟩:=(hp j).1 h3;obtain ⟨c,hc,H⟩:=(hq j).1 G;refine ⟨a,ha,Ml.2 ⟨c,hc,?_⟩⟩;unfold UP;rw[Lv,decide_eq_true_iff,decide_eq_true_iff,jf];exact ⟨λe=>hd a ha (by rw[e];exact hc),j,h5,H⟩
theorem Qck {l:List GV}(h:(l.flatMap (·.ms)).Nodup):l.Pairwise λx y=>∀a∈x.ms,a∉y.ms:=by
 induction l with
 | nil=>exact List.Pairwise.nil
 | cons q l ih =>
  rw[LB] at h;have h':=MM.1 h;refine LG.2 ⟨λy hy a ha E=>?_,ih h'.2.1⟩;exact h'.2.2 a ha a (ME.2 ⟨y,hy,E⟩) O
theorem GrP.mt {E:LN}{l:List GV}(h:GrP E l) {i k:Nat}(hi:i<k) (hk:k<l.length):VJ (UP E) (l[i]'(by omega)).ms (l[k]'hk).ms=decide ((l[i]'(by omega)).b &&& (l[k]'hk).b≠0):=by
 have hd:=LY.1 (Qck h.nd) i k (by omega) hk hi;exact Qh8 (h.bt _ (Lh _)) (h.bt _ (Lh _)) hd
theorem GrP.merge {G:LN}{A B C:List GV}{p q:GV}(h:GrP G (A++p::(B++q::C))) (v:Value):GrP G (A++⟨v,p.ms++q.ms,p.b ||| q.b⟩::(B++C)):=by
 have hp:=h.bt p (by simp);have hq:=h.bt q (by simp);have E:∀x,x∈A++(⟨v,p.ms++q.ms,p.b ||| q.b⟩:GV)::(B++C)→x=⟨v,p.ms++q.ms,p.b ||| q.b⟩∨x∈A++p::(B++q::C):=λx hx=>by
  simp only[List.mem_append,List.mem_cons] at hx ⊢;rcases hx with hx | hx | hx | hx
  ·exact .inr (.inl hx)
  ·exact .inl hx
  ·exact .inr (.inr (.inr (.inl hx)))
  exact .inr (.inr (.inr (.inr (.inr hx))))
 refine ⟨λx hx j=>?_,λx hx=>?_,λx hx=>?_,?_,λx hx y hy=>?_⟩
 ·rcases E x hx with rfl | hx
  ·show (p.b ||| q.b).testBit j=true↔∃y∈p.ms++q.ms,_;rw[Nat.testBit_or,Nv,hp j,hq j];constructor
   ·rintro (⟨y,hy,h1⟩ | ⟨y,hy,h1⟩)
    ·exact ⟨y,LF _ hy,h1⟩
    exact ⟨y,LQ _ hy,h1⟩
   rintro ⟨y,hy,h1⟩;rcases Lj.1 hy with hy | hy
   ·exact .inl ⟨y,hy,h1⟩
   exact .inr ⟨y,hy,h1⟩
  exact h.bt x hx j
 ·rcases E x hx with rfl | hx
  ·exact Nat.or_lt_two_pow (n:=16) (h.lt p (by simp)) (h.lt q (by simp))
  exact h.lt x hx
 ·rcases E x hx with rfl | hx
  ·intro e;exact h.ne p (by simp) (List.append_eq_nil_iff.1 e).1
  exact h.ne x hx
 ·refine List.Perm.nodup ?_ h.nd;simp only[List.flatMap_append,List.flatMap_cons];refine List.Perm.append_left _ ?_;rw[LA];refine List.Perm.append_left _ ?_;rw[←LA,←LA];exact List.Perm.append_right _ List.perm_append_comm
 rcases E x hx with rfl | hx
 ·rcases Lj.1 hy with hy | hy
  ·exact h.rg p (by simp) y hy
  exact h.rg q (by simp) y hy
 exact h.rg x hx y hy
theorem QiT {α:Type}{l:List α}{i k:Nat}(hi:i<k) (hk:k<l.length):∃A B C:List α,l=A++(l[i]'(by omega))::(B++(l[k]'hk)::C)∧A.length=i∧B.length=k - (i+1)∧A=l.take i∧B=(l.take k).drop (i+1):=by
 refine ⟨l.take i,(l.take k).drop (i+1),l.drop (k+1),?_,by rw[Lx];omega,by rw[L7,Lx];omega,O,O⟩;have h1:l=l.take k++l.drop k:=(Mv k l).symm;have h2:l.drop k=(l[k]'hk)::l.drop (k+1):=LJ hk;have hik:i<(l.take k).length:=by rw[Lx];omega
 have h3:l.take k=(l.take k).take i++(l.take k).drop i:=(Mv i _).symm;have E:(l.take k).drop i=((l.take k)[i]'hik)::(l.take k).drop (i+1):=LJ hik;have h5:(l.take k)[i]'hik=l[i]'(by omega):=MY;have G:(l.take k).take i=l.take i:=by rw[List.take_take,MI (by omega)]
 conv=>lhs;rw[h1,h2,h3,E,h5,G]
 simp
theorem QcN {α:Type}{A B C:List α}{p q E:α}:(A++p::(B++q::C)).set A.length E=A++E::(B++q::C):=by simp
theorem QiU {α:Type}{A B C:List α}{p q:α}{k:Nat}(hk:k=A.length+1+B.length):(A++p::(B++q::C)).take k++(A++p::(B++q::C)).drop (k+1)=A++p::(B++C):=by
 have e:A++p::(B++q::C)=(A++p::B)++q::C:=by simp
 have hl:(A++p::B).length=k:=by rw[hk];simp;omega
 rw[e,List.take_left' hl,←hl,List.drop_append,Lq (by omega),L8,MC];simp
abbrev KT (l:LI):LI:=l.mergeSort λx y=>decide (x≤y)
theorem VL (x:Nat):∀l:LN,(QdJ x l).Perm (x::l)
 | []=>List.Perm.refl _
 | y::l=>by
  rw[QdJ];cases Nat.ble x y with
  | true=>exact List.Perm.refl _
  | false=>exact ((VL x l).cons y).trans (List.Perm.swap x y l)
theorem YR:∀l:LN,(Uf l).Perm l
 | []=>List.Perm.refl _
 | x::l=>(VL x (Uf l)).trans ((YR l).cons x)
theorem Qcz (x:Nat):∀l:LN,l.Pairwise (·≤·)→(QdJ x l).Pairwise (·≤·)
 | [],_=>Mm _ _
 | y::l,h=>by
  have h':=LG.1 h;rw[QdJ];cases hb:Nat.ble x y with
  | true =>
   have E:=Nat.le_of_ble_eq_true hb;refine LG.2 ⟨λz hz=>?_,h⟩;rcases Lc.1 hz with rfl | hz
   ·exact E
   exact LS E (h'.1 z hz)
  | false =>
   have E:¬x≤y:=λe=>by rw[Nat.ble_eq_true_of_le e] at hb;cases hb
   refine LG.2 ⟨λz hz=>?_,Qcz x l h'.2⟩;rcases Lc.1 ((VL x l).mem_iff.1 hz) with rfl | hz
   ·omega
   exact h'.1 z hz
theorem Qcy:∀l:LN,(Uf l).Pairwise (·≤·)
 | []=>List.Pairwise.nil
 | x::l=>Qcz x _ (Qcy l)
theorem VM (x:LN):∀l:List (LN),(QdL x l).Perm (x::l)
 | []=>List.Perm.refl _
 | y::l=>by
  rw[QdL];cases Nat.ble (x.headD 0) (y.headD 0) with
  | true=>exact List.Perm.refl _
  | false=>exact ((VM x l).cons y).trans (List.Perm.swap x y l)
theorem Kd:∀l:List (LN),(QdK l).Perm l
 | []=>List.Perm.refl _
 | x::l=>(VM x (QdK l)).trans ((Kd l).cons x)
theorem QcB (x:LN):∀l:List (LN),l.Pairwise (λa b=>a.headD 0≤b.headD 0)→(QdL x l).Pairwise (λa b=>a.headD 0≤b.headD 0)
 | [],_=>Mm _ _
 | y::l,h=>by
  have h':=LG.1 h;rw[QdL];cases hb:Nat.ble (x.headD 0) (y.headD 0) with
  | true =>
   have E:=Nat.le_of_ble_eq_true hb;refine LG.2 ⟨λz hz=>?_,h⟩;rcases Lc.1 hz with rfl | hz
   ·exact E
   exact LS E (h'.1 z hz)
  | false =>
   have E:¬x.headD 0≤y.headD 0:=λe=>by rw[Nat.ble_eq_true_of_le e] at hb;cases hb
   refine LG.2 ⟨λz hz=>?_,QcB x l h'.2⟩;rcases Lc.1 ((VM x l).mem_iff.1 hz) with rfl | hz
   ·omega
   exact h'.1 z hz
theorem QcA:∀l:List (LN),(QdK l).Pairwise (λa b=>a.headD 0≤b.headD 0)
 | []=>List.Pairwise.nil
 | x::l=>QcB x _ (QcA l)
theorem yb (ms:LN):KT (nI ms)=nI (Uf ms):=by
 refine List.Perm.eq_of_pairwise (le:=λx y:Int=>x≤y) (λa b _ _ h1 h2=>by omega) ?_ ?_ ((M7 _ _).trans ?_)
 ·have h:=List.pairwise_mergeSort (le:=λx y:Int=>decide (x≤y)) (λa b c h1 h2=>by simp at *;omega) (λa b=>by simp;omega) (nI ms);exact h.imp λE=>of_decide_eq_true E
 ·unfold nI;rw[Mn];exact (Qcy ms).imp λE=>by omega
 exact (YR ms).symm.map _
theorem j1 {ms:LN}(h:ms≠[]):cget (nI ms) 0=((ms.headD 0:Nat):Int)∧ms.headD 0∈ms:=by
 match ms,h with
 | a::l,_=>exact ⟨O,Ln⟩
theorem QkC {l:List GV}{os:List TV}(hc:(l.flatMap (·.ms)).Nodup) (E:∀q∈l,q.ms≠[]) (hp:os.Perm (l.map λq=>((q.v,KT (nI q.ms)):TV))) (hs:os.Pairwise λx y=>Ug x≤Ug y) :
  os.map (·.2)=(QdK ((l.map (·.ms)).map Uf)).map nI:=by
 have G:∀ms:LN,ms≠[]→Uf ms≠[]:=λms h e=>h (by
  have:=(YR ms).length_eq;rw[e] at this;exact Lo this.symm)
 have he:=Qck hc;have S:∀x∈os.map (·.2),∃q∈l,x=nI (Uf q.ms):=λx hx=>by
  obtain ⟨t,ht,rfl⟩:=Ly.1 hx;obtain ⟨q,hq,rfl⟩:=Ly.1 (hp.mem_iff.1 ht);exact ⟨q,hq,yb q.ms⟩
 have T:(os.map (·.2)).Perm ((QdK ((l.map (·.ms)).map Uf)).map nI):=by
  refine (hp.map _).trans ?_;refine List.Perm.trans ?_ ((Kd _).symm.map nI);rw[Me,Me,Me];refine List.Perm.of_eq (List.map_congr_left λq _=>yb q.ms)
 refine List.Perm.eq_of_pairwise (le:=λx y:LI=>cget x 0≤cget y 0) (λa b ha hb h1 h2=>?_) ?_ ?_ T
 ·obtain ⟨p,H,rfl⟩:=S a ha;obtain ⟨q,I,rfl⟩:=S b (T.mem_iff.2 hb);have e1:=j1 (G _ (E p H));have e2:=j1 (G _ (E q I));rw[e1.1,e2.1] at h1 h2;have e3:(Uf p.ms).headD 0=(Uf q.ms).headD 0:=by omega
  have V:=(YR p.ms).mem_iff.1 e1.2;have J:=(YR q.ms).mem_iff.1 e2.2;rw[←e3] at J;obtain ⟨i,hi,rfl⟩:=LE H;obtain ⟨k,hk,rfl⟩:=LE I;have Y:=LY.1 he;rcases Nat.lt_trichotomy i k with hik | hik | hik
  ·exact absurd J (Y i k hi hk hik _ V)
  ·subst hik;rfl
  exact absurd V (Y k i hk hi hik _ J)
 ·rw[Mn];exact hs
 rw[Mn];refine List.Pairwise.imp_of_mem (λ{a b} ha hb hf=>?_) (QcA _);obtain ⟨x,hx,rfl⟩:=Ly.1 ((Kd _).mem_iff.1 ha);obtain ⟨y,hy,rfl⟩:=Ly.1 ((Kd _).mem_iff.1 hb);obtain ⟨p,H,rfl⟩:=Ly.1 hx;obtain ⟨q,I,rfl⟩:=Ly.1 hy;rw[(j1 (G _ (E p H))).1,(j1 (G _ (E q I))).1];omega
structure qI (N:Nat) (w:World) (vv:Value) (l:List GV):Prop where
 own:w.ownsRow N 200 2 vv l.length (l.flatMap Q5)
 each:∀q∈l,Qt 3 N w q.v (nI q.ms)
 dj:l.Pairwise λx y=>∀b∈ob x.v,b∉ob y.v
 db:∀q∈l,∀b∈ob q.v,b∉ob vv
theorem qI.nil {N:Nat}{w:World}:qI N w Za []:=⟨QO _ _ _ _,λq hq=>(by cases hq),List.Pairwise.nil,λq hq=>(by cases hq)⟩
theorem qI.ext {N:Nat}{w w':World}{vv:Value}{l:List GV}(h:qI N w vv l) (E:Step [] w w'):qI N w' vv l:=⟨Qm h.own E,λq hq=>Qm (h.each q hq) E,h.dj,h.db⟩
theorem qI.add {N M:Nat}{w E G:World}{vv H:Value}{l:List GV}{q:GV}(h:qI N w vv l) (I:Step [] w E) (hq:Qt 3 M E q.v (nI q.ms)) (hM:w.heap.size≤M) (V:N≤M)
  (Y:G.ownsRow N 200 2 H (l.length+1) (l.flatMap Q5++Q5 q)) (J:Step (ob vv) E G) (S:∀b∈ob H,b∈ob vv∨E.heap.size≤b):qI N G H (l++[q]):=by
 have hz:=I.size;have ha:=QP h.own;have T:∀b∈ob q.v,b∉ob vv:=λb hb hm=>by
  have h1:=(Qk hq b hb).1;have h2:=ha b hm;omega
 refine ⟨?_,λx hx=>?_,L0.2 ⟨h.dj,Mm _ _,λx hx y hy b hb hm=>?_⟩,λx hx b hb hm=>?_⟩
 ·rw[Li,Lz];simpa using Y
 ·rcases Lj.1 hx with hx | hx
  ·exact Qj (Qm (h.each x hx) I) J (h.db x hx)
  rw[La.1 hx];exact Zg (Qj hq J T) V
 ·rw[La.1 hy] at hm;have h1:=(Qk hq b hm).1;have h2:=QP (h.each x hx) b hb;omega
 rcases Lj.1 hx with hx | hx
 ·rcases S b hm with h1 | h1
  ·exact h.db x hx b hb h1
  have:=QP (h.each x hx) b hb;omega
 rw[La.1 hx] at hb;rcases S b hm with h1 | h1
 ·exact T b hb h1
 have:=QP hq b hb;omega
theorem qI.merge {N:Nat}{w wd G H:World}{vv E r:Value}{A B C:List GV}{p q:GV}{b':Nat}(h:qI N w vv (A++p::(B++q::C))) (hd:Step [] w wd) (hc:Step (ob p.v) wd G) (he:Qt 3 N G E (nI (p.ms++q.ms)))
  (I:∀b∈ob E,b∈ob p.v∨wd.heap.size≤b) (S:Step (ob vv) G H) (hf:ob r=ob vv) (hg:H.ownsRow N 200 2 r (A++(⟨E,p.ms++q.ms,b'⟩:GV)::(B++C)).length ((A++(⟨E,p.ms++q.ms,b'⟩:GV)::(B++C)).flatMap Q5)) :
  qI N H r (A++⟨E,p.ms++q.ms,b'⟩::(B++C)):=by
 have hz:=hd.size;have T:=h.dj;rw[L0,LG,L0,LG] at T;obtain ⟨hA,⟨hp,hB,⟨hq,hC⟩,hh⟩,J⟩:=T;have hj:p∈A++p::(B++q::C):=by simp
 have V:∀b∈ob E,b∉ob vv:=λb hb hm=>by
  rcases I b hb with h1 | h1
  ·exact h.db p hj b h1 hm
  have:=QP h.own b hm;omega
 have Y:∀x,x∈A++(⟨E,p.ms++q.ms,b'⟩:GV)::(B++C)→x=⟨E,p.ms++q.ms,b'⟩∨(x∈A++p::(B++q::C)∧∀b∈ob x.v,b∉ob p.v):=λx hx=>by
  simp only[List.mem_append,List.mem_cons] at hx ⊢;rcases hx with hx | hx | hx | hx
  ·exact .inr ⟨.inl hx,J x hx p Ln⟩
  ·exact .inl hx
  ·exact .inr ⟨.inr (.inr (.inl hx)),λb hb hm=>hp x (LF _ hx) b hm hb⟩
  exact .inr ⟨.inr (.inr (.inr (.inr hx))),λb hb hm=>hp x (LQ _ (Ll _ hx)) b hm hb⟩
 refine ⟨hg,λx hx=>?_,L0.2 ⟨hA,LG.2 ⟨λy hy b hb hm=>?_,L0.2 ⟨hB,hC,λa ha y hy=>hh a ha y (Ll _ hy)⟩⟩,λa ha y hy b hb hm=>?_⟩,λx hx b hb hm=>?_⟩
 ·rcases Y x hx with rfl | ⟨hx,hl⟩
  ·exact Qj he S V
  exact Qj (Qj (Qm (h.each x hx) hd) hc hl) S (h.db x hx)
 ·have hn:y∈A++p::(B++q::C):=by
   simp only[List.mem_append,List.mem_cons] at hy ⊢;rcases hy with hy | hy
   ·exact .inr (.inr (.inl hy))
   exact .inr (.inr (.inr (.inr hy)))
  rcases I b hb with h1 | h1
  ·refine hp y ?_ b h1 hm;rcases Lj.1 hy with hy | hy
   ·exact LF _ hy
   exact LQ _ (Ll _ hy)
  have:=QP (h.each y hn) b hm;omega
 ·rcases Lc.1 hy with rfl | hy
  ·rcases I b hm with h1 | h1
   ·exact J a ha p Ln b hb h1
   have:=QP (h.each a (LF _ ha)) b hb;omega
  refine J a ha y (Ll _ ?_) b hb hm;rcases Lj.1 hy with hy | hy
  ·exact LF _ hy
  exact LQ _ (Ll _ hy)
 rw[hf] at hm;rcases Y x hx with rfl | ⟨hx,_⟩
 ·exact V b hb hm
 exact h.db x hx b hb hm
structure GrT (N:Nat) (w:World) (vv vo:Value) (l:List GV) (j:Nat):Prop where
 own:w.ownsRow N 200 2 vv l.length (l.flatMap Q5)
 wo:w.ownsRow N 37 1 vo j ((l.take j).map (·.v))
 each:∀i q,l[i]?=some q→Qt 3 N w q.v (if i<j then KT (nI q.ms) else nI q.ms)
 dj:l.Pairwise λx y=>∀b∈ob x.v,b∉ob y.v
 db:∀q∈l,∀b∈ob q.v,b∉ob vv
 dq:∀q∈l,∀b∈ob q.v,b∉ob vo
 dv:∀b∈ob vv,b∉ob vo
theorem qI.start {N:Nat}{w:World}{vv:Value}{l:List GV}(h:qI N w vv l):GrT N w vv Za l 0 :=
 ⟨h.own,QO _ _ _ _,λi q hq=>(by rw[if_neg (by omega)];exact h.each q (LT hq)),h.dj,h.db,λq hq b hb hm=>(by cases hm),λb hb hm=>(by cases hm)⟩
theorem GrT.next {N j:Nat}{w hc I J S:World}{vv vo T:Value}{l:List GV}(h:GrT N w vv vo l j) (E:j<l.length) {q:GV}(hq:l[j]?=some q) (V:Step [] w hc) (Y:Step (ob q.v) hc I) (hn:Qt 3 N I q.v (KT (nI q.ms)))
  (G:Step [] I J) (ho:S.ownsRow N 37 1 T (j+1) ((l.take j).map (·.v)++[q.v])) (ha:Step (ob vo) J S) (he:∀b∈ob T,b∈ob vo∨J.heap.size≤b):GrT N S vv T l (j+1):=by
 have ht:=V.size;have hu:=Y.size;have hv:=G.size;have hf:=LT hq;have hh:l[j]'E=q:=by
  rw[Lt E] at hq;exact Option.some.inj hq
 have hr:∀i p,l[i]?=some p→i≠j→∀b∈ob p.v,b∉ob q.v:=λi p hp H b hb hm=>by
  obtain ⟨hi,rfl⟩:=LX.1 hp;have hg:=LY.1 h.dj;rw[←hh] at hm;rcases Nat.lt_or_gt_of_ne H with h1 | h1
  ·exact hg i j hi E h1 b hb hm
  exact hg j i E hi h1 b hm hb
 refine ⟨?_,?_,λi p hp=>?_,h.dj,h.db,λp hp b hb hm=>?_,λb hb hm=>?_⟩
 ·refine Qj (Qm (Qj (Qm h.own V) Y (λb hb hm=>h.db q hf b hm hb)) G) ha h.dv
 ·rw[Le E,Ls,hh];exact ho
 ·have hs:=LT hp;by_cases H:i=j
  ·subst H;rw[hq] at hp;cases hp
   rw[if_pos (by omega)];exact Qj (Qm hn G) ha (h.dq q hf)
  have h1:=Qj (Qm (Qj (Qm (h.each i p hp) V) Y (hr i p hp H)) G) ha (h.dq p hs);by_cases hl:i<j
  ·rw[if_pos hl] at h1;rw[if_pos (by omega)];exact h1
  rw[if_neg hl] at h1;rw[if_neg (by omega)];exact h1
 ·rcases he b hm with h1 | h1
  ·exact h.dq p hp b hb h1
  obtain ⟨i,hi,rfl⟩:=LE hp;have:=QP (h.each i _ (Lt hi)) b hb;omega
 rcases he b hm with h1 | h1
 ·exact h.dv b hb h1
 have:=QP h.own b hb;omega
def GrZ (l:List GV) (i k:Nat):Prop:=∀a b (ha:a<b) (hb:b<l.length),(a<i∨(a=i∧b<k))→(l[a]'(by omega)).b &&& (l[b]'hb).b=0
theorem GrZ.row {l:List GV}{i k:Nat}(h:GrZ l i k) (hk:l.length≤k):GrZ l (i+1) (i+2):=λa b ha hb hc=>by
 refine h a b ha hb ?_;rcases hc with hc | hc
 ·rcases Nat.lt_or_ge a i with h1 | h1
  ·exact .inl h1
  exact .inr ⟨by omega,by omega⟩
 omega
theorem GrZ.col {l:List GV}{i k:Nat}(h:GrZ l i k) (hi:i<k) (hk:k<l.length) (E:(l[i]'(by omega)).b &&& (l[k]'hk).b=0):GrZ l i (k+1):=λa b ha hb hc=>by
 by_cases e:a=i∧b=k
 ·obtain ⟨rfl,rfl⟩:=e;exact E
 refine h a b ha hb ?_;rcases hc with hc | hc
 ·exact .inl hc
 exact .inr ⟨hc.1,by omega⟩
theorem Qf5 {E:LN}{l:List GV}(H:GrP E l) {i k:Nat}(h:GrZ l i k) (hi:l.length≤i):yF (UP E) (l.map (·.ms))=none:=by
 refine zB _ ?_;rw[Mn,LY];intro a b ha hb G;rw[H.mt G hb];exact decide_eq_false (not_not_intro (h a b G hb (.inl (by omega))))
theorem Qf4 {E:LN}{A B C:List GV}{p q:GV}(G:GrP E (A++p::(B++q::C))) (h:GrZ (A++p::(B++q::C)) A.length (A.length+1+B.length)) (hm:p.b &&& q.b≠0) (v:Value) :
  yF (UP E) ((A++p::(B++q::C)).map (·.ms))=some ((A++(⟨v,p.ms++q.ms,p.b ||| q.b⟩:GV)::(B++C)).map (·.ms)):=by
 have V:(A++p::(B++q::C)).length=A.length+1+B.length+1+C.length:=by simp;omega
 have gp:(A++p::(B++q::C))[A.length]'(by omega)=p:=by simp
 have gq:(A++p::(B++q::C))[A.length+1+B.length]'(by omega)=q:=by
  rw[Mw (by omega)];simp only[show A.length+1+B.length - A.length=B.length+1 by omega,List.getElem_cons_succ];simp
 have hz:∀a b (ha:a<b) (hb:b<(A++p::(B++q::C)).length),(a<A.length∨(a=A.length∧b<A.length+1+B.length))→VJ (UP E) ((A++p::(B++q::C))[a]'(by omega)).ms ((A++p::(B++q::C))[b]'hb).ms=false:=λa b ha hb hc=>by
  rw[G.mt ha hb];exact decide_eq_false (not_not_intro (h a b ha hb hc))
 simp only[List.map_append,List.map_cons];refine zz (λx hx=>?_) ?_ _ ?_ (λx hx y hy=>?_)
 ·obtain ⟨y,hy,rfl⟩:=Ly.1 hx;obtain ⟨j,H,rfl⟩:=LE hy;have h1:=hz A.length (A.length+1+j) (by omega) (by omega) (.inr ⟨O,by omega⟩);rw[gp] at h1;have e:(A++p::(B++q::C))[A.length+1+j]'(by omega)=B[j]'H:=by
   rw[Mw (by omega)];simp only[show A.length+1+j - A.length=j+1 by omega,List.getElem_cons_succ];rw[L2 H]
  rw[e] at h1;exact h1
 ·have h1:=G.mt (i:=A.length) (k:=A.length+1+B.length) (by omega) (by omega);rw[gp,gq] at h1;rw[h1];exact decide_eq_true hm
 ·rw[Mn,LY];intro a b ha hb I;have h1:=hz a b I (by omega) (.inl (by omega));rw[L2 ha,L2 hb] at h1;exact h1
 obtain ⟨Y,J,rfl⟩:=Ly.1 hx;obtain ⟨a,ha,rfl⟩:=LE J;have S:y∈(p::(B++q::C)).map (·.ms):=by simpa using hy
 obtain ⟨y',T,rfl⟩:=Ly.1 S;obtain ⟨b,hb,rfl⟩:=LE T;have h1:=hz a (A.length+b) (by omega) (by rw[Li];omega) (.inl ha);rw[L2 ha] at h1;have e:(A++p::(B++q::C))[A.length+b]'(by rw[Li];omega)=(p::(B++q::C))[b]'hb:=by
  rw[Mw (by omega)];simp only[Nat.add_sub_cancel_left]
 rw[e] at h1;exact h1
theorem QiD {g:GV}(h:g.v.oneCell'=true):∀u∈Q5 g,u.oneCell'=true:=by
 intro u hu;simp only[Q5,List.mem_cons,List.not_mem_nil,or_false] at hu;rcases hu with rfl | rfl
 ·exact h
 rfl
theorem K5:∀{l:List GV},(l.flatMap (·.ms)).Nodup→∀q∈l,q.ms.Nodup
 | [],_,q,hq=>by cases hq
 | g::l,h,q,hq=>by
  rw[LB] at h;have h':=MM.1 h;rcases Lc.1 hq with rfl | hq
  ·exact h'.1
  exact K5 h'.2.1 q hq
theorem Qey (l:LN):(l.flatMap λb:Nat=>[Value.int .u16 (b:Int)])=QaN l:=by
 induction l with
 | nil=>rfl
 | cons a l ih=>rw[LB,ih];rfl
theorem QdQ {E:LN}{l:List GV}(hb:∀b∈E,b<65536) (h:(l.map λq=>(q.ms,q.b))=(List.range E.length).map λj=>([j],E.getD j 0)) :
  GrP E l∧l.length=E.length∧l.map (·.ms)=(List.range E.length).map λj=>[j]:=by
 have G:l.map (·.ms)=(List.range E.length).map λj=>[j]:=by
  have:=congrArg (List.map Prod.fst) h;rw[Me,Me] at this;exact this
 have H:l.length=E.length:=by
  have:=congrArg List.length h;simpa using this
 have hq:∀q∈l,∃j,j<E.length∧q.ms=[j]∧q.b=E.getD j 0:=λq hq=>by
  have h1:(q.ms,q.b)∈l.map λq=>(q.ms,q.b):=Ly.2 ⟨q,hq,O⟩;rw[h] at h1;obtain ⟨j,I,e⟩:=Ly.1 h1;exact ⟨j,Np.1 I,(congrArg Prod.fst e).symm,(congrArg Prod.snd e).symm⟩
 refine ⟨⟨λq hm j=>?_,λq hm=>?_,λq hm=>?_,?_,λq hm x hx=>?_⟩,H,G⟩
 ·obtain ⟨i,hi,e1,e2⟩:=hq q hm;rw[e1,e2];simp
 ·obtain ⟨i,hi,e1,e2⟩:=hq q hm;rw[e2,LU,Lt hi];exact hb _ (Lh hi)
 ·obtain ⟨i,hi,e1,e2⟩:=hq q hm;rw[e1];simp
 ·have e:l.flatMap (·.ms)=List.range E.length:=by
   rw[List.flatMap_def,G];generalize List.range E.length=r;induction r with
   | nil=>rfl
   | cons a r ih=>rw[LK,List.flatten_cons,ih];rfl
  rw[e];exact List.nodup_range
 obtain ⟨i,hi,e1,e2⟩:=hq q hm;rw[e1] at hx;rw[La.1 hx];exact hi
theorem qI.base {N N':Nat}{w:World}{vv:Value}{l:List GV}(h:qI N w vv l) (E:N'≤N):qI N' w vv l:=⟨Zg h.own E,λq hq=>Zg (h.each q hq) E,h.dj,h.db⟩
structure GmI (bs:LN) (N:Nat) (w w':World) (z:Value×List GV):Prop where
 st:Step [] w w'
 m:qI N w' z.1 z.2
 p:GrP bs z.2
 n:z.2.length≤bs.length
 eq:Qbc (UP bs) z.2.length (z.2.map (·.ms))=Qic (UP bs) bs.length
set_option maxRecDepth 100000 in
set_option maxHeartbeats 16000000 in
theorem Qef {L:LN}{w:World}{c:CL}(h0:Zx L w.heap c) :
  QJ prog 39 [c.val] w λr w'=>Step [] w w'∧∃v,r=.tuple #[v,.int .i64 (Zc c.cel)]∧(Zc c.cel≠0→v=nS)∧(Zc c.cel=0→q6 w.heap.size w'.heap v ((Qbo (UP (sets c.cel)) (sets c.cel).length).map nI)):=by
 have h:=h0.up (L':=[]) (by simp);have g3:=λ(w':World) (hs:Step [] w w') (V:Kl c.cel)=>Qb0 (h.ext hs) V;have g4:Kl c.cel→(sets c.cel).length≤96:=λV=>by
  have:=Uo V 3 (by omega);rw[UI] at this;omega
 have g5:Kl c.cel→∀b∈sets c.cel,b<65536:=by
  intro V b hb;unfold sets at hb;rcases Lj.1 hb with hb | hb
  ·exact JM V (m:=0) (by omega) b hb
  rcases Lj.1 hb with hb | hb
  ·exact JM V (m:=1) (by omega) b hb
  exact JM V (m:=2) (by omega) b hb
 refine Zb (sets c.cel) λJ g6=>?_;refine Zb (Zc c.cel) λE hE=>?_;rw[hE,g6];simp only[g6] at g3 g4 g5;refine QJ.of_W func39 O ntmps39 results39 (by simp) ?_;refine Qc<|xl O<|QT (us:=c.cells) O λb1 w1 g7 hb1 g8=>x Qh<|Qe<|Qjc<|Qf<|Qc<|x (Qs g8 O O)<|xl O<|xf<|(YF (h.ext g7)).mono ?_;rintro rc wc ⟨g9,ka⟩;rw[hE] at g9;subst g9;have mz:=g8.ext ka;have gc:=g7.trans ka
 refine Qe<|Qc<|Qb<|x (Q9 O O)<|xe<|Q7 rfl (λge=>?_) (λge=>?_)
 ·refine Qc<|Qb<|x Qh<|Qe ?_;exact Qn ⟨[nS,.int .i64 E],⟨O,O,U⟩,gc,nS,O,λ_=>O,λh0=>absurd h0 ge⟩
 have gg:E=0:=Lu.1 ge;have V:Kl c.cel:=(ZO (hE.trans gg)).sr;have hsl:=g4 V;have m0:=g5 V;refine Qi<|Qc<|Qe<|Qf<|Qc<|x (Qs mz O O)<|xl O<|xf<|(g3 wc gc V).mono ?_;rintro r2 w2 ⟨m1,m2⟩;have kb:=gc.trans m1;have hz02:=kb.size;have hA:Zo [] w2.heap r2 J.length 1 (QaN J):=QR m2 (by omega) (by simp)
 have m3:Zo [] w2.heap r2 J.length 1 (J.flatMap λb:Nat=>[Value.int .u16 (b:Int)]):=by rw[Qey];exact hA
 refine x (Qq hA O)<|Qb<|xe<|Qg<|Qy (α:=Nat×Value×List GV) [(5,7),(21,33)] (λz=>[(5,z.2.1),(21,.int .i64 (z.1:Int))]) (λz w'=>z.1≤J.length∧Step [] w2 w'∧qI w2.heap.size w' z.2.1 z.2.2∧(z.2.2.map λq=>(q.ms,q.b))=(List.range z.1).map λj=>([j],J.getD j 0)) (λz=>J.length - z.1) (by rfl) (0,Za,[]) ⟨O,O,U⟩
  ⟨Lk _,Step.refl _ _,qI.nil,O⟩ ?_
 rintro ⟨i,vv,l⟩ g w3 ⟨hi,hQ,hM,hv⟩
 replace hi:i≤J.length:=hi
 replace hM:qI w2.heap.size w3 vv l:=hM
 replace hv:(l.map λq=>(q.ms,q.b))=(List.range i).map λj=>([j],J.getD j 0):=hv;have hli:l.length=i:=by
  have:=congrArg List.length hv;simpa using this
 have m4:=kb.trans hQ;have hz3:=hQ.size;refine Qc<|x (QA O O)<|xe<|Qf<|QE O (λgh=>?_) (λgh=>?_)
 ·refine Qw ?_;have m5:i=J.length:=by have hh:¬(i:Int)<(J.length:Int):=gh;omega
  rw[m5] at hv;obtain ⟨hP,m6,m7⟩:=QdQ m0 hv
  replace hM:qI w.heap.size w3 vv l:=hM.base (by omega);refine Qf<|Qjd ?_;refine Qf<|Qg<|Qy (α:=Value×List GV) [(5,5),(8,9),(34,92)] (λz=>[(5,z.1)]) (λz w'=>GmI J w.heap.size w w' z) (λz=>z.2.length) (by rfl) (vv,l) Z
   ⟨m4,hM,hP,by show l.length≤_;omega,by show Qbc _ l.length (l.map (·.ms))=_;rw[m6,m7];rfl⟩ ?_
  rintro ⟨vg,gl⟩ g w4 hI;have kc:Step [] w w4:=hI.st;have ke:qI w.heap.size w4 vg gl:=hI.m;have S:GrP J gl:=hI.p;have m8:gl.length≤J.length:=hI.n;have gi:Qbc (UP J) gl.length (gl.map (·.ms))=Qic (UP J) J.length:=hI.eq;have gj:Zo [] w4.heap vg gl.length 2 (gl.flatMap Q5):=QR ke.own (by omega) (by simp);refine Qg<|Qf<|Qc<|Qb<|x (Qq gj O)<|Qb<|xe ?_
  refine Qg<|Qy (α:=Nat) [(5,5),(8,9),(36,92)] (λz=>[(5,vg),(36,.int .i64 (z:Int))]) (λz w'=>z≤gl.length∧Step [] w4 w'∧GrZ gl z (z+1)) (λz=>gl.length - z) (by rfl) 0 ⟨O,O,U⟩ ⟨Lk _,Step.refl _ _,λa b ha hb hc=>by omega⟩ ?_;rintro H g w5 ⟨hi1,he,kf⟩;have kg:=ke.ext he;refine Qc<|x (QA O O)<|xe<|Qf<|QE O (λgk=>?_) (λgk=>?_)
  ·refine Qw<|Qw ?_;have hge:gl.length≤H:=by have hh:¬(H:Int)<(gl.length:Int):=gk;omega
   have m9:=Qf5 S kf hge;have pa:gl.map (·.ms)=Qic (UP J) J.length:=by
    rw[←gi];cases hgn:gl.length with
    | zero=>rfl
    | succ m=>rw[Qbc,m9]
   have pc:=kc.trans he;refine Qc<|Qe ?_;have pd:Zo [] w5.heap vg gl.length 2 (gl.flatMap Q5):=gj.ext he;refine Qf<|Qc<|Qb<|x (Qq pd O)<|Qb<|xe<|Qg<|Qy (α:=Nat×Value) [(10,10),(12,12),(95,107)] (λz=>[(10,z.2),(95,.int .i64 (z.1:Int))]) (λz w'=>z.1≤gl.length∧Step [] w w'∧GrT w.heap.size w' vg z.2 gl z.1) (λz=>gl.length - z.1) (by rfl) (0,Za) ⟨O,O,U⟩
    ⟨Lk _,pc,kg.start⟩ ?_
   rintro ⟨j,vo⟩ g I ⟨hj,hw,T⟩
   replace hj:j≤gl.length:=hj
   replace T:GrT w.heap.size I vg vo gl j:=T;have kh:=hw.size;refine Qc<|x (QA O O)<|xe<|Qf<|QE O (λgm=>?_) (λgm=>?_)
   ·refine Qw ?_;have pf:j=gl.length:=by have hh:¬(j:Int)<(gl.length:Int):=gm;omega
    rw[pf] at T;have ki:I.ownsRow w.heap.size 37 1 vo (gl.map λq=>((q.v,KT (nI q.ms)):TV)).length ((gl.map λq=>((q.v,KT (nI q.ms)):TV)).flatMap Zz):=by
     have:=T.wo;rw[MU] at this;rw[z7,Me,Lb];exact this
    have kj:∀q∈gl,Qt 3 w.heap.size I q.v (KT (nI q.ms)):=λq hq=>by
     obtain ⟨a,ha,rfl⟩:=LE hq;have:=T.each a _ (Lt ha)
     rwa [if_pos ha] at this
    have kk:∀q∈gl,(KT (nI q.ms)).length≤1000∧0<(KT (nI q.ms)).length∧0≤cget (KT (nI q.ms)) 0∧cget (KT (nI q.ms)) 0<1000:=λq hq=>by
     have gn:q.ms.Nodup:=K5 S.nd q hq;have h1:=VI gn (S.rg q hq);have h2:=S.ne q hq;have h3:=(YR q.ms).length_eq;have h4:Uf q.ms≠[]:=λe=>h2 (by rw[e] at h3;exact Lo h3.symm);have h5:=j1 h4;have h6:=S.rg q hq _ ((YR q.ms).mem_iff.1 h5.2);have h7:0<q.ms.length:=List.length_pos_iff.2 h2;rw[yb,h5.1,Jm,h3];omega
    refine Qc<|Qb<|xl O<|xf<|(Qdk (os:=gl.map λq=>((q.v,KT (nI q.ms)):TV)) ki (by rw[Lb];omega) (λt ht=>by
     obtain ⟨q,hq,rfl⟩:=Ly.1 ht;have h1:=kk q hq;exact ⟨QR (kj q hq) (by show (KT (nI q.ms)).length≤_;omega) (T.dq q hq),h1.2.1,h1.2.2⟩)).mono ?_
    rintro r7 w7 ⟨hR,pg,go,ph,kn⟩;refine xe<|Qc<|Qb<|x Qh<|Qe<|Qn ⟨[vo,.int .i64 0],⟨O,O,U⟩,hw.then hR (λb hb=>.inr (Qk ki b hb).1),vo,by rw[gg];rfl,λh=>absurd gg h,λ_=>⟨pg,?_,λL hL=>⟨?_,λt ht=>?_⟩⟩⟩
    ·rw[QkC S.nd S.ne go ph,pa];rfl
    ·have pj:=go.length_eq;rw[Lb] at pj;exact QR kn (by omega) (λb hb pm=>by have:=(Qk kn b hb).1;have:=hL b pm;omega)
    obtain ⟨q,hq,rfl⟩:=Ly.1 (go.mem_iff.1 ht);have h1:=Qj (kj q hq) hR (T.dq q hq);exact Qt.ints h1 (by show (KT (nI q.ms)).length≤_;have:=(kk q hq).1;omega) hL
   have hC:j<gl.length:=by have hh:(j:Int)<(gl.length:Int):=gm;omega
   refine Qi ?_;have hD:Zo [] I.heap vg gl.length 2 (gl.flatMap Q5):=QR T.own (by omega) (by simp);refine Qf<|Qg<|Qc<|xig (g:=Q5) YU hD O O hC λa97 ko=>?_;refine Zb (gl[j]'hC) λq hq=>?_;have gp:gl[j]?=some q:=by rw[Lt hC,hq]
   have hf:=LT gp;have hF:Qt 3 w.heap.size I q.v (nI q.ms):=by
    have:=T.each j q gp
    rwa [if_neg (by omega)] at this
   have gn:q.ms.Nodup:=K5 S.nd q hf;have hql:=VI gn (S.rg q hf);have hqI:=Jm q.ms;rw[hq] at ko;refine x (QI ko O O)<|xl O<|Qv (us:=[nS,.int .u16 0]) O λpn w7 hR po pp=>xl O<|Qr (us:=Q5 q) pp O O O O ⟨QD hF,O,U⟩ λw8 hy kp=>xe ?_;have hG:Step [] I w8:=hR.then1 hy po;refine Qc<|x (Qa O)<|x (Qd kp O O)<|xl O<|xf<|(Vy (Qm hF hG) (by omega)).mono ?_
   rintro r9 w9 ⟨hn,ho⟩;refine xe ?_;have pt:=kp.step hn (λhc=>by have:=QP hF pn hc;omega);refine Qx<|Qb<|x (Qa O)<|x (Qd pt O O)<|xl O<|QC (us:=[[q.v]]) O O (by decide) (by simp) ⟨QZ ho,rfl,U⟩ λb105 kq hz hb105 pu=>?_;have pw:=Qm (Qj (Qm T.wo hG) hn (λb hb hm=>T.dq q hf b hm hb)) hz;have hz68:=hG.size;have hz9:=hn.size;have hz10:=hz.size
   refine xl O<|QU (news:=[q.v]) (L:=[]) pw O O O (pu.at (by simp)) (λu hu=>by rw[List.mem_singleton.1 hu];exact QD hF) (by omega) (by omega) λpz kr hH hS p0=>Qe<|Qx<|QN O O<|Qb<|xe ?_
   exact ⟨(j+1,pz),by show gl.length - (j+1)<gl.length - j;omega,⟨O,O,U⟩,hC,(((hw.trans hG).then hn (λb hb=>.inr (Qk hF b hb).1)).trans hz).then hS (λb hb=>.inr (Qk T.wo b hb).1),T.next hC gp hG hn ho hz hH hS p0⟩
  have hr:H<gl.length:=by have hh:(H:Int)<(gl.length:Int):=gk;omega
  refine Qi<|Qf<|Qg<|Qc<|Qb<|Qe<|Qc<|Qb<|QN O O<|Qe<|Qg<|Qy (α:=Nat) [(5,5),(9,9),(41,91)] (λz=>[(5,vg),(9,.int .i64 (z:Int))]) (λz w'=>H<z∧z≤gl.length∧Step [] w5 w'∧GrZ gl H z) (λz=>gl.length - z) (by rfl) (H+1) ⟨O,O,U⟩ ⟨Nat.lt_succ_self _,hr,Step.refl _ _,kf⟩ ?_;rintro k g I ⟨hik,hk,hg,gq⟩;have p1:=kg.ext hg
  have hD:Zo [] I.heap vg gl.length 2 (gl.flatMap Q5):=(gj.ext he).ext hg;refine Qf<|Qc<|Qb<|Qb<|x (Qq hD O)<|x (QA O O)<|xe<|QE O (λgr=>?_) (λgr=>?_)
  ·refine Qw ?_;have hge:gl.length≤k:=by have hh:¬(k:Int)<(gl.length:Int):=gr;omega
   refine Qx<|QN O O<|Qb<|xe ?_;exact ⟨H+1,by omega,⟨O,O,U⟩,hr,he.trans hg,gq.row hge⟩
  have h8:k<gl.length:=by have hh:(k:Int)<(gl.length:Int):=gr;omega
  have kt:=QiT hik h8;have ku:=gq.col hik h8;refine Zb (gl[H]'hr) λe1 hp=>?_;refine Zb (gl[k]'h8) λe2 hq=>?_;have h9:e1∈gl:=by rw[←hp];exact Lh _
  have hf:e2∈gl:=by rw[←hq];exact Lh _
  rw[hp,hq] at kt ku;have kv:=S.lt e1 h9;have kw:=S.lt e2 hf;refine Qi ?_;have hU:Step [] I { I with drawn:=I.drawn+1 }:=Step.drew _ _
  refine Qf<|Qg<|Qf<|QS (Step [] I) [(0,true),(1,true),(2,true),(3,true),(4,true),(5,true),(6,true),(7,true),(8,true),(9,true),(10,true),(11,true)] mixed (by rfl) (by kernel_rfl) hU ?_;refine p (λ_=>Ql)<|p (λ_=>Ql)<|Lg.pig (g:=Q5) (i:=H) O YU hD O O hr λa49 ky=>?_;rw[hp] at ky
  refine p (λ_=>Q4 O)<|pq (λ_ hc=>Qu ((ky.fld 1 (.int .u16 (e1.b:Int)) O).ext hc) O)<|p (λ_=>Ql)<|p (λ_=>Ql)<|Lg.pig (g:=Q5) (i:=k) O YU hD O O h8 λa54 kz=>?_;rw[hq] at kz;refine p (λ_=>Q4 O)<|pq (λ_ hc=>Qu ((kz.fld 1 (.int .u16 (e2.b:Int)) O).ext hc) O)<|p (λ_=>Qb7 O O kv kw)<|p (λ_=>Q9 O O)<|pe ?_;have hw:=(kc.trans he).trans hg;have kh:=hw.size
  refine Q7 O (λgs=>?_) (λgs=>?_)
  ·have p2:e1.b &&& e2.b≠0:=λe=>gs (by rw[e];rfl);refine Exists.elim kt λA p3=>Exists.elim p3 λB p4=>Exists.elim p4 λC gt=>?_;have hJ:=gt.1;have hV:=gt.2.1;have hBl:=gt.2.2.1;have gu:k=A.length+1+B.length:=by omega
   have Y:=p1.ext hU;have hB:Step [] ({ I with drawn:=I.drawn+1 }:World) { ({ I with drawn:=I.drawn+1 }:World) with drawn:=({ I with drawn:=I.drawn+1 }:World).drawn+1 }:=Step.drew _ _
   refine Exists.elim (X6 Y.own (by omega)) λgb p5=>Exists.elim p5 λcap hK=>?_;have p6:ob vg=[gb]:=by rw[hK];rfl
   have hmp:=Y.each e1 h9;have k0:=Y.each e2 hf;have hl1:=VI (K5 S.nd e1 h9) (S.rg e1 h9);have hl2:=VI (K5 S.nd e2 hf) (S.rg e2 hf);have hI1:=Jm e1.ms;have p7:=Jm e2.ms;have p8:0<(nI e2.ms).length:=by rw[p7];exact List.length_pos_iff.2 (S.ne e2 hf)
   refine Exists.elim (X6 k0 p8) λqb p9=>Exists.elim p9 λqc k4=>?_;have qf:=je (k0.ints (L:=[]) (by omega) (by simp)) k4;have hz67:I.heap.size≤({ I with drawn:=I.drawn+1 }:World).heap.size:=Lr _
   have k5:Zo (ob e1.v) ({ I with drawn:=I.drawn+1 }:World).heap vg gl.length 2 (gl.flatMap Q5):=QR Y.own (by omega) (λb hb hm=>Y.db e1 h9 b hm hb)
   refine Qf<|QS (Step (ob e1.v) ({ I with drawn:=I.drawn+1 }:World)) [(0,true),(1,true),(2,true),(3,true),(4,true),(5,true),(6,true),(7,true),(8,true),(9,true),(10,true),(11,true),(12,false),(13,true),(14,true),(15,false)] mixed (by rfl) (by kernel_rfl) (Step.drew _ _) ?_
   refine p (λ_=>Ql)<|p (λ_=>Ql)<|p (λ_=>Ql)<|p (λ_=>Ql)<|Lg.pig (g:=Q5) (i:=H) O YU k5 O O hr λa63 k6=>?_;rw[hp] at k6;refine p (λ_=>Q4 O)<|pq (λ_ hc=>Qu ((k6.fld 0 e1.v O).st hc) O)<|p (λ_=>Ql)<|p (λ_=>Ql)<|Lg.pig (g:=Q5) (i:=k) O YU k5 O O h8 λa68 k7=>?_;rw[hq] at k7
   refine p (λ_=>Q4 O)<|pq (λ_ hc=>Qu ((k7.fld 0 e2.v O).st hc) O)<|pk<|QU (news:=(nI e2.ms).map (.int .i64)) (L:=[]) (Qm hmp hB) O (show ev _ _=_ from k4) (by simp) (qf.ext hB) (X7 _) (by omega) (by exact kh) λG w8 qj hy qk=>⟨(hB.any (L:=ob e1.v)).trans' hy,?_⟩;have gv:Qt 3 w.heap.size w8 G (nI (e1.ms++e2.ms)):=by rw[yD];exact Qt.appd qj
   have k8:w8.ownsRow w.heap.size 200 2 vg gl.length (gl.flatMap Q5):=Qj (Qm Y.own hB) hy (λb hb hm=>Y.db e1 h9 b hm hb);rw[hK] at k8;refine p (λ_=>Zj (i:=H) (show ev _ _=_ from hK) O hr)<|p (λ_=>Qa O)<|pkl (hl:=by kernel_rfl)<|Qjq (k:=0+H*2+0) (u:=G) k8 O O (by omega) (QD gv) λw9 hn ho=>pe ?_
   have ql:=(Qbn gl H e1 (by rw[Lt hr,hp])).1 G (e1.ms++e2.ms);have k9:gl.set H ⟨G,e1.ms++e2.ms,e1.b⟩=A++(⟨G,e1.ms++e2.ms,e1.b⟩:GV)::(B++e2::C):=by rw[hJ,←hV];exact QcN
   have gw:gl.length=(A++(⟨G,e1.ms++e2.ms,e1.b⟩:GV)::(B++e2::C)).length:=by rw[←k9,MS]
   rw[show 0+H*2+0=H*2 by omega,ql,←hK,k9,gw] at ho;have gx:=QR (L:=[]) ho (by omega) (by simp);have hN:H<(A++(⟨G,e1.ms++e2.ms,e1.b⟩:GV)::(B++e2::C)).length:=by omega
   have hW:k<(A++(⟨G,e1.ms++e2.ms,e1.b⟩:GV)::(B++e2::C)).length:=by omega
   have g1:(A++(⟨G,e1.ms++e2.ms,e1.b⟩:GV)::(B++e2::C))[H]?=some ⟨G,e1.ms++e2.ms,e1.b⟩:=by rw[←hV];simp
   have g2:(A++(⟨G,e1.ms++e2.ms,e1.b⟩:GV)::(B++e2::C))[k]?=some e2:=by
    rw[gu,Ms (by omega),show A.length+1+B.length - A.length=B.length+1 by omega,List.getElem?_cons_succ];simp
   have hX:=(Qbn _ H _ g1).2 (e1.b ||| e2.b);have ma:(A++(⟨G,e1.ms++e2.ms,e1.b⟩:GV)::(B++e2::C)).set H ⟨G,e1.ms++e2.ms,e1.b ||| e2.b⟩=A++(⟨G,e1.ms++e2.ms,e1.b ||| e2.b⟩:GV)::(B++e2::C):=by rw[←hV];exact QcN
   have mc:(A++(⟨G,e1.ms++e2.ms,e1.b⟩:GV)::(B++e2::C)).length=(A++(⟨G,e1.ms++e2.ms,e1.b ||| e2.b⟩:GV)::(B++e2::C)).length:=by rw[←ma,MS]
   replace hX:((A++(⟨G,e1.ms++e2.ms,e1.b⟩:GV)::(B++e2::C)).flatMap Q5).set (H*2+1) (.int .u16 ((e1.b ||| e2.b:Nat):Int))=(A++(⟨G,e1.ms++e2.ms,e1.b ||| e2.b⟩:GV)::(B++e2::C)).flatMap Q5:=hX.trans (by rw[ma]);refine Zb (A++(⟨G,e1.ms++e2.ms,e1.b⟩:GV)::(B++e2::C)) λl1 qm=>?_;rw[qm] at ho gx hN hW g1 g2 hX gw mc
   have qo:l1[H]'hN=⟨G,e1.ms++e2.ms,e1.b⟩:=by rw[Lt hN] at g1;exact Option.some.inj g1
   have qq:l1[k]'hW=e2:=by rw[Lt hW] at g2;exact Option.some.inj g2
   have gy:Step [] w9 { w9 with drawn:=w9.drawn+1 }:=Step.drew _ _
   have mf:=Qm ho gy;have hY:vg=.slice (some ⟨gb,0,none⟩) gl.length cap:=hK;rw[gw] at hY;rw[hY] at mf;refine Qf<|QS (Step [] w9) [(0,true),(1,true),(2,true),(3,true),(4,true),(5,true),(6,true),(7,true),(8,true),(9,true),(10,true),(11,true),(12,true),(13,false)] mixed (by rfl) (by kernel_rfl) gy ?_;refine p (λ_=>Ql)<|p (λ_=>Ql)<|Lg.pig (g:=Q5) (i:=H) O YU gx O O hN λa76 mg=>?_
   rw[qo] at mg;refine p (λ_=>Q4 O)<|pq (λ_ hc=>Qu ((mg.fld 1 (.int .u16 (e1.b:Int)) O).ext hc) O)<|p (λ_=>Ql)<|p (λ_=>Ql)<|Lg.pig (g:=Q5) (i:=k) O YU gx O O hW λa81 mh=>?_;rw[qq] at mh;refine p (λ_=>Q4 O)<|pq (λ_ hc=>Qu ((mh.fld 1 (.int .u16 (e2.b:Int)) O).ext hc) O)<|p (λ_=>yn O O kv kw)<|p (λ_=>Zj (i:=H) (show ev _ _=_ from hY) O hN)<|p (λ_=>Qa O) <|
    pkl (hl:=by kernel_rfl)<|Qjq (k:=0+H*2+1) (u:=.int .u16 ((e1.b ||| e2.b:Nat):Int)) mf rfl rfl (by omega) rfl λkq hz mj=>pe ?_
   rw[show 0+H*2+1=H*2+1 by omega,hX,←hY,mc] at mj;have qr:Step (ob vg) w8 kq:=by
    rw[p6];exact (hn.trans' (gy.any (L:=[gb]))).trans' hz
   have q0:∀x∈A++(⟨G,e1.ms++e2.ms,e1.b ||| e2.b⟩:GV)::(B++e2::C),x.v.oneCell'=true:=λx hx=>by
    have q1:x=⟨G,e1.ms++e2.ms,e1.b ||| e2.b⟩∨x∈gl:=by
     rw[hJ];simp only[List.mem_append,List.mem_cons] at hx ⊢;rcases hx with hx | hx | hx
     ·exact .inr (.inl hx)
     ·exact .inl hx
     exact .inr (.inr (.inr hx))
    rcases q1 with rfl | hx
    ·exact QD gv
    exact QD (Y.each x hx)
   refine Qc<|Qb<|Qb<|Qb<|QN O O<|xl O<|xf<|(QiS (l:=A++(⟨G,e1.ms++e2.ms,e1.b ||| e2.b⟩:GV)::(B++e2::C)) (k:=k) mj q0 (by omega) (by omega)).mono ?_;rintro q2 kr ⟨hS,q3,hH⟩;rw[QiU gu] at hH;have q4:(A++(⟨G,e1.ms++e2.ms,e1.b ||| e2.b⟩:GV)::(B++e2::C)).length - 1=(A++(⟨G,e1.ms++e2.ms,e1.b ||| e2.b⟩:GV)::(B++C)).length:=by simp;omega
   rw[q4] at hH;have mo:Step (ob vg) w8 kr:=qr.trans' hS;have mq:=Y;have gz:=S;have g0:=gq;rw[hJ] at mq gz g0;rw[gu,←hV] at g0;have mu:=Qf4 gz g0 p2 G;have q5:gl.length=(A++(⟨G,e1.ms++e2.ms,e1.b ||| e2.b⟩:GV)::(B++C)).length+1:=by rw[hJ];simp;omega
   rw[←hJ] at mu;have mv:(A++(⟨G,e1.ms++e2.ms,e1.b ||| e2.b⟩:GV)::(B++C)).length<gl.length:=by omega
   rw[q5,Qbc,mu] at gi;refine Qe<|Qw ?_;refine ⟨(q2,A++(⟨G,e1.ms++e2.ms,e1.b ||| e2.b⟩:GV)::(B++C)),mv,Z,⟨?_,mq.merge hB hy gv qk mo q3 hH,gz.merge G,LS (Nat.le_of_lt mv) m8,gi⟩⟩;exact (((hw.trans hU).trans hB).then hy (λb hb=>.inr (Qk hmp b hb).1)).then mo (λb hb=>.inr (Qk Y.own b hb).1)
  have za:e1.b &&& e2.b=0:=by have h59:=Lu.1 gs;omega
  refine Qi<|Qx<|Qb<|QN O O<|Qe ?_;exact ⟨k+1,by omega,⟨O,O,U⟩,by omega,h8,hg.trans hU,ku za⟩
 have hZ:i<J.length:=by have hh:(i:Int)<(J.length:Int):=gh;omega
 refine Qi<|Qf<|Qg<|Qc<|Qb<|xig (g:=λb:Nat=>[Value.int .u16 (b:Int)]) (i:=i) (λ_=>O) (m3.ext hQ) O O hZ λa24 mw=>?_;refine Zb (J[i]'hZ) λbi my=>?_;rw[my] at mw;refine x (Qu mw O)<|x Qh<|Qe<|Qx<|Qb<|Qb<|xl O<|QC (us:=[[.int .i64 i]]) O O (by decide) (by simp) ⟨rfl,rfl,U⟩ λhO w4 zv z0 z2=>Qb<|x (QF ⟨rfl,rfl,U⟩) <|
  xl rfl<|QC (us:=[Q5 ⟨.slice (some ⟨hO,0,none⟩) 1 1,[i],bi⟩]) O O (by decide) (by simp) ⟨rfl,rfl,U⟩ λb31 w5 he hb31 z3=>?_
 have z4:Qt 3 w3.heap.size w4 (.slice (some ⟨hO,0,none⟩) 1 1) (nI [i]):=Q3.own (cs:=[.int .i64 i]) z2 O (by decide) z0;have ga:=zv.trans he;have hz35:=ga.size;refine xl rfl<|QU (news:=Q5 ⟨.slice (some ⟨hO,0,none⟩) 1 1,[i],bi⟩) (L:=[]) (Qm hM.own ga) O O O (z3.at (by simp)) (QiD rfl) (by omega) (by omega) λv6 I z5 hg z9=>Qe<|Qx<|QN rfl rfl<|Qb<|xe ?_
 refine ⟨(i+1,v6,l++[⟨.slice (some ⟨hO,0,none⟩) 1 1,[i],bi⟩]),by show J.length - (i+1)<J.length - i;omega,⟨O,O,U⟩,hZ,(hQ.trans ga).then hg (λb hb=>.inr ?_),qI.add (M:=w3.heap.size) hM ga (Qm z4 he) (Lr _) (by omega) z5 hg z9,?_⟩
 ·exact (Qk hM.own b hb).1
 show ((l++[(⟨.slice (some ⟨hO,0,none⟩) 1 1,[i],bi⟩:GV)]).map λq=>(q.ms,q.b))=(List.range (i+1)).map λj=>([j],J.getD j 0);rw[Ls,hv,Nu,Ls,Mt,Mt,LU,Lt hZ,my];rfl
end Go.Proofs.YtdffckgdcegpaaaGreatDoor
