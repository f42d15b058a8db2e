/- Merged out of 49 texts. -/
import Derived.Test.YtdffckgdcegpaaaGreatDoorKpd
import Derived.ChangeSame
import Derived.Carry
import Derived.OpenShut
import Derived.RowKit
import Derived.ChangeSlices
import Derived.WideShapes
import Derived.ProofKit
import Derived.ChangeArms
import Derived.Lib.LaidTab
import Derived.Stop.LaidErr
import Derived.MakeChecks
import Derived.Test.YtdffckgdcegpaaaGreatDoorRows
import Derived.JoinedOf
import Derived.Test.YtdffckgdcegpaaaGreatDoorCards
import Derived.SevenTiedAt
namespace Go.Proofs.YtdffckgdcegpaaaGreatDoor
open Go.Proofs.Tryz
open Go.Lg
theorem qZ {l r:LI}{i:Nat}(h:i<l.length):cget (l++r) i=cget l i:=by
 unfold cget;simp[List.getD,List.getElem?_append_left h]
set_option maxHeartbeats 4000000 in
theorem VI {w:World}{bp:Nat}{q:Pz}{lf:Lf}(hA:jL [] w.heap bp q) (hq:PzQ q) (hB:QZ w.heap q.bl 4 (lf.map Value.bool)) (hl:lf.length=q.n) :
  QK prog 217 [.pointer (some ⟨bp,0,none⟩)] w λr w'=>Step [] w w'∧∃b,r=.slice (some ⟨b,0,none⟩) q.n q.n∧w.heap.size≤b∧QZ w'.heap b 3 ((dsts q.a lf).map (Value.int .i64))∧(dsts q.a lf).length=q.n:=by
 have hn:=hq.n;have kq:=hq.ok.st1;have gc:=hq.ok.mr;have kr:=hq.ok.mr_le;have kt:=hq.ok.ed_le;have hM:q.a.st.toNat=q.n:=by omega
 have gt:=QlS (lf:=lf) hq.ok hn;have ge:(dsL q.a.ed lf q.n 0 (ds0 q.a lf)).1=dsts q.a lf:=by unfold dsts;rw[hM]
 refine Zc (dsts q.a lf) λDD gu=>?_;rw[gu] at ge ⊢;refine QK.of_W func217 O ntmps217 results217 (by simp) ?_;refine Qc<|Qe<|Qc<|Qb<|x (QE O)<|x (Qa O)<|x (Qa O)<|x (Qd hA.B O O)<|xl O<|V1 (n:=q.n) (congrArg (Value.int .i64) hn) (congrArg (Value.int .i64) hn) (by omega) λbO w1 gg hC hN=>Qe ?_;rw[Qer] at hN
 refine Qf<|Qc<|Qb<|x (Qs (L:=[]) (hN.arr (by simp) (n:=q.n) (cap:=q.n) (sz:=1) (by simp[gA]) (by omega) (Lt _)) rfl)<|Qb<|xe<|Qh<|QA (α:=Nat) [(4,4),(19,25)] (λz=>[(19,.int .i64 z)]) (λz w'=>z≤q.n∧Step [] w w'∧QZ w'.heap bO 3 ((gA q.n (λj=>if j<z then -1 else 0)).map (Value.int .i64))) (λz=>q.n - z) (by rfl) 0 Z ⟨Ll _,gg,hN⟩ ?_
 rintro j g G ⟨hj,ho,h0⟩;refine Qc<|x (QB O O)<|xe<|Qf<|QG O (λhO=>?_) (λhO=>?_)
 ·refine Qz ?_;have hP:j=q.n:=by have gv:¬(j:Int)<(q.n:Int):=hO;omega
  have gw:gA q.n (λi=>if i<j then -1 else 0)=((q.a.mr.take 0).foldl (jJ lf) (List.replicate q.n (-1),[])).1:=by
   apply L5
   ·simp[gA]
   intro i h1 h2;have:i<q.n:=by simpa[gA] using h1
   simp[gA];omega
  rw[gw] at h0;refine Qc<|Qe<|Qf<|Qc<|Qb<|x (QE O)<|x (Qa O)<|x (Qa O)<|x (Qd (hA.ext ho).B O O)<|x (Qs (hA.ext ho).a.mr O)<|Qb<|xe<|Qh<|QA (α:=Nat×Value) [(5,5),(7,7),(32,50)] (λz=>[(5,z.2),(32,.int .i64 z.1)]) (λz w'=>z.1≤q.a.mr.length∧Step [] w w'∧G.heap.size≤w'.heap.size∧QZ w'.heap bO 3 (((q.a.mr.take z.1).foldl (jJ lf) (List.replicate q.n (-1),[])).1.map (Value.int .i64)) ∧
   Qu 3 G.heap.size w' z.2 ((q.a.mr.take z.1).foldl (jJ lf) (List.replicate q.n (-1),[])).2) (λz=>q.a.mr.length - z.1) (by rfl) (0,nS) ⟨O,O,U⟩ ⟨Ll _,ho,Lt _,h0,QP _ _ _ _⟩ ?_
  rintro ⟨k,vl⟩ g w3 ⟨hk,h3,gh,ha,hf⟩;simp only[] at hk ha hf;have gi:=QaH (lf:=lf) (λx hx=>(gc x hx).1) k;rw[hM] at gi;have ku:=ha.lt;refine Qc<|x (QB O O)<|xe<|Qf<|QG O (λhQ=>?_) (λhQ=>?_)
  ·refine Qz ?_;have gx:q.a.mr.length≤k:=by have hD:¬(k:Int)<(q.a.mr.length:Int):=hQ;omega
   have e0:(q.a.mr.take k).foldl (jJ lf) (List.replicate q.n (-1),[])=ds0 q.a lf:=by rw[Lo gx];unfold ds0;rw[hM]
   rw[e0] at ha hf;have gy:bO<G.heap.size:=h0.lt;refine Qf<|Qc<|Qe<|Qh<|QA (α:=Nat×Nat×Value×LI×LI) [(5,5),(8,8),(10,10),(51,100)] (λz=>[(5,z.2.2.1),(8,.int .i64 z.2.1)])
    (λz w'=>Step [] w w'∧G.heap.size≤w'.heap.size∧QZ w'.heap bO 3 (z.2.2.2.1.map (Value.int .i64))∧Qu 3 G.heap.size w' z.2.2.1 z.2.2.2.2∧DsI q.n z.2.2.2∧z.1+z.2.1=q.n∧(dsL q.a.ed lf z.1 z.2.1 z.2.2.2).1=DD) (λz=>q.n - z.2.1) (by rfl) (q.n,0,vl,(ds0 q.a lf).1,(ds0 q.a lf).2) ⟨O,O,U⟩
    ⟨h3,gh,ha,hf,gt,O,ge⟩ ?_
   rintro ⟨f,i,vl,o,l⟩ g w4 ⟨hg,hR,h4,J,hp,gz,S⟩;simp only[] at hR h4 J hp gz S;have g0:=hp.le;have gj:=hp.ok.len;simp only[] at g0 gj;have hF:=hA.ext hg;refine Qf<|Qc<|Qb<|Qb<|x (Qs (L:=[]) (QU J (by omega) (by simp)) rfl)<|x (QB rfl rfl)<|xe<|QG O (λhS=>?_) (λhS=>?_)
   ·refine Qz ?_;have g2:¬i<l.length:=by have g3:¬(i:Int)<(l.length:Int):=hS;omega
    rw[Qht g2] at S;simp only[] at S;subst S;refine Qc<|Qb<|Qe ?_;exact Qn ⟨[.slice (some ⟨bO,0,none⟩) q.n q.n],Z,hg,bO,O,hC,h4,gj⟩
   refine Qi ?_;have hr:i<l.length:=by have g3:(i:Int)<(l.length:Int):=hS;omega
   refine Exists.elim (Nat.exists_eq_succ_of_ne_zero (show f≠0 by omega)) λf' g4=>?_;subst g4;rw[dsL,if_pos hr] at S;have gk:=Za hr;have hsr:=hp.ok.q _ (Jt hr);have hT:=hp.s0 _ (Jt hr);refine Zc (cget l i) λs hs=>?_;rw[hs] at S hsr gk;simp only[] at hsr hT;rw[hs] at hT;have gl:s=(s.toNat:Int):=by omega
   have gm:=hF.g s.toNat (by omega);rw[←gl] at gm;have g5:=hF.R s.toNat (by omega);have kv:=V5 q.a.ed s.toNat;refine Qf<|Qh<|Qf<|QW (Step [] w4) [(0,true),(1,true),(2,true),(3,true),(4,true),(5,true),(6,true),(7,true),(8,true),(9,true),(10,true)] mixed (by rfl) (by kernel_rfl) (Step.drew _ _) ?_
   refine p (λ_=>Qp)<|p (λ_=>QE O)<|p (λ_=>Qa O)<|pq (λ_ hc=>Qd (hF.B.ext hc) O O)<|p (λ_=>Qp)<|p (λ_=>Qp) <|
    pii (i:=i) O (QU (L:=[]) J (by omega) (by simp)) rfl rfl hr λkw gn=>?_
   rw[gk] at gn;refine pq (λ_ hc=>Qw (gn.ext hc) O)<|pq (λ_ hc=>(Jj (k:=s) (hF.M.ext hc) O O).trans (congrArg (λv=>Result.ok (Next.value v) _) gm))<|p (λ_=>Qs g5 O)<|p (λ_=>Qp)<|pe ?_;have hG:Step [] w4 { w4 with drawn:=w4.drawn+1 }:=Step.drew _ _
   refine Qh<|QA (α:=Nat×Value×LI×LI) [(5,5),(10,10),(67,100)] (λz=>[(5,z.2.1),(67,.int .i64 z.1)])
    (λz w'=>z.1≤(Yt q.a.ed s.toNat).length∧Step [] w w'∧G.heap.size≤w'.heap.size∧QZ w'.heap bO 3 (z.2.2.1.map (Value.int .i64))∧Qu 3 G.heap.size w' z.2.1 z.2.2.2∧DsI q.n z.2.2∧0≤cget z.2.2.1 s.toNat∧i<z.2.2.2.length∧cget z.2.2.2 i=s ∧
     ((Yt q.a.ed s.toNat).drop z.1).foldl (dsE lf s) z.2.2=(Yt q.a.ed s.toNat).foldl (dsE lf s) (o,l)) (λz=>(Yt q.a.ed s.toNat).length - z.1) (by rfl) (0,vl,o,l) ⟨O,O,U⟩
    ⟨Ll _,hg.trans hG,LS hR hG.size,h4.ext hG,Qq J hG,hp,hT,hr,hs,O⟩ ?_
   rintro ⟨m,hH,o2,l2⟩ g w5 ⟨hm,E,hI,ht,hu,hh,hU,h5,hJ,H⟩;simp only[] at hm hI ht hu hh hU h5 hJ H;have go:=hA.ext E;have g6:=hh.le;have g7:=hh.ok.len;simp only[] at g6 g7;refine Qc<|x (QB O O)<|xe<|Qf<|QG O (λhV=>?_) (λhV=>?_)
   ·refine Qz ?_;have g8:(Yt q.a.ed s.toNat).length≤m:=by have hK:¬(m:Int)<((Yt q.a.ed s.toNat).length:Int):=hV;omega
    rw[Lr g8] at H;simp only[List.foldl_nil] at H;rw[←H] at S;refine Qy<|Qb<|QO O O<|Qe ?_;exact ⟨(f',i+1,hH,o2,l2),by simp only[];omega,⟨O,O,U⟩,E,hI,ht,hu,hh,by simp only[];omega,S⟩
   refine Qi ?_;have hv:m<(Yt q.a.ed s.toNat).length:=by have hK:(m:Int)<((Yt q.a.ed s.toNat).length:Int):=hV;omega
   have gp:=Qes (Lc hv);have g9:=QX hv;rw[g9,LM] at H;refine Zc ((Yt q.a.ed s.toNat)[m]'hv) λy hy=>?_;rw[hy] at gp H;have ka:0≤y∧y<(q.n:Int):=by
    obtain ⟨e,he,h1,_⟩:=gp;have:=hq.ok.ed e he;omega
   have hw:y=(y.toNat:Int):=by omega
   have h6:y.toNat<o2.length:=by omega
   have hW:s.toNat<o2.length:=by omega
   have kb:=hh.ok.le _ (Jt hW);simp only[] at kb;have hE:=Qhu (lf:=lf) hh hsr hU ka;have hX:=V4 (l:=lf) (s:=y) (by omega);have kx:=Qgh o2;refine Qf<|Qh<|Qc<|xii (i:=m) ((go.R s.toNat (by omega))) O O hv λky hK=>?_;rw[hy] at hK;refine x (Qw hK O)<|Qe<|QT (α:=Bool) [(71,84)] (λz=>[(84,.bool z)]) (λz w'=>w'=w5∧z=(lft lf y && decide (cget o2 y.toNat<0))) (by rfl) ?_ ?_
   ·refine Qy ?_;have kz:∀{P:Prop},(∀b,lft lf y=b→P)→P:=λh=>h _ O;refine Qb<|x (QE O)<|x (Qa O)<|x (Qd go.B O O)<|Qb<|x (Zj (i:=y.toNat) O (congrArg (Value.int .i64) hw) (by omega))<|x (X2 (i:=y.toNat) (hB.ext E) O (by omega))<|?_;rw[hX];cases lft lf y with
    | true =>
     refine Qb<|Qb<|Qb<|x (Zj (i:=y.toNat) O (congrArg (Value.int .i64) hw) (by omega))<|x (UP (i:=y.toNat) ht O h6)<|x (QB O O)<|x (Ql O)<|xe ?_;exact ⟨_,Z,O,by rw[Za h6];rfl⟩
    | false =>
     refine Qb<|xs O<|xs O<|xs O<|xs O<|xs O<|x (Ql O)<|xe ?_;exact ⟨_,Z,O,O⟩
   rintro z g k0 ⟨rfl,rfl⟩;refine Q3 O (λh7=>?_) (λh7=>?_)
   ·rw[Lv,decide_eq_true_eq] at h7;have hY:dsE lf s (o2,l2) y=(o2.set y.toNat (cget o2 s.toNat+1),l2++[y]):=by unfold dsE;rw[if_pos h7]
    rw[hY] at H hE;have kc:=Za hW;have gq:=Za h5;rw[hJ] at gq;refine Qc<|Qb<|Qb<|Qb<|Qb<|Qb<|xii (i:=i) (QU (L:=[]) hu (by omega) (by simp)) rfl rfl h5 λk4 gr=>?_;rw[gq] at gr;refine x (Qw gr O)<|x (Zj (i:=s.toNat) O (congrArg (Value.int .i64) gl) (by omega))<|x (UP (i:=s.toNat) ht O hW)<|x (Jk O O ⟨by omega,by omega⟩) <|
     x (Zj (i:=y.toNat) O (congrArg (Value.int .i64) hw) (by omega))<|xl O<|Jm (i:=y.toNat) ht O O h6 λw6 I hL=>xe ?_
    rw[kc] at hL;have ke:=I.size;have kf:∀b∈ob hH,b∉[bO]:=λb hb=>by have:=Qm hu b hb;simp only[List.mem_singleton];omega
    have h8:Qu 3 G.heap.size w6 hH l2:=Qj hu I kf;have kg:Step [] w w6:=E.then1 I hC;refine Qy<|Qb<|Qb<|xl O<|QC (us:=[[.int .i64 y]]) O O (by decide) (by simp) ⟨rfl,rfl,U⟩ λk5 w7 h9 k6 kh=>xl rfl<|Q5 (m:=1) (news:=[.int .i64 y]) (Qq h8 h9) rfl rfl rfl (kh.at (L:=[]) (by simp)) (by simp[Value.oneCell']) (by omega) (by have:=h9.size;omega) λhZ w8 ki ga k7 =>
     Qe ?_
    have k8:=h9.size;have k9:=ga.size;refine Qy<|QO O O<|Qb<|xe<|⟨(m+1,hZ,_,l2++[y]),by simp only[];omega,⟨O,O,U⟩,hv,(kg.trans h9).then ga (λb hb=>.inr (by have:=Qm h8 b hb;have:=gg.size;have:=ho.size;omega)),by omega,(hL.ext h9).step ga (λhb=>by have:=Qm h8 _ hb;omega),Qu.snoc ki,hE.1,hE.2,by simp only[List.length_append];omega,by rw[qZ h5];exact hJ,H⟩
   have hY:dsE lf s (o2,l2) y=(o2,l2):=by
    unfold dsE;rw[if_neg];intro hc;rw[hc.1,decide_eq_true hc.2] at h7;cases h7
   rw[hY] at H;refine Qi<|Qy<|QO O O<|Qb<|xe ?_;exact ⟨(m+1,hH,o2,l2),by simp only[];omega,⟨O,O,U⟩,hv,E,hI,ht,hu,hh,hU,h5,hJ,H⟩
  refine Qi ?_;have V:k<q.a.mr.length:=by have hD:(k:Int)<(q.a.mr.length:Int):=hQ;omega
  have kj:=gc _ (Lc V);have kk:q.a.mr.take (k+1)=q.a.mr.take k++[q.a.mr[k]'V]:=Li V;have Y:(q.a.mr.take (k+1)).foldl (jJ lf) (List.replicate q.n (-1),[])=jJ lf ((q.a.mr.take k).foldl (jJ lf) (List.replicate q.n (-1),[])) (q.a.mr[k]'V):=by rw[kk,Mx];rfl
  have kn:((q.a.mr.take k).foldl (jJ lf) (List.replicate q.n (-1),[])).1.length=q.n∧((q.a.mr.take k).foldl (jJ lf) (List.replicate q.n (-1),[])).2.length≤q.a.mr.length:=by
   rw[gi];exact ⟨VP _ _,LS (Ma _ _) (by rw[Lx];omega)⟩
  refine Zc ((q.a.mr.take k).foldl (jJ lf) (List.replicate q.n (-1),[])) λz hz=>?_;rw[hz] at ha hf Y kn;refine Zc (q.a.mr[k]'V) λy hy=>?_;rw[hy] at kj Y;have hw:y=(y.toNat:Int):=by omega
  have h6:y.toNat<z.1.length:=by omega
  have hX:=V4 (l:=lf) (s:=y) (by omega);have gs:=hA.ext h3;refine Qf<|Qh<|Qc<|xii (i:=k) gs.a.mr O O V λma hD=>?_;rw[hy] at hD;refine x (Qw hD O)<|Qe<|Qc<|Qb<|x (QE O)<|x (Qa O)<|x (Qd gs.B O O)<|Qb<|x (Zj (i:=y.toNat) O (congrArg (Value.int .i64) hw) (by omega))<|x (X2 (i:=y.toNat) (hB.ext h3) O (by omega))<|xe ?_;rw[hX];refine Q3 O (λgb=>?_) (λgb=>?_)
  ·have e1:jJ lf z y=(z.1.set y.toNat 0,z.2++[y]):=by unfold jJ;rw[if_pos gb]
   rw[e1] at Y;refine Qc<|Qb<|Qb<|x (Zj (i:=y.toNat) O (congrArg (Value.int .i64) hw) (by omega))<|xl O<|Jm (i:=y.toNat) ha O O h6 λw4 hg h4=>xe ?_;have hR:=hg.size;have gy:bO<G.heap.size:=h0.lt;have J:Qu 3 G.heap.size w4 vl z.2:=Qj hf hg (λb hb=>by have:=Qm hf b hb;simp only[List.mem_singleton];omega)
   refine Qy<|Qb<|Qb<|xl O<|QC (us:=[[.int .i64 y]]) O O (by decide) (by simp) ⟨rfl,rfl,U⟩ λmc w5 E mf ko=>xl rfl<|Q5 (m:=1) (news:=[.int .i64 y]) (Qq J E) rfl rfl rfl (ko.at (L:=[]) (by simp)) (by simp[Value.oneCell']) (by omega) (by have:=E.size;omega) λhZ w6 h8 I mg =>
    Qe ?_
   have hI:=E.size;have ke:=I.size;refine Qy<|QO O O<|Qb<|xe<|⟨(k+1,hZ),by simp only[];omega,⟨O,O,U⟩,V,((h3.then1 hg hC).trans E).then I (λb hb=>.inr (by have:=Qm J b hb;have:=ho.size;omega)),by omega,?_,?_⟩
   ·simp only[];rw[Y];exact (h4.ext E).step I (λhb=>by have:=Qm J _ hb;omega)
   simp only[];rw[Y];exact Qu.snoc h8
  have e1:jJ lf z y=z:=by unfold jJ;rw[if_neg (by rw[gb];decide)]
  rw[e1] at Y;refine Qi<|Qy<|QO O O<|Qb<|xe ?_;exact ⟨(k+1,vl),by simp only[];omega,⟨O,O,U⟩,V,h3,gh,by simp only[];rw[Y];exact ha,by simp only[];rw[Y];exact hf⟩
 refine Qi ?_;have hP:j<q.n:=by have gv:(j:Int)<(q.n:Int):=hO;omega
 refine Qf<|Qh<|Qc<|Qb<|Qe<|Qy ?_;have kp:(gA q.n (λi=>if i<j then -1 else 0)).set j (-1)=gA q.n (λi=>if i<j+1 then -1 else 0):=QlH (by rw[if_pos (by omega)]) (λi _ hi=>by
  by_cases e:i<j
  ·rw[if_pos e,if_pos (by omega)]
  rw[if_neg e,if_neg (by omega)])
 refine Qb<|Qb<|x (Zj (i:=j) O O (by omega))<|xl O<|Qf7 (i:=j) h0 O O hP kp λw6 I hL=>xe ?_;refine Qy<|QO O O<|Qb<|xe ?_;exact ⟨j+1,by omega,Z,hP,ho.then1 I hC,hL⟩
abbrev j5 (rk rs:Int) (x:Int×Int):LV:=[.int .i64 x.1,.int .i64 rk,.int .i64 rs,.int .i64 x.2]
theorem QcP (rk rs:Int) (x:Int×Int):(j5 rk rs x).length=4:=rfl
abbrev RmO (base:Nat) (w:World) (v:Value) (rk rs:Int) (l:List (Int×Int)):Prop:=w.ownsRow base 320 4 v l.length (l.flatMap (j5 rk rs))
theorem RmO.snoc {base:Nat}{w:World}{v:Value}{rk rs:Int}{l:List (Int×Int)}{x:Int×Int}(h:w.ownsRow base 320 4 v (l.length+1) (l.flatMap (j5 rk rs)++j5 rk rs x)):RmO base w v rk rs (l++[x]):=by
 unfold RmO;rw[Lh,Ly];simpa using h
theorem Qgy {a:QN}{ul:LI}{lf:Lf}{k:Nat}(h:k<a.ed.length):(a.ed.take (k+1)).foldl (XR ul lf) []=XR ul lf ((a.ed.take k).foldl (XR ul lf) []) (a.ed[k]'h):=by
 rw[Li h,Mx];rfl
set_option maxHeartbeats 4000000 in
theorem Qf4 {w:World}{bp:Nat}{q:Pz}{lf:Lf}(S:jL [] w.heap bp q) (hq:PzQ q) (hB:QZ w.heap q.bl 4 (lf.map Value.bool)) (hl:lf.length=q.n) (rk:Int) :
  QK prog 264 [.pointer (some ⟨bp,0,none⟩),.int .i64 rk] w λr w'=>Step [] w w'∧RmO w.heap.size w' r rk 2 (lost q.a q.unc lf):=by
 have hn:=hq.n;have hV:=hq.ok.st1;have hW:=hq.ok.ed_le;refine QK.of_W func264 O ntmps264 results264 (by simp) ?_;refine Qc<|Qe<|Qc<|Qe<|Qf<|Qc<|Qb<|x (QE O)<|x (Qa O)<|x (Qa O)<|x (Qd S.B O O)<|x (Qs S.a.ed O)<|Qb<|xe ?_
 refine Qh<|QA (α:=Nat×Value) [(5,5),(7,8),(15,72)] (λz=>[(5,z.2),(15,.int .i64 z.1)]) (λz w'=>z.1≤q.a.ed.length∧Step [] w w'∧RmO w.heap.size w' z.2 rk 2 ((q.a.ed.take z.1).foldl (XR q.unc lf) [])) (λz=>q.a.ed.length - z.1) (by rfl) (0,nS) ⟨O,O,U⟩ ⟨Ll _,Step.refl _ _,QP _ _ _ _⟩ ?_;rintro ⟨k,vo⟩ g w1 ⟨hk,hh,I⟩;simp only[] at hk I
 have hj:=(qB (a:=q.a) (ul:=q.unc) (lf:=lf) (q.a.ed.take k) [] (λe he=>LT he) (λp hp=>by cases hp)).2;rw[Lx] at hj;refine Qc<|x (QB O O)<|xe<|Qf<|QG O (λhm=>?_) (λhm=>?_)
 ·refine Qz ?_;have hE:q.a.ed.length≤k:=by have V:¬(k:Int)<(q.a.ed.length:Int):=hm;omega
  rw[Lo hE] at I;refine Qc<|Qb<|Qe ?_;exact Qn ⟨[_],Z,hh,I⟩
 refine Qi ?_;have G:k<q.a.ed.length:=by have V:(k:Int)<(q.a.ed.length:Int):=hm;omega
 have hF:=hq.ok.ed _ (Lc G);have E:=Qgy (ul:=q.unc) (lf:=lf) G;refine Zc ((q.a.ed.take k).foldl (XR q.unc lf) []) λout hout=>?_;rw[hout] at I E hj;refine Zc (q.a.ed[k]'G) λe he=>?_;rw[he] at hF E;simp only[List.length_nil] at hj;have hG:e.1=(e.1.toNat:Int):=by omega
 have hH:e.2.2=(e.2.2.toNat:Int):=by omega
 have hI:=V4 (l:=lf) (s:=e.1) (by omega);have hJ:=V4 (l:=lf) (s:=e.2.2) (by omega);have hK:=S.ext hh;refine Qf<|Qh<|Qc<|xie hK.a.ed O O G λhX V=>?_;rw[he] at V;refine x (QI V O O)<|xl O<|Qt (us:=[.int .i64 0,.int .i64 0,.int .i64 0]) O λb7 w2 hL hM H=>xl O<|Qo (us:=Qx e) H O O O O ⟨O,O,O,U⟩ λw3 hN Y=>xe ?_;have h4:Step [] w1 w3:=hL.then1 hN hM
 have ho:=hh.trans h4;have ha:=S.ext ho;have h5:=hB.ext ho;have hO:=Qq I h4;refine Qf<|QT (α:=Bool) [(19,47)] (λz=>[(47,.bool z)]) (λz w'=>Step [] w3 w'∧(z=true↔(lft lf e.1=false∨lft lf e.2.2=true∨e.2.1∉q.unc))) (by rfl) ?_ ?_
 ·refine QW (Step [] w3) [(0,true),(1,true),(2,true),(3,true),(4,true),(5,true),(6,true),(7,true),(8,true),(9,true),(10,true),(11,true),(12,true),(13,true),(14,true),(15,true),(16,true),(17,true),(18,true),(19,true),(20,true),(21,true),(22,true),(23,true),(24,true),(25,true),(26,false),(27,true),(28,true)] mixed (by rfl) (by kernel_rfl) (Step.drew _ _) ?_
  refine p (λ_=>Qp)<|p (λ_=>QE O)<|p (λ_=>Qa O)<|pq (λ_ hc=>Qd (ha.B.ext hc) O O)<|p (λ_=>Qa O)<|pq (λ_ hc=>Qd (Y.ext hc) O O) <|
   p (λ_=>Zj (i:=e.1.toNat) O (congrArg (Value.int .i64) hG) (by omega))<|pq (v:=.bool (lft lf e.1)) (λ_ hc=>(X2 (i:=e.1.toNat) (h5.ext hc) O (by omega)).trans (by rw[hI]))<|pB (λ_=>Zm rfl) (λJ=>?_) (λJ=>?_)
  ·refine p (λ_=>Qp)<|ps<|ps<|ps<|ps<|ps<|ps<|ps<|ps<|p (λ_=>Ql O)<|p (λ_=>Qp)<|ps<|ps<|ps<|ps<|ps<|ps<|ps<|ps<|p (λ_=>Ql O)<|pe ?_;exact ⟨_,Z,Step.drew _ _,by simp at J;simp[J]⟩
  refine p (λ_=>Qp)<|p (λ_=>Qp)<|p (λ_=>QE O)<|p (λ_=>Qa O)<|pq (λ_ hc=>Qd (ha.B.ext hc) O O)<|p (λ_=>Qa O)<|pq (λ_ hc=>Qd (Y.ext hc) O O) <|
   p (λ_=>Zj (i:=e.2.2.toNat) O (congrArg (Value.int .i64) hH) (by omega))<|?_
  refine pqB (b:=lft lf e.2.2) (λ_ hc=>(X2 (i:=e.2.2.toNat) (h5.ext hc) O (by omega)).trans (by rw[hJ])) (λhr=>?_) (λhr=>?_)
  ·refine p (λ_=>Ql O)<|p (λ_=>Qp)<|ps<|ps<|ps<|ps<|ps<|ps<|ps<|ps<|p (λ_=>Ql O)<|pe ?_;exact ⟨_,Z,Step.drew _ _,by simp[hr]⟩
  refine p (λ_=>Ql O)<|p (λ_=>Qp)<|p (λ_=>Qp)<|p (λ_=>QE O)<|p (λ_=>Qa O)<|pq (λ_ hc=>Qd (ha.B.ext hc) O O) <|
   p (λ_=>Qa O)<|pq (λ_ hc=>Qd (Y.ext hc) O O)<|pk<|xf<|(ZP (ha.u.ext (Step.drew _ _)) e.2.1).mono ?_
  rintro r4 w4 ⟨rfl,rfl⟩;refine ⟨Step.drew _ _,?_⟩;refine p (λ_=>qn O)<|p (λ_=>Ql O)<|pe ?_;exact ⟨_,Z,Step.drew _ _,by simp at J;simp[J,hr]⟩
 rintro z g w4 ⟨ht,hz⟩;have h6:=ho.trans ht;have hu:=Qq hO ht;have H:=Y.ext ht;refine Q3 rfl (λhf=>?_) (λhf=>?_)
 ·refine Qz ?_;have e1:XR q.unc lf out e=out:=by unfold XR;rw[if_pos (hz.1 hf)]
  rw[e1] at E;refine Qy<|QO O O<|Qb<|xe ?_;exact ⟨(k+1,vo),by simp only[];omega,⟨O,O,U⟩,G,h6,by simp only[];rw[E];exact hu⟩
 refine Qi ?_;have h7:¬(lft lf e.1=false∨lft lf e.2.2=true∨e.2.1∉q.unc):=λh=>by rw[hz.2 h] at hf;cases hf
 have h8:Zs [] w4.heap vo out.length 4 (out.flatMap (j5 rk 2)):=QU hu (by omega) (by simp);refine Qf<|Qc<|Qb<|x (Qs h8 O)<|Qe<|QT (α:=Bool) [(50,62)] (λz=>[(62,.bool z)]) (λz w'=>Step [] w4 w'∧(z=true↔out.getLast?.map (·.1)=some e.1)) (by rfl) ?_ ?_
 ·refine QW (Step [] w4) [(0,true),(1,true),(2,true),(3,true),(4,true),(5,true),(6,true),(7,true),(8,true),(9,true),(10,true),(11,true),(12,true)] mixed (by rfl) (by kernel_rfl) (Step.drew _ _) ?_;refine p (λ_=>Qp)<|pb (λ_=>ZR O O) (λhv=>?_) (λhv=>?_)
  ·have hY:0<out.length:=by have hP:(0:Int)<(out.length:Int):=hv;omega
   have h9:out.getLast?=some (out[out.length - 1]'(by omega)):=by rw[List.getLast?_eq_getElem?,LB]
   refine Zc (out[out.length - 1]'(by omega)) λy hy=>?_;rw[hy] at h9;refine p (λ_=>Qp)<|p (λ_=>Qp)<|p (λ_=>Qp)<|p (λ_=>JR O O ⟨by omega,by omega⟩)<|Go.Lg.pig (g:=j5 rk 2) (i:=out.length - 1) O (QcP rk 2) h8 O (congrArg (Value.int .i64) (show (out.length:Int) - 1=((out.length - 1:Nat):Int) by omega)) (by omega) λhZ hC=>?_;rw[hy] at hC
   refine p (λ_=>Zo O)<|pq (λ_ hc=>Qw ((hC.fld 0 (.int .i64 y.1) O).ext hc) O)<|p (λ_=>Qa O)<|pq (λ_ hc=>Qd (H.ext hc) O O) <|
    p (λ_=>Q4 O O)<|p (λ_=>Ql O)<|pe ?_
   exact ⟨_,Z,Step.drew _ _,by rw[h9];simp⟩
  have h0:out=[]:=Ln (by have hP:¬(0:Int)<(out.length:Int):=hv;omega);refine p (λ_=>Qp)<|ps<|ps<|ps<|ps<|ps<|ps<|ps<|ps<|ps<|p (λ_=>Ql O)<|pe ?_;exact ⟨_,Z,Step.drew _ _,by simp[h0]⟩
 rintro z2 g w5 ⟨hw,hD⟩;have h1:=h6.trans hw;have h2:=Qq hu hw;have H:=H.ext hw;refine Q3 rfl (λhg=>?_) (λhg=>?_)
 ·refine Qz ?_;have e1:XR q.unc lf out e=out:=by unfold XR;rw[if_neg h7,if_pos (hD.1 hg)]
  rw[e1] at E;refine Qy<|QO O O<|Qb<|xe ?_;exact ⟨(k+1,vo),by simp only[];omega,⟨O,O,U⟩,G,h1,by simp only[];rw[E];exact h2⟩
 refine Qi ?_;have hQ:¬out.getLast?.map (·.1)=some e.1:=λh=>by rw[hD.2 h] at hg;cases hg
 have e1:XR q.unc lf out e=out++[(e.1,e.2.1)]:=by unfold XR;rw[if_neg h7,if_neg hQ]
 rw[e1] at E;refine Qy<|Qb<|x (Qa O)<|x (Qd H O O)<|Qb<|x (Qa O)<|x (Qd H O O)<|x (QD ⟨O,O,O,O,U⟩) <|
  xl rfl<|QC (us:=[j5 rk 2 (e.1,e.2.1)]) O O (by decide) (by simp) ⟨rfl,rfl,U⟩ λga w6 h3 gb hR =>
  xl rfl<|Q5 (m:=1) (news:=j5 rk 2 (e.1,e.2.1)) (Qq h2 h3) O O O (hR.at (L:=[]) (by simp)) (by simp[Value.oneCell']) (by omega) (by have:=h1.size;have:=h3.size;omega) λhS w7 hT hU gc=>Qe<|Qy<|QO O O<|Qb<|xe ?_
 exact ⟨(k+1,hS),by simp only[];omega,⟨O,O,U⟩,G,(h1.trans h3).then hU (λb hb=>.inr (Qm h2 b hb).1),by simp only[];rw[E];exact RmO.snoc hT⟩
theorem yo (lf:Lf) (d:Int):∀(l:LI) (i:Nat),K3 lf i (l++[d])=K3 lf i l++if lf.getD (i+l.length) false=true∧d<0 then [((i+l.length:Nat):Int)] else []
 | [],i=>by
  simp only[List.nil_append,K3,List.length_nil,Nat.add_zero]
 | a::l,i=>by
  have ih:=yo lf d l (i+1);rw[show i+1+l.length=i+(a::l).length by simp;omega] at ih;simp only[List.cons_append,K3,ih];by_cases h:lf.getD i false=true∧a<0
  ·rw[if_pos h,if_pos h,Mm]
  rw[if_neg h,if_neg h]
abbrev blP (l:LI):List (Int×Int):=l.map λs=>(s,-1)
set_option maxHeartbeats 4000000 in
theorem Qab {w:World}{bp:Nat}{q:Pz}{lf:Lf}(hA:jL [] w.heap bp q) (hq:PzQ q) (hB:QZ w.heap q.bl 4 (lf.map Value.bool)) (hl:lf.length=q.n) (rk:Int) :
  QK prog 265 [.pointer (some ⟨bp,0,none⟩),.int .i64 rk] w λr w'=>Step [] w w'∧RmO w.heap.size w' r rk 3 (blP (K3 lf 0 (dsts q.a lf)))∧(K3 lf 0 (dsts q.a lf)).length≤q.n:=by
 have hn:=hq.n;have h2:=hq.ok.st1;refine QK.of_W func265 O ntmps265 results265 (by simp) ?_;refine Qc<|Qe<|Qc<|Qe<|Qf<|Qc<|Qb<|xl O<|xf<|(VI hA hq hB hl).mono ?_;rintro r1 S ⟨hg,b,rfl,hb,hh,V⟩;refine Zc (dsts q.a lf) λD hD=>?_;rw[hD] at hh V ⊢;have hj:QL [] S.heap (.slice (some ⟨b,0,none⟩) q.n q.n) D:=by
  have h:=hh.arr (L:=[]) (by simp) (n:=q.n) (cap:=q.n) (sz:=1) (by simp[V]) (by omega) (Lt _);unfold QL;rw[V];exact h
 refine x (Qs hj O)<|Qb<|xe<|Qh<|QA (α:=Nat×Value) [(5,7),(11,33)] (λz=>[(5,z.2),(11,.int .i64 z.1)]) (λz w'=>z.1≤D.length∧Step [] S w'∧RmO S.heap.size w' z.2 rk 3 (blP (K3 lf 0 (D.take z.1)))) (λz=>D.length - z.1) (by rfl) (0,nS) ⟨O,O,U⟩ ⟨Ll _,Step.refl _ _,QP _ _ _ _⟩ ?_;rintro ⟨k,vo⟩ g w2 ⟨hk,I,E⟩;simp only[] at hk E;have hm:=(VQ lf (D.take k) 0).2
 rw[Lx] at hm;have Y:=hg.trans I;refine Qc<|x (QB O O)<|xe<|Qf<|QG O (λha=>?_) (λha=>?_)
 ·refine Qz ?_;have hp:D.length≤k:=by have hr:¬(k:Int)<(D.length:Int):=ha;omega
  rw[Lo hp] at E;refine Qc<|Qb<|Qe ?_;exact Qn ⟨[_],Z,Y,Zr E hg.size,by have:=(VQ lf D 0).2;omega⟩
 refine Qi ?_;have G:k<D.length:=by have hr:(k:Int)<(D.length:Int):=ha;omega
 have ht:D.take (k+1)=D.take k++[D[k]'G]:=Li G;have H:=yo lf (D[k]'G) (D.take k) 0;rw[←ht,Lx,LG,MP (by omega)] at H;refine Zc (D[k]'G) λd hd=>?_;rw[hd] at H;refine Zc (K3 lf 0 (D.take k)) λout hout=>?_;rw[hout] at H E hm;have hc:k<lf.length:=by omega
 have hu:lf[k]'hc=lf.getD k false:=by simp[List.getD,hc]
 have hv:=hA.ext Y;refine Qf<|Qh<|Qc<|Qb<|xii (i:=k) (hj.ext I) O O G λh3 ho=>?_;rw[hd] at ho;refine x (Qw ho O)<|x Qg<|Qe<|QT (α:=Bool) [(16,26)] (λz=>[(26,.bool z)]) (λz w'=>w'=w2∧(z=true↔lf.getD k false=true∧d<0)) (by rfl) ?_ ?_
 ·refine Qy<|Qb<|x (QE O)<|x (Qa O)<|x (Qd hv.B O O)<|Qb<|x (Zj (i:=k) O O (by omega))<|xB (b:=lf.getD k false) ((X2 (i:=k) (hB.ext Y) O hc).trans (by rw[hu])) (λhe=>?_) (λhe=>?_)
  ·refine Qb<|Qb<|x (QB O O)<|x (Ql O)<|xe ?_;exact ⟨_,Z,O,by rw[he];simp⟩
  refine Qb<|xs O<|xs O<|x (Ql O)<|xe ?_;exact ⟨_,Z,O,by rw[he];simp⟩
 rintro z g w3 ⟨rfl,hz⟩;refine Q3 rfl (λJ=>?_) (λJ=>?_)
 ·rw[if_pos (hz.1 J)] at H;refine Qy<|Qb<|Qb<|Qb<|x (QD ⟨O,O,O,O,U⟩)<|xl O<|QC (us:=[j5 rk 3 ((k:Int),-1)]) O O (by decide) (by simp) ⟨rfl,rfl,U⟩ λh4 w4 hf h5 hw =>
   xl rfl<|Q5 (m:=1) (news:=j5 rk 3 ((k:Int),-1)) (Qq E hf) O O O (hw.at (L:=[]) (by simp)) (by simp[Value.oneCell']) (by rw[Le];omega) (by have:=I.size;have:=hf.size;omega) λhy w5 h0 h1 h6=>Qe<|Qy<|QO O O<|Qb<|xe ?_
  refine ⟨(k+1,hy),by simp only[];omega,⟨O,O,U⟩,G,(I.trans hf).then h1 (λb hb=>.inr (Qm E b hb).1),?_⟩;simp only[];rw[H,show blP (out++[(k:Int)])=blP out++[((k:Int),-1)] by simp];exact RmO.snoc h0
 rw[if_neg (λh=>by rw[hz.2 h] at J;cases J),LH] at H;refine Qi<|Qy<|QO O O<|Qb<|xe ?_;exact ⟨(k+1,vo),by simp only[];omega,⟨O,O,U⟩,G,I,by simp only[];rw[H];exact E⟩
theorem Qf3 {w:World}{bp:Nat}{q:Pz}{lf:Lf}(S:jL [] w.heap bp q) (hq:PzQ q) (V:QZ w.heap q.bl 4 (lf.map Value.bool)) (hl:lf.length=q.n) (rk:Int) :
  QK prog 214 [.pointer (some ⟨bp,0,none⟩),.int .i64 rk,.bool true] w λr w'=>Step [] w w'∧∃rs l,RmO w.heap.size w' r rk rs l∧l.map (·.1)=nxs q.a q.unc lf∧l.length≤1000000:=by
 have ha:=(jc q.a q.unc lf).2;have hf:=hq.ok.ed_le;have hn:=hq.n;have hg:=hq.ok.st1;have E:nxs q.a q.unc lf=if (lost q.a q.unc lf).length≠0 then (lost q.a q.unc lf).map (·.1) else K3 lf 0 (dsts q.a lf):=rfl
 refine QK.of_W func214 O ntmps214 results214 (by simp) ?_;refine Qc<|Qe<|Qf<|Qc<|Qb<|Qb<|xl O<|xf<|(Qf4 S hq V hl rk).mono ?_;rintro r1 w1 ⟨G,I⟩;refine Zc (lost q.a q.unc lf) λL hL=>?_;rw[hL] at I E ha;refine Qe<|QT (α:=Bool) [(11,17)] (λz=>[(17,.bool z)]) (λz w'=>w'=w1∧(z=true↔L.length≠0)) (by rfl) ?_ ?_
 ·refine Qy<|Qb<|x (Qs (L:=[]) (QU I (by omega) (by simp)) rfl)<|xb (ZR rfl rfl) (λJ=>?_) (λJ=>?_)
  ·refine Qb<|xs O<|xs O<|x (Ql O)<|xe ?_;exact ⟨_,Z,O,by have Y:(0:Int)<(L.length:Int):=J;simp;intro e;subst e;simp at Y⟩
  refine Qb<|Qb<|x (Zm O)<|x (Ql O)<|xe ?_;have Y:¬(0:Int)<(L.length:Int):=J;have hb:L.length=0:=by omega
  exact ⟨_,Z,O,by rw[hb];simp⟩
 rintro z g w2 ⟨rfl,hz⟩;refine Q3 rfl (λH=>?_) (λH=>?_)
 ·rw[if_pos (hz.1 H)] at E;refine Qc<|Qb<|Qe ?_;exact Qn ⟨[_],Z,G,2,L,I,E.symm,by omega⟩
 rw[if_neg (λh=>by rw[hz.2 h] at H;cases H)] at E;refine Qi<|Qc<|Qb<|Qb<|xl O<|xf<|(Qab (S.ext G) hq (V.ext G) hl rk).mono ?_;rintro r3 w3 ⟨hc,he,hh⟩;refine Qe<|Qn ⟨[_],Z,G.trans hc,3,_,Zr he G.size,?_,?_⟩
 ·rw[E,Mj];exact List.map_id _
 rw[Le];omega
structure Km (base:Nat) (w:World) (n:Nat) (f:Nat→Value) (g:Nat→List Ed):Prop where
 own:∀i,i<n→Z8 144 base w (f i) (g i)
 dj:∀i j,i<n→j<n→i≠j→Dj (f i) (f j)
theorem Km.app {base n i:Nat}{w w':World}{f:Nat→Value}{g:Nat→List Ed}{v':Value}{l:List Ed}(h:Km base w n f g) (hi:i<n) (I:Z8 144 base w' v' l) (hs:Step (ob (f i)) w w')
  (J:∀b∈ob v',b∈ob (f i)∨w.heap.size≤b):Km base w' n (KM f i v') (KM g i l):=by
 refine ⟨λj E=>?_,λj k E hk G=>?_⟩
 ·by_cases e:j=i
  ·subst e;rw[ZX,ZX];exact I
  rw[Ym _ _ e,Ym _ _ e];exact Qj (h.own j E) hs (h.dj j i E hi e)
 have key:∀j,j<n→j≠i→Dj v' (f j):=λj E e b hb H=>by
  rcases J b hb with h1 | h1
  ·exact h.dj i j hi E (Ne.symm e) b h1 H
  have:=QR (h.own j E) b H;omega
 by_cases e1:j=i
 ·subst e1;rw[ZX,Ym _ _ (Ne.symm G)];exact key k hk (Ne.symm G)
 rw[Ym _ _ e1];by_cases e2:k=i
 ·subst e2;rw[ZX];exact (key j E e1).symm
 rw[Ym _ _ e2];exact h.dj j k E hk G
theorem Km.step {base n:Nat}{X:LN}{w w':World}{f:Nat→Value}{g:Nat→List Ed}(h:Km base w n f g) (hs:Step X w w') (E:∀i,i<n→∀b∈ob (f i),b∉X):Km base w' n f g :=
 ⟨λi hi=>Qj (h.own i hi) hs (E i hi),h.dj⟩
theorem Km.ext {base n:Nat}{w w':World}{f:Nat→Value}{g:Nat→List Ed}(h:Km base w n f g) (hs:Step [] w w'):Km base w' n f g:=h.step hs (λ_ _ _ _=>by simp)
def zq (E:List Ed) (s:Nat):List Ed:=Zz E (s:Int)
theorem Qd4 (E:List Ed) (e:Ed) (G:0≤e.1):KM (zq E) e.1.toNat (zq E e.1.toNat++[e])=zq (E++[e]):=by
 funext s;unfold zq Zz;rw[L7];by_cases h:s=e.1.toNat
 ·subst h;rw[ZX];have:e.1=(e.1.toNat:Int):=by omega
  simp[←this]
 rw[Ym _ _ h];have:¬e.1=(s:Int):=by omega
 simp[this]
theorem j4 (E:List Ed) (s:Nat):(zq E s).length≤E.length:=J6 E _
def Qcn (num:LI) (m:List (Int×Value)):Prop:=∀s:Nat,s<num.length→mget m (s:Int)=if cget num s<0 then none else some (.int .i64 (cget num s))
theorem Kv (l:LI) (k:Int):ZB l k=cget l k.toNat:=rfl
structure JX (b4 mb:Nat) (r2:Value) (wS:World) (c:Cs) (m:List (Int×Value)) (vo vk ve:Value) (w:World):Prop where
 st:Step [b4,mb] wS w
 B4:QZ w.heap b4 58 [r2,.int .i64 0,vk,ve]
 M:Z7 KX w.heap mb m
 nm:Qcn c.num m
 o:Qu 3 wS.heap.size w vo c.ord
 k:Qu 3 wS.heap.size w vk c.mk'
 e:Z8 144 wS.heap.size w ve c.ed
 d1:Dj vo vk
 d2:Dj vo ve
 d3:Dj vk ve
section
variable {b4 mb:Nat} {r2:Value} {wS:World} {c:Cs} {m:List (Int×Value)} {vo vk ve:Value} {w w' w'':World}
theorem JX.ext (h:JX b4 mb r2 wS c m vo vk ve w) (hs:Step [] w w'):JX b4 mb r2 wS c m vo vk ve w' :=
 ⟨h.st.trans hs,h.B4.ext hs,h.M.ext hs,h.nm,Qq h.o hs,Qq h.k hs,Qq h.e hs,h.d1,h.d2,h.d3⟩
theorem JX.setK (h:JX b4 mb r2 wS c m vo vk ve w) (S:b4<wS.heap.size) (lm:mb<wS.heap.size) (ne:mb≠b4) {G:Value}{l:LI}(hs:Step (ob vk) w w') (H:Qu 3 wS.heap.size w' G l)
  (I:∀b∈ob G,b∈ob vk∨w.heap.size≤b) (E:Step [b4] w' w'') (J:QZ w''.heap b4 58 [r2,.int .i64 0,G,ve]):JX b4 mb r2 wS ⟨c.ord,c.num,l,c.ed⟩ m vo G ve w'' :=
 ⟨(h.st.then hs (λb hb=>.inr (Qm h.k b hb).1)).then E (λb hb=>.inl (by simp at hb;simp[hb])),J,(h.M.step hs (QM h.k lm)).step E (by simpa using ne),h.nm,
  Qj (Qj h.o hs h.d1) E (λb hb=>by have:=(Qm h.o b hb).1;simp;omega),Qj H E (λb hb=>by have:=(Qm H b hb).1;simp;omega),
  Qj (Qj h.e hs h.d3.symm) E (λb hb=>by have:=(Qm h.e b hb).1;simp;omega),h.d1.grow I (QR h.o),h.d2,(h.d3.symm.grow I (QR h.e)).symm⟩
theorem JX.setE (h:JX b4 mb r2 wS c m vo vk ve w) (S:b4<wS.heap.size) (lm:mb<wS.heap.size) (ne:mb≠b4) {G:Value}{l:List Ed}(hs:Step (ob ve) w w') (H:Z8 144 wS.heap.size w' G l)
  (I:∀b∈ob G,b∈ob ve∨w.heap.size≤b) (E:Step [b4] w' w'') (J:QZ w''.heap b4 58 [r2,.int .i64 0,vk,G]):JX b4 mb r2 wS ⟨c.ord,c.num,c.mk',l⟩ m vo vk G w'' :=
 ⟨(h.st.then hs (λb hb=>.inr (Qm h.e b hb).1)).then E (λb hb=>.inl (by simp at hb;simp[hb])),J,(h.M.step hs (QM h.e lm)).step E (by simpa using ne),h.nm,
  Qj (Qj h.o hs h.d2) E (λb hb=>by have:=(Qm h.o b hb).1;simp;omega),Qj (Qj h.k hs h.d3) E (λb hb=>by have:=(Qm h.k b hb).1;simp;omega),
  Qj H E (λb hb=>by have:=(Qm H b hb).1;simp;omega),h.d1,h.d2.grow I (QR h.o),h.d3.grow I (QR h.k)⟩
theorem JX.setN (h:JX b4 mb r2 wS c m vo vk ve w) (lm:mb<wS.heap.size) (ne:mb≠b4) {l:LI}{G:List (Int×Value)}(E:Step [mb] w w') (H:Z7 KX w'.heap mb G) (hm:Qcn l G):JX b4 mb r2 wS ⟨c.ord,l,c.mk',c.ed⟩ G vo vk ve w' :=
 ⟨h.st.then E (λb hb=>.inl (by simp at hb;simp[hb])),h.B4.step E (by simpa using ne.symm),H,hm,Qj h.o E (λb hb=>by have:=(Qm h.o b hb).1;simp;omega),
  Qj h.k E (λb hb=>by have:=(Qm h.k b hb).1;simp;omega),Qj h.e E (λb hb=>by have:=(Qm h.e b hb).1;simp;omega),h.d1,h.d2,h.d3⟩
theorem JX.setO (h:JX b4 mb r2 wS c m vo vk ve w) (H:b4<wS.heap.size) (lm:mb<wS.heap.size) {E:Value}{l:LI}(hs:Step (ob vo) w w') (I:Qu 3 wS.heap.size w' E l)
  (G:∀b∈ob E,b∈ob vo∨w.heap.size≤b):JX b4 mb r2 wS ⟨l,c.num,c.mk',c.ed⟩ m E vk ve w' :=
 ⟨h.st.then hs (λb hb=>.inr (Qm h.o b hb).1),h.B4.step hs (QM h.o H),h.M.step hs (QM h.o lm),h.nm,I,Qj h.k hs h.d1.symm,Qj h.e hs h.d2.symm,
  (h.d1.symm.grow G (QR h.k)).symm,(h.d2.symm.grow G (QR h.e)).symm,h.d3⟩
end
theorem Qcn.set {num:LI}{m:List (Int×Value)}(h:Qcn num m) {k:Nat}(hk:k<num.length) {v:Int}(E:0≤v):Qcn (num.set k v) (mput m (k:Int) (.int .i64 v)):=by
 intro s hs;rw[Nv] at hs;rw[Jp];by_cases e:s=k
 ·subst e;have:cget (num.set s v) s=v:=by unfold cget;simp[List.getD,hk]
  rw[if_pos rfl,this,if_neg (by omega)]
 rw[if_neg (by omega)];have:cget (num.set k v) s=cget num s:=by unfold cget;simp[List.getD,List.getElem?_set_ne (Ne.symm e)]
 rw[this];exact h s hs
theorem jW (i:Nat) (c:Cs) (m:LI) (e:Ed):Zf i ⟨c.ord,c.num,m,c.ed⟩ e=⟨(Zf i c e).ord,(Zf i c e).num,m,(Zf i c e).ed⟩∧(Zf i c e).mk'=c.mk':=by
 unfold Zf;split <;> exact ⟨O,O⟩
theorem jo (i:Nat):∀(l:List Ed) (c:Cs) (m:LI),l.foldl (Zf i) ⟨c.ord,c.num,m,c.ed⟩=⟨(l.foldl (Zf i) c).ord,(l.foldl (Zf i) c).num,m,(l.foldl (Zf i) c).ed⟩∧(l.foldl (Zf i) c).mk'=c.mk'
 | [],c,m=>⟨O,O⟩
 | e::l,c,m=>by
  have h1:=jW i c m e;have h2:=jo i l (Zf i c e) m;rw[LM,LM,h1.1,h2.1];exact ⟨O,h2.2.trans h1.2⟩
theorem zK (i:Nat) (c:Cs) (e:Ed):∃r,(Zf i c e).ord=c.ord++r:=by
 unfold Zf;split
 ·exact ⟨_,rfl⟩
 exact ⟨[],by simp⟩
theorem Qaw (i:Nat):∀(l:List Ed) (c:Cs),∃r,(l.foldl (Zf i) c).ord=c.ord++r
 | [],c=>⟨[],by simp⟩
 | e::l,c=>by
  obtain ⟨E,h1⟩:=zK i c e;obtain ⟨r2,h2⟩:=Qaw i l (Zf i c e);exact ⟨E++r2,by rw[LM,h2,h1,LC]⟩
theorem Qd5 {a:QN}{i:Nat}{c:Cs}(hi:i<c.ord.length):UB a i c=ZO a i ((Zz a.ed (cget c.ord i)).foldl (Zf i) c):=by
 unfold UB;rw[Kv,LY];obtain ⟨r,E⟩:=Qaw i (Zz a.ed (cget c.ord i)) c;have hm:=(jo i (Zz a.ed (cget c.ord i)) c c.mk').2;unfold ZO;have G:ZB ((Zz a.ed (cget c.ord i)).foldl (Zf i) c).ord (i:Int)=ZB c.ord (i:Int):=by
  rw[Kv,Kv,E];simp only[Int.toNat_natCast];exact qZ hi
 rw[G];split
 ·rw[(jo i _ c _).1,hm]
 rfl
set_option maxHeartbeats 8000000 in
theorem qt {w:World}{bp:Nat}{q:Pz}{lf:Lf}(hA:jL [] w.heap bp q) (hq:PzQ q) (hB:QZ w.heap q.bl 4 (lf.map Value.bool)) (hl:lf.length=q.n) :
  QK prog 218 [.pointer (some ⟨bp,0,none⟩)] w λr w'=>Step [] w w'∧∃v o,r=.tuple #[v,o]∧Y0 w.heap.size w'.heap v (jT q.a lf)∧o.oneCell'=true:=by
 have hn:=hq.n;have hst1:=hq.ok.st1;have kh:=hq.ok.ed_le;have hml:=hq.ok.mr_le;have pf:=Kq hq.ok lf;have Y:jT q.a lf=if q.a.st=0∨lft lf 0=false then ⟨q.a.al,0,[],[]⟩ else Yi (rstr q.a lf):=rfl
 refine Zc (jT q.a lf) λSA pg=>?_;rw[pg] at Y ⊢;refine QK.of_W func218 O ntmps218 results218 (by simp) ?_;refine Qc<|xl O<|Qt (us:=[nS,.int .i64 0,nS,nS]) O λb2 w1 gj hb2 hC=>Qe ?_;have hz1:=gj.size;have hl2:=hC.lt;have ki:=hA.ext gj;refine Qc<|Qb<|x (QE O)<|x (Qa O)<|x (Qa O)<|x (Qd ki.B O O)<|xl O<|xf<|(ZZ ki.a.al).mono ?_;rintro r2 w2 ⟨hM,hw⟩;have hz2:=hM.size
 have hN:=Qu.ints (L:=[]) hw hA.a.al.le (by simp);refine x (QD ⟨hN.cells,U⟩)<|xl O<|Qt (us:=[nS,.int .i64 0,nS,nS]) O λb4 w3 ph pj hD =>
  xl rfl<|Qo (us:=[r2,.int .i64 0,nS,nS]) hD O O O O ⟨hN.one,O,O,O,U⟩ λw4 pm hD=>xe ?_
 have S:Step [] w2 w4:=ph.then1 pm pj;have ha:=gj.trans hM;have hE:=ha.trans S;have hl4:=hD.lt;have hz24:=S.size;have gk:=hA.ext hE;have pn:∀b∈ob r2,b<w2.heap.size:=QR hw;refine Qf<|QT (α:=Bool) [(22,36)] (λz=>[(36,.bool z)]) (λz w'=>w'=w4∧(z=true↔(q.a.st=0∨lft lf 0=false))) (by rfl) ?_ ?_
 ·refine Qy<|Qb<|x (QE O)<|x (Qa O)<|x (Qa O)<|x (Qd gk.B O O)<|xb (Q4 O O) (λgl=>?_) (λgl=>?_)
  ·refine Qb<|xs O<|xs O<|xs O<|xs O<|xs O<|xs O<|xs O<|x (Ql O)<|xe ?_;exact ⟨_,Z,O,by simp[gl]⟩
  have gm:(0:Int).toNat<lf.length:=by
   have:0<q.n:=by omega
   simp;omega
  have gn:=V4 (l:=lf) (s:=0) gm;refine Qb<|Qb<|x (QE O)<|x (Qa O)<|x (Qd gk.B O O)<|x (Zj (i:=0) O O (by simp at gm;omega))<|x (v:=.bool (lft lf 0)) ((X2 (i:=0) (hB.ext hE) O gm).trans (by rw[←gn];rfl))<|x (Zm O)<|x (Ql O)<|xe ?_;exact ⟨_,Z,O,by simp[gl]⟩
 rintro z g w4 ⟨rfl,hz⟩;refine Q3 rfl (λhO=>?_) (λhO=>?_)
 ·rw[if_pos (hz.1 hO)] at Y;subst Y;refine Qc<|x (Qr hD O O)<|xl O<|Qo (us:=[r2,.int .i64 0,nS,nS]) ((hC.ext hM).ext S) O O O O ⟨hN.one,O,O,O,U⟩ λw6 hy hC=>Qe<|Qn ⟨[.agg #[r2,.int .i64 0,nS,nS],nS],⟨⟨_,O,Qv O (hC.at (L:=[]) (by simp)).cells⟩,rfl,U⟩,hE.then1 hy (by omega),_,_,rfl,?_,rfl⟩;have po:=Qj (Qq hw S) hy (λb hb=>by have:=(Qm hw b hb).1;simp;omega)
  exact ⟨r2,_,_,O,λL' hF=>⟨Qu.ints po hA.a.al.le (λb hb=>by have:=hF b hb;omega),Zs.nil _ _ _,Zs.nil _ _ _⟩⟩
 have kj:¬(q.a.st=0∨lft lf 0=false):=λh=>by rw[hz.2 h] at hO;cases hO
 rw[if_neg kj] at Y;have pp:0<q.a.st:=by have:=hq.ok.st0;omega
 have kk:(rstr q.a lf).st.toNat=q.n:=by show q.a.st.toNat=q.n;omega
 unfold Yi at Y;rw[if_neg (show ¬(rstr q.a lf).st=0 from λh=>kj (.inl h)),kk] at Y;simp only[] at Y;refine Qi<|Qc<|Qb<|x (QE O)<|x (Qa O)<|x (Qa O)<|x (Qd gk.B O O)<|xl O<|V1 (n:=q.n) (congrArg (Value.int .i64) hn) (congrArg (Value.int .i64) hn) (by omega) λbE w6 hy pt go=>Qe ?_;rw[QfL] at go;have hz6:=hy.size;have hlE:=go.lt;have pu:=hE.trans hy;have kn:=hA.ext pu
 refine Qf<|Qc<|Qb<|x (QE O)<|x (Qa O)<|x (Qa O)<|x (Qd kn.B O O)<|x (Qs kn.a.ed O)<|Qb<|xe<|Qh<|QA (α:=Nat×(Nat→Value)) [(7,7),(50,74)] (λz=>[(50,.int .i64 z.1)]) (λz w'=>z.1≤q.a.ed.length∧Step [bE] w6 w'∧QZ w'.heap bE 56 ((List.range q.n).map z.2)∧Km w6.heap.size w' q.n z.2 (zq ((q.a.ed.take z.1).filter λe=>lft lf e.2.2))) (λz=>q.a.ed.length - z.1) (by rfl) (0,λ_=>nS) Z
  ⟨Ll _,Step.refl _ _,go,⟨λi _=>QP _ _ _ _,λi j _ _ _=>Dj.nil _⟩⟩ ?_
 rintro ⟨k,rv⟩ g w7 ⟨hk,hP,gp,V⟩;simp only[] at hk gp V;have hG:Step [] w4 w7:=hy.then1 hP pt;have gq:=hE.trans hG;have hz7:=hP.size;have ko:=hA.ext gq;refine Qc<|x (QB O O)<|xe<|Qf<|QG O (λgr=>?_) (λgr=>?_)
 ·refine Qz ?_;have pw:q.a.ed.length≤k:=by have hQ:¬(k:Int)<(q.a.ed.length:Int):=gr;omega
  rw[Lo pw] at V;have V:Km w6.heap.size w7 q.n rv (zq (rstr q.a lf).ed):=V;have kp:(rstr q.a lf).ed.length≤q.a.ed.length:=Ma _ _;refine Qc<|xl O<|YB KX λmb w8 gs pz p0=>xl O<|Xc (k:=(0:Int)) p0 O O λE gt kq=>Qb<|Qe ?_;have H:Step [] w7 E:=gs.then1 gt pz;have p1:=H.size;have hS:=kq.lt
  refine Qc<|xl O<|QC (us:=[[.int .i64 0]]) O O (by decide) (by simp) ⟨rfl,rfl,U⟩ λkr gu h3 hb77 p2=>Qe<|Qf<|Qc<|Qe ?_;have gv:mb≠b4:=by omega
  have hH:b4<E.heap.size:=by omega
  have kt:=gq.trans H;have gw:∀b∈[b4,mb],w2.heap.size≤b:=λb hb=>by simp only[List.mem_cons,List.not_mem_nil,or_false] at hb;omega
  have p3:jL [b4,mb] E.heap bp q:=((hA.ext ha).up (λb hb=>.inr (gw b hb))).ext (S.trans (hG.trans H));have hBS:QZ E.heap q.bl 4 (lf.map Value.bool):=hB.ext kt;have hlw:=hB.lt;have ku:∀s,s<q.n→zj [b4,mb] E.heap (rv s) (zq (rstr q.a lf).ed s):=λs hs=>QU (Qq (V.own s hs) H) (by have:=j4 (rstr q.a lf).ed s;omega) (λb hb hm=>by
   have h1:=(Qm (V.own s hs) b hb).1;have h2:=QR (V.own s hs) b hb;simp only[List.mem_cons,List.not_mem_nil,or_false] at hm;omega)
  have hJ:=gp.ext H;have gx:∀b,b<w2.heap.size→b∉[b4,mb]:=λb hb hm=>by have:=gw b hm;omega
  have p4:bE∉[b4,mb]:=by simp only[List.mem_cons,List.not_mem_nil,or_false];omega
  have p5:q.bl<w2.heap.size:=by omega
  have hBl9:q.bl∉[b4,mb]:=gx _ p5;have p6:QZ E.heap b4 58 [r2,.int .i64 0,nS,nS]:=((hD.ext hG)).ext H;have p7:QZ E.heap b2 58 [nS,.int .i64 0,nS,nS]:=((hC.ext hM).ext S).ext (hG.trans H);have p8:=Qq hw (S.trans (hG.trans H));have p9:Qu 3 E.heap.size gu (.slice (some ⟨kr,0,none⟩) 1 1) [0]:=p2.own (n:=1) (sz:=1) O (by omega) (by omega)
  have kv:Qcn (ZC (rstr q.a lf)).num (mput [] (0:Int) (.int .i64 0)):=by
   have h0:Qcn (List.replicate q.n (-1)) ([]:List (Int×Value)):=λs hs=>by
    have qc:s<q.n:=by simpa using hs
    have:cget (List.replicate q.n (-1)) s=-1:=by unfold cget;simp[List.getD,qc]
    rw[this];rfl
   have h1:=h0.set (k:=0) (by simp;omega) (v:=0) (M5 _);unfold ZC;rw[kk];exact h1
  have gy:∀e∈(rstr q.a lf).ed,0≤e.1∧e.1<q.a.st∧0≤e.2.2∧e.2.2<q.a.st:=λe he=>by have:=pf.ed e he;exact ⟨this.1,this.2.1,this.2.2.2.1,this.2.2.2.2⟩
  have kw:Va q.a.st (ZC (rstr q.a lf)):=QdL (a:=rstr q.a lf) pp;have kx:(rstr q.a lf).mr=q.a.mr:=rfl;refine Zc (rstr q.a lf) λR hR=>?_;rw[hR] at Y ku kv gy kw kx kp;have qf:R.al=q.a.al:=by rw[←hR];rfl
  have hnN:q.a.st.toNat=q.n:=by omega
  refine Qh<|QA (α:=Nat×Cs×List (Int×Value)×Value×Value×Value) [(9,10),(12,14),(78,142)] (λz=>[(9,z.2.2.2.1),(10,.int .i64 z.1)])
   (λz w'=>JX b4 mb r2 E z.2.1 z.2.2.1 z.2.2.2.1 z.2.2.2.2.1 z.2.2.2.2.2 w'∧z.1≤z.2.1.ord.length∧Va q.a.st z.2.1∧z.2.1.mk'.length≤z.1∧z.2.1.ed.length≤z.1*131072∧YJ R (q.n - z.1) z.1 z.2.1=YJ R q.n 0 (ZC R)) (λz=>q.n - z.1) (by rfl)
   (0,ZC R,mput [] (0:Int) (.int .i64 0),.slice (some ⟨kr,0,none⟩) 1 1,nS,nS) ⟨O,O,U⟩
   ⟨⟨h3.any,p6.ext h3,kq.ext h3,kv,p9,QP _ _ _ _,QP _ _ _ _,Dj.nil' _,Dj.nil' _,Dj.nil' _⟩,Ll _,kw,Ll _,Ll _,O⟩ ?_
  rintro ⟨i,c,m,vo,vk,ve⟩ g ql ⟨I,hi,hc,qo,qr,gz⟩;simp only[] at I hi hc qo qr gz;have hcle:=hc.le;have hT:=Qu.ints (L:=[]) I.o (by omega) (by simp);refine Qf<|Qc<|Qb<|Qb<|x (Qs hT O)<|x (QB O O)<|xe<|QG O (λq0=>?_) (λq0=>?_)
  ·refine Qz ?_;have q1:c=YJ R q.n 0 (ZC R):=by rw[←gz,yl (by omega)]
   refine Qc<|Qb<|x (Qs hT O)<|x (Qa O)<|xl O<|QF I.B4 O O (by simp) rfl λho ha hg=>xe ?_;have q2:=Qu.ints (L:=[]) I.k (by omega) (by simp);have q3:=Z8.eds (L:=[]) I.e (by have:=hc.el;omega) (by simp)
   refine Qc<|x (Qr hg O O)<|Qb<|xl O<|Qo (us:=[r2,.int .i64 c.ord.length,vk,ve]) ((p7.step I.st (gx _ (by omega))).step ha (by simp;omega)) O O O O ⟨hN.one,O,q2.one,q3.one,U⟩ λq4 hU q5=>Qe ?_;have ky:Step [b4,mb] E ho:=I.st.then ha (λb hb=>.inl (by simp at hb;simp[hb]));have za:Step [] w q4:=(kt.then ky (λb hb=>.inr (by have:=gw b hb;omega))).then1 hU (by omega)
   refine Qn ⟨[.agg #[r2,.int .i64 c.ord.length,vk,ve],vo],⟨⟨_,O,Qv O (q5.at (L:=[]) (by simp)).cells⟩,rfl,U⟩,za,_,_,rfl,?_,hT.one⟩;rw[←q1] at Y;subst Y;have k1:=Qj (Qj I.k ha (λb hb=>by have:=(Qm I.k b hb).1;simp;omega)) hU (λb hb=>by have:=(Qm I.k b hb).1;simp;omega)
   have k2:=Qj (Qj I.e ha (λb hb=>by have:=(Qm I.e b hb).1;simp;omega)) hU (λb hb=>by have:=(Qm I.e b hb).1;simp;omega);have k3:=Qj (Qj p8 ky (λb hb=>gx b (pn b hb))) hU (λb hb=>by have:=(Qm hw b hb).1;simp;omega)
   exact ⟨r2,vk,ve,O,λL' hF=>⟨by rw[qf];exact Qu.ints k3 hA.a.al.le (λb hb=>by have:=hF b hb;omega),Qu.ints k1 (by show c.mk'.length≤_;omega) (λb hb=>by have:=hF b hb;omega),Z8.eds k2 (by show c.ed.length≤_;have:=hc.el;omega) (λb hb=>by have:=hF b hb;omega)⟩⟩
  have G:i<c.ord.length:=by omega
  refine Qi ?_;have kz:=Za G;have hsr:=hc.ord _ (Jt G);have hj:=Qd5 (a:=R) G;refine Zc (cget c.ord i) λs0 k0=>?_;rw[k0] at kz hsr hj;have k5:s0=(s0.toNat:Int):=by omega
  have g0:s0.toNat<q.n:=by omega
  have zv:zq R.ed s0.toNat=Zz R.ed s0:=by unfold zq;rw[←k5]
  have hV:=ku s0.toNat g0;rw[zv] at hV;have z0:=J6 R.ed s0;have k6:∀e∈Zz R.ed s0,0≤e.2.2∧e.2.2<q.a.st:=λe he=>⟨(gy e (Zt he).1).2.2.1,(gy e (Zt he).1).2.2.2⟩;refine Zc (Zz R.ed s0) λos z1=>?_;rw[z1] at hV z0 k6 hj;refine Qf<|Qh<|Qf<|Qc<|Qb<|Qb<|Qb<|xii (i:=i) hT O O G λa87 k7=>?_;rw[kz] at k7
  refine x (Qw k7 O)<|x (Zj (i:=s0.toNat) O (congrArg (Value.int .i64) k5) g0)<|x (Qd (u:=rv s0.toNat) (hJ.step I.st p4) O (j3 g0))<|x (Qs (hV.st I.st) O)<|Qb<|xe<|Qh<|QA (α:=Nat×Cs×List (Int×Value)×Value×Value) [(9,9),(12,14),(92,126)] (λz=>[(9,z.2.2.2.1),(92,.int .i64 z.1)])
   (λz w'=>JX b4 mb r2 E z.2.1 z.2.2.1 z.2.2.2.1 vk z.2.2.2.2 w'∧z.1≤os.length∧Va q.a.st z.2.1∧z.2.1.mk'=c.mk'∧z.2.1.ed.length=c.ed.length+z.1∧(∃r,z.2.1.ord=c.ord++r)∧(os.drop z.1).foldl (Zf i) z.2.1=os.foldl (Zf i) c) (λz=>os.length - z.1) (by rfl) (0,c,m,vo,ve) ⟨O,O,U⟩
   ⟨I,Ll _,hc,O,O,⟨[],by simp⟩,rfl⟩ ?_
  rintro ⟨k4,d,m4,hW,hX⟩ g ho ⟨hh,z2,J,g2,k8,hY,h4⟩;simp only[] at hh z2 J g2 k8 hY h4;have hcle4:=J.le;have z3:=Qu.ints (L:=[]) hh.o (by omega) (by simp);have g3:i<d.ord.length:=by obtain ⟨r,hr⟩:=hY;rw[hr,Lh];omega
  have k9:cget d.ord i=s0:=by obtain ⟨r,hr⟩:=hY;rw[hr,qZ G];exact k0
  refine Qc<|x (QB O O)<|xe<|Qf<|QG O (λz4=>?_) (λz4=>?_)
  ·refine Qz ?_;rw[Lr (by omega),Ns] at h4;rw[←h4] at hj;have ma:=p3.st hh.st;have z9:d.ord[i]'g3=s0:=by rw[Za g3];exact k9
   have hmkC:ZO R i d=if s0∈q.a.mr then ⟨d.ord,d.num,d.mk'++[(i:Int)],d.ed⟩ else d:=by
    unfold ZO;rw[Kv,LY,k9,kx]
   rw[hmkC] at hj;have hZ:YJ R (q.n - (i+1)) (i+1) (UB R i c)=YJ R q.n 0 (ZC R):=by
    rw[←gz];obtain ⟨t,ht⟩:∃t,q.n - i=t+1:=⟨q.n - i - 1,by omega⟩;rw[ht,YJ,if_pos G,show q.n - (i+1)=t by omega]
   have hm4l:=congrArg List.length g2;refine Qf<|QW (Step [] ho) [(0,true),(1,true),(2,true),(3,true),(4,true),(5,true),(6,true),(7,true),(8,true),(9,false)] mixed (by rfl) (by kernel_rfl) (Step.drew _ _) ?_;refine p (λ_=>Qp)<|p (λ_=>QE O)<|p (λ_=>Qa O)<|p (λ_=>Qa O)<|pq (λ_ hc=>Qd (ma.B.ext hc) O O)<|p (λ_=>Qp) <|
    p (λ_=>Qp)<|pii (i:=i) O z3 O O g3 λa134 mc=>?_
   rw[z9] at mc;refine pq (λ_ hc=>Qw (mc.ext hc) O)<|pk<|xf<|(ZP (ma.a.mr.ext (Step.drew _ _)) s0).mono ?_;rintro r16 w16 ⟨rfl,rfl⟩;refine ⟨Step.drew _ _,pe ?_⟩;have hf:=hh.ext (Step.drew [] ho);refine QG O (λg4=>?_) (λg4=>?_)
   ·rw[if_neg g4] at hj;refine Qi<|Qy<|Qb<|QO O O<|Qe ?_;rw[hj] at hZ;exact ⟨(i+1,d,m4,hW,vk,hX),by simp only[];omega,⟨O,O,U⟩,hf,by simp only[];omega,J,by simp only[];omega,by simp only[];omega,hZ⟩
   rw[if_pos g4] at hj;refine Qy<|x (Qa O)<|x (Qd hf.B4 O O)<|Qb<|xl O<|QC (us:=[[.int .i64 i]]) O O (by decide) (by simp) ⟨rfl,rfl,U⟩ λb140 w17 hs17 hb140 hB140=>?_;have hK:=hf.ext hs17;refine xl O<|Q5 (news:=[.int .i64 i]) (L:=[]) hK.k O O O (hB140.at (by simp)) (by simp[Value.oneCell']) (by omega) hK.st.size λmf w18 mg mh hn18=>?_
   have hk18:Qu 3 E.heap.size w18 mf (d.mk'++[(i:Int)]):=Qu.snoc mg;refine x (Qa O)<|xl O<|QF (hK.B4.step mh (QM hK.k hH)) O O (by simp) (QH mg) λw19 hs19 hB19=>xe ?_;have hI19:=hK.setK hH hS gv mh hk18 hn18 hs19 hB19;refine Qy<|Qb<|QO O O<|Qe ?_;rw[hj] at hZ
   exact ⟨(i+1,⟨d.ord,d.num,d.mk'++[(i:Int)],d.ed⟩,m4,hW,mf,hX),by simp only[];omega,⟨O,O,U⟩,hI19,by simp only[];omega,⟨J.nl,J.sum,J.ord,J.num,J.el⟩,by simp only[List.length_append,List.length_singleton];omega,by simp only[];omega,hZ⟩
  refine Qi ?_;have ga:k4<os.length:=by omega
  have hdr:=QX ga;rw[hdr,LM] at h4;have g5:=k6 _ (Lc ga);refine Zc (os[k4]'ga) λe he=>?_;rw[he] at h4 g5;have gb:e.2.2=(e.2.2.toNat:Int):=by omega
  have gc:e.2.2.toNat<d.num.length:=by rw[J.nl];omega
  have mj:=hh.nm e.2.2.toNat gc;rw[←gb] at mj;have mo:ZB d.num e.2.2=cget d.num e.2.2.toNat:=rfl;refine Qf<|Qh<|Qc<|xie (hV.st hh.st) O O ga λa94 mq=>?_;rw[he] at mq;refine x (QI mq O O)<|xl O<|Qt (us:=[.int .i64 0,.int .i64 0,.int .i64 0]) O λg6 w20 hs20 g7 hg=>xl O<|Qo (us:=Qx e) hg O O O O ⟨O,O,O,U⟩ λge hs21 hg=>xe ?_;have ms:Step [] ho ge:=hs20.then1 hs21 g7
  have hf:=hh.ext ms;have hl12:=hg.lt;have hz21:=ms.size;have hIz:=hh.st.size;have mt:Va q.a.st (Zf i d e):=jV J g5.1 g5.2 (by have:=J.el;omega);have mu:Zf i d e=⟨(ZW d e).ord,(ZW d e).num,(ZW d e).mk',(ZW d e).ed++[((i:Int),e.2.1,ZB (ZW d e).num e.2.2)]⟩:=U9 gc;have hordl:=mt.le
  refine QT (α:=Value) [(13,14),(96,102)] (λz=>[(13,.int .i64 (if cget d.num e.2.2.toNat<0 then 0 else cget d.num e.2.2.toNat)),(14,.bool (!decide (cget d.num e.2.2.toNat<0)))]) (λz w'=>w'=ge) (by rfl) ?_ ?_
  ·refine Qy<|Qb<|x (Qa O)<|x (Qd hg O O)<|x (v:=.tuple #[.int .i64 (if cget d.num e.2.2.toNat<0 then 0 else cget d.num e.2.2.toNat),.bool (!decide (cget d.num e.2.2.toNat<0))]) ((Vm (k:=e.2.2) hf.M O O).trans (congrArg (λv=>Result.ok (Next.value v) _) ?_))<|Qb<|x (Qk O O)<|x (Qk O O)<|x Qg<|Qe ?_
   ·rw[mj];by_cases hp:cget d.num e.2.2.toNat<0
    ·simp[hp]
    simp[hp]
   exact ⟨.bool true,⟨O,O,U⟩,O⟩
  rintro z5 g ge rfl;refine QT (α:=Value×List (Int×Value)×Int) [(9,9),(13,13),(103,115)] (λz=>[(9,z.1),(13,.int .i64 z.2.2)]) (λz w'=>cget (ZW d e).num e.2.2.toNat=z.2.2∧JX b4 mb r2 E (ZW d e) z.2.1 z.1 vk hX w'∧QZ w'.heap g6 144 (Qx e)∧ge.heap.size≤w'.heap.size) (by rfl) ?_ ?_
  ·refine Qc<|Qb<|x (Zm O)<|xe<|Q3 O (λg8=>?_) (λg8=>?_)
   ·have hp:cget d.num e.2.2.toNat<0:=by simpa using g8
    have hL:ZW d e=⟨d.ord++[e.2.2],d.num.set e.2.2.toNat d.ord.length,d.mk',d.ed⟩:=by unfold ZW;rw[mo,if_pos hp]
    have hcg:cget (ZW d e).num e.2.2.toNat=(d.ord.length:Int):=by rw[hL];unfold cget;simp[List.getD,gc]
    refine Qc<|Qb<|x (Qs (Qu.ints (L:=[]) hf.o (by omega) (by simp)) rfl)<|Qe<|Qc<|Qb<|x (Qa rfl)<|x (Qd hg rfl rfl)<|Qb<|xl rfl<|XB (k:=e.2.2) hf.M rfl rfl λw22 g9 hM22=>xe ?_;have mv:=hf.nm.set gc (v:=(d.ord.length:Int)) (by omega);rw[←gb] at mv;have hI6:=hf.setN hS gv g9 hM22 mv;have gg:=hg.step g9 (by simp;omega)
    refine Qy<|Qb<|x (Qa O)<|x (Qd gg O O)<|xl O<|QC (us:=[[.int .i64 e.2.2]]) O O (by decide) (by simp) ⟨rfl,rfl,U⟩ λb114 w23 ka hb114 hB114=>?_;have kb:=hI6.ext ka;refine xl O<|Q5 (news:=[.int .i64 e.2.2]) (L:=[]) kb.o O O O (hB114.at (by simp)) (by simp[Value.oneCell']) (by show d.ord.length+1≤_;omega) kb.st.size λmw w24 ho24 S hn24=>Qe ?_
    have hk24:Qu 3 E.heap.size w24 mw (d.ord++[e.2.2]):=Qu.snoc ho24;have hb12o:g6∉ob hW:=λhb=>by have:=QR hh.o g6 hb;omega
    have h5:=kb.setO hH hS S hk24 hn24;have:=g9.size;have:=ka.size;have:=S.size;refine ⟨(mw,mput m4 e.2.2 (.int .i64 d.ord.length),(d.ord.length:Int)),⟨O,O,U⟩,hcg,?_,(gg.ext ka).step S hb12o,by omega⟩;simp only[];rw[hL];exact h5
   have hp:¬cget d.num e.2.2.toNat<0:=by simpa using g8
   have hL:ZW d e=d:=by unfold ZW;rw[mo,if_neg hp]
   have kh:(if cget d.num e.2.2.toNat<0 then 0 else cget d.num e.2.2.toNat)=cget (ZW d e).num e.2.2.toNat:=by rw[hL,if_neg hp]
   refine Qi<|⟨(hW,m4,if cget d.num e.2.2.toNat<0 then 0 else cget d.num e.2.2.toNat),⟨O,O,U⟩,kh.symm,?_,hg,Lt _⟩
   rw[hL];exact hf
  rintro ⟨vo5,m5,tn⟩ g w25 ⟨my,h5,gg,hz25⟩;simp only[] at h5 my;have hnl:(ZW d e).num.length=d.num.length:=Qc4 d e;have mz:(ZW d e).ed=d.ed:=by unfold ZW;split <;> rfl
  have hgN:ZB (ZW d e).num e.2.2=cget (ZW d e).num e.2.2.toNat:=rfl;rw[hgN,mz,my] at mu;have heN:Z8 144 E.heap.size w25 hX d.ed:=by have:=h5.e;rw[mz] at this;exact this
  refine Qy<|x (Qa O)<|x (Qd h5.B4 O O)<|Qb<|x (Qa O)<|x (Qd gg O O)<|Qb<|x (QD ⟨O,O,O,U⟩) <|
   xl rfl<|QC (us:=[Qx ((i:Int),e.2.1,tn)]) O O (by decide) (by exact (by decide:1*3≤1000000)) ⟨O,O,U⟩ λb123 w26 m0 hb123 hB123=>?_
  have gh:=h5.ext m0;refine xl O<|Q5 (m:=1) (news:=Qx ((i:Int),e.2.1,tn)) (L:=[]) (Qq heN m0) O O O (hB123.at (by simp)) (λu hu=>by simp only[Qx,List.mem_cons,List.not_mem_nil,or_false] at hu;rcases hu with rfl | rfl | rfl <;> rfl) (by have:=J.el;omega) gh.st.size λm1 w27 m2 m3 hn27=>?_
  have hk27:Z8 144 E.heap.size w27 m1 (d.ed++[((i:Int),e.2.1,tn)]):=Z8.snoc m2;refine x (Qa O)<|xl O<|QF (gh.B4.step m3 (QM gh.e hH)) O O (by simp) (QH m2) λw28 hs28 hB28=>xe ?_;have m6:=gh.setE hH hS gv m3 hk27 hn27 hs28 hB28;rw[←mu] at m6;refine Qy<|QO O O<|Qb<|xe<|⟨(k4+1,Zf i d e,m5,vo5,m1),by simp only[];omega,⟨O,O,U⟩,m6,by simp only[];omega,mt,?_,?_,?_,h4⟩
  ·simp only[];rw[←g2];exact (jW i d [] e).2
  ·simp only[];rw[jX,k8];omega
  simp only[];obtain ⟨r1,h1⟩:=zK i d e;obtain ⟨r2',h2⟩:=hY;exact ⟨r2'++r1,by rw[h1,h2,LC]⟩
 refine Qi ?_;have G:k<q.a.ed.length:=by have hQ:(k:Int)<(q.a.ed.length:Int):=gr;omega
 have m7:=hq.ok.ed _ (Lc G);have htk:q.a.ed.take (k+1)=q.a.ed.take k++[q.a.ed[k]'G]:=Li G;have h6:(q.a.ed.take (k+1)).filter (λe=>lft lf e.2.2)=(q.a.ed.take k).filter (λe=>lft lf e.2.2)++if lft lf (q.a.ed[k]'G).2.2=true then [q.a.ed[k]'G] else []:=by
  rw[htk,L7];congr 1;by_cases h:lft lf (q.a.ed[k]'G).2.2=true
  ·simp[h]
  simp[h]
 have hfll:((q.a.ed.take k).filter (λe=>lft lf e.2.2)).length≤k:=LS (Ma _ _) (by rw[Lx];omega);refine Zc ((q.a.ed.take k).filter (λe=>lft lf e.2.2)) λkept hkept=>?_;rw[hkept] at h6 V hfll;refine Zc (q.a.ed[k]'G) λe he=>?_;rw[he] at m7 h6;have m8:e.1=(e.1.toNat:Int):=by omega
 have gb:e.2.2=(e.2.2.toNat:Int):=by omega
 have gn:=V4 (l:=lf) (s:=e.2.2) (by omega);have hv:e.1.toNat<q.n:=by omega
 refine Qf<|Qh<|Qc<|xie ko.a.ed O O G λa52 hQ=>?_;rw[he] at hQ;refine x (QI hQ O O)<|xl O<|Qt (us:=[.int .i64 0,.int .i64 0,.int .i64 0]) O λb7 w8 gs hb7 h7=>xl O<|Qo (us:=Qx e) h7 O O O O ⟨O,O,O,U⟩ λE gt h7=>xe ?_;have H:Step [] w7 E:=gs.then1 gt hb7;have p1:=H.size;have hA9:=ko.ext H;have hB9:=hB.ext (gq.trans H);have kc:=V.ext H;have hJ:=gp.ext H
 refine Qf<|QW (Step [] E) [(0,true),(1,true),(2,true),(3,true),(4,true),(5,true),(6,true),(7,true)] mixed (by rfl) (by kernel_rfl) (Step.drew _ _) ?_;refine p (λ_=>Qp)<|p (λ_=>QE O)<|p (λ_=>Qa O)<|pq (λ_ hc=>Qd (hA9.B.ext hc) O O)<|p (λ_=>Qa O)<|pq (λ_ hc=>Qd (h7.ext hc) O O) <|
  p (λ_=>Zj (i:=e.2.2.toNat) O (congrArg (Value.int .i64) gb) (by omega))<|pq (v:=.bool (lft lf e.2.2)) (λ_ hc=>(X2 (i:=e.2.2.toNat) (hB9.ext hc) O (by omega)).trans (by rw[gn]))<|pe ?_
 have h8:Step [] E { E with drawn:=E.drawn+1 }:=Step.drew _ _
 refine Q3 rfl (λke=>?_) (λke=>?_)
 ·rw[if_pos ke] at h6;have hrow:=kc.own _ hv;have kf:∀b∈ob (rv e.1.toNat),w6.heap.size≤b∧b<w7.heap.size:=λb hb=>⟨(Qm (V.own _ hv) b hb).1,QR (V.own _ hv) b hb⟩;have m9:bE∉ob (rv e.1.toNat):=λhb=>by have:=kf _ hb;omega
  have kg:b7∉ob (rv e.1.toNat):=λhb=>by have:=kf _ hb;omega
  have kp:=j4 kept e.1.toNat;refine QW (Step (ob (rv e.1.toNat)) E) [(0,true),(1,true),(2,true),(3,true),(4,true),(5,true),(6,true),(7,true),(8,true),(9,false),(10,false),(11,true),(12,false)] mixed (by rfl) (by kernel_rfl) (h8.any.trans' (Step.drew _ _)) ?_;refine p (λ_=>Qp)<|p (λ_=>Qa O)<|pq (λ_ hc=>Qd (h7.step hc kg) O O)<|p (λ_=>Qp)<|p (λ_=>Qa O) <|
   pq (λ_ hc=>Qd (h7.step hc kg) O O)<|p (λ_=>Zj (i:=e.1.toNat) O (congrArg (Value.int .i64) m8) hv)<|pq (λ_ hc=>Qd (u:=rv e.1.toNat) (hJ.step hc m9) O (j3 hv)) <|
   pq (λ_ hc=>Qr (h7.step hc kg) O O)<|pk<|QC (us:=[Qx e]) O O (by decide) (by exact (by decide:1*3≤1000000)) ⟨O,O,U⟩ λb71 gu h3 hb71 hB71=>⟨(h8.any.trans' (Step.drew _ _)).trans' h3.any,?_⟩
  have h9:Step [] E gu:=(h8.trans (Step.drew _ _)).trans h3;have hz10:=h9.size;refine pk<|Q5 (m:=1) (news:=Qx e) (L:=[]) (Qq hrow h9) O O O (hB71.at (by simp)) (λu hu=>by simp only[Qx,List.mem_cons,List.not_mem_nil,or_false] at hu;rcases hu with rfl | rfl | rfl <;> rfl) (by omega) (by omega) λvr ql pa gi hn11=>⟨h9.any.trans' gi,?_⟩
  have hBE11:=(hJ.ext h9).step gi m9;have hlen:((List.range q.n).map rv).length=q.n:=by simp
  refine p (λ_=>Zj (i:=e.1.toNat) O (congrArg (Value.int .i64) m8) hv)<|pkl (hl:=by kernel_rfl)<|QF (j:=0+e.1.toNat*1) (u:=vr) hBE11 O O (by rw[hlen];omega) (QH pa) λho ha hBE12=>pe ?_;have g7:QZ ho.heap bE 56 ((List.range q.n).map (KM rv e.1.toNat vr)):=by
   have e1:=Qe5 id q.n rv e.1.toNat vr;simp only[id] at e1;rw[←e1];simpa using hBE12
  have hvn:∀b∈ob vr,b∈ob (rv e.1.toNat)∨E.heap.size≤b:=λb hb=>(hn11 b hb).imp id (λh=>by omega);have pc:=kc.app hv (Z8.snoc pa) (h9.any.trans' gi) hvn;have pd:=pc.step ha (λi hi b hb=>by have:=(Qm (pc.own i hi) b hb).1;simp only[List.mem_singleton];omega);rw[Qd4 kept e m7.1,←h6] at pd;refine Qy<|QO O O<|Qb<|xe ?_
  exact ⟨(k+1,KM rv e.1.toNat vr),by simp only[];omega,Z,G,(((hP.trans H).trans h9).then gi (λb hb=>.inr (kf b hb).1)).trans' ha,g7,pd⟩
 rw[if_neg (by rw[ke];decide),LH] at h6;refine Qi<|Qy<|QO O O<|Qb<|xe ?_;exact ⟨(k+1,rv),by simp only[];omega,Z,G,(hP.trans H).trans h8,(hJ.ext h8),by simp only[];rw[h6];exact kc.ext h8⟩
open Go.Sort
abbrev Rz:={ x:Int×Int×Int×Int // 0≤x.1∧x.1<4096 }
instance:Inhabited Rz:=⟨⟨(0,0,0,0),by decide⟩⟩
abbrev qg (x:Rz):LV:=[.int .i64 x.1.1,.int .i64 x.1.2.1,.int .i64 x.1.2.2.1,.int .i64 x.1.2.2.2]
abbrev RzO (base:Nat) (w:World) (v:Value) (l:List Rz):Prop:=w.ownsRow base 320 4 v l.length (l.flatMap qg)
set_option maxHeartbeats 1000000 in
theorem Qm5 (x y:Rz) (W:World):Calls prog 216 #[.agg (qg x).toArray,.agg (qg y).toArray] W λe w'=>e=.returned (.int .i64 (x.1.1 - y.1.1))∧∃q os',w'=grow (W.drewN q) os':=by
 have E:IntKind.i64.wrap (x.1.1 - y.1.1)=x.1.1 - y.1.1:=Yl ⟨by have:=x.2;have:=y.2;omega,by have:=x.2;have:=y.2;omega⟩
 go_enter func216,ntmps216
 go_wp2
 go_ret;exact ⟨by rw[←E];rfl,0,_,by rw[alloc_eq_grow,alloc_eq_grow,grow_grow];rfl⟩
theorem yI (x:Rz):(qg x).length=4:=rfl
theorem yH:∀l:List Rz,(l.flatMap qg).length=l.length*4
 | []=>rfl
 | x::l=>by rw[LF,Lh,yH l,yI,LJ];omega
theorem QcN {l:List Rz}{j:Nat}(G:j<l.length*4):(l.flatMap qg)[j]?=some ((flatK qg 4 l.toArray)[j]!):=by
 have h1:j / 4<l.length:=Nat.div_lt_of_lt_mul (by omega);have h2:j % 4<4:=Nat.mod_lt _ (by decide);rw[get_flatK _ _ _ _ (by simpa using G)];have h3:=X5 qg 4 yI l (j / 4) h1;have H:(l.flatMap qg)[j]?=(qg (l[j / 4]'h1))[j % 4]?:=by
  rw[←h3,LW,if_pos h2,MM];congr 1;omega
 rw[H];have h5:(l.toArray)[j / 4]! = l[j / 4]'h1:=by simp[h1]
 rw[h5];have E:j % 4<(qg (l[j / 4]'h1)).length:=h2;exact (LB E).trans (congrArg some (getElem!_pos (qg (l[j / 4]'h1)) (j % 4) E).symm)
theorem QkZ:SWO (ltOf λx y:Rz=>x.1.1 - y.1.1) where
 irrefl x:=by unfold ltOf;simp
 trans x y z h1 h2:=by unfold ltOf at *;simp at *;omega
 ntrans x y z h1 h2:=by unfold ltOf at *;simp at *;omega
set_option maxHeartbeats 1000000 in
theorem Qd1 {w:World}{base:Nat}{v:Value}{l:List Rz}(h:RzO base w v l) (hl:l.length≤1099511627776) :
  QK prog 215 [v,.func (.func 216) #[] #[]] w λ_ w'=>Step (ob v) w w'∧∃l',l'.length=l.length∧RzO base w' v l':=by
 unfold QK;rcases h.2 with ⟨rfl,h0⟩ | ⟨g,cap,cur,rfl,ha,H,S,hb,V,hf⟩
 ·have hh:l=[]:=Ln h0;subst hh;have hc:=AnyF.slices_SortFunc_none Tryz.sortRm none 0 (.func (.func 216) #[] #[]) w;change Calls prog 215 _ _ _ at hc;refine Calls.mono hc λe w' he=>?_;obtain ⟨rfl,rfl⟩:=he;exact ⟨Step.refl _ _,[],O,h⟩
 have Y:g<w.heap.size:=(LE.1 H).1;have hq:l.length*4≤cur.size:=by rw[V];exact ME _ S
 have hH:HoldsK qg 4 w g 0 l.toArray:=by
  intro j E;rw[size_flatK,LX] at E;have h1:=QcN E;rw[←hf,LW,if_pos E] at h1;constructor
  ·show (match w.heap[g]? with | some (.cells c _ _)=>if (none:Option _).isSome then none else c[0+j]? | _=>none)=_
   rw[H];simp only[Nat.zero_add,Option.isSome_none,Bool.false_eq_true,if_false];rw[←MJ,h1];rfl
  show (match w.heap[g]? with | some (.cells _ _ (lo,hi))=>decide (lo≤0+j) && decide (0+j<hi) | _=>false)=false
  rw[H];simp
 have eg:∀args w,(callFunc 216 args).run prog w=.ok (.enter 216 args) w:=enters_of func216 (by kernel_rfl) O;have hc:=AnyQ.slices_SortFunc Tryz.sortRm 4 Tryz.isAgg320 Tryz.sizeOf320 qg yI (λx v hv=>by simp at hv;rcases hv with rfl | rfl | rfl | rfl <;> rfl) (λx y=>x.1.1 - y.1.1) QkZ 216 #[] g 0 cap l.toArray w eg (λm os dk _ x y=>Qm5 x y _) hH Y (by simp;omega)
 change Calls prog 215 _ _ _ at hc;rw[LX] at hc;refine Calls.mono hc λe w' he=>?_;obtain ⟨rfl,G,n,os,hp,_,rfl⟩:=he;have I:G.size=l.length:=by have:=hp.1;simpa using this
 have J:(sortWorldK qg 4 w g 0 n G os).heap=w.heap.modify g (onCells (putCells id 0 (flatK qg 4 G)))++os:=rfl;refine ⟨⟨rfl,O,O,?_,λk hk hn=>?_⟩,G.toList,by simpa using I,?_⟩
 ·rw[J,Ni,MC];omega
 ·rw[J,Mz,MC,if_pos hk,MS,if_neg (λe=>hn (by simp[ob,e]))]
 refine ⟨yH _,.inr ⟨g,cap,putCells id 0 (flatK qg 4 G) cur,by simp[I],ha,?_,by simp[I];exact S,hb,by simp[putCells,V],?_⟩⟩
 ·rw[J,Mz,MC,if_pos Y,MS,if_pos rfl,H];rfl
 apply Nj;intro j;rw[LW];by_cases E:j<G.toList.length*4
 ·rw[if_pos E,QcN E,MJ];have hm:j<cur.size:=by simp[I] at E;omega
  have ho:j<(flatK qg 4 G).size:=by simpa using E
  simp only[putCells,Array.getElem?_mapIdx,Array.getElem?_eq_getElem hm,Option.map_some,Nat.zero_le,Nat.zero_add,true_and,if_pos ho,Nat.sub_zero,id]
 rw[if_neg E,MT];rw[yH];omega
theorem Qlf {a:QN}{ul:LI}{lf:Lf}{n:Nat}(E:Q2 a) (G:a.st=(n:Int)) (hl:lf.length=n):∀x∈nxs a ul lf,0≤x∧x<(n:Int):=λx hx=>by
 have h1:=Qgc x hx;have h2:x.toNat<n:=by
  refine Decidable.byContradiction λh=>?_;unfold lft at h1;simp[List.getD,List.getElem?_eq_none (show lf.length≤x.toNat by omega)] at h1
 unfold nxs at hx;split at hx
 ·obtain ⟨p,hp,rfl⟩:=Lp.1 hx;obtain ⟨_,e,he,h3,_⟩:=(jc a ul lf).1 p hp;have:=E.ed e he;omega
 have:=((VQ lf (dsts a lf) 0).1 x hx).2;omega
theorem Qkl {rk rs:Int}:∀(l:List (Int×Int)),(∀x∈l.map (·.1),0≤x∧x<4096)→∃lz:List Rz,lz.flatMap qg=l.flatMap (j5 rk rs)∧lz.length=l.length
 | [],_=>⟨[],O,O⟩
 | x::l,h=>by
  obtain ⟨lz,h1,h2⟩:=Qkl l (λy hy=>h y (Lk _ hy));exact ⟨⟨(x.1,rk,rs,x.2),h x.1 Lm⟩::lz,by rw[LF,LF,h1],by simp[h2]⟩
theorem Qc2:∀l:List Rz,∀u∈l.flatMap qg,u.oneCell'=true
 | [],u,h=>by cases h
 | x::l,u,h=>by
  rw[LF,Lj] at h;rcases h with h | h
  ·simp only[qg,List.mem_cons,List.not_mem_nil,or_false] at h;rcases h with rfl | rfl | rfl | rfl <;> rfl
  exact Qc2 l u h
theorem RzO.snoc {base:Nat}{w:World}{v:Value}{l m:List Rz}(h:w.ownsRow base 320 4 v (l.length+m.length) (l.flatMap qg++m.flatMap qg)):RzO base w v (l++m):=by
 unfold RzO;rw[Lh,Ly];exact h
abbrev JQ (k d r:Value) (n:Int):LV:=[k,d,r,.int .i64 n,nS,.int .i64 0,nS,nS,nS]
structure ReI (b10:Nat) (q:Pz) (wB:World) (lf:Lf) (rn:Int) (vr:Value) (lz:List Rz) (w:World):Prop where
 st:Step [b10,q.bl] wB w
 B10:QZ w.heap b10 170 (JQ (nS) (nS) vr rn)
 R:RzO wB.heap.size w vr lz
 F:QZ w.heap q.bl 4 (lf.map Value.bool)
 n:lf.length=q.n
section
variable {b10:Nat} {q:Pz} {wB w w' w'':World} {lf:Lf} {rn:Int} {vr:Value} {lz:List Rz}
theorem ReI.ext (h:ReI b10 q wB lf rn vr lz w) (hs:Step [] w w'):ReI b10 q wB lf rn vr lz w':=⟨h.st.trans hs,h.B10.ext hs,Qq h.R hs,h.F.ext hs,h.n⟩
theorem ReI.cut (h:ReI b10 q wB lf rn vr lz w) (l:q.bl<wB.heap.size) (ne:b10≠q.bl) (hs:Step [q.bl] w w') {E:Lf}(G:QZ w'.heap q.bl 4 (E.map Value.bool)) (H:E.length=q.n):ReI b10 q wB E rn vr lz w' :=
 ⟨h.st.then hs (λb hb=>.inl (by simp only[List.mem_singleton] at hb;simp[hb])),h.B10.step hs (by simpa using ne),Qj h.R hs (λb hb=>by have:=(Qm h.R b hb).1;simp only[List.mem_singleton];omega),G,H⟩
theorem ReI.app (h:ReI b10 q wB lf rn vr lz w) (l:q.bl<wB.heap.size) (V:b10<wB.heap.size) (ne:b10≠q.bl) {E:Value}{H:List Rz}{I:Int}(hs:Step (ob vr) w w') (J:RzO wB.heap.size w' E H) (G:Step [b10] w' w'')
  (S:QZ w''.heap b10 170 (JQ (nS) (nS) E I)):ReI b10 q wB lf I E H w'':=by
 have hge:=Qm h.R;exact ⟨(h.st.then hs (λb hb=>.inr (hge b hb).1)).then G (λb hb=>.inl (by simp only[List.mem_singleton] at hb;simp[hb])),S,Qj J G (λb hb=>by have:=(Qm J b hb).1;simp only[List.mem_singleton];omega),
  (h.F.step hs (λhb=>by have:=(hge _ hb).1;omega)).step G (by simpa using ne.symm),h.n⟩
theorem ReI.rounds (h:ReI b10 q wB lf rn vr lz w) (I:b10<wB.heap.size) (ne:b10≠q.bl) {G:Int}(E:Step [b10] w w') (H:QZ w'.heap b10 170 (JQ (nS) (nS) vr G)):ReI b10 q wB lf G vr lz w' :=
 ⟨h.st.then E (λb hb=>.inl (by simp only[List.mem_singleton] at hb;simp[hb])),H,Qj h.R E (λb hb=>by have:=(Qm h.R b hb).1;simp only[List.mem_singleton];omega),h.F.step E (by simpa using ne.symm),h.n⟩
end
set_option maxHeartbeats 8000000 in
theorem Qd6 {w:World}{va vm ve vf vu:Value}{a:QN}{forb unc:LI}(h:Zv [] w.heap va vm ve a) (hz:Q2 a) (hf:QL [] w.heap vf forb) (gw:∀x∈forb,0≤x∧x<a.st) (qr:forb.length≤4096) (hu:QL [] w.heap vu unc) :
  QK prog 159 [.agg #[va,.int .i64 a.st,vm,ve],vf,vu,.bool true] w λr w'=>Step [] w w'∧∃c0 c1 c2 c3 sa sm se o,r=.agg #[c0,c1,c2,c3,sa,.int .i64 (Uy a forb unc).st,sm,se,o] ∧
   ZQ [c0,c1,c2,c3,o]∧∀L:LN,(∀b∈L,b<w.heap.size)→Zv L w'.heap sa sm se (Uy a forb unc):=by
 have q0:=hz.st0;have q1:=hz.st1;obtain ⟨n,hn⟩:∃n:Nat,a.st=n:=⟨a.st.toNat,by omega⟩;have kx:a.st.toNat=n:=by omega
 have hE:Uy a forb unc=jT a (Vj a unc (n+1) (lf0 n forb)):=by unfold Uy J5;rw[kx]
 refine Zc (Uy a forb unc) λSA ky=>?_;rw[ky] at hE ⊢;refine QK.of_W func159 O ntmps159 results159 (by simp) ?_;refine Qc<|xl O<|QS (us:=[va,.int .i64 a.st,vm,ve]) O λb4 w1 gx q2 kz=>xl O<|Qt (us:=JQ (nS) (nS) (nS) 0) O λb8 w2 hV q3 gy=>xe ?_;have hG:=gx.trans hV;have q4:=gy.lt;have q5:=gx.size;have za:=hV.size
 refine Qc<|x (Qr (kz.ext hV) O O)<|Qb<|Qb<|xl O<|xf<|(Qfv (h.ext hG) hz hn (hf.ext hG) gw (hu.ext hG)).mono ?_;rintro r3 w3 ⟨hW,bp,q,rfl,k0,k4,k5,zv,hP,hF⟩;refine Qe ?_;subst k0 k4 k5;have hq:PzQ q:=⟨hz,hn⟩;have k6:=hG.trans hW;have z0:=hW.size;have z1:=hF.lt;refine Qc<|xl O<|Qt (us:=JQ (nS) (nS) (nS) 0) O λb10 I h3 k7 gz=>xe ?_;have hX:=k6.trans h3
 have z2:=h3.size;have hH:=gz.lt;have hh:b10≠q.bl:=by omega
 have hY:q.bl<I.heap.size:=by omega
 have k8:jL [b10,q.bl] I.heap bp q:=(hP.up (λb hb=>by
  simp only[List.mem_cons,List.not_mem_nil,or_false] at hb;rcases hb with rfl | rfl
  ·exact .inr k7
  exact .inl (by simp))).ext h3
 have k9:=Qjh q.n forb;have h4:∀{w'},Step [b10,q.bl] I w'→jL [] w'.heap bp q:=λhs=>(k8.st hs).up (by simp);refine Qf<|Qc<|Qb<|x (Qs (hf.ext hX) O)<|Qb<|xe ?_
 refine Qh<|QA (α:=Nat×Int×Value×List Rz) [(12,12),(25,39)] (λz=>[(25,.int .i64 z.1)]) (λz w'=>z.1≤forb.length∧ReI b10 q I (lf0 q.n forb) z.2.1 z.2.2.1 z.2.2.2 w'∧z.2.2.2.length=z.1∧(z.2.1=0∨z.2.1=1)) (λz=>forb.length - z.1) (by rfl) (0,0,nS,[]) Z
  ⟨Ll _,⟨Step.refl _ _,gz,QP _ _ _ _,hF.ext h3,k9⟩,O,.inl O⟩ ?_
 rintro ⟨k,rn,vr,lz⟩ g w5 ⟨hk,G,hZ,hJ⟩;simp only[] at hk G hZ hJ;have ma:QL [] w5.heap vf forb:=((hf.up (L':=[b10,q.bl]) (λb hb=>by
  simp only[List.mem_cons,List.not_mem_nil,or_false] at hb;exact .inr (by omega))).ext hX |>.st G.st).up (by simp)
 refine Qc<|x (QB O O)<|xe<|Qf<|QG O (λg0=>?_) (λg0=>?_)
 ·refine Qz ?_;have z3:=QdC (lf0 q.n forb);refine Qf<|Qc<|Qe<|Qh<|QA (α:=Nat×Nat×Int×Value×List Rz×Lf) [(13,14),(16,16),(40,71)] (λz=>[(13,.int .i64 z.2.1)])
   (λz w'=>ReI b10 q I z.2.2.2.2.2 z.2.2.1 z.2.2.2.1 z.2.2.2.2.1 w'∧z.2.1+z.1=q.n+3∧z.2.2.2.2.1.length≤4096+z.2.1*1000000∧Vj q.a q.unc z.1 z.2.2.2.2.2=Vj q.a q.unc (q.n+1) (lf0 q.n forb)∧KE z.2.2.2.2.2+1≤z.1) (λz=>z.1) (by rfl)
   (q.n+1,2,rn,vr,lz,lf0 q.n forb) Z ⟨G,by simp only[];omega,by simp only[];omega,O,by simp only[];omega⟩ ?_
  rintro ⟨f,rank,rn,vr,lz,lf⟩ g w6 ⟨G,mc,hZ,h5,mf⟩;simp only[] at G mc hZ h5 mf;refine Qf<|Qh<|Qc<|Qb<|Qb<|Qb<|xl O<|xf<|(Qf3 (h4 G.st) hq G.F G.n rank).mono ?_;rintro r7 w7 ⟨h6,rs,l,ga,hM,z4⟩;refine Qe ?_;have J:=G.ext h6;have g2:Zs [] w7.heap r7 l.length 4 (l.flatMap (j5 rank rs)):=QU ga (by omega) (by simp)
  have g3:(nxs q.a q.unc lf).length=l.length:=by rw[←hM,Le]
  have gb:=Qlf (ul:=q.unc) hz hn G.n;rw[←hM] at gb;refine Qf<|Qc<|Qb<|x (Qs g2 O)<|x (Q4 O O)<|xe<|Q7 O (λgc=>?_) (λgc=>?_)
  ·refine Qz ?_;have hN:l.length=0:=by have z5:(l.length:Int)=0:=gc;omega
   rw[Qd7 (by rw[g3];exact hN)] at h5;rw[←h5] at hE;refine Qc<|x (Qa O)<|x (Qa O)<|x (Qd J.B10 O O)<|xl O<|xf<|(Qd1 J.R (by omega)).mono ?_;rintro r8 S ⟨V,z9,_,mg⟩;refine xe ?_;have hge:=Qm J.R;have ge:Step [b10,q.bl] I S:=J.st.then V (λb hb=>.inr (hge b hb).1);have gg:QZ S.heap b10 170 (JQ (nS) (nS) vr rn):=J.B10.step V (λhb=>by have:=(hge _ hb).1;omega)
   have g4:QZ S.heap q.bl 4 (lf.map Value.bool):=J.F.step V (λhb=>by have:=(hge _ hb).1;omega);have g5:=QH mg;have hz8:=ge.size;refine Qf<|Qc<|Qb<|xl O<|xf<|(VI (h4 ge) hq g4 J.n).mono ?_;rintro r9 E ⟨Y,bD,rfl,hbD,g6,hO⟩;refine Zc (dsts q.a lf) λD hD=>?_;rw[hD] at g6 hO;have g7:QL [b10] E.heap (.slice (some ⟨bD,0,none⟩) q.n q.n) D:=by
    have h1:=g6.arr (L:=[b10]) (by simp only[List.mem_singleton];omega) (n:=q.n) (cap:=q.n) (sz:=1) (by simp[hO]) (by omega) (Lt _);unfold QL;rw[hO];exact h1
   have mh:=ge.trans Y;have hz9:=Y.size;have mj:=g4.ext Y;refine x (Qs g7 O)<|Qb<|xe<|Qh<|QA (α:=Nat×Value×Value×LI×LI) [(17,18),(79,107)] (λz=>[(79,.int .i64 z.1)])
    (λz w'=>z.1≤D.length∧Step [b10] E w'∧QZ w'.heap b10 170 (JQ z.2.1 z.2.2.1 vr rn)∧Qu 3 E.heap.size w' z.2.1 z.2.2.2.1∧Qu 3 E.heap.size w' z.2.2.1 z.2.2.2.2∧Dj z.2.1 z.2.2.1∧z.2.2.2.1.length≤z.1∧z.2.2.2.2.length≤z.1) (λz=>D.length - z.1) (by rfl) (0,nS,nS,[],[]) Z
    ⟨Ll _,Step.refl _ _,gg.ext Y,QP _ _ _ _,QP _ _ _ _,Dj.nil' _,Lt _,Lt _⟩ ?_
   rintro ⟨i,vk,vd,lk,ld⟩ g h7 ⟨hi,ha,h8,hK,hp,hQ,mo,mq⟩;simp only[] at hi h8 hK hp hQ mo mq;have hz10:=ha.size;have hR:Step [b10,q.bl] I h7:=mh.then ha (λb hb=>.inl (by simp only[List.mem_singleton] at hb;simp[hb]));have g8:QZ h7.heap q.bl 4 (lf.map Value.bool):=mj.step ha (by simpa using hh.symm);refine Qc<|x (QB O O)<|xe ?_
   refine Qf<|QG O (λg9=>?_) (λg9=>?_)
   ·refine Qz<|Qc<|Qb<|xl O<|xf<|(qt (h4 hR) hq g8 J.n).mono ?_;rintro r11 ms ⟨hg,_,o,rfl,⟨sa,sm,se,rfl,gh⟩,gi⟩;rw[←hE] at gh;have hr:=gh [] (by simp);have hz11:=hg.size
    refine Qb<|x (Qk O O)<|x (Qk O O)<|x (Qa O)<|xl O<|Jl (us:=[sa,.int .i64 SA.st,sm,se]) (h8.ext hg) O (by rw[←hE];rfl) O (by simp) ⟨hr.al.one,rfl,hr.mr.one,hr.ed.one,U⟩ rfl λw12 gj mt =>
     x (Qa rfl)<|xl O<|QF (j:=8) (u:=o) mt O O (by simp) gi λw13 gk mu=>xe ?_
    have mv:b8∉[b10,q.bl]:=by simp only[List.mem_cons,List.not_mem_nil,or_false];omega
    have ka:b8∉[b10]:=by simp only[List.mem_singleton];omega
    have mw:=(((((gy.ext (hW.trans h3)).step hR mv).ext hg).step gj ka).step gk ka);refine Qc<|x (Qr mu O O)<|xl O<|Qo (us:=[vk,vd,vr,.int .i64 rn,sa,.int .i64 SA.st,sm,se,o]) mw O O O O ⟨QH hK,QH hp,g5,O,hr.al.one,O,hr.mr.one,hr.ed.one,gi,U⟩ λmy kb mz=>xe ?_
    have m0:∀b∈[b10,q.bl],w.heap.size≤b:=λb hb=>by simp only[List.mem_cons,List.not_mem_nil,or_false] at hb;omega
    have m1:Step [] w my:=((((hX.then hR (λb hb=>.inr (m0 b hb))).trans hg).then1 gj (by omega)).then1 gk (by omega)).then1 kb (by omega);refine Qn ⟨[.agg [vk,vd,vr,.int .i64 rn,sa,.int .i64 SA.st,sm,se,o].toArray],⟨⟨_,O,Qv O (mz.at (L:=[]) (by simp)).cells⟩,U⟩,m1,vk,vd,vr,.int .i64 rn,sa,sm,se,o,rfl,⟨QH hK,QH hp,g5,rfl,gi,U⟩,λL hL=>?_⟩
    have h1:=gh (b10::b8::L) (λb hb=>by
     simp only[List.mem_cons] at hb;rcases hb with rfl | rfl | hb
     ·omega
     ·omega
     have:=hL b hb;omega)
    have h2:=((h1.st (gj.mono (by simp))).st (gk.mono (by simp))).st (kb.mono (by simp));exact h2.up (λb hb=>.inl (by simp[hb]))
   refine Qi ?_;have h9:i<D.length:=by have h81:(i:Int)<(D.length:Int):=g9;omega
   have gl:i<lf.length:=by rw[J.n,←hO];exact h9
   have m2:lf[i]'gl=lf.getD i false:=by simp[List.getD,gl]
   refine Qf<|Qh<|Qc<|Qb<|xii (i:=i) (g7.st ha) O O h9 λa82 kc=>?_;refine Zc (D[i]'h9) λd hd=>?_;rw[hd] at kc;refine x (Qw kc O)<|x Qg<|Qe<|Qc<|Qb<|x (QE O)<|x (Qa O)<|x (Qd (h4 hR).B O O)<|Qb<|x (Zj (i:=i) O O (by omega))<|x (v:=.bool (lf.getD i false)) ((X2 (i:=i) g8 O gl).trans (by rw[m2]))<|xe<|Q3 O (λm3=>?_) (λm3=>?_)
   ·have hA:∀{v:Value} {l:LI} {w':World},Qu 3 E.heap.size w' v l→b10∉ob v:=λho hm=>by have:=(Qm ho b10 hm).1;omega
    refine Qc<|x (Qa O)<|x (Qa O)<|x (Qd h8 O O)<|Qb<|xl O<|QC (us:=[[.int .i64 i]]) O O (by decide) (by simp) ⟨rfl,rfl,U⟩ λb95 y1 ht hb95 m4=>xl rfl<|Q5 (m:=1) (news:=[.int .i64 i]) (L:=[]) (Qq hK ht) rfl rfl rfl (m4.at (by simp)) (by simp[Value.oneCell']) (by omega) (by have:=ht.size;omega) λhB y2 ke hS m5 =>
     x (Qa rfl)<|x (Qa O)<|xl O<|QF (j:=0) (u:=hB) ((h8.ext ht).step hS (hA hK)) O O (by simp) (QH ke) λy3 gm kf=>xe ?_
    have m6:Qu 3 E.heap.size y2 hB (lk++[(i:Int)]):=Qu.snoc ke;have hzy1:=ht.size;have hzy2:=hS.size;have hzy3:=gm.size;have m7:Qu 3 E.heap.size y2 vd ld:=Qj (Qq hp ht) hS (λb hb hm=>hQ b hm hb);have kg:Dj hB vd:=λb hb hm=>by
     rcases m5 b hb with h1 | h1
     ·exact hQ b h1 hm
     have:=QR hp b hm;omega
    have kh:∀{v:Value} {l:LI},Qu 3 E.heap.size y2 v l→Qu 3 E.heap.size y3 v l:=λho=>Qj ho gm (λb hb hm=>by simp only[List.mem_singleton] at hm;subst hm;exact hA ho hb);have ki:=kh m6;have gn:=kh m7;have m8:Step [b10] E y3:=(((ha.trans ht).then hS (λb hb=>.inr (Qm hK b hb).1))).trans' gm
    refine Qy<|x (Qa O)<|x (Qa O)<|x (Qd kf O O)<|Qb<|xl O<|QC (us:=[[.int .i64 d]]) O O (by decide) (by simp) ⟨rfl,rfl,U⟩ λb103 y4 hv hb103 m9=>xl rfl<|Q5 (m:=1) (news:=[.int .i64 d]) (L:=[]) (Qq gn hv) rfl rfl rfl (m9.at (by simp)) (by simp[Value.oneCell']) (by omega) (by have:=hv.size;omega) λgo y5 kj gp pa =>
     x (Qa rfl)<|x (Qa O)<|xl O<|QF (j:=1) (u:=go) ((kf.ext hv).step gp (hA gn)) O O (by simp) (QH kj) λy6 gq pc=>xe ?_
    have kk:Qu 3 E.heap.size y5 go (ld++[d]):=Qu.snoc kj;have kn:Qu 3 E.heap.size y5 hB (lk++[(i:Int)]):=Qj (Qq ki hv) gp (λb hb hm=>kg b hb hm);have hzy4:=hv.size;refine Qy<|QO O O<|Qb<|xe ?_
    refine ⟨(i+1,hB,go,_,_),by simp only[];omega,Z,h9,(((m8.trans hv).then gp (λb hb=>.inr (Qm gn b hb).1))).trans' gq,pc,Qj kn gq (λb hb hm=>by simp only[List.mem_singleton] at hm;subst hm;exact hA kn hb),Qj kk gq (λb hb hm=>by simp only[List.mem_singleton] at hm;subst hm;exact hA kk hb),λb hb hm=>?_,by simp only[List.length_append,List.length_singleton];omega,by simp only[List.length_append,List.length_singleton];omega⟩
    rcases pa b hm with h1 | h1
    ·exact kg b hb h1
    have:=QR ki b hb;omega
   refine Qi<|Qy<|QO O O<|Qb<|xe ?_;exact ⟨(i+1,vk,vd,lk,ld),by simp only[];omega,Z,h9,ha,h8,hK,hp,hQ,by simp only[];omega,by simp only[];omega⟩
  refine Qi ?_;have hN:¬l.length=0:=λe=>gc (by show (l.length:Int)=0;omega);have ko:(nxs q.a q.unc lf).length≠0:=by rw[g3];exact hN
  have pd:=Qac ko;refine Exists.elim (Nat.exists_eq_succ_of_ne_zero (show f≠0 by omega)) λf' pf=>?_;subst pf;rw[zR ko,←hM] at h5;rw[←hM] at pd;refine Exists.elim (Qkl (rk:=(rank:Int)) (rs:=rs) l (λx hx=>by have:=gb x hx;omega)) λln hw=>?_;have hz67:=h6.size;refine Qf<|Qc<|Qb<|x (Qs g2 O)<|Qb<|xe ?_
  refine Qh<|QA (α:=Nat) [(16,16),(51,62)] (λz=>[(51,.int .i64 z)]) (λz w'=>z≤l.length∧Step [q.bl] w7 w'∧ReI b10 q I (((l.take z).map (·.1)).foldl cut lf) rn vr lz w') (λz=>l.length - z) (by rfl) 0 Z ⟨Ll _,Step.refl _ _,J⟩ ?_;rintro j g S ⟨hj,V,H⟩;have hJ:∀b∈ob r7,b≠q.bl:=λb hb e=>by have:=(Qm ga b hb).1;have:=G.st.size;omega
  have pg:RmO w6.heap.size S r7 rank rs l:=Qj ga V (λb hb hm=>hJ b hb (by simpa using hm));have kp:Zs [q.bl] S.heap r7 l.length 4 (l.flatMap (j5 rank rs)):=QU pg (by omega) (λb hb hm=>hJ b hb (by simpa using hm));refine Qc<|x (QB O O)<|xe<|Qf<|QG O (λgr=>?_) (λgr=>?_)
  ·refine Qz ?_;have ph:l.length≤j:=by have hT:¬(j:Int)<(l.length:Int):=gr;omega
   rw[Lo ph] at H;obtain ⟨ad,cap7,pj,_,pm⟩:∃ad cap,r7=.slice (some ad) l.length cap∧l.length≤cap∧At [q.bl] S.heap ad (l.flatMap (j5 rank rs)):=by
    rcases kp.2.2 with ⟨_,h0⟩ | h1
    ·exact absurd h0 hN
    exact h1
   have hlnl:ln.length*4=l.length*4:=by rw[hw.2]
   refine Qc<|x (Qa O)<|x (Qa O)<|x (Qd H.B10 O O)<|Qb<|xl O<|Q5 (m:=l.length) (news:=l.flatMap (j5 rank rs)) (L:=[q.bl]) H.R O pj (by rw[←hw.1,yH,hw.2]) pm (by rw[←hw.1];exact Qc2 ln) (by omega) H.st.size λgs pn kq kr hn22 =>
    x (Qa O)<|x (Qa O)<|xl O<|QF (j:=2) (u:=gs) (H.B10.step kr (λhb=>by have:=(Qm H.R _ hb).1;omega)) O O (by simp) (QH kq) λw23 po pp=>xe ?_
   have pt:RzO I.heap.size pn gs (lz++ln):=RzO.snoc (by rw[hw.1,hw.2];exact kq);have kt:=H.app hY hH hh kr pt po pp;refine Qy<|Qb<|x (Qa O)<|xl O<|QF (j:=3) (u:=.int .i64 rank) kt.B10 O O (by simp) rfl λw24 pu pw=>xe ?_;have pz:=kt.rounds hH hh pu pw;have p0:(-9223372036854775808:Int)≤(rank:Int)+1:=by omega
   have p1:(rank:Int)+1≤9223372036854775807:=by omega
   refine Qy<|Qb<|x (Jk O O ⟨p0,p1⟩)<|Qe ?_;exact ⟨(f',rank+1,(rank:Int),gs,lz++ln,(l.map (·.1)).foldl cut lf),by simp only[];omega,Z,pz,by simp only[];omega,by simp only[List.length_append];omega,h5,by simp only[];omega⟩
  refine Qi ?_;have he:j<l.length:=by have hT:(j:Int)<(l.length:Int):=gr;omega
  have p2:l.take (j+1)=l.take j++[l[j]'he]:=Li he;have ku:((l.take (j+1)).map (·.1)).foldl cut lf=cut (((l.take j).map (·.1)).foldl cut lf) (l[j]'he).1:=by rw[p2,Lu,Mx];rfl
  have p3:=gb (l[j]'he).1 (LK (Lc he));refine Zc (l[j]'he) λy hy=>?_;rw[hy] at ku p3;have p4:y.1=(y.1.toNat:Int):=by omega
  refine Qf<|Qh<|Qc<|xig (g:=j5 rank rs) (i:=j) (QcP rank rs) kp O O he λa53 hT=>?_;rw[hy] at hT;refine x (QI hT O O)<|xl O<|Qt (us:=[.int .i64 0,.int .i64 0,.int .i64 0,.int .i64 0]) O λb16 E Y p5 gt=>xl O<|Qo (us:=j5 rank rs y) gt O O O O ⟨O,O,O,O,U⟩ λh7 ha gt=>xe ?_;have kv:Step [] S h7:=Y.then1 ha p5;have gu:=H.ext kv;have p6:=H.n
  refine QW (Step [] h7) [(0,true),(1,true),(2,true),(3,true),(4,true),(5,true),(6,true),(7,false)] mixed (by rfl) (by kernel_rfl) (Step.drew _ _) ?_;refine p (λ_=>Qp)<|p (λ_=>QE O)<|p (λ_=>Qa O)<|pq (λ_ hc=>Qd ((h4 gu.st).B.ext hc) O O)<|p (λ_=>Qa O)<|pq (λ_ hc=>Qd (gt.ext hc) O O) <|
   p (λ_=>Zj (i:=y.1.toNat) O (congrArg (Value.int .i64) p4) (by omega))<|pkl (hl:=by kernel_rfl)<|qu (i:=y.1.toNat) (gu.F.ext (Step.drew _ _)) O O (by omega) λms hg p7=>pe ?_
  refine Qy<|QO O O<|Qb<|xe<|⟨j+1,by omega,Z,he,((V.trans kv).trans (Step.drew _ _)).trans' hg,?_⟩;rw[ku];exact (gu.ext (Step.drew _ _)).cut hY hh hg p7 (by rw[Qdz];exact p6)
 refine Qi ?_;have hU:k<forb.length:=by have gv:(k:Int)<(forb.length:Int):=g0;omega
 have p8:=gw _ (Lc hU);refine Zc (forb[k]'hU) λy hy=>?_;rw[hy] at p8;refine Qf<|Qh<|Qc<|xii (i:=k) ma O O hU λa27 gv=>?_;rw[hy] at gv;refine x (Qw gv O)<|Qe<|Qc<|x (Qa O)<|x (Qa O)<|x (Qd G.B10 O O)<|Qb<|x (QD ⟨O,O,O,O,U⟩)<|xl O<|QC (us:=[[.int .i64 y,.int .i64 1,.int .i64 1,.int .i64 (-1)]]) O O (by decide) (by simp) ⟨rfl,rfl,U⟩ λb34 w6 p9 hb34 qc=>?_
 have hC:=G.ext p9;refine xl rfl<|Q5 (m:=1) (news:=[.int .i64 y,.int .i64 1,.int .i64 1,.int .i64 (-1)]) (L:=[]) hC.R O O O (qc.at (by simp)) (by simp[Value.oneCell']) (by omega) hC.st.size λv7 w7 kw h6 hn7 =>
  x (Qa rfl)<|x (Qa O)<|xl O<|QF (j:=2) (u:=v7) (hC.B10.step h6 (λhb=>by have:=(Qm hC.R _ hb).1;omega)) O O (by simp) (QH kw) λS V gg=>xe ?_
 have qf:RzO I.heap.size w7 v7 (lz++[⟨(y,1,1,-1),by simp only[];omega⟩]):=RzO.snoc kw;have H:=hC.app hY hH hh h6 qf V gg;refine Qy<|x (Qa O)<|xl O<|QF (j:=3) (u:=.int .i64 1) H.B10 O O (by simp) rfl λE Y ql=>xe ?_;have qo:=H.rounds hH hh Y ql;refine Qy<|QO O O<|Qb<|xe ?_
 exact ⟨(k+1,1,v7,_),by simp only[];omega,Z,hU,qo,by simp only[List.length_append,List.length_singleton];omega,.inr O⟩
instance:Bw prog 170 (JQ (nS) (nS) (nS) 0) [(0,3),(3,1),(4,4),(8,1)]:=⟨by kernel_rfl,by decide⟩
theorem QkT {c:Q8}{pl:QN}{ps:List (LI)}{l:List (LI)}:∀r∈spF c pl ps l,0≤r.st∧r.st<(l.length:Int):=λr E=>by
 unfold spF at E;obtain ⟨⟨t,i⟩,hp,h1⟩:=My.1 E;have hi:=List.snd_lt_add_of_mem_zipIdx hp;simp only[Nat.zero_add] at hi;have h2:r.st=(i:Int):=by
  simp only[] at h1;unfold rsn at h1;split at h1
  ·cases h1;rfl
  split at h1
  ·cases h1;rfl
  cases h1
 omega
theorem QfE {c:Q8}(h:Yz c=0):Q2 (spc c).a∧(∀x∈fbs (spc c),0≤x∧x<(spc c).a.st)∧(fbs (spc c)).length≤4096∧(spc c).fb.length≤4096∧Je c.ev=0:=by
 unfold Yz at h;by_cases h1:Zb c≠0
 ·rw[if_pos h1] at h;exact absurd h h1
 rw[if_neg h1] at h;have I:Zb c=0:=Ls.1 h1;have E:=ZU I;by_cases h2:KB (auts c.co)≠0
 ·rw[if_pos h2] at h;exact absurd h h2
 rw[if_neg h2] at h;cases hs:sync (auts c.co) with
 | none=>rw[hs] at h;cases h
 | some z =>
  rw[hs] at h;simp only[] at h;by_cases h3:KB (auts c.co++auts c.rq)≠0
  ·rw[if_pos h3] at h;exact absurd h h3
  rw[if_neg h3] at h;cases G:sync (auts c.co++auts c.rq) with
  | none=>rw[G] at h;cases h
  | some y =>
   have H:∀a∈auts c.co++auts c.rq,Q2 a:=λa ha=>by
    rcases Lj.1 ha with ha | ha
    ·exact Yo E.co a ha
    exact Yo E.rq a ha
   have hsp:=(Yj H (A:=y.1) (Q:=y.2) G).1;have he:=yE (c:=c) (pl:=z.1) (ps:=z.2) (sa:=y.1) (ts:=y.2) hs G;have hl:=QcK c z.1 z.2 y.2;have S:=hsp.le;rw[he];unfold fbs;refine ⟨hsp.okay H,λx hx=>?_,by rw[Le];simp only[];omega,by simp only[];omega,E.e0⟩;obtain ⟨r,J,rfl⟩:=Lp.1 hx;have:=QkT r J;rw[hsp.st];exact this
theorem st4 (r:Rsn):(Zy r).length=4:=rfl
set_option maxHeartbeats 4000000 in
theorem Qbj {L:LN}{w:World}{c:CL}(h0:ZF L w.heap c) (hD:Kb w 4096) :
  QK prog 79 [c.val] w λr w'=>Step [] w w'∧∃us c0 Y c2 c3 sa sm se o,r=.tuple #[.agg us.toArray,.agg #[c0,Y,c2,c3,sa,.int .i64 (if Yz c.cel=0 then (suA c.cel).st else 0),sm,se,o],.int .i64 (Yz c.cel)]∧us.length=8∧ZQ us∧ZQ [c0,Y,c2,c3,sa,sm,se,o] ∧
   (Yz c.cel≠0→sa=nS∧sm=nS∧se=nS)∧(Yz c.cel=0→∀L:LN,(∀b∈L,b<w.heap.size)→Zv L w'.heap sa sm se (suA c.cel)):=by
 have h:=h0.up (L':=[]) (by simp);have ho:suA c.cel=Uy (spc c.cel).a (fbs (spc c.cel)) (unc c.cel.ev):=rfl;have hT:c.cel.ev=c.ev:=rfl;have hp:=QfE (c:=c.cel);refine Zc (suA c.cel) λSA hV=>?_;rw[hV] at ho ⊢;have gx:=JN (h.ext (Step.refl [] w)) hD;refine Zc (Yz c.cel) λE hE=>?_;rw[hE] at hp ⊢;refine Zc (spc c.cel) λS hS=>?_;rw[hS] at hp ho;rw[hT] at hp ho
 refine QK.of_W func79 O ntmps79 results79 (by simp) ?_;refine Qc<|xl O<|QS (us:=c.cells) O λb1 w1 hG gy hH=>xl O<|Qt (us:=[nS,.int .i64 0,nS,nS,nS,nS,nS,nS]) O λb2 w2 hq gz ht=>xl O<|Qt (us:=JQ (nS) (nS) (nS) 0) O λb3 w3 hh g0 hu=>Qe ?_;have h5:=(hG.trans hq).trans hh;have g2:=hG.size;have g3:=hq.size;have g4:=hh.size;have g5:=ht.lt;have g6:=hu.lt
 have hsp:=JN (h.ext h5) (hD.ext h5);rw[hE,hS] at hsp;refine Qc<|x (Qr ((hH.ext hq).ext hh) O O)<|xl O<|xf<|hsp.mono ?_;rintro r4 w4 ⟨hj,v,rfl,⟨us,rfl,h6,h7⟩,hF⟩;have g7:=hj.size;refine Qb<|x (Qk O O)<|x (Qk O O)<|xl O<|Qt (us:=[nS,.int .i64 0,nS,nS,nS,nS,nS,nS]) O λb5 w5 hW hX hm=>xl O<|Qo (us:=us) hm O O h6 O h7 λw6 hY hm=>Qe ?_;have J:Step [] w4 w6:=hW.then1 hY hX
 have g8:=J.size;have hv:=(h5.trans hj).trans J;have hI:=(ht.ext (hh.trans hj)).ext J;have hJ:=(hu.ext hj).ext J;have g9:=hm.lt;refine Qf<|Qc<|Qb<|x (Q9 O O)<|xe<|Q7 rfl (λhw=>?_) (λhw=>?_)
 ·refine Qc<|x (ZY [] U)<|x (ZY [] U)<|Qb<|xl O<|Qo (us:=[nS,.int .i64 0,nS,nS,nS,nS,nS,nS]) hI O O O O ⟨O,O,O,O,O,O,O,O,U⟩ λw7 G hZ =>
   xl rfl<|Qo (us:=JQ (nS) (nS) (nS) 0) (hJ.step G (by simp only[List.mem_singleton];omega)) O O O O ⟨O,O,O,O,O,O,O,O,O,U⟩ λw8 hy ga=>Qe<|Qn ⟨[.agg [nS,.int .i64 0,nS,nS,nS,nS,nS,nS].toArray,.agg (JQ (nS) (nS) (nS) 0).toArray,.int .i64 E],⟨⟨_,O,Qv O ((hZ.step hy (by simp only[List.mem_singleton];omega)).at (L:=[]) (by simp)).cells⟩,⟨_,rfl,Qv rfl (ga.at (L:=[]) (by simp)).cells⟩,rfl,U⟩,(hv.then1 G (by omega)).then1 hy (by omega),[nS,.int .i64 0,nS,nS,nS,nS,nS,nS],nS,nS,nS,.int .i64 0,nS,nS,nS,nS,by rw[if_neg hw];rfl,O,⟨O,O,O,O,O,O,O,O,U⟩,⟨O,O,O,O,O,O,O,O,U⟩,λ_=>⟨O,O,O⟩,λe=>absurd e hw⟩
 have hz:E=0:=Ls.1 hw;obtain ⟨gb,gc,ge,ka,hK⟩:=hp hz;obtain ⟨va,vm,ve,v1,v2,v3,v4,cos,rqs,gg,_,_,gh⟩:=hF hz;have gi:us=[va,.int .i64 S.a.st,vm,ve,v1,v2,v3,v4]:=by
  have h1:=congrArg (λv=>match v with | Value.agg a=>a.toList | _=>[]) gg
  simpa using h1
 subst gi;have hM:=(gh [] (by simp));have gj:=hM.1.ext J;have hN:=hM.2.2.2.2.ext J;refine Qi<|Qc<|Qe<|Qf<|Qc<|x (Qa O)<|x (Qd hm O O)<|x (Qs hN O)<|Qb<|xe ?_
 refine Qh<|QA (α:=Nat×Value) [(7,7),(9,9),(24,33)] (λz=>[(7,z.2),(24,.int .i64 z.1)]) (λz w'=>z.1≤S.fb.length∧Step [] w6 w'∧Qu 3 w6.heap.size w' z.2 ((S.fb.take z.1).map (·.st))) (λz=>S.fb.length - z.1) (by rfl) (0,nS) ⟨O,O,U⟩ ⟨Ll _,Step.refl _ _,QP _ _ _ _⟩ ?_;rintro ⟨k,vf⟩ g w7 ⟨hk,G,V⟩;simp only[] at hk V;refine Qc<|x (QB O O)<|xe<|Qf<|QG O (λh8=>?_) (λh8=>?_)
 ·refine Qz ?_;have gk:S.fb.length≤k:=by have h2:¬(k:Int)<(S.fb.length:Int):=h8;omega
  rw[Lo gk] at V;have V:Qu 3 w6.heap.size w7 vf (fbs S):=V;have gl:=hv.trans G;have gm:=G.size;refine Qc<|x (Qa O)<|x (Qd ((hH.ext (hq.trans hh)).ext ((hj.trans J).trans G)) O O)<|xl O<|xf<|(QeP (h.ev.ext gl)).mono ?_;rintro kb I ⟨ha,vu,rfl,hU⟩;rw[if_pos hK] at hU;refine Qb<|x (Qk O O)<|x (Qk O O)<|x Qg<|Qe<|Qf<|Qc<|Qb<|x (Q9 O O)<|xe ?_
  refine Q7 O (λgn=>absurd hK gn) (λ_=>?_);refine Qi ?_;have h6:(unc c.ev).length≤1099511627776:=LS (UX _ c.ev 0) h.ev.arr.le;have he:=G.trans ha;have go:=gj.ext he;have h3:Step [] I { I with drawn:=I.drawn+1 }:=Step.drew _ _
  have hO:=hm.ext he;have hP:b5∉[b2]:=by simp only[List.mem_singleton];omega
  have kc:=he.size;refine Qf<|QW (Step [b2] I) [(0,true),(1,true),(2,true),(3,true),(4,true),(5,false),(6,false),(7,false),(8,true)] mixed (by rfl) (by kernel_rfl) (Step.drew _ _) ?_;refine pq (λ_ hc=>Qr (hO.step hc hP) O O)<|p (λ_=>Qa O)<|pq (λ_ hc=>Ys (us:=[va,.int .i64 S.a.st,vm,ve]) (hO.step hc hP) O O O) <|
   p (λ_=>Qp)<|p (λ_=>Qp)<|pk<|xf<|(Qd6 (go.ext h3) gb (((Qu.ints (L:=[]) V (by omega) (by simp)).ext ha).ext h3) gc ge ((Qu.ints (L:=[]) hU h6 (by simp)).ext h3)).mono ?_
  rintro ke kf ⟨gp,c0,Y,c2,c3,sa,sm,se,o,rfl,H,h9⟩;have hf:=h3.trans gp;have kg:=hf.size;refine ⟨hf.any,?_⟩;have hQ:Uy S.a (fbs S) (unc c.ev)=SA:=ho.symm;rw[hQ] at h9;have hg:=h9 [] (by simp);refine pk<|Qo (us:=[va,.int .i64 S.a.st,vm,ve,v1,v2,v3,v4]) ((hI.ext he).ext hf) O O O O h7 λkh h4 ht=>⟨hf.any.trans' h4,?_⟩
  refine pkl (hl:=by kernel_rfl)<|Qo (us:=[c0,Y,c2,c3,sa,.int .i64 SA.st,sm,se,o]) (((hJ.ext he).ext hf).step h4 (by simp only[List.mem_singleton];omega)) O (by rw[←hQ];rfl) O O ⟨H.1,H.2.1,H.2.2.1,H.2.2.2.1,hg.al.one,O,hg.mr.one,hg.ed.one,H.2.2.2.2.1,U⟩ λki hA hu=>p (λ_=>Qg)<|pe ?_;have gq:b2∉[b3]:=by simp only[List.mem_singleton];omega
  refine Qn ⟨[.agg [va,.int .i64 S.a.st,vm,ve,v1,v2,v3,v4].toArray,.agg [c0,Y,c2,c3,sa,.int .i64 SA.st,sm,se,o].toArray,.int .i64 0],⟨⟨_,O,Qv O ((ht.step hA gq).at (L:=[]) (by simp)).cells⟩,⟨_,rfl,Qv rfl (hu.at (L:=[]) (by simp)).cells⟩,rfl,U⟩,
   (((hv.trans he).trans hf).then1 h4 (by omega)).then1 hA (by omega),_,c0,Y,c2,c3,sa,sm,se,o,by rw[hz,if_pos rfl];rfl,O,h7,⟨H.1,H.2.1,H.2.2.1,H.2.2.2.1,hg.al.one,hg.mr.one,hg.ed.one,H.2.2.2.2.1,U⟩,λe=>absurd hz e,λ_ L hL=>?_⟩
  have kj:=hv.size;have h1:=h9 (b2::b3::L) (λb hb=>by
   have kk:({ I with drawn:=I.drawn+1 }:World).heap.size=I.heap.size:=rfl
   simp only[List.mem_cons] at hb;rcases hb with rfl | rfl | hb
   ·omega
   ·omega
   have:=hL b hb;omega)
  exact ((h1.st (h4.mono (by simp))).st (hA.mono (by simp))).up (λb hb=>.inl (by simp[hb]))
 refine Qi ?_;have hn:k<S.fb.length:=by have h2:(k:Int)<(S.fb.length:Int):=h8;omega
 have hR:S.fb.take (k+1)=S.fb.take k++[S.fb[k]'hn]:=Li hn;have kn:((S.fb.take k).map (·.st)).length=k:=by rw[Le,Lx];omega
 refine Zc (S.fb[k]'hn) λr hr=>?_;rw[hr] at hR;refine Qf<|Qh<|Qc<|xig (g:=Zy) (i:=k) st4 (hN.ext G) O O hn λko h2=>?_;rw[hr] at h2;refine x (QI h2 O O)<|xl O<|Qt (us:=[.int .i64 0,.int .i64 0,.int .i64 0,.int .i64 0]) O λb9 w8 hy gr hB=>xl O<|Qo (us:=Zy r) hB O O O O ⟨O,O,O,O,U⟩ λw9 gs hB=>xe ?_;have hC:Step [] w7 w9:=hy.then1 gs gr;have kp:=hC.size;have gm:=G.size
 refine Qy<|Qb<|x (Qa O)<|x (Qd hB O O)<|xl O<|QC (us:=[[.int .i64 r.st]]) O O (by decide) (by simp) ⟨rfl,rfl,U⟩ λkq I ha kr gt =>
  xl rfl<|Q5 (m:=1) (news:=[.int .i64 r.st]) (L:=[]) (Qq V (hC.trans ha)) O O O (gt.at (by simp)) (by simp[Value.oneCell']) (by omega) (by have:=ha.size;omega) λgu kt gv gw ku=>Qe<|Qy<|QO O O<|Qb<|xe ?_
 refine ⟨(k+1,gu),by simp only[];omega,⟨O,O,U⟩,hn,((G.trans hC).trans ha).then gw (λb hb=>.inr (Qm V b hb).1),?_⟩;simp only[];rw[hR,Lu];exact Qu.snoc gv
theorem zB {L:LN}{w:World}{c:CL}(h0:ZF L w.heap c) (hg:Kb w 4096) :
  QK prog 32 [c.val] w λr w'=>Step [] w w'∧∃sa sm se,r=.tuple #[.agg #[sa,.int .i64 (if Yz c.cel=0 then (suA c.cel).st else 0),sm,se],.int .i64 (suE c.cel)]∧ZQ [sa,sm,se] ∧
   (suE c.cel≠0→sa=nS∧sm=nS∧se=nS)∧(suE c.cel=0→∀L:LN,(∀b∈L,b<w.heap.size)→Zv L w'.heap sa sm se (suA c.cel)):=by
 have h:=h0.up (L':=[]) (by simp);have hh:suE c.cel=Yz c.cel:=rfl;rw[hh];refine QK.of_W func32 O ntmps32 results32 (by simp) ?_;refine Qc<|xl O<|QS (us:=c.cells) O λb1 w1 ha hr hj=>xl O<|Qt (us:=[nS,.int .i64 0,nS,nS]) O λb2 w2 I ht G=>Qe ?_;have J:=ha.trans I;have hu:=ha.size;have hv:=I.size;have hw:=G.lt
 refine Qc<|x (Qr (hj.ext I) O O)<|xl O<|xf<|(Qbj (h.ext J) (hg.ext J)).mono ?_;rintro r3 w3 ⟨S,us,c0,c1,c2,c3,sa,sm,se,o,rfl,hk,hl,E,hm,hn⟩;refine Zc (if Yz c.cel=0 then (suA c.cel).st else 0) λN hN=>?_
 rw[hN];have hy:=S.size;refine Qb<|x (Qk O O)<|x (Qk O O)<|x (Qk O O)<|xl O<|Qt (us:=[nS,.int .i64 0,nS,nS,nS,nS,nS,nS]) O λb4 w4 hc hz V=>xl O<|Qt (us:=JQ (nS) (nS) (nS) 0) O λb5 w5 Y h2 ho =>
  xl rfl<|Qo (us:=us) (V.ext Y) O O hk O hl λw6 he h3=>xl O<|Qo (us:=[c0,c1,c2,c3,sa,.int .i64 N,sm,se,o]) (ho.step he (by have:=V.lt;simp only[List.mem_singleton];omega)) O O O O ⟨E.1,E.2.1,E.2.2.1,E.2.2.2.1,E.2.2.2.2.1,O,E.2.2.2.2.2.1,E.2.2.2.2.2.2.1,E.2.2.2.2.2.2.2.1,U⟩ λw7 hp hq=>Qe ?_
 have h4:=V.lt;have h5:=hc.size;have h6:=Y.size;have H:Step [] w3 w7:=((hc.trans Y).then1 he (by omega)).then1 hp (by omega);have h7:=H.size
 refine Qc<|x (Qa O)<|x (Ys (us:=[sa,.int .i64 N,sm,se]) hq O O O)<|Qb<|xl O<|Qo (us:=[sa,.int .i64 N,sm,se]) ((G.ext S).ext H) O O O O ⟨E.2.2.2.2.1,O,E.2.2.2.2.2.1,E.2.2.2.2.2.2.1,U⟩ λw8 hf G=>Qe<|Qn ⟨[.agg [sa,.int .i64 N,sm,se].toArray,.int .i64 (Yz c.cel)],⟨⟨_,O,Qv O (G.at (L:=[]) (by simp)).cells⟩,rfl,U⟩,((J.trans S).trans H).then1 hf (by omega),sa,sm,se,rfl,⟨E.2.2.2.2.1,E.2.2.2.2.2.1,E.2.2.2.2.2.2.1,U⟩,hm,λe L hL=>?_⟩
 have h1:=hn e (b2::L) (λb hb=>by
  simp only[List.mem_cons] at hb;rcases hb with rfl | hb
  ·omega
  have:=hL b hb;omega)
 exact ((h1.ext H).st (hf.mono (by simp))).up (λb hb=>.inl (by simp[hb]))
theorem Qjf {L:LN}{H:Array Obj}{b T:Nat}{n:Int}(h:QZ H b T [.int .i64 n]) (hb:b∉L):QL L H (.slice (some ⟨b,0,none⟩) 1 1) [n] :=
 h.arr hb (n:=1) (cap:=1) (sz:=1) O (by omega) (Lt _)
set_option maxHeartbeats 4000000 in
theorem Qgw {L:LN}{w:World}{c:CL}{q:MV}(h0:ZF L w.heap c) (hB:QL L w.heap q.v q.co) :
  QK prog 18 [c.val,.agg #[.int .i64 q.kd,.int .i64 q.ix,q.v]] w λr w'=>Step [] w w'∧∃us,r=.tuple #[.agg us.toArray,.int .i64 (mcE c.cel q.m)]∧us.length=5∧ZQ us∧(mcE c.cel q.m≠0→us=Yq)∧(mcE c.cel q.m=0→Qig w.heap.size w'.heap (.agg us.toArray) (YK c.cel q.m)):=by
 have h:=h0.up (L':=[]) (by simp);have hm:=hB.up (L':=[]) (by simp);have V:mcE c.cel q.m=if mdE c.cel q.m≠0 then mdE c.cel q.m else qe c.cel (prt q.m):=rfl
 have hC:YK c.cel q.m=Qd3 c.cel (prt q.m):=rfl;rw[hC];refine Zc (mcE c.cel q.m) λE hE=>?_;rw[hE] at V ⊢;refine QK.of_W func18 O ntmps18 results18 (by simp) ?_;refine Qc<|xl O<|QS (us:=c.cells) O λb2 w1 hy hU hj=>xl O<|QS (us:=ZG q) O λb3 w2 hc hV hz=>xl O<|Qt (us:=Yq) O λb4 w3 J hW h2=>Qe ?_;have hk:=(hy.trans hc).trans J;have hX:=hy.size;have hY:=hc.size;have hZ:=J.size
 have ga:=h2.lt;refine Qf<|Qc<|x (Qr ((hj.ext hc).ext J) O O)<|x (Qr (hz.ext J) O O)<|xl O<|xf<|(Qem (h.ext hk) (hm.ext hk)).mono ?_;rintro r4 w4 ⟨rfl,Y⟩;refine Qe ?_;have h3:=hk.trans Y;have gb:=Y.size;have hD:=((hj.ext hc).ext J).ext Y;have hl:=(hz.ext J).ext Y;have h4:=h2.ext Y;refine Qc<|Qb<|x (Q9 O O)<|xe<|Q7 rfl (λhe=>?_) (λhe=>?_)
 ·rw[if_pos he] at V;subst V;refine Qc<|x (QD U)<|Qb<|xl O<|Qo (us:=Yq) h4 O O O O ⟨O,O,O,O,O,U⟩ λw5 hF hG=>Qe ?_;exact Qn ⟨[.agg Yq.toArray,.int .i64 (mdE c.cel q.m)],⟨⟨_,O,Qv O (hG.at (L:=[]) (by simp)).cells⟩,rfl,U⟩,h3.then1 hF (by omega),Yq,rfl,rfl,⟨rfl,rfl,rfl,rfl,rfl,U⟩,λ_=>rfl,λh0=>absurd h0 he⟩
 rw[if_neg he] at V;subst V;refine Qi<|Qc<|x (Qa O)<|x (Qd hl O O)<|x (QD ⟨hm.cells,U⟩)<|xl O<|Qt (us:=[nS,nS,nS,nS]) O λb7 w6 hH hI hJ=>xl O<|Qo (us:=[q.v,nS,nS,nS]) hJ O O O O ⟨hm.one,O,O,O,U⟩ λw7 hK h5 =>
  xe ?_
 have hn:Step [] w4 w7:=hH.then1 hK hI;have gc:=hn.size;have ge:=h5.lt;refine Qc<|x (Qa O)<|x (Qd (hl.ext hn) O O)<|xl O<|QC (us:=[[.int .i64 q.ix]]) O O (by decide) (by simp) ⟨rfl,rfl,U⟩ λI w8 ho gg hM =>
  Qe ?_
 have hf:=hn.trans ho;have hN:=h3.trans hf;have gh:=ho.size;have hp:=h5.ext ho;have hO:w.heap.size≤b7:=by omega
 refine QT (α:=Value×Value×Value) [(22,33)] (λ_=>[]) (λz w'=>Step [b7] w8 w'∧QZ w'.heap b7 95 [q.v,z.1,z.2.1,z.2.2]∧QL [] w'.heap z.1 (prt q.m).rq∧QL [] w'.heap z.2.1 (prt q.m).ex∧QL [] w'.heap z.2.2 (prt q.m).cs) (by rfl) ?_ ?_
 ·have hq:∀{w':World},Step [b7] w8 w'→QL [] w'.heap (.slice (some ⟨I,0,none⟩) 1 1) [q.ix]:=λhs=>Qjf (hM.step hs (by simp only[List.mem_singleton];omega)) (by simp);refine Qc<|x (Qa O)<|x (Qd (hl.ext hf) O O)<|xe<|Qh<|Qc<|x (Q4 O O)<|Qe<|Q7 O (λht=>?_) (λht=>?_)
  ·have ha:q.kd=1:=ht;refine Qy<|Qb<|x (Qa O)<|xl O<|QF (j:=1) (u:=.slice (some ⟨I,0,none⟩) 1 1) hp O O (by simp) rfl λS G H=>xe ?_;refine ⟨(.slice (some ⟨I,0,none⟩) 1 1,nS,nS),U,G,H,?_,?_,?_⟩
   ·show QL _ _ _ (if q.kd=1 then [q.ix] else []);rw[if_pos ha];exact hq G
   ·show QL _ _ _ (if q.kd=2 then [q.ix] else []);rw[if_neg (by omega)];exact JA _ _
   show QL _ _ _ (if q.kd≠1∧q.kd≠2 then [q.ix] else []);rw[if_neg (by omega)];exact JA _ _
  have ha:¬q.kd=1:=ht;refine Qc<|x (Q4 O O)<|Qe<|Q7 O (λhu=>?_) (λhu=>?_)
  ·have hg:q.kd=2:=hu;refine Qy<|Qb<|x (Qa O)<|xl O<|QF (j:=2) (u:=.slice (some ⟨I,0,none⟩) 1 1) hp O O (by simp) rfl λS G H=>xe ?_;refine ⟨(nS,.slice (some ⟨I,0,none⟩) 1 1,nS),U,G,H,?_,?_,?_⟩
   ·show QL _ _ _ (if q.kd=1 then [q.ix] else []);rw[if_neg ha];exact JA _ _
   ·show QL _ _ _ (if q.kd=2 then [q.ix] else []);rw[if_pos hg];exact hq G
   show QL _ _ _ (if q.kd≠1∧q.kd≠2 then [q.ix] else []);rw[if_neg (by omega)];exact JA _ _
  have hg:¬q.kd=2:=hu;refine Qy<|Qb<|x (Qa O)<|xl O<|QF (j:=3) (u:=.slice (some ⟨I,0,none⟩) 1 1) hp O O (by simp) rfl λS G H=>xe ?_;refine ⟨(nS,nS,.slice (some ⟨I,0,none⟩) 1 1),U,G,H,?_,?_,?_⟩
  ·show QL _ _ _ (if q.kd=1 then [q.ix] else []);rw[if_neg ha];exact JA _ _
  ·show QL _ _ _ (if q.kd=2 then [q.ix] else []);rw[if_neg hg];exact JA _ _
  show QL _ _ _ (if q.kd≠1∧q.kd≠2 then [q.ix] else []);rw[if_pos ⟨ha,hg⟩];exact hq G
 rintro ⟨v1,v2,v3⟩ g S ⟨G,H,h6,h7,h8⟩;simp only[] at H h6 h7 h8;have hh:Step [] w S:=hN.then1 G hO;have gi:=G.size;have hP:QZ S.heap b2 47 c.cells:=(hD.ext hf).step G (by have:=hj.lt;simp only[List.mem_singleton];omega);have hQ:QZ S.heap b4 47 Yq:=(h4.ext hf).step G (by simp only[List.mem_singleton];omega)
 refine Qc<|x (Qr hP O O)<|x (Qr H O O)<|xl O<|xf<|(Qcf (p:=prt q.m) (h.ext hh) (hm.ext hh) h6 h7 h8).mono ?_;rintro gj gk ⟨hv,us,rfl,hw,h9,hR,hS⟩;have gl:=hv.size
 refine x (Qk O O)<|x (Qk O O)<|xl O<|Qo (us:=us) (hQ.ext hv) O O hw O h9 λgm hA hT=>Qe<|Qn ⟨[.agg us.toArray,.int .i64 (qe c.cel (prt q.m))],⟨⟨_,O,Qv hw (hT.at (L:=[]) (by simp)).cells⟩,rfl,U⟩,(hh.trans hv).then1 hA (by omega),us,rfl,hw,h9,hR,λe=>?_⟩;obtain ⟨cl,e1,e2,e3⟩:=hS e;refine ⟨cl,e1,e2,λL hL=>?_⟩;have h1:=e3 (b4::L) (λb hb=>by
  rcases Lb.1 hb with rfl | hb
  ·omega
  have:=hL b hb;have:=hh.size;omega)
 exact (h1.st (hA.mono (by simp))).up (λb hb=>.inl (by simp[hb]))
set_option maxHeartbeats 4000000 in
theorem Qja {L:LN}{w:World}{c:CL}{q:MV}(h0:ZF L w.heap c) (hp:QL L w.heap q.v q.co) (hq:Kb w 4096) :
  QK prog 19 [c.val,.agg #[.int .i64 q.kd,.int .i64 q.ix,q.v]] w λr w'=>Step [] w w'∧∃sa st sm se,r=.tuple #[.agg #[sa,.int .i64 st,sm,se],.int .i64 (zX c.cel q.m)]∧ZQ [sa,sm,se] ∧
   (zX c.cel q.m=0→st=(UT c.cel q.m).st∧∀L:LN,(∀b∈L,b<w.heap.size)→Zv L w'.heap sa sm se (UT c.cel q.m))∧(zX c.cel q.m≠0→st=0∧sa=nS∧sm=nS∧se=nS):=by
 have h:=h0.up (L':=[]) (by simp);have hm:=hp.up (L':=[]) (by simp);have G:zX c.cel q.m=if mcE c.cel q.m≠0 then mcE c.cel q.m else suE (YK c.cel q.m):=rfl
 have ht:UT c.cel q.m=suA (YK c.cel q.m):=rfl;rw[ht];refine Zc (zX c.cel q.m) λE hE=>?_;rw[hE] at G ⊢;refine QK.of_W func19 O ntmps19 results19 (by simp) ?_;refine Qc<|xl O<|QS (us:=c.cells) O λb2 w1 hh hI hu=>xl O<|QS (us:=ZG q) O λb3 w2 hc hJ hw=>xl O<|Qt (us:=[nS,.int .i64 0,nS,nS]) O λb4 w3 J hK hj=>Qe ?_;have he:=(hh.trans hc).trans J;have hM:=hh.size;have hO:=hc.size
 have hP:=J.size;have hQ:=hj.lt;refine Qc<|x (Qr ((hu.ext hc).ext J) O O)<|x (Qr (hw.ext J) O O)<|xl O<|xf<|(Qgw (h.ext he) (hm.ext he)).mono ?_;rintro r4 w4 ⟨hf,us,rfl,hk,hy,hS,hz⟩;have hT:=hf.size;have h2:=he.trans hf;refine Qb<|x (Qk O O)<|x (Qk O O)<|xl O<|Qt (us:=Yq) O λb6 w5 h3 h4 h5=>xl O<|Qo (us:=us) h5 O O hk O hy λS h6 h7 =>
  Qe ?_
 have V:Step [] w4 S:=h3.then1 h6 h4;have Y:=h2.trans V;have hU:=V.size;have hl:=(hj.ext hf).ext V;refine Qf<|Qc<|Qb<|x (Q9 O O)<|xe<|Q7 rfl (λH=>?_) (λH=>?_)
 ·rw[if_pos H] at G;subst G;refine Qc<|x (QD U)<|Qb<|xl O<|Qo (us:=[nS,.int .i64 0,nS,nS]) hl O O O O ⟨O,O,O,O,U⟩ λw7 h8 h9=>Qe ?_;exact Qn ⟨[.agg [nS,.int .i64 0,nS,nS].toArray,.int .i64 (mcE c.cel q.m)],⟨⟨_,O,Qv O (h9.at (L:=[]) (by simp)).cells⟩,rfl,U⟩,Y.then1 h8 (by omega),nS,0,nS,nS,rfl,⟨rfl,rfl,rfl,U⟩,λh0=>absurd h0 H,λ_=>⟨rfl,rfl,rfl,rfl⟩⟩
 rw[if_neg H] at G;subst G;obtain ⟨cl,hv,hA,hB⟩:=hz (Ls.1 H);have hC:ZF [] S.heap cl:=(hB [] (by simp)).ext V;have hn:=zB hC (hq.ext Y);rw[hA] at hn;have hD:∀R,QK prog 32 [cl.val] S R→QK prog 32 [.agg us.toArray] S R:=λR hR=>by rw[hv];exact hR
 have hsup':=hD _ hn;refine Qi<|Qc<|x (Qr h7 O hk)<|xl O<|xf<|hsup'.mono ?_;rintro r8 w8 ⟨hg,sa,sm,se,rfl,ha,hF,hG⟩;refine Zc (if Yz (YK c.cel q.m)=0 then (suA (YK c.cel q.m)).st else 0) λN I=>?_
 rw[I];have hV:=hg.size;refine x (Qk O O)<|x (Qk O O)<|xl O<|Qo (us:=[sa,.int .i64 N,sm,se]) (hl.ext hg) O O O O ⟨ha.1,O,ha.2.1,ha.2.2.1,U⟩ λw9 ho hH=>Qe<|Qn ⟨[.agg [sa,.int .i64 N,sm,se].toArray,.int .i64 (suE (YK c.cel q.m))],⟨⟨_,O,Qv O (hH.at (L:=[]) (by simp)).cells⟩,rfl,U⟩,(Y.trans hg).then1 ho (by omega),sa,N,sm,se,rfl,ha,λe=>⟨?_,λL hL=>?_⟩,λe=>?_⟩
 ·have e':Yz (YK c.cel q.m)=0:=e;rw[if_pos e'] at I;exact I.symm
 ·have h1:=hG e (b4::L) (λb hb=>by
   rcases Lb.1 hb with rfl | hb
   ·omega
   have:=hL b hb;have:=Y.size;omega)
  exact (h1.st (ho.mono (by simp))).up (λb hb=>.inl (by simp[hb]))
 have e':¬Yz (YK c.cel q.m)=0:=e;rw[if_neg e'] at I;exact ⟨I.symm,hF e⟩
theorem Xh.app3 {α:Type}{g:α→LV}{sz T:Nat}{ps:α→List (Value×Nat×Nat×LV)}{base:Nat}{E G:World}{v H:Value}{l:List α}{q:α}(h:Xh g sz T ps base E v l)
  (hq:∀t∈ps q,ZN base (ob v) E.heap t.1 t.2.1 t.2.2.1 t.2.2.2)
  (S:G.ownsRow base T sz H (l.length+1) (l.flatMap g++g q)) (I:Step (ob v) E G) (J:∀b∈ob H,b∈ob v∨E.heap.size≤b):Xh g sz T ps base G H (l++[q]):=by
 refine ⟨?_,λd hd t ht=>?_⟩
 ·rw[Lh,Ly];simpa using S
 rcases Lj.1 hd with hd | hd
 ·exact (h.each d hd t ht).app I J
 simp only[List.mem_singleton] at hd;subst hd;exact (hq t ht).app I J
abbrev Qnd (p:AV):List (Value×Nat×Nat×LV):=[(p.va,p.a.al.length,1,p.a.al.map (.int .i64)),(p.vm,p.a.mr.length,1,p.a.mr.map (.int .i64)),(p.ve,p.a.ed.length,3,p.a.ed.flatMap Qx)]
abbrev AvP (base:Nat) (w:World) (v:Value) (l:List AV):Prop:=Xh Zk 4 58 Qnd base w v l
theorem AvP.auts {base:Nat}{w:World}{v:Value}{l:List AV}{L:LN}(h:AvP base w v l) (G:l.length≤1099511627776) (E:∀b∈L,b<base):XM L w.heap v l :=
 ⟨QU h.own G (λb hb H=>by have:=(Qm h.own b hb).1;have:=E b H;omega),λp hp=>⟨h.each p hp (p.va,p.a.al.length,1,p.a.al.map (.int .i64)) (by simp) L (λb hb=>.inl (E b hb)),h.each p hp (p.vm,p.a.mr.length,1,p.a.mr.map (.int .i64)) (by simp) L (λb hb=>.inl (E b hb)),h.each p hp (p.ve,p.a.ed.length,3,p.a.ed.flatMap Qx) (by simp) L (λb hb=>.inl (E b hb))⟩⟩
def Qnn (N:Nat) (H:Array Obj) (v:Value) (l:List QN):Prop:=∃ps:List AV,ps.map (·.a)=l∧∀L:LN,(∀b∈L,b<N)→XM L H v ps
theorem QhY {p:AV}(h1:p.va.oneCell'=true) (h2:p.vm.oneCell'=true) (h3:p.ve.oneCell'=true):∀u∈Zk p,u.oneCell'=true:=by
 intro u hu;simp only[Zk,List.mem_cons,List.not_mem_nil,or_false] at hu;rcases hu with rfl | rfl | rfl | rfl
 ·exact h1
 ·rfl
 ·exact h2
 exact h3
theorem Zv.parts {base N:Nat}{av:LN}{H:Array Obj}{p:AV}(h:∀L:LN,(∀b∈L,b<N)→Zv L H p.va p.vm p.ve p.a) (hb:base≤N) (G:∀b∈av,b<N):∀t∈Qnd p,ZN base av H t.1 t.2.1 t.2.2.1 t.2.2.2:=by
 intro t ht;simp only[List.mem_cons,List.not_mem_nil,or_false] at ht;rcases ht with rfl | rfl | rfl
 ·exact ZN.of_lt (λL E=>(h L E).al) hb G
 ·exact ZN.of_lt (λL E=>(h L E).mr) hb G
 exact ZN.of_lt (λL E=>(h L E).ed) hb G
theorem Qgn {c:Q8}(h:UF c):(mods c).length≤96:=by have:=ja h 3 (by omega);rw[Qam] at this;omega
theorem QcS:∀(l:LN) (b:Nat),l.foldl (λl b=>l &&& (65535 ^^^ b)) b≤b
 | [],_=>Lt _
 | _::l,_=>LS (QcS l _) Nat.and_le_left
theorem qm {c:Q8}:∀i∈rem c,0≤i∧i<(c.co.length:Int):=by
 intro i hi;unfold rem setK at hi;obtain ⟨j,E,rfl⟩:=Lp.1 hi;have h1:=(LR.1 E).2;have h2:=of_decide_eq_true h1;refine ⟨by omega,?_⟩;refine Decidable.byContradiction λI=>?_;have G:c.co.length≤j:=by omega
 have J:yN c≤2 ^ c.co.length - 1:=QcS _ _;have hp:0<2 ^ c.co.length:=Nat.pow_pos (by decide);have S:2 ^ c.co.length≤2 ^ j:=Nat.pow_le_pow_right (by decide) G;have H:yN c / 2 ^ j=0:=Nat.div_eq_of_lt (by omega);rw[H] at h2;cases h2
theorem yB (c:Q8):JU c=if Zb c≠0 then Zb c else msL c (mods c):=rfl
theorem qy (c:Q8) (m:YO) (l:List YO):msL c (m::l)=if zX c m≠0 then zX c m else msL c l:=rfl
abbrev coA (c:Q8) (i:Int):QN:=(c.co.getD i.toNat ⟨.empty,⟨[],0,[],[]⟩⟩).a
set_option maxRecDepth 4096 in
set_option maxHeartbeats 8000000 in
theorem Kl {L:LN}{w:World}{c:CL}(I:ZF L w.heap c) (g7:Kb w 4096) :
  QK prog 22 [c.val] w λr w'=>Step [] w w'∧∃v,r=.tuple #[v,.int .i64 (JU c.cel)]∧(JU c.cel≠0→v=nS)∧(JU c.cel=0→v.oneCell'=true∧Qnn w.heap.size w'.heap v (Yx c.cel)):=by
 have h:=I.up (L':=[]) (by simp);have hp:=yB c.cel;have g8:Yx c.cel=(mods c.cel).map (UT c.cel)++(rem c.cel).map (coA c.cel):=rfl;refine Zc (JU c.cel) λE hE=>?_;rw[hE] at hp ⊢;refine QK.of_W func22 O ntmps22 results22 (by simp) ?_;refine Qc<|xl O<|QS (us:=c.cells) O λb1 w1 hI mo ge=>x Qg<|Qe<|Qc<|x (Qr ge O O)<|xl O<|xf<|(ze (h.ext hI)).mono ?_
 rintro r2 V ⟨hJ,vM,lM,rfl,hM,mq,g9⟩;have gg:=hI.trans hJ;have ms:=hI.size;have mt:=hJ.size;refine Qb<|x (Qk O O)<|x (Qk O O)<|x Qg<|Qe<|Qf<|Qc<|Qb<|x (Q9 O O)<|xe<|Q7 rfl (λhr=>?_) (λhr=>?_)
 ·rw[if_pos hr] at hp;subst hp;refine Qc<|Qb<|x Qg<|Qe ?_;exact Qn ⟨[nS,.int .i64 (Zb c.cel)],⟨O,O,U⟩,gg,nS,O,λ_=>O,λI=>absurd I hr⟩
 rw[if_neg hr] at hp;have h7:=Ls.1 hr;have ka:UF c.cel:=(ZU h7).sr;have h8:=g9 h7;have mu:lM.length≤96:=by have:=Qgn ka;rw[←h8,Le] at this;exact this
 have gh:Zs [] V.heap vM lM.length 3 (lM.flatMap ZG):=hM.arr (by omega) (by simp);have mv:(rem c.cel).length≤8:=Xa _ _;have gi:=ge.ext hJ;refine Qi<|Qc<|Qe<|Qf<|Qc<|Qb<|x (Qs gh O)<|Qb<|xe ?_
 refine Qh<|QA (α:=Nat×Value×List AV) [(2,3),(6,6),(8,10),(25,42)] (λz=>[(6,z.2.1),(25,.int .i64 z.1)]) (λz w'=>z.1≤lM.length∧Step [] V w'∧AvP V.heap.size w' z.2.1 z.2.2∧z.2.2.map (·.a)=(lM.take z.1).map (λq=>UT c.cel q.m)∧msL c.cel ((lM.drop z.1).map MV.m)=E) (λz=>lM.length - z.1) (by rfl) (0,nS,[]) ⟨O,O,U⟩
  ⟨Ll _,Step.refl _ _,Xh.nil,O,by rw[List.drop_zero,h8];exact hp.symm⟩ ?_
 rintro ⟨k,v,l⟩ g w3 ⟨hk,Y,ha,hu,G⟩;simp only[] at hk ha hu G;have hB:=gg.trans Y;have mw:=Y.size;have my:l.length=k:=by have:=congrArg List.length hu;rw[Le,Le,Lx] at this;omega
 have hK:=gi.ext Y;have h3:=h.ext hB;refine Qc<|x (QB O O)<|xe<|Qf<|QG O (λhN=>?_) (λhN=>?_)
 ·refine Qz ?_;have gj:lM.length≤k:=by have hO:¬(k:Int)<(lM.length:Int):=hN;omega
  rw[Lo gj] at hu;rw[Lr gj] at G;have gk:E=0:=G.symm;have kb:l.map (·.a)=(mods c.cel).map (UT c.cel):=by rw[hu,←h8,Mj];rfl
  refine Qc<|x (Qr hK O O)<|xl O<|xf<|(VS h3).mono ?_;rintro r4 w4 ⟨hC,vR,rfl,_,kc⟩;have hR:=kc h7;have ke:=hB.trans hC;have mz:=hC.size;refine Qb<|x (Qk O O)<|x (Qk O O)<|x Qg<|Qe<|Qf<|Qc<|Qb<|x (Q9 O O)<|xe<|Q7 O (λgl=>?_) (λgl=>?_)
  ·exact absurd h7 gl
  refine Qi ?_;have kf:QL [] w4.heap vR (rem c.cel):=Qu.ints hR (by omega) (by simp);refine Qf<|Qc<|Qb<|x (Qs kf O)<|Qb<|xe ?_
  refine Qh<|QA (α:=Nat×Value×List AV) [(6,6),(13,14),(53,78)] (λz=>[(6,z.2.1),(53,.int .i64 z.1)]) (λz w'=>z.1≤(rem c.cel).length∧Step (ob v) w4 w'∧AvP V.heap.size w' z.2.1 z.2.2∧z.2.2.map (·.a)=(mods c.cel).map (UT c.cel)++((rem c.cel).take z.1).map (coA c.cel)∧∀b∈ob z.2.1,b∈ob v∨w4.heap.size≤b) (λz=>(rem c.cel).length - z.1) (by rfl) (0,v,l) ⟨O,O,U⟩
   ⟨Ll _,Step.refl _ _,Xh.ext ha hC,by simp only[List.take_zero,List.map_nil,List.append_nil];exact kb,λb hb=>.inl hb⟩ ?_
  rintro ⟨j,vj,lj⟩ g w5 ⟨hj,hv,he,hw,hP⟩;simp only[] at hj he hw hP;have hQ:=Qm ha.own;have gm:=Qm he.own;have gn:Step [] w w5:=ke.then hv (λb hb=>.inr (by have:=(hQ b hb).1;omega));have h5:=h.ext gn;have m0:=hv.size;have m1:lj.length≤200:=by
   have e1:=congrArg List.length hw;rw[Le,Lh,Le,Le,Lx,←h8,Le] at e1;omega
  have kg:QZ w5.heap b1 47 c.cells:=(hK.ext hC).step hv (λhb=>by have:=(hQ b1 hb).1;have:=gi.lt;omega);have kh:QL [] w5.heap vR (rem c.cel):=(((Qu.ints hR (by omega) (L:=ob v) (λb hb=>(hQ b hb).2)).st hv)).up (by simp);refine Qc<|x (QB O O)<|xe<|Qf<|QG O (λhS=>?_) (λhS=>?_)
  ·refine Qz ?_;have ki:(rem c.cel).length≤j:=by have hO:¬(j:Int)<((rem c.cel).length:Int):=hS;omega
   rw[Lo ki,←g8] at hw;refine Qc<|Qb<|x Qg<|Qe ?_;exact Qn ⟨[vj,.int .i64 0],⟨O,O,U⟩,gn,vj,by rw[gk];rfl,λI=>absurd gk I,λ_=>⟨QH he.own,lj,hw,λL hL=>AvP.auts he (by omega) (λb hb=>by have:=hL b hb;omega)⟩⟩
  have hf:j<(rem c.cel).length:=by have hO:(j:Int)<((rem c.cel).length:Int):=hS;omega
  have go:(rem c.cel).take (j+1)=(rem c.cel).take j++[(rem c.cel)[j]'hf]:=Li hf;have gp:=qm _ (Lc hf);refine Qi<|Qf<|Qh<|Qc<|xii (i:=j) kh O O hf λm2 gq=>?_;refine Zc ((rem c.cel)[j]'hf) λi hi=>?_;rw[hi] at gq go gp;have kj:c.cel.co.length=c.co.length:=Le ..;rw[kj] at gp;have kk:i=(i.toNat:Int):=by omega
  have hy:i.toNat<c.co.length:=by omega
  have hz:=Lc hy;have gr:coA c.cel i=(c.co[i.toNat]'hy).p.a:=by
   show ((c.co.map IV.it).getD i.toNat _).a=_;simp[List.getD,hy,IV.it]
  refine x (Qw gq O)<|Qe<|Qc<|x (Qa O)<|x (Qd kg O O)<|Qb<|xig (g:=Zh) (i:=i.toNat) Xl h5.co.arr O (congrArg (Value.int .i64) kk) hy λm3 gs=>?_;refine Zc (c.co[i.toNat]'hy) λq hq=>?_;rw[hq] at gs hz gr;have J:=h5.co.each q hz;refine x (Zo O)<|x (QI (us:=[q.p.va,.int .i64 q.p.a.st,q.p.vm,q.p.ve]) (gs.from 1) O O)<|xl O<|Qt (us:=[nS,.int .i64 0,nS,nS]) O λgt w6 kn ko hg =>
   xl rfl<|Qo (us:=[q.p.va,.int .i64 q.p.a.st,q.p.vm,q.p.ve]) hg O O O O ⟨J.al.one,O,J.mr.one,J.ed.one,U⟩ λH kp hg=>xe ?_
  have hT:Step [] w5 H:=kn.then1 kp ko;have hh:Step [] H { H with drawn:=H.drawn+1 }:=Step.drew _ _
  have m4:=hT.size;have hD:gt∉ob vj:=λhm=>by have:=(gm gt hm).2;omega
  have hU:=J.ext hT;refine QW (Step (ob vj) H) [(0,true),(1,true),(2,true),(4,true),(5,true),(6,true),(7,true),(9,true),(10,true),(3,false),(8,false),(11,false),(12,true),(13,false),(14,false),(15,true)] mixed (by rfl) (by kernel_rfl) (Step.drew _ _) ?_;refine p (λ_=>Qp)<|p (λ_=>Qa O)<|pq (λ_ hc=>Qd (hg.step hc hD) O O)<|p (λ_=>Qa O)<|pq (λ_ hc=>Qd (hg.step hc hD) O O) <|
   p (λ_=>Qa O)<|pq (λ_ hc=>Qd (hg.step hc hD) O O)<|p (λ_=>Qa O)<|pq (λ_ hc=>Qd (hg.step hc hD) O O) <|
   pk<|xf<|(ZZ (hU.al.ext hh)).mono ?_
  rintro r8 w8 ⟨hl,hV⟩;refine ⟨(hh.trans hl).any,?_⟩;refine pk<|xf<|(ZZ ((hU.mr.ext hh).ext hl)).mono ?_;rintro r9 w9 ⟨h1,hW⟩;refine ⟨((hh.trans hl).trans h1).any,?_⟩;refine pk<|xf<|(K0 (((hU.ed.ext hh).ext hl).ext h1)).mono ?_;rintro h2 m5 ⟨hX,hY⟩;have hF:=((hh.trans hl).trans h1).trans hX;refine ⟨hF.any,?_⟩
  refine p (λ_=>QD ⟨Q0 hV,O,Q0 hW,Q0 hY,U⟩)<|pk<|QC (us:=[Zk ⟨r8,r9,h2,q.p.a⟩]) O O (by decide) (by simp) ⟨rfl,rfl,U⟩ λm6 m7 hn m8 kq=>⟨(hF.trans hn).any,?_⟩;have hG:=(hT.trans hF).trans hn;have m9:=hG.size;have pa:=hl.size;have pc:=h1.size;have pd:({ H with drawn:=H.drawn+1 }:World).heap.size=H.heap.size:=rfl
  refine pk<|Q5 (news:=Zk ⟨r8,r9,h2,q.p.a⟩) (L:=[]) (Qq he.own hG) O O O (kq.at (by simp)) (QhY (p:=⟨r8,r9,h2,q.p.a⟩) (QH hV) (QH hW) (QH hY)) (by omega) (by omega) λgu kr kt hZ gv=>⟨(hF.trans hn).any.trans' hZ,?_⟩;refine p (λ_=>Qg)<|pe ?_;have ga:∀b∈ob vj,b<H.heap.size:=λb hb=>by have:=(gm b hb).2;omega
  have ku:AvP V.heap.size kr gu (lj++[⟨r8,r9,h2,q.p.a⟩]):=Xh.app3 (Xh.ext he hG) (λt ht=>by
   simp only[List.mem_cons,List.not_mem_nil,or_false] at ht;rcases ht with rfl | rfl | rfl
   ·exact ZN.of_own (Qq (Qq (Qq hV h1) hX) hn) J.al.le (by omega) (λb hb=>by have:=ga b hb;omega)
   ·exact ZN.of_own (Qq (Qq hW hX) hn) J.mr.le (by omega) (λb hb=>by have:=ga b hb;omega)
   exact ZN.of_own (Qq hY hn) J.ed.le (by omega) (λb hb=>by have:=ga b hb;omega)) kt hZ gv
  refine Qy<|QO O O<|Qb<|xe<|⟨(j+1,gu,lj++[⟨r8,r9,h2,q.p.a⟩]),by simp only[];omega,⟨O,O,U⟩,hf,(hv.trans hG).then hZ hP,ku,?_,λb hb=>?_⟩
  ·simp only[];rw[go,Lu,hw,Lu,LC,MO,MO,gr]
  rcases gv b hb with h9 | h9
  ·exact hP b h9
  exact .inr (by omega)
 have S:k<lM.length:=by have hO:(k:Int)<(lM.length:Int):=hN;omega
 have gw:lM.take (k+1)=lM.take k++[lM[k]'S]:=Li S;have hz:=Lc S;rw[LP S,LO,qy] at G;have kv:=Z2.ext hM Y;have kw:=gh.ext Y;refine Qi<|Qf<|Qh<|Qc<|xig (g:=ZG) (i:=k) QbM kw O O S λpf gx=>?_;refine Zc (lM[k]'S) λq hq=>?_;rw[hq] at gx gw hz G
 have gy:QL [] w3.heap q.v q.co:=kv.each q hz [] (by simp);refine x (QI gx O O)<|xl O<|Qt (us:=[.int .i64 0,.int .i64 0,nS]) O λb8 pg kx ky gb=>xl O<|Qo (us:=ZG q) gb O O O O ⟨O,O,gy.one,U⟩ λgz kz gb =>
  xe ?_
 have h4:Step [] w3 gz:=kx.then1 kz ky;have g0:=hB.trans h4;have ph:=h4.size;refine Qc<|x (Qr (hK.ext h4) O O)<|x (Qr gb O O)<|xl O<|xf<|(Qja (q:=q) (h.ext g0) (gy.ext h4) (g7.ext g0)).mono ?_;rintro pj k0 ⟨k4,sa,st,sm,se,rfl,ho,k5,_⟩
 refine Qb<|x (Qk O O)<|x (Qk O O)<|xl O<|Qt (us:=[nS,.int .i64 0,nS,nS]) O λb9 pm k6 k7 gc=>xl O<|Qo (us:=[sa,.int .i64 st,sm,se]) gc O O O O ⟨ho.1,O,ho.2.1,ho.2.2.1,U⟩ λk8 k9 gc =>
  Qe ?_
 have g2:Step [] k0 k8:=k6.then1 k9 k7;have g3:=(h4.trans k4).trans g2;refine Qf<|Qc<|Qb<|x (Q9 O O)<|xe<|Q7 rfl (λh6=>?_) (λh6=>?_)
 ·rw[if_pos h6] at G;subst G;refine Qc<|Qb<|x Qg<|Qe ?_;exact Qn ⟨[nS,.int .i64 (zX c.cel q.m)],⟨O,O,U⟩,hB.trans g3,nS,O,λ_=>O,λI=>absurd I h6⟩
 rw[if_neg h6] at G;obtain ⟨ma,hA⟩:=k5 (Ls.1 h6);subst ma;have hge:=Qm ha.own;refine Qi<|Qy<|Qb<|x (Qr gc O O)<|xl O<|QC (us:=[Zk ⟨sa,sm,se,UT c.cel q.m⟩]) O O (by decide) (by simp) ⟨rfl,rfl,U⟩ λpn po g4 pp mc=>?_;have hH:=g3.trans g4;have pt:=hH.size
 refine xl rfl<|Q5 (news:=Zk ⟨sa,sm,se,UT c.cel q.m⟩) (L:=[]) (Qq ha.own hH) O O O (mc.at (by simp)) (QhY (p:=⟨sa,sm,se,UT c.cel q.m⟩) ho.1 ho.2.1 ho.2.2.1) (by omega) (by omega) λg5 mf mg g6 mh =>
  Qe ?_
 have mj:AvP V.heap.size mf g5 (l++[⟨sa,sm,se,UT c.cel q.m⟩]):=Xh.app3 (Xh.ext ha hH) (Zv.parts (N:=gz.heap.size) (p:=⟨sa,sm,se,UT c.cel q.m⟩) (λL hL=>((hA L hL).ext g2).ext g4) (by omega) (λb hb=>by have:=(hge b hb).2;omega)) mg g6 mh;refine Qy<|QO O O<|Qb<|xe ?_
 refine ⟨(k+1,g5,l++[⟨sa,sm,se,UT c.cel q.m⟩]),by simp only[];omega,⟨O,O,U⟩,S,(Y.trans hH).then g6 (λb hb=>.inr (hge b hb).1),mj,?_,G⟩;simp only[];rw[gw,Lu,hu,Lu];rfl
section
variable {s:QN} {l:List Vc} {n:Nat}
end
section
variable {s:QN} {l:List Vc} {n:Nat}
end
section
variable {s:QN} {l:List Vc} {n:Nat}
end
section
variable {p s:QN} {pairs:List (LI)}
end
section
variable {s:QN} {l:List Vc} {n:Nat}
end
section
variable {s:QN} {l:List Vc} {n:Nat} {nm:LI}
end
def cnF (ord:LI) (j:Nat) (e:Ed):Ed:=((j:Int),e.2.1,(ord.idxOf e.2.2:Int))
def jx (a:QN) (ord:LI) (j:Nat):List Ed:=(Zz a.ed (ZB ord j)).map (cnF ord j)
theorem Qav {l r:LI}{j:Nat}(h:j<l.length):ZB (l++r) j=ZB l j:=by unfold ZB;rw[LY];exact qY h
structure NuI (st:Int) (ord num:LI):Prop where
 nd:ord.Nodup
 bd:∀s∈ord,0≤s∧s<st
 nl:num.length=st.toNat
 nu:∀k,0≤k→k<st→ZB num k=if k∈ord then (ord.idxOf k:Int) else -1
theorem Qbp {st:Int}{i:Nat}{c:Cs}(h:NuI st c.ord c.num) {e:Ed}(G:0≤e.2.2) (h1:e.2.2<st):NuI st (Zf i c e).ord (Zf i c e).num∧(∃r,(Zf i c e).ord=c.ord++r)∧(Zf i c e).mk'=c.mk'∧(Zf i c e).ed=c.ed++[cnF (Zf i c e).ord i e]∧e.2.2∈(Zf i c e).ord:=by
 have E:=h.nu e.2.2 G h1;have I:e.2.2.toNat<c.num.length:=by rw[h.nl];omega
 unfold Zf;by_cases hm:e.2.2∈c.ord
 ·rw[if_pos hm] at E;rw[if_neg (by rw[E];omega)];refine ⟨h,⟨[],by simp⟩,rfl,?_,hm⟩;simp only[cnF];rw[E]
 rw[if_neg hm] at E;rw[if_pos (by rw[E];decide)];have H:(c.ord++[e.2.2]).idxOf e.2.2=c.ord.length:=by rw[Mi,if_neg hm];simp
 refine ⟨⟨KU h.nd hm,λs hs=>?_,by simp[h.nl],λk J k1=>?_⟩,⟨[e.2.2],rfl⟩,rfl,?_,by simp⟩
 ·rcases Lj.1 hs with hs | hs
  ·exact h.bd s hs
  simp only[List.mem_singleton] at hs;subst hs;exact ⟨G,h1⟩
 ·simp only[];by_cases ek:k=e.2.2
  ·subst ek;rw[if_pos (by simp),H];unfold ZB;simp[List.getD,List.getElem?_set_self I]
  have S:e.2.2.toNat≠k.toNat:=by omega
  have e1:ZB (c.num.set e.2.2.toNat c.ord.length) k=ZB c.num k:=by unfold ZB;simp[List.getD,List.getElem?_set_ne S]
  rw[e1,h.nu k J k1];by_cases hk:k∈c.ord
  ·rw[if_pos hk,if_pos (Lz _ hk),Mi,if_pos hk]
  rw[if_neg hk,if_neg (λV=>by
   rcases Lj.1 V with h2 | h2
   ·exact hk h2
   simp only[List.mem_singleton] at h2;exact ek h2)]
 simp only[cnF];rw[H]
theorem qa {st:Int}{i:Nat}:∀(E:List Ed) (c:Cs),NuI st c.ord c.num→(∀e∈E,0≤e.2.2∧e.2.2<st)→NuI st (E.foldl (Zf i) c).ord (E.foldl (Zf i) c).num∧(∃r,(E.foldl (Zf i) c).ord=c.ord++r)∧(E.foldl (Zf i) c).mk'=c.mk' ∧
  (E.foldl (Zf i) c).ed=c.ed++E.map (cnF (E.foldl (Zf i) c).ord i)∧∀e∈E,e.2.2∈(E.foldl (Zf i) c).ord
 | [],c,h,_=>⟨h,⟨[],by simp⟩,rfl,by simp,λe he=>by cases he⟩
 | e::E,c,h,hb=>by
  obtain ⟨G,H⟩:=hb e Lm;obtain ⟨h1,⟨I,h2⟩,h3,J,h5⟩:=Qbp (i:=i) h G H;obtain ⟨k1,⟨r2,k2⟩,k3,S,V⟩:=qa (i:=i) E (Zf i c e) h1 (λd hd=>hb d (Lk _ hd));rw[LM];refine ⟨k1,⟨I++r2,by rw[k2,h2,LC]⟩,k3.trans h3,?_,λd hd=>?_⟩
  ·rw[S,J,LC,LO];have:cnF (Zf i c e).ord i e=cnF (E.foldl (Zf i) (Zf i c e)).ord i e:=by
    unfold cnF;rw[k2,Mi,if_pos h5]
   rw[this];rfl
  rcases Lb.1 hd with rfl | hd
  ·rw[k2];exact Lz _ h5
  exact V d hd
structure CnG (a:QN) (i:Nat) (c:Cs):Prop where
 nu:NuI a.st c.ord c.num
 le:i≤c.ord.length
 hd:ZB c.ord 0=0∧0<c.ord.length
 mk2:c.mk'=((List.range' 0 i).filter λj:Nat=>decide (ZB c.ord j∈a.mr)).map λj:Nat=>(j:Int)
 ed:c.ed=(List.range' 0 i).flatMap (jx a c.ord)
 cl:∀j,j<i→∀e∈Zz a.ed (ZB c.ord j),e.2.2∈c.ord
theorem QjU {a:QN}{ord r:LI}{j:Nat}(E:j<ord.length) (hc:∀e∈Zz a.ed (ZB ord j),e.2.2∈ord):jx a (ord++r) j=jx a ord j:=by
 unfold jx;rw[Qav E];refine Na λe he=>?_;unfold cnF;rw[Mi,if_pos (hc e he)]
theorem CnG.next {a:QN}(S:Q2 a) {i:Nat}{c:Cs}(h:CnG a i c) (hi:i<c.ord.length):CnG a (i+1) (UB a i c):=by
 unfold UB;have H:(ZO a i c).ord=c.ord:=by unfold ZO;split <;> rfl
 have V:(ZO a i c).num=c.num:=by unfold ZO;split <;> rfl
 have Y:(ZO a i c).ed=c.ed:=by unfold ZO;split <;> rfl
 obtain ⟨k1,⟨r,k2⟩,k3,G,I⟩:=qa (st:=a.st) (i:=i) (Zz a.ed (ZB c.ord i)) (ZO a i c) (by rw[H,V];exact h.nu) (λe he=>(S.ed e (Zt he).1).2.2.2);generalize (Zz a.ed (ZB c.ord i)).foldl (Zf i) (ZO a i c)=d at k1 k2 k3 G I;rw[H] at k2;rw[Y] at G;have pre:∀j:Nat,j≤i→ZB d.ord j=ZB c.ord j:=λj E=>by rw[k2];exact Qav (by omega)
 refine ⟨k1,by rw[k2];simp;omega,⟨by have:=pre 0 (by omega);rw[show ((0:Nat):Int)=0 from rfl] at this;rw[this];exact h.hd.1,by rw[k2];simp;omega⟩,?_,?_,λj E=>?_⟩
 ·rw[k3,Mg,L7,Lu,LG];have e1:((List.range' 0 i).filter λj:Nat=>decide (ZB d.ord j∈a.mr))=(List.range' 0 i).filter λj:Nat=>decide (ZB c.ord j∈a.mr):=by
   refine List.filter_congr λj E=>?_;rw[L8] at E;rw[pre j (by omega)]
  rw[e1];unfold ZO;by_cases hm:ZB c.ord i∈a.mr
  ·rw[if_pos hm];simp only[];rw[Mh,if_pos (by rw[pre i (Lt _)];exact decide_eq_true hm),M9,h.mk2];rfl
  rw[if_neg hm];rw[Mh,if_neg (by rw[pre i (Lt _),decide_eq_false hm];simp),M9,h.mk2];simp
 ·rw[G,Mg,Ly,LG,h.ed];congr 1
  ·refine XI λj E=>?_;rw[L8] at E;rw[k2];exact (QjU (by omega) (h.cl j (by omega))).symm
  simp only[List.flatMap_cons,List.flatMap_nil,List.append_nil];unfold jx;rw[pre i (Lt _)]
 by_cases e:j=i
 ·subst e;rw[pre j (Lt _)];exact I
 intro d' J;rw[pre j (by omega)] at J;rw[k2];exact Lz _ (h.cl j (by omega) d' J)
theorem Uc {a:QN}(G:Q2 a):∀(f i:Nat) (c:Cs),CnG a i c→∃E,CnG a E (YJ a f i c)∧((YJ a f i c).ord.length=E∨E=i+f)
 | 0,i,c,h=>⟨i,h,.inr O⟩
 | f+1,i,c,h=>by
  rw[YJ];split
  ·rename_i hi;obtain ⟨E,h1,h2⟩:=Uc G f (i+1) _ (h.next G hi);exact ⟨E,h1,by omega⟩
  exact ⟨i,h,.inl (by have:=h.le;omega)⟩
structure CnP (a:QN) (ord:LI):Prop where
 nd:ord.Nodup
 bd:∀s∈ord,0≤s∧s<a.st
 hd:ZB ord 0=0∧0<ord.length
 al:(Yi a).al=a.al
 st:(Yi a).st=(ord.length:Int)
 mk2:(Yi a).mr=((List.range' 0 ord.length).filter λj:Nat=>decide (ZB ord j∈a.mr)).map λj:Nat=>(j:Int)
 ed:(Yi a).ed=(List.range' 0 ord.length).flatMap (jx a ord)
 cl:∀j,j<ord.length→∀e∈Zz a.ed (ZB ord j),e.2.2∈ord
theorem QeH {a:QN}(G:Q2 a) (h0:0<a.st):∃ord,CnP a ord:=by
 have H:0<a.st.toNat:=by omega
 have I:CnG a 0 (ZC a):=by
  refine ⟨⟨by simp[ZC],λs hs=>by simp[ZC] at hs;subst hs;omega,by simp[ZC],λk k0 k1=>?_⟩,Ll _,⟨by simp[ZC,ZB],by simp[ZC]⟩,by simp[ZC],by simp[ZC],λj hj=>by omega⟩;by_cases ek:k=0
  ·subst ek;rw[if_pos (by simp[ZC])];unfold ZB ZC;simp[List.getD,H]
  rw[if_neg (by simpa[ZC] using ek)];unfold ZC;have J:0≠k.toNat:=by omega
  have S:k.toNat<a.st.toNat:=by omega
  unfold ZB;rw[LQ,M4 J];simp[S]
 obtain ⟨V,h1,h2⟩:=Uc G a.st.toNat 0 (ZC a) I;have ha:(YJ a a.st.toNat 0 (ZC a)).ord.length≤a.st.toNat:=pig _ _ h1.nu.nd (λx hx=>by have:=h1.nu.bd x hx;omega);have Y:V=(YJ a a.st.toNat 0 (ZC a)).ord.length:=by have:=h1.le;omega
 subst Y;have E:Yi a=⟨a.al,((YJ a a.st.toNat 0 (ZC a)).ord.length:Int),(YJ a a.st.toNat 0 (ZC a)).mk',(YJ a a.st.toNat 0 (ZC a)).ed⟩:=by unfold Yi;rw[if_neg (by omega)]
 refine ⟨(YJ a a.st.toNat 0 (ZC a)).ord,h1.nu.nd,h1.nu.bd,h1.hd,by rw[E],by rw[E],?_,?_,h1.cl⟩
 ·rw[E];exact h1.mk2
 rw[E];exact h1.ed
theorem Qhq (E:List Ed) (s v:Int):eget E s v=eget (Zz E s) s v:=by
 induction E with
 | nil=>rfl
 | cons e E ih =>
  unfold Zz at *;rw[Mh];by_cases h:e.1=s
  ·rw[if_pos (by simpa using h),eget,eget,ih]
  rw[if_neg (by simpa using h),eget,if_neg (λc=>h c.1),ih]
theorem Qhr {a:QN}{ord:LI}{j:Nat}(v:Int):eget (jx a ord j) j v=(eget a.ed (ZB ord j) v).map λu=>(ord.idxOf u:Int):=by
 rw[Qhq a.ed];unfold jx;have key:∀(l:List Ed),(∀e∈l,e.1=ZB ord j)→eget (l.map (cnF ord j)) j v=(eget l (ZB ord j) v).map λu=>(ord.idxOf u:Int):=by
  intro l;induction l with
  | nil=>intro _;rfl
  | cons e l ih =>
   intro hl;rw[LO,eget,eget];have he:=hl e Lm;by_cases E:e.2.1=v
   ·rw[if_pos ⟨rfl,E⟩,if_pos ⟨he,E⟩];rfl
   rw[if_neg (λc=>E c.2),if_neg (λc=>E c.2)];exact ih (λd hd=>hl d (Lk _ hd))
 exact key _ (λe he=>(Zt he).2)
theorem Qb4 {a:QN}{ord:LI}{j i:Nat}(h:j≠i) (v:Int):eget (jx a ord j) i v=none:=by
 refine Kz λe he h2=>?_;unfold jx at he;obtain ⟨d,_,rfl⟩:=Lp.1 he;have:(j:Int)=i:=h2.1;omega
theorem CnP.step {a:QN}{ord:LI}(h:CnP a ord) {j:Nat}(G:j<ord.length) (v:Int):eget (Yi a).ed j v=(eget a.ed (ZB ord j) v).map λu=>(ord.idxOf u:Int):=by
 rw[h.ed];have key:∀n,j<n→eget ((List.range' 0 n).flatMap (jx a ord)) j v=eget (jx a ord j) j v:=by
  intro n;induction n with
  | zero=>intro h;omega
  | succ n ih =>
   intro H;rw[Mg,Ly,LG,Uo];simp only[List.flatMap_cons,List.flatMap_nil,List.append_nil];by_cases e:j=n
   ·subst e;have:eget ((List.range' 0 j).flatMap (jx a ord)) j v=none:=Kz λd hd h2=>by
     obtain ⟨k,hk,E⟩:=Mv.1 hd;rw[L8] at hk;unfold jx at E;obtain ⟨I,_,rfl⟩:=Lp.1 E;have:(k:Int)=j:=h2.1;omega
    rw[this]
   rw[ih (by omega),Qb4 (Ne.symm e)];cases eget (jx a ord j) j v <;> rfl
 rw[key _ G];exact Qhr v
section
variable {p s:QN} {pn xn v:Int}
end
section
variable {s:QN} {l:List Vc} {n:Nat}
end
theorem QeI {a:QN}(E:Q2 a):Q2 (Yi a):=by
 have V:=E.st0;have h1:=E.st1;by_cases J:a.st=0
 ·unfold Yi;rw[if_pos J];exact ⟨E.al,E.ali,by simp,by simp,by simp,by simp,by simp,by simp⟩
 obtain ⟨ord,h⟩:=QeH E (by omega);have hl:ord.length≤a.st.toNat:=pig _ _ h.nd (λx hx=>by have:=h.bd x hx;omega);refine ⟨by rw[h.al];exact E.al,by rw[h.al];exact E.ali,by rw[h.st];omega,by rw[h.st];omega,λs hs=>?_,?_,λe he=>?_,?_⟩
 ·rw[h.mk2] at hs;simp only[List.mem_map,List.mem_filter,List.mem_range'_1] at hs;obtain ⟨i,⟨hi,_⟩,rfl⟩:=hs;rw[h.st];omega
 ·rw[h.mk2];unfold Z0;rw[Ms];refine List.Pairwise.sublist MB ?_;exact (M8 (s:=0) (n:=ord.length)).imp (λh=>by omega)
 ·rw[h.ed] at he;obtain ⟨j,G,hd⟩:=Mv.1 he;rw[L8] at G;unfold jx at hd;obtain ⟨d,H,rfl⟩:=Lp.1 hd;have hm:=h.cl j (by omega) d H;have:=LZ hm;have S:=(E.ed d (Zt H).1).2.2.1;rw[h.st,h.al];unfold cnF;exact ⟨by simp only[];omega,by simp only[];omega,S,by simp only[];omega,by simp only[];omega⟩
 rw[h.ed];have key:∀n,((List.range' 0 n).flatMap (jx a ord)).Pairwise λx y:Ed=>x.1<y.1∨(x.1=y.1∧x.2.1<y.2.1):=by
  intro n;induction n with
  | zero=>simp
  | succ n ih =>
   rw[Mg,Ly,LG,Mo];refine ⟨ih,?_,λx hx y hy=>?_⟩
   ·simp only[List.flatMap_cons,List.flatMap_nil,List.append_nil];unfold jx;rw[Ms];have h2:(Zz a.ed (ZB ord n)).Pairwise λx y:Ed=>x.1<y.1∨(x.1=y.1∧x.2.1<y.2.1):=List.Pairwise.sublist MB E.edi;refine List.Pairwise.imp_of_mem (λ{x y} hx hy Y=>?_) h2;have e1:=(Zt hx).2;have e2:=(Zt hy).2;right;exact ⟨O,by show x.2.1<y.2.1;omega⟩
   obtain ⟨j,G,I⟩:=Mv.1 hx;rw[L8] at G;simp only[List.flatMap_cons,List.flatMap_nil,List.append_nil] at hy;unfold jx at I hy;obtain ⟨d,_,rfl⟩:=Lp.1 I;obtain ⟨d',_,rfl⟩:=Lp.1 hy;left;show (j:Int)<(n:Int);omega
 exact key _
theorem Qeh {a:QN}(E:Q2 a):Q2 ⟨a.al,0,[],[]⟩ :=
 ⟨E.al,E.ali,M5 _,(by decide:(0:Int)≤4096),(λs hs=>by cases hs),List.Pairwise.nil,(λe he=>by cases he),List.Pairwise.nil⟩
theorem QdX {a:QN}(E:Q2 a) (lf:Lf):Q2 (jT a lf):=by
 unfold jT;split
 ·exact Qeh E
 exact QeI (Kq E lf)
theorem Qft {c:Q8}(h:suE c=0):Q2 (suA c):=QdX (QfE h).1 _
theorem Qgm {c:Q8}{m:YO}(h:zX c m=0):Q2 (UT c m):=by
 have h1:zX c m=if mcE c m≠0 then mcE c m else suE (YK c m):=rfl
 rw[h1] at h;split at h
 ·rename_i h2;exact absurd h h2
 exact Qft h
theorem Vr {c:Q8}:∀{l:List YO},msL c l=0→∀m∈l,zX c m=0
 | [],_,m,hm=>by cases hm
 | x::l,h,m,hm=>by
  rw[qy] at h;by_cases h1:zX c x≠0
  ·rw[if_pos h1] at h;exact absurd h h1
  rw[if_neg h1] at h;rcases Lb.1 hm with rfl | hm
  ·exact Ls.1 h1
  exact Vr h m hm
theorem Ji {c:Q8}(h:JU c=0):∀a∈Yx c,Q2 a:=by
 rw[yB] at h;by_cases h1:Zb c≠0
 ·rw[if_pos h1] at h;exact absurd h h1
 rw[if_neg h1] at h;have G:=ZU (Ls.1 h1);have H:Yx c=(mods c).map (UT c)++(rem c).map (coA c):=rfl;intro a ha;rw[H] at ha;rcases Lj.1 ha with ha | ha
 ·obtain ⟨m,hm,rfl⟩:=Lp.1 ha;exact Qgm (Vr h m hm)
 obtain ⟨i,hi,rfl⟩:=Lp.1 ha;have I:=qm i hi;have E:i.toNat<c.co.length:=by omega
 have e:coA c i=(c.co[i.toNat]'E).a:=by unfold coA;simp[List.getD,E]
 rw[e];exact G.co _ (Lc E)
theorem Qfc (c:Q8):zn c=if JU c≠0 then JU c else J2 (Yx c):=rfl
theorem UJ {c:Q8}(h:zn c=0):JU c=0∧J2 (Yx c)=0:=by
 rw[Qfc] at h;by_cases h1:JU c≠0
 ·rw[if_pos h1] at h;exact absurd h h1
 rw[if_neg h1] at h;exact ⟨Ls.1 h1,h⟩
theorem QcB {l:List QN}(h:J2 l=0):sync l=some (XN l,YV l)∧KB l=0:=by
 unfold J2 at h;by_cases h1:KB l≠0
 ·rw[if_pos h1] at h;exact absurd h h1
 rw[if_neg h1] at h;refine ⟨?_,Ls.1 h1⟩;unfold XN YV;cases hs:sync l with
 | none=>rw[hs] at h;cases h
 | some z=>rfl
theorem yA {c:Q8}(h:zn c=0):SyP (Yx c) (Jw c) (tgQ c)∧Q2 (Jw c):=by
 obtain ⟨h1,h2⟩:=UJ h;have E:=Ji h1;have hs:=(Yj E (QcB h2).1).1;exact ⟨hs,SyP.okay E hs⟩
theorem Qe7 {n k:Nat}(h:k<n):(JY n).drop k=(k:Int)::(JY n).drop (k+1):=by
 have hl:k<(JY n).length:=by rw[yz];exact h
 rw[LP hl];congr 1;simp[JY]
theorem QfH (c:Q8) (v:Int) (l:LI):shd c (v::l)=if 2≤(ownr c v).length then some (v,cget (ownr c v) 0,cget (ownr c v) 1) else shd c l:=rfl
def shR (c:Q8):Option (Int×Int×Int):=if Zb c≠0 then none else QkW c
set_option maxHeartbeats 4000000 in
theorem yt {L:LN}{w:World}{c:CL}(h0:ZF L w.heap c) :
  QK prog 20 [c.val] w λr w'=>Step [] w w'∧r=.tuple #[.int .i64 (Qk3 (shR c.cel)).1,.int .i64 (Qk3 (shR c.cel)).2.1,.int .i64 (Qk3 (shR c.cel)).2.2,.bool (shR c.cel).isSome,.int .i64 (Zb c.cel)]:=by
 have h:=h0.up (L':=[]) (by simp);have hsr:shR c.cel=if Zb c.cel≠0 then none else QkW c.cel:=rfl
 refine Zc (Zb c.cel) λE hE=>?_;refine Zc (shR c.cel) λS hS=>?_;rw[hS,hE] at hsr;rw[hS,hE];have hR:=h.co.arr.le;have hT:=h.ev.arr.le;refine QK.of_W func20 O ntmps20 results20 (by simp) ?_;refine Qc<|xl O<|QS (us:=c.cells) O λb1 w1 hv hU hw=>x Qg<|x Qg<|x Qg<|x Qg<|Qe<|Qf<|Qc<|x (Qr hw O O)<|xl O<|xf<|(Y4 (h.ext hv)).mono ?_;rintro r2 w2 ⟨hy,hz⟩;rw[hE] at hy;subst hy;refine Qe ?_
 have hf:=hv.trans hz;have h1:=hw.ext hz;refine Qc<|Qb<|x (Q9 O O)<|xe<|Q7 rfl (λY=>?_) (λY=>?_)
 ·rw[if_pos Y] at hsr;subst hsr;refine Qc<|Qb<|x Qg<|x Qg<|x Qg<|x Qg<|Qe ?_;exact Qn ⟨[.int .i64 0,.int .i64 0,.int .i64 0,.bool false,.int .i64 E],⟨O,O,O,O,O,U⟩,hf,O⟩
 rw[if_neg Y] at hsr;have h5:E=0:=Ls.1 Y;have hV:c.cel.ev.length=c.ev.length:=rfl;have hF:QkW c.cel=shd c.cel (JY c.ev.length):=rfl;rw[hF] at hsr;refine Qi<|Qf<|Qc<|x (Qa O)<|x (Qd h1 O O)<|x (Qs (h.ext hf).ev.arr O)<|Qb<|xe ?_
 refine Qh<|QA (α:=Nat) [(2,6),(8,11),(20,51)] (λz=>[(20,.int .i64 z)]) (λz w'=>z≤c.ev.length∧Step [] w2 w'∧shd c.cel ((JY c.ev.length).drop z)=S) (λz=>c.ev.length - z) (by rfl) 0 Z
  ⟨Ll _,Step.refl _ _,hsr.symm⟩ ?_
 rintro k g w3 ⟨hk,hg,G⟩;have hh:=hf.trans hg;have hG:=h1.ext hg;have h3:=h.ext hh;refine Qc<|x (QB O O)<|xe<|Qf<|QG O (λhj=>?_) (λhj=>?_)
 ·refine Qz ?_;have hH:c.ev.length≤k:=by have hl:¬(k:Int)<(c.ev.length:Int):=hj;omega
  rw[Lr (by rw[yz];exact hH)] at G;have hI:S=none:=G.symm;subst hI;refine Qc<|x Qg<|x Qg<|x Qg<|x Qg<|Qe ?_;exact Qn ⟨[.int .i64 0,.int .i64 0,.int .i64 0,.bool false,.int .i64 0],⟨O,O,O,O,O,U⟩,hh,by rw[h5];rfl⟩
 have h6:k<c.ev.length:=by have hl:(k:Int)<(c.ev.length:Int):=hj;omega
 rw[Qe7 h6,QfH] at G;refine Qi<|Qf<|Qh<|Qc<|Qb<|Qe<|Qc<|Qe<|Qf<|Qc<|x (Qa O)<|x (Qd hG O O)<|x (Qs h3.co.arr O)<|Qb<|xe ?_;have hm:ownr c.cel (k:Int)=ixs (λq:IV=>decide ((k:Int)∈q.p.a.al)) 0 c.co:=by
  show ixs (λx:Yp=>decide ((k:Int)∈x.a.al)) 0 (c.co.map (·.it))=_;generalize 0=i0;generalize c.co=l;induction l generalizing i0 with
  | nil=>rfl
  | cons a l ih=>rw[LO,ixs,ixs,ih (i0+1)];rfl
 rw[hm] at G;refine Qh<|QA (α:=Nat×Value) [(9,11),(26,40)] (λz=>[(9,z.2),(26,.int .i64 z.1)]) (λz w'=>z.1≤c.co.length∧Step [] w3 w'∧Qu 3 w3.heap.size w' z.2 (ixs (λq:IV=>decide ((k:Int)∈q.p.a.al)) 0 (c.co.take z.1))) (λz=>c.co.length - z.1) (by rfl) (0,nS) ⟨O,O,U⟩
  ⟨Ll _,Step.refl _ _,QP _ _ _ _⟩ ?_
 rintro ⟨i,v⟩ g w4 ⟨hi,J,H⟩;simp only[] at hi H;have h7:=hh.trans J;have h4:=h.ext h7;have hW:=J.size;have hn:=UX (λq:IV=>decide ((k:Int)∈q.p.a.al)) (c.co.take i) 0;rw[Lx] at hn;refine Qc<|x (QB O O)<|xe<|Qf<|QG O (λho=>?_) (λho=>?_)
 ·refine Qz ?_;have h8:c.co.length≤i:=by have hl:¬(i:Int)<(c.co.length:Int):=ho;omega
  rw[Lo h8] at H;rw[Lo h8] at hn;refine Zc (ixs (λq:IV=>decide ((k:Int)∈q.p.a.al)) 0 c.co) λow hm=>?_;rw[hm] at H hn G;have hA:QL [] w4.heap v ow:=Qu.ints H (by omega) (by simp);refine Qc<|Qb<|x (Qs hA O)<|x (ZV O O)<|xe<|Q7 O (λhp=>?_) (λhp=>?_)
  ·have h2:2≤ow.length:=by have hJ:(2:Int)≤(ow.length:Int):=hp;omega
   rw[if_pos h2] at G;subst G;have e0:cget ow 0=ow[0]'(by omega):=by unfold cget;simp[List.getD,show 0<ow.length by omega]
   have e1:cget ow 1=ow[1]'(by omega):=by unfold cget;simp[List.getD,show 1<ow.length by omega]
   refine Qf<|QW (Step [] w4) [(0,true),(1,true),(2,true),(3,true),(4,true),(5,true),(6,true),(7,true),(8,true),(9,true),(10,true),(11,true)] mixed (by rfl) (by kernel_rfl) (Step.drew _ _) ?_;refine p (λ_=>Qp)<|p (λ_=>Qp)<|pii (i:=0) O hA O O (by omega) λhX h9=>?_;rw[←e0] at h9;refine pq (λ_ hc=>Qw (h9.st hc) O) <|
    p (λ_=>Qp)<|pii (i:=1) O hA O O (by omega) λhY hB=>?_
   rw[←e1] at hB;refine pq (λ_ hc=>Qw (hB.st hc) O)<|p (λ_=>Qg) <|
    p (λ_=>Qg)<|p (λ_=>Qg)<|p (λ_=>Qg)<|p (λ_=>Qg)<|pe ?_
   exact Qn ⟨[.int .i64 k,.int .i64 (cget ow 0),.int .i64 (cget ow 1),.bool true,.int .i64 0],⟨O,O,O,O,O,U⟩,h7.trans (Step.drew _ _),by rw[h5];rfl⟩
  have h2:¬2≤ow.length:=by have hJ:¬(2:Int)≤(ow.length:Int):=hp;omega
  rw[if_neg h2] at G;refine Qi<|Qy<|QO O O<|Qb<|xe ?_;exact ⟨k+1,by omega,Z,h6,hg.trans J,G⟩
 have I:i<c.co.length:=by have hl:(i:Int)<(c.co.length:Int):=ho;omega
 have hC:=Lc I;have V:=Qaq (λq:IV=>decide ((k:Int)∈q.p.a.al)) I;refine Qi<|Qf<|Qh<|Qc<|Qb<|xig (g:=Zh) (i:=i) Xl h4.co.arr O O I λhZ hD=>?_;refine Zc (c.co[i]'I) λq hq=>?_;rw[hq] at hD hC V;have ha:=h4.co.each q hC;refine x (QI hD O O)<|xl O<|Qt (us:=[.string .empty,nS,.int .i64 0,nS,nS]) O λga w5 hK hL hr=>x Qg <|
  xl rfl<|Qo (us:=Zh q) hr O O O O ⟨O,ha.al.one,O,ha.mr.one,ha.ed.one,U⟩ λw6 hM hr=>xe ?_
 have he:Step [] w4 w6:=hK.then1 hM hL;refine Qc<|x (Qa O)<|x (Qa O)<|x (Qd hr O O)<|Qb<|xl O<|xf<|(ZP (ha.al.ext he) (k:Int)).mono ?_;rintro r7 w7 ⟨rfl,rfl⟩;refine xe<|Q7 rfl (λht=>?_) (λht=>?_)
 ·rw[if_pos (decide_eq_true ht)] at V;refine Qy<|Qb<|Qb<|xl O<|QC (us:=[[.int .i64 i]]) O O (by decide) (by simp) ⟨rfl,rfl,U⟩ λgb w8 hN gc hO=>?_;have hu:=he.trans hN;have ge:=hu.size;refine xl O<|Q5 (news:=[.int .i64 i]) (L:=[]) (Qq H hu) O O O (hO.at (by simp)) (by simp[Value.oneCell']) (by omega) (by omega) λv9 w9 hP hQ gg =>
   Qe ?_
  have hge:=Qm H;refine Qy<|QO O O<|Qb<|xe<|⟨(i+1,v9),by simp only[];omega,⟨O,O,U⟩,I,(J.trans hu).then hQ (λb hb=>.inr (hge b hb).1),?_⟩;simp only[];rw[V];exact Qu.snoc hP
 rw[if_neg (by simpa using ht),LH] at V;refine Qi<|Qy<|QO O O<|Qb<|xe ?_;exact ⟨(i+1,v),by simp only[];omega,⟨O,O,U⟩,I,J.trans he,by simp only[];rw[V];exact Qq H he⟩
theorem Qcp {w:World}(E:Kb w 4096):QK prog 50 [] w λr w'=>r=.bool true∧Step [] w w':=by
 refine QK.of_W func50 O ntmps50 results50 (by simp) ?_;refine Qc<|Qe<|QT (α:=Unit) [(0,4)] (λz=>[(0,.bool true)]) (λz w'=>Step [] w w') (by rfl) ?_ ?_
 ·refine Qy<|xl O<|xf<|(QbT E).mono ?_;rintro S G ⟨rfl,H⟩;refine Qb<|xl O<|xf<|(QeS G).mono ?_;rintro r2 V ⟨rfl,I⟩;refine x (Ql O)<|Qe ?_;exact ⟨(),Z,H.trans I⟩
 rintro z g Y J;exact Qn ⟨[.bool true],Z,O,J⟩
theorem YO.eq_iff (a b:YO):a=b↔a.kd=b.kd∧a.ix=b.ix∧a.co=b.co:=by
 cases a;cases b;simp
instance mdlDec (a b:YO):Decidable (a=b):=decidable_of_iff _ (YO.eq_iff a b).symm
theorem qT {L L':LN}{w:World}{q q':MV}(h:QL L w.heap q.v q.co) (h':QL L' w.heap q'.v q'.co):QK prog 16 [.agg (ZG q).toArray,.agg (ZG q').toArray] w λr w'=>r=.bool (decide (q.m=q'.m))∧Step [] w w':=by
 refine QK.of_W func16 O ntmps16 results16 (by simp) ?_;refine Qc<|xl O<|QS (us:=ZG q) O λb2 w1 S hb V=>xl O<|QS (us:=ZG q') O λb3 w2 J hc G=>Qe ?_;have E:=S.trans J;have H:=V.ext J;refine QT (α:=Bool) [(4,23)] (λz=>[(4,.bool z)]) (λz w'=>Step [] w w'∧z=decide (q.m=q'.m)) (by rfl) ?_ ?_
 ·refine Qy<|x (Qa O)<|x (Qd H O O)<|x (Qa O)<|x (Qd G O O)<|xb (Q4 O O) (λh9=>?_) (λh9=>?_)
  ·refine Qb<|x (Qa O)<|x (Qd H O O)<|x (Qa O)<|x (Qd G O O)<|xb (Q4 O O) (λI=>?_) (λI=>?_)
   ·refine x (Ql O)<|Qb<|x (Qa O)<|x (Qd H O O)<|x (Qa O)<|x (Qd G O O)<|xl O<|xf<|(zQ (h.ext E) (h'.ext E)).mono ?_;rintro r3 w3 ⟨rfl,Y⟩;refine x (Ql O)<|Qe<|⟨_,Z,E.trans Y,?_⟩;refine decide_eq_decide.2 ?_;rw[YO.eq_iff];exact ⟨λe=>⟨h9,I,e⟩,λe=>e.2.2⟩
   refine x (Ql O)<|Qb<|xs O<|xs O<|xs O<|xs O<|xs O<|x (Ql O)<|Qe<|⟨false,Z,E,(decide_eq_false λe=>I ?_).symm⟩;exact congrArg YO.ix e
  refine Qb<|xs O<|xs O<|xs O<|xs O<|xs O<|x (Ql O)<|Qb<|xs O<|xs O<|xs O<|xs O<|xs O<|x (Ql O)<|Qe<|⟨false,Z,E,(decide_eq_false λe=>h9 ?_).symm⟩;exact congrArg YO.kd e
 rintro z g w4 ⟨ha,hz⟩;exact Qn ⟨[.bool z],Z,by rw[←hz];rfl,ha⟩
def Jn:ByteArray:=⟨#[98,117,102,102,101,114]⟩
def Vx:Yp:=⟨Jn,⟨[1,2],2,[0,1],[(0,1,1),(1,2,0)]⟩⟩
def Qjo:Q8:={ mzC 3 with rq:=[Vx],ex:=[Qhk 1 2] }
def QbU:Q8:={ Qjo with ex:=[] }
theorem QgI:Zb Qjo=0:=by kernel_rfl
theorem QgH:mods Qjo=[⟨1,0,[0,1]⟩,⟨2,0,[1,2]⟩]:=by kernel_rfl
theorem jh:Zb QbU=0:=by kernel_rfl
theorem QgJ:rem QbU=[2]:=by kernel_rfl
theorem QgL:JU QbU=0:=by kernel_rfl
theorem QgK:(Yx QbU).length=2:=by kernel_rfl
theorem Qjm:((Yx QbU).map (·.st)).getD 1 0=2:=by kernel_rfl
theorem Qjn:shR QbU=none:=by kernel_rfl
set_option maxHeartbeats 4000000 in
theorem VG (w:World):QK prog 126 [] w λr w'=>Step [] w w'∧Qig w.heap.size w'.heap r Qjo:=by
 refine QK.of_W func126 O ntmps126 results126 (by simp) ?_;refine Qc<|xl O<|Qt (us:=Yq) O λG w1 ht hU hu=>xe ?_;refine Qc<|xl O<|xf<|(Ja 3 (by decide) w1).mono ?_;rintro r2 w2 ⟨hg,E,rfl,h5,hh⟩;refine xl rfl<|Qt (us:=Yq) O λH w3 h6 hv h7=>xl O<|Qo (us:=E.cells) h7 O O O O (hh [] (by simp)).ones λw4 h8 hw=>xe ?_;have hc:Step [] w2 w4:=h6.then1 h8 hv;have hV:=ht.size
 have hW:=hg.size;have hY:=hc.size;have hA:=hu.lt;have hB:=hw.lt;refine Qc<|xl O<|QC (us:=[[.int .i64 1],[.int .i64 2]]) O O (by decide) (by simp) ⟨rfl,rfl,rfl,rfl,U⟩ λS w5 hy hZ hC=>xl rfl<|QC (us:=[[.int .i64 0],[.int .i64 1]]) rfl rfl (by decide) (by simp) ⟨rfl,rfl,rfl,rfl,U⟩ λV w6 hj ga hD =>
  x (QD ⟨rfl,O,O,U⟩)<|x (QD ⟨O,O,O,U⟩)<|xl O<|QC (us:=[Qx (0,1,1),Qx (1,2,0)]) O O (by decide) (by exact (by decide:2*3≤1000000)) ⟨O,O,O,O,U⟩ λY w7 he gb hE=>?_
 have hF:=(hy.trans hj).trans he;refine x (QD ⟨O,O,O,O,U⟩)<|x (ZY [(0,[.string Jn]),(1,[.slice (some ⟨S,0,none⟩) 2 2,.int .i64 2,.slice (some ⟨V,0,none⟩) 2 2,.slice (some ⟨Y,0,none⟩) 2 2])] ⟨O,O,O,O,U⟩) <|
  xl rfl<|QC (us:=[[.string Jn,.slice (some ⟨S,0,none⟩) 2 2,.int .i64 2,.slice (some ⟨V,0,none⟩) 2 2,.slice (some ⟨Y,0,none⟩) 2 2]]) O O (by decide) (by exact (by decide:1*5≤1000000)) ⟨O,O,U⟩ λI w8 ha gc hG=>?_
 have hz:=hF.trans ha;refine x (Qa O)<|xl O<|QF (j:=2) (u:=.slice (some ⟨I,0,none⟩) 1 1) (hw.ext hz) O O (by simp) rfl λw9 hk hH=>xe ?_;refine Qc<|x (QD ⟨O,O,U⟩)<|x (QD ⟨O,O,U⟩)<|xl O<|QC (us:=[QQ (1,1),QQ (2,1)]) O O (by decide) (by exact (by decide:2*2≤1000000)) ⟨O,O,O,O,U⟩ λhf ge h0 gg hJ=>x (QD ⟨O,O,U⟩) <|
  xl rfl<|QC (us:=[[.string J7,.slice (some ⟨hf,0,none⟩) 2 2]]) O O (by decide) (by exact (by decide:1*2≤1000000)) ⟨O,O,U⟩ λJ hK hl gh hM=>?_
 have hn:=h0.trans hl;refine x (Qa O)<|xl O<|QF (j:=3) (u:=.slice (some ⟨J,0,none⟩) 1 1) (hH.ext hn) O O (by simp) rfl λh1 ho hN=>xe ?_;have gi:=hy.size;have gj:=hj.size;have gk:=he.size;have gl:=ha.size;have gm:=hk.size;have gn:=h0.size;have go:=hl.size;have hp:Step [H] w4 h1:=((hz.any.trans' hk).trans hn.any).trans' ho
 have hO:G∉[H]:=by simp only[List.mem_singleton];omega
 have hP:=((hu.ext hg).ext hc).step hp hO;have hQ:ZQ [E.ve,E.vc,.slice (some ⟨I,0,none⟩) 1 1,.slice (some ⟨J,0,none⟩) 1 1,E.vk]:=by
  have h9:=(hh [] (by simp)).ones;exact ⟨h9.1,h9.2.1,O,O,h9.2.2.2.2.1,U⟩
 refine Qc<|x (Qr hN O O)<|xl O<|Qo (us:=[E.ve,E.vc,.slice (some ⟨I,0,none⟩) 1 1,.slice (some ⟨J,0,none⟩) 1 1,E.vk]) hP O O O O hQ λgp h3 hR=>xe ?_
 have hq:=CL.cel_ex (CL.cel_rq h5 (.slice (some ⟨I,0,none⟩) 1 1) [⟨Jn,⟨.slice (some ⟨S,0,none⟩) 2 2,.slice (some ⟨V,0,none⟩) 2 2,.slice (some ⟨Y,0,none⟩) 2 2,Vx.a⟩⟩]) (.slice (some ⟨J,0,none⟩) 1 1) [⟨J7,.slice (some ⟨hf,0,none⟩) 2 2,[(1,1),(2,1)]⟩]
 refine Qn ⟨[.agg [E.ve,E.vc,.slice (some ⟨I,0,none⟩) 1 1,.slice (some ⟨J,0,none⟩) 1 1,E.vk].toArray],⟨⟨_,O,Qv O (hR.at (L:=[]) (by simp)).cells⟩,U⟩,(((ht.trans hg).trans hc).then1 hp (by omega)).then1 h3 (by omega),_,rfl,hq,λL hL=>?_⟩;have h4:∀b∈G::L,b<w1.heap.size:=λb hb=>by
  rcases Lb.1 hb with rfl | hb
  ·exact hA
  have:=hL b hb;omega
 have hS:∀b∈H::G::L,b<w4.heap.size:=λb hb=>by
  rcases Lb.1 hb with rfl | hb
  ·exact hB
  have:=h4 b hb;omega
 have h2:=(hh (G::L) h4).up (L':=H::G::L) (λb hb=>by
  rcases Lb.1 hb with rfl | hb
  ·exact .inr hv
  exact .inl hb)
 have hr:=(h2.ext hc).st (hp.mono (by simp));have nB:∀b,w4.heap.size≤b→b∉H::G::L:=λb hb hm=>by have:=hS b hm;omega
 have hI:Xm (H::G::L) w8.heap (.slice (some ⟨I,0,none⟩) 1 1) [⟨Jn,⟨.slice (some ⟨S,0,none⟩) 2 2,.slice (some ⟨V,0,none⟩) 2 2,.slice (some ⟨Y,0,none⟩) 2 2,Vx.a⟩⟩]:=by
  refine ⟨hG.arr (nB _ (by omega)) (n:=1) (cap:=1) (sz:=5) O (by decide) (Lt _),λq hq=>?_,λq hq=>?_⟩
  ·rw[La.1 hq];exact ⟨(((hC.ext hj).ext he).ext ha).arr (nB _ (by omega)) (n:=2) (cap:=2) (sz:=1) O (by decide) (Lt _),((hD.ext he).ext ha).arr (nB _ (by omega)) (n:=2) (cap:=2) (sz:=1) O (by decide) (Lt _),(hE.ext ha).arr (nB _ (by omega)) (n:=2) (cap:=2) (sz:=3) O (by decide) (Lt _)⟩
  rw[La.1 hq];exact Y3 (by decide)
 have hX:zm (H::G::L) hK.heap (.slice (some ⟨J,0,none⟩) 1 1) [⟨J7,.slice (some ⟨hf,0,none⟩) 2 2,[(1,1),(2,1)]⟩]:=by
  refine ⟨hM.arr (nB _ (by omega)) (n:=1) (cap:=1) (sz:=2) O (by decide) (Lt _),λq hq=>?_,λq hq=>?_⟩
  ·rw[La.1 hq];exact (hJ.ext hl).arr (nB _ (by omega)) (n:=2) (cap:=2) (sz:=2) O (by decide) (Lt _)
  rw[La.1 hq];exact Y3 (by decide)
 have hT:ZF (H::G::L) h1.heap (CL.mk E.ve E.vc (.slice (some ⟨I,0,none⟩) 1 1) (.slice (some ⟨J,0,none⟩) 1 1) E.vk E.ev E.co [⟨Jn,⟨.slice (some ⟨S,0,none⟩) 2 2,.slice (some ⟨V,0,none⟩) 2 2,.slice (some ⟨Y,0,none⟩) 2 2,Vx.a⟩⟩] [⟨J7,.slice (some ⟨hf,0,none⟩) 2 2,[(1,1),(2,1)]⟩] E.cs) :=
  ⟨hr.ev,hr.co,((hI.st (hk.mono (by simp))).ext hn).st (ho.mono (by simp)),hX.st (ho.mono (by simp)),hr.cs⟩
 exact (hT.st (h3.mono (by simp))).up (λb hb=>.inl (Lk _ (Lk _ hb)))
theorem qH {a b:LI}(ha:Z0 a) (hb:Z0 b) (h:∀x,x∈a↔x∈b):a=b:=by
 have na:a.Nodup:=List.Pairwise.imp (λh=>by omega) ha;have nb:b.Nodup:=List.Pairwise.imp (λh=>by omega) hb;exact List.Perm.eq_of_pairwise (le:=λx y:Int=>x<y) (λa b _ _ h1 h2=>by omega) ha hb ((List.perm_ext_iff_of_nodup na nb).2 h)
theorem J9 {m n:Nat}{e:Int}:e∈setK m n↔∃k:Nat,k<n∧e=(k:Int)∧m.testBit k=true:=by
 unfold setK;rw[Lp];constructor
 ·rintro ⟨k,hk,rfl⟩;rw[LR,L8] at hk;refine ⟨k,by omega,O,?_⟩;have:=of_decide_eq_true hk.2;rw[Nat.testBit_eq_decide_div_mod_eq];rw[Nat.and_one_is_mod] at this;exact decide_eq_true this
 rintro ⟨k,hk,rfl,ht⟩;refine ⟨k,?_,O⟩;rw[LR,L8];refine ⟨by omega,decide_eq_true ?_⟩;rw[Nat.testBit_eq_decide_div_mod_eq] at ht;rw[Nat.and_one_is_mod];exact of_decide_eq_true ht
theorem yV (b k j:Nat):(orB b k).testBit j=true↔b.testBit j=true∨k=j:=by
 unfold orB;rw[Nat.testBit_or,Nat.one_shiftLeft,Nat.testBit_two_pow,Bool.or_eq_true,decide_eq_true_iff]
theorem QbG (j:Nat):∀(ls:List (Int×Int)) (b:Nat),(ls.foldl (λb l=>orB b l.1.toNat) b).testBit j=true↔b.testBit j=true∨∃p∈ls,p.1.toNat=j
 | [],b=>by simp
 | p::ls,b=>by
  rw[LM,QbG j ls,yV];simp only[List.mem_cons,exists_eq_or_imp];exact or_assoc
theorem QcV {ls:List (Int×Int)}{n:Nat}(h:∀p∈ls,0≤p.1∧p.1<(n:Int)) (hi:Z0 (ls.map (·.1))):setK (zr ls) n=ls.map (·.1):=by
 refine qH (J4 _ _) hi λx=>?_;rw[J9,Lp];unfold zr;constructor
 ·rintro ⟨k,hk,rfl,ht⟩;rw[QbG] at ht;rcases ht with ht | ⟨p,hp,E⟩
  ·simp at ht
  exact ⟨p,hp,by have:=h p hp;omega⟩
 rintro ⟨p,hp,rfl⟩;have:=h p hp;exact ⟨p.1.toNat,by omega,by omega,(QbG _ _ _).2 (.inr ⟨p,hp,O⟩)⟩
theorem Qbv (x:Yp) (j:Nat):∀(l:List Yp) (k b:Nat),(rqB x k b l).testBit j=true↔b.testBit j=true∨∃i,∃h:i<l.length,k+i=j∧((l[i]'h).a.al.any λe=>decide (e∈x.a.al))=true
 | [],k,b=>by simp[rqB]
 | y::l,k,b=>by
  rw[rqB,Qbv x j l];constructor
  ·rintro (h | ⟨i,hi,h1,h2⟩)
   ·by_cases hy:(y.a.al.any λe=>decide (e∈x.a.al))=true
    ·rw[if_pos hy,yV] at h;rcases h with h | h
     ·exact .inl h
     exact .inr ⟨0,by simp,by omega,hy⟩
    rw[if_neg hy] at h;exact .inl h
   exact .inr ⟨i+1,by simp;omega,by omega,h2⟩
  rintro (h | ⟨i,hi,h1,h2⟩)
  ·refine .inl ?_;by_cases hy:(y.a.al.any λe=>decide (e∈x.a.al))=true
   ·rw[if_pos hy,yV];exact .inl h
   rw[if_neg hy];exact h
  cases i with
  | zero =>
  have h3:(y.a.al.any λe=>decide (e∈x.a.al))=true:=h2;refine .inl ?_;rw[if_pos h3,yV];exact .inr (by omega)
  | succ i=>exact .inr ⟨i,by simpa using hi,by omega,h2⟩
def mts (a b:LI):Bool:=a.any λe=>decide (e∈b)
theorem Qah (a b:LI):mts a b=mts b a:=by
 unfold mts;rw[Bool.eq_iff_iff,Mr,Mr];constructor <;> rintro ⟨e,h1,h2⟩ <;> exact ⟨e,of_decide_eq_true h2,decide_eq_true h1⟩
def lmR (co:List Yp):Nat→List Yp→List YO
 | _,[]=>[]
 | i,x::l=>⟨1,i,ixs (λy:Yp=>mts x.a.al y.a.al) 0 co⟩::lmR co (i+1) l
def lmP (kd:Int):Nat→List (List (Int×Int))→List YO
 | _,[]=>[]
 | i,x::l=>⟨kd,i,x.map (·.1)⟩::lmP kd (i+1) l
def lmd (c:Q8):List YO:=lmR c.co 0 c.rq++(lmP 2 0 (c.ex.map (·.ls))++lmP 3 0 (c.cs.map (·.ts)))
theorem JD {α:Type}(q:α→Bool) (x:Int):∀(l:List α) (i:Nat),x∈ixs q i l↔∃k,∃h:k<l.length,x=((i+k:Nat):Int)∧q (l[k]'h)=true
 | [],i=>by simp[ixs]
 | y::l,i=>by
  rw[ixs];have ih:=JD q x l (i+1);constructor
  ·intro h;by_cases hy:q y=true
   ·rw[if_pos hy] at h;rcases Lb.1 h with h | h
    ·exact ⟨0,by simp,by rw[h];simp,hy⟩
    obtain ⟨k,hk,h1,h2⟩:=ih.1 h;exact ⟨k+1,by simp;omega,by rw[h1];congr 1;omega,h2⟩
   rw[if_neg hy] at h;obtain ⟨k,hk,h1,h2⟩:=ih.1 h;exact ⟨k+1,by simp;omega,by rw[h1];congr 1;omega,h2⟩
  rintro ⟨k,hk,h1,h2⟩;cases k with
  | zero =>
   have h3:q y=true:=h2;rw[if_pos h3];exact Lb.2 (.inl (by rw[h1];simp))
  | succ k =>
   have h3:=ih.2 ⟨k,by simpa using hk,by rw[h1];congr 1;omega,h2⟩;split
   ·exact Lk _ h3
   exact h3
theorem UY {α:Type}(q:α→Bool):∀(l:List α) (i:Nat),Z0 (ixs q i l)
 | [],_=>List.Pairwise.nil
 | y::l,i=>by
  rw[ixs];split
  ·refine L0.2 ⟨λx hx=>?_,UY q l (i+1)⟩;obtain ⟨k,_,h1,_⟩:=(JD q x l (i+1)).1 hx;omega
  exact UY q l (i+1)
theorem QiP {x:Yp}{co:List Yp}{n:Nat}(E:co.length≤n):setK (rqB x 0 0 co) n=ixs (λy:Yp=>mts x.a.al y.a.al) 0 co:=by
 refine qH (J4 _ _) (UY _ _ _) λe=>?_;rw[J9,JD];constructor
 ·rintro ⟨k,hk,rfl,ht⟩;rw[Qbv] at ht;rcases ht with ht | ⟨i,hi,h1,h2⟩
  ·simp at ht
  exact ⟨i,hi,by omega,by rw[Qah];exact h2⟩
 rintro ⟨k,hk,rfl,h2⟩;exact ⟨k,by omega,by simp,(Qbv _ _ _ _ _).2 (.inr ⟨k,hk,by omega,by rw[Qah] at h2;exact h2⟩)⟩
theorem qz {kd:Int}{f:List (Int×Int)→Prop}(E:∀ls,f ls→setK (zr ls) 8=ls.map (·.1)):∀(l:List (List (Int×Int))) (i:Nat),(∀x∈l,f x)→XQ kd i (l.map zr)=lmP kd i l
 | [],_,_=>rfl
 | x::l,i,h=>by
  rw[LO,XQ,lmP,E x (h x Lm),qz E l (i+1) (λy hy=>h y (Lk _ hy))]
theorem Qal {co:List Yp}(E:co.length≤8):∀(l:List Yp) (i:Nat),XQ 1 i (l.map λx=>rqB x 0 0 co)=lmR co i l
 | [],_=>rfl
 | x::l,i=>by
  rw[LO,XQ,lmR,QiP E,Qal E l (i+1)]
theorem Jb.lmd {c:Q8}(h:Jb c):mods c=lmd c:=by
 have h3:=h.c3;have I:(szs c.co).length=c.co.length:=by unfold szs;rw[Le]
 unfold mods Proofs.YtdffckgdcegpaaaGreatDoor.lmd srR srX srC;rw[Qal (by omega)];have e1:c.ex.map (λx=>zr x.ls)=(c.ex.map (·.ls)).map zr:=by rw[Mj];rfl
 have e2:c.cs.map (λx=>zr x.ts)=(c.cs.map (·.ts)).map zr:=by rw[Mj];rfl
 rw[e1,e2,qz (f:=λls=>(∀p∈ls,0≤p.1∧p.1<(8:Int))∧Z0 (ls.map (·.1))) (λls E=>QcV (n:=8) E.1 E.2) _ _ (λls H=>?_),qz (f:=λls=>(∀p∈ls,0≤p.1∧p.1<(8:Int))∧Z0 (ls.map (·.1))) (λls E=>QcV (n:=8) E.1 E.2) _ _ (λls H=>?_)]
 ·obtain ⟨x,hx,rfl⟩:=Lp.1 H;have h1:=(h.cs x hx).2;have h2:YT (szs c.co) none x.ts=0:=by
   unfold Yw at h1;split at h1
   ·cases h1
   split at h1
   ·rename_i h9;exact absurd h1 h9
   rename_i h9;exact Ls.1 h9
  have G:=JG _ _ _ h2;exact ⟨λp hp=>by have:=G.1 p hp;omega,G.2.1⟩
 obtain ⟨x,hx,rfl⟩:=Lp.1 H;have G:=JH _ _ _ (h.ex x hx).2.2;exact ⟨λp hp=>by have:=G.1 p hp;omega,G.2.1⟩
theorem Qlm {l:List MV}{a b:YO}(h:l.map MV.m=[a,b]):∃m0 m1,l=[m0,m1]∧m0.m=a∧m1.m=b:=by
 match l,h with
 | [m0,m1],h =>
  simp only[List.map_cons,List.map_nil,List.cons.injEq,and_true] at h;exact ⟨m0,m1,O,h.1,h.2⟩
 | [],h=>simp at h
 | [_],h=>simp at h
 | _::_::_::_,h=>simp at h
theorem Qme {ps:List AV}{l:List QN}(h:ps.map (·.a)=l) (hl:l.length=2):∃p0 p1,ps=[p0,p1]∧p1.a.st=(l.map (·.st)).getD 1 0:=by
 subst h
 match ps,hl with
 | [p0,p1],_=>exact ⟨p0,p1,O,O⟩
 | [],h=>simp at h
 | [_],h=>simp at h
 | _::_::_::_,h=>simp at h
set_option maxHeartbeats 8000000 in
theorem QbS {w:World}(hJ:Kb w 4096):QK prog 49 [] w λr w'=>r=.bool true∧Step [] w w':=by
 refine QK.of_W func49 O ntmps49 results49 (by simp) ?_;refine Qc<|Qe<|Qc<|xl O<|xf<|(VG w).mono ?_;rintro r1 w1 ⟨hK,c1,rfl,hk,hL⟩;refine xl rfl<|xf<|(ze (hL [] (by simp))).mono ?_;rintro r2 G ⟨hN,vM,lM,rfl,Y,_,hl⟩;rw[hk,QgH] at hl;obtain ⟨H,I,rfl,hO,hP⟩:=Qlm (hl QgI);refine Qb<|x (Qk O O)<|x (Qk O O)<|x Qg<|Qe ?_;have hm:=hK.trans hN
 have hn:Zs [] G.heap vM [H,I].length 3 ([H,I].flatMap ZG):=Y.arr (by simp) (by simp);have hQ:QL [] G.heap H.v H.co:=Y.each H (by simp) [] (by simp);have hR:QL [] G.heap I.v I.co:=Y.each I (by simp) [] (by simp);refine Qf<|QT (α:=Unit) [(18,24)] (λz=>[(24,.bool false)]) (λz w'=>w'=G) (by rfl) ?_ ?_
 ·refine Qy<|Qb<|xb (Q9 O O) (λho=>absurd (by rw[hk];exact QgI) ho) (λho=>?_);refine Qb<|Qb<|x (Qs hn O)<|xb (Q9 O O) (λhp=>absurd O hp) (λhp=>?_);refine x (Ql O)<|xe ?_;exact ⟨(),Z,O⟩
 rintro z g G rfl;refine ZM rfl ?_;refine Qi<|Qc<|xl O<|xf<|(VG G).mono ?_;rintro r3 w3 ⟨hr,E,rfl,hS,ht⟩;refine xl rfl<|Qt (us:=Yq) O λb3 w4 hT hu hU=>xl O<|Qo (us:=E.cells) hU O O O O (ht [] (by simp)).ones λw5 hV hW=>xe ?_;have hv:Step [] w3 w5:=hT.then1 hV hu;refine Qc<|x (Qa O)<|xl O<|QF (j:=3) (u:=nS) hW O O (by simp) rfl λw6 hw ha=>xe ?_;have gv:=hr.size
 have hy:Step [] G w6:=(hr.trans hv).then1 hw (by omega);have hX:=hm.trans hy;have hc:ZF [] w6.heap (CL.mk E.ve E.vc E.vr (nS) E.vk E.ev E.co E.rq [] E.cs):=by
  have h9:=(((ht [] (by simp)).up (L':=[b3]) (λb hb=>.inr (by rw[La.1 hb];exact hu))).ext hv).st hw;have J:=h9.up (L':=[]) (by simp);exact ⟨J.ev,J.co,J.rq,⟨Zs.nil _ _ 2,λq hq=>(by cases hq),λq hq=>(by cases hq)⟩,J.cs⟩
 have hq:(CL.mk E.ve E.vc E.vr (nS) E.vk E.ev E.co E.rq [] E.cs).cel=QbU:=CL.cel_ex hS (nS) [];refine Qc<|x (Qr ha O O)<|xl O<|xf<|(VS hc).mono ?_;rintro r7 w7 ⟨S,vr,rfl,_,hz⟩;rw[hq,QgJ] at hz;have hY:=hz jh;have hZ:QL [] w7.heap vr [2]:=Qu.ints (L:=[]) hY (by simp) (by simp)
 refine Qb<|x (Qk O O)<|x (Qk O O)<|x Qg<|Qe<|Qc<|x (Qr (ha.ext S) O O)<|xl O<|xf<|(Kl (hc.ext S) (hJ.ext (hX.trans S))).mono ?_;rintro r8 w8 ⟨h0,vs,rfl,_,h1⟩;rw[hq] at h1;obtain ⟨_,ps,ga,gb⟩:=h1 QgL;obtain ⟨p0,p1,rfl,h2⟩:=Qme ga QgK;rw[Qjm] at h2;have gc:=gb [] (by simp);refine Qb<|x (Qk O O)<|x (Qk O O)<|x Qg<|Qe ?_;have he:=S.trans h0
 refine Qc<|x (Qr (ha.ext he) O O)<|xl O<|xf<|(yt (hc.ext he)).mono ?_;rintro r9 w9 ⟨hf,h3⟩;rw[hq,Qjn,jh] at h3;subst h3;refine Qb<|x (Qk O O)<|x (Qk O O)<|x (Qk O O)<|x (Qk O O)<|x (Qk O O)<|x Qg<|x Qg<|x Qg<|x Qg<|Qe ?_;have ge:=he.trans hf;have V:=hy.trans ge;have gg:=h0.trans hf
 refine QT (α:=Unit) [(0,0),(45,91)] (λz=>[(0,.bool true)]) (λz w'=>Step [] w9 w') (by rfl) ?_ ?_
 ·refine Qy ?_;have h4:=hn.ext V;refine Qb<|xig (g:=ZG) (i:=0) QbM h4 O O (by simp) λgw gh=>x (QI gh rfl rfl)<|xl rfl<|QC (us:=[[.int .i64 0],[.int .i64 1]]) rfl rfl (by decide) (by simp) ⟨rfl,rfl,rfl,rfl,U⟩ λgi gx h5 gy gj=>x (QD ⟨rfl,rfl,U⟩) <|
   xl rfl<|xf<|(qT (q:=H) (q':=⟨1,0,.slice (some ⟨gi,0,none⟩) 2 2,[0,1]⟩) ((hQ.ext V).ext h5) (gj.arr (L:=[]) (by simp) (n:=2) (cap:=2) (sz:=1) rfl (by omega) (Lt _))).mono ?_
  rintro gk gz ⟨hg,gl⟩
  replace hg:gk=.bool true:=hg.trans (congrArg Value.bool (decide_eq_true (p:=H.m=_) hO));subst hg;have hh:=h5.trans gl;refine Qb<|Qb<|xig (g:=ZG) (i:=1) QbM (h4.ext hh) O O (by simp) λg0 gm=>x (QI gm rfl rfl)<|xl rfl<|QC (us:=[[.int .i64 1],[.int .i64 2]]) rfl rfl (by decide) (by simp) ⟨rfl,rfl,rfl,rfl,U⟩ λgn g2 h6 g3 go=>x (QD ⟨rfl,rfl,U⟩) <|
   xl rfl<|xf<|(qT (q:=I) (q':=⟨2,0,.slice (some ⟨gn,0,none⟩) 2 2,[1,2]⟩) (((hR.ext V).ext hh).ext h6) (go.arr (L:=[]) (by simp) (n:=2) (cap:=2) (sz:=1) rfl (by omega) (Lt _))).mono ?_
  rintro gp g4 ⟨hj,gq⟩
  replace hj:gp=.bool true:=hj.trans (congrArg Value.bool (decide_eq_true (p:=I.m=_) hP));subst hj;have h7:=hh.trans (h6.trans gq);refine x (Ql O)<|Qb<|Qb<|xb (Q4 O O) (λhA=>?_) (λhA=>absurd (by rw[hq];exact jh) hA);refine x (Ql O)<|Qb<|Qb<|xl O<|QC (us:=[[.int .i64 2]]) O O (by decide) (by simp) ⟨rfl,rfl,U⟩ λg5 g6 hB g7 gr =>
   xl rfl<|xf<|(zQ (l:=[2]) (l':=[2]) (((hZ.ext gg).ext h7).ext hB) (gr.arr (L:=[]) (by simp) (n:=1) (cap:=1) (sz:=1) rfl (by omega) (Lt _))).mono ?_
  rintro g8 g9 ⟨hC,gs⟩;rw[decide_eq_true rfl] at hC;subst hC;have hD:=h7.trans (hB.trans gs);have hE:=(gc.ext hf).ext hD;refine x (Ql O)<|Qb<|Qb<|xb (Q4 O O) (λhF=>?_) (λhF=>absurd (by rw[hq];exact QgL) hF);refine x (Ql O)<|Qb<|Qb<|x (Qs hE.arr O)<|xb (Q4 O O) (λhG=>?_) (λhG=>absurd O hG)
  refine x (Ql O)<|Qb<|Qb<|xig (g:=Zk) (i:=1) K4 hE.arr O O (by simp) λka gt=>x (Zo rfl)<|x (Qw (gt.fld 1 (.int .i64 p1.a.st) rfl) rfl)<|xb (Q4 rfl rfl) (λhH=>?_) (λhH=>Qmf h2 hH);refine x (Ql O)<|Qb<|Qb<|xb (Q4 O O) (λhI=>?_) (λhI=>absurd O hI);refine x (Ql O)<|Qb<|Qb<|x (Zm O)<|x (Ql O)<|Qe ?_;exact ⟨(),Z,hD⟩
 rintro z g kb gu;exact Qn ⟨[.bool true],Z,O,(hm.trans V).trans gu⟩
theorem zf {w:World}(E:Kb w 4096):QK prog 12 [] w λr w'=>r=.bool true∧Step [] w w':=by
 refine QK.of_W func12 O ntmps12 results12 (by simp) ?_;refine Qc<|Qe<|QT (α:=Unit) [(0,4)] (λz=>[(0,.bool true)]) (λz w'=>Step [] w w') (by rfl) ?_ ?_
 ·refine Qy<|xl O<|xf<|(QbS E).mono ?_;rintro J S ⟨rfl,G⟩;refine Qb<|xl O<|xf<|(Qcp (E.ext G)).mono ?_;rintro r2 V ⟨rfl,H⟩;refine x (Ql O)<|Qe ?_;exact ⟨(),Z,G.trans H⟩
 rintro z g Y I;exact Qn ⟨[.bool true],Z,O,I⟩
end Go.Proofs.YtdffckgdcegpaaaGreatDoor
namespace Go.Lg
open Go.ChangeShapes Go.WideShapes Go.RowKit
section
variable {H:Type} {enc:TypeId×Value→H} {P:Program}
theorem yj (hl:laidOutB P=true) {W W':World}(G:Step [] W W') {sp:Nat→Bool}:∀{ts:List TypeId}{vs:LV}{ds:List (DataW H)}{ps:List MemPlace},
  (ts.all λt=>P.readableRec t && decide (t<P.types.size))=true→DataW.TrodAll enc P W 0 (λ_=>true) true ts vs ds ps→(∀x∈ps,x.block<W.heap.size)→(∀x∈ps,sp x.block=true)→DataW.TrodAll enc P W' 0 sp true ts vs ds ps
 | [],vs,ds,ps,_,h,_,_=>by
  obtain ⟨rfl,rfl,rfl⟩:=trodAll_nil h;exact trodAll_mk0
 | t::ts,vs,ds,ps,E,h,I,hsp=>by
  obtain ⟨v,J,d,jJ,a,b,rfl,rfl,rfl,h1,h2⟩:=trodAll_cons h;simp only[List.all_cons,Bool.and_eq_true,decide_eq_true_eq] at E;have hb:Below W.heap.size W W':=G.below;refine trodAll_cons_mk (WideElems.Trod_stays hl E.1.1 E.1.2 h1 (λx hx=>hb.same (I x (Lz _ hx))) (λx hx=>hsp x (Lz _ hx))) ?_
  exact yj hl G (by simpa using E.2) h2 (λx hx=>I x (LU _ hx)) (λx hx=>hsp x (LU _ hx))
theorem QgE {f:Func}{s:ChangeSpec}{apart fresh handsOn again:Bool}{W W':World}{args:Array Value}{ds gs:List (DataW H)}{before:List MemPlace}{tb:TypeId}
  (hl:laidOutB P=true) (hh:(f.params.toList.all λt=>P.readableRec t && decide (t<P.types.size))=true) (J:f.resultTypes=#[tb]) (S:P.underlying tb=some .bool) (V:s.vars=[])
  (E:s.fn H (ds++gs)={ results:=[.lit (.bool true)],args:=ds })
  (G:DataW.Whole enc P f.params.toList s.vars apart W args.toList ds gs before) (Y:Step [] W W'):s.post enc P f apart fresh handsOn again W args (.bool true) W':=by
 have I:=G.lt;have hj:=G;obtain ⟨p,q,hA,hV,rfl,hz,hn⟩:=G;rw[V] at hV;obtain ⟨rfl,rfl⟩:=trodVars_none hV;rw[LH] at *;have hc:∀sp:Nat→Bool,(∀x∈p,sp x.block=true)→DataW.TrodAll enc P W' 0 sp true f.params.toList args.toList ds p:=λsp hsp=>yj hl Y hh hA I hsp
 have he:∀(b:Nat) (sp:Nat→Bool) (hd:Bool),DataW.TrodAll enc P W' b sp hd f.resultTypes.toList ((Value.bool true).resultList f.resultTypes.size) [.lit (.bool true)] []:=λb sp hd=>by
  rw[J];exact trodAll_mk1 (shut_bool S true)
 have hb:Below W.heap.size W W':=Y.below;have hf:∀sp:Nat→Bool,DataW.TrodVars enc P W' sp s.vars ([]:List (DataW H)) []:=λsp=>by rw[V];rfl
 have hk:(s.fn H ds).results=[.lit (.bool true)]:=by rw[E]
 have hm:(s.fn H ds).args=ds:=by rw[E]
 have ho:(s.fn H ds).vars=[]:=by rw[E]
 have hq:∀(j:Nat) (t:TypeId) (r:Value),f.resultTypes[j]?=some t→((Value.bool true).resultList f.resultTypes.size)[j]?=some r→Value.okWide P W' .any 0 t r:=ok_one J O (okWide_bool_mk S true);refine ⟨ds,[],p,[],p,[],hj,?_,?_,?_,?_,λ_=>⟨hq,[.lit (.bool true)]++ds,[],([]++p)++[],⟨[]++p,[],?_,?_,O,?_,?_⟩,?_⟩⟩
 ·rw[LH,hk];exact he _ _ _
 ·rw[LH,hm];exact hc _ (λx hx=>by simpa using I x hx)
 ·rw[LH,ho];exact hf _
 ·exact World.keptBut_mono (λ_ f=>f.elim) (hb.frame (λ_=>False))
 ·exact trodAll_append (hc _ (λ_ _=>O)) (he _ _ _)
 ·exact hf _
 ·intro b off hp;have hg:MemPlace.cell b off∈p:=by simpa using hp
  rw[hb.frozen (p:=⟨b,off,none⟩) (I _ hg)];exact hz b off hg
 ·intro ha;have:=hn ha;simpa using this
 intro x hx _;simpa using hx
end
end Go.Lg
namespace Go.Proofs.YtdffckgdcegpaaaGreatDoor
open Go.ChangeShapes Go.WideShapes Go.RowKit Go.Lg
theorem Qcg:∀(l:LV),(∀v∈l,∃n:Nat,v=.int .u8 (n:Int)∧n<256)→∃ns:LN,l=bys ns∧ns.length=l.length∧∀n∈ns,n<256
 | [],_=>⟨[],O,O,by simp⟩
 | v::l,h=>by
  obtain ⟨n,rfl,E⟩:=h v Lm;obtain ⟨ns,h1,h2,h3⟩:=Qcg l (λv G=>h v (Lk _ G));refine ⟨n::ns,by rw[h1];rfl,by simp[h2],λm hm=>?_⟩;rcases Lb.1 hm with rfl | hm
  ·exact E
  exact h3 m hm
theorem Qbf {n:Int}(h:(Lit.int .u8 n).wf=true):∃m:Nat,n=m∧m<256:=by
 simp only[Lit.wf,Bool.and_eq_true,decide_eq_true_eq] at h;rw[show IntKind.u8.min=0 from rfl,show IntKind.u8.max=255 from rfl] at h;exact ⟨n.toNat,by omega,by omega⟩
open Go.Proofs.Tryz
theorem QkV {w:World}{b:Nat}{s:TypeId×Nat}(h:w.shape? b=some s):b<w.heap.size:=by
 unfold World.shape? at h;cases hb:w.heap[b]? with
 | none=>simp[hb] at h
 | some o=>exact (LE.1 hb).1
theorem QjC {P:Program}{w:World}{base:Nat}{a:Addr}{e:TypeId}{n:Nat}(h:w.has P .any base a e n):a.block<w.heap.size:=by
 obtain ⟨_,_,row,cells,h1,_⟩:=h;exact QkV h1
theorem QcL {P:Program}{w:World}{base:Nat}{t e:TypeId}{a:Addr}{n c:Nat}(ht:P.underlying t=some (.slice e)) (h:Cell.okWide P w .any base t (.slice (some a) n c)):a.block<w.heap.size:=by
 simp only[Cell.okWide,Cell.ok,ht] at h;exact QjC h.2.2
theorem Qgx {α:Type}{p:Nat→α→Prop}:∀(n:Nat),(∀i,i<n→∃e,p i e)→∃l:List α,l.length=n∧∀i (h:i<l.length),p i (l[i]'h)
 | 0,_=>⟨[],O,λi h=>by simp at h⟩
 | n+1,h=>by
  obtain ⟨l,h1,h2⟩:=Qgx n (λi hi=>h i (by omega));obtain ⟨e,he⟩:=h n (by omega);refine ⟨l++[e],by simp[h1],λi hi=>?_⟩;by_cases E:i<l.length
  ·rw[Mc E];exact h2 i E
  have:i=n:=by simp at hi;omega
  subst this;rw[MQ (by omega)];simpa[h1] using he
theorem qA {α:Type}{f:α→Option Value}:∀{L:List α}{l:LV},L.mapM f=some l→l.length=L.length∧∀(i:Nat) (a:α),L[i]?=some a→f a=l[i]?
 | [],l,h=>by
  simp at h;subst h;exact ⟨O,λi a h=>by simp at h⟩
 | x::L,l,h=>by
  simp only[List.mapM_cons,Option.bind_eq_bind,Option.pure_def,Option.bind_eq_some_iff] at h;obtain ⟨v,E,I,h1,h2⟩:=h;cases h2
  obtain ⟨h3,G⟩:=qA h1;refine ⟨by simp[h3],λi a hi=>?_⟩;cases i with
  | zero=>simp at hi;subst hi;simpa using E
  | succ i=>simpa using G i a (by simpa using hi)
def kT (P:Program) (k:IntKind):Nat→TypeId→Bool
 | 0,_=>false
 | m+1,t=>match P.underlying t with
  | some (.int k')=>k' == k
  | some (.array n e)=>kT P k m e && decide (0<P.cellsOf e) && decide (P.cellsOf t=n*P.cellsOf e)
  | some (.struct fs)=>(List.range (P.cellsOf t)).all λj=>fs.toList.any λf=>kT P k m f.type && decide (f.offset≤j∧j<f.offset+P.cellsOf f.type)
  | _=>false
theorem jv {cs:LV}{o n j:Nat}{c:Value}(h:cs[j]?=some c) (h1:o≤j) (h2:j<o+n):c∈(cs.drop o).take n:=by
 refine Mf (i:=j - o) ?_;rw[LW,if_pos (by omega),MM,show o+(j - o)=j by omega];exact h
section
variable {H:Type} {enc:TypeId×Value→H} {P:Program} {W:World} {base b0:Nat} {sp:Nat→Bool} {held:Bool}
theorem Vw {k:IntKind}:∀(m:Nat) {t:TypeId}{cs:LV}{fuel:Nat}{x:DataW H×List MemPlace},kT P k m t=true→DataW.trod enc P W b0 sp held fuel t cs=some x→∀c∈cs,∃n,c=.int k n∧(Lit.int k n).wf=true
 | 0,_,_,_,_,h,_,_,_=>by cases h
 | m+1,t,cs,fuel,x,h,G,c,hc=>by
  unfold kT at h;obtain ⟨j,J,S⟩:=LD hc;have I:cs[j]?=some c:=by rw[LB J,S]
  split at h
  ·rename_i k' hu;have hk:k'=k:=by simpa using h
   subst hk;obtain ⟨n,h1,_,h2⟩:=DataW.trod_int hu G;rw[h1] at hc;exact ⟨n,La.1 hc,h2⟩
  ·rename_i n e hu;simp only[Bool.and_eq_true,decide_eq_true_eq] at h;obtain ⟨⟨h1,h2⟩,h3⟩:=h;obtain ⟨xs,V,_,_,hl,Y,hx⟩:=DataW.trod_array hu G;have ha:=Nat.div_add_mod j (P.cellsOf e);have hm:=Nat.mod_lt j h2;have hi:j / P.cellsOf e<n:=by
    refine (Nat.div_lt_iff_lt_mul h2).2 ?_;omega
   have E:=hx (j / P.cellsOf e) hi;rw[LB (show j / P.cellsOf e<xs.length by omega)] at E;rw[Nat.mul_comm] at ha;exact Vw m h1 E c (jv I (by omega) (by omega))
  ·rename_i fs hu;obtain ⟨xs,V,_,_,hl,Y,hx⟩:=DataW.trod_struct hu G;have h1:=Mk.1 h j (MU.2 (by omega));obtain ⟨f,hb,h2⟩:=Mr.1 h1;simp only[Bool.and_eq_true,decide_eq_true_eq] at h2;obtain ⟨i,hi,he⟩:=LD hb;have hg:i<fs.size:=by simpa using hi
   have hh:fs[i]?=some f:=by rw[MG hg,←he];simp
   have E:=hx i f hh;rw[LB (show i<xs.length by omega)] at E;exact Vw m h2.1 E c (jv I h2.2.1 h2.2.2)
  cases h
theorem VE {k:IntKind}{m:Nat}{fs:Array Field}{cs:LV}{xs:List (DataW H×List MemPlace)}{I:Nat}(J:xs.length=fs.size)
  (hx:∀(i:Nat) (f:Field),fs[i]?=some f→DataW.trod enc P W b0 sp held I f.type ((cs.drop f.offset).take (P.cellsOf f.type))=xs[i]?) {i j:Nat} {f:Field} {c:Value} (E:fs[i]?=some f) (hk:kT P k m f.type=true) (h1:f.offset≤j) (h2:j<f.offset+P.cellsOf f.type) (hc:cs[j]?=some c) :
  ∃n,c=.int k n∧(Lit.int k n).wf=true:=by
 have G:=hx i f E;have hi:i<fs.size:=(LE.1 E).1;rw[LB (show i<xs.length by omega)] at G;exact Vw m hk G c (jv hc h1 h2)
theorem Qe9 {c:Value}(h:∃n,c=.int .u8 n∧(Lit.int .u8 n).wf=true):∃n:Nat,c=.int .u8 (n:Int)∧n<256:=by
 obtain ⟨n,rfl,h1⟩:=h;obtain ⟨m,rfl,h2⟩:=Qbf h1;exact ⟨m,O,h2⟩
end
theorem QmK {P:Program}{W:World}{base:Nat}{ts:List TypeId}{cs:Array Value}(h:∀(i:Nat) (v:Value),cs[i]?=some v→∃u,ts[i % ts.length]?=some u∧Cell.okWide P W .any base u v) (i:Nat) (t:TypeId) (v:Value) (E:cs[i]?=some v) (ht:ts[i % ts.length]?=some t):Cell.okWide P W .any base t v:=by
 obtain ⟨u,hu,k⟩:=h i v E;rw[ht] at hu;cases hu
 exact k
theorem QlJ {H:Type}{enc:TypeId×Value→H}{P:Program}{W:World}{b0 m:Nat}{sp:Nat→Bool}{held:Bool}{fs:Array Field}{cs:LV}{xs:List (DataW H×List MemPlace)}
  (h:∀(i:Nat) (f:Field),fs[i]?=some f→DataW.trod enc P W b0 sp held m f.type ((cs.drop f.offset).take (P.cellsOf f.type))=xs[i]?) (i:Nat) {f:Field} {t o:Nat} {c:Value} (E:fs[i]?=some f) (ht:f.type=t) (G:f.offset=o) (hc:P.cellsOf t=1) (I:(cs.drop o).take 1=[c]) (hi:i<xs.length) :
  DataW.trod enc P W b0 sp held m t [c]=some (xs[i]'hi):=by
 have e:=h i f E;rw[ht,G,hc,I] at e;rw[e];simp[hi]
theorem QmB {W:World}{l:List (String×DataW Unit)}{a b:String×DataW Unit}(hl:l=[a,b,("internal/strconv.uint64pow10",Lib.tabData .u64 Lib.pow10Tab)]) (h:laidMetH prog l W) (hp:(l.all λx=>x.2.handleName?.isNone)=true):Tb W:=by
 rw[Go.MakeChecks.laidMetH_plain _ _ _ hp,hl] at h;exact Lib.tabIs_of_head (n:=20) (g:=0) (by kernel_rfl) (t:=410) (by kernel_rfl) (by kernel_rfl) (e:=340) (by kernel_rfl) (by kernel_rfl) (by kernel_rfl) h.tail.tail
structure PwV where
 ns:LN
 ad:Option Addr
 n:Nat
 cp:Nat
 f0:Int
 f1:Int
 f2:Int
 bd:Int
def PwV.pl (l:PwV) (rs:List X4V):PlV:=⟨l.ns,.slice l.ad l.n l.cp,rs,l.f0,l.f1,l.f2,l.bd⟩
abbrev Y7 (l:PwV):LV:=bys l.ns++[.slice l.ad l.n l.cp,.int .i8 l.f0,.int .i8 l.f1,.int .i8 l.f2,.int .i8 l.bd]
structure PwA (w:World) (l:PwV):Prop where
 n:l.ns.length=147
 b:∀n∈l.ns,n<256
 f0:i8R l.f0
 f1:i8R l.f1
 f2:i8R l.f2
 bd:i8R l.bd
 r:l.n≤4→∃rs:List X4V,rs.length=l.n∧Zs [] w.heap (.slice l.ad l.n l.cp) l.n 4 (rs.flatMap YM)
theorem PwA.pl {w w':World}{l:PwV}(h:PwA w l) (hs:Step [] w w') (E:l.n≤4):∃rs,PlA [] w'.heap (l.pl rs)∧rs.length=l.n:=by
 obtain ⟨rs,h1,h2⟩:=h.r E;exact ⟨rs,⟨h.n,h.b,by show Zs _ _ _ rs.length 4 _;rw[h1];exact h2.ext hs,h.f0,h.f1,h.f2,h.bd⟩,h1⟩
theorem QmE {l:PwV}(h:l.ns.length=147):(Y7 l)[147]?=some (.slice l.ad l.n l.cp):=by
 show (Y7 l)[147+0]?=_;rw[Y7,Mt (by rw[YZ];omega),YZ,h,ML];rfl
theorem Qdp {c:Value}(h:∃n,c=.int .i8 n∧(Lit.int .i8 n).wf=true):∃n:Int,c=.int .i8 n∧i8R n:=by
 obtain ⟨n,rfl,h⟩:=h;simp only[Lit.wf,Bool.and_eq_true,decide_eq_true_eq] at h;rw[show IntKind.i8.min=-128 from rfl,show IntKind.i8.max=127 from rfl] at h;exact ⟨n,O,by omega⟩
def Qkz (P:Program) (fs:Array Field) (n:Nat):Bool:=(List.range n).all λj=>fs.toList.any λf=>kT P .u8 5 f.type && decide (f.offset≤j∧j<f.offset+P.cellsOf f.type)
section
variable {H:Type} {enc:TypeId×Value→H} {P:Program} {W:World} {base b0:Nat} {sp:Nat→Bool} {held:Bool}
theorem QhS {fs:Array Field}{n m:Nat}{cs:LV}{xs:List (DataW H×List MemPlace)}(h:Qkz P fs n=true) (E:xs.length=fs.size)
  (hx:∀(i:Nat) (f:Field),fs[i]?=some f→DataW.trod enc P W b0 sp held m f.type ((cs.drop f.offset).take (P.cellsOf f.type))=xs[i]?) {j:Nat} {c:Value} (G:j<n) (hc:cs[j]?=some c):∃k:Nat,c=.int .u8 (k:Int)∧k<256:=by
 have h1:=Mk.1 h j (MU.2 G);obtain ⟨f,I,h2⟩:=Mr.1 h1;simp only[Bool.and_eq_true,decide_eq_true_eq] at h2;obtain ⟨i,hi,J⟩:=LD I;have S:i<fs.size:=by simpa using hi
 have V:fs[i]?=some f:=by rw[MG S,←J];simp
 exact Qe9 (VE E hx V h2.1 h2.2.1 h2.2.2 hc)
theorem Qne {t e:TypeId}{c:Value}{fuel:Nat}{x:DataW H×List MemPlace}(ht:P.underlying t=some (.slice e)) (he:kT P .u8 5 e=true) (hc:P.cellsOf e=4)
  (ha:Cell.okWide P W .any base t c) (hb:DataW.trod enc P W b0 sp held fuel t [c]=some x):∃a n cp,c=.slice a n cp∧(n≤12→∃u:List X4V,u.length=n∧Zs [] W.heap (.slice a n cp) n 4 (u.flatMap YM)):=by
 rcases DataW.trod_slice ht hb with ⟨E,_⟩ | ⟨a,len,cap,elems,rest,m,_,E,_,_,hl,_,hn,hf,_,_⟩
 ·simp at E;subst E;exact ⟨none,0,0,O,λ_=>⟨[],O,Zs.nil _ _ _⟩⟩
 simp at E;subst E;refine ⟨some a,len,cap,O,λho=>?_⟩;have each:∀i,i<len→∃d:X4V,∀r v,(YM d)[r]?=some v→W.cell? (a.add (i*4+r))=some v:=by
  intro i hi;have I:=hf i hi;rw[hc,LB (show i<elems.length by omega)] at I;obtain ⟨cs,E,hg⟩:=Ml.1 I;have hh:=Vw 5 he hg;obtain ⟨ns,h1,h2,h3⟩:=Qcg cs (λv G=>Qe9 (hh v G));unfold World.cells? at E;split at E
  ·have hp:cs.length=4:=by
    simpa using (qA E).1
   refine ⟨⟨ns,by omega,h3⟩,λr v G=>?_⟩;have hv':cs[r]?=some v:=by rw[h1];exact G
   have hk:r<4:=by have:=(L4.1 hv').1;omega
   have J:=(qA E).2 r r (by simp[hk]);rw[Lg.Addr.add_add,hv'] at J;exact J
  cases E
 obtain ⟨u,S,hu⟩:=Qgx len each;refine ⟨u,S,?_⟩;have V:(u.flatMap YM).length=u.length*4:=Go.Lg.Kg YM 4 U4 u;refine ⟨by rw[V,S],by omega,.inr ⟨a,cap,rfl,by omega,λ_ _=>by simp,λ_ _=>QcL ht ha,λj v G=>?_⟩⟩;have hj:j<u.length*4:=by
  rw[←V];exact (L4.1 G).1
 have hi:j / 4<u.length:=by omega
 have hm:=X5 YM 4 U4 u (j / 4) hi;have Y:j=j / 4*4+j % 4:=by omega
 have h3:(YM (u[j / 4]'hi))[j % 4]?=some v:=by
  rw[←hm,LW,if_pos (Nat.mod_lt _ (by omega)),MM,←Y];exact G
 rw[←Xx];have:=hu (j / 4) hi (j % 4) v h3;rw[←Y] at this;exact this
theorem QeK {v:Value}{d:DataW H}{ps:List MemPlace}{t tp te:Nat}{fs:Array Field}{V J S:Field}(hu:P.underlying t=some (.struct fs)) (ha:(P.cellTypes P.depth t).map (λts=>(ts.length,ts[147]?))=some (152,some tp)) (hc:P.cellsOf t=152)
  (g7:fs[7]?=some V) (Y:fs[8]?=some J) (g9:fs[9]?=some S) (hn:V.type=tp) (o7:V.offset=147) (o8:J.offset=148) (o9:S.offset=151) (c7:P.cellsOf tp=1) (c8:P.cellsOf J.type=3) (c9:P.cellsOf S.type=1)
  (kb:Qkz P fs 147=true) (k8:kT P .i8 5 J.type=true) (k9:kT P .i8 5 S.type=true) (ho:P.underlying tp=some (.slice te)) (hp:kT P .u8 5 te=true) (hq:P.cellsOf te=4)
  (hb:Value.okWide P W .any base t v) (h:DataW.Trod enc P W b0 sp held t v d ps):∃l:PwV,v=.agg (Y7 l).toArray∧PwA W l:=by
 simp only[Value.okWide,hu] at hb;obtain ⟨cs,rfl,he,ts,hr,_,ht⟩:=hb;rw[hr] at ha;have hg:=Option.some.inj ha;have hv:ts.length=152:=congrArg Prod.fst hg;have hw:ts[147]?=some tp:=congrArg Prod.snd hg;rw[hc] at he;obtain ⟨l⟩:=cs;have hl:l.length=152:=he;obtain ⟨fuel,hf⟩:=h;obtain ⟨xs,m,_,_,_,G,hy⟩:=DataW.trod_struct hu hf
 have E:∀(i:Nat) (f:Field),fs[i]?=some f→DataW.trod enc P W b0 sp held m f.type ((l.drop f.offset).take (P.cellsOf f.type))=xs[i]?:=hy;have h2:7<fs.size:=(LE.1 g7).1;have g0:∀c∈l.take 147,∃n:Nat,c=.int .u8 (n:Int)∧n<256:=λc hm=>by
  obtain ⟨j,hj,hh⟩:=LD hm;have hz:j<147:=by simp at hj;omega
  have h0:l[j]?=some c:=by
   rw[M6] at hh;rw[LB (by omega),hh]
  exact QhS kb G E hz h0
 obtain ⟨ns,e1,e2,e3⟩:=Qcg _ g0;have h1:ns.length=147:=by rw[e2];simp;omega
 have I:∀j,j<152→∃c,l[j]?=some c:=λj hj=>⟨l[j]'(by omega),LB (by omega)⟩;obtain ⟨x1,q1⟩:=I 147 (by omega);obtain ⟨x2,q2⟩:=I 148 (by omega);obtain ⟨x3,q3⟩:=I 149 (by omega);obtain ⟨x4,q4⟩:=I 150 (by omega);obtain ⟨x5,q5⟩:=I 151 (by omega);have hk:l.drop 147=[x1,x2,x3,x4,x5]:=by
  apply Nj;intro i;rw[MM]
  match i with
  | 0=>exact q1
  | 1=>exact q2
  | 2=>exact q3
  | 3=>exact q4
  | 4=>exact q5
  | i+5=>rw[MT (by omega)];rfl
 obtain ⟨y2,rfl,z2⟩:=Qdp (VE G E Y k8 (by omega) (by omega) q2);obtain ⟨y3,rfl,z3⟩:=Qdp (VE G E Y k8 (by omega) (by omega) q3);obtain ⟨y4,rfl,z4⟩:=Qdp (VE G E Y k8 (by omega) (by omega) q4);obtain ⟨y5,rfl,z5⟩:=Qdp (VE G E g9 k9 (by omega) (by omega) q5);have w7:=QmK ht 147 tp x1 (by simpa using q1) (by rw[hv];exact hw)
 have t7:=QlJ (c:=x1) E 7 g7 hn o7 c7 (by rw[hk];rfl) (by omega);obtain ⟨a,n,cp,rfl,hP⟩:=Qne ho hp hq w7 t7;refine ⟨⟨ns,a,n,cp,y2,y3,y4,y5⟩,?_,h1,e3,z2,z3,z4,z5,λh3=>hP (by have h4:n≤4:=h3;omega)⟩;show Value.agg l.toArray=.agg (bys ns++_).toArray;rw[←e1,←hk,MK]
end
set_option maxRecDepth 100000 in
theorem Qnf {H:Type}{enc:TypeId×Value→H}{W:World}{base b0:Nat}{sp:Nat→Bool}{held:Bool}{v:Value}{d:DataW H}{ps:List MemPlace}(E:Value.okWide prog W .any base 36 v) (h:DataW.Trod enc prog W b0 sp held 36 v d ps) :
  ∃l:PwV,v=.agg (Y7 l).toArray∧PwA W l :=
 QeK underlying36 (tp:=32) (by kernel_rfl) (by kernel_rfl) O O O O O O O (by kernel_rfl) (by kernel_rfl) (by kernel_rfl) (by kernel_rfl) (by kernel_rfl) (by kernel_rfl) underlying32 (by kernel_rfl) (by kernel_rfl) E h
theorem QgY {L:LN}{w:World}{v:Value}{l:LI}(h:QL L w.heap v l) (x:Int) :
  QK prog 21 [v,.int .i64 x] w λr w'=>r=.bool (decide (x∈l))∧w'=w:=by
 have I:=h.le;refine QK.of_W func21 O ntmps21 results21 (by simp) ?_;refine Qc<|Lg.Qe<|Qf<|Qc<|Lg.Qe<|Qh<|QA (α:=Nat) [(4,17)] (λk=>[(5,.int .i64 k)]) (λk w'=>w'=w∧k≤l.length∧(x∈l↔x∈l.drop k)) (λk=>l.length - k) (by rfl) 0 Z ⟨O,Ll _,by simp⟩ ?_;rintro k g w' ⟨rfl,hk,hm⟩;refine Qf<|Qc<|Lg.Qb<|Lg.Qb<|Lg.x (Qs h O)<|Lg.x (QB O O)<|xe<|QG rfl (λh9=>?_) (λh9=>?_)
 ·refine Qz<|Qc<|Lg.Qe<|Qn ⟨[.bool false],Z,?_,O⟩;rw[Lr (by omega)] at hm;simp[tup,hm]
 have G:k<l.length:=by omega
 have hd:=QX G;refine Qi<|Qf<|Qh<|Qc<|Lg.Qb<|Lg.Qb<|xii h O O G λJ H=>Lg.x (Qw H O)<|Lg.Qb<|Lg.x (Q4 O O)<|xe<|Q7 rfl (λE=>?_) (λE=>?_)
 ·refine Qc<|Lg.Qe<|Qn ⟨[.bool true],Z,?_,O⟩;have:x∈l:=by rw[hm,hd,E];exact Lm
  simp[tup,this]
 refine Qi<|Qy<|Lg.Qb<|Lg.QO O O<|Lg.Qe<|⟨k+1,by omega,Z,O,by omega,?_⟩;rw[hm,hd,Lb];exact ⟨λh=>h.resolve_left (λe=>E e.symm),.inr⟩
theorem Qh4 {w:World}{l:PwV}(h:PwA w l):QK prog 13 [.agg (Y7 l).toArray] w λr w'=>r=.bool (decide (l.n≤4))∧Step [] w w':=by
 have E:=QmE h.n;refine QK.of_W func13 O ntmps13 results13 (by simp) ?_;refine Qc<|xl O<|QS (us:=Y7 l) O λI J G S H=>Qe<|Qc<|x (Qa O)<|x (Qd H O E)<|x (Um O)<|x (X3 O O)<|Qe<|Qn ⟨[_],Z,?_,G⟩;exact congrArg Value.bool (decide_eq_decide.2 (by omega))
theorem Qdd (co:List Yp):∀(l:List Yp) (i:Nat),(lmR co i l).length=l.length
 | [],_=>rfl
 | _::l,i=>by rw[lmR,LJ,LJ,Qdd co l]
theorem jd (kd:Int):∀(l:List (List (Int×Int))) (i:Nat),(lmP kd i l).length=l.length
 | [],_=>rfl
 | _::l,i=>by rw[lmP,LJ,LJ,jd kd l]
theorem Vs (kd:Int) (m:YO):∀(l:LN) (i:Nat),m∈XQ kd i l↔m.kd=kd∧(i:Int)≤m.ix∧m.ix<((i+l.length:Nat):Int)∧m.co=setK (l.getD (m.ix.toNat - i) 0) 8
 | [],i=>by simp[XQ];intros;omega
 | b::l,i=>by
  rw[XQ,Lb,Vs kd m l (i+1),LJ];constructor
  ·rintro (h | ⟨h1,h2,h3,E⟩)
   ·subst h;refine ⟨O,M5 _,by simp only[];omega,?_⟩;rw[show (Int.toNat (i:Int)) - i=0 by omega];rfl
   refine ⟨h1,by omega,by omega,?_⟩;rw[E,show m.ix.toNat - i=m.ix.toNat - (i+1)+1 by omega];rfl
  rintro ⟨h1,h2,h3,E⟩;by_cases e:m.ix=(i:Int)
  ·left;rw[show m.ix.toNat - i=0 by omega] at E;obtain ⟨a,b',G⟩:=m;simp only[] at h1 e E;subst h1;subst e;rw[E];rfl
  right;refine ⟨h1,by omega,by omega,?_⟩;rw[E,show m.ix.toNat - i=m.ix.toNat - (i+1)+1 by omega];rfl
theorem Qaj {c:Q8}{m:YO}:m∈mods c↔(1≤m.kd∧m.kd≤3)∧(0≤m.ix∧m.ix<((srK c m.kd).length:Int))∧m.co=setK ((srK c m.kd).getD m.ix.toNat 0) 8:=by
 unfold mods;rw[Lj,Lj,Vs,Vs,Vs];simp only[Nat.zero_add,Nat.sub_zero,Int.natCast_zero];unfold srK;by_cases h1:m.kd=1
 ·simp[h1,and_assoc]
 by_cases h2:m.kd=2
 ·simp[h2,and_assoc]
 by_cases h3:m.kd=3
 ·simp[h3,and_assoc]
 simp[h1,h2,h3]
 intros;omega
def lkE (c:Q8) (m:YO):Int:=if m.kd<1∨3<m.kd then 11 else if m.ix<0∨((srK c m.kd).length:Int)≤m.ix then 10 else if m∈lmd c then 0 else 13
theorem Qje {c:Q8}(h:Jb c) (m:YO):mdE c m=lkE c m:=by
 unfold mdE lkE;rw[if_neg (by rw[h.ck];decide)];split
 ·rfl
 split
 ·rfl
 rename_i h1 h2;have e:(m.co=setK ((srK c m.kd).getD m.ix.toNat 0) 8)↔m∈lmd c:=by
  rw[←h.lmd,Qaj];exact ⟨λh=>⟨by omega,by omega,h⟩,λh=>h.2.2⟩
 simp only[e]
theorem Qjd {c:Q8}(h:Jb c) {m:YO}(hm:m∈lmd c):mdE c m=0:=by
 rw[Qje h];have h1:=Qaj.1 (by rw[h.lmd];exact hm);unfold lkE;rw[if_neg (by omega),if_neg (by omega),if_pos hm]
theorem Qlj {L:LN}{H:Array Obj}:Zv L H (nS) (nS) (nS) ⟨[],0,[],[]⟩:=⟨Zs.nil _ _ _,Zs.nil _ _ _,Zs.nil _ _ _⟩
def rmT (E:List YO):Nat→LI
 | 0=>[]
 | n+1=>rmT E n++(if (E.any λm=>decide ((n:Int)∈m.co))=true then [] else [(n:Int)])
theorem UN (G:List YO) (x:Int):∀n,x∈rmT G n↔(0≤x∧x<(n:Int))∧∀m∈G,x∉m.co
 | 0=>by simp[rmT];intros;omega
 | n+1=>by
  rw[rmT,Lj,UN G x n];split
  ·rename_i h;obtain ⟨m,hm,h1⟩:=Mr.1 h;have h2:=of_decide_eq_true h1;constructor
   ·rintro (⟨h3,E⟩ | h3)
    ·exact ⟨by omega,E⟩
    cases h3
   rintro ⟨h3,E⟩;refine .inl ⟨?_,E⟩;have:x≠(n:Int):=λe=>E m hm (by rw[e];exact h2);omega
  rename_i h;have h1:∀m∈G,(n:Int)∉m.co:=λm hm h2=>h (Mr.2 ⟨m,hm,decide_eq_true h2⟩);constructor
  ·rintro (⟨h3,E⟩ | h3)
   ·exact ⟨by omega,E⟩
   rw[La.1 h3];exact ⟨by omega,h1⟩
  rintro ⟨h3,E⟩;by_cases e:x=(n:Int)
  ·exact .inr (La.2 e)
  exact .inl ⟨by omega,E⟩
theorem yL (E:List YO):∀n,Z0 (rmT E n)
 | 0=>List.Pairwise.nil
 | n+1=>by
  rw[rmT];split
  ·rw[LH];exact yL E n
  refine Mo.2 ⟨yL E n,MX _ _,λa ha b hb=>?_⟩;have:=((UN E a n).1 ha).1;rw[La.1 hb];omega
theorem QcO (E:List YO):∀n,(rmT E n).length≤n
 | 0=>Lt _
 | n+1=>by
  rw[rmT,Lh];have:=QcO E n;split <;> simp <;> omega
theorem yM {j:Nat}(G:j<16):∀(l:LN) (E:Nat),(l.foldl (λl b=>l &&& (65535 ^^^ b)) E).testBit j=true↔E.testBit j=true∧∀b∈l,b.testBit j=false
 | [],E=>by simp
 | b::l,E=>by
  rw[LM,yM G l,Nat.testBit_and,Nat.testBit_xor,show (65535:Nat)=2 ^ 16 - 1 from rfl,Nat.testBit_two_pow_sub_one,decide_eq_true G,Lv,MY];constructor
  ·rintro ⟨⟨h1,h2⟩,h3⟩;exact ⟨h1,by simpa using h2,h3⟩
  rintro ⟨h1,h2,h3⟩;exact ⟨⟨h1,by simpa using h2⟩,h3⟩
theorem y9 {kd:Int}{m:YO}:∀(l:LN) (i:Nat),m∈XQ kd i l→∃b∈l,m.co=setK b 8
 | [],_,h=>by cases h
 | b::l,i,h=>by
  rw[XQ] at h;rcases Lb.1 h with h | h
  ·subst h;exact ⟨b,Lm ..,O⟩
  obtain ⟨b',h1,h2⟩:=y9 l (i+1) h;exact ⟨b',Lk _ h1,h2⟩
theorem UV {kd:Int}{b:Nat}:∀(l:LN) (i:Nat),b∈l→∃m∈XQ kd i l,m.co=setK b 8
 | [],_,h=>by cases h
 | b'::l,i,h=>by
  rw[XQ];rcases Lb.1 h with h | h
  ·subst h;exact ⟨_,Lm ..,O⟩
  obtain ⟨m,h1,h2⟩:=UV (kd:=kd) l (i+1) h;exact ⟨m,Lk _ h1,h2⟩
theorem Qln {c:Q8}{m:YO}(h:m∈mods c):∃b∈sets c,m.co=setK b 8:=by
 unfold mods at h;unfold sets;rcases Lj.1 h with h | h
 ·obtain ⟨b,h1,h2⟩:=y9 _ _ h;exact ⟨b,Lz _ h1,h2⟩
 rcases Lj.1 h with h | h
 ·obtain ⟨b,h1,h2⟩:=y9 _ _ h;exact ⟨b,LU _ (Lz _ h1),h2⟩
 obtain ⟨b,h1,h2⟩:=y9 _ _ h;exact ⟨b,LU _ (LU _ h1),h2⟩
theorem Qi8 {c:Q8}{b:Nat}(h:b∈sets c):∃m∈mods c,m.co=setK b 8:=by
 unfold sets at h;unfold mods;rcases Lj.1 h with h | h
 ·obtain ⟨m,h1,h2⟩:=UV (kd:=1) _ 0 h;exact ⟨m,Lz _ h1,h2⟩
 rcases Lj.1 h with h | h
 ·obtain ⟨m,h1,h2⟩:=UV (kd:=2) _ 0 h;exact ⟨m,LU _ (Lz _ h1),h2⟩
 obtain ⟨m,h1,h2⟩:=UV (kd:=3) _ 0 h;exact ⟨m,LU _ (LU _ h1),h2⟩
theorem QcR {c:Q8}(G:c.co.length≤8):rem c=rmT (mods c) c.co.length:=by
 refine qH (J4 _ _) (yL _ _) λx=>?_;unfold rem;rw[J9,UN];constructor
 ·rintro ⟨k,hk,rfl,ht⟩;unfold yN at ht;rw[yM (by omega),Nat.testBit_two_pow_sub_one,decide_eq_true_iff] at ht;refine ⟨by omega,λm hm hx=>?_⟩;obtain ⟨b,hb,e⟩:=Qln hm;rw[e,J9] at hx;obtain ⟨k',_,H,h1⟩:=hx;have e2:k'=k:=by omega
  subst e2;rw[ht.2 b hb] at h1;cases h1
 rintro ⟨h1,h2⟩;refine ⟨x.toNat,by omega,by omega,?_⟩;unfold yN;rw[yM (by omega),Nat.testBit_two_pow_sub_one,decide_eq_true_iff];refine ⟨by omega,λb hb=>?_⟩;obtain ⟨m,hm,e⟩:=Qi8 hb;have h3:=h2 m hm;rw[e,J9] at h3;refine Bool.eq_false_iff.2 λE=>h3 ⟨x.toNat,by omega,by omega,E⟩
theorem Qct {w:World}{vl:Value}{ps:List AV}(h:XM [] w.heap vl ps) (ho:∀p∈ps,Q2 p.a) (hf:Kb w 4096) :
  QK prog 26 [vl] w λr w'=>Step [] w w'∧∃va,r=.tuple #[va,.int .i64 (J2 (ps.map (·.a)))]∧(J2 (ps.map (·.a))≠0→va=zA)∧(J2 (ps.map (·.a))=0→Y0 w.heap.size w'.heap va (XN (ps.map (·.a)))):=by
 refine QK.of_W func26 O ntmps26 results26 (by simp) ?_;refine Qc<|xl O<|Qt (us:=JV) O λb2 w1 E hh J=>Qe<|Qc<|Qb<|xl O<|xf<|(zd (km:=4096) (h.ext E) (hf.ext E) (by decide) (yW ho)).mono ?_;rintro r2 w2 ⟨S,vA,vt,c,rfl,G⟩;have hc:=G.e;have hg:=G.good;have hb:=G.bad;obtain ⟨a,xa,xm,H,qs,rfl,V,ht,_⟩:=G.shape;have hj:=E.size;have hu:=S.size;have hk:=J.lt
 refine Qb<|x (Qk O O)<|x (Qk O O)<|x (Qk O O)<|xl O<|Qt (us:=JV) O λb4 w3 hl hm hn=>xl O<|Qo (us:=[xa,.int .i64 a.st,xm,H]) hn O O O O V λw4 hp hq =>
  x Qg<|Qe ?_
 have Y:Step [] w2 w4:=hl.then1 hp hm;have ha:=S.trans Y;refine Qc<|x (Qr hq O O)<|Qb<|xl O<|Qo (us:=[xa,.int .i64 a.st,xm,H]) (J.ext ha) O O O O V λw5 he hr=>Qe<|Qn ⟨[.agg [xa,.int .i64 a.st,xm,H].toArray,.int .i64 c],⟨⟨_,O,Qv O (hr.at (L:=[]) (by simp)).cells⟩,rfl,U⟩,(E.trans ha).then1 he hh,.agg #[xa,.int .i64 a.st,xm,H],?_,λI=>?_,λI=>?_⟩
 ·show Value.tuple _=Value.tuple _;rw[hc]
 ·exact (hb (by rw[hc];exact I)).1
 have h1:=(hg (by rw[hc];exact I)).1;exact (Xi (h1.ext Y) hk he).mono hj
theorem Qa5 {w:World}{c:CL}(h:ZF [] w.heap c) (Y:Kb w 4096) :
  QK prog 23 [c.val] w λr w'=>Step [] w w'∧∃va,r=.tuple #[va,.int .i64 (zn c.cel)]∧(zn c.cel≠0→va=zA)∧(zn c.cel=0→Y0 w.heap.size w'.heap va (Jw c.cel)):=by
 have G:=Qfc c.cel;refine QK.of_W func23 O ntmps23 results23 (by simp) ?_;refine Qc<|xl O<|QS (us:=c.cells) O λb1 w1 ha hy hm=>xl O<|Qt (us:=JV) O λb2 w2 hb hz S=>Qe ?_;have I:=ha.trans hb;have h1:=I.size;have h2:=ha.size;have h3:=S.lt;refine Qc<|x (Qr (hm.ext hb) O O)<|xl O<|xf<|(Kl (h.ext I) (Y.ext I)).mono ?_;rintro r3 w3 ⟨J,vl,rfl,h4,hn⟩
 refine Qb<|x (Qk O O)<|x (Qk O O)<|x Qg<|Qe ?_;have V:=I.trans J;have h5:=J.size;refine Qf<|Qc<|Qb<|x (Q9 O O)<|xe<|Q7 rfl (λH=>?_) (λH=>?_)
 ·rw[if_pos H] at G;refine Qc<|x (QD U)<|Qb<|xl O<|Qo (us:=JV) (S.ext J) O O O O ⟨O,O,O,O,U⟩ λw4 ho hq=>Qe<|Qn ⟨[.agg JV.toArray,.int .i64 (JU c.cel)],⟨⟨_,O,Qv O (hq.at (L:=[]) (by simp)).cells⟩,rfl,U⟩,V.then1 ho (by omega),zA,?_,λ_=>rfl,λE=>absurd E (by rw[G];exact H)⟩;show Value.tuple _=Value.tuple _;rw[G];rfl
 rw[if_neg H] at G;have hc:=Ls.1 H;obtain ⟨h6,ps,he,hr⟩:=hn hc;have ht:∀p∈ps,Q2 p.a:=λp hp=>Ji hc p.a (by rw[←he];exact LK hp);have hC:=Qct (hr [] (by simp)) ht (Y.ext V);rw[he,←G] at hC;refine Qi<|Qc<|Qb<|xl O<|xf<|hC.mono ?_;rintro r5 w5 ⟨hf,va,rfl,hg,hh⟩;have hu:∃us,va=.agg us.toArray∧us.length=4∧ZQ us:=by
  by_cases E:zn c.cel=0
  ·exact Y5 (hh E)
  exact ⟨JV,hg E,O,O,O,O,O,U⟩
 obtain ⟨us,hj,hk,hv⟩:=hu;refine x (Qk O O)<|x (Qk O O)<|xl O<|Qo (us:=us) (S.ext (J.trans hf)) O (show Go.Lg.ev _ _=_ from hj) hk O hv λw6 hl hw=>Qe<|Qn ⟨[.agg us.toArray,.int .i64 (zn c.cel)],⟨⟨_,O,Qv hk (hw.at (L:=[]) (by simp)).cells⟩,rfl,U⟩,(V.trans hf).then1 hl (by omega),va,?_,hg,λE=>?_⟩
 ·show Value.tuple _=Value.tuple _;rw[hj]
 exact (Xi (hh E) (by omega) hl).mono (by omega)
def u8c (b:Nat):LV:=[.int .u8 (b:Int)]
theorem QkL (b:Nat):(u8c b).length=1:=rfl
theorem Qcw:∀bs:LN,bs.flatMap u8c=bs.map λb:Nat=>Value.int .u8 (b:Int)
 | []=>rfl
 | b::bs=>by rw[LF,LO,Qcw bs];rfl
def B8 (H:Array Obj) (v:Value) (n:Nat):Prop:=n≤8→∃bs:LN,bs.length=n∧(∀b∈bs,b<256)∧Zs [] H v bs.length 1 (bs.flatMap u8c)
theorem Qng {H:Type}{enc:TypeId×Value→H}{P:Program}{W:World}{base Y:Nat}{sp:Nat→Bool}{ha:Bool}{t e:TypeId}{c:Value}{d:DataW H}{ps:List MemPlace}(ht:P.underlying t=some (.slice e)) (he:P.underlying e=some (.int .u8)) (hc:P.cellsOf e=1)
  (S:Value.okWide P W .any base t c) (hb:DataW.Trod enc P W Y sp ha t c d ps):∃a n cp,c=.slice a n cp∧B8 W.heap (.slice a n cp) n:=by
 obtain ⟨ad,nb,cb,rfl⟩:=okWide_slice ht S;refine ⟨ad,nb,cb,O,λh8=>?_⟩;obtain ⟨fuel,hf⟩:=hb;rcases open_ints ht he hc hf with ⟨G,_⟩ | ⟨a,len,cap,zs,G,_,hl,_,hz,_,hg,V⟩
 ·simp[Value.cells] at G;obtain ⟨rfl,rfl,rfl⟩:=G;exact ⟨[],O,by simp,Zs.nil _ _ _⟩
 simp[Value.cells] at G;obtain ⟨rfl,rfl,rfl⟩:=G;have hq:nb≤zs.length:=by rw[hz];split <;> omega
 have hh:∀k,k<nb→∃n:Nat,zs.getD k 0=(n:Int)∧n<256:=λk hk=>Qbf (V _ (by simp[List.getD,show k<zs.length by omega]));have J:((zs.take nb).map Int.toNat).length=nb:=by simp;omega
 refine ⟨(zs.take nb).map Int.toNat,J,λn I=>?_,?_⟩
 ·obtain ⟨z,hm,rfl⟩:=Lp.1 I;obtain ⟨n,rfl,ho⟩:=Qbf (V z (LT hm));simpa using ho
 have hp:Cell.okWide P W .any base t (.slice (some a) nb cb):=by simpa only[Value.okWide,ht] using S
 rw[Qcw];refine ⟨by rw[Le,J];omega,by omega,.inr ⟨a,cb,by rw[J],by omega,λ_ _=>by simp,λ_ _=>QcL ht hp,λj v E=>?_⟩⟩;rw[MR,MR,LW] at E;split at E
 ·rename_i hj;obtain ⟨n,I,_⟩:=hh j hj;have h1:=hg j (by omega);have h2:zs[j]?=some (zs.getD j 0):=by simp[List.getD,show j<zs.length by omega]
  rw[h2,I] at E;simp at E;rw[←Xx,h1,I,←E]
 cases E
theorem jt:∀{E:List Ed},(E.Pairwise λx y=>x.1<y.1∨(x.1=y.1∧x.2.1<y.2.1))→∀{s v t:Int},(s,v,t)∈E→eget E s v=some t
 | [],_,_,_,_,h=>by cases h
 | e::E,hp,s,v,t,h=>by
  obtain ⟨h1,h2⟩:=L0.1 hp;rw[eget];rcases Lb.1 h with h | h
  ·subst h;rw[if_pos ⟨rfl,rfl⟩]
  have h3:=h1 _ h;rw[if_neg (λG=>by have a1:e.1=s:=G.1;have a2:e.2.1=v:=G.2;simp only[] at h3;omega)];exact jt h2 h
abbrev QeB (a:QN):Cs:=YJ a a.st.toNat 0 (ZC a)
theorem cn0 {a:QN}(I:0<a.st):CnG a 0 (ZC a):=by
 have E:0<a.st.toNat:=by omega
 refine ⟨⟨by simp[ZC],λs hs=>by simp[ZC] at hs;subst hs;omega,by simp[ZC],λk J k1=>?_⟩,Ll _,⟨by simp[ZC,ZB],by simp[ZC]⟩,by simp[ZC],by simp[ZC],λj S=>by omega⟩;by_cases ek:k=0
 ·subst ek;rw[if_pos (by simp[ZC])];unfold ZB ZC;simp[List.getD,E]
 rw[if_neg (by simpa[ZC] using ek)];unfold ZC;have G:0≠k.toNat:=by omega
 have H:k.toNat<a.st.toNat:=by omega
 unfold ZB;rw[LQ,M4 G];simp[H]
theorem QlY {a:QN}(G:Q2 a) (H:0<a.st):CnP a (QeB a).ord∧Yi a=⟨a.al,((QeB a).ord.length:Int),(QeB a).mk',(QeB a).ed⟩∧(QeB a).ord.length≤a.st.toNat:=by
 obtain ⟨I,h1,h2⟩:=Uc G a.st.toNat 0 (ZC a) (cn0 H);have J:(YJ a a.st.toNat 0 (ZC a)).ord.length≤a.st.toNat:=pig _ _ h1.nu.nd (λx hx=>by have:=h1.nu.bd x hx;omega);have S:I=(YJ a a.st.toNat 0 (ZC a)).ord.length:=by have:=h1.le;omega
 subst S;have E:Yi a=⟨a.al,((YJ a a.st.toNat 0 (ZC a)).ord.length:Int),(YJ a a.st.toNat 0 (ZC a)).mk',(YJ a a.st.toNat 0 (ZC a)).ed⟩:=by unfold Yi;rw[if_neg (by omega)]
 refine ⟨⟨h1.nu.nd,h1.nu.bd,h1.hd,by rw[E],by rw[E],?_,?_,h1.cl⟩,E,J⟩
 ·rw[E];exact h1.mk2
 rw[E];exact h1.ed
theorem Qkm {a:QN}{ul:LI}:∀(f:Nat) (lf:Lf),KE lf<f→(nxs a ul (Vj a ul f lf)).length=0
 | 0,_,h=>by omega
 | f+1,lf,h=>by
  by_cases h1:(nxs a ul lf).length=0
  ·rw[Vj,if_pos h1];exact h1
  rw[zR h1];have:=Qac h1;exact Qkm f _ (by omega)
theorem Qk1 (a:QN) (fb ul:LI):(nxs a ul (J5 a fb ul)).length=0:=by
 refine Qkm _ _ ?_;have h:=QdC (lf0 a.st.toNat fb);have:(lf0 a.st.toNat fb).length=a.st.toNat:=by unfold lf0;rw[VK,List.length_replicate]
 omega
theorem Qjg {l:Lf}{x s:Int}(h:lft (cut l x) s=true):lft l s=true∧x.toNat≠s.toNat:=by
 unfold lft cut at *;rw[LQ,List.getElem?_set] at h;by_cases e:x.toNat=s.toNat
 ·rw[if_pos e] at h;split at h <;> simp at h
 rw[if_neg e,←LQ] at h;exact ⟨h,e⟩
theorem qC {s:Int}:∀(xs:LI) (l:Lf),lft (xs.foldl cut l) s=true→lft l s=true∧∀x∈xs,x.toNat≠s.toNat
 | [],l,h=>⟨h,λx hx=>(by cases hx)⟩
 | x::xs,l,h=>by
  obtain ⟨h1,h2⟩:=qC xs (cut l x) h;obtain ⟨h3,E⟩:=Qjg h1;refine ⟨h3,λy hy=>?_⟩;rcases Lb.1 hy with e | hy
  ·rw[e];exact E
  exact h2 y hy
theorem Qdf {a:QN}{ul:LI}{s:Int}:∀(f:Nat) (l:Lf),lft (Vj a ul f l) s=true→lft l s=true
 | 0,l,h=>h
 | f+1,l,h=>by
  rw[Vj] at h;split at h
  ·exact h
  exact (qC _ _ (Qdf f _ h)).1
theorem Qlt {a:QN}{fb ul:LI}{s:Int}(h:lft (J5 a fb ul) s=true):∀x∈fb,x.toNat≠s.toNat:=(qC fb _ (Qdf _ _ h)).2
theorem Qjc {ul:LI}{lf:Lf}{e:Ed}{out:List (Int×Int)}(h:out≠[]):XR ul lf out e≠[]:=by
 unfold XR;split
 ·exact h
 split
 ·exact h
 simp
theorem Qan {ul:LI}{lf:Lf}:∀(l:List Ed) {out:List (Int×Int)},out≠[]→l.foldl (XR ul lf) out≠[]
 | [],_,h=>h
 | _::l,_,h=>Qan l (Qjc h)
theorem Qao {ul:LI}{lf:Lf}{e:Ed}(h1:lft lf e.1=true) (h2:lft lf e.2.2=false) (h3:e.2.1∈ul):∀(l:List Ed) (out:List (Int×Int)),e∈l→l.foldl (XR ul lf) out≠[]
 | x::l,out,h=>by
  rcases Lb.1 h with e1 | h
  ·subst e1;refine Qan l ?_;unfold XR;rw[if_neg (by rw[h1,h2];simp[h3])];split
   ·rename_i E;intro h5;rw[h5] at E;cases E
   simp
  exact Qao h1 h2 h3 l _ h
theorem Qji {a:QN}{fb ul:LI}{e:Ed}(he:e∈a.ed) (h1:lft (J5 a fb ul) e.1=true) (h3:e.2.1∈ul):lft (J5 a fb ul) e.2.2=true:=by
 have E:=Qk1 a fb ul;cases h2:lft (J5 a fb ul) e.2.2 with
 | true=>rfl
 | false =>
  have G:lost a ul (J5 a fb ul)≠[]:=Qao h1 h2 h3 a.ed [] he;have h5:(lost a ul (J5 a fb ul)).length≠0:=λh=>G (Ln h);unfold nxs at E;rw[if_pos h5,Le] at E;exact absurd E h5
def pst (v:Int) (a:QN) (x:Int):Option Int:=if v∈a.al then eget a.ed x v else some x
theorem U8 (v:Int) (a:QN) (aa:List QN) (x:Int) (t:LI):Zl v (a::aa) (x::t)=(pst v a x).bind λy=>(Zl v aa t).map (y::·):=by
 rw[Zl];unfold pst;by_cases h:v∈a.al
 ·rw[if_neg (not_not_intro h),if_pos h];cases eget a.ed x v <;> rfl
 rw[if_pos h,if_neg h];rfl
theorem Yy (v:Int):∀(aa:List QN) (t u:LI),t.length=aa.length→(Zl v aa t=some u↔u.length=aa.length∧∀i (h:i<aa.length),pst v (aa[i]'h) (cget t i)=some (cget u i))
 | [],[],u,_=>by
  show some []=some u↔_;constructor
  ·intro h;rw[←Option.some.inj h];exact ⟨O,λi h=>absurd h (Nh i)⟩
  rintro ⟨h,_⟩;rw[Ln h]
 | a::aa,x::t,u,hl=>by
  have H:t.length=aa.length:=by simpa using hl
  rw[U8];constructor
  ·intro h;obtain ⟨y,h1,h2⟩:=Ml.1 h;obtain ⟨E,h3,G⟩:=L9.1 h2;subst G;obtain ⟨h5,I⟩:=(Yy v aa t E H).1 h3;refine ⟨by simp[h5],λi hi=>?_⟩;cases i with
   | zero=>exact h1
   | succ i=>exact I i (by simpa using hi)
  rintro ⟨h1,h2⟩;cases u with
  | nil=>simp at h1
  | cons y E =>
   have h3:=h2 0 (by simp);have G:Zl v aa t=some E:=(Yy v aa t E H).2 ⟨by simpa using h1,λi hi=>h2 (i+1) (by simpa using hi)⟩;have h5:pst v a x=some y:=h3;rw[h5,G];rfl
theorem U7 {v:Int}:∀{aa:List QN}{t:LI},t.length=aa.length→(∀i (h:i<aa.length),(pst v (aa[i]'h) (cget t i)).isSome=true)→∃u,Zl v aa t=some u
 | [],[],_,_=>⟨[],O⟩
 | a::aa,x::t,hl,h=>by
  obtain ⟨u,hu⟩:=U7 (v:=v) (aa:=aa) (t:=t) (by simpa using hl) (λi hi=>h (i+1) (by simpa using hi));obtain ⟨y,hy⟩:=Me.1 (h 0 (by simp));have E:pst v a x=some y:=hy;exact ⟨y::u,by rw[U8,E,hu];rfl⟩
def nx (v:Int) (A:Nat→QN) (x:Nat→Int) (i:Nat):Int:=(pst v (A i) (x i)).getD 0
theorem yZ {v:Int}{A:Nat→QN}{x:Nat→Int}{i:Nat}(h:(pst v (A i) (x i)).isSome=true):pst v (A i) (x i)=some (nx v A x i):=by
 obtain ⟨y,hy⟩:=Me.1 h;unfold nx;rw[hy];rfl
theorem yi {α:Type}{l:List α}{f:α→Int}{i:Nat}(h:i<l.length):cget (l.map f) i=f (l[i]'h):=by
 unfold cget;simp[List.getD,h]
theorem zJ {v:Int}{A:Nat→QN}{x:Nat→Int}{is:LN}{u:LI}(h:Zl v (is.map A) (is.map x)=some u):u=is.map (nx v A x)∧∀i∈is,(pst v (A i) (x i)).isSome=true:=by
 obtain ⟨h1,h2⟩:=(Yy v _ _ u (by simp)).1 h;rw[Le] at h1;have h3:∀k (hk:k<is.length),pst v (A (is[k]'hk)) (x (is[k]'hk))=some (cget u k):=λk hk=>by
  have E:=h2 k (by simpa using hk);rw[yi hk,LL] at E;exact E
 have h5:∀i∈is,(pst v (A i) (x i)).isSome=true:=λi hi=>by
  obtain ⟨k,hk,e⟩:=LD hi;rw[←e,h3 k hk];rfl
 refine ⟨L5 (by simp[h1]) λk k1 k2=>?_,h5⟩;have hk:k<is.length:=by omega
 have G:=h3 k hk;rw[yZ (h5 _ (Lc hk))] at G;rw[LL,Za k1];exact (Option.some.inj G).symm
theorem KQ {v:Int}{A:Nat→QN}{x:Nat→Int}{is:LN}(h:∀i∈is,(pst v (A i) (x i)).isSome=true):Zl v (is.map A) (is.map x)=some (is.map (nx v A x)):=by
 refine (Yy v _ _ _ (by simp)).2 ⟨by simp,λk hk=>?_⟩;have E:k<is.length:=by simpa using hk
 rw[yi E,yi E,LL];exact yZ (h _ (Lc E))
theorem Qbn {v:Int}{aa:List QN}{t:LI}(hl:t.length=aa.length) (E:∀a∈aa,v∉a.al):Zl v aa t=some t:=by
 refine (Yy v _ _ _ hl).2 ⟨hl,λk hk=>?_⟩;unfold pst;rw[if_neg (E _ (Lc hk))]
theorem Qla {v:Int}{a:QN}(E:Q2 a) {x y:Int}(G:0≤x∧x<a.st) (h:pst v a x=some y):0≤y∧y<a.st:=by
 unfold pst at h;split at h
 ·exact (E.ed _ (YY h)).2.2.2
 rw[←Option.some.inj h];exact G
theorem YD {l:List (LI)}{s:Nat}(h:s<l.length):l.getD s []=l[s]'h∧l.getD s []∈l:=by
 have e:l.getD s []=l[s]'h:=by simp[List.getD,h]
 exact ⟨e,by rw[e];exact Lc h⟩
theorem Qgi {α:Type}{l:List α}(G:l.Nodup) {i j:Nat}(hi:i<l.length) (E:j<l.length) (e:l[i]'hi=l[j]'E):i=j:=by
 have h:=Mu.1 G;rcases Nat.lt_trichotomy i j with h1 | h1 | h1
 ·exact absurd e (h i j hi E h1)
 ·exact h1
 exact absurd e.symm (h j i E hi h1)
def sord (B:QN) (lf:Lf):LI:=(QeB (rstr B lf)).ord
def yr (B:QN) (Q:List (LI)) (lf:Lf) (q:LI) (y:Int):Prop :=
 ∃j s:Nat,y=(j:Int)∧j<(sord B lf).length∧ZB (sord B lf) j=(s:Int)∧s<Q.length∧lft lf s=true∧Q.getD s []=q
theorem KP {B:QN}(E:Q2 B) (hp:0<B.st) (lf:Lf):CnP (rstr B lf) (sord B lf):=(QlY (Kq E lf) hp).1
theorem yr.uniq {aa:List QN}{B:QN}{Q:List (LI)}{lf:Lf}(I:SyP aa B Q) (J:Q2 B) (hp:0<B.st) {q:LI}{y E:Int}(h:yr B Q lf q y) (h':yr B Q lf q E):y=E:=by
 obtain ⟨j,s,e0,h1,h2,h3,_,S⟩:=h;obtain ⟨V,Y,ha,G,hb,H,_,hc⟩:=h';have es:s=Y:=Qgi I.nd h3 H (by rw[←(YD h3).1,←(YD H).1,S,hc]);subst es;have ej:j=V:=Qgi (KP J hp lf).nd h1 G (by
  rw[Za h1,Za G];exact h2.trans hb.symm)
 rw[e0,ha,ej]
theorem yr.step {aa:List QN}{B:QN}{Q:List (LI)}{lf:Lf}(ha:∀a∈aa,Q2 a) (G:SyP aa B Q) (H:Q2 B) (hp:0<B.st) {q:LI}{y I v:Int}(h:yr B Q lf q y) (E:pst v (Yi (rstr B lf)) y=some I) :
  ∃q',Zl v aa q=some q'∧yr B Q lf q' I:=by
 obtain ⟨j,s,e0,h1,h2,h3,h4,h5⟩:=h;have hC:=KP H hp lf;have J:(Yi (rstr B lf)).al=evs aa:=hC.al.trans G.al;unfold pst at E;by_cases hm:v∈(Yi (rstr B lf)).al
 ·have S:v∈evs aa:=by rw[←J];exact hm
  rw[if_pos hm,e0,hC.step h1 v,h2] at E;obtain ⟨u,hu,e1⟩:=L9.1 E;have V:=YY hu;obtain ⟨he,hf⟩:=LR.1 (show ((s:Int),v,u)∈B.ed.filter λe=>lft lf e.2.2 from V);have Y:=G.step h3 v;rw[jt H.edi he,if_pos S,h5] at Y;obtain ⟨q',hq,e2⟩:=L9.1 Y.symm;have hb:=G.to h3 S (u:=q') (by rw[h5];exact hq)
  have hg:u∈sord B lf:=hC.cl j h1 ((s:Int),v,u) (by
   rw[h2];unfold Zz;exact LR.2 ⟨V,decide_eq_true O⟩)
  have hc:=LZ hg;refine ⟨q',hq,(sord B lf).idxOf u,Q.idxOf q',e1.symm,hc,?_,hb.1,by rw[e2];exact hf,hb.2⟩;rw[e2];show cget (sord B lf) ((sord B lf).idxOf u)=u;rw[←Za hc,List.getElem_idxOf]
 rw[if_neg hm] at E;have hq:q∈Q:=by rw[←h5];exact (YD h3).2
 exact ⟨q,Qbn (G.v q hq).1 (λa hh hj=>hm (by rw[J];exact (Yn ha v).2 ⟨a,hh,hj⟩)),j,s,by rw[←e0];exact (Option.some.inj E).symm,h1,h2,h3,h4,h5⟩
theorem yr.init {aa:List QN}{B:QN}{Q:List (LI)}{lf:Lf}(E:SyP aa B Q) (H:Q2 B) (hp:0<B.st) (I:lft lf 0=true):yr B Q lf (List.replicate aa.length 0) 0:=by
 have hC:=KP H hp lf;have G:0<Q.length:=by have:=E.st;omega
 exact ⟨0,0,O,hC.hd.2,hC.hd.1,G,I,E.hd G⟩
theorem yr.unc {aa:List QN}{B:QN}{Q:List (LI)}{fb ul:LI}(H:SyP aa B Q) (E:Q2 B) (hp:0<B.st) {q q':LI}{y v:Int}(h:yr B Q (J5 B fb ul) q y) (I:v∈evs aa) (J:v∈ul) (hq:Zl v aa q=some q') :
  (eget (Yi (rstr B (J5 B fb ul))).ed y v).isSome=true:=by
 obtain ⟨j,s,e0,h1,h2,h3,S,h5⟩:=h;have hC:=KP E hp (J5 B fb ul);have G:=H.step h3 v;rw[if_pos I,h5,hq] at G;have he:=YY (show eget B.ed (s:Int) v=some (Q.idxOf q':Int) from G);have hl:=Qji (fb:=fb) he S J;have V:((s:Int),v,(Q.idxOf q':Int))∈(rstr B (J5 B fb ul)).ed:=LR.2 ⟨he,hl⟩;rw[e0,hC.step h1 v,h2,jt (Kq E _).edi V];rfl
theorem Qfg {B:QN}{fb ul:LI}(h:(Uy B fb ul).st≠0):B.st≠0∧lft (J5 B fb ul) 0=true∧Uy B fb ul=Yi (rstr B (J5 B fb ul)):=by
 unfold Uy jT at *;split at h
 ·exact absurd O h
 rename_i hc;rw[if_neg hc];refine ⟨λe=>hc (.inl e),?_,O⟩;cases hl:lft (J5 B fb ul) 0 with
 | true=>rfl
 | false=>exact absurd (.inr hl) hc
theorem Qiy {P:LI→Prop}{aa:List QN}{i:Nat}{t:LI}{v:Int}{z G:Sy}(h:syE aa i t z v=some G) (E:∀t∈z.tup,P t) (H:∀u,Zl v aa t=some u→P u):∀t∈G.tup,P t:=by
 unfold syE at h;cases hs:Zl v aa t with
 | none=>rw[hs] at h;rw[←Option.some.inj h];exact E
 | some u =>
  rw[hs] at h;simp only[] at h;split at h
  ·rw[←Option.some.inj h];exact E
  split at h
  ·cases h
  rw[←Option.some.inj h];intro t ht;rcases Lj.1 ht with ht | ht
  ·exact E t ht
  rw[La.1 ht];exact H u hs
theorem jS {P:LI→Prop}{aa:List QN}{i:Nat}{t:LI}:∀(vs:LI) (z E:Sy),KO aa i t vs z=some E→(∀t∈z.tup,P t)→(∀v∈vs,∀u,Zl v aa t=some u→P u)→∀t∈E.tup,P t
 | [],z,E,h,G,_=>by rw[←Option.some.inj (show some z=some E from h)];exact G
 | v::vs,z,E,h,G,H=>by
  rw[KO] at h;obtain ⟨I,h1,h2⟩:=Ml.1 h;exact jS vs I E h2 (Qiy h1 G (H v Lm)) (λw J=>H w (Lk _ J))
theorem QcC {P:LI→Prop}{aa:List QN}(H:∀t,P t→∀v∈evs aa,∀u,Zl v aa t=some u→P u):∀(f i:Nat) (z E:Sy),jQ aa f i z=some E→(∀t∈z.tup,P t)→∀t∈E.tup,P t
 | 0,_,z,E,h,G=>by rw[←Option.some.inj (show some z=some E from h)];exact G
 | f+1,i,z,E,h,G=>by
  rw[jQ] at h;split at h
  ·rename_i hi;obtain ⟨I,h1,h2⟩:=Ml.1 h;have J:(ZA aa i (Uj z i) z).tup=z.tup:=by unfold ZA;split <;> rfl
   have hp:P (Uj z i):=G _ (YD hi).2;exact QcC H f (i+1) I E h2 (jS _ _ _ h1 (by rw[J];exact G) (H _ hp))
  rw[←Option.some.inj h];exact G
theorem Qfe {P:LI→Prop}{aa:List QN}{z:QN×List (LI)}(h:sync aa=some z) (E:P (List.replicate aa.length 0)) (G:∀t,P t→∀v∈evs aa,∀u,Zl v aa t=some u→P u):∀t∈z.2,P t:=by
 unfold sync at h;split at h
 ·rw[←Option.some.inj h];intro t ht;cases ht
 obtain ⟨s,h1,h2⟩:=L9.1 h;rw[←h2];exact QcC G _ _ _ _ h1 (λt ht=>by rw[La.1 ht];exact E)
section
variable {aa:List QN} {P:LI→Prop} {B:Nat}
structure SyB (P:LI→Prop) (s:Sy):Prop where
 nd:s.tup.Nodup
 p:∀t∈s.tup,P t
theorem QkO (J:B≤4096) (H:∀l:List (LI),l.Nodup→(∀t∈l,P t)→l.length≤B) {i:Nat}{t:LI}{v:Int}{z:Sy}(E:SyB P z) (I:∀u,Zl v aa t=some u→P u) :
  ∃z',syE aa i t z v=some z'∧SyB P z':=by
 unfold syE;cases hs:Zl v aa t with
 | none=>exact ⟨z,O,E⟩
 | some u =>
  simp only[];by_cases hu:u∈z.tup
  ·rw[if_pos hu];exact ⟨_,O,E.nd,E.p⟩
  have G:(z.tup++[u]).Nodup:=KU E.nd hu;have hp:∀t∈z.tup++[u],P t:=λt ht=>by
   rcases Lj.1 ht with ht | ht
   ·exact E.p t ht
   rw[La.1 ht];exact I u hs
  have hc:=H _ G hp;rw[Lh,LA] at hc;rw[if_neg hu,if_neg (by omega)];exact ⟨_,O,G,hp⟩
theorem QcF (G:B≤4096) (H:∀l:List (LI),l.Nodup→(∀t∈l,P t)→l.length≤B) {i:Nat}{t:LI}:∀(vs:LI) (z:Sy),SyB P z→(∀v∈vs,∀u,Zl v aa t=some u→P u)→∃z',KO aa i t vs z=some z'∧SyB P z'
 | [],z,E,_=>⟨z,O,E⟩
 | v::vs,z,E,I=>by
  obtain ⟨J,h1,h2⟩:=QkO (i:=i) G H E (I v Lm);obtain ⟨S,h3,V⟩:=QcF G H vs J h2 (λw Y=>I w (Lk _ Y));exact ⟨S,by rw[KO,h1];exact h3,V⟩
theorem Qfi (G:B≤4096) (H:∀l:List (LI),l.Nodup→(∀t∈l,P t)→l.length≤B) (I:∀t,P t→∀v∈evs aa,∀u,Zl v aa t=some u→P u):∀(f i:Nat) (z:Sy),SyB P z→∃z',jQ aa f i z=some z'
 | 0,_,z,_=>⟨z,O⟩
 | f+1,i,z,E=>by
  rw[jQ];split
  ·rename_i hi;have S:P (Uj z i):=E.p _ (by unfold Uj;simp[List.getD,hi]);have J:(ZA aa i (Uj z i) z).tup=z.tup:=by unfold ZA;split <;> rfl
   obtain ⟨V,h1,h2⟩:=QcF (i:=i) G H (evs aa) (ZA aa i (Uj z i) z) ⟨by rw[J];exact E.nd,by rw[J];exact E.p⟩ (I _ S);obtain ⟨Y,h3⟩:=Qfi G H I f (i+1) V h2;exact ⟨Y,by rw[h1];exact h3⟩
  exact ⟨z,O⟩
theorem QcA (E:B≤4096) (G:∀l:List (LI),l.Nodup→(∀t∈l,P t)→l.length≤B) (H:(∀a∈aa,a.st≠0)→P (List.replicate aa.length 0)) (I:∀t,P t→∀v∈evs aa,∀u,Zl v aa t=some u→P u) :
  ∃z,sync aa=some z:=by
 unfold sync;split
 ·exact ⟨_,rfl⟩
 rename_i J;have h1:P (List.replicate aa.length 0):=H (λa ha e=>J ⟨a,ha,e⟩);obtain ⟨z,h2⟩:=Qfi E G I 4096 0 (U6 aa) ⟨by simp[U6],λt ht=>by simp[U6] at ht;subst ht;exact h1⟩;exact ⟨_,by rw[h2];rfl⟩
end
def Ki (k:Nat):LI→Int
 | []=>0
 | x::t=>x+(k:Int)*Ki k t
theorem js {k:Nat}:∀{t:LI},(∀x∈t,0≤x∧x<(k:Int))→0≤Ki k t∧Ki k t<((k ^ t.length:Nat):Int)
 | [],_=>by simp[Ki]
 | x::t,h=>by
  have hx:=h x Lm;obtain ⟨h1,h2⟩:=js (t:=t) (λy hy=>h y (Lk _ hy));have hk:(0:Int)<(k:Int):=by omega
  rw[Ki,LJ,Nat.pow_succ];have h3:(k:Int)*Ki k t≤(k:Int)*(((k ^ t.length:Nat):Int) - 1):=Int.mul_le_mul_of_nonneg_left (by omega) (by omega);have E:0≤(k:Int)*Ki k t:=Int.mul_nonneg (by omega) h1;rw[Int.mul_sub,Int.mul_one] at h3;have h5:((k ^ t.length*k:Nat):Int)=(k:Int)*((k ^ t.length:Nat):Int):=by rw[Int.natCast_mul,Int.mul_comm]
  rw[h5];exact ⟨by omega,by omega⟩
theorem qU {k:Nat}:∀{t u:LI},t.length=u.length→(∀x∈t,0≤x∧x<(k:Int))→(∀x∈u,0≤x∧x<(k:Int))→Ki k t=Ki k u→t=u
 | [],[],_,_,_,_=>rfl
 | [],_::_,h,_,_,_=>by cases h
 | _::_,[],h,_,_,_=>by cases h
 | x::t,y::u,hl,ht,hu,he=>by
  have hx:=ht x Lm;have hy:=hu y Lm;rw[Ki,Ki] at he;have G:(x+(k:Int)*Ki k t) % (k:Int)=x:=by rw[Int.add_mul_emod_self_left];exact Int.emod_eq_of_lt hx.1 hx.2
  have I:(y+(k:Int)*Ki k u) % (k:Int)=y:=by rw[Int.add_mul_emod_self_left];exact Int.emod_eq_of_lt hy.1 hy.2
  rw[he] at G;have H:x=y:=by omega
  subst H;have hm:(k:Int)*Ki k t=(k:Int)*Ki k u:=by omega
  have hk:(k:Int)≠0:=by omega
  have h2:=Int.eq_of_mul_eq_mul_left hk hm;rw[qU (by simpa using hl) (λz E=>ht z (Lk _ E)) (λz E=>hu z (Lk _ E)) h2]
theorem Qff {aa:List QN}{k:Nat}(G:∀a∈aa,Q2 a) (hk:∀a∈aa,a.st≤(k:Int)) (I:k ^ aa.length≤4096):∃z,sync aa=some z:=by
 have E:∀t,Vt aa t→∀x∈t,0≤x∧x<(k:Int):=λt ht x hx=>by
  obtain ⟨i,hi,e⟩:=LD hx;have H:i<aa.length:=by rw[←ht.1];exact hi
  have h1:=ht.2 i hi H;have h2:=hk _ (Lc H);rw[e] at h1;omega
 refine QcA (P:=Vt aa) I (λl J hp=>?_) (λS=>?_) (λt ht v _ u hu=>Y9 G ht hu)
 ·have h1:(l.map (Ki k)).Nodup:=by
   unfold List.Nodup;rw[Ms];refine List.Pairwise.imp_of_mem (λ{a b} ha hb V e=>V ?_) J;exact qU (by rw[(hp a ha).1,(hp b hb).1]) (E a (hp a ha)) (E b (hp b hb)) e
  have h2:=pig (k ^ aa.length) _ h1 (λu hu=>by
   obtain ⟨t,ht,rfl⟩:=Lp.1 hu;have h3:=js (E t (hp t ht));rw[(hp t ht).1] at h3;exact h3)
  rw[Le] at h2;exact h2
 refine ⟨by simp,λi h h'=>?_⟩;have h1:=S _ (Lc h');have h2:=(G _ (Lc h')).st0;simp only[List.getElem_replicate];omega
abbrev dI:Yp:=⟨.empty,⟨[],0,[],[]⟩⟩
theorem Qgz (co:List Yp):∀(l:List Yp) (i k:Nat) (h:k<l.length),(⟨1,((i+k:Nat):Int),ixs (λy:Yp=>mts (l[k]'h).a.al y.a.al) 0 co⟩:YO)∈lmR co i l
 | x::l,i,0,_=>by rw[lmR];exact Lm
 | x::l,i,k+1,h=>by
  rw[lmR];have h1:=Qgz co l (i+1) k (by simpa using h);rw[show i+1+k=i+(k+1) by omega] at h1;exact Lk _ h1
theorem QbP (kd:Int):∀(l:List (List (Int×Int))) (i k:Nat) (h:k<l.length),(⟨kd,((i+k:Nat):Int),(l[k]'h).map (·.1)⟩:YO)∈lmP kd i l
 | x::l,i,0,_=>by rw[lmP];exact Lm
 | x::l,i,k+1,h=>by
  rw[lmP];have h1:=QbP kd l (i+1) k (by simpa using h);rw[show i+1+k=i+(k+1) by omega] at h1;exact Lk _ h1
theorem QgA {co:List Yp}{m:YO}:∀(l:List Yp) (i:Nat),m∈lmR co i l→∃k,∃h:k<l.length,m=⟨1,((i+k:Nat):Int),ixs (λy:Yp=>mts (l[k]'h).a.al y.a.al) 0 co⟩
 | x::l,i,h=>by
  rw[lmR] at h;rcases Lb.1 h with h | h
  ·exact ⟨0,by simp,h⟩
  obtain ⟨k,hk,e⟩:=QgA l (i+1) h;rw[show i+1+k=i+(k+1) by omega] at e;exact ⟨k+1,by simpa using hk,e⟩
theorem QbQ {kd:Int}{m:YO}:∀(l:List (List (Int×Int))) (i:Nat),m∈lmP kd i l→∃k,∃h:k<l.length,m=⟨kd,((i+k:Nat):Int),(l[k]'h).map (·.1)⟩
 | x::l,i,h=>by
  rw[lmP] at h;rcases Lb.1 h with h | h
  ·exact ⟨0,by simp,h⟩
  obtain ⟨k,hk,e⟩:=QbQ l (i+1) h;rw[show i+1+k=i+(k+1) by omega] at e;exact ⟨k+1,by simpa using hk,e⟩
def yK (c:Q8) (k:Nat):YO:=⟨1,(k:Int),ixs (λy:Yp=>mts (c.rq.getD k dI).a.al y.a.al) 0 c.co⟩
def KY (c:Q8) (k:Nat):YO:=⟨2,(k:Int),(c.ex.getD k ⟨.empty,[]⟩).ls.map (·.1)⟩
def KZ (c:Q8) (k:Nat):YO:=⟨3,(k:Int),(c.cs.getD k ⟨.empty,[],0⟩).ts.map (·.1)⟩
theorem ZS {α:Type}{l:List α}{k:Nat}(h:k<l.length) (d:α):l.getD k d=l[k]'h:=by simp[List.getD,h]
theorem Kt {c:Q8}(h:Jb c) {m:YO}(hm:m∈mods c):(∃k,k<c.rq.length∧m=yK c k)∨(∃k,k<c.ex.length∧m=KY c k)∨∃k,k<c.cs.length∧m=KZ c k:=by
 rw[h.lmd] at hm;unfold lmd at hm;rcases Lj.1 hm with hm | hm
 ·obtain ⟨k,hk,e⟩:=QgA _ _ hm;rw[LG] at e;exact .inl ⟨k,hk,by rw[e];unfold yK;rw[ZS hk]⟩
 rcases Lj.1 hm with hm | hm
 ·obtain ⟨k,hk,e⟩:=QbQ _ _ hm;have E:k<c.ex.length:=by simpa using hk
  rw[LG,LL] at e;exact .inr (.inl ⟨k,E,by rw[e];unfold KY;rw[ZS E]⟩)
 obtain ⟨k,hk,e⟩:=QbQ _ _ hm;have E:k<c.cs.length:=by simpa using hk
 rw[LG,LL] at e;exact .inr (.inr ⟨k,E,by rw[e];unfold KZ;rw[ZS E]⟩)
theorem Qk2 {c:Q8}(h:Jb c) {k:Nat}(hk:k<c.rq.length):yK c k∈mods c:=by
 rw[h.lmd];have h1:=Qgz c.co c.rq 0 k hk;rw[LG] at h1;unfold yK;rw[ZS hk];exact Lz _ h1
theorem Qhi {c:Q8}(h:Jb c) {k:Nat}(hk:k<c.ex.length):KY c k∈mods c:=by
 rw[h.lmd];have h1:=QbP 2 (c.ex.map (·.ls)) 0 k (by simpa using hk);rw[LG,LL] at h1;unfold KY;rw[ZS hk];exact LU _ (Lz _ h1)
theorem Qhv {c:Q8}(h:Jb c) {k:Nat}(hk:k<c.cs.length):KZ c k∈mods c:=by
 rw[h.lmd];have h1:=QbP 3 (c.cs.map (·.ts)) 0 k (by simpa using hk);rw[LG,LL] at h1;unfold KZ;rw[ZS hk];exact LU _ (LU _ h1)
theorem Qna {sz:LI}{x:Xr}(h:Yw sz x=0):x.ts.length≠0∧YT sz none x.ts=0∧grt x.bd=false:=by
 unfold Yw at h;split at h
 ·cases h
 rename_i E;split at h
 ·rename_i h9;exact absurd h h9
 rename_i h9;split at h
 ·cases h
 rename_i G;exact ⟨E,Ls.1 h9,by cases H:grt x.bd with | true=>exact absurd H G | false=>rfl⟩
theorem UK (l:List Yp):(Proofs.YtdffckgdcegpaaaGreatDoor.szs l).length=l.length:=by unfold Proofs.YtdffckgdcegpaaaGreatDoor.szs;rw[Le]
theorem JC {c:Q8}(h:Jb c) {m:YO}(hm:m∈mods c):Z0 m.co∧∀i∈m.co,0≤i∧i<(c.co.length:Int):=by
 rcases Kt h hm with ⟨k,hk,e⟩ | ⟨k,hk,e⟩ | ⟨k,hk,e⟩
 ·rw[e];refine ⟨UY _ _ _,λi hi=>?_⟩;obtain ⟨j,E,e1,_⟩:=(JD _ _ _ _).1 (show i∈ixs _ 0 c.co from hi);omega
 ·rw[e];have hx:=h.ex _ (Lc hk);have h1:=JH _ _ _ hx.2.2;unfold KY;rw[ZS hk];refine ⟨h1.2.1,λi hi=>?_⟩;obtain ⟨p,hp,rfl⟩:=Lp.1 hi;have:=h1.1 p hp;rw[UK] at this;exact this
 rw[e];have hx:=h.cs _ (Lc hk);have h1:=JG _ _ _ (Qna hx.2).2.1;unfold KZ;rw[ZS hk];refine ⟨h1.2.1,λi hi=>?_⟩;obtain ⟨p,hp,rfl⟩:=Lp.1 hi;have:=h1.1 p hp;rw[UK] at this;omega
theorem Qdo {pre r:LI}{x:Int}(h:(pre++x::r).Nodup):(pre++x::r).idxOf x=pre.length:=by
 have hx:x∉pre:=λhx=>(MD.1 h).2.2 x hx x Lm O;rw[Mi,if_neg hx];simp
theorem QgD {pr:Option Int}{n:Int}(hp:∀y,pr=some y→y<n):¬UW pr n=true:=by
 intro E;cases G:pr with
 | none=>rw[G] at E;cases E
 | some y =>
  rw[G] at E;have h1:=hp y G;have h2:n≤y:=of_decide_eq_true (show decide (n≤y)=true from E);omega
theorem QaN {sz sz' co:LI}(H:co.Nodup) (S:sz'.length=co.length) (I:∀k,k<co.length→cget sz' k=cget sz (cget co k).toNat):∀(ls:List (Int×Int)) (pre:LI) (pr G:Option Int),co=pre++ls.map (·.1)→(∀y,G=some y→y<(pre.length:Int))→Yv sz pr ls=0→Yv sz' G (jj co ls)=0
 | [],_,_,_,_,_,_=>rfl
 | l::ls,pre,pr,G,hc,hp,h=>by
  have E:co=pre++l.1::ls.map (·.1):=hc;have e1:co.idxOf l.1=pre.length:=by rw[E];exact Qdo (by rw[←E];exact H)
  have V:pre.length<co.length:=by rw[E];simp
  have e2:cget co pre.length=l.1:=by rw[E];unfold cget;simp
  have Y:jj co (l::ls)=(((pre.length:Nat):Int),l.2)::jj co ls:=by rw[←e1];rfl
  rw[Yv] at h;split at h
  ·cases h
  split at h
  ·cases h
  split at h
  ·cases h
  rename_i h3;have J:=I pre.length V;rw[e2] at J;rw[Y,Yv];simp only[Int.toNat_natCast];rw[if_neg (by omega),if_neg (QgD hp),if_neg (by rw[J];exact h3)];exact QaN H S I ls (pre++[l.1]) _ _ (by rw[E,LC];rfl) (λy hy=>by rw[←Option.some.inj hy,Lh,LA];omega) h
theorem QaL {sz sz' co:LI}(H:co.Nodup) (I:sz'.length=co.length):∀(ls:List (Int×Int)) (pre:LI) (pr G:Option Int),co=pre++ls.map (·.1)→(∀y,G=some y→y<(pre.length:Int))→YT sz pr ls=0→YT sz' G (jj co ls)=0
 | [],_,_,_,_,_,_=>rfl
 | l::ls,pre,pr,G,hc,hp,h=>by
  have E:co=pre++l.1::ls.map (·.1):=hc;have e1:co.idxOf l.1=pre.length:=by rw[E];exact Qdo (by rw[←E];exact H)
  have S:pre.length<co.length:=by rw[E];simp
  have J:jj co (l::ls)=(((pre.length:Nat):Int),l.2)::jj co ls:=by rw[←e1];rfl
  rw[YT] at h;split at h
  ·cases h
  split at h
  ·cases h
  split at h
  ·cases h
  rename_i h3;rw[J,YT];simp only[];rw[if_neg (by omega),if_neg (QgD hp),if_neg h3];exact QaL H I ls (pre++[l.1]) _ _ (by rw[E,LC];rfl) (λy hy=>by rw[←Option.some.inj hy,Lh,LA];omega) h
theorem Qcz (l:List Yp) (i:Nat):cget (Proofs.YtdffckgdcegpaaaGreatDoor.szs l) i=(l.getD i dI).a.st:=by
 unfold cget Proofs.YtdffckgdcegpaaaGreatDoor.szs;rw[LQ,MR,LQ];cases l[i]? <;> rfl
theorem JJ (l:List Yp) (ix:LI):(chs l ix).length=ix.length:=by unfold chs;rw[Le]
theorem Ql2 {l:List Yp}{ix:LI}{k:Nat}(h:k<ix.length):(chs l ix).getD k dI=l.getD (cget ix k).toNat dI:=by
 have h1:k<(chs l ix).length:=by rw[JJ];exact h
 rw[ZS h1,←Za h];show (ix.map λi:Int=>l.getD i.toNat dI)[k]'(by rw[Le];exact h)=_;rw[LL]
theorem Qj0 {l:List Yp}{ix:LI}:∀k,k<ix.length→cget (Proofs.YtdffckgdcegpaaaGreatDoor.szs (chs l ix)) k=cget (Proofs.YtdffckgdcegpaaaGreatDoor.szs l) (cget ix k).toNat:=λk hk=>by
 rw[Qcz,Qcz,Ql2 hk]
theorem QhI {l:List Yp}{ix:LI}(hb:∀i∈ix,0≤i∧i<(l.length:Int)) {x:Yp}(hx:x∈chs l ix):x∈l:=by
 unfold chs at hx;obtain ⟨i,hi,rfl⟩:=Lp.1 hx;have h1:=hb i hi;have h2:i.toNat<l.length:=by omega
 have e:l.getD i.toNat dI=l[i.toNat]'h2:=ZS h2 dI;rw[e];exact Lc h2
theorem jm {l:LI}(h:Z0 l):l.Nodup:=List.Pairwise.imp (λh=>by omega) h
theorem Ql1 {l:List Yp}{ix:LI}(hi:Z0 ix) (hb:∀i∈ix,0≤i∧i<(l.length:Int)) (I:(l.map (·.nm)).Nodup):((chs l ix).map (·.nm)).Nodup:=by
 unfold chs;rw[Mj];unfold List.Nodup;rw[Ms];refine List.Pairwise.imp_of_mem (λ{i j} h1 h2 J e=>J ?_) (jm hi);have S:=hb i h1;have V:=hb j h2;have E:i.toNat<l.length:=by omega
 have G:j.toNat<l.length:=by omega
 have H:(l.getD i.toNat dI).nm=(l.getD j.toNat dI).nm:=e;rw[ZS E,ZS G] at H;have:=Qgi I (i:=i.toNat) (j:=j.toNat) (by simpa using E) (by simpa using G) (by rw[List.getElem_map,List.getElem_map];exact H);omega
theorem yC {c:Q8}(h:Jb c) {co:LI}{rq:List Yp}{ex:List jF}{cs:List Xr}(hi:Z0 co) (hb:∀i∈co,0≤i∧i<(c.co.length:Int)) (J:co≠[]) (S:rq.length≤1)
  (E:∀x∈rq,x∈c.rq∧∀e∈x.a.al,∃y∈chs c.co co,e∈y.a.al) (V:ex.length≤1) (Y:∀x∈ex,YG x.nm=true∧x.ls≠[]∧Yv (Proofs.YtdffckgdcegpaaaGreatDoor.szs (chs c.co co)) none x.ls=0)
  (hc:cs.length≤1) (he:∀x∈cs,YG x.nm=true∧Yw (Proofs.YtdffckgdcegpaaaGreatDoor.szs (chs c.co co)) x=0):Jb ⟨c.ev,chs c.co co,rq,ex,cs⟩:=by
 have G:=MD.1 h.nd;have H:∀{α:Type} (l:List α),l.length≤1→l.Nodup:=λl hl=>by
  match l,hl with
  | [],_=>exact MH
  | [x],_=>simp
  | x::y::l,hl=>simp at hl
 have hg:=pig c.co.length co (jm hi) hb;have h3:=h.c3;refine ⟨h.ev,?_,?_,?_,λx hx=>h.co x (QhI hb hx),λx hx=>?_,?_,?_,Y,H _ (by rw[Le];exact V),hc,he⟩
 ·show (chs c.co co).length≠0;rw[JJ];exact λe=>J (Ln e)
 ·show (chs c.co co).length≤3;rw[JJ];omega
 ·show rq.length≤2;omega
 ·have I:=h.rq x (E x hx).1;exact ⟨I.1,I.2.1,(E x hx).2⟩
 ·show ((chs c.co co).map (·.nm)++rq.map (·.nm)).Nodup;refine MD.2 ⟨Ql1 hi hb G.1,H _ (by rw[Le];exact S),λa ha b hf=>?_⟩;obtain ⟨x,hx,rfl⟩:=Lp.1 ha;obtain ⟨y,hy,rfl⟩:=Lp.1 hf;exact G.2.2 _ (Lp.2 ⟨x,QhI hb hx,O⟩) _ (Lp.2 ⟨y,(E y hy).1,O⟩)
 show ex.length≤2;omega
theorem qq (c:Q8) (k:Nat):prt (yK c k)=⟨(yK c k).co,[(k:Int)],[],[]⟩:=rfl
theorem QbE (c:Q8) (k:Nat):prt (KY c k)=⟨(KY c k).co,[],[(k:Int)],[]⟩:=rfl
theorem QbF (c:Q8) (k:Nat):prt (KZ c k)=⟨(KZ c k).co,[],[],[(k:Int)]⟩:=rfl
theorem Qgs (c:Q8) (k:Nat):YK c (yK c k)=⟨c.ev,chs c.co (yK c k).co,[c.rq.getD k dI],[],[]⟩:=rfl
theorem Qkq (c:Q8) (k:Nat):YK c (KY c k)=⟨c.ev,chs c.co (KY c k).co,[],[⟨(c.ex.getD k ⟨.empty,[]⟩).nm,jj (KY c k).co (c.ex.getD k ⟨.empty,[]⟩).ls⟩],[]⟩:=rfl
theorem Qkr (c:Q8) (k:Nat):YK c (KZ c k)=⟨c.ev,chs c.co (KZ c k).co,[],[],[⟨(c.cs.getD k ⟨.empty,[],0⟩).nm,jj (KZ c k).co (c.cs.getD k ⟨.empty,[],0⟩).ts,(c.cs.getD k ⟨.empty,[],0⟩).bd⟩]⟩:=rfl
theorem Qdi (co:LI) (ls:List (Int×Int)):(jj co ls).length=ls.length:=by unfold jj;rw[Le]
theorem jb {c:Q8}(h:Jb c) {m:YO}(hm:m∈mods c) (E:m.co≠[]):Jb (YK c m):=by
 obtain ⟨hi,hb⟩:=JC h hm;rcases Kt h hm with ⟨k,hk,e⟩ | ⟨k,hk,e⟩ | ⟨k,hk,e⟩
 ·subst e;rw[Qgs];refine yC h hi hb E (Lt 1) (λx hx=>?_) (Ll _) nofun (Ll _) nofun;rw[La.1 hx,ZS hk];refine ⟨Lc hk,λe he=>?_⟩;obtain ⟨y,hy,J⟩:=(h.rq _ (Lc hk)).2.2 e he;obtain ⟨j,G,rfl⟩:=LD hy;refine ⟨c.co[j]'G,?_,J⟩;unfold chs
  refine Lp.2 ⟨(j:Int),(JD _ _ _ _).2 ⟨j,G,by rw[LG],?_⟩,ZS G dI⟩;rw[ZS hk];unfold mts;exact Mr.2 ⟨e,he,decide_eq_true J⟩
 ·subst e;rw[Qkq];have hx:=h.ex _ (Lc hk);refine yC h hi hb E (Ll _) nofun (Lt 1) (λx H=>?_) (Ll _) nofun;rw[La.1 H,ZS hk]
  refine ⟨hx.1,λe=>hx.2.1 (Ln (by have h9:=congrArg List.length (show jj (KY c k).co (c.ex[k]'hk).ls=[] from e);rwa [Qdi] at h9)),QaN (jm hi) (by rw[UK,JJ]) Qj0 _ [] none none ?_ nofun hx.2.2⟩;unfold KY;rw[ZS hk];rfl
 subst e;rw[Qkr];have hx:=h.cs _ (Lc hk);have I:=Qna hx.2;refine yC h hi hb E (Ll _) nofun (Ll _) nofun (Lt 1) (λx H=>?_);rw[La.1 H,ZS hk];refine ⟨hx.1,?_⟩;have S:=QaL (sz':=Proofs.YtdffckgdcegpaaaGreatDoor.szs (chs c.co (KZ c k).co)) (jm hi) (by rw[UK,JJ]) _ [] none none (by unfold KZ;rw[ZS hk];rfl) nofun I.2.1;unfold Yw
 simp only[];rw[Qdi,if_neg I.1,if_neg (not_not_intro S),if_neg (by rw[I.2.2];decide)]
theorem Qgp {co:LI}{ls:List (Int×Int)}(h:co=ls.map (·.1)):mis co ls=false:=by
 unfold mis;rw[M7];intro l hl;have h1:l.1∈co:=by rw[h];exact Lp.2 ⟨l,hl,O⟩
 simpa using h1
theorem jz {n:Int}{k:Nat}(h:(k:Int)<n):Xp n none [(k:Int)]=0 :=
 (Yu _ _ _).2 ⟨λx hx=>by rw[La.1 hx];omega,MX ..,nofun⟩
theorem Qlq {c:Q8}(h:Jb c) {m:YO}(hm:m∈mods c):qe c (prt m)=Zb (YK c m):=by
 obtain ⟨hi,hb⟩:=JC h hm;have h1:Xp c.co.length none (prt m).co=0:=(Yu _ _ _).2 ⟨hb,hi,nofun⟩;have key:Xp c.rq.length none (prt m).rq=0∧Xp c.ex.length none (prt m).ex=0∧Xp c.cs.length none (prt m).cs=0∧QfJ c (prt m)=false:=by
  rcases Kt h hm with ⟨k,hk,e⟩ | ⟨k,hk,e⟩ | ⟨k,hk,e⟩
  ·subst e;exact ⟨jz (by omega),O,O,O⟩
  ·subst e;refine ⟨rfl,jz (by omega),O,?_⟩;unfold QfJ;rw[QbE];simp only[List.any_cons,List.any_nil,Bool.or_false,Int.toNat_natCast];exact Qgp O
  subst e;refine ⟨rfl,O,jz (by omega),?_⟩;unfold QfJ;rw[QbF];simp only[List.any_cons,List.any_nil,Bool.or_false,Bool.false_or,Int.toNat_natCast];exact Qgp O
 unfold qe;rw[if_neg (not_not_intro h.ck),if_neg (not_not_intro h1),if_neg (not_not_intro key.1),if_neg (not_not_intro key.2.1),if_neg (not_not_intro key.2.2.1),if_neg (by rw[key.2.2.2];decide)];rfl
theorem Qlr {c:Q8}(h:Jb c) {m:YO}(E:m.co=[]):Zb (YK c m)=12:=by
 obtain ⟨ns,_,G⟩:=h.ev;have e1:Je (YK c m).ev=0:=by
  show Je c.ev=0;rw[G];exact QaB ns
 have e2:(YK c m).co.length=0:=by
  show (chs c.co (prt m).co).length=0;rw[JJ];show m.co.length=0;rw[E];rfl
 unfold Zb;rw[if_neg (not_not_intro e1),if_pos e2]
theorem Yh {c:Q8}(h:Jb c):(∀a∈auts c.co++auts c.rq,GdA a):=λa ha=>by
 rcases Lj.1 ha with ha | ha
 ·obtain ⟨x,hx,rfl⟩:=Lp.1 ha;exact (h.co x hx).2.1
 obtain ⟨x,hx,rfl⟩:=Lp.1 ha;exact (h.rq x hx).2.1
theorem Zx (l:List Yp):(auts l).length=l.length:=by unfold auts;rw[Le]
theorem qL {aa:List QN}(h:∀a∈aa,GdA a) (hl:aa.length≤5):KB aa=0∧∃z,sync aa=some z:=by
 refine ⟨?_,Qff (k:=3) (λa ha=>(h a ha).ok) (λa ha=>(h a ha).s) ?_⟩
 ·unfold KB;rw[if_neg (by omega)];exact (VM _).2 λa ha=>(h a ha).ok
 exact LS (Nat.pow_le_pow_right (by omega) hl) (by decide)
theorem VJ {c:Q8}(h:Jb c):∃pl ps sa ts,sync (auts c.co)=some (pl,ps)∧sync (auts c.co++auts c.rq)=some (sa,ts)∧Yz c=0:=by
 have h3:=h.c3;have h2:=h.r2;have E:=Yh h;obtain ⟨k1,⟨pl,ps⟩,e1⟩:=qL (aa:=auts c.co) (λa ha=>E a (Lz _ ha)) (by rw[Zx];omega);obtain ⟨k2,⟨sa,ts⟩,e2⟩:=qL (aa:=auts c.co++auts c.rq) E (by rw[Lh,Zx,Zx];omega);refine ⟨pl,ps,sa,ts,e1,e2,?_⟩;unfold Yz;rw[if_neg (not_not_intro h.ck),if_neg (not_not_intro k1),e1];simp only[];rw[if_neg (not_not_intro k2),e2]
def cA (c:Q8) (i:Nat):QN:=(auts c.co++auts c.rq).getD i ⟨[],0,[],[]⟩
def Kw (c:Q8):Nat:=c.co.length+c.rq.length
def mI (c:Q8) (m:YO):LN:=m.co.map Int.toNat++(prt m).rq.map λi=>c.co.length+i.toNat
def tpl (n:Nat) (x:Nat→Int):LI:=(List.range n).map x
theorem QhQ {c:Q8}{i:Nat}(h:i<c.co.length):cA c i=(c.co.getD i dI).a:=by
 have h1:i<(auts c.co).length:=by rw[Zx];exact h
 unfold cA;rw[LQ,L3 h1,ZS h];unfold auts;simp[h]
theorem Qky {c:Q8}{k:Nat}(h:k<c.rq.length):cA c (c.co.length+k)=(c.rq.getD k dI).a:=by
 have h1:(auts c.co).length≤c.co.length+k:=by rw[Zx];omega
 unfold cA;rw[LQ,Mt h1,Zx,ML,ZS h];unfold auts;simp[h]
theorem QhR (c:Q8):auts c.co++auts c.rq=(List.range (Kw c)).map (cA c):=by
 refine L5 (by rw[Lh,Zx,Zx,Le,List.length_range];rfl) λi h1 h2=>?_;rw[LL,M1];unfold cA;rw[ZS h1]
theorem QhP (c:Q8):auts c.co=(List.range c.co.length).map (cA c):=by
 refine L5 (by rw[Zx,Le,List.length_range]) λi h1 h2=>?_;have h3:i<c.co.length:=by rw[Zx] at h1;exact h1
 rw[LL,M1,QhQ h3,ZS h3];show (c.co.map (·.a))[i]'(by rw[Le];exact h3)=_;rw[LL]
theorem QhO {c:Q8}(h:Jb c) {i:Nat}(hi:i<Kw c):GdA (cA c i):=by
 have h1:i<(auts c.co++auts c.rq).length:=by rw[Lh,Zx,Zx];exact hi
 unfold cA;rw[ZS h1];exact Yh h _ (Lc h1)
theorem QmO {c:Q8}(h:Jb c) {m:YO}(hm:m∈mods c):∀i∈mI c m,i<Kw c:=λi hi=>by
 unfold Kw;rcases Lj.1 hi with hi | hi
 ·obtain ⟨j,E,rfl⟩:=Lp.1 hi;have:=(JC h hm).2 j E;omega
 rcases Kt h hm with ⟨k,hk,e⟩ | ⟨k,hk,e⟩ | ⟨k,hk,e⟩
 ·subst e;rw[qq] at hi;have:i=c.co.length+k:=by simpa using hi
  omega
 ·subst e;rw[QbE] at hi;cases hi
 subst e;rw[QbF] at hi;cases hi
theorem Qks {c:Q8}(h:Jb c) {m:YO}(hm:m∈mods c):auts (YK c m).co=(m.co.map Int.toNat).map (cA c):=by
 show auts (chs c.co m.co)=_;unfold auts chs;rw[Mj,Mj];refine Na λi hi=>?_;have h1:=(JC h hm).2 i hi;show (c.co.getD i.toNat dI).a=cA c i.toNat;rw[QhQ (by omega)]
theorem Ku {c:Q8}(h:Jb c) {m:YO}(hm:m∈mods c):auts (YK c m).co++auts (YK c m).rq=(mI c m).map (cA c):=by
 unfold mI;rw[Lu,Qks h hm];congr 1;rcases Kt h hm with ⟨k,hk,e⟩ | ⟨k,hk,e⟩ | ⟨k,hk,e⟩
 ·subst e;rw[qq,Qgs];show [(c.rq.getD k dI).a]=[cA c (c.co.length+k)];rw[Qky hk]
 ·subst e;rfl
 subst e;rfl
theorem Qgv {c:Q8}(h:Jb c) {i:Nat}(hi:i<Kw c):(∃m∈mods c,i∈mI c m)∨i<c.co.length∧(i:Int)∈rem c:=by
 by_cases hc:i<c.co.length
 ·by_cases E:(i:Int)∈rem c
  ·exact .inr ⟨hc,E⟩
  left;rw[QcR (by have:=h.c3;omega),UN] at E;by_cases H:∃m∈mods c,(i:Int)∈m.co
  ·obtain ⟨m,hm,G⟩:=H;exact ⟨m,hm,Lz _ (Lp.2 ⟨(i:Int),G,O⟩)⟩
  exact absurd ⟨⟨by omega,by omega⟩,λm hm G=>H ⟨m,hm,G⟩⟩ E
 left;have hk:i - c.co.length<c.rq.length:=by unfold Kw at hi;omega
 refine ⟨yK c (i - c.co.length),Qk2 h hk,LU _ ?_⟩;rw[qq];refine Lp.2 ⟨_,La.2 O,?_⟩;rw[LY];omega
abbrev mB (c:Q8) (m:YO):QN:=(spc (YK c m)).a
abbrev mQ (c:Q8) (m:YO):List (LI):=YV (auts (YK c m).co++auts (YK c m).rq)
abbrev mL (c:Q8) (m:YO):Lf:=J5 (mB c m) (fbs (spc (YK c m))) (unc c.ev)
theorem Jd {c:Q8}(h:Jb c):SyP (auts c.co++auts c.rq) (spc c).a (YV (auts c.co++auts c.rq))∧SyP (auts c.co) (XN (auts c.co)) (YV (auts c.co))∧0<(spc c).a.st∧0<(XN (auts c.co)).st ∧
  spc c=⟨(spc c).a,(YV (auts c.co++auts c.rq)).map (·.take c.co.length),(YV (auts c.co++auts c.rq)).map (·.drop c.co.length),(YV (auts c.co++auts c.rq)).map (λt=>plx (YV (auts c.co)) (t.take c.co.length)),spF c (XN (auts c.co)) (YV (auts c.co)) (YV (auts c.co++auts c.rq))⟩:=by
 obtain ⟨pl,ps,sa,ts,e1,e2,_⟩:=VJ h;have he:=yE e1 e2;have E:=Yh h;have a1:XN (auts c.co)=pl:=by unfold XN;rw[e1]
 have a2:YV (auts c.co)=ps:=by unfold YV;rw[e1]
 have a4:YV (auts c.co++auts c.rq)=ts:=by unfold YV;rw[e2]
 have G:(spc c).a=sa:=by rw[he]
 have H:=Yj (λa ha=>(E a ha).ok) e2;have I:=Yj (λa ha=>(E a (Lz _ ha)).ok) e1;have J:ts.length≠0:=λe=>by
  obtain ⟨a,ha,e0⟩:=H.2.1 e;have:=(E a ha).p;omega
 have S:ps.length≠0:=λe=>by
  obtain ⟨a,ha,e0⟩:=I.2.1 e;have:=(E a (Lz _ ha)).p;omega
 have V:=H.1.st;have Y:=I.1.st;refine ⟨by rw[G,a4];exact H.1,by rw[a1,a2];exact I.1,by rw[G];omega,by rw[a1];omega,?_⟩;rw[a1,a2,a4,G];exact he
structure zz (c:Q8) (x:Nat→Int) (t:LI):Prop where
 l:t.length=(mods c).length+(rem c).length
 m:∀k (h:k<(mods c).length),yr (mB c ((mods c)[k]'h)) (mQ c ((mods c)[k]'h)) (mL c ((mods c)[k]'h)) ((mI c ((mods c)[k]'h)).map x) (cget t k)
 r:∀k (h:k<(rem c).length),cget t ((mods c).length+k)=x ((rem c)[k]'h).toNat
theorem Y8 (c:Q8):(Yx c).length=(mods c).length+(rem c).length:=by
 show ((mods c).map (UT c)++(rem c).map (coA c)).length=_;rw[Lh,Le,Le]
theorem Qfs (c:Q8) {k:Nat}(h:k<(mods c).length) (h':k<(Yx c).length):(Yx c)[k]'h'=UT c ((mods c)[k]'h):=by
 have e:Yx c=(mods c).map (UT c)++(rem c).map (coA c):=rfl;simp only[e];rw[Mc (by simpa using h),LL]
theorem Qfr (c:Q8) {k:Nat}(h:k<(rem c).length) (h':(mods c).length+k<(Yx c).length):(Yx c)[(mods c).length+k]'h'=coA c ((rem c)[k]'h):=by
 have e:Yx c=(mods c).map (UT c)++(rem c).map (coA c):=rfl;simp only[e];rw[MQ (by simp)];simp
theorem jw {c:Q8}{i:Int}(h:i∈rem c):coA c i=cA c i.toNat:=by
 have h1:=qm i h;rw[QhQ (by omega)]
 first | done | rfl
structure TgP (c:Q8):Prop where
 d:Jb c
 n:∀m∈mods c,m.co≠[]
 s:∀a∈Yx c,a.st≠0
theorem TgP.sup {c:Q8}(h:TgP c) {m:YO}(hm:m∈mods c):UT c m=Yi (rstr (mB c m) (mL c m))∧lft (mL c m) 0=true∧Q2 (mB c m)∧0<(mB c m).st∧SyP (auts (YK c m).co++auts (YK c m).rq) (mB c m) (mQ c m)∧(∀a∈auts (YK c m).co++auts (YK c m).rq,Q2 a):=by
 have hd:=jb h.d hm (h.n m hm);have hs:=Jd hd;have E:=Yh hd;have h1:(UT c m).st≠0:=h.s _ (Lz _ (Lp.2 ⟨m,hm,O⟩));obtain ⟨_,h2,h3⟩:=Qfg h1;exact ⟨h3,h2,hs.1.okay (λa ha=>(E a ha).ok),hs.2.2.1,hs.1,λa ha=>(E a ha).ok⟩
theorem zz.step {c:Q8}(h:TgP c) {x:Nat→Int}{t u:LI}{v:Int}(ht:zz c x t) (hu:Zl v (Yx c) t=some u):zz c (nx v (cA c) x) u∧∀i,i<Kw c→(pst v (cA c i) (x i)).isSome=true:=by
 obtain ⟨h1,h2⟩:=(Yy v _ _ u (by rw[ht.l,Y8])).1 hu;rw[Y8] at h1;have hm:∀k (hk:k<(mods c).length),yr (mB c ((mods c)[k]'hk)) (mQ c ((mods c)[k]'hk)) (mL c ((mods c)[k]'hk)) ((mI c ((mods c)[k]'hk)).map (nx v (cA c) x)) (cget u k)∧∀i∈mI c ((mods c)[k]'hk),(pst v (cA c i) (x i)).isSome=true:=λk hk=>by
  have G:=Lc hk;have E:=h.sup G;have h3:=h2 k (by rw[Y8];omega);rw[Qfs c hk,E.1] at h3;obtain ⟨q',H,h5⟩:=yr.step E.2.2.2.2.2 E.2.2.2.2.1 E.2.2.1 E.2.2.2.1 (ht.m k hk) h3;rw[Ku h.d G] at H;obtain ⟨J,S⟩:=zJ H;rw[J] at h5;exact ⟨h5,S⟩
 have I:∀k (hk:k<(rem c).length),pst v (cA c ((rem c)[k]'hk).toNat) (x ((rem c)[k]'hk).toNat)=some (cget u ((mods c).length+k)):=λk hk=>by
  have h3:=h2 ((mods c).length+k) (by rw[Y8];omega);rw[Qfr c hk,ht.r k hk,jw (Lc hk)] at h3;exact h3
 refine ⟨⟨h1,λk hk=>(hm k hk).1,λk hk=>?_⟩,λi hi=>?_⟩
 ·have h3:=I k hk;unfold nx;rw[h3];rfl
 rcases Qgv h.d hi with ⟨m,V,Y⟩ | ⟨_,ha⟩
 ·obtain ⟨k,hk,e⟩:=LD V;exact (hm k hk).2 i (by rw[e];exact Y)
 obtain ⟨k,hk,e⟩:=LD ha;have h3:=I k hk;rw[e] at h3;rw[LY] at h3;rw[h3];rfl
theorem zz.init {c:Q8}(h:TgP c):zz c (λ_=>0) (List.replicate (Yx c).length 0):=by
 have G:∀k,cget (List.replicate (Yx c).length (0:Int)) k=0:=λk=>by
  unfold cget;rw[LQ,List.getElem?_replicate];split <;> rfl
 refine ⟨by rw[List.length_replicate,Y8],λk hk=>?_,λk hk=>G _⟩;have H:=Lc hk;have E:=h.sup H;have h1:=yr.init E.2.2.2.2.1 E.2.2.1 E.2.2.2.1 E.2.1;have e:(mI c ((mods c)[k]'hk)).map (λ_=>(0:Int))=List.replicate (auts (YK c ((mods c)[k]'hk)).co++auts (YK c ((mods c)[k]'hk)).rq).length 0:=by
  rw[Ku h.d H,Le];exact List.map_const' ..
 rw[G,e];exact h1
theorem QkN {n:Nat}{x y:Nat→Int}(h:tpl n x=tpl n y):∀i,i<n→x i=y i:=λi hi=>by
 have h1:cget (tpl n x) i=cget (tpl n y) i:=by rw[h]
 unfold tpl at h1;rw[yi (by simpa using hi),yi (by simpa using hi),M1] at h1;exact h1
theorem zz.uniq {c:Q8}(h:TgP c) {x y:Nat→Int}{t u:LI}(ht:zz c x t) (hu:zz c y u) (e:tpl (Kw c) x=tpl (Kw c) y):t=u:=by
 have H:=QkN e;refine L5 (by rw[ht.l,hu.l]) λk h1 h2=>?_;rw[Za h1,Za h2];have hl:=ht.l;by_cases hk:k<(mods c).length
 ·have I:=Lc hk;have E:=h.sup I;have a1:=ht.m k hk;have a2:=hu.m k hk;have e2:(mI c ((mods c)[k]'hk)).map x=(mI c ((mods c)[k]'hk)).map y:=Na λi hi=>H i (QmO h.d I i hi);rw[e2] at a1;exact yr.uniq E.2.2.2.2.1 E.2.2.1 E.2.2.2.1 a1 a2
 have G:k - (mods c).length<(rem c).length:=by omega
 have a1:=ht.r _ G;have a2:=hu.r _ G;rw[show (mods c).length+(k - (mods c).length)=k by omega] at a1 a2;rw[a1,a2];refine H _ ?_;have:=qm _ (Lc G);unfold Kw;omega
theorem Qfb {c:Q8}(h:Jb c) (S:∀m∈mods c,m.co≠[]):∃z,sync (Yx c)=some z:=by
 by_cases I:∃a∈Yx c,a.st=0
 ·unfold sync;rw[if_pos I];exact ⟨_,rfl⟩
 have G:TgP c:=⟨h,S,λa ha e=>I ⟨a,ha,e⟩⟩;have V:Kw c≤5:=by have:=h.c3;have:=h.r2;unfold Kw;omega
 have Y:3 ^ Kw c≤4096:=LS (Nat.pow_le_pow_right (by omega) V) (by decide);let Q:(Nat→Int)→LI→Prop:=λx t=>(∀i,i<Kw c→0≤x i∧x i<(cA c i).st)∧zz c x t;refine QcA (P:=λt=>∃x,Q x t) Y (λl hc hp=>?_) (λ_=>⟨λ_=>0,λi hi=>⟨M5 _,(QhO h hi).p⟩,zz.init G⟩) (λt ht v _ u hu=>?_)
 ·have he:∀t:LI,∃u:LI,t∈l→∃x,Q x t∧u=tpl (Kw c) x:=λt=>by
   by_cases ht:t∈l
   ·obtain ⟨x,hx⟩:=hp t ht;exact ⟨_,λ_=>⟨x,hx,O⟩⟩
   exact ⟨[],λe=>absurd e ht⟩
  obtain ⟨g,H⟩:=Classical.skolem.1 he;have E:∀t∈l,(g t).length=Kw c∧∀y∈g t,0≤y∧y<((3:Nat):Int):=λt ht=>by
   obtain ⟨x,hx,e⟩:=H t ht;rw[e];unfold tpl;refine ⟨by simp,λy hy=>?_⟩;obtain ⟨i,hi,rfl⟩:=Lp.1 hy;have J:i<Kw c:=MU.1 hi;have h1:=hx.1 i J;have h2:=(QhO h J).s;omega
  have h1:(l.map λt=>Ki 3 (g t)).Nodup:=by
   unfold List.Nodup;rw[Ms];refine List.Pairwise.imp_of_mem (λ{a b} ha hb hf e=>hf ?_) hc;have e2:g a=g b:=qU (by rw[(E a ha).1,(E b hb).1]) (E a ha).2 (E b hb).2 e;obtain ⟨x,hx,ex⟩:=H a ha;obtain ⟨y,hy,ey⟩:=H b hb;exact zz.uniq G hx.2 hy.2 (by rw[←ex,←ey,e2])
  have h2:=pig (3 ^ Kw c) _ h1 (λu hu=>by
   obtain ⟨t,ht,rfl⟩:=Lp.1 hu;have h3:=js (E t ht).2;rw[(E t ht).1] at h3;exact h3)
  rw[Le] at h2;exact h2
 obtain ⟨x,hh,hj⟩:=ht;obtain ⟨h1,h2⟩:=zz.step G hj hu;exact ⟨_,λi hi=>Qla (QhO h hi).ok (hh i hi) (yZ (h2 i hi)),h1⟩
theorem y7 {c:Q8}(h:Jb c) {m:YO}(hm:m∈mods c):(m.co=[]→zX c m=12)∧(m.co≠[]→zX c m=0):=by
 have H:mdE c m=0:=Qjd h (by rw[←h.lmd];exact hm);have G:mcE c m=Zb (YK c m):=by unfold mcE;rw[if_neg (not_not_intro H),Qlq h hm]
 constructor
 ·intro E;unfold zX;rw[G,Qlr h E];rfl
 intro E;have hd:=jb h hm E;obtain ⟨_,_,_,_,_,_,e⟩:=VJ hd;unfold zX;rw[G,hd.ck,if_neg (by decide)];exact e
theorem Qgk {c:Q8}:∀(l:List YO),(∀m∈l,zX c m=0∨zX c m=12)→msL c l=0∨msL c l=12
 | [],_=>.inl O
 | m::l,h=>by
  rw[qy];split
  ·exact h m Lm
  exact Qgk l λq hq=>h q (Lk _ hq)
theorem Qlo {c:Q8}(h:Jb c):(mods c).length≤5:=by
 have h2:=h.r2;have h3:=h.x2;have E:=h.k1;rw[h.lmd];unfold lmd;rw[Lh,Lh,Qdd,jd,jd,Le,Le];omega
theorem Qfd {c:Q8}(h:Jb c):zn c=0∨zn c=12:=by
 have G:JU c=msL c (mods c):=by rw[yB,if_neg (not_not_intro h.ck)]
 have H:=Qgk (c:=c) (mods c) λm hm=>by
  by_cases E:m.co=[]
  ·exact .inr ((y7 h hm).1 E)
  exact .inl ((y7 h hm).2 E)
 rw[Qfc];by_cases h1:JU c≠0
 ·rw[if_pos h1,G];exact H
 rw[if_neg h1];left;have h2:JU c=0:=Ls.1 h1;have I:=Vr (c:=c) (l:=mods c) (by rw[←G];exact h2);obtain ⟨z,e⟩:=Qfb h (λm hm E=>by
  have:=I m hm;rw[(y7 h hm).1 E] at this;cases this)
 have J:KB (Yx c)=0:=by
  have h3:=Qlo h;have S:=QcO (mods c) c.co.length;have h5:=h.c3;unfold KB;rw[if_neg (by rw[Y8,QcR (by omega)];omega)];exact (VM _).2 (Ji h2)
 unfold J2;rw[if_neg (not_not_intro J),e]
theorem Qix {c:Q8}(h:Jb c) (G:zn c=0) (h1:(Jw c).st≠0):TgP c:=by
 have E:=UJ G;have H:JU c=msL c (mods c):=by rw[yB,if_neg (not_not_intro h.ck)]
 refine ⟨h,λm hm e=>?_,λa ha e=>?_⟩
 ·have:=Vr (c:=c) (l:=mods c) (by rw[←H];exact E.1) m hm;rw[(y7 h hm).1 e] at this;cases this
 have h2:=Yj (Ji E.1) (QcB E.2).1;have h3:=h2.2.2 ⟨a,ha,e⟩;have I:(Jw c).st=((YV (Yx c)).length:Int):=h2.1.st;omega
theorem Ql7 {c:Q8}{i:Nat}:∀v,v∈(cA c i).al→i<Kw c:=λv E=>by
 refine Decidable.byContradiction λG=>?_;have h1:(auts c.co++auts c.rq).length≤i:=by rw[Lh,Zx,Zx];unfold Kw at G;omega
 unfold cA at E;rw[LQ,MT h1] at E;cases E
theorem Qkw {c:Q8}(h:Jb c) {v:Int}(I:v∈evs (auts c.co++auts c.rq)):v∈evs (auts c.co):=by
 have E:=Yh h;have G:∀a∈auts c.co,Q2 a:=λa ha=>(E a (Lz _ ha)).ok;obtain ⟨a,ha,H⟩:=(Yn (λa ha=>(E a ha).ok) v).1 I;rcases Lj.1 ha with ha | ha
 ·exact (Yn G v).2 ⟨a,ha,H⟩
 obtain ⟨x,hx,rfl⟩:=Lp.1 ha;obtain ⟨y,hy,J⟩:=(h.rq x hx).2.2 v H;exact (Yn G v).2 ⟨y.a,Lp.2 ⟨y,hy,O⟩,J⟩
theorem Qbm {v:Int}{aa bb:List QN}{t u:LI}(hl:t.length=(aa++bb).length) (h:Zl v (aa++bb) t=some u):Zl v aa (t.take aa.length)=some (u.take aa.length):=by
 obtain ⟨h1,h2⟩:=(Yy v _ _ u hl).1 h;rw[Lh] at h1 hl;have E:∀(l:LI) k,k<aa.length→cget (l.take aa.length) k=cget l k:=λl k hk=>by
  unfold cget;rw[LQ,List.getElem?_take_of_lt hk,←LQ]
 refine (Yy v _ _ _ (by rw[Lx];omega)).2 ⟨by rw[Lx];omega,λk hk=>?_⟩;have h3:=h2 k (by rw[Lh];omega);rw[Mc hk] at h3;rw[E t k hk,E u k hk];exact h3
theorem Qf0 {c:Q8}(h:Jb c):∀t∈YV (auts c.co++auts c.rq),t.length=Kw c∧t.take c.co.length∈YV (auts c.co):=by
 obtain ⟨pl,ps,sa,ts,e1,e2,_⟩:=VJ h;have S:=Yh h;have hs:=Jd h;have a4:YV (auts c.co++auts c.rq)=ts:=by unfold YV;rw[e2]
 have E:(auts c.co++auts c.rq).length=Kw c:=by rw[Lh,Zx,Zx];rfl
 have G:(auts c.co).length=c.co.length:=Zx _;have hp:=hs.2.2.2.1;have V:=hs.2.1.st;have H:0<(YV (auts c.co)).length:=by omega
 have key:=Qfe (P:=λt=>t.length=Kw c∧t.take c.co.length∈YV (auts c.co)) e2 (by
  refine ⟨by rw[List.length_replicate,E],?_⟩;rw[List.take_replicate,E,show min c.co.length (Kw c)=c.co.length by unfold Kw;omega];have h1:=hs.2.1.hd H;rw[G] at h1;rw[←h1];exact (YD H).2) (λt ht v J u hu=>by
  have h1:t.length=(auts c.co++auts c.rq).length:=by rw[ht.1,E]
  refine ⟨by rw[((Yy v _ _ u h1).1 hu).1,E],?_⟩;have h2:=Qbm h1 hu;rw[G] at h2;have I:=LZ ht.2;have h3:(YV (auts c.co)).getD ((YV (auts c.co)).idxOf (t.take c.co.length)) []=t.take c.co.length:=by
   rw[(YD I).1,List.getElem_idxOf]
  exact hs.2.1.cl _ I v (Qkw h J) _ (by rw[h3];exact h2))
 intro t ht;rw[a4] at ht;exact key t ht
theorem QbH {c:Q8}(_h:Jb c) {t:LI}(ht:t∈YV (auts c.co)):plx (YV (auts c.co)) t=((YV (auts c.co)).idxOf t:Int)∧(YV (auts c.co)).idxOf t<(YV (auts c.co)).length∧(YV (auts c.co)).getD ((YV (auts c.co)).idxOf t) []=t:=by
 have E:=LZ ht;refine ⟨by unfold plx;rw[if_pos ht],E,by rw[(YD E).1,List.getElem_idxOf]⟩
theorem qV {a:QN}(E:Q2 a) (x v:Int):v∈enb a x↔(eget a.ed x v).isSome=true:=by rw[Qdy E,KT E]
theorem QlL {c:Q8}(h:Jb c) {s:Nat}(hs:s<(YV (auts c.co++auts c.rq)).length) (G:(rsn c (XN (auts c.co)) (plx (YV (auts c.co)) (((YV (auts c.co++auts c.rq)).getD s []).take c.co.length)) s ((YV (auts c.co++auts c.rq)).getD s [])).isSome=true):(s:Int)∈fbs (spc c):=by
 have he:=(Jd h).2.2.2.2;obtain ⟨r,E⟩:=Me.1 G;unfold fbs;rw[he];refine Lp.2 ⟨r,?_,?_⟩
 ·unfold spF;refine My.2 ⟨((YV (auts c.co++auts c.rq)).getD s [],s),?_,E⟩;rw[List.mem_zipIdx_iff_getElem?,(YD hs).1];exact LB hs
 unfold rsn at E;split at E
 ·cases E;rfl
 split at E
 ·cases E;rfl
 cases E
theorem Qds {α:Type}{q:α→Bool}{l:List α}{i:Nat}(h:∃x∈l,q x=true):0≤fix q i l:=by
 have h1:=VF q l i;rw[Mr.2 h] at h1;exact of_decide_eq_true h1
theorem Qdt {α:Type}{q:α→Bool}{l:List α}{i:Nat}(h:0≤fix q i l):∃k,∃hk:k<l.length,q (l[k]'hk)=true:=by
 have h1:=VF q l i;rw[decide_eq_true h] at h1;obtain ⟨x,hx,hq⟩:=Mr.1 h1.symm;obtain ⟨k,hk,e⟩:=LD hx;exact ⟨k,hk,by rw[e];exact hq⟩
theorem QkH {c:Q8}{t:LI}(h:∃x∈c.ex,Jh t x=true):(vio c t).isSome=true:=by
 unfold vio;rw[if_pos (Qds h)];rfl
theorem QkI {c:Q8}{t:LI}(h:∃x∈c.cs,JT t x=true):(vio c t).isSome=true:=by
 unfold vio;split
 ·rfl
 rw[if_pos (Qds h)];rfl
theorem QkG {c:Q8}{t:LI}{p:Int×Int}(h:vio c t=some p):(∃k,∃hk:k<c.ex.length,Jh t (c.ex[k]'hk)=true)∨∃k,∃hk:k<c.cs.length,JT t (c.cs[k]'hk)=true:=by
 unfold vio at h;split at h
 ·rename_i h1;exact .inl (Qdt h1)
 split at h
 ·rename_i h1;exact .inr (Qdt h1)
 cases h
theorem QiN {c:Q8}{pl:QN}{k:Int}{i:Nat}{t:LI}(h:(vio c (t.take c.co.length)).isSome=true):(rsn c pl k i t).isSome=true:=by
 obtain ⟨p,hp⟩:=Me.1 h;obtain ⟨a,b⟩:=p;unfold rsn;rw[hp];rfl
theorem QiO {c:Q8}{pl:QN}{k:Int}{i:Nat}{t:LI}(h:(rfd c (t.drop c.co.length) (zu pl k)).isSome=true):(rsn c pl k i t).isSome=true:=by
 obtain ⟨p,hp⟩:=Me.1 h;obtain ⟨a,b⟩:=p;unfold rsn;split
 ·rfl
 rw[hp];rfl
theorem Qk0 {c:Q8}{pl:QN}{k:Int}{i:Nat}{t:LI}{r:Rsn}(h:rsn c pl k i t=some r):r.st=(i:Int)∧(r.kd≠3→(vio c (t.take c.co.length)).isSome=true):=by
 unfold rsn at h;split at h
 ·rename_i e;cases h;exact ⟨O,λ_=>by rw[e];rfl⟩
 split at h
 ·cases h;exact ⟨O,λe=>absurd O e⟩
 cases h
theorem QcQ {c:Q8}{rs:LI}{v:Int}(E:0≤rfr v 0 c.rq rs) (hc:(c.ev.getD v.toNat ⟨.empty,false,false,false,0⟩).co=false):∀l:LI,v∈l→(rfd c rs l).isSome=true
 | w::l,h=>by
  rw[rfd];split
  ·rfl
  rename_i h1;rcases Lb.1 h with e | h
  ·subst e;exact absurd ⟨E,hc⟩ h1
  exact QcQ E hc l h
theorem yr.free {c:Q8}(h:TgP c) {m:YO}(hm:m∈mods c) {q:LI}{y:Int}(G:yr (mB c m) (mQ c m) (mL c m) q y):vio (YK c m) (q.take (YK c m).co.length)=none ∧
  rfd (YK c m) (q.drop (YK c m).co.length) (zu (XN (auts (YK c m).co)) (plx (YV (auts (YK c m).co)) (q.take (YK c m).co.length)))=none∧q∈mQ c m:=by
 obtain ⟨j,s,_,_,_,h3,H,h5⟩:=G;have hd:=jb h.d hm (h.n m hm);have I:(s:Int)∉fbs (spc (YK c m)):=λJ=>Qlt H _ J O;have E:∀e:(rsn (YK c m) (XN (auts (YK c m).co)) (plx (YV (auts (YK c m).co)) (((mQ c m).getD s []).take (YK c m).co.length)) s ((mQ c m).getD s [])).isSome=true,False:=λe=>I (QlL hd h3 e);rw[h5] at E;refine ⟨?_,?_,by rw[←h5];exact (YD h3).2⟩
 ·cases e:vio (YK c m) (q.take (YK c m).co.length) with
  | none=>rfl
  | some p=>exact absurd (QiN (by rw[e];rfl)) E
 cases e:rfd (YK c m) (q.drop (YK c m).co.length) (zu (XN (auts (YK c m).co)) (plx (YV (auts (YK c m).co)) (q.take (YK c m).co.length))) with
 | none=>rfl
 | some p=>exact absurd (QiO (by rw[e];rfl)) E
theorem Qdj {co:LI}{x:Nat→Int}{i:Int}(hi:i∈co):(co.map λi=>x i.toNat).getD ((co.idxOf i:Int)).toNat 0=x i.toNat:=by
 have hl:=LZ hi;have e:(co.map λi=>x i.toNat).getD (co.idxOf i) 0=x ((co[co.idxOf i]'hl).toNat):=by
  rw[ZS (by simpa using hl),LL]
 rw[List.getElem_idxOf] at e;rw[LY];exact e
theorem Qcx {n:Nat}{x:Nat→Int}{i:Nat}(h:i<n):(tpl n x).getD i 0=x i:=by
 unfold tpl;rw[ZS (by simpa using h),LL,M1]
theorem Qit {co:LI}{n:Nat}{x:Nat→Int}{nm:ByteArray}{q:jF}(hc:∀l∈q.ls,l.1∈co∧0≤l.1∧l.1<(n:Int)):Jh (co.map λi=>x i.toNat) ⟨nm,jj co q.ls⟩=Jh (tpl n x) q:=by
 have e:∀l∈q.ls,(co.map λi=>x i.toNat).getD ((co.idxOf l.1:Int)).toNat 0=(tpl n x).getD l.1.toNat 0:=λl hl=>by
  have:=hc l hl;rw[Qdj this.1,Qcx (by omega)]
 unfold Jh;rw[Bool.eq_iff_iff,Mk,Mk];constructor
 ·intro h l hl;have h1:=of_decide_eq_true (h (((co.idxOf l.1:Nat):Int),l.2) (Lp.2 ⟨l,hl,O⟩));refine decide_eq_true ?_;rw[←e l hl];exact h1
 intro h p hp;obtain ⟨l,hl,rfl⟩:=Lp.1 hp;have h1:=of_decide_eq_true (h l hl);refine decide_eq_true ?_;show (co.map λi=>x i.toNat).getD ((co.idxOf l.1:Int)).toNat 0=l.2;rw[e l hl];exact h1
theorem QcH {co T T':LI}:∀(ls:List (Int×Int)) (s:Int),(∀l∈ls,T.getD ((co.idxOf l.1:Int)).toNat 0=T'.getD l.1.toNat 0)→(jj co ls).foldl (λs p=>s+p.2*T.getD p.1.toNat 0) s=ls.foldl (λs p=>s+p.2*T'.getD p.1.toNat 0) s
 | [],_,_=>rfl
 | l::ls,s,h=>by
  show (jj co ls).foldl (λs p=>s+p.2*T.getD p.1.toNat 0) (s+l.2*T.getD ((co.idxOf l.1:Int)).toNat 0)=ls.foldl (λs p=>s+p.2*T'.getD p.1.toNat 0) (s+l.2*T'.getD l.1.toNat 0);rw[h l Lm];exact QcH ls _ λl hl=>h l (Lk _ hl)
theorem Qiu {co:LI}{n:Nat}{x:Nat→Int}{nm:ByteArray}{q:Xr}(hc:∀l∈q.ts,l.1∈co∧0≤l.1∧l.1<(n:Int)):JT (co.map λi=>x i.toNat) ⟨nm,jj co q.ts,q.bd⟩=JT (tpl n x) q:=by
 have e:=QcH (co:=co) (T:=co.map λi=>x i.toNat) (T':=tpl n x) q.ts 0 (λl hl=>by
  have:=hc l hl;rw[Qdj this.1,Qcx (by omega)])
 unfold JT QkQ;simp only[];rw[e]
theorem Qgt (c:Q8) (m:YO):(YK c m).co.length=m.co.length:=JJ _ _
theorem QbD (c:Q8) (m:YO) (x:Nat→Int):((mI c m).map x).take (YK c m).co.length=m.co.map λi=>x i.toNat:=by
 unfold mI;rw[Qgt,Lu,Mj,List.take_append_of_le_length (by simp),Lo (by simp)];rfl
theorem Qk8 (c:Q8) (m:YO) (x:Nat→Int):((mI c m).map x).drop (YK c m).co.length=(prt m).rq.map λi=>x (c.co.length+i.toNat):=by
 unfold mI;rw[Qgt,Lu,Mj,List.drop_append_of_le_length (by simp),List.drop_eq_nil_of_le (by simp),Mb,Mj];rfl
theorem zz.free {c:Q8}(h:TgP c) {x:Nat→Int}{t:LI}(ht:zz c x t):vio c (tpl c.co.length x)=none:=by
 cases e:vio c (tpl c.co.length x) with
 | none=>rfl
 | some p =>
  exfalso;have key:∀m∈mods c,vio (YK c m) (m.co.map λi=>x i.toNat)=none:=λm hm=>by
   obtain ⟨k,hk,ek⟩:=LD hm;have h1:=ht.m k hk;rw[ek] at h1;have h2:=(yr.free h hm h1).1;rw[QbD] at h2;exact h2
  rcases QkG e with ⟨k,hk,h1⟩ | ⟨k,hk,h1⟩
  ·have h2:=key _ (Qhi h.d hk);have hb:=JC h.d (Qhi h.d hk);have h3:(vio (YK c (KY c k)) ((KY c k).co.map λi=>x i.toNat)).isSome=true:=by
    rw[Qkq];refine QkH ⟨_,La.2 O,?_⟩;rw[Qit (n:=c.co.length) (λl hl=>?_),ZS hk]
    ·exact h1
    have E:l.1∈(KY c k).co:=Lp.2 ⟨l,hl,O⟩;exact ⟨E,hb.2 _ E⟩
   rw[h2] at h3;cases h3
  have h2:=key _ (Qhv h.d hk);have hb:=JC h.d (Qhv h.d hk);have h3:(vio (YK c (KZ c k)) ((KZ c k).co.map λi=>x i.toNat)).isSome=true:=by
   rw[Qkr];refine QkI ⟨_,La.2 O,?_⟩;rw[Qiu (n:=c.co.length) (λl hl=>?_),ZS hk]
   ·exact h1
   have E:l.1∈(KZ c k).co:=Lp.2 ⟨l,hl,O⟩;exact ⟨E,hb.2 _ E⟩
  rw[h2] at h3;cases h3
theorem QkK {c:Q8}{v:Int}(h:v∈unc c.ev):(c.ev.getD v.toNat ⟨.empty,false,false,false,0⟩).co=false:=by
 obtain ⟨k,hk,e,h1⟩:=(JD _ _ _ _).1 h;rw[LG] at e;rw[e,LY,ZS hk];simpa using h1
theorem zz.unc {c:Q8}(h:TgP c) {x:Nat→Int}{t:LI}(ht:zz c x t) {v:Int}(Y:v∈unc c.ev) (hc:∀i,i<c.co.length→(pst v (cA c i) (x i)).isSome=true):∃u,Zl v (Yx c) t=some u:=by
 refine U7 (by rw[ht.l,Y8]) λk hk=>?_;by_cases S:k<(mods c).length
 ·have he:=Lc S;have E:=h.sup he;have V:=ht.m k S;rw[Qfs c S,E.1];revert he E V;generalize (mods c)[k]'S=m;intro hm E V;have hn:(Yi (rstr (mB c m) (mL c m))).al=evs (auts (YK c m).co++auts (YK c m).rq):=(KP E.2.2.1 E.2.2.2.1 (mL c m)).al.trans E.2.2.2.2.1.al;unfold pst;by_cases I:v∈(Yi (rstr (mB c m) (mL c m))).al
  ·rw[if_pos I];rw[hn] at I;have hf:∀i∈m.co.map Int.toNat,(pst v (cA c i) (x i)).isSome=true:=λi hi=>by
    obtain ⟨j,hj,rfl⟩:=Lp.1 hi;have:=(JC h.d hm).2 j hj;exact hc _ (by omega)
   have ho:∀i∈mI c m,(pst v (cA c i) (x i)).isSome=true:=λi hi=>by
    rcases Lj.1 hi with hi | hi
    ·exact hf i hi
    cases hp:pst v (cA c i) (x i) with
    | some _=>rfl
    | none =>
     exfalso;have hd:=jb h.d hm (h.n m hm);obtain ⟨_,h2,h3⟩:=yr.free h hm V;rw[Qk8,QbD] at h2;have hg:=Qf0 hd _ h3;rw[QbD] at hg;obtain ⟨p1,p2,p3⟩:=QbH hd hg.2;have hl:=(Jd hd).2.1;have hq:=Yh hd;have hu:Q2 (XN (auts (YK c m).co)):=hl.okay λa ha=>(hq a (Lz _ ha)).ok;have hw:v∈zu (XN (auts (YK c m).co)) (plx (YV (auts (YK c m).co)) (m.co.map λi=>x i.toNat)):=by
      refine (qV hu _ v).2 ?_;have H:=KQ (v:=v) (A:=cA c) (x:=x) hf;rw[Mj (f:=Int.toNat) (g:=x)] at H;rw[←Qks h.d hm] at H;rw[p1,hl.step p2 v,p3,if_pos (Qkw hd I)];rw[show (m.co.map λi=>x i.toNat)=m.co.map (x ∘ Int.toNat) from rfl,H];rfl
     have hy:0≤rfr v 0 (YK c m).rq ((prt m).rq.map λi=>x (c.co.length+i.toNat)):=by
      rcases Kt h.d hm with ⟨k',G,e⟩ | ⟨k',G,e⟩ | ⟨k',G,e⟩
      ·subst e;have ei:i=c.co.length+k':=by rw[qq] at hi;simpa using hi
       rw[ei,Qky G] at hp;unfold pst at hp;split at hp
       ·rename_i hz;rw[Qgs,qq];show 0≤rfr v 0 [c.rq.getD k' dI] [x (c.co.length+((k':Nat):Int).toNat)];rw[j6,LY,if_pos ⟨hz,by rw[hp];rfl⟩];exact M5 _
       cases hp
      ·subst e;rw[QbE] at hi;cases hi
      subst e;rw[QbF] at hi;cases hi
     have J:=QcQ (c:=YK c m) hy (QkK Y) _ hw;rw[h2] at J;cases J
   have H:=KQ (v:=v) (A:=cA c) (x:=x) ho;rw[←Ku h.d hm] at H;exact yr.unc E.2.2.2.2.1 E.2.2.1 E.2.2.2.1 V I Y H
  rw[if_neg I];rfl
 have G:k - (mods c).length<(rem c).length:=by rw[Y8] at hk;omega
 have e:k=(mods c).length+(k - (mods c).length):=by omega
 have h1:=Qfr c G (by rw[←e];exact hk);have h2:=ht.r _ G;have hr:=Lc G;have h3:=qm _ hr;have J:=hc ((rem c)[k - (mods c).length]'G).toNat (by omega);rw[←jw hr,←h1,←h2] at J;have key:∀(a b:Nat) (ha:a<(Yx c).length) (hb:b<(Yx c).length),a=b→(pst v ((Yx c)[a]'ha) (cget t a)).isSome=true→(pst v ((Yx c)[b]'hb) (cget t b)).isSome=true:=by
  intro a b ha hb eab hh;subst eab;exact hh
 exact key _ _ _ _ e.symm J
theorem Qmz {c:Q8}(h:TgP c) {v:Int}(J:v∈evs (auts c.co)) (G:∀a∈Yx c,Q2 a):v∈evs (Yx c):=by
 have S:=Yh h.d;have V:∀a∈auts c.co,Q2 a:=λa ha=>(S a (Lz _ ha)).ok;obtain ⟨a,ha,H⟩:=(Yn V v).1 J;rw[QhP] at ha;obtain ⟨i,hi,rfl⟩:=Lp.1 ha;have hb:=MU.1 hi;rcases Qgv h.d (i:=i) (by unfold Kw;omega) with ⟨m,hm,Y⟩ | ⟨_,I⟩
 ·have E:=h.sup hm;refine (Yn G v).2 ⟨UT c m,Lz _ (Lp.2 ⟨m,hm,O⟩),?_⟩;rw[E.1,(KP E.2.2.1 E.2.2.2.1 (mL c m)).al.trans E.2.2.2.2.1.al];exact (Yn E.2.2.2.2.2 v).2 ⟨cA c i,by rw[Ku h.d hm];exact Lp.2 ⟨i,Y,O⟩,H⟩
 refine (Yn G v).2 ⟨coA c i,LU _ (Lp.2 ⟨(i:Int),I,O⟩),?_⟩;rw[jw I];exact H
structure jD (c:Q8) (i s:Nat):Prop where
 hi:i<(tgQ c).length
 hs:s<(YV (auts c.co++auts c.rq)).length
 x:∃x,zz c x ((tgQ c).getD i [])∧(YV (auts c.co++auts c.rq)).getD s []=tpl (Kw c) x
theorem U5 {n m:Nat}{x:Nat→Int}(h:m≤n):(tpl n x).take m=tpl m x:=by
 unfold tpl;rw[←List.map_take,List.take_range,MP h]
theorem jD.init {c:Q8}(h:Jb c) (E:zn c=0) (h1:(Jw c).st≠0):jD c 0 0:=by
 have J:=Qix h E h1;have G:=(yA E).1;have hs:=Jd h;have S:=G.st;have V:=hs.1.st;have Y:=hs.2.2.1;have H:0<(tgQ c).length:=by omega
 have I:0<(YV (auts c.co++auts c.rq)).length:=by omega
 refine ⟨H,I,λ_=>0,by rw[G.hd H];exact zz.init J,?_⟩;rw[hs.1.hd I];unfold tpl;rw[Lh,Zx,Zx,List.map_const',List.length_range];rfl
theorem jD.next {c:Q8}(h:Jb c) (I:zn c=0) (h1:(Jw c).st≠0) {i s:Nat}(E:jD c i s) {v:Int}(hv:v∈enb (Jw c) i) :
  ∃J S:Nat,nxt (Jw c).ed i v=(J:Int)∧nxt (spc c).a.ed s v=(S:Int)∧jD c J S:=by
 have V:=Qix h I h1;obtain ⟨Y,hj⟩:=yA I;have hs:=Jd h;have hk:=Ji (UJ I).1;obtain ⟨x,hl,hn⟩:=E.x;have h2:=(qV hj _ v).1 hv;have h3:=Y.step E.hi v;obtain ⟨y,hy⟩:=Me.1 h2;rw[hy] at h3;split at h3
 ·rename_i hc;obtain ⟨u,hu,e1⟩:=L9.1 h3.symm;have h4:=Y.to E.hi hc hu;obtain ⟨h5,h6⟩:=zz.step V hl hu;have h7:=KQ (v:=v) (A:=cA c) (x:=x) (is:=List.range (Kw c)) (λi hi=>h6 i (MU.1 hi));rw[←QhR] at h7;have he:v∈evs (auts c.co++auts c.rq):=by
   obtain ⟨a,ha,H⟩:=(Yn hk v).1 hc;have hg:=Yh h;have hf:∀i,v∈(cA c i).al→v∈evs (auts c.co++auts c.rq):=λi hi=>by
    refine (Yn (λa ha=>(hg a ha).ok) v).2 ⟨cA c i,?_,hi⟩;rw[QhR];exact Lp.2 ⟨i,MU.2 (Ql7 v hi),O⟩
   rcases Lj.1 (show a∈(mods c).map (UT c)++(rem c).map (coA c) from ha) with ha | ha
   ·obtain ⟨m,hm,rfl⟩:=Lp.1 ha;have G:=V.sup hm;rw[G.1,(KP G.2.2.1 G.2.2.2.1 (mL c m)).al.trans G.2.2.2.2.1.al,Ku h hm] at H;obtain ⟨b,hb,ho⟩:=(Yn (λa ha=>G.2.2.2.2.2 a (by rw[Ku h hm];exact ha)) v).1 H;obtain ⟨i,_,rfl⟩:=Lp.1 hb;exact hf i ho
   obtain ⟨i,hi,rfl⟩:=Lp.1 ha;rw[jw hi] at H;exact hf _ H
  have h8:=hs.1.step E.hs v;have hh:Zl v (auts c.co++auts c.rq) ((YV (auts c.co++auts c.rq)).getD s [])=some (tpl (Kw c) (nx v (cA c) x)):=by rw[hn];exact h7
  have h9:=hs.1.to E.hs he hh;rw[if_pos he,hh] at h8;refine ⟨(tgQ c).idxOf u,(YV (auts c.co++auts c.rq)).idxOf (tpl (Kw c) (nx v (cA c) x)),?_,?_,⟨h4.1,h9.1,nx v (cA c) x,by rw[h4.2];exact h5,h9.2⟩⟩
  ·rw[qv,hy,e1]
  rw[qv,h8];rfl
 cases h3
theorem jD.free {c:Q8}(h:Jb c) (J:zn c=0) (h1:(Jw c).st≠0) {i s:Nat}(G:jD c i s):∀r∈(spc c).fb,r.st=(s:Int)→r.kd=3:=λr H hb=>by
 have S:=Qix h J h1;obtain ⟨x,V,Y⟩:=G.x;have hf:=zz.free S V;have he:=(Jd h).2.2.2.2;rw[he] at H;have I:r∈spF c (XN (auts c.co)) (YV (auts c.co)) (YV (auts c.co++auts c.rq)):=H;unfold spF at I;obtain ⟨⟨t,k⟩,hp,h2⟩:=My.1 I;have h3:=Qk0 h2;have hk:k=s:=by
  have h5:r.st=(k:Int):=h3.1;omega
 subst hk;have h4:=List.mem_zipIdx_iff_getElem?.1 hp;have h5:t=tpl (Kw c) x:=by
  rw[←Y,(YD G.hs).1];have E:(YV (auts c.co++auts c.rq))[k]?=some t:=h4;rw[LB G.hs] at E;exact (Option.some.inj E).symm
 refine Decidable.byContradiction λha=>?_;have E:=h3.2 ha;have h7:t.take c.co.length=tpl c.co.length x:=by rw[h5,U5 (by unfold Kw;omega)]
 rw[h7,hf] at E;cases E
theorem QbJ {c:Q8}(h:Jb c) {s:Nat}(hs:s<(YV (auts c.co++auts c.rq)).length):(spc c).pl.length=(YV (auts c.co++auts c.rq)).length∧cget (spc c).pl s=plx (YV (auts c.co)) (((YV (auts c.co++auts c.rq)).getD s []).take c.co.length):=by
 have he:=(Jd h).2.2.2.2;have e2:(spc c).pl=(YV (auts c.co++auts c.rq)).map (λt=>plx (YV (auts c.co)) (t.take c.co.length)):=by rw[he]
 rw[e2];refine ⟨by rw[Le],?_⟩;rw[yi hs,(YD hs).1]
theorem jD.unc {c:Q8}(h:Jb c) (G:zn c=0) (h1:(Jw c).st≠0) {i s:Nat}(E:jD c i s) {v:Int}(S:v∈enb (XN (auts c.co)) (cget (spc c).pl s)) (V:v∈Proofs.YtdffckgdcegpaaaGreatDoor.unc c.ev):v∈enb (Jw c) i:=by
 have H:=Qix h G h1;obtain ⟨Y,hb⟩:=yA G;have hs:=Jd h;obtain ⟨x,hc,I⟩:=E.x;have hg:=Yh h;have he:Q2 (XN (auts c.co)):=hs.2.1.okay λa ha=>(hg a (Lz _ ha)).ok;have J:=Qf0 h _ (YD E.hs).2;rw[I,U5 (by unfold Kw;omega)] at J;obtain ⟨p1,p2,p3⟩:=QbH h J.2;have h2:=(qV he _ v).1 S;rw[(QbJ h E.hs).2,I,U5 (by unfold Kw;omega),p1,hs.2.1.step p2 v,p3] at h2
 split at h2
 ·rename_i hf;obtain ⟨y,hy⟩:=Me.1 h2;obtain ⟨u,hu,_⟩:=L9.1 hy;rw[QhP] at hu;have h3:=(zJ (show Zl v ((List.range c.co.length).map (cA c)) ((List.range c.co.length).map x)=some u from hu)).2;obtain ⟨u',hh⟩:=zz.unc H hc V (λi hi=>h3 i (MU.2 hi));refine (qV hb _ v).2 ?_;rw[Y.step E.hi v,if_pos (Qmz H hf (Ji (UJ G).1)),hh];rfl
 cases h2
theorem Qcb {a:QN}(h:Q2 a) {s:Int}(E:0≤s) (h1:s<a.st):cks a s=0:=by
 unfold cks;rw[if_neg (by rw[(ZE a).2 h];decide),if_neg (by omega)]
theorem QcI {a:QN}(h:Q2 a) {i t:Nat}{v:Int}(h1:(i:Int)<a.st) (E:nxt a.ed i v=(t:Int)):stp a i v=((t:Int),true,0):=by
 have h2:(eget a.ed i v).isSome=true:=(KT h _ _).1 (by omega);obtain ⟨u,hu⟩:=Me.1 h2;have G:v∈a.al:=(h.ed _ (YY hu)).2.2.1;unfold stp;rw[if_neg (by rw[Qcb h (by omega) h1];decide),if_neg (by simpa using G),if_pos (by omega),E]
theorem ye {a:QN}(E:Q2 a) (x:Int):(enb a x).length≤32:=by
 rw[Qb3 E];exact LS (Ma _ _) E.al_le
theorem Qlc {N:Nat}{H:Array Obj}{c:Q8}{va vt:Value}{e:Int}(h:Jb c) (hp:Uw N H c va vt e):e=0∧Y0 N H va (XN (auts c.co))∧∃l,Qa4 N H vt l:=by
 obtain ⟨pl,ps,sa,ts,e1,e2,_⟩:=VJ h;have E:=Yh h;have h3:=h.c3;have hk:=(qL (aa:=auts c.co) (λa ha=>E a (Lz _ ha)) (by rw[Zx];omega)).1;unfold Uw at hp;rw[if_neg (not_not_intro h.ck)] at hp;unfold Yb at hp;rw[if_neg (not_not_intro hk),e1] at hp;have G:XN (auts c.co)=pl:=by unfold XN;rw[e1]
 rw[G];exact ⟨hp.1,hp.2.1,_,hp.2.2⟩
structure TgF (c:Q8) (i s:Nat):Prop where
 ta:Q2 (Jw c)
 tp:Q2 (XN (auts c.co))
 a:cks (Jw c) i=0
 pl:s<(spc c).pl.length
 p:cks (XN (auts c.co)) (cget (spc c).pl s)=0
 ev:∀v∈enb (XN (auts c.co)) (cget (spc c).pl s),0≤v∧v.toNat<c.ev.length
 un:∀v∈enb (XN (auts c.co)) (cget (spc c).pl s),(c.ev.getD v.toNat ⟨.empty,false,false,false,0⟩).co=false→v∈enb (Jw c) i
 nx:∀v∈enb (Jw c) i,∃i' s':Nat,stp (Jw c) i v=((i':Int),true,0)∧stp (spc c).a s v=((s':Int),true,0)∧jD c i' s'
 fb:∀r∈(spc c).fb,r.st=(s:Int)→r.kd=3
theorem jD.facts {c:Q8}(h:Jb c) (I:zn c=0) (h1:(Jw c).st≠0) {i s:Nat}(E:jD c i s):TgF c i s:=by
 obtain ⟨hT,J⟩:=yA I;have hs:=Jd h;have S:=Yh h;have H:Q2 (XN (auts c.co)):=hs.2.1.okay λa ha=>(S a (Lz _ ha)).ok;have hc:Q2 (spc c).a:=hs.1.okay λa ha=>(S a ha).ok;have hi:(i:Int)<(Jw c).st:=by have:=E.hi;have:=hT.st;omega
 have he:(s:Int)<(spc c).a.st:=by have:=E.hs;have:=hs.1.st;omega
 have Y:∀v∈enb (XN (auts c.co)) (cget (spc c).pl s),0≤v∧v.toNat<c.ev.length:=λv G=>by
  have h2:=(qV H _ v).1 G;obtain ⟨u,hu⟩:=Me.1 h2;have V:v∈(XN (auts c.co)).al:=(H.ed _ (YY hu)).2.2.1;have h3:=(H.al v V).1;rw[hs.2.1.al] at V;obtain ⟨a,ha,hf⟩:=(Yn (λa ha=>(S a (Lz _ ha)).ok) v).1 V;obtain ⟨x,hx,rfl⟩:=Lp.1 ha;have h4:=(h.co x hx).2.2 v hf;obtain ⟨ns,_,hh⟩:=h.ev;rw[hh,Jr];omega
 refine ⟨J,H,Qcb J (by omega) hi,by rw[(QbJ h E.hs).1];exact E.hs,?_,Y,λv G hb=>?_,λv G=>?_,jD.free h I h1 E⟩
 ·obtain ⟨x,hk,hl⟩:=E.x;have hj:=Qf0 h _ (YD E.hs).2;obtain ⟨p1,p2,p3⟩:=QbH h hj.2;rw[(QbJ h E.hs).2,p1];have h5:=hs.2.1.st;exact Qcb H (by omega) (by omega)
 ·refine jD.unc h I h1 E G ?_;obtain ⟨h2,h3⟩:=Y v G;unfold Proofs.YtdffckgdcegpaaaGreatDoor.unc;refine (JD _ _ _ _).2 ⟨v.toNat,h3,by omega,?_⟩;rw[ZS h3] at hb;rw[hb];rfl
 obtain ⟨i',s',e1,e2,h3⟩:=jD.next h I h1 E G;exact ⟨i',s',QcI J hi e1,QcI hc he e2,h3⟩
set_option maxRecDepth 100000 in
set_option maxHeartbeats 8000000 in
theorem QbR {w:World}{l:PwV}{va:Option Addr}{n cp:Nat}(hl:PwA w l) (hb:B8 w.heap (.slice va n cp) n) (ho:Kb w 4096) :
  QK prog 6 [.agg (Y7 l).toArray,.slice va n cp] w λr w'=>r=.bool true∧Step [] w w':=by
 refine QK.of_W func6 O ntmps6 results6 (by simp) ?_;refine Qc<|xl O<|QS (us:=Y7 l) O λb1 w1 hG hb1 gi=>Qe ?_;have gj:(Y7 l).length=152:=QfZ (l:=l.pl []) hl.n;refine Qf<|QT (α:=Bool) [(36,47)] (λz=>[(47,.bool z)]) (λz w'=>Step [] w1 w'∧(z=false→l.n≤4∧n≤8)) (by rfl) ?_ ?_
 ·refine Qy<|xl O<|xf<|(zf (ho.ext hG)).mono ?_;rintro r2 w2 ⟨rfl,S⟩;refine xB (Zm O) (λgk=>absurd gk (by decide)) (λgk=>?_);refine Qb<|x (Qr (gi.ext S) O gj)<|xl O<|xf<|(Qh4 (l:=l) ⟨hl.n,hl.b,hl.f0,hl.f1,hl.f2,hl.bd,λhn=>by
   obtain ⟨rs,h1,h2⟩:=hl.r hn;exact ⟨rs,h1,(h2.ext hG).ext S⟩⟩).mono ?_
  rintro r3 w3 ⟨rfl,ha⟩;refine xB (Zm O) (λgl=>?_) (λgl=>?_)
  ·refine x (Ql O)<|Qb<|xs O<|xs O<|xs O<|x (Ql O)<|xe ?_;exact ⟨true,Z,S.trans ha,λh=>by cases h⟩
  have k8:l.n≤4:=by simpa using gl
  refine x (Ql O)<|Qb<|Qb<|x (Um O)<|x (ZR O O)<|x (Ql O)<|xe ?_;exact ⟨decide ((n:Int) > 8),Z,S.trans ha,λh=>⟨k8,by have:=of_decide_eq_false h;omega⟩⟩
 rintro z g w2 ⟨S,hz⟩;have h3:=hG.trans S;refine Q3 rfl (λgn=>?_) (λgn=>?_)
 ·refine Qc<|xl O<|xf<|(zf (ho.ext h3)).mono ?_;rintro r3 w3 ⟨rfl,ha⟩;refine Qe ?_;exact Qn ⟨[.bool true],Z,O,h3.trans ha⟩
 have hH:=hz gn;refine Qi<|Exists.elim (hb hH.2) λbs hI=>?_;have hbl:=hI.1;have k9:=hI.2.1;have ma:=hI.2.2;refine Exists.elim (hl.pl h3 hH.1) λrs mc=>?_;refine Qc<|x (Qr (gi.ext S) O gj)<|xl O<|xf<|(Qel mc.1).mono ?_;rintro r3 w3 ⟨ha,_,⟨c,rfl,rfl,hC⟩,hD⟩;have go:=hC [] (by simp)
 refine xl rfl<|Qt (us:=Yq) O λb5 w4 mf mg mh=>xl O<|Qo (us:=c.cells) mh O O O O go.ones λw5 mj hp=>xe ?_;have gp:Step [] w3 w5:=mf.then1 mj mg;have gq:=(h3.trans ha).trans gp;have ht:=go.ext gp;refine Qc<|x (Qr hp O O)<|xl O<|xf<|(Qa5 ht (ho.ext gq)).mono ?_;rintro r6 w6 ⟨mo,vt,rfl,mq,ms⟩
 have mt:∃(A:QN) (xa xm xe:Value),vt=.agg #[xa,.int .i64 A.st,xm,xe]∧Zv [] w6.heap xa xm xe A∧(zn c.cel=0→A=Jw c.cel):=by
  by_cases h0:zn c.cel=0
  ·obtain ⟨xa,xm,xe,e,h1⟩:=ms h0;exact ⟨_,xa,xm,xe,e,h1 [] (by simp),λ_=>rfl⟩
  exact ⟨⟨[],0,[],[]⟩,_,_,_,mq h0,Qlj,λh=>absurd h h0⟩
 obtain ⟨A,xa,xm,mu,rfl,h4,gr⟩:=mt;refine Qb<|x (Qk O O)<|x (Qk O O)<|xl O<|Qt (us:=JV) O λb6 w7 mv mw my=>xl O<|Qo (us:=[xa,.int .i64 A.st,xm,mu]) my O O O O ⟨h4.al.one,O,h4.mr.one,h4.ed.one,U⟩ λw8 mz m0=>Qe ?_;have gs:Step [] w6 w8:=mv.then1 mz mw;have h5:=mo.trans gs;have gt:=gq.trans h5
 refine Qc<|x (Qr (hp.ext h5) O O)<|xl O<|xf<|(JN (ht.ext h5) (ho.ext gt)).mono ?_;rintro r9 w9 ⟨m1,vs,gu,⟨us,e1,hul,m2⟩,m3⟩;have gv:Yz c.cel=0:=by
  obtain ⟨_,_,_,_,_,_,h⟩:=VJ hD;exact h
 rw[gv] at gu;obtain ⟨sa,sm,se,s1,s2,s3,s4,cos,rqs,e2,_,_,m4⟩:=m3 gv;have e3:us=[sa,.int .i64 (spc c.cel).a.st,sm,se,s1,s2,s3,s4]:=congrArg Array.toList (Value.agg.inj (e1.symm.trans e2));subst e3;subst e2;subst gu;have hJ:=m4 [] (by simp)
 refine Qb<|x (Qk O O)<|x (Qk O O)<|xl O<|Qt (us:=[nS,.int .i64 0,nS,nS,nS,nS,nS,nS]) O λb8 w10 m5 m6 m7=>xl O<|Qo (us:=[sa,.int .i64 (spc c.cel).a.st,sm,se,s1,s2,s3,s4]) m7 O O O O m2 λm8 m9 pa=>Qe ?_;have h6:Step [] w9 m8:=m5.then1 m9 m6;have hK:=m1.trans h6;have hL:=h5.trans hK;have gw:=gt.trans hK
 refine Qc<|x (Qr (hp.ext hL) O O)<|xl O<|xf<|(Qa6 (ht.ext hL) (ho.ext gw)).mono ?_;rintro r12 pc ⟨pd,vg,vq,eg,pf,pg⟩;obtain ⟨rfl,⟨ga,gm,ge,rfl,ph⟩,tl,hTl⟩:=Qlc hD pg;have h7:=ph [] (by simp);subst pf
 refine Qb<|x (Qk O O)<|x (Qk O O)<|x (Qk O O)<|xl O<|Qt (us:=JV) O λb10 w13 pj pm pn=>xl O<|Qo (us:=[ga,.int .i64 (XN (auts c.cel.co)).st,gm,ge]) pn O O O O ⟨h7.al.one,O,h7.mr.one,h7.ed.one,U⟩ λpo pp pt =>
  x Qg<|Qe ?_
 have gx:Step [] pc po:=pj.then1 pp pm;have hM:=pd.trans gx;have hN:=hL.trans hM;have pu:=gw.trans hM;refine Qc<|x (Qr (hp.ext hN) O O)<|xl O<|xf<|(yt (ht.ext hN)).mono ?_;rintro r15 pw ⟨hf,gy⟩;rw[hD.ck] at gy;refine Zc (shR c.cel).isSome λsh _=>?_;subst gy
 refine Qb<|x (Qk O O)<|x (Qk O O)<|x (Qk O O)<|x (Qk O O)<|x (Qk O O)<|x Qg<|x Qg<|x Qg<|x Qg<|Qe ?_;have hO:=pu.trans hf;have gz:=hN.trans hf;have hu:=hM.trans hf;have g0:=hK.trans hu;have pz:=gx.trans hf;have hs1415:=hf;have p0:=ht.ext gz;have p1:=hp.ext gz;have g2:=m0.ext g0;have p2:=pa.ext hu
 have p3:=pt.ext hf;have p4:=(h4.ext gs).ext g0;have p5:=h7.ext pz;have p6:=(hJ.1.ext h6).ext hu;have p7:=(hJ.2.2.2.1.ext h6).ext hu;have p8:=(hJ.2.2.2.2.ext h6).ext hu;have p9:=ma.ext hO;have qc:=Qfd hD;refine Zc (zn c.cel) λE hE=>?_;rw[hE] at qc gr
 refine Qf<|QT (α:=Bool) [(75,81)] (λz=>[(81,.bool z)]) (λz w'=>w'=pw∧(z=false→E=0∧A.st≠0)) (by rfl) ?_ ?_
 ·refine Qy<|Qb<|xb (Q9 O O) (λg3=>?_) (λg3=>?_)
  ·refine Qb<|xs O<|xs O<|xs O<|x (Ql O)<|xe ?_;exact ⟨true,Z,O,λh=>by cases h⟩
  refine Qb<|x (Qa O)<|x (Qd g2 O O)<|x (Q4 O O)<|x (Ql O)<|xe ?_;exact ⟨decide (A.st=0),Z,O,λh=>⟨hE.symm.trans (Ls.1 g3),of_decide_eq_false h⟩⟩
 rintro z g g4 ⟨rfl,hz⟩;refine Q3 rfl (λg5=>?_) (λg5=>?_)
 ·refine QT (α:=Unit) [(4,4),(82,87)] (λz=>[(4,.bool true)]) (λz w'=>w'=g4) (by rfl) ?_ ?_
  ·refine Qy<|Qb<|xb (Q4 O O) (λg6=>?_) (λg6=>?_)
   ·refine Qb<|xs O<|xs O<|x (Ql O)<|Qe ?_;exact ⟨(),Z,O⟩
   have qf:zn c.cel=12:=(Qfd hD).resolve_left g6;refine Qb<|Qb<|x (Q4 O O)<|x (Ql O)<|Qe ?_;exact ⟨(),⟨congrArg Value.bool (decide_eq_true qf),U⟩,O⟩
  rintro ⟨⟩ g g7 rfl;exact Qn ⟨[.bool true],Z,O,hO⟩
 have hP:=hz g5;have ql:=gr hP.1;have g8:zn c.cel=0:=hE.trans hP.1;subst ql;have g9:(Jw c.cel).st≠0:=hP.2;refine Qi<|Qf<|QT (α:=Unit) [(88,97)] (λz=>[(97,.bool false)]) (λz w'=>w'=g4) (by rfl) ?_ ?_
 ·refine Qy<|Qb<|xb (Q9 O O) (λh=>absurd O h) (λh89=>?_);refine Qb<|Qb<|xb (Q9 O O) (λh=>absurd O h) (λh92=>?_);refine x (Ql O)<|Qb<|Qb<|x (Q9 O O)<|x (Ql O)<|xe ?_;exact ⟨(),Z,O⟩
 rintro ⟨⟩ g g7 rfl;refine ZM rfl ?_;refine Qi<|Qc<|x Qg<|Qe<|Qf<|Qc<|Qe<|Qh<|QA (α:=Nat×Nat×Nat) [(4,4),(18,20),(22,26),(28,35),(98,224)] (λz=>[(18,.int .i64 (z.1:Int)),(19,.int .i64 (z.2.1:Int)),(20,.int .i64 (z.2.2:Int))]) (λz w'=>jD c.cel z.1 z.2.1∧z.2.2≤n∧Step [] g7 w') (λz=>n - z.2.2) (by rfl) (0,0,0) ⟨O,O,O,U⟩ ⟨jD.init hD g8 g9,Ll _,Step.refl _ _⟩ ?_
 rintro ⟨i,s,k⟩ g qo ⟨hW,hk,G⟩
 replace hW:jD c.cel i s:=hW
 replace hk:k≤n:=hk;have H:=jD.facts hD g8 g9 hW;have hn8:=hH.2;have ka:=hO.trans G;have qr:=p1.ext G;have kb:=g2.ext G;have h8:=p2.ext G;have q0:=p3.ext G;have q1:=p0.ext G;have kc:=p4.ext G;have q2:=p5.ext G;have q3:=p6.ext G;have ke:=p7.ext G;have hQ:=p8.ext G;have q4:=p9.ext G
 refine Qf<|Qc<|Qb<|Qb<|x (Um O)<|x (X3 O O)<|xe<|QG rfl (λkf=>absurd (show (k:Int)≤(n:Int) by omega) kf) (λkf=>?_);refine Qi<|Qf<|Qh<|Qf<|Qc<|Qb<|x (Qa O)<|x (Qd h8 O O)<|x (Qs ke O)<|x (ZV O O)<|xe<|Q7 rfl (λkg=>absurd (show (s:Int)≥((spc c.cel).pl.length:Int) from kg) (by have:=H.pl;omega)) (λkg=>?_);refine Qi ?_;have hfl:=hQ.le
 refine Qf<|Qc<|x (Qa O)<|x (Qd h8 O O)<|x (Qs hQ O)<|Qb<|xe<|Qh<|QA (α:=Nat) [(4,4),(22,22),(112,125)] (λz=>[(112,.int .i64 z)]) (λz w'=>z≤(spc c.cel).fb.length∧Step [] qo w') (λz=>(spc c.cel).fb.length - z) (by rfl) 0 Z ⟨Ll _,Step.refl _ _⟩ ?_;rintro j g q5 ⟨hj,hg⟩;refine Qc<|x (QB O O)<|xe<|Qf<|QG O (λkh=>?_) (λkh=>?_)
 ·refine Qz ?_;have hs019:=ka.trans hg;refine Qc<|x (Qr (kb.ext hg) O O)<|Qb<|xl O<|xf<|(K9 (kc.ext hg) i).mono ?_;rintro r20 V ⟨hR,vo,rfl,_,za⟩;have zv:=za H.a;have ki:QL [] V.heap vo (enb (Jw c.cel) i):=zv.ints (by have:=ye H.ta i;omega) (by simp);refine Qb<|x (Qk O O)<|x (Qk O O)<|x Qg<|Qe ?_;have hw:=hg.trans hR
  have hS:Step [] V { V with drawn:=V.drawn+1 }:=Step.drew _ _
  refine Qf<|QW (Step [] V) [(0,true),(1,true),(2,true),(3,true),(4,true),(5,true),(6,false),(7,true),(8,true),(9,true),(10,true),(11,true)] mixed (by rfl) (by kernel_rfl) (Step.drew _ _) ?_;refine pq (λ_ hc=>Qr ((q0.ext hw).ext hc) O O)<|p (λ_=>Qa O)<|pq (λ_ hc=>Qd ((h8.ext hw).ext hc) O O) <|
   p (λ_=>Qp)<|pic O (ke.ext hw) O O H.pl λa137 z0=>pq (λ_ hc=>Qw (z0.ext hc) O)<|pk<|xf<|(K9 ((q2.ext hw).ext hS) (cget (spc c.cel).pl s)).mono ?_
  rintro r21 hh ⟨hA,vc,rfl,_,z1⟩;have z2:=z1 H.p;have hT:QL [] hh.heap vc (enb (XN (auts c.cel.co)) (cget (spc c.cel).pl s)):=z2.ints (by have:=ye H.tp (cget (spc c.cel).pl s);omega) (by simp);refine ⟨hS.trans hA,p (λ_=>Qp)<|p (λ_=>Qk O O)<|p (λ_=>Qk O O)<|p (λ_=>Qg)<|p (λ_=>Qg)<|pe ?_⟩;have hU:Step [] V hh:=hS.trans hA;have Y:=hw.trans hU
  have z3:=ka.trans Y;refine Qf<|QT (α:=Unit) [(142,147)] (λz=>[(147,.bool false)]) (λz w'=>w'=hh) (by rfl) ?_ ?_
  ·refine Qy<|Qb<|xb (Q9 O O) (λkj=>absurd H.a kj) (λkj=>?_);refine Qb<|Qb<|x (Q9 O O)<|x (Ql O)<|xe ?_;exact ⟨(),⟨congrArg Value.bool (decide_eq_false (not_not_intro H.p)),U⟩,O⟩
  rintro ⟨⟩ g kk rfl;refine ZM O ?_;refine Qi ?_;have hcl:=Zs.le hT;refine Qf<|Qc<|Qb<|x (Qs hT O)<|Qb<|xe<|Qh<|QA (α:=Nat) [(4,4),(28,28),(150,171)] (λz=>[(150,.int .i64 z)]) (λz w'=>z≤(enb (XN (auts c.cel.co)) (cget (spc c.cel).pl s)).length∧w'=kk) (λz=>(enb (XN (auts c.cel.co)) (cget (spc c.cel).pl s)).length - z) (by rfl) 0 Z ⟨Ll _,O⟩ ?_;rintro m g kn ⟨hm,rfl⟩
  refine Qc<|x (QB O O)<|xe<|Qf<|QG O (λko=>?_) (λko=>?_)
  ·refine Qz ?_;have hV:=ki.ext hU;refine Qf<|QT (α:=Bool) [(172,180)] (λz=>[(180,.bool z)]) (λz w'=>w'=kn∧(z=false→k≠n∧(enb (Jw c.cel) i).length≠0)) (by rfl) ?_ ?_
   ·refine Qy<|Qb<|Qb<|x (Um O)<|xb (Q4 O O) (λkp=>?_) (λkp=>?_)
    ·refine Qb<|xs O<|xs O<|xs O<|x (Ql O)<|xe ?_;exact ⟨true,Z,O,λh=>by cases h⟩
    refine Qb<|Qb<|x (Qs hV O)<|x (Q4 O O)<|x (Ql O)<|xe ?_;exact ⟨decide (((enb (Jw c.cel) i).length:Int)=0),Z,O,λh=>⟨λe=>kp (congrArg (λm:Nat=>(m:Int)) e),λe=>of_decide_eq_false h (congrArg (λm:Nat=>(m:Int)) e)⟩⟩
   rintro z g kq ⟨rfl,hz⟩;refine Q3 O (λkr=>?_) (λkr=>?_)
   ·refine Qz<|Qc<|Qe ?_;exact Qn ⟨[.bool true],Z,O,z3⟩
   have kt:=hz kr;have hX:k<bs.length:=by have:=kt.1;omega
   have z4:0<(enb (Jw c.cel) i).length:=Nat.pos_of_ne_zero kt.2;refine Qi<|Qc<|Zc (bs[k]'hX) λbk ku=>?_;have hbk2:bk<256:=by rw[←ku];exact k9 _ (Lc hX)
   refine Qb<|Qb<|Qb<|xig (g:=u8c) QkL (q4.ext Y) O O hX λa184 kv=>?_;rw[ku] at kv;have hY:bk % (enb (Jw c.cel) i).length<(enb (Jw c.cel) i).length:=Nat.mod_lt _ z4;refine x (Qw kv O)<|x (ZL (k':=.i64) O ⟨by omega,by omega⟩)<|Qb<|x (Qs hV O)<|x (Ul (a:=(bk:Int)) (b:=((enb (Jw c.cel) i).length:Int)) O O (by omega) (by omega)) <|
    xic (i:=bk % (enb (Jw c.cel) i).length) hV O (congrArg (Value.int .i64) (Int.natCast_emod bk (enb (Jw c.cel) i).length).symm) hY λa190 z5=>x (Qw z5 O)<|Qe ?_
   have hy:cget (enb (Jw c.cel) i) (bk % (enb (Jw c.cel) i).length)∈enb (Jw c.cel) i:=by rw[←Za hY];exact Lc hY
   refine Zc (cget (enb (Jw c.cel) i) (bk % (enb (Jw c.cel) i).length)) λv hv=>?_;rw[hv] at hy;refine Exists.elim (H.nx v hy) λi' z9=>Exists.elim z9 λs' hZ=>?_;refine Qc<|x (Qr ((kb.ext Y)) O O)<|Qb<|Qb<|xl O<|xf<|(q8 (kc.ext Y) i _).mono ?_;rintro r25 w25 ⟨kw,hs25⟩;rw[hv,hZ.1] at kw;subst kw;refine Qb<|x (Qk O O)<|x (Qk O O)<|x (Qk O O)<|x Qg<|x Qg<|Qe ?_
   have gb:=Y.trans hs25;refine Qc<|x (Qa O)<|x (Ys (us:=[sa,.int .i64 (spc c.cel).a.st,sm,se]) (h8.ext gb) O O O)<|Qb<|Qb<|xl O<|xf<|(q8 (q3.ext gb) s _).mono ?_;rintro r26 w26 ⟨kx,hs26⟩;rw[hv,hZ.2.1] at kx;subst kx;refine Qb<|x (Qk O O)<|x (Qk O O)<|x (Qk O O)<|x Qg<|x Qg<|Qe ?_;have hs1826:=gb.trans hs26
   refine Qf<|QT (α:=Unit) [(209,222)] (λz=>[(222,.bool false)]) (λz w'=>w'=w26) (by rfl) ?_ ?_
   ·refine Qy<|Qb<|xb (Q9 O O) (λh=>absurd O h) (λh210=>?_);refine Qb<|Qb<|xb (Q9 O O) (λh=>absurd O h) (λh213=>?_);refine x (Ql O)<|Qb<|Qb<|xB (Zm O) (λky=>absurd (show false=true from ky) (by decide)) (λky=>?_);refine x (Ql O)<|Qb<|Qb<|x (Zm O)<|x (Ql O)<|xe ?_;exact ⟨(),Z,O⟩
   rintro ⟨⟩ g w27 rfl;refine ZM O ?_;refine Qi<|Qy<|Qb<|Qb<|x Qg<|Qe<|Qy<|Qb<|QO O O<|Qe ?_;exact ⟨(i',s',k+1),by show n - (k+1)<n - k;omega,⟨O,O,O,U⟩,hZ.2.2,by show k+1≤n;omega,G.trans hs1826⟩
  have I:m<(enb (XN (auts c.cel.co)) (cget (spc c.cel).pl s)).length:=by have h9:(m:Int)<((enb (XN (auts c.cel.co)) (cget (spc c.cel).pl s)).length:Int):=ko;omega
  refine Qi ?_;have hy:cget (enb (XN (auts c.cel.co)) (cget (spc c.cel).pl s)) m∈enb (XN (auts c.cel.co)) (cget (spc c.cel).pl s):=by rw[←Za I];exact Lc I
  have hB:=H.ev _ hy;have J:=H.un _ hy;refine Qf<|Qh<|Qc<|xic hT O O I λa152 gc=>?_;refine Zc (cget (enb (XN (auts c.cel.co)) (cget (spc c.cel).pl s)) m) λv hv=>?_;rw[hv] at gc hB J;refine Zc v.toNat λq hq=>?_;have hvq:v=(q:Int):=by have:=hB.1;omega
  rw[hq] at hB J;rw[hvq] at gc J;refine x (Qw gc O)<|Qe ?_;have hC23:=q1.ext Y;refine QT (α:=Unit) [(154,170)] (λz=>[(170,.bool false)]) (λz w'=>w'=kn) (by rfl) ?_ ?_
  ·refine Qy<|Qb<|xB (Zm O) (λh155=>?_) (λh155=>?_)
   ·have gg:q<c.ev.length:=hB.2;refine Qb<|x (Qa O)<|x (Qd (qr.ext Y) O O)<|Qb<|xig U1 hC23.ev.arr O O gg λa160 kz=>?_
    replace J:(c.ev.getD q ⟨.empty,false,false,false,0⟩).co=false→(q:Int)∈enb (Jw c.cel) i:=J;rw[ZS gg] at J;refine Zc (c.ev[q]'gg) λe he=>?_;rw[he] at kz J;refine x (Zo O)<|x (Qw (kz.fld 1 (.bool e.co) O) O)<|xB (Zm O) (λk0=>?_) (λk0=>?_)
    ·have hin:(q:Int)∈enb (Jw c.cel) i:=J (by simpa using k0);refine x (Ql O)<|Qb<|Qb<|Qb<|xl O<|xf<|(QgY (ki.ext hU) (q:Int)).mono ?_;rintro r24 kq ⟨gh,hw24⟩
     replace gh:r24=.bool true:=gh.trans (congrArg Value.bool (decide_eq_true hin));subst gh;refine x (Zm O)<|x (Ql O)<|xe ?_;exact ⟨(),Z,hw24⟩
    refine x (Ql O)<|Qb<|xs O<|xs O<|xs O<|xs O<|x (Ql O)<|xe ?_;exact ⟨(),Z,O⟩
   refine Qb<|xs O<|xs O<|xs O<|xs O<|xs O<|xs O<|xs O<|x (Ql O)<|Qb<|xs O<|xs O<|xs O<|xs O<|x (Ql O)<|xe ?_;exact ⟨(),Z,O⟩
  rintro ⟨⟩ g kq rfl;refine ZM O ?_;refine Qi<|Qy<|QO O O<|Qb<|xe ?_;exact ⟨m+1,by omega,Z,I,O⟩
 have I:j<(spc c.cel).fb.length:=by have h9:(j:Int)<((spc c.cel).fb.length:Int):=kh;omega
 have k4:=H.fb _ (Lc I);refine Qi<|Qf<|Qh<|Qc<|xig (g:=Zy) Qbu (hQ.ext hg) O O I λa114 k5=>?_;refine Zc ((spc c.cel).fb[j]'I) λr hr=>?_;rw[hr] at k5 k4;refine x (QI k5 O O)<|xl O<|Qt (us:=[.int .i64 0,.int .i64 0,.int .i64 0,.int .i64 0]) O λb22 V hR hb22 hB22=>xl O<|Qo (us:=Zy r) hB22 O O O O ⟨O,O,O,O,U⟩ λhh hA k6=>xe ?_
 have hs1921:Step [] q5 hh:=hR.then1 hA hb22;refine QT (α:=Unit) [(116,124)] (λz=>[(124,.bool false)]) (λz w'=>w'=hh) (by rfl) ?_ ?_
 ·refine Qy<|x (Qa O)<|x (Qd k6 O O)<|Qb<|xb (Q4 O O) (λk7=>?_) (λk7=>?_)
  ·have hkd:r.kd=3:=k4 k7;refine Qb<|x (Qa O)<|x (Qd k6 O O)<|x (Q9 O O)<|x (Ql O)<|xe ?_;exact ⟨(),⟨congrArg Value.bool (decide_eq_false (not_not_intro hkd)),U⟩,O⟩
  refine Qb<|xs O<|xs O<|xs O<|x (Ql O)<|xe ?_;exact ⟨(),Z,O⟩
 rintro ⟨⟩ g kk rfl;refine ZM rfl ?_;refine Qi<|Qy<|QO O O<|Qb<|xe ?_;exact ⟨j+1,by omega,Z,I,hg.trans hs1921⟩
theorem YS {a b:Bool}(h1:a=true) (h2:b=true):(a && b)=true:=by rw[h1,h2];rfl
theorem ji {P:Program} {f:FuncId} {fn:Func} {s:ChangeSpec} {c:OpenClaim} (h1:(c.wf (OpenSpec.ofChange s))=true) (h2:(laidOutB P)=true) (h3:(mapsRowed P)=true) (E:(fn.params.all (P.readableRec ·))=true) (h5:(namedTie P c.named s.vars)=true) (G:((c.stops == []))=true) (H:((P.stops == []))=true) (I:((c.knobs == []))=true) (h9:((P.stopKnobs == []))=true) (J:((c.inPlace == P.inPlace f))=true) (S:((c.unfollowed == P.unfollowed f))=true) (V:((c.recurses == P.recurses f))=true) (Y:((c.named == P.varsNamed f))=true) (ha:((c.maps == (fn.params.toList++s.plain.varTypes P).any (P.mapsRec ·)))=true) (hb:((c.ifaces == (fn.params.toList++s.plain.varTypes P).any (P.ifacesRec ·)))=true) (hc:((c.mapsOut == P.mapsAmong fn.resultTypes.toList))=true) (he:((c.loops == (fn.params.toList++s.plain.varTypes P).any (P.loopsFrom ·)))=true) (hf:((c.wideKeys == (fn.params.toList++s.plain.varTypes P++fn.resultTypes.toList).any (P.wideKeysFrom ·)))=true) (hg:(s.vars.all (P.varReadable ·))=true) (hh:(fn.resultTypes.all (λt=>P.readableRec t && decide (t<P.types.size)))=true) (hj:((c.ifacesOut == fn.resultTypes.toList.any (P.ifacesRec ·)))=true) (hk:((c.loopsOut == fn.resultTypes.toList.any (P.loopsFrom ·)))=true) (hl:((c.plainKeys == P.plainKeys))=true) (hm:(c.shortTexts.isNone)=true) (hn:(P.stopsHeard)=true) (ho:(P.mayEnter)=true) (hp:((c.lifted == P.liftsFinal))=true) (hq:((P.make == some c.make))=true) (hr:((c.kinds == (if c.domain.isEmpty then [] else fn.params.toList.map λt=>match P.underlying t with | some (.int k)=>some k | _=>none)))=true) (ht:((c.pinned == c.pinnedBy))=true) (hu:((c.veiled == (fn.params.toList++s.plain.varTypes P++fn.resultTypes.toList).any (P.veiledRec ·)))=true) (hv:(c.veiledFits P fn.params.toList (fn.params.toList++s.plain.varTypes P++fn.resultTypes.toList))=true):joinedFacts P f fn s c=true:=by
 unfold joinedFacts;exact (YS (YS (YS (YS (YS (YS (YS (YS (YS (YS (YS (YS (YS (YS (YS (YS (YS (YS (YS (YS (YS (YS (YS (YS (YS (YS (YS (YS (YS (YS (YS h1 h2) h3) E) h5) G) H) I) h9) J) S) V) Y) ha) hb) hc) he) hf) hg) hh) hj) hk) hl) hm) hn) ho) hp) hq) hr) ht) hu) hv)
theorem qE:laidOutB prog=true:=by kernel_rfl
theorem QgM:mapsRowed prog=true:=by kernel_rfl
theorem QgO:prog.stopsHeard=true:=by kernel_rfl
theorem QgP:prog.mayEnter=true:=by kernel_rfl
theorem QgN:(false == prog.liftsFinal)=true:=by kernel_rfl
theorem Qjq:(prog.make == some Make.cut)=true:=by kernel_rfl
theorem Qju:(Rows.moduleSafeRow.inPlace == prog.inPlace 6)=true:=by kernel_rfl
theorem Qjt:(Rows.moduleSafeRow.unfollowed == prog.unfollowed 6)=true:=by kernel_rfl
theorem Qjs:(Rows.moduleSafeRow.recurses == prog.recurses 6)=true:=by kernel_rfl
theorem Qjr:(Rows.moduleSafeRow.named == prog.varsNamed 6)=true:=by kernel_rfl
theorem Qlw:Rows.moduleSafeRow.wfByText (OpenSpec.ofChange Rows.moduleSafeSpec)=true:=by kernel_rfl
theorem Qlz:Tryz.pinned.checked.prog.mainIs=some (true, "7f1d7774d707b6ca2907d0280b916f7dc62d5f843e98687e905a54f8355f1b07".toList):=by kernel_rfl
theorem Qly:prog.funcNamed "overseer/overseerlaw32.ModuleSafe" = some 6:=by kernel_rfl
theorem QlA:false=prog.looks []:=by kernel_rfl
theorem Qlx:([36,73].all λu=>!prog.wantsStandIn u)=true:=by kernel_rfl
theorem QlB:false=Rows.moduleSafeRow.goesBy Tryz.pinned.checked.prog:=by kernel_rfl
end Go.Proofs.YtdffckgdcegpaaaGreatDoor
