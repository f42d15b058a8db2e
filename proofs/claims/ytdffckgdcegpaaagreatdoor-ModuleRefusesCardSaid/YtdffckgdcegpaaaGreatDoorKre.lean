/- Merged out of 40 texts. -/
import Derived.Test.YtdffckgdcegpaaaGreatDoorKrd
import Derived.Scope
import Derived.Shelf.SlSortCmp.Whole1
import Derived.Test.YtdffckgdcegpaaaGreatDoorRows
import Derived.JoinedOf
import Derived.Test.YtdffckgdcegpaaaGreatDoorCards
import Derived.SevenTiedAt
namespace Go.Proofs.YtdffckgdcegpaaaGreatDoor
open Go.Proofs.Tryz
open Go.Lg
instance:Bw prog 170 (X9 (nS) (nS) (nS) 0) [(0,3),(3,1),(4,4),(8,1)]:=⟨by kernel_rfl,by decide⟩
theorem QhB {c:Zv}{pl:QP}{ps:List (LI)}{l:List (LI)}:∀r∈spF c pl ps l,0≤r.st∧r.st<(l.length:Int):=λr E=>by
 unfold spF at E;obtain ⟨⟨t,i⟩,hp,h1⟩:=MZ.1 E;have hi:=List.snd_lt_add_of_mem_zipIdx hp;simp only[Nat.zero_add] at hi;have h2:r.st=(i:Int):=by
  simp only[] at h1;unfold rsn at h1;split at h1
  ·cases h1;rfl
  split at h1
  ·cases h1;rfl
  cases h1
 omega
theorem Qc4 {c:Zv}(h:Yr c=0):Zi (spc c).a∧(∀x∈fbs (spc c),0≤x∧x<(spc c).a.st)∧(fbs (spc c)).length≤4096∧(spc c).fb.length≤4096∧Ju c.ev=0:=by
 unfold Yr at h;by_cases h1:Q8 c≠0
 ·rw[if_pos h1] at h;exact absurd h h1
 rw[if_neg h1] at h;have I:Q8 c=0:=Lq.1 h1;have E:=ZF I;by_cases h2:KX (auts c.co)≠0
 ·rw[if_pos h2] at h;exact absurd h h2
 rw[if_neg h2] at h;cases hs:sync (auts c.co) with
 | none=>rw[hs] at h;cases h
 | some z =>
  rw[hs] at h;simp only[] at h;by_cases h3:KX (auts c.co++auts c.rq)≠0
  ·rw[if_pos h3] at h;exact absurd h h3
  rw[if_neg h3] at h;cases G:sync (auts c.co++auts c.rq) with
  | none=>rw[G] at h;cases h
  | some y =>
   have H:∀a∈auts c.co++auts c.rq,Zi a:=λa ha=>by
    rcases Li.1 ha with ha | ha
    ·exact Yb E.co a ha
    exact Yb E.rq a ha
   have hsp:=(YZ H (A:=y.1) (Q:=y.2) G).1;have he:=ju (c:=c) (pl:=z.1) (ps:=z.2) (sa:=y.1) (ts:=y.2) hs G;have hl:=Qaq c z.1 z.2 y.2;have S:=hsp.le;rw[he];unfold fbs;refine ⟨hsp.okay H,λx hx=>?_,by rw[Lh];simp only[];omega,by simp only[];omega,E.e0⟩;obtain ⟨r,J,rfl⟩:=Ly.1 hx;have:=QhB r J;rw[hsp.st];exact this
theorem st4 (r:Rsn):(Zy r).length=4:=rfl
set_option maxHeartbeats 4000000 in
theorem jo {L:LN}{w:World}{c:CL}(h0:ZB L w.heap c) (hB:Kb w 4096) :
  QI prog 79 [c.val] w λr w'=>Step [] w w'∧∃us c0 V Y c3 sa sm se o,r=.tuple #[.agg us.toArray,.agg #[c0,V,Y,c3,sa,.int .i64 (if Yr c.cel=0 then (suA c.cel).st else 0),sm,se,o],.int .i64 (Yr c.cel)]∧us.length=8∧ZO us∧ZO [c0,V,Y,c3,sa,sm,se,o] ∧
   (Yr c.cel≠0→sa=nS∧sm=nS∧se=nS)∧(Yr c.cel=0→∀L:LN,(∀b∈L,b<w.heap.size)→Zu L w'.heap sa sm se (suA c.cel)):=by
 have h:=h0.up (L':=[]) (by simp);have hn:suA c.cel=qR (spc c.cel).a (fbs (spc c.cel)) (unc c.cel.ev):=rfl;have hQ:c.cel.ev=c.ev:=rfl;have ho:=Qc4 (c:=c.cel);refine Zh (suA c.cel) λSA hR=>?_;rw[hR] at hn ⊢;have gv:=Kf (h.ext (Step.refl [] w)) hB;refine Zh (Yr c.cel) λE hE=>?_;rw[hE] at ho ⊢;refine Zh (spc c.cel) λS hS=>?_;rw[hS] at ho hn;rw[hQ] at ho hn
 refine QI.of_W func79 O ntmps79 results79 (by simp) ?_;refine Qc<|xl O<|QQ (us:=c.cells) O λb1 w1 hC gw hD=>xl O<|Qt (us:=[nS,.int .i64 0,nS,nS,nS,nS,nS,nS]) O λb2 w2 hp gx hq=>xl O<|Qt (us:=X9 (nS) (nS) (nS) 0) O λb3 w3 hh gy hs=>Qe ?_;have h3:=(hC.trans hp).trans hh;have gz:=hC.size;have g0:=hp.size;have g2:=hh.size;have g3:=hq.lt;have g4:=hs.lt
 have hsp:=Kf (h.ext h3) (hB.ext h3);rw[hE,hS] at hsp;refine Qc<|x (Qr ((hD.ext hp).ext hh) O O)<|xl O<|xf<|hsp.mono ?_;rintro r4 w4 ⟨hi,v,rfl,⟨us,rfl,h4,h5⟩,hF⟩;have g5:=hi.size;refine Qb<|x (Ql O O)<|x (Ql O O)<|xl O<|Qt (us:=[nS,.int .i64 0,nS,nS,nS,nS,nS,nS]) O λb5 w5 hT hV hj=>xl O<|Qp (us:=us) hj O O h4 O h5 λw6 hW hj=>Qe ?_;have J:Step [] w4 w6:=hT.then1 hW hV
 have g6:=J.size;have ht:=(h3.trans hi).trans J;have hG:=(hq.ext (hh.trans hi)).ext J;have hH:=(hs.ext hi).ext J;have g7:=hj.lt;refine Qg<|Qc<|Qb<|x (Q9 O O)<|xe<|Q7 rfl (λhu=>?_) (λhu=>?_)
 ·refine Qc<|x (Z4 [] U)<|x (Z4 [] U)<|Qb<|xl O<|Qp (us:=[nS,.int .i64 0,nS,nS,nS,nS,nS,nS]) hG O O O O ⟨O,O,O,O,O,O,O,O,U⟩ λw7 G hX =>
   xl rfl<|Qp (us:=X9 (nS) (nS) (nS) 0) (hH.step G (by simp only[List.mem_singleton];omega)) O O O O ⟨O,O,O,O,O,O,O,O,O,U⟩ λw8 hv hY=>Qe<|Qm ⟨[.agg [nS,.int .i64 0,nS,nS,nS,nS,nS,nS].toArray,.agg (X9 (nS) (nS) (nS) 0).toArray,.int .i64 E],⟨⟨_,O,Qx O ((hX.step hv (by simp only[List.mem_singleton];omega)).at (L:=[]) (by simp)).cells⟩,⟨_,rfl,Qx rfl (hY.at (L:=[]) (by simp)).cells⟩,rfl,U⟩,(ht.then1 G (by omega)).then1 hv (by omega),[nS,.int .i64 0,nS,nS,nS,nS,nS,nS],nS,nS,nS,.int .i64 0,nS,nS,nS,nS,by rw[if_neg hu];rfl,O,⟨O,O,O,O,O,O,O,O,U⟩,⟨O,O,O,O,O,O,O,O,U⟩,λ_=>⟨O,O,O⟩,λe=>absurd e hu⟩
 have hw:E=0:=Lq.1 hu;obtain ⟨hZ,ga,gb,g8,hI⟩:=ho hw;obtain ⟨va,vm,ve,v1,v2,v3,v4,cos,rqs,gc,_,_,ge⟩:=hF hw;have gg:us=[va,.int .i64 S.a.st,vm,ve,v1,v2,v3,v4]:=by
  have h1:=congrArg (λv=>match v with | Value.agg a=>a.toList | _=>[]) gc
  simpa using h1
 subst gg;have hJ:=(ge [] (by simp));have gh:=hJ.1.ext J;have hK:=hJ.2.2.2.2.ext J;refine Qi<|Qc<|Qe<|Qg<|Qc<|x (Qa O)<|x (Qd hj O O)<|x (Qs hK O)<|Qb<|xe ?_
 refine Qh<|QA (α:=Nat×Value) [(7,7),(9,9),(24,33)] (λz=>[(7,z.2),(24,.int .i64 z.1)]) (λz w'=>z.1≤S.fb.length∧Step [] w6 w'∧Qu 3 w6.heap.size w' z.2 ((S.fb.take z.1).map (·.st))) (λz=>S.fb.length - z.1) (by rfl) (0,nS) ⟨O,O,U⟩ ⟨Lj _,Step.refl _ _,QM _ _ _ _⟩ ?_;rintro ⟨k,vf⟩ g w7 ⟨hk,G,T⟩;simp only[] at hk T;refine Qc<|x (QB O O)<|xe<|Qg<|QH O (λh6=>?_) (λh6=>?_)
 ·refine Qy ?_;have gi:S.fb.length≤k:=by have hy:¬(k:Int)<(S.fb.length:Int):=h6;omega
  rw[Ll gi] at T;have T:Qu 3 w6.heap.size w7 vf (fbs S):=T;have gj:=ht.trans G;have gk:=G.size;refine Qc<|x (Qa O)<|x (Qd ((hD.ext (hp.trans hh)).ext ((hi.trans J).trans G)) O O)<|xl O<|xf<|(Qcq (h.ev.ext gj)).mono ?_;rintro g9 I ⟨ha,vu,rfl,hU⟩;rw[if_pos hI] at hU;refine Qb<|x (Ql O O)<|x (Ql O O)<|x Qf<|Qe<|Qg<|Qc<|Qb<|x (Q9 O O)<|xe ?_
  refine Q7 O (λgl=>absurd hI gl) (λ_=>?_);refine Qi ?_;have h4:(unc c.ev).length≤1099511627776:=LS (VO _ c.ev 0) h.ev.arr.le;have he:=G.trans ha;have gm:=gh.ext he;have hz:Step [] I { I with drawn:=I.drawn+1 }:=Step.drew _ _
  have hM:=hj.ext he;have hN:b5∉[b2]:=by simp only[List.mem_singleton];omega
  have ka:=he.size;refine Qg<|QW (Step [b2] I) [(0,true),(1,true),(2,true),(3,true),(4,true),(5,false),(6,false),(7,false),(8,true)] mixed (by rfl) (by kernel_rfl) (Step.drew _ _) ?_;refine pq (λ_ hc=>Qr (hM.step hc hN) O O)<|p (λ_=>Qa O)<|pq (λ_ hc=>Yp (us:=[va,.int .i64 S.a.st,vm,ve]) (hM.step hc hN) O O O) <|
   p (λ_=>Qo)<|p (λ_=>Qo)<|pk<|xf<|(QbD (gm.ext hz) hZ (((Qu.ints (L:=[]) T (by omega) (by simp)).ext ha).ext hz) ga gb ((Qu.ints (L:=[]) hU h4 (by simp)).ext hz)).mono ?_
  rintro kb kc ⟨gn,c0,V,Y,c3,sa,sm,se,o,rfl,H,h7⟩;have hf:=hz.trans gn;have ke:=hf.size;refine ⟨hf.any,?_⟩;have hO:qR S.a (fbs S) (unc c.ev)=SA:=hn.symm;rw[hO] at h7;have hg:=h7 [] (by simp);refine pk<|Qp (us:=[va,.int .i64 S.a.st,vm,ve,v1,v2,v3,v4]) ((hG.ext he).ext hf) O O O O h5 λkf h2 hq=>⟨hf.any.trans' h2,?_⟩
  refine pkl (hl:=by kernel_rfl)<|Qp (us:=[c0,V,Y,c3,sa,.int .i64 SA.st,sm,se,o]) (((hH.ext he).ext hf).step h2 (by simp only[List.mem_singleton];omega)) O (by rw[←hO];rfl) O O ⟨H.1,H.2.1,H.2.2.1,H.2.2.2.1,hg.al.one,O,hg.mr.one,hg.ed.one,H.2.2.2.2.1,U⟩ λkg h8 hs=>p (λ_=>Qf)<|pe ?_;have go:b2∉[b3]:=by simp only[List.mem_singleton];omega
  refine Qm ⟨[.agg [va,.int .i64 S.a.st,vm,ve,v1,v2,v3,v4].toArray,.agg [c0,V,Y,c3,sa,.int .i64 SA.st,sm,se,o].toArray,.int .i64 0],⟨⟨_,O,Qx O ((hq.step h8 go).at (L:=[]) (by simp)).cells⟩,⟨_,rfl,Qx rfl (hs.at (L:=[]) (by simp)).cells⟩,rfl,U⟩,
   (((ht.trans he).trans hf).then1 h2 (by omega)).then1 h8 (by omega),_,c0,V,Y,c3,sa,sm,se,o,by rw[hw,if_pos rfl];rfl,O,h5,⟨H.1,H.2.1,H.2.2.1,H.2.2.2.1,hg.al.one,hg.mr.one,hg.ed.one,H.2.2.2.2.1,U⟩,λe=>absurd hw e,λ_ L hL=>?_⟩
  have kh:=ht.size;have h1:=h7 (b2::b3::L) (λb hb=>by
   have ki:({ I with drawn:=I.drawn+1 }:World).heap.size=I.heap.size:=rfl
   simp only[List.mem_cons] at hb;rcases hb with rfl | rfl | hb
   ·omega
   ·omega
   have:=hL b hb;omega)
  exact ((h1.st (h2.mono (by simp))).st (h8.mono (by simp))).up (λb hb=>.inl (by simp[hb]))
 refine Qi ?_;have hm:k<S.fb.length:=by have hy:(k:Int)<(S.fb.length:Int):=h6;omega
 have hP:S.fb.take (k+1)=S.fb.take k++[S.fb[k]'hm]:=Le hm;have kj:((S.fb.take k).map (·.st)).length=k:=by rw[Lh,Lx];omega
 refine Zh (S.fb[k]'hm) λr hr=>?_;rw[hr] at hP;refine Qg<|Qh<|Qc<|xig (g:=Zy) (i:=k) st4 (hK.ext G) O O hm λkk hy=>?_;rw[hr] at hy;refine x (QF hy O O)<|xl O<|Qt (us:=[.int .i64 0,.int .i64 0,.int .i64 0,.int .i64 0]) O λb9 w8 hv gp h9=>xl O<|Qp (us:=Zy r) h9 O O O O ⟨O,O,O,O,U⟩ λw9 gq h9=>xe ?_;have hA:Step [] w7 w9:=hv.then1 gq gp;have kn:=hA.size;have gk:=G.size
 refine Qz<|Qb<|x (Qa O)<|x (Qd h9 O O)<|xl O<|QD (us:=[[.int .i64 r.st]]) O O (by decide) (by simp) ⟨rfl,rfl,U⟩ λko I ha kp gr =>
  xl rfl<|Q6 (m:=1) (news:=[.int .i64 r.st]) (L:=[]) (Qq T (hA.trans ha)) O O O (gr.at (by simp)) (by simp[Value.oneCell']) (by omega) (by have:=ha.size;omega) λgs kq gt gu kr=>Qe<|Qz<|QN O O<|Qb<|xe ?_
 refine ⟨(k+1,gs),by simp only[];omega,⟨O,O,U⟩,hm,((G.trans hA).trans ha).then gu (λb hb=>.inr (Qn T b hb).1),?_⟩;simp only[];rw[hP,Lt];exact Qu.snoc gt
theorem UW {L:LN}{w:World}{c:CL}(h0:ZB L w.heap c) (hf:Kb w 4096) :
  QI prog 32 [c.val] w λr w'=>Step [] w w'∧∃sa sm se,r=.tuple #[.agg #[sa,.int .i64 (if Yr c.cel=0 then (suA c.cel).st else 0),sm,se],.int .i64 (suE c.cel)]∧ZO [sa,sm,se] ∧
   (suE c.cel≠0→sa=nS∧sm=nS∧se=nS)∧(suE c.cel=0→∀L:LN,(∀b∈L,b<w.heap.size)→Zu L w'.heap sa sm se (suA c.cel)):=by
 have h:=h0.up (L':=[]) (by simp);have hg:suE c.cel=Yr c.cel:=rfl;rw[hg];refine QI.of_W func32 O ntmps32 results32 (by simp) ?_;refine Qc<|xl O<|QQ (us:=c.cells) O λb1 w1 Y hp hh=>xl O<|Qt (us:=[nS,.int .i64 0,nS,nS]) O λb2 w2 I hq G=>Qe ?_;have J:=Y.trans I;have hr:=Y.size;have hs:=I.size;have ht:=G.lt
 refine Qc<|x (Qr (hh.ext I) O O)<|xl O<|xf<|(jo (h.ext J) (hf.ext J)).mono ?_;rintro r3 w3 ⟨S,us,c0,c1,c2,c3,sa,sm,se,o,rfl,hi,hj,E,hk,hl⟩;refine Zh (if Yr c.cel=0 then (suA c.cel).st else 0) λN hN=>?_
 rw[hN];have hu:=S.size;refine Qb<|x (Ql O O)<|x (Ql O O)<|x (Ql O O)<|xl O<|Qt (us:=[nS,.int .i64 0,nS,nS,nS,nS,nS,nS]) O λb4 w4 ha hv T=>xl O<|Qt (us:=X9 (nS) (nS) (nS) 0) O λb5 w5 V hw hm =>
  xl rfl<|Qp (us:=us) (T.ext V) O O hi O hj λw6 hc hy=>xl O<|Qp (us:=[c0,c1,c2,c3,sa,.int .i64 N,sm,se,o]) (hm.step hc (by have:=T.lt;simp only[List.mem_singleton];omega)) O O O O ⟨E.1,E.2.1,E.2.2.1,E.2.2.2.1,E.2.2.2.2.1,O,E.2.2.2.2.2.1,E.2.2.2.2.2.2.1,E.2.2.2.2.2.2.2.1,U⟩ λw7 hn ho=>Qe ?_
 have hz:=T.lt;have h2:=ha.size;have h3:=V.size;have H:Step [] w3 w7:=((ha.trans V).then1 hc (by omega)).then1 hn (by omega);have h4:=H.size
 refine Qc<|x (Qa O)<|x (Yp (us:=[sa,.int .i64 N,sm,se]) ho O O O)<|Qb<|xl O<|Qp (us:=[sa,.int .i64 N,sm,se]) ((G.ext S).ext H) O O O O ⟨E.2.2.2.2.1,O,E.2.2.2.2.2.1,E.2.2.2.2.2.2.1,U⟩ λw8 he G=>Qe<|Qm ⟨[.agg [sa,.int .i64 N,sm,se].toArray,.int .i64 (Yr c.cel)],⟨⟨_,O,Qx O (G.at (L:=[]) (by simp)).cells⟩,rfl,U⟩,((J.trans S).trans H).then1 he (by omega),sa,sm,se,rfl,⟨E.2.2.2.2.1,E.2.2.2.2.2.1,E.2.2.2.2.2.2.1,U⟩,hk,λe L hL=>?_⟩
 have h1:=hl e (b2::L) (λb hb=>by
  simp only[List.mem_cons] at hb;rcases hb with rfl | hb
  ·omega
  have:=hL b hb;omega)
 exact ((h1.ext H).st (he.mono (by simp))).up (λb hb=>.inl (by simp[hb]))
theorem Qf8 {L:LN}{H:Array Obj}{b T:Nat}{n:Int}(h:Q4 H b T [.int .i64 n]) (hb:b∉L):QK L H (.slice (some ⟨b,0,none⟩) 1 1) [n] :=
 h.arr hb (n:=1) (cap:=1) (sz:=1) O (by omega) (Lr _)
set_option maxHeartbeats 4000000 in
theorem yp {L:LN}{w:World}{c:CL}{q:MV}(h0:ZB L w.heap c) (h9:QK L w.heap q.v q.co) :
  QI prog 18 [c.val,.agg #[.int .i64 q.kd,.int .i64 q.ix,q.v]] w λr w'=>Step [] w w'∧∃us,r=.tuple #[.agg us.toArray,.int .i64 (jg c.cel q.m)]∧us.length=5∧ZO us∧(jg c.cel q.m≠0→us=Z5)∧(jg c.cel q.m=0→Qhb w.heap.size w'.heap (.agg us.toArray) (mcC c.cel q.m)):=by
 have h:=h0.up (L':=[]) (by simp);have hm:=h9.up (L':=[]) (by simp);have T:jg c.cel q.m=if mdE c.cel q.m≠0 then mdE c.cel q.m else qV c.cel (prt q.m):=rfl
 have hA:mcC c.cel q.m=QbA c.cel (prt q.m):=rfl;rw[hA];refine Zh (jg c.cel q.m) λE hE=>?_;rw[hE] at T ⊢;refine QI.of_W func18 O ntmps18 results18 (by simp) ?_;refine Qc<|xl O<|QQ (us:=c.cells) O λb2 w1 hv hS hh=>xl O<|QQ (us:=ZC q) O λb3 w2 ha hT hw=>xl O<|Qt (us:=Z5) O λb4 w3 J hU hy=>Qe ?_;have hi:=(hv.trans ha).trans J;have hV:=hv.size;have hW:=ha.size;have hX:=J.size
 have hY:=hy.lt;refine Qg<|Qc<|x (Qr ((hh.ext ha).ext J) O O)<|x (Qr (hw.ext J) O O)<|xl O<|xf<|(qu (h.ext hi) (hm.ext hi)).mono ?_;rintro r4 w4 ⟨rfl,V⟩;refine Qe ?_;have hz:=hi.trans V;have hZ:=V.size;have hB:=((hh.ext ha).ext J).ext V;have hj:=(hw.ext J).ext V;have h2:=hy.ext V;refine Qc<|Qb<|x (Q9 O O)<|xe<|Q7 rfl (λhc=>?_) (λhc=>?_)
 ·rw[if_pos hc] at T;subst T;refine Qc<|x (QE U)<|Qb<|xl O<|Qp (us:=Z5) h2 O O O O ⟨O,O,O,O,O,U⟩ λw5 hC hD=>Qe ?_;exact Qm ⟨[.agg Z5.toArray,.int .i64 (mdE c.cel q.m)],⟨⟨_,O,Qx O (hD.at (L:=[]) (by simp)).cells⟩,rfl,U⟩,hz.then1 hC (by omega),Z5,rfl,rfl,⟨rfl,rfl,rfl,rfl,rfl,U⟩,λ_=>rfl,λh0=>absurd h0 hc⟩
 rw[if_neg hc] at T;subst T;refine Qi<|Qc<|x (Qa O)<|x (Qd hj O O)<|x (QE ⟨hm.cells,U⟩)<|xl O<|Qt (us:=[nS,nS,nS,nS]) O λb7 w6 hF hG hH=>xl O<|Qp (us:=[q.v,nS,nS,nS]) hH O O O O ⟨hm.one,O,O,O,U⟩ λw7 hI h3 =>
  xe ?_
 have hk:Step [] w4 w7:=hF.then1 hI hG;have ga:=hk.size;have gb:=h3.lt;refine Qc<|x (Qa O)<|x (Qd (hj.ext hk) O O)<|xl O<|QD (us:=[[.int .i64 q.ix]]) O O (by decide) (by simp) ⟨rfl,rfl,U⟩ λI w8 hl gc hJ =>
  Qe ?_
 have he:=hk.trans hl;have hK:=hz.trans he;have ge:=hl.size;have hn:=h3.ext hl;have hM:w.heap.size≤b7:=by omega
 refine Q0 (α:=Value×Value×Value) [(22,33)] (λ_=>[]) (λz w'=>Step [b7] w8 w'∧Q4 w'.heap b7 95 [q.v,z.1,z.2.1,z.2.2]∧QK [] w'.heap z.1 (prt q.m).rq∧QK [] w'.heap z.2.1 (prt q.m).ex∧QK [] w'.heap z.2.2 (prt q.m).cs) (by rfl) ?_ ?_
 ·have ho:∀{w':World},Step [b7] w8 w'→QK [] w'.heap (.slice (some ⟨I,0,none⟩) 1 1) [q.ix]:=λhs=>Qf8 (hJ.step hs (by simp only[List.mem_singleton];omega)) (by simp);refine Qc<|x (Qa O)<|x (Qd (hj.ext he) O O)<|xe<|Qh<|Qc<|x (Q5 O O)<|Qe<|Q7 O (λhp=>?_) (λhp=>?_)
  ·have Y:q.kd=1:=hp;refine Qz<|Qb<|x (Qa O)<|xl O<|QL (j:=1) (u:=.slice (some ⟨I,0,none⟩) 1 1) hn O O (by simp) rfl λS G H=>xe ?_;refine ⟨(.slice (some ⟨I,0,none⟩) 1 1,nS,nS),U,G,H,?_,?_,?_⟩
   ·show QK _ _ _ (if q.kd=1 then [q.ix] else []);rw[if_pos Y];exact ho G
   ·show QK _ _ _ (if q.kd=2 then [q.ix] else []);rw[if_neg (by omega)];exact JG _ _
   show QK _ _ _ (if q.kd≠1∧q.kd≠2 then [q.ix] else []);rw[if_neg (by omega)];exact JG _ _
  have Y:¬q.kd=1:=hp;refine Qc<|x (Q5 O O)<|Qe<|Q7 O (λhq=>?_) (λhq=>?_)
  ·have hf:q.kd=2:=hq;refine Qz<|Qb<|x (Qa O)<|xl O<|QL (j:=2) (u:=.slice (some ⟨I,0,none⟩) 1 1) hn O O (by simp) rfl λS G H=>xe ?_;refine ⟨(nS,.slice (some ⟨I,0,none⟩) 1 1,nS),U,G,H,?_,?_,?_⟩
   ·show QK _ _ _ (if q.kd=1 then [q.ix] else []);rw[if_neg Y];exact JG _ _
   ·show QK _ _ _ (if q.kd=2 then [q.ix] else []);rw[if_pos hf];exact ho G
   show QK _ _ _ (if q.kd≠1∧q.kd≠2 then [q.ix] else []);rw[if_neg (by omega)];exact JG _ _
  have hf:¬q.kd=2:=hq;refine Qz<|Qb<|x (Qa O)<|xl O<|QL (j:=3) (u:=.slice (some ⟨I,0,none⟩) 1 1) hn O O (by simp) rfl λS G H=>xe ?_;refine ⟨(nS,nS,.slice (some ⟨I,0,none⟩) 1 1),U,G,H,?_,?_,?_⟩
  ·show QK _ _ _ (if q.kd=1 then [q.ix] else []);rw[if_neg Y];exact JG _ _
  ·show QK _ _ _ (if q.kd=2 then [q.ix] else []);rw[if_neg hf];exact JG _ _
  show QK _ _ _ (if q.kd≠1∧q.kd≠2 then [q.ix] else []);rw[if_pos ⟨Y,hf⟩];exact ho G
 rintro ⟨v1,v2,v3⟩ g S ⟨G,H,h4,h5,h6⟩;simp only[] at H h4 h5 h6;have hg:Step [] w S:=hK.then1 G hM;have gg:=G.size;have hN:Q4 S.heap b2 47 c.cells:=(hB.ext he).step G (by have:=hh.lt;simp only[List.mem_singleton];omega);have hO:Q4 S.heap b4 47 Z5:=(h2.ext he).step G (by simp only[List.mem_singleton];omega)
 refine Qc<|x (Qr hN O O)<|x (Qr H O O)<|xl O<|xf<|(j5 (p:=prt q.m) (h.ext hg) (hm.ext hg) h4 h5 h6).mono ?_;rintro gh gi ⟨ht,us,rfl,hu,h7,hP,hQ⟩;have gj:=ht.size
 refine x (Ql O O)<|x (Ql O O)<|xl O<|Qp (us:=us) (hO.ext ht) O O hu O h7 λgk h8 hR=>Qe<|Qm ⟨[.agg us.toArray,.int .i64 (qV c.cel (prt q.m))],⟨⟨_,O,Qx hu (hR.at (L:=[]) (by simp)).cells⟩,rfl,U⟩,(hg.trans ht).then1 h8 (by omega),us,rfl,hu,h7,hP,λe=>?_⟩;obtain ⟨cl,e1,e2,e3⟩:=hQ e;refine ⟨cl,e1,e2,λL hL=>?_⟩;have h1:=e3 (b4::L) (λb hb=>by
  rcases Lb.1 hb with rfl | hb
  ·omega
  have:=hL b hb;have:=hg.size;omega)
 exact (h1.st (h8.mono (by simp))).up (λb hb=>.inl (by simp[hb]))
set_option maxHeartbeats 4000000 in
theorem QaL {L:LN}{w:World}{c:CL}{q:MV}(h0:ZB L w.heap c) (hn:QK L w.heap q.v q.co) (ho:Kb w 4096) :
  QI prog 19 [c.val,.agg #[.int .i64 q.kd,.int .i64 q.ix,q.v]] w λr w'=>Step [] w w'∧∃sa st sm se,r=.tuple #[.agg #[sa,.int .i64 st,sm,se],.int .i64 (zL c.cel q.m)]∧ZO [sa,sm,se] ∧
   (zL c.cel q.m=0→st=(jf c.cel q.m).st∧∀L:LN,(∀b∈L,b<w.heap.size)→Zu L w'.heap sa sm se (jf c.cel q.m))∧(zL c.cel q.m≠0→st=0∧sa=nS∧sm=nS∧se=nS):=by
 have h:=h0.up (L':=[]) (by simp);have hm:=hn.up (L':=[]) (by simp);have G:zL c.cel q.m=if jg c.cel q.m≠0 then jg c.cel q.m else suE (mcC c.cel q.m):=rfl
 have hp:jf c.cel q.m=suA (mcC c.cel q.m):=rfl;rw[hp];refine Zh (zL c.cel q.m) λE hE=>?_;rw[hE] at G ⊢;refine QI.of_W func19 O ntmps19 results19 (by simp) ?_;refine Qc<|xl O<|QQ (us:=c.cells) O λb2 w1 hg hF hq=>xl O<|QQ (us:=ZC q) O λb3 w2 ha hG hs=>xl O<|Qt (us:=[nS,.int .i64 0,nS,nS]) O λb4 w3 J hH hh=>Qe ?_;have hc:=(hg.trans ha).trans J;have hI:=hg.size;have hJ:=ha.size
 have hK:=J.size;have hM:=hh.lt;refine Qc<|x (Qr ((hq.ext ha).ext J) O O)<|x (Qr (hs.ext J) O O)<|xl O<|xf<|(yp (h.ext hc) (hm.ext hc)).mono ?_;rintro r4 w4 ⟨he,us,rfl,hi,ht,hO,hu⟩;have hP:=he.size;have hw:=hc.trans he;refine Qb<|x (Ql O O)<|x (Ql O O)<|xl O<|Qt (us:=Z5) O λb6 w5 hy hz h2=>xl O<|Qp (us:=us) h2 O O hi O ht λS h3 h4 =>
  Qe ?_
 have T:Step [] w4 S:=hy.then1 h3 hz;have V:=hw.trans T;have hQ:=T.size;have hj:=(hh.ext he).ext T;refine Qg<|Qc<|Qb<|x (Q9 O O)<|xe<|Q7 rfl (λH=>?_) (λH=>?_)
 ·rw[if_pos H] at G;subst G;refine Qc<|x (QE U)<|Qb<|xl O<|Qp (us:=[nS,.int .i64 0,nS,nS]) hj O O O O ⟨O,O,O,O,U⟩ λw7 h5 h6=>Qe ?_;exact Qm ⟨[.agg [nS,.int .i64 0,nS,nS].toArray,.int .i64 (jg c.cel q.m)],⟨⟨_,O,Qx O (h6.at (L:=[]) (by simp)).cells⟩,rfl,U⟩,V.then1 h5 (by omega),nS,0,nS,nS,rfl,⟨rfl,rfl,rfl,U⟩,λh0=>absurd h0 H,λ_=>⟨rfl,rfl,rfl,rfl⟩⟩
 rw[if_neg H] at G;subst G;obtain ⟨cl,hv,h7,h8⟩:=hu (Lq.1 H);have h9:ZB [] S.heap cl:=(h8 [] (by simp)).ext T;have hk:=UW h9 (ho.ext V);rw[h7] at hk;have hA:∀R,QI prog 32 [cl.val] S R→QI prog 32 [.agg us.toArray] S R:=λR hR=>by rw[hv];exact hR
 have hsup':=hA _ hk;refine Qi<|Qc<|x (Qr h4 O hi)<|xl O<|xf<|hsup'.mono ?_;rintro r8 w8 ⟨hf,sa,sm,se,rfl,Y,hB,hC⟩;refine Zh (if Yr (mcC c.cel q.m)=0 then (suA (mcC c.cel q.m)).st else 0) λN I=>?_
 rw[I];have hS:=hf.size;refine x (Ql O O)<|x (Ql O O)<|xl O<|Qp (us:=[sa,.int .i64 N,sm,se]) (hj.ext hf) O O O O ⟨Y.1,O,Y.2.1,Y.2.2.1,U⟩ λw9 hl hD=>Qe<|Qm ⟨[.agg [sa,.int .i64 N,sm,se].toArray,.int .i64 (suE (mcC c.cel q.m))],⟨⟨_,O,Qx O (hD.at (L:=[]) (by simp)).cells⟩,rfl,U⟩,(V.trans hf).then1 hl (by omega),sa,N,sm,se,rfl,Y,λe=>⟨?_,λL hL=>?_⟩,λe=>?_⟩
 ·have e':Yr (mcC c.cel q.m)=0:=e;rw[if_pos e'] at I;exact I.symm
 ·have h1:=hC e (b4::L) (λb hb=>by
   rcases Lb.1 hb with rfl | hb
   ·omega
   have:=hL b hb;have:=V.size;omega)
  exact (h1.st (hl.mono (by simp))).up (λb hb=>.inl (by simp[hb]))
 have e':¬Yr (mcC c.cel q.m)=0:=e;rw[if_neg e'] at I;exact ⟨I.symm,hB e⟩
theorem XR.app3 {α:Type}{g:α→LV}{sz T:Nat}{ps:α→List (Value×Nat×Nat×LV)}{base:Nat}{E G:World}{v H:Value}{l:List α}{q:α}(h:XR g sz T ps base E v l)
  (hq:∀t∈ps q,ZM base (ob v) E.heap t.1 t.2.1 t.2.2.1 t.2.2.2)
  (V:G.ownsRow base T sz H (l.length+1) (l.flatMap g++g q)) (I:Step (ob v) E G) (J:∀b∈ob H,b∈ob v∨E.heap.size≤b):XR g sz T ps base G H (l++[q]):=by
 refine ⟨?_,λd hd t S=>?_⟩
 ·rw[Lk,LA];simpa using V
 rcases Li.1 hd with hd | hd
 ·exact (h.each d hd t S).app I J
 simp only[List.mem_singleton] at hd;subst hd;exact (hq t S).app I J
abbrev QjF (p:AV):List (Value×Nat×Nat×LV):=[(p.va,p.a.al.length,1,p.a.al.map (.int .i64)),(p.vm,p.a.mr.length,1,p.a.mr.map (.int .i64)),(p.ve,p.a.ed.length,3,p.a.ed.flatMap Qw)]
abbrev AvP (base:Nat) (w:World) (v:Value) (l:List AV):Prop:=XR Zc 4 58 QjF base w v l
theorem AvP.auts {base:Nat}{w:World}{v:Value}{l:List AV}{L:LN}(h:AvP base w v l) (G:l.length≤1099511627776) (E:∀b∈L,b<base):Xg L w.heap v l :=
 ⟨QS h.own G (λb hb H=>by have:=(Qn h.own b hb).1;have:=E b H;omega),λp hp=>⟨h.each p hp (p.va,p.a.al.length,1,p.a.al.map (.int .i64)) (by simp) L (λb hb=>.inl (E b hb)),h.each p hp (p.vm,p.a.mr.length,1,p.a.mr.map (.int .i64)) (by simp) L (λb hb=>.inl (E b hb)),h.each p hp (p.ve,p.a.ed.length,3,p.a.ed.flatMap Qw) (by simp) L (λb hb=>.inl (E b hb))⟩⟩
def QjN (N:Nat) (H:Array Obj) (v:Value) (l:List QP):Prop:=∃ps:List AV,ps.map (·.a)=l∧∀L:LN,(∀b∈L,b<N)→Xg L H v ps
theorem QeT {p:AV}(h1:p.va.oneCell'=true) (h2:p.vm.oneCell'=true) (h3:p.ve.oneCell'=true):∀u∈Zc p,u.oneCell'=true:=by
 intro u hu;simp only[Zc,List.mem_cons,List.not_mem_nil,or_false] at hu;rcases hu with rfl | rfl | rfl | rfl
 ·exact h1
 ·rfl
 ·exact h2
 exact h3
theorem Zu.parts {base N:Nat}{av:LN}{H:Array Obj}{p:AV}(h:∀L:LN,(∀b∈L,b<N)→Zu L H p.va p.vm p.ve p.a) (hb:base≤N) (G:∀b∈av,b<N):∀t∈QjF p,ZM base av H t.1 t.2.1 t.2.2.1 t.2.2.2:=by
 intro t I;simp only[List.mem_cons,List.not_mem_nil,or_false] at I;rcases I with rfl | rfl | rfl
 ·exact ZM.of_lt (λL E=>(h L E).al) hb G
 ·exact ZM.of_lt (λL E=>(h L E).mr) hb G
 exact ZM.of_lt (λL E=>(h L E).ed) hb G
theorem QdE {c:Zv}(h:JQ c):(mods c).length≤96:=by have:=zl h 3 (by omega);rw[yo] at this;omega
theorem Qau:∀(l:LN) (b:Nat),l.foldl (λl b=>l &&& (65535 ^^^ b)) b≤b
 | [],_=>Lr _
 | _::l,_=>LS (Qau l _) Nat.and_le_left
theorem Qdc {c:Zv}:∀i∈rem c,0≤i∧i<(c.co.length:Int):=by
 intro i hi;unfold rem setK at hi;obtain ⟨j,E,rfl⟩:=Ly.1 hi;have h1:=(Mr.1 E).2;have h2:=of_decide_eq_true h1;refine ⟨by omega,?_⟩;refine Decidable.byContradiction λI=>?_;have G:c.co.length≤j:=by omega
 have J:jA c≤2 ^ c.co.length - 1:=Qau _ _;have hp:0<2 ^ c.co.length:=Nat.pow_pos (by decide);have S:2 ^ c.co.length≤2 ^ j:=Nat.pow_le_pow_right (by decide) G;have H:jA c / 2 ^ j=0:=Nat.div_eq_of_lt (by omega);rw[H] at h2;cases h2
theorem QcW (c:Zv):Kp c=if Q8 c≠0 then Q8 c else msL c (mods c):=rfl
theorem yl (c:Zv) (m:Vo) (l:List Vo):msL c (m::l)=if zL c m≠0 then zL c m else msL c l:=rfl
abbrev coA (c:Zv) (i:Int):QP:=(c.co.getD i.toNat ⟨.empty,⟨[],0,[],[]⟩⟩).a
set_option maxRecDepth 4096 in
set_option maxHeartbeats 8000000 in
theorem Xd {L:LN}{w:World}{c:CL}(I:ZB L w.heap c) (g5:Kb w 4096) :
  QI prog 22 [c.val] w λr w'=>Step [] w w'∧∃v,r=.tuple #[v,.int .i64 (Kp c.cel)]∧(Kp c.cel≠0→v=nS)∧(Kp c.cel=0→v.oneCell'=true∧QjN w.heap.size w'.heap v (qS c.cel)):=by
 have h:=I.up (L':=[]) (by simp);have ho:=QcW c.cel;have g6:qS c.cel=(mods c.cel).map (jf c.cel)++(rem c.cel).map (coA c.cel):=rfl;refine Zh (Kp c.cel) λE hE=>?_;rw[hE] at ho ⊢;refine QI.of_W func22 O ntmps22 results22 (by simp) ?_;refine Qc<|xl O<|QQ (us:=c.cells) O λb1 w1 hG mh gb=>x Qf<|Qe<|Qc<|x (Qr gb O O)<|xl O<|xf<|(Kg (h.ext hG)).mono ?_
 rintro r2 T ⟨hH,vM,lM,rfl,hM,mi,g7⟩;have gc:=hG.trans hH;have mj:=hG.size;have mn:=hH.size;refine Qb<|x (Ql O O)<|x (Ql O O)<|x Qf<|Qe<|Qg<|Qc<|Qb<|x (Q9 O O)<|xe<|Q7 rfl (λhp=>?_) (λhp=>?_)
 ·rw[if_pos hp] at ho;subst ho;refine Qc<|Qb<|x Qf<|Qe ?_;exact Qm ⟨[nS,.int .i64 (Q8 c.cel)],⟨O,O,U⟩,gc,nS,O,λ_=>O,λI=>absurd I hp⟩
 rw[if_neg hp] at ho;have h4:=Lq.1 hp;have g8:JQ c.cel:=(ZF h4).sr;have h6:=g7 h4;have mo:lM.length≤96:=by have:=QdE g8;rw[←h6,Lh] at this;exact this
 have ge:Zq [] T.heap vM lM.length 3 (lM.flatMap ZC):=hM.arr (by omega) (by simp);have mq:(rem c.cel).length≤8:=Jl _ _;have gg:=gb.ext hH;refine Qi<|Qc<|Qe<|Qg<|Qc<|Qb<|x (Qs ge O)<|Qb<|xe ?_
 refine Qh<|QA (α:=Nat×Value×List AV) [(2,3),(6,6),(8,10),(25,42)] (λz=>[(6,z.2.1),(25,.int .i64 z.1)]) (λz w'=>z.1≤lM.length∧Step [] T w'∧AvP T.heap.size w' z.2.1 z.2.2∧z.2.2.map (·.a)=(lM.take z.1).map (λq=>jf c.cel q.m)∧msL c.cel ((lM.drop z.1).map MV.m)=E) (λz=>lM.length - z.1) (by rfl) (0,nS,[]) ⟨O,O,U⟩
  ⟨Lj _,Step.refl _ _,XR.nil,O,by rw[List.drop_zero,h6];exact ho.symm⟩ ?_
 rintro ⟨k,v,l⟩ g w3 ⟨hk,V,Y,hr,G⟩;simp only[] at hk Y hr G;have h7:=gc.trans V;have mu:=V.size;have mv:l.length=k:=by have:=congrArg List.length hr;rw[Lh,Lh,Lx] at this;omega
 have hI:=gg.ext V;have h3:=h.ext h7;refine Qc<|x (QB O O)<|xe<|Qg<|QH O (λhJ=>?_) (λhJ=>?_)
 ·refine Qy ?_;have gh:lM.length≤k:=by have hK:¬(k:Int)<(lM.length:Int):=hJ;omega
  rw[Ll gh] at hr;rw[Lp gh] at G;have gi:E=0:=G.symm;have g9:l.map (·.a)=(mods c.cel).map (jf c.cel):=by rw[hr,←h6,Me];rfl
  refine Qc<|x (Qr hI O O)<|xl O<|xf<|(X5 h3).mono ?_;rintro r4 w4 ⟨h8,vR,rfl,_,ka⟩;have hR:=ka h4;have kb:=h7.trans h8;have mw:=h8.size;refine Qb<|x (Ql O O)<|x (Ql O O)<|x Qf<|Qe<|Qg<|Qc<|Qb<|x (Q9 O O)<|xe<|Q7 O (λgj=>?_) (λgj=>?_)
  ·exact absurd h4 gj
  refine Qi ?_;have kc:QK [] w4.heap vR (rem c.cel):=Qu.ints hR (by omega) (by simp);refine Qg<|Qc<|Qb<|x (Qs kc O)<|Qb<|xe ?_
  refine Qh<|QA (α:=Nat×Value×List AV) [(6,6),(13,14),(53,78)] (λz=>[(6,z.2.1),(53,.int .i64 z.1)]) (λz w'=>z.1≤(rem c.cel).length∧Step (ob v) w4 w'∧AvP T.heap.size w' z.2.1 z.2.2∧z.2.2.map (·.a)=(mods c.cel).map (jf c.cel)++((rem c.cel).take z.1).map (coA c.cel)∧∀b∈ob z.2.1,b∈ob v∨w4.heap.size≤b) (λz=>(rem c.cel).length - z.1) (by rfl) (0,v,l) ⟨O,O,U⟩
   ⟨Lj _,Step.refl _ _,XR.ext Y h8,by simp only[List.take_zero,List.map_nil,List.append_nil];exact g9,λb hb=>.inl hb⟩ ?_
  rintro ⟨j,vj,lj⟩ g w5 ⟨hj,hs,ha,hu,hN⟩;simp only[] at hj ha hu hN;have hO:=Qn Y.own;have gk:=Qn ha.own;have gl:Step [] w w5:=kb.then hs (λb hb=>.inr (by have:=(hO b hb).1;omega));have h5:=h.ext gl;have my:=hs.size;have mz:lj.length≤200:=by
   have e1:=congrArg List.length hu;rw[Lh,Lk,Lh,Lh,Lx,←h6,Lh] at e1;omega
  have ke:Q4 w5.heap b1 47 c.cells:=(hI.ext h8).step hs (λhb=>by have:=(hO b1 hb).1;have:=gg.lt;omega);have kf:QK [] w5.heap vR (rem c.cel):=(((Qu.ints hR (by omega) (L:=ob v) (λb hb=>(hO b hb).2)).st hs)).up (by simp);refine Qc<|x (QB O O)<|xe<|Qg<|QH O (λhP=>?_) (λhP=>?_)
  ·refine Qy ?_;have kg:(rem c.cel).length≤j:=by have hK:¬(j:Int)<((rem c.cel).length:Int):=hP;omega
   rw[Ll kg,←g6] at hu;refine Qc<|Qb<|x Qf<|Qe ?_;exact Qm ⟨[vj,.int .i64 0],⟨O,O,U⟩,gl,vj,by rw[gi];rfl,λI=>absurd gi I,λ_=>⟨QJ ha.own,lj,hu,λL hL=>AvP.auts ha (by omega) (λb hb=>by have:=hL b hb;omega)⟩⟩
  have he:j<(rem c.cel).length:=by have hK:(j:Int)<((rem c.cel).length:Int):=hP;omega
  have gm:(rem c.cel).take (j+1)=(rem c.cel).take j++[(rem c.cel)[j]'he]:=Le he;have gn:=Qdc _ (Lc he);refine Qi<|Qg<|Qh<|Qc<|xii (i:=j) kf O O he λm0 go=>?_;refine Zh ((rem c.cel)[j]'he) λi hi=>?_;rw[hi] at go gm gn;have kh:c.cel.co.length=c.co.length:=Lh ..;rw[kh] at gn;have ki:i=(i.toNat:Int):=by omega
  have hv:i.toNat<c.co.length:=by omega
  have hw:=Lc hv;have gp:coA c.cel i=(c.co[i.toNat]'hv).p.a:=by
   show ((c.co.map IV.it).getD i.toNat _).a=_;simp[List.getD,hv,IV.it]
  refine x (Qv go O)<|Qe<|Qc<|x (Qa O)<|x (Qd ke O O)<|Qb<|xig (g:=Za) (i:=i.toNat) Yz h5.co.arr O (congrArg (Value.int .i64) ki) hv λm1 gq=>?_;refine Zh (c.co[i.toNat]'hv) λq hq=>?_;rw[hq] at gq hw gp;have J:=h5.co.each q hw;refine x (Zb O)<|x (QF (us:=[q.p.va,.int .i64 q.p.a.st,q.p.vm,q.p.ve]) (gq.from 1) O O)<|xl O<|Qt (us:=[nS,.int .i64 0,nS,nS]) O λgr w6 kj kk hf =>
   xl rfl<|Qp (us:=[q.p.va,.int .i64 q.p.a.st,q.p.vm,q.p.ve]) hf O O O O ⟨J.al.one,O,J.mr.one,J.ed.one,U⟩ λH kn hf=>xe ?_
  have hQ:Step [] w5 H:=kj.then1 kn kk;have hg:Step [] H { H with drawn:=H.drawn+1 }:=Step.drew _ _
  have m2:=hQ.size;have hB:gr∉ob vj:=λhm=>by have:=(gk gr hm).2;omega
  have hS:=J.ext hQ;refine QW (Step (ob vj) H) [(0,true),(1,true),(2,true),(4,true),(5,true),(6,true),(7,true),(9,true),(10,true),(3,false),(8,false),(11,false),(12,true),(13,false),(14,false),(15,true)] mixed (by rfl) (by kernel_rfl) (Step.drew _ _) ?_;refine p (λ_=>Qo)<|p (λ_=>Qa O)<|pq (λ_ hc=>Qd (hf.step hc hB) O O)<|p (λ_=>Qa O)<|pq (λ_ hc=>Qd (hf.step hc hB) O O) <|
   p (λ_=>Qa O)<|pq (λ_ hc=>Qd (hf.step hc hB) O O)<|p (λ_=>Qa O)<|pq (λ_ hc=>Qd (hf.step hc hB) O O) <|
   pk<|xf<|(ZZ (hS.al.ext hg)).mono ?_
  rintro r8 w8 ⟨hh,hT⟩;refine ⟨(hg.trans hh).any,?_⟩;refine pk<|xf<|(ZZ ((hS.mr.ext hg).ext hh)).mono ?_;rintro r9 w9 ⟨hy,hU⟩;refine ⟨((hg.trans hh).trans hy).any,?_⟩;refine pk<|xf<|(J7 (((hS.ed.ext hg).ext hh).ext hy)).mono ?_;rintro hz m3 ⟨hV,hW⟩;have hC:=((hg.trans hh).trans hy).trans hV;refine ⟨hC.any,?_⟩
  refine p (λ_=>QE ⟨QY hT,O,QY hU,QY hW,U⟩)<|pk<|QD (us:=[Zc ⟨r8,r9,hz,q.p.a⟩]) O O (by decide) (by simp) ⟨rfl,rfl,U⟩ λm4 m5 hl m6 ko=>⟨(hC.trans hl).any,?_⟩;have hD:=(hQ.trans hC).trans hl;have m7:=hD.size;have m8:=hh.size;have m9:=hy.size;have pa:({ H with drawn:=H.drawn+1 }:World).heap.size=H.heap.size:=rfl
  refine pk<|Q6 (news:=Zc ⟨r8,r9,hz,q.p.a⟩) (L:=[]) (Qq ha.own hD) O O O (ko.at (by simp)) (QeT (p:=⟨r8,r9,hz,q.p.a⟩) (QJ hT) (QJ hU) (QJ hW)) (by omega) (by omega) λgs kp kq hX gt=>⟨(hC.trans hl).any.trans' hX,?_⟩;refine p (λ_=>Qf)<|pe ?_;have hY:∀b∈ob vj,b<H.heap.size:=λb hb=>by have:=(gk b hb).2;omega
  have kr:AvP T.heap.size kp gs (lj++[⟨r8,r9,hz,q.p.a⟩]):=XR.app3 (XR.ext ha hD) (λt ht=>by
   simp only[List.mem_cons,List.not_mem_nil,or_false] at ht;rcases ht with rfl | rfl | rfl
   ·exact ZM.of_own (Qq (Qq (Qq hT hy) hV) hl) J.al.le (by omega) (λb hb=>by have:=hY b hb;omega)
   ·exact ZM.of_own (Qq (Qq hU hV) hl) J.mr.le (by omega) (λb hb=>by have:=hY b hb;omega)
   exact ZM.of_own (Qq hW hl) J.ed.le (by omega) (λb hb=>by have:=hY b hb;omega)) kq hX gt
  refine Qz<|QN O O<|Qb<|xe<|⟨(j+1,gs,lj++[⟨r8,r9,hz,q.p.a⟩]),by simp only[];omega,⟨O,O,U⟩,he,(hs.trans hD).then hX hN,kr,?_,λb hb=>?_⟩
  ·simp only[];rw[gm,Lt,hu,Lt,LC,Mf,Mf,gp]
  rcases gt b hb with h9 | h9
  ·exact hN b h9
  exact .inr (by omega)
 have S:k<lM.length:=by have hK:(k:Int)<(lM.length:Int):=hJ;omega
 have gu:lM.take (k+1)=lM.take k++[lM[k]'S]:=Le S;have hw:=Lc S;rw[LH S,LP,yl] at G;have kt:=ZV.ext hM V;have ku:=ge.ext V;refine Qi<|Qg<|Qh<|Qc<|xig (g:=ZC) (i:=k) jI ku O O S λpc gv=>?_;refine Zh (lM[k]'S) λq hq=>?_;rw[hq] at gv gu hw G
 have gw:QK [] w3.heap q.v q.co:=kt.each q hw [] (by simp);refine x (QF gv O O)<|xl O<|Qt (us:=[.int .i64 0,.int .i64 0,nS]) O λb8 pd kv kw hZ=>xl O<|Qp (us:=ZC q) hZ O O O O ⟨O,O,gw.one,U⟩ λgx kx hZ =>
  xe ?_
 have h1:Step [] w3 gx:=kv.then1 kx kw;have gy:=h7.trans h1;have pf:=h1.size;refine Qc<|x (Qr (hI.ext h1) O O)<|x (Qr hZ O O)<|xl O<|xf<|(QaL (q:=q) (h.ext gy) (gw.ext h1) (g5.ext gy)).mono ?_;rintro pg ky ⟨kz,sa,st,sm,se,rfl,hn,k0,_⟩
 refine Qb<|x (Ql O O)<|x (Ql O O)<|xl O<|Qt (us:=[nS,.int .i64 0,nS,nS]) O λb9 ph k4 k5 ga=>xl O<|Qp (us:=[sa,.int .i64 st,sm,se]) ga O O O O ⟨hn.1,O,hn.2.1,hn.2.2.1,U⟩ λk6 k7 ga =>
  Qe ?_
 have gz:Step [] ky k6:=k4.then1 k7 k5;have g0:=(h1.trans kz).trans gz;refine Qg<|Qc<|Qb<|x (Q9 O O)<|xe<|Q7 rfl (λh2=>?_) (λh2=>?_)
 ·rw[if_pos h2] at G;subst G;refine Qc<|Qb<|x Qf<|Qe ?_;exact Qm ⟨[nS,.int .i64 (zL c.cel q.m)],⟨O,O,U⟩,h7.trans g0,nS,O,λ_=>O,λI=>absurd I h2⟩
 rw[if_neg h2] at G;obtain ⟨k8,hA⟩:=k0 (Lq.1 h2);subst k8;have hge:=Qn Y.own;refine Qi<|Qz<|Qb<|x (Qr ga O O)<|xl O<|QD (us:=[Zc ⟨sa,sm,se,jf c.cel q.m⟩]) O O (by decide) (by simp) ⟨rfl,rfl,U⟩ λpj pm g2 pn k9=>?_;have hF:=g0.trans g2;have po:=hF.size
 refine xl rfl<|Q6 (news:=Zc ⟨sa,sm,se,jf c.cel q.m⟩) (L:=[]) (Qq Y.own hF) O O O (k9.at (by simp)) (QeT (p:=⟨sa,sm,se,jf c.cel q.m⟩) hn.1 hn.2.1 hn.2.2.1) (by omega) (by omega) λg3 ma mc g4 mf =>
  Qe ?_
 have mg:AvP T.heap.size ma g3 (l++[⟨sa,sm,se,jf c.cel q.m⟩]):=XR.app3 (XR.ext Y hF) (Zu.parts (N:=gx.heap.size) (p:=⟨sa,sm,se,jf c.cel q.m⟩) (λL hL=>((hA L hL).ext gz).ext g2) (by omega) (λb hb=>by have:=(hge b hb).2;omega)) mc g4 mf;refine Qz<|QN O O<|Qb<|xe ?_
 refine ⟨(k+1,g3,l++[⟨sa,sm,se,jf c.cel q.m⟩]),by simp only[];omega,⟨O,O,U⟩,S,(V.trans hF).then g4 (λb hb=>.inr (hge b hb).1),mg,?_,G⟩;simp only[];rw[gu,Lt,hr,Lt];rfl
section
variable {s:QP} {l:List Kk} {n:Nat}
end
section
variable {s:QP} {l:List Kk} {n:Nat}
end
section
variable {s:QP} {l:List Kk} {n:Nat}
end
section
variable {p s:QP} {pairs:List (LI)}
end
section
variable {s:QP} {l:List Kk} {n:Nat}
end
section
variable {s:QP} {l:List Kk} {n:Nat} {nm:LI}
end
def cnF (ord:LI) (j:Nat) (e:Ed):Ed:=((j:Int),e.2.1,(ord.idxOf e.2.2:Int))
def cnR (a:QP) (ord:LI) (j:Nat):List Ed:=(ZJ a.ed (ZL ord j)).map (cnF ord j)
theorem yy {l r:LI}{j:Nat}(h:j<l.length):ZL (l++r) j=ZL l j:=by unfold ZL;rw[MC];exact Uw h
structure NuI (st:Int) (ord num:LI):Prop where
 nd:ord.Nodup
 bd:∀s∈ord,0≤s∧s<st
 nl:num.length=st.toNat
 nu:∀k,0≤k→k<st→ZL num k=if k∈ord then (ord.idxOf k:Int) else -1
theorem js {st:Int}{i:Nat}{c:Cs}(h:NuI st c.ord c.num) {e:Ed}(G:0≤e.2.2) (h1:e.2.2<st):NuI st (Zd i c e).ord (Zd i c e).num∧(∃r,(Zd i c e).ord=c.ord++r)∧(Zd i c e).mk'=c.mk'∧(Zd i c e).ed=c.ed++[cnF (Zd i c e).ord i e]∧e.2.2∈(Zd i c e).ord:=by
 have E:=h.nu e.2.2 G h1;have I:e.2.2.toNat<c.num.length:=by rw[h.nl];omega
 unfold Zd;by_cases hm:e.2.2∈c.ord
 ·rw[if_pos hm] at E;rw[if_neg (by rw[E];omega)];refine ⟨h,⟨[],by simp⟩,rfl,?_,hm⟩;simp only[cnF];rw[E]
 rw[if_neg hm] at E;rw[if_pos (by rw[E];decide)];have H:(c.ord++[e.2.2]).idxOf e.2.2=c.ord.length:=by rw[Ml,if_neg hm];simp
 refine ⟨⟨V7 h.nd hm,λs hs=>?_,by simp[h.nl],λk J k1=>?_⟩,⟨[e.2.2],rfl⟩,rfl,?_,by simp⟩
 ·rcases Li.1 hs with hs | hs
  ·exact h.bd s hs
  simp only[List.mem_singleton] at hs;subst hs;exact ⟨G,h1⟩
 ·simp only[];by_cases ek:k=e.2.2
  ·subst ek;rw[if_pos (by simp),H];unfold ZL;simp[List.getD,List.getElem?_set_self I]
  have S:e.2.2.toNat≠k.toNat:=by omega
  have e1:ZL (c.num.set e.2.2.toNat c.ord.length) k=ZL c.num k:=by unfold ZL;simp[List.getD,List.getElem?_set_ne S]
  rw[e1,h.nu k J k1];by_cases hk:k∈c.ord
  ·rw[if_pos hk,if_pos (LL _ hk),Ml,if_pos hk]
  rw[if_neg hk,if_neg (λT=>by
   rcases Li.1 T with h2 | h2
   ·exact hk h2
   simp only[List.mem_singleton] at h2;exact ek h2)]
 simp only[cnF];rw[H]
theorem VV {st:Int}{i:Nat}:∀(E:List Ed) (c:Cs),NuI st c.ord c.num→(∀e∈E,0≤e.2.2∧e.2.2<st)→NuI st (E.foldl (Zd i) c).ord (E.foldl (Zd i) c).num∧(∃r,(E.foldl (Zd i) c).ord=c.ord++r)∧(E.foldl (Zd i) c).mk'=c.mk' ∧
  (E.foldl (Zd i) c).ed=c.ed++E.map (cnF (E.foldl (Zd i) c).ord i)∧∀e∈E,e.2.2∈(E.foldl (Zd i) c).ord
 | [],c,h,_=>⟨h,⟨[],by simp⟩,rfl,by simp,λe he=>by cases he⟩
 | e::E,c,h,hb=>by
  obtain ⟨G,H⟩:=hb e Ls;obtain ⟨h1,⟨I,h2⟩,h3,J,h5⟩:=js (i:=i) h G H;obtain ⟨k1,⟨S,k2⟩,k3,T,V⟩:=VV (i:=i) E (Zd i c e) h1 (λd hd=>hb d (Lm _ hd));rw[LO];refine ⟨k1,⟨I++S,by rw[k2,h2,LC]⟩,k3.trans h3,?_,λd hd=>?_⟩
  ·rw[T,J,LC,LP];have:cnF (Zd i c e).ord i e=cnF (E.foldl (Zd i) (Zd i c e)).ord i e:=by
    unfold cnF;rw[k2,Ml,if_pos h5]
   rw[this];rfl
  rcases Lb.1 hd with rfl | hd
  ·rw[k2];exact LL _ h5
  exact V d hd
structure CnG (a:QP) (i:Nat) (c:Cs):Prop where
 nu:NuI a.st c.ord c.num
 le:i≤c.ord.length
 hd:ZL c.ord 0=0∧0<c.ord.length
 mk2:c.mk'=((List.range' 0 i).filter λj:Nat=>decide (ZL c.ord j∈a.mr)).map λj:Nat=>(j:Int)
 ed:c.ed=(List.range' 0 i).flatMap (cnR a c.ord)
 cl:∀j,j<i→∀e∈ZJ a.ed (ZL c.ord j),e.2.2∈c.ord
theorem QgQ {a:QP}{ord r:LI}{j:Nat}(E:j<ord.length) (hc:∀e∈ZJ a.ed (ZL ord j),e.2.2∈ord):cnR a (ord++r) j=cnR a ord j:=by
 unfold cnR;rw[yy E];refine M7 λe he=>?_;unfold cnF;rw[Ml,if_pos (hc e he)]
theorem CnG.next {a:QP}(S:Zi a) {i:Nat}{c:Cs}(h:CnG a i c) (hi:i<c.ord.length):CnG a (i+1) (UQ a i c):=by
 unfold UQ;have H:(ZN a i c).ord=c.ord:=by unfold ZN;split <;> rfl
 have T:(ZN a i c).num=c.num:=by unfold ZN;split <;> rfl
 have V:(ZN a i c).ed=c.ed:=by unfold ZN;split <;> rfl
 obtain ⟨k1,⟨r,k2⟩,k3,G,I⟩:=VV (st:=a.st) (i:=i) (ZJ a.ed (ZL c.ord i)) (ZN a i c) (by rw[H,T];exact h.nu) (λe he=>(S.ed e (Zw he).1).2.2.2);generalize (ZJ a.ed (ZL c.ord i)).foldl (Zd i) (ZN a i c)=d at k1 k2 k3 G I;rw[H] at k2;rw[V] at G;have pre:∀j:Nat,j≤i→ZL d.ord j=ZL c.ord j:=λj E=>by rw[k2];exact yy (by omega)
 refine ⟨k1,by rw[k2];simp;omega,⟨by have:=pre 0 (by omega);rw[show ((0:Nat):Int)=0 from rfl] at this;rw[this];exact h.hd.1,by rw[k2];simp;omega⟩,?_,?_,λj E=>?_⟩
 ·rw[k3,Mz,L9,Lt,LR];have e1:((List.range' 0 i).filter λj:Nat=>decide (ZL d.ord j∈a.mr))=(List.range' 0 i).filter λj:Nat=>decide (ZL c.ord j∈a.mr):=by
   refine List.filter_congr λj E=>?_;rw[MD] at E;rw[pre j (by omega)]
  rw[e1];unfold ZN;by_cases hm:ZL c.ord i∈a.mr
  ·rw[if_pos hm];simp only[];rw[Mc,if_pos (by rw[pre i (Lr _)];exact decide_eq_true hm),MT,h.mk2];rfl
  rw[if_neg hm];rw[Mc,if_neg (by rw[pre i (Lr _),decide_eq_false hm];simp),MT,h.mk2];simp
 ·rw[G,Mz,LA,LR,h.ed];congr 1
  ·refine Xa λj E=>?_;rw[MD] at E;rw[k2];exact (QgQ (by omega) (h.cl j (by omega))).symm
  simp only[List.flatMap_cons,List.flatMap_nil,List.append_nil];unfold cnR;rw[pre i (Lr _)]
 by_cases e:j=i
 ·subst e;rw[pre j (Lr _)];exact I
 intro Y J;rw[pre j (by omega)] at J;rw[k2];exact LL _ (h.cl j (by omega) Y J)
theorem qB {a:QP}(G:Zi a):∀(f i:Nat) (c:Cs),CnG a i c→∃E,CnG a E (Xc a f i c)∧((Xc a f i c).ord.length=E∨E=i+f)
 | 0,i,c,h=>⟨i,h,.inr O⟩
 | f+1,i,c,h=>by
  rw[Xc];split
  ·rename_i hi;obtain ⟨E,h1,h2⟩:=qB G f (i+1) _ (h.next G hi);exact ⟨E,h1,by omega⟩
  exact ⟨i,h,.inl (by have:=h.le;omega)⟩
structure CnP (a:QP) (ord:LI):Prop where
 nd:ord.Nodup
 bd:∀s∈ord,0≤s∧s<a.st
 hd:ZL ord 0=0∧0<ord.length
 al:(YV a).al=a.al
 st:(YV a).st=(ord.length:Int)
 mk2:(YV a).mr=((List.range' 0 ord.length).filter λj:Nat=>decide (ZL ord j∈a.mr)).map λj:Nat=>(j:Int)
 ed:(YV a).ed=(List.range' 0 ord.length).flatMap (cnR a ord)
 cl:∀j,j<ord.length→∀e∈ZJ a.ed (ZL ord j),e.2.2∈ord
theorem Qci {a:QP}(G:Zi a) (Y:0<a.st):∃ord,CnP a ord:=by
 have H:0<a.st.toNat:=by omega
 have I:CnG a 0 (Yd a):=by
  refine ⟨⟨by simp[Yd],λs hs=>by simp[Yd] at hs;subst hs;omega,by simp[Yd],λk k0 k1=>?_⟩,Lj _,⟨by simp[Yd,ZL],by simp[Yd]⟩,by simp[Yd],by simp[Yd],λj hj=>by omega⟩;by_cases ek:k=0
  ·subst ek;rw[if_pos (by simp[Yd])];unfold ZL Yd;simp[List.getD,H]
  rw[if_neg (by simpa[Yd] using ek)];unfold Yd;have J:0≠k.toNat:=by omega
  have S:k.toNat<a.st.toNat:=by omega
  unfold ZL;rw[MJ,M5 J];simp[S]
 obtain ⟨T,h1,h2⟩:=qB G a.st.toNat 0 (Yd a) I;have ha:(Xc a a.st.toNat 0 (Yd a)).ord.length≤a.st.toNat:=pig _ _ h1.nu.nd (λx hx=>by have:=h1.nu.bd x hx;omega);have V:T=(Xc a a.st.toNat 0 (Yd a)).ord.length:=by have:=h1.le;omega
 subst V;have E:YV a=⟨a.al,((Xc a a.st.toNat 0 (Yd a)).ord.length:Int),(Xc a a.st.toNat 0 (Yd a)).mk',(Xc a a.st.toNat 0 (Yd a)).ed⟩:=by unfold YV;rw[if_neg (by omega)]
 refine ⟨(Xc a a.st.toNat 0 (Yd a)).ord,h1.nu.nd,h1.nu.bd,h1.hd,by rw[E],by rw[E],?_,?_,h1.cl⟩
 ·rw[E];exact h1.mk2
 rw[E];exact h1.ed
section
variable {p s:QP} {pn xn v:Int}
end
section
variable {s:QP} {l:List Kk} {n:Nat}
end
theorem Qcj {a:QP}(E:Zi a):Zi (YV a):=by
 have S:=E.st0;have h1:=E.st1;by_cases hz:a.st=0
 ·unfold YV;rw[if_pos hz];exact ⟨E.al,E.ali,by simp,by simp,by simp,by simp,by simp,by simp⟩
 obtain ⟨ord,h⟩:=Qci E (by omega);have hl:ord.length≤a.st.toNat:=pig _ _ h.nd (λx hx=>by have:=h.bd x hx;omega);refine ⟨by rw[h.al];exact E.al,by rw[h.al];exact E.ali,by rw[h.st];omega,by rw[h.st];omega,λs hs=>?_,?_,λe he=>?_,?_⟩
 ·rw[h.mk2] at hs;simp only[List.mem_map,List.mem_filter,List.mem_range'_1] at hs;obtain ⟨i,⟨hi,_⟩,rfl⟩:=hs;rw[h.st];omega
 ·rw[h.mk2];unfold YX;rw[L7];refine List.Pairwise.sublist MU ?_;exact (List.pairwise_lt_range' (s:=0) (n:=ord.length)).imp (λh=>by omega)
 ·rw[h.ed] at he;obtain ⟨j,G,hd⟩:=Mj.1 he;rw[MD] at G;unfold cnR at hd;obtain ⟨d,H,rfl⟩:=Ly.1 hd;have hm:=h.cl j (by omega) d H;have:=MG hm;have J:=(E.ed d (Zw H).1).2.2.1;rw[h.st,h.al];unfold cnF;exact ⟨by simp only[];omega,by simp only[];omega,J,by simp only[];omega,by simp only[];omega⟩
 rw[h.ed];have key:∀n,((List.range' 0 n).flatMap (cnR a ord)).Pairwise λx y:Ed=>x.1<y.1∨(x.1=y.1∧x.2.1<y.2.1):=by
  intro n;induction n with
  | zero=>simp
  | succ n ih =>
   rw[Mz,LA,LR,MA];refine ⟨ih,?_,λx hx y hy=>?_⟩
   ·simp only[List.flatMap_cons,List.flatMap_nil,List.append_nil];unfold cnR;rw[L7];have h2:(ZJ a.ed (ZL ord n)).Pairwise λx y:Ed=>x.1<y.1∨(x.1=y.1∧x.2.1<y.2.1):=List.Pairwise.sublist MU E.edi;refine List.Pairwise.imp_of_mem (λ{x y} hx hy T=>?_) h2;have e1:=(Zw hx).2;have e2:=(Zw hy).2;right;exact ⟨O,by show x.2.1<y.2.1;omega⟩
   obtain ⟨j,G,I⟩:=Mj.1 hx;rw[MD] at G;simp only[List.flatMap_cons,List.flatMap_nil,List.append_nil] at hy;unfold cnR at I hy;obtain ⟨d,_,rfl⟩:=Ly.1 I;obtain ⟨V,_,rfl⟩:=Ly.1 hy;left;show (j:Int)<(n:Int);omega
 exact key _
theorem QbR {a:QP}(E:Zi a):Zi ⟨a.al,0,[],[]⟩ :=
 ⟨E.al,E.ali,Nc _,(by decide:(0:Int)≤4096),(λs hs=>by cases hs),List.Pairwise.nil,(λe he=>by cases he),List.Pairwise.nil⟩
theorem Qbt {a:QP}(E:Zi a) (lf:Lf):Zi (jp a lf):=by
 unfold jp;split
 ·exact QbR E
 exact Qcj (qi E lf)
theorem QcX {c:Zv}(h:suE c=0):Zi (suA c):=Qbt (Qc4 h).1 _
theorem QdD {c:Zv}{m:Vo}(h:zL c m=0):Zi (jf c m):=by
 have h1:zL c m=if jg c m≠0 then jg c m else suE (mcC c m):=rfl
 rw[h1] at h;split at h
 ·rename_i h2;exact absurd h h2
 exact QcX h
theorem yk {c:Zv}:∀{l:List Vo},msL c l=0→∀m∈l,zL c m=0
 | [],_,m,hm=>by cases hm
 | x::l,h,m,hm=>by
  rw[yl] at h;by_cases h1:zL c x≠0
  ·rw[if_pos h1] at h;exact absurd h h1
  rw[if_neg h1] at h;rcases Lb.1 hm with rfl | hm
  ·exact Lq.1 h1
  exact yk h m hm
theorem QcV {c:Zv}(h:Kp c=0):∀a∈qS c,Zi a:=by
 rw[QcW] at h;by_cases h1:Q8 c≠0
 ·rw[if_pos h1] at h;exact absurd h h1
 rw[if_neg h1] at h;have G:=ZF (Lq.1 h1);have H:qS c=(mods c).map (jf c)++(rem c).map (coA c):=rfl;intro a ha;rw[H] at ha;rcases Li.1 ha with ha | ha
 ·obtain ⟨m,hm,rfl⟩:=Ly.1 ha;exact QdD (yk h m hm)
 obtain ⟨i,hi,rfl⟩:=Ly.1 ha;have I:=Qdc i hi;have E:i.toNat<c.co.length:=by omega
 have e:coA c i=(c.co[i.toNat]'E).a:=by unfold coA;simp[List.getD,E]
 rw[e];exact G.co _ (Lc E)
theorem Qi6 (c:Zv):tgE c=if Kp c≠0 then Kp c else K1 (qS c):=rfl
theorem QcJ {n k:Nat}(h:k<n):(JP n).drop k=(k:Int)::(JP n).drop (k+1):=by
 have hl:k<(JP n).length:=by rw[qP];exact h
 rw[LH hl];congr 1;simp[JP]
theorem Qc6 (c:Zv) (v:Int) (l:LI):shd c (v::l)=if 2≤(ownr c v).length then some (v,cget (ownr c v) 0,cget (ownr c v) 1) else shd c l:=rfl
def shR (c:Zv):Option (Int×Int×Int):=if Q8 c≠0 then none else QhE c
set_option maxHeartbeats 4000000 in
theorem qJ {L:LN}{w:World}{c:CL}(h0:ZB L w.heap c) :
  QI prog 20 [c.val] w λr w'=>Step [] w w'∧r=.tuple #[.int .i64 (QhI (shR c.cel)).1,.int .i64 (QhI (shR c.cel)).2.1,.int .i64 (QhI (shR c.cel)).2.2,.bool (shR c.cel).isSome,.int .i64 (Q8 c.cel)]:=by
 have h:=h0.up (L':=[]) (by simp);have hsr:shR c.cel=if Q8 c.cel≠0 then none else QhE c.cel:=rfl
 refine Zh (Q8 c.cel) λE hE=>?_;refine Zh (shR c.cel) λS hS=>?_;rw[hS,hE] at hsr;rw[hS,hE];have hP:=h.co.arr.le;have hQ:=h.ev.arr.le;refine QI.of_W func20 O ntmps20 results20 (by simp) ?_;refine Qc<|xl O<|QQ (us:=c.cells) O λb1 w1 ht hR hu=>x Qf<|x Qf<|x Qf<|x Qf<|Qe<|Qg<|Qc<|x (Qr hu O O)<|xl O<|xf<|(Ym (h.ext ht)).mono ?_;rintro r2 w2 ⟨hv,hw⟩;rw[hE] at hv;subst hv;refine Qe ?_
 have he:=ht.trans hw;have hy:=hu.ext hw;refine Qc<|Qb<|x (Q9 O O)<|xe<|Q7 rfl (λV=>?_) (λV=>?_)
 ·rw[if_pos V] at hsr;subst hsr;refine Qc<|Qb<|x Qf<|x Qf<|x Qf<|x Qf<|Qe ?_;exact Qm ⟨[.int .i64 0,.int .i64 0,.int .i64 0,.bool false,.int .i64 E],⟨O,O,O,O,O,U⟩,he,O⟩
 rw[if_neg V] at hsr;have hz:E=0:=Lq.1 V;have hT:c.cel.ev.length=c.ev.length:=rfl;have hC:QhE c.cel=shd c.cel (JP c.ev.length):=rfl;rw[hC] at hsr;refine Qi<|Qg<|Qc<|x (Qa O)<|x (Qd hy O O)<|x (Qs (h.ext he).ev.arr O)<|Qb<|xe ?_
 refine Qh<|QA (α:=Nat) [(2,6),(8,11),(20,51)] (λz=>[(20,.int .i64 z)]) (λz w'=>z≤c.ev.length∧Step [] w2 w'∧shd c.cel ((JP c.ev.length).drop z)=S) (λz=>c.ev.length - z) (by rfl) 0 Z
  ⟨Lj _,Step.refl _ _,hsr.symm⟩ ?_
 rintro k g w3 ⟨hk,hf,G⟩;have hg:=he.trans hf;have hD:=hy.ext hf;have h3:=h.ext hg;refine Qc<|x (QB O O)<|xe<|Qg<|QH O (λhh=>?_) (λhh=>?_)
 ·refine Qy ?_;have hF:c.ev.length≤k:=by have hj:¬(k:Int)<(c.ev.length:Int):=hh;omega
  rw[Lp (by rw[qP];exact hF)] at G;have hG:S=none:=G.symm;subst hG;refine Qc<|x Qf<|x Qf<|x Qf<|x Qf<|Qe ?_;exact Qm ⟨[.int .i64 0,.int .i64 0,.int .i64 0,.bool false,.int .i64 0],⟨O,O,O,O,O,U⟩,hg,by rw[hz];rfl⟩
 have h1:k<c.ev.length:=by have hj:(k:Int)<(c.ev.length:Int):=hh;omega
 rw[QcJ h1,Qc6] at G;refine Qi<|Qg<|Qh<|Qc<|Qb<|Qe<|Qc<|Qe<|Qg<|Qc<|x (Qa O)<|x (Qd hD O O)<|x (Qs h3.co.arr O)<|Qb<|xe ?_;have hl:ownr c.cel (k:Int)=ixs (λq:IV=>decide ((k:Int)∈q.p.a.al)) 0 c.co:=by
  show ixs (λx:XT=>decide ((k:Int)∈x.a.al)) 0 (c.co.map (·.it))=_;generalize 0=i0;generalize c.co=l;induction l generalizing i0 with
  | nil=>rfl
  | cons a l ih=>rw[LP,ixs,ixs,ih (i0+1)];rfl
 rw[hl] at G;refine Qh<|QA (α:=Nat×Value) [(9,11),(26,40)] (λz=>[(9,z.2),(26,.int .i64 z.1)]) (λz w'=>z.1≤c.co.length∧Step [] w3 w'∧Qu 3 w3.heap.size w' z.2 (ixs (λq:IV=>decide ((k:Int)∈q.p.a.al)) 0 (c.co.take z.1))) (λz=>c.co.length - z.1) (by rfl) (0,nS) ⟨O,O,U⟩
  ⟨Lj _,Step.refl _ _,QM _ _ _ _⟩ ?_
 rintro ⟨i,v⟩ g w4 ⟨hi,J,H⟩;simp only[] at hi H;have h5:=hg.trans J;have h4:=h.ext h5;have hU:=J.size;have hm:=VO (λq:IV=>decide ((k:Int)∈q.p.a.al)) (c.co.take i) 0;rw[Lx] at hm;refine Qc<|x (QB O O)<|xe<|Qg<|QH O (λhn=>?_) (λhn=>?_)
 ·refine Qy ?_;have h6:c.co.length≤i:=by have hj:¬(i:Int)<(c.co.length:Int):=hn;omega
  rw[Ll h6] at H;rw[Ll h6] at hm;refine Zh (ixs (λq:IV=>decide ((k:Int)∈q.p.a.al)) 0 c.co) λow hl=>?_;rw[hl] at H hm G;have hA:QK [] w4.heap v ow:=Qu.ints H (by omega) (by simp);refine Qc<|Qb<|x (Qs hA O)<|x (ZX O O)<|xe<|Q7 O (λho=>?_) (λho=>?_)
  ·have h2:2≤ow.length:=by have hH:(2:Int)≤(ow.length:Int):=ho;omega
   rw[if_pos h2] at G;subst G;have e0:cget ow 0=ow[0]'(by omega):=by unfold cget;simp[List.getD,show 0<ow.length by omega]
   have e1:cget ow 1=ow[1]'(by omega):=by unfold cget;simp[List.getD,show 1<ow.length by omega]
   refine Qg<|QW (Step [] w4) [(0,true),(1,true),(2,true),(3,true),(4,true),(5,true),(6,true),(7,true),(8,true),(9,true),(10,true),(11,true)] mixed (by rfl) (by kernel_rfl) (Step.drew _ _) ?_;refine p (λ_=>Qo)<|p (λ_=>Qo)<|pii (i:=0) O hA O O (by omega) λhV h7=>?_;rw[←e0] at h7;refine pq (λ_ hc=>Qv (h7.st hc) O) <|
    p (λ_=>Qo)<|pii (i:=1) O hA O O (by omega) λhW h8=>?_
   rw[←e1] at h8;refine pq (λ_ hc=>Qv (h8.st hc) O)<|p (λ_=>Qf) <|
    p (λ_=>Qf)<|p (λ_=>Qf)<|p (λ_=>Qf)<|p (λ_=>Qf)<|pe ?_
   exact Qm ⟨[.int .i64 k,.int .i64 (cget ow 0),.int .i64 (cget ow 1),.bool true,.int .i64 0],⟨O,O,O,O,O,U⟩,h5.trans (Step.drew _ _),by rw[hz];rfl⟩
  have h2:¬2≤ow.length:=by have hH:¬(2:Int)≤(ow.length:Int):=ho;omega
  rw[if_neg h2] at G;refine Qi<|Qz<|QN O O<|Qb<|xe ?_;exact ⟨k+1,by omega,Z,h1,hf.trans J,G⟩
 have I:i<c.co.length:=by have hj:(i:Int)<(c.co.length:Int):=hn;omega
 have h9:=Lc I;have T:=yr (λq:IV=>decide ((k:Int)∈q.p.a.al)) I;refine Qi<|Qg<|Qh<|Qc<|Qb<|xig (g:=Za) (i:=i) Yz h4.co.arr O O I λhX hB=>?_;refine Zh (c.co[i]'I) λq hq=>?_;rw[hq] at hB h9 T;have Y:=h4.co.each q h9;refine x (QF hB O O)<|xl O<|Qt (us:=[.string .empty,nS,.int .i64 0,nS,nS]) O λhY w5 hI hJ hp=>x Qf <|
  xl rfl<|Qp (us:=Za q) hp O O O O ⟨O,Y.al.one,O,Y.mr.one,Y.ed.one,U⟩ λw6 hK hp=>xe ?_
 have ha:Step [] w4 w6:=hI.then1 hK hJ;refine Qc<|x (Qa O)<|x (Qa O)<|x (Qd hp O O)<|Qb<|xl O<|xf<|(ZR (Y.al.ext ha) (k:Int)).mono ?_;rintro r7 w7 ⟨rfl,rfl⟩;refine xe<|Q7 rfl (λhr=>?_) (λhr=>?_)
 ·rw[if_pos (decide_eq_true hr)] at T;refine Qz<|Qb<|Qb<|xl O<|QD (us:=[[.int .i64 i]]) O O (by decide) (by simp) ⟨rfl,rfl,U⟩ λhZ w8 hL ga hM=>?_;have hs:=ha.trans hL;have gb:=hs.size;refine xl O<|Q6 (news:=[.int .i64 i]) (L:=[]) (Qq H hs) O O O (hM.at (by simp)) (by simp[Value.oneCell']) (by omega) (by omega) λv9 w9 hN hO gc =>
   Qe ?_
  have hge:=Qn H;refine Qz<|QN O O<|Qb<|xe<|⟨(i+1,v9),by simp only[];omega,⟨O,O,U⟩,I,(J.trans hs).then hO (λb hb=>.inr (hge b hb).1),?_⟩;simp only[];rw[T];exact Qu.snoc hN
 rw[if_neg (by simpa using hr),LJ] at T;refine Qi<|Qz<|QN O O<|Qb<|xe ?_;exact ⟨(i+1,v),by simp only[];omega,⟨O,O,U⟩,I,J.trans ha,by simp only[];rw[T];exact Qq H ha⟩
theorem Qag {w:World}(E:Kb w 4096):QI prog 50 [] w λr w'=>r=.bool true∧Step [] w w':=by
 refine QI.of_W func50 O ntmps50 results50 (by simp) ?_;refine Qc<|Qe<|Q0 (α:=Unit) [(0,4)] (λz=>[(0,.bool true)]) (λz w'=>Step [] w w') (by rfl) ?_ ?_
 ·refine Qz<|xl O<|xf<|(jN E).mono ?_;rintro S G ⟨rfl,H⟩;refine Qb<|xl O<|xf<|(Qcs G).mono ?_;rintro T V ⟨rfl,I⟩;refine x (Qj O)<|Qe ?_;exact ⟨(),Z,H.trans I⟩
 rintro z g Y J;exact Qm ⟨[.bool true],Z,O,J⟩
theorem Vo.eq_iff (a b:Vo):a=b↔a.kd=b.kd∧a.ix=b.ix∧a.co=b.co:=by
 cases a;cases b;simp
instance mdlDec (a b:Vo):Decidable (a=b):=decidable_of_iff _ (Vo.eq_iff a b).symm
theorem Up {L L':LN}{w:World}{q q':MV}(h:QK L w.heap q.v q.co) (h':QK L' w.heap q'.v q'.co):QI prog 16 [.agg (ZC q).toArray,.agg (ZC q').toArray] w λr w'=>r=.bool (decide (q.m=q'.m))∧Step [] w w':=by
 refine QI.of_W func16 O ntmps16 results16 (by simp) ?_;refine Qc<|xl O<|QQ (us:=ZC q) O λb2 w1 S ha T=>xl O<|QQ (us:=ZC q') O λb3 w2 J hb G=>Qe ?_;have E:=S.trans J;have H:=T.ext J;refine Q0 (α:=Bool) [(4,23)] (λz=>[(4,.bool z)]) (λz w'=>Step [] w w'∧z=decide (q.m=q'.m)) (by rfl) ?_ ?_
 ·refine Qz<|x (Qa O)<|x (Qd H O O)<|x (Qa O)<|x (Qd G O O)<|xb (Q5 O O) (λh9=>?_) (λh9=>?_)
  ·refine Qb<|x (Qa O)<|x (Qd H O O)<|x (Qa O)<|x (Qd G O O)<|xb (Q5 O O) (λI=>?_) (λI=>?_)
   ·refine x (Qj O)<|Qb<|x (Qa O)<|x (Qd H O O)<|x (Qa O)<|x (Qd G O O)<|xl O<|xf<|(qh (h.ext E) (h'.ext E)).mono ?_;rintro r3 w3 ⟨rfl,V⟩;refine x (Qj O)<|Qe<|⟨_,Z,E.trans V,?_⟩;refine decide_eq_decide.2 ?_;rw[Vo.eq_iff];exact ⟨λe=>⟨h9,I,e⟩,λe=>e.2.2⟩
   refine x (Qj O)<|Qb<|xs O<|xs O<|xs O<|xs O<|xs O<|x (Qj O)<|Qe<|⟨false,Z,E,(decide_eq_false λe=>I ?_).symm⟩;exact congrArg Vo.ix e
  refine Qb<|xs O<|xs O<|xs O<|xs O<|xs O<|x (Qj O)<|Qb<|xs O<|xs O<|xs O<|xs O<|xs O<|x (Qj O)<|Qe<|⟨false,Z,E,(decide_eq_false λe=>h9 ?_).symm⟩;exact congrArg Vo.kd e
 rintro z g w4 ⟨Y,hz⟩;exact Qm ⟨[.bool z],Z,by rw[←hz];rfl,Y⟩
def XH:ByteArray:=⟨#[98,117,102,102,101,114]⟩
def KH:XT:=⟨XH,⟨[1,2],2,[0,1],[(0,1,1),(1,2,0)]⟩⟩
def Qgg:Zv:={ mzC 3 with rq:=[KH],ex:=[Qer 1 2] }
def jO:Zv:={ Qgg with ex:=[] }
theorem QdP:Q8 Qgg=0:=by kernel_rfl
theorem QdO:mods Qgg=[⟨1,0,[0,1]⟩,⟨2,0,[1,2]⟩]:=by kernel_rfl
theorem zr:Q8 jO=0:=by kernel_rfl
theorem QdQ:rem jO=[2]:=by kernel_rfl
theorem QdS:Kp jO=0:=by kernel_rfl
theorem QdR:(qS jO).length=2:=by kernel_rfl
theorem Qge:((qS jO).map (·.st)).getD 1 0=2:=by kernel_rfl
theorem Qgf:shR jO=none:=by kernel_rfl
set_option maxHeartbeats 4000000 in
theorem KN (w:World):QI prog 126 [] w λr w'=>Step [] w w'∧Qhb w.heap.size w'.heap r Qgg:=by
 refine QI.of_W func126 O ntmps126 results126 (by simp) ?_;refine Qc<|xl O<|Qt (us:=Z5) O λG w1 hp hR hr=>xe ?_;refine Qc<|xl O<|xf<|(Xw 3 (by decide) w1).mono ?_;rintro r2 w2 ⟨hf,E,rfl,h1,hg⟩;refine xl rfl<|Qt (us:=Z5) O λH w3 h3 hs h4=>xl O<|Qp (us:=E.cells) h4 O O O O (hg [] (by simp)).ones λw4 h5 ht=>xe ?_;have ha:Step [] w2 w4:=h3.then1 h5 hs;have hS:=hp.size
 have hT:=hf.size;have hU:=ha.size;have h6:=hr.lt;have h7:=ht.lt;refine Qc<|xl O<|QD (us:=[[.int .i64 1],[.int .i64 2]]) O O (by decide) (by simp) ⟨rfl,rfl,rfl,rfl,U⟩ λS w5 hu hV h8=>xl rfl<|QD (us:=[[.int .i64 0],[.int .i64 1]]) rfl rfl (by decide) (by simp) ⟨rfl,rfl,rfl,rfl,U⟩ λT w6 hh hW hA =>
  x (QE ⟨rfl,O,O,U⟩)<|x (QE ⟨O,O,O,U⟩)<|xl O<|QD (us:=[Qw (0,1,1),Qw (1,2,0)]) O O (by decide) (by exact (by decide:2*3≤1000000)) ⟨O,O,O,O,U⟩ λV w7 hc hY hB=>?_
 have hC:=(hu.trans hh).trans hc;refine x (QE ⟨O,O,O,O,U⟩)<|x (Z4 [(0,[.string XH]),(1,[.slice (some ⟨S,0,none⟩) 2 2,.int .i64 2,.slice (some ⟨T,0,none⟩) 2 2,.slice (some ⟨V,0,none⟩) 2 2])] ⟨O,O,O,O,U⟩) <|
  xl rfl<|QD (us:=[[.string XH,.slice (some ⟨S,0,none⟩) 2 2,.int .i64 2,.slice (some ⟨T,0,none⟩) 2 2,.slice (some ⟨V,0,none⟩) 2 2]]) O O (by decide) (by exact (by decide:1*5≤1000000)) ⟨O,O,U⟩ λI w8 Y hZ hD=>?_
 have hv:=hC.trans Y;refine x (Qa O)<|xl O<|QL (j:=2) (u:=.slice (some ⟨I,0,none⟩) 1 1) (ht.ext hv) O O (by simp) rfl λw9 hi hE=>xe ?_;refine Qc<|x (QE ⟨O,O,U⟩)<|x (QE ⟨O,O,U⟩)<|xl O<|QD (us:=[QX (1,1),QX (2,1)]) O O (by decide) (by exact (by decide:2*2≤1000000)) ⟨O,O,O,O,U⟩ λhe ga hw gb hF=>x (QE ⟨O,O,U⟩) <|
  xl rfl<|QD (us:=[[.string Jn,.slice (some ⟨he,0,none⟩) 2 2]]) O O (by decide) (by exact (by decide:1*2≤1000000)) ⟨O,O,U⟩ λJ hG hj gc hH=>?_
 have hk:=hw.trans hj;refine x (Qa O)<|xl O<|QL (j:=3) (u:=.slice (some ⟨J,0,none⟩) 1 1) (hE.ext hk) O O (by simp) rfl λhy hl hJ=>xe ?_;have ge:=hu.size;have gg:=hh.size;have gh:=hc.size;have gi:=Y.size;have gj:=hi.size;have gk:=hw.size;have gl:=hj.size;have hn:Step [H] w4 hy:=((hv.any.trans' hi).trans hk.any).trans' hl
 have hK:G∉[H]:=by simp only[List.mem_singleton];omega
 have hM:=((hr.ext hf).ext ha).step hn hK;have hN:ZO [E.ve,E.vc,.slice (some ⟨I,0,none⟩) 1 1,.slice (some ⟨J,0,none⟩) 1 1,E.vk]:=by
  have h9:=(hg [] (by simp)).ones;exact ⟨h9.1,h9.2.1,O,O,h9.2.2.2.2.1,U⟩
 refine Qc<|x (Qr hJ O O)<|xl O<|Qp (us:=[E.ve,E.vc,.slice (some ⟨I,0,none⟩) 1 1,.slice (some ⟨J,0,none⟩) 1 1,E.vk]) hM O O O O hN λgm hz hO=>xe ?_
 have hq:=CL.cel_ex (CL.cel_rq h1 (.slice (some ⟨I,0,none⟩) 1 1) [⟨XH,⟨.slice (some ⟨S,0,none⟩) 2 2,.slice (some ⟨T,0,none⟩) 2 2,.slice (some ⟨V,0,none⟩) 2 2,KH.a⟩⟩]) (.slice (some ⟨J,0,none⟩) 1 1) [⟨Jn,.slice (some ⟨he,0,none⟩) 2 2,[(1,1),(2,1)]⟩]
 refine Qm ⟨[.agg [E.ve,E.vc,.slice (some ⟨I,0,none⟩) 1 1,.slice (some ⟨J,0,none⟩) 1 1,E.vk].toArray],⟨⟨_,O,Qx O (hO.at (L:=[]) (by simp)).cells⟩,U⟩,(((hp.trans hf).trans ha).then1 hn (by omega)).then1 hz (by omega),_,rfl,hq,λL hL=>?_⟩;have h0:∀b∈G::L,b<w1.heap.size:=λb hb=>by
  rcases Lb.1 hb with rfl | hb
  ·exact h6
  have:=hL b hb;omega
 have hP:∀b∈H::G::L,b<w4.heap.size:=λb hb=>by
  rcases Lb.1 hb with rfl | hb
  ·exact h7
  have:=h0 b hb;omega
 have h2:=(hg (G::L) h0).up (L':=H::G::L) (λb hb=>by
  rcases Lb.1 hb with rfl | hb
  ·exact .inr hs
  exact .inl hb)
 have ho:=(h2.ext ha).st (hn.mono (by simp));have nB:∀b,w4.heap.size≤b→b∉H::G::L:=λb hb hm=>by have:=hP b hm;omega
 have hI:YW (H::G::L) w8.heap (.slice (some ⟨I,0,none⟩) 1 1) [⟨XH,⟨.slice (some ⟨S,0,none⟩) 2 2,.slice (some ⟨T,0,none⟩) 2 2,.slice (some ⟨V,0,none⟩) 2 2,KH.a⟩⟩]:=by
  refine ⟨hD.arr (nB _ (by omega)) (n:=1) (cap:=1) (sz:=5) O (by decide) (Lr _),λq hq=>?_,λq hq=>?_⟩
  ·rw[La.1 hq];exact ⟨(((h8.ext hh).ext hc).ext Y).arr (nB _ (by omega)) (n:=2) (cap:=2) (sz:=1) O (by decide) (Lr _),((hA.ext hc).ext Y).arr (nB _ (by omega)) (n:=2) (cap:=2) (sz:=1) O (by decide) (Lr _),(hB.ext Y).arr (nB _ (by omega)) (n:=2) (cap:=2) (sz:=3) O (by decide) (Lr _)⟩
  rw[La.1 hq];exact XI (by decide)
 have hX:UM (H::G::L) hG.heap (.slice (some ⟨J,0,none⟩) 1 1) [⟨Jn,.slice (some ⟨he,0,none⟩) 2 2,[(1,1),(2,1)]⟩]:=by
  refine ⟨hH.arr (nB _ (by omega)) (n:=1) (cap:=1) (sz:=2) O (by decide) (Lr _),λq hq=>?_,λq hq=>?_⟩
  ·rw[La.1 hq];exact (hF.ext hj).arr (nB _ (by omega)) (n:=2) (cap:=2) (sz:=2) O (by decide) (Lr _)
  rw[La.1 hq];exact XI (by decide)
 have hQ:ZB (H::G::L) hy.heap (CL.mk E.ve E.vc (.slice (some ⟨I,0,none⟩) 1 1) (.slice (some ⟨J,0,none⟩) 1 1) E.vk E.ev E.co [⟨XH,⟨.slice (some ⟨S,0,none⟩) 2 2,.slice (some ⟨T,0,none⟩) 2 2,.slice (some ⟨V,0,none⟩) 2 2,KH.a⟩⟩] [⟨Jn,.slice (some ⟨he,0,none⟩) 2 2,[(1,1),(2,1)]⟩] E.cs) :=
  ⟨ho.ev,ho.co,((hI.st (hi.mono (by simp))).ext hk).st (hl.mono (by simp)),hX.st (hl.mono (by simp)),ho.cs⟩
 exact (hQ.st (hz.mono (by simp))).up (λb hb=>.inl (Lm _ (Lm _ hb)))
theorem QhV {l:List MV}{a b:Vo}(h:l.map MV.m=[a,b]):∃m0 m1,l=[m0,m1]∧m0.m=a∧m1.m=b:=by
 match l,h with
 | [m0,m1],h =>
  simp only[List.map_cons,List.map_nil,List.cons.injEq,and_true] at h;exact ⟨m0,m1,O,h.1,h.2⟩
 | [],h=>simp at h
 | [_],h=>simp at h
 | _::_::_::_,h=>simp at h
theorem QiI {ps:List AV}{l:List QP}(h:ps.map (·.a)=l) (hl:l.length=2):∃p0 p1,ps=[p0,p1]∧p1.a.st=(l.map (·.st)).getD 1 0:=by
 subst h
 match ps,hl with
 | [p0,p1],_=>exact ⟨p0,p1,O,O⟩
 | [],h=>simp at h
 | [_],h=>simp at h
 | _::_::_::_,h=>simp at h
set_option maxHeartbeats 8000000 in
theorem jM {w:World}(hG:Kb w 4096):QI prog 49 [] w λr w'=>r=.bool true∧Step [] w w':=by
 refine QI.of_W func49 O ntmps49 results49 (by simp) ?_;refine Qc<|Qe<|Qc<|xl O<|xf<|(KN w).mono ?_;rintro r1 w1 ⟨hH,c1,rfl,hi,hI⟩;refine xl rfl<|xf<|(Kg (hI [] (by simp))).mono ?_;rintro r2 G ⟨hJ,vM,lM,rfl,V,_,hj⟩;rw[hi,QdO] at hj;obtain ⟨H,I,rfl,hK,hL⟩:=QhV (hj QdP);refine Qb<|x (Ql O O)<|x (Ql O O)<|x Qf<|Qe ?_;have hk:=hH.trans hJ
 have hl:Zq [] G.heap vM [H,I].length 3 ([H,I].flatMap ZC):=V.arr (by simp) (by simp);have hN:QK [] G.heap H.v H.co:=V.each H (by simp) [] (by simp);have hO:QK [] G.heap I.v I.co:=V.each I (by simp) [] (by simp);refine Qg<|Q0 (α:=Unit) [(18,24)] (λz=>[(24,.bool false)]) (λz w'=>w'=G) (by rfl) ?_ ?_
 ·refine Qz<|Qb<|xb (Q9 O O) (λhm=>absurd (by rw[hi];exact QdP) hm) (λhm=>?_);refine Qb<|Qb<|x (Qs hl O)<|xb (Q9 O O) (λhn=>absurd O hn) (λhn=>?_);refine x (Qj O)<|xe ?_;exact ⟨(),Z,O⟩
 rintro z g G rfl;refine Yc rfl ?_;refine Qi<|Qc<|xl O<|xf<|(KN G).mono ?_;rintro r3 w3 ⟨ho,E,rfl,hP,hp⟩;refine xl rfl<|Qt (us:=Z5) O λb3 w4 hQ hr hR=>xl O<|Qp (us:=E.cells) hR O O O O (hp [] (by simp)).ones λw5 hS hT=>xe ?_;have hs:Step [] w3 w5:=hQ.then1 hS hr;refine Qc<|x (Qa O)<|xl O<|QL (j:=3) (u:=nS) hT O O (by simp) rfl λw6 ht Y=>xe ?_;have gs:=ho.size
 have hu:Step [] G w6:=(ho.trans hs).then1 ht (by omega);have hU:=hk.trans hu;have ha:ZB [] w6.heap (CL.mk E.ve E.vc E.vr (nS) E.vk E.ev E.co E.rq [] E.cs):=by
  have h9:=(((hp [] (by simp)).up (L':=[b3]) (λb hb=>.inr (by rw[La.1 hb];exact hr))).ext hs).st ht;have J:=h9.up (L':=[]) (by simp);exact ⟨J.ev,J.co,J.rq,⟨Zq.nil _ _ 2,λq hq=>(by cases hq),λq hq=>(by cases hq)⟩,J.cs⟩
 have hq:(CL.mk E.ve E.vc E.vr (nS) E.vk E.ev E.co E.rq [] E.cs).cel=jO:=CL.cel_ex hP (nS) [];refine Qc<|x (Qr Y O O)<|xl O<|xf<|(X5 ha).mono ?_;rintro r7 w7 ⟨S,vr,rfl,_,hv⟩;rw[hq,QdQ] at hv;have hV:=hv zr;have hW:QK [] w7.heap vr [2]:=Qu.ints (L:=[]) hV (by simp) (by simp)
 refine Qb<|x (Ql O O)<|x (Ql O O)<|x Qf<|Qe<|Qc<|x (Qr (Y.ext S) O O)<|xl O<|xf<|(Xd (ha.ext S) (hG.ext (hU.trans S))).mono ?_;rintro r8 w8 ⟨hw,vs,rfl,_,hy⟩;rw[hq] at hy;obtain ⟨_,ps,hX,hY⟩:=hy QdS;obtain ⟨p0,p1,rfl,hz⟩:=QiI hX QdR;rw[Qge] at hz;have hZ:=hY [] (by simp);refine Qb<|x (Ql O O)<|x (Ql O O)<|x Qf<|Qe ?_;have hc:=S.trans hw
 refine Qc<|x (Qr (Y.ext hc) O O)<|xl O<|xf<|(qJ (ha.ext hc)).mono ?_;rintro r9 w9 ⟨he,h0⟩;rw[hq,Qgf,zr] at h0;subst h0;refine Qb<|x (Ql O O)<|x (Ql O O)<|x (Ql O O)<|x (Ql O O)<|x (Ql O O)<|x Qf<|x Qf<|x Qf<|x Qf<|Qe ?_;have ga:=hc.trans he;have T:=hu.trans ga;have gb:=hw.trans he
 refine Q0 (α:=Unit) [(0,0),(45,91)] (λz=>[(0,.bool true)]) (λz w'=>Step [] w9 w') (by rfl) ?_ ?_
 ·refine Qz ?_;have h1:=hl.ext T;refine Qb<|xig (g:=ZC) (i:=0) jI h1 O O (by simp) λgt gc=>x (QF gc rfl rfl)<|xl rfl<|QD (us:=[[.int .i64 0],[.int .i64 1]]) rfl rfl (by decide) (by simp) ⟨rfl,rfl,rfl,rfl,U⟩ λge gu h2 gv gg=>x (QE ⟨rfl,rfl,U⟩) <|
   xl rfl<|xf<|(Up (q:=H) (q':=⟨1,0,.slice (some ⟨ge,0,none⟩) 2 2,[0,1]⟩) ((hN.ext T).ext h2) (gg.arr (L:=[]) (by simp) (n:=2) (cap:=2) (sz:=1) rfl (by omega) (Lr _))).mono ?_
  rintro gh gw ⟨hf,gi⟩
  replace hf:gh=.bool true:=hf.trans (congrArg Value.bool (decide_eq_true (p:=H.m=_) hK));subst hf;have hg:=h2.trans gi;refine Qb<|Qb<|xig (g:=ZC) (i:=1) jI (h1.ext hg) O O (by simp) λgx gj=>x (QF gj rfl rfl)<|xl rfl<|QD (us:=[[.int .i64 1],[.int .i64 2]]) rfl rfl (by decide) (by simp) ⟨rfl,rfl,rfl,rfl,U⟩ λgk gy h3 gz gl=>x (QE ⟨rfl,rfl,U⟩) <|
   xl rfl<|xf<|(Up (q:=I) (q':=⟨2,0,.slice (some ⟨gk,0,none⟩) 2 2,[1,2]⟩) (((hO.ext T).ext hg).ext h3) (gl.arr (L:=[]) (by simp) (n:=2) (cap:=2) (sz:=1) rfl (by omega) (Lr _))).mono ?_
  rintro gm g0 ⟨hh,gn⟩
  replace hh:gm=.bool true:=hh.trans (congrArg Value.bool (decide_eq_true (p:=I.m=_) hL));subst hh;have h4:=hg.trans (h3.trans gn);refine x (Qj O)<|Qb<|Qb<|xb (Q5 O O) (λh5=>?_) (λh5=>absurd (by rw[hq];exact zr) h5);refine x (Qj O)<|Qb<|Qb<|xl O<|QD (us:=[[.int .i64 2]]) O O (by decide) (by simp) ⟨rfl,rfl,U⟩ λg2 g3 h6 g4 go =>
   xl rfl<|xf<|(qh (l:=[2]) (l':=[2]) (((hW.ext gb).ext h4).ext h6) (go.arr (L:=[]) (by simp) (n:=1) (cap:=1) (sz:=1) rfl (by omega) (Lr _))).mono ?_
  rintro g5 g6 ⟨h7,gp⟩;rw[decide_eq_true rfl] at h7;subst h7;have hA:=h4.trans (h6.trans gp);have hB:=(hZ.ext he).ext hA;refine x (Qj O)<|Qb<|Qb<|xb (Q5 O O) (λhC=>?_) (λhC=>absurd (by rw[hq];exact QdS) hC);refine x (Qj O)<|Qb<|Qb<|x (Qs hB.arr O)<|xb (Q5 O O) (λhD=>?_) (λhD=>absurd O hD)
  refine x (Qj O)<|Qb<|Qb<|xig (g:=Zc) (i:=1) Kc hB.arr O O (by simp) λg7 gq=>x (Zb rfl)<|x (Qv (gq.fld 1 (.int .i64 p1.a.st) rfl) rfl)<|xb (Q5 rfl rfl) (λhE=>?_) (λhE=>QiK hz hE);refine x (Qj O)<|Qb<|Qb<|xb (Q5 O O) (λhF=>?_) (λhF=>absurd O hF);refine x (Qj O)<|Qb<|Qb<|x (Zs O)<|x (Qj O)<|Qe ?_;exact ⟨(),Z,hA⟩
 rintro z g g8 gr;exact Qm ⟨[.bool true],Z,O,(hk.trans T).trans gr⟩
theorem UF {w:World}(E:Kb w 4096):QI prog 12 [] w λr w'=>r=.bool true∧Step [] w w':=by
 refine QI.of_W func12 O ntmps12 results12 (by simp) ?_;refine Qc<|Qe<|Q0 (α:=Unit) [(0,4)] (λz=>[(0,.bool true)]) (λz w'=>Step [] w w') (by rfl) ?_ ?_
 ·refine Qz<|xl O<|xf<|(jM E).mono ?_;rintro J S ⟨rfl,G⟩;refine Qb<|xl O<|xf<|(Qag (E.ext G)).mono ?_;rintro T V ⟨rfl,H⟩;refine x (Qj O)<|Qe ?_;exact ⟨(),Z,G.trans H⟩
 rintro z g Y I;exact Qm ⟨[.bool true],Z,O,I⟩
def Qkf (R:Nat→Nat→Bool) (x:Nat):LN→LN→LN
 | g,[]=>g
 | g,n::ns=>Qkf R x (if !g.contains n && R x n then g++[n] else g) ns
def K8 (R:Nat→Nat→Bool) (x y:LN):Bool:=x.any λa=>y.any λb=>R a b
def j9 (R:Nat→Nat→Bool) (g:LN):List (LN)→Option (LN×List (LN))
 | []=>none
 | h::r=>bif K8 R g h then some (g++h,r) else (j9 R g r).map λp=>(p.1,h::p.2)
def zk (R:Nat→Nat→Bool):List (LN)→Option (List (LN))
 | []=>none
 | g::r=>match j9 R g r with
  | some p=>some (p.1::p.2)
  | none=>(zk R r).map (g::·)
def jK (R:Nat→Nat→Bool):Nat→List (LN)→List (LN)
 | 0,l=>l
 | f+1,l=>match zk R l with
  | none=>l
  | some l'=>jK R f l'
def QbW (x:Nat):LN→LN
 | []=>[x]
 | y::l=>bif Nat.ble x y then x::y::l else y::QbW x l
def VF (l:LN):LN:=l.foldr QbW []
def QbY (x:LN):List (LN)→List (LN)
 | []=>[x]
 | y::l=>bif Nat.ble (x.headD 0) (y.headD 0) then x::y::l else y::QbY x l
def QbX (l:List (LN)):List (LN):=l.foldr QbY []
def Qf6 (R:Nat→Nat→Bool) (n:Nat):List (LN):=jK R n ((List.range n).map λi=>[i])
def Qke (R:Nat→Nat→Bool) (n:Nat):List (LN):=QbX ((Qf6 R n).map VF)
def rbG (E:LN) (x y:Nat):Bool:=decide (x≠y) && decide (E.getD x 0 &&& E.getD y 0≠0)
theorem j8 {a b:Nat}:a &&& b≠0↔∃j,a.testBit j=true∧b.testBit j=true:=by
 constructor
 ·intro h;refine Classical.byContradiction λE=>h (Nat.eq_of_testBit_eq λj=>?_);rw[Nat.testBit_and,Nat.zero_testBit];cases h1:a.testBit j with
  | false=>rfl
  | true =>
   cases h2:b.testBit j with
   | false=>rfl
   | true=>exact absurd ⟨j,h1,h2⟩ E
 rintro ⟨j,h1,h2⟩ h;have h3:=Nat.testBit_and a b j;rw[h,h1,h2,Nat.zero_testBit] at h3;cases h3
def nI (l:LN):LI:=l.map λk:Nat=>(k:Int)
theorem V8 (l:LN):(nI l).length=l.length:=Lh ..
theorem QhT (l m:LN):nI (l++m)=nI l++nI m:=Lt ..
theorem zi {l:LN}{n:Nat}(h:l.Nodup) (hl:∀x∈l,x<n):l.length≤n:=by
 have h1:=pig n (nI l) (by
  unfold nI List.Nodup;rw[L7];exact List.Pairwise.imp (λE e=>E (by omega)) h) (λx hx=>by
  obtain ⟨k,hk,rfl⟩:=Ly.1 hx;have:=hl k hk;omega)
 rwa [V8] at h1
theorem Qbj {L:LN}{H:Array Obj}{v:Value}{n sz cap:Nat}{cs:LV}{a:Addr}(h:Zq L H v n sz cs) (e:v=.slice (some a) n cap):At L H a cs:=by
 rcases h.2.2 with ⟨h1,_⟩ | ⟨a',cap',h1,_,h3⟩
 ·rw[h1] at e;cases e
 rw[h1] at e;simp only[Value.slice.injEq,Option.some.injEq] at e;rw[←e.1];exact h3
theorem Qu.appd {e base:Nat}{w:World}{v:Value}{l m:LI}(h:w.ownsRow base e 1 v (l.length+m.length) (l.map (Value.int .i64)++m.map (Value.int .i64))):Qu e base w v (l++m):=by
 unfold Qu;rw[Lk,Lt];exact h
end Go.Proofs.YtdffckgdcegpaaaGreatDoor
namespace Go.Lg
section
variable {P:Program} {n:Nat} {Q:Exit→Fr→World→Prop} {f:Fr} {w:World}
def ngt (Q:Exit→Fr→World→Prop):Exit→Fr→World→Prop
 | .goto _,_,_=>False
 | e,f,w=>Q e f w
theorem Qg0 {c:Code}(h:W P n c (ngt Q) f w):W P n (.scope c) Q f w:=by
 unfold W at *;intro a ha;refine wp_scope_straight (wp_mono (h a ha) ?_);rintro e H w' ⟨G,h1,_,h3⟩;cases e with
 | goto l=>exact h3.elim
 | normal=>exact ⟨G,h1,λt E=>(by cases E),h3⟩
 | exit id=>exact ⟨G,h1,λt E=>(by cases E),h3⟩
 | ret=>exact ⟨G,h1,λt E=>(by cases E),h3⟩
 | panic ch=>exact ⟨G,h1,λt E=>(by cases E),h3⟩
 | outgrown=>exact ⟨G,h1,λt E=>(by cases E),h3⟩
end
section
variable {P:Program} {f:Fr} {w:World} {K:Fr→World→Prop} {d:Option Nat} {ty:Nat} {ps:String} {af:Array Edge} {gd:Option (Nat×Bool)}
theorem QbK {t e sz bys:Nat}{z:Value}[h:Sl P t e sz bys z] {x E G H:Operand}{b n cap:Nat}{k:IntKind}{lo hi m:Nat}(hx:ev f x=.slice (some ⟨b,0,none⟩) n cap) (hl:ev f E=.int k lo) (I:ev f G=.int k hi) (hm:ev f H=.int k m) (h1:lo≤hi) (h2:hi≤m) (h3:m≤cap) :
  (execOp (ev f) ⟨d,.slice t x (some E) (some G) (some H),ty,ps,af,gd⟩).run P w=.ok (.value (.slice (if m=lo then some ⟨b,0,none⟩ else some ((⟨b,0,none⟩:Addr).add (lo*sz))) (hi - lo) (m - lo))) w:=by
 obtain ⟨i,J,_,S,_⟩:=Sl.info h;have e1:(Instr.sliceBound (.int k m) cap .slice3Acap).run P w=.ok m w:=Zo h3;have e2:(Instr.sliceBound (.int k hi) m .slice3B).run P w=.ok hi w:=Zo h2;have T:(Instr.sliceBound (.int k lo) hi .slice3C).run P w=.ok lo w:=Zo h1;by_cases V:m=lo
 ·subst V;simp[execOp,hx,hl,I,hm,Instr.sliceAt,Instr.slice,run_underlying h.u,Instr.sliceBounds,e1,e2,T,sizeOf,typeInfo,J,S]
 simp[execOp,hx,hl,I,hm,Instr.sliceAt,Instr.slice,run_underlying h.u,Instr.sliceBounds,e1,e2,T,sizeOf,typeInfo,J,S,V]
theorem QbI {t e sz bys:Nat}{z:Value}[h:Sl P t e sz bys z] {x E G:Operand}{b n cap:Nat}{k:IntKind}{lo hi:Nat}(hx:ev f x=.slice (some ⟨b,0,none⟩) n cap) (hl:ev f E=.int k lo) (H:ev f G=.int k hi) (h1:lo≤hi) (h2:hi≤cap) (h3:lo<cap) :
  (execOp (ev f) ⟨d,.slice t x (some E) (some G) none,ty,ps,af,gd⟩).run P w=.ok (.value (.slice (some ⟨b,lo*sz,none⟩) (hi - lo) (cap - lo))) w:=by
 obtain ⟨i,I,_,J,_⟩:=Sl.info h;have e1:(Instr.sliceBound (.int k hi) cap .sliceAcap).run P w=.ok hi w:=Zo h2;have e2:(Instr.sliceBound (.int k lo) hi .sliceB).run P w=.ok lo w:=Zo h1;have S:¬cap=lo:=by omega
 simp[execOp,hx,hl,H,Instr.sliceAt,Instr.slice,run_underlying h.u,Instr.sliceBounds,e1,e2,sizeOf,typeInfo,I,J,S,Addr.add];exact λe=>e.symm
theorem QhO {t e sz bys:Nat}{z:Value}[h:Sl P t e sz bys z] {s y:Operand}{g n cap:Nat}{cur:LV}(H:Q4 w.heap g e cur) (hs:ev f s=.slice (some ⟨g,0,none⟩) n cap) (J:cur.length=cap*sz)
  {a:Addr} {m c:Nat} {news:LV} (hy:ev f y=.slice (some a) m c) (hl:news.length=m*sz) {L:LN} (S:At L w.heap a news) (h1:∀u∈news,u.oneCell'=true) (I:n+m≤cap)
  (T:∀w',Step [g] w w'→Q4 w'.heap g e (cur.take (n*sz)++news++cur.drop (n*sz+news.length))→K (QR f d (.slice (some ⟨g,0,none⟩) (n+m) cap)) w') :
  XO P ⟨d,.call ⟨.builtin .append,#[s,y],#[t,t]⟩,ty,ps,af,gd⟩ f w K:=by
 obtain ⟨i,hi,hz,E,ha⟩:=Sl.info h;have V:n*i.size+news.length≤cur.toArray.size:=by
  rw[LU,J,hl,E,←Mx];exact Mm _ I
 have G:=run_append_room (P:=P) w t ty e i h.u hi g n cap cur.toArray H a m c news (by rw[E];exact hl) S.cells h1 I V;rw[E] at G;have Y:(execOp (ev f) ⟨d,.call ⟨.builtin .append,#[s,y],#[t,t]⟩,ty,ps,af,gd⟩).run P w=.ok (.value (.slice (some ⟨g,0,none⟩) (n+m) cap)) (w.setRow g (cur.take (n*sz)++news++cur.drop (n*sz+news.length)).toArray):=by
  simp[execOp,resolve,invoke,builtin,hs,hy] at G ⊢;simp[G]
 exact xv Y (T _ (Step.setRow _ _ _) (Y1 H))
end
end Go.Lg
namespace Go.Proofs.YtdffckgdcegpaaaGreatDoor
open Go.Proofs.Tryz
open Go.Lg
theorem Qhh {f:Fr}{w:World}{K:Fr→World→Prop}{d:Option Nat}{ty:Nat}{ps:String}{af:Array Edge}{gd:Option (Nat×Bool)}{P:Program}{t:Nat}[h1:XS P t] {x y:Operand}{base T sz n g cap k:Nat}{cs:LV}{u:Value}
  (h:w.ownsRow base T sz (.slice (some ⟨g,0,none⟩) n cap) n cs) (hx:ev f x=.pointer (some ⟨g,k,none⟩)) (hy:ev f y=u) (hk:k<n*sz) (hu:u.oneCell'=true)
  (G:∀w',Step [g] w w'→w'.ownsRow base T sz (.slice (some ⟨g,0,none⟩) n cap) n (cs.set k u)→K (QR f d undef) w'):XO P ⟨d,.store t x y,ty,ps,af,gd⟩ f w K:=by
 obtain ⟨H,cur,I,hl,E⟩:=QaB h;have S:n*sz≤cap*sz:=Mm _ H;refine QL (j:=k) I hx hy (by omega) hu λw' hs J=>G w' hs ?_;refine QaA h (Lr _) J (by rw[MS];exact hl) ?_ (by rw[MS,←E,Lx];omega);rw[List.take_set,E]
structure GV where
 v:Value
 ms:LN
 b:Nat
abbrev QV (g:GV):LV:=[g.v,.int .u16 (g.b:Int)]
theorem YI (g:GV):(QV g).length=2:=rfl
theorem Qa1:∀(l:List GV) (k:Nat),(l.flatMap QV).take (k*2)=(l.take k).flatMap QV
 | [],k=>by simp
 | a::l,0=>by simp
 | a::l,k+1=>by
  rw[show (k+1)*2=k*2+2 by omega,LB,MK,LB,←Qa1 l k];rfl
theorem zw:∀(l:List GV) (k:Nat),(l.flatMap QV).drop (k*2)=(l.drop k).flatMap QV
 | [],k=>by simp
 | a::l,0=>by simp
 | a::l,k+1=>by
  rw[show (k+1)*2=k*2+2 by omega,LB,List.drop_succ_cons,←zw l k];rfl
theorem jS:∀(l:List GV) (k:Nat) (e:GV),l[k]?=some e→(∀v ms,(l.flatMap QV).set (k*2) v=(l.set k ⟨v,ms,e.b⟩).flatMap QV)∧∀b:Nat,(l.flatMap QV).set (k*2+1) (.int .u16 (b:Int))=(l.set k ⟨e.v,e.ms,b⟩).flatMap QV
 | [],k,e,h=>by simp at h
 | a::l,0,e,h=>by
  cases h
  exact ⟨λv ms=>O,λb=>O⟩
 | a::l,k+1,e,h=>by
  obtain ⟨h1,h2⟩:=jS l k e (by simpa using h);refine ⟨λv ms=>?_,λb=>?_⟩
  ·rw[List.set_cons_succ,LB,LB,←h1 v ms,show (k+1)*2=k*2+2 by omega];rfl
  rw[List.set_cons_succ,LB,LB,←h2 b,show (k+1)*2+1=(k*2+1)+2 by omega];rfl
set_option maxRecDepth 100000 in
set_option maxHeartbeats 4000000 in
theorem QgJ {w:World}{base:Nat}{v:Value}{l:List GV}(h:w.ownsRow base 200 2 v l.length (l.flatMap QV)) (T:∀g∈l,g.v.oneCell'=true) {k:Nat}(hk:k<l.length) (hl:l.length≤1000) :
  QI prog 100 [v,.int .i64 (k:Int),.int .i64 ((k+1:Nat):Int)] w λr w'=>Step (ob v) w w'∧ob r=ob v∧w'.ownsRow base 200 2 r (l.length - 1) ((l.take k++l.drop (k+1)).flatMap QV):=by
 obtain ⟨g,cap,rfl⟩:=JE h (by omega);obtain ⟨hp,cur,V,Y,ha⟩:=QaB h;have hr:=Y9 YI l;refine QI.of_W func100 O ntmps100 results100 (by simp) ?_;refine Qc<|Qe<|Qc<|Qb<|Qb<|Qb<|Qb<|x (Jb O)<|x (QbK (lo:=k) (hi:=k+1) (m:=l.length) O O O O (by omega) (by omega) (by omega))<|xe<|Qg<|Qc<|Qb<|Qb<|x (Q5 O O)<|xe ?_
 refine Q7 rfl (λG=>absurd (show (k:Int)=((k+1:Nat):Int) from G) (by omega)) (λG=>?_);refine Qi<|Qc<|Qb<|x (Jb O)<|Qe ?_;have E:((l.drop (k+1)).flatMap QV).length=(l.length - (k+1))*2:=by rw[Y9 YI,L6]
 have hb:At [] w.heap ⟨g,if cap=k+1 then 0 else (k+1)*2,none⟩ ((l.drop (k+1)).flatMap QV):=by
  by_cases hc:cap=k+1
  ·have:(l.drop (k+1)).flatMap QV=[]:=Ln (by rw[E];omega);rw[this];exact ⟨λu hu=>(by cases hu),λu hu=>(by cases hu),λj u hu=>(by cases hu)⟩
  rw[if_neg hc];have h1:=Qbj (QS (L:=[]) h (by omega) (by simp)) rfl;refine ⟨λu _=>by simp,λu hu=>h1.lt u (by rw[←zw] at hu;exact Mo hu),λj u hu=>?_⟩;rw[←zw,MM] at hu;have h2:=h1.cell _ u hu;have e:(⟨g,(k+1)*2,none⟩:Addr).add j=(⟨g,0,none⟩:Addr).add ((k+1)*2+j):=by rw[Addr.add_lit,Addr.add_lit,LR]
  rw[e];exact h2
 have he:∀u∈(l.drop (k+1)).flatMap QV,u.oneCell'=true:=λu hu=>by
  obtain ⟨q,hq,hu⟩:=Mj.1 hu;have hf:=T q (Mo hq);simp only[List.mem_cons,List.not_mem_nil,or_false] at hu;rcases hu with rfl | rfl
  ·exact hf
  rfl
 refine Qg<|QW (λ_=>True) [(0,true),(1,true),(2,true),(3,true),(4,true),(5,true),(6,false),(7,true)] mixed (by rfl) (by kernel_rfl) U ?_;have hd:Step [] w { w with drawn:=w.drawn+1 }:=Step.drew _ _
 refine p (λ_=>Qo)<|p (λ_=>Qo)<|p (λ_=>QbJ (hi:=k) O O (by omega))<|p (λ_=>Qo)<|p (λ_=>Qo)<|p (λ_=>QbH (lo:=k+1) O O (by omega)) <|
  pk<|QhO (g:=g) (n:=k) (cap:=cap) (cur:=cur) (m:=l.length - (k+1)) (L:=[]) V O Y O E (hb.ext hd) he (by omega) λw2 hg H=>⟨U,p (λ_=>Qf)<|pe ?_⟩
 have hh:Step [g] w w2:=hd.any.trans' hg;have em:k+(l.length - (k+1))=l.length - 1:=by omega
 have I:(cur.take (k*2)++(l.drop (k+1)).flatMap QV).length=(l.length - 1)*2:=by
  rw[Lk,Lx,E];omega
 have hj:(cur.take (k*2)++(l.drop (k+1)).flatMap QV++cur.drop (k*2+((l.drop (k+1)).flatMap QV).length)).length=cap*2:=by
  rw[Lk,I,L6,E];omega
 have J:(cur.take (k*2)++(l.drop (k+1)).flatMap QV++cur.drop (k*2+((l.drop (k+1)).flatMap QV).length)).take ((l.length - 1)*2)=(l.take k++l.drop (k+1)).flatMap QV:=by
  rw[List.take_left' I,LA,←Qa1 l k,←ha,List.take_take,ML (by omega)]
 refine Zh (cur.take (k*2)++(l.drop (k+1)).flatMap QV++cur.drop (k*2+((l.drop (k+1)).flatMap QV).length)) λhs hm=>?_;rw[hm] at H hj J;refine Qc<|Qb<|Qb<|x (Jb O)<|Qb<|x (QbI (lo:=k+(l.length - (k+1))) (hi:=l.length) O O O (by omega) (by omega) (by omega)) <|
  xl rfl<|QfY (m:=l.length - (k+(l.length - (k+1)))) (o:=(k+(l.length - (k+1)))*2) (λu hu=>by simp[Value.cells] at hu;rcases hu with rfl | rfl <;> rfl) H ⟨_,rfl,λ_=>⟨O,by omega⟩⟩ λw3 ht hn ho hv S=>xe ?_
 refine Qc<|Qb<|Qe<|Qm ⟨[.slice (some ⟨g,0,none⟩) (k+(l.length - (k+1))) cap],Z,hh.trans' hn,O,?_⟩;rw[em] at S ⊢;exact QaA h (by omega) ho (by omega) (S.trans J) (by rw[Y9 YI,Lk,Lx,L6];omega)
end Go.Proofs.YtdffckgdcegpaaaGreatDoor
namespace Go.Proofs
open Go.Proofs.Tryz
open Go.Shelf
def Tryz.sortLs_ren:Go.Shelf.Ren:=⟨λ| 6=>102 | 15=>176 | 14=>177 | 28=>229 | 29=>230 | 20=>231 | 21=>232 | 22=>233 | 23=>234 | 24=>235 | 25=>236 | 26=>237 | 27=>238 | 46=>272 | 47=>268 | 48=>269 | 49=>273 | 50=>274 | 57=>297 | n=>n,λ| 22=>74 | 24=>37 | 25=>204 | 3=>3 | 39=>269 | 0=>0 | 53=>338 | 55=>340 | 4=>4 | 46=>332 | 45=>331 | 50=>178 | 5=>5 | 9=>9 | 66=>372 | 70=>376 | 76=>401 | 77=>381 | n=>n,λ| n=>n⟩
theorem Tryz.sortLs:Go.Proofs.SlLaysF.n6 prog Tryz.sortLs_ren:={
 mixed:=by kernel_rfl
 f6:=⟨Tryz.f102.name,by decide,func102.trans (congrArg some (by kernel_rfl))⟩
 f14:=⟨Tryz.f177.name,by decide,func177.trans (congrArg some (by kernel_rfl))⟩
 f15:=func176.trans (congrArg some (by kernel_rfl))
 f20:=⟨Tryz.f231.name,by decide,func231.trans (congrArg some (by kernel_rfl))⟩
 f21:=⟨Tryz.f232.name,by decide,func232.trans (congrArg some (by kernel_rfl))⟩
 f22:=⟨Tryz.f233.name,by decide,func233.trans (congrArg some (by kernel_rfl))⟩
 f23:=⟨Tryz.f234.name,by decide,func234.trans (congrArg some (by kernel_rfl))⟩
 f24:=⟨Tryz.f235.name,by decide,func235.trans (congrArg some (by kernel_rfl))⟩
 f25:=⟨Tryz.f236.name,by decide,func236.trans (congrArg some (by kernel_rfl))⟩
 f26:=⟨Tryz.f237.name,by decide,func237.trans (congrArg some (by kernel_rfl))⟩
 f27:=⟨Tryz.f238.name,by decide,func238.trans (congrArg some (by kernel_rfl))⟩
 f28:=func229.trans (congrArg some (by kernel_rfl))
 f29:=func230.trans (congrArg some (by kernel_rfl))
 f46:=⟨Tryz.f272.name,by decide,func272.trans (congrArg some (by kernel_rfl))⟩
 f47:=func268.trans (congrArg some (by kernel_rfl))
 f48:=func269.trans (congrArg some (by kernel_rfl))
 f49:=⟨Tryz.f273.name,by decide,func273.trans (congrArg some (by kernel_rfl))⟩
 f50:=⟨Tryz.f274.name,by decide,func274.trans (congrArg some (by kernel_rfl))⟩
 f57:=⟨Tryz.f297.name,by decide,func297.trans (congrArg some (by kernel_rfl))⟩
 t0:=underlying0
 a0:=Tryz.isAgg0
 z0:=Tryz.sizeOf0
 v0:=Tryz.zeroValue0
 t3:=underlying3
 a3:=Tryz.isAgg3
 z3:=Tryz.sizeOf3
 v3:=Tryz.zeroValue3
 t4:=underlying4
 a4:=Tryz.isAgg4
 z4:=Tryz.sizeOf4
 v4:=Tryz.zeroValue4
 t5:=underlying5
 a5:=Tryz.isAgg5
 z5:=Tryz.sizeOf5
 v5:=Tryz.zeroValue5
 t9:=underlying9
 a9:=Tryz.isAgg9
 z9:=Tryz.sizeOf9
 v9:=Tryz.zeroValue9
 t22:=underlying74
 a22:=Tryz.isAgg74
 z22:=Tryz.sizeOf74
 v22:=Tryz.zeroValue74
 a24:=Tryz.isAgg37
 z24:=Tryz.sizeOf37
 t25:=underlying204
 a25:=Tryz.isAgg204
 z25:=Tryz.sizeOf204
 v25:=Tryz.zeroValue204
 t39:=underlying269
 a39:=Tryz.isAgg269
 z39:=Tryz.sizeOf269
 v39:=Tryz.zeroValue269
 t45:=underlying331
 a45:=Tryz.isAgg331
 z45:=Tryz.sizeOf331
 v45:=Tryz.zeroValue331
 t46:=underlying332
 a46:=Tryz.isAgg332
 z46:=Tryz.sizeOf332
 v46:=Tryz.zeroValue332
 t50:=underlying178
 a50:=Tryz.isAgg178
 z50:=Tryz.sizeOf178
 v50:=Tryz.zeroValue178
 t53:=underlying338
 a53:=Tryz.isAgg338
 z53:=Tryz.sizeOf338
 v53:=Tryz.zeroValue338
 t55:=underlying340
 a55:=Tryz.isAgg340
 z55:=Tryz.sizeOf340
 v55:=Tryz.zeroValue340
 t66:=underlying372
 a66:=Tryz.isAgg372
 z66:=Tryz.sizeOf372
 v66:=Tryz.zeroValue372
 t70:=underlying376
 a70:=Tryz.isAgg376
 z70:=Tryz.sizeOf376
 v70:=Tryz.zeroValue376
 t76:=underlying401
 a76:=Tryz.isAgg401
 z76:=Tryz.sizeOf401
 v76:=Tryz.zeroValue401
 t77:=underlying381
 a77:=Tryz.isAgg381
 z77:=Tryz.sizeOf381
 v77:=Tryz.zeroValue381 }
end Go.Proofs
namespace Go.Proofs.YtdffckgdcegpaaaGreatDoor
open Go.Proofs.Tryz
open Go.Lg Go.Sort
abbrev VP (q:TV):Int:=cget q.2 0
theorem QeE {W:World}{x y:TV}(hx:QK [] W.heap x.1 x.2) (hy:QK [] W.heap y.1 y.2) (E:0<x.2.length) (G:0<y.2.length) (bx:0≤VP x∧VP x<1000) (bY:0≤VP y∧VP y<1000) :
  QI prog 103 [x.1,y.1] W λr w'=>r=.int .i64 (VP x - VP y)∧w'={ W with drawn:=W.drawn+1 }:=by
 have I:0≤cget x.2 0∧cget x.2 0<1000:=bx;have bY':0≤cget y.2 0∧cget y.2 0<1000:=bY;refine QI.of_W func103 O ntmps103 results103 (by simp) ?_;refine Qc<|Lg.Qe<|Qg<|QW (Step [] W) [(0,true),(1,true),(2,true),(3,true),(4,true),(5,true),(6,true),(7,true)] mixed (by rfl) (by kernel_rfl) (Step.drew _ _) ?_
 refine p (λ_=>Qo)<|pic (i:=0) O hx O O E λJ H=>pq (λ_ hc=>Qv (H.ext hc) O)<|p (λ_=>Qo)<|pic (i:=0) O hy O O G λS h9=>pq (λ_ hc=>Qv (h9.ext hc) O) <|
  p (λ_=>Ja O O ⟨by omega,by omega⟩)<|p (λ_=>Qf)<|pe ?_
 exact Qm ⟨[.int .i64 (VP x - VP y)],Z,O,O⟩
section
variable {α:Type} [Inhabited α] {enc:α→Value}
theorem jE {e:Nat}{w:World}{l:List α}{g:Nat}{cur:Array Value}(G:w.heap[g]?=some (.cells cur e (0,0))) (H:cur.toList.take (l.length*1)=l.map enc):Holds enc w g 0 l.toArray:=by
 intro j E;rw[LU] at E;have h1:cur.toList[j]?=some (enc (l[j]'E)):=by
  have h2:(cur.toList.take (l.length*1))[j]?=(l.map enc)[j]?:=by rw[H]
  rw[LK,if_pos (by omega),M1,Lv E] at h2;exact h2
 have h3:l.toArray[j]! = l[j]'E:=by simp[E]
 constructor
 ·show (match w.heap[g]? with | some (.cells c _ _)=>if (none:Option _).isSome then none else c[0+j]? | _=>none)=_
  rw[G,h3];simp only[Nat.zero_add,Option.isSome_none,Bool.false_eq_true,if_false];rw[←L2,h1]
 show (match w.heap[g]? with | some (.cells _ _ (lo,hi))=>decide (lo≤0+j) && decide (0+j<hi) | _=>false)=false
 rw[G];simp
theorem Qdm {e base:Nat}{w:World}{g cap n:Nat}{cur:Array Value}{os:Array Obj}{d:Array α}(I:base≤g) (H:w.heap[g]?=some (.cells cur e (0,0))) (J:d.size≤cap) (S:cap≤maxLen) (T:cur.size=cap*1) :
  Step [g] w (grow (putRow enc (Sort.ahead w n) g 0 d) os)∧(grow (putRow enc (Sort.ahead w n) g 0 d) os).ownsRow base e 1 (.slice (some ⟨g,0,none⟩) d.size cap) d.size (d.toList.map enc):=by
 have V:g<w.heap.size:=(Lz.1 H).1;have E:(grow (putRow enc (Sort.ahead w n) g 0 d) os).heap=w.heap.modify g (onCells (putCells enc 0 d))++os:=rfl;refine ⟨⟨O,O,O,?_,λi hi Y=>?_⟩,?_⟩
 ·rw[E,MQ,L5];omega
 ·rw[E,L8,L5,if_pos hi,Mg,if_neg (λe=>Y (by simp[e]))]
 refine ⟨by simp,.inr ⟨g,cap,putCells enc 0 d cur,rfl,I,?_,J,S,by simp[putCells,T],?_⟩⟩
 ·rw[E,L8,L5,if_pos V,Mg,if_pos rfl,H];rfl
 apply M2;intro j;rw[LK,M1];by_cases G:j<d.size
 ·rw[if_pos (by omega)];have ha:j<cur.size:=by omega
  rw[L2,L2,Ma G];simp only[putCells,Array.getElem?_mapIdx,Array.getElem?_eq_getElem ha,Option.map_some,Nat.zero_le,Nat.zero_add,true_and,if_pos G,Nat.sub_zero];rw[getElem!_pos d j G]
 rw[if_neg (by omega),L2,Array.getElem?_eq_none (by omega)];rfl
end
theorem qQ:∀os:List TV,os.flatMap ZH=os.map (·.1)
 | []=>rfl
 | q::os=>by rw[LB,LP,qQ os];rfl
theorem V3 (os:List TV) (E:TV):(List.range os.length).map (λk=>os.getD k E)=os:=by
 refine Mk (by simp) λi h1 h2=>?_;rw[MN,List.getElem_range,MJ,Lv h2];rfl
set_option maxHeartbeats 2000000 in
theorem Qby {w:World}{base:Nat}{v:Value}{os:List TV}(h:w.ownsRow base 37 1 v os.length (os.flatMap ZH)) (hl:os.length≤1000) (hq:∀q∈os,QK (ob v) w.heap q.1 q.2∧0<q.2.length∧0≤VP q∧VP q<1000) :
  QI prog 102 [v,.func (.func 103) #[] #[]] w λ_ w'=>Step (ob v) w w'∧∃os':List TV,os'.Perm os∧os'.Pairwise (λx y=>VP x≤VP y)∧w'.ownsRow base 37 1 v os'.length (os'.flatMap ZH):=by
 unfold QI;rcases h.2 with ⟨rfl,h0⟩ | ⟨g,cap,cur,rfl,hk,S,h9,hm,ho,hr⟩
 ·have hs:os=[]:=Ln h0;subst hs;have hc:=AnyF.slices_SortFunc_none { Tryz.sortLs with } none 0 (.func (.func 103) #[] #[]) w
  change Calls prog 102 _ _ _ at hc;refine Calls.mono hc λe w' he=>?_;obtain ⟨rfl,rfl⟩:=he;exact ⟨Step.refl _ _,[],List.Perm.refl _,List.Pairwise.nil,h⟩
 by_cases hz:os=[]
 ·subst hz;have hc:=AnyF.slices_SortFunc_none { Tryz.sortLs with } (some ⟨g,0,none⟩) cap (.func (.func 103) #[] #[]) w
  change Calls prog 102 _ _ _ at hc;refine Calls.mono hc λe w' he=>?_;obtain ⟨rfl,rfl⟩:=he;exact ⟨Step.refl _ _,[],List.Perm.refl _,List.Pairwise.nil,h⟩
 obtain ⟨E,ht⟩:=List.exists_mem_of_ne_nil os hz;have T:∀k:Nat,os.getD k E∈os:=λk=>by
  rw[MJ];cases e:os[k]? with
  | none=>exact ht
  | some q=>exact LT e
 have hu:g<w.heap.size:=(Lz.1 S).1;have hv:cur.toList.take ((List.range os.length).length*1)=(List.range os.length).map λk:Nat=>(os.getD k E).1:=by
  rw[List.length_range,hr,qQ];conv=>lhs;rw[←V3 os E]
  rw[Me];rfl
 have hH:Holds (λk:Nat=>(os.getD k E).1) w g 0 (List.range os.length).toArray:=jE S hv;have h1:OneCell λk:Nat=>(os.getD k E).1:=λk=>(hq _ (T k)).1.one;have hw:SWO (ltOf λj k:Nat=>VP (os.getD j E) - VP (os.getD k E)) :=
  ⟨λx=>by unfold ltOf;simp,λx y z h1 h2=>by unfold ltOf at *;simp at *;omega,λx y z h1 h2=>by unfold ltOf at *;simp at *;omega⟩
 have eg:∀args w,(callFunc 103 args).run prog w=.ok (.enter 103 args) w:=enters_of func103 (by kernel_rfl) O;have Y:∀(m:Nat) (H:Array Obj) (dk:Array Nat),Step [g] w (sortWorld (λk:Nat=>(os.getD k E).1) w g 0 m dk H):=λm H dk=>by
  have ha:(sortWorld (λk:Nat=>(os.getD k E).1) w g 0 m dk H).heap=w.heap.modify g (onCells (putCells (λk:Nat=>(os.getD k E).1) 0 dk))++H:=rfl;refine ⟨rfl,O,O,?_,λi hi hn=>?_⟩
  ·rw[ha,MQ,L5];omega
  rw[ha,L8,L5,if_pos hi,Mg,if_neg (λe=>hn (by simp[e]))]
 have hy:CmpReads prog 103 #[] (λk:Nat=>(os.getD k E).1) (λj k:Nat=>VP (os.getD j E) - VP (os.getD k E)) g 0 (List.range os.length).toArray.size w:=λm H dk _ j k=>by
  have qj:=hq _ (T j);have qk:=hq _ (T k);have r1:=QeE (((qj.1).st (Y m H dk)).up (by simp)) (((qk.1).st (Y m H dk)).up (by simp)) qj.2.1 qk.2.1 qj.2.2 qk.2.2;unfold QI at r1;refine Calls.mono r1 λe w' he=>?_;cases e with
  | returned r =>
   obtain ⟨rfl,rfl⟩:=he;exact ⟨rfl,1,O⟩
  | _=>exact he.elim
 have hc:=Any.slices_SortFunc Tryz.sortLs (λk:Nat=>(os.getD k E).1) h1 (λj k:Nat=>VP (os.getD j E) - VP (os.getD k E)) hw 103 #[] g 0 cap (List.range os.length).toArray w eg hy.lays hH hu (by simp;omega);change Calls prog 102 _ _ _ at hc;rw[LU,List.length_range] at hc;refine Calls.mono hc λe w' he=>?_;obtain ⟨rfl,G,n,H,hp,h3,rfl⟩:=he
 have I:G.size=os.length:=by have:=hp.1;simpa using this
 have h4:G.toList.Perm (List.range os.length):=by
  have:=hp.2.2;simpa[I,Array.extract_eq_self_of_le] using this
 have hb:=Qdm (enc:=λk:Nat=>(os.getD k E).1) (n:=n) (os:=H) (d:=G) hk S (by omega) hm ho;refine ⟨hb.1,G.toList.map λk=>os.getD k E,?_,?_,?_⟩
 ·have:=h4.map λk=>os.getD k E
  rwa [V3] at this
 ·rw[L7,LM];intro i j hi V h8;have h5:=h3 i j (Lj _) h8 (by simpa[I] using V);have hf:i<G.size:=by simpa using hi
  have hh:j<G.size:=by simpa using V
  rw[getElem!_pos G i hf,getElem!_pos G j hh] at h5;have h6:¬VP (os.getD (G[j]'hh) E) - VP (os.getD (G[i]'hf) E)<0:=of_decide_eq_false h5;show VP (os.getD (G.toList[i]'hi) E)≤VP (os.getD (G.toList[j]'V) E);rw[Array.getElem_toList,Array.getElem_toList];exact Int.not_lt.1 λJ=>h6 (Int.sub_neg_of_lt J)
 have J:=hb.2;rw[I] at J;have e8:G.toList.length=os.length:=by simpa using I
 rw[Lh,e8,qQ,Me];exact J
theorem qG {R:Nat→Nat→Bool}{g q:LN}:∀(B:List (LN)) (C:List (LN)),(∀h∈B,K8 R g h=false)→K8 R g q=true→j9 R g (B++q::C)=some (g++q,B++C)
 | [],C,_,h=>by rw[Mb,j9,h,cond_true];rfl
 | b::B,C,E,h=>by
  rw[L0,j9,E b Ls,cond_false,qG B C (λx hx=>E x (Lm _ hx)) h];rfl
theorem Vl {R:Nat→Nat→Bool}{g:LN}:∀(B:List (LN)),(∀h∈B,K8 R g h=false)→j9 R g B=none
 | [],_=>rfl
 | b::B,E=>by rw[j9,E b Ls,cond_false,Vl B (λx hx=>E x (Lm _ hx))];rfl
theorem qq {R:Nat→Nat→Bool}:∀l:List (LN),l.Pairwise (λx y=>K8 R x y=false)→zk R l=none
 | [],_=>rfl
 | g::r,h=>by
  have h':=LF.1 h;rw[zk,Vl r h'.1,qq r h'.2];rfl
theorem qp {R:Nat→Nat→Bool}{p q:LN}{B C:List (LN)}(E:∀h∈B,K8 R p h=false) (G:K8 R p q=true):∀A:List (LN),A.Pairwise (λx y=>K8 R x y=false)→(∀x∈A,∀y∈p::(B++q::C),K8 R x y=false) →
  zk R (A++p::(B++q::C))=some (A++(p++q)::(B++C))
 | [],_,_=>by rw[Mb,zk,qG B C E G];rfl
 | a::A,I,hx=>by
  have H:=LF.1 I;rw[L0,zk,Vl _ (λy hy=>by
   rcases Li.1 hy with hy | hy
   ·exact H.1 y hy
   exact hx a Ls y hy),qp E G A H.2 (λx J y hy=>hx x (Lm _ J) y hy)]
  rfl
structure GrP (bs:LN) (l:List GV):Prop where
 bt:∀q∈l,∀j,q.b.testBit j=true↔∃x∈q.ms,(bs.getD x 0).testBit j=true
 lt:∀q∈l,q.b<65536
 ne:∀q∈l,q.ms≠[]
 nd:(l.flatMap (·.ms)).Nodup
 rg:∀q∈l,∀x∈q.ms,x<bs.length
theorem Qf3 {E:LN}{p q:GV}(hp:∀j,p.b.testBit j=true↔∃x∈p.ms,(E.getD x 0).testBit j=true) (hq:∀j,q.b.testBit j=true↔∃x∈q.ms,(E.getD x 0).testBit j=true) (hd:∀x∈p.ms,x∉q.ms) :
  K8 (rbG E) p.ms q.ms=decide (p.b &&& q.b≠0):=by
 rw[Bool.eq_iff_iff,decide_eq_true_iff,j8];unfold K8;rw[MW];constructor
 ·rintro ⟨a,ha,h1⟩;obtain ⟨c,hc,h2⟩:=MW.1 h1;unfold rbG at h2;rw[Lu,decide_eq_true_iff,decide_eq_true_iff,j8] at h2;obtain ⟨_,j,h3,G⟩:=h2;exact ⟨j,(hp j).2 ⟨a,ha,h3⟩,(hq j).2 ⟨c,hc,G⟩⟩
 rintro ⟨j,h3,G⟩;obtain ⟨a,ha,h5⟩:=(hp j).1 h3;obtain ⟨c,hc,H⟩:=(hq j).1 G;refine ⟨a,ha,MW.2 ⟨c,hc,?_⟩⟩;unfold rbG;rw[Lu,decide_eq_true_iff,decide_eq_true_iff,j8];exact ⟨λe=>hd a ha (by rw[e];exact hc),j,h5,H⟩
theorem QaH {l:List GV}(h:(l.flatMap (·.ms)).Nodup):l.Pairwise λx y=>∀a∈x.ms,a∉y.ms:=by
 induction l with
 | nil=>exact List.Pairwise.nil
 | cons q l ih =>
  rw[LB] at h;have h':=List.nodup_append.1 h;refine LF.2 ⟨λy hy a ha E=>?_,ih h'.2.1⟩;exact h'.2.2 a ha a (Mj.2 ⟨y,hy,E⟩) O
theorem GrP.mt {E:LN}{l:List GV}(h:GrP E l) {i k:Nat}(hi:i<k) (hk:k<l.length):K8 (rbG E) (l[i]'(by omega)).ms (l[k]'hk).ms=decide ((l[i]'(by omega)).b &&& (l[k]'hk).b≠0):=by
 have hd:=LM.1 (QaH h.nd) i k (by omega) hk hi;exact Qf3 (h.bt _ (Lc _)) (h.bt _ (Lc _)) hd
theorem GrP.merge {G:LN}{A B C:List GV}{p q:GV}(h:GrP G (A++p::(B++q::C))) (v:Value):GrP G (A++⟨v,p.ms++q.ms,p.b ||| q.b⟩::(B++C)):=by
 have hp:=h.bt p (by simp);have hq:=h.bt q (by simp);have E:∀x,x∈A++(⟨v,p.ms++q.ms,p.b ||| q.b⟩:GV)::(B++C)→x=⟨v,p.ms++q.ms,p.b ||| q.b⟩∨x∈A++p::(B++q::C):=λx hx=>by
  simp only[List.mem_append,List.mem_cons] at hx ⊢;rcases hx with hx | hx | hx | hx
  ·exact .inr (.inl hx)
  ·exact .inl hx
  ·exact .inr (.inr (.inr (.inl hx)))
  exact .inr (.inr (.inr (.inr (.inr hx))))
 refine ⟨λx hx j=>?_,λx hx=>?_,λx hx=>?_,?_,λx hx y hy=>?_⟩
 ·rcases E x hx with rfl | hx
  ·show (p.b ||| q.b).testBit j=true↔∃y∈p.ms++q.ms,_;rw[Nat.testBit_or,Bool.or_eq_true,hp j,hq j];constructor
   ·rintro (⟨y,hy,h1⟩ | ⟨y,hy,h1⟩)
    ·exact ⟨y,LL _ hy,h1⟩
    exact ⟨y,Mt _ hy,h1⟩
   rintro ⟨y,hy,h1⟩;rcases Li.1 hy with hy | hy
   ·exact .inl ⟨y,hy,h1⟩
   exact .inr ⟨y,hy,h1⟩
  exact h.bt x hx j
 ·rcases E x hx with rfl | hx
  ·exact Nat.or_lt_two_pow (n:=16) (h.lt p (by simp)) (h.lt q (by simp))
  exact h.lt x hx
 ·rcases E x hx with rfl | hx
  ·intro e;exact h.ne p (by simp) (List.append_eq_nil_iff.1 e).1
  exact h.ne x hx
 ·refine List.Perm.nodup ?_ h.nd;simp only[List.flatMap_append,List.flatMap_cons];refine List.Perm.append_left _ ?_;rw[LC];refine List.Perm.append_left _ ?_;rw[←LC,←LC];exact List.Perm.append_right _ List.perm_append_comm
 rcases E x hx with rfl | hx
 ·rcases Li.1 hy with hy | hy
  ·exact h.rg p (by simp) y hy
  exact h.rg q (by simp) y hy
 exact h.rg x hx y hy
theorem QgK {α:Type}{l:List α}{i k:Nat}(hi:i<k) (hk:k<l.length):∃A B C:List α,l=A++(l[i]'(by omega))::(B++(l[k]'hk)::C)∧A.length=i∧B.length=k - (i+1)∧A=l.take i∧B=(l.take k).drop (i+1):=by
 refine ⟨l.take i,(l.take k).drop (i+1),l.drop (k+1),?_,by rw[Lx];omega,by rw[L6,Lx];omega,O,O⟩;have h1:l=l.take k++l.drop k:=(Mu k l).symm;have h2:l.drop k=(l[k]'hk)::l.drop (k+1):=LH hk;have hik:i<(l.take k).length:=by rw[Lx];omega
 have h3:l.take k=(l.take k).take i++(l.take k).drop i:=(Mu i _).symm;have E:(l.take k).drop i=((l.take k)[i]'hik)::(l.take k).drop (i+1):=LH hik;have h5:(l.take k)[i]'hik=l[i]'(by omega):=MR;have G:(l.take k).take i=l.take i:=by rw[List.take_take,ML (by omega)]
 conv=>lhs;rw[h1,h2,h3,E,h5,G]
 simp
theorem Qa8 {α:Type}{A B C:List α}{p q E:α}:(A++p::(B++q::C)).set A.length E=A++E::(B++q::C):=by simp
theorem QgL {α:Type}{A B C:List α}{p q:α}{k:Nat}(hk:k=A.length+1+B.length):(A++p::(B++q::C)).take k++(A++p::(B++q::C)).drop (k+1)=A++p::(B++C):=by
 have e:A++p::(B++q::C)=(A++p::B)++q::C:=by simp
 have hl:(A++p::B).length=k:=by rw[hk];simp;omega
 rw[e,List.take_left' hl,←hl,List.drop_append,Lp (by omega),Mb,Nat.add_sub_cancel_left];simp
abbrev Kr (l:LI):LI:=l.mergeSort λx y=>decide (x≤y)
theorem Va (x:Nat):∀l:LN,(QbW x l).Perm (x::l)
 | []=>List.Perm.refl _
 | y::l=>by
  rw[QbW];cases Nat.ble x y with
  | true=>exact List.Perm.refl _
  | false=>exact ((Va x l).cons y).trans (List.Perm.swap x y l)
theorem YF:∀l:LN,(VF l).Perm l
 | []=>List.Perm.refl _
 | x::l=>(Va x (VF l)).trans ((YF l).cons x)
theorem QaW (x:Nat):∀l:LN,l.Pairwise (·≤·)→(QbW x l).Pairwise (·≤·)
 | [],_=>M9 _ _
 | y::l,h=>by
  have h':=LF.1 h;rw[QbW];cases hb:Nat.ble x y with
  | true =>
   have E:=Nat.le_of_ble_eq_true hb;refine LF.2 ⟨λz hz=>?_,h⟩;rcases Lb.1 hz with rfl | hz
   ·exact E
   exact LS E (h'.1 z hz)
  | false =>
   have E:¬x≤y:=λe=>by rw[Nat.ble_eq_true_of_le e] at hb;cases hb
   refine LF.2 ⟨λz hz=>?_,QaW x l h'.2⟩;rcases Lb.1 ((Va x l).mem_iff.1 hz) with rfl | hz
   ·omega
   exact h'.1 z hz
theorem QaV:∀l:LN,(VF l).Pairwise (·≤·)
 | []=>List.Pairwise.nil
 | x::l=>QaW x _ (QaV l)
theorem Vb (x:LN):∀l:List (LN),(QbY x l).Perm (x::l)
 | []=>List.Perm.refl _
 | y::l=>by
  rw[QbY];cases Nat.ble (x.headD 0) (y.headD 0) with
  | true=>exact List.Perm.refl _
  | false=>exact ((Vb x l).cons y).trans (List.Perm.swap x y l)
theorem JH:∀l:List (LN),(QbX l).Perm l
 | []=>List.Perm.refl _
 | x::l=>(Vb x (QbX l)).trans ((JH l).cons x)
theorem QaY (x:LN):∀l:List (LN),l.Pairwise (λa b=>a.headD 0≤b.headD 0)→(QbY x l).Pairwise (λa b=>a.headD 0≤b.headD 0)
 | [],_=>M9 _ _
 | y::l,h=>by
  have h':=LF.1 h;rw[QbY];cases hb:Nat.ble (x.headD 0) (y.headD 0) with
  | true =>
   have E:=Nat.le_of_ble_eq_true hb;refine LF.2 ⟨λz hz=>?_,h⟩;rcases Lb.1 hz with rfl | hz
   ·exact E
   exact LS E (h'.1 z hz)
  | false =>
   have E:¬x.headD 0≤y.headD 0:=λe=>by rw[Nat.ble_eq_true_of_le e] at hb;cases hb
   refine LF.2 ⟨λz hz=>?_,QaY x l h'.2⟩;rcases Lb.1 ((Vb x l).mem_iff.1 hz) with rfl | hz
   ·omega
   exact h'.1 z hz
theorem QaX:∀l:List (LN),(QbX l).Pairwise (λa b=>a.headD 0≤b.headD 0)
 | []=>List.Pairwise.nil
 | x::l=>QaY x _ (QaX l)
theorem qT (ms:LN):Kr (nI ms)=nI (VF ms):=by
 refine List.Perm.eq_of_pairwise (le:=λx y:Int=>x≤y) (λa b _ _ h1 h2=>by omega) ?_ ?_ ((List.mergeSort_perm _ _).trans ?_)
 ·have h:=List.pairwise_mergeSort (le:=λx y:Int=>decide (x≤y)) (λa b c h1 h2=>by simp at *;omega) (λa b=>by simp;omega) (nI ms);exact h.imp λE=>of_decide_eq_true E
 ·unfold nI;rw[L7];exact (QaV ms).imp λE=>by omega
 exact (YF ms).symm.map _
theorem yv {ms:LN}(h:ms≠[]):cget (nI ms) 0=((ms.headD 0:Nat):Int)∧ms.headD 0∈ms:=by
 match ms,h with
 | a::l,_=>exact ⟨O,Ls⟩
theorem Qib {l:List GV}{os:List TV}(hc:(l.flatMap (·.ms)).Nodup) (E:∀q∈l,q.ms≠[]) (hp:os.Perm (l.map λq=>((q.v,Kr (nI q.ms)):TV))) (hs:os.Pairwise λx y=>VP x≤VP y) :
  os.map (·.2)=(QbX ((l.map (·.ms)).map VF)).map nI:=by
 have G:∀ms:LN,ms≠[]→VF ms≠[]:=λms h e=>h (by
  have:=(YF ms).length_eq;rw[e] at this;exact Ln this.symm)
 have he:=QaH hc;have S:∀x∈os.map (·.2),∃q∈l,x=nI (VF q.ms):=λx hx=>by
  obtain ⟨t,ht,rfl⟩:=Ly.1 hx;obtain ⟨q,hq,rfl⟩:=Ly.1 (hp.mem_iff.1 ht);exact ⟨q,hq,qT q.ms⟩
 have T:(os.map (·.2)).Perm ((QbX ((l.map (·.ms)).map VF)).map nI):=by
  refine (hp.map _).trans ?_;refine List.Perm.trans ?_ ((JH _).symm.map nI);rw[Me,Me,Me];refine List.Perm.of_eq (M7 λq _=>qT q.ms)
 refine List.Perm.eq_of_pairwise (le:=λx y:LI=>cget x 0≤cget y 0) (λa b ha hb h1 h2=>?_) ?_ ?_ T
 ·obtain ⟨p,H,rfl⟩:=S a ha;obtain ⟨q,I,rfl⟩:=S b (T.mem_iff.2 hb);have e1:=yv (G _ (E p H));have e2:=yv (G _ (E q I));rw[e1.1,e2.1] at h1 h2;have e3:(VF p.ms).headD 0=(VF q.ms).headD 0:=by omega
  have V:=(YF p.ms).mem_iff.1 e1.2;have J:=(YF q.ms).mem_iff.1 e2.2;rw[←e3] at J;obtain ⟨i,hi,rfl⟩:=LD H;obtain ⟨k,hk,rfl⟩:=LD I;have Y:=LM.1 he;rcases Nat.lt_trichotomy i k with hik | hik | hik
  ·exact absurd J (Y i k hi hk hik _ V)
  ·subst hik;rfl
  exact absurd V (Y k i hk hi hik _ J)
 ·rw[L7];exact hs
 rw[L7];refine List.Pairwise.imp_of_mem (λ{a b} ha hb hf=>?_) (QaX _);obtain ⟨x,hx,rfl⟩:=Ly.1 ((JH _).mem_iff.1 ha);obtain ⟨y,hy,rfl⟩:=Ly.1 ((JH _).mem_iff.1 hb);obtain ⟨p,H,rfl⟩:=Ly.1 hx;obtain ⟨q,I,rfl⟩:=Ly.1 hy;rw[(yv (G _ (E p H))).1,(yv (G _ (E q I))).1];omega
structure UH (N:Nat) (w:World) (vv:Value) (l:List GV):Prop where
 own:w.ownsRow N 200 2 vv l.length (l.flatMap QV)
 each:∀q∈l,Qu 3 N w q.v (nI q.ms)
 dj:l.Pairwise λx y=>∀b∈ob x.v,b∉ob y.v
 db:∀q∈l,∀b∈ob q.v,b∉ob vv
theorem UH.nil {N:Nat}{w:World}:UH N w Zz []:=⟨QM _ _ _ _,λq hq=>(by cases hq),List.Pairwise.nil,λq hq=>(by cases hq)⟩
theorem UH.ext {N:Nat}{w w':World}{vv:Value}{l:List GV}(h:UH N w vv l) (hs:Step [] w w'):UH N w' vv l:=⟨Qq h.own hs,λq hq=>Qq (h.each q hq) hs,h.dj,h.db⟩
theorem UH.add {N M:Nat}{w E G:World}{vv H:Value}{l:List GV}{q:GV}(h:UH N w vv l) (hs:Step [] w E) (hq:Qu 3 M E q.v (nI q.ms)) (hM:w.heap.size≤M) (T:N≤M)
  (V:G.ownsRow N 200 2 H (l.length+1) (l.flatMap QV++QV q)) (I:Step (ob vv) E G) (J:∀b∈ob H,b∈ob vv∨E.heap.size≤b):UH N G H (l++[q]):=by
 have hz:=hs.size;have Y:=QO h.own;have S:∀b∈ob q.v,b∉ob vv:=λb hb hm=>by
  have h1:=(Qn hq b hb).1;have h2:=Y b hm;omega
 refine ⟨?_,λx hx=>?_,MA.2 ⟨h.dj,M9 _ _,λx hx y hy b hb hm=>?_⟩,λx hx b hb hm=>?_⟩
 ·rw[Lk,LA];simpa using V
 ·rcases Li.1 hx with hx | hx
  ·exact Qk (Qq (h.each x hx) hs) I (h.db x hx)
  rw[La.1 hx];exact Zk (Qk hq I S) T
 ·rw[La.1 hy] at hm;have h1:=(Qn hq b hm).1;have h2:=QO (h.each x hx) b hb;omega
 rcases Li.1 hx with hx | hx
 ·rcases J b hm with h1 | h1
  ·exact h.db x hx b hb h1
  have:=QO (h.each x hx) b hb;omega
 rw[La.1 hx] at hb;rcases J b hm with h1 | h1
 ·exact S b hb h1
 have:=QO hq b hb;omega
theorem UH.merge {N:Nat}{w wd H I:World}{vv E r:Value}{A B C:List GV}{p q:GV}{G:Nat}(h:UH N w vv (A++p::(B++q::C))) (hd:Step [] w wd) (he:Step (ob p.v) wd H) (hf:Qu 3 N H E (nI (p.ms++q.ms)))
  (J:∀b∈ob E,b∈ob p.v∨wd.heap.size≤b) (T:Step (ob vv) H I) (hg:ob r=ob vv) (hh:I.ownsRow N 200 2 r (A++(⟨E,p.ms++q.ms,G⟩:GV)::(B++C)).length ((A++(⟨E,p.ms++q.ms,G⟩:GV)::(B++C)).flatMap QV)) :
  UH N I r (A++⟨E,p.ms++q.ms,G⟩::(B++C)):=by
 have hz:=hd.size;have V:=h.dj;rw[MA,LF,MA,LF] at V;obtain ⟨hA,⟨hp,hB,⟨hq,hC⟩,hi⟩,S⟩:=V;have hj:p∈A++p::(B++q::C):=by simp
 have Y:∀b∈ob E,b∉ob vv:=λb hb hm=>by
  rcases J b hb with h1 | h1
  ·exact h.db p hj b h1 hm
  have:=QO h.own b hm;omega
 have hc:∀x,x∈A++(⟨E,p.ms++q.ms,G⟩:GV)::(B++C)→x=⟨E,p.ms++q.ms,G⟩∨(x∈A++p::(B++q::C)∧∀b∈ob x.v,b∉ob p.v):=λx hx=>by
  simp only[List.mem_append,List.mem_cons] at hx ⊢;rcases hx with hx | hx | hx | hx
  ·exact .inr ⟨.inl hx,S x hx p Ls⟩
  ·exact .inl hx
  ·exact .inr ⟨.inr (.inr (.inl hx)),λb hb hm=>hp x (LL _ hx) b hm hb⟩
  exact .inr ⟨.inr (.inr (.inr (.inr hx))),λb hb hm=>hp x (Mt _ (Lm _ hx)) b hm hb⟩
 refine ⟨hh,λx hx=>?_,MA.2 ⟨hA,LF.2 ⟨λy hy b hb hm=>?_,MA.2 ⟨hB,hC,λa ha y hy=>hi a ha y (Lm _ hy)⟩⟩,λa ha y hy b hb hm=>?_⟩,λx hx b hb hm=>?_⟩
 ·rcases hc x hx with rfl | ⟨hx,hk⟩
  ·exact Qk hf T Y
  exact Qk (Qk (Qq (h.each x hx) hd) he hk) T (h.db x hx)
 ·have hl:y∈A++p::(B++q::C):=by
   simp only[List.mem_append,List.mem_cons] at hy ⊢;rcases hy with hy | hy
   ·exact .inr (.inr (.inl hy))
   exact .inr (.inr (.inr (.inr hy)))
  rcases J b hb with h1 | h1
  ·refine hp y ?_ b h1 hm;rcases Li.1 hy with hy | hy
   ·exact LL _ hy
   exact Mt _ (Lm _ hy)
  have:=QO (h.each y hl) b hm;omega
 ·rcases Lb.1 hy with rfl | hy
  ·rcases J b hm with h1 | h1
   ·exact S a ha p Ls b hb h1
   have:=QO (h.each a (LL _ ha)) b hb;omega
  refine S a ha y (Lm _ ?_) b hb hm;rcases Li.1 hy with hy | hy
  ·exact LL _ hy
  exact Mt _ (Lm _ hy)
 rw[hg] at hm;rcases hc x hx with rfl | ⟨hx,_⟩
 ·exact Y b hb hm
 exact h.db x hx b hb hm
structure GrT (N:Nat) (w:World) (vv vo:Value) (l:List GV) (j:Nat):Prop where
 own:w.ownsRow N 200 2 vv l.length (l.flatMap QV)
 wo:w.ownsRow N 37 1 vo j ((l.take j).map (·.v))
 each:∀i q,l[i]?=some q→Qu 3 N w q.v (if i<j then Kr (nI q.ms) else nI q.ms)
 dj:l.Pairwise λx y=>∀b∈ob x.v,b∉ob y.v
 db:∀q∈l,∀b∈ob q.v,b∉ob vv
 dq:∀q∈l,∀b∈ob q.v,b∉ob vo
 dv:∀b∈ob vv,b∉ob vo
theorem UH.start {N:Nat}{w:World}{vv:Value}{l:List GV}(h:UH N w vv l):GrT N w vv Zz l 0 :=
 ⟨h.own,QM _ _ _ _,λi q hq=>(by rw[if_neg (by omega)];exact h.each q (LT hq)),h.dj,h.db,λq hq b hb hm=>(by cases hm),λb hb hm=>(by cases hm)⟩
theorem GrT.next {N j:Nat}{w hc I J S:World}{vv vo T:Value}{l:List GV}(h:GrT N w vv vo l j) (E:j<l.length) {q:GV}(hq:l[j]?=some q) (V:Step [] w hc) (Y:Step (ob q.v) hc I) (hl:Qu 3 N I q.v (Kr (nI q.ms)))
  (G:Step [] I J) (hn:S.ownsRow N 37 1 T (j+1) ((l.take j).map (·.v)++[q.v])) (ha:Step (ob vo) J S) (he:∀b∈ob T,b∈ob vo∨J.heap.size≤b):GrT N S vv T l (j+1):=by
 have hs:=V.size;have ht:=Y.size;have hu:=G.size;have hf:=LT hq;have hh:l[j]'E=q:=by
  rw[Lv E] at hq;exact Option.some.inj hq
 have ho:∀i p,l[i]?=some p→i≠j→∀b∈ob p.v,b∉ob q.v:=λi p hp H b hb hm=>by
  obtain ⟨hi,rfl⟩:=LY.1 hp;have hg:=LM.1 h.dj;rw[←hh] at hm;rcases Nat.lt_or_gt_of_ne H with h1 | h1
  ·exact hg i j hi E h1 b hb hm
  exact hg j i E hi h1 b hm hb
 refine ⟨?_,?_,λi p hp=>?_,h.dj,h.db,λp hp b hb hm=>?_,λb hb hm=>?_⟩
 ·refine Qk (Qq (Qk (Qq h.own V) Y (λb hb hm=>h.db q hf b hm hb)) G) ha h.dv
 ·rw[Le E,Lt,hh];exact hn
 ·have hr:=LT hp;by_cases H:i=j
  ·subst H;rw[hq] at hp;cases hp
   rw[if_pos (by omega)];exact Qk (Qq hl G) ha (h.dq q hf)
  have h1:=Qk (Qq (Qk (Qq (h.each i p hp) V) Y (ho i p hp H)) G) ha (h.dq p hr);by_cases hk:i<j
  ·rw[if_pos hk] at h1;rw[if_pos (by omega)];exact h1
  rw[if_neg hk] at h1;rw[if_neg (by omega)];exact h1
 ·rcases he b hm with h1 | h1
  ·exact h.dq p hp b hb h1
  obtain ⟨i,hi,rfl⟩:=LD hp;have:=QO (h.each i _ (Lv hi)) b hb;omega
 rcases he b hm with h1 | h1
 ·exact h.dv b hb h1
 have:=QO h.own b hb;omega
def GrZ (l:List GV) (i k:Nat):Prop:=∀a b (ha:a<b) (hb:b<l.length),(a<i∨(a=i∧b<k))→(l[a]'(by omega)).b &&& (l[b]'hb).b=0
theorem GrZ.row {l:List GV}{i k:Nat}(h:GrZ l i k) (hk:l.length≤k):GrZ l (i+1) (i+2):=λa b ha hb hc=>by
 refine h a b ha hb ?_;rcases hc with hc | hc
 ·rcases Nat.lt_or_ge a i with h1 | h1
  ·exact .inl h1
  exact .inr ⟨by omega,by omega⟩
 omega
theorem GrZ.col {l:List GV}{i k:Nat}(h:GrZ l i k) (hi:i<k) (hk:k<l.length) (E:(l[i]'(by omega)).b &&& (l[k]'hk).b=0):GrZ l i (k+1):=λa b ha hb hc=>by
 by_cases e:a=i∧b=k
 ·obtain ⟨rfl,rfl⟩:=e;exact E
 refine h a b ha hb ?_;rcases hc with hc | hc
 ·exact .inl hc
 exact .inr ⟨hc.1,by omega⟩
theorem Qd6 {E:LN}{l:List GV}(H:GrP E l) {i k:Nat}(h:GrZ l i k) (hi:l.length≤i):zk (rbG E) (l.map (·.ms))=none:=by
 refine qq _ ?_;rw[L7,LM];intro a b ha hb G;rw[H.mt G hb];exact decide_eq_false (not_not_intro (h a b G hb (.inl (by omega))))
theorem Qd5 {E:LN}{A B C:List GV}{p q:GV}(G:GrP E (A++p::(B++q::C))) (h:GrZ (A++p::(B++q::C)) A.length (A.length+1+B.length)) (hm:p.b &&& q.b≠0) (v:Value) :
  zk (rbG E) ((A++p::(B++q::C)).map (·.ms))=some ((A++(⟨v,p.ms++q.ms,p.b ||| q.b⟩:GV)::(B++C)).map (·.ms)):=by
 have V:(A++p::(B++q::C)).length=A.length+1+B.length+1+C.length:=by simp;omega
 have gp:(A++p::(B++q::C))[A.length]'(by omega)=p:=by simp
 have gq:(A++p::(B++q::C))[A.length+1+B.length]'(by omega)=q:=by
  rw[MB (by omega)];simp only[show A.length+1+B.length - A.length=B.length+1 by omega,List.getElem_cons_succ];simp
 have hz:∀a b (ha:a<b) (hb:b<(A++p::(B++q::C)).length),(a<A.length∨(a=A.length∧b<A.length+1+B.length))→K8 (rbG E) ((A++p::(B++q::C))[a]'(by omega)).ms ((A++p::(B++q::C))[b]'hb).ms=false:=λa b ha hb hc=>by
  rw[G.mt ha hb];exact decide_eq_false (not_not_intro (h a b ha hb hc))
 simp only[List.map_append,List.map_cons];refine qp (λx hx=>?_) ?_ _ ?_ (λx hx y hy=>?_)
 ·obtain ⟨y,hy,rfl⟩:=Ly.1 hx;obtain ⟨j,H,rfl⟩:=LD hy;have h1:=hz A.length (A.length+1+j) (by omega) (by omega) (.inr ⟨O,by omega⟩);rw[gp] at h1;have e:(A++p::(B++q::C))[A.length+1+j]'(by omega)=B[j]'H:=by
   rw[MB (by omega)];simp only[show A.length+1+j - A.length=j+1 by omega,List.getElem_cons_succ];rw[L3 H]
  rw[e] at h1;exact h1
 ·have h1:=G.mt (i:=A.length) (k:=A.length+1+B.length) (by omega) (by omega);rw[gp,gq] at h1;rw[h1];exact decide_eq_true hm
 ·rw[L7,LM];intro a b ha hb I;have h1:=hz a b I (by omega) (.inl (by omega));rw[L3 ha,L3 hb] at h1;exact h1
 obtain ⟨Y,J,rfl⟩:=Ly.1 hx;obtain ⟨a,ha,rfl⟩:=LD J;have S:y∈(p::(B++q::C)).map (·.ms):=by simpa using hy
 obtain ⟨y',T,rfl⟩:=Ly.1 S;obtain ⟨b,hb,rfl⟩:=LD T;have h1:=hz a (A.length+b) (by omega) (by rw[Lk];omega) (.inl ha);rw[L3 ha] at h1;have e:(A++p::(B++q::C))[A.length+b]'(by rw[Lk];omega)=(p::(B++q::C))[b]'hb:=by
  rw[MB (by omega)];simp only[Nat.add_sub_cancel_left]
 rw[e] at h1;exact h1
theorem Qgv {g:GV}(h:g.v.oneCell'=true):∀u∈QV g,u.oneCell'=true:=by
 intro u hu;simp only[QV,List.mem_cons,List.not_mem_nil,or_false] at hu;rcases hu with rfl | rfl
 ·exact h
 rfl
theorem KC:∀{l:List GV},(l.flatMap (·.ms)).Nodup→∀q∈l,q.ms.Nodup
 | [],_,q,hq=>by cases hq
 | g::l,h,q,hq=>by
  rw[LB] at h;have h':=List.nodup_append.1 h;rcases Lb.1 hq with rfl | hq
  ·exact h'.1
  exact KC h'.2.1 q hq
theorem QcL (l:LN):(l.flatMap λb:Nat=>[Value.int .u16 (b:Int)])=jm l:=by
 induction l with
 | nil=>rfl
 | cons a l ih=>rw[LB,ih];rfl
theorem Qb4 {E:LN}{l:List GV}(hb:∀b∈E,b<65536) (h:(l.map λq=>(q.ms,q.b))=(List.range E.length).map λj=>([j],E.getD j 0)) :
  GrP E l∧l.length=E.length∧l.map (·.ms)=(List.range E.length).map λj=>[j]:=by
 have G:l.map (·.ms)=(List.range E.length).map λj=>[j]:=by
  have:=congrArg (List.map Prod.fst) h;rw[Me,Me] at this;exact this
 have H:l.length=E.length:=by
  have:=congrArg List.length h;simpa using this
 have hq:∀q∈l,∃j,j<E.length∧q.ms=[j]∧q.b=E.getD j 0:=λq hq=>by
  have h1:(q.ms,q.b)∈l.map λq=>(q.ms,q.b):=Ly.2 ⟨q,hq,O⟩;rw[h] at h1;obtain ⟨j,I,e⟩:=Ly.1 h1;exact ⟨j,List.mem_range.1 I,(congrArg Prod.fst e).symm,(congrArg Prod.snd e).symm⟩
 refine ⟨⟨λq hm j=>?_,λq hm=>?_,λq hm=>?_,?_,λq hm x hx=>?_⟩,H,G⟩
 ·obtain ⟨i,hi,e1,e2⟩:=hq q hm;rw[e1,e2];simp
 ·obtain ⟨i,hi,e1,e2⟩:=hq q hm;rw[e2,MJ,Lv hi];exact hb _ (Lc hi)
 ·obtain ⟨i,hi,e1,e2⟩:=hq q hm;rw[e1];simp
 ·have e:l.flatMap (·.ms)=List.range E.length:=by
   rw[List.flatMap_def,G];generalize List.range E.length=r;induction r with
   | nil=>rfl
   | cons a r ih=>rw[LP,List.flatten_cons,ih];rfl
  rw[e];exact List.nodup_range
 obtain ⟨i,hi,e1,e2⟩:=hq q hm;rw[e1] at hx;rw[La.1 hx];exact hi
theorem UH.base {N N':Nat}{w:World}{vv:Value}{l:List GV}(h:UH N w vv l) (E:N'≤N):UH N' w vv l:=⟨Zk h.own E,λq hq=>Zk (h.each q hq) E,h.dj,h.db⟩
structure GmI (bs:LN) (N:Nat) (w w':World) (z:Value×List GV):Prop where
 st:Step [] w w'
 m:UH N w' z.1 z.2
 p:GrP bs z.2
 n:z.2.length≤bs.length
 eq:jK (rbG bs) z.2.length (z.2.map (·.ms))=Qf6 (rbG bs) bs.length
set_option maxRecDepth 100000 in
set_option maxHeartbeats 16000000 in
theorem Qct {L:LN}{w:World}{c:CL}(h0:ZB L w.heap c) :
  QI prog 39 [c.val] w λr w'=>Step [] w w'∧∃v,r=.tuple #[v,.int .i64 (Q8 c.cel)]∧(Q8 c.cel≠0→v=nS)∧(Q8 c.cel=0→y9 w.heap.size w'.heap v ((Qke (rbG (sets c.cel)) (sets c.cel).length).map nI)):=by
 have h:=h0.up (L':=[]) (by simp);have g3:=λ(w':World) (hs:Step [] w w') (V:JQ c.cel)=>Qar (h.ext hs) V;have g4:JQ c.cel→(sets c.cel).length≤96:=λV=>by
  have:=VL V 3 (by omega);rw[VX] at this;omega
 have g5:JQ c.cel→∀b∈sets c.cel,b<65536:=by
  intro V b hb;unfold sets at hb;rcases Li.1 hb with hb | hb
  ·exact Jj V (m:=0) (by omega) b hb
  rcases Li.1 hb with hb | hb
  ·exact Jj V (m:=1) (by omega) b hb
  exact Jj V (m:=2) (by omega) b hb
 refine Zh (sets c.cel) λJ g6=>?_;refine Zh (Q8 c.cel) λE hE=>?_;rw[hE,g6];simp only[g6] at g3 g4 g5;refine QI.of_W func39 O ntmps39 results39 (by simp) ?_;refine Qc<|xl O<|QQ (us:=c.cells) O λb1 w1 g7 hb1 g8=>x Qf<|Qe<|Qg0<|Qg<|Qc<|x (Qr g8 O O)<|xl O<|xf<|(Ym (h.ext g7)).mono ?_;rintro rc wc ⟨g9,ka⟩;rw[hE] at g9;subst g9;have mv:=g8.ext ka;have gc:=g7.trans ka
 refine Qe<|Qc<|Qb<|x (Q9 O O)<|xe<|Q7 rfl (λge=>?_) (λge=>?_)
 ·refine Qc<|Qb<|x Qf<|Qe ?_;exact Qm ⟨[nS,.int .i64 E],⟨O,O,U⟩,gc,nS,O,λ_=>O,λh0=>absurd h0 ge⟩
 have gg:E=0:=Lq.1 ge;have V:JQ c.cel:=(ZF (hE.trans gg)).sr;have hsl:=g4 V;have mw:=g5 V;refine Qi<|Qc<|Qe<|Qg<|Qc<|x (Qr mv O O)<|xl O<|xf<|(g3 wc gc V).mono ?_;rintro r2 w2 ⟨my,mz⟩;have kb:=gc.trans my;have hz02:=kb.size;have hA:Zq [] w2.heap r2 J.length 1 (jm J):=QS mz (by omega) (by simp)
 have m0:Zq [] w2.heap r2 J.length 1 (J.flatMap λb:Nat=>[Value.int .u16 (b:Int)]):=by rw[QcL];exact hA
 refine x (Qs hA O)<|Qb<|xe<|Qh<|QA (α:=Nat×Value×List GV) [(5,7),(21,33)] (λz=>[(5,z.2.1),(21,.int .i64 (z.1:Int))]) (λz w'=>z.1≤J.length∧Step [] w2 w'∧UH w2.heap.size w' z.2.1 z.2.2∧(z.2.2.map λq=>(q.ms,q.b))=(List.range z.1).map λj=>([j],J.getD j 0)) (λz=>J.length - z.1) (by rfl) (0,Zz,[]) ⟨O,O,U⟩
  ⟨Lj _,Step.refl _ _,UH.nil,O⟩ ?_
 rintro ⟨i,vv,l⟩ g w3 ⟨hi,hQ,hM,hv⟩
 replace hi:i≤J.length:=hi
 replace hM:UH w2.heap.size w3 vv l:=hM
 replace hv:(l.map λq=>(q.ms,q.b))=(List.range i).map λj=>([j],J.getD j 0):=hv;have hli:l.length=i:=by
  have:=congrArg List.length hv;simpa using this
 have m1:=kb.trans hQ;have hz3:=hQ.size;refine Qc<|x (QB O O)<|xe<|Qg<|QH O (λgh=>?_) (λgh=>?_)
 ·refine Qy ?_;have m2:i=J.length:=by have hh:¬(i:Int)<(J.length:Int):=gh;omega
  rw[m2] at hv;obtain ⟨hP,m3,m4⟩:=Qb4 mw hv
  replace hM:UH w.heap.size w3 vv l:=hM.base (by omega);refine Qg<|Qg1 ?_;refine Qg<|Qh<|QA (α:=Value×List GV) [(5,5),(8,9),(34,92)] (λz=>[(5,z.1)]) (λz w'=>GmI J w.heap.size w w' z) (λz=>z.2.length) (by rfl) (vv,l) Z
   ⟨m1,hM,hP,by show l.length≤_;omega,by show jK _ l.length (l.map (·.ms))=_;rw[m3,m4];rfl⟩ ?_
  rintro ⟨vg,gl⟩ g w4 hI;have kc:Step [] w w4:=hI.st;have ke:UH w.heap.size w4 vg gl:=hI.m;have S:GrP J gl:=hI.p;have m5:gl.length≤J.length:=hI.n;have gi:jK (rbG J) gl.length (gl.map (·.ms))=Qf6 (rbG J) J.length:=hI.eq;have gj:Zq [] w4.heap vg gl.length 2 (gl.flatMap QV):=QS ke.own (by omega) (by simp);refine Qh<|Qg<|Qc<|Qb<|x (Qs gj O)<|Qb<|xe ?_
  refine Qh<|QA (α:=Nat) [(5,5),(8,9),(36,92)] (λz=>[(5,vg),(36,.int .i64 (z:Int))]) (λz w'=>z≤gl.length∧Step [] w4 w'∧GrZ gl z (z+1)) (λz=>gl.length - z) (by rfl) 0 ⟨O,O,U⟩ ⟨Lj _,Step.refl _ _,λa b ha hb hc=>by omega⟩ ?_;rintro H g w5 ⟨hi1,he,kf⟩;have kg:=ke.ext he;refine Qc<|x (QB O O)<|xe<|Qg<|QH O (λgk=>?_) (λgk=>?_)
  ·refine Qy<|Qy ?_;have hge:gl.length≤H:=by have hh:¬(H:Int)<(gl.length:Int):=gk;omega
   have m6:=Qd6 S kf hge;have m7:gl.map (·.ms)=Qf6 (rbG J) J.length:=by
    rw[←gi];cases hgn:gl.length with
    | zero=>rfl
    | succ m=>rw[jK,m6]
   have m8:=kc.trans he;refine Qc<|Qe ?_;have m9:Zq [] w5.heap vg gl.length 2 (gl.flatMap QV):=gj.ext he;refine Qg<|Qc<|Qb<|x (Qs m9 O)<|Qb<|xe<|Qh<|QA (α:=Nat×Value) [(10,10),(12,12),(95,107)] (λz=>[(10,z.2),(95,.int .i64 (z.1:Int))]) (λz w'=>z.1≤gl.length∧Step [] w w'∧GrT w.heap.size w' vg z.2 gl z.1) (λz=>gl.length - z.1) (by rfl) (0,Zz) ⟨O,O,U⟩
    ⟨Lj _,m8,kg.start⟩ ?_
   rintro ⟨j,vo⟩ g I ⟨hj,hw,T⟩
   replace hj:j≤gl.length:=hj
   replace T:GrT w.heap.size I vg vo gl j:=T;have kh:=hw.size;refine Qc<|x (QB O O)<|xe<|Qg<|QH O (λgm=>?_) (λgm=>?_)
   ·refine Qy ?_;have pa:j=gl.length:=by have hh:¬(j:Int)<(gl.length:Int):=gm;omega
    rw[pa] at T;have ki:I.ownsRow w.heap.size 37 1 vo (gl.map λq=>((q.v,Kr (nI q.ms)):TV)).length ((gl.map λq=>((q.v,Kr (nI q.ms)):TV)).flatMap ZH):=by
     have:=T.wo;rw[MY] at this;rw[qQ,Me,Lh];exact this
    have kj:∀q∈gl,Qu 3 w.heap.size I q.v (Kr (nI q.ms)):=λq hq=>by
     obtain ⟨a,ha,rfl⟩:=LD hq;have:=T.each a _ (Lv ha)
     rwa [if_pos ha] at this
    have kk:∀q∈gl,(Kr (nI q.ms)).length≤1000∧0<(Kr (nI q.ms)).length∧0≤cget (Kr (nI q.ms)) 0∧cget (Kr (nI q.ms)) 0<1000:=λq hq=>by
     have gn:q.ms.Nodup:=KC S.nd q hq;have h1:=zi gn (S.rg q hq);have h2:=S.ne q hq;have h3:=(YF q.ms).length_eq;have h4:VF q.ms≠[]:=λe=>h2 (by rw[e] at h3;exact Ln h3.symm);have h5:=yv h4;have h6:=S.rg q hq _ ((YF q.ms).mem_iff.1 h5.2);have h7:0<q.ms.length:=List.length_pos_iff.2 h2;rw[qT,h5.1,V8,h3];omega
    refine Qc<|Qb<|xl O<|xf<|(Qby (os:=gl.map λq=>((q.v,Kr (nI q.ms)):TV)) ki (by rw[Lh];omega) (λt ht=>by
     obtain ⟨q,hq,rfl⟩:=Ly.1 ht;have h1:=kk q hq;exact ⟨QS (kj q hq) (by show (Kr (nI q.ms)).length≤_;omega) (T.dq q hq),h1.2.1,h1.2.2⟩)).mono ?_
    rintro r7 w7 ⟨hR,pc,go,pd,kn⟩;refine xe<|Qc<|Qb<|x Qf<|Qe<|Qm ⟨[vo,.int .i64 0],⟨O,O,U⟩,hw.then hR (λb hb=>.inr (Qn ki b hb).1),vo,by rw[gg];rfl,λh=>absurd gg h,λ_=>⟨pc,?_,λL hL=>⟨?_,λt ht=>?_⟩⟩⟩
    ·rw[Qib S.nd S.ne go pd,m7];rfl
    ·have pf:=go.length_eq;rw[Lh] at pf;exact QS kn (by omega) (λb hb pg=>by have:=(Qn kn b hb).1;have:=hL b pg;omega)
    obtain ⟨q,hq,rfl⟩:=Ly.1 (go.mem_iff.1 ht);have h1:=Qk (kj q hq) hR (T.dq q hq);exact Qu.ints h1 (by show (Kr (nI q.ms)).length≤_;have:=(kk q hq).1;omega) hL
   have hC:j<gl.length:=by have hh:(j:Int)<(gl.length:Int):=gm;omega
   refine Qi ?_;have hD:Zq [] I.heap vg gl.length 2 (gl.flatMap QV):=QS T.own (by omega) (by simp);refine Qg<|Qh<|Qc<|xig (g:=QV) YI hD O O hC λa97 ko=>?_;refine Zh (gl[j]'hC) λq hq=>?_;have gp:gl[j]?=some q:=by rw[Lv hC,hq]
   have hf:=LT gp;have hF:Qu 3 w.heap.size I q.v (nI q.ms):=by
    have:=T.each j q gp
    rwa [if_neg (by omega)] at this
   have gn:q.ms.Nodup:=KC S.nd q hf;have hql:=zi gn (S.rg q hf);have hqI:=V8 q.ms;rw[hq] at ko;refine x (QF ko O O)<|xl O<|Qt (us:=[nS,.int .u16 0]) O λph w7 hR pj pm=>xl O<|Qp (us:=QV q) pm O O O O ⟨QJ hF,O,U⟩ λw8 hy kp=>xe ?_;have hG:Step [] I w8:=hR.then1 hy pj;refine Qc<|x (Qa O)<|x (Qd kp O O)<|xl O<|xf<|(qa (Qq hF hG) (by omega)).mono ?_
   rintro r9 w9 ⟨hn,ho⟩;refine xe ?_;have pn:=kp.step hn (λhc=>by have:=QO hF ph hc;omega);refine Qz<|Qb<|x (Qa O)<|x (Qd pn O O)<|xl O<|QD (us:=[[q.v]]) O O (by decide) (by simp) ⟨QY ho,rfl,U⟩ λb105 kq hz hb105 po=>?_;have pp:=Qq (Qk (Qq T.wo hG) hn (λb hb hm=>T.dq q hf b hm hb)) hz;have hz68:=hG.size;have hz9:=hn.size;have hz10:=hz.size
   refine xl O<|Q6 (news:=[q.v]) (L:=[]) pp O O O (po.at (by simp)) (λu hu=>by rw[List.mem_singleton.1 hu];exact QJ hF) (by omega) (by omega) λpt kr hH hS pu=>Qe<|Qz<|QN O O<|Qb<|xe ?_
   exact ⟨(j+1,pt),by show gl.length - (j+1)<gl.length - j;omega,⟨O,O,U⟩,hC,(((hw.trans hG).then hn (λb hb=>.inr (Qn hF b hb).1)).trans hz).then hS (λb hb=>.inr (Qn T.wo b hb).1),T.next hC gp hG hn ho hz hH hS pu⟩
  have hr:H<gl.length:=by have hh:(H:Int)<(gl.length:Int):=gk;omega
  refine Qi<|Qg<|Qh<|Qc<|Qb<|Qe<|Qc<|Qb<|QN O O<|Qe<|Qh<|QA (α:=Nat) [(5,5),(9,9),(41,91)] (λz=>[(5,vg),(9,.int .i64 (z:Int))]) (λz w'=>H<z∧z≤gl.length∧Step [] w5 w'∧GrZ gl H z) (λz=>gl.length - z) (by rfl) (H+1) ⟨O,O,U⟩ ⟨Nat.lt_succ_self _,hr,Step.refl _ _,kf⟩ ?_;rintro k g I ⟨hik,hk,hg,gq⟩;have pw:=kg.ext hg
  have hD:Zq [] I.heap vg gl.length 2 (gl.flatMap QV):=(gj.ext he).ext hg;refine Qg<|Qc<|Qb<|Qb<|x (Qs hD O)<|x (QB O O)<|xe<|QH O (λgr=>?_) (λgr=>?_)
  ·refine Qy ?_;have hge:gl.length≤k:=by have hh:¬(k:Int)<(gl.length:Int):=gr;omega
   refine Qz<|QN O O<|Qb<|xe ?_;exact ⟨H+1,by omega,⟨O,O,U⟩,hr,he.trans hg,gq.row hge⟩
  have h8:k<gl.length:=by have hh:(k:Int)<(gl.length:Int):=gr;omega
  have kt:=QgK hik h8;have ku:=gq.col hik h8;refine Zh (gl[H]'hr) λe1 hp=>?_;refine Zh (gl[k]'h8) λe2 hq=>?_;have h9:e1∈gl:=by rw[←hp];exact Lc _
  have hf:e2∈gl:=by rw[←hq];exact Lc _
  rw[hp,hq] at kt ku;have kv:=S.lt e1 h9;have kw:=S.lt e2 hf;refine Qi ?_;have hU:Step [] I { I with drawn:=I.drawn+1 }:=Step.drew _ _
  refine Qg<|Qh<|Qg<|QW (Step [] I) [(0,true),(1,true),(2,true),(3,true),(4,true),(5,true),(6,true),(7,true),(8,true),(9,true),(10,true),(11,true)] mixed (by rfl) (by kernel_rfl) hU ?_;refine p (λ_=>Qo)<|p (λ_=>Qo)<|Lg.pig (g:=QV) (i:=H) O YI hD O O hr λa49 kx=>?_;rw[hp] at kx
  refine p (λ_=>Zb O)<|pq (λ_ hc=>Qv ((kx.fld 1 (.int .u16 (e1.b:Int)) O).ext hc) O)<|p (λ_=>Qo)<|p (λ_=>Qo)<|Lg.pig (g:=QV) (i:=k) O YI hD O O h8 λa54 ky=>?_;rw[hq] at ky;refine p (λ_=>Zb O)<|pq (λ_ hc=>Qv ((ky.fld 1 (.int .u16 (e2.b:Int)) O).ext hc) O)<|p (λ_=>Qay O O kv kw)<|p (λ_=>Q9 O O)<|pe ?_;have hw:=(kc.trans he).trans hg;have kh:=hw.size
  refine Q7 O (λgs=>?_) (λgs=>?_)
  ·have pz:e1.b &&& e2.b≠0:=λe=>gs (by rw[e];rfl);refine Exists.elim kt λA p0=>Exists.elim p0 λB p1=>Exists.elim p1 λC gt=>?_;have hJ:=gt.1;have hV:=gt.2.1;have hBl:=gt.2.2.1;have gu:k=A.length+1+B.length:=by omega
   have Y:=pw.ext hU;have hB:Step [] ({ I with drawn:=I.drawn+1 }:World) { ({ I with drawn:=I.drawn+1 }:World) with drawn:=({ I with drawn:=I.drawn+1 }:World).drawn+1 }:=Step.drew _ _
   refine Exists.elim (JE Y.own (by omega)) λgb p2=>Exists.elim p2 λcap hK=>?_;have p3:ob vg=[gb]:=by rw[hK];rfl
   have hmp:=Y.each e1 h9;have kz:=Y.each e2 hf;have hl1:=zi (KC S.nd e1 h9) (S.rg e1 h9);have hl2:=zi (KC S.nd e2 hf) (S.rg e2 hf);have hI1:=V8 e1.ms;have p4:=V8 e2.ms;have p5:0<(nI e2.ms).length:=by rw[p4];exact List.length_pos_iff.2 (S.ne e2 hf)
   refine Exists.elim (JE kz p5) λqb p6=>Exists.elim p6 λqc k0=>?_;have p7:=Qbj (kz.ints (L:=[]) (by omega) (by simp)) k0;have hz67:I.heap.size≤({ I with drawn:=I.drawn+1 }:World).heap.size:=Lr _
   have k4:Zq (ob e1.v) ({ I with drawn:=I.drawn+1 }:World).heap vg gl.length 2 (gl.flatMap QV):=QS Y.own (by omega) (λb hb hm=>Y.db e1 h9 b hm hb)
   refine Qg<|QW (Step (ob e1.v) ({ I with drawn:=I.drawn+1 }:World)) [(0,true),(1,true),(2,true),(3,true),(4,true),(5,true),(6,true),(7,true),(8,true),(9,true),(10,true),(11,true),(12,false),(13,true),(14,true),(15,false)] mixed (by rfl) (by kernel_rfl) (Step.drew _ _) ?_
   refine p (λ_=>Qo)<|p (λ_=>Qo)<|p (λ_=>Qo)<|p (λ_=>Qo)<|Lg.pig (g:=QV) (i:=H) O YI k4 O O hr λa63 k5=>?_;rw[hp] at k5;refine p (λ_=>Zb O)<|pq (λ_ hc=>Qv ((k5.fld 0 e1.v O).st hc) O)<|p (λ_=>Qo)<|p (λ_=>Qo)<|Lg.pig (g:=QV) (i:=k) O YI k4 O O h8 λa68 k6=>?_;rw[hq] at k6
   refine p (λ_=>Zb O)<|pq (λ_ hc=>Qv ((k6.fld 0 e2.v O).st hc) O)<|pk<|Q6 (news:=(nI e2.ms).map (.int .i64)) (L:=[]) (Qq hmp hB) O (show ev _ _=_ from k0) (by simp) (p7.ext hB) (Kz _) (by omega) (by exact kh) λG w8 p8 hy p9=>⟨(hB.any (L:=ob e1.v)).trans' hy,?_⟩;have gv:Qu 3 w.heap.size w8 G (nI (e1.ms++e2.ms)):=by rw[QhT];exact Qu.appd p8
   have k7:w8.ownsRow w.heap.size 200 2 vg gl.length (gl.flatMap QV):=Qk (Qq Y.own hB) hy (λb hb hm=>Y.db e1 h9 b hm hb);rw[hK] at k7;refine p (λ_=>Zf (i:=H) (show ev _ _=_ from hK) O hr)<|p (λ_=>Qa O)<|pkl (hl:=by kernel_rfl)<|Qhh (k:=0+H*2+0) (u:=G) k7 O O (by omega) (QJ gv) λw9 hn ho=>pe ?_
   have qj:=(jS gl H e1 (by rw[Lv hr,hp])).1 G (e1.ms++e2.ms);have k8:gl.set H ⟨G,e1.ms++e2.ms,e1.b⟩=A++(⟨G,e1.ms++e2.ms,e1.b⟩:GV)::(B++e2::C):=by rw[hJ,←hV];exact Qa8
   have gw:gl.length=(A++(⟨G,e1.ms++e2.ms,e1.b⟩:GV)::(B++e2::C)).length:=by rw[←k8,MS]
   rw[show 0+H*2+0=H*2 by omega,qj,←hK,k8,gw] at ho;have gx:=QS (L:=[]) ho (by omega) (by simp);have hN:H<(A++(⟨G,e1.ms++e2.ms,e1.b⟩:GV)::(B++e2::C)).length:=by omega
   have hW:k<(A++(⟨G,e1.ms++e2.ms,e1.b⟩:GV)::(B++e2::C)).length:=by omega
   have g1:(A++(⟨G,e1.ms++e2.ms,e1.b⟩:GV)::(B++e2::C))[H]?=some ⟨G,e1.ms++e2.ms,e1.b⟩:=by rw[←hV];simp
   have g2:(A++(⟨G,e1.ms++e2.ms,e1.b⟩:GV)::(B++e2::C))[k]?=some e2:=by
    rw[gu,My (by omega),show A.length+1+B.length - A.length=B.length+1 by omega,List.getElem?_cons_succ];simp
   have hX:=(jS _ H _ g1).2 (e1.b ||| e2.b);have k9:(A++(⟨G,e1.ms++e2.ms,e1.b⟩:GV)::(B++e2::C)).set H ⟨G,e1.ms++e2.ms,e1.b ||| e2.b⟩=A++(⟨G,e1.ms++e2.ms,e1.b ||| e2.b⟩:GV)::(B++e2::C):=by rw[←hV];exact Qa8
   have ma:(A++(⟨G,e1.ms++e2.ms,e1.b⟩:GV)::(B++e2::C)).length=(A++(⟨G,e1.ms++e2.ms,e1.b ||| e2.b⟩:GV)::(B++e2::C)).length:=by rw[←k9,MS]
   replace hX:((A++(⟨G,e1.ms++e2.ms,e1.b⟩:GV)::(B++e2::C)).flatMap QV).set (H*2+1) (.int .u16 ((e1.b ||| e2.b:Nat):Int))=(A++(⟨G,e1.ms++e2.ms,e1.b ||| e2.b⟩:GV)::(B++e2::C)).flatMap QV:=hX.trans (by rw[k9]);refine Zh (A++(⟨G,e1.ms++e2.ms,e1.b⟩:GV)::(B++e2::C)) λl1 qk=>?_;rw[qk] at ho gx hN hW g1 g2 hX gw ma
   have qo:l1[H]'hN=⟨G,e1.ms++e2.ms,e1.b⟩:=by rw[Lv hN] at g1;exact Option.some.inj g1
   have qr:l1[k]'hW=e2:=by rw[Lv hW] at g2;exact Option.some.inj g2
   have gy:Step [] w9 { w9 with drawn:=w9.drawn+1 }:=Step.drew _ _
   have mc:=Qq ho gy;have hY:vg=.slice (some ⟨gb,0,none⟩) gl.length cap:=hK;rw[gw] at hY;rw[hY] at mc;refine Qg<|QW (Step [] w9) [(0,true),(1,true),(2,true),(3,true),(4,true),(5,true),(6,true),(7,true),(8,true),(9,true),(10,true),(11,true),(12,true),(13,false)] mixed (by rfl) (by kernel_rfl) gy ?_;refine p (λ_=>Qo)<|p (λ_=>Qo)<|Lg.pig (g:=QV) (i:=H) O YI gx O O hN λa76 mf=>?_
   rw[qo] at mf;refine p (λ_=>Zb O)<|pq (λ_ hc=>Qv ((mf.fld 1 (.int .u16 (e1.b:Int)) O).ext hc) O)<|p (λ_=>Qo)<|p (λ_=>Qo)<|Lg.pig (g:=QV) (i:=k) O YI gx O O hW λa81 mg=>?_;rw[qr] at mg;refine p (λ_=>Zb O)<|pq (λ_ hc=>Qv ((mg.fld 1 (.int .u16 (e2.b:Int)) O).ext hc) O)<|p (λ_=>qZ O O kv kw)<|p (λ_=>Zf (i:=H) (show ev _ _=_ from hY) O hN)<|p (λ_=>Qa O) <|
    pkl (hl:=by kernel_rfl)<|Qhh (k:=0+H*2+1) (u:=.int .u16 ((e1.b ||| e2.b:Nat):Int)) mc rfl rfl (by omega) rfl λkq hz mh=>pe ?_
   rw[show 0+H*2+1=H*2+1 by omega,hX,←hY,ma] at mh;have q0:Step (ob vg) w8 kq:=by
    rw[p3];exact (hn.trans' (gy.any (L:=[gb]))).trans' hz
   have q1:∀x∈A++(⟨G,e1.ms++e2.ms,e1.b ||| e2.b⟩:GV)::(B++e2::C),x.v.oneCell'=true:=λx hx=>by
    have q2:x=⟨G,e1.ms++e2.ms,e1.b ||| e2.b⟩∨x∈gl:=by
     rw[hJ];simp only[List.mem_append,List.mem_cons] at hx ⊢;rcases hx with hx | hx | hx
     ·exact .inr (.inl hx)
     ·exact .inl hx
     exact .inr (.inr (.inr hx))
    rcases q2 with rfl | hx
    ·exact QJ gv
    exact QJ (Y.each x hx)
   refine Qc<|Qb<|Qb<|Qb<|QN O O<|xl O<|xf<|(QgJ (l:=A++(⟨G,e1.ms++e2.ms,e1.b ||| e2.b⟩:GV)::(B++e2::C)) (k:=k) mh q1 (by omega) (by omega)).mono ?_;rintro q3 kr ⟨hS,q4,hH⟩;rw[QgL gu] at hH;have za:(A++(⟨G,e1.ms++e2.ms,e1.b ||| e2.b⟩:GV)::(B++e2::C)).length - 1=(A++(⟨G,e1.ms++e2.ms,e1.b ||| e2.b⟩:GV)::(B++C)).length:=by simp;omega
   rw[za] at hH;have mi:Step (ob vg) w8 kr:=q0.trans' hS;have mj:=Y;have gz:=S;have g0:=gq;rw[hJ] at mj gz g0;rw[gu,←hV] at g0;have mn:=Qd5 gz g0 pz G;have zv:gl.length=(A++(⟨G,e1.ms++e2.ms,e1.b ||| e2.b⟩:GV)::(B++C)).length+1:=by rw[hJ];simp;omega
   rw[←hJ] at mn;have mo:(A++(⟨G,e1.ms++e2.ms,e1.b ||| e2.b⟩:GV)::(B++C)).length<gl.length:=by omega
   rw[zv,jK,mn] at gi;refine Qe<|Qy ?_;refine ⟨(q3,A++(⟨G,e1.ms++e2.ms,e1.b ||| e2.b⟩:GV)::(B++C)),mo,Z,⟨?_,mj.merge hB hy gv p9 mi q4 hH,gz.merge G,LS (Nat.le_of_lt mo) m5,gi⟩⟩;exact (((hw.trans hU).trans hB).then hy (λb hb=>.inr (Qn hmp b hb).1)).then mi (λb hb=>.inr (Qn Y.own b hb).1)
  have z0:e1.b &&& e2.b=0:=by have h59:=Lq.1 gs;omega
  refine Qi<|Qz<|Qb<|QN O O<|Qe ?_;exact ⟨k+1,by omega,⟨O,O,U⟩,by omega,h8,hg.trans hU,ku z0⟩
 have hZ:i<J.length:=by have hh:(i:Int)<(J.length:Int):=gh;omega
 refine Qi<|Qg<|Qh<|Qc<|Qb<|xig (g:=λb:Nat=>[Value.int .u16 (b:Int)]) (i:=i) (λ_=>O) (m0.ext hQ) O O hZ λa24 mq=>?_;refine Zh (J[i]'hZ) λbi mu=>?_;rw[mu] at mq;refine x (Qv mq O)<|x Qf<|Qe<|Qz<|Qb<|Qb<|xl O<|QD (us:=[[.int .i64 i]]) O O (by decide) (by simp) ⟨rfl,rfl,U⟩ λhO w4 z2 z3 z4=>Qb<|x (QE ⟨rfl,rfl,U⟩) <|
  xl rfl<|QD (us:=[QV ⟨.slice (some ⟨hO,0,none⟩) 1 1,[i],bi⟩]) O O (by decide) (by simp) ⟨rfl,rfl,U⟩ λb31 w5 he hb31 z5=>?_
 have z9:Qu 3 w3.heap.size w4 (.slice (some ⟨hO,0,none⟩) 1 1) (nI [i]):=Q4.own (cs:=[.int .i64 i]) z4 O (by decide) z3;have ga:=z2.trans he;have hz35:=ga.size;refine xl rfl<|Q6 (news:=QV ⟨.slice (some ⟨hO,0,none⟩) 1 1,[i],bi⟩) (L:=[]) (Qq hM.own ga) O O O (z5.at (by simp)) (Qgv rfl) (by omega) (by omega) λv6 I ho6 hg hn6=>Qe<|Qz<|QN rfl rfl<|Qb<|xe ?_
 refine ⟨(i+1,v6,l++[⟨.slice (some ⟨hO,0,none⟩) 1 1,[i],bi⟩]),by show J.length - (i+1)<J.length - i;omega,⟨O,O,U⟩,hZ,(hQ.trans ga).then hg (λb hb=>.inr ?_),UH.add (M:=w3.heap.size) hM ga (Qq z9 he) (Lr _) (by omega) ho6 hg hn6,?_⟩
 ·exact (Qn hM.own b hb).1
 show ((l++[(⟨.slice (some ⟨hO,0,none⟩) 1 1,[i],bi⟩:GV)]).map λq=>(q.ms,q.b))=(List.range (i+1)).map λj=>([j],J.getD j 0);rw[Lt,hv,List.range_succ,Lt,Mf,Mf,MJ,Lv hZ,mu];rfl
theorem Qai {w:World}{vl:Value}{ps:List AV}(h:Xg [] w.heap vl ps) (ho:∀p∈ps,Zi p.a) (he:Kb w 4096) :
  QI prog 26 [vl] w λr w'=>Step [] w w'∧∃va,r=.tuple #[va,.int .i64 (K1 (ps.map (·.a)))]∧(K1 (ps.map (·.a))≠0→va=zA)∧(K1 (ps.map (·.a))=0→YY w.heap.size w'.heap va (syA (ps.map (·.a)))):=by
 refine QI.of_W func26 O ntmps26 results26 (by simp) ?_;refine Qc<|xl O<|Qt (us:=X0) O λb2 w1 E hf J=>Qe<|Qc<|Qb<|xl O<|xf<|(UE (km:=4096) (h.ext E) (he.ext E) (by decide) (ze ho)).mono ?_;rintro r2 w2 ⟨S,vA,vt,c,rfl,G⟩;have hc:=G.e;have hg:=G.good;have hb:=G.bad;obtain ⟨a,xa,xm,H,qs,rfl,T,hq,_⟩:=G.shape;have hh:=E.size;have hr:=S.size;have hi:=J.lt
 refine Qb<|x (Ql O O)<|x (Ql O O)<|x (Ql O O)<|xl O<|Qt (us:=X0) O λb4 w3 hj hk hl=>xl O<|Qp (us:=[xa,.int .i64 a.st,xm,H]) hl O O O O T λw4 hm hn =>
  x Qf<|Qe ?_
 have V:Step [] w2 w4:=hj.then1 hm hk;have Y:=S.trans V;refine Qc<|x (Qr hn O O)<|Qb<|xl O<|Qp (us:=[xa,.int .i64 a.st,xm,H]) (J.ext Y) O O O O T λw5 ha hp=>Qe<|Qm ⟨[.agg [xa,.int .i64 a.st,xm,H].toArray,.int .i64 c],⟨⟨_,O,Qx O (hp.at (L:=[]) (by simp)).cells⟩,rfl,U⟩,(E.trans Y).then1 ha hf,.agg #[xa,.int .i64 a.st,xm,H],?_,λI=>?_,λI=>?_⟩
 ·show Value.tuple _=Value.tuple _;rw[hc]
 ·exact (hb (by rw[hc];exact I)).1
 have h1:=(hg (by rw[hc];exact I)).1;exact (XW (h1.ext V) hi ha).mono hh
theorem ja {w:World}{c:CL}(h:ZB [] w.heap c) (V:Kb w 4096) :
  QI prog 23 [c.val] w λr w'=>Step [] w w'∧∃va,r=.tuple #[va,.int .i64 (tgE c.cel)]∧(tgE c.cel≠0→va=zA)∧(tgE c.cel=0→YY w.heap.size w'.heap va (tgA c.cel)):=by
 have G:=Qi6 c.cel;refine QI.of_W func23 O ntmps23 results23 (by simp) ?_;refine Qc<|xl O<|QQ (us:=c.cells) O λb1 w1 Y hu hk=>xl O<|Qt (us:=X0) O λb2 w2 ha hv S=>Qe ?_;have I:=Y.trans ha;have hw:=I.size;have hy:=Y.size;have hz:=S.lt;refine Qc<|x (Qr (hk.ext ha) O O)<|xl O<|xf<|(Xd (h.ext I) (V.ext I)).mono ?_;rintro r3 w3 ⟨J,vl,rfl,h1,hl⟩
 refine Qb<|x (Ql O O)<|x (Ql O O)<|x Qf<|Qe ?_;have T:=I.trans J;have h2:=J.size;refine Qg<|Qc<|Qb<|x (Q9 O O)<|xe<|Q7 rfl (λH=>?_) (λH=>?_)
 ·rw[if_pos H] at G;refine Qc<|x (QE U)<|Qb<|xl O<|Qp (us:=X0) (S.ext J) O O O O ⟨O,O,O,O,U⟩ λw4 hm hn=>Qe<|Qm ⟨[.agg X0.toArray,.int .i64 (Kp c.cel)],⟨⟨_,O,Qx O (hn.at (L:=[]) (by simp)).cells⟩,rfl,U⟩,T.then1 hm (by omega),zA,?_,λ_=>rfl,λE=>absurd E (by rw[G];exact H)⟩;show Value.tuple _=Value.tuple _;rw[G];rfl
 rw[if_neg H] at G;have hb:=Lq.1 H;obtain ⟨h3,ps,hc,ho⟩:=hl hb;have hq:∀p∈ps,Zi p.a:=λp hp=>QcV hb p.a (by rw[←hc];exact LG hp);have hC:=Qai (ho [] (by simp)) hq (V.ext T);rw[hc,←G] at hC;refine Qi<|Qc<|Qb<|xl O<|xf<|hC.mono ?_;rintro r5 w5 ⟨he,va,rfl,hf,hg⟩;have hr:∃us,va=.agg us.toArray∧us.length=4∧ZO us:=by
  by_cases E:tgE c.cel=0
  ·exact X8 (hg E)
  exact ⟨X0,hf E,O,O,O,O,O,U⟩
 obtain ⟨us,hh,hi,hs⟩:=hr;refine x (Ql O O)<|x (Ql O O)<|xl O<|Qp (us:=us) (S.ext (J.trans he)) O (show Go.Lg.ev _ _=_ from hh) hi O hs λw6 hj ht=>Qe<|Qm ⟨[.agg us.toArray,.int .i64 (tgE c.cel)],⟨⟨_,O,Qx hi (ht.at (L:=[]) (by simp)).cells⟩,rfl,U⟩,(T.trans he).then1 hj (by omega),va,?_,hf,λE=>?_⟩
 ·show Value.tuple _=Value.tuple _;rw[hh]
 exact (XW (hg E) (by omega) hj).mono (by omega)
set_option maxRecDepth 100000 in
set_option maxHeartbeats 4000000 in
theorem UT {w:World}{c:CL}{kd ix:Int}{va:Option Addr}{n cp:Nat}(hc:je w.heap c) (hm:n≤6→∃u:LI,u.length=n∧QK [] w.heap (.slice va n cp) u) (Y:Kb w 4096) :
  QI prog 9 [c.val,.agg #[.int .i64 kd,.int .i64 ix,.slice va n cp]] w λr w'=>r=.bool true∧Step [] w w':=by
 refine QI.of_W func9 O ntmps9 results9 (by simp) ?_;refine Qc<|xl O<|QQ (us:=c.cells) O λb2 w0 hZ kw ga=>xl O<|QQ (us:=[.int .i64 kd,.int .i64 ix,.slice va n cp]) O λb3 w1 h9 kx hA=>Qe ?_;have hl:=hZ.trans h9;have hB:=ga.ext h9;have gb:=hc.ext hl;refine Qg<|Q0 (α:=Bool) [(25,37)] (λz=>[(37,.bool z)]) (λz w'=>Step [] w1 w'∧(z=false→Qe8 c∧n≤6)) (by rfl) ?_ ?_
 ·refine Qz<|xl O<|xf<|(UF (Y.ext hl)).mono ?_;rintro r2 w2 ⟨rfl,H⟩;refine xB (Zs O) (λhC=>absurd hC (by decide)) (λhC=>?_);refine Qb<|x (Qr (hB.ext H) O O)<|xl O<|xf<|(Qie (gb.ext H)).mono ?_;rintro r3 w3 ⟨G,z,rfl,hz⟩;refine xB (Zs O) (λhD=>?_) (λhD=>?_)
  ·refine x (Qj O)<|Qb<|xs O<|xs O<|xs O<|xs O<|x (Qj O)<|xe ?_;exact ⟨true,Z,H.trans G,λh=>by cases h⟩
  have hf:Qe8 c:=hz (by simpa using hD);refine x (Qj O)<|Qb<|x (Qa O)<|x (Qd ((hA.ext H).ext G) O O)<|x (Jb O)<|x (Zx O O)<|x (Qj O)<|xe ?_;exact ⟨decide ((n:Int) > 6),Z,H.trans G,λh=>⟨hf,by have:=of_decide_eq_false h;omega⟩⟩
 rintro z g w2 ⟨H,hz⟩;have ha:=hl.trans H;refine Q2 rfl (λhF=>?_) (λhF=>?_)
 ·refine Qc<|xl O<|xf<|(UF (Y.ext ha)).mono ?_;rintro r3 w3 ⟨rfl,G⟩;refine Qe ?_;exact Qm ⟨[.bool true],Z,O,ha.trans G⟩
 have hG:=hz hF;refine Qi ?_;have hH:ZB [] w2.heap c:=(hc.ext ha).cel hG.1;have hI:=hB.ext H;have gc:=hA.ext H;refine Exists.elim (hm hG.2) λco ge=>?_;have gg:QK [] w2.heap (.slice va n cp) co:=ge.2.ext ha;refine Qc<|x (Qr hI O O)<|xl O<|xf<|(Ym hH).mono ?_;rintro r3 w3 ⟨hJ,G⟩;refine Zh (Q8 c.cel) λE hE=>?_;rw[hE] at hJ;subst hJ;refine Qe ?_;have hb:=ha.trans G
 refine Qg<|Qc<|Qb<|x (Q5 O O)<|xe<|Q7 rfl (λhK=>?_) (λhK=>?_)
 ·refine Qc<|Qe ?_;exact Qm ⟨[.bool true],Z,O,hb⟩
 have S:E≠0:=hK;have T:Q8 c.cel≠0:=by rw[hE];exact S
 have hn:Kp c.cel=E:=by unfold Kp;rw[if_pos T,hE]
 have hL:tgE c.cel=E:=by unfold tgE;rw[hn,if_pos S]
 have hM:mdE c.cel (⟨kd,ix,co⟩:Vo)=E:=by unfold mdE;rw[if_pos T,hE]
 have ho:jg c.cel (⟨kd,ix,co⟩:Vo)=E:=by unfold jg;rw[hM,if_pos S]
 have hN:zL c.cel (⟨kd,ix,co⟩:Vo)=E:=by unfold zL;rw[ho,if_pos S]
 have gh:shR c.cel=none:=by unfold shR;rw[if_pos T]
 refine Qi ?_;have I:=hH.ext G;have hp:=gg.ext G;have J:=hI.ext G;have hq:=gc.ext G;refine Qc<|x (Qr J O O)<|xl O<|xf<|(Kg I).mono ?_;rintro r4 w4 ⟨gi,v4,l4,hr,_,gj,_⟩
 replace hr:r4=.tuple #[nS,.int .i64 E]:=hr.trans (by rw[(gj T).1,hE]);subst hr;refine Qb<|x (Ql O O)<|x (Ql O O)<|x Qf<|Qe ?_;have hs:=gi;refine Qc<|x (Qr (J.ext hs) O O)<|xl O<|xf<|(X5 (I.ext hs)).mono ?_;rintro r5 w5 ⟨gk,v5,ht,gl,_⟩
 replace ht:r5=.tuple #[nS,.int .i64 E]:=ht.trans (by rw[gl T,hE]);subst ht;refine Qb<|x (Ql O O)<|x (Ql O O)<|x Qf<|Qe ?_;have hu:=hs.trans gk;refine Qc<|x (Qr (J.ext hu) O O)<|xl O<|xf<|(Qct (I.ext hu)).mono ?_;rintro r6 w6 ⟨gm,v6,hv,gn,_⟩
 replace hv:r6=.tuple #[nS,.int .i64 E]:=hv.trans (by rw[gn T,hE]);subst hv;refine Qb<|x (Ql O O)<|x (Ql O O)<|x Qf<|Qe ?_;have he:=hu.trans gm;refine Qc<|x (Qr (J.ext he) O O)<|x (Qr (hq.ext he) O O)<|xl O<|xf<|(yp (q:=⟨kd,ix,.slice va n cp,co⟩) (I.ext he) (hp.ext he)).mono ?_;rintro r9 w9 ⟨go,us,hw,_,_,gp,_⟩
 have gq:us=Z5:=gp (by show jg c.cel ⟨kd,ix,co⟩≠0;rw[ho];exact S);subst gq
 replace hw:r9=.tuple #[.agg Z5.toArray,.int .i64 E]:=hw.trans (by show (Value.tuple #[.agg Z5.toArray,.int .i64 (jg c.cel ⟨kd,ix,co⟩)])=_;rw[ho]);subst hw;refine Qb<|x (Ql O O)<|x (Ql O O)<|xl O<|Qt (us:=Z5) O λky kz gr gs gt=>xl O<|Qp (us:=Z5) gt O O O O (by exact ⟨O,O,O,O,O,U⟩) λgu gv gw=>Qe ?_;have gx:Step [] w9 gu:=gr.then1 gv gs
 have V:=(he.trans go).trans gx;refine Qc<|x (Qr (J.ext V) O O)<|x (Qr (hq.ext V) O O)<|xl O<|xf<|(QaL (q:=⟨kd,ix,.slice va n cp,co⟩) (I.ext V) (hp.ext V) (Y.ext (hb.trans V))).mono ?_;rintro gy gz ⟨g0,sa,st,sm,se,hy,h0,_,g2⟩;have g3:st=0:=(g2 (by show zL c.cel ⟨kd,ix,co⟩≠0;rw[hN];exact S)).1;subst g3
 replace hy:gy=.tuple #[.agg #[sa,.int .i64 0,sm,se],.int .i64 E]:=hy.trans (by show (Value.tuple #[.agg #[sa,.int .i64 0,sm,se],.int .i64 (zL c.cel ⟨kd,ix,co⟩)])=_;rw[hN]);subst hy;refine Qb<|x (Ql O O)<|x (Ql O O)<|xl O<|Qt (us:=X0) O λk0 k4 g4 g5 g6=>xl O<|Qp (us:=[sa,.int .i64 0,sm,se]) g6 O O O O ⟨h0.1,O,h0.2.1,h0.2.2.1,U⟩ λg7 g8 g9=>Qe ?_
 have ka:Step [] gz g7:=g4.then1 g8 g5;have hO:=g0.trans ka;have hh:=V.trans hO;refine Qc<|x (Qr (J.ext hh) O O)<|xl O<|xf<|(Xd (I.ext hh) (Y.ext (hb.trans hh))).mono ?_;rintro kb k5 ⟨h1,k6,h2,kc,_⟩
 replace h2:kb=.tuple #[nS,.int .i64 E]:=h2.trans (by rw[kc (by rw[hn];exact S),hn]);subst h2;refine Qb<|x (Ql O O)<|x (Ql O O)<|x Qf<|Qe ?_;have hi:=hh.trans h1;refine Qc<|x (Qr (J.ext hi) O O)<|xl O<|xf<|(ja (I.ext hi) (Y.ext (hb.trans hi))).mono ?_;rintro ke kf ⟨h3,k7,h4,kg,_⟩
 replace h4:ke=.tuple #[zA,.int .i64 E]:=h4.trans (by rw[kg (by rw[hL];exact S),hL]);subst h4;refine Qb<|x (Ql O O)<|x (Ql O O)<|xl O<|Qt (us:=X0) O λk8 k9 kh ki kj=>xl O<|Qp (us:=X0) kj O O O O (by exact ⟨O,O,O,O,U⟩) λkk kn ko=>Qe ?_;have h5:Step [] kf kk:=kh.then1 kn ki;have h6:=(hi.trans h3).trans h5
 refine Qc<|x (Qr (J.ext h6) O O)<|xl O<|xf<|(qJ (I.ext h6)).mono ?_;rintro kp kq ⟨hj,h7⟩
 replace h7:kp=.tuple #[.int .i64 0,.int .i64 0,.int .i64 0,.bool false,.int .i64 E]:=h7.trans (by rw[gh,hE];rfl);subst h7;refine Qb<|x (Ql O O)<|x (Ql O O)<|x (Ql O O)<|x (Ql O O)<|x (Ql O O)<|x Qf <|
  x Qf<|x Qf<|x Qf<|Qe ?_
 have hg:=h6.trans hj;have kr:=(((hO.trans h1).trans h3).trans h5).trans hj;have kt:=((h1.trans h3).trans h5).trans hj;refine Q0 (α:=Unit) [(4,4),(88,166)] (λz=>[(4,.bool true)]) (λz w'=>Step [] kq w') (by rfl) ?_ ?_
 ·refine Qz<|Qb<|Qb<|xb (Q5 O O) (λhP=>?_) (λhP=>absurd O hP);refine Qb<|Qb<|Qb<|xb (Q5 O O) (λhQ=>?_) (λhQ=>absurd O hQ);refine x (Qj O)<|Qb<|Qb<|Qb<|xb (Q5 O O) (λhR=>?_) (λhR=>absurd O hR);refine x (Qj O)<|Qb<|x (Qr (J.ext hg) O O)<|x (Qr (hq.ext hg) O O)<|xl O<|xf<|(qu (q:=⟨kd,ix,.slice va n cp,co⟩) (I.ext hg) (hp.ext hg)).mono ?_;rintro ku ma ⟨h8,hk⟩
  replace h8:ku=.int .i64 E:=h8.trans (congrArg (Value.int .i64) hM);subst h8;refine Qb<|xb (Q5 O O) (λhS=>?_) (λhS=>absurd O hS);refine x (Qj O)<|Qb<|Qb<|Qb<|xb (Q5 O O) (λhT=>?_) (λhT=>absurd O hT);refine x (Qj O)<|Qb<|Qb<|Qb<|xb (Q5 O O) (λhU=>?_) (λhU=>absurd O hU);refine x (Qj O)<|Qb<|Qb<|Qb<|xb (Q5 O O) (λhV=>?_) (λhV=>absurd O hV)
  refine x (Qj O)<|Qb<|Qb<|Qb<|xb (Q5 O O) (λhW=>?_) (λhW=>absurd O hW);refine x (Qj O)<|Qb<|Qb<|Qb<|xb (Q5 O O) (λhX=>?_) (λhX=>absurd O hX);refine x (Qj O)<|Qb<|Qb<|x (Jb O)<|Qb<|x (Jb O)<|x (Yv O O ⟨by decide,by decide⟩) <|
   Qb<|x (Jb O)<|x (Yv O O ⟨by decide,by decide⟩)<|x (Qa O)<|x (Qd ((gw.ext kr).ext hk) O O)<|x (Jb O) <|
   x (Yv rfl O ⟨by decide,by decide⟩)<|x (Qa O)<|x (Qd ((g9.ext kt).ext hk) O O)<|x (Yv O O ⟨by decide,by decide⟩)<|Qb<|x (Jb O) <|
   x (Yv rfl O ⟨by decide,by decide⟩)<|x (Qa O)<|x (Qd ((ko.ext hj).ext hk) O O)<|x (Yv O O ⟨by decide,by decide⟩)<|Qb<|x (Yv O O ⟨by decide,by decide⟩) <|
   Qb<|x (Yv O O ⟨by decide,by decide⟩)<|Qb<|x (Yv O O ⟨by decide,by decide⟩)<|xb (Q5 O O) (λhY=>?_) (λhY=>absurd O hY)
  refine x (Qj O)<|Qb<|Qb<|x (Zs O)<|x (Qj O)<|Qe ?_;exact ⟨(),Z,hk⟩
 rintro ⟨⟩ g mc kv;exact Qm ⟨[.bool true],Z,O,(hb.trans hg).trans kv⟩
open Go.RowKit
theorem Yu {a b:Bool}(h1:a=true) (h2:b=true):(a && b)=true:=by rw[h1,h2];rfl
theorem zt {P:Program} {f:FuncId} {fn:Func} {s:ChangeSpec} {c:OpenClaim} (h1:(c.wf (OpenSpec.ofChange s))=true) (h2:(laidOutB P)=true) (h3:(mapsRowed P)=true) (E:(fn.params.all (P.readableRec ·))=true) (h5:(namedTie P c.named s.vars)=true) (G:((c.stops == []))=true) (H:((P.stops == []))=true) (I:((c.knobs == []))=true) (h9:((P.stopKnobs == []))=true) (J:((c.inPlace == P.inPlace f))=true) (S:((c.unfollowed == P.unfollowed f))=true) (T:((c.recurses == P.recurses f))=true) (V:((c.named == P.varsNamed f))=true) (Y:((c.maps == (fn.params.toList++s.plain.varTypes P).any (P.mapsRec ·)))=true) (ha:((c.ifaces == (fn.params.toList++s.plain.varTypes P).any (P.ifacesRec ·)))=true) (hb:((c.mapsOut == P.mapsAmong fn.resultTypes.toList))=true) (hc:((c.loops == (fn.params.toList++s.plain.varTypes P).any (P.loopsFrom ·)))=true) (he:((c.wideKeys == (fn.params.toList++s.plain.varTypes P++fn.resultTypes.toList).any (P.wideKeysFrom ·)))=true) (hf:(s.vars.all (P.varReadable ·))=true) (hg:(fn.resultTypes.all (λt=>P.readableRec t && decide (t<P.types.size)))=true) (hh:((c.ifacesOut == fn.resultTypes.toList.any (P.ifacesRec ·)))=true) (hi:((c.loopsOut == fn.resultTypes.toList.any (P.loopsFrom ·)))=true) (hj:((c.plainKeys == P.plainKeys))=true) (hk:(c.shortTexts.isNone)=true) (hl:(P.stopsHeard)=true) (hm:(P.mayEnter)=true) (hn:((c.lifted == P.liftsFinal))=true) (ho:((P.make == some c.make))=true) (hp:((c.kinds == (if c.domain.isEmpty then [] else fn.params.toList.map λt=>match P.underlying t with | some (.int k)=>some k | _=>none)))=true) (hq:((c.pinned == c.pinnedBy))=true) (hr:((c.veiled == (fn.params.toList++s.plain.varTypes P++fn.resultTypes.toList).any (P.veiledRec ·)))=true) (hs:(c.veiledFits P fn.params.toList (fn.params.toList++s.plain.varTypes P++fn.resultTypes.toList))=true):joinedFacts P f fn s c=true:=by
 unfold joinedFacts;exact (Yu (Yu (Yu (Yu (Yu (Yu (Yu (Yu (Yu (Yu (Yu (Yu (Yu (Yu (Yu (Yu (Yu (Yu (Yu (Yu (Yu (Yu (Yu (Yu (Yu (Yu (Yu (Yu (Yu (Yu (Yu h1 h2) h3) E) h5) G) H) I) h9) J) S) T) V) Y) ha) hb) hc) he) hf) hg) hh) hi) hj) hk) hl) hm) hn) ho) hp) hq) hr) hs)
theorem Ue:laidOutB prog=true:=by kernel_rfl
theorem QdT:mapsRowed prog=true:=by kernel_rfl
theorem QdV:prog.stopsHeard=true:=by kernel_rfl
theorem QdW:prog.mayEnter=true:=by kernel_rfl
theorem QdU:(false == prog.liftsFinal)=true:=by kernel_rfl
theorem Qgi:(prog.make == some Make.cut)=true:=by kernel_rfl
theorem Qgm:(Rows.moduleRefusesRow.inPlace == prog.inPlace 9)=true:=by kernel_rfl
theorem Qgl:(Rows.moduleRefusesRow.unfollowed == prog.unfollowed 9)=true:=by kernel_rfl
theorem Qgk:(Rows.moduleRefusesRow.recurses == prog.recurses 9)=true:=by kernel_rfl
theorem Qgj:(Rows.moduleRefusesRow.named == prog.varsNamed 9)=true:=by kernel_rfl
theorem Qh0:Rows.moduleRefusesRow.wfByText (OpenSpec.ofChange Rows.moduleRefusesSpec)=true:=by kernel_rfl
theorem Qh3:Tryz.pinned.checked.prog.mainIs=some (true, "7f1d7774d707b6ca2907d0280b916f7dc62d5f843e98687e905a54f8355f1b07".toList):=by kernel_rfl
theorem Qh2:prog.funcNamed "overseer/overseerlaw32.ModuleRefuses" = some 9:=by kernel_rfl
theorem Qh4:false=prog.looks []:=by kernel_rfl
theorem Qh1:([47,39].all λu=>!prog.wantsStandIn u)=true:=by kernel_rfl
theorem Qh5:false=Rows.moduleRefusesRow.goesBy Tryz.pinned.checked.prog:=by kernel_rfl
open Go.ChangeShapes Go.WideShapes
theorem QjH {H:Type}{enc:TypeId×Value→H}{P:Program}{W:World}{base J:Nat}{sp:Nat→Bool}{S:Bool}{t e:TypeId}{c:Value}{fuel:Nat}{x:DataW H×List MemPlace}(I:P.underlying t=some (.slice e)) (he:P.underlying e=some (.int .i64)) (hc:P.cellsOf e=1)
  (T:Cell.okWide P W .any base t c) (V:DataW.trod enc P W J sp S fuel t [c]=some x):∃a n cp,c=.slice a n cp∧(n≤12→∃u:LI,u.length=n∧QK [] W.heap (.slice a n cp) u):=by
 rcases open_ints I he hc V with ⟨G,_⟩ | ⟨a,len,cap,zs,G,_,hl,_,hz,_,Y,_⟩
 ·simp at G;subst G;exact ⟨none,0,0,O,λ_=>⟨[],O,Zq.nil _ _ _⟩⟩
 simp at G;subst G;have hb:len≤zs.length:=by rw[hz];split <;> omega
 refine ⟨some a,len,cap,O,λhf=>⟨zs.take len,by simp;omega,?_⟩⟩;have ha:(zs.take len).length=len:=by simp;omega
 unfold QK;rw[ha];refine ⟨by simp;omega,by omega,.inr ⟨a,cap,O,hl,λ_ _=>by simp,λ_ _=>QfG I T,λj v E=>?_⟩⟩;rw[M1,LK] at E;split at E
 ·rename_i hj;have h1:=Y j (by omega);have h2:zs[j]?=some (zs.getD j 0):=by simp[List.getD,show j<zs.length by omega]
  rw[h2] at E;simp at E;rw[←JM,h1,←E];simp[List.getD,show j<zs.length by omega]
 cases E
theorem Qcl {H:Type}{enc:TypeId×Value→H}{P:Program}{W:World}{base G:Nat}{sp:Nat→Bool}{I:Bool}{v:Value}{d:DataW H}{ps:List MemPlace}{t ti tl:Nat}{fs:Array Field}{f2:Field}(hu:P.underlying t=some (.struct fs)) (J:P.cellTypes P.depth t=some [ti,ti,tl]) (hc:P.cellsOf t=3)
  (S:fs[2]?=some f2) (Y:f2.type=tl) (o2:f2.offset=2) (c2:P.cellsOf tl=1) (hi:P.underlying ti=some (.int .i64)) (ha:P.cellsOf ti=1) (hl:P.underlying tl=some (.slice ti))
  (T:Value.okWide P W .any base t v) (h:DataW.Trod enc P W G sp I t v d ps):∃(kd ix:Int) (a:Option Addr) (n cp:Nat),v=.agg #[.int .i64 kd,.int .i64 ix,.slice a n cp]∧(n≤6→∃u:LI,u.length=n∧QK [] W.heap (.slice a n cp) u):=by
 simp only[Value.okWide,hu] at T;obtain ⟨cs,rfl,V,ts,hb,_,E⟩:=T;rw[hb] at J;have he:=Option.some.inj J;subst he;rw[hc] at V;obtain ⟨l⟩:=cs;have hg:l.length=3:=V
 match l,hg with
 | [x0,x1,x2],_ =>
  obtain ⟨fuel,hf⟩:=h;obtain ⟨xs,m,_,_,_,hk,hh⟩:=DataW.trod_struct hu hf;have hj:∀(i:Nat) (f:Field),fs[i]?=some f→DataW.trod enc P W G sp I m f.type (([x0,x1,x2].drop f.offset).take (P.cellsOf f.type))=xs[i]?:=hh;have hm:2<fs.size:=(Lz.1 S).1;obtain ⟨kd,rfl⟩:=Qds hi (Qdt E 0 ti x0 O O);obtain ⟨ix,rfl⟩:=Qds hi (Qdt E 1 ti x1 O O)
  have w2:=Qdt E 2 tl x2 O O;have t2:=ZT (c:=x2) hj 2 S Y o2 c2 O (by omega);obtain ⟨a,n,cp,rfl,hP⟩:=QjH hl hi ha w2 t2;exact ⟨kd,ix,a,n,cp,O,λh6=>hP (by omega)⟩
set_option maxRecDepth 100000 in
theorem QjG {H:Type}{enc:TypeId×Value→H}{W:World}{base E:Nat}{sp:Nat→Bool}{G:Bool}{v:Value}{d:DataW H}{ps:List MemPlace}(I:Value.okWide prog W .any base 39 v) (h:DataW.Trod enc prog W E sp G 39 v d ps) :
  ∃(kd ix:Int) (a:Option Addr) (n cp:Nat),v=.agg #[.int .i64 kd,.int .i64 ix,.slice a n cp]∧(n≤6→∃u:LI,u.length=n∧QK [] W.heap (.slice a n cp) u) :=
 Qcl underlying39 (ti:=3) (tl:=37) (by kernel_rfl) (by kernel_rfl) O O O (by kernel_rfl) underlying3 (by kernel_rfl) underlying37 I h
end Go.Proofs.YtdffckgdcegpaaaGreatDoor
