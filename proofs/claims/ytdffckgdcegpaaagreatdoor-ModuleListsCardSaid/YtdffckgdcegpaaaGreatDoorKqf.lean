/- Merged out of 5 texts. -/
import Derived.Test.YtdffckgdcegpaaaGreatDoorKqe
import Derived.Test.YtdffckgdcegpaaaGreatDoorRows
import Derived.JoinedOf
import Derived.Test.YtdffckgdcegpaaaGreatDoorCards
import Derived.SevenTiedAt
namespace Go.Proofs.YtdffckgdcegpaaaGreatDoor
open Go.Proofs.Tryz
open Go.Lg
set_option maxHeartbeats 4000000 in
theorem jX {w:World}{l:PwV}(hl:PwA w l) (hJ:Kb w 4096) :
  QJ prog 10 [.agg (YT l).toArray] w λr w'=>r=.bool true∧Step [] w w':=by
 refine QJ.of_W func10 O ntmps10 results10 (by simp) ?_;refine Qc<|xl O<|QT (us:=YT l) O λb1 w1 hv k6 hK=>Qe ?_;have hL:(YT l).length=152:=Qfa (l:=l.pl []) hl.n;refine Qf<|QW (α:=Unit) [(14,20)] (λz=>[(20,.bool (!decide (l.n≤4)))]) (λz w'=>Step [] w1 w') (by rfl) ?_ ?_
 ·refine Qx<|xl O<|xf<|(qF (hJ.ext hv)).mono ?_;rintro r2 w2 ⟨rfl,ha⟩;refine x (Zm O)<|Qb<|x (Qs (hK.ext ha) O hL)<|xl O<|xf<|(Qg2 (l:=l) ⟨hl.n,hl.b,hl.f0,hl.f1,hl.f2,hl.bd,λhn=>by
   obtain ⟨rs,h1,h2⟩:=hl.r hn;exact ⟨rs,h1,(h2.ext hv).ext ha⟩⟩).mono ?_
  rintro r3 w3 ⟨rfl,hg⟩;refine x (Zm O)<|x (Qo O)<|xe ?_;exact ⟨(),Z,ha.trans hg⟩
 rintro ⟨⟩ g w2 ha;have ht:=hv.trans ha;refine Q2 rfl (λhM=>?_) (λhM=>?_)
 ·refine Qc<|xl O<|xf<|(qF (hJ.ext ht)).mono ?_;rintro r3 w3 ⟨rfl,hg⟩;refine Qe ?_;exact Qn ⟨[.bool true],Z,O,ht.trans hg⟩
 have g3:l.n≤4:=by simpa using hM
 refine Qi<|Exists.elim (hl.pl ht g3) λrs g4=>?_;refine Qc<|x (Qs (hK.ext ha) O hL)<|xl O<|xf<|(QdE g4.1).mono ?_;rintro r3 w3 ⟨hg,_,⟨c,rfl,rfl,hC⟩,hD⟩;have hN:=hC [] (by simp);refine xl rfl<|Qv (us:=Yi) O λb3 w4 g5 g6 g7=>xl O<|Qr (us:=c.cells) g7 O O O O hN.ones λw5 g8 hO=>xe ?_;have hP:Step [] w3 w5:=g5.then1 g8 g6;have g9:=(ht.trans hg).trans hP
 have hQ:=hN.ext hP;have hb:=hD.ck;have k7:=hD.szs;have ka:=QkB hD;refine Qc<|x (Qs hO O O)<|xl O<|xf<|(KK hQ).mono ?_;rintro r6 w6 ⟨hw,v6,G,rfl,hR,_,hy⟩;rw[hb];refine Qb<|x (Qp O O)<|x (Qp O O)<|x Qh<|Qe ?_;have hS:=hQ.ext hw;have hT:=hO.ext hw;refine Qc<|x (Qs hT O O)<|xl O<|xf<|(Jz hS).mono ?_;rintro r7 w7 ⟨hh,v7,rfl,_,hz⟩;rw[hb]
 refine Qb<|x (Qp O O)<|x (Qp O O)<|x Qh<|Qe ?_;have hU:=hS.ext hh;have hV:=hT.ext hh;refine Qc<|x (Qs hV O O)<|xl O<|xf<|(Qef hU).mono ?_;rintro r8 w8 ⟨he,v8,rfl,_,h0⟩;rw[hb];refine Qb<|x (Qp O O)<|x (Qp O O)<|x Qh<|Qe ?_;have h3:=hU.ext he;have h4:=hV.ext he;have kb:=((g9.trans hw).trans hh).trans he
 replace hy:=hy hb
 replace hz:=hz hb
 replace h0:=h0 hb;refine Qf<|QS (Step [] w8) [(0,true),(2,true),(1,false),(3,false),(4,false),(5,true),(6,true)] mixed (by rfl) (by kernel_rfl) (Step.drew _ _) ?_;have hW:Step [] w8 { w8 with drawn:=w8.drawn+1 }:=Step.drew _ _
 refine pq (λ_ hc=>Qs (h4.ext hc) O O)<|pq (λ_ hc=>Qs (h4.ext hc) O O)<|pk<|xf<|(Jo (h3.ext hW) (by omega) (by omega)).mono ?_;rintro r9 w9 ⟨kc,S,hX,hY⟩;have hu:=hW.trans kc;refine ⟨hu,pk<|xf<|(Jo (h3.ext hu) (by omega) (by omega)).mono ?_⟩;rintro k8 k9 ⟨h5,ke,hZ,ga⟩;have ma:=yH hD ga;have mc:=yH hD hY
 refine ⟨hu.trans h5,pk<|xf<|(j2 (hZ.arr (by omega) (by simp)) (λq hq=>hZ.each q hq [] (by simp)) (by omega)).mono ?_⟩;rintro kf I ⟨gb,kg⟩;have J:=(hu.trans h5).trans gb;have gc:=h5.trans gb;refine ⟨J,p (λ_=>Qh)<|p (λ_=>Qh)<|pe ?_⟩;have kh:=kb.trans J;have ki:=h3.ext J;have kj:=h4.ext J;have h6:=hD.lmd
 have ge:G.map MV.m=S.map MV.m:=by rw[hy,hY,h6]
 have kk:G.length=S.length:=QfC ge;have h7:Zo [] I.heap v6 G.length 3 (G.flatMap Zi):=(((hR.arr (by omega) (by simp)).ext hh).ext he).ext J;have gg:Zo [] I.heap r9 S.length 3 (S.flatMap Zi):=(hX.arr (by omega) (by simp)).ext gc;have kn:∀q∈G,QL [] I.heap q.v q.co:=λq hq=>(((hR.each q hq [] (by simp)).ext hh).ext he).ext J
 have ko:∀q∈S,QL [] I.heap q.v q.co:=λq hq=>(hX.each q hq [] (by simp)).ext gc;have gh:rem c.cel=rmT (lmd c.cel) c.co.length:=by
  have:=QhU (c:=c.cel) (by have:=hD.c3;omega);rw[h6] at this;rw[this];congr 1;exact Lb ..
 have mf:(rem c.cel).length≤1000:=by
  rw[gh];exact LS (Uq _ _) (by omega)
 have kp:QL [] I.heap v7 (rem c.cel):=((hz.ints (L:=[]) (by omega) (by simp)).ext he).ext J;refine Exists.elim h0 λpg gi=>Exists.elim kg λlg gj=>?_;have h8:Xh [] I.heap v8 pg:=(gi.2 [] (by simp)).ext J;have gk:Xh [] I.heap kf lg:=gj.2 [] (by simp);have gl:ke.map (·.co)=(mods c.cel).map (·.co):=by
  rw[h6,←ga,Me];rfl
 have gm:pg.map (·.2)=lg.map (·.2):=by
  have e1:=gi.1;have e2:=gj.1;have e3:=congrArg List.length gl;rw[Lb,Lb] at e3;rw[gl,e3,ka] at e2;rw[e1,e2]
 have kq:pg.length=lg.length:=QfC gm;have mg:pg.length≤1099511627776:=h8.arr.le;refine Qf<|QW (α:=Unit) [(44,74)] (λz=>[(74,.bool false)]) (λz w'=>Step [] I w') (by rfl) ?_ ?_
 ·refine Qx<|Qb<|xb (Q9 O O) (λgn=>absurd O gn) (λgn=>?_);refine Qb<|Qb<|xb (Q9 O O) (λgo=>absurd O go) (λgo=>?_);refine x (Qo O)<|Qb<|Qb<|xb (Q9 O O) (λgp=>absurd O gp) (λgp=>?_);refine x (Qo O)<|Qb<|Qb<|x (Qq h7 O)<|Qb<|x (Qq gg O)<|xb (Q9 O O) (λgq=>absurd (congrArg Int.ofNat kk) gq) (λgq=>?_);refine x (Qo O)<|Qb<|Qb<|x (Qs kj O O)<|xl O<|xf<|(UO ki hD).mono ?_
  rintro kr h9 ⟨T,kt⟩;have ku:QL [] h9.heap kr (rem c.cel):=by
   rw[gh];exact kt.ints (L:=[]) (by have:=Uq (lmd c.cel) c.co.length;omega) (by simp)
  refine xl O<|xf<|(J8 (kp.ext T) ku).mono ?_;rintro kv hf ⟨hA,V⟩
  replace hA:kv=.bool true:=hA.trans (congrArg Value.bool (decide_eq_true O));subst hA;refine xB (Zm O) (λgr=>absurd gr (by decide)) (λgr=>?_);refine x (Qo O)<|Qb<|Qb<|x (Qq ((h8.ext T).ext V).arr O)<|Qb<|x (Qq ((gk.ext T).ext V).arr O)<|x (Q9 O O)<|x (Qo O) <|
   xe ?_
  exact ⟨(),⟨congrArg Value.bool (decide_eq_false (not_not_intro (congrArg Int.ofNat kq))),U⟩,T.trans V⟩
 rintro ⟨⟩ g h9 T;refine ZX rfl ?_;refine Qi ?_;have kw:=kh.trans T;refine Qf<|Qc<|Qe<|Qg<|Qy (α:=Nat) [(2,2),(12,12),(75,90)] (λz=>[(12,.int .i64 z)]) (λz w'=>z≤G.length∧Step [] h9 w') (λz=>G.length - z) (by rfl) 0 Z ⟨Lk _,Step.refl _ _⟩ ?_;rintro k g hf ⟨hk,V⟩;have ho:=T.trans V;have ky:=kw.trans V
 refine Qf<|Qc<|Qb<|Qb<|x (Qq (h7.ext ho) O)<|x (QA O O)<|xe<|QE rfl (λgs=>?_) (λgs=>?_)
 ·refine Qw<|Qf<|Qc<|Qe<|Qg<|Qy (α:=Nat) [(2,2),(13,13),(91,106)] (λz=>[(13,.int .i64 z)]) (λz w'=>z≤pg.length∧Step [] hf w') (λz=>pg.length - z) (by rfl) 0 Z ⟨Lk _,Step.refl _ _⟩ ?_;rintro j g hp ⟨hj,hr⟩;have gt:=ho.trans hr;have hB:=h8.ext gt;have gu:=gk.ext gt;refine Qf<|Qc<|Qb<|Qb<|x (Qq hB.arr O)<|x (QA O O)<|xe ?_
  refine QE O (λgv=>?_) (λgv=>?_)
  ·refine Qw<|Qc<|Qe ?_;exact Qn ⟨[.bool true],Z,O,ky.trans hr⟩
  have E:j<pg.length:=by have kz:(j:Int)<(pg.length:Int):=gv;omega
  have H:j<lg.length:=by omega
  have Y:=QfD (f:=λp:TV=>p.2) gm j E H;have hmp:=Lh E;have hs:=Lh H;refine Qi<|Qf<|Qg<|Qf<|QS (Step [] hp) [(0,true),(1,true),(2,true),(3,true),(4,true),(5,true),(6,true),(7,true),(8,false),(9,true)] mixed (by rfl) (by kernel_rfl) (Step.drew _ _) ?_;refine p (λ_=>Ql)<|p (λ_=>Ql)<|Lg.pig (g:=Zz) (i:=j) O (λ_=>O) hB.arr O O E λmh gw=>?_
  refine Zb (pg[j]'E) λpp hE=>?_;rw[hE] at gw hmp Y;refine pq (λ_ hc=>Qu (gw.ext hc) O)<|p (λ_=>Ql)<|p (λ_=>Ql)<|Lg.pig (g:=Zz) (i:=j) O (λ_=>O) gu.arr O O H λmj gx=>?_;refine Zb (lg[j]'H) λqq hF=>?_;rw[hF] at gx hs Y;have hG:Step [] hp { hp with drawn:=hp.drawn+1 }:=Step.drew _ _
  refine pq (λ_ hc=>Qu (gx.ext hc) O)<|pkl (hl:=by kernel_rfl)<|xf<|(J8 ((hB.each pp hmp).ext hG) ((gu.each qq hs).ext hG)).mono ?_;rintro k0 mo ⟨hH,k4⟩
  replace hH:k0=.bool true:=hH.trans (congrArg Value.bool (decide_eq_true Y));subst hH;refine p (λ_=>Zm O)<|pe ?_;refine ZX O ?_;refine Qi<|Qx<|Qb<|QN O O<|Qe ?_;exact ⟨j+1,by omega,Z,E,(hr.trans hG).trans k4⟩
 have E:k<G.length:=by have kz:(k:Int)<(G.length:Int):=gs;omega
 have H:k<S.length:=by omega
 have Y:=QfD (f:=MV.m) ge k E H;have hmp:=Lh E;have hs:=Lh H;refine Qi<|Qf<|Qg<|Qf<|QS (Step [] hf) [(0,true),(1,true),(2,true),(3,true),(4,true),(5,true),(6,true),(7,true),(8,false),(9,true)] mixed (by rfl) (by kernel_rfl) (Step.drew _ _) ?_;refine p (λ_=>Ql)<|p (λ_=>Ql)<|Lg.pig (g:=Zi) (i:=k) O JR (h7.ext ho) O O E λmq gy=>?_
 refine Zb (G[k]'E) λpp hE=>?_;rw[hE] at gy hmp Y;refine pq (λ_ hc=>QI (gy.ext hc) O O)<|p (λ_=>Ql)<|p (λ_=>Ql)<|Lg.pig (g:=Zi) (i:=k) O JR (gg.ext ho) O O H λmu gz=>?_;refine Zb (S[k]'H) λqq hF=>?_;rw[hF] at gz hs Y;have g0:Step [] hf { hf with drawn:=hf.drawn+1 }:=Step.drew _ _
 have g2:=ho.trans g0;refine pq (λ_ hc=>QI (gz.ext hc) O O)<|pkl (hl:=by kernel_rfl)<|xf<|(Kz ((kn pp hmp).ext g2) ((ko qq hs).ext g2)).mono ?_;rintro k5 hp ⟨hI,hr⟩
 replace hI:k5=.bool true:=hI.trans (congrArg Value.bool (decide_eq_true Y));subst hI;refine p (λ_=>Zm O)<|pe ?_;refine ZX rfl ?_;refine Qi<|Qx<|Qb<|QN O O<|Qe ?_;exact ⟨k+1,by omega,Z,E,(V.trans g0).trans hr⟩
open Go.RowKit
theorem YD {a b:Bool}(h1:a=true) (h2:b=true):(a && b)=true:=by rw[h1,h2];rfl
theorem yQ {P:Program} {f:FuncId} {fn:Func} {s:ChangeSpec} {c:OpenClaim} (h1:(c.wf (OpenSpec.ofChange s))=true) (h2:(laidOutB P)=true) (h3:(mapsRowed P)=true) (E:(fn.params.all (P.readableRec ·))=true) (h5:(namedTie P c.named s.vars)=true) (G:((c.stops == []))=true) (H:((P.stops == []))=true) (I:((c.knobs == []))=true) (h9:((P.stopKnobs == []))=true) (J:((c.inPlace == P.inPlace f))=true) (S:((c.unfollowed == P.unfollowed f))=true) (T:((c.recurses == P.recurses f))=true) (V:((c.named == P.varsNamed f))=true) (Y:((c.maps == (fn.params.toList++s.plain.varTypes P).any (P.mapsRec ·)))=true) (ha:((c.ifaces == (fn.params.toList++s.plain.varTypes P).any (P.ifacesRec ·)))=true) (hb:((c.mapsOut == P.mapsAmong fn.resultTypes.toList))=true) (hc:((c.loops == (fn.params.toList++s.plain.varTypes P).any (P.loopsFrom ·)))=true) (he:((c.wideKeys == (fn.params.toList++s.plain.varTypes P++fn.resultTypes.toList).any (P.wideKeysFrom ·)))=true) (hf:(s.vars.all (P.varReadable ·))=true) (hg:(fn.resultTypes.all (λt=>P.readableRec t && decide (t<P.types.size)))=true) (hh:((c.ifacesOut == fn.resultTypes.toList.any (P.ifacesRec ·)))=true) (hj:((c.loopsOut == fn.resultTypes.toList.any (P.loopsFrom ·)))=true) (hl:((c.plainKeys == P.plainKeys))=true) (hn:(c.shortTexts.isNone)=true) (ho:(P.stopsHeard)=true) (hp:(P.mayEnter)=true) (hq:((c.lifted == P.liftsFinal))=true) (hr:((P.make == some c.make))=true) (hs:((c.kinds == (if c.domain.isEmpty then [] else fn.params.toList.map λt=>match P.underlying t with | some (.int k)=>some k | _=>none)))=true) (ht:((c.pinned == c.pinnedBy))=true) (hu:((c.veiled == (fn.params.toList++s.plain.varTypes P++fn.resultTypes.toList).any (P.veiledRec ·)))=true) (hv:(c.veiledFits P fn.params.toList (fn.params.toList++s.plain.varTypes P++fn.resultTypes.toList))=true):joinedFacts P f fn s c=true:=by
 unfold joinedFacts;exact (YD (YD (YD (YD (YD (YD (YD (YD (YD (YD (YD (YD (YD (YD (YD (YD (YD (YD (YD (YD (YD (YD (YD (YD (YD (YD (YD (YD (YD (YD (YD h1 h2) h3) E) h5) G) H) I) h9) J) S) T) V) Y) ha) hb) hc) he) hf) hg) hh) hj) hl) hn) ho) hp) hq) hr) hs) ht) hu) hv)
theorem U4:laidOutB prog=true:=by kernel_rfl
theorem QfQ:mapsRowed prog=true:=by kernel_rfl
theorem QfS:prog.stopsHeard=true:=by kernel_rfl
theorem QfT:prog.mayEnter=true:=by kernel_rfl
theorem QfR:(false == prog.liftsFinal)=true:=by kernel_rfl
theorem Qip:(prog.make == some Make.cut)=true:=by kernel_rfl
theorem Qit:(Rows.moduleListsRow.inPlace == prog.inPlace 10)=true:=by kernel_rfl
theorem Qis:(Rows.moduleListsRow.unfollowed == prog.unfollowed 10)=true:=by kernel_rfl
theorem Qir:(Rows.moduleListsRow.recurses == prog.recurses 10)=true:=by kernel_rfl
theorem Qiq:(Rows.moduleListsRow.named == prog.varsNamed 10)=true:=by kernel_rfl
theorem Qkp:Rows.moduleListsRow.wfByText (OpenSpec.ofChange Rows.moduleListsSpec)=true:=by kernel_rfl
theorem Qks:Tryz.pinned.checked.prog.mainIs=some (true, "7f1d7774d707b6ca2907d0280b916f7dc62d5f843e98687e905a54f8355f1b07".toList):=by kernel_rfl
theorem Qkr:prog.funcNamed "overseer/overseerlaw32.ModuleLists" = some 10:=by kernel_rfl
theorem Qkt:false=prog.looks []:=by kernel_rfl
theorem Qkq:([36].all λu=>!prog.wantsStandIn u)=true:=by kernel_rfl
theorem Qku:false=Rows.moduleListsRow.goesBy Tryz.pinned.checked.prog:=by kernel_rfl
end Go.Proofs.YtdffckgdcegpaaaGreatDoor
