/- Merged out of 28 texts. -/
import Derived.Test.YtjcgijbhaemldaaGreatDoorMdb
import Derived.Laws.Strings
namespace Go.Proofs.YtjcgijbhaemldaaGreatDoor
open Go.Proofs.Tryz
open Go.Lg
structure PI (w0:World)(b4 b7 b10 b11 bS n:Nat)(gc:LV)(pf:Value)(bi i:Nat)(vs:Value)(st:List Ed)(W:World):Prop where
 stp:Step [] w0 W
 B4:QT W.heap b4 171 gc
 B7:QT W.heap b7 178 [pf]
 B10:QT W.heap b10 244 [vs]
 B11:QT W.heap b11 175 [.slice (some ⟨bS,0,none⟩) n n]
 BS:QT W.heap bS 4 ((flg n (stS st)).map Value.bool)
 BI:QT W.heap bi 3 [.int .i64 i]
 R:Ya 243 w0.heap.size W vs st
 ne:∀b∈ob vs,b≠b4∧b≠b7∧b≠b10∧b≠b11∧b≠bS∧b≠bi
theorem PI.ext {E:World}{G H b10 b11 bS n:Nat}{gc:LV}{pf:Value}{bi i:Nat}{vs:Value}{st:List Ed}{W W':World}(h:PI E G H b10 b11 bS n gc pf bi i vs st W)(hs:Step [] W W'):PI E G H b10 b11 bS n gc pf bi i vs st W' :=
 ⟨h.stp.trans hs,h.B4.ext hs,h.B7.ext hs,h.B10.ext hs,h.B11.ext hs,h.BS.ext hs,h.BI.ext hs,Qs h.R hs,h.ne⟩
theorem PI.stb {G:World}{H I b10 b11 bS n:Nat}{gc:LV}{pf:Value}{bi i:Nat}{vs:Value}{st:List Ed}{B:Nat}(J:G.heap.size≤B):Yc B (λW=>PI G H I b10 b11 bS n gc pf bi i vs st W):=λW W' X h hs E =>
 ⟨Yc.step J W W' X h.stp hs E,Yc.blk W W' X h.B4 hs E,Yc.blk W W' X h.B7 hs E,Yc.blk W W' X h.B10 hs E,Yc.blk W W' X h.B11 hs E,Yc.blk W W' X h.BS hs E,Yc.blk W W' X h.BI hs E,Yc.row W W' X h.R hs E,h.ne⟩
def Vq (lo hi:Nat)(ds:LN)(W:World):Prop:=ds.Nodup∧∀D∈ds,lo≤D∧D<hi∧W.heap[D]?=some (.deferred (some []))
theorem Vq.step {lo hi:Nat}{ds:LN}{W W':World}{X:LN}(h:Vq lo hi ds W)(hs:Step X W W')(E:∀b∈X,∃o:Obj,W.heap[b]?=some o∧o.isCells=true):Vq lo hi ds W':=by
 refine⟨h.1,λD hD=>⟨(h.2 D hD).1,(h.2 D hD).2.1,?_⟩⟩;have h3:=(h.2 D hD).2.2;refine(hs.block D (LH.1 h3).1 (λhx=>?_)).trans h3;obtain⟨o,h4,h5⟩:=E D hx;rw[h3]at h4;cases h4;cases h5
theorem Vq.ext {lo hi:Nat}{ds:LN}{W W':World}(h:Vq lo hi ds W)(hs:Step [] W W'):Vq lo hi ds W':=h.step hs (λ_ hb=>by cases hb)
theorem Vq.blk {lo hi:Nat}{ds:LN}{W W':World}{b T:Nat}{cs:LV}(h:Vq lo hi ds W)(hs:Step [b] W W')(hb:QT W.heap b T cs):Vq lo hi ds W' :=
 h.step hs (λc hc=>by
  have e:c=b:=by simpa using hc
  subst e;exact hb.cells)
theorem Vq.up {lo hi E:Nat}{ds:LN}{W:World}(h:Vq lo hi ds W)(G:hi≤E):Vq lo E ds W:=⟨h.1,λD hD=>⟨(h.2 D hD).1,by have:=(h.2 D hD).2.1;omega,(h.2 D hD).2.2⟩⟩
theorem Vq.cons {lo hi:Nat}{ds:LN}{W:World}{D:Nat}(h:Vq lo hi ds W)(hl:lo≤hi)(hD:hi≤D)(hd:W.heap[D]?=some (.deferred (some []))):Vq lo W.heap.size (D::ds) W:=by
 have G:=(LH.1 hd).1;refine⟨List.nodup_cons.2 ⟨λhm=>by have:=(h.2 D hm).2.1;omega,h.1⟩,λE hE=>?_⟩;rcases Le.1 hE with rfl|hE
 ·exact⟨by omega,G,hd⟩
 have:=h.2 E hE;exact⟨this.1,(LH.1 this.2.2).1,this.2.2⟩
theorem Vq.stb {lo hi B:Nat}{ds:LN}(G:hi≤B):Yc B (λW=>Vq lo hi ds W):=λW W' X h hs E=>by
 refine⟨h.1,λD hD=>⟨(h.2 D hD).1,(h.2 D hD).2.1,?_⟩⟩;have h3:=(h.2 D hD).2.2;refine(hs.block D (LH.1 h3).1 (λhx=>?_)).trans h3;have:=(E D hx).1;have:=(h.2 D hD).2.1;omega
theorem Vq.own {lo hi:Nat}{ds:LN}{W:World}{base e sz n:Nat}{v:Value}{cs:LV}(h:Vq lo hi ds W)(E:W.ownsRow base e sz v n cs):∀b∈ob v,b∉ds:=λb hb hd=>by
 obtain⟨o,h1,h2⟩:=Go.Lg.Zp E b hb;rw[(h.2 b hd).2.2]at h1;cases h1;cases h2
theorem Vq.rst {lo hi B:Nat}{L ds:LN}{W W':World}(h:Vq lo hi ds W)(hs:Jb B L W W'):Vq lo hi ds W':=⟨h.1,λD hD=>⟨(h.2 D hD).1,(h.2 D hD).2.1,hs.other D _ (h.2 D hD).2.2 O⟩⟩
theorem PI.add {G:World}{H I b10 b11 bS n:Nat}{gc:LV}{pf:Value}{bi i:Nat}{v v':Value}{st:List Ed}{x:Ed}{W W1 W2 W3 W4:World}{B:Nat}{L0:LN}(h:PI G H I b10 b11 bS n gc pf bi i v st W)
  (hd:bS≠H∧bS≠I∧bS≠b10∧bS≠b11∧bS≠bi∧b10≠H∧b10≠I∧b10≠b11∧b10≠bi) (V:B≤W.heap.size) (Y:G.heap.size≤bS) (ha:G.heap.size≤b10) (hi:H<W.heap.size∧I<W.heap.size∧b11<W.heap.size∧bi<W.heap.size)
  (h1:Step [bS] W W1) (hS:QT W1.heap bS 4 ((flg n (stS (st++[x]))).map Value.bool)) (h2:Step [] W1 W2) (h3:Step (ob v) W2 W3) (hR:Ya 243 G.heap.size W3 v' (st++[x])) (J:∀b∈ob v',b∈ob v∨W2.heap.size≤b)
  (h4:Step [b10] W3 W4) (he:QT W4.heap b10 244 [v']) (U:∀b∈ob v,b∈L0∨B≤b):
  PI G H I b10 b11 bS n gc pf bi i v' (st++[x]) W4∧Jb B (bS::b10::L0) W W4∧(∀b∈ob v',b∈L0∨B≤b):=by
 have hj:=h1.size;have hk:=h2.size;have hl:=h3.size;have ho:=h.BS.lt;have hp:=h.B10.lt;have key:∀b T cs,QT W.heap b T cs→b≠bS→b∉ob v→b≠b10→QT W4.heap b T cs:=λb T cs hb e1 e2 e3=>(((hb.step h1 (by simpa using e1)).ext h2).step h3 e2).step h4 (by simpa using e3);have E:=h.ne;have nin:∀b,(∀c∈ob v,c≠b)→b∉ob v:=λb hb hm=>hb b hm O;have hf:b10∉ob v:=nin _ λc hc=>(E c hc).2.2.1
 have hg:bS∉ob v:=nin _ λc hc=>(E c hc).2.2.2.2.1;have hh:W2.ownsRow G.heap.size 243 3 v st.length (st.flatMap QB):=Qs (Qm h.R h1 (λb hb=>by have:=(E b hb).2.2.2.2.1;simpa using this)) h2;have hge:∀b∈ob v',b≠H∧b≠I∧b≠b10∧b≠b11∧b≠bS∧b≠bi:=λb hb=>by
  rcases J b hb with hb|hb
  ·exact E b hb
  omega
 refine⟨⟨?_,key _ _ _ h.B4 hd.1.symm (nin _ λc hc=>(E c hc).1) hd.2.2.2.2.2.1.symm,key _ _ _ h.B7 hd.2.1.symm (nin _ λc hc=>(E c hc).2.1) hd.2.2.2.2.2.2.1.symm,he,
  key _ _ _ h.B11 hd.2.2.2.1.symm (nin _ λc hc=>(E c hc).2.2.2.1) hd.2.2.2.2.2.2.2.1.symm,((hS.ext h2).step h3 hg).step h4 (by have:=hd.2.2.1;simpa using this),key _ _ _ h.BI hd.2.2.2.2.1.symm (nin _ λc hc=>(E c hc).2.2.2.2.2) hd.2.2.2.2.2.2.2.2.symm,
  Qm hR h4 (λb hb=>by have:=(hge b hb).2.2.1;simpa using this),hge⟩,?_,λb hb=>?_⟩
 ·exact(((h.stp.then1 h1 Y).trans h2).then h3 (λb hb=>.inr (Qq h.R b hb).1)).then1 h4 ha
 ·have r1:Jb B (bS::b10::L0) W W1:=Jb.blk h1 V h.BS (.inl (by simp));have r2:Jb B (bS::b10::L0) W1 W2:=Jb.ext h2 (by omega);have r3:Jb B (bS::b10::L0) W2 W3:=Jb.step h3 (by omega) (λb hb=>⟨(U b hb).imp (λh=>by simp[h]) id,Go.Lg.Zp hh b hb⟩)
  have r4:Jb B (bS::b10::L0) W3 W4:=Jb.blk h4 (by omega) ((((h.B10.step h1 (by have:=hd.2.2.1;simpa using this.symm)).ext h2).step h3 hf)) (.inl (by simp));exact((r1.trans r2).trans r3).trans r4
 rcases J b hb with hb|hb
 ·exact U b hb
 exact .inr (by omega)
theorem QaU {n:Nat}{l:LI}{x:Int}(G:0≤x)(h1:x<(n:Int)):((flg n l).map Value.bool)[0+x.toNat*1]?=some (.bool (decide (x∈l))):=by
 have E:x.toNat<(flg n l).length:=by rw[qG];omega
 have e:((x.toNat:Nat):Int)=x:=by omega
 simp only[Nat.zero_add,Nat.mul_one,List.getElem?_map,List.getElem?_eq_getElem E,Option.map_some,QaT,e]
theorem Qla {w:World}{va vm ve:Value}{a:QD}{n bF from0 gw gp:Nat}{fw fp:Func}[Fu prog gw fw][Fu prog gp fp]{cw cp:LV}{wt:Int→Bool}{pm:Ed→Bool}
  (hA:Zm [] w.heap va vm ve a) (hn:a.st=(n:Int)) (kk:n≤4096) (kn:∀e∈a.ed,0≤e.2.2∧e.2.2<(n:Int)) (ko:a.ed.Pairwise λx y=>x.1≤y.1) (kp:QT w.heap bF 3 ((gA (n+1) (fS a.ed)).map (Value.int .i64))) (hf:from0<n)
  (kq:∀(s:Int) (w':World),0≤s→s<(n:Int)→Step [] w w'→QH prog gw (.int .i64 s::cw) w' λr hO=>r=.bool (wt s)∧Step [] w' hO)
  (kr:∀(e:Ed) (w':World),e∈a.ed→Step [] w w'→QH prog gp (.agg (QB e).toArray::cp) w' λr hO=>r=.bool (pm e)∧Step [] w' hO):
  QH prog 81 [.agg #[va,.int .i64 a.st,vm,ve,.slice (some ⟨bF,0,none⟩) (n+1) (n+1)],.int .i64 from0,.func (.func gw) #[] cw.toArray,.func (.func gp) #[] cp.toArray] w λr w' =>
   Step [] w w'∧∃v,r=.tuple #[v,.bool (pth wt pm a.ed n from0).2]∧Qt 3 w.heap.size w' v (pth wt pm a.ed n from0).1:=by
 refine QH.of_G 3 func81 O ntmps81 results81 (by simp) ?_;refine Q2<|QK (by rfl) (by rfl) ?_;refine xl rfl<|QR (us:=[va,.int .i64 a.st,vm,ve,.slice (some ⟨bF,0,none⟩) (n+1) (n+1)]) O λb4 w1 kt q4 hQ=>xl O<|QR (us:=[.func (.func gp) #[] cp.toArray]) O λb7 w2 ku q9 gj=>x Qe<|Qf<|Q2<|QK (by rfl) (by rfl) ?_
 refine Qb<|x (QM ⟨O,O,O,Z⟩)<|xl O<|QG (us:=[[.int .i64 from0,.int .i64 (-1),.int .i64 (-1)]]) O O (by decide) (by simp) ⟨rfl,rfl,Z⟩ λbL w3 gk j1 gl =>
  xl rfl<|Qu (us:=[nS]) O λb10 w4 hR j2 gm=>xl O<|QF (u:=.slice (some ⟨bL,0,none⟩) 1 1) gm O O (by decide) O λw5 h9 hB=>xe ?_
 have j3:=hQ.lt;have j4:=gj.lt;have za:=gl.lt;have zb:=gm.lt;have zv:=h9.size;have hS:Step [] w1 w5:=((ku.trans gk).trans hR).then1 h9 (by omega);have kv:Step [] w2 w5:=(gk.trans hR).then1 h9 (by omega);have kw:Step [] w3 w5:=hR.then1 h9 (by omega);refine Q2<|QK (by rfl) (by rfl) ?_
 refine x (Qa O)<|x (Qa O)<|x (Qd (hQ.ext hS) O O)<|xl O<|XM (n:=n) (congrArg (Value.int .i64) hn) (congrArg (Value.int .i64) hn) (by omega) λbS w6 kx z0 gn=>xl O<|Qu (us:=[nS]) O λb11 w7 gq z1 gr =>
  xl rfl<|QF (u:=.slice (some ⟨bS,0,none⟩) n n) gr O O (by decide) O λw8 hT gs=>xe ?_
 have z2:=gn.lt;have z3:=gr.lt;have z4:=hT.size;have h0:Step [] w5 w8:=(kx.trans gq).then1 hT (by omega);have kz:Step [] w6 w8:=gq.then1 hT (by omega);have k0:QT w6.heap bS 4 ((flg n []).map Value.bool):=by
  have e:(List.replicate n (Value.bool false).cells.toList).flatten=(flg n []).map Value.bool:=by
   simp only[flg,List.not_mem_nil,decide_false,List.map_map];apply LT
   ·simp[Value.cells]
   intro i h1 h2;simp[Value.cells]
  rw[←e];exact gn
 refine Q2<|QK (by rfl) (by rfl) ?_;refine x (Qd gs O O)<|Qb<|x (QS (i:=from0) O O hf)<|xl O<|QF (j:=0+from0*1) (u:=.bool true) (k0.ext kz) O O (by rw[Lh,qG];omega) O λw9 hk k4=>xe ?_;have z5:=hk.size;have k5:QT w9.heap bS 4 ((flg n [(from0:Int)]).map Value.bool):=by
  have e1:=QaS (n:=n) (l:=[]) (x:=(from0:Int)) (by omega);rw[Mr]at e1;rw[←e1,Nt];simpa using k4
 refine Q2<|Q2<|QK (by rfl) (by rfl) ?_;refine xl rfl<|Qu (us:=[.int .i64 0]) O λgt z9 k6 k7 gu=>xl O<|QF (u:=.int .i64 0) gu O O (by decide) O λhC gv k8=>xe ?_;have hl12:=gu.lt;have hz11:=gv.size;have hl:Step [] w9 hC:=k6.then1 gv k7;have k9:Step [] w hC:=(((kt.trans hS).trans h0).then1 hk (by omega)).trans hl
 have ma:PI w b4 b7 b10 b11 bS n [va,.int .i64 a.st,vm,ve,.slice (some ⟨bF,0,none⟩) (n+1) (n+1)] (.func (.func gp) #[] cp.toArray) gt 0 (.slice (some ⟨bL,0,none⟩) 1 1) [((from0:Int),-1,-1)] hC:=by
  refine⟨k9,(((hQ.ext hS).ext h0).step hk (by simp;omega)).ext hl,(((gj.ext kv).ext h0).step hk (by simp;omega)).ext hl,((hB.ext h0).step hk (by simp;omega)).ext hl,
   (gs.step hk (by simp;omega)).ext hl,k5.ext hl,k8,?_,λb hb=>?_⟩
  ·have mc:=(((gl.ext kw).ext h0).step hk (by simp;omega)).ext hl;exact mc.own (n:=1) (sz:=3) O (by omega) (by omega)
  have e:b=bL:=by simpa[ob]using hb
  subst e;omega
 refine ZS<|VP (α:=Nat×Nat×Nat×Value×List Ed) [(8,9),(12,15),(26,68),(70,94)] (λz=>[(12,.pointer (some ⟨z.2.1,0,none⟩))])
  (λz ds W=>PI w b4 b7 b10 b11 bS n [va,.int .i64 a.st,vm,ve,.slice (some ⟨bF,0,none⟩) (n+1) (n+1)] (.func (.func gp) #[] cp.toArray) z.2.1 z.1 z.2.2.2.1 z.2.2.2.2 W∧Qef n z.2.2.2.2∧Vq w.heap.size W.heap.size ds W∧hC.heap.size≤W.heap.size ∧
   (z.2.1≠b4∧z.2.1≠b7∧z.2.1≠b10∧z.2.1≠b11∧z.2.1≠bS)∧w.heap.size≤z.2.1∧z.1≤z.2.2.2.2.length∧n+1≤z.2.2.1+z.1∧Qgh wt pm a.ed z.2.2.1 z.1 z.2.2.2.2=pth wt pm a.ed n from0)
  (λz=>n+1 - z.1) (by rfl) (0,gt,n+1,.slice (some ⟨bL,0,none⟩) 1 1,[((from0:Int),-1,-1)]) La
  ⟨ma,QnS hf,⟨ME,λ_ h=>by cases h⟩,Lu _,by simp only[];omega,by simp only[];omega,by simp,by simp,rfl⟩ ?_
 rintro⟨i,bi,fu,vs,st⟩ g ds hE ⟨hP,h3,h4,hz12,mf,mg,mh,mj,J⟩;simp only[]at hP h3 h4 mf mg mh mj J;have hstl:=h3.le;refine Q2<|Q2<|QK (by rfl) (by rfl) ?_;refine x (Qd hP.BI O O)<|x (Qd hP.B10 O O)<|x (Qr (QV (L:=[]) hP.R (by omega) (by simp)) rfl)<|x (QA rfl rfl)<|xe<|yx rfl (λhU=>?_) (λhU=>?_)
 ·refine Kp ?_;have mo:¬i<st.length:=by have mq:¬(i:Int)<(st.length:Int):=hU;omega
  rw[Qgg mo]at J;refine Q2<|QK (by rfl) (by rfl) ?_;refine x Qe<|Qf<|K7 ⟨λD hD=>(h4.2 D hD).2.2,h4.1,[nS,.bool false],λw' hF=>⟨⟨O,O,Z⟩,hP.stp.then hF (λD hD=>.inr (h4.2 D hD).1),_,by rw[←J];rfl,?_⟩⟩;rw[←J];exact QN _ _ _ _
 have ho:i<st.length:=by have mq:(i:Int)<(st.length:Int):=hU;omega
 refine Exists.elim (MU (show fu≠0 by omega)) λms hV=>?_;subst hV;rw[Qgh,if_pos ho]at J;have hW:=h3.rg _ (Qoq ho);have hge:=QiY ho;refine Zj (gE st i) λs0 mt=>?_;rw[mt]at J hW hge;refine Yj<|Q2<|ZS<|Q2<|Q2<|QK (by rfl) (by rfl) ?_
 refine Qb<|x (Qd hP.B10 O O)<|x (Qd hP.BI O O)<|xie (i:=i) (QV (L:=[]) hP.R (by omega) (by simp)) rfl rfl ho λa35 gx=>?_;rw[hge]at gx;refine x (Zf O)<|x (Qv (gx.fld 0 (.int .i64 s0.1) O) O)<|xl O<|xc (first:=[]) (capt:=cw) O<|(kq s0.1 _ hW.1 hW.2 hP.stp).mono ?_;rintro r13 hi ⟨rfl,hX⟩;have hz13:=hX.size;have hj:=hP.ext hX;have gy:=h4.ext hX;refine xe ?_
 refine K8 rfl (λhY=>?_) (λhY=>?_)
 ·rw[if_pos hY]at J;have mu:Vq w.heap.size hE.heap.size ds hi:=gy;refine Q2<|QK (by rfl) (by rfl) ?_;refine Qf<|Q2<|Q2<|QK (by rfl) (by rfl) ?_;refine x (Qd hj.BI O O)<|Qf<|ZS<|VP (α:=Nat×Nat×Value×LI) [(13,14),(40,58)] (λz=>[(13,z.2.2.1),(14,.int .i64 z.2.1)])
   (λz gz W=>gz=ds∧Step [] hi W∧Vq w.heap.size hE.heap.size ds W∧z.2.1<z.1∧z.2.1<st.length∧Qt 3 hi.heap.size W z.2.2.1 z.2.2.2∧z.2.2.2.length+z.1≤i+1∧z.2.2.2++wrd st z.1 z.2.1=wrd st (i+1) i)
   (λz=>z.1) (by rfl) (i+1,i,nS,[]) ⟨O,O,Z⟩ ⟨O,Step.refl _ _,mu,by simp,ho,QN _ _ _ _,by simp,rfl⟩ ?_
  rintro⟨f,k,v,acc⟩ g gz hg ⟨rfl,h5,hG,mv,hv,hq,mw,hr⟩;simp only[]at mv hv hq mw hr;refine Exists.elim (MU (show f≠0 by omega)) λf' hV=>?_;subst hV;rw[wrd]at hr;have hH:=QiY hv;have my:=h3.par k hv;refine Zj (gE st k) λs1 mz=>?_;rw[mz]at hr hH my;have I:=hj.ext h5;have m0:=h5.size;refine Q2<|Q2<|QK (by rfl) (by rfl) ?_
  refine x (Qd I.B10 O O)<|Qb<|xie (i:=k) (QV (L:=[]) I.R (by omega) (by simp)) rfl rfl hv λa42 g0=>?_;rw[hH]at g0;refine x (Zf O)<|x (Qv (g0.fld 1 (.int .i64 s1.2.1) O) O)<|x (ZV O O)<|xe<|yx O (λhZ=>?_) (λhZ=>?_)
  ·refine Kp ?_;rw[if_neg hZ,LO]at hr;refine Q2<|QK (by rfl) (by rfl) ?_;refine Qb<|xl O<|xf<|(yv hq (by omega)).mono ?_;rintro r15 g1 ⟨g2,Y⟩;have hI:=hG.step Y (Go.Lg.Zp hq);refine xe<|Q2<|QK (by rfl) (by rfl) ?_;refine Qb<|x Qe<|Qf<|K7 ⟨λD hD=>(hI.2 D hD).2.2,hI.1,[v,.bool true],λw' hF=>⟨⟨O,O,Z⟩,?_,v,by rw[←J];rfl,?_⟩⟩
   ·exact((I.stp).then Y (λb hb=>.inr (by have:=(Qq hq b hb).1;omega))).then hF (λD hD=>.inr (hI.2 D hD).1)
   rw[←J,←hr];exact Zd (Qm g2 hF (hI.own g2)) (by omega)
  rw[if_pos hZ]at hr;refine Yj<|Q2<|ZS<|QK (by rfl) (by rfl) ?_;refine Qb<|x (Qd I.B10 O O)<|Qb<|xie (i:=k) (QV (L:=[]) I.R (by omega) (by simp)) rfl rfl hv λa54 g3=>?_;rw[hH]at g3
  refine x (Zf O)<|x (Qv (g3.fld 2 (.int .i64 s1.2.2) O) O)<|xl O<|QG (us:=[[.int .i64 s1.2.2]]) O O (by decide) (by simp) ⟨rfl,rfl,Z⟩ λb57 h6 H hb57 m1=>xl rfl<|Q4 (m:=1) (news:=[.int .i64 s1.2.2]) (Qs hq H) rfl rfl rfl (m1.at (L:=[]) (by simp)) (by simp[Value.oneCell']) (by omega) (by have:=H.size;omega) λm2 g4 m3 ht hn17 =>
   Qf ?_
  have g5:Step [] hi g4:=(h5.trans H).then ht (λb hb=>.inr (Qq hq b hb).1);have g6:=hj.ext g5;have m4:=(hG.ext H).step ht (Go.Lg.Zp (Qs hq H));refine QK (by rfl) (by rfl) ?_;refine x (Qd g6.B10 O O)<|Qb<|xie (i:=k) (QV (L:=[]) g6.R (by omega) (by simp)) rfl rfl hv λa48 g7=>?_;rw[hH]at g7
  refine x (Zf O)<|x (Qv (g7.fld 1 (.int .i64 s1.2.1) O) O)<|Qf ?_;have m5:s1.2.1=(s1.2.1.toNat:Int):=by omega
  refine⟨(f',s1.2.1.toNat,m2,acc++[s1.2.2]),by simp only[];omega,⟨O,congrArg (Value.int .i64) m5,Z⟩,O,g5,m4,by simp only[];omega,by simp only[];omega,Qt.snoc m3,?_,?_⟩
  ·simp only[List.length_append,List.length_singleton];omega
  rw[LA];exact hr
 rw[if_neg (by rw[hY];decide)]at J;have g8:s0.1=(s0.1.toNat:Int):=by omega
 refine Yj ?_;have m6:Step [] hi { hi with drawn:=hi.drawn+1 }:=Step.drew _ _
 refine Q2<|Qbf (Step [] hi) [(0,true),(1,true),(2,true),(3,true),(4,true),(5,true),(6,false)] mixed (by rfl) (by rfl) (by kernel_rfl) (Step.drew _ _) ?_;refine pq (λ_ hc=>Qo (hj.B4.ext hc) O O)<|pq (λ_ hc=>Qd (hj.B10.ext hc) O O)<|pq (λ_ hc=>Qd (hj.BI.ext hc) O O) <|
  pie (i:=i) O (QV (L:=[]) hj.R (by omega) (by simp)) rfl rfl ho λa65 g9=>?_
 rw[hge]at g9;refine p (λ_=>Zf O)<|pq (λ_ hc=>Qv ((g9.fld 0 (.int .i64 s0.1) O).ext hc) O)<|pk<|xf<|(Qjv (va:=va) (vm:=vm) (ve:=ve) (vf:=.slice (some ⟨bF,0,none⟩) (n+1) (n+1)) (st:=a.st) (s:=s0.1)).mono ?_;rintro r18 hg ⟨h5,b1,b2,rfl,hb1,hb2,m7,ka⟩;have hJ:=m6.trans h5;refine⟨hJ,pe ?_⟩;have I:=hj.ext hJ;have hG:Vq w.heap.size hE.heap.size ds hg:=gy.ext hJ
 have m0:=hJ.size;have m8:qe (bS::b10::ob vs) hg.heap ve a.ed:=by
  refine(hA.ed.up (L':=bS::b10::ob vs) (λb hb=>.inr ?_)).step I.stp (λ_ hb=>by cases hb);rcases Le.1 hb with rfl|hb
  ·omega
  rcases Le.1 hb with rfl|hb
  ·omega
  exact(Qq I.R b hb).1
 rw[g8]at ka;have m9:w.heap.size≤hg.heap.size:=I.stp.size;have ga:bS≠b4∧bS≠b7∧bS≠b10∧bS≠b11∧bS≠bi∧b10≠b4∧b10≠b7∧b10≠b11∧b10≠bi:=by omega
 have hqS:=I.BS.lt;have hqi:=I.BI.lt;refine ZS<|QmV (α:={ e:Ed // e∈a.ed }) (bS::b10::ob vs) (by omega) (capt:=[.pointer (some ⟨b1,0,none⟩),.pointer (some ⟨b2,0,none⟩)]) O (enc:=λx=>.agg (QB x.1).toArray) (by decide)
  (QdV m7 ka (kp.ext I.stp) m8 ko (by omega) kk)
  (λpre W=>∃v,PI w b4 b7 b10 b11 bS n [va,.int .i64 a.st,vm,ve,.slice (some ⟨bF,0,none⟩) (n+1) (n+1)] (.func (.func gp) #[] cp.toArray) bi i v ((pre.map (·.1)).foldl (Ky pm i) st) W∧Qef n ((pre.map (·.1)).foldl (Ky pm i) st)∧i<((pre.map (·.1)).foldl (Ky pm i) st).length ∧
   (∀b∈ob v,b∈ob vs∨hg.heap.size≤b)∧Vq w.heap.size hE.heap.size ds W∧hg.heap.size≤W.heap.size)
  (λpre=>Yc.ex λv=>(PI.stb m9).and ((Yc.pure _).and ((Yc.pure _).and ((Yc.pure _).and ((Vq.stb (by omega)).and (λW W' X h hs _=>LL h hs.size))))))
  ⟨vs,I,h3,ho,λb hb=>.inl hb,hG,Lu _⟩
  (λf x f' W=>∃b,f'=upd (upd f 69 (.agg (QB x.1).toArray)) 15 (.pointer (some ⟨b,0,none⟩))∧hg.heap.size≤b∧QT W.heap b 129 (QB x.1))
  (λx f'=>Yc.ex λb=>(Yc.pure _).and ((Yc.pure _).and Yc.blk)) ?_ ?_ ?_
 ·rintro l pre ⟨e,he⟩ W ⟨v,E,U,ha,hw,hu,hy⟩;refine QK (by rfl) (by rfl) ?_;refine xl O<|Qu (us:=[.int .i64 0,.int .i64 0,.int .i64 0]) O λb15 g1 Y kb hz=>xl O<|Qn (us:=QB e) hz O O O O ⟨O,O,O,Z⟩ λh6 H pa=>xe ?_;have hK:Step [] W h6:=Y.then1 H kb;have pc:=hK.size
  exact⟨O,Jb.ext hK hy,⟨v,E.ext hK,U,ha,hw,hu.ext hK,by omega⟩,b15,O,by omega,pa⟩
 ·rintro l pre ⟨e,he⟩ f' W ⟨v,E,U,ha,hw,hu,hy⟩ ⟨b15,rfl,kb,hz⟩ _;have h7:((pre++[(⟨e,he⟩:{ e:Ed // e∈a.ed })]).map (·.1)).foldl (Ky pm i) st=Ky pm i ((pre.map (·.1)).foldl (Ky pm i) st) e:=by rw[Lx,Mh];rfl
  refine Zj ((pre.map (·.1)).foldl (Ky pm i) st) λG gb=>?_;rw[gb]at E U ha h7;have hL:=kn e he;have gc:e.2.2=(e.2.2.toNat:Int):=by omega
  have ge:=QmN (pm:=pm) U ha hL;have hM:=QaU (l:=stS G) hL.1 hL.2;have pd:=U.le;have pc:=E.stp.size;refine ZS<|Q2<|QK (by rfl) (by rfl) ?_;by_cases hN:e.2.2∈stS G
  ·rw[decide_eq_true hN]at hM;have h8:Ky pm i G e=G:=by unfold Ky;rw[if_neg (λh=>h.1 hN)]
   refine x (Qd E.B11 O O)<|x (Qa O)<|x (Qd hz O O)<|x (QS (i:=e.2.2.toNat) O (congrArg (Value.int .i64) gc) (by omega))<|x (Qd E.BS O hM)<|x (Zt O)<|x Qk <|
    xs rfl<|xs O<|xs O<|x (Qp O)<|xe ?_
   refine Vo O<|Yj ?_;refine⟨Jb.refl _ _ _,v,?_⟩;rw[h7,h8];exact⟨E,U,ha,hw,hu,hy⟩
  rw[decide_eq_false hN]at hM;refine x (Qd E.B11 O O)<|x (Qa O)<|x (Qd hz O O)<|x (QS (i:=e.2.2.toNat) O (congrArg (Value.int .i64) gc) (by omega))<|x (Qd E.BS O hM)<|x (Zt O)<|x Qk <|
   x (Qd E.B7 O O)<|x (Qo hz O O)<|xl O<|xc (first:=[]) (capt:=cp) O<|(kr e _ he E.stp).mono ?_
  rintro r19 g1 ⟨rfl,Y⟩;refine x (Qp O)<|xe ?_;have hh:=E.ext Y;have hz15:=Y.size;refine K8 O (λhp=>?_) (λhp=>?_)
  ·have h8:Ky pm i G e=G++[(e.2.2,(i:Int),e.2.1)]:=by unfold Ky;rw[if_pos ⟨hN,hp⟩]
   rw[h8]at h7 ge;have kc:=hz.ext Y;refine Q2<|QK (by rfl) (by rfl) ?_;refine x (Qd hh.B11 O O)<|x (Qa O)<|x (Qd kc O O)<|x (QS (i:=e.2.2.toNat) O (congrArg (Value.int .i64) gc) (by omega))<|xl O<|QF (j:=0+e.2.2.toNat*1) (u:=.bool true) hh.BS O O (by rw[Lh,qG];omega) O λh6 H pf=>xe ?_
   have pg:QT h6.heap bS 4 ((flg n (stS (G++[(e.2.2,(i:Int),e.2.1)]))).map Value.bool):=by
    have e1:=QaS (n:=n) (l:=stS G) hL.1;have e2:stS (G++[(e.2.2,(i:Int),e.2.1)])=stS G++[e.2.2]:=by unfold stS;rw[Lx];rfl
    rw[e2,←e1,Nt];simpa using pf
   have hz16:=H.size;have hB:=hh.B10.step H (by have:=ga.2.2.1;simpa using this.symm);have ph:=hh.BI.step H (by have:=ga.2.2.2.2.1;simpa using this.symm);have pj:Ya 243 w.heap.size h6 v G:=Qm hh.R H (λb hb=>by have:=(hh.ne b hb).2.2.2.2.1;simpa using this);have ke:=kc.step H (by simp;omega);refine QK (by rfl) (by rfl) ?_
   refine x (Qd hB O O)<|x (Qa O)<|x (Qd ke O O)<|x (Qd ph O O)<|x (Qa O)<|x (Qd ke O O)<|x (QM ⟨O,O,O,Z⟩) <|
    xl rfl<|QG (us:=[[.int .i64 e.2.2,.int .i64 i,.int .i64 e.2.1]]) O O (by decide) (by simp) ⟨rfl,rfl,Z⟩ λb92 g4 ht hb92 pn =>
    xl rfl<|Q4 (m:=1) (news:=[.int .i64 e.2.2,.int .i64 i,.int .i64 e.2.1]) (Qs pj ht) O O O (pn.at (L:=[]) (by simp)) (by simp[Value.oneCell']) (by omega) (by have:=ht.size;omega) λkf w18 kg kh po=>?_
   have pp:b10∉ob v:=λhm=>(hh.ne b10 hm).2.2.1 O;refine xl O<|QF (u:=kf) ((hB.ext ht).step kh pp) O O (by simp) (QV (L:=[]) kg (by omega) (by simp)).one λpt pu pw=>xe ?_;have gg:=hh.add (B:=hg.heap.size) (L0:=ob vs) ga (by omega) (by omega) (by omega) ⟨by omega,by omega,by omega,by omega⟩ H pg ht kh (Ya.snoc kg) po pu pw hw
   have gh:Jb hg.heap.size (bS::b10::ob vs) W pt:=(Jb.ext Y hy).trans gg.2.1;have hzf:=gh.lw.size;refine⟨gh,kf,?_⟩;rw[h7];exact⟨gg.1,ge.1,ge.2,gg.2.2,hu.rst gh,by omega⟩
  have h8:Ky pm i G e=G:=by unfold Ky;rw[if_neg (λh=>by rw[hp]at h;exact absurd h.2 (by decide))]
  refine Yj<|⟨Jb.ext Y hy,v,?_⟩;rw[h7,h8];exact⟨hh,U,ha,hw,hu.ext Y,by omega⟩
 rintro D xs W hD pz ⟨v,E,U,ha,hw,hu,hy⟩ p0;rw[pz,←g8]at E U ha;refine Zj ((Zu a.ed s0.1).foldl (Ky pm i) st) λG gb=>?_;rw[gb]at E U ha J;have pd:=U.le;have p4:=hu.cons (by omega) (by omega) p0;refine Q2<|Q2<|QK (by rfl) (by rfl) ?_;refine x (Qd E.BI O O)<|xe<|QK (by rfl) (by rfl) ?_
 refine xl O<|Qu (us:=[.int .i64 0]) O λbj w20 p5 ki p6=>xl O<|QF (u:=.int .i64 i) p6 O O (by simp) rfl λw21 p7 kj=>xe ?_;refine QK (by rfl) (by rfl) ?_;refine x (Qd kj O O)<|QP O O<|xl O<|QF (u:=.int .i64 ((i:Int)+1)) kj O O (by simp) rfl λp8 p9 qc=>xe ?_;have gi:Step [] W p8:=(p5.then1 p7 ki).then1 p9 ki;have qo:=gi.size;have V:=E.ext gi
 have qr:=(p4.ext gi).up qo;have q0:∀b∈ob v,b≠bj:=λb hb e=>by have:=QY E.R b hb;omega
 refine⟨(i+1,bj,ms,v,G),by simp only[];omega,La,⟨V.stp,V.B4,V.B7,V.B10,V.B11,V.BS,qc,V.R,λb hb=>⟨(V.ne b hb).1,(V.ne b hb).2.1,(V.ne b hb).2.2.1,(V.ne b hb).2.2.2.1,(V.ne b hb).2.2.2.2.1,q0 b hb⟩⟩,U,qr,by omega,?_,by simp only[];omega,ha,by simp only[];omega,J⟩;have t4:=E.B4.lt;have t7:=E.B7.lt;have t10:=E.B10.lt;have t11:=E.B11.lt;have tS:=E.BS.lt
 simp only[];omega
end Go.Proofs.YtjcgijbhaemldaaGreatDoor
namespace Go.Lg
open Go.RowKit
def sl (d:Option Nat)(f:Fr):Value:=match d with|some d=>f d|none=>undef
def ow:Value→LN
 | .slice (some a) _ _=>[a.block]
 | .pointer (some a)=>[a.block]
 | .map (some b)=>[b]
 | _=>[]
def Fa (p:Nat→Prop):LN→Prop
 | []=>True
 | i::l=>p i∧Fa p l
theorem Fa.all {p:Nat→Prop}:∀{l:LN},Fa p l→∀i∈l,p i
 | [],_,_,hi=>by cases hi
 | j::l,h,i,hi=>by
  rcases Le.1 hi with rfl|hi
  ·exact h.1
  exact Fa.all h.2 i hi
theorem Fa.of {p:Nat→Prop}:∀{l:LN},(∀i∈l,p i)→Fa p l
 | [],_=>trivial
 | i::_,h=>⟨h i Lm,Fa.of λj hj=>h j (Lk _ hj)⟩
def zj (all:Array Oper)(opn:LN)(rest:List (Nat×Bool)):Nat→Array Bool→Bool
 | 0,ls=>Y2 all rest ls && opn.all λi=>ls.getD i false
 | k+1,ls=>!(Region.ready .any all ls).isEmpty && (Region.ready .any all ls).all λi=>opn.contains i && zj all opn rest k (ls.setIfInBounds i true)
def U5 (all:List Oper)(D:List (Nat×Nat)):LN→Bool
 | []=>true
 | i::l=>(QL all i).guard.isNone && (match (QL all i).dst with|some d=>Xk D d && l.all (λj=>!((QL all j).dst == some d))|none=>false) && !l.contains i && U5 all D l
theorem Yb {all:List Oper}{D:List (Nat×Nat)}:∀{l:LN},U5 all D l=true→(∀i∈l,(QL all i).guard=none∧∃d,(QL all i).dst=some d∧Xk D d=true)∧∀i∈l,∀j∈l,i≠j→(QL all i).dst≠(QL all j).dst
 | [],_=>⟨λ_ h=>(by cases h),λ_ h=>(by cases h)⟩
 | i::l,h=>by
  simp only[U5,Bool.and_eq_true,Option.isNone_iff_eq_none]at h;obtain⟨⟨⟨I,hd⟩,hc⟩,hl⟩:=h;have ih:=Yb hl;cases E:(QL all i).dst with
  | none=>rw[E]at hd;cases hd
  | some d =>
   rw[E]at hd;simp only[Bool.and_eq_true,List.all_eq_true,Bool.not_eq_true',beq_eq_false_iff_ne,ne_eq]at hd;have G:∀j∈l,(QL all j).dst≠some d:=λj hj=>hd.2 j hj;refine⟨λj hj=>?_,λj hj k hk H=>?_⟩
   ·rcases Le.1 hj with rfl|hj
    ·exact⟨I,d,E,hd.1⟩
    exact ih.1 j hj
   rcases Le.1 hj with hj1|hj1
   ·rcases Le.1 hk with hk1|hk1
    ·exact absurd (hj1.trans hk1.symm) H
    rw[hj1,E];exact λe=>G k hk1 e.symm
   rcases Le.1 hk with hk1|hk1
   ·rw[hk1,E];exact G j hj1
   exact ih.2 j hj1 k hk1 H
def Qp1 (all:List Oper)(pre:List (Nat×Bool))(opn:LN)(rest:List (Nat×Bool))(D:List (Nat×Nat)):Bool :=
 Region.noSelect all.toArray && (pre.length+(opn.length+rest.length) == all.length) && Xy all.toArray pre (Array.replicate all.length false) && U5 all D opn && zj all.toArray opn rest opn.length (Zw pre (Array.replicate all.length false))
  && opn.all λi=>!((Zw pre (Array.replicate all.length false)).getD i false)
section
variable {P:Program}{n:Nat}{f:Fr}{w:World}{all:List Oper}{C:World→Prop}{K:Fr→World→Prop}
theorem Ji {o:Oper}(h:o.guard=none):Yd all f o=true:=by unfold Yd;rw[h]
theorem QfY {α:Type}{D:List (Nat×Nat)}{opn:LN}{rest:List (Nat×Bool)}{Φ:Nat→Value→World→Prop}{S:α→List (Nat×Value)}{I:α→World→Prop}{f1:Fr}(hs:Region.noSelect all.toArray=true)(Y:U5 all D opn=true)
  (hl:∀w w',C w→Step [] w w'→C w') (stab:∀i v w w',Φ i v w→Step [] w w'→Φ i v w')
  (hm:∀(g:Fr) w,Fa (λi=>Φ i (sl (QL all i).dst g) w) opn→(∀i∈opn,∀j∈opn,i≠j→∀b∈ow (sl (QL all i).dst g),b∉ow (sl (QL all j).dst g))→∃z,YV g (S z)∧I z w)
  (spec:Fa (λi=>∀g w,C w→XO P (QL all i) (mix D f1 g) w (λf' w'=>Step [] w w'∧Φ i (sl (QL all i).dst f') w'∧∀b∈ow (sl (QL all i).dst f'),w.heap.size≤b∧b<w'.heap.size)) opn)
  (fin:∀z g w,C w→I z w→XP P all C K rest (VA (S z) (mix D f1 g)) w):
  ∀(k:Nat) (ls:Array Bool) (f:Fr) (w:World),ls.size=all.length→C w→zj all.toArray opn rest k ls=true→(∀t,Xk D t=false→f t=f1 t)→(∀i∈opn,ls.getD i false=true→Φ i (sl (QL all i).dst f) w) →
   (∀i∈opn,ls.getD i false=true→(∀b∈ow (sl (QL all i).dst f),b<w.heap.size)∧∀j∈opn,ls.getD j false=true→i≠j→∀b∈ow (sl (QL all i).dst f),b∉ow (sl (QL all j).dst f))→XA P all C K (k+rest.length) ls f w
 | 0,ls,f,w,hc,hC,hp,hf,he,G=>by
  simp only[zj,Bool.and_eq_true,List.all_eq_true]at hp;obtain⟨z,h1,h2⟩:=hm f w (Fa.of λi hi=>he i hi (hp.2 i hi)) (λi hi j hj E=>(G i hi (hp.2 i hi)).2 j hj (hp.2 j hj) E);have h3:=fin z f w hC h2;rw[Xg hf,Yv h1]at h3;rw[LR];exact Zz hs rest ls f w hc (.inl hC) hp.1 h3
 | k+1,ls,f,w,hc,hC,hp,hf,he,G=>by
  simp only[zj,Bool.and_eq_true,List.all_eq_true,List.contains_iff_mem]at hp;obtain⟨ha,hp⟩:=hp;rw[Nat.add_right_comm];refine Y0 (λh0=>(by rw[h0]at ha;cases ha)) ?_;intro i hi o ho;obtain⟨hh,hv⟩:=hp i hi;obtain⟨hg,d,hd,hw⟩:=(Yb Y).1 i hh;have hy:=(Yb Y).2;have hsp:=Fa.all spec i hh f w hC;rw[Xg hf]at hsp;have H:=Zh ho;rw[H]at hg hd hsp;rw[Ji hg,cond_true]
  refine hsp.mono λv w' hx=>?_;have hn:=hl w w' hC hx.1;have hz:=hx.1.size;have old:∀j∈opn,j≠i→sl (QL all j).dst (QW f o.dst v)=sl (QL all j).dst f:=λj hj E=>by
   obtain⟨_,dj,hq,_⟩:=(Yb Y).1 j hj;have ha:o.dst≠some dj:=λe=>hy j hj i hh E (by rw[hq,H];exact e.symm);rw[hq];exact ZX ha v
  have lsj:∀j,j≠i→(ls.setIfInBounds i true).getD j false=true→ls.getD j false=true:=λj E h=>by rw[getD_set_ne false (Ne.symm E)]at h;exact h
  refine⟨.inr (.inr hn),QfY hs Y hl stab hm spec fin k _ _ _ (by simpa using hc) hn hv (λt ht=>?_) (λj hj V=>?_) (λj hj V=>⟨λb hb=>?_,λk hk hr hu b hb J=>?_⟩)⟩
  ·rw[ZX (by rw[hd];intro e;cases e;rw[hw]at ht;cases ht)];exact hf t ht
  ·by_cases E:j=i
   ·subst E;have h2:=hx.2.1;rw[H];exact h2
   rw[old j hj E];exact stab _ _ _ _ (he j hj (lsj j E V)) hx.1
  ·by_cases E:j=i
   ·subst E;rw[H]at hb;exact(hx.2.2 b hb).2
   rw[old j hj E]at hb;have:=(G j hj (lsj j E V)).1 b hb;omega
  by_cases E:j=i
  ·subst E;have U:k≠j:=Ne.symm hu;rw[old k hk U]at J;rw[H]at hb;have h1:=(G k hk (lsj k U hr)).1 b J;have h2:=(hx.2.2 b hb).1;omega
  rw[old j hj E]at hb;have h1:=(G j hj (lsj j E V)).1 b hb;by_cases U:k=i
  ·subst U;rw[H]at J;have h2:=(hx.2.2 b J).1;omega
  rw[old k hk U]at J;exact(G j hj (lsj j E V)).2 k hk (lsj k U hr) hu b hb J
theorem Qf0 {α:Type}{Q:Exit→Fr→World→Prop}{id:Nat}(C:World→Prop)(pre:List (Nat×Bool))(opn:LN)(rest:List (Nat×Bool))(D:List (Nat×Nat))(Φ:Nat→Value→World→Prop)(S:α→List (Nat×Value))(I:α→World→Prop)
  (hm:P.follows .mixedOrders=true) (J:Xn n all=true) (hp:Qp1 all pre opn rest D=true) (hC:C { w with drawn:=w.drawn+1 }) (U:∀w w',C w→Step [] w w'→C w') (stab:∀i v w w',Φ i v w→Step [] w w'→Φ i v w')
  (V:∀(g:Fr) w,Fa (λi=>Φ i (sl (QL all i).dst g) w) opn→(∀i∈opn,∀j∈opn,i≠j→∀b∈ow (sl (QL all i).dst g),b∉ow (sl (QL all j).dst g))→∃z,YV g (S z)∧I z w)
  (h:XP P all C (λf1 _=>Fa (λi=>∀g w,C w→XO P (QL all i) (mix D f1 g) w (λE w'=>Step [] w w'∧Φ i (sl (QL all i).dst E) w'∧∀b∈ow (sl (QL all i).dst E),w.heap.size≤b∧b<w'.heap.size)) opn ∧
   ∀z g w,C w→I z w→XP P all C (λf w=>Q .normal f w) rest (VA (S z) (mix D f1 g)) w) pre f { w with drawn:=w.drawn+1 }):W P n (.region id all.toArray true) Q f w:=by
 simp only[Qp1,Bool.and_eq_true,beq_iff_eq,List.all_eq_true,Bool.not_eq_true']at hp;obtain⟨⟨⟨⟨⟨hs,hl⟩,hq⟩,Y⟩,ha⟩,G⟩:=hp;refine Y7 C hm J ?_;rw[←hl];have hb:(Array.replicate all.length false).size=all.length:=by simp
 have h1:=ZP (K:=λf w=>Q .normal f w) (m:=opn.length+rest.length) hs pre (Array.replicate all.length false) f _ hC hq (λf1 H=>QfY (P:=P) (C:=C) hs Y U stab V H.1 H.2 opn.length (Zw pre (Array.replicate all.length false)) f1 _ (by rw[ZN];exact hb) hC ha (λ_ _=>O) (λi hi ht=>by rw[G i hi]at ht;cases ht) (λi hi ht=>by rw[G i hi]at ht;cases ht)) h;rw[hl]at h1 ⊢;exact h1
end
end Go.Lg
namespace Go.Proofs.YtjcgijbhaemldaaGreatDoor
open Go.Proofs.Tryz
open Go.Lg
theorem QhR {P:Program}{f:Fr}{w:World}{d:Option Nat}{ty:Nat}{ps:String}{af:Array Edge}{gd:Option (Nat×Bool)}{x y:Operand}{t m e:Nat}[h:Ay P t m e 1][h1:XX P e]{cs:LV}{k:IntKind}{i:Nat}{u:Value}(hx:ev f x=.agg cs.toArray)(hy:ev f y=.int k i)(hi:i<m)(hu:cs[i]?=some u):
  (execOp (ev f) ⟨d,.index t x y,ty,ps,af,gd⟩).run P w=.ok (.value u) w:=by
 have E:=qX (P:=P) (w:=w) (t:=e);have G:=jw (P:=P) (w:=w) (t:=e);simp[execOp,hx,hy,Instr.index,asIntOf,run_underlying h.u,E,part,G,hu];intro h2;omega
theorem Qkg {w:World}{b E n:Nat}{l:LI}{s:Int}(G:QT w.heap b 175 [.slice (some ⟨E,0,none⟩) n n])(hS:QT w.heap E 4 ((flg n l).map Value.bool))(H:0≤s)(h1:s<(n:Int)):
  QH prog 82 [.int .i64 s,.pointer (some ⟨b,0,none⟩)] w λr w'=>r=.bool (decide (s∈l))∧Step [] w w':=by
 refine QH.of_W func82 O ntmps82 results82 (by simp) ?_;have I:s=(s.toNat:Int):=by omega
 refine Qc<|Qf<|Qc<|x (Qd G O O)<|Qb<|x (QS (i:=s.toNat) O (congrArg (Value.int .i64) I) (by omega))<|x (Qd hS O (QaU H h1))<|Qf ?_;exact Ql ⟨[_],La,O,Step.refl _ _⟩
theorem Qkf {w:World}{b G n:Nat}{l:LI}{e:Ed}(H:QT w.heap b 175 [.slice (some ⟨G,0,none⟩) n n])(hS:QT w.heap G 4 ((flg n l).map Value.bool))(I:0≤e.2.2)(h1:e.2.2<(n:Int)):
  QH prog 83 [.agg (QB e).toArray,.pointer (some ⟨b,0,none⟩)] w λr w'=>r=.bool (decide (e.2.2∈l))∧Step [] w w':=by
 refine QH.of_W func83 O ntmps83 results83 (by simp) ?_;have J:e.2.2=(e.2.2.toNat:Int):=by omega
 refine Qc<|xl O<|QR (us:=QB e) O λV Y E ha U=>Qf<|Qc<|x (Qd (H.ext E) O O)<|x (Qa O)<|x (Qd U O O)<|x (QS (i:=e.2.2.toNat) O (congrArg (Value.int .i64) J) (by omega))<|x (Qd (hS.ext E) O (QaU I h1))<|Qf ?_;exact Ql ⟨[_],La,O,E⟩
instance ayJk1:Ay prog 173 2 39 1:=⟨by kernel_rfl,by kernel_rfl⟩
def ptR (a:QD)(n from0:Nat)(tg wi:LI):LI×Bool:=pth (λs=>decide (s∈tg)) (λe=>decide (e.2.2∈wi)) a.ed n from0
def phP (N n:Nat)(tg wi:LI)(i:Nat)(v:Value)(w:World):Prop :=
 if i=2 then ∃b,v=.slice (some ⟨b,0,none⟩) n n∧N≤b∧QT w.heap b 4 ((flg n wi).map Value.bool)
 else if i=5 then ∃b,v=.slice (some ⟨b,0,none⟩) n n∧N≤b∧QT w.heap b 4 ((flg n tg).map Value.bool)
 else ∃b,v=.pointer (some ⟨b,0,none⟩)∧N≤b∧QT w.heap b 175 [nS]
theorem Qk9 {N n:Nat}{tg wi:LI}(i:Nat)(v:Value)(w w':World)(h:phP N n tg wi i v w)(hs:Step [] w w'):phP N n tg wi i v w':=by
 unfold phP at *;split
 ·rename_i e;rw[if_pos e]at h;obtain⟨b,h1,h2,h3⟩:=h;exact⟨b,h1,h2,h3.ext hs⟩
 rename_i e;rw[if_neg e]at h;split
 ·rename_i e2;rw[if_pos e2]at h;obtain⟨b,h1,h2,h3⟩:=h;exact⟨b,h1,h2,h3.ext hs⟩
 rename_i e2;rw[if_neg e2]at h;obtain⟨b,h1,h2,h3⟩:=h;exact⟨b,h1,h2,h3.ext hs⟩
structure PhZ where
 bi:Nat
 bt:Nat
 b15:Nat
 b16:Nat
theorem QmS {w:World}{va vm ve vt vi:Value}{a:QD}{n from0:Nat}{tg wi:LI}(h:Zm [] w.heap va vm ve a)(hck:Xq a=0)(hn:a.st=(n:Int))(hf:from0<n)(ht:QJ [] w.heap vt tg)(hi:QJ [] w.heap vi wi)
  (h6:YM a.st none tg=0) (h7:YM a.st none wi=0) (hM:(from0:Int)∈wi):
  QH prog 38 [.agg #[va,.int .i64 a.st,vm,ve],.int .i64 from0,vt,vi] w λr w'=>Step [] w w'∧∃v,r=.tuple #[v,.bool (ptR a n from0 tg wi).2,.int .i64 0]∧Qt 3 w.heap.size w' v (ptR a n from0 tg wi).1:=by
 have H:=(Zs a).1 hck;have hz:=H.st1;refine QH.of_W func38 O ntmps38 results38 (by simp) ?_;refine Qc<|xl O<|QR (us:=[va,.int .i64 a.st,vm,ve]) O λb4 w1 h8 hZ h9=>x Qe<|x Qe<|Qf<|Qg<|Qc<|x (Qo h9 O O)<|xl O<|xf<|(YU (h.ext h8)).mono ?_;rintro r2 w2 ⟨rfl,hA⟩;refine Qf<|Qc<|Qb<|x (Q6 O O)<|xe<|Q3 rfl (λhC=>absurd hck hC) (λhC=>?_);refine Qi ?_;have hD:=h8.trans hA
 have h3:=h9.ext hA;have hN:¬(from0:Int)≥a.st:=by omega
 refine Qg<|Qc<|Qb<|xb (QA O O) (λhE=>absurd hE (by omega)) (λhE=>?_);refine Qb<|Qb<|x (Qa O)<|x (Qd h3 O O)<|x (ZV O O)<|x (Qp O)<|xe<|Q3 rfl (λhF=>absurd hF hN) (λhF=>?_);refine Qi<|Qg<|Qc<|Qb<|Qb<|x (QM ⟨ht.cells,hi.cells,Z⟩)<|Qb<|xe ?_
 refine Qh<|Qz (α:=Nat) [(8,10),(13,14),(33,42)] (λz=>[(33,.int .i64 z)]) (λz w'=>z≤2∧Step [] w2 w') (λz=>2 - z) (by rfl) 0 La ⟨by omega,Step.refl _ _⟩ ?_;rintro k g Y ⟨hk,ha⟩;refine Qc<|x (QA O O)<|xe<|Qg<|QC O (λhG=>?_) (λhG=>?_)
 ·refine Qy ?_;have hg:=hD.trans ha;have hH:=h.ext hg;have ga:=hg.size;have h4:=h3.ext ha;have hO:=((Z1 a.st tg none).1 h6).1;have hP:=((Z1 a.st wi none).1 h7).1;refine Qg<|Qf0 (α:=PhZ) (Step [] Y) [(0,true),(1,true),(3,true),(4,true)] [2,5,6,7] [(8,false),(9,false)] [(15,16),(45,45),(48,48)] (phP Y.heap.size n tg wi)
   (λz=>[(45,.slice (some ⟨z.bi,0,none⟩) n n),(48,.slice (some ⟨z.bt,0,none⟩) n n),(15,.pointer (some ⟨z.b15,0,none⟩)),(16,.pointer (some ⟨z.b16,0,none⟩))])
   (λz w'=>QT w'.heap z.bi 4 ((flg n wi).map Value.bool)∧QT w'.heap z.bt 4 ((flg n tg).map Value.bool)∧QT w'.heap z.b15 175 [nS]∧QT w'.heap z.b16 175 [nS]∧(z.b15≠z.b16∧z.bi≠z.b15∧z.bi≠z.b16∧z.bt≠z.b15∧z.bt≠z.b16)∧Y.heap.size≤z.b15∧Y.heap.size≤z.b16)
   mixed (by rfl) (by kernel_rfl) (Step.drew _ _) (λ_ _ h1 h2=>h1.trans h2) Qk9 ?_ ?_
  ·rintro g w' ⟨⟨bi,e1,_,hq⟩,⟨bt,e2,_,hr⟩,⟨b15,e3,J,hs⟩,⟨b16,e4,hh,hw⟩,_⟩ hj;refine⟨⟨bi,bt,b15,b16⟩,⟨e1,e2,e3,e4,Z⟩,hq,hr,hs,hw,?_,J,hh⟩;have d1:=hj 6 (by simp) 7 (by simp) (by decide);have d2:=hj 2 (by simp) 6 (by simp) (by decide);have d3:=hj 2 (by simp) 7 (by simp) (by decide);have d4:=hj 5 (by simp) 6 (by simp) (by decide)
   have d5:=hj 5 (by simp) 7 (by simp) (by decide);rw[e3,e4]at d1;rw[e1,e3]at d2;rw[e1,e4]at d3;rw[e2,e3]at d4;rw[e2,e4]at d5;simp only[ow,List.mem_singleton,forall_eq]at d1 d2 d3 d4 d5;exact⟨d1,d2,d3,d4,d5⟩
  refine pq (λ_ hc=>Qo (h4.ext hc) O O)<|p (λ_=>Qk)<|pq (λ_ hc=>Qo (h4.ext hc) O O)<|p (λ_=>Qk)<|pe ⟨⟨?_,?_,?_,?_,Z⟩,?_⟩
  ·intro g w' hc;refine xf<|(Qcn ((hi.ext hg).ext hc) hn hz hP).mono ?_;rintro r5 w5 ⟨G,b,rfl,hb,E⟩;exact⟨G,⟨b,O,LL hc.size hb,E⟩,λc I=>by rw[Lb.1 (show c∈[b] from I)];exact⟨hb,E.lt⟩⟩
  ·intro g w' hc;refine xf<|(Qcn ((ht.ext hg).ext hc) hn hz hO).mono ?_;rintro r5 w5 ⟨G,b,rfl,hb,E⟩;exact⟨G,⟨b,O,LL hc.size hb,E⟩,λc I=>by rw[Lb.1 (show c∈[b] from I)];exact⟨hb,E.lt⟩⟩
  ·intro g w' hc;exact Qu (us:=[nS]) O λb w5 G hb E=>⟨G,⟨b,O,LL hc.size hb,E⟩,λc I=>by rw[Lb.1 (show c∈[b] from I)];exact⟨hb,E.lt⟩⟩
  ·intro g w' hc;exact Qu (us:=[nS]) O λb w5 G hb E=>⟨G,⟨b,O,LL hc.size hb,E⟩,λc I=>by rw[Lb.1 (show c∈[b] from I)];exact⟨hb,E.lt⟩⟩
  rintro⟨bi,bt,b15,b16⟩ g w5 h5 ⟨hq,hr,hs,hw,hQ,J,hh⟩;simp only[]at hq hr hs hw hQ J hh;refine pk<|QF (u:=.slice (some ⟨bi,0,none⟩) n n) hs O O (by simp) rfl λw6 U hR=>⟨h5.then1 U J,?_⟩;refine pk<|QF (u:=.slice (some ⟨bt,0,none⟩) n n) (hw.step U (by simp;omega)) O O (by simp) rfl λw7 hm hS=>⟨(h5.then1 U J).then1 hm hh,pe ?_⟩
  have hy:Step [] Y w7:=(h5.then1 U J).then1 hm hh;have hI:=hR.step hm (by simp;omega);have hJ:=(hq.step U (by simp;omega)).step hm (by simp;omega);have hT:=(hr.step U (by simp;omega)).step hm (by simp;omega);have gb:=hy.size;have hU:((flg n wi).map Value.bool)[0+from0*1]?=some (.bool true):=by
   have e1:=QaU (n:=n) (l:=wi) (x:=(from0:Int)) (by omega) (by omega);rw[decide_eq_true hM]at e1;exact e1
  refine Qg<|Qc<|x (Qd hI O O)<|Qb<|x (QS (i:=from0) O O hf)<|x (Qd hJ O hU)<|x (Zt O)<|xe<|Z4 O<|Qi<|Qc<|x (Qo (h4.ext hy) O O)<|xl O<|xf<|(U6 (hH.ext hy) hn hz (λe he=>⟨(H.ed e he).1,(H.ed e he).2.1⟩)).mono ?_;rintro r8 w8 ⟨V,bF,rfl,gc,hV⟩;have hK:=hy.trans V;have ge:=V.size;refine Qb<|x (Zo (l:=[]) (l':=[_]))<|x (Zo (l:=[]) (l':=[_]))<|xl O<|xf <|
   (Qla (wt:=λs=>decide (s∈tg)) (pm:=λe=>decide (e.2.2∈wi)) (cw:=[.pointer (some ⟨b16,0,none⟩)]) (cp:=[.pointer (some ⟨b15,0,none⟩)]) (gw:=82) (gp:=83) (hH.ext hK) hn (by omega) (λe he=>by have:=(H.ed e he).2.2.2;omega) H.eds hV hf
    (λs w' h0 h1 hp=>Qkg ((hS.ext V).ext hp) ((hT.ext V).ext hp) h0 h1) (λe w' he hp=>Qkf ((hI.ext V).ext hp) ((hJ.ext V).ext hp) (by have:=(H.ed e he).2.2.2;omega) (by have:=(H.ed e he).2.2.2;omega))).mono ?_
  rintro r9 w9 ⟨hW,v,rfl,hv⟩;refine Qb<|x (Qj O O)<|x (Qj O O)<|x Qe<|Qf<|Qc<|Qb<|Qb<|x Qe<|x Qe<|Qf ?_;exact Ql ⟨[_,_,_],⟨O,O,O,Z⟩,hg.trans (hK.trans hW),v,O,Zd hv (by omega)⟩
 refine Qi ?_;have hX:k<2:=by have gg:(k:Int)<2:=hG;omega
 have hY:∃u l,[vt,vi][k]?=some u∧QJ [] w.heap u l∧YM a.st none l=0:=by
  rcases k with _|k
  ·exact⟨vt,tg,O,ht,h6⟩
  have:k=0:=by omega
  subst this;exact⟨vi,wi,O,hi,h7⟩
 refine Exists.elim hY λu hu=>Exists.elim hu λl hl=>?_;refine Qg<|Qh<|Qc<|x (QhR (i:=k) (cs:=[vt,vi]) O O hX hl.1)<|Qf<|Qc<|x (Qo (h3.ext ha) O O)<|Qb<|xl O<|xf<|(ya (va:=va) (vm:=vm) (ve:=ve) (a:=a) ((hl.2.1.ext hD).ext ha)).mono ?_;rintro r5 w5 ⟨rfl,G⟩;refine Qf<|Qc<|Qb<|x (Q6 O O)<|xe<|Q3 rfl (λhL=>absurd hl.2.2 hL) (λhL=>?_);refine Qi<|Qw<|QP O O<|Qb<|xe ?_
 exact⟨k+1,by omega,La,by omega,ha.trans G⟩
theorem QeP {P:Program}{f:Fr}{w:World}{d:Option Nat}{ty:Nat}{ps:String}{af:Array Edge}{gd:Option (Nat×Bool)}{t kt et:Nat}[hm:Mp P t kt et (.int .i64 0)][hk:Key P kt ZZ]{x y:Operand}{b:Nat}{s:QD}{q v:Int}(h:ZI ZZ w.heap b (Ks [] s.ed))
  (hs:s.ed.Pairwise λx y=>x.1<y.1∨(x.1=y.1∧x.2.1<y.2.1)) (hx:ev f x=.map (some b)) (hy:ev f y=ZZ (q,v)):
  (execOp (ev f) ⟨d,.lookup t x y true,ty,ps,af,gd⟩).run P w=.ok (.value (.tuple #[.int .i64 ((eget s.ed q v).getD 0),.bool (decide ((eget s.ed q v).isSome=true))])) w:=by
 rw[KK h hx hy,US s.ed [] q v hs];cases eget s.ed q v <;> rfl
def YG (k:Nat):LI:=(List.range k).map λi:Nat=>(i:Int)
theorem KN (k:Nat):(YG k).length=k:=by simp[YG]
theorem UK (k:Nat):YG (k+1)=YG k++[(k:Int)]:=by unfold YG;rw[List.range_succ,Lx];rfl
theorem KM (k:Nat)(x:Int):x∈YG k↔0≤x∧x<(k:Int):=by
 unfold YG;simp only[List.mem_map,List.mem_range];constructor
 ·rintro⟨i,hi,rfl⟩;omega
 intro h;exact⟨x.toNat,by omega,by omega⟩
theorem V3 (k:Nat):Z2 (YG k):=by
 induction k with
 | zero=>exact List.Pairwise.nil
 | succ k ih =>
  rw[UK];refine MF.2 ⟨ih,M9 _ _,λx hx y hy=>?_⟩;have:=(KM k x).1 hx;simp at hy;omega
theorem QjB (d:LI)(k:Nat)(x:Int):x∈VI d k→0≤x∧x<(k:Int):=by
 unfold VI;simp only[List.mem_map,List.mem_filter,List.mem_range];rintro⟨i,hi,rfl⟩;omega
theorem Qcy (d:LI)(k:Nat):Z2 (VI d k):=by
 induction k with
 | zero=>exact List.Pairwise.nil
 | succ k ih =>
  rw[jH];split
  ·refine MF.2 ⟨ih,M9 _ _,λx hx y hy=>?_⟩;have:=QjB d k x hx;simp at hy;omega
  exact ih
theorem Qmr (A:QD):Z2 (cor A):=Qcy _ _
def Jm (A:QD):LI:=mrg (λp q=>p && !q) (YG A.st.toNat) (cor A)
theorem yl (A:QD):Z2 (Jm A):=qD _ _ _ _ (Lu _) (V3 _) (Qcy _ _)
theorem yk (A:QD)(x:Int):x∈Jm A↔(0≤x∧x<(A.st.toNat:Int))∧x∉cor A:=by
 unfold Jm;rw[Kf (V3 _) (Qmr A)];have hm:=KM A.st.toNat x;by_cases h1:x∈cor A
 ·simp[h1]
 by_cases h2:x∈YG A.st.toNat
 ·have:=hm.1 h2;simp[h1,h2];omega
 have:¬(0≤x∧x<(A.st.toNat:Int)):=λh=>h2 (hm.2 h);simp only[h1,h2,false_or,false_and,this]
theorem Qd0 {n:Int}{l:LI}(h1:∀x∈l,0≤x∧x<n)(h2:Z2 l):YM n none l=0:=(Z1 n l none).2 ⟨h1,h2,λy hy=>by cases hy⟩
theorem Un:∀{es:List Ed},(es.Pairwise λx y=>x.1<y.1∨(x.1=y.1∧x.2.1<y.2.1))→∀{s v t:Int},(s,v,t)∈es→eget es s v=some t
 | [],_,_,_,_,h=>by cases h
 | e::es,hp,s,v,t,h=>by
  obtain⟨h1,h2⟩:=L3.1 hp;rw[eget];rcases Le.1 h with h|h
  ·subst h;rw[if_pos ⟨rfl,rfl⟩]
  have h3:=h1 _ h;rw[if_neg (λh4=>by have a1:e.1=s:=h4.1;have a2:e.2.1=v:=h4.2;simp only[]at h3;omega)];exact Un h2 h
abbrev Qgx (a:QD):Cs:=YP a a.st.toNat 0 (ZK a)
theorem cn0 {a:QD}(I:0<a.st):CnG a 0 (ZK a):=by
 have E:0<a.st.toNat:=by omega
 refine⟨⟨by simp[ZK],λs hs=>by simp[ZK]at hs;subst hs;omega,by simp[ZK],λk J k1=>?_⟩,Ll _,⟨by simp[ZK,Zq],by simp[ZK]⟩,by simp[ZK],by simp[ZK],λj hj=>by omega⟩;by_cases ek:k=0
 ·subst ek;rw[if_pos (by simp[ZK])];unfold Zq ZK;simp[List.getD,E]
 rw[if_neg (by simpa[ZK]using ek)];unfold ZK;have G:0≠k.toNat:=by omega
 have H:k.toNat<a.st.toNat:=by omega
 unfold Zq;rw[LD,MR G];simp[H]
theorem QoJ {a:QD}(G:QO a)(H:0<a.st):CnP a (Qgx a).ord∧ZY a=⟨a.al,((Qgx a).ord.length:Int),(Qgx a).mk',(Qgx a).ed⟩∧(Qgx a).ord.length≤a.st.toNat:=by
 obtain⟨I,h1,h2⟩:=UZ G a.st.toNat 0 (ZK a) (cn0 H);have J:(YP a a.st.toNat 0 (ZK a)).ord.length≤a.st.toNat:=pig _ _ h1.nu.nd (λx hx=>by have:=h1.nu.bd x hx;omega);have U:I=(YP a a.st.toNat 0 (ZK a)).ord.length:=by have:=h1.le;omega
 subst U;have E:ZY a=⟨a.al,((YP a a.st.toNat 0 (ZK a)).ord.length:Int),(YP a a.st.toNat 0 (ZK a)).mk',(YP a a.st.toNat 0 (ZK a)).ed⟩:=by unfold ZY;rw[if_neg (by omega)]
 refine⟨⟨h1.nu.nd,h1.nu.bd,h1.hd,by rw[E],by rw[E],?_,?_,h1.cl⟩,E,J⟩
 ·rw[E];exact h1.mk2
 rw[E];exact h1.ed
end Go.Proofs.YtjcgijbhaemldaaGreatDoor
namespace Go.Lg
open Go.RowKit
instance:LawfulBEq ByteArray where
 eq_of_beq h:=(MapKept.bytes_beq _ _).1 h;rfl:=(MapKept.bytes_beq _ _).2 O
def chr (s:ByteArray)(i:Nat):Nat:=(s.get! i).toNat
theorem QoO {s:ByteArray}{i:Nat}(h:i<s.size):(s[i]'h).toNat=chr s i:=by
 unfold chr;obtain⟨d⟩:=s;have hd:i<d.size:=h;simp[ByteArray.get!,hd,ByteArray.getElem_eq_getElem_data]
theorem QgE {a b:ByteArray}(h:a.data.toList=b.data.toList):a=b:=by
 obtain⟨⟨x⟩⟩:=a;obtain⟨⟨y⟩⟩:=b;have h':x=y:=h;rw[h']
theorem bytes_beq (a b:ByteArray):(a.toList == b.toList)=decide (a=b):=by
 rw[ByteArray.toList_eq,ByteArray.toList_eq];by_cases h:a=b
 ·subst h;simp
 rw[decide_eq_false h];have:a.data.toList≠b.data.toList:=λe=>h (QgE e);simpa using this
section
variable {P:Program}{f:Fr}{w:World}{d:Option Nat}{ty:Nat}{ps:String}{af:Array Edge}{gd:Option (Nat×Bool)}{t t':Nat}{x y:Operand}
theorem QhS [h:St P t]{s:ByteArray}{k:IntKind}{i:Nat}(hx:ev f x=.string s)(hy:ev f y=.int k i)(hi:i<s.size):
  (execOp (ev f) ⟨d,.index t x y,ty,ps,af,gd⟩).run P w=.ok (.value (.int .u8 (chr s i))) w:=by
 have h1:=run_index_string (P:=P) w t s k i h.u;rw[dif_pos ⟨by omega,by omega⟩]at h1;have e:(s[(i:Int).toNat]'(by simpa using hi)).toNat=chr s i:=QoO hi;simp only[execOp,hx,hy,Sem.run_bind,h1,Result.andThen_ok,Sem.run_pure,e]
theorem Qdv [h:St P t]{s:ByteArray}(hx:ev f x=.string s):
  (execOp (ev f) ⟨d,.call ⟨.builtin .len,#[x],#[t]⟩,ty,ps,af,gd⟩).run P w=.ok (.value (.int .i64 s.size)) w:=QhP h.u hx
theorem Qaq {a b:ByteArray}(hx:ev f x=.string a)(hy:ev f y=.string b):
  (execOp (ev f) ⟨d,.binOp .eql t x y t',ty,ps,af,gd⟩).run P w=.ok (.value (.bool (decide (a=b)))) w:=by
 have E:(eqGuard .eql t x y (.string a) (.string b)).run P w=.ok () w:=by simp[eqGuard]
 simp only[execOp,hx,hy,Sem.run_bind,E,Result.andThen_ok,binOp_string_eql,Sem.run_pure,bytes_beq]
theorem J8 {a b:ByteArray}(hx:ev f x=.string a)(hy:ev f y=.string b)(hl:a.size+b.size≤1000000000):
  (execOp (ev f) ⟨d,.binOp .add t x y t',ty,ps,af,gd⟩).run P w=.ok (.value (.string (a++b))) w:=by
 have E:(eqGuard .add t x y (.string a) (.string b)).run P w=.ok () w:=by simp[eqGuard]
 have G:¬(((a.size+b.size:Nat):Int) > IntKind.i64.max):=by
  rw[show IntKind.i64.max=9223372036854775807 from rfl];omega
 simp only[execOp,hx,hy,Sem.run_bind,E,Result.andThen_ok,binOp_string_add,Op.stringOp,if_neg G,Sem.run_pure]
theorem Qk8 {a b:Nat}(hx:ev f x=.int .u16 a)(hy:ev f y=.int .u16 b)(ha:a<65536)(hb:b<65536):
  (execOp (ev f) ⟨d,.binOp .and t x y t',ty,ps,af,gd⟩).run P w=.ok (.value (.int .u16 ((a &&& b:Nat):Int))) w:=by
 refine XS hx hy ?_;have hi:inK .u16 ((a &&& b:Nat):Int):=by
  have:a &&& b≤a:=Nat.and_le_left;exact⟨by omega,by omega⟩
 simp only[binOp,Op.intBits,BitVec.ofInt_natCast,ne_eq,not_true_eq_false,if_false,Sem.run_pure];rw[BitVec.toNat_and,BitVec.toNat_ofNat,BitVec.toNat_ofNat,MC (show a<2 ^ IntKind.u16.bits from ha),MC (show b<2 ^ IntKind.u16.bits from hb),Xu hi]
theorem QeU {a b:Nat}(ha:a<65536)(hb:b<65536):a ||| b<65536:=Nat.or_lt_two_pow (n:=16) ha hb
theorem Qdu {a b:Nat}(hx:ev f x=.int .u16 a)(hy:ev f y=.int .u16 b)(ha:a<65536)(hb:b<65536):
  (execOp (ev f) ⟨d,.binOp .or t x y t',ty,ps,af,gd⟩).run P w=.ok (.value (.int .u16 ((a ||| b:Nat):Int))) w:=by
 refine XS hx hy ?_;have hi:inK .u16 ((a ||| b:Nat):Int):=by
  have:=QeU ha hb;exact⟨by omega,by omega⟩
 simp only[binOp,Op.intBits,BitVec.ofInt_natCast,ne_eq,not_true_eq_false,if_false,Sem.run_pure];rw[BitVec.toNat_or,BitVec.toNat_ofNat,BitVec.toNat_ofNat,MC (show a<2 ^ IntKind.u16.bits from ha),MC (show b<2 ^ IntKind.u16.bits from hb),Xu hi]
theorem Qdw {a b:Nat}(hx:ev f x=.int .u16 a)(hy:ev f y=.int .u16 b)(ha:a<65536)(hb:b<65536):
  (execOp (ev f) ⟨d,.binOp .andNot t x y t',ty,ps,af,gd⟩).run P w=.ok (.value (.int .u16 ((a &&& (65535 ^^^ b):Nat):Int))) w:=by
 refine XS hx hy ?_;have hi:inK .u16 ((a &&& (65535 ^^^ b):Nat):Int):=by
  have:a &&& (65535 ^^^ b)≤a:=Nat.and_le_left;exact⟨by omega,by omega⟩
 have e:(~~~(BitVec.ofNat IntKind.u16.bits b))=BitVec.ofNat IntKind.u16.bits (65535 ^^^ b):=by
  have E:BitVec.allOnes 16=BitVec.ofNat 16 65535:=by decide
  have G:∀z:BitVec 16,~~~z=BitVec.allOnes 16 ^^^ z:=λz=>by
   first
   | exact BitVec.allOnes_xor.symm
   | exact(BitVec.xor_allOnes.symm.trans (BitVec.xor_comm _ _))
  show ~~~(BitVec.ofNat 16 b)=BitVec.ofNat 16 (65535 ^^^ b);rw[G,E];apply BitVec.eq_of_toNat_eq;simp only[BitVec.toNat_xor,BitVec.toNat_ofNat];rw[MC (show 65535<2 ^ 16 by decide),MC (show b<2 ^ 16 from hb)];rw[MC (Nat.xor_lt_two_pow (n:=16) (by decide) hb)]
 simp only[binOp,Op.intBits,BitVec.ofInt_natCast,ne_eq,not_true_eq_false,if_false,Sem.run_pure];rw[e,BitVec.toNat_and,BitVec.toNat_ofNat,BitVec.toNat_ofNat,MC (show a<2 ^ IntKind.u16.bits from ha),MC (show 65535 ^^^ b<2 ^ IntKind.u16.bits from Nat.xor_lt_two_pow (n:=16) (by decide) hb),Xu hi]
theorem QeO {k k':IntKind}{a:Int}{n:Nat}(hx:ev f x=.int k a)(hy:ev f y=.int k' n)(E:n≤k.bits)(hi:inK k (a*2 ^ n)):
  (execOp (ev f) ⟨d,.binOp .shl t x y t',ty,ps,af,gd⟩).run P w=.ok (.value (.int k (a*2 ^ n))) w:=by
 refine XS hx hy ?_;have h1:¬((n:Int)<0):=by omega
 simp only[binOp,Op.shift,h1,if_false,Int.toNat_natCast,Nat.min_eq_left E,Sem.run_pure];rw[Xu hi]
end
section
variable {P:Program}{ops:List Oper}{K:Fr→World→Prop}{f:Fr}{w:World}{d:Option Nat}{ty:Nat}{ps:String}{af:Array Edge}{gd:Option (Nat×Bool)}{l:List Oper}
 {t e sz bys:Nat} {z:Value} {x y1 y2:Operand} {L:LN} {v:Value} {n:Nat} {cs:LV} {H:Array Obj} {k k':IntKind} {hi:Nat}
theorem QhN [h:Sl P t e sz bys z](E:Zy L H v n sz cs)(hx:ev f x=v)(G:ev f y1=.int k hi)(hm:ev f y2=.int k' hi)(h1:hi≤n):
  ∃v',Zy L H v' hi sz (cs.take (hi*sz))∧∀w,(execOp (ev f) ⟨d,.slice t x none (some y1) (some y2),ty,ps,af,gd⟩).run P w=.ok (.value v') w:=by
 obtain⟨ii,I,_,hs,_⟩:=Sl.info h;rcases E.2.2 with⟨rfl,rfl⟩|⟨a,cap,rfl,hc,J⟩
 ·have U:hi=0:=by omega
  subst U;refine⟨nS,?_,λw=>?_⟩
  ·rw[Nat.zero_mul,List.take_zero];exact Zy.nil _ _ _
  simp[execOp,hx,G,hm,Instr.sliceAt,Instr.slice,Instr.sliceBounds,Instr.sliceBound,asIntOf,run_underlying h.u,sizeOf,typeInfo,I]
 refine⟨.slice (some a) hi hi,⟨?_,by have:=E.2.1;omega,.inr ⟨a,hi,O,Lu _,λu hu=>J.out u (L2 hu),λu hu=>J.lt u (L2 hu),λj u hu=>?_⟩⟩,λw=>?_⟩
 ·rw[LC,E.1,Nd (ML _ h1)]
 ·rw[Ms]at hu;split at hu
  ·exact J.cell j u hu
  cases hu
 by_cases U:hi=0
 ·subst U;simp[execOp,hx,G,hm,Instr.sliceAt,Instr.slice,Instr.sliceBounds,Instr.sliceBound,asIntOf,run_underlying h.u,sizeOf,typeInfo,I]
 simp[execOp,hx,G,hm,Instr.sliceAt,Instr.slice,Instr.sliceBounds,Instr.sliceBound,asIntOf,run_underlying h.u,sizeOf,typeInfo,I,Addr.add];intro h9;omega
end
section
variable {P:Program}{ops l:List Oper}{K:Fr→World→Prop}{f:Fr}{w:World}{o:Oper}{C:World→Prop}{pl:List (Nat×Bool)}{i:Nat}
theorem xB {b:Bool}(E:(execOp (ev f) o).run P w=.ok (.value (.bool b)) w)(ht:b=true→XL P ops K l (QW f o.dst (.bool true)) w)(I:b=false→XL P ops K l (QW f o.dst (.bool false)) w)
  (G:Yd ops f o=true:=by rfl):XL P ops K (o::l) f w:=by
 cases hb:b with
 | true=>rw[hb]at E;exact x E (ht hb) G
 | false=>rw[hb]at E;exact x E (I hb) G
theorem pB {b:Bool}(E:∀w',(execOp (ev f) (QL ops i)).run P w'=.ok (.value (.bool b)) w')(ht:b=true→XP P ops C K pl (QW f (QL ops i).dst (.bool true)) w)(I:b=false→XP P ops C K pl (QW f (QL ops i).dst (.bool false)) w)
  (G:Yd ops f (QL ops i)=true:=by rfl):XP P ops C K ((i,true)::pl) f w:=by
 cases hb:b with
 | true=>rw[hb]at E;exact p E (ht hb) G
 | false=>rw[hb]at E;exact p E (I hb) G
theorem Qjl {G:Prop}(b:Bool)(ht:b=true→G)(E:b=false→G):G:=by cases h:b with|true=>exact ht h|false=>exact E h
theorem bT {q:Prop}[Decidable q](h:q):true=decide q:=(decide_eq_true h).symm
theorem bF {q:Prop}[Decidable q](h:¬q):false=decide q:=(decide_eq_false h).symm
theorem bD {q r:Prop}[Decidable q][Decidable r](h:q↔r):decide q=decide r:=decide_eq_decide.2 h
end
section
variable {P:Program}{f:Fr}{w:World}{d:Option Nat}{ty:Nat}{ps:String}{af:Array Edge}{gd:Option (Nat×Bool)}{t:Nat}{x:Operand}
theorem zg {q:Prop}[Decidable q](hx:ev f x=.bool (decide q)):(execOp (ev f) ⟨d,.unOp .not t x,ty,ps,af,gd⟩).run P w=.ok (.value (.bool (decide (¬q)))) w:=by
 rw[Zt hx];simp
end
end Go.Lg
namespace Go.Proofs.YtjcgijbhaemldaaGreatDoor
open Go.Lg
structure Vp where
 nm:ByteArray
 co:Bool
 ob:Bool
 fo:Bool
 fl:Int
structure Yk where
 nm:ByteArray
 a:QD
structure Exc where
 nm:ByteArray
 ls:List (Int×Int)
structure Ju where
 nm:ByteArray
 ts:List (Int×Int)
 bd:Int
structure Q7 where
 ev:List Vp
 co:List Yk
 rq:List Yk
 ex:List Exc
 cs:List Ju
def KB (n:Nat):LI:=(List.range n).map λi:Nat=>(i:Int)
def nmP (i c:Nat):Prop:=((97≤c∧c≤122)∨(65≤c∧c≤90)∨c=95)∨(i≠0∧48≤c∧c≤57)
instance (i c:Nat):Decidable (nmP i c):=by unfold nmP;infer_instance
def nmQ (s:ByteArray)(i:Nat):Bool:=decide (nmP i (chr s i))
def Xl (s:ByteArray):Bool:=(List.range' 0 s.size).all (nmQ s) && decide (0<s.size∧s.size≤32)
def XW (seen:List ByteArray)(e:Vp):Int:=if Xl e.nm=false then 7 else if e.nm∈seen then 8 else if e.fl<0∨4<e.fl then 2 else if e.fl≠0∧(e.co || e.ob)=true then 13 else 0
def U9:List ByteArray→List Vp→Int
 | _,[]=>0
 | seen,e::l=>if XW seen e≠0 then XW seen e else U9 (seen++[e.nm]) l
def Js (l:List Vp):Int:=if 32<l.length then 3 else U9 [] l
def ixs {α:Type}(q:α→Bool):Nat→List α→LI
 | _,[]=>[]
 | i,e::l=>if q e=true then(i:Int)::ixs q (i+1) l else ixs q (i+1) l
def unc (l:List Vp):LI:=ixs (λe=>!e.co) 0 l
def Yz (sz:LI):Option Int→List (Int×Int)→Int
 | _,[]=>0
 | pr,l::ls=>if l.1<0∨(sz.length:Int)≤l.1 then 2 else if zy pr l.1=true then 5 else if l.2<0∨cget sz l.1.toNat≤l.2 then 2 else Yz sz (some l.1) ls
def JI (sz:LI)(ls:List (Int×Int)):Int:=if ls.length=0 then 12 else Yz sz none ls
def grt (n:Int):Bool:=decide (n < -65536) || decide (65536<n)
def Xo (sz:LI):Option Int→List (Int×Int)→Int
 | _,[]=>0
 | pr,l::ls=>if l.1<0∨(sz.length:Int)≤l.1 then 2 else if zy pr l.1=true then 5 else if l.2=0∨grt l.2=true then 2 else Xo sz (some l.1) ls
def Xp (sz:LI)(k:Ju):Int:=if k.ts.length=0 then 12 else if Xo sz none k.ts≠0 then Xo sz none k.ts else if grt k.bd=true then 2 else 0
def KY (seen:List ByteArray)(s:ByteArray):Int:=if Xl s=false then 7 else if s∈seen then 8 else 0
def Yr (sz:LI):List ByteArray→List Exc→Int
 | _,[]=>0
 | seen,x::l=>if KY seen x.nm≠0 then KY seen x.nm else if JI sz x.ls≠0 then JI sz x.ls else Yr sz (seen++[x.nm]) l
def Y4 (sz:LI):List ByteArray→List Ju→Int
 | _,[]=>0
 | seen,x::l=>if KY seen x.nm≠0 then KY seen x.nm else if Xp sz x≠0 then Xp sz x else Y4 sz (seen++[x.nm]) l
def Kt (n:Int):Bool:=decide (n<1) || decide (4096<n)
def YN (sz:LI)(ex:List Exc)(cs:List Ju):Int:=if 8<sz.length then 3 else if sz.any Kt=true then 2 else if 32<ex.length∨32<cs.length then 3 else if Yr sz [] ex≠0 then Yr sz [] ex else Y4 sz [] cs
def mns (a b:LI):LI:=mrg (λp q=>p && !q) a b
def KR (a:QD):Bool:=decide (Xq a=0) && decide ((ZY a).st=a.st∧(ZY a).al=a.al∧(ZY a).mr=a.mr∧(ZY a).ed=a.ed)
def Yh (nev:Nat)(amg:LI)(seen:List ByteArray)(x:Yk):Int :=
 if Xl x.nm=false then 7 else if x.nm∈seen then 8 else if Xq x.a≠0 then Xq x.a else if KR x.a=false then 6 else if x.a.st=0 then 12 else
 if(x.a.al.any λe=>decide ((nev:Int)≤e))=true then 2 else if(mns x.a.al amg).length≠0 then 9 else 0
def Ym (nev:Nat)(al:LI):List ByteArray→LI→List Yk→Int×List ByteArray×LI
 | s,u,[]=>(0,s,u)
 | s,u,x::l=>if Yh nev al s x≠0 then(Yh nev al s x,s,u)else Ym nev al (s++[x.nm]) (mrg (· || ·) u x.a.al) l
def J4 (nev:Nat)(u:LI):List ByteArray→List Yk→Int
 | _,[]=>0
 | s,x::l=>if Yh nev u s x≠0 then Yh nev u s x else J4 nev u (s++[x.nm]) l
def szs (l:List Yk):LI:=l.map (·.a.st)
def auts (l:List Yk):List QD:=l.map (·.a)
def Zi (c:Q7):Int :=
 if Js c.ev≠0 then Js c.ev else if c.co.length=0 then 12 else if 8<c.co.length∨12<c.co.length+c.rq.length then 3 else
 if(Ym c.ev.length (KB c.ev.length) [] [] c.co).1≠0 then(Ym c.ev.length (KB c.ev.length) [] [] c.co).1 else
 if J4 c.ev.length (Ym c.ev.length (KB c.ev.length) [] [] c.co).2.2 (Ym c.ev.length (KB c.ev.length) [] [] c.co).2.1 c.rq≠0 then J4 c.ev.length (Ym c.ev.length (KB c.ev.length) [] [] c.co).2.2 (Ym c.ev.length (KB c.ev.length) [] [] c.co).2.1 c.rq else
 YN (szs c.co) c.ex c.cs
def JT (t:LI)(x:Exc):Bool:=x.ls.all λl=>decide (t.getD l.1.toNat 0=l.2)
def QnC (t:LI)(k:Ju):Int:=k.ts.foldl (λs p=>s+p.2*t.getD p.1.toNat 0) 0
def Kv (t:LI)(k:Ju):Bool:=decide (k.bd<QnC t k)
def fix {α:Type}(q:α→Bool):Nat→List α→Int
 | _,[]=>-1
 | i,e::l=>if q e=true then(i:Int)else fix q (i+1) l
def vio (c:Q7)(t:LI):Option (Int×Int):=
 if 0≤fix (JT t) 0 c.ex then some (1,fix (JT t) 0 c.ex)else if 0≤fix (Kv t) 0 c.cs then some (2,fix (Kv t) 0 c.cs)else none
def rfr (v:Int):Nat→List Yk→LI→Int
 | i,x::l,s::ss=>if v∈x.a.al∧(eget x.a.ed s v).isSome=false then(i:Int)else rfr v (i+1) l ss
 | _,_,_=>-1
structure Rsn where
 st:Int
 kd:Int
 ix:Int
 ev:Int
def rfd (c:Q7)(rs:LI):LI→Option (Int×Int)
 | []=>none
 | v::l=>if 0≤rfr v 0 c.rq rs∧(c.ev.getD v.toNat ⟨.empty,false,false,false,0⟩).co=false then some (rfr v 0 c.rq rs,v)else rfd c rs l
def qn (a:QD)(s:Int):LI:=(Zu a.ed s).map (·.2.1)
def rsn (c:Q7)(pl:QD)(plc:Int)(i:Nat)(t:LI):Option Rsn :=
 match vio c (t.take c.co.length)with
 | some (k,j)=>some ⟨i,k,j,-1⟩
 | none=>match rfd c (t.drop c.co.length) (qn pl plc)with
  | some (j,v)=>some ⟨i,3,j,v⟩
  | none=>none
structure Spc where
 a:QD
 co:List (LI)
 rq:List (LI)
 pl:LI
 fb:List Rsn
def plx (ps:List (LI))(t:LI):Int:=if t∈ps then(ps.idxOf t:Int)else 0
def QnF (c:Q7)(pl:QD)(ps:List (LI))(s:Spc)(p:LI×Nat):Spc :=
 ⟨s.a,s.co++[p.1.take c.co.length],s.rq++[p.1.drop c.co.length],s.pl++[plx ps (p.1.take c.co.length)],
  match rsn c pl (plx ps (p.1.take c.co.length)) p.2 p.1 with|some r=>s.fb++[r]|none=>s.fb⟩
def Xa (c:Q7):Int:=if Zi c≠0 then Zi c else if X9 (auts c.co)≠0 then X9 (auts c.co)else match sync (auts c.co)with
 | none=>3
 | some _=>if X9 (auts c.co++auts c.rq)≠0 then X9 (auts c.co++auts c.rq)else match sync (auts c.co++auts c.rq)with
  | none=>3
  | some _=>0
def yI (l:List QD):QD:=match sync l with|none=>⟨[],0,[],[]⟩|some z=>z.1
def Jo (l:List QD):List (LI):=match sync l with|none=>[]|some z=>z.2
def spc (c:Q7):Spc:=(Jo (auts c.co++auts c.rq)).zipIdx.foldl (QnF c (yI (auts c.co)) (Jo (auts c.co))) ⟨yI (auts c.co++auts c.rq),[],[],[],[]⟩
abbrev Lf:=List Bool
def lft (l:Lf)(s:Int):Bool:=l.getD s.toNat false
def cut (l:Lf)(s:Int):Lf:=l.set s.toNat false
def X1 (ul:LI)(lf:Lf)(out:List (Int×Int))(e:Ed):List (Int×Int):=
 if lft lf e.1=false∨lft lf e.2.2=true∨e.2.1∉ul then out else if out.getLast?.map (·.1)=some e.1 then out else out++[(e.1,e.2.1)]
def lost (a:QD)(ul:LI)(lf:Lf):List (Int×Int):=a.ed.foldl (X1 ul lf) []
def KW (lf:Lf)(x:Int)(z:LI×LI)(y:Int):LI×LI:=if lft lf y=true∧cget z.1 y.toNat<0 then(z.1.set y.toNat (cget z.1 x.toNat+1),z.2++[y])else z
def qJ (es:List Ed)(lf:Lf):Nat→Nat→LI×LI→LI×LI
 | 0,_,z=>z
 | f+1,i,z=>if i<z.2.length then qJ es lf f (i+1) ((ZC es (cget z.2 i).toNat).foldl (KW lf (cget z.2 i)) z)else z
def ds1 (lf:Lf)(z:LI×LI)(x:Int):LI×LI:=if lft lf x=true then(z.1.set x.toNat 0,z.2++[x])else z
def jG (a:QD)(lf:Lf):LI×LI:=a.mr.foldl (ds1 lf) (List.replicate a.st.toNat (-1),[])
def dsts (a:QD)(lf:Lf):LI:=(qJ a.ed lf a.st.toNat 0 (jG a lf)).1
def Jn (lf:Lf):Nat→LI→LI
 | _,[]=>[]
 | i,d::l=>if lf.getD i false=true∧d<0 then(i:Int)::Jn lf (i+1) l else Jn lf (i+1) l
def nxs (a:QD)(ul:LI)(lf:Lf):LI:=if(lost a ul lf).length≠0 then(lost a ul lf).map (·.1)else Jn lf 0 (dsts a lf)
def Kx (a:QD)(ul:LI):Nat→Lf→Lf
 | 0,lf=>lf
 | f+1,lf=>if(nxs a ul lf).length=0 then lf else Kx a ul f ((nxs a ul lf).foldl cut lf)
def lf0 (n:Nat)(fb:LI):Lf:=fb.foldl cut (List.replicate n true)
def Xj (a:QD)(fb ul:LI):Lf:=Kx a ul (a.st.toNat+1) (lf0 a.st.toNat fb)
def rstr (a:QD)(lf:Lf):QD:=⟨a.al,a.st,a.mr,a.ed.filter λe=>lft lf e.2.2⟩
def JU (a:QD)(lf:Lf):QD:=if a.st=0∨lft lf 0=false then⟨a.al,0,[],[]⟩else ZY (rstr a lf)
def VX (a:QD)(fb ul:LI):Int:=if Xq a≠0 then Xq a else if YM a.st none fb≠0 then YM a.st none fb else YM 32 none ul
def Jp (a:QD)(fb ul:LI):QD:=JU a (Xj a fb ul)
def fbs (s:Spc):LI:=s.fb.map (·.st)
def suE (c:Q7):Int:=Xa c
def J7 (c:Q7):QD:=Jp (spc c).a (fbs (spc c)) (unc c.ev)
def orB (b:Nat)(k:Nat):Nat:=b ||| (1 <<< k)
def rqB (x:Yk):Nat→Nat→List Yk→Nat
 | _,b,[]=>b
 | k,b,y::l=>rqB x (k+1) (if(y.a.al.any λe=>decide (e∈x.a.al))=true then orB b k else b) l
def yM (ls:List (Int×Int)):Nat:=ls.foldl (λb l=>orB b l.1.toNat) 0
def srR (c:Q7):LN:=c.rq.map λx=>rqB x 0 0 c.co
def srX (c:Q7):LN:=c.ex.map λx=>yM x.ls
def srC (c:Q7):LN:=c.cs.map λx=>yM x.ts
def srK (c:Q7)(k:Int):LN:=if k=1 then srR c else if k=2 then srX c else srC c
structure YW where
 kd:Int
 ix:Int
 co:LI
def Jq (k:Int):Nat→LN→List YW
 | _,[]=>[]
 | i,b::l=>⟨k,i,setK b 8⟩::Jq k (i+1) l
def mods (c:Q7):List YW:=Jq 1 0 (srR c)++(Jq 2 0 (srX c)++Jq 3 0 (srC c))
def sets (c:Q7):LN:=srR c++(srX c++srC c)
def Qam (c:Q7):Nat:=(sets c).foldl (λl b=>l &&& (65535 ^^^ b)) (2 ^ c.co.length - 1)
def rem (c:Q7):LI:=setK (Qam c) 8
def mdE (c:Q7)(m:YW):Int:=if Zi c≠0 then Zi c else if m.kd<1∨3<m.kd then 11 else if m.ix<0∨((srK c m.kd).length:Int)≤m.ix then 10 else if m.co=setK ((srK c m.kd).getD m.ix.toNat 0) 8 then 0 else 13
structure Prt where
 co:LI
 rq:LI
 ex:LI
 cs:LI
def chs (l:List Yk)(ix:LI):List Yk:=ix.map λi=>l.getD i.toNat ⟨.empty,⟨[],0,[],[]⟩⟩
def ixP (co:LI)(ls:List (Int×Int)):List (Int×Int):=ls.map λl=>((co.idxOf l.1:Int),l.2)
def mis (co:LI)(ls:List (Int×Int)):Bool:=ls.any λl=>decide (l.1∉co)
def QkX (c:Q7)(p:Prt):List Exc:=p.ex.map λi=>⟨(c.ex.getD i.toNat ⟨.empty,[]⟩).nm,ixP p.co (c.ex.getD i.toNat ⟨.empty,[]⟩).ls⟩
def QkZ (c:Q7)(p:Prt):List Ju:=p.cs.map λi=>⟨(c.cs.getD i.toNat ⟨.empty,[],0⟩).nm,ixP p.co (c.cs.getD i.toNat ⟨.empty,[],0⟩).ts,(c.cs.getD i.toNat ⟨.empty,[],0⟩).bd⟩
def Qf8 (c:Q7)(p:Prt):Q7:=⟨c.ev,chs c.co p.co,chs c.rq p.rq,QkX c p,QkZ c p⟩
def QhC (c:Q7)(p:Prt):Bool:=(p.ex.any λi=>mis p.co (c.ex.getD i.toNat ⟨.empty,[]⟩).ls) || (p.cs.any λi=>mis p.co (c.cs.getD i.toNat ⟨.empty,[],0⟩).ts)
def qZ (c:Q7)(p:Prt):Int :=
 if Zi c≠0 then Zi c else if YM c.co.length none p.co≠0 then YM c.co.length none p.co else if YM c.rq.length none p.rq≠0 then YM c.rq.length none p.rq else
 if YM c.ex.length none p.ex≠0 then YM c.ex.length none p.ex else if YM c.cs.length none p.cs≠0 then YM c.cs.length none p.cs else if QhC c p=true then 13 else Zi (Qf8 c p)
def prt (m:YW):Prt:=⟨m.co,if m.kd=1 then[m.ix]else[],if m.kd=2 then[m.ix]else[],if m.kd≠1∧m.kd≠2 then[m.ix]else[]⟩
def mcE (c:Q7)(m:YW):Int:=if mdE c m≠0 then mdE c m else qZ c (prt m)
def Xb (c:Q7)(m:YW):Q7:=Qf8 c (prt m)
def yD (c:Q7)(m:YW):Int:=if mcE c m≠0 then mcE c m else suE (Xb c m)
def ql (c:Q7)(m:YW):QD:=J7 (Xb c m)
def msL (c:Q7):List YW→Int
 | []=>0
 | m::l=>if yD c m≠0 then yD c m else msL c l
def KH (c:Q7):Int:=if Zi c≠0 then Zi c else msL c (mods c)
def ZA (c:Q7):List QD:=(mods c).map (ql c)++(rem c).map λi=>(c.co.getD i.toNat ⟨.empty,⟨[],0,[],[]⟩⟩).a
def XB (l:List QD):Int:=if X9 l≠0 then X9 l else match sync l with|none=>3|some _=>0
def JK (c:Q7):Int:=if KH c≠0 then KH c else XB (ZA c)
def Xc (c:Q7):QD:=yI (ZA c)
def qO (c:Q7):List (LI):=Jo (ZA c)
def ownr (c:Q7)(v:Int):LI:=ixs (λx:Yk=>decide (v∈x.a.al)) 0 c.co
def shd (c:Q7):LI→Option (Int×Int×Int)
 | []=>none
 | v::l=>if 2≤(ownr c v).length then some (v,cget (ownr c v) 0,cget (ownr c v) 1)else shd c l
def qY (c:Q7):Option (Int×Int×Int):=shd c (KB c.ev.length)
theorem QoG (lf:Lf)(x:Int)(z:LI×LI)(y:Int):KW lf x z y=if lft lf y=true then VU x z y else z:=by
 unfold KW VU;by_cases h:lft lf y=true <;> by_cases h2:cget z.1 y.toNat<0 <;> simp[h,h2]
structure DsI (n:Nat)(z:LI×LI):Prop where
 ok:yz n z.1 z.2
 cnt:neg z.1+z.2.length=n
 s0:Qc2 z.1 z.2
theorem DsI.le {n:Nat}{z:LI×LI}(h:DsI n z):z.2.length≤n:=by have:=h.cnt;omega
theorem Qjy {n:Nat}{lf:Lf}{x y:Int}{z:LI×LI}(h:DsI n z)(hx:0≤x∧x<(n:Int))(E:0≤cget z.1 x.toNat)(hy:0≤y∧y<(n:Int)):
  DsI n (KW lf x z y)∧0≤cget (KW lf x z y).1 x.toNat:=by
 rw[QoG];split
 ·obtain⟨h1,h2,h3⟩:=Qd7 h.ok hx E hy;exact⟨⟨h1,by have:=h.cnt;omega,yi h.ok E hy h.s0⟩,h3⟩
 exact⟨h,E⟩
theorem Qmo (lf:Lf)(x:Int)(z:LI×LI)(y:Int):∃r,(KW lf x z y).2=z.2++r:=by
 unfold KW;split
 ·exact⟨[y],O⟩
 exact⟨[],by simp⟩
theorem Qfz {n:Nat}{lf:Lf}{x:Int}(hx:0≤x∧x<(n:Int)):∀(l:LI) (z:LI×LI),DsI n z→0≤cget z.1 x.toNat→(∀y∈l,0≤y∧y<(n:Int)) →
  DsI n (l.foldl (KW lf x) z)∧∃r,(l.foldl (KW lf x) z).2=z.2++r
 | [],z,h,_,_=>⟨h,[],by simp⟩
 | y::l,z,h,E,hl=>by
  obtain⟨h1,h2⟩:=Qjy (lf:=lf) h hx E (hl y Lm);obtain⟨h3,r2,h4⟩:=Qfz hx l _ h1 h2 (λy hy=>hl y (Lk _ hy));obtain⟨G,h5⟩:=Qmo lf x z y;exact⟨h3,G++r2,by rw[LM,h4,h5,LA]⟩
theorem Qjw {es:List Ed}{lf:Lf}{f i:Nat}{z:LI×LI}(h:¬i<z.2.length):qJ es lf f i z=z:=by
 cases f with
 | zero=>rfl
 | succ f=>rw[qJ,if_neg h]
theorem QfP {n:Nat}{l:LI}{x:Int}(E:0≤x):(Vm n l).set x.toNat 0=Vm n (l++[x]):=by
 apply LT
 ·simp[Vm]
 intro i h2 h3;rw[MY];by_cases e:x.toNat=i
 ·have:(i:Int)=x:=by omega
  rw[if_pos e];simp[Vm,this]
 have:(i:Int)≠x:=by omega
 rw[if_neg e];simp[Vm,this]
theorem Qcw {a:QD}{lf:Lf}(hm:∀x∈a.mr,0≤x)(k:Nat):(a.mr.take k).foldl (ds1 lf) (List.replicate a.st.toNat (-1),[])=(Vm a.st.toNat ((a.mr.take k).filter (lft lf)),(a.mr.take k).filter (lft lf)):=by
 induction k with
 | zero =>
  simp only[List.take_zero,List.foldl_nil,List.filter_nil];congr 1;apply LT
  ·simp[Vm]
  intro i h1 h2;simp[Vm]
 | succ k ih =>
  by_cases hk:k<a.mr.length
  ·rw[Li hk,Mh,ih,L8];simp only[List.foldl_cons,List.foldl_nil,ds1];by_cases hl:lft lf (a.mr[k]'hk)=true
   ·rw[if_pos hl,QfP (hm _ (Lc hk))];simp[hl]
   rw[if_neg hl];simp[hl]
  have e:a.mr.take (k+1)=a.mr.take k:=by rw[Lp (by omega),Lp (by omega)]
  rw[e];exact ih
theorem UT {a:QD}{lf:Lf}(hm:∀x∈a.mr,0≤x):jG a lf=(Vm a.st.toNat (a.mr.filter (lft lf)),a.mr.filter (lft lf)):=by
 have:=Qcw (lf:=lf) hm a.mr.length;rw[Ns]at this;exact this
theorem Qlm {n:Nat}(l:LI)(E:l.Nodup)(hb:∀x∈l,0≤x∧x<(n:Int)):neg (Vm n l)+l.length=n:=by
 have key:∀k,k≤l.length→neg (Vm n (l.take k))+k=n:=by
  intro k;induction k with
  | zero =>
   intro _;have e:Vm n (l.take 0)=List.replicate n (-1):=by
    apply LT
    ·simp[Vm]
    intro i h1 h2;simp[Vm]
   rw[e];unfold neg;simp
  | succ k ih =>
   intro hk;have h1:=ih (by omega);have hx:=hb _ (Lc (show k<l.length by omega));rw[Li (show k<l.length by omega),←QfP hx.1];have G:(l[k]'(by omega)).toNat<(Vm n (l.take k)).length:=by rw[YK];omega
   have J:=V2 (Vm n (l.take k)) (l[k]'(by omega)).toNat 0 G (by
    have e:(((l[k]'(by omega)).toNat:Nat):Int)=l[k]'(by omega):=by omega
    have H:(l[k]'(by omega))∉l.take k:=λh=>by
     obtain⟨j,hj,he⟩:=LB h;rw[Nb]at he;have I:j<k:=by simp at hj;omega
     have:=(MN.1 E) j k (by omega) (by omega) I;exact this he
    simp[Vm,e,H]) (MH _)
   omega
 have:=key l.length (Lu _)
 rwa [Ns]at this
theorem QjA {a:QD}{lf:Lf}{n:Nat}(E:QO a)(G:a.st=(n:Int)):DsI n (jG a lf):=by
 have hb:∀x∈a.mr.filter (lft lf),0≤x∧x<(n:Int):=λx hx=>by rw[←G];exact E.mr x (LJ.1 hx).1
 have e:a.st.toNat=n:=by omega
 rw[UT (λx hx=>(E.mr x hx).1),e];refine⟨Qd8 hb,Qlm _ ((E.mri.imp (λh=>by omega)).filter _) hb,λx hx=>?_⟩;rw[qK (hb x hx) hx];exact MH _
def KX (l:Lf):Nat:=l.countP (· == true)
theorem Qa3 (l:Lf):KX l≤l.length:=List.countP_le_length
theorem QfB (l:Lf)(s:Int):(cut l s).length=l.length:=by simp[cut]
theorem Up:∀(xs:LI) (l:Lf),(xs.foldl cut l).length=l.length
 | [],_=>rfl
 | x::xs,l=>by rw[LM,Up xs,QfB]
theorem QfC:∀(l:Lf) (i:Nat),KX (l.set i false)+(if l.getD i false=true then 1 else 0)=KX l
 | [],i=>by simp[KX]
 | b::l,0=>by cases b <;> simp[KX]
 | b::l,i+1=>by
  have ih:=QfC l i;unfold KX at *;simp only[List.set_cons_succ,List.countP_cons,List.getD_cons_succ];omega
theorem QfD (l:Lf)(s:Int):KX (cut l s)+(if lft l s=true then 1 else 0)=KX l:=QfC l s.toNat
theorem Qcz:∀(xs:LI) (l:Lf),KX (xs.foldl cut l)≤KX l
 | [],_=>Lu _
 | x::xs,l=>by
  have h1:=Qcz xs (cut l x);have h2:=QfD l x;rw[LM];omega
theorem QjF {xs:LI}{l:Lf}(h:0<xs.length)(E:∀x∈xs,lft l x=true):KX (xs.foldl cut l)<KX l:=by
 cases xs with
 | nil=>simp at h
 | cons x xs =>
  have h1:=Qcz xs (cut l x);have h2:=QfD l x;rw[if_pos (E x Lm)]at h2;rw[LM];omega
def Qkh (a:QD)(lf:Lf)(out:List (Int×Int)):Prop:=∀p∈out,lft lf p.1=true∧∃e∈a.ed,e.1=p.1∧e.2.1=p.2
theorem Qly {a:QD}{ul:LI}{lf:Lf}{out:List (Int×Int)}{e:Ed}(h:Qkh a lf out)(he:e∈a.ed):Qkh a lf (X1 ul lf out e)∧(X1 ul lf out e).length≤out.length+1:=by
 unfold X1;split
 ·exact⟨h,by omega⟩
 rename_i hc;split
 ·exact⟨h,by omega⟩
 refine⟨λp hp=>?_,by simp⟩;simp only[List.mem_append,List.mem_singleton]at hp;rcases hp with hp|rfl
 ·exact h p hp
 exact⟨by cases hl:lft lf e.1 with|true=>rfl|false=>exact absurd (.inl hl) hc,e,he,rfl,rfl⟩
theorem zt {a:QD}{ul:LI}{lf:Lf}:∀(l:List Ed) (out:List (Int×Int)),(∀e∈l,e∈a.ed)→Qkh a lf out→Qkh a lf (l.foldl (X1 ul lf) out)∧(l.foldl (X1 ul lf) out).length≤out.length+l.length
 | [],out,_,h=>⟨h,by simp⟩
 | e::l,out,hl,h=>by
  obtain⟨h1,h2⟩:=Qly (ul:=ul) h (hl e Lm);obtain⟨h3,h4⟩:=zt l _ (λe he=>hl e (Lk _ he)) h1;exact⟨h3,by rw[LM,LF];omega⟩
theorem QaG (a:QD)(ul:LI)(lf:Lf):Qkh a lf (lost a ul lf)∧(lost a ul lf).length≤a.ed.length:=by
 have:=zt (ul:=ul) (lf:=lf) a.ed [] (λ_ h=>h) (λp hp=>by cases hp);unfold lost;simpa using this
theorem Uu (lf:Lf):∀(l:LI) (i:Nat),(∀x∈Jn lf i l,lft lf x=true∧(i:Int)≤x∧x<(i:Int)+l.length)∧(Jn lf i l).length≤l.length
 | [],i=>⟨λx hx=>(by cases hx),Lu _⟩
 | d::l,i=>by
  obtain⟨h1,h2⟩:=Uu lf l (i+1);unfold Jn;split
  ·rename_i hc;refine⟨λx hx=>?_,by simp;omega⟩;rcases Le.1 hx with rfl|hx
   ·exact⟨by unfold lft;simpa using hc.1,MH _,by simp;omega⟩
   have:=h1 x hx;exact⟨this.1,by omega,by simp only[List.length_cons];omega⟩
  refine⟨λx hx=>?_,by simp;omega⟩;have:=h1 x hx;exact⟨this.1,by omega,by simp only[List.length_cons];omega⟩
theorem Qib {a:QD}{ul:LI}{lf:Lf}(x:Int)(hx:x∈nxs a ul lf):lft lf x=true:=by
 unfold nxs at hx;split at hx
 ·obtain⟨p,hp,rfl⟩:=Lq.1 hx;exact((QaG a ul lf).1 p hp).1
 exact((Uu lf (dsts a lf) 0).1 x hx).1
theorem Qgc {a:QD}{ul:LI}{f:Nat}{lf:Lf}(h:(nxs a ul lf).length=0):Kx a ul f lf=lf:=by
 cases f with
 | zero=>rfl
 | succ f=>rw[Kx,if_pos h]
theorem UF {a:QD}{ul:LI}{f:Nat}{lf:Lf}(h:(nxs a ul lf).length≠0):Kx a ul (f+1) lf=Kx a ul f ((nxs a ul lf).foldl cut lf):=by rw[Kx,if_neg h]
theorem zn {a:QD}{ul:LI}{lf:Lf}(h:(nxs a ul lf).length≠0):KX ((nxs a ul lf).foldl cut lf)<KX lf:=QjF (by omega) (λx hx=>Qib x hx)
theorem X4 {a:QD}(h:QO a)(lf:Lf):QO (rstr a lf):=
 ⟨h.al,h.ali,h.st0,h.st1,h.mr,h.mri,λe he=>h.ed e (LJ.1 he).1,h.edi.filter _⟩
theorem Qm6 {a:QD}{ul:LI}:∀(f:Nat) (lf:Lf),KX lf<f→(nxs a ul (Kx a ul f lf)).length=0
 | 0,_,h=>by omega
 | f+1,lf,h=>by
  by_cases h1:(nxs a ul lf).length=0
  ·rw[Kx,if_pos h1];exact h1
  rw[UF h1];have:=zn h1;exact Qm6 f _ (by omega)
theorem QhE (a:QD)(fb ul:LI):(nxs a ul (Xj a fb ul)).length=0:=by
 refine Qm6 _ _ ?_;have h:=Qa3 (lf0 a.st.toNat fb);have:(lf0 a.st.toNat fb).length=a.st.toNat:=by unfold lf0;rw[Up,Nj]
 omega
theorem QlF {l:Lf}{x s:Int}(h:lft (cut l x) s=true):lft l s=true∧x.toNat≠s.toNat:=by
 unfold lft cut at *;rw[LD,List.getElem?_set]at h;by_cases e:x.toNat=s.toNat
 ·rw[if_pos e]at h;split at h <;> simp at h
 rw[if_neg e,←LD]at h;exact⟨h,e⟩
theorem zw {s:Int}:∀(xs:LI) (l:Lf),lft (xs.foldl cut l) s=true→lft l s=true∧∀x∈xs,x.toNat≠s.toNat
 | [],l,h=>⟨h,λx hx=>(by cases hx)⟩
 | x::xs,l,h=>by
  obtain⟨h1,h2⟩:=zw xs (cut l x) h;obtain⟨h3,h4⟩:=QlF h1;refine⟨h3,λy hy=>?_⟩;rcases Le.1 hy with e|hy
  ·rw[e];exact h4
  exact h2 y hy
theorem Qfa {a:QD}{ul:LI}{s:Int}:∀(f:Nat) (l:Lf),lft (Kx a ul f l) s=true→lft l s=true
 | 0,l,h=>h
 | f+1,l,h=>by
  rw[Kx]at h;split at h
  ·exact h
  exact(zw _ _ (Qfa f _ h)).1
theorem Qob {a:QD}{fb ul:LI}{s:Int}(h:lft (Xj a fb ul) s=true):∀x∈fb,x.toNat≠s.toNat:=(zw fb _ (Qfa _ _ h)).2
theorem Qlz {ul:LI}{lf:Lf}{e:Ed}{out:List (Int×Int)}(h:out≠[]):X1 ul lf out e≠[]:=by
 unfold X1;split
 ·exact h
 split
 ·exact h
 simp
theorem Qb5 {ul:LI}{lf:Lf}:∀(l:List Ed) {out:List (Int×Int)},out≠[]→l.foldl (X1 ul lf) out≠[]
 | [],_,h=>h
 | _::l,_,h=>Qb5 l (Qlz h)
theorem Qb6 {ul:LI}{lf:Lf}{e:Ed}(h1:lft lf e.1=true)(h2:lft lf e.2.2=false)(h3:e.2.1∈ul):∀(l:List Ed) (out:List (Int×Int)),e∈l→l.foldl (X1 ul lf) out≠[]
 | x::l,out,h=>by
  rcases Le.1 h with e1|h
  ·subst e1;refine Qb5 l ?_;unfold X1;rw[if_neg (by rw[h1,h2];simp[h3])];split
   ·rename_i h4;intro h5;rw[h5]at h4;cases h4
   simp
  exact Qb6 h1 h2 h3 l _ h
theorem QlH {a:QD}{fb ul:LI}{e:Ed}(he:e∈a.ed)(h1:lft (Xj a fb ul) e.1=true)(h3:e.2.1∈ul):lft (Xj a fb ul) e.2.2=true:=by
 have E:=QhE a fb ul;cases h2:lft (Xj a fb ul) e.2.2 with
 | true=>rfl
 | false =>
  have h4:lost a ul (Xj a fb ul)≠[]:=Qb6 h1 h2 h3 a.ed [] he;have h5:(lost a ul (Xj a fb ul)).length≠0:=λh=>h4 (Lr h);unfold nxs at E;rw[if_pos h5,Lh]at E;exact absurd E h5
def pst (v:Int)(a:QD)(x:Int):Option Int:=if v∈a.al then eget a.ed x v else some x
theorem qS (v:Int)(a:QD)(aa:List QD)(x:Int)(t:LI):Za v (a::aa) (x::t)=(pst v a x).bind λy=>(Za v aa t).map (y::·):=by
 rw[Za];unfold pst;by_cases h:v∈a.al
 ·rw[if_neg (not_not_intro h),if_pos h];cases eget a.ed x v <;> rfl
 rw[if_pos h,if_neg h];rfl
theorem Yf (v:Int):∀(aa:List QD) (t u:LI),t.length=aa.length→(Za v aa t=some u↔u.length=aa.length∧∀i (h:i<aa.length),pst v (aa[i]'h) (cget t i)=some (cget u i))
 | [],[],u,_=>by
  show some []=some u↔_;constructor
  ·intro h;rw[←Option.some.inj h];exact⟨O,λi h=>absurd h (Me i)⟩
  rintro⟨h,_⟩;rw[Lr h]
 | a::aa,x::t,u,hl=>by
  have G:t.length=aa.length:=by simpa using hl
  rw[qS];constructor
  ·intro h;obtain⟨y,h1,h2⟩:=Mc.1 h;obtain⟨E,h3,h4⟩:=L4.1 h2;subst h4;obtain⟨h5,h6⟩:=(Yf v aa t E G).1 h3;refine⟨by simp[h5],λi hi=>?_⟩;cases i with
   | zero=>exact h1
   | succ i=>exact h6 i (by simpa using hi)
  rintro⟨h1,h2⟩;cases u with
  | nil=>simp at h1
  | cons y E =>
   have h3:=h2 0 (by simp);have h4:Za v aa t=some E:=(Yf v aa t E G).2 ⟨by simpa using h1,λi hi=>h2 (i+1) (by simpa using hi)⟩;have h5:pst v a x=some y:=h3;rw[h5,h4];rfl
theorem VC {v:Int}:∀{aa:List QD}{t:LI},t.length=aa.length→(∀i (h:i<aa.length),(pst v (aa[i]'h) (cget t i)).isSome=true)→∃u,Za v aa t=some u
 | [],[],_,_=>⟨[],O⟩
 | a::aa,x::t,hl,h=>by
  obtain⟨u,hu⟩:=VC (v:=v) (aa:=aa) (t:=t) (by simpa using hl) (λi hi=>h (i+1) (by simpa using hi));obtain⟨y,hy⟩:=Mk.1 (h 0 (by simp));have E:pst v a x=some y:=hy;exact⟨y::u,by rw[qS,E,hu];rfl⟩
def nx (v:Int)(A:Nat→QD)(x:Nat→Int)(i:Nat):Int:=(pst v (A i) (x i)).getD 0
theorem QaC {v:Int}{A:Nat→QD}{x:Nat→Int}{i:Nat}(h:(pst v (A i) (x i)).isSome=true):pst v (A i) (x i)=some (nx v A x i):=by
 obtain⟨y,hy⟩:=Mk.1 h;unfold nx;rw[hy];rfl
theorem ye {α:Type}{l:List α}{f:α→Int}{i:Nat}(h:i<l.length):cget (l.map f) i=f (l[i]'h):=by
 unfold cget;simp[List.getD,h]
theorem Vb {v:Int}{A:Nat→QD}{x:Nat→Int}{is:LN}{u:LI}(h:Za v (is.map A) (is.map x)=some u):u=is.map (nx v A x)∧∀i∈is,(pst v (A i) (x i)).isSome=true:=by
 obtain⟨h1,h2⟩:=(Yf v _ _ u (by simp)).1 h;rw[Lh]at h1;have h3:∀k (hk:k<is.length),pst v (A (is[k]'hk)) (x (is[k]'hk))=some (cget u k):=λk hk=>by
  have h4:=h2 k (by simpa using hk);rw[ye hk,LK]at h4;exact h4
 have h5:∀i∈is,(pst v (A i) (x i)).isSome=true:=λi hi=>by
  obtain⟨k,hk,e⟩:=LB hi;rw[←e,h3 k hk];rfl
 refine⟨LT (by simp[h1]) λk k1 k2=>?_,h5⟩;have hk:k<is.length:=by omega
 have h6:=h3 k hk;rw[QaC (h5 _ (Lc hk))]at h6;rw[LK,Q8 k1];exact(Option.some.inj h6).symm
theorem Je {v:Int}{A:Nat→QD}{x:Nat→Int}{is:LN}(h:∀i∈is,(pst v (A i) (x i)).isSome=true):Za v (is.map A) (is.map x)=some (is.map (nx v A x)):=by
 refine(Yf v _ _ _ (by simp)).2 ⟨by simp,λk hk=>?_⟩;have E:k<is.length:=by simpa using hk
 rw[ye E,ye E,LK];exact QaC (h _ (Lc E))
theorem VD {v:Int}{aa:List QD}{t:LI}(hl:t.length=aa.length)(E:∀a∈aa,v∉a.al):Za v aa t=some t:=by
 refine(Yf v _ _ _ hl).2 ⟨hl,λk hk=>?_⟩;unfold pst;rw[if_neg (E _ (Lc hk))]
theorem QnT {v:Int}{a:QD}(E:QO a){x y:Int}(G:0≤x∧x<a.st)(h:pst v a x=some y):0≤y∧y<a.st:=by
 unfold pst at h;split at h
 ·exact(E.ed _ (Z0 h)).2.2.2
 rw[←Option.some.inj h];exact G
theorem Yp {l:List (LI)}{s:Nat}(h:s<l.length):l.getD s []=l[s]'h∧l.getD s []∈l:=by
 have e:l.getD s []=l[s]'h:=by simp[List.getD,h]
 exact⟨e,by rw[e];exact Lc h⟩
theorem QeZ {α:Type}{l:List α}(E:l.Nodup){i j:Nat}(hi:i<l.length)(hj:j<l.length)(e:l[i]'hi=l[j]'hj):i=j:=by
 have h:=MN.1 E;rcases Nat.lt_trichotomy i j with h1|h1|h1
 ·exact absurd e (h i j hi hj h1)
 ·exact h1
 exact absurd e.symm (h j i hj hi h1)
def sord (B:QD)(lf:Lf):LI:=(Qgx (rstr B lf)).ord
def yu (B:QD)(Q:List (LI))(lf:Lf)(q:LI)(y:Int):Prop :=
 ∃j s:Nat,y=(j:Int)∧j<(sord B lf).length∧Zq (sord B lf) j=(s:Int)∧s<Q.length∧lft lf s=true∧Q.getD s []=q
theorem VB {B:QD}(E:QO B)(hp:0<B.st)(lf:Lf):CnP (rstr B lf) (sord B lf):=(QoJ (X4 E lf) hp).1
theorem yu.uniq {aa:List QD}{B:QD}{Q:List (LI)}{lf:Lf}(hS:yV aa B Q)(I:QO B)(hp:0<B.st){q:LI}{y E:Int}(h:yu B Q lf q y)(h':yu B Q lf q E):y=E:=by
 obtain⟨j,s,e0,h1,h2,h3,_,h4⟩:=h;obtain⟨J,U,V,G,Y,H,_,ha⟩:=h';have es:s=U:=QeZ hS.nd h3 H (by rw[←(Yp h3).1,←(Yp H).1,h4,ha]);subst es;have ej:j=J:=QeZ (VB I hp lf).nd h1 G (by
  rw[Q8 h1,Q8 G];exact h2.trans Y.symm)
 rw[e0,V,ej]
theorem yu.step {aa:List QD}{B:QD}{Q:List (LI)}{lf:Lf}(ha:∀a∈aa,QO a)(hS:yV aa B Q)(H:QO B)(hp:0<B.st){q:LI}{y I v:Int}(h:yu B Q lf q y)(G:pst v (ZY (rstr B lf)) y=some I):
  ∃E,Za v aa q=some E∧yu B Q lf E I:=by
 obtain⟨j,s,e0,h1,h2,h3,h4,h5⟩:=h;have hC:=VB H hp lf;have J:(ZY (rstr B lf)).al=evs aa:=hC.al.trans hS.al;unfold pst at G;by_cases hm:v∈(ZY (rstr B lf)).al
 ·have U:v∈evs aa:=by rw[←J];exact hm
  rw[if_pos hm,e0,hC.step h1 v,h2]at G;obtain⟨u,hu,e1⟩:=L4.1 G;have V:=Z0 hu;obtain⟨he,hf⟩:=LJ.1 (show((s:Int),v,u)∈B.ed.filter λe=>lft lf e.2.2 from V);have Y:=hS.step h3 v;rw[Un H.edi he,if_pos U,h5]at Y;obtain⟨E,hq,e2⟩:=L4.1 Y.symm;have hb:=hS.to h3 U (u:=E) (by rw[h5];exact hq)
  have hg:u∈sord B lf:=hC.cl j h1 ((s:Int),v,u) (by
   rw[h2];unfold Zu;exact LJ.2 ⟨V,decide_eq_true O⟩)
  have hc:=LS hg;refine⟨E,hq,(sord B lf).idxOf u,Q.idxOf E,e1.symm,hc,?_,hb.1,by rw[e2];exact hf,hb.2⟩;rw[e2];show cget (sord B lf) ((sord B lf).idxOf u)=u;rw[←Q8 hc,M5]
 rw[if_neg hm]at G;have hq:q∈Q:=by rw[←h5];exact(Yp h3).2
 exact⟨q,VD (hS.v q hq).1 (λa hh hi=>hm (by rw[J];exact(ZO ha v).2 ⟨a,hh,hi⟩)),j,s,by rw[←e0];exact(Option.some.inj G).symm,h1,h2,h3,h4,h5⟩
theorem yu.init {aa:List QD}{B:QD}{Q:List (LI)}{lf:Lf}(hS:yV aa B Q)(G:QO B)(hp:0<B.st)(H:lft lf 0=true):yu B Q lf (List.replicate aa.length 0) 0:=by
 have hC:=VB G hp lf;have E:0<Q.length:=by have:=hS.st;omega
 exact⟨0,0,O,hC.hd.2,hC.hd.1,E,H,hS.hd E⟩
theorem qP {B:QD}{fb ul:LI}(h:(Jp B fb ul).st≠0):B.st≠0∧lft (Xj B fb ul) 0=true∧Jp B fb ul=ZY (rstr B (Xj B fb ul)):=by
 unfold Jp JU at *;split at h
 ·exact absurd O h
 rename_i hc;rw[if_neg hc];refine⟨λe=>hc (.inl e),?_,O⟩;cases hl:lft (Xj B fb ul) 0 with
 | true=>rfl
 | false=>exact absurd (.inr hl) hc
theorem QkG {P:LI→Prop}{aa:List QD}{i:Nat}{t:LI}{v:Int}{z G:Sy}(h:syE aa i t z v=some G)(E:∀t∈z.tup,P t)(H:∀u,Za v aa t=some u→P u):∀t∈G.tup,P t:=by
 unfold syE at h;cases hs:Za v aa t with
 | none=>rw[hs]at h;rw[←Option.some.inj h];exact E
 | some u =>
  rw[hs]at h;simp only[]at h;split at h
  ·rw[←Option.some.inj h];exact E
  split at h
  ·cases h
  rw[←Option.some.inj h];intro t ht;rcases Lo.1 ht with ht|ht
  ·exact E t ht
  rw[Lb.1 ht];exact H u hs
theorem Qby {P:LI→Prop}{aa:List QD}{i:Nat}{t:LI}:∀(vs:LI) (z E:Sy),KG aa i t vs z=some E→(∀t∈z.tup,P t)→(∀v∈vs,∀u,Za v aa t=some u→P u)→∀t∈E.tup,P t
 | [],z,E,h,G,_=>by rw[←Option.some.inj (show some z=some E from h)];exact G
 | v::vs,z,E,h,G,H=>by
  rw[KG]at h;obtain⟨I,h1,h2⟩:=Mc.1 h;exact Qby vs I E h2 (QkG h1 G (H v Lm)) (λw J=>H w (Lk _ J))
theorem Qev {P:LI→Prop}{aa:List QD}(H:∀t,P t→∀v∈evs aa,∀u,Za v aa t=some u→P u):∀(f i:Nat) (z E:Sy),j7 aa f i z=some E→(∀t∈z.tup,P t)→∀t∈E.tup,P t
 | 0,_,z,E,h,G=>by rw[←Option.some.inj (show some z=some E from h)];exact G
 | f+1,i,z,E,h,G=>by
  rw[j7]at h;split at h
  ·rename_i hi;obtain⟨I,h1,h2⟩:=Mc.1 h;have J:(ZB aa i (UA z i) z).tup=z.tup:=by unfold ZB;split <;> rfl
   have hp:P (UA z i):=G _ (Yp hi).2;exact Qev H f (i+1) I E h2 (Qby _ _ _ h1 (by rw[J];exact G) (H _ hp))
  rw[←Option.some.inj h];exact G
theorem Qbt {P:LI→Prop}{aa:List QD}{z:QD×List (LI)}(h:sync aa=some z)(E:P (List.replicate aa.length 0))(G:∀t,P t→∀v∈evs aa,∀u,Za v aa t=some u→P u):∀t∈z.2,P t:=by
 unfold sync at h;split at h
 ·rw[←Option.some.inj h];intro t ht;cases ht
 obtain⟨s,h1,h2⟩:=L4.1 h;rw[←h2];exact Qev G _ _ _ _ h1 (λt ht=>by rw[Lb.1 ht];exact E)
abbrev Zb (p:Int×Int):LV:=[.int .i64 p.1,.int .i64 p.2]
theorem JN (p:Int×Int):(Zb p).length=2:=rfl
abbrev P2s (L:LN)(H:Array Obj)(v:Value)(l:List (Int×Int)):Prop:=Zy L H v l.length 2 (l.flatMap Zb)
abbrev Zv (e:Vp):LV:=[.string e.nm,.bool e.co,.bool e.ob,.bool e.fo,.int .i64 e.fl]
theorem QaX (e:Vp):(Zv e).length=5:=rfl
abbrev yC (s:ByteArray):Prop:=s.size≤9223372036854775807
structure KA (L:LN)(H:Array Obj)(v:Value)(l:List Vp):Prop where
 arr:Zy L H v l.length 5 (l.flatMap Zv)
 nm:∀e∈l,yC e.nm
theorem KA.ext {L:LN}{w w':World}{v:Value}{l:List Vp}(h:KA L w.heap v l)(hs:Step [] w w'):KA L w'.heap v l:=⟨h.arr.ext hs,h.nm⟩
theorem KA.st {L:LN}{w w':World}{v:Value}{l:List Vp}(h:KA L w.heap v l)(hs:Step L w w'):KA L w'.heap v l:=⟨h.arr.st hs,h.nm⟩
theorem KA.up {L L':LN}{H:Array Obj}{v:Value}{l:List Vp}(h:KA L H v l)(E:∀b∈L',b∈L∨H.size≤b):KA L' H v l:=⟨h.arr.up E,h.nm⟩
structure IV where
 nm:ByteArray
 p:AV
def IV.it (q:IV):Yk:=⟨q.nm,q.p.a⟩
abbrev Zn (q:IV):LV:=[.string q.nm,q.p.va,.int .i64 q.p.a.st,q.p.vm,q.p.ve]
theorem XN (q:IV):(Zn q).length=5:=rfl
structure Xm (L:LN)(H:Array Obj)(v:Value)(qs:List IV):Prop where
 arr:Zy L H v qs.length 5 (qs.flatMap Zn)
 each:∀q∈qs,Zm L H q.p.va q.p.vm q.p.ve q.p.a
 nm:∀q∈qs,yC q.nm
structure XV where
 nm:ByteArray
 v:Value
 ls:List (Int×Int)
def XV.x (q:XV):Exc:=⟨q.nm,q.ls⟩
abbrev ZF (q:XV):LV:=[.string q.nm,q.v]
theorem KC (q:XV):(ZF q).length=2:=rfl
structure qL (L:LN)(H:Array Obj)(v:Value)(qs:List XV):Prop where
 arr:Zy L H v qs.length 2 (qs.flatMap ZF)
 each:∀q∈qs,P2s L H q.v q.ls
 nm:∀q∈qs,yC q.nm
structure KV where
 nm:ByteArray
 v:Value
 ts:List (Int×Int)
 bd:Int
def KV.k (q:KV):Ju:=⟨q.nm,q.ts,q.bd⟩
abbrev ZH (q:KV):LV:=[.string q.nm,q.v,.int .i64 q.bd]
theorem Kh (q:KV):(ZH q).length=3:=rfl
structure jV (L:LN)(H:Array Obj)(v:Value)(qs:List KV):Prop where
 arr:Zy L H v qs.length 3 (qs.flatMap ZH)
 each:∀q∈qs,P2s L H q.v q.ts
 nm:∀q∈qs,yC q.nm
theorem Xm.ext {L:LN}{w w':World}{v:Value}{qs:List IV}(h:Xm L w.heap v qs)(hs:Step [] w w'):Xm L w'.heap v qs:=⟨h.arr.ext hs,λq hq=>(h.each q hq).ext hs,h.nm⟩
theorem Xm.st {L:LN}{w w':World}{v:Value}{qs:List IV}(h:Xm L w.heap v qs)(hs:Step L w w'):Xm L w'.heap v qs:=⟨h.arr.st hs,λq hq=>(h.each q hq).st hs,h.nm⟩
theorem Xm.up {L L':LN}{H:Array Obj}{v:Value}{qs:List IV}(h:Xm L H v qs)(E:∀b∈L',b∈L∨H.size≤b):Xm L' H v qs:=⟨h.arr.up E,λq hq=>(h.each q hq).up E,h.nm⟩
theorem qL.ext {L:LN}{w w':World}{v:Value}{qs:List XV}(h:qL L w.heap v qs)(hs:Step [] w w'):qL L w'.heap v qs:=⟨h.arr.ext hs,λq hq=>(h.each q hq).ext hs,h.nm⟩
theorem qL.st {L:LN}{w w':World}{v:Value}{qs:List XV}(h:qL L w.heap v qs)(hs:Step L w w'):qL L w'.heap v qs:=⟨h.arr.st hs,λq hq=>(h.each q hq).st hs,h.nm⟩
theorem qL.up {L L':LN}{H:Array Obj}{v:Value}{qs:List XV}(h:qL L H v qs)(E:∀b∈L',b∈L∨H.size≤b):qL L' H v qs:=⟨h.arr.up E,λq hq=>(h.each q hq).up E,h.nm⟩
theorem jV.ext {L:LN}{w w':World}{v:Value}{qs:List KV}(h:jV L w.heap v qs)(hs:Step [] w w'):jV L w'.heap v qs:=⟨h.arr.ext hs,λq hq=>(h.each q hq).ext hs,h.nm⟩
theorem jV.st {L:LN}{w w':World}{v:Value}{qs:List KV}(h:jV L w.heap v qs)(hs:Step L w w'):jV L w'.heap v qs:=⟨h.arr.st hs,λq hq=>(h.each q hq).st hs,h.nm⟩
theorem jV.up {L L':LN}{H:Array Obj}{v:Value}{qs:List KV}(h:jV L H v qs)(E:∀b∈L',b∈L∨H.size≤b):jV L' H v qs:=⟨h.arr.up E,λq hq=>(h.each q hq).up E,h.nm⟩
structure CL where
 ve:Value
 vc:Value
 vr:Value
 vx:Value
 vk:Value
 ev:List Vp
 co:List IV
 rq:List IV
 ex:List XV
 cs:List KV
def CL.cel (c:CL):Q7:=⟨c.ev,c.co.map (·.it),c.rq.map (·.it),c.ex.map (·.x),c.cs.map (·.k)⟩
abbrev CL.cells (c:CL):LV:=[c.ve,c.vc,c.vr,c.vx,c.vk]
abbrev CL.val (c:CL):Value:=.agg #[c.ve,c.vc,c.vr,c.vx,c.vk]
structure ZQ (L:LN)(H:Array Obj)(c:CL):Prop where
 ev:KA L H c.ve c.ev
 co:Xm L H c.vc c.co
 rq:Xm L H c.vr c.rq
 ex:qL L H c.vx c.ex
 cs:jV L H c.vk c.cs
theorem ZQ.ext {L:LN}{w w':World}{c:CL}(h:ZQ L w.heap c)(hs:Step [] w w'):ZQ L w'.heap c:=⟨h.ev.ext hs,h.co.ext hs,h.rq.ext hs,h.ex.ext hs,h.cs.ext hs⟩
theorem ZQ.st {L:LN}{w w':World}{c:CL}(h:ZQ L w.heap c)(hs:Step L w w'):ZQ L w'.heap c:=⟨h.ev.st hs,h.co.st hs,h.rq.st hs,h.ex.st hs,h.cs.st hs⟩
theorem ZQ.up {L L':LN}{H:Array Obj}{c:CL}(h:ZQ L H c)(E:∀b∈L',b∈L∨H.size≤b):ZQ L' H c:=⟨h.ev.up E,h.co.up E,h.rq.up E,h.ex.up E,h.cs.up E⟩
theorem ZQ.ones {L:LN}{H:Array Obj}{c:CL}(h:ZQ L H c):ZM c.cells:=⟨h.ev.arr.one,h.co.arr.one,h.rq.arr.one,h.ex.arr.one,h.cs.arr.one,Z⟩
def QmY (N:Nat)(H:Array Obj)(v:Value)(k:Q7):Prop:=∃c:CL,v=c.val∧c.cel=k∧∀L:LN,(∀b∈L,b<N)→ZQ L H c
open Go.Proofs.Tryz
theorem U4 (s:ByteArray)(Y:yC s)(w:World):QH prog 166 [.string s] w λr w'=>r=.bool (Xl s)∧w'=w:=by
 unfold yC at Y;refine QH.of_W func166 O ntmps166 results166 (by simp) ?_;refine Qc<|Qf<|Qg<|Qc<|Qb<|x (Qdv O)<|Qb<|xe<|Qh<|Qz (α:=Nat) [(2,5),(8,46)] (λz=>[(8,.int .i64 z)]) (λz w'=>w'=w∧z≤s.size∧(List.range' z (s.size - z)).all (nmQ s)=(List.range' 0 s.size).all (nmQ s)) (λz=>s.size - z) (by rfl) 0 La ⟨O,Ll _,by rw[Nat.sub_zero]⟩ ?_;rintro k g V ⟨rfl,hk,E⟩
 refine Qc<|x (QA O O)<|xe<|Qg<|QC O (λh9=>?_) (λh9=>?_)
 ·refine Qy ?_;have ha:s.size≤k:=by have hb:¬(k:Int)<(s.size:Int):=h9;omega
  rw[Qk6 ha]at E;have G:Xl s=decide (0<s.size∧s.size≤32):=by unfold Xl;rw[←E];simp
  rw[G];refine QX (α:=Bool) [(2,2),(47,54)] (λz=>[(2,.bool z)]) (λz w'=>w'=V∧z=decide (0<s.size∧s.size≤32)) (by rfl) ?_ ?_
  ·refine Qw<|Qb<|x (Qdv O)<|xb (ZR O O) (λhe=>?_) (λhe=>?_)
   ·refine Qb<|Qb<|x (Qdv O)<|x (Kr O O)<|x (Qp O)<|Qf ?_;exact⟨_,La,O,by first|exact bT (by omega)|exact bF (by omega)|exact bD (by omega)⟩
   refine Qb<|xs O<|xs O<|xs O<|x (Qp O)<|Qf ?_;exact⟨_,La,O,by first|exact bT (by omega)|exact bF (by omega)|exact bD (by omega)⟩
  rintro z g w2 ⟨rfl,rfl⟩;exact Ql ⟨[_],La,O,O⟩
 have H:k<s.size:=by have hb:(k:Int)<(s.size:Int):=h9;omega
 rw[QhH H,Mj]at E;refine Qi<|Qg<|Qh<|Qc<|Qb<|Qf<|Qc<|Qb<|Qb<|x (QhS (i:=k) O O H)<|Qf ?_;have hq:nmQ s k=decide (nmP k (chr s k)):=rfl;refine Zj (chr s k) λc hc=>?_;rw[hc]at hq;refine QX (α:=Bool) [(5,5),(14,31)] (λz=>[(5,.bool z)]) (λz w'=>w'=V∧z=decide ((97≤c∧c≤122)∨(65≤c∧c≤90)∨c=95)) (by rfl) ?_ ?_
 ·rw[←hc];refine Qw<|Qb<|xb (ZV O O) (λhf=>?_) (λhf=>?_)
  ·refine Qb<|Qb<|xb (Kr O O) (λhg=>?_) (λhg=>?_)
   ·refine x (Qp O)<|Qb<|xs O<|xs O<|xs O<|xs O<|xs O<|xs O<|x (Qp O)<|Qb<|xs O<|xs O<|x (Qp O) <|
     Qf ?_
    exact⟨_,La,O,by first|exact bT (by omega)|exact bF (by omega)|exact bD (by omega)⟩
   refine x (Qp O)<|Qb<|Qb<|xb (ZV O O) (λI=>?_) (λI=>?_)
   ·refine Qb<|Qb<|xb (Kr O O) (λJ=>?_) (λJ=>?_)
    ·refine x (Qp O)<|x (Qp O)<|Qb<|xs O<|xs O<|x (Qp O)<|Qf ?_;exact⟨_,La,O,by first|exact bT (by omega)|exact bF (by omega)|exact bD (by omega)⟩
    refine x (Qp O)<|x (Qp O)<|Qb<|Qb<|x (Zr O O)<|x (Qp O)<|Qf ?_;exact⟨_,La,O,by first|exact bT (by omega)|exact bF (by omega)|exact bD (by omega)⟩
   refine Qb<|xs O<|xs O<|x (Qp O)<|x (Qp O)<|Qb<|Qb<|x (Zr O O)<|x (Qp O)<|x Qe <|
    xe ?_
   exact⟨_,La,O,by first|exact bT (by omega)|exact bF (by omega)|exact bD (by omega)⟩
  refine Qb<|xs O<|xs O<|x (Qp O)<|Qb<|Qb<|xb (ZV O O) (λI=>?_) (λI=>?_)
  ·refine Qb<|Qb<|xb (Kr O O) (λJ=>?_) (λJ=>?_)
   ·refine x (Qp O)<|x (Qp O)<|Qb<|xs O<|xs O<|x (Qp O)<|Qf ?_;exact⟨_,La,O,by first|exact bT (by omega)|exact bF (by omega)|exact bD (by omega)⟩
   refine x (Qp O)<|x (Qp O)<|Qb<|Qb<|x (Zr O O)<|x (Qp O)<|Qf ?_;exact⟨_,La,O,by first|exact bT (by omega)|exact bF (by omega)|exact bD (by omega)⟩
  refine Qb<|xs O<|xs O<|x (Qp O)<|x (Qp O)<|Qb<|Qb<|x (Zr O O)<|x (Qp O)<|x Qe <|
   xe ?_
  exact⟨_,La,O,by first|exact bT (by omega)|exact bF (by omega)|exact bD (by omega)⟩
 rintro z g w4 ⟨rfl,rfl⟩;refine QX (α:=Bool) [(32,45)] (λz=>[(45,.bool z)]) (λz w'=>w'=w4∧z=decide (¬nmP k c)) (by rfl) ?_ ?_
 ·unfold nmP;rw[←hc];refine Qw<|Qb<|xb (zg O) (λhh=>?_) (λhh=>?_)
  ·refine Qb<|Qb<|xb (Zr O O) (λhi=>?_) (λhi=>?_)
   ·refine Qb<|xs O<|xs O<|x (Qp O)<|Qb<|xs O<|xs O<|x (Qp O)<|x (Qp O)<|xe ?_;exact⟨_,La,O,by first|exact bT (by omega)|exact bF (by omega)|exact bD (by omega)⟩
   refine Qb<|Qb<|xb (QA O O) (λhj=>?_) (λhj=>?_)
   ·refine x (Qp O)<|Qb<|xs O<|xs O<|x (Qp O)<|x (Qp O)<|xe ?_;exact⟨_,La,O,by first|exact bT (by omega)|exact bF (by omega)|exact bD (by omega)⟩
   refine x (Qp O)<|Qb<|Qb<|x (ZR O O)<|x (Qp O)<|x (Qp O)<|xe ?_;exact⟨_,La,O,by first|exact bT (by omega)|exact bF (by omega)|exact bD (by omega)⟩
  refine Qb<|xs O<|xs O<|xs O<|xs O<|xs O<|xs O<|xs O<|xs O<|xs O<|xs O<|x (Qp O)<|xe ?_;exact⟨_,La,O,by first|exact bT (by omega)|exact bF (by omega)|exact bD (by omega)⟩
 rintro z g w5 ⟨rfl,rfl⟩;refine Q3 rfl (λU=>?_) (λU=>?_)
 ·refine Qc<|Qf ?_;have G:Xl s=false:=by
   unfold Xl;rw[←E,hq,decide_eq_false U];rfl
  exact Ql ⟨[_],La,by rw[G];rfl,O⟩
 refine Qi ?_;have hl:nmP k c:=Ln.1 U;refine Qw<|QP O O<|Qb<|xe ?_;rw[hq,decide_eq_true hl,Bool.true_and]at E;exact⟨k+1,by omega,La,O,H,E⟩
def nmM (l:List ByteArray):List (ByteArray×Value):=l.map λs=>(s,.bool true)
theorem Qlj (l:List ByteArray)(s:ByteArray):mget (nmM l) s=if s∈l then some (.bool true)else none:=by
 induction l with
 | nil=>rfl
 | cons a l ih =>
  show(if a=s then some (Value.bool true)else mget (nmM l) s)=_
  rw[ih];by_cases h:a=s
  ·subst h;simp
  have:s≠a:=λe=>h e.symm;simp[h,this]
theorem QeY {l:List ByteArray}{s:ByteArray}(h:s∉l):mput (nmM l) s (.bool true)=nmM (l++[s]):=by
 induction l with
 | nil=>rfl
 | cons a l ih =>
  have h1:a≠s:=λe=>h (by subst e;exact Lm);show(if a=s then(a,Value.bool true)::nmM l else(a,Value.bool true)::mput (nmM l) s (.bool true))=_
  rw[if_neg h1,ih (λhm=>h (Lk _ hm))];rfl
section
variable {P:Program}{f:Fr}{w:World}{d:Option Nat}{ty:Nat}{ps:String}{af:Array Edge}{gd:Option (Nat×Bool)}
theorem QbQ {t kt et:Nat}[hm:Mp P t kt et (.bool false)][hk:Key P kt Jh]{x y:Operand}{b:Nat}{l:List ByteArray}{s:ByteArray}(h:ZI Jh w.heap b (nmM l))(hx:ev f x=.map (some b))(hy:ev f y=.string s):
  (execOp (ev f) ⟨d,.lookup t x y false,ty,ps,af,gd⟩).run P w=.ok (.value (.bool (decide (s∈l)))) w:=by
 rw[JX h hx hy,Qlj];by_cases hs:s∈l <;> simp[hs]
end
theorem Qd2 {s:List ByteArray}{l:List Vp}{k:Nat}(h:k<l.length):U9 s (l.drop k)=if XW s (l[k]'h)≠0 then XW s (l[k]'h)else U9 (s++[(l[k]'h).nm]) (l.drop (k+1)):=by
 rw[Q5 h];rfl
theorem zT {L:LN}{w:World}{v:Value}{l:List Vp}(h:KA L w.heap v l):QH prog 113 [v] w λr w'=>r=.int .i64 (Js l)∧Step [] w w':=by
 have h0:=h.arr.le;refine QH.of_W func113 O ntmps113 results113 (by simp) ?_;refine Qc<|Qf<|Qg<|Qc<|Qb<|x (Qr h.arr O)<|x (ZR O O)<|xe<|Q3 rfl (λh8=>?_) (λh8=>?_)
 ·refine Qc<|Qf ?_;exact Ql ⟨[_],La,by unfold Js;rw[if_pos (by have h9:(32:Int)<(l.length:Int):=h8;omega)];rfl,Step.refl _ _⟩
 have hck:Js l=U9 [] l:=by unfold Js;rw[if_neg (by have h9:¬(32:Int)<(l.length:Int):=h8;omega)]
 rw[hck];refine Qi<|Qc<|xl O<|Z6 Jh λb9 w1 hh ho hp=>Qf<|Qg<|Qc<|Qb<|x (Qr (h.arr.ext hh) O)<|Qb<|xe<|Qh<|Qz (α:=Nat×List ByteArray) [(2,2),(5,5),(12,50)] (λz=>[(12,.int .i64 z.1)]) (λz w'=>z.1≤l.length∧Step [] w w'∧ZI Jh w'.heap b9 (nmM z.2)∧U9 z.2 (l.drop z.1)=U9 [] l) (λz=>l.length - z.1) (by rfl) (0,[]) La
  ⟨Ll _,hh,hp,O⟩ ?_
 rintro⟨k,sn⟩ g w2 ⟨hk,H,hi,E⟩;simp only[]at hk hi E;refine Qc<|x (QA O O)<|xe<|Qg<|QC O (λhb=>?_) (λhb=>?_)
 ·refine Qy ?_;have hq:l.length≤k:=by have hr:¬(k:Int)<(l.length:Int):=hb;omega
  rw[Lv hq]at E;refine Qc<|Qf ?_;exact Ql ⟨[_],La,by rw[←E];rfl,H⟩
 have V:k<l.length:=by have hr:(k:Int)<(l.length:Int):=hb;omega
 rw[Qd2 V]at E;have hj:=h.nm _ (Lc V);refine Qi<|Qg<|Qh<|Qc<|xig QaX (h.arr.ext H) O O V λh2 hl=>?_;refine Zj (l[k]'V) λe he=>?_;rw[he]at hl E hj;refine x (QI hl O O)<|xl O<|Qu (us:=[.string .empty,.bool false,.bool false,.bool false,.int .i64 0]) O λb5 w3 hs ht G=>xl O<|Qn (us:=Zv e) G O O O O ⟨O,O,O,O,O,Z⟩ λw4 hu G =>
  xe ?_
 have I:Step [] w2 w4:=hs.then1 hu ht;have hm:=hi.ext I;refine Qg<|Qh<|Qc<|x (Qa O)<|x (Qd G O O)<|xl O<|xf<|(U4 e.nm hj _).mono ?_;rintro r5 w5 ⟨rfl,rfl⟩;refine x (Zt O)<|Qf<|QZ O (λhc=>?_) (λhc=>?_)
 ·have J:Xl e.nm=false:=by simpa using hc
  have h1:XW sn e=7:=by unfold XW;rw[if_pos J]
  refine Qc<|Qf ?_;exact Ql ⟨[_],La,by rw[←E,h1];rfl,H.trans I⟩
 have J:¬Xl e.nm=false:=by simpa using hc
 refine Qc<|Qb<|x (Qa O)<|x (Qd G O O)<|x (QbQ hm O O)<|Qf<|Q3 O (λU=>?_) (λU=>?_)
 ·have h1:XW sn e=8:=by unfold XW;rw[if_neg J,if_pos U]
  refine Qc<|Qf ?_;exact Ql ⟨[_],La,by rw[←E,h1];rfl,H.trans I⟩
 refine QX (α:=Bool) [(26,34)] (λz=>[(26,.bool z)]) (λz w'=>w'=w5∧z=decide (e.fl<0∨4<e.fl)) (by rfl) ?_ ?_
 ·refine Qw<|x (Qa O)<|x (Qd G O O)<|xb (QA O O) (λhv=>?_) (λhv=>?_)
  ·refine Qb<|xs O<|xs O<|xs O<|x (Qp O)<|Qf ?_;exact⟨_,La,O,by first|exact bT (by omega)|exact bF (by omega)|exact bD (by omega)⟩
  refine Qb<|x (Qa O)<|x (Qd G O O)<|x (ZR O O)<|x (Qp O)<|Qf ?_;exact⟨_,La,O,by first|exact bT (by omega)|exact bF (by omega)|exact bD (by omega)⟩
 rintro z g w6 ⟨rfl,rfl⟩;refine Q3 rfl (λY=>?_) (λY=>?_)
 ·have h1:XW sn e=2:=by unfold XW;rw[if_neg J,if_neg U,if_pos Y]
  refine Qc<|Qf ?_;exact Ql ⟨[_],La,by rw[←E,h1];rfl,H.trans I⟩
 refine QX (α:=Bool) [(35,46)] (λz=>[(35,.bool z)]) (λz w'=>w'=w6∧z=decide (e.fl≠0∧(e.co || e.ob)=true)) (by rfl) ?_ ?_
 ·refine Qw<|x (Qa O)<|x (Qd G O O)<|xb (Q6 O O) (λha=>?_) (λha=>?_)
  ·refine Qb<|x (Qa O)<|xB (Qd G O O) (λhf=>?_) (λhf=>?_)
   ·refine Qb<|xs O<|xs O<|x (Qp O)<|x (Qp O)<|Qf ?_;exact⟨_,La,O,by rw[hf,decide_eq_true ⟨ha,by simp⟩]⟩
   refine Qb<|x (Qa O)<|x (Qd G O O)<|x (Qp O)<|x (Qp O)<|Qf<|⟨_,La,O,?_⟩;show e.ob=_;rw[hf];cases e.ob <;> simp[show ¬e.fl=0 from ha]
  refine Qb<|xs O<|xs O<|xs O<|xs O<|xs O<|xs O<|x (Qp O)<|Qf ?_;exact⟨_,La,O,bF (λh1=>ha h1.1)⟩
 rintro z g w7 ⟨rfl,rfl⟩;refine Q3 rfl (λhg=>?_) (λhg=>?_)
 ·have h1:XW sn e=13:=by unfold XW;rw[if_neg J,if_neg U,if_neg Y,if_pos hg]
  refine Qc<|Qf ?_;exact Ql ⟨[_],La,by rw[←E,h1];rfl,H.trans I⟩
 have h1:XW sn e=0:=by unfold XW;rw[if_neg J,if_neg U,if_neg Y,if_neg hg]
 rw[h1,if_neg (λh=>h rfl)]at E;refine Qi<|Qw<|Qb<|x (Qa O)<|x (Qd G O O)<|xl O<|YR (k:=e.nm) hm O O λw8 hw hy=>xe ?_;refine Qw<|QP O O<|Qb<|xe ?_;have hz:ZI Jh w8.heap b9 (nmM (sn++[e.nm])):=by rw[←QeY U];exact hy
 exact⟨(k+1,sn++[e.nm]),by simp only[];omega,La,V,(H.trans I).then1 hw ho,hz,E⟩
theorem Qcd {α:Type}(q:α→Bool)(x:α):∀(l:List α) (i:Nat),ixs q i (l++[x])=ixs q i l++if q x=true then[((i+l.length:Nat):Int)]else[]
 | [],i=>by simp[ixs]
 | a::l,i=>by
  have ih:=Qcd q x l (i+1);simp only[List.cons_append,ixs,ih,List.length_cons];rw[show i+1+l.length=i+(l.length+1) by omega];split <;> simp
theorem Uc {α:Type}(q:α→Bool):∀(l:List α) (i:Nat),(ixs q i l).length≤l.length
 | [],i=>by simp[ixs]
 | a::l,i=>by
  have ih:=Uc q l (i+1);unfold ixs;split <;> simp <;> omega
theorem Qcc {α:Type}(q:α→Bool){l:List α}{k:Nat}(h:k<l.length):ixs q 0 (l.take (k+1))=ixs q 0 (l.take k)++if q (l[k]'h)=true then[(k:Int)]else[]:=by
 rw[Li h,Qcd];simp[Nat.min_eq_left (Nat.le_of_lt h)]
theorem QgB {g:Nat}{fn:Func}[Fu prog g fn]{q:Vp→Bool}(hq:∀(e:Vp) (w:World),QH prog g [.agg (Zv e).toArray] w λr w'=>r=.bool (q e)∧Step [] w w'){L:LN}{w:World}{v:Value}{l:List Vp}(h:KA L w.heap v l):
  QH prog 120 [v,.func (.func g) #[] #[]] w λr w'=>Step [] w w'∧Qt 3 w.heap.size w' r (ixs q 0 l):=by
 have ht:=h.arr.le;refine QH.of_W func120 O ntmps120 results120 (by simp) ?_;refine Qc<|Qf<|Qc<|Qf<|Qg<|Qc<|Qb<|x (Qr h.arr O)<|Qb<|xe<|Qh<|Qz (α:=Nat×Value) [(5,7),(10,22)] (λz=>[(5,z.2),(10,.int .i64 z.1)]) (λz w'=>z.1≤l.length∧Step [] w w'∧Qt 3 w.heap.size w' z.2 (ixs q 0 (l.take z.1))) (λz=>l.length - z.1) (by rfl) (0,nS) ⟨O,O,Z⟩
  ⟨Ll _,Step.refl _ _,QN _ _ _ _⟩ ?_
 rintro⟨k,vo⟩ g w1 ⟨hk,E,I⟩;simp only[]at hk I;refine Qc<|x (QA O O)<|xe<|Qg<|QC O (λU=>?_) (λU=>?_)
 ·refine Qy ?_;have hg:l.length≤k:=by have hh:¬(k:Int)<(l.length:Int):=U;omega
  rw[Lp hg]at I;refine Qc<|Qb<|Qf ?_;exact Ql ⟨[_],La,E,I⟩
 have G:k<l.length:=by have hh:(k:Int)<(l.length:Int):=U;omega
 have H:=Qcc q G;have hu:=Uc q (l.take k) 0;have hv:(l.take k).length=k:=by simp;omega
 refine Qi<|Qg<|Qh<|Qc<|Qb<|xig QaX (h.arr.ext E) O O G λhw hf=>?_;refine Zj (l[k]'G) λe he=>?_;rw[he]at hf H;refine x (QI hf O O)<|xl O<|Qu (us:=[.string .empty,.bool false,.bool false,.bool false,.int .i64 0]) O λb7 w2 hi hj V=>x Qe <|
  xl rfl<|Qn (us:=Zv e) V O O O O ⟨O,O,O,O,O,Z⟩ λw3 hl V=>xe ?_
 have hm:Step [] w1 w3:=hi.then1 hl hj;refine Qc<|Qb<|x (Qo V O O)<|xl O<|xc (first:=[]) (capt:=[]) O<|(hq e w3).mono ?_;rintro r4 w4 ⟨rfl,hn⟩;have J:=hm.trans hn;have Y:=Qs I J;have hy:=(E.trans J).size;refine xe<|QZ rfl (λha=>?_) (λha=>?_)
 ·rw[if_pos ha]at H;refine Qw<|Qb<|Qb<|xl O<|QG (us:=[[.int .i64 k]]) O O (by decide) (by simp) ⟨rfl,rfl,Z⟩ λhz w5 hc h0 ho=>?_;have hp:=Qs Y hc;have h1:=hc.size;refine xl O<|Q4 (news:=[.int .i64 k]) (L:=[]) hp O O O (ho.at (by simp)) (by simp[Value.oneCell']) (by omega) (by omega) λv6 w6 hr hs h2 =>
   Qf ?_
  have hge:=Qq Y;refine Qw<|QP O O<|Qb<|xe<|⟨(k+1,v6),by simp only[];omega,⟨O,O,Z⟩,G,((E.trans J).trans hc).then hs (λb hb=>.inr (hge b hb).1),?_⟩;simp only[];rw[H];exact Qt.snoc hr
 rw[if_neg (by rw[ha];decide),LO]at H;refine Qi<|Qw<|QP O O<|Qb<|xe ?_;exact⟨(k+1,vo),by simp only[];omega,⟨O,O,Z⟩,G,E.trans J,by simp only[];rw[H];exact Y⟩
theorem Qed (e:Vp)(w:World):QH prog 115 [.agg (Zv e).toArray] w λr w'=>r=.bool (!e.co)∧Step [] w w':=by
 refine QH.of_W func115 O ntmps115 results115 (by simp) ?_;refine Qc<|xl O<|QR (us:=Zv e) O λH I E J G=>Qf<|Qc<|x (Qa O)<|x (Qd G O O)<|x (Zt O)<|Qf ?_;exact Ql ⟨[_],La,O,E⟩
theorem jS {L:LN}{w:World}{v:Value}{l:List Vp}(h:KA L w.heap v l):QH prog 65 [v,.int .i64 2] w λr w'=>Step [] w w' ∧
  ∃vo,r=.tuple #[vo,.int .i64 (Js l)]∧Qt 3 w.heap.size w' vo (if Js l=0 then unc l else[]):=by
 refine QH.of_W func65 O ntmps65 results65 (by simp) ?_;refine Qc<|x Qe<|Qf<|Qg<|Qc<|Qb<|xl O<|xf<|(zT h).mono ?_;rintro r1 U ⟨rfl,I⟩;refine Qf<|Qc<|Qb<|x (Q6 O O)<|xe<|Q3 rfl (λG=>?_) (λG=>?_)
 ·refine Qc<|Qb<|x Qe<|Qf ?_;exact Ql ⟨[_,_],⟨O,O,Z⟩,I,_,O,by rw[if_neg G];exact QN _ _ _ _⟩
 have J:Js l=0:=Ln.1 G;refine Qi<|Qc<|xl O<|Z6 JO λb15 w2 V E Y=>xl O<|Ys (k:=1) Y O O λw3 ha hb=>xl O<|Ys (k:=2) hb O O λw4 hc he =>
  xl rfl<|Ys (k:=3) he O O λw5 hf hg=>xl O<|Ys (k:=4) hg O O λw6 hh hi=>xl O<|Ys (k:=5) hi O O λw7 hj hk=>xl O<|Ys (k:=6) hk O O λw8 hl hm =>
  Qb<|Qf ?_
 have hn:Step [] U w8:=(((((V.then1 ha E).then1 hc E).then1 hf E).then1 hh E).then1 hj E).then1 hl E;refine Qc<|Qb<|Qb<|x (jh (k:=(2:Int)) hm O O O)<|Qb<|x (Qj O O)<|x (Qj O O)<|x Qe<|Qf<|Qg<|Qc<|Qb<|x (Zt O)<|xe<|Z4 rfl ?_;refine Qi ?_;have H:=I.trans hn;refine Qc<|Qb<|Qb<|xl O<|xf<|(QgB Qed (h.ext H)).mono ?_;rintro r9 w9 ⟨ho,hp⟩
 refine x Qe<|Qf<|Ql ⟨[_,_],⟨O,O,Z⟩,H.trans ho,_,by rw[J];rfl,?_⟩;rw[if_pos J];exact Zd hp H.size
theorem Qci (n:Int)(w:World):QH prog 213 [.int .i64 n] w λr w'=>r=.bool (grt n)∧w'=w:=by
 refine QH.of_W func213 O ntmps213 results213 (by simp) ?_;refine Qc<|Qf<|QX (α:=Bool) [(2,8)] (λz=>[(2,.bool z)]) (λz w'=>w'=w∧z=grt n) (by rfl) ?_ ?_
 ·refine Qw<|Qb<|xb (QA O O) (λh4=>?_) (λh4=>?_)
  ·refine Qb<|xs O<|xs O<|x (Qp O)<|Qf ?_;exact⟨_,La,O,by unfold grt;rw[decide_eq_true h4];rfl⟩
  refine Qb<|Qb<|x (ZR O O)<|x (Qp O)<|Qf ?_;exact⟨_,La,O,by unfold grt;rw[decide_eq_false h4];rfl⟩
 rintro z g E ⟨rfl,rfl⟩;exact Ql ⟨[_],La,O,O⟩
theorem Qd1 {sz:LI}{ls:List (Int×Int)}{k:Nat}(h:k<ls.length):Yz sz (pv (ls.map (·.1)) k) (ls.drop k)=if(ls[k]'h).1<0∨(sz.length:Int)≤(ls[k]'h).1 then 2 else if zy (pv (ls.map (·.1)) k) (ls[k]'h).1=true then 5 else if(ls[k]'h).2<0∨cget sz (ls[k]'h).1.toNat≤(ls[k]'h).2 then 2 else Yz sz (pv (ls.map (·.1)) (k+1)) (ls.drop (k+1)):=by
 rw[Q5 h,J9 (by simpa using h),LK];rfl
theorem Us {w:World}{vs vx vk vl:Value}{sz:LI}{ls:List (Int×Int)}{nm:ByteArray}(hS:QJ [] w.heap vs sz)(hl:P2s [] w.heap vl ls):
  QH prog 177 [.agg #[vs,vx,vk],.agg #[.string nm,vl]] w λr w'=>r=.int .i64 (JI sz ls)∧Step [] w w':=by
 have hG:=hl.le;refine QH.of_W func177 O ntmps177 results177 (by simp) ?_;refine Qc<|xl O<|QR (us:=[vs,vx,vk]) O λb2 w1 hy hH V=>xl O<|QR (us:=[.string nm,vl]) O λb3 w2 hp hI Y=>Qf ?_;have E:=hy.trans hp
 replace V:=V.ext hp;refine Qg<|Qc<|x (Qa O)<|x (Qd Y O O)<|x (Qr (hl.ext E) O)<|x (Zr O O)<|xe<|Q3 rfl (λha=>?_) (λha=>?_)
 ·refine Qc<|Qf ?_;exact Ql ⟨[_],La,by unfold JI;rw[if_pos (by have hz:(ls.length:Int)=0:=ha;omega)];rfl,E⟩
 have h0:ls.length≠0:=by have hz:¬(ls.length:Int)=0:=ha;omega
 have h1:JI sz ls=Yz sz none ls:=by unfold JI;rw[if_neg h0]
 rw[h1];refine Qi<|Qg<|Qc<|x (Qa O)<|x (Qd Y O O)<|x (Qr (hl.ext E) O)<|Qb<|xe<|Qh<|Qz (α:=Nat) [(4,6),(14,61)] (λz=>[(14,.int .i64 z)]) (λz w'=>z≤ls.length∧Step [] w2 w'∧Yz sz (pv (ls.map (·.1)) z) (ls.drop z)=Yz sz none ls) (λz=>ls.length - z) (by rfl) 0 La
  ⟨Ll _,Step.refl _ _,O⟩ ?_
 rintro k g w3 ⟨hk,I,hck⟩;have hb:=E.trans I;have hq:=V.ext I;have h2:=Y.ext I;have hr:=hl.ext hb;have hs:=hS.ext hb;refine Qc<|x (QA O O)<|xe<|Qg<|QC O (λhf=>?_) (λhf=>?_)
 ·refine Qy ?_;have h3:ls.length≤k:=by have h4:¬(k:Int)<(ls.length:Int):=hf;omega
  rw[Lv h3]at hck;refine Qc<|Qf ?_;exact Ql ⟨[_],La,by rw[←hck];rfl,hb⟩
 have J:k<ls.length:=by have h4:(k:Int)<(ls.length:Int):=hf;omega
 rw[Qd1 J]at hck;refine Qi<|Qg<|Qh<|Qc<|Qb<|xig JN hr O O J λhJ ht=>?_;refine Zj (ls[k]'J) λe he=>?_;rw[he]at ht hck;refine x (QI ht O O)<|xl O<|Qu (us:=[.int .i64 0,.int .i64 0]) O λb6 w4 h5 h6 H=>x Qe<|xl O<|Qn (us:=Zb e) H O O O O ⟨O,O,Z⟩ λw5 h7 H=>xe ?_;have G:Step [] w3 w5:=h5.then1 h7 h6;have hu:=I.trans G
 refine Qh<|QX (α:=Bool) [(19,30)] (λz=>[(19,.bool z)]) (λz w'=>w'=w5∧z=decide (e.1<0∨(sz.length:Int)≤e.1)) (by rfl) ?_ ?_
 ·refine Qw<|x (Qa O)<|x (Qd H O O)<|xb (QA O O) (λh8=>?_) (λh8=>?_)
  ·refine Qb<|xs O<|xs O<|xs O<|xs O<|xs O<|xs O<|x (Qp O)<|Qf ?_;exact⟨_,La,O,by first|exact bT (by omega)|exact bF (by omega)|exact bD (by omega)⟩
  refine Qb<|x (Qa O)<|x (Qd H O O)<|x (Qa O)<|x (Qd (hq.ext G) O O)<|x (Qr (hs.ext G) O)<|x (ZV O O) <|
   x (Qp rfl)<|Qf ?_
  exact⟨_,La,O,by first|exact bT (by omega)|exact bF (by omega)|exact bD (by omega)⟩
 rintro z g w6 ⟨rfl,rfl⟩;refine Q3 rfl (λhg=>?_) (λhg=>?_)
 ·rw[if_pos hg]at hck;refine Qc<|Qf ?_;exact Ql ⟨[_],La,by rw[←hck];rfl,E.trans hu⟩
 rw[if_neg hg]at hck;have h9:e.1=((e.1.toNat:Nat):Int):=by omega
 have hA:e.1.toNat<sz.length:=by omega
 refine QX (α:=Bool) [(31,45)] (λz=>[(31,.bool z)]) (λz w'=>Step [] w6 w'∧z=zy (pv (ls.map (·.1)) k) e.1) (by rfl) ?_ ?_
 ·refine QU (Step [] w6) [(0,true),(1,true),(2,true),(3,true),(4,true),(5,true),(6,true),(7,true),(8,true),(9,true),(10,true),(11,true),(12,true),(13,true),(14,true)] mixed (by rfl) (by kernel_rfl) (Step.drew _ _) ?_;refine p (λ_=>Qk)<|pb (λ_=>ZR O O) (λhh=>?_) (λhh=>?_)
  ·have hi:k≠0:=by have hB:(0:Int)<(k:Int):=hh;omega
   have hk1:((k:Int) - 1)=((k - 1:Nat):Int):=by omega
   have hj:k - 1<ls.length:=by omega
   refine p (λ_=>Qk)<|p (λ_=>Qa O)<|pq (λ_ hc=>Qd (H.ext hc) O O)<|p (λ_=>Qa O)<|pq (λ_ hc=>Qd ((h2.ext G).ext hc) O O) <|
    p (λ_=>Qk)<|p (λ_=>JW O O ⟨by omega,by omega⟩)<|Lg.pig (g:=Zb) (i:=k - 1) O JN (hr.ext G) O (congrArg (Value.int .i64) hk1) hj λhK hC=>p (λ_=>Zf O) <|
    pq (λ_ hc=>Qv ((hC.fld 0 _ O).ext hc) O)<|p (λ_=>Kr O O)<|p (λ_=>Qp O)<|p (λ_=>Qe)<|pe ?_
   refine⟨_,La,Step.drew _ _,?_⟩;have:pv (ls.map (·.1)) k=some (ls[k - 1]'hj).1:=by simp[pv,hi,hj]
   rw[this];rfl
  have hi:k=0:=by have hB:¬(0:Int)<(k:Int):=hh;omega
  refine p (λ_=>Qk)<|ps<|ps<|ps<|ps<|ps<|ps<|ps<|ps<|ps<|ps<|p (λ_=>Qp O)<|p (λ_=>Qe)<|pe ?_;exact⟨false,La,Step.drew _ _,by simp[pv,hi,zy]⟩
 rintro z g w7 ⟨U,rfl⟩;have hv:=hu.trans U;refine QZ rfl (λhm=>?_) (λhm=>?_)
 ·rw[if_pos hm]at hck;refine Qc<|Qf ?_;exact Ql ⟨[_],La,by rw[←hck];rfl,E.trans hv⟩
 rw[if_neg (by simp[hm])]at hck;have hn:=H.ext U;refine QX (α:=Bool) [(46,60)] (λz=>[(46,.bool z)]) (λz w'=>Step [] w7 w'∧z=decide (e.2<0∨cget sz e.1.toNat≤e.2)) (by rfl) ?_ ?_
 ·refine QU (Step [] w7) [(0,true),(1,true),(2,true),(3,true),(4,true),(5,true),(6,true),(7,true),(8,true),(9,true),(10,true),(11,true),(12,true),(13,true),(14,true)] mixed (by rfl) (by kernel_rfl) (Step.drew _ _) ?_;refine p (λ_=>Qa O)<|pq (λ_ hc=>Qd (hn.ext hc) O O)<|pb (λ_=>QA O O) (λhD=>?_) (λhD=>?_)
  ·refine p (λ_=>Qk)<|ps<|ps<|ps<|ps<|ps<|ps<|ps<|ps<|ps<|p (λ_=>Qp O)<|p (λ_=>Qe)<|pe ?_;exact⟨_,La,Step.drew _ _,by first|exact bT (by omega)|exact bF (by omega)|exact bD (by omega)⟩
  refine p (λ_=>Qk)<|p (λ_=>Qa O)<|pq (λ_ hc=>Qd (hn.ext hc) O O)<|p (λ_=>Qa O)<|pq (λ_ hc=>Qd (((hq.ext G).ext U).ext hc) O O) <|
   p (λ_=>Qa O)<|pq (λ_ hc=>Qd (hn.ext hc) O O)<|pic (i:=e.1.toNat) O ((hs.ext G).ext U) O (congrArg (Value.int .i64) h9) hA λhL hE=>pq (λ_ hc=>Qv (hE.ext hc) O) <|
   p (λ_=>ZV O O)<|p (λ_=>Qp O)<|p (λ_=>Qe)<|pe ?_
  exact⟨_,La,Step.drew _ _,by first|exact bT (by omega)|exact bF (by omega)|exact bD (by omega)⟩
 rintro z g w8 ⟨hF,rfl⟩;have hw:=hv.trans hF;refine Q3 rfl (λho=>?_) (λho=>?_)
 ·rw[if_pos ho]at hck;refine Qc<|Qf ?_;exact Ql ⟨[_],La,by rw[←hck];rfl,E.trans hw⟩
 rw[if_neg ho]at hck;refine Qi<|Qw<|QP O O<|Qb<|xe ?_;exact⟨k+1,by omega,La,J,hw,hck⟩
theorem QdY {sz:LI}{ls:List (Int×Int)}{k:Nat}(h:k<ls.length):Xo sz (pv (ls.map (·.1)) k) (ls.drop k)=if(ls[k]'h).1<0∨(sz.length:Int)≤(ls[k]'h).1 then 2 else if zy (pv (ls.map (·.1)) k) (ls[k]'h).1=true then 5 else if(ls[k]'h).2=0∨grt (ls[k]'h).2=true then 2 else Xo sz (pv (ls.map (·.1)) (k+1)) (ls.drop (k+1)):=by
 rw[Q5 h,J9 (by simpa using h),LK];rfl
theorem VL {w:World}{vs vx vk vl:Value}{sz:LI}{ls:List (Int×Int)}{nm:ByteArray}{bd:Int}(hS:QJ [] w.heap vs sz)(hl:P2s [] w.heap vl ls):
  QH prog 179 [.agg #[vs,vx,vk],.agg #[.string nm,vl,.int .i64 bd]] w λr w'=>r=.int .i64 (Xp sz ⟨nm,ls,bd⟩)∧Step [] w w':=by
 have hG:=hl.le;refine QH.of_W func179 O ntmps179 results179 (by simp) ?_;refine Qc<|xl O<|QR (us:=[vs,vx,vk]) O λb2 w1 h0 hH V=>xl O<|QR (us:=[.string nm,vl,.int .i64 bd]) O λb3 w2 hq hI Y=>Qf ?_;have E:=h0.trans hq
 replace V:=V.ext hq;refine Qg<|Qc<|x (Qa O)<|x (Qd Y O O)<|x (Qr (hl.ext E) O)<|x (Zr O O)<|xe<|Q3 rfl (λha=>?_) (λha=>?_)
 ·refine Qc<|Qf ?_;exact Ql ⟨[_],La,by unfold Xp;rw[if_pos (by have h1:(ls.length:Int)=0:=ha;show ls.length=0;omega)];rfl,E⟩
 have h2:ls.length≠0:=by have h1:¬(ls.length:Int)=0:=ha;omega
 have h3:Xp sz ⟨nm,ls,bd⟩=if Xo sz none ls≠0 then Xo sz none ls else if grt bd=true then 2 else 0:=by unfold Xp;rw[if_neg h2]
 rw[h3];refine Qi<|Qg<|Qc<|x (Qa O)<|x (Qd Y O O)<|x (Qr (hl.ext E) O)<|Qb<|xe<|Qh<|Qz (α:=Nat) [(4,6),(14,55)] (λz=>[(14,.int .i64 z)]) (λz w'=>z≤ls.length∧Step [] w2 w'∧Xo sz (pv (ls.map (·.1)) z) (ls.drop z)=Xo sz none ls) (λz=>ls.length - z) (by rfl) 0 La
  ⟨Ll _,Step.refl _ _,O⟩ ?_
 rintro k g w3 ⟨hk,I,hck⟩;have J:=E.trans I;have h4:=V.ext I;have hr:=Y.ext I;have hs:=hl.ext J;have h5:=hS.ext J;refine Qc<|x (QA O O)<|xe<|Qg<|QC O (λhb=>?_) (λhb=>?_)
 ·refine Qy ?_;have h6:ls.length≤k:=by have h7:¬(k:Int)<(ls.length:Int):=hb;omega
  rw[Lv h6]at hck;have h8:Xo sz none ls=0:=hck.symm;rw[h8,if_neg (λh=>h rfl)];refine Qg<|Qc<|x (Qa O)<|x (Qd hr O O)<|xl O<|xf<|(Qci bd _).mono ?_;rintro r4 w4 ⟨rfl,rfl⟩;refine xe<|QZ O (λhf=>?_) (λhf=>?_)
  ·rw[if_pos hf];refine Qc<|Qf ?_;exact Ql ⟨[_],La,O,J⟩
  rw[if_neg (by simp[hf])];refine Qi<|Qc<|Qf ?_;exact Ql ⟨[_],La,O,J⟩
 have U:k<ls.length:=by have h7:(k:Int)<(ls.length:Int):=hb;omega
 rw[QdY U]at hck;refine Qi<|Qg<|Qh<|Qc<|Qb<|xig JN hs O O U λhJ ht=>?_;refine Zj (ls[k]'U) λe he=>?_;rw[he]at ht hck;refine x (QI ht O O)<|xl O<|Qu (us:=[.int .i64 0,.int .i64 0]) O λb6 w4 h9 hA G=>x Qe<|xl O<|Qn (us:=Zb e) G O O O O ⟨O,O,Z⟩ λw5 hB G=>xe ?_;have H:Step [] w3 w5:=h9.then1 hB hA;have hu:=I.trans H
 refine Qh<|QX (α:=Bool) [(19,30)] (λz=>[(19,.bool z)]) (λz w'=>w'=w5∧z=decide (e.1<0∨(sz.length:Int)≤e.1)) (by rfl) ?_ ?_
 ·refine Qw<|x (Qa O)<|x (Qd G O O)<|xb (QA O O) (λhC=>?_) (λhC=>?_)
  ·refine Qb<|xs O<|xs O<|xs O<|xs O<|xs O<|xs O<|x (Qp O)<|Qf ?_;exact⟨_,La,O,by first|exact bT (by omega)|exact bF (by omega)|exact bD (by omega)⟩
  refine Qb<|x (Qa O)<|x (Qd G O O)<|x (Qa O)<|x (Qd (h4.ext H) O O)<|x (Qr (h5.ext H) O)<|x (ZV O O) <|
   x (Qp rfl)<|Qf ?_
  exact⟨_,La,O,by first|exact bT (by omega)|exact bF (by omega)|exact bD (by omega)⟩
 rintro z g w6 ⟨rfl,rfl⟩;refine Q3 rfl (λhh=>?_) (λhh=>?_)
 ·rw[if_pos hh]at hck;refine Qc<|Qf ?_;exact Ql ⟨[_],La,by rw[←hck,if_pos (by decide)];rfl,E.trans hu⟩
 rw[if_neg hh]at hck;have hK:e.1=((e.1.toNat:Nat):Int):=by omega
 refine QX (α:=Bool) [(31,45)] (λz=>[(31,.bool z)]) (λz w'=>Step [] w6 w'∧z=zy (pv (ls.map (·.1)) k) e.1) (by rfl) ?_ ?_
 ·refine QU (Step [] w6) [(0,true),(1,true),(2,true),(3,true),(4,true),(5,true),(6,true),(7,true),(8,true),(9,true),(10,true),(11,true),(12,true),(13,true),(14,true)] mixed (by rfl) (by kernel_rfl) (Step.drew _ _) ?_;refine p (λ_=>Qk)<|pb (λ_=>ZR O O) (λhi=>?_) (λhi=>?_)
  ·have hj:k≠0:=by have hD:(0:Int)<(k:Int):=hi;omega
   have hk1:((k:Int) - 1)=((k - 1:Nat):Int):=by omega
   have hm:k - 1<ls.length:=by omega
   refine p (λ_=>Qk)<|p (λ_=>Qa O)<|pq (λ_ hc=>Qd (G.ext hc) O O)<|p (λ_=>Qa O)<|pq (λ_ hc=>Qd ((hr.ext H).ext hc) O O) <|
    p (λ_=>Qk)<|p (λ_=>JW O O ⟨by omega,by omega⟩)<|Lg.pig (g:=Zb) (i:=k - 1) O JN (hs.ext H) O (congrArg (Value.int .i64) hk1) hm λhL hE=>p (λ_=>Zf O) <|
    pq (λ_ hc=>Qv ((hE.fld 0 _ O).ext hc) O)<|p (λ_=>Kr O O)<|p (λ_=>Qp O)<|p (λ_=>Qe)<|pe ?_
   refine⟨_,La,Step.drew _ _,?_⟩;have:pv (ls.map (·.1)) k=some (ls[k - 1]'hm).1:=by simp[pv,hj,hm]
   rw[this];rfl
  have hj:k=0:=by have hD:¬(0:Int)<(k:Int):=hi;omega
  refine p (λ_=>Qk)<|ps<|ps<|ps<|ps<|ps<|ps<|ps<|ps<|ps<|ps<|p (λ_=>Qp O)<|p (λ_=>Qe)<|pe ?_;exact⟨false,La,Step.drew _ _,by simp[pv,hj,zy]⟩
 rintro z g w7 ⟨hv,rfl⟩;have hw:=hu.trans hv;refine QZ rfl (λhn=>?_) (λhn=>?_)
 ·rw[if_pos hn]at hck;refine Qc<|Qf ?_;exact Ql ⟨[_],La,by rw[←hck,if_pos (by decide)];rfl,E.trans hw⟩
 rw[if_neg (by simp[hn])]at hck;have hy:=G.ext hv;refine QX (α:=Bool) [(46,54)] (λz=>[(46,.bool z)]) (λz w'=>Step [] w7 w'∧z=decide (e.2=0∨grt e.2=true)) (by rfl) ?_ ?_
 ·refine Qw<|x (Qa O)<|x (Qd hy O O)<|xb (Zr O O) (λho=>?_) (λho=>?_)
  ·refine Qb<|xs O<|xs O<|xs O<|x (Qp O)<|Qf ?_;exact⟨_,La,Step.refl _ _,bT (.inl ho)⟩
  refine Qb<|x (Qa O)<|x (Qd hy O O)<|xl O<|xf<|(Qci e.2 _).mono ?_;rintro r9 w9 ⟨rfl,rfl⟩;refine x (Qp O)<|Qf<|⟨grt e.2,La,Step.refl _ _,?_⟩;cases hg:grt e.2 with
  | true=>exact bT (.inr O)
  | false=>exact bF (λh=>by rcases h with h|h;exact ho h;cases h)
 rintro z g w8 ⟨hF,rfl⟩;have hz:=hw.trans hF;refine Q3 rfl (λhp=>?_) (λhp=>?_)
 ·rw[if_pos hp]at hck;refine Qc<|Qf ?_;exact Ql ⟨[_],La,by rw[←hck,if_pos (by decide)];rfl,E.trans hz⟩
 rw[if_neg hp]at hck;refine Qi<|Qw<|QP O O<|Qb<|xe ?_;exact⟨k+1,by omega,La,U,hz,hck⟩
end Go.Proofs.YtjcgijbhaemldaaGreatDoor
namespace Go.Lg
open Go.RowKit
def Qdd:Fr→LN→LV→Fr
 | f,p::ps,v::vs=>Qdd (upd f p v) ps vs
 | f,_,_=>f
theorem UH {n:Nat}{ds:LN}:∀(ps:LN) (vs:LV) (a:Act) (f:Fr),YL n ds a f→(∀p∈ps,p<n) →
  YL n ds { tmps:=(ps.zip vs).foldl (λt (x:Nat×Value)=>t.setIfInBounds x.1 x.2) a.tmps,defers:=a.defers } (Qdd f ps vs)
 | [],_,a,f,h,_=>by cases h;exact⟨by assumption,by assumption,by assumption⟩
 | p::ps,[],a,f,h,_=>by cases h;exact⟨by assumption,by assumption,by assumption⟩
 | p::ps,v::vs,a,f,h,hp=>by
  have h2:=h.put (dst:=some p) (λd e=>by cases e;exact hp p Lm) v;exact UH ps vs _ _ h2 (λq hq=>hp q (Lk _ hq))
def rdE {α:Type}(B:Nat)(L:LN)(I:List α→World→Prop)(X:Exit→List α→World→Prop)(xs:List α)(W:World):Exit→LN→Fr→World→Prop
 | .normal,_,_,W'=>Jb B L W W'∧I xs W'
 | .ret,_,_,W'=>Jb B L W W'∧X .ret xs W'
 | .exit i,_,_,W'=>Jb B L W W'∧X (.exit i) xs W'
 | _,_,_,_=>False
theorem Qkj {α:Type}{m:Nat}{P:Program}{n:Nat}{Q:Exit→LN→Fr→World→Prop}{ds:LN}{f:Fr}{w:World}{g:Operand}{ps:LN}{assign body:Code}(L:LN)(h1:1≤m)
  {gf:Nat} {fn:Func} [hF:Fu P gf fn] {capt:LV} (hg:ev f g=.func (.func gf) #[] capt.toArray) {encs:α→LV} {S Sp:List α→Prop} {N:Nat} (hp:∀p∈ps,p<n) (hc:∀x,(encs x).length=ps.length)
  (he:SeqStopsK (fen none) (m - 1) P gf capt.toArray (λx=>(encs x).toArray) (Lw w.heap.size L) S Sp N w)
  (I:List α→World→Prop) (hI:∀s,Yc w.heap.size (I s)) (X:Exit→List α→World→Prop) (hX:∀e s,Yc w.heap.size (X e s)) (h0:I [] w) (A:Fr→α→Fr→World→Prop) (hA:∀x E,Yc w.heap.size (A f x E))
  (J:∀l pre x W,I pre W→WG (some l) (m - 1 - 1) P n assign (Qde (λH E W'=>H=[]∧Jb w.heap.size L W W'∧I pre W'∧A f x E W') (λ_ _ _ _=>False)) [] (Qdd f ps (encs x)) W)
  (U:∀l pre x E W,I pre W→A f x E W→pre.length<N→WG (some l) (m - 1 - 1) P n body (rdE w.heap.size L I X (pre++[x]) W) [] E W)
  (hf:∀D xs W,w.heap.size≤D→S xs→I xs W→W.heap[D]?=some (.deferred (some []))→Q .normal (D::ds) f W)
  (V:∀D e pre W,w.heap.size≤D→Sp pre→X e pre W→W.heap[D]?=some (.deferred (some []))→(e=.ret∨∃i,e=.exit i)→Q e (D::ds) f W):
  WG none m P n (.rangeFunc g ps.toArray assign body) Q ds f w:=by
 unfold WG at J U ⊢;intro a ha;have eg:∀args w,(callFunc gf args).run P w=.ok (.enter gf args) w:=by
  intro args w;have h1:¬fn.name = "runtime.NumGoroutine" := by simpa using hF.nm
  have h2:¬fn.body=none:=by have:=hF.b;intro e;rw[e]at this;cases this
  simp[callFunc,hF.f,h1,h2]
 have keep:∀{W W':World},Jb w.heap.size L W W'→KeepsFrom w.heap.size W W':=λh=>⟨h.lw.size,λk o _ hk Y=>h.other k o hk Y⟩;refine wpIn_rangeFunc_ownH (F:=fen none) O h1 (gf:=gf) (lb:=capt.toArray) (by rw[ha.eval];exact hg) Z eg he (λh k=>h.trans k)
  (λW l o o' hl Y _ _=>⟨O,O,O,by simp,λk hk _=>World.putObj_heap_other (by omega)⟩) (Below.refl _ _) (λx=>by simp[hc x]) I
  (λc pre W=>match c with| .ret=>X .ret pre W| .exit i=>X (.exit i) pre W|_=>False) (Yc.own hI) (λc=>Yc.own λs=>?_) h0
  (λx G W=>∃E,YL n [] G E∧A f x E W) (λx G=>Yc.own λ_=>Yc.ex λE=>Yc.and (Yc.pure _) (hA x E)) ?_ ?_ ?_ ?_
 ·cases c <;> first|exact hX _ s|exact Yc.pure _
 ·intro l pre x W K hi hK;have hr:YL n [] { tmps:=(ps.toArray.zip (encs x).toArray).foldl (λt (p,v)=>t.setIfInBounds p v) a.tmps,defers:=[] } (Qdd f ps (encs x)):=by
   have h2:YL n [] { a with defers:=[] } f:=⟨ha.size,O,ha.get⟩
   have h3:=UH ps (encs x) _ _ h2 hp;have e:(ps.toArray.zip (encs x).toArray).foldl (λt (p,v)=>t.setIfInBounds p v) a.tmps=(ps.zip (encs x)).foldl (λt (x:Nat×Value)=>t.setIfInBounds x.1 x.2) a.tmps:=by simp
   rw[e];exact h3
  refine wpIn_mono (J l pre x W hi _ hr) ?_;rintro e G W' ⟨H,E,h2,_,h3⟩;cases e with
  | normal=>obtain⟨rfl,h4,h5,h6⟩:=h3;exact hK G W' (keep h4) h4.lw h5 ⟨E,h2,h6⟩
  | exit id=>exact h3.elim
  | goto l=>exact h3.elim
  | ret=>exact h3.elim
  | panic ch=>exact h3.elim
  | outgrown=>exact h3.elim
 ·rintro l pre x G W _ _ hi ⟨E,h2,h3⟩ hh;refine wpIn_mono (U l pre x E W hi h3 hh G h2) ?_;rintro e hj W' ⟨H,hm,h4,_,h5⟩;cases e with
  | normal=>exact⟨keep h5.1,h5.1.lw,h5.2⟩
  | exit id=>exact⟨keep h5.1,h5.2⟩
  | goto l=>exact h5.elim
  | ret=>exact⟨keep h5.1,h5.2⟩
  | panic ch=>exact h5.elim
  | outgrown=>exact h5.elim
 ·intro D xs W hD hS hi hd;exact⟨D::ds,f,⟨ha.size,by rw[show coll (D::ds)={ target:=.collected D,args:=#[] }::coll ds from rfl,ha.defers],ha.get⟩,λ_ _=>rfl,hf D xs W hD hS hi hd⟩
 intro D c pre W hD hS hx hd;have hb:YL n (D::ds) { a with defers:={ target:=.collected D,args:=#[] }::a.defers } f:=⟨ha.size,by rw[show coll (D::ds)={ target:=.collected D,args:=#[] }::coll ds from rfl,ha.defers],ha.get⟩
 cases c with
 | ret=>exact wpIn_ret ⟨_,f,hb,λ_ _=>O,V D .ret pre W hD hS hx hd (.inl O)⟩
 | exit i=>exact wpIn_exit ⟨_,f,hb,λ_ _=>O,V D (.exit i) pre W hD hS hx hd (.inr ⟨i,O⟩)⟩
 | _=>exact hx.elim
end Go.Lg
namespace Go.Proofs.YtjcgijbhaemldaaGreatDoor
open Go.Proofs.Tryz
open Go.Lg
theorem Qi5 {α:Type}(g:α→LV)(sz:Nat)(E:∀x,(g x).length=sz):∀(l:List α) (k:Nat),(l.flatMap g).take (k*sz)=(l.take k).flatMap g
 | [],k=>by simp
 | e::l,0=>by simp
 | e::l,k+1=>by
  simp only[List.flatMap_cons,List.take_succ_cons,Nat.add_mul,Nat.one_mul];rw[MT,List.take_append,E,show sz+k*sz - sz=k*sz by omega,Qi5 g sz E l k,Lp (by rw[E];omega)]
theorem Qe0 {gf:Nat}{fn:Func}[Fu prog gf fn]{capt:LV}{nms:List ByteArray}{s:ByteArray}(hj:yC s){w:World}{N:Nat}
  (hk:∀(w':World) (L:LN),Step [] w w'→(∀b∈L,w.heap.size≤b)→SeqStopsK (fen none) 9 prog gf capt.toArray (λx:{ x:ByteArray // x∈nms }=>[Value.string x.1].toArray) (Lw w'.heap.size L) (λys=>ys.map (·.1)=nms) (λ_=>True) N w'):
  QH prog 176 [.string s,.func (.func gf) #[] capt.toArray] w λr w'=>r=.int .i64 (KY nms s)∧Step [] w w':=by
 refine QH.of_G 10 func176 O ntmps176 results176 (by simp) ?_;refine Q2<|QK (by rfl) (by rfl) ?_;refine xl rfl<|QR (us:=[.string s]) O λb2 w1 hl hq hg=>xl O<|Qu (us:=[.int .i64 0]) O λG w2 hh hs he=>xe ?_;have J:=hl.trans hh;have ht:=he.lt;have hi:=hg.ext hh;have hu:=hg.lt;refine Q2<|Q2<|QK (by rfl) (by rfl) ?_;refine x (Qd hi O O)<|xl O<|xf<|(U4 s hj _).mono ?_
 rintro r3 w3 ⟨rfl,rfl⟩;refine x (Zt O)<|xe<|K8 rfl (λh8=>?_) (λh8=>?_)
 ·have Y:Xl s=false:=by simpa using h8
  have U:KY nms s=7:=by unfold KY;rw[if_pos Y]
  refine Q2<|QK (by rfl) (by rfl) ?_;refine xl O<|QF (j:=0) (u:=.int .i64 7) he O O (by decide) O λw4 I V=>xe ?_;refine K7 ⟨λ_ h=>(by cases h),ME,[.int .i64 7],λW' H=>⟨⟨⟨_,rfl,YY (At.one ((V.ext H).at (L:=[]) (by simp)))⟩,Z⟩,by rw[U];rfl,(J.then1 I (by omega)).trans H⟩⟩
 have Y:¬Xl s=false:=by simpa using h8
 refine Yj<|Q2<|Q2<|QK (by rfl) (by rfl) ?_;refine Qb<|xe<|ZS<|Qkj (α:={ x:ByteArray // x∈nms }) (ps:=[10]) [G] (by omega) (capt:=capt) O (encs:=λx=>[.string x.1]) (by simp) (λ_=>rfl)
  (hk w3 [G] J (λb hb=>by simp at hb;omega))
  (λpre W=>Step [G] w3 W∧QT W.heap b2 9 [.string s]∧QT W.heap G 42 [.int .i64 0]∧∀x∈pre,x.1≠s)
  (λpre=>(Yc.step (Lu _)).and (Yc.blk.and (Yc.blk.and (Yc.pure _))))
  (λe pre W=>e=.ret∧Step [G] w3 W∧QT W.heap G 42 [.int .i64 8]∧s∈nms)
  (λe pre=>(Yc.pure _).and ((Yc.step (Lu _)).and (Yc.blk.and (Yc.pure _))))
  ⟨Step.refl _ _,hi,he,λx hx=>by cases hx⟩
  (λf x f' W=>f'=upd (Qdd f [10] [.string x.1]) 5 (.string x.1)) (λx f'=>Yc.pure _) ?_ ?_ ?_ ?_
 ·rintro l pre x W ⟨h1,h2,h3,h4⟩;refine QK (by rfl) (by rfl) ?_;refine Lg.Qf ?_;exact⟨O,Jb.refl _ _ _,⟨h1,h2,h3,h4⟩,O⟩
 ·rintro l pre x f' W ⟨h1,h2,h3,h4⟩ rfl _;refine ZS<|Q2<|QK (by rfl) (by rfl) ?_;refine Lg.Qb<|Lg.x (Qd h2 O O)<|Lg.x (Qaq O O)<|xe<|Qo7 O (λhf=>?_) (λhf=>?_)
  ·refine Q2<|QK (by rfl) (by rfl) ?_;refine xl O<|QF (j:=0) (u:=.int .i64 8) h3 O O (by decide) O λw4 I V=>xe ?_;refine K7 ?_;exact⟨Jb.blk I h1.size h3 (.inl (by simp)),rfl,h1.trans' I,V,by rw[←hf];exact x.2⟩
  refine Yj<|⟨Jb.refl _ _ _,h1,h2,h3,λy hy=>?_⟩;rcases Lo.1 hy with hy|hy
  ·exact h4 y hy
  simp only[List.mem_singleton]at hy;subst hy;exact hf
 ·rintro D xs W hD ho ⟨h1,h2,h3,h4⟩ ha;have U:KY nms s=0:=by
   unfold KY;rw[if_neg Y,if_neg];intro hm;rw[←ho]at hm;obtain⟨y,hy,e⟩:=Lq.1 hm;exact h4 y hy e
  refine Q2<|QK (by rfl) (by rfl) ?_;refine xl O<|QF (j:=0) (u:=.int .i64 0) h3 O O (by decide) O λw4 I V=>xe ?_;have hc:D≠G:=by omega
  have hp:w4.heap[D]?=some (.deferred (some [])):=by rw[I.block D (LH.1 ha).1 (by simpa using hc)];exact ha
  refine K7 ⟨λE hE=>by simp only[List.mem_singleton]at hE;subst hE;exact hp,by simp,[.int .i64 0],λW' H=>?_⟩;refine⟨⟨⟨_,O,YY (At.one ((V.step H (by simpa using hc.symm)).at (L:=[]) (by simp)))⟩,Z⟩,by rw[U];rfl,?_⟩;exact((J.then h1 (λb hb=>.inr (by simp at hb;omega))).then1 I (by omega)).then H (λb hb=>.inr (by simp at hb;have:=J.size;omega))
 rintro D e pre W hD _ ⟨rfl,h1,h3,h4⟩ ha _;have U:KY nms s=8:=by unfold KY;rw[if_neg Y,if_pos h4]
 have hc:D≠G:=by omega
 refine⟨λE hE=>by simp only[List.mem_singleton]at hE;subst hE;exact ha,by simp,[.int .i64 8],λW' H=>?_⟩;refine⟨⟨⟨_,O,YY (At.one ((h3.step H (by simpa using hc.symm)).at (L:=[]) (by simp)))⟩,Z⟩,by rw[U];rfl,?_⟩;exact(J.then h1 (λb hb=>.inr (by simp at hb;omega))).then H (λb hb=>.inr (by simp at hb;have:=J.size;omega))
end Go.Proofs.YtjcgijbhaemldaaGreatDoor
namespace Go.Lg
theorem Jt.pre3 {P:Program}{m:Nat}{ops:List Oper}{K:Fr→World→Prop}{o1 o2 o3:Oper}{l2:List Oper}{f:Fr}{w:World}(h:XL P ops (λf w=>Jt P m ops K l2 f w) [o1,o2,o3] f w):Jt P m ops K (o1::o2::o3::l2) f w:=Jt.pre [o1,o2,o3] f w h
end Go.Lg
namespace Go.Proofs.YtjcgijbhaemldaaGreatDoor
open Go.Proofs.Tryz
open Go.Lg
theorem Qjk {L:LN}{w:World}{H I i m:Nat}{vs vx vk:Value}{qs:List XV}{nms:List ByteArray}(hr:QT w.heap H 240 [vs,vx,vk])(hs:QT w.heap I 3 [.int .i64 i])(hX:qL L w.heap vx qs)(hi:i≤qs.length)(hn:nms=(qs.take i).map (·.nm)):
  SeqStopsK (fen none) m prog 175 [.pointer (some ⟨H,0,none⟩),.pointer (some ⟨I,0,none⟩)].toArray (λx:{ x:ByteArray // x∈nms }=>[Value.string x.1].toArray) (Lw w.heap.size L)
   (λE=>E.map (·.1)=nms) (λ_=>True) (nms.length+1) w:=by
 intro l J Jx W ht hJ hu hY h0;have hc:Step [] w W:=Step.of_below ht;have ab:∀{E:List { x:ByteArray // x∈nms }} {W1 W2:World},J E W1→Step [] W1 W2→J E W2:=λ{E W1 W2} hj U=>hJ E W1 W2 none hj ⟨U.os,U.tape,U.output,U.size,λk hk _=>U.block k hk (by simp)⟩ (λr e=>by cases e);have hA:=hX.arr.le;have hB:nms.length=i:=by rw[hn];simp;omega
 have key:QH prog 175 [.func (.yield l) #[] #[],.pointer (some ⟨H,0,none⟩),.pointer (some ⟨I,0,none⟩)] W (λ_ W'=>(∃E,E.map (·.1)=nms∧J E W')∨(∃pre,True∧Jx pre W')):=by
  refine QH.of_G m func175 O ntmps175 results175 (by simp) ?_;have hv:=hr.ext hc;have hw:=hs.ext hc;refine Q2<|QK (by rfl) (by rfl) ?_;refine x (Qa O)<|x (Qd hv O O)<|x (Qd hw O O)<|Qpq hX.arr O O hi λv9 hl=>x (Qr hl O)<|Qb<|xe ?_;have hy:(qs.take i).length=i:=by simp;omega
  have hS:Zy L w.heap v9 (qs.take i).length 2 ((qs.take i).flatMap ZF):=by
   rw[hy,←Qi5 ZF 2 KC];exact hl
  refine ZS<|VP (α:=Nat×List { x:ByteArray // x∈nms }) [(5,5),(11,20)] (λz=>[(11,.int .i64 z.1)]) (λz ds W'=>ds=[]∧z.1≤i∧Step L w W'∧z.2.map (·.1)=nms.take z.1∧J z.2 W') (λz=>i - z.1) (by rfl) (0,[]) La
   ⟨O,Ll _,hc.any,O,h0⟩ ?_
  rintro⟨k,E⟩ g ds w1 ⟨rfl,hk,hm,V,hf⟩;simp only[]at hk V hf;refine Q2<|QK (by rfl) (by rfl) ?_;refine x (QA O O)<|xe<|Q2<|yx O (λho=>?_) (λho=>?_)
  ·refine Kp ?_;rw[Lp (by omega)]at V;exact⟨λ_ h=>(by cases h),ME,[],λW' G=>⟨Z,.inl ⟨E,V,ab hf G⟩⟩⟩
  refine Yj ?_;have hz:k<i:=by have hg:(k:Int)<(i:Int):=ho;omega
  have ha:k<(qs.take i).length:=by omega
  have hb:k<nms.length:=by omega
  have hh:nms.take (k+1)=nms.take k++[nms[k]'hb]:=Li hb;have hC:E.length=k:=by have:=congrArg List.length V;rw[Lh,LC]at this;omega
  have h2:nms[k]'hb=((qs.take i)[k]'ha).nm:=by subst hn;simp
  have Y:=Lc hb;rw[h2]at hh Y;refine Q2<|ZS<|Q2<|QK (by rfl) (by rfl) ?_;refine xig KC (i:=k) (hS.st hm) O O ha λhD hg=>?_;refine Zj ((qs.take i)[k]'ha) λq hq=>?_;rw[hq]at hg hh Y;have h3:=(hX.each q (L2 (by rw[←hq];exact Lc ha))).one
  refine x (QI hg O O)<|xl O<|Qu (us:=[.string .empty,nS]) O λb5 w2 h4 h5 h6=>xl O<|Qn (us:=ZF q) h6 O O O O ⟨O,h3,Z⟩ λw3 h7 h8=>xe ?_;have hp:Step [] w1 w3:=h4.then1 h7 h5;refine Q2<|Vn (by rfl) ?_;refine Jt.pre3 ?_;refine Qb<|x (Qa O)<|x (Qd h8 O O)<|xe ?_
  refine xy (l:=l) O (hY E ⟨q.nm,Y⟩ w3 (ab hf hp) (by omega)) λen W3 h9=>Or.elim h9 (λh1=>⟨.bool true,h1.1,?_⟩) (λh1=>⟨.bool false,h1.1,?_⟩)
  ·refine Jt.of_XL<|x (Zt O)<|xe<|Vo O<|Yj ?_;refine QK (by rfl) (by rfl) ?_;refine QP O O<|Qb<|xe ?_;exact⟨(k+1,E++[⟨q.nm,Y⟩]),by simp only[];omega,La,O,hz,(hm.trans hp).lw h1.2.2,by rw[hh,Lx,V];rfl,h1.2.1⟩
  refine Jt.of_XL<|x (Zt O)<|xe<|Qbe O ?_;refine K7 ⟨λ_ h=>(by cases h),ME,[],λW' G=>⟨Z,.inr ⟨E++[⟨q.nm,Y⟩],Z,?_⟩⟩⟩;exact hu _ W3 W' none h1.2 ⟨G.os,G.tape,G.output,G.size,λk hk _=>G.block k hk (by simp)⟩ (λr e=>by cases e)
 refine(callsIn_wide (n:=m)).2 ?_;have ea:(#[.func (.yield l) #[] #[]]++[.pointer (some ⟨H,0,none⟩),.pointer (some ⟨I,0,none⟩)].toArray:Array Value)=[.func (.yield l) #[] #[],.pointer (some ⟨H,0,none⟩),.pointer (some ⟨I,0,none⟩)].toArray:=by simp
 rw[ea];unfold QH at key;refine Calls.mono key λe w' he=>?_;cases e with
 | returned v=>exact⟨⟨v,O⟩,he⟩
 | panicked c=>exact he.elim
 | outgrown=>exact he.elim
theorem QjE {L:LN}{w:World}{H I i m:Nat}{vs vx vk:Value}{qs:List KV}{nms:List ByteArray}(hr:QT w.heap H 240 [vs,vx,vk])(hs:QT w.heap I 3 [.int .i64 i])(hX:jV L w.heap vk qs)(hi:i≤qs.length)(hn:nms=(qs.take i).map (·.nm)):
  SeqStopsK (fen none) m prog 178 [.pointer (some ⟨H,0,none⟩),.pointer (some ⟨I,0,none⟩)].toArray (λx:{ x:ByteArray // x∈nms }=>[Value.string x.1].toArray) (Lw w.heap.size L)
   (λE=>E.map (·.1)=nms) (λ_=>True) (nms.length+1) w:=by
 intro l J Jx W ht hJ hu hY h0;have hc:Step [] w W:=Step.of_below ht;have ab:∀{E:List { x:ByteArray // x∈nms }} {W1 W2:World},J E W1→Step [] W1 W2→J E W2:=λ{E W1 W2} hj U=>hJ E W1 W2 none hj ⟨U.os,U.tape,U.output,U.size,λk hk _=>U.block k hk (by simp)⟩ (λr e=>by cases e);have hA:=hX.arr.le;have hB:nms.length=i:=by rw[hn];simp;omega
 have key:QH prog 178 [.func (.yield l) #[] #[],.pointer (some ⟨H,0,none⟩),.pointer (some ⟨I,0,none⟩)] W (λ_ W'=>(∃E,E.map (·.1)=nms∧J E W')∨(∃pre,True∧Jx pre W')):=by
  refine QH.of_G m func178 O ntmps178 results178 (by simp) ?_;have hv:=hr.ext hc;have hw:=hs.ext hc;refine Q2<|QK (by rfl) (by rfl) ?_;refine x (Qa O)<|x (Qd hv O O)<|x (Qd hw O O)<|Qpq hX.arr O O hi λv9 hl=>x (Qr hl O)<|Qb<|xe ?_;have hy:(qs.take i).length=i:=by simp;omega
  have hS:Zy L w.heap v9 (qs.take i).length 3 ((qs.take i).flatMap ZH):=by
   rw[hy,←Qi5 ZH 3 Kh];exact hl
  refine ZS<|VP (α:=Nat×List { x:ByteArray // x∈nms }) [(5,5),(11,20)] (λz=>[(11,.int .i64 z.1)]) (λz ds W'=>ds=[]∧z.1≤i∧Step L w W'∧z.2.map (·.1)=nms.take z.1∧J z.2 W') (λz=>i - z.1) (by rfl) (0,[]) La
   ⟨O,Ll _,hc.any,O,h0⟩ ?_
  rintro⟨k,E⟩ g ds w1 ⟨rfl,hk,hm,V,hf⟩;simp only[]at hk V hf;refine Q2<|QK (by rfl) (by rfl) ?_;refine x (QA O O)<|xe<|Q2<|yx O (λho=>?_) (λho=>?_)
  ·refine Kp ?_;rw[Lp (by omega)]at V;exact⟨λ_ h=>(by cases h),ME,[],λW' G=>⟨Z,.inl ⟨E,V,ab hf G⟩⟩⟩
  refine Yj ?_;have hz:k<i:=by have hg:(k:Int)<(i:Int):=ho;omega
  have ha:k<(qs.take i).length:=by omega
  have hb:k<nms.length:=by omega
  have hh:nms.take (k+1)=nms.take k++[nms[k]'hb]:=Li hb;have hC:E.length=k:=by have:=congrArg List.length V;rw[Lh,LC]at this;omega
  have h2:nms[k]'hb=((qs.take i)[k]'ha).nm:=by subst hn;simp
  have Y:=Lc hb;rw[h2]at hh Y;refine Q2<|ZS<|Q2<|QK (by rfl) (by rfl) ?_;refine xig Kh (i:=k) (hS.st hm) O O ha λhD hg=>?_;refine Zj ((qs.take i)[k]'ha) λq hq=>?_;rw[hq]at hg hh Y;have h3:=(hX.each q (L2 (by rw[←hq];exact Lc ha))).one
  refine x (QI hg O O)<|xl O<|Qu (us:=[.string .empty,nS,.int .i64 0]) O λb5 w2 h4 h5 h6=>xl O<|Qn (us:=ZH q) h6 O O O O ⟨O,h3,O,Z⟩ λw3 h7 h8=>xe ?_;have hp:Step [] w1 w3:=h4.then1 h7 h5;refine Q2<|Vn (by rfl) ?_;refine Jt.pre3 ?_;refine Qb<|x (Qa O)<|x (Qd h8 O O)<|xe ?_
  refine xy (l:=l) O (hY E ⟨q.nm,Y⟩ w3 (ab hf hp) (by omega)) λen W3 h9=>Or.elim h9 (λh1=>⟨.bool true,h1.1,?_⟩) (λh1=>⟨.bool false,h1.1,?_⟩)
  ·refine Jt.of_XL<|x (Zt O)<|xe<|Vo O<|Yj ?_;refine QK (by rfl) (by rfl) ?_;refine QP O O<|Qb<|xe ?_;exact⟨(k+1,E++[⟨q.nm,Y⟩]),by simp only[];omega,La,O,hz,(hm.trans hp).lw h1.2.2,by rw[hh,Lx,V];rfl,h1.2.1⟩
  refine Jt.of_XL<|x (Zt O)<|xe<|Qbe O ?_;refine K7 ⟨λ_ h=>(by cases h),ME,[],λW' G=>⟨Z,.inr ⟨E++[⟨q.nm,Y⟩],Z,?_⟩⟩⟩;exact hu _ W3 W' none h1.2 ⟨G.os,G.tape,G.output,G.size,λk hk _=>G.block k hk (by simp)⟩ (λr e=>by cases e)
 refine(callsIn_wide (n:=m)).2 ?_;have ea:(#[.func (.yield l) #[] #[]]++[.pointer (some ⟨H,0,none⟩),.pointer (some ⟨I,0,none⟩)].toArray:Array Value)=[.func (.yield l) #[] #[],.pointer (some ⟨H,0,none⟩),.pointer (some ⟨I,0,none⟩)].toArray:=by simp
 rw[ea];unfold QH at key;refine Calls.mono key λe w' he=>?_;cases e with
 | returned v=>exact⟨⟨v,O⟩,he⟩
 | panicked c=>exact he.elim
 | outgrown=>exact he.elim
set_option maxHeartbeats 4000000 in
theorem zR {w:World}{vs vx vk:Value}{sz:LI}{qx:List XV}{ks:List KV}(hS:QJ [] w.heap vs sz)(hX:qL [] w.heap vx qx)(hK:jV [] w.heap vk ks):
  QH prog 134 [.agg #[vs,vx,vk]] w λr w'=>r=.int .i64 (YN sz (qx.map (·.x)) (ks.map (·.k)))∧Step [] w w':=by
 have hY:=hS.le;have hZ:=hX.arr.le;have ga:=hK.arr.le;refine QH.of_W func134 O ntmps134 results134 (by simp) ?_;refine Qc<|xl O<|QR (us:=[vs,vx,vk]) O λb1 w1 G gb V=>Qf<|Qg<|Qc<|x (Qa O)<|x (Qd V O O)<|x (Qr (hS.ext G) O)<|x (ZR O O)<|xe<|Q3 rfl (λh1=>?_) (λh1=>?_)
 ·refine Qc<|Qf ?_;exact Ql ⟨[_],La,by unfold YN;rw[if_pos (by have hP:(8:Int)<(sz.length:Int):=h1;omega)];rfl,G⟩
 have hz:¬8<sz.length:=by have hP:¬(8:Int)<(sz.length:Int):=h1;omega
 refine Qi<|Qg<|Qc<|x (Qa O)<|x (Qd V O O)<|x (Qr (hS.ext G) O)<|Qb<|xe<|Qh<|Qz (α:=Nat) [(2,2),(4,4),(22,32)] (λz=>[(22,.int .i64 z)]) (λz w'=>z≤sz.length∧w'=w1∧(sz.drop z).any Kt=sz.any Kt) (λz=>sz.length - z) (by rfl) 0 La
  ⟨Ll _,O,O⟩ ?_
 rintro k g w2 ⟨hk,rfl,hc⟩;refine Qc<|x (QA O O)<|xe<|Qg<|QC O (λh2=>?_) (λh2=>?_)
 ·refine Qy ?_;have hl:sz.length≤k:=by have h0:¬(k:Int)<(sz.length:Int):=h2;omega
  rw[Lv hl]at hc;have h3:¬sz.any Kt=true:=by rw[←hc];decide
  refine Qg<|QX (α:=Bool) [(33,42)] (λz=>[(42,.bool z)]) (λz w'=>w'=w2∧z=decide (32<qx.length∨32<ks.length)) (by rfl) ?_ ?_
  ·refine Qw<|x (Qa O)<|x (Qd V O O)<|x (Qr (hX.ext G).arr O)<|xb (ZR O O) (λhQ=>?_) (λhQ=>?_)
   ·refine Qb<|xs O<|xs O<|xs O<|xs O<|x (Qp O)<|xe ?_;exact⟨_,La,O,by first|exact bT (by omega)|exact bF (by omega)|exact bD (by omega)⟩
   refine Qb<|x (Qa O)<|x (Qd V O O)<|x (Qr (hK.ext G).arr O)<|x (ZR O O)<|x (Qp O)<|xe ?_;exact⟨_,La,O,by first|exact bT (by omega)|exact bF (by omega)|exact bD (by omega)⟩
  rintro z g Y ⟨rfl,rfl⟩;refine Q3 O (λh4=>?_) (λh4=>?_)
  ·refine Qc<|Qf ?_;exact Ql ⟨[_],La,by unfold YN;rw[if_neg hz,if_neg h3,if_pos (by simpa using h4)];rfl,G⟩
  have hM:¬(32<(qx.map (·.x)).length∨32<(ks.map (·.k)).length):=by simpa using h4
  have hN:Yr sz [] (qx.map (·.x))≠0→YN sz (qx.map (·.x)) (ks.map (·.k))=Yr sz [] (qx.map (·.x)):=λh=>by
   unfold YN;rw[if_neg hz,if_neg h3,if_neg hM,if_pos h]
  have hR:Yr sz [] (qx.map (·.x))=0→YN sz (qx.map (·.x)) (ks.map (·.k))=Y4 sz [] (ks.map (·.k)):=λh=>by
   unfold YN;rw[if_neg hz,if_neg h3,if_neg hM,if_neg (by rw[h];exact λh=>h O)]
  refine Qi<|Qg<|Qc<|x (Qa O)<|x (Qd (V.ext (Step.refl [] Y)) O O)<|x (Qr ((hX.ext G).ext (Step.refl [] Y)).arr O)<|Qb<|xe<|Qh<|Qz (α:=Nat) [(2,2),(5,9),(46,65)] (λz=>[(46,.int .i64 z)]) (λz w'=>z≤qx.length∧Step [] Y w'∧Yr sz ((qx.take z).map (·.nm)) ((qx.drop z).map (·.x))=Yr sz [] (qx.map (·.x))) (λz=>qx.length - z) (by rfl) 0 La
   ⟨Ll _,(Step.refl [] Y),O⟩ ?_
  rintro k g wA ⟨hk,H,hck⟩;refine Qc<|x (QA O O)<|xe<|Qg<|QC O (λhe=>?_) (λhe=>?_)
  ·refine Qy ?_;have hl:qx.length≤k:=by have h5:¬(k:Int)<(qx.length:Int):=he;omega
   rw[Lv hl]at hck;have hT:Yr sz [] (qx.map (·.x))=0:=hck.symm;have h6:=hR hT;refine Qg<|Qc<|x (Qa O)<|x (Qd (V.ext H) O O)<|x (Qr ((hK.ext G).ext H).arr O)<|Qb<|xe ?_
   refine Qh<|Qz (α:=Nat) [(2,2),(10,14),(69,88)] (λz=>[(69,.int .i64 z)]) (λz w'=>z≤ks.length∧Step [] Y w'∧Y4 sz ((ks.take z).map (·.nm)) ((ks.drop z).map (·.k))=Y4 sz [] (ks.map (·.k))) (λz=>ks.length - z) (by rfl) 0 La
    ⟨Ll _,H,O⟩ ?_
   rintro k g wA ⟨hk,H,hck⟩;refine Qc<|x (QA O O)<|xe<|Qg<|QC O (λhe=>?_) (λhe=>?_)
   ·refine Qy ?_;have hl:ks.length≤k:=by have h5:¬(k:Int)<(ks.length:Int):=he;omega
    rw[Lv hl]at hck;have hU:Y4 sz [] (ks.map (·.k))=0:=hck.symm;refine Qc<|Qf ?_;exact Ql ⟨[_],La,by rw[h6,hU];rfl,G.trans H⟩
   have E:k<ks.length:=by have h5:(k:Int)<(ks.length:Int):=he;omega
   have hm:(ks.take (k+1)).map (·.nm)=(ks.take k).map (·.nm)++[(ks[k]'E).nm]:=by rw[Li E,Lx];rfl
   rw[Q5 E,LX]at hck;have hf:=Lc E;have I:=(hK.ext G).ext H;have h7:=V.ext H;refine Qi<|Qg<|Qh<|Qc<|Qb<|xig Kh I.arr O O E λaA hA=>?_;refine Zj (ks[k]'E) λq hq=>?_;rw[hq]at hA hck hm hf;have ho:=I.each q hf
   refine x (QI hA O O)<|xl O<|Qu (us:=[.int .i64 0]) O λb5 Y hp h8 hg=>xl O<|Qu (us:=[.string .empty,nS,.int .i64 0]) O λb6 w4 hr hV h9 =>
    xl rfl<|QF (j:=0) (u:=.int .i64 k) (hg.ext hr) O O (by decide) O λw5 hs hB=>xl O<|Qn (us:=ZH q) (h9.step hs (by have:=hg.lt;simp;omega)) O O O O ⟨O,ho.one,O,Z⟩ λw6 ht hu=>xe ?_
   have hW:b5<b6:=by have:=hg.lt;omega
   have hh:Step [] wA w6:=((hp.trans hr).then1 hs h8).then1 ht (by have:=hp.size;omega);have hC:QT w6.heap b5 3 [.int .i64 k]:=hB.step ht (by simp;omega);have hv:=h7.ext hh;have hD:=I.ext hh
   refine Qc<|x Zo<|Qf<|Qg<|Qc<|x (Qa O)<|x (Qd hu O O)<|Qb<|xl O<|xf<|(Qe0 (nms:=(ks.take k).map (·.nm)) (capt:=[.pointer (some ⟨b1,0,none⟩),.pointer (some ⟨b5,0,none⟩)]) (I.nm q hf) (λw' L hi hL=>QjE (hv.ext hi) (hC.ext hi) ((hD.up (λb hb=>.inr (hL b hb))).ext hi) hk O)).mono ?_;rintro r7 w7 ⟨rfl,hj⟩;refine Qf ?_;have J:=hh.trans hj;refine Qc<|Qb<|x (Q6 O O)<|xe ?_
   refine Q3 O (λha=>?_) (λha=>?_)
   ·have e1:Y4 sz [] (ks.map (·.k))=KY ((ks.take k).map (·.nm)) q.nm:=by rw[←hck];exact if_pos ha
    refine Qc<|Qb<|Qf ?_;exact Ql ⟨[_],La,by rw[h6,e1];rfl,G.trans (H.trans J)⟩
   have hw:(if Xp sz q.k≠0 then Xp sz q.k else Y4 sz ((ks.take k).map (·.nm)++[q.nm]) ((ks.drop (k+1)).map (·.k)))=Y4 sz [] (ks.map (·.k)):=by rw[←hck];exact(if_neg ha).symm
   refine Qi ?_;have hE:=hv.ext hj;have hF:=hu.ext hj;refine Qc<|x (Qo hE O O)<|x (Qo hF O O)<|xl O<|xf<|(VL (((hS.ext G).ext H).ext J) (ho.ext J)).mono ?_;rintro r8 w8 ⟨rfl,hG⟩;refine Qf ?_;have hy:=J.trans hG;refine Qc<|Qb<|x (Q6 O O)<|xe<|Q3 O (λU=>?_) (λU=>?_)
   ·have e1:Y4 sz [] (ks.map (·.k))=Xp sz q.k:=by rw[←hw];exact if_pos U
    have hO:Xp sz q.k≠0:=U;refine Qc<|Qb<|Qf ?_;exact Ql ⟨[_],La,by rw[h6,e1];rfl,G.trans (H.trans hy)⟩
   have hH:Y4 sz ((ks.take k).map (·.nm)++[q.nm]) ((ks.drop (k+1)).map (·.k))=Y4 sz [] (ks.map (·.k)):=by rw[←hw];exact(if_neg U).symm
   refine Qi<|Qw<|QP O O<|Qb<|xe ?_;exact⟨k+1,by omega,La,E,H.trans hy,by rw[hm];exact hH⟩
  have E:k<qx.length:=by have h5:(k:Int)<(qx.length:Int):=he;omega
  have hm:(qx.take (k+1)).map (·.nm)=(qx.take k).map (·.nm)++[(qx[k]'E).nm]:=by rw[Li E,Lx];rfl
  rw[Q5 E,LX]at hck;have hf:=Lc E;have I:=(hX.ext G).ext H;have h7:=V.ext H;refine Qi<|Qg<|Qh<|Qc<|Qb<|xig KC I.arr O O E λaA hA=>?_;refine Zj (qx[k]'E) λq hq=>?_;rw[hq]at hA hck hm hf;have ho:=I.each q hf;refine x (QI hA O O)<|xl O<|Qu (us:=[.int .i64 0]) O λb5 Y hp h8 hg=>xl O<|Qu (us:=[.string .empty,nS]) O λb6 w4 hr hV h9 =>
   xl rfl<|QF (j:=0) (u:=.int .i64 k) (hg.ext hr) O O (by decide) O λw5 hs hB=>xl O<|Qn (us:=ZF q) (h9.step hs (by have:=hg.lt;simp;omega)) O O O O ⟨O,ho.one,Z⟩ λw6 ht hu=>xe ?_
  have hW:b5<b6:=by have:=hg.lt;omega
  have hh:Step [] wA w6:=((hp.trans hr).then1 hs h8).then1 ht (by have:=hp.size;omega);have hC:QT w6.heap b5 3 [.int .i64 k]:=hB.step ht (by simp;omega);have hv:=h7.ext hh;have hD:=I.ext hh
  refine Qc<|x Zo<|Qf<|Qg<|Qc<|x (Qa O)<|x (Qd hu O O)<|Qb<|xl O<|xf<|(Qe0 (nms:=(qx.take k).map (·.nm)) (capt:=[.pointer (some ⟨b1,0,none⟩),.pointer (some ⟨b5,0,none⟩)]) (I.nm q hf) (λw' L hi hL=>Qjk (hv.ext hi) (hC.ext hi) ((hD.up (λb hb=>.inr (hL b hb))).ext hi) hk O)).mono ?_;rintro r7 w7 ⟨rfl,hj⟩;refine Qf ?_;have J:=hh.trans hj;refine Qc<|Qb<|x (Q6 O O)<|xe ?_
  refine Q3 O (λha=>?_) (λha=>?_)
  ·have e1:Yr sz [] (qx.map (·.x))=KY ((qx.take k).map (·.nm)) q.nm:=by rw[←hck];exact if_pos ha
   refine Qc<|Qb<|Qf ?_;exact Ql ⟨[_],La,by rw[hN (by rw[e1];exact ha),e1];rfl,G.trans (H.trans J)⟩
  have hw:(if JI sz q.ls≠0 then JI sz q.ls else Yr sz ((qx.take k).map (·.nm)++[q.nm]) ((qx.drop (k+1)).map (·.x)))=Yr sz [] (qx.map (·.x)):=by rw[←hck];exact(if_neg ha).symm
  refine Qi ?_;have hE:=hv.ext hj;have hF:=hu.ext hj;refine Qc<|x (Qo hE O O)<|x (Qo hF O O)<|xl O<|xf<|(Us (((hS.ext G).ext H).ext J) (ho.ext J)).mono ?_;rintro r8 w8 ⟨rfl,hG⟩;refine Qf ?_;have hy:=J.trans hG;refine Qc<|Qb<|x (Q6 O O)<|xe<|Q3 O (λU=>?_) (λU=>?_)
  ·have e1:Yr sz [] (qx.map (·.x))=JI sz q.ls:=by rw[←hw];exact if_pos U
   have hO:JI sz q.ls≠0:=U;refine Qc<|Qb<|Qf ?_;exact Ql ⟨[_],La,by rw[hN (by rw[e1];exact hO),e1];rfl,G.trans (H.trans hy)⟩
  have hH:Yr sz ((qx.take k).map (·.nm)++[q.nm]) ((qx.drop (k+1)).map (·.x))=Yr sz [] (qx.map (·.x)):=by rw[←hw];exact(if_neg U).symm
  refine Qi<|Qw<|QP O O<|Qb<|xe ?_;exact⟨k+1,by omega,La,E,H.trans hy,by rw[hm];exact hH⟩
 have E:k<sz.length:=by have h0:(k:Int)<(sz.length:Int):=h2;omega
 rw[Q5 E,Nw]at hc;refine Qi<|Qg<|Qh<|Qc<|xii (hS.ext G) O O E λgc h0=>?_;refine Zj (sz[k]'E) λn hn=>?_;rw[hn]at h0 hc;refine x (Qv h0 O)<|Qf<|QX (α:=Bool) [(26,31)] (λz=>[(31,.bool z)]) (λz w'=>w'=w2∧z=Kt n) (by rfl) ?_ ?_
 ·refine Qw<|Qb<|xb (QA O O) (λhI=>?_) (λhI=>?_)
  ·refine Qb<|xs O<|xs O<|x (Qp O)<|xe ?_;exact⟨_,La,O,by unfold Kt;rw[decide_eq_true hI];rfl⟩
  refine Qb<|Qb<|x (ZR O O)<|x (Qp O)<|xe ?_;exact⟨_,La,O,by unfold Kt;rw[decide_eq_false hI];rfl⟩
 rintro z g Y ⟨rfl,rfl⟩;refine QZ rfl (λhJ=>?_) (λhJ=>?_)
 ·refine Qc<|Qf ?_;exact Ql ⟨[_],La,by unfold YN;rw[if_neg hz,if_pos (by rw[←hc,hJ];rfl)];rfl,G⟩
 rw[hJ,Bool.false_or]at hc;refine Qi<|Qw<|QP O O<|Qb<|xe ?_;exact⟨k+1,by omega,La,E,O,hc⟩
theorem Yg {α:Type}(q:α→Bool)(i:Nat)(a:α)(l:List α):fix q i (a::l)=if q a=true then(i:Int)else fix q (i+1) l:=rfl
theorem QdQ {α:Type}(q:α→Bool):∀(l:List α) (i:Nat),fix q i l=-1∨((i:Int)≤fix q i l∧fix q i l<(i:Int)+l.length)
 | [],i=>.inl O
 | a::l,i=>by
  rw[Yg];split
  ·right;simp only[List.length_cons];omega
  rcases QdQ q l (i+1)with h|h
  ·exact .inl h
  right;simp only[List.length_cons];omega
theorem Uk {α:Type}(q:α→Bool):∀(l:List α) (i:Nat),decide (0≤fix q i l)=l.any q
 | [],i=>rfl
 | a::l,i=>by
  rw[Yg,Nw];cases h:q a with
  | true=>rw[if_pos rfl];simp
  | false=>rw[if_neg (by decide),Uk q l (i+1)];rfl
theorem zN {α:Type}(q:α→Bool)(m:List α):∀(l:List α) (i:Nat),fix q i (l++m)=if 0≤fix q i l then fix q i l else fix q (i+l.length) m
 | [],i=>by
  show fix q i m=if(0:Int)≤-1 then(-1)else fix q i m
  rw[if_neg (by decide)]
 | a::l,i=>by
  rw[Mq,Yg,Yg];by_cases h:q a=true
  ·rw[if_pos h,if_pos h,if_pos (by omega)]
  rw[if_neg h,if_neg h,zN q m l (i+1),LF];rw[show i+1+l.length=i+(l.length+1) by omega]
theorem jD {α:Type}(q:α→Bool)(d:Nat):∀(l:List α) (i:Nat),fix q (i+d) l=if 0≤fix q i l then fix q i l+d else -1
 | [],i=>rfl
 | a::l,i=>by
  rw[Yg,Yg];by_cases h:q a=true
  ·rw[if_pos h,if_pos h,if_pos (by omega)];omega
  rw[if_neg h,if_neg h,show i+d+1=(i+1)+d by omega,jD q d l (i+1)]
theorem Vi {α β:Type}(q:β→Bool)(g:α→β):∀(l:List α) (i:Nat),fix q i (l.map g)=fix (λa=>q (g a)) i l
 | [],i=>rfl
 | a::l,i=>by rw[LX,Yg,Yg,Vi q g l (i+1)]
theorem Qgt {α:Type}{q E:α→Bool}:∀{l:List α}{i:Nat},(∀a∈l,q a=E a)→fix q i l=fix E i l
 | [],i,_=>rfl
 | a::l,i,h=>by rw[Yg,Yg,h a Lm,Qgt (λb hb=>h b (Lk _ hb))]
theorem Qoj {gp:Nat}{fn:Func}[Fu prog gp fn]{cap:LV}{q:(Int×Int)→Bool}{L:LN}{w:World}{v:Value}{l:List (Int×Int)}(h:Zy L w.heap v l.length 2 (l.flatMap Zb))
  (hk:∀e∈l,∀(G:World),Step [] w G→QH prog gp ([.agg (Zb e).toArray]++cap) G λr w'=>r=.bool (q e)∧Step [] G w'):
  QH prog 251 [v,.func (.func gp) #[] cap.toArray] w λr w'=>r=.int .i64 (fix q 0 l)∧Step [] w w':=by
 have hc:=h.le;refine QH.of_W func251 O ntmps251 results251 (by simp) ?_;refine Qc<|Qf<|Qg<|Qc<|Qb<|x (Qr h O)<|Qb<|xe<|Qh<|Qz (α:=Nat) [(4,5),(8,18)] (λz=>[(8,.int .i64 z)]) (λz w'=>z≤l.length∧Step [] w w'∧fix q z (l.drop z)=fix q 0 l) (λz=>l.length - z) (by rfl) 0 La
  ⟨Ll _,Step.refl _ _,O⟩ ?_
 rintro k g G ⟨hk1,H,E⟩;refine Qc<|x (QA O O)<|xe<|Qg<|QC O (λh9=>?_) (λh9=>?_)
 ·refine Qy ?_;have ha:l.length≤k:=by have hb:¬(k:Int)<(l.length:Int):=h9;omega
  rw[Lv ha]at E;refine Qc<|Qf ?_;exact Ql ⟨[_],La,by rw[←E];rfl,H⟩
 have I:k<l.length:=by have hb:(k:Int)<(l.length:Int):=h9;omega
 rw[Q5 I,Yg]at E;have U:=Lc I;refine Qi<|Qg<|Qh<|Qc<|Qb<|Qf<|Qc<|Qb<|Qb<|Qb<|xig JN (h.ext H) O O I λhf V=>?_;refine Zj (l[k]'I) λe he=>?_;rw[he]at V E U;refine x (QI V O O)<|xl O<|xc (first:=[]) (capt:=cap) O<|(hk e U G H).mono ?_;rintro r2 w2 ⟨rfl,Y⟩;refine xe<|QZ rfl (λJ=>?_) (λJ=>?_)
 ·rw[if_pos J]at E;refine Qc<|Qb<|Qf ?_;exact Ql ⟨[_],La,by rw[←E];rfl,H.trans Y⟩
 rw[if_neg (by rw[J];decide)]at E;refine Qi<|Qw<|QP O O<|Qb<|xe ?_;exact⟨k+1,by omega,La,I,H.trans Y,E⟩
theorem QoP {gp:Nat}{fn:Func}[Fu prog gp fn]{cap:LV}{q:(Int×Int)→Bool}{L:LN}{w:World}{v:Value}{l:List (Int×Int)}(h:Zy L w.heap v l.length 2 (l.flatMap Zb))
  (hk:∀e∈l,∀(E:World),Step [] w E→QH prog gp ([.agg (Zb e).toArray]++cap) E λr w'=>r=.bool (q e)∧Step [] E w'):
  QH prog 239 [v,.func (.func gp) #[] cap.toArray] w λr w'=>r=.bool (l.any q)∧Step [] w w':=by
 refine QH.of_W func239 O ntmps239 results239 (by simp) ?_;refine Qc<|Qf<|Qc<|Qb<|Qb<|xl O<|xf<|(Qoj h hk).mono ?_;rintro H E ⟨rfl,G⟩;refine x (ZV O O)<|Qf ?_;exact Ql ⟨[_],La,congrArg Value.bool (Uk q l 0),G⟩
theorem Kl (sz:LI):∀(ls:List (Int×Int)) (pr:Option Int),Yz sz pr ls=0→(∀p∈ls,0≤p.1∧p.1<(sz.length:Int))∧Z2 (ls.map (·.1))∧∀y,pr=some y→∀p∈ls,y<p.1
 | [],pr,_=>⟨λp hp=>(by cases hp),List.Pairwise.nil,λy _ p hp=>(by cases hp)⟩
 | l::ls,pr,h=>by
  unfold Yz at h;split at h
  ·cases h
  rename_i h1;split at h
  ·cases h
  rename_i h2;split at h
  ·cases h
  obtain⟨h4,h5,h6⟩:=Kl sz ls (some l.1) h;have E:=h6 l.1 O;refine⟨λp hp=>?_,L3.2 ⟨λx hx=>?_,h5⟩,λy hy p hp=>?_⟩
  ·rcases Le.1 hp with rfl|hp
   ·omega
   exact h4 p hp
  ·obtain⟨p,hp,rfl⟩:=Lq.1 hx;exact E p hp
  subst hy;have G:¬l.1≤y:=λe=>h2 (decide_eq_true e);rcases Le.1 hp with rfl|hp
  ·omega
  have:=E p hp;omega
theorem Kk (sz:LI):∀(ls:List (Int×Int)) (pr:Option Int),Xo sz pr ls=0→(∀p∈ls,0≤p.1∧p.1<(sz.length:Int)∧-65536≤p.2∧p.2≤65536)∧Z2 (ls.map (·.1))∧∀y,pr=some y→∀p∈ls,y<p.1
 | [],pr,_=>⟨λp hp=>(by cases hp),List.Pairwise.nil,λy _ p hp=>(by cases hp)⟩
 | l::ls,pr,h=>by
  unfold Xo at h;split at h
  ·cases h
  rename_i h1;split at h
  ·cases h
  rename_i h2;split at h
  ·cases h
  rename_i h3;obtain⟨h4,h5,h6⟩:=Kk sz ls (some l.1) h;have E:=h6 l.1 O;have h9:grt l.2=false:=by cases G:grt l.2 with|true=>exact absurd (.inr G) h3|false=>rfl
  unfold grt at h9;simp only[Bool.or_eq_false_iff,decide_eq_false_iff_not]at h9;refine⟨λp hp=>?_,L3.2 ⟨λx hx=>?_,h5⟩,λy hy p hp=>?_⟩
  ·rcases Le.1 hp with rfl|hp
   ·omega
   exact h4 p hp
  ·obtain⟨p,hp,rfl⟩:=Lq.1 hx;exact E p hp
  subst hy;have H:¬l.1≤y:=λe=>h2 (decide_eq_true e);rcases Le.1 hp with rfl|hp
  ·omega
  have:=E p hp;omega
theorem U8 (sz:LI):∀(l:List Exc) (sn:List ByteArray),Yr sz sn l=0→∀x∈l,JI sz x.ls=0
 | [],_,_,x,hx=>by cases hx
 | a::l,sn,h,x,hx=>by
  unfold Yr at h;split at h
  ·rename_i h1;exact absurd h h1
  split at h
  ·rename_i h1;exact absurd h h1
  rename_i h1;rcases Le.1 hx with rfl|hx
  ·exact Ln.1 h1
  exact U8 sz l _ h x hx
theorem qa (sz:LI):∀(l:List Ju) (sn:List ByteArray),Y4 sz sn l=0→∀x∈l,Xp sz x=0
 | [],_,_,x,hx=>by cases hx
 | a::l,sn,h,x,hx=>by
  unfold Y4 at h;split at h
  ·rename_i h1;exact absurd h h1
  split at h
  ·rename_i h1;exact absurd h h1
  rename_i h1;rcases Le.1 hx with rfl|hx
  ·exact Ln.1 h1
  exact qa sz l _ h x hx
structure Qq4 (sz:LI)(ex:List Exc)(cs:List Ju):Prop where
 s8:sz.length≤8
 s:∀n∈sz,1≤n∧n≤4096
 xl:ex.length≤32
 kl:cs.length≤32
 x:∀e∈ex,∀p∈e.ls,0≤p.1∧p.1<(sz.length:Int)
 k:∀e∈cs,(∀p∈e.ts,0≤p.1∧p.1<(sz.length:Int)∧-65536≤p.2∧p.2≤65536)∧e.ts.length≤8
theorem qb {sz:LI}{ex:List Exc}{cs:List Ju}(h:YN sz ex cs=0):Qq4 sz ex cs:=by
 unfold YN at h;split at h
 ·cases h
 rename_i H;split at h
 ·cases h
 rename_i hs;split at h
 ·cases h
 rename_i I;split at h
 ·rename_i hx;exact absurd h hx
 rename_i hx;have E:=Ln.1 hx;refine⟨by omega,λn G=>?_,by omega,by omega,λe he p hp=>?_,λe he=>?_⟩
 ·have h1:Kt n=false:=by
   cases hb:Kt n with
   | false=>rfl
   | true=>exact absurd (Mo.2 ⟨n,G,hb⟩) hs
  unfold Kt at h1;simp only[Bool.or_eq_false_iff,decide_eq_false_iff_not]at h1;omega
 ·have h1:=U8 sz ex [] E e he;unfold JI at h1;split at h1
  ·cases h1
  exact(Kl sz e.ls none h1).1 p hp
 have h1:=qa sz cs [] h e he;unfold Xp at h1;split at h1
 ·cases h1
 split at h1
 ·rename_i h2;exact absurd h1 h2
 rename_i h2;obtain⟨h3,h4,_⟩:=Kk sz e.ts none (Ln.1 h2);refine⟨h3,?_⟩;have:=Go.Proofs.YtjcgijbhaemldaaGreatDoor.pig sz.length (e.ts.map (·.1)) (List.Pairwise.imp (λ{a b} (h:a<b)=>(by omega:a≠b)) h4) (λx hx=>by
  obtain⟨p,hp,rfl⟩:=Lq.1 hx;exact⟨(h3 p hp).1,(h3 p hp).2.1⟩)
 rw[Lh]at this;omega
def QmR (sz t:LI):Prop:=t.length=sz.length∧∀i,i<t.length→0≤cget t i∧cget t i<cget sz i
theorem Qf5 (t:LI)(p:Int×Int)(l:List (Int×Int))(s:Int):(l++[p]).foldl (λs p=>s+p.2*t.getD p.1.toNat 0) s=l.foldl (λs p=>s+p.2*t.getD p.1.toNat 0) s+p.2*cget t p.1.toNat:=by
 rw[Mh];rfl
theorem Qg3 {w:World}{vl vt:Value}{nm:ByteArray}{ts:List (Int×Int)}{bd:Int}{t:LI}(hl:P2s [] w.heap vl ts)(ht:QJ [] w.heap vt t)
  (hh:∀p∈ts,0≤p.1∧p.1<(t.length:Int)∧-65536≤p.2∧p.2≤65536) (h8:ts.length≤8) (hi:∀i,i<t.length→0≤cget t i∧cget t i≤4096):
  QH prog 242 [.agg #[.string nm,vl,.int .i64 bd],vt] w λr w'=>r=.int .i64 (QnC t ⟨nm,ts,bd⟩)∧Step [] w w':=by
 refine QH.of_W func242 O ntmps242 results242 (by simp) ?_;refine Qc<|xl O<|QR (us:=[.string nm,vl,.int .i64 bd]) O λb2 w1 Y hw hj=>Qf<|Qc<|Qf<|Qg<|Qc<|x (Qa O)<|x (Qd hj O O)<|x (Qr (hl.ext Y) O)<|Qb<|xe ?_
 refine Qh<|Qz (α:=Nat×Int) [(5,5),(7,7),(11,25)] (λz=>[(5,.int .i64 z.2),(11,.int .i64 z.1)]) (λz w'=>z.1≤ts.length∧Step [] w w'∧z.2=(ts.take z.1).foldl (λs p=>s+p.2*t.getD p.1.toNat 0) 0∧-(268435456*(z.1:Int))≤z.2∧z.2≤268435456*(z.1:Int)) (λz=>ts.length - z.1) (by rfl) (0,0) ⟨O,O,Z⟩
  ⟨Ll _,Y,O,by simp only[];omega,by simp only[];omega⟩ ?_
 rintro⟨k,s⟩ g w2 ⟨hk,J,G,hm,hn⟩;simp only[]at hk G hm hn;refine Qc<|x (QA O O)<|xe<|Qg<|QC O (λU=>?_) (λU=>?_)
 ·refine Qy ?_;have ho:ts.length≤k:=by have H:¬(k:Int)<(ts.length:Int):=U;omega
  rw[Lp ho]at G;refine Qc<|Qb<|Qf ?_;exact Ql ⟨[_],La,by rw[G];rfl,J⟩
 have E:k<ts.length:=by have H:(k:Int)<(ts.length:Int):=U;omega
 have V:=hh _ (Lc E);have ha:ts.take (k+1)=ts.take k++[ts[k]'E]:=Li E;refine Qi<|Qg<|Qh<|Qc<|xig JN (hl.ext J) O O E λhy H=>?_;refine Zj (ts[k]'E) λe he=>?_;rw[he]at H V ha;refine x (QI H O O)<|xl O<|Qu (us:=[.int .i64 0,.int .i64 0]) O λb7 w3 hp hq I=>xl O<|Qn (us:=Zb e) I O O O O ⟨O,O,Z⟩ λw4 hr I=>xe ?_
 have hs:Step [] w2 w4:=hp.then1 hr hq;have hb:=J.trans hs;have hu:e.1=((e.1.toNat:Nat):Int):=by omega
 have hf:e.1.toNat<t.length:=by omega
 have hg:=hi _ hf;have hz:-268435456≤e.2*cget t e.1.toNat∧e.2*cget t e.1.toNat≤268435456:=by
  have h1:(-65536)*cget t e.1.toNat≤e.2*cget t e.1.toNat:=Int.mul_le_mul_of_nonneg_right V.2.2.1 hg.1;have h2:e.2*cget t e.1.toNat≤65536*cget t e.1.toNat:=Int.mul_le_mul_of_nonneg_right V.2.2.2 hg.1;omega
 refine Zj (e.2*cget t e.1.toNat) λpr h0=>?_;refine QU (Step [] w4) [(0,true),(1,true),(2,true),(3,true),(4,true),(5,true),(6,true),(7,true),(8,true),(9,true),(10,true)] mixed (by rfl) (by kernel_rfl) (Step.drew _ _) ?_;refine p (λ_=>Qk)<|p (λ_=>Qa O)<|pq (λ_ hc=>Qd (I.ext hc) O O)<|p (λ_=>Qk)<|p (λ_=>Qa O) <|
  pq (λ_ hc=>Qd (I.ext hc) O O)<|pic (i:=e.1.toNat) O (ht.ext hb) O (congrArg (Value.int .i64) hu) hf λh3 hv=>pq (λ_ hc=>Qv (hv.ext hc) O) <|
  p (λ_=>QpB O O ⟨by omega,by omega⟩)<|p (λ_=>JB O O ⟨by omega,by omega⟩)<|p (λ_=>Qe)<|pe ?_
 refine Qw<|QP O O<|Qb<|xe<|⟨(k+1,s+e.2*cget t e.1.toNat),by simp only[];omega,⟨O,O,Z⟩,E,hb.trans (Step.drew _ _),?_,by simp only[];omega,by simp only[];omega⟩;simp only[];rw[ha,Qf5,←G]
theorem Qjj {w:World}{bt:Nat}{vt:Value}{t:LI}(H:QT w.heap bt 39 [vt])(ht:QJ [] w.heap vt t)(e:Int×Int)(he:0≤e.1∧e.1<(t.length:Int)):
  QH prog 240 ([.agg (Zb e).toArray]++[.pointer (some ⟨bt,0,none⟩)]) w λr w'=>r=.bool (!decide (t.getD e.1.toNat 0=e.2))∧Step [] w w':=by
 refine QH.of_W func240 O ntmps240 results240 (by simp) ?_;refine Qc<|xl O<|QR (us:=Zb e) O λY I E ha G=>Qf ?_;have J:e.1=((e.1.toNat:Nat):Int):=by omega
 have U:e.1.toNat<t.length:=by omega
 refine Qg<|QU (Step [] I) [(0,true),(1,true),(2,true),(3,true),(4,true),(5,true),(6,true),(7,true),(8,true)] mixed (by rfl) (by kernel_rfl) (Step.drew _ _) ?_;refine pq (λ_ hc=>Qd ((H.ext E).ext hc) O O)<|p (λ_=>Qa O)<|pq (λ_ hc=>Qd (G.ext hc) O O)<|pic (i:=e.1.toNat) O (ht.ext E) O (congrArg (Value.int .i64) J) U λa7 V =>
  pq (λ_ hc=>Qv (V.ext hc) O)<|p (λ_=>Qa O)<|pq (λ_ hc=>Qd (G.ext hc) O O)<|p (λ_=>Q6 O O) <|
  p (λ_=>Qe)<|pe ?_
 refine Ql ⟨[_],La,?_,E.trans (Step.drew _ _)⟩;show Value.bool (decide (¬cget t e.1.toNat=e.2))=_;unfold cget;simp
theorem Qg1 (t:LI)(x:Exc):(!(x.ls.any λl=>!decide (t.getD l.1.toNat 0=l.2)))=JT t x:=by
 unfold JT;induction x.ls with
 | nil=>rfl
 | cons a l ih=>rw[Nw,Mj,←ih];cases decide (t.getD a.1.toNat 0=a.2) <;> simp
theorem Qmf {w:World}{b:Nat}{q:XV}{vt:Value}{t:LI}(H:QT w.heap b 99 (ZF q))(hq:P2s [] w.heap q.v q.ls)(ht:QJ [] w.heap vt t)(I:∀p∈q.ls,0≤p.1∧p.1<(t.length:Int)):
  QH prog 238 ([vt]++[.pointer (some ⟨b,0,none⟩)]) w λr w'=>r=.bool (JT t q.x)∧Step [] w w':=by
 refine QH.of_W func238 O ntmps238 results238 (by simp) ?_;refine Qc<|xl O<|QR (us:=[vt]) ht.cells λJ Y E ha U=>Qf<|Qc<|x (Qa O)<|x (Qd (H.ext E) O O)<|x Zo<|xl O<|xf<|(QoP (q:=λl=>!decide (t.getD l.1.toNat 0=l.2)) (cap:=[.pointer (some ⟨J,0,none⟩)]) (hq.ext E) (λe he V G=>Qjj (U.ext G) ((ht.ext E).ext G) e (I e he))).mono ?_;rintro r2 V ⟨rfl,G⟩;refine x (Zt O)<|Qf ?_
 exact Ql ⟨[_],La,congrArg Value.bool (Qg1 t q.x),E.trans G⟩
theorem Qme {w:World}{b:Nat}{q:KV}{vt:Value}{t:LI}(E:QT w.heap b 153 (ZH q))(hq:P2s [] w.heap q.v q.ts)(ht:QJ [] w.heap vt t)
  (H:∀p∈q.ts,0≤p.1∧p.1<(t.length:Int)∧-65536≤p.2∧p.2≤65536) (I:q.ts.length≤8) (J:∀i,i<t.length→0≤cget t i∧cget t i≤4096):
  QH prog 241 ([vt]++[.pointer (some ⟨b,0,none⟩)]) w λr w'=>r=.bool (Kv t q.k)∧Step [] w w':=by
 refine QH.of_W func241 O ntmps241 results241 (by simp) ?_;refine Qc<|Qf ?_;have hd:Step [] w { w with drawn:=w.drawn+1 }:=Step.drew _ _
 refine Qg<|QU (Step [] { w with drawn:=w.drawn+1 }) [(0,true),(1,true),(3,true),(4,true),(2,false),(5,true),(6,true)] mixed (by rfl) (by kernel_rfl) (Step.refl _ _) ?_
 refine pq (λ_ hc=>Qo ((E.ext hd).ext hc) O O)<|p (λ_=>Qk)<|p (λ_=>Qa O)<|pq (λ_ hc=>Qd ((E.ext hd).ext hc) O O)<|pk<|xf<|(Qg3 (hq.ext hd) (ht.ext hd) H I J).mono ?_;rintro U V ⟨rfl,G⟩;refine⟨G,?_⟩;refine p (λ_=>ZR O O)<|p (λ_=>Qe)<|pe ?_;exact Ql ⟨[_],La,O,hd.trans G⟩
inductive Cd where
 | ex (b:Nat) (q:XV)
 | co (b:Nat) (q:KV)
def Cd.val:Cd→Value
 | .ex b _=>.func (.func 238) #[] #[.pointer (some ⟨b,0,none⟩)]
 | .co b _=>.func (.func 241) #[] #[.pointer (some ⟨b,0,none⟩)]
def Cd.src:Cd→Sum XV KV
 | .ex _ q=>.inl q
 | .co _ q=>.inr q
def Qf6 (t:LI):Sum XV KV→Bool
 | .inl q=>JT t q.x
 | .inr q=>Kv t q.k
def Cd.vio (t:LI)(c:Cd):Bool:=Qf6 t c.src
abbrev Ut (c:Cd):LV:=[c.val]
theorem QoR (c:Cd):(Ut c).length=1:=rfl
def CdA (H:Array Obj):Cd→Prop
 | .ex b q=>QT H b 99 (ZF q)∧P2s [] H q.v q.ls
 | .co b q=>QT H b 153 (ZH q)∧P2s [] H q.v q.ts
theorem CdA.ext {w w':World}{c:Cd}(h:CdA w.heap c)(hs:Step [] w w'):CdA w'.heap c:=by
 cases c with
 | ex b q=>exact⟨h.1.ext hs,h.2.ext hs⟩
 | co b q=>exact⟨h.1.ext hs,h.2.ext hs⟩
def Cd.rg (n:Nat):Cd→Prop
 | .ex _ q=>∀p∈q.ls,0≤p.1∧p.1<(n:Int)
 | .co _ q=>(∀p∈q.ts,0≤p.1∧p.1<(n:Int)∧-65536≤p.2∧p.2≤65536)∧q.ts.length≤8
theorem Qco {q:XV}(w:World):QH prog 217 [.agg (ZF q).toArray] w λr w'=>Step [] w w'∧∃b,r=(Cd.ex b q).val∧w.heap.size≤b∧QT w'.heap b 99 (ZF q):=by
 refine QH.of_W func217 O ntmps217 results217 (by simp) ?_;refine Qc<|xl O<|QR (us:=ZF q) O λE J G H I=>Qf<|Qc<|x Zo<|Qf ?_;exact Ql ⟨[_],La,G,E,O,H,I⟩
theorem QdR {q:KV}(w:World):QH prog 218 [.agg (ZH q).toArray] w λr w'=>Step [] w w'∧∃b,r=(Cd.co b q).val∧w.heap.size≤b∧QT w'.heap b 153 (ZH q):=by
 refine QH.of_W func218 O ntmps218 results218 (by simp) ?_;refine Qc<|xl O<|QR (us:=ZH q) O λE J G H I=>Qf<|Qc<|x Zo<|Qf ?_;exact Ql ⟨[_],La,G,E,O,H,I⟩
def CdB (H:Array Obj):Cd→Prop
 | .ex b q=>QT H b 99 (ZF q)
 | .co b q=>QT H b 153 (ZH q)
def Cd.blk:Cd→Nat
 | .ex b _=>b
 | .co b _=>b
theorem CdB.lt {H:Array Obj}{c:Cd}(h:CdB H c):c.blk<H.size:=by cases c <;> exact QT.lt h
theorem CdB.step {X:LN}{w w':World}{c:Cd}(h:CdB w.heap c)(hs:Step X w w')(E:c.blk∉X):CdB w'.heap c:=by
 cases c <;> exact QT.step h hs E
structure CdL (base:Nat)(w:World)(v:Value)(cds:List Cd):Prop where
 own:w.ownsRow base 339 1 v cds.length (cds.flatMap Ut)
 bx:∀c∈cds,CdB w.heap c∧c.blk∉ob v
theorem CdL.add {base:Nat}{w E G:World}{v H:Value}{cds:List Cd}{c:Cd}(h:CdL base w v cds)(hs:Step [] w E)(hc:CdB E.heap c)(hb:w.heap.size≤c.blk)
  (I:G.ownsRow base 339 1 H (cds.length+1) (cds.flatMap Ut++[c.val])) (J:Step (ob v) E G) (U:∀b∈ob H,b∈ob v∨E.heap.size≤b):CdL base G H (cds++[c]):=by
 have V:=QY h.own;have Y:c.blk∉ob v:=λhm=>by have:=V _ hm;omega
 refine⟨?_,λd hd=>?_⟩
 ·rw[Lj,LG];simpa using I
 have key:CdB E.heap d∧d.blk∉ob v:=by
  rcases Lo.1 hd with hd|hd
  ·exact⟨(h.bx d hd).1.step hs (by simp),(h.bx d hd).2⟩
  simp only[List.mem_singleton]at hd;subst hd;exact⟨hc,Y⟩
 refine⟨key.1.step J key.2,λhm=>?_⟩;rcases U _ hm with h1|h1
 ·exact key.2 h1
 have:=key.1.lt;omega
set_option maxHeartbeats 4000000 in
theorem QjD {w:World}{vs vx vk:Value}{qx:List XV}{ks:List KV}(hX:qL [] w.heap vx qx)(hK:jV [] w.heap vk ks)(hH:qx.length≤32)(hI:ks.length≤32):
  QH prog 187 [.agg #[vs,vx,vk]] w λr w'=>Step [] w w'∧∃cds,CdL w.heap.size w' r cds∧cds.map Cd.src=qx.map Sum.inl++ks.map Sum.inr:=by
 refine QH.of_W func187 O ntmps187 results187 (by simp) ?_;refine Qc<|xl O<|QR (us:=[vs,vx,vk]) O λb1 J H hJ h3=>Qf ?_;have h8:=H.size;refine Qc<|Qf<|Qg<|Qc<|x (Qa O)<|x (Qd h3 O O)<|x (Qr (hX.ext H).arr O)<|Qb<|xe ?_
 refine Qh<|Qz (α:=Nat×Value×List Cd) [(3,3),(5,5),(11,20)] (λz=>[(3,z.2.1),(11,.int .i64 z.1)]) (λz w'=>z.1≤qx.length∧Step [] J w'∧CdL J.heap.size w' z.2.1 z.2.2∧z.2.2.map Cd.src=(qx.take z.1).map Sum.inl) (λz=>qx.length - z.1) (by rfl) (0,nS,[]) ⟨O,O,Z⟩
  ⟨Ll _,Step.refl _ _,⟨QN _ _ _ _,λc hc=>(by cases hc)⟩,rfl⟩ ?_
 rintro⟨k,vo,cds⟩ g wA ⟨hk,I,hL,ha⟩;simp only[]at hk hL ha;have hM:cds.length=k:=by have:=congrArg List.length ha;simp at this;omega
 refine Qc<|x (QA O O)<|xe<|Qg<|QC O (λhl=>?_) (λhl=>?_)
 ·refine Qy ?_;have h9:qx.length≤k:=by have hm:¬(k:Int)<(qx.length:Int):=hl;omega
  rw[Lp h9]at ha;refine Qg<|Qc<|x (Qa O)<|x (Qd (h3.ext I) O O)<|x (Qr ((hK.ext H).ext I).arr O)<|Qb<|xe ?_
  refine Qh<|Qz (α:=Nat×Value×List Cd) [(3,3),(7,7),(24,33)] (λz=>[(3,z.2.1),(24,.int .i64 z.1)]) (λz w'=>z.1≤ks.length∧Step [] J w'∧CdL J.heap.size w' z.2.1 z.2.2∧z.2.2.map Cd.src=qx.map Sum.inl++(ks.take z.1).map Sum.inr) (λz=>ks.length - z.1) (by rfl) (0,vo,cds) ⟨O,O,Z⟩
   ⟨Ll _,I,hL,by simp only[];rw[ha];simp⟩ ?_
  rintro⟨j,vp,cdt⟩ g wB ⟨hj,he,U,hf⟩;simp only[]at hj U hf;have hN:cdt.length=qx.length+j:=by have:=congrArg List.length hf;simp at this;omega
  refine Qc<|x (QA O O)<|xe<|Qg<|QC O (λhn=>?_) (λhn=>?_)
  ·refine Qy ?_;have hB:ks.length≤j:=by have hm:¬(j:Int)<(ks.length:Int):=hn;omega
   rw[Lp hB]at hf;refine Qc<|Qb<|Qf ?_;exact Ql ⟨[_],La,H.trans he,cdt,⟨Zd U.own h8,U.bx⟩,hf⟩
  have V:j<ks.length:=by have hm:(j:Int)<(ks.length:Int):=hn;omega
  have h4:=Lc V;have h5:ks.take (j+1)=ks.take j++[ks[j]'V]:=Li V;refine Qi<|Qg<|Qh<|Qc<|xig Kh ((hK.ext H).ext he).arr O O V λaA hA=>?_;refine Zj (ks[j]'V) λq hq=>?_;rw[hq]at hA h4 h5;have ho:=((hK.ext H).ext he).each q h4
  refine x (QI hA O O)<|xl O<|Qu (us:=[.string .empty,nS,.int .i64 0]) O λb7 w4 hp hr hs=>xl O<|Qn (us:=ZH q) hs O O O O ⟨O,ho.one,O,Z⟩ λw5 ht hu=>xe ?_;have hg:Step [] wB w5:=hp.then1 ht hr;refine Qw<|Qb<|x (Qo hu O O)<|xl O<|xf<|(QdR w5).mono ?_;rintro r6 w6 ⟨hv,E,rfl,hC,hw⟩
  refine xl O<|QG (us:=[[(Cd.co E q).val]]) O O (by decide) (by simp) ⟨rfl,rfl,Z⟩ λhD w7 hh hE hy=>?_;have G:=(hg.trans hv).trans hh;have hF:=(he.trans G).size;have hG:=hg.size;refine xl O<|Q4 (news:=[(Cd.co E q).val]) (L:=[]) (Qs U.own G) O O O (hy.at (by simp)) (by simp[Cd.val,Value.oneCell']) (by omega) (by omega) λv8 w8 hz hi h0 =>
   Qf ?_
  have hge:=Qq U.own;have h1:=U.add (c:=Cd.co E q) G (QT.ext hw hh) (by show _≤E;omega) hz hi h0;have h2:Step [] J w8:=(he.trans G).then hi (λb hb=>.inr (hge b hb).1);refine Qw<|QP O O<|Qb<|xe ?_;exact⟨(j+1,v8,cdt++[Cd.co E q]),by simp only[];omega,⟨O,O,Z⟩,V,h2,h1,by simp only[];rw[Lx,hf,h5];simp[Cd.src]⟩
 have Y:k<qx.length:=by have hm:(k:Int)<(qx.length:Int):=hl;omega
 have h6:=Lc Y;have h7:qx.take (k+1)=qx.take k++[qx[k]'Y]:=Li Y;refine Qi<|Qg<|Qh<|Qc<|xig KC ((hX.ext H).ext I).arr O O Y λaA hA=>?_;refine Zj (qx[k]'Y) λq hq=>?_;rw[hq]at hA h6 h7;have ho:=((hX.ext H).ext I).each q h6
 refine x (QI hA O O)<|xl O<|Qu (us:=[.string .empty,nS]) O λb7 w4 hp hr hs=>xl O<|Qn (us:=ZF q) hs O O O O ⟨O,ho.one,Z⟩ λw5 ht hu=>xe ?_;have hg:Step [] wA w5:=hp.then1 ht hr;refine Qw<|Qb<|x (Qo hu O O)<|xl O<|xf<|(Qco w5).mono ?_;rintro r6 w6 ⟨hv,E,rfl,hC,hw⟩;refine xl rfl<|QG (us:=[[(Cd.ex E q).val]]) O O (by decide) (by simp) ⟨rfl,rfl,Z⟩ λhD w7 hh hE hy=>?_
 have G:=(hg.trans hv).trans hh;have hF:=(I.trans G).size;have hG:=hg.size;refine xl rfl<|Q4 (news:=[(Cd.ex E q).val]) (L:=[]) (Qs hL.own G) O O O (hy.at (by simp)) (by simp[Cd.val,Value.oneCell']) (by omega) (by omega) λv8 w8 hz hi h0 =>
  Qf ?_
 have hge:=Qq hL.own;have h1:=hL.add (c:=Cd.ex E q) G (QT.ext hw hh) (by show _≤E;omega) hz hi h0;have h2:Step [] J w8:=(I.trans G).then hi (λb hb=>.inr (hge b hb).1);refine Qw<|QP O O<|Qb<|xe ?_;exact⟨(k+1,v8,cds++[Cd.ex E q]),by simp only[];omega,⟨O,O,Z⟩,Y,h2,h1,by simp only[];rw[Lx,ha,h7];simp[Cd.src]⟩
theorem Qol {gp:Nat}{fn:Func}[Fu prog gp fn]{cap:LV}{q:Cd→Bool}{L:LN}{w:World}{v:Value}{l:List Cd}(h:Zy L w.heap v l.length 1 (l.flatMap Ut))
  (hk:∀e∈l,∀(G:World),Step [] w G→QH prog gp ([e.val]++cap) G λr w'=>r=.bool (q e)∧Step [] G w'):
  QH prog 215 [v,.func (.func gp) #[] cap.toArray] w λr w'=>r=.int .i64 (fix q 0 l)∧Step [] w w':=by
 have hc:=h.le;refine QH.of_W func215 O ntmps215 results215 (by simp) ?_;refine Qc<|Qf<|Qg<|Qc<|Qb<|x (Qr h O)<|Qb<|xe<|Qh<|Qz (α:=Nat) [(4,5),(8,18)] (λz=>[(8,.int .i64 z)]) (λz w'=>z≤l.length∧Step [] w w'∧fix q z (l.drop z)=fix q 0 l) (λz=>l.length - z) (by rfl) 0 La
  ⟨Ll _,Step.refl _ _,O⟩ ?_
 rintro k g G ⟨hk1,H,E⟩;refine Qc<|x (QA O O)<|xe<|Qg<|QC O (λh9=>?_) (λh9=>?_)
 ·refine Qy ?_;have ha:l.length≤k:=by have hb:¬(k:Int)<(l.length:Int):=h9;omega
  rw[Lv ha]at E;refine Qc<|Qf ?_;exact Ql ⟨[_],La,by rw[←E];rfl,H⟩
 have I:k<l.length:=by have hb:(k:Int)<(l.length:Int):=h9;omega
 rw[Q5 I,Yg]at E;have U:=Lc I;refine Qi<|Qg<|Qh<|Qc<|Qb<|Qf<|Qc<|Qb<|Qb<|Qb<|xig QoR (h.ext H) O O I λhf V=>?_;refine Zj (l[k]'I) λe he=>?_;rw[he]at V E U;refine x (Qv V O)<|xl O<|xc (first:=[]) (capt:=cap) O<|(hk e U G H).mono ?_;rintro r2 w2 ⟨rfl,Y⟩;refine xe<|QZ rfl (λJ=>?_) (λJ=>?_)
 ·rw[if_pos J]at E;refine Qc<|Qb<|Qf ?_;exact Ql ⟨[_],La,by rw[←E];rfl,H.trans Y⟩
 rw[if_neg (by rw[J];decide)]at E;refine Qi<|Qw<|QP O O<|Qb<|xe ?_;exact⟨k+1,by omega,La,I,H.trans Y,E⟩
theorem Qmt {w:World}{c:Cd}{vt:Value}{t:LI}(hc:CdA w.heap c)(ht:QJ [] w.heap vt t)(E:c.rg t.length)(G:∀i,i<t.length→0≤cget t i∧cget t i≤4096):
  ∃g fn cap,c.val=.func (.func g) #[] [cap].toArray∧Fu prog g fn∧QH prog g ([vt]++[cap]) w λr w'=>r=.bool (c.vio t)∧Step [] w w':=by
 cases c with
 | ex b q=>exact⟨_,_,_,O,inferInstance,Qmf hc.1 hc.2 ht E⟩
 | co b q=>exact⟨_,_,_,O,inferInstance,Qme hc.1 hc.2 ht E.1 E.2 G⟩
theorem QgZ {w:World}{bt:Nat}{c:Cd}{vt:Value}{t:LI}(E:QT w.heap bt 39 [vt])(hc:CdA w.heap c)(ht:QJ [] w.heap vt t)(G:c.rg t.length)(H:∀i,i<t.length→0≤cget t i∧cget t i≤4096):
  QH prog 216 ([c.val]++[.pointer (some ⟨bt,0,none⟩)]) w λr w'=>r=.bool (c.vio t)∧Step [] w w':=by
 obtain⟨gq,fn,cap,I,U,hcall⟩:=Qmt hc ht G H;rw[I];refine QH.of_W func216 O ntmps216 results216 (by simp) ?_;refine Qc<|Qf<|Qc<|Qb<|x (Qd E O O)<|xl O<|xc (g:=gq) (fn:=fn) (first:=[]) (capt:=[cap]) O<|hcall.mono ?_;rintro V Y ⟨rfl,J⟩;refine Qf ?_;exact Ql ⟨[_],La,O,J⟩
theorem Qbo {L:LN}{w:World}{v vt:Value}{cds:List Cd}{t:LI}(h:Zy L w.heap v cds.length 1 (cds.flatMap Ut))(hc:∀c∈cds,CdA w.heap c)(ht:QJ [] w.heap vt t)(H:∀c∈cds,c.rg t.length)(I:∀i,i<t.length→0≤cget t i∧cget t i≤4096):
  QH prog 186 [v,vt] w λr w'=>r=.int .i64 (fix (Cd.vio t) 0 cds)∧Step [] w w':=by
 refine QH.of_W func186 O ntmps186 results186 (by simp) ?_;refine Qc<|xl O<|QR (us:=[vt]) ht.cells λJ Y G ha U=>Qf<|Qc<|Qb<|x Zo<|xl O<|xf<|(Qol (q:=Cd.vio t) (cap:=[.pointer (some ⟨J,0,none⟩)]) (h.ext G) (λc hm V E=>QgZ (U.ext E) (((hc c hm).ext G).ext E) ((ht.ext G).ext E) (H c hm) I)).mono ?_;rintro r2 V ⟨rfl,E⟩;refine Qf ?_;exact Ql ⟨[_],La,O,G.trans E⟩
theorem QjI {w:World}{vs vx vk vt:Value}{sz t:LI}(hS:QJ [] w.heap vs sz)(ht:QJ [] w.heap vt t)(h:QmR sz t):
  QH prog 214 [.agg #[vs,vx,vk],vt] w λr w'=>r=.int .i64 0∧Step [] w w':=by
 have he:=ht.le;have h0:=h.1;refine QH.of_W func214 O ntmps214 results214 (by simp) ?_;refine Qc<|xl O<|QR (us:=[vs,vx,vk]) O λb2 U E hf H=>Qf<|Qg<|Qc<|Qb<|x (Qr (ht.ext E) O)<|x (Qa O)<|x (Qd H O O)<|x (Qr (hS.ext E) O)<|x (Q6 O O) <|
  xe ?_
 refine QC rfl (λI=>?_) (λI=>?_)
 ·refine Qi<|Qg<|Qc<|Qb<|x (Qr (ht.ext E) O)<|Qb<|xe<|Qh<|Qz (α:=Nat) [(4,6),(15,31)] (λz=>[(15,.int .i64 z)]) (λz w'=>z≤t.length∧w'=U) (λz=>t.length - z) (by rfl) 0 La ⟨Ll _,O⟩ ?_;rintro k g V ⟨hk,rfl⟩;refine Qc<|x (QA O O)<|xe<|Qg<|QC O (λJ=>?_) (λJ=>?_)
  ·refine Qy<|Qc<|Qf ?_;exact Ql ⟨[_],La,O,E⟩
  have G:k<t.length:=by have hg:(k:Int)<(t.length:Int):=J;omega
  have hb:=h.2 k G;refine Qi<|Qg<|Qh<|Qc<|Qb<|xic (i:=k) (ht.ext E) O O G λhh Y=>x (Qv Y O)<|x Qe<|Qf<|QX (α:=Unit) [(20,30)] (λz=>[(30,.bool false)]) (λz w'=>w'=V) (by rfl) ?_ ?_
  ·refine Qw<|Qb<|xb (QA O O) (λha=>by omega) (λha=>?_);refine Qb<|Qb<|x (Qa O)<|x (Qd H O O)<|Qb<|xic (i:=k) (hS.ext E) O O (by omega) λhi hc=>x (Qv hc O) <|
    x (ZV rfl O)<|x (Qp O)<|xe ?_
   exact⟨(),⟨congrArg Value.bool (decide_eq_false (by omega)),Z⟩,O⟩
  rintro _ g w3 rfl;refine Z4 O ?_;refine Qi<|Qw<|QP O O<|Qb<|xe ?_;exact⟨k+1,by omega,La,G,O⟩
 exact absurd (show(t.length:Int)=(sz.length:Int) by omega) I
theorem yX {w:World}{vs vx vk vt:Value}{sz t:LI}{qx:List XV}{ks:List KV}(hS:QJ [] w.heap vs sz)(U:qL [] w.heap vx qx)(V:jV [] w.heap vk ks)(ht:QJ [] w.heap vt t)(hc:YN sz (qx.map (·.x)) (ks.map (·.k))=0)(h:QmR sz t):
  QH prog 185 [.agg #[vs,vx,vk],vt] w λr w'=>r=.int .i64 0∧Step [] w w':=by
 refine QH.of_W func185 O ntmps185 results185 (by simp) ?_;refine Qc<|xl O<|QR (us:=[vs,vx,vk]) O λb2 w1 E ha H=>Qf<|Qg<|Qc<|x (Qo H O O)<|xl O<|xf<|(zR (hS.ext E) (U.ext E) (V.ext E)).mono ?_;rintro r2 w2 ⟨I,J⟩;rw[hc]at I;subst I;refine Qf<|Qc<|Qb<|x (Q6 O O)<|xe<|Z4 rfl ?_;refine Qi ?_;have G:=E.trans J
 refine Qc<|x (Qo (H.ext J) O O)<|Qb<|xl O<|xf<|(QjI (hS.ext G) (ht.ext G) h).mono ?_;rintro r3 w3 ⟨rfl,Y⟩;refine Qf ?_;exact Ql ⟨[_],La,O,G.trans Y⟩
def yG (qx:List Exc)(ks:List Ju)(t:LI):Int×Int×Bool :=
 if 0≤fix (JT t) 0 qx then(1,fix (JT t) 0 qx,true)else if 0≤fix (Kv t) 0 ks then(2,fix (Kv t) 0 ks,true)else(0,0,false)
theorem Ql1 {cds:List Cd}{qx:List XV}{ks:List KV}(t:LI)(h:cds.map Cd.src=qx.map Sum.inl++ks.map Sum.inr):
  fix (Cd.vio t) 0 cds=if 0≤fix (JT t) 0 (qx.map (·.x))then fix (JT t) 0 (qx.map (·.x))else if 0≤fix (Kv t) 0 (ks.map (·.k))then fix (Kv t) 0 (ks.map (·.k))+qx.length else -1:=by
 have h1:fix (Cd.vio t) 0 cds=fix (Qf6 t) 0 (cds.map Cd.src):=(Vi (Qf6 t) Cd.src cds 0).symm;rw[h1,h,zN,Vi,Lh,jD,Vi (Qf6 t) Sum.inr ks 0];have e1:fix (λa=>Qf6 t (Sum.inl a)) 0 qx=fix (JT t) 0 (qx.map (·.x)):=(Vi (JT t) XV.x qx 0).symm;have e2:fix (λa=>Qf6 t (Sum.inr a)) 0 ks=fix (Kv t) 0 (ks.map (·.k)):=(Vi (Kv t) KV.k ks 0).symm;rw[e1,e2]
theorem Qnx {P:Int×Int×Bool}{a b:Int}{c:Bool}(h:P=(a,b,c)):(Value.tuple #[.int .i64 a,.int .i64 b,.bool c,.int .i64 0])=.tuple #[.int .i64 P.1,.int .i64 P.2.1,.bool P.2.2,.int .i64 0]:=by rw[h]
set_option maxHeartbeats 4000000 in
theorem Qc1 {w:World}{vs vx vk vt:Value}{sz t:LI}{qx:List XV}{ks:List KV}(hS:QJ [] w.heap vs sz)(I:qL [] w.heap vx qx)(hK:jV [] w.heap vk ks)(ht:QJ [] w.heap vt t)(hc:YN sz (qx.map (·.x)) (ks.map (·.k))=0)(h:QmR sz t):
  QH prog 144 [.agg #[vs,vx,vk],vt] w λr w'=>Step [] w w'∧r=.tuple #[.int .i64 (yG (qx.map (·.x)) (ks.map (·.k)) t).1,.int .i64 (yG (qx.map (·.x)) (ks.map (·.k)) t).2.1,.bool (yG (qx.map (·.x)) (ks.map (·.k)) t).2.2,.int .i64 0]:=by
 have J:=qb hc;have hp:qx.length≤32:=by have:=J.xl;simpa using this
 have hs:ks.length≤32:=by have:=J.kl;simpa using this
 refine QH.of_W func144 O ntmps144 results144 (by simp) ?_;refine Qc<|xl O<|QR (us:=[vs,vx,vk]) O λb2 w1 U h4 hg=>x Qe<|x Qe<|x Qe<|Qf<|Qg<|Qc<|x (Qo hg O O)<|Qb<|xl O<|xf<|(yX (hS.ext U) (I.ext U) (hK.ext U) (ht.ext U) hc h).mono ?_;rintro r2 w2 ⟨rfl,hh⟩;refine Qf<|Qc<|Qb<|x (Q6 O O)<|xe<|Z4 rfl ?_;refine Qi ?_;have ha:=U.trans hh;have hj:=hg.ext hh
 refine Qc<|x (Qo hj O O)<|xl O<|xf<|(QjD (I.ext ha) (hK.ext ha) hp hs).mono ?_;rintro r3 w3 ⟨hk,cds,hL,hb⟩;have Y:=ha.trans hk;have h5:cds.length=qx.length+ks.length:=by have:=congrArg List.length hb;simpa using this
 have hu:∀i,i<t.length→0≤cget t i∧cget t i≤4096:=λi hi=>by
  have h1:=h.2 i hi;have h2:i<sz.length:=by rw[←h.1];exact hi
  have h3:=J.s _ (Lc h2);rw[Q8 h2]at h3;omega
 have hl:∀c∈cds,c.src∈qx.map Sum.inl++ks.map Sum.inr:=λc hm=>by rw[←hb];exact LP hm
 have hv:∀c∈cds,CdA w3.heap c:=λc hm=>by
  have h1:=hl c hm;have h2:=(hL.bx c hm).1;cases c with
  | ex b q =>
   have hq:q∈qx:=by simpa[Cd.src]using h1
   exact⟨h2,(I.each q hq).ext Y⟩
  | co b q =>
   have hq:q∈ks:=by simpa[Cd.src]using h1
   exact⟨h2,(hK.each q hq).ext Y⟩
 have hw:∀c∈cds,c.rg t.length:=λc hm=>by
  have h1:=hl c hm;rw[h.1];cases c with
  | ex b q =>
   have hq:q∈qx:=by simpa[Cd.src]using h1
   exact J.x q.x (LP hq)
  | co b q =>
   have hq:q∈ks:=by simpa[Cd.src]using h1
   exact J.k q.k (LP hq)
 have hy:=Ql1 t hb;have g1:=QdQ (JT t) (qx.map (·.x)) 0;have g2:=QdQ (Kv t) (ks.map (·.k)) 0;simp only[List.length_map]at g1 g2;refine Qb<|xl O<|xf<|(Qbo (QV (L:=[]) hL.own (by omega) (by simp)) hv (ht.ext Y) hw hu).mono ?_;rintro r4 w4 ⟨rfl,hn⟩;rw[hy];have V:=Y.trans hn;refine Zj (yG (qx.map (·.x)) (ks.map (·.k)) t) λP G=>?_;rw[G];unfold yG at G
 refine Zj (fix (JT t) 0 (qx.map (·.x))) λH he=>?_;refine Zj (fix (Kv t) 0 (ks.map (·.k))) λi2 hf=>?_;rw[he,hf]at G;rw[he]at g1;rw[hf]at g2;refine Zj (if 0≤H then H else if 0≤i2 then i2+(qx.length:Int)else -1) λr E=>?_
 rw[he,hf,E];refine Qf<|Qh<|Qc<|Qb<|x (QA O O)<|Qf<|Q3 O (λhz=>?_) (λhz=>?_)
 ·have n1:¬0≤H:=λh=>by rw[if_pos h]at E;omega
  have n2:¬0≤i2:=λh=>by rw[if_neg n1,if_pos h]at E;omega
  refine Qc<|x Qe<|x Qe<|x Qe<|Qf ?_;exact Ql ⟨[_,_,_,_],⟨O,O,O,O,Z⟩,V,Qnx (by rw[←G,if_neg n1,if_neg n2])⟩
 have ho:=(hj.ext hk).ext hn;refine Qc<|Qb<|x (Qa O)<|x (Qd ho O O)<|x (Qr (I.ext V).arr O)<|x (QA O O)<|Qf<|Q3 O (λh0=>?_) (λh0=>?_)
 ·have p1:0≤H:=by
   refine Ln.1 λn1=>?_;by_cases h:0≤i2
   ·rw[if_neg n1,if_pos h]at E;omega
   rw[if_neg n1,if_neg h]at E;omega
  have e:r=H:=by rw[if_pos p1]at E;exact E.symm
  refine Qc<|Qb<|x Qe<|x Qe<|x Qe<|Qf ?_;exact Ql ⟨[_,_,_,_],⟨O,O,O,O,Z⟩,V,Qnx (by rw[←G,if_pos p1,e])⟩
 have n1:¬0≤H:=λh=>by rw[if_pos h]at E;omega
 have p2:0≤i2:=by
  refine Ln.1 λn2=>?_;rw[if_neg n1,if_neg n2]at E;omega
 have e:r - (qx.length:Int)=i2:=by rw[if_neg n1,if_pos p2]at E;omega
 refine Qg<|QU (Step [] w4) [(0,true),(1,true),(2,true),(3,true),(4,true),(5,true),(6,true),(7,true),(8,true)] mixed (by rfl) (by kernel_rfl) (Step.drew _ _) ?_;refine p (λ_=>Qk)<|p (λ_=>Qa O)<|pq (λ_ hc=>Qd (ho.ext hc) O O)<|p (λ_=>Qr (I.ext V).arr O) <|
  p (λ_=>JW O O ⟨by omega,by omega⟩)<|p (λ_=>Qe)<|p (λ_=>Qe)<|p (λ_=>Qe)<|p (λ_=>Qe) <|
  pe ?_
 exact Ql ⟨[_,_,_,_],⟨O,O,O,O,Z⟩,V.trans (Step.drew _ _),Qnx (by rw[←G,if_neg n1,if_pos p2,←e])⟩
def Z3 (base:Nat)(av:LN)(H:Array Obj)(v:Value)(n sz:Nat)(cs:LV):Prop:=∀L:LN,(∀b∈L,b<base∨b∈av)→Zy L H v n sz cs
theorem Z3.ext {base:Nat}{av:LN}{w w':World}{v:Value}{n sz:Nat}{cs:LV}(h:Z3 base av w.heap v n sz cs)(hs:Step [] w w'):Z3 base av w'.heap v n sz cs:=λL E=>(h L E).ext hs
theorem Z3.app {base:Nat}{av E:LN}{w w':World}{v:Value}{n sz:Nat}{cs:LV}(h:Z3 base av w.heap v n sz cs)(hs:Step av w w')(G:∀b∈E,b∈av∨w.heap.size≤b):Z3 base E w'.heap v n sz cs:=by
 intro L H;have h1:Zy (av++L.filter λb=>decide (b<base)) w.heap v n sz cs:=h _ (λb hb=>by
  rcases Lo.1 hb with hb|hb
  ·exact .inr hb
  exact .inl (by simpa using(LJ.1 hb).2))
 refine h1.grow hs (λb hb=>Lo.2 (.inl hb)) λb hb=>?_;rcases H b hb with h2|h2
 ·exact .inl (Lo.2 (.inr (LJ.2 ⟨hb,by simpa using h2⟩)))
 rcases G b h2 with h3|h3
 ·exact .inl (Lo.2 (.inl h3))
 exact .inr h3
theorem Z3.of_own {base N:Nat}{av:LN}{w:World}{v:Value}{e n sz:Nat}{cs:LV}(h:w.ownsRow N e sz v n cs)(E:n≤1099511627776)(hb:base≤N)(G:∀b∈av,b<N):Z3 base av w.heap v n sz cs:=λL H =>
 QV h E λb hb I=>by
  have h1:=(Qq h b hb).1;rcases H b I with h2|h2
  ·omega
  have:=G b h2;omega
structure Ye {α:Type}(g:α→LV)(sz T:Nat)(p:α→Value×Nat×Nat×LV)(base:Nat)(w:World)(v:Value)(l:List α):Prop where
 own:w.ownsRow base T sz v l.length (l.flatMap g)
 each:∀q∈l,Z3 base (ob v) w.heap (p q).1 (p q).2.1 (p q).2.2.1 (p q).2.2.2
theorem Ye.nil {α:Type}{g:α→LV}{sz T:Nat}{p:α→Value×Nat×Nat×LV}{base:Nat}{w:World}:Ye g sz T p base w (nS) []:=⟨QN _ _ _ _,λq hq=>by cases hq⟩
theorem Ye.ext {α:Type}{g:α→LV}{sz T:Nat}{p:α→Value×Nat×Nat×LV}{base:Nat}{w w':World}{v:Value}{l:List α}(h:Ye g sz T p base w v l)(hs:Step [] w w'):Ye g sz T p base w' v l:=⟨Qs h.own hs,λq hq=>(h.each q hq).ext hs⟩
theorem Ye.app {α:Type}{g:α→LV}{sz T:Nat}{p:α→Value×Nat×Nat×LV}{base N e:Nat}{w E G:World}{v H:Value}{l:List α}{q:α}(h:Ye g sz T p base w v l)(hs:Step [] w E)
  (hq:E.ownsRow N e (p q).2.2.1 (p q).1 (p q).2.1 (p q).2.2.2) (U:(p q).2.1≤1099511627776) (hN:w.heap.size≤N) (hb:base≤w.heap.size)
  (V:G.ownsRow base T sz H (l.length+1) (l.flatMap g++g q)) (I:Step (ob v) E G) (J:∀b∈ob H,b∈ob v∨E.heap.size≤b):Ye g sz T p base G H (l++[q]):=by
 have Y:=QY h.own;refine⟨?_,λd hd=>?_⟩
 ·rw[Lj,LG];simpa using V
 rcases Lo.1 hd with hd|hd
 ·exact((h.each d hd).ext hs).app I J
 simp only[List.mem_singleton]at hd;subst hd;exact(Z3.of_own hq U (by omega) (λb hb=>by have:=Y b hb;omega)).app I J
theorem Qkm {L L':LN}{w:World}{va vm ve va' vm' ve':Value}{a b:QD}(h:Zm L w.heap va vm ve a)(h':Zm L' w.heap va' vm' ve' b):
  QH prog 211 [.agg #[va,.int .i64 a.st,vm,ve],.agg #[va',.int .i64 b.st,vm',ve']] w λr w'=>r=.bool (decide (a.st=b.st∧a.al=b.al∧a.mr=b.mr∧a.ed=b.ed))∧Step [] w w':=by
 refine QH.of_W func211 O ntmps211 results211 (by simp) ?_;refine Qc<|xl O<|QR (us:=[va,.int .i64 a.st,vm,ve]) O λb2 w1 hg hk hh=>xl O<|QR (us:=[va',.int .i64 b.st,vm',ve']) O λb3 w2 hc E H=>Qf ?_;have I:=hg.trans hc;have J:=hh.ext hc;refine QX (α:=Bool) [(4,30)] (λz=>[(4,.bool z)]) (λz w'=>Step [] w w'∧z=decide (a.st=b.st∧a.al=b.al∧a.mr=b.mr∧a.ed=b.ed)) (by rfl) ?_ ?_
 ·refine Qw<|x (Qa O)<|x (Qd J O O)<|x (Qa O)<|x (Qd H O O)<|xb (Zr O O) (λh9=>?_) (λh9=>?_)
  ·refine Qb<|x (Qa O)<|x (Qd J O O)<|x (Qa O)<|x (Qd H O O)<|xl O<|xf<|(Vj (h.al.ext I) (h'.al.ext I)).mono ?_;rintro r3 w3 ⟨U,V⟩;have Y:=I.trans V;refine Qjl (decide (a.al=b.al)) (λE=>?_) (λE=>?_)
   ·rw[E]at U;subst U;refine x (Qp O)<|Qb<|x (Qa O)<|x (Qd (J.ext V) O O)<|x (Qa O)<|x (Qd (H.ext V) O O)<|xl O<|xf<|(Vj (h.mr.ext Y) (h'.mr.ext Y)).mono ?_;rintro r4 w4 ⟨ha,he⟩;have hb:=Y.trans he;have hf:=V.trans he;refine Qjl (decide (a.mr=b.mr)) (λG=>?_) (λG=>?_)
    ·rw[G]at ha;subst ha;refine x (Qp O)<|Qb<|x (Qa O)<|x (Qd (J.ext hf) O O)<|x (Qa O)<|x (Qd (H.ext hf) O O)<|xl O<|xf<|(Qgv (h.ed.ext hb) (h'.ed.ext hb)).mono ?_;rintro r5 w5 ⟨rfl,hi⟩;refine x (Qp O)<|Qf ?_;exact⟨_,La,hb.trans hi,bD ⟨λe=>⟨h9,of_decide_eq_true E,of_decide_eq_true G,e⟩,λe=>e.2.2.2⟩⟩
    rw[G]at ha;subst ha;refine x (Qp O)<|Qb<|xs O<|xs O<|xs O<|xs O<|xs O<|x (Qp O)<|Qf ?_;exact⟨_,La,hb,bF (λe=>of_decide_eq_false G e.2.2.1)⟩
   rw[E]at U;subst U;refine x (Qp O)<|Qb<|xs O<|xs O<|xs O<|xs O<|xs O<|x (Qp O)<|Qb<|xs O<|xs O<|xs O<|xs O<|xs O<|x (Qp O) <|
    Qf ?_
   exact⟨_,La,Y,bF (λe=>of_decide_eq_false E e.2.1)⟩
  refine Qb<|xs O<|xs O<|xs O<|xs O<|xs O<|x (Qp O)<|Qb<|xs O<|xs O<|xs O<|xs O<|xs O<|x (Qp O) <|
   Qb<|xs rfl<|xs O<|xs O<|xs O<|xs O<|x (Qp O)<|Qf ?_
  exact⟨_,La,I,bF (λe=>h9 e.1)⟩
 rintro z g w6 ⟨hj,rfl⟩;exact Ql ⟨[_],La,O,hj⟩
theorem Qki {L:LN}{w:World}{va vm ve:Value}{a:QD}(h:Zm L w.heap va vm ve a):
  QH prog 172 [.agg #[va,.int .i64 a.st,vm,ve]] w λr w'=>r=.bool (KR a)∧Step [] w w':=by
 refine QH.of_W func172 O ntmps172 results172 (by simp) ?_;refine Qc<|xl O<|QR (us:=[va,.int .i64 a.st,vm,ve]) O λb1 E hb hg G=>Qf<|QX (α:=Bool) [(2,11)] (λz=>[(2,.bool z)]) (λz w'=>Step [] w w'∧z=KR a) (by rfl) ?_ ?_
 ·refine QU (Step [] E) [(0,true),(1,false),(2,true),(3,true),(4,true),(5,true),(6,false),(7,false),(8,true),(9,true)] mixed (by rfl) (by kernel_rfl) (Step.drew _ _) ?_;have U:=hb.trans (Step.drew [] E);refine pq (λ_ hc=>Qo (G.step hc (by simp)) rfl rfl)<|pk<|xf<|(YU (h.ext U)).mono ?_;rintro r2 w2 ⟨rfl,V⟩;have H:=U.trans V;have I:=(Step.drew [] E).trans V
  refine⟨I,?_⟩;refine pb (λ_=>Zr O O) (λh5=>?_) (λh5=>?_)
  ·have hc:Xq a=0:=h5;refine p (λ_=>Qk)<|pq (λ_ hc=>Qo (G.step hc (by simp)) rfl rfl)<|pq (λ_ hc=>Qo (G.step hc (by simp)) rfl rfl) <|
    pk<|xf<|(Qa6 (h.ext H) ((Zs a).1 hc)).mono ?_
   rintro r3 w3 ⟨J,hh,hi,hj,rfl,he⟩;have Y:=H.trans J;refine⟨I.trans J,?_⟩;refine pk<|xf<|(Qkm (h.ext Y) (he [] (by simp))).mono ?_;rintro r4 w4 ⟨rfl,ha⟩;refine⟨(I.trans J).trans ha,?_⟩;refine p (λ_=>Qp O)<|p (λ_=>Qe)<|pe ?_;refine⟨_,La,Y.trans ha,?_⟩;unfold KR;rw[decide_eq_true hc,Bool.true_and]
   exact bD ⟨λe=>⟨e.1.symm,e.2.1.symm,e.2.2.1.symm,e.2.2.2.symm⟩,λe=>⟨e.1.symm,e.2.1.symm,e.2.2.1.symm,e.2.2.2.symm⟩⟩
  have hc:¬Xq a=0:=h5;refine p (λ_=>Qk)<|ps<|ps<|ps<|ps<|p (λ_=>Qp O)<|p (λ_=>Qe)<|pe ?_;exact⟨_,La,H,by unfold KR;rw[decide_eq_false hc];rfl⟩
 rintro z g w5 ⟨hf,rfl⟩;exact Ql ⟨[_],La,O,hf⟩
section
variable {P:Program}{f:Fr}{w:World}{d:Option Nat}{ty:Nat}{ps:String}{af:Array Edge}{gd:Option (Nat×Bool)}
theorem ZG {t sz:Nat}[Ag P t sz]{x:Operand}{b T o:Nat}{cs us:LV}(h:QT w.heap b T cs)(hx:ev f x=.pointer (some ⟨b,o,none⟩))(hl:us.length=sz)(hu:(cs.drop o).take sz=us):
  (execOp (ev f) ⟨d,.load t x,ty,ps,af,gd⟩).run P w=.ok (.value (.agg us.toArray)) w:=qA hx hl λj v E=>by
 rw[YD,Ja,h.cell];rw[←hu,Ms]at E;split at E
 ·simpa using E
 cases E
end
theorem QdM {L:LN}{w:World}{v:Value}{qs:List IV}(h:Xm L w.heap v qs):
  QH prog 184 [v] w λr w'=>Step [] w w'∧w'.ownsRow w.heap.size 50 4 r (qs.map (·.p)).length ((qs.map (·.p)).flatMap Zc):=by
 have hp:=h.arr.le;refine QH.of_W func184 O ntmps184 results184 (by simp) ?_;refine Qc<|Qf<|Qc<|Qf<|Qg<|Qc<|Qb<|x (Qr h.arr O)<|Qb<|xe<|Qh<|Qz (α:=Nat×Value) [(3,3),(5,5),(8,17)] (λz=>[(3,z.2),(8,.int .i64 z.1)]) (λz w'=>z.1≤qs.length∧Step [] w w'∧w'.ownsRow w.heap.size 50 4 z.2 z.1 (((qs.take z.1).map (·.p)).flatMap Zc)) (λz=>qs.length - z.1) (by rfl) (0,nS) ⟨O,O,Z⟩
  ⟨Ll _,Step.refl _ _,QN _ _ _ _⟩ ?_
 rintro⟨k,vo⟩ g w1 ⟨hk,H,I⟩;simp only[]at hk I;refine Qc<|x (QA O O)<|xe<|Qg<|QC O (λh9=>?_) (λh9=>?_)
 ·refine Qy ?_;have he:k=qs.length:=by have J:¬(k:Int)<(qs.length:Int):=h9;omega
  subst he;rw[Lp (Lu _)]at I;refine Qc<|Qb<|Qf ?_;exact Ql ⟨[_],La,H,by rw[Lh];exact I⟩
 have E:k<qs.length:=by have J:(k:Int)<(qs.length:Int):=h9;omega
 have Y:=Lc E;have ha:qs.take (k+1)=qs.take k++[qs[k]'E]:=Li E;refine Qi<|Qg<|Qh<|Qc<|xig XN (h.arr.ext H) O O E λhr J=>?_;refine Zj (qs[k]'E) λq hq=>?_;rw[hq]at J Y ha;have G:=h.each q Y
 refine x (QI J O O)<|xl O<|Qu (us:=[.string .empty,nS,.int .i64 0,nS,nS]) O λb5 w2 hf hg U=>xl O<|Qn (us:=Zn q) U O O O O ⟨O,G.al.one,O,G.mr.one,G.ed.one,Z⟩ λw3 hh U =>
  xe ?_
 have hi:Step [] w1 w3:=hf.then1 hh hg;refine Qw<|Qb<|x (Qa O)<|x (ZG (us:=Zc q.p) U O O O)<|xl O<|QG (us:=[Zc q.p]) O O (by decide) (by simp) ⟨rfl,rfl,Z⟩ λb15 w4 hj hs hl=>?_;have V:=hi.trans hj;have hc:=Qs I V;have ht:=(H.trans V).size;have hm:∀u∈Zc q.p,u.oneCell'=true:=by
  intro u hu;simp only[List.mem_cons,List.not_mem_nil,or_false]at hu;rcases hu with rfl|rfl|rfl|rfl
  ·exact G.al.one
  ·rfl
  ·exact G.mr.one
  exact G.ed.one
 refine xl rfl<|Q4 (news:=Zc q.p) (L:=[]) hc O O O (hl.at (by simp)) hm (by omega) (by omega) λv5 w5 hn ho hv=>Qf ?_;have hge:=Qq hc;refine Qw<|QP O O<|Qb<|xe<|⟨(k+1,v5),by simp only[];omega,⟨O,O,Z⟩,E,(H.trans V).then ho (λb hb=>.inr (hge b hb).1),?_⟩;simp only[];rw[ha,Lx,LG];simpa using hn
theorem QiT {L:LN}{w:World}{r:Value}{base e:Nat}{ps:List AV}(h:w.ownsRow base e 4 r ps.length (ps.flatMap Zc))(E:ps.length≤1099511627776)(G:∀b∈L,b<base)(he:∀p∈ps,Zm L w.heap p.va p.vm p.ve p.a):YX L w.heap r ps :=
 ⟨QV h E (λb hb H=>by have:=(Qq h b hb).1;have:=G b H;omega),he⟩
theorem QiS {w:World}{b:Nat}{n m:Int}(E:QT w.heap b 3 [.int .i64 m]):
  QH prog 173 ([.int .i64 n]++[.pointer (some ⟨b,0,none⟩)]) w λr w'=>r=.bool (decide (m≤n))∧Step [] w w':=by
 refine QH.of_W func173 O ntmps173 results173 (by simp) ?_;refine Qc<|Qf<|Qc<|Qb<|x (Qd E O O)<|x (ZV O O)<|Qf ?_;exact Ql ⟨[_],La,O,Step.refl _ _⟩
abbrev Ud (n:Int):LV:=[.int .i64 n]
theorem Qom (n:Int):(Ud n).length=1:=rfl
theorem Qne:∀l:LI,l.flatMap Ud=l.map (.int .i64)
 | []=>rfl
 | a::l=>by rw[LW,Qne l];rfl
theorem QJ.fl {L:LN}{H:Array Obj}{v:Value}{l:LI}(h:QJ L H v l):Zy L H v l.length 1 (l.flatMap Ud):=by
 rw[Qne l];exact h
theorem Qok {gp:Nat}{fn:Func}[Fu prog gp fn]{cap:LV}{q:Int→Bool}{L:LN}{w:World}{v:Value}{l:LI}(h:Zy L w.heap v l.length 1 (l.flatMap Ud))
  (hk:∀e∈l,∀(G:World),Step [] w G→QH prog gp ([.int .i64 e]++cap) G λr w'=>r=.bool (q e)∧Step [] G w'):
  QH prog 111 [v,.func (.func gp) #[] cap.toArray] w λr w'=>r=.int .i64 (fix q 0 l)∧Step [] w w':=by
 have hc:=h.le;refine QH.of_W func111 O ntmps111 results111 (by simp) ?_;refine Qc<|Qf<|Qg<|Qc<|Qb<|x (Qr h O)<|Qb<|xe<|Qh<|Qz (α:=Nat) [(4,5),(8,18)] (λz=>[(8,.int .i64 z)]) (λz w'=>z≤l.length∧Step [] w w'∧fix q z (l.drop z)=fix q 0 l) (λz=>l.length - z) (by rfl) 0 La
  ⟨Ll _,Step.refl _ _,O⟩ ?_
 rintro k g G ⟨hk1,H,E⟩;refine Qc<|x (QA O O)<|xe<|Qg<|QC O (λh9=>?_) (λh9=>?_)
 ·refine Qy ?_;have ha:l.length≤k:=by have hb:¬(k:Int)<(l.length:Int):=h9;omega
  rw[Lv ha]at E;refine Qc<|Qf ?_;exact Ql ⟨[_],La,by rw[←E];rfl,H⟩
 have I:k<l.length:=by have hb:(k:Int)<(l.length:Int):=h9;omega
 rw[Q5 I,Yg]at E;have U:=Lc I;refine Qi<|Qg<|Qh<|Qc<|Qb<|Qf<|Qc<|Qb<|Qb<|Qb<|xig Qom (h.ext H) O O I λhf V=>?_;refine Zj (l[k]'I) λe he=>?_;rw[he]at V E U;refine x (Qv V O)<|xl O<|xc (first:=[]) (capt:=cap) O<|(hk e U G H).mono ?_;rintro r2 w2 ⟨rfl,Y⟩;refine xe<|QZ rfl (λJ=>?_) (λJ=>?_)
 ·rw[if_pos J]at E;refine Qc<|Qb<|Qf ?_;exact Ql ⟨[_],La,by rw[←E];rfl,H.trans Y⟩
 rw[if_neg (by rw[J];decide)]at E;refine Qi<|Qw<|QP O O<|Qb<|xe ?_;exact⟨k+1,by omega,La,I,H.trans Y,E⟩
theorem QoQ {gp:Nat}{fn:Func}[Fu prog gp fn]{cap:LV}{q:Int→Bool}{L:LN}{w:World}{v:Value}{l:LI}(h:Zy L w.heap v l.length 1 (l.flatMap Ud))
  (hk:∀e∈l,∀(E:World),Step [] w E→QH prog gp ([.int .i64 e]++cap) E λr w'=>r=.bool (q e)∧Step [] E w'):
  QH prog 153 [v,.func (.func gp) #[] cap.toArray] w λr w'=>r=.bool (l.any q)∧Step [] w w':=by
 refine QH.of_W func153 O ntmps153 results153 (by simp) ?_;refine Qc<|Qf<|Qc<|Qb<|Qb<|xl O<|xf<|(Qok h hk).mono ?_;rintro H E ⟨rfl,G⟩;refine x (ZV O O)<|Qf ?_;exact Ql ⟨[_],La,congrArg Value.bool (Uk q l 0),G⟩
theorem Qfj {L L':LN}{w:World}{q:IV}{nev:Nat}{vg:Value}{amg:LI}{bm:Nat}{seen:List ByteArray}(hA:Zm L w.heap q.p.va q.p.vm q.p.ve q.p.a)(h2:yC q.nm)(hg:QJ L' w.heap vg amg)(hF:amg.length≤4096)(hm:ZI Jh w.heap bm (nmM seen))(h3:bm∈L)(h4:bm∈L'):
  QH prog 133 [.agg (Zn q).toArray,.int .i64 nev,vg,.map (some bm)] w λr w'=>r=.int .i64 (Yh nev amg seen q.it)∧Step [bm] w w'∧(Yh nev amg seen q.it=0→ZI Jh w'.heap bm (nmM (seen++[q.nm]))):=by
 have E:Yh nev amg seen q.it=(if Xl q.nm=false then 7 else if q.nm∈seen then 8 else if Xq q.p.a≠0 then Xq q.p.a else if KR q.p.a=false then 6 else if q.p.a.st=0 then 12 else
  if(q.p.a.al.any λe=>decide ((nev:Int)≤e))=true then 2 else if(mns q.p.a.al amg).length≠0 then 9 else 0):=rfl
 refine Zj (Yh nev amg seen q.it) λR hR=>?_;rw[hR]at E ⊢;refine QH.of_W func133 O ntmps133 results133 (by simp) ?_;refine Qc<|xl O<|QR (us:=Zn q) O λb4 w1 hu hG h5=>xl O<|QR (us:=[.int .i64 nev]) O λb5 w2 V hH h6=>Qf ?_;have Y:=hu.trans V;have ha:=h5.ext V;refine Qg<|Qh<|Qc<|x (Qa O)<|x (Qd ha O O)<|xl O<|xf<|(U4 q.nm h2 w2).mono ?_;rintro r3 w3 ⟨rfl,rfl⟩
 refine x (Zt O)<|Qf<|QZ O (λhj=>?_) (λhj=>?_)
 ·have G:Xl q.nm=false:=by simpa using hj
  rw[if_pos G]at E;subst E;refine Qc<|Qf ?_;exact Ql ⟨[_],La,O,Y.any,λe=>absurd e (by decide)⟩
 have G:¬Xl q.nm=false:=by simpa using hj
 rw[if_neg G]at E;have hv:=hm.ext Y;refine Qc<|Qb<|x (Qa O)<|x (Qd ha O O)<|x (QbQ hv O O)<|Qf<|Q3 O (λhc=>?_) (λhc=>?_)
 ·rw[if_pos hc]at E;subst E;refine Qc<|Qf ?_;exact Ql ⟨[_],La,O,Y.any,λe=>absurd e (by decide)⟩
 rw[if_neg hc]at E;refine Qi ?_;have hI:=hm.lt;refine Qc<|Qb<|x (Qa O)<|x (Qd ha O O)<|xl O<|YR (k:=q.nm) hv O O λw4 hk hw=>xe ?_;rw[show ev _ _=Value.bool true from rfl,QeY hc]at hw;have H:Step [bm] w w4:=Y.any.trans' hk;have hJ:=hu.size;have hf:=ha.step hk (by simp;omega);have h7:=h6.step hk (by simp;omega)
 have hh:Zm L w4.heap q.p.va q.p.vm q.p.ve q.p.a:=hA.st (H.mono (λb hb=>by simp at hb;subst hb;exact h3));have h8:QJ L' w4.heap vg amg:=hg.st (H.mono (λb hb=>by simp at hb;subst hb;exact h4));refine Qg<|Qc<|x (Qa O)<|x (ZG (us:=Zc q.p) hf O O O)<|xl O<|xf<|(YU hh).mono ?_;rintro r5 w5 ⟨rfl,hi⟩;refine Qf<|Qc<|Qb<|x (Q6 O O)<|xe<|Q3 rfl (λI=>?_) (λI=>?_)
 ·rw[if_pos I]at E;subst E;refine Qc<|Qb<|Qf ?_;exact Ql ⟨[_],La,O,H.trans hi,λe=>absurd e I⟩
 rw[if_neg I]at E;have h9:=(Zs q.p.a).1 (Ln.1 I);refine Qi<|Qg<|Qh<|Qc<|x (Qa O)<|x (ZG (us:=Zc q.p) (hf.ext hi) O O O)<|xl O<|xf<|(Qki (hh.ext hi)).mono ?_;rintro r6 w6 ⟨rfl,hB⟩;have J:=hi.trans hB;have hy:=H.trans J;have hz:=hf.ext J;refine x (Zt O)<|Qf<|QZ O (λhl=>?_) (λhl=>?_)
 ·have G:KR q.p.a=false:=by simpa using hl
  rw[if_pos G]at E;subst E;refine Qc<|Qf ?_;exact Ql ⟨[_],La,O,hy,λe=>absurd e (by decide)⟩
 have G:¬KR q.p.a=false:=by simpa using hl
 rw[if_neg G]at E;refine Qc<|x (Qa O)<|x (Qa O)<|x (Qd hz O O)<|x (Zr O O)<|Qf<|Q3 O (λho=>?_) (λho=>?_)
 ·have hp:q.p.a.st=0:=ho;rw[if_pos hp]at E;subst E;refine Qc<|Qf ?_;exact Ql ⟨[_],La,O,hy,λe=>absurd e (by decide)⟩
 have hp:¬q.p.a.st=0:=ho;rw[if_neg hp]at E;refine Qc<|x (Qa O)<|x (Qa O)<|x (Qd hz O O)<|x Zo<|xl O<|xf<|(QoQ (q:=λe=>decide ((nev:Int)≤e)) (cap:=[.pointer (some ⟨b5,0,none⟩)]) (QJ.fl (hh.al.ext J)) (λe he w2 V=>QiS ((h7.ext J).ext V))).mono ?_;rintro r7 w7 ⟨rfl,hC⟩;have U:=J.trans hC;have hD:=H.trans U;refine Qf<|QZ O (λhq=>?_) (λhq=>?_)
 ·rw[if_pos hq]at E;subst E;refine Qc<|Qf ?_;exact Ql ⟨[_],La,O,hD,λe=>absurd e (by decide)⟩
 rw[if_neg (by rw[hq];decide)]at E;have hK:=h9.al_le;refine Qc<|x (Qa O)<|x (Qa O)<|x (Qd (hf.ext U) O O)<|Qb<|xl O<|xf<|(QgI (hh.al.ext U) (h8.ext U) (by omega)).mono ?_;rintro r8 w8 ⟨hE,rfl⟩;have h0:=U.trans hE;have h1:=H.trans h0;refine x (zg O)<|Qf<|Q3 O (λhs=>?_) (λhs=>?_)
 ·have ht:(mns q.p.a.al amg).length≠0:=λe=>hs (Lr e);rw[if_pos ht]at E;subst E;refine Qc<|Qf ?_;exact Ql ⟨[_],La,O,h1,λe=>absurd e (by decide)⟩
 have ht:¬(mns q.p.a.al amg).length≠0:=λe=>hs (λh=>e (by rw[show mns q.p.a.al amg=[] from h];rfl));rw[if_neg ht]at E;subst E;refine Qi<|Qc<|Qf ?_;exact Ql ⟨[_],La,O,h1,λ_=>hw.ext h0⟩
theorem Qgz {L:LN}{w:World}{v:Value}{l:List (Int×Int)}(h:P2s L w.heap v l):
  QH prog 180 [v] w λr w'=>Step [] w w'∧w'.ownsRow w.heap.size 101 2 r l.length (l.flatMap Zb):=by
 have ha:=h.le;refine QH.of_W func180 O ntmps180 results180 (by simp) ?_;refine Qc<|Qf ?_;obtain⟨ao,cap,E⟩:=h.shape;refine Qg<|Qc<|Qb<|x (V1 (show ev _ _=_ from E) O)<|xe<|QZ rfl (λh4=>?_) (λh4=>?_)
 ·refine Qc<|Qf<|Ql ⟨[nS],La,Step.refl _ _,?_⟩;rcases h.2.2 with⟨h1,h2⟩|⟨a,c,h1,_⟩
  ·have:l=[]:=Lr h2;subst this;exact QN _ _ _ _
  rw[h1]at E;cases E;cases h4
 rcases h.2.2 with⟨h1,h2⟩|⟨a,c,h1,h2,h3⟩
 ·rw[h1]at E;injection E with e1;subst e1;cases h4
 refine Qi<|Qc ?_;have J:∀u∈l.flatMap Zb,u.oneCell'=true:=by
  intro u hu;obtain⟨p,_,hp⟩:=MO.1 hu;simp only[List.mem_cons,List.not_mem_nil,or_false]at hp;rcases hp with rfl|rfl <;> rfl
 refine xl rfl<|VG λb5 w1 G H I=>Qb<|xl O<|Q4 (base:=w.heap.size) (I.own (n:=0) (sz:=2) O (by omega) H) O (show ev _ _=_ from h1) h.1 (h3.ext G) J (by omega) (by have:=I.lt;omega) λU w2 V Y hb=>Qf<|Ql ⟨[U],La,G.then1 Y H,?_⟩;simpa[tup]using V
theorem Qgy {L:LN}{w:World}{v:Value}{l:List (Int×Int)}(h:P2s L w.heap v l):
  QH prog 181 [v] w λr w'=>Step [] w w'∧w'.ownsRow w.heap.size 155 2 r l.length (l.flatMap Zb):=by
 have ha:=h.le;refine QH.of_W func181 O ntmps181 results181 (by simp) ?_;refine Qc<|Qf ?_;obtain⟨ao,cap,E⟩:=h.shape;refine Qg<|Qc<|Qb<|x (V1 (show ev _ _=_ from E) O)<|xe<|QZ rfl (λh4=>?_) (λh4=>?_)
 ·refine Qc<|Qf<|Ql ⟨[nS],La,Step.refl _ _,?_⟩;rcases h.2.2 with⟨h1,h2⟩|⟨a,c,h1,_⟩
  ·have:l=[]:=Lr h2;subst this;exact QN _ _ _ _
  rw[h1]at E;cases E;cases h4
 rcases h.2.2 with⟨h1,h2⟩|⟨a,c,h1,h2,h3⟩
 ·rw[h1]at E;injection E with e1;subst e1;cases h4
 refine Qi<|Qc ?_;have J:∀u∈l.flatMap Zb,u.oneCell'=true:=by
  intro u hu;obtain⟨p,_,hp⟩:=MO.1 hu;simp only[List.mem_cons,List.not_mem_nil,or_false]at hp;rcases hp with rfl|rfl <;> rfl
 refine xl rfl<|VG λb5 w1 G H I=>Qb<|xl O<|Q4 (base:=w.heap.size) (I.own (n:=0) (sz:=2) O (by omega) H) O (show ev _ _=_ from h1) h.1 (h3.ext G) J (by omega) (by have:=I.lt;omega) λU w2 V Y hb=>Qf<|Ql ⟨[U],La,G.then1 Y H,?_⟩;simpa[tup]using V
theorem Z3.low {base:Nat}{av X:LN}{w w':World}{v:Value}{n sz:Nat}{cs:LV}(h:Z3 base av w.heap v n sz cs)(hs:Step X w w')(E:∀b∈X,b<base):Z3 base av w'.heap v n sz cs:=by
 intro L G;have h1:Zy (X++L) w.heap v n sz cs:=h _ (λb hb=>by
  rcases Lo.1 hb with hb|hb
  ·exact .inl (E b hb)
  exact G b hb)
 exact(h1.step hs (λb hb=>Lo.2 (.inl hb))).up (λb hb=>.inl (Lo.2 (.inr hb)))
theorem Ye.low {α:Type}{g:α→LV}{sz T:Nat}{p:α→Value×Nat×Nat×LV}{base:Nat}{X:LN}{w w':World}{v:Value}{l:List α}(h:Ye g sz T p base w v l)(hs:Step X w w')(E:∀b∈X,b<base):Ye g sz T p base w' v l :=
 ⟨Qm h.own hs (λb hb hm=>by have:=(Qq h.own b hb).1;have:=E b hm;omega),λq hq=>(h.each q hq).low hs E⟩
theorem Ye.arr {α:Type}{g:α→LV}{sz T:Nat}{p:α→Value×Nat×Nat×LV}{base:Nat}{w:World}{v:Value}{l:List α}{L:LN}(h:Ye g sz T p base w v l)(E:l.length≤1099511627776)(G:∀b∈L,b<base):Zy L w.heap v l.length sz (l.flatMap g):=
 QV h.own E (λb hb H=>by have:=(Qq h.own b hb).1;have:=G b H;omega)
abbrev xvP (q:XV):Value×Nat×Nat×LV:=(q.v,q.ls.length,2,q.ls.flatMap Zb)
abbrev kvP (q:KV):Value×Nat×Nat×LV:=(q.v,q.ts.length,2,q.ts.flatMap Zb)
abbrev XvN (base:Nat)(w:World)(v:Value)(l:List XV):Prop:=Ye ZF 2 99 xvP base w v l
abbrev KvN (base:Nat)(w:World)(v:Value)(l:List KV):Prop:=Ye ZH 3 153 kvP base w v l
theorem XvN.xcs {base:Nat}{w:World}{v:Value}{l:List XV}{qs:List XV}{L:LN}(h:XvN base w v l)(he:l.map (·.x)=qs.map (·.x))(hq:∀q∈qs,yC q.nm)(H:l.length≤1099511627776)(E:∀b∈L,b<base):qL L w.heap v l:=by
 refine⟨h.arr H E,λq hq=>h.each q hq L (λb hb=>.inl (E b hb)),λq hm=>?_⟩;have h1:q.x∈qs.map (·.x):=by rw[←he];exact LP hm
 obtain⟨G,I,e⟩:=Lq.1 h1;have h2:=hq G I;have h3:G.nm=q.nm:=congrArg Exc.nm e;rw[h3]at h2;exact h2
theorem KvN.kcs {base:Nat}{w:World}{v:Value}{l:List KV}{qs:List KV}{L:LN}(h:KvN base w v l)(he:l.map (·.k)=qs.map (·.k))(hq:∀q∈qs,yC q.nm)(H:l.length≤1099511627776)(E:∀b∈L,b<base):jV L w.heap v l:=by
 refine⟨h.arr H E,λq hq=>h.each q hq L (λb hb=>.inl (E b hb)),λq hm=>?_⟩;have h1:q.k∈qs.map (·.k):=by rw[←he];exact LP hm
 obtain⟨G,I,e⟩:=Lq.1 h1;have h2:=hq G I;have h3:G.nm=q.nm:=congrArg Ju.nm e;rw[h3]at h2;exact h2
theorem QQ {w:World}{base e sz n:Nat}{v:Value}{cs:LV}(h:w.ownsRow base e sz v n cs):v.oneCell'=true:=by
 rcases h.2 with⟨h1,_⟩|⟨g,cap,cur,h1,_⟩ <;> subst h1 <;> rfl
theorem Zp {w:World}{base e sz n:Nat}{v:Value}{cs:LV}(h:w.ownsRow base e sz v n cs):v.cells=[v].toArray:=by
 rcases h.2 with⟨h1,_⟩|⟨g,cap,cur,h1,_⟩ <;> subst h1 <;> rfl
theorem jW {q:XV}(h:q.v.oneCell'=true):∀u∈ZF q,u.oneCell'=true:=by
 intro u hu;simp only[List.mem_cons,List.not_mem_nil,or_false]at hu;rcases hu with rfl|rfl
 ·rfl
 exact h
theorem Qfc {q:KV}(h:q.v.oneCell'=true):∀u∈ZH q,u.oneCell'=true:=by
 intro u hu;simp only[List.mem_cons,List.not_mem_nil,or_false]at hu;rcases hu with rfl|rfl|rfl
 ·rfl
 ·exact h
 rfl
def Qq3 (N:Nat)(w:World)(r:Value)(sz:LI)(ex:List Exc)(cs:List Ju):Prop:=∃vs vx vk qx ks,r=.agg #[vs,vx,vk]∧qx.map (·.x)=ex∧ks.map (·.k)=cs∧∀L:LN,(∀b∈L,b<N)→QJ L w.heap vs sz∧qL L w.heap vx qx∧jV L w.heap vk ks
set_option maxHeartbeats 4000000 in
theorem jN {L:LN}{w:World}{c:CL}(h:ZQ L w.heap c):
  QH prog 135 [c.val] w λr w'=>Step [] w w'∧Qq3 w.heap.size w' r (szs c.cel.co) c.cel.ex c.cel.cs:=by
 have m8:=h.co.arr.le;have m9:=h.ex.arr.le;have pa:=h.cs.arr.le;refine QH.of_W func135 O ntmps135 results135 (by simp) ?_;refine Qc<|xl O<|QR (us:=c.cells) O λb1 w1 hZ pc ga=>xl O<|Qu (us:=[nS,nS,nS]) O λb2 w2 gb pd gc=>xe ?_;have pf:=hZ.size;have pg:=ga.lt;have ph:=gc.lt
 refine Qc<|x (QM Z)<|xl O<|Qu (us:=[nS,nS,nS]) O λE w3 g9 ka h3=>xl O<|Qn (us:=[nS,nS,nS]) h3 O O O O ⟨O,O,O,Z⟩ λw4 kb h3 =>
  xe ?_
 have pj:=h3.lt;have Y:Step [] w2 w4:=g9.then1 kb ka;have ge:Step [] w w4:=(hZ.trans gb).trans Y;have gg:=(ga.ext gb).ext Y;have kc:=gc.ext Y;have h4:=h.ext ge;have pn:b1<E:=by omega
 have po:b2<E:=by omega
 have ke:w.heap.size≤E:=by omega
 have hI:∀{wa wb:World},Step [E] wa wb→Step [] w wa→Step [] w wb:=λha hb=>hb.then1 ha ke;refine Qg<|Qc<|x (Qa O)<|x (Qd gg O O)<|x (Qr h4.co.arr O)<|Qb<|xe ?_
 refine Qh<|Qz (α:=Nat×Value) [(5,5),(14,26)] (λz=>[(14,.int .i64 z.1)]) (λz w'=>z.1≤c.co.length∧Step [E] w4 w'∧QT w'.heap E 240 [z.2,nS,nS]∧Qt 3 w4.heap.size w' z.2 ((c.co.take z.1).map (·.p.a.st))) (λz=>c.co.length - z.1) (by rfl) (0,nS) La
  ⟨Ll _,Step.refl _ _,h3,QN _ _ _ _⟩ ?_
 rintro⟨k,vs⟩ g w5 ⟨hk,hu,h8,H⟩;simp only[]at hk h8 H;have gh:=hI hu ge;have h5:=h.ext gh;have gi:=gg.step hu (by simp;omega);have kf:=kc.step hu (by simp;omega);have pp:=hu.size;refine Qc<|x (QA O O)<|xe<|Qg<|QC O (λhJ=>?_) (λhJ=>?_)
 ·refine Qy ?_;have kg:c.co.length≤k:=by have J:¬(k:Int)<(c.co.length:Int):=hJ;omega
  rw[Lp kg]at H;refine Qg<|Qc<|x (Qa O)<|x (Qd gi O O)<|x (Qr h5.ex.arr O)<|Qb<|xe<|Qh<|Qz (α:=Nat×Value×List XV) [(7,7),(30,45)] (λz=>[(30,.int .i64 z.1)]) (λz w'=>z.1≤c.ex.length∧Step [E] w5 w'∧QT w'.heap E 240 [vs,z.2.1,nS]∧XvN w5.heap.size w' z.2.1 z.2.2∧z.2.2.map (·.x)=(c.ex.take z.1).map (·.x)) (λz=>c.ex.length - z.1) (by rfl) (0,nS,[]) La
   ⟨Ll _,Step.refl _ _,h8,Ye.nil,O⟩ ?_
  rintro⟨j,vx,qx⟩ g w6 ⟨hj,hf,hK,hg,hh⟩;simp only[]at hj hK hg hh;have gj:=hI hf gh;have h6:=h.ext gj;have kh:=gi.step hf (by simp;omega);have ki:=kf.step hf (by simp;omega);have pt:=hf.size;have pu:qx.length=j:=by have:=congrArg List.length hh;simp at this;omega
  refine Qc<|x (QA O O)<|xe<|Qg<|QC O (λhM=>?_) (λhM=>?_)
  ·refine Qy ?_;have kj:c.ex.length≤j:=by have J:¬(j:Int)<(c.ex.length:Int):=hM;omega
   rw[Lp kj]at hh;refine Qg<|Qc<|x (Qa O)<|x (Qd kh O O)<|x (Qr h6.cs.arr O)<|Qb<|xe<|Qh<|Qz (α:=Nat×Value×List KV) [(9,9),(49,66)] (λz=>[(49,.int .i64 z.1)]) (λz w'=>z.1≤c.cs.length∧Step [E] w6 w'∧QT w'.heap E 240 [vs,vx,z.2.1]∧KvN w6.heap.size w' z.2.1 z.2.2∧z.2.2.map (·.k)=(c.cs.take z.1).map (·.k)) (λz=>c.cs.length - z.1) (by rfl) (0,nS,[]) La
    ⟨Ll _,Step.refl _ _,hK,Ye.nil,O⟩ ?_
   rintro⟨i,vk,ks⟩ g w7 ⟨hi,hn,hN,ho,hp⟩;simp only[]at hi hN ho hp;have gk:=hI hn gj;have h7:=h.ext gk;have kk:=ki.step hn (by simp;omega);have pw:=hn.size;have pz:ks.length=i:=by have:=congrArg List.length hp;simp at this;omega
   refine Qc<|x (QA O O)<|xe<|Qg<|QC O (λhO=>?_) (λhO=>?_)
   ·refine Qy ?_;have kn:c.cs.length≤i:=by have J:¬(i:Int)<(c.cs.length:Int):=hO;omega
    rw[Lp kn]at hp;have ko:ZM [vs,vx,vk]:=⟨QQ H,QQ hg.own,QQ ho.own,Z⟩;refine Qc<|x (Qo hN O O)<|xl O<|Qn (us:=[vs,vx,vk]) kk O O O O ko λw8 h9 kp=>xe ?_;refine Ql ⟨[.agg #[vs,vx,vk]],⟨⟨_,O,Qx O (kp.at (L:=[]) (by simp)).cells⟩,Z⟩,gk.then1 h9 (by omega),?_⟩
    have kq:=Qm ((Qm H hf (λb hb hm=>by have:=(Qq H b hb).1;simp at hm;omega))) hn (λb hb hm=>by have:=(Qq H b hb).1;simp at hm;omega);have kr:=Qm kq h9 (λb hb hm=>by have:=(Qq H b hb).1;simp at hm;omega);have kt:=(Ye.low hg hn (by simp;omega)).low h9 (by simp;omega);have ku:=Ye.low ho h9 (by simp;omega)
    refine⟨vs,vx,vk,qx,ks,O,hh,hp,λL hL=>⟨?_,XvN.xcs kt hh h.ex.nm (by omega) (λb hb=>by have:=hL b hb;omega),KvN.kcs ku hp h.cs.nm (by omega) (λb hb=>by have:=hL b hb;omega)⟩⟩;have he:szs c.cel.co=c.co.map (·.p.a.st):=by show((c.co.map IV.it).map _)=_;rw[Mf];rfl
    rw[he];exact Qt.ints kr (by rw[Lh];omega) (λb hb=>by have:=hL b hb;omega)
   have hr:i<c.cs.length:=by have J:(i:Int)<(c.cs.length:Int):=hO;omega
   have gl:=Lc hr;have gm:c.cs.take (i+1)=c.cs.take i++[c.cs[i]'hr]:=Li hr;refine Qi<|Qg<|Qh<|Qc<|xig Kh h7.cs.arr O O hr λp0 gn=>?_;refine Zj (c.cs[i]'hr) λq hq=>?_;rw[hq]at gn gl gm;have G:=h7.cs.each q gl
   refine x (QI gn O O)<|xl O<|Qu (us:=[.string .empty,nS,.int .i64 0]) O λb9 w9 kv kw hv=>xl O<|Qn (us:=ZH q) hv O O O O ⟨O,G.one,O,Z⟩ λU kx hv =>
    xe ?_
   have hA:Step [] w7 U:=kv.then1 kx kw;have gq:=hN.ext hA;have hP:=Qq ho.own;have I:E∉ob vk:=λhm=>by have:=(hP E hm).1;omega
   have hQ:b9∉ob vk:=λhm=>by have:=(hP b9 hm).2;omega
   refine QU (Step (ob vk) U) [(0,true),(1,true),(2,true),(3,true),(4,true),(5,true),(7,true),(8,true),(6,false),(9,true),(10,false),(11,false),(12,true),(13,false)] mixed (by rfl) (by kernel_rfl) (Step.drew _ _) ?_;have kz:=hA.trans (Step.drew [] U);refine p (λ_=>Qa O)<|pq (λ_ hc=>Qd (gq.step hc I) O O)<|p (λ_=>Qa O)<|pq (λ_ hc=>Qd (hv.step hc hQ) O O) <|
    p (λ_=>Qa O)<|pq (λ_ hc=>Qd (hv.step hc hQ) O O)<|p (λ_=>Qa O)<|pq (λ_ hc=>Qd (hv.step hc hQ) O O) <|
    pk<|xf<|(Qgy (G.ext kz)).mono ?_
   rintro hw p4 ⟨k0,hR⟩;have hy:=(Step.drew [] U).trans k0;refine⟨hy.any,?_⟩;refine p (λ_=>QM ⟨O,Zp hR,O,Z⟩)<|pk<|QG (us:=[ZH ⟨q.nm,hw,q.ts,q.bd⟩]) O O (by decide) (by simp) ⟨rfl,rfl,Z⟩ λp5 p6 hz p7 k4=>⟨(hy.trans hz).any,?_⟩;have hB:=(hA.trans hy).trans hz;have hS:U.heap.size=({ U with drawn:=U.drawn+1 }:World).heap.size:=rfl
   have p8:=hA.size;have p9:=hB.size;refine pk<|Q4 (news:=ZH ⟨q.nm,hw,q.ts,q.bd⟩) (L:=[]) (Qs ho.own hB) O O O (k4.at (by simp)) (Qfc (q:=⟨q.nm,hw,q.ts,q.bd⟩) (QQ hR)) (by omega) (by omega) λhT gr gs hC k5=>⟨((hy.trans hz).any (L:=ob vk)).trans' hC,?_⟩
   have k6:KvN w6.heap.size gr hT (ks++[⟨q.nm,hw,q.ts,q.bd⟩]):=Ye.app ho hB (Qs hR hz) G.le (by rw[←hS];omega) (by omega) gs hC k5;have k7:=(gq.step ((hy.trans hz).any (L:=ob vk)) I).step hC I;refine p (λ_=>Qa O)<|pkl (hl:=by kernel_rfl)<|QF (j:=2) (u:=hT) k7 O O (by simp) (QQ gs) λqc gt k8=>pe ?_
   have k9:Step [E] w6 gr:=(hn.trans hB).then hC (λb hb=>.inr (hP b hb).1);refine Qw<|QP O O<|Qb<|xe<|⟨(i+1,hT,ks++[⟨q.nm,hw,q.ts,q.bd⟩]),by simp only[];omega,La,hr,?_,k8,Ye.low k6 gt (by simp;omega),?_⟩
   ·exact k9.trans' gt
   simp only[];rw[Lx,hp,gm,Lx];rfl
  have hs:j<c.ex.length:=by have J:(j:Int)<(c.ex.length:Int):=hM;omega
  have gu:=Lc hs;have gv:c.ex.take (j+1)=c.ex.take j++[c.ex[j]'hs]:=Li hs;refine Qi<|Qg<|Qh<|Qc<|xig KC h6.ex.arr O O hs λqo gx=>?_;refine Zj (c.ex[j]'hs) λq hq=>?_;rw[hq]at gx gu gv;have G:=h6.ex.each q gu
  refine x (QI gx O O)<|xl O<|Qu (us:=[.string .empty,nS]) O λb7 qr ma mc hD=>xl O<|Qn (us:=ZF q) hD O O O O ⟨O,G.one,Z⟩ λV mf hD =>
   xe ?_
  have hE:Step [] w6 V:=ma.then1 mf mc;have gy:=hK.ext hE;have hU:=Qq hg.own;have I:E∉ob vx:=λhm=>by have:=(hU E hm).1;omega
  have gz:b7∉ob vx:=λhm=>by have:=(hU b7 hm).2;omega
  refine QU (Step (ob vx) V) [(0,true),(1,true),(2,true),(3,true),(4,true),(5,true),(6,false),(7,true),(8,false),(9,false),(10,true),(11,false)] mixed (by rfl) (by kernel_rfl) (Step.drew _ _) ?_;have mg:=hE.trans (Step.drew [] V);refine p (λ_=>Qa O)<|pq (λ_ hc=>Qd (gy.step hc I) O O)<|p (λ_=>Qa O)<|pq (λ_ hc=>Qd (hD.step hc gz) O O) <|
   p (λ_=>Qa O)<|pq (λ_ hc=>Qd (hD.step hc gz) O O)<|pk<|xf<|(Qgz (G.ext mg)).mono ?_
  rintro h0 q0 ⟨mh,hV⟩;have h1:=(Step.drew [] V).trans mh;refine⟨h1.any,?_⟩;refine p (λ_=>QM ⟨O,Zp hV,Z⟩)<|pk<|QG (us:=[ZF ⟨q.nm,h0,q.ls⟩]) O O (by decide) (by simp) ⟨rfl,rfl,Z⟩ λq4 q9 h2 j1 mj=>⟨(h1.trans h2).any,?_⟩;have hF:=(hE.trans h1).trans h2;have hS:V.heap.size=({ V with drawn:=V.drawn+1 }:World).heap.size:=rfl
  have j2:=hE.size;have j3:=hF.size;refine pk<|Q4 (news:=ZF ⟨q.nm,h0,q.ls⟩) (L:=[]) (Qs hg.own hF) O O O (mj.at (by simp)) (jW (q:=⟨q.nm,h0,q.ls⟩) (QQ hV)) (by omega) (by omega) λhW g0 g1 hG mo=>⟨((h1.trans h2).any (L:=ob vx)).trans' hG,?_⟩
  have mq:XvN w5.heap.size g0 hW (qx++[⟨q.nm,h0,q.ls⟩]):=Ye.app hg hF (Qs hV h2) G.le (by rw[←hS];omega) (by omega) g1 hG mo;have ms:=(gy.step ((h1.trans h2).any (L:=ob vx)) I).step hG I;have mt:Step [E] w5 g0:=(hf.trans hF).then hG (λb hb=>.inr (hU b hb).1)
  refine p (λ_=>Qa O)<|pkl (hl:=by kernel_rfl)<|QF (j:=1) (u:=hW) ms O O (by simp) (QQ g1) λj4 g2 mu=>pe ?_;refine Qw<|QP O O<|Qb<|xe<|⟨(j+1,hW,qx++[⟨q.nm,h0,q.ls⟩]),by simp only[];omega,La,hs,?_,mu,Ye.low mq g2 (by simp;omega),?_⟩
  ·exact mt.trans' g2
  simp only[];rw[Lx,hh,gv,Lx];rfl
 have ht:k<c.co.length:=by have J:(k:Int)<(c.co.length:Int):=hJ;omega
 have g3:=Lc ht;have g4:c.co.take (k+1)=c.co.take k++[c.co[k]'ht]:=Li ht;have za:((c.co.take k).map (·.p.a.st)).length=k:=by simp;omega
 refine Qi<|Qg<|Qh<|Qc<|xig XN h5.co.arr O O ht λzb J=>?_;refine Zj (c.co[k]'ht) λq hq=>?_;rw[hq]at J g3 g4;have G:=h5.co.each q g3;refine x (QI J O O)<|xl O<|Qu (us:=[.string .empty,nS,.int .i64 0,nS,nS]) O λb5 zv mv mw hX=>xl O<|Qn (us:=Zn q) hX O O O O ⟨O,G.al.one,O,G.mr.one,G.ed.one,Z⟩ λmy mz hX =>
  xe ?_
 have g5:Step [] w5 my:=mv.then1 mz mw;have m0:=h8.ext g5;refine Qw<|x (Qa O)<|x (Qd m0 O O)<|x (Qa O)<|x (Qa O)<|x (Qd hX O O)<|xl O<|QG (us:=[[.int .i64 q.p.a.st]]) O O (by decide) (by simp) ⟨rfl,rfl,Z⟩ λz0 z1 m1 z2 m2=>?_;have hH:=g5.trans m1;have z3:=hH.size;have g6:=Qq H;have I:E∉ob vs:=λhm=>by have:=(g6 E hm).1;omega
 refine xl rfl<|Q4 (news:=[.int .i64 q.p.a.st]) (L:=[]) (Qs H hH) O O O (m2.at (by simp)) (by simp[Value.oneCell']) (by omega) (by omega) λg7 m3 hY Y z4=>?_;have m4:=(h8.ext hH).step Y I;have m5:Step [E] w4 m3:=(hu.trans hH).then Y (λb hb=>.inr (g6 b hb).1);refine x (Qa O)<|xl O<|QF (j:=0) (u:=g7) m4 O O (by simp) (QQ hY) λz5 g8 m6 =>
  xe ?_
 have m7:=Qm hY g8 (λb hb hm=>by have:=(Qq hY b hb).1;simp at hm;omega);refine Qw<|QP O O<|Qb<|xe<|⟨(k+1,g7),by simp only[];omega,La,ht,m5.trans' g8,m6,?_⟩;simp only[];rw[g4,Lx];exact Qt.snoc (n:=q.p.a.st) m7
theorem Qg4 (n:Nat):KB (n+1)=KB n++[(n:Int)]:=by unfold KB;rw[List.range_succ,Lx];rfl
theorem jZ (n:Nat):(KB n).length=n:=by unfold KB;simp
theorem JG {k:Nat}{l:List IV}(h:k<l.length):(l.drop k).map (·.it)=(l[k]'h).it::(l.drop (k+1)).map (·.it):=by rw[Q5 h];rfl
theorem z7 {n:Nat}{u:LI}{s:List ByteArray}{x:Yk}(h:Yh n u s x=0):QO x.a:=by
 unfold Yh at h;split at h
 ·cases h
 split at h
 ·cases h
 split at h
 ·rename_i h1 h2;exact absurd h h2
 rename_i h1;exact(Zs _).1 (Ln.1 h1)
theorem VK {n:Nat}{al:LI}{s:List ByteArray}{u:LI}{x:Yk}{l:List Yk}:Ym n al s u (x::l)=if Yh n al s x≠0 then(Yh n al s x,s,u)else Ym n al (s++[x.nm]) (mrg (· || ·) u x.a.al) l:=rfl
theorem z6 {n:Nat}{u:LI}{s:List ByteArray}{x:Yk}{l:List Yk}:J4 n u s (x::l)=if Yh n u s x≠0 then Yh n u s x else J4 n u (s++[x.nm]) l:=rfl
set_option maxHeartbeats 4000000 in
theorem Xt {L:LN}{w:World}{c:CL}(h:ZQ L w.heap c):
  QH prog 75 [c.val] w λr w'=>r=.int .i64 (Zi c.cel)∧Step [] w w':=by
 have kg:=h.co.arr.le;have kh:=h.rq.arr.le;have E:Zi c.cel=(if Js c.ev≠0 then Js c.ev else if c.co.length=0 then 12 else if 8<c.co.length∨12<c.co.length+c.rq.length then 3 else
  if(Ym c.ev.length (KB c.ev.length) [] [] (c.co.map (·.it))).1≠0 then(Ym c.ev.length (KB c.ev.length) [] [] (c.co.map (·.it))).1 else
  if J4 c.ev.length (Ym c.ev.length (KB c.ev.length) [] [] (c.co.map (·.it))).2.2 (Ym c.ev.length (KB c.ev.length) [] [] (c.co.map (·.it))).2.1 (c.rq.map (·.it))≠0 then J4 c.ev.length (Ym c.ev.length (KB c.ev.length) [] [] (c.co.map (·.it))).2.2 (Ym c.ev.length (KB c.ev.length) [] [] (c.co.map (·.it))).2.1 (c.rq.map (·.it))else
  YN (szs c.cel.co) c.cel.ex c.cel.cs):=by
  unfold Zi;rw[show c.cel.co.length=c.co.length from Lh ..,show c.cel.rq.length=c.rq.length from Lh ..];rfl
 refine Zj (Zi c.cel) λR hR=>?_;rw[hR]at E ⊢;refine Zj (Ym c.ev.length (KB c.ev.length) [] [] (c.co.map (·.it))) λCO h8=>?_;rw[h8]at E;refine QH.of_W func75 O ntmps75 results75 (by simp) ?_;refine Qc<|xl O<|QR (us:=c.cells) O λb1 w1 h9 ki hA=>Qf<|Qg<|Qc<|x (Qa O)<|x (Qd hA O O)<|xl O<|xf<|(zT (h.ev.ext h9)).mono ?_;rintro r2 w2 ⟨rfl,hB⟩;refine Qf ?_;have hc:=h9.trans hB
 have ho:=hA.ext hB;have h2:=h.ext hc;refine Qc<|Qb<|x (Q6 O O)<|xe<|Q3 rfl (λhp=>?_) (λhp=>?_)
 ·rw[if_pos hp]at E;subst E;refine Qc<|Qb<|Qf ?_;exact Ql ⟨[_],La,O,hc⟩
 rw[if_neg hp]at E;have kj:c.ev.length≤32:=by
  refine Ln.1 λhn=>?_;apply hp;unfold Js;rw[if_pos (by omega)];decide
 refine Qi<|Qg<|Qc<|x (Qa O)<|x (Qd ho O O)<|x (Qr h2.co.arr O)<|Qf<|Qh<|Qc<|Qb<|x (Zr O O)<|Qf<|Q3 O (λhw=>?_) (λhw=>?_)
 ·have hy:c.co.length=0:=by have hZ:(c.co.length:Int)=0:=hw;omega
  rw[if_pos hy]at E;subst E;refine Qc<|Qf ?_;exact Ql ⟨[_],La,O,hc⟩
 have hy:¬c.co.length=0:=by have hZ:¬(c.co.length:Int)=0:=hw;omega
 rw[if_neg hy]at E;refine QX (α:=Bool) [(27,37)] (λz=>[(27,.bool z)]) (λz w'=>w'=w2∧z=decide (8<c.co.length∨12<c.co.length+c.rq.length)) (by rfl) ?_ ?_
 ·refine Qw<|Qb<|xb (ZR O O) (λga=>?_) (λga=>?_)
  ·refine Qb<|xs O<|xs O<|xs O<|xs O<|xs O<|xs O<|x (Qp O)<|Qf ?_;exact⟨_,La,O,bT (.inl (by omega))⟩
  refine Qb<|Qb<|x (Qa O)<|x (Qd ho O O)<|x (Qr h2.rq.arr O)<|x (JB O O ⟨by omega,by omega⟩) <|
   x (ZR rfl O)<|x (Qp O)<|Qf ?_
  exact⟨_,La,O,bD (by omega)⟩
 rintro z g w3 ⟨rfl,rfl⟩;refine Q3 rfl (λhz=>?_) (λhz=>?_)
 ·rw[if_pos hz]at E;subst E;refine Qc<|Qf ?_;exact Ql ⟨[_],La,O,hc⟩
 rw[if_neg hz]at E;refine Qi<|Qc<|xl O<|Z6 Jh λbm w4 hC kk hD=>Qf ?_;have kn:=hD.lt;have ko:=ho.lt;have hE:=hc.trans hC;have hG:=ho.ext hC;have hH:b1≠bm:=by omega
 have hge:w.heap.size≤bm:=by omega
 have hM:ZQ [bm] w.heap c:=h.up (λb hb=>.inr (by simp at hb;omega));have hI:=hM.ext hE;refine Qc<|x Qe<|Qf<|Qg<|Qc<|x (Qa O)<|x (Qd hG O O)<|x (Qr hI.ev.arr O)<|Qb<|xe<|Qh<|Qz (α:=Nat×Value) [(6,6),(8,8),(42,49)] (λz=>[(6,z.2),(42,.int .i64 z.1)]) (λz w'=>z.1≤c.ev.length∧Step [] w4 w'∧Qt 3 w4.heap.size w' z.2 (KB z.1)) (λz=>c.ev.length - z.1) (by rfl) (0,nS) ⟨O,O,Z⟩
  ⟨Ll _,Step.refl _ _,QN _ _ _ _⟩ ?_
 rintro⟨k,vg⟩ g w5 ⟨hk,he,hs⟩;simp only[]at hk hs;have kp:=jZ k;refine Qc<|x (QA O O)<|xe<|Qg<|QC O (λh0=>?_) (λh0=>?_)
 ·refine Qy ?_;have hf:k=c.ev.length:=by have hg:¬(k:Int)<(c.ev.length:Int):=h0;omega
  subst hf;have gb:QJ [bm] w5.heap vg (KB c.ev.length):=Qt.ints hs (by omega) (by simp;omega);have gc:=hD.ext he;have hJ:=hG.ext he;have hK:=hI.ext he;have ge:=hE.trans he;refine Qg<|Qc<|x (Qa O)<|x (Qd hJ O O)<|x (Qr hK.co.arr O)<|Qb<|xe ?_
  refine Qh<|Qz (α:=Nat×Value×List ByteArray×LI) [(2,2),(7,7),(10,11),(53,72)] (λz=>[(7,z.2.1),(53,.int .i64 z.1)]) (λz w'=>z.1≤c.co.length∧Step [bm] w5 w'∧ZI Jh w'.heap bm (nmM z.2.2.1)∧QJ [bm] w'.heap z.2.1 z.2.2.2∧z.2.2.2.length≤32*z.1∧Ym c.ev.length (KB c.ev.length) z.2.2.1 z.2.2.2 ((c.co.drop z.1).map (·.it))=CO) (λz=>c.co.length - z.1) (by rfl) (0,nS,[],[]) ⟨O,O,Z⟩
   ⟨Ll _,Step.refl _ _,gc,Zy.nil _ _ _,by simp,h8⟩ ?_
  rintro⟨k,vu,sn,u⟩ g w6 ⟨hk,hh,ht,h1,gg,H⟩;simp only[]at hk ht h1 gg H;have hL:Step [] w w6:=ge.then1 hh hge;have h3:=hJ.step hh (by simpa using hH);have V:=hK.st hh;refine Qc<|x (QA O O)<|xe<|Qg<|QC O (λh4=>?_) (λh4=>?_)
  ·refine Qy ?_;have hf:k=c.co.length:=by have hg:¬(k:Int)<(c.co.length:Int):=h4;omega
   subst hf;rw[Lv (Lu _)]at H;have gh:CO=(0,sn,u):=H.symm;subst gh;rw[if_neg (by simp)]at E;simp only[]at E;refine Zj (J4 c.ev.length u sn (c.rq.map (·.it))) λRQ hN=>?_;rw[hN]at E;refine Qg<|Qc<|x (Qa O)<|x (Qd h3 O O)<|x (Qr V.rq.arr O)<|Qb<|xe ?_
   refine Qh<|Qz (α:=Nat×List ByteArray) [(2,2),(13,14),(76,90)] (λz=>[(76,.int .i64 z.1)]) (λz w'=>z.1≤c.rq.length∧Step [bm] w6 w'∧ZI Jh w'.heap bm (nmM z.2)∧J4 c.ev.length u z.2 ((c.rq.drop z.1).map (·.it))=RQ) (λz=>c.rq.length - z.1) (by rfl) (0,sn) La
    ⟨Ll _,Step.refl _ _,ht,hN⟩ ?_
   rintro⟨k,sm⟩ g w7 ⟨hk,hi,hO,I⟩;simp only[]at hk hO I;have hP:Step [] w w7:=hL.then1 hi hge;have hQ:=h3.step hi (by simpa using hH);have hj:=V.st hi;have gi:=h1.st hi;refine Qc<|x (QA O O)<|xe<|Qg<|QC O (λh5=>?_) (λh5=>?_)
   ·refine Qy ?_;have hf:c.rq.length≤k:=by have hg:¬(k:Int)<(c.rq.length:Int):=h5;omega
    rw[Lv hf]at I;have gj:RQ=0:=I.symm;rw[if_neg (by rw[gj];decide)]at E;refine Qc<|x (Qo hQ O O)<|xl O<|xf<|(jN hj).mono ?_;rintro r8 w8 ⟨gk,vs,vx,vk,qx,ks,rfl,gl,gm,hF⟩;obtain⟨gn,gq,gr⟩:=hF [] (by simp);refine xl O<|xf<|(zR gn gq gr).mono ?_;rintro r9 w9 ⟨rfl,gs⟩;rw[gl,gm,←E];refine Qf ?_;exact Ql ⟨[_],La,O,(hP.trans gk).trans gs⟩
   have G:k<c.rq.length:=by have hg:(k:Int)<(c.rq.length:Int):=h5;omega
   have U:=Lc G;rw[JG G,z6]at I;refine Qi<|Qg<|Qh<|Qc<|xig XN hj.rq.arr O O G λkq hS=>?_;refine Zj (c.rq[k]'G) λq hq=>?_;rw[hq]at hS U I;have J:=hj.rq.each q U
   refine x (QI hS O O)<|xl O<|Qu (us:=[.string .empty,nS,.int .i64 0,nS,nS]) O λkr kt gt gu h6=>xl O<|Qn (us:=Zn q) h6 O O O O ⟨O,J.al.one,O,J.mr.one,J.ed.one,Z⟩ λgv gx h6 =>
    xe ?_
   have Y:Step [] w7 gv:=gt.then1 gx gu;refine Qc<|x (Qo h6 O O)<|x (Qa O)<|x (Qd (hQ.ext Y) O O)<|x (Qr (hj.ev.ext Y).arr O)<|Qb<|Qb<|xl O<|xf<|(Qfj (J.ext Y) (hj.rq.nm q U) (gi.ext Y) (by omega) (hO.ext Y) (by simp) (by simp)).mono ?_;rintro ku kv ⟨rfl,hT,gy⟩;refine Qf<|Qc<|Qb<|x (Q6 O O)<|xe<|Q3 O (λhl=>?_) (λhl=>?_)
   ·rw[if_pos hl]at I;rw[if_pos (by rw[←I];exact hl)]at E;refine Qc<|Qb<|Qf ?_;exact Ql ⟨[_],La,by rw[E,←I];rfl,(hP.trans Y).then1 hT hge⟩
   rw[if_neg hl]at I;refine Qi<|Qw<|QP O O<|Qb<|xe ?_;exact⟨(k+1,sm++[q.nm]),by simp only[];omega,La,G,(hi.trans Y).trans' hT,gy (Ln.1 hl),I⟩
  have G:k<c.co.length:=by have hg:(k:Int)<(c.co.length:Int):=h4;omega
  have U:=Lc G;rw[JG G,VK]at H;refine Qi<|Qg<|Qh<|Qc<|xig XN V.co.arr O O G λkw hU=>?_;refine Zj (c.co[k]'G) λq hq=>?_;rw[hq]at hU U H;have J:=V.co.each q U;have gz:=gb.st hh
  refine x (QI hU O O)<|xl O<|Qu (us:=[.string .empty,nS,.int .i64 0,nS,nS]) O λb10 kx g0 g1 hu=>xl O<|Qn (us:=Zn q) hu O O O O ⟨O,J.al.one,O,J.mr.one,J.ed.one,Z⟩ λg2 g3 hu =>
   xe ?_
  have ha:Step [] w6 g2:=g0.then1 g3 g1;have kz:=ht.lt;refine Qg<|Qc<|x (Qo hu O O)<|x (Qa O)<|x (Qd (h3.ext ha) O O)<|x (Qr (V.ev.ext ha).arr O)<|Qb<|Qb<|xl O<|xf<|(Qfj (J.ext ha) (V.co.nm q U) (gz.ext ha) (by omega) (ht.ext ha) (by simp) (by simp)).mono ?_;rintro k0 g4 ⟨rfl,h7,g5⟩;refine Qf<|Qc<|Qb<|x (Q6 O O)<|xe ?_
  refine Q3 O (λhm=>?_) (λhm=>?_)
  ·rw[if_pos hm]at H;rw[if_pos (by rw[←H];exact hm)]at E;refine Qc<|Qb<|Qf ?_;exact Ql ⟨[_],La,by rw[E,←H];rfl,(hL.trans ha).then1 h7 hge⟩
  rw[if_neg hm]at H;have hV:Yh c.ev.length (KB c.ev.length) sn q.it=0:=Ln.1 hm;have g6:=(z7 hV).al_le;have k4:q.p.a.al.length≤32:=g6;refine Qi ?_;have hv:Step [bm] w6 g4:=ha.any.trans' h7;have g7:=h1.st hv;have k5:=hv.size
  refine Qw<|Qb<|x (Qa O)<|x (Qa O)<|x (Qd (hu.step h7 (by simp;omega)) O O)<|xl O<|xf<|(yr g7 (V.st hv |>.co.each q U |>.al) (by omega)).mono ?_;rintro g8 k6 ⟨hW,g9⟩;refine Qf ?_;have k7:=V5 (· || ·) u q.p.a.al;refine Qw<|QP O O<|Qb<|xe ?_
  exact⟨(k+1,g8,sn++[q.nm],mrg (· || ·) u q.p.a.al),by simp only[];omega,⟨O,O,Z⟩,G,(hh.trans' hv).trans hW,(g5 hV).ext hW,Qt.ints g9 (by show(mrg _ _ _).length≤_;omega) (by simp;omega),by simp only[];omega,H⟩
 have G:k<c.ev.length:=by have hg:(k:Int)<(c.ev.length:Int):=h0;omega
 refine Qi<|Qg<|Qh<|Qc<|Qb<|Qf<|Qw<|Qb<|Qb<|xl O<|QG (us:=[[.int .i64 k]]) O O (by decide) (by simp) ⟨rfl,rfl,Z⟩ λk8 k9 hX ma ka=>?_;have hY:=he.trans hX;have mc:=hY.size;have kb:=Qq hs;refine xl rfl<|Q4 (news:=[.int .i64 k]) (L:=[]) (Qs hs hX) O O O (ka.at (by simp)) (by simp[Value.oneCell']) (by omega) (by omega) λkc mf ke kf mg =>
  Qf<|Qw<|QP O O<|Qb<|xe ?_
 refine⟨(k+1,kc),by simp only[];omega,⟨O,O,Z⟩,G,hY.then kf (λb hb=>.inr (kb b hb).1),?_⟩;simp only[];rw[Qg4];exact Qt.snoc (n:=(k:Int)) ke
end Go.Proofs.YtjcgijbhaemldaaGreatDoor
namespace Go.Lg
theorem QqJ {P:Program}{ops:List Oper}{K:Fr→World→Prop}{f:Fr}{w:World}{d:Option Nat}{ty:Nat}{ps:String}{af:Array Edge}{gd:Option (Nat×Bool)}{C:World→Prop}{pl:List (Nat×Bool)}{E:Nat}
  {t e sz bys:Nat} {z:Value} {x G I:Operand} {L:LN} {v:Value} {n:Nat} {cs:LV} {H:Array Obj} {k k':IntKind} {hi:Nat} [h:Sl P t e sz bys z]
  (J:QL ops E=⟨d,.slice t x none (some G) (some I),ty,ps,af,gd⟩) (U:Zy L H v n sz cs) (hx:ev f x=v) (V:ev f G=.int k hi) (hm:ev f I=.int k' hi) (h1:hi≤n)
  (Y:∀v',Zy L H v' hi sz (cs.take (hi*sz))→XP P ops C K pl (QW f d v') w)
  (hg:Yd ops f (QL ops E)=true:=by rfl):XP P ops C K ((E,true)::pl) f w:=by
 obtain⟨v',h3,h4⟩:=QhN (P:=P) (d:=d) (ty:=ty) (ps:=ps) (af:=af) (gd:=gd) (t:=t) U hx V hm h1;exact Lg.p (λw'=>by rw[J];exact h4 w') (by rw[J];exact Y v' h3) hg
end Go.Lg
namespace Go.Proofs.YtjcgijbhaemldaaGreatDoor
open Go.Proofs.Tryz
open Go.Lg
structure Qkn (c:Q7):Prop where
 ev:c.ev.length≤32
 c0:c.co.length≠0
 c8:c.co.length≤8
 cr:c.co.length+c.rq.length≤12
 co:∀x∈c.co,QO x.a
 rq:∀x∈c.rq,QO x.a
 ce:∀x∈c.co,∀e∈x.a.al,e<(c.ev.length:Int)
 re:∀x∈c.rq,∀e∈x.a.al,e<(c.ev.length:Int)
 cd:YN (szs c.co) c.ex c.cs=0
 e0:Js c.ev=0
theorem QcG {n:Nat}{u:LI}{s:List ByteArray}{x:Yk}(h:Yh n u s x=0):∀e∈x.a.al,e<(n:Int):=by
 unfold Yh at h;split at h
 ·cases h
 split at h
 ·cases h
 split at h
 ·rename_i h1 h2;exact absurd h h2
 split at h
 ·cases h
 split at h
 ·cases h
 split at h
 ·cases h
 rename_i h1;intro e he;refine Ln.1 λE=>h1 ?_;rw[Mo];exact⟨e,he,decide_eq_true (by omega)⟩
theorem QcJ {n:Nat}{al:LI}:∀{l:List Yk}{s:List ByteArray}{u:LI},(Ym n al s u l).1=0→∀x∈l,QO x.a∧∀e∈x.a.al,e<(n:Int)
 | [],_,_,_,x,hx=>by cases hx
 | y::l,s,u,h,x,hx=>by
  rw[VK]at h;by_cases h1:Yh n al s y≠0
  ·rw[if_pos h1]at h;exact absurd h h1
  rw[if_neg h1]at h;have h2:Yh n al s y=0:=Ln.1 h1;rcases Le.1 hx with rfl|hx
  ·exact⟨z7 h2,QcG h2⟩
  exact QcJ h x hx
theorem QcE {n:Nat}{u:LI}:∀{l:List Yk}{s:List ByteArray},J4 n u s l=0→∀x∈l,QO x.a∧∀e∈x.a.al,e<(n:Int)
 | [],_,_,x,hx=>by cases hx
 | y::l,s,h,x,hx=>by
  rw[z6]at h;by_cases h1:Yh n u s y≠0
  ·rw[if_pos h1]at h;exact absurd h h1
  rw[if_neg h1]at h;have h2:Yh n u s y=0:=Ln.1 h1;rcases Le.1 hx with rfl|hx
  ·exact⟨z7 h2,QcG h2⟩
  exact QcE h x hx
theorem Z9 {c:Q7}(h:Zi c=0):Qkn c:=by
 unfold Zi at h;by_cases h1:Js c.ev≠0
 ·rw[if_pos h1]at h;exact absurd h h1
 rw[if_neg h1]at h;by_cases h2:c.co.length=0
 ·rw[if_pos h2]at h;cases h
 rw[if_neg h2]at h;by_cases h3:8<c.co.length∨12<c.co.length+c.rq.length
 ·rw[if_pos h3]at h;cases h
 rw[if_neg h3]at h;by_cases h4:(Ym c.ev.length (KB c.ev.length) [] [] c.co).1≠0
 ·rw[if_pos h4]at h;exact absurd h h4
 rw[if_neg h4]at h;by_cases h5:J4 c.ev.length (Ym c.ev.length (KB c.ev.length) [] [] c.co).2.2 (Ym c.ev.length (KB c.ev.length) [] [] c.co).2.1 c.rq≠0
 ·rw[if_pos h5]at h;exact absurd h h5
 rw[if_neg h5]at h;have a4:=QcJ (Ln.1 h4);have E:=QcE (Ln.1 h5);have G:c.ev.length≤32:=by
  refine Ln.1 λH=>?_;apply h1;unfold Js;rw[if_pos (by omega)];decide
 exact⟨G,h2,by omega,by omega,λx hx=>(a4 x hx).1,λx hx=>(E x hx).1,λx hx=>(a4 x hx).2,λx hx=>(E x hx).2,h,Ln.1 h1⟩
theorem Yu.e {N:Nat}{H:Array Obj}{aa:List QD}{va vt:Value}{c:Int}(h:Yu N H aa va vt c):c=XB aa:=by
 unfold Yu at h;unfold XB;by_cases h1:X9 aa≠0
 ·rw[if_pos h1]at h ⊢;exact h.1
 rw[if_neg h1]at h ⊢;cases hs:sync aa with
 | none=>rw[hs]at h;exact h.1
 | some z=>rw[hs]at h;exact h.1
theorem Yu.bad {N:Nat}{H:Array Obj}{aa:List QD}{va vt:Value}{c:Int}(h:Yu N H aa va vt c)(hc:c≠0):va=zA∧vt=Zg:=by
 unfold Yu at h;by_cases h1:X9 aa≠0
 ·rw[if_pos h1]at h;exact h.2
 rw[if_neg h1]at h;cases hs:sync aa with
 | none=>rw[hs]at h;exact h.2
 | some z=>rw[hs]at h;exact absurd h.1 hc
theorem Yu.good {N:Nat}{H:Array Obj}{aa:List QD}{va vt:Value}{c:Int}(h:Yu N H aa va vt c)(hc:c=0):JS N H va (yI aa)∧Qeb N H vt (Jo aa)∧sync aa=some (yI aa,Jo aa)∧X9 aa=0:=by
 unfold Yu at h;unfold yI Jo;by_cases h1:X9 aa≠0
 ·rw[if_pos h1]at h;exact absurd (h.1.symm.trans hc) h1
 rw[if_neg h1]at h;cases hs:sync aa with
 | none=>rw[hs]at h;rw[h.1]at hc;cases hc
 | some z=>rw[hs]at h;exact⟨h.2.1,h.2.2,O,Ln.1 h1⟩
theorem Yu.st1 {N b:Nat}{w w':World}{aa:List QD}{va vt:Value}{c:Int}(h:Yu N w.heap aa va vt c)(hb:b<N)(hs:Step [b] w w'):Yu N w'.heap aa va vt c:=by
 unfold Yu at *;split
 ·rename_i h1;rw[if_pos h1]at h;exact h
 rename_i h1;rw[if_neg h1]at h;cases hq:sync aa with
 | none=>rw[hq]at h;exact h
 | some z=>rw[hq]at h;exact⟨h.1,Uz h.2.1 hb hs,Qj9 h.2.2 hb hs⟩
theorem Yu.mono {N M:Nat}{H:Array Obj}{aa:List QD}{va vt:Value}{c:Int}(h:Yu N H aa va vt c)(E:M≤N):Yu M H aa va vt c:=by
 unfold Yu at *;split
 ·rename_i h1;rw[if_pos h1]at h;exact h
 rename_i h1;rw[if_neg h1]at h;cases hq:sync aa with
 | none=>rw[hq]at h;exact h
 | some z=>rw[hq]at h;exact⟨h.1,h.2.1.mono E,h.2.2.mono E⟩
theorem QkP (c:Q7):Xa c=if Zi c≠0 then Zi c else if XB (auts c.co)≠0 then XB (auts c.co)else XB (auts c.co++auts c.rq):=by
 unfold Xa;split
 ·rfl
 have e:XB (auts c.co)=if X9 (auts c.co)≠0 then X9 (auts c.co)else match sync (auts c.co)with|none=>3|some _=>0:=rfl
 by_cases h1:X9 (auts c.co)≠0
 ·rw[if_pos h1]at e;rw[if_pos h1,e,if_pos h1]
 rw[if_neg h1]at e;rw[if_neg h1];cases hs:sync (auts c.co)with
 | none=>rw[hs]at e;simp only[]at e;rw[e];rfl
 | some z=>rw[hs]at e;simp only[]at e;rw[e];rfl
theorem QfS (c:CL):(c.co.map (·.p)).map (·.a)=auts c.cel.co:=by unfold auts;show _=(c.co.map IV.it).map _;rw[Mf,Mf];rfl
theorem QmL (c:CL):(c.rq.map (·.p)).map (·.a)=auts c.cel.rq:=by unfold auts;show _=(c.rq.map IV.it).map _;rw[Mf,Mf];rfl
theorem qC {ps:List AV}(h:∀p∈ps,QO p.a):∀p∈ps,p.a.st≤4096:=λp hp=>(h p hp).st1
def jU (N:Nat)(H:Array Obj)(c:Q7)(va vt:Value)(e:Int):Prop:=if Zi c≠0 then e=Zi c∧va=zA∧vt=Zg else Yu N H (auts c.co) va vt e
theorem Qke {L:LN}{w:World}{c:CL}(h:ZQ L w.heap c)(hg:Kb w 4096):
  QH prog 183 [c.val] w λr w'=>Step [] w w'∧∃va vt e,r=.tuple #[va,vt,.int .i64 e]∧jU w.heap.size w'.heap c.cel va vt e:=by
 refine QH.of_W func183 O ntmps183 results183 (by simp) ?_;refine Qc<|xl O<|QR (us:=c.cells) O λb1 w1 V hu hh=>xl O<|Qu (us:=[nS,.int .i64 0,nS,nS]) O λb2 w2 Y hv I=>x Qe<|Qf ?_;have ha:=V.trans Y;have hw:=V.size;have hb:=hh.ext Y;refine Qg<|Qc<|x (Qo hb O O)<|xl O<|xf<|(Xt (h.ext ha)).mono ?_;rintro r3 w3 ⟨rfl,E⟩;refine Qf ?_;have J:=ha.trans E
 have hy:=I.lt;refine Qc<|Qb<|x (Q6 O O)<|xe<|Q3 rfl (λh9=>?_) (λh9=>?_)
 ·refine Qc<|x (QM Z)<|Qb<|xl O<|Qn (us:=[nS,.int .i64 0,nS,nS]) (I.ext E) O O O O ⟨O,O,O,O,Z⟩ λw4 hi hj=>x Qe<|Qf ?_;exact Ql ⟨[zA,Zg,.int .i64 (Zi c.cel)],⟨⟨_,O,Qx O (hj.at (L:=[]) (by simp)).cells⟩,rfl,rfl,Z⟩,J.then1 hi (by omega),zA,Zg,_,rfl,by unfold jU;rw[if_pos h9];exact⟨O,O,O⟩⟩
 have hk:=Z9 (Ln.1 h9);refine Qi<|Qc ?_;have h3:=h.ext J;refine x (Qa O)<|x (Qd (hb.ext E) O O)<|xl O<|xf<|(QdM h3.co).mono ?_;rintro r5 w5 ⟨U,hl⟩;have H:=J.trans U;have hm:∀p∈c.co.map (·.p),QO p.a:=λp hp=>by
  obtain⟨q,hq,rfl⟩:=Lq.1 hp;exact hk.co q.it (LP hq)
 have hz:=h.co.arr.le;have hn:YX [] w5.heap r5 (c.co.map (·.p)):=QiT hl (by rw[Lh];omega) (by simp) (λp hp=>by
  obtain⟨q,hq,rfl⟩:=Lq.1 hp;exact(((h.co.each q hq).up (L':=[]) (by simp)).ext H))
 refine xl rfl<|xf<|(Uw (km:=4096) hn (hg.ext H) (by decide) (qC hm)).mono ?_;rintro r6 w6 ⟨hc,va,vt,e,rfl,hR⟩;rw[QfS]at hR;have ho:=H.trans hc;have hr:=H.size;have hs:∃us,va=.agg us.toArray∧us.length=4∧ZM us:=by
  by_cases he:e=0
  ·exact VS (hR.good he).1
  exact⟨[nS,.int .i64 0,nS,nS],(hR.bad he).1,O,O,O,O,O,Z⟩
 refine Exists.elim hs λus G=>?_;refine x (Qj O O)<|x (Qj O O)<|x (Qj O O)<|xl O<|Qn (us:=us) ((I.ext E).ext (U.trans hc)) O G.1 G.2.1 O G.2.2 λw7 hf ht =>
  x Qe<|Qf<|Ql ⟨[.agg us.toArray,vt,.int .i64 e],⟨⟨_,O,Qx G.2.1 (ht.at (L:=[]) (by simp)).cells⟩,rfl,rfl,Z⟩,ho.then1 hf (by omega),va,vt,e,by rw[G.1];rfl,?_⟩
 unfold jU;rw[if_neg h9];exact(hR.st1 (by have:=U.size;have:=E.size;omega) hf).mono hr
theorem QfL {L:LN}{w:World}{v:Value}{l:LI}{m:Int}(h:QJ L w.heap v l)(J:Kb w m)(hb:∀n∈l,0≤n∧n<m)(hl:l.length≤1000000):
  QH prog 143 [v] w λr w'=>r=.string ⟨(Jr l).toArray⟩∧Step [] w w':=by
 refine QH.of_W func143 O ntmps143 results143 (by simp) ?_;refine Qc<|Qf<|Qc<|xl O<|Qu (us:=[.pointer none,nS]) O λH w1 hc U he=>xe ?_;refine Qg<|Qc<|Qb<|x (Qr h O)<|Qb<|xe ?_
 refine Qh<|Qz (α:=Nat×Value) [(5,5),(8,16)] (λz=>[(8,.int .i64 z.1)]) (λz w'=>z.1≤l.length∧Step [] w w'∧(z.2=.pointer none∨z.2=me H)∧Bl z.2 H (Jr (l.take z.1)) w'∧(Jr (l.take z.1)).length≤8*z.1) (λz=>l.length - z.1) (by rfl) (0,.pointer none) La
  ⟨Ll _,hc,.inl O,⟨_,he,QN _ _ _ _⟩,Lu _⟩ ?_
 rintro⟨k,p⟩ g w2 ⟨hk,E,hp,G,hf⟩;simp only[]at hk hp G hf;refine Qc<|x (QA O O)<|xe<|Qg<|QC O (λh9=>?_) (λh9=>?_)
 ·refine Qy<|Qc ?_;rw[Lp (by omega)]at G;refine xl O<|xf<|(ja E U hp G).mono ?_;rintro r3 w3 ⟨rfl,hg⟩;refine Qf ?_;exact Ql ⟨[.string ⟨(Jr l).toArray⟩],La,O,hg⟩
 have I:k<l.length:=by omega
 have hn:=hb l[k] (Lc I);obtain⟨q,hq⟩:∃q:Nat,l[k]=q:=⟨l[k].toNat,by omega⟩;have hh:l[k].toNat=q:=by omega
 have ho:=UW 7 q (by have:=J.le;omega);have V:Jr (l.take (k+1))=Jr (l.take k)++(Lib.decDigits q++[32]):=by
  rw[Li I];unfold Jr;rw[LG,List.flatMap_singleton,hh]
 refine Qi<|Qg<|Qh<|Qc<|xii (h.ext E) O O I λhr hi=>x (Qv hi O)<|Qf<|Qw<|Qb<|xl O<|xf ?_;refine(show QH _ _ [.int .i64 l[k]] _ _ by rw[hq];exact(Qfi q (by omega) w2 (J.ext E))).mono ?_;rintro r4 w4 ⟨rfl,Y⟩;have hj:(⟨(Lib.decDigits q).toArray⟩:ByteArray).size+(⟨#[32]⟩:ByteArray).size≤1000000000:=by show(Lib.decDigits q).toArray.size+1≤_;simp;omega
 refine x (J8 O O hj)<|xl O<|xf<|(KE (E.trans Y) U hp (G.ext Y) ((⟨(Lib.decDigits q).toArray⟩:ByteArray)++(⟨#[32]⟩:ByteArray)) (by rw[ByteArray.size_append];show _+((Lib.decDigits q).toArray.size+1)≤_;simp;omega)).mono ?_;rintro r5 w5 ⟨hm,ha⟩;refine xe<|Qw<|QP O O<|Qb<|xe<|⟨(k+1,me H),by simp only[];omega,La,by simp only[];omega,hm,.inr O,?_,?_⟩
 ·simp only[];rw[V];have e:((⟨(Lib.decDigits q).toArray⟩++⟨#[32]⟩:ByteArray)).data.toList=Lib.decDigits q++[32]:=by rw[ByteArray.data_append];simp
  rw[e]at ha;exact ha
 simp only[];rw[V];simp;omega
structure Sty where
 c:CL
 p:AV
 vq:Value
 qs:List TV
 s:AV
 vt:Value
 ts:List TV
 vs:Value
 vx:Value
 vk:Value
 qx:List XV
 ks:List KV
 bm:Nat
 mm:List (ByteArray×Value)
abbrev Sty.cells (q:Sty):LV:=[q.c.ve,q.c.vc,q.c.vr,q.c.vx,q.c.vk,q.p.va,.int .i64 q.p.a.st,q.p.vm,q.p.ve,q.vq,q.s.va,.int .i64 q.s.a.st,q.s.vm,q.s.ve,q.vt,q.vs,q.vx,q.vk,.map (some q.bm)]
structure K3 (L:LN)(b:Nat)(H:Array Obj)(q:Sty):Prop where
 B:QT H b 259 q.cells
 bL:b∉L
 c:ZQ L H q.c
 p:Zm L H q.p.va q.p.vm q.p.ve q.p.a
 s:Zm L H q.s.va q.s.vm q.s.ve q.s.a
 qs:XQ L H q.vq q.qs
 ts:XQ L H q.vt q.ts
 k1:QJ L H q.vs (szs q.c.cel.co)
 k2:qL L H q.vx q.qx
 k3:jV L H q.vk q.ks
 mL:q.bm∉L
 m:ZI Jh H q.bm q.mm
theorem K3.ext {L:LN}{b:Nat}{w w':World}{q:Sty}(h:K3 L b w.heap q)(hs:Step [] w w'):K3 L b w'.heap q:=⟨h.B.ext hs,h.bL,h.c.ext hs,h.p.ext hs,h.s.ext hs,h.qs.ext hs,h.ts.ext hs,h.k1.ext hs,h.k2.ext hs,h.k3.ext hs,h.mL,h.m.ext hs⟩
theorem K3.st {L:LN}{b:Nat}{w w':World}{q:Sty}(h:K3 L b w.heap q)(hs:Step L w w'):K3 L b w'.heap q:=⟨h.B.step hs h.bL,h.bL,h.c.st hs,h.p.st hs,h.s.st hs,h.qs.st hs,h.ts.st hs,h.k1.st hs,h.k2.st hs,h.k3.st hs,h.mL,h.m.step hs h.mL⟩
theorem K3.up {L L':LN}{b:Nat}{H:Array Obj}{q:Sty}(h:K3 L b H q)(E:∀b∈L',b∈L∨H.size≤b):K3 L' b H q :=
 ⟨h.B,λhm=>by rcases E _ hm with h1|h1;exact h.bL h1;have:=h.B.lt;omega,h.c.up E,h.p.up E,h.s.up E,h.qs.up E,h.ts.up E,h.k1.up E,h.k2.up E,h.k3.up E,λhm=>by rcases E _ hm with h1|h1;exact h.mL h1;have:=h.m.lt;omega,h.m⟩
structure QqZ (q:Sty):Prop where
 ok:Zi q.c.cel=0
 p:sync (auts q.c.cel.co)=some (q.p.a,q.qs.map (·.2))
 s:sync (auts q.c.cel.co++auts q.c.cel.rq)=some (q.s.a,q.ts.map (·.2))
 ex:q.qx.map (·.x)=q.c.cel.ex
 cs:q.ks.map (·.k)=q.c.cel.cs
 m:U3 q.c.co.length q.mm (q.qs.map (·.2))
theorem Xz {l:List Yk}(h:∀x∈l,QO x.a):∀a∈auts l,QO a:=λa ha=>by
 obtain⟨x,hx,rfl⟩:=Lq.1 ha;exact h x hx
def stp (a:QD)(s v:Int):Int×Bool×Int:=if cks a s≠0 then(0,false,cks a s)else if v∉a.al then(0,false,9)else if 0≤nxt a.ed s v then(nxt a.ed s v,true,0)else(0,false,0)
theorem Qj2 {L:LN}{w:World}{va vm ve:Value}{a:QD}(h:Zm L w.heap va vm ve a)(s v:Int):
  QH prog 219 [.agg #[va,.int .i64 a.st,vm,ve],.int .i64 s,.int .i64 v] w λr w'=>r=.tuple #[.int .i64 (stp a s v).1,.bool (stp a s v).2.1,.int .i64 (stp a s v).2.2]∧Step [] w w':=by
 have E:stp a s v=(if cks a s≠0 then(0,false,cks a s)else if v∉a.al then(0,false,9)else if 0≤nxt a.ed s v then(nxt a.ed s v,true,0)else(0,false,0)):=rfl
 refine Zj (stp a s v) λR hR=>?_;rw[hR]at E ⊢;refine QH.of_W func219 O ntmps219 results219 (by simp) ?_;refine Qc<|xl O<|QR (us:=[va,.int .i64 a.st,vm,ve]) O λb3 w1 ha he I=>x Qe<|x Qe<|Qf<|Qg<|Qc<|x (Qo I O O)<|Qb<|xl O<|xf<|(JP (h.ext ha) s).mono ?_;rintro r2 w2 ⟨rfl,J⟩;refine Qf ?_;have G:=ha.trans J;refine Qc<|Qb<|x (Q6 O O)<|xe<|Q3 rfl (λH=>?_) (λH=>?_)
 ·rw[if_pos H]at E;subst E;refine Qc<|Qb<|x Qe<|x Qe<|Qf ?_;exact Ql ⟨[_,_,_],⟨O,O,O,Z⟩,O,G⟩
 rw[if_neg H]at E;refine Qi<|Qg<|Qc<|x (Qa O)<|x (Qd (I.ext J) O O)<|Qb<|xl O<|xf<|(Yl (h.al.ext G) v).mono ?_;rintro r3 w3 ⟨rfl,rfl⟩;refine x (zg O)<|xe<|Q3 rfl (λU=>?_) (λU=>?_)
 ·rw[if_pos U]at E;subst E;refine Qc<|x Qe<|x Qe<|Qf ?_;exact Ql ⟨[_,_,_],⟨O,O,O,Z⟩,O,G⟩
 rw[if_neg U]at E;refine Qi ?_;have hc:cks a s=0:=Ln.1 H;have hck:Xq a=0:=by
  unfold cks at hc;refine Ln.1 λV=>?_;rw[if_pos V]at hc;exact V hc
 have hsr:0≤s∧s<a.st:=by
  unfold cks at hc;rw[if_neg (by rw[hck];decide)]at hc;refine Ln.1 λV=>?_;rw[if_pos (by omega)]at hc;cases hc
 refine Qg<|Qc<|x (Qo (I.ext J) O O)<|Qb<|Qb<|xl O<|xf<|(QcT (h.ed.ext G) ((Zs a).1 hck) s v hsr.1 hsr.2).mono ?_;rintro r4 w4 ⟨rfl,hb⟩;refine Qf<|Qc<|Qb<|x (ZV O O)<|xe<|Q3 rfl (λY=>?_) (λY=>?_)
 ·rw[if_pos Y]at E;subst E;refine Qc<|Qb<|x Qe<|x Qe<|Qf ?_;exact Ql ⟨[_,_,_],⟨O,O,O,Z⟩,O,G.trans hb⟩
 rw[if_neg Y]at E;subst E;refine Qi<|Qc<|x Qe<|x Qe<|Qf ?_;exact Ql ⟨[_,_,_],⟨O,O,O,Z⟩,O,G.trans hb⟩
theorem Qh9 (es:List Ed)(s v:Int):nxt es s v=(eget es s v).getD (-1):=by
 induction es with
 | nil=>rfl
 | cons e es ih =>
  rw[nxt,eget];by_cases h:e.1=s∧e.2.1=v
  ·rw[if_pos h,if_pos h];rfl
  rw[if_neg h,if_neg h];exact ih
theorem QnD {a:QD}(h:QO a){s v:Int}(G:0≤s)(h1:s<a.st)(E:v∈a.al):(stp a s v).2.1=(eget a.ed s v).isSome:=by
 have hc:cks a s=0:=by unfold cks;rw[if_neg (by rw[(Zs a).2 h];decide),if_neg (by omega)]
 unfold stp;rw[if_neg (by rw[hc];decide),if_neg (by simpa using E),Qh9];cases he:eget a.ed s v with
 | none=>rfl
 | some t =>
  have:=(h.ed _ (Z0 he)).2.2.2.1;rw[Option.getD_some,if_pos (by simpa using this)];rfl
theorem Qhv {L L':LN}{w:World}{b:Nat}{q:Sty}{vt:Value}{t:LI}(hS:K3 L b w.heap q)(ht:QJ L' w.heap vt t)(H:q.c.co.length≤t.length):
  QH prog 142 [.pointer (some ⟨b,0,none⟩),vt] w λr w'=>Step [] w w'∧∃E G,r=.tuple #[E,G]∧QJ L' w'.heap E (t.take q.c.co.length)∧QJ L' w'.heap G (t.drop q.c.co.length):=by
 refine QH.of_W func142 O ntmps142 results142 (by simp) ?_;refine Qc<|x Qe<|Qf<|Qc<|Qb<|x (QE O)<|x (Qa O)<|x (Qa O)<|x (Qd hS.B O O)<|x (Qr hS.c.co.arr O)<|Qf<|Qg<|QU (Step [] w) [(0,true),(1,true),(2,true),(3,true),(4,true),(5,true),(6,true),(7,true),(8,true)] mixed (by rfl) (by kernel_rfl) (Step.drew _ _) ?_
 refine p (λ_=>Qk)<|p (λ_=>Qk)<|p (λ_=>Qk)<|QqJ (hi:=q.c.co.length) O ht O O O H λE h1=>p (λ_=>Qk)<|p (λ_=>Qk)<|QnU (lo:=q.c.co.length) O ht O O H λG h2 =>
  p (λ_=>Qe)<|p (λ_=>Qe)<|pe ?_
 refine Ql ⟨[_,_],⟨O,O,Z⟩,Step.drew _ _,E,G,O,?_,?_⟩
 ·rw[Nat.mul_one,←List.map_take]at h1;have e:(t.take q.c.co.length).length=q.c.co.length:=by rw[LC];omega
  unfold QJ;rw[e];exact h1
 exact QJ.drop h2
theorem q8 {v:Int}{i:Nat}{y:Yk}{l:List Yk}{s:Int}{ss:LI}:rfr v i (y::l) (s::ss)=if v∈y.a.al∧(eget y.a.ed s v).isSome=false then(i:Int)else rfr v (i+1) l ss:=rfl
set_option maxHeartbeats 1000000 in
theorem Qdr {L L':LN}{w:World}{b:Nat}{q:Sty}{vr:Value}{rs:LI}{v:Int}(hS:K3 L b w.heap q)(hr:QJ L' w.heap vr rs)(hp:∀x∈q.c.rq,QO x.p.a)(hv:Vt (auts q.c.cel.rq) rs):
  QH prog 189 [.pointer (some ⟨b,0,none⟩),vr,.int .i64 v] w λr w'=>r=.int .i64 (rfr v 0 q.c.cel.rq rs)∧Step [] w w':=by
 have h5:=hS.c.rq.arr.le;have h6:rs.length=q.c.rq.length:=by rw[hv.1];unfold auts;show((q.c.rq.map IV.it).map _).length=_;simp
 refine Zj (rfr v 0 q.c.cel.rq rs) λR hR=>?_;rw[hR];refine QH.of_W func189 O ntmps189 results189 (by simp) ?_;refine Qc<|Qf<|Qg<|Qc<|Qb<|x (QE O)<|x (Qa O)<|x (Qa O)<|x (Qd hS.B O O)<|x (Qr hS.c.rq.arr O)<|Qb<|xe ?_
 refine Qh<|Qz (α:=Nat) [(6,11),(18,44)] (λz=>[(18,.int .i64 z)]) (λz w'=>z≤q.c.rq.length∧Step [] w w'∧rfr v z ((q.c.rq.drop z).map (·.it)) (rs.drop z)=R) (λz=>q.c.rq.length - z) (by rfl) 0 La
  ⟨Ll _,Step.refl _ _,hR⟩ ?_
 rintro k g w1 ⟨hk,I,E⟩;refine Qc<|x (QA O O)<|xe<|Qg<|QC O (λha=>?_) (λha=>?_)
 ·refine Qy ?_;have hq:q.c.rq.length≤k:=by have hs:¬(k:Int)<(q.c.rq.length:Int):=ha;omega
  rw[Lv hq]at E;have ht:R=-1:=E.symm;refine Qc<|Qf ?_;exact Ql ⟨[_],La,by rw[ht];rfl,I⟩
 have G:k<q.c.rq.length:=by have hs:(k:Int)<(q.c.rq.length:Int):=ha;omega
 have H:k<rs.length:=by omega
 have hb:=Lc G;rw[JG G,Q5 H,q8]at E;have J:∀hz:k<(auts q.c.cel.rq).length,0≤rs[k]'H∧rs[k]'H<((auts q.c.cel.rq)[k]'hz).st:=λhz=>hv.2 k H hz;have hh:k<(auts q.c.cel.rq).length:=by unfold auts;show k<((q.c.rq.map IV.it).map _).length;simpa using G
 have J:=J hh;have hu:(auts q.c.cel.rq)[k]'hh=(q.c.rq[k]'G).p.a:=by unfold auts;show((q.c.rq.map IV.it).map _)[k]'_=_;simp[IV.it]
 rw[hu,Q8 H]at J;rw[Q8 H]at E;refine Qi<|Qg<|Qh<|Qc<|Qb<|xig XN (hS.c.rq.arr.ext I) O O G λh7 hi=>?_;refine Zj (q.c.rq[k]'G) λy hy=>?_;rw[hy]at hi hb E J;have U:=(hS.c.rq.each y hb).ext I;have hj:=hp y hb;refine x (QI hi O O)<|xl O<|Qu (us:=[.string .empty,nS,.int .i64 0,nS,nS]) O λb8 w2 hw h0 Y=>x Qe <|
  xl rfl<|Qn (us:=Zn y) Y O O O O ⟨O,U.al.one,O,U.mr.one,U.ed.one,Z⟩ λw3 h1 Y=>xe ?_
 have V:Step [] w1 w3:=hw.then1 h1 h0;refine Qg<|Qc<|x (Qa O)<|x (Qa O)<|x (Qd Y O O)<|Qb<|xl O<|xf<|(Yw (U.al.ext V) hj.ali v).mono ?_;rintro r4 w4 ⟨rfl,rfl⟩;refine x (zg O)<|xe<|Q3 rfl (λhe=>?_) (λhe=>?_)
 ·rw[if_neg (λe=>he e.1)]at E;refine Qy<|Qw<|QP O O<|Qb<|xe ?_;exact⟨k+1,by omega,La,G,I.trans V,E⟩
 have hl:v∈y.p.a.al:=Ln.1 he;have hm:=QnD hj J.1 J.2 hl;refine Qi ?_;have h2:=(hr.ext I).ext V;refine Qg<|QU (Step [] w4) [(0,true),(1,true),(2,true),(3,true),(4,true),(5,true),(6,true),(7,false),(8,true),(9,true),(10,true),(11,true),(12,true),(13,true),(14,true)] mixed (by rfl) (by kernel_rfl) (Step.drew _ _) ?_
 refine p (λ_=>Qa O)<|pq (λ_ hc=>ZG (us:=Zc y.p) (Y.step hc (by simp)) rfl rfl rfl)<|p (λ_=>Qk)<|p (λ_=>Qk)<|pic (i:=k) rfl h2 rfl rfl H λh8 h3 =>
  pq (λ_ hc=>Qv (h3.ext hc) O)<|p (λ_=>Qk)<|pk<|xf<|(Qj2 ((U.ext V).ext (Step.drew _ _)) (cget rs k) v).mono ?_
 rintro r5 w5 ⟨rfl,h4⟩;have hn:=(Step.drew [] w4).trans h4;refine⟨hn,?_⟩;refine p (λ_=>Qk)<|p (λ_=>Qj O O)<|p (λ_=>Qj O O)<|p (λ_=>Qj O O)<|p (λ_=>Qe) <|
  p (λ_=>Qe)<|p (λ_=>Qe)<|pe ?_
 have ho:=(I.trans V).trans hn;refine Qc<|Qb<|x (Zt O)<|xe<|QZ rfl (λhf=>?_) (λhf=>?_)
 ·have hg:(eget y.p.a.ed (cget rs k) v).isSome=false:=by rw[←hm];simpa using hf
  rw[if_pos ⟨hl,hg⟩]at E;refine Qc<|Qb<|Qf ?_;exact Ql ⟨[_],La,by rw[←E];rfl,ho⟩
 have hg:¬(eget y.p.a.ed (cget rs k) v).isSome=false:=by rw[←hm];simpa using hf
 rw[if_neg (λe=>hg e.2)]at E;refine Qi<|Qw<|QP O O<|Qb<|xe ?_;exact⟨k+1,by omega,La,G,ho,E⟩
end Go.Proofs.YtjcgijbhaemldaaGreatDoor
namespace Go.Lg
open Go.RowKit
def Ju (L:LN)(W W':World):Prop:=∀(k:Nat) (o:Obj),k∉L→W.heap[k]?=some o→o.isCells=true→W'.heap[k]?=some o
theorem Ju.refl (L:LN)(W:World):Ju L W W:=λ_ _ _ h _=>h
theorem Ju.trans {L:LN}{A B C:World}(h:Ju L A B)(k:Ju L B C):Ju L A C:=λi o E G hc=>k i o E (h i o E G hc) hc
theorem At.cst {L:LN}{W W':World}{a:Addr}{us:LV}(h:At L W.heap a us)(hc:Ju L W W')(G:W.heap.size≤W'.heap.size):At L W'.heap a us:=by
 refine⟨h.out,λu hu=>Ma (h.lt u hu) G,λj u hu=>?_⟩;have h1:=h.cell j u hu;unfold cel at h1 ⊢;rw[Yi]at h1 ⊢;cases E:W.heap[a.block]? with
 | none=>rw[E]at h1;cases h1
 | some o =>
  rw[E]at h1;cases o with
  | cells c t m=>rw[hc a.block _ (h.out u (Mv hu)) E rfl];exact h1
  | _=>cases h1
theorem Zy.cst {L:LN}{W W':World}{v:Value}{n sz:Nat}{cs:LV}(h:Zy L W.heap v n sz cs)(hc:Ju L W W')(E:W.heap.size≤W'.heap.size):Zy L W'.heap v n sz cs :=
 ⟨h.1,h.2.1,h.2.2.imp id λ⟨a,cap,h1,h2,h3⟩=>⟨a,cap,h1,h2,h3.cst hc E⟩⟩
structure LwC (B:Nat)(L:LN)(W W':World):Prop where
 lw:Lw B L W W'
 cst:Ju L W W'
theorem LwC.trans {B:Nat}{L:LN}{E w w':World}(h:LwC B L E w)(k:LwC B L w w'):LwC B L E w':=⟨h.lw.trans k.lw,h.cst.trans k.cst⟩
def rdC {α:Type}(B:Nat)(L:LN)(I:List α→World→Prop)(X:Exit→List α→World→Prop)(xs:List α)(W:World):Exit→LN→Fr→World→Prop
 | .normal,_,_,W'=>Jb B L W W'∧Ju L W W'∧I xs W'
 | .ret,_,_,W'=>Jb B L W W'∧X .ret xs W'
 | .exit i,_,_,W'=>Jb B L W W'∧X (.exit i) xs W'
 | _,_,_,_=>False
theorem Qkk {α:Type}{m:Nat}{P:Program}{n:Nat}{Q:Exit→LN→Fr→World→Prop}{ds:LN}{f:Fr}{w:World}{g:Operand}{ps:LN}{assign body:Code}(L:LN)(h1:1≤m)
  {gf:Nat} {fn:Func} [hF:Fu P gf fn] {capt:LV} (hg:ev f g=.func (.func gf) #[] capt.toArray) {encs:α→LV} {S Sp:List α→Prop} {N:Nat} (hp:∀p∈ps,p<n) (he:∀x,(encs x).length=ps.length)
  (hf:SeqStopsK (fen none) (m - 1) P gf capt.toArray (λx=>(encs x).toArray) (LwC w.heap.size L) S Sp N w)
  (I:List α→World→Prop) (hI:∀s,Yc w.heap.size (I s)) (X:Exit→List α→World→Prop) (hX:∀e s,Yc w.heap.size (X e s)) (h0:I [] w) (A:Fr→α→Fr→World→Prop) (hA:∀x E,Yc w.heap.size (A f x E))
  (U:∀l pre x W,I pre W→WG (some l) (m - 1 - 1) P n assign (Qde (λH E W'=>H=[]∧Jb w.heap.size L W W'∧Ju L W W'∧I pre W'∧A f x E W') (λ_ _ _ _=>False)) [] (Qdd f ps (encs x)) W)
  (V:∀l pre x E W,I pre W→A f x E W→pre.length<N→WG (some l) (m - 1 - 1) P n body (rdC w.heap.size L I X (pre++[x]) W) [] E W)
  (hh:∀D xs W,w.heap.size≤D→S xs→I xs W→W.heap[D]?=some (.deferred (some []))→Q .normal (D::ds) f W)
  (Y:∀D e pre W,w.heap.size≤D→Sp pre→X e pre W→W.heap[D]?=some (.deferred (some []))→(e=.ret∨∃i,e=.exit i)→Q e (D::ds) f W):
  WG none m P n (.rangeFunc g ps.toArray assign body) Q ds f w:=by
 unfold WG at U V ⊢;intro a ha;have eg:∀args w,(callFunc gf args).run P w=.ok (.enter gf args) w:=by
  intro args w;have h1:¬fn.name = "runtime.NumGoroutine" := by simpa using hF.nm
  have h2:¬fn.body=none:=by have:=hF.b;intro e;rw[e]at this;cases this
  simp[callFunc,hF.f,h1,h2]
 have keep:∀{W W':World},Jb w.heap.size L W W'→KeepsFrom w.heap.size W W':=λh=>⟨h.lw.size,λk o _ hk J=>h.other k o hk J⟩;refine wpIn_rangeFunc_ownH (F:=fen none) O h1 (gf:=gf) (lb:=capt.toArray) (by rw[ha.eval];exact hg) Z eg hf (λh k=>h.trans k)
  (λW l o o' hl J hj _=>⟨⟨O,O,O,by simp,λk hk _=>World.putObj_heap_other (by omega)⟩,λk o2 _ hk hc=>by
   have hm:k≠l:=λe=>by subst e;rw[J]at hk;cases hk;rw[hj]at hc;cases hc
   rw[World.putObj_heap_other hm];exact hk⟩) (Below.refl _ _) (λx=>by simp[he x]) I
  (λc pre W=>match c with| .ret=>X .ret pre W| .exit i=>X (.exit i) pre W|_=>False) (Yc.own hI) (λc=>Yc.own λs=>?_) h0
  (λx G W=>∃E,YL n [] G E∧A f x E W) (λx G=>Yc.own λ_=>Yc.ex λE=>Yc.and (Yc.pure _) (hA x E)) ?_ ?_ ?_ ?_
 ·cases c <;> first|exact hX _ s|exact Yc.pure _
 ·intro l pre x W K hi hK;have hr:YL n [] { tmps:=(ps.toArray.zip (encs x).toArray).foldl (λt (p,v)=>t.setIfInBounds p v) a.tmps,defers:=[] } (Qdd f ps (encs x)):=by
   have h2:YL n [] { a with defers:=[] } f:=⟨ha.size,O,ha.get⟩
   have h3:=UH ps (encs x) _ _ h2 hp;have e:(ps.toArray.zip (encs x).toArray).foldl (λt (p,v)=>t.setIfInBounds p v) a.tmps=(ps.zip (encs x)).foldl (λt (x:Nat×Value)=>t.setIfInBounds x.1 x.2) a.tmps:=by simp
   rw[e];exact h3
  refine wpIn_mono (U l pre x W hi _ hr) ?_;rintro e G W' ⟨H,E,h2,_,h3⟩;cases e with
  | normal=>obtain⟨rfl,h4,hn,h5,h6⟩:=h3;exact hK G W' (keep h4) ⟨h4.lw,hn⟩ h5 ⟨E,h2,h6⟩
  | exit id=>exact h3.elim
  | goto l=>exact h3.elim
  | ret=>exact h3.elim
  | panic ch=>exact h3.elim
  | outgrown=>exact h3.elim
 ·rintro l pre x G W _ _ hi ⟨E,h2,h3⟩ hq;refine wpIn_mono (V l pre x E W hi h3 hq G h2) ?_;rintro e hs W' ⟨H,ht,h4,_,h5⟩;cases e with
  | normal=>exact⟨keep h5.1,⟨h5.1.lw,h5.2.1⟩,h5.2.2⟩
  | exit id=>exact⟨keep h5.1,h5.2⟩
  | goto l=>exact h5.elim
  | ret=>exact⟨keep h5.1,h5.2⟩
  | panic ch=>exact h5.elim
  | outgrown=>exact h5.elim
 ·intro D xs W hD hS hi hd;exact⟨D::ds,f,⟨ha.size,by rw[show coll (D::ds)={ target:=.collected D,args:=#[] }::coll ds from rfl,ha.defers],ha.get⟩,λ_ _=>rfl,hh D xs W hD hS hi hd⟩
 intro D c pre W hD hS hx hd;have hb:YL n (D::ds) { a with defers:={ target:=.collected D,args:=#[] }::a.defers } f:=⟨ha.size,by rw[show coll (D::ds)={ target:=.collected D,args:=#[] }::coll ds from rfl,ha.defers],ha.get⟩
 cases c with
 | ret=>exact wpIn_ret ⟨_,f,hb,λ_ _=>O,Y D .ret pre W hD hS hx hd (.inl O)⟩
 | exit i=>exact wpIn_exit ⟨_,f,hb,λ_ _=>O,Y D (.exit i) pre W hD hS hx hd (.inr ⟨i,O⟩)⟩
 | _=>exact hx.elim
theorem xy2 {m:Nat}{P:Program}{ops:List Oper}{rest:List Oper}{f:Fr}{w:World}{K:Fr→World→Prop}{d:Option Nat}{ty:Nat}{ps:String}{af:Array Edge}{gd:Option (Nat×Bool)}{x y z:Operand}{at_:Array Nat}{l:Nat}{R:Ending→World→Prop}
  (hx:ev f x=.func (.yield l) #[] #[]) (hy:YieldAt (fen none) (m - 1) P l #[ev f y,ev f z] w R) (E:∀e w',R e w'→∃v,e=.returned v∧Jt P m ops K rest (QW f d v) w')
  (G:Yd ops f ⟨d,.call ⟨.value x,[y,z].toArray,at_⟩,ty,ps,af,gd⟩=true:=by rfl):
  Jt P m ops K (⟨d,.call ⟨.value x,[y,z].toArray,at_⟩,ty,ps,af,gd⟩::rest) f w:=by
 obtain⟨fn,tmps,assign,body,h1,h2⟩:=hy;have H:(execOp (ev f) ⟨d,.call ⟨.value x,[y,z].toArray,at_⟩,ty,ps,af,gd⟩).run P w=.ok (.round l fn tmps assign body) w:=by
  simp[execOp,resolve,hx,Deferred.ofValue,invoke,h1]
 unfold Jt;rw[G];simp only[XOY,H,upY,cond_true];exact h2.mono λe w' h=>by obtain⟨v,rfl,hk⟩:=E e w' h;exact hk
end Go.Lg
namespace Go.Proofs.YtjcgijbhaemldaaGreatDoor
open Go.Proofs.Tryz
open Go.Lg
def wrf (rq:List Yk)(rs:LI):LI→List (Int×Int)
 | []=>[]
 | v::l=>if 0≤rfr v 0 rq rs then(v,rfr v 0 rq rs)::wrf rq rs l else wrf rq rs l
theorem Qbm (rq:List Yk)(rs:LI)(v:Int):∀l,wrf rq rs (l++[v])=wrf rq rs l++if 0≤rfr v 0 rq rs then[(v,rfr v 0 rq rs)]else[]
 | []=>by simp only[List.nil_append,wrf]
 | a::l=>by
  simp only[List.cons_append,wrf,Qbm rq rs v l];by_cases h:0≤rfr a 0 rq rs
  ·rw[if_pos h,if_pos h];rfl
  rw[if_neg h,if_neg h]
theorem Vy (rq:List Yk)(rs:LI)(b:LI):∀a,wrf rq rs (a++b)=wrf rq rs a++wrf rq rs b
 | []=>rfl
 | x::a=>by
  simp only[List.cons_append,wrf,Vy rq rs b a];by_cases h:0≤rfr x 0 rq rs
  ·rw[if_pos h,if_pos h];rfl
  rw[if_neg h,if_neg h]
theorem Qkz (rq:List Yk)(rs:LI)(l:LI)(k:Nat):(wrf rq rs (l.take k)).length≤(wrf rq rs l).length:=by
 have h:=Vy rq rs (l.drop k) (l.take k);rw[MQ]at h;rw[h,Lj];omega
theorem QgT {rq:List Yk}{rs:LI}{l:LI}{k:Nat}(h:k<l.length):wrf rq rs (l.take (k+1))=wrf rq rs (l.take k)++if 0≤rfr (cget l k) 0 rq rs then[(cget l k,rfr (cget l k) 0 rq rs)]else[]:=by
 rw[Li h,Qbm,Q8 h]
theorem jY {rq:List Yk}{rs:LI}{x:Int×Int}:∀{l:LI},x∈wrf rq rs l↔x.1∈l∧0≤x.2∧x.2=rfr x.1 0 rq rs
 | []=>by simp[wrf]
 | v::l=>by
  rw[wrf];have ih:=jY (rq:=rq) (rs:=rs) (x:=x) (l:=l);by_cases h:0≤rfr v 0 rq rs
  ·rw[if_pos h,Le,ih,Le];constructor
   ·rintro(rfl|⟨h1,h2⟩)
    ·exact⟨.inl O,h,O⟩
    exact⟨.inr h1,h2⟩
   rintro⟨h1|h1,h2,h3⟩
   ·exact .inl (by rw[←h1];exact Prod.ext_iff.2 ⟨O,h3⟩)
   exact .inr ⟨h1,h2,h3⟩
  rw[if_neg h,ih,Le];constructor
  ·rintro⟨h1,h2⟩;exact⟨.inr h1,h2⟩
  rintro⟨h1|h1,h2,h3⟩
  ·exact absurd (by rw[←h1,←h3];exact h2) h
  exact⟨h1,h2,h3⟩
theorem QbK {w:World}{b:Nat}{st:Int}{vr:Value}(J:vr.cells=[vr].toArray):
  QH prog 145 [.pointer (some ⟨b,0,none⟩),.int .i64 st,vr] w λr w'=>Step [] w w'∧∃b1 b2 E,r=.func (.func 188) #[] #[.pointer (some ⟨b1,0,none⟩),.pointer (some ⟨b2,0,none⟩),.pointer (some ⟨E,0,none⟩)] ∧
   w.heap.size≤b1∧w.heap.size≤b2∧w.heap.size≤E∧QT w'.heap b1 255 [.pointer (some ⟨b,0,none⟩)]∧QT w'.heap b2 3 [.int .i64 st]∧QT w'.heap E 39 [vr]:=by
 refine QH.of_W func145 O ntmps145 results145 (by simp) ?_;refine Qc<|xl O<|QR (us:=[.pointer (some ⟨b,0,none⟩)]) O λE w1 I U V=>xl O<|QR (us:=[.int .i64 st]) O λY w2 G hc ha=>xl O<|QR (us:=[vr]) J λb5 w3 H he hb=>x Qe <|
  xe ?_
 have hf:=I.size;have hg:=G.size;refine Qc<|x Zo<|Qf ?_;exact Ql ⟨[_],La,(I.trans G).trans H,E,Y,b5,O,U,by omega,by omega,(V.ext G).ext H,ha.ext H,hb⟩
set_option maxHeartbeats 4000000 in
theorem Qan {L:LN}{w:World}{I b2 U b m:Nat}{q:Sty}{vr:Value}{rs es:LI}{st:Int}{fl:List (Int×Int)}(hu:QT w.heap I 255 [.pointer (some ⟨b,0,none⟩)])(h7:QT w.heap b2 3 [.int .i64 st])(h8:QT w.heap U 39 [vr])
  (hA:I∉L) (hB:U∉L) (hC:∀x∈L,x<w.heap.size) (hS:K3 L b w.heap q) (hr:QJ L w.heap vr rs) (hD:∀x∈q.c.rq,QO x.p.a) (hv:Vt (auts q.c.cel.rq) rs) (hc:cks q.p.a st=0) (hw:enb q.p.a st=es) (hi:wrf q.c.cel.rq rs es=fl):
  SeqStopsK (fen none) m prog 188 [.pointer (some ⟨I,0,none⟩),.pointer (some ⟨b2,0,none⟩),.pointer (some ⟨U,0,none⟩)].toArray (λx:{ x:Int×Int // x∈fl }=>[Value.int .i64 x.1.1,.int .i64 x.1.2].toArray) (LwC w.heap.size L)
   (λE=>E.map (·.1)=fl) (λpre=>pre.map (·.1) <+: fl) fl.length w:=by
 intro l J Jx W hE hJ hF hY h0;have hf:Step [] w W:=Step.of_below hE;have ab:∀{E:List { x:Int×Int // x∈fl }} {W1 W2:World},J E W1→Step [] W1 W2→J E W2:=λ{E W1 W2} hj hg=>hJ E W1 W2 none hj ⟨hg.os,hg.tape,hg.output,hg.size,λk hk _=>hg.block k hk (by simp)⟩ (λr e=>by cases e);have hG:es.length≤1099511627776:=by
  have h1:=hS.p.ed.le;have h2:=JY q.p.a.ed st;rw[←hw];unfold enb;rw[Lh];omega
 have hH:=Qkz q.c.cel.rq rs es;rw[hi]at hH;have key:QH prog 188 [.func (.yield l) #[] #[],.pointer (some ⟨I,0,none⟩),.pointer (some ⟨b2,0,none⟩),.pointer (some ⟨U,0,none⟩)] W (λ_ W'=>(∃E,E.map (·.1)=fl∧J E W')∨(∃pre,pre.map (·.1) <+: fl∧Jx pre W')):=by
  refine QH.of_G m func188 O ntmps188 results188 (by simp) ?_;have hI:=hu.ext hf;have hK:=h7.ext hf;have hy:=hS.ext hf;refine Q2<|Qbf (Step [] W) [(0,true),(1,true),(2,true),(3,true),(4,true),(5,false),(6,true),(7,true),(8,true),(9,true),(10,true)] mixed (by rfl) (by rfl) (by kernel_rfl) (Step.drew _ _) ?_
  refine pq (λ_ hc=>Qd (hI.ext hc) O O)<|p (λ_=>QE O)<|p (λ_=>Qa O)<|pq (λ_ hc=>ZG (us:=Zc q.p) (hy.B.ext hc) O O O)<|pq (λ_ hc=>Qd (hK.ext hc) O O)<|pk<|xf<|(VQ (hy.p.ext (Step.drew _ _)) st).mono ?_;rintro r1 w1 ⟨hL,ve,rfl,_,hl⟩;have hl:=hl hc;have hq:=(Step.drew [] W).trans hL;refine⟨hq,?_⟩;refine p (λ_=>Qk)<|p (λ_=>Qj O O)<|p (λ_=>Qj O O)<|p (λ_=>Qe)<|p (λ_=>Qe)<|pe ?_
  have hP:=hf.size;have hQ:({ W with drawn:=W.drawn+1 }:World).heap.size=W.heap.size:=rfl
  rw[hw]at hl;have hz:QJ L w1.heap ve es:=Qt.ints hl hG (λx hx=>by have:=hC x hx;omega);refine Q2<|QK (by rfl) (by rfl) ?_;refine Qb<|x (Qr hz O)<|Qb<|xe ?_
  refine ZS<|VP (α:=Nat×List { x:Int×Int // x∈fl }) [(8,9),(21,38)] (λz=>[(21,.int .i64 z.1)]) (λz ds W'=>ds=[]∧z.1≤es.length∧Step L w W'∧QJ L W'.heap ve es∧z.2.map (·.1)=wrf q.c.cel.rq rs (es.take z.1)∧J z.2 W') (λz=>es.length - z.1) (by rfl) (0,[]) La
   ⟨O,Ll _,(hf.trans hq).any,hz,O,ab h0 hq⟩ ?_
  rintro⟨k,E⟩ g ds w2 ⟨rfl,hk,V,hm,Y,hn⟩;simp only[]at hk hm Y hn;refine Q2<|QK (by rfl) (by rfl) ?_;refine x (QA O O)<|xe<|Q2<|yx O (λhs=>?_) (λhs=>?_)
  ·refine Kp ?_;have hM:es.length≤k:=by have ho:¬(k:Int)<(es.length:Int):=hs;omega
   rw[Lp hM,hi]at Y;exact⟨λ_ h=>(by cases h),ME,[],λW' G=>⟨Z,.inl ⟨E,Y,ab hn G⟩⟩⟩
  refine Yj ?_;have ha:k<es.length:=by have ho:(k:Int)<(es.length:Int):=hs;omega
  have H:=QgT (rq:=q.c.cel.rq) (rs:=rs) ha;have h3:cget es k∈es:=by rw[←Q8 ha];exact Lc ha
  refine Zj (cget es k) λv h4=>?_;rw[h4]at H h3;refine Zj (rfr v 0 q.c.cel.rq rs) λj hj=>?_;rw[hj]at H;refine Q2<|ZS<|Q2<|QK (by rfl) (by rfl) ?_;refine xic (i:=k) hm O O ha λhR ho=>?_;rw[h4]at ho;refine x (Qv ho O)<|Qf<|Q2<|QK (by rfl) (by rfl) ?_
  refine x (Qd (hu.step V hA) O O)<|x (Qd (h8.step V hB) O O)<|Qb<|xl O<|xf<|(Qdr (v:=v) (hS.st V) (hr.st V) hD hv).mono ?_;rintro r3 w3 ⟨h5,hb⟩;rw[hj]at h5;subst h5;refine Qf<|Q2<|Vn (by rfl) ?_;refine Jt.pre3 ?_;refine Qb<|xb (ZV O O) (λht=>?_) (λht=>?_)
  ·have hp:0≤j:=ht;have hh:(v,j)∈fl:=by rw[←hi];exact jY.2 ⟨h3,hp,hj.symm⟩
   rw[if_pos hp]at H;have h6:(E++[(⟨(v,j),hh⟩:{ x:Int×Int // x∈fl })]).map (·.1) <+: fl:=by
    rw[Lx,Y,show[(⟨(v,j),hh⟩:{ x:Int×Int // x∈fl })].map (·.1)=[(v,j)] from rfl,←H,←hi];have h9:=Vy q.c.cel.rq rs (es.drop (k+1)) (es.take (k+1));rw[MQ]at h9;exact⟨_,h9.symm⟩
   have hN:E.length<fl.length:=by have h1:=h6.length_le;rw[Lh,Lj,Lz]at h1;omega
   refine Qb<|xe<|Jt.pre3 ?_;refine Qb<|Qb<|Qb<|xe<|xy2 (l:=l) O (hY E ⟨(v,j),hh⟩ w3 (ab hn hb) hN) λen W3 hO=>Or.elim hO (λh1=>⟨.bool true,h1.1,?_⟩) (λh1=>⟨.bool false,h1.1,?_⟩)
   ·refine Jt.of_XL<|x (Zt O)<|x (Qp O)<|xe<|Vo O<|Yj ?_;refine QK (by rfl) (by rfl) ?_;refine QP O O<|Qb<|xe ?_;exact⟨(k+1,E++[⟨(v,j),hh⟩]),by simp only[];omega,La,O,ha,(V.trans hb).lw h1.2.2.lw,(hm.ext hb).cst h1.2.2.cst h1.2.2.lw.size,by simp only[];rw[H,Lx,Y];rfl,h1.2.1⟩
   refine Jt.of_XL<|x (Zt O)<|x (Qp O)<|xe<|Qbe O ?_;refine K7 ⟨λ_ h=>(by cases h),ME,[],λW' G=>⟨Z,.inr ⟨E++[⟨(v,j),hh⟩],h6,?_⟩⟩⟩;exact hF _ W3 W' none h1.2 ⟨G.os,G.tape,G.output,G.size,λk hk _=>G.block k hk (by simp)⟩ (λr e=>by cases e)
  have hp:¬0≤j:=ht;rw[if_neg hp,LO]at H;refine Qb<|xe<|Jt.of_XL<|xs O<|xs O<|xs O<|xs O<|xs O<|x (Qp O)<|xe<|Vo O<|Yj ?_;refine QK (by rfl) (by rfl) ?_;refine QP O O<|Qb<|xe ?_;exact⟨(k+1,E),by simp only[];omega,La,O,ha,V.trans hb,hm.ext hb,by simp only[];rw[H,Y],ab hn hb⟩
 refine(callsIn_wide (n:=m)).2 ?_;have ea:(#[.func (.yield l) #[] #[]]++[.pointer (some ⟨I,0,none⟩),.pointer (some ⟨b2,0,none⟩),.pointer (some ⟨U,0,none⟩)].toArray:Array Value)=[.func (.yield l) #[] #[],.pointer (some ⟨I,0,none⟩),.pointer (some ⟨b2,0,none⟩),.pointer (some ⟨U,0,none⟩)].toArray:=by simp
 rw[ea];unfold QH at key;refine Calls.mono key λe w' he=>?_;cases e with
 | returned v=>exact⟨⟨v,O⟩,he⟩
 | panicked c=>exact he.elim
 | outgrown=>exact he.elim
end Go.Proofs.YtjcgijbhaemldaaGreatDoor
namespace Go.Lg
section
variable {P:Program}{K:Fr→World→Prop}{f:Fr}{w:World}{d:Option Nat}{ty:Nat}{ps:String}{af:Array Edge}{gd:Option (Nat×Bool)}
theorem Ve {t sz:Nat}[h1:Ag P t sz]{x y:Operand}{b T o:Nat}{cs us E:LV}(G:QT w.heap b T cs)(hx:ev f x=.pointer (some ⟨b,o,none⟩))(hy:ev f y=.agg us.toArray)(hl:us.length=sz)(hj:o+sz≤cs.length)(hu:ZM us)(he:cs.take o++us++cs.drop (o+sz)=E)
  (I:∀w',Step [b] w w'→QT w'.heap b T E→K (QW f d undef) w'):XO P ⟨d,.store t x y,ty,ps,af,gd⟩ f w K:=by
 have H:=run_storeCells_at P b o T us 0 cs.toArray w G (by simp;omega) hu.all;subst hl;simp only[Nat.add_zero,he]at H;refine xk (w':=w.setRow b E.toArray) ?_ (I _ (Step.setRow _ _ _) (VF G));simp[execOp,hx,hy,Instr.storeAt,Instr.sureAddr,storeVar,UD (sz:=us.length),Value.cells,H]
end
end Go.Lg
namespace Go.Proofs.YtjcgijbhaemldaaGreatDoor
open Go.Proofs.Tryz
open Go.Lg
instance:Bw prog 259 [nS,nS,nS,nS,nS,nS,.int .i64 0,nS,nS,nS,nS,.int .i64 0,nS,nS,nS,nS,nS,nS,.map none] [(0,5),(5,4),(9,1),(10,4),(14,1),(15,3),(18,1)]:=⟨by kernel_rfl,by decide⟩
theorem Yu.shape {N:Nat}{H:Array Obj}{aa:List QD}{v vt:Value}{c:Int}(h:Yu N H aa v vt c):∃(a:QD) (va vm ve:Value) (qs:List TV),v=.agg #[va,.int .i64 a.st,vm,ve]∧ZM [va,.int .i64 a.st,vm,ve]∧vt.oneCell'=true ∧
  (c=0→sync aa=some (a,qs.map (·.2))∧X9 aa=0∧∀L:LN,(∀b∈L,b<N)→Zm L H va vm ve a∧XQ L H vt qs):=by
 by_cases hc:c=0
 ·obtain⟨⟨va,vm,ve,h1,h2⟩,⟨qs,h3,h4⟩,h5,h6⟩:=h.good hc;have E:=h2 [] (by simp);exact⟨yI aa,va,vm,ve,qs,h1,⟨E.al.one,O,E.mr.one,E.ed.one,Z⟩,(h4 [] (by simp)).arr.one,λ_=>⟨by rw[h3];exact h5,h6,λL G=>⟨h2 L G,h4 L G⟩⟩⟩
 obtain⟨h1,h2⟩:=h.bad hc;exact⟨⟨[],0,[],[]⟩,Zg,Zg,Zg,[],h1,⟨O,O,O,O,Z⟩,by rw[h2];rfl,λe=>absurd e hc⟩
def plE (c:Q7):Int:=if Zi c≠0 then Zi c else XB (auts c.co)
theorem jU.shape {N:Nat}{H:Array Obj}{c:Q7}{v vt:Value}{e:Int}(h:jU N H c v vt e):e=plE c∧∃(a:QD) (va vm ve:Value) (qs:List TV),v=.agg #[va,.int .i64 a.st,vm,ve]∧ZM [va,.int .i64 a.st,vm,ve]∧vt.oneCell'=true ∧
  (e=0→Zi c=0∧sync (auts c.co)=some (a,qs.map (·.2))∧X9 (auts c.co)=0∧∀L:LN,(∀b∈L,b<N)→Zm L H va vm ve a∧XQ L H vt qs):=by
 unfold jU at h;unfold plE;by_cases hc:Zi c≠0
 ·rw[if_pos hc]at h ⊢;obtain⟨h1,h2,h3⟩:=h;exact⟨h1,⟨[],0,[],[]⟩,Zg,Zg,Zg,[],h2,⟨O,O,O,O,Z⟩,by rw[h3];rfl,λe=>absurd (h1.symm.trans e) hc⟩
 rw[if_neg hc]at h ⊢;obtain⟨a,va,vm,ve,qs,h1,h2,h3,h4⟩:=h.shape;exact⟨h.e,a,va,vm,ve,qs,h1,h2,h3,λe=>⟨Ln.1 hc,h4 e⟩⟩
theorem QkO (c:Q7):Xa c=if plE c≠0 then plE c else XB (auts c.co++auts c.rq):=by
 rw[QkP];unfold plE;by_cases h:Zi c≠0
 ·rw[if_pos h,if_pos h,if_pos h]
 rw[if_neg h,if_neg h]
theorem QmK {L:LN}{H:Array Obj}{ps:List AV}(h:∀p∈ps,Zm L H p.va p.vm p.ve p.a):∀u∈ps.flatMap Zc,u.oneCell'=true:=by
 intro u hu;obtain⟨p,hp,G⟩:=MO.1 hu;have E:=h p hp;simp only[List.mem_cons,List.not_mem_nil,or_false]at G;rcases G with rfl|rfl|rfl|rfl
 ·exact E.al.one
 ·rfl
 ·exact E.mr.one
 exact E.ed.one
theorem Qox {F:LN→Array Obj→Prop}(st:∀{L:LN}{w w':World},F L w.heap→Step L w w'→F L w'.heap)(up:∀{L L':LN}{H:Array Obj},F L H→(∀b∈L',b∈L∨H.size≤b)→F L' H){N b:Nat}{w w':World}
  (h:∀L:LN,(∀x∈L,x<N)→F L w.heap) (hb:b<N) (hs:Step [b] w w'):∀L:LN,(∀x∈L,x<N)→F L w'.heap:=λL E =>
 up (st (h (b::L) (λx hx=>by
  rcases Le.1 hx with rfl|hx
  ·exact hb
  exact E x hx)) (hs.mono (λx hx=>by simp only[List.mem_singleton]at hx;subst hx;exact Lm))) (λx hx=>.inl (Lk _ hx))
theorem U3.nil (n:Nat):U3 n [] []:=λu _ _=>by simp[mget]
set_option maxHeartbeats 8000000 in
theorem QjU {L:LN}{w:World}{c:CL}(h0:ZQ L w.heap c)(h3:Kb w 4096):
  QH prog 141 [c.val] w λr w'=>Step [] w w'∧∃vp,r=.tuple #[vp,.int .i64 (Xa c.cel)]∧(Xa c.cel≠0→vp=.pointer none) ∧
   (Xa c.cel=0→∃b q,vp=.pointer (some ⟨b,0,none⟩)∧q.c=c∧QqZ q∧K3 [] b w'.heap q∧∀L:LN,(∀x∈L,x<w.heap.size)→Zm L w'.heap q.s.va q.s.vm q.s.ve q.s.a∧(ZQ L w.heap c→K3 L b w'.heap q)):=by
 have h:=h0.up (L':=[]) (by simp);have hE:=QkO c.cel;refine Zj (Xa c.cel) λE gt=>?_;rw[gt]at hE ⊢;refine QH.of_W func141 O ntmps141 results141 (by simp) ?_;refine Qc<|xl O<|QR (us:=c.cells) O λb1 w1 gu mh h4=>x Qe<|Qf ?_;have mj:=h4.lt
 refine Qc<|x (Qo h4 O O)<|x (ZD [(0,c.cells)] ⟨O,O,Z⟩)<|xl O<|QR (us:=[c.ve,c.vc,c.vr,c.vx,c.vk,nS,.int .i64 0,nS,nS,nS,nS,.int .i64 0,nS,nS,nS,nS,nS,nS,.map none]) O λb10 w2 hO mo G=>Qf ?_;have h6:=gu.trans hO;have gv:=G.lt;have hQ:=h4.ext hO;have h2:=h.ext h6;have hge:w.heap.size≤b10:=by omega
 have mq:b1≠b10:=by omega
 refine Qc<|Qf<|Qg<|Qc<|Qb<|Qb<|x (Qo hQ O O)<|xl O<|xf<|(Qke h2 (h3.ext h6)).mono ?_;rintro r3 w3 ⟨hg,v3,vq,e3,rfl,hP⟩;obtain⟨h7,pa,pva,pvm,pve,qs,rfl,gx,gy,gz⟩:=hP.shape;have g0:=h6.trans hg;refine Qb<|x (Qj O O)<|x (Qj O O)<|x (Qj O O)<|x (QE O)<|x (Qa O)<|xl O<|Ve (us:=[pva,.int .i64 pa.st,pvm,pve]) (G.ext hg) O O O (by simp) gx rfl λw4 g1 G =>
  x (QE rfl)<|x (Qa O)<|xl O<|QF (j:=9) (u:=vq) G O O (by simp) gy λJ g2 G=>Qf ?_
 have hh:Step [b10] w3 J:=g1.trans' g2;have hi:Step [] w J:=g0.then1 hh hge;refine Qc<|Qb<|x (Q6 O O)<|xe<|Q3 rfl (λhj=>?_) (λhj=>?_)
 ·have g3:plE c.cel≠0:=by rw[←h7];exact hj
  rw[if_pos g3,←h7]at hE;subst hE;refine Qc<|Qb<|x Qe<|Qf ?_;exact Ql ⟨[_,_],⟨O,O,Z⟩,hi,.pointer none,O,λ_=>O,λe=>absurd e hj⟩
 have hS:e3=0:=Ln.1 hj;rw[if_neg (by rw[←h7,hS];decide)]at hE;obtain⟨hck,h8,ms,g4⟩:=gz hS;have Y:=Z9 hck;refine Qi ?_;have hA:=(hQ.ext hg).step hh (by simp;omega);have h5:=h.ext hi;have mt:=h.co.arr.le;have mu:=h.rq.arr.le;have mv:c.co.length≤8:=by have:=Y.c8;have e:c.cel.co.length=c.co.length:=Lh ..;omega
 have mw:c.co.length+c.rq.length≤12:=by have:=Y.cr;have e:c.cel.co.length=c.co.length:=Lh ..;have e':c.cel.rq.length=c.rq.length:=Lh ..;omega
 refine Qg<|Qg<|QU (Step [] J) [(0,true),(1,true),(2,true),(3,true),(5,true),(6,true),(4,false),(7,false),(8,false),(9,false),(10,true),(11,true),(12,true),(13,true),(14,true),(15,true),(16,false),(17,true),(18,true),(19,false),(20,true)] mixed (by rfl) (by kernel_rfl) (Step.drew _ _) ?_
 refine p (λ_=>Qk)<|p (λ_=>Qk)<|p (λ_=>Qa O)<|pq (λ_ hc=>Qd (hA.step hc (by simp)) rfl rfl)<|p (λ_=>Qa rfl) <|
  pq (λ_ hc=>Qd (hA.step hc (by simp)) rfl rfl)<|pk<|xf<|(QdM (h5.co.ext (Step.drew _ _))).mono ?_
 rintro r6 w6 ⟨hT,hU⟩;have hB:=(Step.drew [] J).trans hT;refine⟨hB,?_⟩;refine pk<|xf<|(QdM (h5.rq.ext hB)).mono ?_;rintro r7 w7 ⟨hC,g5⟩;have hV:=hB.trans hC;refine⟨hV,?_⟩;have my:=hT.size;have mz:=hC.size;have m0:({ J with drawn:=J.drawn+1 }:World).heap.size=J.heap.size:=rfl
 have g6:Zy [] w7.heap r7 (c.rq.map (·.p)).length 4 ((c.rq.map (·.p)).flatMap Zc):=QV g5 (by rw[Lh];omega) (by simp);have g7:=Qq hU;refine pk<|QdA (Qs hU hC) O g6 O (QmK λp hp=>by
   obtain⟨q,hq,rfl⟩:=Lq.1 hp;exact(h.rq.each q hq)) (by rw[Lh,Lh];omega) (by omega) λv8 w8 hW g8 m1=>?_
 have hn:Step [] J w8:=hV.then g8 (λb hb=>.inr (by have:=(g7 b hb).1;omega));refine⟨hn,?_⟩;have hD:=hi.trans hn;have m2:=hn.size;have g9:YX [] w8.heap v8 (c.co.map (·.p)++c.rq.map (·.p)):=by
  rw[←Lj,←LG]at hW;exact QiT hW (by rw[Lj,Lh,Lh];omega) (by simp) (λp hp=>by
   rcases Lo.1 hp with hp|hp
   ·obtain⟨q,hq,rfl⟩:=Lq.1 hp;exact(h.co.each q hq).ext hD
   obtain⟨q,hq,rfl⟩:=Lq.1 hp;exact(h.rq.each q hq).ext hD)
 have ka:∀p∈c.co.map (·.p)++c.rq.map (·.p),QO p.a:=λp hp=>by
   rcases Lo.1 hp with hp|hp
   ·obtain⟨q,hq,rfl⟩:=Lq.1 hp;exact Y.co q.it (LP hq)
   obtain⟨q,hq,rfl⟩:=Lq.1 hp;exact Y.rq q.it (LP hq)
 refine pk<|xf<|(Uw (km:=4096) g9 (h3.ext hD) (by decide) (qC ka)).mono ?_;rintro r9 w9 ⟨kb,v9,vt,e9,rfl,hR⟩;rw[Lx,QfS,QmL]at hR;have hX:=hR.e;obtain⟨sa,sva,svm,sve,ts,rfl,kc,ke,kf⟩:=hR.shape;have hF:=hn.trans kb;refine⟨hF,?_⟩;refine p (λ_=>Qk)<|p (λ_=>Qj O O)<|p (λ_=>Qj O O)<|p (λ_=>Qj O O)<|p (λ_=>QE O) <|
  p (λ_=>Qa O)<|pkl (hl:=by kernel_rfl)<|Ve (us:=[sva,.int .i64 sa.st,svm,sve]) (G.ext hF) O O O (by simp) kc rfl λm3 kg G=>p (λ_=>QE rfl)<|p (λ_=>Qa rfl) <|
  pkl (hl:=by kernel_rfl)<|QF (j:=14) (u:=vt) G O O (by simp) ke λho kh G=>p (λ_=>Qe)<|pe ?_
 have hY:Step [b10] w9 ho:=kg.trans' kh;have hr:Step [b10] J ho:=hF.any.trans' hY;have ht:Step [] w ho:=hi.then1 hr hge;refine Qc<|Qb<|x (Q6 O O)<|xe<|Q3 rfl (λhG=>?_) (λhG=>?_)
 ·rw[←hX]at hE;subst hE;refine Qc<|Qb<|x Qe<|Qf ?_;exact Ql ⟨[_,_],⟨O,O,Z⟩,ht,.pointer none,O,λ_=>O,λe=>absurd e hG⟩
 have hZ:e9=0:=Ln.1 hG;have ga:E=0:=by rw[hE,←hX,hZ]
 obtain⟨ki,m4,kj⟩:=kf hZ;refine Qi ?_;have kk:=hA.step hr (by simp;omega);refine Qc<|Qb<|Qb<|x (Qo kk O O)<|xl O<|xf<|(jN (h.ext ht)).mono ?_;rintro m5 U ⟨hf,vs,vx,vk,qx,ks,rfl,kn,ko,gb⟩;have hH:=gb [] (by simp)
 refine xl rfl<|Z6 Jh λbm kp gc m6 kq=>x (QE O)<|x (Qa O)<|xl O<|Ve (us:=[vs,vx,vk]) ((G.ext hf).ext gc) O O O (by simp) ⟨hH.1.one,hH.2.1.arr.one,hH.2.2.arr.one,Z⟩ rfl λm7 ge G =>
  x (QE rfl)<|x (Qa O)<|xl O<|QF (j:=18) (u:=.map (some bm)) G O O (by simp) rfl λhI gg G=>xe ?_
 have m8:=ht.size;have m9:=hf.size;have pc:=hr.size;have pd:=hh.size;have pf:=hg.size;have pg:b10<U.heap.size:=by omega
 have kr:bm≠b10:=by omega
 have gh:Step [b10] U hI:=(gc.any.trans' ge).trans' gg;have kt:Step [b10] kp hI:=ge.trans' gg;have ku:ZI Jh hI.heap bm []:=kq.step kt (by simpa using kr);have kv:Step [b10] w3 U:=(hh.trans' hr).trans hf;have kw:Step [b10] w9 U:=hY.trans hf;have kx:=ht.trans hf
 have fP:∀{w':World},Step [b10] U w'→∀L:LN,(∀x∈L,x<w2.heap.size)→Zm L w'.heap pva pvm pve pa∧XQ L w'.heap vq qs:=λhs =>
  Qox (F:=λL H=>Zm L H pva pvm pve pa∧XQ L H vq qs) (λh hs=>⟨h.1.st hs,h.2.st hs⟩) (λh I=>⟨h.1.up I,h.2.up I⟩) g4 gv (kv.trans' hs)
 have fS:∀{w':World},Step [b10] U w'→∀L:LN,(∀x∈L,x<w8.heap.size)→Zm L w'.heap sva svm sve sa∧XQ L w'.heap vt ts:=λhs =>
  Qox (F:=λL H=>Zm L H sva svm sve sa∧XQ L H vt ts) (λh hs=>⟨h.1.st hs,h.2.st hs⟩) (λh I=>⟨h.1.up I,h.2.up I⟩) kj (by omega) (kw.trans' hs)
 have fC:∀{w':World},Step [b10] U w'→∀L:LN,(∀x∈L,x<ho.heap.size)→QJ L w'.heap vs (szs c.cel.co)∧qL L w'.heap vx qx∧jV L w'.heap vk ks:=λhs =>
  Qox (F:=λL H=>QJ L H vs (szs c.cel.co)∧qL L H vx qx∧jV L H vk ks) (λh hs=>⟨h.1.st hs,h.2.1.st hs,h.2.2.st hs⟩) (λh I=>⟨h.1.up I,h.2.1.up I,h.2.2.up I⟩) gb (by omega) hs
 have gi:=(j5 (Xz Y.co) h8).1;have kz:=(YE (Xz Y.co) h8).1.nd;simp only[]at gi;have k0:(auts c.cel.co).length=c.co.length:=by unfold auts;show((c.co.map IV.it).map _).length=_;simp
 have gj:=(fP gh [] (by simp)).2;have ph:=gj.arr.le;refine Qg<|Qc<|Qb<|x (QE O)<|x (Qa O)<|x (Qd G O O)<|x (Qr gj.arr O)<|Qb<|xe ?_
 refine Qh<|Qz (α:=Nat×List (ByteArray×Value)) [(6,7),(61,73)] (λz=>[(61,.int .i64 z.1)]) (λz w'=>z.1≤qs.length∧Step [b10] U w'∧QT w'.heap b10 259 [c.ve,c.vc,c.vr,c.vx,c.vk,pva,.int .i64 pa.st,pvm,pve,vq,sva,.int .i64 sa.st,svm,sve,vt,vs,vx,vk,.map (some bm)]∧ZI Jh w'.heap bm z.2∧U3 c.co.length z.2 ((qs.take z.1).map (·.2))) (λz=>qs.length - z.1) (by rfl) (0,[]) La
  ⟨Ll _,gh,G,ku,U3.nil _⟩ ?_
 rintro⟨k,mm⟩ g hJ ⟨hk,V,hu,hv,hw⟩;simp only[]at hk hv hw;have hy:Step [] w hJ:=kx.then1 V hge;refine Qc<|x (QA O O)<|xe<|Qg<|QC O (λhK=>?_) (λhK=>?_)
 ·refine Qy ?_;have k4:qs.length≤k:=by have k5:¬(k:Int)<(qs.length:Int):=hK;omega
  rw[Lp k4]at hw;refine Qc<|Qb<|x Qe<|Qf ?_;have aP:=fP V [] (by simp);have aS:=fS V [] (by simp);have aC:=fC V [] (by simp)
  refine Ql ⟨[_,_],⟨O,O,Z⟩,hy,.pointer (some ⟨b10,0,none⟩),by rw[ga];rfl,λe=>absurd ga e,λ_=>⟨b10,⟨c,⟨pva,pvm,pve,pa⟩,vq,qs,⟨sva,svm,sve,sa⟩,vt,ts,vs,vx,vk,qx,ks,bm,mm⟩,O,O,⟨hck,h8,ki,kn,ko,hw⟩,⟨hu,by simp,h.ext hy,aP.1,aS.1,aP.2,aS.2,aC.1,aC.2.1,aC.2.2,by simp,hv⟩,λL I=>?_⟩⟩;have bP:=fP V L (λb hb=>by have:=I b hb;omega);have bS:=fS V L (λb hb=>by have:=I b hb;omega)
  have bC:=fC V L (λb hb=>by have:=I b hb;omega);exact⟨bS.1,λk6=>⟨hu,λhm=>by have:=I _ hm;omega,k6.ext hy,bP.1,bS.1,bP.2,bS.2,bC.1,bC.2.1,bC.2.2,λhm=>by have h9:bm<w.heap.size:=I bm hm;omega,hv⟩⟩
 have he:k<qs.length:=by have k5:(k:Int)<(qs.length:Int):=hK;omega
 have gk:=(fP V [] (by simp)).2;have hM:=Lc he;have hN:(qs.take (k+1)).map (·.2)=(qs.take k).map (·.2)++[(qs[k]'he).2]:=by rw[Li he,Lx];rfl
 have gl:(qs[k]'he).2∉(qs.take k).map (·.2):=by
  have h1:((qs.take (k+1)).map (·.2)).Nodup:=by
   rw[List.map_take];exact kz.sublist (List.take_sublist _ _)
  rw[hN]at h1;intro hm;exact(Mx.1 h1).2.2 _ hm _ (Lb.2 O) O
 have k7:((qs.take k).map (·.2)).length=k:=by rw[Lh,LC];omega
 refine Qi<|Qg<|Qh<|Qc<|Qb<|xig (g:=Z7) j0 gk.arr O O he λpj gm=>?_;refine Zj (qs[k]'he) λq hq=>?_;rw[hq]at gm hM hN gl;have k8:=gk.each q hM;have gn:=gi q.2 (LP hM);have gq:=gn.bd (m:=4096) (λa ha=>(Xz Y.co a ha).st1);have pn:q.2.length=c.co.length:=by rw[gn.1,k0]
 refine x (Qv gm O)<|x Qe<|Qf<|QU (Step [] hJ) [(0,true),(1,true),(2,true),(3,true),(4,true),(6,true),(5,false),(7,false)] mixed (by rfl) (by kernel_rfl) (Step.drew _ _) ?_;refine p (λ_=>Qk)<|p (λ_=>QE O)<|p (λ_=>Qa O)<|pq (λ_ hc=>Qd (hu.step hc (by simp)) rfl rfl) <|
  p (λ_=>Qk)<|p (λ_=>Qk)<|pk<|xf<|(QfL (k8.ext (Step.drew _ _)) ((h3.ext hy).ext (Step.drew _ _)) gq (by omega)).mono ?_
 rintro po pp ⟨rfl,k9⟩;have hz:=(Step.drew [] hJ).trans k9;refine⟨hz,?_⟩;refine pkl (hl:=by kernel_rfl)<|YR (k:=Vr q.2) (hv.ext hz) O O λma gr mc=>pe ?_;have mf:Step [b10] U ma:=(V.trans hz).then1 gr (by omega);have mg:=(hu.ext hz).step gr (by simp;omega);have gs:=hw.add gl (λx hx=>(gq x hx).1);rw[k7]at gs;refine Qw<|QP O O<|Qb<|xe ?_
 exact⟨(k+1,mput mm (Vr q.2) (.int .i64 (k:Int))),by simp only[];omega,La,he,mf,mg,mc,by simp only[];rw[hN];exact gs⟩
end Go.Proofs.YtjcgijbhaemldaaGreatDoor
