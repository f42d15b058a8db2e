/- Merged out of 42 texts. -/
import Derived.Test.YtdffckgdcegpaaaGreatDoorKrb
import Derived.Laws.IdiomStrings
import Derived.Shelf.SortM.Plain
import Derived.Shelf.SortM.SortNone
import Derived.Shelf.SlicesE.Compact
import Derived.Shelf.SlicesE.DeleteFunc
import Derived.Ground.SlgmProg
import Derived.Ground.SlgnProg
import Derived.Ground.SlgfProg
import Derived.ChangeSame
import Derived.Carry
import Derived.OpenShut
import Derived.RowKit
import Derived.ChangeSlices
import Derived.WideShapes
import Derived.ProofKit
import Derived.ChangeArms
import Derived.Lib.LaidTab
import Derived.Stop.LaidErr
import Derived.MakeChecks
namespace Go.Proofs.YtdffckgdcegpaaaGreatDoor
open Go.Proofs.Tryz
open Go.Lg
def ZM (base:Nat) (av:LN) (H:Array Obj) (v:Value) (n sz:Nat) (cs:LV):Prop:=∀L:LN,(∀b∈L,b<base∨b∈av)→Zq L H v n sz cs
theorem ZM.ext {base:Nat}{av:LN}{w w':World}{v:Value}{n sz:Nat}{cs:LV}(h:ZM base av w.heap v n sz cs) (hs:Step [] w w'):ZM base av w'.heap v n sz cs:=λL E=>(h L E).ext hs
theorem ZM.app {base:Nat}{av E:LN}{w w':World}{v:Value}{n sz:Nat}{cs:LV}(h:ZM base av w.heap v n sz cs) (hs:Step av w w') (G:∀b∈E,b∈av∨w.heap.size≤b):ZM base E w'.heap v n sz cs:=by
 intro L H;have h1:Zq (av++L.filter λb=>decide (b<base)) w.heap v n sz cs:=h _ (λb hb=>by
  rcases Li.1 hb with hb | hb
  ·exact .inr hb
  exact .inl (by simpa using (Mr.1 hb).2))
 refine h1.grow hs (λb hb=>Li.2 (.inl hb)) λb hb=>?_;rcases H b hb with h2 | h2
 ·exact .inl (Li.2 (.inr (Mr.2 ⟨hb,by simpa using h2⟩)))
 rcases G b h2 with h3 | h3
 ·exact .inl (Li.2 (.inl h3))
 exact .inr h3
theorem ZM.of_own {base N:Nat}{av:LN}{w:World}{v:Value}{e n sz:Nat}{cs:LV}(h:w.ownsRow N e sz v n cs) (E:n≤1099511627776) (hb:base≤N) (G:∀b∈av,b<N):ZM base av w.heap v n sz cs:=λL H =>
 QS h E λb hb I=>by
  have h1:=(Qn h b hb).1;rcases H b I with h2 | h2
  ·omega
  have:=G b h2;omega
structure ZV {α:Type}(g:α→LV) (sz T:Nat) (p:α→Value×Nat×Nat×LV) (base:Nat) (w:World) (v:Value) (l:List α):Prop where
 own:w.ownsRow base T sz v l.length (l.flatMap g)
 each:∀q∈l,ZM base (ob v) w.heap (p q).1 (p q).2.1 (p q).2.2.1 (p q).2.2.2
theorem ZV.nil {α:Type}{g:α→LV}{sz T:Nat}{p:α→Value×Nat×Nat×LV}{base:Nat}{w:World}:ZV g sz T p base w (nS) []:=⟨QM _ _ _ _,λq hq=>by cases hq⟩
theorem ZV.ext {α:Type}{g:α→LV}{sz T:Nat}{p:α→Value×Nat×Nat×LV}{base:Nat}{w w':World}{v:Value}{l:List α}(h:ZV g sz T p base w v l) (hs:Step [] w w'):ZV g sz T p base w' v l:=⟨Qq h.own hs,λq hq=>(h.each q hq).ext hs⟩
theorem ZV.app {α:Type}{g:α→LV}{sz T:Nat}{p:α→Value×Nat×Nat×LV}{base N e:Nat}{w E G:World}{v H:Value}{l:List α}{q:α}(h:ZV g sz T p base w v l) (hs:Step [] w E)
  (hq:E.ownsRow N e (p q).2.2.1 (p q).1 (p q).2.1 (p q).2.2.2) (S:(p q).2.1≤1099511627776) (hN:w.heap.size≤N) (hb:base≤w.heap.size)
  (V:G.ownsRow base T sz H (l.length+1) (l.flatMap g++g q)) (I:Step (ob v) E G) (J:∀b∈ob H,b∈ob v∨E.heap.size≤b):ZV g sz T p base G H (l++[q]):=by
 have Y:=QO h.own;refine ⟨?_,λd hd=>?_⟩
 ·rw[Lk,LA];simpa using V
 rcases Li.1 hd with hd | hd
 ·exact ((h.each d hd).ext hs).app I J
 simp only[List.mem_singleton] at hd;subst hd;exact (ZM.of_own hq S (by omega) (λb hb=>by have:=Y b hb;omega)).app I J
theorem Qe9 {L L':LN}{w:World}{va vm ve hb hc he:Value}{a b:QP}(h:Zu L w.heap va vm ve a) (h':Zu L' w.heap hb hc he b) :
  QI prog 25 [.agg #[va,.int .i64 a.st,vm,ve],.agg #[hb,.int .i64 b.st,hc,he]] w λr w'=>r=.bool (decide (a.st=b.st∧a.al=b.al∧a.mr=b.mr∧a.ed=b.ed))∧Step [] w w':=by
 refine QI.of_W func25 O ntmps25 results25 (by simp) ?_;refine Qc<|xl O<|QQ (us:=[va,.int .i64 a.st,vm,ve]) O λb2 w1 hi hm hj=>xl O<|QQ (us:=[hb,.int .i64 b.st,hc,he]) O λb3 w2 hf E H=>Qe ?_;have I:=hi.trans hf;have J:=hj.ext hf;refine Q0 (α:=Bool) [(4,30)] (λz=>[(4,.bool z)]) (λz w'=>Step [] w w'∧z=decide (a.st=b.st∧a.al=b.al∧a.mr=b.mr∧a.ed=b.ed)) (by rfl) ?_ ?_
 ·refine Qz<|x (Qa O)<|x (Qd J O O)<|x (Qa O)<|x (Qd H O O)<|xb (Q5 O O) (λh9=>?_) (λh9=>?_)
  ·refine Qb<|x (Qa O)<|x (Qd J O O)<|x (Qa O)<|x (Qd H O O)<|xl O<|xf<|(JK (h.al.ext I) (h'.al.ext I)).mono ?_;rintro r3 w3 ⟨S,T⟩;have V:=I.trans T;refine Qes (decide (a.al=b.al)) (λE=>?_) (λE=>?_)
   ·rw[E] at S;subst S;refine x (Qj O)<|Qb<|x (Qa O)<|x (Qd (J.ext T) O O)<|x (Qa O)<|x (Qd (H.ext T) O O)<|xl O<|xf<|(JK (h.mr.ext V) (h'.mr.ext V)).mono ?_;rintro r4 w4 ⟨Y,hg⟩;have ha:=V.trans hg;have hh:=T.trans hg;refine Qes (decide (a.mr=b.mr)) (λG=>?_) (λG=>?_)
    ·rw[G] at Y;subst Y;refine x (Qj O)<|Qb<|x (Qa O)<|x (Qd (J.ext hh) O O)<|x (Qa O)<|x (Qd (H.ext hh) O O)<|xl O<|xf<|(Qca (h.ed.ext ha) (h'.ed.ext ha)).mono ?_;rintro r5 w5 ⟨rfl,hk⟩;refine x (Qj O)<|Qe ?_;exact ⟨_,Z,ha.trans hk,bD ⟨λe=>⟨h9,of_decide_eq_true E,of_decide_eq_true G,e⟩,λe=>e.2.2.2⟩⟩
    rw[G] at Y;subst Y;refine x (Qj O)<|Qb<|xs O<|xs O<|xs O<|xs O<|xs O<|x (Qj O)<|Qe ?_;exact ⟨_,Z,ha,bF (λe=>of_decide_eq_false G e.2.2.1)⟩
   rw[E] at S;subst S;refine x (Qj O)<|Qb<|xs O<|xs O<|xs O<|xs O<|xs O<|x (Qj O)<|Qb<|xs O<|xs O<|xs O<|xs O<|xs O<|x (Qj O) <|
    Qe ?_
   exact ⟨_,Z,V,bF (λe=>of_decide_eq_false E e.2.1)⟩
  refine Qb<|xs O<|xs O<|xs O<|xs O<|xs O<|x (Qj O)<|Qb<|xs O<|xs O<|xs O<|xs O<|xs O<|x (Qj O) <|
   Qb<|xs rfl<|xs O<|xs O<|xs O<|xs O<|x (Qj O)<|Qe ?_
  exact ⟨_,Z,I,bF (λe=>h9 e.1)⟩
 rintro z g w6 ⟨hl,rfl⟩;exact Qm ⟨[_],Z,O,hl⟩
theorem Qe5 {L:LN}{w:World}{va vm ve:Value}{a:QP}(h:Zu L w.heap va vm ve a) :
  QI prog 163 [.agg #[va,.int .i64 a.st,vm,ve]] w λr w'=>r=.bool (Vu a)∧Step [] w w':=by
 refine QI.of_W func163 O ntmps163 results163 (by simp) ?_;refine Qc<|xl O<|QQ (us:=[va,.int .i64 a.st,vm,ve]) O λb1 E ha hf G=>Qe<|Q0 (α:=Bool) [(2,11)] (λz=>[(2,.bool z)]) (λz w'=>Step [] w w'∧z=Vu a) (by rfl) ?_ ?_
 ·refine QW (Step [] E) [(0,true),(1,false),(2,true),(3,true),(4,true),(5,true),(6,false),(7,false),(8,true),(9,true)] mixed (by rfl) (by kernel_rfl) (Step.drew _ _) ?_;have S:=ha.trans (Step.drew [] E);refine pq (λ_ hc=>Qr (G.step hc (by simp)) rfl rfl)<|pk<|xf<|(Xb (h.ext S)).mono ?_;rintro r2 w2 ⟨rfl,T⟩;have H:=S.trans T;have I:=(Step.drew [] E).trans T
  refine ⟨I,?_⟩;refine pb (λ_=>Q5 O O) (λh5=>?_) (λh5=>?_)
  ·have hc:X2 a=0:=h5;refine p (λ_=>Qo)<|pq (λ_ hc=>Qr (G.step hc (by simp)) rfl rfl)<|pq (λ_ hc=>Qr (G.step hc (by simp)) rfl rfl) <|
    pk<|xf<|(X3 (h.ext H) ((ZS a).1 hc)).mono ?_
   rintro r3 w3 ⟨J,hg,hh,hi,rfl,hb⟩;have V:=H.trans J;refine ⟨I.trans J,?_⟩;refine pk<|xf<|(Qe9 (h.ext V) (hb [] (by simp))).mono ?_;rintro r4 w4 ⟨rfl,Y⟩;refine ⟨(I.trans J).trans Y,?_⟩;refine p (λ_=>Qj O)<|p (λ_=>Qf)<|pe ?_;refine ⟨_,Z,V.trans Y,?_⟩;unfold Vu;rw[decide_eq_true hc,Bool.true_and]
   exact bD ⟨λe=>⟨e.1.symm,e.2.1.symm,e.2.2.1.symm,e.2.2.2.symm⟩,λe=>⟨e.1.symm,e.2.1.symm,e.2.2.1.symm,e.2.2.2.symm⟩⟩
  have hc:¬X2 a=0:=h5;refine p (λ_=>Qo)<|ps<|ps<|ps<|ps<|p (λ_=>Qj O)<|p (λ_=>Qf)<|pe ?_;exact ⟨_,Z,H,by unfold Vu;rw[decide_eq_false hc];rfl⟩
 rintro z g w5 ⟨he,rfl⟩;exact Qm ⟨[_],Z,O,he⟩
section
variable {P:Program} {f:Fr} {w:World} {d:Option Nat} {ty:Nat} {ps:String} {af:Array Edge} {gd:Option (Nat×Bool)}
theorem Yp {t sz:Nat}[Ag P t sz] {x:Operand}{b T o:Nat}{cs us:LV}(h:Q4 w.heap b T cs) (hx:ev f x=.pointer (some ⟨b,o,none⟩)) (hl:us.length=sz) (hu:(cs.drop o).take sz=us) :
  (execOp (ev f) ⟨d,.load t x,ty,ps,af,gd⟩).run P w=.ok (.value (.agg us.toArray)) w:=q5 hx hl λj v E=>by
 rw[Uc,JM,h.cell];rw[←hu,LK] at E;split at E
 ·simpa using E
 cases E
end
theorem jP {L:LN}{w:World}{v:Value}{qs:List IV}(h:YW L w.heap v qs) :
  QI prog 75 [v] w λr w'=>Step [] w w'∧w'.ownsRow w.heap.size 58 4 r (qs.map (·.p)).length ((qs.map (·.p)).flatMap Zc):=by
 have ho:=h.arr.le;refine QI.of_W func75 O ntmps75 results75 (by simp) ?_;refine Qc<|Qe<|Qc<|Qe<|Qg<|Qc<|Qb<|x (Qs h.arr O)<|Qb<|xe<|Qh<|QA (α:=Nat×Value) [(3,3),(5,5),(8,17)] (λz=>[(3,z.2),(8,.int .i64 z.1)]) (λz w'=>z.1≤qs.length∧Step [] w w'∧w'.ownsRow w.heap.size 58 4 z.2 z.1 (((qs.take z.1).map (·.p)).flatMap Zc)) (λz=>qs.length - z.1) (by rfl) (0,nS) ⟨O,O,U⟩
  ⟨Lj _,Step.refl _ _,QM _ _ _ _⟩ ?_
 rintro ⟨k,vo⟩ g w1 ⟨hk,H,I⟩;simp only[] at hk I;refine Qc<|x (QB O O)<|xe<|Qg<|QH O (λh9=>?_) (λh9=>?_)
 ·refine Qy ?_;have hc:k=qs.length:=by have J:¬(k:Int)<(qs.length:Int):=h9;omega
  subst hc;rw[Ll (Lr _)] at I;refine Qc<|Qb<|Qe ?_;exact Qm ⟨[_],Z,H,by rw[Lh];exact I⟩
 have E:k<qs.length:=by have J:(k:Int)<(qs.length:Int):=h9;omega
 have V:=Lc E;have Y:qs.take (k+1)=qs.take k++[qs[k]'E]:=Le E;refine Qi<|Qg<|Qh<|Qc<|xig Yz (h.arr.ext H) O O E λhp J=>?_;refine Zh (qs[k]'E) λq hq=>?_;rw[hq] at J V Y;have G:=h.each q V
 refine x (QF J O O)<|xl O<|Qt (us:=[.string .empty,nS,.int .i64 0,nS,nS]) O λb5 w2 he hf S=>xl O<|Qp (us:=Za q) S O O O O ⟨O,G.al.one,O,G.mr.one,G.ed.one,U⟩ λw3 hg S =>
  xe ?_
 have hh:Step [] w1 w3:=he.then1 hg hf;refine Qz<|Qb<|x (Qa O)<|x (Yp (us:=Zc q.p) S O O O)<|xl O<|QD (us:=[Zc q.p]) O O (by decide) (by simp) ⟨rfl,rfl,U⟩ λhr w4 hi hs hj=>?_;have T:=hh.trans hi;have ha:=Qq I T;have ht:=(H.trans T).size;have hl:∀u∈Zc q.p,u.oneCell'=true:=by
  intro u hu;simp only[List.mem_cons,List.not_mem_nil,or_false] at hu;rcases hu with rfl | rfl | rfl | rfl
  ·exact G.al.one
  ·rfl
  ·exact G.mr.one
  exact G.ed.one
 refine xl rfl<|Q6 (news:=Zc q.p) (L:=[]) ha O O O (hj.at (by simp)) hl (by omega) (by omega) λv5 w5 hm hn hv=>Qe ?_;have hge:=Qn ha;refine Qz<|QN O O<|Qb<|xe<|⟨(k+1,v5),by simp only[];omega,⟨O,O,U⟩,E,(H.trans T).then hn (λb hb=>.inr (hge b hb).1),?_⟩;simp only[];rw[Y,Lt,LA];simpa using hm
theorem Qd1 {L:LN}{w:World}{r:Value}{base e:Nat}{ps:List AV}(h:w.ownsRow base e 4 r ps.length (ps.flatMap Zc)) (E:ps.length≤1099511627776) (G:∀b∈L,b<base) (he:∀p∈ps,Zu L w.heap p.va p.vm p.ve p.a):Xg L w.heap r ps :=
 ⟨QS h E (λb hb H=>by have:=(Qn h b hb).1;have:=G b H;omega),he⟩
theorem Qd0 {w:World}{b:Nat}{n m:Int}(E:Q4 w.heap b 3 [.int .i64 m]) :
  QI prog 164 ([.int .i64 n]++[.pointer (some ⟨b,0,none⟩)]) w λr w'=>r=.bool (decide (m≤n))∧Step [] w w':=by
 refine QI.of_W func164 O ntmps164 results164 (by simp) ?_;refine Qc<|Qe<|Qc<|Qb<|x (Qd E O O)<|x (ZX O O)<|Qe ?_;exact Qm ⟨[_],Z,O,Step.refl _ _⟩
abbrev KI (n:Int):LV:=[.int .i64 n]
theorem Qh9 (n:Int):(KI n).length=1:=rfl
theorem Qhm:∀l:LI,l.flatMap KI=l.map (.int .i64)
 | []=>rfl
 | a::l=>by rw[LB,Qhm l];rfl
theorem QK.fl {L:LN}{H:Array Obj}{v:Value}{l:LI}(h:QK L H v l):Zq L H v l.length 1 (l.flatMap KI):=by
 rw[Qhm l];exact h
theorem Qh7 {gp:Nat}{fn:Func}[Fu prog gp fn] {cap:LV}{q:Int→Bool}{L:LN}{w:World}{v:Value}{l:LI}(h:Zq L w.heap v l.length 1 (l.flatMap KI))
  (hk:∀e∈l,∀(G:World),Step [] w G→QI prog gp ([.int .i64 e]++cap) G λr w'=>r=.bool (q e)∧Step [] G w') :
  QI prog 131 [v,.func (.func gp) #[] cap.toArray] w λr w'=>r=.int .i64 (fix q 0 l)∧Step [] w w':=by
 have hb:=h.le;refine QI.of_W func131 O ntmps131 results131 (by simp) ?_;refine Qc<|Qe<|Qg<|Qc<|Qb<|x (Qs h O)<|Qb<|xe<|Qh<|QA (α:=Nat) [(4,5),(8,18)] (λz=>[(8,.int .i64 z)]) (λz w'=>z≤l.length∧Step [] w w'∧fix q z (l.drop z)=fix q 0 l) (λz=>l.length - z) (by rfl) 0 Z
  ⟨Lj _,Step.refl _ _,O⟩ ?_
 rintro k g G ⟨hc,H,E⟩;refine Qc<|x (QB O O)<|xe<|Qg<|QH O (λh9=>?_) (λh9=>?_)
 ·refine Qy ?_;have Y:l.length≤k:=by have ha:¬(k:Int)<(l.length:Int):=h9;omega
  rw[Lp Y] at E;refine Qc<|Qe ?_;exact Qm ⟨[_],Z,by rw[←E];rfl,H⟩
 have I:k<l.length:=by have ha:(k:Int)<(l.length:Int):=h9;omega
 rw[QZ I,ZY] at E;have S:=Lc I;refine Qi<|Qg<|Qh<|Qc<|Qb<|Qe<|Qc<|Qb<|Qb<|Qb<|xig Qh9 (h.ext H) O O I λhf T=>?_;refine Zh (l[k]'I) λe he=>?_;rw[he] at T E S;refine x (Qv T O)<|xl O<|xc (first:=[]) (capt:=cap) O<|(hk e S G H).mono ?_;rintro r2 w2 ⟨rfl,V⟩;refine xe<|Q2 rfl (λJ=>?_) (λJ=>?_)
 ·rw[if_pos J] at E;refine Qc<|Qb<|Qe ?_;exact Qm ⟨[_],Z,by rw[←E];rfl,H.trans V⟩
 rw[if_neg (by rw[J];decide)] at E;refine Qi<|Qz<|QN O O<|Qb<|xe ?_;exact ⟨k+1,by omega,Z,I,H.trans V,E⟩
theorem Qiz {gp:Nat}{fn:Func}[Fu prog gp fn] {cap:LV}{q:Int→Bool}{L:LN}{w:World}{v:Value}{l:LI}(h:Zq L w.heap v l.length 1 (l.flatMap KI))
  (hk:∀e∈l,∀(E:World),Step [] w E→QI prog gp ([.int .i64 e]++cap) E λr w'=>r=.bool (q e)∧Step [] E w') :
  QI prog 135 [v,.func (.func gp) #[] cap.toArray] w λr w'=>r=.bool (l.any q)∧Step [] w w':=by
 refine QI.of_W func135 O ntmps135 results135 (by simp) ?_;refine Qc<|Qe<|Qc<|Qb<|Qb<|xl O<|xf<|(Qh7 h hk).mono ?_;rintro H E ⟨rfl,G⟩;refine x (ZX O O)<|Qe ?_;exact Qm ⟨[_],Z,congrArg Value.bool (zz q l 0),G⟩
theorem QaU {L L':LN}{w:World}{q:IV}{nev:Nat}{vg:Value}{amg:LI}{bm:Nat}{seen:List ByteArray}(hA:Zu L w.heap q.p.va q.p.vm q.p.ve q.p.a) (h1:K7 q.nm) (hg:QK L' w.heap vg amg) (hE:amg.length≤4096) (hm:Z0 Y7 w.heap bm (nmM seen)) (h2:bm∈L) (h3:bm∈L') :
  QI prog 95 [.agg (Za q).toArray,.int .i64 nev,vg,.map (some bm)] w λr w'=>r=.int .i64 (Z6 nev amg seen q.it)∧Step [bm] w w'∧(Z6 nev amg seen q.it=0→Z0 Y7 w'.heap bm (nmM (seen++[q.nm]))):=by
 have E:Z6 nev amg seen q.it=(if J5 q.nm=false then 7 else if q.nm∈seen then 8 else if X2 q.p.a≠0 then X2 q.p.a else if Vu q.p.a=false then 6 else if q.p.a.st=0 then 12 else
  if (q.p.a.al.any λe=>decide ((nev:Int)≤e))=true then 2 else if (mns q.p.a.al amg).length≠0 then 9 else 0):=rfl
 refine Zh (Z6 nev amg seen q.it) λR hR=>?_;rw[hR] at E ⊢;refine QI.of_W func95 O ntmps95 results95 (by simp) ?_;refine Qc<|xl O<|QQ (us:=Za q) O λb4 w1 ht hF h4=>xl O<|QQ (us:=[.int .i64 nev]) O λb5 w2 T hG h5=>Qe ?_;have V:=ht.trans T;have Y:=h4.ext T;refine Qg<|Qh<|Qc<|x (Qa O)<|x (Qd Y O O)<|xl O<|xf<|(Vq q.nm h1 w2).mono ?_;rintro r3 w3 ⟨rfl,rfl⟩
 refine x (Zs O)<|Qe<|Q2 O (λhi=>?_) (λhi=>?_)
 ·have G:J5 q.nm=false:=by simpa using hi
  rw[if_pos G] at E;subst E;refine Qc<|Qe ?_;exact Qm ⟨[_],Z,O,V.any,λe=>absurd e (by decide)⟩
 have G:¬J5 q.nm=false:=by simpa using hi
 rw[if_neg G] at E;have hu:=hm.ext V;refine Qc<|Qb<|x (Qa O)<|x (Qd Y O O)<|x (yd hu O O)<|Qe<|Q7 O (λha=>?_) (λha=>?_)
 ·rw[if_pos ha] at E;subst E;refine Qc<|Qe ?_;exact Qm ⟨[_],Z,O,V.any,λe=>absurd e (by decide)⟩
 rw[if_neg ha] at E;refine Qi ?_;have hH:=hm.lt;refine Qc<|Qb<|x (Qa O)<|x (Qd Y O O)<|xl O<|Y3 (k:=q.nm) hu O O λw4 hj hv=>xe ?_;rw[show ev _ _=Value.bool true from rfl,QaG ha] at hv;have H:Step [bm] w w4:=V.any.trans' hj;have hI:=ht.size;have hc:=Y.step hj (by simp;omega);have h6:=h5.step hj (by simp;omega)
 have hf:Zu L w4.heap q.p.va q.p.vm q.p.ve q.p.a:=hA.st (H.mono (λb hb=>by simp at hb;subst hb;exact h2));have h7:QK L' w4.heap vg amg:=hg.st (H.mono (λb hb=>by simp at hb;subst hb;exact h3));refine Qg<|Qc<|x (Qa O)<|x (Yp (us:=Zc q.p) hc O O O)<|xl O<|xf<|(Xb hf).mono ?_;rintro r5 w5 ⟨rfl,hh⟩;refine Qe<|Qc<|Qb<|x (Q9 O O)<|xe<|Q7 rfl (λI=>?_) (λI=>?_)
 ·rw[if_pos I] at E;subst E;refine Qc<|Qb<|Qe ?_;exact Qm ⟨[_],Z,O,H.trans hh,λe=>absurd e I⟩
 rw[if_neg I] at E;have h8:=(ZS q.p.a).1 (Lq.1 I);refine Qi<|Qg<|Qh<|Qc<|x (Qa O)<|x (Yp (us:=Zc q.p) (hc.ext hh) O O O)<|xl O<|xf<|(Qe5 (hf.ext hh)).mono ?_;rintro r6 w6 ⟨rfl,h9⟩;have J:=hh.trans h9;have hw:=H.trans J;have hy:=hc.ext J;refine x (Zs O)<|Qe<|Q2 O (λhk=>?_) (λhk=>?_)
 ·have G:Vu q.p.a=false:=by simpa using hk
  rw[if_pos G] at E;subst E;refine Qc<|Qe ?_;exact Qm ⟨[_],Z,O,hw,λe=>absurd e (by decide)⟩
 have G:¬Vu q.p.a=false:=by simpa using hk
 rw[if_neg G] at E;refine Qc<|x (Qa O)<|x (Qa O)<|x (Qd hy O O)<|x (Q5 O O)<|Qe<|Q7 O (λhl=>?_) (λhl=>?_)
 ·have ho:q.p.a.st=0:=hl;rw[if_pos ho] at E;subst E;refine Qc<|Qe ?_;exact Qm ⟨[_],Z,O,hw,λe=>absurd e (by decide)⟩
 have ho:¬q.p.a.st=0:=hl;rw[if_neg ho] at E;refine Qc<|x (Qa O)<|x (Qa O)<|x (Qd hy O O)<|x Zp<|xl O<|xf<|(Qiz (q:=λe=>decide ((nev:Int)≤e)) (cap:=[.pointer (some ⟨b5,0,none⟩)]) (QK.fl (hf.al.ext J)) (λe he w2 T=>Qd0 ((h6.ext J).ext T))).mono ?_;rintro r7 w7 ⟨rfl,hB⟩;have S:=J.trans hB;have hC:=H.trans S;refine Qe<|Q2 O (λhp=>?_) (λhp=>?_)
 ·rw[if_pos hp] at E;subst E;refine Qc<|Qe ?_;exact Qm ⟨[_],Z,O,hC,λe=>absurd e (by decide)⟩
 rw[if_neg (by rw[hp];decide)] at E;have hJ:=h8.al_le;refine Qc<|x (Qa O)<|x (Qa O)<|x (Qd (hc.ext S) O O)<|Qb<|xl O<|xf<|(Qco (hf.al.ext S) (h7.ext S) (by omega)).mono ?_;rintro r8 w8 ⟨hD,rfl⟩;have hz:=S.trans hD;have h0:=H.trans hz;refine x (V4 O)<|Qe<|Q7 O (λhq=>?_) (λhq=>?_)
 ·have hs:(mns q.p.a.al amg).length≠0:=λe=>hq (Ln e);rw[if_pos hs] at E;subst E;refine Qc<|Qe ?_;exact Qm ⟨[_],Z,O,h0,λe=>absurd e (by decide)⟩
 have hs:¬(mns q.p.a.al amg).length≠0:=λe=>hq (λh=>e (by rw[show mns q.p.a.al amg=[] from h];rfl));rw[if_neg hs] at E;subst E;refine Qi<|Qc<|Qe ?_;exact Qm ⟨[_],Z,O,h0,λ_=>hv.ext hz⟩
theorem Qcf {L:LN}{w:World}{v:Value}{l:List (Int×Int)}(h:P2s L w.heap v l) :
  QI prog 173 [v] w λr w'=>Step [] w w'∧w'.ownsRow w.heap.size 124 2 r l.length (l.flatMap QX):=by
 have ha:=h.le;refine QI.of_W func173 O ntmps173 results173 (by simp) ?_;refine Qc<|Qe ?_;obtain ⟨ao,cap,E⟩:=h.shape;refine Qg<|Qc<|Qb<|x (Ky (show ev _ _=_ from E) O)<|xe<|Q2 rfl (λG=>?_) (λG=>?_)
 ·refine Qc<|Qe<|Qm ⟨[nS],Z,Step.refl _ _,?_⟩;rcases h.2.2 with ⟨h1,h2⟩ | ⟨a,c,h1,_⟩
  ·have:l=[]:=Ln h2;subst this;exact QM _ _ _ _
  rw[h1] at E;cases E;cases G
 rcases h.2.2 with ⟨h1,h2⟩ | ⟨a,c,h1,h2,h3⟩
 ·rw[h1] at E;injection E with e1;subst e1;cases G
 refine Qi<|Qc ?_;have S:∀u∈l.flatMap QX,u.oneCell'=true:=by
  intro u hu;obtain ⟨p,_,hp⟩:=Mj.1 hu;simp only[List.mem_cons,List.not_mem_nil,or_false] at hp;rcases hp with rfl | rfl <;> rfl
 refine xl rfl<|J2 λb5 w1 H I J=>Qb<|xl O<|Q6 (base:=w.heap.size) (J.own (n:=0) (sz:=2) O (by omega) I) O (show ev _ _=_ from h1) h.1 (h3.ext H) S (by omega) (by have:=J.lt;omega) λT w2 V Y hb=>Qe<|Qm ⟨[T],Z,H.then1 Y I,?_⟩;simpa[tup] using V
theorem Qce {L:LN}{w:World}{v:Value}{l:List (Int×Int)}(h:P2s L w.heap v l) :
  QI prog 174 [v] w λr w'=>Step [] w w'∧w'.ownsRow w.heap.size 129 2 r l.length (l.flatMap QX):=by
 have ha:=h.le;refine QI.of_W func174 O ntmps174 results174 (by simp) ?_;refine Qc<|Qe ?_;obtain ⟨ao,cap,E⟩:=h.shape;refine Qg<|Qc<|Qb<|x (Ky (show ev _ _=_ from E) O)<|xe<|Q2 rfl (λG=>?_) (λG=>?_)
 ·refine Qc<|Qe<|Qm ⟨[nS],Z,Step.refl _ _,?_⟩;rcases h.2.2 with ⟨h1,h2⟩ | ⟨a,c,h1,_⟩
  ·have:l=[]:=Ln h2;subst this;exact QM _ _ _ _
  rw[h1] at E;cases E;cases G
 rcases h.2.2 with ⟨h1,h2⟩ | ⟨a,c,h1,h2,h3⟩
 ·rw[h1] at E;injection E with e1;subst e1;cases G
 refine Qi<|Qc ?_;have S:∀u∈l.flatMap QX,u.oneCell'=true:=by
  intro u hu;obtain ⟨p,_,hp⟩:=Mj.1 hu;simp only[List.mem_cons,List.not_mem_nil,or_false] at hp;rcases hp with rfl | rfl <;> rfl
 refine xl rfl<|J2 λb5 w1 H I J=>Qb<|xl O<|Q6 (base:=w.heap.size) (J.own (n:=0) (sz:=2) O (by omega) I) O (show ev _ _=_ from h1) h.1 (h3.ext H) S (by omega) (by have:=J.lt;omega) λT w2 V Y hb=>Qe<|Qm ⟨[T],Z,H.then1 Y I,?_⟩;simpa[tup] using V
theorem ZM.low {base:Nat}{av X:LN}{w w':World}{v:Value}{n sz:Nat}{cs:LV}(h:ZM base av w.heap v n sz cs) (hs:Step X w w') (E:∀b∈X,b<base):ZM base av w'.heap v n sz cs:=by
 intro L G;have h1:Zq (X++L) w.heap v n sz cs:=h _ (λb hb=>by
  rcases Li.1 hb with hb | hb
  ·exact .inl (E b hb)
  exact G b hb)
 exact (h1.step hs (λb hb=>Li.2 (.inl hb))).up (λb hb=>.inl (Li.2 (.inr hb)))
theorem ZV.low {α:Type}{g:α→LV}{sz T:Nat}{p:α→Value×Nat×Nat×LV}{base:Nat}{X:LN}{w w':World}{v:Value}{l:List α}(h:ZV g sz T p base w v l) (hs:Step X w w') (E:∀b∈X,b<base):ZV g sz T p base w' v l :=
 ⟨Qk h.own hs (λb hb hm=>by have:=(Qn h.own b hb).1;have:=E b hm;omega),λq hq=>(h.each q hq).low hs E⟩
theorem ZV.arr {α:Type}{g:α→LV}{sz T:Nat}{p:α→Value×Nat×Nat×LV}{base:Nat}{w:World}{v:Value}{l:List α}{L:LN}(h:ZV g sz T p base w v l) (E:l.length≤1099511627776) (G:∀b∈L,b<base):Zq L w.heap v l.length sz (l.flatMap g) :=
 QS h.own E (λb hb H=>by have:=(Qn h.own b hb).1;have:=G b H;omega)
abbrev xvP (q:XV):Value×Nat×Nat×LV:=(q.v,q.ls.length,2,q.ls.flatMap QX)
abbrev kvP (q:KV):Value×Nat×Nat×LV:=(q.v,q.ts.length,2,q.ts.flatMap QX)
abbrev XvN (base:Nat) (w:World) (v:Value) (l:List XV):Prop:=ZV Zr 2 122 xvP base w v l
abbrev KvN (base:Nat) (w:World) (v:Value) (l:List KV):Prop:=ZV Zm 3 127 kvP base w v l
theorem XvN.xcs {base:Nat}{w:World}{v:Value}{l:List XV}{qs:List XV}{L:LN}(h:XvN base w v l) (he:l.map (·.x)=qs.map (·.x)) (hq:∀q∈qs,K7 q.nm) (G:l.length≤1099511627776) (E:∀b∈L,b<base):UM L w.heap v l:=by
 refine ⟨h.arr G E,λq hq=>h.each q hq L (λb hb=>.inl (E b hb)),λq hm=>?_⟩;have h1:q.x∈qs.map (·.x):=by rw[←he];exact LG hm
 obtain ⟨q',H,e⟩:=Ly.1 h1;have h2:=hq q' H;have h3:q'.nm=q.nm:=congrArg ji.nm e;rw[h3] at h2;exact h2
theorem KvN.kcs {base:Nat}{w:World}{v:Value}{l:List KV}{qs:List KV}{L:LN}(h:KvN base w v l) (he:l.map (·.k)=qs.map (·.k)) (hq:∀q∈qs,K7 q.nm) (G:l.length≤1099511627776) (E:∀b∈L,b<base):UY L w.heap v l:=by
 refine ⟨h.arr G E,λq hq=>h.each q hq L (λb hb=>.inl (E b hb)),λq hm=>?_⟩;have h1:q.k∈qs.map (·.k):=by rw[←he];exact LG hm
 obtain ⟨q',H,e⟩:=Ly.1 h1;have h2:=hq q' H;have h3:q'.nm=q.nm:=congrArg Xf.nm e;rw[h3] at h2;exact h2
theorem QJ {w:World}{base e sz n:Nat}{v:Value}{cs:LV}(h:w.ownsRow base e sz v n cs):v.oneCell'=true:=by
 rcases h.2 with ⟨h1,_⟩ | ⟨g,cap,cur,h1,_⟩ <;> subst h1 <;> rfl
theorem QY {w:World}{base e sz n:Nat}{v:Value}{cs:LV}(h:w.ownsRow base e sz v n cs):v.cells=[v].toArray:=by
 rcases h.2 with ⟨h1,_⟩ | ⟨g,cap,cur,h1,_⟩ <;> subst h1 <;> rfl
theorem Qaj {q:XV}(h:q.v.oneCell'=true):∀u∈Zr q,u.oneCell'=true:=by
 intro u hu;simp only[List.mem_cons,List.not_mem_nil,or_false] at hu;rcases hu with rfl | rfl
 ·rfl
 exact h
theorem QaR {q:KV}(h:q.v.oneCell'=true):∀u∈Zm q,u.oneCell'=true:=by
 intro u hu;simp only[List.mem_cons,List.not_mem_nil,or_false] at hu;rcases hu with rfl | rfl | rfl
 ·rfl
 ·exact h
 rfl
def Qkr (N:Nat) (w:World) (r:Value) (sz:LI) (ex:List ji) (cs:List Xf):Prop:=∃vs vx vk qx ks,r=.agg #[vs,vx,vk]∧qx.map (·.x)=ex∧ks.map (·.k)=cs∧∀L:LN,(∀b∈L,b<N)→QK L w.heap vs sz∧UM L w.heap vx qx∧UY L w.heap vk ks
set_option maxHeartbeats 4000000 in
theorem qD {L:LN}{w:World}{c:CL}(h:ZB L w.heap c) :
  QI prog 98 [c.val] w λr w'=>Step [] w w'∧Qkr w.heap.size w' r (szs c.cel.co) c.cel.ex c.cel.cs:=by
 have m4:=h.co.arr.le;have m5:=h.ex.arr.le;have m6:=h.cs.arr.le;refine QI.of_W func98 O ntmps98 results98 (by simp) ?_;refine Qc<|xl O<|QQ (us:=c.cells) O λb1 w1 ga m7 gb=>xl O<|Qt (us:=[nS,nS,nS]) O λb2 w2 hH m8 gc=>xe ?_;have m9:=ga.size;have pa:=hH.size;have pc:=gb.lt;have pd:=gc.lt
 refine Qc<|x (QE U)<|xl O<|Qt (us:=[nS,nS,nS]) O λE w3 g6 g7 h3=>xl O<|Qp (us:=[nS,nS,nS]) h3 O O O O ⟨O,O,O,U⟩ λw4 g8 h3 =>
  xe ?_
 have pf:=h3.lt;have V:Step [] w2 w4:=g6.then1 g8 g7;have hI:Step [] w w4:=(ga.trans hH).trans V;have pg:=hI.size;have ge:=(gb.ext hH).ext V;have g9:=gc.ext V;have h4:=h.ext hI;have ph:b1<E:=by omega
 have pj:b2<E:=by omega
 have ka:w.heap.size≤E:=by omega
 have hJ:∀{wa wb:World},Step [E] wa wb→Step [] w wa→Step [] w wb:=λha hb=>hb.then1 ha ka;refine Qg<|Qc<|x (Qa O)<|x (Qd ge O O)<|x (Qs h4.co.arr O)<|Qb<|xe ?_
 refine Qh<|QA (α:=Nat×Value) [(5,5),(14,26)] (λz=>[(14,.int .i64 z.1)]) (λz w'=>z.1≤c.co.length∧Step [E] w4 w'∧Q4 w'.heap E 151 [z.2,nS,nS]∧Qu 3 w4.heap.size w' z.2 ((c.co.take z.1).map (·.p.a.st))) (λz=>c.co.length - z.1) (by rfl) (0,nS) Z
  ⟨Lj _,Step.refl _ _,h3,QM _ _ _ _⟩ ?_
 rintro ⟨k,vs⟩ g w5 ⟨hk,ht,h8,H⟩;simp only[] at hk h8 H;have gg:=hJ ht hI;have h5:=h.ext gg;have gh:=ge.step ht (by simp;omega);have kb:=g9.step ht (by simp;omega);have pm:=ht.size;refine Qc<|x (QB O O)<|xe<|Qg<|QH O (λhK=>?_) (λhK=>?_)
 ·refine Qy ?_;have kc:c.co.length≤k:=by have J:¬(k:Int)<(c.co.length:Int):=hK;omega
  rw[Ll kc] at H;refine Qg<|Qc<|x (Qa O)<|x (Qd gh O O)<|x (Qs h5.ex.arr O)<|Qb<|xe<|Qh<|QA (α:=Nat×Value×List XV) [(7,7),(30,45)] (λz=>[(30,.int .i64 z.1)]) (λz w'=>z.1≤c.ex.length∧Step [E] w5 w'∧Q4 w'.heap E 151 [vs,z.2.1,nS]∧XvN w5.heap.size w' z.2.1 z.2.2∧z.2.2.map (·.x)=(c.ex.take z.1).map (·.x)) (λz=>c.ex.length - z.1) (by rfl) (0,nS,[]) Z
   ⟨Lj _,Step.refl _ _,h8,ZV.nil,O⟩ ?_
  rintro ⟨j,vx,qx⟩ g w6 ⟨hj,Y,hM,hf,hg⟩;simp only[] at hj hM hf hg;have gi:=hJ Y gg;have h6:=h.ext gi;have ke:=gh.step Y (by simp;omega);have kf:=kb.step Y (by simp;omega);have pn:=Y.size;have po:qx.length=j:=by have:=congrArg List.length hg;simp at this;omega
  refine Qc<|x (QB O O)<|xe<|Qg<|QH O (λhN=>?_) (λhN=>?_)
  ·refine Qy ?_;have kg:c.ex.length≤j:=by have J:¬(j:Int)<(c.ex.length:Int):=hN;omega
   rw[Ll kg] at hg;refine Qg<|Qc<|x (Qa O)<|x (Qd ke O O)<|x (Qs h6.cs.arr O)<|Qb<|xe<|Qh<|QA (α:=Nat×Value×List KV) [(9,9),(49,66)] (λz=>[(49,.int .i64 z.1)]) (λz w'=>z.1≤c.cs.length∧Step [E] w6 w'∧Q4 w'.heap E 151 [vs,vx,z.2.1]∧KvN w6.heap.size w' z.2.1 z.2.2∧z.2.2.map (·.k)=(c.cs.take z.1).map (·.k)) (λz=>c.cs.length - z.1) (by rfl) (0,nS,[]) Z
    ⟨Lj _,Step.refl _ _,hM,ZV.nil,O⟩ ?_
   rintro ⟨i,vk,ks⟩ g w7 ⟨hi,hh,hO,hn,ho⟩;simp only[] at hi hO hn ho;have gj:=hJ hh gi;have h7:=h.ext gj;have kh:=kf.step hh (by simp;omega);have pp:=hh.size;have pt:ks.length=i:=by have:=congrArg List.length ho;simp at this;omega
   refine Qc<|x (QB O O)<|xe<|Qg<|QH O (λhP=>?_) (λhP=>?_)
   ·refine Qy ?_;have ki:c.cs.length≤i:=by have J:¬(i:Int)<(c.cs.length:Int):=hP;omega
    rw[Ll ki] at ho;have pu:=(H.1);have kj:ZO [vs,vx,vk]:=⟨QJ H,QJ hf.own,QJ hn.own,U⟩;refine Qc<|x (Qr hO O O)<|xl O<|Qp (us:=[vs,vx,vk]) kh O O O O kj λw8 hu kk=>xe ?_;have pw:Step [b2] w7 w8:=hu;refine Qm ⟨[.agg #[vs,vx,vk]],⟨⟨_,O,Qx O (kk.at (L:=[]) (by simp)).cells⟩,U⟩,gj.then1 hu (by omega),?_⟩
    have kn:=Qk ((Qk H Y (λb hb hm=>by have:=(Qn H b hb).1;simp at hm;omega))) hh (λb hb hm=>by have:=(Qn H b hb).1;simp at hm;omega);have ko:=Qk kn hu (λb hb hm=>by have:=(Qn H b hb).1;simp at hm;omega);have kp:=(ZV.low hf hh (by simp;omega)).low hu (by simp;omega);have kq:=ZV.low hn hu (by simp;omega)
    refine ⟨vs,vx,vk,qx,ks,O,hg,ho,λL hL=>⟨?_,XvN.xcs kp hg h.ex.nm (by omega) (λb hb=>by have:=hL b hb;omega),KvN.kcs kq ho h.cs.nm (by omega) (λb hb=>by have:=hL b hb;omega)⟩⟩;have he:szs c.cel.co=c.co.map (·.p.a.st):=by show ((c.co.map IV.it).map _)=_;rw[Me];rfl
    rw[he];exact Qu.ints ko (by rw[Lh];omega) (λb hb=>by have:=hL b hb;omega)
   have hp:i<c.cs.length:=by have J:(i:Int)<(c.cs.length:Int):=hP;omega
   have gk:=Lc hp;have gl:c.cs.take (i+1)=c.cs.take i++[c.cs[i]'hp]:=Le hp;refine Qi<|Qg<|Qh<|Qc<|xig Y6 h7.cs.arr O O hp λpz gm=>?_;refine Zh (c.cs[i]'hp) λq hq=>?_;rw[hq] at gm gk gl;have G:=h7.cs.each q gk
   refine x (QF gm O O)<|xl O<|Qt (us:=[.string .empty,nS,.int .i64 0]) O λb9 w9 kr kt hv=>xl O<|Qp (us:=Zm q) hv O O O O ⟨O,G.one,O,U⟩ λS ku hv =>
    xe ?_
   have h9:Step [] w7 S:=kr.then1 ku kt;have gn:=hO.ext h9;have hQ:=Qn hn.own;have I:E∉ob vk:=λhm=>by have:=(hQ E hm).1;omega
   have hR:b9∉ob vk:=λhm=>by have:=(hQ b9 hm).2;omega
   refine QW (Step (ob vk) S) [(0,true),(1,true),(2,true),(3,true),(4,true),(5,true),(7,true),(8,true),(6,false),(9,true),(10,false),(11,false),(12,true),(13,false)] mixed (by rfl) (by kernel_rfl) (Step.drew _ _) ?_;have kv:=h9.trans (Step.drew [] S);refine p (λ_=>Qa O)<|pq (λ_ hc=>Qd (gn.step hc I) O O)<|p (λ_=>Qa O)<|pq (λ_ hc=>Qd (hv.step hc hR) O O) <|
    p (λ_=>Qa O)<|pq (λ_ hc=>Qd (hv.step hc hR) O O)<|p (λ_=>Qa O)<|pq (λ_ hc=>Qd (hv.step hc hR) O O) <|
    pk<|xf<|(Qce (G.ext kv)).mono ?_
   rintro hw p0 ⟨kw,hS⟩;have hy:=(Step.drew [] S).trans kw;refine ⟨hy.any,?_⟩;refine p (λ_=>QE ⟨O,QY hS,O,U⟩)<|pk<|QD (us:=[Zm ⟨q.nm,hw,q.ts,q.bd⟩]) O O (by decide) (by simp) ⟨rfl,rfl,U⟩ λp1 p2 hz p3 kx=>⟨(hy.trans hz).any,?_⟩;have hA:=(h9.trans hy).trans hz;have hT:S.heap.size=({ S with drawn:=S.drawn+1 }:World).heap.size:=rfl
   have p4:=h9.size;have p5:=hA.size;refine pk<|Q6 (news:=Zm ⟨q.nm,hw,q.ts,q.bd⟩) (L:=[]) (Qq hn.own hA) O O O (kx.at (by simp)) (QaR (q:=⟨q.nm,hw,q.ts,q.bd⟩) (QJ hS)) (by omega) (by omega) λhU go gp hB ky=>⟨((hy.trans hz).any (L:=ob vk)).trans' hB,?_⟩
   have kz:KvN w6.heap.size go hU (ks++[⟨q.nm,hw,q.ts,q.bd⟩]):=ZV.app hn hA (Qq hS hz) G.le (by rw[←hT];omega) (by omega) gp hB ky;have k0:=(gn.step ((hy.trans hz).any (L:=ob vk)) I).step hB I;refine p (λ_=>Qa O)<|pkl (hl:=by kernel_rfl)<|QL (j:=2) (u:=hU) k0 O O (by simp) (QJ gp) λp6 gq k4=>pe ?_
   have k5:Step [E] w6 go:=(hh.trans hA).then hB (λb hb=>.inr (hQ b hb).1);refine Qz<|QN O O<|Qb<|xe<|⟨(i+1,hU,ks++[⟨q.nm,hw,q.ts,q.bd⟩]),by simp only[];omega,Z,hp,?_,k4,ZV.low kz gq (by simp;omega),?_⟩
   ·exact k5.trans' gq
   simp only[];rw[Lt,ho,gl,Lt];rfl
  have hr:j<c.ex.length:=by have J:(j:Int)<(c.ex.length:Int):=hN;omega
  have gr:=Lc hr;have gs:c.ex.take (j+1)=c.ex.take j++[c.ex[j]'hr]:=Le hr;refine Qi<|Qg<|Qh<|Qc<|xig Xx h6.ex.arr O O hr λp7 gt=>?_;refine Zh (c.ex[j]'hr) λq hq=>?_;rw[hq] at gt gr gs;have G:=h6.ex.each q gr
  refine x (QF gt O O)<|xl O<|Qt (us:=[.string .empty,nS]) O λb7 p8 k6 k7 hC=>xl O<|Qp (us:=Zr q) hC O O O O ⟨O,G.one,U⟩ λT k8 hC =>
   xe ?_
  have hD:Step [] w6 T:=k6.then1 k8 k7;have gu:=hM.ext hD;have hV:=Qn hf.own;have I:E∉ob vx:=λhm=>by have:=(hV E hm).1;omega
  have gv:b7∉ob vx:=λhm=>by have:=(hV b7 hm).2;omega
  refine QW (Step (ob vx) T) [(0,true),(1,true),(2,true),(3,true),(4,true),(5,true),(6,false),(7,true),(8,false),(9,false),(10,true),(11,false)] mixed (by rfl) (by kernel_rfl) (Step.drew _ _) ?_;have k9:=hD.trans (Step.drew [] T);refine p (λ_=>Qa O)<|pq (λ_ hc=>Qd (gu.step hc I) O O)<|p (λ_=>Qa O)<|pq (λ_ hc=>Qd (hC.step hc gv) O O) <|
   p (λ_=>Qa O)<|pq (λ_ hc=>Qd (hC.step hc gv) O O)<|pk<|xf<|(Qcf (G.ext k9)).mono ?_
  rintro h0 p9 ⟨ma,hW⟩;have h1:=(Step.drew [] T).trans ma;refine ⟨h1.any,?_⟩;refine p (λ_=>QE ⟨O,QY hW,U⟩)<|pk<|QD (us:=[Zr ⟨q.nm,h0,q.ls⟩]) O O (by decide) (by simp) ⟨rfl,rfl,U⟩ λqb qc h2 qj mc=>⟨(h1.trans h2).any,?_⟩;have hE:=(hD.trans h1).trans h2;have hT:T.heap.size=({ T with drawn:=T.drawn+1 }:World).heap.size:=rfl
  have qk:=hD.size;have qo:=hE.size;refine pk<|Q6 (news:=Zr ⟨q.nm,h0,q.ls⟩) (L:=[]) (Qq hf.own hE) O O O (mc.at (by simp)) (Qaj (q:=⟨q.nm,h0,q.ls⟩) (QJ hW)) (by omega) (by omega) λhX gw gx hF mf=>⟨((h1.trans h2).any (L:=ob vx)).trans' hF,?_⟩
  have mg:XvN w5.heap.size gw hX (qx++[⟨q.nm,h0,q.ls⟩]):=ZV.app hf hE (Qq hW h2) G.le (by rw[←hT];omega) (by omega) gx hF mf;have mh:=(gu.step ((h1.trans h2).any (L:=ob vx)) I).step hF I;have mi:Step [E] w5 gw:=(Y.trans hE).then hF (λb hb=>.inr (hV b hb).1)
  refine p (λ_=>Qa O)<|pkl (hl:=by kernel_rfl)<|QL (j:=1) (u:=hX) mh O O (by simp) (QJ gx) λqr gy mj=>pe ?_;refine Qz<|QN O O<|Qb<|xe<|⟨(j+1,hX,qx++[⟨q.nm,h0,q.ls⟩]),by simp only[];omega,Z,hr,?_,mj,ZV.low mg gy (by simp;omega),?_⟩
  ·exact mi.trans' gy
  simp only[];rw[Lt,hg,gs,Lt];rfl
 have hs:k<c.co.length:=by have J:(k:Int)<(c.co.length:Int):=hK;omega
 have gz:=Lc hs;have g0:c.co.take (k+1)=c.co.take k++[c.co[k]'hs]:=Le hs;have q0:((c.co.take k).map (·.p.a.st)).length=k:=by simp;omega
 refine Qi<|Qg<|Qh<|Qc<|xig Yz h5.co.arr O O hs λq1 J=>?_;refine Zh (c.co[k]'hs) λq hq=>?_;rw[hq] at J gz g0;have G:=h5.co.each q gz;refine x (QF J O O)<|xl O<|Qt (us:=[.string .empty,nS,.int .i64 0,nS,nS]) O λb5 q2 mn mo hY=>xl O<|Qp (us:=Za q) hY O O O O ⟨O,G.al.one,O,G.mr.one,G.ed.one,U⟩ λmq mu hY =>
  xe ?_
 have g2:Step [] w5 mq:=mn.then1 mu mo;have mv:=h8.ext g2;refine Qz<|x (Qa O)<|x (Qd mv O O)<|x (Qa O)<|x (Qa O)<|x (Qd hY O O)<|xl O<|QD (us:=[[.int .i64 q.p.a.st]]) O O (by decide) (by simp) ⟨rfl,rfl,U⟩ λq3 q4 mw za my=>?_;have hG:=g2.trans mw;have zv:=hG.size;have g3:=Qn H;have I:E∉ob vs:=λhm=>by have:=(g3 E hm).1;omega
 refine xl rfl<|Q6 (news:=[.int .i64 q.p.a.st]) (L:=[]) (Qq H hG) O O O (my.at (by simp)) (by simp[Value.oneCell']) (by omega) (by omega) λg4 mz hZ V z0=>?_;have m0:=(h8.ext hG).step V I;have m1:Step [E] w4 mz:=(ht.trans hG).then V (λb hb=>.inr (g3 b hb).1);refine x (Qa O)<|xl O<|QL (j:=0) (u:=g4) m0 O O (by simp) (QJ hZ) λz2 g5 m2 =>
  xe ?_
 have m3:=Qk hZ g5 (λb hb hm=>by have:=(Qn hZ b hb).1;simp at hm;omega);refine Qz<|QN O O<|Qb<|xe<|⟨(k+1,g4),by simp only[];omega,Z,hs,m1.trans' g5,m2,?_⟩;simp only[];rw[g0,Lt];exact Qu.snoc (n:=q.p.a.st) m3
theorem QcI (n:Nat):JP (n+1)=JP n++[(n:Int)]:=by unfold JP;rw[List.range_succ,Lt];rfl
theorem qP (n:Nat):(JP n).length=n:=by unfold JP;simp
theorem Xs {k:Nat}{l:List IV}(h:k<l.length):(l.drop k).map (·.it)=(l[k]'h).it::(l.drop (k+1)).map (·.it):=by rw[QZ h];rfl
theorem Uu {n:Nat}{u:LI}{s:List ByteArray}{x:XT}(h:Z6 n u s x=0):Zi x.a:=by
 unfold Z6 at h;split at h
 ·cases h
 split at h
 ·cases h
 split at h
 ·rename_i h1 h2;exact absurd h h2
 rename_i h1;exact (ZS _).1 (Lq.1 h1)
theorem J8 {n:Nat}{al:LI}{s:List ByteArray}{u:LI}{x:XT}{l:List XT}:Yi n al s u (x::l)=if Z6 n al s x≠0 then (Z6 n al s x,s,u) else Yi n al (s++[x.nm]) (mrg (· || ·) u x.a.al) l:=rfl
theorem Us {n:Nat}{u:LI}{s:List ByteArray}{x:XT}{l:List XT}:Jt n u s (x::l)=if Z6 n u s x≠0 then Z6 n u s x else Jt n u (s++[x.nm]) l:=rfl
set_option maxHeartbeats 4000000 in
theorem Ym {L:LN}{w:World}{c:CL}(h:ZB L w.heap c) :
  QI prog 37 [c.val] w λr w'=>r=.int .i64 (Q8 c.cel)∧Step [] w w':=by
 have kc:=h.co.arr.le;have ke:=h.rq.arr.le;have E:Q8 c.cel=(if Ju c.ev≠0 then Ju c.ev else if c.co.length=0 then 12 else if 8<c.co.length∨12<c.co.length+c.rq.length then 3 else
  if (Yi c.ev.length (JP c.ev.length) [] [] (c.co.map (·.it))).1≠0 then (Yi c.ev.length (JP c.ev.length) [] [] (c.co.map (·.it))).1 else
  if Jt c.ev.length (Yi c.ev.length (JP c.ev.length) [] [] (c.co.map (·.it))).2.2 (Yi c.ev.length (JP c.ev.length) [] [] (c.co.map (·.it))).2.1 (c.rq.map (·.it))≠0 then Jt c.ev.length (Yi c.ev.length (JP c.ev.length) [] [] (c.co.map (·.it))).2.2 (Yi c.ev.length (JP c.ev.length) [] [] (c.co.map (·.it))).2.1 (c.rq.map (·.it)) else
  Yt (szs c.cel.co) c.cel.ex c.cel.cs):=by
  unfold Q8;rw[show c.cel.co.length=c.co.length from Lh ..,show c.cel.rq.length=c.rq.length from Lh ..];rfl
 refine Zh (Q8 c.cel) λR hR=>?_;rw[hR] at E ⊢;refine Zh (Yi c.ev.length (JP c.ev.length) [] [] (c.co.map (·.it))) λCO h9=>?_;rw[h9] at E;refine QI.of_W func37 O ntmps37 results37 (by simp) ?_;refine Qc<|xl O<|QQ (us:=c.cells) O λb1 w1 hv kf hw=>Qe ?_;have kg:=hv.size;have kh:=hw.lt;refine Qg<|Qc<|x (Qa O)<|x (Qd hw O O)<|xl O<|xf<|(Uo (h.ev.ext hv)).mono ?_;rintro r2 w2 ⟨rfl,hA⟩
 refine Qe ?_;have ha:=hv.trans hA;have hm:=hw.ext hA;have h2:=h.ext ha;refine Qc<|Qb<|x (Q9 O O)<|xe<|Q7 rfl (λho=>?_) (λho=>?_)
 ·rw[if_pos ho] at E;subst E;refine Qc<|Qb<|Qe ?_;exact Qm ⟨[_],Z,O,ha⟩
 rw[if_neg ho] at E;have ki:c.ev.length≤32:=by
  refine Lq.1 λhn=>?_;apply ho;unfold Ju;rw[if_pos (by omega)];decide
 refine Qi<|Qg<|Qc<|x (Qa O)<|x (Qd hm O O)<|x (Qs h2.co.arr O)<|Qe<|Qh<|Qc<|Qb<|x (Q5 O O)<|Qe<|Q7 O (λhy=>?_) (λhy=>?_)
 ·have hz:c.co.length=0:=by have hY:(c.co.length:Int)=0:=hy;omega
  rw[if_pos hz] at E;subst E;refine Qc<|Qe ?_;exact Qm ⟨[_],Z,O,ha⟩
 have hz:¬c.co.length=0:=by have hY:¬(c.co.length:Int)=0:=hy;omega
 rw[if_neg hz] at E;refine Q0 (α:=Bool) [(27,37)] (λz=>[(27,.bool z)]) (λz w'=>w'=w2∧z=decide (8<c.co.length∨12<c.co.length+c.rq.length)) (by rfl) ?_ ?_
 ·refine Qz<|Qb<|xb (Zx O O) (λhZ=>?_) (λhZ=>?_)
  ·refine Qb<|xs O<|xs O<|xs O<|xs O<|xs O<|xs O<|x (Qj O)<|Qe ?_;exact ⟨_,Z,O,bT (.inl (by omega))⟩
  refine Qb<|Qb<|x (Qa O)<|x (Qd hm O O)<|x (Qs h2.rq.arr O)<|x (Yv O O ⟨by omega,by omega⟩) <|
   x (Zx rfl O)<|x (Qj O)<|Qe ?_
  exact ⟨_,Z,O,bD (by omega)⟩
 rintro z g w3 ⟨rfl,rfl⟩;refine Q7 rfl (λh0=>?_) (λh0=>?_)
 ·rw[if_pos h0] at E;subst E;refine Qc<|Qe ?_;exact Qm ⟨[_],Z,O,ha⟩
 rw[if_neg h0] at E;refine Qi<|Qc<|xl O<|Yk Y7 λbm w4 hB kj hC=>Qe ?_;have kk:=hC.lt;have kn:=hm.lt;have ko:=ha.size;have hD:=ha.trans hB;have hE:=hm.ext hB;have hG:b1≠bm:=by omega
 have hge:w.heap.size≤bm:=by omega
 have hM:ZB [bm] w.heap c:=h.up (λb hb=>.inr (by simp at hb;omega));have hH:=hM.ext hD;refine Qc<|x Qf<|Qe<|Qg<|Qc<|x (Qa O)<|x (Qd hE O O)<|x (Qs hH.ev.arr O)<|Qb<|xe<|Qh<|QA (α:=Nat×Value) [(6,6),(8,8),(42,49)] (λz=>[(6,z.2),(42,.int .i64 z.1)]) (λz w'=>z.1≤c.ev.length∧Step [] w4 w'∧Qu 3 w4.heap.size w' z.2 (JP z.1)) (λz=>c.ev.length - z.1) (by rfl) (0,nS) ⟨O,O,U⟩
  ⟨Lj _,Step.refl _ _,QM _ _ _ _⟩ ?_
 rintro ⟨k,vg⟩ g w5 ⟨hk,hc,hp⟩;simp only[] at hk hp;have kp:=qP k;refine Qc<|x (QB O O)<|xe<|Qg<|QH O (λh1=>?_) (λh1=>?_)
 ·refine Qy ?_;have he:k=c.ev.length:=by have hf:¬(k:Int)<(c.ev.length:Int):=h1;omega
  subst he;have ga:QK [bm] w5.heap vg (JP c.ev.length):=Qu.ints hp (by omega) (by simp;omega);have gb:=hC.ext hc;have hI:=hE.ext hc;have hJ:=hH.ext hc;have gc:=hD.trans hc;refine Qg<|Qc<|x (Qa O)<|x (Qd hI O O)<|x (Qs hJ.co.arr O)<|Qb<|xe ?_
  refine Qh<|QA (α:=Nat×Value×List ByteArray×LI) [(2,2),(7,7),(10,11),(53,72)] (λz=>[(7,z.2.1),(53,.int .i64 z.1)]) (λz w'=>z.1≤c.co.length∧Step [bm] w5 w'∧Z0 Y7 w'.heap bm (nmM z.2.2.1)∧QK [bm] w'.heap z.2.1 z.2.2.2∧z.2.2.2.length≤32*z.1∧Yi c.ev.length (JP c.ev.length) z.2.2.1 z.2.2.2 ((c.co.drop z.1).map (·.it))=CO) (λz=>c.co.length - z.1) (by rfl) (0,nS,[],[]) ⟨O,O,U⟩
   ⟨Lj _,Step.refl _ _,gb,Zq.nil _ _ _,by simp,h9⟩ ?_
  rintro ⟨k,vu,sn,u⟩ g w6 ⟨hk,hg,hs,h3,ge,H⟩;simp only[] at hk hs h3 ge H;have hK:Step [] w w6:=gc.then1 hg hge;have h4:=hI.step hg (by simpa using hG);have T:=hJ.st hg;refine Qc<|x (QB O O)<|xe<|Qg<|QH O (λh5=>?_) (λh5=>?_)
  ·refine Qy ?_;have he:k=c.co.length:=by have hf:¬(k:Int)<(c.co.length:Int):=h5;omega
   subst he;rw[Lp (Lr _)] at H;have gg:CO=(0,sn,u):=H.symm;subst gg;rw[if_neg (by simp)] at E;simp only[] at E;refine Zh (Jt c.ev.length u sn (c.rq.map (·.it))) λRQ hL=>?_;rw[hL] at E;refine Qg<|Qc<|x (Qa O)<|x (Qd h4 O O)<|x (Qs T.rq.arr O)<|Qb<|xe ?_
   refine Qh<|QA (α:=Nat×List ByteArray) [(2,2),(13,14),(76,90)] (λz=>[(76,.int .i64 z.1)]) (λz w'=>z.1≤c.rq.length∧Step [bm] w6 w'∧Z0 Y7 w'.heap bm (nmM z.2)∧Jt c.ev.length u z.2 ((c.rq.drop z.1).map (·.it))=RQ) (λz=>c.rq.length - z.1) (by rfl) (0,sn) Z
    ⟨Lj _,Step.refl _ _,hs,hL⟩ ?_
   rintro ⟨k,sm⟩ g w7 ⟨hk,hh,hN,I⟩;simp only[] at hk hN I;have hO:Step [] w w7:=hK.then1 hh hge;have hP:=h4.step hh (by simpa using hG);have hi:=T.st hh;have gh:=h3.st hh;refine Qc<|x (QB O O)<|xe<|Qg<|QH O (λh6=>?_) (λh6=>?_)
   ·refine Qy ?_;have he:c.rq.length≤k:=by have hf:¬(k:Int)<(c.rq.length:Int):=h6;omega
    rw[Lp he] at I;have gi:RQ=0:=I.symm;rw[if_neg (by rw[gi];decide)] at E;refine Qc<|x (Qr hP O O)<|xl O<|xf<|(qD hi).mono ?_;rintro r8 w8 ⟨gj,vs,vx,vk,qx,ks,rfl,gk,gl,hF⟩;obtain ⟨gm,gn,go⟩:=hF [] (by simp);refine xl O<|xf<|(Un gm gn go).mono ?_;rintro r9 w9 ⟨rfl,gp⟩;rw[gk,gl,←E];refine Qe ?_;exact Qm ⟨[_],Z,O,(hO.trans gj).trans gp⟩
   have G:k<c.rq.length:=by have hf:(k:Int)<(c.rq.length:Int):=h6;omega
   have S:=Lc G;rw[Xs G,Us] at I;refine Qi<|Qg<|Qh<|Qc<|xig Yz hi.rq.arr O O G λkq hQ=>?_;refine Zh (c.rq[k]'G) λq hq=>?_;rw[hq] at hQ S I;have J:=hi.rq.each q S
   refine x (QF hQ O O)<|xl O<|Qt (us:=[.string .empty,nS,.int .i64 0,nS,nS]) O λkr kt gq gr h7=>xl O<|Qp (us:=Za q) h7 O O O O ⟨O,J.al.one,O,J.mr.one,J.ed.one,U⟩ λgs gt h7 =>
    xe ?_
   have V:Step [] w7 gs:=gq.then1 gt gr;refine Qc<|x (Qr h7 O O)<|x (Qa O)<|x (Qd (hP.ext V) O O)<|x (Qs (hi.ev.ext V).arr O)<|Qb<|Qb<|xl O<|xf<|(QaU (J.ext V) (hi.rq.nm q S) (gh.ext V) (by omega) (hN.ext V) (by simp) (by simp)).mono ?_;rintro ku kv ⟨rfl,hS,gu⟩;refine Qe<|Qc<|Qb<|x (Q9 O O)<|xe<|Q7 O (λhj=>?_) (λhj=>?_)
   ·rw[if_pos hj] at I;rw[if_pos (by rw[←I];exact hj)] at E;refine Qc<|Qb<|Qe ?_;exact Qm ⟨[_],Z,by rw[E,←I];rfl,(hO.trans V).then1 hS hge⟩
   rw[if_neg hj] at I;refine Qi<|Qz<|QN O O<|Qb<|xe ?_;exact ⟨(k+1,sm++[q.nm]),by simp only[];omega,Z,G,(hh.trans V).trans' hS,gu (Lq.1 hj),I⟩
  have G:k<c.co.length:=by have hf:(k:Int)<(c.co.length:Int):=h5;omega
  have S:=Lc G;rw[Xs G,J8] at H;refine Qi<|Qg<|Qh<|Qc<|xig Yz T.co.arr O O G λkw hT=>?_;refine Zh (c.co[k]'G) λq hq=>?_;rw[hq] at hT S H;have J:=T.co.each q S;have gv:=ga.st hg
  refine x (QF hT O O)<|xl O<|Qt (us:=[.string .empty,nS,.int .i64 0,nS,nS]) O λkx ky gw gx ht=>xl O<|Qp (us:=Za q) ht O O O O ⟨O,J.al.one,O,J.mr.one,J.ed.one,U⟩ λgy gz ht =>
   xe ?_
  have Y:Step [] w6 gy:=gw.then1 gz gx;have kz:=hs.lt;refine Qg<|Qc<|x (Qr ht O O)<|x (Qa O)<|x (Qd (h4.ext Y) O O)<|x (Qs (T.ev.ext Y).arr O)<|Qb<|Qb<|xl O<|xf<|(QaU (J.ext Y) (T.co.nm q S) (gv.ext Y) (by omega) (hs.ext Y) (by simp) (by simp)).mono ?_;rintro k0 g0 ⟨rfl,h8,g2⟩;refine Qe<|Qc<|Qb<|x (Q9 O O)<|xe ?_
  refine Q7 O (λhl=>?_) (λhl=>?_)
  ·rw[if_pos hl] at H;rw[if_pos (by rw[←H];exact hl)] at E;refine Qc<|Qb<|Qe ?_;exact Qm ⟨[_],Z,by rw[E,←H];rfl,(hK.trans Y).then1 h8 hge⟩
  rw[if_neg hl] at H;have hU:Z6 c.ev.length (JP c.ev.length) sn q.it=0:=Lq.1 hl;have g3:=(Uu hU).al_le;have k4:q.p.a.al.length≤32:=g3;refine Qi ?_;have hu:Step [bm] w6 g0:=Y.any.trans' h8;have g4:=h3.st hu;have k5:=hu.size
  refine Qz<|Qb<|x (Qa O)<|x (Qa O)<|x (Qd (ht.step h8 (by simp;omega)) O O)<|xl O<|xf<|(y8 g4 (T.st hu |>.co.each q S |>.al) (by omega)).mono ?_;rintro g5 k6 ⟨hV,g6⟩;refine Qe ?_;have k7:=zj (· || ·) u q.p.a.al;refine Qz<|QN O O<|Qb<|xe ?_
  exact ⟨(k+1,g5,sn++[q.nm],mrg (· || ·) u q.p.a.al),by simp only[];omega,⟨O,O,U⟩,G,(hg.trans' hu).trans hV,(g2 hU).ext hV,Qu.ints g6 (by show (mrg _ _ _).length≤_;omega) (by simp;omega),by simp only[];omega,H⟩
 have G:k<c.ev.length:=by have hf:(k:Int)<(c.ev.length:Int):=h1;omega
 refine Qi<|Qg<|Qh<|Qc<|Qb<|Qe<|Qz<|Qb<|Qb<|xl O<|QD (us:=[[.int .i64 k]]) O O (by decide) (by simp) ⟨rfl,rfl,U⟩ λk8 k9 hW ma g7=>?_;have hX:=hc.trans hW;have mc:=hX.size;have g8:=Qn hp;refine xl rfl<|Q6 (news:=[.int .i64 k]) (L:=[]) (Qq hp hW) O O O (g7.at (by simp)) (by simp[Value.oneCell']) (by omega) (by omega) λg9 mf ka kb mg =>
  Qe<|Qz<|QN O O<|Qb<|xe ?_
 refine ⟨(k+1,g9),by simp only[];omega,⟨O,O,U⟩,G,hX.then kb (λb hb=>.inr (g8 b hb).1),?_⟩;simp only[];rw[QcI];exact Qu.snoc (n:=(k:Int)) ka
end Go.Proofs.YtdffckgdcegpaaaGreatDoor
namespace Go.Lg
theorem Qj6 {P:Program}{ops:List Oper}{K:Fr→World→Prop}{f:Fr}{w:World}{d:Option Nat}{ty:Nat}{ps:String}{af:Array Edge}{gd:Option (Nat×Bool)}{C:World→Prop}{pl:List (Nat×Bool)}{E:Nat}
  {t e sz bys:Nat} {z:Value} {x G I:Operand} {L:LN} {v:Value} {n:Nat} {cs:LV} {H:Array Obj} {k k':IntKind} {hi:Nat} [h:Sl P t e sz bys z]
  (J:Q3 ops E=⟨d,.slice t x none (some G) (some I),ty,ps,af,gd⟩) (S:Zq L H v n sz cs) (hx:ev f x=v) (T:ev f G=.int k hi) (hm:ev f I=.int k' hi) (h1:hi≤n)
  (V:∀v',Zq L H v' hi sz (cs.take (hi*sz))→XP P ops C K pl (QR f d v') w)
  (Y:Z8 ops f (Q3 ops E)=true:=by rfl):XP P ops C K ((E,true)::pl) f w:=by
 obtain ⟨v',h3,h4⟩:=Qdf (P:=P) (d:=d) (ty:=ty) (ps:=ps) (af:=af) (gd:=gd) (t:=t) S hx T hm h1;exact Lg.p (λw'=>by rw[J];exact h4 w') (by rw[J];exact V v' h3) Y
end Go.Lg
namespace Go.Proofs.YtdffckgdcegpaaaGreatDoor
open Go.Proofs.Tryz
open Go.Lg
structure Qfa (c:Zv):Prop where
 ev:c.ev.length≤32
 c0:c.co.length≠0
 c8:c.co.length≤8
 cr:c.co.length+c.rq.length≤12
 co:∀x∈c.co,Zi x.a
 rq:∀x∈c.rq,Zi x.a
 ce:∀x∈c.co,∀e∈x.a.al,e<(c.ev.length:Int)
 re:∀x∈c.rq,∀e∈x.a.al,e<(c.ev.length:Int)
 cd:Yt (szs c.co) c.ex c.cs=0
 e0:Ju c.ev=0
theorem yQ {n:Nat}{u:LI}{s:List ByteArray}{x:XT}(h:Z6 n u s x=0):∀e∈x.a.al,e<(n:Int):=by
 unfold Z6 at h;split at h
 ·cases h
 split at h
 ·cases h
 split at h
 ·rename_i h1 h2;exact absurd h h2
 split at h
 ·cases h
 split at h
 ·cases h
 split at h
 ·cases h
 rename_i h1;intro e he;refine Lq.1 λE=>h1 ?_;rw[MW];exact ⟨e,he,decide_eq_true (by omega)⟩
theorem yT {n:Nat}{al:LI}:∀{l:List XT}{s:List ByteArray}{u:LI},(Yi n al s u l).1=0→∀x∈l,Zi x.a∧∀e∈x.a.al,e<(n:Int)
 | [],_,_,_,x,hx=>by cases hx
 | y::l,s,u,h,x,hx=>by
  rw[J8] at h;by_cases h1:Z6 n al s y≠0
  ·rw[if_pos h1] at h;exact absurd h h1
  rw[if_neg h1] at h;have h2:Z6 n al s y=0:=Lq.1 h1;rcases Lb.1 hx with rfl | hx
  ·exact ⟨Uu h2,yQ h2⟩
  exact yT h x hx
theorem yO {n:Nat}{u:LI}:∀{l:List XT}{s:List ByteArray},Jt n u s l=0→∀x∈l,Zi x.a∧∀e∈x.a.al,e<(n:Int)
 | [],_,_,x,hx=>by cases hx
 | y::l,s,h,x,hx=>by
  rw[Us] at h;by_cases h1:Z6 n u s y≠0
  ·rw[if_pos h1] at h;exact absurd h h1
  rw[if_neg h1] at h;have h2:Z6 n u s y=0:=Lq.1 h1;rcases Lb.1 hx with rfl | hx
  ·exact ⟨Uu h2,yQ h2⟩
  exact yO h x hx
theorem ZF {c:Zv}(h:Q8 c=0):Qfa c:=by
 unfold Q8 at h;by_cases h1:Ju c.ev≠0
 ·rw[if_pos h1] at h;exact absurd h h1
 rw[if_neg h1] at h;by_cases h2:c.co.length=0
 ·rw[if_pos h2] at h;cases h
 rw[if_neg h2] at h;by_cases h3:8<c.co.length∨12<c.co.length+c.rq.length
 ·rw[if_pos h3] at h;cases h
 rw[if_neg h3] at h;by_cases E:(Yi c.ev.length (JP c.ev.length) [] [] c.co).1≠0
 ·rw[if_pos E] at h;exact absurd h E
 rw[if_neg E] at h;by_cases h5:Jt c.ev.length (Yi c.ev.length (JP c.ev.length) [] [] c.co).2.2 (Yi c.ev.length (JP c.ev.length) [] [] c.co).2.1 c.rq≠0
 ·rw[if_pos h5] at h;exact absurd h h5
 rw[if_neg h5] at h;have a4:=yT (Lq.1 E);have G:=yO (Lq.1 h5);have H:c.ev.length≤32:=by
  refine Lq.1 λI=>?_;apply h1;unfold Ju;rw[if_pos (by omega)];decide
 exact ⟨H,h2,by omega,by omega,λx hx=>(a4 x hx).1,λx hx=>(G x hx).1,λx hx=>(a4 x hx).2,λx hx=>(G x hx).2,h,Lq.1 h1⟩
theorem Z7.e {N:Nat}{H:Array Obj}{aa:List QP}{va vt:Value}{c:Int}(h:Z7 N H aa va vt c):c=K1 aa:=by
 unfold Z7 at h;unfold K1;by_cases h1:KX aa≠0
 ·rw[if_pos h1] at h ⊢;exact h.1
 rw[if_neg h1] at h ⊢;cases hs:sync aa with
 | none=>rw[hs] at h;exact h.1
 | some z=>rw[hs] at h;exact h.1
theorem Z7.bad {N:Nat}{H:Array Obj}{aa:List QP}{va vt:Value}{c:Int}(h:Z7 N H aa va vt c) (hc:c≠0):va=zA∧vt=Zz:=by
 unfold Z7 at h;by_cases h1:KX aa≠0
 ·rw[if_pos h1] at h;exact h.2
 rw[if_neg h1] at h;cases hs:sync aa with
 | none=>rw[hs] at h;exact h.2
 | some z=>rw[hs] at h;exact absurd h.1 hc
theorem Z7.good {N:Nat}{H:Array Obj}{aa:List QP}{va vt:Value}{c:Int}(h:Z7 N H aa va vt c) (hc:c=0):YY N H va (syA aa)∧y9 N H vt (syQ aa)∧sync aa=some (syA aa,syQ aa)∧KX aa=0:=by
 unfold Z7 at h;unfold syA syQ;by_cases h1:KX aa≠0
 ·rw[if_pos h1] at h;exact absurd (h.1.symm.trans hc) h1
 rw[if_neg h1] at h;cases hs:sync aa with
 | none=>rw[hs] at h;rw[h.1] at hc;cases hc
 | some z=>rw[hs] at h;exact ⟨h.2.1,h.2.2,O,Lq.1 h1⟩
theorem Z7.st1 {N b:Nat}{w w':World}{aa:List QP}{va vt:Value}{c:Int}(h:Z7 N w.heap aa va vt c) (hb:b<N) (hs:Step [b] w w'):Z7 N w'.heap aa va vt c:=by
 unfold Z7 at *;split
 ·rename_i h1;rw[if_pos h1] at h;exact h
 rename_i h1;rw[if_neg h1] at h;cases hq:sync aa with
 | none=>rw[hq] at h;exact h
 | some z=>rw[hq] at h;exact ⟨h.1,XW h.2.1 hb hs,QeY h.2.2 hb hs⟩
theorem Z7.mono {N M:Nat}{H:Array Obj}{aa:List QP}{va vt:Value}{c:Int}(h:Z7 N H aa va vt c) (E:M≤N):Z7 M H aa va vt c:=by
 unfold Z7 at *;split
 ·rename_i h1;rw[if_pos h1] at h;exact h
 rename_i h1;rw[if_neg h1] at h;cases hq:sync aa with
 | none=>rw[hq] at h;exact h
 | some z=>rw[hq] at h;exact ⟨h.1,h.2.1.mono E,h.2.2.mono E⟩
theorem QfF (c:Zv):Yr c=if Q8 c≠0 then Q8 c else if K1 (auts c.co)≠0 then K1 (auts c.co) else K1 (auts c.co++auts c.rq):=by
 unfold Yr;split
 ·rfl
 have e:K1 (auts c.co)=if KX (auts c.co)≠0 then KX (auts c.co) else match sync (auts c.co) with | none=>3 | some _=>0:=rfl
 by_cases h1:KX (auts c.co)≠0
 ·rw[if_pos h1] at e;rw[if_pos h1,e,if_pos h1]
 rw[if_neg h1] at e;rw[if_neg h1];cases hs:sync (auts c.co) with
 | none=>rw[hs] at e;simp only[] at e;rw[e];rfl
 | some z=>rw[hs] at e;simp only[] at e;rw[e];rfl
theorem Qbi (c:CL):(c.co.map (·.p)).map (·.a)=auts c.cel.co:=by unfold auts;show _=(c.co.map IV.it).map _;rw[Me,Me];rfl
theorem QgY (c:CL):(c.rq.map (·.p)).map (·.a)=auts c.cel.rq:=by unfold auts;show _=(c.rq.map IV.it).map _;rw[Me,Me];rfl
theorem ze {ps:List AV}(h:∀p∈ps,Zi p.a):∀p∈ps,p.a.st≤4096:=λp hp=>(h p hp).st1
def qK (N:Nat) (H:Array Obj) (c:Zv) (va vt:Value) (e:Int):Prop:=if Q8 c≠0 then e=Q8 c∧va=zA∧vt=Zz else Z7 N H (auts c.co) va vt e
theorem Qe2 {L:LN}{w:World}{c:CL}(h:ZB L w.heap c) (hg:Kb w 4096) :
  QI prog 28 [c.val] w λr w'=>Step [] w w'∧∃va vt e,r=.tuple #[va,vt,.int .i64 e]∧qK w.heap.size w'.heap c.cel va vt e:=by
 refine QI.of_W func28 O ntmps28 results28 (by simp) ?_;refine Qc<|xl O<|QQ (us:=c.cells) O λb1 w1 V hu hh=>xl O<|Qt (us:=[nS,.int .i64 0,nS,nS]) O λb2 w2 Y hv J=>x Qf<|Qe ?_;have ha:=V.trans Y;have hw:=V.size;have hb:=hh.ext Y;refine Qg<|Qc<|x (Qr hb O O)<|xl O<|xf<|(Ym (h.ext ha)).mono ?_;rintro r3 w3 ⟨rfl,E⟩;refine Qe ?_;have S:=ha.trans E;have hy:=J.lt
 refine Qc<|Qb<|x (Q9 O O)<|xe<|Q7 rfl (λh9=>?_) (λh9=>?_)
 ·refine Qc<|x (QE U)<|Qb<|xl O<|Qp (us:=[nS,.int .i64 0,nS,nS]) (J.ext E) O O O O ⟨O,O,O,O,U⟩ λw4 hi hj=>x Qf<|Qe ?_;exact Qm ⟨[zA,Zz,.int .i64 (Q8 c.cel)],⟨⟨_,O,Qx O (hj.at (L:=[]) (by simp)).cells⟩,rfl,rfl,U⟩,S.then1 hi (by omega),zA,Zz,_,rfl,by unfold qK;rw[if_pos h9];exact ⟨O,O,O⟩⟩
 have hk:=ZF (Lq.1 h9);refine Qi<|Qc ?_;have h3:=h.ext S;refine x (Qa O)<|x (Qd (hb.ext E) O O)<|xl O<|xf<|(jP h3.co).mono ?_;rintro r5 w5 ⟨T,hl⟩;have H:=S.trans T;have hm:∀p∈c.co.map (·.p),Zi p.a:=λp hp=>by
  obtain ⟨q,hq,rfl⟩:=Ly.1 hp;exact hk.co q.it (LG hq)
 have hz:=h.co.arr.le;have hn:Xg [] w5.heap r5 (c.co.map (·.p)):=Qd1 hl (by rw[Lh];omega) (by simp) (λp hp=>by
  obtain ⟨q,hq,rfl⟩:=Ly.1 hp;exact (((h.co.each q hq).up (L':=[]) (by simp)).ext H))
 refine xl rfl<|xf<|(UE (km:=4096) hn (hg.ext H) (by decide) (ze hm)).mono ?_;rintro r6 w6 ⟨hc,va,vt,e,rfl,I⟩;rw[Qbi] at I;have ho:=H.trans hc;have hr:=H.size;have hs:∃us,va=.agg us.toArray∧us.length=4∧ZO us:=by
  by_cases he:e=0
  ·exact X8 (I.good he).1
  exact ⟨[nS,.int .i64 0,nS,nS],(I.bad he).1,O,O,O,O,O,U⟩
 refine Exists.elim hs λus G=>?_;refine x (Ql O O)<|x (Ql O O)<|x (Ql O O)<|xl O<|Qp (us:=us) ((J.ext E).ext (T.trans hc)) O G.1 G.2.1 O G.2.2 λw7 hf ht =>
  x Qf<|Qe<|Qm ⟨[.agg us.toArray,vt,.int .i64 e],⟨⟨_,O,Qx G.2.1 (ht.at (L:=[]) (by simp)).cells⟩,rfl,rfl,U⟩,ho.then1 hf (by omega),va,vt,e,by rw[G.1];rfl,?_⟩
 unfold qK;rw[if_neg h9];exact (I.st1 (by have:=T.size;have:=E.size;omega) hf).mono hr
theorem zF {L:LN}{w:World}{v:Value}{l:LI}{m:Int}(h:QK L w.heap v l) (J:Kb w m) (hb:∀n∈l,0≤n∧n<m) (hl:l.length≤1000000) :
  QI prog 72 [v] w λr w'=>r=.string ⟨(Xh l).toArray⟩∧Step [] w w':=by
 refine QI.of_W func72 O ntmps72 results72 (by simp) ?_;refine Qc<|Qe<|Qc<|xl O<|Qt (us:=[.pointer none,nS]) O λH w1 ha S hc=>xe ?_;refine Qg<|Qc<|Qb<|x (Qs h O)<|Qb<|xe ?_
 refine Qh<|QA (α:=Nat×Value) [(5,5),(8,16)] (λz=>[(8,.int .i64 z.1)]) (λz w'=>z.1≤l.length∧Step [] w w'∧(z.2=.pointer none∨z.2=me H)∧Bl z.2 H (Xh (l.take z.1)) w'∧(Xh (l.take z.1)).length≤8*z.1) (λz=>l.length - z.1) (by rfl) (0,.pointer none) Z
  ⟨Lj _,ha,.inl O,⟨_,hc,QM _ _ _ _⟩,Lr _⟩ ?_
 rintro ⟨k,p⟩ g w2 ⟨hk,E,hp,G,he⟩;simp only[] at hk hp G he;refine Qc<|x (QB O O)<|xe<|Qg<|QH O (λh9=>?_) (λh9=>?_)
 ·refine Qy<|Qc ?_;rw[Ll (by omega)] at G;refine xl O<|xf<|(U7 E S hp G).mono ?_;rintro r3 w3 ⟨rfl,hf⟩;refine Qe ?_;exact Qm ⟨[.string ⟨(Xh l).toArray⟩],Z,O,hf⟩
 have I:k<l.length:=by omega
 have hm:=hb l[k] (Lc I);obtain ⟨q,hq⟩:∃q:Nat,l[k]=q:=⟨l[k].toNat,by omega⟩;have hg:l[k].toNat=q:=by omega
 have hn:=Vh 7 q (by have:=J.le;omega);have T:Xh (l.take (k+1))=Xh (l.take k)++(Lib.decDigits q++[32]):=by
  rw[Le I];unfold Xh;rw[LA,List.flatMap_singleton,hg]
 refine Qi<|Qg<|Qh<|Qc<|xii (h.ext E) O O I λho hh=>x (Qv hh O)<|Qe<|Qz<|Qb<|xl O<|xf ?_;refine (show QI _ _ [.int .i64 l[k]] _ _ by rw[hq];exact (QaT q (by omega) w2 (J.ext E))).mono ?_;rintro r4 w4 ⟨rfl,V⟩;have hi:(⟨(Lib.decDigits q).toArray⟩:ByteArray).size+(⟨#[32]⟩:ByteArray).size≤1000000000:=by show (Lib.decDigits q).toArray.size+1≤_;simp;omega
 refine x (YS O O hi)<|xl O<|xf<|(Ji (E.trans V) S hp (G.ext V) ((⟨(Lib.decDigits q).toArray⟩:ByteArray)++(⟨#[32]⟩:ByteArray)) (by rw[ByteArray.size_append];show _+((Lib.decDigits q).toArray.size+1)≤_;simp;omega)).mono ?_;rintro r5 w5 ⟨hj,Y⟩;refine xe<|Qz<|QN O O<|Qb<|xe<|⟨(k+1,me H),by simp only[];omega,Z,by simp only[];omega,hj,.inr O,?_,?_⟩
 ·simp only[];rw[T];have e:((⟨(Lib.decDigits q).toArray⟩++⟨#[32]⟩:ByteArray)).data.toList=Lib.decDigits q++[32]:=by rw[ByteArray.data_append];simp
  rw[e] at Y;exact Y
 simp only[];rw[T];simp;omega
structure Sty where
 c:CL
 p:AV
 vq:Value
 qs:List TV
 s:AV
 vt:Value
 ts:List TV
 vs:Value
 vx:Value
 vk:Value
 qx:List XV
 ks:List KV
 bm:Nat
 mm:List (ByteArray×Value)
abbrev Sty.cells (q:Sty):LV:=[q.c.ve,q.c.vc,q.c.vr,q.c.vx,q.c.vk,q.p.va,.int .i64 q.p.a.st,q.p.vm,q.p.ve,q.vq,q.s.va,.int .i64 q.s.a.st,q.s.vm,q.s.ve,q.vt,q.vs,q.vx,q.vk,.map (some q.bm)]
structure Xl (L:LN) (b:Nat) (H:Array Obj) (q:Sty):Prop where
 B:Q4 H b 154 q.cells
 bL:b∉L
 c:ZB L H q.c
 p:Zu L H q.p.va q.p.vm q.p.ve q.p.a
 s:Zu L H q.s.va q.s.vm q.s.ve q.s.a
 qs:Xk L H q.vq q.qs
 ts:Xk L H q.vt q.ts
 k1:QK L H q.vs (szs q.c.cel.co)
 k2:UM L H q.vx q.qx
 k3:UY L H q.vk q.ks
 mL:q.bm∉L
 m:Z0 Y7 H q.bm q.mm
theorem Xl.ext {L:LN}{b:Nat}{w w':World}{q:Sty}(h:Xl L b w.heap q) (hs:Step [] w w'):Xl L b w'.heap q:=⟨h.B.ext hs,h.bL,h.c.ext hs,h.p.ext hs,h.s.ext hs,h.qs.ext hs,h.ts.ext hs,h.k1.ext hs,h.k2.ext hs,h.k3.ext hs,h.mL,h.m.ext hs⟩
theorem Xl.st {L:LN}{b:Nat}{w w':World}{q:Sty}(h:Xl L b w.heap q) (hs:Step L w w'):Xl L b w'.heap q:=⟨h.B.step hs h.bL,h.bL,h.c.st hs,h.p.st hs,h.s.st hs,h.qs.st hs,h.ts.st hs,h.k1.st hs,h.k2.st hs,h.k3.st hs,h.mL,h.m.step hs h.mL⟩
theorem Xl.up {L L':LN}{b:Nat}{H:Array Obj}{q:Sty}(h:Xl L b H q) (E:∀b∈L',b∈L∨H.size≤b):Xl L' b H q :=
 ⟨h.B,λhm=>by rcases E _ hm with h1 | h1;exact h.bL h1;have:=h.B.lt;omega,h.c.up E,h.p.up E,h.s.up E,h.qs.up E,h.ts.up E,h.k1.up E,h.k2.up E,h.k3.up E,λhm=>by rcases E _ hm with h1 | h1;exact h.mL h1;have:=h.m.lt;omega,h.m⟩
structure Qkm (q:Sty):Prop where
 ok:Q8 q.c.cel=0
 p:sync (auts q.c.cel.co)=some (q.p.a,q.qs.map (·.2))
 s:sync (auts q.c.cel.co++auts q.c.cel.rq)=some (q.s.a,q.ts.map (·.2))
 ex:q.qx.map (·.x)=q.c.cel.ex
 cs:q.ks.map (·.k)=q.c.cel.cs
 m:Vp q.c.co.length q.mm (q.qs.map (·.2))
theorem Yb {l:List XT}(h:∀x∈l,Zi x.a):∀a∈auts l,Zi a:=λa ha=>by
 obtain ⟨x,hx,rfl⟩:=Ly.1 ha;exact h x hx
def stp (a:QP) (s v:Int):Int×Bool×Int:=if cks a s≠0 then (0,false,cks a s) else if v∉a.al then (0,false,9) else if 0≤nxt a.ed s v then (nxt a.ed s v,true,0) else (0,false,0)
theorem QeU {L:LN}{w:World}{va vm ve:Value}{a:QP}(h:Zu L w.heap va vm ve a) (s v:Int) :
  QI prog 30 [.agg #[va,.int .i64 a.st,vm,ve],.int .i64 s,.int .i64 v] w λr w'=>r=.tuple #[.int .i64 (stp a s v).1,.bool (stp a s v).2.1,.int .i64 (stp a s v).2.2]∧Step [] w w':=by
 have E:stp a s v=(if cks a s≠0 then (0,false,cks a s) else if v∉a.al then (0,false,9) else if 0≤nxt a.ed s v then (nxt a.ed s v,true,0) else (0,false,0)):=rfl
 refine Zh (stp a s v) λR hR=>?_;rw[hR] at E ⊢;refine QI.of_W func30 O ntmps30 results30 (by simp) ?_;refine Qc<|xl O<|QQ (us:=[va,.int .i64 a.st,vm,ve]) O λb3 w1 Y he I=>x Qf<|x Qf<|Qe<|Qg<|Qc<|x (Qr I O O)<|Qb<|xl O<|xf<|(XB (h.ext Y) s).mono ?_;rintro r2 w2 ⟨rfl,J⟩;refine Qe ?_;have G:=Y.trans J;refine Qc<|Qb<|x (Q9 O O)<|xe<|Q7 rfl (λH=>?_) (λH=>?_)
 ·rw[if_pos H] at E;subst E;refine Qc<|Qb<|x Qf<|x Qf<|Qe ?_;exact Qm ⟨[_,_,_],⟨O,O,O,U⟩,O,G⟩
 rw[if_neg H] at E;refine Qi<|Qg<|Qc<|x (Qa O)<|x (Qd (I.ext J) O O)<|Qb<|xl O<|xf<|(ZR (h.al.ext G) v).mono ?_;rintro r3 w3 ⟨rfl,rfl⟩;refine x (V4 O)<|xe<|Q7 rfl (λS=>?_) (λS=>?_)
 ·rw[if_pos S] at E;subst E;refine Qc<|x Qf<|x Qf<|Qe ?_;exact Qm ⟨[_,_,_],⟨O,O,O,U⟩,O,G⟩
 rw[if_neg S] at E;refine Qi ?_;have hc:cks a s=0:=Lq.1 H;have ha:X2 a=0:=by
  unfold cks at hc;refine Lq.1 λT=>?_;rw[if_pos T] at hc;exact T hc
 have hsr:0≤s∧s<a.st:=by
  unfold cks at hc;rw[if_neg (by rw[ha];decide)] at hc;refine Lq.1 λT=>?_;rw[if_pos (by omega)] at hc;cases hc
 refine Qg<|Qc<|x (Qr (I.ext J) O O)<|Qb<|Qb<|xl O<|xf<|(yY (h.ed.ext G) ((ZS a).1 ha) s v hsr.1 hsr.2).mono ?_;rintro r4 w4 ⟨rfl,hb⟩;refine Qe<|Qc<|Qb<|x (ZX O O)<|xe<|Q7 rfl (λV=>?_) (λV=>?_)
 ·rw[if_pos V] at E;subst E;refine Qc<|Qb<|x Qf<|x Qf<|Qe ?_;exact Qm ⟨[_,_,_],⟨O,O,O,U⟩,O,G.trans hb⟩
 rw[if_neg V] at E;subst E;refine Qi<|Qc<|x Qf<|x Qf<|Qe ?_;exact Qm ⟨[_,_,_],⟨O,O,O,U⟩,O,G.trans hb⟩
theorem Qdy (E:List Ed) (s v:Int):nxt E s v=(eget E s v).getD (-1):=by
 induction E with
 | nil=>rfl
 | cons e E ih =>
  rw[nxt,eget];by_cases h:e.1=s∧e.2.1=v
  ·rw[if_pos h,if_pos h];rfl
  rw[if_neg h,if_neg h];exact ih
theorem Qhz {a:QP}(h:Zi a) {s v:Int}(G:0≤s) (h1:s<a.st) (E:v∈a.al):(stp a s v).2.1=(eget a.ed s v).isSome:=by
 have hc:cks a s=0:=by unfold cks;rw[if_neg (by rw[(ZS a).2 h];decide),if_neg (by omega)]
 unfold stp;rw[if_neg (by rw[hc];decide),if_neg (by simpa using E),Qdy];cases he:eget a.ed s v with
 | none=>rfl
 | some t =>
  have:=(h.ed _ (yG he)).2.2.2.1;rw[Option.getD_some,if_pos (by simpa using this)];rfl
theorem zZ {L L':LN}{w:World}{b:Nat}{q:Sty}{vt:Value}{t:LI}(H:Xl L b w.heap q) (I:QK L' w.heap vt t) (J:q.c.co.length≤t.length) :
  QI prog 71 [.pointer (some ⟨b,0,none⟩),vt] w λr w'=>Step [] w w'∧∃E G,r=.tuple #[E,G]∧QK L' w'.heap E (t.take q.c.co.length)∧QK L' w'.heap G (t.drop q.c.co.length):=by
 refine QI.of_W func71 O ntmps71 results71 (by simp) ?_;refine Qc<|x Qf<|Qe<|Qc<|Qb<|x (QC O)<|x (Qa O)<|x (Qa O)<|x (Qd H.B O O)<|x (Qs H.c.co.arr O)<|Qe<|Qg<|QW (Step [] w) [(0,true),(1,true),(2,true),(3,true),(4,true),(5,true),(6,true),(7,true),(8,true)] mixed (by rfl) (by kernel_rfl) (Step.drew _ _) ?_
 refine p (λ_=>Qo)<|p (λ_=>Qo)<|p (λ_=>Qo)<|Qj6 (hi:=q.c.co.length) O I O O O J λE h1=>p (λ_=>Qo)<|p (λ_=>Qo)<|QhM (lo:=q.c.co.length) O I O O J λG h2 =>
  p (λ_=>Qf)<|p (λ_=>Qf)<|pe ?_
 refine Qm ⟨[_,_],⟨O,O,U⟩,Step.drew _ _,E,G,O,?_,?_⟩
 ·rw[Nat.mul_one,←List.map_take] at h1;have e:(t.take q.c.co.length).length=q.c.co.length:=by rw[Lx];omega
  unfold QK;rw[e];exact h1
 exact QK.drop h2
theorem Qdb {v:Int}{i:Nat}{y:XT}{l:List XT}{s:Int}{ss:LI}:rfr v i (y::l) (s::ss)=if v∈y.a.al∧(eget y.a.ed s v).isSome=false then (i:Int) else rfr v (i+1) l ss:=rfl
set_option maxHeartbeats 1000000 in
theorem jB {L L':LN}{w:World}{b:Nat}{q:Sty}{vr:Value}{rs:LI}{v:Int}(S:Xl L b w.heap q) (hr:QK L' w.heap vr rs) (hp:∀x∈q.c.rq,Zi x.p.a) (hv:Vt (auts q.c.cel.rq) rs) :
  QI prog 152 [.pointer (some ⟨b,0,none⟩),vr,.int .i64 v] w λr w'=>r=.int .i64 (rfr v 0 q.c.cel.rq rs)∧Step [] w w':=by
 have h5:=S.c.rq.arr.le;have h6:rs.length=q.c.rq.length:=by rw[hv.1];unfold auts;show ((q.c.rq.map IV.it).map _).length=_;simp
 refine Zh (rfr v 0 q.c.cel.rq rs) λR hR=>?_;rw[hR];refine QI.of_W func152 O ntmps152 results152 (by simp) ?_;refine Qc<|Qe<|Qg<|Qc<|Qb<|x (QC O)<|x (Qa O)<|x (Qa O)<|x (Qd S.B O O)<|x (Qs S.c.rq.arr O)<|Qb<|xe ?_
 refine Qh<|QA (α:=Nat) [(6,11),(18,44)] (λz=>[(18,.int .i64 z)]) (λz w'=>z≤q.c.rq.length∧Step [] w w'∧rfr v z ((q.c.rq.drop z).map (·.it)) (rs.drop z)=R) (λz=>q.c.rq.length - z) (by rfl) 0 Z
  ⟨Lj _,Step.refl _ _,hR⟩ ?_
 rintro k g w1 ⟨hk,I,E⟩;refine Qc<|x (QB O O)<|xe<|Qg<|QH O (λha=>?_) (λha=>?_)
 ·refine Qy ?_;have hq:q.c.rq.length≤k:=by have hs:¬(k:Int)<(q.c.rq.length:Int):=ha;omega
  rw[Lp hq] at E;have ht:R=-1:=E.symm;refine Qc<|Qe ?_;exact Qm ⟨[_],Z,by rw[ht];rfl,I⟩
 have G:k<q.c.rq.length:=by have hs:(k:Int)<(q.c.rq.length:Int):=ha;omega
 have H:k<rs.length:=by omega
 have hb:=Lc G;rw[Xs G,QZ H,Qdb] at E;have J:∀hz:k<(auts q.c.cel.rq).length,0≤rs[k]'H∧rs[k]'H<((auts q.c.cel.rq)[k]'hz).st:=λhz=>hv.2 k H hz;have hh:k<(auts q.c.cel.rq).length:=by unfold auts;show k<((q.c.rq.map IV.it).map _).length;simpa using G
 have J:=J hh;have hu:(auts q.c.cel.rq)[k]'hh=(q.c.rq[k]'G).p.a:=by unfold auts;show ((q.c.rq.map IV.it).map _)[k]'_=_;simp[IV.it]
 rw[hu,Zn H] at J;rw[Zn H] at E;refine Qi<|Qg<|Qh<|Qc<|Qb<|xig Yz (S.c.rq.arr.ext I) O O G λh7 hi=>?_;refine Zh (q.c.rq[k]'G) λy hy=>?_;rw[hy] at hi hb E J;have T:=(S.c.rq.each y hb).ext I;have hj:=hp y hb;refine x (QF hi O O)<|xl O<|Qt (us:=[.string .empty,nS,.int .i64 0,nS,nS]) O λb8 w2 hw h0 Y=>x Qf <|
  xl rfl<|Qp (us:=Za y) Y O O O O ⟨O,T.al.one,O,T.mr.one,T.ed.one,U⟩ λw3 h1 Y=>xe ?_
 have V:Step [] w1 w3:=hw.then1 h1 h0;refine Qg<|Qc<|x (Qa O)<|x (Qa O)<|x (Qd Y O O)<|Qb<|xl O<|xf<|(XC (T.al.ext V) hj.ali v).mono ?_;rintro r4 w4 ⟨rfl,rfl⟩;refine x (V4 O)<|xe<|Q7 rfl (λhe=>?_) (λhe=>?_)
 ·rw[if_neg (λe=>he e.1)] at E;refine Qy<|Qz<|QN O O<|Qb<|xe ?_;exact ⟨k+1,by omega,Z,G,I.trans V,E⟩
 have hl:v∈y.p.a.al:=Lq.1 he;have hm:=Qhz hj J.1 J.2 hl;refine Qi ?_;have h2:=(hr.ext I).ext V;refine Qg<|QW (Step [] w4) [(0,true),(1,true),(2,true),(3,true),(4,true),(5,true),(6,true),(7,false),(8,true),(9,true),(10,true),(11,true),(12,true),(13,true),(14,true)] mixed (by rfl) (by kernel_rfl) (Step.drew _ _) ?_
 refine p (λ_=>Qa O)<|pq (λ_ hc=>Yp (us:=Zc y.p) (Y.step hc (by simp)) rfl rfl rfl)<|p (λ_=>Qo)<|p (λ_=>Qo)<|pic (i:=k) rfl h2 rfl rfl H λh8 h3 =>
  pq (λ_ hc=>Qv (h3.ext hc) O)<|p (λ_=>Qo)<|pk<|xf<|(QeU ((T.ext V).ext (Step.drew _ _)) (cget rs k) v).mono ?_
 rintro r5 w5 ⟨rfl,h4⟩;have hn:=(Step.drew [] w4).trans h4;refine ⟨hn,?_⟩;refine p (λ_=>Qo)<|p (λ_=>Ql O O)<|p (λ_=>Ql O O)<|p (λ_=>Ql O O)<|p (λ_=>Qf) <|
  p (λ_=>Qf)<|p (λ_=>Qf)<|pe ?_
 have ho:=(I.trans V).trans hn;refine Qc<|Qb<|x (Zs O)<|xe<|Q2 rfl (λhf=>?_) (λhf=>?_)
 ·have hg:(eget y.p.a.ed (cget rs k) v).isSome=false:=by rw[←hm];simpa using hf
  rw[if_pos ⟨hl,hg⟩] at E;refine Qc<|Qb<|Qe ?_;exact Qm ⟨[_],Z,by rw[←E];rfl,ho⟩
 have hg:¬(eget y.p.a.ed (cget rs k) v).isSome=false:=by rw[←hm];simpa using hf
 rw[if_neg (λe=>hg e.2)] at E;refine Qi<|Qz<|QN O O<|Qb<|xe ?_;exact ⟨k+1,by omega,Z,G,ho,E⟩
end Go.Proofs.YtdffckgdcegpaaaGreatDoor
namespace Go.Lg
open Go.RowKit
def Xf (L:LN) (W W':World):Prop:=∀(k:Nat) (o:Obj),k∉L→W.heap[k]?=some o→o.isCells=true→W'.heap[k]?=some o
theorem Xf.refl (L:LN) (W:World):Xf L W W:=λ_ _ _ h _=>h
theorem Xf.trans {L:LN}{A B C:World}(h:Xf L A B) (k:Xf L B C):Xf L A C:=λi o E G hc=>k i o E (h i o E G hc) hc
theorem Xf.step {L:LN}{W W':World}(h:Step L W W'):Xf L W W':=λk _ G E _=>(h.block k (Lz.1 E).1 G).trans E
theorem At.cst {L:LN}{W W':World}{a:Addr}{us:LV}(h:At L W.heap a us) (hc:Xf L W W') (hz:W.heap.size≤W'.heap.size):At L W'.heap a us:=by
 refine ⟨h.out,λu hu=>LX (h.lt u hu) hz,λj u hu=>?_⟩;have h1:=h.cell j u hu;unfold cel at h1 ⊢;rw[ZK] at h1 ⊢;cases E:W.heap[a.block]? with
 | none=>rw[E] at h1;cases h1
 | some o =>
  rw[E] at h1;cases o with
  | cells c t m=>rw[hc a.block _ (h.out u (LT hu)) E rfl];exact h1
  | _=>cases h1
theorem Zq.cst {L:LN}{W W':World}{v:Value}{n sz:Nat}{cs:LV}(h:Zq L W.heap v n sz cs) (hc:Xf L W W') (hz:W.heap.size≤W'.heap.size):Zq L W'.heap v n sz cs :=
 ⟨h.1,h.2.1,h.2.2.imp id λ⟨a,cap,h1,h2,h3⟩=>⟨a,cap,h1,h2,h3.cst hc hz⟩⟩
structure LwC (B:Nat) (L:LN) (W W':World):Prop where
 lw:Lw B L W W'
 cst:Xf L W W'
theorem LwC.trans {B:Nat}{L:LN}{E w w':World}(h:LwC B L E w) (k:LwC B L w w'):LwC B L E w':=⟨h.lw.trans k.lw,h.cst.trans k.cst⟩
def rdC {α:Type}(B:Nat) (L:LN) (I:List α→World→Prop) (X:Exit→List α→World→Prop) (xs:List α) (W:World):Exit→LN→Fr→World→Prop
 | .normal,_,_,W'=>X6 B L W W'∧Xf L W W'∧I xs W'
 | .ret,_,_,W'=>X6 B L W W'∧X .ret xs W'
 | .exit i,_,_,W'=>X6 B L W W'∧X (.exit i) xs W'
 | _,_,_,_=>False
theorem jb {α:Type}{m:Nat}{P:Program}{n:Nat}{Q:Exit→LN→Fr→World→Prop}{ds:LN}{f:Fr}{w:World}{g:Operand}{ps:LN}{assign body:Code}(L:LN) (h1:1≤m)
  {gf:Nat} {fn:Func} [hF:Fu P gf fn] {capt:LV} (hg:ev f g=.func (.func gf) #[] capt.toArray) {encs:α→LV} {S Sp:List α→Prop} {N:Nat} (hp:∀p∈ps,p<n) (hj:∀x,(encs x).length=ps.length)
  (hm:SeqStopsK (fen none) (m - 1) P gf capt.toArray (λx=>(encs x).toArray) (LwC w.heap.size L) S Sp N w)
  (I:List α→World→Prop) (hI:∀s,ZU w.heap.size (I s)) (X:Exit→List α→World→Prop) (hX:∀e s,ZU w.heap.size (X e s)) (h0:I [] w) (A:Fr→α→Fr→World→Prop) (hA:∀x E,ZU w.heap.size (A f x E))
  (hb:∀l pre x W,I pre W→WG (some l) (m - 1 - 1) P n assign (jn (λT E W'=>T=[]∧X6 w.heap.size L W W'∧Xf L W W'∧I pre W'∧A f x E W') (λ_ _ _ _=>False)) [] (jl f ps (encs x)) W)
  (he:∀l pre x E W,I pre W→A f x E W→pre.length<N→WG (some l) (m - 1 - 1) P n body (rdC w.heap.size L I X (pre++[x]) W) [] E W)
  (hn:∀D xs W,w.heap.size≤D→S xs→I xs W→W.heap[D]?=some (.deferred (some []))→Q .normal (D::ds) f W)
  (hf:∀D e pre W,w.heap.size≤D→Sp pre→X e pre W→W.heap[D]?=some (.deferred (some []))→(e=.ret∨∃i,e=.exit i)→Q e (D::ds) f W) :
  WG none m P n (.rangeFunc g ps.toArray assign body) Q ds f w:=by
 unfold WG at hb he ⊢;intro a ha;have eg:∀args w,(callFunc gf args).run P w=.ok (.enter gf args) w:=by
  intro args w;have h1:¬fn.name = "runtime.NumGoroutine" := by simpa using hF.nm
  have h2:¬fn.body=none:=by have:=hF.b;intro e;rw[e] at this;cases this
  simp[callFunc,hF.f,h1,h2]
 have keep:∀{W W':World},X6 w.heap.size L W W'→KeepsFrom w.heap.size W W':=λh=>⟨h.lw.size,λk o _ hk V=>h.other k o hk V⟩;refine wpIn_rangeFunc_ownH (F:=fen none) O h1 (gf:=gf) (lb:=capt.toArray) (by rw[ha.eval];exact hg) U eg hm (λh k=>h.trans k)
  (λW l o o' hl V hq _=>⟨⟨O,O,O,by simp,λk hk _=>World.putObj_heap_other (by omega)⟩,λk o2 _ hk hc=>by
   have hs:k≠l:=λe=>by subst e;rw[V] at hk;cases hk;rw[hq] at hc;cases hc
   rw[World.putObj_heap_other hs];exact hk⟩) (Below.refl _ _) (λx=>by simp[hj x]) I
  (λc pre W=>match c with | .ret=>X .ret pre W | .exit i=>X (.exit i) pre W | _=>False) (ZU.own hI) (λc=>ZU.own λs=>?_) h0
  (λx G W=>∃E,Yn n [] G E∧A f x E W) (λx G=>ZU.own λ_=>ZU.ex λE=>ZU.and (ZU.pure _) (hA x E)) ?_ ?_ ?_ ?_
 ·cases c <;> first | exact hX _ s | exact ZU.pure _
 ·intro l pre x W K hi hK;have hr:Yn n [] { tmps:=(ps.toArray.zip (encs x).toArray).foldl (λt (p,v)=>t.setIfInBounds p v) a.tmps,defers:=[] } (jl f ps (encs x)):=by
   have h2:Yn n [] { a with defers:=[] } f:=⟨ha.size,O,ha.get⟩
   have h3:=K3 ps (encs x) _ _ h2 hp;have e:(ps.toArray.zip (encs x).toArray).foldl (λt (p,v)=>t.setIfInBounds p v) a.tmps=(ps.zip (encs x)).foldl (λt (x:Nat×Value)=>t.setIfInBounds x.1 x.2) a.tmps:=by simp
   rw[e];exact h3
  refine wpIn_mono (hb l pre x W hi _ hr) ?_;rintro e G W' ⟨T,E,h2,_,h3⟩;cases e with
  | normal=>obtain ⟨rfl,Y,ht,h5,h6⟩:=h3;exact hK G W' (keep Y) ⟨Y.lw,ht⟩ h5 ⟨E,h2,h6⟩
  | exit id=>exact h3.elim
  | goto l=>exact h3.elim
  | ret=>exact h3.elim
  | panic ch=>exact h3.elim
  | outgrown=>exact h3.elim
 ·rintro l pre x G W _ _ hi ⟨E,h2,h3⟩ hu;refine wpIn_mono (he l pre x E W hi h3 hu G h2) ?_;rintro e hv W' ⟨T,hw,Y,_,h5⟩;cases e with
  | normal=>exact ⟨keep h5.1,⟨h5.1.lw,h5.2.1⟩,h5.2.2⟩
  | exit id=>exact ⟨keep h5.1,h5.2⟩
  | goto l=>exact h5.elim
  | ret=>exact ⟨keep h5.1,h5.2⟩
  | panic ch=>exact h5.elim
  | outgrown=>exact h5.elim
 ·intro D xs W H J hi hd;exact ⟨D::ds,f,⟨ha.size,by rw[show coll (D::ds)={ target:=.collected D,args:=#[] }::coll ds from rfl,ha.defers],ha.get⟩,λ_ _=>rfl,hn D xs W H J hi hd⟩
 intro D c pre W H J hx hd;have hh:Yn n (D::ds) { a with defers:={ target:=.collected D,args:=#[] }::a.defers } f:=⟨ha.size,by rw[show coll (D::ds)={ target:=.collected D,args:=#[] }::coll ds from rfl,ha.defers],ha.get⟩
 cases c with
 | ret=>exact wpIn_ret ⟨_,f,hh,λ_ _=>O,hf D .ret pre W H J hx hd (.inl O)⟩
 | exit i=>exact wpIn_exit ⟨_,f,hh,λ_ _=>O,hf D (.exit i) pre W H J hx hd (.inr ⟨i,O⟩)⟩
 | _=>exact hx.elim
theorem xy2 {m:Nat}{P:Program}{ops:List Oper}{rest:List Oper}{f:Fr}{w:World}{K:Fr→World→Prop}{d:Option Nat}{ty:Nat}{ps:String}{af:Array Edge}{gd:Option (Nat×Bool)}{x y z:Operand}{at_:Array Nat}{l:Nat}{R:Ending→World→Prop}
  (hx:ev f x=.func (.yield l) #[] #[]) (hy:YieldAt (fen none) (m - 1) P l #[ev f y,ev f z] w R) (E:∀e w',R e w'→∃v,e=.returned v∧Xj P m ops K rest (QR f d v) w')
  (G:Z8 ops f ⟨d,.call ⟨.value x,[y,z].toArray,at_⟩,ty,ps,af,gd⟩=true:=by rfl) :
  Xj P m ops K (⟨d,.call ⟨.value x,[y,z].toArray,at_⟩,ty,ps,af,gd⟩::rest) f w:=by
 obtain ⟨fn,tmps,assign,body,h1,h2⟩:=hy;have H:(execOp (ev f) ⟨d,.call ⟨.value x,[y,z].toArray,at_⟩,ty,ps,af,gd⟩).run P w=.ok (.round l fn tmps assign body) w:=by
  simp[execOp,resolve,hx,Deferred.ofValue,invoke,h1]
 unfold Xj;rw[G];simp only[XOY,H,upY,cond_true];exact h2.mono λe w' h=>by obtain ⟨v,rfl,hk⟩:=E e w' h;exact hk
end Go.Lg
namespace Go.Proofs.YtdffckgdcegpaaaGreatDoor
open Go.Proofs.Tryz
open Go.Lg
def wrf (rq:List XT) (rs:LI):LI→List (Int×Int)
 | []=>[]
 | v::l=>if 0≤rfr v 0 rq rs then (v,rfr v 0 rq rs)::wrf rq rs l else wrf rq rs l
theorem zP (rq:List XT) (rs:LI) (v:Int):∀l,wrf rq rs (l++[v])=wrf rq rs l++if 0≤rfr v 0 rq rs then [(v,rfr v 0 rq rs)] else []
 | []=>by simp only[List.nil_append,wrf]
 | a::l=>by
  simp only[List.cons_append,wrf,zP rq rs v l];by_cases h:0≤rfr a 0 rq rs
  ·rw[if_pos h,if_pos h];rfl
  rw[if_neg h,if_neg h]
theorem JW (rq:List XT) (rs:LI) (b:LI):∀a,wrf rq rs (a++b)=wrf rq rs a++wrf rq rs b
 | []=>rfl
 | x::a=>by
  simp only[List.cons_append,wrf,JW rq rs b a];by_cases h:0≤rfr x 0 rq rs
  ·rw[if_pos h,if_pos h];rfl
  rw[if_neg h,if_neg h]
theorem Qfy (rq:List XT) (rs:LI) (l:LI) (k:Nat):(wrf rq rs (l.take k)).length≤(wrf rq rs l).length:=by
 have h:=JW rq rs (l.drop k) (l.take k);rw[Mu] at h;rw[h,Lk];omega
theorem QcA {rq:List XT}{rs:LI}{l:LI}{k:Nat}(h:k<l.length):wrf rq rs (l.take (k+1))=wrf rq rs (l.take k)++if 0≤rfr (cget l k) 0 rq rs then [(cget l k,rfr (cget l k) 0 rq rs)] else []:=by
 rw[Le h,zP,Zn h]
theorem VJ {rq:List XT}{rs:LI}{x:Int×Int}:∀{l:LI},x∈wrf rq rs l↔x.1∈l∧0≤x.2∧x.2=rfr x.1 0 rq rs
 | []=>by simp[wrf]
 | v::l=>by
  rw[wrf];have ih:=VJ (rq:=rq) (rs:=rs) (x:=x) (l:=l);by_cases h:0≤rfr v 0 rq rs
  ·rw[if_pos h,Lb,ih,Lb];constructor
   ·rintro (rfl | ⟨h1,h2⟩)
    ·exact ⟨.inl O,h,O⟩
    exact ⟨.inr h1,h2⟩
   rintro ⟨h1 | h1,h2,h3⟩
   ·exact .inl (by rw[←h1];exact Prod.ext_iff.2 ⟨O,h3⟩)
   exact .inr ⟨h1,h2,h3⟩
  rw[if_neg h,ih,Lb];constructor
  ·rintro ⟨h1,h2⟩;exact ⟨.inr h1,h2⟩
  rintro ⟨h1 | h1,h2,h3⟩
  ·exact absurd (by rw[←h1,←h3];exact h2) h
  exact ⟨h1,h2,h3⟩
theorem Vs {w:World}{b:Nat}{st:Int}{vr:Value}(J:vr.cells=[vr].toArray) :
  QI prog 74 [.pointer (some ⟨b,0,none⟩),.int .i64 st,vr] w λr w'=>Step [] w w'∧∃b1 b2 E,r=.func (.func 151) #[] #[.pointer (some ⟨b1,0,none⟩),.pointer (some ⟨b2,0,none⟩),.pointer (some ⟨E,0,none⟩)] ∧
   w.heap.size≤b1∧w.heap.size≤b2∧w.heap.size≤E∧Q4 w'.heap b1 147 [.pointer (some ⟨b,0,none⟩)]∧Q4 w'.heap b2 3 [.int .i64 st]∧Q4 w'.heap E 37 [vr]:=by
 refine QI.of_W func74 O ntmps74 results74 (by simp) ?_;refine Qc<|xl O<|QQ (us:=[.pointer (some ⟨b,0,none⟩)]) O λE w1 I S T=>xl O<|QQ (us:=[.int .i64 st]) O λV w2 G hb Y=>xl O<|QQ (us:=[vr]) J λb5 w3 H hc ha=>x Qf <|
  xe ?_
 have he:=I.size;have hf:=G.size;refine Qc<|x Zp<|Qe ?_;exact Qm ⟨[_],Z,(I.trans G).trans H,E,V,b5,O,S,by omega,by omega,(T.ext G).ext H,Y.ext H,ha⟩
set_option maxHeartbeats 4000000 in
theorem Kv {L:LN}{w:World}{S b2 T b m:Nat}{q:Sty}{vr:Value}{rs E:LI}{st:Int}{fl:List (Int×Int)}(hu:Q4 w.heap S 147 [.pointer (some ⟨b,0,none⟩)]) (h7:Q4 w.heap b2 3 [.int .i64 st]) (h8:Q4 w.heap T 37 [vr])
  (hA:S∉L) (hB:T∉L) (hC:∀x∈L,x<w.heap.size) (hS:Xl L b w.heap q) (hr:QK L w.heap vr rs) (hD:∀x∈q.c.rq,Zi x.p.a) (hv:Vt (auts q.c.cel.rq) rs) (hc:cks q.p.a st=0) (hw:enb q.p.a st=E) (hi:wrf q.c.cel.rq rs E=fl) :
  SeqStopsK (fen none) m prog 151 [.pointer (some ⟨S,0,none⟩),.pointer (some ⟨b2,0,none⟩),.pointer (some ⟨T,0,none⟩)].toArray (λx:{ x:Int×Int // x∈fl }=>[Value.int .i64 x.1.1,.int .i64 x.1.2].toArray) (LwC w.heap.size L)
   (λG=>G.map (·.1)=fl) (λpre=>pre.map (·.1) <+: fl) fl.length w:=by
 intro l J Jx W hE hJ hF hY h0;have hf:Step [] w W:=Step.of_below hE;have ab:∀{G:List { x:Int×Int // x∈fl }} {W1 W2:World},J G W1→Step [] W1 W2→J G W2:=λ{G W1 W2} hj hg=>hJ G W1 W2 none hj ⟨hg.os,hg.tape,hg.output,hg.size,λk hk _=>hg.block k hk (by simp)⟩ (λr e=>by cases e);have hG:E.length≤1099511627776:=by
  have h1:=hS.p.ed.le;have h2:=Jm q.p.a.ed st;rw[←hw];unfold enb;rw[Lh];omega
 have hH:=Qfy q.c.cel.rq rs E;rw[hi] at hH;have key:QI prog 151 [.func (.yield l) #[] #[],.pointer (some ⟨S,0,none⟩),.pointer (some ⟨b2,0,none⟩),.pointer (some ⟨T,0,none⟩)] W (λ_ W'=>(∃G,G.map (·.1)=fl∧J G W')∨(∃pre,pre.map (·.1) <+: fl∧Jx pre W')):=by
  refine QI.of_G m func151 O ntmps151 results151 (by simp) ?_;have hI:=hu.ext hf;have hK:=h7.ext hf;have hy:=hS.ext hf;refine QT<|UI (Step [] W) [(0,true),(1,true),(2,true),(3,true),(4,true),(5,false),(6,true),(7,true),(8,true),(9,true),(10,true)] mixed (by rfl) (by rfl) (by kernel_rfl) (Step.drew _ _) ?_
  refine pq (λ_ hc=>Qd (hI.ext hc) O O)<|p (λ_=>QC O)<|p (λ_=>Qa O)<|pq (λ_ hc=>Yp (us:=Zc q.p) (hy.B.ext hc) O O O)<|pq (λ_ hc=>Qd (hK.ext hc) O O)<|pk<|xf<|(Qah (hy.p.ext (Step.drew _ _)) st).mono ?_;rintro r1 w1 ⟨hL,ve,rfl,_,hl⟩;have hl:=hl hc;have hq:=(Step.drew [] W).trans hL;refine ⟨hq,?_⟩;refine p (λ_=>Qo)<|p (λ_=>Ql O O)<|p (λ_=>Ql O O)<|p (λ_=>Qf)<|p (λ_=>Qf)<|pe ?_
  have hP:=hf.size;have hQ:({ W with drawn:=W.drawn+1 }:World).heap.size=W.heap.size:=rfl
  rw[hw] at hl;have hz:QK L w1.heap ve E:=Qu.ints hl hG (λx hx=>by have:=hC x hx;omega);refine QT<|QG (by rfl) (by rfl) ?_;refine Qb<|x (Qs hz O)<|Qb<|xe ?_
  refine ZE<|Vr (α:=Nat×List { x:Int×Int // x∈fl }) [(8,9),(21,38)] (λz=>[(21,.int .i64 z.1)]) (λz ds W'=>ds=[]∧z.1≤E.length∧Step L w W'∧QK L W'.heap ve E∧z.2.map (·.1)=wrf q.c.cel.rq rs (E.take z.1)∧J z.2 W') (λz=>E.length - z.1) (by rfl) (0,[]) Z
   ⟨O,Lj _,(hf.trans hq).any,hz,O,ab h0 hq⟩ ?_
  rintro ⟨k,G⟩ g ds w2 ⟨rfl,hk,V,hm,Y,hn⟩;simp only[] at hk hm Y hn;refine QT<|QG (by rfl) (by rfl) ?_;refine x (QB O O)<|xe<|QT<|qL O (λhs=>?_) (λhs=>?_)
  ·refine JB ?_;have hM:E.length≤k:=by have ho:¬(k:Int)<(E.length:Int):=hs;omega
   rw[Ll hM,hi] at Y;exact ⟨λ_ h=>(by cases h),Mw,[],λW' H=>⟨U,.inl ⟨G,Y,ab hn H⟩⟩⟩
  refine Z3 ?_;have ha:k<E.length:=by have ho:(k:Int)<(E.length:Int):=hs;omega
  have I:=QcA (rq:=q.c.cel.rq) (rs:=rs) ha;have h3:cget E k∈E:=by rw[←Zn ha];exact Lc ha
  refine Zh (cget E k) λv h4=>?_;rw[h4] at I h3;refine Zh (rfr v 0 q.c.cel.rq rs) λj hj=>?_;rw[hj] at I;refine QT<|ZE<|QT<|QG (by rfl) (by rfl) ?_;refine xic (i:=k) hm O O ha λhR ho=>?_;rw[h4] at ho;refine x (Qv ho O)<|Qe<|QT<|QG (by rfl) (by rfl) ?_
  refine x (Qd (hu.step V hA) O O)<|x (Qd (h8.step V hB) O O)<|Qb<|xl O<|xf<|(jB (v:=v) (hS.st V) (hr.st V) hD hv).mono ?_;rintro r3 w3 ⟨h5,hb⟩;rw[hj] at h5;subst h5;refine Qe<|QT<|JN (by rfl) ?_;refine Xj.pre3 ?_;refine Qb<|xb (ZX O O) (λht=>?_) (λht=>?_)
  ·have hp:0≤j:=ht;have hh:(v,j)∈fl:=by rw[←hi];exact VJ.2 ⟨h3,hp,hj.symm⟩
   rw[if_pos hp] at I;have h6:(G++[(⟨(v,j),hh⟩:{ x:Int×Int // x∈fl })]).map (·.1) <+: fl:=by
    rw[Lt,Y,show [(⟨(v,j),hh⟩:{ x:Int×Int // x∈fl })].map (·.1)=[(v,j)] from rfl,←I,←hi];have h9:=JW q.c.cel.rq rs (E.drop (k+1)) (E.take (k+1));rw[Mu] at h9;exact ⟨_,h9.symm⟩
   have hN:G.length<fl.length:=by have h1:=h6.length_le;rw[Lh,Lk,LE] at h1;omega
   refine Qb<|xe<|Xj.pre3 ?_;refine Qb<|Qb<|Qb<|xe<|xy2 (l:=l) O (hY G ⟨(v,j),hh⟩ w3 (ab hn hb) hN) λen W3 hO=>Or.elim hO (λh1=>⟨.bool true,h1.1,?_⟩) (λh1=>⟨.bool false,h1.1,?_⟩)
   ·refine Xj.of_XL<|x (Zs O)<|x (Qj O)<|xe<|JO O<|Z3 ?_;refine QG (by rfl) (by rfl) ?_;refine QN O O<|Qb<|xe ?_;exact ⟨(k+1,G++[⟨(v,j),hh⟩]),by simp only[];omega,Z,O,ha,(V.trans hb).lw h1.2.2.lw,(hm.ext hb).cst h1.2.2.cst h1.2.2.lw.size,by simp only[];rw[I,Lt,Y];rfl,h1.2.1⟩
   refine Xj.of_XL<|x (Zs O)<|x (Qj O)<|xe<|zH O ?_;refine JA ⟨λ_ h=>(by cases h),Mw,[],λW' H=>⟨U,.inr ⟨G++[⟨(v,j),hh⟩],h6,?_⟩⟩⟩;exact hF _ W3 W' none h1.2 ⟨H.os,H.tape,H.output,H.size,λk hk _=>H.block k hk (by simp)⟩ (λr e=>by cases e)
  have hp:¬0≤j:=ht;rw[if_neg hp,LJ] at I;refine Qb<|xe<|Xj.of_XL<|xs O<|xs O<|xs O<|xs O<|xs O<|x (Qj O)<|xe<|JO O<|Z3 ?_;refine QG (by rfl) (by rfl) ?_;refine QN O O<|Qb<|xe ?_;exact ⟨(k+1,G),by simp only[];omega,Z,O,ha,V.trans hb,hm.ext hb,by simp only[];rw[I,Y],ab hn hb⟩
 refine (callsIn_wide (n:=m)).2 ?_;have ea:(#[.func (.yield l) #[] #[]]++[.pointer (some ⟨S,0,none⟩),.pointer (some ⟨b2,0,none⟩),.pointer (some ⟨T,0,none⟩)].toArray:Array Value)=[.func (.yield l) #[] #[],.pointer (some ⟨S,0,none⟩),.pointer (some ⟨b2,0,none⟩),.pointer (some ⟨T,0,none⟩)].toArray:=by simp
 rw[ea];unfold QI at key;refine Calls.mono key λe w' he=>?_;cases e with
 | returned v=>exact ⟨⟨v,O⟩,he⟩
 | panicked c=>exact he.elim
 | outgrown=>exact he.elim
end Go.Proofs.YtdffckgdcegpaaaGreatDoor
namespace Go.Lg
section
variable {P:Program} {K:Fr→World→Prop} {f:Fr} {w:World} {d:Option Nat} {ty:Nat} {ps:String} {af:Array Edge} {gd:Option (Nat×Bool)}
theorem JF {t sz:Nat}[h1:Ag P t sz] {x y:Operand}{b T o:Nat}{cs us E:LV}(G:Q4 w.heap b T cs) (hx:ev f x=.pointer (some ⟨b,o,none⟩)) (hy:ev f y=.agg us.toArray) (hl:us.length=sz) (J:o+sz≤cs.length) (hu:ZO us) (he:cs.take o++us++cs.drop (o+sz)=E)
  (I:∀w',Step [b] w w'→Q4 w'.heap b T E→K (QR f d undef) w'):XO P ⟨d,.store t x y,ty,ps,af,gd⟩ f w K:=by
 have H:=run_storeCells_at P b o T us 0 cs.toArray w G (by simp;omega) hu.all;subst hl;simp only[Nat.add_zero,he] at H;refine xk (w':=w.setRow b E.toArray) ?_ (I _ (Step.setRow _ _ _) (Y1 G));simp[execOp,hx,hy,Instr.storeAt,Instr.sureAddr,storeVar,K2 (sz:=us.length),Value.cells,H]
end
end Go.Lg
namespace Go.Proofs.YtdffckgdcegpaaaGreatDoor
open Go.Proofs.Tryz
open Go.Lg
instance:Bw prog 154 [nS,nS,nS,nS,nS,nS,.int .i64 0,nS,nS,nS,nS,.int .i64 0,nS,nS,nS,nS,nS,nS,.map none] [(0,5),(5,4),(9,1),(10,4),(14,1),(15,3),(18,1)]:=⟨by kernel_rfl,by decide⟩
theorem Z7.shape {N:Nat}{H:Array Obj}{aa:List QP}{v vt:Value}{c:Int}(h:Z7 N H aa v vt c):∃(a:QP) (va vm ve:Value) (qs:List TV),v=.agg #[va,.int .i64 a.st,vm,ve]∧ZO [va,.int .i64 a.st,vm,ve]∧vt.oneCell'=true ∧
  (c=0→sync aa=some (a,qs.map (·.2))∧KX aa=0∧∀L:LN,(∀b∈L,b<N)→Zu L H va vm ve a∧Xk L H vt qs):=by
 by_cases hc:c=0
 ·obtain ⟨⟨va,vm,ve,h1,h2⟩,⟨qs,h3,G⟩,h5,J⟩:=h.good hc;have E:=h2 [] (by simp);exact ⟨syA aa,va,vm,ve,qs,h1,⟨E.al.one,O,E.mr.one,E.ed.one,U⟩,(G [] (by simp)).arr.one,λ_=>⟨by rw[h3];exact h5,J,λL I=>⟨h2 L I,G L I⟩⟩⟩
 obtain ⟨h1,h2⟩:=h.bad hc;exact ⟨⟨[],0,[],[]⟩,Zz,Zz,Zz,[],h1,⟨O,O,O,O,U⟩,by rw[h2];rfl,λe=>absurd e hc⟩
def plE (c:Zv):Int:=if Q8 c≠0 then Q8 c else K1 (auts c.co)
theorem qK.shape {N:Nat}{H:Array Obj}{c:Zv}{v vt:Value}{e:Int}(h:qK N H c v vt e):e=plE c∧∃(a:QP) (va vm ve:Value) (qs:List TV),v=.agg #[va,.int .i64 a.st,vm,ve]∧ZO [va,.int .i64 a.st,vm,ve]∧vt.oneCell'=true ∧
  (e=0→Q8 c=0∧sync (auts c.co)=some (a,qs.map (·.2))∧KX (auts c.co)=0∧∀L:LN,(∀b∈L,b<N)→Zu L H va vm ve a∧Xk L H vt qs):=by
 unfold qK at h;unfold plE;by_cases hc:Q8 c≠0
 ·rw[if_pos hc] at h ⊢;obtain ⟨h1,h2,h3⟩:=h;exact ⟨h1,⟨[],0,[],[]⟩,Zz,Zz,Zz,[],h2,⟨O,O,O,O,U⟩,by rw[h3];rfl,λe=>absurd (h1.symm.trans e) hc⟩
 rw[if_neg hc] at h ⊢;obtain ⟨a,va,vm,ve,qs,h1,h2,h3,E⟩:=h.shape;exact ⟨h.e,a,va,vm,ve,qs,h1,h2,h3,λe=>⟨Lq.1 hc,E e⟩⟩
theorem QfE (c:Zv):Yr c=if plE c≠0 then plE c else K1 (auts c.co++auts c.rq):=by
 rw[QfF];unfold plE;by_cases h:Q8 c≠0
 ·rw[if_pos h,if_pos h,if_pos h]
 rw[if_neg h,if_neg h]
theorem QgX {L:LN}{H:Array Obj}{ps:List AV}(h:∀p∈ps,Zu L H p.va p.vm p.ve p.a):∀u∈ps.flatMap Zc,u.oneCell'=true:=by
 intro u hu;obtain ⟨p,hp,G⟩:=Mj.1 hu;have E:=h p hp;simp only[List.mem_cons,List.not_mem_nil,or_false] at G;rcases G with rfl | rfl | rfl | rfl
 ·exact E.al.one
 ·rfl
 ·exact E.mr.one
 exact E.ed.one
theorem Qig {F:LN→Array Obj→Prop}(st:∀{L:LN}{w w':World},F L w.heap→Step L w w'→F L w'.heap) (up:∀{L L':LN}{H:Array Obj},F L H→(∀b∈L',b∈L∨H.size≤b)→F L' H) {N b:Nat}{w w':World}
  (h:∀L:LN,(∀x∈L,x<N)→F L w.heap) (hb:b<N) (hs:Step [b] w w'):∀L:LN,(∀x∈L,x<N)→F L w'.heap:=λL E =>
 up (st (h (b::L) (λx hx=>by
  rcases Lb.1 hx with rfl | hx
  ·exact hb
  exact E x hx)) (hs.mono (λx hx=>by simp only[List.mem_singleton] at hx;subst hx;exact Ls))) (λx hx=>.inl (Lm _ hx))
theorem Vp.nil (n:Nat):Vp n [] []:=λu _ _=>by simp[mget]
set_option maxHeartbeats 8000000 in
theorem yW {L:LN}{w:World}{c:CL}(h0:ZB L w.heap c) (h6:Kb w 4096) :
  QI prog 70 [c.val] w λr w'=>Step [] w w'∧∃vp,r=.tuple #[vp,.int .i64 (Yr c.cel)]∧(Yr c.cel≠0→vp=.pointer none) ∧
   (Yr c.cel=0→∃b q,vp=.pointer (some ⟨b,0,none⟩)∧q.c=c∧Qkm q∧Xl [] b w'.heap q∧∀L:LN,(∀x∈L,x<w.heap.size)→Zu L w'.heap q.s.va q.s.vm q.s.ve q.s.a∧(ZB L w.heap c→Xl L b w'.heap q)):=by
 have h:=h0.up (L':=[]) (by simp);have hE:=QfE c.cel;refine Zh (Yr c.cel) λE gt=>?_;rw[gt] at hE ⊢;refine QI.of_W func70 O ntmps70 results70 (by simp) ?_;refine Qc<|xl O<|QQ (us:=c.cells) O λb1 w1 hO mf h7=>x Qf<|Qe ?_;have mg:=hO.size;have mh:=h7.lt;have mi:=h.ones
 refine Qc<|x (Qr h7 O O)<|x (Z4 [(0,c.cells)] ⟨O,O,U⟩)<|xl O<|QQ (us:=[c.ve,c.vc,c.vr,c.vx,c.vk,nS,.int .i64 0,nS,nS,nS,nS,.int .i64 0,nS,nS,nS,nS,nS,nS,.map none]) O λG w2 hQ mj I=>Qe ?_;have hg:=hO.trans hQ;have mn:=hg.size;have gu:=I.lt;have hS:=h7.ext hQ;have h2:=h.ext hg;have hge:w.heap.size≤G:=by omega
 have mo:b1≠G:=by omega
 refine Qc<|Qe<|Qg<|Qc<|Qb<|Qb<|x (Qr hS O O)<|xl O<|xf<|(Qe2 h2 (h6.ext hg)).mono ?_;rintro r3 w3 ⟨hh,v3,vq,e3,rfl,hP⟩;obtain ⟨h8,pa,pva,pvm,pve,qs,rfl,gv,gw,gx⟩:=hP.shape;have gy:=hg.trans hh;refine Qb<|x (Ql O O)<|x (Ql O O)<|x (Ql O O)<|x (QC O)<|x (Qa O)<|xl O<|JF (us:=[pva,.int .i64 pa.st,pvm,pve]) (I.ext hh) O O O (by simp) gv rfl λw4 gz I =>
  x (QC rfl)<|x (Qa O)<|xl O<|QL (j:=9) (u:=vq) I O O (by simp) gw λT g0 I=>Qe ?_
 have hi:Step [G] w3 T:=gz.trans' g0;have hj:Step [] w T:=gy.then1 hi hge;refine Qc<|Qb<|x (Q9 O O)<|xe<|Q7 rfl (λhn=>?_) (λhn=>?_)
 ·have g2:plE c.cel≠0:=by rw[←h8];exact hn
  rw[if_pos g2,←h8] at hE;subst hE;refine Qc<|Qb<|x Qf<|Qe ?_;exact Qm ⟨[_,_],⟨O,O,U⟩,hj,.pointer none,O,λ_=>O,λe=>absurd e hn⟩
 have hT:e3=0:=Lq.1 hn;rw[if_neg (by rw[←h8,hT];decide)] at hE;obtain ⟨hU,hA,mq,g3⟩:=gx hT;have Y:=ZF hU;refine Qi ?_;have hB:=(hS.ext hh).step hi (by simp;omega);have h5:=h.ext hj;have mu:=h.co.arr.le;have mv:=h.rq.arr.le;have mw:c.co.length≤8:=by have:=Y.c8;have e:c.cel.co.length=c.co.length:=Lh ..;omega
 have my:c.co.length+c.rq.length≤12:=by have:=Y.cr;have e:c.cel.co.length=c.co.length:=Lh ..;have e':c.cel.rq.length=c.rq.length:=Lh ..;omega
 refine Qg<|Qg<|QW (Step [] T) [(0,true),(1,true),(2,true),(3,true),(5,true),(6,true),(4,false),(7,false),(8,false),(9,false),(10,true),(11,true),(12,true),(13,true),(14,true),(15,true),(16,false),(17,true),(18,true),(19,false),(20,true)] mixed (by rfl) (by kernel_rfl) (Step.drew _ _) ?_
 refine p (λ_=>Qo)<|p (λ_=>Qo)<|p (λ_=>Qa O)<|pq (λ_ hc=>Qd (hB.step hc (by simp)) rfl rfl)<|p (λ_=>Qa rfl) <|
  pq (λ_ hc=>Qd (hB.step hc (by simp)) rfl rfl)<|pk<|xf<|(jP (h5.co.ext (Step.drew _ _))).mono ?_
 rintro r6 w6 ⟨hV,hW⟩;have hC:=(Step.drew [] T).trans hV;refine ⟨hC,?_⟩;refine pk<|xf<|(jP (h5.rq.ext hC)).mono ?_;rintro r7 w7 ⟨hD,g4⟩;have hX:=hC.trans hD;refine ⟨hX,?_⟩;have mz:=hV.size;have m0:=hD.size;have m1:({ T with drawn:=T.drawn+1 }:World).heap.size=T.heap.size:=rfl
 have g5:Zq [] w7.heap r7 (c.rq.map (·.p)).length 4 ((c.rq.map (·.p)).flatMap Zc):=QS g4 (by rw[Lh];omega) (by simp);have g6:=Qn hW;refine pk<|jG (Qq hW hD) O g5 O (QgX λp hp=>by
   obtain ⟨q,hq,rfl⟩:=Ly.1 hp;exact (h.rq.each q hq)) (by rw[Lh,Lh];omega) (by omega) λv8 w8 hY g7 m2=>?_
 have ho:Step [] T w8:=hX.then g7 (λb hb=>.inr (by have:=(g6 b hb).1;omega));refine ⟨ho,?_⟩;have hF:=hj.trans ho;have m3:=ho.size;have g8:Xg [] w8.heap v8 (c.co.map (·.p)++c.rq.map (·.p)):=by
  rw[←Lk,←LA] at hY;exact Qd1 hY (by rw[Lk,Lh,Lh];omega) (by simp) (λp hp=>by
   rcases Li.1 hp with hp | hp
   ·obtain ⟨q,hq,rfl⟩:=Ly.1 hp;exact (h.co.each q hq).ext hF
   obtain ⟨q,hq,rfl⟩:=Ly.1 hp;exact (h.rq.each q hq).ext hF)
 have g9:∀p∈c.co.map (·.p)++c.rq.map (·.p),Zi p.a:=λp hp=>by
   rcases Li.1 hp with hp | hp
   ·obtain ⟨q,hq,rfl⟩:=Ly.1 hp;exact Y.co q.it (LG hq)
   obtain ⟨q,hq,rfl⟩:=Ly.1 hp;exact Y.rq q.it (LG hq)
 refine pk<|xf<|(UE (km:=4096) g8 (h6.ext hF) (by decide) (ze g9)).mono ?_;rintro r9 w9 ⟨ka,v9,vt,e9,rfl,hR⟩;rw[Lt,Qbi,QgY] at hR;have hZ:=hR.e;obtain ⟨sa,sva,svm,sve,ts,rfl,kb,kc,ke⟩:=hR.shape;have hr:=ho.trans ka;refine ⟨hr,?_⟩;refine p (λ_=>Qo)<|p (λ_=>Ql O O)<|p (λ_=>Ql O O)<|p (λ_=>Ql O O)<|p (λ_=>QC O) <|
  p (λ_=>Qa O)<|pkl (hl:=by kernel_rfl)<|JF (us:=[sva,.int .i64 sa.st,svm,sve]) (I.ext hr) O O O (by simp) kb rfl λm4 kf I=>p (λ_=>QC rfl)<|p (λ_=>Qa rfl) <|
  pkl (hl:=by kernel_rfl)<|QL (j:=14) (u:=vt) I O O (by simp) kc λht kg I=>p (λ_=>Qf)<|pe ?_
 have ga:Step [G] w9 ht:=kf.trans' kg;have hu:Step [G] T ht:=hr.any.trans' ga;have hv:Step [] w ht:=hj.then1 hu hge;refine Qc<|Qb<|x (Q9 O O)<|xe<|Q7 rfl (λhG=>?_) (λhG=>?_)
 ·rw[←hZ] at hE;subst hE;refine Qc<|Qb<|x Qf<|Qe ?_;exact Qm ⟨[_,_],⟨O,O,U⟩,hv,.pointer none,O,λ_=>O,λe=>absurd e hG⟩
 have gb:e9=0:=Lq.1 hG;have gc:E=0:=by rw[hE,←hZ,gb]
 obtain ⟨kh,m5,ki⟩:=ke gb;refine Qi ?_;have kj:=hB.step hu (by simp;omega);refine Qc<|Qb<|Qb<|x (Qr kj O O)<|xl O<|xf<|(qD (h.ext hv)).mono ?_;rintro m6 V ⟨hf,vs,vx,vk,qx,ks,rfl,kk,kn,ge⟩;have hH:=ge [] (by simp)
 refine xl rfl<|Yk Y7 λbm ko gg m7 kp=>x (QC O)<|x (Qa O)<|xl O<|JF (us:=[vs,vx,vk]) ((I.ext hf).ext gg) O O O (by simp) ⟨hH.1.one,hH.2.1.arr.one,hH.2.2.arr.one,U⟩ rfl λm8 gh I =>
  x (QC rfl)<|x (Qa O)<|xl O<|QL (j:=18) (u:=.map (some bm)) I O O (by simp) rfl λhI gi I=>xe ?_
 have m9:=hv.size;have pc:=hf.size;have pd:=hu.size;have pf:=hi.size;have pg:=hh.size;have ph:=hr.size;have pj:G<V.heap.size:=by omega
 have kq:bm≠G:=by omega
 have gj:Step [G] V hI:=(gg.any.trans' gh).trans' gi;have kr:Step [G] ko hI:=gh.trans' gi;have kt:Z0 Y7 hI.heap bm []:=kp.step kr (by simpa using kq);have ku:Step [G] w3 V:=(hi.trans' hu).trans hf;have kv:Step [G] w9 V:=ga.trans hf;have kw:=hv.trans hf
 have fP:∀{w':World},Step [G] V w'→∀L:LN,(∀x∈L,x<w2.heap.size)→Zu L w'.heap pva pvm pve pa∧Xk L w'.heap vq qs:=λhs =>
  Qig (F:=λL H=>Zu L H pva pvm pve pa∧Xk L H vq qs) (λh hs=>⟨h.1.st hs,h.2.st hs⟩) (λh J=>⟨h.1.up J,h.2.up J⟩) g3 gu (ku.trans' hs)
 have fS:∀{w':World},Step [G] V w'→∀L:LN,(∀x∈L,x<w8.heap.size)→Zu L w'.heap sva svm sve sa∧Xk L w'.heap vt ts:=λhs =>
  Qig (F:=λL H=>Zu L H sva svm sve sa∧Xk L H vt ts) (λh hs=>⟨h.1.st hs,h.2.st hs⟩) (λh J=>⟨h.1.up J,h.2.up J⟩) ki (by omega) (kv.trans' hs)
 have fC:∀{w':World},Step [G] V w'→∀L:LN,(∀x∈L,x<ht.heap.size)→QK L w'.heap vs (szs c.cel.co)∧UM L w'.heap vx qx∧UY L w'.heap vk ks:=λhs =>
  Qig (F:=λL H=>QK L H vs (szs c.cel.co)∧UM L H vx qx∧UY L H vk ks) (λh hs=>⟨h.1.st hs,h.2.1.st hs,h.2.2.st hs⟩) (λh J=>⟨h.1.up J,h.2.1.up J,h.2.2.up J⟩) ge (by omega) hs
 have gk:=(VK (Yb Y.co) hA).1;have kx:=(YZ (Yb Y.co) hA).1.nd;simp only[] at gk;have ky:(auts c.cel.co).length=c.co.length:=by unfold auts;show ((c.co.map IV.it).map _).length=_;simp
 have gl:=(fP gj [] (by simp)).2;have pm:=gl.arr.le;refine Qg<|Qc<|Qb<|x (QC O)<|x (Qa O)<|x (Qd I O O)<|x (Qs gl.arr O)<|Qb<|xe ?_
 refine Qh<|QA (α:=Nat×List (ByteArray×Value)) [(6,7),(61,73)] (λz=>[(61,.int .i64 z.1)]) (λz w'=>z.1≤qs.length∧Step [G] V w'∧Q4 w'.heap G 154 [c.ve,c.vc,c.vr,c.vx,c.vk,pva,.int .i64 pa.st,pvm,pve,vq,sva,.int .i64 sa.st,svm,sve,vt,vs,vx,vk,.map (some bm)]∧Z0 Y7 w'.heap bm z.2∧Vp c.co.length z.2 ((qs.take z.1).map (·.2))) (λz=>qs.length - z.1) (by rfl) (0,[]) Z
  ⟨Lj _,gj,I,kt,Vp.nil _⟩ ?_
 rintro ⟨k,mm⟩ g hJ ⟨hk,S,hw,hy,hz⟩;simp only[] at hk hy hz;have h3:Step [] w hJ:=kw.then1 S hge;refine Qc<|x (QB O O)<|xe<|Qg<|QH O (λhK=>?_) (λhK=>?_)
 ·refine Qy ?_;have kz:qs.length≤k:=by have k0:¬(k:Int)<(qs.length:Int):=hK;omega
  rw[Ll kz] at hz;refine Qc<|Qb<|x Qf<|Qe ?_;have aP:=fP S [] (by simp);have aS:=fS S [] (by simp);have aC:=fC S [] (by simp)
  refine Qm ⟨[_,_],⟨O,O,U⟩,h3,.pointer (some ⟨G,0,none⟩),by rw[gc];rfl,λe=>absurd gc e,λ_=>⟨G,⟨c,⟨pva,pvm,pve,pa⟩,vq,qs,⟨sva,svm,sve,sa⟩,vt,ts,vs,vx,vk,qx,ks,bm,mm⟩,O,O,⟨hU,hA,kh,kk,kn,hz⟩,⟨hw,by simp,h.ext h3,aP.1,aS.1,aP.2,aS.2,aC.1,aC.2.1,aC.2.2,by simp,hy⟩,λL J=>?_⟩⟩;have bP:=fP S L (λb hb=>by have:=J b hb;omega);have bS:=fS S L (λb hb=>by have:=J b hb;omega)
  have bC:=fC S L (λb hb=>by have:=J b hb;omega);exact ⟨bS.1,λk4=>⟨hw,λhm=>by have:=J _ hm;omega,k4.ext h3,bP.1,bS.1,bP.2,bS.2,bC.1,bC.2.1,bC.2.2,λhm=>by have h9:bm<w.heap.size:=J bm hm;omega,hy⟩⟩
 have he:k<qs.length:=by have k0:(k:Int)<(qs.length:Int):=hK;omega
 have gm:=(fP S [] (by simp)).2;have hM:=Lc he;have hN:(qs.take (k+1)).map (·.2)=(qs.take k).map (·.2)++[(qs[k]'he).2]:=by rw[Le he,Lt];rfl
 have gn:(qs[k]'he).2∉(qs.take k).map (·.2):=by
  have h1:((qs.take (k+1)).map (·.2)).Nodup:=by
   rw[List.map_take];exact kx.sublist (List.take_sublist _ _)
  rw[hN] at h1;intro hm;exact (List.nodup_append.1 h1).2.2 _ hm _ (La.2 O) O
 have k5:((qs.take k).map (·.2)).length=k:=by rw[Lh,Lx];omega
 refine Qi<|Qg<|Qh<|Qc<|Qb<|xig (g:=ZH) J0 gm.arr O O he λpn go=>?_;refine Zh (qs[k]'he) λq hq=>?_;rw[hq] at go hM hN gn;have k6:=gm.each q hM;have gp:=gk q.2 (LG hM);have gq:=gp.bd (m:=4096) (λa ha=>(Yb Y.co a ha).st1);have po:q.2.length=c.co.length:=by rw[gp.1,ky]
 refine x (Qv go O)<|x Qf<|Qe<|QW (Step [] hJ) [(0,true),(1,true),(2,true),(3,true),(4,true),(6,true),(5,false),(7,false)] mixed (by rfl) (by kernel_rfl) (Step.drew _ _) ?_;refine p (λ_=>Qo)<|p (λ_=>QC O)<|p (λ_=>Qa O)<|pq (λ_ hc=>Qd (hw.step hc (by simp)) rfl rfl) <|
  p (λ_=>Qo)<|p (λ_=>Qo)<|pk<|xf<|(zF (k6.ext (Step.drew _ _)) ((h6.ext h3).ext (Step.drew _ _)) gq (by omega)).mono ?_
 rintro pp pt ⟨rfl,k7⟩;have h4:=(Step.drew [] hJ).trans k7;refine ⟨h4,?_⟩;refine pkl (hl:=by kernel_rfl)<|Y3 (k:=Jf q.2) (hy.ext h4) O O λk8 gr k9=>pe ?_;have pu:=S.size;have ma:Step [G] V k8:=(S.trans h4).then1 gr (by omega);have mc:=(hw.ext h4).step gr (by simp;omega);have gs:=hz.add gn (λx hx=>(gq x hx).1);rw[k5] at gs
 refine Qz<|QN O O<|Qb<|xe ?_;exact ⟨(k+1,mput mm (Jf q.2) (.int .i64 (k:Int))),by simp only[];omega,Z,he,ma,mc,k9,by simp only[];rw[hN];exact gs⟩
def KY (lo hi:Nat) (ds:LN) (W:World):Prop:=ds.Nodup∧∀D∈ds,lo≤D∧D<hi∧W.heap[D]?=some (.deferred (some []))
theorem KY.step {lo hi:Nat}{ds:LN}{W W':World}{X:LN}(h:KY lo hi ds W) (hs:Step X W W') (H:∀b∈X,∃o:Obj,W.heap[b]?=some o∧o.isCells=true):KY lo hi ds W':=by
 refine ⟨h.1,λD E=>⟨(h.2 D E).1,(h.2 D E).2.1,?_⟩⟩;have h3:=(h.2 D E).2.2;refine (hs.block D (Lz.1 h3).1 (λhx=>?_)).trans h3;obtain ⟨o,G,h5⟩:=H D hx;rw[h3] at G;cases G;cases h5
theorem KY.ext {lo hi:Nat}{ds:LN}{W W':World}(h:KY lo hi ds W) (hs:Step [] W W'):KY lo hi ds W':=h.step hs (λ_ hb=>by cases hb)
theorem KY.blk {lo hi:Nat}{ds:LN}{W W':World}{b T:Nat}{cs:LV}(h:KY lo hi ds W) (hs:Step [b] W W') (hb:Q4 W.heap b T cs):KY lo hi ds W' :=
 h.step hs (λc hc=>by
  have e:c=b:=by simpa using hc
  subst e;exact hb.cells)
theorem KY.up {lo hi G:Nat}{ds:LN}{W:World}(h:KY lo hi ds W) (H:hi≤G):KY lo G ds W:=⟨h.1,λD E=>⟨(h.2 D E).1,by have:=(h.2 D E).2.1;omega,(h.2 D E).2.2⟩⟩
theorem KY.cons {lo hi:Nat}{ds:LN}{W:World}{D:Nat}(h:KY lo hi ds W) (hl:lo≤hi) (H:hi≤D) (hd:W.heap[D]?=some (.deferred (some []))):KY lo W.heap.size (D::ds) W:=by
 have G:=(Lz.1 hd).1;refine ⟨List.nodup_cons.2 ⟨λhm=>by have:=(h.2 D hm).2.1;omega,h.1⟩,λE hE=>?_⟩;rcases Lb.1 hE with rfl | hE
 ·exact ⟨by omega,G,hd⟩
 have:=h.2 E hE;exact ⟨this.1,(Lz.1 this.2.2).1,this.2.2⟩
theorem KY.stb {lo hi B:Nat}{ds:LN}(H:hi≤B):ZU B (λW=>KY lo hi ds W):=λW W' X h hs G=>by
 refine ⟨h.1,λD E=>⟨(h.2 D E).1,(h.2 D E).2.1,?_⟩⟩;have h3:=(h.2 D E).2.2;refine (hs.block D (Lz.1 h3).1 (λhx=>?_)).trans h3;have:=(G D hx).1;have:=(h.2 D E).2.1;omega
end Go.Proofs.YtdffckgdcegpaaaGreatDoor
namespace Go.Lg
theorem VN {W W':World}{base e sz n:Nat}{v:Value}{cs:LV}(h:W.ownsRow base e sz v n cs) (hc:Xf [] W W'):W'.ownsRow base e sz v n cs :=
 ⟨h.1,h.2.imp id λ⟨g,cap,cur,h1,h2,h3,E⟩=>⟨g,cap,cur,h1,h2,hc g _ (by simp) h3 rfl,E⟩⟩
theorem Xf.mono {L L':LN}{W W':World}(h:Xf L W W') (E:∀b∈L,b∈L'):Xf L' W W':=λk o G=>h k o (λhm=>G (E k hm))
theorem Xf.nonc {X:LN}{W W':World}(hs:Step X W W') (E:∀r∈X,∃o:Obj,W.heap[r]?=some o∧o.isCells=false):Xf [] W W':=λk o _ hk hc =>
 (hs.block k (Lz.1 hk).1 (λhx=>by
  obtain ⟨G,h1,h2⟩:=E k hx;rw[hk] at h1;cases h1;rw[hc] at h2;cases h2)).trans hk
theorem ZU.cst {B:Nat}{I:World→Prop}(h:∀W W',I W→Xf [] W W'→W.heap.size≤W'.heap.size→I W'):ZU B I:=λW W' _ hi hs E=>h W W' hi (Xf.nonc hs (λr G=>(E r G).2)) hs.size
end Go.Lg
namespace Go.Proofs.YtdffckgdcegpaaaGreatDoor
open Go.Lg
theorem ZM.cst {base:Nat}{av:LN}{W W':World}{v:Value}{n sz:Nat}{cs:LV}(h:ZM base av W.heap v n sz cs) (hc:Lg.Xf [] W W') (hz:W.heap.size≤W'.heap.size):ZM base av W'.heap v n sz cs:=λL E=>(h L E).cst (hc.mono (by simp)) hz
abbrev Zy (r:Rsn):LV:=[.int .i64 r.st,.int .i64 r.kd,.int .i64 r.ix,.int .i64 r.ev]
theorem Qc7 (r:Rsn):(Zy r).length=4:=rfl
structure XQ (base:Nat) (w:World) (v1 v2 v3 v4:Value) (cos rqs:List TV) (pls:LI) (fbs:List Rsn):Prop where
 o1:w.ownsRow base 37 1 v1 cos.length (cos.flatMap ZH)
 o2:w.ownsRow base 37 1 v2 rqs.length (rqs.flatMap ZH)
 o3:Qu 3 base w v3 pls
 o4:w.ownsRow base 83 4 v4 fbs.length (fbs.flatMap Zy)
 d12:Dj v1 v2
 d13:Dj v1 v3
 d14:Dj v1 v4
 d23:Dj v2 v3
 d24:Dj v2 v4
 d34:Dj v3 v4
 e1:∀p∈cos,ZM base (ob v1++(ob v2++(ob v3++ob v4))) w.heap p.1 p.2.length 1 (p.2.map (.int .i64))
 e2:∀p∈rqs,ZM base (ob v1++(ob v2++(ob v3++ob v4))) w.heap p.1 p.2.length 1 (p.2.map (.int .i64))
theorem Vf {v:Value}:Dj (nS) v:=λb hb=>by simp[ob] at hb
theorem XQ.nil (base:Nat) (w:World):XQ base w (nS) (nS) (nS) (nS) [] [] [] [] :=
 ⟨QM _ _ _ _,QM _ _ _ _,QM _ _ _ _,QM _ _ _ _,Vf,Vf,Vf,Vf,Vf,Vf,λp hp=>(by cases hp),λp hp=>(by cases hp)⟩
variable {base:Nat} {w w7 w8:World} {v1 v2 v3 v4 v':Value} {cos rqs:List TV} {pls:LI} {fbs:List Rsn}
theorem XQ.ext (h:XQ base w v1 v2 v3 v4 cos rqs pls fbs) (hs:Step [] w w7):XQ base w7 v1 v2 v3 v4 cos rqs pls fbs :=
 ⟨Qq h.o1 hs,Qq h.o2 hs,Qq h.o3 hs,Qq h.o4 hs,h.d12,h.d13,h.d14,h.d23,h.d24,h.d34,λp hp=>(h.e1 p hp).ext hs,λp hp=>(h.e2 p hp).ext hs⟩
theorem XQ.low {X:LN}(h:XQ base w v1 v2 v3 v4 cos rqs pls fbs) (hs:Step X w w7) (E:∀b∈X,b<base):XQ base w7 v1 v2 v3 v4 cos rqs pls fbs:=by
 have k:∀{e sz n:Nat} {v:Value} {cs:LV},w.ownsRow base e sz v n cs→w7.ownsRow base e sz v n cs:=λo=>Qk o hs (λb hb hm=>by have:=(Qn o b hb).1;have:=E b hm;omega);exact ⟨k h.o1,k h.o2,k h.o3,k h.o4,h.d12,h.d13,h.d14,h.d23,h.d24,h.d34,λp hp=>(h.e1 p hp).low hs E,λp hp=>(h.e2 p hp).low hs E⟩
theorem XQ.cst (h:XQ base w v1 v2 v3 v4 cos rqs pls fbs) (hc:Lg.Xf [] w w7) (hz:w.heap.size≤w7.heap.size):XQ base w7 v1 v2 v3 v4 cos rqs pls fbs :=
 ⟨VN h.o1 hc,VN h.o2 hc,VN h.o3 hc,VN h.o4 hc,h.d12,h.d13,h.d14,h.d23,h.d24,h.d34,λp hp=>(h.e1 p hp).cst hc hz,λp hp=>(h.e2 p hp).cst hc hz⟩
theorem Vg {a b E:Value}{n:Nat}(h:Dj a b) (G:∀x∈ob E,x∈ob a∨n≤x) (hb:∀x∈ob b,x<n):Dj E b:=λx hx hm=>by
 rcases G x hx with h1 | h1
 ·exact h x h1 hm
 have:=hb x hm;omega
theorem JL {a b E:Value}{n:Nat}(h:Dj a b) (G:∀x∈ob E,x∈ob b∨n≤x) (ha:∀x∈ob a,x<n):Dj a E:=λx hx hm=>by
 rcases G x hm with h1 | h1
 ·exact h x hx h1
 have:=ha x hx;omega
theorem XQ.lt (h:XQ base w v1 v2 v3 v4 cos rqs pls fbs):(∀x∈ob v1,x<w.heap.size)∧(∀x∈ob v2,x<w.heap.size)∧(∀x∈ob v3,x<w.heap.size)∧∀x∈ob v4,x<w.heap.size:=⟨QO h.o1,QO h.o2,QO h.o3,QO h.o4⟩
theorem yn {a b c d:LN}{x:Nat}(h:x∈a++(b++(c++d))):x∈a∨x∈b∨x∈c∨x∈d:=by simpa using h
theorem Ug {a b c d:LN}{x:Nat}(h:x∈a∨x∈b∨x∈c∨x∈d):x∈a++(b++(c++d)):=by simpa using h
theorem XQ.a1 {N e:Nat}{q:TV}(h:XQ base w v1 v2 v3 v4 cos rqs pls fbs) (hs:Step [] w w7) (hq:w7.ownsRow N e 1 q.1 q.2.length (q.2.map (.int .i64))) (I:q.2.length≤1099511627776) (S:w.heap.size≤N) (hb:base≤w.heap.size) (J:w8.ownsRow base 37 1 v' (cos.length+1) (cos.flatMap ZH++ZH q))
  (G:Step (ob v1) w7 w8) (H:∀b∈ob v',b∈ob v1∨w7.heap.size≤b):XQ base w8 v' v2 v3 v4 (cos++[q]) rqs pls fbs:=by
 have l:=h.lt;have hz:=hs.size;have E:=h.ext hs;have av:∀b∈ob v'++(ob v2++(ob v3++ob v4)),b∈ob v1++(ob v2++(ob v3++ob v4))∨w7.heap.size≤b:=by
  intro b hb;rcases yn hb with h1 | h1 | h1 | h1
  ·rcases H b h1 with h2 | h2
   ·exact .inl (Ug (.inl h2))
   exact .inr h2
  ·exact .inl (Ug (.inr (.inl h1)))
  ·exact .inl (Ug (.inr (.inr (.inl h1))))
  exact .inl (Ug (.inr (.inr (.inr h1))))
 have st:Step (ob v1++(ob v2++(ob v3++ob v4))) w7 w8:=G.mono (λb hb=>Ug (.inl hb));have g:∀{v:Value} {n sz:Nat} {cs:LV},ZM base (ob v1++(ob v2++(ob v3++ob v4))) w7.heap v n sz cs→ZM base (ob v'++(ob v2++(ob v3++ob v4))) w8.heap v n sz cs:=λa=>a.app st av
 refine ⟨by rw[Lk,LA];simpa using J,Qk E.o2 G (λb hb hm=>h.d12 b hm hb),Qk E.o3 G (λb hb hm=>h.d13 b hm hb),Qk E.o4 G (λb hb hm=>h.d14 b hm hb),Vg h.d12 H (λx hx=>by have:=l.2.1 x hx;omega),Vg h.d13 H (λx hx=>by have:=l.2.2.1 x hx;omega),Vg h.d14 H (λx hx=>by have:=l.2.2.2 x hx;omega),h.d23,h.d24,h.d34,?_,?_⟩
 ·exact λp hp=>by
   rcases Li.1 hp with hp | hp
   ·exact g (E.e1 p hp)
   simp only[List.mem_singleton] at hp;subst hp;exact g (ZM.of_own hq I (by omega) (λb hb=>by
   rcases yn hb with h1 | h1 | h1 | h1
   ·have:=l.1 b h1;omega
   ·have:=l.2.1 b h1;omega
   ·have:=l.2.2.1 b h1;omega
   have:=l.2.2.2 b h1;omega))
 exact λp hp=>g (E.e2 p hp)
theorem XQ.a2 {N e:Nat}{q:TV}(h:XQ base w v1 v2 v3 v4 cos rqs pls fbs) (hs:Step [] w w7) (hq:w7.ownsRow N e 1 q.1 q.2.length (q.2.map (.int .i64))) (I:q.2.length≤1099511627776) (S:w.heap.size≤N) (hb:base≤w.heap.size) (J:w8.ownsRow base 37 1 v' (rqs.length+1) (rqs.flatMap ZH++ZH q))
  (G:Step (ob v2) w7 w8) (H:∀b∈ob v',b∈ob v2∨w7.heap.size≤b):XQ base w8 v1 v' v3 v4 cos (rqs++[q]) pls fbs:=by
 have l:=h.lt;have hz:=hs.size;have E:=h.ext hs;have av:∀b∈ob v1++(ob v'++(ob v3++ob v4)),b∈ob v1++(ob v2++(ob v3++ob v4))∨w7.heap.size≤b:=by
  intro b hb;rcases yn hb with h1 | h1 | h1 | h1
  ·exact .inl (Ug (.inl h1))
  ·rcases H b h1 with h2 | h2
   ·exact .inl (Ug (.inr (.inl h2)))
   exact .inr h2
  ·exact .inl (Ug (.inr (.inr (.inl h1))))
  exact .inl (Ug (.inr (.inr (.inr h1))))
 have st:Step (ob v1++(ob v2++(ob v3++ob v4))) w7 w8:=G.mono (λb hb=>Ug (.inr (.inl hb)));have g:∀{v:Value} {n sz:Nat} {cs:LV},ZM base (ob v1++(ob v2++(ob v3++ob v4))) w7.heap v n sz cs→ZM base (ob v1++(ob v'++(ob v3++ob v4))) w8.heap v n sz cs:=λa=>a.app st av
 refine ⟨Qk E.o1 G (λb hb hm=>h.d12 b hb hm),by rw[Lk,LA];simpa using J,Qk E.o3 G (λb hb hm=>h.d23 b hm hb),Qk E.o4 G (λb hb hm=>h.d24 b hm hb),JL h.d12 H (λx hx=>by have:=l.1 x hx;omega),h.d13,h.d14,Vg h.d23 H (λx hx=>by have:=l.2.2.1 x hx;omega),Vg h.d24 H (λx hx=>by have:=l.2.2.2 x hx;omega),h.d34,?_,?_⟩
 ·exact λp hp=>g (E.e1 p hp)
 exact λp hp=>by
  rcases Li.1 hp with hp | hp
  ·exact g (E.e2 p hp)
  simp only[List.mem_singleton] at hp;subst hp;exact g (ZM.of_own hq I (by omega) (λb hb=>by
  rcases yn hb with h1 | h1 | h1 | h1
  ·have:=l.1 b h1;omega
  ·have:=l.2.1 b h1;omega
  ·have:=l.2.2.1 b h1;omega
  have:=l.2.2.2 b h1;omega))
theorem XQ.a3 {q:Int}(h:XQ base w v1 v2 v3 v4 cos rqs pls fbs) (hs:Step [] w w7) (I:w8.ownsRow base 3 1 v' (pls.length+1) (pls.map (.int .i64)++[.int .i64 q]))
  (G:Step (ob v3) w7 w8) (H:∀b∈ob v',b∈ob v3∨w7.heap.size≤b):XQ base w8 v1 v2 v' v4 cos rqs (pls++[q]) fbs:=by
 have l:=h.lt;have hz:=hs.size;have E:=h.ext hs;have av:∀b∈ob v1++(ob v2++(ob v'++ob v4)),b∈ob v1++(ob v2++(ob v3++ob v4))∨w7.heap.size≤b:=by
  intro b hb;rcases yn hb with h1 | h1 | h1 | h1
  ·exact .inl (Ug (.inl h1))
  ·exact .inl (Ug (.inr (.inl h1)))
  ·rcases H b h1 with h2 | h2
   ·exact .inl (Ug (.inr (.inr (.inl h2))))
   exact .inr h2
  exact .inl (Ug (.inr (.inr (.inr h1))))
 have st:Step (ob v1++(ob v2++(ob v3++ob v4))) w7 w8:=G.mono (λb hb=>Ug (.inr (.inr (.inl hb))));have g:∀{v:Value} {n sz:Nat} {cs:LV},ZM base (ob v1++(ob v2++(ob v3++ob v4))) w7.heap v n sz cs→ZM base (ob v1++(ob v2++(ob v'++ob v4))) w8.heap v n sz cs:=λa=>a.app st av
 refine ⟨Qk E.o1 G (λb hb hm=>h.d13 b hb hm),Qk E.o2 G (λb hb hm=>h.d23 b hb hm),Qu.snoc I,Qk E.o4 G (λb hb hm=>h.d34 b hm hb),h.d12,JL h.d13 H (λx hx=>by have:=l.1 x hx;omega),h.d14,JL h.d23 H (λx hx=>by have:=l.2.1 x hx;omega),h.d24,Vg h.d34 H (λx hx=>by have:=l.2.2.2 x hx;omega),?_,?_⟩
 ·exact λp hp=>g (E.e1 p hp)
 exact λp hp=>g (E.e2 p hp)
theorem XQ.a4 {q:Rsn}(h:XQ base w v1 v2 v3 v4 cos rqs pls fbs) (hs:Step [] w w7) (I:w8.ownsRow base 83 4 v' (fbs.length+1) (fbs.flatMap Zy++Zy q))
  (G:Step (ob v4) w7 w8) (H:∀b∈ob v',b∈ob v4∨w7.heap.size≤b):XQ base w8 v1 v2 v3 v' cos rqs pls (fbs++[q]):=by
 have l:=h.lt;have hz:=hs.size;have E:=h.ext hs;have av:∀b∈ob v1++(ob v2++(ob v3++ob v')),b∈ob v1++(ob v2++(ob v3++ob v4))∨w7.heap.size≤b:=by
  intro b hb;rcases yn hb with h1 | h1 | h1 | h1
  ·exact .inl (Ug (.inl h1))
  ·exact .inl (Ug (.inr (.inl h1)))
  ·exact .inl (Ug (.inr (.inr (.inl h1))))
  rcases H b h1 with h2 | h2
  ·exact .inl (Ug (.inr (.inr (.inr h2))))
  exact .inr h2
 have st:Step (ob v1++(ob v2++(ob v3++ob v4))) w7 w8:=G.mono (λb hb=>Ug (.inr (.inr (.inr hb))));have g:∀{v:Value} {n sz:Nat} {cs:LV},ZM base (ob v1++(ob v2++(ob v3++ob v4))) w7.heap v n sz cs→ZM base (ob v1++(ob v2++(ob v3++ob v'))) w8.heap v n sz cs:=λa=>a.app st av
 refine ⟨Qk E.o1 G (λb hb hm=>h.d14 b hb hm),Qk E.o2 G (λb hb hm=>h.d24 b hb hm),Qk E.o3 G (λb hb hm=>h.d34 b hb hm),by rw[Lk,LA];simpa using I,h.d12,h.d13,JL h.d14 H (λx hx=>by have:=l.1 x hx;omega),h.d23,JL h.d24 H (λx hx=>by have:=l.2.1 x hx;omega),JL h.d34 H (λx hx=>by have:=l.2.2.1 x hx;omega),?_,?_⟩
 ·exact λp hp=>g (E.e1 p hp)
 exact λp hp=>g (E.e2 p hp)
theorem U9 (c:Zv) (pl:QP) (ps:List (LI)):∀(l:List (LI)) (i:Nat) (s:Spc),(l.zipIdx i).foldl (QhA c pl ps) s =
  ⟨s.a,s.co++l.map (·.take c.co.length),s.rq++l.map (·.drop c.co.length),s.pl++l.map (λt=>plx ps (t.take c.co.length)),s.fb++(l.zipIdx i).filterMap (λp=>rsn c pl (plx ps (p.1.take c.co.length)) p.2 p.1)⟩
 | [],i,s=>by simp
 | t::l,i,s=>by
  rw[M8,LO,U9 c pl ps l (i+1)];unfold QhA;simp only[List.map_cons,List.append_assoc,List.cons_append,List.nil_append,List.filterMap_cons];cases rsn c pl (plx ps (t.take c.co.length)) i t with
  | none=>rfl
  | some r=>simp
theorem V2 {c:Zv}{rs:LI}:∀{l:LI},(∀x∈wrf c.rq rs l,(c.ev.getD x.1.toNat ⟨.empty,false,false,false,0⟩).co=true)→rfd c rs l=none
 | [],_=>rfl
 | v::l,h=>by
  rw[wrf] at h;rw[rfd];by_cases h1:0≤rfr v 0 c.rq rs
  ·rw[if_pos h1] at h;have h2:=h _ Ls;simp only[] at h2;rw[if_neg (λe=>by rw[h2] at e;cases e.2)];exact V2 λx hx=>h x (Lm _ hx)
  rw[if_neg h1] at h;rw[if_neg (λe=>h1 e.1)];exact V2 h
theorem V1 {c:Zv}{rs:LI}{x:Int×Int}{t:List (Int×Int)}:∀{l:LI}{p:List (Int×Int)},wrf c.rq rs l=p++x::t→(∀y∈p,(c.ev.getD y.1.toNat ⟨.empty,false,false,false,0⟩).co=true)→(c.ev.getD x.1.toNat ⟨.empty,false,false,false,0⟩).co=false→rfd c rs l=some (x.2,x.1)
 | [],p,h,_,_=>by simp[wrf] at h
 | v::l,p,h,hp,hx=>by
  rw[wrf] at h;rw[rfd];by_cases h1:0≤rfr v 0 c.rq rs
  ·rw[if_pos h1] at h;cases p with
   | nil =>
    simp only[List.nil_append,List.cons.injEq] at h;obtain ⟨h2,_⟩:=h;subst h2;rw[if_pos ⟨h1,hx⟩]
   | cons y p =>
    simp only[List.cons_append,List.cons.injEq] at h;obtain ⟨h2,h3⟩:=h;have E:=hp y Ls;subst h2;rw[if_neg (λe=>by simp only[] at E;rw[E] at e;cases e.2)];exact V1 h3 (λy hy=>hp y (Lm _ hy)) hx
  rw[if_neg h1] at h;rw[if_neg (λe=>h1 e.1)];exact V1 h hp hx
theorem QcD (c:Zv) (t:LI):vio c t=if (Kl c.ex c.cs t).2.2=true then some ((Kl c.ex c.cs t).1,(Kl c.ex c.cs t).2.1) else none:=by
 unfold vio Kl;by_cases h1:0≤fix (JY t) 0 c.ex
 ·rw[if_pos h1,if_pos h1];rfl
 rw[if_neg h1,if_neg h1];by_cases h2:0≤fix (K0 t) 0 c.cs
 ·rw[if_pos h2,if_pos h2];rfl
 rw[if_neg h2,if_neg h2];rfl
def Qko (N:Nat) (H:Array Obj) (v:Value) (s:Spc):Prop:=∃va vm ve v1 v2 v3 v4 cos rqs,v=.agg #[va,.int .i64 s.a.st,vm,ve,v1,v2,v3,v4]∧cos.map (·.2)=s.co∧rqs.map (·.2)=s.rq ∧
 ∀L:LN,(∀b∈L,b<N)→Zu L H va vm ve s.a∧Xk L H v1 cos∧Xk L H v2 rqs∧QK L H v3 s.pl∧Zq L H v4 s.fb.length 4 (s.fb.flatMap Zy)
end Go.Proofs.YtdffckgdcegpaaaGreatDoor
namespace Go.Lg
open Go.RowKit
def sl (d:Option Nat) (f:Fr):Value:=match d with | some d=>f d | none=>undef
def ow:Value→LN
 | .slice (some a) _ _=>[a.block]
 | .pointer (some a)=>[a.block]
 | .map (some b)=>[b]
 | _=>[]
section
variable {P:Program} {n:Nat} {f:Fr} {w:World} {all:List Oper} {C:World→Prop} {K:Fr→World→Prop}
theorem KK {o:Oper}(h:o.guard=none):Z8 all f o=true:=by unfold Z8;rw[h]
end
def Uj (all:Array Oper) (i:Nat) (rest:List (Nat×Bool)):List (Nat×Bool)→Array Bool→Bool
 | [],ls=>Region.ready .any all ls == [i] && YP all rest (ls.setIfInBounds i true)
 | (j,true)::l,ls=>(Region.ready .any all ls).contains j && Region.free .any all ls j && Uj all i rest l (ls.setIfInBounds j true)
 | (j,false)::l,ls=>!(Region.ready .any all ls).isEmpty && (Region.ready .any all ls).all (λk=>k == j || k == i) && YP all ((j,false)::(l++rest)) (ls.setIfInBounds i true) && Uj all i rest l (ls.setIfInBounds j true)
def Z2 (all:List Oper) (d:Nat) (l:List (Nat×Bool)):Bool:=l.all λp=>!((Q3 all p.1).looksAt all.toArray).contains d && !((Q3 all p.1).dst == some d)
def Qee (all:List Oper) (pre l:List (Nat×Bool)) (i:Nat) (rest:List (Nat×Bool)):Bool :=
 Region.noSelect all.toArray && (pre.length+(l.length+1+rest.length) == all.length) && JC all.toArray pre (Array.replicate all.length false) && Uj all.toArray i rest l (ZW pre (Array.replicate all.length false))
  && (Q3 all i).guard.isNone && (match (Q3 all i).dst with | some d=>Z2 all d l | none=>false)
def XF (P:Program) (all:List Oper) (C:World→Prop) (K:Fr→World→Prop):List (Nat×Bool)→LN→Fr→World→Prop
 | [],_,f,w=>K f w
 | (j,true)::l,own,f,w=>Z8 all f (Q3 all j)=true∧∃v,(∀w',(UL (Q3 all j)=true→C w')→(execOp (ev f) (Q3 all j)).run P w'=.ok (.value v) w')∧XF P all C K l own (QR f (Q3 all j).dst v) w
 | (j,false)::l,own,f,w=>Z8 all f (Q3 all j)=true∧∀w1,Step [] w w1→C w1→XO P (Q3 all j) f w1 λE w'=>C w'∧∃own',Step own w1 w'∧(∀b∈own',b∈own∨(w1.heap.size≤b∧b<w'.heap.size))∧XF P all C K l own' E w'
section
variable {P:Program} {n:Nat} {f:Fr} {w:World} {all:List Oper} {C:World→Prop} {K KF:Fr→World→Prop}
theorem XF.ext (E:∀f w w',KF f w→Step [] w w'→KF f w'):∀{l:List (Nat×Bool)}{own:LN}{f:Fr}{w w':World},XF P all C KF l own f w→Step [] w w'→XF P all C KF l own f w'
 | [],_,_,_,_,h,hs=>E _ _ _ h hs
 | (_,true)::_,_,_,_,_,h,hs=>by
  obtain ⟨G,v,H,hx⟩:=h;exact ⟨G,v,H,XF.ext E hx hs⟩
 | (_,false)::_,_,_,_,_,h,hs=>⟨h.1,λI h1 hc=>h.2 I (hs.trans h1) hc⟩
attribute [local semireducible] XO in
theorem Qbl {o:Oper}(hs:∀cs b,o.op≠.select cs b) {d:Nat}{v:Value}{K':Fr→World→Prop}(h1:d∉o.looksAt all.toArray) (h2:o.dst≠some d) (E:∀u w',K (QR f o.dst u) w'→K' (QR (QR f o.dst u) (some d) v) w')
  (h:XO P o f w K):XO P o (QR f (some d) v) w K':=by
 have hc:∀u,QR (QR f (some d) v) o.dst u=QR (QR f o.dst u) (some d) v:=λu=>JD f v u (λe he=>by cases he;exact h2);unfold XO at *;rw[YM (all:=all) hs f (some d) v (λe he=>by cases he;exact h1)];generalize (execOp (ev f) o).run P w=r at *;cases r with
 | ok nx w' =>
  cases nx <;> simp only[upF] at h ⊢
  case value u=>rw[hc];exact E u w' h
  case skip=>rw[hc];exact E _ w' h
  case enter g args =>
   refine Calls.mono h λe G he=>?_;cases e with
   | returned u=>simp only at he ⊢;rw[hc];exact E u G he
   | panicked c=>exact he.elim
   | outgrown=>exact he.elim
 | halt x w'=>exact h.elim
theorem Jq {D:List (Nat×Nat)}{f G:Fr}{dst:Option Nat}{v:Value}(hd:inD D dst=true) (h:∀t,Y4 D t=false→f t=G t):∀t,Y4 D t=false→QR f dst v t=G t:=λt E =>
 (YE (λe=>by rw[e] at hd;simp only[inD] at hd;rw[hd] at E;cases E) v).trans (h t E)
def Z1 (all:List Oper) (D:List (Nat×Nat)) (l:List (Nat×Bool)):Bool:=l.all λp=>inD D (Q3 all p.1).dst
structure Fl (P:Program) (all:List Oper) (C:World→Prop) (K KF:Fr→World→Prop) (i d:Nat) (rest:List (Nat×Bool)) (Φ:Value→World→Prop) (Dc:List (Nat×Nat)) (f1:Fr):Prop where
 stab:∀v (own:LN) w w',Φ v w→Step own w w'→(∀b∈ow v,b∉own)→Φ v w'
 spec:∀f w,(∀t,Y4 Dc t=false→f t=f1 t)→C w→XO P (Q3 all i) f w λf' w'=>Step [] w w'∧C w'∧Φ (f' d) w'∧∀b∈ow (f' d),w.heap.size≤b∧b<w'.heap.size
 fin:∀f w,KF f w→∀v,C w→Φ v w→XP P all C K rest (QR f (some d) v) w
 mono:∀f w w',KF f w→Step [] w w'→KF f w'
attribute [local semireducible] XP in
theorem UB {i d:Nat}{rest:List (Nat×Bool)}{Φ:Value→World→Prop}{Dc:List (Nat×Nat)}{f1:Fr}(G:Fl P all C K KF i d rest Φ Dc f1) (hs:Region.noSelect all.toArray=true) {v:Value}:∀(l:List (Nat×Bool)) (own:LN) (f:Fr) (w:World),Z2 all d l=true→XF P all C KF l own f w→C w→Φ v w →
  (∀b∈ow v,b∉own∧b<w.heap.size)→XP P all C K (l++rest) (QR f (some d) v) w
 | [],own,f,w,_,h,hC,H,_=>G.fin f w h v hC H
 | (j,q)::l,own,f,w,hfr,h,hC,H,hb=>by
  simp only[Z2,List.all_cons,Bool.and_eq_true,Bool.not_eq_true',List.contains_eq_mem,decide_eq_false_iff_not,beq_eq_false_iff_ne,ne_eq] at hfr;obtain ⟨⟨h1,h2⟩,hfr⟩:=hfr;have I:Z2 all d l=true:=by simpa[Z2] using hfr
  have S:∀cs b,(Q3 all j).op≠.select cs b:=by
   intro cs b;cases J:all[j]? with
   | none =>
    have:Q3 all j=default:=by
     clear h h1 h2 hfr I;have key:∀(l:List Oper) (j:Nat),l[j]?=none→Q3 l j=default:=by
      intro l;induction l with
      | nil=>intro j _;rfl
      | cons a l ih=>intro j T;cases j with | zero=>simp at T | succ j=>exact ih j (by simpa using T)
     exact key all j J
    rw[this];intro e;cases e
   | some o=>rw[Zl J];exact Region.noSelect_spec hs j o cs b (by simpa using J)
  have hd:∀e,some d=some e→e∉(Q3 all j).looksAt all.toArray:=λe he=>by cases he;exact h1
  cases q with
  | true =>
   obtain ⟨hg,u,hu,hx⟩:=h;simp only[List.cons_append,XP];rw[XM (Q3 all j) f (some d) v hd,hg,cond_true,cond_true];refine ⟨u,λw' hc=>?_,?_⟩
   ·rw[YM (all:=all) S f (some d) v hd];exact hu w' hc
   rw[JD f v u (λe he=>by cases he;exact h2)];exact UB G hs l own _ w I hx hC H hb
  | false =>
   simp only[List.cons_append,XP];rw[XM (Q3 all j) f (some d) v hd,h.1,cond_true,cond_false];refine Qbl (all:=all) S h1 h2 (λu w' hx=>?_) (h.2 w (Step.refl _ _) hC);obtain ⟨V,own',Y,ha,hx⟩:=hx;refine ⟨.inr (.inr V),UB G hs l own' _ w' I hx V (G.stab v own w w' H Y (λb E=>(hb b E).1)) (λb E=>⟨λhm=>?_,LX (hb b E).2 Y.size⟩)⟩
   rcases ha b hm with h3 | h3
   ·exact (hb b E).1 h3
   exact Nat.lt_irrefl _ (LX (hb b E).2 h3.1)
theorem QeW {i d:Nat}{rest:List (Nat×Bool)}{Φ:Value→World→Prop}{Dc:List (Nat×Nat)}{f1:Fr}(G:Fl P all C K KF i d rest Φ Dc f1) (hs:Region.noSelect all.toArray=true) (J:(Q3 all i).guard=none) (hd:(Q3 all i).dst=some d):∀(l:List (Nat×Bool)) (ls:Array Bool) (own:LN) (f:Fr) (w:World),ls.size=all.length→Z2 all d l=true→Z1 all Dc l=true→(∀t,Y4 Dc t=false→f t=f1 t) →
  XF P all C KF l own f w→C w→(∀b∈own,b<w.heap.size)→Uj all.toArray i rest l ls=true→XA P all C K (l.length+1+rest.length) ls f w
 | [],ls,own,f,w,T,hfr,H,S,h,hC,V,hp=>by
  simp only[Uj,Bool.and_eq_true,beq_iff_eq] at hp;obtain ⟨I,hp⟩:=hp;rw[show ([]:List (Nat×Bool)).length+1+rest.length=rest.length+1 by simp;omega];refine X4 (λh0=>(by rw[h0] at I;cases I)) ?_;rw[I];intro k hk o E;have ha:k=i:=by simpa using hk
  subst ha;have Y:=Zl E;have hx:=G.spec f w S hC;rw[Y] at J hd hx;rw[KK J,cond_true];refine hx.mono λv w' hx=>?_;rw[hd] at hx ⊢;obtain ⟨h1,h2,h3,h4⟩:=hx;simp only[QR,Yo] at h3 h4;refine ⟨.inr (.inr h2),ZA hs rest _ _ _ (by simpa using T) (.inl h2) hp (G.fin f w' (G.mono f w w' h h1) v h2 h3)⟩
 | (j,true)::l,ls,own,f,w,T,hfr,H,S,h,hC,V,hp=>by
  simp only[Uj,Bool.and_eq_true] at hp;obtain ⟨⟨I,hf⟩,hc⟩:=hp;have hi:j∈Region.ready .any all.toArray ls:=by simpa using I
  have e:(List.length ((j,true)::l))+1+rest.length=(l.length+1+rest.length)+1:=by simp;omega
  rw[e];have he:Z2 all d l=true:=by simp only[Z2,List.all_cons,Bool.and_eq_true] at hfr;exact hfr.2
  simp only[Z1,List.all_cons,Bool.and_eq_true] at H;have hh:Z1 all Dc l=true:=H.2;cases E:all[j]? with
  | none =>
   exfalso;obtain ⟨_,o,hu,_⟩:=mem_ready.1 hi;simp[E] at hu
  | some o =>
   obtain ⟨hl,v,hv,hx⟩:=h;rw[Zl E] at hl hv hx;have hw:∀(j:Nat) (o:Oper) cs b,all[j]?=some o→o.op≠.select cs b:=λj o cs b hj=>Region.noSelect_spec hs j o cs b (by simpa using hj);have hy:=λk ok hk=>Region.free_spec (ops:=all.toArray) (md:=.any) (i:=j) (oi:=o) (listed:=ls) (by simpa using E) hf k ok (by simpa using hk)
   exact YN (v:=v) (D:=λw=>UL o=true→C w) E (λ_ h=>h) hw _ ls f w (λ_=>hC) hy hi (.inl ⟨hl,hv⟩) (QeW G hs J hd l _ own _ w (by simpa using T) he hh (by have:=Jq (v:=v) H.1 S;rw[Zl E] at this;exact this) hx hC V hc)
 | (j,false)::l,ls,own,f,w,T,hfr,H,S,h,hC,V,hp=>by
  simp only[Uj,Bool.and_eq_true,List.all_eq_true,Bool.or_eq_true,beq_iff_eq,Bool.not_eq_true'] at hp;obtain ⟨⟨⟨hn,I⟩,hz⟩,hc⟩:=hp;have e:(List.length ((j,false)::l))+1+rest.length=(l.length+1+rest.length)+1:=by simp;omega
  rw[e];have he:Z2 all d l=true:=by simp only[Z2,List.all_cons,Bool.and_eq_true] at hfr;exact hfr.2
  simp only[Z1,List.all_cons,Bool.and_eq_true] at H;have hh:Z1 all Dc l=true:=H.2;refine X4 (λh0=>(by rw[h0] at hn;cases hn)) ?_;intro k hk o E;have Y:=Zl E;have hq:(ls.setIfInBounds k true).size=all.length:=by simpa using T
  by_cases ha:k=i
  ·subst ha;have hx:=G.spec f w S hC;rw[Y] at J hd hx;rw[KK J,cond_true];refine hx.mono λv w' hx=>?_;rw[hd] at hx ⊢;obtain ⟨h1,h2,h3,h4⟩:=hx;simp only[QR,Yo] at h3 h4;refine ⟨.inr (.inr h2),?_⟩;have hx:=UB G hs ((j,false)::l) own f w' hfr (XF.ext G.mono h h1) h2 h3 (λb hb=>⟨λhm=>Nat.lt_irrefl _ (LX (V b hm) (h4 b hb).1),(h4 b hb).2⟩)
   have:=ZA hs ((j,false)::(l++rest)) _ _ _ hq (.inl h2) hz hx;rw[show ((j,false)::(l++rest)).length=l.length+1+rest.length by simp;omega] at this;exact this
  have h5:k=j:=(I k hk).resolve_right ha;subst h5;have h1:=h.1;have h2:=h.2 w (Step.refl _ _) hC;rw[Y] at h1 h2;rw[h1,cond_true];refine h2.mono λv w' hx=>?_;obtain ⟨ht,own',h6,h7,hx⟩:=hx;refine ⟨.inr (.inr ht),QeW G hs J hd l _ own' _ w' hq he hh (by have:=Jq (v:=v) H.1 S;rw[Y] at this;exact this) hx ht (λb hb=>?_) hc⟩;rcases h7 b hb with h3 | h3
  ·exact LX (V b h3) h6.size
  exact h3.2
theorem Qg8 {ro:Option Nat}{m:Nat}{ds:LN}{Q:Exit→LN→Fr→World→Prop}{id:Nat}(C:World→Prop) (pre l:List (Nat×Bool)) (i d:Nat) (rest:List (Nat×Bool)) (own:LN) (KF:Fr→World→Prop) (Φ:Value→World→Prop) (Dc:List (Nat×Nat)) (hm:P.follows .mixedOrders=true) (I:Xu n all=true) (J:yh all=true)
  (hp:Qee all pre l i rest=true) (S:Z1 all Dc l=true) (hd:(Q3 all i).dst=some d) (hC:C { w with drawn:=w.drawn+1 }) (T:∀b∈own,b<w.heap.size)
  (h:XP P all C (λG _=>Fl P all C (λf w=>Q .normal ds f w) KF i d rest Φ Dc G∧XF P all C KF l own G { w with drawn:=w.drawn+1 }) pre f { w with drawn:=w.drawn+1 }):WG ro m P n (.region id all.toArray true) Q ds f w:=by
 unfold WG;intro a ha;simp only[Qee,Bool.and_eq_true,beq_iff_eq,Option.isNone_iff_eq_none] at hp;obtain ⟨⟨⟨⟨⟨hs,hl⟩,hq⟩,V⟩,Y⟩,hfr⟩:=hp;rw[hd] at hfr;refine wpIn_region_any hm ?_;have h1:=Yw (K:=λf w=>Q .normal ds f w) (m:=l.length+1+rest.length) hs pre (Array.replicate all.length false) f _ hC hq
  (λG H=>QeW H.1 hs Y hd l (ZW pre (Array.replicate all.length false)) own G _ (by rw[Yy];simp) hfr S (λ_ _=>rfl) H.2 hC T V) h
 rw[hl] at h1;have h2:=VS (ro:=ro) (m:=m) (n:=n) (ds:=ds) (Q:=λe a' w'=>∃ds' E,Yn n ds' a' E∧(∀t,ZG all t=false→E t=f t)∧Q e ds' E w') (Ys I) (J3 J) f
  (λa E w hr hk hq=>⟨ds,E,hr,hk,hq⟩) _ _ a f _ ha (λ_ _=>O) h1
 simpa[YO] using h2
theorem XP.keeps_mono {K':Fr→World→Prop}:∀(l:List (Nat×Bool)) (f:Fr) (w:World),XP P all C K l f w→(∀f w,K f w→K' f w)→XP P all C K' l f w
 | [],f,w,h,hk=>by simp only[XP] at h ⊢;exact hk _ _ h
 | (j,q)::l,f,w,h,hk=>by
  simp only[XP] at h ⊢;cases E:Z8 all f (Q3 all j) with
  | false=>rw[E] at h;exact XP.keeps_mono l _ _ h hk
  | true =>
   rw[E] at h;cases q with
   | true=>obtain ⟨v,G,hx⟩:=h;exact ⟨v,G,XP.keeps_mono l _ _ hx hk⟩
   | false=>exact XO.mono (λv w' hx=>⟨hx.1,XP.keeps_mono l _ _ hx.2 hk⟩) h
theorem XP.keeps {D:List (Nat×Nat)}{H:Fr}:∀(l:List (Nat×Bool)) (f:Fr) (w:World),Z1 all D l=true→(∀t,Y4 D t=false→f t=H t)→XP P all C K l f w→XP P all C (λI w'=>(∀t,Y4 D t=false→I t=H t)∧K I w') l f w
 | [],f,w,_,E,h=>by simp only[XP] at h ⊢;exact ⟨E,h⟩
 | (j,q)::l,f,w,hd,E,h=>by
  simp only[Z1,List.all_cons,Bool.and_eq_true] at hd;have G:Z1 all D l=true:=hd.2;simp only[XP] at h ⊢;cases J:Z8 all f (Q3 all j) with
  | false=>rw[J] at h;exact XP.keeps l _ _ G (Jq hd.1 E) h
  | true =>
   rw[J] at h;cases q with
   | true=>obtain ⟨v,S,hx⟩:=h;exact ⟨v,S,XP.keeps l _ _ G (Jq hd.1 E) hx⟩
   | false=>exact XO.mono (λv w' hx=>⟨hx.1,XP.keeps l _ _ G (Jq hd.1 E) hx.2⟩) h
theorem XF.keeps {D:List (Nat×Nat)}{G:Fr}:∀(l:List (Nat×Bool)) (own:LN) (f:Fr) (w:World),Z1 all D l=true→(∀t,Y4 D t=false→f t=G t)→XF P all C K l own f w→XF P all C (λH w'=>(∀t,Y4 D t=false→H t=G t)∧K H w') l own f w
 | [],own,f,w,_,E,h=>⟨E,h⟩
 | (j,true)::l,own,f,w,hd,E,h=>by
  simp only[Z1,List.all_cons,Bool.and_eq_true] at hd;obtain ⟨I,v,J,hx⟩:=h;exact ⟨I,v,J,XF.keeps l own _ _ hd.2 (Jq hd.1 E) hx⟩
 | (j,false)::l,own,f,w,hd,E,h=>by
  simp only[Z1,List.all_cons,Bool.and_eq_true] at hd;refine ⟨h.1,λS h1 hc=>XO.mono (λv w' hx=>?_) (h.2 S h1 hc)⟩;obtain ⟨T,own',V,Y,hx⟩:=hx;exact ⟨T,own',V,Y,XF.keeps l own' _ _ hd.2 (Jq hd.1 E) hx⟩
theorem Qe7 {ro:Option Nat}{m:Nat}{ds:LN}{Q:Exit→LN→Fr→World→Prop}{id:Nat}{α:Type}(C:World→Prop) (pre l:List (Nat×Bool)) (i d:Nat) (rest:List (Nat×Bool)) (own:LN) (D Dc:List (Nat×Nat)) (S:α→List (Nat×Value)) (I:α→World→Prop) (Φ:Value→World→Prop) (hm:P.follows .mixedOrders=true) (T:Xu n all=true) (V:yh all=true)
  (hp:Qee all pre l i rest=true) (G:(Z1 all D pre && Z1 all D l && Z1 all Dc l)=true) (hd:(Q3 all i).dst=some d) (hC:C { w with drawn:=w.drawn+1 }) (Y:∀b∈own,b<w.heap.size)
  (stab:∀v (own:LN) w w',Φ v w→Step own w w'→(∀b∈ow v,b∉own)→Φ v w') (mono:∀z w w',I z w→Step [] w w'→I z w')
  (fin:∀z g w v,I z w→C w→Φ v w→XP P all C (λf w=>Q .normal ds f w) rest (QR (qO (S z) (mix D f g)) (some d) v) w)
  (h:XP P all C (λH _=>(∀g w,C w→XO P (Q3 all i) (mix Dc H g) w λE w'=>Step [] w w'∧C w'∧Φ (E d) w'∧∀b∈ow (E d),w.heap.size≤b∧b<w'.heap.size)∧XF P all C (λE w'=>∃z,Xe E (S z)∧I z w') l own H { w with drawn:=w.drawn+1 }) pre f { w with drawn:=w.drawn+1 }):WG ro m P n (.region id all.toArray true) Q ds f w:=by
 rw[Lu,Lu] at G;refine Qg8 C pre l i d rest own (λE w'=>(∀t,Y4 D t=false→E t=f t)∧∃z,Xe E (S z)∧I z w') Φ Dc hm T V hp G.2 hd hC Y ?_;refine XP.keeps_mono _ _ _ (XP.keeps pre f _ G.1.1 (λ_ _=>O) h) (λH w1 hx=>⟨⟨stab,?_,?_,?_⟩,XF.keeps l own _ _ G.1.2 hx.1 hx.2.2⟩)
 ·intro E w' hk J;have:=hx.2.1 E w' J;rw[Jo hk] at this;exact this
 ·rintro E w' ⟨hk,z,hs,hi⟩ v J hv;have:=fin z E w' v hi J hv;rw[Jo hk,YC hs] at this;exact this
 rintro E w' hb ⟨hk,z,hs,hi⟩ ha;exact ⟨hk,z,hs,mono z _ _ hi ha⟩
theorem fp {j:Nat}{l:List (Nat×Bool)}{own:LN}{v:Value}(E:∀w',(execOp (ev f) (Q3 all j)).run P w'=.ok (.value v) w') (h:XF P all C K l own (QR f (Q3 all j).dst v) w)
  (G:Z8 all f (Q3 all j)=true:=by rfl):XF P all C K ((j,true)::l) own f w:=⟨G,v,λw' _=>E w',h⟩
theorem fk {j:Nat}{l:List (Nat×Bool)}{own:LN}(h:∀w1,Step [] w w1→C w1→XO P (Q3 all j) f w1 λE w'=>C w'∧∃own',Step own w1 w'∧(∀b∈own',b∈own∨(w1.heap.size≤b∧b<w'.heap.size))∧XF P all C K l own' E w')
  (G:Z8 all f (Q3 all j)=true:=by rfl):XF P all C K ((j,false)::l) own f w:=⟨G,h⟩
theorem fe {own:LN}(h:K f w):XF P all C K [] own f w:=h
end
attribute [irreducible] XF
end Go.Lg
namespace Go.Proofs.YtdffckgdcegpaaaGreatDoor
open Go.Proofs.Tryz
open Go.Lg
instance:Bw prog 77 [nS,.int .i64 0,nS,nS,nS,nS,nS,nS] [(0,4),(4,1),(5,1),(6,1),(7,1)]:=⟨by kernel_rfl,by decide⟩
def spF (c:Zv) (pl:QP) (ps:List (LI)) (l:List (LI)):List Rsn:=l.zipIdx.filterMap (λp=>rsn c pl (plx ps (p.1.take c.co.length)) p.2 p.1)
theorem Qc5 {c:Zv}{pl:QP}{ps:List (LI)}{l:List (LI)}{k:Nat}(h:k<l.length):spF c pl ps (l.take (k+1))=spF c pl ps (l.take k)++(rsn c pl (plx ps ((l[k]'h).take c.co.length)) k (l[k]'h)).toList:=by
 unfold spF;rw[Le h,List.zipIdx_append,List.filterMap_append];have e:0+(l.take k).length=k:=by rw[Lx];omega
 rw[e];simp only[List.zipIdx_cons,List.zipIdx_nil,List.filterMap_cons,List.filterMap_nil];cases rsn c pl (plx ps ((l[k]'h).take c.co.length)) k (l[k]'h) <;> rfl
theorem Qaq (c:Zv) (pl:QP) (ps:List (LI)) (l:List (LI)):(spF c pl ps l).length≤l.length:=by
 unfold spF;refine LS (List.length_filterMap_le _ _) ?_;rw[List.length_zipIdx];exact Lr _
theorem ju {c:Zv}{pl sa:QP}{ps ts:List (LI)}(hp:sync (auts c.co)=some (pl,ps)) (hs:sync (auts c.co++auts c.rq)=some (sa,ts)) :
  spc c=⟨sa,ts.map (·.take c.co.length),ts.map (·.drop c.co.length),ts.map (λt=>plx ps (t.take c.co.length)),spF c pl ps ts⟩:=by
 unfold spc syA syQ;rw[hp,hs];simp only[];rw[U9];simp[spF]
theorem QeL {n:Nat}{u:LI}{s:List ByteArray}{x:XT}(h:Z6 n u s x=0):x.a.st≠0:=by
 unfold Z6 at h;split at h
 ·cases h
 split at h
 ·cases h
 split at h
 ·rename_i h1 h2;exact absurd h h2
 split at h
 ·cases h
 split at h
 ·cases h
 assumption
theorem yS {n:Nat}{al:LI}:∀{l:List XT}{s:List ByteArray}{u:LI},(Yi n al s u l).1=0→∀x∈l,x.a.st≠0
 | [],_,_,_,x,hx=>by cases hx
 | y::l,s,u,h,x,hx=>by
  rw[J8] at h;by_cases h1:Z6 n al s y≠0
  ·rw[if_pos h1] at h;exact absurd h h1
  rw[if_neg h1] at h;have h2:Z6 n al s y=0:=Lq.1 h1;rcases Lb.1 hx with rfl | hx
  ·exact QeL h2
  exact yS h x hx
theorem QeM {c:Zv}(h:Q8 c=0):∀x∈c.co,x.a.st≠0:=by
 unfold Q8 at h;by_cases h1:Ju c.ev≠0
 ·rw[if_pos h1] at h;exact absurd h h1
 rw[if_neg h1] at h;by_cases h2:c.co.length=0
 ·rw[if_pos h2] at h;cases h
 rw[if_neg h2] at h;by_cases h3:8<c.co.length∨12<c.co.length+c.rq.length
 ·rw[if_pos h3] at h;cases h
 rw[if_neg h3] at h;by_cases E:(Yi c.ev.length (JP c.ev.length) [] [] c.co).1≠0
 ·rw[if_pos E] at h;exact absurd h E
 exact yS (Lq.1 E)
theorem yf {c:Zv}(h:Q8 c=0) {A:QP}{Q:List (LI)}(hs:sync (auts c.co)=some (A,Q)):Zi A∧A.st=(Q.length:Int)∧0<Q.length∧∀e∈A.al,0≤e∧e<(c.ev.length:Int):=by
 have E:=ZF h;have G:=Yb E.co;have hsp:=YZ G hs;refine ⟨hsp.1.okay G,hsp.1.st,?_,λe he=>?_⟩
 ·refine Nat.pos_of_ne_zero λH=>?_;obtain ⟨a,ha,h1⟩:=hsp.2.1 H;obtain ⟨x,hx,rfl⟩:=Ly.1 ha;exact QeM h x hx h1
 rw[hsp.1.al] at he;obtain ⟨a,ha,h1⟩:=(Qa6 G e).1 he;obtain ⟨x,hx,rfl⟩:=Ly.1 ha;exact ⟨((E.co x hx).al e h1).1,E.ce x hx e h1⟩
theorem Qdo {Q:List (LI)}(h:0<Q.length) (t:LI):0≤plx Q t∧plx Q t<(Q.length:Int):=by
 unfold plx;split
 ·rename_i hm;have:=MG hm;omega
 omega
theorem Vt.take {a b:List QP}{t:LI}(h:Vt (a++b) t):Vt a (t.take a.length):=by
 have hl:=h.1;rw[Lk] at hl;refine ⟨by rw[Lx];omega,λi h1 h2=>?_⟩;have:=h.2 i (by omega) (by rw[Lk];omega);rw[L3 h2] at this;rw[MR];exact this
theorem Vt.drop {a b:List QP}{t:LI}(h:Vt (a++b) t):Vt b (t.drop a.length):=by
 have hl:=h.1;rw[Lk] at hl;refine ⟨by rw[L6];omega,λi h1 h2=>?_⟩;have:=h.2 (a.length+i) (by omega) (by rw[Lk];omega);rw[MB (by omega)] at this;rw[List.getElem_drop];simpa using this
theorem Vt.tpOk {l:List XT}{t:LI}(h:Vt (auts l) t):Qg4 (szs l) t:=by
 have hl:=h.1;unfold auts at hl;rw[Lh] at hl;refine ⟨by unfold szs;rw[Lh];exact hl,λi hi=>?_⟩;have h1:=h.2 i hi (by unfold auts;rw[Lh];omega);have E:i<(szs l).length:=by unfold szs;rw[Lh];omega
 rw[←Zn hi,←Zn E];unfold auts szs at *;simpa using h1
theorem XQ.add {base G T:Nat}{W H I J:World}{S V Y E v' c0 c1 c2 c3:Value}{cos rqs:List TV}{pls:LI}{fbs:List Rsn}{q:Rsn}(hB:Q4 W.heap G T [c0,c1,c2,c3,S,V,Y,E]) (hS:XQ base W S V Y E cos rqs pls fbs) (ha:G<base) (h1:Step [] W H)
  (ho:I.ownsRow base 83 4 v' (fbs.length+1) (fbs.flatMap Zy++Zy q)) (h2:Step (ob E) H I) (hn:∀b∈ob v',b∈ob E∨H.heap.size≤b) (h3:Step [G] I J) :
  Step (G::ob E) W J∧XQ base J S V Y v' cos rqs pls (fbs++[q])∧(∀x∈G::ob E,∃o:Obj,W.heap[x]?=some o∧o.isCells=true):=by
 refine ⟨((h1.any).trans' (h2.mono λx hx=>Lm _ hx)).trans' (h3.mono λx hx=>?_),(hS.a4 h1 ho h2 hn).low h3 (λx hx=>?_),λx hx=>?_⟩
 ·simp only[List.mem_singleton] at hx;subst hx;exact Ls
 ·simp only[List.mem_singleton] at hx;subst hx;exact ha
 rcases Lb.1 hx with rfl | hx
 ·exact hB.cells
 exact Go.Lg.QY hS.o4 x hx
set_option maxHeartbeats 40000000 in
theorem Kf {L:LN}{w:World}{c:CL}(h0:ZB L w.heap c) (mw:Kb w 4096) :
  QI prog 27 [c.val] w λr w'=>Step [] w w'∧∃v,r=.tuple #[v,.int .i64 (Yr c.cel)]∧(∃us,v=.agg us.toArray∧us.length=8∧ZO us)∧(Yr c.cel=0→Qko w.heap.size w'.heap v (spc c.cel)):=by
 have h:=h0.up (L':=[]) (by simp);refine Zh (Yr c.cel) λE hE=>?_;refine QI.of_G 20 func27 O ntmps27 results27 (by simp) ?_;refine QT<|QG (by rfl) (by rfl) ?_;refine xl rfl<|QQ (us:=c.cells) O λb1 w1 hF hb1 my=>xl O<|Qt (us:=[nS,.int .i64 0,nS,nS,nS,nS,nS,nS]) O λb2 w2 h5 hb2 gw=>Qe ?_;have kg:=hF.trans h5;have hz1:=hF.size;have hz2:=h5.size;have mz:=my.lt;have kh:=gw.lt
 have m0:=my.ext h5;refine QT<|QG (by rfl) (by rfl) ?_;refine x (Qr m0 O O)<|xl O<|xf<|(yW (h.ext kg) (mw.ext kg)).mono ?_;rintro r3 w3 ⟨h6,vp,rfl,z0,m1⟩;rw[hE] at z0 m1 ⊢;have ki:=kg.trans h6;refine Qb<|x (Ql O O)<|x (Ql O O)<|x Qf<|Qe<|QT<|QT<|QG (by rfl) (by rfl) ?_;refine Qb<|x (Q9 O O)<|xe<|Qg7 O (λkj=>?_) (λkj=>?_)
 ·refine QT<|QG (by rfl) (by rfl) ?_
  refine x (Z4 [] U)<|Qb<|xl O<|Qp (us:=[nS,.int .i64 0,nS,nS,nS,nS,nS,nS]) (gw.ext h6) O O O O ⟨O,O,O,O,O,O,O,O,U⟩ λw4 hM z2=>Qe<|JA ⟨λ_ h=>(by cases h),Mw,[.agg [nS,.int .i64 0,nS,nS,nS,nS,nS,nS].toArray,.int .i64 E],λW' hN=>⟨⟨⟨_,rfl,Qx rfl ((z2.ext hN).at (L:=[]) (by simp)).cells⟩,rfl,U⟩,(ki.then1 hM (by omega)).trans hN,_,rfl,⟨_,rfl,rfl,rfl,rfl,rfl,rfl,rfl,rfl,rfl,rfl,U⟩,λe=>absurd e kj⟩⟩
 have m2:E=0:=Lq.1 kj;obtain ⟨b,q,rfl,rfl,hQ,hj,z3⟩:=m1 m2;refine Z3 ?_;have hlb:=hj.B.lt;refine QT<|QG (by rfl) (by rfl) ?_;refine Qb<|x (QC O)<|x (Qa O)<|x (Yp (us:=Zc q.s) hj.B O O O)<|x (Z4 [(0,Zc q.s)] ⟨O,O,U⟩)<|xl O<|Qt (us:=[nS,.int .i64 0,nS,nS,nS,nS,nS,nS]) O λG w5 hY kk h7 =>
  xl rfl<|Qp (us:=[q.s.va,.int .i64 q.s.a.st,q.s.vm,q.s.ve,nS,nS,nS,nS]) h7 O O O O ⟨hj.s.al.one,O,hj.s.mr.one,hj.s.ed.one,O,O,O,O,U⟩ λH gx h7=>xe ?_
 have gy:Step [] w3 H:=hY.then1 gx kk;have kn:=h7.lt;have m3:=hj.ext gy;have hs06:=ki.trans gy;have hz3:=h6.size;have hz36:=gy.size;refine QT<|QT<|QG (by rfl) (by rfl) ?_;refine Qb<|x (QC O)<|x (Qa O)<|x (Qd m3.B O O)<|x (Qs m3.ts.arr O)<|Qb<|xe ?_;have m4:=(VK (λa ha=>by
  rcases Li.1 ha with ha | ha
  ·exact Yb (ZF hQ.ok).co a ha
  exact Yb (ZF hQ.ok).rq a ha) hQ.s)
 have ko:=m4.1;have m5:=m4.2;simp only[] at ko m5;have hZ:=ZF hQ.ok;have hckc:=hZ.c8;have ga:q.c.cel.co.length=q.c.co.length:=Lh ..;have z4:q.c.cel.rq.length=q.c.rq.length:=Lh ..;have hcr:=hZ.cr;have z5:(auts q.c.cel.co++auts q.c.cel.rq).length=q.c.co.length+q.c.rq.length:=by rw[Lk];unfold auts;rw[Lh,Lh,ga,z4]
 refine Zh (q.ts.map (·.2)) λT hT=>?_;rw[hT] at ko m5;have hTn:q.ts.length=T.length:=by rw[←hT,Lh]
 refine ZE<|Vr (α:=Nat×(Value×Value×Value×Value)×List TV×List TV×LI) [(7,17),(37,99),(100,118)] (λz=>[(37,.int .i64 z.1)]) (λz ds W'=>z.1≤q.ts.length∧Step [G] H W'∧KY H.heap.size W'.heap.size ds W'∧Q4 W'.heap G 77 [q.s.va,.int .i64 q.s.a.st,q.s.vm,q.s.ve,z.2.1.1,z.2.1.2.1,z.2.1.2.2.1,z.2.1.2.2.2] ∧
  XQ H.heap.size W' z.2.1.1 z.2.1.2.1 z.2.1.2.2.1 z.2.1.2.2.2 z.2.2.1 z.2.2.2.1 z.2.2.2.2 (spF q.c.cel q.p.a (q.qs.map (·.2)) (T.take z.1))∧z.2.2.1.map (·.2)=(T.take z.1).map (·.take q.c.co.length)∧z.2.2.2.1.map (·.2)=(T.take z.1).map (·.drop q.c.co.length)∧z.2.2.2.2=(T.take z.1).map (λt=>plx (q.qs.map (·.2)) (t.take q.c.co.length)))
  (λz=>q.ts.length - z.1) (by rfl) (0,(nS,nS,nS,nS),[],[],[]) Z
  ⟨Lj _,Step.refl _ _,⟨Mw,λD hD=>by cases hD⟩,h7,XQ.nil _ _,rfl,rfl,rfl⟩ ?_
 rintro ⟨k,⟨v1,v2,v3,I⟩,cos,rqs,pls⟩ g ds w7 ⟨hk,kp,m6,kq,J,gh,gi,gj⟩;simp only[] at hk kq J gh gi gj;have gk:Step [] w3 w7:=gy.then1 kp kk;have kr:=ki.trans gk;have hz7:=kp.size;have gz:(T.take k).length=k:=by rw[Lx];omega
 have hcosl:cos.length=k:=by have:=congrArg List.length gh;rw[Lh,Lh,gz] at this;exact this
 have hrqsl:rqs.length=k:=by have:=congrArg List.length gi;rw[Lh,Lh,gz] at this;exact this
 have hplsl:pls.length=k:=by rw[gj,Lh,gz]
 have m7:=Qaq q.c.cel q.p.a (q.qs.map (·.2)) (T.take k);rw[gz] at m7;refine Zh (spF q.c.cel q.p.a (q.qs.map (·.2)) (T.take k)) λfbs g0=>?_;rw[g0] at J m7;have l7:=J.lt;refine Zh (ob v1++(ob v2++(ob v3++ob I))) λav gl=>?_;have gb:∀x∈av,H.heap.size≤x∧x<w7.heap.size:=λx hx=>by
  rw[←gl] at hx;rcases yn hx with h1 | h1 | h1 | h1
  ·exact Qn J.o1 x h1
  ·exact Qn J.o2 x h1
  ·exact Qn J.o3 x h1
  exact Qn J.o4 x h1
 have g2:G∉av:=λhm=>by have:=(gb G hm).1;omega
 have kt:∀x∈av,x∈G::av:=λx hx=>Lm _ hx;have g3:Xl (G::av) b w7.heap q:=(hj.up (λx hx=>.inr (by
  rcases Lb.1 hx with rfl | hx
  ·exact kk
  have:=(gb x hx).1;omega))).ext gk
 refine QT<|QG (by rfl) (by rfl) ?_;refine x (QB O O)<|xe<|QT<|qL O (λku=>?_) (λku=>?_)
 ·refine JB ?_;have hke:q.ts.length≤k:=by have z9:¬(k:Int)<(q.ts.length:Int):=ku;omega
  rw[Ll (by omega)] at gh gi gj g0;have hsp:=ju hQ.p hQ.s;rw[hT,ga,←gh,←gi,←gj,g0] at hsp;have m8:=h6.trans gk;refine QT<|QG (by rfl) (by rfl) ?_
  refine x (Qr kq O O)<|xl O<|Qp (us:=[q.s.va,.int .i64 q.s.a.st,q.s.vm,q.s.ve,v1,v2,v3,I]) (gw.ext m8) O O O O ⟨hj.s.al.one,O,hj.s.mr.one,hj.s.ed.one,QJ J.o1,QJ J.o2,QJ J.o3,QJ J.o4,U⟩ λw8 g4 hB8=>Qe ?_;have hb2w:b2<H.heap.size:=by omega
  have gm:KY H.heap.size w7.heap.size ds w8:=m6.blk g4 (gw.ext m8);have hb2d:b2∉ds:=λhm=>by have:=(gm.2 b2 hm).1;omega
  have hS8:=J.low g4 (λx hx=>by simp only[List.mem_singleton] at hx;subst hx;exact hb2w);refine JA ⟨λD hD=>(gm.2 D hD).2.2,gm.1,[.agg [q.s.va,.int .i64 q.s.a.st,q.s.vm,q.s.ve,v1,v2,v3,I].toArray,.int .i64 E],λW' hN=>?_⟩;have g5:Lg.Xf [] w8 W':=Lg.Xf.nonc hN (λD hD=>⟨_,(gm.2 D hD).2.2,O⟩);have gc:=hN.size;have h8:=hS8.cst g5 gc
  refine ⟨⟨⟨_,O,Qx O ((hB8.step hN hb2d).at (L:=[]) (by simp)).cells⟩,congrArg (Value.int .i64) m2.symm,U⟩,(kr.then1 g4 (by omega)).then hN (λD hD=>.inr (by have:=(gm.2 D hD).1;omega)),_,O,⟨_,O,O,hj.s.al.one,O,hj.s.mr.one,hj.s.ed.one,QJ J.o1,QJ J.o2,QJ J.o3,QJ J.o4,U⟩,λ_=>?_⟩;have hl9:pls.length≤1099511627776:=by omega
  have hl8:fbs.length≤1099511627776:=by omega
  rw[hsp];refine ⟨q.s.va,q.s.vm,q.s.ve,v1,v2,v3,I,cos,rqs,O,O,O,λL hL=>⟨?_,⟨QS h8.o1 (by omega) (λx hx hm=>?_),λp hp=>h8.e1 p hp L (λx hx=>?_)⟩,⟨QS h8.o2 (by omega) (λx hx hm=>?_),λp hp=>h8.e2 p hp L (λx hx=>?_)⟩,QS h8.o3 hl9 (λx hx hm=>?_),QS h8.o4 hl8 (λx hx hm=>?_)⟩⟩
  ·have h1:=((z3 (b2::L) (λx hx=>by
    rcases Lb.1 hx with rfl | hx
    ·exact kh
    have:=hL x hx;omega)).1.ext gk).st (g4.mono (λx hx=>by simp only[List.mem_singleton] at hx;subst hx;exact Ls))
   have h2:=h1.up (L':=L) (λx hx=>.inl (Lm _ hx));exact ⟨h2.al.cst (g5.mono (by simp)) gc,h2.mr.cst (g5.mono (by simp)) gc,h2.ed.cst (g5.mono (by simp)) gc⟩
  ·have:=(Qn h8.o1 x hx).1;have:=hL x hm;omega
  ·exact .inl (by have:=hL x hx;omega)
  ·have:=(Qn h8.o2 x hx).1;have:=hL x hm;omega
  ·exact .inl (by have:=hL x hx;omega)
  ·have:=(Qn h8.o3 x hx).1;have:=hL x hm;omega
  have:=(Qn h8.o4 x hx).1;have:=hL x hm;omega
 have gn:k<q.ts.length:=by have z9:(k:Int)<(q.ts.length:Int):=ku;omega
 have go:k<T.length:=by omega
 have m9:=Lc gn;have hTe:T[k]'go=(q.ts[k]'gn).2:=by subst hT;simp
 have hq:=Qc5 (c:=q.c.cel) (pl:=q.p.a) (ps:=q.qs.map (·.2)) go;have gp:T.take (k+1)=T.take k++[T[k]'go]:=Le go;have ge:=ko _ (Lc go);rw[g0] at hq;rw[hTe] at hq gp ge;refine Z3 ?_
 refine Qbq (α:=(Value×Value×Value×Value)×List TV×List TV×LI) [(7,17),(38,117)] (λz=>[(37,.int .i64 k)]) (λz hO W'=>Step [G] H W'∧KY H.heap.size W'.heap.size hO W'∧Q4 W'.heap G 77 [q.s.va,.int .i64 q.s.a.st,q.s.vm,q.s.ve,z.1.1,z.1.2.1,z.1.2.2.1,z.1.2.2.2] ∧
  XQ H.heap.size W' z.1.1 z.1.2.1 z.1.2.2.1 z.1.2.2.2 z.2.1 z.2.2.1 z.2.2.2 (spF q.c.cel q.p.a (q.qs.map (·.2)) (T.take (k+1)))∧z.2.1.map (·.2)=(T.take (k+1)).map (·.take q.c.co.length)∧z.2.2.1.map (·.2)=(T.take (k+1)).map (·.drop q.c.co.length)∧z.2.2.2=(T.take (k+1)).map (λt=>plx (q.qs.map (·.2)) (t.take q.c.co.length))) (by rfl) ?_ ?_
 rotate_left
 ·rintro ⟨⟨u1,u2,u3,u4⟩,cos',rqs',pls'⟩ g hO W ⟨hsW,hDW,hBW,hSW,h1,h2,h3⟩;refine QG (by rfl) (by rfl) ?_;refine QN O O<|Qb<|xe ?_;exact ⟨(k+1,(u1,u2,u3,u4),cos',rqs',pls'),by simp only[];omega,Z,gn,hsW,hDW,hBW,hSW,h1,h2,h3⟩
 refine ZE<|QT<|QG (by rfl) (by rfl) ?_;refine Qb<|xig (g:=ZH) J0 g3.ts.arr O O gn λa40 pa=>?_;refine Zh (q.ts[k]'gn) λt ht=>?_;rw[ht] at pa m9 hq gp ge;have htI:=g3.ts.each t m9;have htl:t.2.length=q.c.co.length+q.c.rq.length:=by rw[ge.1,z5]
 refine x (Qv pa O)<|xl O<|Qt (us:=[.int .i64 0]) O λb7 w9 hs9 hb7 hB9=>xl O<|QL (j:=0) (u:=.int .i64 k) hB9 O O (by decide) O λw10 pc pd =>
  Qe ?_
 have kv:Step [] w7 w10:=hs9.then1 pc hb7;refine QT<|QG (by rfl) (by rfl) ?_;refine Qb<|Qb<|xl O<|xf<|(zZ (g3.ext kv) (htI.ext kv) (by omega)).mono ?_;rintro r11 pf ⟨pg,v9,ph,rfl,hI,hr⟩;refine Qb<|x (Ql O O)<|x (Ql O O)<|x Qf<|Qe ?_;have kw:=kv.trans pg;have kx:=g3.ext kw;refine Zh (t.2.take q.c.co.length) λtc hR=>?_;refine Zh (t.2.drop q.c.co.length) λtr gq=>?_
 rw[ga] at hq;rw[hR] at hI hq;rw[gq] at hr;have htcl:tc.length=q.c.co.length:=by rw[←hR,Lx];omega
 have htrl:tr.length=q.c.rq.length:=by rw[←gq,L6];omega
 have hbdt:=ge.bd (m:=4096) (λa ha=>by
  rcases Li.1 ha with ha | ha
  ·exact (Yb hZ.co a ha).st1
  exact (Yb hZ.rq a ha).st1)
 have pj:∀x∈tc,0≤x∧x<4096:=λx hx=>hbdt x (LW (by rw[hR];exact hx));refine QT<|UI (Step [] pf) [(0,true),(1,true),(2,true),(3,true),(4,true),(5,false),(6,true),(7,true)] mixed (by rfl) (by rfl) (by kernel_rfl) (Step.drew _ _) ?_
 refine p (λ_=>Qo)<|p (λ_=>QC O)<|p (λ_=>Qa O)<|pq (λ_ hc=>Qd (kx.B.ext hc) O O)<|p (λ_=>Qo)<|pk<|xf<|(zF (hI.ext (Step.drew _ _)) ((mw.ext (kr.trans kw)).ext (Step.drew _ _)) pj (by omega)).mono ?_;rintro r12 Y ⟨rfl,hs12⟩;have gg:=(Step.drew [] pf).trans hs12;refine ⟨gg,?_⟩
 have pm:(match mget q.mm (Jf tc) with | some u=>u | none=>.int .i64 0)=Value.int .i64 (plx (q.qs.map (·.2)) tc):=by
  rw[hQ.m tc htcl (λx hx=>(pj x hx).1)];unfold plx;by_cases hm:tc∈q.qs.map (·.2)
  ·rw[if_pos hm,if_pos hm]
  rw[if_neg hm,if_neg hm]
 refine Zh (plx (q.qs.map (·.2)) tc) λpi ky=>?_;rw[ky] at pm hq;refine pq (λ_ hc=>(XD (k:=Jf tc) (kx.m.ext hc) O O).trans (congrArg (λv=>Result.ok (Next.value v) _) pm))<|p (λ_=>Qf)<|pe ?_;have hU:=kw.trans gg;have hs012:=kr.trans hU;have hI:=hI.ext gg;have hr:=hr.ext gg;have h7:=kq.ext hU;have gr:=J.ext hU;have hS12d:=gr.ext (Step.drew [] Y)
 have hz712:=hU.size;have hzd:({ Y with drawn:=Y.drawn+1 }:World).heap.size=Y.heap.size:=rfl
 have hC0:Step av Y { Y with drawn:=Y.drawn+1 }:=Step.drew _ _
 have fin:∀{hf hg ho hh hi:Value} {wx wy:World},Step av Y wx→XQ H.heap.size wx hf hg ho I (cos++[(hh,tc)]) (rqs++[(hi,tr)]) (pls++[pi]) fbs→Step [G] wx wy→Q4 wy.heap G 77 [q.s.va,.int .i64 q.s.a.st,q.s.vm,q.s.ve,hf,hg,ho,I] →
   Step (G::av) Y wy∧Q4 wy.heap G 77 [q.s.va,.int .i64 q.s.a.st,q.s.vm,q.s.ve,hf,hg,ho,I]∧XQ H.heap.size wy hf hg ho I (cos++[(hh,tc)]) (rqs++[(hi,tr)]) (pls++[pi]) fbs:=λhC hP hs hB =>
  ⟨(hC.mono kt).trans' (hs.mono (λx hx=>by simp only[List.mem_singleton] at hx;subst hx;exact Ls)),hB,hP.low hs (λx hx=>by simp only[List.mem_singleton] at hx;subst hx;exact kn)⟩
 have hkl:k≤4096:=by omega
 have htc16:tc.length≤16:=by omega
 have htr16:tr.length≤16:=by omega
 have htc40:tc.length≤1099511627776:=by omega
 have htr40:tr.length≤1099511627776:=by omega
 have mz:cos.length+1≤1099511627776:=by omega
 have kh:rqs.length+1≤1099511627776:=by omega
 have hl3:pls.length+1≤1099511627776:=by omega
 have gs:H.heap.size≤Y.heap.size:=by omega
 refine Qbq (α:=Value×Value×Value×Value×Value) [(55,74)] (λ_=>[]) (λz hO w'=>hO=ds∧Step (G::av) Y w'∧Q4 w'.heap G 77 [q.s.va,.int .i64 q.s.a.st,q.s.vm,q.s.ve,z.1,z.2.1,z.2.2.1,I]∧XQ H.heap.size w' z.1 z.2.1 z.2.2.1 I (cos++[(z.2.2.2.1,tc)]) (rqs++[(z.2.2.2.2,tr)]) (pls++[pi]) fbs) (by rfl) ?_ ?_
 ·refine Qe7 (α:=Value×Value×Value×Value) (Step av Y) [(0,true),(1,true),(2,true),(6,true),(7,true),(8,true),(12,true),(13,true),(14,true)] [(3,false),(4,false),(5,false),(17,true),(9,false),(10,false),(11,false)] 15 70
   [(16,false),(18,false),(19,true),(20,false),(21,true),(22,false)] av [(55,74)] [(58,60),(64,66),(72,72)] (λz=>[(60,z.1),(66,z.2.1),(68,v3),(72,.pointer (some ⟨G,4,none⟩))]) (λz w'=>Step av Y w'∧XQ H.heap.size w' z.1 z.2.1 v3 I (cos++[(z.2.2.1,tc)]) (rqs++[(z.2.2.2,tr)]) pls fbs)
   (λv w'=>∃b,v=.slice (some ⟨b,0,none⟩) 1 1∧Q4 w'.heap b 3 [.int .i64 pi]) mixed (by rfl) (by rfl) (by kernel_rfl) (by rfl) O hC0 (λx hx=>LX (gb x hx).2 hz712) ?_ ?_ ?_ ?_
  ·rintro v own w w' ⟨b,rfl,hB⟩ hs hn;exact ⟨b,O,hB.step hs (hn b (by simp[ow]))⟩
  ·rintro z w w' ⟨h1,h2⟩ hs;exact ⟨h1.trans hs,h2.ext hs⟩
  ·rintro ⟨hf,hg,hh,hi⟩ g wz v ⟨pn,hP⟩ _ ⟨b15,rfl,g6⟩;simp only[] at hP;have hcz:=pn.size;refine pk<|Q6 (news:=[.int .i64 pi]) (L:=[]) hP.o3 O O O (g6.at (by simp)) (by simp[Value.oneCell']) hl3 (LS gs hcz) λho y1 g7 hF hn1=>?_;have Q1:=XQ.a3 (q:=pi) hP (Step.refl [] _) g7 hF hn1
   have kz:Step av Y y1:=pn.trans' (hF.mono (λb hb=>by rw[←gl];exact Ug (.inr (.inr (.inl hb)))));refine ⟨kz,?_⟩;refine pkl (hl:=by kernel_rfl)<|QL (j:=4) (u:=hf) (h7.step kz g2) O O (by simp) (QJ Q1.o1) λy2 h5 k0=>p (λ_=>Qa rfl) <|
    pkl (hl:=by kernel_rfl)<|QL (j:=5) (u:=hg) k0 O O (by simp) (QJ Q1.o2) λy3 h6 hB3'=>p (λ_=>Qa rfl) <|
    pkl (hl:=by kernel_rfl)<|QL (j:=6) (u:=ho) hB3' O O (by simp) (QJ Q1.o3) λy4 hM hB4'=>pe ?_
   exact ⟨(hf,hg,ho,hh,hi),U,O,fin kz Q1 ((h5.trans' h6).trans' hM) hB4'⟩
  refine p (λ_=>Qa O)<|pq (λ_ hc=>Qd (h7.step hc g2) O O)<|p (λ_=>Qo)<|p (λ_=>Qa O)<|pq (λ_ hc=>Qd (h7.step hc g2) O O)<|p (λ_=>Qo) <|
   p (λ_=>Qa O)<|pq (λ_ hc=>Qd (h7.step hc g2) O O)<|p (λ_=>Qo)<|pe ⟨λg wf hCf=>QD (us:=[[.int .i64 pi]]) O O (by decide) (by simp) ⟨rfl,rfl,U⟩ λb wf' po hbf pp=>⟨po,hCf.trans po,⟨b,rfl,pp⟩,λx hx=>?_⟩,?_⟩
  ·have hxe:x=b:=by
    have hx':x∈[b]:=hx;simpa using hx'
   subst hxe;exact ⟨hbf,pp.lt⟩
  have pt:∀{X:LN},(∀x∈X,x∈ob v1∨x∈ob v2)→∀x∈X,x∈av:=λhX x hx=>by rw[←gl];exact Ug ((hX x hx).imp id .inl)
  refine fk λx1 p1 c1=>xf<|(ZZ (hI.step c1 kt)).mono ?_;rintro hh y1 ⟨hF,g7⟩;have P1:=hS12d.ext p1;have pb1:=LS gs c1.size;refine ⟨c1.trans hF,av,hF.any,λb hb=>.inl hb,?_⟩;refine fk λx2 p2 c2=>QD (us:=[[hh]]) O O (by decide) (by simp) ⟨QY g7,rfl,U⟩ λb2' y2 h5 hb2' k0=>⟨c2.trans h5,av,h5.any,λb hb=>.inl hb,?_⟩;refine fk λx3 p3 c3=>?_
  have pu:=((hF.trans p2).trans h5).trans p3;have pw:=Qq g7 ((p2.trans h5).trans p3);refine Q6 (news:=[hh]) (L:=[]) (Qq P1.o1 pu) O O O ((k0.ext p3).at (by simp)) (λu hu=>by rw[List.mem_singleton] at hu;subst hu;exact QJ pw) mz (LS gs c3.size) λhf y3 ho4 h6 hn3=>?_;have P2:=XQ.a1 (q:=(hh,tc)) P1 pu pw htc40 (Lr _) pb1 ho4 h6 hn3
  have pz:Step av x3 y3:=h6.mono (pt λx hx=>.inl hx);refine ⟨c3.trans' pz,av,pz,λb hb=>.inl hb,?_⟩;refine fp (λ_=>Qa O) ?_;refine fk λx4 p4 c4=>xf<|(ZZ (hr.step c4 kt)).mono ?_;rintro hi y4 ⟨hM,p0⟩;have P3:=P2.ext p4;have pb3:=LS gs c4.size;refine ⟨c4.trans hM,av,hM.any,λb hb=>.inl hb,?_⟩
  refine fk λx5 p5 c5=>QD (us:=[[hi]]) O O (by decide) (by simp) ⟨QY p0,rfl,U⟩ λb5' y5 hY hb5' hB5'=>⟨c5.trans hY,av,hY.any,λb hb=>.inl hb,?_⟩;refine fk λx6 p6 c6=>?_;have p7:=((hM.trans p5).trans hY).trans p6;have p8:=Qq p0 ((p5.trans hY).trans p6)
  refine Q6 (news:=[hi]) (L:=[]) (Qq P3.o2 p7) O O O ((hB5'.ext p6).at (by simp)) (λu hu=>by rw[List.mem_singleton] at hu;subst hu;exact QJ p8) kh (LS gs c6.size) λhg y6 ho7 gx hn6=>?_;have P4:=XQ.a2 (q:=(hi,tr)) P3 p7 p8 htr40 (Lr _) pb3 ho7 gx hn6;have k4:Step av x6 y6:=gx.mono (pt λx hx=>.inr hx);refine ⟨c6.trans' k4,av,k4,λb hb=>.inl hb,?_⟩
  exact fe ⟨(hf,hg,hh,hi),⟨O,O,O,O,U⟩,c6.trans' k4,P4⟩
 rintro ⟨hf,hg,ho,hh,hi⟩ g hO k5 ⟨rfl,hJ,p9,qb⟩;simp only[] at p9 qb;have hz13:=hJ.size;have qc:=(kx.ext gg).st hJ;have hI:=hI.st hJ;have hr:=hr.st hJ;have g8:Xl [] b k5.heap q:=qc.up (by simp);have hcell:∀x∈G::av,∃o:Obj,Y.heap[x]?=some o∧o.isCells=true:=λx hx=>by
  rcases Lb.1 hx with rfl | hx
  ·exact h7.cells
  rw[←gl] at hx;rcases yn hx with h1 | h1 | h1 | h1
  ·exact Go.Lg.QY gr.o1 x h1
  ·exact Go.Lg.QY gr.o2 x h1
  ·exact Go.Lg.QY gr.o3 x h1
  exact Go.Lg.QY gr.o4 x h1
 have hD13:KY H.heap.size w7.heap.size hO k5:=((m6.up (Lr _)).ext hU).step hJ hcell;have hl7:=pd.lt;have hz910:=pc.size;have hb7n:b7∉G::av:=λhm=>by
  rcases Lb.1 hm with h1 | h1
  ·omega
  have:=(gb _ h1).2;omega
 have hb1n:b1∉G::av:=λhm=>by
  rcases Lb.1 hm with h1 | h1
  ·omega
  have:=(gb _ h1).1;omega
 have g9:=((pd.ext pg).ext gg).step hJ hb7n;have k6:=((m0.ext (h6.trans gk)).ext hU).step hJ hb1n;have hs613:Step [G] H k5:=(kp.trans hU).then hJ (λx hx=>by
  rcases Lb.1 hx with h1 | h1
  ·subst h1;exact .inl Ls
  exact .inr (gb x h1).1)
 have k7:(cos++[(hh,tc)]).map (·.2)=(T.take (k+1)).map (·.take q.c.co.length):=by rw[gp,Lt,Lt,gh,Mf,Mf,hR]
 have k8:(rqs++[(hi,tr)]).map (·.2)=(T.take (k+1)).map (·.drop q.c.co.length):=by rw[gp,Lt,Lt,gi,Mf,Mf,gq]
 have k9:pls++[pi]=(T.take (k+1)).map (λt=>plx (q.qs.map (·.2)) (t.take q.c.co.length)):=by rw[gp,Lt,gj,Mf,hR,ky]
 have hVc:Vt (auts q.c.cel.co) tc:=by
  have h1:=ge.take;rw[show (auts q.c.cel.co).length=q.c.co.length by unfold auts;rw[Lh];exact ga,hR] at h1;exact h1
 have hVr:Vt (auts q.c.cel.rq) tr:=by
  have h1:=ge.drop;rw[show (auts q.c.cel.co).length=q.c.co.length by unfold auts;rw[Lh];exact ga,gq] at h1;exact h1
 have gt:=yf hQ.ok hQ.p;have hpr:=Qdo gt.2.2.1 tc;rw[ky,←gt.2.1] at hpr;have hckp:cks q.p.a pi=0:=by
  unfold cks;rw[if_neg (by rw[(ZS q.p.a).2 gt.1];decide),if_neg (by omega)]
 have hvo:=VB g8.k1 g8.k2 g8.k3 (hI.up (L':=[]) (by simp)) (by rw[hQ.ex,hQ.cs];exact hZ.cd) hVc.tpOk;have hw:rsn q.c.cel q.p.a pi k t.2=(match vio q.c.cel tc with | some (kd,j)=>some ⟨k,kd,j,-1⟩ | none=>match rfd q.c.cel tr (Qb9 q.p.a pi) with | some (j,v)=>some ⟨k,3,j,v⟩ | none=>none):=by unfold rsn;rw[ga,hR,gq];rfl
 rw[QcD] at hw;rw[hQ.ex,hQ.cs] at hvo;refine Zh (Kl q.c.cel.ex q.c.cel.cs tc) λV hV=>?_;rw[hV] at hvo hw;refine QT<|QT<|QG (by rfl) (by rfl) ?_;refine Qb<|x (QC O)<|x (Qa O)<|x (Yp (us:=[q.vs,q.vx,q.vk]) g8.B O O O)<|Qb<|xl O<|xf<|hvo.mono ?_;rintro r14 ma ⟨hA,rfl⟩;refine Qb<|x (Ql O O)<|x (Ql O O)<|x (Ql O O)<|x (Ql O O)<|x Qf<|x Qf<|x Qf<|Qe ?_;have ka:=p9.ext hA
 have hK:=qb.ext hA;have qj:=hD13.ext hA;have qk:=hs613.trans hA;have hz14:=hA.size;have qo:fbs.length+1≤1099511627776:=by omega
 have hb014:H.heap.size≤ma.heap.size:=by omega
 have hz714:w7.heap.size≤ma.heap.size:=by omega
 refine QT<|QG (by rfl) (by rfl) ?_;refine Qb<|xe<|Kh rfl (λmc=>?_) (λmc=>?_)
 ·rw[if_pos mc] at hw;simp only[] at hw;rw[hw] at hq;refine QT<|QG (by rfl) (by rfl) ?_;refine x (Qa O)<|x (Qd ka O O)<|x (Qd (g9.ext hA) O O)<|Qb<|Qb<|x (QE ⟨O,O,O,O,U⟩) <|
   xl rfl<|QD (us:=[Zy ⟨k,V.1,V.2.1,-1⟩]) O O (by decide) (by simp) ⟨rfl,rfl,U⟩ λb93 y1 hG hb93 mf=>?_
  have qr:=hG.size;refine xl O<|Q6 (m:=1) (news:=Zy ⟨k,V.1,V.2.1,-1⟩) (L:=[]) (Qq hK.o4 hG) O O O (mf.at (by simp)) (by simp[Value.oneCell']) qo (LS hb014 qr) λu4 y2 gu gv mg=>?_;have mh:G∉ob I:=λhm=>by have:=(Qn hK.o4 _ hm).1;omega
  refine x (Qa O)<|xl O<|QL (j:=7) (u:=u4) ((ka.ext hG).step gv mh) O O (by simp) (QJ gu) λy3 mi mj=>xe ?_;have h4:=XQ.add (q:=⟨k,V.1,V.2.1,-1⟩) ka hK kn hG gu gv mg mi;refine JB<|⟨((hf,hg,ho,u4),cos++[(hh,tc)],rqs++[(hi,tr)],pls++[pi]),Z,qk.then h4.1 (λx hx=>?_),((qj.step h4.1 h4.2.2).up (LS hz714 h4.1.size)),mj,?_,k7,k8,k9⟩
  ·rcases Lb.1 hx with h1 | h1
   ·subst h1;exact .inl Ls
   exact .inr (Qn hK.o4 x h1).1
  simp only[];rw[hq];exact h4.2.1
 rw[if_neg (by rw[mc];decide)] at hw;simp only[] at hw;refine Z3 ?_;have hA14:=qc.ext hA;have hr:=hr.ext hA;refine QT<|QG (by rfl) (by rfl) ?_;refine Qb<|Qb<|Qb<|xl O<|xf<|(Vs (b:=b) (st:=pi) (vr:=ph) hr.cells).mono ?_;rintro r15 kb ⟨hH,c1,c2,c3,rfl,hc1,hc2,hc3,hR1,hR2,hR3⟩;refine xe ?_;have hz15:=hH.size;have g6:=ka.ext hH;have q0:=hK.ext hH
 have q1:=qj.ext hH;have q2:=qk.trans hH;have hA15:=hA14.ext hH;have g9:=g9.ext (hA.trans hH);have k6:=k6.ext (hA.trans hH);have hr:=hr.ext hH;refine Zh (wrf q.c.cel.rq tr (enb q.p.a pi)) λfl kc=>?_;have q3:∀x∈G::ob I,x∈G::av:=λx hx=>by
  rcases Lb.1 hx with rfl | hx
  ·exact Ls
  exact Lm _ (by rw[←gl];exact Ug (.inr (.inr (.inr hx))))
 have mn:∀x∈G::ob I,x<ma.heap.size:=λx hx=>by
  rcases Lb.1 hx with rfl | hx
  ·omega
  exact (Qn hK.o4 x hx).2
 have q4:Xl (G::ob I) b kb.heap q:=hA15.up (λx hx=>.inl (q3 x hx));have hIr15:QK (G::ob I) kb.heap ph tr:=hr.up (λx hx=>.inl (q3 x hx));have hEv:∀p∈fl,0≤p.1∧p.1<(q.c.ev.length:Int):=λp hp=>by
  rw[←kc] at hp;have h1:=(VJ.1 hp).1;unfold enb at h1;obtain ⟨e,he,h2⟩:=Ly.1 h1;have h3:=gt.2.2.2 _ (gt.1.ed e (Zw he).1).2.2.1;rw[h2] at h3;exact h3
 refine ZE<|jb (α:={ x:Int×Int // x∈fl }) (G::ob I) (by omega) (capt:=[.pointer (some ⟨c1,0,none⟩),.pointer (some ⟨c2,0,none⟩),.pointer (some ⟨c3,0,none⟩)]) O (encs:=λx=>[.int .i64 x.1.1,.int .i64 x.1.2]) (by decide) (λ_=>O)
  (Kv hR1 hR2 hR3 (λhm=>by have:=mn _ hm;omega) (λhm=>by have:=mn _ hm;omega) (λx hx=>by have:=mn _ hx;omega) q4 hIr15 (λx hx=>hZ.rq x.it (LG hx)) hVr hckp O kc)
  (λpre W=>(∀y∈pre,(q.c.cel.ev.getD y.1.1.toNat ⟨.empty,false,false,false,0⟩).co=true)∧Step [] kb W) (λpre=>(ZU.pure _).and (ZU.step (Lr _)))
  (λe pre W=>e=.exit 2∧(∃p y,pre=p++[y]∧(∀y∈p,(q.c.cel.ev.getD y.1.1.toNat ⟨.empty,false,false,false,0⟩).co=true)∧(q.c.cel.ev.getD y.1.1.toNat ⟨.empty,false,false,false,0⟩).co=false ∧
   ∃u4,Step (G::ob I) kb W∧Q4 W.heap G 77 [q.s.va,.int .i64 q.s.a.st,q.s.vm,q.s.ve,hf,hg,ho,u4]∧XQ H.heap.size W hf hg ho u4 (cos++[(hh,tc)]) (rqs++[(hi,tr)]) (pls++[pi]) (fbs++[⟨k,3,y.1.2,y.1.1⟩])∧KY H.heap.size w7.heap.size hO W))
  (λe pre=>(ZU.pure _).and (ZU.ex λp=>ZU.ex λy=>(ZU.pure _).and ((ZU.pure _).and ((ZU.pure _).and (ZU.ex λu4=>(ZU.step (Lr _)).and (ZU.blk.and ((ZU.cst λW W' h hc hz=>h.cst hc hz).and (KY.stb (by omega)))))))))
  ⟨λy hy=>(by cases hy),Step.refl _ _⟩
  (λf x f' W=>f'=upd (upd (upd (upd f 100 (.int .i64 x.1.1)) 101 (.int .i64 x.1.2)) 16 (.int .i64 x.1.1)) 17 (.int .i64 x.1.2)) (λx f'=>ZU.pure _) ?_ ?_ ?_ ?_
 ·rintro l pre ⟨⟨e,i⟩,he⟩ W S;refine QT<|QG (by rfl) (by rfl) ?_;refine Qe<|QG (by rfl) (by rfl) ?_;refine Qe ?_;exact ⟨O,X6.refl _ _ _,Lg.Xf.refl _ _,S,O⟩
 ·rintro l pre ⟨⟨e,i⟩,he⟩ f' W ⟨ke,S⟩ rfl _;have hee:=hEv _ he;simp only[] at hee;have hen:e=(e.toNat:Int):=by omega
  have kf:e.toNat<q.c.ev.length:=by omega
  have hAW:=q4.ext S;refine ZE<|QT<|QG (by rfl) (by rfl) ?_;refine x (Qa O)<|x (Qd (k6.ext S) O O)<|Qb<|xig (g:=Zt) (i:=e.toNat) VQ hAW.c.ev.arr O (congrArg (Value.int .i64) hen) kf λa105 za=>?_;have hge:q.c.cel.ev.getD e.toNat ⟨.empty,false,false,false,0⟩=q.c.ev[e.toNat]'kf:=by
   show q.c.ev.getD e.toNat _=_;simp[List.getD,kf]
  refine Zh (q.c.ev[e.toNat]'kf) λv hv=>?_;rw[hv] at za hge;refine x (Zb O)<|x (Qv (za.fld 1 (.bool v.co) O) O)<|x (Zs O)<|xe<|Kh O (λmo=>?_) (λmo=>?_)
  ·have mq:v.co=false:=by simpa using mo
   have hS:=q0.ext S;have hB:=g6.ext S;have gc:=S.size;refine QT<|QG (by rfl) (by rfl) ?_;refine x (Qa O)<|x (Qd hB O O)<|x (Qd (g9.ext S) O O)<|Qb<|Qb<|x (QE ⟨O,O,O,O,U⟩) <|
    xl rfl<|QD (us:=[Zy ⟨k,3,i,e⟩]) O O (by decide) (by simp) ⟨rfl,rfl,U⟩ λb93 y1 hG hb93 mf=>?_
   have qr:=hG.size;refine xl O<|Q6 (m:=1) (news:=Zy ⟨k,3,i,e⟩) (L:=[]) (Qq hS.o4 hG) O O O (mf.at (by simp)) (by simp[Value.oneCell']) qo (by omega) λu4 y2 gu gv mg=>?_;have mh:G∉ob I:=λhm=>by have:=(Qn hK.o4 _ hm).1;omega
   refine x (Qa O)<|xl O<|QL (j:=7) (u:=u4) ((hB.ext hG).step gv mh) O O (by simp) (QJ gu) λy3 mi mj=>xe ?_;have h4:=XQ.add (q:=⟨k,3,i,e⟩) hB hS kn hG gu gv mg mi;refine JB ?_;exact ⟨X6.step h4.1 gc (λx hx=>⟨.inl hx,h4.2.2 x hx⟩),O,pre,_,O,ke,by simp only[];rw[hge];exact mq,u4,S.any.trans' h4.1,mj,h4.2.1,(q1.ext S).step h4.1 h4.2.2⟩
  have mq:v.co=true:=by simpa using mo
  refine Z3<|⟨X6.refl _ _ _,Lg.Xf.refl _ _,λy hy=>?_,S⟩;rcases Li.1 hy with h1 | h1
  ·exact ke y h1
  simp only[List.mem_singleton] at h1;subst h1;simp only[];rw[hge];exact mq
 ·rintro D xs W hD hxs ⟨ke,S⟩ mu;have mv:rfd q.c.cel tr (Qb9 q.p.a pi)=none:=V2 λx hx=>by
   rw[show wrf q.c.cel.rq tr (Qb9 q.p.a pi)=fl from kc,←hxs] at hx;obtain ⟨y,hy,rfl⟩:=Ly.1 hx;exact ke y hy
  rw[mv] at hw;rw[hw] at hq;refine ⟨((hf,hg,ho,I),cos++[(hh,tc)],rqs++[(hi,tr)],pls++[pi]),Z,q2.trans S,(q1.ext S).cons (by omega) (by omega) mu,g6.ext S,?_,k7,k8,k9⟩;simp only[];rw[hq];have h9:=q0.ext S;simpa using h9
 rintro D e pre W hD hSp ⟨rfl,p,y,rfl,hp,hy,u4,hst,hBu,hSu,hDu⟩ mu _;have mv:rfd q.c.cel tr (Qb9 q.p.a pi)=some (y.1.2,y.1.1):=by
  obtain ⟨rs,zv⟩:=hSp;rw[Lt] at zv;refine V1 (x:=y.1) (t:=rs) (p:=p.map (·.1)) ?_ (λz hz=>?_) hy
  ·exact (show wrf q.c.cel.rq tr (Qb9 q.p.a pi)=fl from kc).trans (zv.symm.trans (by simp))
  obtain ⟨z',hz',rfl⟩:=Ly.1 hz;exact hp z' hz'
 rw[mv] at hw;simp only[] at hw;rw[hw] at hq;refine ⟨((hf,hg,ho,u4),cos++[(hh,tc)],rqs++[(hi,tr)],pls++[pi]),Z,q2.then hst (λx hx=>?_),hDu.cons (by omega) (by omega) mu,hBu,?_,k7,k8,k9⟩
 ·rcases Lb.1 hx with h1 | h1
  ·subst h1;exact .inl Ls
  exact .inr (Qn hK.o4 x h1).1
 simp only[];rw[hq];exact hSu
end Go.Proofs.YtdffckgdcegpaaaGreatDoor
namespace Go.Lg
theorem At.from {L:LN}{H:Array Obj}{a:Addr}{us:LV}(h:At L H a us) (j:Nat):At L H (a.add j) (us.drop j) :=
 ⟨λu hu=>by rw[ZK];exact h.out u (Mo hu),λu hu=>by rw[ZK];exact h.lt u (Mo hu),λi v E=>by
  rw[Addr.add_add];exact h.cell (j+i) v (by rw[←MM];exact E)⟩
end Go.Lg
namespace Go.Proofs.YtdffckgdcegpaaaGreatDoor
open Go.Proofs.Tryz
open Go.Lg
def lwB (l:LI) (n:Int):Nat:=(l.filter λx=>decide (x<n)).length
theorem QhX {l:LI}{n:Int}{i:Nat}(_:YX l) (hi:i≤l.length) (h1:∀m (hm:m<l.length),m<i→l[m]<n) (h2:∀m (hm:m<l.length),i≤m→n≤l[m]):lwB l n=i:=by
 unfold lwB;have e1:(l.take i).filter (λx=>decide (x<n))=l.take i:=List.filter_eq_self.2 λx hx=>by
  obtain ⟨m,hm,rfl⟩:=LD hx;rw[MR];have E:m<i∧m<l.length:=by rw[Lx] at hm;omega
  exact decide_eq_true (h1 m E.2 E.1)
 have e2:(l.drop i).filter (λx=>decide (x<n))=[]:=List.filter_eq_nil_iff.2 λx hx=>by
  obtain ⟨m,hm,rfl⟩:=LD hx;rw[List.getElem_drop];have E:i+m<l.length:=by rw[L6] at hm;omega
  have:=h2 (i+m) E (by omega);simp;omega
 have G:l.filter (λx=>decide (x<n))=l.take i:=by
  conv=>lhs;rw[←Mu i l]
  rw[L9,e1,e2,LJ]
 rw[G,Lx];omega
theorem QaN:∀{l:LI}{n:Int},YX l→n∈l→lwB l n=l.idxOf n
 | [],_,_,h=>by cases h
 | a::l,n,hi,h=>by
  have E:=LF.1 hi;unfold lwB;by_cases e:a=n
  ·subst e;have e2:l.filter (λx=>decide (x<a))=[]:=List.filter_eq_nil_iff.2 λx hx=>by have:=E.1 x hx;simp;omega
   rw[Mc,if_neg (by simp),e2];simp
  have hm:n∈l:=by
   rcases Lb.1 h with h1 | h1
   ·exact absurd h1.symm e
   exact h1
  have ih:=QaN E.2 hm;unfold lwB at ih;have ha:=E.1 n hm;rw[Mc,if_pos (decide_eq_true ha),LQ,ih,List.idxOf_cons];have:(a == n)=false:=by simpa using e
  rw[this];rfl
theorem yX {L:LN}{w:World}{v:Value}{l:LI}(h:QK L w.heap v l) (hi:YX l) (n:Int) :
  QI prog 84 [v,.int .i64 n] w λr w'=>w'=w∧r=.tuple #[.int .i64 (lwB l n),.bool (decide (n∈l))]:=by
 have hu:=h.le;refine QI.of_W func84 O ntmps84 results84 (by simp) ?_;refine Qc<|x Qf<|Qe<|Qc<|Qb<|x (Qs h O)<|Qe<|Qc<|Qb<|x Qf<|Qe<|Qg<|Qh<|QA (α:=Nat×Nat) [(7,9),(13,30)] (λz=>[(7,.int .i64 z.1),(8,.int .i64 z.2)])
  (λz w'=>w'=w∧z.1≤z.2∧z.2≤l.length∧(∀m (hm:m<l.length),m<z.1→l[m]<n)∧(∀m (hm:m<l.length),z.2≤m→n≤l[m])) (λz=>z.2 - z.1) (by rfl) (0,l.length) ⟨O,O,U⟩
  ⟨O,Lj _,Lr _,λm _ J=>absurd J (Nf m),λm h1 J=>absurd h1 (by simp only[] at J;omega)⟩ ?_
 rintro ⟨i,j⟩ g w1 ⟨rfl,hc,V,E,G⟩;simp only[] at hc V E G;refine Qg<|Qc<|Qb<|Qb<|x (QB O O)<|xe<|QH rfl (λhe=>?_) (λhe=>?_)
 ·have e:i=j:=by omega
  subst e;refine Qy<|Q0 (α:=Bool) [(4,5),(31,53)] (λz=>[(4,.int .i64 i),(5,.bool z)]) (λz w'=>w'=w1∧z=decide (n∈l)) (by rfl) ?_ ?_
  ·refine Qz<|Qb<|Qb<|Qb<|xb (QB O O) (λhf=>?_) (λhf=>?_)
   ·have H:i<l.length:=by omega
    refine Qb<|Qb<|Qb<|xii h O O H λhv hg=>x (Qv hg O)<|Qb<|xb (Q5 O O) (λS=>?_) (λS=>?_)
    ·refine Qb<|xs O<|xs O<|xs O<|xs O<|xs O<|xs O<|xs O<|xs O<|xs O<|x (Qj O)<|x (Qj O)<|x Qf<|Qe ?_;have:n∈l:=by rw[←S];exact Lc H
     exact ⟨true,⟨O,O,U⟩,O,by simp[this]⟩
    refine Qb<|Qb<|Qb<|xii h O O H λhw hk=>x (Qv hk O)<|xl O<|xf<|(yu _).mono ?_;rintro r3 w3 ⟨rfl,rfl⟩;refine Qb<|xs O<|xs O<|x (Qj O)<|x (Qj O)<|x (Qj O)<|x Qf<|Qe<|⟨false,⟨O,O,U⟩,O,?_⟩;have:n∉l:=by
     intro hm;obtain ⟨m,I,Y⟩:=LD hm;by_cases hl:m<i
     ·have:=E m I hl;omega
     by_cases hn:m=i
     ·subst hn;exact S Y
     have:=YX.get hi I (show i<m by omega);have:=G i H (Lr _);omega
    simp[this]
   refine Qb<|xs O<|xs O<|xs O<|xs O<|xs O<|xs O<|xs O<|xs O<|xs O<|xs O<|xs O<|xs O<|xs O<|xs O<|xs O<|xs O<|xs O <|
    x (Qj rfl)<|x Qf<|Qe<|⟨false,⟨O,O,U⟩,O,?_⟩
   have:n∉l:=by
    intro hm;obtain ⟨m,I,Y⟩:=LD hm;have:=E m I (by omega);omega
   simp[this]
  rintro z g w7 ⟨rfl,rfl⟩;exact Qm ⟨[.int .i64 i,.bool (decide (n∈l))],⟨O,O,U⟩,O,by rw[QhX hi (show i≤l.length by omega) E G];rfl⟩
 have hy:i<j:=by omega
 refine Qi<|Qh<|Qc<|Qb<|Qb<|QN O O<|x (XX O (by exact ⟨by omega,by omega⟩))<|x (Qav (n:=1) O O (by decide))<|x (XX O (by exact ⟨by omega,by omega⟩))<|Qe ?_;have hh:(((i:Int)+(j:Int)) / 2 ^ 1)=(((i+j) / 2:Nat):Int):=by omega
 rw[hh];generalize hq:(i+j) / 2=q;have ho:i≤q:=by omega
 have hp:q<j:=by omega
 have ha:q<l.length:=by omega
 refine Qc<|Qb<|Qb<|xii h O O ha λhz hr=>x (Qv hr O)<|Qb<|xl O<|xf<|(QaQ _ _).mono ?_;rintro r8 w8 ⟨rfl,rfl⟩;refine xe<|QH rfl (λhb=>?_) (λhb=>?_)
 ·refine Qz<|Qb<|Qe<|⟨(i,q),by simp only[];omega,⟨O,O,U⟩,O,ho,by omega,E,λm hm hs=>?_⟩;by_cases e:q=m
  ·subst e;omega
  have:=YX.get hi hm (show q<m by simp only[] at hs;omega);omega
 refine Qz<|Qb<|QN O O<|Qe<|⟨(q+1,j),by simp only[];omega,⟨O,O,U⟩,O,hp,V,λm hm ht=>?_,G⟩;by_cases e:m=q
 ·subst e;exact hb
 have:=YX.get hi ha (show m<q by simp only[] at ht;omega);omega
theorem J7 {L:LN}{w:World}{v:Value}{l:List Ed}(h:Zq L w.heap v l.length 3 (l.flatMap Qw)) :
  QI prog 67 [v] w λr w'=>Step [] w w'∧w'.ownsRow w.heap.size 144 3 r l.length (l.flatMap Qw):=by
 have hb:=h.le;refine QI.of_W func67 O ntmps67 results67 (by simp) ?_;refine Qc<|Qe ?_;obtain ⟨ao,cap,E⟩:=h.shape;refine Qg<|Qc<|Qb<|x (Ky (show ev _ _=_ from E) O)<|xe<|Q2 rfl (λG=>?_) (λG=>?_)
 ·refine Qc<|Qe<|Qm ⟨[nS],Z,Step.refl _ _,?_⟩;rcases h.2.2 with ⟨h1,h2⟩ | ⟨a,c,h1,_⟩
  ·have:l=[]:=Ln h2;subst this;exact QM _ _ _ _
  rw[h1] at E;cases E;cases G
 rcases h.2.2 with ⟨h1,h2⟩ | ⟨a,c,h1,h2,h3⟩
 ·rw[h1] at E;injection E with e1;subst e1;cases G
 refine Qi<|Qc ?_;have S:∀u∈l.flatMap Qw,u.oneCell'=true:=by
  intro u hu;obtain ⟨p,_,hp⟩:=Mj.1 hu;simp only[Qw,List.mem_cons,List.not_mem_nil,or_false] at hp;rcases hp with rfl | rfl | rfl <;> rfl
 refine xl rfl<|J2 λb5 w1 H I J=>Qb<|xl O<|Q6 (base:=w.heap.size) (J.own (n:=0) (sz:=3) O (by omega) I) O (show ev _ _=_ from h1) h.1 (h3.ext H) S (by omega) (by have:=J.lt;omega) λV w2 Y ha hc=>Qe<|Qm ⟨[V],Z,H.then1 ha I,?_⟩;simpa[tup] using Y
theorem j1 {L:LN}{w:World}{v:Value}{l:List JV}(h:Zq L w.heap v l.length 5 (l.flatMap Zt)) :
  QI prog 81 [v] w λr w'=>Step [] w w'∧w'.ownsRow w.heap.size 87 5 r l.length (l.flatMap Zt):=by
 have hb:=h.le;refine QI.of_W func81 O ntmps81 results81 (by simp) ?_;refine Qc<|Qe ?_;obtain ⟨ao,cap,E⟩:=h.shape;refine Qg<|Qc<|Qb<|x (Ky (show ev _ _=_ from E) O)<|xe<|Q2 rfl (λG=>?_) (λG=>?_)
 ·refine Qc<|Qe<|Qm ⟨[nS],Z,Step.refl _ _,?_⟩;rcases h.2.2 with ⟨h1,h2⟩ | ⟨a,c,h1,_⟩
  ·have:l=[]:=Ln h2;subst this;exact QM _ _ _ _
  rw[h1] at E;cases E;cases G
 rcases h.2.2 with ⟨h1,h2⟩ | ⟨a,c,h1,h2,h3⟩
 ·rw[h1] at E;injection E with e1;subst e1;cases G
 refine Qi<|Qc ?_;have S:∀u∈l.flatMap Zt,u.oneCell'=true:=by
  intro u hu;obtain ⟨p,_,hp⟩:=Mj.1 hu;simp only[Zt,List.mem_cons,List.not_mem_nil,or_false] at hp;rcases hp with rfl | rfl | rfl | rfl | rfl <;> rfl
 refine xl rfl<|J2 λb5 w1 H I J=>Qb<|xl O<|Q6 (base:=w.heap.size) (J.own (n:=0) (sz:=5) O (by omega) I) O (show ev _ _=_ from h1) h.1 (h3.ext H) S (by omega) (by have:=J.lt;omega) λV w2 Y ha hc=>Qe<|Qm ⟨[V],Z,H.then1 ha I,?_⟩;simpa[tup] using Y
structure XR {α:Type}(g:α→LV) (sz T:Nat) (ps:α→List (Value×Nat×Nat×LV)) (base:Nat) (w:World) (v:Value) (l:List α):Prop where
 own:w.ownsRow base T sz v l.length (l.flatMap g)
 each:∀q∈l,∀t∈ps q,ZM base (ob v) w.heap t.1 t.2.1 t.2.2.1 t.2.2.2
section
variable {α:Type} {g:α→LV} {sz T:Nat} {ps:α→List (Value×Nat×Nat×LV)} {base:Nat} {w w':World} {v:Value} {l:List α}
theorem XR.nil:XR g sz T ps base w (nS) []:=⟨QM _ _ _ _,λq hq=>by cases hq⟩
theorem XR.ext (h:XR g sz T ps base w v l) (hs:Step [] w w'):XR g sz T ps base w' v l:=⟨Qq h.own hs,λq hq t E=>(h.each q hq t E).ext hs⟩
theorem XR.app {E G:World}{H:Value}{q:α}(h:XR g sz T ps base w v l) (hs:Step [] w E)
  (hq:∀t∈ps q,∃N e,E.ownsRow N e t.2.2.1 t.1 t.2.1 t.2.2.2∧t.2.1≤1099511627776∧w.heap.size≤N) (hb:base≤w.heap.size)
  (V:G.ownsRow base T sz H (l.length+1) (l.flatMap g++g q)) (I:Step (ob v) E G) (J:∀b∈ob H,b∈ob v∨E.heap.size≤b):XR g sz T ps base G H (l++[q]):=by
 have Y:=QO h.own;refine ⟨?_,λd hd t S=>?_⟩
 ·rw[Lk,LA];simpa using V
 rcases Li.1 hd with hd | hd
 ·exact ((h.each d hd t S).ext hs).app I J
 simp only[List.mem_singleton] at hd;subst hd;obtain ⟨N,e,h1,h2,h3⟩:=hq t S;exact (ZM.of_own h1 h2 (by omega) (λb hb=>by have:=Y b hb;omega)).app I J
end
abbrev Qgr (q:IV):List (Value×Nat×Nat×LV):=[(q.p.va,q.p.a.al.length,1,q.p.a.al.map (.int .i64)),(q.p.vm,q.p.a.mr.length,1,q.p.a.mr.map (.int .i64)),(q.p.ve,q.p.a.ed.length,3,q.p.a.ed.flatMap Qw)]
abbrev IvP (base:Nat) (w:World) (v:Value) (l:List IV):Prop:=XR Za 5 66 Qgr base w v l
def Qkp (N:Nat) (H:Array Obj) (v:Value) (l:List XT):Prop:=∃qs:List IV,qs.map IV.it=l∧∀L:LN,(∀b∈L,b<N)→YW L H v qs
theorem IvP.itms {base:Nat}{w:World}{v:Value}{l:List IV}{L:LN}(h:IvP base w v l) (G:l.length≤1099511627776) (hm:∀q∈l,K7 q.nm) (E:∀b∈L,b<base):YW L w.heap v l :=
 ⟨QS h.own G (λb hb H=>by have:=(Qn h.own b hb).1;have:=E b H;omega),λq hq=>⟨h.each q hq (q.p.va,q.p.a.al.length,1,q.p.a.al.map (.int .i64)) (by simp) L (λb hb=>.inl (E b hb)),h.each q hq (q.p.vm,q.p.a.mr.length,1,q.p.a.mr.map (.int .i64)) (by simp) L (λb hb=>.inl (E b hb)),h.each q hq (q.p.ve,q.p.a.ed.length,3,q.p.a.ed.flatMap Qw) (by simp) L (λb hb=>.inl (E b hb))⟩,hm⟩
instance:Bw prog 66 [.string .empty,nS,.int .i64 0,nS,nS] [(0,1),(1,4)]:=⟨by kernel_rfl,by decide⟩
set_option maxHeartbeats 4000000 in
theorem Uz {L:LN}{w:World}{v vi:Value}{qs:List IV}{ix:LI}(h0:YW L w.heap v qs) (hD:QK L w.heap vi ix) (hb:∀i∈ix,0≤i∧i<(qs.length:Int)) :
  QI prog 82 [v,vi] w λr w'=>Step [] w w'∧Qkp w.heap.size w'.heap r (chs (qs.map IV.it) ix)∧r.oneCell'=true:=by
 have h:YW [] w.heap v qs:=h0.up (by simp);have hi:QK [] w.heap vi ix:=hD.up (by simp);have hS:=hi.le;refine QI.of_W func82 O ntmps82 results82 (by simp) ?_;refine Qc<|Qe<|Qc<|Qe<|Qg<|Qc<|Qb<|x (Qs hi O)<|Qb<|xe ?_
 refine Qh<|QA (α:=Nat×Value×List IV) [(5,5),(7,8),(11,41)] (λz=>[(5,z.2.1),(11,.int .i64 z.1)]) (λz w'=>z.1≤ix.length∧Step [] w w'∧IvP w.heap.size w' z.2.1 z.2.2∧z.2.2.map IV.it=chs (qs.map IV.it) (ix.take z.1)∧∀q∈z.2.2,K7 q.nm) (λz=>ix.length - z.1) (by rfl) (0,nS,[]) ⟨O,O,U⟩
  ⟨Lj _,Step.refl _ _,XR.nil,O,λq hq=>by cases hq⟩ ?_
 rintro ⟨k,vo,qo⟩ g w1 ⟨hk,H,I,hf,hp⟩;simp only[] at hk I hf hp;have hT:qo.length=k:=by have:=congrArg List.length hf;unfold chs at this;rw[Lh,Lh,Lx] at this;omega
 refine Qc<|x (QB O O)<|xe<|Qg<|QH O (λhr=>?_) (λhr=>?_)
 ·refine Qy ?_;have hE:ix.length≤k:=by have hh:¬(k:Int)<(ix.length:Int):=hr;omega
  rw[Ll hE] at hf;refine Qc<|Qb<|Qe ?_;exact Qm ⟨[_],Z,H,⟨qo,hf,λL hL=>I.itms (by omega) hp hL⟩,QJ I.own⟩
 refine Qi ?_;have J:k<ix.length:=by have hh:(k:Int)<(ix.length:Int):=hr;omega
 have hik:=hb _ (Lc J);have h6:ix.take (k+1)=ix.take k++[ix[k]'J]:=Le J;refine Zh (ix[k]'J) λi h7=>?_;rw[h7] at hik h6;have h8:i=(i.toNat:Int):=by omega
 have S:i.toNat<qs.length:=by omega
 have hA:chs (qs.map IV.it) (ix.take (k+1))=chs (qs.map IV.it) (ix.take k)++[(qs[i.toNat]'S).it]:=by
  rw[h6];unfold chs;rw[Lt];simp[List.getD,S]
 have h1:=h.ext H;have hs:=Lc S;refine Zh (qs[i.toNat]'S) λq hq=>?_;rw[hq] at hA hs;have G:=h1.each q hs;have hF:=h1.nm q hs;refine Qg<|Qh<|Qc<|xii (i:=k) (hi.ext H) O O J λhU hh=>?_;rw[h7] at hh;refine x (Qv hh O)<|Qe<|Qc<|Qb<|Qb<|xig (g:=Za) (i:=i.toNat) Yz h1.arr O (congrArg (Value.int .i64) h8) S λhV hB=>?_;rw[hq] at hB
 refine x (Zb O)<|x (QF (us:=[q.p.va,.int .i64 q.p.a.st,q.p.vm,q.p.ve]) (hB.from 1) O O)<|xl O<|Qt (us:=[nS,.int .i64 0,nS,nS]) O λb8 w2 hG hH V =>
  xl rfl<|Qp (us:=[q.p.va,.int .i64 q.p.a.st,q.p.vm,q.p.ve]) V O O O O ⟨G.al.one,O,G.mr.one,G.ed.one,U⟩ λE hI V=>xe ?_
 have hj:Step [] w1 E:=hG.then1 hI hH;have Y:Step [] E { E with drawn:=E.drawn+1 }:=Step.drew _ _
 have hW:=hj.size;have hX:=H.size;have hv:=Qn I.own;have h3:YW (ob vo) E.heap v qs:=(h.up (L':=ob vo) (λb hb=>.inr (hv b hb).1)).ext (H.trans hj);have hl:b8∉ob vo:=λhm=>by have:=(hv b8 hm).2;omega
 have hw:=G.ext hj;refine QW (Step (ob vo) E) [(0,true),(1,true),(2,true),(3,true),(4,true),(5,true),(6,true),(7,true),(9,true),(10,true),(11,true),(12,true),(14,true),(15,true),(8,false),(13,false),(16,false),(17,true),(18,true),(19,false),(20,false),(21,true)] mixed (by rfl) (by kernel_rfl) (Step.drew _ _) ?_
 refine p (λ_=>Qo)<|p (λ_=>Qo)<|p (λ_=>Qo)<|Go.Lg.pig (g:=Za) (i:=i.toNat) O Yz h3.arr O (congrArg (Value.int .i64) h8) S λhY hC=>?_;rw[hq] at hC;refine p (λ_=>Zb O)<|pq (λ_ hc=>Qv ((hC.fld 0 (.string q.nm) O).st hc) O)<|p (λ_=>Qa O)<|pq (λ_ hc=>Qd (V.step hc hl) O O)<|p (λ_=>Qa O) <|
  pq (λ_ hc=>Qd (V.step hc hl) O O)<|p (λ_=>Qa O)<|pq (λ_ hc=>Qd (V.step hc hl) O O) <|
  p (λ_=>Qa O)<|pq (λ_ hc=>Qd (V.step hc hl) O O)<|pk<|xf<|(ZZ (hw.al.ext Y)).mono ?_
 rintro r4 w4 ⟨ha,hy⟩;refine ⟨(Y.trans ha).any,?_⟩;refine pk<|xf<|(ZZ ((hw.mr.ext Y).ext ha)).mono ?_;rintro r5 w5 ⟨hg,hz⟩;refine ⟨((Y.trans ha).trans hg).any,?_⟩;refine pk<|xf<|(J7 (((hw.ed.ext Y).ext ha).ext hg)).mono ?_;rintro r6 w6 ⟨h2,h4⟩;have hn:=((Y.trans ha).trans hg).trans h2;refine ⟨hn.any,?_⟩
 refine p (λ_=>QE ⟨QY hy,O,QY hz,QY h4,U⟩)<|p (λ_=>Z4 [(0,[.string q.nm]),(1,[r4,.int .i64 q.p.a.st,r5,r6])] ⟨O,O,O,O,U⟩)<|pk<|QD (us:=[Za ⟨q.nm,⟨r4,r5,r6,q.p.a⟩⟩]) O O (by decide) (by simp) ⟨rfl,rfl,U⟩ λhZ w7 he ga hJ=>⟨(hn.trans he).any,?_⟩;have ho:=(hj.trans hn).trans he;have gb:=ho.size;have gc:({ E with drawn:=E.drawn+1 }:World).heap.size=E.heap.size:=rfl
 have ge:=ha.size;have gg:=hg.size;refine pk<|Q6 (m:=1) (news:=Za ⟨q.nm,⟨r4,r5,r6,q.p.a⟩⟩) (L:=[]) (Qq I.own ho) O O O (hJ.at (by simp)) (λu hu=>by
   simp only[List.mem_cons,List.not_mem_nil,or_false] at hu;rcases hu with rfl | rfl | rfl | rfl | rfl
   ·rfl
   ·exact QJ hy
   ·rfl
   ·exact QJ hz
   exact QJ h4) (by omega) (by omega) λv8 w8 hK h5 hM=>⟨(hn.trans he).any.trans' h5,?_⟩
 refine p (λ_=>Qf)<|pe ?_;have hN:=G.al.le;have hO:=G.mr.le;have hP:=G.ed.le;have hQ:IvP w.heap.size w8 v8 (qo++[⟨q.nm,⟨r4,r5,r6,q.p.a⟩⟩]):=I.app ho (λt ht=>by
  simp only[List.mem_cons,List.not_mem_nil,or_false] at ht;rcases ht with rfl | rfl | rfl
  ·exact ⟨_,_,Qq (Qq (Qq hy hg) h2) he,hN,by omega⟩
  ·exact ⟨_,_,Qq (Qq hz h2) he,hO,by omega⟩
  exact ⟨_,_,Qq h4 he,hP,by omega⟩) (by omega) hK h5 hM
 refine Qz<|QN O O<|Qb<|xe<|⟨(k+1,v8,_),by simp only[];omega,⟨O,O,U⟩,J,(H.trans ho).then h5 (λb hb=>.inr (hv b hb).1),hQ,?_,λq' hR=>?_⟩
 ·simp only[];rw[hA,Lt,hf];rfl
 rcases Li.1 hR with h9 | h9
 ·exact hp q' h9
 simp only[List.mem_singleton] at h9;subst h9;exact hF
theorem qg {L:LN}{w:World}{bp bm:Nat}{G H I J:Value}{co:LI}{mi:Bool}(S:Q4 w.heap bp 95 [G,H,I,J]) (hm:Q4 w.heap bm 4 [.bool mi]) (V:QK L w.heap G co) (hi:YX co) (n:Int) :
  QI prog 83 [.int .i64 n,.pointer (some ⟨bp,0,none⟩),.pointer (some ⟨bm,0,none⟩)] w λr w'=>Step [bm] w w'∧r=.int .i64 (lwB co n)∧Q4 w'.heap bm 4 [.bool (mi || !decide (n∈co))]:=by
 refine QI.of_W func83 O ntmps83 results83 (by simp) ?_;refine Qc<|Qe<|Qc<|x (Qa O)<|x (Qd S O O)<|Qb<|xl O<|xf<|(yX V hi n).mono ?_;rintro r1 Y ⟨rfl,rfl⟩;refine Qb<|x (Ql O O)<|x (Ql O O)<|x Qf<|Qe<|Q0 (α:=Bool) [(14,18)] (λz=>[]) (λz w'=>Step [bm] Y w'∧Q4 w'.heap bm 4 [.bool (mi || !decide (n∈co))]) (by rfl) ?_ ?_
 ·refine Qz<|xB (Qd hm O O) (λE=>?_) (λE=>?_)
  ·refine Qb<|xs O<|xs O<|x (Qj O)<|xl O<|QL (j:=0) (u:=.bool true) hm O O (by simp) rfl λw2 ha hb=>xe ?_;exact ⟨true,U,ha,by rw[E];exact hb⟩
  refine Qb<|Qb<|x (Zs O)<|x (Qj O)<|xl O<|QL (j:=0) (u:=.bool (!decide (n∈co))) hm O O (by simp) rfl λw3 hc he=>xe ?_;exact ⟨true,U,hc,by rw[E];exact he⟩
 rintro z g w4 ⟨hf,hg⟩;refine Qc<|Qb<|Qe ?_;exact Qm ⟨[_],Z,hf,O,hg⟩
theorem ZM.of_lt {base N:Nat}{av:LN}{H:Array Obj}{v:Value}{n sz:Nat}{cs:LV}(h:∀L:LN,(∀b∈L,b<N)→Zq L H v n sz cs) (hb:base≤N) (E:∀b∈av,b<N):ZM base av H v n sz cs:=λL G =>
 h L (λb I=>(G b I).elim (λh=>by omega) (E b))
theorem JG (L:LN) (H:Array Obj):QK L H (nS) []:=Zq.nil L H 1
end Go.Proofs.YtdffckgdcegpaaaGreatDoor
namespace Go.Lg
section
variable {P:Program} {f:Fr} {w:World} {d:Option Nat} {ty:Nat} {ps:String} {af:Array Edge} {gd:Option (Nat×Bool)}
end
end Go.Lg
namespace Go.Proofs.YtdffckgdcegpaaaGreatDoor
open Go.Lg
theorem Qeu (e:JV):∀u∈Zt e,u.oneCell'=true:=by
 intro y hy;simp only[Zt,List.mem_cons,List.not_mem_nil,or_false] at hy;rcases hy with rfl | rfl | rfl | rfl | rfl <;> rfl
theorem Qgq {q:IV}(h1:q.p.va.oneCell'=true) (h2:q.p.vm.oneCell'=true) (h3:q.p.ve.oneCell'=true):∀u∈Za q,u.oneCell'=true:=by
 intro y hy;simp only[Za,List.mem_cons,List.not_mem_nil,or_false] at hy;rcases hy with rfl | rfl | rfl | rfl | rfl
 ·rfl
 ·exact h1
 ·rfl
 ·exact h2
 exact h3
theorem QdY {base N:Nat}{av:LN}{H:Array Obj}{q:IV}(h:∀L:LN,(∀b∈L,b<N)→Zu L H q.p.va q.p.vm q.p.ve q.p.a) (hb:base≤N) (G:∀b∈av,b<N):∀t∈Qgr q,ZM base av H t.1 t.2.1 t.2.2.1 t.2.2.2:=by
 intro t I;simp only[List.mem_cons,List.not_mem_nil,or_false] at I;rcases I with rfl | rfl | rfl
 ·exact ZM.of_lt (λL E=>(h L E).al) hb G
 ·exact ZM.of_lt (λL E=>(h L E).mr) hb G
 exact ZM.of_lt (λL E=>(h L E).ed) hb G
section
variable {base:Nat} {w w':World} {vc va vc' va':Value} {co:List IV} {al:LI}
end
end Go.Proofs.YtdffckgdcegpaaaGreatDoor
namespace Go.Lg
open Go.RowKit
section
variable {P:Program} {n:Nat} {f:Fr} {w:World} {all:List Oper} {C:World→Prop} {K:Fr→World→Prop}
end
section
variable {P:Program} {n:Nat} {f:Fr} {w:World} {all:List Oper} {C J:World→Prop} {K:Fr→World→Prop}
end
end Go.Lg
namespace Go.Proofs.YtdffckgdcegpaaaGreatDoor
open Go.Lg
section
variable {a:QP}
end
end Go.Proofs.YtdffckgdcegpaaaGreatDoor
namespace Go.Proofs
open Go.Proofs.Tryz
open Go.Shelf
def Tryz.sortI_ren:Go.Shelf.Ren:=⟨λ| 5=>101 | 8=>176 | 7=>175 | 19=>229 | 20=>230 | 10=>221 | 11=>222 | 12=>223 | 13=>224 | 14=>225 | 15=>226 | 16=>160 | 17=>227 | 18=>228 | 30=>267 | 31=>268 | 32=>269 | 33=>270 | 34=>271 | 35=>219 | 40=>296 | n=>n,λ| 23=>37 | 25=>3 | 3=>3 | 32=>269 | 22=>37 | 0=>0 | 44=>338 | 46=>340 | 4=>4 | 36=>332 | 35=>331 | 41=>178 | 5=>5 | 9=>9 | 53=>372 | 57=>376 | 63=>401 | 64=>381 | n=>n,λ| n=>n⟩
theorem Tryz.sortI:Go.Proofs.SlLaysM.n5 prog Tryz.sortI_ren:={
 mixed:=by kernel_rfl
 f5:=⟨Tryz.f101.name,by decide,func101.trans (congrArg some (by kernel_rfl))⟩
 f7:=⟨Tryz.f175.name,by decide,func175.trans (congrArg some (by kernel_rfl))⟩
 f8:=func176.trans (congrArg some (by kernel_rfl))
 f10:=⟨Tryz.f221.name,by decide,func221.trans (congrArg some (by kernel_rfl))⟩
 f11:=⟨Tryz.f222.name,by decide,func222.trans (congrArg some (by kernel_rfl))⟩
 f12:=⟨Tryz.f223.name,by decide,func223.trans (congrArg some (by kernel_rfl))⟩
 f13:=⟨Tryz.f224.name,by decide,func224.trans (congrArg some (by kernel_rfl))⟩
 f14:=⟨Tryz.f225.name,by decide,func225.trans (congrArg some (by kernel_rfl))⟩
 f15:=⟨Tryz.f226.name,by decide,func226.trans (congrArg some (by kernel_rfl))⟩
 f16:=⟨Tryz.f160.name,by decide,func160.trans (congrArg some (by kernel_rfl))⟩
 f17:=⟨Tryz.f227.name,by decide,func227.trans (congrArg some (by kernel_rfl))⟩
 f18:=⟨Tryz.f228.name,by decide,func228.trans (congrArg some (by kernel_rfl))⟩
 f19:=func229.trans (congrArg some (by kernel_rfl))
 f20:=func230.trans (congrArg some (by kernel_rfl))
 f30:=⟨Tryz.f267.name,by decide,func267.trans (congrArg some (by kernel_rfl))⟩
 f31:=func268.trans (congrArg some (by kernel_rfl))
 f32:=func269.trans (congrArg some (by kernel_rfl))
 f33:=⟨Tryz.f270.name,by decide,func270.trans (congrArg some (by kernel_rfl))⟩
 f34:=⟨Tryz.f271.name,by decide,func271.trans (congrArg some (by kernel_rfl))⟩
 f35:=⟨Tryz.f219.name,by decide,func219.trans (congrArg some (by kernel_rfl))⟩
 f40:=⟨Tryz.f296.name,by decide,func296.trans (congrArg some (by kernel_rfl))⟩
 t0:=underlying0
 a0:=Tryz.isAgg0
 z0:=Tryz.sizeOf0
 v0:=Tryz.zeroValue0
 t3:=underlying3
 a3:=Tryz.isAgg3
 z3:=Tryz.sizeOf3
 v3:=Tryz.zeroValue3
 t4:=underlying4
 a4:=Tryz.isAgg4
 z4:=Tryz.sizeOf4
 v4:=Tryz.zeroValue4
 t5:=underlying5
 a5:=Tryz.isAgg5
 z5:=Tryz.sizeOf5
 v5:=Tryz.zeroValue5
 t9:=underlying9
 a9:=Tryz.isAgg9
 z9:=Tryz.sizeOf9
 v9:=Tryz.zeroValue9
 t22:=underlying37
 a22:=Tryz.isAgg37
 z22:=Tryz.sizeOf37
 v22:=Tryz.zeroValue37
 t23:=underlying37
 a23:=Tryz.isAgg37
 z23:=Tryz.sizeOf37
 v23:=Tryz.zeroValue37
 t25:=underlying3
 a25:=Tryz.isAgg3
 z25:=Tryz.sizeOf3
 v25:=Tryz.zeroValue3
 t32:=underlying269
 a32:=Tryz.isAgg269
 z32:=Tryz.sizeOf269
 v32:=Tryz.zeroValue269
 t35:=underlying331
 a35:=Tryz.isAgg331
 z35:=Tryz.sizeOf331
 v35:=Tryz.zeroValue331
 t36:=underlying332
 a36:=Tryz.isAgg332
 z36:=Tryz.sizeOf332
 v36:=Tryz.zeroValue332
 t41:=underlying178
 a41:=Tryz.isAgg178
 z41:=Tryz.sizeOf178
 v41:=Tryz.zeroValue178
 t44:=underlying338
 a44:=Tryz.isAgg338
 z44:=Tryz.sizeOf338
 v44:=Tryz.zeroValue338
 t46:=underlying340
 a46:=Tryz.isAgg340
 z46:=Tryz.sizeOf340
 v46:=Tryz.zeroValue340
 t53:=underlying372
 a53:=Tryz.isAgg372
 z53:=Tryz.sizeOf372
 v53:=Tryz.zeroValue372
 t57:=underlying376
 a57:=Tryz.isAgg376
 z57:=Tryz.sizeOf376
 v57:=Tryz.zeroValue376
 t63:=underlying401
 a63:=Tryz.isAgg401
 z63:=Tryz.sizeOf401
 v63:=Tryz.zeroValue401
 t64:=underlying381
 a64:=Tryz.isAgg381
 z64:=Tryz.sizeOf381
 v64:=Tryz.zeroValue381 }
end Go.Proofs
namespace Go.Proofs.YtdffckgdcegpaaaGreatDoor
open Go.Proofs.Tryz
open Go.Lg Go.Sort Go.Lib
abbrev iC:Int→Value:=Value.int .i64
theorem QbP {e:Nat}{w:World}{l:LI}{g:Nat}{cur:Array Value}(G:w.heap[g]?=some (.cells cur e (0,0))) (H:cur.toList.take (l.length*1)=l.map iC):Holds iC w g 0 l.toArray:=by
 intro j E;rw[LU] at E;have h1:cur.toList[j]?=some (iC l[j]):=by
  have h2:(cur.toList.take (l.length*1))[j]?=(l.map iC)[j]?:=by rw[H]
  rw[LK,if_pos (by omega),M1,Lv E] at h2;exact h2
 have h3:l.toArray[j]! = l[j]:=by simp[E]
 constructor
 ·show (match w.heap[g]? with | some (.cells c _ _)=>if (none:Option _).isSome then none else c[0+j]? | _=>none)=_
  rw[G,h3];simp only[Nat.zero_add,Option.isSome_none,Bool.false_eq_true,if_false];rw[←L2,h1]
 show (match w.heap[g]? with | some (.cells _ _ (lo,hi))=>decide (lo≤0+j) && decide (0+j<hi) | _=>false)=false
 rw[G];simp
theorem QfS {e base:Nat}{w:World}{g cap n k:Nat}{cur:Array Value}{os:Array Obj}{d:Array Int}(J:base≤g) (H:w.heap[g]?=some (.cells cur e (0,0))) (hb:d.size≤cap) (S:cap≤maxLen) (T:cur.size=cap*1) (hk:k≤d.size) :
  Step [g] w (grow (putRow iC (Sort.ahead w n) g 0 d) os)∧Qu e base (grow (putRow iC (Sort.ahead w n) g 0 d) os) (.slice (some ⟨g,0,none⟩) k cap) (d.toList.take k):=by
 have V:g<w.heap.size:=(Lz.1 H).1;have E:(grow (putRow iC (Sort.ahead w n) g 0 d) os).heap=w.heap.modify g (onCells (putCells iC 0 d))++os:=rfl;have Y:(d.toList.take k).length=k:=by simp;omega
 refine ⟨⟨O,O,O,?_,λi hi hn=>?_⟩,?_⟩
 ·rw[E,MQ,L5];omega
 ·rw[E,L8,L5,if_pos hi,Mg,if_neg (λe=>hn (by simp[e]))]
 unfold Qu;rw[Y];refine ⟨by simp;omega,.inr ⟨g,cap,putCells iC 0 d cur,O,J,?_,by omega,S,by simp[putCells,T],?_⟩⟩
 ·rw[E,L8,L5,if_pos V,Mg,if_pos rfl,H];rfl
 apply M2;intro j;rw[LK,M1,LK];by_cases I:j<k
 ·rw[if_pos (by omega),if_pos I];have ha:j<cur.size:=by omega
  have G:j<d.size:=by omega
  rw[L2,L2,Ma G];simp only[putCells,Array.getElem?_mapIdx,Array.getElem?_eq_getElem ha,Option.map_some,Nat.zero_le,Nat.zero_add,true_and,if_pos G,Nat.sub_zero];rw[getElem!_pos d j G]
 rw[if_neg (by omega),if_neg I];rfl
theorem qa {w:World}{base:Nat}{v:Value}{l:LI}(h:Qu 3 base w v l) (hl:l.length≤1099511627776) :
  QI prog 101 [v] w λ_ w'=>Step (ob v) w w'∧Qu 3 base w' v (l.mergeSort λx y=>decide (x≤y)):=by
 unfold QI;rcases h.2 with ⟨rfl,H⟩ | ⟨g,cap,cur,rfl,I,E,ha,J,S,T⟩
 ·have V:l=[]:=Ln H;subst V;have hc:=AnyM.slices_Sort_int_none Tryz.sortI none 0 w;change Calls prog 101 _ _ _ at hc;refine Calls.mono hc λe w' he=>?_;obtain ⟨rfl,rfl⟩:=he;exact ⟨Step.refl _ _,by rw[List.mergeSort_nil];exact h⟩
 have Y:g<w.heap.size:=(Lz.1 E).1;have hc:=AnyM.slices_Sort_int Tryz.sortI g 0 cap l w (QbP E T) Y (by omega);change Calls prog 101 _ _ _ at hc;refine Calls.mono hc λe w' he=>?_;obtain ⟨rfl,n,os,rfl⟩:=he;have hp:=List.mergeSort_perm l (λx y=>decide (x≤y));have G:=hp.length_eq
 have:=QfS (e:=3) (n:=n) (k:=l.length) (os:=os) (d:=(l.mergeSort λx y=>decide (x≤y)).toArray) I E (by simp;omega) J S (by simp);refine ⟨this.1,?_⟩;have h2:=this.2;simp only[List.take_of_length_le (Nat.le_of_eq G)] at h2;unfold Qu at h2 ⊢;rw[G] at h2 ⊢;exact h2
end Go.Proofs.YtdffckgdcegpaaaGreatDoor
namespace Go.Lg
section
variable {P:Program} {f:Fr} {w:World} {d:Option Nat} {ty:Nat} {ps:String} {af:Array Edge} {gd:Option (Nat×Bool)}
theorem jC {t E:Nat}{k:IntKind}[h:Ik P t k] [h':St P E] {x:Operand}{n:Nat}{G:IntKind}(hx:ev f x=.int G n) (H:n<128) :
  (execOp (ev f) ⟨d,.convert t E x,ty,ps,af,gd⟩).run P w=.ok (.value (.string ⟨#[UInt8.ofNat n]⟩)) w:=by
 refine q8 hx ?_;rw[run_convert_int_string w t E G n (by rw[h.u];rfl) h'.u];have I:Utf8.valid (n:Int)=true:=by
  unfold Utf8.valid;simp;omega
 unfold Utf8.encode;simp only[I,if_true,Int.toNat_natCast,H]
end
end Go.Lg
namespace Go.Proofs.YtdffckgdcegpaaaGreatDoor
open Go.Lg Go.Sort
end Go.Proofs.YtdffckgdcegpaaaGreatDoor
namespace Go.Lg
section
variable {P:Program} {f:Fr} {w:World} {K:Fr→World→Prop} {d:Option Nat} {ty:Nat} {ps:String} {af:Array Edge} {gd:Option (Nat×Bool)}
theorem QfY {t e sz bys:Nat}{z:Value}[h:Sl P t e sz bys z] (Y:∀u∈z.cells,u.oneCell'=true) {s:Operand}{b o m c T:Nat}{cs:LV}(H:Q4 w.heap b T cs) (hs:∃E,ev f s=.slice (some ⟨b,E,none⟩) m c∧(0<m→E=o∧o+m*sz≤cs.length))
  (S:∀w' cs',Step [b] w w'→Q4 w'.heap b T cs'→cs'.length=cs.length→cs'.take o=cs.take o→K (QR f d (.tuple #[])) w'):XO P ⟨d,.call ⟨.builtin .clear,#[s],#[t]⟩,ty,ps,af,gd⟩ f w K:=by
 obtain ⟨E,hs,hm⟩:=hs;obtain ⟨i,hi,hz,hc,_⟩:=Sl.info h;have ha:=h.zs;rcases Nat.eq_zero_or_pos m with rfl | hmp
 ·have I:(execOp (ev f) ⟨d,.call ⟨.builtin .clear,#[s],#[t]⟩,ty,ps,af,gd⟩).run P w=.ok (.value (.tuple #[])) w:=by
   simp[execOp,resolve,invoke,builtin,hs,Builtin.clear_,run_underlying h.u]
  exact xv I (S w cs (Step.refl _ _) H O O)
 obtain ⟨rfl,he⟩:=hm hmp;have hb:(Builtin.zeroCells z.cells m).toList.length=m*sz:=by simp[Builtin.zeroCells,ha]
 have J:=run_storeCells_at P b E T (Builtin.zeroCells z.cells m).toList 0 cs.toArray w H (by simp only[List.size_toArray];omega) (λu hu=>by
  simp only[Builtin.zeroCells,Array.toList_map,List.mem_map] at hu;obtain ⟨j,hj,rfl⟩:=hu;have hf:=h.pos;have V:j % z.cells.size<z.cells.size:=Nat.mod_lt _ (by omega);rw[getElem!_pos z.cells _ V];exact Y _ (Array.getElem_mem V))
 simp only[Nat.add_zero] at J;obtain ⟨G,rfl⟩:∃G,m=G+1:=⟨m - 1,by omega⟩;have I:(execOp (ev f) ⟨d,.call ⟨.builtin .clear,#[s],#[t]⟩,ty,ps,af,gd⟩).run P w=.ok (.value (.tuple #[])) (w.setRow b ((cs.take E++(Builtin.zeroCells z.cells (G+1)).toList++cs.drop (E+(Builtin.zeroCells z.cells (G+1)).toList.length))).toArray):=by
  simp[execOp,resolve,invoke,builtin,hs,Builtin.clear_,run_underlying h.u,zeroValue,typeInfo,hi,hz] at J ⊢;simp[J]
 refine xv I (S _ _ (Step.setRow _ _ _) (Y1 H) ?_ ?_)
 ·simp only[List.length_append,List.length_take,List.length_drop,hb];omega
 rw[LC,List.take_append_of_le_length (by simp;omega),List.take_take,Nat.min_self]
end
end Go.Lg
namespace Go.Proofs.YtdffckgdcegpaaaGreatDoor
open Go.Lg
end Go.Proofs.YtdffckgdcegpaaaGreatDoor
namespace Go.Lg
section
variable {P:Program} {f:Fr} {w:World} {K:Fr→World→Prop} {d:Option Nat} {ty:Nat} {ps:String} {af:Array Edge} {gd:Option (Nat×Bool)}
theorem QbH {t e sz bys:Nat}{z:Value}[h:Sl P t e sz bys z] {x E:Operand}{b n cap:Nat}{k:IntKind}{lo:Nat}(hx:ev f x=.slice (some ⟨b,0,none⟩) n cap) (hl:ev f E=.int k lo) (h1:lo≤n) :
  (execOp (ev f) ⟨d,.slice t x (some E) none none,ty,ps,af,gd⟩).run P w=.ok (.value (.slice (some ⟨b,if cap=lo then 0 else lo*sz,none⟩) (n - lo) (cap - lo))) w:=by
 obtain ⟨i,G,_,H,_⟩:=Sl.info h;have e2:(Instr.sliceBound (.int k lo) n .sliceB).run P w=.ok lo w:=Zo h1;by_cases I:cap=lo
 ·simp[execOp,hx,hl,Instr.sliceAt,Instr.slice,run_underlying h.u,Instr.sliceBounds,e2,sizeOf,typeInfo,G,H,I]
 simp[execOp,hx,hl,Instr.sliceAt,Instr.slice,run_underlying h.u,Instr.sliceBounds,e2,sizeOf,typeInfo,G,H,I,Addr.add];exact λe=>e.symm
theorem QbJ {t e sz bys:Nat}{z:Value}[h:Sl P t e sz bys z] {x E:Operand}{b n cap:Nat}{k:IntKind}{hi:Nat}(hx:ev f x=.slice (some ⟨b,0,none⟩) n cap) (G:ev f E=.int k hi) (h1:hi≤cap) :
  (execOp (ev f) ⟨d,.slice t x none (some E) none,ty,ps,af,gd⟩).run P w=.ok (.value (.slice (some ⟨b,0,none⟩) hi cap)) w:=by
 obtain ⟨i,H,_,I,_⟩:=Sl.info h;have e2:(Instr.sliceBound (.int k hi) cap .sliceAcap).run P w=.ok hi w:=Zo h1;simp[execOp,hx,G,Instr.sliceAt,Instr.slice,run_underlying h.u,Instr.sliceBounds,e2,sizeOf,typeInfo,H,Addr.add]
end
end Go.Lg
namespace Go.Proofs.YtdffckgdcegpaaaGreatDoor
open Go.Lg
theorem QaB {w:World}{base e sz n b cap:Nat}{cs:LV}(h:w.ownsRow base e sz (.slice (some ⟨b,0,none⟩) n cap) n cs):n≤cap∧∃cur:LV,Q4 w.heap b e cur∧cur.length=cap*sz∧cur.take (n*sz)=cs:=by
 rcases h.2 with ⟨e1,_⟩ | ⟨g',cap',cur,e1,J,E,G,S,H,I⟩
 ·cases e1
 cases e1
 exact ⟨G,cur.toList,E,by rw[Array.length_toList];exact H,I⟩
theorem QaA {w w':World}{base e sz n b cap k:Nat}{cs E cur:LV}(h:w.ownsRow base e sz (.slice (some ⟨b,0,none⟩) n cap) n cs) (hk:k≤n) (G:Q4 w'.heap b e cur) (hl:cur.length=cap*sz) (H:cur.take (k*sz)=E) (hc:E.length=k*sz) :
  w'.ownsRow base e sz (.slice (some ⟨b,0,none⟩) k cap) k E:=by
 rcases h.2 with ⟨e1,_⟩ | ⟨g',cap',cur',e1,I,S,T,J,V,Y⟩
 ·cases e1
 cases e1
 exact ⟨hc,.inr ⟨b,cap,cur.toArray,O,I,G,by omega,J,by rw[LU];exact hl,H⟩⟩
theorem Y9 {α:Type}{sz:Nat}{g:α→LV}(E:∀x,(g x).length=sz):∀l:List α,(l.flatMap g).length=l.length*sz
 | []=>by simp
 | a::l=>by rw[LB,Lk,Y9 E l,E a,LQ,Nat.succ_mul];omega
end Go.Proofs.YtdffckgdcegpaaaGreatDoor
namespace Go.Lg
open Go.ChangeShapes Go.WideShapes Go.RowKit
section
variable {H:Type} {enc:TypeId×Value→H} {P:Program}
theorem qz (hl:laidOutB P=true) {W W':World}(G:Step [] W W') {sp:Nat→Bool}:∀{ts:List TypeId}{vs:LV}{ds:List (DataW H)}{ps:List MemPlace},
  (ts.all λt=>P.readableRec t && decide (t<P.types.size))=true→DataW.TrodAll enc P W 0 (λ_=>true) true ts vs ds ps→(∀x∈ps,x.block<W.heap.size)→(∀x∈ps,sp x.block=true)→DataW.TrodAll enc P W' 0 sp true ts vs ds ps
 | [],vs,ds,ps,_,h,_,_=>by
  obtain ⟨rfl,rfl,rfl⟩:=trodAll_nil h;exact trodAll_mk0
 | t::ts,vs,ds,ps,E,h,I,hsp=>by
  obtain ⟨v,J,d,zM,a,b,rfl,rfl,rfl,h1,h2⟩:=trodAll_cons h;simp only[List.all_cons,Bool.and_eq_true,decide_eq_true_eq] at E;have hb:Below W.heap.size W W':=G.below;refine trodAll_cons_mk (WideElems.Trod_stays hl E.1.1 E.1.2 h1 (λx hx=>hb.same (I x (LL _ hx))) (λx hx=>hsp x (LL _ hx))) ?_
  exact qz hl G (by simpa using E.2) h2 (λx hx=>I x (Mt _ hx)) (λx hx=>hsp x (Mt _ hx))
theorem QdL {f:Func}{s:ChangeSpec}{apart fresh handsOn again:Bool}{W W':World}{args:Array Value}{ds gs:List (DataW H)}{before:List MemPlace}{tb:TypeId}
  (hl:laidOutB P=true) (hh:(f.params.toList.all λt=>P.readableRec t && decide (t<P.types.size))=true) (J:f.resultTypes=#[tb]) (S:P.underlying tb=some .bool) (T:s.vars=[])
  (E:s.fn H (ds++gs)={ results:=[.lit (.bool true)],args:=ds })
  (G:DataW.Whole enc P f.params.toList s.vars apart W args.toList ds gs before) (V:Step [] W W'):s.post enc P f apart fresh handsOn again W args (.bool true) W':=by
 have I:=G.lt;have hi:=G;obtain ⟨p,q,hA,Y,rfl,hz,hn⟩:=G;rw[T] at Y;obtain ⟨rfl,rfl⟩:=trodVars_none Y;rw[LJ] at *;have hc:∀sp:Nat→Bool,(∀x∈p,sp x.block=true)→DataW.TrodAll enc P W' 0 sp true f.params.toList args.toList ds p:=λsp hsp=>qz hl V hh hA I hsp
 have he:∀(b:Nat) (sp:Nat→Bool) (hd:Bool),DataW.TrodAll enc P W' b sp hd f.resultTypes.toList ((Value.bool true).resultList f.resultTypes.size) [.lit (.bool true)] []:=λb sp hd=>by
  rw[J];exact trodAll_mk1 (shut_bool S true)
 have hb:Below W.heap.size W W':=V.below;have hf:∀sp:Nat→Bool,DataW.TrodVars enc P W' sp s.vars ([]:List (DataW H)) []:=λsp=>by rw[T];rfl
 have hj:(s.fn H ds).results=[.lit (.bool true)]:=by rw[E]
 have hk:(s.fn H ds).args=ds:=by rw[E]
 have hm:(s.fn H ds).vars=[]:=by rw[E]
 have ho:∀(j:Nat) (t:TypeId) (r:Value),f.resultTypes[j]?=some t→((Value.bool true).resultList f.resultTypes.size)[j]?=some r→Value.okWide P W' .any 0 t r:=ok_one J O (okWide_bool_mk S true);refine ⟨ds,[],p,[],p,[],hi,?_,?_,?_,?_,λ_=>⟨ho,[.lit (.bool true)]++ds,[],([]++p)++[],⟨[]++p,[],?_,?_,O,?_,?_⟩,?_⟩⟩
 ·rw[LJ,hj];exact he _ _ _
 ·rw[LJ,hk];exact hc _ (λx hx=>by simpa using I x hx)
 ·rw[LJ,hm];exact hf _
 ·exact World.keptBut_mono (λ_ f=>f.elim) (hb.frame (λ_=>False))
 ·exact trodAll_append (hc _ (λ_ _=>O)) (he _ _ _)
 ·exact hf _
 ·intro b off hp;have hg:MemPlace.cell b off∈p:=by simpa using hp
  rw[hb.frozen (p:=⟨b,off,none⟩) (I _ hg)];exact hz b off hg
 ·intro ha;have:=hn ha;simpa using this
 intro x hx _;simpa using hx
end
end Go.Lg
namespace Go.Proofs.YtdffckgdcegpaaaGreatDoor
open Go.ChangeShapes Go.WideShapes Go.RowKit Go.Lg
open Go.Proofs.Tryz
theorem QhD {w:World}{b:Nat}{s:TypeId×Nat}(h:w.shape? b=some s):b<w.heap.size:=by
 unfold World.shape? at h;cases hb:w.heap[b]? with
 | none=>simp[hb] at h
 | some o=>exact (Lz.1 hb).1
theorem Qgu {P:Program}{w:World}{base:Nat}{a:Addr}{e:TypeId}{n:Nat}(h:w.has P .any base a e n):a.block<w.heap.size:=by
 obtain ⟨_,_,row,cells,h1,_⟩:=h;exact QhD h1
theorem QfG {P:Program}{w:World}{base:Nat}{t e:TypeId}{a:Addr}{n c:Nat}(E:P.underlying t=some (.slice e)) (h:Cell.okWide P w .any base t (.slice (some a) n c)):a.block<w.heap.size:=by
 simp only[Cell.okWide,Cell.ok,E] at h;exact Qgu h.2.2
theorem QdI {α:Type}{p:Nat→α→Prop}:∀(n:Nat),(∀i,i<n→∃e,p i e)→∃l:List α,l.length=n∧∀i (h:i<l.length),p i (l[i]'h)
 | 0,_=>⟨[],O,λi h=>by simp at h⟩
 | n+1,h=>by
  obtain ⟨l,h1,h2⟩:=QdI n (λi hi=>h i (by omega));obtain ⟨e,he⟩:=h n (by omega);refine ⟨l++[e],by simp[h1],λi hi=>?_⟩;by_cases E:i<l.length
  ·rw[L3 E];exact h2 i E
  have:i=n:=by simp at hi;omega
  subst this;rw[MB (by omega)];simpa[h1] using he
theorem Ua {α:Type}{f:α→Option Value}:∀{L:List α}{l:LV},L.mapM f=some l→l.length=L.length∧∀(i:Nat) (a:α),L[i]?=some a→f a=l[i]?
 | [],l,h=>by
  simp at h;subst h;exact ⟨O,λi a h=>by simp at h⟩
 | x::L,l,h=>by
  simp only[List.mapM_cons,Option.bind_eq_bind,Option.pure_def,Option.bind_eq_some_iff] at h;obtain ⟨v,E,I,h1,h2⟩:=h;cases h2
  obtain ⟨h3,G⟩:=Ua h1;refine ⟨by simp[h3],λi a hi=>?_⟩;cases i with
  | zero=>simp at hi;subst hi;simpa using E
  | succ i=>simpa using G i a (by simpa using hi)
def kT (P:Program) (k:IntKind):Nat→TypeId→Bool
 | 0,_=>false
 | m+1,t=>match P.underlying t with
  | some (.int k')=>k' == k
  | some (.array n e)=>kT P k m e && decide (0<P.cellsOf e) && decide (P.cellsOf t=n*P.cellsOf e)
  | some (.struct fs)=>(List.range (P.cellsOf t)).all λj=>fs.toList.any λf=>kT P k m f.type && decide (f.offset≤j∧j<f.offset+P.cellsOf f.type)
  | _=>false
theorem Qa9 {cs:LV}{o n j:Nat}{c:Value}(h:cs[j]?=some c) (h1:o≤j) (h2:j<o+n):c∈(cs.drop o).take n:=by
 refine LT (i:=j - o) ?_;rw[LK,if_pos (by omega),MM,show o+(j - o)=j by omega];exact h
section
variable {H:Type} {enc:TypeId×Value→H} {P:Program} {W:World} {base b0:Nat} {sp:Nat→Bool} {held:Bool}
theorem KG {k:IntKind}:∀(m:Nat) {t:TypeId}{cs:LV}{fuel:Nat}{x:DataW H×List MemPlace},kT P k m t=true→DataW.trod enc P W b0 sp held fuel t cs=some x→∀c∈cs,∃n,c=.int k n∧(Lit.int k n).wf=true
 | 0,_,_,_,_,h,_,_,_=>by cases h
 | m+1,t,cs,fuel,x,h,G,c,hc=>by
  unfold kT at h;obtain ⟨j,J,S⟩:=LD hc;have I:cs[j]?=some c:=by rw[Lv J,S]
  split at h
  ·rename_i k' hu;have hk:k'=k:=by simpa using h
   subst hk;obtain ⟨n,h1,_,h2⟩:=DataW.trod_int hu G;rw[h1] at hc;exact ⟨n,La.1 hc,h2⟩
  ·rename_i n e hu;simp only[Bool.and_eq_true,decide_eq_true_eq] at h;obtain ⟨⟨h1,h2⟩,h3⟩:=h;obtain ⟨xs,T,_,_,hl,V,hx⟩:=DataW.trod_array hu G;have Y:=Nat.div_add_mod j (P.cellsOf e);have hh:=Nat.mod_lt j h2;have hi:j / P.cellsOf e<n:=by
    refine (Nat.div_lt_iff_lt_mul h2).2 ?_;omega
   have E:=hx (j / P.cellsOf e) hi;rw[Lv (show j / P.cellsOf e<xs.length by omega)] at E;rw[Nat.mul_comm] at Y;exact KG m h1 E c (Qa9 I (by omega) (by omega))
  ·rename_i fs hu;obtain ⟨xs,T,_,_,hl,V,hx⟩:=DataW.trod_struct hu G;have h1:=Mi.1 h j (List.mem_range.2 (by omega));obtain ⟨f,ha,h2⟩:=MW.1 h1;simp only[Bool.and_eq_true,decide_eq_true_eq] at h2;obtain ⟨i,hi,hb⟩:=LD ha;have he:i<fs.size:=by simpa using hi
   have hg:fs[i]?=some f:=by rw[Ma he,←hb];simp
   have E:=hx i f hg;rw[Lv (show i<xs.length by omega)] at E;exact KG m h2.1 E c (Qa9 I h2.2.1 h2.2.2)
  cases h
end
theorem Qds {P:Program}{W:World}{base t:Nat}{v:Value}(E:P.underlying t=some (.int .i64)) (h:Cell.okWide P W .any base t v):∃n,v=.int .i64 n:=by
 simp only[Cell.okWide,E] at h;cases v <;> simp only[Cell.ok,E] at h
 obtain ⟨rfl,_⟩:=h;exact ⟨_,O⟩
theorem Qdt {P:Program}{W:World}{base:Nat}{ts:List TypeId}{cs:Array Value}(h:∀(i:Nat) (v:Value),cs[i]?=some v→∃u,ts[i % ts.length]?=some u∧Cell.okWide P W .any base u v) (i:Nat) (t:TypeId) (v:Value) (E:cs[i]?=some v) (G:ts[i % ts.length]?=some t):Cell.okWide P W .any base t v:=by
 obtain ⟨u,hu,k⟩:=h i v E;rw[G] at hu;cases hu
 exact k
theorem ZT {H:Type}{enc:TypeId×Value→H}{P:Program}{W:World}{b0 m:Nat}{sp:Nat→Bool}{held:Bool}{fs:Array Field}{cs:LV}{xs:List (DataW H×List MemPlace)}
  (h:∀(i:Nat) (f:Field),fs[i]?=some f→DataW.trod enc P W b0 sp held m f.type ((cs.drop f.offset).take (P.cellsOf f.type))=xs[i]?) (i:Nat) {f:Field} {t o:Nat} {c:Value} (E:fs[i]?=some f) (G:f.type=t) (I:f.offset=o) (hc:P.cellsOf t=1) (J:(cs.drop o).take 1=[c]) (hi:i<xs.length) :
  DataW.trod enc P W b0 sp held m t [c]=some (xs[i]'hi):=by
 have e:=h i f E;rw[G,I,hc,J] at e;rw[e];simp[hi]
theorem Qi7 {W:World}{l:List (String×DataW Unit)}{a b:String×DataW Unit}(hl:l=[a,b,("internal/strconv.uint64pow10",Lib.tabData .u64 Lib.pow10Tab)]) (h:laidMetH prog l W) (hp:(l.all λx=>x.2.handleName?.isNone)=true):Tb W:=by
 rw[Go.MakeChecks.laidMetH_plain _ _ _ hp,hl] at h;exact Lib.tabIs_of_head (n:=20) (g:=0) (by kernel_rfl) (t:=410) (by kernel_rfl) (by kernel_rfl) (e:=340) (by kernel_rfl) (by kernel_rfl) (by kernel_rfl) h.tail.tail
section
variable {H:Type} {enc:TypeId×Value→H} {P:Program} {W:World} {base b0:Nat} {sp:Nat→Bool} {held:Bool}
end
def Yx (H:Array Obj) (v:Value) (n sz:Nat) (cs:LV):Prop :=
 cs.length=n*sz∧n≤9223372036854775807∧((v=nS∧n=0)∨∃a cap,v=.slice (some a) n cap∧n≤cap∧At [] H a cs)
theorem Yx.arr {H:Array Obj}{v:Value}{n sz:Nat}{cs:LV}(h:Yx H v n sz cs) (E:n≤1099511627776):Zq [] H v n sz cs:=⟨h.1,E,h.2.2⟩
theorem Yx.ext {w w':World}{v:Value}{n sz:Nat}{cs:LV}(h:Yx w.heap v n sz cs) (hs:Step [] w w'):Yx w'.heap v n sz cs :=
 ⟨h.1,h.2.1,h.2.2.imp id λ⟨a,cap,h1,h2,h3⟩=>⟨a,cap,h1,h2,h3.ext hs⟩⟩
theorem Yx.shape {H:Array Obj}{v:Value}{n sz:Nat}{cs:LV}(h:Yx H v n sz cs):∃a cap,v=.slice a n cap:=by
 rcases h.2.2 with ⟨h1,h2⟩ | ⟨a,cap,h1,_⟩
 ·exact ⟨none,0,by rw[h1,h2]⟩
 exact ⟨some a,cap,h1⟩
theorem Yx.one {H:Array Obj}{v:Value}{n sz:Nat}{cs:LV}(h:Yx H v n sz cs):v.oneCell'=true:=by obtain ⟨a,cap,rfl⟩:=h.shape;rfl
theorem Yx.cells {H:Array Obj}{v:Value}{n sz:Nat}{cs:LV}(h:Yx H v n sz cs):v.cells=[v].toArray:=by obtain ⟨a,cap,rfl⟩:=h.shape;rfl
theorem Qgx {α:Type}(f:α→Value) (l:List α):(l.flatMap λd=>[f d])=l.map f:=by
 induction l with
 | nil=>rfl
 | cons a l ih=>rw[LB,ih];rfl
section
variable {P:Program} {ops:List Oper} {K:Fr→World→Prop} {f:Fr} {w:World} {d:Option Nat} {ty:Nat} {ps:String} {af:Array Edge} {gd:Option (Nat×Bool)} {l:List Oper}
theorem YD {x:Operand}{t e E bys:Nat}{z:Value}[Sl P t e E bys z] {n sz:Nat}{cs:LV}{v:Value}{H:Array Obj}(h:Yx H v n sz cs) (G:ev f x=v) :
  (execOp (ev f) ⟨d,.call ⟨.builtin .len,#[x],#[t]⟩,ty,ps,af,gd⟩).run P w=.ok (.value (.int .i64 n)) w:=by
 obtain ⟨a,cap,h1⟩:=h.shape;exact Jb (G.trans h1)
theorem xiw {α:Type}{g:α→LV}{x y:Operand}{t e sz bys:Nat}{z:Value}[Sl P t e sz bys z] (I:∀x,(g x).length=sz) {E:List α}{v:Value}{k:IntKind}{i:Nat}
  (h:Yx w.heap v E.length sz (E.flatMap g)) (J:ev f x=v) (hy:ev f y=.int k i) (hi:i<E.length)
  (S:∀a,At [] w.heap a (g (E[i]'hi))→XL P ops K l (QR f d (.pointer (some a))) w) (T:Z8 ops f ⟨d,.indexAddr t x y,ty,ps,af,gd⟩=true:=by rfl) :
  XL P ops K (⟨d,.indexAddr t x y,ty,ps,af,gd⟩::l) f w:=by
 rcases h.2.2 with ⟨_,h2⟩ | ⟨a,cap,h1,_,h3⟩
 ·omega
 refine xl T (xv (YH (J.trans h1) hy (by omega) (by omega)) (S _ ?_));have e:=YU g sz I E i hi;have G:At [] w.heap (a.add (i*sz)) (((E.flatMap g).drop (i*sz)).take sz):=⟨λu hu=>by simp,λu hu=>by rw[ZK];exact h3.lt u (Mo (LW hu)),λj u hu=>by
  rw[Lg.Addr.add_add];refine h3.cell _ u ?_;rw[LK] at hu;split at hu
  ·simpa using hu
  cases hu⟩
 rw[e] at G;exact G
end
structure Qfc (H:Array Obj) (va vm ve:Value) (a:QP):Prop where
 al:Yx H va a.al.length 1 (a.al.map (.int .i64))
 mr:Yx H vm a.mr.length 1 (a.mr.map (.int .i64))
 ed:Yx H ve a.ed.length 3 (a.ed.flatMap Qw)
def ItW (H:Array Obj) (q:IV):Prop:=K7 q.nm∧Qfc H q.p.va q.p.vm q.p.ve q.p.a
structure je (H:Array Obj) (c:CL):Prop where
 ev:Yx H c.ve c.ev.length 5 (c.ev.flatMap Zt)
 evn:∀e∈c.ev,K7 e.nm
 co:Yx H c.vc c.co.length 5 (c.co.flatMap Za)
 coe:∀q∈c.co,ItW H q
 rq:Yx H c.vr c.rq.length 5 (c.rq.flatMap Za)
 rqe:∀q∈c.rq,ItW H q
 ex:Yx H c.vx c.ex.length 2 (c.ex.flatMap Zr)
 exe:∀q∈c.ex,K7 q.nm∧Yx H q.v q.ls.length 2 (q.ls.flatMap QX)
 cs:Yx H c.vk c.cs.length 3 (c.cs.flatMap Zm)
 cse:∀q∈c.cs,K7 q.nm∧Yx H q.v q.ts.length 2 (q.ts.flatMap QX)
theorem Qfc.ext {w w':World}{va vm ve:Value}{a:QP}(h:Qfc w.heap va vm ve a) (hs:Step [] w w'):Qfc w'.heap va vm ve a:=⟨h.al.ext hs,h.mr.ext hs,h.ed.ext hs⟩
theorem ItW.ext {w w':World}{q:IV}(h:ItW w.heap q) (hs:Step [] w w'):ItW w'.heap q:=⟨h.1,h.2.ext hs⟩
theorem je.ext {w w':World}{c:CL}(h:je w.heap c) (hs:Step [] w w'):je w'.heap c :=
 ⟨h.ev.ext hs,h.evn,h.co.ext hs,λq hq=>(h.coe q hq).ext hs,h.rq.ext hs,λq hq=>(h.rqe q hq).ext hs,h.ex.ext hs,λq hq=>⟨(h.exe q hq).1,(h.exe q hq).2.ext hs⟩,h.cs.ext hs,λq hq=>⟨(h.cse q hq).1,(h.cse q hq).2.ext hs⟩⟩
structure Qe8 (c:CL):Prop where
 ev:c.ev.length≤8
 co:c.co.length≤4
 rq:c.rq.length≤4
 ex:c.ex.length≤4
 cs:c.cs.length≤4
 it:∀q∈c.co++c.rq,q.p.a.al.length≤6∧q.p.a.mr.length≤6∧q.p.a.ed.length≤10
 xl:∀q∈c.ex,q.ls.length≤5
 kl:∀q∈c.cs,q.ts.length≤5
theorem je.cel {H:Array Obj}{c:CL}(h:je H c) (E:Qe8 c):ZB [] H c:=by
 have it:∀q∈c.co++c.rq,ItW H q→Zu [] H q.p.va q.p.vm q.p.ve q.p.a:=λq hq hi=>by
  obtain ⟨h1,h2,h3⟩:=E.it q hq;exact ⟨hi.2.al.arr (by omega),hi.2.mr.arr (by omega),hi.2.ed.arr (by omega)⟩
 have h1:=E.ev;have h2:=E.co;have h3:=E.rq;have G:=E.ex;have h5:=E.cs;exact ⟨⟨h.ev.arr (by omega),h.evn⟩,⟨h.co.arr (by omega),λq hq=>it q (LL _ hq) (h.coe q hq),λq hq=>(h.coe q hq).1⟩,
  ⟨h.rq.arr (by omega),λq hq=>it q (Mt _ hq) (h.rqe q hq),λq hq=>(h.rqe q hq).1⟩,
  ⟨h.ex.arr (by omega),λq hq=>(h.exe q hq).2.arr (by have:=E.xl q hq;omega),λq hq=>(h.exe q hq).1⟩,
  ⟨h.cs.arr (by omega),λq hq=>(h.cse q hq).2.arr (by have:=E.kl q hq;omega),λq hq=>(h.cse q hq).1⟩⟩
section
variable {H:Type} {enc:TypeId×Value→H} {P:Program} {W:World} {b0:Nat} {sp:Nat→Bool} {held:Bool}
theorem YJ {α:Type}{g:α→LV}{sz:Nat}{Q:α→Prop}{t e:TypeId}{c:Value}{fuel:Nat}{x:DataW H×List MemPlace}(I:∀d,(g d).length=sz) (hf:0<sz) (ht:P.underlying t=some (.slice e)) (hc:P.cellsOf e=sz)
  (hh:∀m cs y,cs.length=sz→DataW.trod enc P W b0 sp held m e cs=some y→∃d,cs=g d∧Q d)
  (hk:DataW.trod enc P W b0 sp held fuel t [c]=some x):∃ds:List α,Yx W.heap c ds.length sz (ds.flatMap g)∧∀d∈ds,Q d:=by
 rcases DataW.trod_slice ht hk with ⟨E,_⟩ | ⟨a,len,cap,elems,rest,m,_,E,_,_,hl,hm,hy,hn,_,_⟩
 ·simp at E;subst E;exact ⟨[],⟨by simp,by simp,.inl ⟨rfl,rfl⟩⟩,λd hd=>by cases hd⟩
 simp at E;subst E;have each:∀i,i<len→∃d:α,(∀r v,(g d)[r]?=some v→W.cell? (a.add (i*sz+r))=some v)∧Q d:=by
  intro i hi;have S:=hn i hi;rw[hc,Lv (show i<elems.length by omega)] at S;obtain ⟨cs,E,ho⟩:=Mv.1 S;unfold World.cells? at E;split at E
  ·have hp:cs.length=sz:=by simpa using (Ua E).1
   obtain ⟨d,rfl,hq⟩:=hh m cs _ hp ho;refine ⟨d,λr v G=>?_,hq⟩;have hs:r<sz:=by have:=(LY.1 G).1;rw[I] at this;exact this
   have T:=(Ua E).2 r r (by simp[hs]);rw[Lg.Addr.add_add,G] at T;exact T
  cases E
 obtain ⟨u,V,hu⟩:=QdI len each;have Y:(u.flatMap g).length=u.length*sz:=Go.Lg.Y9 g sz I u;have ha:∀j v,(u.flatMap g)[j]?=some v→cel W.heap (a.add j)=some v:=λj v G=>by
  have J:j<u.length*sz:=by
   rw[←Y];exact (LY.1 G).1
  have hi:j / sz<u.length:=Nat.div_lt_of_lt_mul (by rw[Nat.mul_comm];exact J);have hw:=YU g sz I u (j / sz) hi;have he:j / sz*sz+j % sz=j:=Nat.div_add_mod' j sz;have h3:(g (u[j / sz]'hi))[j % sz]?=some v:=by
   rw[←hw,LK,if_pos (Nat.mod_lt _ hf),MM,he];exact G
  rw[←JM];have:=(hu (j / sz) hi).1 (j % sz) v h3;rw[he] at this;exact this
 refine ⟨u,⟨Y,?_,.inr ⟨a,cap,by rw[V],by omega,λ_ _=>by simp,λv G=>?_,ha⟩⟩,λd hd=>?_⟩
 ·rw[V];simp only[maxLen] at hm;omega
 ·obtain ⟨j,J,e⟩:=LD G;have h1:=ha j v (by rw[Lv J,e]);unfold cel at h1;rw[ZK] at h1;cases hb:W.heap[a.block]? with
  | none=>rw[hb] at h1;cases h1
  | some o=>exact (Lz.1 hb).1
 obtain ⟨i,hi,rfl⟩:=LD hd;exact (hu i hi).2
theorem U2 {t e:TypeId}{c:Value}{fuel:Nat}{x:DataW H×List MemPlace}(E:P.underlying t=some (.slice e)) (he:P.underlying e=some (.int .i64)) (hc:P.cellsOf e=1)
  (G:DataW.trod enc P W b0 sp held fuel t [c]=some x):∃l:LI,Yx W.heap c l.length 1 (l.map (.int .i64)):=by
 obtain ⟨l,h,_⟩:=YJ (sz:=1) (g:=λd:Int=>[Value.int .i64 d]) (Q:=λ_=>True) (λ_=>O) (by omega) E hc (λm cs y _ h=>by
  obtain ⟨n,h1,_⟩:=DataW.trod_int he h;exact ⟨n,h1,U⟩) G
 rw[Qgx] at h;exact ⟨l,h⟩
theorem zS {t e:TypeId}{c:Value}{fuel:Nat}{x:DataW H×List MemPlace}(E:P.underlying t=some (.slice e)) (he:kT P .i64 5 e=true) (hc:P.cellsOf e=2)
  (G:DataW.trod enc P W b0 sp held fuel t [c]=some x):∃l:List (Int×Int),Yx W.heap c l.length 2 (l.flatMap QX):=by
 obtain ⟨l,h,_⟩:=YJ (sz:=2) (g:=QX) (Q:=λ_=>True) (λ_=>O) (by omega) E hc (λm cs y hl h=>by
  have hk:=KG 5 he h
  match cs,hl with
  | [u,v],_ =>
   obtain ⟨a,rfl,_⟩:=hk u (by simp);obtain ⟨b,rfl,_⟩:=hk v (by simp);exact ⟨(a,b),O,U⟩) G
 exact ⟨l,h⟩
theorem QcM {t e:TypeId}{c:Value}{fuel:Nat}{x:DataW H×List MemPlace}(E:P.underlying t=some (.slice e)) (he:kT P .i64 5 e=true) (hc:P.cellsOf e=3)
  (G:DataW.trod enc P W b0 sp held fuel t [c]=some x):∃l:List Ed,Yx W.heap c l.length 3 (l.flatMap Qw):=by
 obtain ⟨l,h,_⟩:=YJ (sz:=3) (g:=Qw) (Q:=λ_=>True) (λ_=>O) (by omega) E hc (λm cs y hl h=>by
  have hk:=KG 5 he h
  match cs,hl with
  | [u,v,z],_ =>
   obtain ⟨a,rfl,_⟩:=hk u (by simp);obtain ⟨b,rfl,_⟩:=hk v (by simp);obtain ⟨d,rfl,_⟩:=hk z (by simp);exact ⟨(a,b,d),O,U⟩) G
 exact ⟨l,h⟩
end
section
variable {H:Type} {enc:TypeId×Value→H} {W:World} {b0:Nat} {sp:Nat→Bool} {held:Bool}
theorem Uh {c:Value}{t:Nat}{P:Program}{m:Nat}{y:DataW H×List MemPlace}(E:P.underlying t=some (.int .i64)) (h:DataW.trod enc P W b0 sp held m t [c]=some y):∃n,c=.int .i64 n:=by
 obtain ⟨n,h1,_⟩:=DataW.trod_int E h;exact ⟨n,List.cons.inj h1 |>.1⟩
theorem Kq {c:Value}{t:Nat}{P:Program}{m:Nat}{y:DataW H×List MemPlace}(E:P.underlying t=some .string) (h:DataW.trod enc P W b0 sp held m t [c]=some y):∃s,c=.string s∧K7 s:=by
 obtain ⟨n,h1,_,h2⟩:=DataW.trod_string E h;simp only[maxLen] at h2;exact ⟨n,List.cons.inj h1 |>.1,by unfold K7;omega⟩
theorem Vk {c:Value}{t:Nat}{P:Program}{m:Nat}{y:DataW H×List MemPlace}(E:P.underlying t=some .bool) (h:DataW.trod enc P W b0 sp held m t [c]=some y):∃b,c=.bool b:=by
 obtain ⟨n,h1,_⟩:=DataW.trod_bool E h;exact ⟨n,List.cons.inj h1 |>.1⟩
set_option maxRecDepth 100000 in
theorem Qil (m:Nat) (cs:LV) (y:DataW H×List MemPlace) (hl:cs.length=5) (h:DataW.trod enc prog W b0 sp held m 87 cs=some y):∃e:JV,cs=Zt e∧K7 e.nm:=by
 obtain ⟨xs,n,_,_,_,G,E⟩:=DataW.trod_struct underlying87 h
 match cs,hl with
 | [x0,x1,x2,x3,x4],_ =>
  replace G:xs.length=5:=G;obtain ⟨s,rfl,hs⟩:=Kq underlying9 (ZT (c:=x0) (t:=9) (o:=0) E 0 O O O (by kernel_rfl) O (by omega));obtain ⟨a,rfl⟩:=Vk underlying4 (ZT (c:=x1) (t:=4) (o:=1) E 1 O O O (by kernel_rfl) O (by omega));obtain ⟨b,rfl⟩:=Vk underlying4 (ZT (c:=x2) (t:=4) (o:=2) E 2 O O O (by kernel_rfl) O (by omega))
  obtain ⟨d,rfl⟩:=Vk underlying4 (ZT (c:=x3) (t:=4) (o:=3) E 3 O O O (by kernel_rfl) O (by omega));obtain ⟨k,rfl⟩:=Uh underlying3 (ZT (c:=x4) (t:=3) (o:=4) E 4 O O O (by kernel_rfl) O (by omega));exact ⟨⟨s,a,b,d,k⟩,O,hs⟩
set_option maxRecDepth 100000 in
theorem Qin (m:Nat) (cs:LV) (y:DataW H×List MemPlace) (hl:cs.length=4) (h:DataW.trod enc prog W b0 sp held m 58 cs=some y):∃p:AV,cs=Zc p∧Qfc W.heap p.va p.vm p.ve p.a:=by
 obtain ⟨xs,n,_,_,_,G,E⟩:=DataW.trod_struct underlying58 h
 match cs,hl with
 | [x0,x1,x2,x3],_ =>
  replace G:xs.length=4:=G;obtain ⟨al,I⟩:=U2 underlying37 underlying3 (by kernel_rfl) (ZT (c:=x0) (t:=37) (o:=0) E 0 O O O (by kernel_rfl) O (by omega));obtain ⟨st,rfl⟩:=Uh underlying3 (ZT (c:=x1) (t:=3) (o:=1) E 1 O O O (by kernel_rfl) O (by omega));obtain ⟨mr,h2⟩:=U2 underlying37 underlying3 (by kernel_rfl) (ZT (c:=x2) (t:=37) (o:=2) E 2 O O O (by kernel_rfl) O (by omega))
  obtain ⟨ed,h3⟩:=QcM underlying56 (by kernel_rfl) (by kernel_rfl) (ZT (c:=x3) (t:=56) (o:=3) E 3 O O O (by kernel_rfl) O (by omega));exact ⟨⟨x0,x2,x3,⟨al,st,mr,ed⟩⟩,O,I,h2,h3⟩
set_option maxRecDepth 100000 in
theorem Qex (m:Nat) (cs:LV) (y:DataW H×List MemPlace) (hl:cs.length=5) (h:DataW.trod enc prog W b0 sp held m 66 cs=some y):∃q:IV,cs=Za q∧ItW W.heap q:=by
 obtain ⟨xs,n,_,_,_,E,G⟩:=DataW.trod_struct underlying66 h
 match cs,hl with
 | [x0,x1,x2,x3,x4],_ =>
  replace E:xs.length=2:=E;obtain ⟨s,rfl,hs⟩:=Kq underlying9 (ZT (c:=x0) (t:=9) (o:=0) G 0 O O O (by kernel_rfl) O (by omega));have h1:=G 1 _ O;rw[Lv (show 1<xs.length by omega)] at h1;obtain ⟨p,h2,h3⟩:=Qin n [x1,x2,x3,x4] _ O h1;have e:=h2;simp only[Zc,List.cons.injEq,and_true] at e;obtain ⟨rfl,rfl,rfl,rfl⟩:=e;exact ⟨⟨s,p⟩,O,hs,h3⟩
set_option maxRecDepth 100000 in
theorem Qik (m:Nat) (cs:LV) (y:DataW H×List MemPlace) (hl:cs.length=2) (h:DataW.trod enc prog W b0 sp held m 122 cs=some y):∃q:XV,cs=Zr q∧K7 q.nm∧Yx W.heap q.v q.ls.length 2 (q.ls.flatMap QX):=by
 obtain ⟨xs,n,_,_,_,E,G⟩:=DataW.trod_struct underlying122 h
 match cs,hl with
 | [x0,x1],_ =>
  replace E:xs.length=2:=E;obtain ⟨s,rfl,hs⟩:=Kq underlying9 (ZT (c:=x0) (t:=9) (o:=0) G 0 O O O (by kernel_rfl) O (by omega));obtain ⟨ls,h1⟩:=zS underlying120 (by kernel_rfl) (by kernel_rfl) (ZT (c:=x1) (t:=120) (o:=1) G 1 O O O (by kernel_rfl) O (by omega));exact ⟨⟨s,x1,ls⟩,O,hs,h1⟩
set_option maxRecDepth 100000 in
theorem Qim (m:Nat) (cs:LV) (y:DataW H×List MemPlace) (hl:cs.length=3) (h:DataW.trod enc prog W b0 sp held m 127 cs=some y):∃q:KV,cs=Zm q∧K7 q.nm∧Yx W.heap q.v q.ts.length 2 (q.ts.flatMap QX):=by
 obtain ⟨xs,n,_,_,_,G,E⟩:=DataW.trod_struct underlying127 h
 match cs,hl with
 | [x0,x1,x2],_ =>
  replace G:xs.length=3:=G;obtain ⟨s,rfl,hs⟩:=Kq underlying9 (ZT (c:=x0) (t:=9) (o:=0) E 0 O O O (by kernel_rfl) O (by omega));obtain ⟨ts,h1⟩:=zS underlying125 (by kernel_rfl) (by kernel_rfl) (ZT (c:=x1) (t:=125) (o:=1) E 1 O O O (by kernel_rfl) O (by omega));obtain ⟨bd,rfl⟩:=Uh underlying3 (ZT (c:=x2) (t:=3) (o:=2) E 2 O O O (by kernel_rfl) O (by omega))
  exact ⟨⟨s,x1,ts,bd⟩,O,hs,h1⟩
set_option maxRecDepth 100000 in
theorem QiJ {base:Nat}{v:Value}{d:DataW H}{ps:List MemPlace}(V:Value.okWide prog W .any base 47 v) (h:DataW.Trod enc prog W b0 sp held 47 v d ps):∃c:CL,v=c.val∧je W.heap c:=by
 simp only[Value.okWide,underlying47] at V;obtain ⟨cs,rfl,G,_⟩:=V
 replace G:cs.size=5:=G.trans (by kernel_rfl);obtain ⟨fuel,hf⟩:=h;obtain ⟨l⟩:=cs;have ha:l.length=5:=G
 match l,ha with
 | [x0,I,J,S,T],_ =>
  obtain ⟨xs,n,_,_,_,Y,hb⟩:=DataW.trod_struct underlying47 hf
  replace Y:xs.length=5:=Y;have E:∀(i:Nat) (f:Field),_→DataW.trod enc prog W b0 sp held n f.type (([x0,I,J,S,T].drop f.offset).take (prog.cellsOf f.type))=xs[i]?:=hb;obtain ⟨ev,e1,e2⟩:=YJ (sz:=5) (g:=Zt) VQ (by omega) underlying42 (by kernel_rfl) Qil (ZT (c:=x0) (t:=42) (o:=0) E 0 O O O (by kernel_rfl) O (by omega))
  obtain ⟨co,c1,c2⟩:=YJ (sz:=5) (g:=Za) Yz (by omega) underlying43 (by kernel_rfl) Qex (ZT (c:=I) (t:=43) (o:=1) E 1 O O O (by kernel_rfl) O (by omega));obtain ⟨rq,r1,r2⟩:=YJ (sz:=5) (g:=Za) Yz (by omega) underlying43 (by kernel_rfl) Qex (ZT (c:=J) (t:=43) (o:=2) E 2 O O O (by kernel_rfl) O (by omega))
  obtain ⟨ex,hc,he⟩:=YJ (sz:=2) (g:=Zr) Xx (by omega) underlying44 (by kernel_rfl) Qik (ZT (c:=S) (t:=44) (o:=3) E 3 O O O (by kernel_rfl) O (by omega));obtain ⟨cs,k1,k2⟩:=YJ (sz:=3) (g:=Zm) Y6 (by omega) underlying45 (by kernel_rfl) Qim (ZT (c:=T) (t:=45) (o:=4) E 4 O O O (by kernel_rfl) O (by omega));exact ⟨⟨x0,I,J,S,T,ev,co,rq,ex,cs⟩,O,e1,e2,c1,c2,r1,r2,hc,he,k1,k2⟩
end
end Go.Proofs.YtdffckgdcegpaaaGreatDoor
namespace Go.Lg
open Go.RowKit
def UC (P:Program) (all:List Oper) (C:World→Prop) (K:LN→Fr→World→Prop):List (Nat×Bool)→LN→Fr→World→Prop
 | [],own,f,w=>K own f w
 | (j,true)::l,own,f,w=>Z8 all f (Q3 all j)=true∧∃v,(∀w',(UL (Q3 all j)=true→C w')→(execOp (ev f) (Q3 all j)).run P w'=.ok (.value v) w')∧UC P all C K l own (QR f (Q3 all j).dst v) w
 | (j,false)::l,own,f,w=>Z8 all f (Q3 all j)=true∧∀w1,Step [] w w1→C w1→XO P (Q3 all j) f w1 λE w'=>C w'∧∃own',Step own w1 w'∧(∀b∈own',b∈own∨(w1.heap.size≤b∧b<w'.heap.size))∧UC P all C K l own' E w'
section
variable {P:Program} {n:Nat} {f:Fr} {w:World} {all:List Oper} {C:World→Prop} {K:Fr→World→Prop} {KF:LN→Fr→World→Prop}
theorem UC.ext (E:∀own f w w',KF own f w→Step [] w w'→KF own f w'):∀{l:List (Nat×Bool)}{own:LN}{f:Fr}{w w':World},UC P all C KF l own f w→Step [] w w'→UC P all C KF l own f w'
 | [],_,_,_,_,h,hs=>E _ _ _ _ h hs
 | (_,true)::_,_,_,_,_,h,hs=>by
  obtain ⟨G,v,H,hx⟩:=h;exact ⟨G,v,H,UC.ext E hx hs⟩
 | (_,false)::_,_,_,_,_,h,hs=>⟨h.1,λI h1 hc=>h.2 I (hs.trans h1) hc⟩
structure Fl2 (P:Program) (all:List Oper) (C:World→Prop) (K:Fr→World→Prop) (KF:LN→Fr→World→Prop) (i d:Nat) (rest:List (Nat×Bool)) (Φ:Value→World→Prop) (Dc:List (Nat×Nat)) (f1:Fr):Prop where
 stab:∀v (own:LN) w w',Φ v w→Step own w w'→(∀b∈ow v,b∉own)→Φ v w'
 spec:∀f w,(∀t,Y4 Dc t=false→f t=f1 t)→C w→XO P (Q3 all i) f w λf' w'=>Step [] w w'∧C w'∧Φ (f' d) w'∧∀b∈ow (f' d),w.heap.size≤b∧b<w'.heap.size
 fin:∀own f w,KF own f w→∀v,C w→Φ v w→(∀b∈ow v,b∉own∧b<w.heap.size)→XP P all C K rest (QR f (some d) v) w
 mono:∀own f w w',KF own f w→Step [] w w'→KF own f w'
attribute [local semireducible] XP in
theorem Vm {i d:Nat}{rest:List (Nat×Bool)}{Φ:Value→World→Prop}{Dc:List (Nat×Nat)}{f1:Fr}(G:Fl2 P all C K KF i d rest Φ Dc f1) (hs:Region.noSelect all.toArray=true) {v:Value}:∀(l:List (Nat×Bool)) (own:LN) (f:Fr) (w:World),Z2 all d l=true→UC P all C KF l own f w→C w→Φ v w →
  (∀b∈ow v,b∉own∧b<w.heap.size)→XP P all C K (l++rest) (QR f (some d) v) w
 | [],own,f,w,_,h,hC,H,hb=>G.fin own f w h v hC H hb
 | (j,q)::l,own,f,w,hfr,h,hC,H,hb=>by
  simp only[Z2,List.all_cons,Bool.and_eq_true,Bool.not_eq_true',List.contains_eq_mem,decide_eq_false_iff_not,beq_eq_false_iff_ne,ne_eq] at hfr;obtain ⟨⟨h1,h2⟩,hfr⟩:=hfr;have I:Z2 all d l=true:=by simpa[Z2] using hfr
  have S:∀cs b,(Q3 all j).op≠.select cs b:=by
   intro cs b;cases J:all[j]? with
   | none =>
    have:Q3 all j=default:=by
     clear h h1 h2 hfr I;have key:∀(l:List Oper) (j:Nat),l[j]?=none→Q3 l j=default:=by
      intro l;induction l with
      | nil=>intro j _;rfl
      | cons a l ih=>intro j T;cases j with | zero=>simp at T | succ j=>exact ih j (by simpa using T)
     exact key all j J
    rw[this];intro e;cases e
   | some o=>rw[Zl J];exact Region.noSelect_spec hs j o cs b (by simpa using J)
  have hd:∀e,some d=some e→e∉(Q3 all j).looksAt all.toArray:=λe he=>by cases he;exact h1
  cases q with
  | true =>
   obtain ⟨hg,u,hu,hx⟩:=h;simp only[List.cons_append,XP];rw[XM (Q3 all j) f (some d) v hd,hg,cond_true,cond_true];refine ⟨u,λw' hc=>?_,?_⟩
   ·rw[YM (all:=all) S f (some d) v hd];exact hu w' hc
   rw[JD f v u (λe he=>by cases he;exact h2)];exact Vm G hs l own _ w I hx hC H hb
  | false =>
   simp only[List.cons_append,XP];rw[XM (Q3 all j) f (some d) v hd,h.1,cond_true,cond_false];refine Qbl (all:=all) S h1 h2 (λu w' hx=>?_) (h.2 w (Step.refl _ _) hC);obtain ⟨V,own',Y,ha,hx⟩:=hx;refine ⟨.inr (.inr V),Vm G hs l own' _ w' I hx V (G.stab v own w w' H Y (λb E=>(hb b E).1)) (λb E=>⟨λhm=>?_,LX (hb b E).2 Y.size⟩)⟩
   rcases ha b hm with h3 | h3
   ·exact (hb b E).1 h3
   exact Nat.lt_irrefl _ (LX (hb b E).2 h3.1)
theorem Qaa {i d:Nat}{rest:List (Nat×Bool)}{Φ:Value→World→Prop}{Dc:List (Nat×Nat)}{f1:Fr}(G:Fl2 P all C K KF i d rest Φ Dc f1) (hs:Region.noSelect all.toArray=true) (S:(Q3 all i).guard=none) (hd:(Q3 all i).dst=some d):∀(l:List (Nat×Bool)) (ls:Array Bool) (own:LN) (f:Fr) (w:World),ls.size=all.length→Z2 all d l=true→Z1 all Dc l=true→(∀t,Y4 Dc t=false→f t=f1 t) →
  UC P all C KF l own f w→C w→(∀b∈own,b<w.heap.size)→Uj all.toArray i rest l ls=true→XA P all C K (l.length+1+rest.length) ls f w
 | [],ls,own,f,w,Y,hfr,H,T,h,hC,V,hp=>by
  simp only[Uj,Bool.and_eq_true,beq_iff_eq] at hp;obtain ⟨I,hp⟩:=hp;rw[show ([]:List (Nat×Bool)).length+1+rest.length=rest.length+1 by simp;omega];refine X4 (λh0=>(by rw[h0] at I;cases I)) ?_;rw[I];intro k hk o E;have hc:k=i:=by simpa using hk
  subst hc;have ha:=Zl E;have hx:=G.spec f w T hC;rw[ha] at S hd hx;rw[KK S,cond_true];refine hx.mono λv w' hx=>?_;rw[hd] at hx ⊢;obtain ⟨h1,h2,h3,J⟩:=hx;simp only[QR,Yo] at h3 J
  refine ⟨.inr (.inr h2),ZA hs rest _ _ _ (by simpa using Y) (.inl h2) hp (G.fin own f w' (G.mono own f w w' h h1) v h2 h3 (λb hb=>⟨λhm=>Nat.lt_irrefl _ (LX (V b hm) (J b hb).1),(J b hb).2⟩))⟩
 | (j,true)::l,ls,own,f,w,Y,hfr,H,T,h,hC,V,hp=>by
  simp only[Uj,Bool.and_eq_true] at hp;obtain ⟨⟨I,hf⟩,he⟩:=hp;have hl:j∈Region.ready .any all.toArray ls:=by simpa using I
  have e:(List.length ((j,true)::l))+1+rest.length=(l.length+1+rest.length)+1:=by simp;omega
  rw[e];have hh:Z2 all d l=true:=by simp only[Z2,List.all_cons,Bool.and_eq_true] at hfr;exact hfr.2
  simp only[Z1,List.all_cons,Bool.and_eq_true] at H;have hi:Z1 all Dc l=true:=H.2;cases E:all[j]? with
  | none =>
   exfalso;obtain ⟨_,o,hw,_⟩:=mem_ready.1 hl;simp[E] at hw
  | some o =>
   obtain ⟨hn,v,hv,hx⟩:=h;rw[Zl E] at hn hv hx;have hy:∀(j:Nat) (o:Oper) cs b,all[j]?=some o→o.op≠.select cs b:=λj o cs b hj=>Region.noSelect_spec hs j o cs b (by simpa using hj);have hz:=λk ok hk=>Region.free_spec (ops:=all.toArray) (md:=.any) (i:=j) (oi:=o) (listed:=ls) (by simpa using E) hf k ok (by simpa using hk)
   exact YN (v:=v) (D:=λw=>UL o=true→C w) E (λ_ h=>h) hy _ ls f w (λ_=>hC) hz hl (.inl ⟨hn,hv⟩) (Qaa G hs S hd l _ own _ w (by simpa using Y) hh hi (by have:=Jq (v:=v) H.1 T;rw[Zl E] at this;exact this) hx hC V he)
 | (j,false)::l,ls,own,f,w,Y,hfr,H,T,h,hC,V,hp=>by
  simp only[Uj,Bool.and_eq_true,List.all_eq_true,Bool.or_eq_true,beq_iff_eq,Bool.not_eq_true'] at hp;obtain ⟨⟨⟨hq,I⟩,h5⟩,he⟩:=hp;have e:(List.length ((j,false)::l))+1+rest.length=(l.length+1+rest.length)+1:=by simp;omega
  rw[e];have hh:Z2 all d l=true:=by simp only[Z2,List.all_cons,Bool.and_eq_true] at hfr;exact hfr.2
  simp only[Z1,List.all_cons,Bool.and_eq_true] at H;have hi:Z1 all Dc l=true:=H.2;refine X4 (λh0=>(by rw[h0] at hq;cases hq)) ?_;intro k hk o E;have ha:=Zl E;have ht:(ls.setIfInBounds k true).size=all.length:=by simpa using Y
  by_cases hc:k=i
  ·subst hc;have hx:=G.spec f w T hC;rw[ha] at S hd hx;rw[KK S,cond_true];refine hx.mono λv w' hx=>?_;rw[hd] at hx ⊢;obtain ⟨h1,h2,h3,J⟩:=hx;simp only[QR,Yo] at h3 J;refine ⟨.inr (.inr h2),?_⟩;have hx:=Vm G hs ((j,false)::l) own f w' hfr (UC.ext G.mono h h1) h2 h3 (λb hb=>⟨λhm=>Nat.lt_irrefl _ (LX (V b hm) (J b hb).1),(J b hb).2⟩)
   have:=ZA hs ((j,false)::(l++rest)) _ _ _ ht (.inl h2) h5 hx;rw[show ((j,false)::(l++rest)).length=l.length+1+rest.length by simp;omega] at this;exact this
  have h6:k=j:=(I k hk).resolve_right hc;subst h6;have h1:=h.1;have h2:=h.2 w (Step.refl _ _) hC;rw[ha] at h1 h2;rw[h1,cond_true];refine h2.mono λv w' hx=>?_;obtain ⟨hu,own',h7,h8,hx⟩:=hx;refine ⟨.inr (.inr hu),Qaa G hs S hd l _ own' _ w' ht hh hi (by have:=Jq (v:=v) H.1 T;rw[ha] at this;exact this) hx hu (λb hb=>?_) he⟩;rcases h8 b hb with h3 | h3
  ·exact LX (V b h3) h7.size
  exact h3.2
theorem UC.keeps {D:List (Nat×Nat)}{G:Fr}:∀(l:List (Nat×Bool)) (own:LN) (f:Fr) (w:World),Z1 all D l=true→(∀t,Y4 D t=false→f t=G t)→UC P all C KF l own f w→UC P all C (λo H w'=>(∀t,Y4 D t=false→H t=G t)∧KF o H w') l own f w
 | [],own,f,w,_,E,h=>⟨E,h⟩
 | (j,true)::l,own,f,w,hd,E,h=>by
  simp only[Z1,List.all_cons,Bool.and_eq_true] at hd;obtain ⟨I,v,J,hx⟩:=h;exact ⟨I,v,J,UC.keeps l own _ _ hd.2 (Jq hd.1 E) hx⟩
 | (j,false)::l,own,f,w,hd,E,h=>by
  simp only[Z1,List.all_cons,Bool.and_eq_true] at hd;refine ⟨h.1,λS h1 hc=>XO.mono (λv w' hx=>?_) (h.2 S h1 hc)⟩;obtain ⟨T,own',V,Y,hx⟩:=hx;exact ⟨T,own',V,Y,UC.keeps l own' _ _ hd.2 (Jq hd.1 E) hx⟩
theorem f2p {j:Nat}{l:List (Nat×Bool)}{own:LN}{v:Value}(E:∀w',(execOp (ev f) (Q3 all j)).run P w'=.ok (.value v) w') (h:UC P all C KF l own (QR f (Q3 all j).dst v) w)
  (G:Z8 all f (Q3 all j)=true:=by rfl):UC P all C KF ((j,true)::l) own f w:=⟨G,v,λw' _=>E w',h⟩
theorem f2k {j:Nat}{l:List (Nat×Bool)}{own:LN}(h:∀w1,Step [] w w1→C w1→XO P (Q3 all j) f w1 λE w'=>C w'∧∃own',Step own w1 w'∧(∀b∈own',b∈own∨(w1.heap.size≤b∧b<w'.heap.size))∧UC P all C KF l own' E w')
  (G:Z8 all f (Q3 all j)=true:=by rfl):UC P all C KF ((j,false)::l) own f w:=⟨G,h⟩
theorem f2e {own:LN}(h:KF own f w):UC P all C KF [] own f w:=h
theorem qH {Q:Exit→Fr→World→Prop}{id:Nat}{α:Type}(C:World→Prop) (pre l:List (Nat×Bool)) (i d:Nat) (rest:List (Nat×Bool)) (own:LN) (D Dc:List (Nat×Nat)) (S:α→List (Nat×Value)) (I:α→LN→World→Prop) (Φ:Value→World→Prop) (hm:P.follows .mixedOrders=true) (V:Xu n all=true)
  (hp:Qee all pre l i rest=true) (H:(Z1 all D pre && Z1 all D l && Z1 all Dc l)=true) (hd:(Q3 all i).dst=some d) (hC:C { w with drawn:=w.drawn+1 }) (Y:∀b∈own,b<w.heap.size)
  (stab:∀v (own:LN) w w',Φ v w→Step own w w'→(∀b∈ow v,b∉own)→Φ v w') (mono:∀z own w w',I z own w→Step [] w w'→I z own w')
  (fin:∀z g own w v,I z own w→C w→Φ v w→(∀b∈ow v,b∉own∧b<w.heap.size)→XP P all C (λf w=>Q .normal f w) rest (QR (qO (S z) (mix D f g)) (some d) v) w)
  (h:XP P all C (λG _=>(∀g w,C w→XO P (Q3 all i) (mix Dc G g) w λE w'=>Step [] w w'∧C w'∧Φ (E d) w'∧∀b∈ow (E d),w.heap.size≤b∧b<w'.heap.size)∧UC P all C (λo E w'=>∃z,Xe E (S z)∧I z o w') l own G { w with drawn:=w.drawn+1 }) pre f { w with drawn:=w.drawn+1 }):W P n (.region id all.toArray true) Q f w:=by
 rw[Lu,Lu] at H;simp only[Qee,Bool.and_eq_true,beq_iff_eq,Option.isNone_iff_eq_none] at hp;obtain ⟨⟨⟨⟨⟨hs,hl⟩,hq⟩,ha⟩,hg⟩,hfr⟩:=hp;rw[hd] at hfr;refine Ke C hm V ?_;have h1:=Yw (K:=λf w=>Q .normal f w) (m:=l.length+1+rest.length) hs pre (Array.replicate all.length false) f _ hC hq
  (B:=λG _=>Fl2 P all C (λf w=>Q .normal f w) (λo E w'=>(∀t,Y4 D t=false→E t=f t)∧∃z,Xe E (S z)∧I z o w') i d rest Φ Dc G∧UC P all C (λo E w'=>(∀t,Y4 D t=false→E t=f t)∧∃z,Xe E (S z)∧I z o w') l own G { w with drawn:=w.drawn+1 })
  (λG T=>Qaa T.1 hs hg hd l (ZW pre (Array.replicate all.length false)) own G _ (by rw[Yy];simp) hfr H.2 (λ_ _=>rfl) T.2 hC Y ha)
  (XP.keeps_mono _ _ _ (XP.keeps pre f _ H.1.1 (λ_ _=>O) h) (λG w1 hx=>⟨⟨stab,?_,?_,?_⟩,UC.keeps l own _ _ H.1.2 hx.1 hx.2.2⟩))
 ·rw[hl] at h1;exact h1
 ·intro E w' hk J;have:=hx.2.1 E w' J;rw[Jo hk] at this;exact this
 ·rintro o E w' ⟨hk,z,hs,hi⟩ v J hv hb;have:=fin z E o w' v hi J hv hb;rw[Jo hk,YC hs] at this;exact this
 rintro o E w' he ⟨hk,z,hs,hi⟩ hc;exact ⟨hk,z,hs,mono z o _ _ hi hc⟩
end
attribute [irreducible] UC
end Go.Lg
namespace Go.Proofs.YtdffckgdcegpaaaGreatDoor
open Go.Lg
abbrev Z5:LV:=[nS,nS,nS,nS,nS]
abbrev X0:LV:=[nS,.int .i64 0,nS,nS]
theorem XI {a:Array UInt8}(h:a.size≤100):(⟨a⟩:ByteArray).size≤9223372036854775807:=by
 show a.size≤_;omega
def jz (N M:Nat):LN:=(List.range M).filter λb=>decide (N≤b)
theorem Yl {N M b:Nat}:b∈jz N M↔N≤b∧b<M:=by
 unfold jz;rw[Mr,List.mem_range,decide_eq_true_iff];exact And.comm
open Go.Proofs.Tryz
def JS (co:LI) (ls:List (Int×Int)):List (Int×Int):=ls.map λl=>((lwB co l.1:Int),l.2)
theorem QaS {co:LI}(hi:YX co) {ls:List (Int×Int)}(h:mis co ls=false):JS co ls=ixP co ls:=by
 unfold JS ixP;refine M7 λl hl=>?_;unfold mis at h;have h1:=M4.1 h l hl;have hm:l.1∈co:=by simpa using h1
 rw[QaN hi hm]
abbrev exG (c:Zv) (i:Int):ji:=c.ex.getD i.toNat ⟨.empty,[]⟩
abbrev csG (c:Zv) (i:Int):Xf:=c.cs.getD i.toNat ⟨.empty,[],0⟩
def exB (c:Zv) (co ix:LI):List ji:=ix.map λi=>⟨(exG c i).nm,JS co (exG c i).ls⟩
def csB (c:Zv) (co ix:LI):List Xf:=ix.map λi=>⟨(csG c i).nm,JS co (csG c i).ts,(csG c i).bd⟩
def exM (c:Zv) (co ix:LI):Bool:=ix.any λi=>mis co (exG c i).ls
def csM (c:Zv) (co ix:LI):Bool:=ix.any λi=>mis co (csG c i).ts
theorem QfK (c:Zv) (p:Prt):Qja c p=(exM c p.co p.ex || csM c p.co p.cs):=rfl
theorem QgE {c:Zv}{p:Prt}(hi:YX p.co) (h:exM c p.co p.ex=false):exB c p.co p.ex=QfJ c p:=by
 unfold exB QfJ;refine M7 λi E=>?_;rw[QaS hi (by have:=M4.1 h i E;simpa using this)]
theorem QgM {c:Zv}{p:Prt}(hi:YX p.co) (h:csM c p.co p.cs=false):csB c p.co p.cs=QfL c p:=by
 unfold csB QfL;refine M7 λi E=>?_;rw[QaS hi (by have:=M4.1 h i E;simpa using this)]
def ck4:List (Value×LI×Int)→Int
 | []=>0
 | (_,s,n)::l=>if Xi n none s≠0 then Xi n none s else ck4 l
abbrev skC (x:Value×LI×Int):LV:=[x.1,.int .i64 x.2.2]
theorem QhC (x:Value×LI×Int):(skC x).length=2:=rfl
theorem yU:∀{l:List (Value×LI×Int)},ck4 l=0→∀x∈l,Xi x.2.2 none x.2.1=0
 | [],_,x,hx=>by cases hx
 | (v,s,n)::l,h,x,hx=>by
  rw[ck4] at h;by_cases h1:Xi n none s≠0
  ·rw[if_pos h1] at h;exact absurd h h1
  rw[if_neg h1] at h;rcases Lb.1 hx with rfl | hx
  ·exact Lq.1 h1
  exact yU h x hx
theorem ZV.app2 {α:Type}{g:α→LV}{sz T:Nat}{p:α→Value×Nat×Nat×LV}{base N e:Nat}{E G:World}{v H:Value}{l:List α}{q:α}(h:ZV g sz T p base E v l)
  (hq:E.ownsRow N e (p q).2.2.1 (p q).1 (p q).2.1 (p q).2.2.2) (S:(p q).2.1≤1099511627776) (hb:base≤N) (V:∀b∈ob v,b<N)
  (Y:G.ownsRow base T sz H (l.length+1) (l.flatMap g++g q)) (I:Step (ob v) E G) (J:∀b∈ob H,b∈ob v∨E.heap.size≤b):ZV g sz T p base G H (l++[q]):=by
 refine ⟨?_,λd hd=>?_⟩
 ·rw[Lk,LA];simpa using Y
 rcases Li.1 hd with hd | hd
 ·exact (h.each d hd).app I J
 simp only[List.mem_singleton] at hd;subst hd;exact (ZM.of_own hq S hb V).app I J
instance:Bw prog 47 [nS,nS,nS,nS,nS] [(0,1),(1,1),(2,1),(3,1),(4,1)]:=⟨by kernel_rfl,by decide⟩
theorem qm {v:Value}(h:v.oneCell'=true):v.cells=[v].toArray:=by
 cases v <;> first | rfl | cases h
theorem QdZ {N M:Nat}{w':World}{v:Value}{qs:List IV}(h:∀L:LN,(∀b∈L,b<N)→YW L w'.heap v qs) (H:w'.heap.size=M) {L:LN}(E:∀b∈L,b∉jz N M):YW L w'.heap v qs:=by
 refine (h (L.filter λb=>decide (b<N)) (λb hb=>by have:=(Mr.1 hb).2;exact of_decide_eq_true this)).up (λb hb=>?_);by_cases G:b<N
 ·exact .inl (Mr.2 ⟨hb,decide_eq_true G⟩)
 refine .inr ?_;have:=E b hb;rw[Yl] at this;omega
structure EiA (L:LN) (H:Array Obj) (z:Value×Value×Value) (ev:List JV) (qc qr:List IV):Prop where
 ev:Ki L H z.1 ev
 co:YW L H z.2.1 qc
 rq:YW L H z.2.2 qr
theorem EiA.ext {L:LN}{w w':World}{z:Value×Value×Value}{ev:List JV}{qc qr:List IV}(h:EiA L w.heap z ev qc qr) (hs:Step [] w w'):EiA L w'.heap z ev qc qr:=⟨h.ev.ext hs,h.co.ext hs,h.rq.ext hs⟩
theorem EiA.st {L:LN}{w w':World}{z:Value×Value×Value}{ev:List JV}{qc qr:List IV}(h:EiA L w.heap z ev qc qr) (hs:Step L w w'):EiA L w'.heap z ev qc qr:=⟨h.ev.st hs,h.co.st hs,h.rq.st hs⟩
theorem EiA.up {L L':LN}{H:Array Obj}{z:Value×Value×Value}{ev:List JV}{qc qr:List IV}(h:EiA L H z ev qc qr) (E:∀b∈L',b∈L∨H.size≤b):EiA L' H z ev qc qr:=⟨h.ev.up E,h.co.up E,h.rq.up E⟩
set_option maxRecDepth 4096 in
set_option maxHeartbeats 16000000 in
theorem j5 {L:LN}{w:World}{c:CL}{v0 v1 v2 v3:Value}{p:Prt}(J:ZB L w.heap c) (hc0:QK L w.heap v0 p.co) (hr0:QK L w.heap v1 p.rq) (hx0:QK L w.heap v2 p.ex) (hk0:QK L w.heap v3 p.cs) :
  QI prog 33 [c.val,.agg #[v0,v1,v2,v3]] w λr w'=>Step [] w w'∧∃us,r=.tuple #[.agg us.toArray,.int .i64 (qV c.cel p)]∧us.length=5∧ZO us∧(qV c.cel p≠0→us=Z5)∧(qV c.cel p=0→Qhb w.heap.size w'.heap (.agg us.toArray) (QbA c.cel p)):=by
 have h:=J.up (L':=[]) (by simp);have hc:=hc0.up (L':=[]) (by simp);have hr:=hr0.up (L':=[]) (by simp);have hx:=hx0.up (L':=[]) (by simp);have hk:=hk0.up (L':=[]) (by simp)
 have S:qV c.cel p=if Q8 c.cel≠0 then Q8 c.cel else if ck4 [(v0,p.co,(c.co.length:Int)),(v1,p.rq,(c.rq.length:Int)),(v2,p.ex,(c.ex.length:Int)),(v3,p.cs,(c.cs.length:Int))]≠0 then ck4 [(v0,p.co,(c.co.length:Int)),(v1,p.rq,(c.rq.length:Int)),(v2,p.ex,(c.ex.length:Int)),(v3,p.cs,(c.cs.length:Int))]
   else if (exM c.cel p.co p.ex || csM c.cel p.co p.cs)=true then 13 else Q8 (QbA c.cel p):=by
  have e1:c.cel.co.length=c.co.length:=Lh ..;have e2:c.cel.rq.length=c.rq.length:=Lh ..;have e3:c.cel.ex.length=c.ex.length:=Lh ..;have e4:c.cel.cs.length=c.cs.length:=Lh ..;unfold qV;rw[e1,e2,e3,e4,QfK];simp only[ck4];by_cases q0:Q8 c.cel≠0
  ·rw[if_pos q0,if_pos q0]
  rw[if_neg q0,if_neg q0];by_cases q1:Xi (c.co.length:Int) none p.co≠0
  ·simp only[if_pos q1]
  simp only[if_neg q1];by_cases q2:Xi (c.rq.length:Int) none p.rq≠0
  ·simp only[if_pos q2]
  simp only[if_neg q2];by_cases q3:Xi (c.ex.length:Int) none p.ex≠0
  ·simp only[if_pos q3]
  simp only[if_neg q3];by_cases q4:Xi (c.cs.length:Int) none p.cs≠0
  ·simp only[if_pos q4]
  simp only[if_neg q4];simp
 refine Zh (qV c.cel p) λE hE=>?_;rw[hE] at S ⊢;refine Zh [(v0,p.co,(c.co.length:Int)),(v1,p.rq,(c.rq.length:Int)),(v2,p.ex,(c.ex.length:Int)),(v3,p.cs,(c.cs.length:Int))] λI gm=>?_;rw[gm] at S;have hl4n:I.length=4:=by rw[←gm];rfl
 have hl4i:∀x∈I,QK [] w.heap x.1 x.2.1:=by
  rw[←gm];intro x hm;simp only[List.mem_cons,List.not_mem_nil,or_false] at hm;rcases hm with rfl | rfl | rfl | rfl
  ·exact hc
  ·exact hr
  ·exact hx
  exact hk
 have hl4z:ck4 I=0→Xi (c.co.length:Int) none p.co=0∧Xi (c.rq.length:Int) none p.rq=0∧Xi (c.ex.length:Int) none p.ex=0∧Xi (c.cs.length:Int) none p.cs=0:=by
  intro J;have h1:=yU J;rw[←gm] at h1;exact ⟨h1 (v0,p.co,_) (by simp),h1 (v1,p.rq,_) (by simp),h1 (v2,p.ex,_) (by simp),h1 (v3,p.cs,_) (by simp)⟩
 have hcl:=hc.le;have hrl:=hr.le;have hxl:=hx.le;have hkl:=hk.le;have hexl:=h.ex.arr.le;have hcsl:=h.cs.arr.le;refine QI.of_W func33 O ntmps33 results33 (by simp) ?_;refine Qc<|xl O<|QQ (us:=c.cells) O λb2 w1 hs1 hb2 m0=>xl O<|QQ (us:=[v0,v1,v2,v3]) O λb3 w2 kh hb3 hB3=>xl O<|Qt (us:=Z5) O λb4 w3 gn hb4 hB4=>Qe ?_;have hz1:=hs1.size;have hz2:=kh.size;have hz3:=gn.size;have hl2:=m0.lt
 have hl3:=hB3.lt;have hl4':=hB4.lt;have hs03:=(hs1.trans kh).trans gn;refine Qg<|Qc<|x (Qr ((m0.ext kh).ext gn) O O)<|xl O<|xf<|(Ym (h.ext hs03)).mono ?_;rintro r4 w4 ⟨rfl,go⟩;refine Qe ?_;have m1:=hs03.trans go;have hz4:=go.size;have gp:=((m0.ext kh).ext gn).ext go;have gq:=(hB3.ext gn).ext go;have m2:=hB4.ext go;refine Qc<|Qb<|x (Q9 O O)<|xe ?_
 refine Q7 rfl (λki=>?_) (λki=>?_)
 ·rw[if_pos ki] at S;subst S;refine Qc<|x (QE U)<|Qb<|xl O<|Qp (us:=Z5) m2 O O O O ⟨O,O,O,O,O,U⟩ λw5 hs5 hB45=>Qe ?_;exact Qm ⟨[.agg Z5.toArray,.int .i64 (Q8 c.cel)],⟨⟨_,O,Qx O (hB45.at (L:=[]) (by simp)).cells⟩,rfl,U⟩,m1.then1 hs5 (by omega),Z5,rfl,rfl,⟨rfl,rfl,rfl,rfl,rfl,U⟩,λ_=>rfl,λJ=>absurd J ki⟩
 rw[if_neg ki] at S;refine Qi ?_;have h4:=h.ext m1;refine Qg<|Qc<|x (Qa O)<|x (Qd gq O O)<|x (Qa O)<|x (Qd gp O O)<|x (Qs h4.co.arr O)<|x (QE ⟨hc.cells,O,U⟩) <|
  x (Qa rfl)<|x (Qd gq O O)<|x (Qa O)<|x (Qd gp O O)<|x (Qs h4.rq.arr O)<|x (QE ⟨hr.cells,O,U⟩) <|
  x (Qa rfl)<|x (Qd gq O O)<|x (Qa O)<|x (Qd gp O O)<|x (Qs h4.ex.arr O)<|x (QE ⟨hx.cells,O,U⟩) <|
  x (Qa rfl)<|x (Qd gq O O)<|x (Qa O)<|x (Qd gp O O)<|x (Qs h4.cs.arr O)<|x (QE ⟨hk.cells,O,U⟩) <|
  xl rfl<|QD (us:=[skC (v0,p.co,(c.co.length:Int)),skC (v1,p.rq,(c.rq.length:Int)),skC (v2,p.ex,(c.ex.length:Int)),skC (v3,p.cs,(c.cs.length:Int))]) O O (by decide) (by simp) ⟨rfl,rfl,rfl,rfl,rfl,rfl,rfl,rfl,U⟩ λb54 w6 hW hb54 hB54=>?_
 have hA54:Zq [] w6.heap (.slice (some ⟨b54,0,none⟩) 4 4) I.length 2 (I.flatMap skC):=by
  have:=hB54.arr (L:=[]) (by simp) (n:=4) (cap:=4) (sz:=2) (by rfl) (by omega) (Lr _);rw[hl4n,←gm];exact this
 refine x (Qs hA54 O)<|Qb<|xe ?_;have hs06:=m1.trans hW;have hz6:=hW.size;refine Qh<|QA (α:=Nat) [(5,5),(8,9),(56,69)] (λz=>[(56,.int .i64 z)]) (λz w'=>z≤I.length∧Step [] w6 w'∧ck4 (I.drop z)=ck4 I) (λz=>I.length - z) (by rfl) 0 Z ⟨Lj _,Step.refl _ _,O⟩ ?_;rintro k g V ⟨hkl4,hA,hC⟩;have gr:=hs06.trans hA;have hz7:=hA.size;refine Qc<|x (QB O O)<|xe ?_
 refine Qg<|QH O (λm3=>?_) (λm3=>?_)
 ·refine Qy ?_;have hke:I.length≤k:=by have hw:¬(k:Int)<(I.length:Int):=m3;omega
  rw[Lp hke] at hC;have hck0:ck4 I=0:=hC.symm;rw[if_neg (λJ=>J hck0)] at S;obtain ⟨zco,zrq,zex,zcs⟩:=hl4z hck0;have gs:=(YA _ _ _).1 zco;have hrq:=(YA _ _ _).1 zrq;have hexz:=(YA _ _ _).1 zex;have hcsz:=(YA _ _ _).1 zcs;have h7:=h.ext gr;have kj:Q4 V.heap b2 47 c.cells:=(gp.ext hW).ext hA;have m4:Q4 V.heap b3 95 [v0,v1,v2,v3]:=(gq.ext hW).ext hA
  have hB47:Q4 V.heap b4 47 Z5:=(m2.ext hW).ext hA;have hsd:Step [] V { V with drawn:=V.drawn+1 }:=Step.drew _ _
  refine Q0 (α:=Nat×(Value×Value×Value)×List IV×List IV) [(70,83),(10,10)] (λz=>[(10,.pointer (some ⟨z.1,0,none⟩))]) (λz w'=>Step [] V w'∧V.heap.size≤z.1∧Q4 w'.heap z.1 47 [z.2.1.1,z.2.1.2.1,z.2.1.2.2,nS,nS] ∧
   z.2.2.1.map IV.it=chs c.cel.co p.co∧z.2.2.2.map IV.it=chs c.cel.rq p.rq∧ZO [z.2.1.1,z.2.1.2.1,z.2.1.2.2]∧∀L:LN,(∀b∈L,b<V.heap.size∨b=z.1)→EiA L w'.heap z.2.1 c.ev z.2.2.1 z.2.2.2) (by rfl) ?_ ?_
  ·refine qH (α:=(Value×Value×Value)×List IV×List IV) (Step [] V) [(0,true),(1,true),(3,true),(4,true),(5,true),(6,true),(8,true),(9,true),(10,true),(11,true)] [(2,false),(7,false),(12,false),(13,true)] 14 10 [(15,false)] []
    [(70,83)] [(72,72),(77,77),(82,83)] (λz=>[(83,.agg [z.1.1,z.1.2.1,z.1.2.2,nS,nS].toArray)])
    (λz own w'=>(∀b∈own,V.heap.size≤b)∧z.2.1.map IV.it=chs c.cel.co p.co∧z.2.2.map IV.it=chs c.cel.rq p.rq∧ZO [z.1.1,z.1.2.1,z.1.2.2]∧∀L:LN,(∀b∈L,b∉own)→EiA L w'.heap z.1 c.ev z.2.1 z.2.2)
    (λv w'=>∃b,v=.pointer (some ⟨b,0,none⟩)∧V.heap.size≤b∧Q4 w'.heap b 47 Z5) mixed (by rfl) (by kernel_rfl) (by rfl) O hsd (by simp) ?_ ?_ ?_ ?_
   ·rintro v own wa wb ⟨b,rfl,hb,hB⟩ hs hn;exact ⟨b,O,hb,hB.step hs (hn b (by simp[ow]))⟩
   ·rintro z own wa wb ⟨h1,h2,h3,h4,h5⟩ hs;exact ⟨h1,h2,h3,h4,λL hL=>(h5 L hL).ext hs⟩
   ·rintro ⟨zv,qc,qr⟩ g own wz v ⟨i1,i2,i3,i4,i5⟩ hCz ⟨H,rfl,kk,hB10⟩ hbo;simp only[] at i2 i3 i4 i5;have hb10o:=(hbo H (by simp[ow])).1;refine pkl (hl:=by kernel_rfl)<|Qp (us:=[zv.1,zv.2.1,zv.2.2,nS,nS]) hB10 O O O O ⟨i4.1,i4.2.1,i4.2.2.1,O,O,U⟩ λw8 hX hB108=>pe ?_;refine ⟨(H,zv,qc,qr),Z,hCz.then1 hX kk,kk,hB108,i2,i3,i4,λL hL=>?_⟩;have h1:=i5 (H::L) (λb hb=>by
     rcases Lb.1 hb with rfl | hb
     ·exact hb10o
     rcases hL b hb with h2 | h2
     ·exact λh3=>by have:=i1 b h3;omega
     subst h2;exact hb10o)
    exact (h1.st (hX.mono (by simp))).up (λb hb=>.inl (by simp[hb]))
   refine Go.Lg.p (λ_=>Qa O)<|pq (λ_ hc=>Qd (kj.ext hc) O O)<|Go.Lg.p (λ_=>Qa O)<|pq (λ_ hc=>Qd (kj.ext hc) O O) <|
    Go.Lg.p (λ_=>Qa O)<|pq (λ_ hc=>Qd (m4.ext hc) O O)<|Go.Lg.p (λ_=>Qa O)<|pq (λ_ hc=>Qd (kj.ext hc) O O) <|
    Go.Lg.p (λ_=>Qa O)<|pq (λ_ hc=>Qd (m4.ext hc) O O)<|pe ⟨λg wf hCf=>Qt (us:=Z5) O λb wf' hsf hbf hBf=>⟨hsf,hCf.trans hsf,⟨b,O,LS hCf.size hbf,hBf⟩,λx hx=>?_⟩,?_⟩
   ·have hxe:x=b:=by
     have hx':x∈[b]:=hx;simpa using hx'
    subst hxe;exact ⟨hbf,hBf.lt⟩
   refine f2k λx1 p1 c1=>xf<|(j1 (h7.ev.ext c1).arr).mono ?_;rintro m5 y1 ⟨hs1',hY⟩;refine ⟨c1.trans hs1',jz x1.heap.size y1.heap.size,hs1'.any,λb hb=>.inr (Yl.1 hb),?_⟩;refine f2k λx2 p2 c2=>xf<|(Uz (h7.co.ext c2) (hc.ext (gr.trans c2)) (λi hi=>gs.1 i hi)).mono ?_;rintro r77 y2 ⟨m6,⟨qc,kn,hqcI⟩,ko⟩
   refine ⟨c2.trans m6,jz x1.heap.size y1.heap.size++jz x2.heap.size y2.heap.size,m6.any,λb hb=>(Li.1 hb).imp id λhb=>Yl.1 hb,?_⟩;refine f2k λx3 p3 c3=>xf<|(Uz (h7.rq.ext c3) (hr.ext (gr.trans c3)) (λi hi=>hrq.1 i hi)).mono ?_;rintro r82 y3 ⟨kp,⟨qr,kq,hqrI⟩,kr⟩
   refine ⟨c3.trans kp,(jz x1.heap.size y1.heap.size++jz x2.heap.size y2.heap.size)++jz x3.heap.size y3.heap.size,kp.any,λb hb=>(Li.1 hb).imp id λhb=>Yl.1 hb,?_⟩;refine f2p (λ_=>Z4 [(0,[m5]),(1,[r77]),(2,[r82])] ⟨QY hY,O,qm ko,O,qm kr,O,U⟩)<|f2e ?_;refine ⟨((m5,r77,r82),qc,qr),Z,λb hb=>?_,kn,kq,⟨QJ hY,ko,kr,U⟩,λL hL=>?_⟩
   ·have e1:=c1.size;have e2:=c2.size;have e3:=c3.size;rcases Li.1 hb with hb | hb
    ·rcases Li.1 hb with hb | hb
     ·have:=Yl.1 hb;omega
     have:=Yl.1 hb;omega
    have:=Yl.1 hb;omega
   have hL1:∀b∈L,b∉jz x1.heap.size y1.heap.size:=λb hb hm=>hL b hb (by simp[hm]);have hL2:∀b∈L,b∉jz x2.heap.size y2.heap.size:=λb hb hm=>hL b hb (by simp[hm]);have hL3:∀b∈L,b∉jz x3.heap.size y3.heap.size:=λb hb hm=>hL b hb (by simp[hm]);have hev1:Ki L y1.heap m5 c.ev:=⟨QS hY h.ev.arr.le (λb hb hm=>hL1 b hm (Yl.2 (Qn hY b hb))),h.ev.nm⟩
   exact ⟨(((hev1.ext p2).ext m6).ext p3).ext kp,((QdZ hqcI O hL2).ext p3).ext kp,QdZ hqrI O hL3⟩
  rintro ⟨H,zv,qc,qr⟩ g wc ⟨hsc,kk,m7,kn,kq,kt,hEi⟩;simp only[] at kk m7 kn kq kt hEi;have hl10:=m7.lt;have hzc:=hsc.size;refine Qc<|xl O<|Qt (us:=[.bool false]) O λG w8 hX hb11 hB11=>xl O<|QL (j:=0) (u:=.bool false) hB11 O O (by simp) rfl λw9 m8 ku=>xe ?_;have kv:Step [] wc w9:=hX.then1 m8 hb11;have hD:=hsc.trans kv;have hZ:=gr.trans hD
  have hz9:=kv.size;have hl11:=ku.lt;have hB109:=m7.ext kv;have hB29:=kj.ext hD;have hB39:=m4.ext hD;have hB49:=hB47.ext hD;have h9:=h.ext hZ;have hn10:H≠G:=by omega
  have hup:∀b∈[H,G],w.heap.size≤b:=λb hb=>by simp only[List.mem_cons,List.not_mem_nil,or_false] at hb;omega
  have kw:∀b∈[H,G],b<w9.heap.size:=λb hb=>by simp only[List.mem_cons,List.not_mem_nil,or_false] at hb;omega
  have hn2:b2∉[H,G]:=λhb=>by simp only[List.mem_cons,List.not_mem_nil,or_false] at hb;omega
  have hn3:b3∉[H,G]:=λhb=>by simp only[List.mem_cons,List.not_mem_nil,or_false] at hb;omega
  have hn4:b4∉[H,G]:=λhb=>by simp only[List.mem_cons,List.not_mem_nil,or_false] at hb;omega
  have ky:∀b∈[H],b∈[H,G]:=λb hb=>by simp only[List.mem_singleton] at hb;simp[hb]
  have kz:∀b∈[G],b∈[H,G]:=λb hb=>by simp only[List.mem_singleton] at hb;simp[hb]
  have hY:=kt.1;have ko:=kt.2.1;have kr:=kt.2.2.1;refine Qc<|x (Zp (l:=[]) (l':=[_,_]))<|Qe<|Qg<|Qc<|x (Qa O)<|x (Qd hB39 O O)<|x (Qs (hx.ext hZ) O)<|Qb<|xe<|Qh<|QA (α:=Nat×Bool×Value×List XV) [(14,15),(17,17),(88,129)] (λz=>[(88,.int .i64 z.1)]) (λz w'=>z.1≤p.ex.length∧Step [H,G] w9 w'∧Q4 w'.heap H 47 [zv.1,zv.2.1,zv.2.2,z.2.2.1,nS]∧Q4 w'.heap G 4 [.bool z.2.1] ∧
   XvN w9.heap.size w' z.2.2.1 z.2.2.2∧z.2.2.2.map (·.x)=exB c.cel p.co (p.ex.take z.1)∧z.2.1=exM c.cel p.co (p.ex.take z.1)∧∀q∈z.2.2.2,K7 q.nm) (λz=>p.ex.length - z.1) (by rfl) (0,false,nS,[]) Z
   ⟨Lj _,Step.refl _ _,hB109,ku,ZV.nil,O,O,λq hq=>by cases hq⟩ ?_
  rintro ⟨k,mi,vx,qx⟩ g Y ⟨hk10,hJ,m9,gt,k0,gu,k4,pa⟩;simp only[] at hk10 m9 gt k0 gu k4 pa;have gv:Step [] w Y:=hZ.then hJ (λb hb=>.inr (hup b hb));have pc:=h.ext gv;have pd:=hB29.step hJ hn2;have pf:=hB39.step hJ hn3;have pg:=hB49.step hJ hn4;have hz10:=hJ.size
  have hqxl:qx.length=k:=by have:=congrArg List.length gu;unfold exB at this;rw[Lh,Lh,Lx] at this;omega
  refine Qc<|x (QB O O)<|xe<|Qg<|QH O (λhK=>?_) (λhK=>?_)
  ·refine Qy ?_;have ph:p.ex.length≤k:=by have hw:¬(k:Int)<(p.ex.length:Int):=hK;omega
   rw[Ll ph] at gu k4;have hlt10:∀b∈[H,G],b<Y.heap.size:=λb hb=>by have:=kw b hb;omega
   refine Qg<|Qc<|x (Qa O)<|x (Qd pf O O)<|x (Qs (hk.ext gv) O)<|Qb<|xe<|Qh<|QA (α:=Nat×Bool×Value×List KV) [(19,20),(22,22),(133,180)] (λz=>[(133,.int .i64 z.1)]) (λz w'=>z.1≤p.cs.length∧Step [H,G] Y w'∧Q4 w'.heap H 47 [zv.1,zv.2.1,zv.2.2,vx,z.2.2.1]∧Q4 w'.heap G 4 [.bool z.2.1] ∧
    KvN Y.heap.size w' z.2.2.1 z.2.2.2∧z.2.2.2.map (·.k)=csB c.cel p.co (p.cs.take z.1)∧z.2.1=(mi || csM c.cel p.co (p.cs.take z.1))∧∀q∈z.2.2.2,K7 q.nm) (λz=>p.cs.length - z.1) (by rfl) (0,mi,nS,[]) Z
    ⟨Lj _,Step.refl _ _,m9,gt,ZV.nil,O,by simp[csM],λq hq=>by cases hq⟩ ?_
   rintro ⟨k,mk,vk,kx⟩ g ho ⟨hkk10,hF,kB1010,kB1110,kX10,gw,k5,pj⟩;simp only[] at hkk10 kB1010 kB1110 kX10 gw k5 pj;have gx:Step [] w ho:=gv.then hF (λb hb=>.inr (hup b hb));have k6:=h.ext gx;have kB210:=pd.step hF hn2;have kB310:=pf.step hF hn3;have kB410:=pg.step hF hn4;have kz10:=hF.size
   have hkxl:kx.length=k:=by have:=congrArg List.length gw;unfold csB at this;rw[Lh,Lh,Lx] at this;omega
   refine Qc<|x (QB O O)<|xe<|Qg<|QH O (λhK=>?_) (λhK=>?_)
   ·refine Qy ?_;have ph:p.cs.length≤k:=by have hw:¬(k:Int)<(p.cs.length:Int):=hK;omega
    rw[Ll ph] at gw k5;have hmm:mk=(exM c.cel p.co p.ex || csM c.cel p.co p.cs):=by rw[k5,k4]
    rw[←hmm] at S;have kXu:XvN w9.heap.size ho vx qx:=ZV.low k0 hF kw;refine Qg<|Qc<|x (Qd kB1110 O O)<|xe<|Q2 O (λk7=>?_) (λk7=>?_)
    ·rw[if_pos k7] at S;subst S;refine Qc<|x (QE U)<|xl O<|Qp (us:=Z5) kB410 O O O O ⟨O,O,O,O,O,U⟩ λu11 k8 kB411=>Qe ?_;exact Qm ⟨[.agg Z5.toArray,.int .i64 13],⟨⟨_,O,Qx O (kB411.at (L:=[]) (by simp)).cells⟩,rfl,U⟩,gx.then1 k8 (by omega),Z5,rfl,rfl,⟨rfl,rfl,rfl,rfl,rfl,U⟩,λ_=>rfl,λJ=>absurd J (by decide)⟩
    rw[if_neg (by rw[k7];simp)] at S;refine Qi ?_;have hmf:(exM c.cel p.co p.ex || csM c.cel p.co p.cs)=false:=by rw[←hmm];exact k7
    have hmf2:=Mn.1 hmf;have hE1:qx.map (·.x)=QfJ c.cel p:=gu.trans (QgE gs.2.1 hmf2.1);have hE2:kx.map (·.k)=QfL c.cel p:=gw.trans (QgM gs.2.1 hmf2.2);have hcel:(CL.mk zv.1 zv.2.1 zv.2.2 vx vk c.ev qc qr qx kx).cel=QbA c.cel p:=by
     show Zv.mk c.ev (qc.map IV.it) (qr.map IV.it) (qx.map (·.x)) (kx.map (·.k))=Zv.mk c.cel.ev _ _ _ _;rw[kn,kq,hE1,hE2];rfl
    have hCu:∀L:LN,(∀b∈L,b<w.heap.size)→ZB (b4::L) ho.heap (CL.mk zv.1 zv.2.1 zv.2.2 vx vk c.ev qc qr qx kx):=by
     intro L hL;have e1:=hEi (b4::H::L) (λb hb=>by
      rcases Lb.1 hb with rfl | hb
      ·exact .inl (by omega)
      rcases Lb.1 hb with rfl | hb
      ·exact .inr O
      have:=hL b hb;exact .inl (by omega))
     have e2:EiA (G::b4::H::L) wc.heap zv c.ev qc qr:=e1.up (λb hb=>by
      rcases Lb.1 hb with rfl | hb
      ·exact .inr hb11
      exact .inl hb)
     have hm2:∀b∈[H,G],b∈G::b4::H::L:=λb hb=>by
      simp only[List.mem_cons,List.not_mem_nil,or_false] at hb;rcases hb with rfl | rfl <;> simp
     have e3:=((e2.ext kv).st (hJ.mono hm2)).st (hF.mono hm2);have e4:EiA (b4::L) ho.heap zv c.ev qc qr:=e3.up (λb hb=>by
      rcases Lb.1 hb with rfl | hb
      ·exact .inl (by simp)
      exact .inl (by simp[hb]))
     have hqx40:qx.length≤1099511627776:=by omega
     have hkx40:kx.length≤1099511627776:=by omega
     have pm:∀b∈b4::L,b<w9.heap.size:=λb hb=>by
      rcases Lb.1 hb with rfl | hb
      ·omega
      have:=hL b hb;omega
     have hLt10:∀b∈b4::L,b<Y.heap.size:=λb hb=>by have:=pm b hb;omega
     exact ⟨e4.ev,e4.co,e4.rq,⟨ZV.arr kXu hqx40 pm,λq hq=>kXu.each q hq _ (λb hb=>.inl (pm b hb)),pa⟩,⟨ZV.arr kX10 hkx40 hLt10,λq hq=>kX10.each q hq _ (λb hb=>.inl (hLt10 b hb)),pj⟩⟩
    rw[←hcel] at S;subst S;refine Qg<|Qc<|x (Qr kB1010 O O)<|xl O<|xf<|(Ym (hCu [] (by simp))).mono ?_;rintro r12 hM ⟨rfl,ga⟩;refine Qe ?_;have gy:=gx.trans ga;have kB412:=kB410.ext ga;refine Qc<|Qb<|x (Q9 O O)<|xe<|Q7 O (λk9=>?_) (λk9=>?_)
    ·refine Qc<|x (QE U)<|Qb<|xl O<|Qp (us:=Z5) kB412 O O O O ⟨O,O,O,O,O,U⟩ λhG ma kB413=>Qe ?_;exact Qm ⟨[.agg Z5.toArray,.int .i64 (Q8 (CL.mk zv.1 zv.2.1 zv.2.2 vx vk c.ev qc qr qx kx).cel)],⟨⟨_,O,Qx O (kB413.at (L:=[]) (by simp)).cells⟩,rfl,U⟩,gy.then1 ma (by omega),Z5,rfl,rfl,⟨rfl,rfl,rfl,rfl,rfl,U⟩,λ_=>rfl,λJ=>absurd J k9⟩
    refine Qi ?_;have hone5:ZO [zv.1,zv.2.1,zv.2.2,vx,vk]:=⟨hY,ko,kr,QJ kXu.own,QJ kX10.own,U⟩
    refine Qc<|x (Qr (kB1010.ext ga) O O)<|xl O<|Qp (us:=[zv.1,zv.2.1,zv.2.2,vx,vk]) kB412 O O O O hone5 λhG ma kB413=>Qe<|Qm ⟨[.agg [zv.1,zv.2.1,zv.2.2,vx,vk].toArray,.int .i64 0],⟨⟨_,O,Qx O (kB413.at (L:=[]) (by simp)).cells⟩,rfl,U⟩,gy.then1 ma (by omega),[zv.1,zv.2.1,zv.2.2,vx,vk],?_,rfl,hone5,λJ=>absurd J k9,λ_=>⟨(CL.mk zv.1 zv.2.1 zv.2.2 vx vk c.ev qc qr qx kx),rfl,hcel,λL hL=>?_⟩⟩
    ·have J:Q8 (CL.mk zv.1 zv.2.1 zv.2.2 vx vk c.ev qc qr qx kx).cel=0:=Lq.1 k9;rw[J];rfl
    exact ((((hCu L hL).ext ga).st (ma.mono (by simp)))).up (λb hb=>.inl (by simp[hb]))
   refine Qi ?_;have ha:k<p.cs.length:=by have hw:(k:Int)<(p.cs.length:Int):=hK;omega
   have hN:p.cs.take (k+1)=p.cs.take k++[p.cs[k]'ha]:=Le ha;have pn:=hcsz.1 _ (Lc ha);refine Zh (p.cs[k]'ha) λi gz=>?_;rw[gz] at hN pn;have gb:i=(i.toNat:Int):=by omega
   have T:i.toNat<c.cs.length:=by omega
   have hy:=Lc T;have hO:csG c.cel i=(c.cs[i.toNat]'T).k:=by
    show (c.cs.map (·.k)).getD i.toNat ⟨.empty,[],0⟩=_;simp[List.getD,T]
   refine Zh (c.cs[i.toNat]'T) λq hq=>?_;rw[hq] at hy hO;have g0:=k6.cs.each q hy;have po:=k6.cs.nm q hy;have hql:=g0.le;have hcsB:csB c.cel p.co (p.cs.take (k+1))=csB c.cel p.co (p.cs.take k)++[⟨q.nm,JS p.co q.ts,q.bd⟩]:=by
    rw[hN];unfold csB;rw[Lt,Mf,hO];rfl
   have hcsM:csM c.cel p.co (p.cs.take (k+1))=(csM c.cel p.co (p.cs.take k) || mis p.co q.ts):=by
    rw[hN];unfold csM;rw[List.any_append,List.any_cons,List.any_nil,Bool.or_false,hO];rfl
   refine Qg<|Qh<|Qc<|xii (i:=k) (hk.ext gx) O O ha λa90 g2=>?_;rw[gz] at g2;refine x (Qv g2 O)<|Qe<|Qg<|QW (Step [] ho) [(0,true),(1,true),(2,true),(3,true),(4,true),(5,true),(6,true),(7,true),(8,true),(9,true),(10,true),(11,true),(12,true),(13,false),(14,false)] mixed (by rfl) (by kernel_rfl) (Step.drew _ _) ?_
   refine Go.Lg.p (λ_=>Qa O)<|pq (λ_ hc=>Qd (kB210.ext hc) O O)<|Go.Lg.p (λ_=>Qo)<|Go.Lg.pig (g:=Zm) (i:=i.toNat) O Y6 k6.cs.arr O (congrArg (Value.int .i64) gb) T λa140 h140=>?_;rw[hq] at h140
   refine Go.Lg.p (λ_=>Zb O)<|pq (λ_ hc=>Qv ((h140.fld 0 (.string q.nm) O).st hc) O)<|Go.Lg.p (λ_=>Qa O)<|pq (λ_ hc=>Qd (kB210.ext hc) O O)<|Go.Lg.p (λ_=>Qo)<|Go.Lg.pig (g:=Zm) (i:=i.toNat) O Y6 k6.cs.arr O (congrArg (Value.int .i64) gb) T λa146 h146=>?_;rw[hq] at h146
   refine Go.Lg.p (λ_=>Zb O)<|pq (λ_ hc=>Qv ((h146.fld 2 (.int .i64 q.bd) O).st hc) O)<|Go.Lg.p (λ_=>QE ⟨O,O,U⟩)<|pk<|Qt (us:=[.string .empty,nS,.int .i64 0]) O λhe u11 k8 hz kB15=>⟨(Step.drew [] ho).trans k8,?_⟩;refine pkl (hl:=by kernel_rfl)<|Qp (us:=[.string q.nm,nS,.int .i64 q.bd]) kB15 O O O O ⟨O,O,O,U⟩ λhM ga kB15=>pe ?_;have hz:ho.heap.size≤he:=hz
   have hH:Step [] ho hM:=((Step.drew [] ho).trans k8).then1 ga hz;have gy:=gx.trans hH;have k12:=h.ext gy;have kB212:=kB210.ext hH;have kz12:=hH.size;have hl15:=kB15.lt;have pp:=g0.ext hH;refine Qg<|Qc<|x (Qa O)<|x (Qd kB212 O O)<|Qb<|xig (g:=Zm) (i:=i.toNat) Y6 k12.cs.arr O (congrArg (Value.int .i64) gb) T λa102 g3=>?_;rw[hq] at g3
   refine x (Zb O)<|x (Qv (g3.fld 1 q.v O) O)<|x (Qs pp O)<|Qb<|xe ?_;have pt:∀b∈[he,G],w.heap.size≤b:=λb hb=>by simp only[List.mem_cons,List.not_mem_nil,or_false] at hb;omega
   have pu:b3∉[he,G]:=λhb=>by simp only[List.mem_cons,List.not_mem_nil,or_false] at hb;omega
   have hn1510:H∉[he,G]:=λhb=>by simp only[List.mem_cons,List.not_mem_nil,or_false] at hb;omega
   refine Qh<|QA (α:=Nat×Bool×Value) [(22,22),(157,173)] (λz=>[(157,.int .i64 z.1)]) (λz w'=>z.1≤q.ts.length∧Step [he,G] hM w'∧Q4 w'.heap he 127 [.string q.nm,z.2.2,.int .i64 q.bd]∧Q4 w'.heap G 4 [.bool z.2.1] ∧
    w'.ownsRow hM.heap.size 129 2 z.2.2 z.1 ((JS p.co (q.ts.take z.1)).flatMap QX)∧z.2.1=(mk || mis p.co (q.ts.take z.1))) (λz=>q.ts.length - z.1) (by rfl) (0,mk,nS) Z
    ⟨Lj _,Step.refl _ _,kB15,kB1110.ext hH,QM _ _ _ _,by simp[mis]⟩ ?_
   rintro ⟨j,mj,vl⟩ g hG ⟨hj,gc,kB1513,kB1113,kO13,h6⟩;simp only[] at hj kB1513 kB1113 kO13 h6;have ks013:Step [] w hG:=gy.then gc (λb hb=>.inr (pt b hb));have kz13:=gc.size;have h8:=Qn kO13;refine Qc<|x (QB O O)<|xe<|Qg<|QH O (λhP=>?_) (λhP=>?_)
   ·refine Qy ?_;have g4:j=q.ts.length:=by have hw:¬(j:Int)<(q.ts.length:Int):=hP;omega
    rw[g4,MY] at kO13;rw[g4,MY] at h6;have mc:Step [G] ho hG:=(hH.any (L:=[G])).then gc (λb hb=>by
     simp only[List.mem_cons,List.not_mem_nil,or_false] at hb;rcases hb with rfl | rfl
     ·exact .inr hz
     exact .inl (by simp))
    have kB1013:=kB1010.step mc (by simpa using hn10);have kX13:KvN Y.heap.size hG vk kx:=ZV.low kX10 mc (λb hb=>hlt10 b (kz b hb));have kXge:=Qn kX10.own;have pw:(JS p.co q.ts).length=q.ts.length:=Lh ..
    refine Qz<|x (Qa O)<|x (Qd kB1013 O O)<|x (Qr kB1513 O O)<|xl O<|QD (us:=[Zm ⟨q.nm,vl,JS p.co q.ts,q.bd⟩]) O O (by decide) (by simp) ⟨rfl,rfl,U⟩ λb126 u14 ht hb126 kB126 =>
     xl rfl<|Q6 (news:=Zm ⟨q.nm,vl,JS p.co q.ts,q.bd⟩) (L:=[]) (Qq kX13.own ht) O O O (kB126.at (by simp)) (QaR (q:=⟨q.nm,vl,JS p.co q.ts,q.bd⟩) (QJ kO13)) (by omega) (by have:=ht.size;omega) λhQ hf g5 ge pz=>?_
    have kz14:=ht.size;have kX15:KvN Y.heap.size hf hQ (kx++[⟨q.nm,vl,JS p.co q.ts,q.bd⟩]):=ZV.app2 (N:=hM.heap.size) (kX13.ext ht) (by show u14.ownsRow _ _ 2 vl (JS p.co q.ts).length _;rw[pw];exact Qq kO13 ht) (by show (JS p.co q.ts).length≤_;omega) (by omega) (λb hb=>by have:=kXge b hb;omega) g5 ge pz;have p0:H∉ob vk:=λhm=>by have:=(kXge H hm).1;omega
    have p4:G∉ob vk:=λhm=>by have:=(kXge G hm).1;omega
    have ks915:Step [H,G] Y hf:=((hF.trans' (mc.mono kz)).trans ht).then ge (λb hb=>.inr (kXge b hb).1);have kB1015:=(kB1013.ext ht).step ge p0;have kB1115:=(kB1113.ext ht).step ge p4;refine x (Qa O)<|xl O<|QL (j:=4) (u:=hQ) kB1015 O O (by simp) (QJ g5) λu16 g6 kB1016=>xe ?_;refine Qz<|QN O O<|Qb<|xe ?_
    refine ⟨(k+1,mj,hQ,kx++[⟨q.nm,vl,JS p.co q.ts,q.bd⟩]),by simp only[];omega,Z,ha,ks915.trans' (g6.mono ky),kB1016,kB1115.step g6 (by simp only[List.mem_singleton];omega),ZV.low kX15 g6 (λb hb=>hlt10 b (ky b hb)),?_,?_,?_⟩
    ·simp only[];rw[hcsB,Lt,gw];rfl
    ·simp only[];rw[hcsM,h6,k5,Bool.or_assoc]
    intro q' p5;rcases Li.1 p5 with h9' | h9'
    ·exact pj q' h9'
    simp only[List.mem_singleton] at h9';subst h9';exact po
   refine Qi ?_;have hp:j<q.ts.length:=by have hw:(j:Int)<(q.ts.length:Int):=hP;omega
   have hR:q.ts.take (j+1)=q.ts.take j++[q.ts[j]'hp]:=Le hp;have mc:Step [G] ho hG:=(hH.any (L:=[G])).then gc (λb hb=>by
    simp only[List.mem_cons,List.not_mem_nil,or_false] at hb;rcases hb with rfl | rfl
    ·exact .inr hz
    exact .inl (by simp))
   have p6:P2s [] hG.heap q.v q.ts:=(h.ext ks013).cs.each q hy;refine Qg<|Qh<|Qc<|xig (g:=QX) Xz p6 O O hp λa108 g7=>?_;refine Zh (q.ts[j]'hp) λlc p7=>?_;rw[p7] at g7 hR;have p8:JS p.co (q.ts.take (j+1))=JS p.co (q.ts.take j)++[((lwB p.co lc.1:Int),lc.2)]:=by
    rw[hR];unfold JS;rw[Lt];rfl
   have p9:mis p.co (q.ts.take (j+1))=(mis p.co (q.ts.take j) || !decide (lc.1∈p.co)):=by
    rw[hR];unfold mis;rw[List.any_append];simp
   refine x (QF g7 O O)<|xl O<|Qt (us:=[.int .i64 0,.int .i64 0]) O λb22 u14 ht qb kB17=>xl O<|Qp (us:=QX lc) kB17 O O O O ⟨O,O,U⟩ λhf ge kB17=>xe ?_;have hS:Step [] hG hf:=ht.then1 ge qb;have ks015:=ks013.trans hS;have kz15:=hS.size;have kB1515:=kB1513.ext hS;have kB1115:=kB1113.ext hS
   have kB315:Q4 hf.heap b3 95 [v0,v1,v2,v3]:=(((kB310.ext hH).step gc pu)).ext hS;have g8:he∉G::ob vl:=λhb=>by
    rcases Lb.1 hb with rfl | hb
    ·omega
    have:=(h8 he hb).1;omega
   have g9:b22∉G::ob vl:=λhb=>by
    rcases Lb.1 hb with rfl | hb
    ·omega
    have:=(h8 b22 hb).2;omega
   have ka:G∉ob vl:=λhb=>by have:=(h8 G hb).1;omega
   have qj:he∉ob vl:=λhb=>g8 (Lm _ hb);refine QW (Step (G::ob vl) hf) [(0,true),(1,true),(2,true),(3,true),(4,true),(6,true),(7,true),(5,false),(8,true),(9,false),(10,false),(11,true),(12,false)] mixed (by rfl) (by kernel_rfl) (Step.drew _ _) ?_;have mf:Step [] hf { hf with drawn:=hf.drawn+1 }:=Step.drew _ _
   have hzd:({ hf with drawn:=hf.drawn+1 }:World).heap.size=hf.heap.size:=rfl
   refine Go.Lg.p (λ_=>Qa O)<|pq (λ_ hc=>Qd (kB1515.step hc g8) O O)<|Go.Lg.p (λ_=>Qo)<|Go.Lg.p (λ_=>Qa O)<|pq (λ_ hc=>Qd (kB17.step hc g9) O O) <|
    Go.Lg.p (λ_=>Qa O)<|pq (λ_ hc=>Qd (kB17.step hc g9) O O)<|pk<|xc (first:=[]) (capt:=[.pointer (some ⟨b3,0,none⟩),.pointer (some ⟨G,0,none⟩)]) O<|(qg (kB315.ext mf) (kB1115.ext mf) (hc.ext (ks015.trans mf)) gs.2.1 lc.1).mono ?_
   rintro r16 u16 ⟨g6,rfl,kB1116⟩;have mg:=mf.any.trans' g6;have kz16:=mg.size;have hT:∀b∈[G],b∈G::ob vl:=λb hb=>by simp only[List.mem_singleton] at hb;simp[hb]
   refine ⟨mg.mono hT,?_⟩;refine Go.Lg.p (λ_=>QE ⟨O,O,U⟩)<|pk<|QD (us:=[QX ((lwB p.co lc.1:Int),lc.2)]) O O (by decide) (by simp) ⟨rfl,rfl,U⟩ λb119 u17 qk hb119 gt=>⟨(mg.trans qk).mono hT,?_⟩;have kb:=mg.trans qk
   have kO17:u17.ownsRow hM.heap.size 129 2 vl j ((JS p.co (q.ts.take j)).flatMap QX):=Qk (Qq kO13 hS) kb (λb hb hm=>by simp only[List.mem_singleton] at hm;subst hm;exact ka hb);have kz17:=kb.size;refine pk<|Q6 (news:=QX ((lwB p.co lc.1:Int),lc.2)) (L:=[]) kO17 O O O (gt.at (by simp)) (λu hu=>by
    simp only[List.mem_cons,List.not_mem_nil,or_false] at hu;rcases hu with rfl | rfl <;> rfl) (by omega) (by omega) λkc u18 hU mh hn18=>⟨(kb.mono hT).trans' (mh.mono (λb hb=>Lm _ hb)),?_⟩
   have kB1518:=((kB1515.step kb (by simp only[List.mem_singleton];omega))).step mh qj;have kB1118:=(kB1116.ext qk).step mh ka;refine Go.Lg.p (λ_=>Qa O)<|pkl (hl:=by kernel_rfl)<|QL (j:=1) (u:=kc) kB1518 O O (by simp) (QJ hU) λu19 qo kB1519=>pe ?_;refine Qz<|QN O O<|Qb<|xe ?_;have za:∀b∈[G],b∈[he,G]:=λb hb=>by simp only[List.mem_singleton] at hb;simp[hb]
   have z0:∀b∈[he],b∈[he,G]:=λb hb=>by simp only[List.mem_singleton] at hb;simp[hb]
   have ks1218:Step [he,G] hM u18:=((gc.trans hS).trans' (kb.mono za)).then mh (λb hb=>.inr (h8 b hb).1);refine ⟨(j+1,mj || !decide (lc.1∈p.co),kc),by simp only[];omega,Z,hp,ks1218.trans' (qo.mono z0),kB1519,kB1118.step qo (by simp only[List.mem_singleton];omega),?_,?_⟩
   ·simp only[];rw[p8,LA];have:=Qk hU qo (λb hb=>by
     simp only[List.mem_singleton];have:=(Qn hU b hb).1;omega)
    simpa using this
   simp only[];rw[p9,h6,Bool.or_assoc]
  refine Qi ?_;have ha:k<p.ex.length:=by have hw:(k:Int)<(p.ex.length:Int):=hK;omega
  have hN:p.ex.take (k+1)=p.ex.take k++[p.ex[k]'ha]:=Le ha;have pn:=hexz.1 _ (Lc ha);refine Zh (p.ex[k]'ha) λi gz=>?_;rw[gz] at hN pn;have gb:i=(i.toNat:Int):=by omega
  have T:i.toNat<c.ex.length:=by omega
  have hy:=Lc T;have hO:exG c.cel i=(c.ex[i.toNat]'T).x:=by
   show (c.ex.map (·.x)).getD i.toNat ⟨.empty,[]⟩=_;simp[List.getD,T]
  refine Zh (c.ex[i.toNat]'T) λq hq=>?_;rw[hq] at hy hO;have g0:=pc.ex.each q hy;have po:=pc.ex.nm q hy;have hql:=g0.le;have hexB:exB c.cel p.co (p.ex.take (k+1))=exB c.cel p.co (p.ex.take k)++[⟨q.nm,JS p.co q.ls⟩]:=by
   rw[hN];unfold exB;rw[Lt,Mf,hO];rfl
  have hexM:exM c.cel p.co (p.ex.take (k+1))=(exM c.cel p.co (p.ex.take k) || mis p.co q.ls):=by
   rw[hN];unfold exM;rw[List.any_append,List.any_cons,List.any_nil,Bool.or_false,hO];rfl
  refine Qg<|Qh<|Qc<|xii (i:=k) (hx.ext gv) O O ha λa90 g2=>?_;rw[gz] at g2;refine x (Qv g2 O)<|Qe<|Qc<|x (Qa O)<|x (Qd pd O O)<|Qb<|xig (g:=Zr) (i:=i.toNat) Xx pc.ex.arr O (congrArg (Value.int .i64) gb) T λa95 h95=>?_;rw[hq] at h95;refine x (Zb O)<|x (Qv (h95.fld 0 (.string q.nm) O) O)<|x (QE Z)<|xl O<|Qt (us:=[.string .empty,nS]) O λhg w11 z2 hz mn =>
   xl rfl<|Qp (us:=[.string q.nm,nS]) mn O O O O ⟨O,O,U⟩ λgg hs12 mn=>xe ?_
  have hI:Step [] Y gg:=z2.then1 hs12 hz;have hs012:=gv.trans hI;have h12:=h.ext hs012;have hB212:=pd.ext hI;have hz12:=hI.size;have hl15:=mn.lt;have pp:=g0.ext hI;refine Qg<|Qc<|x (Qa O)<|x (Qd hB212 O O)<|Qb<|xig (g:=Zr) (i:=i.toNat) Xx h12.ex.arr O (congrArg (Value.int .i64) gb) T λa102 g3=>?_;rw[hq] at g3
  refine x (Zb O)<|x (Qv (g3.fld 1 q.v O) O)<|x (Qs pp O)<|Qb<|xe ?_;have pt:∀b∈[hg,G],w.heap.size≤b:=λb hb=>by simp only[List.mem_cons,List.not_mem_nil,or_false] at hb;omega
  have pu:b3∉[hg,G]:=λhb=>by simp only[List.mem_cons,List.not_mem_nil,or_false] at hb;omega
  have hn1510:H∉[hg,G]:=λhb=>by simp only[List.mem_cons,List.not_mem_nil,or_false] at hb;omega
  refine Qh<|QA (α:=Nat×Bool×Value) [(17,17),(106,122)] (λz=>[(106,.int .i64 z.1)]) (λz w'=>z.1≤q.ls.length∧Step [hg,G] gg w'∧Q4 w'.heap hg 122 [.string q.nm,z.2.2]∧Q4 w'.heap G 4 [.bool z.2.1] ∧
   w'.ownsRow gg.heap.size 124 2 z.2.2 z.1 ((JS p.co (q.ls.take z.1)).flatMap QX)∧z.2.1=(mi || mis p.co (q.ls.take z.1))) (λz=>q.ls.length - z.1) (by rfl) (0,mi,nS) Z
   ⟨Lj _,Step.refl _ _,mn,gt.ext hI,QM _ _ _ _,by simp[mis]⟩ ?_
  rintro ⟨j,mj,vl⟩ g gh ⟨hj,gi,z3,z4,gj,h6⟩;simp only[] at hj z3 z4 gj h6;have hs013:Step [] w gh:=hs012.then gi (λb hb=>.inr (pt b hb));have hz13:=gi.size;have h8:=Qn gj;refine Qc<|x (QB O O)<|xe<|Qg<|QH O (λhP=>?_) (λhP=>?_)
  ·refine Qy ?_;have g4:j=q.ls.length:=by have hw:¬(j:Int)<(q.ls.length:Int):=hP;omega
   rw[g4,MY] at gj;rw[g4,MY] at h6;have mo:Step [G] Y gh:=(hI.any (L:=[G])).then gi (λb hb=>by
    simp only[List.mem_cons,List.not_mem_nil,or_false] at hb;rcases hb with rfl | rfl
    ·exact .inr hz
    exact .inl (by simp))
   have hB1013:=m9.step mo (by simpa using hn10);have hX13:XvN w9.heap.size gh vx qx:=ZV.low k0 mo (λb hb=>kw b (kz b hb));have mq:=Qn k0.own;have pw:(JS p.co q.ls).length=q.ls.length:=Lh ..
   refine Qz<|x (Qa O)<|x (Qd hB1013 O O)<|x (Qr z3 O O)<|xl O<|QD (us:=[Zr ⟨q.nm,vl,JS p.co q.ls⟩]) O O (by decide) (by simp) ⟨rfl,rfl,U⟩ λb126 w14 hv hb126 hB126 =>
    xl rfl<|Q6 (news:=Zr ⟨q.nm,vl,JS p.co q.ls⟩) (L:=[]) (Qq hX13.own hv) O O O (hB126.at (by simp)) (Qaj (q:=⟨q.nm,vl,JS p.co q.ls⟩) (QJ gj)) (by omega) (by have:=hv.size;omega) λhQ hh g5 gk pz=>?_
   have hz14:=hv.size;have hX15:XvN w9.heap.size hh hQ (qx++[⟨q.nm,vl,JS p.co q.ls⟩]):=ZV.app2 (N:=gg.heap.size) (hX13.ext hv) (by show w14.ownsRow _ _ 2 vl (JS p.co q.ls).length _;rw[pw];exact Qq gj hv) (by show (JS p.co q.ls).length≤_;omega) (by omega) (λb hb=>by have:=mq b hb;omega) g5 gk pz;have p0:H∉ob vx:=λhm=>by have:=(mq H hm).1;omega
   have p4:G∉ob vx:=λhm=>by have:=(mq G hm).1;omega
   have hs915:Step [H,G] w9 hh:=((hJ.trans' (mo.mono kz)).trans hv).then gk (λb hb=>.inr (mq b hb).1);have hB1015:=(hB1013.ext hv).step gk p0;have z5:=(z4.ext hv).step gk p4;refine x (Qa O)<|xl O<|QL (j:=3) (u:=hQ) hB1015 O O (by simp) (QJ g5) λw16 ke hB1016=>xe ?_;refine Qz<|QN O O<|Qb<|xe ?_
   refine ⟨(k+1,mj,hQ,qx++[⟨q.nm,vl,JS p.co q.ls⟩]),by simp only[];omega,Z,ha,hs915.trans' (ke.mono ky),hB1016,z5.step ke (by simp only[List.mem_singleton];omega),ZV.low hX15 ke (λb hb=>kw b (ky b hb)),?_,?_,?_⟩
   ·simp only[];rw[hexB,Lt,gu];rfl
   ·simp only[];rw[hexM,h6,k4]
   intro q' p5;rcases Li.1 p5 with h9' | h9'
   ·exact pa q' h9'
   simp only[List.mem_singleton] at h9';subst h9';exact po
  refine Qi ?_;have hp:j<q.ls.length:=by have hw:(j:Int)<(q.ls.length:Int):=hP;omega
  have hR:q.ls.take (j+1)=q.ls.take j++[q.ls[j]'hp]:=Le hp;have mo:Step [G] Y gh:=(hI.any (L:=[G])).then gi (λb hb=>by
   simp only[List.mem_cons,List.not_mem_nil,or_false] at hb;rcases hb with rfl | rfl
   ·exact .inr hz
   exact .inl (by simp))
  have p6:P2s [] gh.heap q.v q.ls:=(h.ext hs013).ex.each q hy;refine Qg<|Qh<|Qc<|xig (g:=QX) Xz p6 O O hp λa108 g7=>?_;refine Zh (q.ls[j]'hp) λlc p7=>?_;rw[p7] at g7 hR;have p8:JS p.co (q.ls.take (j+1))=JS p.co (q.ls.take j)++[((lwB p.co lc.1:Int),lc.2)]:=by
   rw[hR];unfold JS;rw[Lt];rfl
  have p9:mis p.co (q.ls.take (j+1))=(mis p.co (q.ls.take j) || !decide (lc.1∈p.co)):=by
   rw[hR];unfold mis;rw[List.any_append];simp
  refine x (QF g7 O O)<|xl O<|Qt (us:=[.int .i64 0,.int .i64 0]) O λb17 w14 hv qb mu=>xl O<|Qp (us:=QX lc) mu O O O O ⟨O,O,U⟩ λhh gk mu=>xe ?_;have hV:Step [] gh hh:=hv.then1 gk qb;have hs015:=hs013.trans hV;have hz15:=hV.size;have hB1515:=z3.ext hV;have z5:=z4.ext hV
  have hB315:Q4 hh.heap b3 95 [v0,v1,v2,v3]:=(((pf.ext hI).step gi pu)).ext hV;have g8:hg∉G::ob vl:=λhb=>by
   rcases Lb.1 hb with rfl | hb
   ·omega
   have:=(h8 hg hb).1;omega
  have g9:b17∉G::ob vl:=λhb=>by
   rcases Lb.1 hb with rfl | hb
   ·omega
   have:=(h8 b17 hb).2;omega
  have ka:G∉ob vl:=λhb=>by have:=(h8 G hb).1;omega
  have qj:hg∉ob vl:=λhb=>g8 (Lm _ hb);refine QW (Step (G::ob vl) hh) [(0,true),(1,true),(2,true),(3,true),(4,true),(6,true),(7,true),(5,false),(8,true),(9,false),(10,false),(11,true),(12,false)] mixed (by rfl) (by kernel_rfl) (Step.drew _ _) ?_;have mv:Step [] hh { hh with drawn:=hh.drawn+1 }:=Step.drew _ _
  have hzd:({ hh with drawn:=hh.drawn+1 }:World).heap.size=hh.heap.size:=rfl
  refine Go.Lg.p (λ_=>Qa O)<|pq (λ_ hc=>Qd (hB1515.step hc g8) O O)<|Go.Lg.p (λ_=>Qo)<|Go.Lg.p (λ_=>Qa O)<|pq (λ_ hc=>Qd (mu.step hc g9) O O) <|
   Go.Lg.p (λ_=>Qa O)<|pq (λ_ hc=>Qd (mu.step hc g9) O O)<|pk<|xc (first:=[]) (capt:=[.pointer (some ⟨b3,0,none⟩),.pointer (some ⟨G,0,none⟩)]) O<|(qg (hB315.ext mv) (z5.ext mv) (hc.ext (hs015.trans mv)) gs.2.1 lc.1).mono ?_
  rintro r16 w16 ⟨ke,rfl,hB1116⟩;have mw:=mv.any.trans' ke;have hz16:=mw.size;have hT:∀b∈[G],b∈G::ob vl:=λb hb=>by simp only[List.mem_singleton] at hb;simp[hb]
  refine ⟨mw.mono hT,?_⟩;refine Go.Lg.p (λ_=>QE ⟨O,O,U⟩)<|pk<|QD (us:=[QX ((lwB p.co lc.1:Int),lc.2)]) O O (by decide) (by simp) ⟨rfl,rfl,U⟩ λb119 w17 z9 hb119 ku=>⟨(mw.trans z9).mono hT,?_⟩;have kf:=mw.trans z9
  have hO17:w17.ownsRow gg.heap.size 124 2 vl j ((JS p.co (q.ls.take j)).flatMap QX):=Qk (Qq gj hV) kf (λb hb hm=>by simp only[List.mem_singleton] at hm;subst hm;exact ka hb);have hz17:=kf.size;refine pk<|Q6 (news:=QX ((lwB p.co lc.1:Int),lc.2)) (L:=[]) hO17 O O O (ku.at (by simp)) (λu hu=>by
   simp only[List.mem_cons,List.not_mem_nil,or_false] at hu;rcases hu with rfl | rfl <;> rfl) (by omega) (by omega) λkc w18 hU my hn18=>⟨(kf.mono hT).trans' (my.mono (λb hb=>Lm _ hb)),?_⟩
  have hB1518:=((hB1515.step kf (by simp only[List.mem_singleton];omega))).step my qj;have hB1118:=(hB1116.ext z9).step my ka;refine Go.Lg.p (λ_=>Qa O)<|pkl (hl:=by kernel_rfl)<|QL (j:=1) (u:=kc) hB1518 O O (by simp) (QJ hU) λw19 hs19 hB1519=>pe ?_;refine Qz<|QN O O<|Qb<|xe ?_;have za:∀b∈[G],b∈[hg,G]:=λb hb=>by simp only[List.mem_singleton] at hb;simp[hb]
  have z0:∀b∈[hg],b∈[hg,G]:=λb hb=>by simp only[List.mem_singleton] at hb;simp[hb]
  have hs1218:Step [hg,G] gg w18:=((gi.trans hV).trans' (kf.mono za)).then my (λb hb=>.inr (h8 b hb).1);refine ⟨(j+1,mj || !decide (lc.1∈p.co),kc),by simp only[];omega,Z,hp,hs1218.trans' (hs19.mono z0),hB1519,hB1118.step hs19 (by simp only[List.mem_singleton];omega),?_,?_⟩
  ·simp only[];rw[p8,LA];have:=Qk hU hs19 (λb hb=>by
    simp only[List.mem_singleton];have:=(Qn hU b hb).1;omega)
   simpa using this
  simp only[];rw[p9,h6,Bool.or_assoc]
 refine Qi ?_;have gl:k<I.length:=by have hw:(k:Int)<(I.length:Int):=m3;omega
 have hmem:=Lc gl;have hdr:I.drop k=I[k]'gl::I.drop (k+1):=LH gl;refine Qg<|Qh<|Qc<|xig (g:=skC) QhC (hA54.ext hA) O O gl λa58 h58=>?_;refine Zh (I[k]'gl) λq hq=>?_;rw[hq] at h58 hmem hdr;have hqi:=hl4i q hmem;rw[hdr,show q=(q.1,q.2.1,q.2.2) from rfl,ck4] at hC
 refine x (QF h58 O O)<|xl O<|Qt (us:=[nS,.int .i64 0]) O λb8 w8 hX hb8 mz=>xl O<|Qp (us:=skC q) mz O O O O ⟨hqi.one,O,U⟩ λw9 m8 mz=>xe ?_;have hD:Step [] V w9:=hX.then1 m8 hb8;have hZ:=gr.trans hD;refine Qc<|x (Qa O)<|x (Qd mz O O)<|x (Qa O)<|x (Qd mz O O)<|xl O<|xf<|(jd (hqi.ext hZ) q.2.2).mono ?_;rintro r10 Y ⟨rfl,rfl⟩;refine Qe<|Qc<|Qb<|x (Q9 O O)<|xe ?_
 refine Q7 rfl (λkg=>?_) (λkg=>?_)
 ·rw[if_pos kg] at hC;have hne:ck4 I≠0:=by rw[←hC];exact kg
  rw[if_pos hne,←hC] at S;subst S;have pg:Q4 Y.heap b4 47 Z5:=((m2.ext hW).ext hA).ext hD;refine Qc<|x (QE U)<|Qb<|xl O<|Qp (us:=Z5) pg O O O O ⟨O,O,O,O,O,U⟩ λw11 z2 hB411=>Qe ?_
  exact Qm ⟨[.agg Z5.toArray,.int .i64 (Xi q.2.2 none q.2.1)],⟨⟨_,O,Qx O (hB411.at (L:=[]) (by simp)).cells⟩,rfl,U⟩,hZ.then1 z2 (by omega),Z5,rfl,rfl,⟨rfl,rfl,rfl,rfl,rfl,U⟩,λ_=>rfl,λJ=>absurd J kg⟩
 rw[if_neg kg] at hC;refine Qi<|Qz<|QN O O<|Qb<|xe ?_;exact ⟨k+1,by omega,Z,gl,hA.trans hD,hC⟩
theorem z1 (n:Nat):(1:Int)*(2:Int) ^ n=((1 <<< n:Nat):Int):=by
 rw[Nat.shiftLeft_eq,Nb,Int.one_mul,Int.natCast_pow];rfl
theorem Jk {n:Nat}(h:n<16):1 <<< n<65536:=by
 rw[Nat.shiftLeft_eq,Nb];exact Nat.pow_lt_pow_right (by decide) h
theorem jF {b k:Nat}(hb:b<65536) (hk:k<16):orB b k<65536:=QaC hb (Jk hk)
theorem Qgt {n:Nat}(h:n<16):inK .u16 ((1:Int)*(2:Int) ^ n):=by
 rw[z1];have h1:=Jk h;generalize 1 <<< n=m at h1;exact ⟨by omega,by omega⟩
theorem Qc8 {x:XT}:∀(l:List XT) (k b:Nat),b<65536→k+l.length≤16→rqB x k b l<65536
 | [],_,_,hb,_=>hb
 | y::l,k,b,hb,hk=>by
  rw[rqB];refine Qc8 l _ _ ?_ (by simp at hk;omega);by_cases h:(y.a.al.any λe=>decide (e∈x.a.al))=true
  ·rw[if_pos h];exact jF hb (by simp at hk;omega)
  rw[if_neg h];exact hb
theorem ye (ls:List (Int×Int)) (l:Int×Int):prB (ls++[l])=orB (prB ls) l.1.toNat:=by
 unfold prB;rw[Md];rfl
theorem zb:∀(ls:List (Int×Int)),(∀l∈ls,0≤l.1∧l.1<16)→prB ls<65536:=by
 intro ls;unfold prB;have key:∀(ls:List (Int×Int)) (b:Nat),b<65536→(∀l∈ls,0≤l.1∧l.1<16)→ls.foldl (λb l=>orB b l.1.toNat) b<65536:=by
  intro ls;induction ls with
  | nil=>intro b hb _;exact hb
  | cons l ls ih =>
   intro b hb h;exact ih _ (jF hb (by have:=h l Ls;omega)) (λl' hl=>h l' (Lm _ hl))
 exact key ls 0 (by decide)
theorem zn (m:Nat) (hm:m<65536) (w:World):QI prog 65 [.int .u16 m] w λr w'=>Step [] w w'∧Qu 3 w.heap.size w' r (setK m 8):=by
 refine QI.of_W func65 O ntmps65 results65 (by simp) ?_;refine Qc<|Qe<|Qc<|Qe<|Qg<|Qc<|Qb<|xe<|Qh<|QA (α:=Nat×Value) [(3,17)] (λz=>[(3,z.2),(5,.int .i64 z.1)]) (λz w'=>z.1≤8∧Step [] w w'∧Qu 3 w.heap.size w' z.2 (setK m z.1)) (λz=>8 - z.1) (by rfl) (0,nS) ⟨O,O,U⟩
  ⟨Lj _,Step.refl _ _,QM _ _ _ _⟩ ?_
 rintro ⟨k,v⟩ g w1 ⟨hk,G,E⟩;simp only[] at hk E;have hg:=Jl m k;have hh:=G.size;refine Qc<|x (QB O O)<|xe<|Qg<|QH O (λT=>?_) (λT=>?_)
 ·refine Qy<|Qc<|Qb<|Qe ?_;have V:k=8:=by omega
  rw[V] at E;exact Qm ⟨[v],Z,G,E⟩
 have J:k<8:=by omega
 have Y:m / 2 ^ k<65536:=Nat.lt_of_le_of_lt (Nat.div_le_self _ _) hm;have H:=qf m k;refine Qi<|Qg<|Qh<|Qc<|Qb<|Qe<|Qc<|Qb<|Qb<|x (Qav (n:=k) O O (by show k≤16;omega))<|x (Qay (a:=m / 2 ^ k) (b:=1) (congrArg (Value.int .u16) (QfH m k)) O Y (by decide))<|x (Q5 O O)<|xe<|QH rfl (λS=>?_) (λS=>?_)
 ·rw[if_neg (λe=>S (by rw[e];rfl))] at H;refine Qi<|Qz<|QN O O<|Qb<|xe ?_;exact ⟨(k+1,v),by simp only[];omega,⟨O,O,U⟩,J,G,by simp only[];rw[H];exact E⟩
 rw[if_pos (by omega)] at H;refine Qz<|Qb<|Qb<|xl O<|QD (us:=[[.int .i64 k]]) O O (by decide) (by simp) ⟨rfl,rfl,U⟩ λhi w2 I hj ha=>?_;have hc:=Qq E I;have hl:=I.size;refine xl rfl<|Q6 (news:=[.int .i64 k]) (L:=[]) hc O O O (ha.at (by simp)) (by simp[Value.oneCell']) (by omega) (by omega) λv3 w3 he hf hn =>
  Qe ?_
 have hge:=Qn E;refine Qz<|QN O O<|Qb<|xe<|⟨(k+1,v3),by simp only[];omega,⟨O,O,U⟩,J,(G.trans I).then hf (λb hb=>.inr (hge b hb).1),?_⟩;simp only[];rw[H];exact Qu.snoc he
theorem Qc0 {w:World}{c:CL}{E G i:Nat}(J:Q4 w.heap E 47 c.cells) (S:Q4 w.heap G 3 [.int .i64 i]) (hc:ZB [] w.heap c) {q:IV}(hi:c.rq[i]?=some q) (e:Int) :
  QI prog 136 [.int .i64 e,.pointer (some ⟨E,0,none⟩),.pointer (some ⟨G,0,none⟩)] w λr w'=>r=.bool (decide (e∈q.p.a.al))∧Step [] w w':=by
 obtain ⟨H,hq⟩:=LY.1 hi;have T:=hc.rq.each q (hq ▸ Lc H);refine QI.of_W func136 O ntmps136 results136 (by simp) ?_;refine Qc<|Qe<|Qc<|x (Qa O)<|x (Qd J O O)<|x (Qd S O O)<|xig (g:=Za) (i:=i) Yz hc.rq.arr O O H λV I=>?_;rw[hq] at I;refine x (Zb O)<|x (Zb O)<|x (Qv ((I.fld 1 q.p.va O)) O)<|Qb<|xl O<|xf<|(ZR T.al e).mono ?_
 rintro Y w1 ⟨rfl,rfl⟩;refine Qe ?_;exact Qm ⟨[_],Z,O,Step.refl _ _⟩
theorem QfD {w:World}{c:CL}{T i:Nat}(hg:Q4 w.heap T 47 c.cells) (hc:ZB [] w.heap c) (h8:c.co.length≤8) {q:IV}(hi:c.rq[i]?=some q) :
  QI prog 134 [.int .i64 i,.pointer (some ⟨T,0,none⟩)] w λr w'=>r=.int .u16 (rqB q.it 0 0 c.cel.co)∧Step [] w w':=by
 refine QI.of_W func134 O ntmps134 results134 (by simp) ?_;refine Qc<|xl O<|QQ (us:=[.int .i64 i]) O λb2 w1 V hw hn=>Qe<|Qc<|Qe<|Qg<|Qc<|x (Qa O)<|x (Qd (hg.ext V) O O)<|x (Qs (hc.ext V).co.arr O)<|Qb<|xe ?_
 refine Qh<|QA (α:=Nat×Nat) [(4,6),(10,24)] (λz=>[(4,.int .u16 z.2),(10,.int .i64 z.1)]) (λz w'=>z.1≤c.co.length∧Step [] w1 w'∧z.2<65536∧rqB q.it z.1 z.2 ((c.co.drop z.1).map (·.it))=rqB q.it 0 0 c.cel.co) (λz=>c.co.length - z.1) (by rfl) (0,0) ⟨O,O,U⟩
  ⟨Lj _,Step.refl _ _,by decide,O⟩ ?_
 rintro ⟨k,b⟩ g w2 ⟨hk,J,hb,E⟩;simp only[] at hk hb E;have Y:=V.trans J;have h2:=hc.ext Y;refine Qc<|x (QB O O)<|xe<|Qg<|QH O (λha=>?_) (λha=>?_)
 ·refine Qy ?_;have ho:c.co.length≤k:=by have hp:¬(k:Int)<(c.co.length:Int):=ha;omega
  rw[Lp ho] at E;have hq:b=rqB q.it 0 0 c.cel.co:=E;refine Qc<|Qb<|Qe ?_;exact Qm ⟨[.int .u16 b],Z,by rw[hq];rfl,Y⟩
 have G:k<c.co.length:=by have hp:(k:Int)<(c.co.length:Int):=ha;omega
 have hh:=Lc G;rw[Xs G,rqB] at E;refine Qi<|Qg<|Qh<|Qc<|Qb<|xig (g:=Za) (i:=k) Yz h2.co.arr O O G λhz hj=>?_;refine Zh (c.co[k]'G) λy hy=>?_;rw[hy] at hj hh E;have S:=h2.co.each y hh;refine x (QF hj O O)<|xl O<|Qt (us:=[.string .empty,nS,.int .i64 0,nS,nS]) O λb6 w3 hs ht he=>x Qf <|
  xl rfl<|Qp (us:=Za y) he O O O O ⟨O,S.al.one,O,S.mr.one,S.ed.one,U⟩ λw4 hu he=>xe ?_
 have I:Step [] w2 w4:=hs.then1 hu ht;have hl:=Y.trans I;refine Qc<|x (Qa O)<|x (Qa O)<|x (Qd he O O)<|x (Zp (l:=[]) (l':=[_,_]))<|xl O<|xf<|(Qbd (q:=λe=>decide (e∈q.p.a.al)) (cap:=[.pointer (some ⟨T,0,none⟩),.pointer (some ⟨b2,0,none⟩)]) (S.al.ext I)
  (λe w5 H=>Qc0 ((hg.ext hl).ext H) ((hn.ext (J.trans I)).ext H) ((hc.ext hl).ext H) hi e)).mono ?_
 rintro r5 w5 ⟨rfl,H⟩;refine xe<|Q2 rfl (λhf=>?_) (λhf=>?_)
 ·rw[if_pos (by exact hf)] at E;refine Qz<|Qb<|Qb<|x (Qaw (n:=k) O O (by show k≤16;omega) (Qgt (by omega)))<|x (qZ (a:=b) (b:=1 <<< k) O (congrArg (Value.int .u16) (z1 k)) hb (Jk (by omega)))<|Qe<|Qz<|QN O O<|Qb<|xe ?_;exact ⟨(k+1,orB b k),by simp only[];omega,⟨O,O,U⟩,G,(J.trans I).trans H,jF hb (by omega),E⟩
 rw[if_neg (by intro h0;have hv:(y.p.a.al.any λe=>decide (e∈q.p.a.al))=false:=hf;have hm:(y.p.a.al.any λe=>decide (e∈q.p.a.al))=true:=h0;rw[hv] at hm;cases hm)] at E;refine Qi<|Qz<|QN O O<|Qb<|xe ?_;exact ⟨(k+1,b),by simp only[];omega,⟨O,O,U⟩,G,(J.trans I).trans H,hb,E⟩
theorem QfC {w:World}{c:CL}{T i:Nat}(hf:Q4 w.heap T 47 c.cells) (hc:ZB [] w.heap c) {q:XV}(hi:c.ex[i]?=some q) (hm:∀l∈q.ls,0≤l.1∧l.1<16) :
  QI prog 137 [.int .i64 i,.pointer (some ⟨T,0,none⟩)] w λr w'=>r=.int .u16 (prB q.ls)∧Step [] w w':=by
 obtain ⟨V,hq⟩:=LY.1 hi;have H:=hc.ex.each q (hq ▸ Lc V);have ht:=H.le;refine QI.of_W func137 O ntmps137 results137 (by simp) ?_;refine Qc<|Qe<|Qc<|Qe<|Qg<|Qc<|x (Qa O)<|x (Qd hf O O)<|Qb<|xig (g:=Zr) (i:=i) Xx hc.ex.arr O O V λhu Y=>?_;rw[hq] at Y;refine x (Zb O)<|x (Qv (Y.fld 1 q.v O) O)<|x (Qs H O)<|Qb<|xe ?_
 refine Qh<|QA (α:=Nat×Nat) [(4,4),(6,6),(14,23)] (λz=>[(4,.int .u16 z.2),(14,.int .i64 z.1)]) (λz w'=>z.1≤q.ls.length∧Step [] w w'∧z.2=prB (q.ls.take z.1)) (λz=>q.ls.length - z.1) (by rfl) (0,0) ⟨O,O,U⟩
  ⟨Lj _,Step.refl _ _,O⟩ ?_
 rintro ⟨k,b⟩ g w1 ⟨hk,I,hb⟩;simp only[] at hk hb;have hg:b<65536:=by rw[hb];exact zb _ (λl hl=>hm l (LW hl))
 refine Qc<|x (QB O O)<|xe<|Qg<|QH O (λJ=>?_) (λJ=>?_)
 ·refine Qy ?_;have hh:q.ls.length≤k:=by have G:¬(k:Int)<(q.ls.length:Int):=J;omega
  rw[Ll hh] at hb;refine Qc<|Qb<|Qe ?_;exact Qm ⟨[.int .u16 b],Z,by rw[hb];rfl,I⟩
 have E:k<q.ls.length:=by have G:(k:Int)<(q.ls.length:Int):=J;omega
 have ha:q.ls.take (k+1)=q.ls.take k++[q.ls[k]'E]:=Le E;have hj:=hm _ (Lc E);refine Qi<|Qg<|Qh<|Qc<|xig (g:=QX) Xz (H.ext I) O O E λhv G=>?_;refine Zh (q.ls[k]'E) λl hl=>?_;rw[hl] at G ha hj;have hn:l.1=(l.1.toNat:Int):=by omega
 have he:l.1.toNat<16:=by omega
 refine x (QF G O O)<|xl O<|Qt (us:=[.int .i64 0,.int .i64 0]) O λb6 w2 ho hp S=>xl O<|Qp (us:=QX l) S O O O O ⟨O,O,U⟩ λw3 hr S =>
  xe ?_
 have hs:Step [] w1 w3:=ho.then1 hr hp;refine Qz<|Qb<|x (Qa O)<|x (Qd S O O)<|x (Qaw (n:=l.1.toNat) O (congrArg (Value.int .i64) hn) (by show l.1.toNat≤16;omega) (Qgt he))<|x (qZ (a:=b) (b:=1 <<< l.1.toNat) O (congrArg (Value.int .u16) (z1 _)) hg (Jk he))<|Qe<|Qz<|QN O O<|Qb<|xe ?_
 exact ⟨(k+1,orB b l.1.toNat),by simp only[];omega,⟨O,O,U⟩,E,I.trans hs,by simp only[];rw[ha,ye,hb]⟩
theorem QfB {w:World}{c:CL}{T i:Nat}(hf:Q4 w.heap T 47 c.cells) (hc:ZB [] w.heap c) {q:KV}(hi:c.cs[i]?=some q) (hm:∀l∈q.ts,0≤l.1∧l.1<16) :
  QI prog 138 [.int .i64 i,.pointer (some ⟨T,0,none⟩)] w λr w'=>r=.int .u16 (prB q.ts)∧Step [] w w':=by
 obtain ⟨V,hq⟩:=LY.1 hi;have H:=hc.cs.each q (hq ▸ Lc V);have ht:=H.le;refine QI.of_W func138 O ntmps138 results138 (by simp) ?_;refine Qc<|Qe<|Qc<|Qe<|Qg<|Qc<|x (Qa O)<|x (Qd hf O O)<|Qb<|xig (g:=Zm) (i:=i) Y6 hc.cs.arr O O V λhu Y=>?_;rw[hq] at Y;refine x (Zb O)<|x (Qv (Y.fld 1 q.v O) O)<|x (Qs H O)<|Qb<|xe ?_
 refine Qh<|QA (α:=Nat×Nat) [(4,4),(6,6),(14,23)] (λz=>[(4,.int .u16 z.2),(14,.int .i64 z.1)]) (λz w'=>z.1≤q.ts.length∧Step [] w w'∧z.2=prB (q.ts.take z.1)) (λz=>q.ts.length - z.1) (by rfl) (0,0) ⟨O,O,U⟩
  ⟨Lj _,Step.refl _ _,O⟩ ?_
 rintro ⟨k,b⟩ g w1 ⟨hk,I,hb⟩;simp only[] at hk hb;have hg:b<65536:=by rw[hb];exact zb _ (λl hl=>hm l (LW hl))
 refine Qc<|x (QB O O)<|xe<|Qg<|QH O (λJ=>?_) (λJ=>?_)
 ·refine Qy ?_;have hh:q.ts.length≤k:=by have G:¬(k:Int)<(q.ts.length:Int):=J;omega
  rw[Ll hh] at hb;refine Qc<|Qb<|Qe ?_;exact Qm ⟨[.int .u16 b],Z,by rw[hb];rfl,I⟩
 have E:k<q.ts.length:=by have G:(k:Int)<(q.ts.length:Int):=J;omega
 have ha:q.ts.take (k+1)=q.ts.take k++[q.ts[k]'E]:=Le E;have hj:=hm _ (Lc E);refine Qi<|Qg<|Qh<|Qc<|xig (g:=QX) Xz (H.ext I) O O E λhv G=>?_;refine Zh (q.ts[k]'E) λl hl=>?_;rw[hl] at G ha hj;have hn:l.1=(l.1.toNat:Int):=by omega
 have he:l.1.toNat<16:=by omega
 refine x (QF G O O)<|xl O<|Qt (us:=[.int .i64 0,.int .i64 0]) O λb6 w2 ho hp S=>xl O<|Qp (us:=QX l) S O O O O ⟨O,O,U⟩ λw3 hr S =>
  xe ?_
 have hs:Step [] w1 w3:=ho.then1 hr hp;refine Qz<|Qb<|x (Qa O)<|x (Qd S O O)<|x (Qaw (n:=l.1.toNat) O (congrArg (Value.int .i64) hn) (by show l.1.toNat≤16;omega) (Qgt he))<|x (qZ (a:=b) (b:=1 <<< l.1.toNat) O (congrArg (Value.int .u16) (z1 _)) hg (Jk he))<|Qe<|Qz<|QN O O<|Qb<|xe ?_
 exact ⟨(k+1,orB b l.1.toNat),by simp only[];omega,⟨O,O,U⟩,E,I.trans hs,by simp only[];rw[ha,ye,hb]⟩
end Go.Proofs.YtdffckgdcegpaaaGreatDoor
