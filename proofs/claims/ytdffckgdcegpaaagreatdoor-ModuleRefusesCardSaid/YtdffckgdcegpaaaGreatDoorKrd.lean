/- Merged out of 30 texts. -/
import Derived.Test.YtdffckgdcegpaaaGreatDoorKrc
import Derived.Shelf.SlSortCmp.NoneTotal
import Derived.Tactics
import Derived.Sort.Grow
import Derived.Deep.Draws
import Derived.Sort.Statements
import Derived.Shelf.Lay
import Derived.Tactics2
namespace Go.Lg
theorem xcG {P:Program}{f:Fr}{w:World}{K:Fr→World→Prop}{d:Option Nat}{ty:Nat}{ps:String}{af:Array Edge}{gd:Option (Nat×Bool)}{x:Operand}{l:List Operand}{at_:Array Nat}
  {g:Nat} {first capt:LV} (E:∃fn,Fu P g fn) (hx:ev f x=.func (.func g) first.toArray capt.toArray) (h:QI P g (first++l.map (ev f)++capt) w λv w'=>K (QR f d v) w') :
  XO P ⟨d,.call ⟨.value x,l.toArray,at_⟩,ty,ps,af,gd⟩ f w K:=by
 obtain ⟨fn,G⟩:=E;exact xc (fn:=fn) hx h
end Go.Lg
namespace Go.Proofs.YtdffckgdcegpaaaGreatDoor
open Go.Proofs.Tryz
open Go.Lg
def gK (m:Nat):Nat:=if m=0 then 134 else if m=1 then 137 else 138
theorem Qd7 (m:Nat):∃fn,Fu prog (gK m) fn:=by
 unfold gK;split
 ·exact ⟨_,inferInstance⟩
 split
 ·exact ⟨_,inferInstance⟩
 exact ⟨_,inferInstance⟩
abbrev YR (c:Zv) (m:Nat):LN:=srK c ((m:Int)+1)
theorem Qc3 (c:Zv):YR c 0=srR c:=rfl
theorem Qc2 (c:Zv):YR c 1=srX c:=rfl
theorem Qc1 (c:Zv):YR c 2=srC c:=rfl
structure JQ (c:Zv):Prop where
 c8:c.co.length≤8
 r:c.rq.length≤32
 x:c.ex.length≤32
 k:c.cs.length≤32
 xl:∀e∈c.ex,∀l∈e.ls,0≤l.1∧l.1<16
 kl:∀e∈c.cs,∀l∈e.ts,0≤l.1∧l.1<16
theorem Qfa.sr {c:Zv}(h:Qfa c):JQ c:=by
 have h1:=Vz h.cd;have h2:(szs c.co).length=c.co.length:=Lh ..;have E:=h.c8;have G:=h.cr;refine ⟨E,by omega,h1.xl,h1.kl,λe he l hl=>?_,λe he l hl=>?_⟩
 ·have:=h1.x e he l hl;omega
 have:=(h1.k e he).1 l hl;omega
theorem Ks {c:Zv}(h:JQ c) {m:Nat}(hm:m<3):(YR c m).length≤32:=by
 have h1:=h.r;have h2:=h.x;have h3:=h.k;rcases m with _ | _ | _ | m
 ·rw[Qc3];unfold srR;rw[Lh];exact h1
 ·rw[Qc2];unfold srX;rw[Lh];exact h2
 ·rw[Qc1];unfold srC;rw[Lh];exact h3
 omega
theorem Jj {c:Zv}(h:JQ c) {m:Nat}(hm:m<3):∀b∈YR c m,b<65536:=by
 have E:=h.c8;rcases m with _ | _ | _ | m
 ·rw[Qc3];unfold srR;intro b hb;obtain ⟨x,_,rfl⟩:=Ly.1 hb;exact Qc8 _ _ _ (by decide) (by omega)
 ·rw[Qc2];unfold srX;intro b hb;obtain ⟨x,hx,rfl⟩:=Ly.1 hb;exact zb _ (h.xl x hx)
 ·rw[Qc1];unfold srC;intro b hb;obtain ⟨x,hx,rfl⟩:=Ly.1 hb;exact zb _ (h.kl x hx)
 omega
abbrev zK (b1:Nat) (c:Zv) (m:Nat):LV:=[.int .i64 ((m:Int)+1),.int .i64 (YR c m).length,.func (.func (gK m)) #[] #[.pointer (some ⟨b1,0,none⟩)]]
theorem VW (E:Nat) (c:Zv) (m:Nat):(zK E c m).length=3:=rfl
theorem jt {w:World}{c:CL}{I m i:Nat}(G:Q4 w.heap I 47 c.cells) (hc:ZB [] w.heap c) (H:JQ c.cel) (hm:m<3) (hi:i<(YR c.cel m).length) :
  QI prog (gK m) [.int .i64 i,.pointer (some ⟨I,0,none⟩)] w λr w'=>r=.int .u16 ((YR c.cel m)[i]'hi:Nat)∧Step [] w w':=by
 rcases m with _ | _ | _ | m
 ·have hl:(YR c.cel 0).length=c.rq.length:=by rw[Qc3];unfold srR;rw[Lh];exact Lh ..
  have E:i<c.rq.length:=Nat.lt_of_lt_of_eq hi hl;have e:(YR c.cel 0)[i]'hi=rqB (c.rq[i]'E).it 0 0 c.cel.co:=by
   show (srR c.cel)[i]'_=_;simp[srR,CL.cel]
  rw[e];have J:c.co.length≤8:=by have:=H.c8;rw[show c.cel.co.length=c.co.length from Lh ..] at this;exact this
  exact QfD G hc J (Lv E)
 ·have hl:(YR c.cel 1).length=c.ex.length:=by rw[Qc2];unfold srX;rw[Lh];exact Lh ..
  have E:i<c.ex.length:=Nat.lt_of_lt_of_eq hi hl;have e:(YR c.cel 1)[i]'hi=prB (c.ex[i]'E).ls:=by
   show (srX c.cel)[i]'_=_;simp[srX,CL.cel,XV.x]
  rw[e];exact QfC G hc (Lv E) (λl hl=>H.xl (c.ex[i]'E).x (LG (Lc E)) l hl)
 ·have hl:(YR c.cel 2).length=c.cs.length:=by rw[Qc1];unfold srC;rw[Lh];exact Lh ..
  have E:i<c.cs.length:=Nat.lt_of_lt_of_eq hi hl;have e:(YR c.cel 2)[i]'hi=prB (c.cs[i]'E).ts:=by
   show (srC c.cel)[i]'_=_;simp[srC,CL.cel,KV.k]
  rw[e];exact QfB G hc (Lv E) (λl hl=>H.kl (c.cs[i]'E).k (LG (Lc E)) l hl)
 omega
structure Qkn (N:Nat) (w:World) (c:CL) (r:Value) (b1 b:Nat):Prop where
 r:r=.slice (some ⟨b,0,none⟩) 3 3
 n1:N≤b1
 n:N≤b
 B1:Q4 w.heap b1 47 c.cells
 B:Q4 w.heap b 137 ([0,1,2].flatMap (zK b1 c.cel))
theorem J1 {L:LN}{w:World}{c:CL}(J:ZB L w.heap c) :
  QI prog 61 [c.val] w λr w'=>Step [] w w'∧∃E b,Qkn w.heap.size w' c r E b:=by
 have h:=J.up (L':=[]) (by simp);have e0:(YR c.cel 0).length=c.rq.length:=by rw[Qc3];unfold srR;rw[Lh];exact Lh ..
 have e1:(YR c.cel 1).length=c.ex.length:=by rw[Qc2];unfold srX;rw[Lh];exact Lh ..
 have e2:(YR c.cel 2).length=c.cs.length:=by rw[Qc1];unfold srC;rw[Lh];exact Lh ..
 refine QI.of_W func61 O ntmps61 results61 (by simp) ?_;refine Qc<|xl O<|QQ (us:=c.cells) O λE Y H S G=>Qe ?_;have h1:=h.ext H;refine Qc<|x (Qa O)<|x (Qd G O O)<|x (Qs h1.rq.arr O)<|x (Zp (l:=[]) (l':=[_]))<|x (QE ⟨O,O,O,U⟩)<|x (Qa O) <|
  x (Qd G O O)<|x (Qs h1.ex.arr O)<|x (Zp (l:=[]) (l':=[_]))<|x (QE ⟨O,O,O,U⟩)<|x (Qa O)<|x (Qd G O O) <|
  x (Qs h1.cs.arr O)<|x (Zp (l:=[]) (l':=[_]))<|x (QE ⟨O,O,O,U⟩) <|
  xl rfl<|QD (us:=[[.int .i64 1,.int .i64 c.rq.length,.func (.func 134) #[] #[.pointer (some ⟨E,0,none⟩)]],[.int .i64 2,.int .i64 c.ex.length,.func (.func 137) #[] #[.pointer (some ⟨E,0,none⟩)]],[.int .i64 3,.int .i64 c.cs.length,.func (.func 138) #[] #[.pointer (some ⟨E,0,none⟩)]]]) O O (by decide) (by simp) ⟨rfl,rfl,rfl,rfl,rfl,rfl,U⟩ λT w2 I ha V =>
  Qe ?_
 have hb:=H.size;have hc:=I.size;refine Qm ⟨[_],Z,H.trans I,E,T,O,S,by omega,G.ext I,?_⟩
 have e:[0,1,2].flatMap (zK E c.cel)=[.int .i64 1,.int .i64 c.rq.length,.func (.func 134) #[] #[.pointer (some ⟨E,0,none⟩)],.int .i64 2,.int .i64 c.ex.length,.func (.func 137) #[] #[.pointer (some ⟨E,0,none⟩)],.int .i64 3,.int .i64 c.cs.length,.func (.func 138) #[] #[.pointer (some ⟨E,0,none⟩)]]:=by
  simp only[List.flatMap_cons,List.flatMap_nil,zK,e0,e1,e2];rfl
 rw[e];exact V
def srP (c:Zv):Nat→LN
 | 0=>[]
 | m+1=>srP c m++YR c m
theorem VX (c:Zv):srP c 3=sets c:=by
 simp only[srP,Qc3,Qc2,Qc1,sets,List.nil_append,List.append_assoc]
theorem VL {c:Zv}(h:JQ c):∀m,m≤3→(srP c m).length≤32*m
 | 0,_=>Lj _
 | m+1,hm=>by
  have h1:=VL h m (by omega);have h2:=Ks h (show m<3 by omega);rw[srP,Lk];omega
abbrev jm (l:LN):LV:=l.map λb=>.int .u16 (b:Nat)
abbrev UK (base:Nat) (w:World) (v:Value) (l:LN):Prop:=w.ownsRow base 140 1 v l.length (jm l)
theorem UK.snoc {base:Nat}{w:World}{v:Value}{l:LN}{b:Nat}(h:w.ownsRow base 140 1 v (l.length+1) (jm l++[.int .u16 (b:Nat)])):UK base w v (l++[b]):=by
 unfold UK jm;rw[Lk,Lt];exact h
set_option maxHeartbeats 4000000 in
theorem Qar {L:LN}{w:World}{c:CL}(h0:ZB L w.heap c) (hc:JQ c.cel) :
  QI prog 99 [c.val] w λr w'=>Step [] w w'∧UK w.heap.size w' r (sets c.cel):=by
 have h:=h0.up (L':=[]) (by simp);refine QI.of_W func99 O ntmps99 results99 (by simp) ?_;refine Qc<|xl O<|QQ (us:=c.cells) O λb1 w1 he hG ht=>Qe<|Qc<|Qe<|Qg<|Qc<|x (Qr ht O O)<|xl O<|xf<|(J1 (h.ext he)).mono ?_;rintro r2 G ⟨hp,E,bs,H⟩;have hu:=H.r;subst hu;have hf:=he.trans hp;have hH:=he.size;have hI:=hp.size;have hJ:=H.B.lt;have hK:=H.B1.lt
 have hA:∀{w':World},Step [] G w'→Zq [] w'.heap (.slice (some ⟨bs,0,none⟩) 3 3) [0,1,2].length 3 ([0,1,2].flatMap (zK E c.cel)):=λhs =>
  (H.B.ext hs).arr (by simp) (n:=3) (cap:=3) (sz:=3) (by rfl) (by omega) (Lr _)
 refine x (Qs (hA (Step.refl _ _)) O)<|Qb<|xe<|Qh<|QA (α:=Nat×Value) [(3,3),(5,6),(10,27)] (λz=>[(3,z.2),(10,.int .i64 z.1)]) (λz w'=>z.1≤3∧Step [] G w'∧UK G.heap.size w' z.2 (srP c.cel z.1)) (λz=>3 - z.1) (by rfl) (0,nS) ⟨O,O,U⟩
  ⟨Lj _,Step.refl _ _,QM _ _ _ _⟩ ?_
 rintro ⟨m,v⟩ g w3 ⟨hm,V,I⟩;simp only[] at hm I;have hL:=VL hc m hm;refine Qc<|x (QB O O)<|xe<|Qg<|QH O (λhg=>?_) (λhg=>?_)
 ·refine Qy ?_;have hv:m=3:=by have hh:¬(m:Int)<(3:Nat):=hg;omega
  rw[hv,VX] at I;refine Qc<|Qb<|Qe ?_;exact Qm ⟨[v],Z,hf.trans V,Zk I hf.size⟩
 have J:m<3:=by have hh:(m:Int)<(3:Nat):=hg;omega
 have hM:=Ks hc J;refine Qi ?_;have hN:=V.size;have hge:=Qn I;have hw:([0,1,2]:LN)[m]'J=m:=by rcases m with _ | _ | _ | m <;> first | rfl | omega
 refine Qg<|Qh<|Qc<|xig (g:=zK E c.cel) (i:=m) (VW E c.cel) (hA V) O O J λhO hq=>?_;rw[hw] at hq;refine x (QF hq O O)<|xl O<|Qt (us:=[.int .i64 0,.int .i64 0,.nilFunc]) O λb5 w4 hy hz Y=>xl O<|Qp (us:=zK E c.cel m) Y O O O O ⟨O,O,O,U⟩ λw5 h1 Y =>
  xe ?_
 have hj:Step [] w3 w5:=hy.then1 h1 hz;have hP:=hj.size;refine Qc<|x (Qa O)<|x (Qd Y O O)<|Qb<|xe<|Qh<|QA (α:=Nat×Value) [(3,3),(6,6),(16,26)] (λz=>[(3,z.2),(16,.int .i64 z.1)]) (λz w'=>z.1≤(YR c.cel m).length∧Step (ob v) w5 w'∧UK G.heap.size w' z.2 (srP c.cel m++(YR c.cel m).take z.1)∧∀b∈ob z.2,b∈ob v∨w5.heap.size≤b) (λz=>(YR c.cel m).length - z.1) (by rfl) (0,v) ⟨O,O,U⟩
  ⟨Lj _,Step.refl _ _,by simp only[List.take_zero,List.append_nil];exact Qq I hj,λb hb=>.inl hb⟩ ?_
 rintro ⟨i,vi⟩ g w6 ⟨hi,ha,S,hk⟩;simp only[] at hi S hk;have hQ:=ha.size;have hR:=Qn S;have hl:Step [] G w6:=(V.trans hj).then ha (λb hb=>.inr (hge b hb).1);have h2:b5∉ob v:=λhb=>by have:=(hge b5 hb).2;omega
 have h3:=Y.step ha h2;have h6:=h.ext (hf.trans hl);have h4:Q4 w6.heap E 47 c.cells:=H.B1.ext hl;refine Qc<|x (QB O O)<|xe<|Qg<|QH O (λhn=>?_) (λhn=>?_)
 ·refine Qy ?_;have h5:(YR c.cel m).length≤i:=by have hh:¬(i:Int)<((YR c.cel m).length:Int):=hn;omega
  rw[Ll h5] at S;refine Qz<|QN O O<|Qb<|xe ?_;exact ⟨(m+1,vi),by simp only[];omega,⟨O,O,U⟩,J,hl,S⟩
 have T:i<(YR c.cel m).length:=by have hh:(i:Int)<((YR c.cel m).length:Int):=hn;omega
 have hr:(YR c.cel m).take (i+1)=(YR c.cel m).take i++[(YR c.cel m)[i]'T]:=Le T;have hT:(srP c.cel m++(YR c.cel m).take i).length≤200:=by rw[Lk,Lx];omega
 refine Qi<|Qg<|Qh<|Qc<|Qb<|Qe<|Qz<|Qb<|x (Qa O)<|x (Qd h3 O O)<|Qb<|xl O<|xcG (first:=[]) (capt:=[.pointer (some ⟨E,0,none⟩)]) (Qd7 m) O<|(jt h4 h6 hc J T).mono ?_;rintro r7 w7 ⟨rfl,h7⟩;refine Zh ((YR c.cel m)[i]'T) λbv h8=>?_;rw[h8] at hr ⊢;refine xl rfl<|QD (us:=[[.int .u16 (bv:Nat)]]) O O (by decide) (by simp) ⟨rfl,rfl,U⟩ λhU w8 hB hV hC=>?_;have ho:=h7.trans hB
 have hW:=ho.size;refine xl rfl<|Q6 (news:=[.int .u16 (bv:Nat)]) (L:=[]) (Qq S ho) O O O (hC.at (by simp)) (by simp[Value.oneCell']) (by omega) (by omega) λv9 w9 hD hE hF =>
  Qe<|Qz<|QN O O<|Qb<|xe ?_
 refine ⟨(i+1,v9),by simp only[];omega,⟨O,O,U⟩,T,(ha.trans ho).then hE hk,?_,λb hb=>?_⟩
 ·simp only[];rw[hr,←LC];exact UK.snoc hD
 rcases hF b hb with h9 | h9
 ·exact hk b h9
 exact .inr (by omega)
structure MV where
 kd:Int
 ix:Int
 v:Value
 co:LI
def MV.m (q:MV):Vo:=⟨q.kd,q.ix,q.co⟩
abbrev ZC (q:MV):LV:=[.int .i64 q.kd,.int .i64 q.ix,q.v]
theorem jI (q:MV):(ZC q).length=3:=rfl
abbrev mvP (q:MV):Value×Nat×Nat×LV:=(q.v,q.co.length,1,q.co.map (.int .i64))
abbrev MvN (base:Nat) (w:World) (v:Value) (l:List MV):Prop:=ZV ZC 3 39 mvP base w v l
theorem Qf2 {q:MV}(h:q.v.oneCell'=true):∀u∈ZC q,u.oneCell'=true:=by
 intro u hu;simp only[ZC,List.mem_cons,List.not_mem_nil,or_false] at hu;rcases hu with rfl | rfl | rfl
 ·rfl
 ·rfl
 exact h
theorem KD (k:Int):∀(l:LN) (i:Nat),(V9 k i l).length=l.length
 | [],_=>rfl
 | _::l,i=>by rw[V9,LQ,KD k l,LQ]
theorem qt (k:Int):∀(l:LN) (i j:Nat) (h:j<l.length),(V9 k i l).take (j+1)=(V9 k i l).take j++[⟨k,((i+j:Nat):Int),setK (l[j]'h) 8⟩]
 | [],_,j,h=>absurd h (Nf _)
 | b::l,i,0,h=>by rw[V9];rfl
 | b::l,i,j+1,h=>by
  rw[V9,MK,MK,qt k l (i+1) j (by simpa using h),L0];have e:((i+1+j:Nat):Int)=((i+(j+1):Nat):Int):=by omega
  rw[e];rfl
abbrev mdG (c:Zv) (m:Nat):List Vo:=V9 ((m:Int)+1) 0 (YR c m)
def mdP (c:Zv):Nat→List Vo
 | 0=>[]
 | m+1=>mdP c m++mdG c m
theorem yo (c:Zv):mdP c 3=mods c:=by
 simp only[mdP,mods,List.nil_append,List.append_assoc];rfl
theorem zl {c:Zv}(h:JQ c):∀m,m≤3→(mdP c m).length≤32*m
 | 0,_=>Lj _
 | m+1,hm=>by
  have h1:=zl h m (by omega);have h2:=Ks h (show m<3 by omega);rw[mdP,Lk,KD];omega
set_option maxHeartbeats 4000000 in
theorem Kg {L:LN}{w:World}{c:CL}(V:ZB L w.heap c) :
  QI prog 31 [c.val] w λr w'=>Step [] w w'∧∃v l,r=.tuple #[v,.int .i64 (Q8 c.cel)]∧MvN w.heap.size w' v l∧(Q8 c.cel≠0→v=nS∧l=[])∧(Q8 c.cel=0→l.map MV.m=mods c.cel):=by
 have h:=V.up (L':=[]) (by simp);refine Zh (Q8 c.cel) λE hE=>?_;rw[hE];refine QI.of_W func31 O ntmps31 results31 (by simp) ?_;refine Qc<|xl O<|QQ (us:=c.cells) O λb1 w1 hB gj hC=>x Qf<|Qe<|Qg<|Qc<|x (Qr hC O O)<|xl O<|xf<|(Ym (h.ext hB)).mono ?_;rintro rc wc ⟨hD,hF⟩;rw[hE] at hD;subst hD;have hO:=hC.ext hF;have hk:=hB.trans hF;refine Qe<|Qc<|Qb<|x (Q9 O O)<|xe ?_
 refine Q7 rfl (λH=>?_) (λH=>?_)
 ·refine Qc<|Qb<|x Qf<|Qe ?_;exact Qm ⟨[nS,.int .i64 E],⟨O,O,U⟩,hk,nS,[],O,ZV.nil,λ_=>⟨O,O⟩,λV=>absurd V H⟩
 have hv:E=0:=Lq.1 H;have hl:JQ c.cel:=(ZF (hE.trans hv)).sr;refine Qi<|Qc<|Qe<|Qg<|Qc<|x (Qr hO O O)<|xl O<|xf<|(J1 (h.ext hk)).mono ?_;rintro r2 I ⟨hG,J,bs,Y⟩;have hP:=Y.r;subst hP;have hw:=hk.trans hG;have gk:=hk.size;have gl:=hG.size;have gm:=Y.B.lt;have gn:=Y.B1.lt
 have hA:∀{w':World},Step [] I w'→Zq [] w'.heap (.slice (some ⟨bs,0,none⟩) 3 3) [0,1,2].length 3 ([0,1,2].flatMap (zK J c.cel)):=λhs =>
  (Y.B.ext hs).arr (by simp) (n:=3) (cap:=3) (sz:=3) (by rfl) (by omega) (Lr _)
 refine x (Qs (hA (Step.refl _ _)) O)<|Qb<|xe<|Qh<|QA (α:=Nat×Value×List MV) [(5,5),(7,8),(17,39)] (λz=>[(5,z.2.1),(17,.int .i64 z.1)]) (λz w'=>z.1≤3∧Step [] I w'∧MvN I.heap.size w' z.2.1 z.2.2∧z.2.2.map MV.m=mdP c.cel z.1) (λz=>3 - z.1) (by rfl) (0,nS,[]) ⟨O,O,U⟩
  ⟨Lj _,Step.refl _ _,ZV.nil,O⟩ ?_
 rintro ⟨m,v,l⟩ g w3 ⟨hm,hn,ha,he⟩;simp only[] at hm ha he;have go:=zl hl m hm;have gp:l.length=(mdP c.cel m).length:=by rw[←he,Lh]
 refine Qc<|x (QB O O)<|xe<|Qg<|QH O (λhy=>?_) (λhy=>?_)
 ·refine Qy ?_;have hQ:m=3:=by have hz:¬(m:Int)<(3:Nat):=hy;omega
  rw[hQ,yo] at he;refine Qc<|Qb<|x Qf<|Qe ?_;have hR:=hw.size;exact Qm ⟨[v,.int .i64 0],⟨O,O,U⟩,hw.trans hn,v,l,by rw[hv];rfl,⟨Zk ha.own hR,λq hq L hL=>ha.each q hq L (λb hb=>(hL b hb).imp (λh=>by omega) id)⟩,λV=>absurd hv V,λ_=>he⟩
 have S:m<3:=by have hz:(m:Int)<(3:Nat):=hy;omega
 have gq:=Ks hl S;refine Qi ?_;have gr:=hn.size;have hge:=Qn ha.own;have hT:([0,1,2]:LN)[m]'S=m:=by rcases m with _ | _ | _ | m <;> first | rfl | omega
 refine Qg<|Qh<|Qc<|xig (g:=zK J c.cel) (i:=m) (VW J c.cel) (hA hn) O O S λgs H=>?_;rw[hT] at H;refine x (QF H O O)<|xl O<|Qt (us:=[.int .i64 0,.int .i64 0,.nilFunc]) O λb7 w4 hU hV hf=>xl O<|Qp (us:=zK J c.cel m) hf O O O O ⟨O,O,O,U⟩ λw5 hW hf =>
  xe ?_
 have h1:Step [] w3 w5:=hU.then1 hW hV;have gt:=h1.size;refine Qc<|x (Qa O)<|x (Qd hf O O)<|Qb<|xe ?_
 refine Qh<|QA (α:=Nat×Value×List MV) [(5,5),(8,8),(23,38)] (λz=>[(5,z.2.1),(23,.int .i64 z.1)]) (λz w'=>z.1≤(YR c.cel m).length∧Step (ob v) w5 w'∧MvN I.heap.size w' z.2.1 z.2.2∧z.2.2.map MV.m=mdP c.cel m++(mdG c.cel m).take z.1∧∀b∈ob z.2.1,b∈ob v∨w5.heap.size≤b) (λz=>(YR c.cel m).length - z.1) (by rfl) (0,v,l) ⟨O,O,U⟩
  ⟨Lj _,Step.refl _ _,ha.ext h1,by simp only[List.take_zero,List.append_nil];exact he,λb hb=>.inl hb⟩ ?_
 rintro ⟨i,vi,li⟩ g G ⟨hi,ho,hg,hh,hp⟩;simp only[] at hi hg hh hp;have gu:=ho.size;have hX:=Qn hg.own;have hr:Step [] I G:=(hn.trans h1).then ho (λb hb=>.inr (hge b hb).1);have hH:b7∉ob v:=λhb=>by have:=(hge b7 hb).2;omega
 have hI:=hf.step ho hH;have h6:=h.ext (hw.trans hr);have hY:Q4 G.heap J 47 c.cells:=Y.B1.ext hr;have gv:li.length≤200:=by
  have e1:=congrArg List.length hh;rw[Lh,Lk,Lx] at e1;have e2:(mdG c.cel m).length=(YR c.cel m).length:=KD _ _ _;omega
 refine Qc<|x (QB O O)<|xe<|Qg<|QH O (λh2=>?_) (λh2=>?_)
 ·refine Qy ?_;have hZ:(YR c.cel m).length≤i:=by have hz:¬(i:Int)<((YR c.cel m).length:Int):=h2;omega
  rw[Ll (by rw[KD];exact hZ)] at hh;refine Qz<|QN O O<|Qb<|xe ?_;exact ⟨(m+1,vi,li),by simp only[];omega,⟨O,O,U⟩,S,hr,hg,hh⟩
 have T:i<(YR c.cel m).length:=by have hz:(i:Int)<((YR c.cel m).length:Int):=h2;omega
 have h3:(mdG c.cel m).take (i+1)=(mdG c.cel m).take i++[⟨(m:Int)+1,((0+i:Nat):Int),setK ((YR c.cel m)[i]'T) 8⟩]:=qt _ _ _ _ T;rw[LR] at h3;have hJ:=Jj hl S _ (Lc T);refine Qi<|Qg<|Qh<|Qc<|Qb<|Qe ?_;have hK:b7∉ob vi:=λhb=>by
  rcases hp b7 hb with h9 | h9
  ·exact hH h9
  have:=hf.lt;omega
 have h4:Step [] G { G with drawn:=G.drawn+1 }:=Step.drew _ _
 have gw:({ G with drawn:=G.drawn+1 }:World).heap.size=G.heap.size:=rfl
 refine QW (Step (ob vi) G) [(0,true),(1,true),(2,true),(3,true),(4,true),(5,true),(6,true),(7,false),(8,false),(9,true),(10,false),(11,false),(12,true)] mixed (by rfl) (by kernel_rfl) (Step.drew _ _) ?_;refine p (λ_=>Qo)<|p (λ_=>Qa O)<|pq (λ_ hc=>Qd (hI.step hc hK) O O)<|p (λ_=>Qo)<|p (λ_=>Qa O) <|
  pq (λ_ hc=>Qd (hI.step hc hK) O O)<|p (λ_=>Qo)<|pk<|xcG (first:=[]) (capt:=[.pointer (some ⟨J,0,none⟩)]) (Qd7 m) O<|(jt (hY.ext h4) (h6.ext h4) hl S T).mono ?_
 rintro r8 w8 ⟨rfl,ga⟩;refine Zh ((YR c.cel m)[i]'T) λbv gb=>?_;rw[gb] at h3 hJ ⊢;have h5:=h4.trans ga;refine ⟨h5.any,?_⟩;refine pk<|xf<|(zn bv hJ w8).mono ?_;rintro r9 w9 ⟨gc,h7⟩;have ht:=h5.trans gc;have gx:=h5.size;have gy:=ht.size;refine ⟨ht.any,?_⟩
 refine p (λ_=>QE ⟨O,O,QY h7,U⟩)<|pk<|QD (us:=[ZC ⟨(m:Int)+1,i,r9,setK bv 8⟩]) O O (by decide) (by simp) ⟨rfl,rfl,U⟩ λgz g0 hu g2 ge=>⟨(ht.trans hu).any,?_⟩;have hj:=ht.trans hu;have g3:=hj.size;have g4:=hu.size
 refine pk<|Q6 (news:=ZC ⟨(m:Int)+1,i,r9,setK bv 8⟩) (L:=[]) (Qq hg.own hj) O O O (ge.at (by simp)) (Qf2 (q:=⟨(m:Int)+1,i,r9,setK bv 8⟩) (QJ h7)) (by omega) (by omega) λhM gg gh h8 hN=>⟨hj.any.trans' h8,?_⟩;refine p (λ_=>Qf)<|pe ?_;have g5:=Jl bv 8
 have gi:MvN I.heap.size gg hM (li++[⟨(m:Int)+1,i,r9,setK bv 8⟩]):=ZV.app2 (N:=w8.heap.size) (hg.ext hj) (Qq h7 hu) (by show (setK bv 8).length≤_;omega) (by have:=hr.size;omega) (λb hb=>by have:=hX b hb;omega) gh h8 hN;refine Qz<|QN O O<|Qb<|xe ?_
 refine ⟨(i+1,hM,li++[⟨(m:Int)+1,i,r9,setK bv 8⟩]),by simp only[];omega,⟨O,O,U⟩,T,(ho.trans hj).then h8 hp,gi,?_,λb hb=>?_⟩
 ·simp only[];rw[h3,Lt,hh,LC];rfl
 rcases hN b hb with h9 | h9
 ·exact hp b h9
 exact .inr (by omega)
theorem Qj7 {n:Nat}(h:n≤8):2 ^ n≤256:=Nat.pow_le_pow_right (by decide) h
set_option maxHeartbeats 4000000 in
theorem X5 {L:LN}{w:World}{c:CL}(I:ZB L w.heap c) :
  QI prog 38 [c.val] w λr w'=>Step [] w w'∧∃v,r=.tuple #[v,.int .i64 (Q8 c.cel)]∧(Q8 c.cel≠0→v=nS)∧(Q8 c.cel=0→Qu 3 w.heap.size w' v (rem c.cel)):=by
 have h:=I.up (L':=[]) (by simp);refine Zh (Q8 c.cel) λE hE=>?_;rw[hE];refine QI.of_W func38 O ntmps38 results38 (by simp) ?_;refine Qc<|xl O<|QQ (us:=c.cells) O λb1 w1 hf h9 hg=>x Qf<|Qe<|Qg<|Qc<|x (Qr hg O O)<|xl O<|xf<|(Ym (h.ext hf)).mono ?_;rintro rc wc ⟨hh,hi⟩;rw[hE] at hh;subst hh;have hj:=hg.ext hi;have S:=hf.trans hi;refine Qe<|Qc<|Qb<|x (Q9 O O)<|xe ?_
 refine Q7 rfl (λT=>?_) (λT=>?_)
 ·refine Qc<|Qb<|x Qf<|Qe ?_;exact Qm ⟨[nS,.int .i64 E],⟨O,O,U⟩,S,nS,O,λ_=>O,λI=>absurd I T⟩
 have V:E=0:=Lq.1 T;have G:JQ c.cel:=(ZF (hE.trans V)).sr;have ht:c.cel.co.length=c.co.length:=Lh ..;have h8:c.co.length≤8:=by have:=G.c8;omega
 have hB:=Qj7 h8;have hC:0<2 ^ c.co.length:=Nat.pow_pos (by decide);have he:(1:Int)*(2:Int) ^ c.co.length - 1=((2 ^ c.co.length - 1:Nat):Int):=by
  rw[z1,Nat.shiftLeft_eq,Nb];omega
 have hu:inK .u16 ((1:Int)*(2:Int) ^ c.co.length - 1):=by rw[he];exact ⟨by omega,by omega⟩
 have hl:2 ^ c.co.length - 1<65536:=by omega
 have hv:=VL G 3 (by omega);rw[VX] at hv;have hm:jA c.cel=(sets c.cel).foldl (λl b=>l &&& (65535 ^^^ b)) (2 ^ c.co.length - 1):=by unfold jA;rw[ht]
 have hw:∀b∈sets c.cel,b<65536:=by
  intro b hb;unfold sets at hb;rcases Li.1 hb with hb | hb
  ·exact Jj G (m:=0) (by omega) b hb
  rcases Li.1 hb with hb | hb
  ·exact Jj G (m:=1) (by omega) b hb
  exact Jj G (m:=2) (by omega) b hb
 refine Zh (2 ^ c.co.length - 1) λb0 hz=>?_;rw[hz] at he hm hl;have hn:=h.ext S;refine Qi<|Qc<|x (Qa O)<|x (Qd hj O O)<|x (Qs hn.co.arr O)<|x (Qaw (n:=c.co.length) O O (by show c.co.length≤16;omega) (Qgt (by omega)))<|x (Ja O O hu)<|Qe<|Qg<|Qc<|x (Qr hj O O)<|xl O<|xf<|(Qar hn G).mono ?_;rintro r2 Y ⟨h1,h2⟩
 have hA:Zq [] Y.heap r2 (sets c.cel).length 1 (jm (sets c.cel)):=QS h2 (by omega) (by simp);have h3:Zq [] Y.heap r2 (sets c.cel).length 1 ((sets c.cel).flatMap λb=>[.int .u16 (b:Nat)]):=by
  have e:(sets c.cel).flatMap (λb=>[Value.int .u16 (b:Nat)])=jm (sets c.cel):=by
   generalize sets c.cel=l;induction l with
   | nil=>rfl
   | cons a l ih=>rw[LB,ih];rfl
  rw[e];exact hA
 refine x (Qs hA O)<|Qb<|xe<|Qh<|QA (α:=Nat×Nat) [(5,5),(7,7),(21,28)] (λz=>[(5,.int .u16 z.2),(21,.int .i64 z.1)]) (λz w'=>z.1≤(sets c.cel).length∧Step [] Y w'∧z.2<65536∧((sets c.cel).drop z.1).foldl (λl b=>l &&& (65535 ^^^ b)) z.2=jA c.cel) (λz=>(sets c.cel).length - z.1) (by rfl) (0,b0) ⟨congrArg (Value.int .u16) he,O,U⟩
  ⟨Lj _,Step.refl _ _,hl,hm.symm⟩ ?_
 rintro ⟨k,b⟩ g w3 ⟨hk,ha,hb,H⟩;simp only[] at hk hb H;have ho:=(S.trans h1).trans ha;refine Qc<|x (QB O O)<|xe<|Qg<|QH O (λhc=>?_) (λhc=>?_)
 ·refine Qy ?_;have h4:(sets c.cel).length≤k:=by have h5:¬(k:Int)<((sets c.cel).length:Int):=hc;omega
  rw[Lp h4] at H;have h6:b=jA c.cel:=H;refine Qc<|Qb<|xl O<|xf<|(zn b hb w3).mono ?_;rintro r4 w4 ⟨h7,hp⟩;refine x Qf<|Qe ?_;rw[h6] at hp;exact Qm ⟨[r4,.int .i64 0],⟨O,O,U⟩,ho.trans h7,r4,by rw[V];rfl,λI=>absurd V I,λ_=>Zk hp ho.size⟩
 have J:k<(sets c.cel).length:=by have h5:(k:Int)<((sets c.cel).length:Int):=hc;omega
 have hq:=hw _ (Lc J);rw[LH J,LO] at H;refine Qi<|Qg<|Qh<|Qc<|xig (g:=λb:Nat=>[.int .u16 (b:Nat)]) (i:=k) (λ_=>O) (h3.ext ha) O O J λhD hs=>?_;refine Zh ((sets c.cel)[k]'J) λy hy=>?_;rw[hy] at hs hq H;refine x (Qv hs O)<|Qe<|Qz<|Qb<|Qb<|x (jD (a:=b) (b:=y) O O hb hq)<|Qe<|Qz<|QN O O<|Qb<|xe ?_
 exact ⟨(k+1,b &&& (65535 ^^^ y)),by simp only[];omega,⟨O,O,U⟩,J,ha,Nat.lt_of_le_of_lt Nat.and_le_left hb,H⟩
def FwI (q:IV):Prop:=q.p.a.al.length≤6∧q.p.a.mr.length≤6∧q.p.a.ed.length≤10
theorem Ko {α:Type}{l:List α}{k:Nat}{p:α→Prop}(hk:k<l.length) (h:∀q∈l.take k,p q) (hq:p (l[k]'hk)):∀q∈l.take (k+1),p q:=λq hm=>by
 rw[Le hk] at hm;rcases Li.1 hm with hm | hm
 ·exact h q hm
 rw[La.1 hm];exact hq
theorem Kn {α:Type}{l:List α}{k:Nat}{p:α→Prop}(hk:l.length≤k) (h:∀q∈l.take k,p q):∀q∈l,p q:=λq hm=>h q (by rw[Ll hk];exact hm)
set_option maxHeartbeats 4000000 in
theorem Qie {w:World}{c:CL}(h:je w.heap c) :
  QI prog 36 [c.val] w λr w'=>Step [] w w'∧∃z,r=.bool z∧(z=true→Qe8 c):=by
 refine QI.of_W func36 O ntmps36 results36 (by simp) ?_;refine Qc<|xl O<|QQ (us:=c.cells) O λb1 w1 ht g4 hg=>Qe ?_;have h1:=h.ext ht;refine Qg<|Qc<|x (Qa O)<|x (Qd hg O O)<|x (Qa O)<|x (Qd hg O O)<|xl O<|QD (us:=[[c.vc],[c.vr]]) O O (by decide) (by simp) ⟨h.co.cells,rfl,h.rq.cells,rfl,U⟩ λhu Y hh g5 I=>?_
 have hv:Zq [] Y.heap (.slice (some ⟨hu,0,none⟩) 2 2) 2 1 [c.vc,c.vr]:=I.arr (L:=[]) (by simp) (n:=2) (cap:=2) (sz:=1) rfl (by omega) (Lr _);refine x (Qs hv O)<|Qb<|xe ?_;have hS:=ht.trans hh;have h2:=h1.ext hh;have hT:=hg.ext hh;refine Zh ([(c.vc,c.co),(c.vr,c.rq)]:List (Value×List IV)) λll hf=>?_;have g6:ll.length=2:=by rw[←hf];rfl
 have hU:Zq [] Y.heap (.slice (some ⟨hu,0,none⟩) 2 2) ll.length 1 (ll.flatMap λp=>[p.1]):=by rw[←hf];exact hv
 have hw:∀p∈ll,Yx Y.heap p.1 p.2.length 5 (p.2.flatMap Za)∧∀q∈p.2,ItW Y.heap q:=λp hp=>by
  rw[←hf] at hp;simp only[List.mem_cons,List.not_mem_nil,or_false] at hp;rcases hp with rfl | rfl
  ·exact ⟨h2.co,h2.coe⟩
  exact ⟨h2.rq,h2.rqe⟩
 have hV:(∀p∈ll,∀q∈p.2,FwI q)→∀q∈c.co++c.rq,FwI q:=λh q hq=>by
  rw[←hf] at h;rcases Li.1 hq with hq | hq
  ·exact h (c.vc,c.co) (by simp) q hq
  exact h (c.vr,c.rq) (by simp) q hq
 refine Qh<|QA (α:=Nat) [(2,2),(4,4),(6,6),(17,59)] (λz=>[(17,.int .i64 z)]) (λz w'=>z≤2∧Step [] Y w'∧∀p∈ll.take z,∀q∈p.2,FwI q) (λz=>2 - z) (by rfl) 0 Z ⟨Lj _,Step.refl _ _,λp hp=>by simp at hp⟩ ?_;rintro k g w3 ⟨hk,J,hI⟩;have hy:=hS.trans J;refine Qc<|x (QB O O)<|xe<|Qg<|QH O (λhl=>?_) (λhl=>?_)
 ·refine Qy ?_;have hW:ll.length≤k:=by have S:¬(k:Int)<((2:Nat):Int):=hl;omega
  have hX:=hV (Kn hW hI);have h3:=h2.ext J;have h0:=hT.ext J;refine Qg<|Qc<|x (Qa O)<|x (Qd h0 O O)<|x (YD h3.ex O)<|Qb<|xe<|Qh<|QA (α:=Nat) [(2,2),(8,8),(63,77)] (λz=>[(63,.int .i64 z)]) (λz w'=>z≤c.ex.length∧Step [] w3 w'∧∀q∈c.ex.take z,q.ls.length≤5) (λz=>c.ex.length - z) (by rfl) 0 Z ⟨Lj _,Step.refl _ _,λp hp=>by simp at hp⟩ ?_;rintro i g w4 ⟨hi,T,h7⟩
  have h8:=hy.trans T;refine Qc<|x (QB O O)<|xe<|Qg<|QH O (λhm=>?_) (λhm=>?_)
  ·refine Qy ?_;have hY:=Kn (show c.ex.length≤i by have S:¬(i:Int)<(c.ex.length:Int):=hm;omega) h7;have h4:=h3.ext T;have h9:=h0.ext T;refine Qg<|Qc<|x (Qa O)<|x (Qd h9 O O)<|x (YD h4.cs O)<|Qb<|xe ?_
   refine Qh<|QA (α:=Nat) [(2,2),(10,10),(81,95)] (λz=>[(81,.int .i64 z)]) (λz w'=>z≤c.cs.length∧Step [] w4 w'∧∀q∈c.cs.take z,q.ts.length≤5) (λz=>c.cs.length - z) (by rfl) 0 Z ⟨Lj _,Step.refl _ _,λp hp=>by simp at hp⟩ ?_;rintro j g w5 ⟨hj,V,hA⟩;have hB:=h8.trans V;refine Qc<|x (QB O O)<|xe<|Qg<|QH O (λhn=>?_) (λhn=>?_)
   ·refine Qy ?_;have hZ:=Kn (show c.cs.length≤j by have S:¬(j:Int)<(c.cs.length:Int):=hn;omega) hA;have h5:=h4.ext V;have I:=h9.ext V;refine Q0 (α:=Bool) [(2,2),(96,123)] (λz=>[(2,.bool z)]) (λz w'=>w'=w5∧(z=true→Qe8 c)) (by rfl) ?_ ?_
    ·refine Qz<|x (Qa O)<|x (Qd I O O)<|x (YD h5.ev O)<|xb (YK O O) (λga=>?_) (λga=>?_)
     ·refine Qb<|x (Qa O)<|x (Qd I O O)<|x (YD h5.co O)<|xb (YK O O) (λgb=>?_) (λgb=>?_)
      ·refine x (Qj O)<|Qb<|x (Qa O)<|x (Qd I O O)<|x (YD h5.rq O)<|xb (YK O O) (λgc=>?_) (λgc=>?_)
       ·refine x (Qj O)<|Qb<|x (Qa O)<|x (Qd I O O)<|x (YD h5.ex O)<|xb (YK O O) (λge=>?_) (λge=>?_)
        ·refine x (Qj O)<|Qb<|x (Qa O)<|x (Qd I O O)<|x (YD h5.cs O)<|x (YK O O)<|x (Qj O) <|
          Qe<|⟨decide ((c.cs.length:Int)≤4),Z,O,λgg=>?_⟩
         have h6:=of_decide_eq_true gg;exact ⟨by omega,by omega,by omega,by omega,by omega,hX,hY,hZ⟩
        refine x (Qj O)<|Qb<|xs O<|xs O<|xs O<|xs O<|x (Qj O)<|Qe ?_;exact ⟨false,Z,O,λh=>by cases h⟩
       refine x (Qj O)<|Qb<|xs O<|xs O<|xs O<|xs O<|x (Qj O)<|Qb<|xs O<|xs O<|xs O<|xs O<|x (Qj O) <|
        Qe ?_
       exact ⟨false,Z,O,λh=>by cases h⟩
      refine x (Qj O)<|Qb<|xs O<|xs O<|xs O<|xs O<|x (Qj O)<|Qb<|xs O<|xs O<|xs O<|xs O<|x (Qj O) <|
       Qb<|xs O<|xs O<|xs O<|xs O<|x (Qj O)<|Qe ?_
      exact ⟨false,Z,O,λh=>by cases h⟩
     refine Qb<|xs O<|xs O<|xs O<|xs O<|x (Qj O)<|Qb<|xs O<|xs O<|xs O<|xs O<|x (Qj O)<|x Qo <|
      xs rfl<|xs O<|xs O<|xs O<|x (Qj O)<|Qb<|xs O<|xs O<|xs O<|xs O<|x (Qj O)<|Qe ?_
     exact ⟨false,Z,O,λh=>by cases h⟩
    rintro z g w6 ⟨rfl,hz⟩;exact Qm ⟨[.bool z],Z,hB,z,O,hz⟩
   have E:j<c.cs.length:=by have S:(j:Int)<(c.cs.length:Int):=hn;omega
   refine Qi<|Qg<|Qh<|Qc<|xiw Y6 (h4.ext V).cs O O E λg7 hC=>?_;have ha:=Ko (p:=λq:KV=>q.ts.length≤5) E hA;have H:=Lc E;refine Zh (c.cs[j]'E) λq hq=>?_;rw[hq] at hC H;have G:=(h4.ext V).cse q H;refine x (QF hC O O)<|xl O<|Qt (us:=[.string .empty,nS,.int .i64 0]) O λg8 w7 gh gi gj=>xl O<|Qp (us:=Zm q) gj O O O O ⟨O,G.2.one,O,U⟩ λw8 gk hD =>
    xe ?_
   have hE:Step [] w5 w8:=gh.then1 gk gi;refine Q0 (α:=Bool) [(85,94)] (λz=>[(94,.bool z)]) (λz w'=>w'=w8∧(z=false→q.ts.length≤5)) (by rfl) ?_ ?_
   ·refine Qz<|x (Qa O)<|x (Qd hD O O)<|x (YD G.2 O)<|xb (Zx O O) (λgl=>?_) (λgl=>?_)
    ·refine Qb<|xs O<|xs O<|xs O<|xs O<|x (Qj O)<|xe ?_;exact ⟨true,Z,O,λh=>by cases h⟩
    refine Qb<|x (Qa O)<|x (Qd hD O O)<|x (K4 O)<|x (Zx O O)<|x (Qj O)<|xe ?_;exact ⟨_,Z,O,λ_=>by omega⟩
   rintro z g w9 ⟨rfl,hz⟩;refine Q2 O (λhF=>?_) (λhF=>?_)
   ·refine Qc<|Qe ?_;exact Qm ⟨[.bool false],Z,hB.trans hE,false,O,λh=>by cases h⟩
   refine Qi<|Qz<|x (Yv O O ⟨by omega,by have:=h.cs.2.1;omega⟩)<|Qb<|xe ?_;exact ⟨j+1,by omega,Z,E,V.trans hE,ha (by rw[hq];exact hz hF)⟩
  have E:i<c.ex.length:=by have S:(i:Int)<(c.ex.length:Int):=hm;omega
  refine Qi<|Qg<|Qh<|Qc<|xiw Xx (h3.ext T).ex O O E λg9 hG=>?_;have ha:=Ko (p:=λq:XV=>q.ls.length≤5) E h7;have H:=Lc E;refine Zh (c.ex[i]'E) λq hq=>?_;rw[hq] at hG H;have G:=(h3.ext T).exe q H;refine x (QF hG O O)<|xl O<|Qt (us:=[.string .empty,nS]) O λb8 ka gm gn go=>xl O<|Qp (us:=Zr q) go O O O O ⟨O,G.2.one,U⟩ λhH gp hJ =>
   xe ?_
  have hK:Step [] w4 hH:=gm.then1 gp gn;refine Q0 (α:=Bool) [(67,76)] (λz=>[(76,.bool z)]) (λz w'=>w'=hH∧(z=false→q.ls.length≤5)) (by rfl) ?_ ?_
  ·refine Qz<|x (Qa O)<|x (Qd hJ O O)<|x (YD G.2 O)<|xb (Zx O O) (λgq=>?_) (λgq=>?_)
   ·refine Qb<|xs O<|xs O<|xs O<|xs O<|x (Qj O)<|xe ?_;exact ⟨true,Z,O,λh=>by cases h⟩
   refine Qb<|x (Qa O)<|x (Qd hJ O O)<|x (K4 O)<|x (Zx O O)<|x (Qj O)<|xe ?_;exact ⟨_,Z,O,λ_=>by omega⟩
  rintro z g kb ⟨rfl,hz⟩;refine Q2 O (λhL=>?_) (λhL=>?_)
  ·refine Qc<|Qe ?_;exact Qm ⟨[.bool false],Z,h8.trans hK,false,O,λh=>by cases h⟩
  refine Qi<|Qz<|x (Yv O O ⟨by omega,by have:=h.ex.2.1;omega⟩)<|Qb<|xe ?_;exact ⟨i+1,by omega,Z,E,T.trans hK,ha (by rw[hq];exact hz hL)⟩
 have E:k<ll.length:=by have S:(k:Int)<((2:Nat):Int):=hl;omega
 have gr:=Ko (p:=λp:Value×List IV=>∀q∈p.2,FwI q) E hI;have ho:=Lc E;refine Qi<|Qg<|Qh<|Qc<|xig (g:=λp:Value×List IV=>[p.1]) (i:=k) (λ_=>O) (hU.ext J) O O E λkc hM=>?_;refine Zh (ll[k]'E) λp hp=>?_;rw[hp] at hM ho;have hr:=(hw p ho).1.ext J;refine x (Qv hM O)<|Qe<|Qc<|Qb<|x (YD hr O)<|Qb<|xe ?_
 refine Qh<|QA (α:=Nat) [(2,2),(6,6),(23,58)] (λz=>[(23,.int .i64 z)]) (λz w'=>z≤p.2.length∧Step [] w3 w'∧∀q∈p.2.take z,FwI q) (λz=>p.2.length - z) (by rfl) 0 Z ⟨Lj _,Step.refl _ _,λp hp=>by simp at hp⟩ ?_;rintro i g gs ⟨hi,hb,hN⟩;have gt:=hy.trans hb;refine Qc<|x (QB O O)<|xe<|Qg<|QH O (λhs=>?_) (λhs=>?_)
 ·refine Qy ?_;have gu:=Kn (show p.2.length≤i by have S:¬(i:Int)<(p.2.length:Int):=hs;omega) hN;refine Qz<|QN O O<|Qb<|xe ?_;exact ⟨k+1,by omega,Z,by omega,J.trans hb,gr (by rw[hp];exact gu)⟩
 have hc:i<p.2.length:=by have S:(i:Int)<(p.2.length:Int):=hs;omega
 refine Qi<|Qg<|Qh<|Qc<|xiw Yz (hr.ext hb) O O hc λke hO=>?_;have ha:=Ko (p:=FwI) hc hN;have H:=Lc hc;refine Zh (p.2[i]'hc) λq hq=>?_;rw[hq] at hO H;have G:=(((hw p ho).2 q H).ext J).ext hb
 refine x (QF hO O O)<|xl O<|Qt (us:=[.string .empty,nS,.int .i64 0,nS,nS]) O λb6 kf gv gw gx=>xl O<|Qp (us:=Za q) gx O O O O ⟨O,G.2.al.one,O,G.2.mr.one,G.2.ed.one,U⟩ λhP gy he =>
  xe ?_
 have hQ:Step [] gs hP:=gv.then1 gy gw;refine Q0 (α:=Bool) [(27,57)] (λz=>[(57,.bool z)]) (λz w'=>w'=hP∧(z=false→FwI q)) (by rfl) ?_ ?_
 ·refine Qz<|x (Qa O)<|x (Qd he O O)<|x (K4 O)<|xb (Zx O O) (λgz=>?_) (λgz=>?_)
  ·refine Qb<|xs O<|xs O<|xs O<|xs O<|xs O<|x (Qj O)<|Qb<|xs O<|xs O<|xs O<|xs O<|xs O<|x (Qj O) <|
    Qb<|xs rfl<|xs O<|xs O<|xs O<|xs O<|x (Qj O)<|Qb<|xs O<|xs O<|xs O<|xs O<|x (Qj O) <|
    xe ?_
   exact ⟨true,Z,O,λh=>by cases h⟩
  refine Qb<|x (Qa O)<|x (Qa O)<|x (Qd he O O)<|x (YD G.2.al O)<|xb (Zx O O) (λg0=>?_) (λg0=>?_)
  ·refine x (Qj O)<|Qb<|xs O<|xs O<|xs O<|xs O<|xs O<|x (Qj O)<|Qb<|xs O<|xs O<|xs O<|xs O<|xs O<|x (Qj O) <|
    Qb<|xs rfl<|xs O<|xs O<|xs O<|x (Qj O)<|xe ?_
   exact ⟨true,Z,O,λh=>by cases h⟩
  refine x (Qj O)<|Qb<|x (Qa O)<|x (Qa O)<|x (Qd he O O)<|x (YD G.2.mr O)<|xb (Zx O O) (λg2=>?_) (λg2=>?_)
  ·refine x (Qj O)<|Qb<|xs O<|xs O<|xs O<|xs O<|xs O<|x (Qj O)<|Qb<|xs O<|xs O<|xs O<|xs O<|x (Qj O) <|
    xe ?_
   exact ⟨true,Z,O,λh=>by cases h⟩
  refine x (Qj O)<|Qb<|x (Qa O)<|x (Qa O)<|x (Qd he O O)<|x (YD G.2.ed O)<|xb (Zx O O) (λg3=>?_) (λg3=>?_)
  ·refine x (Qj O)<|Qb<|xs O<|xs O<|xs O<|xs O<|x (Qj O)<|xe ?_;exact ⟨true,Z,O,λh=>by cases h⟩
  refine x (Qj O)<|Qb<|x (Qa O)<|x (Qa O)<|x (Qd he O O)<|x (Zx O O)<|x (Qj O)<|xe ?_;exact ⟨_,Z,O,λ_=>⟨by omega,by omega,by omega⟩⟩
 rintro z g kg ⟨rfl,hz⟩;refine Q2 rfl (λhR=>?_) (λhR=>?_)
 ·refine Qc<|Qe ?_;exact Qm ⟨[.bool false],Z,gt.trans hQ,false,O,λh=>by cases h⟩
 refine Qi<|Qz<|x (Yv O O ⟨by omega,by have:=hr.2.1;omega⟩)<|Qb<|xe ?_;exact ⟨i+1,by omega,Z,hc,hb.trans hQ,ha (by rw[hq];exact hz hR)⟩
theorem Qgn {L:LN}{w:World}{v:Value}{S:Nat}{c:Zv}{E:LN}{g:Nat}{fn:Func}[Fu prog g fn] {cap:LV}{q:Nat→Bool}(h:Zq L w.heap v E.length 3 (E.flatMap (zK S c)))
  (hk:∀(m:Nat) (H:World),Step [] w H→QI prog g ([.agg (zK S c m).toArray]++cap) H λr w'=>r=.bool (q m)∧Step [] H w') :
  QI prog 62 [v,.func (.func g) #[] cap.toArray] w λr w'=>Step [] w w'∧∃i:Int,r=.int .i64 i∧((i=-1∧∀m∈E,q m=false)∨∃k:Nat,∃m,E[k]?=some m∧i=(k:Int)∧q m=true):=by
 have hf:=h.le;refine QI.of_W func62 O ntmps62 results62 (by simp) ?_;refine Qc<|Qe<|Qg<|Qc<|Qb<|x (Qs h O)<|Qb<|xe<|Qh<|QA (α:=Nat) [(4,5),(8,18)] (λz=>[(8,.int .i64 z)]) (λz w'=>z≤E.length∧Step [] w w'∧∀m∈E.take z,q m=false) (λz=>E.length - z) (by rfl) 0 Z ⟨Lj _,Step.refl _ _,λm hm=>by simp at hm⟩ ?_;rintro k g' H ⟨hg,I,T⟩;refine Qc<|x (QB O O)<|xe ?_
 refine Qg<|QH O (λh9=>?_) (λh9=>?_)
 ·refine Qy ?_;have he:E.length≤k:=by have J:¬(k:Int)<(E.length:Int):=h9;omega
  rw[Ll he] at T;refine Qc<|Qe ?_;exact Qm ⟨[.int .i64 (-1)],Z,I,-1,O,.inl ⟨O,T⟩⟩
 have G:k<E.length:=by have J:(k:Int)<(E.length:Int):=h9;omega
 have V:E.take (k+1)=E.take k++[E[k]'G]:=Le G;have Y:E[k]?=some (E[k]'G):=Lv G;refine Qi<|Qg<|Qh<|Qc<|Qb<|Qe<|Qc<|Qb<|Qb<|Qb<|xig (g:=zK S c) (i:=k) (VW S c) (h.ext I) O O G λhh ha=>?_;refine Zh (E[k]'G) λm hm=>?_;rw[hm] at ha V Y;refine x (QF ha O O)<|xl O<|xc (first:=[]) (capt:=cap) O<|(hk m H I).mono ?_
 rintro r2 w2 ⟨rfl,hb⟩;refine xe<|Q2 rfl (λJ=>?_) (λJ=>?_)
 ·refine Qc<|Qb<|Qe ?_;exact Qm ⟨[.int .i64 k],Z,I.trans hb,k,O,.inr ⟨k,m,Y,O,J⟩⟩
 refine Qi<|Qz<|QN O O<|Qb<|xe<|⟨k+1,by omega,Z,G,I.trans hb,λm' hc=>?_⟩;rw[V] at hc;rcases Li.1 hc with h1 | h1
 ·exact T m' h1
 simp only[List.mem_singleton] at h1;subst h1;exact J
theorem QgV {w:World}{E G m:Nat}{c:Zv}{q:MV}(I:Q4 w.heap G 39 (ZC q)) :
  QI prog 63 [.agg (zK E c m).toArray,.pointer (some ⟨G,0,none⟩)] w λr w'=>r=.bool (decide ((m:Int)+1=q.kd))∧Step [] w w':=by
 refine QI.of_W func63 O ntmps63 results63 (by simp) ?_;refine Qc<|xl O<|QQ (us:=zK E c m) O λS T H V J=>Qe<|Qc<|x (Qa O)<|x (Qd J O O)<|x (Qa O)<|x (Qd (I.ext H) O O)<|x (Q5 O O)<|Qe ?_;exact Qm ⟨[_],Z,O,H⟩
set_option maxHeartbeats 4000000 in
theorem qu {L:LN}{w:World}{c:CL}{q:MV}(h0:ZB L w.heap c) (hG:QK L w.heap q.v q.co) :
  QI prog 17 [c.val,.agg #[.int .i64 q.kd,.int .i64 q.ix,q.v]] w λr w'=>r=.int .i64 (mdE c.cel q.m)∧Step [] w w':=by
 have h:=h0.up (L':=[]) (by simp);have hm:=hG.up (L':=[]) (by simp);have G:mdE c.cel q.m=if Q8 c.cel≠0 then Q8 c.cel else if q.kd<1∨3<q.kd then 11 else if q.ix<0∨((srK c.cel q.kd).length:Int)≤q.ix then 10 else if q.co=setK ((srK c.cel q.kd).getD q.ix.toNat 0) 8 then 0 else 13:=rfl
 refine Zh (mdE c.cel q.m) λE hE=>?_;rw[hE] at G ⊢;refine QI.of_W func17 O ntmps17 results17 (by simp) ?_;refine Qc<|xl O<|QQ (us:=c.cells) O λb2 w1 hH gg hy=>xl O<|QQ (us:=ZC q) O λb3 w2 hf gh hI=>Qe ?_;have h1:=hH.trans hf;refine Qg<|Qc<|x (Qr (hy.ext hf) O O)<|xl O<|xf<|(Ym (h.ext h1)).mono ?_;rintro r3 w3 ⟨rfl,hg⟩;refine Qe ?_;have hh:=h1.trans hg
 have hJ:=(hy.ext hf).ext hg;have hK:=hI.ext hg;refine Qc<|Qb<|x (Q9 O O)<|xe<|Q7 rfl (λha=>?_) (λha=>?_)
 ·rw[if_pos ha] at G;subst G;refine Qc<|Qb<|Qe ?_;exact Qm ⟨[_],Z,O,hh⟩
 rw[if_neg ha] at G;have hj:JQ c.cel:=(ZF (Lq.1 ha)).sr;refine Qi<|Qc<|x (Qr hJ O O)<|xl O<|xf<|(J1 (h.ext hh)).mono ?_;rintro r4 w4 ⟨h2,H,bs,hS⟩;have hL:=hS.r;subst hL;refine Qe ?_;have hM:=hh.trans h2;have h3:=hK.ext h2
 have hA:Zq [] w4.heap (.slice (some ⟨bs,0,none⟩) 3 3) [0,1,2].length 3 ([0,1,2].flatMap (zK H c.cel)):=hS.B.arr (by simp) (n:=3) (cap:=3) (sz:=3) (by rfl) (by omega) (Lr _);refine Qc<|Qb<|x (Zp (l:=[]) (l':=[_]))<|xl O<|xf<|(Qgn (q:=λm=>decide ((m:Int)+1=q.kd)) (cap:=[.pointer (some ⟨b3,0,none⟩)]) hA (λm w5 I=>QgV (h3.ext I))).mono ?_;rintro r5 w5 ⟨I,i,rfl,hi⟩;refine Qe ?_
 have h4:=hM.trans I;have hl:=h3.ext I;have h5:=hA.ext I;have hN:Q4 w5.heap H 47 c.cells:=hS.B1.ext I;refine Qg<|Qh<|Qc<|Qb<|x (QB O O)<|Qe<|Q7 O (λhn=>?_) (λhn=>?_)
 ·have ho:q.kd<1∨3<q.kd:=by
   rcases hi with ⟨_,hi⟩ | ⟨k,m,_,hi,_⟩
   ·have e0:=of_decide_eq_false (hi 0 (by simp));have e1:=of_decide_eq_false (hi 1 (by simp));have e2:=of_decide_eq_false (hi 2 (by simp));omega
   have gi:i<0:=hn;omega
  rw[if_pos ho] at G;subst G;refine Qc<|Qe ?_;exact Qm ⟨[_],Z,O,h4⟩
 obtain ⟨m,J,hO,ho⟩:∃m:Nat,m<3∧i=(m:Int)∧q.kd=(m:Int)+1:=by
  rcases hi with ⟨hi,_⟩ | ⟨k,m,hk,hi,hq⟩
  ·exact absurd (by rw[hi];decide:i<0) hn
  have gj:=of_decide_eq_true hq;obtain ⟨hP,hk⟩:=LY.1 hk;have hQ:k<3:=hP;have gk:m=k:=by rcases k with _ | _ | _ | k <;> first | exact hk.symm | omega
  exact ⟨k,hQ,hi,by omega⟩
 subst hO;rw[if_neg (by omega),show srK c.cel q.kd=YR c.cel m by rw[ho]] at G;have gl:=Ks hj J;have h6:([0,1,2]:LN)[m]'J=m:=by rcases m with _ | _ | _ | m <;> first | rfl | omega
 refine Q0 (α:=Bool) [(21,34)] (λz=>[(21,.bool z)]) (λz w'=>Step [] w5 w'∧z=decide (q.ix<0∨((YR c.cel m).length:Int)≤q.ix)) (by rfl) ?_ ?_
 ·refine QW (Step [] w5) [(0,true),(1,true),(2,true),(3,true),(4,true),(5,true),(6,true),(7,true),(8,true),(9,true),(10,true),(11,true),(12,true),(13,true)] mixed (by rfl) (by kernel_rfl) (Step.drew _ _) ?_;refine p (λ_=>Qa O)<|pq (λ_ hc=>Qd (hl.ext hc) O O)<|pb (λ_=>QB O O) (λhp=>?_) (λhp=>?_)
  ·refine p (λ_=>Qo)<|ps<|ps<|ps<|ps<|ps<|ps<|ps<|ps<|p (λ_=>Qj O)<|p (λ_=>Qf)<|pe ?_;have ht:q.ix<0:=hp;exact ⟨true,Z,Step.drew _ _,by rw[decide_eq_true (.inl ht)]⟩
  refine p (λ_=>Qo)<|p (λ_=>Qa O)<|pq (λ_ hc=>Qd (hl.ext hc) O O)<|p (λ_=>Qo)<|p (λ_=>Qo) <|
   Go.Lg.pig (g:=zK H c.cel) (i:=m) O (VW H c.cel) h5 O O J λgm h7=>?_
  rw[h6] at h7;refine p (λ_=>Zb O)<|pq (λ_ hc=>Qv ((h7.fld 1 (.int .i64 (YR c.cel m).length) O).st hc) O)<|p (λ_=>ZX O O) <|
   p (λ_=>Qj O)<|p (λ_=>Qf)<|pe ?_
  have ht:¬q.ix<0:=hp;refine ⟨decide (((YR c.cel m).length:Int)≤q.ix),Z,Step.drew _ _,?_⟩;rw[decide_eq_decide];exact ⟨.inr,λh=>h.resolve_left ht⟩
 rintro z g T ⟨hb,hz⟩;have V:=h4.trans hb;refine Q2 rfl (λhu=>?_) (λhu=>?_)
 ·rw[if_pos (of_decide_eq_true (hz.symm.trans hu))] at G;subst G;refine Qc<|Qe ?_;exact Qm ⟨[_],Z,O,V⟩
 have hR:=of_decide_eq_false (hz.symm.trans hu);rw[if_neg hR] at G;have hT:q.ix=(q.ix.toNat:Int):=by omega
 have S:q.ix.toNat<(YR c.cel m).length:=by omega
 have hU:(YR c.cel m).getD q.ix.toNat 0=(YR c.cel m)[q.ix.toNat]'S:=by simp[List.getD,S]
 have h8:=Jj hj J _ (Lc S);rw[hU] at G;have h9:=hl.ext hb;have hV:=h5.ext hb;have hv:Step [] T { T with drawn:=T.drawn+1 }:=Step.drew _ _
 have gn:=V.trans hv;have hW:∀{w':World},Step [] T w'→QI prog (gK m) [.int .i64 q.ix,.pointer (some ⟨H,0,none⟩)] w' λr hX=>r=.int .u16 ((YR c.cel m)[q.ix.toNat]'S:Nat)∧Step [] w' hX:=by
  intro w' hs;have:=jt ((hN.ext hb).ext hs) ((h.ext V).ext hs) hj J S;rw[←hT] at this;exact this
 refine Qg<|QW (Step [] T) [(0,true),(1,true),(2,true),(3,true),(4,true),(5,true),(6,true),(7,true),(8,true),(9,false),(10,false),(11,false),(12,true),(13,true)] mixed (by rfl) (by kernel_rfl) (Step.drew _ _) ?_;refine p (λ_=>Qa O)<|pq (λ_ hc=>Qd (h9.ext hc) O O)<|p (λ_=>Qo)<|p (λ_=>Qo)<|Go.Lg.pig (g:=zK H c.cel) (i:=m) O (VW H c.cel) hV O O J λgo hB=>?_;rw[h6] at hB
 refine p (λ_=>Zb O)<|pq (λ_ hc=>Qv ((hB.fld 2 (.func (.func (gK m)) #[] #[.pointer (some ⟨H,0,none⟩)]) O).st hc) O)<|p (λ_=>Qa O)<|pq (λ_ hc=>Qd (h9.ext hc) O O) <|
  pk<|xcG (first:=[]) (capt:=[.pointer (some ⟨H,0,none⟩)]) (Qd7 m) O<|(hW hv).mono ?_
 rintro r7 w7 ⟨rfl,hY⟩;refine Zh ((YR c.cel m)[q.ix.toNat]'S) λbv hZ=>?_;rw[hZ] at G h8 ⊢;have hC:=hv.trans hY;refine ⟨hC,?_⟩;refine pk<|xf<|(zn bv h8 w7).mono ?_;rintro r8 w8 ⟨ga,gb⟩;have he:=hC.trans ga;refine ⟨he,?_⟩;have gp:=Jl bv 8;refine pk<|xf<|(JK (hm.ext (V.trans he)) (Qu.ints (L:=[]) gb (by omega) (by simp))).mono ?_;rintro r9 w9 ⟨rfl,hD⟩
 refine ⟨he.trans hD,?_⟩;refine p (λ_=>Zs O)<|p (λ_=>Qf)<|pe ?_;have hF:=(V.trans he).trans hD;refine Q2 rfl (λhw=>?_) (λhw=>?_)
 ·have gc:¬q.co=setK bv 8:=by
   intro e;have Y:(!decide (q.co=setK bv 8))=true:=hw;rw[decide_eq_true e] at Y;cases Y
  rw[if_neg gc] at G;subst G;refine Qc<|Qe ?_;exact Qm ⟨[_],Z,O,hF⟩
 have ge:q.co=setK bv 8:=by
  refine Decidable.byContradiction λe=>?_;have Y:(!decide (q.co=setK bv 8))=false:=hw;rw[decide_eq_false e] at Y;cases Y
 rw[if_pos ge] at G;subst G;refine Qi<|Qc<|Qe ?_;exact Qm ⟨[_],Z,O,hF⟩
end Go.Proofs.YtdffckgdcegpaaaGreatDoor
namespace Go.Lg
section
variable {P:Program} {f:Fr} {w:World} {d:Option Nat} {ty:Nat} {ps:String} {af:Array Edge} {gd:Option (Nat×Bool)}
abbrev i2 (p:Int×Int):LV:=[.int .i64 p.1,.int .i64 p.2]
abbrev i5 (a:ByteArray) (b c e:Bool) (i:Int):LV:=[.string a,.bool b,.bool c,.bool e,.int .i64 i]
end
end Go.Lg
namespace Go.Proofs.YtdffckgdcegpaaaGreatDoor
open Go.Lg
end Go.Proofs.YtdffckgdcegpaaaGreatDoor
namespace Go.Proofs
open Go.Proofs.Tryz
open Go.Shelf
def Tryz.sortEd_ren:Go.Shelf.Ren:=⟨λ| 6=>245 | 15=>176 | 14=>277 | 28=>229 | 29=>230 | 20=>298 | 21=>299 | 22=>300 | 23=>301 | 24=>302 | 25=>303 | 26=>304 | 27=>305 | 46=>316 | 47=>268 | 48=>269 | 49=>317 | 50=>318 | 57=>323 | n=>n,λ| 22=>56 | 24=>144 | 25=>356 | 3=>3 | 39=>269 | 0=>0 | 53=>338 | 55=>340 | 4=>4 | 46=>332 | 45=>331 | 50=>178 | 5=>5 | 9=>9 | 66=>372 | 70=>376 | 76=>401 | 77=>381 | n=>n,λ| n=>n⟩
theorem Tryz.sortEd:Go.Proofs.SlLaysF0.n6 prog Tryz.sortEd_ren:={
 mixed:=by kernel_rfl
 f6:=⟨Tryz.f245.name,by decide,func245.trans (congrArg some (by kernel_rfl))⟩
 f14:=⟨Tryz.f277.name,by decide,func277.trans (congrArg some (by kernel_rfl))⟩
 f15:=func176.trans (congrArg some (by kernel_rfl))
 f20:=⟨Tryz.f298.name,by decide,func298.trans (congrArg some (by kernel_rfl))⟩
 f21:=⟨Tryz.f299.name,by decide,func299.trans (congrArg some (by kernel_rfl))⟩
 f22:=⟨Tryz.f300.name,by decide,func300.trans (congrArg some (by kernel_rfl))⟩
 f23:=⟨Tryz.f301.name,by decide,func301.trans (congrArg some (by kernel_rfl))⟩
 f24:=⟨Tryz.f302.name,by decide,func302.trans (congrArg some (by kernel_rfl))⟩
 f25:=⟨Tryz.f303.name,by decide,func303.trans (congrArg some (by kernel_rfl))⟩
 f26:=⟨Tryz.f304.name,by decide,func304.trans (congrArg some (by kernel_rfl))⟩
 f27:=⟨Tryz.f305.name,by decide,func305.trans (congrArg some (by kernel_rfl))⟩
 f28:=func229.trans (congrArg some (by kernel_rfl))
 f29:=func230.trans (congrArg some (by kernel_rfl))
 f46:=⟨Tryz.f316.name,by decide,func316.trans (congrArg some (by kernel_rfl))⟩
 f47:=func268.trans (congrArg some (by kernel_rfl))
 f48:=func269.trans (congrArg some (by kernel_rfl))
 f49:=⟨Tryz.f317.name,by decide,func317.trans (congrArg some (by kernel_rfl))⟩
 f50:=⟨Tryz.f318.name,by decide,func318.trans (congrArg some (by kernel_rfl))⟩
 f57:=⟨Tryz.f323.name,by decide,func323.trans (congrArg some (by kernel_rfl))⟩
 t0:=underlying0
 a0:=Tryz.isAgg0
 z0:=Tryz.sizeOf0
 v0:=Tryz.zeroValue0
 t3:=underlying3
 a3:=Tryz.isAgg3
 z3:=Tryz.sizeOf3
 v3:=Tryz.zeroValue3
 t4:=underlying4
 a4:=Tryz.isAgg4
 z4:=Tryz.sizeOf4
 v4:=Tryz.zeroValue4
 t5:=underlying5
 a5:=Tryz.isAgg5
 z5:=Tryz.sizeOf5
 v5:=Tryz.zeroValue5
 t9:=underlying9
 a9:=Tryz.isAgg9
 z9:=Tryz.sizeOf9
 v9:=Tryz.zeroValue9
 t22:=underlying56
 a22:=Tryz.isAgg56
 z22:=Tryz.sizeOf56
 v22:=Tryz.zeroValue56
 t25:=underlying356
 a25:=Tryz.isAgg356
 z25:=Tryz.sizeOf356
 v25:=Tryz.zeroValue356
 t39:=underlying269
 a39:=Tryz.isAgg269
 z39:=Tryz.sizeOf269
 v39:=Tryz.zeroValue269
 t45:=underlying331
 a45:=Tryz.isAgg331
 z45:=Tryz.sizeOf331
 v45:=Tryz.zeroValue331
 t46:=underlying332
 a46:=Tryz.isAgg332
 z46:=Tryz.sizeOf332
 v46:=Tryz.zeroValue332
 t50:=underlying178
 a50:=Tryz.isAgg178
 z50:=Tryz.sizeOf178
 v50:=Tryz.zeroValue178
 t53:=underlying338
 a53:=Tryz.isAgg338
 z53:=Tryz.sizeOf338
 v53:=Tryz.zeroValue338
 t55:=underlying340
 a55:=Tryz.isAgg340
 z55:=Tryz.sizeOf340
 v55:=Tryz.zeroValue340
 t66:=underlying372
 a66:=Tryz.isAgg372
 z66:=Tryz.sizeOf372
 v66:=Tryz.zeroValue372
 t70:=underlying376
 a70:=Tryz.isAgg376
 z70:=Tryz.sizeOf376
 v70:=Tryz.zeroValue376
 t76:=underlying401
 a76:=Tryz.isAgg401
 z76:=Tryz.sizeOf401
 v76:=Tryz.zeroValue401
 t77:=underlying381
 a77:=Tryz.isAgg381
 z77:=Tryz.sizeOf381
 v77:=Tryz.zeroValue381 }
end Go.Proofs
namespace Go.Proofs.YtdffckgdcegpaaaGreatDoor
open Go.Proofs.Tryz
open Go.Lg Go.Sort
abbrev Ez:={ x:Ed // (0≤x.1∧x.1<1099511627776)∧0≤x.2.1∧x.2.1<1099511627776 }
instance:Inhabited Ez:=⟨⟨(0,0,0),by decide⟩⟩
abbrev VG (x:Ez):LV:=[.int .i64 x.1.1,.int .i64 x.1.2.1,.int .i64 x.1.2.2]
abbrev EzO (base:Nat) (w:World) (v:Value) (l:List Ez):Prop:=w.ownsRow base 144 3 v l.length (l.flatMap VG)
def ecf (x y:Ez):Int:=if x.1.1=y.1.1 then x.1.2.1 - y.1.2.1 else x.1.1 - y.1.1
set_option maxHeartbeats 1000000 in
theorem Qjz (x y:Ez) (W:World):Calls prog 308 #[.agg (VG x).toArray,.agg (VG y).toArray] W λe w'=>e=.returned (.int .i64 (ecf x y))∧∃q os',w'=grow (W.drewN q) os':=by
 have E:IntKind.i64.wrap (x.1.1 - y.1.1)=x.1.1 - y.1.1:=Yj ⟨by have:=x.2;have:=y.2;omega,by have:=x.2;have:=y.2;omega⟩;have G:IntKind.i64.wrap (x.1.2.1 - y.1.2.1)=x.1.2.1 - y.1.2.1:=Yj ⟨by have:=x.2;have:=y.2;omega,by have:=x.2;have:=y.2;omega⟩
 go_enter func308,ntmps308
 go_wp2
 ·go_ret;rename_i h;exact ⟨by rw[ecf,if_neg (by simpa using h)];rfl,0,_,by rw[alloc_eq_grow,alloc_eq_grow,grow_grow];rfl⟩
 go_ret;rename_i h;exact ⟨by rw[ecf,if_pos (by simpa using h)];rfl,0,_,by rw[alloc_eq_grow,alloc_eq_grow,grow_grow];rfl⟩
set_option maxHeartbeats 1000000 in
theorem QjA (x y:Ez) (W:World):Calls prog 246 #[.agg (VG x).toArray,.agg (VG y).toArray] W λe w'=>e=.returned (.int .i64 (ecf x y))∧∃q os',w'=grow (W.drewN q) os':=by
 have E:IntKind.i64.wrap (x.1.1 - y.1.1)=x.1.1 - y.1.1:=Yj ⟨by have:=x.2;have:=y.2;omega,by have:=x.2;have:=y.2;omega⟩;have G:IntKind.i64.wrap (x.1.2.1 - y.1.2.1)=x.1.2.1 - y.1.2.1:=Yj ⟨by have:=x.2;have:=y.2;omega,by have:=x.2;have:=y.2;omega⟩
 go_enter func246,ntmps246
 go_wp2
 ·go_ret;rename_i h;exact ⟨by rw[ecf,if_neg (by simpa using h)];rfl,0,_,by rw[alloc_eq_grow,alloc_eq_grow,grow_grow];rfl⟩
 go_ret;rename_i h;exact ⟨by rw[ecf,if_pos (by simpa using h)];rfl,0,_,by rw[alloc_eq_grow,alloc_eq_grow,grow_grow];rfl⟩
theorem zB (x:Ez):(VG x).length=3:=rfl
theorem jU:∀l:List Ez,(l.flatMap VG).length=l.length*3
 | []=>rfl
 | x::l=>by rw[LB,Lk,jU l,zB,LQ];omega
theorem Qa5 {l:List Ez}{j:Nat}(G:j<l.length*3):(l.flatMap VG)[j]?=some ((flatK VG 3 l.toArray)[j]!):=by
 have h1:j / 3<l.length:=Nat.div_lt_of_lt_mul (by omega);have h2:j % 3<3:=Nat.mod_lt _ (by decide);rw[get_flatK _ _ _ _ (by simpa using G)];have h3:=YU VG 3 zB l (j / 3) h1;have H:(l.flatMap VG)[j]?=(VG (l[j / 3]'h1))[j % 3]?:=by
  rw[←h3,LK,if_pos h2,MM];congr 1;omega
 rw[H];have h5:(l.toArray)[j / 3]! = l[j / 3]'h1:=by simp[h1]
 rw[h5];have E:j % 3<(VG (l[j / 3]'h1)).length:=h2;exact (Lv E).trans (congrArg some (getElem!_pos (VG (l[j / 3]'h1)) (j % 3) E).symm)
theorem Qey (x y:Ez):ltOf ecf x y=true↔x.1.1<y.1.1∨x.1.1=y.1.1∧x.1.2.1<y.1.2.1:=by
 unfold ltOf ecf;rw[decide_eq_true_iff];split <;> omega
theorem zD (x y:Ez):ltOf ecf x y=false↔y.1.1<x.1.1∨y.1.1=x.1.1∧y.1.2.1≤x.1.2.1:=by
 rw[←Bool.not_eq_true,Qey];omega
theorem Qih:SWO (ltOf ecf) where
 irrefl x:=by rw[zD];omega
 trans x y z h1 h2:=by rw[Qey] at *;omega
 ntrans x y z h1 h2:=by rw[zD] at *;omega
theorem QfT {α:Type}[Inhabited α] {lt:α→α→Bool}{d E:Array α}(H:PermIn 0 d.size d E) (I:SortedIn lt 0 d.size E):E.toList.Perm d.toList∧E.toList.Pairwise (λx y=>lt y x=false):=by
 obtain ⟨J,_,G⟩:=H;have e1:E.extract 0 d.size=E:=by rw[←J];exact Array.extract_size
 rw[e1,Array.extract_size] at G;refine ⟨G,?_⟩;rw[LM];intro i j hi S T;have V:i<E.size:=by simpa using hi
 have Y:j<E.size:=by simpa using S
 have:=I i j (Lj _) T (by omega);rw[getElem!_pos E j Y,getElem!_pos E i V] at this;simpa using this
set_option maxHeartbeats 1000000 in
theorem jw {g:Nat}(eg:∀args w,(callFunc g args).run prog w=.ok (.enter g args) w) (hb:∀(x y:Ez) (W:World),Calls prog g #[.agg (VG x).toArray,.agg (VG y).toArray] W λe w'=>e=.returned (.int .i64 (ecf x y))∧∃q os',w'=grow (W.drewN q) os')
  {w:World} {base:Nat} {v:Value} {l:List Ez} (h:EzO base w v l) (hl:l.length≤1099511627776) :
  QI prog 245 [v,.func (.func g) #[] #[]] w λ_ w'=>Step (ob v) w w'∧∃l':List Ez,l'.Perm l∧l'.Pairwise (λx y=>ltOf ecf y x=false)∧EzO base w' v l':=by
 unfold QI;rcases h.2 with ⟨rfl,h0⟩ | ⟨gb,cap,cur,rfl,hf,H,S,hh,T,hm⟩
 ·have ho:l=[]:=Ln h0;subst ho;have hc:=AnyF.slices_SortFunc_none Tryz.sortEd none 0 (.func (.func g) #[] #[]) w;change Calls prog 245 _ _ _ at hc;refine Calls.mono hc λe w' he=>?_;obtain ⟨rfl,rfl⟩:=he;exact ⟨Step.refl _ _,[],List.Perm.refl _,List.Pairwise.nil,h⟩
 have V:gb<w.heap.size:=(Lz.1 H).1;have ht:l.length*3≤cur.size:=by rw[T];exact Mm _ S
 have hH:HoldsK VG 3 w gb 0 l.toArray:=by
  intro j E;rw[size_flatK,LU] at E;have h1:=Qa5 E;rw[←hm,LK,if_pos E] at h1;constructor
  ·show (match w.heap[gb]? with | some (.cells c _ _)=>if (none:Option _).isSome then none else c[0+j]? | _=>none)=_
   rw[H];simp only[Nat.zero_add,Option.isSome_none,Bool.false_eq_true,if_false];rw[←L2,h1];rfl
  show (match w.heap[gb]? with | some (.cells _ _ (lo,hi))=>decide (lo≤0+j) && decide (0+j<hi) | _=>false)=false
  rw[H];simp
 have hc:=AnyQ.slices_SortFunc Tryz.sortEd 3 Tryz.isAgg144 Tryz.sizeOf144 VG zB (λx v Y=>by simp at Y;rcases Y with rfl | rfl | rfl <;> rfl) ecf Qih g #[] gb 0 cap l.toArray w eg (λm os dk _ x y=>hb x y _) hH V (by simp;omega)
 change Calls prog 245 _ _ _ at hc;rw[LU] at hc;refine Calls.mono hc λe w' he=>?_;obtain ⟨rfl,G,n,os,hp,hq,rfl⟩:=he;have I:G.size=l.length:=by have:=hp.1;simpa using this
 have ha:=QfT (d:=l.toArray) (by rw[LU];exact hp) (by rw[LU];exact hq);have J:(sortWorldK VG 3 w gb 0 n G os).heap=w.heap.modify gb (onCells (putCells id 0 (flatK VG 3 G)))++os:=rfl;refine ⟨⟨rfl,O,O,?_,λk hk hn=>?_⟩,G.toList,ha.1,ha.2,?_⟩
 ·rw[J,MQ,L5];omega
 ·rw[J,L8,L5,if_pos hk,Mg,if_neg (λe=>hn (by simp[ob,e]))]
 refine ⟨jU _,.inr ⟨gb,cap,putCells id 0 (flatK VG 3 G) cur,by simp[I],hf,?_,by simp[I];exact S,hh,by simp[putCells,T],?_⟩⟩
 ·rw[J,L8,L5,if_pos V,Mg,if_pos rfl,H];rfl
 apply M2;intro j;rw[LK];by_cases E:j<G.toList.length*3
 ·rw[if_pos E,Qa5 E,L2];have hr:j<cur.size:=by simp[I] at E;omega
  have hs:j<(flatK VG 3 G).size:=by simpa using E
  simp only[putCells,Array.getElem?_mapIdx,Array.getElem?_eq_getElem hr,Option.map_some,Nat.zero_le,Nat.zero_add,true_and,if_pos hs,Nat.sub_zero,id]
 rw[if_neg E,M0];rw[jU];omega
theorem Qeo:∀l:List Ez,(l.map (·.1)).flatMap Qw=l.flatMap VG
 | []=>rfl
 | x::l=>by rw[LP,LB,LB,Qeo l];rfl
theorem Qa4:∀l:List Ed,(∀e∈l,(0≤e.1∧e.1<1099511627776)∧0≤e.2.1∧e.2.1<1099511627776)→∃zs:List Ez,zs.map (·.1)=l
 | [],_=>⟨[],O⟩
 | e::l,h=>by
  obtain ⟨zs,h1⟩:=Qa4 l (λd hd=>h d (Lm _ hd));exact ⟨⟨e,h e Ls⟩::zs,by rw[LP,h1]⟩
abbrev yI (x y:Ed):Prop:=x.1<y.1∨x.1=y.1∧x.2.1≤y.2.1
theorem qd {g:Nat}(eg:∀args w,(callFunc g args).run prog w=.ok (.enter g args) w) (E:∀(x y:Ez) (W:World),Calls prog g #[.agg (VG x).toArray,.agg (VG y).toArray] W λe w'=>e=.returned (.int .i64 (ecf x y))∧∃q os',w'=grow (W.drewN q) os')
  {w:World} {base:Nat} {v:Value} {l:List Ed} (h:w.ownsRow base 144 3 v l.length (l.flatMap Qw)) (hl:l.length≤1099511627776) (hb:∀e∈l,(0≤e.1∧e.1<1099511627776)∧0≤e.2.1∧e.2.1<1099511627776) :
  QI prog 245 [v,.func (.func g) #[] #[]] w λ_ w'=>Step (ob v) w w'∧∃l':List Ed,l'.Perm l∧l'.Pairwise yI∧w'.ownsRow base 144 3 v l'.length (l'.flatMap Qw):=by
 obtain ⟨zs,rfl⟩:=Qa4 l hb;rw[Lh] at hl;rw[Lh,Qeo] at h;refine (jw eg E h hl).mono λ_ _ ⟨h1,l',h2,h3,G⟩=>⟨h1,l'.map (·.1),h2.map _,?_,by rw[Lh,Qeo];exact G⟩;rw[L7];refine h3.imp λ{x y} H=>?_;have:=(zD y x).1 H;exact this
theorem qU {w:World}{base:Nat}{v:Value}{l:List Ed}(h:w.ownsRow base 144 3 v l.length (l.flatMap Qw)) (hl:l.length≤1099511627776) (hb:∀e∈l,(0≤e.1∧e.1<1099511627776)∧0≤e.2.1∧e.2.1<1099511627776) :
  QI prog 282 [v] w λ_ w'=>Step (ob v) w w'∧∃l':List Ed,l'.Perm l∧l'.Pairwise yI∧w'.ownsRow base 144 3 v l'.length (l'.flatMap Qw):=by
 refine QI.of_W func282 O ntmps282 results282 (by simp) ?_;refine Qz<|Qb<|xl O<|xf<|(qd (enters_of func308 (by kernel_rfl) O) Qjz h hl hb).mono ?_;rintro E G h1;refine xe ?_;exact ⟨[],U,h1⟩
theorem Qbz {w:World}{base:Nat}{v:Value}{l:List Ed}(h:w.ownsRow base 144 3 v l.length (l.flatMap Qw)) (hl:l.length≤1099511627776) (hb:∀e∈l,(0≤e.1∧e.1<1099511627776)∧0≤e.2.1∧e.2.1<1099511627776) :
  QI prog 245 [v,.func (.func 246) #[] #[]] w λ_ w'=>Step (ob v) w w'∧∃l':List Ed,l'.Perm l∧l'.Pairwise yI∧w'.ownsRow base 144 3 v l'.length (l'.flatMap Qw) :=
 qd (enters_of func246 (by kernel_rfl) O) QjA h hl hb
def cmF (c:Zv) (l:List (LI)):LI:=l.zipIdx.filterMap λp=>if (Kl c.ex c.cs p.1).2.2=true then some (p.2:Int) else none
theorem QeF {c:Zv}{l:List (LI)}{k:Nat}(h:k<l.length):cmF c (l.take (k+1))=cmF c (l.take k)++(if (Kl c.ex c.cs (l[k]'h)).2.2=true then [(k:Int)] else []):=by
 unfold cmF;rw[Le h,List.zipIdx_append,List.filterMap_append];have e:0+(l.take k).length=k:=by rw[Lx];omega
 rw[e];simp only[List.zipIdx_cons,List.zipIdx_nil,List.filterMap_cons,List.filterMap_nil];by_cases E:(Kl c.ex c.cs (l[k]'h)).2.2=true
 ·rw[if_pos E,if_pos E]
 rw[if_neg E,if_neg E]
theorem QgU (c:Zv) (l:List (LI)):(cmF c l).length≤l.length:=by
 unfold cmF;refine LS (List.length_filterMap_le _ _) ?_;rw[List.length_zipIdx];exact Lr _
def Qbe (c:Zv):Bool:=match sync (auts c.co),sync (auts c.co++auts c.rq) with
 | some (pa,ps),some (_,ts)=>ts.all λt=>decide ((wrf c.rq (t.drop c.co.length) (enb pa (plx ps (t.take c.co.length)))).length≤1)
 | _,_=>false
def cmB (c:Zv):LI:=match sync (auts c.co++auts c.rq) with
 | some (sa,ts)=>cmF c (ts.map (·.take c.co.length))++[sa.st]
 | none=>[]
structure jj (b2 base:Nat) (W:World) (xa:Value) (st:Int) (xm vb ve:Value) (bad:LI) (es:List Ed):Prop where
 B:Q4 W.heap b2 58 [xa,.int .i64 st,xm,ve]
 b:Qu 3 base W vb bad
 e:W.ownsRow base 144 3 ve es.length (es.flatMap Qw)
 dj:Dj vb ve
 bd:∀e∈es,(0≤e.1∧e.1<1099511627776)∧0≤e.2.1∧e.2.1<1099511627776
theorem jj.ext {E base:Nat}{W W':World}{xa:Value}{st:Int}{xm vb ve:Value}{bad:LI}{G:List Ed}(h:jj E base W xa st xm vb ve bad G) (hs:Step [] W W'):jj E base W' xa st xm vb ve bad G :=
 ⟨h.B.ext hs,Qq h.b hs,Qq h.e hs,h.dj,h.bd⟩
theorem jj.addB {E base:Nat}{W W':World}{xa:Value}{st:Int}{xm vb G ve:Value}{bad bad':LI}{H:List Ed}(h:jj E base W xa st xm vb ve bad H) (hb:E<base) (hs:Step (ob vb) W W') (J:Qu 3 base W' G bad') (S:∀b∈ob G,b∈ob vb∨W.heap.size≤b):jj E base W' xa st xm G ve bad' H :=
 ⟨h.B.step hs (QU h.b hb),J,Qk h.e hs (λb hb hm=>h.dj b hm hb),λb T I=>(S b T).elim (λh1=>h.dj b h1 I) (λh1=>by have:=QO h.e b I;omega),h.bd⟩
theorem jj.addE {E base:Nat}{W W1 W':World}{xa:Value}{st:Int}{xm vb ve G:Value}{bad:LI}{H:List Ed}{e:Ed}(h:jj E base W xa st xm vb ve bad H) (hb:E<base) (hs:Step (ob ve) W W1) (J:W1.ownsRow base 144 3 G (H.length+1) (H.flatMap Qw++Qw e)) (V:∀b∈ob G,b∈ob ve∨W.heap.size≤b)
  (S:Step [E] W1 W') (Y:Q4 W'.heap E 58 [xa,.int .i64 st,xm,G]) (he:(0≤e.1∧e.1<1099511627776)∧0≤e.2.1∧e.2.1<1099511627776):jj E base W' xa st xm vb G bad (H++[e]):=by
 have hge:=Qn J;refine ⟨Y,Qk (Qk h.b hs (λb hb hm=>h.dj b hb hm)) S (λb I hm=>by have:=(Qn h.b b I).1;rw[La.1 hm] at this;omega),?_,λb T ha=>(V b ha).elim (λh1=>h.dj b T h1) (λh1=>by have:=QO h.b b T;omega),λd hd=>?_⟩
 ·have h9:=Qk J S (λb I hm=>by have:=(hge b I).1;rw[La.1 hm] at this;omega);rw[Lk,LA];simpa using h9
 rcases Li.1 hd with hd | hd
 ·exact h.bd d hd
 rw[La.1 hd];exact he
theorem jj.stb {G base B:Nat}{xa:Value}{st:Int}{xm vb ve:Value}{bad:LI}{H:List Ed}:ZU B (λW=>jj G base W xa st xm vb ve bad H) :=
 λW W' X h hs E=>⟨ZU.blk W W' X h.B hs E,ZU.row W W' X h.b hs E,ZU.row W W' X h.e hs E,h.dj,h.bd⟩
set_option maxHeartbeats 40000000 in
theorem jc {w:World}{c:CL}(h0:ZB [] w.heap c) (kk:Kb w 4096) (kn:Yr c.cel=0) (S:(spc c.cel).a.st<4096) (h1:Qbe c.cel=true) :
  QI prog 197 [c.val] w λr w'=>Step [] w w'∧∃xa xm xe vb,r=.tuple #[.agg #[xa,.int .i64 ((spc c.cel).a.st+1),xm,xe],vb,.int .i64 0]∧ZO [xa,xm,xe]∧Qu 3 w.heap.size w' vb (cmB c.cel):=by
 refine QI.of_G 20 func197 O ntmps197 results197 (by simp) ?_;refine QT<|QG (by rfl) (by rfl) ?_;refine xl rfl<|QQ (us:=c.cells) O λb1 w1 ko hb1 kp=>xl O<|Qt (us:=X0) O λE w2 gk hb2 kq=>x Qf<|Qe ?_;have hL:=ko.trans gk;have hz1:=ko.size;have hz2:=gk.size;have hl1:=kp.lt;have m5:=kq.lt;have m6:=kp.ext gk
 have kr:ZB [E] w2.heap c:=(h0.up (L':=[E]) (λb hb=>.inr (by rw[La.1 hb];omega))).ext hL;refine QT<|QG (by rfl) (by rfl) ?_;refine x (Qr m6 O O)<|xl O<|xf<|(yW (h0.ext hL) (kk.ext hL)).mono ?_;rintro r3 w3 ⟨gl,vp,rfl,_,m7⟩;obtain ⟨b,q,rfl,rfl,I,_,m8⟩:=m7 kn;rw[kn];have hv:=hL.trans gl
 have kt:Xl [E] b w3.heap q:=(m8 [E] (λx hx=>by rw[La.1 hx];exact m5)).2 kr;have hsp:=ju I.p I.s;have hst':q.s.a.st<4096:=by rw[hsp] at S;exact S
 have m9:cmB q.c.cel=cmF q.c.cel ((q.ts.map (·.2)).map (·.take q.c.cel.co.length))++[q.s.a.st]:=by unfold cmB;rw[I.s]
 have pa:∀t∈q.ts.map (·.2),(wrf q.c.cel.rq (t.drop q.c.cel.co.length) (enb q.p.a (plx (q.qs.map (·.2)) (t.take q.c.cel.co.length)))).length≤1:=λt ht=>by
  unfold Qbe at h1;rw[I.p,I.s] at h1;exact of_decide_eq_true (Mi.1 h1 t ht)
 have pc:(spc q.c.cel).a.st=q.s.a.st:=by rw[hsp]
 rw[pc,m9];refine Qb<|x (Ql O O)<|x (Ql O O)<|x Qf<|Qe<|QT<|QT<|QG (by rfl) (by rfl) ?_;refine Qb<|x (Q9 O O)<|xe<|JO rfl<|Z3 ?_;refine QT<|QG (by rfl) (by rfl) ?_;refine Qb<|x (QC O)<|x (Qa O)<|x (Qa O)<|x (Qd kt.B O O)<|xl O<|Qt (us:=[.int .i64 0]) O λb6 w4 pd pf pg=>xl O<|QL (j:=0) (u:=.int .i64 q.s.a.st) pg O O (by simp) rfl λG ph ku=>xe ?_
 have h6:Step [] w3 G:=pd.then1 ph pf;have hj:=kt.ext h6;have hz3:=gl.size;have hz35:=h6.size;have kv:=ku.lt;have pj:Q4 G.heap E 58 X0:=(kq.ext gl).ext h6;have hM:Q4 G.heap b6 3 [.int .i64 q.s.a.st]:=ku;have hst0:0≤q.s.a.st:=by
  have:=(YZ (λa ha=>by
   rcases Li.1 ha with ha | ha
   ·exact Yb (ZF I.ok).co a ha
   exact Yb (ZF I.ok).rq a ha) I.s).1.st
  omega
 refine QT<|QT<|QG (by rfl) (by rfl) ?_;refine x (Qd hM O O)<|x (ZX O O)<|xe<|Qg7 O (λkw=>absurd (show q.s.a.st≥4096 from kw) (by omega)) (λkw=>?_);refine Z3 ?_;have gm:Step [] G { G with drawn:=G.drawn+1 }:=Step.drew _ _
 refine QT<|UI (Step [] G) [(0,true),(1,true),(2,true),(3,true),(4,true),(6,true),(7,true),(8,true),(9,true),(10,true),(11,true),(12,true),(14,true),(15,true),(16,true),(17,true),(18,true),(5,false),(13,false),(19,false),(20,true),(21,false)] mixed (by rfl) (by rfl) (by kernel_rfl) gm ?_
 refine p (λ_=>Qo)<|p (λ_=>QC O)<|p (λ_=>Qa O)<|p (λ_=>Qa O)<|pq (λ_ hc=>Qd (hj.B.ext hc) O O)<|pq (λ_ hc=>Qd (hM.ext hc) O O)<|p (λ_=>Yv O O ⟨by omega,by omega⟩)<|p (λ_=>Qo)<|p (λ_=>QC O)<|p (λ_=>Qa O)<|p (λ_=>Qa O) <|
  pq (λ_ hc=>Qd (hj.B.ext hc) O O)<|p (λ_=>Qo)<|p (λ_=>QC O)<|p (λ_=>Qa O)<|p (λ_=>Qa O)<|pq (λ_ hc=>Qd (hj.B.ext hc) O O)<|pk<|xf<|(ZZ (hj.s.al.ext gm)).mono ?_
 rintro xa w6 ⟨pm,gn⟩;have go:=gm.trans pm;refine ⟨go,?_⟩;refine pk<|xf<|(ZZ (hj.s.mr.ext go)).mono ?_;rintro xm w7 ⟨pn,gp⟩;have hO:=go.trans pn;refine ⟨hO,?_⟩;refine pk<|xf<|(J7 (hj.s.ed.ext hO)).mono ?_;rintro hP w8 ⟨po,hR⟩;have gq:=hO.trans po;refine ⟨gq,?_⟩
 refine p (λ_=>QE ⟨QY gn,O,QY gp,QY hR,U⟩)<|pkl (hl:=by kernel_rfl)<|Qp (us:=[xa,.int .i64 (q.s.a.st+1),xm,hP]) (pj.ext gq) O O O O ⟨QJ gn,O,QJ gp,QJ hR,U⟩ λw9 kx pp=>pe ?_;have gr:Step [E] G w9:=gq.any.trans' kx;have hz7:=hO.size;have hz59:=gr.size;have h7:E<G.heap.size:=by omega
 have ky:=hj.st gr;have hS:ZO [xa,xm]:=⟨QJ gn,QJ gp,U⟩;have pt:w9.ownsRow G.heap.size 144 3 hP q.s.a.ed.length (q.s.a.ed.flatMap Qw):=Qk (Zk hR (by omega)) kx (λb hb hm=>by have:=(Qn hR b hb).1;rw[La.1 hm] at this;omega);have hw:=ZF I.ok;have h8:∀a∈auts q.c.cel.co++auts q.c.cel.rq,Zi a:=λa ha=>by
  rcases Li.1 ha with ha | ha
  ·exact Yb hw.co a ha
  exact Yb hw.rq a ha
 have gs:=(YZ h8 I.s).1.okay h8;have pu:∀e∈q.s.a.ed,(0≤e.1∧e.1<1099511627776)∧0≤e.2.1∧e.2.1<1099511627776:=λe he=>by
  have h1:=gs.ed e he;have h2:=gs.al _ h1.2.2.1;omega
 have pw:jj E G.heap.size w9 xa (q.s.a.st+1) xm Zz hP [] q.s.a.ed:=⟨pp,QM _ _ _ _,pt,λb hb=>(by cases hb),pu⟩;have pz:=gs.ed_le;have kz:=VK h8 I.s;have k0:=kz.1;have p0:=kz.2;simp only[] at k0 p0;have hckc:=hw.c8;have hT:q.c.cel.co.length=q.c.co.length:=Lh ..;have p1:q.c.cel.rq.length=q.c.rq.length:=Lh ..;have hcr:=hw.cr
 have p2:(auts q.c.cel.co++auts q.c.cel.rq).length=q.c.co.length+q.c.rq.length:=by rw[Lk];unfold auts;rw[Lh,Lh,hT,p1]
 refine QT<|QT<|QG (by rfl) (by rfl) ?_;refine Qb<|x (QC O)<|x (Qa O)<|x (Qd ky.B O O)<|x (Qs ky.ts.arr O)<|Qb<|xe<|Zh ((q.ts.map (·.2)).map (·.take q.c.cel.co.length)) λtcs gt=>?_;rw[gt];have htcl:tcs.length=q.ts.length:=by rw[←gt,Lh,Lh]
 have hTn:q.ts.length≤4096:=by have h2:=(YZ h8 I.s).1.st;have h3:(q.ts.map (·.2)).length=q.ts.length:=Lh ..;omega
 refine ZE<|Vr (α:=Nat×Value×Value×List Ed) [(3,3),(7,16),(60,109)] (λz=>[(3,z.2.1),(60,.int .i64 z.1)])
  (λz ds W'=>z.1≤q.ts.length∧Step [E] G W'∧KY G.heap.size W'.heap.size ds W'∧jj E G.heap.size W' xa (q.s.a.st+1) xm z.2.1 z.2.2.1 (cmF q.c.cel (tcs.take z.1)) z.2.2.2∧z.2.2.2.length≤131072+z.1)
  (λz=>q.ts.length - z.1) (by rfl) (0,Zz,hP,q.s.a.ed) ⟨O,O,U⟩ ⟨Lj _,gr,⟨Mw,λD hD=>by cases hD⟩,pw,pz⟩ ?_
 rintro ⟨k,vb,ve,es⟩ g ds hy ⟨hk,hA,k4,H,p3⟩;simp only[] at hk H p3;have hz10:=hA.size;have hU:=QgU q.c.cel (tcs.take k);rw[Lx] at hU;refine QT<|QG (by rfl) (by rfl) ?_;refine x (QB O O)<|xe<|QT<|qL O (λgu=>?_) (λgu=>?_)
 ·refine JB ?_;have hke:q.ts.length≤k:=by have p4:¬(k:Int)<(q.ts.length:Int):=gu;omega
  rw[Ll (by omega)] at H hU;refine Zh (cmF q.c.cel tcs) λbad hX=>?_;rw[hX] at H hU;have gv:E∉ob ve:=QU H.e h7;have p5:E∉ob vb:=QU H.b h7;have hY:b6∉[E]:=by simp only[List.mem_singleton];omega
  have p6:b6∉ob ve:=QU H.e kv;have p7:b6∉ob vb:=QU H.b kv;refine QT<|QG (by rfl) (by rfl) ?_;refine x (Qa O)<|x (Qd H.B O O)<|xl O<|xf<|(Qbz H.e (by omega) H.bd).mono ?_;rintro r11 hg ⟨hn,hf,hp,_,ho11⟩;refine xe ?_;have hZ:=H.B.step hn gv;have gw:=(hM.step hA hY).step hn p6;have gx:=Qk H.b hn (λb hb hm=>H.dj b hb hm);have hz11:=hn.size
  have hr:=Qn H.e;have hB:=Qn gx;have p8:KY G.heap.size hy.heap.size ds hg:=k4.step hn (Go.Lg.QY H.e);have hD0:Step (ob vb) hg { hg with drawn:=hg.drawn+1 }:=Step.drew _ _
  refine QT<|UI (λw'=>Step (E::ob vb) hg w'∧Q4 w'.heap E 58 [xa,.int .i64 (q.s.a.st+1),xm,ve]∧Q4 w'.heap b6 3 [.int .i64 q.s.a.st]) [(0,true),(1,true),(2,true),(3,false),(4,false),(5,false),(6,true),(7,true)] mixed (by rfl) (by rfl) (by kernel_rfl) ⟨Step.drew _ _,hZ.ext (Step.drew _ _),gw.ext (Step.drew _ _)⟩ ?_
  refine pq (λ_ hc=>Qr hc.2.1 O O)<|p (λ_=>Qo)<|pq (λ_ hc=>Qd hc.2.2 O O)<|pk<|QD (us:=[[.int .i64 q.s.a.st]]) O O (by decide) (by simp) ⟨rfl,rfl,U⟩ λb116 gy gz hb116 p9=>?_;have hz:=(Step.drew [] hg).trans gz;have hz12:=hz.size;refine ⟨⟨hz.any,hZ.ext hz,gw.ext hz⟩,?_⟩
  refine pk<|Q6 (m:=1) (news:=[.int .i64 q.s.a.st]) (L:=[]) (Qq gx hz) O O O (p9.at (by simp)) (by simp[Value.oneCell']) (by omega) (by omega) λk5 hC k6 ga hn13=>?_;have gb:Step (ob vb) hg hC:=hz.any.trans' ga;have k7:=hZ.step gb p5;have k8:=gw.step gb p7;refine ⟨⟨gb.mono (λb hb=>Lm _ hb),k7,k8⟩,?_⟩
  refine pk<|Qp (us:=[xa,.int .i64 (q.s.a.st+1),xm,ve]) k7 O O O O ⟨hS.1,O,hS.2.1,QJ H.e,U⟩ λT J k9=>?_;have g0:Step (E::ob vb) hg T:=(gb.mono (λb hb=>Lm _ hb)).trans' (J.mono (by simp));refine ⟨⟨g0,k9,k8.step J hY⟩,?_⟩;refine p (λ_=>Qf)<|p (λ_=>Qf)<|pe ?_
  have qb:=Qk k6 J (λb hb hm=>by have:=(Qn k6 b hb).1;rw[La.1 hm] at this;omega);have hs:KY G.heap.size hy.heap.size ds T:=p8.step g0 (λb hb=>by
   rcases Lb.1 hb with rfl | hb
   ·exact hZ.cells
   exact Go.Lg.QY gx b hb)
  have qc:E∉ds:=λhm=>by have:=(hs.2 E hm).1;omega
  have hE:Step [] w T:=(((hv.trans h6).then1 hA (by omega)).then hn (λb hb=>.inr (by have:=(hr b hb).1;have:=hv.size;omega))).then g0 (λb hb=>.inr (by
   rcases Lb.1 hb with rfl | hb
   ·omega
   have:=(hB b hb).1;have:=hv.size;omega))
  refine JA ⟨λD hD=>(hs.2 D hD).2.2,hs.1,[.agg [xa,.int .i64 (q.s.a.st+1),xm,ve].toArray,k5,.int .i64 0],λW' g4=>?_⟩;refine ⟨⟨⟨_,O,Qx O ((k9.step g4 qc).at (L:=[]) (by simp)).cells⟩,rfl,rfl,U⟩,hE.then g4 (λD hD=>.inr (by have:=(hs.2 D hD).1;have:=hv.size;omega)),xa,xm,ve,k5,O,⟨hS.1,hS.2.1,QJ H.e,U⟩,?_⟩;have h9:=Qu.snoc qb;have ma:=Qk h9 g4 (λb hb hm=>by
   obtain ⟨o,g1,g2⟩:=Go.Lg.QY h9 b hb;rw[(hs.2 b hm).2.2] at g1;cases g1
   cases g2)
  rw[←hX] at ma;exact Zk ma (by have:=hv.size;omega)
 have hG:k<q.ts.length:=by have p4:(k:Int)<(q.ts.length:Int):=gu;omega
 have mc:k<tcs.length:=by omega
 have Y:=QeF (c:=q.c.cel) mc;have qj:tcs[k]'mc=(q.ts[k]'hG).2.take q.c.cel.co.length:=by subst gt;simp
 have gc:=Lc hG;have hH:=k0 _ (LG (f:=(·.2)) gc);have hu:=pa _ (LG (f:=(·.2)) gc);rw[qj] at Y;refine Zh (cmF q.c.cel (tcs.take k)) λbad hX=>?_;rw[hX] at H hU Y;refine Zh (ob vb++ob ve) λav g5=>?_;have hB:=Qn H.b;have hr:=Qn H.e;have qk:∀x∈av,G.heap.size≤x∧x<hy.heap.size:=λx hx=>by
  rw[←g5] at hx;exact (Li.1 hx).elim (hB x) (hr x)
 have qo:Xl (E::av) b G.heap q:=hj.up (λx hx=>by
  rcases Lb.1 hx with rfl | hx
  ·exact .inl Ls
  exact .inr (qk x hx).1)
 have ge:Xl (E::av) b hy.heap q:=qo.st (hA.mono (by simp));refine Zh (cmF q.c.cel (tcs.take (k+1))) λg6 mf=>?_;rw[mf] at Y;refine Z3 ?_
 refine Qbq (α:=Value×Value×List Ed) [(3,3),(7,16),(61,109)] (λz=>[(3,z.1),(60,.int .i64 k)]) (λz h4 W'=>Step [E] G W'∧KY G.heap.size W'.heap.size h4 W'∧jj E G.heap.size W' xa (q.s.a.st+1) xm z.1 z.2.1 g6 z.2.2∧z.2.2.length≤131072+(k+1)) (by rfl) ?_ ?_
 rotate_left
 ·rintro ⟨gg,ho,hf⟩ g h4 W ⟨qr,q0,q1,q2⟩;refine QG (by rfl) (by rfl) ?_;refine QN O O<|Qb<|xe ?_;exact ⟨(k+1,gg,ho,hf),by simp only[];omega,⟨O,O,U⟩,hG,qr,q0,by simp only[];rw[mf];exact q1,q2⟩
 refine ZE<|QT<|QG (by rfl) (by rfl) ?_;refine Qb<|xig (g:=ZH) J0 ge.ts.arr O O hG λa63 mg=>?_;refine Zh (q.ts[k]'hG) λt ht=>?_;rw[ht] at mg gc hH hu Y;have q3:=ge.ts.each t gc;have htl:t.2.length=q.c.co.length+q.c.rq.length:=by rw[hH.1,p2]
 refine x (Qv mg O)<|xl O<|Qt (us:=[.int .i64 0]) O λb7 hg hn q4 za=>xl O<|QL (j:=0) (u:=.int .i64 k) za O O (by simp) rfl λgy gz zv=>Qe ?_;have g7:Step [] hy gy:=hn.then1 gz q4;have mh:Q4 gy.heap b7 3 [.int .i64 k]:=zv;refine QT<|QG (by rfl) (by rfl) ?_;refine Qb<|Qb<|xl O<|xf<|(zZ (ge.ext g7) (q3.ext g7) (by omega)).mono ?_
 rintro r13 hC ⟨ga,v9,mi,rfl,g8,mj⟩;refine Qb<|x (Ql O O)<|x (Ql O O)<|x Qf<|Qe ?_;have hI:=g7.trans ga;have mn:=ge.ext hI;rw[hT] at hu Y;refine Zh (t.2.take q.c.co.length) λtc gh=>?_;refine Zh (t.2.drop q.c.co.length) λtr mo=>?_;rw[gh] at g8 hu Y;rw[mo] at mj hu;have z0:tc.length=q.c.co.length:=by rw[←gh,Lx];omega
 have z2:=hH.bd (m:=4096) (λa ha=>(h8 a ha).st1);have mq:∀x∈tc,0≤x∧x<4096:=λx hx=>z2 x (LW (by rw[gh];exact hx));have z3:Vt (auts q.c.cel.co) tc:=by
  have h1:=hH.take;rw[show (auts q.c.cel.co).length=q.c.co.length by unfold auts;rw[Lh];exact hT,gh] at h1;exact h1
 have z4:Vt (auts q.c.cel.rq) tr:=by
  have h1:=hH.drop;rw[show (auts q.c.cel.co).length=q.c.co.length by unfold auts;rw[Lh];exact hT,mo] at h1;exact h1
 have gi:Xl [] b hC.heap q:=mn.up (by simp);have hvo:=VB gi.k1 gi.k2 gi.k3 (g8.up (L':=[]) (by simp)) (by rw[I.ex,I.cs];exact hw.cd) z3.tpOk;rw[I.ex,I.cs] at hvo;refine Zh (Kl q.c.cel.ex q.c.cel.cs tc) λV hV=>?_;rw[hV] at hvo Y;have g9:=H.ext hI;have hz13:=hI.size;have hl7:=mh.lt;have mu:=mh.ext ga
 refine Qbq (α:=Value) [(3,3),(11,14),(71,86)] (λz=>[(3,z)]) (λz h4 W=>h4=ds∧Step (ob vb) hC W∧Qu 3 G.heap.size W z g6∧∀x∈ob z,x∈ob vb∨hC.heap.size≤x) (by rfl) ?_ ?_
 ·refine QT<|QG (by rfl) (by rfl) ?_;refine Qb<|x (QC O)<|x (Qa O)<|x (Yp (us:=[q.vs,q.vx,q.vk]) gi.B O O O)<|Qb<|xl O<|xf<|hvo.mono ?_;rintro r14 T ⟨J,rfl⟩;refine Qb<|x (Ql O O)<|x (Ql O O)<|x (Ql O O)<|x (Ql O O)<|x Qf<|x Qf<|x Qf<|Qe<|QT<|QG (by rfl) (by rfl) ?_;refine Qb<|xe ?_;have mv:=Qq g9.b J;refine Kh O (λka=>?_) (λka=>?_)
  ·rw[if_pos ka] at Y;refine QG (by rfl) (by rfl) ?_;refine Qb<|x (Qd (mu.ext J) O O)<|xl O<|QD (us:=[[.int .i64 k]]) O O (by decide) (by simp) ⟨rfl,rfl,U⟩ λb85 y1 hh hb85 z5=>?_;have z9:=hh.size;have hz14:=J.size;refine xl O<|Q6 (m:=1) (news:=[.int .i64 k]) (L:=[]) (Qq mv hh) O O O (z5.at (by simp)) (by simp[Value.oneCell']) (by omega) (by omega) λz y2 gj hJ kb=>Qe ?_
   exact ⟨z,Z,O,(J.trans hh).any.trans' hJ,by rw[Y];exact Qu.snoc gj,λx hx=>(kb x hx).imp id (λh=>by omega)⟩
  rw[if_neg (by rw[ka];decide),LJ] at Y;refine Z3 ?_;exact ⟨vb,Z,O,J.any,by rw[Y];exact mv,λx hx=>.inl hx⟩
 rintro gg g h4 T ⟨rfl,J,hbO,hbn⟩;have hI14:=g9.addB h7 J hbO hbn;have hz14:=J.size;have kc:∀x∈ob vb,x∈E::av:=λx hx=>Lm _ (by rw[←g5];exact Li.2 (.inl hx));have mw:∀x∈E::ob ve,x∈E::av:=λx hx=>by
  rcases Lb.1 hx with rfl | hx
  ·exact Ls
  exact Lm _ (by rw[←g5];exact Li.2 (.inr hx))
 have ke:=mn.st (J.mono kc);have hI9a:=g8.st (J.mono kc);have my:=mj.st (J.mono kc);have hE:Step [E] G T:=(hA.trans hI.any).then J (λx hx=>.inr (hB x hx).1);have hs014:Step [] w T:=(hv.trans h6).then1 hE (by omega);have hn7b:b7∉ob vb:=λhm=>by have:=(hB b7 hm).2;omega
 have hY:b6∉[E]:=by simp only[List.mem_singleton];omega
 have hB714:=mu.step J hn7b;have hB614:=hM.step hE hY;have hs:KY G.heap.size hy.heap.size h4 T:=(k4.ext hI).step J (Go.Lg.QY g9.b);refine QT<|UI (Step [] T) [(0,true),(1,true),(2,true),(3,true),(4,true),(5,false),(6,true),(7,true)] mixed (by rfl) (by rfl) (by kernel_rfl) (Step.drew _ _) ?_
 refine p (λ_=>Qo)<|p (λ_=>QC O)<|p (λ_=>Qa O)<|pq (λ_ hc=>Qd (ke.B.ext hc) O O)<|p (λ_=>Qo)<|pk<|xf<|(zF (hI9a.ext (Step.drew _ _)) ((kk.ext hs014).ext (Step.drew _ _)) mq (by omega)).mono ?_;rintro r15 w15 ⟨rfl,hs15⟩;have kf:=(Step.drew [] T).trans hs15;refine ⟨kf,?_⟩
 have mz:(match mget q.mm (Jf tc) with | some u=>u | none=>.int .i64 0)=Value.int .i64 (plx (q.qs.map (·.2)) tc):=by
  rw[I.m tc z0 (λx hx=>(mq x hx).1)];unfold plx;by_cases hm:tc∈q.qs.map (·.2)
  ·rw[if_pos hm,if_pos hm]
  rw[if_neg hm,if_neg hm]
 have hK:=yf I.ok I.p;have m0:=Qdo hK.2.2.1 tc;refine Zh (plx (q.qs.map (·.2)) tc) λpi hpi=>?_;rw[hpi] at mz hu m0;rw[←hK.2.1] at m0;have hckp:cks q.p.a pi=0:=by
  unfold cks;rw[if_neg (by rw[(ZS q.p.a).2 hK.1];decide),if_neg (by omega)]
 refine pq (λ_ hc=>(XD (k:=Jf tc) (ke.m.ext hc) O O).trans (congrArg (λv=>Result.ok (Next.value v) _) mz))<|p (λ_=>Qf)<|pe ?_;refine QT<|QG (by rfl) (by rfl) ?_;refine Qb<|Qb<|Qb<|xl O<|xf<|(Vs (b:=b) (st:=pi) (vr:=mi) my.cells).mono ?_;rintro r16 h5 ⟨hs16,c1,c2,c3,rfl,hc1,kr,hc3,hR1,hR2,hR3⟩;refine xe ?_;have hq:=kf.trans hs16;have hz1415:=kf.size;have hz16:=hq.size
 have kg:=hI14.ext hq;have hD16:=hs.ext hq;have hB716:=hB714.ext hq;have hB616:=hB614.ext hq;have hs516:Step [E] G h5:=hE.trans hq.any;refine Zh (wrf q.c.cel.rq tr (enb q.p.a pi)) λfl kh=>?_;rw[kh] at hu;have ki:∀x∈E::ob ve,x<T.heap.size:=λx hx=>by
  rcases Lb.1 hx with rfl | hx
  ·omega
  have:=(hr x hx).2;omega
 have hSt16:Xl (E::ob ve) b h5.heap q:=(ke.ext hq).up (λx hx=>.inl (mw x hx));have hIr16:QK (E::ob ve) h5.heap mi tr:=(my.ext hq).up (λx hx=>.inl (mw x hx));have hEv:∀p∈fl,0≤p.1∧p.1<32:=λp hp=>by
  rw[←kh] at hp;have g1:=(VJ.1 hp).1;unfold enb at g1;obtain ⟨e,he,g2⟩:=Ly.1 g1;have g3:=hK.1.al _ (hK.1.ed e (Zw he).1).2.2.1;rw[g2] at g3;exact g3
 have hn7L:b7∉E::ob ve:=λhm=>by
  rcases Lb.1 hm with g1 | g1
  ·omega
  have:=(hr b7 g1).2;omega
 have hn6L:b6∉E::ob ve:=λhm=>by
  rcases Lb.1 hm with g1 | g1
  ·omega
  have:=(hr b6 g1).1;omega
 have gv:E∉ob ve:=QU H.e h7;have hb016:G.heap.size≤h5.heap.size:=by omega
 have hel2:es.length+1≤1099511627776:=by omega
 have hkb2:(0:Int)≤(k:Int)∧(k:Int)<1099511627776:=by omega
 refine ZE<|jb (α:={ x:Int×Int // x∈fl }) (E::ob ve) (by omega) (capt:=[.pointer (some ⟨c1,0,none⟩),.pointer (some ⟨c2,0,none⟩),.pointer (some ⟨c3,0,none⟩)]) O (encs:=λx=>[.int .i64 x.1.1,.int .i64 x.1.2]) (by decide) (λ_=>O)
  (Kv hR1 hR2 hR3 (λhm=>by have:=ki _ hm;omega) (λhm=>by have:=ki _ hm;omega) (λx hx=>by have:=ki _ hx;omega) hSt16 hIr16 (λx hx=>hw.rq x.it (LG hx)) z4 hckp O kh)
  (λpre W=>∃ho hf,Step (E::ob ve) h5 W∧jj E G.heap.size W xa (q.s.a.st+1) xm gg ho g6 hf∧(pre=[]→ho=ve∧hf=es)∧hf.length≤es.length+pre.length)
  (λpre=>ZU.ex λho=>ZU.ex λhf=>(ZU.step (Lr _)).and (jj.stb.and ((ZU.pure _).and (ZU.pure _))))
  (λ_ _ _=>False) (λ_ _=>ZU.pure _)
  ⟨ve,es,Step.refl _ _,kg,λ_=>⟨O,O⟩,Lr _⟩
  (λf x f' W=>f'=upd (upd (upd f 98 (.int .i64 x.1.1)) 99 (.int .i64 x.1.2)) 16 (.int .i64 x.1.1)) (λx f'=>ZU.pure _) ?_ ?_ ?_ ?_
 ·rintro l pre ⟨⟨e,i⟩,he⟩ W hW;refine QG (by rfl) (by rfl) ?_;refine Qe ?_;exact ⟨O,X6.refl _ _ _,Lg.Xf.refl _ _,hW,O⟩
 ·rintro l pre ⟨⟨e,i⟩,he⟩ f' W ⟨ho,hf,S,hi,m1,hlen⟩ rfl hN;have m2:pre=[]:=Ln (Nat.lt_one_iff.1 (LX hN hu));have hv1:=(m1 m2).1;have hv2:=(m1 m2).2;rw[hv1,hv2] at hi;have m3:=S.size;have hee:=hEv _ he;simp only[] at hee;refine ZE<|QG (by rfl) (by rfl) ?_
  refine x (Qa O)<|x (Qd hi.B O O)<|x (Qd (hB716.step S hn7L) O O)<|Qb<|x (Qd (hB616.step S hn6L) O O)<|x (QE ⟨O,O,O,U⟩)<|xl O<|QD (us:=[Qw ((k:Int),e,q.s.a.st)]) O O (by decide) (by exact (by decide:1*3≤1000000)) ⟨O,O,U⟩ λb106 y1 hh hb106 hB106=>?_;have z9:=hh.size
  refine xl O<|Q6 (m:=1) (news:=Qw ((k:Int),e,q.s.a.st)) (L:=[]) (Qq hi.e hh) O O O (hB106.at (by simp)) (by simp[Qw,Value.oneCell']) hel2 (by omega) λu y2 gj hJ kb=>?_;refine x (Qa O)<|xl O<|QL (u:=u) ((hi.B.ext hh).step hJ gv) O O (by simp) (QJ gj) λy3 m4 hB3=>xe ?_
  have kj:Step (E::ob ve) W y3:=(hh.any.trans' (hJ.mono λx hx=>Lm _ hx)).trans' (m4.mono (by simp));have hnw:∀x∈ob u,x∈ob ve∨W.heap.size≤x:=λx hx=>(kb x hx).imp id (λh=>by omega)
  refine ⟨X6.step kj m3 (λx hx=>⟨.inl hx,?_⟩),Lg.Xf.step kj,u,es++[((k:Int),e,q.s.a.st)],S.trans' kj,hi.addE h7 (hh.any.trans' hJ) gj hnw m4 hB3 ⟨hkb2,by simp only[];omega⟩,λh=>absurd h (by simp),by simp only[List.length_append,List.length_singleton];omega⟩;rcases Lb.1 hx with rfl | hx
  ·exact hi.B.cells
  exact Go.Lg.QY hi.e x hx
 ·rintro D xs W hD hxs ⟨ho,hf,S,hi,_,hlen⟩ hdD;have hxl:xs.length=fl.length:=by have g1:=congrArg List.length hxs;rw[Lh] at g1;exact g1
  have m3:=S.size;refine ⟨(gg,ho,hf),⟨O,O,U⟩,hs516.then S (λx hx=>?_),((hD16.step S (λx hx=>?_)).up (by omega)).cons (by omega) (show h5.heap.size≤D from hD) hdD,hi,by simp only[];omega⟩
  ·rcases Lb.1 hx with rfl | hx
   ·exact .inl Ls
   exact .inr (hr x hx).1
  rcases Lb.1 hx with rfl | hx
  ·exact kg.B.cells
  exact Go.Lg.QY kg.e x hx
 rintro D e pre W hD hSp hF;exact hF.elim
structure UX (base:Nat) (w:World) (vc va:Value) (co:List IV) (al:List JV):Prop where
 c:w.ownsRow base 66 5 vc co.length (co.flatMap Za)
 a:w.ownsRow base 87 5 va al.length (al.flatMap Zt)
 dj:Dj vc va
 each:∀q∈co,∀t∈Qgr q,ZM base (ob vc++ob va) w.heap t.1 t.2.1 t.2.2.1 t.2.2.2
section
variable {base:Nat} {w w':World} {vc va vc' va':Value} {co:List IV} {al:List JV}
theorem UX.nil:UX base w (nS) (nS) [] []:=⟨QM _ _ _ _,QM _ _ _ _,Dj.nil _,λq hq=>by cases hq⟩
theorem UX.ext (h:UX base w vc va co al) (hs:Step [] w w'):UX base w' vc va co al:=⟨Qq h.c hs,Qq h.a hs,h.dj,λq hq t E=>(h.each q hq t E).ext hs⟩
theorem UX.low {X:LN}(h:UX base w vc va co al) (hs:Step X w w') (E:∀b∈X,b<base):UX base w' vc va co al :=
 ⟨Qk h.c hs (λb hb hm=>by have:=(Qn h.c b hb).1;have:=E b hm;omega),Qk h.a hs (λb hb hm=>by have:=(Qn h.a b hb).1;have:=E b hm;omega),h.dj,λq hq t G=>(h.each q hq t G).low hs E⟩
theorem UX.avlt (h:UX base w vc va co al):∀b∈ob vc++ob va,b<w.heap.size:=λb hb=>(Li.1 hb).elim (QO h.c b) (QO h.a b)
theorem UX.setC {q:IV}(h:UX base w vc va co al) (hq:∀t∈Qgr q,ZM base (ob vc++ob va) w.heap t.1 t.2.1 t.2.2.1 t.2.2.2) (S:w'.ownsRow base 66 5 vc' (co.length+1) (co.flatMap Za++Za q))
  (hs:Step (ob vc) w w') (E:∀b∈ob vc',b∈ob vc∨w.heap.size≤b):UX base w' vc' va (co++[q]) al:=by
 have G:Step (ob vc++ob va) w w':=hs.mono (λb hb=>Li.2 (.inl hb));have H:∀b∈ob vc'++ob va,b∈ob vc++ob va∨w.heap.size≤b:=λb hb=>by
  rcases Li.1 hb with hb | hb
  ·exact (E b hb).imp (λh=>Li.2 (.inl h)) id
  exact .inl (Li.2 (.inr hb))
 refine ⟨?_,Qk h.a hs (λb hb T=>h.dj b T hb),λb hb I=>?_,λd hd t J=>?_⟩
 ·rw[Lk,LA];simpa using S
 ·rcases E b hb with h1 | h1
  ·exact h.dj b h1 I
  have:=QO h.a b I;omega
 rcases Li.1 hd with hd | hd
 ·exact (h.each d hd t J).app G H
 simp only[List.mem_singleton] at hd;subst hd;exact (hq t J).app G H
theorem UX.setA {E:List JV}(h:UX base w vc va co al) (I:w'.ownsRow base 87 5 va' E.length (E.flatMap Zt)) (hs:Step (ob va) w w') (H:∀b∈ob va',b∈ob va∨w.heap.size≤b):UX base w' vc va' co E:=by
 have J:Step (ob vc++ob va) w w':=hs.mono (λb hb=>Li.2 (.inr hb));have S:∀b∈ob vc++ob va',b∈ob vc++ob va∨w.heap.size≤b:=λb hb=>by
  rcases Li.1 hb with hb | hb
  ·exact .inl (Li.2 (.inl hb))
  exact (H b hb).imp (λh=>Li.2 (.inr h)) id
 refine ⟨Qk h.c hs (λb hb G=>h.dj b hb G),I,λb hb G=>?_,λd hd t T=>(h.each d hd t T).app J S⟩;rcases H b G with h1 | h1
 ·exact h.dj b hb h1
 have:=QO h.c b hb;omega
theorem UX.itms {L:LN}(h:UX base w vc va co al) (G:co.length≤1099511627776) (hm:∀q∈co,K7 q.nm) (E:∀b∈L,b<base):YW L w.heap vc co :=
 ⟨QS h.c G (λb hb H=>by have:=(Qn h.c b hb).1;have:=E b H;omega),λq hq=>⟨h.each q hq (q.p.va,q.p.a.al.length,1,q.p.a.al.map (.int .i64)) (by simp) L (λb hb=>.inl (E b hb)),h.each q hq (q.p.vm,q.p.a.mr.length,1,q.p.a.mr.map (.int .i64)) (by simp) L (λb hb=>.inl (E b hb)),h.each q hq (q.p.ve,q.p.a.ed.length,3,q.p.a.ed.flatMap Qw) (by simp) L (λb hb=>.inl (E b hb))⟩,hm⟩
end
def mzA (s f:Int):QP:=⟨[s,f],2,[0],[(0,s,1),(1,f,0)]⟩
set_option maxHeartbeats 1000000 in
theorem Qaf (nm:ByteArray) (s f:Int) (w:World):QI prog 244 [.string nm,.int .i64 s,.int .i64 f] w λr w'=>Step [] w w'∧∃xa xm xe,r=.agg #[.string nm,xa,.int .i64 2,xm,xe]∧ZO [xa,xm,xe]∧∀L:LN,(∀b∈L,b<w.heap.size)→Zu L w'.heap xa xm xe (mzA s f):=by
 refine QI.of_W func244 O ntmps244 results244 (by simp) ?_;refine Qc<|xl O<|Qt (us:=[.string .empty,nS,.int .i64 0,nS,nS]) O λb6 w1 T hf V=>xe ?_;have hg:=V.lt
 refine Qc<|Qb<|Qb<|xl O<|QD (us:=[[.int .i64 s],[.int .i64 f]]) O O (by decide) (by simp) ⟨rfl,rfl,rfl,rfl,U⟩ λE w2 Y hs hh=>xl rfl<|QD (us:=[[.int .i64 0]]) rfl rfl (by decide) (by simp) ⟨rfl,rfl,U⟩ λG w3 J ht hi =>
  Qb<|x (QE ⟨O,O,O,U⟩)<|Qb<|x (QE ⟨O,O,O,U⟩)<|xl O<|QD (us:=[Qw (0,s,1),Qw (1,f,0)]) O O (by decide) (by exact (by decide:2*3≤1000000)) ⟨O,O,O,O,U⟩ λH w4 I hu hj=>?_
 have ha:=(Y.trans J).trans I;have hk:=T.trans ha;have hv:=T.size;have hw:=Y.size;have hy:=J.size;have hz:=I.size;have hF:YY w1.heap.size w4.heap (.agg #[.slice (some ⟨E,0,none⟩) 2 2,.int .i64 2,.slice (some ⟨G,0,none⟩) 1 1,.slice (some ⟨H,0,none⟩) 2 2]) (mzA s f) :=
  qM (a:=mzA s f) ((hh.ext J).ext I) (hi.ext I) hj (by omega) (by omega) (by omega) O O O (by decide) (by decide) (by decide)
 refine x (QE ⟨O,O,O,O,U⟩)<|xl O<|Qt (us:=X0) O λb7 w5 hl hm hn=>xl O<|Qp (us:=[.slice (some ⟨E,0,none⟩) 2 2,.int .i64 2,.slice (some ⟨G,0,none⟩) 1 1,.slice (some ⟨H,0,none⟩) 2 2]) hn O O O O ⟨O,O,O,O,U⟩ λw6 ho hp=>xe ?_;have S:Step [] w4 w6:=hl.then1 ho hm
 refine Qc<|Qb<|x (Qr hp O O)<|x (Z4 [(0,[.string nm]),(1,[.slice (some ⟨E,0,none⟩) 2 2,.int .i64 2,.slice (some ⟨G,0,none⟩) 1 1,.slice (some ⟨H,0,none⟩) 2 2])] ⟨O,O,O,O,U⟩) <|
  xl rfl<|Qp (us:=[.string nm,.slice (some ⟨E,0,none⟩) 2 2,.int .i64 2,.slice (some ⟨G,0,none⟩) 1 1,.slice (some ⟨H,0,none⟩) 2 2]) ((V.ext ha).ext S) O O O O ⟨O,O,O,O,O,U⟩ λw7 hc hq=>xe ?_
 obtain ⟨xa,xm,h0,hr,hA⟩:=hF;have he:=congrArg (λv=>match v with | Value.agg cs=>cs.toList | _=>[]) hr
 simp only[List.cons.injEq,and_true] at he;obtain ⟨rfl,_,rfl,rfl⟩:=he;refine Qm ⟨[.agg [.string nm,.slice (some ⟨E,0,none⟩) 2 2,.int .i64 2,.slice (some ⟨G,0,none⟩) 1 1,.slice (some ⟨H,0,none⟩) 2 2].toArray],⟨⟨_,O,Qx O (hq.at (L:=[]) (by simp)).cells⟩,U⟩,(hk.trans S).then1 hc hf,_,_,_,rfl,⟨rfl,rfl,rfl,U⟩,λL hL=>?_⟩;have h1:=(hA (b6::L) (λb hb=>by
  rcases Lb.1 hb with rfl | hb
  ·exact hg
  have:=hL b hb;omega)).ext S
 exact (h1.st (hc.mono (by simp))).up (λb hb=>.inl (Lm _ hb))
def nmZ (p:Array UInt8) (i:Nat):ByteArray:=⟨p⟩++⟨#[UInt8.ofNat (97+i)]⟩
abbrev Qdp:Array UInt8:=#[115,116,97,114,116]
abbrev Qaz:Array UInt8:=#[102,105,110,105,115,104]
abbrev Y2:Array UInt8:=#[109,97,99,104,105,110,101]
def yi (i:Nat):List JV:=[⟨nmZ Qdp i,true,true,false,0⟩,⟨nmZ Qaz i,false,true,false,0⟩]
def mzE (c:Nat):List JV:=(List.range c).flatMap yi
def Qjg (i:Nat):XT:=⟨nmZ Y2 i,mzA (2*(i:Int)) (2*(i:Int)+1)⟩
def mzC (c:Nat):Zv:=⟨mzE c,(List.range c).map Qjg,[],[],[]⟩
theorem K6 (p:Array UInt8) (i:Nat) (h:p.size≤10):K7 (nmZ p i):=by
 show (ByteArray.mk _++ByteArray.mk _).size≤_;rw[ByteArray.size_append];show p.size+1≤_;omega
theorem QhU (c:Nat):∀e∈mzE c,K7 e.nm:=λe he=>by
 unfold mzE at he;obtain ⟨i,_,hi⟩:=Mj.1 he;simp only[yi,List.mem_cons,List.not_mem_nil,or_false] at hi;rcases hi with rfl | rfl
 ·exact K6 _ _ (by decide)
 exact K6 _ _ (by decide)
theorem yj (c:Nat):mzE (c+1)=mzE c++yi c:=by unfold mzE;rw[List.range_succ,LA];simp
theorem QaJ:∀c,(mzE c).length=2*c
 | 0=>rfl
 | c+1=>by rw[yj,Lk,QaJ c];show 2*c+2=_;omega
theorem QbS (i:Nat):∀u∈(yi i).flatMap Zt,u.oneCell'=true:=λu hu=>by
 obtain ⟨e,_,he⟩:=Mj.1 hu;exact Qeu e u he
set_option maxHeartbeats 8000000 in
theorem Xw (c:Nat) (hX:c≤4) (w:World):QI prog 196 [.int .i64 c] w λr w'=>Step [] w w'∧Qhb w.heap.size w'.heap r (mzC c):=by
 refine QI.of_W func196 O ntmps196 results196 (by simp) ?_;refine Qc<|xl O<|Qt (us:=Z5) O λb2 w1 hv hY hw=>xe ?_;refine Qc<|xl O<|Qt (us:=Z5) O λH I hh hZ hy=>xe ?_;have hE:=hv.trans hh;have ga:=hv.size;have gb:=hh.size;have gc:=hw.lt;have hj:=hy.lt;have hF:=hw.ext hh;refine Qg<|Qc<|Qb<|Qb<|xe ?_
 refine Qh<|QA (α:=Nat×Value×List JV×Value×List IV) [(4,4),(6,42)] (λz=>[(6,.int .i64 z.1)])
  (λz w'=>z.1≤c∧Step [H] I w'∧Q4 w'.heap H 47 [z.2.1,z.2.2.2.1,Zz,Zz,Zz]∧UX I.heap.size w' z.2.2.2.1 z.2.1 z.2.2.2.2 z.2.2.1∧z.2.2.1=mzE z.1∧z.2.2.2.2.map IV.it=(List.range z.1).map Qjg∧∀q∈z.2.2.2.2,K7 q.nm)
  (λz=>c - z.1) (by rfl) (0,Zz,[],Zz,[]) Z ⟨Lj _,Step.refl _ _,hy,UX.nil,O,O,λq hq=>by cases hq⟩ ?_
 rintro ⟨i,ve,ev,vc,co⟩ g3 w3 ⟨hi,Y,ha,E,J,T,hk⟩;simp only[] at hi ha E J T hk;have ge:=Y.size;have gg:ev.length=2*i:=by rw[J];exact QaJ i
 have gh:co.length=i:=by have:=congrArg List.length T;simpa using this
 refine Qc<|x (QB O O)<|xe<|Qg<|QH O (λh7=>?_) (λh7=>?_)
 ·refine Qy ?_;have hG:i=c:=by have h8:¬(i:Int)<(c:Int):=h7;omega
  rw[hG] at J T;have hH:b2∉[H]:=by simp only[List.mem_singleton];omega
  have hm:=hF.step Y hH;refine Qc<|x (Qr ha O O)<|xl O<|Qp (us:=[ve,vc,Zz,Zz,Zz]) hm O O O O ⟨QJ E.a,QJ E.c,O,O,O,U⟩ λw4 G hI=>xe ?_;have hJ:∀b∈[b2],b<I.heap.size:=λb hb=>by rw[La.1 hb];omega
  have hn:=E.low G hJ;refine Qm ⟨[.agg [ve,vc,Zz,Zz,Zz].toArray],⟨⟨_,O,Qx O (hI.at (L:=[]) (by simp)).cells⟩,U⟩,(hE.then1 Y (by omega)).then1 G (by omega),⟨ve,vc,Zz,Zz,Zz,ev,co,[],[],[]⟩,rfl,?_,λL hL=>?_⟩
  ·show (⟨ev,co.map IV.it,[],[],[]⟩:Zv)=mzC c;rw[J,T];rfl
  have hz:∀b∈L,b<I.heap.size:=λb hb=>by have:=hL b hb;omega
  exact ⟨⟨QS hn.a (by show ev.length≤_;omega) (λb hb hK=>by have:=(Qn hn.a b hb).1;have:=hz b hK;omega),λe he=>QhU c e (by rw[←J];exact he)⟩,hn.itms (by omega) hk hz,⟨Zq.nil _ _ 5,λq hq=>(by cases hq),λq hq=>(by cases hq)⟩,⟨Zq.nil _ _ 2,λq hq=>(by cases hq),λq hq=>(by cases hq)⟩,⟨Zq.nil _ _ 3,λq hq=>(by cases hq),λq hq=>(by cases hq)⟩⟩
 have hM:i<c:=by have h8:(i:Int)<(c:Int):=h7;omega
 have hu:(97:Int)+(i:Int)=((97+i:Nat):Int):=by omega
 refine Qi<|Qg<|Qh<|Qc<|Qb<|Qe<|Qc<|x (Qa O)<|x (Qd ha O O)<|Qb<|QN O O<|x (XX (k':=.i32) O ⟨by omega,by omega⟩)<|x (jC (n:=97+i) (congrArg (Value.int .i32) hu) (by omega))<|x (YS (a:=⟨Qdp⟩) (b:=⟨#[UInt8.ofNat (97+i)]⟩) O O (by show 5+1≤1000000000;omega))<|x (QE ⟨O,O,O,U⟩) <|
  Qb<|QN rfl O<|x (XX (k':=.i32) O ⟨by omega,by omega⟩)<|x (jC (n:=97+i) (congrArg (Value.int .i32) hu) (by omega))<|x (YS (a:=⟨Qaz⟩) (b:=⟨#[UInt8.ofNat (97+i)]⟩) O O (by show 6+1≤1000000000;omega))<|x (QE ⟨O,O,U⟩) <|
  xl rfl<|QD (us:=(yi i).map Zt) O O (by decide) (by exact (by decide:2*5≤1000000)) ⟨O,O,O,O,U⟩ λgi w4 G gj hm=>?_
 have gk:=G.size;have hN:H∉ob ve:=QU E.a hj;have h0:H∉ob vc:=QU E.c hj;have hge:=Qn E.a;have hO:=Qn E.c;refine xl rfl<|Q6 (m:=2) (news:=(yi i).flatMap Zt) (L:=[]) (Qq E.a G) O O O (hm.at (by simp)) (QbS i) (by omega) (by omega) λho w5 h1 hp hP=>?_;refine x (Qa O)<|xl O<|QL (j:=0) (u:=ho) ((ha.ext G).step hp hN) O O (by simp) (QJ h1) λS h2 h3=>xe ?_
 have hQ:UX I.heap.size w5 vc ho co (ev++yi i):=(E.ext G).setA (by rw[Lk,LA];exact h1) hp hP;have h4:∀b∈[H],b<I.heap.size:=λb hb=>by rw[La.1 hb];exact hj
 have h5:=hQ.low h2 h4;have h6:Step [H] I S:=((Y.trans G.any).then hp (λb hb=>.inr (hge b hb).1)).trans' h2;have gl:=h6.size;have hR:Step [] S { S with drawn:=S.drawn+1 }:=Step.drew _ _
 refine QW (Step (ob vc) S) [(0,true),(1,true),(2,true),(3,true),(4,true),(5,true),(6,true),(7,true),(8,true),(9,true),(10,true),(11,true),(12,false),(13,false),(14,false),(15,true),(16,false)] mixed (by rfl) (by kernel_rfl) (Step.drew _ _) ?_
 refine p (λ_=>Qa O)<|pq (λ_ hc=>Qd (h3.step hc h0) O O)<|p (λ_=>Qo)<|p (λ_=>Yv O O ⟨by omega,by omega⟩)<|p (λ_=>XX (k':=.i32) O ⟨by omega,by omega⟩)<|p (λ_=>jC (n:=97+i) (congrArg (Value.int .i32) hu) (by omega)) <|
  p (λ_=>YS (a:=⟨Y2⟩) (b:=⟨#[UInt8.ofNat (97+i)]⟩) O O (by show 7+1≤1000000000;omega))<|p (λ_=>Qo)<|p (λ_=>Qdh O O ⟨by omega,by omega⟩)<|p (λ_=>Qo)<|p (λ_=>Qdh O O ⟨by omega,by omega⟩)<|p (λ_=>Yv O O ⟨by omega,by omega⟩) <|
  pk<|xf<|(Qaf (nmZ Y2 i) (2*(i:Int)) (2*(i:Int)+1) _).mono ?_
 rintro r7 w7 ⟨hS,xa,xm,hf,rfl,hr,hA⟩;have hs:=hR.trans hS;refine ⟨hs.any,?_⟩;refine pk<|QD (us:=[Za ⟨nmZ Y2 i,⟨xa,xm,hf,mzA (2*(i:Int)) (2*(i:Int)+1)⟩⟩]) O O (by decide) (show 1*5≤1000000 by omega) ⟨O,O,U⟩ λgm w8 ht gn hT=>⟨(hs.trans ht).any,?_⟩;have V:=hs.trans ht;have h9:=h5.ext V
 refine pk<|Q6 (news:=Za ⟨nmZ Y2 i,⟨xa,xm,hf,mzA (2*(i:Int)) (2*(i:Int)+1)⟩⟩) (L:=[]) h9.c O O O (hT.at (by simp)) (Qgq hr.1 hr.2.1 hr.2.2.1) (by omega) (by have:=V.size;omega) λhB w9 hC hg hU=>⟨(V.any (L:=ob vc)).trans' hg,?_⟩
 have hV:=h9.setC (QdY (q:=⟨nmZ Y2 i,⟨xa,xm,hf,mzA (2*(i:Int)) (2*(i:Int)+1)⟩⟩) (N:=S.heap.size) (λL hL=>(hA L hL).ext ht) (by omega) h5.avlt) hC hg hU;refine p (λ_=>Qa O)<|pkl (hl:=by kernel_rfl)<|QL (j:=1) (u:=hB) ((h3.ext V).step hg h0) O O (by simp) (QJ hC) λgo hD hW=>pe ?_;refine Qz<|QN O O<|Qb<|xe ?_
 refine ⟨(i+1,ho,ev++yi i,hB,co++[⟨nmZ Y2 i,⟨xa,xm,hf,mzA (2*(i:Int)) (2*(i:Int)+1)⟩⟩]),by simp only[];omega,Z,hM,((h6.trans V.any).then hg (λb hb=>.inr (hO b hb).1)).trans' hD,hW,hV.low hD h4,?_,?_,λq hq=>?_⟩
 ·simp only[];rw[yj,J]
 ·simp only[];rw[Lt,T,List.range_succ,Lt];rfl
 rcases Li.1 hq with hq | hq
 ·exact hk q hq
 rw[La.1 hq];exact K6 _ _ (by decide)
end Go.Proofs.YtdffckgdcegpaaaGreatDoor
namespace Go.Lg
section
variable {P:Program} {f:Fr} {w:World} {d:Option Nat} {ty:Nat} {ps:String} {af:Array Edge} {gd:Option (Nat×Bool)}
abbrev i4 (p:Int×Int×Int×Int):LV:=[.int .i64 p.1,.int .i64 p.2.1,.int .i64 p.2.2.1,.int .i64 p.2.2.2]
class S4 (P:Program) (t:Nat):Prop where
 u:∃f0 f1 f2 f3,P.underlying t=some (.struct #[f0,f1,f2,f3])∧f0.name ≠ "_" ∧ f1.name ≠ "_" ∧ f2.name ≠ "_" ∧ f3.name ≠ "_" ∧ f0.offset=0∧f1.offset=1∧f2.offset=2∧f3.offset=3 ∧
  P.underlying f0.type=some (.int .i64)∧P.underlying f1.type=some (.int .i64)∧P.underlying f2.type=some (.int .i64)∧P.underlying f3.type=some (.int .i64)
 s:P.stoodInHeld t=false
 g:P.eqGuardType P.depth t=false
theorem qY {t:Nat}[h:S4 P t] (w:World) (p:Int×Int×Int×Int):(Op.equal t (.agg (i4 p).toArray) (.agg (i4 p).toArray)).run P w=.ok true w:=by
 obtain ⟨a,b,c,e⟩:=p;obtain ⟨f0,f1,f2,f3,hu,J,n1,S,T,V,o1,o2,o3,H,I,u2,u3⟩:=h.u;have E:∀e w,P.underlying e=some (.int .i64)→(isAgg e).run P w=.ok false w:=λe w he=>by simp[isAgg,run_underlying he]
 have hp:∀e (x y z u:Int) (w:World),P.underlying e=some (.int .i64)→(part e #[.int .i64 x,.int .i64 y,.int .i64 z,.int .i64 u] 0).run P w=.ok (.int .i64 x) w:=λe x y z u w he=>by simp[part,E e w he]
 have Y:∀e (x y z u:Int) (w:World),P.underlying e=some (.int .i64)→(part e #[.int .i64 x,.int .i64 y,.int .i64 z,.int .i64 u] 1).run P w=.ok (.int .i64 y) w:=λe x y z u w he=>by simp[part,E e w he]
 have ha:∀e (x y z u:Int) (w:World),P.underlying e=some (.int .i64)→(part e #[.int .i64 x,.int .i64 y,.int .i64 z,.int .i64 u] 2).run P w=.ok (.int .i64 z) w:=λe x y z u w he=>by simp[part,E e w he]
 have hb:∀e (x y z u:Int) (w:World),P.underlying e=some (.int .i64)→(part e #[.int .i64 x,.int .i64 y,.int .i64 z,.int .i64 u] 3).run P w=.ok (.int .i64 u) w:=λe x y z u w he=>by simp[part,E e w he]
 have G:∀e (m:Nat) (x y:Int) (w:World),P.underlying e=some (.int .i64)→(Op.equalIn (m+1) e (.int .i64 x) (.int .i64 y)).run P w=.ok (x == y) w:=λe m x y w he=>by simp[Op.equalIn,run_underlying he]
 have key:∀m,(Op.equalIn (m+2) t (.agg (i4 (a,b,c,e)).toArray) (.agg (i4 (a,b,c,e)).toArray)).run P w=.ok true w:=by
  intro m;simp only[i4];unfold Op.equalIn;simp only[Sem.run_bind,run_underlying hu,Result.andThen_ok];simp[h.s,J,n1,S,T,V,o1,o2,o3,hp _ _ _ _ _ _ H,Y _ _ _ _ _ _ I,ha _ _ _ _ _ _ u2,hb _ _ _ _ _ _ u3,G _ _ _ _ _ H,G _ _ _ _ _ I,G _ _ _ _ _ u2,G _ _ _ _ _ u3]
 exact key 9998
theorem Qdg {t E:Nat}[h:S4 P t] {x y:Operand}{p:Int×Int×Int×Int}(hx:ev f x=.agg (i4 p).toArray) (hy:ev f y=.agg (i4 p).toArray) :
  (execOp (ev f) ⟨d,.binOp .neq t x y E,ty,ps,af,gd⟩).run P w=.ok (.value (.bool false)) w:=by
 have G:(eqGuard .neq t x y (.agg (i4 p).toArray) (.agg (i4 p).toArray)).run P w=.ok () w:=by simp[eqGuard,h.g]
 simp only[execOp,hx,hy,Sem.run_bind,G,Result.andThen_ok,binOp,qY,Sem.run_pure];rfl
end
end Go.Lg
namespace Go.Proofs.YtdffckgdcegpaaaGreatDoor
open Go.Proofs.Tryz
open Go.Lg
instance s4Rsn:S4 prog 83:=⟨⟨_,_,_,_,underlying83,by decide,by decide,by decide,by decide,O,O,O,O,underlying3,underlying3,underlying3,underlying3⟩,by kernel_rfl,by kernel_rfl⟩
theorem Ve {L L':LN}{w:World}{v v':Value}{l:List Rsn}(h:Zq L w.heap v l.length 4 (l.flatMap Zy)) (h':Zq L' w.heap v' l.length 4 (l.flatMap Zy)) :
  QI prog 198 [v,v'] w λr w'=>r=.bool true∧Step [] w w':=by
 have V:=h.le;refine QI.of_W func198 O ntmps198 results198 (by simp) ?_;refine Qc<|Qe<|Qg<|Qc<|Qb<|x (Qs h O)<|Qb<|x (Qs h' O)<|x (Q9 O O)<|xe<|Q7 rfl (λG=>absurd O G) (λG=>?_);refine Qi<|Qg<|Qc<|Qb<|x (Qs h O)<|Qb<|xe ?_
 refine Qh<|QA (α:=Nat) [(4,5),(13,25)] (λk=>[(13,.int .i64 k)]) (λk w'=>Step [] w w'∧k≤l.length) (λk=>l.length - k) (by rfl) 0 Z ⟨Step.refl _ _,Lj _⟩ ?_;rintro k g H ⟨hs,hk⟩
 replace h:=h.ext hs
 replace h':=h'.ext hs;refine Qc<|x (QB O O)<|xe<|Qg<|QH O (λI=>?_) (λI=>?_)
 ·refine Qy<|Qc<|Qe ?_;exact Qm ⟨[.bool true],Z,O,hs⟩
 have E:k<l.length:=by omega
 refine Qi<|Qg<|Qh<|Qc<|Qb<|Qe<|Qg<|QW (Step [] H) [(0,true),(1,true),(2,true),(3,true),(4,true),(5,true),(6,true),(7,true),(8,true)] mixed (by rfl) (by kernel_rfl) (Step.drew _ _) ?_;refine p (λ_=>Qo)<|p (λ_=>Qo)<|Lg.pig (g:=Zy) (i:=k) O Qc7 h O O E λY J=>pq (λ_ hc=>QF (J.ext hc) O O) <|
  p (λ_=>Qo)<|p (λ_=>Qo)<|Lg.pig (g:=Zy) (i:=k) O Qc7 h' O O E λha S=>pq (λ_ hc=>QF (S.ext hc) O O)<|p (λ_=>Qdg (p:=((l[k]'E).st,(l[k]'E).kd,(l[k]'E).ix,(l[k]'E).ev)) O O)<|pe ?_
 have T:=hs.trans (Step.drew [] H);refine Yc rfl ?_;refine Qi<|Qz<|QN O O<|Qb<|xe ?_;exact ⟨k+1,by omega,Z,T,by omega⟩
def KA:ByteArray:=⟨#[110,101,118,101,114]⟩
def Jn:ByteArray:=⟨#[98,111,116,104]⟩
def zh:ByteArray:=⟨#[109,111,115,116]⟩
def zu:XT:=⟨KA,⟨[1],1,[0],[]⟩⟩
def Qer (i j:Int):ji:=⟨Jn,[(i,1),(j,1)]⟩
def Qit:Xf:=⟨zh,[(0,1),(1,1)],1⟩
def k1C:Zv:={ mzC 1 with rq:=[zu] }
def k2C:Zv:={ mzC 2 with ex:=[Qer 0 1] }
def k3C:Zv:={ mzC 2 with cs:=[Qit] }
theorem Qjo:Yr k1C=0:=by kernel_rfl
theorem Qjn:(spc k1C).fb=[⟨1,3,0,1⟩]:=by kernel_rfl
theorem Qhl:(spc k1C).a.st=2:=by kernel_rfl
theorem QhY:Qbe k1C=true:=by kernel_rfl
theorem QhZ:cmB k1C=[2]:=by kernel_rfl
theorem Qkd:Yr k2C=0:=by kernel_rfl
theorem Qjl:(spc k2C).fb=[⟨3,1,0,-1⟩]:=by kernel_rfl
theorem Qjk:(spc k2C).a.st=4:=by kernel_rfl
theorem Qkc:Yr k3C=0:=by kernel_rfl
theorem Qjj:(spc k3C).fb=[⟨3,2,0,-1⟩]:=by kernel_rfl
theorem Qbr {w:World}{v:Value}(E:v.cells=[v].toArray):QI prog 281 [v] w λr w'=>Step [] w w'∧∃b,r=.func (.func 307) #[] #[.pointer (some ⟨b,0,none⟩)]∧w.heap.size≤b∧Q4 w'.heap b 37 [v]:=by
 refine QI.of_W func281 O ntmps281 results281 (by simp) ?_;refine Qc<|xl O<|QQ (us:=[v]) E λG S H I J=>Qe<|Qc<|x Zp<|Qe ?_;exact Qm ⟨[_],Z,H,G,O,I,J⟩
theorem zR {L:LN}{w:World}{S m:Nat}{v:Value}{E:LI}(hb:Q4 w.heap S 37 [v]) (hE:QK L w.heap v E) :
  SeqStopsK (fen none) m prog 307 [.pointer (some ⟨S,0,none⟩)].toArray (λx:Int=>#[.int .i64 x]) (Lw w.heap.size L) (λG=>G=E) (λ_=>True) (E.length+1) w:=by
 intro l J Jx W hc hJ hf hY h0;have V:Step [] w W:=Step.of_below hc;have hm:=hE.le;have ab:∀{G:LI} {W1 W2:World},J G W1→Step [] W1 W2→J G W2:=λ{G W1 W2} hj T=>hJ G W1 W2 none hj ⟨T.os,T.tape,T.output,T.size,λk hk _=>T.block k hk (by simp)⟩ (λr e=>by cases e)
 have key:QI prog 307 [.func (.yield l) #[] #[],.pointer (some ⟨S,0,none⟩)] W (λ_ W'=>(∃G,G=E∧J G W')∨(∃pre,True∧Jx pre W')):=by
  refine QI.of_G m func307 O ntmps307 results307 (by simp) ?_;have hg:=hb.ext V;refine QT<|QG (by rfl) (by rfl) ?_;refine x (Qd hg O O)<|x (Qs (hE.ext V) O)<|Qb<|xe<|ZE<|Vr (α:=Nat) [(4,4),(7,15)] (λk=>[(7,.int .i64 k)]) (λk ds W'=>ds=[]∧k≤E.length∧Step L w W'∧J (E.take k) W') (λk=>E.length - k) (by rfl) 0 Z
   ⟨O,Lj _,V.any,h0⟩ ?_
  rintro k g ds w1 ⟨rfl,hk,ha,Y⟩;refine QT<|QG (by rfl) (by rfl) ?_;refine x (QB O O)<|xe<|QT<|qL O (λh8=>?_) (λh8=>?_)
  ·refine JB ?_;have hh:E.length≤k:=by have h9:¬(k:Int)<(E.length:Int):=h8;omega
   rw[Ll hh] at Y;exact ⟨λ_ h=>(by cases h),Mw,[],λW' H=>⟨U,.inl ⟨E,rfl,ab Y H⟩⟩⟩
  refine Z3 ?_;have I:k<E.length:=by have h9:(k:Int)<(E.length:Int):=h8;omega
  have hi:E.take (k+1)=E.take k++[E[k]'I]:=Le I;have hn:(E.take k).length=k:=by rw[Lx];omega
  refine QT<|ZE<|QT<|QG (by rfl) (by rfl) ?_;refine xii (i:=k) (hE.st ha) O O I λa9 h9=>x (Qv h9 O)<|Qe<|QT<|JN (by rfl) ?_;refine Xj.pre2 ?_;refine Qb<|Qb<|xe<|xy (l:=l) O (hY (E.take k) (E[k]'I) w1 Y (by omega)) λen W3 hl=>Or.elim hl (λh1=>⟨.bool true,h1.1,?_⟩) (λh1=>⟨.bool false,h1.1,?_⟩)
  ·refine Xj.of_XL<|x (Zs O)<|xe<|JO O<|Z3 ?_;refine QG (by rfl) (by rfl) ?_;refine QN O O<|Qb<|xe ?_;exact ⟨k+1,by omega,Z,O,I,ha.lw h1.2.2,by rw[hi];exact h1.2.1⟩
  refine Xj.of_XL<|x (Zs O)<|xe<|zH O ?_;refine JA ⟨λ_ h=>(by cases h),Mw,[],λW' H=>⟨U,.inr ⟨E.take k++[E[k]'I],U,?_⟩⟩⟩;exact hf _ W3 W' none h1.2 ⟨H.os,H.tape,H.output,H.size,λk hk _=>H.block k hk (by simp)⟩ (λr e=>by cases e)
 refine (callsIn_wide (n:=m)).2 ?_;have ea:(#[.func (.yield l) #[] #[]]++[.pointer (some ⟨S,0,none⟩)].toArray:Array Value)=[.func (.yield l) #[] #[],.pointer (some ⟨S,0,none⟩)].toArray:=by simp
 rw[ea];unfold QI at key;refine Calls.mono key λe w' he=>?_;cases e with
 | returned v=>exact ⟨⟨v,O⟩,he⟩
 | panicked c=>exact he.elim
 | outgrown=>exact he.elim
set_option maxHeartbeats 1000000 in
theorem Qcm {w:World}{V:Nat}{v:Value}{Y:LI}(hj:Q4 w.heap V 37 [v]) (hE:QK [] w.heap v Y) (hl:Y.length≤1000) :
  QI prog 319 [Zz,.func (.func 307) #[] #[.pointer (some ⟨V,0,none⟩)]] w λr w'=>Step [] w w'∧Qu 3 w.heap.size w' r Y:=by
 refine QI.of_G 20 func319 O ntmps319 results319 (by simp) ?_;refine QT<|QG (by rfl) (by rfl) ?_;refine xl rfl<|QQ (us:=[Zz]) O λJ w1 T he hf=>Qe ?_;have hq:=T.size;have hr:=hf.lt;refine QT<|QT<|QG (by rfl) (by rfl) ?_;refine Qb<|xe<|ZE<|Qg6 (α:=Int) [J] (by omega) (capt:=[.pointer (some ⟨V,0,none⟩)]) O (enc:=λx=>.int .i64 x) (by decide)
  (zR (hj.ext T) ((hE.up (L':=[J]) (λb hb=>.inr (by rw[La.1 hb];exact he))).ext T))
  (λpre W=>∃vo,Step [J] w1 W∧Q4 W.heap J 37 [vo]∧Qu 3 w1.heap.size W vo pre)
  (λpre=>ZU.ex λvo=>(ZU.step (Lr _)).and (ZU.blk.and ZU.row))
  ⟨Zz,Step.refl _ _,hf,QM _ _ _ _⟩
  (λf x f' W=>f'=upd (upd f 7 (.int .i64 x)) 5 (.int .i64 x)) (λx f'=>ZU.pure _) ?_ ?_ ?_
 ·rintro l pre e W ⟨vo,I,H,E⟩;refine QG (by rfl) (by rfl) ?_;refine Qe ?_;exact ⟨O,X6.refl _ _ _,⟨vo,I,H,E⟩,O⟩
 ·rintro l pre e f' W ⟨vo,I,H,E⟩ rfl hN;have hg:J∉ob vo:=QU E (by omega);have hge:=Qn E;have hk:=I.size;refine ZE<|QG (by rfl) (by rfl) ?_;refine x (Qd H O O)<|Qb<|xl O<|QD (us:=[[.int .i64 e]]) O O (by decide) (by simp) ⟨rfl,rfl,U⟩ λhs w2 G ht hn=>?_
  refine xl O<|Q6 (m:=1) (news:=[.int .i64 e]) (Qq E G) O O O (hn.at (L:=[]) (by simp)) (by simp[Value.oneCell']) (by omega) (by have:=G.size;omega) λv3 w3 ha S hu=>?_;refine xl O<|QL (u:=v3) ((H.ext G).step S hg) O O (by simp) (QJ ha) λw4 hc ho=>xe ?_;have hv:=G.size;have hw:=QY (Qq E G);have hy:=QO E
  refine ⟨((X6.ext G hk).trans (X6.step S (by omega) (λb hb=>⟨.inr (hge b hb).1,Go.Lg.QY (Qq E G) b hb⟩))).trans (X6.blk hc (by have:=S.size;omega) ((H.ext G).step S hg) (.inl Ls)),v3,((I.trans G.any).then S (λb hb=>.inr (hge b hb).1)).trans' hc,ho,?_⟩;have h9:=Qk ha hc (λb hb=>by have:=(Qn ha b hb).1;simp only[List.mem_singleton];omega)
  exact Qu.snoc h9
 rintro D xs W hD rfl ⟨vo,I,H,E⟩ hh;refine QT<|QG (by rfl) (by rfl) ?_;refine x (Qd H O O)<|Qe<|JA ⟨λD' hp=>by rw[La.1 hp];exact hh,M9 _ _,[vo],λW' hi=>⟨Z,(T.then1 I he).then hi (λb hb=>.inr (by rw[La.1 hb];omega)),?_⟩⟩;refine Zk (Qk E hi (λb hb hm=>?_)) (by omega);rw[La.1 hm] at hb
 obtain ⟨o,h1,h2⟩:=Go.Lg.QY E _ hb;rw[hh] at h1;cases h1
 cases h2
theorem j0 {w:World}{G:Nat}{v:Value}{E:LI}(H:Q4 w.heap G 37 [v]) (hE:QK [] w.heap v E) (hl:E.length≤1000) :
  QI prog 306 [.func (.func 307) #[] #[.pointer (some ⟨G,0,none⟩)]] w λr w'=>Step [] w w'∧Qu 3 w.heap.size w' r E:=by
 refine QI.of_W func306 O ntmps306 results306 (by simp) ?_;refine Qc<|Qe<|Qc<|Qb<|xl O<|xf<|(Qcm H hE hl).mono ?_;rintro I T ⟨J,S⟩;refine Qe ?_;exact Qm ⟨[I],Z,J,S⟩
theorem Qbw {w:World}{G:Nat}{v:Value}{E:LI}(I:Q4 w.heap G 37 [v]) (hE:QK [] w.heap v E) (hl:E.length≤1000) :
  QI prog 280 [.func (.func 307) #[] #[.pointer (some ⟨G,0,none⟩)]] w λr w'=>Step [] w w'∧Qu 3 w.heap.size w' r (E.mergeSort λx y=>decide (x≤y)):=by
 refine QI.of_W func280 O ntmps280 results280 (by simp) ?_;refine Qc<|Qe<|Qc<|Qb<|xl O<|xf<|(j0 I hE hl).mono ?_;rintro J Y ⟨S,H⟩;refine Qe<|Qc<|Qb<|xl O<|xf<|(qa H (by omega)).mono ?_;rintro r2 w2 ⟨T,V⟩;refine xe<|Qc<|Qb<|Qe ?_;exact Qm ⟨[J],Z,S.then T (λb hb=>.inr (Qn H b hb).1),V⟩
theorem Qd4:∀{l:LI}{k:Nat}(h:k<l.length) {n:Int},l[k]'h=n→n∉l.take k→l.idxOf n=k
 | [],_,h,_,_,_=>by simp at h
 | a::l,0,_,n,e,_=>by
  have e2:a=n:=e;rw[e2,List.idxOf_cons_self]
 | a::l,k+1,h,n,e,E=>by
  have G:a≠n:=λe2=>E (by rw[MK,e2];exact Ls);rw[List.idxOf_cons,show (a == n)=false by simpa using G];show List.idxOf n l+1=k+1;have:=Qd4 (l:=l) (k:=k) (by simpa using h) (by simpa using e) (λhm=>E (by rw[List.take_succ_cons];exact Lm _ hm));omega
theorem Qia {L:LN}{w:World}{v:Value}{l:LI}(h:QK L w.heap v l) {n:Int}(H:n∈l) :
  QI prog 132 [v,.int .i64 n] w λr w'=>w'=w∧r=.int .i64 (l.idxOf n:Nat):=by
 have J:=h.le;refine QI.of_W func132 O ntmps132 results132 (by simp) ?_;refine Qc<|Qe<|Qg<|Qc<|Qb<|x (Qs h O)<|Qb<|xe<|Qh<|QA (α:=Nat) [(4,5),(8,18)] (λk=>[(8,.int .i64 k)]) (λk w'=>w'=w∧k≤l.length∧n∉l.take k) (λk=>l.length - k) (by rfl) 0 Z ⟨O,Lj _,by simp⟩ ?_;rintro k g S ⟨rfl,hk,hm⟩;refine Qc<|x (QB O O)<|xe<|Qg<|QH O (λh9=>?_) (λh9=>?_)
 ·exfalso;rw[Ll (by omega)] at hm;exact hm H
 have E:k<l.length:=by omega
 refine Qi<|Qg<|Qh<|Qc<|Qb<|Qe<|Qc<|Qb<|Qb<|Qb<|xii h O O E λT I=>x (Qv I O)<|x (Q5 O O)<|xe<|Q7 rfl (λG=>?_) (λG=>?_)
 ·refine Qc<|Qb<|Qe ?_;exact Qm ⟨[.int .i64 k],Z,O,congrArg (λm:Nat=>Value.int .i64 m) (Qd4 E (Eq.symm G) hm).symm⟩
 refine Qi<|Qz<|QN O O<|Qb<|xe<|⟨k+1,by omega,Z,O,by omega,?_⟩;rw[Le E,Li,La];exact λh=>h.elim hm G
def jy (a:QP) (to:LI):List Ed:=a.ed.map λe=>(e.1,cget to (a.al.idxOf e.2.1),e.2.2)
set_option maxHeartbeats 8000000 in
theorem Qac {w:World}{va vm ve vt:Value}{a:QP}{to sa:LI}{se:List Ed}(h:Zu [] w.heap va vm ve a) (g2:X2 a=0) (ho:Zi a) (ht:QK [] w.heap vt to) (hA:to.length=a.al.length) (hM:∀e∈to,0≤e∧e<32) (g3:to.Nodup)
  (hN:to.mergeSort (λx y=>decide (x≤y))=sa) (g4:∀l',l'.Perm (jy a to)→l'.Pairwise yI→l'=se) (g5:Zi ⟨sa,a.st,a.mr,se⟩) :
  QI prog 250 [.agg #[va,.int .i64 a.st,vm,ve],vt] w λr w'=>Step [] w w'∧∃v,r=.tuple #[v,.int .i64 0]∧YY w.heap.size w'.heap v (YV ⟨sa,a.st,a.mr,se⟩):=by
 have mi:=ho.st0;have mj:=ho.st1;have mn:=ho.al_le;refine QI.of_W func250 O ntmps250 results250 (by simp) ?_;refine Qc<|xl O<|QQ (us:=[va,.int .i64 a.st,vm,ve]) O λb2 w1 hO mo g6=>xl O<|Qt (us:=X0) O λb4 w2 hC mq hP=>Qe ?_;have hQ:=hO.trans hC;have mu:=hO.size;have mv:=hC.size;have mw:=hP.lt;have hR:=g6.ext hC
 refine Qg<|Qc<|x (Qr hR O O)<|xl O<|xf<|(Xb (h.ext hQ)).mono ?_;rintro r3 w3 ⟨hS,hu⟩;rw[g2] at hS;subst hS;have hD:=hQ.trans hu;have my:=hu.size;have hf:=hR.ext hu;have hT:=hP.ext hu;refine Qe<|Qc<|Qb<|x (Q9 O O)<|xe<|Yc rfl ?_;refine Qi ?_;have hw:=h.ext hD;have V:=ht.ext hD
 refine Qg<|Qc<|Qb<|x (Qs V O)<|x (Qa O)<|x (Qd hf O O)<|x (Qs hw.al O)<|x (Q9 O O)<|xe<|Q7 rfl (λhU=>absurd (congrArg (λm:Nat=>(m:Int)) hA) hU) (λhU=>?_);refine Qi<|Q0 (α:=Unit) [(5,5),(7,8),(25,47)] (λ_=>[]) (λ_ w'=>w'=w3) (by rfl) ?_ ?_
 ·refine Qc<|Qb<|x (Qs V O)<|Qb<|xe<|Qh<|QA (α:=Nat) [(5,5),(7,8),(27,47)] (λk=>[(27,.int .i64 k)]) (λk w'=>w'=w3∧k≤to.length) (λk=>to.length - k) (by rfl) 0 Z ⟨O,Lj _⟩ ?_;rintro k g w' ⟨rfl,hk⟩;refine Qc<|x (QB O O)<|xe<|Qg<|QH O (λhV=>?_) (λhV=>?_)
  ·refine Qy ?_;exact ⟨(),U,O⟩
  have H:k<to.length:=by have mz:(k:Int)<(to.length:Int):=hV;omega
  have g7:=hM _ (Lc H);have hW:(to[k]'H)∉to.take k:=λhm=>by
   obtain ⟨j,hj,hX⟩:=LD hm;rw[MR] at hX;have g8:j<k:=by rw[Lx] at hj;omega
   have:=(LM.1 g3) j k (by omega) H g8;exact this hX
  refine Zh (to[k]'H) λe he=>?_;rw[he] at g7 hW;refine Qi<|Qg<|Qh<|Qc<|Qb<|xii V O O H λm0 hY=>?_;rw[he] at hY;refine x (Qv hY O)<|x Qf<|Qe<|Qh<|Qc<|Qb<|xb (QB O O) (λhZ=>absurd (show e<0 from hZ) (by omega)) (λhZ=>?_);refine Qb<|Qb<|x (ZX O O)<|x (Qj O)<|Qe<|Q7 O (λga=>absurd (show e≥32 from ga) (by omega)) (λga=>?_);refine Qc<|Qb<|Qb<|Qhu V O O (by omega) λg9 ka=>?_
  have kb:QK [] w'.heap g9 (to.take k):=by
   unfold QK;have kc:(to.take k).length=k:=by rw[Lx];omega
   rw[kc,List.map_take];simpa using ka
  refine Qb<|xl O<|xf<|(ZR kb e).mono ?_;rintro m1 w' ⟨rfl,rfl⟩;refine Qe<|Q7 O (λgb=>absurd gb hW) (λgb=>?_);refine Qi<|Qz<|QN O O<|Qb<|xe ?_;exact ⟨k+1,by omega,Z,O,H⟩
 rintro ⟨⟩ g w' rfl;have ke:Step [] w' { w' with drawn:=w'.drawn+1 }:=Step.drew _ _
 refine Q0 (α:=Nat×Value) [(9,9),(48,55)] (λz=>[(9,.pointer (some ⟨z.1,0,none⟩))]) (λz G=>Step [] w' G∧w'.heap.size≤z.1∧Q4 G.heap z.1 58 [z.2,.int .i64 a.st,vm,nS]∧z.2.oneCell'=true∧∀L:LN,(∀b∈L,b<w'.heap.size∨b=z.1)→QK L G.heap z.2 sa) (by rfl) ?_ ?_
 ·refine qH (α:=Value) (Step [] w') [(0,true),(3,true),(4,true),(5,true),(6,true)] [(1,false),(2,false),(7,true)] 8 9 [(9,false)] [] [(48,55)] [(49,50),(55,55)] (λz=>[(55,.agg [z,.int .i64 a.st,vm,nS].toArray)])
   (λz own G=>(∀b∈own,w'.heap.size≤b)∧z.oneCell'=true∧∀L:LN,(∀b∈L,b∉own)→QK L G.heap z sa)
   (λv G=>∃b,v=.pointer (some ⟨b,0,none⟩)∧w'.heap.size≤b∧Q4 G.heap b 58 X0) mixed (by rfl) (by kernel_rfl) (by rfl) O ke (by simp) ?_ ?_ ?_ ?_
  ·rintro v own wa wb ⟨b,rfl,hb,hB⟩ hs hn;exact ⟨b,O,hb,hB.step hs (hn b (by simp[ow]))⟩
  ·rintro z own wa wb ⟨h1,h2,h3⟩ hs;exact ⟨h1,h2,λL hL=>(h3 L hL).ext hs⟩
  ·rintro z g own wz v ⟨i1,i2,i3⟩ kf ⟨E,rfl,Y,hg⟩ kg;have gc:=(kg E (by simp[ow])).1;refine pkl (hl:=by kernel_rfl)<|Qp (us:=[z,.int .i64 a.st,vm,nS]) hg O O O O ⟨i2,O,hw.mr.one,O,U⟩ λG T kh=>pe ?_;refine ⟨(E,z),Z,kf.then1 T Y,Y,kh,i2,λL hL=>?_⟩;have h1:=i3 (E::L) (λb hb=>by
    rcases Lb.1 hb with rfl | hb
    ·exact gc
    rcases hL b hb with h2 | h2
    ·exact λh3=>by have:=i1 b h3;omega
    subst h2;exact gc)
   exact (h1.st (T.mono (by simp))).up (λb hb=>.inl (by simp[hb]))
  refine Go.Lg.p (λ_=>Qo)<|Go.Lg.p (λ_=>Qa O)<|pq (λ_ hc=>Qd (hf.ext hc) O O)<|Go.Lg.p (λ_=>Qa O)<|pq (λ_ hc=>Qd (hf.ext hc) O O) <|
   pe ⟨λg wf ge=>Qt (us:=X0) O λb m2 gg gh gi=>⟨gg,ge.trans gg,⟨b,O,LS ge.size gh,gi⟩,λx hx=>?_⟩,?_⟩
  ·have ki:x=b:=by
    have kj:x∈[b]:=hx;simpa using kj
   subst ki;exact ⟨gh,gi.lt⟩
  refine f2k λx1 p1 c1=>xf<|(Qbr V.cells).mono ?_;rintro m3 y1 ⟨gj,m4,rfl,m5,hE⟩;refine ⟨c1.trans gj,jz x1.heap.size y1.heap.size,gj.any,λb hb=>.inr (Yl.1 hb),?_⟩;refine f2k λx2 p2 c2=>xf<|(Qbw (hE.ext p2) (V.ext c2) (by omega)).mono ?_;rintro kk y2 ⟨gk,hh⟩;rw[hN] at hh
  refine ⟨c2.trans gk,jz x1.heap.size y1.heap.size++jz x2.heap.size y2.heap.size,gk.any,λb hb=>(Li.1 hb).imp id λhb=>Yl.1 hb,?_⟩;refine f2p (λ_=>QE ⟨QY hh,O,hw.mr.cells,U⟩)<|f2e ?_;refine ⟨kk,Z,λb hb=>?_,QJ hh,λL hL=>?_⟩
  ·have e1:=c1.size;have e2:=c2.size;rcases Li.1 hb with hb | hb
   ·have:=Yl.1 hb;omega
   have:=Yl.1 hb;omega
  exact QS hh (by rw[←hN,(List.mergeSort_perm to _).length_eq];omega) (λb hb hm=>hL b hm (Li.2 (.inr (Yl.2 (Qn hh b hb)))))
 rintro ⟨E,vs⟩ g G ⟨T,Y,hg,hvo,gl⟩;simp only[] at Y hg hvo gl;have m6:=T.size;have gm:=hg.lt;have gn:=hf.ext T;have m7:=hT.ext T;have go:∀b∈[E],b∈([]:LN)∨w'.heap.size≤b:=λb hb=>.inr (by rw[La.1 hb];exact Y);have hi:Zu [E] G.heap va vm ve a:=(hw.up go).ext T;have kn:QK [E] G.heap vt to:=(V.up go).ext T
 have ko:=gl [E] (λb hb=>.inr (La.1 hb));have m8:=hi.ed.le;have kp:b2∉[E]:=by have:=hf.lt;simp only[List.mem_singleton];omega
 have m9:b4∉[E]:=by simp only[List.mem_singleton];omega
 have kq:(jy a to).length=a.ed.length:=by unfold jy;rw[Lh]
 have kr:∀e∈jy a to,(0≤e.1∧e.1<1099511627776)∧0≤e.2.1∧e.2.1<1099511627776:=λe he=>by
  unfold jy at he;obtain ⟨d,hd,rfl⟩:=Ly.1 he;have h1:=ho.ed d hd;have h2:a.al.idxOf d.2.1<to.length:=by rw[hA];exact MG h1.2.2.1
  have h3:=hM _ (Lc h2);have h4:=Zn h2;simp only[];omega
 refine Q0 (α:=Value) [(11,11),(56,78)] (λ_=>[]) (λz I=>Step [E] G I∧Q4 I.heap E 58 [vs,.int .i64 a.st,vm,z]∧I.ownsRow G.heap.size 144 3 z (jy a to).length ((jy a to).flatMap Qw)) (by rfl) ?_ ?_
 ·refine Qc<|x (Qa O)<|x (Qd gn O O)<|x (Qs hi.ed O)<|Qb<|xe<|Qh<|QA (α:=Nat×Value) [(11,11),(59,78)] (λz=>[(59,.int .i64 z.1)]) (λz I=>z.1≤a.ed.length∧Step [E] G I∧Q4 I.heap E 58 [vs,.int .i64 a.st,vm,z.2]∧I.ownsRow G.heap.size 144 3 z.2 z.1 (((jy a to).take z.1).flatMap Qw)) (λz=>a.ed.length - z.1) (by rfl) (0,Zz) Z ⟨Lj _,Step.refl _ _,hg,QM _ _ _ _⟩ ?_
  rintro ⟨k,vr⟩ g I ⟨hk,J,ha,S⟩;simp only[] at hk ha S;refine Qc<|x (QB O O)<|xe<|Qg<|QH O (λhG=>?_) (λhG=>?_)
  ·refine Qy ?_;have kt:k=a.ed.length:=by have hz:¬(k:Int)<(a.ed.length:Int):=hG;omega
   rw[Ll (by omega),kt,←kq] at S;exact ⟨vr,U,J,ha,S⟩
  have H:k<a.ed.length:=by have hz:(k:Int)<(a.ed.length:Int):=hG;omega
  have hH:=ho.ed _ (Lc H);have ku:(jy a to)[k]'(by omega)=((a.ed[k]'H).1,cget to (a.al.idxOf (a.ed[k]'H).2.1),(a.ed[k]'H).2.2):=by unfold jy;rw[MN]
  have hq:(jy a to).take (k+1)=(jy a to).take k++[(jy a to)[k]'(by omega)]:=Le (by omega);rw[ku] at hq;refine Zh (a.ed[k]'H) λe he=>?_;rw[he] at hH hq;have hI:a.al.idxOf e.2.1<to.length:=by rw[hA];exact MG hH.2.2.1
  rw[←Zn hI] at hq;refine Zh (to[a.al.idxOf e.2.1]'hI) λy hy=>?_;rw[hy] at hq;refine Qi<|Qg<|Qh<|Qc<|xie (i:=k) (hi.ed.st J) O O H λpa hz=>?_;rw[he] at hz;refine x (QF hz O O)<|xl O<|Qt (us:=[.int .i64 0,.int .i64 0,.int .i64 0]) O λkv w7 hr gp kw=>xl O<|Qp (us:=Qw e) kw O O O O ⟨O,O,O,U⟩ λw8 h0 gq=>xe ?_;have h5:Step [] I w8:=hr.then1 h0 gp;have kx:=J.size
  refine Qc<|Qb<|x (Qa O)<|x (Qd ((gn.step J kp).ext h5) O O)<|x (Qa O)<|x (Qd gq O O)<|xl O<|xf<|(Qia ((hi.al.st J).ext h5) hH.2.2.1).mono ?_;rintro pc w8 ⟨rfl,rfl⟩;refine xii ((kn.st J).ext h5) O O hI λpd gr=>?_;rw[hy] at gr;refine x (Qv gr O)<|x (Qa O)<|xl O<|QL (u:=.int .i64 y) gq O O (by simp[Qw]) rfl λw9 h6 ky=>xe ?_
  have kz:Q4 w9.heap kv 144 (Qw (e.1,y,e.2.2)):=ky;have h7:Step [] I w9:=h5.then1 h6 gp;have gs:=ha.ext h7;have k0:=Qq S h7;have n9v:E∉ob vr:=QU S gm;have hge:=Qn S;have pf:=h7.size;refine Qz<|x (Qa O)<|x (Qd gs O O)<|x (Qr kz O O)<|xl O<|QD (us:=[Qw (e.1,y,e.2.2)]) O O (by decide) (by exact (by decide:1*3≤1000000)) ⟨O,O,U⟩ λpg ph h8 pj k4=>?_
  refine xl O<|Q6 (m:=1) (news:=Qw (e.1,y,e.2.2)) (L:=[]) (Qq k0 h8) O O O (k4.at (by simp)) (by simp[Qw,Value.oneCell']) (by omega) (by have:=h8.size;omega) λgt pm hJ gu pn=>?_;refine x (Qa O)<|xl O<|QL (u:=gt) ((gs.ext h8).step gu n9v) O O (by simp) (QJ hJ) λpo gv k5=>xe ?_;refine Qz<|QN O O<|Qb<|xe ?_
  refine ⟨(k+1,gt),by simp only[];omega,Z,H,(((J.trans h7.any).trans h8.any).then gu (λb hb=>.inr (hge b hb).1)).trans' gv,k5,?_⟩;simp only[];rw[hq,LA];have h9:=Qk hJ gv (λb hb=>by have:=(Qn hJ b hb).1;simp only[List.mem_singleton];omega);simpa using h9
 rintro vr g I ⟨J,ha,S⟩;have n9r:E∉ob vr:=QU S gm;have kx:=J.size;have gw:=Qn S;refine Qc<|x (Qa O)<|x (Qd ha O O)<|xl O<|xf<|(qU S (by omega) kr).mono ?_;rintro r7 w7 ⟨hr,l',hp,k6,k7⟩;have k8:=g4 l' hp k6;subst k8;refine xe ?_;have k9:=ha.step hr n9r;have ma:∀b∈E::ob vr,b∈[E]∨G.heap.size≤b:=λb hb=>by
  rcases Lb.1 hb with rfl | hb
  ·exact .inl Ls
  exact .inr (gw b hb).1
 have gx:∀{v:Value} {l:LI},QK [E] G.heap v l→QK [] w7.heap v l:=λhv=>(((hv.up ma).st (J.mono (by simp))).st (hr.mono (λb hb=>Lm _ hb))).up (λb hb=>by cases hb);have mc:UJ [] w7.heap vr l':=QS k7 (by have:=hp.length_eq;omega) (by simp);have mf:Zu [] w7.heap vs vm vr ⟨sa,a.st,a.mr,l'⟩:=⟨gx ko,gx hi.mr,mc⟩
 have hK:Step [] w' w7:=(T.then1 J Y).then hr (λb hb=>.inr (by have:=(gw b hb).1;omega));have pp:=hK.size;have mg:=hT.ext hK;refine Qc<|x (Qr k9 O O)<|xl O<|xf<|(X3 mf g5).mono ?_;rintro v w8 ⟨h0,hF⟩;obtain ⟨us,gy,gz,mh⟩:=X8 hF;refine xl rfl<|Qp (us:=us) (mg.ext h0) O gy gz O mh λw9 h6 hE=>Qe ?_;have g0:=hD.trans hK
 refine Qm ⟨[.agg us.toArray,.int .i64 0],⟨⟨_,O,Qx gz (hE.at (L:=[]) (by simp)).cells⟩,rfl,U⟩,(g0.trans h0).then1 h6 (by omega),v,by rw[gy];rfl,?_⟩;exact (XW hF (by omega) h6).mono (by have:=g0.size;omega)
theorem QhJ {motive:LI→Prop}(nil:motive []) (append_singleton:∀u v,motive u→motive (u++[v])) (u:LI):motive u:=by
 have key:∀r:LI,motive r.reverse:=by
  intro r;induction r with
  | nil=>exact nil
  | cons v r ih=>rw[List.reverse_cons];exact append_singleton _ _ ih
 have:=key u.reverse;rw[List.reverse_reverse] at this;exact this
def enc (u:LI):Int:=u.foldl (λn e=>n*33+(e+1)) 0
theorem Js (u:LI) (v:Int):enc (u++[v])=enc u*33+(v+1):=by unfold enc;rw[Md];rfl
def Qcp (u:LI):Prop:=∀e∈u,0≤e∧e<32
theorem Qcp.snoc {u:LI}{v:Int}(h:Qcp (u++[v])):Qcp u∧0≤v∧v<32:=⟨λe he=>h e (LL _ he),h v (by simp)⟩
theorem Qij {u:LI}(h:Qcp u):0≤enc u:=by
 induction u using QhJ with
 | nil=>exact Nc _
 | append_singleton u v ih=>rw[Js];have:=ih h.snoc.1;have:=h.snoc.2;omega
def rn (a:QP) (x:Int) (u:LI):Int:=u.foldl (λs v=>nxt a.ed s v) x
theorem QfP (a:QP) (x:Int) (u:LI) (v:Int):rn a x (u++[v])=nxt a.ed (rn a x u) v:=by unfold rn;rw[Md];rfl
def x0 (a:QP):Int:=if 0<a.st then 0 else -1
structure Fw where
 u:LI
 s:Int
def Vv:Fw:=⟨[],0⟩
def wdN (e:Fw) (d:Ed):Fw:=⟨e.u++[d.2.1],d.2.2⟩
def wdR (a:QP) (e:Fw):List Fw:=(ZJ a.ed e.s).map (wdN e)
def wdL (a:QP) (most:Nat):Nat→Nat→List Fw→Option (List Fw)
 | 0,_,L=>some L
 | f+1,i,L=>if i<L.length then (if (L.getD i Vv).u.length=most then some L else if 1024<(L++wdR a (L.getD i Vv)).length then none else wdL a most f (i+1) (L++wdR a (L.getD i Vv))) else some L
def wds (a:QP) (most:Nat):Option (List Fw):=wdL a most 1025 0 [Vv]
structure WdI (a:QP) (most i:Nat) (L:List Fw):Prop where
 ne:0<L.length
 le:i≤L.length
 mx:L.length≤1024
 rx:∀e∈L,e.s=rn a 0 e.u∧0≤e.s∧e.s<a.st∧(∀v∈e.u,v∈a.al)∧e.u.length≤most
 so:L.Pairwise λp q=>enc p.u<enc q.u
 hd:(L.getD 0 Vv).u=[]
 pr:∀e∈L,e.u=[]∨∃j v,j<i∧e.u=(L.getD j Vv).u++[v]
 ch:∀j v,j<i→0≤nxt a.ed (L.getD j Vv).s v→∃e∈L,e.u=(L.getD j Vv).u++[v]
theorem Qeg {L:List Fw}{i:Nat}(h:i<L.length):L.getD i Vv∈L:=by simp[List.getD,h]
theorem Qeh {L r:List Fw}{i:Nat}(h:i<L.length):(L++r).getD i Vv=L.getD i Vv:=by simp[List.getD,List.getElem?_append_left h]
theorem WdI.step {a:QP}(G:Zi a) {most i:Nat}{L:List Fw}(h:WdI a most i L) (hi:i<L.length) (hl:(L.getD i Vv).u.length≠most) (hm:¬1024<(L++wdR a (L.getD i Vv)).length):WdI a most (i+1) (L++wdR a (L.getD i Vv)):=by
 have I:Qcp a.al:=G.al;have Y:∀e∈L,Qcp e.u:=λe he u hu=>I u ((h.rx e he).2.2.2.1 u hu);have V:=Qeg hi;obtain ⟨r1,r2,r3,r4,r5⟩:=h.rx _ V;generalize J:L.getD i Vv=ei at *;have S:∀e∈wdR a ei,∃d∈ZJ a.ed ei.s,e=wdN ei d∧d.2.1∈a.al∧0≤d.2.2∧d.2.2<a.st∧nxt a.ed ei.s d.2.1=d.2.2:=λe he=>by
  unfold wdR at he;obtain ⟨d,hd,rfl⟩:=Ly.1 he;obtain ⟨ha,hh⟩:=Zw hd;have T:=G.ed d ha;refine ⟨d,hd,O,T.2.2.1,T.2.2.2.1,T.2.2.2.2,?_⟩;rw[QaE];obtain ⟨k,hk,rfl⟩:=LD hd;refine jH _ ei.s _ k hk (λe he=>(Zw he).2) O (λm hb e=>?_);have hp:(ZJ a.ed ei.s).Pairwise λx y:Ed=>x.1<y.1∨(x.1=y.1∧x.2.1<y.2.1):=List.Pairwise.sublist MU G.edi
  have:=LM.1 hp m k (by omega) hk hb;have e1:=(Zw (Lc (l:=ZJ a.ed ei.s) (show m<(ZJ a.ed ei.s).length by omega))).2;have e2:=(Zw (Lc hk)).2;omega
 have hr:=Qij (Y _ V);have hc:∀e∈L,∀v,v∈a.al→enc e.u<enc (ei.u++[v]):=λe he v hv=>by
  have hs:=I v hv;rw[Js];rcases h.pr e he with h1 | ⟨j,u,E,h1⟩
  ·rw[h1];show (0:Int)<_;omega
  rw[h1,Js];have ht:enc (L.getD j Vv).u<enc ei.u:=by
   have:=LM.1 h.so j i (by omega) hi E;rw[←J];simpa[List.getD,show j<L.length by omega,hi] using this
  have hw:u<32:=by
   have:=(h.rx e he).2.2.2.1 u (by rw[h1];simp);exact (I u this).2
  omega
 have keepD:∀r:List Fw,∀j,j<L.length→(L++r).getD j Vv=L.getD j Vv:=λr j E=>Qeh E;refine ⟨by simp;have:=h.ne;omega,by simp;omega,by omega,λe he=>?_,?_,by rw[keepD _ 0 h.ne];exact h.hd,λe he=>?_,λj v E H=>?_⟩
 ·rcases Li.1 he with he | he
  ·exact h.rx e he
  obtain ⟨d,_,rfl,h1,h2,h3,h4⟩:=S e he;refine ⟨?_,h2,h3,λu hu=>?_,?_⟩
  ·show d.2.2=rn a 0 (ei.u++[d.2.1]);rw[QfP,←r1,h4]
  ·rcases Li.1 (show u∈ei.u++[d.2.1] from hu) with hu | hu
   ·exact r4 u hu
   simp only[List.mem_singleton] at hu;subst hu;exact h1
  show (ei.u++[d.2.1]).length≤most;rw[Lk,LE];omega
 ·rw[MA];refine ⟨h.so,?_,λp hp q hq=>?_⟩
  ·unfold wdR;rw[L7];have hp:(ZJ a.ed ei.s).Pairwise λx y:Ed=>x.1<y.1∨(x.1=y.1∧x.2.1<y.2.1):=List.Pairwise.sublist MU G.edi;refine List.Pairwise.imp_of_mem (λ{x y} hx hy hz=>?_) hp;have e1:=(Zw hx).2;have e2:=(Zw hy).2;show enc (ei.u++[x.2.1])<enc (ei.u++[y.2.1]);rw[Js,Js];omega
  obtain ⟨d,_,rfl,h1,_⟩:=S q hq;exact hc p hp _ h1
 ·rcases Li.1 he with he | he
  ·rcases h.pr e he with h1 | ⟨j,u,E,h1⟩
   ·exact .inl h1
   exact .inr ⟨j,u,by omega,by rw[keepD _ j (by omega)];exact h1⟩
  obtain ⟨d,_,rfl,_⟩:=S e he;exact .inr ⟨i,d.2.1,by omega,by rw[keepD _ i hi,J];rfl⟩
 rw[keepD _ j (by omega)] at H ⊢;by_cases e:j=i
 ·subst e;rw[J] at H ⊢;have hf:=zg H;refine ⟨wdN ei (ei.s,v,nxt a.ed ei.s v),Mt _ ?_,O⟩;unfold wdR;exact LG (by unfold ZJ;exact Mr.2 ⟨hf,by simp⟩)
 obtain ⟨e',hg,h1⟩:=h.ch j v (by omega) H;exact ⟨e',LL _ hg,h1⟩
theorem Qi3 {a:QP}(E:0<a.st) (most:Nat):WdI a most 0 [Vv]:=by
 refine ⟨by simp,Nat.zero_le _,by simp,λe he=>?_,by simp,by simp[List.getD,Vv],λe he=>?_,λj v G=>by omega⟩
 ·simp only[List.mem_singleton] at he;subst he;exact ⟨O,Nc _,E,by simp[Vv],by simp[Vv]⟩
 simp only[List.mem_singleton] at he;subst he;exact .inl O
end Go.Proofs.YtdffckgdcegpaaaGreatDoor
namespace Go.Lg
section
variable {P:Program} {ops:List Oper} {K:Fr→World→Prop} {f:Fr} {w:World} {d:Option Nat} {ty:Nat} {ps:String} {af:Array Edge} {gd:Option (Nat×Bool)}
theorem VE {base t ty e:Nat}{sz bys:Nat}{z:Value}[h:Sl P t e sz bys z] {v:Value}{n:Nat}{cs:LV}(E:w.ownsRow base e sz v n cs)
  {a:Addr} {m c:Nat} {news:LV} (hl:news.length=m*sz) (T:∀j u,news[j]?=some u→w.cell? (a.add j)=some u) (h1:∀u∈news,u.oneCell'=true)
  (hb:n+m≤1099511627776) (hq:bys≤128) (hc:base≤w.heap.size) :
  ∃v' w',(Builtin.append_ #[t,t] ty #[v,.slice (some a) m c]).run P w=.ok v' w'∧w'.ownsRow base e sz v' (n+m) (cs++news)∧Step (ob v) w w'∧(∀b∈ob v',b∈ob v∨w.heap.size≤b)∧w'.ownsRow base e sz v n cs:=by
 obtain ⟨i,hi,hz,J,Y⟩:=Sl.info h;have ha:(n+m)*bys≤140737488355328:=LS (Nat.mul_le_mul hb hq) (by omega);have he:n+m≤maxLen:=by simp only[maxLen];omega
 by_cases hg:∃g cap cur,v=.slice (some ⟨g,0,none⟩) n cap∧w.heap[g]?=some (.cells cur e (0,0))∧n+m≤cap
 ·obtain ⟨v',w',I,ho,hs,_⟩:=run_append_own (P:=P) w base t ty e i z sz bys h.u hi hz J Y h.zs h.pos v n cs E a m c news hl T h1 he ha hc;have ht:Step (ob v) w w':=by rw[zf];exact Step.of_grown hs
  refine ⟨v',w',I,ho,ht,?_⟩;obtain ⟨g,cap,cur,rfl,hf,S⟩:=hg;rcases E.2 with ⟨h2,_⟩ | ⟨g2,cap2,hh,h2,h3,h4,h5,h6,h7,h8⟩
  ·cases h2
  cases h2
  have hu:n*i.size+news.length≤hh.size:=by rw[hl,h7,J,←Mx];exact Mm _ S
  have hv:=run_append_room (P:=P) w t ty e i h.u hi g n cap hh h4 a m c news (by rw[J];exact hl) T h1 S hu;rw[hv] at I;cases I
  refine ⟨λb H=>.inl H,E.1,?_⟩;have hB:=E.1;rcases ho.2 with ⟨e1,_⟩ | ⟨g3,cap3,cur3,e1,k3,k4,k5,k6,k7,k8⟩
  ·cases e1
  cases e1
  refine .inr ⟨g,cap,cur3,O,k3,k4,h5,k6,k7,?_⟩;have:=congrArg (List.take (n*sz)) k8;rw[List.take_take,ML (Mm _ (Nat.le_add_right n m)),List.take_append_of_le_length (by omega),Ll (l:=cs) (by omega)] at this;exact this
 have new:∀(old:Nat),old<n+m→∀G,G=(Obj.cells (cs.toArray++news.toArray++Builtin.zeroCells z.cells (grownCap w (n+m) old e - (n+m))) e) →
   (w.drew.alloc G).ownsRow base e sz (.slice (some ⟨w.heap.size,0,none⟩) (n+m) (grownCap w (n+m) old e)) (n+m) (cs++news):=by
  intro old ho G hw;subst hw;have hge:=grownCap_ge w (n+m) old e;have hj:grownCap w (n+m) old e≤maxLen:=grownCap_le_maxLen w (n+m) old e he;have hp:(cs++news).length=(n+m)*sz:=by rw[Lk,E.1,hl,Mx]
  refine ⟨hp,.inr ⟨w.heap.size,_,_,O,hc,Jw w.drew _,hge,hj,?_,?_⟩⟩
  ·simp only[Array.size_append,List.size_toArray,size_zeroCells,h.zs,E.1,hl,←Nat.add_mul];congr 1;omega
  simp only[Array.toList_append,List.append_assoc];rw[←LC,←hp];exact List.take_left
 have stp:∀G,Step (ob v) w (w.drew.alloc G):=λG=>⟨O,O,O,by rw[VR];exact Nat.le_succ _,λk hk _=>zG w.drew G k hk⟩;have hy:∀G,Step [] w (w.drew.alloc G):=λG=>⟨O,O,O,by rw[VR];exact Nat.le_succ _,λk hk _=>zG w.drew G k hk⟩;have fin:∀(b:Nat),b∈ob (.slice (some ⟨w.heap.size,0,none⟩) (n+m) 0)→b∈ob v∨w.heap.size≤b:=λb H=>by simp[ob] at H;omega
 rcases E.2 with ⟨rfl,rfl⟩ | ⟨g,cap,cur,rfl,hC,hf,hD,hj,hE,hF⟩
 ·have hx:cs=[]:=Ln (by simpa using E.1);subst hx;by_cases hm:m=0
  ·subst hm;have V:news=[]:=Ln (by simpa using hl);subst V;refine ⟨nS,w,?_,QM _ _ _ _,Step.refl _ _,λb H=>by simp[ob] at H,QM _ _ _ _⟩;simp[Builtin.append_,run_underlying h.u,sizeOf,typeInfo,hi,Builtin.lenOf,Builtin.firstCells,loadCells,loadCellsFrom]
  have I:=run_append_nil (P:=P) w t ty e i z h.u hi hz a m c news (by rw[J];exact hl) T (by omega) (by omega) (by rw[Y];have h0:=ha;simp only[Nat.zero_add] at h0;omega);have V:=new 0 (by omega) _ O;simp only[Nat.zero_add,List.nil_append,Array.empty_append] at V ⊢;exact ⟨_,_,I,V,stp _,λb H=>fin b H,QM _ _ _ _⟩
 have S:cap<n+m:=by
  rcases Nat.lt_or_ge cap (n+m) with h9 | hge
  ·exact h9
  exact absurd ⟨g,cap,cur,O,hf,hge⟩ hg
 have hA:∀j u,cs[j]?=some u→w.cell? ((⟨g,0,none⟩:Addr).add j)=some u:=E.cells (g:=g) O;have I:=run_append_grow (P:=P) w t ty e i z h.u hi hz ⟨g,0,none⟩ n cap cs (by rw[J];exact E.1) hA a m c news (by rw[J];exact hl) T S (by omega) (growslice_fits S (by rw[Y];exact ha));exact ⟨_,_,I,new cap S _ O,stp _,λb H=>fin b H,Qq E (hy _)⟩
theorem Qdw {t e sz bys:Nat}{z:Value}[h:Sl P t e sz bys z] {s y:Operand}{base:Nat}{v:Value}{n:Nat}{cs:LV}(E:w.ownsRow base e sz v n cs) (hs:ev f s=v)
  {a:Addr} {m c:Nat} {news:LV} (hy:ev f y=.slice (some a) m c) (hl:news.length=m*sz) {L:LN} (G:At L w.heap a news) (h1:∀u∈news,u.oneCell'=true)
  (hb:n+m≤1099511627776) (H:base≤w.heap.size)
  (I:∀v' w',w'.ownsRow base e sz v' (n+m) (cs++news)→Step (ob v) w w'→(∀b∈ob v',b∈ob v∨w.heap.size≤b)→w'.ownsRow base e sz v n cs→K (QR f d v') w') (J:bys≤128:=by decide) :
  XO P ⟨d,.call ⟨.builtin .append,#[s,y],#[t,t]⟩,ty,ps,af,gd⟩ f w K:=by
 obtain ⟨v',w',S,h2,h3,T,h5⟩:=VE (P:=P) (t:=t) (ty:=ty) E hl G.cells h1 hb J H (c:=c);have V:(execOp (ev f) ⟨d,.call ⟨.builtin .append,#[s,y],#[t,t]⟩,ty,ps,af,gd⟩).run P w=.ok (.value v') w':=by
  simp[execOp,resolve,invoke,builtin,hs,hy,S]
 exact xv V (I v' w' h2 h3 T h5)
end
section
variable {P:Program} {ops:List Oper} {K:Fr→World→Prop} {f:Fr} {w:World} {d:Option Nat} {ty:Nat} {ps:String} {af:Array Edge} {gd:Option (Nat×Bool)} {C:World→Prop} {pl:List (Nat×Bool)} {i0:Nat}
theorem Qj8 {α:Type}{g:α→LV}{x y:Operand}{t e sz bys:Nat}{z:Value}[Sl P t e sz bys z] (G:Q3 ops i0=⟨d,.indexAddr t x y,ty,ps,af,gd⟩) (I:∀x,(g x).length=sz) {L:LN}{E:List α}{v:Value}{H:World}{k:IntKind}{i:Nat}
  (h:∀w',C w'→Zq L w'.heap v E.length sz (E.flatMap g)) (J:C H) (S:ev f x=v) (hy:ev f y=.int k i) (hi:i<E.length)
  (T:∀a,(∀w',C w'→At L w'.heap a (g E[i]))→XP P ops C K pl (QR f d (.pointer (some a))) w) (V:Z8 ops f (Q3 ops i0)=true:=by rfl) :
  XP P ops C K ((i0,true)::pl) f w:=by
 obtain ⟨a,cap,h1,_⟩:=Zq.at (h H J) hi;refine Lg.p (λw'=>by rw[G];exact YH (S.trans h1) hy (by omega) (by omega)) ?_ V;rw[G];refine T _ λw' hc=>?_;obtain ⟨a',cap',Y,h2⟩:=Zq.at (h w' hc) hi;rw[Y] at h1;cases h1
 rw[YU g sz I E i hi] at h2;simpa using h2
end
end Go.Lg
namespace Go.Proofs.YtdffckgdcegpaaaGreatDoor
open Go.Proofs.Tryz
open Go.Lg
theorem QjD (b:Bool):b=true∨b=false:=by cases b;exact .inr O;exact .inl O
structure FV where
 v:Value
 f:Fw
abbrev ZD (p:FV):LV:=[p.v,.int .i64 p.f.s]
theorem zx (p:FV):(ZD p).length=2:=rfl
structure WdM (wB:World) (vL:Value) (es:List FV) (w:World):Prop where
 st:Step [] wB w
 l:w.ownsRow wB.heap.size 384 2 vL es.length (es.flatMap ZD)
 each:∀p∈es,QK (ob vL) w.heap p.v p.f.u
theorem WdM.ext {wB w w':World}{vL:Value}{E:List FV}(h:WdM wB vL E w) (hs:Step [] w w'):WdM wB vL E w':=⟨h.st.trans hs,Qq h.l hs,λp hp=>(h.each p hp).ext hs⟩
theorem WdM.add {wB w w':World}{vL vL':Value}{E:List FV}{p:FV}(h:WdM wB vL E w) (hs:Step (ob vL) w w') (hl:w'.ownsRow wB.heap.size 384 2 vL' (E.length+1) (E.flatMap ZD++ZD p)) (G:∀b∈ob vL',b∈ob vL∨w.heap.size≤b) (hp:QK (ob vL) w.heap p.v p.f.u):WdM wB vL' (E++[p]) w':=by
 refine ⟨h.st.then hs (λb hb=>.inr (Qn h.l b hb).1),by rw[Lk,LA];simpa using hl,λq hq=>?_⟩;rcases Li.1 hq with hq | hq
 ·exact (h.each q hq).grow hs (λb hb=>hb) G
 simp only[List.mem_singleton] at hq;subst hq;exact hp.grow hs (λb hb=>hb) G
theorem Qd9 {E:List FV}{i:Nat}(h:i<E.length):(E.map (·.f)).getD i Vv=(E[i]'h).f:=by simp[List.getD,h]
theorem QfU {a:QP}(E:Zi a) (s:Int):(ZJ a.ed s).length≤32:=by
 have hp:(ZJ a.ed s).Pairwise λx y:Ed=>x.1<y.1∨(x.1=y.1∧x.2.1<y.2.1):=List.Pairwise.sublist MU E.edi;have hi:YX ((ZJ a.ed s).map λe=>e.2.1):=by
  unfold YX;rw[L7];refine List.Pairwise.imp_of_mem (λ{x y} hx hy H=>?_) hp;have e1:=(Zw hx).2;have e2:=(Zw hy).2;omega
 have:=Y8 _ 0 32 hi (λv G=>by
  obtain ⟨e,he,rfl⟩:=Ly.1 G;exact E.al _ (E.ed e (Zw he).1).2.2.1)
 rw[Lh] at this;omega
def QcB (a:QP) (most:Nat) (mk:Bool):Option (List (LI)):=if a.st=0 then some [] else (wds a most).map λL=>(L.filter λf=>!mk || decide (f.s∈a.mr)).map (·.u)
def QjI (o:Option (List (LI))) (r:Value) (H:Array Obj):Prop:=(o=none∧r=.tuple #[Zz,.int .i64 3])∨∃l v ps,o=some l∧r=.tuple #[v,.int .i64 0]∧Xk [] H v ps∧ps.map (·.2)=l
set_option maxHeartbeats 16000000 in
theorem Qcn {w:World}{va vm ve:Value}{a:QP}(h:Zu [] w.heap va vm ve a) (mh:X2 a=0) (ho:Zi a) (most:Nat) (qr:most≤4096) (mk:Bool) :
  QI prog 249 [.agg #[va,.int .i64 a.st,vm,ve],.int .i64 most,.bool mk] w λr w'=>Step [] w w'∧QjI (QcB a most mk) r w'.heap:=by
 have q0:=ho.st0;have q1:=ho.st1;refine QI.of_W func249 O ntmps249 results249 (by simp) ?_;refine Qc<|xl O<|QQ (us:=[va,.int .i64 a.st,vm,ve]) O λb3 w1 g0 q2 g2=>x Qf<|Qe<|Qg<|Qc<|x (Qr g2 O O)<|xl O<|xf<|(Xb (h.ext g0)).mono ?_;rintro r2 w2 ⟨g3,g5⟩;rw[mh] at g3;subst g3;have I:=g0.trans g5;refine Qe<|Qc<|Qb<|x (Q9 O O)<|xe<|Yc rfl ?_
 refine Qi<|Qg<|Qc<|Qb<|xb (QB O O) (λg7=>absurd (show (most:Int)<0 from g7) (by omega)) (λg7=>?_);refine Qb<|Qb<|x (Zx O O)<|x (Qj O)<|xe<|Q7 rfl (λg8=>absurd (show (most:Int) > 4096 from g8) (by omega)) (λg8=>?_);refine Qi ?_;have hO:=g2.ext g5;refine Qg<|Qc<|x (Qa O)<|x (Qd hO O O)<|x (Q5 O O)<|xe<|Q7 rfl (λhP=>?_) (λhP=>?_)
 ·refine Qc<|x Qf<|Qe ?_;exact Qm ⟨[Zz,.int .i64 0],⟨O,O,U⟩,I,.inr ⟨[],Zz,[],by unfold QcB;rw[if_pos hP],rfl,⟨Zq.nil _ _ _,λp hp=>by cases hp⟩,rfl⟩⟩
 have mi:0<a.st:=by have q3:¬a.st=0:=hP;omega
 have hW:QcB a most mk=(wds a most).map λL=>(L.filter λf=>!mk || decide (f.s∈a.mr)).map (·.u):=by unfold QcB;rw[if_neg (by omega)]
 refine Zh (wds a most) λR hR=>?_;rw[hR] at hW;refine Qi<|Qc<|x (QE U)<|xl O<|QD (us:=[ZD ⟨nS,Vv⟩]) O O (by decide) (by exact (by decide:1*2≤1000000)) ⟨O,O,U⟩ λg9 w3 mj mn ka=>Qe ?_;have q4:=ka.lt;have mo:WdM w2 (.slice (some ⟨g9,0,none⟩) 1 1) [⟨nS,Vv⟩] w3:=by
  refine ⟨mj,ka.own (n:=1) O (by omega) mn,λp hp=>?_⟩;simp only[List.mem_singleton] at hp;subst hp;exact Zq.nil _ _ _
 have mq:∀e∈a.ed,0≤e.1∧e.1≤1099511627776:=λe he=>by have:=ho.ed e he;omega
 refine Q0 (α:=Value×List FV) [(6,7),(9,10),(12,12),(32,77)] (λz=>[(9,z.1)]) (λz w'=>WdM w2 z.1 z.2 w'∧R=some (z.2.map (·.f))∧z.2.length≤1024) (by rfl) ?_ ?_
 ·refine Qc<|Qe<|Qh<|QA (α:=Nat×Value×List FV) [(6,7),(9,10),(12,12),(32,77)] (λz=>[(9,z.2.1),(10,.int .i64 z.1)])
   (λz w'=>z.1≤1025∧WdM w2 z.2.1 z.2.2 w'∧WdI a most z.1 (z.2.2.map (·.f))∧wdL a most (1025 - z.1) z.1 (z.2.2.map (·.f))=R) (λz=>1025 - z.1) (by rfl) (0,.slice (some ⟨g9,0,none⟩) 1 1,[⟨nS,Vv⟩]) ⟨O,O,U⟩
   ⟨Lj _,mo,Qi3 mi most,hR⟩ ?_
  rintro ⟨i,vL,E⟩ g4 w4 ⟨mu,hf,h5,G⟩;simp only[] at mu hf h5 G;have hQ:=h5.mx;have mv:=h5.le;rw[Lh] at hQ mv;have hv:Zq [] w4.heap vL E.length 2 (E.flatMap ZD):=QS hf.l (by omega) (λb _=>by simp);refine Qg<|Qc<|Qb<|Qb<|x (Qs hv O)<|x (QB O O)<|xe<|QH O (λhS=>?_) (λhS=>?_)
  ·refine Qy ?_;have mw:¬i<(E.map (·.f)).length:=by rw[Lh];have my:¬(i:Int)<(E.length:Int):=hS;omega
   refine ⟨(vL,E),Z,hf,?_,hQ⟩;rw[←G];generalize 1025 - i=f;cases f with
   | zero=>rfl
   | succ f=>rw[wdL,if_neg mw]
  have hi:i<E.length:=by have my:(i:Int)<(E.length:Int):=hS;omega
  rw[show 1025 - i=(1025 - (i+1))+1 by omega,wdL,if_pos (by rw[Lh];exact hi),Qd9 hi] at G;have kb:=hf.each _ (Lc hi);have hU:=h5.rx _ (LG (f:=λq:FV=>q.f) (Lc hi));have hV:=λhl hm=>h5.step ho (by rw[Lh];exact hi) hl hm;rw[Qd9 hi] at hV;refine Zh (E[i]'hi) λei hG=>?_;rw[hG] at G kb hU hV;have kc:=hf.st
  have mz:=kb.up (L':=[]) (λb hb=>by cases hb);refine Qi<|Qg<|Qh<|Qg<|Qc<|Qb<|Qb<|xig (g:=ZD) (i:=i) zx hv O O hi λza ke=>?_;rw[hG] at ke;refine x (Zb O)<|x (Qv (ke.fld 0 _ O) O)<|x (Qs mz O)<|Qb<|x (Q5 O O)<|xe<|Q7 O (λhX=>?_) (λhX=>?_)
  ·refine Qy ?_;have hH:ei.f.u.length=most:=by have m0:(ei.f.u.length:Int)=(most:Int):=hX;omega
   rw[if_pos hH] at G;exact ⟨(vL,E),Z,hf,G.symm,hQ⟩
  have hH:ei.f.u.length≠most:=by have m0:¬(ei.f.u.length:Int)=(most:Int):=hX;omega
  rw[if_neg hH] at G;have hY:=hV hH;refine Qi ?_;have m1:=hO.ext kc;have m2:Zu (ob vL) w4.heap va vm ve a:=((h.ext I).up (L':=ob vL) (λb hb=>.inr (Qn hf.l b hb).1)).ext kc;have m3:=QfU ho ei.f.s;have hout:=zd (va:=va) (vm:=vm) (st:=a.st) (m2.ed.ext (Step.drew [] w4)) ho.eds mq ei.f.s hU.2.1 (by omega);refine Zh (ZJ a.ed ei.f.s) λos kf=>?_;rw[kf] at m3 hout
  have m4:wdR a ei.f=os.map (wdN ei.f):=by unfold wdR;rw[kf]
  rw[m4] at G hY;refine Qg<|Qg<|QW (Step [] w4) [(0,true),(1,true),(2,true),(3,true),(4,true),(5,true),(8,true),(6,false),(7,true)] mixed (by rfl) (by kernel_rfl) (Step.drew _ _) ?_;refine pq (λ_ hc=>Qr (m1.ext hc) O O)<|p (λ_=>Qo)<|p (λ_=>Qo)<|Lg.pig (g:=ZD) (i:=i) O zx hv O O hi λzv kg=>?_;rw[hG] at kg
  refine p (λ_=>Zb O)<|pq (λ_ hc=>Qv ((kg.fld 1 _ O).ext hc) O)<|p (λ_=>Qo)<|pk<|xf<|hout.mono ?_;rintro ro w5 ⟨m5,kh⟩;have ki:=(Step.drew [] w4).trans m5;refine ⟨ki,?_⟩;refine p (λ_=>Qs kh O)<|pe ?_;have m6:=hf.ext ki;refine Zh (E.map (·.f)++os.map (wdN ei.f)) λL1 kj=>?_;rw[kj] at G hY
  refine Qh<|QA (α:=Nat×Value×List FV) [(9,9),(12,12),(54,74)] (λz=>[(9,z.2.1),(54,.int .i64 z.1)])
   (λz w'=>z.1≤os.length∧WdM w2 z.2.1 z.2.2 w'∧UJ (ob z.2.1) w'.heap ro os∧z.2.2.length=E.length+z.1∧(∃h:i<z.2.2.length,z.2.2[i]'h=ei)∧z.2.2.map (·.f)++(os.drop z.1).map (wdN ei.f)=L1) (λz=>os.length - z.1) (by rfl) (0,vL,E) ⟨O,O,U⟩
   ⟨Lj _,m6,kh,O,⟨hi,hG⟩,kj⟩ ?_
  rintro ⟨k,vL2,fs⟩ g6 w6 ⟨hk,hj,hZ,m7,kk,hg⟩;simp only[] at hk hj hZ m7 kk hg;refine Qc<|x (QB O O)<|xe<|Qg<|QH O (λga=>?_) (λga=>?_)
  ·refine Qy ?_;have gb:os.length≤k:=by have hI:¬(k:Int)<(os.length:Int):=ga;omega
   rw[Lp gb,List.map_nil,LJ] at hg;have m8:Zq [] w6.heap vL2 fs.length 2 (fs.flatMap ZD):=QS hj.l (by omega) (λb _=>by simp);have z0:L1.length=fs.length:=by rw[←hg,Lh]
   refine Qc<|Qb<|x (Qs m8 O)<|x (Zx O O)<|xe<|Q7 O (λgc=>?_) (λgc=>?_)
   ·have hJ:1024<L1.length:=by have m9:(fs.length:Int) > 1024:=gc;omega
    rw[if_pos hJ] at G;refine Qc<|x Qf<|Qe ?_;exact Qm ⟨[Zz,.int .i64 3],⟨O,O,U⟩,I.trans hj.st,.inl ⟨by rw[hW,←G];rfl,O⟩⟩
   have hJ:¬1024<L1.length:=by have m9:¬(fs.length:Int) > 1024:=gc;omega
   rw[if_neg hJ,←hg] at G;have kn:=hY hJ;rw[←hg] at kn;refine Qi<|Qz<|Qb<|QN O O<|Qe ?_;exact ⟨(i+1,vL2,fs),by simp only[];omega,⟨O,O,U⟩,by simp only[];omega,hj,kn,G⟩
  have J:k<os.length:=by have hI:(k:Int)<(os.length:Int):=ga;omega
  rw[QZ J,LP] at hg;refine Zh (os[k]'J) λd hd=>?_;rw[hd] at hg;refine Qi<|Exists.elim kk λge gg=>?_;have ko:=hj.each _ (Lc ge);rw[gg] at ko;refine Q0 (α:=Value×Value) [(9,9),(12,12),(56,73)] (λz=>[(9,z.1)]) (λz w'=>WdM w2 z.1 (fs++[⟨z.2,wdN ei.f d⟩]) w'∧UJ (ob z.1) w'.heap ro os) (by rfl) ?_ ?_
  ·refine Qh<|Qc<|xie (i:=k) hZ O O J λz2 hI=>?_;rw[hd] at hI;refine x (QF hI O O)<|xl O<|Qt (us:=[.int .i64 0,.int .i64 0,.int .i64 0]) O λkp w7 pa pc pd=>xl O<|Qp (us:=Qw d) pd O O O O ⟨O,O,O,U⟩ λH pf kq=>xe ?_;have gh:Step [] w6 H:=pa.then1 pf pc;have hw:=hj.ext gh;have kr:=hZ.ext gh;have pg:=ko.ext gh
   have z3:Zq [] H.heap vL2 fs.length 2 (fs.flatMap ZD):=QS hw.l (by omega) (λb _=>by simp);have kt:=pg.up (L':=[]) (λb hb=>by cases hb);have h0:Step [] H { H with drawn:=H.drawn+1 }:=Step.drew [] H
   have z4:=h0.size;have ku:=hU.2.2.2.2;have T:∀w',Step [] H w'→Step (ob vL2) H w'∧w'.ownsRow w2.heap.size 384 2 vL2 fs.length (fs.flatMap ZD):=λw' hs=>⟨hs.mono (by simp),Qq hw.l hs⟩;have kv:kp∉ob vL2:=λhb=>by have:=QO hj.l kp hb;omega
   refine Qg2 (λw'=>Step (ob vL2) H w'∧w'.ownsRow w2.heap.size 384 2 vL2 fs.length (fs.flatMap ZD)) (.f2 [(0,true),(1,true),(2,true),(3,true),(4,true),(5,true),(7,true),(8,true),(11,true),(12,true)] 6 9 (.pl [(9,false),(10,false),(13,true),(14,false),(15,false),(16,true)]) (.pl [(6,false),(10,false),(13,true),(14,false),(15,false),(16,true)])) mixed (by rfl) (by kernel_rfl) (T _ h0) ?_
   refine u2<|p (λ_=>Qo)<|p (λ_=>Qo)<|p (λ_=>Qo)<|Qj8 (g:=ZD) (i:=i) (L:=[]) O zx (λw' hc=>QS hc.2 (by omega) (λb _=>by simp)) (T _ h0) rfl rfl ge λz5 kw=>?_;rw[gg] at kw;refine p (λ_=>Zb O)<|pq (λw' hc=>Qv ((kw w' hc).fld 0 _ O) O)<|p (λ_=>Qa O)<|pq (λ_ hc=>Qd (kq.step hc.1 kv) O O)<|p (λ_=>Qa O)<|pq (λ_ hc=>Qd (kq.step hc.1 kv) O O)<|pe ⟨?_,?_⟩
   ·refine ue<|xf<|(ZZ (kt.ext h0)).mono ?_;rintro vk w9 ⟨h6,h7⟩;have h2:=h0.trans h6;have ph:=h6.size;have gi:=Qn h7;refine ⟨T _ h2,?_⟩;refine uP<|pk<|QD (us:=[[.int .i64 d.2.1]]) O O (by decide) (by simp) ⟨rfl,rfl,U⟩ λbl pj hn pm gj=>?_;have h8:=h2.trans hn;have pn:=hn.size;refine ⟨T _ h8,?_⟩
    refine pk<|Q6 (news:=[.int .i64 d.2.1]) (L:=[]) (Qq h7 hn) O O O (gj.at (by simp)) (by simp[Value.oneCell']) (by omega) (by omega) λS gk gl h9 po=>?_;have hA:Step [] H gk:=h8.then h9 (λb hb=>.inr (by have:=(gi b hb).1;omega));have pp:=h9.size;have hq:=Qu.snoc (Zk gl (show H.heap.size≤_ by omega));refine ⟨T _ hA,?_⟩
    have gm:=(Qu.ints (L:=[]) hq (by simp;omega) (by simp)).one;have gn:=(Qu.ints (L:=[]) hq (by simp;omega) (by simp)).cells;refine p (λ_=>QE ⟨gn,O,U⟩)<|pk<|QD (us:=[ZD ⟨S,wdN ei.f d⟩]) O O (by decide) (by exact (by decide:1*2≤1000000)) ⟨O,O,U⟩ λbm go I pt hB=>?_;have Y:=hA.trans I;refine ⟨T _ Y,?_⟩;have hr:=hw.ext Y;have gp:=hr.st.size
    refine pk<|Qdw (news:=ZD ⟨S,wdN ei.f d⟩) (L:=[]) (m:=1) hr.l O O O (hB.at (by simp)) (by intro u hu;simp only[List.mem_cons,List.not_mem_nil,or_false] at hu;rcases hu with rfl | rfl;exact gm;rfl) (by omega) gp λvz pu gq ht hC gr=>⟨⟨(Y.mono (by simp)).trans' ht,gr⟩,p (λ_=>Qf)<|pe ?_⟩
    have gs:QK (ob vL2) go.heap S (wdN ei.f d).u:=Qu.ints (Qq hq I) (by show (ei.f.u++[d.2.1]).length≤_;rw[Lk,LE];omega) (λb hb=>QO hw.l b hb);exact ⟨(vz,S),Z,hr.add ht gq hC gs,(kr.ext Y).grow ht (λb hb=>hb) hC⟩
   refine ue<|QD (us:=[[.int .i64 d.2.1]]) O O (by decide) (by simp) ⟨rfl,rfl,U⟩ λbl w9 h6 pm gj=>?_;have h2:=h0.trans h6;have ph:=h6.size;refine ⟨T _ h2,?_⟩;refine uP<|pk<|xf<|(ZZ (kt.ext h2)).mono ?_;rintro vk pj ⟨hn,h7⟩;have h8:=h2.trans hn;have pn:=hn.size;have gi:=Qn h7;refine ⟨T _ h8,?_⟩
   refine pk<|Q6 (news:=[.int .i64 d.2.1]) (L:=[]) h7 O O O ((gj.ext hn).at (by simp)) (by simp[Value.oneCell']) (by omega) (by omega) λS gk gl h9 po=>?_;have hA:Step [] H gk:=h8.then h9 (λb hb=>.inr (by have:=(gi b hb).1;omega));have pp:=h9.size;have hq:=Qu.snoc (Zk gl (show H.heap.size≤_ by omega));refine ⟨T _ hA,?_⟩
   have gm:=(Qu.ints (L:=[]) hq (by simp;omega) (by simp)).one;have gn:=(Qu.ints (L:=[]) hq (by simp;omega) (by simp)).cells;refine p (λ_=>QE ⟨gn,O,U⟩)<|pk<|QD (us:=[ZD ⟨S,wdN ei.f d⟩]) O O (by decide) (by exact (by decide:1*2≤1000000)) ⟨O,O,U⟩ λbm go I pt hB=>?_;have Y:=hA.trans I;refine ⟨T _ Y,?_⟩;have hr:=hw.ext Y;have gp:=hr.st.size
   refine pk<|Qdw (news:=ZD ⟨S,wdN ei.f d⟩) (L:=[]) (m:=1) hr.l O O O (hB.at (by simp)) (by intro u hu;simp only[List.mem_cons,List.not_mem_nil,or_false] at hu;rcases hu with rfl | rfl;exact gm;rfl) (by omega) gp λvz pu gq ht hC gr=>⟨⟨(Y.mono (by simp)).trans' ht,gr⟩,p (λ_=>Qf)<|pe ?_⟩
   have gs:QK (ob vL2) go.heap S (wdN ei.f d).u:=Qu.ints (Qq hq I) (by show (ei.f.u++[d.2.1]).length≤_;rw[Lk,LE];omega) (λb hb=>QO hw.l b hb);exact ⟨(vz,S),Z,hr.add ht gq hC gs,(kr.ext Y).grow ht (λb hb=>hb) hC⟩
  rintro ⟨vz,S⟩ z9 w14 ⟨kx,ky⟩;simp only[] at kx ky;refine Qz<|QN O O<|Qb<|xe ?_;exact ⟨(k+1,vz,fs++[⟨S,wdN ei.f d⟩]),by simp only[];omega,⟨O,O,U⟩,J,kx,ky,by simp;omega,⟨by simp;omega,by simp only[];rw[L3 ge];exact gg⟩,by simp only[];rw[Lt,LC];exact hg⟩
 rintro ⟨vL,E⟩ g20 hD ⟨h3,kz,pw⟩;simp only[] at h3 kz pw;rw[kz] at hW;have pz:=I.trans h3.st;have hv:Zq [] hD.heap vL E.length 2 (E.flatMap ZD):=QS h3.l (by omega) (λb _=>by simp);refine Qc<|Qe<|Qg<|Qc<|Qb<|x (Qs hv O)<|Qb<|xe<|Qh<|QA (α:=Nat×Value×List TV) [(13,13),(15,15),(80,100)] (λz=>[(13,z.2.1),(80,.int .i64 z.1)])
  (λz w'=>z.1≤E.length∧Step [] hD w'∧UV 37 hD.heap.size w' z.2.1 z.2.2∧z.2.2.map (·.2)=((E.take z.1).filter λp=>!mk || decide (p.f.s∈a.mr)).map (λp=>p.f.u)∧∀p∈z.2.2,QK (ob z.2.1) w'.heap p.1 p.2) (λz=>E.length - z.1) (by rfl) (0,nS,[]) ⟨O,O,U⟩
  ⟨Lj _,Step.refl _ _,QM _ _ _ _,O,λp hp=>by cases hp⟩ ?_
 rintro ⟨k,vT,ps⟩ g21 k0 ⟨hk,ha,hT,hE,hK⟩;simp only[] at hk ha hT hE hK;have hpl:ps.length≤k:=by
  have h1:=congrArg List.length hE;rw[Lh,Lh] at h1;rw[h1];refine LS (ME _ _) ?_;rw[Lx];omega
 refine Qc<|x (QB O O)<|xe<|Qg<|QH O (λgt=>?_) (λgt=>?_)
 ·refine Qy ?_;have gb:E.length≤k:=by have hL:¬(k:Int)<(E.length:Int):=gt;omega
  refine Qc<|Qb<|x Qf<|Qe<|Qm ⟨[vT,.int .i64 0],⟨O,O,U⟩,pz.trans ha,.inr ⟨_,vT,ps,hW,O,⟨QS hT (by omega) (λb _=>by simp),λp hp=>(hK p hp).up (λb hb=>by cases hb)⟩,?_⟩⟩;rw[hE,Ll gb];show _=((E.map (λp:FV=>p.f)).filter λf=>!mk || decide (f.s∈a.mr)).map (λx:Fw=>x.u);rw[List.filter_map,Me];rfl
 have J:k<E.length:=by have hL:(k:Int)<(E.length:Int):=gt;omega
 have k4:=h3.each _ (Lc J);refine Zh (E[k]'J) λek gu=>?_;rw[gu] at k4;have k5:QK (ob vT) k0.heap ek.v ek.f.u:=((k4.up (L':=[]) (λb hb=>by cases hb)).up (λb hb=>.inr (Qn hT b hb).1)).ext ha;refine Qi<|Qg<|Qh<|Qc<|xig (g:=ZD) (i:=k) zx (hv.ext ha) O O J λa82 hL=>?_;rw[gu] at hL
 refine x (QF hL O O)<|xl O<|Qt (us:=[nS,.int .i64 0]) O λb15 w22 p0 p1 p2=>xl O<|Qp (us:=ZD ek) p2 O O O O ⟨k5.one,O,U⟩ λhh p3 k6=>xe ?_;have V:Step [] k0 hh:=p0.then1 p3 p1;have hB:=((hO.ext h3.st).ext ha).ext V;have p4:QK [] hh.heap vm a.mr:=(((h.ext I).mr.ext h3.st).ext ha).ext V
 have hF:(E.take (k+1)).filter (λp=>!mk || decide (p.f.s∈a.mr))=(E.take k).filter (λp=>!mk || decide (p.f.s∈a.mr))++(if (!mk || decide (ek.f.s∈a.mr))=true then [ek] else []):=by
  rw[Le J,L9,gu,Mc,MT]
 refine Q0 (α:=Bool) [(84,92)] (λz=>[(92,.bool z)]) (λz w'=>w'=hh∧z=(!mk || decide (ek.f.s∈a.mr))) (by rfl) ?_ ?_
 ·refine Or.elim (QjD mk) (λgv=>?_) (λgv=>?_)
  ·subst gv;refine Qz<|Qb<|x (Zs O)<|Qb<|x (Qa O)<|x (Qd hB O O)<|x (Qa O)<|x (Qd k6 O O)<|xl O<|xf<|(ZR p4 ek.f.s).mono ?_;rintro r91 hh ⟨rfl,rfl⟩;refine x (Qj O)<|xe ?_;exact ⟨_,Z,O,O⟩
  subst gv;refine Qz<|Qb<|x (Zs O)<|Qb<|xs O<|xs O<|xs O<|xs O<|xs O<|x (Qj O)<|xe ?_;exact ⟨true,Z,O,O⟩
 rintro z g23 hh ⟨rfl,hz⟩;rw[←hz] at hF;refine Q2 rfl (λgw=>?_) (λgw=>?_)
 rotate_left
 ·rw[if_neg (by rw[gw];decide),LJ] at hF;refine Qi<|Qz<|QN O O<|Qb<|xe ?_;exact ⟨(k+1,vT,ps),by simp only[];omega,⟨O,O,U⟩,J,ha.trans V,Qq hT V,by simp only[];rw[hF];exact hE,λp hp=>(hK p hp).ext V⟩
 rw[if_pos gw] at hF;have k7:=k5.ext V;have k8:=Qq hT V;have ku:=k7.le;refine Qz<|Qb<|xl O<|J2 λb94 w24 hM k9 p5=>x (Qa O)<|x (Qd (k6.ext hM) O O) <|
  xl rfl<|jG (base:=hh.heap.size) (p5.own (n:=0) (sz:=1) O (by omega) k9) O (k7.ext hM) O (Kz ek.f.u) (by omega) (by have:=hM.size;omega) λh4 gx p6 p7 hn25=>?_
 have p8:Step [] hh gx:=hM.then1 p7 k9;have p9:Qu 3 hh.heap.size gx h4 ek.f.u:=by simpa[tup] using p6
 have gy:QK (ob vT) gx.heap h4 ek.f.u:=Qu.ints p9 ku (λb hb=>QO k8 b hb);refine xl rfl<|QD (us:=[[h4]]) O O (by decide) (by simp) ⟨gy.cells,rfl,U⟩ λb98 w26 ma hb98 qb=>?_;have hN:=p8.trans ma;have qc:=Qq k8 hN
 refine xl rfl<|Q6 (news:=[h4]) (L:=[]) qc O O O (qb.at (by simp)) (λy hy=>by simp only[List.mem_singleton] at hy;subst hy;exact gy.one) (by omega) (by have:=ha.size;have:=V.size;have:=hN.size;omega) λmc mf qj gz mg=>Qe ?_;have qk:Step [] hD mf:=((ha.trans V).trans hN).then gz (λb hb=>.inr (Qn hT b hb).1)
 have qo:UV 37 hD.heap.size mf mc (ps++[(h4,ek.f.u)]):=UV.snoc qj;refine Qz<|QN O O<|Qb<|xe<|⟨(k+1,mc,ps++[(h4,ek.f.u)]),by simp only[];omega,⟨O,O,U⟩,J,qk,qo,?_,λp hp=>?_⟩
 ·simp only[];rw[Lt,hE,hF,Lt];rfl
 rcases Li.1 hp with hp | hp
 ·exact (((hK p hp).ext V).ext hN).grow gz (λb hb=>hb) mg
 simp only[List.mem_singleton] at hp;subst hp;exact (gy.ext ma).grow gz (λb hb=>hb) mg
theorem Kt {L L':LN}{w:World}{v v':Value}{l l':LI}(h:QK L w.heap v l) (h':QK L' w.heap v' l'):QI prog 252 [v,v'] w λr w'=>r=.bool (decide (l=l'))∧Step [] w w':=by
 have hb:=h.le;have hf:=h'.le;refine QI.of_W func252 O ntmps252 results252 (by simp) ?_;refine Qc<|Qe<|Qg<|Qc<|Qb<|x (Qs h O)<|Qb<|x (Qs h' O)<|x (Q9 O O)<|xe<|Q7 rfl (λJ=>?_) (λJ=>?_)
 ·refine Qc<|Qe<|Qm ⟨[.bool false],Z,?_,Step.refl _ _⟩;have E:l≠l':=λe=>J (by rw[e]);simp[tup,E]
 have hg:l.length=l'.length:=by omega
 refine Qi<|Qg<|Qc<|Qe<|Qh<|QA (α:=Nat) [(4,5),(11,25)] (λk=>[(5,.int .i64 k)]) (λk w'=>Step [] w w'∧k≤l.length∧(l=l'↔l.drop k=l'.drop k)) (λk=>l.length - k) (by rfl) 0 Z ⟨Step.refl _ _,Lj _,by simp⟩ ?_;rintro k g S ⟨hs,hk,hm⟩
 replace h:=h.ext hs
 replace h':=h'.ext hs;refine Qg<|Qc<|Qb<|Qb<|x (Qs h O)<|x (QB O O)<|xe<|QH rfl (λV=>?_) (λV=>?_)
 ·refine Qy<|Qc<|Qe<|Qm ⟨[.bool true],Z,?_,hs⟩;rw[Lp (by omega),Lp (by omega)] at hm;simp[tup,hm]
 have G:k<l.length:=by omega
 have H:k<l'.length:=by omega
 refine Qi<|Qg<|Qh<|Qg<|QW (Step [] S) [(0,true),(1,true),(2,true),(3,true),(4,true),(5,true),(6,true),(7,true),(8,true)] mixed (by rfl) (by kernel_rfl) (Step.drew _ _) ?_;refine p (λ_=>Qo)<|p (λ_=>Qo)<|pii (i:=k) O h O O G λhh Y=>pq (λ_ hc=>Qv (Y.ext hc) O)<|p (λ_=>Qo)<|p (λ_=>Qo)<|pii (i:=k) O h' O O H λhi ha=>pq (λ_ hc=>Qv (ha.ext hc) O)<|p (λ_=>Q9 O O)<|pe ?_
 have T:=hs.trans (Step.drew [] S);refine Q7 rfl (λI=>?_) (λI=>?_)
 ·refine Qc<|Qe<|Qm ⟨[.bool false],Z,?_,T⟩;have E:l≠l':=λe=>I (by simp[e]);simp[tup,E]
 refine Qi<|Qz<|Qb<|QN O O<|Qe<|⟨k+1,by omega,Z,T,by omega,?_⟩;have he:l[k]'G=l'[k]'H:=Lq.1 I;rw[hm,QZ G,QZ H,he];exact ⟨λh=>(List.cons.inj h).2,λh=>by rw[h]⟩
theorem qh {L L':LN}{w:World}{v v':Value}{l l':LI}(h:QK L w.heap v l) (h':QK L' w.heap v' l'):QI prog 41 [v,v'] w λr w'=>r=.bool (decide (l=l'))∧Step [] w w':=by
 have hb:=h.le;have hf:=h'.le;refine QI.of_W func41 O ntmps41 results41 (by simp) ?_;refine Qc<|Qe<|Qg<|Qc<|Qb<|x (Qs h O)<|Qb<|x (Qs h' O)<|x (Q9 O O)<|xe<|Q7 rfl (λJ=>?_) (λJ=>?_)
 ·refine Qc<|Qe<|Qm ⟨[.bool false],Z,?_,Step.refl _ _⟩;have E:l≠l':=λe=>J (by rw[e]);simp[tup,E]
 have hg:l.length=l'.length:=by omega
 refine Qi<|Qg<|Qc<|Qe<|Qh<|QA (α:=Nat) [(4,5),(11,25)] (λk=>[(5,.int .i64 k)]) (λk w'=>Step [] w w'∧k≤l.length∧(l=l'↔l.drop k=l'.drop k)) (λk=>l.length - k) (by rfl) 0 Z ⟨Step.refl _ _,Lj _,by simp⟩ ?_;rintro k g S ⟨hs,hk,hm⟩
 replace h:=h.ext hs
 replace h':=h'.ext hs;refine Qg<|Qc<|Qb<|Qb<|x (Qs h O)<|x (QB O O)<|xe<|QH rfl (λV=>?_) (λV=>?_)
 ·refine Qy<|Qc<|Qe<|Qm ⟨[.bool true],Z,?_,hs⟩;rw[Lp (by omega),Lp (by omega)] at hm;simp[tup,hm]
 have G:k<l.length:=by omega
 have H:k<l'.length:=by omega
 refine Qi<|Qg<|Qh<|Qg<|QW (Step [] S) [(0,true),(1,true),(2,true),(3,true),(4,true),(5,true),(6,true),(7,true),(8,true)] mixed (by rfl) (by kernel_rfl) (Step.drew _ _) ?_;refine p (λ_=>Qo)<|p (λ_=>Qo)<|pii (i:=k) O h O O G λhh Y=>pq (λ_ hc=>Qv (Y.ext hc) O)<|p (λ_=>Qo)<|p (λ_=>Qo)<|pii (i:=k) O h' O O H λhi ha=>pq (λ_ hc=>Qv (ha.ext hc) O)<|p (λ_=>Q9 O O)<|pe ?_
 have T:=hs.trans (Step.drew [] S);refine Q7 rfl (λI=>?_) (λI=>?_)
 ·refine Qc<|Qe<|Qm ⟨[.bool false],Z,?_,T⟩;have E:l≠l':=λe=>I (by simp[e]);simp[tup,E]
 refine Qi<|Qz<|Qb<|QN O O<|Qe<|⟨k+1,by omega,Z,T,by omega,?_⟩;have he:l[k]'G=l'[k]'H:=Lq.1 I;rw[hm,QZ G,QZ H,he];exact ⟨λh=>(List.cons.inj h).2,λh=>by rw[h]⟩
set_option maxHeartbeats 1000000 in
theorem QeZ {L L':LN}{w:World}{va vm ve ua um ue:Value}{a:QP}(h:Zu L w.heap va vm ve a) (h':Zu L' w.heap ua um ue a):QI prog 251 [.agg #[va,.int .i64 a.st,vm,ve],.agg #[ua,.int .i64 a.st,um,ue]] w λr w'=>r=.bool true∧Step [] w w':=by
 have hu:=h.ed.le;refine QI.of_W func251 O ntmps251 results251 (by simp) ?_;refine Qc<|xl O<|QQ (us:=[va,.int .i64 a.st,vm,ve]) O λb2 w1 hj hv hl=>xl O<|QQ (us:=[ua,.int .i64 a.st,um,ue]) O λb3 w2 ha hw H=>Qe ?_;have S:=hj.trans ha;have I:=hl.ext ha;have h2:=h.ext S;have T:=h'.ext S
 refine Qg<|Q0 (α:=Unit) [(6,35)] (λ_=>[(35,.bool false)]) (λ_ w'=>Step [] w2 w') (by rfl) ?_ ?_
 ·refine Qz<|x (Qa O)<|x (Qd I O O)<|x (Qa O)<|x (Qd H O O)<|xl O<|xf<|(Kt h2.al T.al).mono ?_;rintro r3 w3 ⟨hb,E⟩;rw[decide_eq_true rfl] at hb;subst hb;refine x (Zs O)<|Qb<|x (Qa O)<|x (Qd (I.ext E) O O)<|x (Qa O)<|x (Qd (H.ext E) O O)<|xb (Q9 O O) (λhe=>absurd O he) (λhe=>?_)
  refine x (Qj O)<|Qb<|x (Qa O)<|x (Qd (I.ext E) O O)<|x (Qa O)<|x (Qd (H.ext E) O O)<|xl O<|xf<|(Kt (h2.mr.ext E) (T.mr.ext E)).mono ?_;rintro r4 w4 ⟨hf,G⟩;rw[decide_eq_true rfl] at hf;subst hf;have J:=E.trans G
  refine x (Zs O)<|x (Qj O)<|Qb<|x (Qa O)<|x (Qd (I.ext J) O O)<|x (Qs (h2.ed.ext J) O)<|x (Qa O)<|x (Qd (H.ext J) O O)<|x (Qs (T.ed.ext J) O)<|xb (Q9 O O) (λhg=>absurd O hg) (λhg=>?_);refine x (Qj O)<|xe ?_;exact ⟨(),Z,J⟩
 rintro ⟨⟩ g w3 E;have V:=S.trans E;have hm:=I.ext E;have hn:=H.ext E;have h3:=h.ext V;have ho:=h'.ext V;refine Yc rfl ?_;refine Qi<|Qg<|Qc<|Qe<|Qh<|QA (α:=Nat) [(4,5),(36,53)] (λk=>[(5,.int .i64 k)]) (λk w'=>Step [] w3 w'∧k≤a.ed.length) (λk=>a.ed.length - k) (by rfl) 0 Z ⟨Step.refl _ _,Lj _⟩ ?_;rintro k g w4 ⟨G,hk⟩;have h4:=h3.ed.ext G
 have hp:=ho.ed.ext G;have hh:=hm.ext G;have hq:=hn.ext G;refine Qg<|Qc<|Qb<|x (Qa O)<|x (Qd hh O O)<|x (Qs h4 O)<|x (QB O O)<|xe<|QH rfl (λhr=>?_) (λhr=>?_)
 ·refine Qy<|Qc<|Qe ?_;exact Qm ⟨[.bool true],Z,O,V.trans G⟩
 have Y:k<a.ed.length:=by omega
 refine Qi<|Qg<|Qh<|Qg<|QW (Step [] w4) [(0,true),(1,true),(2,true),(3,true),(4,true),(5,true),(6,true),(7,true),(8,true),(9,true),(10,true)] mixed (by rfl) (by kernel_rfl) (Step.drew _ _) ?_;refine p (λ_=>Qa O)<|pq (λ_ hc=>Qd (hh.ext hc) O O)<|p (λ_=>Qo)<|pie (i:=k) O h4 O O Y λhy hs=>pq (λ_ hc=>QF (hs.ext hc) O O)<|p (λ_=>Qa O)<|pq (λ_ hc=>Qd (hq.ext hc) O O)<|p (λ_=>Qo) <|
  pie (i:=k) O hp O O Y λhz ht=>pq (λ_ hc=>QF (ht.ext hc) O O)<|p (λ_=>Kw O O)<|pe ?_
 refine Q7 rfl (λhi=>absurd O hi) (λhi=>?_);refine Qi<|Qz<|Qb<|QN O O<|Qe ?_;exact ⟨k+1,by omega,Z,G.trans (Step.drew _ _),Y⟩
end Go.Proofs.YtdffckgdcegpaaaGreatDoor
namespace Go.Lg
theorem q6 {P:Program}{f:Fr}{w:World}{d:Option Nat}{ty:Nat}{ps:String}{af:Array Edge}{gd:Option (Nat×Bool)}{t E:Nat}[h:S3 P t] {x y:Operand}{p q:Ed}(hx:ev f x=.agg (Qw p).toArray) (hy:ev f y=.agg (Qw q).toArray) :
  (execOp (ev f) ⟨d,.binOp .eql t x y E,ty,ps,af,gd⟩).run P w=.ok (.value (.bool (decide (p=q)))) w:=by
 have G:(eqGuard .eql t x y (.agg (Qw p).toArray) (.agg (Qw q).toArray)).run P w=.ok () w:=by simp[eqGuard,h.g]
 simp only[execOp,hx,hy,Sem.run_bind,G,Result.andThen_ok,binOp,Ku,Sem.run_pure]
end Go.Lg
namespace Go.Proofs.YtdffckgdcegpaaaGreatDoor
open Go.Proofs.Tryz
open Go.Lg
def ex3:QP:=⟨[0,2],3,[2],[(0,0,2),(0,2,0),(2,2,0)]⟩
def cn3:QP:=⟨[0,2],2,[1],[(0,0,1),(0,2,0),(1,2,0)]⟩
def se3:List Ed:=[(0,1,0),(0,3,1),(1,1,0)]
theorem Qet:X2 ex3=0:=by kernel_rfl
theorem QgF:YV ex3=cn3:=by kernel_rfl
theorem zE:X2 cn3=0:=by kernel_rfl
theorem QgS:QfM cn3 0 [0,0]=0:=by kernel_rfl
theorem QgT:flw cn3 0 [0,0]=(1,1):=by kernel_rfl
theorem QgR:QcB cn3 2 true=some [[0],[2,0]]:=by kernel_rfl
theorem QhL:X2 ⟨[1,3],2,[1],se3⟩=0:=by kernel_rfl
theorem QhK:(YV ⟨[1,3],2,[1],se3⟩).ed=se3:=by kernel_rfl
theorem Qiv:jy cn3 [3,1]=[(0,3,1),(0,1,0),(1,1,0)]:=by kernel_rfl
theorem Qj0:([3,1]:LI).mergeSort (λx y=>decide (x≤y))=[1,3]:=by
 refine List.Perm.eq_of_pairwise (le:=λx y:Int=>x≤y) (λa b _ _ h1 h2=>by omega) ?_ (by decide) ((List.mergeSort_perm _ _).trans (List.Perm.swap _ _ _));refine (List.pairwise_mergeSort (le:=λx y:Int=>decide (x≤y)) (λa b c h1 h2=>by simp at *;omega) (λa b=>by simp;omega) [3,1]).imp λh=>by simpa using h
theorem QhF (l':List Ed) (hp:l'.Perm (jy cn3 [3,1])) (G:l'.Pairwise yI):l'=se3:=by
 rw[Qiv] at hp;refine List.Perm.eq_of_pairwise (le:=yI) (λa b ha hb h1 h2=>?_) G (by unfold se3 yI;decide) (hp.trans (List.Perm.swap _ _ _));have E:=hp.mem_iff.1 ha;simp only[List.mem_cons,List.not_mem_nil,or_false] at E;simp only[se3,List.mem_cons,List.not_mem_nil,or_false] at hb;unfold yI at h1 h2
 rcases E with rfl | rfl | rfl <;> rcases hb with rfl | rfl | rfl <;> first | rfl | (exfalso;simp only[] at h1 h2;omega)
set_option maxHeartbeats 1000000 in
theorem yC (w:World):QI prog 247 [] w λr w'=>Step [] w w'∧YY w.heap.size w'.heap r ex3:=by
 refine QI.of_W func247 O ntmps247 results247 (by simp) ?_;refine Qc<|xl O<|Qt (us:=X0) O λb0 w1 S hb T=>xe ?_;have hc:=T.lt;refine Qc<|xl O<|QD (us:=[[.int .i64 0],[.int .i64 2]]) O O (by decide) (by simp) ⟨rfl,rfl,rfl,rfl,U⟩ λG w2 V hj he=>xl rfl<|QD (us:=[[.int .i64 2]]) rfl rfl (by decide) (by simp) ⟨rfl,rfl,U⟩ λH w3 I hk hf =>
  x (QE ⟨rfl,O,O,U⟩)<|x (QE ⟨O,O,O,U⟩)<|x (QE ⟨O,O,O,U⟩)<|xl O<|QD (us:=[Qw (0,0,2),Qw (0,2,0),Qw (2,2,0)]) O O (by decide) (by exact (by decide:3*3≤1000000)) ⟨O,O,O,O,O,O,U⟩ λJ w4 E hl hg=>?_
 have Y:=(V.trans I).trans E;have hh:=S.size;have hm:=V.size;have hn:=I.size;have ho:=E.size;have hF:YY w1.heap.size w4.heap (.agg #[.slice (some ⟨G,0,none⟩) 2 2,.int .i64 3,.slice (some ⟨H,0,none⟩) 1 1,.slice (some ⟨J,0,none⟩) 3 3]) ex3 :=
  qM (a:=ex3) ((he.ext I).ext E) (hf.ext E) hg (by omega) (by omega) (by omega) O O O (by decide) (by decide) (by decide)
 refine x (QE ⟨O,O,O,O,U⟩)<|xl O<|Qp (us:=[.slice (some ⟨G,0,none⟩) 2 2,.int .i64 3,.slice (some ⟨H,0,none⟩) 1 1,.slice (some ⟨J,0,none⟩) 3 3]) (T.ext Y) O O O O ⟨O,O,O,O,U⟩ λw5 ha hi=>xe ?_
 refine Qm ⟨[.agg [.slice (some ⟨G,0,none⟩) 2 2,.int .i64 3,.slice (some ⟨H,0,none⟩) 1 1,.slice (some ⟨J,0,none⟩) 3 3].toArray],⟨⟨_,O,Qx O (hi.at (L:=[]) (by simp)).cells⟩,U⟩,(S.trans Y).then1 ha hb,?_⟩;exact (XW hF hc ha).mono hh
set_option maxHeartbeats 4000000 in
theorem QbU (w:World):QI prog 199 [] w λr w'=>r=.bool true∧Step [] w w':=by
 refine QI.of_W func199 O ntmps199 results199 (by simp) ?_;refine Qc<|Qe<|Qc<|xl O<|xf<|(yC w).mono ?_;rintro r1 w1 ⟨hE,va,vm,ve,rfl,hF⟩;refine xl rfl<|xf<|(zJ (hF [] (by simp))).mono ?_;rintro r2 w2 ⟨hG,v2,rfl,_,hH⟩;have hf:=hH Qet;rw[QgF] at hf;obtain ⟨ca,cm,ce,rfl,hI⟩:=hf;have hC:=hI [] (by simp)
 refine Qb<|x (Ql O O)<|x (Ql O O)<|xl O<|Qt (us:=X0) O λb1 w3 hJ hK hM=>xl O<|Qp (us:=[ca,.int .i64 2,cm,ce]) hM O O O O ⟨hC.al.one,O,hC.mr.one,hC.ed.one,U⟩ λw4 hN J=>Qe ?_;have hg:Step [] w2 w4:=hJ.then1 hN hK;have S:=hC.ext hg;have hO:=(hE.trans hG).trans hg
 refine Qc<|x (Qr J O O)<|xl O<|QD (us:=[[.int .i64 0],[.int .i64 0]]) O O (by decide) (by simp) ⟨rfl,rfl,rfl,rfl,U⟩ λg5 w5 hh g6 hP=>xl rfl<|xf<|(QiM (u:=[0,0]) (S.ext hh) (hP.arr (L:=[]) (by simp) (n:=2) (cap:=2) (sz:=1) rfl (by omega) (Lr _)) 0).mono ?_;rintro r6 w6 ⟨hQ,hi⟩;rw[if_neg (by rw[QgS];decide),QgT] at hi;subst hi
 refine Qb<|x (Ql O O)<|x (Ql O O)<|x (Ql O O)<|x Qf<|x Qf<|Qe ?_;have Y:=hh.trans hQ;refine Qc<|x (Qr (J.ext Y) O O)<|xl O<|xf<|(Qcn (S.ext Y) zE ((ZS _).1 zE) 2 (by decide) true).mono ?_;rintro r7 w7 ⟨hS,hj⟩;rw[QgR] at hj;have hT:∃I G H,r7=.tuple #[I,.int .i64 0]∧Xk [] w7.heap I [G,H]∧G.2=[0]∧H.2=[2,0]:=by
  rcases hj with ⟨h,_⟩ | ⟨l,I,ps,hl,h2,h3,E⟩
  ·cases h
  cases hl
  match ps,h3,E with
  | [G,H],h3,E =>
   simp only[List.map_cons,List.map_nil,List.cons.injEq,and_true] at E;exact ⟨I,G,H,h2,h3,E.1,E.2⟩
  | [],_,E=>simp at E
  | [_],_,E=>simp at E
  | _::_::_::_,_,E=>simp at E
 obtain ⟨I,G,H,rfl,hU,hV,hW⟩:=hT;refine Qb<|x (Ql O O)<|x (Ql O O)<|x Qf<|Qe ?_;have ha:=Y.trans hS;refine Qc<|x (Qr (J.ext ha) O O)<|xl O<|QD (us:=[[.int .i64 3],[.int .i64 1]]) O O (by decide) (by simp) ⟨rfl,rfl,rfl,rfl,U⟩ λg7 w8 hk g8 hX =>
  xl rfl<|xf<|(Qac (to:=[3,1]) ((S.ext ha).ext hk) zE ((ZS _).1 zE) (hX.arr (L:=[]) (by simp) (n:=2) (cap:=2) (sz:=1) rfl (by omega) (Lr _)) rfl (by decide) (by decide) Qj0 QhF ((ZS _).1 QhL)).mono ?_
 rintro r9 w9 ⟨hY,v9,rfl,hZ⟩;obtain ⟨ra,rm,re,rfl,ga⟩:=hZ;have T:=ga [] (by simp);have gb:UJ [] w9.heap re se3:=by
  have h:=T.ed;rw[show (YV ⟨[1,3],cn3.st,cn3.mr,se3⟩).ed=se3 from QhK] at h;exact h
 refine Qb<|x (Ql O O)<|x (Ql O O)<|xl O<|Qt (us:=X0) O λb8 g9 gc ge gg=>xl O<|Qp (us:=[ra,.int .i64 (YV ⟨[1,3],cn3.st,cn3.mr,se3⟩).st,rm,re]) gg O O O O ⟨T.al.one,O,T.mr.one,T.ed.one,U⟩ λhm gh gi=>Qe ?_;have hn:Step [] w9 hm:=gc.then1 gh ge;have ho:=(hk.trans hY).trans hn;have hb:=ha.trans ho;have gj:=S.ext hb;have gk:=J.ext hb
 have gl:=hU.ext ho;have gm:=gb.ext hn;refine Q0 (α:=Unit) [(0,0),(33,98)] (λz=>[(0,.bool true)]) (λz w'=>Step [] hm w') (by rfl) ?_ ?_
 ·refine Qz<|Qb<|xb (Q5 O O) (λhp=>?_) (λhp=>absurd Qet hp);refine Qb<|x (Qr gk O O)<|xl O<|QD (us:=[[.int .i64 0],[.int .i64 2]]) O O (by decide) (by simp) ⟨rfl,rfl,rfl,rfl,U⟩ λgn ka go kb gp=>xl rfl<|QD (us:=[[.int .i64 1]]) rfl rfl (by decide) (by simp) ⟨rfl,rfl,U⟩ λgq kc hq ke gr =>
   x (QE ⟨O,O,O,U⟩)<|x (QE ⟨O,O,O,U⟩)<|x (QE ⟨O,O,O,U⟩)<|xl O<|QD (us:=[Qw (0,0,1),Qw (0,2,0),Qw (1,2,0)]) O O (by decide) (by exact (by decide:3*3≤1000000)) ⟨O,O,O,O,O,O,U⟩ λgs gt hc kf gu=>?_
  have hr:=(go.trans hq).trans hc;have hL:Zu [] gt.heap (.slice (some ⟨gn,0,none⟩) 2 2) (.slice (some ⟨gq,0,none⟩) 1 1) (.slice (some ⟨gs,0,none⟩) 3 3) cn3 :=
   ⟨((gp.ext hq).ext hc).arr (L:=[]) (by simp) (n:=2) (cap:=2) (sz:=1) rfl (by omega) (Nat.le_refl _),(gr.ext hc).arr (L:=[]) (by simp) (n:=1) (cap:=1) (sz:=1) rfl (by omega) (Nat.le_refl _),gu.arr (L:=[]) (by simp) (n:=3) (cap:=3) (sz:=3) rfl (by omega) (Lr _)⟩
  refine x (QE ⟨O,O,O,O,U⟩)<|xl O<|xf<|(QeZ (a:=cn3) (gj.ext hr) hL).mono ?_;rintro kg kh ⟨rfl,gv⟩;have hs:=hr.trans gv;have V:=gl.ext hs;refine x (Qj O)<|Qb<|Qb<|xb (Q5 O O) (λht=>?_) (λht=>absurd O ht);refine x (Qj O)<|Qb<|Qb<|xb (Q5 O O) (λhu=>?_) (λhu=>absurd O hu);refine x (Qj O)<|Qb<|Qb<|xb (Q5 O O) (λhv=>?_) (λhv=>absurd O hv)
  refine x (Qj O)<|Qb<|Qb<|xb (Q5 O O) (λhw=>?_) (λhw=>absurd O hw);refine x (Qj O)<|Qb<|Qb<|x (Qs V.arr O)<|xb (Q5 O O) (λhy=>?_) (λhy=>absurd O hy);refine x (Qj O)<|Qb<|Qb<|xig (g:=ZH) (i:=0) J0 V.arr O O (by simp) λki gw=>x (Qv gw rfl)<|xl rfl<|QD (us:=[[.int .i64 0]]) rfl rfl (by decide) (by simp) ⟨rfl,rfl,U⟩ λkj kk hz kn gx =>
   xl rfl<|xf<|(Kt (l:=G.2) (l':=[0]) ((V.each G (by simp)).ext hz) (gx.arr (L:=[]) (by simp) (n:=1) (cap:=1) (sz:=1) rfl (by omega) (Lr _))).mono ?_
  rintro ko kp ⟨h0,gy⟩;rw[hV,decide_eq_true rfl] at h0;subst h0;have h1:=hz.trans gy;have h5:=V.ext h1;refine x (Qj O)<|Qb<|Qb<|xig (g:=ZH) (i:=1) J0 h5.arr O O (by simp) λkq gz=>x (Qv gz rfl)<|xl rfl<|QD (us:=[[.int .i64 2],[.int .i64 0]]) rfl rfl (by decide) (by simp) ⟨rfl,rfl,rfl,rfl,U⟩ λkr kt h6 ku g0 =>
   xl rfl<|xf<|(Kt (l:=H.2) (l':=[2,0]) ((h5.each H (by simp)).ext h6) (g0.arr (L:=[]) (by simp) (n:=2) (cap:=2) (sz:=1) rfl (by omega) (Lr _))).mono ?_
  rintro kv kw ⟨h7,g2⟩;rw[hW,decide_eq_true rfl] at h7;subst h7;have he:=(hs.trans h1).trans (h6.trans g2);have h8:=gi.ext he;have h9:=gm.ext he;refine x (Qj O)<|Qb<|Qb<|xb (Q5 O O) (λhA=>?_) (λhA=>absurd O hA);refine x (Qj O)<|Qb<|x (Qa O)<|x (Qd h8 O O)<|x (Qs h9 O)<|xb (Q5 O O) (λhB=>?_) (λhB=>absurd O hB)
  refine x (Qj O)<|Qb<|x (Qa O)<|x (Qd h8 O O)<|xie (i:=1) h9 O O (by decide) λkx g3=>x (QF g3 O O)<|x (QE ⟨O,O,O,U⟩)<|xb (q6 (p:=(0,3,1)) (q:=(0,3,1)) O O) (λhD=>?_) (λhD=>absurd O hD);refine x (Qj O)<|Qe ?_;exact ⟨(),Z,he⟩
 rintro z g ky g4;exact Qm ⟨[.bool true],Z,O,(hO.trans hb).trans g4⟩
theorem Qcs (w:World):QI prog 128 [] w λr w'=>r=.bool true∧Step [] w w':=by
 refine QI.of_W func128 O ntmps128 results128 (by simp) ?_;refine Qc<|Qe<|Qc<|xl O<|xf<|(QbU w).mono ?_;rintro G H ⟨rfl,E⟩;refine Qe ?_;exact Qm ⟨[.bool true],Z,O,E⟩
theorem CL.cel_rq {c:CL} {k:Zv} (h:c.cel=k) (v:Value) (qs:List IV):(CL.mk c.ve c.vc v c.vx c.vk c.ev c.co qs c.ex c.cs).cel={ k with rq:=qs.map IV.it }:=by rw[←h];rfl
theorem CL.cel_ex {c:CL} {k:Zv} (h:c.cel=k) (v:Value) (qs:List XV):(CL.mk c.ve c.vc c.vr v c.vk c.ev c.co c.rq qs c.cs).cel={ k with ex:=qs.map XV.x }:=by rw[←h];rfl
theorem CL.cel_cs {c:CL} {k:Zv} (h:c.cel=k) (v:Value) (qs:List KV):(CL.mk c.ve c.vc c.vr c.vx v c.ev c.co c.rq c.ex qs).cel={ k with cs:=qs.map KV.k }:=by rw[←h];rfl
theorem jv {w:World}{c:CL}{k:Zv}(h:ZB [] w.heap c) (hc:c.cel=k) (he:Yr k=0) (T:Kb w 4096) :
  QI prog 27 [c.val] w λr w'=>Step [] w w'∧∃va vm ve G H I E,r=.tuple #[.agg #[va,.int .i64 (spc k).a.st,vm,ve,G,H,I,E],.int .i64 0]∧ZO [va,.int .i64 (spc k).a.st,vm,ve,G,H,I,E]∧Zq [] w'.heap E (spc k).fb.length 4 ((spc k).fb.flatMap Zy):=by
 refine (Kf h T).mono ?_;rintro r w' ⟨hs,v,rfl,⟨us,V,_,J⟩,S⟩;rw[hc] at S ⊢;obtain ⟨va,vm,ve,G,H,I,E,cos,rqs,rfl,_,_,Y⟩:=S he;have ha:us=[va,.int .i64 (spc k).a.st,vm,ve,G,H,I,E]:=by
  have h9:=congrArg (λv=>match v with | Value.agg cs=>cs.toList | _=>[]) V
  simpa using h9.symm
 rw[ha] at J;exact ⟨hs,va,vm,ve,G,H,I,E,by rw[he],J,(Y [] (by simp)).2.2.2.2⟩
theorem Qiw {w:World}{c:CL}{k:Zv}(h:ZB [] w.heap c) (hc:c.cel=k) (he:Yr k=0) (E:(spc k).a.st<4096) (h1:Qbe k=true) (G:Kb w 4096) :
  QI prog 197 [c.val] w λr w'=>Step [] w w'∧∃xa xm xe vb,r=.tuple #[.agg #[xa,.int .i64 ((spc k).a.st+1),xm,xe],vb,.int .i64 0]∧ZO [xa,xm,xe]∧Qu 3 w.heap.size w' vb (cmB k):=by
 subst hc;exact jc h G he E h1
abbrev QhS:LV:=[nS,.int .i64 0,nS,nS,nS,nS,nS,nS]
theorem QiK {P:Prop}{a b:Int}(e:a=b) (h:¬a=b):P:=absurd e h
set_option maxHeartbeats 8000000 in
theorem jN {w:World}(hj:Kb w 4096):QI prog 127 [] w λr w'=>r=.bool true∧Step [] w w':=by
 refine QI.of_W func127 O ntmps127 results127 (by simp) ?_;refine Qc<|Qe<|Qc<|xl O<|xf<|(Xw 1 (by decide) w).mono ?_;rintro r1 w1 ⟨hM,I,rfl,gz,g0⟩;refine xl rfl<|xf<|(Xw 2 (by decide) w1).mono ?_;rintro r2 w2 ⟨h5,J,rfl,g2,g3⟩;refine xl rfl<|xf<|(Xw 2 (by decide) w2).mono ?_;rintro r3 w3 ⟨hk,S,rfl,g4,g5⟩;have hl:=((g0 [] (by simp)).ext h5).ext hk
 have hn:=(g3 [] (by simp)).ext hk;have ho:=g5 [] (by simp);refine xl rfl<|Qt (us:=Z5) O λE w4 hN p8 hO=>xl O<|Qt (us:=Z5) O λG w5 h6 p9 hP=>xl O<|Qt (us:=Z5) O λH w6 hp qb T=>?_;have qc:=hN.size;have qj:=h6.size;have qk:=hp.size;have qo:=hO.lt;have qr:=hP.lt;have q0:=T.lt
 refine xl rfl<|Qp (us:=I.cells) ((hO.ext h6).ext hp) O O O O hl.ones λw7 hr g6=>xl O<|Qp (us:=J.cells) ((hP.ext hp).step hr (by simp only[List.mem_singleton];omega)) O O O O hn.ones λw8 hs g7 =>
  xl rfl<|Qp (us:=S.cells) ((T.step hr (by simp only[List.mem_singleton];omega)).step hs (by simp only[List.mem_singleton];omega)) O O O O ho.ones λw9 ht g8=>xe ?_
 have hc:Step [] w3 w9:=((((hN.trans h6).trans hp).then1 hr (by omega)).then1 hs (by omega)).then1 ht (by omega);have g9:=((hM.trans h5).trans hk).trans hc;have ka:=(g6.step hs (by simp only[List.mem_singleton];omega)).step ht (by simp only[List.mem_singleton];omega);have kb:=g7.step ht (by simp only[List.mem_singleton];omega)
 have T:∀b∈[E,G,H],w3.heap.size≤b∧b<w6.heap.size:=λb hb=>by
  simp only[List.mem_cons,List.not_mem_nil,or_false] at hb;rcases hb with rfl | rfl | rfl <;> omega
 have m1:∀b∈[E],b∈[E,G,H]:=by simp
 have m2:∀b∈[G],b∈[E,G,H]:=by simp
 have m3:∀b∈[H],b∈[E,G,H]:=by simp
 have hl:=(hl.up (L':=[E,G,H]) (λb hb=>.inr (T b hb).1)).ext hc;have hn:=(hn.up (L':=[E,G,H]) (λb hb=>.inr (T b hb).1)).ext hc;have ho:=(ho.up (L':=[E,G,H]) (λb hb=>.inr (T b hb).1)).ext hc;have q1:=hc.size;have q2:w6.heap.size≤w9.heap.size:=by have:=hr.size;have:=hs.size;have:=ht.size;omega
 have nB:∀b,w9.heap.size≤b→b∉[E,G,H]:=λb hb hm=>by have:=(T b hm).2;omega
 refine Qc<|xl O<|QD (us:=[[.int .i64 1]]) O O (by decide) (by simp) ⟨rfl,rfl,U⟩ λhu q3 hQ q4 kc=>xl rfl<|QD (us:=[[.int .i64 0]]) rfl rfl (by decide) (by simp) ⟨rfl,rfl,U⟩ λhv za h7 zv ke=>x (QE ⟨rfl,rfl,rfl,U⟩) <|
  x (Z4 [(0,[.string KA]),(1,[.slice (some ⟨hu,0,none⟩) 1 1,.int .i64 1,.slice (some ⟨hv,0,none⟩) 1 1,nS])] ⟨O,O,O,O,U⟩) <|
  xl rfl<|QD (us:=[[.string KA,.slice (some ⟨hu,0,none⟩) 1 1,.int .i64 1,.slice (some ⟨hv,0,none⟩) 1 1,nS]]) O O (by decide) (by exact (by decide:1*5≤1000000)) ⟨O,O,U⟩ λh8 kf hw z0 kg=>?_
 have he:=(hQ.trans h7).trans hw;refine x (Qa O)<|xl O<|QL (j:=2) (u:=.slice (some ⟨h8,0,none⟩) 1 1) (ka.ext he) O O (by simp) rfl λhA hf kh=>xe ?_;have z2:=hQ.size;have z3:=h7.size;have z4:=hw.size;have z5:=he.size;have hg:Step [E,G,H] w9 hA:=he.any.trans' (hf.mono m1);have z9:=hf.size
 have ki:ZB [E,G,H] hA.heap (CL.mk I.ve I.vc (.slice (some ⟨h8,0,none⟩) 1 1) I.vx I.vk I.ev I.co [⟨KA,⟨.slice (some ⟨hu,0,none⟩) 1 1,.slice (some ⟨hv,0,none⟩) 1 1,nS,zu.a⟩⟩] I.ex I.cs):=by
  have h9:=hl.st hg;refine ⟨h9.ev,h9.co,YW.st (w:=kf) ⟨kg.arr (nB _ (by omega)) (n:=1) (cap:=1) (sz:=5) O (by decide) (Lr _),λq hq=>?_,λq hq=>?_⟩ (hf.mono m1),h9.ex,h9.cs⟩
  ·rw[La.1 hq];exact ⟨((kc.ext h7).ext hw).arr (nB _ (by omega)) (n:=1) (cap:=1) (sz:=1) O (by decide) (Lr _),(ke.ext hw).arr (nB _ (by omega)) (n:=1) (cap:=1) (sz:=1) O (by decide) (Lr _),Zq.nil _ _ 3⟩
  rw[La.1 hq];exact XI (by decide)
 refine Qc<|x (QE ⟨O,O,U⟩)<|x (QE ⟨O,O,U⟩)<|xl O<|QD (us:=[QX (0,1),QX (1,1)]) O O (by decide) (by exact (by decide:2*2≤1000000)) ⟨O,O,O,O,U⟩ λhB w14 hR hb24 kj=>x (QE ⟨O,O,U⟩) <|
  xl rfl<|QD (us:=[[.string Jn,.slice (some ⟨hB,0,none⟩) 2 2]]) O O (by decide) (by exact (by decide:1*2≤1000000)) ⟨O,O,U⟩ λhC kk hD hb26 kn=>?_
 have hh:=hR.trans hD;refine x (Qa O)<|xl O<|QL (j:=3) (u:=.slice (some ⟨hC,0,none⟩) 1 1) ((kb.step (he.any.trans' hf) (by simp only[List.mem_singleton];omega)).ext hh) O O (by simp) rfl λhE hy ko=>xe ?_;have hz14:=hR.size;have hz15:=hD.size;have hz1315:=hh.size;have hi:Step [E,G,H] hA hE:=hh.any.trans' (hy.mono m2);have hz16:=hi.size
 have hz913:=hg.size;have kp:ZB [E,G,H] hE.heap (CL.mk J.ve J.vc J.vr (.slice (some ⟨hC,0,none⟩) 1 1) J.vk J.ev J.co J.rq [⟨Jn,.slice (some ⟨hB,0,none⟩) 2 2,[(0,1),(1,1)]⟩] J.cs):=by
  have h9:=hn.st (hg.trans' hi);refine ⟨h9.ev,h9.co,h9.rq,UM.st (w:=kk) ⟨kn.arr (nB _ (by omega)) (n:=1) (cap:=1) (sz:=2) O (by decide) (Lr _),λq hq=>?_,λq hq=>?_⟩ (hy.mono m2),h9.cs⟩
  ·rw[La.1 hq];exact (kj.ext hD).arr (nB _ (by omega)) (n:=2) (cap:=2) (sz:=2) O (by decide) (Lr _)
  rw[La.1 hq];exact XI (by decide)
 refine Qc<|x (QE ⟨O,O,U⟩)<|x (QE ⟨O,O,U⟩)<|xl O<|QD (us:=[QX (0,1),QX (1,1)]) O O (by decide) (by exact (by decide:2*2≤1000000)) ⟨O,O,O,O,U⟩ λhF w17 hS hb30 kq=>x (QE ⟨O,O,O,U⟩) <|
  xl rfl<|QD (us:=[[.string zh,.slice (some ⟨hF,0,none⟩) 2 2,.int .i64 1]]) O O (by decide) (by exact (by decide:1*3≤1000000)) ⟨O,O,U⟩ λhG kr hH hb32 kt=>?_
 have hz:=hS.trans hH;refine x (Qa O)<|xl O<|QL (j:=4) (u:=.slice (some ⟨hG,0,none⟩) 1 1) (((g8.step (he.any.trans' hf) (by simp only[List.mem_singleton];omega)).step (hh.any.trans' hy) (by simp only[List.mem_singleton];omega)).ext hz) O O (by simp) rfl λY h0 ku=>xe ?_;have hz17:=hS.size;have hz18:=hH.size
 have h1:Step [E,G,H] hE Y:=hz.any.trans' (h0.mono m3);have kv:ZB [E,G,H] Y.heap (CL.mk S.ve S.vc S.vr S.vx (.slice (some ⟨hG,0,none⟩) 1 1) S.ev S.co S.rq S.ex [⟨zh,.slice (some ⟨hF,0,none⟩) 2 2,[(0,1),(1,1)],1⟩]):=by
  have h9:=ho.st ((hg.trans' hi).trans' h1);refine ⟨h9.ev,h9.co,h9.rq,h9.ex,UY.st (w:=kr) ⟨kt.arr (nB _ (by omega)) (n:=1) (cap:=1) (sz:=3) O (by decide) (Lr _),λq hq=>?_,λq hq=>?_⟩ (h0.mono m3)⟩
  ·rw[La.1 hq];exact (kq.ext hH).arr (nB _ (by omega)) (n:=2) (cap:=2) (sz:=2) O (by decide) (Lr _)
  rw[La.1 hq];exact XI (by decide)
 have hT:ZB [] Y.heap _:=((ki.st hi).st h1).up (L':=[]) (by simp);have kw:ZB [] Y.heap _:=(kp.st h1).up (L':=[]) (by simp);have kx:ZB [] Y.heap _:=kv.up (L':=[]) (by simp);have hU:=(kh.step (hh.any.trans' hy) (by simp only[List.mem_singleton];omega)).step (hz.any.trans' h0) (by simp only[List.mem_singleton];omega)
 have ky:=ko.step (hz.any.trans' h0) (by simp only[List.mem_singleton];omega);have hV:Step [] w Y:=g9.then ((hg.trans' hi).trans' h1) (λb hb=>.inr (by have:=(T b hb).1;have:=((hM.trans h5).trans hk).size;omega));have hW:=CL.cel_rq gz (.slice (some ⟨h8,0,none⟩) 1 1) [⟨KA,⟨.slice (some ⟨hu,0,none⟩) 1 1,.slice (some ⟨hv,0,none⟩) 1 1,nS,zu.a⟩⟩]
 have kz:=CL.cel_ex g2 (.slice (some ⟨hC,0,none⟩) 1 1) [⟨Jn,.slice (some ⟨hB,0,none⟩) 2 2,[(0,1),(1,1)]⟩];have k0:=CL.cel_cs g4 (.slice (some ⟨hG,0,none⟩) 1 1) [⟨zh,.slice (some ⟨hF,0,none⟩) 2 2,[(0,1),(1,1)],1⟩];refine Qc<|x (Qr hU O O)<|xl O<|xf<|(jv (k:=k1C) hT hW Qjo (hj.ext hV)).mono ?_;rintro r20 k4 ⟨k5,sa,sm,se,s1,s2,s3,s4,rfl,k6,hX⟩;rw[Qjn] at hX
 refine Qb<|x (Ql O O)<|x (Ql O O)<|xl O<|Qt (us:=QhS) O λb4 w21 k7 k8 k9=>xl O<|Qp (us:=[sa,.int .i64 (spc k1C).a.st,sm,se,s1,s2,s3,s4]) k9 O O O O k6 λma mc mf=>Qe ?_;have hY:Step [] k4 ma:=k7.then1 mc k8;have h2:=k5.trans hY;have hZ:=hV.trans h2
 refine Qc<|x (Qr (hU.ext h2) O O)<|xl O<|xf<|(Qiw (k:=k1C) (hT.ext h2) hW Qjo (by rw[Qhl];decide) QhY (hj.ext hZ)).mono ?_;rintro r23 ga ⟨mg,xa,xm,mh,vb,rfl,hI,gb⟩;rw[QhZ] at gb;have mi:QK [] ga.heap vb [2]:=Qu.ints (L:=[]) gb (by simp) (by simp)
 refine Qb<|x (Ql O O)<|x (Ql O O)<|x (Ql O O)<|xl O<|Qt (us:=X0) O λb6 w24 mj mn mo=>xl O<|Qp (us:=[xa,.int .i64 ((spc k1C).a.st+1),xm,mh]) mo O O O O ⟨hI.1,O,hI.2.1,hI.2.2.1,U⟩ λmq mu mv=>x Qf<|Qe ?_;have gc:Step [] ga mq:=mj.then1 mu mn;have h3:=mg.trans gc;have hJ:=h2.trans h3;have ge:=hZ.trans h3
 refine Qc<|x (Qr (ky.ext hJ) O O)<|xl O<|xf<|(jv (k:=k2C) (kw.ext hJ) kz Qkd (hj.ext ge)).mono ?_;rintro r26 mw ⟨my,ta,tm,te,t1,t2,t3,t4,rfl,mz,gg⟩;rw[Qjl] at gg;refine Qb<|x (Ql O O)<|x (Ql O O)<|xl O<|Qt (us:=QhS) O λb9 w27 m0 m4 m5=>xl O<|Qp (us:=[ta,.int .i64 (spc k2C).a.st,tm,te,t1,t2,t3,t4]) m5 O O O O mz λm6 m7 m8=>Qe ?_
 have gh:Step [] mw m6:=m0.then1 m7 m4;have ha:=my.trans gh;have gi:=hJ.trans ha;have gj:=ge.trans ha;refine Qc<|x (Qr (ku.ext gi) O O)<|xl O<|xf<|(jv (k:=k3C) (kx.ext gi) k0 Qkc (hj.ext gj)).mono ?_;rintro r29 m9 ⟨pa,ua,um,ue,u1,u2,u3,u4,rfl,pc,gk⟩;rw[Qjj] at gk
 refine Qb<|x (Ql O O)<|x (Ql O O)<|xl O<|Qt (us:=QhS) O λb11 w30 pd pf pg=>xl O<|Qp (us:=[ua,.int .i64 (spc k3C).a.st,um,ue,u1,u2,u3,u4]) pg O O O O pc λgl ph pj=>Qe ?_;have gm:Step [] m9 gl:=pd.then1 ph pf;have V:=pa.trans gm;have pm:=gj.trans V;have pn:=((mf.ext h3).ext ha).ext V;have po:=(mv.ext ha).ext V
 have gn:=m8.ext V;have pp:=((((hX.ext hY).ext h3).ext ha).ext V);have pt:=(gg.ext gh).ext V;have pu:=gk.ext gm;have pw:=((mi.ext gc).ext ha).ext V;refine Q0 (α:=Unit) [(0,0),(55,105)] (λz=>[(0,.bool true)]) (λz w'=>Step [] gl w') (by rfl) ?_ ?_
 ·refine Qz<|Qb<|xb (Q5 O O) (λgo=>?_) (λgo=>absurd O go);refine Qb<|Qb<|xb (Q5 O O) (λgp=>?_) (λgp=>absurd O gp);refine x (Qj O)<|Qb<|Qb<|xb (Q5 O O) (λgq=>?_) (λgq=>absurd O gq);refine x (Qj O)<|Qb<|Qb<|xb (Q5 O O) (λgr=>?_) (λgr=>absurd O gr)
  refine x (Qj O)<|Qb<|x (Qa O)<|x (Qd pn O O)<|x (QE ⟨O,O,O,O,U⟩)<|xl O<|QD (us:=[Zy ⟨1,3,0,1⟩]) O O (by decide) (by exact (by decide:1*4≤1000000)) ⟨O,O,U⟩ λb73 w32 gs hb73 pz =>
   xl rfl<|xf<|(Ve (l:=[⟨1,3,0,1⟩]) (pp.ext gs) (pz.arr (L:=[]) (by simp) (n:=1) (cap:=1) (sz:=4) rfl (by decide) (Lr _))).mono ?_
  rintro r74 w33 ⟨rfl,p0⟩;have hK:=gs.trans p0;refine x (Qj O)<|Qb<|x (Qa O)<|x (Qd (po.ext hK) O O)<|xb (Q5 O O) (λgt=>?_) (λgt=>QiK (by rw[Qhl];rfl) gt);refine x (Qj O)<|Qb<|Qb<|xl O<|QD (us:=[[.int .i64 2]]) O O (by decide) (by simp) ⟨rfl,rfl,U⟩ λb83 w34 gu hb83 p1 =>
   xl rfl<|xf<|(JK (l:=[2]) (l':=[2]) ((pw.ext hK).ext gu) (p1.arr (L:=[]) (by simp) (n:=1) (cap:=1) (sz:=1) rfl (by omega) (Lr _))).mono ?_
  rintro r84 w35 ⟨gv,p2⟩;rw[decide_eq_true rfl] at gv;subst gv;have h4:=hK.trans (gu.trans p2);refine x (Qj O)<|Qb<|x (Qa O)<|x (Qa O)<|x (Qd (gn.ext h4) O O)<|xb (Q5 O O) (λgw=>?_) (λgw=>QiK Qjk gw)
  refine x (Qj O)<|Qb<|x (Qa O)<|x (Qd (gn.ext h4) O O)<|x (QE ⟨O,O,O,O,U⟩)<|xl O<|QD (us:=[Zy ⟨3,1,0,-1⟩]) O O (by decide) (by exact (by decide:1*4≤1000000)) ⟨O,O,U⟩ λb96 w36 gx hb96 p3 =>
   xl rfl<|xf<|(Ve (l:=[⟨3,1,0,-1⟩]) ((pt.ext h4).ext gx) (p3.arr (L:=[]) (by simp) (n:=1) (cap:=1) (sz:=4) rfl (by decide) (Lr _))).mono ?_
  rintro r97 w37 ⟨rfl,p4⟩;have hL:=h4.trans (gx.trans p4);refine x (Qj O)<|Qb<|x (Qa O)<|x (Qd (pj.ext hL) O O)<|x (QE ⟨O,O,O,O,U⟩)<|xl O<|QD (us:=[Zy ⟨3,2,0,-1⟩]) O O (by decide) (by exact (by decide:1*4≤1000000)) ⟨O,O,U⟩ λb103 w38 gy hb103 p5 =>
   xl rfl<|xf<|(Ve (l:=[⟨3,2,0,-1⟩]) ((pu.ext hL).ext gy) (p5.arr (L:=[]) (by simp) (n:=1) (cap:=1) (sz:=4) rfl (by decide) (Lr _))).mono ?_
  rintro r104 w39 ⟨rfl,p6⟩;refine x (Qj O)<|Qe ?_;exact ⟨(),Z,hL.trans (gy.trans p6)⟩
 rintro z g w40 p7;exact Qm ⟨[.bool true],Z,O,pm.trans p7⟩
end Go.Proofs.YtdffckgdcegpaaaGreatDoor
namespace Go.Proofs
open Go.Proofs.Tryz
open Go.Shelf
def Tryz.sortRm_ren:Go.Shelf.Ren:=⟨λ| 6=>215 | 15=>176 | 14=>266 | 28=>229 | 29=>230 | 20=>288 | 21=>289 | 22=>290 | 23=>291 | 24=>292 | 25=>293 | 26=>294 | 27=>295 | 46=>313 | 47=>268 | 48=>269 | 49=>314 | 50=>315 | 57=>322 | n=>n,λ| 22=>166 | 24=>320 | 25=>326 | 3=>3 | 39=>269 | 0=>0 | 53=>338 | 55=>340 | 4=>4 | 46=>332 | 45=>331 | 50=>178 | 5=>5 | 9=>9 | 66=>372 | 70=>376 | 76=>401 | 77=>381 | n=>n,λ| n=>n⟩
theorem Tryz.sortRm:Go.Proofs.SlLaysF0.n6 prog Tryz.sortRm_ren:={
 mixed:=by kernel_rfl
 f6:=⟨Tryz.f215.name,by decide,func215.trans (congrArg some (by kernel_rfl))⟩
 f14:=⟨Tryz.f266.name,by decide,func266.trans (congrArg some (by kernel_rfl))⟩
 f15:=func176.trans (congrArg some (by kernel_rfl))
 f20:=⟨Tryz.f288.name,by decide,func288.trans (congrArg some (by kernel_rfl))⟩
 f21:=⟨Tryz.f289.name,by decide,func289.trans (congrArg some (by kernel_rfl))⟩
 f22:=⟨Tryz.f290.name,by decide,func290.trans (congrArg some (by kernel_rfl))⟩
 f23:=⟨Tryz.f291.name,by decide,func291.trans (congrArg some (by kernel_rfl))⟩
 f24:=⟨Tryz.f292.name,by decide,func292.trans (congrArg some (by kernel_rfl))⟩
 f25:=⟨Tryz.f293.name,by decide,func293.trans (congrArg some (by kernel_rfl))⟩
 f26:=⟨Tryz.f294.name,by decide,func294.trans (congrArg some (by kernel_rfl))⟩
 f27:=⟨Tryz.f295.name,by decide,func295.trans (congrArg some (by kernel_rfl))⟩
 f28:=func229.trans (congrArg some (by kernel_rfl))
 f29:=func230.trans (congrArg some (by kernel_rfl))
 f46:=⟨Tryz.f313.name,by decide,func313.trans (congrArg some (by kernel_rfl))⟩
 f47:=func268.trans (congrArg some (by kernel_rfl))
 f48:=func269.trans (congrArg some (by kernel_rfl))
 f49:=⟨Tryz.f314.name,by decide,func314.trans (congrArg some (by kernel_rfl))⟩
 f50:=⟨Tryz.f315.name,by decide,func315.trans (congrArg some (by kernel_rfl))⟩
 f57:=⟨Tryz.f322.name,by decide,func322.trans (congrArg some (by kernel_rfl))⟩
 t0:=underlying0
 a0:=Tryz.isAgg0
 z0:=Tryz.sizeOf0
 v0:=Tryz.zeroValue0
 t3:=underlying3
 a3:=Tryz.isAgg3
 z3:=Tryz.sizeOf3
 v3:=Tryz.zeroValue3
 t4:=underlying4
 a4:=Tryz.isAgg4
 z4:=Tryz.sizeOf4
 v4:=Tryz.zeroValue4
 t5:=underlying5
 a5:=Tryz.isAgg5
 z5:=Tryz.sizeOf5
 v5:=Tryz.zeroValue5
 t9:=underlying9
 a9:=Tryz.isAgg9
 z9:=Tryz.sizeOf9
 v9:=Tryz.zeroValue9
 t22:=underlying166
 a22:=Tryz.isAgg166
 z22:=Tryz.sizeOf166
 v22:=Tryz.zeroValue166
 t25:=underlying326
 a25:=Tryz.isAgg326
 z25:=Tryz.sizeOf326
 v25:=Tryz.zeroValue326
 t39:=underlying269
 a39:=Tryz.isAgg269
 z39:=Tryz.sizeOf269
 v39:=Tryz.zeroValue269
 t45:=underlying331
 a45:=Tryz.isAgg331
 z45:=Tryz.sizeOf331
 v45:=Tryz.zeroValue331
 t46:=underlying332
 a46:=Tryz.isAgg332
 z46:=Tryz.sizeOf332
 v46:=Tryz.zeroValue332
 t50:=underlying178
 a50:=Tryz.isAgg178
 z50:=Tryz.sizeOf178
 v50:=Tryz.zeroValue178
 t53:=underlying338
 a53:=Tryz.isAgg338
 z53:=Tryz.sizeOf338
 v53:=Tryz.zeroValue338
 t55:=underlying340
 a55:=Tryz.isAgg340
 z55:=Tryz.sizeOf340
 v55:=Tryz.zeroValue340
 t66:=underlying372
 a66:=Tryz.isAgg372
 z66:=Tryz.sizeOf372
 v66:=Tryz.zeroValue372
 t70:=underlying376
 a70:=Tryz.isAgg376
 z70:=Tryz.sizeOf376
 v70:=Tryz.zeroValue376
 t76:=underlying401
 a76:=Tryz.isAgg401
 z76:=Tryz.sizeOf401
 v76:=Tryz.zeroValue401
 t77:=underlying381
 a77:=Tryz.isAgg381
 z77:=Tryz.sizeOf381
 v77:=Tryz.zeroValue381 }
end Go.Proofs
namespace Go.Proofs.YtdffckgdcegpaaaGreatDoor
open Go.Lg
theorem Qip (lf:Lf) (x:Int) (z:LI×LI) (y:Int):jX lf x z y=if lft lf y=true then bwE x z y else z:=by
 unfold jX bwE;by_cases h:lft lf y=true <;> by_cases h2:cget z.1 y.toNat<0 <;> simp[h,h2]
structure DsI (n:Nat) (z:LI×LI):Prop where
 ok:Qfb n z.1 z.2
 cnt:neg z.1+z.2.length=n
 s0:QiL z.1 z.2
theorem DsI.le {n:Nat}{z:LI×LI}(h:DsI n z):z.2.length≤n:=by have:=h.cnt;omega
theorem QeA {n:Nat}{lf:Lf}{x y:Int}{z:LI×LI}(h:DsI n z) (hx:0≤x∧x<(n:Int)) (E:0≤cget z.1 x.toNat) (hy:0≤y∧y<(n:Int)) :
  DsI n (jX lf x z y)∧0≤cget (jX lf x z y).1 x.toNat:=by
 rw[Qip];split
 ·obtain ⟨h1,h2,h3⟩:=QiD h.ok hx E hy;exact ⟨⟨h1,by have:=h.cnt;omega,QeP h.ok E hy h.s0⟩,h3⟩
 exact ⟨h,E⟩
theorem QgI (lf:Lf) (x:Int) (z:LI×LI) (y:Int):∃r,(jX lf x z y).2=z.2++r:=by
 unfold jX;split
 ·exact ⟨[y],O⟩
 exact ⟨[],by simp⟩
theorem QgH {n:Nat}{lf:Lf}{x:Int}(hx:0≤x∧x<(n:Int)):∀(l:LI) (z:LI×LI),DsI n z→0≤cget z.1 x.toNat→(∀y∈l,0≤y∧y<(n:Int)) →
  DsI n (l.foldl (jX lf x) z)∧∃r,(l.foldl (jX lf x) z).2=z.2++r
 | [],z,h,_,_=>⟨h,[],by simp⟩
 | y::l,z,h,E,hl=>by
  obtain ⟨h1,h2⟩:=QeA (lf:=lf) h hx E (hl y Ls);obtain ⟨h3,G,H⟩:=QgH hx l _ h1 h2 (λy hy=>hl y (Lm _ hy));obtain ⟨I,h5⟩:=QgI lf x z y;exact ⟨h3,I++G,by rw[LO,H,h5,LC]⟩
theorem Qez {E:List Ed}{lf:Lf}{f i:Nat}{z:LI×LI}(h:¬i<z.2.length):dsL E lf f i z=z:=by
 cases f with
 | zero=>rfl
 | succ f=>rw[dsL,if_neg h]
theorem Qbg {n:Nat}{l:LI}{x:Int}(E:0≤x):(VH n l).set x.toNat 0=VH n (l++[x]):=by
 apply Mk
 ·simp[VH]
 intro i h2 h3;rw[List.getElem_set];by_cases e:x.toNat=i
 ·have:(i:Int)=x:=by omega
  rw[if_pos e];simp[VH,this]
 have:(i:Int)≠x:=by omega
 rw[if_neg e];simp[VH,this]
theorem yK {a:QP}{lf:Lf}(hm:∀x∈a.mr,0≤x) (k:Nat):(a.mr.take k).foldl (zM lf) (List.replicate a.st.toNat (-1),[])=(VH a.st.toNat ((a.mr.take k).filter (lft lf)),(a.mr.take k).filter (lft lf)):=by
 induction k with
 | zero =>
  simp only[List.take_zero,List.foldl_nil,List.filter_nil];congr 1;apply Mk
  ·simp[VH]
  intro i h1 h2;simp[VH]
 | succ k ih =>
  by_cases hk:k<a.mr.length
  ·rw[Le hk,Md,ih,L9];simp only[List.foldl_cons,List.foldl_nil,zM];by_cases hl:lft lf (a.mr[k]'hk)=true
   ·rw[if_pos hl,Qbg (hm _ (Lc hk))];simp[hl]
   rw[if_neg hl];simp[hl]
  have e:a.mr.take (k+1)=a.mr.take k:=by rw[Ll (by omega),Ll (by omega)]
  rw[e];exact ih
theorem Qir {a:QP}{lf:Lf}(hm:∀x∈a.mr,0≤x):ds0 a lf=(VH a.st.toNat (a.mr.filter (lft lf)),a.mr.filter (lft lf)):=by
 have:=yK (lf:=lf) hm a.mr.length;rw[MY] at this;exact this
theorem Qf1 {n:Nat}(l:LI) (E:l.Nodup) (hb:∀x∈l,0≤x∧x<(n:Int)):neg (VH n l)+l.length=n:=by
 have key:∀k,k≤l.length→neg (VH n (l.take k))+k=n:=by
  intro k;induction k with
  | zero =>
   intro _;have e:VH n (l.take 0)=List.replicate n (-1):=by
    apply Mk
    ·simp[VH]
    intro i h1 h2;simp[VH]
   rw[e];unfold neg;simp
  | succ k ih =>
   intro hk;have h1:=ih (by omega);have hx:=hb _ (Lc (show k<l.length by omega));rw[Le (show k<l.length by omega),←Qbg hx.1];have G:(l[k]'(by omega)).toNat<(VH n (l.take k)).length:=by rw[KT];omega
   have S:=KB (VH n (l.take k)) (l[k]'(by omega)).toNat 0 G (by
    have e:(((l[k]'(by omega)).toNat:Nat):Int)=l[k]'(by omega):=by omega
    have H:(l[k]'(by omega))∉l.take k:=λh=>by
     obtain ⟨j,I,he⟩:=LD h;rw[MR] at he;have J:j<k:=by simp at I;omega
     have:=(LM.1 E) j k (by omega) (by omega) J;exact this he
    simp[VH,e,H]) (Nc _)
   omega
 have:=key l.length (Lr _)
 rwa [MY] at this
theorem Qiq {a:QP}{lf:Lf}{n:Nat}(E:Zi a) (G:a.st=(n:Int)):DsI n (ds0 a lf):=by
 have hb:∀x∈a.mr.filter (lft lf),0≤x∧x<(n:Int):=λx hx=>by rw[←G];exact E.mr x (Mr.1 hx).1
 have e:a.st.toNat=n:=by omega
 rw[Qir (λx hx=>(E.mr x hx).1),e];refine ⟨QiE hb,Qf1 _ ((E.mri.imp (λh=>by omega)).filter _) hb,λx hx=>?_⟩;rw[QgW (hb x hx) hx];exact Nc _
def J6 (l:Lf):Nat:=l.countP (· == true)
theorem QgP (l:Lf):J6 l≤l.length:=List.countP_le_length
theorem Qba (l:Lf) (s:Int):(cut l s).length=l.length:=by simp[cut]
theorem Uq:∀(xs:LI) (l:Lf),(xs.foldl cut l).length=l.length
 | [],_=>rfl
 | x::xs,l=>by rw[LO,Uq xs,Qba]
theorem Qbb:∀(l:Lf) (i:Nat),J6 (l.set i false)+(if l.getD i false=true then 1 else 0)=J6 l
 | [],i=>by simp[J6]
 | b::l,0=>by cases b <;> simp[J6]
 | b::l,i+1=>by
  have ih:=Qbb l i;unfold J6 at *;simp only[List.set_cons_succ,List.countP_cons,List.getD_cons_succ];omega
theorem Qbc (l:Lf) (s:Int):J6 (cut l s)+(if lft l s=true then 1 else 0)=J6 l:=Qbb l s.toNat
theorem yM:∀(xs:LI) (l:Lf),J6 (xs.foldl cut l)≤J6 l
 | [],_=>Lr _
 | x::xs,l=>by
  have h1:=yM xs (cut l x);have h2:=Qbc l x;rw[LO];omega
theorem QeD {xs:LI}{l:Lf}(h:0<xs.length) (E:∀x∈xs,lft l x=true):J6 (xs.foldl cut l)<J6 l:=by
 cases xs with
 | nil=>simp at h
 | cons x xs =>
  have h1:=yM xs (cut l x);have h2:=Qbc l x;rw[if_pos (E x Ls)] at h2;rw[LO];omega
def Qe4 (a:QP) (lf:Lf) (out:List (Int×Int)):Prop:=∀p∈out,lft lf p.1=true∧∃e∈a.ed,e.1=p.1∧e.2.1=p.2
theorem Qf7 {a:QP}{ul:LI}{lf:Lf}{out:List (Int×Int)}{e:Ed}(h:Qe4 a lf out) (he:e∈a.ed):Qe4 a lf (Jp ul lf out e)∧(Jp ul lf out e).length≤out.length+1:=by
 unfold Jp;split
 ·exact ⟨h,by omega⟩
 rename_i hc;split
 ·exact ⟨h,by omega⟩
 refine ⟨λp hp=>?_,by simp⟩;simp only[List.mem_append,List.mem_singleton] at hp;rcases hp with hp | rfl
 ·exact h p hp
 exact ⟨by cases hl:lft lf e.1 with | true=>rfl | false=>exact absurd (.inl hl) hc,e,he,rfl,rfl⟩
theorem Ub {a:QP}{ul:LI}{lf:Lf}:∀(l:List Ed) (out:List (Int×Int)),(∀e∈l,e∈a.ed)→Qe4 a lf out→Qe4 a lf (l.foldl (Jp ul lf) out)∧(l.foldl (Jp ul lf) out).length≤out.length+l.length
 | [],out,_,h=>⟨h,by simp⟩
 | e::l,out,hl,h=>by
  obtain ⟨h1,h2⟩:=Qf7 (ul:=ul) h (hl e Ls);obtain ⟨h3,E⟩:=Ub l _ (λe he=>hl e (Lm _ he)) h1;exact ⟨h3,by rw[LO,LQ];omega⟩
theorem zm (a:QP) (ul:LI) (lf:Lf):Qe4 a lf (lost a ul lf)∧(lost a ul lf).length≤a.ed.length:=by
 have:=Ub (ul:=ul) (lf:=lf) a.ed [] (λ_ h=>h) (λp hp=>by cases hp);unfold lost;simpa using this
theorem KU (lf:Lf):∀(l:LI) (i:Nat),(∀x∈Ka lf i l,lft lf x=true∧(i:Int)≤x∧x<(i:Int)+l.length)∧(Ka lf i l).length≤l.length
 | [],i=>⟨λx hx=>(by cases hx),Lr _⟩
 | d::l,i=>by
  obtain ⟨h1,h2⟩:=KU lf l (i+1);unfold Ka;split
  ·rename_i hc;refine ⟨λx hx=>?_,by simp;omega⟩;rcases Lb.1 hx with rfl | hx
   ·exact ⟨by unfold lft;simpa using hc.1,Nc _,by simp;omega⟩
   have:=h1 x hx;exact ⟨this.1,by omega,by simp only[List.length_cons];omega⟩
  refine ⟨λx hx=>?_,by simp;omega⟩;have:=h1 x hx;exact ⟨this.1,by omega,by simp only[List.length_cons];omega⟩
theorem Qdz {a:QP}{ul:LI}{lf:Lf}(x:Int) (hx:x∈nxs a ul lf):lft lf x=true:=by
 unfold nxs at hx;split at hx
 ·obtain ⟨p,hp,rfl⟩:=Ly.1 hx;exact ((zm a ul lf).1 p hp).1
 exact ((KU lf (dsts a lf) 0).1 x hx).1
theorem QbF {a:QP}{ul:LI}{f:Nat}{lf:Lf}(h:(nxs a ul lf).length=0):UR a ul f lf=lf:=by
 cases f with
 | zero=>rfl
 | succ f=>rw[UR,if_pos h]
theorem QbE {a:QP}{ul:LI}{f:Nat}{lf:Lf}(h:(nxs a ul lf).length≠0):UR a ul (f+1) lf=UR a ul f ((nxs a ul lf).foldl cut lf):=by rw[UR,if_neg h]
theorem QdA {a:QP}{ul:LI}{lf:Lf}(h:(nxs a ul lf).length≠0):J6 ((nxs a ul lf).foldl cut lf)<J6 lf:=QeD (by omega) (λx hx=>Qdz x hx)
theorem qi {a:QP}(h:Zi a) (lf:Lf):Zi (rstr a lf) :=
 ⟨h.al,h.ali,h.st0,h.st1,h.mr,h.mri,λe he=>h.ed e (Mr.1 he).1,h.edi.filter _⟩
def fst (a:QP):Int:=if a.st=0 then -1 else 0
def QhI (s:Option (Int×Int×Int)):Int×Int×Int:=s.getD (0,0,0)
def cdA (c:Zv):QP:=qR (tgA c) [] (unc c.ev)
def ccA (c:Zv):QP:=syA [tgA c,cdA c]
def own (c:Zv) (k:Bool):QP:=if k=true then ccA c else tgA c
end Go.Proofs.YtdffckgdcegpaaaGreatDoor
namespace Go.Lg
section
variable {P:Program} {K:Fr→World→Prop} {f:Fr} {w:World} {d:Option Nat} {ty:Nat} {ps:String} {af:Array Edge} {gd:Option (Nat×Bool)}
theorem V6 {t:Nat}[h1:XS P t] {x y:Operand}{b T i:Nat}{l:List Bool}{u:Bool}(E:Q4 w.heap b T (l.map Value.bool)) (hx:ev f x=.pointer (some ⟨b,0+i*1,none⟩)) (hy:ev f y=.bool u) (hi:i<l.length)
  (G:∀w',Step [b] w w'→Q4 w'.heap b T ((l.set i u).map Value.bool)→K (QR f d undef) w'):XO P ⟨d,.store t x y,ty,ps,af,gd⟩ f w K:=by
 refine QL E hx hy (by simpa using hi) rfl λw' hs H=>G w' hs ?_;rw[List.map_set];simpa using H
theorem Xq {t:Nat}[XS P t] {x:Operand}{b T i:Nat}{l:List Bool}(h:Q4 w.heap b T (l.map Value.bool)) (hx:ev f x=.pointer (some ⟨b,0+i*1,none⟩)) (hi:i<l.length) :
  (execOp (ev f) ⟨d,.load t x,ty,ps,af,gd⟩).run P w=.ok (.value (.bool (l[i]'hi))) w:=Qd h hx (by simp[hi])
variable {ops:List Oper} {C:World→Prop} {pl:List (Nat×Bool)} {i:Nat}
theorem pqB {b:Bool}(E:∀w',C w'→(execOp (ev f) (Q3 ops i)).run P w'=.ok (.value (.bool b)) w') (H:b=true→XP P ops C K pl (QR f (Q3 ops i).dst (.bool true)) w) (I:b=false→XP P ops C K pl (QR f (Q3 ops i).dst (.bool false)) w)
  (hd:UL (Q3 ops i)=true:=by rfl) (G:Z8 ops f (Q3 ops i)=true:=by rfl):XP P ops C K ((i,true)::pl) f w:=by
 cases hb:b with
 | true=>rw[hb] at E;exact pq E (H hb) hd G
 | false=>rw[hb] at E;exact pq E (I hb) hd G
end
end Go.Lg
namespace Go.Proofs.YtdffckgdcegpaaaGreatDoor
open Go.Proofs.Tryz
open Go.Lg
def bA (n:Nat) (g:Nat→Bool):List Bool:=(List.range n).map g
theorem QiH (n:Nat) (g:Nat→Bool):(bA n g).length=n:=by simp[bA]
theorem QiG {n i:Nat}{g E:Nat→Bool}{u:Bool}(hu:u=E i) (h:∀j,j<n→j≠i→E j=g j):(bA n g).set i u=bA n E:=by
 apply Mk
 ·simp[bA]
 intro k h1 h2;rw[List.getElem_set];have hk:k<n:=by simpa[bA] using h2
 by_cases e:i=k
 ·rw[if_pos e,hu,e];simp[bA]
 rw[if_neg e];have:=h k hk (λG=>e G.symm);simp[bA,this]
theorem Qbh (n:Nat):(List.replicate n (Value.bool false).cells.toList).flatten=(bA n (λi=>decide (i<0))).map Value.bool:=by
 apply Mk
 ·simp[Value.cells,bA]
 intro i h1 h2;simp[Value.cells,bA]
theorem K9 {l:Lf}{s:Int}(h:s.toNat<l.length):l[s.toNat]'h=lft l s:=by unfold lft;simp[List.getD,h]
theorem Qf9 (n:Nat) (fb:LI):(lf0 n fb).length=n:=by unfold lf0;rw[Uq];simp
instance:Bw prog 324 [nS,.int .i64 0,nS,nS,nS,.map none,nS] [(0,4),(4,1),(5,1),(6,1)]:=⟨by kernel_rfl,by decide⟩
structure Pz where
 va:Value
 vm:Value
 ve:Value
 a:QP
 vu:Value
 unc:LI
 mb:Nat
 mm:List (Int×Value)
 bl:Nat
 n:Nat
 rv:Nat→Value
abbrev Pz.cells (p:Pz):LV:=[p.va,.int .i64 p.a.st,p.vm,p.ve,p.vu,.map (some p.mb),.slice (some ⟨p.bl,0,none⟩) p.n p.n]
structure zO (L:LN) (H:Array Obj) (bp:Nat) (p:Pz):Prop where
 B:Q4 H bp 324 p.cells
 bL:bp∉L
 a:Zu L H p.va p.vm p.ve p.a
 u:QK L H p.vu p.unc
 M:Z0 J4 H p.mb p.mm
 mL:p.mb∉L
 g:∀s,s<p.n→(match mget p.mm ((s:Nat):Int) with | some u=>u | none=>nS)=p.rv s
 R:∀s,s<p.n→QK L H (p.rv s) (Yg p.a.ed s)
theorem zO.ext {L:LN}{w w':World}{bp:Nat}{p:Pz}(h:zO L w.heap bp p) (hs:Step [] w w'):zO L w'.heap bp p:=⟨h.B.ext hs,h.bL,h.a.ext hs,h.u.ext hs,h.M.ext hs,h.mL,h.g,λs E=>(h.R s E).ext hs⟩
theorem zO.st {L:LN}{w w':World}{bp:Nat}{p:Pz}(h:zO L w.heap bp p) (hs:Step L w w'):zO L w'.heap bp p:=⟨h.B.step hs h.bL,h.bL,h.a.st hs,h.u.st hs,h.M.step hs h.mL,h.mL,h.g,λs E=>(h.R s E).st hs⟩
theorem zO.up {L L':LN}{H:Array Obj}{bp:Nat}{p:Pz}(h:zO L H bp p) (E:∀b∈L',b∈L∨H.size≤b):zO L' H bp p :=
 ⟨h.B,λhm=>by rcases E _ hm with h1 | h1;exact h.bL h1;have:=h.B.lt;omega,h.a.up E,h.u.up E,h.M,λhm=>by rcases E _ hm with h1 | h1;exact h.mL h1;have:=h.M.lt;omega,h.g,λs G=>(h.R s G).up E⟩
structure PzQ (p:Pz):Prop where
 ok:Zi p.a
 n:p.a.st=(p.n:Int)
set_option maxHeartbeats 4000000 in
theorem QcZ {w:World}{va vm ve vr vu:Value}{a:QP}{rm unc:LI}{n:Nat}(h:Zu [] w.heap va vm ve a) (hA:Zi a) (hn:a.st=(n:Int)) (hr:QK [] w.heap vr rm) (go:∀x∈rm,0≤x∧x<a.st) (hu:QK [] w.heap vu unc) :
  QI prog 213 [.agg #[va,.int .i64 a.st,vm,ve],vr,vu] w λr w'=>Step [] w w'∧∃bp p,r=.pointer (some ⟨bp,0,none⟩)∧p.a=a∧p.unc=unc∧p.n=n∧w.heap.size≤p.bl∧zO [p.bl] w'.heap bp p∧Q4 w'.heap p.bl 4 ((lf0 n rm).map Value.bool):=by
 have kp:=hA.st1;have gp:=hA.ed;have kq:=hA.ed_le;have kr:=hr.le;refine QI.of_W func213 O ntmps213 results213 (by simp) ?_;refine Qc<|xl O<|QQ (us:=[va,.int .i64 a.st,vm,ve]) O λb3 G Y kt hy=>Qe ?_;have ku:=hy.lt;have kv:=Y.size
 refine Q0 (α:=Nat×Nat×Nat) [(7,7),(13,20)] (λz=>[(7,.pointer (some ⟨z.1,0,none⟩))]) (λz w'=>Step [] G w'∧Q4 w'.heap z.1 324 [va,.int .i64 a.st,vm,ve,vu,.map (some z.2.1),.slice (some ⟨z.2.2,0,none⟩) n n] ∧
  Z0 J4 w'.heap z.2.1 []∧Q4 w'.heap z.2.2 4 ((bA n (λi=>decide (i<0))).map Value.bool)∧G.heap.size≤z.1∧G.heap.size≤z.2.1∧G.heap.size≤z.2.2∧z.1≠z.2.1∧z.1≠z.2.2∧z.2.1≠z.2.2) (by rfl) ?_ ?_
 ·have ha:Step [] G { G with drawn:=G.drawn+1 }:=Step.drew _ _
  refine Qg3 (Step [] G) [(0,true),(1,true),(3,true),(4,true)] 2 5 [(5,false),(6,true),(7,false),(8,true)] [(2,false),(6,true),(7,false),(8,true)] mixed (by rfl) (by kernel_rfl) (Step.drew _ _) ?_;refine pq (λ_ hc=>Qr (hy.ext hc) O O)<|p (λ_=>Qo)<|p (λ_=>Qa O)<|pq (λ_ hc=>Qd (hy.ext hc) O O)<|pe ⟨⟨O,?_⟩,O,?_⟩
  ·refine Yk J4 λbm w2 I hC hR=>⟨ha.trans I,?_⟩;refine pk<|K5 (n:=n) (congrArg (Value.int .i64) hn) (congrArg (Value.int .i64) hn) (by omega) λbl w3 J hD hB=>⟨(ha.trans I).trans J,?_⟩;rw[Qbh] at hB;refine p (λ_=>Z4 [(0,[va,.int .i64 a.st,vm,ve]),(1,[vu]),(2,[.map (some bm)]),(3,[.slice (some ⟨bl,0,none⟩) n n])] ⟨O,O,hu.cells,O,O,O,O,O,U⟩)<|pk <|
    QQ (us:=[va,.int .i64 a.st,vm,ve,vu,.map (some bm),.slice (some ⟨bl,0,none⟩) n n]) O λbp w4 E hE S=>⟨((ha.trans I).trans J).trans E,?_⟩
   refine p (λ_=>Qf)<|pe ?_;have gq:=hR.lt;have gr:=hB.lt;have gs:=I.size;have gt:=J.size;have gu:({ G with drawn:=G.drawn+1 }:World).heap.size=G.heap.size:=rfl
   exact ⟨(bp,bm,bl),Z,((ha.trans I).trans J).trans E,S,(hR.ext J).ext E,hB.ext E,by simp only[];omega,by simp only[];omega,by simp only[];omega,by simp only[];omega,by simp only[];omega,by simp only[];omega⟩
  refine K5 (n:=n) (congrArg (Value.int .i64) hn) (congrArg (Value.int .i64) hn) (by omega) λbl w2 I hD hB=>⟨ha.trans I,?_⟩;rw[Qbh] at hB;refine pk<|Yk J4 λbm w3 J hC hS=>⟨(ha.trans I).trans J,?_⟩;refine p (λ_=>Z4 [(0,[va,.int .i64 a.st,vm,ve]),(1,[vu]),(2,[.map (some bm)]),(3,[.slice (some ⟨bl,0,none⟩) n n])] ⟨O,O,hu.cells,O,O,O,O,O,U⟩)<|pk <|
   QQ (us:=[va,.int .i64 a.st,vm,ve,vu,.map (some bm),.slice (some ⟨bl,0,none⟩) n n]) O λbp w4 E hE S=>⟨((ha.trans I).trans J).trans E,?_⟩
  refine p (λ_=>Qf)<|pe ?_;have gq:=hS.lt;have gr:=hB.lt;have gs:=I.size;have gt:=J.size;have gu:({ G with drawn:=G.drawn+1 }:World).heap.size=G.heap.size:=rfl
  exact ⟨(bp,bm,bl),Z,((ha.trans I).trans J).trans E,S,hS.ext E,(hB.ext J).ext E,by simp only[];omega,by simp only[];omega,by simp only[];omega,by simp only[];omega,by simp only[];omega,by simp only[];omega⟩
 rintro ⟨bp,bm,bl⟩ g w4 ⟨E,S,hz,h0,hE,hC,hD,hT,hU,hF⟩;simp only[] at S hz h0 hE hC hD hT hU hF;have kw:=S.lt;have kx:=hz.lt;have ky:=h0.lt;have hG:=Y.trans E;have kz:=E.size;have hq:bp∉[bl]:=by simpa using hU
 have hH:bm∉[bl]:=by simpa using hF
 have h4:=h.ext hG;have k0:=hr.ext hG;refine Qg<|Qc<|Qb<|x (QC O)<|x (Qa O)<|x (Qd S O O)<|x (Qs (L:=[]) (h0.arr (by simp) (n:=n) (cap:=n) (sz:=1) (by simp[bA]) (by omega) (Lr _)) rfl)<|Qb<|xe ?_
 refine Qh<|QA (α:=Nat) [(8,8),(26,35)] (λz=>[(26,.int .i64 z)]) (λz w'=>z≤n∧Step [bl] w4 w'∧Q4 w'.heap bl 4 ((bA n (λi=>decide (i<z))).map Value.bool)) (λz=>n - z) (by rfl) 0 Z ⟨Lj _,Step.refl _ _,h0⟩ ?_;rintro k g w5 ⟨hk,hh,hI⟩;refine Qc<|x (QB O O)<|xe<|Qg<|QH O (λhJ=>?_) (λhJ=>?_)
 ·refine Qy ?_;have k4:k=n:=by have gv:¬(k:Int)<(n:Int):=hJ;omega
  have gw:bA n (λi=>decide (i<k))=(rm.take 0).foldl cut (List.replicate n true):=by
   apply Mk
   ·simp[bA]
   intro i h1 h2;have:i<n:=by simpa[bA] using h1
   simp[bA];omega
  rw[gw] at hI;have k5:∀b∈[bl],b<G.heap.size→b∈([]:LN):=λb hb V=>by simp only[List.mem_singleton] at hb;omega
  have hV:QK [bl] G.heap vr rm:=(hr.ext Y).up (λb hb=>.inr (by simp only[List.mem_singleton] at hb;omega));have k6:QK [bl] G.heap vu unc:=(hu.ext Y).up (λb hb=>.inr (by simp only[List.mem_singleton] at hb;omega));have gx:Zu [bl] G.heap va vm ve a:=(h.ext Y).up (λb hb=>.inr (by simp only[List.mem_singleton] at hb;omega));have hW:=S.step hh hq;have k7:=hz.step hh hH
  refine Qg<|Qc<|Qb<|x (Qs ((hV.ext E).st hh) O)<|Qb<|xe<|Qh<|QA (α:=Nat) [(10,10),(38,48)] (λz=>[(38,.int .i64 z)]) (λz w'=>z≤rm.length∧Step [bl] w4 w'∧Q4 w'.heap bl 4 (((rm.take z).foldl cut (List.replicate n true)).map Value.bool)) (λz=>rm.length - z) (by rfl) 0 Z ⟨Lj _,hh,hI⟩ ?_;rintro j g w6 ⟨hj,H,hf⟩;refine Qc<|x (QB O O)<|xe ?_
  refine Qg<|QH O (λhK=>?_) (λhK=>?_)
  ·refine Qy ?_;have gy:rm.length≤j:=by have h3:¬(j:Int)<(rm.length:Int):=hK;omega
   rw[Ll gy] at hf;have hX:=S.step H hq;have gz:=hz.step H hH;have k8:=hf.lt;refine Qg<|Qc<|x (Qa O)<|x (Qd ((hy.ext E).step H (by simp only[List.mem_singleton];omega)) O O)<|x (Qs ((gx.ext E).st H).ed O)<|Qb<|xe ?_;have k9:=H.size
   refine Qh<|QA (α:=Nat×(Nat→Value)×List (Int×Value)) [(12,12),(52,73)] (λz=>[(52,.int .i64 z.1)]) (λz w'=>z.1≤a.ed.length∧Step [bm] w6 w'∧Z0 J4 w'.heap bm z.2.2∧JU w6.heap.size w' n z.2.1 (Yg (a.ed.take z.1))∧∀s,s<n→(match mget z.2.2 ((s:Nat):Int) with | some u=>u | none=>nS)=z.2.1 s) (λz=>a.ed.length - z.1) (by rfl) (0,λ_=>nS,[]) ⟨rfl,U⟩
    ⟨Lj _,Step.refl _ _,gz,⟨λi _=>QM _ _ _ _,λi j _ _ _=>Dj.nil _⟩,λs _=>O⟩ ?_
   rintro ⟨i,rv,m⟩ g w7 ⟨hi,T,hL,hg,h5⟩;simp only[] at hi hL hg h5;have ma:=T.size;have hY:bp∉[bm]:=by simpa using hT
   have g0:bl∉[bm]:=by simpa using Ne.symm hF
   refine Qc<|x (QB O O)<|xe<|Qg<|QH O (λhM=>?_) (λhM=>?_)
   ·refine Qy ?_;have g2:a.ed.length≤i:=by have h6:¬(i:Int)<(a.ed.length:Int):=hM;omega
    rw[Ll g2] at hg;refine Qc<|Qb<|Qe ?_;have mc:∀b,b<w4.heap.size→b<w6.heap.size:=λb hb=>by omega
    refine Qm ⟨[_],Z,(hG.then1 H (by omega)).then1 T (by omega),bp,⟨va,vm,ve,a,vu,unc,bm,m,bl,n,rv⟩,O,O,O,O,by simp only[];omega,⟨hX.step T hY,hq,?_,?_,hL,hH,h5,λs hs=>QS (hg.own s hs) (LS (Vc a.ed s) (by omega)) (λb hb hm=>?_)⟩,hf.step T g0⟩
    ·have h9:Zu [bl,bm] w7.heap va vm ve a:=((((h.ext Y).up (L':=[bl,bm]) (λb hb=>.inr (by simp only[List.mem_cons,List.not_mem_nil,or_false] at hb;omega))).ext E).st (H.mono (by simp))).st (T.mono (by simp));exact h9.up (by simp)
    ·have h9:QK [bl,bm] w7.heap vu unc:=((((hu.ext Y).up (L':=[bl,bm]) (λb hb=>.inr (by simp only[List.mem_cons,List.not_mem_nil,or_false] at hb;omega))).ext E).st (H.mono (by simp))).st (T.mono (by simp));exact h9.up (by simp)
    have:=(Qn (hg.own s hs) b hb).1;simp only[List.mem_singleton] at hm;omega
   refine Qi ?_;have V:i<a.ed.length:=by have h6:(i:Int)<(a.ed.length:Int):=hM;omega
   have ht:a.ed.take (i+1)=a.ed.take i++[a.ed[i]'V]:=Le V;have hZ:=gp _ (Lc V);refine Zh (a.ed[i]'V) λe he=>?_;rw[he] at ht hZ;have ga:e.2.2=(e.2.2.toNat:Int):=by omega
   have hv:e.2.2.toNat<n:=by omega
   have g3:=Vc (a.ed.take i) e.2.2.toNat;rw[Lx] at g3;have hN:=jQ (a.ed.take i) e hZ.2.2.2.1;have g4:UJ [bl,bm] w7.heap ve a.ed:=((((h.ed.ext Y).up (L':=[bl,bm]) (λb hb=>.inr (by simp only[List.mem_cons,List.not_mem_nil,or_false] at hb;omega))).ext E).st (H.mono (by simp))).st (T.mono (by simp));refine Qg<|Qh<|Qc<|xie g4 O O V λmf h6=>?_;rw[he] at h6
   refine x (QF h6 O O)<|xl O<|Qt (us:=[.int .i64 0,.int .i64 0,.int .i64 0]) O λg5 w8 g6 g7 g8=>xl O<|Qp (us:=Qw e) g8 O O O O ⟨O,O,O,U⟩ λw9 g9 hO=>xe ?_;have hw:Step [] w7 w9:=g6.then1 g9 g7;have mg:=hw.size;have gb:=hg.ext hw;have ka:=gb.own _ hv
   have h7:∀b∈ob (rv e.2.2.toNat),w6.heap.size≤b∧b<w7.heap.size:=λb hb=>⟨(Qn (hg.own _ hv) b hb).1,QO (hg.own _ hv) b hb⟩;have gc:bp∉ob (rv e.2.2.toNat):=λhb=>by have:=h7 _ hb;omega
   have ge:bm∉ob (rv e.2.2.toNat):=λhb=>by have:=h7 _ hb;omega
   have hP:g5∉ob (rv e.2.2.toNat):=λhb=>by have:=h7 _ hb;omega
   have gg:=((hX.step T hY).ext hw);have gh:=hL.ext hw;have gi:=h5 e.2.2.toNat hv;rw[←ga] at gi;refine QW (Step (ob (rv e.2.2.toNat)) w9) [(0,true),(1,true),(2,true),(3,true),(4,true),(5,true),(6,true),(7,true),(8,true),(9,true),(10,true),(11,true),(12,true),(13,true),(14,true),(15,false),(16,false),(17,false)] mixed (by rfl) (by kernel_rfl) (Step.drew _ _) ?_
   refine p (λ_=>Qo)<|p (λ_=>QC O)<|p (λ_=>Qa O)<|pq (λ_ hc=>Qd (gg.step hc gc) O O) <|
    p (λ_=>Qa O)<|pq (λ_ hc=>Qd (hO.step hc hP) O O)<|p (λ_=>Qo)<|p (λ_=>QC O)<|p (λ_=>Qa O) <|
    pq (λ_ hc=>Qd (gg.step hc gc) O O)<|p (λ_=>Qa O)<|pq (λ_ hc=>Qd (hO.step hc hP) O O) <|
    pq (λ_ hc=>(XD (k:=e.2.2) (gh.step hc ge) O O).trans (congrArg (λv=>Result.ok (Next.value v) _) gi))<|p (λ_=>Qa O)<|pq (λ_ hc=>Qd (hO.step hc hP) O O) <|
    pk<|QD (us:=[[.int .i64 e.1]]) O O (by decide) (by simp) ⟨rfl,rfl,U⟩ λmh kb gj mi kc=>⟨(Step.drew _ _).trans gj,?_⟩
   have ho:Step [] w9 kb:=(Step.drew _ _).trans gj;have mj:=ho.size;refine pk<|Q6 (m:=1) (news:=[.int .i64 e.1]) (Qq ka ho) O O O (kc.at (L:=[]) (by simp)) (by simp[Value.oneCell']) (by omega) (by omega) λhQ mn ke h8 kf=>⟨ho.any.trans' h8,?_⟩;have kg:=(gh.ext ho).step h8 ge;refine pkl (hl:=by kernel_rfl)<|Y3 (k:=e.2.2) kg O O λmo gk kh=>pe ?_
   have ki:∀b∈ob hQ,b∈ob (rv e.2.2.toNat)∨w9.heap.size≤b:=λb hb=>(kf b hb).imp id (λh=>by omega);have gl:=gb.app hv (Qu.snoc ke) (ho.any.trans' h8) ki;have gm:=gl.step gk (λi hi b hb=>by have:=(Qn (gl.own i hi) b hb).1;simp only[List.mem_singleton];omega)
   have kj:JZ (Yg (a.ed.take i)) e.2.2.toNat (Yg (a.ed.take i) e.2.2.toNat++[e.1])=Yg (a.ed.take (i+1)):=by rw[ht];exact funext hN
   rw[kj] at gm;refine Qz<|QN O O<|Qb<|xe<|⟨(i+1,JZ rv e.2.2.toNat hQ,mput m e.2.2 hQ),by simp only[];omega,Z,V,?_,kh,gm,λs hs=>?_⟩
   ·exact (((T.trans hw).trans ho).then h8 (λb hb=>.inr (h7 b hb).1)).trans' gk
   simp only[];rw[XK];by_cases gn:s=e.2.2.toNat
   ·subst gn;rw[if_pos ga,ZQ]
   rw[if_neg (by omega),Z9 _ _ gn];exact h5 s hs
  refine Qi ?_;have hp:j<rm.length:=by have h3:(j:Int)<(rm.length:Int):=hK;omega
  have kk:=go _ (Lc hp);have ht:rm.take (j+1)=rm.take j++[rm[j]'hp]:=Le hp;refine Zh (rm[j]'hp) λs hs=>?_;rw[hs] at kk ht;have hN:s=(s.toNat:Int):=by omega
  have mq:((rm.take j).foldl cut (List.replicate n true)).length=n:=by rw[Uq];simp
  refine Qg<|Qh<|Qc<|xii (i:=j) ((hV.ext E).st H) O O hp λmu h3=>?_;rw[hs] at h3;refine x (Qv h3 O)<|Qe<|Qz<|Qb<|x (QC O)<|x (Qa O)<|x (Qd (S.step H hq) O O)<|Qb<|x (Zf (i:=s.toNat) O (congrArg (Value.int .i64) hN) (by omega)) <|
   xl rfl<|V6 (i:=s.toNat) hf O O (by omega) λw7 T kn=>xe ?_
  refine Qz<|QN O O<|Qb<|xe<|⟨j+1,by omega,Z,hp,H.trans' T,?_⟩;rw[ht,Md];exact kn
 refine Qi ?_;have V:k<n:=by have gv:(k:Int)<(n:Int):=hJ;omega
 have hW:=S.step hh hq;refine Qg<|Qh<|Qc<|Qb<|Qe<|Qz<|Qb<|x (QC O)<|x (Qa O)<|x (Qd hW O O)<|Qb<|x (Zf (i:=k) O O (by omega)) <|
  xl rfl<|V6 (i:=k) hI O O (by rw[QiH];exact V) λw6 H hf=>xe ?_
 have ko:(bA n (λi=>decide (i<k))).set k true=bA n (λi=>decide (i<k+1)):=QiG (by simp) (λi _ hi=>by
  by_cases e:i<k
  ·simp[e];omega
  simp[e];omega)
 rw[ko] at hf;refine Qz<|QN O O<|Qb<|xe ?_;exact ⟨k+1,by omega,Z,V,hh.trans' H,hf⟩
theorem Ux {l r:LI}{i:Nat}(h:i<l.length):cget (l++r) i=cget l i:=by
 unfold cget;simp[List.getD,List.getElem?_append_left h]
set_option maxHeartbeats 4000000 in
theorem KO {w:World}{bp:Nat}{q:Pz}{lf:Lf}(hA:zO [] w.heap bp q) (hq:PzQ q) (hB:Q4 w.heap q.bl 4 (lf.map Value.bool)) (hl:lf.length=q.n) :
  QI prog 217 [.pointer (some ⟨bp,0,none⟩)] w λr w'=>Step [] w w'∧∃b,r=.slice (some ⟨b,0,none⟩) q.n q.n∧w.heap.size≤b∧Q4 w'.heap b 3 ((dsts q.a lf).map (Value.int .i64))∧(dsts q.a lf).length=q.n:=by
 have hn:=hq.n;have kp:=hq.ok.st1;have gb:=hq.ok.mr;have kq:=hq.ok.mr_le;have kr:=hq.ok.ed_le;have hL:q.a.st.toNat=q.n:=by omega
 have gs:=Qiq (lf:=lf) hq.ok hn;have gc:(dsL q.a.ed lf q.n 0 (ds0 q.a lf)).1=dsts q.a lf:=by unfold dsts;rw[hL]
 refine Zh (dsts q.a lf) λDD gt=>?_;rw[gt] at gc ⊢;refine QI.of_W func217 O ntmps217 results217 (by simp) ?_;refine Qc<|Qe<|Qc<|Qb<|x (QC O)<|x (Qa O)<|x (Qa O)<|x (Qd hA.B O O)<|xl O<|K5 (n:=q.n) (congrArg (Value.int .i64) hn) (congrArg (Value.int .i64) hn) (by omega) λbO w1 ge h9 hM=>Qe ?_;rw[Qb0] at hM
 refine Qg<|Qc<|Qb<|x (Qs (L:=[]) (hM.arr (by simp) (n:=q.n) (cap:=q.n) (sz:=1) (by simp[gA]) (by omega) (Lr _)) rfl)<|Qb<|xe<|Qh<|QA (α:=Nat) [(4,4),(19,25)] (λz=>[(19,.int .i64 z)]) (λz w'=>z≤q.n∧Step [] w w'∧Q4 w'.heap bO 3 ((gA q.n (λj=>if j<z then -1 else 0)).map (Value.int .i64))) (λz=>q.n - z) (by rfl) 0 Z ⟨Lj _,ge,hM⟩ ?_
 rintro j g G ⟨hj,hh,hw⟩;refine Qc<|x (QB O O)<|xe<|Qg<|QH O (λhN=>?_) (λhN=>?_)
 ·refine Qy ?_;have hO:j=q.n:=by have gu:¬(j:Int)<(q.n:Int):=hN;omega
  have gv:gA q.n (λi=>if i<j then -1 else 0)=((q.a.mr.take 0).foldl (zM lf) (List.replicate q.n (-1),[])).1:=by
   apply Mk
   ·simp[gA]
   intro i h1 h2;have:i<q.n:=by simpa[gA] using h1
   simp[gA];omega
  rw[gv] at hw;refine Qc<|Qe<|Qg<|Qc<|Qb<|x (QC O)<|x (Qa O)<|x (Qa O)<|x (Qd (hA.ext hh).B O O)<|x (Qs (hA.ext hh).a.mr O)<|Qb<|xe<|Qh<|QA (α:=Nat×Value) [(5,5),(7,7),(32,50)] (λz=>[(5,z.2),(32,.int .i64 z.1)]) (λz w'=>z.1≤q.a.mr.length∧Step [] w w'∧G.heap.size≤w'.heap.size∧Q4 w'.heap bO 3 (((q.a.mr.take z.1).foldl (zM lf) (List.replicate q.n (-1),[])).1.map (Value.int .i64)) ∧
   Qu 3 G.heap.size w' z.2 ((q.a.mr.take z.1).foldl (zM lf) (List.replicate q.n (-1),[])).2) (λz=>q.a.mr.length - z.1) (by rfl) (0,nS) ⟨O,O,U⟩ ⟨Lj _,hh,Lr _,hw,QM _ _ _ _⟩ ?_
  rintro ⟨k,vl⟩ g w3 ⟨hk,h0,gg,Y,ha⟩;simp only[] at hk Y ha;have gh:=yK (lf:=lf) (λx hx=>(gb x hx).1) k;rw[hL] at gh;have kt:=Y.lt;refine Qc<|x (QB O O)<|xe<|Qg<|QH O (λhP=>?_) (λhP=>?_)
  ·refine Qy ?_;have gw:q.a.mr.length≤k:=by have hC:¬(k:Int)<(q.a.mr.length:Int):=hP;omega
   have e0:(q.a.mr.take k).foldl (zM lf) (List.replicate q.n (-1),[])=ds0 q.a lf:=by rw[Ll gw];unfold ds0;rw[hL]
   rw[e0] at Y ha;have gx:bO<G.heap.size:=hw.lt;refine Qg<|Qc<|Qe<|Qh<|QA (α:=Nat×Nat×Value×LI×LI) [(5,5),(8,8),(10,10),(51,100)] (λz=>[(5,z.2.2.1),(8,.int .i64 z.2.1)])
    (λz w'=>Step [] w w'∧G.heap.size≤w'.heap.size∧Q4 w'.heap bO 3 (z.2.2.2.1.map (Value.int .i64))∧Qu 3 G.heap.size w' z.2.2.1 z.2.2.2.2∧DsI q.n z.2.2.2∧z.1+z.2.1=q.n∧(dsL q.a.ed lf z.1 z.2.1 z.2.2.2).1=DD) (λz=>q.n - z.2.1) (by rfl) (q.n,0,vl,(ds0 q.a lf).1,(ds0 q.a lf).2) ⟨O,O,U⟩
    ⟨h0,gg,Y,ha,gs,O,gc⟩ ?_
   rintro ⟨f,i,vl,o,l⟩ g w4 ⟨hf,hQ,h3,J,ho,gy,S⟩;simp only[] at hQ h3 J ho gy S;have gz:=ho.le;have gi:=ho.ok.len;simp only[] at gz gi;have hD:=hA.ext hf;refine Qg<|Qc<|Qb<|Qb<|x (Qs (L:=[]) (QS J (by omega) (by simp)) rfl)<|x (QB rfl rfl)<|xe<|QH O (λhR=>?_) (λhR=>?_)
   ·refine Qy ?_;have g0:¬i<l.length:=by have g2:¬(i:Int)<(l.length:Int):=hR;omega
    rw[Qez g0] at S;simp only[] at S;subst S;refine Qc<|Qb<|Qe ?_;exact Qm ⟨[.slice (some ⟨bO,0,none⟩) q.n q.n],Z,hf,bO,O,h9,h3,gi⟩
   refine Qi ?_;have hp:i<l.length:=by have g2:(i:Int)<(l.length:Int):=hR;omega
   refine Exists.elim (Nat.exists_eq_succ_of_ne_zero (show f≠0 by omega)) λf' g3=>?_;subst g3;rw[dsL,if_pos hp] at S;have gj:=Zn hp;have hsr:=ho.ok.q _ (Jv hp);have hS:=ho.s0 _ (Jv hp);refine Zh (cget l i) λs hs=>?_;rw[hs] at S hsr gj;simp only[] at hsr hS;rw[hs] at hS;have gk:s=(s.toNat:Int):=by omega
   have gl:=hD.g s.toNat (by omega);rw[←gk] at gl;have g4:=hD.R s.toNat (by omega);have ku:=Vc q.a.ed s.toNat;refine Qg<|Qh<|Qg<|QW (Step [] w4) [(0,true),(1,true),(2,true),(3,true),(4,true),(5,true),(6,true),(7,true),(8,true),(9,true),(10,true)] mixed (by rfl) (by kernel_rfl) (Step.drew _ _) ?_
   refine p (λ_=>Qo)<|p (λ_=>QC O)<|p (λ_=>Qa O)<|pq (λ_ hc=>Qd (hD.B.ext hc) O O)<|p (λ_=>Qo)<|p (λ_=>Qo) <|
    pii (i:=i) O (QS (L:=[]) J (by omega) (by simp)) rfl rfl hp λkv gm=>?_
   rw[gj] at gm;refine pq (λ_ hc=>Qv (gm.ext hc) O)<|pq (λ_ hc=>(XD (k:=s) (hD.M.ext hc) O O).trans (congrArg (λv=>Result.ok (Next.value v) _) gl))<|p (λ_=>Qs g4 O)<|p (λ_=>Qo)<|pe ?_;have hF:Step [] w4 { w4 with drawn:=w4.drawn+1 }:=Step.drew _ _
   refine Qh<|QA (α:=Nat×Value×LI×LI) [(5,5),(10,10),(67,100)] (λz=>[(5,z.2.1),(67,.int .i64 z.1)])
    (λz w'=>z.1≤(Yg q.a.ed s.toNat).length∧Step [] w w'∧G.heap.size≤w'.heap.size∧Q4 w'.heap bO 3 (z.2.2.1.map (Value.int .i64))∧Qu 3 G.heap.size w' z.2.1 z.2.2.2∧DsI q.n z.2.2∧0≤cget z.2.2.1 s.toNat∧i<z.2.2.2.length∧cget z.2.2.2 i=s ∧
     ((Yg q.a.ed s.toNat).drop z.1).foldl (jX lf s) z.2.2=(Yg q.a.ed s.toNat).foldl (jX lf s) (o,l)) (λz=>(Yg q.a.ed s.toNat).length - z.1) (by rfl) (0,vl,o,l) ⟨O,O,U⟩
    ⟨Lj _,hf.trans hF,LS hQ hF.size,h3.ext hF,Qq J hF,ho,hS,hp,hs,O⟩ ?_
   rintro ⟨m,hG,o2,l2⟩ g w5 ⟨hm,E,hH,hr,ht,hg,hT,h4,hI,H⟩;simp only[] at hm hH hr ht hg hT h4 hI H;have gn:=hA.ext E;have g5:=hg.le;have g6:=hg.ok.len;simp only[] at g5 g6;refine Qc<|x (QB O O)<|xe<|Qg<|QH O (λhU=>?_) (λhU=>?_)
   ·refine Qy ?_;have g7:(Yg q.a.ed s.toNat).length≤m:=by have hJ:¬(m:Int)<((Yg q.a.ed s.toNat).length:Int):=hU;omega
    rw[Lp g7] at H;simp only[List.foldl_nil] at H;rw[←H] at S;refine Qz<|Qb<|QN O O<|Qe ?_;exact ⟨(f',i+1,hG,o2,l2),by simp only[];omega,⟨O,O,U⟩,E,hH,hr,ht,hg,by simp only[];omega,S⟩
   refine Qi ?_;have hu:m<(Yg q.a.ed s.toNat).length:=by have hJ:(m:Int)<((Yg q.a.ed s.toNat).length:Int):=hU;omega
   have go:=Qb1 (Lc hu);have g8:=QZ hu;rw[g8,LO] at H;refine Zh ((Yg q.a.ed s.toNat)[m]'hu) λy hy=>?_;rw[hy] at go H;have g9:0≤y∧y<(q.n:Int):=by
    obtain ⟨e,he,h1,_⟩:=go;have:=hq.ok.ed e he;omega
   have hv:y=(y.toNat:Int):=by omega
   have h5:y.toNat<o2.length:=by omega
   have hV:s.toNat<o2.length:=by omega
   have ka:=hg.ok.le _ (Jv hV);simp only[] at ka;have hE:=QeA (lf:=lf) hg hsr hT g9;have hW:=K9 (l:=lf) (s:=y) (by omega);have kw:=QdC o2;refine Qg<|Qh<|Qc<|xii (i:=m) ((gn.R s.toNat (by omega))) O O hu λkx hJ=>?_;rw[hy] at hJ;refine x (Qv hJ O)<|Qe<|Q0 (α:=Bool) [(71,84)] (λz=>[(84,.bool z)]) (λz w'=>w'=w5∧z=(lft lf y && decide (cget o2 y.toNat<0))) (by rfl) ?_ ?_
   ·refine Qz ?_;have ky:∀{P:Prop},(∀b,lft lf y=b→P)→P:=λh=>h _ O;refine Qb<|x (QC O)<|x (Qa O)<|x (Qd gn.B O O)<|Qb<|x (Zf (i:=y.toNat) O (congrArg (Value.int .i64) hv) (by omega))<|x (Xq (i:=y.toNat) (hB.ext E) O (by omega))<|?_;rw[hW];cases lft lf y with
    | true =>
     refine Qb<|Qb<|Qb<|x (Zf (i:=y.toNat) O (congrArg (Value.int .i64) hv) (by omega))<|x (VM (i:=y.toNat) hr O h5)<|x (QB O O)<|x (Qj O)<|xe ?_;exact ⟨_,Z,O,by rw[Zn h5];rfl⟩
    | false =>
     refine Qb<|xs O<|xs O<|xs O<|xs O<|xs O<|x (Qj O)<|xe ?_;exact ⟨_,Z,O,O⟩
   rintro z g kz ⟨rfl,rfl⟩;refine Q2 O (λh6=>?_) (λh6=>?_)
   ·rw[Lu,decide_eq_true_eq] at h6;have hX:jX lf s (o2,l2) y=(o2.set y.toNat (cget o2 s.toNat+1),l2++[y]):=by unfold jX;rw[if_pos h6]
    rw[hX] at H hE;have kb:=Zn hV;have gp:=Zn h4;rw[hI] at gp;refine Qc<|Qb<|Qb<|Qb<|Qb<|Qb<|xii (i:=i) (QS (L:=[]) ht (by omega) (by simp)) rfl rfl h4 λk0 gq=>?_;rw[gp] at gq;refine x (Qv gq O)<|x (Zf (i:=s.toNat) O (congrArg (Value.int .i64) gk) (by omega))<|x (VM (i:=s.toNat) hr O hV)<|x (Yv O O ⟨by omega,by omega⟩) <|
     x (Zf (i:=y.toNat) O (congrArg (Value.int .i64) hv) (by omega))<|xl O<|XG (i:=y.toNat) hr O O h5 λw6 I hK=>xe ?_
    rw[kb] at hK;have kc:=I.size;have ke:∀b∈ob hG,b∉[bO]:=λb hb=>by have:=Qn ht b hb;simp only[List.mem_singleton];omega
    have h7:Qu 3 G.heap.size w6 hG l2:=Qk ht I ke;have kf:Step [] w w6:=E.then1 I h9;refine Qz<|Qb<|Qb<|xl O<|QD (us:=[[.int .i64 y]]) O O (by decide) (by simp) ⟨rfl,rfl,U⟩ λk4 w7 h8 k5 kg=>xl rfl<|Q6 (m:=1) (news:=[.int .i64 y]) (Qq h7 h8) rfl rfl rfl (kg.at (L:=[]) (by simp)) (by simp[Value.oneCell']) (by omega) (by have:=h8.size;omega) λhY w8 kh hZ k6 =>
     Qe ?_
    have k7:=h8.size;have k8:=hZ.size;refine Qz<|QN O O<|Qb<|xe<|⟨(m+1,hY,_,l2++[y]),by simp only[];omega,⟨O,O,U⟩,hu,(kf.trans h8).then hZ (λb hb=>.inr (by have:=Qn h7 b hb;have:=ge.size;have:=hh.size;omega)),by omega,(hK.ext h8).step hZ (λhb=>by have:=Qn h7 _ hb;omega),Qu.snoc kh,hE.1,hE.2,by simp only[List.length_append];omega,by rw[Ux h4];exact hI,H⟩
   have hX:jX lf s (o2,l2) y=(o2,l2):=by
    unfold jX;rw[if_neg];intro hc;rw[hc.1,decide_eq_true hc.2] at h6;cases h6
   rw[hX] at H;refine Qi<|Qz<|QN O O<|Qb<|xe ?_;exact ⟨(m+1,hG,o2,l2),by simp only[];omega,⟨O,O,U⟩,hu,E,hH,hr,ht,hg,hT,h4,hI,H⟩
  refine Qi ?_;have T:k<q.a.mr.length:=by have hC:(k:Int)<(q.a.mr.length:Int):=hP;omega
  have ki:=gb _ (Lc T);have kj:q.a.mr.take (k+1)=q.a.mr.take k++[q.a.mr[k]'T]:=Le T;have V:(q.a.mr.take (k+1)).foldl (zM lf) (List.replicate q.n (-1),[])=zM lf ((q.a.mr.take k).foldl (zM lf) (List.replicate q.n (-1),[])) (q.a.mr[k]'T):=by rw[kj,Md];rfl
  have kk:((q.a.mr.take k).foldl (zM lf) (List.replicate q.n (-1),[])).1.length=q.n∧((q.a.mr.take k).foldl (zM lf) (List.replicate q.n (-1),[])).2.length≤q.a.mr.length:=by
   rw[gh];exact ⟨KT _ _,LS (ME _ _) (by rw[Lx];omega)⟩
  refine Zh ((q.a.mr.take k).foldl (zM lf) (List.replicate q.n (-1),[])) λz hz=>?_;rw[hz] at Y ha V kk;refine Zh (q.a.mr[k]'T) λy hy=>?_;rw[hy] at ki V;have hv:y=(y.toNat:Int):=by omega
  have h5:y.toNat<z.1.length:=by omega
  have hW:=K9 (l:=lf) (s:=y) (by omega);have gr:=hA.ext h0;refine Qg<|Qh<|Qc<|xii (i:=k) gr.a.mr O O T λk9 hC=>?_;rw[hy] at hC;refine x (Qv hC O)<|Qe<|Qc<|Qb<|x (QC O)<|x (Qa O)<|x (Qd gr.B O O)<|Qb<|x (Zf (i:=y.toNat) O (congrArg (Value.int .i64) hv) (by omega))<|x (Xq (i:=y.toNat) (hB.ext h0) O (by omega))<|xe ?_;rw[hW];refine Q2 O (λga=>?_) (λga=>?_)
  ·have e1:zM lf z y=(z.1.set y.toNat 0,z.2++[y]):=by unfold zM;rw[if_pos ga]
   rw[e1] at V;refine Qc<|Qb<|Qb<|x (Zf (i:=y.toNat) O (congrArg (Value.int .i64) hv) (by omega))<|xl O<|XG (i:=y.toNat) Y O O h5 λw4 hf h3=>xe ?_;have hQ:=hf.size;have gx:bO<G.heap.size:=hw.lt;have J:Qu 3 G.heap.size w4 vl z.2:=Qk ha hf (λb hb=>by have:=Qn ha b hb;simp only[List.mem_singleton];omega)
   refine Qz<|Qb<|Qb<|xl O<|QD (us:=[[.int .i64 y]]) O O (by decide) (by simp) ⟨rfl,rfl,U⟩ λma w5 E mc kn=>xl rfl<|Q6 (m:=1) (news:=[.int .i64 y]) (Qq J E) rfl rfl rfl (kn.at (L:=[]) (by simp)) (by simp[Value.oneCell']) (by omega) (by have:=E.size;omega) λhY w6 h7 I mf =>
    Qe ?_
   have hH:=E.size;have kc:=I.size;refine Qz<|QN O O<|Qb<|xe<|⟨(k+1,hY),by simp only[];omega,⟨O,O,U⟩,T,((h0.then1 hf h9).trans E).then I (λb hb=>.inr (by have:=Qn J b hb;have:=hh.size;omega)),by omega,?_,?_⟩
   ·simp only[];rw[V];exact (h3.ext E).step I (λhb=>by have:=Qn J _ hb;omega)
   simp only[];rw[V];exact Qu.snoc h7
  have e1:zM lf z y=z:=by unfold zM;rw[if_neg (by rw[ga];decide)]
  rw[e1] at V;refine Qi<|Qz<|QN O O<|Qb<|xe ?_;exact ⟨(k+1,vl),by simp only[];omega,⟨O,O,U⟩,T,h0,gg,by simp only[];rw[V];exact Y,by simp only[];rw[V];exact ha⟩
 refine Qi ?_;have hO:j<q.n:=by have gu:(j:Int)<(q.n:Int):=hN;omega
 refine Qg<|Qh<|Qc<|Qb<|Qe<|Qz ?_;have ko:(gA q.n (λi=>if i<j then -1 else 0)).set j (-1)=gA q.n (λi=>if i<j+1 then -1 else 0):=Qic (by rw[if_pos (by omega)]) (λi _ hi=>by
  by_cases e:i<j
  ·rw[if_pos e,if_pos (by omega)]
  rw[if_neg e,if_neg (by omega)])
 refine Qb<|Qb<|x (Zf (i:=j) O O (by omega))<|xl O<|Qdv (i:=j) hw O O hO ko λw6 I hK=>xe ?_;refine Qz<|QN O O<|Qb<|xe ?_;exact ⟨j+1,by omega,Z,hO,hh.then1 I h9,hK⟩
abbrev yb (rk rs:Int) (x:Int×Int):LV:=[.int .i64 x.1,.int .i64 rk,.int .i64 rs,.int .i64 x.2]
theorem Qat (rk rs:Int) (x:Int×Int):(yb rk rs x).length=4:=rfl
abbrev RmO (base:Nat) (w:World) (v:Value) (rk rs:Int) (l:List (Int×Int)):Prop:=w.ownsRow base 320 4 v l.length (l.flatMap (yb rk rs))
theorem RmO.snoc {base:Nat}{w:World}{v:Value}{rk rs:Int}{l:List (Int×Int)}{x:Int×Int}(h:w.ownsRow base 320 4 v (l.length+1) (l.flatMap (yb rk rs)++yb rk rs x)):RmO base w v rk rs (l++[x]):=by
 unfold RmO;rw[Lk,LA];simpa using h
theorem QdJ {a:QP}{ul:LI}{lf:Lf}{k:Nat}(h:k<a.ed.length):(a.ed.take (k+1)).foldl (Jp ul lf) []=Jp ul lf ((a.ed.take k).foldl (Jp ul lf) []) (a.ed[k]'h):=by
 rw[Le h,Md];rfl
set_option maxHeartbeats 4000000 in
theorem Qdr {w:World}{bp:Nat}{q:Pz}{lf:Lf}(S:zO [] w.heap bp q) (hq:PzQ q) (hB:Q4 w.heap q.bl 4 (lf.map Value.bool)) (hl:lf.length=q.n) (rk:Int) :
  QI prog 264 [.pointer (some ⟨bp,0,none⟩),.int .i64 rk] w λr w'=>Step [] w w'∧RmO w.heap.size w' r rk 2 (lost q.a q.unc lf):=by
 have hn:=hq.n;have hS:=hq.ok.st1;have hT:=hq.ok.ed_le;refine QI.of_W func264 O ntmps264 results264 (by simp) ?_;refine Qc<|Qe<|Qc<|Qe<|Qg<|Qc<|Qb<|x (QC O)<|x (Qa O)<|x (Qa O)<|x (Qd S.B O O)<|x (Qs S.a.ed O)<|Qb<|xe ?_
 refine Qh<|QA (α:=Nat×Value) [(5,5),(7,8),(15,72)] (λz=>[(5,z.2),(15,.int .i64 z.1)]) (λz w'=>z.1≤q.a.ed.length∧Step [] w w'∧RmO w.heap.size w' z.2 rk 2 ((q.a.ed.take z.1).foldl (Jp q.unc lf) [])) (λz=>q.a.ed.length - z.1) (by rfl) (0,nS) ⟨O,O,U⟩ ⟨Lj _,Step.refl _ _,QM _ _ _ _⟩ ?_;rintro ⟨k,vo⟩ g w1 ⟨hk,hg,I⟩;simp only[] at hk I
 have hh:=(Ub (a:=q.a) (ul:=q.unc) (lf:=lf) (q.a.ed.take k) [] (λe he=>LW he) (λp hp=>by cases hp)).2;rw[Lx] at hh;refine Qc<|x (QB O O)<|xe<|Qg<|QH O (λhi=>?_) (λhi=>?_)
 ·refine Qy ?_;have h9:q.a.ed.length≤k:=by have T:¬(k:Int)<(q.a.ed.length:Int):=hi;omega
  rw[Ll h9] at I;refine Qc<|Qb<|Qe ?_;exact Qm ⟨[_],Z,hg,I⟩
 refine Qi ?_;have G:k<q.a.ed.length:=by have T:(k:Int)<(q.a.ed.length:Int):=hi;omega
 have hC:=hq.ok.ed _ (Lc G);have E:=QdJ (ul:=q.unc) (lf:=lf) G;refine Zh ((q.a.ed.take k).foldl (Jp q.unc lf) []) λout hout=>?_;rw[hout] at I E hh;refine Zh (q.a.ed[k]'G) λe he=>?_;rw[he] at hC E;simp only[List.length_nil] at hh;have hD:e.1=(e.1.toNat:Int):=by omega
 have hE:e.2.2=(e.2.2.toNat:Int):=by omega
 have hF:=K9 (l:=lf) (s:=e.1) (by omega);have hG:=K9 (l:=lf) (s:=e.2.2) (by omega);have hH:=S.ext hg;refine Qg<|Qh<|Qc<|xie hH.a.ed O O G λhU T=>?_;rw[he] at T;refine x (QF T O O)<|xl O<|Qt (us:=[.int .i64 0,.int .i64 0,.int .i64 0]) O λb7 w2 hI hJ H=>xl O<|Qp (us:=Qw e) H O O O O ⟨O,O,O,U⟩ λw3 hK V=>xe ?_;have h1:Step [] w1 w3:=hI.then1 hK hJ
 have hj:=hg.trans h1;have Y:=S.ext hj;have h2:=hB.ext hj;have hL:=Qq I h1;refine Qg<|Q0 (α:=Bool) [(19,47)] (λz=>[(47,.bool z)]) (λz w'=>Step [] w3 w'∧(z=true↔(lft lf e.1=false∨lft lf e.2.2=true∨e.2.1∉q.unc))) (by rfl) ?_ ?_
 ·refine QW (Step [] w3) [(0,true),(1,true),(2,true),(3,true),(4,true),(5,true),(6,true),(7,true),(8,true),(9,true),(10,true),(11,true),(12,true),(13,true),(14,true),(15,true),(16,true),(17,true),(18,true),(19,true),(20,true),(21,true),(22,true),(23,true),(24,true),(25,true),(26,false),(27,true),(28,true)] mixed (by rfl) (by kernel_rfl) (Step.drew _ _) ?_
  refine p (λ_=>Qo)<|p (λ_=>QC O)<|p (λ_=>Qa O)<|pq (λ_ hc=>Qd (Y.B.ext hc) O O)<|p (λ_=>Qa O)<|pq (λ_ hc=>Qd (V.ext hc) O O) <|
   p (λ_=>Zf (i:=e.1.toNat) O (congrArg (Value.int .i64) hD) (by omega))<|pq (v:=.bool (lft lf e.1)) (λ_ hc=>(Xq (i:=e.1.toNat) (h2.ext hc) O (by omega)).trans (by rw[hF]))<|pB (λ_=>Zs rfl) (λJ=>?_) (λJ=>?_)
  ·refine p (λ_=>Qo)<|ps<|ps<|ps<|ps<|ps<|ps<|ps<|ps<|p (λ_=>Qj O)<|p (λ_=>Qo)<|ps<|ps<|ps<|ps<|ps<|ps<|ps<|ps<|p (λ_=>Qj O)<|pe ?_;exact ⟨_,Z,Step.drew _ _,by simp at J;simp[J]⟩
  refine p (λ_=>Qo)<|p (λ_=>Qo)<|p (λ_=>QC O)<|p (λ_=>Qa O)<|pq (λ_ hc=>Qd (Y.B.ext hc) O O)<|p (λ_=>Qa O)<|pq (λ_ hc=>Qd (V.ext hc) O O) <|
   p (λ_=>Zf (i:=e.2.2.toNat) O (congrArg (Value.int .i64) hE) (by omega))<|?_
  refine pqB (b:=lft lf e.2.2) (λ_ hc=>(Xq (i:=e.2.2.toNat) (h2.ext hc) O (by omega)).trans (by rw[hG])) (λhm=>?_) (λhm=>?_)
  ·refine p (λ_=>Qj O)<|p (λ_=>Qo)<|ps<|ps<|ps<|ps<|ps<|ps<|ps<|ps<|p (λ_=>Qj O)<|pe ?_;exact ⟨_,Z,Step.drew _ _,by simp[hm]⟩
  refine p (λ_=>Qj O)<|p (λ_=>Qo)<|p (λ_=>Qo)<|p (λ_=>QC O)<|p (λ_=>Qa O)<|pq (λ_ hc=>Qd (Y.B.ext hc) O O) <|
   p (λ_=>Qa O)<|pq (λ_ hc=>Qd (V.ext hc) O O)<|pk<|xf<|(ZR (Y.u.ext (Step.drew _ _)) e.2.1).mono ?_
  rintro r4 w4 ⟨rfl,rfl⟩;refine ⟨Step.drew _ _,?_⟩;refine p (λ_=>V4 O)<|p (λ_=>Qj O)<|pe ?_;exact ⟨_,Z,Step.drew _ _,by simp at J;simp[J,hm]⟩
 rintro z g w4 ⟨ho,hz⟩;have h3:=hj.trans ho;have hr:=Qq hL ho;have H:=V.ext ho;refine Q2 rfl (λha=>?_) (λha=>?_)
 ·refine Qy ?_;have e1:Jp q.unc lf out e=out:=by unfold Jp;rw[if_pos (hz.1 ha)]
  rw[e1] at E;refine Qz<|QN O O<|Qb<|xe ?_;exact ⟨(k+1,vo),by simp only[];omega,⟨O,O,U⟩,G,h3,by simp only[];rw[E];exact hr⟩
 refine Qi ?_;have h4:¬(lft lf e.1=false∨lft lf e.2.2=true∨e.2.1∉q.unc):=λh=>by rw[hz.2 h] at ha;cases ha
 have h5:Zq [] w4.heap vo out.length 4 (out.flatMap (yb rk 2)):=QS hr (by omega) (by simp);refine Qg<|Qc<|Qb<|x (Qs h5 O)<|Qe<|Q0 (α:=Bool) [(50,62)] (λz=>[(62,.bool z)]) (λz w'=>Step [] w4 w'∧(z=true↔out.getLast?.map (·.1)=some e.1)) (by rfl) ?_ ?_
 ·refine QW (Step [] w4) [(0,true),(1,true),(2,true),(3,true),(4,true),(5,true),(6,true),(7,true),(8,true),(9,true),(10,true),(11,true),(12,true)] mixed (by rfl) (by kernel_rfl) (Step.drew _ _) ?_;refine p (λ_=>Qo)<|pb (λ_=>Zx O O) (λhs=>?_) (λhs=>?_)
  ·have hV:0<out.length:=by have hM:(0:Int)<(out.length:Int):=hs;omega
   have h6:out.getLast?=some (out[out.length - 1]'(by omega)):=by rw[List.getLast?_eq_getElem?,Lv]
   refine Zh (out[out.length - 1]'(by omega)) λy hy=>?_;rw[hy] at h6;refine p (λ_=>Qo)<|p (λ_=>Qo)<|p (λ_=>Qo)<|p (λ_=>Ja O O ⟨by omega,by omega⟩)<|Go.Lg.pig (g:=yb rk 2) (i:=out.length - 1) O (Qat rk 2) h5 O (congrArg (Value.int .i64) (show (out.length:Int) - 1=((out.length - 1:Nat):Int) by omega)) (by omega) λhW h7=>?_;rw[hy] at h7
   refine p (λ_=>Zb O)<|pq (λ_ hc=>Qv ((h7.fld 0 (.int .i64 y.1) O).ext hc) O)<|p (λ_=>Qa O)<|pq (λ_ hc=>Qd (H.ext hc) O O) <|
    p (λ_=>Q5 O O)<|p (λ_=>Qj O)<|pe ?_
   exact ⟨_,Z,Step.drew _ _,by rw[h6];simp⟩
  have h0:out=[]:=Ln (by have hM:¬(0:Int)<(out.length:Int):=hs;omega);refine p (λ_=>Qo)<|ps<|ps<|ps<|ps<|ps<|ps<|ps<|ps<|ps<|p (λ_=>Qj O)<|pe ?_;exact ⟨_,Z,Step.drew _ _,by simp[h0]⟩
 rintro z2 g w5 ⟨ht,h8⟩;have hu:=h3.trans ht;have hv:=Qq hr ht;have H:=H.ext ht;refine Q2 rfl (λhf=>?_) (λhf=>?_)
 ·refine Qy ?_;have e1:Jp q.unc lf out e=out:=by unfold Jp;rw[if_neg h4,if_pos (h8.1 hf)]
  rw[e1] at E;refine Qz<|QN O O<|Qb<|xe ?_;exact ⟨(k+1,vo),by simp only[];omega,⟨O,O,U⟩,G,hu,by simp only[];rw[E];exact hv⟩
 refine Qi ?_;have hN:¬out.getLast?.map (·.1)=some e.1:=λh=>by rw[h8.2 h] at hf;cases hf
 have e1:Jp q.unc lf out e=out++[(e.1,e.2.1)]:=by unfold Jp;rw[if_neg h4,if_neg hN]
 rw[e1] at E;refine Qz<|Qb<|x (Qa O)<|x (Qd H O O)<|Qb<|x (Qa O)<|x (Qd H O O)<|x (QE ⟨O,O,O,O,U⟩) <|
  xl rfl<|QD (us:=[yb rk 2 (e.1,e.2.1)]) O O (by decide) (by simp) ⟨rfl,rfl,U⟩ λhX w6 hw hY hO =>
  xl rfl<|Q6 (m:=1) (news:=yb rk 2 (e.1,e.2.1)) (Qq hv hw) O O O (hO.at (L:=[]) (by simp)) (by simp[Value.oneCell']) (by omega) (by have:=hu.size;have:=hw.size;omega) λhP w7 hQ hR hZ=>Qe<|Qz<|QN O O<|Qb<|xe ?_
 exact ⟨(k+1,hP),by simp only[];omega,⟨O,O,U⟩,G,(hu.trans hw).then hR (λb hb=>.inr (Qn hv b hb).1),by simp only[];rw[E];exact RmO.snoc hQ⟩
theorem qF (lf:Lf) (d:Int):∀(l:LI) (i:Nat),Ka lf i (l++[d])=Ka lf i l++if lf.getD (i+l.length) false=true∧d<0 then [((i+l.length:Nat):Int)] else []
 | [],i=>by
  simp only[List.nil_append,Ka,List.length_nil,Nat.add_zero]
 | a::l,i=>by
  have ih:=qF lf d l (i+1);rw[show i+1+l.length=i+(a::l).length by simp;omega] at ih;simp only[List.cons_append,Ka,ih];by_cases h:lf.getD i false=true∧a<0
  ·rw[if_pos h,if_pos h,L0]
  rw[if_neg h,if_neg h]
abbrev blP (l:LI):List (Int×Int):=l.map λs=>(s,-1)
set_option maxHeartbeats 4000000 in
theorem yg {w:World}{bp:Nat}{q:Pz}{lf:Lf}(hA:zO [] w.heap bp q) (hq:PzQ q) (hB:Q4 w.heap q.bl 4 (lf.map Value.bool)) (hl:lf.length=q.n) (rk:Int) :
  QI prog 265 [.pointer (some ⟨bp,0,none⟩),.int .i64 rk] w λr w'=>Step [] w w'∧RmO w.heap.size w' r rk 3 (blP (Ka lf 0 (dsts q.a lf)))∧(Ka lf 0 (dsts q.a lf)).length≤q.n:=by
 have hn:=hq.n;have hy:=hq.ok.st1;refine QI.of_W func265 O ntmps265 results265 (by simp) ?_;refine Qc<|Qe<|Qc<|Qe<|Qg<|Qc<|Qb<|xl O<|xf<|(KO hA hq hB hl).mono ?_;rintro r1 S ⟨hf,b,rfl,hb,hg,T⟩;refine Zh (dsts q.a lf) λD hD=>?_;rw[hD] at hg T ⊢;have hh:QK [] S.heap (.slice (some ⟨b,0,none⟩) q.n q.n) D:=by
  have h:=hg.arr (L:=[]) (by simp) (n:=q.n) (cap:=q.n) (sz:=1) (by simp[T]) (by omega) (Lr _);unfold QK;rw[T];exact h
 refine x (Qs hh O)<|Qb<|xe<|Qh<|QA (α:=Nat×Value) [(5,7),(11,33)] (λz=>[(5,z.2),(11,.int .i64 z.1)]) (λz w'=>z.1≤D.length∧Step [] S w'∧RmO S.heap.size w' z.2 rk 3 (blP (Ka lf 0 (D.take z.1)))) (λz=>D.length - z.1) (by rfl) (0,nS) ⟨O,O,U⟩ ⟨Lj _,Step.refl _ _,QM _ _ _ _⟩ ?_;rintro ⟨k,vo⟩ g w2 ⟨hk,I,E⟩;simp only[] at hk E;have hi:=(KU lf (D.take k) 0).2
 rw[Lx] at hi;have V:=hf.trans I;refine Qc<|x (QB O O)<|xe<|Qg<|QH O (λY=>?_) (λY=>?_)
 ·refine Qy ?_;have hm:D.length≤k:=by have ho:¬(k:Int)<(D.length:Int):=Y;omega
  rw[Ll hm] at E;refine Qc<|Qb<|Qe ?_;exact Qm ⟨[_],Z,V,Zk E hf.size,by have:=(KU lf D 0).2;omega⟩
 refine Qi ?_;have G:k<D.length:=by have ho:(k:Int)<(D.length:Int):=Y;omega
 have hp:D.take (k+1)=D.take k++[D[k]'G]:=Le G;have H:=qF lf (D[k]'G) (D.take k) 0;rw[←hp,Lx,LR,ML (by omega)] at H;refine Zh (D[k]'G) λd hd=>?_;rw[hd] at H;refine Zh (Ka lf 0 (D.take k)) λout hout=>?_;rw[hout] at H E hi;have ha:k<lf.length:=by omega
 have hr:lf[k]'ha=lf.getD k false:=by simp[List.getD,ha]
 have hs:=hA.ext V;refine Qg<|Qh<|Qc<|Qb<|xii (i:=k) (hh.ext I) O O G λh0 hj=>?_;rw[hd] at hj;refine x (Qv hj O)<|x Qf<|Qe<|Q0 (α:=Bool) [(16,26)] (λz=>[(26,.bool z)]) (λz w'=>w'=w2∧(z=true↔lf.getD k false=true∧d<0)) (by rfl) ?_ ?_
 ·refine Qz<|Qb<|x (QC O)<|x (Qa O)<|x (Qd hs.B O O)<|Qb<|x (Zf (i:=k) O O (by omega))<|xB (b:=lf.getD k false) ((Xq (i:=k) (hB.ext V) O ha).trans (by rw[hr])) (λhc=>?_) (λhc=>?_)
  ·refine Qb<|Qb<|x (QB O O)<|x (Qj O)<|xe ?_;exact ⟨_,Z,O,by rw[hc];simp⟩
  refine Qb<|xs O<|xs O<|x (Qj O)<|xe ?_;exact ⟨_,Z,O,by rw[hc];simp⟩
 rintro z g w3 ⟨rfl,hz⟩;refine Q2 rfl (λJ=>?_) (λJ=>?_)
 ·rw[if_pos (hz.1 J)] at H;refine Qz<|Qb<|Qb<|Qb<|x (QE ⟨O,O,O,O,U⟩)<|xl O<|QD (us:=[yb rk 3 ((k:Int),-1)]) O O (by decide) (by simp) ⟨rfl,rfl,U⟩ λh1 w4 he h2 ht =>
   xl rfl<|Q6 (m:=1) (news:=yb rk 3 ((k:Int),-1)) (Qq E he) O O O (ht.at (L:=[]) (by simp)) (by simp[Value.oneCell']) (by rw[Lh];omega) (by have:=I.size;have:=he.size;omega) λhu w5 hv hw h3=>Qe<|Qz<|QN O O<|Qb<|xe ?_
  refine ⟨(k+1,hu),by simp only[];omega,⟨O,O,U⟩,G,(I.trans he).then hw (λb hb=>.inr (Qn E b hb).1),?_⟩;simp only[];rw[H,show blP (out++[(k:Int)])=blP out++[((k:Int),-1)] by simp];exact RmO.snoc hv
 rw[if_neg (λh=>by rw[hz.2 h] at J;cases J),LJ] at H;refine Qi<|Qz<|QN O O<|Qb<|xe ?_;exact ⟨(k+1,vo),by simp only[];omega,⟨O,O,U⟩,G,I,by simp only[];rw[H];exact E⟩
theorem Qdq {w:World}{bp:Nat}{q:Pz}{lf:Lf}(S:zO [] w.heap bp q) (hq:PzQ q) (T:Q4 w.heap q.bl 4 (lf.map Value.bool)) (hl:lf.length=q.n) (rk:Int) :
  QI prog 214 [.pointer (some ⟨bp,0,none⟩),.int .i64 rk,.bool true] w λr w'=>Step [] w w'∧∃rs l,RmO w.heap.size w' r rk rs l∧l.map (·.1)=nxs q.a q.unc lf∧l.length≤1000000:=by
 have Y:=(zm q.a q.unc lf).2;have he:=hq.ok.ed_le;have hn:=hq.n;have hf:=hq.ok.st1;have E:nxs q.a q.unc lf=if (lost q.a q.unc lf).length≠0 then (lost q.a q.unc lf).map (·.1) else Ka lf 0 (dsts q.a lf):=rfl
 refine QI.of_W func214 O ntmps214 results214 (by simp) ?_;refine Qc<|Qe<|Qg<|Qc<|Qb<|Qb<|xl O<|xf<|(Qdr S hq T hl rk).mono ?_;rintro r1 w1 ⟨G,I⟩;refine Zh (lost q.a q.unc lf) λL hL=>?_;rw[hL] at I E Y;refine Qe<|Q0 (α:=Bool) [(11,17)] (λz=>[(17,.bool z)]) (λz w'=>w'=w1∧(z=true↔L.length≠0)) (by rfl) ?_ ?_
 ·refine Qz<|Qb<|x (Qs (L:=[]) (QS I (by omega) (by simp)) rfl)<|xb (Zx rfl rfl) (λJ=>?_) (λJ=>?_)
  ·refine Qb<|xs O<|xs O<|x (Qj O)<|xe ?_;exact ⟨_,Z,O,by have V:(0:Int)<(L.length:Int):=J;simp;intro e;subst e;simp at V⟩
  refine Qb<|Qb<|x (Zs O)<|x (Qj O)<|xe ?_;have V:¬(0:Int)<(L.length:Int):=J;have ha:L.length=0:=by omega
  exact ⟨_,Z,O,by rw[ha];simp⟩
 rintro z g w2 ⟨rfl,hz⟩;refine Q2 rfl (λH=>?_) (λH=>?_)
 ·rw[if_pos (hz.1 H)] at E;refine Qc<|Qb<|Qe ?_;exact Qm ⟨[_],Z,G,2,L,I,E.symm,by omega⟩
 rw[if_neg (λh=>by rw[hz.2 h] at H;cases H)] at E;refine Qi<|Qc<|Qb<|Qb<|xl O<|xf<|(yg (S.ext G) hq (T.ext G) hl rk).mono ?_;rintro r3 w3 ⟨hb,hc,hg⟩;refine Qe<|Qm ⟨[_],Z,G.trans hb,3,_,Zk hc G.size,?_,?_⟩
 ·rw[E,Me];exact List.map_id _
 rw[Lh];omega
structure Jy (base:Nat) (w:World) (n:Nat) (f:Nat→Value) (g:Nat→List Ed):Prop where
 own:∀i,i<n→Ye 144 base w (f i) (g i)
 dj:∀i j,i<n→j<n→i≠j→Dj (f i) (f j)
theorem Jy.app {base n i:Nat}{w w':World}{f:Nat→Value}{g:Nat→List Ed}{v':Value}{l:List Ed}(h:Jy base w n f g) (hi:i<n) (I:Ye 144 base w' v' l) (hs:Step (ob (f i)) w w')
  (J:∀b∈ob v',b∈ob (f i)∨w.heap.size≤b):Jy base w' n (JZ f i v') (JZ g i l):=by
 refine ⟨λj E=>?_,λj k E hk G=>?_⟩
 ·by_cases e:j=i
  ·subst e;rw[ZQ,ZQ];exact I
  rw[Z9 _ _ e,Z9 _ _ e];exact Qk (h.own j E) hs (h.dj j i E hi e)
 have key:∀j,j<n→j≠i→Dj v' (f j):=λj E e b hb H=>by
  rcases J b hb with h1 | h1
  ·exact h.dj i j hi E (Ne.symm e) b h1 H
  have:=QO (h.own j E) b H;omega
 by_cases e1:j=i
 ·subst e1;rw[ZQ,Z9 _ _ (Ne.symm G)];exact key k hk (Ne.symm G)
 rw[Z9 _ _ e1];by_cases e2:k=i
 ·subst e2;rw[ZQ];exact (key j E e1).symm
 rw[Z9 _ _ e2];exact h.dj j k E hk G
theorem Jy.step {base n:Nat}{X:LN}{w w':World}{f:Nat→Value}{g:Nat→List Ed}(h:Jy base w n f g) (hs:Step X w w') (E:∀i,i<n→∀b∈ob (f i),b∉X):Jy base w' n f g :=
 ⟨λi hi=>Qk (h.own i hi) hs (E i hi),h.dj⟩
theorem Jy.ext {base n:Nat}{w w':World}{f:Nat→Value}{g:Nat→List Ed}(h:Jy base w n f g) (hs:Step [] w w'):Jy base w' n f g:=h.step hs (λ_ _ _ _=>by simp)
def UP (E:List Ed) (s:Nat):List Ed:=ZJ E (s:Int)
theorem QbB (E:List Ed) (e:Ed) (G:0≤e.1):JZ (UP E) e.1.toNat (UP E e.1.toNat++[e])=UP (E++[e]):=by
 funext s;unfold UP ZJ;rw[L9];by_cases h:s=e.1.toNat
 ·subst h;rw[ZQ];have:e.1=(e.1.toNat:Int):=by omega
  simp[←this]
 rw[Z9 _ _ h];have:¬e.1=(s:Int):=by omega
 simp[this]
theorem ya (E:List Ed) (s:Nat):(UP E s).length≤E.length:=Jm E _
def Qae (num:LI) (m:List (Int×Value)):Prop:=∀s:Nat,s<num.length→mget m (s:Int)=if cget num s<0 then none else some (.int .i64 (cget num s))
theorem JI (l:LI) (k:Int):ZL l k=cget l k.toNat:=rfl
structure Jg (b4 mb:Nat) (r2:Value) (wS:World) (c:Cs) (m:List (Int×Value)) (vo vk ve:Value) (w:World):Prop where
 st:Step [b4,mb] wS w
 B4:Q4 w.heap b4 58 [r2,.int .i64 0,vk,ve]
 M:Z0 J4 w.heap mb m
 nm:Qae c.num m
 o:Qu 3 wS.heap.size w vo c.ord
 k:Qu 3 wS.heap.size w vk c.mk'
 e:Ye 144 wS.heap.size w ve c.ed
 d1:Dj vo vk
 d2:Dj vo ve
 d3:Dj vk ve
section
variable {b4 mb:Nat} {r2:Value} {wS:World} {c:Cs} {m:List (Int×Value)} {vo vk ve:Value} {w w' w'':World}
theorem Jg.ext (h:Jg b4 mb r2 wS c m vo vk ve w) (hs:Step [] w w'):Jg b4 mb r2 wS c m vo vk ve w' :=
 ⟨h.st.trans hs,h.B4.ext hs,h.M.ext hs,h.nm,Qq h.o hs,Qq h.k hs,Qq h.e hs,h.d1,h.d2,h.d3⟩
theorem Jg.setK (h:Jg b4 mb r2 wS c m vo vk ve w) (S:b4<wS.heap.size) (lm:mb<wS.heap.size) (ne:mb≠b4) {G:Value}{l:LI}(hs:Step (ob vk) w w') (H:Qu 3 wS.heap.size w' G l)
  (I:∀b∈ob G,b∈ob vk∨w.heap.size≤b) (E:Step [b4] w' w'') (J:Q4 w''.heap b4 58 [r2,.int .i64 0,G,ve]):Jg b4 mb r2 wS ⟨c.ord,c.num,l,c.ed⟩ m vo G ve w'' :=
 ⟨(h.st.then hs (λb hb=>.inr (Qn h.k b hb).1)).then E (λb hb=>.inl (by simp at hb;simp[hb])),J,(h.M.step hs (QU h.k lm)).step E (by simpa using ne),h.nm,
  Qk (Qk h.o hs h.d1) E (λb hb=>by have:=(Qn h.o b hb).1;simp;omega),Qk H E (λb hb=>by have:=(Qn H b hb).1;simp;omega),
  Qk (Qk h.e hs h.d3.symm) E (λb hb=>by have:=(Qn h.e b hb).1;simp;omega),h.d1.grow I (QO h.o),h.d2,(h.d3.symm.grow I (QO h.e)).symm⟩
theorem Jg.setE (h:Jg b4 mb r2 wS c m vo vk ve w) (S:b4<wS.heap.size) (lm:mb<wS.heap.size) (ne:mb≠b4) {G:Value}{l:List Ed}(hs:Step (ob ve) w w') (H:Ye 144 wS.heap.size w' G l)
  (I:∀b∈ob G,b∈ob ve∨w.heap.size≤b) (E:Step [b4] w' w'') (J:Q4 w''.heap b4 58 [r2,.int .i64 0,vk,G]):Jg b4 mb r2 wS ⟨c.ord,c.num,c.mk',l⟩ m vo vk G w'' :=
 ⟨(h.st.then hs (λb hb=>.inr (Qn h.e b hb).1)).then E (λb hb=>.inl (by simp at hb;simp[hb])),J,(h.M.step hs (QU h.e lm)).step E (by simpa using ne),h.nm,
  Qk (Qk h.o hs h.d2) E (λb hb=>by have:=(Qn h.o b hb).1;simp;omega),Qk (Qk h.k hs h.d3) E (λb hb=>by have:=(Qn h.k b hb).1;simp;omega),
  Qk H E (λb hb=>by have:=(Qn H b hb).1;simp;omega),h.d1,h.d2.grow I (QO h.o),h.d3.grow I (QO h.k)⟩
theorem Jg.setN (h:Jg b4 mb r2 wS c m vo vk ve w) (lm:mb<wS.heap.size) (ne:mb≠b4) {l:LI}{G:List (Int×Value)}(E:Step [mb] w w') (H:Z0 J4 w'.heap mb G) (hm:Qae l G):Jg b4 mb r2 wS ⟨c.ord,l,c.mk',c.ed⟩ G vo vk ve w' :=
 ⟨h.st.then E (λb hb=>.inl (by simp at hb;simp[hb])),h.B4.step E (by simpa using ne.symm),H,hm,Qk h.o E (λb hb=>by have:=(Qn h.o b hb).1;simp;omega),
  Qk h.k E (λb hb=>by have:=(Qn h.k b hb).1;simp;omega),Qk h.e E (λb hb=>by have:=(Qn h.e b hb).1;simp;omega),h.d1,h.d2,h.d3⟩
theorem Jg.setO (h:Jg b4 mb r2 wS c m vo vk ve w) (H:b4<wS.heap.size) (lm:mb<wS.heap.size) {E:Value}{l:LI}(hs:Step (ob vo) w w') (I:Qu 3 wS.heap.size w' E l)
  (G:∀b∈ob E,b∈ob vo∨w.heap.size≤b):Jg b4 mb r2 wS ⟨l,c.num,c.mk',c.ed⟩ m E vk ve w' :=
 ⟨h.st.then hs (λb hb=>.inr (Qn h.o b hb).1),h.B4.step hs (QU h.o H),h.M.step hs (QU h.o lm),h.nm,I,Qk h.k hs h.d1.symm,Qk h.e hs h.d2.symm,
  (h.d1.symm.grow G (QO h.k)).symm,(h.d2.symm.grow G (QO h.e)).symm,h.d3⟩
end
theorem Qae.set {num:LI}{m:List (Int×Value)}(h:Qae num m) {k:Nat}(hk:k<num.length) {v:Int}(E:0≤v):Qae (num.set k v) (mput m (k:Int) (.int .i64 v)):=by
 intro s hs;rw[MS] at hs;rw[XK];by_cases e:s=k
 ·subst e;have:cget (num.set s v) s=v:=by unfold cget;simp[List.getD,hk]
  rw[if_pos rfl,this,if_neg (by omega)]
 rw[if_neg (by omega)];have:cget (num.set k v) s=cget num s:=by unfold cget;simp[List.getD,List.getElem?_set_ne (Ne.symm e)]
 rw[this];exact h s hs
theorem zX (i:Nat) (c:Cs) (m:LI) (e:Ed):Zd i ⟨c.ord,c.num,m,c.ed⟩ e=⟨(Zd i c e).ord,(Zd i c e).num,m,(Zd i c e).ed⟩∧(Zd i c e).mk'=c.mk':=by
 unfold Zd;split <;> exact ⟨O,O⟩
theorem zy (i:Nat):∀(l:List Ed) (c:Cs) (m:LI),l.foldl (Zd i) ⟨c.ord,c.num,m,c.ed⟩=⟨(l.foldl (Zd i) c).ord,(l.foldl (Zd i) c).num,m,(l.foldl (Zd i) c).ed⟩∧(l.foldl (Zd i) c).mk'=c.mk'
 | [],c,m=>⟨O,O⟩
 | e::l,c,m=>by
  have h1:=zX i c m e;have h2:=zy i l (Zd i c e) m;rw[LO,LO,h1.1,h2.1];exact ⟨O,h2.2.trans h1.2⟩
theorem U8 (i:Nat) (c:Cs) (e:Ed):∃r,(Zd i c e).ord=c.ord++r:=by
 unfold Zd;split
 ·exact ⟨_,rfl⟩
 exact ⟨[],by simp⟩
theorem yz (i:Nat):∀(l:List Ed) (c:Cs),∃r,(l.foldl (Zd i) c).ord=c.ord++r
 | [],c=>⟨[],by simp⟩
 | e::l,c=>by
  obtain ⟨E,h1⟩:=U8 i c e;obtain ⟨r2,h2⟩:=yz i l (Zd i c e);exact ⟨E++r2,by rw[LO,h2,h1,LC]⟩
theorem QbC {a:QP}{i:Nat}{c:Cs}(hi:i<c.ord.length):UQ a i c=ZN a i ((ZJ a.ed (cget c.ord i)).foldl (Zd i) c):=by
 unfold UQ;rw[JI,MC];obtain ⟨r,E⟩:=yz i (ZJ a.ed (cget c.ord i)) c;have hm:=(zy i (ZJ a.ed (cget c.ord i)) c c.mk').2;unfold ZN;have G:ZL ((ZJ a.ed (cget c.ord i)).foldl (Zd i) c).ord (i:Int)=ZL c.ord (i:Int):=by
  rw[JI,JI,E];simp only[Int.toNat_natCast];exact Ux hi
 rw[G];split
 ·rw[(zy i _ c _).1,hm]
 rfl
set_option maxHeartbeats 8000000 in
theorem V5 {w:World}{bp:Nat}{q:Pz}{lf:Lf}(hA:zO [] w.heap bp q) (hq:PzQ q) (hB:Q4 w.heap q.bl 4 (lf.map Value.bool)) (hl:lf.length=q.n) :
  QI prog 218 [.pointer (some ⟨bp,0,none⟩)] w λr w'=>Step [] w w'∧∃v o,r=.tuple #[v,o]∧YY w.heap.size w'.heap v (jp q.a lf)∧o.oneCell'=true:=by
 have hn:=hq.n;have hst1:=hq.ok.st1;have kg:=hq.ok.ed_le;have hml:=hq.ok.mr_le;have pd:=qi hq.ok lf;have V:jp q.a lf=if q.a.st=0∨lft lf 0=false then ⟨q.a.al,0,[],[]⟩ else YV (rstr q.a lf):=rfl
 refine Zh (jp q.a lf) λSA pf=>?_;rw[pf] at V ⊢;refine QI.of_W func218 O ntmps218 results218 (by simp) ?_;refine Qc<|xl O<|Qt (us:=[nS,.int .i64 0,nS,nS]) O λb2 w1 gi hb2 h9=>Qe ?_;have hz1:=gi.size;have hl2:=h9.lt;have kh:=hA.ext gi;refine Qc<|Qb<|x (QC O)<|x (Qa O)<|x (Qa O)<|x (Qd kh.B O O)<|xl O<|xf<|(ZZ kh.a.al).mono ?_;rintro r2 w2 ⟨hL,hv⟩;have hz2:=hL.size
 have hM:=Qu.ints (L:=[]) hv hA.a.al.le (by simp);refine x (QE ⟨hM.cells,U⟩)<|xl O<|Qt (us:=[nS,.int .i64 0,nS,nS]) O λb4 w3 pg ph hC =>
  xl rfl<|Qp (us:=[r2,.int .i64 0,nS,nS]) hC O O O O ⟨hM.one,O,O,O,U⟩ λw4 pj hC=>xe ?_
 have S:Step [] w2 w4:=pg.then1 pj ph;have Y:=gi.trans hL;have hD:=Y.trans S;have hl4:=hC.lt;have hz24:=S.size;have gj:=hA.ext hD;have pm:∀b∈ob r2,b<w2.heap.size:=QO hv;refine Qg<|Q0 (α:=Bool) [(22,36)] (λz=>[(36,.bool z)]) (λz w'=>w'=w4∧(z=true↔(q.a.st=0∨lft lf 0=false))) (by rfl) ?_ ?_
 ·refine Qz<|Qb<|x (QC O)<|x (Qa O)<|x (Qa O)<|x (Qd gj.B O O)<|xb (Q5 O O) (λgk=>?_) (λgk=>?_)
  ·refine Qb<|xs O<|xs O<|xs O<|xs O<|xs O<|xs O<|xs O<|x (Qj O)<|xe ?_;exact ⟨_,Z,O,by simp[gk]⟩
  have gl:(0:Int).toNat<lf.length:=by
   have:0<q.n:=by omega
   simp;omega
  have gm:=K9 (l:=lf) (s:=0) gl;refine Qb<|Qb<|x (QC O)<|x (Qa O)<|x (Qd gj.B O O)<|x (Zf (i:=0) O O (by simp at gl;omega))<|x (v:=.bool (lft lf 0)) ((Xq (i:=0) (hB.ext hD) O gl).trans (by rw[←gm];rfl))<|x (Zs O)<|x (Qj O)<|xe ?_;exact ⟨_,Z,O,by simp[gk]⟩
 rintro z g w4 ⟨rfl,hz⟩;refine Q2 rfl (λhN=>?_) (λhN=>?_)
 ·rw[if_pos (hz.1 hN)] at V;subst V;refine Qc<|x (Qr hC O O)<|xl O<|Qp (us:=[r2,.int .i64 0,nS,nS]) ((h9.ext hL).ext S) O O O O ⟨hM.one,O,O,O,U⟩ λw6 hw h9=>Qe<|Qm ⟨[.agg #[r2,.int .i64 0,nS,nS],nS],⟨⟨_,O,Qx O (h9.at (L:=[]) (by simp)).cells⟩,rfl,U⟩,hD.then1 hw (by omega),_,_,rfl,?_,rfl⟩;have pn:=Qk (Qq hv S) hw (λb hb=>by have:=(Qn hv b hb).1;simp;omega)
  exact ⟨r2,_,_,O,λL' hE=>⟨Qu.ints pn hA.a.al.le (λb hb=>by have:=hE b hb;omega),Zq.nil _ _ _,Zq.nil _ _ _⟩⟩
 have ki:¬(q.a.st=0∨lft lf 0=false):=λh=>by rw[hz.2 h] at hN;cases hN
 rw[if_neg ki] at V;have po:0<q.a.st:=by have:=hq.ok.st0;omega
 have kj:(rstr q.a lf).st.toNat=q.n:=by show q.a.st.toNat=q.n;omega
 unfold YV at V;rw[if_neg (show ¬(rstr q.a lf).st=0 from λh=>ki (.inl h)),kj] at V;simp only[] at V;refine Qi<|Qc<|Qb<|x (QC O)<|x (Qa O)<|x (Qa O)<|x (Qd gj.B O O)<|xl O<|K5 (n:=q.n) (congrArg (Value.int .i64) hn) (congrArg (Value.int .i64) hn) (by omega) λbE w6 hw pp gn=>Qe ?_;rw[Qc9] at gn;have hz6:=hw.size;have hlE:=gn.lt;have pt:=hD.trans hw;have kk:=hA.ext pt
 refine Qg<|Qc<|Qb<|x (QC O)<|x (Qa O)<|x (Qa O)<|x (Qd kk.B O O)<|x (Qs kk.a.ed O)<|Qb<|xe<|Qh<|QA (α:=Nat×(Nat→Value)) [(7,7),(50,74)] (λz=>[(50,.int .i64 z.1)]) (λz w'=>z.1≤q.a.ed.length∧Step [bE] w6 w'∧Q4 w'.heap bE 56 ((List.range q.n).map z.2)∧Jy w6.heap.size w' q.n z.2 (UP ((q.a.ed.take z.1).filter λe=>lft lf e.2.2))) (λz=>q.a.ed.length - z.1) (by rfl) (0,λ_=>nS) Z
  ⟨Lj _,Step.refl _ _,gn,⟨λi _=>QM _ _ _ _,λi j _ _ _=>Dj.nil _⟩⟩ ?_
 rintro ⟨k,rv⟩ g w7 ⟨hk,hO,go,T⟩;simp only[] at hk go T;have hF:Step [] w4 w7:=hw.then1 hO pp;have gp:=hD.trans hF;have hz7:=hO.size;have kn:=hA.ext gp;refine Qc<|x (QB O O)<|xe<|Qg<|QH O (λgq=>?_) (λgq=>?_)
 ·refine Qy ?_;have pu:q.a.ed.length≤k:=by have hP:¬(k:Int)<(q.a.ed.length:Int):=gq;omega
  rw[Ll pu] at T;have T:Jy w6.heap.size w7 q.n rv (UP (rstr q.a lf).ed):=T;have ko:(rstr q.a lf).ed.length≤q.a.ed.length:=ME _ _;refine Qc<|xl O<|Yk J4 λmb w8 gr pw pz=>xl O<|YL (k:=(0:Int)) pz O O λE gs kp=>Qb<|Qe ?_;have H:Step [] w7 E:=gr.then1 gs pw;have p0:=H.size;have hQ:=kp.lt
  refine Qc<|xl O<|QD (us:=[[.int .i64 0]]) O O (by decide) (by simp) ⟨rfl,rfl,U⟩ λkq gt hy hb77 p1=>Qe<|Qg<|Qc<|Qe ?_;have gu:mb≠b4:=by omega
  have hG:b4<E.heap.size:=by omega
  have kr:=gp.trans H;have gv:∀b∈[b4,mb],w2.heap.size≤b:=λb hb=>by simp only[List.mem_cons,List.not_mem_nil,or_false] at hb;omega
  have p2:zO [b4,mb] E.heap bp q:=((hA.ext Y).up (λb hb=>.inr (gv b hb))).ext (S.trans (hF.trans H));have hBS:Q4 E.heap q.bl 4 (lf.map Value.bool):=hB.ext kr;have hlw:=hB.lt;have kt:∀s,s<q.n→UJ [b4,mb] E.heap (rv s) (UP (rstr q.a lf).ed s):=λs hs=>QS (Qq (T.own s hs) H) (by have:=ya (rstr q.a lf).ed s;omega) (λb hb hm=>by
   have h1:=(Qn (T.own s hs) b hb).1;have h2:=QO (T.own s hs) b hb;simp only[List.mem_cons,List.not_mem_nil,or_false] at hm;omega)
  have hH:=go.ext H;have gw:∀b,b<w2.heap.size→b∉[b4,mb]:=λb hb hm=>by have:=gv b hm;omega
  have p3:bE∉[b4,mb]:=by simp only[List.mem_cons,List.not_mem_nil,or_false];omega
  have p4:q.bl<w2.heap.size:=by omega
  have hBl9:q.bl∉[b4,mb]:=gw _ p4;have p5:Q4 E.heap b4 58 [r2,.int .i64 0,nS,nS]:=((hC.ext hF)).ext H;have p6:Q4 E.heap b2 58 [nS,.int .i64 0,nS,nS]:=((h9.ext hL).ext S).ext (hF.trans H);have p7:=Qq hv (S.trans (hF.trans H));have p8:Qu 3 E.heap.size gt (.slice (some ⟨kq,0,none⟩) 1 1) [0]:=p1.own (n:=1) (sz:=1) O (by omega) (by omega)
  have ku:Qae (Yd (rstr q.a lf)).num (mput [] (0:Int) (.int .i64 0)):=by
   have h0:Qae (List.replicate q.n (-1)) ([]:List (Int×Value)):=λs hs=>by
    have p9:s<q.n:=by simpa using hs
    have:cget (List.replicate q.n (-1)) s=-1:=by unfold cget;simp[List.getD,p9]
    rw[this];rfl
   have h1:=h0.set (k:=0) (by simp;omega) (v:=0) (Nc _);unfold Yd;rw[kj];exact h1
  have gx:∀e∈(rstr q.a lf).ed,0≤e.1∧e.1<q.a.st∧0≤e.2.2∧e.2.2<q.a.st:=λe he=>by have:=pd.ed e he;exact ⟨this.1,this.2.1,this.2.2.2.1,this.2.2.2.2⟩
  have kv:Kj q.a.st (Yd (rstr q.a lf)):=Qbf (a:=rstr q.a lf) po;have kw:(rstr q.a lf).mr=q.a.mr:=rfl;refine Zh (rstr q.a lf) λR hR=>?_;rw[hR] at V kt ku gx kv kw ko;have qb:R.al=q.a.al:=by rw[←hR];rfl
  have hnN:q.a.st.toNat=q.n:=by omega
  refine Qh<|QA (α:=Nat×Cs×List (Int×Value)×Value×Value×Value) [(9,10),(12,14),(78,142)] (λz=>[(9,z.2.2.2.1),(10,.int .i64 z.1)])
   (λz w'=>Jg b4 mb r2 E z.2.1 z.2.2.1 z.2.2.2.1 z.2.2.2.2.1 z.2.2.2.2.2 w'∧z.1≤z.2.1.ord.length∧Kj q.a.st z.2.1∧z.2.1.mk'.length≤z.1∧z.2.1.ed.length≤z.1*131072∧Xc R (q.n - z.1) z.1 z.2.1=Xc R q.n 0 (Yd R)) (λz=>q.n - z.1) (by rfl)
   (0,Yd R,mput [] (0:Int) (.int .i64 0),.slice (some ⟨kq,0,none⟩) 1 1,nS,nS) ⟨O,O,U⟩
   ⟨⟨hy.any,p5.ext hy,kp.ext hy,ku,p8,QM _ _ _ _,QM _ _ _ _,Dj.nil' _,Dj.nil' _,Dj.nil' _⟩,Lj _,kv,Lj _,Lj _,O⟩ ?_
  rintro ⟨i,c,m,vo,vk,ve⟩ g qc ⟨I,hi,hc,qj,qk,gy⟩;simp only[] at I hi hc qj qk gy;have hcle:=hc.le;have hS:=Qu.ints (L:=[]) I.o (by omega) (by simp);refine Qg<|Qc<|Qb<|Qb<|x (Qs hS O)<|x (QB O O)<|xe<|QH O (λqo=>?_) (λqo=>?_)
  ·refine Qy ?_;have qr:c=Xc R q.n 0 (Yd R):=by rw[←gy,qC (by omega)]
   refine Qc<|Qb<|x (Qs hS O)<|x (Qa O)<|xl O<|QL I.B4 O O (by simp) rfl λhj Y hf=>xe ?_;have q0:=Qu.ints (L:=[]) I.k (by omega) (by simp);have q1:=Ye.eds (L:=[]) I.e (by have:=hc.el;omega) (by simp)
   refine Qc<|x (Qr hf O O)<|Qb<|xl O<|Qp (us:=[r2,.int .i64 c.ord.length,vk,ve]) ((p6.step I.st (gw _ (by omega))).step Y (by simp;omega)) O O O O ⟨hM.one,O,q0.one,q1.one,U⟩ λq2 hT q3=>Qe ?_;have kx:Step [b4,mb] E hj:=I.st.then Y (λb hb=>.inl (by simp at hb;simp[hb]));have q4:Step [] w q2:=(kr.then kx (λb hb=>.inr (by have:=gv b hb;omega))).then1 hT (by omega)
   refine Qm ⟨[.agg #[r2,.int .i64 c.ord.length,vk,ve],vo],⟨⟨_,O,Qx O (q3.at (L:=[]) (by simp)).cells⟩,rfl,U⟩,q4,_,_,rfl,?_,hS.one⟩;rw[←qr] at V;subst V;have k1:=Qk (Qk I.k Y (λb hb=>by have:=(Qn I.k b hb).1;simp;omega)) hT (λb hb=>by have:=(Qn I.k b hb).1;simp;omega)
   have k2:=Qk (Qk I.e Y (λb hb=>by have:=(Qn I.e b hb).1;simp;omega)) hT (λb hb=>by have:=(Qn I.e b hb).1;simp;omega);have k3:=Qk (Qk p7 kx (λb hb=>gw b (pm b hb))) hT (λb hb=>by have:=(Qn hv b hb).1;simp;omega)
   exact ⟨r2,vk,ve,O,λL' hE=>⟨by rw[qb];exact Qu.ints k3 hA.a.al.le (λb hb=>by have:=hE b hb;omega),Qu.ints k1 (by show c.mk'.length≤_;omega) (λb hb=>by have:=hE b hb;omega),Ye.eds k2 (by show c.ed.length≤_;have:=hc.el;omega) (λb hb=>by have:=hE b hb;omega)⟩⟩
  have G:i<c.ord.length:=by omega
  refine Qi ?_;have ky:=Zn G;have hsr:=hc.ord _ (Jv G);have hh:=QbC (a:=R) G;refine Zh (cget c.ord i) λs0 kz=>?_;rw[kz] at ky hsr hh;have k0:s0=(s0.toNat:Int):=by omega
  have gz:s0.toNat<q.n:=by omega
  have za:UP R.ed s0.toNat=ZJ R.ed s0:=by unfold UP;rw[←k0]
  have hU:=kt s0.toNat gz;rw[za] at hU;have zv:=Jm R.ed s0;have k5:∀e∈ZJ R.ed s0,0≤e.2.2∧e.2.2<q.a.st:=λe he=>⟨(gx e (Zw he).1).2.2.1,(gx e (Zw he).1).2.2.2⟩;refine Zh (ZJ R.ed s0) λos z0=>?_;rw[z0] at hU zv k5 hh;refine Qg<|Qh<|Qg<|Qc<|Qb<|Qb<|Qb<|xii (i:=i) hS O O G λa87 k6=>?_;rw[ky] at k6
  refine x (Qv k6 O)<|x (Zf (i:=s0.toNat) O (congrArg (Value.int .i64) k0) gz)<|x (Qd (u:=rv s0.toNat) (hH.step I.st p3) O (z8 gz))<|x (Qs (hU.st I.st) O)<|Qb<|xe<|Qh<|QA (α:=Nat×Cs×List (Int×Value)×Value×Value) [(9,9),(12,14),(92,126)] (λz=>[(9,z.2.2.2.1),(92,.int .i64 z.1)])
   (λz w'=>Jg b4 mb r2 E z.2.1 z.2.2.1 z.2.2.2.1 vk z.2.2.2.2 w'∧z.1≤os.length∧Kj q.a.st z.2.1∧z.2.1.mk'=c.mk'∧z.2.1.ed.length=c.ed.length+z.1∧(∃r,z.2.1.ord=c.ord++r)∧(os.drop z.1).foldl (Zd i) z.2.1=os.foldl (Zd i) c) (λz=>os.length - z.1) (by rfl) (0,c,m,vo,ve) ⟨O,O,U⟩
   ⟨I,Lj _,hc,O,O,⟨[],by simp⟩,rfl⟩ ?_
  rintro ⟨k4,d,m4,hV,hW⟩ g hj ⟨hg,z2,J,g0,k7,hX,h3⟩;simp only[] at hg z2 J g0 k7 hX h3;have hcle4:=J.le;have z3:=Qu.ints (L:=[]) hg.o (by omega) (by simp);have g2:i<d.ord.length:=by obtain ⟨r,hr⟩:=hX;rw[hr,Lk];omega
  have k8:cget d.ord i=s0:=by obtain ⟨r,hr⟩:=hX;rw[hr,Ux G];exact kz
  refine Qc<|x (QB O O)<|xe<|Qg<|QH O (λz4=>?_) (λz4=>?_)
  ·refine Qy ?_;rw[Lp (by omega),Na] at h3;rw[←h3] at hh;have k9:=p2.st hg.st;have z9:d.ord[i]'g2=s0:=by rw[Zn g2];exact k8
   have hmkC:ZN R i d=if s0∈q.a.mr then ⟨d.ord,d.num,d.mk'++[(i:Int)],d.ed⟩ else d:=by
    unfold ZN;rw[JI,MC,k8,kw]
   rw[hmkC] at hh;have hY:Xc R (q.n - (i+1)) (i+1) (UQ R i c)=Xc R q.n 0 (Yd R):=by
    rw[←gy];obtain ⟨t,ht⟩:∃t,q.n - i=t+1:=⟨q.n - i - 1,by omega⟩;rw[ht,Xc,if_pos G,show q.n - (i+1)=t by omega]
   have hm4l:=congrArg List.length g0;refine Qg<|QW (Step [] hj) [(0,true),(1,true),(2,true),(3,true),(4,true),(5,true),(6,true),(7,true),(8,true),(9,false)] mixed (by rfl) (by kernel_rfl) (Step.drew _ _) ?_;refine p (λ_=>Qo)<|p (λ_=>QC O)<|p (λ_=>Qa O)<|p (λ_=>Qa O)<|pq (λ_ hc=>Qd (k9.B.ext hc) O O)<|p (λ_=>Qo) <|
    p (λ_=>Qo)<|pii (i:=i) O z3 O O g2 λa134 ma=>?_
   rw[z9] at ma;refine pq (λ_ hc=>Qv (ma.ext hc) O)<|pk<|xf<|(ZR (k9.a.mr.ext (Step.drew _ _)) s0).mono ?_;rintro r16 w16 ⟨rfl,rfl⟩;refine ⟨Step.drew _ _,pe ?_⟩;have ha:=hg.ext (Step.drew [] hj);refine QH O (λg3=>?_) (λg3=>?_)
   ·rw[if_neg g3] at hh;refine Qi<|Qz<|Qb<|QN O O<|Qe ?_;rw[hh] at hY;exact ⟨(i+1,d,m4,hV,vk,hW),by simp only[];omega,⟨O,O,U⟩,ha,by simp only[];omega,J,by simp only[];omega,by simp only[];omega,hY⟩
   rw[if_pos g3] at hh;refine Qz<|x (Qa O)<|x (Qd ha.B4 O O)<|Qb<|xl O<|QD (us:=[[.int .i64 i]]) O O (by decide) (by simp) ⟨rfl,rfl,U⟩ λb140 w17 hs17 hb140 hB140=>?_;have hJ:=ha.ext hs17;refine xl O<|Q6 (news:=[.int .i64 i]) (L:=[]) hJ.k O O O (hB140.at (by simp)) (by simp[Value.oneCell']) (by omega) hJ.st.size λmc w18 mf mg hn18=>?_
   have hk18:Qu 3 E.heap.size w18 mc (d.mk'++[(i:Int)]):=Qu.snoc mf;refine x (Qa O)<|xl O<|QL (hJ.B4.step mg (QU hJ.k hG)) O O (by simp) (QJ mf) λw19 hs19 hB19=>xe ?_;have hI19:=hJ.setK hG hQ gu mg hk18 hn18 hs19 hB19;refine Qz<|Qb<|QN O O<|Qe ?_;rw[hh] at hY
   exact ⟨(i+1,⟨d.ord,d.num,d.mk'++[(i:Int)],d.ed⟩,m4,hV,mc,hW),by simp only[];omega,⟨O,O,U⟩,hI19,by simp only[];omega,⟨J.nl,J.sum,J.ord,J.num,J.el⟩,by simp only[List.length_append,List.length_singleton];omega,by simp only[];omega,hY⟩
  refine Qi ?_;have hZ:k4<os.length:=by omega
  have hdr:=QZ hZ;rw[hdr,LO] at h3;have g4:=k5 _ (Lc hZ);refine Zh (os[k4]'hZ) λe he=>?_;rw[he] at h3 g4;have ga:e.2.2=(e.2.2.toNat:Int):=by omega
  have gb:e.2.2.toNat<d.num.length:=by rw[J.nl];omega
  have mh:=hg.nm e.2.2.toNat gb;rw[←ga] at mh;have mi:ZL d.num e.2.2=cget d.num e.2.2.toNat:=rfl;refine Qg<|Qh<|Qc<|xie (hU.st hg.st) O O hZ λa94 mj=>?_;rw[he] at mj;refine x (QF mj O O)<|xl O<|Qt (us:=[.int .i64 0,.int .i64 0,.int .i64 0]) O λg5 w20 hs20 g6 hf=>xl O<|Qp (us:=Qw e) hf O O O O ⟨O,O,O,U⟩ λgc hs21 hf=>xe ?_;have mn:Step [] hj gc:=hs20.then1 hs21 g6
  have ha:=hg.ext mn;have hl12:=hf.lt;have hz21:=mn.size;have hIz:=hg.st.size;have mo:Kj q.a.st (Zd i d e):=zW J g4.1 g4.2 (by have:=J.el;omega);have mq:Zd i d e=⟨(ZP d e).ord,(ZP d e).num,(ZP d e).mk',(ZP d e).ed++[((i:Int),e.2.1,ZL (ZP d e).num e.2.2)]⟩:=VU gb;have hordl:=mo.le
  refine Q0 (α:=Value) [(13,14),(96,102)] (λz=>[(13,.int .i64 (if cget d.num e.2.2.toNat<0 then 0 else cget d.num e.2.2.toNat)),(14,.bool (!decide (cget d.num e.2.2.toNat<0)))]) (λz w'=>w'=gc) (by rfl) ?_ ?_
  ·refine Qz<|Qb<|x (Qa O)<|x (Qd hf O O)<|x (v:=.tuple #[.int .i64 (if cget d.num e.2.2.toNat<0 then 0 else cget d.num e.2.2.toNat),.bool (!decide (cget d.num e.2.2.toNat<0))]) ((Kx (k:=e.2.2) ha.M O O).trans (congrArg (λv=>Result.ok (Next.value v) _) ?_))<|Qb<|x (Ql O O)<|x (Ql O O)<|x Qf<|Qe ?_
   ·rw[mh];by_cases ho:cget d.num e.2.2.toNat<0
    ·simp[ho]
    simp[ho]
   exact ⟨.bool true,⟨O,O,U⟩,O⟩
  rintro z5 g gc rfl;refine Q0 (α:=Value×List (Int×Value)×Int) [(9,9),(13,13),(103,115)] (λz=>[(9,z.1),(13,.int .i64 z.2.2)]) (λz w'=>cget (ZP d e).num e.2.2.toNat=z.2.2∧Jg b4 mb r2 E (ZP d e) z.2.1 z.1 vk hW w'∧Q4 w'.heap g5 144 (Qw e)∧gc.heap.size≤w'.heap.size) (by rfl) ?_ ?_
  ·refine Qc<|Qb<|x (Zs O)<|xe<|Q2 O (λg7=>?_) (λg7=>?_)
   ·have ho:cget d.num e.2.2.toNat<0:=by simpa using g7
    have hK:ZP d e=⟨d.ord++[e.2.2],d.num.set e.2.2.toNat d.ord.length,d.mk',d.ed⟩:=by unfold ZP;rw[mi,if_pos ho]
    have hcg:cget (ZP d e).num e.2.2.toNat=(d.ord.length:Int):=by rw[hK];unfold cget;simp[List.getD,gb]
    refine Qc<|Qb<|x (Qs (Qu.ints (L:=[]) ha.o (by omega) (by simp)) rfl)<|Qe<|Qc<|Qb<|x (Qa rfl)<|x (Qd hf rfl rfl)<|Qb<|xl rfl<|Y3 (k:=e.2.2) ha.M rfl rfl λw22 g8 hM22=>xe ?_;have mu:=ha.nm.set gb (v:=(d.ord.length:Int)) (by omega);rw[←ga] at mu;have hI6:=ha.setN hQ gu g8 hM22 mu;have ge:=hf.step g8 (by simp;omega)
    refine Qz<|Qb<|x (Qa O)<|x (Qd ge O O)<|xl O<|QD (us:=[[.int .i64 e.2.2]]) O O (by decide) (by simp) ⟨rfl,rfl,U⟩ λb114 w23 g9 hb114 hB114=>?_;have ka:=hI6.ext g9;refine xl O<|Q6 (news:=[.int .i64 e.2.2]) (L:=[]) ka.o O O O (hB114.at (by simp)) (by simp[Value.oneCell']) (by show d.ord.length+1≤_;omega) ka.st.size λmv w24 ho24 S hn24=>Qe ?_
    have hk24:Qu 3 E.heap.size w24 mv (d.ord++[e.2.2]):=Qu.snoc ho24;have hb12o:g5∉ob hV:=λhb=>by have:=QO hg.o g5 hb;omega
    have h4:=ka.setO hG hQ S hk24 hn24;have:=g8.size;have:=g9.size;have:=S.size;refine ⟨(mv,mput m4 e.2.2 (.int .i64 d.ord.length),(d.ord.length:Int)),⟨O,O,U⟩,hcg,?_,(ge.ext g9).step S hb12o,by omega⟩;simp only[];rw[hK];exact h4
   have ho:¬cget d.num e.2.2.toNat<0:=by simpa using g7
   have hK:ZP d e=d:=by unfold ZP;rw[mi,if_neg ho]
   have kg:(if cget d.num e.2.2.toNat<0 then 0 else cget d.num e.2.2.toNat)=cget (ZP d e).num e.2.2.toNat:=by rw[hK,if_neg ho]
   refine Qi<|⟨(hV,m4,if cget d.num e.2.2.toNat<0 then 0 else cget d.num e.2.2.toNat),⟨O,O,U⟩,kg.symm,?_,hf,Lr _⟩
   rw[hK];exact ha
  rintro ⟨vo5,m5,tn⟩ g w25 ⟨mw,h4,ge,hz25⟩;simp only[] at h4 mw;have hnl:(ZP d e).num.length=d.num.length:=QaF d e;have my:(ZP d e).ed=d.ed:=by unfold ZP;split <;> rfl
  have hgN:ZL (ZP d e).num e.2.2=cget (ZP d e).num e.2.2.toNat:=rfl;rw[hgN,my,mw] at mq;have heN:Ye 144 E.heap.size w25 hW d.ed:=by have:=h4.e;rw[my] at this;exact this
  refine Qz<|x (Qa O)<|x (Qd h4.B4 O O)<|Qb<|x (Qa O)<|x (Qd ge O O)<|Qb<|x (QE ⟨O,O,O,U⟩) <|
   xl rfl<|QD (us:=[Qw ((i:Int),e.2.1,tn)]) O O (by decide) (by exact (by decide:1*3≤1000000)) ⟨O,O,U⟩ λb123 w26 mz hb123 hB123=>?_
  have gg:=h4.ext mz;refine xl O<|Q6 (m:=1) (news:=Qw ((i:Int),e.2.1,tn)) (L:=[]) (Qq heN mz) O O O (hB123.at (by simp)) (λu hu=>by simp only[Qw,List.mem_cons,List.not_mem_nil,or_false] at hu;rcases hu with rfl | rfl | rfl <;> rfl) (by have:=J.el;omega) gg.st.size λm0 w27 m1 m2 hn27=>?_
  have hk27:Ye 144 E.heap.size w27 m0 (d.ed++[((i:Int),e.2.1,tn)]):=Ye.snoc m1;refine x (Qa O)<|xl O<|QL (gg.B4.step m2 (QU gg.e hG)) O O (by simp) (QJ m1) λw28 hs28 hB28=>xe ?_;have m3:=gg.setE hG hQ gu m2 hk27 hn27 hs28 hB28;rw[←mq] at m3;refine Qz<|QN O O<|Qb<|xe<|⟨(k4+1,Zd i d e,m5,vo5,m0),by simp only[];omega,⟨O,O,U⟩,m3,by simp only[];omega,mo,?_,?_,?_,h3⟩
  ·simp only[];rw[←g0];exact (zX i d [] e).2
  ·simp only[];rw[zY,k7];omega
  simp only[];obtain ⟨r1,h1⟩:=U8 i d e;obtain ⟨r2',h2⟩:=hX;exact ⟨r2'++r1,by rw[h1,h2,LC]⟩
 refine Qi ?_;have G:k<q.a.ed.length:=by have hP:(k:Int)<(q.a.ed.length:Int):=gq;omega
 have m6:=hq.ok.ed _ (Lc G);have htk:q.a.ed.take (k+1)=q.a.ed.take k++[q.a.ed[k]'G]:=Le G;have h5:(q.a.ed.take (k+1)).filter (λe=>lft lf e.2.2)=(q.a.ed.take k).filter (λe=>lft lf e.2.2)++if lft lf (q.a.ed[k]'G).2.2=true then [q.a.ed[k]'G] else []:=by
  rw[htk,L9];congr 1;by_cases h:lft lf (q.a.ed[k]'G).2.2=true
  ·simp[h]
  simp[h]
 have hfll:((q.a.ed.take k).filter (λe=>lft lf e.2.2)).length≤k:=LS (ME _ _) (by rw[Lx];omega);refine Zh ((q.a.ed.take k).filter (λe=>lft lf e.2.2)) λkept hkept=>?_;rw[hkept] at h5 T hfll;refine Zh (q.a.ed[k]'G) λe he=>?_;rw[he] at m6 h5;have m7:e.1=(e.1.toNat:Int):=by omega
 have ga:e.2.2=(e.2.2.toNat:Int):=by omega
 have gm:=K9 (l:=lf) (s:=e.2.2) (by omega);have hp:e.1.toNat<q.n:=by omega
 refine Qg<|Qh<|Qc<|xie kn.a.ed O O G λa52 hP=>?_;rw[he] at hP;refine x (QF hP O O)<|xl O<|Qt (us:=[.int .i64 0,.int .i64 0,.int .i64 0]) O λb7 w8 gr hb7 h6=>xl O<|Qp (us:=Qw e) h6 O O O O ⟨O,O,O,U⟩ λE gs h6=>xe ?_;have H:Step [] w7 E:=gr.then1 gs hb7;have p0:=H.size;have hA9:=kn.ext H;have hB9:=hB.ext (gp.trans H);have kb:=T.ext H;have hH:=go.ext H
 refine Qg<|QW (Step [] E) [(0,true),(1,true),(2,true),(3,true),(4,true),(5,true),(6,true),(7,true)] mixed (by rfl) (by kernel_rfl) (Step.drew _ _) ?_;refine p (λ_=>Qo)<|p (λ_=>QC O)<|p (λ_=>Qa O)<|pq (λ_ hc=>Qd (hA9.B.ext hc) O O)<|p (λ_=>Qa O)<|pq (λ_ hc=>Qd (h6.ext hc) O O) <|
  p (λ_=>Zf (i:=e.2.2.toNat) O (congrArg (Value.int .i64) ga) (by omega))<|pq (v:=.bool (lft lf e.2.2)) (λ_ hc=>(Xq (i:=e.2.2.toNat) (hB9.ext hc) O (by omega)).trans (by rw[gm]))<|pe ?_
 have h7:Step [] E { E with drawn:=E.drawn+1 }:=Step.drew _ _
 refine Q2 rfl (λkc=>?_) (λkc=>?_)
 ·rw[if_pos kc] at h5;have hrow:=kb.own _ hp;have ke:∀b∈ob (rv e.1.toNat),w6.heap.size≤b∧b<w7.heap.size:=λb hb=>⟨(Qn (T.own _ hp) b hb).1,QO (T.own _ hp) b hb⟩;have m8:bE∉ob (rv e.1.toNat):=λhb=>by have:=ke _ hb;omega
  have kf:b7∉ob (rv e.1.toNat):=λhb=>by have:=ke _ hb;omega
  have ko:=ya kept e.1.toNat;refine QW (Step (ob (rv e.1.toNat)) E) [(0,true),(1,true),(2,true),(3,true),(4,true),(5,true),(6,true),(7,true),(8,true),(9,false),(10,false),(11,true),(12,false)] mixed (by rfl) (by kernel_rfl) (h7.any.trans' (Step.drew _ _)) ?_;refine p (λ_=>Qo)<|p (λ_=>Qa O)<|pq (λ_ hc=>Qd (h6.step hc kf) O O)<|p (λ_=>Qo)<|p (λ_=>Qa O) <|
   pq (λ_ hc=>Qd (h6.step hc kf) O O)<|p (λ_=>Zf (i:=e.1.toNat) O (congrArg (Value.int .i64) m7) hp)<|pq (λ_ hc=>Qd (u:=rv e.1.toNat) (hH.step hc m8) O (z8 hp)) <|
   pq (λ_ hc=>Qr (h6.step hc kf) O O)<|pk<|QD (us:=[Qw e]) O O (by decide) (by exact (by decide:1*3≤1000000)) ⟨O,O,U⟩ λb71 gt hy hb71 hB71=>⟨(h7.any.trans' (Step.drew _ _)).trans' hy.any,?_⟩
  have h8:Step [] E gt:=(h7.trans (Step.drew _ _)).trans hy;have hz10:=h8.size;refine pk<|Q6 (m:=1) (news:=Qw e) (L:=[]) (Qq hrow h8) O O O (hB71.at (by simp)) (λu hu=>by simp only[Qw,List.mem_cons,List.not_mem_nil,or_false] at hu;rcases hu with rfl | rfl | rfl <;> rfl) (by omega) (by omega) λvr qc m9 gh hn11=>⟨h8.any.trans' gh,?_⟩
  have hBE11:=(hH.ext h8).step gh m8;have hlen:((List.range q.n).map rv).length=q.n:=by simp
  refine p (λ_=>Zf (i:=e.1.toNat) O (congrArg (Value.int .i64) m7) hp)<|pkl (hl:=by kernel_rfl)<|QL (j:=0+e.1.toNat*1) (u:=vr) hBE11 O O (by rw[hlen];omega) (QJ m9) λhj Y hBE12=>pe ?_;have g6:Q4 hj.heap bE 56 ((List.range q.n).map (JZ rv e.1.toNat vr)):=by
   have e1:=QcH id q.n rv e.1.toNat vr;simp only[id] at e1;rw[←e1];simpa using hBE12
  have hvn:∀b∈ob vr,b∈ob (rv e.1.toNat)∨E.heap.size≤b:=λb hb=>(hn11 b hb).imp id (λh=>by omega);have pa:=kb.app hp (Ye.snoc m9) (h8.any.trans' gh) hvn;have pc:=pa.step Y (λi hi b hb=>by have:=(Qn (pa.own i hi) b hb).1;simp only[List.mem_singleton];omega);rw[QbB kept e m6.1,←h5] at pc;refine Qz<|QN O O<|Qb<|xe ?_
  exact ⟨(k+1,JZ rv e.1.toNat vr),by simp only[];omega,Z,G,(((hO.trans H).trans h8).then gh (λb hb=>.inr (ke b hb).1)).trans' Y,g6,pc⟩
 rw[if_neg (by rw[kc];decide),LJ] at h5;refine Qi<|Qz<|QN O O<|Qb<|xe ?_;exact ⟨(k+1,rv),by simp only[];omega,Z,G,(hO.trans H).trans h7,(hH.ext h7),by simp only[];rw[h5];exact kb.ext h7⟩
open Go.Sort
abbrev Rz:={ x:Int×Int×Int×Int // 0≤x.1∧x.1<4096 }
instance:Inhabited Rz:=⟨⟨(0,0,0,0),by decide⟩⟩
abbrev VY (x:Rz):LV:=[.int .i64 x.1.1,.int .i64 x.1.2.1,.int .i64 x.1.2.2.1,.int .i64 x.1.2.2.2]
abbrev RzO (base:Nat) (w:World) (v:Value) (l:List Rz):Prop:=w.ownsRow base 320 4 v l.length (l.flatMap VY)
set_option maxHeartbeats 1000000 in
theorem Qjy (x y:Rz) (W:World):Calls prog 216 #[.agg (VY x).toArray,.agg (VY y).toArray] W λe w'=>e=.returned (.int .i64 (x.1.1 - y.1.1))∧∃q os',w'=grow (W.drewN q) os':=by
 have E:IntKind.i64.wrap (x.1.1 - y.1.1)=x.1.1 - y.1.1:=Yj ⟨by have:=x.2;have:=y.2;omega,by have:=x.2;have:=y.2;omega⟩
 go_enter func216,ntmps216
 go_wp2
 go_ret;exact ⟨by rw[←E];rfl,0,_,by rw[alloc_eq_grow,alloc_eq_grow,grow_grow];rfl⟩
theorem qX (x:Rz):(VY x).length=4:=rfl
theorem qW:∀l:List Rz,(l.flatMap VY).length=l.length*4
 | []=>rfl
 | x::l=>by rw[LB,Lk,qW l,qX,LQ];omega
theorem Qas {l:List Rz}{j:Nat}(G:j<l.length*4):(l.flatMap VY)[j]?=some ((flatK VY 4 l.toArray)[j]!):=by
 have h1:j / 4<l.length:=Nat.div_lt_of_lt_mul (by omega);have h2:j % 4<4:=Nat.mod_lt _ (by decide);rw[get_flatK _ _ _ _ (by simpa using G)];have h3:=YU VY 4 qX l (j / 4) h1;have H:(l.flatMap VY)[j]?=(VY (l[j / 4]'h1))[j % 4]?:=by
  rw[←h3,LK,if_pos h2,MM];congr 1;omega
 rw[H];have h5:(l.toArray)[j / 4]! = l[j / 4]'h1:=by simp[h1]
 rw[h5];have E:j % 4<(VY (l[j / 4]'h1)).length:=h2;exact (Lv E).trans (congrArg some (getElem!_pos (VY (l[j / 4]'h1)) (j % 4) E).symm)
theorem QhH:SWO (ltOf λx y:Rz=>x.1.1 - y.1.1) where
 irrefl x:=by unfold ltOf;simp
 trans x y z h1 h2:=by unfold ltOf at *;simp at *;omega
 ntrans x y z h1 h2:=by unfold ltOf at *;simp at *;omega
set_option maxHeartbeats 1000000 in
theorem Qbx {w:World}{base:Nat}{v:Value}{l:List Rz}(h:RzO base w v l) (hl:l.length≤1099511627776) :
  QI prog 215 [v,.func (.func 216) #[] #[]] w λ_ w'=>Step (ob v) w w'∧∃l',l'.length=l.length∧RzO base w' v l':=by
 unfold QI;rcases h.2 with ⟨rfl,h0⟩ | ⟨g,cap,cur,rfl,ha,H,S,hb,T,hf⟩
 ·have hh:l=[]:=Ln h0;subst hh;have hc:=AnyF.slices_SortFunc_none Tryz.sortRm none 0 (.func (.func 216) #[] #[]) w;change Calls prog 215 _ _ _ at hc;refine Calls.mono hc λe w' he=>?_;obtain ⟨rfl,rfl⟩:=he;exact ⟨Step.refl _ _,[],O,h⟩
 have V:g<w.heap.size:=(Lz.1 H).1;have hq:l.length*4≤cur.size:=by rw[T];exact Mm _ S
 have hH:HoldsK VY 4 w g 0 l.toArray:=by
  intro j E;rw[size_flatK,LU] at E;have h1:=Qas E;rw[←hf,LK,if_pos E] at h1;constructor
  ·show (match w.heap[g]? with | some (.cells c _ _)=>if (none:Option _).isSome then none else c[0+j]? | _=>none)=_
   rw[H];simp only[Nat.zero_add,Option.isSome_none,Bool.false_eq_true,if_false];rw[←L2,h1];rfl
  show (match w.heap[g]? with | some (.cells _ _ (lo,hi))=>decide (lo≤0+j) && decide (0+j<hi) | _=>false)=false
  rw[H];simp
 have eg:∀args w,(callFunc 216 args).run prog w=.ok (.enter 216 args) w:=enters_of func216 (by kernel_rfl) O;have hc:=AnyQ.slices_SortFunc Tryz.sortRm 4 Tryz.isAgg320 Tryz.sizeOf320 VY qX (λx v Y=>by simp at Y;rcases Y with rfl | rfl | rfl | rfl <;> rfl) (λx y=>x.1.1 - y.1.1) QhH 216 #[] g 0 cap l.toArray w eg (λm os dk _ x y=>Qjy x y _) hH V (by simp;omega)
 change Calls prog 215 _ _ _ at hc;rw[LU] at hc;refine Calls.mono hc λe w' he=>?_;obtain ⟨rfl,G,n,os,hp,_,rfl⟩:=he;have I:G.size=l.length:=by have:=hp.1;simpa using this
 have J:(sortWorldK VY 4 w g 0 n G os).heap=w.heap.modify g (onCells (putCells id 0 (flatK VY 4 G)))++os:=rfl;refine ⟨⟨rfl,O,O,?_,λk hk hn=>?_⟩,G.toList,by simpa using I,?_⟩
 ·rw[J,MQ,L5];omega
 ·rw[J,L8,L5,if_pos hk,Mg,if_neg (λe=>hn (by simp[ob,e]))]
 refine ⟨qW _,.inr ⟨g,cap,putCells id 0 (flatK VY 4 G) cur,by simp[I],ha,?_,by simp[I];exact S,hb,by simp[putCells,T],?_⟩⟩
 ·rw[J,L8,L5,if_pos V,Mg,if_pos rfl,H];rfl
 apply M2;intro j;rw[LK];by_cases E:j<G.toList.length*4
 ·rw[if_pos E,Qas E,L2];have hm:j<cur.size:=by simp[I] at E;omega
  have ho:j<(flatK VY 4 G).size:=by simpa using E
  simp only[putCells,Array.getElem?_mapIdx,Array.getElem?_eq_getElem hm,Option.map_some,Nat.zero_le,Nat.zero_add,true_and,if_pos ho,Nat.sub_zero,id]
 rw[if_neg E,M0];rw[qW];omega
theorem QhQ {a:QP}{ul:LI}{lf:Lf}{n:Nat}(E:Zi a) (G:a.st=(n:Int)) (hl:lf.length=n):∀x∈nxs a ul lf,0≤x∧x<(n:Int):=λx hx=>by
 have h1:=Qdz x hx;have h2:x.toNat<n:=by
  refine Decidable.byContradiction λh=>?_;unfold lft at h1;simp[List.getD,List.getElem?_eq_none (show lf.length≤x.toNat by omega)] at h1
 unfold nxs at hx;split at hx
 ·obtain ⟨p,hp,rfl⟩:=Ly.1 hx;obtain ⟨_,e,he,h3,_⟩:=(zm a ul lf).1 p hp;have:=E.ed e he;omega
 have:=((KU lf (dsts a lf) 0).1 x hx).2;omega
theorem Qhf {rk rs:Int}:∀(l:List (Int×Int)),(∀x∈l.map (·.1),0≤x∧x<4096)→∃lz:List Rz,lz.flatMap VY=l.flatMap (yb rk rs)∧lz.length=l.length
 | [],_=>⟨[],O,O⟩
 | x::l,h=>by
  obtain ⟨lz,h1,h2⟩:=Qhf l (λy hy=>h y (Lm _ hy));exact ⟨⟨(x.1,rk,rs,x.2),h x.1 Ls⟩::lz,by rw[LB,LB,h1],by simp[h2]⟩
theorem QaD:∀l:List Rz,∀u∈l.flatMap VY,u.oneCell'=true
 | [],u,h=>by cases h
 | x::l,u,h=>by
  rw[LB,Li] at h;rcases h with h | h
  ·simp only[VY,List.mem_cons,List.not_mem_nil,or_false] at h;rcases h with rfl | rfl | rfl | rfl <;> rfl
  exact QaD l u h
theorem RzO.snoc {base:Nat}{w:World}{v:Value}{l m:List Rz}(h:w.ownsRow base 320 4 v (l.length+m.length) (l.flatMap VY++m.flatMap VY)):RzO base w v (l++m):=by
 unfold RzO;rw[Lk,LA];exact h
abbrev X9 (k d r:Value) (n:Int):LV:=[k,d,r,.int .i64 n,nS,.int .i64 0,nS,nS,nS]
structure ReI (b10:Nat) (q:Pz) (wB:World) (lf:Lf) (rn:Int) (vr:Value) (lz:List Rz) (w:World):Prop where
 st:Step [b10,q.bl] wB w
 B10:Q4 w.heap b10 170 (X9 (nS) (nS) vr rn)
 R:RzO wB.heap.size w vr lz
 F:Q4 w.heap q.bl 4 (lf.map Value.bool)
 n:lf.length=q.n
section
variable {b10:Nat} {q:Pz} {wB w w' w'':World} {lf:Lf} {rn:Int} {vr:Value} {lz:List Rz}
theorem ReI.ext (h:ReI b10 q wB lf rn vr lz w) (hs:Step [] w w'):ReI b10 q wB lf rn vr lz w':=⟨h.st.trans hs,h.B10.ext hs,Qq h.R hs,h.F.ext hs,h.n⟩
theorem ReI.cut (h:ReI b10 q wB lf rn vr lz w) (l:q.bl<wB.heap.size) (ne:b10≠q.bl) (hs:Step [q.bl] w w') {E:Lf}(G:Q4 w'.heap q.bl 4 (E.map Value.bool)) (H:E.length=q.n):ReI b10 q wB E rn vr lz w' :=
 ⟨h.st.then hs (λb hb=>.inl (by simp only[List.mem_singleton] at hb;simp[hb])),h.B10.step hs (by simpa using ne),Qk h.R hs (λb hb=>by have:=(Qn h.R b hb).1;simp only[List.mem_singleton];omega),G,H⟩
theorem ReI.app (h:ReI b10 q wB lf rn vr lz w) (l:q.bl<wB.heap.size) (T:b10<wB.heap.size) (ne:b10≠q.bl) {E:Value}{H:List Rz}{I:Int}(hs:Step (ob vr) w w') (J:RzO wB.heap.size w' E H) (G:Step [b10] w' w'')
  (S:Q4 w''.heap b10 170 (X9 (nS) (nS) E I)):ReI b10 q wB lf I E H w'':=by
 have hge:=Qn h.R;exact ⟨(h.st.then hs (λb hb=>.inr (hge b hb).1)).then G (λb hb=>.inl (by simp only[List.mem_singleton] at hb;simp[hb])),S,Qk J G (λb hb=>by have:=(Qn J b hb).1;simp only[List.mem_singleton];omega),
  (h.F.step hs (λhb=>by have:=(hge _ hb).1;omega)).step G (by simpa using ne.symm),h.n⟩
theorem ReI.rounds (h:ReI b10 q wB lf rn vr lz w) (I:b10<wB.heap.size) (ne:b10≠q.bl) {G:Int}(E:Step [b10] w w') (H:Q4 w'.heap b10 170 (X9 (nS) (nS) vr G)):ReI b10 q wB lf G vr lz w' :=
 ⟨h.st.then E (λb hb=>.inl (by simp only[List.mem_singleton] at hb;simp[hb])),H,Qk h.R E (λb hb=>by have:=(Qn h.R b hb).1;simp only[List.mem_singleton];omega),h.F.step E (by simpa using ne.symm),h.n⟩
end
set_option maxHeartbeats 8000000 in
theorem QbD {w:World}{va vm ve vf vu:Value}{a:QP}{forb unc:LI}(h:Zu [] w.heap va vm ve a) (hw:Zi a) (hf:QK [] w.heap vf forb) (gv:∀x∈forb,0≤x∧x<a.st) (qk:forb.length≤4096) (hu:QK [] w.heap vu unc) :
  QI prog 159 [.agg #[va,.int .i64 a.st,vm,ve],vf,vu,.bool true] w λr w'=>Step [] w w'∧∃c0 c1 c2 c3 sa sm se o,r=.agg #[c0,c1,c2,c3,sa,.int .i64 (qR a forb unc).st,sm,se,o] ∧
   ZO [c0,c1,c2,c3,o]∧∀L:LN,(∀b∈L,b<w.heap.size)→Zu L w'.heap sa sm se (qR a forb unc):=by
 have qo:=hw.st0;have qr:=hw.st1;obtain ⟨n,hn⟩:∃n:Nat,a.st=n:=⟨a.st.toNat,by omega⟩;have kw:a.st.toNat=n:=by omega
 have hC:qR a forb unc=jp a (UR a unc (n+1) (lf0 n forb)):=by unfold qR Qjb;rw[kw]
 refine Zh (qR a forb unc) λSA kx=>?_;rw[kx] at hC ⊢;refine QI.of_W func159 O ntmps159 results159 (by simp) ?_;refine Qc<|xl O<|QQ (us:=[va,.int .i64 a.st,vm,ve]) O λb4 w1 gw q0 ky=>xl O<|Qt (us:=X9 (nS) (nS) (nS) 0) O λb8 w2 hU q1 gx=>xe ?_;have hE:=gw.trans hU;have q2:=gx.lt;have q3:=gw.size;have q4:=hU.size
 refine Qc<|x (Qr (ky.ext hU) O O)<|Qb<|Qb<|xl O<|xf<|(QcZ (h.ext hE) hw hn (hf.ext hE) gv (hu.ext hE)).mono ?_;rintro r3 w3 ⟨hV,bp,q,rfl,kz,k0,k4,za,hP,hF⟩;refine Qe ?_;subst kz k0 k4;have hq:PzQ q:=⟨hw,hn⟩;have k5:=hE.trans hV;have zv:=hV.size;have z0:=hF.lt;refine Qc<|xl O<|Qt (us:=X9 (nS) (nS) (nS) 0) O λb10 I hz k6 gy=>xe ?_;have hW:=k5.trans hz
 have z2:=hz.size;have hG:=gy.lt;have hg:b10≠q.bl:=by omega
 have hX:q.bl<I.heap.size:=by omega
 have k7:zO [b10,q.bl] I.heap bp q:=(hP.up (λb hb=>by
  simp only[List.mem_cons,List.not_mem_nil,or_false] at hb;rcases hb with rfl | rfl
  ·exact .inr k6
  exact .inl (by simp))).ext hz
 have k8:=Qf9 q.n forb;have h3:∀{w'},Step [b10,q.bl] I w'→zO [] w'.heap bp q:=λhs=>(k7.st hs).up (by simp);refine Qg<|Qc<|Qb<|x (Qs (hf.ext hW) O)<|Qb<|xe ?_
 refine Qh<|QA (α:=Nat×Int×Value×List Rz) [(12,12),(25,39)] (λz=>[(25,.int .i64 z.1)]) (λz w'=>z.1≤forb.length∧ReI b10 q I (lf0 q.n forb) z.2.1 z.2.2.1 z.2.2.2 w'∧z.2.2.2.length=z.1∧(z.2.1=0∨z.2.1=1)) (λz=>forb.length - z.1) (by rfl) (0,0,nS,[]) Z
  ⟨Lj _,⟨Step.refl _ _,gy,QM _ _ _ _,hF.ext hz,k8⟩,O,.inl O⟩ ?_
 rintro ⟨k,rn,vr,lz⟩ g w5 ⟨hk,G,hY,hH⟩;simp only[] at hk G hY hH;have k9:QK [] w5.heap vf forb:=((hf.up (L':=[b10,q.bl]) (λb hb=>by
  simp only[List.mem_cons,List.not_mem_nil,or_false] at hb;exact .inr (by omega))).ext hW |>.st G.st).up (by simp)
 refine Qc<|x (QB O O)<|xe<|Qg<|QH O (λgz=>?_) (λgz=>?_)
 ·refine Qy ?_;have z3:=QgP (lf0 q.n forb);refine Qg<|Qc<|Qe<|Qh<|QA (α:=Nat×Nat×Int×Value×List Rz×Lf) [(13,14),(16,16),(40,71)] (λz=>[(13,.int .i64 z.2.1)])
   (λz w'=>ReI b10 q I z.2.2.2.2.2 z.2.2.1 z.2.2.2.1 z.2.2.2.2.1 w'∧z.2.1+z.1=q.n+3∧z.2.2.2.2.1.length≤4096+z.2.1*1000000∧UR q.a q.unc z.1 z.2.2.2.2.2=UR q.a q.unc (q.n+1) (lf0 q.n forb)∧J6 z.2.2.2.2.2+1≤z.1) (λz=>z.1) (by rfl)
   (q.n+1,2,rn,vr,lz,lf0 q.n forb) Z ⟨G,by simp only[];omega,by simp only[];omega,O,by simp only[];omega⟩ ?_
  rintro ⟨f,rank,rn,vr,lz,lf⟩ g w6 ⟨G,ma,hY,h4,mc⟩;simp only[] at G ma hY h4 mc;refine Qg<|Qh<|Qc<|Qb<|Qb<|Qb<|xl O<|xf<|(Qdq (h3 G.st) hq G.F G.n rank).mono ?_;rintro r7 w7 ⟨h5,rs,l,hZ,hJ,z4⟩;refine Qe ?_;have J:=G.ext h5;have g0:Zq [] w7.heap r7 l.length 4 (l.flatMap (yb rank rs)):=QS hZ (by omega) (by simp)
  have g2:(nxs q.a q.unc lf).length=l.length:=by rw[←hJ,Lh]
  have ga:=QhQ (ul:=q.unc) hw hn G.n;rw[←hJ] at ga;refine Qg<|Qc<|Qb<|x (Qs g0 O)<|x (Q5 O O)<|xe<|Q7 O (λgb=>?_) (λgb=>?_)
  ·refine Qy ?_;have hM:l.length=0:=by have z5:(l.length:Int)=0:=gb;omega
   rw[QbF (by rw[g2];exact hM)] at h4;rw[←h4] at hC;refine Qc<|x (Qa O)<|x (Qa O)<|x (Qd J.B10 O O)<|xl O<|xf<|(Qbx J.R (by omega)).mono ?_;rintro r8 S ⟨T,z9,_,mf⟩;refine xe ?_;have hge:=Qn J.R;have gc:Step [b10,q.bl] I S:=J.st.then T (λb hb=>.inr (hge b hb).1);have ge:Q4 S.heap b10 170 (X9 (nS) (nS) vr rn):=J.B10.step T (λhb=>by have:=(hge _ hb).1;omega)
   have g3:Q4 S.heap q.bl 4 (lf.map Value.bool):=J.F.step T (λhb=>by have:=(hge _ hb).1;omega);have g4:=QJ mf;have hz8:=gc.size;refine Qg<|Qc<|Qb<|xl O<|xf<|(KO (h3 gc) hq g3 J.n).mono ?_;rintro r9 E ⟨V,bD,rfl,hbD,g5,hN⟩;refine Zh (dsts q.a lf) λD hD=>?_;rw[hD] at g5 hN;have g6:QK [b10] E.heap (.slice (some ⟨bD,0,none⟩) q.n q.n) D:=by
    have h1:=g5.arr (L:=[b10]) (by simp only[List.mem_singleton];omega) (n:=q.n) (cap:=q.n) (sz:=1) (by simp[hN]) (by omega) (Lr _);unfold QK;rw[hN];exact h1
   have mg:=gc.trans V;have hz9:=V.size;have mh:=g3.ext V;refine x (Qs g6 O)<|Qb<|xe<|Qh<|QA (α:=Nat×Value×Value×LI×LI) [(17,18),(79,107)] (λz=>[(79,.int .i64 z.1)])
    (λz w'=>z.1≤D.length∧Step [b10] E w'∧Q4 w'.heap b10 170 (X9 z.2.1 z.2.2.1 vr rn)∧Qu 3 E.heap.size w' z.2.1 z.2.2.2.1∧Qu 3 E.heap.size w' z.2.2.1 z.2.2.2.2∧Dj z.2.1 z.2.2.1∧z.2.2.2.1.length≤z.1∧z.2.2.2.2.length≤z.1) (λz=>D.length - z.1) (by rfl) (0,nS,nS,[],[]) Z
    ⟨Lj _,Step.refl _ _,ge.ext V,QM _ _ _ _,QM _ _ _ _,Dj.nil' _,Lr _,Lr _⟩ ?_
   rintro ⟨i,vk,vd,lk,ld⟩ g h6 ⟨hi,Y,h7,hK,hh,hO,mi,mj⟩;simp only[] at hi h7 hK hh hO mi mj;have hz10:=Y.size;have hQ:Step [b10,q.bl] I h6:=mg.then Y (λb hb=>.inl (by simp only[List.mem_singleton] at hb;simp[hb]));have g7:Q4 h6.heap q.bl 4 (lf.map Value.bool):=mh.step Y (by simpa using hg.symm);refine Qc<|x (QB O O)<|xe ?_
   refine Qg<|QH O (λg8=>?_) (λg8=>?_)
   ·refine Qy<|Qc<|Qb<|xl O<|xf<|(V5 (h3 hQ) hq g7 J.n).mono ?_;rintro r11 mn ⟨he,_,o,rfl,⟨sa,sm,se,rfl,gg⟩,gh⟩;rw[←hC] at gg;have hp:=gg [] (by simp);have hz11:=he.size
    refine Qb<|x (Ql O O)<|x (Ql O O)<|x (Qa O)<|xl O<|JF (us:=[sa,.int .i64 SA.st,sm,se]) (h7.ext he) O (by rw[←hC];rfl) O (by simp) ⟨hp.al.one,rfl,hp.mr.one,hp.ed.one,U⟩ rfl λw12 gi mo =>
     x (Qa rfl)<|xl O<|QL (j:=8) (u:=o) mo O O (by simp) gh λw13 gj mq=>xe ?_
    have mu:b8∉[b10,q.bl]:=by simp only[List.mem_cons,List.not_mem_nil,or_false];omega
    have g9:b8∉[b10]:=by simp only[List.mem_singleton];omega
    have mv:=(((((gx.ext (hV.trans hz)).step hQ mu).ext he).step gi g9).step gj g9);refine Qc<|x (Qr mq O O)<|xl O<|Qp (us:=[vk,vd,vr,.int .i64 rn,sa,.int .i64 SA.st,sm,se,o]) mv O O O O ⟨QJ hK,QJ hh,g4,O,hp.al.one,O,hp.mr.one,hp.ed.one,gh,U⟩ λmw ka my=>xe ?_
    have mz:∀b∈[b10,q.bl],w.heap.size≤b:=λb hb=>by simp only[List.mem_cons,List.not_mem_nil,or_false] at hb;omega
    have m0:Step [] w mw:=((((hW.then hQ (λb hb=>.inr (mz b hb))).trans he).then1 gi (by omega)).then1 gj (by omega)).then1 ka (by omega);refine Qm ⟨[.agg [vk,vd,vr,.int .i64 rn,sa,.int .i64 SA.st,sm,se,o].toArray],⟨⟨_,O,Qx O (my.at (L:=[]) (by simp)).cells⟩,U⟩,m0,vk,vd,vr,.int .i64 rn,sa,sm,se,o,rfl,⟨QJ hK,QJ hh,g4,rfl,gh,U⟩,λL hL=>?_⟩
    have h1:=gg (b10::b8::L) (λb hb=>by
     simp only[List.mem_cons] at hb;rcases hb with rfl | rfl | hb
     ·omega
     ·omega
     have:=hL b hb;omega)
    have h2:=((h1.st (gi.mono (by simp))).st (gj.mono (by simp))).st (ka.mono (by simp));exact h2.up (λb hb=>.inl (by simp[hb]))
   refine Qi ?_;have h8:i<D.length:=by have h81:(i:Int)<(D.length:Int):=g8;omega
   have gk:i<lf.length:=by rw[J.n,←hN];exact h8
   have m1:lf[i]'gk=lf.getD i false:=by simp[List.getD,gk]
   refine Qg<|Qh<|Qc<|Qb<|xii (i:=i) (g6.st Y) O O h8 λa82 kb=>?_;refine Zh (D[i]'h8) λd hd=>?_;rw[hd] at kb;refine x (Qv kb O)<|x Qf<|Qe<|Qc<|Qb<|x (QC O)<|x (Qa O)<|x (Qd (h3 hQ).B O O)<|Qb<|x (Zf (i:=i) O O (by omega))<|x (v:=.bool (lf.getD i false)) ((Xq (i:=i) g7 O gk).trans (by rw[m1]))<|xe<|Q2 O (λm2=>?_) (λm2=>?_)
   ·have h9:∀{v:Value} {l:LI} {w':World},Qu 3 E.heap.size w' v l→b10∉ob v:=λho hm=>by have:=(Qn ho b10 hm).1;omega
    refine Qc<|x (Qa O)<|x (Qa O)<|x (Qd h7 O O)<|Qb<|xl O<|QD (us:=[[.int .i64 i]]) O O (by decide) (by simp) ⟨rfl,rfl,U⟩ λb95 y1 hr hb95 m3=>xl rfl<|Q6 (m:=1) (news:=[.int .i64 i]) (L:=[]) (Qq hK hr) rfl rfl rfl (m3.at (by simp)) (by simp[Value.oneCell']) (by omega) (by have:=hr.size;omega) λhA y2 kc hR m4 =>
     x (Qa rfl)<|x (Qa O)<|xl O<|QL (j:=0) (u:=hA) ((h7.ext hr).step hR (h9 hK)) O O (by simp) (QJ kc) λy3 gl ke=>xe ?_
    have m5:Qu 3 E.heap.size y2 hA (lk++[(i:Int)]):=Qu.snoc kc;have hzy1:=hr.size;have hzy2:=hR.size;have hzy3:=gl.size;have m6:Qu 3 E.heap.size y2 vd ld:=Qk (Qq hh hr) hR (λb hb hm=>hO b hm hb);have kf:Dj hA vd:=λb hb hm=>by
     rcases m4 b hb with h1 | h1
     ·exact hO b h1 hm
     have:=QO hh b hm;omega
    have kg:∀{v:Value} {l:LI},Qu 3 E.heap.size y2 v l→Qu 3 E.heap.size y3 v l:=λho=>Qk ho gl (λb hb hm=>by simp only[List.mem_singleton] at hm;subst hm;exact h9 ho hb);have kh:=kg m5;have gm:=kg m6;have m7:Step [b10] E y3:=(((Y.trans hr).then hR (λb hb=>.inr (Qn hK b hb).1))).trans' gl
    refine Qz<|x (Qa O)<|x (Qa O)<|x (Qd ke O O)<|Qb<|xl O<|QD (us:=[[.int .i64 d]]) O O (by decide) (by simp) ⟨rfl,rfl,U⟩ λb103 y4 ht hb103 m8=>xl rfl<|Q6 (m:=1) (news:=[.int .i64 d]) (L:=[]) (Qq gm ht) rfl rfl rfl (m8.at (by simp)) (by simp[Value.oneCell']) (by omega) (by have:=ht.size;omega) λgn y5 ki go m9 =>
     x (Qa rfl)<|x (Qa O)<|xl O<|QL (j:=1) (u:=gn) ((ke.ext ht).step go (h9 gm)) O O (by simp) (QJ ki) λy6 gp pa=>xe ?_
    have kj:Qu 3 E.heap.size y5 gn (ld++[d]):=Qu.snoc ki;have kk:Qu 3 E.heap.size y5 hA (lk++[(i:Int)]):=Qk (Qq kh ht) go (λb hb hm=>kf b hb hm);have hzy4:=ht.size;refine Qz<|QN O O<|Qb<|xe ?_
    refine ⟨(i+1,hA,gn,_,_),by simp only[];omega,Z,h8,(((m7.trans ht).then go (λb hb=>.inr (Qn gm b hb).1))).trans' gp,pa,Qk kk gp (λb hb hm=>by simp only[List.mem_singleton] at hm;subst hm;exact h9 kk hb),Qk kj gp (λb hb hm=>by simp only[List.mem_singleton] at hm;subst hm;exact h9 kj hb),λb hb hm=>?_,by simp only[List.length_append,List.length_singleton];omega,by simp only[List.length_append,List.length_singleton];omega⟩
    rcases m9 b hm with h1 | h1
    ·exact kf b hb h1
    have:=QO kh b hb;omega
   refine Qi<|Qz<|QN O O<|Qb<|xe ?_;exact ⟨(i+1,vk,vd,lk,ld),by simp only[];omega,Z,h8,Y,h7,hK,hh,hO,by simp only[];omega,by simp only[];omega⟩
  refine Qi ?_;have hM:¬l.length=0:=λe=>gb (by show (l.length:Int)=0;omega);have kn:(nxs q.a q.unc lf).length≠0:=by rw[g2];exact hM
  have pc:=QdA kn;refine Exists.elim (Nat.exists_eq_succ_of_ne_zero (show f≠0 by omega)) λf' pd=>?_;subst pd;rw[QbE kn,←hJ] at h4;rw[←hJ] at pc;refine Exists.elim (Qhf (rk:=(rank:Int)) (rs:=rs) l (λx hx=>by have:=ga x hx;omega)) λln hv=>?_;have hz67:=h5.size;refine Qg<|Qc<|Qb<|x (Qs g0 O)<|Qb<|xe ?_
  refine Qh<|QA (α:=Nat) [(16,16),(51,62)] (λz=>[(51,.int .i64 z)]) (λz w'=>z≤l.length∧Step [q.bl] w7 w'∧ReI b10 q I (((l.take z).map (·.1)).foldl cut lf) rn vr lz w') (λz=>l.length - z) (by rfl) 0 Z ⟨Lj _,Step.refl _ _,J⟩ ?_;rintro j g S ⟨hj,T,H⟩;have hH:∀b∈ob r7,b≠q.bl:=λb hb e=>by have:=(Qn hZ b hb).1;have:=G.st.size;omega
  have pf:RmO w6.heap.size S r7 rank rs l:=Qk hZ T (λb hb hm=>hH b hb (by simpa using hm));have ko:Zq [q.bl] S.heap r7 l.length 4 (l.flatMap (yb rank rs)):=QS pf (by omega) (λb hb hm=>hH b hb (by simpa using hm));refine Qc<|x (QB O O)<|xe<|Qg<|QH O (λgq=>?_) (λgq=>?_)
  ·refine Qy ?_;have pg:l.length≤j:=by have hS:¬(j:Int)<(l.length:Int):=gq;omega
   rw[Ll pg] at H;obtain ⟨ad,cap7,ph,_,pj⟩:∃ad cap,r7=.slice (some ad) l.length cap∧l.length≤cap∧At [q.bl] S.heap ad (l.flatMap (yb rank rs)):=by
    rcases ko.2.2 with ⟨_,h0⟩ | h1
    ·exact absurd h0 hM
    exact h1
   have hlnl:ln.length*4=l.length*4:=by rw[hv.2]
   refine Qc<|x (Qa O)<|x (Qa O)<|x (Qd H.B10 O O)<|Qb<|xl O<|Q6 (m:=l.length) (news:=l.flatMap (yb rank rs)) (L:=[q.bl]) H.R O ph (by rw[←hv.1,qW,hv.2]) pj (by rw[←hv.1];exact QaD ln) (by omega) H.st.size λgr pm kp kq hn22 =>
    x (Qa O)<|x (Qa O)<|xl O<|QL (j:=2) (u:=gr) (H.B10.step kq (λhb=>by have:=(Qn H.R _ hb).1;omega)) O O (by simp) (QJ kp) λw23 pn po=>xe ?_
   have pp:RzO I.heap.size pm gr (lz++ln):=RzO.snoc (by rw[hv.1,hv.2];exact kp);have kr:=H.app hX hG hg kq pp pn po;refine Qz<|Qb<|x (Qa O)<|xl O<|QL (j:=3) (u:=.int .i64 rank) kr.B10 O O (by simp) rfl λw24 pt pu=>xe ?_;have pw:=kr.rounds hG hg pt pu;have pz:(-9223372036854775808:Int)≤(rank:Int)+1:=by omega
   have p0:(rank:Int)+1≤9223372036854775807:=by omega
   refine Qz<|Qb<|x (Yv O O ⟨pz,p0⟩)<|Qe ?_;exact ⟨(f',rank+1,(rank:Int),gr,lz++ln,(l.map (·.1)).foldl cut lf),by simp only[];omega,Z,pw,by simp only[];omega,by simp only[List.length_append];omega,h4,by simp only[];omega⟩
  refine Qi ?_;have ha:j<l.length:=by have hS:(j:Int)<(l.length:Int):=gq;omega
  have p1:l.take (j+1)=l.take j++[l[j]'ha]:=Le ha;have kt:((l.take (j+1)).map (·.1)).foldl cut lf=cut (((l.take j).map (·.1)).foldl cut lf) (l[j]'ha).1:=by rw[p1,Lt,Md];rfl
  have p2:=ga (l[j]'ha).1 (LG (Lc ha));refine Zh (l[j]'ha) λy hy=>?_;rw[hy] at kt p2;have p3:y.1=(y.1.toNat:Int):=by omega
  refine Qg<|Qh<|Qc<|xig (g:=yb rank rs) (i:=j) (Qat rank rs) ko O O ha λa53 hS=>?_;rw[hy] at hS;refine x (QF hS O O)<|xl O<|Qt (us:=[.int .i64 0,.int .i64 0,.int .i64 0,.int .i64 0]) O λb16 E V p4 gs=>xl O<|Qp (us:=yb rank rs y) gs O O O O ⟨O,O,O,O,U⟩ λh6 Y gs=>xe ?_;have ku:Step [] S h6:=V.then1 Y p4;have gt:=H.ext ku;have p5:=H.n
  refine QW (Step [] h6) [(0,true),(1,true),(2,true),(3,true),(4,true),(5,true),(6,true),(7,false)] mixed (by rfl) (by kernel_rfl) (Step.drew _ _) ?_;refine p (λ_=>Qo)<|p (λ_=>QC O)<|p (λ_=>Qa O)<|pq (λ_ hc=>Qd ((h3 gt.st).B.ext hc) O O)<|p (λ_=>Qa O)<|pq (λ_ hc=>Qd (gs.ext hc) O O) <|
   p (λ_=>Zf (i:=y.1.toNat) O (congrArg (Value.int .i64) p3) (by omega))<|pkl (hl:=by kernel_rfl)<|V6 (i:=y.1.toNat) (gt.F.ext (Step.drew _ _)) O O (by omega) λmn he p6=>pe ?_
  refine Qz<|QN O O<|Qb<|xe<|⟨j+1,by omega,Z,ha,((T.trans ku).trans (Step.drew _ _)).trans' he,?_⟩;rw[kt];exact (gt.ext (Step.drew _ _)).cut hX hg he p6 (by rw[Qba];exact p5)
 refine Qi ?_;have hT:k<forb.length:=by have gu:(k:Int)<(forb.length:Int):=gz;omega
 have p7:=gv _ (Lc hT);refine Zh (forb[k]'hT) λy hy=>?_;rw[hy] at p7;refine Qg<|Qh<|Qc<|xii (i:=k) k9 O O hT λa27 gu=>?_;rw[hy] at gu;refine x (Qv gu O)<|Qe<|Qc<|x (Qa O)<|x (Qa O)<|x (Qd G.B10 O O)<|Qb<|x (QE ⟨O,O,O,O,U⟩)<|xl O<|QD (us:=[[.int .i64 y,.int .i64 1,.int .i64 1,.int .i64 (-1)]]) O O (by decide) (by simp) ⟨rfl,rfl,U⟩ λb34 w6 p8 hb34 p9=>?_
 have hB:=G.ext p8;refine xl rfl<|Q6 (m:=1) (news:=[.int .i64 y,.int .i64 1,.int .i64 1,.int .i64 (-1)]) (L:=[]) hB.R O O O (p9.at (by simp)) (by simp[Value.oneCell']) (by omega) hB.st.size λv7 w7 kv h5 hn7 =>
  x (Qa rfl)<|x (Qa O)<|xl O<|QL (j:=2) (u:=v7) (hB.B10.step h5 (λhb=>by have:=(Qn hB.R _ hb).1;omega)) O O (by simp) (QJ kv) λS T ge=>xe ?_
 have qb:RzO I.heap.size w7 v7 (lz++[⟨(y,1,1,-1),by simp only[];omega⟩]):=RzO.snoc kv;have H:=hB.app hX hG hg h5 qb T ge;refine Qz<|x (Qa O)<|xl O<|QL (j:=3) (u:=.int .i64 1) H.B10 O O (by simp) rfl λE V qc=>xe ?_;have qj:=H.rounds hG hg V qc;refine Qz<|QN O O<|Qb<|xe ?_
 exact ⟨(k+1,1,v7,_),by simp only[];omega,Z,hT,qj,by simp only[List.length_append,List.length_singleton];omega,.inr O⟩
end Go.Proofs.YtdffckgdcegpaaaGreatDoor
