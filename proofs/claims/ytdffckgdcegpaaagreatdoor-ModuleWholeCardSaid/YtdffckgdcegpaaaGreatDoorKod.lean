/- Merged out of 43 texts. -/
import Derived.Test.YtdffckgdcegpaaaGreatDoorKoc
import Derived.Shelf.SlSortCmp.NoneTotal
import Derived.Tactics
import Derived.Sort.Grow
import Derived.Deep.Draws
import Derived.Sort.Statements
import Derived.Shelf.Lay
import Derived.Tactics2
import Derived.Laws.IdiomStrings
import Derived.Shelf.SortM.Plain
import Derived.Shelf.SortM.SortNone
import Derived.Shelf.SlicesE.Compact
import Derived.Shelf.SlicesE.DeleteFunc
import Derived.Ground.SlgmProg
import Derived.Ground.SlgnProg
import Derived.Ground.SlgfProg
namespace Go.Proofs.YtdffckgdcegpaaaGreatDoor
open Go.Proofs.Tryz
open Go.Lg
theorem QhF {L:LN}{w:World}{v:Value}{S:Nat}{c:Zw}{E:LN}{g:Nat}{fn:Func}[Fu prog g fn] {cap:LV}{q:Nat→Bool}(h:Zp L w.heap v E.length 3 (E.flatMap (yI S c)))
  (hk:∀(m:Nat) (H:World),Step [] w H→QK prog g ([.agg (yI S c m).toArray]++cap) H λr w'=>r=.bool (q m)∧Step [] H w') :
  QK prog 62 [v,.func (.func g) #[] cap.toArray] w λr w'=>Step [] w w'∧∃i:Int,r=.int .i64 i∧((i=-1∧∀m∈E,q m=false)∨∃k:Nat,∃m,E[k]?=some m∧i=(k:Int)∧q m=true):=by
 have hf:=h.le;refine QK.of_W func62 O ntmps62 results62 (by simp) ?_;refine Qc<|Qe<|Qf<|Qc<|Qb<|x (Qs h O)<|Qb<|xe<|Qh<|QB (α:=Nat) [(4,5),(8,18)] (λz=>[(8,.int .i64 z)]) (λz w'=>z≤E.length∧Step [] w w'∧∀m∈E.take z,q m=false) (λz=>E.length - z) (by rfl) 0 Z ⟨Lk _,Step.refl _ _,λm hm=>by simp at hm⟩ ?_;rintro k g' H ⟨hg,I,T⟩;refine Qc<|x (QA O O)<|xe ?_
 refine Qf<|QG O (λh9=>?_) (λh9=>?_)
 ·refine Qz ?_;have he:E.length≤k:=by have J:¬(k:Int)<(E.length:Int):=h9;omega
  rw[Lm he] at T;refine Qc<|Qe ?_;exact Qn ⟨[.int .i64 (-1)],Z,I,-1,O,.inl ⟨O,T⟩⟩
 have G:k<E.length:=by have J:(k:Int)<(E.length:Int):=h9;omega
 have V:E.take (k+1)=E.take k++[E[k]'G]:=Le G;have Y:E[k]?=some (E[k]'G):=LB G;refine Qi<|Qf<|Qh<|Qc<|Qb<|Qe<|Qc<|Qb<|Qb<|Qb<|xig (g:=yI S c) (i:=k) (Uw S c) (h.ext I) O O G λhh ha=>?_;refine Zd (E[k]'G) λm hm=>?_;rw[hm] at ha V Y;refine x (QI ha O O)<|xl O<|xc (first:=[]) (capt:=cap) O<|(hk m H I).mono ?_
 rintro r2 w2 ⟨rfl,hb⟩;refine xe<|Q3 rfl (λJ=>?_) (λJ=>?_)
 ·refine Qc<|Qb<|Qe ?_;exact Qn ⟨[.int .i64 k],Z,I.trans hb,k,O,.inr ⟨k,m,Y,O,J⟩⟩
 refine Qi<|Qy<|QP O O<|Qb<|xe<|⟨k+1,by omega,Z,G,I.trans hb,λm' hc=>?_⟩;rw[V] at hc;rcases Lj.1 hc with h1 | h1
 ·exact T m' h1
 simp only[List.mem_singleton] at h1;subst h1;exact J
theorem Qia {w:World}{E G m:Nat}{c:Zw}{q:MV}(I:QZ w.heap G 39 (ZC q)) :
  QK prog 63 [.agg (yI E c m).toArray,.pointer (some ⟨G,0,none⟩)] w λr w'=>r=.bool (decide ((m:Int)+1=q.kd))∧Step [] w w':=by
 refine QK.of_W func63 O ntmps63 results63 (by simp) ?_;refine Qc<|xl O<|QS (us:=yI E c m) O λS T H V J=>Qe<|Qc<|x (Qa O)<|x (Qd J O O)<|x (Qa O)<|x (Qd (I.ext H) O O)<|x (Q5 O O)<|Qe ?_;exact Qn ⟨[_],Z,O,H⟩
set_option maxHeartbeats 4000000 in
theorem QcZ {L:LN}{w:World}{c:CL}{q:MV}(h0:ZA L w.heap c) (hG:QL L w.heap q.v q.co) :
  QK prog 17 [c.val,.agg #[.int .i64 q.kd,.int .i64 q.ix,q.v]] w λr w'=>r=.int .i64 (mdE c.cel q.m)∧Step [] w w':=by
 have h:=h0.up (L':=[]) (by simp);have hm:=hG.up (L':=[]) (by simp);have G:mdE c.cel q.m=if Zb c.cel≠0 then Zb c.cel else if q.kd<1∨3<q.kd then 11 else if q.ix<0∨((srK c.cel q.kd).length:Int)≤q.ix then 10 else if q.co=setK ((srK c.cel q.kd).getD q.ix.toNat 0) 8 then 0 else 13:=rfl
 refine Zd (mdE c.cel q.m) λE hE=>?_;rw[hE] at G ⊢;refine QK.of_W func17 O ntmps17 results17 (by simp) ?_;refine Qc<|xl O<|QS (us:=c.cells) O λb2 w1 hH gg hy=>xl O<|QS (us:=ZC q) O λb3 w2 hf gh hI=>Qe ?_;have h1:=hH.trans hf;refine Qf<|Qc<|x (Qr (hy.ext hf) O O)<|xl O<|xf<|(YU (h.ext h1)).mono ?_;rintro r3 w3 ⟨rfl,hg⟩;refine Qe ?_;have hh:=h1.trans hg
 have hJ:=(hy.ext hf).ext hg;have hK:=hI.ext hg;refine Qc<|Qb<|x (Q9 O O)<|xe<|Q6 rfl (λha=>?_) (λha=>?_)
 ·rw[if_pos ha] at G;subst G;refine Qc<|Qb<|Qe ?_;exact Qn ⟨[_],Z,O,hh⟩
 rw[if_neg ha] at G;have hj:Ua c.cel:=(ZR (Ls.1 ha)).sr;refine Qi<|Qc<|x (Qr hJ O O)<|xl O<|xf<|(Ko (h.ext hh)).mono ?_;rintro r4 w4 ⟨h2,H,bs,hS⟩;have hL:=hS.r;subst hL;refine Qe ?_;have hM:=hh.trans h2;have h3:=hK.ext h2
 have hA:Zp [] w4.heap (.slice (some ⟨bs,0,none⟩) 3 3) [0,1,2].length 3 ([0,1,2].flatMap (yI H c.cel)):=hS.B.arr (by simp) (n:=3) (cap:=3) (sz:=3) (by rfl) (by omega) (Lr _);refine Qc<|Qb<|x (Zo (l:=[]) (l':=[_]))<|xl O<|xf<|(QhF (q:=λm=>decide ((m:Int)+1=q.kd)) (cap:=[.pointer (some ⟨b3,0,none⟩)]) hA (λm w5 I=>Qia (h3.ext I))).mono ?_;rintro r5 w5 ⟨I,i,rfl,hi⟩;refine Qe ?_
 have h4:=hM.trans I;have hl:=h3.ext I;have h5:=hA.ext I;have hN:QZ w5.heap H 47 c.cells:=hS.B1.ext I;refine Qf<|Qh<|Qc<|Qb<|x (QA O O)<|Qe<|Q6 O (λhn=>?_) (λhn=>?_)
 ·have ho:q.kd<1∨3<q.kd:=by
   rcases hi with ⟨_,hi⟩ | ⟨k,m,_,hi,_⟩
   ·have e0:=of_decide_eq_false (hi 0 (by simp));have e1:=of_decide_eq_false (hi 1 (by simp));have e2:=of_decide_eq_false (hi 2 (by simp));omega
   have gi:i<0:=hn;omega
  rw[if_pos ho] at G;subst G;refine Qc<|Qe ?_;exact Qn ⟨[_],Z,O,h4⟩
 obtain ⟨m,J,hO,ho⟩:∃m:Nat,m<3∧i=(m:Int)∧q.kd=(m:Int)+1:=by
  rcases hi with ⟨hi,_⟩ | ⟨k,m,hk,hi,hq⟩
  ·exact absurd (by rw[hi];decide:i<0) hn
  have gj:=of_decide_eq_true hq;obtain ⟨hP,hk⟩:=LY.1 hk;have hQ:k<3:=hP;have gk:m=k:=by rcases k with _ | _ | _ | k <;> first | exact hk.symm | omega
  exact ⟨k,hQ,hi,by omega⟩
 subst hO;rw[if_neg (by omega),show srK c.cel q.kd=Xe c.cel m by rw[ho]] at G;have gl:=KP hj J;have h6:([0,1,2]:LN)[m]'J=m:=by rcases m with _ | _ | _ | m <;> first | rfl | omega
 refine QU (α:=Bool) [(21,34)] (λz=>[(21,.bool z)]) (λz w'=>Step [] w5 w'∧z=decide (q.ix<0∨((Xe c.cel m).length:Int)≤q.ix)) (by rfl) ?_ ?_
 ·refine QW (Step [] w5) [(0,true),(1,true),(2,true),(3,true),(4,true),(5,true),(6,true),(7,true),(8,true),(9,true),(10,true),(11,true),(12,true),(13,true)] mixed (by rfl) (by kernel_rfl) (Step.drew _ _) ?_;refine p (λ_=>Qa O)<|pq (λ_ hc=>Qd (hl.ext hc) O O)<|pb (λ_=>QA O O) (λhp=>?_) (λhp=>?_)
  ·refine p (λ_=>Qo)<|ps<|ps<|ps<|ps<|ps<|ps<|ps<|ps<|p (λ_=>Qm O)<|p (λ_=>Qg)<|pe ?_;have ht:q.ix<0:=hp;exact ⟨true,Z,Step.drew _ _,by rw[decide_eq_true (.inl ht)]⟩
  refine p (λ_=>Qo)<|p (λ_=>Qa O)<|pq (λ_ hc=>Qd (hl.ext hc) O O)<|p (λ_=>Qo)<|p (λ_=>Qo) <|
   Go.Lg.pig (g:=yI H c.cel) (i:=m) O (Uw H c.cel) h5 O O J λgm h7=>?_
  rw[h6] at h7;refine p (λ_=>Zl O)<|pq (λ_ hc=>Qx ((h7.fld 1 (.int .i64 (Xe c.cel m).length) O).st hc) O)<|p (λ_=>ZU O O) <|
   p (λ_=>Qm O)<|p (λ_=>Qg)<|pe ?_
  have ht:¬q.ix<0:=hp;refine ⟨decide (((Xe c.cel m).length:Int)≤q.ix),Z,Step.drew _ _,?_⟩;rw[decide_eq_decide];exact ⟨.inr,λh=>h.resolve_left ht⟩
 rintro z g T ⟨hb,hz⟩;have V:=h4.trans hb;refine Q3 rfl (λhu=>?_) (λhu=>?_)
 ·rw[if_pos (of_decide_eq_true (hz.symm.trans hu))] at G;subst G;refine Qc<|Qe ?_;exact Qn ⟨[_],Z,O,V⟩
 have hR:=of_decide_eq_false (hz.symm.trans hu);rw[if_neg hR] at G;have hT:q.ix=(q.ix.toNat:Int):=by omega
 have S:q.ix.toNat<(Xe c.cel m).length:=by omega
 have hU:(Xe c.cel m).getD q.ix.toNat 0=(Xe c.cel m)[q.ix.toNat]'S:=by simp[List.getD,S]
 have h8:=Ux hj J _ (Li S);rw[hU] at G;have h9:=hl.ext hb;have hV:=h5.ext hb;have hv:Step [] T { T with drawn:=T.drawn+1 }:=Step.drew _ _
 have gn:=V.trans hv;have hW:∀{w':World},Step [] T w'→QK prog (gK m) [.int .i64 q.ix,.pointer (some ⟨H,0,none⟩)] w' λr hX=>r=.int .u16 ((Xe c.cel m)[q.ix.toNat]'S:Nat)∧Step [] w' hX:=by
  intro w' hs;have:=Qas ((hN.ext hb).ext hs) ((h.ext V).ext hs) hj J S;rw[←hT] at this;exact this
 refine Qf<|QW (Step [] T) [(0,true),(1,true),(2,true),(3,true),(4,true),(5,true),(6,true),(7,true),(8,true),(9,false),(10,false),(11,false),(12,true),(13,true)] mixed (by rfl) (by kernel_rfl) (Step.drew _ _) ?_;refine p (λ_=>Qa O)<|pq (λ_ hc=>Qd (h9.ext hc) O O)<|p (λ_=>Qo)<|p (λ_=>Qo)<|Go.Lg.pig (g:=yI H c.cel) (i:=m) O (Uw H c.cel) hV O O J λgo hB=>?_;rw[h6] at hB
 refine p (λ_=>Zl O)<|pq (λ_ hc=>Qx ((hB.fld 2 (.func (.func (gK m)) #[] #[.pointer (some ⟨H,0,none⟩)]) O).st hc) O)<|p (λ_=>Qa O)<|pq (λ_ hc=>Qd (h9.ext hc) O O) <|
  pk<|xcG (first:=[]) (capt:=[.pointer (some ⟨H,0,none⟩)]) (Qfo m) O<|(hW hv).mono ?_
 rintro r7 w7 ⟨rfl,hY⟩;refine Zd ((Xe c.cel m)[q.ix.toNat]'S) λbv hZ=>?_;rw[hZ] at G h8 ⊢;have hC:=hv.trans hY;refine ⟨hC,?_⟩;refine pk<|xf<|(yh bv h8 w7).mono ?_;rintro r8 w8 ⟨ga,gb⟩;have he:=hC.trans ga;refine ⟨he,?_⟩;have gp:=YY bv 8;refine pk<|xf<|(J7 (hm.ext (V.trans he)) (Qu.ints (L:=[]) gb (by omega) (by simp))).mono ?_;rintro r9 w9 ⟨rfl,hD⟩
 refine ⟨he.trans hD,?_⟩;refine p (λ_=>Zr O)<|p (λ_=>Qg)<|pe ?_;have hF:=(V.trans he).trans hD;refine Q3 rfl (λhw=>?_) (λhw=>?_)
 ·have gc:¬q.co=setK bv 8:=by
   intro e;have Y:(!decide (q.co=setK bv 8))=true:=hw;rw[decide_eq_true e] at Y;cases Y
  rw[if_neg gc] at G;subst G;refine Qc<|Qe ?_;exact Qn ⟨[_],Z,O,hF⟩
 have ge:q.co=setK bv 8:=by
  refine Decidable.byContradiction λe=>?_;have Y:(!decide (q.co=setK bv 8))=false:=hw;rw[decide_eq_false e] at Y;cases Y
 rw[if_pos ge] at G;subst G;refine Qi<|Qc<|Qe ?_;exact Qn ⟨[_],Z,O,hF⟩
end Go.Proofs.YtdffckgdcegpaaaGreatDoor
namespace Go.Lg
section
variable {P:Program} {f:Fr} {w:World} {d:Option Nat} {ty:Nat} {ps:String} {af:Array Edge} {gd:Option (Nat×Bool)}
abbrev i2 (p:Int×Int):LV:=[.int .i64 p.1,.int .i64 p.2]
abbrev i5 (a:ByteArray) (b c e:Bool) (i:Int):LV:=[.string a,.bool b,.bool c,.bool e,.int .i64 i]
end
end Go.Lg
namespace Go.Proofs.YtdffckgdcegpaaaGreatDoor
open Go.Lg
end Go.Proofs.YtdffckgdcegpaaaGreatDoor
namespace Go.Proofs
open Go.Proofs.Tryz
open Go.Shelf
def Tryz.sortEd_ren:Go.Shelf.Ren:=⟨λ| 6=>245 | 15=>176 | 14=>277 | 28=>229 | 29=>230 | 20=>298 | 21=>299 | 22=>300 | 23=>301 | 24=>302 | 25=>303 | 26=>304 | 27=>305 | 46=>316 | 47=>268 | 48=>269 | 49=>317 | 50=>318 | 57=>323 | n=>n,λ| 22=>56 | 24=>144 | 25=>356 | 3=>3 | 39=>269 | 0=>0 | 53=>338 | 55=>340 | 4=>4 | 46=>332 | 45=>331 | 50=>178 | 5=>5 | 9=>9 | 66=>372 | 70=>376 | 76=>401 | 77=>381 | n=>n,λ| n=>n⟩
theorem Tryz.sortEd:Go.Proofs.SlLaysF0.n6 prog Tryz.sortEd_ren:={
 mixed:=by kernel_rfl
 f6:=⟨Tryz.f245.name,by decide,func245.trans (congrArg some (by kernel_rfl))⟩
 f14:=⟨Tryz.f277.name,by decide,func277.trans (congrArg some (by kernel_rfl))⟩
 f15:=func176.trans (congrArg some (by kernel_rfl))
 f20:=⟨Tryz.f298.name,by decide,func298.trans (congrArg some (by kernel_rfl))⟩
 f21:=⟨Tryz.f299.name,by decide,func299.trans (congrArg some (by kernel_rfl))⟩
 f22:=⟨Tryz.f300.name,by decide,func300.trans (congrArg some (by kernel_rfl))⟩
 f23:=⟨Tryz.f301.name,by decide,func301.trans (congrArg some (by kernel_rfl))⟩
 f24:=⟨Tryz.f302.name,by decide,func302.trans (congrArg some (by kernel_rfl))⟩
 f25:=⟨Tryz.f303.name,by decide,func303.trans (congrArg some (by kernel_rfl))⟩
 f26:=⟨Tryz.f304.name,by decide,func304.trans (congrArg some (by kernel_rfl))⟩
 f27:=⟨Tryz.f305.name,by decide,func305.trans (congrArg some (by kernel_rfl))⟩
 f28:=func229.trans (congrArg some (by kernel_rfl))
 f29:=func230.trans (congrArg some (by kernel_rfl))
 f46:=⟨Tryz.f316.name,by decide,func316.trans (congrArg some (by kernel_rfl))⟩
 f47:=func268.trans (congrArg some (by kernel_rfl))
 f48:=func269.trans (congrArg some (by kernel_rfl))
 f49:=⟨Tryz.f317.name,by decide,func317.trans (congrArg some (by kernel_rfl))⟩
 f50:=⟨Tryz.f318.name,by decide,func318.trans (congrArg some (by kernel_rfl))⟩
 f57:=⟨Tryz.f323.name,by decide,func323.trans (congrArg some (by kernel_rfl))⟩
 t0:=underlying0
 a0:=Tryz.isAgg0
 z0:=Tryz.sizeOf0
 v0:=Tryz.zeroValue0
 t3:=underlying3
 a3:=Tryz.isAgg3
 z3:=Tryz.sizeOf3
 v3:=Tryz.zeroValue3
 t4:=underlying4
 a4:=Tryz.isAgg4
 z4:=Tryz.sizeOf4
 v4:=Tryz.zeroValue4
 t5:=underlying5
 a5:=Tryz.isAgg5
 z5:=Tryz.sizeOf5
 v5:=Tryz.zeroValue5
 t9:=underlying9
 a9:=Tryz.isAgg9
 z9:=Tryz.sizeOf9
 v9:=Tryz.zeroValue9
 t22:=underlying56
 a22:=Tryz.isAgg56
 z22:=Tryz.sizeOf56
 v22:=Tryz.zeroValue56
 t25:=underlying356
 a25:=Tryz.isAgg356
 z25:=Tryz.sizeOf356
 v25:=Tryz.zeroValue356
 t39:=underlying269
 a39:=Tryz.isAgg269
 z39:=Tryz.sizeOf269
 v39:=Tryz.zeroValue269
 t45:=underlying331
 a45:=Tryz.isAgg331
 z45:=Tryz.sizeOf331
 v45:=Tryz.zeroValue331
 t46:=underlying332
 a46:=Tryz.isAgg332
 z46:=Tryz.sizeOf332
 v46:=Tryz.zeroValue332
 t50:=underlying178
 a50:=Tryz.isAgg178
 z50:=Tryz.sizeOf178
 v50:=Tryz.zeroValue178
 t53:=underlying338
 a53:=Tryz.isAgg338
 z53:=Tryz.sizeOf338
 v53:=Tryz.zeroValue338
 t55:=underlying340
 a55:=Tryz.isAgg340
 z55:=Tryz.sizeOf340
 v55:=Tryz.zeroValue340
 t66:=underlying372
 a66:=Tryz.isAgg372
 z66:=Tryz.sizeOf372
 v66:=Tryz.zeroValue372
 t70:=underlying376
 a70:=Tryz.isAgg376
 z70:=Tryz.sizeOf376
 v70:=Tryz.zeroValue376
 t76:=underlying401
 a76:=Tryz.isAgg401
 z76:=Tryz.sizeOf401
 v76:=Tryz.zeroValue401
 t77:=underlying381
 a77:=Tryz.isAgg381
 z77:=Tryz.sizeOf381
 v77:=Tryz.zeroValue381 }
end Go.Proofs
namespace Go.Proofs.YtdffckgdcegpaaaGreatDoor
open Go.Proofs.Tryz
open Go.Lg Go.Sort
abbrev Ez:={ x:Ed // (0≤x.1∧x.1<1099511627776)∧0≤x.2.1∧x.2.1<1099511627776 }
instance:Inhabited Ez:=⟨⟨(0,0,0),by decide⟩⟩
abbrev V8 (x:Ez):LV:=[.int .i64 x.1.1,.int .i64 x.1.2.1,.int .i64 x.1.2.2]
abbrev EzO (base:Nat) (w:World) (v:Value) (l:List Ez):Prop:=w.ownsRow base 144 3 v l.length (l.flatMap V8)
def ecf (x y:Ez):Int:=if x.1.1=y.1.1 then x.1.2.1 - y.1.2.1 else x.1.1 - y.1.1
set_option maxHeartbeats 1000000 in
theorem QkX (x y:Ez) (W:World):Calls prog 308 #[.agg (V8 x).toArray,.agg (V8 y).toArray] W λe w'=>e=.returned (.int .i64 (ecf x y))∧∃q os',w'=grow (W.drewN q) os':=by
 have E:IntKind.i64.wrap (x.1.1 - y.1.1)=x.1.1 - y.1.1:=Yi ⟨by have:=x.2;have:=y.2;omega,by have:=x.2;have:=y.2;omega⟩;have G:IntKind.i64.wrap (x.1.2.1 - y.1.2.1)=x.1.2.1 - y.1.2.1:=Yi ⟨by have:=x.2;have:=y.2;omega,by have:=x.2;have:=y.2;omega⟩
 go_enter func308,ntmps308
 go_wp2
 ·go_ret;rename_i h;exact ⟨by rw[ecf,if_neg (by simpa using h)];rfl,0,_,by rw[alloc_eq_grow,alloc_eq_grow,grow_grow];rfl⟩
 go_ret;rename_i h;exact ⟨by rw[ecf,if_pos (by simpa using h)];rfl,0,_,by rw[alloc_eq_grow,alloc_eq_grow,grow_grow];rfl⟩
set_option maxHeartbeats 1000000 in
theorem QkY (x y:Ez) (W:World):Calls prog 246 #[.agg (V8 x).toArray,.agg (V8 y).toArray] W λe w'=>e=.returned (.int .i64 (ecf x y))∧∃q os',w'=grow (W.drewN q) os':=by
 have E:IntKind.i64.wrap (x.1.1 - y.1.1)=x.1.1 - y.1.1:=Yi ⟨by have:=x.2;have:=y.2;omega,by have:=x.2;have:=y.2;omega⟩;have G:IntKind.i64.wrap (x.1.2.1 - y.1.2.1)=x.1.2.1 - y.1.2.1:=Yi ⟨by have:=x.2;have:=y.2;omega,by have:=x.2;have:=y.2;omega⟩
 go_enter func246,ntmps246
 go_wp2
 ·go_ret;rename_i h;exact ⟨by rw[ecf,if_neg (by simpa using h)];rfl,0,_,by rw[alloc_eq_grow,alloc_eq_grow,grow_grow];rfl⟩
 go_ret;rename_i h;exact ⟨by rw[ecf,if_pos (by simpa using h)];rfl,0,_,by rw[alloc_eq_grow,alloc_eq_grow,grow_grow];rfl⟩
theorem yu (x:Ez):(V8 x).length=3:=rfl
theorem QaU:∀l:List Ez,(l.flatMap V8).length=l.length*3
 | []=>rfl
 | x::l=>by rw[LD,Lh,QaU l,yu,LG];omega
theorem Qb8 {l:List Ez}{j:Nat}(G:j<l.length*3):(l.flatMap V8)[j]?=some ((flatK V8 3 l.toArray)[j]!):=by
 have h1:j / 3<l.length:=Nat.div_lt_of_lt_mul (by omega);have h2:j % 3<3:=Nat.mod_lt _ (by decide);rw[get_flatK _ _ _ _ (by simpa using G)];have h3:=XM V8 3 yu l (j / 3) h1;have H:(l.flatMap V8)[j]?=(V8 (l[j / 3]'h1))[j % 3]?:=by
  rw[←h3,LT,if_pos h2,ME];congr 1;omega
 rw[H];have h5:(l.toArray)[j / 3]! = l[j / 3]'h1:=by simp[h1]
 rw[h5];have E:j % 3<(V8 (l[j / 3]'h1)).length:=h2;exact (LB E).trans (congrArg some (getElem!_pos (V8 (l[j / 3]'h1)) (j % 3) E).symm)
theorem QfP (x y:Ez):ltOf ecf x y=true↔x.1.1<y.1.1∨x.1.1=y.1.1∧x.1.2.1<y.1.2.1:=by
 unfold ltOf ecf;rw[decide_eq_true_iff];split <;> omega
theorem yy (x y:Ez):ltOf ecf x y=false↔y.1.1<x.1.1∨y.1.1=x.1.1∧y.1.2.1≤x.1.2.1:=by
 rw[←Bool.not_eq_true,QfP];omega
theorem QjE:SWO (ltOf ecf) where
 irrefl x:=by rw[yy];omega
 trans x y z h1 h2:=by rw[QfP] at *;omega
 ntrans x y z h1 h2:=by rw[yy] at *;omega
theorem Qg7 {α:Type}[Inhabited α] {lt:α→α→Bool}{d E:Array α}(H:PermIn 0 d.size d E) (I:SortedIn lt 0 d.size E):E.toList.Perm d.toList∧E.toList.Pairwise (λx y=>lt y x=false):=by
 obtain ⟨J,_,G⟩:=H;have e1:E.extract 0 d.size=E:=by rw[←J];exact Array.extract_size
 rw[e1,Array.extract_size] at G;refine ⟨G,?_⟩;rw[Mw];intro i j hi S T;have V:i<E.size:=by simpa using hi
 have Y:j<E.size:=by simpa using S
 have:=I i j (Lk _) T (by omega);rw[getElem!_pos E j Y,getElem!_pos E i V] at this;simpa using this
set_option maxHeartbeats 1000000 in
theorem Qaw {g:Nat}(eg:∀args w,(callFunc g args).run prog w=.ok (.enter g args) w) (hb:∀(x y:Ez) (W:World),Calls prog g #[.agg (V8 x).toArray,.agg (V8 y).toArray] W λe w'=>e=.returned (.int .i64 (ecf x y))∧∃q os',w'=grow (W.drewN q) os')
  {w:World} {base:Nat} {v:Value} {l:List Ez} (h:EzO base w v l) (hl:l.length≤1099511627776) :
  QK prog 245 [v,.func (.func g) #[] #[]] w λ_ w'=>Step (ob v) w w'∧∃l':List Ez,l'.Perm l∧l'.Pairwise (λx y=>ltOf ecf y x=false)∧EzO base w' v l':=by
 unfold QK;rcases h.2 with ⟨rfl,h0⟩ | ⟨gb,cap,cur,rfl,hf,H,S,hh,T,hm⟩
 ·have ho:l=[]:=Lp h0;subst ho;have hc:=AnyF.slices_SortFunc_none Tryz.sortEd none 0 (.func (.func g) #[] #[]) w;change Calls prog 245 _ _ _ at hc;refine Calls.mono hc λe w' he=>?_;obtain ⟨rfl,rfl⟩:=he;exact ⟨Step.refl _ _,[],List.Perm.refl _,List.Pairwise.nil,h⟩
 have V:gb<w.heap.size:=(LC.1 H).1;have ht:l.length*3≤cur.size:=by rw[T];exact Mt _ S
 have hH:HoldsK V8 3 w gb 0 l.toArray:=by
  intro j E;rw[size_flatK,LQ] at E;have h1:=Qb8 E;rw[←hm,LT,if_pos E] at h1;constructor
  ·show (match w.heap[gb]? with | some (.cells c _ _)=>if (none:Option _).isSome then none else c[0+j]? | _=>none)=_
   rw[H];simp only[Nat.zero_add,Option.isSome_none,Bool.false_eq_true,if_false];rw[←MB,h1];rfl
  show (match w.heap[gb]? with | some (.cells _ _ (lo,hi))=>decide (lo≤0+j) && decide (0+j<hi) | _=>false)=false
  rw[H];simp
 have hc:=AnyQ.slices_SortFunc Tryz.sortEd 3 Tryz.isAgg144 Tryz.sizeOf144 V8 yu (λx v Y=>by simp at Y;rcases Y with rfl | rfl | rfl <;> rfl) ecf QjE g #[] gb 0 cap l.toArray w eg (λm os dk _ x y=>hb x y _) hH V (by simp;omega)
 change Calls prog 245 _ _ _ at hc;rw[LQ] at hc;refine Calls.mono hc λe w' he=>?_;obtain ⟨rfl,G,n,os,hp,hq,rfl⟩:=he;have I:G.size=l.length:=by have:=hp.1;simpa using this
 have ha:=Qg7 (d:=l.toArray) (by rw[LQ];exact hp) (by rw[LQ];exact hq);have J:(sortWorldK V8 3 w gb 0 n G os).heap=w.heap.modify gb (onCells (putCells id 0 (flatK V8 3 G)))++os:=rfl;refine ⟨⟨rfl,O,O,?_,λk hk hn=>?_⟩,G.toList,ha.1,ha.2,?_⟩
 ·rw[J,M9,Mr];omega
 ·rw[J,Mn,Mr,if_pos hk,MK,if_neg (λe=>hn (by simp[ob,e]))]
 refine ⟨QaU _,.inr ⟨gb,cap,putCells id 0 (flatK V8 3 G) cur,by simp[I],hf,?_,by simp[I];exact S,hh,by simp[putCells,T],?_⟩⟩
 ·rw[J,Mn,Mr,if_pos V,MK,if_pos rfl,H];rfl
 apply Na;intro j;rw[LT];by_cases E:j<G.toList.length*3
 ·rw[if_pos E,Qb8 E,MB];have hr:j<cur.size:=by simp[I] at E;omega
  have hs:j<(flatK V8 3 G).size:=by simpa using E
  simp only[putCells,Array.getElem?_mapIdx,Array.getElem?_eq_getElem hr,Option.map_some,Nat.zero_le,Nat.zero_add,true_and,if_pos hs,Nat.sub_zero,id]
 rw[if_neg E,MT];rw[QaU];omega
theorem QfD:∀l:List Ez,(l.map (·.1)).flatMap Qw=l.flatMap V8
 | []=>rfl
 | x::l=>by rw[LO,LD,LD,QfD l];rfl
theorem Qb7:∀l:List Ed,(∀e∈l,(0≤e.1∧e.1<1099511627776)∧0≤e.2.1∧e.2.1<1099511627776)→∃zs:List Ez,zs.map (·.1)=l
 | [],_=>⟨[],O⟩
 | e::l,h=>by
  obtain ⟨zs,h1⟩:=Qb7 l (λd hd=>h d (Ll _ hd));exact ⟨⟨e,h e Ln⟩::zs,by rw[LO,h1]⟩
abbrev jK (x y:Ed):Prop:=x.1<y.1∨x.1=y.1∧x.2.1≤y.2.1
theorem qU {g:Nat}(eg:∀args w,(callFunc g args).run prog w=.ok (.enter g args) w) (E:∀(x y:Ez) (W:World),Calls prog g #[.agg (V8 x).toArray,.agg (V8 y).toArray] W λe w'=>e=.returned (.int .i64 (ecf x y))∧∃q os',w'=grow (W.drewN q) os')
  {w:World} {base:Nat} {v:Value} {l:List Ed} (h:w.ownsRow base 144 3 v l.length (l.flatMap Qw)) (hl:l.length≤1099511627776) (hb:∀e∈l,(0≤e.1∧e.1<1099511627776)∧0≤e.2.1∧e.2.1<1099511627776) :
  QK prog 245 [v,.func (.func g) #[] #[]] w λ_ w'=>Step (ob v) w w'∧∃l':List Ed,l'.Perm l∧l'.Pairwise jK∧w'.ownsRow base 144 3 v l'.length (l'.flatMap Qw):=by
 obtain ⟨zs,rfl⟩:=Qb7 l hb;rw[Lc] at hl;rw[Lc,QfD] at h;refine (Qaw eg E h hl).mono λ_ _ ⟨h1,l',h2,h3,G⟩=>⟨h1,l'.map (·.1),h2.map _,?_,by rw[Lc,QfD];exact G⟩;rw[MJ];refine h3.imp λ{x y} H=>?_;have:=(yy y x).1 H;exact this
theorem zG {w:World}{base:Nat}{v:Value}{l:List Ed}(h:w.ownsRow base 144 3 v l.length (l.flatMap Qw)) (hl:l.length≤1099511627776) (hb:∀e∈l,(0≤e.1∧e.1<1099511627776)∧0≤e.2.1∧e.2.1<1099511627776) :
  QK prog 282 [v] w λ_ w'=>Step (ob v) w w'∧∃l':List Ed,l'.Perm l∧l'.Pairwise jK∧w'.ownsRow base 144 3 v l'.length (l'.flatMap Qw):=by
 refine QK.of_W func282 O ntmps282 results282 (by simp) ?_;refine Qy<|Qb<|xl O<|xf<|(qU (enters_of func308 (by kernel_rfl) O) QkX h hl hb).mono ?_;rintro E G h1;refine xe ?_;exact ⟨[],U,h1⟩
theorem QcF {w:World}{base:Nat}{v:Value}{l:List Ed}(h:w.ownsRow base 144 3 v l.length (l.flatMap Qw)) (hl:l.length≤1099511627776) (hb:∀e∈l,(0≤e.1∧e.1<1099511627776)∧0≤e.2.1∧e.2.1<1099511627776) :
  QK prog 245 [v,.func (.func 246) #[] #[]] w λ_ w'=>Step (ob v) w w'∧∃l':List Ed,l'.Perm l∧l'.Pairwise jK∧w'.ownsRow base 144 3 v l'.length (l'.flatMap Qw) :=
 qU (enters_of func246 (by kernel_rfl) O) QkY h hl hb
def cmF (c:Zw) (l:List (LI)):LI:=l.zipIdx.filterMap λp=>if (KM c.ex c.cs p.1).2.2=true then some (p.2:Int) else none
theorem QfW {c:Zw}{l:List (LI)}{k:Nat}(h:k<l.length):cmF c (l.take (k+1))=cmF c (l.take k)++(if (KM c.ex c.cs (l[k]'h)).2.2=true then [(k:Int)] else []):=by
 unfold cmF;rw[Le h,List.zipIdx_append,List.filterMap_append];have e:0+(l.take k).length=k:=by rw[Lv];omega
 rw[e];simp only[List.zipIdx_cons,List.zipIdx_nil,List.filterMap_cons,List.filterMap_nil];by_cases E:(KM c.ex c.cs (l[k]'h)).2.2=true
 ·rw[if_pos E,if_pos E]
 rw[if_neg E,if_neg E]
theorem Qh9 (c:Zw) (l:List (LI)):(cmF c l).length≤l.length:=by
 unfold cmF;refine LR (List.length_filterMap_le _ _) ?_;rw[List.length_zipIdx];exact Lr _
def Qch (c:Zw):Bool:=match sync (auts c.co),sync (auts c.co++auts c.rq) with
 | some (pa,ps),some (_,ts)=>ts.all λt=>decide ((wrf c.rq (t.drop c.co.length) (enb pa (plx ps (t.take c.co.length)))).length≤1)
 | _,_=>false
def cmB (c:Zw):LI:=match sync (auts c.co++auts c.rq) with
 | some (sa,ts)=>cmF c (ts.map (·.take c.co.length))++[sa.st]
 | none=>[]
structure CmI (b2 base:Nat) (W:World) (xa:Value) (st:Int) (xm vb ve:Value) (bad:LI) (es:List Ed):Prop where
 B:QZ W.heap b2 58 [xa,.int .i64 st,xm,ve]
 b:Qu 3 base W vb bad
 e:W.ownsRow base 144 3 ve es.length (es.flatMap Qw)
 dj:Dj vb ve
 bd:∀e∈es,(0≤e.1∧e.1<1099511627776)∧0≤e.2.1∧e.2.1<1099511627776
theorem CmI.ext {E base:Nat}{W W':World}{xa:Value}{st:Int}{xm vb ve:Value}{bad:LI}{G:List Ed}(h:CmI E base W xa st xm vb ve bad G) (hs:Step [] W W'):CmI E base W' xa st xm vb ve bad G :=
 ⟨h.B.ext hs,Qq h.b hs,Qq h.e hs,h.dj,h.bd⟩
theorem CmI.addB {E base:Nat}{W W':World}{xa:Value}{st:Int}{xm vb G ve:Value}{bad bad':LI}{H:List Ed}(h:CmI E base W xa st xm vb ve bad H) (hb:E<base) (hs:Step (ob vb) W W') (J:Qu 3 base W' G bad') (S:∀b∈ob G,b∈ob vb∨W.heap.size≤b):CmI E base W' xa st xm G ve bad' H :=
 ⟨h.B.step hs (QM h.b hb),J,Qj h.e hs (λb hb hm=>h.dj b hm hb),λb T I=>(S b T).elim (λh1=>h.dj b h1 I) (λh1=>by have:=QR h.e b I;omega),h.bd⟩
theorem CmI.addE {E base:Nat}{W W1 W':World}{xa:Value}{st:Int}{xm vb ve G:Value}{bad:LI}{H:List Ed}{e:Ed}(h:CmI E base W xa st xm vb ve bad H) (hb:E<base) (hs:Step (ob ve) W W1) (J:W1.ownsRow base 144 3 G (H.length+1) (H.flatMap Qw++Qw e)) (V:∀b∈ob G,b∈ob ve∨W.heap.size≤b)
  (S:Step [E] W1 W') (Y:QZ W'.heap E 58 [xa,.int .i64 st,xm,G]) (he:(0≤e.1∧e.1<1099511627776)∧0≤e.2.1∧e.2.1<1099511627776):CmI E base W' xa st xm vb G bad (H++[e]):=by
 have hge:=Qk J;refine ⟨Y,Qj (Qj h.b hs (λb hb hm=>h.dj b hb hm)) S (λb I hm=>by have:=(Qk h.b b I).1;rw[La.1 hm] at this;omega),?_,λb T ha=>(V b ha).elim (λh1=>h.dj b T h1) (λh1=>by have:=QR h.b b T;omega),λd hd=>?_⟩
 ·have h9:=Qj J S (λb I hm=>by have:=(hge b I).1;rw[La.1 hm] at this;omega);rw[Lh,Ly];simpa using h9
 rcases Lj.1 hd with hd | hd
 ·exact h.bd d hd
 rw[La.1 hd];exact he
theorem CmI.stb {G base B:Nat}{xa:Value}{st:Int}{xm vb ve:Value}{bad:LI}{H:List Ed}:ZY B (λW=>CmI G base W xa st xm vb ve bad H) :=
 λW W' X h hs E=>⟨ZY.blk W W' X h.B hs E,ZY.row W W' X h.b hs E,ZY.row W W' X h.e hs E,h.dj,h.bd⟩
set_option maxHeartbeats 40000000 in
theorem Qad {w:World}{c:CL}(h0:ZA [] w.heap c) (kk:Kb w 4096) (kn:Yx c.cel=0) (S:(spc c.cel).a.st<4096) (h1:Qch c.cel=true) :
  QK prog 197 [c.val] w λr w'=>Step [] w w'∧∃xa xm xe vb,r=.tuple #[.agg #[xa,.int .i64 ((spc c.cel).a.st+1),xm,xe],vb,.int .i64 0]∧ZN [xa,xm,xe]∧Qu 3 w.heap.size w' vb (cmB c.cel):=by
 refine QK.of_G 20 func197 O ntmps197 results197 (by simp) ?_;refine QX<|QJ (by rfl) (by rfl) ?_;refine xl rfl<|QS (us:=c.cells) O λb1 w1 ko hb1 kp=>xl O<|Qt (us:=Jy) O λE w2 gk hb2 kq=>x Qg<|Qe ?_;have hL:=ko.trans gk;have hz1:=ko.size;have hz2:=gk.size;have hl1:=kp.lt;have m5:=kq.lt;have m6:=kp.ext gk
 have kr:ZA [E] w2.heap c:=(h0.up (L':=[E]) (λb hb=>.inr (by rw[La.1 hb];omega))).ext hL;refine QX<|QJ (by rfl) (by rfl) ?_;refine x (Qr m6 O O)<|xl O<|xf<|(j0 (h0.ext hL) (kk.ext hL)).mono ?_;rintro r3 w3 ⟨gl,vp,rfl,_,m7⟩;obtain ⟨b,q,rfl,rfl,I,_,m8⟩:=m7 kn;rw[kn];have hv:=hL.trans gl
 have kt:XC [E] b w3.heap q:=(m8 [E] (λx hx=>by rw[La.1 hx];exact m5)).2 kr;have hsp:=Qau I.p I.s;have hst':q.s.a.st<4096:=by rw[hsp] at S;exact S
 have m9:cmB q.c.cel=cmF q.c.cel ((q.ts.map (·.2)).map (·.take q.c.cel.co.length))++[q.s.a.st]:=by unfold cmB;rw[I.s]
 have pa:∀t∈q.ts.map (·.2),(wrf q.c.cel.rq (t.drop q.c.cel.co.length) (enb q.p.a (plx (q.qs.map (·.2)) (t.take q.c.cel.co.length)))).length≤1:=λt ht=>by
  unfold Qch at h1;rw[I.p,I.s] at h1;exact of_decide_eq_true (Mh.1 h1 t ht)
 have pc:(spc q.c.cel).a.st=q.s.a.st:=by rw[hsp]
 rw[pc,m9];refine Qb<|x (Ql O O)<|x (Ql O O)<|x Qg<|Qe<|QX<|QX<|QJ (by rfl) (by rfl) ?_;refine Qb<|x (Q9 O O)<|xe<|Kc rfl<|Ye ?_;refine QX<|QJ (by rfl) (by rfl) ?_;refine Qb<|x (QF O)<|x (Qa O)<|x (Qa O)<|x (Qd kt.B O O)<|xl O<|Qt (us:=[.int .i64 0]) O λb6 w4 pd pf pg=>xl O<|QE (j:=0) (u:=.int .i64 q.s.a.st) pg O O (by simp) rfl λG ph ku=>xe ?_
 have h6:Step [] w3 G:=pd.then1 ph pf;have hj:=kt.ext h6;have hz3:=gl.size;have hz35:=h6.size;have kv:=ku.lt;have pj:QZ G.heap E 58 Jy:=(kq.ext gl).ext h6;have hM:QZ G.heap b6 3 [.int .i64 q.s.a.st]:=ku;have hst0:0≤q.s.a.st:=by
  have:=(Xk (λa ha=>by
   rcases Lj.1 ha with ha | ha
   ·exact Yk (ZR I.ok).co a ha
   exact Yk (ZR I.ok).rq a ha) I.s).1.st
  omega
 refine QX<|QX<|QJ (by rfl) (by rfl) ?_;refine x (Qd hM O O)<|x (ZU O O)<|xe<|Qin O (λkw=>absurd (show q.s.a.st≥4096 from kw) (by omega)) (λkw=>?_);refine Ye ?_;have gm:Step [] G { G with drawn:=G.drawn+1 }:=Step.drew _ _
 refine QX<|qp (Step [] G) [(0,true),(1,true),(2,true),(3,true),(4,true),(6,true),(7,true),(8,true),(9,true),(10,true),(11,true),(12,true),(14,true),(15,true),(16,true),(17,true),(18,true),(5,false),(13,false),(19,false),(20,true),(21,false)] mixed (by rfl) (by rfl) (by kernel_rfl) gm ?_
 refine p (λ_=>Qo)<|p (λ_=>QF O)<|p (λ_=>Qa O)<|p (λ_=>Qa O)<|pq (λ_ hc=>Qd (hj.B.ext hc) O O)<|pq (λ_ hc=>Qd (hM.ext hc) O O)<|p (λ_=>X2 O O ⟨by omega,by omega⟩)<|p (λ_=>Qo)<|p (λ_=>QF O)<|p (λ_=>Qa O)<|p (λ_=>Qa O) <|
  pq (λ_ hc=>Qd (hj.B.ext hc) O O)<|p (λ_=>Qo)<|p (λ_=>QF O)<|p (λ_=>Qa O)<|p (λ_=>Qa O)<|pq (λ_ hc=>Qd (hj.B.ext hc) O O)<|pk<|xf<|(ZW (hj.s.al.ext gm)).mono ?_
 rintro xa w6 ⟨pm,gn⟩;have go:=gm.trans pm;refine ⟨go,?_⟩;refine pk<|xf<|(ZW (hj.s.mr.ext go)).mono ?_;rintro xm w7 ⟨pn,gp⟩;have hO:=go.trans pn;refine ⟨hO,?_⟩;refine pk<|xf<|(Ku (hj.s.ed.ext hO)).mono ?_;rintro hP w8 ⟨po,hR⟩;have gq:=hO.trans po;refine ⟨gq,?_⟩
 refine p (λ_=>QD ⟨Q0 gn,O,Q0 gp,Q0 hR,U⟩)<|pkl (hl:=by kernel_rfl)<|Qp (us:=[xa,.int .i64 (q.s.a.st+1),xm,hP]) (pj.ext gq) O O O O ⟨QH gn,O,QH gp,QH hR,U⟩ λw9 kx pp=>pe ?_;have gr:Step [E] G w9:=gq.any.trans' kx;have hz7:=hO.size;have hz59:=gr.size;have h7:E<G.heap.size:=by omega
 have ky:=hj.st gr;have hS:ZN [xa,xm]:=⟨QH gn,QH gp,U⟩;have pt:w9.ownsRow G.heap.size 144 3 hP q.s.a.ed.length (q.s.a.ed.flatMap Qw):=Qj (Zq hR (by omega)) kx (λb hb hm=>by have:=(Qk hR b hb).1;rw[La.1 hm] at this;omega);have hw:=ZR I.ok;have h8:∀a∈auts q.c.cel.co++auts q.c.cel.rq,Q8 a:=λa ha=>by
  rcases Lj.1 ha with ha | ha
  ·exact Yk hw.co a ha
  exact Yk hw.rq a ha
 have gs:=(Xk h8 I.s).1.okay h8;have pu:∀e∈q.s.a.ed,(0≤e.1∧e.1<1099511627776)∧0≤e.2.1∧e.2.1<1099511627776:=λe he=>by
  have h1:=gs.ed e he;have h2:=gs.al _ h1.2.2.1;omega
 have pw:CmI E G.heap.size w9 xa (q.s.a.st+1) xm Zf hP [] q.s.a.ed:=⟨pp,QN _ _ _ _,pt,λb hb=>(by cases hb),pu⟩;have pz:=gs.ed_le;have kz:=Uf h8 I.s;have k0:=kz.1;have p0:=kz.2;simp only[] at k0 p0;have hckc:=hw.c8;have hT:q.c.cel.co.length=q.c.co.length:=Lc ..;have p1:q.c.cel.rq.length=q.c.rq.length:=Lc ..;have hcr:=hw.cr
 have p2:(auts q.c.cel.co++auts q.c.cel.rq).length=q.c.co.length+q.c.rq.length:=by rw[Lh];unfold auts;rw[Lc,Lc,hT,p1]
 refine QX<|QX<|QJ (by rfl) (by rfl) ?_;refine Qb<|x (QF O)<|x (Qa O)<|x (Qd ky.B O O)<|x (Qs ky.ts.arr O)<|Qb<|xe<|Zd ((q.ts.map (·.2)).map (·.take q.c.cel.co.length)) λtcs gt=>?_;rw[gt];have htcl:tcs.length=q.ts.length:=by rw[←gt,Lc,Lc]
 have hTn:q.ts.length≤4096:=by have h2:=(Xk h8 I.s).1.st;have h3:(q.ts.map (·.2)).length=q.ts.length:=Lc ..;omega
 refine ZH<|VT (α:=Nat×Value×Value×List Ed) [(3,3),(7,16),(60,109)] (λz=>[(3,z.2.1),(60,.int .i64 z.1)])
  (λz ds W'=>z.1≤q.ts.length∧Step [E] G W'∧Vp G.heap.size W'.heap.size ds W'∧CmI E G.heap.size W' xa (q.s.a.st+1) xm z.2.1 z.2.2.1 (cmF q.c.cel (tcs.take z.1)) z.2.2.2∧z.2.2.2.length≤131072+z.1)
  (λz=>q.ts.length - z.1) (by rfl) (0,Zf,hP,q.s.a.ed) ⟨O,O,U⟩ ⟨Lk _,gr,⟨My,λD hD=>by cases hD⟩,pw,pz⟩ ?_
 rintro ⟨k,vb,ve,es⟩ g ds hy ⟨hk,hA,k4,H,p3⟩;simp only[] at hk H p3;have hz10:=hA.size;have hU:=Qh9 q.c.cel (tcs.take k);rw[Lv] at hU;refine QX<|QJ (by rfl) (by rfl) ?_;refine x (QA O O)<|xe<|QX<|zw O (λgu=>?_) (λgu=>?_)
 ·refine J0 ?_;have hke:q.ts.length≤k:=by have p4:¬(k:Int)<(q.ts.length:Int):=gu;omega
  rw[Lm (by omega)] at H hU;refine Zd (cmF q.c.cel tcs) λbad hX=>?_;rw[hX] at H hU;have gv:E∉ob ve:=QM H.e h7;have p5:E∉ob vb:=QM H.b h7;have hY:b6∉[E]:=by simp only[List.mem_singleton];omega
  have p6:b6∉ob ve:=QM H.e kv;have p7:b6∉ob vb:=QM H.b kv;refine QX<|QJ (by rfl) (by rfl) ?_;refine x (Qa O)<|x (Qd H.B O O)<|xl O<|xf<|(QcF H.e (by omega) H.bd).mono ?_;rintro r11 hg ⟨hn,hf,hp,_,ho11⟩;refine xe ?_;have hZ:=H.B.step hn gv;have gw:=(hM.step hA hY).step hn p6;have gx:=Qj H.b hn (λb hb hm=>H.dj b hb hm);have hz11:=hn.size
  have hr:=Qk H.e;have hB:=Qk gx;have p8:Vp G.heap.size hy.heap.size ds hg:=k4.step hn (Go.Lg.Q0 H.e);have hD0:Step (ob vb) hg { hg with drawn:=hg.drawn+1 }:=Step.drew _ _
  refine QX<|qp (λw'=>Step (E::ob vb) hg w'∧QZ w'.heap E 58 [xa,.int .i64 (q.s.a.st+1),xm,ve]∧QZ w'.heap b6 3 [.int .i64 q.s.a.st]) [(0,true),(1,true),(2,true),(3,false),(4,false),(5,false),(6,true),(7,true)] mixed (by rfl) (by rfl) (by kernel_rfl) ⟨Step.drew _ _,hZ.ext (Step.drew _ _),gw.ext (Step.drew _ _)⟩ ?_
  refine pq (λ_ hc=>Qr hc.2.1 O O)<|p (λ_=>Qo)<|pq (λ_ hc=>Qd hc.2.2 O O)<|pk<|QC (us:=[[.int .i64 q.s.a.st]]) O O (by decide) (by simp) ⟨rfl,rfl,U⟩ λb116 gy gz hb116 p9=>?_;have hz:=(Step.drew [] hg).trans gz;have hz12:=hz.size;refine ⟨⟨hz.any,hZ.ext hz,gw.ext hz⟩,?_⟩
  refine pk<|Q2 (m:=1) (news:=[.int .i64 q.s.a.st]) (L:=[]) (Qq gx hz) O O O (p9.at (by simp)) (by simp[Value.oneCell']) (by omega) (by omega) λk5 hC k6 ga hn13=>?_;have gb:Step (ob vb) hg hC:=hz.any.trans' ga;have k7:=hZ.step gb p5;have k8:=gw.step gb p7;refine ⟨⟨gb.mono (λb hb=>Ll _ hb),k7,k8⟩,?_⟩
  refine pk<|Qp (us:=[xa,.int .i64 (q.s.a.st+1),xm,ve]) k7 O O O O ⟨hS.1,O,hS.2.1,QH H.e,U⟩ λT J k9=>?_;have g0:Step (E::ob vb) hg T:=(gb.mono (λb hb=>Ll _ hb)).trans' (J.mono (by simp));refine ⟨⟨g0,k9,k8.step J hY⟩,?_⟩;refine p (λ_=>Qg)<|p (λ_=>Qg)<|pe ?_
  have qc:=Qj k6 J (λb hb hm=>by have:=(Qk k6 b hb).1;rw[La.1 hm] at this;omega);have hs:Vp G.heap.size hy.heap.size ds T:=p8.step g0 (λb hb=>by
   rcases Lb.1 hb with rfl | hb
   ·exact hZ.cells
   exact Go.Lg.Q0 gx b hb)
  have qf:E∉ds:=λhm=>by have:=(hs.2 E hm).1;omega
  have hE:Step [] w T:=(((hv.trans h6).then1 hA (by omega)).then hn (λb hb=>.inr (by have:=(hr b hb).1;have:=hv.size;omega))).then g0 (λb hb=>.inr (by
   rcases Lb.1 hb with rfl | hb
   ·omega
   have:=(hB b hb).1;have:=hv.size;omega))
  refine JZ ⟨λD hD=>(hs.2 D hD).2.2,hs.1,[.agg [xa,.int .i64 (q.s.a.st+1),xm,ve].toArray,k5,.int .i64 0],λW' g4=>?_⟩;refine ⟨⟨⟨_,O,Qv O ((k9.step g4 qf).at (L:=[]) (by simp)).cells⟩,rfl,rfl,U⟩,hE.then g4 (λD hD=>.inr (by have:=(hs.2 D hD).1;have:=hv.size;omega)),xa,xm,ve,k5,O,⟨hS.1,hS.2.1,QH H.e,U⟩,?_⟩;have h9:=Qu.snoc qc;have ma:=Qj h9 g4 (λb hb hm=>by
   obtain ⟨o,g1,g2⟩:=Go.Lg.Q0 h9 b hb;rw[(hs.2 b hm).2.2] at g1;cases g1
   cases g2)
  rw[←hX] at ma;exact Zq ma (by have:=hv.size;omega)
 have hG:k<q.ts.length:=by have p4:(k:Int)<(q.ts.length:Int):=gu;omega
 have mc:k<tcs.length:=by omega
 have Y:=QfW (c:=q.c.cel) mc;have ql:tcs[k]'mc=(q.ts[k]'hG).2.take q.c.cel.co.length:=by subst gt;simp
 have gc:=Li hG;have hH:=k0 _ (LH (f:=(·.2)) gc);have hu:=pa _ (LH (f:=(·.2)) gc);rw[ql] at Y;refine Zd (cmF q.c.cel (tcs.take k)) λbad hX=>?_;rw[hX] at H hU Y;refine Zd (ob vb++ob ve) λav g5=>?_;have hB:=Qk H.b;have hr:=Qk H.e;have qo:∀x∈av,G.heap.size≤x∧x<hy.heap.size:=λx hx=>by
  rw[←g5] at hx;exact (Lj.1 hx).elim (hB x) (hr x)
 have qr:XC (E::av) b G.heap q:=hj.up (λx hx=>by
  rcases Lb.1 hx with rfl | hx
  ·exact .inl Ln
  exact .inr (qo x hx).1)
 have ge:XC (E::av) b hy.heap q:=qr.st (hA.mono (by simp));refine Zd (cmF q.c.cel (tcs.take (k+1))) λg6 mf=>?_;rw[mf] at Y;refine Ye ?_
 refine Qcx (α:=Value×Value×List Ed) [(3,3),(7,16),(61,109)] (λz=>[(3,z.1),(60,.int .i64 k)]) (λz h4 W'=>Step [E] G W'∧Vp G.heap.size W'.heap.size h4 W'∧CmI E G.heap.size W' xa (q.s.a.st+1) xm z.1 z.2.1 g6 z.2.2∧z.2.2.length≤131072+(k+1)) (by rfl) ?_ ?_
 rotate_left
 ·rintro ⟨gg,ho,hf⟩ g h4 W ⟨q0,q1,q2,q3⟩;refine QJ (by rfl) (by rfl) ?_;refine QP O O<|Qb<|xe ?_;exact ⟨(k+1,gg,ho,hf),by simp only[];omega,⟨O,O,U⟩,hG,q0,q1,by simp only[];rw[mf];exact q2,q3⟩
 refine ZH<|QX<|QJ (by rfl) (by rfl) ?_;refine Qb<|xig (g:=Z8) Kn ge.ts.arr O O hG λa63 mg=>?_;refine Zd (q.ts[k]'hG) λt ht=>?_;rw[ht] at mg gc hH hu Y;have q4:=ge.ts.each t gc;have htl:t.2.length=q.c.co.length+q.c.rq.length:=by rw[hH.1,p2]
 refine x (Qx mg O)<|xl O<|Qt (us:=[.int .i64 0]) O λb7 hg hn q5 za=>xl O<|QE (j:=0) (u:=.int .i64 k) za O O (by simp) rfl λgy gz zv=>Qe ?_;have g7:Step [] hy gy:=hn.then1 gz q5;have mh:QZ gy.heap b7 3 [.int .i64 k]:=zv;refine QX<|QJ (by rfl) (by rfl) ?_;refine Qb<|Qb<|xl O<|xf<|(yX (ge.ext g7) (q4.ext g7) (by omega)).mono ?_
 rintro r13 hC ⟨ga,v9,mj,rfl,g8,mo⟩;refine Qb<|x (Ql O O)<|x (Ql O O)<|x Qg<|Qe ?_;have hI:=g7.trans ga;have mq:=ge.ext hI;rw[hT] at hu Y;refine Zd (t.2.take q.c.co.length) λtc gh=>?_;refine Zd (t.2.drop q.c.co.length) λtr ms=>?_;rw[gh] at g8 hu Y;rw[ms] at mo hu;have z0:tc.length=q.c.co.length:=by rw[←gh,Lv];omega
 have z2:=hH.bd (m:=4096) (λa ha=>(h8 a ha).st1);have mt:∀x∈tc,0≤x∧x<4096:=λx hx=>z2 x (LM (by rw[gh];exact hx));have z3:Vt (auts q.c.cel.co) tc:=by
  have h1:=hH.take;rw[show (auts q.c.cel.co).length=q.c.co.length by unfold auts;rw[Lc];exact hT,gh] at h1;exact h1
 have z4:Vt (auts q.c.cel.rq) tr:=by
  have h1:=hH.drop;rw[show (auts q.c.cel.co).length=q.c.co.length by unfold auts;rw[Lc];exact hT,ms] at h1;exact h1
 have gi:XC [] b hC.heap q:=mq.up (by simp);have hvo:=V3 gi.k1 gi.k2 gi.k3 (g8.up (L':=[]) (by simp)) (by rw[I.ex,I.cs];exact hw.cd) z3.tpOk;rw[I.ex,I.cs] at hvo;refine Zd (KM q.c.cel.ex q.c.cel.cs tc) λV hV=>?_;rw[hV] at hvo Y;have g9:=H.ext hI;have hz13:=hI.size;have hl7:=mh.lt;have mu:=mh.ext ga
 refine Qcx (α:=Value) [(3,3),(11,14),(71,86)] (λz=>[(3,z)]) (λz h4 W=>h4=ds∧Step (ob vb) hC W∧Qu 3 G.heap.size W z g6∧∀x∈ob z,x∈ob vb∨hC.heap.size≤x) (by rfl) ?_ ?_
 ·refine QX<|QJ (by rfl) (by rfl) ?_;refine Qb<|x (QF O)<|x (Qa O)<|x (Yy (us:=[q.vs,q.vx,q.vk]) gi.B O O O)<|Qb<|xl O<|xf<|hvo.mono ?_;rintro r14 T ⟨J,rfl⟩;refine Qb<|x (Ql O O)<|x (Ql O O)<|x (Ql O O)<|x (Ql O O)<|x Qg<|x Qg<|x Qg<|Qe<|QX<|QJ (by rfl) (by rfl) ?_;refine Qb<|xe ?_;have mv:=Qq g9.b J;refine KG O (λka=>?_) (λka=>?_)
  ·rw[if_pos ka] at Y;refine QJ (by rfl) (by rfl) ?_;refine Qb<|x (Qd (mu.ext J) O O)<|xl O<|QC (us:=[[.int .i64 k]]) O O (by decide) (by simp) ⟨rfl,rfl,U⟩ λb85 y1 hh hb85 z5=>?_;have z9:=hh.size;have hz14:=J.size;refine xl O<|Q2 (m:=1) (news:=[.int .i64 k]) (L:=[]) (Qq mv hh) O O O (z5.at (by simp)) (by simp[Value.oneCell']) (by omega) (by omega) λz y2 gj hJ kb=>Qe ?_
   exact ⟨z,Z,O,(J.trans hh).any.trans' hJ,by rw[Y];exact Qu.snoc gj,λx hx=>(kb x hx).imp id (λh=>by omega)⟩
  rw[if_neg (by rw[ka];decide),LF] at Y;refine Ye ?_;exact ⟨vb,Z,O,J.any,by rw[Y];exact mv,λx hx=>.inl hx⟩
 rintro gg g h4 T ⟨rfl,J,hbO,hbn⟩;have hI14:=g9.addB h7 J hbO hbn;have hz14:=J.size;have kc:∀x∈ob vb,x∈E::av:=λx hx=>Ll _ (by rw[←g5];exact Lj.2 (.inl hx));have mw:∀x∈E::ob ve,x∈E::av:=λx hx=>by
  rcases Lb.1 hx with rfl | hx
  ·exact Ln
  exact Ll _ (by rw[←g5];exact Lj.2 (.inr hx))
 have ke:=mq.st (J.mono kc);have hI9a:=g8.st (J.mono kc);have my:=mo.st (J.mono kc);have hE:Step [E] G T:=(hA.trans hI.any).then J (λx hx=>.inr (hB x hx).1);have hs014:Step [] w T:=(hv.trans h6).then1 hE (by omega);have hn7b:b7∉ob vb:=λhm=>by have:=(hB b7 hm).2;omega
 have hY:b6∉[E]:=by simp only[List.mem_singleton];omega
 have hB714:=mu.step J hn7b;have hB614:=hM.step hE hY;have hs:Vp G.heap.size hy.heap.size h4 T:=(k4.ext hI).step J (Go.Lg.Q0 g9.b);refine QX<|qp (Step [] T) [(0,true),(1,true),(2,true),(3,true),(4,true),(5,false),(6,true),(7,true)] mixed (by rfl) (by rfl) (by kernel_rfl) (Step.drew _ _) ?_
 refine p (λ_=>Qo)<|p (λ_=>QF O)<|p (λ_=>Qa O)<|pq (λ_ hc=>Qd (ke.B.ext hc) O O)<|p (λ_=>Qo)<|pk<|xf<|(yD (hI9a.ext (Step.drew _ _)) ((kk.ext hs014).ext (Step.drew _ _)) mt (by omega)).mono ?_;rintro r15 w15 ⟨rfl,hs15⟩;have kf:=(Step.drew [] T).trans hs15;refine ⟨kf,?_⟩
 have mz:(match mget q.mm (Jz tc) with | some u=>u | none=>.int .i64 0)=Value.int .i64 (plx (q.qs.map (·.2)) tc):=by
  rw[I.m tc z0 (λx hx=>(mt x hx).1)];unfold plx;by_cases hm:tc∈q.qs.map (·.2)
  ·rw[if_pos hm,if_pos hm]
  rw[if_neg hm,if_neg hm]
 have hK:=jg I.ok I.p;have m0:=Qex hK.2.2.1 tc;refine Zd (plx (q.qs.map (·.2)) tc) λpi hpi=>?_;rw[hpi] at mz hu m0;rw[←hK.2.1] at m0;have hckp:cks q.p.a pi=0:=by
  unfold cks;rw[if_neg (by rw[(ZJ q.p.a).2 hK.1];decide),if_neg (by omega)]
 refine pq (λ_ hc=>(X0 (k:=Jz tc) (ke.m.ext hc) O O).trans (congrArg (λv=>Result.ok (Next.value v) _) mz))<|p (λ_=>Qg)<|pe ?_;refine QX<|QJ (by rfl) (by rfl) ?_;refine Qb<|Qb<|Qb<|xl O<|xf<|(VU (b:=b) (st:=pi) (vr:=mj) my.cells).mono ?_;rintro r16 h5 ⟨hs16,c1,c2,c3,rfl,hc1,kr,hc3,hR1,hR2,hR3⟩;refine xe ?_;have hq:=kf.trans hs16;have hz1415:=kf.size;have hz16:=hq.size
 have kg:=hI14.ext hq;have hD16:=hs.ext hq;have hB716:=hB714.ext hq;have hB616:=hB614.ext hq;have hs516:Step [E] G h5:=hE.trans hq.any;refine Zd (wrf q.c.cel.rq tr (enb q.p.a pi)) λfl kh=>?_;rw[kh] at hu;have ki:∀x∈E::ob ve,x<T.heap.size:=λx hx=>by
  rcases Lb.1 hx with rfl | hx
  ·omega
  have:=(hr x hx).2;omega
 have hSt16:XC (E::ob ve) b h5.heap q:=(ke.ext hq).up (λx hx=>.inl (mw x hx));have hIr16:QL (E::ob ve) h5.heap mj tr:=(my.ext hq).up (λx hx=>.inl (mw x hx));have hEv:∀p∈fl,0≤p.1∧p.1<32:=λp hp=>by
  rw[←kh] at hp;have g1:=(Ud.1 hp).1;unfold enb at g1;obtain ⟨e,he,g2⟩:=Lx.1 g1;have g3:=hK.1.al _ (hK.1.ed e (Zu he).1).2.2.1;rw[g2] at g3;exact g3
 have hn7L:b7∉E::ob ve:=λhm=>by
  rcases Lb.1 hm with g1 | g1
  ·omega
  have:=(hr b7 g1).2;omega
 have hn6L:b6∉E::ob ve:=λhm=>by
  rcases Lb.1 hm with g1 | g1
  ·omega
  have:=(hr b6 g1).1;omega
 have gv:E∉ob ve:=QM H.e h7;have hb016:G.heap.size≤h5.heap.size:=by omega
 have hel2:es.length+1≤1099511627776:=by omega
 have hkb2:(0:Int)≤(k:Int)∧(k:Int)<1099511627776:=by omega
 refine ZH<|j9 (α:={ x:Int×Int // x∈fl }) (E::ob ve) (by omega) (capt:=[.pointer (some ⟨c1,0,none⟩),.pointer (some ⟨c2,0,none⟩),.pointer (some ⟨c3,0,none⟩)]) O (encs:=λx=>[.int .i64 x.1.1,.int .i64 x.1.2]) (by decide) (λ_=>O)
  (KT hR1 hR2 hR3 (λhm=>by have:=ki _ hm;omega) (λhm=>by have:=ki _ hm;omega) (λx hx=>by have:=ki _ hx;omega) hSt16 hIr16 (λx hx=>hw.rq x.it (LH hx)) z4 hckp O kh)
  (λpre W=>∃ho hf,Step (E::ob ve) h5 W∧CmI E G.heap.size W xa (q.s.a.st+1) xm gg ho g6 hf∧(pre=[]→ho=ve∧hf=es)∧hf.length≤es.length+pre.length)
  (λpre=>ZY.ex λho=>ZY.ex λhf=>(ZY.step (Lr _)).and (CmI.stb.and ((ZY.pure _).and (ZY.pure _))))
  (λ_ _ _=>False) (λ_ _=>ZY.pure _)
  ⟨ve,es,Step.refl _ _,kg,λ_=>⟨O,O⟩,Lr _⟩
  (λf x f' W=>f'=upd (upd (upd f 98 (.int .i64 x.1.1)) 99 (.int .i64 x.1.2)) 16 (.int .i64 x.1.1)) (λx f'=>ZY.pure _) ?_ ?_ ?_ ?_
 ·rintro l pre ⟨⟨e,i⟩,he⟩ W hW;refine QJ (by rfl) (by rfl) ?_;refine Qe ?_;exact ⟨O,Jr.refl _ _ _,Lg.Xv.refl _ _,hW,O⟩
 ·rintro l pre ⟨⟨e,i⟩,he⟩ f' W ⟨ho,hf,S,hi,m1,hlen⟩ rfl hN;have m2:pre=[]:=Lp (Nat.lt_one_iff.1 (LW hN hu));have hv1:=(m1 m2).1;have hv2:=(m1 m2).2;rw[hv1,hv2] at hi;have m3:=S.size;have hee:=hEv _ he;simp only[] at hee;refine ZH<|QJ (by rfl) (by rfl) ?_
  refine x (Qa O)<|x (Qd hi.B O O)<|x (Qd (hB716.step S hn7L) O O)<|Qb<|x (Qd (hB616.step S hn6L) O O)<|x (QD ⟨O,O,O,U⟩)<|xl O<|QC (us:=[Qw ((k:Int),e,q.s.a.st)]) O O (by decide) (by exact (by decide:1*3≤1000000)) ⟨O,O,U⟩ λb106 y1 hh hb106 hB106=>?_;have z9:=hh.size
  refine xl O<|Q2 (m:=1) (news:=Qw ((k:Int),e,q.s.a.st)) (L:=[]) (Qq hi.e hh) O O O (hB106.at (by simp)) (by simp[Qw,Value.oneCell']) hel2 (by omega) λu y2 gj hJ kb=>?_;refine x (Qa O)<|xl O<|QE (u:=u) ((hi.B.ext hh).step hJ gv) O O (by simp) (QH gj) λy3 m4 hB3=>xe ?_
  have kj:Step (E::ob ve) W y3:=(hh.any.trans' (hJ.mono λx hx=>Ll _ hx)).trans' (m4.mono (by simp));have hnw:∀x∈ob u,x∈ob ve∨W.heap.size≤x:=λx hx=>(kb x hx).imp id (λh=>by omega)
  refine ⟨Jr.step kj m3 (λx hx=>⟨.inl hx,?_⟩),Lg.Xv.step kj,u,es++[((k:Int),e,q.s.a.st)],S.trans' kj,hi.addE h7 (hh.any.trans' hJ) gj hnw m4 hB3 ⟨hkb2,by simp only[];omega⟩,λh=>absurd h (by simp),by simp only[List.length_append,List.length_singleton];omega⟩;rcases Lb.1 hx with rfl | hx
  ·exact hi.B.cells
  exact Go.Lg.Q0 hi.e x hx
 ·rintro D xs W hD hxs ⟨ho,hf,S,hi,_,hlen⟩ hdD;have hxl:xs.length=fl.length:=by have g1:=congrArg List.length hxs;rw[Lc] at g1;exact g1
  have m3:=S.size;refine ⟨(gg,ho,hf),⟨O,O,U⟩,hs516.then S (λx hx=>?_),((hD16.step S (λx hx=>?_)).up (by omega)).cons (by omega) (show h5.heap.size≤D from hD) hdD,hi,by simp only[];omega⟩
  ·rcases Lb.1 hx with rfl | hx
   ·exact .inl Ln
   exact .inr (hr x hx).1
  rcases Lb.1 hx with rfl | hx
  ·exact kg.B.cells
  exact Go.Lg.Q0 kg.e x hx
 rintro D e pre W hD hSp hF;exact hF.elim
theorem KQ (m:Nat) (hm:m<256) (w:World):QK prog 52 [.int .u8 m] w λr w'=>Step [] w w'∧Qu 3 w.heap.size w' r (setK m 5):=by
 refine QK.of_W func52 O ntmps52 results52 (by simp) ?_;refine Qc<|Qe<|Qc<|Qe<|Qf<|Qc<|Qe<|Qh<|QB (α:=Nat×Value) [(3,17)] (λz=>[(3,z.2),(4,.int .i64 z.1)]) (λz w'=>z.1≤5∧Step [] w w'∧Qu 3 w.heap.size w' z.2 (setK m z.1)) (λz=>5 - z.1) (by rfl) (0,nS) ⟨O,O,U⟩
  ⟨Lk _,Step.refl _ _,QN _ _ _ _⟩ ?_
 rintro ⟨k,v⟩ g w1 ⟨hk,G,E⟩;simp only[] at hk E;have hg:=YY m k;have hh:=G.size;refine Qf<|Qc<|Qb<|x (QA O O)<|xe<|QG rfl (λT=>?_) (λT=>?_)
 ·refine Qz<|Qc<|Qb<|Qe ?_;have V:k=5:=by omega
  rw[V] at E;exact Qn ⟨[v],Z,G,E⟩
 have J:k<5:=by omega
 have Y:m / 2 ^ k<256:=Nat.lt_of_le_of_lt (Nat.div_le_self _ _) hm;have H:=Vw m k;refine Qi<|Qf<|Qh<|Qc<|Qb<|Qb<|x (qY (n:=k) O O (by show k≤8;omega))<|x (UG (a:=m / 2 ^ k) (b:=1) (congrArg (Value.int .u8) (zH m k)) O Y (by decide))<|x (Q5 O O)<|xe<|QG rfl (λS=>?_) (λS=>?_)
 ·rw[if_neg (λe=>S (by rw[e];rfl))] at H;refine Qi<|Qy<|Qb<|QP O O<|Qe ?_;exact ⟨(k+1,v),by simp only[];omega,⟨O,O,U⟩,J,G,by simp only[];rw[H];exact E⟩
 rw[if_pos (by omega)] at H;refine Qy<|Qb<|Qb<|xl O<|QC (us:=[[.int .i64 k]]) O O (by decide) (by simp) ⟨rfl,rfl,U⟩ λhi w2 I hj ha=>?_;have hc:=Qq E I;have hl:=I.size;refine xl rfl<|Q2 (news:=[.int .i64 k]) (L:=[]) hc O O O (ha.at (by simp)) (by simp[Value.oneCell']) (by omega) (by omega) λv3 w3 he hf hn =>
  Qe ?_
 have hge:=Qk E;refine Qy<|Qb<|QP O O<|Qe<|⟨(k+1,v3),by simp only[];omega,⟨O,O,U⟩,J,(G.trans I).then hf (λb hb=>.inr (hge b hb).1),?_⟩;simp only[];rw[H];exact Qu.snoc he
end Go.Proofs.YtdffckgdcegpaaaGreatDoor
namespace Go.Lg
section
variable {P:Program} {f:Fr} {w:World} {d:Option Nat} {ty:Nat} {ps:String} {af:Array Edge} {gd:Option (Nat×Bool)}
theorem Qi5 {t E e bys:Nat}{z:Value}[h:Sl P t e 1 bys z] [he:Ik P e .u8] [hd:St P E] {x:Operand}{b T n cap:Nat}(G:QZ w.heap b T [.int .u8 (n:Int)]) (J:n<256) (hx:ev f x=.slice (some ⟨b,0,none⟩) 1 cap) :
  (execOp (ev f) ⟨d,.convert t E x,ty,ps,af,gd⟩).run P w=.ok (.value (.string ⟨#[UInt8.ofNat n]⟩)) w:=by
 refine Uk hx ?_;refine run_convert_bytes_back (P:=P) w t E e ⟨b,0,none⟩ cap [UInt8.ofNat n] h.u he.u hd.u (λj H=>?_);have I:j=0:=by simp at H;omega
 subst I;rw[Jc];have h1:(⟨b,0,none⟩:Addr).add 0=⟨b,0,none⟩:=rfl;rw[h1,G.cell];have h2:(UInt8.ofNat n).toNat=n:=by simp[UInt8.toNat_ofNat'];omega
 simp[h2]
end
end Go.Lg
namespace Go.Proofs.YtdffckgdcegpaaaGreatDoor
open Go.Lg
theorem jG (e:Ke):∀u∈Zk e,u.oneCell'=true:=by
 intro y hy;simp only[Zk,List.mem_cons,List.not_mem_nil,or_false] at hy;rcases hy with rfl | rfl | rfl | rfl | rfl <;> rfl
theorem yn {q:IV}(h1:q.p.va.oneCell'=true) (h2:q.p.vm.oneCell'=true) (h3:q.p.ve.oneCell'=true):∀u∈Za q,u.oneCell'=true:=by
 intro y hy;simp only[Za,List.mem_cons,List.not_mem_nil,or_false] at hy;rcases hy with rfl | rfl | rfl | rfl | rfl
 ·rfl
 ·exact h1
 ·rfl
 ·exact h2
 exact h3
theorem US {base N:Nat}{av:LN}{H:Array Obj}{q:IV}(h:∀L:LN,(∀b∈L,b<N)→Zt L H q.p.va q.p.vm q.p.ve q.p.a) (hb:base≤N) (G:∀b∈av,b<N):∀t∈Qc1 q,ZL base av H t.1 t.2.1 t.2.2.1 t.2.2.2:=by
 intro t I;simp only[List.mem_cons,List.not_mem_nil,or_false] at I;rcases I with rfl | rfl | rfl
 ·exact ZL.of_lt (λL E=>(h L E).al) hb G
 ·exact ZL.of_lt (λL E=>(h L E).mr) hb G
 exact ZL.of_lt (λL E=>(h L E).ed) hb G
structure Ub (base:Nat) (w:World) (vc va:Value) (co:List IV) (al:LI):Prop where
 c:w.ownsRow base 66 5 vc co.length (co.flatMap Za)
 a:Qu 3 base w va al
 dj:Dj vc va
 each:∀q∈co,∀t∈Qc1 q,ZL base (ob vc++ob va) w.heap t.1 t.2.1 t.2.2.1 t.2.2.2
section
variable {base:Nat} {w w':World} {vc va vc' va':Value} {co:List IV} {al:LI}
theorem Ub.nil:Ub base w (nS) (nS) [] []:=⟨QN _ _ _ _,QN _ _ _ _,Dj.nil _,λq hq=>by cases hq⟩
theorem Ub.ext (h:Ub base w vc va co al) (hs:Step [] w w'):Ub base w' vc va co al:=⟨Qq h.c hs,Qq h.a hs,h.dj,λq hq t E=>(h.each q hq t E).ext hs⟩
theorem Ub.low {X:LN}(h:Ub base w vc va co al) (hs:Step X w w') (E:∀b∈X,b<base):Ub base w' vc va co al :=
 ⟨Qj h.c hs (λb hb hm=>by have:=(Qk h.c b hb).1;have:=E b hm;omega),Qj h.a hs (λb hb hm=>by have:=(Qk h.a b hb).1;have:=E b hm;omega),h.dj,λq hq t G=>(h.each q hq t G).low hs E⟩
theorem Ub.avlt (h:Ub base w vc va co al):∀b∈ob vc++ob va,b<w.heap.size:=λb hb=>(Lj.1 hb).elim (QR h.c b) (QR h.a b)
theorem Ub.setC {q:IV}(h:Ub base w vc va co al) (hq:∀t∈Qc1 q,ZL base (ob vc++ob va) w.heap t.1 t.2.1 t.2.2.1 t.2.2.2) (S:w'.ownsRow base 66 5 vc' (co.length+1) (co.flatMap Za++Za q))
  (hs:Step (ob vc) w w') (E:∀b∈ob vc',b∈ob vc∨w.heap.size≤b):Ub base w' vc' va (co++[q]) al:=by
 have G:Step (ob vc++ob va) w w':=hs.mono (λb hb=>Lj.2 (.inl hb));have H:∀b∈ob vc'++ob va,b∈ob vc++ob va∨w.heap.size≤b:=λb hb=>by
  rcases Lj.1 hb with hb | hb
  ·exact (E b hb).imp (λh=>Lj.2 (.inl h)) id
  exact .inl (Lj.2 (.inr hb))
 refine ⟨?_,Qj h.a hs (λb hb T=>h.dj b T hb),λb hb I=>?_,λd hd t J=>?_⟩
 ·rw[Lh,Ly];simpa using S
 ·rcases E b hb with h1 | h1
  ·exact h.dj b h1 I
  have:=QR h.a b I;omega
 rcases Lj.1 hd with hd | hd
 ·exact (h.each d hd t J).app G H
 simp only[List.mem_singleton] at hd;subst hd;exact (hq t J).app G H
theorem Ub.setA {G:LI}(h:Ub base w vc va co al) (I:Qu 3 base w' va' G) (hs:Step (ob va) w w') (H:∀b∈ob va',b∈ob va∨w.heap.size≤b):Ub base w' vc va' co G:=by
 have J:Step (ob vc++ob va) w w':=hs.mono (λb hb=>Lj.2 (.inr hb));have S:∀b∈ob vc++ob va',b∈ob vc++ob va∨w.heap.size≤b:=λb hb=>by
  rcases Lj.1 hb with hb | hb
  ·exact .inl (Lj.2 (.inl hb))
  exact (H b hb).imp (λh=>Lj.2 (.inr h)) id
 refine ⟨Qj h.c hs (λb hb E=>h.dj b hb E),I,λb hb E=>?_,λd hd t T=>(h.each d hd t T).app J S⟩;rcases H b E with h1 | h1
 ·exact h.dj b hb h1
 have:=QR h.c b hb;omega
theorem Ub.itms {L:LN}(h:Ub base w vc va co al) (G:co.length≤1099511627776) (hm:∀q∈co,V7 q.nm) (E:∀b∈L,b<base):Y9 L w.heap vc co :=
 ⟨QT h.c G (λb hb H=>by have:=(Qk h.c b hb).1;have:=E b H;omega),λq hq=>⟨h.each q hq (q.p.va,q.p.a.al.length,1,q.p.a.al.map (.int .i64)) (by simp) L (λb hb=>.inl (E b hb)),h.each q hq (q.p.vm,q.p.a.mr.length,1,q.p.a.mr.map (.int .i64)) (by simp) L (λb hb=>.inl (E b hb)),h.each q hq (q.p.ve,q.p.a.ed.length,3,q.p.a.ed.flatMap Qw) (by simp) L (λb hb=>.inl (E b hb))⟩,hm⟩
end
theorem YM (ns:LN):(bys ns).length=ns.length:=by rw[bys,Lc]
def grN (ns:LN) (o:Nat):LN:=(ns.drop o).take 27
theorem Qfn {ns:LN}{o:Nat}(h:o+27≤ns.length):(grN ns o).length=27:=by unfold grN;simp;omega
theorem Qiz {ns:LN}{o:Nat}(h:∀n∈ns,n<256):∀n∈grN ns o,n<256:=Qic h o 27
theorem Qga (ns:LN) (n:Nat):(bys ns).set 0 (.int .u8 (n:Int))=bys (ns.set 0 n):=by
 unfold bys;rw[List.map_set]
theorem QgW {ns:LN}{n:Nat}(h:∀m∈ns,m<256) (E:n<256):∀m∈ns.set 0 n,m<256:=λm hm=>by
 rcases M7 hm with h1 | rfl
 ·exact h m h1
 exact E
theorem Qed {ns:LN}{n:Nat}(h:0<ns.length):(ns.set 0 n).getD 0 0=n:=by simp[List.getD,h]
structure GdA (a:QQ):Prop where
 ok:Q8 a
 p:0<a.st
 s:a.st≤3
 c:∃a0:QQ,Q8 a0∧0<a0.st∧a=Yv a0
theorem jW {a:QQ}(E:Q8 a) (h:0<a.st):0<(Yv a).st:=by
 have H:=(Vb E).1;show 0<((found a).length:Int);have G:(0:Int)∈found a:=by
  have key:∀(f i:Nat) (out:LI),(0:Int)∈out→(0:Int)∈zi a f i out:=by
   intro f;induction f with
   | zero=>intro i out h;exact h
   | succ f ih =>
    intro i out h;rw[zi];split
    ·exact ih _ _ (yt _ _ _ h)
    exact h
  refine key _ _ _ ?_;unfold fd0;rw[if_pos h];simp
 have:=List.length_pos_of_mem G;omega
theorem GdA.of {a E:QQ}{n:Nat}(G:Q8 E) (h1:0<E.st) (h2:E.st≤((1+n % 5:Nat):Int)) (h3:a=Yv E) (I:n<3):GdA a:=by
 have H:=yC G;subst h3;exact ⟨H.1,jW G h1,by have:=H.2.2;omega,E,G,h1,O⟩
end Go.Proofs.YtdffckgdcegpaaaGreatDoor
namespace Go.Lg
open Go.RowKit
section
variable {P:Program} {n:Nat} {f:Fr} {w:World} {all:List Oper} {C:World→Prop} {K:Fr→World→Prop}
end
section
variable {P:Program} {n:Nat} {f:Fr} {w:World} {all:List Oper} {C J:World→Prop} {K:Fr→World→Prop}
end
end Go.Lg
namespace Go.Proofs.YtdffckgdcegpaaaGreatDoor
open Go.Proofs.Tryz
open Go.Lg
instance ayZi1:Ay prog 29 3 28 27:=⟨by kernel_rfl,by kernel_rfl⟩
theorem QbH (p:Int×Int):∀u∈QO p,u.oneCell'=true:=by
 intro y hy;simp only[QO,List.mem_cons,List.not_mem_nil,or_false] at hy;rcases hy with rfl | rfl <;> rfl
instance ayAv1:Ay prog 23 5 5 1:=⟨underlying23,by kernel_rfl⟩
def nm1 (c k:Nat):ByteArray:=⟨#[UInt8.ofNat (c+k)]⟩
def Jl (k n:Nat):Ke:=if 48≤n∧n<52 then ⟨nm1 97 k,false,false,false,(n:Int) - 47⟩ else
 ⟨nm1 97 k,decide (((n &&& 1:Nat):Int)=1),decide (((n &&& 2:Nat):Int)=2),decide (((n &&& 4:Nat):Int)=4),0⟩
def Xc (ns:LN) (i:Nat):List Ke:=(List.range i).map λk=>Jl k (ns.getD k 0)
theorem QaW (ns:LN) (i:Nat):Xc ns (i+1)=Xc ns i++[Jl i (ns.getD i 0)]:=by
 unfold Xc;rw[List.range_succ,Lt];rfl
theorem J6 (ns:LN) (i:Nat):(Xc ns i).length=i:=by unfold Xc;simp
set_option maxHeartbeats 1000000 in
theorem Qab {w:World}{ns:LN}(hn:ns.length=5) (hb:∀n∈ns,n<256) :
  QK prog 51 [.agg (bys ns).toArray] w λr w'=>Step [] w w'∧w'.ownsRow w.heap.size 87 5 r (Xc ns 5).length ((Xc ns 5).flatMap Zk):=by
 refine QK.of_W func51 O ntmps51 results51 (by simp) ?_;refine Qc<|xl O<|QS (us:=bys ns) O λb1 w1 hj hJ hm=>Qe ?_;have hs:=hj.size;refine Qc<|Qe<|Qf<|Qc<|Qe<|Qh<|QB (α:=Nat×Value) [(3,53)] (λz=>[(3,z.2),(4,.int .i64 z.1)]) (λz w'=>z.1≤5∧Step [] w1 w'∧w'.ownsRow w1.heap.size 87 5 z.2 (Xc ns z.1).length ((Xc ns z.1).flatMap Zk)) (λz=>5 - z.1) (by rfl) (0,Zf) ⟨O,O,U⟩
  ⟨Lk _,Step.refl _ _,QN _ _ _ _⟩ ?_
 rintro ⟨k,v⟩ g w2 ⟨hk,T,J⟩;simp only[] at hk J;refine Qf<|Qc<|Qb<|x (QA O O)<|xe<|QG rfl (λh7=>?_) (λh7=>?_)
 ·refine Qz ?_;have ht:k=5:=by have h8:¬(k:Int)<5:=h7;omega
  rw[ht] at J;refine Qc<|Qb<|Qe ?_;exact Qn ⟨[v],Z,hj.trans T,Zq J hs⟩
 have E:k<5:=by have h8:(k:Int)<5:=h7;omega
 have q:=VO (ns:=ns) (j:=0+k*1) (by omega);have ql:=Xi hb (0+k*1);have hu:ns.getD (0+k*1) 0=ns.getD k 0:=by rw[show 0+k*1=k by omega]
 rw[hu] at q ql;have ho:=QaW ns k;have hK:=J6 ns k;refine Zd (ns.getD k 0) λn hv=>?_;rw[hv] at q ql ho;have hw:=hm.ext T;refine Qi<|Qf<|Qh<|Qc<|Qb<|x (ZP (k':=.u8) O ⟨by omega,by omega⟩)<|QP O O<|xl O<|QC (us:=[[.int .u8 ((97:Int)+(k:Int))]]) O O (by decide) (by simp) ⟨rfl,rfl,U⟩ λhy w3 ha hL h0=>?_;have h1:((97:Int)+(k:Int))=((97+k:Nat):Int):=by omega
 have h2:QZ w3.heap hy 5 [.int .u8 ((97+k:Nat):Int)]:=by rw[←h1];exact h0
 refine x (Qi5 (n:=97+k) h2 (by omega) O)<|x (QD Z)<|xl O<|Qt (us:=[.string ⟨#[]⟩,.bool false,.bool false,.bool false,.int .i64 0]) O λG w4 h3 hM h4=>xl O<|Qp (us:=Zk ⟨nm1 97 k,false,false,false,0⟩) h4 O O O O ⟨O,O,O,O,O,U⟩ λw5 h5 hp =>
  xe ?_
 have he:Step [] w2 w5:=(ha.trans h3).then1 h5 (by have:=ha.size;omega);have H:=hw.ext he;have hN:=he.size;have hO:=ha.size;have hP:=hm.lt;have hQ:=T.size;have hf:b1∉[G]:=by simp only[List.mem_singleton];omega
 refine QU (α:=Unit) [(16,49)] (λ_=>[]) (λ_ w'=>Step [G] w5 w'∧QZ w'.heap G 87 (Zk (Jl k n))) (by rfl) ?_ ?_
 ·refine QU (α:=Bool) [(16,25)] (λz=>[(25,.bool z)]) (λz w'=>w'=w5∧(z=true↔48≤n∧n<52)) (by rfl) ?_ ?_
  ·refine Qy<|Qb<|x (ZI (i:=k) O O E)<|x (Qd H O q)<|xb (ZU O O) (λhg=>?_) (λhg=>?_)
   ·have hq:(48:Int)≤(n:Int):=hg;refine Qb<|Qb<|x (ZI (i:=k) O O E)<|x (Qd H O q)<|x (QA O O)<|x (Qm O)<|xe<|⟨decide ((n:Int)<52),Z,O,?_⟩;rw[decide_eq_true_eq];omega
   have hq:¬(48:Int)≤(n:Int):=hg;refine Qb<|xs O<|xs O<|xs O<|xs O<|x (Qm O)<|xe ?_;exact ⟨false,Z,O,⟨λh=>(by cases h),λh=>absurd (by omega) hq⟩⟩
  rintro z g6 I ⟨rfl,hz⟩;refine Q3 O (λV=>?_) (λV=>?_)
  ·have hc:=hz.1 V;refine Qy<|Qb<|x (ZI (i:=k) O O E)<|x (Qd H O q)<|x (ZP (k':=.i64) O ⟨by omega,by omega⟩)<|x (Jv O O ⟨by omega,by omega⟩)<|x (Qa O)<|xl O<|QE hp O O (by simp) rfl λw7 S hh =>
    xe ?_
   refine ⟨(),U,S,?_⟩;unfold Jl;rw[if_pos hc];exact hh
  have hc:¬(48≤n∧n<52):=λh=>by have:=hz.2 h;rw[this] at V;cases V
  have Y:Step [] I { I with drawn:=I.drawn+1 }:=Step.drew _ _
  refine QW (Step [G] I) [(0,true),(1,true),(2,true),(3,true),(4,true),(5,true),(6,true),(7,true),(8,true),(9,true),(10,true),(11,true),(12,true),(13,true),(14,true),(15,true),(16,false),(17,true),(18,false),(19,true),(20,false)] mixed (by rfl) (by kernel_rfl) (Step.drew _ _) ?_
  refine p (λ_=>Qo)<|p (λ_=>ZI (i:=k) O O E)<|pq (λ_ hc=>Qd (H.step hc hf) O q)<|p (λ_=>UG (a:=n) (b:=1) O O ql (by decide))<|p (λ_=>Q5 O O) <|
   p (λ_=>Qo)<|p (λ_=>ZI (i:=k) O O E)<|pq (λ_ hc=>Qd (H.step hc hf) O q)<|p (λ_=>UG (a:=n) (b:=2) O O ql (by decide))<|p (λ_=>Q5 O O) <|
   p (λ_=>Qo)<|p (λ_=>ZI (i:=k) O O E)<|pq (λ_ hc=>Qd (H.step hc hf) O q)<|p (λ_=>UG (a:=n) (b:=4) O O ql (by decide))<|p (λ_=>Q5 O O)<|?_
  refine p (λ_=>Qa O)<|pk<|QE (hp.ext Y) O O (by simp) rfl λw7 S hh=>⟨(Y.any (L:=[G])).trans' S,?_⟩;refine p (λ_=>Qa O)<|pk<|QE hh O O (by simp) rfl λw8 hr h6=>⟨((Y.any (L:=[G])).trans' S).trans' hr,?_⟩;refine p (λ_=>Qa O)<|pkl (hl:=by kernel_rfl)<|QE h6 O O (by simp) rfl λw9 h9 hA=>pe ?_;refine ⟨(),U,(((Y.any (L:=[G])).trans' S).trans' hr).trans' h9,?_⟩
  unfold Jl;rw[if_neg hc];exact hA
 rintro _ g6 I ⟨hB,hC⟩;have hD:Step [] w2 I:=he.then1 hB (by omega);refine Qy<|Qb<|x (Qr hC O O)<|xl O<|QC (us:=[Zk (Jl k n)]) O O (by decide) (show 1*5≤1000000 by omega) ⟨O,O,U⟩ λhR hS hE hT hF=>?_;have hi:=hD.trans hE;have hU:=hi.size
 refine xl rfl<|Q2 (news:=Zk (Jl k n)) (L:=[]) (Qq J hi) O O O (hF.at (by simp)) (jG _) (by omega) (by omega) λhG hV hH hI hW =>
  Qe<|Qy<|Qb<|QP O O<|Qe<|⟨(k+1,hG),by simp only[];omega,⟨O,O,U⟩,E,(T.trans hi).then hI (λc hc=>.inr (Qk J c hc).1),?_⟩
 simp only[];rw[ho,Lh,Ly];simpa using hH
def Ya (k:Nat):LI:=(List.range k).map λi:Nat=>(i:Int)
theorem Y2 (k:Nat):(Ya k).length=k:=by simp[Ya]
theorem J3 (k:Nat):Ya (k+1)=Ya k++[(k:Int)]:=by unfold Ya;rw[List.range_succ,Lt];rfl
theorem X6 (k:Nat) (x:Int):x∈Ya k↔0≤x∧x<(k:Int):=by
 unfold Ya;simp only[List.mem_map,List.mem_range];constructor
 ·rintro ⟨i,hi,rfl⟩;omega
 intro h;exact ⟨x.toNat,by omega,by omega⟩
theorem jj (k:Nat):Yg (Ya k):=by
 induction k with
 | zero=>exact List.Pairwise.nil
 | succ k ih =>
  rw[J3];refine Mf.2 ⟨ih,MZ _ _,λx hx y hy=>?_⟩;have:=(X6 k x).1 hx;simp at hy;omega
def Y1 (n m:Nat):LI:=(List.range n).map λk:Nat=>if k<m then (k:Int) else -1
theorem zf {m k:Nat}(h:k<m):Zn (Ya m) (k:Int)=k:=by
 unfold Zn Ya;simp[List.getD,h]
theorem QkN {fd out R:LI}{t:Int}(hp:fd=out++R) (hm:t∈out):UR fd t=(out.idxOf t:Nat):=by
 subst hp;unfold UR;rw[if_pos (LL _ hm),L2,if_pos hm]
theorem Qju {fd out R:LI}{t:Int}(hp:fd=out++[t]++R) (hm:t∉out):UR fd t=(out.length:Nat):=by
 subst hp;unfold UR;rw[if_pos (by simp),Lz,L2,if_neg hm];simp
theorem ze {n m k:Nat}(h:k<n):Zn (Y1 n m) (k:Int)=if k<m then (k:Int) else -1:=by
 unfold Zn Y1;simp[List.getD,h]
theorem QeM {n m:Nat}:(Y1 n m).set m (m:Int)=Y1 n (m+1):=by
 apply L4
 ·simp[Y1]
 intro k h1 h2;have hk:k<n:=by simpa[Y1] using h2
 rw[Ni];by_cases e:m=k
 ·subst e;simp[Y1]
 rw[if_neg e];simp only[Y1,List.getElem_map,List.getElem_range];by_cases h3:k<m
 ·rw[if_pos h3,if_pos (by omega)]
 rw[if_neg h3,if_neg (by omega)]
theorem q6 {R:Nat→List Ed}(E:∀i,∀e∈R i,e.1=(i:Int)) (j:Nat):∀n,Zy ((List.range' 0 n).flatMap R) j=if j<n then R j else []
 | 0=>by simp[Zy]
 | n+1=>by
  have G:Zy (R n) j=if n=j then R n else []:=by
   unfold Zy;by_cases e:n=j
   ·rw[if_pos e];exact Ng.2 λx hx=>decide_eq_true (by rw[E n x hx,e])
   rw[if_neg e];exact M5.2 λx hx=>by rw[decide_eq_true_eq,E n x hx];omega
  rw[L8,Ly,LP];unfold Zy at G ⊢;rw[L0];have ih:=q6 E j n;unfold Zy at ih;rw[ih];simp only[List.flatMap_cons,List.flatMap_nil,List.append_nil];rw[G];by_cases h1:j<n
  ·rw[if_pos h1,if_neg (by omega),if_pos (by omega),LF]
  rw[if_neg h1];by_cases h2:n=j
  ·subst h2;rw[if_pos rfl,if_pos (by omega),Md]
  rw[if_neg h2,if_neg (by omega)];rfl
section
variable {a:QQ}
theorem Up {s:Int}:∀(vs:LI) (out:LI),∃r,vs.foldl (KJ a s) out=out++r
 | [],out=>⟨[],by simp⟩
 | v::vs,out=>by
  rw[LJ];obtain ⟨r,E⟩:=Up vs (KJ a s out v);rw[E];unfold KJ;split
  ·exact ⟨[nxt a.ed s v]++r,by rw[Lz]⟩
  exact ⟨r,O⟩
theorem Uo:∀(f i:Nat) (out:LI),∃r,zi a f i out=out++r
 | 0,i,out=>⟨[],by simp[zi]⟩
 | f+1,i,out=>by
  rw[zi];split
  ·obtain ⟨r,E⟩:=Uo f (i+1) (fdR a out (cget out i));obtain ⟨G,H⟩:=Up (a:=a) (s:=cget out i) a.al out;refine ⟨G++r,?_⟩;rw[E];unfold fdR;rw[H,Lz]
  exact ⟨[],by simp⟩
theorem Ug {fd:LI}{i:Nat}:∀(vs out:LI) (c:Cs),(∃r,fd=vs.foldl (KJ a (cget fd i)) out++r)→c.ord=Ya out.length→c.num=Y1 fd.length out.length →
  (vs.filterMap (Jp a fd i)).foldl (Q7 i) c=⟨Ya (vs.foldl (KJ a (cget fd i)) out).length,Y1 fd.length (vs.foldl (KJ a (cget fd i)) out).length,c.mk',c.ed++vs.filterMap (Jp a fd i)⟩
 | [],out,c,_,h1,h2=>by
  obtain ⟨o,n,m,e⟩:=c;simp only[] at h1 h2;subst h1 h2;simp
 | v::vs,out,c,E,h1,h2=>by
  rw[LJ] at E ⊢;obtain ⟨r,E⟩:=E;obtain ⟨r2,V⟩:=Up (a:=a) (s:=cget fd i) vs (KJ a (cget fd i) out v);have G:fd=KJ a (cget fd i) out v++(r2++r):=by rw[←Lz,←V];exact E
  by_cases I:0≤nxt a.ed (cget fd i) v
  ·have J:Jp a fd i v=some ((i:Int),v,UR fd (nxt a.ed (cget fd i) v)):=by unfold Jp;rw[if_pos I]
   rw[L5,J];simp only[];rw[LJ];by_cases hm:nxt a.ed (cget fd i) v∈out
   ·have H:KJ a (cget fd i) out v=out:=by unfold KJ;rw[if_neg (λh=>h.2 hm)]
    rw[H] at E G ⊢;have hix:UR fd (nxt a.ed (cget fd i) v)=(out.idxOf (nxt a.ed (cget fd i) v):Nat):=QkN G hm;have Y:=Me hm;have T:out.length≤fd.length:=by rw[G];simp
    have S:Q7 i c ((i:Int),v,UR fd (nxt a.ed (cget fd i) v))=⟨c.ord,c.num,c.mk',c.ed++[((i:Int),v,UR fd (nxt a.ed (cget fd i) v))]⟩:=by
     unfold Q7;simp only[];rw[h2,hix,ze (by omega),if_pos Y,if_neg (by omega)]
    rw[S,Ug vs out ⟨c.ord,c.num,c.mk',c.ed++[((i:Int),v,UR fd (nxt a.ed (cget fd i) v))]⟩ ⟨r,E⟩ h1 h2];simp only[List.append_assoc,List.singleton_append]
   have H:KJ a (cget fd i) out v=out++[nxt a.ed (cget fd i) v]:=by unfold KJ;rw[if_pos ⟨I,hm⟩]
   rw[H] at E G ⊢;have hix:UR fd (nxt a.ed (cget fd i) v)=(out.length:Nat):=Qju G hm;have T:out.length<fd.length:=by rw[G];simp
   have S:Q7 i c ((i:Int),v,UR fd (nxt a.ed (cget fd i) v))=⟨Ya (out.length+1),Y1 fd.length (out.length+1),c.mk',c.ed++[((i:Int),v,UR fd (nxt a.ed (cget fd i) v))]⟩:=by
    unfold Q7;simp only[];rw[h1,h2,hix,ze T,if_neg (Ns _),if_pos (by omega),Y2,J3];simp only[Int.toNat_natCast];rw[QeM]
   rw[S,Ug vs (out++[nxt a.ed (cget fd i) v]) _ ⟨r,E⟩ (by simp) (by simp)];simp only[List.append_assoc,List.singleton_append]
  have J:Jp a fd i v=none:=by unfold Jp;rw[if_neg I]
  have H:KJ a (cget fd i) out v=out:=by unfold KJ;rw[if_neg (λh=>I h.1)]
  rw[H] at E ⊢;rw[L5,J];exact Ug vs out c ⟨r,E⟩ h1 h2
theorem Qf6 (fd:LI) (i:Nat):Ys a fd (i+1)=Ys a fd i++(if cget fd i∈a.mr then [(i:Int)] else []):=by
 unfold Ys;rw[L8,L0,Lt,LP];by_cases h:cget fd i∈a.mr <;> simp[h]
theorem Qf8 (fd:LI) (i:Nat):YG a fd (i+1)=YG a fd i++a.al.filterMap (Jp a fd i):=by
 unfold YG;rw[L8,Ly,LP];simp
theorem jX {fd:LI}{i n:Nat}(h:i<n):(i:Int)∈Ys a fd n↔cget fd i∈a.mr:=by
 unfold Ys;simp only[List.mem_map,List.mem_filter,List.mem_range'_1,decide_eq_true_eq];constructor
 ·rintro ⟨k,⟨_,h2⟩,h3⟩;have:k=i:=by omega
  subst this;exact h2
 intro h2;exact ⟨i,⟨by omega,h2⟩,O⟩
theorem Qf7 {fd:LI}(J:fd=found a) (hk:fd.length≤a.st.toNat):∀(f g i:Nat) (out:LI),i≤out.length→zi a g i out=fd→i+g=a.st.toNat→fd.length≤i+f →
  Yd (Yv a) f i ⟨Ya out.length,Y1 fd.length out.length,Ys a fd i,YG a fd i⟩=⟨Ya fd.length,Y1 fd.length fd.length,Ys a fd fd.length,YG a fd fd.length⟩:=by
 have T:(Yv a).ed=YG a fd fd.length:=by rw[J];rfl
 have V:(Yv a).mr=Ys a fd fd.length:=by rw[J];rfl
 have done:∀(i:Nat) (out:LI),i≤out.length→out=fd→¬i<out.length→(⟨Ya out.length,Y1 fd.length out.length,Ys a fd i,YG a fd i⟩:Cs)=⟨Ya fd.length,Y1 fd.length fd.length,Ys a fd fd.length,YG a fd fd.length⟩:=by
  intro i out h1 h2 h3;have:i=fd.length:=by rw[←h2];omega
  rw[this,h2]
 intro f;induction f with
 | zero =>
  intro g i out h1 h2 h3 Y;obtain ⟨r,E⟩:=Uo (a:=a) g i out;rw[h2] at E;have hl:fd.length=out.length+r.length:=by rw[E,Lh]
  have ha:r=[]:=Lp (by omega);rw[Yd];exact done i out h1 (by rw[E,ha,LF]) (by omega)
 | succ f ih =>
  intro g i out h1 h2 h3 Y;obtain ⟨r,E⟩:=Uo (a:=a) g i out;rw[h2] at E;have hl:fd.length=out.length+r.length:=by rw[E,Lh]
  rw[Yd];simp only[Y2];by_cases hi:i<out.length
  ·rw[if_pos hi];obtain ⟨G,rfl⟩:∃G,g=G+1:=⟨g - 1,by omega⟩;rw[zi,if_pos hi] at h2;have hb:cget out i=cget fd i:=by
    rw[E];unfold cget;simp[List.getD,List.getElem?_append_left hi]
   rw[hb] at h2;have I:i<fd.length:=by omega
   have hf:Zy (Yv a).ed (i:Int)=a.al.filterMap (Jp a fd i):=by
    rw[T];unfold YG;rw[q6 (λj e he=>by
     obtain ⟨v,_,H⟩:=Ml.1 he;unfold Jp at H;split at H
     ·cases H;rfl
     cases H),if_pos I]
   have hg:Zv (Yv a) i ⟨Ya out.length,Y1 fd.length out.length,Ys a fd i,YG a fd i⟩=⟨Ya out.length,Y1 fd.length out.length,Ys a fd (i+1),YG a fd i⟩:=by
    unfold Zv;simp only[];rw[zf hi,V,Qf6];by_cases hc:cget fd i∈a.mr
    ·rw[if_pos ((jX I).2 hc),if_pos hc]
    rw[if_neg (λh=>hc ((jX I).1 h)),if_neg hc];simp
   have hh:Kd (Yv a) i ⟨Ya out.length,Y1 fd.length out.length,Ys a fd i,YG a fd i⟩=⟨Ya (fdR a out (cget fd i)).length,Y1 fd.length (fdR a out (cget fd i)).length,Ys a fd (i+1),YG a fd (i+1)⟩:=by
    unfold Kd;rw[hg];simp only[];rw[zf hi,hf];obtain ⟨r3,S⟩:=Uo (a:=a) G (i+1) (fdR a out (cget fd i));rw[h2] at S;rw[Ug a.al out ⟨Ya out.length,Y1 fd.length out.length,Ys a fd (i+1),YG a fd i⟩ ⟨r3,S⟩ rfl rfl,Qf8];rfl
   rw[hh];obtain ⟨r4,hj⟩:=Up (a:=a) (s:=cget fd i) a.al out;exact ih G (i+1) _ (by unfold fdR;rw[hj,Lh];omega) h2 (by omega) (by omega)
  rw[if_neg hi];have h5:zi a g i out=out:=by
   cases g with
   | zero=>rfl
   | succ g=>rw[zi,if_neg hi]
  exact done i out h1 (h5.symm.trans h2) hi
theorem Qf5 (E:Q8 a) (G:0<a.st):ZD (Yv a)=Yv a:=by
 have T:=jW E G;have I:=(Vb E).1.len E.st0;have V:(Yv a).st=((found a).length:Int):=rfl;have H:(Yv a).st.toNat=(found a).length:=by omega
 have Y:0<(found a).length:=by omega
 have h:=Qf7 (a:=a) O I (found a).length a.st.toNat 0 (fd0 a) (Lk _) O (by omega) (by omega);have J:fd0 a=[0]:=by unfold fd0;rw[if_pos G]
 rw[J] at h;have S:Zz (Yv a)=⟨Ya 1,Y1 (found a).length 1,Ys a (found a) 0,YG a (found a) 0⟩:=by
  unfold Zz;rw[H];have e:(List.replicate (found a).length (-1:Int)).set 0 0=Y1 (found a).length 1:=by
   apply L4
   ·simp[Y1]
   intro k h1 h2;rw[Ni];simp only[Y1,List.getElem_map,List.getElem_range,List.getElem_replicate];by_cases e:k=0
   ·subst e;simp
   rw[if_neg (by omega),if_neg (by omega)]
  rw[e];simp[Ya,Ys,YG]
 unfold ZD;rw[if_neg (by omega)];simp only[];rw[S,H];have h':Yd (Yv a) (found a).length 0 ⟨Ya 1,Y1 (found a).length 1,Ys a (found a) 0,YG a (found a) 0⟩=⟨Ya (found a).length,Y1 (found a).length (found a).length,Ys a (found a) (found a).length,YG a (found a) (found a).length⟩:=h;rw[h'];simp only[Y2];rfl
theorem QaQ (E:Q8 a) (G:0<a.st):JO (Yv a)=true:=by
 unfold JO;rw[Qf5 E G];simp[(ZJ _).2 (yC E).1]
theorem GdA.can {a:QQ}(h:GdA a):JO a=true:=by
 obtain ⟨E,h1,h2,rfl⟩:=h.c;exact QaQ h1 h2
end
structure D25 (c:Zw):Prop where
 ev:∃ns:LN,ns.length=5∧c.ev=Xc ns 5
 c0:c.co.length≠0
 c3:c.co.length≤3
 r2:c.rq.length≤2
 co:∀x∈c.co,YC x.nm=true∧GdA x.a∧∀e∈x.a.al,e<5
 rq:∀x∈c.rq,YC x.nm=true∧GdA x.a∧∀e∈x.a.al,∃y∈c.co,e∈y.a.al
 nd:(c.co.map (·.nm)++c.rq.map (·.nm)).Nodup
 x2:c.ex.length≤2
 ex:∀x∈c.ex,YC x.nm=true∧x.ls≠[]∧YP (szs c.co) none x.ls=0
 xn:(c.ex.map (·.nm)).Nodup
 k1:c.cs.length≤1
 cs:∀x∈c.cs,YC x.nm=true∧YL (szs c.co) x=0
theorem QgM (n:Nat) (x:Int):x∈JB n↔0≤x∧x<(n:Int):=X6 n x
theorem QgN (n:Nat):Yg (JB n):=jj n
theorem Qhk {a b:LI}(ia:Yg a) (ib:Yg b) (h:∀e∈a,e∈b):(mns a b).length=0:=by
 refine Nat.eq_zero_of_not_pos λhp=>?_;obtain ⟨x,hx⟩:=List.exists_mem_of_length_pos hp;have:=(Um ia ib x).1 hx;by_cases h1:x∈a
 ·simp[h1,h x h1] at this
 simp[h1] at this
theorem Qcl {nev:Nat}{amg:LI}{seen:List ByteArray}{x:YN}(G:YC x.nm=true) (hs:x.nm∉seen) (E:GdA x.a) (he:∀e∈x.a.al,e<(nev:Int)) (hi:Yg amg) (hm:∀e∈x.a.al,e∈amg):Z2 nev amg seen x=0:=by
 have hp:=E.p;unfold Z2;rw[if_neg (by rw[G];decide),if_neg hs,if_neg (by simpa using (ZJ _).2 E.ok),if_neg (by rw[E.can];decide),if_neg (by omega),if_neg,if_neg (by simpa using Qhk E.ok.ali hi hm)];intro h;obtain ⟨e,h1,h2⟩:=Mz.1 h;have:=he e h1;have:=of_decide_eq_true h2;omega
theorem Qcm {nev:Nat}{al:LI}(I:Yg al):∀(l:List YN) (s:List ByteArray) (u:LI),Yg u→(∀x∈l,YC x.nm=true∧GdA x.a∧∀e∈x.a.al,e<(nev:Int)∧e∈al)→(s++l.map (·.nm)).Nodup →
  ∃E,Z6 nev al s u l=(0,s++l.map (·.nm),E)∧Yg E∧∀e,e∈E↔e∈u∨∃y∈l,e∈y.a.al
 | [],s,u,hu,_,_=>⟨u,by simp[Z6],hu,by simp⟩
 | x::l,s,u,hu,hx,H=>by
  obtain ⟨h1,h2,h3⟩:=hx x Ln;have J:x.nm∉s:=by
   intro hm;rw[LO,MP] at H;exact H.2.2 _ hm _ Ln O
  have S:=Qcl h1 J h2 (λe he=>(h3 e he).1) I (λe he=>(h3 e he).2);obtain ⟨E,k1,k2,k3⟩:=Qcm I l (s++[x.nm]) (mrg (· || ·) u x.a.al) (yb _ _ _ _ (Lr _) hu h2.ok.ali) (λy hy=>hx y (Ll _ hy)) (by simpa using H);refine ⟨E,?_,k2,λe=>?_⟩
  ·rw[Z6,if_neg (by simpa using S),k1];simp
  rw[k3,Um hu h2.ok.ali];constructor
  ·rintro (⟨h5 | h5,_⟩ | ⟨y,hy,G⟩)
   ·exact .inl h5
   ·exact .inr ⟨x,Ln,h5⟩
   exact .inr ⟨y,Ll _ hy,G⟩
  rintro (h5 | ⟨y,hy,G⟩)
  ·exact .inl ⟨.inl h5,by simp[h5]⟩
  rcases Lb.1 hy with rfl | hy
  ·exact .inl ⟨.inr G,by simp[G]⟩
  exact .inr ⟨y,hy,G⟩
theorem Qcj {nev:Nat}{u:LI}(hu:Yg u):∀(l:List YN) (s:List ByteArray),(∀x∈l,YC x.nm=true∧GdA x.a∧∀e∈x.a.al,e<(nev:Int)∧e∈u)→(s++l.map (·.nm)).Nodup→Ja nev u s l=0
 | [],s,_,_=>rfl
 | x::l,s,hx,E=>by
  obtain ⟨h1,h2,h3⟩:=hx x Ln;have G:x.nm∉s:=by
   intro hm;rw[LO,MP] at E;exact E.2.2 _ hm _ Ln O
  have H:=Qcl h1 G h2 (λe he=>(h3 e he).1) hu (λe he=>(h3 e he).2);rw[Ja,if_neg (by simpa using H)];exact Qcj hu l (s++[x.nm]) (λy hy=>hx y (Ll _ hy)) (by simpa using E)
theorem zk {sz:LI}:∀(l:List Exc) (s:List ByteArray),(∀x∈l,YC x.nm=true∧x.ls≠[]∧YP sz none x.ls=0)→(s++l.map (·.nm)).Nodup→Yc sz s l=0
 | [],s,_,_=>rfl
 | x::l,s,hx,E=>by
  obtain ⟨h1,h2,h3⟩:=hx x Ln;have G:x.nm∉s:=by
   intro hm;rw[LO,MP] at E;exact E.2.2 _ hm _ Ln O
  have H:JU s x.nm=0:=by unfold JU;rw[if_neg (by rw[h1];decide),if_neg G]
  have hl:x.ls.length≠0:=λh=>h2 (Lp h);have I:XR sz x.ls=0:=by unfold XR;rw[if_neg hl];exact h3
  rw[Yc,if_neg (by simpa using H),if_neg (by simpa using I)];exact zk l (s++[x.nm]) (λy hy=>hx y (Ll _ hy)) (by simpa using E)
theorem QeO:∀{k:Nat},k<5→YC (nm1 97 k)=true
 | 0,_=>by decide
 | 1,_=>by decide
 | 2,_=>by decide
 | 3,_=>by decide
 | 4,_=>by decide
theorem Vg {seen:List ByteArray}{k n:Nat}(hk:k<5) (hs:nm1 97 k∉seen):Xd seen (Jl k n)=0:=by
 have E:(Jl k n).nm=nm1 97 k:=by unfold Jl;split <;> rfl
 unfold Xd;rw[E,if_neg (by rw[QeO hk];decide),if_neg hs];unfold Jl;by_cases h:48≤n∧n<52
 ·rw[if_pos h];simp only[];rw[if_neg (by omega),if_neg (by simp)]
 rw[if_neg h];simp only[];rw[if_neg (by omega),if_neg (by simp)]
theorem QfL (ns:LN):Jm (Xc ns 5)=0:=by
 have e:Xc ns 5=[Jl 0 (ns.getD 0 0),Jl 1 (ns.getD 1 0),Jl 2 (ns.getD 2 0),Jl 3 (ns.getD 3 0),Jl 4 (ns.getD 4 0)]:=rfl;have E:∀k n,(Jl k n).nm=nm1 97 k:=λk n=>by unfold Jl;split <;> rfl
 unfold Jm;rw[if_neg (by rw[J6];decide),e];simp only[VZ,E];rw[Vg (by decide) (by decide),Vg (by decide) (by decide),Vg (by decide) (by decide),Vg (by decide) (by decide),Vg (by decide) (by decide)];simp
theorem D25.ck {c:Zw}(h:D25 c):Zb c=0:=by
 obtain ⟨ns,_,G⟩:=h.ev;have Y:=h.c3;have ha:=h.r2;have I:c.ev.length=5:=by rw[G,J6]
 obtain ⟨u',k1,k2,k3⟩:=Qcm (nev:=c.ev.length) (al:=JB c.ev.length) (QgN _) c.co [] [] List.Pairwise.nil (λx hx=>by
  obtain ⟨h1,h2,h3⟩:=h.co x hx;refine ⟨h1,h2,λe he=>?_⟩;have:=h3 e he;have:=(h2.ok.al e he).1;rw[I,QgM];exact ⟨by omega,by omega,by omega⟩) (by
  have:=h.nd;rw[MP] at this;simpa using this.1)
 have J:=Qcj (nev:=c.ev.length) k2 c.rq (c.co.map (·.nm)) (λx hx=>by
  obtain ⟨h1,h2,h3⟩:=h.rq x hx;refine ⟨h1,h2,λe he=>?_⟩;obtain ⟨y,hy,E⟩:=h3 e he;have:=(h.co y hy).2.2 e E;exact ⟨by omega,(k3 e).2 (.inr ⟨y,hy,E⟩)⟩) h.nd
 unfold Zb;rw[if_neg (by rw[G];simpa using QfL ns),if_neg h.c0,if_neg (by omega),k1];simp only[List.nil_append];rw[if_neg (by simp),if_neg (by simpa using J)];unfold Yu;have hc:(szs c.co).length=c.co.length:=by unfold szs;simp
 have hf:=h.x2;have S:=h.k1;have T:¬(szs c.co).any Jw=true:=by
  intro hb;obtain ⟨n,h1,h2⟩:=Mz.1 hb;unfold szs at h1;obtain ⟨x,hx,rfl⟩:=Lx.1 h1;have:=(h.co x hx).2.1;have h3:=this.p;have E:=this.s;unfold Jw at h2;simp at h2;omega
 rw[if_neg (by omega),if_neg T,if_neg (by omega),if_neg (by simpa using zk c.ex [] h.ex (by simpa using h.xn))];rcases H:c.cs with _ | ⟨x,l⟩
 ·rfl
 have hl:l=[]:=Lp (by rw[H,LG] at S;omega);obtain ⟨h1,h2⟩:=h.cs x (by rw[H];exact Ln);have V:JU [] x.nm=0:=by unfold JU;rw[if_neg (by rw[h1];decide),if_neg (by simp)]
 rw[hl,YF,if_neg (by simpa using V),if_neg (by simpa using h2)];rfl
end Go.Proofs.YtdffckgdcegpaaaGreatDoor
namespace Go.Proofs
open Go.Proofs.Tryz
open Go.Shelf
def Tryz.sortI_ren:Go.Shelf.Ren:=⟨λ| 5=>101 | 8=>176 | 7=>175 | 19=>229 | 20=>230 | 10=>221 | 11=>222 | 12=>223 | 13=>224 | 14=>225 | 15=>226 | 16=>160 | 17=>227 | 18=>228 | 30=>267 | 31=>268 | 32=>269 | 33=>270 | 34=>271 | 35=>219 | 40=>296 | n=>n,λ| 23=>37 | 25=>3 | 3=>3 | 32=>269 | 22=>37 | 0=>0 | 44=>338 | 46=>340 | 4=>4 | 36=>332 | 35=>331 | 41=>178 | 5=>5 | 9=>9 | 53=>372 | 57=>376 | 63=>401 | 64=>381 | n=>n,λ| n=>n⟩
theorem Tryz.sortI:Go.Proofs.SlLaysM.n5 prog Tryz.sortI_ren:={
 mixed:=by kernel_rfl
 f5:=⟨Tryz.f101.name,by decide,func101.trans (congrArg some (by kernel_rfl))⟩
 f7:=⟨Tryz.f175.name,by decide,func175.trans (congrArg some (by kernel_rfl))⟩
 f8:=func176.trans (congrArg some (by kernel_rfl))
 f10:=⟨Tryz.f221.name,by decide,func221.trans (congrArg some (by kernel_rfl))⟩
 f11:=⟨Tryz.f222.name,by decide,func222.trans (congrArg some (by kernel_rfl))⟩
 f12:=⟨Tryz.f223.name,by decide,func223.trans (congrArg some (by kernel_rfl))⟩
 f13:=⟨Tryz.f224.name,by decide,func224.trans (congrArg some (by kernel_rfl))⟩
 f14:=⟨Tryz.f225.name,by decide,func225.trans (congrArg some (by kernel_rfl))⟩
 f15:=⟨Tryz.f226.name,by decide,func226.trans (congrArg some (by kernel_rfl))⟩
 f16:=⟨Tryz.f160.name,by decide,func160.trans (congrArg some (by kernel_rfl))⟩
 f17:=⟨Tryz.f227.name,by decide,func227.trans (congrArg some (by kernel_rfl))⟩
 f18:=⟨Tryz.f228.name,by decide,func228.trans (congrArg some (by kernel_rfl))⟩
 f19:=func229.trans (congrArg some (by kernel_rfl))
 f20:=func230.trans (congrArg some (by kernel_rfl))
 f30:=⟨Tryz.f267.name,by decide,func267.trans (congrArg some (by kernel_rfl))⟩
 f31:=func268.trans (congrArg some (by kernel_rfl))
 f32:=func269.trans (congrArg some (by kernel_rfl))
 f33:=⟨Tryz.f270.name,by decide,func270.trans (congrArg some (by kernel_rfl))⟩
 f34:=⟨Tryz.f271.name,by decide,func271.trans (congrArg some (by kernel_rfl))⟩
 f35:=⟨Tryz.f219.name,by decide,func219.trans (congrArg some (by kernel_rfl))⟩
 f40:=⟨Tryz.f296.name,by decide,func296.trans (congrArg some (by kernel_rfl))⟩
 t0:=underlying0
 a0:=Tryz.isAgg0
 z0:=Tryz.sizeOf0
 v0:=Tryz.zeroValue0
 t3:=underlying3
 a3:=Tryz.isAgg3
 z3:=Tryz.sizeOf3
 v3:=Tryz.zeroValue3
 t4:=underlying4
 a4:=Tryz.isAgg4
 z4:=Tryz.sizeOf4
 v4:=Tryz.zeroValue4
 t5:=underlying5
 a5:=Tryz.isAgg5
 z5:=Tryz.sizeOf5
 v5:=Tryz.zeroValue5
 t9:=underlying9
 a9:=Tryz.isAgg9
 z9:=Tryz.sizeOf9
 v9:=Tryz.zeroValue9
 t22:=underlying37
 a22:=Tryz.isAgg37
 z22:=Tryz.sizeOf37
 v22:=Tryz.zeroValue37
 t23:=underlying37
 a23:=Tryz.isAgg37
 z23:=Tryz.sizeOf37
 v23:=Tryz.zeroValue37
 t25:=underlying3
 a25:=Tryz.isAgg3
 z25:=Tryz.sizeOf3
 v25:=Tryz.zeroValue3
 t32:=underlying269
 a32:=Tryz.isAgg269
 z32:=Tryz.sizeOf269
 v32:=Tryz.zeroValue269
 t35:=underlying331
 a35:=Tryz.isAgg331
 z35:=Tryz.sizeOf331
 v35:=Tryz.zeroValue331
 t36:=underlying332
 a36:=Tryz.isAgg332
 z36:=Tryz.sizeOf332
 v36:=Tryz.zeroValue332
 t41:=underlying178
 a41:=Tryz.isAgg178
 z41:=Tryz.sizeOf178
 v41:=Tryz.zeroValue178
 t44:=underlying338
 a44:=Tryz.isAgg338
 z44:=Tryz.sizeOf338
 v44:=Tryz.zeroValue338
 t46:=underlying340
 a46:=Tryz.isAgg340
 z46:=Tryz.sizeOf340
 v46:=Tryz.zeroValue340
 t53:=underlying372
 a53:=Tryz.isAgg372
 z53:=Tryz.sizeOf372
 v53:=Tryz.zeroValue372
 t57:=underlying376
 a57:=Tryz.isAgg376
 z57:=Tryz.sizeOf376
 v57:=Tryz.zeroValue376
 t63:=underlying401
 a63:=Tryz.isAgg401
 z63:=Tryz.sizeOf401
 v63:=Tryz.zeroValue401
 t64:=underlying381
 a64:=Tryz.isAgg381
 z64:=Tryz.sizeOf381
 v64:=Tryz.zeroValue381 }
def Tryz.cmpI_ren:Go.Shelf.Ren:=⟨λ| 43=>129 | n=>n,λ| 22=>37 | 23=>3 | 3=>3 | 4=>4 | 0=>0 | n=>n,λ| n=>n⟩
theorem Tryz.cmpI:Go.Proofs.SlLaysE.n43 prog Tryz.cmpI_ren:={
 mixed:=by kernel_rfl
 f43:=⟨Tryz.f129.name,by decide,func129.trans (congrArg some (by kernel_rfl))⟩
 t0:=underlying0
 a0:=Tryz.isAgg0
 z0:=Tryz.sizeOf0
 v0:=Tryz.zeroValue0
 t3:=underlying3
 a3:=Tryz.isAgg3
 z3:=Tryz.sizeOf3
 v3:=Tryz.zeroValue3
 t4:=underlying4
 a4:=Tryz.isAgg4
 z4:=Tryz.sizeOf4
 v4:=Tryz.zeroValue4
 t22:=underlying37
 a22:=Tryz.isAgg37
 z22:=Tryz.sizeOf37
 v22:=Tryz.zeroValue37
 a23:=Tryz.isAgg3
 z23:=Tryz.sizeOf3 }
def Tryz.delI_ren:Go.Shelf.Ren:=⟨λ| 10=>55 | 6=>131 | n=>n,λ| 22=>37 | 23=>3 | 25=>118 | 3=>3 | 4=>4 | 0=>0 | n=>n,λ| n=>n⟩
theorem Tryz.delI:Go.Proofs.SlLaysH.n10 prog Tryz.delI_ren:={
 mixed:=by kernel_rfl
 f6:=⟨Tryz.f131.name,by decide,func131.trans (congrArg some (by kernel_rfl))⟩
 f10:=⟨Tryz.f55.name,by decide,func55.trans (congrArg some (by kernel_rfl))⟩
 t0:=underlying0
 a0:=Tryz.isAgg0
 z0:=Tryz.sizeOf0
 v0:=Tryz.zeroValue0
 t3:=underlying3
 a3:=Tryz.isAgg3
 z3:=Tryz.sizeOf3
 v3:=Tryz.zeroValue3
 t4:=underlying4
 a4:=Tryz.isAgg4
 z4:=Tryz.sizeOf4
 v4:=Tryz.zeroValue4
 t22:=underlying37
 a22:=Tryz.isAgg37
 z22:=Tryz.sizeOf37
 v22:=Tryz.zeroValue37
 a23:=Tryz.isAgg3
 z23:=Tryz.sizeOf3
 t25:=underlying118
 a25:=Tryz.isAgg118
 z25:=Tryz.sizeOf118
 v25:=Tryz.zeroValue118 }
end Go.Proofs
namespace Go.Proofs.YtdffckgdcegpaaaGreatDoor
open Go.Proofs.Tryz
open Go.Lg Go.Sort Go.Lib
abbrev iC:Int→Value:=Value.int .i64
theorem VB {e:Nat}{w:World}{l:LI}{g:Nat}{cur:Array Value}(G:w.heap[g]?=some (.cells cur e (0,0))) (H:cur.toList.take (l.length*1)=l.map iC):Holds iC w g 0 l.toArray:=by
 intro j E;rw[LQ] at E;have h1:cur.toList[j]?=some (iC l[j]):=by
  have h2:(cur.toList.take (l.length*1))[j]?=(l.map iC)[j]?:=by rw[H]
  rw[LT,if_pos (by omega),M8,LB E] at h2;exact h2
 have h3:l.toArray[j]! = l[j]:=by simp[E]
 constructor
 ·show (match w.heap[g]? with | some (.cells c _ _)=>if (none:Option _).isSome then none else c[0+j]? | _=>none)=_
  rw[G,h3];simp only[Nat.zero_add,Option.isSome_none,Bool.false_eq_true,if_false];rw[←MB,h1]
 show (match w.heap[g]? with | some (.cells _ _ (lo,hi))=>decide (lo≤0+j) && decide (0+j<hi) | _=>false)=false
 rw[G];simp
theorem zR {e base:Nat}{w:World}{g cap n k:Nat}{cur:Array Value}{os:Array Obj}{d:Array Int}(J:base≤g) (H:w.heap[g]?=some (.cells cur e (0,0))) (hb:d.size≤cap) (S:cap≤maxLen) (T:cur.size=cap*1) (hk:k≤d.size) :
  Step [g] w (grow (putRow iC (Sort.ahead w n) g 0 d) os)∧Qu e base (grow (putRow iC (Sort.ahead w n) g 0 d) os) (.slice (some ⟨g,0,none⟩) k cap) (d.toList.take k):=by
 have V:g<w.heap.size:=(LC.1 H).1;have E:(grow (putRow iC (Sort.ahead w n) g 0 d) os).heap=w.heap.modify g (onCells (putCells iC 0 d))++os:=rfl;have Y:(d.toList.take k).length=k:=by simp;omega
 refine ⟨⟨O,O,O,?_,λi hi hn=>?_⟩,?_⟩
 ·rw[E,M9,Mr];omega
 ·rw[E,Mn,Mr,if_pos hi,MK,if_neg (λe=>hn (by simp[e]))]
 unfold Qu;rw[Y];refine ⟨by simp;omega,.inr ⟨g,cap,putCells iC 0 d cur,O,J,?_,by omega,S,by simp[putCells,T],?_⟩⟩
 ·rw[E,Mn,Mr,if_pos V,MK,if_pos rfl,H];rfl
 apply Na;intro j;rw[LT,M8,LT];by_cases I:j<k
 ·rw[if_pos (by omega),if_pos I];have ha:j<cur.size:=by omega
  have G:j<d.size:=by omega
  rw[MB,MB,Mv G];simp only[putCells,Array.getElem?_mapIdx,Array.getElem?_eq_getElem ha,Option.map_some,Nat.zero_le,Nat.zero_add,true_and,if_pos G,Nat.sub_zero];rw[getElem!_pos d j G]
 rw[if_neg (by omega),if_neg I];rfl
theorem qT {w:World}{base:Nat}{v:Value}{l:LI}(h:Qu 3 base w v l) (hl:l.length≤1099511627776) :
  QK prog 101 [v] w λ_ w'=>Step (ob v) w w'∧Qu 3 base w' v (l.mergeSort λx y=>decide (x≤y)):=by
 unfold QK;rcases h.2 with ⟨rfl,H⟩ | ⟨g,cap,cur,rfl,I,E,ha,J,S,T⟩
 ·have V:l=[]:=Lp H;subst V;have hc:=AnyM.slices_Sort_int_none Tryz.sortI none 0 w;change Calls prog 101 _ _ _ at hc;refine Calls.mono hc λe w' he=>?_;obtain ⟨rfl,rfl⟩:=he;exact ⟨Step.refl _ _,by rw[List.mergeSort_nil];exact h⟩
 have Y:g<w.heap.size:=(LC.1 E).1;have hc:=AnyM.slices_Sort_int Tryz.sortI g 0 cap l w (VB E T) Y (by omega);change Calls prog 101 _ _ _ at hc;refine Calls.mono hc λe w' he=>?_;obtain ⟨rfl,n,os,rfl⟩:=he;have hp:=Nf l (λx y=>decide (x≤y));have G:=hp.length_eq
 have:=zR (e:=3) (n:=n) (k:=l.length) (os:=os) (d:=(l.mergeSort λx y=>decide (x≤y)).toArray) I E (by simp;omega) J S (by simp);refine ⟨this.1,?_⟩;have h2:=this.2;simp only[List.take_of_length_le (Nat.le_of_eq G)] at h2;unfold Qu at h2 ⊢;rw[G] at h2 ⊢;exact h2
theorem Qeb {w:World}{base:Nat}{v:Value}{l:LI}(h:Qu 3 base w v l) (hl:l.length≤1099511627776) :
  QK prog 101 [v] w λ_ w'=>Step (ob v) w w'∧∃l',l'.length=l.length∧(∀x,x∈l'↔x∈l)∧Qu 3 base w' v l' :=
 (qT h hl).mono λ_ _ ⟨h1,h2⟩=>⟨h1,_,(Nf l _).length_eq,λ_=>(Nf l _).mem_iff,h2⟩
theorem Qcg (l:LI):∀m,m≤l.length→∀x,x∈compactUpTo l.toArray m↔x∈l.take m
 | 0,_,x=>by simp[compactUpTo]
 | m+1,h,x=>by
  have ih:=Qcg l m (by omega) x;have hm:m<l.length:=by omega
  have hx:l.toArray[m]! = l[m]:=by simp[hm]
  rw[compactUpTo_succ,Lj,ih,Le hm,Lj,hx,La];by_cases hk:keeps l.toArray m=true
  ·rw[if_pos hk,La]
  rw[if_neg hk];refine ⟨λh=>.inl (h.resolve_right (by simp)),λh=>.inl (h.elim id λe=>?_)⟩;simp only[keeps,decide_eq_true_eq,not_or] at hk;have E:m≠0:=by simpa using hk.1
  have h1:l.toArray[m]! = l.toArray[m - 1]!:=by simpa using hk.2
  have h2:l.toArray[m - 1]! = l[m - 1]:=by simp[show m - 1<l.length by omega]
  rw[e,←hx,h1,h2];rw[List.mem_take_iff_getElem];exact ⟨m - 1,by omega,O⟩
theorem Qh8 {w:World}{base:Nat}{v:Value}{l:LI}(h:Qu 3 base w v l) (hl:l.length≤1099511627776) :
  QK prog 129 [v] w λr w'=>Step (ob v) w w'∧∃l',l'.length≤l.length∧(∀x,x∈l'↔x∈l)∧Qu 3 base w' r l':=by
 rcases h.2 with ⟨rfl,G⟩ | ⟨g,cap,cur,rfl,H,E,I,J,S,T⟩
 ·have V:l=[]:=Lp G;subst V;refine QK.of_W func129 O ntmps129 results129 (by simp) ?_;refine Qc<|Qe<|Qf<|Qc<|Qb<|x (je O)<|x (QA O O)<|xe<|Q6 O (λ_=>?_) (λY=>absurd (by decide) Y);refine Qc<|Qb<|Qe ?_;exact Qn ⟨[nS],Z,Step.refl _ _,[],Lr _,λx=>Iff.rfl,h⟩
 unfold QK;have hc:=AnyE.slices_Compact Tryz.cmpI iC (λ_=>O) (.intD _ _ .i64) (.intD _ _ .i64) 0 (λw=>by kernel_rfl) g 0 cap l.toArray w (VB E T) (by simp;omega) (by simpa using I);change Calls prog 129 _ _ _ at hc;rw[LQ] at hc;refine Calls.mono hc λe w' he=>?_;obtain ⟨rfl,q,rfl⟩:=he;have hm:=Qcg l l.length (Lr _);rw[MU] at hm
 have ha:(compactUpTo l.toArray l.length).length≤l.length:=by
  unfold compactUpTo;rw[Lc];exact LR (Mb _ _) (by simp)
 generalize compactUpTo l.toArray l.length=u at *;have:=zR (e:=3) (n:=q) (k:=u.length) (os:=#[]) (d:=(u++List.replicate (l.length - u.length) 0).toArray) H E (by simp;omega) J S (by simp);rw[grow_empty] at this;refine ⟨this.1,u,ha,hm,?_⟩;have h2:=this.2;have h3:(u++List.replicate (l.length - u.length) 0).toArray.toList.take u.length=u:=by simp
 rw[h3] at h2;exact h2
theorem Qaj {w:World}{va vb:Value}{a b:LI}(ha:QL [] w.heap va a) (hb:QL [] w.heap vb b) (hl:a.length+b.length≤1000) :
  QK prog 53 [va,vb] w λr w'=>Step [] w w'∧∃l,l.length≤a.length+b.length∧(∀x,x∈l↔x∈a∨x∈b)∧Qu 3 w.heap.size w' r l:=by
 refine QK.of_W func53 O ntmps53 results53 (by simp) ?_;refine Qc<|Qe<|Qc<|Qb<|xl O<|xf<|(ZW ha).mono ?_;rintro v1 w1 ⟨E,G⟩;have hk:=E.size;refine Qb<|xl O<|zZ G O (hb.ext E) O (KY b) (by omega) (by omega) λS H T V hm=>Qe ?_;have I:Qu 3 w.heap.size H S (a++b):=by
  unfold Qu;rw[Lh,Lt];exact T
 have Y:Step [] w H:=E.then V (λc hc=>.inr (Qk G c hc).1);have hn:(a++b).length=a.length+b.length:=Lh;refine Qc<|Qb<|xl O<|xf<|(Qeb I (by omega)).mono ?_;rintro r3 w3 ⟨he,l3,ho,hf,J⟩;have hg:Step [] w w3:=Y.then he (λc hc=>.inr (Qk I c hc).1);refine xe<|Qc<|Qb<|xl O<|xf<|(Qh8 J (by omega)).mono ?_;rintro r4 w4 ⟨hh,l4,hp,hi,hj⟩
 refine Qe ?_;exact Qn ⟨[_],Z,hg.then hh (λc hc=>.inr (Qk J c hc).1),l4,by omega,λx=>by rw[hi,hf,Lj],hj⟩
theorem UW {w:World}{v:Value}{al:LI}{ns:LN}(h:QL [] w.heap v al) (hb:∀e∈al,0≤e∧e<32) (hi:Yg al) (hn:ns.length=27) (J:∀n∈ns,n<256) :
  QK prog 54 [v,.agg (bys ns).toArray,.int .i64 3] w λr w'=>Step [] w w'∧∃a:QQ,YO w.heap.size w'.heap r a∧GdA a∧a.al=al:=by
 refine QK.of_W func54 O ntmps54 results54 (by simp) ?_;refine Qc<|xl O<|QS (us:=bys ns) O λb4 w1 S hk E=>xl O<|Qt (us:=[nS,.int .i64 0,nS,nS]) O λb6 w2 G hs T=>xe ?_;obtain ⟨s0,hl⟩:∃s0,ns.getD 0 0=s0:=⟨_,O⟩;have V:ns[0]?=some s0:=by
  rw[←hl,List.getD_eq_getElem?_getD,LB (by omega)];rfl
 have ht:s0<256:=J s0 (L7 V);have q0:(bys ns)[0]?=some (.int .u8 (s0:Int)):=by
  unfold bys;rw[M8,V];rfl
 have Y:=S.trans G;have hu:=S.size;have hw:=E.lt;have hy:=T.lt;refine Qc<|x (Qa O)<|x (Qd (E.ext G) O q0)<|Qb<|x (ZP (k':=.u8) O ⟨by omega,by omega⟩)<|x (UE (a:=(s0:Int)) (b:=3) O O (by omega) (by omega))<|x (Qa O)<|xl O<|QE (u:=.int .u8 ((s0 % 3:Nat):Int)) (E.ext G) O (congrArg (Value.int .u8) (by omega:(s0:Int) % 3=((s0 % 3:Nat):Int))) (by rw[YM];omega) O λw3 H ha =>
  xe ?_
 have I:Step [] w w3:=Y.then1 H hk;rw[Qga] at ha;have he:(ns.set 0 (s0 % 3)).length=27:=by rw[Nq];exact hn
 have hf:(ns.set 0 (s0 % 3)).getD 0 0=s0 % 3:=Qed (by omega);refine Qc<|Qb<|x (Qr ha O (by rw[YM];exact he))<|xl O<|xf<|(QcX (h.ext I) hb hi he (QgW J (by omega))).mono ?_;rintro r4 w4 ⟨hg,a,hA,hz,_,hm,hc⟩;obtain ⟨a0,k0,k1,k2,k3⟩:=hc (by rw[hf];omega);rw[hf] at k2;obtain ⟨us,hv,hh,ho⟩:=YV hA
 have hp:QZ w4.heap b6 58 [nS,.int .i64 0,nS,nS]:=(T.step H (by simp only[List.mem_singleton];omega)).ext hg;have hq:=I.size;have h0:=Y.size;have h1:=H.size;refine xl rfl<|Qp (us:=us) hp O (show Go.Lg.ev _ _=_ from hv) hh O ho λw5 hj hr=>xe ?_
 refine Qn ⟨[.agg us.toArray],⟨⟨_,O,Qv hh (hr.at (L:=[]) (by simp)).cells⟩,U⟩,(I.trans hg).then1 hj (by omega),a,?_,GdA.of k0 k1 k2 k3 (Nat.mod_lt _ (by decide)),hm⟩;show YO _ _ (.agg us.toArray) _;rw[←hv];exact (Y6 hA (by omega) hj).mono hq
end Go.Proofs.YtdffckgdcegpaaaGreatDoor
namespace Go.Lg
section
variable {P:Program} {f:Fr} {w:World} {d:Option Nat} {ty:Nat} {ps:String} {af:Array Edge} {gd:Option (Nat×Bool)}
theorem Vz {t E:Nat}{k:IntKind}[h:Ik P t k] [h':St P E] {x:Operand}{n:Nat}{G:IntKind}(hx:ev f x=.int G n) (H:n<128) :
  (execOp (ev f) ⟨d,.convert t E x,ty,ps,af,gd⟩).run P w=.ok (.value (.string ⟨#[UInt8.ofNat n]⟩)) w:=by
 refine Uk hx ?_;rw[run_convert_int_string w t E G n (by rw[h.u];rfl) h'.u];have I:Utf8.valid (n:Int)=true:=by
  unfold Utf8.valid;simp;omega
 unfold Utf8.encode;simp only[I,if_true,Int.toNat_natCast,H]
theorem Qep {t E:Nat}{x y:Operand}{k:IntKind}{a b:Int}(hx:ev f x=.int k a) (hy:ev f y=.int k b) (hb:b≠0) :
  (execOp (ev f) ⟨d,.binOp .rem t x y E,ty,ps,af,gd⟩).run P w=.ok (.value (.int k (a.tmod b))) w:=by
 refine YZ hx hy ?_;simp[binOp,Op.intDiv,hb]
end
end Go.Lg
namespace Go.Proofs.YtdffckgdcegpaaaGreatDoor
open Go.Proofs.Tryz
open Go.Lg Go.Sort
theorem Qjj {L:LN}{b T:Nat}{va:Value}{al:LI}(e:Int) (w:World) (E:QZ w.heap b T [va]) (G:QL L w.heap va al) :
  QK prog 56 ([.int .i64 e]++[.pointer (some ⟨b,0,none⟩)]) w λr w'=>r=.bool (decide (e∉al))∧w'=w:=by
 refine QK.of_W func56 O ntmps56 results56 (by simp) ?_;refine Qc<|Qe<|Qc<|x (Qd E O O)<|Qb<|xl O<|xf<|(ZM G e).mono ?_;rintro H I ⟨rfl,rfl⟩;refine x (Zr O)<|Qe<|Qn ⟨[_],Z,?_,O⟩;show Value.bool (!decide (e∈al))=_;rw[decide_not]
theorem zb {L:LN}{b T:Nat}{va:Value}{al:LI}(e:Int) (w:World) (E:QZ w.heap b T [va]) (G:QL L w.heap va al) :
  FnGives prog 56 #[.pointer (some ⟨b,0,none⟩)] #[iC e] (.bool (decide (e∉al))) w:=by
 have h:=Qjj e w E G;unfold QK at h;unfold FnGives;refine Calls.mono h λH w' he=>?_;cases H with
 | returned v =>
  obtain ⟨rfl,rfl⟩:=he;exact ⟨O,0,O⟩
 | _=>exact he.elim
theorem Qi6 {w:World}{g n:Nat}{os:Array Obj}{d:Array Int}:Step [g] w (grow (putRow iC (Sort.ahead w n) g 0 d) os):=by
 have E:(grow (putRow iC (Sort.ahead w n) g 0 d) os).heap=w.heap.modify g (onCells (putCells iC 0 d))++os:=rfl;refine ⟨O,O,O,?_,λi hi G=>?_⟩
 ·rw[E,M9,Mr];omega
 rw[E,Mn,Mr,if_pos hi,MK,if_neg (λe=>G (by simp[e]))]
theorem QhZ {w:World}{base b T:Nat}{v va:Value}{l al:LI}(h:Qu 3 base w v l) (hl:l.length≤1099511627776) (G:QZ w.heap b T [va]) (hb:b∉ob v) (H:QL (ob v) w.heap va al) :
  QK prog 55 [v,.func (.func 56) #[] #[.pointer (some ⟨b,0,none⟩)]] w λr w'=>Step (ob v) w w'∧Qu 3 base w' r (l.filter λx=>decide (x∈al)):=by
 have eg:∀args w,(callFunc 56 args).run prog w=.ok (.enter 56 args) w:=enters_of func56 (by kernel_rfl) O;rcases h.2 with ⟨rfl,V⟩ | ⟨g,cap,cur,rfl,Y,I,ha,hh,hi,hj⟩
 ·have hm:l=[]:=Lp V;subst hm;refine QK.of_W func55 O ntmps55 results55 (by simp) ?_;refine Qc<|Qe<|Qc<|Qb<|Qb<|xl O<|xf<|(Qfg (cap:=[.pointer (some ⟨b,0,none⟩)]) (q:=λ_=>true) (QL.fl (Ji [] w.heap)) (λe he=>by cases he)).mono ?_;rintro r1 w1 ⟨rfl,J⟩;refine Qe<|Qf<|Qc<|Qb<|x (Q5 O O)<|xe<|Q6 O (λ_=>?_) (λh8=>absurd O h8);refine Qc<|Qb<|Qe ?_
  exact Qn ⟨[nS],Z,J,Qq h J⟩
 unfold QK;have S:=λ(n:Nat) (os:Array Obj) (d:Array Int)=>Qi6 (w:=w) (g:=g) (n:=n) (os:=os) (d:=d);have hn:b∉[g]:=hb;have ho:QL [g] w.heap va al:=H;have hc:=AnyE.slices_DeleteFunc Tryz.delI iC (λ_=>O) (λx=>decide (x∉al)) 56 #[.pointer (some ⟨b,0,none⟩)] eg 0 (λw=>by kernel_rfl) g 0 cap l.toArray w
  (λW x E=>by
   have hs:Step [] w W:=⟨E.os,E.tape,E.output,E.size,λk hk _=>E.block k hk⟩;exact zb x W (G.ext hs) (H.ext hs))
  (λn os dk x _=>zb x _ (G.step (S n os dk) hn) (ho.st (S n os dk)))
  (VB I hj) (by simp;omega) (by simpa using ha)
 change Calls prog 55 _ _ _ at hc;rw[LQ] at hc;refine Calls.mono hc λe w' he=>?_;obtain ⟨rfl,q,rfl⟩:=he;have hf:(l.toArray.toList.filter λx=>!decide (x∉al))=l.filter λx=>decide (x∈al):=by
  refine List.filter_congr λx _=>?_;by_cases hx:x∈al <;> simp[hx]
 rw[hf];have hp:=Mb (λx=>decide (x∈al)) l;generalize (l.filter λx=>decide (x∈al))=u at *;have:=zR (e:=3) (n:=q) (k:=u.length) (os:=#[]) (d:=(u++List.replicate (l.length - u.length) 0).toArray) Y I (by simp;omega) hh hi (by simp);rw[grow_empty] at this;refine ⟨this.1,?_⟩;have h2:=this.2
 have h3:(u++List.replicate (l.length - u.length) 0).toArray.toList.take u.length=u:=by simp
 rw[h3] at h2;exact h2
end Go.Proofs.YtdffckgdcegpaaaGreatDoor
namespace Go.Lg
section
variable {P:Program} {f:Fr} {w:World} {K:Fr→World→Prop} {d:Option Nat} {ty:Nat} {ps:String} {af:Array Edge} {gd:Option (Nat×Bool)}
theorem Qhe {t e sz bys:Nat}{z:Value}[h:Sl P t e sz bys z] (Y:∀u∈z.cells,u.oneCell'=true) {s:Operand}{b o m c T:Nat}{cs:LV}(H:QZ w.heap b T cs) (hs:∃E,ev f s=.slice (some ⟨b,E,none⟩) m c∧(0<m→E=o∧o+m*sz≤cs.length))
  (S:∀w' cs',Step [b] w w'→QZ w'.heap b T cs'→cs'.length=cs.length→cs'.take o=cs.take o→K (QV f d (.tuple #[])) w'):XO P ⟨d,.call ⟨.builtin .clear,#[s],#[t]⟩,ty,ps,af,gd⟩ f w K:=by
 obtain ⟨E,hs,hm⟩:=hs;obtain ⟨i,hi,hz,hc,_⟩:=Sl.info h;have ha:=h.zs;rcases Nat.eq_zero_or_pos m with rfl | hmp
 ·have I:(execOp (ev f) ⟨d,.call ⟨.builtin .clear,#[s],#[t]⟩,ty,ps,af,gd⟩).run P w=.ok (.value (.tuple #[])) w:=by
   simp[execOp,resolve,invoke,builtin,hs,Builtin.clear_,run_underlying h.u]
  exact xv I (S w cs (Step.refl _ _) H O O)
 obtain ⟨rfl,he⟩:=hm hmp;have hb:(Builtin.zeroCells z.cells m).toList.length=m*sz:=by simp[Builtin.zeroCells,ha]
 have J:=run_storeCells_at P b E T (Builtin.zeroCells z.cells m).toList 0 cs.toArray w H (by simp only[List.size_toArray];omega) (λu hu=>by
  simp only[Builtin.zeroCells,Array.toList_map,List.mem_map] at hu;obtain ⟨j,hj,rfl⟩:=hu;have hf:=h.pos;have V:j % z.cells.size<z.cells.size:=Nat.mod_lt _ (by omega);rw[getElem!_pos z.cells _ V];exact Y _ (Array.getElem_mem V))
 simp only[Nat.add_zero] at J;obtain ⟨G,rfl⟩:∃G,m=G+1:=⟨m - 1,by omega⟩;have I:(execOp (ev f) ⟨d,.call ⟨.builtin .clear,#[s],#[t]⟩,ty,ps,af,gd⟩).run P w=.ok (.value (.tuple #[])) (w.setRow b ((cs.take E++(Builtin.zeroCells z.cells (G+1)).toList++cs.drop (E+(Builtin.zeroCells z.cells (G+1)).toList.length))).toArray):=by
  simp[execOp,resolve,invoke,builtin,hs,Builtin.clear_,run_underlying h.u,zeroValue,typeInfo,hi,hz] at J ⊢;simp[J]
 refine xv I (S _ _ (Step.setRow _ _ _) (Jg H) ?_ ?_)
 ·simp only[List.length_append,List.length_take,List.length_drop,hb];omega
 rw[Lz,List.take_append_of_le_length (by simp;omega),List.take_take,Nat.min_self]
theorem JQ {α:Type}{sz:Nat}{g:α→LV}(E:∀x,(g x).length=sz):∀(l:List α) (i:Nat) (u:α),i<l.length→(l.set i u).flatMap g=(l.flatMap g).take (i*sz)++g u++(l.flatMap g).drop (i*sz+sz)
 | [],i,u,h=>absurd h (by simp)
 | a::l,0,u,h=>by
  rw[List.set_cons_zero,LD,LD,Nat.zero_mul,Nh,Md,LP,List.drop_append_of_le_length (by rw[E a];exact Lr _),Lq (by rw[E a];exact Lr _),Md]
 | a::l,i+1,u,h=>by
  have h1:(i+1)*sz=(g a).length+i*sz:=by rw[E a,Nat.succ_mul];omega
  have h2:(i+1)*sz+sz=(g a).length+(i*sz+sz):=by omega
  have G:∀(F:LV) k,(g a++F).take ((g a).length+k)=g a++F.take k:=λF k=>by rw[List.take_append,Lm (l:=g a) (by omega),MN]
  have H:∀(F:LV) k,(g a++F).drop ((g a).length+k)=F.drop k:=λF k=>by rw[List.drop_append,Lq (l:=g a) (by omega),Md,MN]
  rw[List.set_cons_succ,LD,LD,h2,h1,G,H,JQ E l i u (by simpa using h)];simp only[List.append_assoc]
theorem QcR {α:Type}{t sz:Nat}[h1:Ag P t sz] {g:α→LV}(E:∀x,(g x).length=sz) {x y:Operand}{base e b cap i:Nat}{l:List α}{u:α}(h:w.ownsRow base e sz (.slice (some ⟨b,0,none⟩) l.length cap) l.length (l.flatMap g)) (hx:ev f x=.pointer (some ⟨b,i*sz,none⟩)) (hy:ev f y=.agg (g u).toArray) (hi:i<l.length) (hu:ZN (g u))
  (I:∀w',Step [b] w w'→w'.ownsRow base e sz (.slice (some ⟨b,0,none⟩) l.length cap) l.length ((l.set i u).flatMap g)→K (QV f d undef) w'):XO P ⟨d,.store t x y,ty,ps,af,gd⟩ f w K:=by
 rcases h.2 with ⟨e1,_⟩ | ⟨g',cap',cur,e1,J,S,G,T,V,Y⟩
 ·cases e1
 cases e1
 have hB:QZ w.heap b e cur.toList:=S;have he:l.length*sz≤cap*sz:=Mt _ G;have ha:(i+1)*sz≤l.length*sz:=Mt _ hi;rw[Nat.succ_mul] at ha;have H:cur.toList.length=cap*sz:=by rw[Array.length_toList];exact V
 have hb:=h.1;refine X3 hB hx hy (E u) (by omega) hu O λw' hs hc=>I w' hs ⟨?_,.inr ⟨b,cap,_,O,J,hc,G,T,?_,?_⟩⟩
 ·rw[JQ E l i u hi];simp only[List.length_append,List.length_take,List.length_drop,E u,hb];omega
 ·simp only[List.size_toArray,List.length_append,List.length_take,List.length_drop,E u,H];omega
 have hX:(cur.toList.take (i*sz)++g u).length=i*sz+sz:=by simp only[List.length_append,List.length_take,E u,H];omega
 rw[JQ E l i u hi,←Y];show (cur.toList.take (i*sz)++g u++cur.toList.drop (i*sz+sz)).take (l.length*sz)=_;rw[List.take_append,Lm (by omega),hX,List.take_take,ML (by omega),List.drop_take]
end
end Go.Lg
namespace Go.Proofs.YtdffckgdcegpaaaGreatDoor
open Go.Proofs.Tryz
open Go.Lg
theorem QeU (p:Int×Int) (w:World):QK prog 59 [.agg (QO p).toArray] w λr w'=>r=.bool (decide (p.2=0))∧Step [] w w':=by
 refine QK.of_W func59 O ntmps59 results59 (by simp) ?_;refine Qc<|xl O<|QS (us:=QO p) O λH I E J G=>Qe<|Qc<|x (Qa O)<|x (Qd G O O)<|x (Q5 O O)<|Qe ?_;exact Qn ⟨[_],Z,O,E⟩
theorem QhI {gp:Nat}{fn:Func}[Fu prog gp fn] {cap:LV}{q:(Int×Int)→Bool}{L:LN}{w:World}{v:Value}{l:List (Int×Int)}(h:Zp L w.heap v l.length 2 (l.flatMap QO))
  (hk:∀e∈l,∀(G:World),Step [] w G→QK prog gp ([.agg (QO e).toArray]++cap) G λr w'=>r=.bool (q e)∧Step [] G w') :
  QK prog 133 [v,.func (.func gp) #[] cap.toArray] w λr w'=>r=.int .i64 (fix q 0 l)∧Step [] w w':=by
 have hb:=h.le;refine QK.of_W func133 O ntmps133 results133 (by simp) ?_;refine Qc<|Qe<|Qf<|Qc<|Qb<|x (Qs h O)<|Qb<|xe<|Qh<|QB (α:=Nat) [(4,5),(8,18)] (λz=>[(8,.int .i64 z)]) (λz w'=>z≤l.length∧Step [] w w'∧fix q z (l.drop z)=fix q 0 l) (λz=>l.length - z) (by rfl) 0 Z
  ⟨Lk _,Step.refl _ _,O⟩ ?_
 rintro k g G ⟨hc,H,E⟩;refine Qc<|x (QA O O)<|xe<|Qf<|QG O (λh9=>?_) (λh9=>?_)
 ·refine Qz ?_;have Y:l.length≤k:=by have ha:¬(k:Int)<(l.length:Int):=h9;omega
  rw[Lq Y] at E;refine Qc<|Qe ?_;exact Qn ⟨[_],Z,by rw[←E];rfl,H⟩
 have I:k<l.length:=by have ha:(k:Int)<(l.length:Int):=h9;omega
 rw[QY I,ZQ] at E;have S:=Li I;refine Qi<|Qf<|Qh<|Qc<|Qb<|Qe<|Qc<|Qb<|Qb<|Qb<|xig YK (h.ext H) O O I λhf T=>?_;refine Zd (l[k]'I) λe he=>?_;rw[he] at T E S;refine x (QI T O O)<|xl O<|xc (first:=[]) (capt:=cap) O<|(hk e S G H).mono ?_;rintro r2 w2 ⟨rfl,V⟩;refine xe<|Q3 rfl (λJ=>?_) (λJ=>?_)
 ·rw[if_pos J] at E;refine Qc<|Qb<|Qe ?_;exact Qn ⟨[_],Z,by rw[←E];rfl,H.trans V⟩
 rw[if_neg (by rw[J];decide)] at E;refine Qi<|Qy<|QP O O<|Qb<|xe ?_;exact ⟨k+1,by omega,Z,I,H.trans V,E⟩
end Go.Proofs.YtdffckgdcegpaaaGreatDoor
namespace Go.Lg
section
variable {P:Program} {f:Fr} {w:World} {K:Fr→World→Prop} {d:Option Nat} {ty:Nat} {ps:String} {af:Array Edge} {gd:Option (Nat×Bool)}
theorem QcL {t e sz bys:Nat}{z:Value}[h:Sl P t e sz bys z] {x E:Operand}{b n cap:Nat}{k:IntKind}{lo:Nat}(hx:ev f x=.slice (some ⟨b,0,none⟩) n cap) (hl:ev f E=.int k lo) (h1:lo≤n) :
  (execOp (ev f) ⟨d,.slice t x (some E) none none,ty,ps,af,gd⟩).run P w=.ok (.value (.slice (some ⟨b,if cap=lo then 0 else lo*sz,none⟩) (n - lo) (cap - lo))) w:=by
 obtain ⟨i,G,_,H,_⟩:=Sl.info h;have e2:(Instr.sliceBound (.int k lo) n .sliceB).run P w=.ok lo w:=Z1 h1;by_cases I:cap=lo
 ·simp[execOp,hx,hl,Instr.sliceAt,Instr.slice,run_underlying h.u,Instr.sliceBounds,e2,sizeOf,typeInfo,G,H,I]
 simp[execOp,hx,hl,Instr.sliceAt,Instr.slice,run_underlying h.u,Instr.sliceBounds,e2,sizeOf,typeInfo,G,H,I,Addr.add];exact λe=>e.symm
theorem QcM {t e sz bys:Nat}{z:Value}[h:Sl P t e sz bys z] {x E:Operand}{b n cap:Nat}{k:IntKind}{hi:Nat}(hx:ev f x=.slice (some ⟨b,0,none⟩) n cap) (G:ev f E=.int k hi) (h1:hi≤cap) :
  (execOp (ev f) ⟨d,.slice t x none (some E) none,ty,ps,af,gd⟩).run P w=.ok (.value (.slice (some ⟨b,0,none⟩) hi cap)) w:=by
 obtain ⟨i,H,_,I,_⟩:=Sl.info h;have e2:(Instr.sliceBound (.int k hi) cap .sliceAcap).run P w=.ok hi w:=Z1 h1;simp[execOp,hx,G,Instr.sliceAt,Instr.slice,run_underlying h.u,Instr.sliceBounds,e2,sizeOf,typeInfo,H,Addr.add]
end
end Go.Lg
namespace Go.Proofs.YtdffckgdcegpaaaGreatDoor
open Go.Proofs.Tryz
open Go.Lg
theorem zg {α:Type}(q:α→Bool):∀(l:List α) (i:Nat),(fix q i l=-1∧∀x∈l,q x=false)∨∃k,k<l.length∧fix q i l=((i+k:Nat):Int)∧l.take k=(l.take (k+1)).filter λx=>!q x
 | [],i=>.inl ⟨O,λx h=>by cases h⟩
 | a::l,i=>by
  rw[ZQ];by_cases h:q a=true
  ·rw[if_pos h];exact .inr ⟨0,by simp,by simp,by simp[h]⟩
  rw[if_neg h];have h':q a=false:=by simpa using h
  rcases zg q l (i+1) with ⟨h1,h2⟩ | ⟨k,h1,h2,h3⟩
  ·exact .inl ⟨h1,λx hx=>by rcases Lb.1 hx with rfl | hx;exact h';exact h2 x hx⟩
  exact .inr ⟨k+1,by simpa using h1,by rw[h2];congr 1;omega,by rw[Mo,Mo,L9,if_pos (by simp[h']),←h3]⟩
theorem QbI {w:World}{base e sz n b cap:Nat}{cs:LV}(h:w.ownsRow base e sz (.slice (some ⟨b,0,none⟩) n cap) n cs):n≤cap∧∃cur:LV,QZ w.heap b e cur∧cur.length=cap*sz∧cur.take (n*sz)=cs:=by
 rcases h.2 with ⟨e1,_⟩ | ⟨g',cap',cur,e1,J,E,G,S,H,I⟩
 ·cases e1
 cases e1
 exact ⟨G,cur.toList,E,by rw[Array.length_toList];exact H,I⟩
theorem Qg8 {w w':World}{base e sz n b cap k:Nat}{cs E cur:LV}(h:w.ownsRow base e sz (.slice (some ⟨b,0,none⟩) n cap) n cs) (hk:k≤n) (G:QZ w'.heap b e cur) (hl:cur.length=cap*sz) (H:cur.take (k*sz)=E) (hc:E.length=k*sz) :
  w'.ownsRow base e sz (.slice (some ⟨b,0,none⟩) k cap) k E:=by
 rcases h.2 with ⟨e1,_⟩ | ⟨g',cap',cur',e1,I,S,T,J,V,Y⟩
 ·cases e1
 cases e1
 exact ⟨hc,.inr ⟨b,cap,cur.toArray,O,I,G,by omega,J,by rw[LQ];exact hl,H⟩⟩
theorem JR {α:Type}{sz:Nat}{g:α→LV}(E:∀x,(g x).length=sz):∀l:List α,(l.flatMap g).length=l.length*sz
 | []=>by simp
 | a::l=>by rw[LD,Lh,JR E l,E a,LG,Nat.succ_mul];omega
theorem QbG:∀(l:List (Int×Int)) (k:Nat),(l.flatMap QO).take (k*2)=(l.take k).flatMap QO
 | [],k=>by simp
 | a::l,0=>by simp
 | a::l,k+1=>by
  rw[show (k+1)*2=k*2+2 by omega,LD,Mo,LD,←QbG l k];rfl
abbrev nzT (l:List (Int×Int)):List (Int×Int):=l.filter λp=>!decide (p.2=0)
set_option maxHeartbeats 1000000 in
theorem QhY {w:World}{base:Nat}{v:Value}{l:List (Int×Int)}(h:w.ownsRow base 129 2 v l.length (l.flatMap QO)) (hl:l.length≤1000) :
  QK prog 58 [v,.func (.func 59) #[] #[]] w λr w'=>Step (ob v) w w'∧w'.ownsRow base 129 2 r (nzT l).length ((nzT l).flatMap QO):=by
 have hix:=QhI (cap:=[]) (q:=λp=>decide (p.2=0)) (QT (L:=[]) h (by omega) (by simp)) (λe _ T _=>QeU e T);have hq:=zg (λp:Int×Int=>decide (p.2=0)) l 0;rcases h.2 with ⟨rfl,V⟩ | ⟨g,cap,cur,rfl,hR,_⟩
 ·have h5:l=[]:=Lp V;subst h5;refine QK.of_W func58 O ntmps58 results58 (by simp) ?_;refine Qc<|Qe<|Qc<|Qb<|Qb<|xl O<|xf<|hix.mono ?_;rintro r1 T ⟨rfl,G⟩;refine Qe<|Qf<|Qc<|Qb<|x (Q5 O O)<|xe<|Q6 O (λ_=>?_) (λh8=>absurd O h8);refine Qc<|Qb<|Qe ?_;exact Qn ⟨[nS],Z,G,Qq h G⟩
 obtain ⟨hS,_⟩:=QbI h;refine QK.of_W func58 O ntmps58 results58 (by simp) ?_;refine Qc<|Qe<|Qc<|Qb<|Qb<|xl O<|xf<|hix.mono ?_;rintro r1 T ⟨rfl,G⟩;refine Qe<|Qf<|Qc<|Qb<|x (Q5 O O)<|xe<|Q6 rfl (λY=>?_) (λY=>?_)
 ·have h6:nzT l=l:=Ng.2 λp hp=>by
   rcases hq with ⟨_,h2⟩ | ⟨k,_,h2,_⟩
   ·have:=h2 p hp;simpa using this
   have hT:fix (λp:Int×Int=>decide (p.2=0)) 0 l=-1:=Y;omega
  refine Qc<|Qb<|Qe<|Qn ⟨[.slice (some ⟨g,0,none⟩) l.length cap],Z,G.any,?_⟩;rw[h6];exact Qq h G
 refine Exists.elim (hq.resolve_left λa=>Y a.1) λS ha=>?_;have h7:=ha.1;have hr:fix (λp:Int×Int=>decide (p.2=0)) 0 l=(S:Int):=by have:=ha.2.1;omega
 have h9:=ha.2.2;refine Qi<|Qf<|Qc<|Qb<|x (X2 (a:=(S:Int)) (b:=1) (congrArg (Value.int .i64) hr) O ⟨by omega,by omega⟩)<|Qe<|Qh<|QB (α:=Nat×Nat×List (Int×Int)) [(5,7),(16,35)] (λz=>[(5,.int .i64 z.1),(6,.int .i64 z.2.1)])
  (λz w'=>z.1<z.2.1∧z.2.1≤l.length∧z.2.2.length=l.length∧z.2.2.take z.1=nzT (l.take z.2.1)∧z.2.2.drop z.2.1=l.drop z.2.1∧Step [g] w w'∧w'.ownsRow base 129 2 (.slice (some ⟨g,0,none⟩) z.2.2.length cap) z.2.2.length (z.2.2.flatMap QO))
  (λz=>l.length - z.2.1) (by rfl) (S,S+1,l) ⟨congrArg (Value.int .i64) hr,O,U⟩
  ⟨Nat.lt_succ_self _,h7,O,h9,O,G.any,Qq h G⟩ ?_
 rintro ⟨i,j,ts⟩ g2 w2 ⟨hB,hj,hb,H,hc,hs,I⟩;simp only[] at hB hj hb H hc I;refine Qf<|Qc<|Qb<|Qb<|x (je O)<|x (QA O O)<|xe<|QG rfl (λhf=>?_) (λhf=>?_)
 ·refine Qz ?_;have hC:j=l.length:=by have hD:¬(j:Int)<(l.length:Int):=hf;omega
  rw[hC,MU] at H;have ht:(nzT l).length=i:=by rw[←H,Lv];omega
  refine Exists.elim (QbI I).2 λhU hg=>?_;have hE:=hg.1;have hV:=hg.2.1;have hF:=hg.2.2;refine Qc<|Qb<|Qb<|x (QcL (lo:=i) O O (by omega))<|xl O<|Qhe (m:=l.length - i) (o:=i*2) (λu hu=>by simp[Value.cells] at hu;rw[hu];rfl) hE ⟨_,O,λh=>⟨by rw[if_neg (by omega)],by omega⟩⟩ λw3 hW hh hG hX hH=>xe ?_
  refine Qc<|Qb<|Qb<|x (QcM (hi:=i) O O (by omega))<|Qe<|Qn ⟨[.slice (some ⟨g,0,none⟩) i cap],Z,hs.trans' hh,?_⟩;rw[ht];refine Qg8 I (by omega) hG (by omega) ?_ ?_
  ·rw[hH,←H,←QbG,←hF,List.take_take,ML (by omega)]
  rw[JR YK,ht]
 have E:j<l.length:=by have hD:(j:Int)<(l.length:Int):=hf;omega
 have hk:j<ts.length:=by omega
 have hI:ts[j]'hk=l[j]'E:=by
  have h1:=congrArg (λz=>z[0]?) hc;simp only[List.getElem?_drop,Nat.add_zero,List.getElem?_eq_getElem hk,List.getElem?_eq_getElem E] at h1;exact Option.some.inj h1
 have hv:ts.drop (j+1)=l.drop (j+1):=by
  have h1:=congrArg (List.drop 1) hc
  rwa [List.drop_drop,List.drop_drop] at h1
 have J:nzT (l.take (j+1))=nzT (l.take j)++(if (l[j]'E).2=0 then [] else [l[j]'E]):=by
  unfold nzT;rw[Le E,L0];by_cases V:(l[j]'E).2=0 <;> simp[V]
 have hA:=QT (L:=[]) I (by omega) (by simp);rw[show Value.slice (some ⟨g,0,none⟩) ts.length cap=.slice (some ⟨g,0,none⟩) l.length cap from by rw[hb]] at hA;refine Qi<|Qf<|Qh<|Qc<|Qb<|Qb<|xig YK hA O O hk λhY hm=>?_;rw[hI] at hm;refine Zd (l[j]'E) λe he=>?_;rw[he] at hm J
 refine x (QI hm O O)<|xl O<|Qt (us:=[.int .i64 0,.int .i64 0]) O λb7 w3 hh hJ hK=>xl O<|Qp (us:=QO e) hK O O O O ⟨O,O,U⟩ λw4 hL hw=>xe ?_;have hM:Step [] w2 w4:=hh.then1 hL hJ;refine Qc<|Qb<|x (Qr hw O O)<|xl O<|xc (first:=[]) (capt:=[]) O<|(QeU e w4).mono ?_;rintro r5 w5 ⟨rfl,hy⟩;refine x (Zr O)<|xe ?_;have hz:=hM.trans hy;have h3:=Qq I hz
 have h4:Step [g] w w5:=hs.trans hz.any;refine Q3 rfl (λhn=>?_) (λhn=>?_)
 ·have ho:¬e.2=0:=by simpa using hn
  rw[if_neg ho] at J;have hN:w5.ownsRow base 129 2 (.slice (some ⟨g,0,none⟩) ts.length cap) ts.length (ts.flatMap QO):=h3;refine Qc<|Qb<|Qb<|x (Qr (hw.ext hy) O O)<|x (Zh (i:=i) O O (by omega))<|xl O<|QcR (u:=e) YK hN (congrArg (λn=>Value.pointer (some ⟨g,n,none⟩)) (LP (i*2))) O (by omega) ⟨O,O,U⟩ λw6 hO hP =>
   xe ?_
  refine Qy<|Qb<|QP O O<|Qe<|Qy<|Qb<|QP O O<|Qe ?_;have hQ:(ts.set i e).length=ts.length:=Nq;refine ⟨(i+1,j+1,ts.set i e),by simp only[];omega,⟨O,O,U⟩,by simp only[];omega,E,by simp only[];omega,?_,?_,h4.trans' hO,?_⟩
  ·simp only[];rw[J,←H,List.set_eq_take_append_cons_drop,if_pos (by omega),List.take_append,Lm (by rw[Lv];omega),Lv,ML (by omega),MN,Mo,Nh]
  ·simp only[];rw[List.drop_set_of_lt (by omega),hv]
  simp only[];rw[hQ];exact hP
 have ho:e.2=0:=by simpa using hn
 rw[if_pos ho,LF] at J;refine Qi<|Qy<|Qb<|QP O O<|Qe ?_;exact ⟨(i,j+1,ts),by simp only[];omega,⟨O,O,U⟩,by simp only[];omega,E,hb,by rw[J];exact H,hv,h4,h3⟩
instance ayAz1:Ay prog 25 3 24 1:=⟨by kernel_rfl,by kernel_rfl⟩
instance ayAz2:Ay prog 30 2 24 1:=⟨by kernel_rfl,by kernel_rfl⟩
instance ayAz3:Ay prog 31 2 28 27:=⟨by kernel_rfl,by kernel_rfl⟩
instance ayAz4:Ay prog 34 3 33 1:=⟨by kernel_rfl,by kernel_rfl⟩
abbrev X4V:={r:LN // r.length=4∧∀n∈r,n<256}
abbrev YA (r:X4V):LV:=bys r.1
theorem Us (r:X4V):(YA r).length=4:=by show (bys r.1).length=4;unfold bys;rw[Lc,r.2.1]
structure PlV where
 ns:LN
 vx:Value
 xs:List X4V
 f0:Int
 f1:Int
 f2:Int
 bd:Int
abbrev Yp (l:PlV):LV:=bys l.ns++[l.vx,.int .i8 l.f0,.int .i8 l.f1,.int .i8 l.f2,.int .i8 l.bd]
abbrev i8R (n:Int):Prop:=-128≤n∧n≤127
structure PlA (L:LN) (H:Array Obj) (l:PlV):Prop where
 n:l.ns.length=147
 b:∀n∈l.ns,n<256
 x:Zp L H l.vx l.xs.length 4 (l.xs.flatMap YA)
 f0:i8R l.f0
 f1:i8R l.f1
 f2:i8R l.f2
 bd:i8R l.bd
theorem Qey {l:PlV}(h:l.ns.length=147):(Yp l).length=152:=by rw[Yp,Lh,YM,h];rfl
theorem Qez {l:PlV}(h:l.ns.length=147) (j:Nat):(Yp l)[147+j]?=([l.vx,.int .i8 l.f0,.int .i8 l.f1,.int .i8 l.f2,.int .i8 l.bd]:LV)[j]?:=by
 rw[Yp,Mq (by rw[YM];omega),YM,h,MN]
theorem QbE {l:PlV}(h:l.ns.length=147) {j:Nat}(E:j<147):(Yp l)[j]?=some (.int .u8 ((l.ns.getD j 0:Nat):Int)):=by
 rw[Yp,L3 (by rw[YM];omega)];exact VO (by omega)
theorem QaH {l:PlV}{o m:Nat}(j:Nat) (u:Value) (h:(bys ((l.ns.drop o).take m))[j]?=some u):(Yp l)[o+j]?=some u:=by
 have h1:=Qib (ns:=l.ns) (o:=o) (n:=m) j u h;have h2:=(LY.1 h1).1;rw[Yp,L3 h2];exact h1
theorem Qck {sz:LI}:∀(ls:List (Int×Int)) (pr:Option Int),(∀b,pr=some b→∀p∈ls,b<p.1)→ls.Pairwise (λp q=>p.1<q.1)→(∀p∈ls,0≤p.1∧p.1<(sz.length:Int)∧0≤p.2∧p.2<cget sz p.1.toNat)→YP sz pr ls=0
 | [],_,_,_,_=>rfl
 | p::ls,pr,hp,hs,hb=>by
  obtain ⟨h1,h2,h3,G⟩:=hb p Ln;obtain ⟨k1,k2⟩:=LU.1 hs;have hl:UP pr p.1=false:=by
   cases pr with
   | none=>rfl
   | some b=>have:=hp b O p Ln;unfold UP;exact decide_eq_false (by omega)
  rw[YP,if_neg (by omega),if_neg (by rw[hl];decide),if_neg (by omega)];exact Qck ls (some p.1) (λb E q hq=>by cases E;exact k1 q hq) k2 (λq hq=>hb q (Ll _ hq))
theorem Qci {sz:LI}:∀(ls:List (Int×Int)) (pr:Option Int),(∀b,pr=some b→∀p∈ls,b<p.1)→ls.Pairwise (λp q=>p.1<q.1)→(∀p∈ls,0≤p.1∧p.1<(sz.length:Int)∧p.2≠0∧-65536≤p.2∧p.2≤65536)→Xs sz pr ls=0
 | [],_,_,_,_=>rfl
 | p::ls,pr,hp,hs,hb=>by
  obtain ⟨h1,h2,h3,H,h5⟩:=hb p Ln;obtain ⟨k1,k2⟩:=LU.1 hs;have hl:UP pr p.1=false:=by
   cases pr with
   | none=>rfl
   | some b=>have:=hp b O p Ln;unfold UP;exact decide_eq_false (by omega)
  have E:grt p.2=false:=by unfold grt;rw[decide_eq_false (by omega),decide_eq_false (by omega)];rfl
  rw[Xs,if_neg (by omega),if_neg (by rw[hl];decide),if_neg (by rw[E];simpa using h3)];exact Qci ls (some p.1) (λb G q hq=>by cases G;exact k1 q hq) k2 (λq hq=>hb q (Ll _ hq))
theorem Qbr (a:Int) {b:Int}(h:0<b):-b<a.tmod b∧a.tmod b<b:=⟨Int.lt_tmod_of_pos a h,Int.tmod_lt_of_pos a h⟩
structure ItG (c:Nat) (k:Nat) (q:IV):Prop where
 nm:q.nm=⟨#[UInt8.ofNat c]⟩++⟨#[UInt8.ofNat (48+k)]⟩
 g:GdA q.p.a
 e:∀e∈q.p.a.al,e<5
def nmI (c k:Nat):ByteArray:=⟨#[UInt8.ofNat c]⟩++⟨#[UInt8.ofNat (48+k)]⟩
theorem QeN (k:Nat) (h:k<3):YC (nmI 99 k)=true∧YC (nmI 114 k)=true∧YC (nmI 101 k)=true:=by
 match k,h with
 | 0,_=>decide
 | 1,_=>decide
 | 2,_=>decide
theorem VE (c k:Nat):V7 (nmI c k):=by
 show (ByteArray.mk _++ByteArray.mk _).size≤_;rw[ByteArray.size_append];show 1+1≤_;omega
theorem QcT:∀n,n<4→∀m,m<3→((List.range n).map (nmI 99)++(List.range m).map (nmI 114)).Nodup:=by decide
theorem zd {c:Nat}{co:List IV}(h:∀k (hk:k<co.length),ItG c k (co[k]'hk)):(co.map IV.it).map (·.nm)=(List.range co.length).map (nmI c):=by
 apply L4
 ·simp
 intro i h1 h2;simp only[List.getElem_map,List.getElem_range];exact (h i (by simpa using h1)).nm
theorem QjL {ns:LN}{co rq:List IV}{qx:List XV}{ks:List KV}{al:LI}(J:ns.length=5) (h1:1≤co.length) (h3:co.length≤3) (G:∀k (hk:k<co.length),ItG 99 k (co[k]'hk)) (S:∀e,e∈al↔∃q∈co,e∈q.p.a.al) (hb:rq.length≤2)
  (H:∀k (hk:k<rq.length),ItG 114 k (rq[k]'hk)∧∀e∈(rq[k]'hk).p.a.al,e∈al) (hc:qx.length≤2) (T:(qx.map (·.nm)).Nodup) (V:∀q∈qx,(∃k,k<2∧q.nm=⟨#[101]⟩++⟨#[UInt8.ofNat (48+k)]⟩)∧q.ls≠[]∧q.ls.length≤3∧YP (co.map (·.p.a.st)) none q.ls=0)
  (hf:ks.length≤1) (Y:∀q∈ks,q.nm=⟨#[107]⟩∧YL (co.map (·.p.a.st)) q.k=0):D25 ⟨Xc ns 5,co.map IV.it,rq.map IV.it,qx.map XV.x,ks.map KV.k⟩:=by
 have I:szs (co.map IV.it)=co.map (·.p.a.st):=by unfold szs;rw[MH];rfl
 refine ⟨⟨ns,J,O⟩,by simp only[List.length_map];omega,by simp only[List.length_map];omega,by simp only[List.length_map];omega,λx hx=>?_,λx hx=>?_,?_,by simp only[List.length_map];omega,λx hx=>?_,?_,by simp only[List.length_map];omega,λx hx=>?_⟩
 ·obtain ⟨q,hq,rfl⟩:=Lx.1 hx;obtain ⟨k,hk,rfl⟩:=LE hq;have g:=G k hk;exact ⟨by show YC (co[k]'hk).nm=true;rw[g.nm];exact (QeN k (by omega)).1,g.g,g.e⟩
 ·obtain ⟨q,hq,rfl⟩:=Lx.1 hx;obtain ⟨k,hk,rfl⟩:=LE hq;have g:=H k hk;refine ⟨by show YC (rq[k]'hk).nm=true;rw[g.1.nm];exact (QeN k (by omega)).2.1,g.1.g,λe he=>?_⟩;obtain ⟨y,hy,ha⟩:=(S e).1 (g.2 e he);exact ⟨y.it,LH hy,ha⟩
 ·show ((co.map IV.it).map (·.nm)++(rq.map IV.it).map (·.nm)).Nodup;rw[zd G,zd (λk hk=>(H k hk).1)];exact QcT _ (by omega) _ (by omega)
 ·obtain ⟨q,hq,rfl⟩:=Lx.1 hx;obtain ⟨⟨k,k1,k2⟩,E,_,g4⟩:=V q hq;refine ⟨by show YC q.nm=true;rw[k2];exact (QeN k (by omega)).2.2,E,?_⟩;show YP (szs (co.map IV.it)) none q.ls=0;rw[I];exact g4
 ·show ((qx.map XV.x).map (·.nm)).Nodup;rw[MH];exact T
 obtain ⟨q,hq,rfl⟩:=Lx.1 hx;obtain ⟨g1,E⟩:=Y q hq;refine ⟨by show YC q.nm=true;rw[g1];decide,?_⟩;show YL (szs (co.map IV.it)) q.k=0;rw[I];exact E
def flk (l:PlV) (i:Nat):Int:=[l.f0,l.f1,l.f2].getD i 0
theorem Qkz {l:PlV}(h:l.ns.length=147) {i:Nat}(hi:i<3):(Yp l)[0+148+i*1]?=some (.int .i8 (flk l i)):=by
 rw[show 0+148+i*1=147+(1+i) by omega,Qez h]
 match i,hi with
 | 0,_=>rfl
 | 1,_=>rfl
 | 2,_=>rfl
theorem Qky {L:LN}{H:Array Obj}{l:PlV}(h:PlA L H l) (i:Nat) (hi:i<3):i8R (flk l i):=by
 match i,hi with
 | 0,_=>exact h.f0
 | 1,_=>exact h.f1
 | 2,_=>exact h.f2
theorem QfK (ns:LN):∀e∈Xc ns 5,V7 e.nm:=λe he=>by
 unfold Xc at he;obtain ⟨k,_,rfl⟩:=Lx.1 he;unfold Jl;split <;> exact YS (by simp)
set_option maxRecDepth 100000 in
set_option maxHeartbeats 8000000 in
theorem QcY {w:World}{l:PlV}(h:PlA [] w.heap l) :
  QK prog 14 [.agg (Yp l).toArray] w λr w'=>Step [] w w'∧∃k,Qgx w.heap.size w'.heap r k∧D25 k:=by
 have hpl:=Qey h.n;refine Zd (1+l.ns.getD 5 0 % 3) λn hn=>?_;have hn3:1≤n∧n≤3:=by omega
 refine QK.of_W func14 O ntmps14 results14 (by simp) ?_;refine Qc<|xl O<|QS (us:=Yp l) O λb1 w1 m8 hb1 m9=>xl O<|Qt (us:=Ym) O λb2 w2 kg hb2 pa=>xe ?_;have pc:=m8.trans kg;have hz1:=m8.size;have hz2:=kg.size;have hl1:=m9.lt;have hl2:=pa.lt;have gt:=m9.ext kg;have kx:((l.ns.drop 0).take 5).length=5:=by rw[Lv,Mg,h.n];rfl
 have hflt:∀n∈(l.ns.drop 0).take 5,n<256:=λn hn=>h.b n (MF (LM hn));refine Qc<|x (Qa O)<|x (VA (us:=bys ((l.ns.drop 0).take 5)) gt O (by rw[YM];exact kx) (λj u hu=>QaH (l:=l) (o:=0) (m:=5) j u hu))<|xl O<|xf<|(Qab (ns:=(l.ns.drop 0).take 5) kx hflt).mono ?_;rintro ve w3 ⟨pd,gk⟩;refine Zd (Xc ((l.ns.drop 0).take 5) 5) λev kh=>?_;rw[kh] at gk
 refine x (QD ⟨Q0 gk,U⟩)<|xl O<|Qt (us:=Ym) O λE w4 pf hb3 hB3=>xl O<|Qp (us:=[ve,Zf,Zf,Zf,Zf]) hB3 O O O O ⟨QH gk,O,O,O,O,U⟩ λw5 hs5 pg =>
  xe ?_
 have ph:Step [] w3 w5:=pf.then1 hs5 hb3;refine Qc<|xl O<|Qt (us:=[Zf]) O λb4 w6 ky hb4 pj=>xe ?_;have pm:=ph.trans ky;have gu:=pd.trans pm;have H:=kg.trans gu;have hz3:=pd.size;have hz35:=ph.size;have hz4:=pf.size;have hz6:=ky.size;have hl3:=pg.lt;have hl4:=pj.lt;have kz:=gt.ext gu;have hB36:=pg.ext ky;have q5:=QbE (l:=l) h.n (j:=5) (by omega)
 have q5l:=Xi h.b 5;refine Zd (l.ns.getD 5 0) λcn hcn=>?_;rw[hcn] at q5 q5l hn;refine Qc<|x (Qa O)<|x (Qd kz O q5)<|x (UE (a:=(cn:Int)) (b:=3) O O (by omega) (by omega))<|x (ZP (k':=.i64) O ⟨by omega,by omega⟩)<|QP O O<|Qe ?_;have hnn:(1:Int)+(cn:Int) % 3=(n:Int):=by omega
 refine QU (α:=Value×List IV×Value×LI) [(6,7),(26,55)] (λ_=>[]) (λz w'=>Step [E,b4] w6 w'∧QZ w'.heap E 47 [ve,z.1,Zf,Zf,Zf]∧QZ w'.heap b4 37 [z.2.2.1]∧Ub w6.heap.size w' z.1 z.2.2.1 z.2.1 z.2.2.2∧z.2.1.length=n∧(∀k (hk:k<z.2.1.length),ItG 99 k (z.2.1[k]'hk))∧z.2.2.2.length≤5*n∧∀e,e∈z.2.2.2↔∃q∈z.2.1,e∈q.p.a.al) (by rfl) ?_ ?_
 ·refine Qc<|Qb<|Qb<|xe<|Qh<|QB (α:=Nat×Value×List IV×Value×LI) [(6,7),(27,55)] (λz=>[(27,.int .i64 z.1)])
   (λz w'=>z.1≤n∧Step [E,b4] w6 w'∧QZ w'.heap E 47 [ve,z.2.1,Zf,Zf,Zf]∧QZ w'.heap b4 37 [z.2.2.2.1]∧Ub w6.heap.size w' z.2.1 z.2.2.2.1 z.2.2.1 z.2.2.2.2∧z.2.2.1.length=z.1∧(∀k (hk:k<z.2.2.1.length),ItG 99 k (z.2.2.1[k]'hk))∧z.2.2.2.2.length≤5*z.1∧∀e,e∈z.2.2.2.2↔∃q∈z.2.2.1,e∈q.p.a.al)
   (λz=>n - z.1) (by rfl) (0,Zf,[],Zf,[]) Z
   ⟨Lk _,Step.refl _ _,hB36,pj,Ub.nil,O,λk hk=>absurd hk (by simp),by simp,by simp⟩ ?_
  rintro ⟨i,vc,co,va,al⟩ g7 w7 ⟨hi,h7,gl,ga,hf,gv,hS,k0,gm⟩;simp only[] at hi gl ga hf gv hS k0 gm;refine Qc<|x (QA O O)<|xe<|Qf<|QG O (λk4=>?_) (λk4=>?_)
  ·refine Qz ?_;have k5:i=n:=by have h29:¬(i:Int)<1+(cn:Int) % 3:=k4;omega
   exact ⟨(vc,co,va,al),U,h7,gl,ga,hf,by simp only[];omega,hS,by simp only[];omega,gm⟩
  have hy:i<n:=by have h29:(i:Int)<1+(cn:Int) % 3:=k4;omega
  have k6:b1∉[E,b4]:=by simp only[List.mem_cons,List.not_mem_nil,or_false];omega
  have hT:=kz.step h7 k6;have qs:=QbE (l:=l) h.n (j:=0+6+i*1) (by omega);have qsl:=Xi h.b (0+6+i*1);refine Zd (l.ns.getD (0+6+i*1) 0) λm hm=>?_;rw[hm] at qs qsl;have k7:=YY m 5;have gw:=JG m 5;have gb:=Qbx m 5;refine Zd (setK m 5) λsk gx=>?_;rw[gx] at k7 gw gb
  refine Qi<|Qf<|Qh<|Qc<|Qb<|Qe<|Qc<|Qb<|x (Qa O)<|x (ZI (i:=i) O O (by omega))<|x (Qd hT O qs)<|xl O<|xf<|(KQ m qsl _).mono ?_;rintro vs w8 ⟨Y,ki⟩;rw[gx] at ki;refine Qe ?_;have pn:=Y.size;have h8:=hf.ext Y;have hI8:=Qu.ints (L:=[]) h8.a (by omega) (by simp);have hJ8:=Qu.ints (L:=[]) ki (by omega) (by simp)
  refine Qc<|x (Qd (ga.ext Y) O O)<|Qb<|xl O<|xf<|(Qaj hI8 hJ8 (by omega)).mono ?_;rintro po w9 ⟨I,pp,hal2,pt,gc⟩;have kj:=Y.trans I;have k8:=I.size;have hz7:=h7.size;refine xl O<|QE (ga.ext kj) O O (by simp) (QH gc) λT hh hB410=>xe ?_;have hl36:E<w6.heap.size:=by omega
  have h4:Ub w6.heap.size w9 vc po co pp:=h8.setA (Zq gc (by omega)) I.any (λb hb=>.inr (Qk gc b hb).1);have hj:=h4.low hh (λb hb=>by rw[La.1 hb];omega);have gy:QZ T.heap E 47 [ve,vc,Zf,Zf,Zf]:=(gl.ext kj).step hh (by simp only[List.mem_singleton];omega);have k9:=(hT.ext kj).step hh (by simp only[List.mem_singleton];omega)
  have ma:QL [] T.heap vs sk:=Qu.ints (L:=[]) (Qj (Qq ki I) hh (λb hb hm=>by have:=(Qk ki b hb).1;rw[La.1 hm] at this;omega)) (by omega) (by simp);have hz10:=hh.size;have n3v:E∉ob vc:=QM hj.c (by omega);have n1v:b1∉ob vc:=QM hj.c (by omega);have ge:=Qfn (ns:=l.ns) (o:=0+9+i*27) (by have:=h.n;omega);have gz:=Qiz (o:=0+9+i*27) h.b
  have g0:=λj u=>QaH (l:=l) (o:=0+9+i*27) (m:=27) j u;refine Zd (grN l.ns (0+9+i*27)) λgr h5=>?_;have mc:∀j u,(bys gr)[j]?=some u→(Yp l)[0+9+i*27+j]?=some u:=by rw[←h5];exact g0
  rw[h5] at ge gz;have g2:Step [] T { T with drawn:=T.drawn+1 }:=Step.drew _ _
  have g3:(48:Int)+(i:Int)=((48+i:Nat):Int):=by omega
  refine Zd (⟨#[99]⟩++⟨#[UInt8.ofNat (48+i)]⟩:ByteArray) λnm hB=>?_;refine QW (Step (ob vc) T) [(0,true),(1,true),(2,true),(3,true),(4,true),(5,true),(6,true),(7,true),(8,true),(9,true),(10,true),(11,true),(12,false),(13,true),(14,false),(15,false),(16,true),(17,false)] mixed (by rfl) (by kernel_rfl) (Step.drew _ _) ?_
  refine p (λ_=>Qa O)<|pq (λ_ hc=>Qd (gy.step hc n3v) O O)<|p (λ_=>Qo)<|p (λ_=>X2 O O ⟨by omega,by omega⟩)<|p (λ_=>ZP (k':=.i32) O ⟨by omega,by omega⟩)<|p (λ_=>Vz (n:=48+i) (congrArg (Value.int .i32) g3) (by omega)) <|
   p (λ_=>Z9 (a:=⟨#[99]⟩) (b:=⟨#[UInt8.ofNat (48+i)]⟩) O O (by show 1+1≤1000000000;omega))<|p (λ_=>Qo)<|p (λ_=>Qo)<|p (λ_=>Qa O)<|p (λ_=>ZI (i:=i) O O (by omega))<|pq (λ_ hc=>VA (us:=bys gr) (k9.step hc n1v) O (by rw[YM];exact ge) mc)<|?_
  refine pk<|xf<|(UW (ma.ext g2) (λe he=>by have:=gb e he;omega) gw ge gz).mono ?_;rintro r11 hg ⟨gg,a,⟨xa,xm,hz,rfl,hA⟩,hG,gn⟩;have hC:=g2.trans gg;have pu:=hC.size;have gh:=hA [] (by simp);refine ⟨hC.any,?_⟩
  refine p (λ_=>ZV [(0,[.string nm]),(1,[xa,.int .i64 a.st,xm,hz])] ⟨congrArg (λb=>(Value.string b).cells) hB,O,O,O,U⟩)<|pk<|QC (us:=[Za ⟨nm,⟨xa,xm,hz,a⟩⟩]) O O (by decide) (show 1*5≤1000000 by omega) ⟨O,O,U⟩ λb14 hU V hb14 mf=>⟨(hC.trans V).any,?_⟩;have ho:=hC.trans V;have g4:=hj.ext ho
  refine pk<|Q2 (news:=Za ⟨nm,⟨xa,xm,hz,a⟩⟩) (L:=[]) g4.c O O O (mf.at (by simp)) (yn gh.al.one gh.mr.one gh.ed.one) (by omega) (by have:=ho.size;omega) λmg hE g5 G mh=>⟨(ho.any (L:=ob vc)).trans' G,?_⟩;have mj:=g4.setC (US (q:=⟨nm,⟨xa,xm,hz,a⟩⟩) (N:=T.heap.size) (λL hL=>(hA L hL).ext V) (by omega) hj.avlt) g5 G mh
  refine p (λ_=>Qa O)<|pkl (hl:=by kernel_rfl)<|QE ((gy.ext ho).step G n3v) O O (by simp) (QH g5) λhH H hV=>pe ?_;have hge:=Qk hj.c;have n4v:b4∉ob vc:=QM hj.c (by omega);have hB416:=((hB410.ext ho).step G n4v).step H (by simp only[List.mem_singleton];omega);have hs710:Step [b4] w7 T:=kj.any.trans' hh
  have hs615:Step [E,b4] w6 hE:=((h7.trans' (hs710.mono (by simp))).trans ho.any).then G (λb hb=>.inr (hge b hb).1);refine Qy<|QP O O<|Qb<|xe ?_
  refine ⟨(i+1,mg,co++[⟨nm,⟨xa,xm,hz,a⟩⟩],po,pp),by simp only[];omega,Z,hy,hs615.trans' (H.mono (by simp)),hV,hB416,mj.low H (λb hb=>by rw[List.mem_singleton.1 hb];omega),by simp only[List.length_append,List.length_singleton];omega,λk hk=>?_,by simp only[];omega,λe=>?_⟩
  ·simp only[] at hk ⊢;by_cases ha:k<co.length
   ·rw[Mm ha];exact hS k ha
   have g6:k=i:=by simp only[List.length_append,List.length_singleton] at hk;omega
   subst g6;rw[MS (by omega)];simp only[gv,Nat.sub_self,List.getElem_cons_zero];exact ⟨hB.symm,hG,λe he=>by rw[gn] at he;exact (gb e he).2⟩
  simp only[] at pt ⊢;rw[pt,gm];constructor
  ·rintro (⟨q,hq,he⟩ | he)
   ·exact ⟨q,LL _ hq,he⟩
   exact ⟨_,Mc _ (La.2 O),by rw[gn];exact he⟩
  rintro ⟨q,hq,he⟩;rcases Lj.1 hq with hq | hq
  ·exact .inl ⟨q,hq,he⟩
  rw[La.1 hq,gn] at he;exact .inr he
 rintro ⟨vc,co,va,al⟩ g7 w7 ⟨h7,gl,ga,hf,gv,hS,k0,gm⟩;simp only[] at gl ga hf gv hS k0 gm;have hz7:=h7.size;have k6:b1∉[E,b4]:=by simp only[List.mem_cons,List.not_mem_nil,or_false];omega
 have hT:=kz.step h7 k6;have mo:b1∉[E]:=by simp only[List.mem_singleton];omega
 have n43:b4∉[E]:=by simp only[List.mem_singleton];omega
 have pw:=QbE (l:=l) h.n (j:=90) (by omega);have q90l:=Xi h.b 90;refine Zd (l.ns.getD 90 0) λrn hrn=>?_;rw[hrn] at pw q90l;refine Zd (rn % 3) λr hr=>?_;have hr2:r≤2:=by omega
 refine QU (α:=Value×List IV) [(8,9),(56,87)] (λ_=>[]) (λz w'=>Step [E] w7 w'∧QZ w'.heap E 47 [ve,vc,z.1,Zf,Zf]∧Ub w7.heap.size w' z.1 Zf z.2 []∧z.2.length=r∧∀k (hk:k<z.2.length),ItG 114 k (z.2[k]'hk)∧∀e∈(z.2[k]'hk).p.a.al,e∈al) (by rfl) ?_ ?_
 ·refine Qc<|x (Qa O)<|x (Qd hT O pw)<|x (UE (a:=(rn:Int)) (b:=3) O O (by omega) (by omega))<|x (ZP (k':=.i64) O ⟨by omega,by omega⟩)<|Qb<|xe<|Qh<|QB (α:=Nat×Value×List IV) [(8,9),(60,87)] (λz=>[(60,.int .i64 z.1)])
   (λz w'=>z.1≤r∧Step [E] w7 w'∧QZ w'.heap E 47 [ve,vc,z.2.1,Zf,Zf]∧Ub w7.heap.size w' z.2.1 Zf z.2.2 []∧z.2.2.length=z.1∧∀k (hk:k<z.2.2.length),ItG 114 k (z.2.2[k]'hk)∧∀e∈(z.2.2[k]'hk).p.a.al,e∈al)
   (λz=>r - z.1) (by rfl) (0,Zf,[]) Z
   ⟨Lk _,Step.refl _ _,gl,Ub.nil,O,λk hk=>absurd hk (by simp)⟩ ?_
  rintro ⟨i,vr,rq⟩ g8 w8 ⟨hi,Y,go,h8,kk,h5⟩;simp only[] at hi go h8 kk h5;refine Qc<|x (QA O O)<|xe<|Qf<|QG O (λmq=>?_) (λmq=>?_)
  ·refine Qz ?_;have k5:i=r:=by have h62:¬(i:Int)<(rn:Int) % 3:=mq;omega
   exact ⟨(vr,rq),U,Y,go,h8,by simp only[];omega,h5⟩
  have hy:i<r:=by have h62:(i:Int)<(rn:Int) % 3:=mq;omega
  have ka:=hT.step Y mo;have hB48:=ga.step Y n43;have qs:=QbE (l:=l) h.n (j:=0+91+i*1) (by omega);have qsl:=Xi h.b (0+91+i*1);refine Zd (l.ns.getD (0+91+i*1) 0) λm hm=>?_;rw[hm] at qs qsl;have k7:=YY m 5;have gw:=JG m 5;have gb:=Qbx m 5;refine Zd (setK m 5) λsk gx=>?_;rw[gx] at k7 gw gb
  refine Qi<|Qf<|Qh<|Qc<|Qb<|Qe<|Qc<|Qb<|x (Qa O)<|x (ZI (i:=i) O O (by omega))<|x (Qd ka O qs)<|xl O<|xf<|(KQ m qsl _).mono ?_;rintro vs w9 ⟨I,gc⟩;rw[gx] at gc;have pn:=Y.size;have k8:=I.size;have hva8:=Qq (Qj hf.a Y (λb hb hm=>by rw[La.1 hm] at hb;exact QM hf.a (by omega) hb)) I;have g0:=Qk gc;have hlv:=QR hf.a
  have hD:=QhZ gc (by omega) (hB48.ext I) (λhm=>by have:=(g0 b4 hm).1;omega) (QT hva8 (by omega) (λb hb hbs=>by have:=(g0 b hbs).1;have:=hlv b hb;omega));refine x (Zo (l:=[]) (l':=[_]))<|xl O<|xf<|hD.mono ?_;rintro vd T ⟨hh,pz⟩;have p0:Yg (sk.filter λx=>decide (x∈al)):=List.Pairwise.filter _ gw;have hFL:=Mb (λx=>decide (x∈al)) sk
  have kn:∀e∈sk.filter λx=>decide (x∈al),e∈sk∧e∈al:=λe he=>by
   have:=LS.1 he;exact ⟨this.1,of_decide_eq_true this.2⟩
  refine Zd (sk.filter λx=>decide (x∈al)) λF hF=>?_;rw[hF] at pz p0 hFL kn;refine Qe ?_;have kb:Step [] w8 T:=I.then hh (λb hb=>.inr (g0 b hb).1);have hz10:=kb.size;have hj:=h8.ext kb;have gy:=go.ext kb;have k9:=ka.ext kb;have ma:QL [] T.heap vd F:=Qu.ints (L:=[]) pz (by omega) (by simp);have n3v:E∉ob vr:=QM hj.c (by omega)
  have n1v:b1∉ob vr:=QM hj.c (by omega);have ge:=Qfn (ns:=l.ns) (o:=0+93+i*27) (by have:=h.n;omega);have gz:=Qiz (o:=0+93+i*27) h.b;have mc:=λj u=>QaH (l:=l) (o:=0+93+i*27) (m:=27) j u;refine Zd (grN l.ns (0+93+i*27)) λgr p1=>?_;have hgs2:∀j u,(bys gr)[j]?=some u→(Yp l)[0+93+i*27+j]?=some u:=by rw[←p1];exact mc
  rw[p1] at ge gz;have g2:Step [] T { T with drawn:=T.drawn+1 }:=Step.drew _ _
  have g3:(48:Int)+(i:Int)=((48+i:Nat):Int):=by omega
  refine Zd (⟨#[114]⟩++⟨#[UInt8.ofNat (48+i)]⟩:ByteArray) λnm hB=>?_;refine QW (Step (ob vr) T) [(0,true),(1,true),(2,true),(3,true),(4,true),(5,true),(6,true),(7,true),(8,true),(9,true),(10,true),(11,true),(12,false),(13,true),(14,false),(15,false),(16,true),(17,false)] mixed (by rfl) (by kernel_rfl) (Step.drew _ _) ?_
  refine p (λ_=>Qa O)<|pq (λ_ hc=>Qd (gy.step hc n3v) O O)<|p (λ_=>Qo)<|p (λ_=>X2 O O ⟨by omega,by omega⟩)<|p (λ_=>ZP (k':=.i32) O ⟨by omega,by omega⟩)<|p (λ_=>Vz (n:=48+i) (congrArg (Value.int .i32) g3) (by omega)) <|
   p (λ_=>Z9 (a:=⟨#[114]⟩) (b:=⟨#[UInt8.ofNat (48+i)]⟩) O O (by show 1+1≤1000000000;omega))<|p (λ_=>Qo)<|p (λ_=>Qo)<|p (λ_=>Qa O)<|p (λ_=>ZI (i:=i) O O (by omega))<|pq (λ_ hc=>VA (us:=bys gr) (k9.step hc n1v) O (by rw[YM];exact ge) hgs2)<|?_
  refine pk<|xf<|(UW (ma.ext g2) (λe he=>by have:=gb e (kn e he).1;omega) p0 ge gz).mono ?_;rintro r11 hg ⟨gg,a,⟨xa,xm,hz,rfl,hA⟩,hG,gn⟩;have hC:=g2.trans gg;have pu:=hC.size;have gh:=hA [] (by simp);refine ⟨hC.any,?_⟩
  refine p (λ_=>ZV [(0,[.string nm]),(1,[xa,.int .i64 a.st,xm,hz])] ⟨congrArg (λb=>(Value.string b).cells) hB,O,O,O,U⟩)<|pk<|QC (us:=[Za ⟨nm,⟨xa,xm,hz,a⟩⟩]) O O (by decide) (show 1*5≤1000000 by omega) ⟨O,O,U⟩ λb14 hU V hb14 mf=>⟨(hC.trans V).any,?_⟩;have ho:=hC.trans V;have g4:=hj.ext ho
  refine pk<|Q2 (news:=Za ⟨nm,⟨xa,xm,hz,a⟩⟩) (L:=[]) g4.c O O O (mf.at (by simp)) (yn gh.al.one gh.mr.one gh.ed.one) (by omega) (by have:=ho.size;omega) λmg hE g5 G mh=>⟨(ho.any (L:=ob vr)).trans' G,?_⟩;have mj:=g4.setC (US (q:=⟨nm,⟨xa,xm,hz,a⟩⟩) (N:=T.heap.size) (λL hL=>(hA L hL).ext V) (by omega) hj.avlt) g5 G mh
  refine p (λ_=>Qa O)<|pkl (hl:=by kernel_rfl)<|QE ((gy.ext ho).step G n3v) O O (by simp) (QH g5) λhH H hV=>pe ?_;have hge:=Qk hj.c;have hs715:Step [E] w7 hE:=((Y.trans kb.any).trans ho.any).then G (λb hb=>.inr (hge b hb).1);refine Qy<|QP O O<|Qb<|xe ?_
  refine ⟨(i+1,mg,rq++[⟨nm,⟨xa,xm,hz,a⟩⟩]),by simp only[];omega,Z,hy,hs715.trans' H,hV,mj.low H (λb hb=>by rw[La.1 hb];omega),by simp only[List.length_append,List.length_singleton];omega,λk hk=>?_⟩;simp only[] at hk ⊢;by_cases ha:k<rq.length
  ·rw[Mm ha];exact h5 k ha
  have g6:k=i:=by simp only[List.length_append,List.length_singleton] at hk;omega
  subst g6;rw[MS (by omega)];simp only[kk,Nat.sub_self,List.getElem_cons_zero];exact ⟨⟨hB.symm,hG,λe he=>by rw[gn] at he;exact (gb e (kn e he).1).2⟩,λe he=>by rw[gn] at he;exact (kn e he).2⟩
 rintro ⟨vr,rq⟩ g8 w8 ⟨Y,go,h8,kk,h5⟩;simp only[] at go h8 kk h5;have pn:=Y.size;have ka:=hT.step Y mo;have g147:=Qez (l:=l) h.n 0;have hX6:Zp [E,b4] w6.heap l.vx l.xs.length 4 (l.xs.flatMap YA):=((h.x.up (L':=[E,b4]) (λb hb=>.inr (by simp only[List.mem_cons,List.not_mem_nil,or_false] at hb;omega))).ext pc).ext gu
 have p2:Zp [E] w8.heap l.vx l.xs.length 4 (l.xs.flatMap YA):=((hX6.st h7).up (L':=[E]) (λb hb=>.inl (by simp only[List.mem_singleton] at hb;simp[hb]))).st Y
 refine QU (α:=Value×List XV) [(10,14),(88,151)] (λ_=>[]) (λz w'=>Step [E] w8 w'∧QZ w'.heap E 47 [ve,vc,vr,z.1,Zf]∧Y5 Zs 2 122 (λq=>[(q.v,q.ls.length,2,q.ls.flatMap QO)]) w8.heap.size w' z.1 z.2∧z.2.length≤2∧(z.2.map (·.nm)).Nodup∧∀q∈z.2,(∃k,k<2∧q.nm=⟨#[101]⟩++⟨#[UInt8.ofNat (48+k)]⟩)∧q.ls≠[]∧q.ls.length≤3∧YP (co.map (·.p.a.st)) none q.ls=0) (by rfl) ?_ ?_
 ·refine Qc<|x (Qa O)<|x (Qd ka O g147)<|x (Qs p2 O)<|Qb<|xe<|Qh<|QB (α:=Nat×Value×List XV) [(10,14),(91,151)] (λz=>[(91,.int .i64 z.1)])
   (λz w'=>z.1≤l.xs.length∧z.1≤2∧Step [E] w8 w'∧QZ w'.heap E 47 [ve,vc,vr,z.2.1,Zf]∧Y5 Zs 2 122 (λq=>[(q.v,q.ls.length,2,q.ls.flatMap QO)]) w8.heap.size w' z.2.1 z.2.2∧z.2.2.length≤z.1∧(z.2.2.map (·.nm)).Nodup∧∀q∈z.2.2,(∃k,k<z.1∧q.nm=⟨#[101]⟩++⟨#[UInt8.ofNat (48+k)]⟩)∧q.ls≠[]∧q.ls.length≤3∧YP (co.map (·.p.a.st)) none q.ls=0)
   (λz=>l.xs.length - z.1) (by rfl) (0,Zf,[]) Z
   ⟨Lk _,Lk _,Step.refl _ _,go,Y5.nil,Lr _,List.Pairwise.nil,λq hq=>by cases hq⟩ ?_
  rintro ⟨i,vx,qx⟩ g9 w9 ⟨hi,hi2,I,hW,h4,ko,hX,hI⟩;simp only[] at hi hi2 hW h4 ko hX hI;have p3:(∀q∈qx,(∃k,k<2∧q.nm=⟨#[101]⟩++⟨#[UInt8.ofNat (48+k)]⟩)∧q.ls≠[]∧q.ls.length≤3∧YP (co.map (·.p.a.st)) none q.ls=0):=λq hq=>by
   obtain ⟨⟨k,k1,k2⟩,h2⟩:=hI q hq;exact ⟨⟨k,by omega,k2⟩,h2⟩
  refine Qc<|x (QA O O)<|xe<|Qf<|QG O (λp4=>?_) (λp4=>?_)
  ·refine Qz ?_;exact ⟨(vx,qx),U,I,hW,h4,by simp only[];omega,hX,p3⟩
  have hy:i<l.xs.length:=by have h93:(i:Int)<(l.xs.length:Int):=p4;omega
  have hX9:=p2.st I;refine Qi<|Qf<|Qh<|Qc<|Qb<|xig Us hX9 O O hy λa94 p5=>?_;refine Zd (l.xs[i]'hy) λxr hxr=>?_;rw[hxr] at p5;refine x (QI p5 O (Us xr))<|xl O<|Qt (us:=[.int .u8 0,.int .u8 0,.int .u8 0,.int .u8 0]) O λp6 T hh hb11 hB11=>x Qg<|xl O<|Qp (us:=YA xr) hB11 O O (Us xr) O (j1 xr.1) λhg gg p7=>xe ?_;have h0:Step [] w9 hg:=hh.then1 gg hb11
  refine Qf<|Qc<|Qb<|x (Q5 O O)<|xe<|Q6 O (λp8=>?_) (λp8=>?_)
  ·refine Qz ?_;exact ⟨(vx,qx),U,I.trans h0.any,hW.ext h0,h4.ext h0,by simp only[];omega,hX,p3⟩
  have hi3:i<2:=by have h98:¬(i:Int)=2:=p8;omega
  have g3:(48:Int)+(i:Int)=((48+i:Nat):Int):=by omega
  have pu:=h0.size;have hl11:=p7.lt;refine Zd (⟨#[101]⟩++⟨#[UInt8.ofNat (48+i)]⟩:ByteArray) λnm hB=>?_;refine Qi<|Qc<|Qb<|QP O O<|x (ZP (k':=.i32) O ⟨by omega,by omega⟩)<|x (Vz (n:=48+i) (congrArg (Value.int .i32) g3) (by omega))<|x (Z9 (a:=⟨#[101]⟩) (b:=⟨#[UInt8.ofNat (48+i)]⟩) O O (by show 1+1≤1000000000;omega))<|x (QD Z) <|
   xl rfl<|Qt (us:=[.string .empty,Zf]) O λhJ hU V p9 gt=>xl O<|Qp (us:=[.string nm,Zf]) gt O (show Go.Lg.ev _ _=_ from congrArg (λs=>Value.agg #[.string s,Zf]) hB) O O ⟨O,O,U⟩ λhK hM hB1213=>xe ?_
  have kp:Step [] hg hK:=V.then1 hM p9;have kq:=h0.trans kp;have hz1113:=kp.size;have hz913:=kq.size;have k8:=I.size;have hgeC:=Qk hf.c;have hltC:=QR hf.c;have nc3:E∉ob vc:=QM hf.c (by omega);have qc:∀b∈ob vc,b∉[E]:=λb hb hm=>by rw[La.1 hm] at hb;exact nc3 hb
  have hC13:=Qq (Qj (Qj hf.c Y qc) I qc) kq;have ms:=hW.ext kq;have hB1113:=p7.ext kp;have hl12:=gt.lt;have ql:E∉[hJ]:=by simp only[List.mem_singleton];omega
  have n1112:p6∉[hJ]:=by simp only[List.mem_singleton];omega
  have qo:=QT (L:=[hJ]) hC13 (by omega) (λb hb hm=>by rw[La.1 hm] at hb;have:=hltC hJ hb;omega)
  refine QU (α:=Value×List (Int×Int)) [(13,14),(104,140)] (λ_=>[]) (λz w'=>Step [hJ] hK w'∧QZ w'.heap hJ 122 [.string nm,z.1]∧w'.ownsRow hK.heap.size 124 2 z.1 z.2.length (z.2.flatMap QO)∧z.2.length≤co.length∧z.2.Pairwise (λp q=>p.1<q.1)∧∀p∈z.2,0≤p.1∧p.1<(co.length:Int)∧0≤p.2∧p.2<cget (co.map (·.p.a.st)) p.1.toNat) (by rfl) ?_ ?_
  ·refine Qc<|x (Qa O)<|x (Qd ms O O)<|x (Qs qo O)<|Qb<|xe<|Qh<|QB (α:=Nat×Value×List (Int×Int)) [(13,14),(107,140)] (λz=>[(107,.int .i64 z.1)])
    (λz w'=>z.1≤co.length∧Step [hJ] hK w'∧QZ w'.heap hJ 122 [.string nm,z.2.1]∧w'.ownsRow hK.heap.size 124 2 z.2.1 z.2.2.length (z.2.2.flatMap QO)∧z.2.2.length≤z.1∧z.2.2.Pairwise (λp q=>p.1<q.1)∧∀p∈z.2.2,0≤p.1∧p.1<(z.1:Int)∧0≤p.2∧p.2<cget (co.map (·.p.a.st)) p.1.toNat)
    (λz=>co.length - z.1) (by rfl) (0,Zf,[]) Z
    ⟨Lk _,Step.refl _ _,hB1213,QN _ _ _ _,Lr _,List.Pairwise.nil,λp hp=>by cases hp⟩ ?_
   rintro ⟨k,vl,ls⟩ g14 h6 ⟨hk,J,hN,S,mt,gi,hO⟩;simp only[] at hk hN S mt gi hO;refine Qc<|x (QA O O)<|xe<|Qf<|QG O (λmu=>?_) (λmu=>?_)
   ·refine Qz ?_;have g6:k=co.length:=by have h109:¬(k:Int)<(co.length:Int):=mu;omega
    rw[g6] at hO;exact ⟨(vl,ls),U,J,hN,S,by simp only[];omega,gi,hO⟩
   have ha:k<co.length:=by have h109:(k:Int)<(co.length:Int):=mu;omega
   have hAC14:=qo.st J;have hY:=ms.step J ql;have qr:=hB1113.step J n1112;refine Qi<|Qf<|Qh<|Qc<|Qb<|Qe<|Qc<|x (Qa O)<|x (Qd hY O O)<|Qb<|xig YT hAC14 O O ha λa113 q0=>?_;refine Zd (co[k]'ha) λq hq=>?_;rw[hq] at q0;refine x (Zl O)<|x (Zl O)<|x (Qx ((q0.from 1).fld 1 (.int .i64 q.p.a.st) O) O)<|Qe ?_;have mv:=(hS k ha).g;rw[hq] at mv;have hqp:=mv.p
   have hqs:=mv.s;have mw:=VO (ns:=xr.1) (j:=0+k*1) (by rw[xr.2.1];omega);have qx0l:=Xi xr.2.2 (0+k*1);refine Zd (xr.1.getD (0+k*1) 0) λxk hxk=>?_;rw[hxk] at mw qx0l;have hmod:0≤(xk:Int) % (q.p.a.st+2):=Int.emod_nonneg _ (by omega)
   refine Qc<|Qb<|x (ZI (i:=k) O O (by omega))<|x (Qd qr O mw)<|x (ZP (k':=.i64) O ⟨by omega,by omega⟩)<|Qb<|QP O O<|x (UE (a:=(xk:Int)) (b:=q.p.a.st+2) O O (by omega) (by omega))<|Qb<|x (QA O O)<|xe ?_;have hgeL:=Qk S;have q1:=J.size;have q2:=hM.size;have q3:hJ∉ob vl:=QM S (by omega);have hn11v:p6∉ob vl:=QM S (by omega)
   have hcget:cget (co.map (·.p.a.st)) k=q.p.a.st:=by
    unfold cget;simp[List.getD,List.getElem?_map,List.getElem?_eq_getElem ha,hq]
   refine QG O (λq4=>?_) (λq4=>?_)
   ·refine Qi<|Qy<|QP O O<|Qb<|xe ?_;exact ⟨(k+1,vl,ls),by simp only[];omega,Z,ha,J,hN,S,by simp only[];omega,gi,λp hp=>by have:=hO p hp;simp only[];omega⟩
   have h126:(xk:Int) % (q.p.a.st+2)<q.p.a.st:=q4;have hd14:Step [] h6 { h6 with drawn:=h6.drawn+1 }:=Step.drew _ _
   refine Zd ((xk:Int) % (q.p.a.st+2)) λst hst=>?_;refine QW (Step (ob vl) h6) [(0,true),(1,true),(2,true),(3,true),(4,true),(5,true),(6,true),(7,true),(8,true),(9,true),(10,true),(11,false),(12,false),(13,true),(14,false)] mixed (by rfl) (by kernel_rfl) (Step.drew _ _) ?_
   refine p (λ_=>Qa O)<|pq (λ_ hc=>Qd (hN.step hc q3) O O)<|p (λ_=>Qo)<|p (λ_=>Qo)<|p (λ_=>ZI (i:=k) O O (by omega))<|pq (λ_ hc=>Qd (qr.step hc hn11v) O mw)<|p (λ_=>ZP (k':=.i64) O ⟨by omega,by omega⟩)<|p (λ_=>Qo)<|p (λ_=>X2 O O ⟨by omega,by omega⟩) <|
    p (λ_=>UE (a:=(xk:Int)) (b:=q.p.a.st+2) O O (by omega) (by omega))<|p (λ_=>QD ⟨O,O,U⟩)<|pk<|QC (us:=[QO ((k:Int),(xk:Int) % (q.p.a.st+2))]) O O (by decide) (show 1*2≤1000000 by omega) ⟨O,O,U⟩ λb137 hE G hb137 hB137=>?_
   have gp:=hd14.trans G;have hz1415:=gp.size;refine ⟨gp.any,?_⟩;refine pk<|Q2 (news:=QO ((k:Int),(xk:Int) % (q.p.a.st+2))) (L:=[]) (Qq S gp) O O O (hB137.at (by simp)) (QbH _) (by omega) (by omega) λkr hH gq H za=>⟨(gp.any (L:=ob vl)).trans' H,?_⟩;have hge16:∀b∈ob kr,hK.heap.size≤b:=λb hb=>(Qk gq b hb).1
   refine p (λ_=>Qa O)<|pkl (hl:=by kernel_rfl)<|QE ((hN.ext gp).step H q3) O O (by simp) (QH gq) λmy hv hT=>pe ?_;refine Qy<|QP O O<|Qb<|xe ?_
   refine ⟨(k+1,kr,ls++[((k:Int),(xk:Int) % (q.p.a.st+2))]),by simp only[];omega,Z,ha,((J.trans gp.any).then H (λb hb=>.inr (hgeL b hb).1)).trans' hv,hT,?_,by simp only[List.length_append,List.length_singleton];omega,?_,λp hp=>?_⟩
   ·have h9:=Qj gq hv (λb hb=>by have:=hge16 b hb;simp only[List.mem_singleton];omega);simp only[List.length_append,List.flatMap_append];simpa using h9
   ·simp only[];rw[Mf];exact ⟨gi,MZ _ _,λp hp p' mz=>by rw[La.1 mz];have:=hO p hp;simp only[];omega⟩
   simp only[] at hp ⊢;rcases Lj.1 hp with hp | hp
   ·have:=hO p hp;omega
   rw[La.1 hp];simp only[Int.toNat_natCast];rw[hcget];omega
  rintro ⟨vl,ls⟩ g14 h6 ⟨J,hN,S,mt,gi,hO⟩;simp only[] at hN S mt gi hO;have q1:=J.size;have q2:=hM.size;have hP:Step [] w9 h6:=kq.then1 J (by omega);have hY:=ms.step J ql;have kt:=h4.ext hP;refine Qc<|x (Qa O)<|x (Qd hN O O)<|x (Qs (QT (L:=[]) S (by omega) (by simp)) rfl)<|x (ZO rfl rfl)<|xe<|QG O (λzv=>?_) (λzv=>?_)
  ·refine Qi<|Qy<|QP O O<|Qb<|xe<|⟨(i+1,vx,qx),by simp only[];omega,Z,hy,by simp only[];omega,I.trans hP.any,hY,kt,by simp only[];omega,hX,λq hq=>?_⟩;obtain ⟨⟨k,k1,k2⟩,h2⟩:=hI q hq;exact ⟨⟨k,by simp only[];omega,k2⟩,h2⟩
  have z0:(0:Int)<(ls.length:Int):=zv;have hxx:=QH S;refine Qy<|x (Qa O)<|x (Qd hY O O)<|x (Qr hN O O)<|xl O<|QC (us:=[Zs ⟨nm,vl,ls⟩]) O O (by decide) (show 1*2≤1000000 by omega) ⟨O,O,U⟩ λb148 hE G hb148 hB148=>?_
  refine xl O<|Q2 (news:=Zs ⟨nm,vl,ls⟩) (L:=[]) (Qq kt.own G) O O O (hB148.at (by simp)) (zy hxx) (by omega) (by have:=hP.size;have:=G.size;omega) λkr hH gq H za=>?_;have hs1115:Step [] hg hE:=(kp.then1 J p9).trans G
  have hM16:=(h4.ext h0).app hs1115 (q:=⟨nm,vl,ls⟩) (λt ht=>by rw[La.1 ht];exact ⟨hK.heap.size,124,Qq S G,by show ls.length≤_;omega,hz1113⟩) (by omega) gq H za;have hgeX:=Qk kt.own;have n3x:E∉ob vx:=QM kt.own (by omega);refine x (Qa O)<|xl O<|QE ((hY.ext G).step H n3x) O O (by simp) (QH gq) λmy hv hB317=>xe ?_;refine Qy<|QP O O<|Qb<|xe ?_
  have ku:Step [E] w8 hH:=((I.trans hP.any).trans G.any).then H (λb hb=>.inr (hgeX b hb).1);refine ⟨(i+1,kr,qx++[⟨nm,vl,ls⟩]),by simp only[];omega,Z,hy,by simp only[];omega,ku.trans' hv,hB317,hM16.low hv (λb hb=>by rw[La.1 hb];omega),by simp only[List.length_append,List.length_singleton];omega,?_,λq hq=>?_⟩
  ·simp only[List.map_append,List.map_cons,List.map_nil];rw[MP];refine ⟨hX,by simp,λs hs s' hs' e=>?_⟩;obtain ⟨q,hq,rfl⟩:=Lx.1 hs;obtain ⟨⟨k,k1,k2⟩,_⟩:=hI q hq;have hk0:k=0:=by omega
   have hi1:i=1:=by omega
   rw[La.1 hs',k2,←hB,hk0,hi1] at e;exact absurd e (by decide)
  rcases Lj.1 hq with hq | hq
  ·obtain ⟨⟨k,k1,k2⟩,h2⟩:=hI q hq;exact ⟨⟨k,by simp only[];omega,k2⟩,h2⟩
  rw[La.1 hq];refine ⟨⟨i,Nat.lt_succ_self _,hB.symm⟩,λe=>by rw[show ls=[] from e] at z0;exact absurd z0 (by decide),by show ls.length≤3;omega,Qck ls none (λb hb=>by cases hb) gi (λp hp=>?_)⟩;rw[Lc];exact hO p hp
 rintro ⟨vx,qx⟩ g9 w9 ⟨I,hW,h4,ko,hX,hI⟩;simp only[] at hW h4 ko hX hI;have k8:=I.size;have z2:=ka.step I mo;have g151:=Qez (l:=l) h.n 4;have hbd:=h.bd;have hbdb:=Qbr l.bd (b:=8) (by decide);refine Zd (l.bd.tmod 8) λbd z3=>?_;rw[z3] at hbdb;have hbd8:-7≤bd∧bd≤7:=by omega
 refine Qc<|x (Qa O)<|x (Qd z2 O g151)<|x (ZP (k':=.i64) O ⟨by omega,by omega⟩)<|x (Qep O O (by decide))<|x (QD ⟨O,O,U⟩)<|xl O<|Qt (us:=[.string .empty,Zf,.int .i64 0]) O λhZ T hh m0 m1 =>
  xl rfl<|Qp (us:=[.string ⟨#[107]⟩,Zf,.int .i64 bd]) m1 O (show Go.Lg.ev _ _=_ from congrArg (λn=>Value.agg #[.string ⟨#[107]⟩,Zf,.int .i64 n]) z3) O O ⟨O,O,O,U⟩ λhg gg z4=>xe ?_
 have h0:Step [] w9 hg:=hh.then1 gg m0;have hz911:=h0.size;have hB111:=z2.ext h0;have hB311:=hW.ext h0;have n115:b1∉[hZ]:=by simp only[List.mem_singleton];omega
 have n315:E∉[hZ]:=by simp only[List.mem_singleton];omega
 have hl15:=z4.lt;refine QU (α:=Value×List (Int×Int)) [(16,16),(157,179)] (λ_=>[]) (λz w'=>Step [hZ] hg w'∧QZ w'.heap hZ 127 [.string ⟨#[107]⟩,z.1,.int .i64 bd]∧w'.ownsRow hg.heap.size 129 2 z.1 z.2.length (z.2.flatMap QO)∧z.2.length≤n∧z.2.Pairwise (λp q=>p.1<q.1)∧∀p∈z.2,0≤p.1∧p.1<(n:Int)∧-4<p.2∧p.2<4) (by rfl) ?_ ?_
 ·refine Qc<|Qb<|Qb<|xe<|Qh<|QB (α:=Nat×Value×List (Int×Int)) [(16,16),(158,179)] (λz=>[(158,.int .i64 z.1)])
   (λz w'=>z.1≤n∧Step [hZ] hg w'∧QZ w'.heap hZ 127 [.string ⟨#[107]⟩,z.2.1,.int .i64 bd]∧w'.ownsRow hg.heap.size 129 2 z.2.1 z.2.2.length (z.2.2.flatMap QO)∧z.2.2.length≤z.1∧z.2.2.Pairwise (λp q=>p.1<q.1)∧∀p∈z.2.2,0≤p.1∧p.1<(z.1:Int)∧-4<p.2∧p.2<4)
   (λz=>n - z.1) (by rfl) (0,Zf,[]) Z
   ⟨Lk _,Step.refl _ _,z4,QN _ _ _ _,Lr _,List.Pairwise.nil,λp hp=>by cases hp⟩ ?_
  rintro ⟨i,vt,ts⟩ g12 hU ⟨hi,V,hQ,hw,kc,gj,hR⟩;simp only[] at hi hQ hw kc gj hR;refine Qc<|x (QA O O)<|xe<|Qf<|QG O (λm2=>?_) (λm2=>?_)
  ·refine Qz ?_;have k5:i=n:=by have h160:¬(i:Int)<1+(cn:Int) % 3:=m2;omega
   rw[k5] at kc hR;exact ⟨(vt,ts),U,V,hQ,hw,kc,gj,hR⟩
  have hy:i<n:=by have h160:(i:Int)<1+(cn:Int) % 3:=m2;omega
  have z5:=hB111.step V n115;have qf:=Qkz (l:=l) h.n (i:=i) (by omega);have qfb:=Qky h i (by omega);refine Zd (flk l i) λfk hfk=>?_;rw[hfk] at qf qfb;refine Qi<|Qf<|Qh<|Qc<|Qb<|Qe<|Qc<|Qb<|x (Qa O)<|x (ZI (i:=i) O O (by omega))<|x (Qd z5 O qf)<|x (Q9 O O)<|xe<|QG O (λh165=>?_) (λh165=>?_)
  ·refine Qi<|Qy<|QP O O<|Qb<|xe ?_;exact ⟨(i+1,vt,ts),by simp only[];omega,Z,hy,V,hQ,hw,by simp only[];omega,gj,λp hp=>by have:=hR p hp;simp only[];omega⟩
  have hmd:=Qbr fk (b:=4) (by decide);have hd12:Step [] hU { hU with drawn:=hU.drawn+1 }:=Step.drew _ _
  have hz12:=V.size;have hgeT:=Qk hw;have z9:hZ∉ob vt:=QM hw (by omega);have hn1v:b1∉ob vt:=QM hw (by omega);refine QW (Step (ob vt) hU) [(0,true),(1,true),(2,true),(3,true),(4,true),(5,true),(6,true),(7,true),(8,true),(9,true),(10,false),(11,false),(12,true),(13,false)] mixed (by rfl) (by kernel_rfl) (Step.drew _ _) ?_
  refine p (λ_=>Qa O)<|pq (λ_ hc=>Qd (hQ.step hc z9) O O)<|p (λ_=>Qo)<|p (λ_=>Qo)<|p (λ_=>Qa O)<|p (λ_=>ZI (i:=i) O O (by omega))<|pq (λ_ hc=>Qd (z5.step hc hn1v) O qf)<|p (λ_=>ZP (k':=.i64) O ⟨by omega,by omega⟩) <|
   p (λ_=>Qep O O (by decide))<|p (λ_=>QD ⟨O,O,U⟩)<|pk<|QC (us:=[QO ((i:Int),fk.tmod 4)]) O O (by decide) (show 1*2≤1000000 by omega) ⟨O,O,U⟩ λb176 hK hM hb176 hB176=>?_
  have gs:=hd12.trans hM;have hz1213:=gs.size;refine ⟨gs.any,?_⟩;refine pk<|Q2 (news:=QO ((i:Int),fk.tmod 4)) (L:=[]) (Qq hw gs) O O O (hB176.at (by simp)) (QbH _) (by omega) (by omega) λv14 h6 S J hn14=>⟨(gs.any (L:=ob vt)).trans' J,?_⟩;have hge14:∀b∈ob v14,hg.heap.size≤b:=λb hb=>(Qk S b hb).1
  refine p (λ_=>Qa O)<|pkl (hl:=by kernel_rfl)<|QE ((hQ.ext gs).step J z9) O O (by simp) (QH S) λhE G m1=>pe ?_;refine Qy<|QP O O<|Qb<|xe<|⟨(i+1,v14,ts++[((i:Int),fk.tmod 4)]),by simp only[];omega,Z,hy,((V.trans gs.any).then J (λb hb=>.inr (hgeT b hb).1)).trans' G,m1,?_,by simp only[List.length_append,List.length_singleton];omega,?_,λp hp=>?_⟩
  ·have h9:=Qj S G (λb hb=>by have:=hge14 b hb;simp only[List.mem_singleton];omega);simp only[List.length_append,List.flatMap_append];simpa using h9
  ·simp only[];rw[Mf];exact ⟨gj,MZ _ _,λp hp p' mz=>by rw[La.1 mz];have:=hR p hp;simp only[];omega⟩
  simp only[] at hp ⊢;rcases Lj.1 hp with hp | hp
  ·have:=hR p hp;omega
  rw[La.1 hp];simp only[];omega
 rintro ⟨vt,ts⟩ g12 hU ⟨V,hQ,hw,kc,gj,hR⟩;simp only[] at hQ hw kc gj hR;have hz12:=V.size;have hgT:=Qk hw;refine Qc<|x (Qa O)<|x (Qd hQ O O)<|xl O<|xf<|(QhY hw (by omega)).mono ?_;rintro vu hK ⟨hM,kv⟩;have hup:(nzT ts).Pairwise (λp q=>p.1<q.1):=List.Pairwise.filter _ gj;have hul:=Mb (λp:Int×Int=>!decide (p.2=0)) ts
 have hub:∀p∈nzT ts,0≤p.1∧p.1<(n:Int)∧p.2≠0∧-65536≤p.2∧p.2≤65536:=λp hp=>by
  have h1:=LS.1 hp;have h2:=hR p h1.1;have h3:¬p.2=0:=by simpa using h1.2
  omega
 refine Zd (nzT ts) λus hus=>?_;have hul':us.length≤3:=by rw[←hus];exact LR hul (by omega)
 rw[hus] at kv hup hub;have n15t:hZ∉ob vt:=QM hw (by omega);refine x (Qa O)<|xl O<|QE (hQ.step hM n15t) O O (by simp) (QH kv) λh6 J hB1514=>xe ?_;have hP:Step [] w9 h6:=(((h0.then1 V m0).then hM (λb hb=>.inr (by have:=(hgT b hb).1;omega)))).then1 J m0;have hz914:=hP.size;have q2:=hM.size;have q1:=J.size;have hgU:=Qk kv
 have S:=Qj kv J (λb hb=>by have:=(hgU b hb).1;simp only[List.mem_singleton];omega);have hY:=hW.ext hP;refine QU (α:=Value×List KV) [(184,190)] (λ_=>[]) (λz w'=>Step [E] h6 w'∧QZ w'.heap E 47 [ve,vc,vr,vx,z.1]∧z.2.length≤1∧(∀q∈z.2,q.nm=⟨#[107]⟩∧YL (co.map (·.p.a.st)) q.k=0)∧∀L:LN,(∀b∈L,b<w6.heap.size)→qm L w'.heap z.1 z.2) (by rfl) ?_ ?_
 ·refine Qc<|x (Qa O)<|x (Qd hB1514 O O)<|x (Qs (QT (L:=[]) S (by omega) (by simp)) rfl)<|x (ZO rfl rfl)<|xe<|QG O (λh187=>?_) (λh187=>?_)
  ·refine Qi ?_;exact ⟨(Zf,[]),U,Step.refl _ _,hY,by decide,λq hq=>(by cases hq),λL _=>⟨Zp.nil _ _ 3,λq hq=>(by cases hq),λq hq=>(by cases hq)⟩⟩
  have h188:(0:Int)<(us.length:Int):=h187;have huo:=QH S;refine Qy<|x (Qr hB1514 O O)<|xl O<|QC (us:=[Zx ⟨⟨#[107]⟩,vu,us,bd⟩]) O O (by decide) (show 1*3≤1000000 by omega) ⟨O,O,U⟩ λb189 hE G hb189 hB189=>?_;have hz15:=G.size;refine x (Qa O)<|xl O<|QE (hY.ext G) O O (by simp) rfl λhH H hV=>xe ?_
  refine ⟨(_,[⟨⟨#[107]⟩,vu,us,bd⟩]),U,G.any.trans' H,hV,Lr _,λq hq=>?_,λL hL=>?_⟩
  ·rw[La.1 hq];refine ⟨rfl,?_⟩;have hgr0:grt bd=false:=by unfold grt;rw[decide_eq_false (by omega),decide_eq_false (by omega)];rfl
   have hct:=Qci (sz:=co.map (·.p.a.st)) us none (λb hb=>by cases hb) hup (λp hp=>by rw[Lc,gv];exact hub p hp);show YL _ ⟨_,us,bd⟩=0;unfold YL;rw[if_neg (by simp only[];omega),if_neg (by rw[hct];decide),if_neg (by simp only[];rw[hgr0];decide)]
  have kw:∀b∈E::L,b<hg.heap.size:=λb hb=>by
   rcases Lb.1 hb with rfl | hb
   ·omega
   have:=hL b hb;omega
  have h1:qm (E::L) hE.heap (.slice (some ⟨b189,0,none⟩) 1 1) [⟨⟨#[107]⟩,vu,us,bd⟩]:=by
   refine ⟨hB189.arr (λhb=>by have:=kw _ hb;omega) O (by decide) (Lr _),λq hq=>?_,λq hq=>?_⟩
   ·rw[La.1 hq];exact (QT (L:=E::L) S (by omega) (λb hb ke=>by have:=(hgU b hb).1;have:=kw b ke;omega)).ext G
   rw[La.1 hq];exact YS (by decide)
  exact (h1.st (H.mono (by simp))).up (λb hb=>.inl (Ll _ hb))
 rintro ⟨vk,ks⟩ g16 hH ⟨H,hV,ha,hgk,m3⟩;simp only[] at hV ha hgk m3;have hz16:=H.size;have hge3:=Qk gk;have hlt3:=QR gk;have ku:Step [E] w8 hH:=(I.trans hP.any).trans' H;have hs716:Step [E] w7 hH:=Y.trans' ku;have m4:Step [E,b4] w6 hH:=h7.trans' (hs716.mono (by simp));have m5:∀b∈[E],b<w6.heap.size:=λb hb=>by rw[La.1 hb];omega
 have hE16:=Qj (Qq gk pm) m4 (λb hb hm=>by have:=hlt3 b hb;simp only[List.mem_cons,List.not_mem_nil,or_false] at hm;omega);have hC16:=hf.low hs716 m5;have hR16:=h8.low ku (λb hb=>by have:=m5 b hb;omega);have hX16:=(h4.ext hP).low H (λb hb=>by have:=m5 b hb;omega);have n23:b2∉[E]:=by simp only[List.mem_singleton];omega
 have n234:b2∉[E,b4]:=by simp only[List.mem_cons,List.not_mem_nil,or_false];omega
 have hB216:=(pa.ext gu).step m4 n234;refine Qc<|x (Qr hV O O)<|xl O<|Qp (us:=[ve,vc,vr,vx,vk]) hB216 O O O O ⟨QH hE16,QH hC16.c,QH hR16.c,QH hX16.own,(m3 [] (by simp)).arr.one,U⟩ λmy hv hB217=>xe ?_;have m6:∀b∈[b2],b<w6.heap.size:=λb hb=>by rw[La.1 hb];omega
 have lo2':∀b∈[b2],b<w2.heap.size:=λb hb=>by rw[La.1 hb];omega
 have hE17:=Qj hE16 hv (λb hb hm=>by have:=(hge3 b hb).1;have:=lo2' b hm;omega);have hC17:=hC16.low hv m6;have hR17:=hR16.low hv (λb hb=>by have:=m6 b hb;omega);have m7:=hX16.low hv (λb hb=>by have:=m6 b hb;omega);have hs017:Step [] w my:=((pc.trans gu).then m4 (λb hb=>.inr (by simp only[List.mem_cons,List.not_mem_nil,or_false] at hb;omega))).then1 hv (by omega)
 have hcon:∀q∈co,V7 q.nm:=λq hq=>by
  obtain ⟨k,hk,rfl⟩:=LE hq;rw[(hS k hk).nm];exact VE 99 k
 have hrqn:∀q∈rq,V7 q.nm:=λq hq=>by
  obtain ⟨k,hk,rfl⟩:=LE hq;rw[(h5 k hk).1.nm];exact VE 114 k
 have hxnm:∀q∈qx,V7 q.nm:=λq hq=>by
  obtain ⟨⟨k,_,k2⟩,_⟩:=hI q hq;rw[k2];exact VE 101 k
 have hevn:∀e∈ev,V7 e.nm:=λe he=>QfK _ e (by rw[kh];exact he);have hevl:ev.length=5:=by rw[←kh];exact J6 _ _
 refine Qn ⟨[.agg [ve,vc,vr,vx,vk].toArray],⟨⟨_,O,Qv O (hB217.at (L:=[]) (by simp)).cells⟩,U⟩,hs017,⟨ev,co.map IV.it,rq.map IV.it,qx.map XV.x,ks.map KV.k⟩,⟨⟨ve,vc,vr,vx,vk,ev,co,rq,qx,ks⟩,rfl,rfl,λL hL=>?_⟩,?_⟩
 ·have kw:∀b∈L,b<w2.heap.size:=λb hb=>by have:=hL b hb;omega
  have hLn:b2∉L:=λhm=>by have:=hL b2 hm;omega
  have kf:∀b∈b2::L,b<w6.heap.size:=λb hb=>by
   rcases Lb.1 hb with rfl | hb
   ·omega
   have:=hL b hb;omega
  refine ⟨⟨QT hE17 (by show ev.length≤_;omega) (λb hb ke=>by have:=(hge3 b hb).1;have:=kw b ke;omega),hevn⟩,hC17.itms (by omega) hcon (λb hb=>by have:=kf b (Ll _ hb);omega),hR17.itms (by omega) hrqn (λb hb=>by have:=kf b (Ll _ hb);omega),⟨QT m7.own (by show qx.length≤_;omega) (λb hb ke=>by have:=(Qk m7.own b hb).1;have:=kf b (Ll _ ke);omega),λq hq=>?_,hxnm⟩,?_⟩
  ·exact m7.each q hq _ (La.2 O) L (λb hb=>.inl (by have:=kf b (Ll _ hb);omega))
  exact ((m3 (b2::L) kf).st (hv.mono (by simp))).up (λb hb=>.inl (Ll _ hb))
 rw[←kh];exact QjL kx (by omega) (by omega) hS gm (by omega) h5 ko hX hI ha hgk
structure qK (base:Nat) (w:World) (vc va:Value) (co:List IV) (al:List Ke):Prop where
 c:w.ownsRow base 66 5 vc co.length (co.flatMap Za)
 a:w.ownsRow base 87 5 va al.length (al.flatMap Zk)
 dj:Dj vc va
 each:∀q∈co,∀t∈Qc1 q,ZL base (ob vc++ob va) w.heap t.1 t.2.1 t.2.2.1 t.2.2.2
section
variable {base:Nat} {w w':World} {vc va vc' va':Value} {co:List IV} {al:List Ke}
theorem qK.nil:qK base w (nS) (nS) [] []:=⟨QN _ _ _ _,QN _ _ _ _,Dj.nil _,λq hq=>by cases hq⟩
theorem qK.ext (h:qK base w vc va co al) (hs:Step [] w w'):qK base w' vc va co al:=⟨Qq h.c hs,Qq h.a hs,h.dj,λq hq t E=>(h.each q hq t E).ext hs⟩
theorem qK.low {X:LN}(h:qK base w vc va co al) (hs:Step X w w') (E:∀b∈X,b<base):qK base w' vc va co al :=
 ⟨Qj h.c hs (λb hb hm=>by have:=(Qk h.c b hb).1;have:=E b hm;omega),Qj h.a hs (λb hb hm=>by have:=(Qk h.a b hb).1;have:=E b hm;omega),h.dj,λq hq t G=>(h.each q hq t G).low hs E⟩
theorem qK.avlt (h:qK base w vc va co al):∀b∈ob vc++ob va,b<w.heap.size:=λb hb=>(Lj.1 hb).elim (QR h.c b) (QR h.a b)
theorem qK.setC {q:IV}(h:qK base w vc va co al) (hq:∀t∈Qc1 q,ZL base (ob vc++ob va) w.heap t.1 t.2.1 t.2.2.1 t.2.2.2) (S:w'.ownsRow base 66 5 vc' (co.length+1) (co.flatMap Za++Za q))
  (hs:Step (ob vc) w w') (E:∀b∈ob vc',b∈ob vc∨w.heap.size≤b):qK base w' vc' va (co++[q]) al:=by
 have G:Step (ob vc++ob va) w w':=hs.mono (λb hb=>Lj.2 (.inl hb));have H:∀b∈ob vc'++ob va,b∈ob vc++ob va∨w.heap.size≤b:=λb hb=>by
  rcases Lj.1 hb with hb | hb
  ·exact (E b hb).imp (λh=>Lj.2 (.inl h)) id
  exact .inl (Lj.2 (.inr hb))
 refine ⟨?_,Qj h.a hs (λb hb T=>h.dj b T hb),λb hb I=>?_,λd hd t J=>?_⟩
 ·rw[Lh,Ly];simpa using S
 ·rcases E b hb with h1 | h1
  ·exact h.dj b h1 I
  have:=QR h.a b I;omega
 rcases Lj.1 hd with hd | hd
 ·exact (h.each d hd t J).app G H
 simp only[List.mem_singleton] at hd;subst hd;exact (hq t J).app G H
theorem qK.setA {E:List Ke}(h:qK base w vc va co al) (I:w'.ownsRow base 87 5 va' E.length (E.flatMap Zk)) (hs:Step (ob va) w w') (H:∀b∈ob va',b∈ob va∨w.heap.size≤b):qK base w' vc va' co E:=by
 have J:Step (ob vc++ob va) w w':=hs.mono (λb hb=>Lj.2 (.inr hb));have S:∀b∈ob vc++ob va',b∈ob vc++ob va∨w.heap.size≤b:=λb hb=>by
  rcases Lj.1 hb with hb | hb
  ·exact .inl (Lj.2 (.inl hb))
  exact (H b hb).imp (λh=>Lj.2 (.inr h)) id
 refine ⟨Qj h.c hs (λb hb G=>h.dj b hb G),I,λb hb G=>?_,λd hd t T=>(h.each d hd t T).app J S⟩;rcases H b G with h1 | h1
 ·exact h.dj b hb h1
 have:=QR h.c b hb;omega
theorem qK.itms {L:LN}(h:qK base w vc va co al) (G:co.length≤1099511627776) (hm:∀q∈co,V7 q.nm) (E:∀b∈L,b<base):Y9 L w.heap vc co :=
 ⟨QT h.c G (λb hb H=>by have:=(Qk h.c b hb).1;have:=E b H;omega),λq hq=>⟨h.each q hq (q.p.va,q.p.a.al.length,1,q.p.a.al.map (.int .i64)) (by simp) L (λb hb=>.inl (E b hb)),h.each q hq (q.p.vm,q.p.a.mr.length,1,q.p.a.mr.map (.int .i64)) (by simp) L (λb hb=>.inl (E b hb)),h.each q hq (q.p.ve,q.p.a.ed.length,3,q.p.a.ed.flatMap Qw) (by simp) L (λb hb=>.inl (E b hb))⟩,hm⟩
end
def mzA (s f:Int):QQ:=⟨[s,f],2,[0],[(0,s,1),(1,f,0)]⟩
set_option maxHeartbeats 1000000 in
theorem Qbi (nm:ByteArray) (s f:Int) (w:World):QK prog 244 [.string nm,.int .i64 s,.int .i64 f] w λr w'=>Step [] w w'∧∃xa xm xe,r=.agg #[.string nm,xa,.int .i64 2,xm,xe]∧ZN [xa,xm,xe]∧∀L:LN,(∀b∈L,b<w.heap.size)→Zt L w'.heap xa xm xe (mzA s f):=by
 refine QK.of_W func244 O ntmps244 results244 (by simp) ?_;refine Qc<|xl O<|Qt (us:=[.string .empty,nS,.int .i64 0,nS,nS]) O λb6 w1 T hf V=>xe ?_;have hg:=V.lt
 refine Qc<|Qb<|Qb<|xl O<|QC (us:=[[.int .i64 s],[.int .i64 f]]) O O (by decide) (by simp) ⟨rfl,rfl,rfl,rfl,U⟩ λE w2 Y hs hh=>xl rfl<|QC (us:=[[.int .i64 0]]) rfl rfl (by decide) (by simp) ⟨rfl,rfl,U⟩ λG w3 J ht hi =>
  Qb<|x (QD ⟨O,O,O,U⟩)<|Qb<|x (QD ⟨O,O,O,U⟩)<|xl O<|QC (us:=[Qw (0,s,1),Qw (1,f,0)]) O O (by decide) (by exact (by decide:2*3≤1000000)) ⟨O,O,O,O,U⟩ λH w4 I hu hj=>?_
 have ha:=(Y.trans J).trans I;have hk:=T.trans ha;have hv:=T.size;have hw:=Y.size;have hy:=J.size;have hz:=I.size;have hF:YO w1.heap.size w4.heap (.agg #[.slice (some ⟨E,0,none⟩) 2 2,.int .i64 2,.slice (some ⟨G,0,none⟩) 1 1,.slice (some ⟨H,0,none⟩) 2 2]) (mzA s f) :=
  zx (a:=mzA s f) ((hh.ext J).ext I) (hi.ext I) hj (by omega) (by omega) (by omega) O O O (by decide) (by decide) (by decide)
 refine x (QD ⟨O,O,O,O,U⟩)<|xl O<|Qt (us:=Jy) O λb7 w5 hl hm hn=>xl O<|Qp (us:=[.slice (some ⟨E,0,none⟩) 2 2,.int .i64 2,.slice (some ⟨G,0,none⟩) 1 1,.slice (some ⟨H,0,none⟩) 2 2]) hn O O O O ⟨O,O,O,O,U⟩ λw6 ho hp=>xe ?_;have S:Step [] w4 w6:=hl.then1 ho hm
 refine Qc<|Qb<|x (Qr hp O O)<|x (ZV [(0,[.string nm]),(1,[.slice (some ⟨E,0,none⟩) 2 2,.int .i64 2,.slice (some ⟨G,0,none⟩) 1 1,.slice (some ⟨H,0,none⟩) 2 2])] ⟨O,O,O,O,U⟩) <|
  xl rfl<|Qp (us:=[.string nm,.slice (some ⟨E,0,none⟩) 2 2,.int .i64 2,.slice (some ⟨G,0,none⟩) 1 1,.slice (some ⟨H,0,none⟩) 2 2]) ((V.ext ha).ext S) O O O O ⟨O,O,O,O,O,U⟩ λw7 hc hq=>xe ?_
 obtain ⟨xa,xm,h0,hr,hA⟩:=hF;have he:=congrArg (λv=>match v with | Value.agg cs=>cs.toList | _=>[]) hr
 simp only[List.cons.injEq,and_true] at he;obtain ⟨rfl,_,rfl,rfl⟩:=he;refine Qn ⟨[.agg [.string nm,.slice (some ⟨E,0,none⟩) 2 2,.int .i64 2,.slice (some ⟨G,0,none⟩) 1 1,.slice (some ⟨H,0,none⟩) 2 2].toArray],⟨⟨_,O,Qv O (hq.at (L:=[]) (by simp)).cells⟩,U⟩,(hk.trans S).then1 hc hf,_,_,_,rfl,⟨rfl,rfl,rfl,U⟩,λL hL=>?_⟩;have h1:=(hA (b6::L) (λb hb=>by
  rcases Lb.1 hb with rfl | hb
  ·exact hg
  have:=hL b hb;omega)).ext S
 exact (h1.st (hc.mono (by simp))).up (λb hb=>.inl (Ll _ hb))
def nmZ (p:Array UInt8) (i:Nat):ByteArray:=⟨p⟩++⟨#[UInt8.ofNat (97+i)]⟩
abbrev QeA:Array UInt8:=#[115,116,97,114,116]
abbrev QbF:Array UInt8:=#[102,105,110,105,115,104]
abbrev Xm:Array UInt8:=#[109,97,99,104,105,110,101]
def jk (i:Nat):List Ke:=[⟨nmZ QeA i,true,true,false,0⟩,⟨nmZ QbF i,false,true,false,0⟩]
def mzE (c:Nat):List Ke:=(List.range c).flatMap jk
def QkD (i:Nat):YN:=⟨nmZ Xm i,mzA (2*(i:Int)) (2*(i:Int)+1)⟩
def mzC (c:Nat):Zw:=⟨mzE c,(List.range c).map QkD,[],[],[]⟩
theorem VD (p:Array UInt8) (i:Nat) (h:p.size≤10):V7 (nmZ p i):=by
 show (ByteArray.mk _++ByteArray.mk _).size≤_;rw[ByteArray.size_append];show p.size+1≤_;omega
theorem Qjf (c:Nat):∀e∈mzE c,V7 e.nm:=λe he=>by
 unfold mzE at he;obtain ⟨i,_,hi⟩:=Mi.1 he;simp only[jk,List.mem_cons,List.not_mem_nil,or_false] at hi;rcases hi with rfl | rfl
 ·exact VD _ _ (by decide)
 exact VD _ _ (by decide)
theorem jl (c:Nat):mzE (c+1)=mzE c++jk c:=by unfold mzE;rw[List.range_succ,Ly];simp
theorem QbP:∀c,(mzE c).length=2*c
 | 0=>rfl
 | c+1=>by rw[jl,Lh,QbP c];show 2*c+2=_;omega
theorem QcU (i:Nat):∀u∈(jk i).flatMap Zk,u.oneCell'=true:=λu hu=>by
 obtain ⟨e,_,he⟩:=Mi.1 hu;exact jG e u he
set_option maxHeartbeats 8000000 in
theorem XW (c:Nat) (hX:c≤4) (w:World):QK prog 196 [.int .i64 c] w λr w'=>Step [] w w'∧Qgx w.heap.size w'.heap r (mzC c):=by
 refine QK.of_W func196 O ntmps196 results196 (by simp) ?_;refine Qc<|xl O<|Qt (us:=Ym) O λb2 w1 hv hY hw=>xe ?_;refine Qc<|xl O<|Qt (us:=Ym) O λH I hh hZ hy=>xe ?_;have hE:=hv.trans hh;have ga:=hv.size;have gb:=hh.size;have gc:=hw.lt;have hj:=hy.lt;have hF:=hw.ext hh;refine Qf<|Qc<|Qb<|Qb<|xe ?_
 refine Qh<|QB (α:=Nat×Value×List Ke×Value×List IV) [(4,4),(6,42)] (λz=>[(6,.int .i64 z.1)])
  (λz w'=>z.1≤c∧Step [H] I w'∧QZ w'.heap H 47 [z.2.1,z.2.2.2.1,Zf,Zf,Zf]∧qK I.heap.size w' z.2.2.2.1 z.2.1 z.2.2.2.2 z.2.2.1∧z.2.2.1=mzE z.1∧z.2.2.2.2.map IV.it=(List.range z.1).map QkD∧∀q∈z.2.2.2.2,V7 q.nm)
  (λz=>c - z.1) (by rfl) (0,Zf,[],Zf,[]) Z ⟨Lk _,Step.refl _ _,hy,qK.nil,O,O,λq hq=>by cases hq⟩ ?_
 rintro ⟨i,ve,ev,vc,co⟩ g3 w3 ⟨hi,Y,ha,E,J,T,hk⟩;simp only[] at hi ha E J T hk;have ge:=Y.size;have gg:ev.length=2*i:=by rw[J];exact QbP i
 have gh:co.length=i:=by have:=congrArg List.length T;simpa using this
 refine Qc<|x (QA O O)<|xe<|Qf<|QG O (λh7=>?_) (λh7=>?_)
 ·refine Qz ?_;have hG:i=c:=by have h8:¬(i:Int)<(c:Int):=h7;omega
  rw[hG] at J T;have hH:b2∉[H]:=by simp only[List.mem_singleton];omega
  have hm:=hF.step Y hH;refine Qc<|x (Qr ha O O)<|xl O<|Qp (us:=[ve,vc,Zf,Zf,Zf]) hm O O O O ⟨QH E.a,QH E.c,O,O,O,U⟩ λw4 G hI=>xe ?_;have hJ:∀b∈[b2],b<I.heap.size:=λb hb=>by rw[La.1 hb];omega
  have hn:=E.low G hJ;refine Qn ⟨[.agg [ve,vc,Zf,Zf,Zf].toArray],⟨⟨_,O,Qv O (hI.at (L:=[]) (by simp)).cells⟩,U⟩,(hE.then1 Y (by omega)).then1 G (by omega),⟨ve,vc,Zf,Zf,Zf,ev,co,[],[],[]⟩,rfl,?_,λL hL=>?_⟩
  ·show (⟨ev,co.map IV.it,[],[],[]⟩:Zw)=mzC c;rw[J,T];rfl
  have hz:∀b∈L,b<I.heap.size:=λb hb=>by have:=hL b hb;omega
  exact ⟨⟨QT hn.a (by show ev.length≤_;omega) (λb hb hK=>by have:=(Qk hn.a b hb).1;have:=hz b hK;omega),λe he=>Qjf c e (by rw[←J];exact he)⟩,hn.itms (by omega) hk hz,⟨Zp.nil _ _ 5,λq hq=>(by cases hq),λq hq=>(by cases hq)⟩,⟨Zp.nil _ _ 2,λq hq=>(by cases hq),λq hq=>(by cases hq)⟩,⟨Zp.nil _ _ 3,λq hq=>(by cases hq),λq hq=>(by cases hq)⟩⟩
 have hM:i<c:=by have h8:(i:Int)<(c:Int):=h7;omega
 have hu:(97:Int)+(i:Int)=((97+i:Nat):Int):=by omega
 refine Qi<|Qf<|Qh<|Qc<|Qb<|Qe<|Qc<|x (Qa O)<|x (Qd ha O O)<|Qb<|QP O O<|x (ZP (k':=.i32) O ⟨by omega,by omega⟩)<|x (Vz (n:=97+i) (congrArg (Value.int .i32) hu) (by omega))<|x (Z9 (a:=⟨QeA⟩) (b:=⟨#[UInt8.ofNat (97+i)]⟩) O O (by show 5+1≤1000000000;omega))<|x (QD ⟨O,O,O,U⟩) <|
  Qb<|QP rfl O<|x (ZP (k':=.i32) O ⟨by omega,by omega⟩)<|x (Vz (n:=97+i) (congrArg (Value.int .i32) hu) (by omega))<|x (Z9 (a:=⟨QbF⟩) (b:=⟨#[UInt8.ofNat (97+i)]⟩) O O (by show 6+1≤1000000000;omega))<|x (QD ⟨O,O,U⟩) <|
  xl rfl<|QC (us:=(jk i).map Zk) O O (by decide) (by exact (by decide:2*5≤1000000)) ⟨O,O,O,O,U⟩ λgi w4 G gj hm=>?_
 have gk:=G.size;have hN:H∉ob ve:=QM E.a hj;have h0:H∉ob vc:=QM E.c hj;have hge:=Qk E.a;have hO:=Qk E.c;refine xl rfl<|Q2 (m:=2) (news:=(jk i).flatMap Zk) (L:=[]) (Qq E.a G) O O O (hm.at (by simp)) (QcU i) (by omega) (by omega) λho w5 h1 hp hP=>?_;refine x (Qa O)<|xl O<|QE (j:=0) (u:=ho) ((ha.ext G).step hp hN) O O (by simp) (QH h1) λS h2 h3=>xe ?_
 have hQ:qK I.heap.size w5 vc ho co (ev++jk i):=(E.ext G).setA (by rw[Lh,Ly];exact h1) hp hP;have h4:∀b∈[H],b<I.heap.size:=λb hb=>by rw[La.1 hb];exact hj
 have h5:=hQ.low h2 h4;have h6:Step [H] I S:=((Y.trans G.any).then hp (λb hb=>.inr (hge b hb).1)).trans' h2;have gl:=h6.size;have hR:Step [] S { S with drawn:=S.drawn+1 }:=Step.drew _ _
 refine QW (Step (ob vc) S) [(0,true),(1,true),(2,true),(3,true),(4,true),(5,true),(6,true),(7,true),(8,true),(9,true),(10,true),(11,true),(12,false),(13,false),(14,false),(15,true),(16,false)] mixed (by rfl) (by kernel_rfl) (Step.drew _ _) ?_
 refine p (λ_=>Qa O)<|pq (λ_ hc=>Qd (h3.step hc h0) O O)<|p (λ_=>Qo)<|p (λ_=>X2 O O ⟨by omega,by omega⟩)<|p (λ_=>ZP (k':=.i32) O ⟨by omega,by omega⟩)<|p (λ_=>Vz (n:=97+i) (congrArg (Value.int .i32) hu) (by omega)) <|
  p (λ_=>Z9 (a:=⟨Xm⟩) (b:=⟨#[UInt8.ofNat (97+i)]⟩) O O (by show 7+1≤1000000000;omega))<|p (λ_=>Qo)<|p (λ_=>Qer O O ⟨by omega,by omega⟩)<|p (λ_=>Qo)<|p (λ_=>Qer O O ⟨by omega,by omega⟩)<|p (λ_=>X2 O O ⟨by omega,by omega⟩) <|
  pk<|xf<|(Qbi (nmZ Xm i) (2*(i:Int)) (2*(i:Int)+1) _).mono ?_
 rintro r7 w7 ⟨hS,xa,xm,hf,rfl,hr,hA⟩;have hs:=hR.trans hS;refine ⟨hs.any,?_⟩;refine pk<|QC (us:=[Za ⟨nmZ Xm i,⟨xa,xm,hf,mzA (2*(i:Int)) (2*(i:Int)+1)⟩⟩]) O O (by decide) (show 1*5≤1000000 by omega) ⟨O,O,U⟩ λgm w8 ht gn hT=>⟨(hs.trans ht).any,?_⟩;have V:=hs.trans ht;have h9:=h5.ext V
 refine pk<|Q2 (news:=Za ⟨nmZ Xm i,⟨xa,xm,hf,mzA (2*(i:Int)) (2*(i:Int)+1)⟩⟩) (L:=[]) h9.c O O O (hT.at (by simp)) (yn hr.1 hr.2.1 hr.2.2.1) (by omega) (by have:=V.size;omega) λhB w9 hC hg hU=>⟨(V.any (L:=ob vc)).trans' hg,?_⟩
 have hV:=h9.setC (US (q:=⟨nmZ Xm i,⟨xa,xm,hf,mzA (2*(i:Int)) (2*(i:Int)+1)⟩⟩) (N:=S.heap.size) (λL hL=>(hA L hL).ext ht) (by omega) h5.avlt) hC hg hU;refine p (λ_=>Qa O)<|pkl (hl:=by kernel_rfl)<|QE (j:=1) (u:=hB) ((h3.ext V).step hg h0) O O (by simp) (QH hC) λgo hD hW=>pe ?_;refine Qy<|QP O O<|Qb<|xe ?_
 refine ⟨(i+1,ho,ev++jk i,hB,co++[⟨nmZ Xm i,⟨xa,xm,hf,mzA (2*(i:Int)) (2*(i:Int)+1)⟩⟩]),by simp only[];omega,Z,hM,((h6.trans V.any).then hg (λb hb=>.inr (hO b hb).1)).trans' hD,hW,hV.low hD h4,?_,?_,λq hq=>?_⟩
 ·simp only[];rw[jl,J]
 ·simp only[];rw[Lt,T,List.range_succ,Lt];rfl
 rcases Lj.1 hq with hq | hq
 ·exact hk q hq
 rw[La.1 hq];exact VD _ _ (by decide)
end Go.Proofs.YtdffckgdcegpaaaGreatDoor
namespace Go.Lg
section
variable {P:Program} {f:Fr} {w:World} {d:Option Nat} {ty:Nat} {ps:String} {af:Array Edge} {gd:Option (Nat×Bool)}
abbrev i4 (p:Int×Int×Int×Int):LV:=[.int .i64 p.1,.int .i64 p.2.1,.int .i64 p.2.2.1,.int .i64 p.2.2.2]
class S4 (P:Program) (t:Nat):Prop where
 u:∃f0 f1 f2 f3,P.underlying t=some (.struct #[f0,f1,f2,f3])∧f0.name ≠ "_" ∧ f1.name ≠ "_" ∧ f2.name ≠ "_" ∧ f3.name ≠ "_" ∧ f0.offset=0∧f1.offset=1∧f2.offset=2∧f3.offset=3 ∧
  P.underlying f0.type=some (.int .i64)∧P.underlying f1.type=some (.int .i64)∧P.underlying f2.type=some (.int .i64)∧P.underlying f3.type=some (.int .i64)
 s:P.stoodInHeld t=false
 g:P.eqGuardType P.depth t=false
theorem zK {t:Nat}[h:S4 P t] (w:World) (p:Int×Int×Int×Int):(Op.equal t (.agg (i4 p).toArray) (.agg (i4 p).toArray)).run P w=.ok true w:=by
 obtain ⟨a,b,c,e⟩:=p;obtain ⟨f0,f1,f2,f3,hu,J,n1,S,T,V,o1,o2,o3,H,I,u2,u3⟩:=h.u;have E:∀e w,P.underlying e=some (.int .i64)→(isAgg e).run P w=.ok false w:=λe w he=>by simp[isAgg,run_underlying he]
 have hp:∀e (x y z u:Int) (w:World),P.underlying e=some (.int .i64)→(part e #[.int .i64 x,.int .i64 y,.int .i64 z,.int .i64 u] 0).run P w=.ok (.int .i64 x) w:=λe x y z u w he=>by simp[part,E e w he]
 have Y:∀e (x y z u:Int) (w:World),P.underlying e=some (.int .i64)→(part e #[.int .i64 x,.int .i64 y,.int .i64 z,.int .i64 u] 1).run P w=.ok (.int .i64 y) w:=λe x y z u w he=>by simp[part,E e w he]
 have ha:∀e (x y z u:Int) (w:World),P.underlying e=some (.int .i64)→(part e #[.int .i64 x,.int .i64 y,.int .i64 z,.int .i64 u] 2).run P w=.ok (.int .i64 z) w:=λe x y z u w he=>by simp[part,E e w he]
 have hb:∀e (x y z u:Int) (w:World),P.underlying e=some (.int .i64)→(part e #[.int .i64 x,.int .i64 y,.int .i64 z,.int .i64 u] 3).run P w=.ok (.int .i64 u) w:=λe x y z u w he=>by simp[part,E e w he]
 have G:∀e (m:Nat) (x y:Int) (w:World),P.underlying e=some (.int .i64)→(Op.equalIn (m+1) e (.int .i64 x) (.int .i64 y)).run P w=.ok (x == y) w:=λe m x y w he=>by simp[Op.equalIn,run_underlying he]
 have key:∀m,(Op.equalIn (m+2) t (.agg (i4 (a,b,c,e)).toArray) (.agg (i4 (a,b,c,e)).toArray)).run P w=.ok true w:=by
  intro m;simp only[i4];unfold Op.equalIn;simp only[Sem.run_bind,run_underlying hu,Result.andThen_ok];simp[h.s,J,n1,S,T,V,o1,o2,o3,hp _ _ _ _ _ _ H,Y _ _ _ _ _ _ I,ha _ _ _ _ _ _ u2,hb _ _ _ _ _ _ u3,G _ _ _ _ _ H,G _ _ _ _ _ I,G _ _ _ _ _ u2,G _ _ _ _ _ u3]
 exact key 9998
theorem Qeq {t E:Nat}[h:S4 P t] {x y:Operand}{p:Int×Int×Int×Int}(hx:ev f x=.agg (i4 p).toArray) (hy:ev f y=.agg (i4 p).toArray) :
  (execOp (ev f) ⟨d,.binOp .neq t x y E,ty,ps,af,gd⟩).run P w=.ok (.value (.bool false)) w:=by
 have G:(eqGuard .neq t x y (.agg (i4 p).toArray) (.agg (i4 p).toArray)).run P w=.ok () w:=by simp[eqGuard,h.g]
 simp only[execOp,hx,hy,Sem.run_bind,G,Result.andThen_ok,binOp,zK,Sem.run_pure];rfl
end
end Go.Lg
namespace Go.Proofs.YtdffckgdcegpaaaGreatDoor
open Go.Proofs.Tryz
open Go.Lg
instance s4Rsn:S4 prog 83:=⟨⟨_,_,_,_,underlying83,by decide,by decide,by decide,by decide,O,O,O,O,underlying3,underlying3,underlying3,underlying3⟩,by kernel_rfl,by kernel_rfl⟩
theorem VI {L L':LN}{w:World}{v v':Value}{l:List Rsn}(h:Zp L w.heap v l.length 4 (l.flatMap ZB)) (h':Zp L' w.heap v' l.length 4 (l.flatMap ZB)) :
  QK prog 198 [v,v'] w λr w'=>r=.bool true∧Step [] w w':=by
 have V:=h.le;refine QK.of_W func198 O ntmps198 results198 (by simp) ?_;refine Qc<|Qe<|Qf<|Qc<|Qb<|x (Qs h O)<|Qb<|x (Qs h' O)<|x (Q9 O O)<|xe<|Q6 rfl (λG=>absurd O G) (λG=>?_);refine Qi<|Qf<|Qc<|Qb<|x (Qs h O)<|Qb<|xe ?_
 refine Qh<|QB (α:=Nat) [(4,5),(13,25)] (λk=>[(13,.int .i64 k)]) (λk w'=>Step [] w w'∧k≤l.length) (λk=>l.length - k) (by rfl) 0 Z ⟨Step.refl _ _,Lk _⟩ ?_;rintro k g H ⟨hs,hk⟩
 replace h:=h.ext hs
 replace h':=h'.ext hs;refine Qc<|x (QA O O)<|xe<|Qf<|QG O (λI=>?_) (λI=>?_)
 ·refine Qz<|Qc<|Qe ?_;exact Qn ⟨[.bool true],Z,O,hs⟩
 have E:k<l.length:=by omega
 refine Qi<|Qf<|Qh<|Qc<|Qb<|Qe<|Qf<|QW (Step [] H) [(0,true),(1,true),(2,true),(3,true),(4,true),(5,true),(6,true),(7,true),(8,true)] mixed (by rfl) (by kernel_rfl) (Step.drew _ _) ?_;refine p (λ_=>Qo)<|p (λ_=>Qo)<|Lg.pig (g:=ZB) (i:=k) O Qeg h O O E λY J=>pq (λ_ hc=>QI (J.ext hc) O O) <|
  p (λ_=>Qo)<|p (λ_=>Qo)<|Lg.pig (g:=ZB) (i:=k) O Qeg h' O O E λha S=>pq (λ_ hc=>QI (S.ext hc) O O)<|p (λ_=>Qeq (p:=((l[k]'E).st,(l[k]'E).kd,(l[k]'E).ix,(l[k]'E).ev)) O O)<|pe ?_
 have T:=hs.trans (Step.drew [] H);refine Yl rfl ?_;refine Qi<|Qy<|QP O O<|Qb<|xe ?_;exact ⟨k+1,by omega,Z,T,by omega⟩
def KZ:ByteArray:=⟨#[110,101,118,101,114]⟩
def JI:ByteArray:=⟨#[98,111,116,104]⟩
def z6:ByteArray:=⟨#[109,111,115,116]⟩
def yo:YN:=⟨KZ,⟨[1],1,[0],[]⟩⟩
def QfG (i j:Int):Exc:=⟨JI,[(i,1),(j,1)]⟩
def QjN:Xv:=⟨z6,[(0,1),(1,1)],1⟩
def k1C:Zw:={ mzC 1 with rq:=[yo] }
def k2C:Zw:={ mzC 2 with ex:=[QfG 0 1] }
def k3C:Zw:={ mzC 2 with cs:=[QjN] }
theorem QkL:Yx k1C=0:=by kernel_rfl
theorem QkK:(spc k1C).fb=[⟨1,3,0,1⟩]:=by kernel_rfl
theorem Qiy:(spc k1C).a.st=2:=by kernel_rfl
theorem Qjm:Qch k1C=true:=by kernel_rfl
theorem Qjn:cmB k1C=[2]:=by kernel_rfl
theorem QlB:Yx k2C=0:=by kernel_rfl
theorem QkI:(spc k2C).fb=[⟨3,1,0,-1⟩]:=by kernel_rfl
theorem QkH:(spc k2C).a.st=4:=by kernel_rfl
theorem QlA:Yx k3C=0:=by kernel_rfl
theorem QkG:(spc k3C).fb=[⟨3,2,0,-1⟩]:=by kernel_rfl
theorem Qcy {w:World}{v:Value}(E:v.cells=[v].toArray):QK prog 281 [v] w λr w'=>Step [] w w'∧∃b,r=.func (.func 307) #[] #[.pointer (some ⟨b,0,none⟩)]∧w.heap.size≤b∧QZ w'.heap b 37 [v]:=by
 refine QK.of_W func281 O ntmps281 results281 (by simp) ?_;refine Qc<|xl O<|QS (us:=[v]) E λG S H I J=>Qe<|Qc<|x Zo<|Qe ?_;exact Qn ⟨[_],Z,H,G,O,I,J⟩
theorem yO {L:LN}{w:World}{S m:Nat}{v:Value}{E:LI}(hb:QZ w.heap S 37 [v]) (hE:QL L w.heap v E) :
  SeqStopsK (fen none) m prog 307 [.pointer (some ⟨S,0,none⟩)].toArray (λx:Int=>#[.int .i64 x]) (Lw w.heap.size L) (λG=>G=E) (λ_=>True) (E.length+1) w:=by
 intro l J Jx W hc hJ hf hY h0;have V:Step [] w W:=Step.of_below hc;have hm:=hE.le;have ab:∀{G:LI} {W1 W2:World},J G W1→Step [] W1 W2→J G W2:=λ{G W1 W2} hj T=>hJ G W1 W2 none hj ⟨T.os,T.tape,T.output,T.size,λk hk _=>T.block k hk (by simp)⟩ (λr e=>by cases e)
 have key:QK prog 307 [.func (.yield l) #[] #[],.pointer (some ⟨S,0,none⟩)] W (λ_ W'=>(∃G,G=E∧J G W')∨(∃pre,True∧Jx pre W')):=by
  refine QK.of_G m func307 O ntmps307 results307 (by simp) ?_;have hg:=hb.ext V;refine QX<|QJ (by rfl) (by rfl) ?_;refine x (Qd hg O O)<|x (Qs (hE.ext V) O)<|Qb<|xe<|ZH<|VT (α:=Nat) [(4,4),(7,15)] (λk=>[(7,.int .i64 k)]) (λk ds W'=>ds=[]∧k≤E.length∧Step L w W'∧J (E.take k) W') (λk=>E.length - k) (by rfl) 0 Z
   ⟨O,Lk _,V.any,h0⟩ ?_
  rintro k g ds w1 ⟨rfl,hk,ha,Y⟩;refine QX<|QJ (by rfl) (by rfl) ?_;refine x (QA O O)<|xe<|QX<|zw O (λh8=>?_) (λh8=>?_)
  ·refine J0 ?_;have hh:E.length≤k:=by have h9:¬(k:Int)<(E.length:Int):=h8;omega
   rw[Lm hh] at Y;exact ⟨λ_ h=>(by cases h),My,[],λW' H=>⟨U,.inl ⟨E,rfl,ab Y H⟩⟩⟩
  refine Ye ?_;have I:k<E.length:=by have h9:(k:Int)<(E.length:Int):=h8;omega
  have hi:E.take (k+1)=E.take k++[E[k]'I]:=Le I;have hn:(E.take k).length=k:=by rw[Lv];omega
  refine QX<|ZH<|QX<|QJ (by rfl) (by rfl) ?_;refine xii (i:=k) (hE.st ha) O O I λa9 h9=>x (Qx h9 O)<|Qe<|QX<|Ka (by rfl) ?_;refine Xz.pre2 ?_;refine Qb<|Qb<|xe<|xy (l:=l) O (hY (E.take k) (E[k]'I) w1 Y (by omega)) λen W3 hl=>Or.elim hl (λh1=>⟨.bool true,h1.1,?_⟩) (λh1=>⟨.bool false,h1.1,?_⟩)
  ·refine Xz.of_XL<|x (Zr O)<|xe<|Kc O<|Ye ?_;refine QJ (by rfl) (by rfl) ?_;refine QP O O<|Qb<|xe ?_;exact ⟨k+1,by omega,Z,O,I,ha.lw h1.2.2,by rw[hi];exact h1.2.1⟩
  refine Xz.of_XL<|x (Zr O)<|xe<|yF O ?_;refine JZ ⟨λ_ h=>(by cases h),My,[],λW' H=>⟨U,.inr ⟨E.take k++[E[k]'I],U,?_⟩⟩⟩;exact hf _ W3 W' none h1.2 ⟨H.os,H.tape,H.output,H.size,λk hk _=>H.block k hk (by simp)⟩ (λr e=>by cases e)
 refine (callsIn_wide (n:=m)).2 ?_;have ea:(#[.func (.yield l) #[] #[]]++[.pointer (some ⟨S,0,none⟩)].toArray:Array Value)=[.func (.yield l) #[] #[],.pointer (some ⟨S,0,none⟩)].toArray:=by simp
 rw[ea];unfold QK at key;refine Calls.mono key λe w' he=>?_;cases e with
 | returned v=>exact ⟨⟨v,O⟩,he⟩
 | panicked c=>exact he.elim
 | outgrown=>exact he.elim
set_option maxHeartbeats 1000000 in
theorem Qdp {w:World}{V:Nat}{v:Value}{Y:LI}(hj:QZ w.heap V 37 [v]) (hE:QL [] w.heap v Y) (hl:Y.length≤1000) :
  QK prog 319 [Zf,.func (.func 307) #[] #[.pointer (some ⟨V,0,none⟩)]] w λr w'=>Step [] w w'∧Qu 3 w.heap.size w' r Y:=by
 refine QK.of_G 20 func319 O ntmps319 results319 (by simp) ?_;refine QX<|QJ (by rfl) (by rfl) ?_;refine xl rfl<|QS (us:=[Zf]) O λJ w1 T he hf=>Qe ?_;have hq:=T.size;have hr:=hf.lt;refine QX<|QX<|QJ (by rfl) (by rfl) ?_;refine Qb<|xe<|ZH<|Qim (α:=Int) [J] (by omega) (capt:=[.pointer (some ⟨V,0,none⟩)]) O (enc:=λx=>.int .i64 x) (by decide)
  (yO (hj.ext T) ((hE.up (L':=[J]) (λb hb=>.inr (by rw[La.1 hb];exact he))).ext T))
  (λpre W=>∃vo,Step [J] w1 W∧QZ W.heap J 37 [vo]∧Qu 3 w1.heap.size W vo pre)
  (λpre=>ZY.ex λvo=>(ZY.step (Lr _)).and (ZY.blk.and ZY.row))
  ⟨Zf,Step.refl _ _,hf,QN _ _ _ _⟩
  (λf x f' W=>f'=upd (upd f 7 (.int .i64 x)) 5 (.int .i64 x)) (λx f'=>ZY.pure _) ?_ ?_ ?_
 ·rintro l pre e W ⟨vo,I,H,E⟩;refine QJ (by rfl) (by rfl) ?_;refine Qe ?_;exact ⟨O,Jr.refl _ _ _,⟨vo,I,H,E⟩,O⟩
 ·rintro l pre e f' W ⟨vo,I,H,E⟩ rfl hN;have hg:J∉ob vo:=QM E (by omega);have hge:=Qk E;have hk:=I.size;refine ZH<|QJ (by rfl) (by rfl) ?_;refine x (Qd H O O)<|Qb<|xl O<|QC (us:=[[.int .i64 e]]) O O (by decide) (by simp) ⟨rfl,rfl,U⟩ λhs w2 G ht hn=>?_
  refine xl O<|Q2 (m:=1) (news:=[.int .i64 e]) (Qq E G) O O O (hn.at (L:=[]) (by simp)) (by simp[Value.oneCell']) (by omega) (by have:=G.size;omega) λv3 w3 ha S hu=>?_;refine xl O<|QE (u:=v3) ((H.ext G).step S hg) O O (by simp) (QH ha) λw4 hc ho=>xe ?_;have hv:=G.size;have hw:=Q0 (Qq E G);have hy:=QR E
  refine ⟨((Jr.ext G hk).trans (Jr.step S (by omega) (λb hb=>⟨.inr (hge b hb).1,Go.Lg.Q0 (Qq E G) b hb⟩))).trans (Jr.blk hc (by have:=S.size;omega) ((H.ext G).step S hg) (.inl Ln)),v3,((I.trans G.any).then S (λb hb=>.inr (hge b hb).1)).trans' hc,ho,?_⟩;have h9:=Qj ha hc (λb hb=>by have:=(Qk ha b hb).1;simp only[List.mem_singleton];omega)
  exact Qu.snoc h9
 rintro D xs W hD rfl ⟨vo,I,H,E⟩ hh;refine QX<|QJ (by rfl) (by rfl) ?_;refine x (Qd H O O)<|Qe<|JZ ⟨λD' hp=>by rw[La.1 hp];exact hh,MZ _ _,[vo],λW' hi=>⟨Z,(T.then1 I he).then hi (λb hb=>.inr (by rw[La.1 hb];omega)),?_⟩⟩;refine Zq (Qj E hi (λb hb hm=>?_)) (by omega);rw[La.1 hm] at hb
 obtain ⟨o,h1,h2⟩:=Go.Lg.Q0 E _ hb;rw[hh] at h1;cases h1
 cases h2
theorem Qa2 {w:World}{G:Nat}{v:Value}{E:LI}(H:QZ w.heap G 37 [v]) (hE:QL [] w.heap v E) (hl:E.length≤1000) :
  QK prog 306 [.func (.func 307) #[] #[.pointer (some ⟨G,0,none⟩)]] w λr w'=>Step [] w w'∧Qu 3 w.heap.size w' r E:=by
 refine QK.of_W func306 O ntmps306 results306 (by simp) ?_;refine Qc<|Qe<|Qc<|Qb<|xl O<|xf<|(Qdp H hE hl).mono ?_;rintro I T ⟨J,S⟩;refine Qe ?_;exact Qn ⟨[I],Z,J,S⟩
theorem QcD {w:World}{G:Nat}{v:Value}{E:LI}(I:QZ w.heap G 37 [v]) (hE:QL [] w.heap v E) (hl:E.length≤1000) :
  QK prog 280 [.func (.func 307) #[] #[.pointer (some ⟨G,0,none⟩)]] w λr w'=>Step [] w w'∧Qu 3 w.heap.size w' r (E.mergeSort λx y=>decide (x≤y)):=by
 refine QK.of_W func280 O ntmps280 results280 (by simp) ?_;refine Qc<|Qe<|Qc<|Qb<|xl O<|xf<|(Qa2 I hE hl).mono ?_;rintro J Y ⟨S,H⟩;refine Qe<|Qc<|Qb<|xl O<|xf<|(qT H (by omega)).mono ?_;rintro r2 w2 ⟨T,V⟩;refine xe<|Qc<|Qb<|Qe ?_;exact Qn ⟨[J],Z,S.then T (λb hb=>.inr (Qk H b hb).1),V⟩
theorem Qfm:∀{l:LI}{k:Nat}(h:k<l.length) {n:Int},l[k]'h=n→n∉l.take k→l.idxOf n=k
 | [],_,h,_,_,_=>by simp at h
 | a::l,0,_,n,e,_=>by
  have e2:a=n:=e;rw[e2,List.idxOf_cons_self]
 | a::l,k+1,h,n,e,E=>by
  have G:a≠n:=λe2=>E (by rw[Mo,e2];exact Ln);rw[List.idxOf_cons,show (a == n)=false by simpa using G];show List.idxOf n l+1=k+1;have:=Qfm (l:=l) (k:=k) (by simpa using h) (by simpa using e) (λhm=>E (by rw[List.take_succ_cons];exact Ll _ hm));omega
theorem Qjy {L:LN}{w:World}{v:Value}{l:LI}(h:QL L w.heap v l) {n:Int}(H:n∈l) :
  QK prog 132 [v,.int .i64 n] w λr w'=>w'=w∧r=.int .i64 (l.idxOf n:Nat):=by
 have J:=h.le;refine QK.of_W func132 O ntmps132 results132 (by simp) ?_;refine Qc<|Qe<|Qf<|Qc<|Qb<|x (Qs h O)<|Qb<|xe<|Qh<|QB (α:=Nat) [(4,5),(8,18)] (λk=>[(8,.int .i64 k)]) (λk w'=>w'=w∧k≤l.length∧n∉l.take k) (λk=>l.length - k) (by rfl) 0 Z ⟨O,Lk _,by simp⟩ ?_;rintro k g S ⟨rfl,hk,hm⟩;refine Qc<|x (QA O O)<|xe<|Qf<|QG O (λh9=>?_) (λh9=>?_)
 ·exfalso;rw[Lm (by omega)] at hm;exact hm H
 have E:k<l.length:=by omega
 refine Qi<|Qf<|Qh<|Qc<|Qb<|Qe<|Qc<|Qb<|Qb<|Qb<|xii h O O E λT I=>x (Qx I O)<|x (Q5 O O)<|xe<|Q6 rfl (λG=>?_) (λG=>?_)
 ·refine Qc<|Qb<|Qe ?_;exact Qn ⟨[.int .i64 k],Z,O,congrArg (λm:Nat=>Value.int .i64 m) (Qfm E (Eq.symm G) hm).symm⟩
 refine Qi<|Qy<|QP O O<|Qb<|xe<|⟨k+1,by omega,Z,O,by omega,?_⟩;rw[Le E,Lj,La];exact λh=>h.elim hm G
def rlE (a:QQ) (to:LI):List Ed:=a.ed.map λe=>(e.1,cget to (a.al.idxOf e.2.1),e.2.2)
set_option maxHeartbeats 8000000 in
theorem Qbf {w:World}{va vm ve vt:Value}{a:QQ}{to sa:LI}{se:List Ed}(h:Zt [] w.heap va vm ve a) (g0:Jn a=0) (ho:Q8 a) (ht:QL [] w.heap vt to) (hA:to.length=a.al.length) (hK:∀e∈to,0≤e∧e<32) (g2:to.Nodup)
  (hM:to.mergeSort (λx y=>decide (x≤y))=sa) (g3:∀l',l'.Perm (rlE a to)→l'.Pairwise jK→l'=se) (g4:Q8 ⟨sa,a.st,a.mr,se⟩) :
  QK prog 250 [.agg #[va,.int .i64 a.st,vm,ve],vt] w λr w'=>Step [] w w'∧∃v,r=.tuple #[v,.int .i64 0]∧YO w.heap.size w'.heap v (ZD ⟨sa,a.st,a.mr,se⟩):=by
 have mh:=ho.st0;have mj:=ho.st1;have mo:=ho.al_le;refine QK.of_W func250 O ntmps250 results250 (by simp) ?_;refine Qc<|xl O<|QS (us:=[va,.int .i64 a.st,vm,ve]) O λb2 w1 hN mq g5=>xl O<|Qt (us:=Jy) O λb4 w2 hC ms hO=>Qe ?_;have hP:=hN.trans hC;have mt:=hN.size;have mu:=hC.size;have mv:=hO.lt;have hQ:=g5.ext hC
 refine Qf<|Qc<|x (Qr hQ O O)<|xl O<|xf<|(Xt (h.ext hP)).mono ?_;rintro r3 w3 ⟨hR,hu⟩;rw[g0] at hR;subst hR;have hD:=hP.trans hu;have mw:=hu.size;have hf:=hQ.ext hu;have hS:=hO.ext hu;refine Qe<|Qc<|Qb<|x (Q9 O O)<|xe<|Yl rfl ?_;refine Qi ?_;have hw:=h.ext hD;have V:=ht.ext hD
 refine Qf<|Qc<|Qb<|x (Qs V O)<|x (Qa O)<|x (Qd hf O O)<|x (Qs hw.al O)<|x (Q9 O O)<|xe<|Q6 rfl (λhT=>absurd (congrArg (λm:Nat=>(m:Int)) hA) hT) (λhT=>?_);refine Qi<|QU (α:=Unit) [(5,5),(7,8),(25,47)] (λ_=>[]) (λ_ w'=>w'=w3) (by rfl) ?_ ?_
 ·refine Qc<|Qb<|x (Qs V O)<|Qb<|xe<|Qh<|QB (α:=Nat) [(5,5),(7,8),(27,47)] (λk=>[(27,.int .i64 k)]) (λk w'=>w'=w3∧k≤to.length) (λk=>to.length - k) (by rfl) 0 Z ⟨O,Lk _⟩ ?_;rintro k g w' ⟨rfl,hk⟩;refine Qc<|x (QA O O)<|xe<|Qf<|QG O (λhU=>?_) (λhU=>?_)
  ·refine Qz ?_;exact ⟨(),U,O⟩
  have H:k<to.length:=by have my:(k:Int)<(to.length:Int):=hU;omega
  have g6:=hK _ (Li H);have hV:(to[k]'H)∉to.take k:=λhm=>by
   obtain ⟨j,hj,hW⟩:=LE hm;rw[M0] at hW;have g7:j<k:=by rw[Lv] at hj;omega
   have:=(Mw.1 g2) j k (by omega) H g7;exact this hW
  refine Zd (to[k]'H) λe he=>?_;rw[he] at g6 hV;refine Qi<|Qf<|Qh<|Qc<|Qb<|xii V O O H λmz hX=>?_;rw[he] at hX;refine x (Qx hX O)<|x Qg<|Qe<|Qh<|Qc<|Qb<|xb (QA O O) (λhY=>absurd (show e<0 from hY) (by omega)) (λhY=>?_);refine Qb<|Qb<|x (ZU O O)<|x (Qm O)<|Qe<|Q6 O (λhZ=>absurd (show e≥32 from hZ) (by omega)) (λhZ=>?_);refine Qc<|Qb<|Qb<|QgK V O O (by omega) λg8 g9=>?_
  have ka:QL [] w'.heap g8 (to.take k):=by
   unfold QL;have kb:(to.take k).length=k:=by rw[Lv];omega
   rw[kb,List.map_take];simpa using g9
  refine Qb<|xl O<|xf<|(ZM ka e).mono ?_;rintro m0 w' ⟨rfl,rfl⟩;refine Qe<|Q6 O (λga=>absurd ga hV) (λga=>?_);refine Qi<|Qy<|QP O O<|Qb<|xe ?_;exact ⟨k+1,by omega,Z,O,H⟩
 rintro ⟨⟩ g w' rfl;have kc:Step [] w' { w' with drawn:=w'.drawn+1 }:=Step.drew _ _
 refine QU (α:=Nat×Value) [(9,9),(48,55)] (λz=>[(9,.pointer (some ⟨z.1,0,none⟩))]) (λz G=>Step [] w' G∧w'.heap.size≤z.1∧QZ G.heap z.1 58 [z.2,.int .i64 a.st,vm,nS]∧z.2.oneCell'=true∧∀L:LN,(∀b∈L,b<w'.heap.size∨b=z.1)→QL L G.heap z.2 sa) (by rfl) ?_ ?_
 ·refine zr (α:=Value) (Step [] w') [(0,true),(3,true),(4,true),(5,true),(6,true)] [(1,false),(2,false),(7,true)] 8 9 [(9,false)] [] [(48,55)] [(49,50),(55,55)] (λz=>[(55,.agg [z,.int .i64 a.st,vm,nS].toArray)])
   (λz own G=>(∀b∈own,w'.heap.size≤b)∧z.oneCell'=true∧∀L:LN,(∀b∈L,b∉own)→QL L G.heap z sa)
   (λv G=>∃b,v=.pointer (some ⟨b,0,none⟩)∧w'.heap.size≤b∧QZ G.heap b 58 Jy) mixed (by rfl) (by kernel_rfl) (by rfl) O kc (by simp) ?_ ?_ ?_ ?_
  ·rintro v own wa wb ⟨b,rfl,hb,hB⟩ hs hn;exact ⟨b,O,hb,hB.step hs (hn b (by simp[ow]))⟩
  ·rintro z own wa wb ⟨h1,h2,h3⟩ hs;exact ⟨h1,h2,λL hL=>(h3 L hL).ext hs⟩
  ·rintro z g own wz v ⟨i1,i2,i3⟩ ke ⟨E,rfl,Y,hg⟩ kf;have gb:=(kf E (by simp[ow])).1;refine pkl (hl:=by kernel_rfl)<|Qp (us:=[z,.int .i64 a.st,vm,nS]) hg O O O O ⟨i2,O,hw.mr.one,O,U⟩ λG T kg=>pe ?_;refine ⟨(E,z),Z,ke.then1 T Y,Y,kg,i2,λL hL=>?_⟩;have h1:=i3 (E::L) (λb hb=>by
    rcases Lb.1 hb with rfl | hb
    ·exact gb
    rcases hL b hb with h2 | h2
    ·exact λh3=>by have:=i1 b h3;omega
    subst h2;exact gb)
   exact (h1.st (T.mono (by simp))).up (λb hb=>.inl (by simp[hb]))
  refine Go.Lg.p (λ_=>Qo)<|Go.Lg.p (λ_=>Qa O)<|pq (λ_ hc=>Qd (hf.ext hc) O O)<|Go.Lg.p (λ_=>Qa O)<|pq (λ_ hc=>Qd (hf.ext hc) O O) <|
   pe ⟨λg wf gc=>Qt (us:=Jy) O λb m1 ge gg gh=>⟨ge,gc.trans ge,⟨b,O,LR gc.size gg,gh⟩,λx hx=>?_⟩,?_⟩
  ·have kh:x=b:=by
    have ki:x∈[b]:=hx;simpa using ki
   subst kh;exact ⟨gg,gh.lt⟩
  refine f2k λx1 p1 c1=>xf<|(Qcy V.cells).mono ?_;rintro m2 y1 ⟨gi,m3,rfl,m4,hE⟩;refine ⟨c1.trans gi,rgB x1.heap.size y1.heap.size,gi.any,λb hb=>.inr (Yr.1 hb),?_⟩;refine f2k λx2 p2 c2=>xf<|(QcD (hE.ext p2) (V.ext c2) (by omega)).mono ?_;rintro kj y2 ⟨gj,hh⟩;rw[hM] at hh
  refine ⟨c2.trans gj,rgB x1.heap.size y1.heap.size++rgB x2.heap.size y2.heap.size,gj.any,λb hb=>(Lj.1 hb).imp id λhb=>Yr.1 hb,?_⟩;refine f2p (λ_=>QD ⟨Q0 hh,O,hw.mr.cells,U⟩)<|f2e ?_;refine ⟨kj,Z,λb hb=>?_,QH hh,λL hL=>?_⟩
  ·have e1:=c1.size;have e2:=c2.size;rcases Lj.1 hb with hb | hb
   ·have:=Yr.1 hb;omega
   have:=Yr.1 hb;omega
  exact QT hh (by rw[←hM,(Nf to _).length_eq];omega) (λb hb hm=>hL b hm (Lj.2 (.inr (Yr.2 (Qk hh b hb)))))
 rintro ⟨E,vs⟩ g G ⟨T,Y,hg,hvo,gk⟩;simp only[] at Y hg hvo gk;have m5:=T.size;have gl:=hg.lt;have gm:=hf.ext T;have m6:=hS.ext T;have gn:∀b∈[E],b∈([]:LN)∨w'.heap.size≤b:=λb hb=>.inr (by rw[La.1 hb];exact Y);have hi:Zt [E] G.heap va vm ve a:=(hw.up gn).ext T;have kk:QL [E] G.heap vt to:=(V.up gn).ext T
 have kn:=gk [E] (λb hb=>.inr (La.1 hb));have m7:=hi.ed.le;have ko:b2∉[E]:=by have:=hf.lt;simp only[List.mem_singleton];omega
 have m8:b4∉[E]:=by simp only[List.mem_singleton];omega
 have kp:(rlE a to).length=a.ed.length:=by unfold rlE;rw[Lc]
 have kq:∀e∈rlE a to,(0≤e.1∧e.1<1099511627776)∧0≤e.2.1∧e.2.1<1099511627776:=λe he=>by
  unfold rlE at he;obtain ⟨d,hd,rfl⟩:=Lx.1 he;have h1:=ho.ed d hd;have h2:a.al.idxOf d.2.1<to.length:=by rw[hA];exact Me h1.2.2.1
  have h3:=hK _ (Li h2);have h4:=Zi h2;simp only[];omega
 refine QU (α:=Value) [(11,11),(56,78)] (λ_=>[]) (λz I=>Step [E] G I∧QZ I.heap E 58 [vs,.int .i64 a.st,vm,z]∧I.ownsRow G.heap.size 144 3 z (rlE a to).length ((rlE a to).flatMap Qw)) (by rfl) ?_ ?_
 ·refine Qc<|x (Qa O)<|x (Qd gm O O)<|x (Qs hi.ed O)<|Qb<|xe<|Qh<|QB (α:=Nat×Value) [(11,11),(59,78)] (λz=>[(59,.int .i64 z.1)]) (λz I=>z.1≤a.ed.length∧Step [E] G I∧QZ I.heap E 58 [vs,.int .i64 a.st,vm,z.2]∧I.ownsRow G.heap.size 144 3 z.2 z.1 (((rlE a to).take z.1).flatMap Qw)) (λz=>a.ed.length - z.1) (by rfl) (0,Zf) Z ⟨Lk _,Step.refl _ _,hg,QN _ _ _ _⟩ ?_
  rintro ⟨k,vr⟩ g I ⟨hk,J,ha,S⟩;simp only[] at hk ha S;refine Qc<|x (QA O O)<|xe<|Qf<|QG O (λhG=>?_) (λhG=>?_)
  ·refine Qz ?_;have kr:k=a.ed.length:=by have hz:¬(k:Int)<(a.ed.length:Int):=hG;omega
   rw[Lm (by omega),kr,←kp] at S;exact ⟨vr,U,J,ha,S⟩
  have H:k<a.ed.length:=by have hz:(k:Int)<(a.ed.length:Int):=hG;omega
  have hH:=ho.ed _ (Li H);have kt:(rlE a to)[k]'(by omega)=((a.ed[k]'H).1,cget to (a.al.idxOf (a.ed[k]'H).2.1),(a.ed[k]'H).2.2):=by unfold rlE;rw[MG]
  have hq:(rlE a to).take (k+1)=(rlE a to).take k++[(rlE a to)[k]'(by omega)]:=Le (by omega);rw[kt] at hq;refine Zd (a.ed[k]'H) λe he=>?_;rw[he] at hH hq;have hix:a.al.idxOf e.2.1<to.length:=by rw[hA];exact Me hH.2.2.1
  rw[←Zi hix] at hq;refine Zd (to[a.al.idxOf e.2.1]'hix) λy hy=>?_;rw[hy] at hq;refine Qi<|Qf<|Qh<|Qc<|xie (i:=k) (hi.ed.st J) O O H λm9 hz=>?_;rw[he] at hz;refine x (QI hz O O)<|xl O<|Qt (us:=[.int .i64 0,.int .i64 0,.int .i64 0]) O λku w7 hr go kv=>xl O<|Qp (us:=Qw e) kv O O O O ⟨O,O,O,U⟩ λw8 h0 gp=>xe ?_;have h5:Step [] I w8:=hr.then1 h0 go;have kw:=J.size
  refine Qc<|Qb<|x (Qa O)<|x (Qd ((gm.step J ko).ext h5) O O)<|x (Qa O)<|x (Qd gp O O)<|xl O<|xf<|(Qjy ((hi.al.st J).ext h5) hH.2.2.1).mono ?_;rintro pa w8 ⟨rfl,rfl⟩;refine xii ((kk.st J).ext h5) O O hix λpc gq=>?_;rw[hy] at gq;refine x (Qx gq O)<|x (Qa O)<|xl O<|QE (u:=.int .i64 y) gp O O (by simp[Qw]) rfl λw9 h6 kx=>xe ?_
  have ky:QZ w9.heap ku 144 (Qw (e.1,y,e.2.2)):=kx;have h7:Step [] I w9:=h5.then1 h6 go;have gr:=ha.ext h7;have kz:=Qq S h7;have n9v:E∉ob vr:=QM S gl;have hge:=Qk S;have pd:=h7.size;refine Qy<|x (Qa O)<|x (Qd gr O O)<|x (Qr ky O O)<|xl O<|QC (us:=[Qw (e.1,y,e.2.2)]) O O (by decide) (by exact (by decide:1*3≤1000000)) ⟨O,O,U⟩ λpf pg h8 ph k0=>?_
  refine xl O<|Q2 (m:=1) (news:=Qw (e.1,y,e.2.2)) (L:=[]) (Qq kz h8) O O O (k0.at (by simp)) (by simp[Qw,Value.oneCell']) (by omega) (by have:=h8.size;omega) λgs pj hI gt pm=>?_;refine x (Qa O)<|xl O<|QE (u:=gs) ((gr.ext h8).step gt n9v) O O (by simp) (QH hI) λpn gu k4=>xe ?_;refine Qy<|QP O O<|Qb<|xe ?_
  refine ⟨(k+1,gs),by simp only[];omega,Z,H,(((J.trans h7.any).trans h8.any).then gt (λb hb=>.inr (hge b hb).1)).trans' gu,k4,?_⟩;simp only[];rw[hq,Ly];have h9:=Qj hI gu (λb hb=>by have:=(Qk hI b hb).1;simp only[List.mem_singleton];omega);simpa using h9
 rintro vr g I ⟨J,ha,S⟩;have n9r:E∉ob vr:=QM S gl;have kw:=J.size;have gv:=Qk S;refine Qc<|x (Qa O)<|x (Qd ha O O)<|xl O<|xf<|(zG S (by omega) kq).mono ?_;rintro r7 w7 ⟨hr,l',hp,k5,k6⟩;have k7:=g3 l' hp k5;subst k7;refine xe ?_;have k8:=ha.step hr n9r;have k9:∀b∈E::ob vr,b∈[E]∨G.heap.size≤b:=λb hb=>by
  rcases Lb.1 hb with rfl | hb
  ·exact .inl Ln
  exact .inr (gv b hb).1
 have gw:∀{v:Value} {l:LI},QL [E] G.heap v l→QL [] w7.heap v l:=λhv=>(((hv.up k9).st (J.mono (by simp))).st (hr.mono (λb hb=>Ll _ hb))).up (λb hb=>by cases hb);have ma:qq [] w7.heap vr l':=QT k6 (by have:=hp.length_eq;omega) (by simp);have mc:Zt [] w7.heap vs vm vr ⟨sa,a.st,a.mr,l'⟩:=⟨gw kn,gw hi.mr,ma⟩
 have hJ:Step [] w' w7:=(T.then1 J Y).then hr (λb hb=>.inr (by have:=(gv b hb).1;omega));have po:=hJ.size;have mf:=hS.ext hJ;refine Qc<|x (Qr k8 O O)<|xl O<|xf<|(Jo mc g4).mono ?_;rintro v w8 ⟨h0,hF⟩;obtain ⟨us,gx,gy,mg⟩:=YV hF;refine xl rfl<|Qp (us:=us) (mf.ext h0) O gx gy O mg λw9 h6 hE=>Qe ?_;have gz:=hD.trans hJ
 refine Qn ⟨[.agg us.toArray,.int .i64 0],⟨⟨_,O,Qv gy (hE.at (L:=[]) (by simp)).cells⟩,rfl,U⟩,(gz.trans h0).then1 h6 (by omega),v,by rw[gx];rfl,?_⟩;exact (Y6 hF (by omega) h6).mono (by have:=gz.size;omega)
theorem Qi2 {motive:LI→Prop}(nil:motive []) (append_singleton:∀u v,motive u→motive (u++[v])) (u:LI):motive u:=by
 have key:∀r:LI,motive r.reverse:=by
  intro r;induction r with
  | nil=>exact nil
  | cons v r ih=>rw[List.reverse_cons];exact append_singleton _ _ ih
 have:=key u.reverse;rw[List.reverse_reverse] at this;exact this
def enc (u:LI):Int:=u.foldl (λn e=>n*33+(e+1)) 0
theorem JS (u:LI) (v:Int):enc (u++[v])=enc u*33+(v+1):=by unfold enc;rw[Mk];rfl
def Qds (u:LI):Prop:=∀e∈u,0≤e∧e<32
theorem Qds.snoc {u:LI}{v:Int}(h:Qds (u++[v])):Qds u∧0≤v∧v<32:=⟨λe he=>h e (LL _ he),h v (by simp)⟩
theorem QjG {u:LI}(h:Qds u):0≤enc u:=by
 induction u using Qi2 with
 | nil=>exact Nc _
 | append_singleton u v ih=>rw[JS];have:=ih h.snoc.1;have:=h.snoc.2;omega
def rn (a:QQ) (x:Int) (u:LI):Int:=u.foldl (λs v=>nxt a.ed s v) x
theorem Qg2 (a:QQ) (x:Int) (u:LI) (v:Int):rn a x (u++[v])=nxt a.ed (rn a x u) v:=by unfold rn;rw[Mk];rfl
structure Fw where
 u:LI
 s:Int
def VV:Fw:=⟨[],0⟩
def wdN (e:Fw) (d:Ed):Fw:=⟨e.u++[d.2.1],d.2.2⟩
def wdR (a:QQ) (e:Fw):List Fw:=(Zy a.ed e.s).map (wdN e)
def wdL (a:QQ) (most:Nat):Nat→Nat→List Fw→Option (List Fw)
 | 0,_,L=>some L
 | f+1,i,L=>if i<L.length then (if (L.getD i VV).u.length=most then some L else if 1024<(L++wdR a (L.getD i VV)).length then none else wdL a most f (i+1) (L++wdR a (L.getD i VV))) else some L
def wds (a:QQ) (most:Nat):Option (List Fw):=wdL a most 1025 0 [VV]
structure WdI (a:QQ) (most i:Nat) (L:List Fw):Prop where
 ne:0<L.length
 le:i≤L.length
 mx:L.length≤1024
 rx:∀e∈L,e.s=rn a 0 e.u∧0≤e.s∧e.s<a.st∧(∀v∈e.u,v∈a.al)∧e.u.length≤most
 so:L.Pairwise λp q=>enc p.u<enc q.u
 hd:(L.getD 0 VV).u=[]
 pr:∀e∈L,e.u=[]∨∃j v,j<i∧e.u=(L.getD j VV).u++[v]
 ch:∀j v,j<i→0≤nxt a.ed (L.getD j VV).s v→∃e∈L,e.u=(L.getD j VV).u++[v]
theorem Qfv {L:List Fw}{i:Nat}(h:i<L.length):L.getD i VV∈L:=by simp[List.getD,h]
theorem Qfw {L r:List Fw}{i:Nat}(h:i<L.length):(L++r).getD i VV=L.getD i VV:=by simp[List.getD,List.getElem?_append_left h]
theorem WdI.step {a:QQ}(G:Q8 a) {most i:Nat}{L:List Fw}(h:WdI a most i L) (hi:i<L.length) (hl:(L.getD i VV).u.length≠most) (hm:¬1024<(L++wdR a (L.getD i VV)).length):WdI a most (i+1) (L++wdR a (L.getD i VV)):=by
 have I:Qds a.al:=G.al;have Y:∀e∈L,Qds e.u:=λe he u hu=>I u ((h.rx e he).2.2.2.1 u hu);have V:=Qfv hi;obtain ⟨r1,r2,r3,r4,r5⟩:=h.rx _ V;generalize J:L.getD i VV=ei at *;have S:∀e∈wdR a ei,∃d∈Zy a.ed ei.s,e=wdN ei d∧d.2.1∈a.al∧0≤d.2.2∧d.2.2<a.st∧nxt a.ed ei.s d.2.1=d.2.2:=λe he=>by
  unfold wdR at he;obtain ⟨d,hd,rfl⟩:=Lx.1 he;obtain ⟨ha,hh⟩:=Zu hd;have T:=G.ed d ha;refine ⟨d,hd,O,T.2.2.1,T.2.2.2.1,T.2.2.2.2,?_⟩;rw[QbL];obtain ⟨k,hk,rfl⟩:=LE hd;refine QaJ _ ei.s _ k hk (λe he=>(Zu he).2) O (λm hb e=>?_);have hp:(Zy a.ed ei.s).Pairwise λx y:Ed=>x.1<y.1∨(x.1=y.1∧x.2.1<y.2.1):=List.Pairwise.sublist MI G.edi
  have:=Mw.1 hp m k (by omega) hk hb;have e1:=(Zu (Li (l:=Zy a.ed ei.s) (show m<(Zy a.ed ei.s).length by omega))).2;have e2:=(Zu (Li hk)).2;omega
 have hr:=QjG (Y _ V);have hc:∀e∈L,∀v,v∈a.al→enc e.u<enc (ei.u++[v]):=λe he v hv=>by
  have hs:=I v hv;rw[JS];rcases h.pr e he with h1 | ⟨j,u,E,h1⟩
  ·rw[h1];show (0:Int)<_;omega
  rw[h1,JS];have ht:enc (L.getD j VV).u<enc ei.u:=by
   have:=Mw.1 h.so j i (by omega) hi E;rw[←J];simpa[List.getD,show j<L.length by omega,hi] using this
  have hw:u<32:=by
   have:=(h.rx e he).2.2.2.1 u (by rw[h1];simp);exact (I u this).2
  omega
 have keepD:∀r:List Fw,∀j,j<L.length→(L++r).getD j VV=L.getD j VV:=λr j E=>Qfw E;refine ⟨by simp;have:=h.ne;omega,by simp;omega,by omega,λe he=>?_,?_,by rw[keepD _ 0 h.ne];exact h.hd,λe he=>?_,λj v E H=>?_⟩
 ·rcases Lj.1 he with he | he
  ·exact h.rx e he
  obtain ⟨d,_,rfl,h1,h2,h3,h4⟩:=S e he;refine ⟨?_,h2,h3,λu hu=>?_,?_⟩
  ·show d.2.2=rn a 0 (ei.u++[d.2.1]);rw[Qg2,←r1,h4]
  ·rcases Lj.1 (show u∈ei.u++[d.2.1] from hu) with hu | hu
   ·exact r4 u hu
   simp only[List.mem_singleton] at hu;subst hu;exact h1
  show (ei.u++[d.2.1]).length≤most;rw[Lh,LA];omega
 ·rw[Mf];refine ⟨h.so,?_,λp hp q hq=>?_⟩
  ·unfold wdR;rw[MJ];have hp:(Zy a.ed ei.s).Pairwise λx y:Ed=>x.1<y.1∨(x.1=y.1∧x.2.1<y.2.1):=List.Pairwise.sublist MI G.edi;refine List.Pairwise.imp_of_mem (λ{x y} hx hy hz=>?_) hp;have e1:=(Zu hx).2;have e2:=(Zu hy).2;show enc (ei.u++[x.2.1])<enc (ei.u++[y.2.1]);rw[JS,JS];omega
  obtain ⟨d,_,rfl,h1,_⟩:=S q hq;exact hc p hp _ h1
 ·rcases Lj.1 he with he | he
  ·rcases h.pr e he with h1 | ⟨j,u,E,h1⟩
   ·exact .inl h1
   exact .inr ⟨j,u,by omega,by rw[keepD _ j (by omega)];exact h1⟩
  obtain ⟨d,_,rfl,_⟩:=S e he;exact .inr ⟨i,d.2.1,by omega,by rw[keepD _ i hi,J];rfl⟩
 rw[keepD _ j (by omega)] at H ⊢;by_cases e:j=i
 ·subst e;rw[J] at H ⊢;have hf:=z1 H;refine ⟨wdN ei (ei.s,v,nxt a.ed ei.s v),Mc _ ?_,O⟩;unfold wdR;exact LH (by unfold Zy;exact LS.2 ⟨hf,by simp⟩)
 obtain ⟨e',hg,h1⟩:=h.ch j v (by omega) H;exact ⟨e',LL _ hg,h1⟩
theorem Qko {a:QQ}(E:0<a.st) (most:Nat):WdI a most 0 [VV]:=by
 refine ⟨by simp,Nat.zero_le _,by simp,λe he=>?_,by simp,by simp[List.getD,VV],λe he=>?_,λj v G=>by omega⟩
 ·simp only[List.mem_singleton] at he;subst he;exact ⟨O,Nc _,E,by simp[VV],by simp[VV]⟩
 simp only[List.mem_singleton] at he;subst he;exact .inl O
end Go.Proofs.YtdffckgdcegpaaaGreatDoor
namespace Go.Lg
section
variable {P:Program} {ops:List Oper} {K:Fr→World→Prop} {f:Fr} {w:World} {d:Option Nat} {ty:Nat} {ps:String} {af:Array Edge} {gd:Option (Nat×Bool)}
theorem V6 {base t ty e:Nat}{sz bys:Nat}{z:Value}[h:Sl P t e sz bys z] {v:Value}{n:Nat}{cs:LV}(E:w.ownsRow base e sz v n cs)
  {a:Addr} {m c:Nat} {news:LV} (hl:news.length=m*sz) (T:∀j u,news[j]?=some u→w.cell? (a.add j)=some u) (h1:∀u∈news,u.oneCell'=true)
  (hb:n+m≤1099511627776) (hs:bys≤128) (he:base≤w.heap.size) :
  ∃v' w',(Builtin.append_ #[t,t] ty #[v,.slice (some a) m c]).run P w=.ok v' w'∧w'.ownsRow base e sz v' (n+m) (cs++news)∧Step (ob v) w w'∧(∀b∈ob v',b∈ob v∨w.heap.size≤b)∧w'.ownsRow base e sz v n cs:=by
 obtain ⟨i,hi,Y,J,ha⟩:=Sl.info h;have hc:(n+m)*bys≤140737488355328:=LR (Nat.mul_le_mul hb hs) (by omega);have hf:n+m≤maxLen:=by simp only[maxLen];omega
 by_cases hg:∃g cap cur,v=.slice (some ⟨g,0,none⟩) n cap∧w.heap[g]?=some (.cells cur e (0,0))∧n+m≤cap
 ·obtain ⟨v',w',I,ho,ht,_⟩:=run_append_own (P:=P) w base t ty e i z sz bys h.u hi Y J ha h.zs h.pos v n cs E a m c news hl T h1 hf hc he;have hu:Step (ob v) w w':=by rw[zY];exact Step.of_grown ht
  refine ⟨v',w',I,ho,hu,?_⟩;obtain ⟨g,cap,cur,rfl,hh,S⟩:=hg;rcases E.2 with ⟨h2,_⟩ | ⟨g2,cap2,hj,h2,h3,h4,h5,h6,h7,h8⟩
  ·cases h2
  cases h2
  have hv:n*i.size+news.length≤hj.size:=by rw[hl,h7,J,←MA];exact Mt _ S
  have hw:=run_append_room (P:=P) w t ty e i h.u hi g n cap hj h4 a m c news (by rw[J];exact hl) T h1 S hv;rw[hw] at I;cases I
  refine ⟨λb H=>.inl H,E.1,?_⟩;have hC:=E.1;rcases ho.2 with ⟨e1,_⟩ | ⟨g3,cap3,cur3,e1,k3,k4,k5,k6,k7,k8⟩
  ·cases e1
  cases e1
  refine .inr ⟨g,cap,cur3,O,k3,k4,h5,k6,k7,?_⟩;have:=congrArg (List.take (n*sz)) k8;rw[List.take_take,ML (Mt _ (Nat.le_add_right n m)),List.take_append_of_le_length (by omega),Lm (l:=cs) (by omega)] at this;exact this
 have new:∀(old:Nat),old<n+m→∀G,G=(Obj.cells (cs.toArray++news.toArray++Builtin.zeroCells z.cells (grownCap w (n+m) old e - (n+m))) e) →
   (w.drew.alloc G).ownsRow base e sz (.slice (some ⟨w.heap.size,0,none⟩) (n+m) (grownCap w (n+m) old e)) (n+m) (cs++news):=by
  intro old ho G hy;subst hy;have hge:=grownCap_ge w (n+m) old e;have hp:grownCap w (n+m) old e≤maxLen:=grownCap_le_maxLen w (n+m) old e hf;have hq:(cs++news).length=(n+m)*sz:=by rw[Lh,E.1,hl,MA]
  refine ⟨hq,.inr ⟨w.heap.size,_,_,O,he,JV w.drew _,hge,hp,?_,?_⟩⟩
  ·simp only[Array.size_append,List.size_toArray,size_zeroCells,h.zs,E.1,hl,←Nat.add_mul];congr 1;omega
  simp only[Array.toList_append,List.append_assoc];rw[←Lz,←hq];exact List.take_left
 have stp:∀G,Step (ob v) w (w.drew.alloc G):=λG=>⟨O,O,O,by rw[Uq];exact Nat.le_succ _,λk hk _=>yE w.drew G k hk⟩;have h0:∀G,Step [] w (w.drew.alloc G):=λG=>⟨O,O,O,by rw[Uq];exact Nat.le_succ _,λk hk _=>yE w.drew G k hk⟩;have fin:∀(b:Nat),b∈ob (.slice (some ⟨w.heap.size,0,none⟩) (n+m) 0)→b∈ob v∨w.heap.size≤b:=λb H=>by simp[ob] at H;omega
 rcases E.2 with ⟨rfl,rfl⟩ | ⟨g,cap,cur,rfl,hD,hh,hE,hp,hF,hG⟩
 ·have hx:cs=[]:=Lp (by simpa using E.1);subst hx;by_cases hm:m=0
  ·subst hm;have V:news=[]:=Lp (by simpa using hl);subst V;refine ⟨nS,w,?_,QN _ _ _ _,Step.refl _ _,λb H=>by simp[ob] at H,QN _ _ _ _⟩;simp[Builtin.append_,run_underlying h.u,sizeOf,typeInfo,hi,Builtin.lenOf,Builtin.firstCells,loadCells,loadCellsFrom]
  have I:=run_append_nil (P:=P) w t ty e i z h.u hi Y a m c news (by rw[J];exact hl) T (by omega) (by omega) (by rw[ha];have h9:=hc;simp only[Nat.zero_add] at h9;omega);have V:=new 0 (by omega) _ O;simp only[Nat.zero_add,List.nil_append,Array.empty_append] at V ⊢;exact ⟨_,_,I,V,stp _,λb H=>fin b H,QN _ _ _ _⟩
 have S:cap<n+m:=by
  rcases Nat.lt_or_ge cap (n+m) with hA | hge
  ·exact hA
  exact absurd ⟨g,cap,cur,O,hh,hge⟩ hg
 have hB:∀j u,cs[j]?=some u→w.cell? ((⟨g,0,none⟩:Addr).add j)=some u:=E.cells (g:=g) O;have I:=run_append_grow (P:=P) w t ty e i z h.u hi Y ⟨g,0,none⟩ n cap cs (by rw[J];exact E.1) hB a m c news (by rw[J];exact hl) T S (by omega) (growslice_fits S (by rw[ha];exact hc));exact ⟨_,_,I,new cap S _ O,stp _,λb H=>fin b H,Qq E (h0 _)⟩
theorem QeG {t e sz bys:Nat}{z:Value}[h:Sl P t e sz bys z] {s y:Operand}{base:Nat}{v:Value}{n:Nat}{cs:LV}(E:w.ownsRow base e sz v n cs) (hs:ev f s=v)
  {a:Addr} {m c:Nat} {news:LV} (hy:ev f y=.slice (some a) m c) (hl:news.length=m*sz) {L:LN} (G:At L w.heap a news) (h1:∀u∈news,u.oneCell'=true)
  (hb:n+m≤1099511627776) (H:base≤w.heap.size)
  (I:∀v' w',w'.ownsRow base e sz v' (n+m) (cs++news)→Step (ob v) w w'→(∀b∈ob v',b∈ob v∨w.heap.size≤b)→w'.ownsRow base e sz v n cs→K (QV f d v') w') (J:bys≤128:=by decide) :
  XO P ⟨d,.call ⟨.builtin .append,#[s,y],#[t,t]⟩,ty,ps,af,gd⟩ f w K:=by
 obtain ⟨v',w',S,h2,h3,T,h5⟩:=V6 (P:=P) (t:=t) (ty:=ty) E hl G.cells h1 hb J H (c:=c);have V:(execOp (ev f) ⟨d,.call ⟨.builtin .append,#[s,y],#[t,t]⟩,ty,ps,af,gd⟩).run P w=.ok (.value v') w':=by
  simp[execOp,resolve,invoke,builtin,hs,hy,S]
 exact xv V (I v' w' h2 h3 T h5)
end
section
variable {P:Program} {ops:List Oper} {K:Fr→World→Prop} {f:Fr} {w:World} {d:Option Nat} {ty:Nat} {ps:String} {af:Array Edge} {gd:Option (Nat×Bool)} {C:World→Prop} {pl:List (Nat×Bool)} {i0:Nat}
theorem Qlv {α:Type}{g:α→LV}{x y:Operand}{t e sz bys:Nat}{z:Value}[Sl P t e sz bys z] (G:Q4 ops i0=⟨d,.indexAddr t x y,ty,ps,af,gd⟩) (I:∀x,(g x).length=sz) {L:LN}{E:List α}{v:Value}{H:World}{k:IntKind}{i:Nat}
  (h:∀w',C w'→Zp L w'.heap v E.length sz (E.flatMap g)) (J:C H) (S:ev f x=v) (hy:ev f y=.int k i) (hi:i<E.length)
  (T:∀a,(∀w',C w'→At L w'.heap a (g E[i]))→XP P ops C K pl (QV f d (.pointer (some a))) w) (V:Yh ops f (Q4 ops i0)=true:=by rfl) :
  XP P ops C K ((i0,true)::pl) f w:=by
 obtain ⟨a,cap,h1,_⟩:=Zp.at (h H J) hi;refine Lg.p (λw'=>by rw[G];exact Xf (S.trans h1) hy (by omega) (by omega)) ?_ V;rw[G];refine T _ λw' hc=>?_;obtain ⟨a',cap',Y,h2⟩:=Zp.at (h w' hc) hi;rw[Y] at h1;cases h1
 rw[XM g sz I E i hi] at h2;simpa using h2
end
end Go.Lg
namespace Go.Proofs.YtdffckgdcegpaaaGreatDoor
open Go.Proofs.Tryz
open Go.Lg
theorem Qk1 (b:Bool):b=true∨b=false:=by cases b;exact .inr O;exact .inl O
structure FV where
 v:Value
 f:Fw
abbrev ZG (p:FV):LV:=[p.v,.int .i64 p.f.s]
theorem yp (p:FV):(ZG p).length=2:=rfl
structure WdM (wB:World) (vL:Value) (es:List FV) (w:World):Prop where
 st:Step [] wB w
 l:w.ownsRow wB.heap.size 384 2 vL es.length (es.flatMap ZG)
 each:∀p∈es,QL (ob vL) w.heap p.v p.f.u
theorem WdM.ext {wB w w':World}{vL:Value}{E:List FV}(h:WdM wB vL E w) (hs:Step [] w w'):WdM wB vL E w':=⟨h.st.trans hs,Qq h.l hs,λp hp=>(h.each p hp).ext hs⟩
theorem WdM.add {wB w w':World}{vL vL':Value}{E:List FV}{p:FV}(h:WdM wB vL E w) (hs:Step (ob vL) w w') (hl:w'.ownsRow wB.heap.size 384 2 vL' (E.length+1) (E.flatMap ZG++ZG p)) (G:∀b∈ob vL',b∈ob vL∨w.heap.size≤b) (hp:QL (ob vL) w.heap p.v p.f.u):WdM wB vL' (E++[p]) w':=by
 refine ⟨h.st.then hs (λb hb=>.inr (Qk h.l b hb).1),by rw[Lh,Ly];simpa using hl,λq hq=>?_⟩;rcases Lj.1 hq with hq | hq
 ·exact (h.each q hq).grow hs (λb hb=>hb) G
 simp only[List.mem_singleton] at hq;subst hq;exact hp.grow hs (λb hb=>hb) G
theorem Qfq {E:List FV}{i:Nat}(h:i<E.length):(E.map (·.f)).getD i VV=(E[i]'h).f:=by simp[List.getD,h]
theorem Qg9 {a:QQ}(E:Q8 a) (s:Int):(Zy a.ed s).length≤32:=by
 have hp:(Zy a.ed s).Pairwise λx y:Ed=>x.1<y.1∨(x.1=y.1∧x.2.1<y.2.1):=List.Pairwise.sublist MI E.edi;have hi:Yg ((Zy a.ed s).map λe=>e.2.1):=by
  unfold Yg;rw[MJ];refine List.Pairwise.imp_of_mem (λ{x y} hx hy H=>?_) hp;have e1:=(Zu hx).2;have e2:=(Zu hy).2;omega
 have:=Xq _ 0 32 hi (λv G=>by
  obtain ⟨e,he,rfl⟩:=Lx.1 G;exact E.al _ (E.ed e (Zu he).1).2.2.1)
 rw[Lc] at this;omega
def QdF (a:QQ) (most:Nat) (mk:Bool):Option (List (LI)):=if a.st=0 then some [] else (wds a most).map λL=>(L.filter λf=>!mk || decide (f.s∈a.mr)).map (·.u)
def Qk6 (o:Option (List (LI))) (r:Value) (H:Array Obj):Prop:=(o=none∧r=.tuple #[Zf,.int .i64 3])∨∃l v ps,o=some l∧r=.tuple #[v,.int .i64 0]∧XB [] H v ps∧ps.map (·.2)=l
set_option maxHeartbeats 16000000 in
theorem Qdq {w:World}{va vm ve:Value}{a:QQ}(h:Zt [] w.heap va vm ve a) (mh:Jn a=0) (ho:Q8 a) (most:Nat) (q0:most≤4096) (mk:Bool) :
  QK prog 249 [.agg #[va,.int .i64 a.st,vm,ve],.int .i64 most,.bool mk] w λr w'=>Step [] w w'∧Qk6 (QdF a most mk) r w'.heap:=by
 have q1:=ho.st0;have q2:=ho.st1;refine QK.of_W func249 O ntmps249 results249 (by simp) ?_;refine Qc<|xl O<|QS (us:=[va,.int .i64 a.st,vm,ve]) O λb3 w1 g0 q3 g2=>x Qg<|Qe<|Qf<|Qc<|x (Qr g2 O O)<|xl O<|xf<|(Xt (h.ext g0)).mono ?_;rintro r2 w2 ⟨g3,g5⟩;rw[mh] at g3;subst g3;have I:=g0.trans g5;refine Qe<|Qc<|Qb<|x (Q9 O O)<|xe<|Yl rfl ?_
 refine Qi<|Qf<|Qc<|Qb<|xb (QA O O) (λg7=>absurd (show (most:Int)<0 from g7) (by omega)) (λg7=>?_);refine Qb<|Qb<|x (ZO O O)<|x (Qm O)<|xe<|Q6 rfl (λg8=>absurd (show (most:Int) > 4096 from g8) (by omega)) (λg8=>?_);refine Qi ?_;have hO:=g2.ext g5;refine Qf<|Qc<|x (Qa O)<|x (Qd hO O O)<|x (Q5 O O)<|xe<|Q6 rfl (λhP=>?_) (λhP=>?_)
 ·refine Qc<|x Qg<|Qe ?_;exact Qn ⟨[Zf,.int .i64 0],⟨O,O,U⟩,I,.inr ⟨[],Zf,[],by unfold QdF;rw[if_pos hP],rfl,⟨Zp.nil _ _ _,λp hp=>by cases hp⟩,rfl⟩⟩
 have mj:0<a.st:=by have q4:¬a.st=0:=hP;omega
 have hW:QdF a most mk=(wds a most).map λL=>(L.filter λf=>!mk || decide (f.s∈a.mr)).map (·.u):=by unfold QdF;rw[if_neg (by omega)]
 refine Zd (wds a most) λR hR=>?_;rw[hR] at hW;refine Qi<|Qc<|x (QD U)<|xl O<|QC (us:=[ZG ⟨nS,VV⟩]) O O (by decide) (by exact (by decide:1*2≤1000000)) ⟨O,O,U⟩ λg9 w3 mo mq ka=>Qe ?_;have q5:=ka.lt;have ms:WdM w2 (.slice (some ⟨g9,0,none⟩) 1 1) [⟨nS,VV⟩] w3:=by
  refine ⟨mo,ka.own (n:=1) O (by omega) mq,λp hp=>?_⟩;simp only[List.mem_singleton] at hp;subst hp;exact Zp.nil _ _ _
 have mt:∀e∈a.ed,0≤e.1∧e.1≤1099511627776:=λe he=>by have:=ho.ed e he;omega
 refine QU (α:=Value×List FV) [(6,7),(9,10),(12,12),(32,77)] (λz=>[(9,z.1)]) (λz w'=>WdM w2 z.1 z.2 w'∧R=some (z.2.map (·.f))∧z.2.length≤1024) (by rfl) ?_ ?_
 ·refine Qc<|Qe<|Qh<|QB (α:=Nat×Value×List FV) [(6,7),(9,10),(12,12),(32,77)] (λz=>[(9,z.2.1),(10,.int .i64 z.1)])
   (λz w'=>z.1≤1025∧WdM w2 z.2.1 z.2.2 w'∧WdI a most z.1 (z.2.2.map (·.f))∧wdL a most (1025 - z.1) z.1 (z.2.2.map (·.f))=R) (λz=>1025 - z.1) (by rfl) (0,.slice (some ⟨g9,0,none⟩) 1 1,[⟨nS,VV⟩]) ⟨O,O,U⟩
   ⟨Lk _,ms,Qko mj most,hR⟩ ?_
  rintro ⟨i,vL,E⟩ g4 w4 ⟨mu,hf,h5,G⟩;simp only[] at mu hf h5 G;have hQ:=h5.mx;have mv:=h5.le;rw[Lc] at hQ mv;have hv:Zp [] w4.heap vL E.length 2 (E.flatMap ZG):=QT hf.l (by omega) (λb _=>by simp);refine Qf<|Qc<|Qb<|Qb<|x (Qs hv O)<|x (QA O O)<|xe<|QG O (λhS=>?_) (λhS=>?_)
  ·refine Qz ?_;have mw:¬i<(E.map (·.f)).length:=by rw[Lc];have my:¬(i:Int)<(E.length:Int):=hS;omega
   refine ⟨(vL,E),Z,hf,?_,hQ⟩;rw[←G];generalize 1025 - i=f;cases f with
   | zero=>rfl
   | succ f=>rw[wdL,if_neg mw]
  have hi:i<E.length:=by have my:(i:Int)<(E.length:Int):=hS;omega
  rw[show 1025 - i=(1025 - (i+1))+1 by omega,wdL,if_pos (by rw[Lc];exact hi),Qfq hi] at G;have kb:=hf.each _ (Li hi);have hU:=h5.rx _ (LH (f:=λq:FV=>q.f) (Li hi));have hV:=λhl hm=>h5.step ho (by rw[Lc];exact hi) hl hm;rw[Qfq hi] at hV;refine Zd (E[i]'hi) λei hG=>?_;rw[hG] at G kb hU hV;have kc:=hf.st
  have mz:=kb.up (L':=[]) (λb hb=>by cases hb);refine Qi<|Qf<|Qh<|Qf<|Qc<|Qb<|Qb<|xig (g:=ZG) (i:=i) yp hv O O hi λza ke=>?_;rw[hG] at ke;refine x (Zl O)<|x (Qx (ke.fld 0 _ O) O)<|x (Qs mz O)<|Qb<|x (Q5 O O)<|xe<|Q6 O (λhX=>?_) (λhX=>?_)
  ·refine Qz ?_;have hH:ei.f.u.length=most:=by have m0:(ei.f.u.length:Int)=(most:Int):=hX;omega
   rw[if_pos hH] at G;exact ⟨(vL,E),Z,hf,G.symm,hQ⟩
  have hH:ei.f.u.length≠most:=by have m0:¬(ei.f.u.length:Int)=(most:Int):=hX;omega
  rw[if_neg hH] at G;have hY:=hV hH;refine Qi ?_;have m1:=hO.ext kc;have m2:Zt (ob vL) w4.heap va vm ve a:=((h.ext I).up (L':=ob vL) (λb hb=>.inr (Qk hf.l b hb).1)).ext kc;have m3:=Qg9 ho ei.f.s;have hout:=zV (va:=va) (vm:=vm) (st:=a.st) (m2.ed.ext (Step.drew [] w4)) ho.eds mt ei.f.s hU.2.1 (by omega);refine Zd (Zy a.ed ei.f.s) λos kf=>?_;rw[kf] at m3 hout
  have m4:wdR a ei.f=os.map (wdN ei.f):=by unfold wdR;rw[kf]
  rw[m4] at G hY;refine Qf<|Qf<|QW (Step [] w4) [(0,true),(1,true),(2,true),(3,true),(4,true),(5,true),(8,true),(6,false),(7,true)] mixed (by rfl) (by kernel_rfl) (Step.drew _ _) ?_;refine pq (λ_ hc=>Qr (m1.ext hc) O O)<|p (λ_=>Qo)<|p (λ_=>Qo)<|Lg.pig (g:=ZG) (i:=i) O yp hv O O hi λzv kg=>?_;rw[hG] at kg
  refine p (λ_=>Zl O)<|pq (λ_ hc=>Qx ((kg.fld 1 _ O).ext hc) O)<|p (λ_=>Qo)<|pk<|xf<|hout.mono ?_;rintro ro w5 ⟨m5,kh⟩;have ki:=(Step.drew [] w4).trans m5;refine ⟨ki,?_⟩;refine p (λ_=>Qs kh O)<|pe ?_;have m6:=hf.ext ki;refine Zd (E.map (·.f)++os.map (wdN ei.f)) λL1 kj=>?_;rw[kj] at G hY
  refine Qh<|QB (α:=Nat×Value×List FV) [(9,9),(12,12),(54,74)] (λz=>[(9,z.2.1),(54,.int .i64 z.1)])
   (λz w'=>z.1≤os.length∧WdM w2 z.2.1 z.2.2 w'∧qq (ob z.2.1) w'.heap ro os∧z.2.2.length=E.length+z.1∧(∃h:i<z.2.2.length,z.2.2[i]'h=ei)∧z.2.2.map (·.f)++(os.drop z.1).map (wdN ei.f)=L1) (λz=>os.length - z.1) (by rfl) (0,vL,E) ⟨O,O,U⟩
   ⟨Lk _,m6,kh,O,⟨hi,hG⟩,kj⟩ ?_
  rintro ⟨k,vL2,fs⟩ g6 w6 ⟨hk,hj,hZ,m7,kk,hg⟩;simp only[] at hk hj hZ m7 kk hg;refine Qc<|x (QA O O)<|xe<|Qf<|QG O (λga=>?_) (λga=>?_)
  ·refine Qz ?_;have gb:os.length≤k:=by have hI:¬(k:Int)<(os.length:Int):=ga;omega
   rw[Lq gb,Nn,LF] at hg;have m8:Zp [] w6.heap vL2 fs.length 2 (fs.flatMap ZG):=QT hj.l (by omega) (λb _=>by simp);have z0:L1.length=fs.length:=by rw[←hg,Lc]
   refine Qc<|Qb<|x (Qs m8 O)<|x (ZO O O)<|xe<|Q6 O (λgc=>?_) (λgc=>?_)
   ·have hJ:1024<L1.length:=by have m9:(fs.length:Int) > 1024:=gc;omega
    rw[if_pos hJ] at G;refine Qc<|x Qg<|Qe ?_;exact Qn ⟨[Zf,.int .i64 3],⟨O,O,U⟩,I.trans hj.st,.inl ⟨by rw[hW,←G];rfl,O⟩⟩
   have hJ:¬1024<L1.length:=by have m9:¬(fs.length:Int) > 1024:=gc;omega
   rw[if_neg hJ,←hg] at G;have kn:=hY hJ;rw[←hg] at kn;refine Qi<|Qy<|Qb<|QP O O<|Qe ?_;exact ⟨(i+1,vL2,fs),by simp only[];omega,⟨O,O,U⟩,by simp only[];omega,hj,kn,G⟩
  have J:k<os.length:=by have hI:(k:Int)<(os.length:Int):=ga;omega
  rw[QY J,LO] at hg;refine Zd (os[k]'J) λd hd=>?_;rw[hd] at hg;refine Qi<|Exists.elim kk λge gg=>?_;have ko:=hj.each _ (Li ge);rw[gg] at ko;refine QU (α:=Value×Value) [(9,9),(12,12),(56,73)] (λz=>[(9,z.1)]) (λz w'=>WdM w2 z.1 (fs++[⟨z.2,wdN ei.f d⟩]) w'∧qq (ob z.1) w'.heap ro os) (by rfl) ?_ ?_
  ·refine Qh<|Qc<|xie (i:=k) hZ O O J λz2 hI=>?_;rw[hd] at hI;refine x (QI hI O O)<|xl O<|Qt (us:=[.int .i64 0,.int .i64 0,.int .i64 0]) O λkp w7 pa pc pd=>xl O<|Qp (us:=Qw d) pd O O O O ⟨O,O,O,U⟩ λH pf kq=>xe ?_;have gh:Step [] w6 H:=pa.then1 pf pc;have hw:=hj.ext gh;have kr:=hZ.ext gh;have pg:=ko.ext gh
   have z3:Zp [] H.heap vL2 fs.length 2 (fs.flatMap ZG):=QT hw.l (by omega) (λb _=>by simp);have kt:=pg.up (L':=[]) (λb hb=>by cases hb);have h0:Step [] H { H with drawn:=H.drawn+1 }:=Step.drew [] H
   have z4:=h0.size;have ku:=hU.2.2.2.2;have T:∀w',Step [] H w'→Step (ob vL2) H w'∧w'.ownsRow w2.heap.size 384 2 vL2 fs.length (fs.flatMap ZG):=λw' hs=>⟨hs.mono (by simp),Qq hw.l hs⟩;have kv:kp∉ob vL2:=λhb=>by have:=QR hj.l kp hb;omega
   refine Qii (λw'=>Step (ob vL2) H w'∧w'.ownsRow w2.heap.size 384 2 vL2 fs.length (fs.flatMap ZG)) (.f2 [(0,true),(1,true),(2,true),(3,true),(4,true),(5,true),(7,true),(8,true),(11,true),(12,true)] 6 9 (.pl [(9,false),(10,false),(13,true),(14,false),(15,false),(16,true)]) (.pl [(6,false),(10,false),(13,true),(14,false),(15,false),(16,true)])) mixed (by rfl) (by kernel_rfl) (T _ h0) ?_
   refine u2<|p (λ_=>Qo)<|p (λ_=>Qo)<|p (λ_=>Qo)<|Qlv (g:=ZG) (i:=i) (L:=[]) O yp (λw' hc=>QT hc.2 (by omega) (λb _=>by simp)) (T _ h0) rfl rfl ge λz5 kw=>?_;rw[gg] at kw;refine p (λ_=>Zl O)<|pq (λw' hc=>Qx ((kw w' hc).fld 0 _ O) O)<|p (λ_=>Qa O)<|pq (λ_ hc=>Qd (kq.step hc.1 kv) O O)<|p (λ_=>Qa O)<|pq (λ_ hc=>Qd (kq.step hc.1 kv) O O)<|pe ⟨?_,?_⟩
   ·refine ue<|xf<|(ZW (kt.ext h0)).mono ?_;rintro vk w9 ⟨h6,h7⟩;have h2:=h0.trans h6;have ph:=h6.size;have gi:=Qk h7;refine ⟨T _ h2,?_⟩;refine uP<|pk<|QC (us:=[[.int .i64 d.2.1]]) O O (by decide) (by simp) ⟨rfl,rfl,U⟩ λbl pj hn pm gj=>?_;have h8:=h2.trans hn;have pn:=hn.size;refine ⟨T _ h8,?_⟩
    refine pk<|Q2 (news:=[.int .i64 d.2.1]) (L:=[]) (Qq h7 hn) O O O (gj.at (by simp)) (by simp[Value.oneCell']) (by omega) (by omega) λS gk gl h9 po=>?_;have hA:Step [] H gk:=h8.then h9 (λb hb=>.inr (by have:=(gi b hb).1;omega));have pp:=h9.size;have hq:=Qu.snoc (Zq gl (show H.heap.size≤_ by omega));refine ⟨T _ hA,?_⟩
    have gm:=(Qu.ints (L:=[]) hq (by simp;omega) (by simp)).one;have gn:=(Qu.ints (L:=[]) hq (by simp;omega) (by simp)).cells;refine p (λ_=>QD ⟨gn,O,U⟩)<|pk<|QC (us:=[ZG ⟨S,wdN ei.f d⟩]) O O (by decide) (by exact (by decide:1*2≤1000000)) ⟨O,O,U⟩ λbm go I pt hB=>?_;have Y:=hA.trans I;refine ⟨T _ Y,?_⟩;have hr:=hw.ext Y;have gp:=hr.st.size
    refine pk<|QeG (news:=ZG ⟨S,wdN ei.f d⟩) (L:=[]) (m:=1) hr.l O O O (hB.at (by simp)) (by intro u hu;simp only[List.mem_cons,List.not_mem_nil,or_false] at hu;rcases hu with rfl | rfl;exact gm;rfl) (by omega) gp λvz pu gq ht hC gr=>⟨⟨(Y.mono (by simp)).trans' ht,gr⟩,p (λ_=>Qg)<|pe ?_⟩
    have gs:QL (ob vL2) go.heap S (wdN ei.f d).u:=Qu.ints (Qq hq I) (by show (ei.f.u++[d.2.1]).length≤_;rw[Lh,LA];omega) (λb hb=>QR hw.l b hb);exact ⟨(vz,S),Z,hr.add ht gq hC gs,(kr.ext Y).grow ht (λb hb=>hb) hC⟩
   refine ue<|QC (us:=[[.int .i64 d.2.1]]) O O (by decide) (by simp) ⟨rfl,rfl,U⟩ λbl w9 h6 pm gj=>?_;have h2:=h0.trans h6;have ph:=h6.size;refine ⟨T _ h2,?_⟩;refine uP<|pk<|xf<|(ZW (kt.ext h2)).mono ?_;rintro vk pj ⟨hn,h7⟩;have h8:=h2.trans hn;have pn:=hn.size;have gi:=Qk h7;refine ⟨T _ h8,?_⟩
   refine pk<|Q2 (news:=[.int .i64 d.2.1]) (L:=[]) h7 O O O ((gj.ext hn).at (by simp)) (by simp[Value.oneCell']) (by omega) (by omega) λS gk gl h9 po=>?_;have hA:Step [] H gk:=h8.then h9 (λb hb=>.inr (by have:=(gi b hb).1;omega));have pp:=h9.size;have hq:=Qu.snoc (Zq gl (show H.heap.size≤_ by omega));refine ⟨T _ hA,?_⟩
   have gm:=(Qu.ints (L:=[]) hq (by simp;omega) (by simp)).one;have gn:=(Qu.ints (L:=[]) hq (by simp;omega) (by simp)).cells;refine p (λ_=>QD ⟨gn,O,U⟩)<|pk<|QC (us:=[ZG ⟨S,wdN ei.f d⟩]) O O (by decide) (by exact (by decide:1*2≤1000000)) ⟨O,O,U⟩ λbm go I pt hB=>?_;have Y:=hA.trans I;refine ⟨T _ Y,?_⟩;have hr:=hw.ext Y;have gp:=hr.st.size
   refine pk<|QeG (news:=ZG ⟨S,wdN ei.f d⟩) (L:=[]) (m:=1) hr.l O O O (hB.at (by simp)) (by intro u hu;simp only[List.mem_cons,List.not_mem_nil,or_false] at hu;rcases hu with rfl | rfl;exact gm;rfl) (by omega) gp λvz pu gq ht hC gr=>⟨⟨(Y.mono (by simp)).trans' ht,gr⟩,p (λ_=>Qg)<|pe ?_⟩
   have gs:QL (ob vL2) go.heap S (wdN ei.f d).u:=Qu.ints (Qq hq I) (by show (ei.f.u++[d.2.1]).length≤_;rw[Lh,LA];omega) (λb hb=>QR hw.l b hb);exact ⟨(vz,S),Z,hr.add ht gq hC gs,(kr.ext Y).grow ht (λb hb=>hb) hC⟩
  rintro ⟨vz,S⟩ z9 w14 ⟨kx,ky⟩;simp only[] at kx ky;refine Qy<|QP O O<|Qb<|xe ?_;exact ⟨(k+1,vz,fs++[⟨S,wdN ei.f d⟩]),by simp only[];omega,⟨O,O,U⟩,J,kx,ky,by simp;omega,⟨by simp;omega,by simp only[];rw[Mm ge];exact gg⟩,by simp only[];rw[Lt,Lz];exact hg⟩
 rintro ⟨vL,E⟩ g20 hD ⟨h3,kz,pw⟩;simp only[] at h3 kz pw;rw[kz] at hW;have pz:=I.trans h3.st;have hv:Zp [] hD.heap vL E.length 2 (E.flatMap ZG):=QT h3.l (by omega) (λb _=>by simp);refine Qc<|Qe<|Qf<|Qc<|Qb<|x (Qs hv O)<|Qb<|xe<|Qh<|QB (α:=Nat×Value×List TV) [(13,13),(15,15),(80,100)] (λz=>[(13,z.2.1),(80,.int .i64 z.1)])
  (λz w'=>z.1≤E.length∧Step [] hD w'∧qJ 37 hD.heap.size w' z.2.1 z.2.2∧z.2.2.map (·.2)=((E.take z.1).filter λp=>!mk || decide (p.f.s∈a.mr)).map (λp=>p.f.u)∧∀p∈z.2.2,QL (ob z.2.1) w'.heap p.1 p.2) (λz=>E.length - z.1) (by rfl) (0,nS,[]) ⟨O,O,U⟩
  ⟨Lk _,Step.refl _ _,QN _ _ _ _,O,λp hp=>by cases hp⟩ ?_
 rintro ⟨k,vT,ps⟩ g21 k0 ⟨hk,ha,hT,hE,hK⟩;simp only[] at hk ha hT hE hK;have hpl:ps.length≤k:=by
  have h1:=congrArg List.length hE;rw[Lc,Lc] at h1;rw[h1];refine LR (Mb _ _) ?_;rw[Lv];omega
 refine Qc<|x (QA O O)<|xe<|Qf<|QG O (λgt=>?_) (λgt=>?_)
 ·refine Qz ?_;have gb:E.length≤k:=by have hL:¬(k:Int)<(E.length:Int):=gt;omega
  refine Qc<|Qb<|x Qg<|Qe<|Qn ⟨[vT,.int .i64 0],⟨O,O,U⟩,pz.trans ha,.inr ⟨_,vT,ps,hW,O,⟨QT hT (by omega) (λb _=>by simp),λp hp=>(hK p hp).up (λb hb=>by cases hb)⟩,?_⟩⟩;rw[hE,Lm gb];show _=((E.map (λp:FV=>p.f)).filter λf=>!mk || decide (f.s∈a.mr)).map (λx:Fw=>x.u);rw[List.filter_map,MH];rfl
 have J:k<E.length:=by have hL:(k:Int)<(E.length:Int):=gt;omega
 have k4:=h3.each _ (Li J);refine Zd (E[k]'J) λek gu=>?_;rw[gu] at k4;have k5:QL (ob vT) k0.heap ek.v ek.f.u:=((k4.up (L':=[]) (λb hb=>by cases hb)).up (λb hb=>.inr (Qk hT b hb).1)).ext ha;refine Qi<|Qf<|Qh<|Qc<|xig (g:=ZG) (i:=k) yp (hv.ext ha) O O J λa82 hL=>?_;rw[gu] at hL
 refine x (QI hL O O)<|xl O<|Qt (us:=[nS,.int .i64 0]) O λb15 w22 p0 p1 p2=>xl O<|Qp (us:=ZG ek) p2 O O O O ⟨k5.one,O,U⟩ λhh p3 k6=>xe ?_;have V:Step [] k0 hh:=p0.then1 p3 p1;have hB:=((hO.ext h3.st).ext ha).ext V;have p4:QL [] hh.heap vm a.mr:=(((h.ext I).mr.ext h3.st).ext ha).ext V
 have hF:(E.take (k+1)).filter (λp=>!mk || decide (p.f.s∈a.mr))=(E.take k).filter (λp=>!mk || decide (p.f.s∈a.mr))++(if (!mk || decide (ek.f.s∈a.mr))=true then [ek] else []):=by
  rw[Le J,L0,gu,L9,M2]
 refine QU (α:=Bool) [(84,92)] (λz=>[(92,.bool z)]) (λz w'=>w'=hh∧z=(!mk || decide (ek.f.s∈a.mr))) (by rfl) ?_ ?_
 ·refine Or.elim (Qk1 mk) (λgv=>?_) (λgv=>?_)
  ·subst gv;refine Qy<|Qb<|x (Zr O)<|Qb<|x (Qa O)<|x (Qd hB O O)<|x (Qa O)<|x (Qd k6 O O)<|xl O<|xf<|(ZM p4 ek.f.s).mono ?_;rintro r91 hh ⟨rfl,rfl⟩;refine x (Qm O)<|xe ?_;exact ⟨_,Z,O,O⟩
  subst gv;refine Qy<|Qb<|x (Zr O)<|Qb<|xs O<|xs O<|xs O<|xs O<|xs O<|x (Qm O)<|xe ?_;exact ⟨true,Z,O,O⟩
 rintro z g23 hh ⟨rfl,hz⟩;rw[←hz] at hF;refine Q3 rfl (λgw=>?_) (λgw=>?_)
 rotate_left
 ·rw[if_neg (by rw[gw];decide),LF] at hF;refine Qi<|Qy<|QP O O<|Qb<|xe ?_;exact ⟨(k+1,vT,ps),by simp only[];omega,⟨O,O,U⟩,J,ha.trans V,Qq hT V,by simp only[];rw[hF];exact hE,λp hp=>(hK p hp).ext V⟩
 rw[if_pos gw] at hF;have k7:=k5.ext V;have k8:=Qq hT V;have ku:=k7.le;refine Qy<|Qb<|xl O<|Kp λb94 w24 hM k9 p5=>x (Qa O)<|x (Qd (k6.ext hM) O O) <|
  xl rfl<|zZ (base:=hh.heap.size) (p5.own (n:=0) (sz:=1) O (by omega) k9) O (k7.ext hM) O (KY ek.f.u) (by omega) (by have:=hM.size;omega) λh4 gx p6 p7 hn25=>?_
 have p8:Step [] hh gx:=hM.then1 p7 k9;have p9:Qu 3 hh.heap.size gx h4 ek.f.u:=by simpa[tup] using p6
 have gy:QL (ob vT) gx.heap h4 ek.f.u:=Qu.ints p9 ku (λb hb=>QR k8 b hb);refine xl rfl<|QC (us:=[[h4]]) O O (by decide) (by simp) ⟨gy.cells,rfl,U⟩ λb98 w26 ma hb98 qc=>?_;have hN:=p8.trans ma;have qf:=Qq k8 hN
 refine xl rfl<|Q2 (news:=[h4]) (L:=[]) qf O O O (qc.at (by simp)) (λy hy=>by simp only[List.mem_singleton] at hy;subst hy;exact gy.one) (by omega) (by have:=ha.size;have:=V.size;have:=hN.size;omega) λmc mf ql gz mg=>Qe ?_;have qo:Step [] hD mf:=((ha.trans V).trans hN).then gz (λb hb=>.inr (Qk hT b hb).1)
 have qr:qJ 37 hD.heap.size mf mc (ps++[(h4,ek.f.u)]):=qJ.snoc ql;refine Qy<|QP O O<|Qb<|xe<|⟨(k+1,mc,ps++[(h4,ek.f.u)]),by simp only[];omega,⟨O,O,U⟩,J,qo,qr,?_,λp hp=>?_⟩
 ·simp only[];rw[Lt,hE,hF,Lt];rfl
 rcases Lj.1 hp with hp | hp
 ·exact (((hK p hp).ext V).ext hN).grow gz (λb hb=>hb) mg
 simp only[List.mem_singleton] at hp;subst hp;exact (gy.ext ma).grow gz (λb hb=>hb) mg
theorem KR {L L':LN}{w:World}{v v':Value}{l l':LI}(h:QL L w.heap v l) (h':QL L' w.heap v' l'):QK prog 252 [v,v'] w λr w'=>r=.bool (decide (l=l'))∧Step [] w w':=by
 have hb:=h.le;have hf:=h'.le;refine QK.of_W func252 O ntmps252 results252 (by simp) ?_;refine Qc<|Qe<|Qf<|Qc<|Qb<|x (Qs h O)<|Qb<|x (Qs h' O)<|x (Q9 O O)<|xe<|Q6 rfl (λJ=>?_) (λJ=>?_)
 ·refine Qc<|Qe<|Qn ⟨[.bool false],Z,?_,Step.refl _ _⟩;have E:l≠l':=λe=>J (by rw[e]);simp[tup,E]
 have hg:l.length=l'.length:=by omega
 refine Qi<|Qf<|Qc<|Qe<|Qh<|QB (α:=Nat) [(4,5),(11,25)] (λk=>[(5,.int .i64 k)]) (λk w'=>Step [] w w'∧k≤l.length∧(l=l'↔l.drop k=l'.drop k)) (λk=>l.length - k) (by rfl) 0 Z ⟨Step.refl _ _,Lk _,by simp⟩ ?_;rintro k g S ⟨hs,hk,hm⟩
 replace h:=h.ext hs
 replace h':=h'.ext hs;refine Qf<|Qc<|Qb<|Qb<|x (Qs h O)<|x (QA O O)<|xe<|QG rfl (λV=>?_) (λV=>?_)
 ·refine Qz<|Qc<|Qe<|Qn ⟨[.bool true],Z,?_,hs⟩;rw[Lq (by omega),Lq (by omega)] at hm;simp[tup,hm]
 have G:k<l.length:=by omega
 have H:k<l'.length:=by omega
 refine Qi<|Qf<|Qh<|Qf<|QW (Step [] S) [(0,true),(1,true),(2,true),(3,true),(4,true),(5,true),(6,true),(7,true),(8,true)] mixed (by rfl) (by kernel_rfl) (Step.drew _ _) ?_;refine p (λ_=>Qo)<|p (λ_=>Qo)<|pii (i:=k) O h O O G λhh Y=>pq (λ_ hc=>Qx (Y.ext hc) O)<|p (λ_=>Qo)<|p (λ_=>Qo)<|pii (i:=k) O h' O O H λhi ha=>pq (λ_ hc=>Qx (ha.ext hc) O)<|p (λ_=>Q9 O O)<|pe ?_
 have T:=hs.trans (Step.drew [] S);refine Q6 rfl (λI=>?_) (λI=>?_)
 ·refine Qc<|Qe<|Qn ⟨[.bool false],Z,?_,T⟩;have E:l≠l':=λe=>I (by simp[e]);simp[tup,E]
 refine Qi<|Qy<|Qb<|QP O O<|Qe<|⟨k+1,by omega,Z,T,by omega,?_⟩;have he:l[k]'G=l'[k]'H:=Ls.1 I;rw[hm,QY G,QY H,he];exact ⟨λh=>(List.cons.inj h).2,λh=>by rw[h]⟩
theorem qX {L L':LN}{w:World}{v v':Value}{l l':LI}(h:QL L w.heap v l) (h':QL L' w.heap v' l'):QK prog 41 [v,v'] w λr w'=>r=.bool (decide (l=l'))∧Step [] w w':=by
 have hb:=h.le;have hf:=h'.le;refine QK.of_W func41 O ntmps41 results41 (by simp) ?_;refine Qc<|Qe<|Qf<|Qc<|Qb<|x (Qs h O)<|Qb<|x (Qs h' O)<|x (Q9 O O)<|xe<|Q6 rfl (λJ=>?_) (λJ=>?_)
 ·refine Qc<|Qe<|Qn ⟨[.bool false],Z,?_,Step.refl _ _⟩;have E:l≠l':=λe=>J (by rw[e]);simp[tup,E]
 have hg:l.length=l'.length:=by omega
 refine Qi<|Qf<|Qc<|Qe<|Qh<|QB (α:=Nat) [(4,5),(11,25)] (λk=>[(5,.int .i64 k)]) (λk w'=>Step [] w w'∧k≤l.length∧(l=l'↔l.drop k=l'.drop k)) (λk=>l.length - k) (by rfl) 0 Z ⟨Step.refl _ _,Lk _,by simp⟩ ?_;rintro k g S ⟨hs,hk,hm⟩
 replace h:=h.ext hs
 replace h':=h'.ext hs;refine Qf<|Qc<|Qb<|Qb<|x (Qs h O)<|x (QA O O)<|xe<|QG rfl (λV=>?_) (λV=>?_)
 ·refine Qz<|Qc<|Qe<|Qn ⟨[.bool true],Z,?_,hs⟩;rw[Lq (by omega),Lq (by omega)] at hm;simp[tup,hm]
 have G:k<l.length:=by omega
 have H:k<l'.length:=by omega
 refine Qi<|Qf<|Qh<|Qf<|QW (Step [] S) [(0,true),(1,true),(2,true),(3,true),(4,true),(5,true),(6,true),(7,true),(8,true)] mixed (by rfl) (by kernel_rfl) (Step.drew _ _) ?_;refine p (λ_=>Qo)<|p (λ_=>Qo)<|pii (i:=k) O h O O G λhh Y=>pq (λ_ hc=>Qx (Y.ext hc) O)<|p (λ_=>Qo)<|p (λ_=>Qo)<|pii (i:=k) O h' O O H λhi ha=>pq (λ_ hc=>Qx (ha.ext hc) O)<|p (λ_=>Q9 O O)<|pe ?_
 have T:=hs.trans (Step.drew [] S);refine Q6 rfl (λI=>?_) (λI=>?_)
 ·refine Qc<|Qe<|Qn ⟨[.bool false],Z,?_,T⟩;have E:l≠l':=λe=>I (by simp[e]);simp[tup,E]
 refine Qi<|Qy<|Qb<|QP O O<|Qe<|⟨k+1,by omega,Z,T,by omega,?_⟩;have he:l[k]'G=l'[k]'H:=Ls.1 I;rw[hm,QY G,QY H,he];exact ⟨λh=>(List.cons.inj h).2,λh=>by rw[h]⟩
set_option maxHeartbeats 1000000 in
theorem Qgm {L L':LN}{w:World}{va vm ve ua um ue:Value}{a:QQ}(h:Zt L w.heap va vm ve a) (h':Zt L' w.heap ua um ue a):QK prog 251 [.agg #[va,.int .i64 a.st,vm,ve],.agg #[ua,.int .i64 a.st,um,ue]] w λr w'=>r=.bool true∧Step [] w w':=by
 have hu:=h.ed.le;refine QK.of_W func251 O ntmps251 results251 (by simp) ?_;refine Qc<|xl O<|QS (us:=[va,.int .i64 a.st,vm,ve]) O λb2 w1 hj hv hl=>xl O<|QS (us:=[ua,.int .i64 a.st,um,ue]) O λb3 w2 ha hw H=>Qe ?_;have S:=hj.trans ha;have I:=hl.ext ha;have h2:=h.ext S;have T:=h'.ext S
 refine Qf<|QU (α:=Unit) [(6,35)] (λ_=>[(35,.bool false)]) (λ_ w'=>Step [] w2 w') (by rfl) ?_ ?_
 ·refine Qy<|x (Qa O)<|x (Qd I O O)<|x (Qa O)<|x (Qd H O O)<|xl O<|xf<|(KR h2.al T.al).mono ?_;rintro r3 w3 ⟨hb,E⟩;rw[decide_eq_true rfl] at hb;subst hb;refine x (Zr O)<|Qb<|x (Qa O)<|x (Qd (I.ext E) O O)<|x (Qa O)<|x (Qd (H.ext E) O O)<|xb (Q9 O O) (λhe=>absurd O he) (λhe=>?_)
  refine x (Qm O)<|Qb<|x (Qa O)<|x (Qd (I.ext E) O O)<|x (Qa O)<|x (Qd (H.ext E) O O)<|xl O<|xf<|(KR (h2.mr.ext E) (T.mr.ext E)).mono ?_;rintro r4 w4 ⟨hf,G⟩;rw[decide_eq_true rfl] at hf;subst hf;have J:=E.trans G
  refine x (Zr O)<|x (Qm O)<|Qb<|x (Qa O)<|x (Qd (I.ext J) O O)<|x (Qs (h2.ed.ext J) O)<|x (Qa O)<|x (Qd (H.ext J) O O)<|x (Qs (T.ed.ext J) O)<|xb (Q9 O O) (λhg=>absurd O hg) (λhg=>?_);refine x (Qm O)<|xe ?_;exact ⟨(),Z,J⟩
 rintro ⟨⟩ g w3 E;have V:=S.trans E;have hm:=I.ext E;have hn:=H.ext E;have h3:=h.ext V;have ho:=h'.ext V;refine Yl rfl ?_;refine Qi<|Qf<|Qc<|Qe<|Qh<|QB (α:=Nat) [(4,5),(36,53)] (λk=>[(5,.int .i64 k)]) (λk w'=>Step [] w3 w'∧k≤a.ed.length) (λk=>a.ed.length - k) (by rfl) 0 Z ⟨Step.refl _ _,Lk _⟩ ?_;rintro k g w4 ⟨G,hk⟩;have h4:=h3.ed.ext G
 have hp:=ho.ed.ext G;have hh:=hm.ext G;have hq:=hn.ext G;refine Qf<|Qc<|Qb<|x (Qa O)<|x (Qd hh O O)<|x (Qs h4 O)<|x (QA O O)<|xe<|QG rfl (λhr=>?_) (λhr=>?_)
 ·refine Qz<|Qc<|Qe ?_;exact Qn ⟨[.bool true],Z,O,V.trans G⟩
 have Y:k<a.ed.length:=by omega
 refine Qi<|Qf<|Qh<|Qf<|QW (Step [] w4) [(0,true),(1,true),(2,true),(3,true),(4,true),(5,true),(6,true),(7,true),(8,true),(9,true),(10,true)] mixed (by rfl) (by kernel_rfl) (Step.drew _ _) ?_;refine p (λ_=>Qa O)<|pq (λ_ hc=>Qd (hh.ext hc) O O)<|p (λ_=>Qo)<|pie (i:=k) O h4 O O Y λhy hs=>pq (λ_ hc=>QI (hs.ext hc) O O)<|p (λ_=>Qa O)<|pq (λ_ hc=>Qd (hq.ext hc) O O)<|p (λ_=>Qo) <|
  pie (i:=k) O hp O O Y λhz ht=>pq (λ_ hc=>QI (ht.ext hc) O O)<|p (λ_=>KU O O)<|pe ?_
 refine Q6 rfl (λhi=>absurd O hi) (λhi=>?_);refine Qi<|Qy<|Qb<|QP O O<|Qe ?_;exact ⟨k+1,by omega,Z,G.trans (Step.drew _ _),Y⟩
end Go.Proofs.YtdffckgdcegpaaaGreatDoor
namespace Go.Lg
theorem zP {P:Program}{f:Fr}{w:World}{d:Option Nat}{ty:Nat}{ps:String}{af:Array Edge}{gd:Option (Nat×Bool)}{t E:Nat}[h:S3 P t] {x y:Operand}{p q:Ed}(hx:ev f x=.agg (Qw p).toArray) (hy:ev f y=.agg (Qw q).toArray) :
  (execOp (ev f) ⟨d,.binOp .eql t x y E,ty,ps,af,gd⟩).run P w=.ok (.value (.bool (decide (p=q)))) w:=by
 have G:(eqGuard .eql t x y (.agg (Qw p).toArray) (.agg (Qw q).toArray)).run P w=.ok () w:=by simp[eqGuard,h.g]
 simp only[execOp,hx,hy,Sem.run_bind,G,Result.andThen_ok,binOp,KS,Sem.run_pure]
end Go.Lg
namespace Go.Proofs.YtdffckgdcegpaaaGreatDoor
open Go.Proofs.Tryz
open Go.Lg
def ex3:QQ:=⟨[0,2],3,[2],[(0,0,2),(0,2,0),(2,2,0)]⟩
def cn3:QQ:=⟨[0,2],2,[1],[(0,0,1),(0,2,0),(1,2,0)]⟩
def se3:List Ed:=[(0,1,0),(0,3,1),(1,1,0)]
theorem QfI:Jn ex3=0:=by kernel_rfl
theorem QhU:ZD ex3=cn3:=by kernel_rfl
theorem yB:Jn cn3=0:=by kernel_rfl
theorem Qh6:QgY cn3 0 [0,0]=0:=by kernel_rfl
theorem Qh7:flw cn3 0 [0,0]=(1,1):=by kernel_rfl
theorem Qh5:QdF cn3 2 true=some [[0],[2,0]]:=by kernel_rfl
theorem Qi4:Jn ⟨[1,3],2,[1],se3⟩=0:=by kernel_rfl
theorem Qi3:(ZD ⟨[1,3],2,[1],se3⟩).ed=se3:=by kernel_rfl
theorem QjQ:rlE cn3 [3,1]=[(0,3,1),(0,1,0),(1,1,0)]:=by kernel_rfl
theorem Qln:([3,1]:LI).mergeSort (λx y=>decide (x≤y))=[1,3]:=by
 refine List.Perm.eq_of_pairwise (le:=λx y:Int=>x≤y) (λa b _ _ h1 h2=>by omega) ?_ (by decide) ((Nf _ _).trans (List.Perm.swap _ _ _));refine (List.pairwise_mergeSort (le:=λx y:Int=>decide (x≤y)) (λa b c h1 h2=>by simp at *;omega) (λa b=>by simp;omega) [3,1]).imp λh=>by simpa using h
theorem QiX (l':List Ed) (hp:l'.Perm (rlE cn3 [3,1])) (G:l'.Pairwise jK):l'=se3:=by
 rw[QjQ] at hp;refine List.Perm.eq_of_pairwise (le:=jK) (λa b ha hb h1 h2=>?_) G (by unfold se3 jK;decide) (hp.trans (List.Perm.swap _ _ _));have E:=hp.mem_iff.1 ha;simp only[List.mem_cons,List.not_mem_nil,or_false] at E;simp only[se3,List.mem_cons,List.not_mem_nil,or_false] at hb;unfold jK at h1 h2
 rcases E with rfl | rfl | rfl <;> rcases hb with rfl | rfl | rfl <;> first | rfl | (exfalso;simp only[] at h1 h2;omega)
set_option maxHeartbeats 1000000 in
theorem jF (w:World):QK prog 247 [] w λr w'=>Step [] w w'∧YO w.heap.size w'.heap r ex3:=by
 refine QK.of_W func247 O ntmps247 results247 (by simp) ?_;refine Qc<|xl O<|Qt (us:=Jy) O λb0 w1 S hb T=>xe ?_;have hc:=T.lt;refine Qc<|xl O<|QC (us:=[[.int .i64 0],[.int .i64 2]]) O O (by decide) (by simp) ⟨rfl,rfl,rfl,rfl,U⟩ λG w2 V hj he=>xl rfl<|QC (us:=[[.int .i64 2]]) rfl rfl (by decide) (by simp) ⟨rfl,rfl,U⟩ λH w3 I hk hf =>
  x (QD ⟨rfl,O,O,U⟩)<|x (QD ⟨O,O,O,U⟩)<|x (QD ⟨O,O,O,U⟩)<|xl O<|QC (us:=[Qw (0,0,2),Qw (0,2,0),Qw (2,2,0)]) O O (by decide) (by exact (by decide:3*3≤1000000)) ⟨O,O,O,O,O,O,U⟩ λJ w4 E hl hg=>?_
 have Y:=(V.trans I).trans E;have hh:=S.size;have hm:=V.size;have hn:=I.size;have ho:=E.size;have hF:YO w1.heap.size w4.heap (.agg #[.slice (some ⟨G,0,none⟩) 2 2,.int .i64 3,.slice (some ⟨H,0,none⟩) 1 1,.slice (some ⟨J,0,none⟩) 3 3]) ex3 :=
  zx (a:=ex3) ((he.ext I).ext E) (hf.ext E) hg (by omega) (by omega) (by omega) O O O (by decide) (by decide) (by decide)
 refine x (QD ⟨O,O,O,O,U⟩)<|xl O<|Qp (us:=[.slice (some ⟨G,0,none⟩) 2 2,.int .i64 3,.slice (some ⟨H,0,none⟩) 1 1,.slice (some ⟨J,0,none⟩) 3 3]) (T.ext Y) O O O O ⟨O,O,O,O,U⟩ λw5 ha hi=>xe ?_
 refine Qn ⟨[.agg [.slice (some ⟨G,0,none⟩) 2 2,.int .i64 3,.slice (some ⟨H,0,none⟩) 1 1,.slice (some ⟨J,0,none⟩) 3 3].toArray],⟨⟨_,O,Qv O (hi.at (L:=[]) (by simp)).cells⟩,U⟩,(S.trans Y).then1 ha hb,?_⟩;exact (Y6 hF hc ha).mono hh
set_option maxHeartbeats 4000000 in
theorem Qc0 (w:World):QK prog 199 [] w λr w'=>r=.bool true∧Step [] w w':=by
 refine QK.of_W func199 O ntmps199 results199 (by simp) ?_;refine Qc<|Qe<|Qc<|xl O<|xf<|(jF w).mono ?_;rintro r1 w1 ⟨hE,va,vm,ve,rfl,hF⟩;refine xl rfl<|xf<|(yH (hF [] (by simp))).mono ?_;rintro r2 w2 ⟨hG,v2,rfl,_,hH⟩;have hf:=hH QfI;rw[QhU] at hf;obtain ⟨ca,cm,ce,rfl,hI⟩:=hf;have hC:=hI [] (by simp)
 refine Qb<|x (Ql O O)<|x (Ql O O)<|xl O<|Qt (us:=Jy) O λb1 w3 hJ hK hM=>xl O<|Qp (us:=[ca,.int .i64 2,cm,ce]) hM O O O O ⟨hC.al.one,O,hC.mr.one,hC.ed.one,U⟩ λw4 hN J=>Qe ?_;have hg:Step [] w2 w4:=hJ.then1 hN hK;have S:=hC.ext hg;have hO:=(hE.trans hG).trans hg
 refine Qc<|x (Qr J O O)<|xl O<|QC (us:=[[.int .i64 0],[.int .i64 0]]) O O (by decide) (by simp) ⟨rfl,rfl,rfl,rfl,U⟩ λg5 w5 hh g6 hP=>xl rfl<|xf<|(Qj6 (u:=[0,0]) (S.ext hh) (hP.arr (L:=[]) (by simp) (n:=2) (cap:=2) (sz:=1) rfl (by omega) (Lr _)) 0).mono ?_;rintro r6 w6 ⟨hQ,hi⟩;rw[if_neg (by rw[Qh6];decide),Qh7] at hi;subst hi
 refine Qb<|x (Ql O O)<|x (Ql O O)<|x (Ql O O)<|x Qg<|x Qg<|Qe ?_;have Y:=hh.trans hQ;refine Qc<|x (Qr (J.ext Y) O O)<|xl O<|xf<|(Qdq (S.ext Y) yB ((ZJ _).1 yB) 2 (by decide) true).mono ?_;rintro r7 w7 ⟨hS,hj⟩;rw[Qh5] at hj;have hT:∃I G H,r7=.tuple #[I,.int .i64 0]∧XB [] w7.heap I [G,H]∧G.2=[0]∧H.2=[2,0]:=by
  rcases hj with ⟨h,_⟩ | ⟨l,I,ps,hl,h2,h3,E⟩
  ·cases h
  cases hl
  match ps,h3,E with
  | [G,H],h3,E =>
   simp only[List.map_cons,List.map_nil,List.cons.injEq,and_true] at E;exact ⟨I,G,H,h2,h3,E.1,E.2⟩
  | [],_,E=>simp at E
  | [_],_,E=>simp at E
  | _::_::_::_,_,E=>simp at E
 obtain ⟨I,G,H,rfl,hU,hV,hW⟩:=hT;refine Qb<|x (Ql O O)<|x (Ql O O)<|x Qg<|Qe ?_;have ha:=Y.trans hS;refine Qc<|x (Qr (J.ext ha) O O)<|xl O<|QC (us:=[[.int .i64 3],[.int .i64 1]]) O O (by decide) (by simp) ⟨rfl,rfl,rfl,rfl,U⟩ λg7 w8 hk g8 hX =>
  xl rfl<|xf<|(Qbf (to:=[3,1]) ((S.ext ha).ext hk) yB ((ZJ _).1 yB) (hX.arr (L:=[]) (by simp) (n:=2) (cap:=2) (sz:=1) rfl (by omega) (Lr _)) rfl (by decide) (by decide) Qln QiX ((ZJ _).1 Qi4)).mono ?_
 rintro r9 w9 ⟨hY,v9,rfl,hZ⟩;obtain ⟨ra,rm,re,rfl,ga⟩:=hZ;have T:=ga [] (by simp);have gb:qq [] w9.heap re se3:=by
  have h:=T.ed;rw[show (ZD ⟨[1,3],cn3.st,cn3.mr,se3⟩).ed=se3 from Qi3] at h;exact h
 refine Qb<|x (Ql O O)<|x (Ql O O)<|xl O<|Qt (us:=Jy) O λb8 g9 gc ge gg=>xl O<|Qp (us:=[ra,.int .i64 (ZD ⟨[1,3],cn3.st,cn3.mr,se3⟩).st,rm,re]) gg O O O O ⟨T.al.one,O,T.mr.one,T.ed.one,U⟩ λhm gh gi=>Qe ?_;have hn:Step [] w9 hm:=gc.then1 gh ge;have ho:=(hk.trans hY).trans hn;have hb:=ha.trans ho;have gj:=S.ext hb;have gk:=J.ext hb
 have gl:=hU.ext ho;have gm:=gb.ext hn;refine QU (α:=Unit) [(0,0),(33,98)] (λz=>[(0,.bool true)]) (λz w'=>Step [] hm w') (by rfl) ?_ ?_
 ·refine Qy<|Qb<|xb (Q5 O O) (λhp=>?_) (λhp=>absurd QfI hp);refine Qb<|x (Qr gk O O)<|xl O<|QC (us:=[[.int .i64 0],[.int .i64 2]]) O O (by decide) (by simp) ⟨rfl,rfl,rfl,rfl,U⟩ λgn ka go kb gp=>xl rfl<|QC (us:=[[.int .i64 1]]) rfl rfl (by decide) (by simp) ⟨rfl,rfl,U⟩ λgq kc hq ke gr =>
   x (QD ⟨O,O,O,U⟩)<|x (QD ⟨O,O,O,U⟩)<|x (QD ⟨O,O,O,U⟩)<|xl O<|QC (us:=[Qw (0,0,1),Qw (0,2,0),Qw (1,2,0)]) O O (by decide) (by exact (by decide:3*3≤1000000)) ⟨O,O,O,O,O,O,U⟩ λgs gt hc kf gu=>?_
  have hr:=(go.trans hq).trans hc;have hL:Zt [] gt.heap (.slice (some ⟨gn,0,none⟩) 2 2) (.slice (some ⟨gq,0,none⟩) 1 1) (.slice (some ⟨gs,0,none⟩) 3 3) cn3 :=
   ⟨((gp.ext hq).ext hc).arr (L:=[]) (by simp) (n:=2) (cap:=2) (sz:=1) rfl (by omega) (Nat.le_refl _),(gr.ext hc).arr (L:=[]) (by simp) (n:=1) (cap:=1) (sz:=1) rfl (by omega) (Nat.le_refl _),gu.arr (L:=[]) (by simp) (n:=3) (cap:=3) (sz:=3) rfl (by omega) (Lr _)⟩
  refine x (QD ⟨O,O,O,O,U⟩)<|xl O<|xf<|(Qgm (a:=cn3) (gj.ext hr) hL).mono ?_;rintro kg kh ⟨rfl,gv⟩;have hs:=hr.trans gv;have V:=gl.ext hs;refine x (Qm O)<|Qb<|Qb<|xb (Q5 O O) (λht=>?_) (λht=>absurd O ht);refine x (Qm O)<|Qb<|Qb<|xb (Q5 O O) (λhu=>?_) (λhu=>absurd O hu);refine x (Qm O)<|Qb<|Qb<|xb (Q5 O O) (λhv=>?_) (λhv=>absurd O hv)
  refine x (Qm O)<|Qb<|Qb<|xb (Q5 O O) (λhw=>?_) (λhw=>absurd O hw);refine x (Qm O)<|Qb<|Qb<|x (Qs V.arr O)<|xb (Q5 O O) (λhy=>?_) (λhy=>absurd O hy);refine x (Qm O)<|Qb<|Qb<|xig (g:=Z8) (i:=0) Kn V.arr O O (by simp) λki gw=>x (Qx gw rfl)<|xl rfl<|QC (us:=[[.int .i64 0]]) rfl rfl (by decide) (by simp) ⟨rfl,rfl,U⟩ λkj kk hz kn gx =>
   xl rfl<|xf<|(KR (l:=G.2) (l':=[0]) ((V.each G (by simp)).ext hz) (gx.arr (L:=[]) (by simp) (n:=1) (cap:=1) (sz:=1) rfl (by omega) (Lr _))).mono ?_
  rintro ko kp ⟨h0,gy⟩;rw[hV,decide_eq_true rfl] at h0;subst h0;have h1:=hz.trans gy;have h5:=V.ext h1;refine x (Qm O)<|Qb<|Qb<|xig (g:=Z8) (i:=1) Kn h5.arr O O (by simp) λkq gz=>x (Qx gz rfl)<|xl rfl<|QC (us:=[[.int .i64 2],[.int .i64 0]]) rfl rfl (by decide) (by simp) ⟨rfl,rfl,rfl,rfl,U⟩ λkr kt h6 ku g0 =>
   xl rfl<|xf<|(KR (l:=H.2) (l':=[2,0]) ((h5.each H (by simp)).ext h6) (g0.arr (L:=[]) (by simp) (n:=2) (cap:=2) (sz:=1) rfl (by omega) (Lr _))).mono ?_
  rintro kv kw ⟨h7,g2⟩;rw[hW,decide_eq_true rfl] at h7;subst h7;have he:=(hs.trans h1).trans (h6.trans g2);have h8:=gi.ext he;have h9:=gm.ext he;refine x (Qm O)<|Qb<|Qb<|xb (Q5 O O) (λhA=>?_) (λhA=>absurd O hA);refine x (Qm O)<|Qb<|x (Qa O)<|x (Qd h8 O O)<|x (Qs h9 O)<|xb (Q5 O O) (λhB=>?_) (λhB=>absurd O hB)
  refine x (Qm O)<|Qb<|x (Qa O)<|x (Qd h8 O O)<|xie (i:=1) h9 O O (by decide) λkx g3=>x (QI g3 O O)<|x (QD ⟨O,O,O,U⟩)<|xb (zP (p:=(0,3,1)) (q:=(0,3,1)) O O) (λhD=>?_) (λhD=>absurd O hD);refine x (Qm O)<|Qe ?_;exact ⟨(),Z,he⟩
 rintro z g ky g4;exact Qn ⟨[.bool true],Z,O,(hO.trans hb).trans g4⟩
theorem Qdw (w:World):QK prog 128 [] w λr w'=>r=.bool true∧Step [] w w':=by
 refine QK.of_W func128 O ntmps128 results128 (by simp) ?_;refine Qc<|Qe<|Qc<|xl O<|xf<|(Qc0 w).mono ?_;rintro G H ⟨rfl,E⟩;refine Qe ?_;exact Qn ⟨[.bool true],Z,O,E⟩
theorem CL.cel_rq {c:CL} {k:Zw} (h:c.cel=k) (v:Value) (qs:List IV):(CL.mk c.ve c.vc v c.vx c.vk c.ev c.co qs c.ex c.cs).cel={ k with rq:=qs.map IV.it }:=by rw[←h];rfl
theorem CL.cel_ex {c:CL} {k:Zw} (h:c.cel=k) (v:Value) (qs:List XV):(CL.mk c.ve c.vc c.vr v c.vk c.ev c.co c.rq qs c.cs).cel={ k with ex:=qs.map XV.x }:=by rw[←h];rfl
theorem CL.cel_cs {c:CL} {k:Zw} (h:c.cel=k) (v:Value) (qs:List KV):(CL.mk c.ve c.vc c.vr c.vx v c.ev c.co c.rq c.ex qs).cel={ k with cs:=qs.map KV.k }:=by rw[←h];rfl
theorem Qav {w:World}{c:CL}{k:Zw}(h:ZA [] w.heap c) (hc:c.cel=k) (he:Yx k=0) (T:Kb w 4096) :
  QK prog 27 [c.val] w λr w'=>Step [] w w'∧∃va vm ve G H I E,r=.tuple #[.agg #[va,.int .i64 (spc k).a.st,vm,ve,G,H,I,E],.int .i64 0]∧ZN [va,.int .i64 (spc k).a.st,vm,ve,G,H,I,E]∧Zp [] w'.heap E (spc k).fb.length 4 ((spc k).fb.flatMap ZB):=by
 refine (KD h T).mono ?_;rintro r w' ⟨hs,v,rfl,⟨us,V,_,J⟩,S⟩;rw[hc] at S ⊢;obtain ⟨va,vm,ve,G,H,I,E,cos,rqs,rfl,_,_,Y⟩:=S he;have ha:us=[va,.int .i64 (spc k).a.st,vm,ve,G,H,I,E]:=by
  have h9:=congrArg (λv=>match v with | Value.agg cs=>cs.toList | _=>[]) V
  simpa using h9.symm
 rw[ha] at J;exact ⟨hs,va,vm,ve,G,H,I,E,by rw[he],J,(Y [] (by simp)).2.2.2.2⟩
theorem QjR {w:World}{c:CL}{k:Zw}(h:ZA [] w.heap c) (hc:c.cel=k) (he:Yx k=0) (E:(spc k).a.st<4096) (h1:Qch k=true) (G:Kb w 4096) :
  QK prog 197 [c.val] w λr w'=>Step [] w w'∧∃xa xm xe vb,r=.tuple #[.agg #[xa,.int .i64 ((spc k).a.st+1),xm,xe],vb,.int .i64 0]∧ZN [xa,xm,xe]∧Qu 3 w.heap.size w' vb (cmB k):=by
 subst hc;exact Qad h G he E h1
abbrev Qje:LV:=[nS,.int .i64 0,nS,nS,nS,nS,nS,nS]
theorem Qj3 {P:Prop}{a b:Int}(e:a=b) (h:¬a=b):P:=absurd e h
set_option maxHeartbeats 8000000 in
theorem QaN {w:World}(hi:Kb w 4096):QK prog 127 [] w λr w'=>r=.bool true∧Step [] w w':=by
 refine QK.of_W func127 O ntmps127 results127 (by simp) ?_;refine Qc<|Qe<|Qc<|xl O<|xf<|(XW 1 (by decide) w).mono ?_;rintro r1 w1 ⟨hL,I,rfl,gy,gz⟩;refine xl rfl<|xf<|(XW 2 (by decide) w1).mono ?_;rintro r2 w2 ⟨h4,J,rfl,g0,g2⟩;refine xl rfl<|xf<|(XW 2 (by decide) w2).mono ?_;rintro r3 w3 ⟨hj,c3,rfl,g3,g4⟩;have hk:=((gz [] (by simp)).ext h4).ext hj
 have hl:=(g2 [] (by simp)).ext hj;have hn:=g4 [] (by simp);refine xl rfl<|Qt (us:=Ym) O λE w4 hM p7 hN=>xl O<|Qt (us:=Ym) O λG w5 h5 p8 hO=>xl O<|Qt (us:=Ym) O λH w6 ho p9 S=>?_;have qc:=hM.size;have qf:=h5.size;have ql:=ho.size;have qo:=hN.lt;have qr:=hO.lt;have q0:=S.lt
 refine xl rfl<|Qp (us:=I.cells) ((hN.ext h5).ext ho) O O O O hk.ones λw7 hp g5=>xl O<|Qp (us:=J.cells) ((hO.ext ho).step hp (by simp only[List.mem_singleton];omega)) O O O O hl.ones λw8 hr g6 =>
  xl rfl<|Qp (us:=c3.cells) ((S.step hp (by simp only[List.mem_singleton];omega)).step hr (by simp only[List.mem_singleton];omega)) O O O O hn.ones λw9 hs g7=>xe ?_
 have ha:Step [] w3 w9:=((((hM.trans h5).trans ho).then1 hp (by omega)).then1 hr (by omega)).then1 hs (by omega);have g8:=((hL.trans h4).trans hj).trans ha;have g9:=(g5.step hr (by simp only[List.mem_singleton];omega)).step hs (by simp only[List.mem_singleton];omega);have ka:=g6.step hs (by simp only[List.mem_singleton];omega)
 have S:∀b∈[E,G,H],w3.heap.size≤b∧b<w6.heap.size:=λb hb=>by
  simp only[List.mem_cons,List.not_mem_nil,or_false] at hb;rcases hb with rfl | rfl | rfl <;> omega
 have m1:∀b∈[E],b∈[E,G,H]:=by simp
 have m2:∀b∈[G],b∈[E,G,H]:=by simp
 have m3:∀b∈[H],b∈[E,G,H]:=by simp
 have hk:=(hk.up (L':=[E,G,H]) (λb hb=>.inr (S b hb).1)).ext ha;have hl:=(hl.up (L':=[E,G,H]) (λb hb=>.inr (S b hb).1)).ext ha;have hn:=(hn.up (L':=[E,G,H]) (λb hb=>.inr (S b hb).1)).ext ha;have q1:=ha.size;have q2:w6.heap.size≤w9.heap.size:=by have:=hp.size;have:=hr.size;have:=hs.size;omega
 have nB:∀b,w9.heap.size≤b→b∉[E,G,H]:=λb hb hm=>by have:=(S b hm).2;omega
 refine Qc<|xl O<|QC (us:=[[.int .i64 1]]) O O (by decide) (by simp) ⟨rfl,rfl,U⟩ λht q3 hP q4 kb=>xl rfl<|QC (us:=[[.int .i64 0]]) rfl rfl (by decide) (by simp) ⟨rfl,rfl,U⟩ λhu q5 h6 za kc=>x (QD ⟨rfl,rfl,rfl,U⟩) <|
  x (ZV [(0,[.string KZ]),(1,[.slice (some ⟨ht,0,none⟩) 1 1,.int .i64 1,.slice (some ⟨hu,0,none⟩) 1 1,nS])] ⟨O,O,O,O,U⟩) <|
  xl rfl<|QC (us:=[[.string KZ,.slice (some ⟨ht,0,none⟩) 1 1,.int .i64 1,.slice (some ⟨hu,0,none⟩) 1 1,nS]]) O O (by decide) (by exact (by decide:1*5≤1000000)) ⟨O,O,U⟩ λh7 ke hv zv kf=>?_
 have hc:=(hP.trans h6).trans hv;refine x (Qa O)<|xl O<|QE (j:=2) (u:=.slice (some ⟨h7,0,none⟩) 1 1) (g9.ext hc) O O (by simp) rfl λh8 he kg=>xe ?_;have z0:=hP.size;have z2:=h6.size;have z3:=hv.size;have z4:=hc.size;have hf:Step [E,G,H] w9 h8:=hc.any.trans' (he.mono m1);have z5:=he.size
 have kh:ZA [E,G,H] h8.heap (CL.mk I.ve I.vc (.slice (some ⟨h7,0,none⟩) 1 1) I.vx I.vk I.ev I.co [⟨KZ,⟨.slice (some ⟨ht,0,none⟩) 1 1,.slice (some ⟨hu,0,none⟩) 1 1,nS,yo.a⟩⟩] I.ex I.cs):=by
  have h9:=hk.st hf;refine ⟨h9.ev,h9.co,Y9.st (w:=ke) ⟨kf.arr (nB _ (by omega)) (n:=1) (cap:=1) (sz:=5) O (by decide) (Lr _),λq hq=>?_,λq hq=>?_⟩ (he.mono m1),h9.ex,h9.cs⟩
  ·rw[La.1 hq];exact ⟨((kb.ext h6).ext hv).arr (nB _ (by omega)) (n:=1) (cap:=1) (sz:=1) O (by decide) (Lr _),(kc.ext hv).arr (nB _ (by omega)) (n:=1) (cap:=1) (sz:=1) O (by decide) (Lr _),Zp.nil _ _ 3⟩
  rw[La.1 hq];exact YS (by decide)
 refine Qc<|x (QD ⟨O,O,U⟩)<|x (QD ⟨O,O,U⟩)<|xl O<|QC (us:=[QO (0,1),QO (1,1)]) O O (by decide) (by exact (by decide:2*2≤1000000)) ⟨O,O,O,O,U⟩ λhA z9 hQ hb24 ki=>x (QD ⟨O,O,U⟩) <|
  xl rfl<|QC (us:=[[.string JI,.slice (some ⟨hA,0,none⟩) 2 2]]) O O (by decide) (by exact (by decide:1*2≤1000000)) ⟨O,O,U⟩ λhB kj hC hb26 kk=>?_
 have hg:=hQ.trans hC;refine x (Qa O)<|xl O<|QE (j:=3) (u:=.slice (some ⟨hB,0,none⟩) 1 1) ((ka.step (hc.any.trans' he) (by simp only[List.mem_singleton];omega)).ext hg) O O (by simp) rfl λhD hw kn=>xe ?_;have hz14:=hQ.size;have hz15:=hC.size;have hz1315:=hg.size;have hh:Step [E,G,H] h8 hD:=hg.any.trans' (hw.mono m2);have hz16:=hh.size
 have hz913:=hf.size;have ko:ZA [E,G,H] hD.heap (CL.mk J.ve J.vc J.vr (.slice (some ⟨hB,0,none⟩) 1 1) J.vk J.ev J.co J.rq [⟨JI,.slice (some ⟨hA,0,none⟩) 2 2,[(0,1),(1,1)]⟩] J.cs):=by
  have h9:=hl.st (hf.trans' hh);refine ⟨h9.ev,h9.co,h9.rq,qy.st (w:=kj) ⟨kk.arr (nB _ (by omega)) (n:=1) (cap:=1) (sz:=2) O (by decide) (Lr _),λq hq=>?_,λq hq=>?_⟩ (hw.mono m2),h9.cs⟩
  ·rw[La.1 hq];exact (ki.ext hC).arr (nB _ (by omega)) (n:=2) (cap:=2) (sz:=2) O (by decide) (Lr _)
  rw[La.1 hq];exact YS (by decide)
 refine Qc<|x (QD ⟨O,O,U⟩)<|x (QD ⟨O,O,U⟩)<|xl O<|QC (us:=[QO (0,1),QO (1,1)]) O O (by decide) (by exact (by decide:2*2≤1000000)) ⟨O,O,O,O,U⟩ λhE w17 hR hb30 kp=>x (QD ⟨O,O,O,U⟩) <|
  xl rfl<|QC (us:=[[.string z6,.slice (some ⟨hE,0,none⟩) 2 2,.int .i64 1]]) O O (by decide) (by exact (by decide:1*3≤1000000)) ⟨O,O,U⟩ λhF kq hG hb32 kr=>?_
 have hy:=hR.trans hG;refine x (Qa O)<|xl O<|QE (j:=4) (u:=.slice (some ⟨hF,0,none⟩) 1 1) (((g7.step (hc.any.trans' he) (by simp only[List.mem_singleton];omega)).step (hg.any.trans' hw) (by simp only[List.mem_singleton];omega)).ext hy) O O (by simp) rfl λV hz kt=>xe ?_;have hz17:=hR.size;have hz18:=hG.size
 have h0:Step [E,G,H] hD V:=hy.any.trans' (hz.mono m3);have ku:ZA [E,G,H] V.heap (CL.mk c3.ve c3.vc c3.vr c3.vx (.slice (some ⟨hF,0,none⟩) 1 1) c3.ev c3.co c3.rq c3.ex [⟨z6,.slice (some ⟨hE,0,none⟩) 2 2,[(0,1),(1,1)],1⟩]):=by
  have h9:=hn.st ((hf.trans' hh).trans' h0);refine ⟨h9.ev,h9.co,h9.rq,h9.ex,qm.st (w:=kq) ⟨kr.arr (nB _ (by omega)) (n:=1) (cap:=1) (sz:=3) O (by decide) (Lr _),λq hq=>?_,λq hq=>?_⟩ (hz.mono m3)⟩
  ·rw[La.1 hq];exact (kp.ext hG).arr (nB _ (by omega)) (n:=2) (cap:=2) (sz:=2) O (by decide) (Lr _)
  rw[La.1 hq];exact YS (by decide)
 have hS:ZA [] V.heap _:=((kh.st hh).st h0).up (L':=[]) (by simp);have kv:ZA [] V.heap _:=(ko.st h0).up (L':=[]) (by simp);have kw:ZA [] V.heap _:=ku.up (L':=[]) (by simp);have hT:=(kg.step (hg.any.trans' hw) (by simp only[List.mem_singleton];omega)).step (hy.any.trans' hz) (by simp only[List.mem_singleton];omega)
 have kx:=kn.step (hy.any.trans' hz) (by simp only[List.mem_singleton];omega);have hU:Step [] w V:=g8.then ((hf.trans' hh).trans' h0) (λb hb=>.inr (by have:=(S b hb).1;have:=((hL.trans h4).trans hj).size;omega));have hV:=CL.cel_rq gy (.slice (some ⟨h7,0,none⟩) 1 1) [⟨KZ,⟨.slice (some ⟨ht,0,none⟩) 1 1,.slice (some ⟨hu,0,none⟩) 1 1,nS,yo.a⟩⟩]
 have ky:=CL.cel_ex g0 (.slice (some ⟨hB,0,none⟩) 1 1) [⟨JI,.slice (some ⟨hA,0,none⟩) 2 2,[(0,1),(1,1)]⟩];have kz:=CL.cel_cs g3 (.slice (some ⟨hF,0,none⟩) 1 1) [⟨z6,.slice (some ⟨hE,0,none⟩) 2 2,[(0,1),(1,1)],1⟩];refine Qc<|x (Qr hT O O)<|xl O<|xf<|(Qav (k:=k1C) hS hV QkL (hi.ext hU)).mono ?_;rintro r20 k0 ⟨k4,sa,sm,se,s1,s2,s3,s4,rfl,k5,hW⟩;rw[QkK] at hW
 refine Qb<|x (Ql O O)<|x (Ql O O)<|xl O<|Qt (us:=Qje) O λb4 w21 k6 k7 k8=>xl O<|Qp (us:=[sa,.int .i64 (spc k1C).a.st,sm,se,s1,s2,s3,s4]) k8 O O O O k5 λk9 ma mc=>Qe ?_;have hX:Step [] k0 k9:=k6.then1 ma k7;have h1:=k4.trans hX;have hY:=hU.trans h1
 refine Qc<|x (Qr (hT.ext h1) O O)<|xl O<|xf<|(QjR (k:=k1C) (hS.ext h1) hV QkL (by rw[Qiy];decide) Qjm (hi.ext hY)).mono ?_;rintro r23 hZ ⟨mf,xa,xm,mg,vb,rfl,hH,ga⟩;rw[Qjn] at ga;have mh:QL [] hZ.heap vb [2]:=Qu.ints (L:=[]) ga (by simp) (by simp)
 refine Qb<|x (Ql O O)<|x (Ql O O)<|x (Ql O O)<|xl O<|Qt (us:=Jy) O λb6 w24 mj mo mq=>xl O<|Qp (us:=[xa,.int .i64 ((spc k1C).a.st+1),xm,mg]) mq O O O O ⟨hH.1,O,hH.2.1,hH.2.2.1,U⟩ λms mt mu=>x Qg<|Qe ?_;have gb:Step [] hZ ms:=mj.then1 mt mo;have h2:=mf.trans gb;have hI:=h1.trans h2;have gc:=hY.trans h2
 refine Qc<|x (Qr (kx.ext hI) O O)<|xl O<|xf<|(Qav (k:=k2C) (kv.ext hI) ky QlB (hi.ext gc)).mono ?_;rintro r26 mv ⟨mw,ta,tm,te,t1,t2,t3,t4,rfl,my,ge⟩;rw[QkI] at ge;refine Qb<|x (Ql O O)<|x (Ql O O)<|xl O<|Qt (us:=Qje) O λb9 w27 mz m0 m4=>xl O<|Qp (us:=[ta,.int .i64 (spc k2C).a.st,tm,te,t1,t2,t3,t4]) m4 O O O O my λm5 m6 m7=>Qe ?_
 have gg:Step [] mv m5:=mz.then1 m6 m0;have Y:=mw.trans gg;have gh:=hI.trans Y;have gi:=gc.trans Y;refine Qc<|x (Qr (kt.ext gh) O O)<|xl O<|xf<|(Qav (k:=k3C) (kw.ext gh) kz QlA (hi.ext gi)).mono ?_;rintro r29 m8 ⟨m9,ua,um,ue,u1,u2,u3,u4,rfl,pa,gj⟩;rw[QkG] at gj
 refine Qb<|x (Ql O O)<|x (Ql O O)<|xl O<|Qt (us:=Qje) O λb11 w30 pc pd pf=>xl O<|Qp (us:=[ua,.int .i64 (spc k3C).a.st,um,ue,u1,u2,u3,u4]) pf O O O O pa λgk pg ph=>Qe ?_;have gl:Step [] m8 gk:=pc.then1 pg pd;have T:=m9.trans gl;have pj:=gi.trans T;have pm:=((mc.ext h2).ext Y).ext T;have pn:=(mu.ext Y).ext T
 have gm:=m7.ext T;have po:=((((hW.ext hX).ext h2).ext Y).ext T);have pp:=(ge.ext gg).ext T;have pt:=gj.ext gl;have pu:=((mh.ext gb).ext Y).ext T;refine QU (α:=Unit) [(0,0),(55,105)] (λz=>[(0,.bool true)]) (λz w'=>Step [] gk w') (by rfl) ?_ ?_
 ·refine Qy<|Qb<|xb (Q5 O O) (λgn=>?_) (λgn=>absurd O gn);refine Qb<|Qb<|xb (Q5 O O) (λgo=>?_) (λgo=>absurd O go);refine x (Qm O)<|Qb<|Qb<|xb (Q5 O O) (λgp=>?_) (λgp=>absurd O gp);refine x (Qm O)<|Qb<|Qb<|xb (Q5 O O) (λgq=>?_) (λgq=>absurd O gq)
  refine x (Qm O)<|Qb<|x (Qa O)<|x (Qd pm O O)<|x (QD ⟨O,O,O,O,U⟩)<|xl O<|QC (us:=[ZB ⟨1,3,0,1⟩]) O O (by decide) (by exact (by decide:1*4≤1000000)) ⟨O,O,U⟩ λb73 w32 gr hb73 pw =>
   xl rfl<|xf<|(VI (l:=[⟨1,3,0,1⟩]) (po.ext gr) (pw.arr (L:=[]) (by simp) (n:=1) (cap:=1) (sz:=4) rfl (by decide) (Lr _))).mono ?_
  rintro r74 w33 ⟨rfl,pz⟩;have hJ:=gr.trans pz;refine x (Qm O)<|Qb<|x (Qa O)<|x (Qd (pn.ext hJ) O O)<|xb (Q5 O O) (λgs=>?_) (λgs=>Qj3 (by rw[Qiy];rfl) gs);refine x (Qm O)<|Qb<|Qb<|xl O<|QC (us:=[[.int .i64 2]]) O O (by decide) (by simp) ⟨rfl,rfl,U⟩ λb83 w34 gt hb83 p0 =>
   xl rfl<|xf<|(J7 (l:=[2]) (l':=[2]) ((pu.ext hJ).ext gt) (p0.arr (L:=[]) (by simp) (n:=1) (cap:=1) (sz:=1) rfl (by omega) (Lr _))).mono ?_
  rintro r84 w35 ⟨gu,p1⟩;rw[decide_eq_true rfl] at gu;subst gu;have h3:=hJ.trans (gt.trans p1);refine x (Qm O)<|Qb<|x (Qa O)<|x (Qa O)<|x (Qd (gm.ext h3) O O)<|xb (Q5 O O) (λgv=>?_) (λgv=>Qj3 QkH gv)
  refine x (Qm O)<|Qb<|x (Qa O)<|x (Qd (gm.ext h3) O O)<|x (QD ⟨O,O,O,O,U⟩)<|xl O<|QC (us:=[ZB ⟨3,1,0,-1⟩]) O O (by decide) (by exact (by decide:1*4≤1000000)) ⟨O,O,U⟩ λb96 w36 gw hb96 p2 =>
   xl rfl<|xf<|(VI (l:=[⟨3,1,0,-1⟩]) ((pp.ext h3).ext gw) (p2.arr (L:=[]) (by simp) (n:=1) (cap:=1) (sz:=4) rfl (by decide) (Lr _))).mono ?_
  rintro r97 w37 ⟨rfl,p3⟩;have hK:=h3.trans (gw.trans p3);refine x (Qm O)<|Qb<|x (Qa O)<|x (Qd (ph.ext hK) O O)<|x (QD ⟨O,O,O,O,U⟩)<|xl O<|QC (us:=[ZB ⟨3,2,0,-1⟩]) O O (by decide) (by exact (by decide:1*4≤1000000)) ⟨O,O,U⟩ λb103 w38 gx hb103 p4 =>
   xl rfl<|xf<|(VI (l:=[⟨3,2,0,-1⟩]) ((pt.ext hK).ext gx) (p4.arr (L:=[]) (by simp) (n:=1) (cap:=1) (sz:=4) rfl (by decide) (Lr _))).mono ?_
  rintro r104 w39 ⟨rfl,p5⟩;refine x (Qm O)<|Qe ?_;exact ⟨(),Z,hK.trans (gx.trans p5)⟩
 rintro z g w40 p6;exact Qn ⟨[.bool true],Z,O,pj.trans p6⟩
end Go.Proofs.YtdffckgdcegpaaaGreatDoor
namespace Go.Proofs
open Go.Proofs.Tryz
open Go.Shelf
def Tryz.sortRm_ren:Go.Shelf.Ren:=⟨λ| 6=>215 | 15=>176 | 14=>266 | 28=>229 | 29=>230 | 20=>288 | 21=>289 | 22=>290 | 23=>291 | 24=>292 | 25=>293 | 26=>294 | 27=>295 | 46=>313 | 47=>268 | 48=>269 | 49=>314 | 50=>315 | 57=>322 | n=>n,λ| 22=>166 | 24=>320 | 25=>326 | 3=>3 | 39=>269 | 0=>0 | 53=>338 | 55=>340 | 4=>4 | 46=>332 | 45=>331 | 50=>178 | 5=>5 | 9=>9 | 66=>372 | 70=>376 | 76=>401 | 77=>381 | n=>n,λ| n=>n⟩
theorem Tryz.sortRm:Go.Proofs.SlLaysF0.n6 prog Tryz.sortRm_ren:={
 mixed:=by kernel_rfl
 f6:=⟨Tryz.f215.name,by decide,func215.trans (congrArg some (by kernel_rfl))⟩
 f14:=⟨Tryz.f266.name,by decide,func266.trans (congrArg some (by kernel_rfl))⟩
 f15:=func176.trans (congrArg some (by kernel_rfl))
 f20:=⟨Tryz.f288.name,by decide,func288.trans (congrArg some (by kernel_rfl))⟩
 f21:=⟨Tryz.f289.name,by decide,func289.trans (congrArg some (by kernel_rfl))⟩
 f22:=⟨Tryz.f290.name,by decide,func290.trans (congrArg some (by kernel_rfl))⟩
 f23:=⟨Tryz.f291.name,by decide,func291.trans (congrArg some (by kernel_rfl))⟩
 f24:=⟨Tryz.f292.name,by decide,func292.trans (congrArg some (by kernel_rfl))⟩
 f25:=⟨Tryz.f293.name,by decide,func293.trans (congrArg some (by kernel_rfl))⟩
 f26:=⟨Tryz.f294.name,by decide,func294.trans (congrArg some (by kernel_rfl))⟩
 f27:=⟨Tryz.f295.name,by decide,func295.trans (congrArg some (by kernel_rfl))⟩
 f28:=func229.trans (congrArg some (by kernel_rfl))
 f29:=func230.trans (congrArg some (by kernel_rfl))
 f46:=⟨Tryz.f313.name,by decide,func313.trans (congrArg some (by kernel_rfl))⟩
 f47:=func268.trans (congrArg some (by kernel_rfl))
 f48:=func269.trans (congrArg some (by kernel_rfl))
 f49:=⟨Tryz.f314.name,by decide,func314.trans (congrArg some (by kernel_rfl))⟩
 f50:=⟨Tryz.f315.name,by decide,func315.trans (congrArg some (by kernel_rfl))⟩
 f57:=⟨Tryz.f322.name,by decide,func322.trans (congrArg some (by kernel_rfl))⟩
 t0:=underlying0
 a0:=Tryz.isAgg0
 z0:=Tryz.sizeOf0
 v0:=Tryz.zeroValue0
 t3:=underlying3
 a3:=Tryz.isAgg3
 z3:=Tryz.sizeOf3
 v3:=Tryz.zeroValue3
 t4:=underlying4
 a4:=Tryz.isAgg4
 z4:=Tryz.sizeOf4
 v4:=Tryz.zeroValue4
 t5:=underlying5
 a5:=Tryz.isAgg5
 z5:=Tryz.sizeOf5
 v5:=Tryz.zeroValue5
 t9:=underlying9
 a9:=Tryz.isAgg9
 z9:=Tryz.sizeOf9
 v9:=Tryz.zeroValue9
 t22:=underlying166
 a22:=Tryz.isAgg166
 z22:=Tryz.sizeOf166
 v22:=Tryz.zeroValue166
 t25:=underlying326
 a25:=Tryz.isAgg326
 z25:=Tryz.sizeOf326
 v25:=Tryz.zeroValue326
 t39:=underlying269
 a39:=Tryz.isAgg269
 z39:=Tryz.sizeOf269
 v39:=Tryz.zeroValue269
 t45:=underlying331
 a45:=Tryz.isAgg331
 z45:=Tryz.sizeOf331
 v45:=Tryz.zeroValue331
 t46:=underlying332
 a46:=Tryz.isAgg332
 z46:=Tryz.sizeOf332
 v46:=Tryz.zeroValue332
 t50:=underlying178
 a50:=Tryz.isAgg178
 z50:=Tryz.sizeOf178
 v50:=Tryz.zeroValue178
 t53:=underlying338
 a53:=Tryz.isAgg338
 z53:=Tryz.sizeOf338
 v53:=Tryz.zeroValue338
 t55:=underlying340
 a55:=Tryz.isAgg340
 z55:=Tryz.sizeOf340
 v55:=Tryz.zeroValue340
 t66:=underlying372
 a66:=Tryz.isAgg372
 z66:=Tryz.sizeOf372
 v66:=Tryz.zeroValue372
 t70:=underlying376
 a70:=Tryz.isAgg376
 z70:=Tryz.sizeOf376
 v70:=Tryz.zeroValue376
 t76:=underlying401
 a76:=Tryz.isAgg401
 z76:=Tryz.sizeOf401
 v76:=Tryz.zeroValue401
 t77:=underlying381
 a77:=Tryz.isAgg381
 z77:=Tryz.sizeOf381
 v77:=Tryz.zeroValue381 }
end Go.Proofs
namespace Go.Proofs.YtdffckgdcegpaaaGreatDoor
open Go.Lg
theorem QjI (lf:Lf) (x:Int) (z:LI×LI) (y:Int):dsE lf x z y=if lft lf y=true then bwE x z y else z:=by
 unfold dsE bwE;by_cases h:lft lf y=true <;> by_cases h2:cget z.1 y.toNat<0 <;> simp[h,h2]
structure DsI (n:Nat) (z:LI×LI):Prop where
 ok:Qgy n z.1 z.2
 cnt:neg z.1+z.2.length=n
 s0:Qj5 z.1 z.2
theorem DsI.le {n:Nat}{z:LI×LI}(h:DsI n z):z.2.length≤n:=by have:=h.cnt;omega
theorem QfR {n:Nat}{lf:Lf}{x y:Int}{z:LI×LI}(h:DsI n z) (hx:0≤x∧x<(n:Int)) (E:0≤cget z.1 x.toNat) (hy:0≤y∧y<(n:Int)) :
  DsI n (dsE lf x z y)∧0≤cget (dsE lf x z y).1 x.toNat:=by
 rw[QjI];split
 ·obtain ⟨h1,h2,h3⟩:=QjX h.ok hx E hy;exact ⟨⟨h1,by have:=h.cnt;omega,Qgb h.ok E hy h.s0⟩,h3⟩
 exact ⟨h,E⟩
theorem QhX (lf:Lf) (x:Int) (z:LI×LI) (y:Int):∃r,(dsE lf x z y).2=z.2++r:=by
 unfold dsE;split
 ·exact ⟨[y],O⟩
 exact ⟨[],by simp⟩
theorem QhW {n:Nat}{lf:Lf}{x:Int}(hx:0≤x∧x<(n:Int)):∀(l:LI) (z:LI×LI),DsI n z→0≤cget z.1 x.toNat→(∀y∈l,0≤y∧y<(n:Int)) →
  DsI n (l.foldl (dsE lf x) z)∧∃r,(l.foldl (dsE lf x) z).2=z.2++r
 | [],z,h,_,_=>⟨h,[],by simp⟩
 | y::l,z,h,E,hl=>by
  obtain ⟨h1,h2⟩:=QfR (lf:=lf) h hx E (hl y Ln);obtain ⟨h3,r2,G⟩:=QhW hx l _ h1 h2 (λy hy=>hl y (Ll _ hy));obtain ⟨H,h5⟩:=QhX lf x z y;exact ⟨h3,H++r2,by rw[LJ,G,h5,Lz]⟩
theorem QfQ {E:List Ed}{lf:Lf}{f i:Nat}{z:LI×LI}(h:¬i<z.2.length):dsL E lf f i z=z:=by
 cases f with
 | zero=>rfl
 | succ f=>rw[dsL,if_neg h]
theorem Qco {n:Nat}{l:LI}{x:Int}(E:0≤x):(V9 n l).set x.toNat 0=V9 n (l++[x]):=by
 apply L4
 ·simp[V9]
 intro i h2 h3;rw[Ni];by_cases e:x.toNat=i
 ·have:(i:Int)=x:=by omega
  rw[if_pos e];simp[V9,this]
 have:(i:Int)≠x:=by omega
 rw[if_neg e];simp[V9,this]
theorem jM {a:QQ}{lf:Lf}(hm:∀x∈a.mr,0≤x) (k:Nat):(a.mr.take k).foldl (yJ lf) (List.replicate a.st.toNat (-1),[])=(V9 a.st.toNat ((a.mr.take k).filter (lft lf)),(a.mr.take k).filter (lft lf)):=by
 induction k with
 | zero =>
  simp only[List.take_zero,List.foldl_nil,List.filter_nil];congr 1;apply L4
  ·simp[V9]
  intro i h1 h2;simp[V9]
 | succ k ih =>
  by_cases hk:k<a.mr.length
  ·rw[Le hk,Mk,ih,L0];simp only[List.foldl_cons,List.foldl_nil,yJ];by_cases hl:lft lf (a.mr[k]'hk)=true
   ·rw[if_pos hl,Qco (hm _ (Li hk))];simp[hl]
   rw[if_neg hl];simp[hl]
  have e:a.mr.take (k+1)=a.mr.take k:=by rw[Lm (by omega),Lm (by omega)]
  rw[e];exact ih
theorem QjK {a:QQ}{lf:Lf}(hm:∀x∈a.mr,0≤x):ds0 a lf=(V9 a.st.toNat (a.mr.filter (lft lf)),a.mr.filter (lft lf)):=by
 have:=jM (lf:=lf) hm a.mr.length;rw[MU] at this;exact this
theorem Qhh {n:Nat}(l:LI) (E:l.Nodup) (hb:∀x∈l,0≤x∧x<(n:Int)):neg (V9 n l)+l.length=n:=by
 have key:∀k,k≤l.length→neg (V9 n (l.take k))+k=n:=by
  intro k;induction k with
  | zero =>
   intro _;have e:V9 n (l.take 0)=List.replicate n (-1):=by
    apply L4
    ·simp[V9]
    intro i h1 h2;simp[V9]
   rw[e];unfold neg;simp
  | succ k ih =>
   intro hk;have h1:=ih (by omega);have hx:=hb _ (Li (show k<l.length by omega));rw[Le (show k<l.length by omega),←Qco hx.1];have G:(l[k]'(by omega)).toNat<(V9 n (l.take k)).length:=by rw[Vl];omega
   have S:=K0 (V9 n (l.take k)) (l[k]'(by omega)).toNat 0 G (by
    have e:(((l[k]'(by omega)).toNat:Nat):Int)=l[k]'(by omega):=by omega
    have H:(l[k]'(by omega))∉l.take k:=λh=>by
     obtain ⟨j,I,he⟩:=LE h;rw[M0] at he;have J:j<k:=by simp at I;omega
     have:=(Mw.1 E) j k (by omega) (by omega) J;exact this he
    simp[V9,e,H]) (Nc _)
   omega
 have:=key l.length (Lr _)
 rwa [MU] at this
theorem QjJ {a:QQ}{lf:Lf}{n:Nat}(E:Q8 a) (G:a.st=(n:Int)):DsI n (ds0 a lf):=by
 have hb:∀x∈a.mr.filter (lft lf),0≤x∧x<(n:Int):=λx hx=>by rw[←G];exact E.mr x (LS.1 hx).1
 have e:a.st.toNat=n:=by omega
 rw[QjK (λx hx=>(E.mr x hx).1),e];refine ⟨QjY hb,Qhh _ ((E.mri.imp (λh=>by omega)).filter _) hb,λx hx=>?_⟩;rw[Qid (hb x hx) hx];exact Nc _
def Kt (l:Lf):Nat:=l.countP (· == true)
theorem Qh3 (l:Lf):Kt l≤l.length:=List.countP_le_length
theorem Qcc (l:Lf) (s:Int):(cut l s).length=l.length:=by simp[cut]
theorem U6:∀(xs:LI) (l:Lf),(xs.foldl cut l).length=l.length
 | [],_=>rfl
 | x::xs,l=>by rw[LJ,U6 xs,Qcc]
theorem Qcd:∀(l:Lf) (i:Nat),Kt (l.set i false)+(if l.getD i false=true then 1 else 0)=Kt l
 | [],i=>by simp[Kt]
 | b::l,0=>by cases b <;> simp[Kt]
 | b::l,i+1=>by
  have ih:=Qcd l i;unfold Kt at *;simp only[List.set_cons_succ,List.countP_cons,List.getD_cons_succ];omega
theorem Qce (l:Lf) (s:Int):Kt (cut l s)+(if lft l s=true then 1 else 0)=Kt l:=Qcd l s.toNat
theorem jO:∀(xs:LI) (l:Lf),Kt (xs.foldl cut l)≤Kt l
 | [],_=>Lr _
 | x::xs,l=>by
  have h1:=jO xs (cut l x);have h2:=Qce l x;rw[LJ];omega
theorem QfU {xs:LI}{l:Lf}(h:0<xs.length) (E:∀x∈xs,lft l x=true):Kt (xs.foldl cut l)<Kt l:=by
 cases xs with
 | nil=>simp at h
 | cons x xs =>
  have h1:=jO xs (cut l x);have h2:=Qce l x;rw[if_pos (E x Ln)] at h2;rw[LJ];omega
def Qgs (a:QQ) (lf:Lf) (out:List (Int×Int)):Prop:=∀p∈out,lft lf p.1=true∧∃e∈a.ed,e.1=p.1∧e.2.1=p.2
theorem Qhn {a:QQ}{ul:LI}{lf:Lf}{out:List (Int×Int)}{e:Ed}(h:Qgs a lf out) (he:e∈a.ed):Qgs a lf (JL ul lf out e)∧(JL ul lf out e).length≤out.length+1:=by
 unfold JL;split
 ·exact ⟨h,by omega⟩
 rename_i hc;split
 ·exact ⟨h,by omega⟩
 refine ⟨λp hp=>?_,by simp⟩;simp only[List.mem_append,List.mem_singleton] at hp;rcases hp with hp | rfl
 ·exact h p hp
 exact ⟨by cases hl:lft lf e.1 with | true=>rfl | false=>exact absurd (.inl hl) hc,e,he,rfl,rfl⟩
theorem UN {a:QQ}{ul:LI}{lf:Lf}:∀(l:List Ed) (out:List (Int×Int)),(∀e∈l,e∈a.ed)→Qgs a lf out→Qgs a lf (l.foldl (JL ul lf) out)∧(l.foldl (JL ul lf) out).length≤out.length+l.length
 | [],out,_,h=>⟨h,by simp⟩
 | e::l,out,hl,h=>by
  obtain ⟨h1,h2⟩:=Qhn (ul:=ul) h (hl e Ln);obtain ⟨h3,E⟩:=UN l _ (λe he=>hl e (Ll _ he)) h1;exact ⟨h3,by rw[LJ,LG];omega⟩
theorem yf (a:QQ) (ul:LI) (lf:Lf):Qgs a lf (lost a ul lf)∧(lost a ul lf).length≤a.ed.length:=by
 have:=UN (ul:=ul) (lf:=lf) a.ed [] (λ_ h=>h) (λp hp=>by cases hp);unfold lost;simpa using this
theorem Vm (lf:Lf):∀(l:LI) (i:Nat),(∀x∈Kz lf i l,lft lf x=true∧(i:Int)≤x∧x<(i:Int)+l.length)∧(Kz lf i l).length≤l.length
 | [],i=>⟨λx hx=>(by cases hx),Lr _⟩
 | d::l,i=>by
  obtain ⟨h1,h2⟩:=Vm lf l (i+1);unfold Kz;split
  ·rename_i hc;refine ⟨λx hx=>?_,by simp;omega⟩;rcases Lb.1 hx with rfl | hx
   ·exact ⟨by unfold lft;simpa using hc.1,Nc _,by simp;omega⟩
   have:=h1 x hx;exact ⟨this.1,by omega,by simp only[List.length_cons];omega⟩
  refine ⟨λx hx=>?_,by simp;omega⟩;have:=h1 x hx;exact ⟨this.1,by omega,by simp only[List.length_cons];omega⟩
theorem QeK {a:QQ}{ul:LI}{lf:Lf}(x:Int) (hx:x∈nxs a ul lf):lft lf x=true:=by
 unfold nxs at hx;split at hx
 ·obtain ⟨p,hp,rfl⟩:=Lx.1 hx;exact ((yf a ul lf).1 p hp).1
 exact ((Vm lf (dsts a lf) 0).1 x hx).1
theorem QcK {a:QQ}{ul:LI}{f:Nat}{lf:Lf}(h:(nxs a ul lf).length=0):qE a ul f lf=lf:=by
 cases f with
 | zero=>rfl
 | succ f=>rw[qE,if_pos h]
theorem QcJ {a:QQ}{ul:LI}{f:Nat}{lf:Lf}(h:(nxs a ul lf).length≠0):qE a ul (f+1) lf=qE a ul f ((nxs a ul lf).foldl cut lf):=by rw[qE,if_neg h]
theorem QeL {a:QQ}{ul:LI}{lf:Lf}(h:(nxs a ul lf).length≠0):Kt ((nxs a ul lf).foldl cut lf)<Kt lf:=QfU (by omega) (λx hx=>QeK x hx)
theorem Vx {a:QQ}(h:Q8 a) (lf:Lf):Q8 (rstr a lf) :=
 ⟨h.al,h.ali,h.st0,h.st1,h.mr,h.mri,λe he=>h.ed e (LS.1 he).1,h.edi.filter _⟩
def fst (a:QQ):Int:=if a.st=0 then -1 else 0
def Qi0 (s:Option (Int×Int×Int)):Int×Int×Int:=s.getD (0,0,0)
def cdA (c:Zw):QQ:=zD (tgA c) [] (unc c.ev)
def ccA (c:Zw):QQ:=syA [tgA c,cdA c]
def own (c:Zw) (k:Bool):QQ:=if k=true then ccA c else tgA c
end Go.Proofs.YtdffckgdcegpaaaGreatDoor
namespace Go.Lg
section
variable {P:Program} {K:Fr→World→Prop} {f:Fr} {w:World} {d:Option Nat} {ty:Nat} {ps:String} {af:Array Edge} {gd:Option (Nat×Bool)}
theorem UI {t:Nat}[h1:XS P t] {x y:Operand}{b T i:Nat}{l:List Bool}{u:Bool}(E:QZ w.heap b T (l.map Value.bool)) (hx:ev f x=.pointer (some ⟨b,0+i*1,none⟩)) (hy:ev f y=.bool u) (hi:i<l.length)
  (G:∀w',Step [b] w w'→QZ w'.heap b T ((l.set i u).map Value.bool)→K (QV f d undef) w'):XO P ⟨d,.store t x y,ty,ps,af,gd⟩ f w K:=by
 refine QE E hx hy (by simpa using hi) rfl λw' hs H=>G w' hs ?_;rw[List.map_set];simpa using H
theorem XJ {t:Nat}[XS P t] {x:Operand}{b T i:Nat}{l:List Bool}(h:QZ w.heap b T (l.map Value.bool)) (hx:ev f x=.pointer (some ⟨b,0+i*1,none⟩)) (hi:i<l.length) :
  (execOp (ev f) ⟨d,.load t x,ty,ps,af,gd⟩).run P w=.ok (.value (.bool (l[i]'hi))) w:=Qd h hx (by simp[hi])
variable {ops:List Oper} {C:World→Prop} {pl:List (Nat×Bool)} {i:Nat}
theorem pqB {b:Bool}(E:∀w',C w'→(execOp (ev f) (Q4 ops i)).run P w'=.ok (.value (.bool b)) w') (H:b=true→XP P ops C K pl (QV f (Q4 ops i).dst (.bool true)) w) (I:b=false→XP P ops C K pl (QV f (Q4 ops i).dst (.bool false)) w)
  (hd:qw (Q4 ops i)=true:=by rfl) (G:Yh ops f (Q4 ops i)=true:=by rfl):XP P ops C K ((i,true)::pl) f w:=by
 cases hb:b with
 | true=>rw[hb] at E;exact pq E (H hb) hd G
 | false=>rw[hb] at E;exact pq E (I hb) hd G
end
end Go.Lg
namespace Go.Proofs.YtdffckgdcegpaaaGreatDoor
open Go.Proofs.Tryz
open Go.Lg
def bA (n:Nat) (g:Nat→Bool):List Bool:=(List.range n).map g
theorem Qj1 (n:Nat) (g:Nat→Bool):(bA n g).length=n:=by simp[bA]
theorem Qj0 {n i:Nat}{g E:Nat→Bool}{u:Bool}(hu:u=E i) (h:∀j,j<n→j≠i→E j=g j):(bA n g).set i u=bA n E:=by
 apply L4
 ·simp[bA]
 intro k h1 h2;rw[Ni];have hk:k<n:=by simpa[bA] using h2
 by_cases e:i=k
 ·rw[if_pos e,hu,e];simp[bA]
 rw[if_neg e];have:=h k hk (λG=>e G.symm);simp[bA,this]
theorem Qcp (n:Nat):(List.replicate n (Value.bool false).cells.toList).flatten=(bA n (λi=>decide (i<0))).map Value.bool:=by
 apply L4
 ·simp[Value.cells,bA]
 intro i h1 h2;simp[Value.cells,bA]
theorem VF {l:Lf}{s:Int}(h:s.toNat<l.length):l[s.toNat]'h=lft l s:=by unfold lft;simp[List.getD,h]
theorem Qhr (n:Nat) (fb:LI):(lf0 n fb).length=n:=by unfold lf0;rw[U6];simp
instance:Bw prog 324 [nS,.int .i64 0,nS,nS,nS,.map none,nS] [(0,4),(4,1),(5,1),(6,1)]:=⟨by kernel_rfl,by decide⟩
structure Pz where
 va:Value
 vm:Value
 ve:Value
 a:QQ
 vu:Value
 unc:LI
 mb:Nat
 mm:List (Int×Value)
 bl:Nat
 n:Nat
 rv:Nat→Value
abbrev Pz.cells (p:Pz):LV:=[p.va,.int .i64 p.a.st,p.vm,p.ve,p.vu,.map (some p.mb),.slice (some ⟨p.bl,0,none⟩) p.n p.n]
structure yL (L:LN) (H:Array Obj) (bp:Nat) (p:Pz):Prop where
 B:QZ H bp 324 p.cells
 bL:bp∉L
 a:Zt L H p.va p.vm p.ve p.a
 u:QL L H p.vu p.unc
 M:Z4 Kr H p.mb p.mm
 mL:p.mb∉L
 g:∀s,s<p.n→(match mget p.mm ((s:Nat):Int) with | some u=>u | none=>nS)=p.rv s
 R:∀s,s<p.n→QL L H (p.rv s) (Yo p.a.ed s)
theorem yL.ext {L:LN}{w w':World}{bp:Nat}{p:Pz}(h:yL L w.heap bp p) (hs:Step [] w w'):yL L w'.heap bp p:=⟨h.B.ext hs,h.bL,h.a.ext hs,h.u.ext hs,h.M.ext hs,h.mL,h.g,λs E=>(h.R s E).ext hs⟩
theorem yL.st {L:LN}{w w':World}{bp:Nat}{p:Pz}(h:yL L w.heap bp p) (hs:Step L w w'):yL L w'.heap bp p:=⟨h.B.step hs h.bL,h.bL,h.a.st hs,h.u.st hs,h.M.step hs h.mL,h.mL,h.g,λs E=>(h.R s E).st hs⟩
theorem yL.up {L L':LN}{H:Array Obj}{bp:Nat}{p:Pz}(h:yL L H bp p) (E:∀b∈L',b∈L∨H.size≤b):yL L' H bp p :=
 ⟨h.B,λhm=>by rcases E _ hm with h1 | h1;exact h.bL h1;have:=h.B.lt;omega,h.a.up E,h.u.up E,h.M,λhm=>by rcases E _ hm with h1 | h1;exact h.mL h1;have:=h.M.lt;omega,h.g,λs G=>(h.R s G).up E⟩
structure PzQ (p:Pz):Prop where
 ok:Q8 p.a
 n:p.a.st=(p.n:Int)
set_option maxHeartbeats 4000000 in
theorem Qd1 {w:World}{va vm ve vr vu:Value}{a:QQ}{rm unc:LI}{n:Nat}(h:Zt [] w.heap va vm ve a) (hA:Q8 a) (hn:a.st=(n:Int)) (hr:QL [] w.heap vr rm) (go:∀x∈rm,0≤x∧x<a.st) (hu:QL [] w.heap vu unc) :
  QK prog 213 [.agg #[va,.int .i64 a.st,vm,ve],vr,vu] w λr w'=>Step [] w w'∧∃bp p,r=.pointer (some ⟨bp,0,none⟩)∧p.a=a∧p.unc=unc∧p.n=n∧w.heap.size≤p.bl∧yL [p.bl] w'.heap bp p∧QZ w'.heap p.bl 4 ((lf0 n rm).map Value.bool):=by
 have kp:=hA.st1;have gp:=hA.ed;have kq:=hA.ed_le;have kr:=hr.le;refine QK.of_W func213 O ntmps213 results213 (by simp) ?_;refine Qc<|xl O<|QS (us:=[va,.int .i64 a.st,vm,ve]) O λb3 G Y kt hy=>Qe ?_;have ku:=hy.lt;have kv:=Y.size
 refine QU (α:=Nat×Nat×Nat) [(7,7),(13,20)] (λz=>[(7,.pointer (some ⟨z.1,0,none⟩))]) (λz w'=>Step [] G w'∧QZ w'.heap z.1 324 [va,.int .i64 a.st,vm,ve,vu,.map (some z.2.1),.slice (some ⟨z.2.2,0,none⟩) n n] ∧
  Z4 Kr w'.heap z.2.1 []∧QZ w'.heap z.2.2 4 ((bA n (λi=>decide (i<0))).map Value.bool)∧G.heap.size≤z.1∧G.heap.size≤z.2.1∧G.heap.size≤z.2.2∧z.1≠z.2.1∧z.1≠z.2.2∧z.2.1≠z.2.2) (by rfl) ?_ ?_
 ·have ha:Step [] G { G with drawn:=G.drawn+1 }:=Step.drew _ _
  refine Qij (Step [] G) [(0,true),(1,true),(3,true),(4,true)] 2 5 [(5,false),(6,true),(7,false),(8,true)] [(2,false),(6,true),(7,false),(8,true)] mixed (by rfl) (by kernel_rfl) (Step.drew _ _) ?_;refine pq (λ_ hc=>Qr (hy.ext hc) O O)<|p (λ_=>Qo)<|p (λ_=>Qa O)<|pq (λ_ hc=>Qd (hy.ext hc) O O)<|pe ⟨⟨O,?_⟩,O,?_⟩
  ·refine Yq Kr λbm w2 I hC hR=>⟨ha.trans I,?_⟩;refine pk<|VC (n:=n) (congrArg (Value.int .i64) hn) (congrArg (Value.int .i64) hn) (by omega) λbl w3 J hD hB=>⟨(ha.trans I).trans J,?_⟩;rw[Qcp] at hB;refine p (λ_=>ZV [(0,[va,.int .i64 a.st,vm,ve]),(1,[vu]),(2,[.map (some bm)]),(3,[.slice (some ⟨bl,0,none⟩) n n])] ⟨O,O,hu.cells,O,O,O,O,O,U⟩)<|pk <|
    QS (us:=[va,.int .i64 a.st,vm,ve,vu,.map (some bm),.slice (some ⟨bl,0,none⟩) n n]) O λbp w4 E hE S=>⟨((ha.trans I).trans J).trans E,?_⟩
   refine p (λ_=>Qg)<|pe ?_;have gq:=hR.lt;have gr:=hB.lt;have gs:=I.size;have gt:=J.size;have gu:({ G with drawn:=G.drawn+1 }:World).heap.size=G.heap.size:=rfl
   exact ⟨(bp,bm,bl),Z,((ha.trans I).trans J).trans E,S,(hR.ext J).ext E,hB.ext E,by simp only[];omega,by simp only[];omega,by simp only[];omega,by simp only[];omega,by simp only[];omega,by simp only[];omega⟩
  refine VC (n:=n) (congrArg (Value.int .i64) hn) (congrArg (Value.int .i64) hn) (by omega) λbl w2 I hD hB=>⟨ha.trans I,?_⟩;rw[Qcp] at hB;refine pk<|Yq Kr λbm w3 J hC hS=>⟨(ha.trans I).trans J,?_⟩;refine p (λ_=>ZV [(0,[va,.int .i64 a.st,vm,ve]),(1,[vu]),(2,[.map (some bm)]),(3,[.slice (some ⟨bl,0,none⟩) n n])] ⟨O,O,hu.cells,O,O,O,O,O,U⟩)<|pk <|
   QS (us:=[va,.int .i64 a.st,vm,ve,vu,.map (some bm),.slice (some ⟨bl,0,none⟩) n n]) O λbp w4 E hE S=>⟨((ha.trans I).trans J).trans E,?_⟩
  refine p (λ_=>Qg)<|pe ?_;have gq:=hS.lt;have gr:=hB.lt;have gs:=I.size;have gt:=J.size;have gu:({ G with drawn:=G.drawn+1 }:World).heap.size=G.heap.size:=rfl
  exact ⟨(bp,bm,bl),Z,((ha.trans I).trans J).trans E,S,hS.ext E,(hB.ext J).ext E,by simp only[];omega,by simp only[];omega,by simp only[];omega,by simp only[];omega,by simp only[];omega,by simp only[];omega⟩
 rintro ⟨bp,bm,bl⟩ g w4 ⟨E,S,hz,h0,hE,hC,hD,hT,hU,hF⟩;simp only[] at S hz h0 hE hC hD hT hU hF;have kw:=S.lt;have kx:=hz.lt;have ky:=h0.lt;have hG:=Y.trans E;have kz:=E.size;have hq:bp∉[bl]:=by simpa using hU
 have hH:bm∉[bl]:=by simpa using hF
 have h4:=h.ext hG;have k0:=hr.ext hG;refine Qf<|Qc<|Qb<|x (QF O)<|x (Qa O)<|x (Qd S O O)<|x (Qs (L:=[]) (h0.arr (by simp) (n:=n) (cap:=n) (sz:=1) (by simp[bA]) (by omega) (Lr _)) rfl)<|Qb<|xe ?_
 refine Qh<|QB (α:=Nat) [(8,8),(26,35)] (λz=>[(26,.int .i64 z)]) (λz w'=>z≤n∧Step [bl] w4 w'∧QZ w'.heap bl 4 ((bA n (λi=>decide (i<z))).map Value.bool)) (λz=>n - z) (by rfl) 0 Z ⟨Lk _,Step.refl _ _,h0⟩ ?_;rintro k g w5 ⟨hk,hh,hI⟩;refine Qc<|x (QA O O)<|xe<|Qf<|QG O (λhJ=>?_) (λhJ=>?_)
 ·refine Qz ?_;have k4:k=n:=by have gv:¬(k:Int)<(n:Int):=hJ;omega
  have gw:bA n (λi=>decide (i<k))=(rm.take 0).foldl cut (List.replicate n true):=by
   apply L4
   ·simp[bA]
   intro i h1 h2;have:i<n:=by simpa[bA] using h1
   simp[bA];omega
  rw[gw] at hI;have k5:∀b∈[bl],b<G.heap.size→b∈([]:LN):=λb hb V=>by simp only[List.mem_singleton] at hb;omega
  have hV:QL [bl] G.heap vr rm:=(hr.ext Y).up (λb hb=>.inr (by simp only[List.mem_singleton] at hb;omega));have k6:QL [bl] G.heap vu unc:=(hu.ext Y).up (λb hb=>.inr (by simp only[List.mem_singleton] at hb;omega));have gx:Zt [bl] G.heap va vm ve a:=(h.ext Y).up (λb hb=>.inr (by simp only[List.mem_singleton] at hb;omega));have hW:=S.step hh hq;have k7:=hz.step hh hH
  refine Qf<|Qc<|Qb<|x (Qs ((hV.ext E).st hh) O)<|Qb<|xe<|Qh<|QB (α:=Nat) [(10,10),(38,48)] (λz=>[(38,.int .i64 z)]) (λz w'=>z≤rm.length∧Step [bl] w4 w'∧QZ w'.heap bl 4 (((rm.take z).foldl cut (List.replicate n true)).map Value.bool)) (λz=>rm.length - z) (by rfl) 0 Z ⟨Lk _,hh,hI⟩ ?_;rintro j g w6 ⟨hj,H,hf⟩;refine Qc<|x (QA O O)<|xe ?_
  refine Qf<|QG O (λhK=>?_) (λhK=>?_)
  ·refine Qz ?_;have gy:rm.length≤j:=by have h3:¬(j:Int)<(rm.length:Int):=hK;omega
   rw[Lm gy] at hf;have hX:=S.step H hq;have gz:=hz.step H hH;have k8:=hf.lt;refine Qf<|Qc<|x (Qa O)<|x (Qd ((hy.ext E).step H (by simp only[List.mem_singleton];omega)) O O)<|x (Qs ((gx.ext E).st H).ed O)<|Qb<|xe ?_;have k9:=H.size
   refine Qh<|QB (α:=Nat×(Nat→Value)×List (Int×Value)) [(12,12),(52,73)] (λz=>[(52,.int .i64 z.1)]) (λz w'=>z.1≤a.ed.length∧Step [bm] w6 w'∧Z4 Kr w'.heap bm z.2.2∧Ki w6.heap.size w' n z.2.1 (Yo (a.ed.take z.1))∧∀s,s<n→(match mget z.2.2 ((s:Nat):Int) with | some u=>u | none=>nS)=z.2.1 s) (λz=>a.ed.length - z.1) (by rfl) (0,λ_=>nS,[]) ⟨rfl,U⟩
    ⟨Lk _,Step.refl _ _,gz,⟨λi _=>QN _ _ _ _,λi j _ _ _=>Dj.nil _⟩,λs _=>O⟩ ?_
   rintro ⟨i,rv,m⟩ g w7 ⟨hi,T,hL,hg,h5⟩;simp only[] at hi hL hg h5;have ma:=T.size;have hY:bp∉[bm]:=by simpa using hT
   have g0:bl∉[bm]:=by simpa using Ne.symm hF
   refine Qc<|x (QA O O)<|xe<|Qf<|QG O (λhM=>?_) (λhM=>?_)
   ·refine Qz ?_;have g2:a.ed.length≤i:=by have h6:¬(i:Int)<(a.ed.length:Int):=hM;omega
    rw[Lm g2] at hg;refine Qc<|Qb<|Qe ?_;have mc:∀b,b<w4.heap.size→b<w6.heap.size:=λb hb=>by omega
    refine Qn ⟨[_],Z,(hG.then1 H (by omega)).then1 T (by omega),bp,⟨va,vm,ve,a,vu,unc,bm,m,bl,n,rv⟩,O,O,O,O,by simp only[];omega,⟨hX.step T hY,hq,?_,?_,hL,hH,h5,λs hs=>QT (hg.own s hs) (LR (VG a.ed s) (by omega)) (λb hb hm=>?_)⟩,hf.step T g0⟩
    ·have h9:Zt [bl,bm] w7.heap va vm ve a:=((((h.ext Y).up (L':=[bl,bm]) (λb hb=>.inr (by simp only[List.mem_cons,List.not_mem_nil,or_false] at hb;omega))).ext E).st (H.mono (by simp))).st (T.mono (by simp));exact h9.up (by simp)
    ·have h9:QL [bl,bm] w7.heap vu unc:=((((hu.ext Y).up (L':=[bl,bm]) (λb hb=>.inr (by simp only[List.mem_cons,List.not_mem_nil,or_false] at hb;omega))).ext E).st (H.mono (by simp))).st (T.mono (by simp));exact h9.up (by simp)
    have:=(Qk (hg.own s hs) b hb).1;simp only[List.mem_singleton] at hm;omega
   refine Qi ?_;have V:i<a.ed.length:=by have h6:(i:Int)<(a.ed.length:Int):=hM;omega
   have ht:a.ed.take (i+1)=a.ed.take i++[a.ed[i]'V]:=Le V;have hZ:=gp _ (Li V);refine Zd (a.ed[i]'V) λe he=>?_;rw[he] at ht hZ;have ga:e.2.2=(e.2.2.toNat:Int):=by omega
   have hv:e.2.2.toNat<n:=by omega
   have g3:=VG (a.ed.take i) e.2.2.toNat;rw[Lv] at g3;have hN:=QaR (a.ed.take i) e hZ.2.2.2.1;have g4:qq [bl,bm] w7.heap ve a.ed:=((((h.ed.ext Y).up (L':=[bl,bm]) (λb hb=>.inr (by simp only[List.mem_cons,List.not_mem_nil,or_false] at hb;omega))).ext E).st (H.mono (by simp))).st (T.mono (by simp));refine Qf<|Qh<|Qc<|xie g4 O O V λmf h6=>?_;rw[he] at h6
   refine x (QI h6 O O)<|xl O<|Qt (us:=[.int .i64 0,.int .i64 0,.int .i64 0]) O λg5 w8 g6 g7 g8=>xl O<|Qp (us:=Qw e) g8 O O O O ⟨O,O,O,U⟩ λw9 g9 hO=>xe ?_;have hw:Step [] w7 w9:=g6.then1 g9 g7;have mg:=hw.size;have gb:=hg.ext hw;have ka:=gb.own _ hv
   have h7:∀b∈ob (rv e.2.2.toNat),w6.heap.size≤b∧b<w7.heap.size:=λb hb=>⟨(Qk (hg.own _ hv) b hb).1,QR (hg.own _ hv) b hb⟩;have gc:bp∉ob (rv e.2.2.toNat):=λhb=>by have:=h7 _ hb;omega
   have ge:bm∉ob (rv e.2.2.toNat):=λhb=>by have:=h7 _ hb;omega
   have hP:g5∉ob (rv e.2.2.toNat):=λhb=>by have:=h7 _ hb;omega
   have gg:=((hX.step T hY).ext hw);have gh:=hL.ext hw;have gi:=h5 e.2.2.toNat hv;rw[←ga] at gi;refine QW (Step (ob (rv e.2.2.toNat)) w9) [(0,true),(1,true),(2,true),(3,true),(4,true),(5,true),(6,true),(7,true),(8,true),(9,true),(10,true),(11,true),(12,true),(13,true),(14,true),(15,false),(16,false),(17,false)] mixed (by rfl) (by kernel_rfl) (Step.drew _ _) ?_
   refine p (λ_=>Qo)<|p (λ_=>QF O)<|p (λ_=>Qa O)<|pq (λ_ hc=>Qd (gg.step hc gc) O O) <|
    p (λ_=>Qa O)<|pq (λ_ hc=>Qd (hO.step hc hP) O O)<|p (λ_=>Qo)<|p (λ_=>QF O)<|p (λ_=>Qa O) <|
    pq (λ_ hc=>Qd (gg.step hc gc) O O)<|p (λ_=>Qa O)<|pq (λ_ hc=>Qd (hO.step hc hP) O O) <|
    pq (λ_ hc=>(X0 (k:=e.2.2) (gh.step hc ge) O O).trans (congrArg (λv=>Result.ok (Next.value v) _) gi))<|p (λ_=>Qa O)<|pq (λ_ hc=>Qd (hO.step hc hP) O O) <|
    pk<|QC (us:=[[.int .i64 e.1]]) O O (by decide) (by simp) ⟨rfl,rfl,U⟩ λmh kb gj mj kc=>⟨(Step.drew _ _).trans gj,?_⟩
   have ho:Step [] w9 kb:=(Step.drew _ _).trans gj;have mo:=ho.size;refine pk<|Q2 (m:=1) (news:=[.int .i64 e.1]) (Qq ka ho) O O O (kc.at (L:=[]) (by simp)) (by simp[Value.oneCell']) (by omega) (by omega) λhQ mq ke h8 kf=>⟨ho.any.trans' h8,?_⟩;have kg:=(gh.ext ho).step h8 ge;refine pkl (hl:=by kernel_rfl)<|Xn (k:=e.2.2) kg O O λms gk kh=>pe ?_
   have ki:∀b∈ob hQ,b∈ob (rv e.2.2.toNat)∨w9.heap.size≤b:=λb hb=>(kf b hb).imp id (λh=>by omega);have gl:=gb.app hv (Qu.snoc ke) (ho.any.trans' h8) ki;have gm:=gl.step gk (λi hi b hb=>by have:=(Qk (gl.own i hi) b hb).1;simp only[List.mem_singleton];omega)
   have kj:Km (Yo (a.ed.take i)) e.2.2.toNat (Yo (a.ed.take i) e.2.2.toNat++[e.1])=Yo (a.ed.take (i+1)):=by rw[ht];exact funext hN
   rw[kj] at gm;refine Qy<|QP O O<|Qb<|xe<|⟨(i+1,Km rv e.2.2.toNat hQ,mput m e.2.2 hQ),by simp only[];omega,Z,V,?_,kh,gm,λs hs=>?_⟩
   ·exact (((T.trans hw).trans ho).then h8 (λb hb=>.inr (h7 b hb).1)).trans' gk
   simp only[];rw[X8];by_cases gn:s=e.2.2.toNat
   ·subst gn;rw[if_pos ga,ZT]
   rw[if_neg (by omega),Yj _ _ gn];exact h5 s hs
  refine Qi ?_;have hp:j<rm.length:=by have h3:(j:Int)<(rm.length:Int):=hK;omega
  have kk:=go _ (Li hp);have ht:rm.take (j+1)=rm.take j++[rm[j]'hp]:=Le hp;refine Zd (rm[j]'hp) λs hs=>?_;rw[hs] at kk ht;have hN:s=(s.toNat:Int):=by omega
  have mt:((rm.take j).foldl cut (List.replicate n true)).length=n:=by rw[U6];simp
  refine Qf<|Qh<|Qc<|xii (i:=j) ((hV.ext E).st H) O O hp λmu h3=>?_;rw[hs] at h3;refine x (Qx h3 O)<|Qe<|Qy<|Qb<|x (QF O)<|x (Qa O)<|x (Qd (S.step H hq) O O)<|Qb<|x (Zh (i:=s.toNat) O (congrArg (Value.int .i64) hN) (by omega)) <|
   xl rfl<|UI (i:=s.toNat) hf O O (by omega) λw7 T kn=>xe ?_
  refine Qy<|QP O O<|Qb<|xe<|⟨j+1,by omega,Z,hp,H.trans' T,?_⟩;rw[ht,Mk];exact kn
 refine Qi ?_;have V:k<n:=by have gv:(k:Int)<(n:Int):=hJ;omega
 have hW:=S.step hh hq;refine Qf<|Qh<|Qc<|Qb<|Qe<|Qy<|Qb<|x (QF O)<|x (Qa O)<|x (Qd hW O O)<|Qb<|x (Zh (i:=k) O O (by omega)) <|
  xl rfl<|UI (i:=k) hI O O (by rw[Qj1];exact V) λw6 H hf=>xe ?_
 have ko:(bA n (λi=>decide (i<k))).set k true=bA n (λi=>decide (i<k+1)):=Qj0 (by simp) (λi _ hi=>by
  by_cases e:i<k
  ·simp[e];omega
  simp[e];omega)
 rw[ko] at hf;refine Qy<|QP O O<|Qb<|xe ?_;exact ⟨k+1,by omega,Z,V,hh.trans' H,hf⟩
end Go.Proofs.YtdffckgdcegpaaaGreatDoor
