/- Merged out of 43 texts. -/
import Derived.Test.YtdffckgdcegpaaaGreatDoorKqc
import Derived.Shelf.SlSortCmp.NoneTotal
import Derived.Tactics
import Derived.Sort.Grow
import Derived.Deep.Draws
import Derived.Sort.Statements
import Derived.Shelf.Lay
import Derived.Tactics2
import Derived.Laws.IdiomStrings
import Derived.Shelf.SortM.Plain
import Derived.Shelf.SortM.SortNone
import Derived.Shelf.SlicesE.Compact
import Derived.Shelf.SlicesE.DeleteFunc
import Derived.Ground.SlgmProg
import Derived.Ground.SlgnProg
import Derived.Ground.SlgfProg
namespace Go.Proofs.YtdffckgdcegpaaaGreatDoor
open Go.Proofs.Tryz
open Go.Lg
theorem Qiu {L:LN}{w:World}{v:Value}{S:Nat}{c:Zw}{E:LN}{g:Nat}{fn:Func}[Fu prog g fn] {cap:LV}{q:Nat→Bool}(h:Zo L w.heap v E.length 3 (E.flatMap (jk S c)))
  (hk:∀(m:Nat) (H:World),Step [] w H→QJ prog g ([.agg (jk S c m).toArray]++cap) H λr w'=>r=.bool (q m)∧Step [] H w') :
  QJ prog 62 [v,.func (.func g) #[] cap.toArray] w λr w'=>Step [] w w'∧∃i:Int,r=.int .i64 i∧((i=-1∧∀m∈E,q m=false)∨∃k:Nat,∃m,E[k]?=some m∧i=(k:Int)∧q m=true):=by
 have hf:=h.le;refine QJ.of_W func62 O ntmps62 results62 (by simp) ?_;refine Qc<|Qe<|Qf<|Qc<|Qb<|x (Qq h O)<|Qb<|xe<|Qg<|Qy (α:=Nat) [(4,5),(8,18)] (λz=>[(8,.int .i64 z)]) (λz w'=>z≤E.length∧Step [] w w'∧∀m∈E.take z,q m=false) (λz=>E.length - z) (by rfl) 0 Z ⟨Lk _,Step.refl _ _,λm hm=>by simp at hm⟩ ?_;rintro k g' H ⟨hg,I,T⟩;refine Qc<|x (QA O O)<|xe ?_
 refine Qf<|QE O (λh9=>?_) (λh9=>?_)
 ·refine Qw ?_;have he:E.length≤k:=by have J:¬(k:Int)<(E.length:Int):=h9;omega
  rw[Lm he] at T;refine Qc<|Qe ?_;exact Qn ⟨[.int .i64 (-1)],Z,I,-1,O,.inl ⟨O,T⟩⟩
 have G:k<E.length:=by have J:(k:Int)<(E.length:Int):=h9;omega
 have V:E.take (k+1)=E.take k++[E[k]'G]:=Le G;have Y:E[k]?=some (E[k]'G):=Lt G;refine Qi<|Qf<|Qg<|Qc<|Qb<|Qe<|Qc<|Qb<|Qb<|Qb<|xig (g:=jk S c) (i:=k) (UH S c) (h.ext I) O O G λhh ha=>?_;refine Zb (E[k]'G) λm hm=>?_;rw[hm] at ha V Y;refine x (QI ha O O)<|xl O<|xc (first:=[]) (capt:=cap) O<|(hk m H I).mono ?_
 rintro r2 w2 ⟨rfl,hb⟩;refine xe<|Q2 rfl (λJ=>?_) (λJ=>?_)
 ·refine Qc<|Qb<|Qe ?_;exact Qn ⟨[.int .i64 k],Z,I.trans hb,k,O,.inr ⟨k,m,Y,O,J⟩⟩
 refine Qi<|Qx<|QN O O<|Qb<|xe<|⟨k+1,by omega,Z,G,I.trans hb,λm' hc=>?_⟩;rw[V] at hc;rcases Lj.1 hc with h1 | h1
 ·exact T m' h1
 simp only[List.mem_singleton] at h1;subst h1;exact J
theorem Qi4 {w:World}{E G m:Nat}{c:Zw}{q:MV}(I:Q3 w.heap G 39 (Zi q)) :
  QJ prog 63 [.agg (jk E c m).toArray,.pointer (some ⟨G,0,none⟩)] w λr w'=>r=.bool (decide ((m:Int)+1=q.kd))∧Step [] w w':=by
 refine QJ.of_W func63 O ntmps63 results63 (by simp) ?_;refine Qc<|xl O<|QT (us:=jk E c m) O λS T H V J=>Qe<|Qc<|x (Qa O)<|x (Qd J O O)<|x (Qa O)<|x (Qd (I.ext H) O O)<|x (Q8 O O)<|Qe ?_;exact Qn ⟨[_],Z,O,H⟩
set_option maxHeartbeats 4000000 in
theorem QdF {L:LN}{w:World}{c:CL}{q:MV}(h0:Zx L w.heap c) (hG:QL L w.heap q.v q.co) :
  QJ prog 17 [c.val,.agg #[.int .i64 q.kd,.int .i64 q.ix,q.v]] w λr w'=>r=.int .i64 (mdE c.cel q.m)∧Step [] w w':=by
 have h:=h0.up (L':=[]) (by simp);have hm:=hG.up (L':=[]) (by simp);have G:mdE c.cel q.m=if Zc c.cel≠0 then Zc c.cel else if q.kd<1∨3<q.kd then 11 else if q.ix<0∨((srK c.cel q.kd).length:Int)≤q.ix then 10 else if q.co=setK ((srK c.cel q.kd).getD q.ix.toNat 0) 8 then 0 else 13:=rfl
 refine Zb (mdE c.cel q.m) λE hE=>?_;rw[hE] at G ⊢;refine QJ.of_W func17 O ntmps17 results17 (by simp) ?_;refine Qc<|xl O<|QT (us:=c.cells) O λb2 w1 hH gg hy=>xl O<|QT (us:=Zi q) O λb3 w2 hf gh hI=>Qe ?_;have h1:=hH.trans hf;refine Qf<|Qc<|x (Qs (hy.ext hf) O O)<|xl O<|xf<|(YF (h.ext h1)).mono ?_;rintro r3 w3 ⟨rfl,hg⟩;refine Qe ?_;have hh:=h1.trans hg
 have hJ:=(hy.ext hf).ext hg;have hK:=hI.ext hg;refine Qc<|Qb<|x (Q9 O O)<|xe<|Q7 rfl (λha=>?_) (λha=>?_)
 ·rw[if_pos ha] at G;subst G;refine Qc<|Qb<|Qe ?_;exact Qn ⟨[_],Z,O,hh⟩
 rw[if_neg ha] at G;have hj:Kl c.cel:=(ZO (Lu.1 ha)).sr;refine Qi<|Qc<|x (Qs hJ O O)<|xl O<|xf<|(Kv (h.ext hh)).mono ?_;rintro r4 w4 ⟨h2,H,bs,hS⟩;have hL:=hS.r;subst hL;refine Qe ?_;have hM:=hh.trans h2;have h3:=hK.ext h2
 have hA:Zo [] w4.heap (.slice (some ⟨bs,0,none⟩) 3 3) [0,1,2].length 3 ([0,1,2].flatMap (jk H c.cel)):=hS.B.arr (by simp) (n:=3) (cap:=3) (sz:=3) (by rfl) (by omega) (Lr _);refine Qc<|Qb<|x (Zq (l:=[]) (l':=[_]))<|xl O<|xf<|(Qiu (q:=λm=>decide ((m:Int)+1=q.kd)) (cap:=[.pointer (some ⟨b3,0,none⟩)]) hA (λm w5 I=>Qi4 (h3.ext I))).mono ?_;rintro r5 w5 ⟨I,i,rfl,hi⟩;refine Qe ?_
 have h4:=hM.trans I;have hl:=h3.ext I;have h5:=hA.ext I;have hN:Q3 w5.heap H 47 c.cells:=hS.B1.ext I;refine Qf<|Qg<|Qc<|Qb<|x (QA O O)<|Qe<|Q7 O (λhn=>?_) (λhn=>?_)
 ·have ho:q.kd<1∨3<q.kd:=by
   rcases hi with ⟨_,hi⟩ | ⟨k,m,_,hi,_⟩
   ·have e0:=of_decide_eq_false (hi 0 (by simp));have e1:=of_decide_eq_false (hi 1 (by simp));have e2:=of_decide_eq_false (hi 2 (by simp));omega
   have gi:i<0:=hn;omega
  rw[if_pos ho] at G;subst G;refine Qc<|Qe ?_;exact Qn ⟨[_],Z,O,h4⟩
 obtain ⟨m,J,hO,ho⟩:∃m:Nat,m<3∧i=(m:Int)∧q.kd=(m:Int)+1:=by
  rcases hi with ⟨hi,_⟩ | ⟨k,m,hk,hi,hq⟩
  ·exact absurd (by rw[hi];decide:i<0) hn
  have gj:=of_decide_eq_true hq;obtain ⟨hP,hk⟩:=LX.1 hk;have hQ:k<3:=hP;have gk:m=k:=by rcases k with _ | _ | _ | k <;> first | exact hk.symm | omega
  exact ⟨k,hQ,hi,by omega⟩
 subst hO;rw[if_neg (by omega),show srK c.cel q.kd=Xb c.cel m by rw[ho]] at G;have gl:=KU hj J;have h6:([0,1,2]:LN)[m]'J=m:=by rcases m with _ | _ | _ | m <;> first | rfl | omega
 refine QW (α:=Bool) [(21,34)] (λz=>[(21,.bool z)]) (λz w'=>Step [] w5 w'∧z=decide (q.ix<0∨((Xb c.cel m).length:Int)≤q.ix)) (by rfl) ?_ ?_
 ·refine QS (Step [] w5) [(0,true),(1,true),(2,true),(3,true),(4,true),(5,true),(6,true),(7,true),(8,true),(9,true),(10,true),(11,true),(12,true),(13,true)] mixed (by rfl) (by kernel_rfl) (Step.drew _ _) ?_;refine p (λ_=>Qa O)<|pq (λ_ hc=>Qd (hl.ext hc) O O)<|pb (λ_=>QA O O) (λhp=>?_) (λhp=>?_)
  ·refine p (λ_=>Ql)<|ps<|ps<|ps<|ps<|ps<|ps<|ps<|ps<|p (λ_=>Qo O)<|p (λ_=>Qh)<|pe ?_;have ht:q.ix<0:=hp;exact ⟨true,Z,Step.drew _ _,by rw[decide_eq_true (.inl ht)]⟩
  refine p (λ_=>Ql)<|p (λ_=>Qa O)<|pq (λ_ hc=>Qd (hl.ext hc) O O)<|p (λ_=>Ql)<|p (λ_=>Ql) <|
   Go.Lg.pig (g:=jk H c.cel) (i:=m) O (UH H c.cel) h5 O O J λgm h7=>?_
  rw[h6] at h7;refine p (λ_=>Q4 O)<|pq (λ_ hc=>Qu ((h7.fld 1 (.int .i64 (Xb c.cel m).length) O).st hc) O)<|p (λ_=>ZU O O) <|
   p (λ_=>Qo O)<|p (λ_=>Qh)<|pe ?_
  have ht:¬q.ix<0:=hp;refine ⟨decide (((Xb c.cel m).length:Int)≤q.ix),Z,Step.drew _ _,?_⟩;rw[decide_eq_decide];exact ⟨.inr,λh=>h.resolve_left ht⟩
 rintro z g T ⟨hb,hz⟩;have V:=h4.trans hb;refine Q2 rfl (λhu=>?_) (λhu=>?_)
 ·rw[if_pos (of_decide_eq_true (hz.symm.trans hu))] at G;subst G;refine Qc<|Qe ?_;exact Qn ⟨[_],Z,O,V⟩
 have hR:=of_decide_eq_false (hz.symm.trans hu);rw[if_neg hR] at G;have hT:q.ix=(q.ix.toNat:Int):=by omega
 have S:q.ix.toNat<(Xb c.cel m).length:=by omega
 have hU:(Xb c.cel m).getD q.ix.toNat 0=(Xb c.cel m)[q.ix.toNat]'S:=by simp[List.getD,S]
 have h8:=JM hj J _ (Lh S);rw[hU] at G;have h9:=hl.ext hb;have hV:=h5.ext hb;have hv:Step [] T { T with drawn:=T.drawn+1 }:=Step.drew _ _
 have gn:=V.trans hv;have hW:∀{w':World},Step [] T w'→QJ prog (gK m) [.int .i64 q.ix,.pointer (some ⟨H,0,none⟩)] w' λr hX=>r=.int .u16 ((Xb c.cel m)[q.ix.toNat]'S:Nat)∧Step [] w' hX:=by
  intro w' hs;have:=QaS ((hN.ext hb).ext hs) ((h.ext V).ext hs) hj J S;rw[←hT] at this;exact this
 refine Qf<|QS (Step [] T) [(0,true),(1,true),(2,true),(3,true),(4,true),(5,true),(6,true),(7,true),(8,true),(9,false),(10,false),(11,false),(12,true),(13,true)] mixed (by rfl) (by kernel_rfl) (Step.drew _ _) ?_;refine p (λ_=>Qa O)<|pq (λ_ hc=>Qd (h9.ext hc) O O)<|p (λ_=>Ql)<|p (λ_=>Ql)<|Go.Lg.pig (g:=jk H c.cel) (i:=m) O (UH H c.cel) hV O O J λgo hB=>?_;rw[h6] at hB
 refine p (λ_=>Q4 O)<|pq (λ_ hc=>Qu ((hB.fld 2 (.func (.func (gK m)) #[] #[.pointer (some ⟨H,0,none⟩)]) O).st hc) O)<|p (λ_=>Qa O)<|pq (λ_ hc=>Qd (h9.ext hc) O O) <|
  pk<|xcG (first:=[]) (capt:=[.pointer (some ⟨H,0,none⟩)]) (Qf6 m) O<|(hW hv).mono ?_
 rintro r7 w7 ⟨rfl,hY⟩;refine Zb ((Xb c.cel m)[q.ix.toNat]'S) λbv hZ=>?_;rw[hZ] at G h8 ⊢;have hC:=hv.trans hY;refine ⟨hC,?_⟩;refine pk<|xf<|(yL bv h8 w7).mono ?_;rintro r8 w8 ⟨ga,gb⟩;have he:=hC.trans ga;refine ⟨he,?_⟩;have gp:=YV bv 8;refine pk<|xf<|(Kh (hm.ext (V.trans he)) (Qt.ints (L:=[]) gb (by omega) (by simp))).mono ?_;rintro r9 w9 ⟨rfl,hD⟩
 refine ⟨he.trans hD,?_⟩;refine p (λ_=>Zm O)<|p (λ_=>Qh)<|pe ?_;have hF:=(V.trans he).trans hD;refine Q2 rfl (λhw=>?_) (λhw=>?_)
 ·have gc:¬q.co=setK bv 8:=by
   intro e;have Y:(!decide (q.co=setK bv 8))=true:=hw;rw[decide_eq_true e] at Y;cases Y
  rw[if_neg gc] at G;subst G;refine Qc<|Qe ?_;exact Qn ⟨[_],Z,O,hF⟩
 have ge:q.co=setK bv 8:=by
  refine Decidable.byContradiction λe=>?_;have Y:(!decide (q.co=setK bv 8))=false:=hw;rw[decide_eq_false e] at Y;cases Y
 rw[if_pos ge] at G;subst G;refine Qi<|Qc<|Qe ?_;exact Qn ⟨[_],Z,O,hF⟩
end Go.Proofs.YtdffckgdcegpaaaGreatDoor
namespace Go.Lg
section
variable {P:Program} {f:Fr} {w:World} {d:Option Nat} {ty:Nat} {ps:String} {af:Array Edge} {gd:Option (Nat×Bool)}
abbrev i2 (p:Int×Int):LV:=[.int .i64 p.1,.int .i64 p.2]
abbrev i5 (a:ByteArray) (b c e:Bool) (i:Int):LV:=[.string a,.bool b,.bool c,.bool e,.int .i64 i]
end
end Go.Lg
namespace Go.Proofs.YtdffckgdcegpaaaGreatDoor
open Go.Lg
theorem QfD {α β:Type}{f:α→β}{l l':List α}(h:l.map f=l'.map f) (k:Nat) (h1:k<l.length) (h2:k<l'.length):f (l[k]'h1)=f (l'[k]'h2):=by
 have e:(l.map f)[k]?=(l'.map f)[k]?:=by rw[h]
 rw[Mj,Mj,Lt h1,Lt h2] at e;exact Option.some.inj e
theorem QfC {α β:Type}{f:α→β}{l l':List α}(h:l.map f=l'.map f):l.length=l'.length:=by
 have e:=congrArg List.length h
 rwa [Lb,Lb] at e
end Go.Proofs.YtdffckgdcegpaaaGreatDoor
namespace Go.Proofs
open Go.Proofs.Tryz
open Go.Shelf
def Tryz.sortEd_ren:Go.Shelf.Ren:=⟨λ| 6=>245 | 15=>176 | 14=>277 | 28=>229 | 29=>230 | 20=>298 | 21=>299 | 22=>300 | 23=>301 | 24=>302 | 25=>303 | 26=>304 | 27=>305 | 46=>316 | 47=>268 | 48=>269 | 49=>317 | 50=>318 | 57=>323 | n=>n,λ| 22=>56 | 24=>144 | 25=>356 | 3=>3 | 39=>269 | 0=>0 | 53=>338 | 55=>340 | 4=>4 | 46=>332 | 45=>331 | 50=>178 | 5=>5 | 9=>9 | 66=>372 | 70=>376 | 76=>401 | 77=>381 | n=>n,λ| n=>n⟩
theorem Tryz.sortEd:Go.Proofs.SlLaysF0.n6 prog Tryz.sortEd_ren:={
 mixed:=by kernel_rfl
 f6:=⟨Tryz.f245.name,by decide,func245.trans (congrArg some (by kernel_rfl))⟩
 f14:=⟨Tryz.f277.name,by decide,func277.trans (congrArg some (by kernel_rfl))⟩
 f15:=func176.trans (congrArg some (by kernel_rfl))
 f20:=⟨Tryz.f298.name,by decide,func298.trans (congrArg some (by kernel_rfl))⟩
 f21:=⟨Tryz.f299.name,by decide,func299.trans (congrArg some (by kernel_rfl))⟩
 f22:=⟨Tryz.f300.name,by decide,func300.trans (congrArg some (by kernel_rfl))⟩
 f23:=⟨Tryz.f301.name,by decide,func301.trans (congrArg some (by kernel_rfl))⟩
 f24:=⟨Tryz.f302.name,by decide,func302.trans (congrArg some (by kernel_rfl))⟩
 f25:=⟨Tryz.f303.name,by decide,func303.trans (congrArg some (by kernel_rfl))⟩
 f26:=⟨Tryz.f304.name,by decide,func304.trans (congrArg some (by kernel_rfl))⟩
 f27:=⟨Tryz.f305.name,by decide,func305.trans (congrArg some (by kernel_rfl))⟩
 f28:=func229.trans (congrArg some (by kernel_rfl))
 f29:=func230.trans (congrArg some (by kernel_rfl))
 f46:=⟨Tryz.f316.name,by decide,func316.trans (congrArg some (by kernel_rfl))⟩
 f47:=func268.trans (congrArg some (by kernel_rfl))
 f48:=func269.trans (congrArg some (by kernel_rfl))
 f49:=⟨Tryz.f317.name,by decide,func317.trans (congrArg some (by kernel_rfl))⟩
 f50:=⟨Tryz.f318.name,by decide,func318.trans (congrArg some (by kernel_rfl))⟩
 f57:=⟨Tryz.f323.name,by decide,func323.trans (congrArg some (by kernel_rfl))⟩
 t0:=underlying0
 a0:=Tryz.isAgg0
 z0:=Tryz.sizeOf0
 v0:=Tryz.zeroValue0
 t3:=underlying3
 a3:=Tryz.isAgg3
 z3:=Tryz.sizeOf3
 v3:=Tryz.zeroValue3
 t4:=underlying4
 a4:=Tryz.isAgg4
 z4:=Tryz.sizeOf4
 v4:=Tryz.zeroValue4
 t5:=underlying5
 a5:=Tryz.isAgg5
 z5:=Tryz.sizeOf5
 v5:=Tryz.zeroValue5
 t9:=underlying9
 a9:=Tryz.isAgg9
 z9:=Tryz.sizeOf9
 v9:=Tryz.zeroValue9
 t22:=underlying56
 a22:=Tryz.isAgg56
 z22:=Tryz.sizeOf56
 v22:=Tryz.zeroValue56
 t25:=underlying356
 a25:=Tryz.isAgg356
 z25:=Tryz.sizeOf356
 v25:=Tryz.zeroValue356
 t39:=underlying269
 a39:=Tryz.isAgg269
 z39:=Tryz.sizeOf269
 v39:=Tryz.zeroValue269
 t45:=underlying331
 a45:=Tryz.isAgg331
 z45:=Tryz.sizeOf331
 v45:=Tryz.zeroValue331
 t46:=underlying332
 a46:=Tryz.isAgg332
 z46:=Tryz.sizeOf332
 v46:=Tryz.zeroValue332
 t50:=underlying178
 a50:=Tryz.isAgg178
 z50:=Tryz.sizeOf178
 v50:=Tryz.zeroValue178
 t53:=underlying338
 a53:=Tryz.isAgg338
 z53:=Tryz.sizeOf338
 v53:=Tryz.zeroValue338
 t55:=underlying340
 a55:=Tryz.isAgg340
 z55:=Tryz.sizeOf340
 v55:=Tryz.zeroValue340
 t66:=underlying372
 a66:=Tryz.isAgg372
 z66:=Tryz.sizeOf372
 v66:=Tryz.zeroValue372
 t70:=underlying376
 a70:=Tryz.isAgg376
 z70:=Tryz.sizeOf376
 v70:=Tryz.zeroValue376
 t76:=underlying401
 a76:=Tryz.isAgg401
 z76:=Tryz.sizeOf401
 v76:=Tryz.zeroValue401
 t77:=underlying381
 a77:=Tryz.isAgg381
 z77:=Tryz.sizeOf381
 v77:=Tryz.zeroValue381 }
end Go.Proofs
namespace Go.Proofs.YtdffckgdcegpaaaGreatDoor
open Go.Proofs.Tryz
open Go.Lg Go.Sort
abbrev Ez:={ x:Ed // (0≤x.1∧x.1<1099511627776)∧0≤x.2.1∧x.2.1<1099511627776 }
instance:Inhabited Ez:=⟨⟨(0,0,0),by decide⟩⟩
abbrev Ui (x:Ez):LV:=[.int .i64 x.1.1,.int .i64 x.1.2.1,.int .i64 x.1.2.2]
abbrev EzO (base:Nat) (w:World) (v:Value) (l:List Ez):Prop:=w.ownsRow base 144 3 v l.length (l.flatMap Ui)
def ecf (x y:Ez):Int:=if x.1.1=y.1.1 then x.1.2.1 - y.1.2.1 else x.1.1 - y.1.1
set_option maxHeartbeats 1000000 in
theorem Ql3 (x y:Ez) (W:World):Calls prog 308 #[.agg (Ui x).toArray,.agg (Ui y).toArray] W λe w'=>e=.returned (.int .i64 (ecf x y))∧∃q os',w'=grow (W.drewN q) os':=by
 have E:IntKind.i64.wrap (x.1.1 - y.1.1)=x.1.1 - y.1.1:=Ye ⟨by have:=x.2;have:=y.2;omega,by have:=x.2;have:=y.2;omega⟩;have G:IntKind.i64.wrap (x.1.2.1 - y.1.2.1)=x.1.2.1 - y.1.2.1:=Ye ⟨by have:=x.2;have:=y.2;omega,by have:=x.2;have:=y.2;omega⟩
 go_enter func308,ntmps308
 go_wp2
 ·go_ret;rename_i h;exact ⟨by rw[ecf,if_neg (by simpa using h)];rfl,0,_,by rw[alloc_eq_grow,alloc_eq_grow,grow_grow];rfl⟩
 go_ret;rename_i h;exact ⟨by rw[ecf,if_pos (by simpa using h)];rfl,0,_,by rw[alloc_eq_grow,alloc_eq_grow,grow_grow];rfl⟩
set_option maxHeartbeats 1000000 in
theorem Ql4 (x y:Ez) (W:World):Calls prog 246 #[.agg (Ui x).toArray,.agg (Ui y).toArray] W λe w'=>e=.returned (.int .i64 (ecf x y))∧∃q os',w'=grow (W.drewN q) os':=by
 have E:IntKind.i64.wrap (x.1.1 - y.1.1)=x.1.1 - y.1.1:=Ye ⟨by have:=x.2;have:=y.2;omega,by have:=x.2;have:=y.2;omega⟩;have G:IntKind.i64.wrap (x.1.2.1 - y.1.2.1)=x.1.2.1 - y.1.2.1:=Ye ⟨by have:=x.2;have:=y.2;omega,by have:=x.2;have:=y.2;omega⟩
 go_enter func246,ntmps246
 go_wp2
 ·go_ret;rename_i h;exact ⟨by rw[ecf,if_neg (by simpa using h)];rfl,0,_,by rw[alloc_eq_grow,alloc_eq_grow,grow_grow];rfl⟩
 go_ret;rename_i h;exact ⟨by rw[ecf,if_pos (by simpa using h)];rfl,0,_,by rw[alloc_eq_grow,alloc_eq_grow,grow_grow];rfl⟩
theorem yZ (x:Ez):(Ui x).length=3:=rfl
theorem Qbq:∀l:List Ez,(l.flatMap Ui).length=l.length*3
 | []=>rfl
 | x::l=>by rw[LB,Li,Qbq l,yZ,LM];omega
theorem QcJ {l:List Ez}{j:Nat}(G:j<l.length*3):(l.flatMap Ui)[j]?=some ((flatK Ui 3 l.toArray)[j]!):=by
 have h1:j / 3<l.length:=Nat.div_lt_of_lt_mul (by omega);have h2:j % 3<3:=Nat.mod_lt _ (by decide);rw[get_flatK _ _ _ _ (by simpa using G)];have h3:=XN Ui 3 yZ l (j / 3) h1;have H:(l.flatMap Ui)[j]?=(Ui (l[j / 3]'h1))[j % 3]?:=by
  rw[←h3,LW,if_pos h2,MH];congr 1;omega
 rw[H];have h5:(l.toArray)[j / 3]! = l[j / 3]'h1:=by simp[h1]
 rw[h5];have E:j % 3<(Ui (l[j / 3]'h1)).length:=h2;exact (Lt E).trans (congrArg some (getElem!_pos (Ui (l[j / 3]'h1)) (j % 3) E).symm)
theorem Qgw (x y:Ez):ltOf ecf x y=true↔x.1.1<y.1.1∨x.1.1=y.1.1∧x.1.2.1<y.1.2.1:=by
 unfold ltOf ecf;rw[decide_eq_true_iff];split <;> omega
theorem y9 (x y:Ez):ltOf ecf x y=false↔y.1.1<x.1.1∨y.1.1=x.1.1∧y.1.2.1≤x.1.2.1:=by
 rw[←Bool.not_eq_true,Qgw];omega
theorem QkI:SWO (ltOf ecf) where
 irrefl x:=by rw[y9];omega
 trans x y z h1 h2:=by rw[Qgw] at *;omega
 ntrans x y z h1 h2:=by rw[y9] at *;omega
theorem QhZ {α:Type}[Inhabited α] {lt:α→α→Bool}{d E:Array α}(H:PermIn 0 d.size d E) (I:SortedIn lt 0 d.size E):E.toList.Perm d.toList∧E.toList.Pairwise (λx y=>lt y x=false):=by
 obtain ⟨J,_,G⟩:=H;have e1:E.extract 0 d.size=E:=by rw[←J];exact Array.extract_size
 rw[e1,Array.extract_size] at G;refine ⟨G,?_⟩;rw[LY];intro i j hi S T;have V:i<E.size:=by simpa using hi
 have Y:j<E.size:=by simpa using S
 have:=I i j (Lk _) T (by omega);rw[getElem!_pos E j Y,getElem!_pos E i V] at this;simpa using this
set_option maxHeartbeats 1000000 in
theorem QaV {g:Nat}(eg:∀args w,(callFunc g args).run prog w=.ok (.enter g args) w) (hb:∀(x y:Ez) (W:World),Calls prog g #[.agg (Ui x).toArray,.agg (Ui y).toArray] W λe w'=>e=.returned (.int .i64 (ecf x y))∧∃q os',w'=grow (W.drewN q) os')
  {w:World} {base:Nat} {v:Value} {l:List Ez} (h:EzO base w v l) (hl:l.length≤1099511627776) :
  QJ prog 245 [v,.func (.func g) #[] #[]] w λ_ w'=>Step (ob v) w w'∧∃l':List Ez,l'.Perm l∧l'.Pairwise (λx y=>ltOf ecf y x=false)∧EzO base w' v l':=by
 unfold QJ;rcases h.2 with ⟨rfl,h0⟩ | ⟨gb,cap,cur,rfl,hf,H,S,hh,T,ho⟩
 ·have hq:l=[]:=Lo h0;subst hq;have hc:=AnyF.slices_SortFunc_none Tryz.sortEd none 0 (.func (.func g) #[] #[]) w;change Calls prog 245 _ _ _ at hc;refine Calls.mono hc λe w' he=>?_;obtain ⟨rfl,rfl⟩:=he;exact ⟨Step.refl _ _,[],List.Perm.refl _,List.Pairwise.nil,h⟩
 have V:gb<w.heap.size:=(LC.1 H).1;have hu:l.length*3≤cur.size:=by rw[T];exact Mr _ S
 have hH:HoldsK Ui 3 w gb 0 l.toArray:=by
  intro j E;rw[size_flatK,LR] at E;have h1:=QcJ E;rw[←ho,LW,if_pos E] at h1;constructor
  ·show (match w.heap[gb]? with | some (.cells c _ _)=>if (none:Option _).isSome then none else c[0+j]? | _=>none)=_
   rw[H];simp only[Nat.zero_add,Option.isSome_none,Bool.false_eq_true,if_false];rw[←Mf,h1];rfl
  show (match w.heap[gb]? with | some (.cells _ _ (lo,hi))=>decide (lo≤0+j) && decide (0+j<hi) | _=>false)=false
  rw[H];simp
 have hc:=AnyQ.slices_SortFunc Tryz.sortEd 3 Tryz.isAgg144 Tryz.sizeOf144 Ui yZ (λx v Y=>by simp at Y;rcases Y with rfl | rfl | rfl <;> rfl) ecf QkI g #[] gb 0 cap l.toArray w eg (λm os dk _ x y=>hb x y _) hH V (by simp;omega)
 change Calls prog 245 _ _ _ at hc;rw[LR] at hc;refine Calls.mono hc λe w' he=>?_;obtain ⟨rfl,G,n,os,hp,hr,rfl⟩:=he;have I:G.size=l.length:=by have:=hp.1;simpa using this
 have ha:=QhZ (d:=l.toArray) (by rw[LR];exact hp) (by rw[LR];exact hr);have J:(sortWorldK Ui 3 w gb 0 n G os).heap=w.heap.modify gb (onCells (putCells id 0 (flatK Ui 3 G)))++os:=rfl;refine ⟨⟨rfl,O,O,?_,λk hk hn=>?_⟩,G.toList,ha.1,ha.2,?_⟩
 ·rw[J,MX,Ma];omega
 ·rw[J,Mg,Ma,if_pos hk,Mu,if_neg (λe=>hn (by simp[ob,e]))]
 refine ⟨Qbq _,.inr ⟨gb,cap,putCells id 0 (flatK Ui 3 G) cur,by simp[I],hf,?_,by simp[I];exact S,hh,by simp[putCells,T],?_⟩⟩
 ·rw[J,Mg,Ma,if_pos V,Mu,if_pos rfl,H];rfl
 apply M5;intro j;rw[LW];by_cases E:j<G.toList.length*3
 ·rw[if_pos E,QcJ E,Mf];have hs:j<cur.size:=by simp[I] at E;omega
  have ht:j<(flatK Ui 3 G).size:=by simpa using E
  simp only[putCells,Array.getElem?_mapIdx,Array.getElem?_eq_getElem hs,Option.map_some,Nat.zero_le,Nat.zero_add,true_and,if_pos ht,Nat.sub_zero,id]
 rw[if_neg E,MB];rw[Qbq];omega
theorem Qgm:∀l:List Ez,(l.map (·.1)).flatMap Qz=l.flatMap Ui
 | []=>rfl
 | x::l=>by rw[LK,LB,LB,Qgm l];rfl
theorem QcI:∀l:List Ed,(∀e∈l,(0≤e.1∧e.1<1099511627776)∧0≤e.2.1∧e.2.1<1099511627776)→∃zs:List Ez,zs.map (·.1)=l
 | [],_=>⟨[],O⟩
 | e::l,h=>by
  obtain ⟨zs,h1⟩:=QcI l (λd hd=>h d (Ll _ hd));exact ⟨⟨e,h e Ln⟩::zs,by rw[LK,h1]⟩
abbrev Qaf (x y:Ed):Prop:=x.1<y.1∨x.1=y.1∧x.2.1≤y.2.1
theorem zk {g:Nat}(eg:∀args w,(callFunc g args).run prog w=.ok (.enter g args) w) (E:∀(x y:Ez) (W:World),Calls prog g #[.agg (Ui x).toArray,.agg (Ui y).toArray] W λe w'=>e=.returned (.int .i64 (ecf x y))∧∃q os',w'=grow (W.drewN q) os')
  {w:World} {base:Nat} {v:Value} {l:List Ed} (h:w.ownsRow base 144 3 v l.length (l.flatMap Qz)) (hl:l.length≤1099511627776) (hb:∀e∈l,(0≤e.1∧e.1<1099511627776)∧0≤e.2.1∧e.2.1<1099511627776) :
  QJ prog 245 [v,.func (.func g) #[] #[]] w λ_ w'=>Step (ob v) w w'∧∃l':List Ed,l'.Perm l∧l'.Pairwise Qaf∧w'.ownsRow base 144 3 v l'.length (l'.flatMap Qz):=by
 obtain ⟨zs,rfl⟩:=QcI l hb;rw[Lb] at hl;rw[Lb,Qgm] at h;refine (QaV eg E h hl).mono λ_ _ ⟨h1,l',h2,h3,G⟩=>⟨h1,l'.map (·.1),h2.map _,?_,by rw[Lb,Qgm];exact G⟩;rw[Mn];refine h3.imp λ{x y} H=>?_;have:=(y9 y x).1 H;exact this
theorem yc {w:World}{base:Nat}{v:Value}{l:List Ed}(h:w.ownsRow base 144 3 v l.length (l.flatMap Qz)) (hl:l.length≤1099511627776) (hb:∀e∈l,(0≤e.1∧e.1<1099511627776)∧0≤e.2.1∧e.2.1<1099511627776) :
  QJ prog 282 [v] w λ_ w'=>Step (ob v) w w'∧∃l':List Ed,l'.Perm l∧l'.Pairwise Qaf∧w'.ownsRow base 144 3 v l'.length (l'.flatMap Qz):=by
 refine QJ.of_W func282 O ntmps282 results282 (by simp) ?_;refine Qx<|Qb<|xl O<|xf<|(zk (enters_of func308 (by kernel_rfl) O) Ql3 h hl hb).mono ?_;rintro E G h1;refine xe ?_;exact ⟨[],U,h1⟩
theorem Qdl {w:World}{base:Nat}{v:Value}{l:List Ed}(h:w.ownsRow base 144 3 v l.length (l.flatMap Qz)) (hl:l.length≤1099511627776) (hb:∀e∈l,(0≤e.1∧e.1<1099511627776)∧0≤e.2.1∧e.2.1<1099511627776) :
  QJ prog 245 [v,.func (.func 246) #[] #[]] w λ_ w'=>Step (ob v) w w'∧∃l':List Ed,l'.Perm l∧l'.Pairwise Qaf∧w'.ownsRow base 144 3 v l'.length (l'.flatMap Qz) :=
 zk (enters_of func246 (by kernel_rfl) O) Ql4 h hl hb
def cmF (c:Zw) (l:List (LI)):LI:=l.zipIdx.filterMap λp=>if (KR c.ex c.cs p.1).2.2=true then some (p.2:Int) else none
theorem QgD {c:Zw}{l:List (LI)}{k:Nat}(h:k<l.length):cmF c (l.take (k+1))=cmF c (l.take k)++(if (KR c.ex c.cs (l[k]'h)).2.2=true then [(k:Int)] else []):=by
 unfold cmF;rw[Le h,List.zipIdx_append,List.filterMap_append];have e:0+(l.take k).length=k:=by rw[Lx];omega
 rw[e];simp only[List.zipIdx_cons,List.zipIdx_nil,List.filterMap_cons,List.filterMap_nil];by_cases E:(KR c.ex c.cs (l[k]'h)).2.2=true
 ·rw[if_pos E,if_pos E]
 rw[if_neg E,if_neg E]
theorem Qi3 (c:Zw) (l:List (LI)):(cmF c l).length≤l.length:=by
 unfold cmF;refine LS (List.length_filterMap_le _ _) ?_;rw[List.length_zipIdx];exact Lr _
def QcT (c:Zw):Bool:=match sync (auts c.co),sync (auts c.co++auts c.rq) with
 | some (pa,ps),some (_,ts)=>ts.all λt=>decide ((wrf c.rq (t.drop c.co.length) (enb pa (plx ps (t.take c.co.length)))).length≤1)
 | _,_=>false
def cmB (c:Zw):LI:=match sync (auts c.co++auts c.rq) with
 | some (sa,ts)=>cmF c (ts.map (·.take c.co.length))++[sa.st]
 | none=>[]
structure CmI (b2 base:Nat) (W:World) (xa:Value) (st:Int) (xm vb ve:Value) (bad:LI) (es:List Ed):Prop where
 B:Q3 W.heap b2 58 [xa,.int .i64 st,xm,ve]
 b:Qt 3 base W vb bad
 e:W.ownsRow base 144 3 ve es.length (es.flatMap Qz)
 dj:Dj vb ve
 bd:∀e∈es,(0≤e.1∧e.1<1099511627776)∧0≤e.2.1∧e.2.1<1099511627776
theorem CmI.ext {G base:Nat}{W W':World}{xa:Value}{st:Int}{xm vb ve:Value}{bad:LI}{H:List Ed}(h:CmI G base W xa st xm vb ve bad H) (E:Step [] W W'):CmI G base W' xa st xm vb ve bad H :=
 ⟨h.B.ext E,Qm h.b E,Qm h.e E,h.dj,h.bd⟩
theorem CmI.addB {E base:Nat}{W W':World}{xa:Value}{st:Int}{xm vb G ve:Value}{bad bad':LI}{H:List Ed}(h:CmI E base W xa st xm vb ve bad H) (hb:E<base) (I:Step (ob vb) W W') (S:Qt 3 base W' G bad') (T:∀b∈ob G,b∈ob vb∨W.heap.size≤b):CmI E base W' xa st xm G ve bad' H :=
 ⟨h.B.step I (QM h.b hb),S,Qj h.e I (λb hb hm=>h.dj b hm hb),λb V J=>(T b V).elim (λh1=>h.dj b h1 J) (λh1=>by have:=QP h.e b J;omega),h.bd⟩
theorem CmI.addE {E base:Nat}{W W1 W':World}{xa:Value}{st:Int}{xm vb ve G:Value}{bad:LI}{H:List Ed}{e:Ed}(h:CmI E base W xa st xm vb ve bad H) (hb:E<base) (V:Step (ob ve) W W1) (J:W1.ownsRow base 144 3 G (H.length+1) (H.flatMap Qz++Qz e)) (Y:∀b∈ob G,b∈ob ve∨W.heap.size≤b)
  (S:Step [E] W1 W') (hB:Q3 W'.heap E 58 [xa,.int .i64 st,xm,G]) (he:(0≤e.1∧e.1<1099511627776)∧0≤e.2.1∧e.2.1<1099511627776):CmI E base W' xa st xm vb G bad (H++[e]):=by
 have hge:=Qk J;refine ⟨hB,Qj (Qj h.b V (λb hb hm=>h.dj b hb hm)) S (λb I hm=>by have:=(Qk h.b b I).1;rw[La.1 hm] at this;omega),?_,λb T ha=>(Y b ha).elim (λh1=>h.dj b T h1) (λh1=>by have:=QP h.b b T;omega),λd hd=>?_⟩
 ·have h9:=Qj J S (λb I hm=>by have:=(hge b I).1;rw[La.1 hm] at this;omega);rw[Li,Lz];simpa using h9
 rcases Lj.1 hd with hd | hd
 ·exact h.bd d hd
 rw[La.1 hd];exact he
theorem CmI.stb {H base B:Nat}{xa:Value}{st:Int}{xm vb ve:Value}{bad:LI}{I:List Ed}:ZY B (λW=>CmI H base W xa st xm vb ve bad I) :=
 λW W' X h E G=>⟨ZY.blk W W' X h.B E G,ZY.row W W' X h.b E G,ZY.row W W' X h.e E G,h.dj,h.bd⟩
set_option maxHeartbeats 40000000 in
theorem QaH {w:World}{c:CL}(h0:Zx [] w.heap c) (kn:Kb w 4096) (ko:Yy c.cel=0) (S:(spc c.cel).a.st<4096) (h1:QcT c.cel=true) :
  QJ prog 197 [c.val] w λr w'=>Step [] w w'∧∃xa xm xe vb,r=.tuple #[.agg #[xa,.int .i64 ((spc c.cel).a.st+1),xm,xe],vb,.int .i64 0]∧ZP [xa,xm,xe]∧Qt 3 w.heap.size w' vb (cmB c.cel):=by
 refine QJ.of_G 20 func197 O ntmps197 results197 (by simp) ?_;refine Q0<|QK (by rfl) (by rfl) ?_;refine xl rfl<|QT (us:=c.cells) O λb1 w1 kp hb1 kq=>xl O<|Qv (us:=qV) O λE w2 gl hb2 kr=>x Qh<|Qe ?_;have hM:=kp.trans gl;have hz1:=kp.size;have hz2:=gl.size;have hl1:=kq.lt;have m9:=kr.lt;have pa:=kq.ext gl
 have kt:Zx [E] w2.heap c:=(h0.up (L':=[E]) (λb hb=>.inr (by rw[La.1 hb];omega))).ext hM;refine Q0<|QK (by rfl) (by rfl) ?_;refine x (Qs pa O O)<|xl O<|xf<|(Qaw (h0.ext hM) (kn.ext hM)).mono ?_;rintro r3 w3 ⟨gm,vp,rfl,_,pc⟩;obtain ⟨b,q,rfl,rfl,I,_,pd⟩:=pc ko;rw[ko];have hw:=hM.trans gm
 have ku:XB [E] b w3.heap q:=(pd [E] (λx hx=>by rw[La.1 hx];exact m9)).2 kt;have hsp:=QaT I.p I.s;have hst':q.s.a.st<4096:=by rw[hsp] at S;exact S
 have pf:cmB q.c.cel=cmF q.c.cel ((q.ts.map (·.2)).map (·.take q.c.cel.co.length))++[q.s.a.st]:=by unfold cmB;rw[I.s]
 have pg:∀t∈q.ts.map (·.2),(wrf q.c.cel.rq (t.drop q.c.cel.co.length) (enb q.p.a (plx (q.qs.map (·.2)) (t.take q.c.cel.co.length)))).length≤1:=λt ht=>by
  unfold QcT at h1;rw[I.p,I.s] at h1;exact of_decide_eq_true (Mx.1 h1 t ht)
 have ph:(spc q.c.cel).a.st=q.s.a.st:=by rw[hsp]
 rw[ph,pf];refine Qb<|x (Qp O O)<|x (Qp O O)<|x Qh<|Qe<|Q0<|Q0<|QK (by rfl) (by rfl) ?_;refine Qb<|x (Q9 O O)<|xe<|Kk rfl<|Ya ?_;refine Q0<|QK (by rfl) (by rfl) ?_;refine Qb<|x (QH O)<|x (Qa O)<|x (Qa O)<|x (Qd ku.B O O)<|xl O<|Qv (us:=[.int .i64 0]) O λb6 w4 pj pm pn=>xl O<|QG (j:=0) (u:=.int .i64 q.s.a.st) pn O O (by simp) rfl λG po kv=>xe ?_
 have h7:Step [] w3 G:=pj.then1 po pm;have hn:=ku.ext h7;have hz3:=gm.size;have hz35:=h7.size;have kw:=kv.lt;have pp:Q3 G.heap E 58 qV:=(kr.ext gm).ext h7;have hO:Q3 G.heap b6 3 [.int .i64 q.s.a.st]:=kv;have hst0:0≤q.s.a.st:=by
  have:=(Xi (λa ha=>by
   rcases Lj.1 ha with ha | ha
   ·exact Yh (ZO I.ok).co a ha
   exact Yh (ZO I.ok).rq a ha) I.s).1.st
  omega
 refine Q0<|Q0<|QK (by rfl) (by rfl) ?_;refine x (Qd hO O O)<|x (ZU O O)<|xe<|Qjj O (λky=>absurd (show q.s.a.st≥4096 from ky) (by omega)) (λky=>?_);refine Ya ?_;have gn:Step [] G { G with drawn:=G.drawn+1 }:=Step.drew _ _
 refine Q0<|qJ (Step [] G) [(0,true),(1,true),(2,true),(3,true),(4,true),(6,true),(7,true),(8,true),(9,true),(10,true),(11,true),(12,true),(14,true),(15,true),(16,true),(17,true),(18,true),(5,false),(13,false),(19,false),(20,true),(21,false)] mixed (by rfl) (by rfl) (by kernel_rfl) gn ?_
 refine p (λ_=>Ql)<|p (λ_=>QH O)<|p (λ_=>Qa O)<|p (λ_=>Qa O)<|pq (λ_ hc=>Qd (hn.B.ext hc) O O)<|pq (λ_ hc=>Qd (hO.ext hc) O O)<|p (λ_=>X5 O O ⟨by omega,by omega⟩)<|p (λ_=>Ql)<|p (λ_=>QH O)<|p (λ_=>Qa O)<|p (λ_=>Qa O) <|
  pq (λ_ hc=>Qd (hn.B.ext hc) O O)<|p (λ_=>Ql)<|p (λ_=>QH O)<|p (λ_=>Qa O)<|p (λ_=>Qa O)<|pq (λ_ hc=>Qd (hn.B.ext hc) O O)<|pk<|xf<|(ZW (hn.s.al.ext gn)).mono ?_
 rintro xa w6 ⟨pt,go⟩;have gp:=gn.trans pt;refine ⟨gp,?_⟩;refine pk<|xf<|(ZW (hn.s.mr.ext gp)).mono ?_;rintro xm w7 ⟨pu,gq⟩;have hP:=gp.trans pu;refine ⟨hP,?_⟩;refine pk<|xf<|(KB (hn.s.ed.ext hP)).mono ?_;rintro hR w8 ⟨pw,hS⟩;have gr:=hP.trans pw;refine ⟨gr,?_⟩
 refine p (λ_=>QF ⟨QZ go,O,QZ gq,QZ hS,U⟩)<|pkl (hl:=by kernel_rfl)<|Qr (us:=[xa,.int .i64 (q.s.a.st+1),xm,hR]) (pp.ext gr) O O O O ⟨QD go,O,QD gq,QD hS,U⟩ λw9 kz pz=>pe ?_;have gs:Step [E] G w9:=gr.any.trans' kz;have hz7:=hP.size;have hz59:=gs.size;have h8:E<G.heap.size:=by omega
 have k0:=hn.st gs;have hT:ZP [xa,xm]:=⟨QD go,QD gq,U⟩;have p0:w9.ownsRow G.heap.size 144 3 hR q.s.a.ed.length (q.s.a.ed.flatMap Qz):=Qj (Zg hS (by omega)) kz (λb hb hm=>by have:=(Qk hS b hb).1;rw[La.1 hm] at this;omega);have hy:=ZO I.ok;have hA:∀a∈auts q.c.cel.co++auts q.c.cel.rq,Zr a:=λa ha=>by
  rcases Lj.1 ha with ha | ha
  ·exact Yh hy.co a ha
  exact Yh hy.rq a ha
 have gt:=(Xi hA I.s).1.okay hA;have p1:∀e∈q.s.a.ed,(0≤e.1∧e.1<1099511627776)∧0≤e.2.1∧e.2.1<1099511627776:=λe he=>by
  have h1:=gt.ed e he;have h2:=gt.al _ h1.2.2.1;omega
 have p2:CmI E G.heap.size w9 xa (q.s.a.st+1) xm Za hR [] q.s.a.ed:=⟨pz,QO _ _ _ _,p0,λb hb=>(by cases hb),p1⟩;have p3:=gt.ed_le;have k4:=Un hA I.s;have k5:=k4.1;have p4:=k4.2;simp only[] at k5 p4;have hckc:=hy.c8;have hU:q.c.cel.co.length=q.c.co.length:=Lb ..;have p5:q.c.cel.rq.length=q.c.rq.length:=Lb ..;have hcr:=hy.cr
 have p6:(auts q.c.cel.co++auts q.c.cel.rq).length=q.c.co.length+q.c.rq.length:=by rw[Li];unfold auts;rw[Lb,Lb,hU,p5]
 refine Q0<|Q0<|QK (by rfl) (by rfl) ?_;refine Qb<|x (QH O)<|x (Qa O)<|x (Qd k0.B O O)<|x (Qq k0.ts.arr O)<|Qb<|xe<|Zb ((q.ts.map (·.2)).map (·.take q.c.cel.co.length)) λtcs gu=>?_;rw[gu];have htcl:tcs.length=q.ts.length:=by rw[←gu,Lb,Lb]
 have hTn:q.ts.length≤4096:=by have h2:=(Xi hA I.s).1.st;have h3:(q.ts.map (·.2)).length=q.ts.length:=Lb ..;omega
 refine ZE<|V0 (α:=Nat×Value×Value×List Ed) [(3,3),(7,16),(60,109)] (λz=>[(3,z.2.1),(60,.int .i64 z.1)])
  (λz ds W'=>z.1≤q.ts.length∧Step [E] G W'∧Vv G.heap.size W'.heap.size ds W'∧CmI E G.heap.size W' xa (q.s.a.st+1) xm z.2.1 z.2.2.1 (cmF q.c.cel (tcs.take z.1)) z.2.2.2∧z.2.2.2.length≤131072+z.1)
  (λz=>q.ts.length - z.1) (by rfl) (0,Za,hR,q.s.a.ed) ⟨O,O,U⟩ ⟨Lk _,gs,⟨MQ,λD hD=>by cases hD⟩,p2,p3⟩ ?_
 rintro ⟨k,vb,ve,es⟩ g ds hz ⟨hk,hB,k6,H,p7⟩;simp only[] at hk H p7;have hz10:=hB.size;have hX:=Qi3 q.c.cel (tcs.take k);rw[Lx] at hX;refine Q0<|QK (by rfl) (by rfl) ?_;refine x (QA O O)<|xe<|Q0<|zW O (λgv=>?_) (λgv=>?_)
 ·refine J7 ?_;have hke:q.ts.length≤k:=by have p8:¬(k:Int)<(q.ts.length:Int):=gv;omega
  rw[Lm (by omega)] at H hX;refine Zb (cmF q.c.cel tcs) λbad hY=>?_;rw[hY] at H hX;have gw:E∉ob ve:=QM H.e h8;have p9:E∉ob vb:=QM H.b h8;have hZ:b6∉[E]:=by simp only[List.mem_singleton];omega
  have qb:b6∉ob ve:=QM H.e kw;have qc:b6∉ob vb:=QM H.b kw;refine Q0<|QK (by rfl) (by rfl) ?_;refine x (Qa O)<|x (Qd H.B O O)<|xl O<|xf<|(Qdl H.e (by omega) H.bd).mono ?_;rintro r11 hg ⟨ho,hf,hp,_,ho11⟩;refine xe ?_;have ga:=H.B.step ho gw;have gx:=(hO.step hB hZ).step ho qb;have gy:=Qj H.b ho (λb hb hm=>H.dj b hb hm);have hz11:=ho.size
  have hs:=Qk H.e;have hC:=Qk gy;have qf:Vv G.heap.size hz.heap.size ds hg:=k6.step ho (Go.Lg.QZ H.e);have hD0:Step (ob vb) hg { hg with drawn:=hg.drawn+1 }:=Step.drew _ _
  refine Q0<|qJ (λw'=>Step (E::ob vb) hg w'∧Q3 w'.heap E 58 [xa,.int .i64 (q.s.a.st+1),xm,ve]∧Q3 w'.heap b6 3 [.int .i64 q.s.a.st]) [(0,true),(1,true),(2,true),(3,false),(4,false),(5,false),(6,true),(7,true)] mixed (by rfl) (by rfl) (by kernel_rfl) ⟨Step.drew _ _,ga.ext (Step.drew _ _),gx.ext (Step.drew _ _)⟩ ?_
  refine pq (λ_ hc=>Qs hc.2.1 O O)<|p (λ_=>Ql)<|pq (λ_ hc=>Qd hc.2.2 O O)<|pk<|QC (us:=[[.int .i64 q.s.a.st]]) O O (by decide) (by simp) ⟨rfl,rfl,U⟩ λb116 gz g0 hb116 qj=>?_;have h4:=(Step.drew [] hg).trans g0;have hz12:=h4.size;refine ⟨⟨h4.any,ga.ext h4,gx.ext h4⟩,?_⟩
  refine pk<|QU (m:=1) (news:=[.int .i64 q.s.a.st]) (L:=[]) (Qm gy h4) O O O (qj.at (by simp)) (by simp[Value.oneCell']) (by omega) (by omega) λk7 hE k8 gb hn13=>?_;have gc:Step (ob vb) hg hE:=h4.any.trans' gb;have k9:=ga.step gc p9;have ma:=gx.step gc qc;refine ⟨⟨gc.mono (λb hb=>Ll _ hb),k9,ma⟩,?_⟩
  refine pk<|Qr (us:=[xa,.int .i64 (q.s.a.st+1),xm,ve]) k9 O O O O ⟨hT.1,O,hT.2.1,QD H.e,U⟩ λT J mc=>?_;have g4:Step (E::ob vb) hg T:=(gc.mono (λb hb=>Ll _ hb)).trans' (J.mono (by simp));refine ⟨⟨g4,mc,ma.step J hZ⟩,?_⟩;refine p (λ_=>Qh)<|p (λ_=>Qh)<|pe ?_
  have qk:=Qj k8 J (λb hb hm=>by have:=(Qk k8 b hb).1;rw[La.1 hm] at this;omega);have hu:Vv G.heap.size hz.heap.size ds T:=qf.step g4 (λb hb=>by
   rcases Lc.1 hb with rfl | hb
   ·exact ga.cells
   exact Go.Lg.QZ gy b hb)
  have ql:E∉ds:=λhm=>by have:=(hu.2 E hm).1;omega
  have hG:Step [] w T:=(((hw.trans h7).then1 hB (by omega)).then ho (λb hb=>.inr (by have:=(hs b hb).1;have:=hw.size;omega))).then g4 (λb hb=>.inr (by
   rcases Lc.1 hb with rfl | hb
   ·omega
   have:=(hC b hb).1;have:=hw.size;omega))
  refine J6 ⟨λD hD=>(hu.2 D hD).2.2,hu.1,[.agg [xa,.int .i64 (q.s.a.st+1),xm,ve].toArray,k7,.int .i64 0],λW' g5=>?_⟩;refine ⟨⟨⟨_,O,QB O ((mc.step g5 ql).at (L:=[]) (by simp)).cells⟩,rfl,rfl,U⟩,hG.then g5 (λD hD=>.inr (by have:=(hu.2 D hD).1;have:=hw.size;omega)),xa,xm,ve,k7,O,⟨hT.1,hT.2.1,QD H.e,U⟩,?_⟩;have h9:=Qt.snoc qk;have mf:=Qj h9 g5 (λb hb hm=>by
   obtain ⟨o,g1,g2⟩:=Go.Lg.QZ h9 b hb;rw[(hu.2 b hm).2.2] at g1;cases g1
   cases g2)
  rw[←hY] at mf;exact Zg mf (by have:=hw.size;omega)
 have hH:k<q.ts.length:=by have p8:(k:Int)<(q.ts.length:Int):=gv;omega
 have mg:k<tcs.length:=by omega
 have Y:=QgD (c:=q.c.cel) mg;have qm:tcs[k]'mg=(q.ts[k]'hH).2.take q.c.cel.co.length:=by subst gu;simp
 have ge:=Lh hH;have hI:=k5 _ (LL (f:=(·.2)) ge);have hv:=pg _ (LL (f:=(·.2)) ge);rw[qm] at Y;refine Zb (cmF q.c.cel (tcs.take k)) λbad hY=>?_;rw[hY] at H hX Y;refine Zb (ob vb++ob ve) λav g6=>?_;have hC:=Qk H.b;have hs:=Qk H.e;have qo:∀x∈av,G.heap.size≤x∧x<hz.heap.size:=λx hx=>by
  rw[←g6] at hx;exact (Lj.1 hx).elim (hC x) (hs x)
 have qq:XB (E::av) b G.heap q:=hn.up (λx hx=>by
  rcases Lc.1 hx with rfl | hx
  ·exact .inl Ln
  exact .inr (qo x hx).1)
 have gg:XB (E::av) b hz.heap q:=qq.st (hB.mono (by simp));refine Zb (cmF q.c.cel (tcs.take (k+1))) λg7 mh=>?_;rw[mh] at Y;refine Ya ?_
 refine Qc9 (α:=Value×Value×List Ed) [(3,3),(7,16),(61,109)] (λz=>[(3,z.1),(60,.int .i64 k)]) (λz h5 W'=>Step [E] G W'∧Vv G.heap.size W'.heap.size h5 W'∧CmI E G.heap.size W' xa (q.s.a.st+1) xm z.1 z.2.1 g7 z.2.2∧z.2.2.length≤131072+(k+1)) (by rfl) ?_ ?_
 rotate_left
 ·rintro ⟨gh,hq,hf⟩ g h5 W ⟨qr,q0,q1,q2⟩;refine QK (by rfl) (by rfl) ?_;refine QN O O<|Qb<|xe ?_;exact ⟨(k+1,gh,hq,hf),by simp only[];omega,⟨O,O,U⟩,hH,qr,q0,by simp only[];rw[mh];exact q1,q2⟩
 refine ZE<|Q0<|QK (by rfl) (by rfl) ?_;refine Qb<|xig (g:=Zz) Ku gg.ts.arr O O hH λa63 mj=>?_;refine Zb (q.ts[k]'hH) λt ht=>?_;rw[ht] at mj ge hI hv Y;have q3:=gg.ts.each t ge;have htl:t.2.length=q.c.co.length+q.c.rq.length:=by rw[hI.1,p6]
 refine x (Qu mj O)<|xl O<|Qv (us:=[.int .i64 0]) O λb7 hg ho q4 q5=>xl O<|QG (j:=0) (u:=.int .i64 k) q5 O O (by simp) rfl λgz g0 za=>Qe ?_;have g8:Step [] hz gz:=ho.then1 g0 q4;have mo:Q3 gz.heap b7 3 [.int .i64 k]:=za;refine Q0<|QK (by rfl) (by rfl) ?_;refine Qb<|Qb<|xl O<|xf<|(jz (gg.ext g8) (q3.ext g8) (by omega)).mono ?_
 rintro r13 hE ⟨gb,v9,mq,rfl,g9,mu⟩;refine Qb<|x (Qp O O)<|x (Qp O O)<|x Qh<|Qe ?_;have hJ:=g8.trans gb;have mv:=gg.ext hJ;rw[hU] at hv Y;refine Zb (t.2.take q.c.co.length) λtc gi=>?_;refine Zb (t.2.drop q.c.co.length) λtr mw=>?_;rw[gi] at g9 hv Y;rw[mw] at mu hv;have zv:tc.length=q.c.co.length:=by rw[←gi,Lx];omega
 have z0:=hI.bd (m:=4096) (λa ha=>(hA a ha).st1);have my:∀x∈tc,0≤x∧x<4096:=λx hx=>z0 x (LZ (by rw[gi];exact hx));have z2:Vt (auts q.c.cel.co) tc:=by
  have h1:=hI.take;rw[show (auts q.c.cel.co).length=q.c.co.length by unfold auts;rw[Lb];exact hU,gi] at h1;exact h1
 have z3:Vt (auts q.c.cel.rq) tr:=by
  have h1:=hI.drop;rw[show (auts q.c.cel.co).length=q.c.co.length by unfold auts;rw[Lb];exact hU,mw] at h1;exact h1
 have gj:XB [] b hE.heap q:=mv.up (by simp);have hvo:=Ua gj.k1 gj.k2 gj.k3 (g9.up (L':=[]) (by simp)) (by rw[I.ex,I.cs];exact hy.cd) z2.tpOk;rw[I.ex,I.cs] at hvo;refine Zb (KR q.c.cel.ex q.c.cel.cs tc) λV hV=>?_;rw[hV] at hvo Y;have ka:=H.ext hJ;have hz13:=hJ.size;have hl7:=mo.lt;have mz:=mo.ext gb
 refine Qc9 (α:=Value) [(3,3),(11,14),(71,86)] (λz=>[(3,z)]) (λz h5 W=>h5=ds∧Step (ob vb) hE W∧Qt 3 G.heap.size W z g7∧∀x∈ob z,x∈ob vb∨hE.heap.size≤x) (by rfl) ?_ ?_
 ·refine Q0<|QK (by rfl) (by rfl) ?_;refine Qb<|x (QH O)<|x (Qa O)<|x (Yv (us:=[q.vs,q.vx,q.vk]) gj.B O O O)<|Qb<|xl O<|xf<|hvo.mono ?_;rintro r14 T ⟨J,rfl⟩;refine Qb<|x (Qp O O)<|x (Qp O O)<|x (Qp O O)<|x (Qp O O)<|x Qh<|x Qh<|x Qh<|Qe<|Q0<|QK (by rfl) (by rfl) ?_;refine Qb<|xe ?_;have m0:=Qm ka.b J;refine KM O (λkb=>?_) (λkb=>?_)
  ·rw[if_pos kb] at Y;refine QK (by rfl) (by rfl) ?_;refine Qb<|x (Qd (mz.ext J) O O)<|xl O<|QC (us:=[[.int .i64 k]]) O O (by decide) (by simp) ⟨rfl,rfl,U⟩ λb85 y1 hh hb85 z4=>?_;have z5:=hh.size;have z9:=J.size;refine xl O<|QU (m:=1) (news:=[.int .i64 k]) (L:=[]) (Qm m0 hh) O O O (z4.at (by simp)) (by simp[Value.oneCell']) (by omega) (by omega) λz y2 gk hK kc=>Qe ?_
   exact ⟨z,Z,O,(J.trans hh).any.trans' hK,by rw[Y];exact Qt.snoc gk,λx hx=>(kc x hx).imp id (λh=>by omega)⟩
  rw[if_neg (by rw[kb];decide),LH] at Y;refine Ya ?_;exact ⟨vb,Z,O,J.any,by rw[Y];exact m0,λx hx=>.inl hx⟩
 rintro gh g h5 T ⟨rfl,J,hbO,hbn⟩;have hI14:=ka.addB h8 J hbO hbn;have z9:=J.size;have ke:∀x∈ob vb,x∈E::av:=λx hx=>Ll _ (by rw[←g6];exact Lj.2 (.inl hx));have m1:∀x∈E::ob ve,x∈E::av:=λx hx=>by
  rcases Lc.1 hx with rfl | hx
  ·exact Ln
  exact Ll _ (by rw[←g6];exact Lj.2 (.inr hx))
 have kf:=mv.st (J.mono ke);have hI9a:=g9.st (J.mono ke);have m2:=mu.st (J.mono ke);have hG:Step [E] G T:=(hB.trans hJ.any).then J (λx hx=>.inr (hC x hx).1);have hs014:Step [] w T:=(hw.trans h7).then1 hG (by omega);have hn7b:b7∉ob vb:=λhm=>by have:=(hC b7 hm).2;omega
 have hZ:b6∉[E]:=by simp only[List.mem_singleton];omega
 have hB714:=mz.step J hn7b;have hB614:=hO.step hG hZ;have hu:Vv G.heap.size hz.heap.size h5 T:=(k6.ext hJ).step J (Go.Lg.QZ ka.b);refine Q0<|qJ (Step [] T) [(0,true),(1,true),(2,true),(3,true),(4,true),(5,false),(6,true),(7,true)] mixed (by rfl) (by rfl) (by kernel_rfl) (Step.drew _ _) ?_
 refine p (λ_=>Ql)<|p (λ_=>QH O)<|p (λ_=>Qa O)<|pq (λ_ hc=>Qd (kf.B.ext hc) O O)<|p (λ_=>Ql)<|pk<|xf<|(jd (hI9a.ext (Step.drew _ _)) ((kn.ext hs014).ext (Step.drew _ _)) my (by omega)).mono ?_;rintro r15 w15 ⟨rfl,hs15⟩;have kg:=(Step.drew [] T).trans hs15;refine ⟨kg,?_⟩
 have m3:(match mget q.mm (JE tc) with | some u=>u | none=>.int .i64 0)=Value.int .i64 (plx (q.qs.map (·.2)) tc):=by
  rw[I.m tc zv (λx hx=>(my x hx).1)];unfold plx;by_cases hm:tc∈q.qs.map (·.2)
  ·rw[if_pos hm,if_pos hm]
  rw[if_neg hm,if_neg hm]
 have hL:=jJ I.ok I.p;have m4:=Qe9 hL.2.2.1 tc;refine Zb (plx (q.qs.map (·.2)) tc) λpi hpi=>?_;rw[hpi] at m3 hv m4;rw[←hL.2.1] at m4;have hckp:cks q.p.a pi=0:=by
  unfold cks;rw[if_neg (by rw[(ZG q.p.a).2 hL.1];decide),if_neg (by omega)]
 refine pq (λ_ hc=>(X3 (k:=JE tc) (kf.m.ext hc) O O).trans (congrArg (λv=>Result.ok (Next.value v) _) m3))<|p (λ_=>Qh)<|pe ?_;refine Q0<|QK (by rfl) (by rfl) ?_;refine Qb<|Qb<|Qb<|xl O<|xf<|(V1 (b:=b) (st:=pi) (vr:=mq) m2.cells).mono ?_;rintro r16 h6 ⟨hs16,c1,c2,c3,rfl,hc1,kt,hc3,hR1,hR2,hR3⟩;refine xe ?_;have hr:=kg.trans hs16;have hz1415:=kg.size;have hz16:=hr.size
 have kh:=hI14.ext hr;have hD16:=hu.ext hr;have hB716:=hB714.ext hr;have hB616:=hB614.ext hr;have hs516:Step [E] G h6:=hG.trans hr.any;refine Zb (wrf q.c.cel.rq tr (enb q.p.a pi)) λfl ki=>?_;rw[ki] at hv;have kj:∀x∈E::ob ve,x<T.heap.size:=λx hx=>by
  rcases Lc.1 hx with rfl | hx
  ·omega
  have:=(hs x hx).2;omega
 have hSt16:XB (E::ob ve) b h6.heap q:=(kf.ext hr).up (λx hx=>.inl (m1 x hx));have hIr16:QL (E::ob ve) h6.heap mq tr:=(m2.ext hr).up (λx hx=>.inl (m1 x hx));have hEv:∀p∈fl,0≤p.1∧p.1<32:=λp hp=>by
  rw[←ki] at hp;have g1:=(Um.1 hp).1;unfold enb at g1;obtain ⟨e,he,g2⟩:=Ly.1 g1;have g3:=hL.1.al _ (hL.1.ed e (ZM he).1).2.2.1;rw[g2] at g3;exact g3
 have hn7L:b7∉E::ob ve:=λhm=>by
  rcases Lc.1 hm with g1 | g1
  ·omega
  have:=(hs b7 g1).2;omega
 have hn6L:b6∉E::ob ve:=λhm=>by
  rcases Lc.1 hm with g1 | g1
  ·omega
  have:=(hs b6 g1).1;omega
 have gw:E∉ob ve:=QM H.e h8;have hb016:G.heap.size≤h6.heap.size:=by omega
 have hel2:es.length+1≤1099511627776:=by omega
 have hkb2:(0:Int)≤(k:Int)∧(k:Int)<1099511627776:=by omega
 refine ZE<|QaF (α:={ x:Int×Int // x∈fl }) (E::ob ve) (by omega) (capt:=[.pointer (some ⟨c1,0,none⟩),.pointer (some ⟨c2,0,none⟩),.pointer (some ⟨c3,0,none⟩)]) O (encs:=λx=>[.int .i64 x.1.1,.int .i64 x.1.2]) (by decide) (λ_=>O)
  (KZ hR1 hR2 hR3 (λhm=>by have:=kj _ hm;omega) (λhm=>by have:=kj _ hm;omega) (λx hx=>by have:=kj _ hx;omega) hSt16 hIr16 (λx hx=>hy.rq x.it (LL hx)) z3 hckp O ki)
  (λpre W=>∃hq hf,Step (E::ob ve) h6 W∧CmI E G.heap.size W xa (q.s.a.st+1) xm gh hq g7 hf∧(pre=[]→hq=ve∧hf=es)∧hf.length≤es.length+pre.length)
  (λpre=>ZY.ex λhq=>ZY.ex λhf=>(ZY.step (Lr _)).and (CmI.stb.and ((ZY.pure _).and (ZY.pure _))))
  (λ_ _ _=>False) (λ_ _=>ZY.pure _)
  ⟨ve,es,Step.refl _ _,kh,λ_=>⟨O,O⟩,Lr _⟩
  (λf x f' W=>f'=upd (upd (upd f 98 (.int .i64 x.1.1)) 99 (.int .i64 x.1.2)) 16 (.int .i64 x.1.1)) (λx f'=>ZY.pure _) ?_ ?_ ?_ ?_
 ·rintro l pre ⟨⟨e,i⟩,he⟩ W hW;refine QK (by rfl) (by rfl) ?_;refine Qe ?_;exact ⟨O,JA.refl _ _ _,Lg.Xj.refl _ _,hW,O⟩
 ·rintro l pre ⟨⟨e,i⟩,he⟩ f' W ⟨hq,hf,S,hj,m5,hlen⟩ rfl hN;have m6:pre=[]:=Lo (Nat.lt_one_iff.1 (L4 hN hv));have hv1:=(m5 m6).1;have hv2:=(m5 m6).2;rw[hv1,hv2] at hj;have m7:=S.size;have hee:=hEv _ he;simp only[] at hee;refine ZE<|QK (by rfl) (by rfl) ?_
  refine x (Qa O)<|x (Qd hj.B O O)<|x (Qd (hB716.step S hn7L) O O)<|Qb<|x (Qd (hB616.step S hn6L) O O)<|x (QF ⟨O,O,O,U⟩)<|xl O<|QC (us:=[Qz ((k:Int),e,q.s.a.st)]) O O (by decide) (by exact (by decide:1*3≤1000000)) ⟨O,O,U⟩ λb106 y1 hh hb106 hB106=>?_;have z5:=hh.size
  refine xl O<|QU (m:=1) (news:=Qz ((k:Int),e,q.s.a.st)) (L:=[]) (Qm hj.e hh) O O O (hB106.at (by simp)) (by simp[Qz,Value.oneCell']) hel2 (by omega) λu y2 gk hK kc=>?_;refine x (Qa O)<|xl O<|QG (u:=u) ((hj.B.ext hh).step hK gw) O O (by simp) (QD gk) λy3 m8 hB3=>xe ?_
  have kk:Step (E::ob ve) W y3:=(hh.any.trans' (hK.mono λx hx=>Ll _ hx)).trans' (m8.mono (by simp));have hnw:∀x∈ob u,x∈ob ve∨W.heap.size≤x:=λx hx=>(kc x hx).imp id (λh=>by omega)
  refine ⟨JA.step kk m7 (λx hx=>⟨.inl hx,?_⟩),Lg.Xj.step kk,u,es++[((k:Int),e,q.s.a.st)],S.trans' kk,hj.addE h8 (hh.any.trans' hK) gk hnw m8 hB3 ⟨hkb2,by simp only[];omega⟩,λh=>absurd h (by simp),by simp only[List.length_append,List.length_singleton];omega⟩;rcases Lc.1 hx with rfl | hx
  ·exact hj.B.cells
  exact Go.Lg.QZ hj.e x hx
 ·rintro D xs W hD hxs ⟨hq,hf,S,hj,_,hlen⟩ hdD;have hxl:xs.length=fl.length:=by have g1:=congrArg List.length hxs;rw[Lb] at g1;exact g1
  have m7:=S.size;refine ⟨(gh,hq,hf),⟨O,O,U⟩,hs516.then S (λx hx=>?_),((hD16.step S (λx hx=>?_)).up (by omega)).cons (by omega) (show h6.heap.size≤D from hD) hdD,hj,by simp only[];omega⟩
  ·rcases Lc.1 hx with rfl | hx
   ·exact .inl Ln
   exact .inr (hs x hx).1
  rcases Lc.1 hx with rfl | hx
  ·exact kh.B.cells
  exact Go.Lg.QZ kh.e x hx
 rintro D e pre W hD hSp hF;exact hF.elim
theorem KW (m:Nat) (hm:m<256) (w:World):QJ prog 52 [.int .u8 m] w λr w'=>Step [] w w'∧Qt 3 w.heap.size w' r (setK m 5):=by
 refine QJ.of_W func52 O ntmps52 results52 (by simp) ?_;refine Qc<|Qe<|Qc<|Qe<|Qf<|Qc<|Qe<|Qg<|Qy (α:=Nat×Value) [(3,17)] (λz=>[(3,z.2),(4,.int .i64 z.1)]) (λz w'=>z.1≤5∧Step [] w w'∧Qt 3 w.heap.size w' z.2 (setK m z.1)) (λz=>5 - z.1) (by rfl) (0,nS) ⟨O,O,U⟩
  ⟨Lk _,Step.refl _ _,QO _ _ _ _⟩ ?_
 rintro ⟨k,v⟩ g w1 ⟨hk,G,E⟩;simp only[] at hk E;have hg:=YV m k;have hh:=G.size;refine Qf<|Qc<|Qb<|x (QA O O)<|xe<|QE rfl (λT=>?_) (λT=>?_)
 ·refine Qw<|Qc<|Qb<|Qe ?_;have V:k=5:=by omega
  rw[V] at E;exact Qn ⟨[v],Z,G,E⟩
 have J:k<5:=by omega
 have Y:m / 2 ^ k<256:=Nat.lt_of_le_of_lt (Nat.div_le_self _ _) hm;have H:=VA m k;refine Qi<|Qf<|Qg<|Qc<|Qb<|Qb<|x (zp (n:=k) O O (by show k≤8;omega))<|x (UU (a:=m / 2 ^ k) (b:=1) (congrArg (Value.int .u8) (yd m k)) O Y (by decide))<|x (Q8 O O)<|xe<|QE rfl (λS=>?_) (λS=>?_)
 ·rw[if_neg (λe=>S (by rw[e];rfl))] at H;refine Qi<|Qx<|Qb<|QN O O<|Qe ?_;exact ⟨(k+1,v),by simp only[];omega,⟨O,O,U⟩,J,G,by simp only[];rw[H];exact E⟩
 rw[if_pos (by omega)] at H;refine Qx<|Qb<|Qb<|xl O<|QC (us:=[[.int .i64 k]]) O O (by decide) (by simp) ⟨rfl,rfl,U⟩ λhj w2 I hl ha=>?_;have hc:=Qm E I;have hn:=I.size;refine xl rfl<|QU (news:=[.int .i64 k]) (L:=[]) hc O O O (ha.at (by simp)) (by simp[Value.oneCell']) (by omega) (by omega) λv3 w3 he hf ho =>
  Qe ?_
 have hge:=Qk E;refine Qx<|Qb<|QN O O<|Qe<|⟨(k+1,v3),by simp only[];omega,⟨O,O,U⟩,J,(G.trans I).then hf (λb hb=>.inr (hge b hb).1),?_⟩;simp only[];rw[H];exact Qt.snoc he
end Go.Proofs.YtdffckgdcegpaaaGreatDoor
namespace Go.Lg
section
variable {P:Program} {f:Fr} {w:World} {d:Option Nat} {ty:Nat} {ps:String} {af:Array Edge} {gd:Option (Nat×Bool)}
theorem Qj6 {t E e bys:Nat}{z:Value}[h:Sl P t e 1 bys z] [he:Ik P e .u8] [hd:St P E] {x:Operand}{b T n cap:Nat}(G:Q3 w.heap b T [.int .u8 (n:Int)]) (J:n<256) (hx:ev f x=.slice (some ⟨b,0,none⟩) 1 cap) :
  (execOp (ev f) ⟨d,.convert t E x,ty,ps,af,gd⟩).run P w=.ok (.value (.string ⟨#[UInt8.ofNat n]⟩)) w:=by
 refine Ut hx ?_;refine run_convert_bytes_back (P:=P) w t E e ⟨b,0,none⟩ cap [UInt8.ofNat n] h.u he.u hd.u (λj H=>?_);have I:j=0:=by simp at H;omega
 subst I;rw[Jg];have h1:(⟨b,0,none⟩:Addr).add 0=⟨b,0,none⟩:=rfl;rw[h1,G.cell];have h2:(UInt8.ofNat n).toNat=n:=by simp[UInt8.toNat_ofNat'];omega
 simp[h2]
end
end Go.Lg
namespace Go.Proofs.YtdffckgdcegpaaaGreatDoor
open Go.Lg
theorem j9 (e:Km):∀u∈Zn e,u.oneCell'=true:=by
 intro y hy;simp only[Zn,List.mem_cons,List.not_mem_nil,or_false] at hy;rcases hy with rfl | rfl | rfl | rfl | rfl <;> rfl
theorem yS {q:IV}(h1:q.p.va.oneCell'=true) (h2:q.p.vm.oneCell'=true) (h3:q.p.ve.oneCell'=true):∀u∈Zf q,u.oneCell'=true:=by
 intro y hy;simp only[Zf,List.mem_cons,List.not_mem_nil,or_false] at hy;rcases hy with rfl | rfl | rfl | rfl | rfl
 ·rfl
 ·exact h1
 ·rfl
 ·exact h2
 exact h3
theorem U7 {base N:Nat}{av:LN}{H:Array Obj}{q:IV}(h:∀L:LN,(∀b∈L,b<N)→Zu L H q.p.va q.p.vm q.p.ve q.p.a) (hb:base≤N) (G:∀b∈av,b<N):∀t∈QdH q,ZC base av H t.1 t.2.1 t.2.2.1 t.2.2.2:=by
 intro t I;simp only[List.mem_cons,List.not_mem_nil,or_false] at I;rcases I with rfl | rfl | rfl
 ·exact ZC.of_lt (λL E=>(h L E).al) hb G
 ·exact ZC.of_lt (λL E=>(h L E).mr) hb G
 exact ZC.of_lt (λL E=>(h L E).ed) hb G
structure Uk (base:Nat) (w:World) (vc va:Value) (co:List IV) (al:LI):Prop where
 c:w.ownsRow base 66 5 vc co.length (co.flatMap Zf)
 a:Qt 3 base w va al
 dj:Dj vc va
 each:∀q∈co,∀t∈QdH q,ZC base (ob vc++ob va) w.heap t.1 t.2.1 t.2.2.1 t.2.2.2
section
variable {base:Nat} {w w':World} {vc va vc' va':Value} {co:List IV} {al:LI}
theorem Uk.nil:Uk base w (nS) (nS) [] []:=⟨QO _ _ _ _,QO _ _ _ _,Dj.nil _,λq hq=>by cases hq⟩
theorem Uk.ext (h:Uk base w vc va co al) (E:Step [] w w'):Uk base w' vc va co al:=⟨Qm h.c E,Qm h.a E,h.dj,λq hq t G=>(h.each q hq t G).ext E⟩
theorem Uk.low {X:LN}(h:Uk base w vc va co al) (E:Step X w w') (G:∀b∈X,b<base):Uk base w' vc va co al :=
 ⟨Qj h.c E (λb hb hm=>by have:=(Qk h.c b hb).1;have:=G b hm;omega),Qj h.a E (λb hb hm=>by have:=(Qk h.a b hb).1;have:=G b hm;omega),h.dj,λq hq t H=>(h.each q hq t H).low E G⟩
theorem Uk.avlt (h:Uk base w vc va co al):∀b∈ob vc++ob va,b<w.heap.size:=λb hb=>(Lj.1 hb).elim (QP h.c b) (QP h.a b)
theorem Uk.setC {q:IV}(h:Uk base w vc va co al) (hq:∀t∈QdH q,ZC base (ob vc++ob va) w.heap t.1 t.2.1 t.2.2.1 t.2.2.2) (T:w'.ownsRow base 66 5 vc' (co.length+1) (co.flatMap Zf++Zf q))
  (E:Step (ob vc) w w') (G:∀b∈ob vc',b∈ob vc∨w.heap.size≤b):Uk base w' vc' va (co++[q]) al:=by
 have H:Step (ob vc++ob va) w w':=E.mono (λb hb=>Lj.2 (.inl hb));have I:∀b∈ob vc'++ob va,b∈ob vc++ob va∨w.heap.size≤b:=λb hb=>by
  rcases Lj.1 hb with hb | hb
  ·exact (G b hb).imp (λh=>Lj.2 (.inl h)) id
  exact .inl (Lj.2 (.inr hb))
 refine ⟨?_,Qj h.a E (λb hb V=>h.dj b V hb),λb hb J=>?_,λd hd t S=>?_⟩
 ·rw[Li,Lz];simpa using T
 ·rcases G b hb with h1 | h1
  ·exact h.dj b h1 J
  have:=QP h.a b J;omega
 rcases Lj.1 hd with hd | hd
 ·exact (h.each d hd t S).app H I
 simp only[List.mem_singleton] at hd;subst hd;exact (hq t S).app H I
theorem Uk.setA {G:LI}(h:Uk base w vc va co al) (J:Qt 3 base w' va' G) (H:Step (ob va) w w') (I:∀b∈ob va',b∈ob va∨w.heap.size≤b):Uk base w' vc va' co G:=by
 have S:Step (ob vc++ob va) w w':=H.mono (λb hb=>Lj.2 (.inr hb));have T:∀b∈ob vc++ob va',b∈ob vc++ob va∨w.heap.size≤b:=λb hb=>by
  rcases Lj.1 hb with hb | hb
  ·exact .inl (Lj.2 (.inl hb))
  exact (I b hb).imp (λh=>Lj.2 (.inr h)) id
 refine ⟨Qj h.c H (λb hb E=>h.dj b hb E),J,λb hb E=>?_,λd hd t V=>(h.each d hd t V).app S T⟩;rcases I b E with h1 | h1
 ·exact h.dj b hb h1
 have:=QP h.c b hb;omega
theorem Uk.itms {L:LN}(h:Uk base w vc va co al) (G:co.length≤1099511627776) (hm:∀q∈co,Ue q.nm) (E:∀b∈L,b<base):Y6 L w.heap vc co :=
 ⟨QR h.c G (λb hb H=>by have:=(Qk h.c b hb).1;have:=E b H;omega),λq hq=>⟨h.each q hq (q.p.va,q.p.a.al.length,1,q.p.a.al.map (.int .i64)) (by simp) L (λb hb=>.inl (E b hb)),h.each q hq (q.p.vm,q.p.a.mr.length,1,q.p.a.mr.map (.int .i64)) (by simp) L (λb hb=>.inl (E b hb)),h.each q hq (q.p.ve,q.p.a.ed.length,3,q.p.a.ed.flatMap Qz) (by simp) L (λb hb=>.inl (E b hb))⟩,hm⟩
end
theorem YM (ns:LN):(bys ns).length=ns.length:=by rw[bys,Lb]
def grN (ns:LN) (o:Nat):LN:=(ns.drop o).take 27
theorem Qf3 {ns:LN}{o:Nat}(h:o+27≤ns.length):(grN ns o).length=27:=by unfold grN;simp;omega
theorem Qjw {ns:LN}{o:Nat}(h:∀n∈ns,n<256):∀n∈grN ns o,n<256:=Qi6 h o 27
theorem QgR (ns:LN) (n:Nat):(bys ns).set 0 (.int .u8 (n:Int))=bys (ns.set 0 n):=by
 unfold bys;rw[List.map_set]
theorem QhK {ns:LN}{n:Nat}(h:∀m∈ns,m<256) (E:n<256):∀m∈ns.set 0 n,m<256:=λm hm=>by
 rcases Ng hm with h1 | rfl
 ·exact h m h1
 exact E
theorem QeR {ns:LN}{n:Nat}(h:0<ns.length):(ns.set 0 n).getD 0 0=n:=by simp[List.getD,h]
structure GdA (a:QV):Prop where
 ok:Zr a
 p:0<a.st
 s:a.st≤3
 c:∃a0:QV,Zr a0∧0<a0.st∧a=Yt a0
theorem Qat {a:QV}(E:Zr a) (h:0<a.st):0<(Yt a).st:=by
 have H:=(Vf E).1;show 0<((found a).length:Int);have G:(0:Int)∈found a:=by
  have key:∀(f i:Nat) (out:LI),(0:Int)∈out→(0:Int)∈zI a f i out:=by
   intro f;induction f with
   | zero=>intro i out h;exact h
   | succ f ih =>
    intro i out h;rw[zI];split
    ·exact ih _ _ (yY _ _ _ h)
    exact h
  refine key _ _ _ ?_;unfold fd0;rw[if_pos h];simp
 have:=List.length_pos_of_mem G;omega
theorem GdA.of {a E:QV}{n:Nat}(G:Zr E) (h1:0<E.st) (h2:E.st≤((1+n % 5:Nat):Int)) (h3:a=Yt E) (I:n<3):GdA a:=by
 have H:=jc G;subst h3;exact ⟨H.1,Qat G h1,by have:=H.2.2;omega,E,G,h1,O⟩
end Go.Proofs.YtdffckgdcegpaaaGreatDoor
namespace Go.Lg
open Go.RowKit
section
variable {P:Program} {n:Nat} {f:Fr} {w:World} {all:List Oper} {C:World→Prop} {K:Fr→World→Prop}
end
section
variable {P:Program} {n:Nat} {f:Fr} {w:World} {all:List Oper} {C J:World→Prop} {K:Fr→World→Prop}
end
end Go.Lg
namespace Go.Proofs.YtdffckgdcegpaaaGreatDoor
open Go.Proofs.Tryz
open Go.Lg
instance ayZi1:Ay prog 29 3 28 27:=⟨by kernel_rfl,by kernel_rfl⟩
theorem Qcc (p:Int×Int):∀u∈QQ p,u.oneCell'=true:=by
 intro y hy;simp only[QQ,List.mem_cons,List.not_mem_nil,or_false] at hy;rcases hy with rfl | rfl <;> rfl
instance ayAv1:Ay prog 23 5 5 1:=⟨underlying23,by kernel_rfl⟩
def nm1 (c k:Nat):ByteArray:=⟨#[UInt8.ofNat (c+k)]⟩
def Jp (k n:Nat):Km:=if 48≤n∧n<52 then ⟨nm1 97 k,false,false,false,(n:Int) - 47⟩ else
 ⟨nm1 97 k,decide (((n &&& 1:Nat):Int)=1),decide (((n &&& 2:Nat):Int)=2),decide (((n &&& 4:Nat):Int)=4),0⟩
def Y8 (ns:LN) (i:Nat):List Km:=(List.range i).map λk=>Jp k (ns.getD k 0)
theorem Qbs (ns:LN) (i:Nat):Y8 ns (i+1)=Y8 ns i++[Jp i (ns.getD i 0)]:=by
 unfold Y8;rw[Nu,Ls];rfl
theorem Kg (ns:LN) (i:Nat):(Y8 ns i).length=i:=by unfold Y8;simp
set_option maxHeartbeats 1000000 in
theorem QaG {w:World}{ns:LN}(hn:ns.length=5) (hb:∀n∈ns,n<256) :
  QJ prog 51 [.agg (bys ns).toArray] w λr w'=>Step [] w w'∧w'.ownsRow w.heap.size 87 5 r (Y8 ns 5).length ((Y8 ns 5).flatMap Zn):=by
 refine QJ.of_W func51 O ntmps51 results51 (by simp) ?_;refine Qc<|xl O<|QT (us:=bys ns) O λb1 w1 ho hL hp=>Qe ?_;have hu:=ho.size;refine Qc<|Qe<|Qf<|Qc<|Qe<|Qg<|Qy (α:=Nat×Value) [(3,53)] (λz=>[(3,z.2),(4,.int .i64 z.1)]) (λz w'=>z.1≤5∧Step [] w1 w'∧w'.ownsRow w1.heap.size 87 5 z.2 (Y8 ns z.1).length ((Y8 ns z.1).flatMap Zn)) (λz=>5 - z.1) (by rfl) (0,Za) ⟨O,O,U⟩
  ⟨Lk _,Step.refl _ _,QO _ _ _ _⟩ ?_
 rintro ⟨k,v⟩ g w2 ⟨hk,T,J⟩;simp only[] at hk J;refine Qf<|Qc<|Qb<|x (QA O O)<|xe<|QE rfl (λh7=>?_) (λh7=>?_)
 ·refine Qw ?_;have hv:k=5:=by have h8:¬(k:Int)<5:=h7;omega
  rw[hv] at J;refine Qc<|Qb<|Qe ?_;exact Qn ⟨[v],Z,ho.trans T,Zg J hu⟩
 have E:k<5:=by have h8:(k:Int)<5:=h7;omega
 have q:=VU (ns:=ns) (j:=0+k*1) (by omega);have ql:=Xg hb (0+k*1);have hw:ns.getD (0+k*1) 0=ns.getD k 0:=by rw[show 0+k*1=k by omega]
 rw[hw] at q ql;have hq:=Qbs ns k;have hM:=Kg ns k;refine Zb (ns.getD k 0) λn hy=>?_;rw[hy] at q ql hq;have h0:=hp.ext T;refine Qi<|Qf<|Qg<|Qc<|Qb<|x (ZL (k':=.u8) O ⟨by omega,by omega⟩)<|QN O O<|xl O<|QC (us:=[[.int .u8 ((97:Int)+(k:Int))]]) O O (by decide) (by simp) ⟨rfl,rfl,U⟩ λh1 w3 ha hN h2=>?_;have h3:((97:Int)+(k:Int))=((97+k:Nat):Int):=by omega
 have h4:Q3 w3.heap h1 5 [.int .u8 ((97+k:Nat):Int)]:=by rw[←h3];exact h2
 refine x (Qj6 (n:=97+k) h4 (by omega) O)<|x (QF Z)<|xl O<|Qv (us:=[.string ⟨#[]⟩,.bool false,.bool false,.bool false,.int .i64 0]) O λG w4 h5 hO h6=>xl O<|Qr (us:=Zn ⟨nm1 97 k,false,false,false,0⟩) h6 O O O O ⟨O,O,O,O,O,U⟩ λw5 h9 hr =>
  xe ?_
 have he:Step [] w2 w5:=(ha.trans h5).then1 h9 (by have:=ha.size;omega);have H:=h0.ext he;have hP:=he.size;have hQ:=ha.size;have hR:=hp.lt;have hS:=T.size;have hf:b1∉[G]:=by simp only[List.mem_singleton];omega
 refine QW (α:=Unit) [(16,49)] (λ_=>[]) (λ_ w'=>Step [G] w5 w'∧Q3 w'.heap G 87 (Zn (Jp k n))) (by rfl) ?_ ?_
 ·refine QW (α:=Bool) [(16,25)] (λz=>[(25,.bool z)]) (λz w'=>w'=w5∧(z=true↔48≤n∧n<52)) (by rfl) ?_ ?_
  ·refine Qx<|Qb<|x (ZF (i:=k) O O E)<|x (Qd H O q)<|xb (ZU O O) (λhg=>?_) (λhg=>?_)
   ·have hs:(48:Int)≤(n:Int):=hg;refine Qb<|Qb<|x (ZF (i:=k) O O E)<|x (Qd H O q)<|x (QA O O)<|x (Qo O)<|xe<|⟨decide ((n:Int)<52),Z,O,?_⟩;rw[decide_eq_true_eq];omega
   have hs:¬(48:Int)≤(n:Int):=hg;refine Qb<|xs O<|xs O<|xs O<|xs O<|x (Qo O)<|xe ?_;exact ⟨false,Z,O,⟨λh=>(by cases h),λh=>absurd (by omega) hs⟩⟩
  rintro z g6 I ⟨rfl,hz⟩;refine Q2 O (λV=>?_) (λV=>?_)
  ·have hc:=hz.1 V;refine Qx<|Qb<|x (ZF (i:=k) O O E)<|x (Qd H O q)<|x (ZL (k':=.i64) O ⟨by omega,by omega⟩)<|x (X2 O O ⟨by omega,by omega⟩)<|x (Qa O)<|xl O<|QG hr O O (by simp) rfl λw7 S hh =>
    xe ?_
   refine ⟨(),U,S,?_⟩;unfold Jp;rw[if_pos hc];exact hh
  have hc:¬(48≤n∧n<52):=λh=>by have:=hz.2 h;rw[this] at V;cases V
  have Y:Step [] I { I with drawn:=I.drawn+1 }:=Step.drew _ _
  refine QS (Step [G] I) [(0,true),(1,true),(2,true),(3,true),(4,true),(5,true),(6,true),(7,true),(8,true),(9,true),(10,true),(11,true),(12,true),(13,true),(14,true),(15,true),(16,false),(17,true),(18,false),(19,true),(20,false)] mixed (by rfl) (by kernel_rfl) (Step.drew _ _) ?_
  refine p (λ_=>Ql)<|p (λ_=>ZF (i:=k) O O E)<|pq (λ_ hc=>Qd (H.step hc hf) O q)<|p (λ_=>UU (a:=n) (b:=1) O O ql (by decide))<|p (λ_=>Q8 O O) <|
   p (λ_=>Ql)<|p (λ_=>ZF (i:=k) O O E)<|pq (λ_ hc=>Qd (H.step hc hf) O q)<|p (λ_=>UU (a:=n) (b:=2) O O ql (by decide))<|p (λ_=>Q8 O O) <|
   p (λ_=>Ql)<|p (λ_=>ZF (i:=k) O O E)<|pq (λ_ hc=>Qd (H.step hc hf) O q)<|p (λ_=>UU (a:=n) (b:=4) O O ql (by decide))<|p (λ_=>Q8 O O)<|?_
  refine p (λ_=>Qa O)<|pk<|QG (hr.ext Y) O O (by simp) rfl λw7 S hh=>⟨(Y.any (L:=[G])).trans' S,?_⟩;refine p (λ_=>Qa O)<|pk<|QG hh O O (by simp) rfl λw8 ht hA=>⟨((Y.any (L:=[G])).trans' S).trans' ht,?_⟩;refine p (λ_=>Qa O)<|pkl (hl:=by kernel_rfl)<|QG hA O O (by simp) rfl λw9 hB hC=>pe ?_;refine ⟨(),U,(((Y.any (L:=[G])).trans' S).trans' ht).trans' hB,?_⟩
  unfold Jp;rw[if_neg hc];exact hC
 rintro _ g6 I ⟨hD,hE⟩;have hF:Step [] w2 I:=he.then1 hD (by omega);refine Qx<|Qb<|x (Qs hE O O)<|xl O<|QC (us:=[Zn (Jp k n)]) O O (by decide) (show 1*5≤1000000 by omega) ⟨O,O,U⟩ λhT hU hG hV hH=>?_;have hj:=hF.trans hG;have hW:=hj.size
 refine xl rfl<|QU (news:=Zn (Jp k n)) (L:=[]) (Qm J hj) O O O (hH.at (by simp)) (j9 _) (by omega) (by omega) λhI hX hJ hK hY =>
  Qe<|Qx<|Qb<|QN O O<|Qe<|⟨(k+1,hI),by simp only[];omega,⟨O,O,U⟩,E,(T.trans hj).then hK (λc hc=>.inr (Qk J c hc).1),?_⟩
 simp only[];rw[hq,Li,Lz];simpa using hJ
def YZ (k:Nat):LI:=(List.range k).map λi:Nat=>(i:Int)
theorem UX (k:Nat):(YZ k).length=k:=by simp[YZ]
theorem zu (k:Nat):YZ (k+1)=YZ k++[(k:Int)]:=by unfold YZ;rw[Nu,Ls];rfl
theorem jM (k:Nat) (x:Int):x∈YZ k↔0≤x∧x<(k:Int):=by
 unfold YZ;simp only[List.mem_map,List.mem_range];constructor
 ·rintro ⟨i,hi,rfl⟩;omega
 intro h;exact ⟨x.toNat,by omega,by omega⟩
theorem Qft (k:Nat):Yd (YZ k):=by
 induction k with
 | zero=>exact List.Pairwise.nil
 | succ k ih =>
  rw[zu];refine L0.2 ⟨ih,Mm _ _,λx hx y hy=>?_⟩;have:=(jM k x).1 hx;simp at hy;omega
def YY (n m:Nat):LI:=(List.range n).map λk:Nat=>if k<m then (k:Int) else -1
theorem zF {m k:Nat}(h:k<m):Xf (YZ m) (k:Int)=k:=by
 unfold Xf YZ;simp[List.getD,h]
theorem QlT {fd out R:LI}{t:Int}(hp:fd=out++R) (hm:t∈out):U6 fd t=(out.idxOf t:Nat):=by
 subst hp;unfold U6;rw[if_pos (LF _ hm),MR,if_pos hm]
theorem Qkv {fd out R:LI}{t:Int}(hp:fd=out++[t]++R) (hm:t∉out):U6 fd t=(out.length:Nat):=by
 subst hp;unfold U6;rw[if_pos (by simp),LA,MR,if_neg hm];simp
theorem zE {n m k:Nat}(h:k<n):Xf (YY n m) (k:Int)=if k<m then (k:Int) else -1:=by
 unfold Xf YY;simp[List.getD,h]
theorem Qfo {n m:Nat}:(YY n m).set m (m:Int)=YY n (m+1):=by
 apply Mk
 ·simp[YY]
 intro k h1 h2;have hk:k<n:=by simpa[YY] using h2
 rw[Nm];by_cases e:m=k
 ·subst e;simp[YY]
 rw[if_neg e];simp only[YY,List.getElem_map,List.getElem_range];by_cases h3:k<m
 ·rw[if_pos h3,if_pos (by omega)]
 rw[if_neg h3,if_neg (by omega)]
theorem zr {R:Nat→List Ed}(E:∀i,∀e∈R i,e.1=(i:Int)) (j:Nat):∀n,ZK ((List.range' 0 n).flatMap R) j=if j<n then R j else []
 | 0=>by simp[ZK]
 | n+1=>by
  have G:ZK (R n) j=if n=j then R n else []:=by
   unfold ZK;by_cases e:n=j
   ·rw[if_pos e];exact Nl.2 λx hx=>decide_eq_true (by rw[E n x hx,e])
   rw[if_neg e];exact Na.2 λx hx=>by rw[decide_eq_true_eq,E n x hx];omega
  rw[MO,Lz,LP];unfold ZK at G ⊢;rw[L3];have ih:=zr E j n;unfold ZK at ih;rw[ih];simp only[List.flatMap_cons,List.flatMap_nil,List.append_nil];rw[G];by_cases h1:j<n
  ·rw[if_pos h1,if_neg (by omega),if_pos (by omega),LH]
  rw[if_neg h1];by_cases h2:n=j
  ·subst h2;rw[if_pos rfl,if_pos (by omega),L8]
  rw[if_neg h2,if_neg (by omega)];rfl
section
variable {a:QV}
theorem UB {s:Int}:∀(vs:LI) (out:LI),∃r,vs.foldl (KP a s) out=out++r
 | [],out=>⟨[],by simp⟩
 | v::vs,out=>by
  rw[LO];obtain ⟨r,E⟩:=UB vs (KP a s out v);rw[E];unfold KP;split
  ·exact ⟨[nxt a.ed s v]++r,by rw[LA]⟩
  exact ⟨r,O⟩
theorem UA:∀(f i:Nat) (out:LI),∃r,zI a f i out=out++r
 | 0,i,out=>⟨[],by simp[zI]⟩
 | f+1,i,out=>by
  rw[zI];split
  ·obtain ⟨r,E⟩:=UA f (i+1) (fdR a out (cget out i));obtain ⟨G,H⟩:=UB (a:=a) (s:=cget out i) a.al out;refine ⟨G++r,?_⟩;rw[E];unfold fdR;rw[H,LA]
  exact ⟨[],by simp⟩
theorem Up {fd:LI}{i:Nat}:∀(vs out:LI) (c:Cs),(∃r,fd=vs.foldl (KP a (cget fd i)) out++r)→c.ord=YZ out.length→c.num=YY fd.length out.length →
  (vs.filterMap (Jv a fd i)).foldl (Zy i) c=⟨YZ (vs.foldl (KP a (cget fd i)) out).length,YY fd.length (vs.foldl (KP a (cget fd i)) out).length,c.mk',c.ed++vs.filterMap (Jv a fd i)⟩
 | [],out,c,_,h1,h2=>by
  obtain ⟨o,n,m,e⟩:=c;simp only[] at h1 h2;subst h1 h2;simp
 | v::vs,out,c,E,h1,h2=>by
  rw[LO] at E ⊢;obtain ⟨r,E⟩:=E;obtain ⟨r2,V⟩:=UB (a:=a) (s:=cget fd i) vs (KP a (cget fd i) out v);have G:fd=KP a (cget fd i) out v++(r2++r):=by rw[←LA,←V];exact E
  by_cases I:0≤nxt a.ed (cget fd i) v
  ·have J:Jv a fd i v=some ((i:Int),v,U6 fd (nxt a.ed (cget fd i) v)):=by unfold Jv;rw[if_pos I]
   rw[Mq,J];simp only[];rw[LO];by_cases hm:nxt a.ed (cget fd i) v∈out
   ·have H:KP a (cget fd i) out v=out:=by unfold KP;rw[if_neg (λh=>h.2 hm)]
    rw[H] at E G ⊢;have hix:U6 fd (nxt a.ed (cget fd i) v)=(out.idxOf (nxt a.ed (cget fd i) v):Nat):=QlT G hm;have Y:=MJ hm;have T:out.length≤fd.length:=by rw[G];simp
    have S:Zy i c ((i:Int),v,U6 fd (nxt a.ed (cget fd i) v))=⟨c.ord,c.num,c.mk',c.ed++[((i:Int),v,U6 fd (nxt a.ed (cget fd i) v))]⟩:=by
     unfold Zy;simp only[];rw[h2,hix,zE (by omega),if_pos Y,if_neg (by omega)]
    rw[S,Up vs out ⟨c.ord,c.num,c.mk',c.ed++[((i:Int),v,U6 fd (nxt a.ed (cget fd i) v))]⟩ ⟨r,E⟩ h1 h2];simp only[List.append_assoc,List.singleton_append]
   have H:KP a (cget fd i) out v=out++[nxt a.ed (cget fd i) v]:=by unfold KP;rw[if_pos ⟨I,hm⟩]
   rw[H] at E G ⊢;have hix:U6 fd (nxt a.ed (cget fd i) v)=(out.length:Nat):=Qkv G hm;have T:out.length<fd.length:=by rw[G];simp
   have S:Zy i c ((i:Int),v,U6 fd (nxt a.ed (cget fd i) v))=⟨YZ (out.length+1),YY fd.length (out.length+1),c.mk',c.ed++[((i:Int),v,U6 fd (nxt a.ed (cget fd i) v))]⟩:=by
    unfold Zy;simp only[];rw[h1,h2,hix,zE T,if_neg (Nat.lt_irrefl _),if_pos (by omega),UX,zu];simp only[Int.toNat_natCast];rw[Qfo]
   rw[S,Up vs (out++[nxt a.ed (cget fd i) v]) _ ⟨r,E⟩ (by simp) (by simp)];simp only[List.append_assoc,List.singleton_append]
  have J:Jv a fd i v=none:=by unfold Jv;rw[if_neg I]
  have H:KP a (cget fd i) out v=out:=by unfold KP;rw[if_neg (λh=>I h.1)]
  rw[H] at E ⊢;rw[Mq,J];exact Up vs out c ⟨r,E⟩ h1 h2
theorem QgN (fd:LI) (i:Nat):Yp a fd (i+1)=Yp a fd i++(if cget fd i∈a.mr then [(i:Int)] else []):=by
 unfold Yp;rw[MO,L3,Ls,LP];by_cases h:cget fd i∈a.mr <;> simp[h]
theorem QgP (fd:LI) (i:Nat):YC a fd (i+1)=YC a fd i++a.al.filterMap (Jv a fd i):=by
 unfold YC;rw[MO,Lz,LP];simp
theorem Qau {fd:LI}{i n:Nat}(h:i<n):(i:Int)∈Yp a fd n↔cget fd i∈a.mr:=by
 unfold Yp;simp only[List.mem_map,List.mem_filter,List.mem_range'_1,decide_eq_true_eq];constructor
 ·rintro ⟨k,⟨_,h2⟩,h3⟩;have:k=i:=by omega
  subst this;exact h2
 intro h2;exact ⟨i,⟨by omega,h2⟩,O⟩
theorem QgO {fd:LI}(J:fd=found a) (hn:fd.length≤a.st.toNat):∀(f g i:Nat) (out:LI),i≤out.length→zI a g i out=fd→i+g=a.st.toNat→fd.length≤i+f →
  JF (Yt a) f i ⟨YZ out.length,YY fd.length out.length,Yp a fd i,YC a fd i⟩=⟨YZ fd.length,YY fd.length fd.length,Yp a fd fd.length,YC a fd fd.length⟩:=by
 have T:(Yt a).ed=YC a fd fd.length:=by rw[J];rfl
 have V:(Yt a).mr=Yp a fd fd.length:=by rw[J];rfl
 have done:∀(i:Nat) (out:LI),i≤out.length→out=fd→¬i<out.length→(⟨YZ out.length,YY fd.length out.length,Yp a fd i,YC a fd i⟩:Cs)=⟨YZ fd.length,YY fd.length fd.length,Yp a fd fd.length,YC a fd fd.length⟩:=by
  intro i out h1 h2 h3;have:i=fd.length:=by rw[←h2];omega
  rw[this,h2]
 intro f;induction f with
 | zero =>
  intro g i out h1 h2 h3 Y;obtain ⟨r,E⟩:=UA (a:=a) g i out;rw[h2] at E;have hl:fd.length=out.length+r.length:=by rw[E,Li]
  have ha:r=[]:=Lo (by omega);rw[JF];exact done i out h1 (by rw[E,ha,LH]) (by omega)
 | succ f ih =>
  intro g i out h1 h2 h3 Y;obtain ⟨r,E⟩:=UA (a:=a) g i out;rw[h2] at E;have hl:fd.length=out.length+r.length:=by rw[E,Li]
  rw[JF];simp only[UX];by_cases hi:i<out.length
  ·rw[if_pos hi];obtain ⟨G,rfl⟩:∃G,g=G+1:=⟨g - 1,by omega⟩;rw[zI,if_pos hi] at h2;have hb:cget out i=cget fd i:=by
    rw[E];unfold cget;simp[List.getD,List.getElem?_append_left hi]
   rw[hb] at h2;have I:i<fd.length:=by omega
   have hf:ZK (Yt a).ed (i:Int)=a.al.filterMap (Jv a fd i):=by
    rw[T];unfold YC;rw[zr (λj e he=>by
     obtain ⟨v,_,H⟩:=MP.1 he;unfold Jv at H;split at H
     ·cases H;rfl
     cases H),if_pos I]
   have hg:Yk (Yt a) i ⟨YZ out.length,YY fd.length out.length,Yp a fd i,YC a fd i⟩=⟨YZ out.length,YY fd.length out.length,Yp a fd (i+1),YC a fd i⟩:=by
    unfold Yk;simp only[];rw[zF hi,V,QgN];by_cases hc:cget fd i∈a.mr
    ·rw[if_pos ((Qau I).2 hc),if_pos hc]
    rw[if_neg (λh=>hc ((Qau I).1 h)),if_neg hc];simp
   have hh:qT (Yt a) i ⟨YZ out.length,YY fd.length out.length,Yp a fd i,YC a fd i⟩=⟨YZ (fdR a out (cget fd i)).length,YY fd.length (fdR a out (cget fd i)).length,Yp a fd (i+1),YC a fd (i+1)⟩:=by
    unfold qT;rw[hg];simp only[];rw[zF hi,hf];obtain ⟨r3,S⟩:=UA (a:=a) G (i+1) (fdR a out (cget fd i));rw[h2] at S;rw[Up a.al out ⟨YZ out.length,YY fd.length out.length,Yp a fd (i+1),YC a fd i⟩ ⟨r3,S⟩ rfl rfl,QgP];rfl
   rw[hh];obtain ⟨r4,hj⟩:=UB (a:=a) (s:=cget fd i) a.al out;exact ih G (i+1) _ (by unfold fdR;rw[hj,Li];omega) h2 (by omega) (by omega)
  rw[if_neg hi];have h5:zI a g i out=out:=by
   cases g with
   | zero=>rfl
   | succ g=>rw[zI,if_neg hi]
  exact done i out h1 (h5.symm.trans h2) hi
theorem QgM (E:Zr a) (G:0<a.st):JG (Yt a)=Yt a:=by
 have T:=Qat E G;have I:=(Vf E).1.len E.st0;have V:(Yt a).st=((found a).length:Int):=rfl;have H:(Yt a).st.toNat=(found a).length:=by omega
 have Y:0<(found a).length:=by omega
 have h:=QgO (a:=a) O I (found a).length a.st.toNat 0 (fd0 a) (Lk _) O (by omega) (by omega);have J:fd0 a=[0]:=by unfold fd0;rw[if_pos G]
 rw[J] at h;have S:Jw (Yt a)=⟨YZ 1,YY (found a).length 1,Yp a (found a) 0,YC a (found a) 0⟩:=by
  unfold Jw;rw[H];have e:(List.replicate (found a).length (-1:Int)).set 0 0=YY (found a).length 1:=by
   apply Mk
   ·simp[YY]
   intro k h1 h2;rw[Nm];simp only[YY,List.getElem_map,List.getElem_range,List.getElem_replicate];by_cases e:k=0
   ·subst e;simp
   rw[if_neg (by omega),if_neg (by omega)]
  rw[e];simp[YZ,Yp,YC]
 unfold JG;rw[if_neg (by omega)];simp only[];rw[S,H];have h':JF (Yt a) (found a).length 0 ⟨YZ 1,YY (found a).length 1,Yp a (found a) 0,YC a (found a) 0⟩=⟨YZ (found a).length,YY (found a).length (found a).length,Yp a (found a) (found a).length,YC a (found a) (found a).length⟩:=h;rw[h'];simp only[UX];rfl
theorem Qbk (E:Zr a) (G:0<a.st):JW (Yt a)=true:=by
 unfold JW;rw[QgM E G];simp[(ZG _).2 (jc E).1]
theorem GdA.can {a:QV}(h:GdA a):JW a=true:=by
 obtain ⟨E,h1,h2,rfl⟩:=h.c;exact Qbk h1 h2
end
structure D25 (c:Zw):Prop where
 ev:∃ns:LN,ns.length=5∧c.ev=Y8 ns 5
 c0:c.co.length≠0
 c3:c.co.length≤3
 r2:c.rq.length≤2
 co:∀x∈c.co,Yz x.nm=true∧GdA x.a∧∀e∈x.a.al,e<5
 rq:∀x∈c.rq,Yz x.nm=true∧GdA x.a∧∀e∈x.a.al,∃y∈c.co,e∈y.a.al
 nd:(c.co.map (·.nm)++c.rq.map (·.nm)).Nodup
 x2:c.ex.length≤2
 ex:∀x∈c.ex,Yz x.nm=true∧x.ls≠[]∧YN (szs c.co) none x.ls=0
 xn:(c.ex.map (·.nm)).Nodup
 k1:c.cs.length≤1
 cs:∀x∈c.cs,Yz x.nm=true∧YE (szs c.co) x=0
theorem Qhy (n:Nat) (x:Int):x∈JJ n↔0≤x∧x<(n:Int):=jM n x
theorem Qhz (n:Nat):Yd (JJ n):=Qft n
theorem Qib {a b:LI}(ia:Yd a) (ib:Yd b) (h:∀e∈a,e∈b):(mns a b).length=0:=by
 refine Nat.eq_zero_of_not_pos λhp=>?_;obtain ⟨x,hx⟩:=List.exists_mem_of_length_pos hp;have:=(Ux ia ib x).1 hx;by_cases h1:x∈a
 ·simp[h1,h x h1] at this
 simp[h1] at this
theorem QcX {nev:Nat}{amg:LI}{seen:List ByteArray}{x:YH}(G:Yz x.nm=true) (H:x.nm∉seen) (E:GdA x.a) (he:∀e∈x.a.al,e<(nev:Int)) (hi:Yd amg) (hm:∀e∈x.a.al,e∈amg):Z1 nev amg seen x=0:=by
 have hp:=E.p;unfold Z1;rw[if_neg (by rw[G];decide),if_neg H,if_neg (by simpa using (ZG _).2 E.ok),if_neg (by rw[E.can];decide),if_neg (by omega),if_neg,if_neg (by simpa using Qib E.ok.ali hi hm)];intro h;obtain ⟨e,h1,h2⟩:=Ml.1 h;have:=he e h1;have:=of_decide_eq_true h2;omega
theorem QcY {nev:Nat}{al:LI}(I:Yd al):∀(l:List YH) (s:List ByteArray) (u:LI),Yd u→(∀x∈l,Yz x.nm=true∧GdA x.a∧∀e∈x.a.al,e<(nev:Int)∧e∈al)→(s++l.map (·.nm)).Nodup →
  ∃E,Z5 nev al s u l=(0,s++l.map (·.nm),E)∧Yd E∧∀e,e∈E↔e∈u∨∃y∈l,e∈y.a.al
 | [],s,u,hu,_,_=>⟨u,by simp[Z5],hu,by simp⟩
 | x::l,s,u,hu,hx,H=>by
  obtain ⟨h1,h2,h3⟩:=hx x Ln;have J:x.nm∉s:=by
   intro hm;rw[LK,MM] at H;exact H.2.2 _ hm _ Ln O
  have hz:=QcX h1 J h2 (λe he=>(h3 e he).1) I (λe he=>(h3 e he).2);obtain ⟨E,k1,k2,k3⟩:=QcY I l (s++[x.nm]) (mrg (· || ·) u x.a.al) (Qco _ _ _ _ (Lr _) hu h2.ok.ali) (λy hy=>hx y (Ll _ hy)) (by simpa using H);refine ⟨E,?_,k2,λe=>?_⟩
  ·rw[Z5,if_neg (by simpa using hz),k1];simp
  rw[k3,Ux hu h2.ok.ali];constructor
  ·rintro (⟨h5 | h5,_⟩ | ⟨y,hy,G⟩)
   ·exact .inl h5
   ·exact .inr ⟨x,Ln,h5⟩
   exact .inr ⟨y,Ll _ hy,G⟩
  rintro (h5 | ⟨y,hy,G⟩)
  ·exact .inl ⟨.inl h5,by simp[h5]⟩
  rcases Lc.1 hy with rfl | hy
  ·exact .inl ⟨.inr G,by simp[G]⟩
  exact .inr ⟨y,hy,G⟩
theorem QcV {nev:Nat}{u:LI}(hu:Yd u):∀(l:List YH) (s:List ByteArray),(∀x∈l,Yz x.nm=true∧GdA x.a∧∀e∈x.a.al,e<(nev:Int)∧e∈u)→(s++l.map (·.nm)).Nodup→Je nev u s l=0
 | [],s,_,_=>rfl
 | x::l,s,hx,E=>by
  obtain ⟨h1,h2,h3⟩:=hx x Ln;have G:x.nm∉s:=by
   intro hm;rw[LK,MM] at E;exact E.2.2 _ hm _ Ln O
  have hz:=QcX h1 G h2 (λe he=>(h3 e he).1) hu (λe he=>(h3 e he).2);rw[Je,if_neg (by simpa using hz)];exact QcV hu l (s++[x.nm]) (λy hy=>hx y (Ll _ hy)) (by simpa using E)
theorem zL {sz:LI}:∀(l:List jo) (s:List ByteArray),(∀x∈l,Yz x.nm=true∧x.ls≠[]∧YN sz none x.ls=0)→(s++l.map (·.nm)).Nodup→Z9 sz s l=0
 | [],s,_,_=>rfl
 | x::l,s,hx,E=>by
  obtain ⟨h1,h2,h3⟩:=hx x Ln;have G:x.nm∉s:=by
   intro hm;rw[LK,MM] at E;exact E.2.2 _ hm _ Ln O
  have hz:J2 s x.nm=0:=by unfold J2;rw[if_neg (by rw[h1];decide),if_neg G]
  have hl:x.ls.length≠0:=λh=>h2 (Lo h);have H:XS sz x.ls=0:=by unfold XS;rw[if_neg hl];exact h3
  rw[Z9,if_neg (by simpa using hz),if_neg (by simpa using H)];exact zL l (s++[x.nm]) (λy hy=>hx y (Ll _ hy)) (by simpa using E)
theorem Qfq:∀{k:Nat},k<5→Yz (nm1 97 k)=true
 | 0,_=>by decide
 | 1,_=>by decide
 | 2,_=>by decide
 | 3,_=>by decide
 | 4,_=>by decide
theorem Vk {seen:List ByteArray}{k n:Nat}(hk:k<5) (E:nm1 97 k∉seen):Xa seen (Jp k n)=0:=by
 have G:(Jp k n).nm=nm1 97 k:=by unfold Jp;split <;> rfl
 unfold Xa;rw[G,if_neg (by rw[Qfq hk];decide),if_neg E];unfold Jp;by_cases h:48≤n∧n<52
 ·rw[if_pos h];simp only[];rw[if_neg (by omega),if_neg (by simp)]
 rw[if_neg h];simp only[];rw[if_neg (by omega),if_neg (by simp)]
theorem Qgu (ns:LN):Js (Y8 ns 5)=0:=by
 have e:Y8 ns 5=[Jp 0 (ns.getD 0 0),Jp 1 (ns.getD 1 0),Jp 2 (ns.getD 2 0),Jp 3 (ns.getD 3 0),Jp 4 (ns.getD 4 0)]:=rfl;have E:∀k n,(Jp k n).nm=nm1 97 k:=λk n=>by unfold Jp;split <;> rfl
 unfold Js;rw[if_neg (by rw[Kg];decide),e];simp only[V6,E];rw[Vk (by decide) (by decide),Vk (by decide) (by decide),Vk (by decide) (by decide),Vk (by decide) (by decide),Vk (by decide) (by decide)];simp
theorem D25.ck {c:Zw}(h:D25 c):Zc c=0:=by
 obtain ⟨ns,_,G⟩:=h.ev;have V:=h.c3;have Y:=h.r2;have I:c.ev.length=5:=by rw[G,Kg]
 obtain ⟨u',k1,k2,k3⟩:=QcY (nev:=c.ev.length) (al:=JJ c.ev.length) (Qhz _) c.co [] [] List.Pairwise.nil (λx hx=>by
  obtain ⟨h1,h2,h3⟩:=h.co x hx;refine ⟨h1,h2,λe he=>?_⟩;have:=h3 e he;have:=(h2.ok.al e he).1;rw[I,Qhy];exact ⟨by omega,by omega,by omega⟩) (by
  have:=h.nd;rw[MM] at this;simpa using this.1)
 have J:=QcV (nev:=c.ev.length) k2 c.rq (c.co.map (·.nm)) (λx hx=>by
  obtain ⟨h1,h2,h3⟩:=h.rq x hx;refine ⟨h1,h2,λe he=>?_⟩;obtain ⟨y,hy,E⟩:=h3 e he;have:=(h.co y hy).2.2 e E;exact ⟨by omega,(k3 e).2 (.inr ⟨y,hy,E⟩)⟩) h.nd
 unfold Zc;rw[if_neg (by rw[G];simpa using Qgu ns),if_neg h.c0,if_neg (by omega),k1];simp only[List.nil_append];rw[if_neg (by simp),if_neg (by simpa using J)];unfold Ys;have ha:(szs c.co).length=c.co.length:=by unfold szs;simp
 have hc:=h.x2;have S:=h.k1;have T:¬(szs c.co).any JD=true:=by
  intro hb;obtain ⟨n,h1,h2⟩:=Ml.1 hb;unfold szs at h1;obtain ⟨x,hx,rfl⟩:=Ly.1 h1;have:=(h.co x hx).2.1;have h3:=this.p;have E:=this.s;unfold JD at h2;simp at h2;omega
 rw[if_neg (by omega),if_neg T,if_neg (by omega),if_neg (by simpa using zL c.ex [] h.ex (by simpa using h.xn))];rcases H:c.cs with _ | ⟨x,l⟩
 ·rfl
 have hl:l=[]:=Lo (by rw[H,LM] at S;omega);obtain ⟨h1,h2⟩:=h.cs x (by rw[H];exact Ln);have hz:J2 [] x.nm=0:=by unfold J2;rw[if_neg (by rw[h1];decide),if_neg (by simp)]
 rw[hl,YB,if_neg (by simpa using hz),if_neg (by simpa using h2)];rfl
end Go.Proofs.YtdffckgdcegpaaaGreatDoor
namespace Go.Proofs
open Go.Proofs.Tryz
open Go.Shelf
def Tryz.sortI_ren:Go.Shelf.Ren:=⟨λ| 5=>101 | 8=>176 | 7=>175 | 19=>229 | 20=>230 | 10=>221 | 11=>222 | 12=>223 | 13=>224 | 14=>225 | 15=>226 | 16=>160 | 17=>227 | 18=>228 | 30=>267 | 31=>268 | 32=>269 | 33=>270 | 34=>271 | 35=>219 | 40=>296 | n=>n,λ| 23=>37 | 25=>3 | 3=>3 | 32=>269 | 22=>37 | 0=>0 | 44=>338 | 46=>340 | 4=>4 | 36=>332 | 35=>331 | 41=>178 | 5=>5 | 9=>9 | 53=>372 | 57=>376 | 63=>401 | 64=>381 | n=>n,λ| n=>n⟩
theorem Tryz.sortI:Go.Proofs.SlLaysM.n5 prog Tryz.sortI_ren:={
 mixed:=by kernel_rfl
 f5:=⟨Tryz.f101.name,by decide,func101.trans (congrArg some (by kernel_rfl))⟩
 f7:=⟨Tryz.f175.name,by decide,func175.trans (congrArg some (by kernel_rfl))⟩
 f8:=func176.trans (congrArg some (by kernel_rfl))
 f10:=⟨Tryz.f221.name,by decide,func221.trans (congrArg some (by kernel_rfl))⟩
 f11:=⟨Tryz.f222.name,by decide,func222.trans (congrArg some (by kernel_rfl))⟩
 f12:=⟨Tryz.f223.name,by decide,func223.trans (congrArg some (by kernel_rfl))⟩
 f13:=⟨Tryz.f224.name,by decide,func224.trans (congrArg some (by kernel_rfl))⟩
 f14:=⟨Tryz.f225.name,by decide,func225.trans (congrArg some (by kernel_rfl))⟩
 f15:=⟨Tryz.f226.name,by decide,func226.trans (congrArg some (by kernel_rfl))⟩
 f16:=⟨Tryz.f160.name,by decide,func160.trans (congrArg some (by kernel_rfl))⟩
 f17:=⟨Tryz.f227.name,by decide,func227.trans (congrArg some (by kernel_rfl))⟩
 f18:=⟨Tryz.f228.name,by decide,func228.trans (congrArg some (by kernel_rfl))⟩
 f19:=func229.trans (congrArg some (by kernel_rfl))
 f20:=func230.trans (congrArg some (by kernel_rfl))
 f30:=⟨Tryz.f267.name,by decide,func267.trans (congrArg some (by kernel_rfl))⟩
 f31:=func268.trans (congrArg some (by kernel_rfl))
 f32:=func269.trans (congrArg some (by kernel_rfl))
 f33:=⟨Tryz.f270.name,by decide,func270.trans (congrArg some (by kernel_rfl))⟩
 f34:=⟨Tryz.f271.name,by decide,func271.trans (congrArg some (by kernel_rfl))⟩
 f35:=⟨Tryz.f219.name,by decide,func219.trans (congrArg some (by kernel_rfl))⟩
 f40:=⟨Tryz.f296.name,by decide,func296.trans (congrArg some (by kernel_rfl))⟩
 t0:=underlying0
 a0:=Tryz.isAgg0
 z0:=Tryz.sizeOf0
 v0:=Tryz.zeroValue0
 t3:=underlying3
 a3:=Tryz.isAgg3
 z3:=Tryz.sizeOf3
 v3:=Tryz.zeroValue3
 t4:=underlying4
 a4:=Tryz.isAgg4
 z4:=Tryz.sizeOf4
 v4:=Tryz.zeroValue4
 t5:=underlying5
 a5:=Tryz.isAgg5
 z5:=Tryz.sizeOf5
 v5:=Tryz.zeroValue5
 t9:=underlying9
 a9:=Tryz.isAgg9
 z9:=Tryz.sizeOf9
 v9:=Tryz.zeroValue9
 t22:=underlying37
 a22:=Tryz.isAgg37
 z22:=Tryz.sizeOf37
 v22:=Tryz.zeroValue37
 t23:=underlying37
 a23:=Tryz.isAgg37
 z23:=Tryz.sizeOf37
 v23:=Tryz.zeroValue37
 t25:=underlying3
 a25:=Tryz.isAgg3
 z25:=Tryz.sizeOf3
 v25:=Tryz.zeroValue3
 t32:=underlying269
 a32:=Tryz.isAgg269
 z32:=Tryz.sizeOf269
 v32:=Tryz.zeroValue269
 t35:=underlying331
 a35:=Tryz.isAgg331
 z35:=Tryz.sizeOf331
 v35:=Tryz.zeroValue331
 t36:=underlying332
 a36:=Tryz.isAgg332
 z36:=Tryz.sizeOf332
 v36:=Tryz.zeroValue332
 t41:=underlying178
 a41:=Tryz.isAgg178
 z41:=Tryz.sizeOf178
 v41:=Tryz.zeroValue178
 t44:=underlying338
 a44:=Tryz.isAgg338
 z44:=Tryz.sizeOf338
 v44:=Tryz.zeroValue338
 t46:=underlying340
 a46:=Tryz.isAgg340
 z46:=Tryz.sizeOf340
 v46:=Tryz.zeroValue340
 t53:=underlying372
 a53:=Tryz.isAgg372
 z53:=Tryz.sizeOf372
 v53:=Tryz.zeroValue372
 t57:=underlying376
 a57:=Tryz.isAgg376
 z57:=Tryz.sizeOf376
 v57:=Tryz.zeroValue376
 t63:=underlying401
 a63:=Tryz.isAgg401
 z63:=Tryz.sizeOf401
 v63:=Tryz.zeroValue401
 t64:=underlying381
 a64:=Tryz.isAgg381
 z64:=Tryz.sizeOf381
 v64:=Tryz.zeroValue381 }
def Tryz.cmpI_ren:Go.Shelf.Ren:=⟨λ| 43=>129 | n=>n,λ| 22=>37 | 23=>3 | 3=>3 | 4=>4 | 0=>0 | n=>n,λ| n=>n⟩
theorem Tryz.cmpI:Go.Proofs.SlLaysE.n43 prog Tryz.cmpI_ren:={
 mixed:=by kernel_rfl
 f43:=⟨Tryz.f129.name,by decide,func129.trans (congrArg some (by kernel_rfl))⟩
 t0:=underlying0
 a0:=Tryz.isAgg0
 z0:=Tryz.sizeOf0
 v0:=Tryz.zeroValue0
 t3:=underlying3
 a3:=Tryz.isAgg3
 z3:=Tryz.sizeOf3
 v3:=Tryz.zeroValue3
 t4:=underlying4
 a4:=Tryz.isAgg4
 z4:=Tryz.sizeOf4
 v4:=Tryz.zeroValue4
 t22:=underlying37
 a22:=Tryz.isAgg37
 z22:=Tryz.sizeOf37
 v22:=Tryz.zeroValue37
 a23:=Tryz.isAgg3
 z23:=Tryz.sizeOf3 }
def Tryz.delI_ren:Go.Shelf.Ren:=⟨λ| 10=>55 | 6=>131 | n=>n,λ| 22=>37 | 23=>3 | 25=>118 | 3=>3 | 4=>4 | 0=>0 | n=>n,λ| n=>n⟩
theorem Tryz.delI:Go.Proofs.SlLaysH.n10 prog Tryz.delI_ren:={
 mixed:=by kernel_rfl
 f6:=⟨Tryz.f131.name,by decide,func131.trans (congrArg some (by kernel_rfl))⟩
 f10:=⟨Tryz.f55.name,by decide,func55.trans (congrArg some (by kernel_rfl))⟩
 t0:=underlying0
 a0:=Tryz.isAgg0
 z0:=Tryz.sizeOf0
 v0:=Tryz.zeroValue0
 t3:=underlying3
 a3:=Tryz.isAgg3
 z3:=Tryz.sizeOf3
 v3:=Tryz.zeroValue3
 t4:=underlying4
 a4:=Tryz.isAgg4
 z4:=Tryz.sizeOf4
 v4:=Tryz.zeroValue4
 t22:=underlying37
 a22:=Tryz.isAgg37
 z22:=Tryz.sizeOf37
 v22:=Tryz.zeroValue37
 a23:=Tryz.isAgg3
 z23:=Tryz.sizeOf3
 t25:=underlying118
 a25:=Tryz.isAgg118
 z25:=Tryz.sizeOf118
 v25:=Tryz.zeroValue118 }
end Go.Proofs
namespace Go.Proofs.YtdffckgdcegpaaaGreatDoor
open Go.Proofs.Tryz
open Go.Lg Go.Sort Go.Lib
abbrev iC:Int→Value:=Value.int .i64
theorem VE {e:Nat}{w:World}{l:LI}{g:Nat}{cur:Array Value}(G:w.heap[g]?=some (.cells cur e (0,0))) (H:cur.toList.take (l.length*1)=l.map iC):Holds iC w g 0 l.toArray:=by
 intro j E;rw[LR] at E;have h1:cur.toList[j]?=some (iC l[j]):=by
  have h2:(cur.toList.take (l.length*1))[j]?=(l.map iC)[j]?:=by rw[H]
  rw[LW,if_pos (by omega),Mj,Lt E] at h2;exact h2
 have h3:l.toArray[j]! = l[j]:=by simp[E]
 constructor
 ·show (match w.heap[g]? with | some (.cells c _ _)=>if (none:Option _).isSome then none else c[0+j]? | _=>none)=_
  rw[G,h3];simp only[Nat.zero_add,Option.isSome_none,Bool.false_eq_true,if_false];rw[←Mf,h1]
 show (match w.heap[g]? with | some (.cells _ _ (lo,hi))=>decide (lo≤0+j) && decide (0+j<hi) | _=>false)=false
 rw[G];simp
theorem yq {e base:Nat}{w:World}{g cap n k:Nat}{cur:Array Value}{os:Array Obj}{d:Array Int}(J:base≤g) (H:w.heap[g]?=some (.cells cur e (0,0))) (hb:d.size≤cap) (S:cap≤maxLen) (T:cur.size=cap*1) (hk:k≤d.size) :
  Step [g] w (grow (putRow iC (Sort.ahead w n) g 0 d) os)∧Qt e base (grow (putRow iC (Sort.ahead w n) g 0 d) os) (.slice (some ⟨g,0,none⟩) k cap) (d.toList.take k):=by
 have V:g<w.heap.size:=(LC.1 H).1;have E:(grow (putRow iC (Sort.ahead w n) g 0 d) os).heap=w.heap.modify g (onCells (putCells iC 0 d))++os:=rfl;have Y:(d.toList.take k).length=k:=by simp;omega
 refine ⟨⟨O,O,O,?_,λi hi hn=>?_⟩,?_⟩
 ·rw[E,MX,Ma];omega
 ·rw[E,Mg,Ma,if_pos hi,Mu,if_neg (λe=>hn (by simp[e]))]
 unfold Qt;rw[Y];refine ⟨by simp;omega,.inr ⟨g,cap,putCells iC 0 d cur,O,J,?_,by omega,S,by simp[putCells,T],?_⟩⟩
 ·rw[E,Mg,Ma,if_pos V,Mu,if_pos rfl,H];rfl
 apply M5;intro j;rw[LW,Mj,LW];by_cases I:j<k
 ·rw[if_pos (by omega),if_pos I];have ha:j<cur.size:=by omega
  have G:j<d.size:=by omega
  rw[Mf,Mf,Mo G];simp only[putCells,Array.getElem?_mapIdx,Array.getElem?_eq_getElem ha,Option.map_some,Nat.zero_le,Nat.zero_add,true_and,if_pos G,Nat.sub_zero];rw[getElem!_pos d j G]
 rw[if_neg (by omega),if_neg I];rfl
theorem Vy {w:World}{base:Nat}{v:Value}{l:LI}(h:Qt 3 base w v l) (hl:l.length≤1099511627776) :
  QJ prog 101 [v] w λ_ w'=>Step (ob v) w w'∧Qt 3 base w' v (l.mergeSort λx y=>decide (x≤y)):=by
 unfold QJ;rcases h.2 with ⟨rfl,H⟩ | ⟨g,cap,cur,rfl,I,E,ha,J,S,T⟩
 ·have V:l=[]:=Lo H;subst V;have hc:=AnyM.slices_Sort_int_none Tryz.sortI none 0 w;change Calls prog 101 _ _ _ at hc;refine Calls.mono hc λe w' he=>?_;obtain ⟨rfl,rfl⟩:=he;exact ⟨Step.refl _ _,by rw[List.mergeSort_nil];exact h⟩
 have Y:g<w.heap.size:=(LC.1 E).1;have hc:=AnyM.slices_Sort_int Tryz.sortI g 0 cap l w (VE E T) Y (by omega);change Calls prog 101 _ _ _ at hc;refine Calls.mono hc λe w' he=>?_;obtain ⟨rfl,n,os,rfl⟩:=he;have hp:=M7 l (λx y=>decide (x≤y));have G:=hp.length_eq
 have:=yq (e:=3) (n:=n) (k:=l.length) (os:=os) (d:=(l.mergeSort λx y=>decide (x≤y)).toArray) I E (by simp;omega) J S (by simp);refine ⟨this.1,?_⟩;have h2:=this.2;simp only[List.take_of_length_le (Nat.le_of_eq G)] at h2;unfold Qt at h2 ⊢;rw[G] at h2 ⊢;exact h2
theorem QeP {w:World}{base:Nat}{v:Value}{l:LI}(h:Qt 3 base w v l) (hl:l.length≤1099511627776) :
  QJ prog 101 [v] w λ_ w'=>Step (ob v) w w'∧∃l',l'.length=l.length∧(∀x,x∈l'↔x∈l)∧Qt 3 base w' v l' :=
 (Vy h hl).mono λ_ _ ⟨h1,h2⟩=>⟨h1,_,(M7 l _).length_eq,λ_=>(M7 l _).mem_iff,h2⟩
theorem QcS (l:LI):∀m,m≤l.length→∀x,x∈compactUpTo l.toArray m↔x∈l.take m
 | 0,_,x=>by simp[compactUpTo]
 | m+1,h,x=>by
  have ih:=QcS l m (by omega) x;have hm:m<l.length:=by omega
  have hx:l.toArray[m]! = l[m]:=by simp[hm]
  rw[compactUpTo_succ,Lj,ih,Le hm,Lj,hx,La];by_cases hk:keeps l.toArray m=true
  ·rw[if_pos hk,La]
  rw[if_neg hk];refine ⟨λh=>.inl (h.resolve_right (by simp)),λh=>.inl (h.elim id λe=>?_)⟩;simp only[keeps,decide_eq_true_eq,not_or] at hk;have E:m≠0:=by simpa using hk.1
  have h1:l.toArray[m]! = l.toArray[m - 1]!:=by simpa using hk.2
  have h2:l.toArray[m - 1]! = l[m - 1]:=by simp[show m - 1<l.length by omega]
  rw[e,←hx,h1,h2];rw[List.mem_take_iff_getElem];exact ⟨m - 1,by omega,O⟩
theorem Qi2 {w:World}{base:Nat}{v:Value}{l:LI}(h:Qt 3 base w v l) (hl:l.length≤1099511627776) :
  QJ prog 129 [v] w λr w'=>Step (ob v) w w'∧∃l',l'.length≤l.length∧(∀x,x∈l'↔x∈l)∧Qt 3 base w' r l':=by
 rcases h.2 with ⟨rfl,G⟩ | ⟨g,cap,cur,rfl,H,E,I,J,S,T⟩
 ·have V:l=[]:=Lo G;subst V;refine QJ.of_W func129 O ntmps129 results129 (by simp) ?_;refine Qc<|Qe<|Qf<|Qc<|Qb<|x (V2 O)<|x (QA O O)<|xe<|Q7 O (λ_=>?_) (λY=>absurd (by decide) Y);refine Qc<|Qb<|Qe ?_;exact Qn ⟨[nS],Z,Step.refl _ _,[],Lr _,λx=>Iff.rfl,h⟩
 unfold QJ;have hc:=AnyE.slices_Compact Tryz.cmpI iC (λ_=>O) (.intD _ _ .i64) (.intD _ _ .i64) 0 (λw=>by kernel_rfl) g 0 cap l.toArray w (VE E T) (by simp;omega) (by simpa using I);change Calls prog 129 _ _ _ at hc;rw[LR] at hc;refine Calls.mono hc λe w' he=>?_;obtain ⟨rfl,q,rfl⟩:=he;have hm:=QcS l l.length (Lr _);rw[MU] at hm
 have ha:(compactUpTo l.toArray l.length).length≤l.length:=by
  unfold compactUpTo;rw[Lb];exact LS (Mh _ _) (by simp)
 generalize compactUpTo l.toArray l.length=u at *;have:=yq (e:=3) (n:=q) (k:=u.length) (os:=#[]) (d:=(u++List.replicate (l.length - u.length) 0).toArray) H E (by simp;omega) J S (by simp);rw[grow_empty] at this;refine ⟨this.1,u,ha,hm,?_⟩;have h2:=this.2;have h3:(u++List.replicate (l.length - u.length) 0).toArray.toList.take u.length=u:=by simp
 rw[h3] at h2;exact h2
theorem QaM {w:World}{va vb:Value}{a b:LI}(ha:QL [] w.heap va a) (hb:QL [] w.heap vb b) (hl:a.length+b.length≤1000) :
  QJ prog 53 [va,vb] w λr w'=>Step [] w w'∧∃l,l.length≤a.length+b.length∧(∀x,x∈l↔x∈a∨x∈b)∧Qt 3 w.heap.size w' r l:=by
 refine QJ.of_W func53 O ntmps53 results53 (by simp) ?_;refine Qc<|Qe<|Qc<|Qb<|xl O<|xf<|(ZW ha).mono ?_;rintro v1 w1 ⟨E,G⟩;have ho:=E.size;refine Qb<|xl O<|yA G O (hb.ext E) O (X7 b) (by omega) (by omega) λS H T V hp=>Qe ?_;have I:Qt 3 w.heap.size H S (a++b):=by
  unfold Qt;rw[Li,Ls];exact T
 have Y:Step [] w H:=E.then V (λc hc=>.inr (Qk G c hc).1);have hq:(a++b).length=a.length+b.length:=Li;refine Qc<|Qb<|xl O<|xf<|(QeP I (by omega)).mono ?_;rintro r3 w3 ⟨he,l3,hr,hf,J⟩;have hg:Step [] w w3:=Y.then he (λc hc=>.inr (Qk I c hc).1);refine xe<|Qc<|Qb<|xl O<|xf<|(Qi2 J (by omega)).mono ?_;rintro r4 w4 ⟨hh,l4,hs,hj,hn⟩
 refine Qe ?_;exact Qn ⟨[_],Z,hg.then hh (λc hc=>.inr (Qk J c hc).1),l4,by omega,λx=>by rw[hj,hf,Lj],hn⟩
theorem qd {w:World}{v:Value}{al:LI}{ns:LN}(h:QL [] w.heap v al) (hb:∀e∈al,0≤e∧e<32) (hi:Yd al) (hn:ns.length=27) (J:∀n∈ns,n<256) :
  QJ prog 54 [v,.agg (bys ns).toArray,.int .i64 3] w λr w'=>Step [] w w'∧∃a:QV,Xw w.heap.size w'.heap r a∧GdA a∧a.al=al:=by
 refine QJ.of_W func54 O ntmps54 results54 (by simp) ?_;refine Qc<|xl O<|QT (us:=bys ns) O λb4 w1 S hl E=>xl O<|Qv (us:=[nS,.int .i64 0,nS,nS]) O λb6 w2 G hu T=>xe ?_;obtain ⟨s0,ho⟩:∃s0,ns.getD 0 0=s0:=⟨_,O⟩;have V:ns[0]?=some s0:=by
  rw[←ho,LU,Lt (by omega)];rfl
 have hw:s0<256:=J s0 (LT V);have q0:(bys ns)[0]?=some (.int .u8 (s0:Int)):=by
  unfold bys;rw[Mj,V];rfl
 have Y:=S.trans G;have hy:=S.size;have hz:=E.lt;have h0:=T.lt;refine Qc<|x (Qa O)<|x (Qd (E.ext G) O q0)<|Qb<|x (ZL (k':=.u8) O ⟨by omega,by omega⟩)<|x (US (a:=(s0:Int)) (b:=3) O O (by omega) (by omega))<|x (Qa O)<|xl O<|QG (u:=.int .u8 ((s0 % 3:Nat):Int)) (E.ext G) O (congrArg (Value.int .u8) (by omega:(s0:Int) % 3=((s0 % 3:Nat):Int))) (by rw[YM];omega) O λw3 H ha =>
  xe ?_
 have I:Step [] w w3:=Y.then1 H hl;rw[QgR] at ha;have he:(ns.set 0 (s0 % 3)).length=27:=by rw[MS];exact hn
 have hf:(ns.set 0 (s0 % 3)).getD 0 0=s0 % 3:=QeR (by omega);refine Qc<|Qb<|x (Qs ha O (by rw[YM];exact he))<|xl O<|xf<|(QdD (h.ext I) hb hi he (QhK J (by omega))).mono ?_;rintro r4 w4 ⟨hg,a,hA,h1,_,hp,hc⟩;obtain ⟨a0,k0,k1,k2,k3⟩:=hc (by rw[hf];omega);rw[hf] at k2;obtain ⟨us,hv,hh,hq⟩:=Xv hA
 have hr:Q3 w4.heap b6 58 [nS,.int .i64 0,nS,nS]:=(T.step H (by simp only[List.mem_singleton];omega)).ext hg;have hs:=I.size;have h2:=Y.size;have h3:=H.size;refine xl rfl<|Qr (us:=us) hr O (show Go.Lg.ev _ _=_ from hv) hh O hq λw5 hj ht=>xe ?_
 refine Qn ⟨[.agg us.toArray],⟨⟨_,O,QB hh (ht.at (L:=[]) (by simp)).cells⟩,U⟩,(I.trans hg).then1 hj (by omega),a,?_,GdA.of k0 k1 k2 k3 (Nat.mod_lt _ (by decide)),hp⟩;show Xw _ _ (.agg us.toArray) _;rw[←hv];exact (Jj hA (by omega) hj).mono hs
end Go.Proofs.YtdffckgdcegpaaaGreatDoor
namespace Go.Lg
section
variable {P:Program} {f:Fr} {w:World} {d:Option Nat} {ty:Nat} {ps:String} {af:Array Edge} {gd:Option (Nat×Bool)}
theorem VC {t E:Nat}{k:IntKind}[h:Ik P t k] [h':St P E] {x:Operand}{n:Nat}{G:IntKind}(hx:ev f x=.int G n) (H:n<128) :
  (execOp (ev f) ⟨d,.convert t E x,ty,ps,af,gd⟩).run P w=.ok (.value (.string ⟨#[UInt8.ofNat n]⟩)) w:=by
 refine Ut hx ?_;rw[run_convert_int_string w t E G n (by rw[h.u];rfl) h'.u];have I:Utf8.valid (n:Int)=true:=by
  unfold Utf8.valid;simp;omega
 unfold Utf8.encode;simp only[I,if_true,Int.toNat_natCast,H]
theorem Qe0 {t E:Nat}{x y:Operand}{k:IntKind}{a b:Int}(hx:ev f x=.int k a) (hy:ev f y=.int k b) (hb:b≠0) :
  (execOp (ev f) ⟨d,.binOp .rem t x y E,ty,ps,af,gd⟩).run P w=.ok (.value (.int k (a.tmod b))) w:=by
 refine YW hx hy ?_;simp[binOp,Op.intDiv,hb]
end
end Go.Lg
namespace Go.Proofs.YtdffckgdcegpaaaGreatDoor
open Go.Proofs.Tryz
open Go.Lg Go.Sort
theorem Qkl {L:LN}{b T:Nat}{va:Value}{al:LI}(e:Int) (w:World) (E:Q3 w.heap b T [va]) (G:QL L w.heap va al) :
  QJ prog 56 ([.int .i64 e]++[.pointer (some ⟨b,0,none⟩)]) w λr w'=>r=.bool (decide (e∉al))∧w'=w:=by
 refine QJ.of_W func56 O ntmps56 results56 (by simp) ?_;refine Qc<|Qe<|Qc<|x (Qd E O O)<|Qb<|xl O<|xf<|(ZJ G e).mono ?_;rintro H I ⟨rfl,rfl⟩;refine x (Zm O)<|Qe<|Qn ⟨[_],Z,?_,O⟩;show Value.bool (!decide (e∈al))=_;rw[decide_not]
theorem zy {L:LN}{b T:Nat}{va:Value}{al:LI}(e:Int) (w:World) (E:Q3 w.heap b T [va]) (G:QL L w.heap va al) :
  FnGives prog 56 #[.pointer (some ⟨b,0,none⟩)] #[iC e] (.bool (decide (e∉al))) w:=by
 have h:=Qkl e w E G;unfold QJ at h;unfold FnGives;refine Calls.mono h λH w' he=>?_;cases H with
 | returned v =>
  obtain ⟨rfl,rfl⟩:=he;exact ⟨O,0,O⟩
 | _=>exact he.elim
theorem Qj7 {w:World}{g n:Nat}{os:Array Obj}{d:Array Int}:Step [g] w (grow (putRow iC (Sort.ahead w n) g 0 d) os):=by
 have E:(grow (putRow iC (Sort.ahead w n) g 0 d) os).heap=w.heap.modify g (onCells (putCells iC 0 d))++os:=rfl;refine ⟨O,O,O,?_,λi hi G=>?_⟩
 ·rw[E,MX,Ma];omega
 rw[E,Mg,Ma,if_pos hi,Mu,if_neg (λe=>G (by simp[e]))]
theorem QiR {w:World}{base b T:Nat}{v va:Value}{l al:LI}(h:Qt 3 base w v l) (hl:l.length≤1099511627776) (G:Q3 w.heap b T [va]) (hb:b∉ob v) (H:QL (ob v) w.heap va al) :
  QJ prog 55 [v,.func (.func 56) #[] #[.pointer (some ⟨b,0,none⟩)]] w λr w'=>Step (ob v) w w'∧Qt 3 base w' r (l.filter λx=>decide (x∈al)):=by
 have eg:∀args w,(callFunc 56 args).run prog w=.ok (.enter 56 args) w:=enters_of func56 (by kernel_rfl) O;rcases h.2 with ⟨rfl,Y⟩ | ⟨g,cap,cur,rfl,ha,I,hh,hj,hn,ho⟩
 ·have hp:l=[]:=Lo Y;subst hp;refine QJ.of_W func55 O ntmps55 results55 (by simp) ?_;refine Qc<|Qe<|Qc<|Qb<|Qb<|xl O<|xf<|(QfW (cap:=[.pointer (some ⟨b,0,none⟩)]) (q:=λ_=>true) (QL.fl (Jl [] w.heap)) (λe he=>by cases he)).mono ?_;rintro r1 w1 ⟨rfl,J⟩;refine Qe<|Qf<|Qc<|Qb<|x (Q8 O O)<|xe<|Q7 O (λ_=>?_) (λh8=>absurd O h8);refine Qc<|Qb<|Qe ?_
  exact Qn ⟨[nS],Z,J,Qm h J⟩
 unfold QJ;have S:=λ(n:Nat) (os:Array Obj) (d:Array Int)=>Qj7 (w:=w) (g:=g) (n:=n) (os:=os) (d:=d);have hq:b∉[g]:=hb;have hr:QL [g] w.heap va al:=H;have hc:=AnyE.slices_DeleteFunc Tryz.delI iC (λ_=>O) (λx=>decide (x∉al)) 56 #[.pointer (some ⟨b,0,none⟩)] eg 0 (λw=>by kernel_rfl) g 0 cap l.toArray w
  (λW x E=>by
   have V:Step [] w W:=⟨E.os,E.tape,E.output,E.size,λk hk _=>E.block k hk⟩;exact zy x W (G.ext V) (H.ext V))
  (λn os dk x _=>zy x _ (G.step (S n os dk) hq) (hr.st (S n os dk)))
  (VE I ho) (by simp;omega) (by simpa using hh)
 change Calls prog 55 _ _ _ at hc;rw[LR] at hc;refine Calls.mono hc λe w' he=>?_;obtain ⟨rfl,q,rfl⟩:=he;have hf:(l.toArray.toList.filter λx=>!decide (x∉al))=l.filter λx=>decide (x∈al):=by
  refine List.filter_congr λx _=>?_;by_cases hx:x∈al <;> simp[hx]
 rw[hf];have ht:=Mh (λx=>decide (x∈al)) l;generalize (l.filter λx=>decide (x∈al))=u at *;have:=yq (e:=3) (n:=q) (k:=u.length) (os:=#[]) (d:=(u++List.replicate (l.length - u.length) 0).toArray) ha I (by simp;omega) hj hn (by simp);rw[grow_empty] at this;refine ⟨this.1,?_⟩;have h2:=this.2
 have h3:(u++List.replicate (l.length - u.length) 0).toArray.toList.take u.length=u:=by simp
 rw[h3] at h2;exact h2
end Go.Proofs.YtdffckgdcegpaaaGreatDoor
namespace Go.Lg
section
variable {P:Program} {f:Fr} {w:World} {K:Fr→World→Prop} {d:Option Nat} {ty:Nat} {ps:String} {af:Array Edge} {gd:Option (Nat×Bool)}
theorem Qcg {t e sz bys:Nat}{z:Value}[h:Sl P t e sz bys z] (ha:∀u∈z.cells,u.oneCell'=true) {s:Operand}{b o m c T:Nat}{cs:LV}(I:Q3 w.heap b T cs) (G:∃E,ev f s=.slice (some ⟨b,E,none⟩) m c∧(0<m→E=o∧o+m*sz≤cs.length))
  (V:∀w' cs',Step [b] w w'→Q3 w'.heap b T cs'→cs'.length=cs.length→cs'.take o=cs.take o→K (QX f d (.tuple #[])) w'):XO P ⟨d,.call ⟨.builtin .clear,#[s],#[t]⟩,ty,ps,af,gd⟩ f w K:=by
 obtain ⟨E,G,hm⟩:=G;obtain ⟨i,hi,hz,he,_⟩:=Sl.info h;have hb:=h.zs;rcases Nat.eq_zero_or_pos m with rfl | hmp
 ·have J:(execOp (ev f) ⟨d,.call ⟨.builtin .clear,#[s],#[t]⟩,ty,ps,af,gd⟩).run P w=.ok (.value (.tuple #[])) w:=by
   simp[execOp,resolve,invoke,builtin,G,Builtin.clear_,run_underlying h.u]
  exact xv J (V w cs (Step.refl _ _) I O O)
 obtain ⟨rfl,hf⟩:=hm hmp;have hc:(Builtin.zeroCells z.cells m).toList.length=m*sz:=by simp[Builtin.zeroCells,hb]
 have S:=run_storeCells_at P b E T (Builtin.zeroCells z.cells m).toList 0 cs.toArray w I (by simp only[List.size_toArray];omega) (λu hu=>by
  simp only[Builtin.zeroCells,Array.toList_map,List.mem_map] at hu;obtain ⟨j,hj,rfl⟩:=hu;have hg:=h.pos;have Y:j % z.cells.size<z.cells.size:=Nat.mod_lt _ (by omega);rw[getElem!_pos z.cells _ Y];exact ha _ (Array.getElem_mem Y))
 simp only[Nat.add_zero] at S;obtain ⟨H,rfl⟩:∃H,m=H+1:=⟨m - 1,by omega⟩;have J:(execOp (ev f) ⟨d,.call ⟨.builtin .clear,#[s],#[t]⟩,ty,ps,af,gd⟩).run P w=.ok (.value (.tuple #[])) (w.setRow b ((cs.take E++(Builtin.zeroCells z.cells (H+1)).toList++cs.drop (E+(Builtin.zeroCells z.cells (H+1)).toList.length))).toArray):=by
  simp[execOp,resolve,invoke,builtin,G,Builtin.clear_,run_underlying h.u,zeroValue,typeInfo,hi,hz] at S ⊢;simp[S]
 refine xv J (V _ _ (Step.setRow _ _ _) (Xl I) ?_ ?_)
 ·simp only[List.length_append,List.length_take,List.length_drop,hc];omega
 rw[LA,List.take_append_of_le_length (by simp;omega),List.take_take,Nat.min_self]
theorem JZ {α:Type}{sz:Nat}{g:α→LV}(E:∀x,(g x).length=sz):∀(l:List α) (i:Nat) (u:α),i<l.length→(l.set i u).flatMap g=(l.flatMap g).take (i*sz)++g u++(l.flatMap g).drop (i*sz+sz)
 | [],i,u,h=>absurd h (by simp)
 | a::l,0,u,h=>by
  rw[List.set_cons_zero,LB,LB,Nat.zero_mul,M4,L8,LP,List.drop_append_of_le_length (by rw[E a];exact Lr _),Lq (by rw[E a];exact Lr _),L8]
 | a::l,i+1,u,h=>by
  have h1:(i+1)*sz=(g a).length+i*sz:=by rw[E a,Nat.succ_mul];omega
  have h2:(i+1)*sz+sz=(g a).length+(i*sz+sz):=by omega
  have G:∀(F:LV) k,(g a++F).take ((g a).length+k)=g a++F.take k:=λF k=>by rw[List.take_append,Lm (l:=g a) (by omega),MC]
  have H:∀(F:LV) k,(g a++F).drop ((g a).length+k)=F.drop k:=λF k=>by rw[List.drop_append,Lq (l:=g a) (by omega),L8,MC]
  rw[Nc,LB,LB,h2,h1,G,H,JZ E l i u (by simpa using h)];simp only[List.append_assoc]
theorem Qdy {α:Type}{t sz:Nat}[h1:Ag P t sz] {g:α→LV}(E:∀x,(g x).length=sz) {x y:Operand}{base e b cap i:Nat}{l:List α}{u:α}(h:w.ownsRow base e sz (.slice (some ⟨b,0,none⟩) l.length cap) l.length (l.flatMap g)) (hx:ev f x=.pointer (some ⟨b,i*sz,none⟩)) (hy:ev f y=.agg (g u).toArray) (hi:i<l.length) (hu:ZP (g u))
  (I:∀w',Step [b] w w'→w'.ownsRow base e sz (.slice (some ⟨b,0,none⟩) l.length cap) l.length ((l.set i u).flatMap g)→K (QX f d undef) w'):XO P ⟨d,.store t x y,ty,ps,af,gd⟩ f w K:=by
 rcases h.2 with ⟨e1,_⟩ | ⟨g',cap',cur,e1,J,S,G,T,V,Y⟩
 ·cases e1
 cases e1
 have hB:Q3 w.heap b e cur.toList:=S;have he:l.length*sz≤cap*sz:=Mr _ G;have ha:(i+1)*sz≤l.length*sz:=Mr _ hi;rw[Nat.succ_mul] at ha;have H:cur.toList.length=cap*sz:=by rw[Array.length_toList];exact V
 have hb:=h.1;refine X8 hB hx hy (E u) (by omega) hu O λw' hs hc=>I w' hs ⟨?_,.inr ⟨b,cap,_,O,J,hc,G,T,?_,?_⟩⟩
 ·rw[JZ E l i u hi];simp only[List.length_append,List.length_take,List.length_drop,E u,hb];omega
 ·simp only[List.size_toArray,List.length_append,List.length_take,List.length_drop,E u,H];omega
 have hX:(cur.toList.take (i*sz)++g u).length=i*sz+sz:=by simp only[List.length_append,List.length_take,E u,H];omega
 rw[JZ E l i u hi,←Y];show (cur.toList.take (i*sz)++g u++cur.toList.drop (i*sz+sz)).take (l.length*sz)=_;rw[List.take_append,Lm (by omega),hX,List.take_take,MI (by omega),List.drop_take]
end
end Go.Lg
namespace Go.Proofs.YtdffckgdcegpaaaGreatDoor
open Go.Proofs.Tryz
open Go.Lg
theorem Qfx (p:Int×Int) (w:World):QJ prog 59 [.agg (QQ p).toArray] w λr w'=>r=.bool (decide (p.2=0))∧Step [] w w':=by
 refine QJ.of_W func59 O ntmps59 results59 (by simp) ?_;refine Qc<|xl O<|QT (us:=QQ p) O λH I E J G=>Qe<|Qc<|x (Qa O)<|x (Qd G O O)<|x (Q8 O O)<|Qe ?_;exact Qn ⟨[_],Z,O,E⟩
theorem Qix {gp:Nat}{fn:Func}[Fu prog gp fn] {cap:LV}{q:(Int×Int)→Bool}{L:LN}{w:World}{v:Value}{l:List (Int×Int)}(h:Zo L w.heap v l.length 2 (l.flatMap QQ))
  (hk:∀e∈l,∀(G:World),Step [] w G→QJ prog gp ([.agg (QQ e).toArray]++cap) G λr w'=>r=.bool (q e)∧Step [] G w') :
  QJ prog 133 [v,.func (.func gp) #[] cap.toArray] w λr w'=>r=.int .i64 (fix q 0 l)∧Step [] w w':=by
 have hb:=h.le;refine QJ.of_W func133 O ntmps133 results133 (by simp) ?_;refine Qc<|Qe<|Qf<|Qc<|Qb<|x (Qq h O)<|Qb<|xe<|Qg<|Qy (α:=Nat) [(4,5),(8,18)] (λz=>[(8,.int .i64 z)]) (λz w'=>z≤l.length∧Step [] w w'∧fix q z (l.drop z)=fix q 0 l) (λz=>l.length - z) (by rfl) 0 Z
  ⟨Lk _,Step.refl _ _,O⟩ ?_
 rintro k g G ⟨hc,H,E⟩;refine Qc<|x (QA O O)<|xe<|Qf<|QE O (λh9=>?_) (λh9=>?_)
 ·refine Qw ?_;have Y:l.length≤k:=by have ha:¬(k:Int)<(l.length:Int):=h9;omega
  rw[Lq Y] at E;refine Qc<|Qe ?_;exact Qn ⟨[_],Z,by rw[←E];rfl,H⟩
 have I:k<l.length:=by have ha:(k:Int)<(l.length:Int):=h9;omega
 rw[QY I,ZN] at E;have S:=Lh I;refine Qi<|Qf<|Qg<|Qc<|Qb<|Qe<|Qc<|Qb<|Qb<|Qb<|xig Yr (h.ext H) O O I λhf T=>?_;refine Zb (l[k]'I) λe he=>?_;rw[he] at T E S;refine x (QI T O O)<|xl O<|xc (first:=[]) (capt:=cap) O<|(hk e S G H).mono ?_;rintro r2 w2 ⟨rfl,V⟩;refine xe<|Q2 rfl (λJ=>?_) (λJ=>?_)
 ·rw[if_pos J] at E;refine Qc<|Qb<|Qe ?_;exact Qn ⟨[_],Z,by rw[←E];rfl,H.trans V⟩
 rw[if_neg (by rw[J];decide)] at E;refine Qi<|Qx<|QN O O<|Qb<|xe ?_;exact ⟨k+1,by omega,Z,I,H.trans V,E⟩
end Go.Proofs.YtdffckgdcegpaaaGreatDoor
namespace Go.Lg
section
variable {P:Program} {f:Fr} {w:World} {K:Fr→World→Prop} {d:Option Nat} {ty:Nat} {ps:String} {af:Array Edge} {gd:Option (Nat×Bool)}
theorem zn {t e sz bys:Nat}{z:Value}[h:Sl P t e sz bys z] {x E:Operand}{b n cap:Nat}{k:IntKind}{lo:Nat}(hx:ev f x=.slice (some ⟨b,0,none⟩) n cap) (hl:ev f E=.int k lo) (h1:lo≤n) :
  (execOp (ev f) ⟨d,.slice t x (some E) none none,ty,ps,af,gd⟩).run P w=.ok (.value (.slice (some ⟨b,if cap=lo then 0 else lo*sz,none⟩) (n - lo) (cap - lo))) w:=by
 obtain ⟨i,G,_,H,_⟩:=Sl.info h;have e2:(Instr.sliceBound (.int k lo) n .sliceB).run P w=.ok lo w:=Zs h1;by_cases I:cap=lo
 ·simp[execOp,hx,hl,Instr.sliceAt,Instr.slice,run_underlying h.u,Instr.sliceBounds,e2,sizeOf,typeInfo,G,H,I]
 simp[execOp,hx,hl,Instr.sliceAt,Instr.slice,run_underlying h.u,Instr.sliceBounds,e2,sizeOf,typeInfo,G,H,I,Addr.add];exact λe=>e.symm
theorem zo {t e sz bys:Nat}{z:Value}[h:Sl P t e sz bys z] {x E:Operand}{b n cap:Nat}{k:IntKind}{hi:Nat}(hx:ev f x=.slice (some ⟨b,0,none⟩) n cap) (G:ev f E=.int k hi) (h1:hi≤cap) :
  (execOp (ev f) ⟨d,.slice t x none (some E) none,ty,ps,af,gd⟩).run P w=.ok (.value (.slice (some ⟨b,0,none⟩) hi cap)) w:=by
 obtain ⟨i,H,_,I,_⟩:=Sl.info h;have e2:(Instr.sliceBound (.int k hi) cap .sliceAcap).run P w=.ok hi w:=Zs h1;simp[execOp,hx,G,Instr.sliceAt,Instr.slice,run_underlying h.u,Instr.sliceBounds,e2,sizeOf,typeInfo,H,Addr.add]
end
end Go.Lg
namespace Go.Proofs.YtdffckgdcegpaaaGreatDoor
open Go.Proofs.Tryz
open Go.Lg
theorem zG {α:Type}(q:α→Bool):∀(l:List α) (i:Nat),(fix q i l=-1∧∀x∈l,q x=false)∨∃k,k<l.length∧fix q i l=((i+k:Nat):Int)∧l.take k=(l.take (k+1)).filter λx=>!q x
 | [],i=>.inl ⟨O,λx h=>by cases h⟩
 | a::l,i=>by
  rw[ZN];by_cases h:q a=true
  ·rw[if_pos h];exact .inr ⟨0,by simp,by simp,by simp[h]⟩
  rw[if_neg h];have h':q a=false:=by simpa using h
  rcases zG q l (i+1) with ⟨h1,h2⟩ | ⟨k,h1,h2,h3⟩
  ·exact .inl ⟨h1,λx hx=>by rcases Lc.1 hx with rfl | hx;exact h';exact h2 x hx⟩
  exact .inr ⟨k+1,by simpa using h1,by rw[h2];congr 1;omega,by rw[L5,L5,MD,if_pos (by simp[h']),←h3]⟩
theorem Uv {w:World}{base e sz n b cap:Nat}{cs:LV}(h:w.ownsRow base e sz (.slice (some ⟨b,0,none⟩) n cap) n cs):n≤cap∧∃cur:LV,Q3 w.heap b e cur∧cur.length=cap*sz∧cur.take (n*sz)=cs:=by
 rcases h.2 with ⟨e1,_⟩ | ⟨g',cap',cur,e1,J,E,G,S,H,I⟩
 ·cases e1
 cases e1
 exact ⟨G,cur.toList,E,by rw[Array.length_toList];exact H,I⟩
theorem yw {w w':World}{base e sz n b cap k:Nat}{cs E cur:LV}(h:w.ownsRow base e sz (.slice (some ⟨b,0,none⟩) n cap) n cs) (hk:k≤n) (G:Q3 w'.heap b e cur) (hl:cur.length=cap*sz) (H:cur.take (k*sz)=E) (hc:E.length=k*sz) :
  w'.ownsRow base e sz (.slice (some ⟨b,0,none⟩) k cap) k E:=by
 rcases h.2 with ⟨e1,_⟩ | ⟨g',cap',cur',e1,I,S,T,J,V,Y⟩
 ·cases e1
 cases e1
 exact ⟨hc,.inr ⟨b,cap,cur.toArray,O,I,G,by omega,J,by rw[LR];exact hl,H⟩⟩
theorem Y0 {α:Type}{sz:Nat}{g:α→LV}(E:∀x,(g x).length=sz):∀l:List α,(l.flatMap g).length=l.length*sz
 | []=>by simp
 | a::l=>by rw[LB,Li,Y0 E l,E a,LM,Nat.succ_mul];omega
theorem Qcb:∀(l:List (Int×Int)) (k:Nat),(l.flatMap QQ).take (k*2)=(l.take k).flatMap QQ
 | [],k=>by simp
 | a::l,0=>by simp
 | a::l,k+1=>by
  rw[show (k+1)*2=k*2+2 by omega,LB,L5,LB,←Qcb l k];rfl
abbrev nzT (l:List (Int×Int)):List (Int×Int):=l.filter λp=>!decide (p.2=0)
set_option maxHeartbeats 1000000 in
theorem QiQ {w:World}{base:Nat}{v:Value}{l:List (Int×Int)}(h:w.ownsRow base 129 2 v l.length (l.flatMap QQ)) (hl:l.length≤1000) :
  QJ prog 58 [v,.func (.func 59) #[] #[]] w λr w'=>Step (ob v) w w'∧w'.ownsRow base 129 2 r (nzT l).length ((nzT l).flatMap QQ):=by
 have hix:=Qix (cap:=[]) (q:=λp=>decide (p.2=0)) (QR (L:=[]) h (by omega) (by simp)) (λe _ T _=>Qfx e T);have hs:=zG (λp:Int×Int=>decide (p.2=0)) l 0;rcases h.2 with ⟨rfl,V⟩ | ⟨g,cap,cur,rfl,hT,_⟩
 ·have h7:l=[]:=Lo V;subst h7;refine QJ.of_W func58 O ntmps58 results58 (by simp) ?_;refine Qc<|Qe<|Qc<|Qb<|Qb<|xl O<|xf<|hix.mono ?_;rintro r1 T ⟨rfl,G⟩;refine Qe<|Qf<|Qc<|Qb<|x (Q8 O O)<|xe<|Q7 O (λ_=>?_) (λh8=>absurd O h8);refine Qc<|Qb<|Qe ?_;exact Qn ⟨[nS],Z,G,Qm h G⟩
 obtain ⟨hU,_⟩:=Uv h;refine QJ.of_W func58 O ntmps58 results58 (by simp) ?_;refine Qc<|Qe<|Qc<|Qb<|Qb<|xl O<|xf<|hix.mono ?_;rintro r1 T ⟨rfl,G⟩;refine Qe<|Qf<|Qc<|Qb<|x (Q8 O O)<|xe<|Q7 rfl (λY=>?_) (λY=>?_)
 ·have h9:nzT l=l:=Nl.2 λp hp=>by
   rcases hs with ⟨_,h2⟩ | ⟨k,_,h2,_⟩
   ·have:=h2 p hp;simpa using this
   have hV:fix (λp:Int×Int=>decide (p.2=0)) 0 l=-1:=Y;omega
  refine Qc<|Qb<|Qe<|Qn ⟨[.slice (some ⟨g,0,none⟩) l.length cap],Z,G.any,?_⟩;rw[h9];exact Qm h G
 refine Exists.elim (hs.resolve_left λa=>Y a.1) λS ha=>?_;have hB:=ha.1;have ht:fix (λp:Int×Int=>decide (p.2=0)) 0 l=(S:Int):=by have:=ha.2.1;omega
 have hC:=ha.2.2;refine Qi<|Qf<|Qc<|Qb<|x (X5 (a:=(S:Int)) (b:=1) (congrArg (Value.int .i64) ht) O ⟨by omega,by omega⟩)<|Qe<|Qg<|Qy (α:=Nat×Nat×List (Int×Int)) [(5,7),(16,35)] (λz=>[(5,.int .i64 z.1),(6,.int .i64 z.2.1)])
  (λz w'=>z.1<z.2.1∧z.2.1≤l.length∧z.2.2.length=l.length∧z.2.2.take z.1=nzT (l.take z.2.1)∧z.2.2.drop z.2.1=l.drop z.2.1∧Step [g] w w'∧w'.ownsRow base 129 2 (.slice (some ⟨g,0,none⟩) z.2.2.length cap) z.2.2.length (z.2.2.flatMap QQ))
  (λz=>l.length - z.2.1) (by rfl) (S,S+1,l) ⟨congrArg (Value.int .i64) ht,O,U⟩
  ⟨Nat.lt_succ_self _,hB,O,hC,O,G.any,Qm h G⟩ ?_
 rintro ⟨i,j,ts⟩ g2 w2 ⟨hD,hj,hb,H,hc,hv,I⟩;simp only[] at hD hj hb H hc I;refine Qf<|Qc<|Qb<|Qb<|x (V2 O)<|x (QA O O)<|xe<|QE rfl (λhf=>?_) (λhf=>?_)
 ·refine Qw ?_;have hE:j=l.length:=by have hF:¬(j:Int)<(l.length:Int):=hf;omega
  rw[hE,MU] at H;have hw:(nzT l).length=i:=by rw[←H,Lx];omega
  refine Exists.elim (Uv I).2 λhW hg=>?_;have hG:=hg.1;have hX:=hg.2.1;have hH:=hg.2.2;refine Qc<|Qb<|Qb<|x (zn (lo:=i) O O (by omega))<|xl O<|Qcg (m:=l.length - i) (o:=i*2) (λu hu=>by simp[Value.cells] at hu;rw[hu];rfl) hG ⟨_,O,λh=>⟨by rw[if_neg (by omega)],by omega⟩⟩ λw3 hY hh hI hZ hJ=>xe ?_
  refine Qc<|Qb<|Qb<|x (zo (hi:=i) O O (by omega))<|Qe<|Qn ⟨[.slice (some ⟨g,0,none⟩) i cap],Z,hv.trans' hh,?_⟩;rw[hw];refine yw I (by omega) hI (by omega) ?_ ?_
  ·rw[hJ,←H,←Qcb,←hH,List.take_take,MI (by omega)]
  rw[Y0 Yr,hw]
 have E:j<l.length:=by have hF:(j:Int)<(l.length:Int):=hf;omega
 have hn:j<ts.length:=by omega
 have hK:ts[j]'hn=l[j]'E:=by
  have h1:=congrArg (λz=>z[0]?) hc;simp only[List.getElem?_drop,Nat.add_zero,List.getElem?_eq_getElem hn,List.getElem?_eq_getElem E] at h1;exact Option.some.inj h1
 have hy:ts.drop (j+1)=l.drop (j+1):=by
  have h1:=congrArg (List.drop 1) hc
  rwa [List.drop_drop,List.drop_drop] at h1
 have J:nzT (l.take (j+1))=nzT (l.take j)++(if (l[j]'E).2=0 then [] else [l[j]'E]):=by
  unfold nzT;rw[Le E,L3];by_cases V:(l[j]'E).2=0 <;> simp[V]
 have hA:=QR (L:=[]) I (by omega) (by simp);rw[show Value.slice (some ⟨g,0,none⟩) ts.length cap=.slice (some ⟨g,0,none⟩) l.length cap from by rw[hb]] at hA;refine Qi<|Qf<|Qg<|Qc<|Qb<|Qb<|xig Yr hA O O hn λga ho=>?_;rw[hK] at ho;refine Zb (l[j]'E) λe he=>?_;rw[he] at ho J
 refine x (QI ho O O)<|xl O<|Qv (us:=[.int .i64 0,.int .i64 0]) O λb7 w3 hh hL hM=>xl O<|Qr (us:=QQ e) hM O O O O ⟨O,O,U⟩ λw4 hN hz=>xe ?_;have hO:Step [] w2 w4:=hh.then1 hN hL;refine Qc<|Qb<|x (Qs hz O O)<|xl O<|xc (first:=[]) (capt:=[]) O<|(Qfx e w4).mono ?_;rintro r5 w5 ⟨rfl,h3⟩;refine x (Zm O)<|xe ?_;have h4:=hO.trans h3;have h5:=Qm I h4
 have h6:Step [g] w w5:=hv.trans h4.any;refine Q2 rfl (λhq=>?_) (λhq=>?_)
 ·have hr:¬e.2=0:=by simpa using hq
  rw[if_neg hr] at J;have hP:w5.ownsRow base 129 2 (.slice (some ⟨g,0,none⟩) ts.length cap) ts.length (ts.flatMap QQ):=h5;refine Qc<|Qb<|Qb<|x (Qs (hz.ext h3) O O)<|x (Zj (i:=i) O O (by omega))<|xl O<|Qdy (u:=e) Yr hP (congrArg (λn=>Value.pointer (some ⟨g,n,none⟩)) (LP (i*2))) O (by omega) ⟨O,O,U⟩ λw6 hQ hR =>
   xe ?_
  refine Qx<|Qb<|QN O O<|Qe<|Qx<|Qb<|QN O O<|Qe ?_;have hS:(ts.set i e).length=ts.length:=MS;refine ⟨(i+1,j+1,ts.set i e),by simp only[];omega,⟨O,O,U⟩,by simp only[];omega,E,by simp only[];omega,?_,?_,h6.trans' hQ,?_⟩
  ·simp only[];rw[J,←H,List.set_eq_take_append_cons_drop,if_pos (by omega),List.take_append,Lm (by rw[Lx];omega),Lx,MI (by omega),MC,L5,M4]
  ·simp only[];rw[List.drop_set_of_lt (by omega),hy]
  simp only[];rw[hS];exact hR
 have hr:e.2=0:=by simpa using hq
 rw[if_pos hr,LH] at J;refine Qi<|Qx<|Qb<|QN O O<|Qe ?_;exact ⟨(i,j+1,ts),by simp only[];omega,⟨O,O,U⟩,by simp only[];omega,E,hb,by rw[J];exact H,hy,h6,h5⟩
instance ayAz1:Ay prog 25 3 24 1:=⟨by kernel_rfl,by kernel_rfl⟩
instance ayAz2:Ay prog 30 2 24 1:=⟨by kernel_rfl,by kernel_rfl⟩
instance ayAz3:Ay prog 31 2 28 27:=⟨by kernel_rfl,by kernel_rfl⟩
instance ayAz4:Ay prog 34 3 33 1:=⟨by kernel_rfl,by kernel_rfl⟩
abbrev X4V:={r:LN // r.length=4∧∀n∈r,n<256}
abbrev Yw (r:X4V):LV:=bys r.1
theorem UE (r:X4V):(Yw r).length=4:=by show (bys r.1).length=4;unfold bys;rw[Lb,r.2.1]
structure PlV where
 ns:LN
 vx:Value
 xs:List X4V
 f0:Int
 f1:Int
 f2:Int
 bd:Int
abbrev Ym (l:PlV):LV:=bys l.ns++[l.vx,.int .i8 l.f0,.int .i8 l.f1,.int .i8 l.f2,.int .i8 l.bd]
abbrev i8R (n:Int):Prop:=-128≤n∧n≤127
structure PlA (L:LN) (H:Array Obj) (l:PlV):Prop where
 n:l.ns.length=147
 b:∀n∈l.ns,n<256
 x:Zo L H l.vx l.xs.length 4 (l.xs.flatMap Yw)
 f0:i8R l.f0
 f1:i8R l.f1
 f2:i8R l.f2
 bd:i8R l.bd
theorem Qfa {l:PlV}(h:l.ns.length=147):(Ym l).length=152:=by rw[Ym,Li,YM,h];rfl
theorem Qfb {l:PlV}(h:l.ns.length=147) (j:Nat):(Ym l)[147+j]?=([l.vx,.int .i8 l.f0,.int .i8 l.f1,.int .i8 l.f2,.int .i8 l.bd]:LV)[j]?:=by
 rw[Ym,Ms (by rw[YM];omega),YM,h,MC]
theorem Qb9 {l:PlV}(h:l.ns.length=147) {j:Nat}(E:j<147):(Ym l)[j]?=some (.int .u8 ((l.ns.getD j 0:Nat):Int)):=by
 rw[Ym,L6 (by rw[YM];omega)];exact VU (by omega)
theorem Qa5 {l:PlV}{o m:Nat}(j:Nat) (u:Value) (h:(bys ((l.ns.drop o).take m))[j]?=some u):(Ym l)[o+j]?=some u:=by
 have h1:=Qi5 (ns:=l.ns) (o:=o) (n:=m) j u h;have h2:=(LX.1 h1).1;rw[Ym,L6 h2];exact h1
theorem QcW {sz:LI}:∀(ls:List (Int×Int)) (pr:Option Int),(∀b,pr=some b→∀p∈ls,b<p.1)→ls.Pairwise (λp q=>p.1<q.1)→(∀p∈ls,0≤p.1∧p.1<(sz.length:Int)∧0≤p.2∧p.2<cget sz p.1.toNat)→YN sz pr ls=0
 | [],_,_,_,_=>rfl
 | p::ls,pr,hp,E,hb=>by
  obtain ⟨h1,h2,h3,H⟩:=hb p Ln;obtain ⟨k1,k2⟩:=LG.1 E;have hl:U3 pr p.1=false:=by
   cases pr with
   | none=>rfl
   | some b=>have:=hp b O p Ln;unfold U3;exact decide_eq_false (by omega)
  rw[YN,if_neg (by omega),if_neg (by rw[hl];decide),if_neg (by omega)];exact QcW ls (some p.1) (λb G q hq=>by cases G;exact k1 q hq) k2 (λq hq=>hb q (Ll _ hq))
theorem QcU {sz:LI}:∀(ls:List (Int×Int)) (pr:Option Int),(∀b,pr=some b→∀p∈ls,b<p.1)→ls.Pairwise (λp q=>p.1<q.1)→(∀p∈ls,0≤p.1∧p.1<(sz.length:Int)∧p.2≠0∧-65536≤p.2∧p.2≤65536)→Y9 sz pr ls=0
 | [],_,_,_,_=>rfl
 | p::ls,pr,hp,E,hb=>by
  obtain ⟨h1,h2,h3,I,h5⟩:=hb p Ln;obtain ⟨k1,k2⟩:=LG.1 E;have hl:U3 pr p.1=false:=by
   cases pr with
   | none=>rfl
   | some b=>have:=hp b O p Ln;unfold U3;exact decide_eq_false (by omega)
  have G:grt p.2=false:=by unfold grt;rw[decide_eq_false (by omega),decide_eq_false (by omega)];rfl
  rw[Y9,if_neg (by omega),if_neg (by rw[hl];decide),if_neg (by rw[G];simpa using h3)];exact QcU ls (some p.1) (λb H q hq=>by cases H;exact k1 q hq) k2 (λq hq=>hb q (Ll _ hq))
theorem QbU (a:Int) {b:Int}(h:0<b):-b<a.tmod b∧a.tmod b<b:=⟨Int.lt_tmod_of_pos a h,Int.tmod_lt_of_pos a h⟩
structure ItG (c:Nat) (k:Nat) (q:IV):Prop where
 nm:q.nm=⟨#[UInt8.ofNat c]⟩++⟨#[UInt8.ofNat (48+k)]⟩
 g:GdA q.p.a
 e:∀e∈q.p.a.al,e<5
def nmI (c k:Nat):ByteArray:=⟨#[UInt8.ofNat c]⟩++⟨#[UInt8.ofNat (48+k)]⟩
theorem Qfp (k:Nat) (h:k<3):Yz (nmI 99 k)=true∧Yz (nmI 114 k)=true∧Yz (nmI 101 k)=true:=by
 match k,h with
 | 0,_=>decide
 | 1,_=>decide
 | 2,_=>decide
theorem VH (c k:Nat):Ue (nmI c k):=by
 show (ByteArray.mk _++ByteArray.mk _).size≤_;rw[ByteArray.size_append];show 1+1≤_;omega
theorem QdA:∀n,n<4→∀m,m<3→((List.range n).map (nmI 99)++(List.range m).map (nmI 114)).Nodup:=by decide
theorem zD {c:Nat}{co:List IV}(h:∀k (hk:k<co.length),ItG c k (co[k]'hk)):(co.map IV.it).map (·.nm)=(List.range co.length).map (nmI c):=by
 apply Mk
 ·simp
 intro i h1 h2;simp only[List.getElem_map,List.getElem_range];exact (h i (by simpa using h1)).nm
theorem QkQ {ns:LN}{co rq:List IV}{qx:List XV}{ks:List KV}{al:LI}(J:ns.length=5) (h1:1≤co.length) (h3:co.length≤3) (G:∀k (hk:k<co.length),ItG 99 k (co[k]'hk)) (S:∀e,e∈al↔∃q∈co,e∈q.p.a.al) (hb:rq.length≤2)
  (H:∀k (hk:k<rq.length),ItG 114 k (rq[k]'hk)∧∀e∈(rq[k]'hk).p.a.al,e∈al) (hc:qx.length≤2) (T:(qx.map (·.nm)).Nodup) (V:∀q∈qx,(∃k,k<2∧q.nm=⟨#[101]⟩++⟨#[UInt8.ofNat (48+k)]⟩)∧q.ls≠[]∧q.ls.length≤3∧YN (co.map (·.p.a.st)) none q.ls=0)
  (hf:ks.length≤1) (Y:∀q∈ks,q.nm=⟨#[107]⟩∧YE (co.map (·.p.a.st)) q.k=0):D25 ⟨Y8 ns 5,co.map IV.it,rq.map IV.it,qx.map XV.x,ks.map KV.k⟩:=by
 have I:szs (co.map IV.it)=co.map (·.p.a.st):=by unfold szs;rw[Me];rfl
 refine ⟨⟨ns,J,O⟩,by simp only[List.length_map];omega,by simp only[List.length_map];omega,by simp only[List.length_map];omega,λx hx=>?_,λx hx=>?_,?_,by simp only[List.length_map];omega,λx hx=>?_,?_,by simp only[List.length_map];omega,λx hx=>?_⟩
 ·obtain ⟨q,hq,rfl⟩:=Ly.1 hx;obtain ⟨k,hk,rfl⟩:=LE hq;have g:=G k hk;exact ⟨by show Yz (co[k]'hk).nm=true;rw[g.nm];exact (Qfp k (by omega)).1,g.g,g.e⟩
 ·obtain ⟨q,hq,rfl⟩:=Ly.1 hx;obtain ⟨k,hk,rfl⟩:=LE hq;have g:=H k hk;refine ⟨by show Yz (rq[k]'hk).nm=true;rw[g.1.nm];exact (Qfp k (by omega)).2.1,g.1.g,λe he=>?_⟩;obtain ⟨y,hy,ha⟩:=(S e).1 (g.2 e he);exact ⟨y.it,LL hy,ha⟩
 ·show ((co.map IV.it).map (·.nm)++(rq.map IV.it).map (·.nm)).Nodup;rw[zD G,zD (λk hk=>(H k hk).1)];exact QdA _ (by omega) _ (by omega)
 ·obtain ⟨q,hq,rfl⟩:=Ly.1 hx;obtain ⟨⟨k,k1,k2⟩,E,_,g4⟩:=V q hq;refine ⟨by show Yz q.nm=true;rw[k2];exact (Qfp k (by omega)).2.2,E,?_⟩;show YN (szs (co.map IV.it)) none q.ls=0;rw[I];exact g4
 ·show ((qx.map XV.x).map (·.nm)).Nodup;rw[Me];exact T
 obtain ⟨q,hq,rfl⟩:=Ly.1 hx;obtain ⟨g1,E⟩:=Y q hq;refine ⟨by show Yz q.nm=true;rw[g1];decide,?_⟩;show YE (szs (co.map IV.it)) q.k=0;rw[I];exact E
def flk (l:PlV) (i:Nat):Int:=[l.f0,l.f1,l.f2].getD i 0
theorem QlF {l:PlV}(h:l.ns.length=147) {i:Nat}(hi:i<3):(Ym l)[0+148+i*1]?=some (.int .i8 (flk l i)):=by
 rw[show 0+148+i*1=147+(1+i) by omega,Qfb h]
 match i,hi with
 | 0,_=>rfl
 | 1,_=>rfl
 | 2,_=>rfl
theorem QlE {L:LN}{H:Array Obj}{l:PlV}(h:PlA L H l) (i:Nat) (hi:i<3):i8R (flk l i):=by
 match i,hi with
 | 0,_=>exact h.f0
 | 1,_=>exact h.f1
 | 2,_=>exact h.f2
theorem Qgt (ns:LN):∀e∈Y8 ns 5,Ue e.nm:=λe he=>by
 unfold Y8 at he;obtain ⟨k,_,rfl⟩:=Ly.1 he;unfold Jp;split <;> exact YQ (by simp)
set_option maxRecDepth 100000 in
set_option maxHeartbeats 8000000 in
theorem QdE {w:World}{l:PlV}(h:PlA [] w.heap l) :
  QJ prog 14 [.agg (Ym l).toArray] w λr w'=>Step [] w w'∧∃k,Qhf w.heap.size w'.heap r k∧D25 k:=by
 have hpl:=Qfa h.n;refine Zb (1+l.ns.getD 5 0 % 3) λn hn=>?_;have hn3:1≤n∧n≤3:=by omega
 refine QJ.of_W func14 O ntmps14 results14 (by simp) ?_;refine Qc<|xl O<|QT (us:=Ym l) O λb1 w1 pc hb1 pd=>xl O<|Qv (us:=Yi) O λb2 w2 kg hb2 pf=>xe ?_;have pg:=pc.trans kg;have hz1:=pc.size;have hz2:=kg.size;have hl1:=pd.lt;have hl2:=pf.lt;have gt:=pd.ext kg;have ky:((l.ns.drop 0).take 5).length=5:=by rw[Lx,L7,h.n];rfl
 have hflt:∀n∈(l.ns.drop 0).take 5,n<256:=λn hn=>h.b n (Mz (LZ hn));refine Qc<|x (Qa O)<|x (VD (us:=bys ((l.ns.drop 0).take 5)) gt O (by rw[YM];exact ky) (λj u hu=>Qa5 (l:=l) (o:=0) (m:=5) j u hu))<|xl O<|xf<|(QaG (ns:=(l.ns.drop 0).take 5) ky hflt).mono ?_;rintro ve w3 ⟨ph,gk⟩;refine Zb (Y8 ((l.ns.drop 0).take 5) 5) λev kh=>?_;rw[kh] at gk
 refine x (QF ⟨QZ gk,U⟩)<|xl O<|Qv (us:=Yi) O λE w4 pj hb3 hB3=>xl O<|Qr (us:=[ve,Za,Za,Za,Za]) hB3 O O O O ⟨QD gk,O,O,O,O,U⟩ λw5 hs5 pm =>
  xe ?_
 have pn:Step [] w3 w5:=pj.then1 hs5 hb3;refine Qc<|xl O<|Qv (us:=[Za]) O λb4 w6 kz hb4 po=>xe ?_;have pp:=pn.trans kz;have gu:=ph.trans pp;have H:=kg.trans gu;have hz3:=ph.size;have hz35:=pn.size;have hz4:=pj.size;have hz6:=kz.size;have hl3:=pm.lt;have hl4:=po.lt;have k0:=gt.ext gu;have hB36:=pm.ext kz;have q5:=Qb9 (l:=l) h.n (j:=5) (by omega)
 have q5l:=Xg h.b 5;refine Zb (l.ns.getD 5 0) λcn hcn=>?_;rw[hcn] at q5 q5l hn;refine Qc<|x (Qa O)<|x (Qd k0 O q5)<|x (US (a:=(cn:Int)) (b:=3) O O (by omega) (by omega))<|x (ZL (k':=.i64) O ⟨by omega,by omega⟩)<|QN O O<|Qe ?_;have hnn:(1:Int)+(cn:Int) % 3=(n:Int):=by omega
 refine QW (α:=Value×List IV×Value×LI) [(6,7),(26,55)] (λ_=>[]) (λz w'=>Step [E,b4] w6 w'∧Q3 w'.heap E 47 [ve,z.1,Za,Za,Za]∧Q3 w'.heap b4 37 [z.2.2.1]∧Uk w6.heap.size w' z.1 z.2.2.1 z.2.1 z.2.2.2∧z.2.1.length=n∧(∀k (hk:k<z.2.1.length),ItG 99 k (z.2.1[k]'hk))∧z.2.2.2.length≤5*n∧∀e,e∈z.2.2.2↔∃q∈z.2.1,e∈q.p.a.al) (by rfl) ?_ ?_
 ·refine Qc<|Qb<|Qb<|xe<|Qg<|Qy (α:=Nat×Value×List IV×Value×LI) [(6,7),(27,55)] (λz=>[(27,.int .i64 z.1)])
   (λz w'=>z.1≤n∧Step [E,b4] w6 w'∧Q3 w'.heap E 47 [ve,z.2.1,Za,Za,Za]∧Q3 w'.heap b4 37 [z.2.2.2.1]∧Uk w6.heap.size w' z.2.1 z.2.2.2.1 z.2.2.1 z.2.2.2.2∧z.2.2.1.length=z.1∧(∀k (hk:k<z.2.2.1.length),ItG 99 k (z.2.2.1[k]'hk))∧z.2.2.2.2.length≤5*z.1∧∀e,e∈z.2.2.2.2↔∃q∈z.2.2.1,e∈q.p.a.al)
   (λz=>n - z.1) (by rfl) (0,Za,[],Za,[]) Z
   ⟨Lk _,Step.refl _ _,hB36,po,Uk.nil,O,λk hk=>absurd hk (by simp),by simp,by simp⟩ ?_
  rintro ⟨i,vc,co,va,al⟩ g7 w7 ⟨hi,h7,gl,ga,hf,gv,hS,k4,gm⟩;simp only[] at hi gl ga hf gv hS k4 gm;refine Qc<|x (QA O O)<|xe<|Qf<|QE O (λk5=>?_) (λk5=>?_)
  ·refine Qw ?_;have k6:i=n:=by have h29:¬(i:Int)<1+(cn:Int) % 3:=k5;omega
   exact ⟨(vc,co,va,al),U,h7,gl,ga,hf,by simp only[];omega,hS,by simp only[];omega,gm⟩
  have hy:i<n:=by have h29:(i:Int)<1+(cn:Int) % 3:=k5;omega
  have k7:b1∉[E,b4]:=by simp only[List.mem_cons,List.not_mem_nil,or_false];omega
  have hT:=k0.step h7 k7;have qs:=Qb9 (l:=l) h.n (j:=0+6+i*1) (by omega);have qsl:=Xg h.b (0+6+i*1);refine Zb (l.ns.getD (0+6+i*1) 0) λm hm=>?_;rw[hm] at qs qsl;have k8:=YV m 5;have gw:=JO m 5;have gb:=Qb1 m 5;refine Zb (setK m 5) λsk gx=>?_;rw[gx] at k8 gw gb
  refine Qi<|Qf<|Qg<|Qc<|Qb<|Qe<|Qc<|Qb<|x (Qa O)<|x (ZF (i:=i) O O (by omega))<|x (Qd hT O qs)<|xl O<|xf<|(KW m qsl _).mono ?_;rintro vs w8 ⟨Y,ki⟩;rw[gx] at ki;refine Qe ?_;have pt:=Y.size;have h8:=hf.ext Y;have hI8:=Qt.ints (L:=[]) h8.a (by omega) (by simp);have hJ8:=Qt.ints (L:=[]) ki (by omega) (by simp)
  refine Qc<|x (Qd (ga.ext Y) O O)<|Qb<|xl O<|xf<|(QaM hI8 hJ8 (by omega)).mono ?_;rintro pu w9 ⟨I,pw,hal2,pz,gc⟩;have kj:=Y.trans I;have k9:=I.size;have hz7:=h7.size;refine xl O<|QG (ga.ext kj) O O (by simp) (QD gc) λT hh hB410=>xe ?_;have hl36:E<w6.heap.size:=by omega
  have h4:Uk w6.heap.size w9 vc pu co pw:=h8.setA (Zg gc (by omega)) I.any (λb hb=>.inr (Qk gc b hb).1);have hj:=h4.low hh (λb hb=>by rw[La.1 hb];omega);have gy:Q3 T.heap E 47 [ve,vc,Za,Za,Za]:=(gl.ext kj).step hh (by simp only[List.mem_singleton];omega);have ma:=(hT.ext kj).step hh (by simp only[List.mem_singleton];omega)
  have mc:QL [] T.heap vs sk:=Qt.ints (L:=[]) (Qj (Qm ki I) hh (λb hb hm=>by have:=(Qk ki b hb).1;rw[La.1 hm] at this;omega)) (by omega) (by simp);have hz10:=hh.size;have n3v:E∉ob vc:=QM hj.c (by omega);have n1v:b1∉ob vc:=QM hj.c (by omega);have ge:=Qf3 (ns:=l.ns) (o:=0+9+i*27) (by have:=h.n;omega);have gz:=Qjw (o:=0+9+i*27) h.b
  have g0:=λj u=>Qa5 (l:=l) (o:=0+9+i*27) (m:=27) j u;refine Zb (grN l.ns (0+9+i*27)) λgr h5=>?_;have mf:∀j u,(bys gr)[j]?=some u→(Ym l)[0+9+i*27+j]?=some u:=by rw[←h5];exact g0
  rw[h5] at ge gz;have g2:Step [] T { T with drawn:=T.drawn+1 }:=Step.drew _ _
  have g3:(48:Int)+(i:Int)=((48+i:Nat):Int):=by omega
  refine Zb (⟨#[99]⟩++⟨#[UInt8.ofNat (48+i)]⟩:ByteArray) λnm hB=>?_;refine QS (Step (ob vc) T) [(0,true),(1,true),(2,true),(3,true),(4,true),(5,true),(6,true),(7,true),(8,true),(9,true),(10,true),(11,true),(12,false),(13,true),(14,false),(15,false),(16,true),(17,false)] mixed (by rfl) (by kernel_rfl) (Step.drew _ _) ?_
  refine p (λ_=>Qa O)<|pq (λ_ hc=>Qd (gy.step hc n3v) O O)<|p (λ_=>Ql)<|p (λ_=>X5 O O ⟨by omega,by omega⟩)<|p (λ_=>ZL (k':=.i32) O ⟨by omega,by omega⟩)<|p (λ_=>VC (n:=48+i) (congrArg (Value.int .i32) g3) (by omega)) <|
   p (λ_=>Z7 (a:=⟨#[99]⟩) (b:=⟨#[UInt8.ofNat (48+i)]⟩) O O (by show 1+1≤1000000000;omega))<|p (λ_=>Ql)<|p (λ_=>Ql)<|p (λ_=>Qa O)<|p (λ_=>ZF (i:=i) O O (by omega))<|pq (λ_ hc=>VD (us:=bys gr) (ma.step hc n1v) O (by rw[YM];exact ge) mf)<|?_
  refine pk<|xf<|(qd (mc.ext g2) (λe he=>by have:=gb e he;omega) gw ge gz).mono ?_;rintro r11 hg ⟨gg,a,⟨xa,xm,hz,rfl,hA⟩,hG,gn⟩;have hC:=g2.trans gg;have p0:=hC.size;have gh:=hA [] (by simp);refine ⟨hC.any,?_⟩
  refine p (λ_=>ZV [(0,[.string nm]),(1,[xa,.int .i64 a.st,xm,hz])] ⟨congrArg (λb=>(Value.string b).cells) hB,O,O,O,U⟩)<|pk<|QC (us:=[Zf ⟨nm,⟨xa,xm,hz,a⟩⟩]) O O (by decide) (show 1*5≤1000000 by omega) ⟨O,O,U⟩ λb14 hU V hb14 mg=>⟨(hC.trans V).any,?_⟩;have ho:=hC.trans V;have g4:=hj.ext ho
  refine pk<|QU (news:=Zf ⟨nm,⟨xa,xm,hz,a⟩⟩) (L:=[]) g4.c O O O (mg.at (by simp)) (yS gh.al.one gh.mr.one gh.ed.one) (by omega) (by have:=ho.size;omega) λmh hE g5 G mj=>⟨(ho.any (L:=ob vc)).trans' G,?_⟩;have mo:=g4.setC (U7 (q:=⟨nm,⟨xa,xm,hz,a⟩⟩) (N:=T.heap.size) (λL hL=>(hA L hL).ext V) (by omega) hj.avlt) g5 G mj
  refine p (λ_=>Qa O)<|pkl (hl:=by kernel_rfl)<|QG ((gy.ext ho).step G n3v) O O (by simp) (QD g5) λhH H hV=>pe ?_;have hge:=Qk hj.c;have n4v:b4∉ob vc:=QM hj.c (by omega);have hB416:=((hB410.ext ho).step G n4v).step H (by simp only[List.mem_singleton];omega);have hs710:Step [b4] w7 T:=kj.any.trans' hh
  have hs615:Step [E,b4] w6 hE:=((h7.trans' (hs710.mono (by simp))).trans ho.any).then G (λb hb=>.inr (hge b hb).1);refine Qx<|QN O O<|Qb<|xe ?_
  refine ⟨(i+1,mh,co++[⟨nm,⟨xa,xm,hz,a⟩⟩],pu,pw),by simp only[];omega,Z,hy,hs615.trans' (H.mono (by simp)),hV,hB416,mo.low H (λb hb=>by rw[List.mem_singleton.1 hb];omega),by simp only[List.length_append,List.length_singleton];omega,λk hk=>?_,by simp only[];omega,λe=>?_⟩
  ·simp only[] at hk ⊢;by_cases ha:k<co.length
   ·rw[L2 ha];exact hS k ha
   have g6:k=i:=by simp only[List.length_append,List.length_singleton] at hk;omega
   subst g6;rw[Mw (by omega)];simp only[gv,Nat.sub_self,List.getElem_cons_zero];exact ⟨hB.symm,hG,λe he=>by rw[gn] at he;exact (gb e he).2⟩
  simp only[] at pz ⊢;rw[pz,gm];constructor
  ·rintro (⟨q,hq,he⟩ | he)
   ·exact ⟨q,LF _ hq,he⟩
   exact ⟨_,LQ _ (La.2 O),by rw[gn];exact he⟩
  rintro ⟨q,hq,he⟩;rcases Lj.1 hq with hq | hq
  ·exact .inl ⟨q,hq,he⟩
  rw[La.1 hq,gn] at he;exact .inr he
 rintro ⟨vc,co,va,al⟩ g7 w7 ⟨h7,gl,ga,hf,gv,hS,k4,gm⟩;simp only[] at gl ga hf gv hS k4 gm;have hz7:=h7.size;have k7:b1∉[E,b4]:=by simp only[List.mem_cons,List.not_mem_nil,or_false];omega
 have hT:=k0.step h7 k7;have mq:b1∉[E]:=by simp only[List.mem_singleton];omega
 have n43:b4∉[E]:=by simp only[List.mem_singleton];omega
 have p1:=Qb9 (l:=l) h.n (j:=90) (by omega);have q90l:=Xg h.b 90;refine Zb (l.ns.getD 90 0) λrn hrn=>?_;rw[hrn] at p1 q90l;refine Zb (rn % 3) λr hr=>?_;have hr2:r≤2:=by omega
 refine QW (α:=Value×List IV) [(8,9),(56,87)] (λ_=>[]) (λz w'=>Step [E] w7 w'∧Q3 w'.heap E 47 [ve,vc,z.1,Za,Za]∧Uk w7.heap.size w' z.1 Za z.2 []∧z.2.length=r∧∀k (hk:k<z.2.length),ItG 114 k (z.2[k]'hk)∧∀e∈(z.2[k]'hk).p.a.al,e∈al) (by rfl) ?_ ?_
 ·refine Qc<|x (Qa O)<|x (Qd hT O p1)<|x (US (a:=(rn:Int)) (b:=3) O O (by omega) (by omega))<|x (ZL (k':=.i64) O ⟨by omega,by omega⟩)<|Qb<|xe<|Qg<|Qy (α:=Nat×Value×List IV) [(8,9),(60,87)] (λz=>[(60,.int .i64 z.1)])
   (λz w'=>z.1≤r∧Step [E] w7 w'∧Q3 w'.heap E 47 [ve,vc,z.2.1,Za,Za]∧Uk w7.heap.size w' z.2.1 Za z.2.2 []∧z.2.2.length=z.1∧∀k (hk:k<z.2.2.length),ItG 114 k (z.2.2[k]'hk)∧∀e∈(z.2.2[k]'hk).p.a.al,e∈al)
   (λz=>r - z.1) (by rfl) (0,Za,[]) Z
   ⟨Lk _,Step.refl _ _,gl,Uk.nil,O,λk hk=>absurd hk (by simp)⟩ ?_
  rintro ⟨i,vr,rq⟩ g8 w8 ⟨hi,Y,go,h8,kk,h5⟩;simp only[] at hi go h8 kk h5;refine Qc<|x (QA O O)<|xe<|Qf<|QE O (λmu=>?_) (λmu=>?_)
  ·refine Qw ?_;have k6:i=r:=by have h62:¬(i:Int)<(rn:Int) % 3:=mu;omega
   exact ⟨(vr,rq),U,Y,go,h8,by simp only[];omega,h5⟩
  have hy:i<r:=by have h62:(i:Int)<(rn:Int) % 3:=mu;omega
  have ka:=hT.step Y mq;have hB48:=ga.step Y n43;have qs:=Qb9 (l:=l) h.n (j:=0+91+i*1) (by omega);have qsl:=Xg h.b (0+91+i*1);refine Zb (l.ns.getD (0+91+i*1) 0) λm hm=>?_;rw[hm] at qs qsl;have k8:=YV m 5;have gw:=JO m 5;have gb:=Qb1 m 5;refine Zb (setK m 5) λsk gx=>?_;rw[gx] at k8 gw gb
  refine Qi<|Qf<|Qg<|Qc<|Qb<|Qe<|Qc<|Qb<|x (Qa O)<|x (ZF (i:=i) O O (by omega))<|x (Qd ka O qs)<|xl O<|xf<|(KW m qsl _).mono ?_;rintro vs w9 ⟨I,gc⟩;rw[gx] at gc;have pt:=Y.size;have k9:=I.size;have hva8:=Qm (Qj hf.a Y (λb hb hm=>by rw[La.1 hm] at hb;exact QM hf.a (by omega) hb)) I;have g0:=Qk gc;have hlv:=QP hf.a
  have hD:=QiR gc (by omega) (hB48.ext I) (λhm=>by have:=(g0 b4 hm).1;omega) (QR hva8 (by omega) (λb hb hbs=>by have:=(g0 b hbs).1;have:=hlv b hb;omega));refine x (Zq (l:=[]) (l':=[_]))<|xl O<|xf<|hD.mono ?_;rintro vd T ⟨hh,p2⟩;have p3:Yd (sk.filter λx=>decide (x∈al)):=List.Pairwise.filter _ gw;have hFL:=Mh (λx=>decide (x∈al)) sk
  have kn:∀e∈sk.filter λx=>decide (x∈al),e∈sk∧e∈al:=λe he=>by
   have:=Md.1 he;exact ⟨this.1,of_decide_eq_true this.2⟩
  refine Zb (sk.filter λx=>decide (x∈al)) λF hF=>?_;rw[hF] at p2 p3 hFL kn;refine Qe ?_;have kb:Step [] w8 T:=I.then hh (λb hb=>.inr (g0 b hb).1);have hz10:=kb.size;have hj:=h8.ext kb;have gy:=go.ext kb;have ma:=ka.ext kb;have mc:QL [] T.heap vd F:=Qt.ints (L:=[]) p2 (by omega) (by simp);have n3v:E∉ob vr:=QM hj.c (by omega)
  have n1v:b1∉ob vr:=QM hj.c (by omega);have ge:=Qf3 (ns:=l.ns) (o:=0+93+i*27) (by have:=h.n;omega);have gz:=Qjw (o:=0+93+i*27) h.b;have mf:=λj u=>Qa5 (l:=l) (o:=0+93+i*27) (m:=27) j u;refine Zb (grN l.ns (0+93+i*27)) λgr p4=>?_;have hgs2:∀j u,(bys gr)[j]?=some u→(Ym l)[0+93+i*27+j]?=some u:=by rw[←p4];exact mf
  rw[p4] at ge gz;have g2:Step [] T { T with drawn:=T.drawn+1 }:=Step.drew _ _
  have g3:(48:Int)+(i:Int)=((48+i:Nat):Int):=by omega
  refine Zb (⟨#[114]⟩++⟨#[UInt8.ofNat (48+i)]⟩:ByteArray) λnm hB=>?_;refine QS (Step (ob vr) T) [(0,true),(1,true),(2,true),(3,true),(4,true),(5,true),(6,true),(7,true),(8,true),(9,true),(10,true),(11,true),(12,false),(13,true),(14,false),(15,false),(16,true),(17,false)] mixed (by rfl) (by kernel_rfl) (Step.drew _ _) ?_
  refine p (λ_=>Qa O)<|pq (λ_ hc=>Qd (gy.step hc n3v) O O)<|p (λ_=>Ql)<|p (λ_=>X5 O O ⟨by omega,by omega⟩)<|p (λ_=>ZL (k':=.i32) O ⟨by omega,by omega⟩)<|p (λ_=>VC (n:=48+i) (congrArg (Value.int .i32) g3) (by omega)) <|
   p (λ_=>Z7 (a:=⟨#[114]⟩) (b:=⟨#[UInt8.ofNat (48+i)]⟩) O O (by show 1+1≤1000000000;omega))<|p (λ_=>Ql)<|p (λ_=>Ql)<|p (λ_=>Qa O)<|p (λ_=>ZF (i:=i) O O (by omega))<|pq (λ_ hc=>VD (us:=bys gr) (ma.step hc n1v) O (by rw[YM];exact ge) hgs2)<|?_
  refine pk<|xf<|(qd (mc.ext g2) (λe he=>by have:=gb e (kn e he).1;omega) p3 ge gz).mono ?_;rintro r11 hg ⟨gg,a,⟨xa,xm,hz,rfl,hA⟩,hG,gn⟩;have hC:=g2.trans gg;have p0:=hC.size;have gh:=hA [] (by simp);refine ⟨hC.any,?_⟩
  refine p (λ_=>ZV [(0,[.string nm]),(1,[xa,.int .i64 a.st,xm,hz])] ⟨congrArg (λb=>(Value.string b).cells) hB,O,O,O,U⟩)<|pk<|QC (us:=[Zf ⟨nm,⟨xa,xm,hz,a⟩⟩]) O O (by decide) (show 1*5≤1000000 by omega) ⟨O,O,U⟩ λb14 hU V hb14 mg=>⟨(hC.trans V).any,?_⟩;have ho:=hC.trans V;have g4:=hj.ext ho
  refine pk<|QU (news:=Zf ⟨nm,⟨xa,xm,hz,a⟩⟩) (L:=[]) g4.c O O O (mg.at (by simp)) (yS gh.al.one gh.mr.one gh.ed.one) (by omega) (by have:=ho.size;omega) λmh hE g5 G mj=>⟨(ho.any (L:=ob vr)).trans' G,?_⟩;have mo:=g4.setC (U7 (q:=⟨nm,⟨xa,xm,hz,a⟩⟩) (N:=T.heap.size) (λL hL=>(hA L hL).ext V) (by omega) hj.avlt) g5 G mj
  refine p (λ_=>Qa O)<|pkl (hl:=by kernel_rfl)<|QG ((gy.ext ho).step G n3v) O O (by simp) (QD g5) λhH H hV=>pe ?_;have hge:=Qk hj.c;have hs715:Step [E] w7 hE:=((Y.trans kb.any).trans ho.any).then G (λb hb=>.inr (hge b hb).1);refine Qx<|QN O O<|Qb<|xe ?_
  refine ⟨(i+1,mh,rq++[⟨nm,⟨xa,xm,hz,a⟩⟩]),by simp only[];omega,Z,hy,hs715.trans' H,hV,mo.low H (λb hb=>by rw[La.1 hb];omega),by simp only[List.length_append,List.length_singleton];omega,λk hk=>?_⟩;simp only[] at hk ⊢;by_cases ha:k<rq.length
  ·rw[L2 ha];exact h5 k ha
  have g6:k=i:=by simp only[List.length_append,List.length_singleton] at hk;omega
  subst g6;rw[Mw (by omega)];simp only[kk,Nat.sub_self,List.getElem_cons_zero];exact ⟨⟨hB.symm,hG,λe he=>by rw[gn] at he;exact (gb e (kn e he).1).2⟩,λe he=>by rw[gn] at he;exact (kn e he).2⟩
 rintro ⟨vr,rq⟩ g8 w8 ⟨Y,go,h8,kk,h5⟩;simp only[] at go h8 kk h5;have pt:=Y.size;have ka:=hT.step Y mq;have g147:=Qfb (l:=l) h.n 0;have hX6:Zo [E,b4] w6.heap l.vx l.xs.length 4 (l.xs.flatMap Yw):=((h.x.up (L':=[E,b4]) (λb hb=>.inr (by simp only[List.mem_cons,List.not_mem_nil,or_false] at hb;omega))).ext pg).ext gu
 have p5:Zo [E] w8.heap l.vx l.xs.length 4 (l.xs.flatMap Yw):=((hX6.st h7).up (L':=[E]) (λb hb=>.inl (by simp only[List.mem_singleton] at hb;simp[hb]))).st Y
 refine QW (α:=Value×List XV) [(10,14),(88,151)] (λ_=>[]) (λz w'=>Step [E] w8 w'∧Q3 w'.heap E 47 [ve,vc,vr,z.1,Za]∧Y3 Zt 2 122 (λq=>[(q.v,q.ls.length,2,q.ls.flatMap QQ)]) w8.heap.size w' z.1 z.2∧z.2.length≤2∧(z.2.map (·.nm)).Nodup∧∀q∈z.2,(∃k,k<2∧q.nm=⟨#[101]⟩++⟨#[UInt8.ofNat (48+k)]⟩)∧q.ls≠[]∧q.ls.length≤3∧YN (co.map (·.p.a.st)) none q.ls=0) (by rfl) ?_ ?_
 ·refine Qc<|x (Qa O)<|x (Qd ka O g147)<|x (Qq p5 O)<|Qb<|xe<|Qg<|Qy (α:=Nat×Value×List XV) [(10,14),(91,151)] (λz=>[(91,.int .i64 z.1)])
   (λz w'=>z.1≤l.xs.length∧z.1≤2∧Step [E] w8 w'∧Q3 w'.heap E 47 [ve,vc,vr,z.2.1,Za]∧Y3 Zt 2 122 (λq=>[(q.v,q.ls.length,2,q.ls.flatMap QQ)]) w8.heap.size w' z.2.1 z.2.2∧z.2.2.length≤z.1∧(z.2.2.map (·.nm)).Nodup∧∀q∈z.2.2,(∃k,k<z.1∧q.nm=⟨#[101]⟩++⟨#[UInt8.ofNat (48+k)]⟩)∧q.ls≠[]∧q.ls.length≤3∧YN (co.map (·.p.a.st)) none q.ls=0)
   (λz=>l.xs.length - z.1) (by rfl) (0,Za,[]) Z
   ⟨Lk _,Lk _,Step.refl _ _,go,Y3.nil,Lr _,List.Pairwise.nil,λq hq=>by cases hq⟩ ?_
  rintro ⟨i,vx,qx⟩ g9 w9 ⟨hi,hi2,I,hW,h4,ko,hX,hI⟩;simp only[] at hi hi2 hW h4 ko hX hI;have p6:(∀q∈qx,(∃k,k<2∧q.nm=⟨#[101]⟩++⟨#[UInt8.ofNat (48+k)]⟩)∧q.ls≠[]∧q.ls.length≤3∧YN (co.map (·.p.a.st)) none q.ls=0):=λq hq=>by
   obtain ⟨⟨k,k1,k2⟩,h2⟩:=hI q hq;exact ⟨⟨k,by omega,k2⟩,h2⟩
  refine Qc<|x (QA O O)<|xe<|Qf<|QE O (λp7=>?_) (λp7=>?_)
  ·refine Qw ?_;exact ⟨(vx,qx),U,I,hW,h4,by simp only[];omega,hX,p6⟩
  have hy:i<l.xs.length:=by have h93:(i:Int)<(l.xs.length:Int):=p7;omega
  have hX9:=p5.st I;refine Qi<|Qf<|Qg<|Qc<|Qb<|xig UE hX9 O O hy λa94 p8=>?_;refine Zb (l.xs[i]'hy) λxr hxr=>?_;rw[hxr] at p8;refine x (QI p8 O (UE xr))<|xl O<|Qv (us:=[.int .u8 0,.int .u8 0,.int .u8 0,.int .u8 0]) O λp9 T hh hb11 hB11=>x Qh<|xl O<|Qr (us:=Yw xr) hB11 O O (UE xr) O (Qax xr.1) λhg gg qb=>xe ?_;have h0:Step [] w9 hg:=hh.then1 gg hb11
  refine Qf<|Qc<|Qb<|x (Q8 O O)<|xe<|Q7 O (λqc=>?_) (λqc=>?_)
  ·refine Qw ?_;exact ⟨(vx,qx),U,I.trans h0.any,hW.ext h0,h4.ext h0,by simp only[];omega,hX,p6⟩
  have hi3:i<2:=by have h98:¬(i:Int)=2:=qc;omega
  have g3:(48:Int)+(i:Int)=((48+i:Nat):Int):=by omega
  have p0:=h0.size;have hl11:=qb.lt;refine Zb (⟨#[101]⟩++⟨#[UInt8.ofNat (48+i)]⟩:ByteArray) λnm hB=>?_;refine Qi<|Qc<|Qb<|QN O O<|x (ZL (k':=.i32) O ⟨by omega,by omega⟩)<|x (VC (n:=48+i) (congrArg (Value.int .i32) g3) (by omega))<|x (Z7 (a:=⟨#[101]⟩) (b:=⟨#[UInt8.ofNat (48+i)]⟩) O O (by show 1+1≤1000000000;omega))<|x (QF Z) <|
   xl rfl<|Qv (us:=[.string .empty,Za]) O λhJ hU V qj gt=>xl O<|Qr (us:=[.string nm,Za]) gt O (show Go.Lg.ev _ _=_ from congrArg (λs=>Value.agg #[.string s,Za]) hB) O O ⟨O,O,U⟩ λhK hM hB1213=>xe ?_
  have kp:Step [] hg hK:=V.then1 hM qj;have kq:=h0.trans kp;have hz1113:=kp.size;have hz913:=kq.size;have k9:=I.size;have hgeC:=Qk hf.c;have hltC:=QP hf.c;have nc3:E∉ob vc:=QM hf.c (by omega);have qk:∀b∈ob vc,b∉[E]:=λb hb hm=>by rw[La.1 hm] at hb;exact nc3 hb
  have hC13:=Qm (Qj (Qj hf.c Y qk) I qk) kq;have mv:=hW.ext kq;have hB1113:=qb.ext kp;have hl12:=gt.lt;have ql:E∉[hJ]:=by simp only[List.mem_singleton];omega
  have n1112:p9∉[hJ]:=by simp only[List.mem_singleton];omega
  have qm:=QR (L:=[hJ]) hC13 (by omega) (λb hb hm=>by rw[La.1 hm] at hb;have:=hltC hJ hb;omega)
  refine QW (α:=Value×List (Int×Int)) [(13,14),(104,140)] (λ_=>[]) (λz w'=>Step [hJ] hK w'∧Q3 w'.heap hJ 122 [.string nm,z.1]∧w'.ownsRow hK.heap.size 124 2 z.1 z.2.length (z.2.flatMap QQ)∧z.2.length≤co.length∧z.2.Pairwise (λp q=>p.1<q.1)∧∀p∈z.2,0≤p.1∧p.1<(co.length:Int)∧0≤p.2∧p.2<cget (co.map (·.p.a.st)) p.1.toNat) (by rfl) ?_ ?_
  ·refine Qc<|x (Qa O)<|x (Qd mv O O)<|x (Qq qm O)<|Qb<|xe<|Qg<|Qy (α:=Nat×Value×List (Int×Int)) [(13,14),(107,140)] (λz=>[(107,.int .i64 z.1)])
    (λz w'=>z.1≤co.length∧Step [hJ] hK w'∧Q3 w'.heap hJ 122 [.string nm,z.2.1]∧w'.ownsRow hK.heap.size 124 2 z.2.1 z.2.2.length (z.2.2.flatMap QQ)∧z.2.2.length≤z.1∧z.2.2.Pairwise (λp q=>p.1<q.1)∧∀p∈z.2.2,0≤p.1∧p.1<(z.1:Int)∧0≤p.2∧p.2<cget (co.map (·.p.a.st)) p.1.toNat)
    (λz=>co.length - z.1) (by rfl) (0,Za,[]) Z
    ⟨Lk _,Step.refl _ _,hB1213,QO _ _ _ _,Lr _,List.Pairwise.nil,λp hp=>by cases hp⟩ ?_
   rintro ⟨k,vl,ls⟩ g14 h6 ⟨hk,J,hN,S,mw,gi,hO⟩;simp only[] at hk hN S mw gi hO;refine Qc<|x (QA O O)<|xe<|Qf<|QE O (λmy=>?_) (λmy=>?_)
   ·refine Qw ?_;have g6:k=co.length:=by have h109:¬(k:Int)<(co.length:Int):=my;omega
    rw[g6] at hO;exact ⟨(vl,ls),U,J,hN,S,by simp only[];omega,gi,hO⟩
   have ha:k<co.length:=by have h109:(k:Int)<(co.length:Int):=my;omega
   have hAC14:=qm.st J;have hY:=mv.step J ql;have qo:=hB1113.step J n1112;refine Qi<|Qf<|Qg<|Qc<|Qb<|Qe<|Qc<|x (Qa O)<|x (Qd hY O O)<|Qb<|xig YK hAC14 O O ha λa113 qq=>?_;refine Zb (co[k]'ha) λq hq=>?_;rw[hq] at qq;refine x (Q4 O)<|x (Q4 O)<|x (Qu ((qq.from 1).fld 1 (.int .i64 q.p.a.st) O) O)<|Qe ?_;have mz:=(hS k ha).g;rw[hq] at mz;have hqp:=mz.p
   have hqs:=mz.s;have m0:=VU (ns:=xr.1) (j:=0+k*1) (by rw[xr.2.1];omega);have qx0l:=Xg xr.2.2 (0+k*1);refine Zb (xr.1.getD (0+k*1) 0) λxk hxk=>?_;rw[hxk] at m0 qx0l;have hmod:0≤(xk:Int) % (q.p.a.st+2):=Int.emod_nonneg _ (by omega)
   refine Qc<|Qb<|x (ZF (i:=k) O O (by omega))<|x (Qd qo O m0)<|x (ZL (k':=.i64) O ⟨by omega,by omega⟩)<|Qb<|QN O O<|x (US (a:=(xk:Int)) (b:=q.p.a.st+2) O O (by omega) (by omega))<|Qb<|x (QA O O)<|xe ?_;have hgeL:=Qk S;have qr:=J.size;have q0:=hM.size;have q1:hJ∉ob vl:=QM S (by omega);have hn11v:p9∉ob vl:=QM S (by omega)
   have hcget:cget (co.map (·.p.a.st)) k=q.p.a.st:=by
    unfold cget;simp[List.getD,List.getElem?_map,List.getElem?_eq_getElem ha,hq]
   refine QE O (λq2=>?_) (λq2=>?_)
   ·refine Qi<|Qx<|QN O O<|Qb<|xe ?_;exact ⟨(k+1,vl,ls),by simp only[];omega,Z,ha,J,hN,S,by simp only[];omega,gi,λp hp=>by have:=hO p hp;simp only[];omega⟩
   have h126:(xk:Int) % (q.p.a.st+2)<q.p.a.st:=q2;have hd14:Step [] h6 { h6 with drawn:=h6.drawn+1 }:=Step.drew _ _
   refine Zb ((xk:Int) % (q.p.a.st+2)) λst hst=>?_;refine QS (Step (ob vl) h6) [(0,true),(1,true),(2,true),(3,true),(4,true),(5,true),(6,true),(7,true),(8,true),(9,true),(10,true),(11,false),(12,false),(13,true),(14,false)] mixed (by rfl) (by kernel_rfl) (Step.drew _ _) ?_
   refine p (λ_=>Qa O)<|pq (λ_ hc=>Qd (hN.step hc q1) O O)<|p (λ_=>Ql)<|p (λ_=>Ql)<|p (λ_=>ZF (i:=k) O O (by omega))<|pq (λ_ hc=>Qd (qo.step hc hn11v) O m0)<|p (λ_=>ZL (k':=.i64) O ⟨by omega,by omega⟩)<|p (λ_=>Ql)<|p (λ_=>X5 O O ⟨by omega,by omega⟩) <|
    p (λ_=>US (a:=(xk:Int)) (b:=q.p.a.st+2) O O (by omega) (by omega))<|p (λ_=>QF ⟨O,O,U⟩)<|pk<|QC (us:=[QQ ((k:Int),(xk:Int) % (q.p.a.st+2))]) O O (by decide) (show 1*2≤1000000 by omega) ⟨O,O,U⟩ λb137 hE G hb137 hB137=>?_
   have gp:=hd14.trans G;have hz1415:=gp.size;refine ⟨gp.any,?_⟩;refine pk<|QU (news:=QQ ((k:Int),(xk:Int) % (q.p.a.st+2))) (L:=[]) (Qm S gp) O O O (hB137.at (by simp)) (Qcc _) (by omega) (by omega) λkr hH gq H q3=>⟨(gp.any (L:=ob vl)).trans' H,?_⟩;have hge16:∀b∈ob kr,hK.heap.size≤b:=λb hb=>(Qk gq b hb).1
   refine p (λ_=>Qa O)<|pkl (hl:=by kernel_rfl)<|QG ((hN.ext gp).step H q1) O O (by simp) (QD gq) λm1 hv hT=>pe ?_;refine Qx<|QN O O<|Qb<|xe ?_
   refine ⟨(k+1,kr,ls++[((k:Int),(xk:Int) % (q.p.a.st+2))]),by simp only[];omega,Z,ha,((J.trans gp.any).then H (λb hb=>.inr (hgeL b hb).1)).trans' hv,hT,?_,by simp only[List.length_append,List.length_singleton];omega,?_,λp hp=>?_⟩
   ·have h9:=Qj gq hv (λb hb=>by have:=hge16 b hb;simp only[List.mem_singleton];omega);simp only[List.length_append,List.flatMap_append];simpa using h9
   ·simp only[];rw[L0];exact ⟨gi,Mm _ _,λp hp p' m2=>by rw[La.1 m2];have:=hO p hp;simp only[];omega⟩
   simp only[] at hp ⊢;rcases Lj.1 hp with hp | hp
   ·have:=hO p hp;omega
   rw[La.1 hp];simp only[Int.toNat_natCast];rw[hcget];omega
  rintro ⟨vl,ls⟩ g14 h6 ⟨J,hN,S,mw,gi,hO⟩;simp only[] at hN S mw gi hO;have qr:=J.size;have q0:=hM.size;have hP:Step [] w9 h6:=kq.then1 J (by omega);have hY:=mv.step J ql;have kt:=h4.ext hP;refine Qc<|x (Qa O)<|x (Qd hN O O)<|x (Qq (QR (L:=[]) S (by omega) (by simp)) rfl)<|x (ZR rfl rfl)<|xe<|QE O (λq4=>?_) (λq4=>?_)
  ·refine Qi<|Qx<|QN O O<|Qb<|xe<|⟨(i+1,vx,qx),by simp only[];omega,Z,hy,by simp only[];omega,I.trans hP.any,hY,kt,by simp only[];omega,hX,λq hq=>?_⟩;obtain ⟨⟨k,k1,k2⟩,h2⟩:=hI q hq;exact ⟨⟨k,by simp only[];omega,k2⟩,h2⟩
  have za:(0:Int)<(ls.length:Int):=q4;have hxx:=QD S;refine Qx<|x (Qa O)<|x (Qd hY O O)<|x (Qs hN O O)<|xl O<|QC (us:=[Zt ⟨nm,vl,ls⟩]) O O (by decide) (show 1*2≤1000000 by omega) ⟨O,O,U⟩ λb148 hE G hb148 hB148=>?_
  refine xl O<|QU (news:=Zt ⟨nm,vl,ls⟩) (L:=[]) (Qm kt.own G) O O O (hB148.at (by simp)) (zY hxx) (by omega) (by have:=hP.size;have:=G.size;omega) λkr hH gq H q3=>?_;have hs1115:Step [] hg hE:=(kp.then1 J qj).trans G
  have hM16:=(h4.ext h0).app hs1115 (q:=⟨nm,vl,ls⟩) (λt ht=>by rw[La.1 ht];exact ⟨hK.heap.size,124,Qm S G,by show ls.length≤_;omega,hz1113⟩) (by omega) gq H q3;have hgeX:=Qk kt.own;have n3x:E∉ob vx:=QM kt.own (by omega);refine x (Qa O)<|xl O<|QG ((hY.ext G).step H n3x) O O (by simp) (QD gq) λm1 hv hB317=>xe ?_;refine Qx<|QN O O<|Qb<|xe ?_
  have ku:Step [E] w8 hH:=((I.trans hP.any).trans G.any).then H (λb hb=>.inr (hgeX b hb).1);refine ⟨(i+1,kr,qx++[⟨nm,vl,ls⟩]),by simp only[];omega,Z,hy,by simp only[];omega,ku.trans' hv,hB317,hM16.low hv (λb hb=>by rw[La.1 hb];omega),by simp only[List.length_append,List.length_singleton];omega,?_,λq hq=>?_⟩
  ·simp only[List.map_append,List.map_cons,List.map_nil];rw[MM];refine ⟨hX,by simp,λs hs s' hs' e=>?_⟩;obtain ⟨q,hq,rfl⟩:=Ly.1 hs;obtain ⟨⟨k,k1,k2⟩,_⟩:=hI q hq;have hk0:k=0:=by omega
   have hi1:i=1:=by omega
   rw[La.1 hs',k2,←hB,hk0,hi1] at e;exact absurd e (by decide)
  rcases Lj.1 hq with hq | hq
  ·obtain ⟨⟨k,k1,k2⟩,h2⟩:=hI q hq;exact ⟨⟨k,by simp only[];omega,k2⟩,h2⟩
  rw[La.1 hq];refine ⟨⟨i,Nat.lt_succ_self _,hB.symm⟩,λe=>by rw[show ls=[] from e] at za;exact absurd za (by decide),by show ls.length≤3;omega,QcW ls none (λb hb=>by cases hb) gi (λp hp=>?_)⟩;rw[Lb];exact hO p hp
 rintro ⟨vx,qx⟩ g9 w9 ⟨I,hW,h4,ko,hX,hI⟩;simp only[] at hW h4 ko hX hI;have k9:=I.size;have zv:=ka.step I mq;have g151:=Qfb (l:=l) h.n 4;have hbd:=h.bd;have hbdb:=QbU l.bd (b:=8) (by decide);refine Zb (l.bd.tmod 8) λbd z0=>?_;rw[z0] at hbdb;have hbd8:-7≤bd∧bd≤7:=by omega
 refine Qc<|x (Qa O)<|x (Qd zv O g151)<|x (ZL (k':=.i64) O ⟨by omega,by omega⟩)<|x (Qe0 O O (by decide))<|x (QF ⟨O,O,U⟩)<|xl O<|Qv (us:=[.string .empty,Za,.int .i64 0]) O λhZ T hh m3 m4 =>
  xl rfl<|Qr (us:=[.string ⟨#[107]⟩,Za,.int .i64 bd]) m4 O (show Go.Lg.ev _ _=_ from congrArg (λn=>Value.agg #[.string ⟨#[107]⟩,Za,.int .i64 n]) z0) O O ⟨O,O,O,U⟩ λhg gg z2=>xe ?_
 have h0:Step [] w9 hg:=hh.then1 gg m3;have hz911:=h0.size;have hB111:=zv.ext h0;have hB311:=hW.ext h0;have n115:b1∉[hZ]:=by simp only[List.mem_singleton];omega
 have n315:E∉[hZ]:=by simp only[List.mem_singleton];omega
 have hl15:=z2.lt;refine QW (α:=Value×List (Int×Int)) [(16,16),(157,179)] (λ_=>[]) (λz w'=>Step [hZ] hg w'∧Q3 w'.heap hZ 127 [.string ⟨#[107]⟩,z.1,.int .i64 bd]∧w'.ownsRow hg.heap.size 129 2 z.1 z.2.length (z.2.flatMap QQ)∧z.2.length≤n∧z.2.Pairwise (λp q=>p.1<q.1)∧∀p∈z.2,0≤p.1∧p.1<(n:Int)∧-4<p.2∧p.2<4) (by rfl) ?_ ?_
 ·refine Qc<|Qb<|Qb<|xe<|Qg<|Qy (α:=Nat×Value×List (Int×Int)) [(16,16),(158,179)] (λz=>[(158,.int .i64 z.1)])
   (λz w'=>z.1≤n∧Step [hZ] hg w'∧Q3 w'.heap hZ 127 [.string ⟨#[107]⟩,z.2.1,.int .i64 bd]∧w'.ownsRow hg.heap.size 129 2 z.2.1 z.2.2.length (z.2.2.flatMap QQ)∧z.2.2.length≤z.1∧z.2.2.Pairwise (λp q=>p.1<q.1)∧∀p∈z.2.2,0≤p.1∧p.1<(z.1:Int)∧-4<p.2∧p.2<4)
   (λz=>n - z.1) (by rfl) (0,Za,[]) Z
   ⟨Lk _,Step.refl _ _,z2,QO _ _ _ _,Lr _,List.Pairwise.nil,λp hp=>by cases hp⟩ ?_
  rintro ⟨i,vt,ts⟩ g12 hU ⟨hi,V,hQ,hw,kc,gj,hR⟩;simp only[] at hi hQ hw kc gj hR;refine Qc<|x (QA O O)<|xe<|Qf<|QE O (λm5=>?_) (λm5=>?_)
  ·refine Qw ?_;have k6:i=n:=by have h160:¬(i:Int)<1+(cn:Int) % 3:=m5;omega
   rw[k6] at kc hR;exact ⟨(vt,ts),U,V,hQ,hw,kc,gj,hR⟩
  have hy:i<n:=by have h160:(i:Int)<1+(cn:Int) % 3:=m5;omega
  have z3:=hB111.step V n115;have qf:=QlF (l:=l) h.n (i:=i) (by omega);have qfb:=QlE h i (by omega);refine Zb (flk l i) λfk hfk=>?_;rw[hfk] at qf qfb;refine Qi<|Qf<|Qg<|Qc<|Qb<|Qe<|Qc<|Qb<|x (Qa O)<|x (ZF (i:=i) O O (by omega))<|x (Qd z3 O qf)<|x (Q9 O O)<|xe<|QE O (λh165=>?_) (λh165=>?_)
  ·refine Qi<|Qx<|QN O O<|Qb<|xe ?_;exact ⟨(i+1,vt,ts),by simp only[];omega,Z,hy,V,hQ,hw,by simp only[];omega,gj,λp hp=>by have:=hR p hp;simp only[];omega⟩
  have hmd:=QbU fk (b:=4) (by decide);have hd12:Step [] hU { hU with drawn:=hU.drawn+1 }:=Step.drew _ _
  have hz12:=V.size;have hgeT:=Qk hw;have z4:hZ∉ob vt:=QM hw (by omega);have hn1v:b1∉ob vt:=QM hw (by omega);refine QS (Step (ob vt) hU) [(0,true),(1,true),(2,true),(3,true),(4,true),(5,true),(6,true),(7,true),(8,true),(9,true),(10,false),(11,false),(12,true),(13,false)] mixed (by rfl) (by kernel_rfl) (Step.drew _ _) ?_
  refine p (λ_=>Qa O)<|pq (λ_ hc=>Qd (hQ.step hc z4) O O)<|p (λ_=>Ql)<|p (λ_=>Ql)<|p (λ_=>Qa O)<|p (λ_=>ZF (i:=i) O O (by omega))<|pq (λ_ hc=>Qd (z3.step hc hn1v) O qf)<|p (λ_=>ZL (k':=.i64) O ⟨by omega,by omega⟩) <|
   p (λ_=>Qe0 O O (by decide))<|p (λ_=>QF ⟨O,O,U⟩)<|pk<|QC (us:=[QQ ((i:Int),fk.tmod 4)]) O O (by decide) (show 1*2≤1000000 by omega) ⟨O,O,U⟩ λb176 hK hM hb176 hB176=>?_
  have gs:=hd12.trans hM;have hz1213:=gs.size;refine ⟨gs.any,?_⟩;refine pk<|QU (news:=QQ ((i:Int),fk.tmod 4)) (L:=[]) (Qm hw gs) O O O (hB176.at (by simp)) (Qcc _) (by omega) (by omega) λz5 h6 S J hn14=>⟨(gs.any (L:=ob vt)).trans' J,?_⟩;have hge14:∀b∈ob z5,hg.heap.size≤b:=λb hb=>(Qk S b hb).1
  refine p (λ_=>Qa O)<|pkl (hl:=by kernel_rfl)<|QG ((hQ.ext gs).step J z4) O O (by simp) (QD S) λhE G m4=>pe ?_;refine Qx<|QN O O<|Qb<|xe<|⟨(i+1,z5,ts++[((i:Int),fk.tmod 4)]),by simp only[];omega,Z,hy,((V.trans gs.any).then J (λb hb=>.inr (hgeT b hb).1)).trans' G,m4,?_,by simp only[List.length_append,List.length_singleton];omega,?_,λp hp=>?_⟩
  ·have h9:=Qj S G (λb hb=>by have:=hge14 b hb;simp only[List.mem_singleton];omega);simp only[List.length_append,List.flatMap_append];simpa using h9
  ·simp only[];rw[L0];exact ⟨gj,Mm _ _,λp hp p' m2=>by rw[La.1 m2];have:=hR p hp;simp only[];omega⟩
  simp only[] at hp ⊢;rcases Lj.1 hp with hp | hp
  ·have:=hR p hp;omega
  rw[La.1 hp];simp only[];omega
 rintro ⟨vt,ts⟩ g12 hU ⟨V,hQ,hw,kc,gj,hR⟩;simp only[] at hQ hw kc gj hR;have hz12:=V.size;have hgT:=Qk hw;refine Qc<|x (Qa O)<|x (Qd hQ O O)<|xl O<|xf<|(QiQ hw (by omega)).mono ?_;rintro vu hK ⟨hM,kv⟩;have z9:(nzT ts).Pairwise (λp q=>p.1<q.1):=List.Pairwise.filter _ gj;have hul:=Mh (λp:Int×Int=>!decide (p.2=0)) ts
 have hub:∀p∈nzT ts,0≤p.1∧p.1<(n:Int)∧p.2≠0∧-65536≤p.2∧p.2≤65536:=λp hp=>by
  have h1:=Md.1 hp;have h2:=hR p h1.1;have h3:¬p.2=0:=by simpa using h1.2
  omega
 refine Zb (nzT ts) λus hus=>?_;have hul':us.length≤3:=by rw[←hus];exact LS hul (by omega)
 rw[hus] at kv z9 hub;have n15t:hZ∉ob vt:=QM hw (by omega);refine x (Qa O)<|xl O<|QG (hQ.step hM n15t) O O (by simp) (QD kv) λh6 J hB1514=>xe ?_;have hP:Step [] w9 h6:=(((h0.then1 V m3).then hM (λb hb=>.inr (by have:=(hgT b hb).1;omega)))).then1 J m3;have hz914:=hP.size;have q0:=hM.size;have qr:=J.size;have hgU:=Qk kv
 have S:=Qj kv J (λb hb=>by have:=(hgU b hb).1;simp only[List.mem_singleton];omega);have hY:=hW.ext hP;refine QW (α:=Value×List KV) [(184,190)] (λ_=>[]) (λz w'=>Step [E] h6 w'∧Q3 w'.heap E 47 [ve,vc,vr,vx,z.1]∧z.2.length≤1∧(∀q∈z.2,q.nm=⟨#[107]⟩∧YE (co.map (·.p.a.st)) q.k=0)∧∀L:LN,(∀b∈L,b<w6.heap.size)→qG L w'.heap z.1 z.2) (by rfl) ?_ ?_
 ·refine Qc<|x (Qa O)<|x (Qd hB1514 O O)<|x (Qq (QR (L:=[]) S (by omega) (by simp)) rfl)<|x (ZR rfl rfl)<|xe<|QE O (λh187=>?_) (λh187=>?_)
  ·refine Qi ?_;exact ⟨(Za,[]),U,Step.refl _ _,hY,by decide,λq hq=>(by cases hq),λL _=>⟨Zo.nil _ _ 3,λq hq=>(by cases hq),λq hq=>(by cases hq)⟩⟩
  have h188:(0:Int)<(us.length:Int):=h187;have huo:=QD S;refine Qx<|x (Qs hB1514 O O)<|xl O<|QC (us:=[Zv ⟨⟨#[107]⟩,vu,us,bd⟩]) O O (by decide) (show 1*3≤1000000 by omega) ⟨O,O,U⟩ λb189 hE G hb189 hB189=>?_;have hz15:=G.size;refine x (Qa O)<|xl O<|QG (hY.ext G) O O (by simp) rfl λhH H hV=>xe ?_
  refine ⟨(_,[⟨⟨#[107]⟩,vu,us,bd⟩]),U,G.any.trans' H,hV,Lr _,λq hq=>?_,λL hL=>?_⟩
  ·rw[La.1 hq];refine ⟨rfl,?_⟩;have hgr0:grt bd=false:=by unfold grt;rw[decide_eq_false (by omega),decide_eq_false (by omega)];rfl
   have hct:=QcU (sz:=co.map (·.p.a.st)) us none (λb hb=>by cases hb) z9 (λp hp=>by rw[Lb,gv];exact hub p hp);show YE _ ⟨_,us,bd⟩=0;unfold YE;rw[if_neg (by simp only[];omega),if_neg (by rw[hct];decide),if_neg (by simp only[];rw[hgr0];decide)]
  have kw:∀b∈E::L,b<hg.heap.size:=λb hb=>by
   rcases Lc.1 hb with rfl | hb
   ·omega
   have:=hL b hb;omega
  have h1:qG (E::L) hE.heap (.slice (some ⟨b189,0,none⟩) 1 1) [⟨⟨#[107]⟩,vu,us,bd⟩]:=by
   refine ⟨hB189.arr (λhb=>by have:=kw _ hb;omega) O (by decide) (Lr _),λq hq=>?_,λq hq=>?_⟩
   ·rw[La.1 hq];exact (QR (L:=E::L) S (by omega) (λb hb ke=>by have:=(hgU b hb).1;have:=kw b ke;omega)).ext G
   rw[La.1 hq];exact YQ (by decide)
  exact (h1.st (H.mono (by simp))).up (λb hb=>.inl (Ll _ hb))
 rintro ⟨vk,ks⟩ g16 hH ⟨H,hV,ha,hgk,m6⟩;simp only[] at hV ha hgk m6;have hz16:=H.size;have hge3:=Qk gk;have hlt3:=QP gk;have ku:Step [E] w8 hH:=(I.trans hP.any).trans' H;have hs716:Step [E] w7 hH:=Y.trans' ku;have m7:Step [E,b4] w6 hH:=h7.trans' (hs716.mono (by simp));have m8:∀b∈[E],b<w6.heap.size:=λb hb=>by rw[La.1 hb];omega
 have hE16:=Qj (Qm gk pp) m7 (λb hb hm=>by have:=hlt3 b hb;simp only[List.mem_cons,List.not_mem_nil,or_false] at hm;omega);have hC16:=hf.low hs716 m8;have hR16:=h8.low ku (λb hb=>by have:=m8 b hb;omega);have hX16:=(h4.ext hP).low H (λb hb=>by have:=m8 b hb;omega);have n23:b2∉[E]:=by simp only[List.mem_singleton];omega
 have n234:b2∉[E,b4]:=by simp only[List.mem_cons,List.not_mem_nil,or_false];omega
 have hB216:=(pf.ext gu).step m7 n234;refine Qc<|x (Qs hV O O)<|xl O<|Qr (us:=[ve,vc,vr,vx,vk]) hB216 O O O O ⟨QD hE16,QD hC16.c,QD hR16.c,QD hX16.own,(m6 [] (by simp)).arr.one,U⟩ λm1 hv hB217=>xe ?_;have m9:∀b∈[b2],b<w6.heap.size:=λb hb=>by rw[La.1 hb];omega
 have lo2':∀b∈[b2],b<w2.heap.size:=λb hb=>by rw[La.1 hb];omega
 have hE17:=Qj hE16 hv (λb hb hm=>by have:=(hge3 b hb).1;have:=lo2' b hm;omega);have hC17:=hC16.low hv m9;have hR17:=hR16.low hv (λb hb=>by have:=m9 b hb;omega);have pa:=hX16.low hv (λb hb=>by have:=m9 b hb;omega);have hs017:Step [] w m1:=((pg.trans gu).then m7 (λb hb=>.inr (by simp only[List.mem_cons,List.not_mem_nil,or_false] at hb;omega))).then1 hv (by omega)
 have hcon:∀q∈co,Ue q.nm:=λq hq=>by
  obtain ⟨k,hk,rfl⟩:=LE hq;rw[(hS k hk).nm];exact VH 99 k
 have hrqn:∀q∈rq,Ue q.nm:=λq hq=>by
  obtain ⟨k,hk,rfl⟩:=LE hq;rw[(h5 k hk).1.nm];exact VH 114 k
 have hxnm:∀q∈qx,Ue q.nm:=λq hq=>by
  obtain ⟨⟨k,_,k2⟩,_⟩:=hI q hq;rw[k2];exact VH 101 k
 have hevn:∀e∈ev,Ue e.nm:=λe he=>Qgt _ e (by rw[kh];exact he);have hevl:ev.length=5:=by rw[←kh];exact Kg _ _
 refine Qn ⟨[.agg [ve,vc,vr,vx,vk].toArray],⟨⟨_,O,QB O (hB217.at (L:=[]) (by simp)).cells⟩,U⟩,hs017,⟨ev,co.map IV.it,rq.map IV.it,qx.map XV.x,ks.map KV.k⟩,⟨⟨ve,vc,vr,vx,vk,ev,co,rq,qx,ks⟩,rfl,rfl,λL hL=>?_⟩,?_⟩
 ·have kw:∀b∈L,b<w2.heap.size:=λb hb=>by have:=hL b hb;omega
  have hLn:b2∉L:=λhm=>by have:=hL b2 hm;omega
  have kf:∀b∈b2::L,b<w6.heap.size:=λb hb=>by
   rcases Lc.1 hb with rfl | hb
   ·omega
   have:=hL b hb;omega
  refine ⟨⟨QR hE17 (by show ev.length≤_;omega) (λb hb ke=>by have:=(hge3 b hb).1;have:=kw b ke;omega),hevn⟩,hC17.itms (by omega) hcon (λb hb=>by have:=kf b (Ll _ hb);omega),hR17.itms (by omega) hrqn (λb hb=>by have:=kf b (Ll _ hb);omega),⟨QR pa.own (by show qx.length≤_;omega) (λb hb ke=>by have:=(Qk pa.own b hb).1;have:=kf b (Ll _ ke);omega),λq hq=>?_,hxnm⟩,?_⟩
  ·exact pa.each q hq _ (La.2 O) L (λb hb=>.inl (by have:=kf b (Ll _ hb);omega))
  exact ((m6 (b2::L) kf).st (hv.mono (by simp))).up (λb hb=>.inl (Ll _ hb))
 rw[←kh];exact QkQ ky (by omega) (by omega) hS gm (by omega) h5 ko hX hI ha hgk
structure q8 (base:Nat) (w:World) (vc va:Value) (co:List IV) (al:List Km):Prop where
 c:w.ownsRow base 66 5 vc co.length (co.flatMap Zf)
 a:w.ownsRow base 87 5 va al.length (al.flatMap Zn)
 dj:Dj vc va
 each:∀q∈co,∀t∈QdH q,ZC base (ob vc++ob va) w.heap t.1 t.2.1 t.2.2.1 t.2.2.2
section
variable {base:Nat} {w w':World} {vc va vc' va':Value} {co:List IV} {al:List Km}
theorem q8.nil:q8 base w (nS) (nS) [] []:=⟨QO _ _ _ _,QO _ _ _ _,Dj.nil _,λq hq=>by cases hq⟩
theorem q8.ext (h:q8 base w vc va co al) (E:Step [] w w'):q8 base w' vc va co al:=⟨Qm h.c E,Qm h.a E,h.dj,λq hq t G=>(h.each q hq t G).ext E⟩
theorem q8.low {X:LN}(h:q8 base w vc va co al) (E:Step X w w') (G:∀b∈X,b<base):q8 base w' vc va co al :=
 ⟨Qj h.c E (λb hb hm=>by have:=(Qk h.c b hb).1;have:=G b hm;omega),Qj h.a E (λb hb hm=>by have:=(Qk h.a b hb).1;have:=G b hm;omega),h.dj,λq hq t H=>(h.each q hq t H).low E G⟩
theorem q8.avlt (h:q8 base w vc va co al):∀b∈ob vc++ob va,b<w.heap.size:=λb hb=>(Lj.1 hb).elim (QP h.c b) (QP h.a b)
theorem q8.setC {q:IV}(h:q8 base w vc va co al) (hq:∀t∈QdH q,ZC base (ob vc++ob va) w.heap t.1 t.2.1 t.2.2.1 t.2.2.2) (T:w'.ownsRow base 66 5 vc' (co.length+1) (co.flatMap Zf++Zf q))
  (E:Step (ob vc) w w') (G:∀b∈ob vc',b∈ob vc∨w.heap.size≤b):q8 base w' vc' va (co++[q]) al:=by
 have H:Step (ob vc++ob va) w w':=E.mono (λb hb=>Lj.2 (.inl hb));have I:∀b∈ob vc'++ob va,b∈ob vc++ob va∨w.heap.size≤b:=λb hb=>by
  rcases Lj.1 hb with hb | hb
  ·exact (G b hb).imp (λh=>Lj.2 (.inl h)) id
  exact .inl (Lj.2 (.inr hb))
 refine ⟨?_,Qj h.a E (λb hb V=>h.dj b V hb),λb hb J=>?_,λd hd t S=>?_⟩
 ·rw[Li,Lz];simpa using T
 ·rcases G b hb with h1 | h1
  ·exact h.dj b h1 J
  have:=QP h.a b J;omega
 rcases Lj.1 hd with hd | hd
 ·exact (h.each d hd t S).app H I
 simp only[List.mem_singleton] at hd;subst hd;exact (hq t S).app H I
theorem q8.setA {E:List Km}(h:q8 base w vc va co al) (J:w'.ownsRow base 87 5 va' E.length (E.flatMap Zn)) (H:Step (ob va) w w') (I:∀b∈ob va',b∈ob va∨w.heap.size≤b):q8 base w' vc va' co E:=by
 have S:Step (ob vc++ob va) w w':=H.mono (λb hb=>Lj.2 (.inr hb));have T:∀b∈ob vc++ob va',b∈ob vc++ob va∨w.heap.size≤b:=λb hb=>by
  rcases Lj.1 hb with hb | hb
  ·exact .inl (Lj.2 (.inl hb))
  exact (I b hb).imp (λh=>Lj.2 (.inr h)) id
 refine ⟨Qj h.c H (λb hb G=>h.dj b hb G),J,λb hb G=>?_,λd hd t V=>(h.each d hd t V).app S T⟩;rcases I b G with h1 | h1
 ·exact h.dj b hb h1
 have:=QP h.c b hb;omega
theorem q8.itms {L:LN}(h:q8 base w vc va co al) (G:co.length≤1099511627776) (hm:∀q∈co,Ue q.nm) (E:∀b∈L,b<base):Y6 L w.heap vc co :=
 ⟨QR h.c G (λb hb H=>by have:=(Qk h.c b hb).1;have:=E b H;omega),λq hq=>⟨h.each q hq (q.p.va,q.p.a.al.length,1,q.p.a.al.map (.int .i64)) (by simp) L (λb hb=>.inl (E b hb)),h.each q hq (q.p.vm,q.p.a.mr.length,1,q.p.a.mr.map (.int .i64)) (by simp) L (λb hb=>.inl (E b hb)),h.each q hq (q.p.ve,q.p.a.ed.length,3,q.p.a.ed.flatMap Qz) (by simp) L (λb hb=>.inl (E b hb))⟩,hm⟩
end
def mzA (s f:Int):QV:=⟨[s,f],2,[0],[(0,s,1),(1,f,0)]⟩
set_option maxHeartbeats 1000000 in
theorem QbN (nm:ByteArray) (s f:Int) (w:World):QJ prog 244 [.string nm,.int .i64 s,.int .i64 f] w λr w'=>Step [] w w'∧∃xa xm xe,r=.agg #[.string nm,xa,.int .i64 2,xm,xe]∧ZP [xa,xm,xe]∧∀L:LN,(∀b∈L,b<w.heap.size)→Zu L w'.heap xa xm xe (mzA s f):=by
 refine QJ.of_W func244 O ntmps244 results244 (by simp) ?_;refine Qc<|xl O<|Qv (us:=[.string .empty,nS,.int .i64 0,nS,nS]) O λb6 w1 T hf V=>xe ?_;have hg:=V.lt
 refine Qc<|Qb<|Qb<|xl O<|QC (us:=[[.int .i64 s],[.int .i64 f]]) O O (by decide) (by simp) ⟨rfl,rfl,rfl,rfl,U⟩ λE w2 Y hv hh=>xl rfl<|QC (us:=[[.int .i64 0]]) rfl rfl (by decide) (by simp) ⟨rfl,rfl,U⟩ λG w3 J hw hj =>
  Qb<|x (QF ⟨O,O,O,U⟩)<|Qb<|x (QF ⟨O,O,O,U⟩)<|xl O<|QC (us:=[Qz (0,s,1),Qz (1,f,0)]) O O (by decide) (by exact (by decide:2*3≤1000000)) ⟨O,O,O,O,U⟩ λH w4 I hy hl=>?_
 have ha:=(Y.trans J).trans I;have hn:=T.trans ha;have hz:=T.size;have h0:=Y.size;have h2:=J.size;have h3:=I.size;have hF:Xw w1.heap.size w4.heap (.agg #[.slice (some ⟨E,0,none⟩) 2 2,.int .i64 2,.slice (some ⟨G,0,none⟩) 1 1,.slice (some ⟨H,0,none⟩) 2 2]) (mzA s f) :=
  zX (a:=mzA s f) ((hh.ext J).ext I) (hj.ext I) hl (by omega) (by omega) (by omega) O O O (by decide) (by decide) (by decide)
 refine x (QF ⟨O,O,O,O,U⟩)<|xl O<|Qv (us:=qV) O λb7 w5 ho hp hq=>xl O<|Qr (us:=[.slice (some ⟨E,0,none⟩) 2 2,.int .i64 2,.slice (some ⟨G,0,none⟩) 1 1,.slice (some ⟨H,0,none⟩) 2 2]) hq O O O O ⟨O,O,O,O,U⟩ λw6 hr hs=>xe ?_;have S:Step [] w4 w6:=ho.then1 hr hp
 refine Qc<|Qb<|x (Qs hs O O)<|x (ZV [(0,[.string nm]),(1,[.slice (some ⟨E,0,none⟩) 2 2,.int .i64 2,.slice (some ⟨G,0,none⟩) 1 1,.slice (some ⟨H,0,none⟩) 2 2])] ⟨O,O,O,O,U⟩) <|
  xl rfl<|Qr (us:=[.string nm,.slice (some ⟨E,0,none⟩) 2 2,.int .i64 2,.slice (some ⟨G,0,none⟩) 1 1,.slice (some ⟨H,0,none⟩) 2 2]) ((V.ext ha).ext S) O O O O ⟨O,O,O,O,O,U⟩ λw7 hc ht=>xe ?_
 obtain ⟨xa,xm,h4,hu,hA⟩:=hF;have he:=congrArg (λv=>match v with | Value.agg cs=>cs.toList | _=>[]) hu
 simp only[List.cons.injEq,and_true] at he;obtain ⟨rfl,_,rfl,rfl⟩:=he;refine Qn ⟨[.agg [.string nm,.slice (some ⟨E,0,none⟩) 2 2,.int .i64 2,.slice (some ⟨G,0,none⟩) 1 1,.slice (some ⟨H,0,none⟩) 2 2].toArray],⟨⟨_,O,QB O (ht.at (L:=[]) (by simp)).cells⟩,U⟩,(hn.trans S).then1 hc hf,_,_,_,rfl,⟨rfl,rfl,rfl,U⟩,λL hL=>?_⟩;have h1:=(hA (b6::L) (λb hb=>by
  rcases Lc.1 hb with rfl | hb
  ·exact hg
  have:=hL b hb;omega)).ext S
 exact (h1.st (hc.mono (by simp))).up (λb hb=>.inl (Ll _ hb))
def nmZ (p:Array UInt8) (i:Nat):ByteArray:=⟨p⟩++⟨#[UInt8.ofNat (97+i)]⟩
abbrev Qfc:Array UInt8:=#[115,116,97,114,116]
abbrev Qca:Array UInt8:=#[102,105,110,105,115,104]
abbrev Xm:Array UInt8:=#[109,97,99,104,105,110,101]
def jN (i:Nat):List Km:=[⟨nmZ Qfc i,true,true,false,0⟩,⟨nmZ Qca i,false,true,false,0⟩]
def mzE (c:Nat):List Km:=(List.range c).flatMap jN
def QlJ (i:Nat):YH:=⟨nmZ Xm i,mzA (2*(i:Int)) (2*(i:Int)+1)⟩
def mzC (c:Nat):Zw:=⟨mzE c,(List.range c).map QlJ,[],[],[]⟩
theorem VG (p:Array UInt8) (i:Nat) (h:p.size≤10):Ue (nmZ p i):=by
 show (ByteArray.mk _++ByteArray.mk _).size≤_;rw[ByteArray.size_append];show p.size+1≤_;omega
theorem Qki (c:Nat):∀e∈mzE c,Ue e.nm:=λe he=>by
 unfold mzE at he;obtain ⟨i,_,hi⟩:=ME.1 he;simp only[jN,List.mem_cons,List.not_mem_nil,or_false] at hi;rcases hi with rfl | rfl
 ·exact VG _ _ (by decide)
 exact VG _ _ (by decide)
theorem jO (c:Nat):mzE (c+1)=mzE c++jN c:=by unfold mzE;rw[Nu,Lz];simp
theorem Qcm:∀c,(mzE c).length=2*c
 | 0=>rfl
 | c+1=>by rw[jO,Li,Qcm c];show 2*c+2=_;omega
theorem QdB (i:Nat):∀u∈(jN i).flatMap Zn,u.oneCell'=true:=λu hu=>by
 obtain ⟨e,_,he⟩:=ME.1 hu;exact j9 e u he
set_option maxHeartbeats 8000000 in
theorem XW (c:Nat) (hZ:c≤4) (w:World):QJ prog 196 [.int .i64 c] w λr w'=>Step [] w w'∧Qhf w.heap.size w'.heap r (mzC c):=by
 refine QJ.of_W func196 O ntmps196 results196 (by simp) ?_;refine Qc<|xl O<|Qv (us:=Yi) O λb2 w1 hy ga hz=>xe ?_;refine Qc<|xl O<|Qv (us:=Yi) O λH I hh gb h0=>xe ?_;have hG:=hy.trans hh;have gc:=hy.size;have ge:=hh.size;have gg:=hz.lt;have hj:=h0.lt;have hH:=hz.ext hh;refine Qf<|Qc<|Qb<|Qb<|xe ?_
 refine Qg<|Qy (α:=Nat×Value×List Km×Value×List IV) [(4,4),(6,42)] (λz=>[(6,.int .i64 z.1)])
  (λz w'=>z.1≤c∧Step [H] I w'∧Q3 w'.heap H 47 [z.2.1,z.2.2.2.1,Za,Za,Za]∧q8 I.heap.size w' z.2.2.2.1 z.2.1 z.2.2.2.2 z.2.2.1∧z.2.2.1=mzE z.1∧z.2.2.2.2.map IV.it=(List.range z.1).map QlJ∧∀q∈z.2.2.2.2,Ue q.nm)
  (λz=>c - z.1) (by rfl) (0,Za,[],Za,[]) Z ⟨Lk _,Step.refl _ _,h0,q8.nil,O,O,λq hq=>by cases hq⟩ ?_
 rintro ⟨i,ve,ev,vc,co⟩ g3 w3 ⟨hi,Y,ha,E,J,T,hn⟩;simp only[] at hi ha E J T hn;have gh:=Y.size;have gi:ev.length=2*i:=by rw[J];exact Qcm i
 have gj:co.length=i:=by have:=congrArg List.length T;simpa using this
 refine Qc<|x (QA O O)<|xe<|Qf<|QE O (λh7=>?_) (λh7=>?_)
 ·refine Qw ?_;have hI:i=c:=by have h8:¬(i:Int)<(c:Int):=h7;omega
  rw[hI] at J T;have hJ:b2∉[H]:=by simp only[List.mem_singleton];omega
  have ho:=hH.step Y hJ;refine Qc<|x (Qs ha O O)<|xl O<|Qr (us:=[ve,vc,Za,Za,Za]) ho O O O O ⟨QD E.a,QD E.c,O,O,O,U⟩ λw4 G hK=>xe ?_;have hM:∀b∈[b2],b<I.heap.size:=λb hb=>by rw[La.1 hb];omega
  have hp:=E.low G hM;refine Qn ⟨[.agg [ve,vc,Za,Za,Za].toArray],⟨⟨_,O,QB O (hK.at (L:=[]) (by simp)).cells⟩,U⟩,(hG.then1 Y (by omega)).then1 G (by omega),⟨ve,vc,Za,Za,Za,ev,co,[],[],[]⟩,rfl,?_,λL hL=>?_⟩
  ·show (⟨ev,co.map IV.it,[],[],[]⟩:Zw)=mzC c;rw[J,T];rfl
  have h1:∀b∈L,b<I.heap.size:=λb hb=>by have:=hL b hb;omega
  exact ⟨⟨QR hp.a (by show ev.length≤_;omega) (λb hb hN=>by have:=(Qk hp.a b hb).1;have:=h1 b hN;omega),λe he=>Qki c e (by rw[←J];exact he)⟩,hp.itms (by omega) hn h1,⟨Zo.nil _ _ 5,λq hq=>(by cases hq),λq hq=>(by cases hq)⟩,⟨Zo.nil _ _ 2,λq hq=>(by cases hq),λq hq=>(by cases hq)⟩,⟨Zo.nil _ _ 3,λq hq=>(by cases hq),λq hq=>(by cases hq)⟩⟩
 have hO:i<c:=by have h8:(i:Int)<(c:Int):=h7;omega
 have hu:(97:Int)+(i:Int)=((97+i:Nat):Int):=by omega
 refine Qi<|Qf<|Qg<|Qc<|Qb<|Qe<|Qc<|x (Qa O)<|x (Qd ha O O)<|Qb<|QN O O<|x (ZL (k':=.i32) O ⟨by omega,by omega⟩)<|x (VC (n:=97+i) (congrArg (Value.int .i32) hu) (by omega))<|x (Z7 (a:=⟨Qfc⟩) (b:=⟨#[UInt8.ofNat (97+i)]⟩) O O (by show 5+1≤1000000000;omega))<|x (QF ⟨O,O,O,U⟩) <|
  Qb<|QN rfl O<|x (ZL (k':=.i32) O ⟨by omega,by omega⟩)<|x (VC (n:=97+i) (congrArg (Value.int .i32) hu) (by omega))<|x (Z7 (a:=⟨Qca⟩) (b:=⟨#[UInt8.ofNat (97+i)]⟩) O O (by show 6+1≤1000000000;omega))<|x (QF ⟨O,O,U⟩) <|
  xl rfl<|QC (us:=(jN i).map Zn) O O (by decide) (by exact (by decide:2*5≤1000000)) ⟨O,O,O,O,U⟩ λgk w4 G gl ho=>?_
 have gm:=G.size;have hP:H∉ob ve:=QM E.a hj;have h2:H∉ob vc:=QM E.c hj;have hge:=Qk E.a;have hQ:=Qk E.c;refine xl rfl<|QU (m:=2) (news:=(jN i).flatMap Zn) (L:=[]) (Qm E.a G) O O O (ho.at (by simp)) (QdB i) (by omega) (by omega) λhr w5 h3 hs hR=>?_;refine x (Qa O)<|xl O<|QG (j:=0) (u:=hr) ((ha.ext G).step hs hP) O O (by simp) (QD h3) λS h4 h5=>xe ?_
 have hS:q8 I.heap.size w5 vc hr co (ev++jN i):=(E.ext G).setA (by rw[Li,Lz];exact h3) hs hR;have h6:∀b∈[H],b<I.heap.size:=λb hb=>by rw[La.1 hb];exact hj
 have h9:=hS.low h4 h6;have hB:Step [H] I S:=((Y.trans G.any).then hs (λb hb=>.inr (hge b hb).1)).trans' h4;have gn:=hB.size;have hT:Step [] S { S with drawn:=S.drawn+1 }:=Step.drew _ _
 refine QS (Step (ob vc) S) [(0,true),(1,true),(2,true),(3,true),(4,true),(5,true),(6,true),(7,true),(8,true),(9,true),(10,true),(11,true),(12,false),(13,false),(14,false),(15,true),(16,false)] mixed (by rfl) (by kernel_rfl) (Step.drew _ _) ?_
 refine p (λ_=>Qa O)<|pq (λ_ hc=>Qd (h5.step hc h2) O O)<|p (λ_=>Ql)<|p (λ_=>X5 O O ⟨by omega,by omega⟩)<|p (λ_=>ZL (k':=.i32) O ⟨by omega,by omega⟩)<|p (λ_=>VC (n:=97+i) (congrArg (Value.int .i32) hu) (by omega)) <|
  p (λ_=>Z7 (a:=⟨Xm⟩) (b:=⟨#[UInt8.ofNat (97+i)]⟩) O O (by show 7+1≤1000000000;omega))<|p (λ_=>Ql)<|p (λ_=>Qe2 O O ⟨by omega,by omega⟩)<|p (λ_=>Ql)<|p (λ_=>Qe2 O O ⟨by omega,by omega⟩)<|p (λ_=>X5 O O ⟨by omega,by omega⟩) <|
  pk<|xf<|(QbN (nmZ Xm i) (2*(i:Int)) (2*(i:Int)+1) _).mono ?_
 rintro r7 w7 ⟨hU,xa,xm,hf,rfl,ht,hA⟩;have hv:=hT.trans hU;refine ⟨hv.any,?_⟩;refine pk<|QC (us:=[Zf ⟨nmZ Xm i,⟨xa,xm,hf,mzA (2*(i:Int)) (2*(i:Int)+1)⟩⟩]) O O (by decide) (show 1*5≤1000000 by omega) ⟨O,O,U⟩ λgo w8 hw gp hV=>⟨(hv.trans hw).any,?_⟩;have V:=hv.trans hw;have hC:=h9.ext V
 refine pk<|QU (news:=Zf ⟨nmZ Xm i,⟨xa,xm,hf,mzA (2*(i:Int)) (2*(i:Int)+1)⟩⟩) (L:=[]) hC.c O O O (hV.at (by simp)) (yS ht.1 ht.2.1 ht.2.2.1) (by omega) (by have:=V.size;omega) λhD w9 hE hg hW=>⟨(V.any (L:=ob vc)).trans' hg,?_⟩
 have hX:=hC.setC (U7 (q:=⟨nmZ Xm i,⟨xa,xm,hf,mzA (2*(i:Int)) (2*(i:Int)+1)⟩⟩) (N:=S.heap.size) (λL hL=>(hA L hL).ext hw) (by omega) h9.avlt) hE hg hW;refine p (λ_=>Qa O)<|pkl (hl:=by kernel_rfl)<|QG (j:=1) (u:=hD) ((h5.ext V).step hg h2) O O (by simp) (QD hE) λgq hF hY=>pe ?_;refine Qx<|QN O O<|Qb<|xe ?_
 refine ⟨(i+1,hr,ev++jN i,hD,co++[⟨nmZ Xm i,⟨xa,xm,hf,mzA (2*(i:Int)) (2*(i:Int)+1)⟩⟩]),by simp only[];omega,Z,hO,((hB.trans V.any).then hg (λb hb=>.inr (hQ b hb).1)).trans' hF,hY,hX.low hF h6,?_,?_,λq hq=>?_⟩
 ·simp only[];rw[jO,J]
 ·simp only[];rw[Ls,T,Nu,Ls];rfl
 rcases Lj.1 hq with hq | hq
 ·exact hn q hq
 rw[La.1 hq];exact VG _ _ (by decide)
end Go.Proofs.YtdffckgdcegpaaaGreatDoor
namespace Go.Lg
section
variable {P:Program} {f:Fr} {w:World} {d:Option Nat} {ty:Nat} {ps:String} {af:Array Edge} {gd:Option (Nat×Bool)}
abbrev i4 (p:Int×Int×Int×Int):LV:=[.int .i64 p.1,.int .i64 p.2.1,.int .i64 p.2.2.1,.int .i64 p.2.2.2]
class S4 (P:Program) (t:Nat):Prop where
 u:∃f0 f1 f2 f3,P.underlying t=some (.struct #[f0,f1,f2,f3])∧f0.name ≠ "_" ∧ f1.name ≠ "_" ∧ f2.name ≠ "_" ∧ f3.name ≠ "_" ∧ f0.offset=0∧f1.offset=1∧f2.offset=2∧f3.offset=3 ∧
  P.underlying f0.type=some (.int .i64)∧P.underlying f1.type=some (.int .i64)∧P.underlying f2.type=some (.int .i64)∧P.underlying f3.type=some (.int .i64)
 s:P.stoodInHeld t=false
 g:P.eqGuardType P.depth t=false
theorem yh {t:Nat}[h:S4 P t] (w:World) (p:Int×Int×Int×Int):(Op.equal t (.agg (i4 p).toArray) (.agg (i4 p).toArray)).run P w=.ok true w:=by
 obtain ⟨a,b,c,e⟩:=p;obtain ⟨f0,f1,f2,f3,hu,J,n1,S,T,V,o1,o2,o3,H,I,u2,u3⟩:=h.u;have E:∀e w,P.underlying e=some (.int .i64)→(isAgg e).run P w=.ok false w:=λe w he=>by simp[isAgg,run_underlying he]
 have hp:∀e (x y z u:Int) (w:World),P.underlying e=some (.int .i64)→(part e #[.int .i64 x,.int .i64 y,.int .i64 z,.int .i64 u] 0).run P w=.ok (.int .i64 x) w:=λe x y z u w he=>by simp[part,E e w he]
 have Y:∀e (x y z u:Int) (w:World),P.underlying e=some (.int .i64)→(part e #[.int .i64 x,.int .i64 y,.int .i64 z,.int .i64 u] 1).run P w=.ok (.int .i64 y) w:=λe x y z u w he=>by simp[part,E e w he]
 have ha:∀e (x y z u:Int) (w:World),P.underlying e=some (.int .i64)→(part e #[.int .i64 x,.int .i64 y,.int .i64 z,.int .i64 u] 2).run P w=.ok (.int .i64 z) w:=λe x y z u w he=>by simp[part,E e w he]
 have hb:∀e (x y z u:Int) (w:World),P.underlying e=some (.int .i64)→(part e #[.int .i64 x,.int .i64 y,.int .i64 z,.int .i64 u] 3).run P w=.ok (.int .i64 u) w:=λe x y z u w he=>by simp[part,E e w he]
 have G:∀e (m:Nat) (x y:Int) (w:World),P.underlying e=some (.int .i64)→(Op.equalIn (m+1) e (.int .i64 x) (.int .i64 y)).run P w=.ok (x == y) w:=λe m x y w he=>by simp[Op.equalIn,run_underlying he]
 have key:∀m,(Op.equalIn (m+2) t (.agg (i4 (a,b,c,e)).toArray) (.agg (i4 (a,b,c,e)).toArray)).run P w=.ok true w:=by
  intro m;simp only[i4];unfold Op.equalIn;simp only[Sem.run_bind,run_underlying hu,Result.andThen_ok];simp[h.s,J,n1,S,T,V,o1,o2,o3,hp _ _ _ _ _ _ H,Y _ _ _ _ _ _ I,ha _ _ _ _ _ _ u2,hb _ _ _ _ _ _ u3,G _ _ _ _ _ H,G _ _ _ _ _ I,G _ _ _ _ _ u2,G _ _ _ _ _ u3]
 exact key 9998
theorem Qe1 {t E:Nat}[h:S4 P t] {x y:Operand}{p:Int×Int×Int×Int}(hx:ev f x=.agg (i4 p).toArray) (hy:ev f y=.agg (i4 p).toArray) :
  (execOp (ev f) ⟨d,.binOp .neq t x y E,ty,ps,af,gd⟩).run P w=.ok (.value (.bool false)) w:=by
 have G:(eqGuard .neq t x y (.agg (i4 p).toArray) (.agg (i4 p).toArray)).run P w=.ok () w:=by simp[eqGuard,h.g]
 simp only[execOp,hx,hy,Sem.run_bind,G,Result.andThen_ok,binOp,yh,Sem.run_pure];rfl
end
end Go.Lg
namespace Go.Proofs.YtdffckgdcegpaaaGreatDoor
open Go.Proofs.Tryz
open Go.Lg
instance s4Rsn:S4 prog 83:=⟨⟨_,_,_,_,underlying83,by decide,by decide,by decide,by decide,O,O,O,O,underlying3,underlying3,underlying3,underlying3⟩,by kernel_rfl,by kernel_rfl⟩
theorem VP {L L':LN}{w:World}{v v':Value}{l:List Rsn}(h:Zo L w.heap v l.length 4 (l.flatMap ZA)) (h':Zo L' w.heap v' l.length 4 (l.flatMap ZA)) :
  QJ prog 198 [v,v'] w λr w'=>r=.bool true∧Step [] w w':=by
 have Y:=h.le;refine QJ.of_W func198 O ntmps198 results198 (by simp) ?_;refine Qc<|Qe<|Qf<|Qc<|Qb<|x (Qq h O)<|Qb<|x (Qq h' O)<|x (Q9 O O)<|xe<|Q7 rfl (λH=>absurd O H) (λH=>?_);refine Qi<|Qf<|Qc<|Qb<|x (Qq h O)<|Qb<|xe ?_
 refine Qg<|Qy (α:=Nat) [(4,5),(13,25)] (λk=>[(13,.int .i64 k)]) (λk w'=>Step [] w w'∧k≤l.length) (λk=>l.length - k) (by rfl) 0 Z ⟨Step.refl _ _,Lk _⟩ ?_;rintro k g I ⟨G,hk⟩
 replace h:=h.ext G
 replace h':=h'.ext G;refine Qc<|x (QA O O)<|xe<|Qf<|QE O (λJ=>?_) (λJ=>?_)
 ·refine Qw<|Qc<|Qe ?_;exact Qn ⟨[.bool true],Z,O,G⟩
 have E:k<l.length:=by omega
 refine Qi<|Qf<|Qg<|Qc<|Qb<|Qe<|Qf<|QS (Step [] I) [(0,true),(1,true),(2,true),(3,true),(4,true),(5,true),(6,true),(7,true),(8,true)] mixed (by rfl) (by kernel_rfl) (Step.drew _ _) ?_;refine p (λ_=>Ql)<|p (λ_=>Ql)<|Lg.pig (g:=ZA) (i:=k) O QeS h O O E λha S=>pq (λ_ hc=>QI (S.ext hc) O O) <|
  p (λ_=>Ql)<|p (λ_=>Ql)<|Lg.pig (g:=ZA) (i:=k) O QeS h' O O E λhb T=>pq (λ_ hc=>QI (T.ext hc) O O)<|p (λ_=>Qe1 (p:=((l[k]'E).st,(l[k]'E).kd,(l[k]'E).ix,(l[k]'E).ev)) O O)<|pe ?_
 have V:=G.trans (Step.drew [] I);refine ZX rfl ?_;refine Qi<|Qx<|QN O O<|Qb<|xe ?_;exact ⟨k+1,by omega,Z,V,by omega⟩
def K3:ByteArray:=⟨#[110,101,118,101,114]⟩
def JQ:ByteArray:=⟨#[98,111,116,104]⟩
def yC:ByteArray:=⟨#[109,111,115,116]⟩
def yT:YH:=⟨K3,⟨[1],1,[0],[]⟩⟩
def Qgp (i j:Int):jo:=⟨JQ,[(i,1),(j,1)]⟩
def QkT:Xj:=⟨yC,[(0,1),(1,1)],1⟩
def k1C:Zw:={ mzC 1 with rq:=[yT] }
def k2C:Zw:={ mzC 2 with ex:=[Qgp 0 1] }
def k3C:Zw:={ mzC 2 with cs:=[QkT] }
theorem QlR:Yy k1C=0:=by kernel_rfl
theorem QlQ:(spc k1C).fb=[⟨1,3,0,1⟩]:=by kernel_rfl
theorem Qjv:(spc k1C).a.st=2:=by kernel_rfl
theorem Qkn:QcT k1C=true:=by kernel_rfl
theorem Qko:cmB k1C=[2]:=by kernel_rfl
theorem QmF:Yy k2C=0:=by kernel_rfl
theorem QlO:(spc k2C).fb=[⟨3,1,0,-1⟩]:=by kernel_rfl
theorem QlN:(spc k2C).a.st=4:=by kernel_rfl
theorem QmE:Yy k3C=0:=by kernel_rfl
theorem QlM:(spc k3C).fb=[⟨3,2,0,-1⟩]:=by kernel_rfl
theorem Qda {w:World}{v:Value}(E:v.cells=[v].toArray):QJ prog 281 [v] w λr w'=>Step [] w w'∧∃b,r=.func (.func 307) #[] #[.pointer (some ⟨b,0,none⟩)]∧w.heap.size≤b∧Q3 w'.heap b 37 [v]:=by
 refine QJ.of_W func281 O ntmps281 results281 (by simp) ?_;refine Qc<|xl O<|QT (us:=[v]) E λG S H I J=>Qe<|Qc<|x Zq<|Qe ?_;exact Qn ⟨[_],Z,H,G,O,I,J⟩
theorem jr {L:LN}{w:World}{S m:Nat}{v:Value}{E:LI}(hb:Q3 w.heap S 37 [v]) (hE:QL L w.heap v E) :
  SeqStopsK (fen none) m prog 307 [.pointer (some ⟨S,0,none⟩)].toArray (λx:Int=>#[.int .i64 x]) (Lw w.heap.size L) (λG=>G=E) (λ_=>True) (E.length+1) w:=by
 intro l J Jx W hc hJ hf hY h0;have V:Step [] w W:=Step.of_below hc;have ho:=hE.le;have ab:∀{G:LI} {W1 W2:World},J G W1→Step [] W1 W2→J G W2:=λ{G W1 W2} hj T=>hJ G W1 W2 none hj ⟨T.os,T.tape,T.output,T.size,λk hk _=>T.block k hk (by simp)⟩ (λr e=>by cases e)
 have key:QJ prog 307 [.func (.yield l) #[] #[],.pointer (some ⟨S,0,none⟩)] W (λ_ W'=>(∃G,G=E∧J G W')∨(∃pre,True∧Jx pre W')):=by
  refine QJ.of_G m func307 O ntmps307 results307 (by simp) ?_;have hg:=hb.ext V;refine Q0<|QK (by rfl) (by rfl) ?_;refine x (Qd hg O O)<|x (Qq (hE.ext V) O)<|Qb<|xe<|ZE<|V0 (α:=Nat) [(4,4),(7,15)] (λk=>[(7,.int .i64 k)]) (λk ds W'=>ds=[]∧k≤E.length∧Step L w W'∧J (E.take k) W') (λk=>E.length - k) (by rfl) 0 Z
   ⟨O,Lk _,V.any,h0⟩ ?_
  rintro k g ds w1 ⟨rfl,hk,ha,Y⟩;refine Q0<|QK (by rfl) (by rfl) ?_;refine x (QA O O)<|xe<|Q0<|zW O (λh8=>?_) (λh8=>?_)
  ·refine J7 ?_;have hh:E.length≤k:=by have h9:¬(k:Int)<(E.length:Int):=h8;omega
   rw[Lm hh] at Y;exact ⟨λ_ h=>(by cases h),MQ,[],λW' H=>⟨U,.inl ⟨E,rfl,ab Y H⟩⟩⟩
  refine Ya ?_;have I:k<E.length:=by have h9:(k:Int)<(E.length:Int):=h8;omega
  have hl:E.take (k+1)=E.take k++[E[k]'I]:=Le I;have hp:(E.take k).length=k:=by rw[Lx];omega
  refine Q0<|ZE<|Q0<|QK (by rfl) (by rfl) ?_;refine xii (i:=k) (hE.st ha) O O I λa9 h9=>x (Qu h9 O)<|Qe<|Q0<|Kj (by rfl) ?_;refine Xz.pre2 ?_;refine Qb<|Qb<|xe<|xy (l:=l) O (hY (E.take k) (E[k]'I) w1 Y (by omega)) λen W3 hn=>Or.elim hn (λh1=>⟨.bool true,h1.1,?_⟩) (λh1=>⟨.bool false,h1.1,?_⟩)
  ·refine Xz.of_XL<|x (Zm O)<|xe<|Kk O<|Ya ?_;refine QK (by rfl) (by rfl) ?_;refine QN O O<|Qb<|xe ?_;exact ⟨k+1,by omega,Z,O,I,ha.lw h1.2.2,by rw[hl];exact h1.2.1⟩
  refine Xz.of_XL<|x (Zm O)<|xe<|jh O ?_;refine J6 ⟨λ_ h=>(by cases h),MQ,[],λW' H=>⟨U,.inr ⟨E.take k++[E[k]'I],U,?_⟩⟩⟩;exact hf _ W3 W' none h1.2 ⟨H.os,H.tape,H.output,H.size,λk hk _=>H.block k hk (by simp)⟩ (λr e=>by cases e)
 refine (callsIn_wide (n:=m)).2 ?_;have ea:(#[.func (.yield l) #[] #[]]++[.pointer (some ⟨S,0,none⟩)].toArray:Array Value)=[.func (.yield l) #[] #[],.pointer (some ⟨S,0,none⟩)].toArray:=by simp
 rw[ea];unfold QJ at key;refine Calls.mono key λe w' he=>?_;cases e with
 | returned v=>exact ⟨⟨v,O⟩,he⟩
 | panicked c=>exact he.elim
 | outgrown=>exact he.elim
set_option maxHeartbeats 1000000 in
theorem Qd6 {w:World}{V:Nat}{v:Value}{Y:LI}(hn:Q3 w.heap V 37 [v]) (hE:QL [] w.heap v Y) (hl:Y.length≤1000) :
  QJ prog 319 [Za,.func (.func 307) #[] #[.pointer (some ⟨V,0,none⟩)]] w λr w'=>Step [] w w'∧Qt 3 w.heap.size w' r Y:=by
 refine QJ.of_G 20 func319 O ntmps319 results319 (by simp) ?_;refine Q0<|QK (by rfl) (by rfl) ?_;refine xl rfl<|QT (us:=[Za]) O λJ w1 T he hf=>Qe ?_;have hs:=T.size;have ht:=hf.lt;refine Q0<|Q0<|QK (by rfl) (by rfl) ?_;refine Qb<|xe<|ZE<|Qji (α:=Int) [J] (by omega) (capt:=[.pointer (some ⟨V,0,none⟩)]) O (enc:=λx=>.int .i64 x) (by decide)
  (jr (hn.ext T) ((hE.up (L':=[J]) (λb hb=>.inr (by rw[La.1 hb];exact he))).ext T))
  (λpre W=>∃vo,Step [J] w1 W∧Q3 W.heap J 37 [vo]∧Qt 3 w1.heap.size W vo pre)
  (λpre=>ZY.ex λvo=>(ZY.step (Lr _)).and (ZY.blk.and ZY.row))
  ⟨Za,Step.refl _ _,hf,QO _ _ _ _⟩
  (λf x f' W=>f'=upd (upd f 7 (.int .i64 x)) 5 (.int .i64 x)) (λx f'=>ZY.pure _) ?_ ?_ ?_
 ·rintro l pre e W ⟨vo,I,H,E⟩;refine QK (by rfl) (by rfl) ?_;refine Qe ?_;exact ⟨O,JA.refl _ _ _,⟨vo,I,H,E⟩,O⟩
 ·rintro l pre e f' W ⟨vo,I,H,E⟩ rfl hN;have hg:J∉ob vo:=QM E (by omega);have hge:=Qk E;have ho:=I.size;refine ZE<|QK (by rfl) (by rfl) ?_;refine x (Qd H O O)<|Qb<|xl O<|QC (us:=[[.int .i64 e]]) O O (by decide) (by simp) ⟨rfl,rfl,U⟩ λhu w2 G hv hp=>?_
  refine xl O<|QU (m:=1) (news:=[.int .i64 e]) (Qm E G) O O O (hp.at (L:=[]) (by simp)) (by simp[Value.oneCell']) (by omega) (by have:=G.size;omega) λv3 w3 ha S hw=>?_;refine xl O<|QG (u:=v3) ((H.ext G).step S hg) O O (by simp) (QD ha) λw4 hc hq=>xe ?_;have hy:=G.size;have hz:=QZ (Qm E G);have h0:=QP E
  refine ⟨((JA.ext G ho).trans (JA.step S (by omega) (λb hb=>⟨.inr (hge b hb).1,Go.Lg.QZ (Qm E G) b hb⟩))).trans (JA.blk hc (by have:=S.size;omega) ((H.ext G).step S hg) (.inl Ln)),v3,((I.trans G.any).then S (λb hb=>.inr (hge b hb).1)).trans' hc,hq,?_⟩;have h9:=Qj ha hc (λb hb=>by have:=(Qk ha b hb).1;simp only[List.mem_singleton];omega)
  exact Qt.snoc h9
 rintro D xs W hD rfl ⟨vo,I,H,E⟩ hh;refine Q0<|QK (by rfl) (by rfl) ?_;refine x (Qd H O O)<|Qe<|J6 ⟨λD' hr=>by rw[La.1 hr];exact hh,Mm _ _,[vo],λW' hj=>⟨Z,(T.then1 I he).then hj (λb hb=>.inr (by rw[La.1 hb];omega)),?_⟩⟩;refine Zg (Qj E hj (λb hb hm=>?_)) (by omega);rw[La.1 hm] at hb
 obtain ⟨o,h1,h2⟩:=Go.Lg.QZ E _ hb;rw[hh] at h1;cases h1
 cases h2
theorem Qby {w:World}{G:Nat}{v:Value}{E:LI}(H:Q3 w.heap G 37 [v]) (hE:QL [] w.heap v E) (hl:E.length≤1000) :
  QJ prog 306 [.func (.func 307) #[] #[.pointer (some ⟨G,0,none⟩)]] w λr w'=>Step [] w w'∧Qt 3 w.heap.size w' r E:=by
 refine QJ.of_W func306 O ntmps306 results306 (by simp) ?_;refine Qc<|Qe<|Qc<|Qb<|xl O<|xf<|(Qd6 H hE hl).mono ?_;rintro I T ⟨J,S⟩;refine Qe ?_;exact Qn ⟨[I],Z,J,S⟩
theorem Qdi {w:World}{G:Nat}{v:Value}{E:LI}(I:Q3 w.heap G 37 [v]) (hE:QL [] w.heap v E) (hl:E.length≤1000) :
  QJ prog 280 [.func (.func 307) #[] #[.pointer (some ⟨G,0,none⟩)]] w λr w'=>Step [] w w'∧Qt 3 w.heap.size w' r (E.mergeSort λx y=>decide (x≤y)):=by
 refine QJ.of_W func280 O ntmps280 results280 (by simp) ?_;refine Qc<|Qe<|Qc<|Qb<|xl O<|xf<|(Qby I hE hl).mono ?_;rintro J Y ⟨S,H⟩;refine Qe<|Qc<|Qb<|xl O<|xf<|(Vy H (by omega)).mono ?_;rintro r2 w2 ⟨T,V⟩;refine xe<|Qc<|Qb<|Qe ?_;exact Qn ⟨[J],Z,S.then T (λb hb=>.inr (Qk H b hb).1),V⟩
theorem Qf2:∀{l:LI}{k:Nat}(h:k<l.length) {n:Int},l[k]'h=n→n∉l.take k→l.idxOf n=k
 | [],_,h,_,_,_=>by simp at h
 | a::l,0,_,n,e,_=>by
  have e2:a=n:=e;rw[e2,List.idxOf_cons_self]
 | a::l,k+1,h,n,e,E=>by
  have G:a≠n:=λe2=>E (by rw[L5,e2];exact Ln);rw[List.idxOf_cons,show (a == n)=false by simpa using G];show List.idxOf n l+1=k+1;have:=Qf2 (l:=l) (k:=k) (by simpa using h) (by simpa using e) (λhm=>E (by rw[List.take_succ_cons];exact Ll _ hm));omega
theorem Qkz {L:LN}{w:World}{v:Value}{l:LI}(h:QL L w.heap v l) {n:Int}(H:n∈l) :
  QJ prog 132 [v,.int .i64 n] w λr w'=>w'=w∧r=.int .i64 (l.idxOf n:Nat):=by
 have J:=h.le;refine QJ.of_W func132 O ntmps132 results132 (by simp) ?_;refine Qc<|Qe<|Qf<|Qc<|Qb<|x (Qq h O)<|Qb<|xe<|Qg<|Qy (α:=Nat) [(4,5),(8,18)] (λk=>[(8,.int .i64 k)]) (λk w'=>w'=w∧k≤l.length∧n∉l.take k) (λk=>l.length - k) (by rfl) 0 Z ⟨O,Lk _,by simp⟩ ?_;rintro k g S ⟨rfl,hk,hm⟩;refine Qc<|x (QA O O)<|xe<|Qf<|QE O (λh9=>?_) (λh9=>?_)
 ·exfalso;rw[Lm (by omega)] at hm;exact hm H
 have E:k<l.length:=by omega
 refine Qi<|Qf<|Qg<|Qc<|Qb<|Qe<|Qc<|Qb<|Qb<|Qb<|xii h O O E λT I=>x (Qu I O)<|x (Q8 O O)<|xe<|Q7 rfl (λG=>?_) (λG=>?_)
 ·refine Qc<|Qb<|Qe ?_;exact Qn ⟨[.int .i64 k],Z,O,congrArg (λm:Nat=>Value.int .i64 m) (Qf2 E (Eq.symm G) hm).symm⟩
 refine Qi<|Qx<|QN O O<|Qb<|xe<|⟨k+1,by omega,Z,O,by omega,?_⟩;rw[Le E,Lj,La];exact λh=>h.elim hm G
def rlE (a:QV) (to:LI):List Ed:=a.ed.map λe=>(e.1,cget to (a.al.idxOf e.2.1),e.2.2)
set_option maxHeartbeats 8000000 in
theorem QbK {w:World}{va vm ve vt:Value}{a:QV}{to sa:LI}{se:List Ed}(h:Zu [] w.heap va vm ve a) (g2:Jt a=0) (ho:Zr a) (ht:QL [] w.heap vt to) (hC:to.length=a.al.length) (hM:∀e∈to,0≤e∧e<32) (g3:to.Nodup)
  (hN:to.mergeSort (λx y=>decide (x≤y))=sa) (g4:∀l',l'.Perm (rlE a to)→l'.Pairwise Qaf→l'=se) (g5:Zr ⟨sa,a.st,a.mr,se⟩) :
  QJ prog 250 [.agg #[va,.int .i64 a.st,vm,ve],vt] w λr w'=>Step [] w w'∧∃v,r=.tuple #[v,.int .i64 0]∧Xw w.heap.size w'.heap v (JG ⟨sa,a.st,a.mr,se⟩):=by
 have mo:=ho.st0;have mq:=ho.st1;have mu:=ho.al_le;refine QJ.of_W func250 O ntmps250 results250 (by simp) ?_;refine Qc<|xl O<|QT (us:=[va,.int .i64 a.st,vm,ve]) O λb2 w1 hO mv g6=>xl O<|Qv (us:=qV) O λb4 w2 hD mw hP=>Qe ?_;have hQ:=hO.trans hD;have my:=hO.size;have mz:=hD.size;have m0:=hP.lt;have hR:=g6.ext hD
 refine Qf<|Qc<|x (Qs hR O O)<|xl O<|xf<|(Xt (h.ext hQ)).mono ?_;rintro r3 w3 ⟨hS,hw⟩;rw[g2] at hS;subst hS;have hE:=hQ.trans hw;have m1:=hw.size;have hf:=hR.ext hw;have hT:=hP.ext hw;refine Qe<|Qc<|Qb<|x (Q9 O O)<|xe<|ZX rfl ?_;refine Qi ?_;have hz:=h.ext hE;have V:=ht.ext hE
 refine Qf<|Qc<|Qb<|x (Qq V O)<|x (Qa O)<|x (Qd hf O O)<|x (Qq hz.al O)<|x (Q9 O O)<|xe<|Q7 rfl (λhU=>absurd (congrArg (λm:Nat=>(m:Int)) hC) hU) (λhU=>?_);refine Qi<|QW (α:=Unit) [(5,5),(7,8),(25,47)] (λ_=>[]) (λ_ w'=>w'=w3) (by rfl) ?_ ?_
 ·refine Qc<|Qb<|x (Qq V O)<|Qb<|xe<|Qg<|Qy (α:=Nat) [(5,5),(7,8),(27,47)] (λk=>[(27,.int .i64 k)]) (λk w'=>w'=w3∧k≤to.length) (λk=>to.length - k) (by rfl) 0 Z ⟨O,Lk _⟩ ?_;rintro k g w' ⟨rfl,hk⟩;refine Qc<|x (QA O O)<|xe<|Qf<|QE O (λhV=>?_) (λhV=>?_)
  ·refine Qw ?_;exact ⟨(),U,O⟩
  have H:k<to.length:=by have m2:(k:Int)<(to.length:Int):=hV;omega
  have g7:=hM _ (Lh H);have hW:(to[k]'H)∉to.take k:=λhm=>by
   obtain ⟨j,hj,hX⟩:=LE hm;rw[MY] at hX;have g8:j<k:=by rw[Lx] at hj;omega
   have:=(LY.1 g3) j k (by omega) H g8;exact this hX
  refine Zb (to[k]'H) λe he=>?_;rw[he] at g7 hW;refine Qi<|Qf<|Qg<|Qc<|Qb<|xii V O O H λm3 hY=>?_;rw[he] at hY;refine x (Qu hY O)<|x Qh<|Qe<|Qg<|Qc<|Qb<|xb (QA O O) (λhZ=>absurd (show e<0 from hZ) (by omega)) (λhZ=>?_);refine Qb<|Qb<|x (ZU O O)<|x (Qo O)<|Qe<|Q7 O (λga=>absurd (show e≥32 from ga) (by omega)) (λga=>?_);refine Qc<|Qb<|Qb<|QjF V O O (by omega) λg9 ka=>?_
  have kb:QL [] w'.heap g9 (to.take k):=by
   unfold QL;have kc:(to.take k).length=k:=by rw[Lx];omega
   rw[kc,List.map_take];simpa using ka
  refine Qb<|xl O<|xf<|(ZJ kb e).mono ?_;rintro m4 w' ⟨rfl,rfl⟩;refine Qe<|Q7 O (λgb=>absurd gb hW) (λgb=>?_);refine Qi<|Qx<|QN O O<|Qb<|xe ?_;exact ⟨k+1,by omega,Z,O,H⟩
 rintro ⟨⟩ g w' rfl;have ke:Step [] w' { w' with drawn:=w'.drawn+1 }:=Step.drew _ _
 refine QW (α:=Nat×Value) [(9,9),(48,55)] (λz=>[(9,.pointer (some ⟨z.1,0,none⟩))]) (λz G=>Step [] w' G∧w'.heap.size≤z.1∧Q3 G.heap z.1 58 [z.2,.int .i64 a.st,vm,nS]∧z.2.oneCell'=true∧∀L:LN,(∀b∈L,b<w'.heap.size∨b=z.1)→QL L G.heap z.2 sa) (by rfl) ?_ ?_
 ·refine zT (α:=Value) (Step [] w') [(0,true),(3,true),(4,true),(5,true),(6,true)] [(1,false),(2,false),(7,true)] 8 9 [(9,false)] [] [(48,55)] [(49,50),(55,55)] (λz=>[(55,.agg [z,.int .i64 a.st,vm,nS].toArray)])
   (λz own G=>(∀b∈own,w'.heap.size≤b)∧z.oneCell'=true∧∀L:LN,(∀b∈L,b∉own)→QL L G.heap z sa)
   (λv G=>∃b,v=.pointer (some ⟨b,0,none⟩)∧w'.heap.size≤b∧Q3 G.heap b 58 qV) mixed (by rfl) (by kernel_rfl) (by rfl) O ke (by simp) ?_ ?_ ?_ ?_
  ·rintro v own wa wb ⟨b,rfl,hb,hB⟩ hs hn;exact ⟨b,O,hb,hB.step hs (hn b (by simp[ow]))⟩
  ·rintro z own wa wb ⟨h1,h2,h3⟩ hs;exact ⟨h1,h2,λL hL=>(h3 L hL).ext hs⟩
  ·rintro z g own wz v ⟨i1,i2,i3⟩ kf ⟨E,rfl,Y,hg⟩ kg;have gc:=(kg E (by simp[ow])).1;refine pkl (hl:=by kernel_rfl)<|Qr (us:=[z,.int .i64 a.st,vm,nS]) hg O O O O ⟨i2,O,hz.mr.one,O,U⟩ λG T kh=>pe ?_;refine ⟨(E,z),Z,kf.then1 T Y,Y,kh,i2,λL hL=>?_⟩;have h1:=i3 (E::L) (λb hb=>by
    rcases Lc.1 hb with rfl | hb
    ·exact gc
    rcases hL b hb with h2 | h2
    ·exact λh3=>by have:=i1 b h3;omega
    subst h2;exact gc)
   exact (h1.st (T.mono (by simp))).up (λb hb=>.inl (by simp[hb]))
  refine Go.Lg.p (λ_=>Ql)<|Go.Lg.p (λ_=>Qa O)<|pq (λ_ hc=>Qd (hf.ext hc) O O)<|Go.Lg.p (λ_=>Qa O)<|pq (λ_ hc=>Qd (hf.ext hc) O O) <|
   pe ⟨λg wf ge=>Qv (us:=qV) O λb m5 gg gh gi=>⟨gg,ge.trans gg,⟨b,O,LS ge.size gh,gi⟩,λx hx=>?_⟩,?_⟩
  ·have ki:x=b:=by
    have kj:x∈[b]:=hx;simpa using kj
   subst ki;exact ⟨gh,gi.lt⟩
  refine f2k λx1 p1 c1=>xf<|(Qda V.cells).mono ?_;rintro m6 y1 ⟨gj,m7,rfl,m8,hG⟩;refine ⟨c1.trans gj,rgB x1.heap.size y1.heap.size,gj.any,λb hb=>.inr (Yo.1 hb),?_⟩;refine f2k λx2 p2 c2=>xf<|(Qdi (hG.ext p2) (V.ext c2) (by omega)).mono ?_;rintro kk y2 ⟨gk,hh⟩;rw[hN] at hh
  refine ⟨c2.trans gk,rgB x1.heap.size y1.heap.size++rgB x2.heap.size y2.heap.size,gk.any,λb hb=>(Lj.1 hb).imp id λhb=>Yo.1 hb,?_⟩;refine f2p (λ_=>QF ⟨QZ hh,O,hz.mr.cells,U⟩)<|f2e ?_;refine ⟨kk,Z,λb hb=>?_,QD hh,λL hL=>?_⟩
  ·have e1:=c1.size;have e2:=c2.size;rcases Lj.1 hb with hb | hb
   ·have:=Yo.1 hb;omega
   have:=Yo.1 hb;omega
  exact QR hh (by rw[←hN,(M7 to _).length_eq];omega) (λb hb hm=>hL b hm (Lj.2 (.inr (Yo.2 (Qk hh b hb)))))
 rintro ⟨E,vs⟩ g G ⟨T,Y,hg,hvo,gl⟩;simp only[] at Y hg hvo gl;have m9:=T.size;have gm:=hg.lt;have gn:=hf.ext T;have pa:=hT.ext T;have go:∀b∈[E],b∈([]:LN)∨w'.heap.size≤b:=λb hb=>.inr (by rw[La.1 hb];exact Y);have hq:Zu [E] G.heap va vm ve a:=(hz.up go).ext T;have kn:QL [E] G.heap vt to:=(V.up go).ext T
 have ko:=gl [E] (λb hb=>.inr (La.1 hb));have pc:=hq.ed.le;have kp:b2∉[E]:=by have:=hf.lt;simp only[List.mem_singleton];omega
 have pd:b4∉[E]:=by simp only[List.mem_singleton];omega
 have kq:(rlE a to).length=a.ed.length:=by unfold rlE;rw[Lb]
 have kr:∀e∈rlE a to,(0≤e.1∧e.1<1099511627776)∧0≤e.2.1∧e.2.1<1099511627776:=λe he=>by
  unfold rlE at he;obtain ⟨d,hd,rfl⟩:=Ly.1 he;have h1:=ho.ed d hd;have h2:a.al.idxOf d.2.1<to.length:=by rw[hC];exact MJ h1.2.2.1
  have h3:=hM _ (Lh h2);have h4:=Zk h2;simp only[];omega
 refine QW (α:=Value) [(11,11),(56,78)] (λ_=>[]) (λz I=>Step [E] G I∧Q3 I.heap E 58 [vs,.int .i64 a.st,vm,z]∧I.ownsRow G.heap.size 144 3 z (rlE a to).length ((rlE a to).flatMap Qz)) (by rfl) ?_ ?_
 ·refine Qc<|x (Qa O)<|x (Qd gn O O)<|x (Qq hq.ed O)<|Qb<|xe<|Qg<|Qy (α:=Nat×Value) [(11,11),(59,78)] (λz=>[(59,.int .i64 z.1)]) (λz I=>z.1≤a.ed.length∧Step [E] G I∧Q3 I.heap E 58 [vs,.int .i64 a.st,vm,z.2]∧I.ownsRow G.heap.size 144 3 z.2 z.1 (((rlE a to).take z.1).flatMap Qz)) (λz=>a.ed.length - z.1) (by rfl) (0,Za) Z ⟨Lk _,Step.refl _ _,hg,QO _ _ _ _⟩ ?_
  rintro ⟨k,vr⟩ g I ⟨hk,J,ha,S⟩;simp only[] at hk ha S;refine Qc<|x (QA O O)<|xe<|Qf<|QE O (λhH=>?_) (λhH=>?_)
  ·refine Qw ?_;have kt:k=a.ed.length:=by have h0:¬(k:Int)<(a.ed.length:Int):=hH;omega
   rw[Lm (by omega),kt,←kq] at S;exact ⟨vr,U,J,ha,S⟩
  have H:k<a.ed.length:=by have h0:(k:Int)<(a.ed.length:Int):=hH;omega
  have hI:=ho.ed _ (Lh H);have ku:(rlE a to)[k]'(by omega)=((a.ed[k]'H).1,cget to (a.al.idxOf (a.ed[k]'H).2.1),(a.ed[k]'H).2.2):=by unfold rlE;rw[Mb]
  have hr:(rlE a to).take (k+1)=(rlE a to).take k++[(rlE a to)[k]'(by omega)]:=Le (by omega);rw[ku] at hr;refine Zb (a.ed[k]'H) λe he=>?_;rw[he] at hI hr;have hix:a.al.idxOf e.2.1<to.length:=by rw[hC];exact MJ hI.2.2.1
  rw[←Zk hix] at hr;refine Zb (to[a.al.idxOf e.2.1]'hix) λy hy=>?_;rw[hy] at hr;refine Qi<|Qf<|Qg<|Qc<|xie (i:=k) (hq.ed.st J) O O H λpf h0=>?_;rw[he] at h0;refine x (QI h0 O O)<|xl O<|Qv (us:=[.int .i64 0,.int .i64 0,.int .i64 0]) O λkv w7 hu gp kw=>xl O<|Qr (us:=Qz e) kw O O O O ⟨O,O,O,U⟩ λw8 h5 gq=>xe ?_;have h6:Step [] I w8:=hu.then1 h5 gp;have ky:=J.size
  refine Qc<|Qb<|x (Qa O)<|x (Qd ((gn.step J kp).ext h6) O O)<|x (Qa O)<|x (Qd gq O O)<|xl O<|xf<|(Qkz ((hq.al.st J).ext h6) hI.2.2.1).mono ?_;rintro pg w8 ⟨rfl,rfl⟩;refine xii ((kn.st J).ext h6) O O hix λph gr=>?_;rw[hy] at gr;refine x (Qu gr O)<|x (Qa O)<|xl O<|QG (u:=.int .i64 y) gq O O (by simp[Qz]) rfl λw9 h7 kz=>xe ?_
  have k0:Q3 w9.heap kv 144 (Qz (e.1,y,e.2.2)):=kz;have h8:Step [] I w9:=h6.then1 h7 gp;have gs:=ha.ext h8;have k4:=Qm S h8;have n9v:E∉ob vr:=QM S gm;have hge:=Qk S;have pj:=h8.size;refine Qx<|x (Qa O)<|x (Qd gs O O)<|x (Qs k0 O O)<|xl O<|QC (us:=[Qz (e.1,y,e.2.2)]) O O (by decide) (by exact (by decide:1*3≤1000000)) ⟨O,O,U⟩ λpm pn hA po k5=>?_
  refine xl O<|QU (m:=1) (news:=Qz (e.1,y,e.2.2)) (L:=[]) (Qm k4 hA) O O O (k5.at (by simp)) (by simp[Qz,Value.oneCell']) (by omega) (by have:=hA.size;omega) λgt pp hJ gu pt=>?_;refine x (Qa O)<|xl O<|QG (u:=gt) ((gs.ext hA).step gu n9v) O O (by simp) (QD hJ) λpu gv k6=>xe ?_;refine Qx<|QN O O<|Qb<|xe ?_
  refine ⟨(k+1,gt),by simp only[];omega,Z,H,(((J.trans h8.any).trans hA.any).then gu (λb hb=>.inr (hge b hb).1)).trans' gv,k6,?_⟩;simp only[];rw[hr,Lz];have h9:=Qj hJ gv (λb hb=>by have:=(Qk hJ b hb).1;simp only[List.mem_singleton];omega);simpa using h9
 rintro vr g I ⟨J,ha,S⟩;have n9r:E∉ob vr:=QM S gm;have ky:=J.size;have gw:=Qk S;refine Qc<|x (Qa O)<|x (Qd ha O O)<|xl O<|xf<|(yc S (by omega) kr).mono ?_;rintro r7 w7 ⟨hu,l',hp,k7,k8⟩;have k9:=g4 l' hp k7;subst k9;refine xe ?_;have ma:=ha.step hu n9r;have mc:∀b∈E::ob vr,b∈[E]∨G.heap.size≤b:=λb hb=>by
  rcases Lc.1 hb with rfl | hb
  ·exact .inl Ln
  exact .inr (gw b hb).1
 have gx:∀{v:Value} {l:LI},QL [E] G.heap v l→QL [] w7.heap v l:=λhv=>(((hv.up mc).st (J.mono (by simp))).st (hu.mono (λb hb=>Ll _ hb))).up (λb hb=>by cases hb);have mf:qK [] w7.heap vr l':=QR k8 (by have:=hp.length_eq;omega) (by simp);have mg:Zu [] w7.heap vs vm vr ⟨sa,a.st,a.mr,l'⟩:=⟨gx ko,gx hq.mr,mf⟩
 have hK:Step [] w' w7:=(T.then1 J Y).then hu (λb hb=>.inr (by have:=(gw b hb).1;omega));have pw:=hK.size;have mh:=hT.ext hK;refine Qc<|x (Qs ma O O)<|xl O<|xf<|(Ju mg g5).mono ?_;rintro v w8 ⟨h5,hF⟩;obtain ⟨us,gy,gz,mj⟩:=Xv hF;refine xl rfl<|Qr (us:=us) (mh.ext h5) O gy gz O mj λw9 h7 hG=>Qe ?_;have g0:=hE.trans hK
 refine Qn ⟨[.agg us.toArray,.int .i64 0],⟨⟨_,O,QB gz (hG.at (L:=[]) (by simp)).cells⟩,rfl,U⟩,(g0.trans h5).then1 h7 (by omega),v,by rw[gy];rfl,?_⟩;exact (Jj hF (by omega) h7).mono (by have:=g0.size;omega)
theorem Qj1 {motive:LI→Prop}(nil:motive []) (append_singleton:∀u v,motive u→motive (u++[v])) (u:LI):motive u:=by
 have key:∀r:LI,motive r.reverse:=by
  intro r;induction r with
  | nil=>exact nil
  | cons v r ih=>rw[List.reverse_cons];exact append_singleton _ _ ih
 have:=key u.reverse;rw[List.reverse_reverse] at this;exact this
def enc (u:LI):Int:=u.foldl (λn e=>n*33+(e+1)) 0
theorem J1 (u:LI) (v:Int):enc (u++[v])=enc u*33+(v+1):=by unfold enc;rw[MA];rfl
def Qd9 (u:LI):Prop:=∀e∈u,0≤e∧e<32
theorem Qd9.snoc {u:LI}{v:Int}(h:Qd9 (u++[v])):Qd9 u∧0≤v∧v<32:=⟨λe he=>h e (LF _ he),h v (by simp)⟩
theorem QkL {u:LI}(h:Qd9 u):0≤enc u:=by
 induction u using Qj1 with
 | nil=>exact Ny _
 | append_singleton u v ih=>rw[J1];have:=ih h.snoc.1;have:=h.snoc.2;omega
def rn (a:QV) (x:Int) (u:LI):Int:=u.foldl (λs v=>nxt a.ed s v) x
theorem QhS (a:QV) (x:Int) (u:LI) (v:Int):rn a x (u++[v])=nxt a.ed (rn a x u) v:=by unfold rn;rw[MA];rfl
structure Fw where
 u:LI
 s:Int
def V3:Fw:=⟨[],0⟩
def wdN (e:Fw) (d:Ed):Fw:=⟨e.u++[d.2.1],d.2.2⟩
def wdR (a:QV) (e:Fw):List Fw:=(ZK a.ed e.s).map (wdN e)
def wdL (a:QV) (most:Nat):Nat→Nat→List Fw→Option (List Fw)
 | 0,_,L=>some L
 | f+1,i,L=>if i<L.length then (if (L.getD i V3).u.length=most then some L else if 1024<(L++wdR a (L.getD i V3)).length then none else wdL a most f (i+1) (L++wdR a (L.getD i V3))) else some L
def wds (a:QV) (most:Nat):Option (List Fw):=wdL a most 1025 0 [V3]
structure WdI (a:QV) (most i:Nat) (L:List Fw):Prop where
 ne:0<L.length
 le:i≤L.length
 mx:L.length≤1024
 rx:∀e∈L,e.s=rn a 0 e.u∧0≤e.s∧e.s<a.st∧(∀v∈e.u,v∈a.al)∧e.u.length≤most
 so:L.Pairwise λp q=>enc p.u<enc q.u
 hd:(L.getD 0 V3).u=[]
 pr:∀e∈L,e.u=[]∨∃j v,j<i∧e.u=(L.getD j V3).u++[v]
 ch:∀j v,j<i→0≤nxt a.ed (L.getD j V3).s v→∃e∈L,e.u=(L.getD j V3).u++[v]
theorem Qge {L:List Fw}{i:Nat}(h:i<L.length):L.getD i V3∈L:=by simp[List.getD,h]
theorem Qgf {L r:List Fw}{i:Nat}(h:i<L.length):(L++r).getD i V3=L.getD i V3:=by simp[List.getD,List.getElem?_append_left h]
theorem WdI.step {a:QV}(G:Zr a) {most i:Nat}{L:List Fw}(h:WdI a most i L) (hi:i<L.length) (hl:(L.getD i V3).u.length≠most) (hm:¬1024<(L++wdR a (L.getD i V3)).length):WdI a most (i+1) (L++wdR a (L.getD i V3)):=by
 have I:Qd9 a.al:=G.al;have Y:∀e∈L,Qd9 e.u:=λe he u hu=>I u ((h.rx e he).2.2.2.1 u hu);have V:=Qge hi;obtain ⟨r1,r2,r3,r4,r5⟩:=h.rx _ V;generalize J:L.getD i V3=ei at *;have S:∀e∈wdR a ei,∃d∈ZK a.ed ei.s,e=wdN ei d∧d.2.1∈a.al∧0≤d.2.2∧d.2.2<a.st∧nxt a.ed ei.s d.2.1=d.2.2:=λe he=>by
  unfold wdR at he;obtain ⟨d,hd,rfl⟩:=Ly.1 he;obtain ⟨ha,hh⟩:=ZM hd;have T:=G.ed d ha;refine ⟨d,hd,O,T.2.2.1,T.2.2.2.1,T.2.2.2.2,?_⟩;rw[Qch];obtain ⟨k,hk,rfl⟩:=LE hd;refine Qa8 _ ei.s _ k hk (λe he=>(ZM he).2) O (λm hb e=>?_);have hp:(ZK a.ed ei.s).Pairwise λx y:Ed=>x.1<y.1∨(x.1=y.1∧x.2.1<y.2.1):=List.Pairwise.sublist M8 G.edi
  have:=LY.1 hp m k (by omega) hk hb;have e1:=(ZM (Lh (l:=ZK a.ed ei.s) (show m<(ZK a.ed ei.s).length by omega))).2;have e2:=(ZM (Lh hk)).2;omega
 have hr:=QkL (Y _ V);have hc:∀e∈L,∀v,v∈a.al→enc e.u<enc (ei.u++[v]):=λe he v hv=>by
  have hs:=I v hv;rw[J1];rcases h.pr e he with h1 | ⟨j,u,E,h1⟩
  ·rw[h1];show (0:Int)<_;omega
  rw[h1,J1];have ht:enc (L.getD j V3).u<enc ei.u:=by
   have:=LY.1 h.so j i (by omega) hi E;rw[←J];simpa[List.getD,show j<L.length by omega,hi] using this
  have hw:u<32:=by
   have:=(h.rx e he).2.2.2.1 u (by rw[h1];simp);exact (I u this).2
  omega
 have keepD:∀r:List Fw,∀j,j<L.length→(L++r).getD j V3=L.getD j V3:=λr j E=>Qgf E;refine ⟨by simp;have:=h.ne;omega,by simp;omega,by omega,λe he=>?_,?_,by rw[keepD _ 0 h.ne];exact h.hd,λe he=>?_,λj v E H=>?_⟩
 ·rcases Lj.1 he with he | he
  ·exact h.rx e he
  obtain ⟨d,_,rfl,h1,h2,h3,h4⟩:=S e he;refine ⟨?_,h2,h3,λu hu=>?_,?_⟩
  ·show d.2.2=rn a 0 (ei.u++[d.2.1]);rw[QhS,←r1,h4]
  ·rcases Lj.1 (show u∈ei.u++[d.2.1] from hu) with hu | hu
   ·exact r4 u hu
   simp only[List.mem_singleton] at hu;subst hu;exact h1
  show (ei.u++[d.2.1]).length≤most;rw[Li,LD];omega
 ·rw[L0];refine ⟨h.so,?_,λp hp q hq=>?_⟩
  ·unfold wdR;rw[Mn];have hp:(ZK a.ed ei.s).Pairwise λx y:Ed=>x.1<y.1∨(x.1=y.1∧x.2.1<y.2.1):=List.Pairwise.sublist M8 G.edi;refine List.Pairwise.imp_of_mem (λ{x y} hx hy hz=>?_) hp;have e1:=(ZM hx).2;have e2:=(ZM hy).2;show enc (ei.u++[x.2.1])<enc (ei.u++[y.2.1]);rw[J1,J1];omega
  obtain ⟨d,_,rfl,h1,_⟩:=S q hq;exact hc p hp _ h1
 ·rcases Lj.1 he with he | he
  ·rcases h.pr e he with h1 | ⟨j,u,E,h1⟩
   ·exact .inl h1
   exact .inr ⟨j,u,by omega,by rw[keepD _ j (by omega)];exact h1⟩
  obtain ⟨d,_,rfl,_⟩:=S e he;exact .inr ⟨i,d.2.1,by omega,by rw[keepD _ i hi,J];rfl⟩
 rw[keepD _ j (by omega)] at H ⊢;by_cases e:j=i
 ·subst e;rw[J] at H ⊢;have hf:=yB H;refine ⟨wdN ei (ei.s,v,nxt a.ed ei.s v),LQ _ ?_,O⟩;unfold wdR;exact LL (by unfold ZK;exact Md.2 ⟨hf,by simp⟩)
 obtain ⟨e',hg,h1⟩:=h.ch j v (by omega) H;exact ⟨e',LF _ hg,h1⟩
theorem Qls {a:QV}(E:0<a.st) (most:Nat):WdI a most 0 [V3]:=by
 refine ⟨by simp,Nat.zero_le _,by simp,λe he=>?_,by simp,by simp[List.getD,V3],λe he=>?_,λj v G=>by omega⟩
 ·simp only[List.mem_singleton] at he;subst he;exact ⟨O,Ny _,E,by simp[V3],by simp[V3]⟩
 simp only[List.mem_singleton] at he;subst he;exact .inl O
end Go.Proofs.YtdffckgdcegpaaaGreatDoor
namespace Go.Lg
section
variable {P:Program} {ops:List Oper} {K:Fr→World→Prop} {f:Fr} {w:World} {d:Option Nat} {ty:Nat} {ps:String} {af:Array Edge} {gd:Option (Nat×Bool)}
theorem Ud {base t ty e:Nat}{sz bys:Nat}{z:Value}[h:Sl P t e sz bys z] {v:Value}{n:Nat}{cs:LV}(E:w.ownsRow base e sz v n cs)
  {a:Addr} {m c:Nat} {news:LV} (hl:news.length=m*sz) (T:∀j u,news[j]?=some u→w.cell? (a.add j)=some u) (h1:∀u∈news,u.oneCell'=true)
  (hb:n+m≤1099511627776) (hq:bys≤128) (hc:base≤w.heap.size) :
  ∃v' w',(Builtin.append_ #[t,t] ty #[v,.slice (some a) m c]).run P w=.ok v' w'∧w'.ownsRow base e sz v' (n+m) (cs++news)∧Step (ob v) w w'∧(∀b∈ob v',b∈ob v∨w.heap.size≤b)∧w'.ownsRow base e sz v n cs:=by
 obtain ⟨i,hi,hz,J,Y⟩:=Sl.info h;have ha:(n+m)*bys≤140737488355328:=LS (Nat.mul_le_mul hb hq) (by omega);have he:n+m≤maxLen:=by simp only[maxLen];omega
 by_cases hg:∃g cap cur,v=.slice (some ⟨g,0,none⟩) n cap∧w.heap[g]?=some (.cells cur e (0,0))∧n+m≤cap
 ·obtain ⟨v',w',I,ho,hs,_⟩:=run_append_own (P:=P) w base t ty e i z sz bys h.u hi hz J Y h.zs h.pos v n cs E a m c news hl T h1 he ha hc;have ht:Step (ob v) w w':=by rw[yz];exact Step.of_grown hs
  refine ⟨v',w',I,ho,ht,?_⟩;obtain ⟨g,cap,cur,rfl,hf,S⟩:=hg;rcases E.2 with ⟨h2,_⟩ | ⟨g2,cap2,hh,h2,h3,h4,h5,h6,h7,h8⟩
  ·cases h2
  cases h2
  have hu:n*i.size+news.length≤hh.size:=by rw[hl,h7,J,←MF];exact Mr _ S
  have hv:=run_append_room (P:=P) w t ty e i h.u hi g n cap hh h4 a m c news (by rw[J];exact hl) T h1 S hu;rw[hv] at I;cases I
  refine ⟨λb H=>.inl H,E.1,?_⟩;have hB:=E.1;rcases ho.2 with ⟨e1,_⟩ | ⟨g3,cap3,cur3,e1,k3,k4,k5,k6,k7,k8⟩
  ·cases e1
  cases e1
  refine .inr ⟨g,cap,cur3,O,k3,k4,h5,k6,k7,?_⟩;have:=congrArg (List.take (n*sz)) k8;rw[List.take_take,MI (Mr _ (Nat.le_add_right n m)),List.take_append_of_le_length (by omega),Lm (l:=cs) (by omega)] at this;exact this
 have new:∀(old:Nat),old<n+m→∀G,G=(Obj.cells (cs.toArray++news.toArray++Builtin.zeroCells z.cells (grownCap w (n+m) old e - (n+m))) e) →
   (w.drew.alloc G).ownsRow base e sz (.slice (some ⟨w.heap.size,0,none⟩) (n+m) (grownCap w (n+m) old e)) (n+m) (cs++news):=by
  intro old ho G hw;subst hw;have hge:=grownCap_ge w (n+m) old e;have hj:grownCap w (n+m) old e≤maxLen:=grownCap_le_maxLen w (n+m) old e he;have hp:(cs++news).length=(n+m)*sz:=by rw[Li,E.1,hl,MF]
  refine ⟨hp,.inr ⟨w.heap.size,_,_,O,hc,J3 w.drew _,hge,hj,?_,?_⟩⟩
  ·simp only[Array.size_append,List.size_toArray,size_zeroCells,h.zs,E.1,hl,←Nat.add_mul];congr 1;omega
  simp only[Array.toList_append,List.append_assoc];rw[←LA,←hp];exact List.take_left
 have stp:∀G,Step (ob v) w (w.drew.alloc G):=λG=>⟨O,O,O,by rw[UC];exact Nat.le_succ _,λk hk _=>jg w.drew G k hk⟩;have hy:∀G,Step [] w (w.drew.alloc G):=λG=>⟨O,O,O,by rw[UC];exact Nat.le_succ _,λk hk _=>jg w.drew G k hk⟩;have fin:∀(b:Nat),b∈ob (.slice (some ⟨w.heap.size,0,none⟩) (n+m) 0)→b∈ob v∨w.heap.size≤b:=λb H=>by simp[ob] at H;omega
 rcases E.2 with ⟨rfl,rfl⟩ | ⟨g,cap,cur,rfl,hC,hf,hD,hj,hE,hF⟩
 ·have hx:cs=[]:=Lo (by simpa using E.1);subst hx;by_cases hm:m=0
  ·subst hm;have V:news=[]:=Lo (by simpa using hl);subst V;refine ⟨nS,w,?_,QO _ _ _ _,Step.refl _ _,λb H=>by simp[ob] at H,QO _ _ _ _⟩;simp[Builtin.append_,run_underlying h.u,sizeOf,typeInfo,hi,Builtin.lenOf,Builtin.firstCells,loadCells,loadCellsFrom]
  have I:=run_append_nil (P:=P) w t ty e i z h.u hi hz a m c news (by rw[J];exact hl) T (by omega) (by omega) (by rw[Y];have h0:=ha;simp only[Nat.zero_add] at h0;omega);have V:=new 0 (by omega) _ O;simp only[Nat.zero_add,List.nil_append,Array.empty_append] at V ⊢;exact ⟨_,_,I,V,stp _,λb H=>fin b H,QO _ _ _ _⟩
 have S:cap<n+m:=by
  rcases Nat.lt_or_ge cap (n+m) with h9 | hge
  ·exact h9
  exact absurd ⟨g,cap,cur,O,hf,hge⟩ hg
 have hA:∀j u,cs[j]?=some u→w.cell? ((⟨g,0,none⟩:Addr).add j)=some u:=E.cells (g:=g) O;have I:=run_append_grow (P:=P) w t ty e i z h.u hi hz ⟨g,0,none⟩ n cap cs (by rw[J];exact E.1) hA a m c news (by rw[J];exact hl) T S (by omega) (growslice_fits S (by rw[Y];exact ha));exact ⟨_,_,I,new cap S _ O,stp _,λb H=>fin b H,Qm E (hy _)⟩
theorem Qfi {t e sz bys:Nat}{z:Value}[h:Sl P t e sz bys z] {s y:Operand}{base:Nat}{v:Value}{n:Nat}{cs:LV}(E:w.ownsRow base e sz v n cs) (G:ev f s=v)
  {a:Addr} {m c:Nat} {news:LV} (hy:ev f y=.slice (some a) m c) (hl:news.length=m*sz) {L:LN} (H:At L w.heap a news) (h1:∀u∈news,u.oneCell'=true)
  (hb:n+m≤1099511627776) (I:base≤w.heap.size)
  (J:∀v' w',w'.ownsRow base e sz v' (n+m) (cs++news)→Step (ob v) w w'→(∀b∈ob v',b∈ob v∨w.heap.size≤b)→w'.ownsRow base e sz v n cs→K (QX f d v') w') (S:bys≤128:=by decide) :
  XO P ⟨d,.call ⟨.builtin .append,#[s,y],#[t,t]⟩,ty,ps,af,gd⟩ f w K:=by
 obtain ⟨v',w',T,h2,h3,V,h5⟩:=Ud (P:=P) (t:=t) (ty:=ty) E hl H.cells h1 hb S I (c:=c);have Y:(execOp (ev f) ⟨d,.call ⟨.builtin .append,#[s,y],#[t,t]⟩,ty,ps,af,gd⟩).run P w=.ok (.value v') w':=by
  simp[execOp,resolve,invoke,builtin,G,hy,T]
 exact xv Y (J v' w' h2 h3 V h5)
end
section
variable {P:Program} {ops:List Oper} {K:Fr→World→Prop} {f:Fr} {w:World} {d:Option Nat} {ty:Nat} {ps:String} {af:Array Edge} {gd:Option (Nat×Bool)} {C:World→Prop} {pl:List (Nat×Bool)} {i0:Nat}
theorem QmA {α:Type}{g:α→LV}{x y:Operand}{t e sz bys:Nat}{z:Value}[Sl P t e sz bys z] (G:Q6 ops i0=⟨d,.indexAddr t x y,ty,ps,af,gd⟩) (I:∀x,(g x).length=sz) {L:LN}{E:List α}{v:Value}{H:World}{k:IntKind}{i:Nat}
  (h:∀w',C w'→Zo L w'.heap v E.length sz (E.flatMap g)) (J:C H) (S:ev f x=v) (hy:ev f y=.int k i) (hi:i<E.length)
  (T:∀a,(∀w',C w'→At L w'.heap a (g E[i]))→XP P ops C K pl (QX f d (.pointer (some a))) w) (V:Yc ops f (Q6 ops i0)=true:=by rfl) :
  XP P ops C K ((i0,true)::pl) f w:=by
 obtain ⟨a,cap,h1,_⟩:=Zo.at (h H J) hi;refine Lg.p (λw'=>by rw[G];exact Xc (S.trans h1) hy (by omega) (by omega)) ?_ V;rw[G];refine T _ λw' hc=>?_;obtain ⟨a',cap',Y,h2⟩:=Zo.at (h w' hc) hi;rw[Y] at h1;cases h1
 rw[XN g sz I E i hi] at h2;simpa using h2
end
end Go.Lg
namespace Go.Proofs.YtdffckgdcegpaaaGreatDoor
open Go.Proofs.Tryz
open Go.Lg
theorem Ql7 (b:Bool):b=true∨b=false:=by cases b;exact .inr O;exact .inl O
structure FV where
 v:Value
 f:Fw
abbrev ZD (p:FV):LV:=[p.v,.int .i64 p.f.s]
theorem yV (p:FV):(ZD p).length=2:=rfl
structure WdM (wB:World) (vL:Value) (es:List FV) (w:World):Prop where
 st:Step [] wB w
 l:w.ownsRow wB.heap.size 384 2 vL es.length (es.flatMap ZD)
 each:∀p∈es,QL (ob vL) w.heap p.v p.f.u
theorem WdM.ext {wB w w':World}{vL:Value}{G:List FV}(h:WdM wB vL G w) (E:Step [] w w'):WdM wB vL G w':=⟨h.st.trans E,Qm h.l E,λp hp=>(h.each p hp).ext E⟩
theorem WdM.add {wB w w':World}{vL vL':Value}{E:List FV}{p:FV}(h:WdM wB vL E w) (G:Step (ob vL) w w') (hl:w'.ownsRow wB.heap.size 384 2 vL' (E.length+1) (E.flatMap ZD++ZD p)) (H:∀b∈ob vL',b∈ob vL∨w.heap.size≤b) (hp:QL (ob vL) w.heap p.v p.f.u):WdM wB vL' (E++[p]) w':=by
 refine ⟨h.st.then G (λb hb=>.inr (Qk h.l b hb).1),by rw[Li,Lz];simpa using hl,λq hq=>?_⟩;rcases Lj.1 hq with hq | hq
 ·exact (h.each q hq).grow G (λb hb=>hb) H
 simp only[List.mem_singleton] at hq;subst hq;exact hp.grow G (λb hb=>hb) H
theorem Qf8 {E:List FV}{i:Nat}(h:i<E.length):(E.map (·.f)).getD i V3=(E[i]'h).f:=by simp[List.getD,h]
theorem Qh0 {a:QV}(E:Zr a) (s:Int):(ZK a.ed s).length≤32:=by
 have hp:(ZK a.ed s).Pairwise λx y:Ed=>x.1<y.1∨(x.1=y.1∧x.2.1<y.2.1):=List.Pairwise.sublist M8 E.edi;have hi:Yd ((ZK a.ed s).map λe=>e.2.1):=by
  unfold Yd;rw[Mn];refine List.Pairwise.imp_of_mem (λ{x y} hx hy H=>?_) hp;have e1:=(ZM hx).2;have e2:=(ZM hy).2;omega
 have:=Xs _ 0 32 hi (λv G=>by
  obtain ⟨e,he,rfl⟩:=Ly.1 G;exact E.al _ (E.ed e (ZM he).1).2.2.1)
 rw[Lb] at this;omega
def Qen (a:QV) (most:Nat) (mk:Bool):Option (List (LI)):=if a.st=0 then some [] else (wds a most).map λL=>(L.filter λf=>!mk || decide (f.s∈a.mr)).map (·.u)
def Qmc (o:Option (List (LI))) (r:Value) (H:Array Obj):Prop:=(o=none∧r=.tuple #[Za,.int .i64 3])∨∃l v ps,o=some l∧r=.tuple #[v,.int .i64 0]∧Xh [] H v ps∧ps.map (·.2)=l
set_option maxHeartbeats 16000000 in
theorem Qd7 {w:World}{va vm ve:Value}{a:QV}(h:Zu [] w.heap va vm ve a) (mj:Jt a=0) (ho:Zr a) (most:Nat) (qq:most≤4096) (mk:Bool) :
  QJ prog 249 [.agg #[va,.int .i64 a.st,vm,ve],.int .i64 most,.bool mk] w λr w'=>Step [] w w'∧Qmc (Qen a most mk) r w'.heap:=by
 have qr:=ho.st0;have q0:=ho.st1;refine QJ.of_W func249 O ntmps249 results249 (by simp) ?_;refine Qc<|xl O<|QT (us:=[va,.int .i64 a.st,vm,ve]) O λb3 w1 g0 q1 g2=>x Qh<|Qe<|Qf<|Qc<|x (Qs g2 O O)<|xl O<|xf<|(Xt (h.ext g0)).mono ?_;rintro r2 w2 ⟨g3,g5⟩;rw[mj] at g3;subst g3;have I:=g0.trans g5;refine Qe<|Qc<|Qb<|x (Q9 O O)<|xe<|ZX rfl ?_
 refine Qi<|Qf<|Qc<|Qb<|xb (QA O O) (λg7=>absurd (show (most:Int)<0 from g7) (by omega)) (λg7=>?_);refine Qb<|Qb<|x (ZR O O)<|x (Qo O)<|xe<|Q7 rfl (λg8=>absurd (show (most:Int) > 4096 from g8) (by omega)) (λg8=>?_);refine Qi ?_;have hO:=g2.ext g5;refine Qf<|Qc<|x (Qa O)<|x (Qd hO O O)<|x (Q8 O O)<|xe<|Q7 rfl (λhP=>?_) (λhP=>?_)
 ·refine Qc<|x Qh<|Qe ?_;exact Qn ⟨[Za,.int .i64 0],⟨O,O,U⟩,I,.inr ⟨[],Za,[],by unfold Qen;rw[if_pos hP],rfl,⟨Zo.nil _ _ _,λp hp=>by cases hp⟩,rfl⟩⟩
 have mo:0<a.st:=by have q2:¬a.st=0:=hP;omega
 have hW:Qen a most mk=(wds a most).map λL=>(L.filter λf=>!mk || decide (f.s∈a.mr)).map (·.u):=by unfold Qen;rw[if_neg (by omega)]
 refine Zb (wds a most) λR hR=>?_;rw[hR] at hW;refine Qi<|Qc<|x (QF U)<|xl O<|QC (us:=[ZD ⟨nS,V3⟩]) O O (by decide) (by exact (by decide:1*2≤1000000)) ⟨O,O,U⟩ λg9 w3 mq mu ka=>Qe ?_;have q3:=ka.lt;have mv:WdM w2 (.slice (some ⟨g9,0,none⟩) 1 1) [⟨nS,V3⟩] w3:=by
  refine ⟨mq,ka.own (n:=1) O (by omega) mu,λp hp=>?_⟩;simp only[List.mem_singleton] at hp;subst hp;exact Zo.nil _ _ _
 have mw:∀e∈a.ed,0≤e.1∧e.1≤1099511627776:=λe he=>by have:=ho.ed e he;omega
 refine QW (α:=Value×List FV) [(6,7),(9,10),(12,12),(32,77)] (λz=>[(9,z.1)]) (λz w'=>WdM w2 z.1 z.2 w'∧R=some (z.2.map (·.f))∧z.2.length≤1024) (by rfl) ?_ ?_
 ·refine Qc<|Qe<|Qg<|Qy (α:=Nat×Value×List FV) [(6,7),(9,10),(12,12),(32,77)] (λz=>[(9,z.2.1),(10,.int .i64 z.1)])
   (λz w'=>z.1≤1025∧WdM w2 z.2.1 z.2.2 w'∧WdI a most z.1 (z.2.2.map (·.f))∧wdL a most (1025 - z.1) z.1 (z.2.2.map (·.f))=R) (λz=>1025 - z.1) (by rfl) (0,.slice (some ⟨g9,0,none⟩) 1 1,[⟨nS,V3⟩]) ⟨O,O,U⟩
   ⟨Lk _,mv,Qls mo most,hR⟩ ?_
  rintro ⟨i,vL,E⟩ g4 w4 ⟨my,hf,h5,G⟩;simp only[] at my hf h5 G;have hQ:=h5.mx;have mz:=h5.le;rw[Lb] at hQ mz;have hv:Zo [] w4.heap vL E.length 2 (E.flatMap ZD):=QR hf.l (by omega) (λb _=>by simp);refine Qf<|Qc<|Qb<|Qb<|x (Qq hv O)<|x (QA O O)<|xe<|QE O (λhS=>?_) (λhS=>?_)
  ·refine Qw ?_;have m0:¬i<(E.map (·.f)).length:=by rw[Lb];have m1:¬(i:Int)<(E.length:Int):=hS;omega
   refine ⟨(vL,E),Z,hf,?_,hQ⟩;rw[←G];generalize 1025 - i=f;cases f with
   | zero=>rfl
   | succ f=>rw[wdL,if_neg m0]
  have hi:i<E.length:=by have m1:(i:Int)<(E.length:Int):=hS;omega
  rw[show 1025 - i=(1025 - (i+1))+1 by omega,wdL,if_pos (by rw[Lb];exact hi),Qf8 hi] at G;have kb:=hf.each _ (Lh hi);have hU:=h5.rx _ (LL (f:=λq:FV=>q.f) (Lh hi));have hV:=λhl hm=>h5.step ho (by rw[Lb];exact hi) hl hm;rw[Qf8 hi] at hV;refine Zb (E[i]'hi) λei hG=>?_;rw[hG] at G kb hU hV;have kc:=hf.st
  have m2:=kb.up (L':=[]) (λb hb=>by cases hb);refine Qi<|Qf<|Qg<|Qf<|Qc<|Qb<|Qb<|xig (g:=ZD) (i:=i) yV hv O O hi λq4 ke=>?_;rw[hG] at ke;refine x (Q4 O)<|x (Qu (ke.fld 0 _ O) O)<|x (Qq m2 O)<|Qb<|x (Q8 O O)<|xe<|Q7 O (λhX=>?_) (λhX=>?_)
  ·refine Qw ?_;have hH:ei.f.u.length=most:=by have m3:(ei.f.u.length:Int)=(most:Int):=hX;omega
   rw[if_pos hH] at G;exact ⟨(vL,E),Z,hf,G.symm,hQ⟩
  have hH:ei.f.u.length≠most:=by have m3:¬(ei.f.u.length:Int)=(most:Int):=hX;omega
  rw[if_neg hH] at G;have hY:=hV hH;refine Qi ?_;have m4:=hO.ext kc;have m5:Zu (ob vL) w4.heap va vm ve a:=((h.ext I).up (L':=ob vL) (λb hb=>.inr (Qk hf.l b hb).1)).ext kc;have m6:=Qh0 ho ei.f.s;have hout:=yx (va:=va) (vm:=vm) (st:=a.st) (m5.ed.ext (Step.drew [] w4)) ho.eds mw ei.f.s hU.2.1 (by omega);refine Zb (ZK a.ed ei.f.s) λos kf=>?_;rw[kf] at m6 hout
  have m7:wdR a ei.f=os.map (wdN ei.f):=by unfold wdR;rw[kf]
  rw[m7] at G hY;refine Qf<|Qf<|QS (Step [] w4) [(0,true),(1,true),(2,true),(3,true),(4,true),(5,true),(8,true),(6,false),(7,true)] mixed (by rfl) (by kernel_rfl) (Step.drew _ _) ?_;refine pq (λ_ hc=>Qs (m4.ext hc) O O)<|p (λ_=>Ql)<|p (λ_=>Ql)<|Lg.pig (g:=ZD) (i:=i) O yV hv O O hi λq5 kg=>?_;rw[hG] at kg
  refine p (λ_=>Q4 O)<|pq (λ_ hc=>Qu ((kg.fld 1 _ O).ext hc) O)<|p (λ_=>Ql)<|pk<|xf<|hout.mono ?_;rintro ro w5 ⟨m8,kh⟩;have ki:=(Step.drew [] w4).trans m8;refine ⟨ki,?_⟩;refine p (λ_=>Qq kh O)<|pe ?_;have m9:=hf.ext ki;refine Zb (E.map (·.f)++os.map (wdN ei.f)) λL1 kj=>?_;rw[kj] at G hY
  refine Qg<|Qy (α:=Nat×Value×List FV) [(9,9),(12,12),(54,74)] (λz=>[(9,z.2.1),(54,.int .i64 z.1)])
   (λz w'=>z.1≤os.length∧WdM w2 z.2.1 z.2.2 w'∧qK (ob z.2.1) w'.heap ro os∧z.2.2.length=E.length+z.1∧(∃h:i<z.2.2.length,z.2.2[i]'h=ei)∧z.2.2.map (·.f)++(os.drop z.1).map (wdN ei.f)=L1) (λz=>os.length - z.1) (by rfl) (0,vL,E) ⟨O,O,U⟩
   ⟨Lk _,m9,kh,O,⟨hi,hG⟩,kj⟩ ?_
  rintro ⟨k,vL2,fs⟩ g6 w6 ⟨hk,hj,hZ,pa,kk,hg⟩;simp only[] at hk hj hZ pa kk hg;refine Qc<|x (QA O O)<|xe<|Qf<|QE O (λga=>?_) (λga=>?_)
  ·refine Qw ?_;have gb:os.length≤k:=by have hI:¬(k:Int)<(os.length:Int):=ga;omega
   rw[Lq gb,Nh,LH] at hg;have pc:Zo [] w6.heap vL2 fs.length 2 (fs.flatMap ZD):=QR hj.l (by omega) (λb _=>by simp);have za:L1.length=fs.length:=by rw[←hg,Lb]
   refine Qc<|Qb<|x (Qq pc O)<|x (ZR O O)<|xe<|Q7 O (λgc=>?_) (λgc=>?_)
   ·have hJ:1024<L1.length:=by have pd:(fs.length:Int) > 1024:=gc;omega
    rw[if_pos hJ] at G;refine Qc<|x Qh<|Qe ?_;exact Qn ⟨[Za,.int .i64 3],⟨O,O,U⟩,I.trans hj.st,.inl ⟨by rw[hW,←G];rfl,O⟩⟩
   have hJ:¬1024<L1.length:=by have pd:¬(fs.length:Int) > 1024:=gc;omega
   rw[if_neg hJ,←hg] at G;have kn:=hY hJ;rw[←hg] at kn;refine Qi<|Qx<|Qb<|QN O O<|Qe ?_;exact ⟨(i+1,vL2,fs),by simp only[];omega,⟨O,O,U⟩,by simp only[];omega,hj,kn,G⟩
  have J:k<os.length:=by have hI:(k:Int)<(os.length:Int):=ga;omega
  rw[QY J,LK] at hg;refine Zb (os[k]'J) λd hd=>?_;rw[hd] at hg;refine Qi<|Exists.elim kk λge gg=>?_;have ko:=hj.each _ (Lh ge);rw[gg] at ko;refine QW (α:=Value×Value) [(9,9),(12,12),(56,73)] (λz=>[(9,z.1)]) (λz w'=>WdM w2 z.1 (fs++[⟨z.2,wdN ei.f d⟩]) w'∧qK (ob z.1) w'.heap ro os) (by rfl) ?_ ?_
  ·refine Qg<|Qc<|xie (i:=k) hZ O O J λzv hI=>?_;rw[hd] at hI;refine x (QI hI O O)<|xl O<|Qv (us:=[.int .i64 0,.int .i64 0,.int .i64 0]) O λkp w7 pf pg ph=>xl O<|Qr (us:=Qz d) ph O O O O ⟨O,O,O,U⟩ λH pj kq=>xe ?_;have gh:Step [] w6 H:=pf.then1 pj pg;have hw:=hj.ext gh;have kr:=hZ.ext gh;have pm:=ko.ext gh
   have z0:Zo [] H.heap vL2 fs.length 2 (fs.flatMap ZD):=QR hw.l (by omega) (λb _=>by simp);have kt:=pm.up (L':=[]) (λb hb=>by cases hb);have h0:Step [] H { H with drawn:=H.drawn+1 }:=Step.drew [] H
   have z2:=h0.size;have ku:=hU.2.2.2.2;have T:∀w',Step [] H w'→Step (ob vL2) H w'∧w'.ownsRow w2.heap.size 384 2 vL2 fs.length (fs.flatMap ZD):=λw' hs=>⟨hs.mono (by simp),Qm hw.l hs⟩;have kv:kp∉ob vL2:=λhb=>by have:=QP hj.l kp hb;omega
   refine Qje (λw'=>Step (ob vL2) H w'∧w'.ownsRow w2.heap.size 384 2 vL2 fs.length (fs.flatMap ZD)) (.f2 [(0,true),(1,true),(2,true),(3,true),(4,true),(5,true),(7,true),(8,true),(11,true),(12,true)] 6 9 (.pl [(9,false),(10,false),(13,true),(14,false),(15,false),(16,true)]) (.pl [(6,false),(10,false),(13,true),(14,false),(15,false),(16,true)])) mixed (by rfl) (by kernel_rfl) (T _ h0) ?_
   refine u2<|p (λ_=>Ql)<|p (λ_=>Ql)<|p (λ_=>Ql)<|QmA (g:=ZD) (i:=i) (L:=[]) O yV (λw' hc=>QR hc.2 (by omega) (λb _=>by simp)) (T _ h0) rfl rfl ge λz3 kw=>?_;rw[gg] at kw;refine p (λ_=>Q4 O)<|pq (λw' hc=>Qu ((kw w' hc).fld 0 _ O) O)<|p (λ_=>Qa O)<|pq (λ_ hc=>Qd (kq.step hc.1 kv) O O)<|p (λ_=>Qa O)<|pq (λ_ hc=>Qd (kq.step hc.1 kv) O O)<|pe ⟨?_,?_⟩
   ·refine ue<|xf<|(ZW (kt.ext h0)).mono ?_;rintro vk w9 ⟨h6,h7⟩;have h2:=h0.trans h6;have pn:=h6.size;have gi:=Qk h7;refine ⟨T _ h2,?_⟩;refine uP<|pk<|QC (us:=[[.int .i64 d.2.1]]) O O (by decide) (by simp) ⟨rfl,rfl,U⟩ λbl po hn pp gj=>?_;have h8:=h2.trans hn;have pt:=hn.size;refine ⟨T _ h8,?_⟩
    refine pk<|QU (news:=[.int .i64 d.2.1]) (L:=[]) (Qm h7 hn) O O O (gj.at (by simp)) (by simp[Value.oneCell']) (by omega) (by omega) λS gk gl h9 pu=>?_;have hA:Step [] H gk:=h8.then h9 (λb hb=>.inr (by have:=(gi b hb).1;omega));have pw:=h9.size;have hq:=Qt.snoc (Zg gl (show H.heap.size≤_ by omega));refine ⟨T _ hA,?_⟩
    have gm:=(Qt.ints (L:=[]) hq (by simp;omega) (by simp)).one;have gn:=(Qt.ints (L:=[]) hq (by simp;omega) (by simp)).cells;refine p (λ_=>QF ⟨gn,O,U⟩)<|pk<|QC (us:=[ZD ⟨S,wdN ei.f d⟩]) O O (by decide) (by exact (by decide:1*2≤1000000)) ⟨O,O,U⟩ λbm go I pz hB=>?_;have Y:=hA.trans I;refine ⟨T _ Y,?_⟩;have hr:=hw.ext Y;have gp:=hr.st.size
    refine pk<|Qfi (news:=ZD ⟨S,wdN ei.f d⟩) (L:=[]) (m:=1) hr.l O O O (hB.at (by simp)) (by intro u hu;simp only[List.mem_cons,List.not_mem_nil,or_false] at hu;rcases hu with rfl | rfl;exact gm;rfl) (by omega) gp λvz p0 gq ht hC gr=>⟨⟨(Y.mono (by simp)).trans' ht,gr⟩,p (λ_=>Qh)<|pe ?_⟩
    have gs:QL (ob vL2) go.heap S (wdN ei.f d).u:=Qt.ints (Qm hq I) (by show (ei.f.u++[d.2.1]).length≤_;rw[Li,LD];omega) (λb hb=>QP hw.l b hb);exact ⟨(vz,S),Z,hr.add ht gq hC gs,(kr.ext Y).grow ht (λb hb=>hb) hC⟩
   refine ue<|QC (us:=[[.int .i64 d.2.1]]) O O (by decide) (by simp) ⟨rfl,rfl,U⟩ λbl w9 h6 pp gj=>?_;have h2:=h0.trans h6;have pn:=h6.size;refine ⟨T _ h2,?_⟩;refine uP<|pk<|xf<|(ZW (kt.ext h2)).mono ?_;rintro vk po ⟨hn,h7⟩;have h8:=h2.trans hn;have pt:=hn.size;have gi:=Qk h7;refine ⟨T _ h8,?_⟩
   refine pk<|QU (news:=[.int .i64 d.2.1]) (L:=[]) h7 O O O ((gj.ext hn).at (by simp)) (by simp[Value.oneCell']) (by omega) (by omega) λS gk gl h9 pu=>?_;have hA:Step [] H gk:=h8.then h9 (λb hb=>.inr (by have:=(gi b hb).1;omega));have pw:=h9.size;have hq:=Qt.snoc (Zg gl (show H.heap.size≤_ by omega));refine ⟨T _ hA,?_⟩
   have gm:=(Qt.ints (L:=[]) hq (by simp;omega) (by simp)).one;have gn:=(Qt.ints (L:=[]) hq (by simp;omega) (by simp)).cells;refine p (λ_=>QF ⟨gn,O,U⟩)<|pk<|QC (us:=[ZD ⟨S,wdN ei.f d⟩]) O O (by decide) (by exact (by decide:1*2≤1000000)) ⟨O,O,U⟩ λbm go I pz hB=>?_;have Y:=hA.trans I;refine ⟨T _ Y,?_⟩;have hr:=hw.ext Y;have gp:=hr.st.size
   refine pk<|Qfi (news:=ZD ⟨S,wdN ei.f d⟩) (L:=[]) (m:=1) hr.l O O O (hB.at (by simp)) (by intro u hu;simp only[List.mem_cons,List.not_mem_nil,or_false] at hu;rcases hu with rfl | rfl;exact gm;rfl) (by omega) gp λvz p0 gq ht hC gr=>⟨⟨(Y.mono (by simp)).trans' ht,gr⟩,p (λ_=>Qh)<|pe ?_⟩
   have gs:QL (ob vL2) go.heap S (wdN ei.f d).u:=Qt.ints (Qm hq I) (by show (ei.f.u++[d.2.1]).length≤_;rw[Li,LD];omega) (λb hb=>QP hw.l b hb);exact ⟨(vz,S),Z,hr.add ht gq hC gs,(kr.ext Y).grow ht (λb hb=>hb) hC⟩
  rintro ⟨vz,S⟩ z4 z5 ⟨ky,kz⟩;simp only[] at ky kz;refine Qx<|QN O O<|Qb<|xe ?_;exact ⟨(k+1,vz,fs++[⟨S,wdN ei.f d⟩]),by simp only[];omega,⟨O,O,U⟩,J,ky,kz,by simp;omega,⟨by simp;omega,by simp only[];rw[L2 ge];exact gg⟩,by simp only[];rw[Ls,LA];exact hg⟩
 rintro ⟨vL,E⟩ z9 hD ⟨h3,k0,p1⟩;simp only[] at h3 k0 p1;rw[k0] at hW;have p2:=I.trans h3.st;have hv:Zo [] hD.heap vL E.length 2 (E.flatMap ZD):=QR h3.l (by omega) (λb _=>by simp);refine Qc<|Qe<|Qf<|Qc<|Qb<|x (Qq hv O)<|Qb<|xe<|Qg<|Qy (α:=Nat×Value×List TV) [(13,13),(15,15),(80,100)] (λz=>[(13,z.2.1),(80,.int .i64 z.1)])
  (λz w'=>z.1≤E.length∧Step [] hD w'∧qZ 37 hD.heap.size w' z.2.1 z.2.2∧z.2.2.map (·.2)=((E.take z.1).filter λp=>!mk || decide (p.f.s∈a.mr)).map (λp=>p.f.u)∧∀p∈z.2.2,QL (ob z.2.1) w'.heap p.1 p.2) (λz=>E.length - z.1) (by rfl) (0,nS,[]) ⟨O,O,U⟩
  ⟨Lk _,Step.refl _ _,QO _ _ _ _,O,λp hp=>by cases hp⟩ ?_
 rintro ⟨k,vT,ps⟩ g21 k4 ⟨hk,ha,hT,hE,hK⟩;simp only[] at hk ha hT hE hK;have hpl:ps.length≤k:=by
  have h1:=congrArg List.length hE;rw[Lb,Lb] at h1;rw[h1];refine LS (Mh _ _) ?_;rw[Lx];omega
 refine Qc<|x (QA O O)<|xe<|Qf<|QE O (λgt=>?_) (λgt=>?_)
 ·refine Qw ?_;have gb:E.length≤k:=by have hL:¬(k:Int)<(E.length:Int):=gt;omega
  refine Qc<|Qb<|x Qh<|Qe<|Qn ⟨[vT,.int .i64 0],⟨O,O,U⟩,p2.trans ha,.inr ⟨_,vT,ps,hW,O,⟨QR hT (by omega) (λb _=>by simp),λp hp=>(hK p hp).up (λb hb=>by cases hb)⟩,?_⟩⟩;rw[hE,Lm gb];show _=((E.map (λp:FV=>p.f)).filter λf=>!mk || decide (f.s∈a.mr)).map (λx:Fw=>x.u);rw[List.filter_map,Me];rfl
 have J:k<E.length:=by have hL:(k:Int)<(E.length:Int):=gt;omega
 have k5:=h3.each _ (Lh J);refine Zb (E[k]'J) λek gu=>?_;rw[gu] at k5;have k6:QL (ob vT) k4.heap ek.v ek.f.u:=((k5.up (L':=[]) (λb hb=>by cases hb)).up (λb hb=>.inr (Qk hT b hb).1)).ext ha;refine Qi<|Qf<|Qg<|Qc<|xig (g:=ZD) (i:=k) yV (hv.ext ha) O O J λa82 hL=>?_;rw[gu] at hL
 refine x (QI hL O O)<|xl O<|Qv (us:=[nS,.int .i64 0]) O λb15 w22 p3 p4 p5=>xl O<|Qr (us:=ZD ek) p5 O O O O ⟨k6.one,O,U⟩ λhh p6 k7=>xe ?_;have V:Step [] k4 hh:=p3.then1 p6 p4;have hB:=((hO.ext h3.st).ext ha).ext V;have p7:QL [] hh.heap vm a.mr:=(((h.ext I).mr.ext h3.st).ext ha).ext V
 have hF:(E.take (k+1)).filter (λp=>!mk || decide (p.f.s∈a.mr))=(E.take k).filter (λp=>!mk || decide (p.f.s∈a.mr))++(if (!mk || decide (ek.f.s∈a.mr))=true then [ek] else []):=by
  rw[Le J,L3,gu,MD,M6]
 refine QW (α:=Bool) [(84,92)] (λz=>[(92,.bool z)]) (λz w'=>w'=hh∧z=(!mk || decide (ek.f.s∈a.mr))) (by rfl) ?_ ?_
 ·refine Or.elim (Ql7 mk) (λgv=>?_) (λgv=>?_)
  ·subst gv;refine Qx<|Qb<|x (Zm O)<|Qb<|x (Qa O)<|x (Qd hB O O)<|x (Qa O)<|x (Qd k7 O O)<|xl O<|xf<|(ZJ p7 ek.f.s).mono ?_;rintro r91 hh ⟨rfl,rfl⟩;refine x (Qo O)<|xe ?_;exact ⟨_,Z,O,O⟩
  subst gv;refine Qx<|Qb<|x (Zm O)<|Qb<|xs O<|xs O<|xs O<|xs O<|xs O<|x (Qo O)<|xe ?_;exact ⟨true,Z,O,O⟩
 rintro z g23 hh ⟨rfl,hz⟩;rw[←hz] at hF;refine Q2 rfl (λgw=>?_) (λgw=>?_)
 rotate_left
 ·rw[if_neg (by rw[gw];decide),LH] at hF;refine Qi<|Qx<|QN O O<|Qb<|xe ?_;exact ⟨(k+1,vT,ps),by simp only[];omega,⟨O,O,U⟩,J,ha.trans V,Qm hT V,by simp only[];rw[hF];exact hE,λp hp=>(hK p hp).ext V⟩
 rw[if_pos gw] at hF;have k8:=k6.ext V;have k9:=Qm hT V;have ku:=k8.le;refine Qx<|Qb<|xl O<|Kw λb94 w24 hM ma p8=>x (Qa O)<|x (Qd (k7.ext hM) O O) <|
  xl rfl<|yA (base:=hh.heap.size) (p8.own (n:=0) (sz:=1) O (by omega) ma) O (k8.ext hM) O (X7 ek.f.u) (by omega) (by have:=hM.size;omega) λh4 gx p9 qb hn25=>?_
 have qc:Step [] hh gx:=hM.then1 qb ma;have qf:Qt 3 hh.heap.size gx h4 ek.f.u:=by simpa[tup] using p9
 have gy:QL (ob vT) gx.heap h4 ek.f.u:=Qt.ints qf ku (λb hb=>QP k9 b hb);refine xl rfl<|QC (us:=[[h4]]) O O (by decide) (by simp) ⟨gy.cells,rfl,U⟩ λb98 w26 mc hb98 qj=>?_;have hN:=qc.trans mc;have qk:=Qm k9 hN
 refine xl rfl<|QU (news:=[h4]) (L:=[]) qk O O O (qj.at (by simp)) (λy hy=>by simp only[List.mem_singleton] at hy;subst hy;exact gy.one) (by omega) (by have:=ha.size;have:=V.size;have:=hN.size;omega) λmf mg ql gz mh=>Qe ?_;have qm:Step [] hD mg:=((ha.trans V).trans hN).then gz (λb hb=>.inr (Qk hT b hb).1)
 have qo:qZ 37 hD.heap.size mg mf (ps++[(h4,ek.f.u)]):=qZ.snoc ql;refine Qx<|QN O O<|Qb<|xe<|⟨(k+1,mf,ps++[(h4,ek.f.u)]),by simp only[];omega,⟨O,O,U⟩,J,qm,qo,?_,λp hp=>?_⟩
 ·simp only[];rw[Ls,hE,hF,Ls];rfl
 rcases Lj.1 hp with hp | hp
 ·exact (((hK p hp).ext V).ext hN).grow gz (λb hb=>hb) mh
 simp only[List.mem_singleton] at hp;subst hp;exact (gy.ext mc).grow gz (λb hb=>hb) mh
theorem KX {L L':LN}{w:World}{v v':Value}{l l':LI}(h:QL L w.heap v l) (h':QL L' w.heap v' l'):QJ prog 252 [v,v'] w λr w'=>r=.bool (decide (l=l'))∧Step [] w w':=by
 have hf:=h.le;have hg:=h'.le;refine QJ.of_W func252 O ntmps252 results252 (by simp) ?_;refine Qc<|Qe<|Qf<|Qc<|Qb<|x (Qq h O)<|Qb<|x (Qq h' O)<|x (Q9 O O)<|xe<|Q7 rfl (λS=>?_) (λS=>?_)
 ·refine Qc<|Qe<|Qn ⟨[.bool false],Z,?_,Step.refl _ _⟩;have G:l≠l':=λe=>S (by rw[e]);simp[tup,G]
 have hh:l.length=l'.length:=by omega
 refine Qi<|Qf<|Qc<|Qe<|Qg<|Qy (α:=Nat) [(4,5),(11,25)] (λk=>[(5,.int .i64 k)]) (λk w'=>Step [] w w'∧k≤l.length∧(l=l'↔l.drop k=l'.drop k)) (λk=>l.length - k) (by rfl) 0 Z ⟨Step.refl _ _,Lk _,by simp⟩ ?_;rintro k g T ⟨E,hk,hm⟩
 replace h:=h.ext E
 replace h':=h'.ext E;refine Qf<|Qc<|Qb<|Qb<|x (Qq h O)<|x (QA O O)<|xe<|QE rfl (λY=>?_) (λY=>?_)
 ·refine Qw<|Qc<|Qe<|Qn ⟨[.bool true],Z,?_,E⟩;rw[Lq (by omega),Lq (by omega)] at hm;simp[tup,hm]
 have H:k<l.length:=by omega
 have I:k<l'.length:=by omega
 refine Qi<|Qf<|Qg<|Qf<|QS (Step [] T) [(0,true),(1,true),(2,true),(3,true),(4,true),(5,true),(6,true),(7,true),(8,true)] mixed (by rfl) (by kernel_rfl) (Step.drew _ _) ?_;refine p (λ_=>Ql)<|p (λ_=>Ql)<|pii (i:=k) O h O O H λhj ha=>pq (λ_ hc=>Qu (ha.ext hc) O)<|p (λ_=>Ql)<|p (λ_=>Ql)<|pii (i:=k) O h' O O I λhl hb=>pq (λ_ hc=>Qu (hb.ext hc) O)<|p (λ_=>Q9 O O)<|pe ?_
 have V:=E.trans (Step.drew [] T);refine Q7 rfl (λJ=>?_) (λJ=>?_)
 ·refine Qc<|Qe<|Qn ⟨[.bool false],Z,?_,V⟩;have G:l≠l':=λe=>J (by simp[e]);simp[tup,G]
 refine Qi<|Qx<|Qb<|QN O O<|Qe<|⟨k+1,by omega,Z,V,by omega,?_⟩;have he:l[k]'H=l'[k]'I:=Lu.1 J;rw[hm,QY H,QY I,he];exact ⟨λh=>(List.cons.inj h).2,λh=>by rw[h]⟩
theorem J8 {L L':LN}{w:World}{v v':Value}{l l':LI}(h:QL L w.heap v l) (h':QL L' w.heap v' l'):QJ prog 41 [v,v'] w λr w'=>r=.bool (decide (l=l'))∧Step [] w w':=by
 have hf:=h.le;have hg:=h'.le;refine QJ.of_W func41 O ntmps41 results41 (by simp) ?_;refine Qc<|Qe<|Qf<|Qc<|Qb<|x (Qq h O)<|Qb<|x (Qq h' O)<|x (Q9 O O)<|xe<|Q7 rfl (λS=>?_) (λS=>?_)
 ·refine Qc<|Qe<|Qn ⟨[.bool false],Z,?_,Step.refl _ _⟩;have G:l≠l':=λe=>S (by rw[e]);simp[tup,G]
 have hh:l.length=l'.length:=by omega
 refine Qi<|Qf<|Qc<|Qe<|Qg<|Qy (α:=Nat) [(4,5),(11,25)] (λk=>[(5,.int .i64 k)]) (λk w'=>Step [] w w'∧k≤l.length∧(l=l'↔l.drop k=l'.drop k)) (λk=>l.length - k) (by rfl) 0 Z ⟨Step.refl _ _,Lk _,by simp⟩ ?_;rintro k g T ⟨E,hk,hm⟩
 replace h:=h.ext E
 replace h':=h'.ext E;refine Qf<|Qc<|Qb<|Qb<|x (Qq h O)<|x (QA O O)<|xe<|QE rfl (λY=>?_) (λY=>?_)
 ·refine Qw<|Qc<|Qe<|Qn ⟨[.bool true],Z,?_,E⟩;rw[Lq (by omega),Lq (by omega)] at hm;simp[tup,hm]
 have H:k<l.length:=by omega
 have I:k<l'.length:=by omega
 refine Qi<|Qf<|Qg<|Qf<|QS (Step [] T) [(0,true),(1,true),(2,true),(3,true),(4,true),(5,true),(6,true),(7,true),(8,true)] mixed (by rfl) (by kernel_rfl) (Step.drew _ _) ?_;refine p (λ_=>Ql)<|p (λ_=>Ql)<|pii (i:=k) O h O O H λhj ha=>pq (λ_ hc=>Qu (ha.ext hc) O)<|p (λ_=>Ql)<|p (λ_=>Ql)<|pii (i:=k) O h' O O I λhl hb=>pq (λ_ hc=>Qu (hb.ext hc) O)<|p (λ_=>Q9 O O)<|pe ?_
 have V:=E.trans (Step.drew [] T);refine Q7 rfl (λJ=>?_) (λJ=>?_)
 ·refine Qc<|Qe<|Qn ⟨[.bool false],Z,?_,V⟩;have G:l≠l':=λe=>J (by simp[e]);simp[tup,G]
 refine Qi<|Qx<|Qb<|QN O O<|Qe<|⟨k+1,by omega,Z,V,by omega,?_⟩;have he:l[k]'H=l'[k]'I:=Lu.1 J;rw[hm,QY H,QY I,he];exact ⟨λh=>(List.cons.inj h).2,λh=>by rw[h]⟩
set_option maxHeartbeats 1000000 in
theorem Qg3 {L L':LN}{w:World}{va vm ve ua um ue:Value}{a:QV}(h:Zu L w.heap va vm ve a) (h':Zu L' w.heap ua um ue a):QJ prog 251 [.agg #[va,.int .i64 a.st,vm,ve],.agg #[ua,.int .i64 a.st,um,ue]] w λr w'=>r=.bool true∧Step [] w w':=by
 have hw:=h.ed.le;refine QJ.of_W func251 O ntmps251 results251 (by simp) ?_;refine Qc<|xl O<|QT (us:=[va,.int .i64 a.st,vm,ve]) O λb2 w1 hl hy hn=>xl O<|QT (us:=[ua,.int .i64 a.st,um,ue]) O λb3 w2 ha hz H=>Qe ?_;have S:=hl.trans ha;have I:=hn.ext ha;have h2:=h.ext S;have T:=h'.ext S
 refine Qf<|QW (α:=Unit) [(6,35)] (λ_=>[(35,.bool false)]) (λ_ w'=>Step [] w2 w') (by rfl) ?_ ?_
 ·refine Qx<|x (Qa O)<|x (Qd I O O)<|x (Qa O)<|x (Qd H O O)<|xl O<|xf<|(KX h2.al T.al).mono ?_;rintro r3 w3 ⟨hb,E⟩;rw[decide_eq_true rfl] at hb;subst hb;refine x (Zm O)<|Qb<|x (Qa O)<|x (Qd (I.ext E) O O)<|x (Qa O)<|x (Qd (H.ext E) O O)<|xb (Q9 O O) (λhe=>absurd O he) (λhe=>?_)
  refine x (Qo O)<|Qb<|x (Qa O)<|x (Qd (I.ext E) O O)<|x (Qa O)<|x (Qd (H.ext E) O O)<|xl O<|xf<|(KX (h2.mr.ext E) (T.mr.ext E)).mono ?_;rintro r4 w4 ⟨hf,G⟩;rw[decide_eq_true rfl] at hf;subst hf;have J:=E.trans G
  refine x (Zm O)<|x (Qo O)<|Qb<|x (Qa O)<|x (Qd (I.ext J) O O)<|x (Qq (h2.ed.ext J) O)<|x (Qa O)<|x (Qd (H.ext J) O O)<|x (Qq (T.ed.ext J) O)<|xb (Q9 O O) (λhg=>absurd O hg) (λhg=>?_);refine x (Qo O)<|xe ?_;exact ⟨(),Z,J⟩
 rintro ⟨⟩ g w3 E;have V:=S.trans E;have ho:=I.ext E;have hp:=H.ext E;have h3:=h.ext V;have hq:=h'.ext V;refine ZX rfl ?_;refine Qi<|Qf<|Qc<|Qe<|Qg<|Qy (α:=Nat) [(4,5),(36,53)] (λk=>[(5,.int .i64 k)]) (λk w'=>Step [] w3 w'∧k≤a.ed.length) (λk=>a.ed.length - k) (by rfl) 0 Z ⟨Step.refl _ _,Lk _⟩ ?_;rintro k g w4 ⟨G,hk⟩;have h4:=h3.ed.ext G
 have hr:=hq.ed.ext G;have hh:=ho.ext G;have hs:=hp.ext G;refine Qf<|Qc<|Qb<|x (Qa O)<|x (Qd hh O O)<|x (Qq h4 O)<|x (QA O O)<|xe<|QE rfl (λht=>?_) (λht=>?_)
 ·refine Qw<|Qc<|Qe ?_;exact Qn ⟨[.bool true],Z,O,V.trans G⟩
 have Y:k<a.ed.length:=by omega
 refine Qi<|Qf<|Qg<|Qf<|QS (Step [] w4) [(0,true),(1,true),(2,true),(3,true),(4,true),(5,true),(6,true),(7,true),(8,true),(9,true),(10,true)] mixed (by rfl) (by kernel_rfl) (Step.drew _ _) ?_;refine p (λ_=>Qa O)<|pq (λ_ hc=>Qd (hh.ext hc) O O)<|p (λ_=>Ql)<|pie (i:=k) O h4 O O Y λh0 hu=>pq (λ_ hc=>QI (hu.ext hc) O O)<|p (λ_=>Qa O)<|pq (λ_ hc=>Qd (hs.ext hc) O O)<|p (λ_=>Ql) <|
  pie (i:=k) O hr O O Y λh1 hv=>pq (λ_ hc=>QI (hv.ext hc) O O)<|p (λ_=>K0 O O)<|pe ?_
 refine Q7 rfl (λhj=>absurd O hj) (λhj=>?_);refine Qi<|Qx<|Qb<|QN O O<|Qe ?_;exact ⟨k+1,by omega,Z,G.trans (Step.drew _ _),Y⟩
end Go.Proofs.YtdffckgdcegpaaaGreatDoor
namespace Go.Lg
theorem yo {P:Program}{f:Fr}{w:World}{d:Option Nat}{ty:Nat}{ps:String}{af:Array Edge}{gd:Option (Nat×Bool)}{t E:Nat}[h:S3 P t] {x y:Operand}{p q:Ed}(hx:ev f x=.agg (Qz p).toArray) (hy:ev f y=.agg (Qz q).toArray) :
  (execOp (ev f) ⟨d,.binOp .eql t x y E,ty,ps,af,gd⟩).run P w=.ok (.value (.bool (decide (p=q)))) w:=by
 have G:(eqGuard .eql t x y (.agg (Qz p).toArray) (.agg (Qz q).toArray)).run P w=.ok () w:=by simp[eqGuard,h.g]
 simp only[execOp,hx,hy,Sem.run_bind,G,Result.andThen_ok,binOp,KY,Sem.run_pure]
end Go.Lg
namespace Go.Proofs.YtdffckgdcegpaaaGreatDoor
open Go.Proofs.Tryz
open Go.Lg
def ex3:QV:=⟨[0,2],3,[2],[(0,0,2),(0,2,0),(2,2,0)]⟩
def cn3:QV:=⟨[0,2],2,[1],[(0,0,1),(0,2,0),(1,2,0)]⟩
def se3:List Ed:=[(0,1,0),(0,3,1),(1,1,0)]
theorem Qgr:Jt ex3=0:=by kernel_rfl
theorem QiL:JG ex3=cn3:=by kernel_rfl
theorem jb:Jt cn3=0:=by kernel_rfl
theorem Qi0:QhO cn3 0 [0,0]=0:=by kernel_rfl
theorem Qi1:flw cn3 0 [0,0]=(1,1):=by kernel_rfl
theorem QiZ:Qen cn3 2 true=some [[0],[2,0]]:=by kernel_rfl
theorem Qj4:Jt ⟨[1,3],2,[1],se3⟩=0:=by kernel_rfl
theorem Qj3:(JG ⟨[1,3],2,[1],se3⟩).ed=se3:=by kernel_rfl
theorem QkV:rlE cn3 [3,1]=[(0,3,1),(0,1,0),(1,1,0)]:=by kernel_rfl
theorem Qms:([3,1]:LI).mergeSort (λx y=>decide (x≤y))=[1,3]:=by
 refine List.Perm.eq_of_pairwise (le:=λx y:Int=>x≤y) (λa b _ _ h1 h2=>by omega) ?_ (by decide) ((M7 _ _).trans (List.Perm.swap _ _ _));refine (List.pairwise_mergeSort (le:=λx y:Int=>decide (x≤y)) (λa b c h1 h2=>by simp at *;omega) (λa b=>by simp;omega) [3,1]).imp λh=>by simpa using h
theorem QjV (l':List Ed) (hp:l'.Perm (rlE cn3 [3,1])) (G:l'.Pairwise Qaf):l'=se3:=by
 rw[QkV] at hp;refine List.Perm.eq_of_pairwise (le:=Qaf) (λa b ha hb h1 h2=>?_) G (by unfold se3 Qaf;decide) (hp.trans (List.Perm.swap _ _ _));have E:=hp.mem_iff.1 ha;simp only[List.mem_cons,List.not_mem_nil,or_false] at E;simp only[se3,List.mem_cons,List.not_mem_nil,or_false] at hb;unfold Qaf at h1 h2
 rcases E with rfl | rfl | rfl <;> rcases hb with rfl | rfl | rfl <;> first | rfl | (exfalso;simp only[] at h1 h2;omega)
set_option maxHeartbeats 1000000 in
theorem j8 (w:World):QJ prog 247 [] w λr w'=>Step [] w w'∧Xw w.heap.size w'.heap r ex3:=by
 refine QJ.of_W func247 O ntmps247 results247 (by simp) ?_;refine Qc<|xl O<|Qv (us:=qV) O λb0 w1 S hb T=>xe ?_;have hc:=T.lt;refine Qc<|xl O<|QC (us:=[[.int .i64 0],[.int .i64 2]]) O O (by decide) (by simp) ⟨rfl,rfl,rfl,rfl,U⟩ λG w2 V hl he=>xl rfl<|QC (us:=[[.int .i64 2]]) rfl rfl (by decide) (by simp) ⟨rfl,rfl,U⟩ λH w3 I hn hf =>
  x (QF ⟨rfl,O,O,U⟩)<|x (QF ⟨O,O,O,U⟩)<|x (QF ⟨O,O,O,U⟩)<|xl O<|QC (us:=[Qz (0,0,2),Qz (0,2,0),Qz (2,2,0)]) O O (by decide) (by exact (by decide:3*3≤1000000)) ⟨O,O,O,O,O,O,U⟩ λJ w4 E ho hg=>?_
 have Y:=(V.trans I).trans E;have hh:=S.size;have hp:=V.size;have hq:=I.size;have hr:=E.size;have hF:Xw w1.heap.size w4.heap (.agg #[.slice (some ⟨G,0,none⟩) 2 2,.int .i64 3,.slice (some ⟨H,0,none⟩) 1 1,.slice (some ⟨J,0,none⟩) 3 3]) ex3 :=
  zX (a:=ex3) ((he.ext I).ext E) (hf.ext E) hg (by omega) (by omega) (by omega) O O O (by decide) (by decide) (by decide)
 refine x (QF ⟨O,O,O,O,U⟩)<|xl O<|Qr (us:=[.slice (some ⟨G,0,none⟩) 2 2,.int .i64 3,.slice (some ⟨H,0,none⟩) 1 1,.slice (some ⟨J,0,none⟩) 3 3]) (T.ext Y) O O O O ⟨O,O,O,O,U⟩ λw5 ha hj=>xe ?_
 refine Qn ⟨[.agg [.slice (some ⟨G,0,none⟩) 2 2,.int .i64 3,.slice (some ⟨H,0,none⟩) 1 1,.slice (some ⟨J,0,none⟩) 3 3].toArray],⟨⟨_,O,QB O (hj.at (L:=[]) (by simp)).cells⟩,U⟩,(S.trans Y).then1 ha hb,?_⟩;exact (Jj hF hc ha).mono hh
set_option maxHeartbeats 4000000 in
theorem QdG (w:World):QJ prog 199 [] w λr w'=>r=.bool true∧Step [] w w':=by
 refine QJ.of_W func199 O ntmps199 results199 (by simp) ?_;refine Qc<|Qe<|Qc<|xl O<|xf<|(j8 w).mono ?_;rintro r1 w1 ⟨hI,va,vm,ve,rfl,hJ⟩;refine xl rfl<|xf<|(jj (hJ [] (by simp))).mono ?_;rintro r2 w2 ⟨hK,v2,rfl,_,hM⟩;have hg:=hM Qgr;rw[QiL] at hg;obtain ⟨ca,cm,ce,rfl,hN⟩:=hg;have J:=hN [] (by simp)
 refine Qb<|x (Qp O O)<|x (Qp O O)<|xl O<|Qv (us:=qV) O λb1 w3 hO hP hQ=>xl O<|Qr (us:=[ca,.int .i64 2,cm,ce]) hQ O O O O ⟨J.al.one,O,J.mr.one,J.ed.one,U⟩ λw4 hS S=>Qe ?_;have hh:Step [] w2 w4:=hO.then1 hS hP;have T:=J.ext hh;have hT:=(hI.trans hK).trans hh
 refine Qc<|x (Qs S O O)<|xl O<|QC (us:=[[.int .i64 0],[.int .i64 0]]) O O (by decide) (by simp) ⟨rfl,rfl,rfl,rfl,U⟩ λg9 w5 hj ka hU=>xl rfl<|xf<|(Qlb (u:=[0,0]) (T.ext hj) (hU.arr (L:=[]) (by simp) (n:=2) (cap:=2) (sz:=1) rfl (by omega) (Lr _)) 0).mono ?_;rintro r6 w6 ⟨hV,hn⟩;rw[if_neg (by rw[Qi0];decide),Qi1] at hn;subst hn
 refine Qb<|x (Qp O O)<|x (Qp O O)<|x (Qp O O)<|x Qh<|x Qh<|Qe ?_;have ha:=hj.trans hV;refine Qc<|x (Qs (S.ext ha) O O)<|xl O<|xf<|(Qd7 (T.ext ha) jb ((ZG _).1 jb) 2 (by decide) true).mono ?_;rintro r7 w7 ⟨hW,ho⟩;rw[QiZ] at ho;have hX:∃I G H,r7=.tuple #[I,.int .i64 0]∧Xh [] w7.heap I [G,H]∧G.2=[0]∧H.2=[2,0]:=by
  rcases ho with ⟨h,_⟩ | ⟨l,I,ps,hl,h2,h3,E⟩
  ·cases h
  cases hl
  match ps,h3,E with
  | [G,H],h3,E =>
   simp only[List.map_cons,List.map_nil,List.cons.injEq,and_true] at E;exact ⟨I,G,H,h2,h3,E.1,E.2⟩
  | [],_,E=>simp at E
  | [_],_,E=>simp at E
  | _::_::_::_,_,E=>simp at E
 obtain ⟨I,G,H,rfl,hY,hZ,ga⟩:=hX;refine Qb<|x (Qp O O)<|x (Qp O O)<|x Qh<|Qe ?_;have hb:=ha.trans hW;refine Qc<|x (Qs (S.ext hb) O O)<|xl O<|QC (us:=[[.int .i64 3],[.int .i64 1]]) O O (by decide) (by simp) ⟨rfl,rfl,rfl,rfl,U⟩ λkb w8 hp kc gb =>
  xl rfl<|xf<|(QbK (to:=[3,1]) ((T.ext hb).ext hp) jb ((ZG _).1 jb) (gb.arr (L:=[]) (by simp) (n:=2) (cap:=2) (sz:=1) rfl (by omega) (Lr _)) rfl (by decide) (by decide) Qms QjV ((ZG _).1 Qj4)).mono ?_
 rintro r9 w9 ⟨gc,v9,rfl,ge⟩;obtain ⟨ra,rm,re,rfl,gg⟩:=ge;have V:=gg [] (by simp);have gh:qK [] w9.heap re se3:=by
  have h:=V.ed;rw[show (JG ⟨[1,3],cn3.st,cn3.mr,se3⟩).ed=se3 from Qj3] at h;exact h
 refine Qb<|x (Qp O O)<|x (Qp O O)<|xl O<|Qv (us:=qV) O λb8 ke gi gj gk=>xl O<|Qr (us:=[ra,.int .i64 (JG ⟨[1,3],cn3.st,cn3.mr,se3⟩).st,rm,re]) gk O O O O ⟨V.al.one,O,V.mr.one,V.ed.one,U⟩ λhq gl gm=>Qe ?_;have hr:Step [] w9 hq:=gi.then1 gl gj;have hs:=(hp.trans gc).trans hr;have hc:=hb.trans hs;have gn:=T.ext hc;have go:=S.ext hc
 have gp:=hY.ext hs;have gq:=gh.ext hr;refine QW (α:=Unit) [(0,0),(33,98)] (λz=>[(0,.bool true)]) (λz w'=>Step [] hq w') (by rfl) ?_ ?_
 ·refine Qx<|Qb<|xb (Q8 O O) (λht=>?_) (λht=>absurd Qgr ht);refine Qb<|x (Qs go O O)<|xl O<|QC (us:=[[.int .i64 0],[.int .i64 2]]) O O (by decide) (by simp) ⟨rfl,rfl,rfl,rfl,U⟩ λgr kf gs kg gt=>xl rfl<|QC (us:=[[.int .i64 1]]) rfl rfl (by decide) (by simp) ⟨rfl,rfl,U⟩ λgu kh hu ki gv =>
   x (QF ⟨O,O,O,U⟩)<|x (QF ⟨O,O,O,U⟩)<|x (QF ⟨O,O,O,U⟩)<|xl O<|QC (us:=[Qz (0,0,1),Qz (0,2,0),Qz (1,2,0)]) O O (by decide) (by exact (by decide:3*3≤1000000)) ⟨O,O,O,O,O,O,U⟩ λgw gx he kj gy=>?_
  have hv:=(gs.trans hu).trans he;have hL:Zu [] gx.heap (.slice (some ⟨gr,0,none⟩) 2 2) (.slice (some ⟨gu,0,none⟩) 1 1) (.slice (some ⟨gw,0,none⟩) 3 3) cn3 :=
   ⟨((gt.ext hu).ext he).arr (L:=[]) (by simp) (n:=2) (cap:=2) (sz:=1) rfl (by omega) (Nat.le_refl _),(gv.ext he).arr (L:=[]) (by simp) (n:=1) (cap:=1) (sz:=1) rfl (by omega) (Nat.le_refl _),gy.arr (L:=[]) (by simp) (n:=3) (cap:=3) (sz:=3) rfl (by omega) (Lr _)⟩
  refine x (QF ⟨O,O,O,O,U⟩)<|xl O<|xf<|(Qg3 (a:=cn3) (gn.ext hv) hL).mono ?_;rintro kk kn ⟨rfl,gz⟩;have hw:=hv.trans gz;have Y:=gp.ext hw;refine x (Qo O)<|Qb<|Qb<|xb (Q8 O O) (λhy=>?_) (λhy=>absurd O hy);refine x (Qo O)<|Qb<|Qb<|xb (Q8 O O) (λhz=>?_) (λhz=>absurd O hz);refine x (Qo O)<|Qb<|Qb<|xb (Q8 O O) (λh0=>?_) (λh0=>absurd O h0)
  refine x (Qo O)<|Qb<|Qb<|xb (Q8 O O) (λh1=>?_) (λh1=>absurd O h1);refine x (Qo O)<|Qb<|Qb<|x (Qq Y.arr O)<|xb (Q8 O O) (λh5=>?_) (λh5=>absurd O h5);refine x (Qo O)<|Qb<|Qb<|xig (g:=Zz) (i:=0) Ku Y.arr O O (by simp) λko g0=>x (Qu g0 rfl)<|xl rfl<|QC (us:=[[.int .i64 0]]) rfl rfl (by decide) (by simp) ⟨rfl,rfl,U⟩ λkp kq h6 kr g2 =>
   xl rfl<|xf<|(KX (l:=G.2) (l':=[0]) ((Y.each G (by simp)).ext h6) (g2.arr (L:=[]) (by simp) (n:=1) (cap:=1) (sz:=1) rfl (by omega) (Lr _))).mono ?_
  rintro kt ku ⟨h7,g3⟩;rw[hZ,decide_eq_true rfl] at h7;subst h7;have h8:=h6.trans g3;have h9:=Y.ext h8;refine x (Qo O)<|Qb<|Qb<|xig (g:=Zz) (i:=1) Ku h9.arr O O (by simp) λkv g4=>x (Qu g4 rfl)<|xl rfl<|QC (us:=[[.int .i64 2],[.int .i64 0]]) rfl rfl (by decide) (by simp) ⟨rfl,rfl,rfl,rfl,U⟩ λkw ky hA kz g5 =>
   xl rfl<|xf<|(KX (l:=H.2) (l':=[2,0]) ((h9.each H (by simp)).ext hA) (g5.arr (L:=[]) (by simp) (n:=2) (cap:=2) (sz:=1) rfl (by omega) (Lr _))).mono ?_
  rintro k0 k4 ⟨hB,g6⟩;rw[ga,decide_eq_true rfl] at hB;subst hB;have hf:=(hw.trans h8).trans (hA.trans g6);have hD:=gm.ext hf;have hE:=gq.ext hf;refine x (Qo O)<|Qb<|Qb<|xb (Q8 O O) (λhF=>?_) (λhF=>absurd O hF);refine x (Qo O)<|Qb<|x (Qa O)<|x (Qd hD O O)<|x (Qq hE O)<|xb (Q8 O O) (λhG=>?_) (λhG=>absurd O hG)
  refine x (Qo O)<|Qb<|x (Qa O)<|x (Qd hD O O)<|xie (i:=1) hE O O (by decide) λk5 g7=>x (QI g7 O O)<|x (QF ⟨O,O,O,U⟩)<|xb (yo (p:=(0,3,1)) (q:=(0,3,1)) O O) (λhH=>?_) (λhH=>absurd O hH);refine x (Qo O)<|Qe ?_;exact ⟨(),Z,hf⟩
 rintro z g k6 g8;exact Qn ⟨[.bool true],Z,O,(hT.trans hc).trans g8⟩
theorem Qee (w:World):QJ prog 128 [] w λr w'=>r=.bool true∧Step [] w w':=by
 refine QJ.of_W func128 O ntmps128 results128 (by simp) ?_;refine Qc<|Qe<|Qc<|xl O<|xf<|(QdG w).mono ?_;rintro G H ⟨rfl,E⟩;refine Qe ?_;exact Qn ⟨[.bool true],Z,O,E⟩
theorem CL.cel_rq {c:CL} {k:Zw} (h:c.cel=k) (v:Value) (qs:List IV):(CL.mk c.ve c.vc v c.vx c.vk c.ev c.co qs c.ex c.cs).cel={ k with rq:=qs.map IV.it }:=by rw[←h];rfl
theorem CL.cel_ex {c:CL} {k:Zw} (h:c.cel=k) (v:Value) (qs:List XV):(CL.mk c.ve c.vc c.vr v c.vk c.ev c.co c.rq qs c.cs).cel={ k with ex:=qs.map XV.x }:=by rw[←h];rfl
theorem CL.cel_cs {c:CL} {k:Zw} (h:c.cel=k) (v:Value) (qs:List KV):(CL.mk c.ve c.vc c.vr c.vx v c.ev c.co c.rq c.ex qs).cel={ k with cs:=qs.map KV.k }:=by rw[←h];rfl
theorem QaU {w:World}{c:CL}{k:Zw}(h:Zx [] w.heap c) (hc:c.cel=k) (he:Yy k=0) (T:Kb w 4096) :
  QJ prog 27 [c.val] w λr w'=>Step [] w w'∧∃va vm ve G H I E,r=.tuple #[.agg #[va,.int .i64 (spc k).a.st,vm,ve,G,H,I,E],.int .i64 0]∧ZP [va,.int .i64 (spc k).a.st,vm,ve,G,H,I,E]∧Zo [] w'.heap E (spc k).fb.length 4 ((spc k).fb.flatMap ZA):=by
 refine (KJ h T).mono ?_;rintro r w' ⟨V,v,rfl,⟨us,Y,_,J⟩,S⟩;rw[hc] at S ⊢;obtain ⟨va,vm,ve,G,H,I,E,cos,rqs,rfl,_,_,hA⟩:=S he;have ha:us=[va,.int .i64 (spc k).a.st,vm,ve,G,H,I,E]:=by
  have h9:=congrArg (λv=>match v with | Value.agg cs=>cs.toList | _=>[]) Y
  simpa using h9.symm
 rw[ha] at J;exact ⟨V,va,vm,ve,G,H,I,E,by rw[he],J,(hA [] (by simp)).2.2.2.2⟩
theorem QkW {w:World}{c:CL}{k:Zw}(h:Zx [] w.heap c) (hc:c.cel=k) (he:Yy k=0) (E:(spc k).a.st<4096) (h1:QcT k=true) (G:Kb w 4096) :
  QJ prog 197 [c.val] w λr w'=>Step [] w w'∧∃xa xm xe vb,r=.tuple #[.agg #[xa,.int .i64 ((spc k).a.st+1),xm,xe],vb,.int .i64 0]∧ZP [xa,xm,xe]∧Qt 3 w.heap.size w' vb (cmB k):=by
 subst hc;exact QaH h G he E h1
abbrev Qkg:LV:=[nS,.int .i64 0,nS,nS,nS,nS,nS,nS]
theorem Qk8 {P:Prop}{a b:Int}(e:a=b) (h:¬a=b):P:=absurd e h
set_option maxHeartbeats 8000000 in
theorem Qbh {w:World}(hj:Kb w 4096):QJ prog 127 [] w λr w'=>r=.bool true∧Step [] w w':=by
 refine QJ.of_W func127 O ntmps127 results127 (by simp) ?_;refine Qc<|Qe<|Qc<|xl O<|xf<|(XW 1 (by decide) w).mono ?_;rintro r1 w1 ⟨hN,I,rfl,g0,g2⟩;refine xl rfl<|xf<|(XW 2 (by decide) w1).mono ?_;rintro r2 w2 ⟨h6,J,rfl,g3,g4⟩;refine xl rfl<|xf<|(XW 2 (by decide) w2).mono ?_;rintro r3 w3 ⟨hl,c3,rfl,g5,g6⟩;have hn:=((g2 [] (by simp)).ext h6).ext hl
 have ho:=(g4 [] (by simp)).ext hl;have hp:=g6 [] (by simp);refine xl rfl<|Qv (us:=Yi) O λE w4 hO qf hP=>xl O<|Qv (us:=Yi) O λG w5 h7 qj hQ=>xl O<|Qv (us:=Yi) O λH w6 hr qk S=>?_;have ql:=hO.size;have qm:=h7.size;have qo:=hr.size;have qq:=hP.lt;have qr:=hQ.lt;have q0:=S.lt
 refine xl rfl<|Qr (us:=I.cells) ((hP.ext h7).ext hr) O O O O hn.ones λw7 hs g7=>xl O<|Qr (us:=J.cells) ((hQ.ext hr).step hs (by simp only[List.mem_singleton];omega)) O O O O ho.ones λw8 ht g8 =>
  xl rfl<|Qr (us:=c3.cells) ((S.step hs (by simp only[List.mem_singleton];omega)).step ht (by simp only[List.mem_singleton];omega)) O O O O hp.ones λw9 hu g9=>xe ?_
 have ha:Step [] w3 w9:=((((hO.trans h7).trans hr).then1 hs (by omega)).then1 ht (by omega)).then1 hu (by omega);have ka:=((hN.trans h6).trans hl).trans ha;have kb:=(g7.step ht (by simp only[List.mem_singleton];omega)).step hu (by simp only[List.mem_singleton];omega);have kc:=g8.step hu (by simp only[List.mem_singleton];omega)
 have S:∀b∈[E,G,H],w3.heap.size≤b∧b<w6.heap.size:=λb hb=>by
  simp only[List.mem_cons,List.not_mem_nil,or_false] at hb;rcases hb with rfl | rfl | rfl <;> omega
 have m1:∀b∈[E],b∈[E,G,H]:=by simp
 have m2:∀b∈[G],b∈[E,G,H]:=by simp
 have m3:∀b∈[H],b∈[E,G,H]:=by simp
 have hn:=(hn.up (L':=[E,G,H]) (λb hb=>.inr (S b hb).1)).ext ha;have ho:=(ho.up (L':=[E,G,H]) (λb hb=>.inr (S b hb).1)).ext ha;have hp:=(hp.up (L':=[E,G,H]) (λb hb=>.inr (S b hb).1)).ext ha;have q1:=ha.size;have q2:w6.heap.size≤w9.heap.size:=by have:=hs.size;have:=ht.size;have:=hu.size;omega
 have nB:∀b,w9.heap.size≤b→b∉[E,G,H]:=λb hb hm=>by have:=(S b hm).2;omega
 refine Qc<|xl O<|QC (us:=[[.int .i64 1]]) O O (by decide) (by simp) ⟨rfl,rfl,U⟩ λhv q3 hR q4 ke=>xl rfl<|QC (us:=[[.int .i64 0]]) rfl rfl (by decide) (by simp) ⟨rfl,rfl,U⟩ λhw q5 h8 za kf=>x (QF ⟨rfl,rfl,rfl,U⟩) <|
  x (ZV [(0,[.string K3]),(1,[.slice (some ⟨hv,0,none⟩) 1 1,.int .i64 1,.slice (some ⟨hw,0,none⟩) 1 1,nS])] ⟨O,O,O,O,U⟩) <|
  xl rfl<|QC (us:=[[.string K3,.slice (some ⟨hv,0,none⟩) 1 1,.int .i64 1,.slice (some ⟨hw,0,none⟩) 1 1,nS]]) O O (by decide) (by exact (by decide:1*5≤1000000)) ⟨O,O,U⟩ λhA kg hy zv kh=>?_
 have hc:=(hR.trans h8).trans hy;refine x (Qa O)<|xl O<|QG (j:=2) (u:=.slice (some ⟨hA,0,none⟩) 1 1) (kb.ext hc) O O (by simp) rfl λhB he ki=>xe ?_;have z0:=hR.size;have z2:=h8.size;have z3:=hy.size;have z4:=hc.size;have hf:Step [E,G,H] w9 hB:=hc.any.trans' (he.mono m1);have z5:=he.size
 have kj:Zx [E,G,H] hB.heap (CL.mk I.ve I.vc (.slice (some ⟨hA,0,none⟩) 1 1) I.vx I.vk I.ev I.co [⟨K3,⟨.slice (some ⟨hv,0,none⟩) 1 1,.slice (some ⟨hw,0,none⟩) 1 1,nS,yT.a⟩⟩] I.ex I.cs):=by
  have h9:=hn.st hf;refine ⟨h9.ev,h9.co,Y6.st (w:=kg) ⟨kh.arr (nB _ (by omega)) (n:=1) (cap:=1) (sz:=5) O (by decide) (Lr _),λq hq=>?_,λq hq=>?_⟩ (he.mono m1),h9.ex,h9.cs⟩
  ·rw[La.1 hq];exact ⟨((ke.ext h8).ext hy).arr (nB _ (by omega)) (n:=1) (cap:=1) (sz:=1) O (by decide) (Lr _),(kf.ext hy).arr (nB _ (by omega)) (n:=1) (cap:=1) (sz:=1) O (by decide) (Lr _),Zo.nil _ _ 3⟩
  rw[La.1 hq];exact YQ (by decide)
 refine Qc<|x (QF ⟨O,O,U⟩)<|x (QF ⟨O,O,U⟩)<|xl O<|QC (us:=[QQ (0,1),QQ (1,1)]) O O (by decide) (by exact (by decide:2*2≤1000000)) ⟨O,O,O,O,U⟩ λhC z9 hS hb24 kk=>x (QF ⟨O,O,U⟩) <|
  xl rfl<|QC (us:=[[.string JQ,.slice (some ⟨hC,0,none⟩) 2 2]]) O O (by decide) (by exact (by decide:1*2≤1000000)) ⟨O,O,U⟩ λhD kn hE hb26 ko=>?_
 have hg:=hS.trans hE;refine x (Qa O)<|xl O<|QG (j:=3) (u:=.slice (some ⟨hD,0,none⟩) 1 1) ((kc.step (hc.any.trans' he) (by simp only[List.mem_singleton];omega)).ext hg) O O (by simp) rfl λhF hz kp=>xe ?_;have hz14:=hS.size;have hz15:=hE.size;have hz1315:=hg.size;have hh:Step [E,G,H] hB hF:=hg.any.trans' (hz.mono m2);have hz16:=hh.size
 have hz913:=hf.size;have kq:Zx [E,G,H] hF.heap (CL.mk J.ve J.vc J.vr (.slice (some ⟨hD,0,none⟩) 1 1) J.vk J.ev J.co J.rq [⟨JQ,.slice (some ⟨hC,0,none⟩) 2 2,[(0,1),(1,1)]⟩] J.cs):=by
  have h9:=ho.st (hf.trans' hh);refine ⟨h9.ev,h9.co,h9.rq,qP.st (w:=kn) ⟨ko.arr (nB _ (by omega)) (n:=1) (cap:=1) (sz:=2) O (by decide) (Lr _),λq hq=>?_,λq hq=>?_⟩ (hz.mono m2),h9.cs⟩
  ·rw[La.1 hq];exact (kk.ext hE).arr (nB _ (by omega)) (n:=2) (cap:=2) (sz:=2) O (by decide) (Lr _)
  rw[La.1 hq];exact YQ (by decide)
 refine Qc<|x (QF ⟨O,O,U⟩)<|x (QF ⟨O,O,U⟩)<|xl O<|QC (us:=[QQ (0,1),QQ (1,1)]) O O (by decide) (by exact (by decide:2*2≤1000000)) ⟨O,O,O,O,U⟩ λhG w17 hT hb30 kr=>x (QF ⟨O,O,O,U⟩) <|
  xl rfl<|QC (us:=[[.string yC,.slice (some ⟨hG,0,none⟩) 2 2,.int .i64 1]]) O O (by decide) (by exact (by decide:1*3≤1000000)) ⟨O,O,U⟩ λhH kt hI hb32 ku=>?_
 have h0:=hT.trans hI;refine x (Qa O)<|xl O<|QG (j:=4) (u:=.slice (some ⟨hH,0,none⟩) 1 1) (((g9.step (hc.any.trans' he) (by simp only[List.mem_singleton];omega)).step (hg.any.trans' hz) (by simp only[List.mem_singleton];omega)).ext h0) O O (by simp) rfl λV h1 kv=>xe ?_;have hz17:=hT.size;have hz18:=hI.size
 have h2:Step [E,G,H] hF V:=h0.any.trans' (h1.mono m3);have kw:Zx [E,G,H] V.heap (CL.mk c3.ve c3.vc c3.vr c3.vx (.slice (some ⟨hH,0,none⟩) 1 1) c3.ev c3.co c3.rq c3.ex [⟨yC,.slice (some ⟨hG,0,none⟩) 2 2,[(0,1),(1,1)],1⟩]):=by
  have h9:=hp.st ((hf.trans' hh).trans' h2);refine ⟨h9.ev,h9.co,h9.rq,h9.ex,qG.st (w:=kt) ⟨ku.arr (nB _ (by omega)) (n:=1) (cap:=1) (sz:=3) O (by decide) (Lr _),λq hq=>?_,λq hq=>?_⟩ (h1.mono m3)⟩
  ·rw[La.1 hq];exact (kr.ext hI).arr (nB _ (by omega)) (n:=2) (cap:=2) (sz:=2) O (by decide) (Lr _)
  rw[La.1 hq];exact YQ (by decide)
 have hU:Zx [] V.heap _:=((kj.st hh).st h2).up (L':=[]) (by simp);have ky:Zx [] V.heap _:=(kq.st h2).up (L':=[]) (by simp);have kz:Zx [] V.heap _:=kw.up (L':=[]) (by simp);have hV:=(ki.step (hg.any.trans' hz) (by simp only[List.mem_singleton];omega)).step (h0.any.trans' h1) (by simp only[List.mem_singleton];omega)
 have k0:=kp.step (h0.any.trans' h1) (by simp only[List.mem_singleton];omega);have hW:Step [] w V:=ka.then ((hf.trans' hh).trans' h2) (λb hb=>.inr (by have:=(S b hb).1;have:=((hN.trans h6).trans hl).size;omega));have hX:=CL.cel_rq g0 (.slice (some ⟨hA,0,none⟩) 1 1) [⟨K3,⟨.slice (some ⟨hv,0,none⟩) 1 1,.slice (some ⟨hw,0,none⟩) 1 1,nS,yT.a⟩⟩]
 have k4:=CL.cel_ex g3 (.slice (some ⟨hD,0,none⟩) 1 1) [⟨JQ,.slice (some ⟨hC,0,none⟩) 2 2,[(0,1),(1,1)]⟩];have k5:=CL.cel_cs g5 (.slice (some ⟨hH,0,none⟩) 1 1) [⟨yC,.slice (some ⟨hG,0,none⟩) 2 2,[(0,1),(1,1)],1⟩];refine Qc<|x (Qs hV O O)<|xl O<|xf<|(QaU (k:=k1C) hU hX QlR (hj.ext hW)).mono ?_;rintro r20 k6 ⟨k7,sa,sm,se,s1,s2,s3,s4,rfl,k8,hY⟩;rw[QlQ] at hY
 refine Qb<|x (Qp O O)<|x (Qp O O)<|xl O<|Qv (us:=Qkg) O λb4 w21 k9 ma mc=>xl O<|Qr (us:=[sa,.int .i64 (spc k1C).a.st,sm,se,s1,s2,s3,s4]) mc O O O O k8 λmf mg mh=>Qe ?_;have hZ:Step [] k6 mf:=k9.then1 mg ma;have h3:=k7.trans hZ;have ga:=hW.trans h3
 refine Qc<|x (Qs (hV.ext h3) O O)<|xl O<|xf<|(QkW (k:=k1C) (hU.ext h3) hX QlR (by rw[Qjv];decide) Qkn (hj.ext ga)).mono ?_;rintro r23 gb ⟨mj,xa,xm,mo,vb,rfl,hJ,gc⟩;rw[Qko] at gc;have mq:QL [] gb.heap vb [2]:=Qt.ints (L:=[]) gc (by simp) (by simp)
 refine Qb<|x (Qp O O)<|x (Qp O O)<|x (Qp O O)<|xl O<|Qv (us:=qV) O λb6 w24 mu mv mw=>xl O<|Qr (us:=[xa,.int .i64 ((spc k1C).a.st+1),xm,mo]) mw O O O O ⟨hJ.1,O,hJ.2.1,hJ.2.2.1,U⟩ λmy mz m0=>x Qh<|Qe ?_;have ge:Step [] gb my:=mu.then1 mz mv;have h4:=mj.trans ge;have hK:=h3.trans h4;have gg:=ga.trans h4
 refine Qc<|x (Qs (k0.ext hK) O O)<|xl O<|xf<|(QaU (k:=k2C) (ky.ext hK) k4 QmF (hj.ext gg)).mono ?_;rintro r26 m4 ⟨m5,ta,tm,te,t1,t2,t3,t4,rfl,m6,gh⟩;rw[QlO] at gh;refine Qb<|x (Qp O O)<|x (Qp O O)<|xl O<|Qv (us:=Qkg) O λb9 w27 m7 m8 m9=>xl O<|Qr (us:=[ta,.int .i64 (spc k2C).a.st,tm,te,t1,t2,t3,t4]) m9 O O O O m6 λpa pc pd=>Qe ?_
 have gi:Step [] m4 pa:=m7.then1 pc m8;have Y:=m5.trans gi;have gj:=hK.trans Y;have gk:=gg.trans Y;refine Qc<|x (Qs (kv.ext gj) O O)<|xl O<|xf<|(QaU (k:=k3C) (kz.ext gj) k5 QmE (hj.ext gk)).mono ?_;rintro r29 pf ⟨pg,ua,um,ue,u1,u2,u3,u4,rfl,ph,gl⟩;rw[QlM] at gl
 refine Qb<|x (Qp O O)<|x (Qp O O)<|xl O<|Qv (us:=Qkg) O λb11 w30 pj pm pn=>xl O<|Qr (us:=[ua,.int .i64 (spc k3C).a.st,um,ue,u1,u2,u3,u4]) pn O O O O ph λgm po pp=>Qe ?_;have gn:Step [] pf gm:=pj.then1 po pm;have T:=pg.trans gn;have pt:=gk.trans T;have pu:=((mh.ext h4).ext Y).ext T;have pw:=(m0.ext Y).ext T
 have go:=pd.ext T;have pz:=((((hY.ext hZ).ext h4).ext Y).ext T);have p0:=(gh.ext gi).ext T;have p1:=gl.ext gn;have p2:=((mq.ext ge).ext Y).ext T;refine QW (α:=Unit) [(0,0),(55,105)] (λz=>[(0,.bool true)]) (λz w'=>Step [] gm w') (by rfl) ?_ ?_
 ·refine Qx<|Qb<|xb (Q8 O O) (λgp=>?_) (λgp=>absurd O gp);refine Qb<|Qb<|xb (Q8 O O) (λgq=>?_) (λgq=>absurd O gq);refine x (Qo O)<|Qb<|Qb<|xb (Q8 O O) (λgr=>?_) (λgr=>absurd O gr);refine x (Qo O)<|Qb<|Qb<|xb (Q8 O O) (λgs=>?_) (λgs=>absurd O gs)
  refine x (Qo O)<|Qb<|x (Qa O)<|x (Qd pu O O)<|x (QF ⟨O,O,O,O,U⟩)<|xl O<|QC (us:=[ZA ⟨1,3,0,1⟩]) O O (by decide) (by exact (by decide:1*4≤1000000)) ⟨O,O,U⟩ λb73 w32 gt hb73 p3 =>
   xl rfl<|xf<|(VP (l:=[⟨1,3,0,1⟩]) (pz.ext gt) (p3.arr (L:=[]) (by simp) (n:=1) (cap:=1) (sz:=4) rfl (by decide) (Lr _))).mono ?_
  rintro r74 w33 ⟨rfl,p4⟩;have hL:=gt.trans p4;refine x (Qo O)<|Qb<|x (Qa O)<|x (Qd (pw.ext hL) O O)<|xb (Q8 O O) (λgu=>?_) (λgu=>Qk8 (by rw[Qjv];rfl) gu);refine x (Qo O)<|Qb<|Qb<|xl O<|QC (us:=[[.int .i64 2]]) O O (by decide) (by simp) ⟨rfl,rfl,U⟩ λb83 w34 gv hb83 p5 =>
   xl rfl<|xf<|(Kh (l:=[2]) (l':=[2]) ((p2.ext hL).ext gv) (p5.arr (L:=[]) (by simp) (n:=1) (cap:=1) (sz:=1) rfl (by omega) (Lr _))).mono ?_
  rintro r84 w35 ⟨gw,p6⟩;rw[decide_eq_true rfl] at gw;subst gw;have h5:=hL.trans (gv.trans p6);refine x (Qo O)<|Qb<|x (Qa O)<|x (Qa O)<|x (Qd (go.ext h5) O O)<|xb (Q8 O O) (λgx=>?_) (λgx=>Qk8 QlN gx)
  refine x (Qo O)<|Qb<|x (Qa O)<|x (Qd (go.ext h5) O O)<|x (QF ⟨O,O,O,O,U⟩)<|xl O<|QC (us:=[ZA ⟨3,1,0,-1⟩]) O O (by decide) (by exact (by decide:1*4≤1000000)) ⟨O,O,U⟩ λb96 w36 gy hb96 p7 =>
   xl rfl<|xf<|(VP (l:=[⟨3,1,0,-1⟩]) ((p0.ext h5).ext gy) (p7.arr (L:=[]) (by simp) (n:=1) (cap:=1) (sz:=4) rfl (by decide) (Lr _))).mono ?_
  rintro r97 w37 ⟨rfl,p8⟩;have hM:=h5.trans (gy.trans p8);refine x (Qo O)<|Qb<|x (Qa O)<|x (Qd (pp.ext hM) O O)<|x (QF ⟨O,O,O,O,U⟩)<|xl O<|QC (us:=[ZA ⟨3,2,0,-1⟩]) O O (by decide) (by exact (by decide:1*4≤1000000)) ⟨O,O,U⟩ λb103 w38 gz hb103 p9 =>
   xl rfl<|xf<|(VP (l:=[⟨3,2,0,-1⟩]) ((p1.ext hM).ext gz) (p9.arr (L:=[]) (by simp) (n:=1) (cap:=1) (sz:=4) rfl (by decide) (Lr _))).mono ?_
  rintro r104 w39 ⟨rfl,qb⟩;refine x (Qo O)<|Qe ?_;exact ⟨(),Z,hM.trans (gz.trans qb)⟩
 rintro z g w40 qc;exact Qn ⟨[.bool true],Z,O,pt.trans qc⟩
end Go.Proofs.YtdffckgdcegpaaaGreatDoor
namespace Go.Proofs
open Go.Proofs.Tryz
open Go.Shelf
def Tryz.sortRm_ren:Go.Shelf.Ren:=⟨λ| 6=>215 | 15=>176 | 14=>266 | 28=>229 | 29=>230 | 20=>288 | 21=>289 | 22=>290 | 23=>291 | 24=>292 | 25=>293 | 26=>294 | 27=>295 | 46=>313 | 47=>268 | 48=>269 | 49=>314 | 50=>315 | 57=>322 | n=>n,λ| 22=>166 | 24=>320 | 25=>326 | 3=>3 | 39=>269 | 0=>0 | 53=>338 | 55=>340 | 4=>4 | 46=>332 | 45=>331 | 50=>178 | 5=>5 | 9=>9 | 66=>372 | 70=>376 | 76=>401 | 77=>381 | n=>n,λ| n=>n⟩
theorem Tryz.sortRm:Go.Proofs.SlLaysF0.n6 prog Tryz.sortRm_ren:={
 mixed:=by kernel_rfl
 f6:=⟨Tryz.f215.name,by decide,func215.trans (congrArg some (by kernel_rfl))⟩
 f14:=⟨Tryz.f266.name,by decide,func266.trans (congrArg some (by kernel_rfl))⟩
 f15:=func176.trans (congrArg some (by kernel_rfl))
 f20:=⟨Tryz.f288.name,by decide,func288.trans (congrArg some (by kernel_rfl))⟩
 f21:=⟨Tryz.f289.name,by decide,func289.trans (congrArg some (by kernel_rfl))⟩
 f22:=⟨Tryz.f290.name,by decide,func290.trans (congrArg some (by kernel_rfl))⟩
 f23:=⟨Tryz.f291.name,by decide,func291.trans (congrArg some (by kernel_rfl))⟩
 f24:=⟨Tryz.f292.name,by decide,func292.trans (congrArg some (by kernel_rfl))⟩
 f25:=⟨Tryz.f293.name,by decide,func293.trans (congrArg some (by kernel_rfl))⟩
 f26:=⟨Tryz.f294.name,by decide,func294.trans (congrArg some (by kernel_rfl))⟩
 f27:=⟨Tryz.f295.name,by decide,func295.trans (congrArg some (by kernel_rfl))⟩
 f28:=func229.trans (congrArg some (by kernel_rfl))
 f29:=func230.trans (congrArg some (by kernel_rfl))
 f46:=⟨Tryz.f313.name,by decide,func313.trans (congrArg some (by kernel_rfl))⟩
 f47:=func268.trans (congrArg some (by kernel_rfl))
 f48:=func269.trans (congrArg some (by kernel_rfl))
 f49:=⟨Tryz.f314.name,by decide,func314.trans (congrArg some (by kernel_rfl))⟩
 f50:=⟨Tryz.f315.name,by decide,func315.trans (congrArg some (by kernel_rfl))⟩
 f57:=⟨Tryz.f322.name,by decide,func322.trans (congrArg some (by kernel_rfl))⟩
 t0:=underlying0
 a0:=Tryz.isAgg0
 z0:=Tryz.sizeOf0
 v0:=Tryz.zeroValue0
 t3:=underlying3
 a3:=Tryz.isAgg3
 z3:=Tryz.sizeOf3
 v3:=Tryz.zeroValue3
 t4:=underlying4
 a4:=Tryz.isAgg4
 z4:=Tryz.sizeOf4
 v4:=Tryz.zeroValue4
 t5:=underlying5
 a5:=Tryz.isAgg5
 z5:=Tryz.sizeOf5
 v5:=Tryz.zeroValue5
 t9:=underlying9
 a9:=Tryz.isAgg9
 z9:=Tryz.sizeOf9
 v9:=Tryz.zeroValue9
 t22:=underlying166
 a22:=Tryz.isAgg166
 z22:=Tryz.sizeOf166
 v22:=Tryz.zeroValue166
 t25:=underlying326
 a25:=Tryz.isAgg326
 z25:=Tryz.sizeOf326
 v25:=Tryz.zeroValue326
 t39:=underlying269
 a39:=Tryz.isAgg269
 z39:=Tryz.sizeOf269
 v39:=Tryz.zeroValue269
 t45:=underlying331
 a45:=Tryz.isAgg331
 z45:=Tryz.sizeOf331
 v45:=Tryz.zeroValue331
 t46:=underlying332
 a46:=Tryz.isAgg332
 z46:=Tryz.sizeOf332
 v46:=Tryz.zeroValue332
 t50:=underlying178
 a50:=Tryz.isAgg178
 z50:=Tryz.sizeOf178
 v50:=Tryz.zeroValue178
 t53:=underlying338
 a53:=Tryz.isAgg338
 z53:=Tryz.sizeOf338
 v53:=Tryz.zeroValue338
 t55:=underlying340
 a55:=Tryz.isAgg340
 z55:=Tryz.sizeOf340
 v55:=Tryz.zeroValue340
 t66:=underlying372
 a66:=Tryz.isAgg372
 z66:=Tryz.sizeOf372
 v66:=Tryz.zeroValue372
 t70:=underlying376
 a70:=Tryz.isAgg376
 z70:=Tryz.sizeOf376
 v70:=Tryz.zeroValue376
 t76:=underlying401
 a76:=Tryz.isAgg401
 z76:=Tryz.sizeOf401
 v76:=Tryz.zeroValue401
 t77:=underlying381
 a77:=Tryz.isAgg381
 z77:=Tryz.sizeOf381
 v77:=Tryz.zeroValue381 }
end Go.Proofs
namespace Go.Proofs.YtdffckgdcegpaaaGreatDoor
open Go.Lg
theorem QkN (lf:Lf) (x:Int) (z:LI×LI) (y:Int):dsE lf x z y=if lft lf y=true then bwE x z y else z:=by
 unfold dsE bwE;by_cases h:lft lf y=true <;> by_cases h2:cget z.1 y.toNat<0 <;> simp[h,h2]
structure DsI (n:Nat) (z:LI×LI):Prop where
 ok:Qhg n z.1 z.2
 cnt:neg z.1+z.2.length=n
 s0:Qla z.1 z.2
theorem DsI.le {n:Nat}{z:LI×LI}(h:DsI n z):z.2.length≤n:=by have:=h.cnt;omega
theorem Qgy {n:Nat}{lf:Lf}{x y:Int}{z:LI×LI}(h:DsI n z) (hx:0≤x∧x<(n:Int)) (E:0≤cget z.1 x.toNat) (hy:0≤y∧y<(n:Int)) :
  DsI n (dsE lf x z y)∧0≤cget (dsE lf x z y).1 x.toNat:=by
 rw[QkN];split
 ·obtain ⟨h1,h2,h3⟩:=Qk2 h.ok hx E hy;exact ⟨⟨h1,by have:=h.cnt;omega,QgS h.ok E hy h.s0⟩,h3⟩
 exact ⟨h,E⟩
theorem QiP (lf:Lf) (x:Int) (z:LI×LI) (y:Int):∃r,(dsE lf x z y).2=z.2++r:=by
 unfold dsE;split
 ·exact ⟨[y],O⟩
 exact ⟨[],by simp⟩
theorem QiO {n:Nat}{lf:Lf}{x:Int}(hx:0≤x∧x<(n:Int)):∀(l:LI) (z:LI×LI),DsI n z→0≤cget z.1 x.toNat→(∀y∈l,0≤y∧y<(n:Int)) →
  DsI n (l.foldl (dsE lf x) z)∧∃r,(l.foldl (dsE lf x) z).2=z.2++r
 | [],z,h,_,_=>⟨h,[],by simp⟩
 | y::l,z,h,E,hl=>by
  obtain ⟨h1,h2⟩:=Qgy (lf:=lf) h hx E (hl y Ln);obtain ⟨h3,r2,G⟩:=QiO hx l _ h1 h2 (λy hy=>hl y (Ll _ hy));obtain ⟨H,h5⟩:=QiP lf x z y;exact ⟨h3,H++r2,by rw[LO,G,h5,LA]⟩
theorem Qgx {E:List Ed}{lf:Lf}{f i:Nat}{z:LI×LI}(h:¬i<z.2.length):dsL E lf f i z=z:=by
 cases f with
 | zero=>rfl
 | succ f=>rw[dsL,if_neg h]
theorem Qc0 {n:Nat}{l:LI}{x:Int}(E:0≤x):(Uj n l).set x.toNat 0=Uj n (l++[x]):=by
 apply Mk
 ·simp[Uj]
 intro i h2 h3;rw[Nm];by_cases e:x.toNat=i
 ·have:(i:Int)=x:=by omega
  rw[if_pos e];simp[Uj,this]
 have:(i:Int)≠x:=by omega
 rw[if_neg e];simp[Uj,this]
theorem Qah {a:QV}{lf:Lf}(hm:∀x∈a.mr,0≤x) (k:Nat):(a.mr.take k).foldl (jl lf) (List.replicate a.st.toNat (-1),[])=(Uj a.st.toNat ((a.mr.take k).filter (lft lf)),(a.mr.take k).filter (lft lf)):=by
 induction k with
 | zero =>
  simp only[List.take_zero,List.foldl_nil,List.filter_nil];congr 1;apply Mk
  ·simp[Uj]
  intro i h1 h2;simp[Uj]
 | succ k ih =>
  by_cases hk:k<a.mr.length
  ·rw[Le hk,MA,ih,L3];simp only[List.foldl_cons,List.foldl_nil,jl];by_cases hl:lft lf (a.mr[k]'hk)=true
   ·rw[if_pos hl,Qc0 (hm _ (Lh hk))];simp[hl]
   rw[if_neg hl];simp[hl]
  have e:a.mr.take (k+1)=a.mr.take k:=by rw[Lm (by omega),Lm (by omega)]
  rw[e];exact ih
theorem QkP {a:QV}{lf:Lf}(hm:∀x∈a.mr,0≤x):ds0 a lf=(Uj a.st.toNat (a.mr.filter (lft lf)),a.mr.filter (lft lf)):=by
 have:=Qah (lf:=lf) hm a.mr.length;rw[MU] at this;exact this
theorem Qh6 {n:Nat}(l:LI) (E:l.Nodup) (hb:∀x∈l,0≤x∧x<(n:Int)):neg (Uj n l)+l.length=n:=by
 have key:∀k,k≤l.length→neg (Uj n (l.take k))+k=n:=by
  intro k;induction k with
  | zero =>
   intro _;have e:Uj n (l.take 0)=List.replicate n (-1):=by
    apply Mk
    ·simp[Uj]
    intro i h1 h2;simp[Uj]
   rw[e];unfold neg;simp
  | succ k ih =>
   intro hk;have h1:=ih (by omega);have hx:=hb _ (Lh (show k<l.length by omega));rw[Le (show k<l.length by omega),←Qc0 hx.1];have G:(l[k]'(by omega)).toNat<(Uj n (l.take k)).length:=by rw[Vq];omega
   have S:=K4 (Uj n (l.take k)) (l[k]'(by omega)).toNat 0 G (by
    have e:(((l[k]'(by omega)).toNat:Nat):Int)=l[k]'(by omega):=by omega
    have H:(l[k]'(by omega))∉l.take k:=λh=>by
     obtain ⟨j,I,he⟩:=LE h;rw[MY] at he;have J:j<k:=by simp at I;omega
     have:=(LY.1 E) j k (by omega) (by omega) J;exact this he
    simp[Uj,e,H]) (Ny _)
   omega
 have:=key l.length (Lr _)
 rwa [MU] at this
theorem QkO {a:QV}{lf:Lf}{n:Nat}(E:Zr a) (G:a.st=(n:Int)):DsI n (ds0 a lf):=by
 have hb:∀x∈a.mr.filter (lft lf),0≤x∧x<(n:Int):=λx hx=>by rw[←G];exact E.mr x (Md.1 hx).1
 have e:a.st.toNat=n:=by omega
 rw[QkP (λx hx=>(E.mr x hx).1),e];refine ⟨Qk3 hb,Qh6 _ ((E.mri.imp (λh=>by omega)).filter _) hb,λx hx=>?_⟩;rw[Qi7 (hb x hx) hx];exact Ny _
def KA (l:Lf):Nat:=l.countP (· == true)
theorem QiY (l:Lf):KA l≤l.length:=List.countP_le_length
theorem QcO (l:Lf) (s:Int):(cut l s).length=l.length:=by simp[cut]
theorem qu:∀(xs:LI) (l:Lf),(xs.foldl cut l).length=l.length
 | [],_=>rfl
 | x::xs,l=>by rw[LO,qu xs,QcO]
theorem QcP:∀(l:Lf) (i:Nat),KA (l.set i false)+(if l.getD i false=true then 1 else 0)=KA l
 | [],i=>by simp[KA]
 | b::l,0=>by cases b <;> simp[KA]
 | b::l,i+1=>by
  have ih:=QcP l i;unfold KA at *;simp only[List.set_cons_succ,List.countP_cons,List.getD_cons_succ];omega
theorem QcQ (l:Lf) (s:Int):KA (cut l s)+(if lft l s=true then 1 else 0)=KA l:=QcP l s.toNat
theorem Qaj:∀(xs:LI) (l:Lf),KA (xs.foldl cut l)≤KA l
 | [],_=>Lr _
 | x::xs,l=>by
  have h1:=Qaj xs (cut l x);have h2:=QcQ l x;rw[LO];omega
theorem QgB {xs:LI}{l:Lf}(h:0<xs.length) (E:∀x∈xs,lft l x=true):KA (xs.foldl cut l)<KA l:=by
 cases xs with
 | nil=>simp at h
 | cons x xs =>
  have h1:=Qaj xs (cut l x);have h2:=QcQ l x;rw[if_pos (E x Ln)] at h2;rw[LO];omega
def Qg9 (a:QV) (lf:Lf) (out:List (Int×Int)):Prop:=∀p∈out,lft lf p.1=true∧∃e∈a.ed,e.1=p.1∧e.2.1=p.2
theorem Qie {a:QV}{ul:LI}{lf:Lf}{out:List (Int×Int)}{e:Ed}(h:Qg9 a lf out) (he:e∈a.ed):Qg9 a lf (JT ul lf out e)∧(JT ul lf out e).length≤out.length+1:=by
 unfold JT;split
 ·exact ⟨h,by omega⟩
 rename_i hc;split
 ·exact ⟨h,by omega⟩
 refine ⟨λp hp=>?_,by simp⟩;simp only[List.mem_append,List.mem_singleton] at hp;rcases hp with hp | rfl
 ·exact h p hp
 exact ⟨by cases hl:lft lf e.1 with | true=>rfl | false=>exact absurd (.inl hl) hc,e,he,rfl,rfl⟩
theorem U0 {a:QV}{ul:LI}{lf:Lf}:∀(l:List Ed) (out:List (Int×Int)),(∀e∈l,e∈a.ed)→Qg9 a lf out→Qg9 a lf (l.foldl (JT ul lf) out)∧(l.foldl (JT ul lf) out).length≤out.length+l.length
 | [],out,_,h=>⟨h,by simp⟩
 | e::l,out,hl,h=>by
  obtain ⟨h1,h2⟩:=Qie (ul:=ul) h (hl e Ln);obtain ⟨h3,E⟩:=U0 l _ (λe he=>hl e (Ll _ he)) h1;exact ⟨h3,by rw[LO,LM];omega⟩
theorem yK (a:QV) (ul:LI) (lf:Lf):Qg9 a lf (lost a ul lf)∧(lost a ul lf).length≤a.ed.length:=by
 have:=U0 (ul:=ul) (lf:=lf) a.ed [] (λ_ h=>h) (λp hp=>by cases hp);unfold lost;simpa using this
theorem Vr (lf:Lf):∀(l:LI) (i:Nat),(∀x∈KE lf i l,lft lf x=true∧(i:Int)≤x∧x<(i:Int)+l.length)∧(KE lf i l).length≤l.length
 | [],i=>⟨λx hx=>(by cases hx),Lr _⟩
 | d::l,i=>by
  obtain ⟨h1,h2⟩:=Vr lf l (i+1);unfold KE;split
  ·rename_i hc;refine ⟨λx hx=>?_,by simp;omega⟩;rcases Lc.1 hx with rfl | hx
   ·exact ⟨by unfold lft;simpa using hc.1,Ny _,by simp;omega⟩
   have:=h1 x hx;exact ⟨this.1,by omega,by simp only[List.length_cons];omega⟩
  refine ⟨λx hx=>?_,by simp;omega⟩;have:=h1 x hx;exact ⟨this.1,by omega,by simp only[List.length_cons];omega⟩
theorem Qfm {a:QV}{ul:LI}{lf:Lf}(x:Int) (hx:x∈nxs a ul lf):lft lf x=true:=by
 unfold nxs at hx;split at hx
 ·obtain ⟨p,hp,rfl⟩:=Ly.1 hx;exact ((yK a ul lf).1 p hp).1
 exact ((Vr lf (dsts a lf) 0).1 x hx).1
theorem Qds {a:QV}{ul:LI}{f:Nat}{lf:Lf}(h:(nxs a ul lf).length=0):qU a ul f lf=lf:=by
 cases f with
 | zero=>rfl
 | succ f=>rw[qU,if_pos h]
theorem Qdr {a:QV}{ul:LI}{f:Nat}{lf:Lf}(h:(nxs a ul lf).length≠0):qU a ul (f+1) lf=qU a ul f ((nxs a ul lf).foldl cut lf):=by rw[qU,if_neg h]
theorem Qfn {a:QV}{ul:LI}{lf:Lf}(h:(nxs a ul lf).length≠0):KA ((nxs a ul lf).foldl cut lf)<KA lf:=QgB (by omega) (λx hx=>Qfm x hx)
theorem Qdn {a:QV}(h:Zr a) (lf:Lf):Zr (rstr a lf) :=
 ⟨h.al,h.ali,h.st0,h.st1,h.mr,h.mri,λe he=>h.ed e (Md.1 he).1,h.edi.filter _⟩
def fst (a:QV):Int:=if a.st=0 then -1 else 0
def QjY (s:Option (Int×Int×Int)):Int×Int×Int:=s.getD (0,0,0)
def cdA (c:Zw):QV:=ya (tgA c) [] (unc c.ev)
def ccA (c:Zw):QV:=syA [tgA c,cdA c]
def own (c:Zw) (k:Bool):QV:=if k=true then ccA c else tgA c
end Go.Proofs.YtdffckgdcegpaaaGreatDoor
namespace Go.Lg
section
variable {P:Program} {K:Fr→World→Prop} {f:Fr} {w:World} {d:Option Nat} {ty:Nat} {ps:String} {af:Array Edge} {gd:Option (Nat×Bool)}
theorem UW {t:Nat}[h1:XC P t] {x y:Operand}{b T i:Nat}{l:List Bool}{u:Bool}(E:Q3 w.heap b T (l.map Value.bool)) (hx:ev f x=.pointer (some ⟨b,0+i*1,none⟩)) (hy:ev f y=.bool u) (hi:i<l.length)
  (G:∀w',Step [b] w w'→Q3 w'.heap b T ((l.set i u).map Value.bool)→K (QX f d undef) w'):XO P ⟨d,.store t x y,ty,ps,af,gd⟩ f w K:=by
 refine QG E hx hy (by simpa using hi) rfl λw' H I=>G w' H ?_;rw[List.map_set];simpa using I
theorem XK {t:Nat}[XC P t] {x:Operand}{b T i:Nat}{l:List Bool}(h:Q3 w.heap b T (l.map Value.bool)) (hx:ev f x=.pointer (some ⟨b,0+i*1,none⟩)) (hi:i<l.length) :
  (execOp (ev f) ⟨d,.load t x,ty,ps,af,gd⟩).run P w=.ok (.value (.bool (l[i]'hi))) w:=Qd h hx (by simp[hi])
variable {ops:List Oper} {C:World→Prop} {pl:List (Nat×Bool)} {i:Nat}
theorem pqB {b:Bool}(E:∀w',C w'→(execOp (ev f) (Q6 ops i)).run P w'=.ok (.value (.bool b)) w') (H:b=true→XP P ops C K pl (QX f (Q6 ops i).dst (.bool true)) w) (I:b=false→XP P ops C K pl (QX f (Q6 ops i).dst (.bool false)) w)
  (hd:qM (Q6 ops i)=true:=by rfl) (G:Yc ops f (Q6 ops i)=true:=by rfl):XP P ops C K ((i,true)::pl) f w:=by
 cases hb:b with
 | true=>rw[hb] at E;exact pq E (H hb) hd G
 | false=>rw[hb] at E;exact pq E (I hb) hd G
end
end Go.Lg
namespace Go.Proofs.YtdffckgdcegpaaaGreatDoor
open Go.Proofs.Tryz
open Go.Lg
def bA (n:Nat) (g:Nat→Bool):List Bool:=(List.range n).map g
theorem Qk6 (n:Nat) (g:Nat→Bool):(bA n g).length=n:=by simp[bA]
theorem Qk5 {n i:Nat}{g E:Nat→Bool}{u:Bool}(hu:u=E i) (h:∀j,j<n→j≠i→E j=g j):(bA n g).set i u=bA n E:=by
 apply Mk
 ·simp[bA]
 intro k h1 h2;rw[Nm];have hk:k<n:=by simpa[bA] using h2
 by_cases e:i=k
 ·rw[if_pos e,hu,e];simp[bA]
 rw[if_neg e];have:=h k hk (λG=>e G.symm);simp[bA,this]
theorem Qc1 (n:Nat):(List.replicate n (Value.bool false).cells.toList).flatten=(bA n (λi=>decide (i<0))).map Value.bool:=by
 apply Mk
 ·simp[Value.cells,bA]
 intro i h1 h2;simp[Value.cells,bA]
theorem VK {l:Lf}{s:Int}(h:s.toNat<l.length):l[s.toNat]'h=lft l s:=by unfold lft;simp[List.getD,h]
theorem Qig (n:Nat) (fb:LI):(lf0 n fb).length=n:=by unfold lf0;rw[qu];simp
instance:Bw prog 324 [nS,.int .i64 0,nS,nS,nS,.map none,nS] [(0,4),(4,1),(5,1),(6,1)]:=⟨by kernel_rfl,by decide⟩
structure Pz where
 va:Value
 vm:Value
 ve:Value
 a:QV
 vu:Value
 unc:LI
 mb:Nat
 mm:List (Int×Value)
 bl:Nat
 n:Nat
 rv:Nat→Value
abbrev Pz.cells (p:Pz):LV:=[p.va,.int .i64 p.a.st,p.vm,p.ve,p.vu,.map (some p.mb),.slice (some ⟨p.bl,0,none⟩) p.n p.n]
structure jn (L:LN) (H:Array Obj) (bp:Nat) (p:Pz):Prop where
 B:Q3 H bp 324 p.cells
 bL:bp∉L
 a:Zu L H p.va p.vm p.ve p.a
 u:QL L H p.vu p.unc
 M:Z3 Ky H p.mb p.mm
 mL:p.mb∉L
 g:∀s,s<p.n→(match mget p.mm ((s:Nat):Int) with | some u=>u | none=>nS)=p.rv s
 R:∀s,s<p.n→QL L H (p.rv s) (Yl p.a.ed s)
theorem jn.ext {L:LN}{w w':World}{bp:Nat}{p:Pz}(h:jn L w.heap bp p) (E:Step [] w w'):jn L w'.heap bp p:=⟨h.B.ext E,h.bL,h.a.ext E,h.u.ext E,h.M.ext E,h.mL,h.g,λs G=>(h.R s G).ext E⟩
theorem jn.st {L:LN}{w w':World}{bp:Nat}{p:Pz}(h:jn L w.heap bp p) (E:Step L w w'):jn L w'.heap bp p:=⟨h.B.step E h.bL,h.bL,h.a.st E,h.u.st E,h.M.step E h.mL,h.mL,h.g,λs G=>(h.R s G).st E⟩
theorem jn.up {L L':LN}{H:Array Obj}{bp:Nat}{p:Pz}(h:jn L H bp p) (E:∀b∈L',b∈L∨H.size≤b):jn L' H bp p :=
 ⟨h.B,λhm=>by rcases E _ hm with h1 | h1;exact h.bL h1;have:=h.B.lt;omega,h.a.up E,h.u.up E,h.M,λhm=>by rcases E _ hm with h1 | h1;exact h.mL h1;have:=h.M.lt;omega,h.g,λs G=>(h.R s G).up E⟩
structure PzQ (p:Pz):Prop where
 ok:Zr p.a
 n:p.a.st=(p.n:Int)
set_option maxHeartbeats 4000000 in
theorem QeJ {w:World}{va vm ve vr vu:Value}{a:QV}{rm unc:LI}{n:Nat}(h:Zu [] w.heap va vm ve a) (hA:Zr a) (hn:a.st=(n:Int)) (hr:QL [] w.heap vr rm) (go:∀x∈rm,0≤x∧x<a.st) (hu:QL [] w.heap vu unc) :
  QJ prog 213 [.agg #[va,.int .i64 a.st,vm,ve],vr,vu] w λr w'=>Step [] w w'∧∃bp p,r=.pointer (some ⟨bp,0,none⟩)∧p.a=a∧p.unc=unc∧p.n=n∧w.heap.size≤p.bl∧jn [p.bl] w'.heap bp p∧Q3 w'.heap p.bl 4 ((lf0 n rm).map Value.bool):=by
 have kp:=hA.st1;have gp:=hA.ed;have kq:=hA.ed_le;have kr:=hr.le;refine QJ.of_W func213 O ntmps213 results213 (by simp) ?_;refine Qc<|xl O<|QT (us:=[va,.int .i64 a.st,vm,ve]) O λb3 G Y kt hy=>Qe ?_;have ku:=hy.lt;have kv:=Y.size
 refine QW (α:=Nat×Nat×Nat) [(7,7),(13,20)] (λz=>[(7,.pointer (some ⟨z.1,0,none⟩))]) (λz w'=>Step [] G w'∧Q3 w'.heap z.1 324 [va,.int .i64 a.st,vm,ve,vu,.map (some z.2.1),.slice (some ⟨z.2.2,0,none⟩) n n] ∧
  Z3 Ky w'.heap z.2.1 []∧Q3 w'.heap z.2.2 4 ((bA n (λi=>decide (i<0))).map Value.bool)∧G.heap.size≤z.1∧G.heap.size≤z.2.1∧G.heap.size≤z.2.2∧z.1≠z.2.1∧z.1≠z.2.2∧z.2.1≠z.2.2) (by rfl) ?_ ?_
 ·have ha:Step [] G { G with drawn:=G.drawn+1 }:=Step.drew _ _
  refine Qjf (Step [] G) [(0,true),(1,true),(3,true),(4,true)] 2 5 [(5,false),(6,true),(7,false),(8,true)] [(2,false),(6,true),(7,false),(8,true)] mixed (by rfl) (by kernel_rfl) (Step.drew _ _) ?_;refine pq (λ_ hc=>Qs (hy.ext hc) O O)<|p (λ_=>Ql)<|p (λ_=>Qa O)<|pq (λ_ hc=>Qd (hy.ext hc) O O)<|pe ⟨⟨O,?_⟩,O,?_⟩
  ·refine Yn Ky λbm w2 I hC hR=>⟨ha.trans I,?_⟩;refine pk<|VF (n:=n) (congrArg (Value.int .i64) hn) (congrArg (Value.int .i64) hn) (by omega) λbl w3 J hD hB=>⟨(ha.trans I).trans J,?_⟩;rw[Qc1] at hB;refine p (λ_=>ZV [(0,[va,.int .i64 a.st,vm,ve]),(1,[vu]),(2,[.map (some bm)]),(3,[.slice (some ⟨bl,0,none⟩) n n])] ⟨O,O,hu.cells,O,O,O,O,O,U⟩)<|pk <|
    QT (us:=[va,.int .i64 a.st,vm,ve,vu,.map (some bm),.slice (some ⟨bl,0,none⟩) n n]) O λbp w4 E hE S=>⟨((ha.trans I).trans J).trans E,?_⟩
   refine p (λ_=>Qh)<|pe ?_;have gq:=hR.lt;have gr:=hB.lt;have gs:=I.size;have gt:=J.size;have gu:({ G with drawn:=G.drawn+1 }:World).heap.size=G.heap.size:=rfl
   exact ⟨(bp,bm,bl),Z,((ha.trans I).trans J).trans E,S,(hR.ext J).ext E,hB.ext E,by simp only[];omega,by simp only[];omega,by simp only[];omega,by simp only[];omega,by simp only[];omega,by simp only[];omega⟩
  refine VF (n:=n) (congrArg (Value.int .i64) hn) (congrArg (Value.int .i64) hn) (by omega) λbl w2 I hD hB=>⟨ha.trans I,?_⟩;rw[Qc1] at hB;refine pk<|Yn Ky λbm w3 J hC hS=>⟨(ha.trans I).trans J,?_⟩;refine p (λ_=>ZV [(0,[va,.int .i64 a.st,vm,ve]),(1,[vu]),(2,[.map (some bm)]),(3,[.slice (some ⟨bl,0,none⟩) n n])] ⟨O,O,hu.cells,O,O,O,O,O,U⟩)<|pk <|
   QT (us:=[va,.int .i64 a.st,vm,ve,vu,.map (some bm),.slice (some ⟨bl,0,none⟩) n n]) O λbp w4 E hE S=>⟨((ha.trans I).trans J).trans E,?_⟩
  refine p (λ_=>Qh)<|pe ?_;have gq:=hS.lt;have gr:=hB.lt;have gs:=I.size;have gt:=J.size;have gu:({ G with drawn:=G.drawn+1 }:World).heap.size=G.heap.size:=rfl
  exact ⟨(bp,bm,bl),Z,((ha.trans I).trans J).trans E,S,hS.ext E,(hB.ext J).ext E,by simp only[];omega,by simp only[];omega,by simp only[];omega,by simp only[];omega,by simp only[];omega,by simp only[];omega⟩
 rintro ⟨bp,bm,bl⟩ g w4 ⟨E,S,hz,h0,hE,hC,hD,hT,hU,hF⟩;simp only[] at S hz h0 hE hC hD hT hU hF;have kw:=S.lt;have ky:=hz.lt;have kz:=h0.lt;have hG:=Y.trans E;have k0:=E.size;have hq:bp∉[bl]:=by simpa using hU
 have hH:bm∉[bl]:=by simpa using hF
 have h4:=h.ext hG;have k4:=hr.ext hG;refine Qf<|Qc<|Qb<|x (QH O)<|x (Qa O)<|x (Qd S O O)<|x (Qq (L:=[]) (h0.arr (by simp) (n:=n) (cap:=n) (sz:=1) (by simp[bA]) (by omega) (Lr _)) rfl)<|Qb<|xe ?_
 refine Qg<|Qy (α:=Nat) [(8,8),(26,35)] (λz=>[(26,.int .i64 z)]) (λz w'=>z≤n∧Step [bl] w4 w'∧Q3 w'.heap bl 4 ((bA n (λi=>decide (i<z))).map Value.bool)) (λz=>n - z) (by rfl) 0 Z ⟨Lk _,Step.refl _ _,h0⟩ ?_;rintro k g w5 ⟨hk,hh,hI⟩;refine Qc<|x (QA O O)<|xe<|Qf<|QE O (λhJ=>?_) (λhJ=>?_)
 ·refine Qw ?_;have k5:k=n:=by have gv:¬(k:Int)<(n:Int):=hJ;omega
  have gw:bA n (λi=>decide (i<k))=(rm.take 0).foldl cut (List.replicate n true):=by
   apply Mk
   ·simp[bA]
   intro i h1 h2;have:i<n:=by simpa[bA] using h1
   simp[bA];omega
  rw[gw] at hI;have k6:∀b∈[bl],b<G.heap.size→b∈([]:LN):=λb hb V=>by simp only[List.mem_singleton] at hb;omega
  have hV:QL [bl] G.heap vr rm:=(hr.ext Y).up (λb hb=>.inr (by simp only[List.mem_singleton] at hb;omega));have k7:QL [bl] G.heap vu unc:=(hu.ext Y).up (λb hb=>.inr (by simp only[List.mem_singleton] at hb;omega));have gx:Zu [bl] G.heap va vm ve a:=(h.ext Y).up (λb hb=>.inr (by simp only[List.mem_singleton] at hb;omega));have hW:=S.step hh hq;have k8:=hz.step hh hH
  refine Qf<|Qc<|Qb<|x (Qq ((hV.ext E).st hh) O)<|Qb<|xe<|Qg<|Qy (α:=Nat) [(10,10),(38,48)] (λz=>[(38,.int .i64 z)]) (λz w'=>z≤rm.length∧Step [bl] w4 w'∧Q3 w'.heap bl 4 (((rm.take z).foldl cut (List.replicate n true)).map Value.bool)) (λz=>rm.length - z) (by rfl) 0 Z ⟨Lk _,hh,hI⟩ ?_;rintro j g w6 ⟨hj,H,hf⟩;refine Qc<|x (QA O O)<|xe ?_
  refine Qf<|QE O (λhK=>?_) (λhK=>?_)
  ·refine Qw ?_;have gy:rm.length≤j:=by have h3:¬(j:Int)<(rm.length:Int):=hK;omega
   rw[Lm gy] at hf;have hX:=S.step H hq;have gz:=hz.step H hH;have k9:=hf.lt;refine Qf<|Qc<|x (Qa O)<|x (Qd ((hy.ext E).step H (by simp only[List.mem_singleton];omega)) O O)<|x (Qq ((gx.ext E).st H).ed O)<|Qb<|xe ?_;have ma:=H.size
   refine Qg<|Qy (α:=Nat×(Nat→Value)×List (Int×Value)) [(12,12),(52,73)] (λz=>[(52,.int .i64 z.1)]) (λz w'=>z.1≤a.ed.length∧Step [bm] w6 w'∧Z3 Ky w'.heap bm z.2.2∧Kp w6.heap.size w' n z.2.1 (Yl (a.ed.take z.1))∧∀s,s<n→(match mget z.2.2 ((s:Nat):Int) with | some u=>u | none=>nS)=z.2.1 s) (λz=>a.ed.length - z.1) (by rfl) (0,λ_=>nS,[]) ⟨rfl,U⟩
    ⟨Lk _,Step.refl _ _,gz,⟨λi _=>QO _ _ _ _,λi j _ _ _=>Dj.nil _⟩,λs _=>O⟩ ?_
   rintro ⟨i,rv,m⟩ g w7 ⟨hi,T,hL,hg,h5⟩;simp only[] at hi hL hg h5;have mc:=T.size;have hY:bp∉[bm]:=by simpa using hT
   have g0:bl∉[bm]:=by simpa using Ne.symm hF
   refine Qc<|x (QA O O)<|xe<|Qf<|QE O (λhM=>?_) (λhM=>?_)
   ·refine Qw ?_;have g2:a.ed.length≤i:=by have h6:¬(i:Int)<(a.ed.length:Int):=hM;omega
    rw[Lm g2] at hg;refine Qc<|Qb<|Qe ?_;have mf:∀b,b<w4.heap.size→b<w6.heap.size:=λb hb=>by omega
    refine Qn ⟨[_],Z,(hG.then1 H (by omega)).then1 T (by omega),bp,⟨va,vm,ve,a,vu,unc,bm,m,bl,n,rv⟩,O,O,O,O,by simp only[];omega,⟨hX.step T hY,hq,?_,?_,hL,hH,h5,λs hs=>QR (hg.own s hs) (LS (VN a.ed s) (by omega)) (λb hb hm=>?_)⟩,hf.step T g0⟩
    ·have h9:Zu [bl,bm] w7.heap va vm ve a:=((((h.ext Y).up (L':=[bl,bm]) (λb hb=>.inr (by simp only[List.mem_cons,List.not_mem_nil,or_false] at hb;omega))).ext E).st (H.mono (by simp))).st (T.mono (by simp));exact h9.up (by simp)
    ·have h9:QL [bl,bm] w7.heap vu unc:=((((hu.ext Y).up (L':=[bl,bm]) (λb hb=>.inr (by simp only[List.mem_cons,List.not_mem_nil,or_false] at hb;omega))).ext E).st (H.mono (by simp))).st (T.mono (by simp));exact h9.up (by simp)
    have:=(Qk (hg.own s hs) b hb).1;simp only[List.mem_singleton] at hm;omega
   refine Qi ?_;have V:i<a.ed.length:=by have h6:(i:Int)<(a.ed.length:Int):=hM;omega
   have ht:a.ed.take (i+1)=a.ed.take i++[a.ed[i]'V]:=Le V;have hZ:=gp _ (Lh V);refine Zb (a.ed[i]'V) λe he=>?_;rw[he] at ht hZ;have ga:e.2.2=(e.2.2.toNat:Int):=by omega
   have hv:e.2.2.toNat<n:=by omega
   have g3:=VN (a.ed.take i) e.2.2.toNat;rw[Lx] at g3;have hN:=Qbl (a.ed.take i) e hZ.2.2.2.1;have g4:qK [bl,bm] w7.heap ve a.ed:=((((h.ed.ext Y).up (L':=[bl,bm]) (λb hb=>.inr (by simp only[List.mem_cons,List.not_mem_nil,or_false] at hb;omega))).ext E).st (H.mono (by simp))).st (T.mono (by simp));refine Qf<|Qg<|Qc<|xie g4 O O V λmg h6=>?_;rw[he] at h6
   refine x (QI h6 O O)<|xl O<|Qv (us:=[.int .i64 0,.int .i64 0,.int .i64 0]) O λg5 w8 g6 g7 g8=>xl O<|Qr (us:=Qz e) g8 O O O O ⟨O,O,O,U⟩ λw9 g9 hO=>xe ?_;have hw:Step [] w7 w9:=g6.then1 g9 g7;have mh:=hw.size;have gb:=hg.ext hw;have ka:=gb.own _ hv
   have h7:∀b∈ob (rv e.2.2.toNat),w6.heap.size≤b∧b<w7.heap.size:=λb hb=>⟨(Qk (hg.own _ hv) b hb).1,QP (hg.own _ hv) b hb⟩;have gc:bp∉ob (rv e.2.2.toNat):=λhb=>by have:=h7 _ hb;omega
   have ge:bm∉ob (rv e.2.2.toNat):=λhb=>by have:=h7 _ hb;omega
   have hP:g5∉ob (rv e.2.2.toNat):=λhb=>by have:=h7 _ hb;omega
   have gg:=((hX.step T hY).ext hw);have gh:=hL.ext hw;have gi:=h5 e.2.2.toNat hv;rw[←ga] at gi;refine QS (Step (ob (rv e.2.2.toNat)) w9) [(0,true),(1,true),(2,true),(3,true),(4,true),(5,true),(6,true),(7,true),(8,true),(9,true),(10,true),(11,true),(12,true),(13,true),(14,true),(15,false),(16,false),(17,false)] mixed (by rfl) (by kernel_rfl) (Step.drew _ _) ?_
   refine p (λ_=>Ql)<|p (λ_=>QH O)<|p (λ_=>Qa O)<|pq (λ_ hc=>Qd (gg.step hc gc) O O) <|
    p (λ_=>Qa O)<|pq (λ_ hc=>Qd (hO.step hc hP) O O)<|p (λ_=>Ql)<|p (λ_=>QH O)<|p (λ_=>Qa O) <|
    pq (λ_ hc=>Qd (gg.step hc gc) O O)<|p (λ_=>Qa O)<|pq (λ_ hc=>Qd (hO.step hc hP) O O) <|
    pq (λ_ hc=>(X3 (k:=e.2.2) (gh.step hc ge) O O).trans (congrArg (λv=>Result.ok (Next.value v) _) gi))<|p (λ_=>Qa O)<|pq (λ_ hc=>Qd (hO.step hc hP) O O) <|
    pk<|QC (us:=[[.int .i64 e.1]]) O O (by decide) (by simp) ⟨rfl,rfl,U⟩ λmj kb gj mo kc=>⟨(Step.drew _ _).trans gj,?_⟩
   have ho:Step [] w9 kb:=(Step.drew _ _).trans gj;have mq:=ho.size;refine pk<|QU (m:=1) (news:=[.int .i64 e.1]) (Qm ka ho) O O O (kc.at (L:=[]) (by simp)) (by simp[Value.oneCell']) (by omega) (by omega) λhQ mu ke h8 kf=>⟨ho.any.trans' h8,?_⟩;have kg:=(gh.ext ho).step h8 ge;refine pkl (hl:=by kernel_rfl)<|Xn (k:=e.2.2) kg O O λmv gk kh=>pe ?_
   have ki:∀b∈ob hQ,b∈ob (rv e.2.2.toNat)∨w9.heap.size≤b:=λb hb=>(kf b hb).imp id (λh=>by omega);have gl:=gb.app hv (Qt.snoc ke) (ho.any.trans' h8) ki;have gm:=gl.step gk (λi hi b hb=>by have:=(Qk (gl.own i hi) b hb).1;simp only[List.mem_singleton];omega)
   have kj:Kt (Yl (a.ed.take i)) e.2.2.toNat (Yl (a.ed.take i) e.2.2.toNat++[e.1])=Yl (a.ed.take (i+1)):=by rw[ht];exact funext hN
   rw[kj] at gm;refine Qx<|QN O O<|Qb<|xe<|⟨(i+1,Kt rv e.2.2.toNat hQ,mput m e.2.2 hQ),by simp only[];omega,Z,V,?_,kh,gm,λs hs=>?_⟩
   ·exact (((T.trans hw).trans ho).then h8 (λb hb=>.inr (h7 b hb).1)).trans' gk
   simp only[];rw[Jc];by_cases gn:s=e.2.2.toNat
   ·subst gn;rw[if_pos ga,ZT]
   rw[if_neg (by omega),Yf _ _ gn];exact h5 s hs
  refine Qi ?_;have hp:j<rm.length:=by have h3:(j:Int)<(rm.length:Int):=hK;omega
  have kk:=go _ (Lh hp);have ht:rm.take (j+1)=rm.take j++[rm[j]'hp]:=Le hp;refine Zb (rm[j]'hp) λs hs=>?_;rw[hs] at kk ht;have hN:s=(s.toNat:Int):=by omega
  have mw:((rm.take j).foldl cut (List.replicate n true)).length=n:=by rw[qu];simp
  refine Qf<|Qg<|Qc<|xii (i:=j) ((hV.ext E).st H) O O hp λmy h3=>?_;rw[hs] at h3;refine x (Qu h3 O)<|Qe<|Qx<|Qb<|x (QH O)<|x (Qa O)<|x (Qd (S.step H hq) O O)<|Qb<|x (Zj (i:=s.toNat) O (congrArg (Value.int .i64) hN) (by omega)) <|
   xl rfl<|UW (i:=s.toNat) hf O O (by omega) λw7 T kn=>xe ?_
  refine Qx<|QN O O<|Qb<|xe<|⟨j+1,by omega,Z,hp,H.trans' T,?_⟩;rw[ht,MA];exact kn
 refine Qi ?_;have V:k<n:=by have gv:(k:Int)<(n:Int):=hJ;omega
 have hW:=S.step hh hq;refine Qf<|Qg<|Qc<|Qb<|Qe<|Qx<|Qb<|x (QH O)<|x (Qa O)<|x (Qd hW O O)<|Qb<|x (Zj (i:=k) O O (by omega)) <|
  xl rfl<|UW (i:=k) hI O O (by rw[Qk6];exact V) λw6 H hf=>xe ?_
 have ko:(bA n (λi=>decide (i<k))).set k true=bA n (λi=>decide (i<k+1)):=Qk5 (by simp) (λi _ hi=>by
  by_cases e:i<k
  ·simp[e];omega
  simp[e];omega)
 rw[ko] at hf;refine Qx<|QN O O<|Qb<|xe ?_;exact ⟨k+1,by omega,Z,V,hh.trans' H,hf⟩
end Go.Proofs.YtdffckgdcegpaaaGreatDoor
