/- Merged out of 43 texts. -/
import Derived.Test.YtdffckgdcegpaaaGreatDoorKpc
import Derived.Shelf.SlSortCmp.NoneTotal
import Derived.Tactics
import Derived.Sort.Grow
import Derived.Deep.Draws
import Derived.Sort.Statements
import Derived.Shelf.Lay
import Derived.Tactics2
import Derived.Laws.IdiomStrings
import Derived.Shelf.SortM.Plain
import Derived.Shelf.SortM.SortNone
import Derived.Shelf.SlicesE.Compact
import Derived.Shelf.SlicesE.DeleteFunc
import Derived.Ground.SlgmProg
import Derived.Ground.SlgnProg
import Derived.Ground.SlgfProg
namespace Go.Proofs.YtdffckgdcegpaaaGreatDoor
open Go.Proofs.Tryz
open Go.Lg
theorem Qjv {L:LN}{w:World}{v:Value}{S:Nat}{c:Q8}{E:LN}{g:Nat}{fn:Func}[Fu prog g fn] {cap:LV}{q:Nat→Bool}(h:Zs L w.heap v E.length 3 (E.flatMap (jI S c)))
  (hk:∀(m:Nat) (H:World),Step [] w H→QK prog g ([.agg (jI S c m).toArray]++cap) H λr w'=>r=.bool (q m)∧Step [] H w') :
  QK prog 62 [v,.func (.func g) #[] cap.toArray] w λr w'=>Step [] w w'∧∃i:Int,r=.int .i64 i∧((i=-1∧∀m∈E,q m=false)∨∃k:Nat,∃m,E[k]?=some m∧i=(k:Int)∧q m=true):=by
 have hg:=h.le;refine QK.of_W func62 O ntmps62 results62 (by simp) ?_;refine Qc<|Qe<|Qf<|Qc<|Qb<|x (Qs h O)<|Qb<|xe<|Qh<|QA (α:=Nat) [(4,5),(8,18)] (λz=>[(8,.int .i64 z)]) (λz w'=>z≤E.length∧Step [] w w'∧∀m∈E.take z,q m=false) (λz=>E.length - z) (by rfl) 0 Z ⟨Ll _,Step.refl _ _,λm hm=>by simp at hm⟩ ?_;rintro k g' H ⟨hh,I,V⟩;refine Qc<|x (QB O O)<|xe ?_
 refine Qf<|QG O (λh9=>?_) (λh9=>?_)
 ·refine Qz ?_;have hf:E.length≤k:=by have J:¬(k:Int)<(E.length:Int):=h9;omega
  rw[Lo hf] at V;refine Qc<|Qe ?_;exact Qn ⟨[.int .i64 (-1)],Z,I,-1,O,.inl ⟨O,V⟩⟩
 have G:k<E.length:=by have J:(k:Int)<(E.length:Int):=h9;omega
 have Y:E.take (k+1)=E.take k++[E[k]'G]:=Li G;have ha:E[k]?=some (E[k]'G):=LB G;refine Qi<|Qf<|Qh<|Qc<|Qb<|Qe<|Qc<|Qb<|Qb<|Qb<|xig (g:=jI S c) (i:=k) (qb S c) (h.ext I) O O G λhj hb=>?_;refine Zc (E[k]'G) λm hm=>?_;rw[hm] at hb Y ha;refine x (QI hb O O)<|xl O<|xc (first:=[]) (capt:=cap) O<|(hk m H I).mono ?_
 rintro r2 w2 ⟨rfl,hc⟩;refine xe<|Q3 rfl (λJ=>?_) (λJ=>?_)
 ·refine Qc<|Qb<|Qe ?_;exact Qn ⟨[.int .i64 k],Z,I.trans hc,k,O,.inr ⟨k,m,ha,O,J⟩⟩
 refine Qi<|Qy<|QO O O<|Qb<|xe<|⟨k+1,by omega,Z,G,I.trans hc,λm' he=>?_⟩;rw[Y] at he;rcases Lj.1 he with h1 | h1
 ·exact V m' h1
 simp only[List.mem_singleton] at h1;subst h1;exact J
theorem Qj1 {w:World}{E G m:Nat}{c:Q8}{q:MV}(I:QZ w.heap G 39 (ZG q)) :
  QK prog 63 [.agg (jI E c m).toArray,.pointer (some ⟨G,0,none⟩)] w λr w'=>r=.bool (decide ((m:Int)+1=q.kd))∧Step [] w w':=by
 refine QK.of_W func63 O ntmps63 results63 (by simp) ?_;refine Qc<|xl O<|QS (us:=jI E c m) O λS V H Y J=>Qe<|Qc<|x (Qa O)<|x (Qd J O O)<|x (Qa O)<|x (Qd (I.ext H) O O)<|x (Q4 O O)<|Qe ?_;exact Qn ⟨[_],Z,O,H⟩
set_option maxHeartbeats 4000000 in
theorem Qem {L:LN}{w:World}{c:CL}{q:MV}(h0:ZF L w.heap c) (hH:QL L w.heap q.v q.co) :
  QK prog 17 [c.val,.agg #[.int .i64 q.kd,.int .i64 q.ix,q.v]] w λr w'=>r=.int .i64 (mdE c.cel q.m)∧Step [] w w':=by
 have h:=h0.up (L':=[]) (by simp);have hm:=hH.up (L':=[]) (by simp);have G:mdE c.cel q.m=if Zb c.cel≠0 then Zb c.cel else if q.kd<1∨3<q.kd then 11 else if q.ix<0∨((srK c.cel q.kd).length:Int)≤q.ix then 10 else if q.co=setK ((srK c.cel q.kd).getD q.ix.toNat 0) 8 then 0 else 13:=rfl
 refine Zc (mdE c.cel q.m) λE hE=>?_;rw[hE] at G ⊢;refine QK.of_W func17 O ntmps17 results17 (by simp) ?_;refine Qc<|xl O<|QS (us:=c.cells) O λb2 w1 hI gh h1=>xl O<|QS (us:=ZG q) O λb3 w2 hg gi hJ=>Qe ?_;have h2:=hI.trans hg;refine Qf<|Qc<|x (Qr (h1.ext hg) O O)<|xl O<|xf<|(Y4 (h.ext h2)).mono ?_;rintro r3 w3 ⟨rfl,hh⟩;refine Qe ?_;have hj:=h2.trans hh
 have hK:=(h1.ext hg).ext hh;have hL:=hJ.ext hh;refine Qc<|Qb<|x (Q9 O O)<|xe<|Q7 rfl (λhb=>?_) (λhb=>?_)
 ·rw[if_pos hb] at G;subst G;refine Qc<|Qb<|Qe ?_;exact Qn ⟨[_],Z,O,hj⟩
 rw[if_neg hb] at G;have hl:UF c.cel:=(ZU (Ls.1 hb)).sr;refine Qi<|Qc<|x (Qr hK O O)<|xl O<|xf<|(KR (h.ext hj)).mono ?_;rintro r4 w4 ⟨h3,H,bs,hS⟩;have hM:=hS.r;subst hM;refine Qe ?_;have hN:=hj.trans h3;have h4:=hL.ext h3
 have hA:Zs [] w4.heap (.slice (some ⟨bs,0,none⟩) 3 3) [0,1,2].length 3 ([0,1,2].flatMap (jI H c.cel)):=hS.B.arr (by simp) (n:=3) (cap:=3) (sz:=3) (by rfl) (by omega) (Lt _);refine Qc<|Qb<|x (Zq (l:=[]) (l':=[_]))<|xl O<|xf<|(Qjv (q:=λm=>decide ((m:Int)+1=q.kd)) (cap:=[.pointer (some ⟨b3,0,none⟩)]) hA (λm w5 I=>Qj1 (h4.ext I))).mono ?_;rintro r5 w5 ⟨I,i,rfl,hi⟩;refine Qe ?_
 have h5:=hN.trans I;have hn:=h4.ext I;have h6:=hA.ext I;have hO:QZ w5.heap H 47 c.cells:=hS.B1.ext I;refine Qf<|Qh<|Qc<|Qb<|x (QB O O)<|Qe<|Q7 O (λho=>?_) (λho=>?_)
 ·have hp:q.kd<1∨3<q.kd:=by
   rcases hi with ⟨_,hi⟩ | ⟨k,m,_,hi,_⟩
   ·have e0:=of_decide_eq_false (hi 0 (by simp));have e1:=of_decide_eq_false (hi 1 (by simp));have e2:=of_decide_eq_false (hi 2 (by simp));omega
   have gj:i<0:=ho;omega
  rw[if_pos hp] at G;subst G;refine Qc<|Qe ?_;exact Qn ⟨[_],Z,O,h5⟩
 obtain ⟨m,J,hP,hp⟩:∃m:Nat,m<3∧i=(m:Int)∧q.kd=(m:Int)+1:=by
  rcases hi with ⟨hi,_⟩ | ⟨k,m,hk,hi,hq⟩
  ·exact absurd (by rw[hi];decide:i<0) ho
  have gk:=of_decide_eq_true hq;obtain ⟨hQ,hk⟩:=L4.1 hk;have hR:k<3:=hQ;have gl:m=k:=by rcases k with _ | _ | _ | k <;> first | exact hk.symm | omega
  exact ⟨k,hR,hi,by omega⟩
 subst hP;rw[if_neg (by omega),show srK c.cel q.kd=Xs c.cel m by rw[hp]] at G;have gm:=Vf hl J;have h7:([0,1,2]:LN)[m]'J=m:=by rcases m with _ | _ | _ | m <;> first | rfl | omega
 refine QT (α:=Bool) [(21,34)] (λz=>[(21,.bool z)]) (λz w'=>Step [] w5 w'∧z=decide (q.ix<0∨((Xs c.cel m).length:Int)≤q.ix)) (by rfl) ?_ ?_
 ·refine QW (Step [] w5) [(0,true),(1,true),(2,true),(3,true),(4,true),(5,true),(6,true),(7,true),(8,true),(9,true),(10,true),(11,true),(12,true),(13,true)] mixed (by rfl) (by kernel_rfl) (Step.drew _ _) ?_;refine p (λ_=>Qa O)<|pq (λ_ hc=>Qd (hn.ext hc) O O)<|pb (λ_=>QB O O) (λht=>?_) (λht=>?_)
  ·refine p (λ_=>Qp)<|ps<|ps<|ps<|ps<|ps<|ps<|ps<|ps<|p (λ_=>Ql O)<|p (λ_=>Qg)<|pe ?_;have hu:q.ix<0:=ht;exact ⟨true,Z,Step.drew _ _,by rw[decide_eq_true (.inl hu)]⟩
  refine p (λ_=>Qp)<|p (λ_=>Qa O)<|pq (λ_ hc=>Qd (hn.ext hc) O O)<|p (λ_=>Qp)<|p (λ_=>Qp) <|
   Go.Lg.pig (g:=jI H c.cel) (i:=m) O (qb H c.cel) h6 O O J λgn h8=>?_
  rw[h7] at h8;refine p (λ_=>Zo O)<|pq (λ_ hc=>Qw ((h8.fld 1 (.int .i64 (Xs c.cel m).length) O).st hc) O)<|p (λ_=>ZV O O) <|
   p (λ_=>Ql O)<|p (λ_=>Qg)<|pe ?_
  have hu:¬q.ix<0:=ht;refine ⟨decide (((Xs c.cel m).length:Int)≤q.ix),Z,Step.drew _ _,?_⟩;rw[decide_eq_decide];exact ⟨.inr,λh=>h.resolve_left hu⟩
 rintro z g V ⟨he,hz⟩;have Y:=h5.trans he;refine Q3 rfl (λhv=>?_) (λhv=>?_)
 ·rw[if_pos (of_decide_eq_true (hz.symm.trans hv))] at G;subst G;refine Qc<|Qe ?_;exact Qn ⟨[_],Z,O,Y⟩
 have hT:=of_decide_eq_false (hz.symm.trans hv);rw[if_neg hT] at G;have hU:q.ix=(q.ix.toNat:Int):=by omega
 have S:q.ix.toNat<(Xs c.cel m).length:=by omega
 have hV:(Xs c.cel m).getD q.ix.toNat 0=(Xs c.cel m)[q.ix.toNat]'S:=by simp[List.getD,S]
 have h9:=qd hl J _ (Lc S);rw[hV] at G;have hB:=hn.ext he;have hW:=h6.ext he;have hw:Step [] V { V with drawn:=V.drawn+1 }:=Step.drew _ _
 have go:=Y.trans hw;have hX:∀{w':World},Step [] V w'→QK prog (gK m) [.int .i64 q.ix,.pointer (some ⟨H,0,none⟩)] w' λr hY=>r=.int .u16 ((Xs c.cel m)[q.ix.toNat]'S:Nat)∧Step [] w' hY:=by
  intro w' hs;have:=Qbq ((hO.ext he).ext hs) ((h.ext Y).ext hs) hl J S;rw[←hU] at this;exact this
 refine Qf<|QW (Step [] V) [(0,true),(1,true),(2,true),(3,true),(4,true),(5,true),(6,true),(7,true),(8,true),(9,false),(10,false),(11,false),(12,true),(13,true)] mixed (by rfl) (by kernel_rfl) (Step.drew _ _) ?_;refine p (λ_=>Qa O)<|pq (λ_ hc=>Qd (hB.ext hc) O O)<|p (λ_=>Qp)<|p (λ_=>Qp)<|Go.Lg.pig (g:=jI H c.cel) (i:=m) O (qb H c.cel) hW O O J λgp hC=>?_;rw[h7] at hC
 refine p (λ_=>Zo O)<|pq (λ_ hc=>Qw ((hC.fld 2 (.func (.func (gK m)) #[] #[.pointer (some ⟨H,0,none⟩)]) O).st hc) O)<|p (λ_=>Qa O)<|pq (λ_ hc=>Qd (hB.ext hc) O O) <|
  pk<|xcG (first:=[]) (capt:=[.pointer (some ⟨H,0,none⟩)]) (Qg0 m) O<|(hX hw).mono ?_
 rintro r7 w7 ⟨rfl,hZ⟩;refine Zc ((Xs c.cel m)[q.ix.toNat]'S) λbv ga=>?_;rw[ga] at G h9 ⊢;have hD:=hw.trans hZ;refine ⟨hD,?_⟩;refine pk<|xf<|(je bv h9 w7).mono ?_;rintro r8 w8 ⟨gb,gc⟩;have hf:=hD.trans gb;refine ⟨hf,?_⟩;have gq:=Xa bv 8;refine pk<|xf<|(Ky (hm.ext (Y.trans hf)) (Qu.ints (L:=[]) gc (by omega) (by simp))).mono ?_;rintro r9 w9 ⟨rfl,hF⟩
 refine ⟨hf.trans hF,?_⟩;refine p (λ_=>Zm O)<|p (λ_=>Qg)<|pe ?_;have hG:=(Y.trans hf).trans hF;refine Q3 rfl (λhy=>?_) (λhy=>?_)
 ·have ge:¬q.co=setK bv 8:=by
   intro e;have ha:(!decide (q.co=setK bv 8))=true:=hy;rw[decide_eq_true e] at ha;cases ha
  rw[if_neg ge] at G;subst G;refine Qc<|Qe ?_;exact Qn ⟨[_],Z,O,hG⟩
 have gg:q.co=setK bv 8:=by
  refine Decidable.byContradiction λe=>?_;have ha:(!decide (q.co=setK bv 8))=false:=hy;rw[decide_eq_false e] at ha;cases ha
 rw[if_pos gg] at G;subst G;refine Qi<|Qc<|Qe ?_;exact Qn ⟨[_],Z,O,hG⟩
end Go.Proofs.YtdffckgdcegpaaaGreatDoor
namespace Go.Lg
section
variable {P:Program} {f:Fr} {w:World} {d:Option Nat} {ty:Nat} {ps:String} {af:Array Edge} {gd:Option (Nat×Bool)}
abbrev i2 (p:Int×Int):LV:=[.int .i64 p.1,.int .i64 p.2]
abbrev i5 (a:ByteArray) (b c e:Bool) (i:Int):LV:=[.string a,.bool b,.bool c,.bool e,.int .i64 i]
end
end Go.Lg
namespace Go.Proofs.YtdffckgdcegpaaaGreatDoor
open Go.Lg
end Go.Proofs.YtdffckgdcegpaaaGreatDoor
namespace Go.Proofs
open Go.Proofs.Tryz
open Go.Shelf
def Tryz.sortEd_ren:Go.Shelf.Ren:=⟨λ| 6=>245 | 15=>176 | 14=>277 | 28=>229 | 29=>230 | 20=>298 | 21=>299 | 22=>300 | 23=>301 | 24=>302 | 25=>303 | 26=>304 | 27=>305 | 46=>316 | 47=>268 | 48=>269 | 49=>317 | 50=>318 | 57=>323 | n=>n,λ| 22=>56 | 24=>144 | 25=>356 | 3=>3 | 39=>269 | 0=>0 | 53=>338 | 55=>340 | 4=>4 | 46=>332 | 45=>331 | 50=>178 | 5=>5 | 9=>9 | 66=>372 | 70=>376 | 76=>401 | 77=>381 | n=>n,λ| n=>n⟩
theorem Tryz.sortEd:Go.Proofs.SlLaysF0.n6 prog Tryz.sortEd_ren:={
 mixed:=by kernel_rfl
 f6:=⟨Tryz.f245.name,by decide,func245.trans (congrArg some (by kernel_rfl))⟩
 f14:=⟨Tryz.f277.name,by decide,func277.trans (congrArg some (by kernel_rfl))⟩
 f15:=func176.trans (congrArg some (by kernel_rfl))
 f20:=⟨Tryz.f298.name,by decide,func298.trans (congrArg some (by kernel_rfl))⟩
 f21:=⟨Tryz.f299.name,by decide,func299.trans (congrArg some (by kernel_rfl))⟩
 f22:=⟨Tryz.f300.name,by decide,func300.trans (congrArg some (by kernel_rfl))⟩
 f23:=⟨Tryz.f301.name,by decide,func301.trans (congrArg some (by kernel_rfl))⟩
 f24:=⟨Tryz.f302.name,by decide,func302.trans (congrArg some (by kernel_rfl))⟩
 f25:=⟨Tryz.f303.name,by decide,func303.trans (congrArg some (by kernel_rfl))⟩
 f26:=⟨Tryz.f304.name,by decide,func304.trans (congrArg some (by kernel_rfl))⟩
 f27:=⟨Tryz.f305.name,by decide,func305.trans (congrArg some (by kernel_rfl))⟩
 f28:=func229.trans (congrArg some (by kernel_rfl))
 f29:=func230.trans (congrArg some (by kernel_rfl))
 f46:=⟨Tryz.f316.name,by decide,func316.trans (congrArg some (by kernel_rfl))⟩
 f47:=func268.trans (congrArg some (by kernel_rfl))
 f48:=func269.trans (congrArg some (by kernel_rfl))
 f49:=⟨Tryz.f317.name,by decide,func317.trans (congrArg some (by kernel_rfl))⟩
 f50:=⟨Tryz.f318.name,by decide,func318.trans (congrArg some (by kernel_rfl))⟩
 f57:=⟨Tryz.f323.name,by decide,func323.trans (congrArg some (by kernel_rfl))⟩
 t0:=underlying0
 a0:=Tryz.isAgg0
 z0:=Tryz.sizeOf0
 v0:=Tryz.zeroValue0
 t3:=underlying3
 a3:=Tryz.isAgg3
 z3:=Tryz.sizeOf3
 v3:=Tryz.zeroValue3
 t4:=underlying4
 a4:=Tryz.isAgg4
 z4:=Tryz.sizeOf4
 v4:=Tryz.zeroValue4
 t5:=underlying5
 a5:=Tryz.isAgg5
 z5:=Tryz.sizeOf5
 v5:=Tryz.zeroValue5
 t9:=underlying9
 a9:=Tryz.isAgg9
 z9:=Tryz.sizeOf9
 v9:=Tryz.zeroValue9
 t22:=underlying56
 a22:=Tryz.isAgg56
 z22:=Tryz.sizeOf56
 v22:=Tryz.zeroValue56
 t25:=underlying356
 a25:=Tryz.isAgg356
 z25:=Tryz.sizeOf356
 v25:=Tryz.zeroValue356
 t39:=underlying269
 a39:=Tryz.isAgg269
 z39:=Tryz.sizeOf269
 v39:=Tryz.zeroValue269
 t45:=underlying331
 a45:=Tryz.isAgg331
 z45:=Tryz.sizeOf331
 v45:=Tryz.zeroValue331
 t46:=underlying332
 a46:=Tryz.isAgg332
 z46:=Tryz.sizeOf332
 v46:=Tryz.zeroValue332
 t50:=underlying178
 a50:=Tryz.isAgg178
 z50:=Tryz.sizeOf178
 v50:=Tryz.zeroValue178
 t53:=underlying338
 a53:=Tryz.isAgg338
 z53:=Tryz.sizeOf338
 v53:=Tryz.zeroValue338
 t55:=underlying340
 a55:=Tryz.isAgg340
 z55:=Tryz.sizeOf340
 v55:=Tryz.zeroValue340
 t66:=underlying372
 a66:=Tryz.isAgg372
 z66:=Tryz.sizeOf372
 v66:=Tryz.zeroValue372
 t70:=underlying376
 a70:=Tryz.isAgg376
 z70:=Tryz.sizeOf376
 v70:=Tryz.zeroValue376
 t76:=underlying401
 a76:=Tryz.isAgg401
 z76:=Tryz.sizeOf401
 v76:=Tryz.zeroValue401
 t77:=underlying381
 a77:=Tryz.isAgg381
 z77:=Tryz.sizeOf381
 v77:=Tryz.zeroValue381 }
end Go.Proofs
namespace Go.Proofs.YtdffckgdcegpaaaGreatDoor
open Go.Proofs.Tryz
open Go.Lg Go.Sort
abbrev Ez:={ x:Ed // (0≤x.1∧x.1<1099511627776)∧0≤x.2.1∧x.2.1<1099511627776 }
instance:Inhabited Ez:=⟨⟨(0,0,0),by decide⟩⟩
abbrev UD (x:Ez):LV:=[.int .i64 x.1.1,.int .i64 x.1.2.1,.int .i64 x.1.2.2]
abbrev EzO (base:Nat) (w:World) (v:Value) (l:List Ez):Prop:=w.ownsRow base 144 3 v l.length (l.flatMap UD)
def ecf (x y:Ez):Int:=if x.1.1=y.1.1 then x.1.2.1 - y.1.2.1 else x.1.1 - y.1.1
set_option maxHeartbeats 1000000 in
theorem Qm6 (x y:Ez) (W:World):Calls prog 308 #[.agg (UD x).toArray,.agg (UD y).toArray] W λe w'=>e=.returned (.int .i64 (ecf x y))∧∃q os',w'=grow (W.drewN q) os':=by
 have E:IntKind.i64.wrap (x.1.1 - y.1.1)=x.1.1 - y.1.1:=Yl ⟨by have:=x.2;have:=y.2;omega,by have:=x.2;have:=y.2;omega⟩;have G:IntKind.i64.wrap (x.1.2.1 - y.1.2.1)=x.1.2.1 - y.1.2.1:=Yl ⟨by have:=x.2;have:=y.2;omega,by have:=x.2;have:=y.2;omega⟩
 go_enter func308,ntmps308
 go_wp2
 ·go_ret;rename_i h;exact ⟨by rw[ecf,if_neg (by simpa using h)];rfl,0,_,by rw[alloc_eq_grow,alloc_eq_grow,grow_grow];rfl⟩
 go_ret;rename_i h;exact ⟨by rw[ecf,if_pos (by simpa using h)];rfl,0,_,by rw[alloc_eq_grow,alloc_eq_grow,grow_grow];rfl⟩
set_option maxHeartbeats 1000000 in
theorem Qm7 (x y:Ez) (W:World):Calls prog 246 #[.agg (UD x).toArray,.agg (UD y).toArray] W λe w'=>e=.returned (.int .i64 (ecf x y))∧∃q os',w'=grow (W.drewN q) os':=by
 have E:IntKind.i64.wrap (x.1.1 - y.1.1)=x.1.1 - y.1.1:=Yl ⟨by have:=x.2;have:=y.2;omega,by have:=x.2;have:=y.2;omega⟩;have G:IntKind.i64.wrap (x.1.2.1 - y.1.2.1)=x.1.2.1 - y.1.2.1:=Yl ⟨by have:=x.2;have:=y.2;omega,by have:=x.2;have:=y.2;omega⟩
 go_enter func246,ntmps246
 go_wp2
 ·go_ret;rename_i h;exact ⟨by rw[ecf,if_neg (by simpa using h)];rfl,0,_,by rw[alloc_eq_grow,alloc_eq_grow,grow_grow];rfl⟩
 go_ret;rename_i h;exact ⟨by rw[ecf,if_pos (by simpa using h)];rfl,0,_,by rw[alloc_eq_grow,alloc_eq_grow,grow_grow];rfl⟩
theorem jq (x:Ez):(UD x).length=3:=rfl
theorem Qb0:∀l:List Ez,(l.flatMap UD).length=l.length*3
 | []=>rfl
 | x::l=>by rw[LF,Lh,Qb0 l,jq,LJ];omega
theorem Qdw {l:List Ez}{j:Nat}(G:j<l.length*3):(l.flatMap UD)[j]?=some ((flatK UD 3 l.toArray)[j]!):=by
 have h1:j / 3<l.length:=Nat.div_lt_of_lt_mul (by omega);have h2:j % 3<3:=Nat.mod_lt _ (by decide);rw[get_flatK _ _ _ _ (by simpa using G)];have h3:=X5 UD 3 jq l (j / 3) h1;have H:(l.flatMap UD)[j]?=(UD (l[j / 3]'h1))[j % 3]?:=by
  rw[←h3,LW,if_pos h2,MM];congr 1;omega
 rw[H];have h5:(l.toArray)[j / 3]! = l[j / 3]'h1:=by simp[h1]
 rw[h5];have E:j % 3<(UD (l[j / 3]'h1)).length:=h2;exact (LB E).trans (congrArg some (getElem!_pos (UD (l[j / 3]'h1)) (j % 3) E).symm)
theorem Qhs (x y:Ez):ltOf ecf x y=true↔x.1.1<y.1.1∨x.1.1=y.1.1∧x.1.2.1<y.1.2.1:=by
 unfold ltOf ecf;rw[decide_eq_true_iff];split <;> omega
theorem ju (x y:Ez):ltOf ecf x y=false↔y.1.1<x.1.1∨y.1.1=x.1.1∧y.1.2.1≤x.1.2.1:=by
 rw[←Bool.not_eq_true,Qhs];omega
theorem QlN:SWO (ltOf ecf) where
 irrefl x:=by rw[ju];omega
 trans x y z h1 h2:=by rw[Qhs] at *;omega
 ntrans x y z h1 h2:=by rw[ju] at *;omega
theorem QiW {α:Type}[Inhabited α] {lt:α→α→Bool}{d E:Array α}(H:PermIn 0 d.size d E) (I:SortedIn lt 0 d.size E):E.toList.Perm d.toList∧E.toList.Pairwise (λx y=>lt y x=false):=by
 obtain ⟨J,_,G⟩:=H;have e1:E.extract 0 d.size=E:=by rw[←J];exact Array.extract_size
 rw[e1,Array.extract_size] at G;refine ⟨G,?_⟩;rw[Mu];intro i j hi S V;have Y:i<E.size:=by simpa using hi
 have ha:j<E.size:=by simpa using S
 have:=I i j (Ll _) V (by omega);rw[getElem!_pos E j ha,getElem!_pos E i Y] at this;simpa using this
set_option maxHeartbeats 1000000 in
theorem Qbs {g:Nat}(eg:∀args w,(callFunc g args).run prog w=.ok (.enter g args) w) (hb:∀(x y:Ez) (W:World),Calls prog g #[.agg (UD x).toArray,.agg (UD y).toArray] W λe w'=>e=.returned (.int .i64 (ecf x y))∧∃q os',w'=grow (W.drewN q) os')
  {w:World} {base:Nat} {v:Value} {l:List Ez} (h:EzO base w v l) (hl:l.length≤1099511627776) :
  QK prog 245 [v,.func (.func g) #[] #[]] w λ_ w'=>Step (ob v) w w'∧∃l':List Ez,l'.Perm l∧l'.Pairwise (λx y=>ltOf ecf y x=false)∧EzO base w' v l':=by
 unfold QK;rcases h.2 with ⟨rfl,h0⟩ | ⟨gb,cap,cur,rfl,hf,H,S,hh,V,hm⟩
 ·have ho:l=[]:=Ln h0;subst ho;have hc:=AnyF.slices_SortFunc_none Tryz.sortEd none 0 (.func (.func g) #[] #[]) w;change Calls prog 245 _ _ _ at hc;refine Calls.mono hc λe w' he=>?_;obtain ⟨rfl,rfl⟩:=he;exact ⟨Step.refl _ _,[],List.Perm.refl _,List.Pairwise.nil,h⟩
 have Y:gb<w.heap.size:=(LE.1 H).1;have hu:l.length*3≤cur.size:=by rw[V];exact ME _ S
 have hH:HoldsK UD 3 w gb 0 l.toArray:=by
  intro j E;rw[size_flatK,LX] at E;have h1:=Qdw E;rw[←hm,LW,if_pos E] at h1;constructor
  ·show (match w.heap[gb]? with | some (.cells c _ _)=>if (none:Option _).isSome then none else c[0+j]? | _=>none)=_
   rw[H];simp only[Nat.zero_add,Option.isSome_none,Bool.false_eq_true,if_false];rw[←MJ,h1];rfl
  show (match w.heap[gb]? with | some (.cells _ _ (lo,hi))=>decide (lo≤0+j) && decide (0+j<hi) | _=>false)=false
  rw[H];simp
 have hc:=AnyQ.slices_SortFunc Tryz.sortEd 3 Tryz.isAgg144 Tryz.sizeOf144 UD jq (λx v hv=>by simp at hv;rcases hv with rfl | rfl | rfl <;> rfl) ecf QlN g #[] gb 0 cap l.toArray w eg (λm os dk _ x y=>hb x y _) hH Y (by simp;omega)
 change Calls prog 245 _ _ _ at hc;rw[LX] at hc;refine Calls.mono hc λe w' he=>?_;obtain ⟨rfl,G,n,os,hp,hq,rfl⟩:=he;have I:G.size=l.length:=by have:=hp.1;simpa using this
 have ha:=QiW (d:=l.toArray) (by rw[LX];exact hp) (by rw[LX];exact hq);have J:(sortWorldK UD 3 w gb 0 n G os).heap=w.heap.modify gb (onCells (putCells id 0 (flatK UD 3 G)))++os:=rfl;refine ⟨⟨rfl,O,O,?_,λk hk hn=>?_⟩,G.toList,ha.1,ha.2,?_⟩
 ·rw[J,Ni,MC];omega
 ·rw[J,Mz,MC,if_pos hk,MS,if_neg (λe=>hn (by simp[ob,e]))]
 refine ⟨Qb0 _,.inr ⟨gb,cap,putCells id 0 (flatK UD 3 G) cur,by simp[I],hf,?_,by simp[I];exact S,hh,by simp[putCells,V],?_⟩⟩
 ·rw[J,Mz,MC,if_pos Y,MS,if_pos rfl,H];rfl
 apply Nj;intro j;rw[LW];by_cases E:j<G.toList.length*3
 ·rw[if_pos E,Qdw E,MJ];have hr:j<cur.size:=by simp[I] at E;omega
  have ht:j<(flatK UD 3 G).size:=by simpa using E
  simp only[putCells,Array.getElem?_mapIdx,Array.getElem?_eq_getElem hr,Option.map_some,Nat.zero_le,Nat.zero_add,true_and,if_pos ht,Nat.sub_zero,id]
 rw[if_neg E,MT];rw[Qb0];omega
theorem Qhg:∀l:List Ez,(l.map (·.1)).flatMap Qx=l.flatMap UD
 | []=>rfl
 | x::l=>by rw[LO,LF,LF,Qhg l];rfl
theorem Qdv:∀l:List Ed,(∀e∈l,(0≤e.1∧e.1<1099511627776)∧0≤e.2.1∧e.2.1<1099511627776)→∃zs:List Ez,zs.map (·.1)=l
 | [],_=>⟨[],O⟩
 | e::l,h=>by
  obtain ⟨zs,h1⟩:=Qdv l (λd hd=>h d (Lk _ hd));exact ⟨⟨e,h e Lm⟩::zs,by rw[LO,h1]⟩
abbrev QaF (x y:Ed):Prop:=x.1<y.1∨x.1=y.1∧x.2.1≤y.2.1
theorem zN {g:Nat}(eg:∀args w,(callFunc g args).run prog w=.ok (.enter g args) w) (E:∀(x y:Ez) (W:World),Calls prog g #[.agg (UD x).toArray,.agg (UD y).toArray] W λe w'=>e=.returned (.int .i64 (ecf x y))∧∃q os',w'=grow (W.drewN q) os')
  {w:World} {base:Nat} {v:Value} {l:List Ed} (h:w.ownsRow base 144 3 v l.length (l.flatMap Qx)) (hl:l.length≤1099511627776) (hb:∀e∈l,(0≤e.1∧e.1<1099511627776)∧0≤e.2.1∧e.2.1<1099511627776) :
  QK prog 245 [v,.func (.func g) #[] #[]] w λ_ w'=>Step (ob v) w w'∧∃l':List Ed,l'.Perm l∧l'.Pairwise QaF∧w'.ownsRow base 144 3 v l'.length (l'.flatMap Qx):=by
 obtain ⟨zs,rfl⟩:=Qdv l hb;rw[Le] at hl;rw[Le,Qhg] at h;refine (Qbs eg E h hl).mono λ_ _ ⟨h1,l',h2,h3,G⟩=>⟨h1,l'.map (·.1),h2.map _,?_,by rw[Le,Qhg];exact G⟩;rw[Ms];refine h3.imp λ{x y} H=>?_;have:=(ju y x).1 H;exact this
theorem yF {w:World}{base:Nat}{v:Value}{l:List Ed}(h:w.ownsRow base 144 3 v l.length (l.flatMap Qx)) (hl:l.length≤1099511627776) (hb:∀e∈l,(0≤e.1∧e.1<1099511627776)∧0≤e.2.1∧e.2.1<1099511627776) :
  QK prog 282 [v] w λ_ w'=>Step (ob v) w w'∧∃l':List Ed,l'.Perm l∧l'.Pairwise QaF∧w'.ownsRow base 144 3 v l'.length (l'.flatMap Qx):=by
 refine QK.of_W func282 O ntmps282 results282 (by simp) ?_;refine Qy<|Qb<|xl O<|xf<|(zN (enters_of func308 (by kernel_rfl) O) Qm6 h hl hb).mono ?_;rintro E G h1;refine xe ?_;exact ⟨[],U,h1⟩
theorem Qd2 {w:World}{base:Nat}{v:Value}{l:List Ed}(h:w.ownsRow base 144 3 v l.length (l.flatMap Qx)) (hl:l.length≤1099511627776) (hb:∀e∈l,(0≤e.1∧e.1<1099511627776)∧0≤e.2.1∧e.2.1<1099511627776) :
  QK prog 245 [v,.func (.func 246) #[] #[]] w λ_ w'=>Step (ob v) w w'∧∃l':List Ed,l'.Perm l∧l'.Pairwise QaF∧w'.ownsRow base 144 3 v l'.length (l'.flatMap Qx) :=
 zN (enters_of func246 (by kernel_rfl) O) Qm7 h hl hb
def cmF (c:Q8) (l:List (LI)):LI:=l.zipIdx.filterMap λp=>if (Vd c.ex c.cs p.1).2.2=true then some (p.2:Int) else none
theorem QhA {c:Q8}{l:List (LI)}{k:Nat}(h:k<l.length):cmF c (l.take (k+1))=cmF c (l.take k)++(if (Vd c.ex c.cs (l[k]'h)).2.2=true then [(k:Int)] else []):=by
 unfold cmF;rw[Li h,List.zipIdx_append,List.filterMap_append];have e:0+(l.take k).length=k:=by rw[Lx];omega
 rw[e];simp only[List.zipIdx_cons,List.zipIdx_nil,List.filterMap_cons,List.filterMap_nil];by_cases E:(Vd c.ex c.cs (l[k]'h)).2.2=true
 ·rw[if_pos E,if_pos E]
 rw[if_neg E,if_neg E]
theorem QjZ (c:Q8) (l:List (LI)):(cmF c l).length≤l.length:=by
 unfold cmF;refine LS (List.length_filterMap_le _ _) ?_;rw[List.length_zipIdx];exact Lt _
def QdF (c:Q8):Bool:=match sync (auts c.co),sync (auts c.co++auts c.rq) with
 | some (pa,ps),some (_,ts)=>ts.all λt=>decide ((wrf c.rq (t.drop c.co.length) (enb pa (plx ps (t.take c.co.length)))).length≤1)
 | _,_=>false
def cmB (c:Q8):LI:=match sync (auts c.co++auts c.rq) with
 | some (sa,ts)=>cmF c (ts.map (·.take c.co.length))++[sa.st]
 | none=>[]
structure CmI (b2 base:Nat) (W:World) (xa:Value) (st:Int) (xm vb ve:Value) (bad:LI) (es:List Ed):Prop where
 B:QZ W.heap b2 58 [xa,.int .i64 st,xm,ve]
 b:Qu 3 base W vb bad
 e:W.ownsRow base 144 3 ve es.length (es.flatMap Qx)
 dj:Dj vb ve
 bd:∀e∈es,(0≤e.1∧e.1<1099511627776)∧0≤e.2.1∧e.2.1<1099511627776
theorem CmI.ext {E base:Nat}{W W':World}{xa:Value}{st:Int}{xm vb ve:Value}{bad:LI}{G:List Ed}(h:CmI E base W xa st xm vb ve bad G) (hs:Step [] W W'):CmI E base W' xa st xm vb ve bad G :=
 ⟨h.B.ext hs,Qq h.b hs,Qq h.e hs,h.dj,h.bd⟩
theorem CmI.addB {E base:Nat}{W W':World}{xa:Value}{st:Int}{xm vb G ve:Value}{bad bad':LI}{H:List Ed}(h:CmI E base W xa st xm vb ve bad H) (hb:E<base) (hs:Step (ob vb) W W') (J:Qu 3 base W' G bad') (S:∀b∈ob G,b∈ob vb∨W.heap.size≤b):CmI E base W' xa st xm G ve bad' H :=
 ⟨h.B.step hs (QM h.b hb),J,Qj h.e hs (λb hb hm=>h.dj b hm hb),λb V I=>(S b V).elim (λh1=>h.dj b h1 I) (λh1=>by have:=QR h.e b I;omega),h.bd⟩
theorem CmI.addE {E base:Nat}{W W1 W':World}{xa:Value}{st:Int}{xm vb ve G:Value}{bad:LI}{H:List Ed}{e:Ed}(h:CmI E base W xa st xm vb ve bad H) (hb:E<base) (hs:Step (ob ve) W W1) (J:W1.ownsRow base 144 3 G (H.length+1) (H.flatMap Qx++Qx e)) (Y:∀b∈ob G,b∈ob ve∨W.heap.size≤b)
  (S:Step [E] W1 W') (hB:QZ W'.heap E 58 [xa,.int .i64 st,xm,G]) (he:(0≤e.1∧e.1<1099511627776)∧0≤e.2.1∧e.2.1<1099511627776):CmI E base W' xa st xm vb G bad (H++[e]):=by
 have hge:=Qm J;refine ⟨hB,Qj (Qj h.b hs (λb hb hm=>h.dj b hb hm)) S (λb I hm=>by have:=(Qm h.b b I).1;rw[La.1 hm] at this;omega),?_,λb V ha=>(Y b ha).elim (λh1=>h.dj b V h1) (λh1=>by have:=QR h.b b V;omega),λd hd=>?_⟩
 ·have h9:=Qj J S (λb I hm=>by have:=(hge b I).1;rw[La.1 hm] at this;omega);rw[Lh,Ly];simpa using h9
 rcases Lj.1 hd with hd | hd
 ·exact h.bd d hd
 rw[La.1 hd];exact he
theorem CmI.stb {G base B:Nat}{xa:Value}{st:Int}{xm vb ve:Value}{bad:LI}{H:List Ed}:Z1 B (λW=>CmI G base W xa st xm vb ve bad H) :=
 λW W' X h hs E=>⟨Z1.blk W W' X h.B hs E,Z1.row W W' X h.b hs E,Z1.row W W' X h.e hs E,h.dj,h.bd⟩
set_option maxHeartbeats 40000000 in
theorem Qa9 {w:World}{c:CL}(h0:ZF [] w.heap c) (kp:Kb w 4096) (kq:Yz c.cel=0) (S:(spc c.cel).a.st<4096) (h1:QdF c.cel=true) :
  QK prog 197 [c.val] w λr w'=>Step [] w w'∧∃xa xm xe vb,r=.tuple #[.agg #[xa,.int .i64 ((spc c.cel).a.st+1),xm,xe],vb,.int .i64 0]∧ZQ [xa,xm,xe]∧Qu 3 w.heap.size w' vb (cmB c.cel):=by
 refine QK.of_G 20 func197 O ntmps197 results197 (by simp) ?_;refine QY<|QJ (by rfl) (by rfl) ?_;refine xl rfl<|QS (us:=c.cells) O λb1 w1 kr hb1 kt=>xl O<|Qt (us:=JV) O λE w2 gn hb2 ku=>x Qg<|Qe ?_;have hP:=kr.trans gn;have hz1:=kr.size;have hz2:=gn.size;have hl1:=kt.lt;have m8:=ku.lt;have m9:=kt.ext gn
 have kv:ZF [E] w2.heap c:=(h0.up (L':=[E]) (λb hb=>.inr (by rw[La.1 hb];omega))).ext hP;refine QY<|QJ (by rfl) (by rfl) ?_;refine x (Qr m9 O O)<|xl O<|xf<|(QaW (h0.ext hP) (kp.ext hP)).mono ?_;rintro r3 w3 ⟨go,vp,rfl,_,pa⟩;obtain ⟨b,q,rfl,rfl,I,_,pc⟩:=pa kq;rw[kq];have hz:=hP.trans go
 have kw:XY [E] b w3.heap q:=(pc [E] (λx hx=>by rw[La.1 hx];exact m8)).2 kv;have hsp:=yE I.p I.s;have hst':q.s.a.st<4096:=by rw[hsp] at S;exact S
 have pd:cmB q.c.cel=cmF q.c.cel ((q.ts.map (·.2)).map (·.take q.c.cel.co.length))++[q.s.a.st]:=by unfold cmB;rw[I.s]
 have pf:∀t∈q.ts.map (·.2),(wrf q.c.cel.rq (t.drop q.c.cel.co.length) (enb q.p.a (plx (q.qs.map (·.2)) (t.take q.c.cel.co.length)))).length≤1:=λt ht=>by
  unfold QdF at h1;rw[I.p,I.s] at h1;exact of_decide_eq_true (Mk.1 h1 t ht)
 have pg:(spc q.c.cel).a.st=q.s.a.st:=by rw[hsp]
 rw[pg,pd];refine Qb<|x (Qk O O)<|x (Qk O O)<|x Qg<|Qe<|QY<|QY<|QJ (by rfl) (by rfl) ?_;refine Qb<|x (Q9 O O)<|xe<|KD rfl<|Yg ?_;refine QY<|QJ (by rfl) (by rfl) ?_;refine Qb<|x (QE O)<|x (Qa O)<|x (Qa O)<|x (Qd kw.B O O)<|xl O<|Qt (us:=[.int .i64 0]) O λb6 w4 ph pj pm=>xl O<|QF (j:=0) (u:=.int .i64 q.s.a.st) pm O O (by simp) rfl λG pn kx=>xe ?_
 have hA:Step [] w3 G:=ph.then1 pn pj;have ho:=kw.ext hA;have hz3:=go.size;have hz35:=hA.size;have ky:=kx.lt;have po:QZ G.heap E 58 JV:=(ku.ext go).ext hA;have hR:QZ G.heap b6 3 [.int .i64 q.s.a.st]:=kx;have hst0:0≤q.s.a.st:=by
  have:=(Yj (λa ha=>by
   rcases Lj.1 ha with ha | ha
   ·exact Yo (ZU I.ok).co a ha
   exact Yo (ZU I.ok).rq a ha) I.s).1.st
  omega
 refine QY<|QY<|QJ (by rfl) (by rfl) ?_;refine x (Qd hR O O)<|x (ZV O O)<|xe<|Qke O (λkz=>absurd (show q.s.a.st≥4096 from kz) (by omega)) (λkz=>?_);refine Yg ?_;have gp:Step [] G { G with drawn:=G.drawn+1 }:=Step.drew _ _
 refine QY<|zi (Step [] G) [(0,true),(1,true),(2,true),(3,true),(4,true),(6,true),(7,true),(8,true),(9,true),(10,true),(11,true),(12,true),(14,true),(15,true),(16,true),(17,true),(18,true),(5,false),(13,false),(19,false),(20,true),(21,false)] mixed (by rfl) (by rfl) (by kernel_rfl) gp ?_
 refine p (λ_=>Qp)<|p (λ_=>QE O)<|p (λ_=>Qa O)<|p (λ_=>Qa O)<|pq (λ_ hc=>Qd (ho.B.ext hc) O O)<|pq (λ_ hc=>Qd (hR.ext hc) O O)<|p (λ_=>Jk O O ⟨by omega,by omega⟩)<|p (λ_=>Qp)<|p (λ_=>QE O)<|p (λ_=>Qa O)<|p (λ_=>Qa O) <|
  pq (λ_ hc=>Qd (ho.B.ext hc) O O)<|p (λ_=>Qp)<|p (λ_=>QE O)<|p (λ_=>Qa O)<|p (λ_=>Qa O)<|pq (λ_ hc=>Qd (ho.B.ext hc) O O)<|pk<|xf<|(ZZ (ho.s.al.ext gp)).mono ?_
 rintro xa w6 ⟨pp,gq⟩;have gr:=gp.trans pp;refine ⟨gr,?_⟩;refine pk<|xf<|(ZZ (ho.s.mr.ext gr)).mono ?_;rintro xm w7 ⟨pt,gs⟩;have hS:=gr.trans pt;refine ⟨hS,?_⟩;refine pk<|xf<|(K0 (ho.s.ed.ext hS)).mono ?_;rintro hT w8 ⟨pu,hU⟩;have gt:=hS.trans pu;refine ⟨gt,?_⟩
 refine p (λ_=>QD ⟨Q0 gq,O,Q0 gs,Q0 hU,U⟩)<|pkl (hl:=by kernel_rfl)<|Qo (us:=[xa,.int .i64 (q.s.a.st+1),xm,hT]) (po.ext gt) O O O O ⟨QH gq,O,QH gs,QH hU,U⟩ λw9 k0 pw=>pe ?_;have gu:Step [E] G w9:=gt.any.trans' k0;have hz7:=hS.size;have hz59:=gu.size;have hB:E<G.heap.size:=by omega
 have k4:=ho.st gu;have hX:ZQ [xa,xm]:=⟨QH gq,QH gs,U⟩;have pz:w9.ownsRow G.heap.size 144 3 hT q.s.a.ed.length (q.s.a.ed.flatMap Qx):=Qj (Zr hU (by omega)) k0 (λb hb hm=>by have:=(Qm hU b hb).1;rw[La.1 hm] at this;omega);have h4:=ZU I.ok;have hC:∀a∈auts q.c.cel.co++auts q.c.cel.rq,Q2 a:=λa ha=>by
  rcases Lj.1 ha with ha | ha
  ·exact Yo h4.co a ha
  exact Yo h4.rq a ha
 have gv:=(Yj hC I.s).1.okay hC;have p0:∀e∈q.s.a.ed,(0≤e.1∧e.1<1099511627776)∧0≤e.2.1∧e.2.1<1099511627776:=λe he=>by
  have h1:=gv.ed e he;have h2:=gv.al _ h1.2.2.1;omega
 have p1:CmI E G.heap.size w9 xa (q.s.a.st+1) xm Zg hT [] q.s.a.ed:=⟨pw,QP _ _ _ _,pz,λb hb=>(by cases hb),p0⟩;have p2:=gv.ed_le;have k5:=UL hC I.s;have k6:=k5.1;have p3:=k5.2;simp only[] at k6 p3;have hckc:=h4.c8;have hY:q.c.cel.co.length=q.c.co.length:=Le ..;have p4:q.c.cel.rq.length=q.c.rq.length:=Le ..;have hcr:=h4.cr
 have p5:(auts q.c.cel.co++auts q.c.cel.rq).length=q.c.co.length+q.c.rq.length:=by rw[Lh];unfold auts;rw[Le,Le,hY,p4]
 refine QY<|QY<|QJ (by rfl) (by rfl) ?_;refine Qb<|x (QE O)<|x (Qa O)<|x (Qd k4.B O O)<|x (Qs k4.ts.arr O)<|Qb<|xe<|Zc ((q.ts.map (·.2)).map (·.take q.c.cel.co.length)) λtcs gw=>?_;rw[gw];have htcl:tcs.length=q.ts.length:=by rw[←gw,Le,Le]
 have hTn:q.ts.length≤4096:=by have h2:=(Yj hC I.s).1.st;have h3:(q.ts.map (·.2)).length=q.ts.length:=Le ..;omega
 refine ZI<|Ui (α:=Nat×Value×Value×List Ed) [(3,3),(7,16),(60,109)] (λz=>[(3,z.2.1),(60,.int .i64 z.1)])
  (λz ds W'=>z.1≤q.ts.length∧Step [E] G W'∧VT G.heap.size W'.heap.size ds W'∧CmI E G.heap.size W' xa (q.s.a.st+1) xm z.2.1 z.2.2.1 (cmF q.c.cel (tcs.take z.1)) z.2.2.2∧z.2.2.2.length≤131072+z.1)
  (λz=>q.ts.length - z.1) (by rfl) (0,Zg,hT,q.s.a.ed) ⟨O,O,U⟩ ⟨Ll _,gu,⟨MH,λD hD=>by cases hD⟩,p1,p2⟩ ?_
 rintro ⟨k,vb,ve,es⟩ g ds h5 ⟨hk,hE,k7,H,p6⟩;simp only[] at hk H p6;have hz10:=hE.size;have hZ:=QjZ q.c.cel (tcs.take k);rw[Lx] at hZ;refine QY<|QJ (by rfl) (by rfl) ?_;refine x (QB O O)<|xe<|QY<|yu O (λgx=>?_) (λgx=>?_)
 ·refine Kp ?_;have hke:q.ts.length≤k:=by have p7:¬(k:Int)<(q.ts.length:Int):=gx;omega
  rw[Lo (by omega)] at H hZ;refine Zc (cmF q.c.cel tcs) λbad ga=>?_;rw[ga] at H hZ;have gy:E∉ob ve:=QM H.e hB;have p8:E∉ob vb:=QM H.b hB;have gb:b6∉[E]:=by simp only[List.mem_singleton];omega
  have p9:b6∉ob ve:=QM H.e ky;have qc:b6∉ob vb:=QM H.b ky;refine QY<|QJ (by rfl) (by rfl) ?_;refine x (Qa O)<|x (Qd H.B O O)<|xl O<|xf<|(Qd2 H.e (by omega) H.bd).mono ?_;rintro r11 hh ⟨hq,hg,hp,_,ho11⟩;refine xe ?_;have gc:=H.B.step hq gy;have gz:=(hR.step hE gb).step hq p9;have g0:=Qj H.b hq (λb hb hm=>H.dj b hb hm);have hz11:=hq.size
  have hv:=Qm H.e;have hG:=Qm g0;have qf:VT G.heap.size h5.heap.size ds hh:=k7.step hq (Go.Lg.Q0 H.e);have hD0:Step (ob vb) hh { hh with drawn:=hh.drawn+1 }:=Step.drew _ _
  refine QY<|zi (λw'=>Step (E::ob vb) hh w'∧QZ w'.heap E 58 [xa,.int .i64 (q.s.a.st+1),xm,ve]∧QZ w'.heap b6 3 [.int .i64 q.s.a.st]) [(0,true),(1,true),(2,true),(3,false),(4,false),(5,false),(6,true),(7,true)] mixed (by rfl) (by rfl) (by kernel_rfl) ⟨Step.drew _ _,gc.ext (Step.drew _ _),gz.ext (Step.drew _ _)⟩ ?_
  refine pq (λ_ hc=>Qr hc.2.1 O O)<|p (λ_=>Qp)<|pq (λ_ hc=>Qd hc.2.2 O O)<|pk<|QC (us:=[[.int .i64 q.s.a.st]]) O O (by decide) (by simp) ⟨rfl,rfl,U⟩ λb116 g4 g5 hb116 ql=>?_;have h6:=(Step.drew [] hh).trans g5;have hz12:=h6.size;refine ⟨⟨h6.any,gc.ext h6,gz.ext h6⟩,?_⟩
  refine pk<|Q5 (m:=1) (news:=[.int .i64 q.s.a.st]) (L:=[]) (Qq g0 h6) O O O (ql.at (by simp)) (by simp[Value.oneCell']) (by omega) (by omega) λk8 hH k9 ge hn13=>?_;have gg:Step (ob vb) hh hH:=h6.any.trans' ge;have ma:=gc.step gg p8;have mc:=gz.step gg qc;refine ⟨⟨gg.mono (λb hb=>Lk _ hb),ma,mc⟩,?_⟩
  refine pk<|Qo (us:=[xa,.int .i64 (q.s.a.st+1),xm,ve]) ma O O O O ⟨hX.1,O,hX.2.1,QH H.e,U⟩ λY J mf=>?_;have g6:Step (E::ob vb) hh Y:=(gg.mono (λb hb=>Lk _ hb)).trans' (J.mono (by simp));refine ⟨⟨g6,mf,mc.step J gb⟩,?_⟩;refine p (λ_=>Qg)<|p (λ_=>Qg)<|pe ?_
  have qo:=Qj k9 J (λb hb hm=>by have:=(Qm k9 b hb).1;rw[La.1 hm] at this;omega);have hw:VT G.heap.size h5.heap.size ds Y:=qf.step g6 (λb hb=>by
   rcases Lb.1 hb with rfl | hb
   ·exact gc.cells
   exact Go.Lg.Q0 g0 b hb)
  have qr:E∉ds:=λhm=>by have:=(hw.2 E hm).1;omega
  have hI:Step [] w Y:=(((hz.trans hA).then1 hE (by omega)).then hq (λb hb=>.inr (by have:=(hv b hb).1;have:=hz.size;omega))).then g6 (λb hb=>.inr (by
   rcases Lb.1 hb with rfl | hb
   ·omega
   have:=(hG b hb).1;have:=hz.size;omega))
  refine Ko ⟨λD hD=>(hw.2 D hD).2.2,hw.1,[.agg [xa,.int .i64 (q.s.a.st+1),xm,ve].toArray,k8,.int .i64 0],λW' g7=>?_⟩;refine ⟨⟨⟨_,O,Qv O ((mf.step g7 qr).at (L:=[]) (by simp)).cells⟩,rfl,rfl,U⟩,hI.then g7 (λD hD=>.inr (by have:=(hw.2 D hD).1;have:=hz.size;omega)),xa,xm,ve,k8,O,⟨hX.1,hX.2.1,QH H.e,U⟩,?_⟩;have h9:=Qu.snoc qo;have mg:=Qj h9 g7 (λb hb hm=>by
   obtain ⟨o,g1,g2⟩:=Go.Lg.Q0 h9 b hb;rw[(hw.2 b hm).2.2] at g1;cases g1
   cases g2)
  rw[←ga] at mg;exact Zr mg (by have:=hz.size;omega)
 have hJ:k<q.ts.length:=by have p7:(k:Int)<(q.ts.length:Int):=gx;omega
 have mh:k<tcs.length:=by omega
 have hf:=QhA (c:=q.c.cel) mh;have q0:tcs[k]'mh=(q.ts[k]'hJ).2.take q.c.cel.co.length:=by subst gw;simp
 have gh:=Lc hJ;have hK:=k6 _ (LK (f:=(·.2)) gh);have hy:=pf _ (LK (f:=(·.2)) gh);rw[q0] at hf;refine Zc (cmF q.c.cel (tcs.take k)) λbad ga=>?_;rw[ga] at H hZ hf;refine Zc (ob vb++ob ve) λav g8=>?_;have hG:=Qm H.b;have hv:=Qm H.e;have q1:∀x∈av,G.heap.size≤x∧x<h5.heap.size:=λx hx=>by
  rw[←g8] at hx;exact (Lj.1 hx).elim (hG x) (hv x)
 have q2:XY (E::av) b G.heap q:=ho.up (λx hx=>by
  rcases Lb.1 hx with rfl | hx
  ·exact .inl Lm
  exact .inr (q1 x hx).1)
 have gi:XY (E::av) b h5.heap q:=q2.st (hE.mono (by simp));refine Zc (cmF q.c.cel (tcs.take (k+1))) λg9 mj=>?_;rw[mj] at hf;refine Yg ?_
 refine QdV (α:=Value×Value×List Ed) [(3,3),(7,16),(61,109)] (λz=>[(3,z.1),(60,.int .i64 k)]) (λz h7 W'=>Step [E] G W'∧VT G.heap.size W'.heap.size h7 W'∧CmI E G.heap.size W' xa (q.s.a.st+1) xm z.1 z.2.1 g9 z.2.2∧z.2.2.length≤131072+(k+1)) (by rfl) ?_ ?_
 rotate_left
 ·rintro ⟨gj,hr,hg⟩ g h7 W ⟨q3,q4,q5,za⟩;refine QJ (by rfl) (by rfl) ?_;refine QO O O<|Qb<|xe ?_;exact ⟨(k+1,gj,hr,hg),by simp only[];omega,⟨O,O,U⟩,hJ,q3,q4,by simp only[];rw[mj];exact q5,za⟩
 refine ZI<|QY<|QJ (by rfl) (by rfl) ?_;refine Qb<|xig (g:=Yc) KN gi.ts.arr O O hJ λa63 mo=>?_;refine Zc (q.ts[k]'hJ) λt ht=>?_;rw[ht] at mo gh hK hy hf;have zv:=gi.ts.each t gh;have htl:t.2.length=q.c.co.length+q.c.rq.length:=by rw[hK.1,p5]
 refine x (Qw mo O)<|xl O<|Qt (us:=[.int .i64 0]) O λb7 hh hq z0 z1=>xl O<|QF (j:=0) (u:=.int .i64 k) z1 O O (by simp) rfl λg4 g5 z2=>Qe ?_;have ka:Step [] h5 g4:=hq.then1 g5 z0;have mq:QZ g4.heap b7 3 [.int .i64 k]:=z2;refine QY<|QJ (by rfl) (by rfl) ?_;refine Qb<|Qb<|xl O<|xf<|(jZ (gi.ext ka) (zv.ext ka) (by omega)).mono ?_
 rintro r13 hH ⟨ge,v9,ms,rfl,kb,mt⟩;refine Qb<|x (Qk O O)<|x (Qk O O)<|x Qg<|Qe ?_;have hL:=ka.trans ge;have mu:=gi.ext hL;rw[hY] at hy hf;refine Zc (t.2.take q.c.co.length) λtc gk=>?_;refine Zc (t.2.drop q.c.co.length) λtr mv=>?_;rw[gk] at kb hy hf;rw[mv] at mt hy;have z3:tc.length=q.c.co.length:=by rw[←gk,Lx];omega
 have z4:=hK.bd (m:=4096) (λa ha=>(hC a ha).st1);have mw:∀x∈tc,0≤x∧x<4096:=λx hx=>z4 x (LT (by rw[gk];exact hx));have z5:Vt (auts q.c.cel.co) tc:=by
  have h1:=hK.take;rw[show (auts q.c.cel.co).length=q.c.co.length by unfold auts;rw[Le];exact hY,gk] at h1;exact h1
 have z9:Vt (auts q.c.cel.rq) tr:=by
  have h1:=hK.drop;rw[show (auts q.c.cel.co).length=q.c.co.length by unfold auts;rw[Le];exact hY,mv] at h1;exact h1
 have gl:XY [] b hH.heap q:=mu.up (by simp);have hvo:=Uv gl.k1 gl.k2 gl.k3 (kb.up (L':=[]) (by simp)) (by rw[I.ex,I.cs];exact h4.cd) z5.tpOk;rw[I.ex,I.cs] at hvo;refine Zc (Vd q.c.cel.ex q.c.cel.cs tc) λV hV=>?_;rw[hV] at hvo hf;have kc:=H.ext hL;have hz13:=hL.size;have hl7:=mq.lt;have my:=mq.ext ge
 refine QdV (α:=Value) [(3,3),(11,14),(71,86)] (λz=>[(3,z)]) (λz h7 W=>h7=ds∧Step (ob vb) hH W∧Qu 3 G.heap.size W z g9∧∀x∈ob z,x∈ob vb∨hH.heap.size≤x) (by rfl) ?_ ?_
 ·refine QY<|QJ (by rfl) (by rfl) ?_;refine Qb<|x (QE O)<|x (Qa O)<|x (Ys (us:=[q.vs,q.vx,q.vk]) gl.B O O O)<|Qb<|xl O<|xf<|hvo.mono ?_;rintro r14 Y ⟨J,rfl⟩;refine Qb<|x (Qk O O)<|x (Qk O O)<|x (Qk O O)<|x (Qk O O)<|x Qg<|x Qg<|x Qg<|Qe<|QY<|QJ (by rfl) (by rfl) ?_;refine Qb<|xe ?_;have mz:=Qq kc.b J;refine K7 O (λke=>?_) (λke=>?_)
  ·rw[if_pos ke] at hf;refine QJ (by rfl) (by rfl) ?_;refine Qb<|x (Qd (my.ext J) O O)<|xl O<|QC (us:=[[.int .i64 k]]) O O (by decide) (by simp) ⟨rfl,rfl,U⟩ λb85 y1 hj hb85 hB85=>?_;have zy1:=hj.size;have hz14:=J.size;refine xl O<|Q5 (m:=1) (news:=[.int .i64 k]) (L:=[]) (Qq mz hj) O O O (hB85.at (by simp)) (by simp[Value.oneCell']) (by omega) (by omega) λz y2 gm hM kf=>Qe ?_
   exact ⟨z,Z,O,(J.trans hj).any.trans' hM,by rw[hf];exact Qu.snoc gm,λx hx=>(kf x hx).imp id (λh=>by omega)⟩
  rw[if_neg (by rw[ke];decide),LH] at hf;refine Yg ?_;exact ⟨vb,Z,O,J.any,by rw[hf];exact mz,λx hx=>.inl hx⟩
 rintro gj g h7 Y ⟨rfl,J,hbO,hbn⟩;have hI14:=kc.addB hB J hbO hbn;have hz14:=J.size;have kg:∀x∈ob vb,x∈E::av:=λx hx=>Lk _ (by rw[←g8];exact Lj.2 (.inl hx));have m0:∀x∈E::ob ve,x∈E::av:=λx hx=>by
  rcases Lb.1 hx with rfl | hx
  ·exact Lm
  exact Lk _ (by rw[←g8];exact Lj.2 (.inr hx))
 have kh:=mu.st (J.mono kg);have hI9a:=kb.st (J.mono kg);have m1:=mt.st (J.mono kg);have hI:Step [E] G Y:=(hE.trans hL.any).then J (λx hx=>.inr (hG x hx).1);have hs014:Step [] w Y:=(hz.trans hA).then1 hI (by omega);have hn7b:b7∉ob vb:=λhm=>by have:=(hG b7 hm).2;omega
 have gb:b6∉[E]:=by simp only[List.mem_singleton];omega
 have hB714:=my.step J hn7b;have hB614:=hR.step hI gb;have hw:VT G.heap.size h5.heap.size h7 Y:=(k7.ext hL).step J (Go.Lg.Q0 kc.b);refine QY<|zi (Step [] Y) [(0,true),(1,true),(2,true),(3,true),(4,true),(5,false),(6,true),(7,true)] mixed (by rfl) (by rfl) (by kernel_rfl) (Step.drew _ _) ?_
 refine p (λ_=>Qp)<|p (λ_=>QE O)<|p (λ_=>Qa O)<|pq (λ_ hc=>Qd (kh.B.ext hc) O O)<|p (λ_=>Qp)<|pk<|xf<|(jB (hI9a.ext (Step.drew _ _)) ((kp.ext hs014).ext (Step.drew _ _)) mw (by omega)).mono ?_;rintro r15 w15 ⟨rfl,hs15⟩;have ki:=(Step.drew [] Y).trans hs15;refine ⟨ki,?_⟩
 have m2:(match mget q.mm (JW tc) with | some u=>u | none=>.int .i64 0)=Value.int .i64 (plx (q.qs.map (·.2)) tc):=by
  rw[I.m tc z3 (λx hx=>(mw x hx).1)];unfold plx;by_cases hm:tc∈q.qs.map (·.2)
  ·rw[if_pos hm,if_pos hm]
  rw[if_neg hm,if_neg hm]
 have hO:=Qaa I.ok I.p;have m3:=QfY hO.2.2.1 tc;refine Zc (plx (q.qs.map (·.2)) tc) λpi hpi=>?_;rw[hpi] at m2 hy m3;rw[←hO.2.1] at m3;have hckp:cks q.p.a pi=0:=by
  unfold cks;rw[if_neg (by rw[(ZE q.p.a).2 hO.1];decide),if_neg (by omega)]
 refine pq (λ_ hc=>(Jj (k:=JW tc) (kh.m.ext hc) O O).trans (congrArg (λv=>Result.ok (Next.value v) _) m2))<|p (λ_=>Qg)<|pe ?_;refine QY<|QJ (by rfl) (by rfl) ?_;refine Qb<|Qb<|Qb<|xl O<|xf<|(Uk (b:=b) (st:=pi) (vr:=ms) m1.cells).mono ?_;rintro r16 h8 ⟨hs16,c1,c2,c3,rfl,hc1,kv,hc3,hR1,hR2,hR3⟩;refine xe ?_;have hu:=ki.trans hs16;have hz1415:=ki.size;have hz16:=hu.size
 have kj:=hI14.ext hu;have hD16:=hw.ext hu;have hB716:=hB714.ext hu;have hB616:=hB614.ext hu;have hs516:Step [E] G h8:=hI.trans hu.any;refine Zc (wrf q.c.cel.rq tr (enb q.p.a pi)) λfl kk=>?_;rw[kk] at hy;have kn:∀x∈E::ob ve,x<Y.heap.size:=λx hx=>by
  rcases Lb.1 hx with rfl | hx
  ·omega
  have:=(hv x hx).2;omega
 have hSt16:XY (E::ob ve) b h8.heap q:=(kh.ext hu).up (λx hx=>.inl (m0 x hx));have hIr16:QL (E::ob ve) h8.heap ms tr:=(m1.ext hu).up (λx hx=>.inl (m0 x hx));have hEv:∀p∈fl,0≤p.1∧p.1<32:=λp hp=>by
  rw[←kk] at hp;have g1:=(UI.1 hp).1;unfold enb at g1;obtain ⟨e,he,g2⟩:=Lp.1 g1;have g3:=hO.1.al _ (hO.1.ed e (Zt he).1).2.2.1;rw[g2] at g3;exact g3
 have hn7L:b7∉E::ob ve:=λhm=>by
  rcases Lb.1 hm with g1 | g1
  ·omega
  have:=(hv b7 g1).2;omega
 have hn6L:b6∉E::ob ve:=λhm=>by
  rcases Lb.1 hm with g1 | g1
  ·omega
  have:=(hv b6 g1).1;omega
 have gy:E∉ob ve:=QM H.e hB;have hb016:G.heap.size≤h8.heap.size:=by omega
 have hel2:es.length+1≤1099511627776:=by omega
 have hkb2:(0:Int)≤(k:Int)∧(k:Int)<1099511627776:=by omega
 refine ZI<|Qa7 (α:={ x:Int×Int // x∈fl }) (E::ob ve) (by omega) (capt:=[.pointer (some ⟨c1,0,none⟩),.pointer (some ⟨c2,0,none⟩),.pointer (some ⟨c3,0,none⟩)]) O (encs:=λx=>[.int .i64 x.1.1,.int .i64 x.1.2]) (by decide) (λ_=>O)
  (Vk hR1 hR2 hR3 (λhm=>by have:=kn _ hm;omega) (λhm=>by have:=kn _ hm;omega) (λx hx=>by have:=kn _ hx;omega) hSt16 hIr16 (λx hx=>h4.rq x.it (LK hx)) z9 hckp O kk)
  (λpre W=>∃hr hg,Step (E::ob ve) h8 W∧CmI E G.heap.size W xa (q.s.a.st+1) xm gj hr g9 hg∧(pre=[]→hr=ve∧hg=es)∧hg.length≤es.length+pre.length)
  (λpre=>Z1.ex λhr=>Z1.ex λhg=>(Z1.step (Lt _)).and (CmI.stb.and ((Z1.pure _).and (Z1.pure _))))
  (λ_ _ _=>False) (λ_ _=>Z1.pure _)
  ⟨ve,es,Step.refl _ _,kj,λ_=>⟨O,O⟩,Lt _⟩
  (λf x f' W=>f'=upd (upd (upd f 98 (.int .i64 x.1.1)) 99 (.int .i64 x.1.2)) 16 (.int .i64 x.1.1)) (λx f'=>Z1.pure _) ?_ ?_ ?_ ?_
 ·rintro l pre ⟨⟨e,i⟩,he⟩ W hW;refine QJ (by rfl) (by rfl) ?_;refine Qe ?_;exact ⟨O,JO.refl _ _ _,Lg.Xr.refl _ _,hW,O⟩
 ·rintro l pre ⟨⟨e,i⟩,he⟩ f' W ⟨hr,hg,S,hn,m4,hlen⟩ rfl hN;have m5:pre=[]:=Ln (Nat.lt_one_iff.1 (L2 hN hy));have hv1:=(m4 m5).1;have hv2:=(m4 m5).2;rw[hv1,hv2] at hn;have m6:=S.size;have hee:=hEv _ he;simp only[] at hee;refine ZI<|QJ (by rfl) (by rfl) ?_
  refine x (Qa O)<|x (Qd hn.B O O)<|x (Qd (hB716.step S hn7L) O O)<|Qb<|x (Qd (hB616.step S hn6L) O O)<|x (QD ⟨O,O,O,U⟩)<|xl O<|QC (us:=[Qx ((k:Int),e,q.s.a.st)]) O O (by decide) (by exact (by decide:1*3≤1000000)) ⟨O,O,U⟩ λb106 y1 hj hb106 hB106=>?_;have zy1:=hj.size
  refine xl O<|Q5 (m:=1) (news:=Qx ((k:Int),e,q.s.a.st)) (L:=[]) (Qq hn.e hj) O O O (hB106.at (by simp)) (by simp[Qx,Value.oneCell']) hel2 (by omega) λu y2 gm hM kf=>?_;refine x (Qa O)<|xl O<|QF (u:=u) ((hn.B.ext hj).step hM gy) O O (by simp) (QH gm) λy3 m7 hB3=>xe ?_
  have ko:Step (E::ob ve) W y3:=(hj.any.trans' (hM.mono λx hx=>Lk _ hx)).trans' (m7.mono (by simp));have hnw:∀x∈ob u,x∈ob ve∨W.heap.size≤x:=λx hx=>(kf x hx).imp id (λh=>by omega)
  refine ⟨JO.step ko m6 (λx hx=>⟨.inl hx,?_⟩),Lg.Xr.step ko,u,es++[((k:Int),e,q.s.a.st)],S.trans' ko,hn.addE hB (hj.any.trans' hM) gm hnw m7 hB3 ⟨hkb2,by simp only[];omega⟩,λh=>absurd h (by simp),by simp only[List.length_append,List.length_singleton];omega⟩;rcases Lb.1 hx with rfl | hx
  ·exact hn.B.cells
  exact Go.Lg.Q0 hn.e x hx
 ·rintro D xs W hD hxs ⟨hr,hg,S,hn,_,hlen⟩ hdD;have hxl:xs.length=fl.length:=by have g1:=congrArg List.length hxs;rw[Le] at g1;exact g1
  have m6:=S.size;refine ⟨(gj,hr,hg),⟨O,O,U⟩,hs516.then S (λx hx=>?_),((hD16.step S (λx hx=>?_)).up (by omega)).cons (by omega) (show h8.heap.size≤D from hD) hdD,hn,by simp only[];omega⟩
  ·rcases Lb.1 hx with rfl | hx
   ·exact .inl Lm
   exact .inr (hv x hx).1
  rcases Lb.1 hx with rfl | hx
  ·exact kj.B.cells
  exact Go.Lg.Q0 kj.e x hx
 rintro D e pre W hD hSp hF;exact hF.elim
theorem Vg (m:Nat) (hm:m<256) (w:World):QK prog 52 [.int .u8 m] w λr w'=>Step [] w w'∧Qu 3 w.heap.size w' r (setK m 5):=by
 refine QK.of_W func52 O ntmps52 results52 (by simp) ?_;refine Qc<|Qe<|Qc<|Qe<|Qf<|Qc<|Qe<|Qh<|QA (α:=Nat×Value) [(3,17)] (λz=>[(3,z.2),(4,.int .i64 z.1)]) (λz w'=>z.1≤5∧Step [] w w'∧Qu 3 w.heap.size w' z.2 (setK m z.1)) (λz=>5 - z.1) (by rfl) (0,nS) ⟨O,O,U⟩
  ⟨Ll _,Step.refl _ _,QP _ _ _ _⟩ ?_
 rintro ⟨k,v⟩ g w1 ⟨hk,G,E⟩;simp only[] at hk E;have hh:=Xa m k;have hj:=G.size;refine Qf<|Qc<|Qb<|x (QB O O)<|xe<|QG rfl (λV=>?_) (λV=>?_)
 ·refine Qz<|Qc<|Qb<|Qe ?_;have Y:k=5:=by omega
  rw[Y] at E;exact Qn ⟨[v],Z,G,E⟩
 have J:k<5:=by omega
 have ha:m / 2 ^ k<256:=Nat.lt_of_le_of_lt (Nat.div_le_self _ _) hm;have H:=VW m k;refine Qi<|Qf<|Qh<|Qc<|Qb<|Qb<|x (zS (n:=k) O O (by show k≤8;omega))<|x (qp (a:=m / 2 ^ k) (b:=1) (congrArg (Value.int .u8) (yG m k)) O ha (by decide))<|x (Q4 O O)<|xe<|QG rfl (λS=>?_) (λS=>?_)
 ·rw[if_neg (λe=>S (by rw[e];rfl))] at H;refine Qi<|Qy<|Qb<|QO O O<|Qe ?_;exact ⟨(k+1,v),by simp only[];omega,⟨O,O,U⟩,J,G,by simp only[];rw[H];exact E⟩
 rw[if_pos (by omega)] at H;refine Qy<|Qb<|Qb<|xl O<|QC (us:=[[.int .i64 k]]) O O (by decide) (by simp) ⟨rfl,rfl,U⟩ λhl w2 I hn hc=>?_;have he:=Qq E I;have ho:=I.size;refine xl rfl<|Q5 (news:=[.int .i64 k]) (L:=[]) he O O O (hc.at (by simp)) (by simp[Value.oneCell']) (by omega) (by omega) λv3 w3 hf hg hp =>
  Qe ?_
 have hge:=Qm E;refine Qy<|Qb<|QO O O<|Qe<|⟨(k+1,v3),by simp only[];omega,⟨O,O,U⟩,J,(G.trans I).then hg (λb hb=>.inr (hge b hb).1),?_⟩;simp only[];rw[H];exact Qu.snoc hf
end Go.Proofs.YtdffckgdcegpaaaGreatDoor
namespace Go.Lg
section
variable {P:Program} {f:Fr} {w:World} {d:Option Nat} {ty:Nat} {ps:String} {af:Array Edge} {gd:Option (Nat×Bool)}
theorem Qk7 {t E e bys:Nat}{z:Value}[h:Sl P t e 1 bys z] [he:Ik P e .u8] [hd:St P E] {x:Operand}{b T n cap:Nat}(G:QZ w.heap b T [.int .u8 (n:Int)]) (J:n<256) (hx:ev f x=.slice (some ⟨b,0,none⟩) 1 cap) :
  (execOp (ev f) ⟨d,.convert t E x,ty,ps,af,gd⟩).run P w=.ok (.value (.string ⟨#[UInt8.ofNat n]⟩)) w:=by
 refine UQ hx ?_;refine run_convert_bytes_back (P:=P) w t E e ⟨b,0,none⟩ cap [UInt8.ofNat n] h.u he.u hd.u (λj H=>?_);have I:j=0:=by simp at H;omega
 subst I;rw[Xx];have h1:(⟨b,0,none⟩:Addr).add 0=⟨b,0,none⟩:=rfl;rw[h1,G.cell];have h2:(UInt8.ofNat n).toNat=n:=by simp[UInt8.toNat_ofNat'];omega
 simp[h2]
end
end Go.Lg
namespace Go.Proofs.YtdffckgdcegpaaaGreatDoor
open Go.Lg
theorem QaA (e:KG):∀u∈Zn e,u.oneCell'=true:=by
 intro y hy;simp only[Zn,List.mem_cons,List.not_mem_nil,or_false] at hy;rcases hy with rfl | rfl | rfl | rfl | rfl <;> rfl
theorem jk {q:IV}(h1:q.p.va.oneCell'=true) (h2:q.p.vm.oneCell'=true) (h3:q.p.ve.oneCell'=true):∀u∈Zh q,u.oneCell'=true:=by
 intro y hy;simp only[Zh,List.mem_cons,List.not_mem_nil,or_false] at hy;rcases hy with rfl | rfl | rfl | rfl | rfl
 ·rfl
 ·exact h1
 ·rfl
 ·exact h2
 exact h3
theorem qG {base N:Nat}{av:LN}{H:Array Obj}{q:IV}(h:∀L:LN,(∀b∈L,b<N)→Zv L H q.p.va q.p.vm q.p.ve q.p.a) (hb:base≤N) (G:∀b∈av,b<N):∀t∈Qeo q,ZN base av H t.1 t.2.1 t.2.2.1 t.2.2.2:=by
 intro t ht;simp only[List.mem_cons,List.not_mem_nil,or_false] at ht;rcases ht with rfl | rfl | rfl
 ·exact ZN.of_lt (λL E=>(h L E).al) hb G
 ·exact ZN.of_lt (λL E=>(h L E).mr) hb G
 exact ZN.of_lt (λL E=>(h L E).ed) hb G
structure UG (base:Nat) (w:World) (vc va:Value) (co:List IV) (al:LI):Prop where
 c:w.ownsRow base 66 5 vc co.length (co.flatMap Zh)
 a:Qu 3 base w va al
 dj:Dj vc va
 each:∀q∈co,∀t∈Qeo q,ZN base (ob vc++ob va) w.heap t.1 t.2.1 t.2.2.1 t.2.2.2
section
variable {base:Nat} {w w':World} {vc va vc' va':Value} {co:List IV} {al:LI}
theorem UG.nil:UG base w (nS) (nS) [] []:=⟨QP _ _ _ _,QP _ _ _ _,Dj.nil _,λq hq=>by cases hq⟩
theorem UG.ext (h:UG base w vc va co al) (hs:Step [] w w'):UG base w' vc va co al:=⟨Qq h.c hs,Qq h.a hs,h.dj,λq hq t ht=>(h.each q hq t ht).ext hs⟩
theorem UG.low {X:LN}(h:UG base w vc va co al) (hs:Step X w w') (E:∀b∈X,b<base):UG base w' vc va co al :=
 ⟨Qj h.c hs (λb hb hm=>by have:=(Qm h.c b hb).1;have:=E b hm;omega),Qj h.a hs (λb hb hm=>by have:=(Qm h.a b hb).1;have:=E b hm;omega),h.dj,λq hq t ht=>(h.each q hq t ht).low hs E⟩
theorem UG.avlt (h:UG base w vc va co al):∀b∈ob vc++ob va,b<w.heap.size:=λb hb=>(Lj.1 hb).elim (QR h.c b) (QR h.a b)
theorem UG.setC {q:IV}(h:UG base w vc va co al) (hq:∀t∈Qeo q,ZN base (ob vc++ob va) w.heap t.1 t.2.1 t.2.2.1 t.2.2.2) (J:w'.ownsRow base 66 5 vc' (co.length+1) (co.flatMap Zh++Zh q))
  (hs:Step (ob vc) w w') (E:∀b∈ob vc',b∈ob vc∨w.heap.size≤b):UG base w' vc' va (co++[q]) al:=by
 have G:Step (ob vc++ob va) w w':=hs.mono (λb hb=>Lj.2 (.inl hb));have H:∀b∈ob vc'++ob va,b∈ob vc++ob va∨w.heap.size≤b:=λb hb=>by
  rcases Lj.1 hb with hb | hb
  ·exact (E b hb).imp (λh=>Lj.2 (.inl h)) id
  exact .inl (Lj.2 (.inr hb))
 refine ⟨?_,Qj h.a hs (λb hb S=>h.dj b S hb),λb hb I=>?_,λd hd t ht=>?_⟩
 ·rw[Lh,Ly];simpa using J
 ·rcases E b hb with h1 | h1
  ·exact h.dj b h1 I
  have:=QR h.a b I;omega
 rcases Lj.1 hd with hd | hd
 ·exact (h.each d hd t ht).app G H
 simp only[List.mem_singleton] at hd;subst hd;exact (hq t ht).app G H
theorem UG.setA {G:LI}(h:UG base w vc va co al) (I:Qu 3 base w' va' G) (hs:Step (ob va) w w') (H:∀b∈ob va',b∈ob va∨w.heap.size≤b):UG base w' vc va' co G:=by
 have J:Step (ob vc++ob va) w w':=hs.mono (λb hb=>Lj.2 (.inr hb));have S:∀b∈ob vc++ob va',b∈ob vc++ob va∨w.heap.size≤b:=λb hb=>by
  rcases Lj.1 hb with hb | hb
  ·exact .inl (Lj.2 (.inl hb))
  exact (H b hb).imp (λh=>Lj.2 (.inr h)) id
 refine ⟨Qj h.c hs (λb hb E=>h.dj b hb E),I,λb hb E=>?_,λd hd t ht=>(h.each d hd t ht).app J S⟩;rcases H b E with h1 | h1
 ·exact h.dj b hb h1
 have:=QR h.c b hb;omega
theorem UG.itms {L:LN}(h:UG base w vc va co al) (G:co.length≤1099511627776) (hm:∀q∈co,UC q.nm) (E:∀b∈L,b<base):Xm L w.heap vc co :=
 ⟨QU h.c G (λb hb H=>by have:=(Qm h.c b hb).1;have:=E b H;omega),λq hq=>⟨h.each q hq (q.p.va,q.p.a.al.length,1,q.p.a.al.map (.int .i64)) (by simp) L (λb hb=>.inl (E b hb)),h.each q hq (q.p.vm,q.p.a.mr.length,1,q.p.a.mr.map (.int .i64)) (by simp) L (λb hb=>.inl (E b hb)),h.each q hq (q.p.ve,q.p.a.ed.length,3,q.p.a.ed.flatMap Qx) (by simp) L (λb hb=>.inl (E b hb))⟩,hm⟩
end
theorem YZ (ns:LN):(bys ns).length=ns.length:=by rw[bys,Le]
def grN (ns:LN) (o:Nat):LN:=(ns.drop o).take 27
theorem QgZ {ns:LN}{o:Nat}(h:o+27≤ns.length):(grN ns o).length=27:=by unfold grN;simp;omega
theorem Qku {ns:LN}{o:Nat}(h:∀n∈ns,n<256):∀n∈grN ns o,n<256:=Qj3 h o 27
theorem QhT (ns:LN) (n:Nat):(bys ns).set 0 (.int .u8 (n:Int))=bys (ns.set 0 n):=by
 unfold bys;rw[List.map_set]
theorem QiH {ns:LN}{n:Nat}(h:∀m∈ns,m<256) (E:n<256):∀m∈ns.set 0 n,m<256:=λm hm=>by
 rcases Ng hm with h1 | rfl
 ·exact h m h1
 exact E
theorem QfI {ns:LN}{n:Nat}(h:0<ns.length):(ns.set 0 n).getD 0 0=n:=by simp[List.getD,h]
structure GdA (a:QN):Prop where
 ok:Q2 a
 p:0<a.st
 s:a.st≤3
 c:∃a0:QN,Q2 a0∧0<a0.st∧a=YI a0
theorem QaT {a:QN}(E:Q2 a) (h:0<a.st):0<(YI a).st:=by
 have H:=(VB E).1;show 0<((found a).length:Int);have G:(0:Int)∈found a:=by
  have key:∀(f i:Nat) (out:LI),(0:Int)∈out→(0:Int)∈yd a f i out:=by
   intro f;induction f with
   | zero=>intro i out h;exact h
   | succ f ih =>
    intro i out h;rw[yd];split
    ·exact ih _ _ (jp _ _ _ h)
    exact h
  refine key _ _ _ ?_;unfold fd0;rw[if_pos h];simp
 have:=List.length_pos_of_mem G;omega
theorem GdA.of {a E:QN}{n:Nat}(G:Q2 E) (h1:0<E.st) (h2:E.st≤((1+n % 5:Nat):Int)) (h3:a=YI E) (I:n<3):GdA a:=by
 have H:=jA G;subst h3;exact ⟨H.1,QaT G h1,by have:=H.2.2;omega,E,G,h1,O⟩
end Go.Proofs.YtdffckgdcegpaaaGreatDoor
namespace Go.Lg
open Go.RowKit
section
variable {P:Program} {n:Nat} {f:Fr} {w:World} {all:List Oper} {C:World→Prop} {K:Fr→World→Prop}
end
section
variable {P:Program} {n:Nat} {f:Fr} {w:World} {all:List Oper} {C J:World→Prop} {K:Fr→World→Prop}
end
end Go.Lg
namespace Go.Proofs.YtdffckgdcegpaaaGreatDoor
open Go.Proofs.Tryz
open Go.Lg
instance ayZi1:Ay prog 29 3 28 27:=⟨by kernel_rfl,by kernel_rfl⟩
theorem QcZ (p:Int×Int):∀u∈QQ p,u.oneCell'=true:=by
 intro y hy;simp only[QQ,List.mem_cons,List.not_mem_nil,or_false] at hy;rcases hy with rfl | rfl <;> rfl
instance ayAv1:Ay prog 23 5 5 1:=⟨underlying23,by kernel_rfl⟩
def nm1 (c k:Nat):ByteArray:=⟨#[UInt8.ofNat (c+k)]⟩
def JF (k n:Nat):KG:=if 48≤n∧n<52 then ⟨nm1 97 k,false,false,false,(n:Int) - 47⟩ else
 ⟨nm1 97 k,decide (((n &&& 1:Nat):Int)=1),decide (((n &&& 2:Nat):Int)=2),decide (((n &&& 4:Nat):Int)=4),0⟩
def Xo (ns:LN) (i:Nat):List KG:=(List.range i).map λk=>JF k (ns.getD k 0)
theorem Qb2 (ns:LN) (i:Nat):Xo ns (i+1)=Xo ns i++[JF i (ns.getD i 0)]:=by
 unfold Xo;rw[List.range_succ,Lu];rfl
theorem Jr (ns:LN) (i:Nat):(Xo ns i).length=i:=by unfold Xo;simp
set_option maxHeartbeats 1000000 in
theorem Qa8 {w:World}{ns:LN}(hn:ns.length=5) (hb:∀n∈ns,n<256) :
  QK prog 51 [.agg (bys ns).toArray] w λr w'=>Step [] w w'∧w'.ownsRow w.heap.size 87 5 r (Xo ns 5).length ((Xo ns 5).flatMap Zn):=by
 refine QK.of_W func51 O ntmps51 results51 (by simp) ?_;refine Qc<|xl O<|QS (us:=bys ns) O λb1 w1 ho hM hp=>Qe ?_;have hv:=ho.size;refine Qc<|Qe<|Qf<|Qc<|Qe<|Qh<|QA (α:=Nat×Value) [(3,53)] (λz=>[(3,z.2),(4,.int .i64 z.1)]) (λz w'=>z.1≤5∧Step [] w1 w'∧w'.ownsRow w1.heap.size 87 5 z.2 (Xo ns z.1).length ((Xo ns z.1).flatMap Zn)) (λz=>5 - z.1) (by rfl) (0,Zg) ⟨O,O,U⟩
  ⟨Ll _,Step.refl _ _,QP _ _ _ _⟩ ?_
 rintro ⟨k,v⟩ g w2 ⟨hk,V,J⟩;simp only[] at hk J;refine Qf<|Qc<|Qb<|x (QB O O)<|xe<|QG rfl (λh7=>?_) (λh7=>?_)
 ·refine Qz ?_;have hw:k=5:=by have h8:¬(k:Int)<5:=h7;omega
  rw[hw] at J;refine Qc<|Qb<|Qe ?_;exact Qn ⟨[v],Z,ho.trans V,Zr J hv⟩
 have E:k<5:=by have h8:(k:Int)<5:=h7;omega
 have q:=Ud (ns:=ns) (j:=0+k*1) (by omega);have ql:=Xw hb (0+k*1);have hy:ns.getD (0+k*1) 0=ns.getD k 0:=by rw[show 0+k*1=k by omega]
 rw[hy] at q ql;have hq:=Qb2 ns k;have hN:=Jr ns k;refine Zc (ns.getD k 0) λn h0=>?_;rw[h0] at q ql hq;have h1:=hp.ext V;refine Qi<|Qf<|Qh<|Qc<|Qb<|x (ZL (k':=.u8) O ⟨by omega,by omega⟩)<|QO O O<|xl O<|QC (us:=[[.int .u8 ((97:Int)+(k:Int))]]) O O (by decide) (by simp) ⟨rfl,rfl,U⟩ λh2 w3 he hO h3=>?_;have h4:((97:Int)+(k:Int))=((97+k:Nat):Int):=by omega
 have h5:QZ w3.heap h2 5 [.int .u8 ((97+k:Nat):Int)]:=by rw[←h4];exact h3
 refine x (Qk7 (n:=97+k) h5 (by omega) O)<|x (QD Z)<|xl O<|Qt (us:=[.string ⟨#[]⟩,.bool false,.bool false,.bool false,.int .i64 0]) O λG w4 h6 hP h9=>xl O<|Qo (us:=Zn ⟨nm1 97 k,false,false,false,0⟩) h9 O O O O ⟨O,O,O,O,O,U⟩ λw5 hA hr =>
  xe ?_
 have hf:Step [] w2 w5:=(he.trans h6).then1 hA (by have:=he.size;omega);have H:=h1.ext hf;have hQ:=hf.size;have hR:=he.size;have hS:=hp.lt;have hT:=V.size;have hg:b1∉[G]:=by simp only[List.mem_singleton];omega
 refine QT (α:=Unit) [(16,49)] (λ_=>[]) (λ_ w'=>Step [G] w5 w'∧QZ w'.heap G 87 (Zn (JF k n))) (by rfl) ?_ ?_
 ·refine QT (α:=Bool) [(16,25)] (λz=>[(25,.bool z)]) (λz w'=>w'=w5∧(z=true↔48≤n∧n<52)) (by rfl) ?_ ?_
  ·refine Qy<|Qb<|x (ZJ (i:=k) O O E)<|x (Qd H O q)<|xb (ZV O O) (λhh=>?_) (λhh=>?_)
   ·have ht:(48:Int)≤(n:Int):=hh;refine Qb<|Qb<|x (ZJ (i:=k) O O E)<|x (Qd H O q)<|x (QB O O)<|x (Ql O)<|xe<|⟨decide ((n:Int)<52),Z,O,?_⟩;rw[decide_eq_true_eq];omega
   have ht:¬(48:Int)≤(n:Int):=hh;refine Qb<|xs O<|xs O<|xs O<|xs O<|x (Ql O)<|xe ?_;exact ⟨false,Z,O,⟨λh=>(by cases h),λh=>absurd (by omega) ht⟩⟩
  rintro z g6 I ⟨rfl,hz⟩;refine Q3 O (λY=>?_) (λY=>?_)
  ·have hc:=hz.1 Y;refine Qy<|Qb<|x (ZJ (i:=k) O O E)<|x (Qd H O q)<|x (ZL (k':=.i64) O ⟨by omega,by omega⟩)<|x (JR O O ⟨by omega,by omega⟩)<|x (Qa O)<|xl O<|QF hr O O (by simp) rfl λw7 S hj =>
    xe ?_
   refine ⟨(),U,S,?_⟩;unfold JF;rw[if_pos hc];exact hj
  have hc:¬(48≤n∧n<52):=λh=>by have:=hz.2 h;rw[this] at Y;cases Y
  have ha:Step [] I { I with drawn:=I.drawn+1 }:=Step.drew _ _
  refine QW (Step [G] I) [(0,true),(1,true),(2,true),(3,true),(4,true),(5,true),(6,true),(7,true),(8,true),(9,true),(10,true),(11,true),(12,true),(13,true),(14,true),(15,true),(16,false),(17,true),(18,false),(19,true),(20,false)] mixed (by rfl) (by kernel_rfl) (Step.drew _ _) ?_
  refine p (λ_=>Qp)<|p (λ_=>ZJ (i:=k) O O E)<|pq (λ_ hc=>Qd (H.step hc hg) O q)<|p (λ_=>qp (a:=n) (b:=1) O O ql (by decide))<|p (λ_=>Q4 O O) <|
   p (λ_=>Qp)<|p (λ_=>ZJ (i:=k) O O E)<|pq (λ_ hc=>Qd (H.step hc hg) O q)<|p (λ_=>qp (a:=n) (b:=2) O O ql (by decide))<|p (λ_=>Q4 O O) <|
   p (λ_=>Qp)<|p (λ_=>ZJ (i:=k) O O E)<|pq (λ_ hc=>Qd (H.step hc hg) O q)<|p (λ_=>qp (a:=n) (b:=4) O O ql (by decide))<|p (λ_=>Q4 O O)<|?_
  refine p (λ_=>Qa O)<|pk<|QF (hr.ext ha) O O (by simp) rfl λw7 S hj=>⟨(ha.any (L:=[G])).trans' S,?_⟩;refine p (λ_=>Qa O)<|pk<|QF hj O O (by simp) rfl λw8 hu hB=>⟨((ha.any (L:=[G])).trans' S).trans' hu,?_⟩;refine p (λ_=>Qa O)<|pkl (hl:=by kernel_rfl)<|QF hB O O (by simp) rfl λw9 hC hD=>pe ?_;refine ⟨(),U,(((ha.any (L:=[G])).trans' S).trans' hu).trans' hC,?_⟩
  unfold JF;rw[if_neg hc];exact hD
 rintro _ g6 I ⟨hE,hF⟩;have hG:Step [] w2 I:=hf.then1 hE (by omega);refine Qy<|Qb<|x (Qr hF O O)<|xl O<|QC (us:=[Zn (JF k n)]) O O (by decide) (show 1*5≤1000000 by omega) ⟨O,O,U⟩ λhU hV hH hW hI=>?_;have hm:=hG.trans hH;have hX:=hm.size
 refine xl rfl<|Q5 (news:=Zn (JF k n)) (L:=[]) (Qq J hm) O O O (hI.at (by simp)) (QaA _) (by omega) (by omega) λhJ hY hK hL hZ =>
  Qe<|Qy<|Qb<|QO O O<|Qe<|⟨(k+1,hJ),by simp only[];omega,⟨O,O,U⟩,E,(V.trans hm).then hL (λc hc=>.inr (Qm J c hc).1),?_⟩
 simp only[];rw[hq,Lh,Ly];simpa using hK
def Xe (k:Nat):LI:=(List.range k).map λi:Nat=>(i:Int)
theorem qw (k:Nat):(Xe k).length=k:=by simp[Xe]
theorem zW (k:Nat):Xe (k+1)=Xe k++[(k:Int)]:=by unfold Xe;rw[List.range_succ,Lu];rfl
theorem Qae (k:Nat) (x:Int):x∈Xe k↔0≤x∧x<(k:Int):=by
 unfold Xe;simp only[List.mem_map,List.mem_range];constructor
 ·rintro ⟨i,hi,rfl⟩;omega
 intro h;exact ⟨x.toNat,by omega,by omega⟩
theorem Qgj (k:Nat):Z0 (Xe k):=by
 induction k with
 | zero=>exact List.Pairwise.nil
 | succ k ih =>
  rw[zW];refine Mo.2 ⟨ih,MX _ _,λx hx y hy=>?_⟩;have:=(Qae k x).1 hx;simp at hy;omega
def Xd (n m:Nat):LI:=(List.range n).map λk:Nat=>if k<m then (k:Int) else -1
theorem ya {m k:Nat}(h:k<m):ZB (Xe m) (k:Int)=k:=by
 unfold ZB Xe;simp[List.getD,h]
theorem QmW {fd out R:LI}{t:Int}(hp:fd=out++R) (hm:t∈out):qF fd t=(out.idxOf t:Nat):=by
 subst hp;unfold qF;rw[if_pos (Lz _ hm),Mi,if_pos hm]
theorem QlC {fd out R:LI}{t:Int}(hp:fd=out++[t]++R) (hm:t∉out):qF fd t=(out.length:Nat):=by
 subst hp;unfold qF;rw[if_pos (by simp),LC,Mi,if_neg hm];simp
theorem z8 {n m k:Nat}(h:k<n):ZB (Xd n m) (k:Int)=if k<m then (k:Int) else -1:=by
 unfold ZB Xd;simp[List.getD,h]
theorem Qgd {n m:Nat}:(Xd n m).set m (m:Int)=Xd n (m+1):=by
 apply L5
 ·simp[Xd]
 intro k h1 h2;have hk:k<n:=by simpa[Xd] using h2
 rw[Np];by_cases e:m=k
 ·subst e;simp[Xd]
 rw[if_neg e];simp only[Xd,List.getElem_map,List.getElem_range];by_cases h3:k<m
 ·rw[if_pos h3,if_pos (by omega)]
 rw[if_neg h3,if_neg (by omega)]
theorem zU {R:Nat→List Ed}(E:∀i,∀e∈R i,e.1=(i:Int)) (j:Nat):∀n,Zz ((List.range' 0 n).flatMap R) j=if j<n then R j else []
 | 0=>by simp[Zz]
 | n+1=>by
  have G:Zz (R n) j=if n=j then R n else []:=by
   unfold Zz;by_cases e:n=j
   ·rw[if_pos e];exact Nm.2 λx hx=>decide_eq_true (by rw[E n x hx,e])
   rw[if_neg e];exact Nc.2 λx hx=>by rw[decide_eq_true_eq,E n x hx];omega
  rw[Mg,Ly,LG];unfold Zz at G ⊢;rw[L7];have ih:=zU E j n;unfold Zz at ih;rw[ih];simp only[List.flatMap_cons,List.flatMap_nil,List.append_nil];rw[G];by_cases h1:j<n
  ·rw[if_pos h1,if_neg (by omega),if_pos (by omega),LH]
  rw[if_neg h1];by_cases h2:n=j
  ·subst h2;rw[if_pos rfl,if_pos (by omega),Mb]
  rw[if_neg h2,if_neg (by omega)];rfl
section
variable {a:QN}
theorem U0 {s:Int}:∀(vs:LI) (out:LI),∃r,vs.foldl (Vb a s) out=out++r
 | [],out=>⟨[],by simp⟩
 | v::vs,out=>by
  rw[LM];obtain ⟨r,E⟩:=U0 vs (Vb a s out v);rw[E];unfold Vb;split
  ·exact ⟨[nxt a.ed s v]++r,by rw[LC]⟩
  exact ⟨r,O⟩
theorem UZ:∀(f i:Nat) (out:LI),∃r,yd a f i out=out++r
 | 0,i,out=>⟨[],by simp[yd]⟩
 | f+1,i,out=>by
  rw[yd];split
  ·obtain ⟨r,E⟩:=UZ f (i+1) (fdR a out (cget out i));obtain ⟨G,H⟩:=U0 (a:=a) (s:=cget out i) a.al out;refine ⟨G++r,?_⟩;rw[E];unfold fdR;rw[H,LC]
  exact ⟨[],by simp⟩
theorem UM {fd:LI}{i:Nat}:∀(vs out:LI) (c:Cs),(∃r,fd=vs.foldl (Vb a (cget fd i)) out++r)→c.ord=Xe out.length→c.num=Xd fd.length out.length →
  (vs.filterMap (JL a fd i)).foldl (Zf i) c=⟨Xe (vs.foldl (Vb a (cget fd i)) out).length,Xd fd.length (vs.foldl (Vb a (cget fd i)) out).length,c.mk',c.ed++vs.filterMap (JL a fd i)⟩
 | [],out,c,_,h1,h2=>by
  obtain ⟨o,n,m,e⟩:=c;simp only[] at h1 h2;subst h1 h2;simp
 | v::vs,out,c,E,h1,h2=>by
  rw[LM] at E ⊢;obtain ⟨r,E⟩:=E;obtain ⟨r2,Y⟩:=U0 (a:=a) (s:=cget fd i) vs (Vb a (cget fd i) out v);have G:fd=Vb a (cget fd i) out v++(r2++r):=by rw[←LC,←Y];exact E
  by_cases I:0≤nxt a.ed (cget fd i) v
  ·have J:JL a fd i v=some ((i:Int),v,qF fd (nxt a.ed (cget fd i) v)):=by unfold JL;rw[if_pos I]
   rw[Mn,J];simp only[];rw[LM];by_cases hm:nxt a.ed (cget fd i) v∈out
   ·have H:Vb a (cget fd i) out v=out:=by unfold Vb;rw[if_neg (λh=>h.2 hm)]
    rw[H] at E G ⊢;have hix:qF fd (nxt a.ed (cget fd i) v)=(out.idxOf (nxt a.ed (cget fd i) v):Nat):=QmW G hm;have ha:=LZ hm;have V:out.length≤fd.length:=by rw[G];simp
    have S:Zf i c ((i:Int),v,qF fd (nxt a.ed (cget fd i) v))=⟨c.ord,c.num,c.mk',c.ed++[((i:Int),v,qF fd (nxt a.ed (cget fd i) v))]⟩:=by
     unfold Zf;simp only[];rw[h2,hix,z8 (by omega),if_pos ha,if_neg (by omega)]
    rw[S,UM vs out ⟨c.ord,c.num,c.mk',c.ed++[((i:Int),v,qF fd (nxt a.ed (cget fd i) v))]⟩ ⟨r,E⟩ h1 h2];simp only[List.append_assoc,List.singleton_append]
   have H:Vb a (cget fd i) out v=out++[nxt a.ed (cget fd i) v]:=by unfold Vb;rw[if_pos ⟨I,hm⟩]
   rw[H] at E G ⊢;have hix:qF fd (nxt a.ed (cget fd i) v)=(out.length:Nat):=QlC G hm;have V:out.length<fd.length:=by rw[G];simp
   have S:Zf i c ((i:Int),v,qF fd (nxt a.ed (cget fd i) v))=⟨Xe (out.length+1),Xd fd.length (out.length+1),c.mk',c.ed++[((i:Int),v,qF fd (nxt a.ed (cget fd i) v))]⟩:=by
    unfold Zf;simp only[];rw[h1,h2,hix,z8 V,if_neg (Nat.lt_irrefl _),if_pos (by omega),qw,zW];simp only[Int.toNat_natCast];rw[Qgd]
   rw[S,UM vs (out++[nxt a.ed (cget fd i) v]) _ ⟨r,E⟩ (by simp) (by simp)];simp only[List.append_assoc,List.singleton_append]
  have J:JL a fd i v=none:=by unfold JL;rw[if_neg I]
  have H:Vb a (cget fd i) out v=out:=by unfold Vb;rw[if_neg (λh=>I h.1)]
  rw[H] at E ⊢;rw[Mn,J];exact UM vs out c ⟨r,E⟩ h1 h2
theorem QhL (fd:LI) (i:Nat):YE a fd (i+1)=YE a fd i++(if cget fd i∈a.mr then [(i:Int)] else []):=by
 unfold YE;rw[Mg,L7,Lu,LG];by_cases h:cget fd i∈a.mr <;> simp[h]
theorem QhN (fd:LI) (i:Nat):YR a fd (i+1)=YR a fd i++a.al.filterMap (JL a fd i):=by
 unfold YR;rw[Mg,Ly,LG];simp
theorem QaU {fd:LI}{i n:Nat}(h:i<n):(i:Int)∈YE a fd n↔cget fd i∈a.mr:=by
 unfold YE;simp only[List.mem_map,List.mem_filter,List.mem_range'_1,decide_eq_true_eq];constructor
 ·rintro ⟨k,⟨_,h2⟩,h3⟩;have:k=i:=by omega
  subst this;exact h2
 intro h2;exact ⟨i,⟨by omega,h2⟩,O⟩
theorem QhM {fd:LI}(J:fd=found a) (hk:fd.length≤a.st.toNat):∀(f g i:Nat) (out:LI),i≤out.length→yd a g i out=fd→i+g=a.st.toNat→fd.length≤i+f →
  YJ (YI a) f i ⟨Xe out.length,Xd fd.length out.length,YE a fd i,YR a fd i⟩=⟨Xe fd.length,Xd fd.length fd.length,YE a fd fd.length,YR a fd fd.length⟩:=by
 have V:(YI a).ed=YR a fd fd.length:=by rw[J];rfl
 have Y:(YI a).mr=YE a fd fd.length:=by rw[J];rfl
 have done:∀(i:Nat) (out:LI),i≤out.length→out=fd→¬i<out.length→(⟨Xe out.length,Xd fd.length out.length,YE a fd i,YR a fd i⟩:Cs)=⟨Xe fd.length,Xd fd.length fd.length,YE a fd fd.length,YR a fd fd.length⟩:=by
  intro i out h1 h2 h3;have:i=fd.length:=by rw[←h2];omega
  rw[this,h2]
 intro f;induction f with
 | zero =>
  intro g i out h1 h2 h3 h4;obtain ⟨r,E⟩:=UZ (a:=a) g i out;rw[h2] at E;have hl:fd.length=out.length+r.length:=by rw[E,Lh]
  have ha:r=[]:=Ln (by omega);rw[YJ];exact done i out h1 (by rw[E,ha,LH]) (by omega)
 | succ f ih =>
  intro g i out h1 h2 h3 h4;obtain ⟨r,E⟩:=UZ (a:=a) g i out;rw[h2] at E;have hl:fd.length=out.length+r.length:=by rw[E,Lh]
  rw[YJ];simp only[qw];by_cases hi:i<out.length
  ·rw[if_pos hi];obtain ⟨G,rfl⟩:∃G,g=G+1:=⟨g - 1,by omega⟩;rw[yd,if_pos hi] at h2;have hb:cget out i=cget fd i:=by
    rw[E];unfold cget;simp[List.getD,List.getElem?_append_left hi]
   rw[hb] at h2;have I:i<fd.length:=by omega
   have hf:Zz (YI a).ed (i:Int)=a.al.filterMap (JL a fd i):=by
    rw[V];unfold YR;rw[zU (λj e he=>by
     obtain ⟨v,_,H⟩:=My.1 he;unfold JL at H;split at H
     ·cases H;rfl
     cases H),if_pos I]
   have hg:ZO (YI a) i ⟨Xe out.length,Xd fd.length out.length,YE a fd i,YR a fd i⟩=⟨Xe out.length,Xd fd.length out.length,YE a fd (i+1),YR a fd i⟩:=by
    unfold ZO;simp only[];rw[ya hi,Y,QhL];by_cases hc:cget fd i∈a.mr
    ·rw[if_pos ((QaU I).2 hc),if_pos hc]
    rw[if_neg (λh=>hc ((QaU I).1 h)),if_neg hc];simp
   have hh:UB (YI a) i ⟨Xe out.length,Xd fd.length out.length,YE a fd i,YR a fd i⟩=⟨Xe (fdR a out (cget fd i)).length,Xd fd.length (fdR a out (cget fd i)).length,YE a fd (i+1),YR a fd (i+1)⟩:=by
    unfold UB;rw[hg];simp only[];rw[ya hi,hf];obtain ⟨r3,S⟩:=UZ (a:=a) G (i+1) (fdR a out (cget fd i));rw[h2] at S;rw[UM a.al out ⟨Xe out.length,Xd fd.length out.length,YE a fd (i+1),YR a fd i⟩ ⟨r3,S⟩ rfl rfl,QhN];rfl
   rw[hh];obtain ⟨r4,hj⟩:=U0 (a:=a) (s:=cget fd i) a.al out;exact ih G (i+1) _ (by unfold fdR;rw[hj,Lh];omega) h2 (by omega) (by omega)
  rw[if_neg hi];have h5:yd a g i out=out:=by
   cases g with
   | zero=>rfl
   | succ g=>rw[yd,if_neg hi]
  exact done i out h1 (h5.symm.trans h2) hi
theorem QhK (E:Q2 a) (G:0<a.st):Yi (YI a)=YI a:=by
 have V:=QaT E G;have I:=(VB E).1.len E.st0;have Y:(YI a).st=((found a).length:Int):=rfl;have H:(YI a).st.toNat=(found a).length:=by omega
 have ha:0<(found a).length:=by omega
 have h:=QhM (a:=a) O I (found a).length a.st.toNat 0 (fd0 a) (Ll _) O (by omega) (by omega);have J:fd0 a=[0]:=by unfold fd0;rw[if_pos G]
 rw[J] at h;have S:ZC (YI a)=⟨Xe 1,Xd (found a).length 1,YE a (found a) 0,YR a (found a) 0⟩:=by
  unfold ZC;rw[H];have e:(List.replicate (found a).length (-1:Int)).set 0 0=Xd (found a).length 1:=by
   apply L5
   ·simp[Xd]
   intro k h1 h2;rw[Np];simp only[Xd,List.getElem_map,List.getElem_range,List.getElem_replicate];by_cases e:k=0
   ·subst e;simp
   rw[if_neg (by omega),if_neg (by omega)]
  rw[e];simp[Xe,YE,YR]
 unfold Yi;rw[if_neg (by omega)];simp only[];rw[S,H];have h':YJ (YI a) (found a).length 0 ⟨Xe 1,Xd (found a).length 1,YE a (found a) 0,YR a (found a) 0⟩=⟨Xe (found a).length,Xd (found a).length (found a).length,YE a (found a) (found a).length,YR a (found a) (found a).length⟩:=h;rw[h'];simp only[qw];rfl
theorem QbW (E:Q2 a) (G:0<a.st):Kd (YI a)=true:=by
 unfold Kd;rw[QhK E G];simp[(ZE _).2 (jA E).1]
theorem GdA.can {a:QN}(h:GdA a):Kd a=true:=by
 obtain ⟨E,h1,h2,rfl⟩:=h.c;exact QbW h1 h2
end
structure Jb (c:Q8):Prop where
 ev:∃ns:LN,ns.length=5∧c.ev=Xo ns 5
 c0:c.co.length≠0
 c3:c.co.length≤3
 r2:c.rq.length≤2
 co:∀x∈c.co,YG x.nm=true∧GdA x.a∧∀e∈x.a.al,e<5
 rq:∀x∈c.rq,YG x.nm=true∧GdA x.a∧∀e∈x.a.al,∃y∈c.co,e∈y.a.al
 nd:(c.co.map (·.nm)++c.rq.map (·.nm)).Nodup
 x2:c.ex.length≤2
 ex:∀x∈c.ex,YG x.nm=true∧x.ls≠[]∧Yv (szs c.co) none x.ls=0
 xn:(c.ex.map (·.nm)).Nodup
 k1:c.cs.length≤1
 cs:∀x∈c.cs,YG x.nm=true∧Yw (szs c.co) x=0
theorem Qiv (n:Nat) (x:Int):x∈JY n↔0≤x∧x<(n:Int):=Qae n x
theorem Qiw (n:Nat):Z0 (JY n):=Qgj n
theorem Qi9 {a b:LI}(ia:Z0 a) (ib:Z0 b) (h:∀e∈a,e∈b):(mns a b).length=0:=by
 refine Nat.eq_zero_of_not_pos λhp=>?_;obtain ⟨x,hx⟩:=List.exists_mem_of_length_pos hp;have:=(UU ia ib x).1 hx;by_cases h1:x∈a
 ·simp[h1,h x h1] at this
 simp[h1] at this
theorem QdJ {nev:Nat}{amg:LI}{seen:List ByteArray}{x:Yp}(G:YG x.nm=true) (hs:x.nm∉seen) (E:GdA x.a) (he:∀e∈x.a.al,e<(nev:Int)) (hi:Z0 amg) (hm:∀e∈x.a.al,e∈amg):Z5 nev amg seen x=0:=by
 have hp:=E.p;unfold Z5;rw[if_neg (by rw[G];decide),if_neg hs,if_neg (by simpa using (ZE _).2 E.ok),if_neg (by rw[E.can];decide),if_neg (by omega),if_neg,if_neg (by simpa using Qi9 E.ok.ali hi hm)];intro h;obtain ⟨e,h1,h2⟩:=Mr.1 h;have:=he e h1;have:=of_decide_eq_true h2;omega
theorem QdK {nev:Nat}{al:LI}(I:Z0 al):∀(l:List Yp) (s:List ByteArray) (u:LI),Z0 u→(∀x∈l,YG x.nm=true∧GdA x.a∧∀e∈x.a.al,e<(nev:Int)∧e∈al)→(s++l.map (·.nm)).Nodup →
  ∃E,Z9 nev al s u l=(0,s++l.map (·.nm),E)∧Z0 E∧∀e,e∈E↔e∈u∨∃y∈l,e∈y.a.al
 | [],s,u,hu,_,_=>⟨u,by simp[Z9],hu,by simp⟩
 | x::l,s,u,hu,hx,H=>by
  obtain ⟨h1,h2,h3⟩:=hx x Lm;have J:x.nm∉s:=by
   intro hm;rw[LO,MD] at H;exact H.2.2 _ hm _ Lm O
  have S:=QdJ h1 J h2 (λe he=>(h3 e he).1) I (λe he=>(h3 e he).2);obtain ⟨E,k1,k2,k3⟩:=QdK I l (s++[x.nm]) (mrg (· || ·) u x.a.al) (Qc8 _ _ _ _ (Lt _) hu h2.ok.ali) (λy hy=>hx y (Lk _ hy)) (by simpa using H);refine ⟨E,?_,k2,λe=>?_⟩
  ·rw[Z9,if_neg (by simpa using S),k1];simp
  rw[k3,UU hu h2.ok.ali];constructor
  ·rintro (⟨h5 | h5,_⟩ | ⟨y,hy,G⟩)
   ·exact .inl h5
   ·exact .inr ⟨x,Lm,h5⟩
   exact .inr ⟨y,Lk _ hy,G⟩
  rintro (h5 | ⟨y,hy,G⟩)
  ·exact .inl ⟨.inl h5,by simp[h5]⟩
  rcases Lb.1 hy with rfl | hy
  ·exact .inl ⟨.inr G,by simp[G]⟩
  exact .inr ⟨y,hy,G⟩
theorem QdH {nev:Nat}{u:LI}(hu:Z0 u):∀(l:List Yp) (s:List ByteArray),(∀x∈l,YG x.nm=true∧GdA x.a∧∀e∈x.a.al,e<(nev:Int)∧e∈u)→(s++l.map (·.nm)).Nodup→Js nev u s l=0
 | [],s,_,_=>rfl
 | x::l,s,hx,E=>by
  obtain ⟨h1,h2,h3⟩:=hx x Lm;have G:x.nm∉s:=by
   intro hm;rw[LO,MD] at E;exact E.2.2 _ hm _ Lm O
  have H:=QdJ h1 G h2 (λe he=>(h3 e he).1) hu (λe he=>(h3 e he).2);rw[Js,if_neg (by simpa using H)];exact QdH hu l (s++[x.nm]) (λy hy=>hx y (Lk _ hy)) (by simpa using E)
theorem yh {sz:LI}:∀(l:List jF) (s:List ByteArray),(∀x∈l,YG x.nm=true∧x.ls≠[]∧Yv sz none x.ls=0)→(s++l.map (·.nm)).Nodup→Yf sz s l=0
 | [],s,_,_=>rfl
 | x::l,s,hx,E=>by
  obtain ⟨h1,h2,h3⟩:=hx x Lm;have G:x.nm∉s:=by
   intro hm;rw[LO,MD] at E;exact E.2.2 _ hm _ Lm O
  have H:Kj s x.nm=0:=by unfold Kj;rw[if_neg (by rw[h1];decide),if_neg G]
  have hl:x.ls.length≠0:=λh=>h2 (Ln h);have I:X8 sz x.ls=0:=by unfold X8;rw[if_neg hl];exact h3
  rw[Yf,if_neg (by simpa using H),if_neg (by simpa using I)];exact yh l (s++[x.nm]) (λy hy=>hx y (Lk _ hy)) (by simpa using E)
theorem Qgf:∀{k:Nat},k<5→YG (nm1 97 k)=true
 | 0,_=>by decide
 | 1,_=>by decide
 | 2,_=>by decide
 | 3,_=>by decide
 | 4,_=>by decide
theorem VH {seen:List ByteArray}{k n:Nat}(hk:k<5) (hs:nm1 97 k∉seen):Xq seen (JF k n)=0:=by
 have E:(JF k n).nm=nm1 97 k:=by unfold JF;split <;> rfl
 unfold Xq;rw[E,if_neg (by rw[Qgf hk];decide),if_neg hs];unfold JF;by_cases h:48≤n∧n<52
 ·rw[if_pos h];simp only[];rw[if_neg (by omega),if_neg (by simp)]
 rw[if_neg h];simp only[];rw[if_neg (by omega),if_neg (by simp)]
theorem QaB (ns:LN):Je (Xo ns 5)=0:=by
 have e:Xo ns 5=[JF 0 (ns.getD 0 0),JF 1 (ns.getD 1 0),JF 2 (ns.getD 2 0),JF 3 (ns.getD 3 0),JF 4 (ns.getD 4 0)]:=rfl;have E:∀k n,(JF k n).nm=nm1 97 k:=λk n=>by unfold JF;split <;> rfl
 unfold Je;rw[if_neg (by rw[Jr];decide),e];simp only[Ur,E];rw[VH (by decide) (by decide),VH (by decide) (by decide),VH (by decide) (by decide),VH (by decide) (by decide),VH (by decide) (by decide)];simp
theorem Jb.ck {c:Q8}(h:Jb c):Zb c=0:=by
 obtain ⟨ns,_,G⟩:=h.ev;have ha:=h.c3;have hc:=h.r2;have I:c.ev.length=5:=by rw[G,Jr]
 obtain ⟨u',k1,k2,k3⟩:=QdK (nev:=c.ev.length) (al:=JY c.ev.length) (Qiw _) c.co [] [] List.Pairwise.nil (λx hx=>by
  obtain ⟨h1,h2,h3⟩:=h.co x hx;refine ⟨h1,h2,λe he=>?_⟩;have:=h3 e he;have:=(h2.ok.al e he).1;rw[I,Qiv];exact ⟨by omega,by omega,by omega⟩) (by
  have:=h.nd;rw[MD] at this;simpa using this.1)
 have J:=QdH (nev:=c.ev.length) k2 c.rq (c.co.map (·.nm)) (λx hx=>by
  obtain ⟨h1,h2,h3⟩:=h.rq x hx;refine ⟨h1,h2,λe he=>?_⟩;obtain ⟨y,hy,E⟩:=h3 e he;have:=(h.co y hy).2.2 e E;exact ⟨by omega,(k3 e).2 (.inr ⟨y,hy,E⟩)⟩) h.nd
 unfold Zb;rw[if_neg (by rw[G];simpa using QaB ns),if_neg h.c0,if_neg (by omega),k1];simp only[List.nil_append];rw[if_neg (by simp),if_neg (by simpa using J)];unfold YH;have hf:(szs c.co).length=c.co.length:=by unfold szs;simp
 have hg:=h.x2;have S:=h.k1;have V:¬(szs c.co).any JS=true:=by
  intro hb;obtain ⟨n,h1,h2⟩:=Mr.1 hb;unfold szs at h1;obtain ⟨x,hx,rfl⟩:=Lp.1 h1;have:=(h.co x hx).2.1;have h3:=this.p;have E:=this.s;unfold JS at h2;simp at h2;omega
 rw[if_neg (by omega),if_neg V,if_neg (by omega),if_neg (by simpa using yh c.ex [] h.ex (by simpa using h.xn))];rcases H:c.cs with _ | ⟨x,l⟩
 ·rfl
 have hl:l=[]:=Ln (by rw[H,LJ] at S;omega);obtain ⟨h1,h2⟩:=h.cs x (by rw[H];exact Lm);have Y:Kj [] x.nm=0:=by unfold Kj;rw[if_neg (by rw[h1];decide),if_neg (by simp)]
 rw[hl,YQ,if_neg (by simpa using Y),if_neg (by simpa using h2)];rfl
end Go.Proofs.YtdffckgdcegpaaaGreatDoor
namespace Go.Proofs
open Go.Proofs.Tryz
open Go.Shelf
def Tryz.sortI_ren:Go.Shelf.Ren:=⟨λ| 5=>101 | 8=>176 | 7=>175 | 19=>229 | 20=>230 | 10=>221 | 11=>222 | 12=>223 | 13=>224 | 14=>225 | 15=>226 | 16=>160 | 17=>227 | 18=>228 | 30=>267 | 31=>268 | 32=>269 | 33=>270 | 34=>271 | 35=>219 | 40=>296 | n=>n,λ| 23=>37 | 25=>3 | 3=>3 | 32=>269 | 22=>37 | 0=>0 | 44=>338 | 46=>340 | 4=>4 | 36=>332 | 35=>331 | 41=>178 | 5=>5 | 9=>9 | 53=>372 | 57=>376 | 63=>401 | 64=>381 | n=>n,λ| n=>n⟩
theorem Tryz.sortI:Go.Proofs.SlLaysM.n5 prog Tryz.sortI_ren:={
 mixed:=by kernel_rfl
 f5:=⟨Tryz.f101.name,by decide,func101.trans (congrArg some (by kernel_rfl))⟩
 f7:=⟨Tryz.f175.name,by decide,func175.trans (congrArg some (by kernel_rfl))⟩
 f8:=func176.trans (congrArg some (by kernel_rfl))
 f10:=⟨Tryz.f221.name,by decide,func221.trans (congrArg some (by kernel_rfl))⟩
 f11:=⟨Tryz.f222.name,by decide,func222.trans (congrArg some (by kernel_rfl))⟩
 f12:=⟨Tryz.f223.name,by decide,func223.trans (congrArg some (by kernel_rfl))⟩
 f13:=⟨Tryz.f224.name,by decide,func224.trans (congrArg some (by kernel_rfl))⟩
 f14:=⟨Tryz.f225.name,by decide,func225.trans (congrArg some (by kernel_rfl))⟩
 f15:=⟨Tryz.f226.name,by decide,func226.trans (congrArg some (by kernel_rfl))⟩
 f16:=⟨Tryz.f160.name,by decide,func160.trans (congrArg some (by kernel_rfl))⟩
 f17:=⟨Tryz.f227.name,by decide,func227.trans (congrArg some (by kernel_rfl))⟩
 f18:=⟨Tryz.f228.name,by decide,func228.trans (congrArg some (by kernel_rfl))⟩
 f19:=func229.trans (congrArg some (by kernel_rfl))
 f20:=func230.trans (congrArg some (by kernel_rfl))
 f30:=⟨Tryz.f267.name,by decide,func267.trans (congrArg some (by kernel_rfl))⟩
 f31:=func268.trans (congrArg some (by kernel_rfl))
 f32:=func269.trans (congrArg some (by kernel_rfl))
 f33:=⟨Tryz.f270.name,by decide,func270.trans (congrArg some (by kernel_rfl))⟩
 f34:=⟨Tryz.f271.name,by decide,func271.trans (congrArg some (by kernel_rfl))⟩
 f35:=⟨Tryz.f219.name,by decide,func219.trans (congrArg some (by kernel_rfl))⟩
 f40:=⟨Tryz.f296.name,by decide,func296.trans (congrArg some (by kernel_rfl))⟩
 t0:=underlying0
 a0:=Tryz.isAgg0
 z0:=Tryz.sizeOf0
 v0:=Tryz.zeroValue0
 t3:=underlying3
 a3:=Tryz.isAgg3
 z3:=Tryz.sizeOf3
 v3:=Tryz.zeroValue3
 t4:=underlying4
 a4:=Tryz.isAgg4
 z4:=Tryz.sizeOf4
 v4:=Tryz.zeroValue4
 t5:=underlying5
 a5:=Tryz.isAgg5
 z5:=Tryz.sizeOf5
 v5:=Tryz.zeroValue5
 t9:=underlying9
 a9:=Tryz.isAgg9
 z9:=Tryz.sizeOf9
 v9:=Tryz.zeroValue9
 t22:=underlying37
 a22:=Tryz.isAgg37
 z22:=Tryz.sizeOf37
 v22:=Tryz.zeroValue37
 t23:=underlying37
 a23:=Tryz.isAgg37
 z23:=Tryz.sizeOf37
 v23:=Tryz.zeroValue37
 t25:=underlying3
 a25:=Tryz.isAgg3
 z25:=Tryz.sizeOf3
 v25:=Tryz.zeroValue3
 t32:=underlying269
 a32:=Tryz.isAgg269
 z32:=Tryz.sizeOf269
 v32:=Tryz.zeroValue269
 t35:=underlying331
 a35:=Tryz.isAgg331
 z35:=Tryz.sizeOf331
 v35:=Tryz.zeroValue331
 t36:=underlying332
 a36:=Tryz.isAgg332
 z36:=Tryz.sizeOf332
 v36:=Tryz.zeroValue332
 t41:=underlying178
 a41:=Tryz.isAgg178
 z41:=Tryz.sizeOf178
 v41:=Tryz.zeroValue178
 t44:=underlying338
 a44:=Tryz.isAgg338
 z44:=Tryz.sizeOf338
 v44:=Tryz.zeroValue338
 t46:=underlying340
 a46:=Tryz.isAgg340
 z46:=Tryz.sizeOf340
 v46:=Tryz.zeroValue340
 t53:=underlying372
 a53:=Tryz.isAgg372
 z53:=Tryz.sizeOf372
 v53:=Tryz.zeroValue372
 t57:=underlying376
 a57:=Tryz.isAgg376
 z57:=Tryz.sizeOf376
 v57:=Tryz.zeroValue376
 t63:=underlying401
 a63:=Tryz.isAgg401
 z63:=Tryz.sizeOf401
 v63:=Tryz.zeroValue401
 t64:=underlying381
 a64:=Tryz.isAgg381
 z64:=Tryz.sizeOf381
 v64:=Tryz.zeroValue381 }
def Tryz.cmpI_ren:Go.Shelf.Ren:=⟨λ| 43=>129 | n=>n,λ| 22=>37 | 23=>3 | 3=>3 | 4=>4 | 0=>0 | n=>n,λ| n=>n⟩
theorem Tryz.cmpI:Go.Proofs.SlLaysE.n43 prog Tryz.cmpI_ren:={
 mixed:=by kernel_rfl
 f43:=⟨Tryz.f129.name,by decide,func129.trans (congrArg some (by kernel_rfl))⟩
 t0:=underlying0
 a0:=Tryz.isAgg0
 z0:=Tryz.sizeOf0
 v0:=Tryz.zeroValue0
 t3:=underlying3
 a3:=Tryz.isAgg3
 z3:=Tryz.sizeOf3
 v3:=Tryz.zeroValue3
 t4:=underlying4
 a4:=Tryz.isAgg4
 z4:=Tryz.sizeOf4
 v4:=Tryz.zeroValue4
 t22:=underlying37
 a22:=Tryz.isAgg37
 z22:=Tryz.sizeOf37
 v22:=Tryz.zeroValue37
 a23:=Tryz.isAgg3
 z23:=Tryz.sizeOf3 }
def Tryz.delI_ren:Go.Shelf.Ren:=⟨λ| 10=>55 | 6=>131 | n=>n,λ| 22=>37 | 23=>3 | 25=>118 | 3=>3 | 4=>4 | 0=>0 | n=>n,λ| n=>n⟩
theorem Tryz.delI:Go.Proofs.SlLaysH.n10 prog Tryz.delI_ren:={
 mixed:=by kernel_rfl
 f6:=⟨Tryz.f131.name,by decide,func131.trans (congrArg some (by kernel_rfl))⟩
 f10:=⟨Tryz.f55.name,by decide,func55.trans (congrArg some (by kernel_rfl))⟩
 t0:=underlying0
 a0:=Tryz.isAgg0
 z0:=Tryz.sizeOf0
 v0:=Tryz.zeroValue0
 t3:=underlying3
 a3:=Tryz.isAgg3
 z3:=Tryz.sizeOf3
 v3:=Tryz.zeroValue3
 t4:=underlying4
 a4:=Tryz.isAgg4
 z4:=Tryz.sizeOf4
 v4:=Tryz.zeroValue4
 t22:=underlying37
 a22:=Tryz.isAgg37
 z22:=Tryz.sizeOf37
 v22:=Tryz.zeroValue37
 a23:=Tryz.isAgg3
 z23:=Tryz.sizeOf3
 t25:=underlying118
 a25:=Tryz.isAgg118
 z25:=Tryz.sizeOf118
 v25:=Tryz.zeroValue118 }
end Go.Proofs
namespace Go.Proofs.YtdffckgdcegpaaaGreatDoor
open Go.Proofs.Tryz
open Go.Lg Go.Sort Go.Lib
abbrev iC:Int→Value:=Value.int .i64
theorem V0 {e:Nat}{w:World}{l:LI}{g:Nat}{cur:Array Value}(G:w.heap[g]?=some (.cells cur e (0,0))) (H:cur.toList.take (l.length*1)=l.map iC):Holds iC w g 0 l.toArray:=by
 intro j E;rw[LX] at E;have h1:cur.toList[j]?=some (iC l[j]):=by
  have h2:(cur.toList.take (l.length*1))[j]?=(l.map iC)[j]?:=by rw[H]
  rw[LW,if_pos (by omega),MR,LB E] at h2;exact h2
 have h3:l.toArray[j]! = l[j]:=by simp[E]
 constructor
 ·show (match w.heap[g]? with | some (.cells c _ _)=>if (none:Option _).isSome then none else c[0+j]? | _=>none)=_
  rw[G,h3];simp only[Nat.zero_add,Option.isSome_none,Bool.false_eq_true,if_false];rw[←MJ,h1]
 show (match w.heap[g]? with | some (.cells _ _ (lo,hi))=>decide (lo≤0+j) && decide (0+j<hi) | _=>false)=false
 rw[G];simp
theorem yQ {e base:Nat}{w:World}{g cap n k:Nat}{cur:Array Value}{os:Array Obj}{d:Array Int}(J:base≤g) (H:w.heap[g]?=some (.cells cur e (0,0))) (hc:d.size≤cap) (S:cap≤maxLen) (V:cur.size=cap*1) (hk:k≤d.size) :
  Step [g] w (grow (putRow iC (Sort.ahead w n) g 0 d) os)∧Qu e base (grow (putRow iC (Sort.ahead w n) g 0 d) os) (.slice (some ⟨g,0,none⟩) k cap) (d.toList.take k):=by
 have Y:g<w.heap.size:=(LE.1 H).1;have E:(grow (putRow iC (Sort.ahead w n) g 0 d) os).heap=w.heap.modify g (onCells (putCells iC 0 d))++os:=rfl;have ha:(d.toList.take k).length=k:=by simp;omega
 refine ⟨⟨O,O,O,?_,λi hi hn=>?_⟩,?_⟩
 ·rw[E,Ni,MC];omega
 ·rw[E,Mz,MC,if_pos hi,MS,if_neg (λe=>hn (by simp[e]))]
 unfold Qu;rw[ha];refine ⟨by simp;omega,.inr ⟨g,cap,putCells iC 0 d cur,O,J,?_,by omega,S,by simp[putCells,V],?_⟩⟩
 ·rw[E,Mz,MC,if_pos Y,MS,if_pos rfl,H];rfl
 apply Nj;intro j;rw[LW,MR,LW];by_cases I:j<k
 ·rw[if_pos (by omega),if_pos I];have hb:j<cur.size:=by omega
  have G:j<d.size:=by omega
  rw[MJ,MJ,MG G];simp only[putCells,Array.getElem?_mapIdx,Array.getElem?_eq_getElem hb,Option.map_some,Nat.zero_le,Nat.zero_add,true_and,if_pos G,Nat.sub_zero];rw[getElem!_pos d j G]
 rw[if_neg (by omega),if_neg I];rfl
theorem zM {w:World}{base:Nat}{v:Value}{l:LI}(h:Qu 3 base w v l) (hl:l.length≤1099511627776) :
  QK prog 101 [v] w λ_ w'=>Step (ob v) w w'∧Qu 3 base w' v (l.mergeSort λx y=>decide (x≤y)):=by
 unfold QK;rcases h.2 with ⟨rfl,H⟩ | ⟨g,cap,cur,rfl,I,E,hb,J,S,V⟩
 ·have Y:l=[]:=Ln H;subst Y;have hc:=AnyM.slices_Sort_int_none Tryz.sortI none 0 w;change Calls prog 101 _ _ _ at hc;refine Calls.mono hc λe w' he=>?_;obtain ⟨rfl,rfl⟩:=he;exact ⟨Step.refl _ _,by rw[List.mergeSort_nil];exact h⟩
 have ha:g<w.heap.size:=(LE.1 E).1;have hc:=AnyM.slices_Sort_int Tryz.sortI g 0 cap l w (V0 E V) ha (by omega);change Calls prog 101 _ _ _ at hc;refine Calls.mono hc λe w' he=>?_;obtain ⟨rfl,n,os,rfl⟩:=he;have hp:=Nl l (λx y=>decide (x≤y));have G:=hp.length_eq
 have:=yQ (e:=3) (n:=n) (k:=l.length) (os:=os) (d:=(l.mergeSort λx y=>decide (x≤y)).toArray) I E (by simp;omega) J S (by simp);refine ⟨this.1,?_⟩;have h2:=this.2;simp only[List.take_of_length_le (Nat.le_of_eq G)] at h2;unfold Qu at h2 ⊢;rw[G] at h2 ⊢;exact h2
theorem QfG {w:World}{base:Nat}{v:Value}{l:LI}(h:Qu 3 base w v l) (hl:l.length≤1099511627776) :
  QK prog 101 [v] w λ_ w'=>Step (ob v) w w'∧∃l',l'.length=l.length∧(∀x,x∈l'↔x∈l)∧Qu 3 base w' v l' :=
 (zM h hl).mono λ_ _ ⟨h1,h2⟩=>⟨h1,_,(Nl l _).length_eq,λ_=>(Nl l _).mem_iff,h2⟩
theorem QdE (l:LI):∀m,m≤l.length→∀x,x∈compactUpTo l.toArray m↔x∈l.take m
 | 0,_,x=>by simp[compactUpTo]
 | m+1,h,x=>by
  have ih:=QdE l m (by omega) x;have hm:m<l.length:=by omega
  have hx:l.toArray[m]! = l[m]:=by simp[hm]
  rw[compactUpTo_succ,Lj,ih,Li hm,Lj,hx,La];by_cases hk:keeps l.toArray m=true
  ·rw[if_pos hk,La]
  rw[if_neg hk];refine ⟨λh=>.inl (h.resolve_right (by simp)),λh=>.inl (h.elim id λe=>?_)⟩;simp only[keeps,decide_eq_true_eq,not_or] at hk;have E:m≠0:=by simpa using hk.1
  have h1:l.toArray[m]! = l.toArray[m - 1]!:=by simpa using hk.2
  have h2:l.toArray[m - 1]! = l[m - 1]:=by simp[show m - 1<l.length by omega]
  rw[e,←hx,h1,h2];rw[List.mem_take_iff_getElem];exact ⟨m - 1,by omega,O⟩
theorem QjY {w:World}{base:Nat}{v:Value}{l:LI}(h:Qu 3 base w v l) (hl:l.length≤1099511627776) :
  QK prog 129 [v] w λr w'=>Step (ob v) w w'∧∃l',l'.length≤l.length∧(∀x,x∈l'↔x∈l)∧Qu 3 base w' r l':=by
 rcases h.2 with ⟨rfl,G⟩ | ⟨g,cap,cur,rfl,H,E,I,J,S,V⟩
 ·have Y:l=[]:=Ln G;subst Y;refine QK.of_W func129 O ntmps129 results129 (by simp) ?_;refine Qc<|Qe<|Qf<|Qc<|Qb<|x (Um O)<|x (QB O O)<|xe<|Q7 O (λ_=>?_) (λh8=>absurd (by decide) h8);refine Qc<|Qb<|Qe ?_;exact Qn ⟨[nS],Z,Step.refl _ _,[],Lt _,λx=>Iff.rfl,h⟩
 unfold QK;have hc:=AnyE.slices_Compact Tryz.cmpI iC (λ_=>O) (.intD _ _ .i64) (.intD _ _ .i64) 0 (λw=>by kernel_rfl) g 0 cap l.toArray w (V0 E V) (by simp;omega) (by simpa using I);change Calls prog 129 _ _ _ at hc;rw[LX] at hc;refine Calls.mono hc λe w' he=>?_;obtain ⟨rfl,q,rfl⟩:=he;have hm:=QdE l l.length (Lt _);rw[M0] at hm
 have ha:(compactUpTo l.toArray l.length).length≤l.length:=by
  unfold compactUpTo;rw[Le];exact LS (Ma _ _) (by simp)
 generalize compactUpTo l.toArray l.length=u at *;have:=yQ (e:=3) (n:=q) (k:=u.length) (os:=#[]) (d:=(u++List.replicate (l.length - u.length) 0).toArray) H E (by simp;omega) J S (by simp);rw[grow_empty] at this;refine ⟨this.1,u,ha,hm,?_⟩;have h2:=this.2;have h3:(u++List.replicate (l.length - u.length) 0).toArray.toList.take u.length=u:=by simp
 rw[h3] at h2;exact h2
theorem Qbh {w:World}{va vb:Value}{a b:LI}(ha:QL [] w.heap va a) (hb:QL [] w.heap vb b) (hl:a.length+b.length≤1000) :
  QK prog 53 [va,vb] w λr w'=>Step [] w w'∧∃l,l.length≤a.length+b.length∧(∀x,x∈l↔x∈a∨x∈b)∧Qu 3 w.heap.size w' r l:=by
 refine QK.of_W func53 O ntmps53 results53 (by simp) ?_;refine Qc<|Qe<|Qc<|Qb<|xl O<|xf<|(ZZ ha).mono ?_;rintro v1 w1 ⟨E,G⟩;have hn:=E.size;refine Qb<|xl O<|yY G O (hb.ext E) O (Vo b) (by omega) (by omega) λS H V Y ho=>Qe ?_;have I:Qu 3 w.heap.size H S (a++b):=by
  unfold Qu;rw[Lh,Lu];exact V
 have he:Step [] w H:=E.then Y (λc hc=>.inr (Qm G c hc).1);have hp:(a++b).length=a.length+b.length:=Lh;refine Qc<|Qb<|xl O<|xf<|(QfG I (by omega)).mono ?_;rintro r3 w3 ⟨hf,l3,hq,hg,J⟩;have hh:Step [] w w3:=he.then hf (λc hc=>.inr (Qm I c hc).1);refine xe<|Qc<|Qb<|xl O<|xf<|(QjY J (by omega)).mono ?_;rintro r4 w4 ⟨hj,l4,hr,hk,hm⟩
 refine Qe ?_;exact Qn ⟨[_],Z,hh.then hj (λc hc=>.inr (Qm J c hc).1),l4,by omega,λx=>by rw[hk,hg,Lj],hm⟩
theorem qK {w:World}{v:Value}{al:LI}{ns:LN}(h:QL [] w.heap v al) (hb:∀e∈al,0≤e∧e<32) (hi:Z0 al) (hn:ns.length=27) (J:∀n∈ns,n<256) :
  QK prog 54 [v,.agg (bys ns).toArray,.int .i64 3] w λr w'=>Step [] w w'∧∃a:QN,Y0 w.heap.size w'.heap r a∧GdA a∧a.al=al:=by
 refine QK.of_W func54 O ntmps54 results54 (by simp) ?_;refine Qc<|xl O<|QS (us:=bys ns) O λb4 w1 S hl E=>xl O<|Qt (us:=[nS,.int .i64 0,nS,nS]) O λb6 w2 G hu V=>xe ?_;obtain ⟨s0,hm⟩:∃s0,ns.getD 0 0=s0:=⟨_,O⟩;have Y:ns[0]?=some s0:=by
  rw[←hm,LQ,LB (by omega)];rfl
 have hw:s0<256:=J s0 (Mf Y);have q0:(bys ns)[0]?=some (.int .u8 (s0:Int)):=by
  unfold bys;rw[MR,Y];rfl
 have ha:=S.trans G;have hy:=S.size;have hz:=E.lt;have h0:=V.lt;refine Qc<|x (Qa O)<|x (Qd (E.ext G) O q0)<|Qb<|x (ZL (k':=.u8) O ⟨by omega,by omega⟩)<|x (Ul (a:=(s0:Int)) (b:=3) O O (by omega) (by omega))<|x (Qa O)<|xl O<|QF (u:=.int .u8 ((s0 % 3:Nat):Int)) (E.ext G) O (congrArg (Value.int .u8) (by omega:(s0:Int) % 3=((s0 % 3:Nat):Int))) (by rw[YZ];omega) O λw3 H he =>
  xe ?_
 have I:Step [] w w3:=ha.then1 H hl;rw[QhT] at he;have hf:(ns.set 0 (s0 % 3)).length=27:=by rw[Nv];exact hn
 have hg:(ns.set 0 (s0 % 3)).getD 0 0=s0 % 3:=QfI (by omega);refine Qc<|Qb<|x (Qr he O (by rw[YZ];exact hf))<|xl O<|xf<|(Qek (h.ext I) hb hi hf (QiH J (by omega))).mono ?_;rintro r4 w4 ⟨hh,a,hA,h1,_,ho,hc⟩;obtain ⟨a0,k0,k1,k2,k3⟩:=hc (by rw[hg];omega);rw[hg] at k2;obtain ⟨us,hv,hj,hp⟩:=Y5 hA
 have hq:QZ w4.heap b6 58 [nS,.int .i64 0,nS,nS]:=(V.step H (by simp only[List.mem_singleton];omega)).ext hh;have hr:=I.size;have h2:=ha.size;have h3:=H.size;refine xl rfl<|Qo (us:=us) hq O (show Go.Lg.ev _ _=_ from hv) hj O hp λw5 hk ht=>xe ?_
 refine Qn ⟨[.agg us.toArray],⟨⟨_,O,Qv hj (ht.at (L:=[]) (by simp)).cells⟩,U⟩,(I.trans hh).then1 hk (by omega),a,?_,GdA.of k0 k1 k2 k3 (Nat.mod_lt _ (by decide)),ho⟩;show Y0 _ _ (.agg us.toArray) _;rw[←hv];exact (Xi hA (by omega) hk).mono hr
end Go.Proofs.YtdffckgdcegpaaaGreatDoor
namespace Go.Lg
section
variable {P:Program} {f:Fr} {w:World} {d:Option Nat} {ty:Nat} {ps:String} {af:Array Edge} {gd:Option (Nat×Bool)}
theorem VY {t E:Nat}{k:IntKind}[h:Ik P t k] [h':St P E] {x:Operand}{n:Nat}{G:IntKind}(hx:ev f x=.int G n) (H:n<128) :
  (execOp (ev f) ⟨d,.convert t E x,ty,ps,af,gd⟩).run P w=.ok (.value (.string ⟨#[UInt8.ofNat n]⟩)) w:=by
 refine UQ hx ?_;rw[run_convert_int_string w t E G n (by rw[h.u];rfl) h'.u];have I:Utf8.valid (n:Int)=true:=by
  unfold Utf8.valid;simp;omega
 unfold Utf8.encode;simp only[I,if_true,Int.toNat_natCast,H]
theorem QfQ {t E:Nat}{x y:Operand}{k:IntKind}{a b:Int}(hx:ev f x=.int k a) (hy:ev f y=.int k b) (hb:b≠0) :
  (execOp (ev f) ⟨d,.binOp .rem t x y E,ty,ps,af,gd⟩).run P w=.ok (.value (.int k (a.tmod b))) w:=by
 refine Xb hx hy ?_;simp[binOp,Op.intDiv,hb]
end
end Go.Lg
namespace Go.Proofs.YtdffckgdcegpaaaGreatDoor
open Go.Proofs.Tryz
open Go.Lg Go.Sort
theorem Qlp {L:LN}{b T:Nat}{va:Value}{al:LI}(e:Int) (w:World) (E:QZ w.heap b T [va]) (G:QL L w.heap va al) :
  QK prog 56 ([.int .i64 e]++[.pointer (some ⟨b,0,none⟩)]) w λr w'=>r=.bool (decide (e∉al))∧w'=w:=by
 refine QK.of_W func56 O ntmps56 results56 (by simp) ?_;refine Qc<|Qe<|Qc<|x (Qd E O O)<|Qb<|xl O<|xf<|(ZP G e).mono ?_;rintro H I ⟨rfl,rfl⟩;refine x (Zm O)<|Qe<|Qn ⟨[_],Z,?_,O⟩;show Value.bool (!decide (e∈al))=_;rw[decide_not]
theorem zZ {L:LN}{b T:Nat}{va:Value}{al:LI}(e:Int) (w:World) (E:QZ w.heap b T [va]) (G:QL L w.heap va al) :
  FnGives prog 56 #[.pointer (some ⟨b,0,none⟩)] #[iC e] (.bool (decide (e∉al))) w:=by
 have h:=Qlp e w E G;unfold QK at h;unfold FnGives;refine Calls.mono h λH w' he=>?_;cases H with
 | returned v =>
  obtain ⟨rfl,rfl⟩:=he;exact ⟨O,0,O⟩
 | _=>exact he.elim
theorem Qk9 {w:World}{g n:Nat}{os:Array Obj}{d:Array Int}:Step [g] w (grow (putRow iC (Sort.ahead w n) g 0 d) os):=by
 have E:(grow (putRow iC (Sort.ahead w n) g 0 d) os).heap=w.heap.modify g (onCells (putCells iC 0 d))++os:=rfl;refine ⟨O,O,O,?_,λi hi G=>?_⟩
 ·rw[E,Ni,MC];omega
 rw[E,Mz,MC,if_pos hi,MS,if_neg (λe=>G (by simp[e]))]
theorem QjQ {w:World}{base b T:Nat}{v va:Value}{l al:LI}(h:Qu 3 base w v l) (hl:l.length≤1099511627776) (G:QZ w.heap b T [va]) (hb:b∉ob v) (H:QL (ob v) w.heap va al) :
  QK prog 55 [v,.func (.func 56) #[] #[.pointer (some ⟨b,0,none⟩)]] w λr w'=>Step (ob v) w w'∧Qu 3 base w' r (l.filter λx=>decide (x∈al)):=by
 have eg:∀args w,(callFunc 56 args).run prog w=.ok (.enter 56 args) w:=enters_of func56 (by kernel_rfl) O;rcases h.2 with ⟨rfl,V⟩ | ⟨g,cap,cur,rfl,Y,I,ha,hh,hj,hm⟩
 ·have hn:l=[]:=Ln V;subst hn;refine QK.of_W func55 O ntmps55 results55 (by simp) ?_;refine Qc<|Qe<|Qc<|Qb<|Qb<|xl O<|xf<|(QgR (cap:=[.pointer (some ⟨b,0,none⟩)]) (q:=λ_=>true) (QL.fl (JA [] w.heap)) (λe he=>by cases he)).mono ?_;rintro r1 w1 ⟨rfl,J⟩;refine Qe<|Qf<|Qc<|Qb<|x (Q4 O O)<|xe<|Q7 O (λ_=>?_) (λh8=>absurd O h8);refine Qc<|Qb<|Qe ?_
  exact Qn ⟨[nS],Z,J,Qq h J⟩
 unfold QK;have S:=λ(n:Nat) (os:Array Obj) (d:Array Int)=>Qk9 (w:=w) (g:=g) (n:=n) (os:=os) (d:=d);have ho:b∉[g]:=hb;have hp:QL [g] w.heap va al:=H;have hc:=AnyE.slices_DeleteFunc Tryz.delI iC (λ_=>O) (λx=>decide (x∉al)) 56 #[.pointer (some ⟨b,0,none⟩)] eg 0 (λw=>by kernel_rfl) g 0 cap l.toArray w
  (λW x E=>by
   have hs:Step [] w W:=⟨E.os,E.tape,E.output,E.size,λk hk _=>E.block k hk⟩;exact zZ x W (G.ext hs) (H.ext hs))
  (λn os dk x _=>zZ x _ (G.step (S n os dk) ho) (hp.st (S n os dk)))
  (V0 I hm) (by simp;omega) (by simpa using ha)
 change Calls prog 55 _ _ _ at hc;rw[LX] at hc;refine Calls.mono hc λe w' he=>?_;obtain ⟨rfl,q,rfl⟩:=he;have hf:(l.toArray.toList.filter λx=>!decide (x∉al))=l.filter λx=>decide (x∈al):=by
  refine List.filter_congr λx _=>?_;by_cases hx:x∈al <;> simp[hx]
 rw[hf];have hq:=Ma (λx=>decide (x∈al)) l;generalize (l.filter λx=>decide (x∈al))=u at *;have:=yQ (e:=3) (n:=q) (k:=u.length) (os:=#[]) (d:=(u++List.replicate (l.length - u.length) 0).toArray) Y I (by simp;omega) hh hj (by simp);rw[grow_empty] at this;refine ⟨this.1,?_⟩;have h2:=this.2
 have h3:(u++List.replicate (l.length - u.length) 0).toArray.toList.take u.length=u:=by simp
 rw[h3] at h2;exact h2
end Go.Proofs.YtdffckgdcegpaaaGreatDoor
namespace Go.Lg
section
variable {P:Program} {f:Fr} {w:World} {K:Fr→World→Prop} {d:Option Nat} {ty:Nat} {ps:String} {af:Array Edge} {gd:Option (Nat×Bool)}
theorem Qi2 {t e sz bys:Nat}{z:Value}[h:Sl P t e sz bys z] (Y:∀u∈z.cells,u.oneCell'=true) {s:Operand}{b o m c T:Nat}{cs:LV}(H:QZ w.heap b T cs) (hs:∃E,ev f s=.slice (some ⟨b,E,none⟩) m c∧(0<m→E=o∧o+m*sz≤cs.length))
  (S:∀w' cs',Step [b] w w'→QZ w'.heap b T cs'→cs'.length=cs.length→cs'.take o=cs.take o→K (QV f d (.tuple #[])) w'):XO P ⟨d,.call ⟨.builtin .clear,#[s],#[t]⟩,ty,ps,af,gd⟩ f w K:=by
 obtain ⟨E,hs,hm⟩:=hs;obtain ⟨i,hi,hz,hc,_⟩:=Sl.info h;have ha:=h.zs;rcases Nat.eq_zero_or_pos m with rfl | hmp
 ·have I:(execOp (ev f) ⟨d,.call ⟨.builtin .clear,#[s],#[t]⟩,ty,ps,af,gd⟩).run P w=.ok (.value (.tuple #[])) w:=by
   simp[execOp,resolve,invoke,builtin,hs,Builtin.clear_,run_underlying h.u]
  exact xv I (S w cs (Step.refl _ _) H O O)
 obtain ⟨rfl,he⟩:=hm hmp;have hb:(Builtin.zeroCells z.cells m).toList.length=m*sz:=by simp[Builtin.zeroCells,ha]
 have J:=run_storeCells_at P b E T (Builtin.zeroCells z.cells m).toList 0 cs.toArray w H (by simp only[List.size_toArray];omega) (λu hu=>by
  simp only[Builtin.zeroCells,Array.toList_map,List.mem_map] at hu;obtain ⟨j,hj,rfl⟩:=hu;have hf:=h.pos;have V:j % z.cells.size<z.cells.size:=Nat.mod_lt _ (by omega);rw[getElem!_pos z.cells _ V];exact Y _ (Array.getElem_mem V))
 simp only[Nat.add_zero] at J;obtain ⟨G,rfl⟩:∃G,m=G+1:=⟨m - 1,by omega⟩;have I:(execOp (ev f) ⟨d,.call ⟨.builtin .clear,#[s],#[t]⟩,ty,ps,af,gd⟩).run P w=.ok (.value (.tuple #[])) (w.setRow b ((cs.take E++(Builtin.zeroCells z.cells (G+1)).toList++cs.drop (E+(Builtin.zeroCells z.cells (G+1)).toList.length))).toArray):=by
  simp[execOp,resolve,invoke,builtin,hs,Builtin.clear_,run_underlying h.u,zeroValue,typeInfo,hi,hz] at J ⊢;simp[J]
 refine xv I (S _ _ (Step.setRow _ _ _) (Jy H) ?_ ?_)
 ·simp only[List.length_append,List.length_take,List.length_drop,hb];omega
 rw[LC,List.take_append_of_le_length (by simp;omega),List.take_take,Nat.min_self]
theorem Kf {α:Type}{sz:Nat}{g:α→LV}(E:∀x,(g x).length=sz):∀(l:List α) (i:Nat) (u:α),i<l.length→(l.set i u).flatMap g=(l.flatMap g).take (i*sz)++g u++(l.flatMap g).drop (i*sz+sz)
 | [],i,u,h=>absurd h (by simp)
 | a::l,0,u,h=>by
  rw[List.set_cons_zero,LF,LF,Nat.zero_mul,Nn,Mb,LG,List.drop_append_of_le_length (by rw[E a];exact Lt _),Lr (by rw[E a];exact Lt _),Mb]
 | a::l,i+1,u,h=>by
  have h1:(i+1)*sz=(g a).length+i*sz:=by rw[E a,Nat.succ_mul];omega
  have h2:(i+1)*sz+sz=(g a).length+(i*sz+sz):=by omega
  have G:∀(F:LV) k,(g a++F).take ((g a).length+k)=g a++F.take k:=λF k=>by rw[List.take_append,Lo (l:=g a) (by omega),ML]
  have H:∀(F:LV) k,(g a++F).drop ((g a).length+k)=F.drop k:=λF k=>by rw[List.drop_append,Lr (l:=g a) (by omega),Mb,ML]
  rw[List.set_cons_succ,LF,LF,h2,h1,G,H,Kf E l i u (by simpa using h)];simp only[List.append_assoc]
theorem Qee {α:Type}{t sz:Nat}[h1:Ag P t sz] {g:α→LV}(E:∀x,(g x).length=sz) {x y:Operand}{base e b cap i:Nat}{l:List α}{u:α}(h:w.ownsRow base e sz (.slice (some ⟨b,0,none⟩) l.length cap) l.length (l.flatMap g)) (hx:ev f x=.pointer (some ⟨b,i*sz,none⟩)) (hy:ev f y=.agg (g u).toArray) (hi:i<l.length) (hu:ZQ (g u))
  (I:∀w',Step [b] w w'→w'.ownsRow base e sz (.slice (some ⟨b,0,none⟩) l.length cap) l.length ((l.set i u).flatMap g)→K (QV f d undef) w'):XO P ⟨d,.store t x y,ty,ps,af,gd⟩ f w K:=by
 rcases h.2 with ⟨e1,_⟩ | ⟨g',cap',cur,e1,J,S,G,V,Y,ha⟩
 ·cases e1
 cases e1
 have hB:QZ w.heap b e cur.toList:=S;have hf:l.length*sz≤cap*sz:=ME _ G;have hb:(i+1)*sz≤l.length*sz:=ME _ hi;rw[Nat.succ_mul] at hb;have H:cur.toList.length=cap*sz:=by rw[Array.length_toList];exact Y
 have hc:=h.1;refine Jl hB hx hy (E u) (by omega) hu O λw' hs he=>I w' hs ⟨?_,.inr ⟨b,cap,_,O,J,he,G,V,?_,?_⟩⟩
 ·rw[Kf E l i u hi];simp only[List.length_append,List.length_take,List.length_drop,E u,hc];omega
 ·simp only[List.size_toArray,List.length_append,List.length_take,List.length_drop,E u,H];omega
 have hX:(cur.toList.take (i*sz)++g u).length=i*sz+sz:=by simp only[List.length_append,List.length_take,E u,H];omega
 rw[Kf E l i u hi,←ha];show (cur.toList.take (i*sz)++g u++cur.toList.drop (i*sz+sz)).take (l.length*sz)=_;rw[List.take_append,Lo (by omega),hX,List.take_take,MP (by omega),List.drop_take]
end
end Go.Lg
namespace Go.Proofs.YtdffckgdcegpaaaGreatDoor
open Go.Proofs.Tryz
open Go.Lg
theorem Qgo (p:Int×Int) (w:World):QK prog 59 [.agg (QQ p).toArray] w λr w'=>r=.bool (decide (p.2=0))∧Step [] w w':=by
 refine QK.of_W func59 O ntmps59 results59 (by simp) ?_;refine Qc<|xl O<|QS (us:=QQ p) O λH I E J G=>Qe<|Qc<|x (Qa O)<|x (Qd G O O)<|x (Q4 O O)<|Qe ?_;exact Qn ⟨[_],Z,O,E⟩
theorem Qjy {gp:Nat}{fn:Func}[Fu prog gp fn] {cap:LV}{q:(Int×Int)→Bool}{L:LN}{w:World}{v:Value}{l:List (Int×Int)}(h:Zs L w.heap v l.length 2 (l.flatMap QQ))
  (hk:∀e∈l,∀(G:World),Step [] w G→QK prog gp ([.agg (QQ e).toArray]++cap) G λr w'=>r=.bool (q e)∧Step [] G w') :
  QK prog 133 [v,.func (.func gp) #[] cap.toArray] w λr w'=>r=.int .i64 (fix q 0 l)∧Step [] w w':=by
 have hc:=h.le;refine QK.of_W func133 O ntmps133 results133 (by simp) ?_;refine Qc<|Qe<|Qf<|Qc<|Qb<|x (Qs h O)<|Qb<|xe<|Qh<|QA (α:=Nat) [(4,5),(8,18)] (λz=>[(8,.int .i64 z)]) (λz w'=>z≤l.length∧Step [] w w'∧fix q z (l.drop z)=fix q 0 l) (λz=>l.length - z) (by rfl) 0 Z
  ⟨Ll _,Step.refl _ _,O⟩ ?_
 rintro k g G ⟨hf,H,E⟩;refine Qc<|x (QB O O)<|xe<|Qf<|QG O (λh9=>?_) (λh9=>?_)
 ·refine Qz ?_;have ha:l.length≤k:=by have hb:¬(k:Int)<(l.length:Int):=h9;omega
  rw[Lr ha] at E;refine Qc<|Qe ?_;exact Qn ⟨[_],Z,by rw[←E];rfl,H⟩
 have I:k<l.length:=by have hb:(k:Int)<(l.length:Int):=h9;omega
 rw[QX I,ZT] at E;have S:=Lc I;refine Qi<|Qf<|Qh<|Qc<|Qb<|Qe<|Qc<|Qb<|Qb<|Qb<|xig YX (h.ext H) O O I λhg V=>?_;refine Zc (l[k]'I) λe he=>?_;rw[he] at V E S;refine x (QI V O O)<|xl O<|xc (first:=[]) (capt:=cap) O<|(hk e S G H).mono ?_;rintro r2 w2 ⟨rfl,Y⟩;refine xe<|Q3 rfl (λJ=>?_) (λJ=>?_)
 ·rw[if_pos J] at E;refine Qc<|Qb<|Qe ?_;exact Qn ⟨[_],Z,by rw[←E];rfl,H.trans Y⟩
 rw[if_neg (by rw[J];decide)] at E;refine Qi<|Qy<|QO O O<|Qb<|xe ?_;exact ⟨k+1,by omega,Z,I,H.trans Y,E⟩
end Go.Proofs.YtdffckgdcegpaaaGreatDoor
namespace Go.Lg
section
variable {P:Program} {f:Fr} {w:World} {K:Fr→World→Prop} {d:Option Nat} {ty:Nat} {ps:String} {af:Array Edge} {gd:Option (Nat×Bool)}
theorem Qd8 {t e sz bys:Nat}{z:Value}[h:Sl P t e sz bys z] {x E:Operand}{b n cap:Nat}{k:IntKind}{lo:Nat}(hx:ev f x=.slice (some ⟨b,0,none⟩) n cap) (hl:ev f E=.int k lo) (h1:lo≤n) :
  (execOp (ev f) ⟨d,.slice t x (some E) none none,ty,ps,af,gd⟩).run P w=.ok (.value (.slice (some ⟨b,if cap=lo then 0 else lo*sz,none⟩) (n - lo) (cap - lo))) w:=by
 obtain ⟨i,G,_,H,_⟩:=Sl.info h;have e2:(Instr.sliceBound (.int k lo) n .sliceB).run P w=.ok lo w:=Z4 h1;by_cases I:cap=lo
 ·simp[execOp,hx,hl,Instr.sliceAt,Instr.slice,run_underlying h.u,Instr.sliceBounds,e2,sizeOf,typeInfo,G,H,I]
 simp[execOp,hx,hl,Instr.sliceAt,Instr.slice,run_underlying h.u,Instr.sliceBounds,e2,sizeOf,typeInfo,G,H,I,Addr.add];exact λe=>e.symm
theorem Qd9 {t e sz bys:Nat}{z:Value}[h:Sl P t e sz bys z] {x E:Operand}{b n cap:Nat}{k:IntKind}{hi:Nat}(hx:ev f x=.slice (some ⟨b,0,none⟩) n cap) (G:ev f E=.int k hi) (h1:hi≤cap) :
  (execOp (ev f) ⟨d,.slice t x none (some E) none,ty,ps,af,gd⟩).run P w=.ok (.value (.slice (some ⟨b,0,none⟩) hi cap)) w:=by
 obtain ⟨i,H,_,I,_⟩:=Sl.info h;have e2:(Instr.sliceBound (.int k hi) cap .sliceAcap).run P w=.ok hi w:=Z4 h1;simp[execOp,hx,G,Instr.sliceAt,Instr.slice,run_underlying h.u,Instr.sliceBounds,e2,sizeOf,typeInfo,H,Addr.add]
end
end Go.Lg
namespace Go.Proofs.YtdffckgdcegpaaaGreatDoor
open Go.Proofs.Tryz
open Go.Lg
theorem yb {α:Type}(q:α→Bool):∀(l:List α) (i:Nat),(fix q i l=-1∧∀x∈l,q x=false)∨∃k,k<l.length∧fix q i l=((i+k:Nat):Int)∧l.take k=(l.take (k+1)).filter λx=>!q x
 | [],i=>.inl ⟨O,λx h=>by cases h⟩
 | a::l,i=>by
  rw[ZT];by_cases h:q a=true
  ·rw[if_pos h];exact .inr ⟨0,by simp,by simp,by simp[h]⟩
  rw[if_neg h];have h':q a=false:=by simpa using h
  rcases yb q l (i+1) with ⟨h1,h2⟩ | ⟨k,h1,h2,h3⟩
  ·exact .inl ⟨h1,λx hx=>by rcases Lb.1 hx with rfl | hx;exact h';exact h2 x hx⟩
  exact .inr ⟨k+1,by simpa using h1,by rw[h2];congr 1;omega,by rw[MA,MA,Mh,if_pos (by simp[h']),←h3]⟩
theorem Qc0 {w:World}{base e sz n b cap:Nat}{cs:LV}(h:w.ownsRow base e sz (.slice (some ⟨b,0,none⟩) n cap) n cs):n≤cap∧∃cur:LV,QZ w.heap b e cur∧cur.length=cap*sz∧cur.take (n*sz)=cs:=by
 rcases h.2 with ⟨e1,_⟩ | ⟨g',cap',cur,e1,J,E,G,S,H,I⟩
 ·cases e1
 cases e1
 exact ⟨G,cur.toList,E,by rw[Array.length_toList];exact H,I⟩
theorem QiX {w w':World}{base e sz n b cap k:Nat}{cs E cur:LV}(h:w.ownsRow base e sz (.slice (some ⟨b,0,none⟩) n cap) n cs) (hk:k≤n) (G:QZ w'.heap b e cur) (hl:cur.length=cap*sz) (ht:cur.take (k*sz)=E) (hc:E.length=k*sz) :
  w'.ownsRow base e sz (.slice (some ⟨b,0,none⟩) k cap) k E:=by
 rcases h.2 with ⟨e1,_⟩ | ⟨g',cap',cur',e1,H,J,S,I,V,Y⟩
 ·cases e1
 cases e1
 exact ⟨hc,.inr ⟨b,cap,cur.toArray,O,H,G,by omega,I,by rw[LX];exact hl,ht⟩⟩
theorem Kg {α:Type}{sz:Nat}{g:α→LV}(E:∀x,(g x).length=sz):∀l:List α,(l.flatMap g).length=l.length*sz
 | []=>by simp
 | a::l=>by rw[LF,Lh,Kg E l,E a,LJ,Nat.succ_mul];omega
theorem QcY:∀(l:List (Int×Int)) (k:Nat),(l.flatMap QQ).take (k*2)=(l.take k).flatMap QQ
 | [],k=>by simp
 | a::l,0=>by simp
 | a::l,k+1=>by
  rw[show (k+1)*2=k*2+2 by omega,LF,MA,LF,←QcY l k];rfl
abbrev nzT (l:List (Int×Int)):List (Int×Int):=l.filter λp=>!decide (p.2=0)
set_option maxHeartbeats 1000000 in
theorem QjP {w:World}{base:Nat}{v:Value}{l:List (Int×Int)}(h:w.ownsRow base 129 2 v l.length (l.flatMap QQ)) (hl:l.length≤1000) :
  QK prog 58 [v,.func (.func 59) #[] #[]] w λr w'=>Step (ob v) w w'∧w'.ownsRow base 129 2 r (nzT l).length ((nzT l).flatMap QQ):=by
 have hix:=Qjy (cap:=[]) (q:=λp=>decide (p.2=0)) (QU (L:=[]) h (by omega) (by simp)) (λe _ V _=>Qgo e V);have hr:=yb (λp:Int×Int=>decide (p.2=0)) l 0;rcases h.2 with ⟨rfl,Y⟩ | ⟨g,cap,cur,rfl,hT,_⟩
 ·have h7:l=[]:=Ln Y;subst h7;refine QK.of_W func58 O ntmps58 results58 (by simp) ?_;refine Qc<|Qe<|Qc<|Qb<|Qb<|xl O<|xf<|hix.mono ?_;rintro r1 V ⟨rfl,G⟩;refine Qe<|Qf<|Qc<|Qb<|x (Q4 O O)<|xe<|Q7 O (λ_=>?_) (λh8=>absurd O h8);refine Qc<|Qb<|Qe ?_;exact Qn ⟨[nS],Z,G,Qq h G⟩
 obtain ⟨hU,_⟩:=Qc0 h;refine QK.of_W func58 O ntmps58 results58 (by simp) ?_;refine Qc<|Qe<|Qc<|Qb<|Qb<|xl O<|xf<|hix.mono ?_;rintro r1 V ⟨rfl,G⟩;refine Qe<|Qf<|Qc<|Qb<|x (Q4 O O)<|xe<|Q7 rfl (λha=>?_) (λha=>?_)
 ·have h9:nzT l=l:=Nm.2 λp hp=>by
   rcases hr with ⟨_,h2⟩ | ⟨k,_,h2,_⟩
   ·have:=h2 p hp;simpa using this
   have hV:fix (λp:Int×Int=>decide (p.2=0)) 0 l=-1:=ha;omega
  refine Qc<|Qb<|Qe<|Qn ⟨[.slice (some ⟨g,0,none⟩) l.length cap],Z,G.any,?_⟩;rw[h9];exact Qq h G
 refine Exists.elim (hr.resolve_left λa=>ha a.1) λS hb=>?_;have hB:=hb.1;have ht:fix (λp:Int×Int=>decide (p.2=0)) 0 l=(S:Int):=by have:=hb.2.1;omega
 have hC:=hb.2.2;refine Qi<|Qf<|Qc<|Qb<|x (Jk (a:=(S:Int)) (b:=1) (congrArg (Value.int .i64) ht) O ⟨by omega,by omega⟩)<|Qe<|Qh<|QA (α:=Nat×Nat×List (Int×Int)) [(5,7),(16,35)] (λz=>[(5,.int .i64 z.1),(6,.int .i64 z.2.1)])
  (λz w'=>z.1<z.2.1∧z.2.1≤l.length∧z.2.2.length=l.length∧z.2.2.take z.1=nzT (l.take z.2.1)∧z.2.2.drop z.2.1=l.drop z.2.1∧Step [g] w w'∧w'.ownsRow base 129 2 (.slice (some ⟨g,0,none⟩) z.2.2.length cap) z.2.2.length (z.2.2.flatMap QQ))
  (λz=>l.length - z.2.1) (by rfl) (S,S+1,l) ⟨congrArg (Value.int .i64) ht,O,U⟩
  ⟨Nat.lt_succ_self _,hB,O,hC,O,G.any,Qq h G⟩ ?_
 rintro ⟨i,j,ts⟩ g2 w2 ⟨hD,hj,hc,H,hf,hv,I⟩;simp only[] at hD hj hc H hf I;refine Qf<|Qc<|Qb<|Qb<|x (Um O)<|x (QB O O)<|xe<|QG rfl (λhg=>?_) (λhg=>?_)
 ·refine Qz ?_;have hE:j=l.length:=by have hF:¬(j:Int)<(l.length:Int):=hg;omega
  rw[hE,M0] at H;have hw:(nzT l).length=i:=by rw[←H,Lx];omega
  refine Exists.elim (Qc0 I).2 λhW hh=>?_;have hG:=hh.1;have hX:=hh.2.1;have hH:=hh.2.2;refine Qc<|Qb<|Qb<|x (Qd8 (lo:=i) O O (by omega))<|xl O<|Qi2 (m:=l.length - i) (o:=i*2) (λu hu=>by simp[Value.cells] at hu;rw[hu];rfl) hG ⟨_,O,λh=>⟨by rw[if_neg (by omega)],by omega⟩⟩ λw3 hY hk hI hZ hJ=>xe ?_
  refine Qc<|Qb<|Qb<|x (Qd9 (hi:=i) O O (by omega))<|Qe<|Qn ⟨[.slice (some ⟨g,0,none⟩) i cap],Z,hv.trans' hk,?_⟩;rw[hw];refine QiX I (by omega) hI (by omega) ?_ ?_
  ·rw[hJ,←H,←QcY,←hH,List.take_take,MP (by omega)]
  rw[Kg YX,hw]
 have E:j<l.length:=by have hF:(j:Int)<(l.length:Int):=hg;omega
 have hm:j<ts.length:=by omega
 have hK:ts[j]'hm=l[j]'E:=by
  have h1:=congrArg (λz=>z[0]?) hf;simp only[List.getElem?_drop,Nat.add_zero,List.getElem?_eq_getElem hm,List.getElem?_eq_getElem E] at h1;exact Option.some.inj h1
 have hy:ts.drop (j+1)=l.drop (j+1):=by
  have h1:=congrArg (List.drop 1) hf
  rwa [List.drop_drop,List.drop_drop] at h1
 have J:nzT (l.take (j+1))=nzT (l.take j)++(if (l[j]'E).2=0 then [] else [l[j]'E]):=by
  unfold nzT;rw[Li E,L7];by_cases Y:(l[j]'E).2=0 <;> simp[Y]
 have hA:=QU (L:=[]) I (by omega) (by simp);rw[show Value.slice (some ⟨g,0,none⟩) ts.length cap=.slice (some ⟨g,0,none⟩) l.length cap from by rw[hc]] at hA;refine Qi<|Qf<|Qh<|Qc<|Qb<|Qb<|xig YX hA O O hm λga hn=>?_;rw[hK] at hn;refine Zc (l[j]'E) λe he=>?_;rw[he] at hn J
 refine x (QI hn O O)<|xl O<|Qt (us:=[.int .i64 0,.int .i64 0]) O λb7 w3 hk hL hM=>xl O<|Qo (us:=QQ e) hM O O O O ⟨O,O,U⟩ λw4 hN hz=>xe ?_;have hO:Step [] w2 w4:=hk.then1 hN hL;refine Qc<|Qb<|x (Qr hz O O)<|xl O<|xc (first:=[]) (capt:=[]) O<|(Qgo e w4).mono ?_;rintro r5 w5 ⟨rfl,h3⟩;refine x (Zm O)<|xe ?_;have h4:=hO.trans h3;have h5:=Qq I h4
 have h6:Step [g] w w5:=hv.trans h4.any;refine Q3 rfl (λho=>?_) (λho=>?_)
 ·have hq:¬e.2=0:=by simpa using ho
  rw[if_neg hq] at J;have hP:w5.ownsRow base 129 2 (.slice (some ⟨g,0,none⟩) ts.length cap) ts.length (ts.flatMap QQ):=h5;refine Qc<|Qb<|Qb<|x (Qr (hz.ext h3) O O)<|x (Zj (i:=i) O O (by omega))<|xl O<|Qee (u:=e) YX hP (congrArg (λn=>Value.pointer (some ⟨g,n,none⟩)) (LG (i*2))) O (by omega) ⟨O,O,U⟩ λw6 hQ hR =>
   xe ?_
  refine Qy<|Qb<|QO O O<|Qe<|Qy<|Qb<|QO O O<|Qe ?_;have hS:(ts.set i e).length=ts.length:=Nv;refine ⟨(i+1,j+1,ts.set i e),by simp only[];omega,⟨O,O,U⟩,by simp only[];omega,E,by simp only[];omega,?_,?_,h6.trans' hQ,?_⟩
  ·simp only[];rw[J,←H,List.set_eq_take_append_cons_drop,if_pos (by omega),List.take_append,Lo (by rw[Lx];omega),Lx,MP (by omega),ML,MA,Nn]
  ·simp only[];rw[List.drop_set_of_lt (by omega),hy]
  simp only[];rw[hS];exact hR
 have hq:e.2=0:=by simpa using ho
 rw[if_pos hq,LH] at J;refine Qi<|Qy<|Qb<|QO O O<|Qe ?_;exact ⟨(i,j+1,ts),by simp only[];omega,⟨O,O,U⟩,by simp only[];omega,E,hc,by rw[J];exact H,hy,h6,h5⟩
instance ayAz1:Ay prog 25 3 24 1:=⟨by kernel_rfl,by kernel_rfl⟩
instance ayAz2:Ay prog 30 2 24 1:=⟨by kernel_rfl,by kernel_rfl⟩
instance ayAz3:Ay prog 31 2 28 27:=⟨by kernel_rfl,by kernel_rfl⟩
instance ayAz4:Ay prog 34 3 33 1:=⟨by kernel_rfl,by kernel_rfl⟩
abbrev X4V:={r:LN // r.length=4∧∀n∈r,n<256}
abbrev YM (r:X4V):LV:=bys r.1
theorem U4 (r:X4V):(YM r).length=4:=by show (bys r.1).length=4;unfold bys;rw[Le,r.2.1]
structure PlV where
 ns:LN
 vx:Value
 xs:List X4V
 f0:Int
 f1:Int
 f2:Int
 bd:Int
abbrev YA (l:PlV):LV:=bys l.ns++[l.vx,.int .i8 l.f0,.int .i8 l.f1,.int .i8 l.f2,.int .i8 l.bd]
abbrev i8R (n:Int):Prop:=-128≤n∧n≤127
structure PlA (L:LN) (H:Array Obj) (l:PlV):Prop where
 n:l.ns.length=147
 b:∀n∈l.ns,n<256
 x:Zs L H l.vx l.xs.length 4 (l.xs.flatMap YM)
 f0:i8R l.f0
 f1:i8R l.f1
 f2:i8R l.f2
 bd:i8R l.bd
theorem QfZ {l:PlV}(h:l.ns.length=147):(YA l).length=152:=by rw[YA,Lh,YZ,h];rfl
theorem Qf1 {l:PlV}(h:l.ns.length=147) (j:Nat):(YA l)[147+j]?=([l.vx,.int .i8 l.f0,.int .i8 l.f1,.int .i8 l.f2,.int .i8 l.bd]:LV)[j]?:=by
 rw[YA,Mt (by rw[YZ];omega),YZ,h,ML]
theorem QcW {l:PlV}(h:l.ns.length=147) {j:Nat}(E:j<147):(YA l)[j]?=some (.int .u8 ((l.ns.getD j 0:Nat):Int)):=by
 rw[YA,L3 (by rw[YZ];omega)];exact Ud (by omega)
theorem QbI {l:PlV}{o m:Nat}(j:Nat) (u:Value) (h:(bys ((l.ns.drop o).take m))[j]?=some u):(YA l)[o+j]?=some u:=by
 have h1:=Qj2 (ns:=l.ns) (o:=o) (n:=m) j u h;have h2:=(L4.1 h1).1;rw[YA,L3 h2];exact h1
theorem QdI {sz:LI}:∀(ls:List (Int×Int)) (pr:Option Int),(∀b,pr=some b→∀p∈ls,b<p.1)→ls.Pairwise (λp q=>p.1<q.1)→(∀p∈ls,0≤p.1∧p.1<(sz.length:Int)∧0≤p.2∧p.2<cget sz p.1.toNat)→Yv sz pr ls=0
 | [],_,_,_,_=>rfl
 | p::ls,pr,hp,hs,hb=>by
  obtain ⟨h1,h2,h3,G⟩:=hb p Lm;obtain ⟨k1,k2⟩:=L0.1 hs;have hl:UW pr p.1=false:=by
   cases pr with
   | none=>rfl
   | some b=>have:=hp b O p Lm;unfold UW;exact decide_eq_false (by omega)
  rw[Yv,if_neg (by omega),if_neg (by rw[hl];decide),if_neg (by omega)];exact QdI ls (some p.1) (λb E q hq=>by cases E;exact k1 q hq) k2 (λq hq=>hb q (Lk _ hq))
theorem QdG {sz:LI}:∀(ls:List (Int×Int)) (pr:Option Int),(∀b,pr=some b→∀p∈ls,b<p.1)→ls.Pairwise (λp q=>p.1<q.1)→(∀p∈ls,0≤p.1∧p.1<(sz.length:Int)∧p.2≠0∧-65536≤p.2∧p.2≤65536)→YT sz pr ls=0
 | [],_,_,_,_=>rfl
 | p::ls,pr,hp,hs,hb=>by
  obtain ⟨h1,h2,h3,H,h5⟩:=hb p Lm;obtain ⟨k1,k2⟩:=L0.1 hs;have hl:UW pr p.1=false:=by
   cases pr with
   | none=>rfl
   | some b=>have:=hp b O p Lm;unfold UW;exact decide_eq_false (by omega)
  have E:grt p.2=false:=by unfold grt;rw[decide_eq_false (by omega),decide_eq_false (by omega)];rfl
  rw[YT,if_neg (by omega),if_neg (by rw[hl];decide),if_neg (by rw[E];simpa using h3)];exact QdG ls (some p.1) (λb G q hq=>by cases G;exact k1 q hq) k2 (λq hq=>hb q (Lk _ hq))
theorem Qcy (a:Int) {b:Int}(h:0<b):-b<a.tmod b∧a.tmod b<b:=⟨Int.lt_tmod_of_pos a h,Int.tmod_lt_of_pos a h⟩
structure ItG (c:Nat) (k:Nat) (q:IV):Prop where
 nm:q.nm=⟨#[UInt8.ofNat c]⟩++⟨#[UInt8.ofNat (48+k)]⟩
 g:GdA q.p.a
 e:∀e∈q.p.a.al,e<5
def nmI (c k:Nat):ByteArray:=⟨#[UInt8.ofNat c]⟩++⟨#[UInt8.ofNat (48+k)]⟩
theorem Qge (k:Nat) (h:k<3):YG (nmI 99 k)=true∧YG (nmI 114 k)=true∧YG (nmI 101 k)=true:=by
 match k,h with
 | 0,_=>decide
 | 1,_=>decide
 | 2,_=>decide
theorem V3 (c k:Nat):UC (nmI c k):=by
 show (ByteArray.mk _++ByteArray.mk _).size≤_;rw[ByteArray.size_append];show 1+1≤_;omega
theorem Qeg:∀n,n<4→∀m,m<3→((List.range n).map (nmI 99)++(List.range m).map (nmI 114)).Nodup:=by decide
theorem z7 {c:Nat}{co:List IV}(h:∀k (hk:k<co.length),ItG c k (co[k]'hk)):(co.map IV.it).map (·.nm)=(List.range co.length).map (nmI c):=by
 apply L5
 ·simp
 intro i h1 h2;simp only[List.getElem_map,List.getElem_range];exact (h i (by simpa using h1)).nm
theorem QlU {ns:LN}{co rq:List IV}{qx:List XV}{ks:List KV}{al:LI}(J:ns.length=5) (h1:1≤co.length) (h3:co.length≤3) (G:∀k (hk:k<co.length),ItG 99 k (co[k]'hk)) (S:∀e,e∈al↔∃q∈co,e∈q.p.a.al) (hc:rq.length≤2)
  (H:∀k (hk:k<rq.length),ItG 114 k (rq[k]'hk)∧∀e∈(rq[k]'hk).p.a.al,e∈al) (hf:qx.length≤2) (V:(qx.map (·.nm)).Nodup) (Y:∀q∈qx,(∃k,k<2∧q.nm=⟨#[101]⟩++⟨#[UInt8.ofNat (48+k)]⟩)∧q.ls≠[]∧q.ls.length≤3∧Yv (co.map (·.p.a.st)) none q.ls=0)
  (hg:ks.length≤1) (ha:∀q∈ks,q.nm=⟨#[107]⟩∧Yw (co.map (·.p.a.st)) q.k=0):Jb ⟨Xo ns 5,co.map IV.it,rq.map IV.it,qx.map XV.x,ks.map KV.k⟩:=by
 have I:szs (co.map IV.it)=co.map (·.p.a.st):=by unfold szs;rw[Mj];rfl
 refine ⟨⟨ns,J,O⟩,by simp only[List.length_map];omega,by simp only[List.length_map];omega,by simp only[List.length_map];omega,λx hx=>?_,λx hx=>?_,?_,by simp only[List.length_map];omega,λx hx=>?_,?_,by simp only[List.length_map];omega,λx hx=>?_⟩
 ·obtain ⟨q,hq,rfl⟩:=Lp.1 hx;obtain ⟨k,hk,rfl⟩:=LD hq;have g:=G k hk;exact ⟨by show YG (co[k]'hk).nm=true;rw[g.nm];exact (Qge k (by omega)).1,g.g,g.e⟩
 ·obtain ⟨q,hq,rfl⟩:=Lp.1 hx;obtain ⟨k,hk,rfl⟩:=LD hq;have g:=H k hk;refine ⟨by show YG (rq[k]'hk).nm=true;rw[g.1.nm];exact (Qge k (by omega)).2.1,g.1.g,λe he=>?_⟩;obtain ⟨y,hy,hb⟩:=(S e).1 (g.2 e he);exact ⟨y.it,LK hy,hb⟩
 ·show ((co.map IV.it).map (·.nm)++(rq.map IV.it).map (·.nm)).Nodup;rw[z7 G,z7 (λk hk=>(H k hk).1)];exact Qeg _ (by omega) _ (by omega)
 ·obtain ⟨q,hq,rfl⟩:=Lp.1 hx;obtain ⟨⟨k,k1,k2⟩,E,_,g4⟩:=Y q hq;refine ⟨by show YG q.nm=true;rw[k2];exact (Qge k (by omega)).2.2,E,?_⟩;show Yv (szs (co.map IV.it)) none q.ls=0;rw[I];exact g4
 ·show ((qx.map XV.x).map (·.nm)).Nodup;rw[Mj];exact V
 obtain ⟨q,hq,rfl⟩:=Lp.1 hx;obtain ⟨g1,E⟩:=ha q hq;refine ⟨by show YG q.nm=true;rw[g1];decide,?_⟩;show Yw (szs (co.map IV.it)) q.k=0;rw[I];exact E
def flk (l:PlV) (i:Nat):Int:=[l.f0,l.f1,l.f2].getD i 0
theorem QmH {l:PlV}(h:l.ns.length=147) {i:Nat}(hi:i<3):(YA l)[0+148+i*1]?=some (.int .i8 (flk l i)):=by
 rw[show 0+148+i*1=147+(1+i) by omega,Qf1 h]
 match i,hi with
 | 0,_=>rfl
 | 1,_=>rfl
 | 2,_=>rfl
theorem QmG {L:LN}{H:Array Obj}{l:PlV}(h:PlA L H l) (i:Nat) (hi:i<3):i8R (flk l i):=by
 match i,hi with
 | 0,_=>exact h.f0
 | 1,_=>exact h.f1
 | 2,_=>exact h.f2
theorem Qho (ns:LN):∀e∈Xo ns 5,UC e.nm:=λe he=>by
 unfold Xo at he;obtain ⟨k,_,rfl⟩:=Lp.1 he;unfold JF;split <;> exact Y3 (by simp)
set_option maxRecDepth 100000 in
set_option maxHeartbeats 8000000 in
theorem Qel {w:World}{l:PlV}(h:PlA [] w.heap l) :
  QK prog 14 [.agg (YA l).toArray] w λr w'=>Step [] w w'∧∃k,Qig w.heap.size w'.heap r k∧Jb k:=by
 have hpl:=QfZ h.n;refine Zc (1+l.ns.getD 5 0 % 3) λn hn=>?_;have hn3:1≤n∧n≤3:=by omega
 refine QK.of_W func14 O ntmps14 results14 (by simp) ?_;refine Qc<|xl O<|QS (us:=YA l) O λb1 w1 m9 hb1 pa=>xl O<|Qt (us:=Yq) O λb2 w2 kh hb2 pc=>xe ?_;have pd:=m9.trans kh;have hz1:=m9.size;have hz2:=kh.size;have hl1:=pa.lt;have hl2:=pc.lt;have gu:=pa.ext kh;have ky:((l.ns.drop 0).take 5).length=5:=by rw[Lx,Mq,h.n];rfl
 have hflt:∀n∈(l.ns.drop 0).take 5,n<256:=λn hn=>h.b n (MN (LT hn));refine Qc<|x (Qa O)<|x (VZ (us:=bys ((l.ns.drop 0).take 5)) gu O (by rw[YZ];exact ky) (λj u hu=>QbI (l:=l) (o:=0) (m:=5) j u hu))<|xl O<|xf<|(Qa8 (ns:=(l.ns.drop 0).take 5) ky hflt).mono ?_;rintro ve w3 ⟨pf,gl⟩;refine Zc (Xo ((l.ns.drop 0).take 5) 5) λev ki=>?_;rw[ki] at gl
 refine x (QD ⟨Q0 gl,U⟩)<|xl O<|Qt (us:=Yq) O λE w4 pg hb3 hB3=>xl O<|Qo (us:=[ve,Zg,Zg,Zg,Zg]) hB3 O O O O ⟨QH gl,O,O,O,O,U⟩ λw5 hs5 ph =>
  xe ?_
 have pj:Step [] w3 w5:=pg.then1 hs5 hb3;refine Qc<|xl O<|Qt (us:=[Zg]) O λb4 w6 kz hb4 pm=>xe ?_;have pn:=pj.trans kz;have gv:=pf.trans pn;have H:=kh.trans gv;have hz3:=pf.size;have hz35:=pj.size;have hz4:=pg.size;have hz6:=kz.size;have hl3:=ph.lt;have hl4:=pm.lt;have k0:=gu.ext gv;have hB36:=ph.ext kz;have q5:=QcW (l:=l) h.n (j:=5) (by omega)
 have q5l:=Xw h.b 5;refine Zc (l.ns.getD 5 0) λcn hcn=>?_;rw[hcn] at q5 q5l hn;refine Qc<|x (Qa O)<|x (Qd k0 O q5)<|x (Ul (a:=(cn:Int)) (b:=3) O O (by omega) (by omega))<|x (ZL (k':=.i64) O ⟨by omega,by omega⟩)<|QO O O<|Qe ?_;have hnn:(1:Int)+(cn:Int) % 3=(n:Int):=by omega
 refine QT (α:=Value×List IV×Value×LI) [(6,7),(26,55)] (λ_=>[]) (λz w'=>Step [E,b4] w6 w'∧QZ w'.heap E 47 [ve,z.1,Zg,Zg,Zg]∧QZ w'.heap b4 37 [z.2.2.1]∧UG w6.heap.size w' z.1 z.2.2.1 z.2.1 z.2.2.2∧z.2.1.length=n∧(∀k (hk:k<z.2.1.length),ItG 99 k (z.2.1[k]'hk))∧z.2.2.2.length≤5*n∧∀e,e∈z.2.2.2↔∃q∈z.2.1,e∈q.p.a.al) (by rfl) ?_ ?_
 ·refine Qc<|Qb<|Qb<|xe<|Qh<|QA (α:=Nat×Value×List IV×Value×LI) [(6,7),(27,55)] (λz=>[(27,.int .i64 z.1)])
   (λz w'=>z.1≤n∧Step [E,b4] w6 w'∧QZ w'.heap E 47 [ve,z.2.1,Zg,Zg,Zg]∧QZ w'.heap b4 37 [z.2.2.2.1]∧UG w6.heap.size w' z.2.1 z.2.2.2.1 z.2.2.1 z.2.2.2.2∧z.2.2.1.length=z.1∧(∀k (hk:k<z.2.2.1.length),ItG 99 k (z.2.2.1[k]'hk))∧z.2.2.2.2.length≤5*z.1∧∀e,e∈z.2.2.2.2↔∃q∈z.2.2.1,e∈q.p.a.al)
   (λz=>n - z.1) (by rfl) (0,Zg,[],Zg,[]) Z
   ⟨Ll _,Step.refl _ _,hB36,pm,UG.nil,O,λk hk=>absurd hk (by simp),by simp,by simp⟩ ?_
  rintro ⟨i,vc,co,va,al⟩ g7 w7 ⟨hi,h8,gm,gb,hg,gw,hT,k4,gn⟩;simp only[] at hi gm gb hg gw hT k4 gn;refine Qc<|x (QB O O)<|xe<|Qf<|QG O (λk5=>?_) (λk5=>?_)
  ·refine Qz ?_;have k6:i=n:=by have h29:¬(i:Int)<1+(cn:Int) % 3:=k5;omega
   exact ⟨(vc,co,va,al),U,h8,gm,gb,hg,by simp only[];omega,hT,by simp only[];omega,gn⟩
  have hz:i<n:=by have h29:(i:Int)<1+(cn:Int) % 3:=k5;omega
  have k7:b1∉[E,b4]:=by simp only[List.mem_cons,List.not_mem_nil,or_false];omega
  have hU:=k0.step h8 k7;have qs:=QcW (l:=l) h.n (j:=0+6+i*1) (by omega);have qsl:=Xw h.b (0+6+i*1);refine Zc (l.ns.getD (0+6+i*1) 0) λm hm=>?_;rw[hm] at qs qsl;have k8:=Xa m 5;have gx:=J4 m 5;have gc:=QcM m 5;refine Zc (setK m 5) λsk gy=>?_;rw[gy] at k8 gx gc
  refine Qi<|Qf<|Qh<|Qc<|Qb<|Qe<|Qc<|Qb<|x (Qa O)<|x (ZJ (i:=i) O O (by omega))<|x (Qd hU O qs)<|xl O<|xf<|(Vg m qsl _).mono ?_;rintro vs w8 ⟨ha,kj⟩;rw[gy] at kj;refine Qe ?_;have po:=ha.size;have hB:=hg.ext ha;have hI8:=Qu.ints (L:=[]) hB.a (by omega) (by simp);have hJ8:=Qu.ints (L:=[]) kj (by omega) (by simp)
  refine Qc<|x (Qd (gb.ext ha) O O)<|Qb<|xl O<|xf<|(Qbh hI8 hJ8 (by omega)).mono ?_;rintro pp w9 ⟨I,pt,hal2,pu,ge⟩;have kk:=ha.trans I;have k9:=I.size;have hz7:=h8.size;refine xl O<|QF (gb.ext kk) O O (by simp) (QH ge) λV hj hB410=>xe ?_;have hl36:E<w6.heap.size:=by omega
  have h5:UG w6.heap.size w9 vc pp co pt:=hB.setA (Zr ge (by omega)) I.any (λb hb=>.inr (Qm ge b hb).1);have ho:=h5.low hj (λb hb=>by rw[La.1 hb];omega);have gz:QZ V.heap E 47 [ve,vc,Zg,Zg,Zg]:=(gm.ext kk).step hj (by simp only[List.mem_singleton];omega);have ma:=(hU.ext kk).step hj (by simp only[List.mem_singleton];omega)
  have mc:QL [] V.heap vs sk:=Qu.ints (L:=[]) (Qj (Qq kj I) hj (λb hb hm=>by have:=(Qm kj b hb).1;rw[La.1 hm] at this;omega)) (by omega) (by simp);have hz10:=hj.size;have n3v:E∉ob vc:=QM ho.c (by omega);have n1v:b1∉ob vc:=QM ho.c (by omega);have gg:=QgZ (ns:=l.ns) (o:=0+9+i*27) (by have:=h.n;omega);have g0:=Qku (o:=0+9+i*27) h.b
  have g2:=λj u=>QbI (l:=l) (o:=0+9+i*27) (m:=27) j u;refine Zc (grN l.ns (0+9+i*27)) λgr h6=>?_;have mf:∀j u,(bys gr)[j]?=some u→(YA l)[0+9+i*27+j]?=some u:=by rw[←h6];exact g2
  rw[h6] at gg g0;have g3:Step [] V { V with drawn:=V.drawn+1 }:=Step.drew _ _
  have g4:(48:Int)+(i:Int)=((48+i:Nat):Int):=by omega
  refine Zc (⟨#[99]⟩++⟨#[UInt8.ofNat (48+i)]⟩:ByteArray) λnm hC=>?_;refine QW (Step (ob vc) V) [(0,true),(1,true),(2,true),(3,true),(4,true),(5,true),(6,true),(7,true),(8,true),(9,true),(10,true),(11,true),(12,false),(13,true),(14,false),(15,false),(16,true),(17,false)] mixed (by rfl) (by kernel_rfl) (Step.drew _ _) ?_
  refine p (λ_=>Qa O)<|pq (λ_ hc=>Qd (gz.step hc n3v) O O)<|p (λ_=>Qp)<|p (λ_=>Jk O O ⟨by omega,by omega⟩)<|p (λ_=>ZL (k':=.i32) O ⟨by omega,by omega⟩)<|p (λ_=>VY (n:=48+i) (congrArg (Value.int .i32) g4) (by omega)) <|
   p (λ_=>Yd (a:=⟨#[99]⟩) (b:=⟨#[UInt8.ofNat (48+i)]⟩) O O (by show 1+1≤1000000000;omega))<|p (λ_=>Qp)<|p (λ_=>Qp)<|p (λ_=>Qa O)<|p (λ_=>ZJ (i:=i) O O (by omega))<|pq (λ_ hc=>VZ (us:=bys gr) (ma.step hc n1v) O (by rw[YZ];exact gg) mf)<|?_
  refine pk<|xf<|(qK (mc.ext g3) (λe he=>by have:=gc e he;omega) gx gg g0).mono ?_;rintro r11 hh ⟨gh,a,⟨xa,xm,h0,rfl,hA⟩,hG,go⟩;have hE:=g3.trans gh;have pw:=hE.size;have gi:=hA [] (by simp);refine ⟨hE.any,?_⟩
  refine p (λ_=>ZY [(0,[.string nm]),(1,[xa,.int .i64 a.st,xm,h0])] ⟨congrArg (λb=>(Value.string b).cells) hC,O,O,O,U⟩)<|pk<|QC (us:=[Zh ⟨nm,⟨xa,xm,h0,a⟩⟩]) O O (by decide) (show 1*5≤1000000 by omega) ⟨O,O,U⟩ λb14 hV Y hb14 mg=>⟨(hE.trans Y).any,?_⟩;have hv:=hE.trans Y;have g5:=ho.ext hv
  refine pk<|Q5 (news:=Zh ⟨nm,⟨xa,xm,h0,a⟩⟩) (L:=[]) g5.c O O O (mg.at (by simp)) (jk gi.al.one gi.mr.one gi.ed.one) (by omega) (by have:=hv.size;omega) λmh hH g6 G mj=>⟨(hv.any (L:=ob vc)).trans' G,?_⟩;have mo:=g5.setC (qG (q:=⟨nm,⟨xa,xm,h0,a⟩⟩) (N:=V.heap.size) (λL hL=>(hA L hL).ext Y) (by omega) ho.avlt) g6 G mj
  refine p (λ_=>Qa O)<|pkl (hl:=by kernel_rfl)<|QF ((gz.ext hv).step G n3v) O O (by simp) (QH g6) λhI H hW=>pe ?_;have hge:=Qm ho.c;have n4v:b4∉ob vc:=QM ho.c (by omega);have hB416:=((hB410.ext hv).step G n4v).step H (by simp only[List.mem_singleton];omega);have hs710:Step [b4] w7 V:=kk.any.trans' hj
  have hs615:Step [E,b4] w6 hH:=((h8.trans' (hs710.mono (by simp))).trans hv.any).then G (λb hb=>.inr (hge b hb).1);refine Qy<|QO O O<|Qb<|xe ?_
  refine ⟨(i+1,mh,co++[⟨nm,⟨xa,xm,h0,a⟩⟩],pp,pt),by simp only[];omega,Z,hz,hs615.trans' (H.mono (by simp)),hW,hB416,mo.low H (λb hb=>by rw[List.mem_singleton.1 hb];omega),by simp only[List.length_append,List.length_singleton];omega,λk hk=>?_,by simp only[];omega,λe=>?_⟩
  ·simp only[] at hk ⊢;by_cases hf:k<co.length
   ·rw[Mc hf];exact hT k hf
   have ka:k=i:=by simp only[List.length_append,List.length_singleton] at hk;omega
   subst ka;rw[MQ (by omega)];simp only[gw,Nat.sub_self,List.getElem_cons_zero];exact ⟨hC.symm,hG,λe he=>by rw[go] at he;exact (gc e he).2⟩
  simp only[] at pu ⊢;rw[pu,gn];constructor
  ·rintro (⟨q,hq,he⟩ | he)
   ·exact ⟨q,Lz _ hq,he⟩
   exact ⟨_,LU _ (La.2 O),by rw[go];exact he⟩
  rintro ⟨q,hq,he⟩;rcases Lj.1 hq with hq | hq
  ·exact .inl ⟨q,hq,he⟩
  rw[La.1 hq,go] at he;exact .inr he
 rintro ⟨vc,co,va,al⟩ g7 w7 ⟨h8,gm,gb,hg,gw,hT,k4,gn⟩;simp only[] at gm gb hg gw hT k4 gn;have hz7:=h8.size;have k7:b1∉[E,b4]:=by simp only[List.mem_cons,List.not_mem_nil,or_false];omega
 have hU:=k0.step h8 k7;have mq:b1∉[E]:=by simp only[List.mem_singleton];omega
 have n43:b4∉[E]:=by simp only[List.mem_singleton];omega
 have pz:=QcW (l:=l) h.n (j:=90) (by omega);have q90l:=Xw h.b 90;refine Zc (l.ns.getD 90 0) λrn hrn=>?_;rw[hrn] at pz q90l;refine Zc (rn % 3) λr hr=>?_;have hr2:r≤2:=by omega
 refine QT (α:=Value×List IV) [(8,9),(56,87)] (λ_=>[]) (λz w'=>Step [E] w7 w'∧QZ w'.heap E 47 [ve,vc,z.1,Zg,Zg]∧UG w7.heap.size w' z.1 Zg z.2 []∧z.2.length=r∧∀k (hk:k<z.2.length),ItG 114 k (z.2[k]'hk)∧∀e∈(z.2[k]'hk).p.a.al,e∈al) (by rfl) ?_ ?_
 ·refine Qc<|x (Qa O)<|x (Qd hU O pz)<|x (Ul (a:=(rn:Int)) (b:=3) O O (by omega) (by omega))<|x (ZL (k':=.i64) O ⟨by omega,by omega⟩)<|Qb<|xe<|Qh<|QA (α:=Nat×Value×List IV) [(8,9),(60,87)] (λz=>[(60,.int .i64 z.1)])
   (λz w'=>z.1≤r∧Step [E] w7 w'∧QZ w'.heap E 47 [ve,vc,z.2.1,Zg,Zg]∧UG w7.heap.size w' z.2.1 Zg z.2.2 []∧z.2.2.length=z.1∧∀k (hk:k<z.2.2.length),ItG 114 k (z.2.2[k]'hk)∧∀e∈(z.2.2[k]'hk).p.a.al,e∈al)
   (λz=>r - z.1) (by rfl) (0,Zg,[]) Z
   ⟨Ll _,Step.refl _ _,gm,UG.nil,O,λk hk=>absurd hk (by simp)⟩ ?_
  rintro ⟨i,vr,rq⟩ g8 w8 ⟨hi,ha,gp,hB,kn,h6⟩;simp only[] at hi gp hB kn h6;refine Qc<|x (QB O O)<|xe<|Qf<|QG O (λms=>?_) (λms=>?_)
  ·refine Qz ?_;have k6:i=r:=by have h62:¬(i:Int)<(rn:Int) % 3:=ms;omega
   exact ⟨(vr,rq),U,ha,gp,hB,by simp only[];omega,h6⟩
  have hz:i<r:=by have h62:(i:Int)<(rn:Int) % 3:=ms;omega
  have kb:=hU.step ha mq;have hB48:=gb.step ha n43;have qs:=QcW (l:=l) h.n (j:=0+91+i*1) (by omega);have qsl:=Xw h.b (0+91+i*1);refine Zc (l.ns.getD (0+91+i*1) 0) λm hm=>?_;rw[hm] at qs qsl;have k8:=Xa m 5;have gx:=J4 m 5;have gc:=QcM m 5;refine Zc (setK m 5) λsk gy=>?_;rw[gy] at k8 gx gc
  refine Qi<|Qf<|Qh<|Qc<|Qb<|Qe<|Qc<|Qb<|x (Qa O)<|x (ZJ (i:=i) O O (by omega))<|x (Qd kb O qs)<|xl O<|xf<|(Vg m qsl _).mono ?_;rintro vs w9 ⟨I,ge⟩;rw[gy] at ge;have po:=ha.size;have k9:=I.size;have hva8:=Qq (Qj hg.a ha (λb hb hm=>by rw[La.1 hm] at hb;exact QM hg.a (by omega) hb)) I;have g2:=Qm ge;have hlv:=QR hg.a
  have hD:=QjQ ge (by omega) (hB48.ext I) (λhm=>by have:=(g2 b4 hm).1;omega) (QU hva8 (by omega) (λb hb hbs=>by have:=(g2 b hbs).1;have:=hlv b hb;omega));refine x (Zq (l:=[]) (l':=[_]))<|xl O<|xf<|hD.mono ?_;rintro vd V ⟨hj,p0⟩;have p1:Z0 (sk.filter λx=>decide (x∈al)):=List.Pairwise.filter _ gx;have hFL:=Ma (λx=>decide (x∈al)) sk
  have ko:∀e∈sk.filter λx=>decide (x∈al),e∈sk∧e∈al:=λe he=>by
   have:=LR.1 he;exact ⟨this.1,of_decide_eq_true this.2⟩
  refine Zc (sk.filter λx=>decide (x∈al)) λF hF=>?_;rw[hF] at p0 p1 hFL ko;refine Qe ?_;have kc:Step [] w8 V:=I.then hj (λb hb=>.inr (g2 b hb).1);have hz10:=kc.size;have ho:=hB.ext kc;have gz:=gp.ext kc;have ma:=kb.ext kc;have mc:QL [] V.heap vd F:=Qu.ints (L:=[]) p0 (by omega) (by simp);have n3v:E∉ob vr:=QM ho.c (by omega)
  have n1v:b1∉ob vr:=QM ho.c (by omega);have gg:=QgZ (ns:=l.ns) (o:=0+93+i*27) (by have:=h.n;omega);have g0:=Qku (o:=0+93+i*27) h.b;have mf:=λj u=>QbI (l:=l) (o:=0+93+i*27) (m:=27) j u;refine Zc (grN l.ns (0+93+i*27)) λgr p2=>?_;have hgs2:∀j u,(bys gr)[j]?=some u→(YA l)[0+93+i*27+j]?=some u:=by rw[←p2];exact mf
  rw[p2] at gg g0;have g3:Step [] V { V with drawn:=V.drawn+1 }:=Step.drew _ _
  have g4:(48:Int)+(i:Int)=((48+i:Nat):Int):=by omega
  refine Zc (⟨#[114]⟩++⟨#[UInt8.ofNat (48+i)]⟩:ByteArray) λnm hC=>?_;refine QW (Step (ob vr) V) [(0,true),(1,true),(2,true),(3,true),(4,true),(5,true),(6,true),(7,true),(8,true),(9,true),(10,true),(11,true),(12,false),(13,true),(14,false),(15,false),(16,true),(17,false)] mixed (by rfl) (by kernel_rfl) (Step.drew _ _) ?_
  refine p (λ_=>Qa O)<|pq (λ_ hc=>Qd (gz.step hc n3v) O O)<|p (λ_=>Qp)<|p (λ_=>Jk O O ⟨by omega,by omega⟩)<|p (λ_=>ZL (k':=.i32) O ⟨by omega,by omega⟩)<|p (λ_=>VY (n:=48+i) (congrArg (Value.int .i32) g4) (by omega)) <|
   p (λ_=>Yd (a:=⟨#[114]⟩) (b:=⟨#[UInt8.ofNat (48+i)]⟩) O O (by show 1+1≤1000000000;omega))<|p (λ_=>Qp)<|p (λ_=>Qp)<|p (λ_=>Qa O)<|p (λ_=>ZJ (i:=i) O O (by omega))<|pq (λ_ hc=>VZ (us:=bys gr) (ma.step hc n1v) O (by rw[YZ];exact gg) hgs2)<|?_
  refine pk<|xf<|(qK (mc.ext g3) (λe he=>by have:=gc e (ko e he).1;omega) p1 gg g0).mono ?_;rintro r11 hh ⟨gh,a,⟨xa,xm,h0,rfl,hA⟩,hG,go⟩;have hE:=g3.trans gh;have pw:=hE.size;have gi:=hA [] (by simp);refine ⟨hE.any,?_⟩
  refine p (λ_=>ZY [(0,[.string nm]),(1,[xa,.int .i64 a.st,xm,h0])] ⟨congrArg (λb=>(Value.string b).cells) hC,O,O,O,U⟩)<|pk<|QC (us:=[Zh ⟨nm,⟨xa,xm,h0,a⟩⟩]) O O (by decide) (show 1*5≤1000000 by omega) ⟨O,O,U⟩ λb14 hV Y hb14 mg=>⟨(hE.trans Y).any,?_⟩;have hv:=hE.trans Y;have g5:=ho.ext hv
  refine pk<|Q5 (news:=Zh ⟨nm,⟨xa,xm,h0,a⟩⟩) (L:=[]) g5.c O O O (mg.at (by simp)) (jk gi.al.one gi.mr.one gi.ed.one) (by omega) (by have:=hv.size;omega) λmh hH g6 G mj=>⟨(hv.any (L:=ob vr)).trans' G,?_⟩;have mo:=g5.setC (qG (q:=⟨nm,⟨xa,xm,h0,a⟩⟩) (N:=V.heap.size) (λL hL=>(hA L hL).ext Y) (by omega) ho.avlt) g6 G mj
  refine p (λ_=>Qa O)<|pkl (hl:=by kernel_rfl)<|QF ((gz.ext hv).step G n3v) O O (by simp) (QH g6) λhI H hW=>pe ?_;have hge:=Qm ho.c;have hs715:Step [E] w7 hH:=((ha.trans kc.any).trans hv.any).then G (λb hb=>.inr (hge b hb).1);refine Qy<|QO O O<|Qb<|xe ?_
  refine ⟨(i+1,mh,rq++[⟨nm,⟨xa,xm,h0,a⟩⟩]),by simp only[];omega,Z,hz,hs715.trans' H,hW,mo.low H (λb hb=>by rw[La.1 hb];omega),by simp only[List.length_append,List.length_singleton];omega,λk hk=>?_⟩;simp only[] at hk ⊢;by_cases hf:k<rq.length
  ·rw[Mc hf];exact h6 k hf
  have ka:k=i:=by simp only[List.length_append,List.length_singleton] at hk;omega
  subst ka;rw[MQ (by omega)];simp only[kn,Nat.sub_self,List.getElem_cons_zero];exact ⟨⟨hC.symm,hG,λe he=>by rw[go] at he;exact (gc e (ko e he).1).2⟩,λe he=>by rw[go] at he;exact (ko e he).2⟩
 rintro ⟨vr,rq⟩ g8 w8 ⟨ha,gp,hB,kn,h6⟩;simp only[] at gp hB kn h6;have po:=ha.size;have kb:=hU.step ha mq;have g147:=Qf1 (l:=l) h.n 0;have hX6:Zs [E,b4] w6.heap l.vx l.xs.length 4 (l.xs.flatMap YM):=((h.x.up (L':=[E,b4]) (λb hb=>.inr (by simp only[List.mem_cons,List.not_mem_nil,or_false] at hb;omega))).ext pd).ext gv
 have p3:Zs [E] w8.heap l.vx l.xs.length 4 (l.xs.flatMap YM):=((hX6.st h8).up (L':=[E]) (λb hb=>.inl (by simp only[List.mem_singleton] at hb;simp[hb]))).st ha
 refine QT (α:=Value×List XV) [(10,14),(88,151)] (λ_=>[]) (λz w'=>Step [E] w8 w'∧QZ w'.heap E 47 [ve,vc,vr,z.1,Zg]∧Xh Zu 2 122 (λq=>[(q.v,q.ls.length,2,q.ls.flatMap QQ)]) w8.heap.size w' z.1 z.2∧z.2.length≤2∧(z.2.map (·.nm)).Nodup∧∀q∈z.2,(∃k,k<2∧q.nm=⟨#[101]⟩++⟨#[UInt8.ofNat (48+k)]⟩)∧q.ls≠[]∧q.ls.length≤3∧Yv (co.map (·.p.a.st)) none q.ls=0) (by rfl) ?_ ?_
 ·refine Qc<|x (Qa O)<|x (Qd kb O g147)<|x (Qs p3 O)<|Qb<|xe<|Qh<|QA (α:=Nat×Value×List XV) [(10,14),(91,151)] (λz=>[(91,.int .i64 z.1)])
   (λz w'=>z.1≤l.xs.length∧z.1≤2∧Step [E] w8 w'∧QZ w'.heap E 47 [ve,vc,vr,z.2.1,Zg]∧Xh Zu 2 122 (λq=>[(q.v,q.ls.length,2,q.ls.flatMap QQ)]) w8.heap.size w' z.2.1 z.2.2∧z.2.2.length≤z.1∧(z.2.2.map (·.nm)).Nodup∧∀q∈z.2.2,(∃k,k<z.1∧q.nm=⟨#[101]⟩++⟨#[UInt8.ofNat (48+k)]⟩)∧q.ls≠[]∧q.ls.length≤3∧Yv (co.map (·.p.a.st)) none q.ls=0)
   (λz=>l.xs.length - z.1) (by rfl) (0,Zg,[]) Z
   ⟨Ll _,Ll _,Step.refl _ _,gp,Xh.nil,Lt _,List.Pairwise.nil,λq hq=>by cases hq⟩ ?_
  rintro ⟨i,vx,qx⟩ g9 w9 ⟨hi,hi2,I,hX,h5,kp,hY,hJ⟩;simp only[] at hi hi2 hX h5 kp hY hJ;have p4:(∀q∈qx,(∃k,k<2∧q.nm=⟨#[101]⟩++⟨#[UInt8.ofNat (48+k)]⟩)∧q.ls≠[]∧q.ls.length≤3∧Yv (co.map (·.p.a.st)) none q.ls=0):=λq hq=>by
   obtain ⟨⟨k,k1,k2⟩,h2⟩:=hJ q hq;exact ⟨⟨k,by omega,k2⟩,h2⟩
  refine Qc<|x (QB O O)<|xe<|Qf<|QG O (λp5=>?_) (λp5=>?_)
  ·refine Qz ?_;exact ⟨(vx,qx),U,I,hX,h5,by simp only[];omega,hY,p4⟩
  have hz:i<l.xs.length:=by have h93:(i:Int)<(l.xs.length:Int):=p5;omega
  have hX9:=p3.st I;refine Qi<|Qf<|Qh<|Qc<|Qb<|xig U4 hX9 O O hz λa94 p6=>?_;refine Zc (l.xs[i]'hz) λxr hxr=>?_;rw[hxr] at p6;refine x (QI p6 O (U4 xr))<|xl O<|Qt (us:=[.int .u8 0,.int .u8 0,.int .u8 0,.int .u8 0]) O λp7 V hj hb11 hB11=>x Qg<|xl O<|Qo (us:=YM xr) hB11 O O (U4 xr) O (QaX xr.1) λhh gh p8=>xe ?_;have h4:Step [] w9 hh:=hj.then1 gh hb11
  refine Qf<|Qc<|Qb<|x (Q4 O O)<|xe<|Q7 O (λp9=>?_) (λp9=>?_)
  ·refine Qz ?_;exact ⟨(vx,qx),U,I.trans h4.any,hX.ext h4,h5.ext h4,by simp only[];omega,hY,p4⟩
  have hi3:i<2:=by have h98:¬(i:Int)=2:=p9;omega
  have g4:(48:Int)+(i:Int)=((48+i:Nat):Int):=by omega
  have pw:=h4.size;have hl11:=p8.lt;refine Zc (⟨#[101]⟩++⟨#[UInt8.ofNat (48+i)]⟩:ByteArray) λnm hC=>?_;refine Qi<|Qc<|Qb<|QO O O<|x (ZL (k':=.i32) O ⟨by omega,by omega⟩)<|x (VY (n:=48+i) (congrArg (Value.int .i32) g4) (by omega))<|x (Yd (a:=⟨#[101]⟩) (b:=⟨#[UInt8.ofNat (48+i)]⟩) O O (by show 1+1≤1000000000;omega))<|x (QD Z) <|
   xl rfl<|Qt (us:=[.string .empty,Zg]) O λhK hV Y qc gu=>xl O<|Qo (us:=[.string nm,Zg]) gu O (show Go.Lg.ev _ _=_ from congrArg (λs=>Value.agg #[.string s,Zg]) hC) O O ⟨O,O,U⟩ λhM hN hB1213=>xe ?_
  have kq:Step [] hh hM:=Y.then1 hN qc;have kr:=h4.trans kq;have hz1113:=kq.size;have hz913:=kr.size;have k9:=I.size;have hgeC:=Qm hg.c;have hltC:=QR hg.c;have nc3:E∉ob vc:=QM hg.c (by omega);have ql:∀b∈ob vc,b∉[E]:=λb hb hm=>by rw[La.1 hm] at hb;exact nc3 hb
  have hC13:=Qq (Qj (Qj hg.c ha ql) I ql) kr;have mt:=hX.ext kr;have hB1113:=p8.ext kq;have hl12:=gu.lt;have qo:E∉[hK]:=by simp only[List.mem_singleton];omega
  have n1112:p7∉[hK]:=by simp only[List.mem_singleton];omega
  have qr:=QU (L:=[hK]) hC13 (by omega) (λb hb hm=>by rw[La.1 hm] at hb;have:=hltC hK hb;omega)
  refine QT (α:=Value×List (Int×Int)) [(13,14),(104,140)] (λ_=>[]) (λz w'=>Step [hK] hM w'∧QZ w'.heap hK 122 [.string nm,z.1]∧w'.ownsRow hM.heap.size 124 2 z.1 z.2.length (z.2.flatMap QQ)∧z.2.length≤co.length∧z.2.Pairwise (λp q=>p.1<q.1)∧∀p∈z.2,0≤p.1∧p.1<(co.length:Int)∧0≤p.2∧p.2<cget (co.map (·.p.a.st)) p.1.toNat) (by rfl) ?_ ?_
  ·refine Qc<|x (Qa O)<|x (Qd mt O O)<|x (Qs qr O)<|Qb<|xe<|Qh<|QA (α:=Nat×Value×List (Int×Int)) [(13,14),(107,140)] (λz=>[(107,.int .i64 z.1)])
    (λz w'=>z.1≤co.length∧Step [hK] hM w'∧QZ w'.heap hK 122 [.string nm,z.2.1]∧w'.ownsRow hM.heap.size 124 2 z.2.1 z.2.2.length (z.2.2.flatMap QQ)∧z.2.2.length≤z.1∧z.2.2.Pairwise (λp q=>p.1<q.1)∧∀p∈z.2.2,0≤p.1∧p.1<(z.1:Int)∧0≤p.2∧p.2<cget (co.map (·.p.a.st)) p.1.toNat)
    (λz=>co.length - z.1) (by rfl) (0,Zg,[]) Z
    ⟨Ll _,Step.refl _ _,hB1213,QP _ _ _ _,Lt _,List.Pairwise.nil,λp hp=>by cases hp⟩ ?_
   rintro ⟨k,vl,ls⟩ g14 h7 ⟨hk,J,hO,S,mu,gj,hP⟩;simp only[] at hk hO S mu gj hP;refine Qc<|x (QB O O)<|xe<|Qf<|QG O (λmv=>?_) (λmv=>?_)
   ·refine Qz ?_;have ka:k=co.length:=by have h109:¬(k:Int)<(co.length:Int):=mv;omega
    rw[ka] at hP;exact ⟨(vl,ls),U,J,hO,S,by simp only[];omega,gj,hP⟩
   have hf:k<co.length:=by have h109:(k:Int)<(co.length:Int):=mv;omega
   have hAC14:=qr.st J;have hZ:=mt.step J qo;have q0:=hB1113.step J n1112;refine Qi<|Qf<|Qh<|Qc<|Qb<|Qe<|Qc<|x (Qa O)<|x (Qd hZ O O)<|Qb<|xig Xl hAC14 O O hf λa113 q1=>?_;refine Zc (co[k]'hf) λq hq=>?_;rw[hq] at q1;refine x (Zo O)<|x (Zo O)<|x (Qw ((q1.from 1).fld 1 (.int .i64 q.p.a.st) O) O)<|Qe ?_;have mw:=(hT k hf).g;rw[hq] at mw;have hqp:=mw.p
   have hqs:=mw.s;have my:=Ud (ns:=xr.1) (j:=0+k*1) (by rw[xr.2.1];omega);have qx0l:=Xw xr.2.2 (0+k*1);refine Zc (xr.1.getD (0+k*1) 0) λxk hxk=>?_;rw[hxk] at my qx0l;have hmod:0≤(xk:Int) % (q.p.a.st+2):=Int.emod_nonneg _ (by omega)
   refine Qc<|Qb<|x (ZJ (i:=k) O O (by omega))<|x (Qd q0 O my)<|x (ZL (k':=.i64) O ⟨by omega,by omega⟩)<|Qb<|QO O O<|x (Ul (a:=(xk:Int)) (b:=q.p.a.st+2) O O (by omega) (by omega))<|Qb<|x (QB O O)<|xe ?_;have hgeL:=Qm S;have q2:=J.size;have q3:=hN.size;have q4:hK∉ob vl:=QM S (by omega);have hn11v:p7∉ob vl:=QM S (by omega)
   have hcget:cget (co.map (·.p.a.st)) k=q.p.a.st:=by
    unfold cget;simp[List.getD,List.getElem?_map,List.getElem?_eq_getElem hf,hq]
   refine QG O (λza=>?_) (λza=>?_)
   ·refine Qi<|Qy<|QO O O<|Qb<|xe ?_;exact ⟨(k+1,vl,ls),by simp only[];omega,Z,hf,J,hO,S,by simp only[];omega,gj,λp hp=>by have:=hP p hp;simp only[];omega⟩
   have h126:(xk:Int) % (q.p.a.st+2)<q.p.a.st:=za;have hd14:Step [] h7 { h7 with drawn:=h7.drawn+1 }:=Step.drew _ _
   refine Zc ((xk:Int) % (q.p.a.st+2)) λst hst=>?_;refine QW (Step (ob vl) h7) [(0,true),(1,true),(2,true),(3,true),(4,true),(5,true),(6,true),(7,true),(8,true),(9,true),(10,true),(11,false),(12,false),(13,true),(14,false)] mixed (by rfl) (by kernel_rfl) (Step.drew _ _) ?_
   refine p (λ_=>Qa O)<|pq (λ_ hc=>Qd (hO.step hc q4) O O)<|p (λ_=>Qp)<|p (λ_=>Qp)<|p (λ_=>ZJ (i:=k) O O (by omega))<|pq (λ_ hc=>Qd (q0.step hc hn11v) O my)<|p (λ_=>ZL (k':=.i64) O ⟨by omega,by omega⟩)<|p (λ_=>Qp)<|p (λ_=>Jk O O ⟨by omega,by omega⟩) <|
    p (λ_=>Ul (a:=(xk:Int)) (b:=q.p.a.st+2) O O (by omega) (by omega))<|p (λ_=>QD ⟨O,O,U⟩)<|pk<|QC (us:=[QQ ((k:Int),(xk:Int) % (q.p.a.st+2))]) O O (by decide) (show 1*2≤1000000 by omega) ⟨O,O,U⟩ λb137 hH G hb137 hB137=>?_
   have gq:=hd14.trans G;have hz1415:=gq.size;refine ⟨gq.any,?_⟩;refine pk<|Q5 (news:=QQ ((k:Int),(xk:Int) % (q.p.a.st+2))) (L:=[]) (Qq S gq) O O O (hB137.at (by simp)) (QcZ _) (by omega) (by omega) λkt hI gs H zv=>⟨(gq.any (L:=ob vl)).trans' H,?_⟩;have hge16:∀b∈ob kt,hM.heap.size≤b:=λb hb=>(Qm gs b hb).1
   refine p (λ_=>Qa O)<|pkl (hl:=by kernel_rfl)<|QF ((hO.ext gq).step H q4) O O (by simp) (QH gs) λmz hw hU=>pe ?_;refine Qy<|QO O O<|Qb<|xe ?_
   refine ⟨(k+1,kt,ls++[((k:Int),(xk:Int) % (q.p.a.st+2))]),by simp only[];omega,Z,hf,((J.trans gq.any).then H (λb hb=>.inr (hgeL b hb).1)).trans' hw,hU,?_,by simp only[List.length_append,List.length_singleton];omega,?_,λp hp=>?_⟩
   ·have h9:=Qj gs hw (λb hb=>by have:=hge16 b hb;simp only[List.mem_singleton];omega);simp only[List.length_append,List.flatMap_append];simpa using h9
   ·simp only[];rw[Mo];exact ⟨gj,MX _ _,λp hp p' m0=>by rw[La.1 m0];have:=hP p hp;simp only[];omega⟩
   simp only[] at hp ⊢;rcases Lj.1 hp with hp | hp
   ·have:=hP p hp;omega
   rw[La.1 hp];simp only[Int.toNat_natCast];rw[hcget];omega
  rintro ⟨vl,ls⟩ g14 h7 ⟨J,hO,S,mu,gj,hP⟩;simp only[] at hO S mu gj hP;have q2:=J.size;have q3:=hN.size;have hQ:Step [] w9 h7:=kr.then1 J (by omega);have hZ:=mt.step J qo;have ku:=h5.ext hQ;refine Qc<|x (Qa O)<|x (Qd hO O O)<|x (Qs (QU (L:=[]) S (by omega) (by simp)) rfl)<|x (ZR rfl rfl)<|xe<|QG O (λz0=>?_) (λz0=>?_)
  ·refine Qi<|Qy<|QO O O<|Qb<|xe<|⟨(i+1,vx,qx),by simp only[];omega,Z,hz,by simp only[];omega,I.trans hQ.any,hZ,ku,by simp only[];omega,hY,λq hq=>?_⟩;obtain ⟨⟨k,k1,k2⟩,h2⟩:=hJ q hq;exact ⟨⟨k,by simp only[];omega,k2⟩,h2⟩
  have z1:(0:Int)<(ls.length:Int):=z0;have hxx:=QH S;refine Qy<|x (Qa O)<|x (Qd hZ O O)<|x (Qr hO O O)<|xl O<|QC (us:=[Zu ⟨nm,vl,ls⟩]) O O (by decide) (show 1*2≤1000000 by omega) ⟨O,O,U⟩ λb148 hH G hb148 hB148=>?_
  refine xl O<|Q5 (news:=Zu ⟨nm,vl,ls⟩) (L:=[]) (Qq ku.own G) O O O (hB148.at (by simp)) (yw hxx) (by omega) (by have:=hQ.size;have:=G.size;omega) λkt hI gs H zv=>?_;have hs1115:Step [] hh hH:=(kq.then1 J qc).trans G
  have hM16:=(h5.ext h4).app hs1115 (q:=⟨nm,vl,ls⟩) (λt ht=>by rw[La.1 ht];exact ⟨hM.heap.size,124,Qq S G,by show ls.length≤_;omega,hz1113⟩) (by omega) gs H zv;have hgeX:=Qm ku.own;have n3x:E∉ob vx:=QM ku.own (by omega);refine x (Qa O)<|xl O<|QF ((hZ.ext G).step H n3x) O O (by simp) (QH gs) λmz hw hB317=>xe ?_;refine Qy<|QO O O<|Qb<|xe ?_
  have kv:Step [E] w8 hI:=((I.trans hQ.any).trans G.any).then H (λb hb=>.inr (hgeX b hb).1);refine ⟨(i+1,kt,qx++[⟨nm,vl,ls⟩]),by simp only[];omega,Z,hz,by simp only[];omega,kv.trans' hw,hB317,hM16.low hw (λb hb=>by rw[La.1 hb];omega),by simp only[List.length_append,List.length_singleton];omega,?_,λq hq=>?_⟩
  ·simp only[List.map_append,List.map_cons,List.map_nil];rw[MD];refine ⟨hY,by simp,λs hs s' hs' e=>?_⟩;obtain ⟨q,hq,rfl⟩:=Lp.1 hs;obtain ⟨⟨k,k1,k2⟩,_⟩:=hJ q hq;have hk0:k=0:=by omega
   have hi1:i=1:=by omega
   rw[La.1 hs',k2,←hC,hk0,hi1] at e;exact absurd e (by decide)
  rcases Lj.1 hq with hq | hq
  ·obtain ⟨⟨k,k1,k2⟩,h2⟩:=hJ q hq;exact ⟨⟨k,by simp only[];omega,k2⟩,h2⟩
  rw[La.1 hq];refine ⟨⟨i,Nat.lt_succ_self _,hC.symm⟩,λe=>by rw[show ls=[] from e] at z1;exact absurd z1 (by decide),by show ls.length≤3;omega,QdI ls none (λb hb=>by cases hb) gj (λp hp=>?_)⟩;rw[Le];exact hP p hp
 rintro ⟨vx,qx⟩ g9 w9 ⟨I,hX,h5,kp,hY,hJ⟩;simp only[] at hX h5 kp hY hJ;have k9:=I.size;have z2:=kb.step I mq;have g151:=Qf1 (l:=l) h.n 4;have hbd:=h.bd;have hbdb:=Qcy l.bd (b:=8) (by decide);refine Zc (l.bd.tmod 8) λbd z3=>?_;rw[z3] at hbdb;have hbd8:-7≤bd∧bd≤7:=by omega
 refine Qc<|x (Qa O)<|x (Qd z2 O g151)<|x (ZL (k':=.i64) O ⟨by omega,by omega⟩)<|x (QfQ O O (by decide))<|x (QD ⟨O,O,U⟩)<|xl O<|Qt (us:=[.string .empty,Zg,.int .i64 0]) O λga V hj m1 m2 =>
  xl rfl<|Qo (us:=[.string ⟨#[107]⟩,Zg,.int .i64 bd]) m2 O (show Go.Lg.ev _ _=_ from congrArg (λn=>Value.agg #[.string ⟨#[107]⟩,Zg,.int .i64 n]) z3) O O ⟨O,O,O,U⟩ λhh gh z4=>xe ?_
 have h4:Step [] w9 hh:=hj.then1 gh m1;have hz911:=h4.size;have hB111:=z2.ext h4;have hB311:=hX.ext h4;have n115:b1∉[ga]:=by simp only[List.mem_singleton];omega
 have n315:E∉[ga]:=by simp only[List.mem_singleton];omega
 have hl15:=z4.lt;refine QT (α:=Value×List (Int×Int)) [(16,16),(157,179)] (λ_=>[]) (λz w'=>Step [ga] hh w'∧QZ w'.heap ga 127 [.string ⟨#[107]⟩,z.1,.int .i64 bd]∧w'.ownsRow hh.heap.size 129 2 z.1 z.2.length (z.2.flatMap QQ)∧z.2.length≤n∧z.2.Pairwise (λp q=>p.1<q.1)∧∀p∈z.2,0≤p.1∧p.1<(n:Int)∧-4<p.2∧p.2<4) (by rfl) ?_ ?_
 ·refine Qc<|Qb<|Qb<|xe<|Qh<|QA (α:=Nat×Value×List (Int×Int)) [(16,16),(158,179)] (λz=>[(158,.int .i64 z.1)])
   (λz w'=>z.1≤n∧Step [ga] hh w'∧QZ w'.heap ga 127 [.string ⟨#[107]⟩,z.2.1,.int .i64 bd]∧w'.ownsRow hh.heap.size 129 2 z.2.1 z.2.2.length (z.2.2.flatMap QQ)∧z.2.2.length≤z.1∧z.2.2.Pairwise (λp q=>p.1<q.1)∧∀p∈z.2.2,0≤p.1∧p.1<(z.1:Int)∧-4<p.2∧p.2<4)
   (λz=>n - z.1) (by rfl) (0,Zg,[]) Z
   ⟨Ll _,Step.refl _ _,z4,QP _ _ _ _,Lt _,List.Pairwise.nil,λp hp=>by cases hp⟩ ?_
  rintro ⟨i,vt,ts⟩ g12 hV ⟨hi,Y,hR,hy,ke,gk,hS⟩;simp only[] at hi hR hy ke gk hS;refine Qc<|x (QB O O)<|xe<|Qf<|QG O (λm3=>?_) (λm3=>?_)
  ·refine Qz ?_;have k6:i=n:=by have h160:¬(i:Int)<1+(cn:Int) % 3:=m3;omega
   rw[k6] at ke hS;exact ⟨(vt,ts),U,Y,hR,hy,ke,gk,hS⟩
  have hz:i<n:=by have h160:(i:Int)<1+(cn:Int) % 3:=m3;omega
  have z5:=hB111.step Y n115;have qf:=QmH (l:=l) h.n (i:=i) (by omega);have qfb:=QmG h i (by omega);refine Zc (flk l i) λfk hfk=>?_;rw[hfk] at qf qfb;refine Qi<|Qf<|Qh<|Qc<|Qb<|Qe<|Qc<|Qb<|x (Qa O)<|x (ZJ (i:=i) O O (by omega))<|x (Qd z5 O qf)<|x (Q9 O O)<|xe<|QG O (λh165=>?_) (λh165=>?_)
  ·refine Qi<|Qy<|QO O O<|Qb<|xe ?_;exact ⟨(i+1,vt,ts),by simp only[];omega,Z,hz,Y,hR,hy,by simp only[];omega,gk,λp hp=>by have:=hS p hp;simp only[];omega⟩
  have hmd:=Qcy fk (b:=4) (by decide);have hd12:Step [] hV { hV with drawn:=hV.drawn+1 }:=Step.drew _ _
  have hz12:=Y.size;have hgeT:=Qm hy;have z9:ga∉ob vt:=QM hy (by omega);have hn1v:b1∉ob vt:=QM hy (by omega);refine QW (Step (ob vt) hV) [(0,true),(1,true),(2,true),(3,true),(4,true),(5,true),(6,true),(7,true),(8,true),(9,true),(10,false),(11,false),(12,true),(13,false)] mixed (by rfl) (by kernel_rfl) (Step.drew _ _) ?_
  refine p (λ_=>Qa O)<|pq (λ_ hc=>Qd (hR.step hc z9) O O)<|p (λ_=>Qp)<|p (λ_=>Qp)<|p (λ_=>Qa O)<|p (λ_=>ZJ (i:=i) O O (by omega))<|pq (λ_ hc=>Qd (z5.step hc hn1v) O qf)<|p (λ_=>ZL (k':=.i64) O ⟨by omega,by omega⟩) <|
   p (λ_=>QfQ O O (by decide))<|p (λ_=>QD ⟨O,O,U⟩)<|pk<|QC (us:=[QQ ((i:Int),fk.tmod 4)]) O O (by decide) (show 1*2≤1000000 by omega) ⟨O,O,U⟩ λb176 hM hN hb176 hB176=>?_
  have gt:=hd12.trans hN;have hz1213:=gt.size;refine ⟨gt.any,?_⟩;refine pk<|Q5 (news:=QQ ((i:Int),fk.tmod 4)) (L:=[]) (Qq hy gt) O O O (hB176.at (by simp)) (QcZ _) (by omega) (by omega) λv14 h7 S J hn14=>⟨(gt.any (L:=ob vt)).trans' J,?_⟩;have hge14:∀b∈ob v14,hh.heap.size≤b:=λb hb=>(Qm S b hb).1
  refine p (λ_=>Qa O)<|pkl (hl:=by kernel_rfl)<|QF ((hR.ext gt).step J z9) O O (by simp) (QH S) λhH G m2=>pe ?_;refine Qy<|QO O O<|Qb<|xe<|⟨(i+1,v14,ts++[((i:Int),fk.tmod 4)]),by simp only[];omega,Z,hz,((Y.trans gt.any).then J (λb hb=>.inr (hgeT b hb).1)).trans' G,m2,?_,by simp only[List.length_append,List.length_singleton];omega,?_,λp hp=>?_⟩
  ·have h9:=Qj S G (λb hb=>by have:=hge14 b hb;simp only[List.mem_singleton];omega);simp only[List.length_append,List.flatMap_append];simpa using h9
  ·simp only[];rw[Mo];exact ⟨gk,MX _ _,λp hp p' m0=>by rw[La.1 m0];have:=hS p hp;simp only[];omega⟩
  simp only[] at hp ⊢;rcases Lj.1 hp with hp | hp
  ·have:=hS p hp;omega
  rw[La.1 hp];simp only[];omega
 rintro ⟨vt,ts⟩ g12 hV ⟨Y,hR,hy,ke,gk,hS⟩;simp only[] at hR hy ke gk hS;have hz12:=Y.size;have hgT:=Qm hy;refine Qc<|x (Qa O)<|x (Qd hR O O)<|xl O<|xf<|(QjP hy (by omega)).mono ?_;rintro vu hM ⟨hN,kw⟩;have hup:(nzT ts).Pairwise (λp q=>p.1<q.1):=List.Pairwise.filter _ gk;have hul:=Ma (λp:Int×Int=>!decide (p.2=0)) ts
 have hub:∀p∈nzT ts,0≤p.1∧p.1<(n:Int)∧p.2≠0∧-65536≤p.2∧p.2≤65536:=λp hp=>by
  have h1:=LR.1 hp;have h2:=hS p h1.1;have h3:¬p.2=0:=by simpa using h1.2
  omega
 refine Zc (nzT ts) λus hus=>?_;have hul':us.length≤3:=by rw[←hus];exact LS hul (by omega)
 rw[hus] at kw hup hub;have n15t:ga∉ob vt:=QM hy (by omega);refine x (Qa O)<|xl O<|QF (hR.step hN n15t) O O (by simp) (QH kw) λh7 J hB1514=>xe ?_;have hQ:Step [] w9 h7:=(((h4.then1 Y m1).then hN (λb hb=>.inr (by have:=(hgT b hb).1;omega)))).then1 J m1;have hz914:=hQ.size;have q3:=hN.size;have q2:=J.size;have hgU:=Qm kw
 have S:=Qj kw J (λb hb=>by have:=(hgU b hb).1;simp only[List.mem_singleton];omega);have hZ:=hX.ext hQ;refine QT (α:=Value×List KV) [(184,190)] (λ_=>[]) (λz w'=>Step [E] h7 w'∧QZ w'.heap E 47 [ve,vc,vr,vx,z.1]∧z.2.length≤1∧(∀q∈z.2,q.nm=⟨#[107]⟩∧Yw (co.map (·.p.a.st)) q.k=0)∧∀L:LN,(∀b∈L,b<w6.heap.size)→zg L w'.heap z.1 z.2) (by rfl) ?_ ?_
 ·refine Qc<|x (Qa O)<|x (Qd hB1514 O O)<|x (Qs (QU (L:=[]) S (by omega) (by simp)) rfl)<|x (ZR rfl rfl)<|xe<|QG O (λh187=>?_) (λh187=>?_)
  ·refine Qi ?_;exact ⟨(Zg,[]),U,Step.refl _ _,hZ,by decide,λq hq=>(by cases hq),λL _=>⟨Zs.nil _ _ 3,λq hq=>(by cases hq),λq hq=>(by cases hq)⟩⟩
  have h188:(0:Int)<(us.length:Int):=h187;have huo:=QH S;refine Qy<|x (Qr hB1514 O O)<|xl O<|QC (us:=[Zw ⟨⟨#[107]⟩,vu,us,bd⟩]) O O (by decide) (show 1*3≤1000000 by omega) ⟨O,O,U⟩ λb189 hH G hb189 hB189=>?_;have hz15:=G.size;refine x (Qa O)<|xl O<|QF (hZ.ext G) O O (by simp) rfl λhI H hW=>xe ?_
  refine ⟨(_,[⟨⟨#[107]⟩,vu,us,bd⟩]),U,G.any.trans' H,hW,Lt _,λq hq=>?_,λL hL=>?_⟩
  ·rw[La.1 hq];refine ⟨rfl,?_⟩;have hgr0:grt bd=false:=by unfold grt;rw[decide_eq_false (by omega),decide_eq_false (by omega)];rfl
   have hct:=QdG (sz:=co.map (·.p.a.st)) us none (λb hb=>by cases hb) hup (λp hp=>by rw[Le,gw];exact hub p hp);show Yw _ ⟨_,us,bd⟩=0;unfold Yw;rw[if_neg (by simp only[];omega),if_neg (by rw[hct];decide),if_neg (by simp only[];rw[hgr0];decide)]
  have kx:∀b∈E::L,b<hh.heap.size:=λb hb=>by
   rcases Lb.1 hb with rfl | hb
   ·omega
   have:=hL b hb;omega
  have h1:zg (E::L) hH.heap (.slice (some ⟨b189,0,none⟩) 1 1) [⟨⟨#[107]⟩,vu,us,bd⟩]:=by
   refine ⟨hB189.arr (λhb=>by have:=kx _ hb;omega) O (by decide) (Lt _),λq hq=>?_,λq hq=>?_⟩
   ·rw[La.1 hq];exact (QU (L:=E::L) S (by omega) (λb hb kf=>by have:=(hgU b hb).1;have:=kx b kf;omega)).ext G
   rw[La.1 hq];exact Y3 (by decide)
  exact (h1.st (H.mono (by simp))).up (λb hb=>.inl (Lk _ hb))
 rintro ⟨vk,ks⟩ g16 hI ⟨H,hW,hf,hgk,m4⟩;simp only[] at hW hf hgk m4;have hz16:=H.size;have hge3:=Qm gl;have hlt3:=QR gl;have kv:Step [E] w8 hI:=(I.trans hQ.any).trans' H;have hs716:Step [E] w7 hI:=ha.trans' kv;have m5:Step [E,b4] w6 hI:=h8.trans' (hs716.mono (by simp));have m6:∀b∈[E],b<w6.heap.size:=λb hb=>by rw[La.1 hb];omega
 have hE16:=Qj (Qq gl pn) m5 (λb hb hm=>by have:=hlt3 b hb;simp only[List.mem_cons,List.not_mem_nil,or_false] at hm;omega);have hC16:=hg.low hs716 m6;have hR16:=hB.low kv (λb hb=>by have:=m6 b hb;omega);have hX16:=(h5.ext hQ).low H (λb hb=>by have:=m6 b hb;omega);have n23:b2∉[E]:=by simp only[List.mem_singleton];omega
 have n234:b2∉[E,b4]:=by simp only[List.mem_cons,List.not_mem_nil,or_false];omega
 have hB216:=(pc.ext gv).step m5 n234;refine Qc<|x (Qr hW O O)<|xl O<|Qo (us:=[ve,vc,vr,vx,vk]) hB216 O O O O ⟨QH hE16,QH hC16.c,QH hR16.c,QH hX16.own,(m4 [] (by simp)).arr.one,U⟩ λmz hw hB217=>xe ?_;have m7:∀b∈[b2],b<w6.heap.size:=λb hb=>by rw[La.1 hb];omega
 have lo2':∀b∈[b2],b<w2.heap.size:=λb hb=>by rw[La.1 hb];omega
 have hE17:=Qj hE16 hw (λb hb hm=>by have:=(hge3 b hb).1;have:=lo2' b hm;omega);have hC17:=hC16.low hw m7;have hR17:=hR16.low hw (λb hb=>by have:=m7 b hb;omega);have m8:=hX16.low hw (λb hb=>by have:=m7 b hb;omega);have hs017:Step [] w mz:=((pd.trans gv).then m5 (λb hb=>.inr (by simp only[List.mem_cons,List.not_mem_nil,or_false] at hb;omega))).then1 hw (by omega)
 have hcon:∀q∈co,UC q.nm:=λq hq=>by
  obtain ⟨k,hk,rfl⟩:=LD hq;rw[(hT k hk).nm];exact V3 99 k
 have hrqn:∀q∈rq,UC q.nm:=λq hq=>by
  obtain ⟨k,hk,rfl⟩:=LD hq;rw[(h6 k hk).1.nm];exact V3 114 k
 have hxnm:∀q∈qx,UC q.nm:=λq hq=>by
  obtain ⟨⟨k,_,k2⟩,_⟩:=hJ q hq;rw[k2];exact V3 101 k
 have hevn:∀e∈ev,UC e.nm:=λe he=>Qho _ e (by rw[ki];exact he);have hevl:ev.length=5:=by rw[←ki];exact Jr _ _
 refine Qn ⟨[.agg [ve,vc,vr,vx,vk].toArray],⟨⟨_,O,Qv O (hB217.at (L:=[]) (by simp)).cells⟩,U⟩,hs017,⟨ev,co.map IV.it,rq.map IV.it,qx.map XV.x,ks.map KV.k⟩,⟨⟨ve,vc,vr,vx,vk,ev,co,rq,qx,ks⟩,rfl,rfl,λL hL=>?_⟩,?_⟩
 ·have kx:∀b∈L,b<w2.heap.size:=λb hb=>by have:=hL b hb;omega
  have hLn:b2∉L:=λhm=>by have:=hL b2 hm;omega
  have kg:∀b∈b2::L,b<w6.heap.size:=λb hb=>by
   rcases Lb.1 hb with rfl | hb
   ·omega
   have:=hL b hb;omega
  refine ⟨⟨QU hE17 (by show ev.length≤_;omega) (λb hb kf=>by have:=(hge3 b hb).1;have:=kx b kf;omega),hevn⟩,hC17.itms (by omega) hcon (λb hb=>by have:=kg b (Lk _ hb);omega),hR17.itms (by omega) hrqn (λb hb=>by have:=kg b (Lk _ hb);omega),⟨QU m8.own (by show qx.length≤_;omega) (λb hb kf=>by have:=(Qm m8.own b hb).1;have:=kg b (Lk _ kf);omega),λq hq=>?_,hxnm⟩,?_⟩
  ·exact m8.each q hq _ (La.2 O) L (λb hb=>.inl (by have:=kg b (Lk _ hb);omega))
  exact ((m4 (b2::L) kg).st (hw.mono (by simp))).up (λb hb=>.inl (Lk _ hb))
 rw[←ki];exact QlU ky (by omega) (by omega) hT gn (by omega) h6 kp hY hJ hf hgk
structure zC (base:Nat) (w:World) (vc va:Value) (co:List IV) (al:List KG):Prop where
 c:w.ownsRow base 66 5 vc co.length (co.flatMap Zh)
 a:w.ownsRow base 87 5 va al.length (al.flatMap Zn)
 dj:Dj vc va
 each:∀q∈co,∀t∈Qeo q,ZN base (ob vc++ob va) w.heap t.1 t.2.1 t.2.2.1 t.2.2.2
section
variable {base:Nat} {w w':World} {vc va vc' va':Value} {co:List IV} {al:List KG}
theorem zC.nil:zC base w (nS) (nS) [] []:=⟨QP _ _ _ _,QP _ _ _ _,Dj.nil _,λq hq=>by cases hq⟩
theorem zC.ext (h:zC base w vc va co al) (hs:Step [] w w'):zC base w' vc va co al:=⟨Qq h.c hs,Qq h.a hs,h.dj,λq hq t ht=>(h.each q hq t ht).ext hs⟩
theorem zC.low {X:LN}(h:zC base w vc va co al) (hs:Step X w w') (E:∀b∈X,b<base):zC base w' vc va co al :=
 ⟨Qj h.c hs (λb hb hm=>by have:=(Qm h.c b hb).1;have:=E b hm;omega),Qj h.a hs (λb hb hm=>by have:=(Qm h.a b hb).1;have:=E b hm;omega),h.dj,λq hq t ht=>(h.each q hq t ht).low hs E⟩
theorem zC.avlt (h:zC base w vc va co al):∀b∈ob vc++ob va,b<w.heap.size:=λb hb=>(Lj.1 hb).elim (QR h.c b) (QR h.a b)
theorem zC.setC {q:IV}(h:zC base w vc va co al) (hq:∀t∈Qeo q,ZN base (ob vc++ob va) w.heap t.1 t.2.1 t.2.2.1 t.2.2.2) (J:w'.ownsRow base 66 5 vc' (co.length+1) (co.flatMap Zh++Zh q))
  (hs:Step (ob vc) w w') (E:∀b∈ob vc',b∈ob vc∨w.heap.size≤b):zC base w' vc' va (co++[q]) al:=by
 have G:Step (ob vc++ob va) w w':=hs.mono (λb hb=>Lj.2 (.inl hb));have H:∀b∈ob vc'++ob va,b∈ob vc++ob va∨w.heap.size≤b:=λb hb=>by
  rcases Lj.1 hb with hb | hb
  ·exact (E b hb).imp (λh=>Lj.2 (.inl h)) id
  exact .inl (Lj.2 (.inr hb))
 refine ⟨?_,Qj h.a hs (λb hb S=>h.dj b S hb),λb hb I=>?_,λd hd t ht=>?_⟩
 ·rw[Lh,Ly];simpa using J
 ·rcases E b hb with h1 | h1
  ·exact h.dj b h1 I
  have:=QR h.a b I;omega
 rcases Lj.1 hd with hd | hd
 ·exact (h.each d hd t ht).app G H
 simp only[List.mem_singleton] at hd;subst hd;exact (hq t ht).app G H
theorem zC.setA {E:List KG}(h:zC base w vc va co al) (I:w'.ownsRow base 87 5 va' E.length (E.flatMap Zn)) (hs:Step (ob va) w w') (H:∀b∈ob va',b∈ob va∨w.heap.size≤b):zC base w' vc va' co E:=by
 have J:Step (ob vc++ob va) w w':=hs.mono (λb hb=>Lj.2 (.inr hb));have S:∀b∈ob vc++ob va',b∈ob vc++ob va∨w.heap.size≤b:=λb hb=>by
  rcases Lj.1 hb with hb | hb
  ·exact .inl (Lj.2 (.inl hb))
  exact (H b hb).imp (λh=>Lj.2 (.inr h)) id
 refine ⟨Qj h.c hs (λb hb G=>h.dj b hb G),I,λb hb G=>?_,λd hd t ht=>(h.each d hd t ht).app J S⟩;rcases H b G with h1 | h1
 ·exact h.dj b hb h1
 have:=QR h.c b hb;omega
theorem zC.itms {L:LN}(h:zC base w vc va co al) (G:co.length≤1099511627776) (hm:∀q∈co,UC q.nm) (E:∀b∈L,b<base):Xm L w.heap vc co :=
 ⟨QU h.c G (λb hb H=>by have:=(Qm h.c b hb).1;have:=E b H;omega),λq hq=>⟨h.each q hq (q.p.va,q.p.a.al.length,1,q.p.a.al.map (.int .i64)) (by simp) L (λb hb=>.inl (E b hb)),h.each q hq (q.p.vm,q.p.a.mr.length,1,q.p.a.mr.map (.int .i64)) (by simp) L (λb hb=>.inl (E b hb)),h.each q hq (q.p.ve,q.p.a.ed.length,3,q.p.a.ed.flatMap Qx) (by simp) L (λb hb=>.inl (E b hb))⟩,hm⟩
end
def mzA (s f:Int):QN:=⟨[s,f],2,[0],[(0,s,1),(1,f,0)]⟩
set_option maxHeartbeats 1000000 in
theorem Qco (nm:ByteArray) (s f:Int) (w:World):QK prog 244 [.string nm,.int .i64 s,.int .i64 f] w λr w'=>Step [] w w'∧∃xa xm xe,r=.agg #[.string nm,xa,.int .i64 2,xm,xe]∧ZQ [xa,xm,xe]∧∀L:LN,(∀b∈L,b<w.heap.size)→Zv L w'.heap xa xm xe (mzA s f):=by
 refine QK.of_W func244 O ntmps244 results244 (by simp) ?_;refine Qc<|xl O<|Qt (us:=[.string .empty,nS,.int .i64 0,nS,nS]) O λb6 w1 V hg Y=>xe ?_;have hh:=Y.lt
 refine Qc<|Qb<|Qb<|xl O<|QC (us:=[[.int .i64 s],[.int .i64 f]]) O O (by decide) (by simp) ⟨rfl,rfl,rfl,rfl,U⟩ λE w2 ha hv hj=>xl rfl<|QC (us:=[[.int .i64 0]]) rfl rfl (by decide) (by simp) ⟨rfl,rfl,U⟩ λG w3 J hw hk =>
  Qb<|x (QD ⟨O,O,O,U⟩)<|Qb<|x (QD ⟨O,O,O,U⟩)<|xl O<|QC (us:=[Qx (0,s,1),Qx (1,f,0)]) O O (by decide) (by exact (by decide:2*3≤1000000)) ⟨O,O,O,O,U⟩ λH w4 I hy hl=>?_
 have hc:=(ha.trans J).trans I;have hm:=V.trans hc;have hz:=V.size;have h0:=ha.size;have h2:=J.size;have h3:=I.size;have hF:Y0 w1.heap.size w4.heap (.agg #[.slice (some ⟨E,0,none⟩) 2 2,.int .i64 2,.slice (some ⟨G,0,none⟩) 1 1,.slice (some ⟨H,0,none⟩) 2 2]) (mzA s f) :=
  yv (a:=mzA s f) ((hj.ext J).ext I) (hk.ext I) hl (by omega) (by omega) (by omega) O O O (by decide) (by decide) (by decide)
 refine x (QD ⟨O,O,O,O,U⟩)<|xl O<|Qt (us:=JV) O λb7 w5 hn ho hp=>xl O<|Qo (us:=[.slice (some ⟨E,0,none⟩) 2 2,.int .i64 2,.slice (some ⟨G,0,none⟩) 1 1,.slice (some ⟨H,0,none⟩) 2 2]) hp O O O O ⟨O,O,O,O,U⟩ λw6 hq hr=>xe ?_;have S:Step [] w4 w6:=hn.then1 hq ho
 refine Qc<|Qb<|x (Qr hr O O)<|x (ZY [(0,[.string nm]),(1,[.slice (some ⟨E,0,none⟩) 2 2,.int .i64 2,.slice (some ⟨G,0,none⟩) 1 1,.slice (some ⟨H,0,none⟩) 2 2])] ⟨O,O,O,O,U⟩) <|
  xl rfl<|Qo (us:=[.string nm,.slice (some ⟨E,0,none⟩) 2 2,.int .i64 2,.slice (some ⟨G,0,none⟩) 1 1,.slice (some ⟨H,0,none⟩) 2 2]) ((Y.ext hc).ext S) O O O O ⟨O,O,O,O,O,U⟩ λw7 he ht=>xe ?_
 obtain ⟨xa,xm,h4,hu,hA⟩:=hF;have hf:=congrArg (λv=>match v with | Value.agg cs=>cs.toList | _=>[]) hu
 simp only[List.cons.injEq,and_true] at hf;obtain ⟨rfl,_,rfl,rfl⟩:=hf;refine Qn ⟨[.agg [.string nm,.slice (some ⟨E,0,none⟩) 2 2,.int .i64 2,.slice (some ⟨G,0,none⟩) 1 1,.slice (some ⟨H,0,none⟩) 2 2].toArray],⟨⟨_,O,Qv O (ht.at (L:=[]) (by simp)).cells⟩,U⟩,(hm.trans S).then1 he hg,_,_,_,rfl,⟨rfl,rfl,rfl,U⟩,λL hL=>?_⟩;have h1:=(hA (b6::L) (λb hb=>by
  rcases Lb.1 hb with rfl | hb
  ·exact hh
  have:=hL b hb;omega)).ext S
 exact (h1.st (he.mono (by simp))).up (λb hb=>.inl (Lk _ hb))
def nmZ (p:Array UInt8) (i:Nat):ByteArray:=⟨p⟩++⟨#[UInt8.ofNat (97+i)]⟩
abbrev Qf2:Array UInt8:=#[115,116,97,114,116]
abbrev QcX:Array UInt8:=#[102,105,110,105,115,104]
abbrev Xz:Array UInt8:=#[109,97,99,104,105,110,101]
def Qaf (i:Nat):List KG:=[⟨nmZ Qf2 i,true,true,false,0⟩,⟨nmZ QcX i,false,true,false,0⟩]
def mzE (c:Nat):List KG:=(List.range c).flatMap Qaf
def QmL (i:Nat):Yp:=⟨nmZ Xz i,mzA (2*(i:Int)) (2*(i:Int)+1)⟩
def mzC (c:Nat):Q8:=⟨mzE c,(List.range c).map QmL,[],[],[]⟩
theorem V2 (p:Array UInt8) (i:Nat) (h:p.size≤10):UC (nmZ p i):=by
 show (ByteArray.mk _++ByteArray.mk _).size≤_;rw[ByteArray.size_append];show p.size+1≤_;omega
theorem Qll (c:Nat):∀e∈mzE c,UC e.nm:=λe he=>by
 unfold mzE at he;obtain ⟨i,_,hi⟩:=Mv.1 he;simp only[Qaf,List.mem_cons,List.not_mem_nil,or_false] at hi;rcases hi with rfl | rfl
 ·exact V2 _ _ (by decide)
 exact V2 _ _ (by decide)
theorem Qag (c:Nat):mzE (c+1)=mzE c++Qaf c:=by unfold mzE;rw[List.range_succ,Ly];simp
theorem Qc7:∀c,(mzE c).length=2*c
 | 0=>rfl
 | c+1=>by rw[Qag,Lh,Qc7 c];show 2*c+2=_;omega
theorem Qei (i:Nat):∀u∈(Qaf i).flatMap Zn,u.oneCell'=true:=λu hu=>by
 obtain ⟨e,_,he⟩:=Mv.1 hu;exact QaA e u he
set_option maxHeartbeats 8000000 in
theorem Ja (c:Nat) (hZ:c≤4) (w:World):QK prog 196 [.int .i64 c] w λr w'=>Step [] w w'∧Qig w.heap.size w'.heap r (mzC c):=by
 refine QK.of_W func196 O ntmps196 results196 (by simp) ?_;refine Qc<|xl O<|Qt (us:=Yq) O λb2 w1 hy ga hz=>xe ?_;refine Qc<|xl O<|Qt (us:=Yq) O λH I hj gb h0=>xe ?_;have hG:=hy.trans hj;have gc:=hy.size;have ge:=hj.size;have gg:=hz.lt;have hk:=h0.lt;have hH:=hz.ext hj;refine Qf<|Qc<|Qb<|Qb<|xe ?_
 refine Qh<|QA (α:=Nat×Value×List KG×Value×List IV) [(4,4),(6,42)] (λz=>[(6,.int .i64 z.1)])
  (λz w'=>z.1≤c∧Step [H] I w'∧QZ w'.heap H 47 [z.2.1,z.2.2.2.1,Zg,Zg,Zg]∧zC I.heap.size w' z.2.2.2.1 z.2.1 z.2.2.2.2 z.2.2.1∧z.2.2.1=mzE z.1∧z.2.2.2.2.map IV.it=(List.range z.1).map QmL∧∀q∈z.2.2.2.2,UC q.nm)
  (λz=>c - z.1) (by rfl) (0,Zg,[],Zg,[]) Z ⟨Ll _,Step.refl _ _,h0,zC.nil,O,O,λq hq=>by cases hq⟩ ?_
 rintro ⟨i,ve,ev,vc,co⟩ g3 w3 ⟨hi,ha,hf,E,J,V,hm⟩;simp only[] at hi hf E J V hm;have gh:=ha.size;have gi:ev.length=2*i:=by rw[J];exact Qc7 i
 have gj:co.length=i:=by have:=congrArg List.length V;simpa using this
 refine Qc<|x (QB O O)<|xe<|Qf<|QG O (λh7=>?_) (λh7=>?_)
 ·refine Qz ?_;have hI:i=c:=by have h8:¬(i:Int)<(c:Int):=h7;omega
  rw[hI] at J V;have hJ:b2∉[H]:=by simp only[List.mem_singleton];omega
  have hn:=hH.step ha hJ;refine Qc<|x (Qr hf O O)<|xl O<|Qo (us:=[ve,vc,Zg,Zg,Zg]) hn O O O O ⟨QH E.a,QH E.c,O,O,O,U⟩ λw4 G hK=>xe ?_;have hM:∀b∈[b2],b<I.heap.size:=λb hb=>by rw[La.1 hb];omega
  have ho:=E.low G hM;refine Qn ⟨[.agg [ve,vc,Zg,Zg,Zg].toArray],⟨⟨_,O,Qv O (hK.at (L:=[]) (by simp)).cells⟩,U⟩,(hG.then1 ha (by omega)).then1 G (by omega),⟨ve,vc,Zg,Zg,Zg,ev,co,[],[],[]⟩,rfl,?_,λL hL=>?_⟩
  ·show (⟨ev,co.map IV.it,[],[],[]⟩:Q8)=mzC c;rw[J,V];rfl
  have h1:∀b∈L,b<I.heap.size:=λb hb=>by have:=hL b hb;omega
  exact ⟨⟨QU ho.a (by show ev.length≤_;omega) (λb hb hN=>by have:=(Qm ho.a b hb).1;have:=h1 b hN;omega),λe he=>Qll c e (by rw[←J];exact he)⟩,ho.itms (by omega) hm h1,⟨Zs.nil _ _ 5,λq hq=>(by cases hq),λq hq=>(by cases hq)⟩,⟨Zs.nil _ _ 2,λq hq=>(by cases hq),λq hq=>(by cases hq)⟩,⟨Zs.nil _ _ 3,λq hq=>(by cases hq),λq hq=>(by cases hq)⟩⟩
 have hO:i<c:=by have h8:(i:Int)<(c:Int):=h7;omega
 have hu:(97:Int)+(i:Int)=((97+i:Nat):Int):=by omega
 refine Qi<|Qf<|Qh<|Qc<|Qb<|Qe<|Qc<|x (Qa O)<|x (Qd hf O O)<|Qb<|QO O O<|x (ZL (k':=.i32) O ⟨by omega,by omega⟩)<|x (VY (n:=97+i) (congrArg (Value.int .i32) hu) (by omega))<|x (Yd (a:=⟨Qf2⟩) (b:=⟨#[UInt8.ofNat (97+i)]⟩) O O (by show 5+1≤1000000000;omega))<|x (QD ⟨O,O,O,U⟩) <|
  Qb<|QO rfl O<|x (ZL (k':=.i32) O ⟨by omega,by omega⟩)<|x (VY (n:=97+i) (congrArg (Value.int .i32) hu) (by omega))<|x (Yd (a:=⟨QcX⟩) (b:=⟨#[UInt8.ofNat (97+i)]⟩) O O (by show 6+1≤1000000000;omega))<|x (QD ⟨O,O,U⟩) <|
  xl rfl<|QC (us:=(Qaf i).map Zn) O O (by decide) (by exact (by decide:2*5≤1000000)) ⟨O,O,O,O,U⟩ λgk w4 G gl hn=>?_
 have gm:=G.size;have hP:H∉ob ve:=QM E.a hk;have h2:H∉ob vc:=QM E.c hk;have hge:=Qm E.a;have hQ:=Qm E.c;refine xl rfl<|Q5 (m:=2) (news:=(Qaf i).flatMap Zn) (L:=[]) (Qq E.a G) O O O (hn.at (by simp)) (Qei i) (by omega) (by omega) λhp w5 h3 hr hR=>?_;refine x (Qa O)<|xl O<|QF (j:=0) (u:=hp) ((hf.ext G).step hr hP) O O (by simp) (QH h3) λS h4 h5=>xe ?_
 have hS:zC I.heap.size w5 vc hp co (ev++Qaf i):=(E.ext G).setA (by rw[Lh,Ly];exact h3) hr hR;have h6:∀b∈[H],b<I.heap.size:=λb hb=>by rw[La.1 hb];exact hk
 have h9:=hS.low h4 h6;have hB:Step [H] I S:=((ha.trans G.any).then hr (λb hb=>.inr (hge b hb).1)).trans' h4;have gn:=hB.size;have hT:Step [] S { S with drawn:=S.drawn+1 }:=Step.drew _ _
 refine QW (Step (ob vc) S) [(0,true),(1,true),(2,true),(3,true),(4,true),(5,true),(6,true),(7,true),(8,true),(9,true),(10,true),(11,true),(12,false),(13,false),(14,false),(15,true),(16,false)] mixed (by rfl) (by kernel_rfl) (Step.drew _ _) ?_
 refine p (λ_=>Qa O)<|pq (λ_ hc=>Qd (h5.step hc h2) O O)<|p (λ_=>Qp)<|p (λ_=>Jk O O ⟨by omega,by omega⟩)<|p (λ_=>ZL (k':=.i32) O ⟨by omega,by omega⟩)<|p (λ_=>VY (n:=97+i) (congrArg (Value.int .i32) hu) (by omega)) <|
  p (λ_=>Yd (a:=⟨Xz⟩) (b:=⟨#[UInt8.ofNat (97+i)]⟩) O O (by show 7+1≤1000000000;omega))<|p (λ_=>Qp)<|p (λ_=>QfS O O ⟨by omega,by omega⟩)<|p (λ_=>Qp)<|p (λ_=>QfS O O ⟨by omega,by omega⟩)<|p (λ_=>Jk O O ⟨by omega,by omega⟩) <|
  pk<|xf<|(Qco (nmZ Xz i) (2*(i:Int)) (2*(i:Int)+1) _).mono ?_
 rintro r7 w7 ⟨hU,xa,xm,hg,rfl,ht,hA⟩;have hv:=hT.trans hU;refine ⟨hv.any,?_⟩;refine pk<|QC (us:=[Zh ⟨nmZ Xz i,⟨xa,xm,hg,mzA (2*(i:Int)) (2*(i:Int)+1)⟩⟩]) O O (by decide) (show 1*5≤1000000 by omega) ⟨O,O,U⟩ λgo w8 hw gp hV=>⟨(hv.trans hw).any,?_⟩;have Y:=hv.trans hw;have hC:=h9.ext Y
 refine pk<|Q5 (news:=Zh ⟨nmZ Xz i,⟨xa,xm,hg,mzA (2*(i:Int)) (2*(i:Int)+1)⟩⟩) (L:=[]) hC.c O O O (hV.at (by simp)) (jk ht.1 ht.2.1 ht.2.2.1) (by omega) (by have:=Y.size;omega) λhD w9 hE hh hW=>⟨(Y.any (L:=ob vc)).trans' hh,?_⟩
 have hX:=hC.setC (qG (q:=⟨nmZ Xz i,⟨xa,xm,hg,mzA (2*(i:Int)) (2*(i:Int)+1)⟩⟩) (N:=S.heap.size) (λL hL=>(hA L hL).ext hw) (by omega) h9.avlt) hE hh hW;refine p (λ_=>Qa O)<|pkl (hl:=by kernel_rfl)<|QF (j:=1) (u:=hD) ((h5.ext Y).step hh h2) O O (by simp) (QH hE) λgq hF hY=>pe ?_;refine Qy<|QO O O<|Qb<|xe ?_
 refine ⟨(i+1,hp,ev++Qaf i,hD,co++[⟨nmZ Xz i,⟨xa,xm,hg,mzA (2*(i:Int)) (2*(i:Int)+1)⟩⟩]),by simp only[];omega,Z,hO,((hB.trans Y.any).then hh (λb hb=>.inr (hQ b hb).1)).trans' hF,hY,hX.low hF h6,?_,?_,λq hq=>?_⟩
 ·simp only[];rw[Qag,J]
 ·simp only[];rw[Lu,V,List.range_succ,Lu];rfl
 rcases Lj.1 hq with hq | hq
 ·exact hm q hq
 rw[La.1 hq];exact V2 _ _ (by decide)
end Go.Proofs.YtdffckgdcegpaaaGreatDoor
namespace Go.Lg
section
variable {P:Program} {f:Fr} {w:World} {d:Option Nat} {ty:Nat} {ps:String} {af:Array Edge} {gd:Option (Nat×Bool)}
abbrev i4 (p:Int×Int×Int×Int):LV:=[.int .i64 p.1,.int .i64 p.2.1,.int .i64 p.2.2.1,.int .i64 p.2.2.2]
class S4 (P:Program) (t:Nat):Prop where
 u:∃f0 f1 f2 f3,P.underlying t=some (.struct #[f0,f1,f2,f3])∧f0.name ≠ "_" ∧ f1.name ≠ "_" ∧ f2.name ≠ "_" ∧ f3.name ≠ "_" ∧ f0.offset=0∧f1.offset=1∧f2.offset=2∧f3.offset=3 ∧
  P.underlying f0.type=some (.int .i64)∧P.underlying f1.type=some (.int .i64)∧P.underlying f2.type=some (.int .i64)∧P.underlying f3.type=some (.int .i64)
 s:P.stoodInHeld t=false
 g:P.eqGuardType P.depth t=false
theorem yJ {t:Nat}[h:S4 P t] (w:World) (p:Int×Int×Int×Int):(Op.equal t (.agg (i4 p).toArray) (.agg (i4 p).toArray)).run P w=.ok true w:=by
 obtain ⟨a,b,c,e⟩:=p;obtain ⟨f0,f1,f2,f3,hu,J,n1,S,V,Y,o1,o2,o3,H,I,u2,u3⟩:=h.u;have E:∀e w,P.underlying e=some (.int .i64)→(isAgg e).run P w=.ok false w:=λe w he=>by simp[isAgg,run_underlying he]
 have hp:∀e (x y z u:Int) (w:World),P.underlying e=some (.int .i64)→(part e #[.int .i64 x,.int .i64 y,.int .i64 z,.int .i64 u] 0).run P w=.ok (.int .i64 x) w:=λe x y z u w he=>by simp[part,E e w he]
 have ha:∀e (x y z u:Int) (w:World),P.underlying e=some (.int .i64)→(part e #[.int .i64 x,.int .i64 y,.int .i64 z,.int .i64 u] 1).run P w=.ok (.int .i64 y) w:=λe x y z u w he=>by simp[part,E e w he]
 have hb:∀e (x y z u:Int) (w:World),P.underlying e=some (.int .i64)→(part e #[.int .i64 x,.int .i64 y,.int .i64 z,.int .i64 u] 2).run P w=.ok (.int .i64 z) w:=λe x y z u w he=>by simp[part,E e w he]
 have hc:∀e (x y z u:Int) (w:World),P.underlying e=some (.int .i64)→(part e #[.int .i64 x,.int .i64 y,.int .i64 z,.int .i64 u] 3).run P w=.ok (.int .i64 u) w:=λe x y z u w he=>by simp[part,E e w he]
 have G:∀e (m:Nat) (x y:Int) (w:World),P.underlying e=some (.int .i64)→(Op.equalIn (m+1) e (.int .i64 x) (.int .i64 y)).run P w=.ok (x == y) w:=λe m x y w he=>by simp[Op.equalIn,run_underlying he]
 have key:∀m,(Op.equalIn (m+2) t (.agg (i4 (a,b,c,e)).toArray) (.agg (i4 (a,b,c,e)).toArray)).run P w=.ok true w:=by
  intro m;simp only[i4];unfold Op.equalIn;simp only[Sem.run_bind,run_underlying hu,Result.andThen_ok];simp[h.s,J,n1,S,V,Y,o1,o2,o3,hp _ _ _ _ _ _ H,ha _ _ _ _ _ _ I,hb _ _ _ _ _ _ u2,hc _ _ _ _ _ _ u3,G _ _ _ _ _ H,G _ _ _ _ _ I,G _ _ _ _ _ u2,G _ _ _ _ _ u3]
 exact key 9998
theorem QfR {t E:Nat}[h:S4 P t] {x y:Operand}{p:Int×Int×Int×Int}(hx:ev f x=.agg (i4 p).toArray) (hy:ev f y=.agg (i4 p).toArray) :
  (execOp (ev f) ⟨d,.binOp .neq t x y E,ty,ps,af,gd⟩).run P w=.ok (.value (.bool false)) w:=by
 have G:(eqGuard .neq t x y (.agg (i4 p).toArray) (.agg (i4 p).toArray)).run P w=.ok () w:=by simp[eqGuard,h.g]
 simp only[execOp,hx,hy,Sem.run_bind,G,Result.andThen_ok,binOp,yJ,Sem.run_pure];rfl
end
end Go.Lg
namespace Go.Proofs.YtdffckgdcegpaaaGreatDoor
open Go.Proofs.Tryz
open Go.Lg
instance s4Rsn:S4 prog 83:=⟨⟨_,_,_,_,underlying83,by decide,by decide,by decide,by decide,O,O,O,O,underlying3,underlying3,underlying3,underlying3⟩,by kernel_rfl,by kernel_rfl⟩
theorem V7 {L L':LN}{w:World}{v v':Value}{l:List Rsn}(h:Zs L w.heap v l.length 4 (l.flatMap Zy)) (h':Zs L' w.heap v' l.length 4 (l.flatMap Zy)) :
  QK prog 198 [v,v'] w λr w'=>r=.bool true∧Step [] w w':=by
 have Y:=h.le;refine QK.of_W func198 O ntmps198 results198 (by simp) ?_;refine Qc<|Qe<|Qf<|Qc<|Qb<|x (Qs h O)<|Qb<|x (Qs h' O)<|x (Q9 O O)<|xe<|Q7 rfl (λG=>absurd O G) (λG=>?_);refine Qi<|Qf<|Qc<|Qb<|x (Qs h O)<|Qb<|xe ?_
 refine Qh<|QA (α:=Nat) [(4,5),(13,25)] (λk=>[(13,.int .i64 k)]) (λk w'=>Step [] w w'∧k≤l.length) (λk=>l.length - k) (by rfl) 0 Z ⟨Step.refl _ _,Ll _⟩ ?_;rintro k g H ⟨hs,hk⟩
 replace h:=h.ext hs
 replace h':=h'.ext hs;refine Qc<|x (QB O O)<|xe<|Qf<|QG O (λI=>?_) (λI=>?_)
 ·refine Qz<|Qc<|Qe ?_;exact Qn ⟨[.bool true],Z,O,hs⟩
 have E:k<l.length:=by omega
 refine Qi<|Qf<|Qh<|Qc<|Qb<|Qe<|Qf<|QW (Step [] H) [(0,true),(1,true),(2,true),(3,true),(4,true),(5,true),(6,true),(7,true),(8,true)] mixed (by rfl) (by kernel_rfl) (Step.drew _ _) ?_;refine p (λ_=>Qp)<|p (λ_=>Qp)<|Lg.pig (g:=Zy) (i:=k) O Qbu h O O E λha J=>pq (λ_ hc=>QI (J.ext hc) O O) <|
  p (λ_=>Qp)<|p (λ_=>Qp)<|Lg.pig (g:=Zy) (i:=k) O Qbu h' O O E λhb S=>pq (λ_ hc=>QI (S.ext hc) O O)<|p (λ_=>QfR (p:=((l[k]'E).st,(l[k]'E).kd,(l[k]'E).ix,(l[k]'E).ev)) O O)<|pe ?_
 have V:=hs.trans (Step.drew [] H);refine ZM rfl ?_;refine Qi<|Qy<|QO O O<|Qb<|xe ?_;exact ⟨k+1,by omega,Z,V,by omega⟩
def Vp:ByteArray:=⟨#[110,101,118,101,114]⟩
def J7:ByteArray:=⟨#[98,111,116,104]⟩
def y0:ByteArray:=⟨#[109,111,115,116]⟩
def jl:Yp:=⟨Vp,⟨[1],1,[0],[]⟩⟩
def Qhk (i j:Int):jF:=⟨J7,[(i,1),(j,1)]⟩
def QlW:Xr:=⟨y0,[(0,1),(1,1)],1⟩
def k1C:Q8:={ mzC 1 with rq:=[jl] }
def k2C:Q8:={ mzC 2 with ex:=[Qhk 0 1] }
def k3C:Q8:={ mzC 2 with cs:=[QlW] }
theorem QmU:Yz k1C=0:=by kernel_rfl
theorem QmT:(spc k1C).fb=[⟨1,3,0,1⟩]:=by kernel_rfl
theorem Qkt:(spc k1C).a.st=2:=by kernel_rfl
theorem Qlu:QdF k1C=true:=by kernel_rfl
theorem Qlv:cmB k1C=[2]:=by kernel_rfl
theorem QnN:Yz k2C=0:=by kernel_rfl
theorem QmR:(spc k2C).fb=[⟨3,1,0,-1⟩]:=by kernel_rfl
theorem QmQ:(spc k2C).a.st=4:=by kernel_rfl
theorem QnM:Yz k3C=0:=by kernel_rfl
theorem QmP:(spc k3C).fb=[⟨3,2,0,-1⟩]:=by kernel_rfl
theorem QdW {w:World}{v:Value}(E:v.cells=[v].toArray):QK prog 281 [v] w λr w'=>Step [] w w'∧∃b,r=.func (.func 307) #[] #[.pointer (some ⟨b,0,none⟩)]∧w.heap.size≤b∧QZ w'.heap b 37 [v]:=by
 refine QK.of_W func281 O ntmps281 results281 (by simp) ?_;refine Qc<|xl O<|QS (us:=[v]) E λG S H I J=>Qe<|Qc<|x Zq<|Qe ?_;exact Qn ⟨[_],Z,H,G,O,I,J⟩
theorem jO {L:LN}{w:World}{S m:Nat}{v:Value}{E:LI}(hc:QZ w.heap S 37 [v]) (hE:QL L w.heap v E) :
  SeqStopsK (fen none) m prog 307 [.pointer (some ⟨S,0,none⟩)].toArray (λx:Int=>#[.int .i64 x]) (Lw w.heap.size L) (λG=>G=E) (λ_=>True) (E.length+1) w:=by
 intro l J Jx W hf hJ hg hY h0;have Y:Step [] w W:=Step.of_below hf;have ho:=hE.le;have ab:∀{G:LI} {W1 W2:World},J G W1→Step [] W1 W2→J G W2:=λ{G W1 W2} hj V=>hJ G W1 W2 none hj ⟨V.os,V.tape,V.output,V.size,λk hk _=>V.block k hk (by simp)⟩ (λr e=>by cases e)
 have key:QK prog 307 [.func (.yield l) #[] #[],.pointer (some ⟨S,0,none⟩)] W (λ_ W'=>(∃G,G=E∧J G W')∨(∃pre,True∧Jx pre W')):=by
  refine QK.of_G m func307 O ntmps307 results307 (by simp) ?_;have hh:=hc.ext Y;refine QY<|QJ (by rfl) (by rfl) ?_;refine x (Qd hh O O)<|x (Qs (hE.ext Y) O)<|Qb<|xe<|ZI<|Ui (α:=Nat) [(4,4),(7,15)] (λk=>[(7,.int .i64 k)]) (λk ds W'=>ds=[]∧k≤E.length∧Step L w W'∧J (E.take k) W') (λk=>E.length - k) (by rfl) 0 Z
   ⟨O,Ll _,Y.any,h0⟩ ?_
  rintro k g ds w1 ⟨rfl,hk,hb,ha⟩;refine QY<|QJ (by rfl) (by rfl) ?_;refine x (QB O O)<|xe<|QY<|yu O (λh8=>?_) (λh8=>?_)
  ·refine Kp ?_;have hl:E.length≤k:=by have h9:¬(k:Int)<(E.length:Int):=h8;omega
   rw[Lo hl] at ha;exact ⟨λ_ h=>(by cases h),MH,[],λW' H=>⟨U,.inl ⟨E,rfl,ab ha H⟩⟩⟩
  refine Yg ?_;have I:k<E.length:=by have h9:(k:Int)<(E.length:Int):=h8;omega
  have hm:E.take (k+1)=E.take k++[E[k]'I]:=Li I;have hp:(E.take k).length=k:=by rw[Lx];omega
  refine QY<|ZI<|QY<|QJ (by rfl) (by rfl) ?_;refine xii (i:=k) (hE.st hb) O O I λa9 h9=>x (Qw h9 O)<|Qe<|QY<|KC (by rfl) ?_;refine XW.pre2 ?_;refine Qb<|Qb<|xe<|xy (l:=l) O (hY (E.take k) (E[k]'I) w1 ha (by omega)) λen W3 hn=>Or.elim hn (λh1=>⟨.bool true,h1.1,?_⟩) (λh1=>⟨.bool false,h1.1,?_⟩)
  ·refine XW.of_XL<|x (Zm O)<|xe<|KD O<|Yg ?_;refine QJ (by rfl) (by rfl) ?_;refine QO O O<|Qb<|xe ?_;exact ⟨k+1,by omega,Z,O,I,hb.lw h1.2.2,by rw[hm];exact h1.2.1⟩
  refine XW.of_XL<|x (Zm O)<|xe<|jE O ?_;refine Ko ⟨λ_ h=>(by cases h),MH,[],λW' H=>⟨U,.inr ⟨E.take k++[E[k]'I],U,?_⟩⟩⟩;exact hg _ W3 W' none h1.2 ⟨H.os,H.tape,H.output,H.size,λk hk _=>H.block k hk (by simp)⟩ (λr e=>by cases e)
 refine (callsIn_wide (n:=m)).2 ?_;have ea:(#[.func (.yield l) #[] #[]]++[.pointer (some ⟨S,0,none⟩)].toArray:Array Value)=[.func (.yield l) #[] #[],.pointer (some ⟨S,0,none⟩)].toArray:=by simp
 rw[ea];unfold QK at key;refine Calls.mono key λe w' he=>?_;cases e with
 | returned v=>exact ⟨⟨v,O⟩,he⟩
 | panicked c=>exact he.elim
 | outgrown=>exact he.elim
set_option maxHeartbeats 1000000 in
theorem QeL {w:World}{Y:Nat}{v:Value}{es:LI}(hk:QZ w.heap Y 37 [v]) (hE:QL [] w.heap v es) (hl:es.length≤1000) :
  QK prog 319 [Zg,.func (.func 307) #[] #[.pointer (some ⟨Y,0,none⟩)]] w λr w'=>Step [] w w'∧Qu 3 w.heap.size w' r es:=by
 refine QK.of_G 20 func319 O ntmps319 results319 (by simp) ?_;refine QY<|QJ (by rfl) (by rfl) ?_;refine xl rfl<|QS (us:=[Zg]) O λJ w1 V he hf=>Qe ?_;have hr:=V.size;have ht:=hf.lt;refine QY<|QY<|QJ (by rfl) (by rfl) ?_;refine Qb<|xe<|ZI<|Qkd (α:=Int) [J] (by omega) (capt:=[.pointer (some ⟨Y,0,none⟩)]) O (enc:=λx=>.int .i64 x) (by decide)
  (jO (hk.ext V) ((hE.up (L':=[J]) (λb hb=>.inr (by rw[La.1 hb];exact he))).ext V))
  (λpre W=>∃vo,Step [J] w1 W∧QZ W.heap J 37 [vo]∧Qu 3 w1.heap.size W vo pre)
  (λpre=>Z1.ex λvo=>(Z1.step (Lt _)).and (Z1.blk.and Z1.row))
  ⟨Zg,Step.refl _ _,hf,QP _ _ _ _⟩
  (λf x f' W=>f'=upd (upd f 7 (.int .i64 x)) 5 (.int .i64 x)) (λx f'=>Z1.pure _) ?_ ?_ ?_
 ·rintro l pre e W ⟨vo,I,H,E⟩;refine QJ (by rfl) (by rfl) ?_;refine Qe ?_;exact ⟨O,JO.refl _ _ _,⟨vo,I,H,E⟩,O⟩
 ·rintro l pre e f' W ⟨vo,I,H,E⟩ rfl hN;have hg:J∉ob vo:=QM E (by omega);have hge:=Qm E;have hn:=I.size;refine ZI<|QJ (by rfl) (by rfl) ?_;refine x (Qd H O O)<|Qb<|xl O<|QC (us:=[[.int .i64 e]]) O O (by decide) (by simp) ⟨rfl,rfl,U⟩ λhu w2 G hv ho=>?_
  refine xl O<|Q5 (m:=1) (news:=[.int .i64 e]) (Qq E G) O O O (ho.at (L:=[]) (by simp)) (by simp[Value.oneCell']) (by omega) (by have:=G.size;omega) λv3 w3 ha S hw=>?_;refine xl O<|QF (u:=v3) ((H.ext G).step S hg) O O (by simp) (QH ha) λw4 hc hp=>xe ?_;have hy:=G.size;have hz:=Q0 (Qq E G);have h0:=QR E
  refine ⟨((JO.ext G hn).trans (JO.step S (by omega) (λb hb=>⟨.inr (hge b hb).1,Go.Lg.Q0 (Qq E G) b hb⟩))).trans (JO.blk hc (by have:=S.size;omega) ((H.ext G).step S hg) (.inl Lm)),v3,((I.trans G.any).then S (λb hb=>.inr (hge b hb).1)).trans' hc,hp,?_⟩;have h9:=Qj ha hc (λb hb=>by have:=(Qm ha b hb).1;simp only[List.mem_singleton];omega)
  exact Qu.snoc h9
 rintro D xs W hD rfl ⟨vo,I,H,E⟩ hh;refine QY<|QJ (by rfl) (by rfl) ?_;refine x (Qd H O O)<|Qe<|Ko ⟨λD' hq=>by rw[La.1 hq];exact hh,MX _ _,[vo],λW' hj=>⟨Z,(V.then1 I he).then hj (λb hb=>.inr (by rw[La.1 hb];omega)),?_⟩⟩;refine Zr (Qj E hj (λb hb hm=>?_)) (by omega);rw[La.1 hm] at hb
 obtain ⟨o,h1,h2⟩:=Go.Lg.Q0 E _ hb;rw[hh] at h1;cases h1
 cases h2
theorem Qb9 {w:World}{G:Nat}{v:Value}{E:LI}(H:QZ w.heap G 37 [v]) (hE:QL [] w.heap v E) (hl:E.length≤1000) :
  QK prog 306 [.func (.func 307) #[] #[.pointer (some ⟨G,0,none⟩)]] w λr w'=>Step [] w w'∧Qu 3 w.heap.size w' r E:=by
 refine QK.of_W func306 O ntmps306 results306 (by simp) ?_;refine Qc<|Qe<|Qc<|Qb<|xl O<|xf<|(QeL H hE hl).mono ?_;rintro I V ⟨J,S⟩;refine Qe ?_;exact Qn ⟨[I],Z,J,S⟩
theorem Qd0 {w:World}{G:Nat}{v:Value}{E:LI}(I:QZ w.heap G 37 [v]) (hE:QL [] w.heap v E) (hl:E.length≤1000) :
  QK prog 280 [.func (.func 307) #[] #[.pointer (some ⟨G,0,none⟩)]] w λr w'=>Step [] w w'∧Qu 3 w.heap.size w' r (E.mergeSort λx y=>decide (x≤y)):=by
 refine QK.of_W func280 O ntmps280 results280 (by simp) ?_;refine Qc<|Qe<|Qc<|Qb<|xl O<|xf<|(Qb9 I hE hl).mono ?_;rintro J w1 ⟨S,H⟩;refine Qe<|Qc<|Qb<|xl O<|xf<|(zM H (by omega)).mono ?_;rintro r2 w2 ⟨V,Y⟩;refine xe<|Qc<|Qb<|Qe ?_;exact Qn ⟨[J],Z,S.then V (λb hb=>.inr (Qm H b hb).1),Y⟩
theorem QgX:∀{l:LI}{k:Nat}(h:k<l.length) {n:Int},l[k]'h=n→n∉l.take k→l.idxOf n=k
 | [],_,h,_,_,_=>by simp at h
 | a::l,0,_,n,e,_=>by
  have e2:a=n:=e;rw[e2,List.idxOf_cons_self]
 | a::l,k+1,h,n,e,E=>by
  have G:a≠n:=λe2=>E (by rw[MA,e2];exact Lm);rw[List.idxOf_cons,show (a == n)=false by simpa using G];show List.idxOf n l+1=k+1;have:=QgX (l:=l) (k:=k) (by simpa using h) (by simpa using e) (λhm=>E (by rw[List.take_succ_cons];exact Lk _ hm));omega
theorem QlG {L:LN}{w:World}{v:Value}{l:LI}(h:QL L w.heap v l) {n:Int}(H:n∈l) :
  QK prog 132 [v,.int .i64 n] w λr w'=>w'=w∧r=.int .i64 (l.idxOf n:Nat):=by
 have J:=h.le;refine QK.of_W func132 O ntmps132 results132 (by simp) ?_;refine Qc<|Qe<|Qf<|Qc<|Qb<|x (Qs h O)<|Qb<|xe<|Qh<|QA (α:=Nat) [(4,5),(8,18)] (λk=>[(8,.int .i64 k)]) (λk w'=>w'=w∧k≤l.length∧n∉l.take k) (λk=>l.length - k) (by rfl) 0 Z ⟨O,Ll _,by simp⟩ ?_;rintro k g S ⟨rfl,hk,hm⟩;refine Qc<|x (QB O O)<|xe<|Qf<|QG O (λh9=>?_) (λh9=>?_)
 ·exfalso;rw[Lo (by omega)] at hm;exact hm H
 have E:k<l.length:=by omega
 refine Qi<|Qf<|Qh<|Qc<|Qb<|Qe<|Qc<|Qb<|Qb<|Qb<|xii h O O E λV I=>x (Qw I O)<|x (Q4 O O)<|xe<|Q7 rfl (λG=>?_) (λG=>?_)
 ·refine Qc<|Qb<|Qe ?_;exact Qn ⟨[.int .i64 k],Z,O,congrArg (λm:Nat=>Value.int .i64 m) (QgX E (Eq.symm G) hm).symm⟩
 refine Qi<|Qy<|QO O O<|Qb<|xe<|⟨k+1,by omega,Z,O,by omega,?_⟩;rw[Li E,Lj,La];exact λh=>h.elim hm G
def rlE (a:QN) (to:LI):List Ed:=a.ed.map λe=>(e.1,cget to (a.al.idxOf e.2.1),e.2.2)
set_option maxHeartbeats 8000000 in
theorem Qcl {w:World}{va vm ve vt:Value}{a:QN}{to sa:LI}{se:List Ed}(h:Zv [] w.heap va vm ve a) (g3:JI a=0) (ho:Q2 a) (ht:QL [] w.heap vt to) (hD:to.length=a.al.length) (hN:∀e∈to,0≤e∧e<32) (g4:to.Nodup)
  (hO:to.mergeSort (λx y=>decide (x≤y))=sa) (g5:∀l',l'.Perm (rlE a to)→l'.Pairwise QaF→l'=se) (g6:Q2 ⟨sa,a.st,a.mr,se⟩) :
  QK prog 250 [.agg #[va,.int .i64 a.st,vm,ve],vt] w λr w'=>Step [] w w'∧∃v,r=.tuple #[v,.int .i64 0]∧Y0 w.heap.size w'.heap v (Yi ⟨sa,a.st,a.mr,se⟩):=by
 have mo:=ho.st0;have mq:=ho.st1;have ms:=ho.al_le;refine QK.of_W func250 O ntmps250 results250 (by simp) ?_;refine Qc<|xl O<|QS (us:=[va,.int .i64 a.st,vm,ve]) O λb2 w1 hP mt g7=>xl O<|Qt (us:=JV) O λb4 w2 hE mu hQ=>Qe ?_;have hR:=hP.trans hE;have mv:=hP.size;have mw:=hE.size;have my:=hQ.lt;have hS:=g7.ext hE
 refine Qf<|Qc<|x (Qr hS O O)<|xl O<|xf<|(XJ (h.ext hR)).mono ?_;rintro r3 w3 ⟨hT,hz⟩;rw[g3] at hT;subst hT;have hG:=hR.trans hz;have mz:=hz.size;have hg:=hS.ext hz;have hU:=hQ.ext hz;refine Qe<|Qc<|Qb<|x (Q9 O O)<|xe<|ZM rfl ?_;refine Qi ?_;have h0:=h.ext hG;have Y:=ht.ext hG
 refine Qf<|Qc<|Qb<|x (Qs Y O)<|x (Qa O)<|x (Qd hg O O)<|x (Qs h0.al O)<|x (Q9 O O)<|xe<|Q7 rfl (λhV=>absurd (congrArg (λm:Nat=>(m:Int)) hD) hV) (λhV=>?_);refine Qi<|QT (α:=Unit) [(5,5),(7,8),(25,47)] (λ_=>[]) (λ_ w'=>w'=w3) (by rfl) ?_ ?_
 ·refine Qc<|Qb<|x (Qs Y O)<|Qb<|xe<|Qh<|QA (α:=Nat) [(5,5),(7,8),(27,47)] (λk=>[(27,.int .i64 k)]) (λk w'=>w'=w3∧k≤to.length) (λk=>to.length - k) (by rfl) 0 Z ⟨O,Ll _⟩ ?_;rintro k g w' ⟨rfl,hk⟩;refine Qc<|x (QB O O)<|xe<|Qf<|QG O (λhW=>?_) (λhW=>?_)
  ·refine Qz ?_;exact ⟨(),U,O⟩
  have H:k<to.length:=by have m0:(k:Int)<(to.length:Int):=hW;omega
  have g8:=hN _ (Lc H);have hX:(to[k]'H)∉to.take k:=λhm=>by
   obtain ⟨j,hj,hY⟩:=LD hm;rw[M6] at hY;have g9:j<k:=by rw[Lx] at hj;omega
   have:=(Mu.1 g4) j k (by omega) H g9;exact this hY
  refine Zc (to[k]'H) λe he=>?_;rw[he] at g8 hX;refine Qi<|Qf<|Qh<|Qc<|Qb<|xii Y O O H λm1 hZ=>?_;rw[he] at hZ;refine x (Qw hZ O)<|x Qg<|Qe<|Qh<|Qc<|Qb<|xb (QB O O) (λga=>absurd (show e<0 from ga) (by omega)) (λga=>?_);refine Qb<|Qb<|x (ZV O O)<|x (Ql O)<|Qe<|Q7 O (λgb=>absurd (show e≥32 from gb) (by omega)) (λgb=>?_);refine Qc<|Qb<|Qb<|QkF Y O O (by omega) λka kb=>?_
  have kc:QL [] w'.heap ka (to.take k):=by
   unfold QL;have ke:(to.take k).length=k:=by rw[Lx];omega
   rw[ke,List.map_take];simpa using kb
  refine Qb<|xl O<|xf<|(ZP kc e).mono ?_;rintro m2 w' ⟨rfl,rfl⟩;refine Qe<|Q7 O (λgc=>absurd gc hX) (λgc=>?_);refine Qi<|Qy<|QO O O<|Qb<|xe ?_;exact ⟨k+1,by omega,Z,O,H⟩
 rintro ⟨⟩ g w' rfl;have kf:Step [] w' { w' with drawn:=w'.drawn+1 }:=Step.drew _ _
 refine QT (α:=Nat×Value) [(9,9),(48,55)] (λz=>[(9,.pointer (some ⟨z.1,0,none⟩))]) (λz G=>Step [] w' G∧w'.heap.size≤z.1∧QZ G.heap z.1 58 [z.2,.int .i64 a.st,vm,nS]∧z.2.oneCell'=true∧∀L:LN,(∀b∈L,b<w'.heap.size∨b=z.1)→QL L G.heap z.2 sa) (by rfl) ?_ ?_
 ·refine yp (α:=Value) (Step [] w') [(0,true),(3,true),(4,true),(5,true),(6,true)] [(1,false),(2,false),(7,true)] 8 9 [(9,false)] [] [(48,55)] [(49,50),(55,55)] (λz=>[(55,.agg [z,.int .i64 a.st,vm,nS].toArray)])
   (λz own G=>(∀b∈own,w'.heap.size≤b)∧z.oneCell'=true∧∀L:LN,(∀b∈L,b∉own)→QL L G.heap z sa)
   (λv G=>∃b,v=.pointer (some ⟨b,0,none⟩)∧w'.heap.size≤b∧QZ G.heap b 58 JV) mixed (by rfl) (by kernel_rfl) (by rfl) O kf (by simp) ?_ ?_ ?_ ?_
  ·rintro v own wa wb ⟨b,rfl,hb,hB⟩ hs hn;exact ⟨b,O,hb,hB.step hs (hn b (by simp[ow]))⟩
  ·rintro z own wa wb ⟨h1,h2,h3⟩ hs;exact ⟨h1,h2,λL hL=>(h3 L hL).ext hs⟩
  ·rintro z g own wz v ⟨i1,i2,i3⟩ kg ⟨E,rfl,ha,hh⟩ kh;have ge:=(kh E (by simp[ow])).1;refine pkl (hl:=by kernel_rfl)<|Qo (us:=[z,.int .i64 a.st,vm,nS]) hh O O O O ⟨i2,O,h0.mr.one,O,U⟩ λG V ki=>pe ?_;refine ⟨(E,z),Z,kg.then1 V ha,ha,ki,i2,λL hL=>?_⟩;have h1:=i3 (E::L) (λb hb=>by
    rcases Lb.1 hb with rfl | hb
    ·exact ge
    rcases hL b hb with h2 | h2
    ·exact λh3=>by have:=i1 b h3;omega
    subst h2;exact ge)
   exact (h1.st (V.mono (by simp))).up (λb hb=>.inl (by simp[hb]))
  refine Go.Lg.p (λ_=>Qp)<|Go.Lg.p (λ_=>Qa O)<|pq (λ_ hc=>Qd (hg.ext hc) O O)<|Go.Lg.p (λ_=>Qa O)<|pq (λ_ hc=>Qd (hg.ext hc) O O) <|
   pe ⟨λg wf gg=>Qt (us:=JV) O λb m3 gh gi gj=>⟨gh,gg.trans gh,⟨b,O,LS gg.size gi,gj⟩,λx hx=>?_⟩,?_⟩
  ·have kj:x=b:=by
    have kk:x∈[b]:=hx;simpa using kk
   subst kj;exact ⟨gi,gj.lt⟩
  refine f2k λx1 p1 c1=>xf<|(QdW Y.cells).mono ?_;rintro m4 y1 ⟨gk,m5,rfl,m6,hH⟩;refine ⟨c1.trans gk,rgB x1.heap.size y1.heap.size,gk.any,λb hb=>.inr (YC.1 hb),?_⟩;refine f2k λx2 p2 c2=>xf<|(Qd0 (hH.ext p2) (Y.ext c2) (by omega)).mono ?_;rintro kn y2 ⟨gl,hq⟩;rw[hO] at hq
  refine ⟨c2.trans gl,rgB x1.heap.size y1.heap.size++rgB x2.heap.size y2.heap.size,gl.any,λb hb=>(Lj.1 hb).imp id λhb=>YC.1 hb,?_⟩;refine f2p (λ_=>QD ⟨Q0 hq,O,h0.mr.cells,U⟩)<|f2e ?_;refine ⟨kn,Z,λb hb=>?_,QH hq,λL hL=>?_⟩
  ·have e1:=c1.size;have e2:=c2.size;rcases Lj.1 hb with hb | hb
   ·have:=YC.1 hb;omega
   have:=YC.1 hb;omega
  exact QU hq (by rw[←hO,(Nl to _).length_eq];omega) (λb hb hm=>hL b hm (Lj.2 (.inr (YC.2 (Qm hq b hb)))))
 rintro ⟨E,vs⟩ g G ⟨V,ha,hh,hvo,gm⟩;simp only[] at ha hh hvo gm;have m7:=V.size;have gn:=hh.lt;have go:=hg.ext V;have m8:=hU.ext V;have gp:∀b∈[E],b∈([]:LN)∨w'.heap.size≤b:=λb hb=>.inr (by rw[La.1 hb];exact ha);have hr:Zv [E] G.heap va vm ve a:=(h0.up gp).ext V;have ko:QL [E] G.heap vt to:=(Y.up gp).ext V
 have kp:=gm [E] (λb hb=>.inr (La.1 hb));have m9:=hr.ed.le;have kq:b2∉[E]:=by have:=hg.lt;simp only[List.mem_singleton];omega
 have pa:b4∉[E]:=by simp only[List.mem_singleton];omega
 have kr:(rlE a to).length=a.ed.length:=by unfold rlE;rw[Le]
 have kt:∀e∈rlE a to,(0≤e.1∧e.1<1099511627776)∧0≤e.2.1∧e.2.1<1099511627776:=λe he=>by
  unfold rlE at he;obtain ⟨d,hd,rfl⟩:=Lp.1 he;have h1:=ho.ed d hd;have h2:a.al.idxOf d.2.1<to.length:=by rw[hD];exact LZ h1.2.2.1
  have h3:=hN _ (Lc h2);have h4:=Za h2;simp only[];omega
 refine QT (α:=Value) [(11,11),(56,78)] (λ_=>[]) (λz I=>Step [E] G I∧QZ I.heap E 58 [vs,.int .i64 a.st,vm,z]∧I.ownsRow G.heap.size 144 3 z (rlE a to).length ((rlE a to).flatMap Qx)) (by rfl) ?_ ?_
 ·refine Qc<|x (Qa O)<|x (Qd go O O)<|x (Qs hr.ed O)<|Qb<|xe<|Qh<|QA (α:=Nat×Value) [(11,11),(59,78)] (λz=>[(59,.int .i64 z.1)]) (λz I=>z.1≤a.ed.length∧Step [E] G I∧QZ I.heap E 58 [vs,.int .i64 a.st,vm,z.2]∧I.ownsRow G.heap.size 144 3 z.2 z.1 (((rlE a to).take z.1).flatMap Qx)) (λz=>a.ed.length - z.1) (by rfl) (0,Zg) Z ⟨Ll _,Step.refl _ _,hh,QP _ _ _ _⟩ ?_
  rintro ⟨k,vr⟩ g I ⟨hk,J,hf,S⟩;simp only[] at hk hf S;refine Qc<|x (QB O O)<|xe<|Qf<|QG O (λhI=>?_) (λhI=>?_)
  ·refine Qz ?_;have ku:k=a.ed.length:=by have h5:¬(k:Int)<(a.ed.length:Int):=hI;omega
   rw[Lo (by omega),ku,←kr] at S;exact ⟨vr,U,J,hf,S⟩
  have H:k<a.ed.length:=by have h5:(k:Int)<(a.ed.length:Int):=hI;omega
  have hJ:=ho.ed _ (Lc H);have kv:(rlE a to)[k]'(by omega)=((a.ed[k]'H).1,cget to (a.al.idxOf (a.ed[k]'H).2.1),(a.ed[k]'H).2.2):=by unfold rlE;rw[LL]
  have hu:(rlE a to).take (k+1)=(rlE a to).take k++[(rlE a to)[k]'(by omega)]:=Li (by omega);rw[kv] at hu;refine Zc (a.ed[k]'H) λe he=>?_;rw[he] at hJ hu;have hix:a.al.idxOf e.2.1<to.length:=by rw[hD];exact LZ hJ.2.2.1
  rw[←Za hix] at hu;refine Zc (to[a.al.idxOf e.2.1]'hix) λy hy=>?_;rw[hy] at hu;refine Qi<|Qf<|Qh<|Qc<|xie (i:=k) (hr.ed.st J) O O H λpc h5=>?_;rw[he] at h5;refine x (QI h5 O O)<|xl O<|Qt (us:=[.int .i64 0,.int .i64 0,.int .i64 0]) O λkw w7 hw gq kx=>xl O<|Qo (us:=Qx e) kx O O O O ⟨O,O,O,U⟩ λw8 h6 gr=>xe ?_;have h7:Step [] I w8:=hw.then1 h6 gq;have ky:=J.size
  refine Qc<|Qb<|x (Qa O)<|x (Qd ((go.step J kq).ext h7) O O)<|x (Qa O)<|x (Qd gr O O)<|xl O<|xf<|(QlG ((hr.al.st J).ext h7) hJ.2.2.1).mono ?_;rintro pd w8 ⟨rfl,rfl⟩;refine xii ((ko.st J).ext h7) O O hix λpf gs=>?_;rw[hy] at gs;refine x (Qw gs O)<|x (Qa O)<|xl O<|QF (u:=.int .i64 y) gr O O (by simp[Qx]) rfl λw9 h8 kz=>xe ?_
  have k0:QZ w9.heap kw 144 (Qx (e.1,y,e.2.2)):=kz;have hA:Step [] I w9:=h7.then1 h8 gq;have gt:=hf.ext hA;have k4:=Qq S hA;have n9v:E∉ob vr:=QM S gn;have hge:=Qm S;have pg:=hA.size;refine Qy<|x (Qa O)<|x (Qd gt O O)<|x (Qr k0 O O)<|xl O<|QC (us:=[Qx (e.1,y,e.2.2)]) O O (by decide) (by exact (by decide:1*3≤1000000)) ⟨O,O,U⟩ λph pj hC pm k5=>?_
  refine xl O<|Q5 (m:=1) (news:=Qx (e.1,y,e.2.2)) (L:=[]) (Qq k4 hC) O O O (k5.at (by simp)) (by simp[Qx,Value.oneCell']) (by omega) (by have:=hC.size;omega) λgu pn hK gv po=>?_;refine x (Qa O)<|xl O<|QF (u:=gu) ((gt.ext hC).step gv n9v) O O (by simp) (QH hK) λpp gw k6=>xe ?_;refine Qy<|QO O O<|Qb<|xe ?_
  refine ⟨(k+1,gu),by simp only[];omega,Z,H,(((J.trans hA.any).trans hC.any).then gv (λb hb=>.inr (hge b hb).1)).trans' gw,k6,?_⟩;simp only[];rw[hu,Ly];have h9:=Qj hK gw (λb hb=>by have:=(Qm hK b hb).1;simp only[List.mem_singleton];omega);simpa using h9
 rintro vr g I ⟨J,hf,S⟩;have n9r:E∉ob vr:=QM S gn;have ky:=J.size;have gx:=Qm S;refine Qc<|x (Qa O)<|x (Qd hf O O)<|xl O<|xf<|(yF S (by omega) kt).mono ?_;rintro r7 w7 ⟨hw,l',hp,k7,k8⟩;have k9:=g5 l' hp k7;subst k9;refine xe ?_;have ma:=hf.step hw n9r;have mc:∀b∈E::ob vr,b∈[E]∨G.heap.size≤b:=λb hb=>by
  rcases Lb.1 hb with rfl | hb
  ·exact .inl Lm
  exact .inr (gx b hb).1
 have gy:∀{v:Value} {l:LI},QL [E] G.heap v l→QL [] w7.heap v l:=λhv=>(((hv.up mc).st (J.mono (by simp))).st (hw.mono (λb hb=>Lk _ hb))).up (λb hb=>by cases hb);have mf:zj [] w7.heap vr l':=QU k8 (by have:=hp.length_eq;omega) (by simp);have mg:Zv [] w7.heap vs vm vr ⟨sa,a.st,a.mr,l'⟩:=⟨gy kp,gy hr.mr,mf⟩
 have hM:Step [] w' w7:=(V.then1 J ha).then hw (λb hb=>.inr (by have:=(gx b hb).1;omega));have pt:=hM.size;have mh:=hU.ext hM;refine Qc<|x (Qr ma O O)<|xl O<|xf<|(JK mg g6).mono ?_;rintro v w8 ⟨h6,hF⟩;obtain ⟨us,gz,g0,mj⟩:=Y5 hF;refine xl rfl<|Qo (us:=us) (mh.ext h6) O gz g0 O mj λw9 h8 hH=>Qe ?_;have g2:=hG.trans hM
 refine Qn ⟨[.agg us.toArray,.int .i64 0],⟨⟨_,O,Qv g0 (hH.at (L:=[]) (by simp)).cells⟩,rfl,U⟩,(g2.trans h6).then1 h8 (by omega),v,by rw[gz];rfl,?_⟩;exact (Xi hF (by omega) h8).mono (by have:=g2.size;omega)
theorem Qk4 {motive:LI→Prop}(nil:motive []) (append_singleton:∀u v,motive u→motive (u++[v])) (u:LI):motive u:=by
 have key:∀r:LI,motive r.reverse:=by
  intro r;induction r with
  | nil=>exact nil
  | cons v r ih=>rw[List.reverse_cons];exact append_singleton _ _ ih
 have:=key u.reverse;rw[List.reverse_reverse] at this;exact this
def enc (u:LI):Int:=u.foldl (λn e=>n*33+(e+1)) 0
theorem Kh (u:LI) (v:Int):enc (u++[v])=enc u*33+(v+1):=by unfold enc;rw[Mx];rfl
def QeO (u:LI):Prop:=∀e∈u,0≤e∧e<32
theorem QeO.snoc {u:LI}{v:Int}(h:QeO (u++[v])):QeO u∧0≤v∧v<32:=⟨λe he=>h e (Lz _ he),h v (by simp)⟩
theorem QlP {u:LI}(h:QeO u):0≤enc u:=by
 induction u using Qk4 with
 | nil=>exact M5 _
 | append_singleton u v ih=>rw[Kh];have:=ih h.snoc.1;have:=h.snoc.2;omega
def rn (a:QN) (x:Int) (u:LI):Int:=u.foldl (λs v=>nxt a.ed s v) x
theorem QiR (a:QN) (x:Int) (u:LI) (v:Int):rn a x (u++[v])=nxt a.ed (rn a x u) v:=by unfold rn;rw[Mx];rfl
structure Fw where
 u:LI
 s:Int
def Un:Fw:=⟨[],0⟩
def wdN (e:Fw) (d:Ed):Fw:=⟨e.u++[d.2.1],d.2.2⟩
def wdR (a:QN) (e:Fw):List Fw:=(Zz a.ed e.s).map (wdN e)
def wdL (a:QN) (most:Nat):Nat→Nat→List Fw→Option (List Fw)
 | 0,_,L=>some L
 | f+1,i,L=>if i<L.length then (if (L.getD i Un).u.length=most then some L else if 1024<(L++wdR a (L.getD i Un)).length then none else wdL a most f (i+1) (L++wdR a (L.getD i Un))) else some L
def wds (a:QN) (most:Nat):Option (List Fw):=wdL a most 1025 0 [Un]
structure WdI (a:QN) (most i:Nat) (L:List Fw):Prop where
 ne:0<L.length
 le:i≤L.length
 mx:L.length≤1024
 rx:∀e∈L,e.s=rn a 0 e.u∧0≤e.s∧e.s<a.st∧(∀v∈e.u,v∈a.al)∧e.u.length≤most
 so:L.Pairwise λp q=>enc p.u<enc q.u
 hd:(L.getD 0 Un).u=[]
 pr:∀e∈L,e.u=[]∨∃j v,j<i∧e.u=(L.getD j Un).u++[v]
 ch:∀j v,j<i→0≤nxt a.ed (L.getD j Un).s v→∃e∈L,e.u=(L.getD j Un).u++[v]
theorem Qg8 {L:List Fw}{i:Nat}(h:i<L.length):L.getD i Un∈L:=by simp[List.getD,h]
theorem Qg9 {L r:List Fw}{i:Nat}(h:i<L.length):(L++r).getD i Un=L.getD i Un:=by simp[List.getD,List.getElem?_append_left h]
theorem WdI.step {a:QN}(G:Q2 a) {most i:Nat}{L:List Fw}(h:WdI a most i L) (hi:i<L.length) (hl:(L.getD i Un).u.length≠most) (hm:¬1024<(L++wdR a (L.getD i Un)).length):WdI a most (i+1) (L++wdR a (L.getD i Un)):=by
 have I:QeO a.al:=G.al;have ha:∀e∈L,QeO e.u:=λe he u hu=>I u ((h.rx e he).2.2.2.1 u hu);have Y:=Qg8 hi;obtain ⟨r1,r2,r3,r4,r5⟩:=h.rx _ Y;generalize J:L.getD i Un=ei at *;have S:∀e∈wdR a ei,∃d∈Zz a.ed ei.s,e=wdN ei d∧d.2.1∈a.al∧0≤d.2.2∧d.2.2<a.st∧nxt a.ed ei.s d.2.1=d.2.2:=λe he=>by
  unfold wdR at he;obtain ⟨d,hd,rfl⟩:=Lp.1 he;obtain ⟨hb,hr⟩:=Zt hd;have V:=G.ed d hb;refine ⟨d,hd,O,V.2.2.1,V.2.2.2.1,V.2.2.2.2,?_⟩;rw[Qc3];obtain ⟨k,hk,rfl⟩:=LD hd;refine QbL _ ei.s _ k hk (λe he=>(Zt he).2) O (λm hc e=>?_);have hp:(Zz a.ed ei.s).Pairwise λx y:Ed=>x.1<y.1∨(x.1=y.1∧x.2.1<y.2.1):=List.Pairwise.sublist MB G.edi
  have:=Mu.1 hp m k (by omega) hk hc;have e1:=(Zt (Lc (l:=Zz a.ed ei.s) (show m<(Zz a.ed ei.s).length by omega))).2;have e2:=(Zt (Lc hk)).2;omega
 have ht:=QlP (ha _ Y);have hf:∀e∈L,∀v,v∈a.al→enc e.u<enc (ei.u++[v]):=λe he v hv=>by
  have hw:=I v hv;rw[Kh];rcases h.pr e he with h1 | ⟨j,u,E,h1⟩
  ·rw[h1];show (0:Int)<_;omega
  rw[h1,Kh];have hz:enc (L.getD j Un).u<enc ei.u:=by
   have:=Mu.1 h.so j i (by omega) hi E;rw[←J];simpa[List.getD,show j<L.length by omega,hi] using this
  have h0:u<32:=by
   have:=(h.rx e he).2.2.2.1 u (by rw[h1];simp);exact (I u this).2
  omega
 have keepD:∀r:List Fw,∀j,j<L.length→(L++r).getD j Un=L.getD j Un:=λr j E=>Qg9 E;refine ⟨by simp;have:=h.ne;omega,by simp;omega,by omega,λe he=>?_,?_,by rw[keepD _ 0 h.ne];exact h.hd,λe he=>?_,λj v E H=>?_⟩
 ·rcases Lj.1 he with he | he
  ·exact h.rx e he
  obtain ⟨d,_,rfl,h1,h2,h3,h4⟩:=S e he;refine ⟨?_,h2,h3,λu hu=>?_,?_⟩
  ·show d.2.2=rn a 0 (ei.u++[d.2.1]);rw[QiR,←r1,h4]
  ·rcases Lj.1 (show u∈ei.u++[d.2.1] from hu) with hu | hu
   ·exact r4 u hu
   simp only[List.mem_singleton] at hu;subst hu;exact h1
  show (ei.u++[d.2.1]).length≤most;rw[Lh,LA];omega
 ·rw[Mo];refine ⟨h.so,?_,λp hp q hq=>?_⟩
  ·unfold wdR;rw[Ms];have hp:(Zz a.ed ei.s).Pairwise λx y:Ed=>x.1<y.1∨(x.1=y.1∧x.2.1<y.2.1):=List.Pairwise.sublist MB G.edi;refine List.Pairwise.imp_of_mem (λ{x y} hx hy h5=>?_) hp;have e1:=(Zt hx).2;have e2:=(Zt hy).2;show enc (ei.u++[x.2.1])<enc (ei.u++[y.2.1]);rw[Kh,Kh];omega
  obtain ⟨d,_,rfl,h1,_⟩:=S q hq;exact hf p hp _ h1
 ·rcases Lj.1 he with he | he
  ·rcases h.pr e he with h1 | ⟨j,u,E,h1⟩
   ·exact .inl h1
   exact .inr ⟨j,u,by omega,by rw[keepD _ j (by omega)];exact h1⟩
  obtain ⟨d,_,rfl,_⟩:=S e he;exact .inr ⟨i,d.2.1,by omega,by rw[keepD _ i hi,J];rfl⟩
 rw[keepD _ j (by omega)] at H ⊢;by_cases e:j=i
 ·subst e;rw[J] at H ⊢;have hg:=US H;refine ⟨wdN ei (ei.s,v,nxt a.ed ei.s v),LU _ ?_,O⟩;unfold wdR;exact LK (by unfold Zz;exact LR.2 ⟨hg,by simp⟩)
 obtain ⟨e',hh,h1⟩:=h.ch j v (by omega) H;exact ⟨e',Lz _ hh,h1⟩
theorem Qmw {a:QN}(E:0<a.st) (most:Nat):WdI a most 0 [Un]:=by
 refine ⟨by simp,Nat.zero_le _,by simp,λe he=>?_,by simp,by simp[List.getD,Un],λe he=>?_,λj v G=>by omega⟩
 ·simp only[List.mem_singleton] at he;subst he;exact ⟨O,M5 _,E,by simp[Un],by simp[Un]⟩
 simp only[List.mem_singleton] at he;subst he;exact .inl O
end Go.Proofs.YtdffckgdcegpaaaGreatDoor
namespace Go.Lg
section
variable {P:Program} {ops:List Oper} {K:Fr→World→Prop} {f:Fr} {w:World} {d:Option Nat} {ty:Nat} {ps:String} {af:Array Edge} {gd:Option (Nat×Bool)}
theorem UA {base t ty e:Nat}{sz bys:Nat}{z:Value}[h:Sl P t e sz bys z] {v:Value}{n:Nat}{cs:LV}(E:w.ownsRow base e sz v n cs)
  {a:Addr} {m c:Nat} {news:LV} (hl:news.length=m*sz) (V:∀j u,news[j]?=some u→w.cell? (a.add j)=some u) (h1:∀u∈news,u.oneCell'=true)
  (hb:n+m≤1099511627776) (ht:bys≤128) (he:base≤w.heap.size) :
  ∃v' w',(Builtin.append_ #[t,t] ty #[v,.slice (some a) m c]).run P w=.ok v' w'∧w'.ownsRow base e sz v' (n+m) (cs++news)∧Step (ob v) w w'∧(∀b∈ob v',b∈ob v∨w.heap.size≤b)∧w'.ownsRow base e sz v n cs:=by
 obtain ⟨i,hi,hz,J,ha⟩:=Sl.info h;have hc:(n+m)*bys≤140737488355328:=LS (Nat.mul_le_mul hb ht) (by omega);have hf:n+m≤maxLen:=by simp only[maxLen];omega
 by_cases hg:∃g cap cur,v=.slice (some ⟨g,0,none⟩) n cap∧w.heap[g]?=some (.cells cur e (0,0))∧n+m≤cap
 ·obtain ⟨v',w',I,ho,hu,_⟩:=run_append_own (P:=P) w base t ty e i z sz bys h.u hi hz J ha h.zs h.pos v n cs E a m c news hl V h1 hf hc he;have hv:Step (ob v) w w':=by rw[yX];exact Step.of_grown hu
  refine ⟨v',w',I,ho,hv,?_⟩;obtain ⟨g,cap,cur,rfl,hh,S⟩:=hg;rcases E.2 with ⟨h2,_⟩ | ⟨g2,cap2,hj,h2,h3,h4,h5,h6,h7,h8⟩
  ·cases h2
  cases h2
  have hw:n*i.size+news.length≤hj.size:=by rw[hl,h7,J,←MI];exact ME _ S
  have hy:=run_append_room (P:=P) w t ty e i h.u hi g n cap hj h4 a m c news (by rw[J];exact hl) V h1 S hw;rw[hy] at I;cases I
  refine ⟨λb H=>.inl H,E.1,?_⟩;have hD:=E.1;rcases ho.2 with ⟨e1,_⟩ | ⟨g3,cap3,cur3,e1,k3,k4,k5,k6,k7,k8⟩
  ·cases e1
  cases e1
  refine .inr ⟨g,cap,cur3,O,k3,k4,h5,k6,k7,?_⟩;have:=congrArg (List.take (n*sz)) k8;rw[List.take_take,MP (ME _ (Nat.le_add_right n m)),List.take_append_of_le_length (by omega),Lo (l:=cs) (by omega)] at this;exact this
 have new:∀(old:Nat),old<n+m→∀G,G=(Obj.cells (cs.toArray++news.toArray++Builtin.zeroCells z.cells (grownCap w (n+m) old e - (n+m))) e) →
   (w.drew.alloc G).ownsRow base e sz (.slice (some ⟨w.heap.size,0,none⟩) (n+m) (grownCap w (n+m) old e)) (n+m) (cs++news):=by
  intro old ho G h0;subst h0;have hge:=grownCap_ge w (n+m) old e;have hp:grownCap w (n+m) old e≤maxLen:=grownCap_le_maxLen w (n+m) old e hf;have hq:(cs++news).length=(n+m)*sz:=by rw[Lh,E.1,hl,MI]
  refine ⟨hq,.inr ⟨w.heap.size,_,_,O,he,Kk w.drew _,hge,hp,?_,?_⟩⟩
  ·simp only[Array.size_append,List.size_toArray,size_zeroCells,h.zs,E.1,hl,←Nat.add_mul];congr 1;omega
  simp only[Array.toList_append,List.append_assoc];rw[←LC,←hq];exact List.take_left
 have stp:∀G,Step (ob v) w (w.drew.alloc G):=λG=>⟨O,O,O,by rw[U2];exact Nat.le_succ _,λk hk _=>jC w.drew G k hk⟩;have h9:∀G,Step [] w (w.drew.alloc G):=λG=>⟨O,O,O,by rw[U2];exact Nat.le_succ _,λk hk _=>jC w.drew G k hk⟩;have fin:∀(b:Nat),b∈ob (.slice (some ⟨w.heap.size,0,none⟩) (n+m) 0)→b∈ob v∨w.heap.size≤b:=λb H=>by simp[ob] at H;omega
 rcases E.2 with ⟨rfl,rfl⟩ | ⟨g,cap,cur,rfl,hE,hh,hF,hp,hG,hH⟩
 ·have hx:cs=[]:=Ln (by simpa using E.1);subst hx;by_cases hm:m=0
  ·subst hm;have Y:news=[]:=Ln (by simpa using hl);subst Y;refine ⟨nS,w,?_,QP _ _ _ _,Step.refl _ _,λb H=>by simp[ob] at H,QP _ _ _ _⟩;simp[Builtin.append_,run_underlying h.u,sizeOf,typeInfo,hi,Builtin.lenOf,Builtin.firstCells,loadCells,loadCellsFrom]
  have I:=run_append_nil (P:=P) w t ty e i z h.u hi hz a m c news (by rw[J];exact hl) V (by omega) (by omega) (by rw[ha];have hA:=hc;simp only[Nat.zero_add] at hA;omega);have Y:=new 0 (by omega) _ O;simp only[Nat.zero_add,List.nil_append,Array.empty_append] at Y ⊢;exact ⟨_,_,I,Y,stp _,λb H=>fin b H,QP _ _ _ _⟩
 have S:cap<n+m:=by
  rcases Nat.lt_or_ge cap (n+m) with hB | hge
  ·exact hB
  exact absurd ⟨g,cap,cur,O,hh,hge⟩ hg
 have hC:∀j u,cs[j]?=some u→w.cell? ((⟨g,0,none⟩:Addr).add j)=some u:=E.cells (g:=g) O;have I:=run_append_grow (P:=P) w t ty e i z h.u hi hz ⟨g,0,none⟩ n cap cs (by rw[J];exact E.1) hC a m c news (by rw[J];exact hl) V S (by omega) (growslice_fits S (by rw[ha];exact hc));exact ⟨_,_,I,new cap S _ O,stp _,λb H=>fin b H,Qq E (h9 _)⟩
theorem Qf8 {t e sz bys:Nat}{z:Value}[h:Sl P t e sz bys z] {s y:Operand}{base:Nat}{v:Value}{n:Nat}{cs:LV}(E:w.ownsRow base e sz v n cs) (hs:ev f s=v)
  {a:Addr} {m c:Nat} {news:LV} (hy:ev f y=.slice (some a) m c) (hl:news.length=m*sz) {L:LN} (G:At L w.heap a news) (h1:∀u∈news,u.oneCell'=true)
  (hb:n+m≤1099511627776) (H:base≤w.heap.size)
  (I:∀v' w',w'.ownsRow base e sz v' (n+m) (cs++news)→Step (ob v) w w'→(∀b∈ob v',b∈ob v∨w.heap.size≤b)→w'.ownsRow base e sz v n cs→K (QV f d v') w') (J:bys≤128:=by decide) :
  XO P ⟨d,.call ⟨.builtin .append,#[s,y],#[t,t]⟩,ty,ps,af,gd⟩ f w K:=by
 obtain ⟨v',w',S,h2,h3,V,h5⟩:=UA (P:=P) (t:=t) (ty:=ty) E hl G.cells h1 hb J H (c:=c);have Y:(execOp (ev f) ⟨d,.call ⟨.builtin .append,#[s,y],#[t,t]⟩,ty,ps,af,gd⟩).run P w=.ok (.value v') w':=by
  simp[execOp,resolve,invoke,builtin,hs,hy,S]
 exact xv Y (I v' w' h2 h3 V h5)
end
section
variable {P:Program} {ops:List Oper} {K:Fr→World→Prop} {f:Fr} {w:World} {d:Option Nat} {ty:Nat} {ps:String} {af:Array Edge} {gd:Option (Nat×Bool)} {C:World→Prop} {pl:List (Nat×Bool)} {i0:Nat}
theorem QnH {α:Type}{g:α→LV}{x y:Operand}{t e sz bys:Nat}{z:Value}[Sl P t e sz bys z] (G:Q6 ops i0=⟨d,.indexAddr t x y,ty,ps,af,gd⟩) (I:∀x,(g x).length=sz) {L:LN}{E:List α}{v:Value}{H:World}{k:IntKind}{i:Nat}
  (h:∀w',C w'→Zs L w'.heap v E.length sz (E.flatMap g)) (J:C H) (S:ev f x=v) (hy:ev f y=.int k i) (hi:i<E.length)
  (V:∀a,(∀w',C w'→At L w'.heap a (g E[i]))→XP P ops C K pl (QV f d (.pointer (some a))) w) (Y:Yk ops f (Q6 ops i0)=true:=by rfl) :
  XP P ops C K ((i0,true)::pl) f w:=by
 obtain ⟨a,cap,h1,_⟩:=Zs.at (h H J) hi;refine Lg.p (λw'=>by rw[G];exact Xt (S.trans h1) hy (by omega) (by omega)) ?_ Y;rw[G];refine V _ λw' hc=>?_;obtain ⟨a',cap',ha,h2⟩:=Zs.at (h w' hc) hi;rw[ha] at h1;cases h1
 rw[X5 g sz I E i hi] at h2;simpa using h2
end
end Go.Lg
namespace Go.Proofs.YtdffckgdcegpaaaGreatDoor
open Go.Proofs.Tryz
open Go.Lg
theorem Qnb (b:Bool):b=true∨b=false:=by cases b;exact .inr O;exact .inl O
structure FV where
 v:Value
 f:Fw
abbrev ZH (p:FV):LV:=[p.v,.int .i64 p.f.s]
theorem jn (p:FV):(ZH p).length=2:=rfl
structure WdM (wB:World) (vL:Value) (es:List FV) (w:World):Prop where
 st:Step [] wB w
 l:w.ownsRow wB.heap.size 384 2 vL es.length (es.flatMap ZH)
 each:∀p∈es,QL (ob vL) w.heap p.v p.f.u
theorem WdM.ext {wB w w':World}{vL:Value}{E:List FV}(h:WdM wB vL E w) (hs:Step [] w w'):WdM wB vL E w':=⟨h.st.trans hs,Qq h.l hs,λp hp=>(h.each p hp).ext hs⟩
theorem WdM.add {wB w w':World}{vL vL':Value}{E:List FV}{p:FV}(h:WdM wB vL E w) (hs:Step (ob vL) w w') (hl:w'.ownsRow wB.heap.size 384 2 vL' (E.length+1) (E.flatMap ZH++ZH p)) (G:∀b∈ob vL',b∈ob vL∨w.heap.size≤b) (hp:QL (ob vL) w.heap p.v p.f.u):WdM wB vL' (E++[p]) w':=by
 refine ⟨h.st.then hs (λb hb=>.inr (Qm h.l b hb).1),by rw[Lh,Ly];simpa using hl,λq hq=>?_⟩;rcases Lj.1 hq with hq | hq
 ·exact (h.each q hq).grow hs (λb hb=>hb) G
 simp only[List.mem_singleton] at hq;subst hq;exact hp.grow hs (λb hb=>hb) G
theorem Qg2 {E:List FV}{i:Nat}(h:i<E.length):(E.map (·.f)).getD i Un=(E[i]'h).f:=by simp[List.getD,h]
theorem QiY {a:QN}(E:Q2 a) (s:Int):(Zz a.ed s).length≤32:=by
 have hp:(Zz a.ed s).Pairwise λx y:Ed=>x.1<y.1∨(x.1=y.1∧x.2.1<y.2.1):=List.Pairwise.sublist MB E.edi;have hi:Z0 ((Zz a.ed s).map λe=>e.2.1):=by
  unfold Z0;rw[Ms];refine List.Pairwise.imp_of_mem (λ{x y} hx hy H=>?_) hp;have e1:=(Zt hx).2;have e2:=(Zt hy).2;omega
 have:=XH _ 0 32 hi (λv G=>by
  obtain ⟨e,he,rfl⟩:=Lp.1 G;exact E.al _ (E.ed e (Zt he).1).2.2.1)
 rw[Le] at this;omega
def QeZ (a:QN) (most:Nat) (mk:Bool):Option (List (LI)):=if a.st=0 then some [] else (wds a most).map λL=>(L.filter λf=>!mk || decide (f.s∈a.mr)).map (·.u)
def Qnh (o:Option (List (LI))) (r:Value) (H:Array Obj):Prop:=(o=none∧r=.tuple #[Zg,.int .i64 3])∨∃l v ps,o=some l∧r=.tuple #[v,.int .i64 0]∧XX [] H v ps∧ps.map (·.2)=l
set_option maxHeartbeats 16000000 in
theorem QeM {w:World}{va vm ve:Value}{a:QN}(h:Zv [] w.heap va vm ve a) (mj:JI a=0) (ho:Q2 a) (most:Nat) (q1:most≤4096) (mk:Bool) :
  QK prog 249 [.agg #[va,.int .i64 a.st,vm,ve],.int .i64 most,.bool mk] w λr w'=>Step [] w w'∧Qnh (QeZ a most mk) r w'.heap:=by
 have q2:=ho.st0;have q3:=ho.st1;refine QK.of_W func249 O ntmps249 results249 (by simp) ?_;refine Qc<|xl O<|QS (us:=[va,.int .i64 a.st,vm,ve]) O λb3 w1 g2 q4 g3=>x Qg<|Qe<|Qf<|Qc<|x (Qr g3 O O)<|xl O<|xf<|(XJ (h.ext g2)).mono ?_;rintro r2 w2 ⟨g5,g7⟩;rw[mj] at g5;subst g5;have I:=g2.trans g7;refine Qe<|Qc<|Qb<|x (Q9 O O)<|xe<|ZM rfl ?_
 refine Qi<|Qf<|Qc<|Qb<|xb (QB O O) (λg8=>absurd (show (most:Int)<0 from g8) (by omega)) (λg8=>?_);refine Qb<|Qb<|x (ZR O O)<|x (Ql O)<|xe<|Q7 rfl (λg9=>absurd (show (most:Int) > 4096 from g9) (by omega)) (λg9=>?_);refine Qi ?_;have hP:=g3.ext g7;refine Qf<|Qc<|x (Qa O)<|x (Qd hP O O)<|x (Q4 O O)<|xe<|Q7 rfl (λhQ=>?_) (λhQ=>?_)
 ·refine Qc<|x Qg<|Qe ?_;exact Qn ⟨[Zg,.int .i64 0],⟨O,O,U⟩,I,.inr ⟨[],Zg,[],by unfold QeZ;rw[if_pos hQ],rfl,⟨Zs.nil _ _ _,λp hp=>by cases hp⟩,rfl⟩⟩
 have mo:0<a.st:=by have q5:¬a.st=0:=hQ;omega
 have hW:QeZ a most mk=(wds a most).map λL=>(L.filter λf=>!mk || decide (f.s∈a.mr)).map (·.u):=by unfold QeZ;rw[if_neg (by omega)]
 refine Zc (wds a most) λR hR=>?_;rw[hR] at hW;refine Qi<|Qc<|x (QD U)<|xl O<|QC (us:=[ZH ⟨nS,Un⟩]) O O (by decide) (by exact (by decide:1*2≤1000000)) ⟨O,O,U⟩ λka w3 mq ms kb=>Qe ?_;have za:=kb.lt;have mt:WdM w2 (.slice (some ⟨ka,0,none⟩) 1 1) [⟨nS,Un⟩] w3:=by
  refine ⟨mq,kb.own (n:=1) O (by omega) ms,λp hp=>?_⟩;simp only[List.mem_singleton] at hp;subst hp;exact Zs.nil _ _ _
 have mu:∀e∈a.ed,0≤e.1∧e.1≤1099511627776:=λe he=>by have:=ho.ed e he;omega
 refine QT (α:=Value×List FV) [(6,7),(9,10),(12,12),(32,77)] (λz=>[(9,z.1)]) (λz w'=>WdM w2 z.1 z.2 w'∧R=some (z.2.map (·.f))∧z.2.length≤1024) (by rfl) ?_ ?_
 ·refine Qc<|Qe<|Qh<|QA (α:=Nat×Value×List FV) [(6,7),(9,10),(12,12),(32,77)] (λz=>[(9,z.2.1),(10,.int .i64 z.1)])
   (λz w'=>z.1≤1025∧WdM w2 z.2.1 z.2.2 w'∧WdI a most z.1 (z.2.2.map (·.f))∧wdL a most (1025 - z.1) z.1 (z.2.2.map (·.f))=R) (λz=>1025 - z.1) (by rfl) (0,.slice (some ⟨ka,0,none⟩) 1 1,[⟨nS,Un⟩]) ⟨O,O,U⟩
   ⟨Ll _,mt,Qmw mo most,hR⟩ ?_
  rintro ⟨i,vL,E⟩ g4 w4 ⟨mv,hg,h6,G⟩;simp only[] at mv hg h6 G;have hS:=h6.mx;have mw:=h6.le;rw[Le] at hS mw;have hw:Zs [] w4.heap vL E.length 2 (E.flatMap ZH):=QU hg.l (by omega) (λb _=>by simp);refine Qf<|Qc<|Qb<|Qb<|x (Qs hw O)<|x (QB O O)<|xe<|QG O (λhU=>?_) (λhU=>?_)
  ·refine Qz ?_;have my:¬i<(E.map (·.f)).length:=by rw[Le];have mz:¬(i:Int)<(E.length:Int):=hU;omega
   refine ⟨(vL,E),Z,hg,?_,hS⟩;rw[←G];generalize 1025 - i=f;cases f with
   | zero=>rfl
   | succ f=>rw[wdL,if_neg my]
  have hi:i<E.length:=by have mz:(i:Int)<(E.length:Int):=hU;omega
  rw[show 1025 - i=(1025 - (i+1))+1 by omega,wdL,if_pos (by rw[Le];exact hi),Qg2 hi] at G;have kc:=hg.each _ (Lc hi);have hV:=h6.rx _ (LK (f:=λq:FV=>q.f) (Lc hi));have hX:=λhl hm=>h6.step ho (by rw[Le];exact hi) hl hm;rw[Qg2 hi] at hX;refine Zc (E[i]'hi) λei hH=>?_;rw[hH] at G kc hV hX;have ke:=hg.st
  have m0:=kc.up (L':=[]) (λb hb=>by cases hb);refine Qi<|Qf<|Qh<|Qf<|Qc<|Qb<|Qb<|xig (g:=ZH) (i:=i) jn hw O O hi λzv kf=>?_;rw[hH] at kf;refine x (Zo O)<|x (Qw (kf.fld 0 _ O) O)<|x (Qs m0 O)<|Qb<|x (Q4 O O)<|xe<|Q7 O (λhY=>?_) (λhY=>?_)
  ·refine Qz ?_;have hI:ei.f.u.length=most:=by have m1:(ei.f.u.length:Int)=(most:Int):=hY;omega
   rw[if_pos hI] at G;exact ⟨(vL,E),Z,hg,G.symm,hS⟩
  have hI:ei.f.u.length≠most:=by have m1:¬(ei.f.u.length:Int)=(most:Int):=hY;omega
  rw[if_neg hI] at G;have hZ:=hX hI;refine Qi ?_;have m2:=hP.ext ke;have m3:Zv (ob vL) w4.heap va vm ve a:=((h.ext I).up (L':=ob vL) (λb hb=>.inr (Qm hg.l b hb).1)).ext ke;have m4:=QiY ho ei.f.s;have hout:=yU (va:=va) (vm:=vm) (st:=a.st) (m3.ed.ext (Step.drew [] w4)) ho.eds mu ei.f.s hV.2.1 (by omega);refine Zc (Zz a.ed ei.f.s) λos kg=>?_;rw[kg] at m4 hout
  have m5:wdR a ei.f=os.map (wdN ei.f):=by unfold wdR;rw[kg]
  rw[m5] at G hZ;refine Qf<|Qf<|QW (Step [] w4) [(0,true),(1,true),(2,true),(3,true),(4,true),(5,true),(8,true),(6,false),(7,true)] mixed (by rfl) (by kernel_rfl) (Step.drew _ _) ?_;refine pq (λ_ hc=>Qr (m2.ext hc) O O)<|p (λ_=>Qp)<|p (λ_=>Qp)<|Lg.pig (g:=ZH) (i:=i) O jn hw O O hi λz0 kh=>?_;rw[hH] at kh
  refine p (λ_=>Zo O)<|pq (λ_ hc=>Qw ((kh.fld 1 _ O).ext hc) O)<|p (λ_=>Qp)<|pk<|xf<|hout.mono ?_;rintro ro w5 ⟨m6,ki⟩;have kj:=(Step.drew [] w4).trans m6;refine ⟨kj,?_⟩;refine p (λ_=>Qs ki O)<|pe ?_;have m7:=hg.ext kj;refine Zc (E.map (·.f)++os.map (wdN ei.f)) λL1 kk=>?_;rw[kk] at G hZ
  refine Qh<|QA (α:=Nat×Value×List FV) [(9,9),(12,12),(54,74)] (λz=>[(9,z.2.1),(54,.int .i64 z.1)])
   (λz w'=>z.1≤os.length∧WdM w2 z.2.1 z.2.2 w'∧zj (ob z.2.1) w'.heap ro os∧z.2.2.length=E.length+z.1∧(∃h:i<z.2.2.length,z.2.2[i]'h=ei)∧z.2.2.map (·.f)++(os.drop z.1).map (wdN ei.f)=L1) (λz=>os.length - z.1) (by rfl) (0,vL,E) ⟨O,O,U⟩
   ⟨Ll _,m7,ki,O,⟨hi,hH⟩,kk⟩ ?_
  rintro ⟨k,vL2,fs⟩ g6 w6 ⟨hk,hn,ga,m8,kn,hh⟩;simp only[] at hk hn ga m8 kn hh;refine Qc<|x (QB O O)<|xe<|Qf<|QG O (λgb=>?_) (λgb=>?_)
  ·refine Qz ?_;have gc:os.length≤k:=by have hJ:¬(k:Int)<(os.length:Int):=gb;omega
   rw[Lr gc,Nu,LH] at hh;have m9:Zs [] w6.heap vL2 fs.length 2 (fs.flatMap ZH):=QU hn.l (by omega) (λb _=>by simp);have z1:L1.length=fs.length:=by rw[←hh,Le]
   refine Qc<|Qb<|x (Qs m9 O)<|x (ZR O O)<|xe<|Q7 O (λge=>?_) (λge=>?_)
   ·have hK:1024<L1.length:=by have pa:(fs.length:Int) > 1024:=ge;omega
    rw[if_pos hK] at G;refine Qc<|x Qg<|Qe ?_;exact Qn ⟨[Zg,.int .i64 3],⟨O,O,U⟩,I.trans hn.st,.inl ⟨by rw[hW,←G];rfl,O⟩⟩
   have hK:¬1024<L1.length:=by have pa:¬(fs.length:Int) > 1024:=ge;omega
   rw[if_neg hK,←hh] at G;have ko:=hZ hK;rw[←hh] at ko;refine Qi<|Qy<|Qb<|QO O O<|Qe ?_;exact ⟨(i+1,vL2,fs),by simp only[];omega,⟨O,O,U⟩,by simp only[];omega,hn,ko,G⟩
  have J:k<os.length:=by have hJ:(k:Int)<(os.length:Int):=gb;omega
  rw[QX J,LO] at hh;refine Zc (os[k]'J) λd hd=>?_;rw[hd] at hh;refine Qi<|Exists.elim kn λgg gh=>?_;have kp:=hn.each _ (Lc gg);rw[gh] at kp;refine QT (α:=Value×Value) [(9,9),(12,12),(56,73)] (λz=>[(9,z.1)]) (λz w'=>WdM w2 z.1 (fs++[⟨z.2,wdN ei.f d⟩]) w'∧zj (ob z.1) w'.heap ro os) (by rfl) ?_ ?_
  ·refine Qh<|Qc<|xie (i:=k) ga O O J λz2 hJ=>?_;rw[hd] at hJ;refine x (QI hJ O O)<|xl O<|Qt (us:=[.int .i64 0,.int .i64 0,.int .i64 0]) O λkq w7 pc pd pf=>xl O<|Qo (us:=Qx d) pf O O O O ⟨O,O,O,U⟩ λH pg kr=>xe ?_;have gi:Step [] w6 H:=pc.then1 pg pd;have h0:=hn.ext gi;have kt:=ga.ext gi;have ph:=kp.ext gi
   have z3:Zs [] H.heap vL2 fs.length 2 (fs.flatMap ZH):=QU h0.l (by omega) (λb _=>by simp);have ku:=ph.up (L':=[]) (λb hb=>by cases hb);have h2:Step [] H { H with drawn:=H.drawn+1 }:=Step.drew [] H
   have z4:=h2.size;have kv:=hV.2.2.2.2;have V:∀w',Step [] H w'→Step (ob vL2) H w'∧w'.ownsRow w2.heap.size 384 2 vL2 fs.length (fs.flatMap ZH):=λw' hs=>⟨hs.mono (by simp),Qq h0.l hs⟩;have kw:kq∉ob vL2:=λhb=>by have:=QR hn.l kq hb;omega
   refine Qj9 (λw'=>Step (ob vL2) H w'∧w'.ownsRow w2.heap.size 384 2 vL2 fs.length (fs.flatMap ZH)) (.f2 [(0,true),(1,true),(2,true),(3,true),(4,true),(5,true),(7,true),(8,true),(11,true),(12,true)] 6 9 (.pl [(9,false),(10,false),(13,true),(14,false),(15,false),(16,true)]) (.pl [(6,false),(10,false),(13,true),(14,false),(15,false),(16,true)])) mixed (by rfl) (by kernel_rfl) (V _ h2) ?_
   refine u2<|p (λ_=>Qp)<|p (λ_=>Qp)<|p (λ_=>Qp)<|QnH (g:=ZH) (i:=i) (L:=[]) O jn (λw' hc=>QU hc.2 (by omega) (λb _=>by simp)) (V _ h2) rfl rfl gg λz5 kx=>?_;rw[gh] at kx;refine p (λ_=>Zo O)<|pq (λw' hc=>Qw ((kx w' hc).fld 0 _ O) O)<|p (λ_=>Qa O)<|pq (λ_ hc=>Qd (kr.step hc.1 kw) O O)<|p (λ_=>Qa O)<|pq (λ_ hc=>Qd (kr.step hc.1 kw) O O)<|pe ⟨?_,?_⟩
   ·refine ue<|xf<|(ZZ (ku.ext h2)).mono ?_;rintro vk w9 ⟨h7,h8⟩;have h3:=h2.trans h7;have pj:=h7.size;have gj:=Qm h8;refine ⟨V _ h3,?_⟩;refine uP<|pk<|QC (us:=[[.int .i64 d.2.1]]) O O (by decide) (by simp) ⟨rfl,rfl,U⟩ λbl pm hq pn gk=>?_;have h9:=h3.trans hq;have po:=hq.size;refine ⟨V _ h9,?_⟩
    refine pk<|Q5 (news:=[.int .i64 d.2.1]) (L:=[]) (Qq h8 hq) O O O (gk.at (by simp)) (by simp[Value.oneCell']) (by omega) (by omega) λS gl gm hA pp=>?_;have hB:Step [] H gl:=h9.then hA (λb hb=>.inr (by have:=(gj b hb).1;omega));have pt:=hA.size;have hr:=Qu.snoc (Zr gm (show H.heap.size≤_ by omega));refine ⟨V _ hB,?_⟩
    have gn:=(Qu.ints (L:=[]) hr (by simp;omega) (by simp)).one;have go:=(Qu.ints (L:=[]) hr (by simp;omega) (by simp)).cells;refine p (λ_=>QD ⟨go,O,U⟩)<|pk<|QC (us:=[ZH ⟨S,wdN ei.f d⟩]) O O (by decide) (by exact (by decide:1*2≤1000000)) ⟨O,O,U⟩ λbm gp I pu hC=>?_;have ha:=hB.trans I;refine ⟨V _ ha,?_⟩;have ht:=h0.ext ha;have gq:=ht.st.size
    refine pk<|Qf8 (news:=ZH ⟨S,wdN ei.f d⟩) (L:=[]) (m:=1) ht.l O O O (hC.at (by simp)) (by intro u hu;simp only[List.mem_cons,List.not_mem_nil,or_false] at hu;rcases hu with rfl | rfl;exact gn;rfl) (by omega) gq λvz pw gr hv hD gs=>⟨⟨(ha.mono (by simp)).trans' hv,gs⟩,p (λ_=>Qg)<|pe ?_⟩
    have gt:QL (ob vL2) gp.heap S (wdN ei.f d).u:=Qu.ints (Qq hr I) (by show (ei.f.u++[d.2.1]).length≤_;rw[Lh,LA];omega) (λb hb=>QR h0.l b hb);exact ⟨(vz,S),Z,ht.add hv gr hD gt,(kt.ext ha).grow hv (λb hb=>hb) hD⟩
   refine ue<|QC (us:=[[.int .i64 d.2.1]]) O O (by decide) (by simp) ⟨rfl,rfl,U⟩ λbl w9 h7 pn gk=>?_;have h3:=h2.trans h7;have pj:=h7.size;refine ⟨V _ h3,?_⟩;refine uP<|pk<|xf<|(ZZ (ku.ext h3)).mono ?_;rintro vk pm ⟨hq,h8⟩;have h9:=h3.trans hq;have po:=hq.size;have gj:=Qm h8;refine ⟨V _ h9,?_⟩
   refine pk<|Q5 (news:=[.int .i64 d.2.1]) (L:=[]) h8 O O O ((gk.ext hq).at (by simp)) (by simp[Value.oneCell']) (by omega) (by omega) λS gl gm hA pp=>?_;have hB:Step [] H gl:=h9.then hA (λb hb=>.inr (by have:=(gj b hb).1;omega));have pt:=hA.size;have hr:=Qu.snoc (Zr gm (show H.heap.size≤_ by omega));refine ⟨V _ hB,?_⟩
   have gn:=(Qu.ints (L:=[]) hr (by simp;omega) (by simp)).one;have go:=(Qu.ints (L:=[]) hr (by simp;omega) (by simp)).cells;refine p (λ_=>QD ⟨go,O,U⟩)<|pk<|QC (us:=[ZH ⟨S,wdN ei.f d⟩]) O O (by decide) (by exact (by decide:1*2≤1000000)) ⟨O,O,U⟩ λbm gp I pu hC=>?_;have ha:=hB.trans I;refine ⟨V _ ha,?_⟩;have ht:=h0.ext ha;have gq:=ht.st.size
   refine pk<|Qf8 (news:=ZH ⟨S,wdN ei.f d⟩) (L:=[]) (m:=1) ht.l O O O (hC.at (by simp)) (by intro u hu;simp only[List.mem_cons,List.not_mem_nil,or_false] at hu;rcases hu with rfl | rfl;exact gn;rfl) (by omega) gq λvz pw gr hv hD gs=>⟨⟨(ha.mono (by simp)).trans' hv,gs⟩,p (λ_=>Qg)<|pe ?_⟩
   have gt:QL (ob vL2) gp.heap S (wdN ei.f d).u:=Qu.ints (Qq hr I) (by show (ei.f.u++[d.2.1]).length≤_;rw[Lh,LA];omega) (λb hb=>QR h0.l b hb);exact ⟨(vz,S),Z,ht.add hv gr hD gt,(kt.ext ha).grow hv (λb hb=>hb) hD⟩
  rintro ⟨vz,S⟩ z9 w14 ⟨ky,kz⟩;simp only[] at ky kz;refine Qy<|QO O O<|Qb<|xe ?_;exact ⟨(k+1,vz,fs++[⟨S,wdN ei.f d⟩]),by simp only[];omega,⟨O,O,U⟩,J,ky,kz,by simp;omega,⟨by simp;omega,by simp only[];rw[Mc gg];exact gh⟩,by simp only[];rw[Lu,LC];exact hh⟩
 rintro ⟨vL,E⟩ g20 hE ⟨h4,k0,pz⟩;simp only[] at h4 k0 pz;rw[k0] at hW;have p0:=I.trans h4.st;have hw:Zs [] hE.heap vL E.length 2 (E.flatMap ZH):=QU h4.l (by omega) (λb _=>by simp);refine Qc<|Qe<|Qf<|Qc<|Qb<|x (Qs hw O)<|Qb<|xe<|Qh<|QA (α:=Nat×Value×List TV) [(13,13),(15,15),(80,100)] (λz=>[(13,z.2.1),(80,.int .i64 z.1)])
  (λz w'=>z.1≤E.length∧Step [] hE w'∧zy 37 hE.heap.size w' z.2.1 z.2.2∧z.2.2.map (·.2)=((E.take z.1).filter λp=>!mk || decide (p.f.s∈a.mr)).map (λp=>p.f.u)∧∀p∈z.2.2,QL (ob z.2.1) w'.heap p.1 p.2) (λz=>E.length - z.1) (by rfl) (0,nS,[]) ⟨O,O,U⟩
  ⟨Ll _,Step.refl _ _,QP _ _ _ _,O,λp hp=>by cases hp⟩ ?_
 rintro ⟨k,vT,ps⟩ g21 k4 ⟨hk,hf,hT,hF,hL⟩;simp only[] at hk hf hT hF hL;have hpl:ps.length≤k:=by
  have h1:=congrArg List.length hF;rw[Le,Le] at h1;rw[h1];refine LS (Ma _ _) ?_;rw[Lx];omega
 refine Qc<|x (QB O O)<|xe<|Qf<|QG O (λgu=>?_) (λgu=>?_)
 ·refine Qz ?_;have gc:E.length≤k:=by have hM:¬(k:Int)<(E.length:Int):=gu;omega
  refine Qc<|Qb<|x Qg<|Qe<|Qn ⟨[vT,.int .i64 0],⟨O,O,U⟩,p0.trans hf,.inr ⟨_,vT,ps,hW,O,⟨QU hT (by omega) (λb _=>by simp),λp hp=>(hL p hp).up (λb hb=>by cases hb)⟩,?_⟩⟩;rw[hF,Lo gc];show _=((E.map (λp:FV=>p.f)).filter λf=>!mk || decide (f.s∈a.mr)).map (λx:Fw=>x.u);rw[List.filter_map,Mj];rfl
 have J:k<E.length:=by have hM:(k:Int)<(E.length:Int):=gu;omega
 have k5:=h4.each _ (Lc J);refine Zc (E[k]'J) λek gv=>?_;rw[gv] at k5;have k6:QL (ob vT) k4.heap ek.v ek.f.u:=((k5.up (L':=[]) (λb hb=>by cases hb)).up (λb hb=>.inr (Qm hT b hb).1)).ext hf;refine Qi<|Qf<|Qh<|Qc<|xig (g:=ZH) (i:=k) jn (hw.ext hf) O O J λa82 hM=>?_;rw[gv] at hM
 refine x (QI hM O O)<|xl O<|Qt (us:=[nS,.int .i64 0]) O λb15 w22 p1 p2 p3=>xl O<|Qo (us:=ZH ek) p3 O O O O ⟨k6.one,O,U⟩ λhj p4 k7=>xe ?_;have Y:Step [] k4 hj:=p1.then1 p4 p2;have hC:=((hP.ext h4.st).ext hf).ext Y;have p5:QL [] hj.heap vm a.mr:=(((h.ext I).mr.ext h4.st).ext hf).ext Y
 have hG:(E.take (k+1)).filter (λp=>!mk || decide (p.f.s∈a.mr))=(E.take k).filter (λp=>!mk || decide (p.f.s∈a.mr))++(if (!mk || decide (ek.f.s∈a.mr))=true then [ek] else []):=by
  rw[Li J,L7,gv,Mh,M9]
 refine QT (α:=Bool) [(84,92)] (λz=>[(92,.bool z)]) (λz w'=>w'=hj∧z=(!mk || decide (ek.f.s∈a.mr))) (by rfl) ?_ ?_
 ·refine Or.elim (Qnb mk) (λgw=>?_) (λgw=>?_)
  ·subst gw;refine Qy<|Qb<|x (Zm O)<|Qb<|x (Qa O)<|x (Qd hC O O)<|x (Qa O)<|x (Qd k7 O O)<|xl O<|xf<|(ZP p5 ek.f.s).mono ?_;rintro r91 hj ⟨rfl,rfl⟩;refine x (Ql O)<|xe ?_;exact ⟨_,Z,O,O⟩
  subst gw;refine Qy<|Qb<|x (Zm O)<|Qb<|xs O<|xs O<|xs O<|xs O<|xs O<|x (Ql O)<|xe ?_;exact ⟨true,Z,O,O⟩
 rintro z g23 hj ⟨rfl,hz⟩;rw[←hz] at hG;refine Q3 rfl (λgx=>?_) (λgx=>?_)
 rotate_left
 ·rw[if_neg (by rw[gx];decide),LH] at hG;refine Qi<|Qy<|QO O O<|Qb<|xe ?_;exact ⟨(k+1,vT,ps),by simp only[];omega,⟨O,O,U⟩,J,hf.trans Y,Qq hT Y,by simp only[];rw[hG];exact hF,λp hp=>(hL p hp).ext Y⟩
 rw[if_pos gx] at hG;have k8:=k6.ext Y;have k9:=Qq hT Y;have kv:=k8.le;refine Qy<|Qb<|xl O<|KS λb94 w24 hN ma p6=>x (Qa O)<|x (Qd (k7.ext hN) O O) <|
  xl rfl<|yY (base:=hj.heap.size) (p6.own (n:=0) (sz:=1) O (by omega) ma) O (k8.ext hN) O (Vo ek.f.u) (by omega) (by have:=hN.size;omega) λh5 gy p7 p8 hn25=>?_
 have p9:Step [] hj gy:=hN.then1 p8 ma;have qc:Qu 3 hj.heap.size gy h5 ek.f.u:=by simpa[tup] using p7
 have gz:QL (ob vT) gy.heap h5 ek.f.u:=Qu.ints qc kv (λb hb=>QR k9 b hb);refine xl rfl<|QC (us:=[[h5]]) O O (by decide) (by simp) ⟨gz.cells,rfl,U⟩ λb98 w26 mc hb98 qf=>?_;have hO:=p9.trans mc;have ql:=Qq k9 hO
 refine xl rfl<|Q5 (news:=[h5]) (L:=[]) ql O O O (qf.at (by simp)) (λy hy=>by simp only[List.mem_singleton] at hy;subst hy;exact gz.one) (by omega) (by have:=hf.size;have:=Y.size;have:=hO.size;omega) λmf mg qo g0 mh=>Qe ?_;have qr:Step [] hE mg:=((hf.trans Y).trans hO).then g0 (λb hb=>.inr (Qm hT b hb).1)
 have q0:zy 37 hE.heap.size mg mf (ps++[(h5,ek.f.u)]):=zy.snoc qo;refine Qy<|QO O O<|Qb<|xe<|⟨(k+1,mf,ps++[(h5,ek.f.u)]),by simp only[];omega,⟨O,O,U⟩,J,qr,q0,?_,λp hp=>?_⟩
 ·simp only[];rw[Lu,hF,hG,Lu];rfl
 rcases Lj.1 hp with hp | hp
 ·exact (((hL p hp).ext Y).ext hO).grow g0 (λb hb=>hb) mh
 simp only[List.mem_singleton] at hp;subst hp;exact (gz.ext mc).grow g0 (λb hb=>hb) mh
theorem Vh {L L':LN}{w:World}{v v':Value}{l l':LI}(h:QL L w.heap v l) (h':QL L' w.heap v' l'):QK prog 252 [v,v'] w λr w'=>r=.bool (decide (l=l'))∧Step [] w w':=by
 have hf:=h.le;have hg:=h'.le;refine QK.of_W func252 O ntmps252 results252 (by simp) ?_;refine Qc<|Qe<|Qf<|Qc<|Qb<|x (Qs h O)<|Qb<|x (Qs h' O)<|x (Q9 O O)<|xe<|Q7 rfl (λJ=>?_) (λJ=>?_)
 ·refine Qc<|Qe<|Qn ⟨[.bool false],Z,?_,Step.refl _ _⟩;have E:l≠l':=λe=>J (by rw[e]);simp[tup,E]
 have hh:l.length=l'.length:=by omega
 refine Qi<|Qf<|Qc<|Qe<|Qh<|QA (α:=Nat) [(4,5),(11,25)] (λk=>[(5,.int .i64 k)]) (λk w'=>Step [] w w'∧k≤l.length∧(l=l'↔l.drop k=l'.drop k)) (λk=>l.length - k) (by rfl) 0 Z ⟨Step.refl _ _,Ll _,by simp⟩ ?_;rintro k g S ⟨hs,hk,hm⟩
 replace h:=h.ext hs
 replace h':=h'.ext hs;refine Qf<|Qc<|Qb<|Qb<|x (Qs h O)<|x (QB O O)<|xe<|QG rfl (λY=>?_) (λY=>?_)
 ·refine Qz<|Qc<|Qe<|Qn ⟨[.bool true],Z,?_,hs⟩;rw[Lr (by omega),Lr (by omega)] at hm;simp[tup,hm]
 have G:k<l.length:=by omega
 have H:k<l'.length:=by omega
 refine Qi<|Qf<|Qh<|Qf<|QW (Step [] S) [(0,true),(1,true),(2,true),(3,true),(4,true),(5,true),(6,true),(7,true),(8,true)] mixed (by rfl) (by kernel_rfl) (Step.drew _ _) ?_;refine p (λ_=>Qp)<|p (λ_=>Qp)<|pii (i:=k) O h O O G λhj ha=>pq (λ_ hc=>Qw (ha.ext hc) O)<|p (λ_=>Qp)<|p (λ_=>Qp)<|pii (i:=k) O h' O O H λhl hb=>pq (λ_ hc=>Qw (hb.ext hc) O)<|p (λ_=>Q9 O O)<|pe ?_
 have V:=hs.trans (Step.drew [] S);refine Q7 rfl (λI=>?_) (λI=>?_)
 ·refine Qc<|Qe<|Qn ⟨[.bool false],Z,?_,V⟩;have E:l≠l':=λe=>I (by simp[e]);simp[tup,E]
 refine Qi<|Qy<|Qb<|QO O O<|Qe<|⟨k+1,by omega,Z,V,by omega,?_⟩;have he:l[k]'G=l'[k]'H:=Ls.1 I;rw[hm,QX G,QX H,he];exact ⟨λh=>(List.cons.inj h).2,λh=>by rw[h]⟩
theorem zQ {L L':LN}{w:World}{v v':Value}{l l':LI}(h:QL L w.heap v l) (h':QL L' w.heap v' l'):QK prog 41 [v,v'] w λr w'=>r=.bool (decide (l=l'))∧Step [] w w':=by
 have hf:=h.le;have hg:=h'.le;refine QK.of_W func41 O ntmps41 results41 (by simp) ?_;refine Qc<|Qe<|Qf<|Qc<|Qb<|x (Qs h O)<|Qb<|x (Qs h' O)<|x (Q9 O O)<|xe<|Q7 rfl (λJ=>?_) (λJ=>?_)
 ·refine Qc<|Qe<|Qn ⟨[.bool false],Z,?_,Step.refl _ _⟩;have E:l≠l':=λe=>J (by rw[e]);simp[tup,E]
 have hh:l.length=l'.length:=by omega
 refine Qi<|Qf<|Qc<|Qe<|Qh<|QA (α:=Nat) [(4,5),(11,25)] (λk=>[(5,.int .i64 k)]) (λk w'=>Step [] w w'∧k≤l.length∧(l=l'↔l.drop k=l'.drop k)) (λk=>l.length - k) (by rfl) 0 Z ⟨Step.refl _ _,Ll _,by simp⟩ ?_;rintro k g S ⟨hs,hk,hm⟩
 replace h:=h.ext hs
 replace h':=h'.ext hs;refine Qf<|Qc<|Qb<|Qb<|x (Qs h O)<|x (QB O O)<|xe<|QG rfl (λY=>?_) (λY=>?_)
 ·refine Qz<|Qc<|Qe<|Qn ⟨[.bool true],Z,?_,hs⟩;rw[Lr (by omega),Lr (by omega)] at hm;simp[tup,hm]
 have G:k<l.length:=by omega
 have H:k<l'.length:=by omega
 refine Qi<|Qf<|Qh<|Qf<|QW (Step [] S) [(0,true),(1,true),(2,true),(3,true),(4,true),(5,true),(6,true),(7,true),(8,true)] mixed (by rfl) (by kernel_rfl) (Step.drew _ _) ?_;refine p (λ_=>Qp)<|p (λ_=>Qp)<|pii (i:=k) O h O O G λhj ha=>pq (λ_ hc=>Qw (ha.ext hc) O)<|p (λ_=>Qp)<|p (λ_=>Qp)<|pii (i:=k) O h' O O H λhl hb=>pq (λ_ hc=>Qw (hb.ext hc) O)<|p (λ_=>Q9 O O)<|pe ?_
 have V:=hs.trans (Step.drew [] S);refine Q7 rfl (λI=>?_) (λI=>?_)
 ·refine Qc<|Qe<|Qn ⟨[.bool false],Z,?_,V⟩;have E:l≠l':=λe=>I (by simp[e]);simp[tup,E]
 refine Qi<|Qy<|Qb<|QO O O<|Qe<|⟨k+1,by omega,Z,V,by omega,?_⟩;have he:l[k]'G=l'[k]'H:=Ls.1 I;rw[hm,QX G,QX H,he];exact ⟨λh=>(List.cons.inj h).2,λh=>by rw[h]⟩
set_option maxHeartbeats 1000000 in
theorem Qh5 {L L':LN}{w:World}{va vm ve ua um ue:Value}{a:QN}(h:Zv L w.heap va vm ve a) (h':Zv L' w.heap ua um ue a):QK prog 251 [.agg #[va,.int .i64 a.st,vm,ve],.agg #[ua,.int .i64 a.st,um,ue]] w λr w'=>r=.bool true∧Step [] w w':=by
 have hy:=h.ed.le;refine QK.of_W func251 O ntmps251 results251 (by simp) ?_;refine Qc<|xl O<|QS (us:=[va,.int .i64 a.st,vm,ve]) O λb2 w1 hm hz hn=>xl O<|QS (us:=[ua,.int .i64 a.st,um,ue]) O λb3 w2 hb h0 H=>Qe ?_;have S:=hm.trans hb;have I:=hn.ext hb;have h2:=h.ext S;have V:=h'.ext S
 refine Qf<|QT (α:=Unit) [(6,35)] (λ_=>[(35,.bool false)]) (λ_ w'=>Step [] w2 w') (by rfl) ?_ ?_
 ·refine Qy<|x (Qa O)<|x (Qd I O O)<|x (Qa O)<|x (Qd H O O)<|xl O<|xf<|(Vh h2.al V.al).mono ?_;rintro r3 w3 ⟨he,E⟩;rw[decide_eq_true rfl] at he;subst he;refine x (Zm O)<|Qb<|x (Qa O)<|x (Qd (I.ext E) O O)<|x (Qa O)<|x (Qd (H.ext E) O O)<|xb (Q9 O O) (λhf=>absurd O hf) (λhf=>?_)
  refine x (Ql O)<|Qb<|x (Qa O)<|x (Qd (I.ext E) O O)<|x (Qa O)<|x (Qd (H.ext E) O O)<|xl O<|xf<|(Vh (h2.mr.ext E) (V.mr.ext E)).mono ?_;rintro r4 w4 ⟨hg,G⟩;rw[decide_eq_true rfl] at hg;subst hg;have J:=E.trans G
  refine x (Zm O)<|x (Ql O)<|Qb<|x (Qa O)<|x (Qd (I.ext J) O O)<|x (Qs (h2.ed.ext J) O)<|x (Qa O)<|x (Qd (H.ext J) O O)<|x (Qs (V.ed.ext J) O)<|xb (Q9 O O) (λhh=>absurd O hh) (λhh=>?_);refine x (Ql O)<|xe ?_;exact ⟨(),Z,J⟩
 rintro ⟨⟩ g w3 E;have Y:=S.trans E;have ho:=I.ext E;have hp:=H.ext E;have h3:=h.ext Y;have hq:=h'.ext Y;refine ZM rfl ?_;refine Qi<|Qf<|Qc<|Qe<|Qh<|QA (α:=Nat) [(4,5),(36,53)] (λk=>[(5,.int .i64 k)]) (λk w'=>Step [] w3 w'∧k≤a.ed.length) (λk=>a.ed.length - k) (by rfl) 0 Z ⟨Step.refl _ _,Ll _⟩ ?_;rintro k g w4 ⟨G,hk⟩;have h4:=h3.ed.ext G
 have hr:=hq.ed.ext G;have hj:=ho.ext G;have ht:=hp.ext G;refine Qf<|Qc<|Qb<|x (Qa O)<|x (Qd hj O O)<|x (Qs h4 O)<|x (QB O O)<|xe<|QG rfl (λhu=>?_) (λhu=>?_)
 ·refine Qz<|Qc<|Qe ?_;exact Qn ⟨[.bool true],Z,O,Y.trans G⟩
 have ha:k<a.ed.length:=by omega
 refine Qi<|Qf<|Qh<|Qf<|QW (Step [] w4) [(0,true),(1,true),(2,true),(3,true),(4,true),(5,true),(6,true),(7,true),(8,true),(9,true),(10,true)] mixed (by rfl) (by kernel_rfl) (Step.drew _ _) ?_;refine p (λ_=>Qa O)<|pq (λ_ hc=>Qd (hj.ext hc) O O)<|p (λ_=>Qp)<|pie (i:=k) O h4 O O ha λh1 hv=>pq (λ_ hc=>QI (hv.ext hc) O O)<|p (λ_=>Qa O)<|pq (λ_ hc=>Qd (ht.ext hc) O O)<|p (λ_=>Qp) <|
  pie (i:=k) O hr O O ha λh5 hw=>pq (λ_ hc=>QI (hw.ext hc) O O)<|p (λ_=>Vl O O)<|pe ?_
 refine Q7 rfl (λhl=>absurd O hl) (λhl=>?_);refine Qi<|Qy<|Qb<|QO O O<|Qe ?_;exact ⟨k+1,by omega,Z,G.trans (Step.drew _ _),ha⟩
end Go.Proofs.YtdffckgdcegpaaaGreatDoor
namespace Go.Lg
theorem yO {P:Program}{f:Fr}{w:World}{d:Option Nat}{ty:Nat}{ps:String}{af:Array Edge}{gd:Option (Nat×Bool)}{t E:Nat}[h:S3 P t] {x y:Operand}{p q:Ed}(hx:ev f x=.agg (Qx p).toArray) (hy:ev f y=.agg (Qx q).toArray) :
  (execOp (ev f) ⟨d,.binOp .eql t x y E,ty,ps,af,gd⟩).run P w=.ok (.value (.bool (decide (p=q)))) w:=by
 have G:(eqGuard .eql t x y (.agg (Qx p).toArray) (.agg (Qx q).toArray)).run P w=.ok () w:=by simp[eqGuard,h.g]
 simp only[execOp,hx,hy,Sem.run_bind,G,Result.andThen_ok,binOp,Vi,Sem.run_pure]
end Go.Lg
namespace Go.Proofs.YtdffckgdcegpaaaGreatDoor
open Go.Proofs.Tryz
open Go.Lg
def ex3:QN:=⟨[0,2],3,[2],[(0,0,2),(0,2,0),(2,2,0)]⟩
def cn3:QN:=⟨[0,2],2,[1],[(0,0,1),(0,2,0),(1,2,0)]⟩
def se3:List Ed:=[(0,1,0),(0,3,1),(1,1,0)]
theorem Qhm:JI ex3=0:=by kernel_rfl
theorem QjK:Yi ex3=cn3:=by kernel_rfl
theorem jy:JI cn3=0:=by kernel_rfl
theorem QjW:QiL cn3 0 [0,0]=0:=by kernel_rfl
theorem QjX:flw cn3 0 [0,0]=(1,1):=by kernel_rfl
theorem QjV:QeZ cn3 2 true=some [[0],[2,0]]:=by kernel_rfl
theorem Qk6:JI ⟨[1,3],2,[1],se3⟩=0:=by kernel_rfl
theorem Qk5:(Yi ⟨[1,3],2,[1],se3⟩).ed=se3:=by kernel_rfl
theorem QlZ:rlE cn3 [3,1]=[(0,3,1),(0,1,0),(1,1,0)]:=by kernel_rfl
theorem Qnz:([3,1]:LI).mergeSort (λx y=>decide (x≤y))=[1,3]:=by
 refine List.Perm.eq_of_pairwise (le:=λx y:Int=>x≤y) (λa b _ _ h1 h2=>by omega) ?_ (by decide) ((Nl _ _).trans (List.Perm.swap _ _ _));refine (List.pairwise_mergeSort (le:=λx y:Int=>decide (x≤y)) (λa b c h1 h2=>by simp at *;omega) (λa b=>by simp;omega) [3,1]).imp λh=>by simpa using h
theorem QkX (l':List Ed) (hp:l'.Perm (rlE cn3 [3,1])) (G:l'.Pairwise QaF):l'=se3:=by
 rw[QlZ] at hp;refine List.Perm.eq_of_pairwise (le:=QaF) (λa b ha hb h1 h2=>?_) G (by unfold se3 QaF;decide) (hp.trans (List.Perm.swap _ _ _));have E:=hp.mem_iff.1 ha;simp only[List.mem_cons,List.not_mem_nil,or_false] at E;simp only[se3,List.mem_cons,List.not_mem_nil,or_false] at hb;unfold QaF at h1 h2
 rcases E with rfl | rfl | rfl <;> rcases hb with rfl | rfl | rfl <;> first | rfl | (exfalso;simp only[] at h1 h2;omega)
set_option maxHeartbeats 1000000 in
theorem Qaz (w:World):QK prog 247 [] w λr w'=>Step [] w w'∧Y0 w.heap.size w'.heap r ex3:=by
 refine QK.of_W func247 O ntmps247 results247 (by simp) ?_;refine Qc<|xl O<|Qt (us:=JV) O λb0 w1 S hc V=>xe ?_;have he:=V.lt;refine Qc<|xl O<|QC (us:=[[.int .i64 0],[.int .i64 2]]) O O (by decide) (by simp) ⟨rfl,rfl,rfl,rfl,U⟩ λG w2 Y hl hf=>xl rfl<|QC (us:=[[.int .i64 2]]) rfl rfl (by decide) (by simp) ⟨rfl,rfl,U⟩ λH w3 I hm hg =>
  x (QD ⟨rfl,O,O,U⟩)<|x (QD ⟨O,O,O,U⟩)<|x (QD ⟨O,O,O,U⟩)<|xl O<|QC (us:=[Qx (0,0,2),Qx (0,2,0),Qx (2,2,0)]) O O (by decide) (by exact (by decide:3*3≤1000000)) ⟨O,O,O,O,O,O,U⟩ λJ w4 E hn hh=>?_
 have ha:=(Y.trans I).trans E;have hj:=S.size;have ho:=Y.size;have hp:=I.size;have hq:=E.size;have hF:Y0 w1.heap.size w4.heap (.agg #[.slice (some ⟨G,0,none⟩) 2 2,.int .i64 3,.slice (some ⟨H,0,none⟩) 1 1,.slice (some ⟨J,0,none⟩) 3 3]) ex3 :=
  yv (a:=ex3) ((hf.ext I).ext E) (hg.ext E) hh (by omega) (by omega) (by omega) O O O (by decide) (by decide) (by decide)
 refine x (QD ⟨O,O,O,O,U⟩)<|xl O<|Qo (us:=[.slice (some ⟨G,0,none⟩) 2 2,.int .i64 3,.slice (some ⟨H,0,none⟩) 1 1,.slice (some ⟨J,0,none⟩) 3 3]) (V.ext ha) O O O O ⟨O,O,O,O,U⟩ λw5 hb hk=>xe ?_
 refine Qn ⟨[.agg [.slice (some ⟨G,0,none⟩) 2 2,.int .i64 3,.slice (some ⟨H,0,none⟩) 1 1,.slice (some ⟨J,0,none⟩) 3 3].toArray],⟨⟨_,O,Qv O (hk.at (L:=[]) (by simp)).cells⟩,U⟩,(S.trans ha).then1 hb hc,?_⟩;exact (Xi hF he hb).mono hj
set_option maxHeartbeats 4000000 in
theorem Qen (w:World):QK prog 199 [] w λr w'=>r=.bool true∧Step [] w w':=by
 refine QK.of_W func199 O ntmps199 results199 (by simp) ?_;refine Qc<|Qe<|Qc<|xl O<|xf<|(Qaz w).mono ?_;rintro r1 w1 ⟨hH,va,vm,ve,rfl,hI⟩;refine xl rfl<|xf<|(jH (hI [] (by simp))).mono ?_;rintro r2 w2 ⟨hJ,v2,rfl,_,hK⟩;have hg:=hK Qhm;rw[QjK] at hg;obtain ⟨ca,cm,ce,rfl,hM⟩:=hg;have hC:=hM [] (by simp)
 refine Qb<|x (Qk O O)<|x (Qk O O)<|xl O<|Qt (us:=JV) O λb1 w3 hN hO hP=>xl O<|Qo (us:=[ca,.int .i64 2,cm,ce]) hP O O O O ⟨hC.al.one,O,hC.mr.one,hC.ed.one,U⟩ λw4 hQ J=>Qe ?_;have hh:Step [] w2 w4:=hN.then1 hQ hO;have S:=hC.ext hh;have hS:=(hH.trans hJ).trans hh
 refine Qc<|x (Qr J O O)<|xl O<|QC (us:=[[.int .i64 0],[.int .i64 0]]) O O (by decide) (by simp) ⟨rfl,rfl,rfl,rfl,U⟩ λg8 w5 hj g9 hT=>xl rfl<|xf<|(Qmi (u:=[0,0]) (S.ext hj) (hT.arr (L:=[]) (by simp) (n:=2) (cap:=2) (sz:=1) rfl (by omega) (Lt _)) 0).mono ?_;rintro r6 w6 ⟨hU,hk⟩;rw[if_neg (by rw[QjW];decide),QjX] at hk;subst hk
 refine Qb<|x (Qk O O)<|x (Qk O O)<|x (Qk O O)<|x Qg<|x Qg<|Qe ?_;have ha:=hj.trans hU;refine Qc<|x (Qr (J.ext ha) O O)<|xl O<|xf<|(QeM (S.ext ha) jy ((ZE _).1 jy) 2 (by decide) true).mono ?_;rintro r7 w7 ⟨hV,hm⟩;rw[QjV] at hm;have hW:∃I G H,r7=.tuple #[I,.int .i64 0]∧XX [] w7.heap I [G,H]∧G.2=[0]∧H.2=[2,0]:=by
  rcases hm with ⟨h,_⟩ | ⟨l,I,ps,hl,h2,h3,E⟩
  ·cases h
  cases hl
  match ps,h3,E with
  | [G,H],h3,E =>
   simp only[List.map_cons,List.map_nil,List.cons.injEq,and_true] at E;exact ⟨I,G,H,h2,h3,E.1,E.2⟩
  | [],_,E=>simp at E
  | [_],_,E=>simp at E
  | _::_::_::_,_,E=>simp at E
 obtain ⟨I,G,H,rfl,hX,hY,hZ⟩:=hW;refine Qb<|x (Qk O O)<|x (Qk O O)<|x Qg<|Qe ?_;have hb:=ha.trans hV;refine Qc<|x (Qr (J.ext hb) O O)<|xl O<|QC (us:=[[.int .i64 3],[.int .i64 1]]) O O (by decide) (by simp) ⟨rfl,rfl,rfl,rfl,U⟩ λka w8 hn kb ga =>
  xl rfl<|xf<|(Qcl (to:=[3,1]) ((S.ext hb).ext hn) jy ((ZE _).1 jy) (ga.arr (L:=[]) (by simp) (n:=2) (cap:=2) (sz:=1) rfl (by omega) (Lt _)) rfl (by decide) (by decide) Qnz QkX ((ZE _).1 Qk6)).mono ?_
 rintro r9 w9 ⟨gb,v9,rfl,gc⟩;obtain ⟨ra,rm,re,rfl,ge⟩:=gc;have V:=ge [] (by simp);have gg:zj [] w9.heap re se3:=by
  have h:=V.ed;rw[show (Yi ⟨[1,3],cn3.st,cn3.mr,se3⟩).ed=se3 from Qk5] at h;exact h
 refine Qb<|x (Qk O O)<|x (Qk O O)<|xl O<|Qt (us:=JV) O λb8 kc gh gi gj=>xl O<|Qo (us:=[ra,.int .i64 (Yi ⟨[1,3],cn3.st,cn3.mr,se3⟩).st,rm,re]) gj O O O O ⟨V.al.one,O,V.mr.one,V.ed.one,U⟩ λho gk gl=>Qe ?_;have hp:Step [] w9 ho:=gh.then1 gk gi;have hq:=(hn.trans gb).trans hp;have hc:=hb.trans hq;have gm:=S.ext hc;have gn:=J.ext hc
 have go:=hX.ext hq;have gp:=gg.ext hp;refine QT (α:=Unit) [(0,0),(33,98)] (λz=>[(0,.bool true)]) (λz w'=>Step [] ho w') (by rfl) ?_ ?_
 ·refine Qy<|Qb<|xb (Q4 O O) (λhr=>?_) (λhr=>absurd Qhm hr);refine Qb<|x (Qr gn O O)<|xl O<|QC (us:=[[.int .i64 0],[.int .i64 2]]) O O (by decide) (by simp) ⟨rfl,rfl,rfl,rfl,U⟩ λgq ke gr kf gs=>xl rfl<|QC (us:=[[.int .i64 1]]) rfl rfl (by decide) (by simp) ⟨rfl,rfl,U⟩ λgt kg ht kh gu =>
   x (QD ⟨O,O,O,U⟩)<|x (QD ⟨O,O,O,U⟩)<|x (QD ⟨O,O,O,U⟩)<|xl O<|QC (us:=[Qx (0,0,1),Qx (0,2,0),Qx (1,2,0)]) O O (by decide) (by exact (by decide:3*3≤1000000)) ⟨O,O,O,O,O,O,U⟩ λgv gw he ki gx=>?_
  have hu:=(gr.trans ht).trans he;have hL:Zv [] gw.heap (.slice (some ⟨gq,0,none⟩) 2 2) (.slice (some ⟨gt,0,none⟩) 1 1) (.slice (some ⟨gv,0,none⟩) 3 3) cn3 :=
   ⟨((gs.ext ht).ext he).arr (L:=[]) (by simp) (n:=2) (cap:=2) (sz:=1) rfl (by omega) (Nat.le_refl _),(gu.ext he).arr (L:=[]) (by simp) (n:=1) (cap:=1) (sz:=1) rfl (by omega) (Nat.le_refl _),gx.arr (L:=[]) (by simp) (n:=3) (cap:=3) (sz:=3) rfl (by omega) (Lt _)⟩
  refine x (QD ⟨O,O,O,O,U⟩)<|xl O<|xf<|(Qh5 (a:=cn3) (gm.ext hu) hL).mono ?_;rintro kj kk ⟨rfl,gy⟩;have hv:=hu.trans gy;have Y:=go.ext hv;refine x (Ql O)<|Qb<|Qb<|xb (Q4 O O) (λhw=>?_) (λhw=>absurd O hw);refine x (Ql O)<|Qb<|Qb<|xb (Q4 O O) (λhy=>?_) (λhy=>absurd O hy);refine x (Ql O)<|Qb<|Qb<|xb (Q4 O O) (λhz=>?_) (λhz=>absurd O hz)
  refine x (Ql O)<|Qb<|Qb<|xb (Q4 O O) (λh0=>?_) (λh0=>absurd O h0);refine x (Ql O)<|Qb<|Qb<|x (Qs Y.arr O)<|xb (Q4 O O) (λh1=>?_) (λh1=>absurd O h1);refine x (Ql O)<|Qb<|Qb<|xig (g:=Yc) (i:=0) KN Y.arr O O (by simp) λkn gz=>x (Qw gz rfl)<|xl rfl<|QC (us:=[[.int .i64 0]]) rfl rfl (by decide) (by simp) ⟨rfl,rfl,U⟩ λko kp h5 kq g0 =>
   xl rfl<|xf<|(Vh (l:=G.2) (l':=[0]) ((Y.each G (by simp)).ext h5) (g0.arr (L:=[]) (by simp) (n:=1) (cap:=1) (sz:=1) rfl (by omega) (Lt _))).mono ?_
  rintro kr kt ⟨h6,g2⟩;rw[hY,decide_eq_true rfl] at h6;subst h6;have h7:=h5.trans g2;have h8:=Y.ext h7;refine x (Ql O)<|Qb<|Qb<|xig (g:=Yc) (i:=1) KN h8.arr O O (by simp) λku g3=>x (Qw g3 rfl)<|xl rfl<|QC (us:=[[.int .i64 2],[.int .i64 0]]) rfl rfl (by decide) (by simp) ⟨rfl,rfl,rfl,rfl,U⟩ λkv kw h9 kx g4 =>
   xl rfl<|xf<|(Vh (l:=H.2) (l':=[2,0]) ((h8.each H (by simp)).ext h9) (g4.arr (L:=[]) (by simp) (n:=2) (cap:=2) (sz:=1) rfl (by omega) (Lt _))).mono ?_
  rintro ky kz ⟨hA,g5⟩;rw[hZ,decide_eq_true rfl] at hA;subst hA;have hf:=(hv.trans h7).trans (h9.trans g5);have hB:=gl.ext hf;have hD:=gp.ext hf;refine x (Ql O)<|Qb<|Qb<|xb (Q4 O O) (λhE=>?_) (λhE=>absurd O hE);refine x (Ql O)<|Qb<|x (Qa O)<|x (Qd hB O O)<|x (Qs hD O)<|xb (Q4 O O) (λhF=>?_) (λhF=>absurd O hF)
  refine x (Ql O)<|Qb<|x (Qa O)<|x (Qd hB O O)<|xie (i:=1) hD O O (by decide) λk0 g6=>x (QI g6 O O)<|x (QD ⟨O,O,O,U⟩)<|xb (yO (p:=(0,3,1)) (q:=(0,3,1)) O O) (λhG=>?_) (λhG=>absurd O hG);refine x (Ql O)<|Qe ?_;exact ⟨(),Z,hf⟩
 rintro z g k4 g7;exact Qn ⟨[.bool true],Z,O,(hS.trans hc).trans g7⟩
theorem QeS (w:World):QK prog 128 [] w λr w'=>r=.bool true∧Step [] w w':=by
 refine QK.of_W func128 O ntmps128 results128 (by simp) ?_;refine Qc<|Qe<|Qc<|xl O<|xf<|(Qen w).mono ?_;rintro G H ⟨rfl,E⟩;refine Qe ?_;exact Qn ⟨[.bool true],Z,O,E⟩
theorem CL.cel_rq {c:CL} {k:Q8} (h:c.cel=k) (v:Value) (qs:List IV):(CL.mk c.ve c.vc v c.vx c.vk c.ev c.co qs c.ex c.cs).cel={ k with rq:=qs.map IV.it }:=by rw[←h];rfl
theorem CL.cel_ex {c:CL} {k:Q8} (h:c.cel=k) (v:Value) (qs:List XV):(CL.mk c.ve c.vc c.vr v c.vk c.ev c.co c.rq qs c.cs).cel={ k with ex:=qs.map XV.x }:=by rw[←h];rfl
theorem CL.cel_cs {c:CL} {k:Q8} (h:c.cel=k) (v:Value) (qs:List KV):(CL.mk c.ve c.vc c.vr c.vx v c.ev c.co c.rq c.ex qs).cel={ k with cs:=qs.map KV.k }:=by rw[←h];rfl
theorem Qbr {w:World}{c:CL}{k:Q8}(h:ZF [] w.heap c) (hc:c.cel=k) (he:Yz k=0) (V:Kb w 4096) :
  QK prog 27 [c.val] w λr w'=>Step [] w w'∧∃va vm ve G H I E,r=.tuple #[.agg #[va,.int .i64 (spc k).a.st,vm,ve,G,H,I,E],.int .i64 0]∧ZQ [va,.int .i64 (spc k).a.st,vm,ve,G,H,I,E]∧Zs [] w'.heap E (spc k).fb.length 4 ((spc k).fb.flatMap Zy):=by
 refine (JN h V).mono ?_;rintro r w' ⟨hs,v,rfl,⟨us,Y,_,J⟩,S⟩;rw[hc] at S ⊢;obtain ⟨va,vm,ve,G,H,I,E,cos,rqs,rfl,_,_,hA⟩:=S he;have ha:us=[va,.int .i64 (spc k).a.st,vm,ve,G,H,I,E]:=by
  have h9:=congrArg (λv=>match v with | Value.agg cs=>cs.toList | _=>[]) Y
  simpa using h9.symm
 rw[ha] at J;exact ⟨hs,va,vm,ve,G,H,I,E,by rw[he],J,(hA [] (by simp)).2.2.2.2⟩
theorem Ql0 {w:World}{c:CL}{k:Q8}(h:ZF [] w.heap c) (hc:c.cel=k) (he:Yz k=0) (E:(spc k).a.st<4096) (h1:QdF k=true) (G:Kb w 4096) :
  QK prog 197 [c.val] w λr w'=>Step [] w w'∧∃xa xm xe vb,r=.tuple #[.agg #[xa,.int .i64 ((spc k).a.st+1),xm,xe],vb,.int .i64 0]∧ZQ [xa,xm,xe]∧Qu 3 w.heap.size w' vb (cmB k):=by
 subst hc;exact Qa9 h G he E h1
abbrev Qlk:LV:=[nS,.int .i64 0,nS,nS,nS,nS,nS,nS]
theorem Qmf {P:Prop}{a b:Int}(e:a=b) (h:¬a=b):P:=absurd e h
set_option maxHeartbeats 8000000 in
theorem QbT {w:World}(hk:Kb w 4096):QK prog 127 [] w λr w'=>r=.bool true∧Step [] w w':=by
 refine QK.of_W func127 O ntmps127 results127 (by simp) ?_;refine Qc<|Qe<|Qc<|xl O<|xf<|(Ja 1 (by decide) w).mono ?_;rintro r1 w1 ⟨hO,I,rfl,g2,g3⟩;refine xl rfl<|xf<|(Ja 2 (by decide) w1).mono ?_;rintro r2 w2 ⟨h7,J,rfl,g4,g5⟩;refine xl rfl<|xf<|(Ja 2 (by decide) w2).mono ?_;rintro r3 w3 ⟨hl,c3,rfl,g6,g7⟩;have hn:=((g3 [] (by simp)).ext h7).ext hl
 have ho:=(g5 [] (by simp)).ext hl;have hp:=g7 [] (by simp);refine xl rfl<|Qt (us:=Yq) O λE w4 hP qc hQ=>xl O<|Qt (us:=Yq) O λG w5 h8 qf hR=>xl O<|Qt (us:=Yq) O λH w6 hr ql S=>?_;have qo:=hP.size;have qr:=h8.size;have q0:=hr.size;have q1:=hQ.lt;have q2:=hR.lt;have q3:=S.lt
 refine xl rfl<|Qo (us:=I.cells) ((hQ.ext h8).ext hr) O O O O hn.ones λw7 ht g8=>xl O<|Qo (us:=J.cells) ((hR.ext hr).step ht (by simp only[List.mem_singleton];omega)) O O O O ho.ones λw8 hu g9 =>
  xl rfl<|Qo (us:=c3.cells) ((S.step ht (by simp only[List.mem_singleton];omega)).step hu (by simp only[List.mem_singleton];omega)) O O O O hp.ones λw9 hv ka=>xe ?_
 have hc:Step [] w3 w9:=((((hP.trans h8).trans hr).then1 ht (by omega)).then1 hu (by omega)).then1 hv (by omega);have kb:=((hO.trans h7).trans hl).trans hc;have kc:=(g8.step hu (by simp only[List.mem_singleton];omega)).step hv (by simp only[List.mem_singleton];omega);have ke:=g9.step hv (by simp only[List.mem_singleton];omega)
 have S:∀b∈[E,G,H],w3.heap.size≤b∧b<w6.heap.size:=λb hb=>by
  simp only[List.mem_cons,List.not_mem_nil,or_false] at hb;rcases hb with rfl | rfl | rfl <;> omega
 have m1:∀b∈[E],b∈[E,G,H]:=by simp
 have m2:∀b∈[G],b∈[E,G,H]:=by simp
 have m3:∀b∈[H],b∈[E,G,H]:=by simp
 have hn:=(hn.up (L':=[E,G,H]) (λb hb=>.inr (S b hb).1)).ext hc;have ho:=(ho.up (L':=[E,G,H]) (λb hb=>.inr (S b hb).1)).ext hc;have hp:=(hp.up (L':=[E,G,H]) (λb hb=>.inr (S b hb).1)).ext hc;have q4:=hc.size;have q5:w6.heap.size≤w9.heap.size:=by have:=ht.size;have:=hu.size;have:=hv.size;omega
 have nB:∀b,w9.heap.size≤b→b∉[E,G,H]:=λb hb hm=>by have:=(S b hm).2;omega
 refine Qc<|xl O<|QC (us:=[[.int .i64 1]]) O O (by decide) (by simp) ⟨rfl,rfl,U⟩ λhw za hS zv kf=>xl rfl<|QC (us:=[[.int .i64 0]]) rfl rfl (by decide) (by simp) ⟨rfl,rfl,U⟩ λhy z0 hA z1 kg=>x (QD ⟨rfl,rfl,rfl,U⟩) <|
  x (ZY [(0,[.string Vp]),(1,[.slice (some ⟨hw,0,none⟩) 1 1,.int .i64 1,.slice (some ⟨hy,0,none⟩) 1 1,nS])] ⟨O,O,O,O,U⟩) <|
  xl rfl<|QC (us:=[[.string Vp,.slice (some ⟨hw,0,none⟩) 1 1,.int .i64 1,.slice (some ⟨hy,0,none⟩) 1 1,nS]]) O O (by decide) (by exact (by decide:1*5≤1000000)) ⟨O,O,U⟩ λhB kh hz z2 ki=>?_
 have he:=(hS.trans hA).trans hz;refine x (Qa O)<|xl O<|QF (j:=2) (u:=.slice (some ⟨hB,0,none⟩) 1 1) (kc.ext he) O O (by simp) rfl λhC hf kj=>xe ?_;have z3:=hS.size;have z4:=hA.size;have z5:=hz.size;have z9:=he.size;have hg:Step [E,G,H] w9 hC:=he.any.trans' (hf.mono m1);have hz13:=hf.size
 have kk:ZF [E,G,H] hC.heap (CL.mk I.ve I.vc (.slice (some ⟨hB,0,none⟩) 1 1) I.vx I.vk I.ev I.co [⟨Vp,⟨.slice (some ⟨hw,0,none⟩) 1 1,.slice (some ⟨hy,0,none⟩) 1 1,nS,jl.a⟩⟩] I.ex I.cs):=by
  have h9:=hn.st hg;refine ⟨h9.ev,h9.co,Xm.st (w:=kh) ⟨ki.arr (nB _ (by omega)) (n:=1) (cap:=1) (sz:=5) O (by decide) (Lt _),λq hq=>?_,λq hq=>?_⟩ (hf.mono m1),h9.ex,h9.cs⟩
  ·rw[La.1 hq];exact ⟨((kf.ext hA).ext hz).arr (nB _ (by omega)) (n:=1) (cap:=1) (sz:=1) O (by decide) (Lt _),(kg.ext hz).arr (nB _ (by omega)) (n:=1) (cap:=1) (sz:=1) O (by decide) (Lt _),Zs.nil _ _ 3⟩
  rw[La.1 hq];exact Y3 (by decide)
 refine Qc<|x (QD ⟨O,O,U⟩)<|x (QD ⟨O,O,U⟩)<|xl O<|QC (us:=[QQ (0,1),QQ (1,1)]) O O (by decide) (by exact (by decide:2*2≤1000000)) ⟨O,O,O,O,U⟩ λhD w14 hT hb24 kn=>x (QD ⟨O,O,U⟩) <|
  xl rfl<|QC (us:=[[.string J7,.slice (some ⟨hD,0,none⟩) 2 2]]) O O (by decide) (by exact (by decide:1*2≤1000000)) ⟨O,O,U⟩ λhE ko hF hb26 kp=>?_
 have hh:=hT.trans hF;refine x (Qa O)<|xl O<|QF (j:=3) (u:=.slice (some ⟨hE,0,none⟩) 1 1) ((ke.step (he.any.trans' hf) (by simp only[List.mem_singleton];omega)).ext hh) O O (by simp) rfl λhG h0 kq=>xe ?_;have hz14:=hT.size;have hz15:=hF.size;have hz1315:=hh.size;have hj:Step [E,G,H] hC hG:=hh.any.trans' (h0.mono m2);have hz16:=hj.size
 have hz913:=hg.size;have kr:ZF [E,G,H] hG.heap (CL.mk J.ve J.vc J.vr (.slice (some ⟨hE,0,none⟩) 1 1) J.vk J.ev J.co J.rq [⟨J7,.slice (some ⟨hD,0,none⟩) 2 2,[(0,1),(1,1)]⟩] J.cs):=by
  have h9:=ho.st (hg.trans' hj);refine ⟨h9.ev,h9.co,h9.rq,zm.st (w:=ko) ⟨kp.arr (nB _ (by omega)) (n:=1) (cap:=1) (sz:=2) O (by decide) (Lt _),λq hq=>?_,λq hq=>?_⟩ (h0.mono m2),h9.cs⟩
  ·rw[La.1 hq];exact (kn.ext hF).arr (nB _ (by omega)) (n:=2) (cap:=2) (sz:=2) O (by decide) (Lt _)
  rw[La.1 hq];exact Y3 (by decide)
 refine Qc<|x (QD ⟨O,O,U⟩)<|x (QD ⟨O,O,U⟩)<|xl O<|QC (us:=[QQ (0,1),QQ (1,1)]) O O (by decide) (by exact (by decide:2*2≤1000000)) ⟨O,O,O,O,U⟩ λhH w17 hU hb30 kt=>x (QD ⟨O,O,O,U⟩) <|
  xl rfl<|QC (us:=[[.string y0,.slice (some ⟨hH,0,none⟩) 2 2,.int .i64 1]]) O O (by decide) (by exact (by decide:1*3≤1000000)) ⟨O,O,U⟩ λhI ku hJ hb32 kv=>?_
 have h1:=hU.trans hJ;refine x (Qa O)<|xl O<|QF (j:=4) (u:=.slice (some ⟨hI,0,none⟩) 1 1) (((ka.step (he.any.trans' hf) (by simp only[List.mem_singleton];omega)).step (hh.any.trans' h0) (by simp only[List.mem_singleton];omega)).ext h1) O O (by simp) rfl λY h2 kw=>xe ?_;have hz17:=hU.size;have hz18:=hJ.size
 have h3:Step [E,G,H] hG Y:=h1.any.trans' (h2.mono m3);have kx:ZF [E,G,H] Y.heap (CL.mk c3.ve c3.vc c3.vr c3.vx (.slice (some ⟨hI,0,none⟩) 1 1) c3.ev c3.co c3.rq c3.ex [⟨y0,.slice (some ⟨hH,0,none⟩) 2 2,[(0,1),(1,1)],1⟩]):=by
  have h9:=hp.st ((hg.trans' hj).trans' h3);refine ⟨h9.ev,h9.co,h9.rq,h9.ex,zg.st (w:=ku) ⟨kv.arr (nB _ (by omega)) (n:=1) (cap:=1) (sz:=3) O (by decide) (Lt _),λq hq=>?_,λq hq=>?_⟩ (h2.mono m3)⟩
  ·rw[La.1 hq];exact (kt.ext hJ).arr (nB _ (by omega)) (n:=2) (cap:=2) (sz:=2) O (by decide) (Lt _)
  rw[La.1 hq];exact Y3 (by decide)
 have hV:ZF [] Y.heap _:=((kk.st hj).st h3).up (L':=[]) (by simp);have ky:ZF [] Y.heap _:=(kr.st h3).up (L':=[]) (by simp);have kz:ZF [] Y.heap _:=kx.up (L':=[]) (by simp);have hW:=(kj.step (hh.any.trans' h0) (by simp only[List.mem_singleton];omega)).step (h1.any.trans' h2) (by simp only[List.mem_singleton];omega)
 have k0:=kq.step (h1.any.trans' h2) (by simp only[List.mem_singleton];omega);have hX:Step [] w Y:=kb.then ((hg.trans' hj).trans' h3) (λb hb=>.inr (by have:=(S b hb).1;have:=((hO.trans h7).trans hl).size;omega));have hY:=CL.cel_rq g2 (.slice (some ⟨hB,0,none⟩) 1 1) [⟨Vp,⟨.slice (some ⟨hw,0,none⟩) 1 1,.slice (some ⟨hy,0,none⟩) 1 1,nS,jl.a⟩⟩]
 have k4:=CL.cel_ex g4 (.slice (some ⟨hE,0,none⟩) 1 1) [⟨J7,.slice (some ⟨hD,0,none⟩) 2 2,[(0,1),(1,1)]⟩];have k5:=CL.cel_cs g6 (.slice (some ⟨hI,0,none⟩) 1 1) [⟨y0,.slice (some ⟨hH,0,none⟩) 2 2,[(0,1),(1,1)],1⟩];refine Qc<|x (Qr hW O O)<|xl O<|xf<|(Qbr (k:=k1C) hV hY QmU (hk.ext hX)).mono ?_;rintro r20 k6 ⟨k7,sa,sm,se,s1,s2,s3,s4,rfl,k8,hZ⟩;rw[QmT] at hZ
 refine Qb<|x (Qk O O)<|x (Qk O O)<|xl O<|Qt (us:=Qlk) O λb4 w21 k9 ma mc=>xl O<|Qo (us:=[sa,.int .i64 (spc k1C).a.st,sm,se,s1,s2,s3,s4]) mc O O O O k8 λmf mg mh=>Qe ?_;have ga:Step [] k6 mf:=k9.then1 mg ma;have h4:=k7.trans ga;have gb:=hX.trans h4
 refine Qc<|x (Qr (hW.ext h4) O O)<|xl O<|xf<|(Ql0 (k:=k1C) (hV.ext h4) hY QmU (by rw[Qkt];decide) Qlu (hk.ext gb)).mono ?_;rintro r23 gc ⟨mj,xa,xm,mo,vb,rfl,hK,ge⟩;rw[Qlv] at ge;have mq:QL [] gc.heap vb [2]:=Qu.ints (L:=[]) ge (by simp) (by simp)
 refine Qb<|x (Qk O O)<|x (Qk O O)<|x (Qk O O)<|xl O<|Qt (us:=JV) O λb6 w24 ms mt mu=>xl O<|Qo (us:=[xa,.int .i64 ((spc k1C).a.st+1),xm,mo]) mu O O O O ⟨hK.1,O,hK.2.1,hK.2.2.1,U⟩ λmv mw my=>x Qg<|Qe ?_;have gg:Step [] gc mv:=ms.then1 mw mt;have h5:=mj.trans gg;have hL:=h4.trans h5;have gh:=gb.trans h5
 refine Qc<|x (Qr (k0.ext hL) O O)<|xl O<|xf<|(Qbr (k:=k2C) (ky.ext hL) k4 QnN (hk.ext gh)).mono ?_;rintro r26 mz ⟨m0,ta,tm,te,t1,t2,t3,t4,rfl,m4,gi⟩;rw[QmR] at gi;refine Qb<|x (Qk O O)<|x (Qk O O)<|xl O<|Qt (us:=Qlk) O λb9 w27 m5 m6 m7=>xl O<|Qo (us:=[ta,.int .i64 (spc k2C).a.st,tm,te,t1,t2,t3,t4]) m7 O O O O m4 λm8 m9 pa=>Qe ?_
 have gj:Step [] mz m8:=m5.then1 m9 m6;have ha:=m0.trans gj;have gk:=hL.trans ha;have gl:=gh.trans ha;refine Qc<|x (Qr (kw.ext gk) O O)<|xl O<|xf<|(Qbr (k:=k3C) (kz.ext gk) k5 QnM (hk.ext gl)).mono ?_;rintro r29 pc ⟨pd,ua,um,ue,u1,u2,u3,u4,rfl,pf,gm⟩;rw[QmP] at gm
 refine Qb<|x (Qk O O)<|x (Qk O O)<|xl O<|Qt (us:=Qlk) O λb11 w30 pg ph pj=>xl O<|Qo (us:=[ua,.int .i64 (spc k3C).a.st,um,ue,u1,u2,u3,u4]) pj O O O O pf λgn pm pn=>Qe ?_;have go:Step [] pc gn:=pg.then1 pm ph;have V:=pd.trans go;have po:=gl.trans V;have pp:=((mh.ext h5).ext ha).ext V;have pt:=(my.ext ha).ext V
 have gp:=pa.ext V;have pu:=((((hZ.ext ga).ext h5).ext ha).ext V);have pw:=(gi.ext gj).ext V;have pz:=gm.ext go;have p0:=((mq.ext gg).ext ha).ext V;refine QT (α:=Unit) [(0,0),(55,105)] (λz=>[(0,.bool true)]) (λz w'=>Step [] gn w') (by rfl) ?_ ?_
 ·refine Qy<|Qb<|xb (Q4 O O) (λgq=>?_) (λgq=>absurd O gq);refine Qb<|Qb<|xb (Q4 O O) (λgr=>?_) (λgr=>absurd O gr);refine x (Ql O)<|Qb<|Qb<|xb (Q4 O O) (λgs=>?_) (λgs=>absurd O gs);refine x (Ql O)<|Qb<|Qb<|xb (Q4 O O) (λgt=>?_) (λgt=>absurd O gt)
  refine x (Ql O)<|Qb<|x (Qa O)<|x (Qd pp O O)<|x (QD ⟨O,O,O,O,U⟩)<|xl O<|QC (us:=[Zy ⟨1,3,0,1⟩]) O O (by decide) (by exact (by decide:1*4≤1000000)) ⟨O,O,U⟩ λb73 w32 gu hb73 p1 =>
   xl rfl<|xf<|(V7 (l:=[⟨1,3,0,1⟩]) (pu.ext gu) (p1.arr (L:=[]) (by simp) (n:=1) (cap:=1) (sz:=4) rfl (by decide) (Lt _))).mono ?_
  rintro r74 w33 ⟨rfl,p2⟩;have hM:=gu.trans p2;refine x (Ql O)<|Qb<|x (Qa O)<|x (Qd (pt.ext hM) O O)<|xb (Q4 O O) (λgv=>?_) (λgv=>Qmf (by rw[Qkt];rfl) gv);refine x (Ql O)<|Qb<|Qb<|xl O<|QC (us:=[[.int .i64 2]]) O O (by decide) (by simp) ⟨rfl,rfl,U⟩ λb83 w34 gw hb83 p3 =>
   xl rfl<|xf<|(Ky (l:=[2]) (l':=[2]) ((p0.ext hM).ext gw) (p3.arr (L:=[]) (by simp) (n:=1) (cap:=1) (sz:=1) rfl (by omega) (Lt _))).mono ?_
  rintro r84 w35 ⟨gx,p4⟩;rw[decide_eq_true rfl] at gx;subst gx;have h6:=hM.trans (gw.trans p4);refine x (Ql O)<|Qb<|x (Qa O)<|x (Qa O)<|x (Qd (gp.ext h6) O O)<|xb (Q4 O O) (λgy=>?_) (λgy=>Qmf QmQ gy)
  refine x (Ql O)<|Qb<|x (Qa O)<|x (Qd (gp.ext h6) O O)<|x (QD ⟨O,O,O,O,U⟩)<|xl O<|QC (us:=[Zy ⟨3,1,0,-1⟩]) O O (by decide) (by exact (by decide:1*4≤1000000)) ⟨O,O,U⟩ λb96 w36 gz hb96 p5 =>
   xl rfl<|xf<|(V7 (l:=[⟨3,1,0,-1⟩]) ((pw.ext h6).ext gz) (p5.arr (L:=[]) (by simp) (n:=1) (cap:=1) (sz:=4) rfl (by decide) (Lt _))).mono ?_
  rintro r97 w37 ⟨rfl,p6⟩;have hN:=h6.trans (gz.trans p6);refine x (Ql O)<|Qb<|x (Qa O)<|x (Qd (pn.ext hN) O O)<|x (QD ⟨O,O,O,O,U⟩)<|xl O<|QC (us:=[Zy ⟨3,2,0,-1⟩]) O O (by decide) (by exact (by decide:1*4≤1000000)) ⟨O,O,U⟩ λb103 w38 g0 hb103 p7 =>
   xl rfl<|xf<|(V7 (l:=[⟨3,2,0,-1⟩]) ((pz.ext hN).ext g0) (p7.arr (L:=[]) (by simp) (n:=1) (cap:=1) (sz:=4) rfl (by decide) (Lt _))).mono ?_
  rintro r104 w39 ⟨rfl,p8⟩;refine x (Ql O)<|Qe ?_;exact ⟨(),Z,hN.trans (g0.trans p8)⟩
 rintro z g w40 p9;exact Qn ⟨[.bool true],Z,O,po.trans p9⟩
end Go.Proofs.YtdffckgdcegpaaaGreatDoor
namespace Go.Proofs
open Go.Proofs.Tryz
open Go.Shelf
def Tryz.sortRm_ren:Go.Shelf.Ren:=⟨λ| 6=>215 | 15=>176 | 14=>266 | 28=>229 | 29=>230 | 20=>288 | 21=>289 | 22=>290 | 23=>291 | 24=>292 | 25=>293 | 26=>294 | 27=>295 | 46=>313 | 47=>268 | 48=>269 | 49=>314 | 50=>315 | 57=>322 | n=>n,λ| 22=>166 | 24=>320 | 25=>326 | 3=>3 | 39=>269 | 0=>0 | 53=>338 | 55=>340 | 4=>4 | 46=>332 | 45=>331 | 50=>178 | 5=>5 | 9=>9 | 66=>372 | 70=>376 | 76=>401 | 77=>381 | n=>n,λ| n=>n⟩
theorem Tryz.sortRm:Go.Proofs.SlLaysF0.n6 prog Tryz.sortRm_ren:={
 mixed:=by kernel_rfl
 f6:=⟨Tryz.f215.name,by decide,func215.trans (congrArg some (by kernel_rfl))⟩
 f14:=⟨Tryz.f266.name,by decide,func266.trans (congrArg some (by kernel_rfl))⟩
 f15:=func176.trans (congrArg some (by kernel_rfl))
 f20:=⟨Tryz.f288.name,by decide,func288.trans (congrArg some (by kernel_rfl))⟩
 f21:=⟨Tryz.f289.name,by decide,func289.trans (congrArg some (by kernel_rfl))⟩
 f22:=⟨Tryz.f290.name,by decide,func290.trans (congrArg some (by kernel_rfl))⟩
 f23:=⟨Tryz.f291.name,by decide,func291.trans (congrArg some (by kernel_rfl))⟩
 f24:=⟨Tryz.f292.name,by decide,func292.trans (congrArg some (by kernel_rfl))⟩
 f25:=⟨Tryz.f293.name,by decide,func293.trans (congrArg some (by kernel_rfl))⟩
 f26:=⟨Tryz.f294.name,by decide,func294.trans (congrArg some (by kernel_rfl))⟩
 f27:=⟨Tryz.f295.name,by decide,func295.trans (congrArg some (by kernel_rfl))⟩
 f28:=func229.trans (congrArg some (by kernel_rfl))
 f29:=func230.trans (congrArg some (by kernel_rfl))
 f46:=⟨Tryz.f313.name,by decide,func313.trans (congrArg some (by kernel_rfl))⟩
 f47:=func268.trans (congrArg some (by kernel_rfl))
 f48:=func269.trans (congrArg some (by kernel_rfl))
 f49:=⟨Tryz.f314.name,by decide,func314.trans (congrArg some (by kernel_rfl))⟩
 f50:=⟨Tryz.f315.name,by decide,func315.trans (congrArg some (by kernel_rfl))⟩
 f57:=⟨Tryz.f322.name,by decide,func322.trans (congrArg some (by kernel_rfl))⟩
 t0:=underlying0
 a0:=Tryz.isAgg0
 z0:=Tryz.sizeOf0
 v0:=Tryz.zeroValue0
 t3:=underlying3
 a3:=Tryz.isAgg3
 z3:=Tryz.sizeOf3
 v3:=Tryz.zeroValue3
 t4:=underlying4
 a4:=Tryz.isAgg4
 z4:=Tryz.sizeOf4
 v4:=Tryz.zeroValue4
 t5:=underlying5
 a5:=Tryz.isAgg5
 z5:=Tryz.sizeOf5
 v5:=Tryz.zeroValue5
 t9:=underlying9
 a9:=Tryz.isAgg9
 z9:=Tryz.sizeOf9
 v9:=Tryz.zeroValue9
 t22:=underlying166
 a22:=Tryz.isAgg166
 z22:=Tryz.sizeOf166
 v22:=Tryz.zeroValue166
 t25:=underlying326
 a25:=Tryz.isAgg326
 z25:=Tryz.sizeOf326
 v25:=Tryz.zeroValue326
 t39:=underlying269
 a39:=Tryz.isAgg269
 z39:=Tryz.sizeOf269
 v39:=Tryz.zeroValue269
 t45:=underlying331
 a45:=Tryz.isAgg331
 z45:=Tryz.sizeOf331
 v45:=Tryz.zeroValue331
 t46:=underlying332
 a46:=Tryz.isAgg332
 z46:=Tryz.sizeOf332
 v46:=Tryz.zeroValue332
 t50:=underlying178
 a50:=Tryz.isAgg178
 z50:=Tryz.sizeOf178
 v50:=Tryz.zeroValue178
 t53:=underlying338
 a53:=Tryz.isAgg338
 z53:=Tryz.sizeOf338
 v53:=Tryz.zeroValue338
 t55:=underlying340
 a55:=Tryz.isAgg340
 z55:=Tryz.sizeOf340
 v55:=Tryz.zeroValue340
 t66:=underlying372
 a66:=Tryz.isAgg372
 z66:=Tryz.sizeOf372
 v66:=Tryz.zeroValue372
 t70:=underlying376
 a70:=Tryz.isAgg376
 z70:=Tryz.sizeOf376
 v70:=Tryz.zeroValue376
 t76:=underlying401
 a76:=Tryz.isAgg401
 z76:=Tryz.sizeOf401
 v76:=Tryz.zeroValue401
 t77:=underlying381
 a77:=Tryz.isAgg381
 z77:=Tryz.sizeOf381
 v77:=Tryz.zeroValue381 }
end Go.Proofs
namespace Go.Proofs.YtdffckgdcegpaaaGreatDoor
open Go.Lg
theorem QlR (lf:Lf) (x:Int) (z:LI×LI) (y:Int):dsE lf x z y=if lft lf y=true then bwE x z y else z:=by
 unfold dsE bwE;by_cases h:lft lf y=true <;> by_cases h2:cget z.1 y.toNat<0 <;> simp[h,h2]
structure DsI (n:Nat) (z:LI×LI):Prop where
 ok:Qih n z.1 z.2
 cnt:neg z.1+z.2.length=n
 s0:Qmh z.1 z.2
theorem DsI.le {n:Nat}{z:LI×LI}(h:DsI n z):z.2.length≤n:=by have:=h.cnt;omega
theorem Qhu {n:Nat}{lf:Lf}{x y:Int}{z:LI×LI}(h:DsI n z) (hx:0≤x∧x<(n:Int)) (E:0≤cget z.1 x.toNat) (hy:0≤y∧y<(n:Int)) :
  DsI n (dsE lf x z y)∧0≤cget (dsE lf x z y).1 x.toNat:=by
 rw[QlR];split
 ·obtain ⟨h1,h2,h3⟩:=Ql9 h.ok hx E hy;exact ⟨⟨h1,by have:=h.cnt;omega,QhU h.ok E hy h.s0⟩,h3⟩
 exact ⟨h,E⟩
theorem QjO (lf:Lf) (x:Int) (z:LI×LI) (y:Int):∃r,(dsE lf x z y).2=z.2++r:=by
 unfold dsE;split
 ·exact ⟨[y],O⟩
 exact ⟨[],by simp⟩
theorem QjN {n:Nat}{lf:Lf}{x:Int}(hx:0≤x∧x<(n:Int)):∀(l:LI) (z:LI×LI),DsI n z→0≤cget z.1 x.toNat→(∀y∈l,0≤y∧y<(n:Int)) →
  DsI n (l.foldl (dsE lf x) z)∧∃r,(l.foldl (dsE lf x) z).2=z.2++r
 | [],z,h,_,_=>⟨h,[],by simp⟩
 | y::l,z,h,E,hl=>by
  obtain ⟨h1,h2⟩:=Qhu (lf:=lf) h hx E (hl y Lm);obtain ⟨h3,r2,G⟩:=QjN hx l _ h1 h2 (λy hy=>hl y (Lk _ hy));obtain ⟨H,h5⟩:=QjO lf x z y;exact ⟨h3,H++r2,by rw[LM,G,h5,LC]⟩
theorem Qht {E:List Ed}{lf:Lf}{f i:Nat}{z:LI×LI}(h:¬i<z.2.length):dsL E lf f i z=z:=by
 cases f with
 | zero=>rfl
 | succ f=>rw[dsL,if_neg h]
theorem QdM {n:Nat}{l:LI}{x:Int}(E:0≤x):(UE n l).set x.toNat 0=UE n (l++[x]):=by
 apply L5
 ·simp[UE]
 intro i h2 h3;rw[Np];by_cases e:x.toNat=i
 ·have:(i:Int)=x:=by omega
  rw[if_pos e];simp[UE,this]
 have:(i:Int)≠x:=by omega
 rw[if_neg e];simp[UE,this]
theorem QaH {a:QN}{lf:Lf}(hm:∀x∈a.mr,0≤x) (k:Nat):(a.mr.take k).foldl (jJ lf) (List.replicate a.st.toNat (-1),[])=(UE a.st.toNat ((a.mr.take k).filter (lft lf)),(a.mr.take k).filter (lft lf)):=by
 induction k with
 | zero =>
  simp only[List.take_zero,List.foldl_nil,List.filter_nil];congr 1;apply L5
  ·simp[UE]
  intro i h1 h2;simp[UE]
 | succ k ih =>
  by_cases hk:k<a.mr.length
  ·rw[Li hk,Mx,ih,L7];simp only[List.foldl_cons,List.foldl_nil,jJ];by_cases hl:lft lf (a.mr[k]'hk)=true
   ·rw[if_pos hl,QdM (hm _ (Lc hk))];simp[hl]
   rw[if_neg hl];simp[hl]
  have e:a.mr.take (k+1)=a.mr.take k:=by rw[Lo (by omega),Lo (by omega)]
  rw[e];exact ih
theorem QlT {a:QN}{lf:Lf}(hm:∀x∈a.mr,0≤x):ds0 a lf=(UE a.st.toNat (a.mr.filter (lft lf)),a.mr.filter (lft lf)):=by
 have:=QaH (lf:=lf) hm a.mr.length;rw[M0] at this;exact this
theorem Qi5 {n:Nat}(l:LI) (E:l.Nodup) (hb:∀x∈l,0≤x∧x<(n:Int)):neg (UE n l)+l.length=n:=by
 have key:∀k,k≤l.length→neg (UE n (l.take k))+k=n:=by
  intro k;induction k with
  | zero =>
   intro _;have e:UE n (l.take 0)=List.replicate n (-1):=by
    apply L5
    ·simp[UE]
    intro i h1 h2;simp[UE]
   rw[e];unfold neg;simp
  | succ k ih =>
   intro hk;have h1:=ih (by omega);have hx:=hb _ (Lc (show k<l.length by omega));rw[Li (show k<l.length by omega),←QdM hx.1];have G:(l[k]'(by omega)).toNat<(UE n (l.take k)).length:=by rw[VP];omega
   have S:=Vq (UE n (l.take k)) (l[k]'(by omega)).toNat 0 G (by
    have e:(((l[k]'(by omega)).toNat:Nat):Int)=l[k]'(by omega):=by omega
    have H:(l[k]'(by omega))∉l.take k:=λh=>by
     obtain ⟨j,I,he⟩:=LD h;rw[M6] at he;have J:j<k:=by simp at I;omega
     have:=(Mu.1 E) j k (by omega) (by omega) J;exact this he
    simp[UE,e,H]) (M5 _)
   omega
 have:=key l.length (Lt _)
 rwa [M0] at this
theorem QlS {a:QN}{lf:Lf}{n:Nat}(E:Q2 a) (G:a.st=(n:Int)):DsI n (ds0 a lf):=by
 have hb:∀x∈a.mr.filter (lft lf),0≤x∧x<(n:Int):=λx hx=>by rw[←G];exact E.mr x (LR.1 hx).1
 have e:a.st.toNat=n:=by omega
 rw[QlT (λx hx=>(E.mr x hx).1),e];refine ⟨Qma hb,Qi5 _ ((E.mri.imp (λh=>by omega)).filter _) hb,λx hx=>?_⟩;rw[Qj4 (hb x hx) hx];exact M5 _
def KE (l:Lf):Nat:=l.countP (· == true)
theorem QdC (l:Lf):KE l≤l.length:=List.countP_le_length
theorem Qdz (l:Lf) (s:Int):(cut l s).length=l.length:=by simp[cut]
theorem VK:∀(xs:LI) (l:Lf),(xs.foldl cut l).length=l.length
 | [],_=>rfl
 | x::xs,l=>by rw[LM,VK xs,Qdz]
theorem QdA:∀(l:Lf) (i:Nat),KE (l.set i false)+(if l.getD i false=true then 1 else 0)=KE l
 | [],i=>by simp[KE]
 | b::l,0=>by cases b <;> simp[KE]
 | b::l,i+1=>by
  have ih:=QdA l i;unfold KE at *;simp only[List.set_cons_succ,List.countP_cons,List.getD_cons_succ];omega
theorem QdB (l:Lf) (s:Int):KE (cut l s)+(if lft l s=true then 1 else 0)=KE l:=QdA l s.toNat
theorem QaJ:∀(xs:LI) (l:Lf),KE (xs.foldl cut l)≤KE l
 | [],_=>Lt _
 | x::xs,l=>by
  have h1:=QaJ xs (cut l x);have h2:=QdB l x;rw[LM];omega
theorem Qhy {xs:LI}{l:Lf}(h:0<xs.length) (E:∀x∈xs,lft l x=true):KE (xs.foldl cut l)<KE l:=by
 cases xs with
 | nil=>simp at h
 | cons x xs =>
  have h1:=QaJ xs (cut l x);have h2:=QdB l x;rw[if_pos (E x Lm)] at h2;rw[LM];omega
def Qia (a:QN) (lf:Lf) (out:List (Int×Int)):Prop:=∀p∈out,lft lf p.1=true∧∃e∈a.ed,e.1=p.1∧e.2.1=p.2
theorem Qjb {a:QN}{ul:LI}{lf:Lf}{out:List (Int×Int)}{e:Ed}(h:Qia a lf out) (he:e∈a.ed):Qia a lf (XR ul lf out e)∧(XR ul lf out e).length≤out.length+1:=by
 unfold XR;split
 ·exact ⟨h,by omega⟩
 rename_i hc;split
 ·exact ⟨h,by omega⟩
 refine ⟨λp hp=>?_,by simp⟩;simp only[List.mem_append,List.mem_singleton] at hp;rcases hp with hp | rfl
 ·exact h p hp
 exact ⟨by cases hl:lft lf e.1 with | true=>rfl | false=>exact absurd (.inl hl) hc,e,he,rfl,rfl⟩
theorem qB {a:QN}{ul:LI}{lf:Lf}:∀(l:List Ed) (out:List (Int×Int)),(∀e∈l,e∈a.ed)→Qia a lf out→Qia a lf (l.foldl (XR ul lf) out)∧(l.foldl (XR ul lf) out).length≤out.length+l.length
 | [],out,_,h=>⟨h,by simp⟩
 | e::l,out,hl,h=>by
  obtain ⟨h1,h2⟩:=Qjb (ul:=ul) h (hl e Lm);obtain ⟨h3,E⟩:=qB l _ (λe he=>hl e (Lk _ he)) h1;exact ⟨h3,by rw[LM,LJ];omega⟩
theorem jc (a:QN) (ul:LI) (lf:Lf):Qia a lf (lost a ul lf)∧(lost a ul lf).length≤a.ed.length:=by
 have:=qB (ul:=ul) (lf:=lf) a.ed [] (λ_ h=>h) (λp hp=>by cases hp);unfold lost;simpa using this
theorem VQ (lf:Lf):∀(l:LI) (i:Nat),(∀x∈K3 lf i l,lft lf x=true∧(i:Int)≤x∧x<(i:Int)+l.length)∧(K3 lf i l).length≤l.length
 | [],i=>⟨λx hx=>(by cases hx),Lt _⟩
 | d::l,i=>by
  obtain ⟨h1,h2⟩:=VQ lf l (i+1);unfold K3;split
  ·rename_i hc;refine ⟨λx hx=>?_,by simp;omega⟩;rcases Lb.1 hx with rfl | hx
   ·exact ⟨by unfold lft;simpa using hc.1,M5 _,by simp;omega⟩
   have:=h1 x hx;exact ⟨this.1,by omega,by simp only[List.length_cons];omega⟩
  refine ⟨λx hx=>?_,by simp;omega⟩;have:=h1 x hx;exact ⟨this.1,by omega,by simp only[List.length_cons];omega⟩
theorem Qgc {a:QN}{ul:LI}{lf:Lf}(x:Int) (hx:x∈nxs a ul lf):lft lf x=true:=by
 unfold nxs at hx;split at hx
 ·obtain ⟨p,hp,rfl⟩:=Lp.1 hx;exact ((jc a ul lf).1 p hp).1
 exact ((VQ lf (dsts a lf) 0).1 x hx).1
theorem Qd7 {a:QN}{ul:LI}{f:Nat}{lf:Lf}(h:(nxs a ul lf).length=0):Vj a ul f lf=lf:=by
 cases f with
 | zero=>rfl
 | succ f=>rw[Vj,if_pos h]
theorem zR {a:QN}{ul:LI}{f:Nat}{lf:Lf}(h:(nxs a ul lf).length≠0):Vj a ul (f+1) lf=Vj a ul f ((nxs a ul lf).foldl cut lf):=by rw[Vj,if_neg h]
theorem Qac {a:QN}{ul:LI}{lf:Lf}(h:(nxs a ul lf).length≠0):KE ((nxs a ul lf).foldl cut lf)<KE lf:=Qhy (by omega) (λx hx=>Qgc x hx)
theorem Kq {a:QN}(h:Q2 a) (lf:Lf):Q2 (rstr a lf) :=
 ⟨h.al,h.ali,h.st0,h.st1,h.mr,h.mri,λe he=>h.ed e (LR.1 he).1,h.edi.filter _⟩
def fst (a:QN):Int:=if a.st=0 then -1 else 0
def Qk3 (s:Option (Int×Int×Int)):Int×Int×Int:=s.getD (0,0,0)
def cdA (c:Q8):QN:=Uy (Jw c) [] (unc c.ev)
def ccA (c:Q8):QN:=XN [Jw c,cdA c]
def own (c:Q8) (k:Bool):QN:=if k=true then ccA c else Jw c
end Go.Proofs.YtdffckgdcegpaaaGreatDoor
namespace Go.Lg
section
variable {P:Program} {K:Fr→World→Prop} {f:Fr} {w:World} {d:Option Nat} {ty:Nat} {ps:String} {af:Array Edge} {gd:Option (Nat×Bool)}
theorem qu {t:Nat}[h1:X9 P t] {x y:Operand}{b T i:Nat}{l:List Bool}{u:Bool}(E:QZ w.heap b T (l.map Value.bool)) (hx:ev f x=.pointer (some ⟨b,0+i*1,none⟩)) (hy:ev f y=.bool u) (hi:i<l.length)
  (G:∀w',Step [b] w w'→QZ w'.heap b T ((l.set i u).map Value.bool)→K (QV f d undef) w'):XO P ⟨d,.store t x y,ty,ps,af,gd⟩ f w K:=by
 refine QF E hx hy (by simpa using hi) rfl λw' hs H=>G w' hs ?_;rw[List.map_set];simpa using H
theorem X2 {t:Nat}[X9 P t] {x:Operand}{b T i:Nat}{l:List Bool}(h:QZ w.heap b T (l.map Value.bool)) (hx:ev f x=.pointer (some ⟨b,0+i*1,none⟩)) (hi:i<l.length) :
  (execOp (ev f) ⟨d,.load t x,ty,ps,af,gd⟩).run P w=.ok (.value (.bool (l[i]'hi))) w:=Qd h hx (by simp[hi])
variable {ops:List Oper} {C:World→Prop} {pl:List (Nat×Bool)} {i:Nat}
theorem pqB {b:Bool}(E:∀w',C w'→(execOp (ev f) (Q6 ops i)).run P w'=.ok (.value (.bool b)) w') (ht:b=true→XP P ops C K pl (QV f (Q6 ops i).dst (.bool true)) w) (H:b=false→XP P ops C K pl (QV f (Q6 ops i).dst (.bool false)) w)
  (hd:zl (Q6 ops i)=true:=by rfl) (G:Yk ops f (Q6 ops i)=true:=by rfl):XP P ops C K ((i,true)::pl) f w:=by
 cases hb:b with
 | true=>rw[hb] at E;exact pq E (ht hb) hd G
 | false=>rw[hb] at E;exact pq E (H hb) hd G
end
end Go.Lg
namespace Go.Proofs.YtdffckgdcegpaaaGreatDoor
open Go.Proofs.Tryz
open Go.Lg
def bA (n:Nat) (g:Nat→Bool):List Bool:=(List.range n).map g
theorem Qmd (n:Nat) (g:Nat→Bool):(bA n g).length=n:=by simp[bA]
theorem Qmc {n i:Nat}{g E:Nat→Bool}{u:Bool}(hu:u=E i) (h:∀j,j<n→j≠i→E j=g j):(bA n g).set i u=bA n E:=by
 apply L5
 ·simp[bA]
 intro k h1 h2;rw[Np];have hk:k<n:=by simpa[bA] using h2
 by_cases e:i=k
 ·rw[if_pos e,hu,e];simp[bA]
 rw[if_neg e];have:=h k hk (λG=>e G.symm);simp[bA,this]
theorem QdN (n:Nat):(List.replicate n (Value.bool false).cells.toList).flatten=(bA n (λi=>decide (i<0))).map Value.bool:=by
 apply L5
 ·simp[Value.cells,bA]
 intro i h1 h2;simp[Value.cells,bA]
theorem V4 {l:Lf}{s:Int}(h:s.toNat<l.length):l[s.toNat]'h=lft l s:=by unfold lft;simp[List.getD,h]
theorem Qjh (n:Nat) (fb:LI):(lf0 n fb).length=n:=by unfold lf0;rw[VK];simp
instance:Bw prog 324 [nS,.int .i64 0,nS,nS,nS,.map none,nS] [(0,4),(4,1),(5,1),(6,1)]:=⟨by kernel_rfl,by decide⟩
structure Pz where
 va:Value
 vm:Value
 ve:Value
 a:QN
 vu:Value
 unc:LI
 mb:Nat
 mm:List (Int×Value)
 bl:Nat
 n:Nat
 rv:Nat→Value
abbrev Pz.cells (p:Pz):LV:=[p.va,.int .i64 p.a.st,p.vm,p.ve,p.vu,.map (some p.mb),.slice (some ⟨p.bl,0,none⟩) p.n p.n]
structure jL (L:LN) (H:Array Obj) (bp:Nat) (p:Pz):Prop where
 B:QZ H bp 324 p.cells
 bL:bp∉L
 a:Zv L H p.va p.vm p.ve p.a
 u:QL L H p.vu p.unc
 M:Z7 KX H p.mb p.mm
 mL:p.mb∉L
 g:∀s,s<p.n→(match mget p.mm ((s:Nat):Int) with | some u=>u | none=>nS)=p.rv s
 R:∀s,s<p.n→QL L H (p.rv s) (Yt p.a.ed s)
theorem jL.ext {L:LN}{w w':World}{bp:Nat}{p:Pz}(h:jL L w.heap bp p) (hs:Step [] w w'):jL L w'.heap bp p:=⟨h.B.ext hs,h.bL,h.a.ext hs,h.u.ext hs,h.M.ext hs,h.mL,h.g,λs E=>(h.R s E).ext hs⟩
theorem jL.st {L:LN}{w w':World}{bp:Nat}{p:Pz}(h:jL L w.heap bp p) (hs:Step L w w'):jL L w'.heap bp p:=⟨h.B.step hs h.bL,h.bL,h.a.st hs,h.u.st hs,h.M.step hs h.mL,h.mL,h.g,λs E=>(h.R s E).st hs⟩
theorem jL.up {L L':LN}{H:Array Obj}{bp:Nat}{p:Pz}(h:jL L H bp p) (E:∀b∈L',b∈L∨H.size≤b):jL L' H bp p :=
 ⟨h.B,λhm=>by rcases E _ hm with h1 | h1;exact h.bL h1;have:=h.B.lt;omega,h.a.up E,h.u.up E,h.M,λhm=>by rcases E _ hm with h1 | h1;exact h.mL h1;have:=h.M.lt;omega,h.g,λs G=>(h.R s G).up E⟩
structure PzQ (p:Pz):Prop where
 ok:Q2 p.a
 n:p.a.st=(p.n:Int)
set_option maxHeartbeats 4000000 in
theorem Qfv {w:World}{va vm ve vr vu:Value}{a:QN}{rm unc:LI}{n:Nat}(h:Zv [] w.heap va vm ve a) (hC:Q2 a) (hn:a.st=(n:Int)) (hr:QL [] w.heap vr rm) (gp:∀x∈rm,0≤x∧x<a.st) (hu:QL [] w.heap vu unc) :
  QK prog 213 [.agg #[va,.int .i64 a.st,vm,ve],vr,vu] w λr w'=>Step [] w w'∧∃bp p,r=.pointer (some ⟨bp,0,none⟩)∧p.a=a∧p.unc=unc∧p.n=n∧w.heap.size≤p.bl∧jL [p.bl] w'.heap bp p∧QZ w'.heap p.bl 4 ((lf0 n rm).map Value.bool):=by
 have kq:=hC.st1;have gq:=hC.ed;have kr:=hC.ed_le;have kt:=hr.le;refine QK.of_W func213 O ntmps213 results213 (by simp) ?_;refine Qc<|xl O<|QS (us:=[va,.int .i64 a.st,vm,ve]) O λb3 G ha ku hz=>Qe ?_;have kv:=hz.lt;have kw:=ha.size
 refine QT (α:=Nat×Nat×Nat) [(7,7),(13,20)] (λz=>[(7,.pointer (some ⟨z.1,0,none⟩))]) (λz w'=>Step [] G w'∧QZ w'.heap z.1 324 [va,.int .i64 a.st,vm,ve,vu,.map (some z.2.1),.slice (some ⟨z.2.2,0,none⟩) n n] ∧
  Z7 KX w'.heap z.2.1 []∧QZ w'.heap z.2.2 4 ((bA n (λi=>decide (i<0))).map Value.bool)∧G.heap.size≤z.1∧G.heap.size≤z.2.1∧G.heap.size≤z.2.2∧z.1≠z.2.1∧z.1≠z.2.2∧z.2.1≠z.2.2) (by rfl) ?_ ?_
 ·have hf:Step [] G { G with drawn:=G.drawn+1 }:=Step.drew _ _
  refine Qka (Step [] G) [(0,true),(1,true),(3,true),(4,true)] 2 5 [(5,false),(6,true),(7,false),(8,true)] [(2,false),(6,true),(7,false),(8,true)] mixed (by rfl) (by kernel_rfl) (Step.drew _ _) ?_;refine pq (λ_ hc=>Qr (hz.ext hc) O O)<|p (λ_=>Qp)<|p (λ_=>Qa O)<|pq (λ_ hc=>Qd (hz.ext hc) O O)<|pe ⟨⟨O,?_⟩,O,?_⟩
  ·refine YB KX λbm w2 I hD hS=>⟨hf.trans I,?_⟩;refine pk<|V1 (n:=n) (congrArg (Value.int .i64) hn) (congrArg (Value.int .i64) hn) (by omega) λbl w3 J hE hB=>⟨(hf.trans I).trans J,?_⟩;rw[QdN] at hB;refine p (λ_=>ZY [(0,[va,.int .i64 a.st,vm,ve]),(1,[vu]),(2,[.map (some bm)]),(3,[.slice (some ⟨bl,0,none⟩) n n])] ⟨O,O,hu.cells,O,O,O,O,O,U⟩)<|pk <|
    QS (us:=[va,.int .i64 a.st,vm,ve,vu,.map (some bm),.slice (some ⟨bl,0,none⟩) n n]) O λbp w4 E hF S=>⟨((hf.trans I).trans J).trans E,?_⟩
   refine p (λ_=>Qg)<|pe ?_;have gr:=hS.lt;have gs:=hB.lt;have gt:=I.size;have gu:=J.size;have gv:({ G with drawn:=G.drawn+1 }:World).heap.size=G.heap.size:=rfl
   exact ⟨(bp,bm,bl),Z,((hf.trans I).trans J).trans E,S,(hS.ext J).ext E,hB.ext E,by simp only[];omega,by simp only[];omega,by simp only[];omega,by simp only[];omega,by simp only[];omega,by simp only[];omega⟩
  refine V1 (n:=n) (congrArg (Value.int .i64) hn) (congrArg (Value.int .i64) hn) (by omega) λbl w2 I hE hB=>⟨hf.trans I,?_⟩;rw[QdN] at hB;refine pk<|YB KX λbm w3 J hD hT=>⟨(hf.trans I).trans J,?_⟩;refine p (λ_=>ZY [(0,[va,.int .i64 a.st,vm,ve]),(1,[vu]),(2,[.map (some bm)]),(3,[.slice (some ⟨bl,0,none⟩) n n])] ⟨O,O,hu.cells,O,O,O,O,O,U⟩)<|pk <|
   QS (us:=[va,.int .i64 a.st,vm,ve,vu,.map (some bm),.slice (some ⟨bl,0,none⟩) n n]) O λbp w4 E hF S=>⟨((hf.trans I).trans J).trans E,?_⟩
  refine p (λ_=>Qg)<|pe ?_;have gr:=hT.lt;have gs:=hB.lt;have gt:=I.size;have gu:=J.size;have gv:({ G with drawn:=G.drawn+1 }:World).heap.size=G.heap.size:=rfl
  exact ⟨(bp,bm,bl),Z,((hf.trans I).trans J).trans E,S,hT.ext E,(hB.ext J).ext E,by simp only[];omega,by simp only[];omega,by simp only[];omega,by simp only[];omega,by simp only[];omega,by simp only[];omega⟩
 rintro ⟨bp,bm,bl⟩ g w4 ⟨E,S,h0,h3,hF,hD,hE,hU,hV,hG⟩;simp only[] at S h0 h3 hF hD hE hU hV hG;have kx:=S.lt;have ky:=h0.lt;have kz:=h3.lt;have hH:=ha.trans E;have k0:=E.size;have ht:bp∉[bl]:=by simpa using hV
 have hI:bm∉[bl]:=by simpa using hG
 have h4:=h.ext hH;have k4:=hr.ext hH;refine Qf<|Qc<|Qb<|x (QE O)<|x (Qa O)<|x (Qd S O O)<|x (Qs (L:=[]) (h3.arr (by simp) (n:=n) (cap:=n) (sz:=1) (by simp[bA]) (by omega) (Lt _)) rfl)<|Qb<|xe ?_
 refine Qh<|QA (α:=Nat) [(8,8),(26,35)] (λz=>[(26,.int .i64 z)]) (λz w'=>z≤n∧Step [bl] w4 w'∧QZ w'.heap bl 4 ((bA n (λi=>decide (i<z))).map Value.bool)) (λz=>n - z) (by rfl) 0 Z ⟨Ll _,Step.refl _ _,h3⟩ ?_;rintro k g w5 ⟨hk,ho,hJ⟩;refine Qc<|x (QB O O)<|xe<|Qf<|QG O (λhK=>?_) (λhK=>?_)
 ·refine Qz ?_;have k5:k=n:=by have gw:¬(k:Int)<(n:Int):=hK;omega
  have gx:bA n (λi=>decide (i<k))=(rm.take 0).foldl cut (List.replicate n true):=by
   apply L5
   ·simp[bA]
   intro i h1 h2;have:i<n:=by simpa[bA] using h1
   simp[bA];omega
  rw[gx] at hJ;have k6:∀b∈[bl],b<G.heap.size→b∈([]:LN):=λb hb Y=>by simp only[List.mem_singleton] at hb;omega
  have hW:QL [bl] G.heap vr rm:=(hr.ext ha).up (λb hb=>.inr (by simp only[List.mem_singleton] at hb;omega));have k7:QL [bl] G.heap vu unc:=(hu.ext ha).up (λb hb=>.inr (by simp only[List.mem_singleton] at hb;omega));have gy:Zv [bl] G.heap va vm ve a:=(h.ext ha).up (λb hb=>.inr (by simp only[List.mem_singleton] at hb;omega));have hX:=S.step ho ht;have k8:=h0.step ho hI
  refine Qf<|Qc<|Qb<|x (Qs ((hW.ext E).st ho) O)<|Qb<|xe<|Qh<|QA (α:=Nat) [(10,10),(38,48)] (λz=>[(38,.int .i64 z)]) (λz w'=>z≤rm.length∧Step [bl] w4 w'∧QZ w'.heap bl 4 (((rm.take z).foldl cut (List.replicate n true)).map Value.bool)) (λz=>rm.length - z) (by rfl) 0 Z ⟨Ll _,ho,hJ⟩ ?_;rintro j g w6 ⟨hj,H,hg⟩;refine Qc<|x (QB O O)<|xe ?_
  refine Qf<|QG O (λhL=>?_) (λhL=>?_)
  ·refine Qz ?_;have gz:rm.length≤j:=by have h5:¬(j:Int)<(rm.length:Int):=hL;omega
   rw[Lo gz] at hg;have hY:=S.step H ht;have g0:=h0.step H hI;have k9:=hg.lt;refine Qf<|Qc<|x (Qa O)<|x (Qd ((hz.ext E).step H (by simp only[List.mem_singleton];omega)) O O)<|x (Qs ((gy.ext E).st H).ed O)<|Qb<|xe ?_;have ma:=H.size
   refine Qh<|QA (α:=Nat×(Nat→Value)×List (Int×Value)) [(12,12),(52,73)] (λz=>[(52,.int .i64 z.1)]) (λz w'=>z.1≤a.ed.length∧Step [bm] w6 w'∧Z7 KX w'.heap bm z.2.2∧KJ w6.heap.size w' n z.2.1 (Yt (a.ed.take z.1))∧∀s,s<n→(match mget z.2.2 ((s:Nat):Int) with | some u=>u | none=>nS)=z.2.1 s) (λz=>a.ed.length - z.1) (by rfl) (0,λ_=>nS,[]) ⟨rfl,U⟩
    ⟨Ll _,Step.refl _ _,g0,⟨λi _=>QP _ _ _ _,λi j _ _ _=>Dj.nil _⟩,λs _=>O⟩ ?_
   rintro ⟨i,rv,m⟩ g w7 ⟨hi,V,hM,hh,h6⟩;simp only[] at hi hM hh h6;have mc:=V.size;have hZ:bp∉[bm]:=by simpa using hU
   have g2:bl∉[bm]:=by simpa using Ne.symm hG
   refine Qc<|x (QB O O)<|xe<|Qf<|QG O (λhN=>?_) (λhN=>?_)
   ·refine Qz ?_;have g3:a.ed.length≤i:=by have h7:¬(i:Int)<(a.ed.length:Int):=hN;omega
    rw[Lo g3] at hh;refine Qc<|Qb<|Qe ?_;have mf:∀b,b<w4.heap.size→b<w6.heap.size:=λb hb=>by omega
    refine Qn ⟨[_],Z,(hH.then1 H (by omega)).then1 V (by omega),bp,⟨va,vm,ve,a,vu,unc,bm,m,bl,n,rv⟩,O,O,O,O,by simp only[];omega,⟨hY.step V hZ,ht,?_,?_,hM,hI,h6,λs hs=>QU (hh.own s hs) (LS (V5 a.ed s) (by omega)) (λb hb hm=>?_)⟩,hg.step V g2⟩
    ·have h9:Zv [bl,bm] w7.heap va vm ve a:=((((h.ext ha).up (L':=[bl,bm]) (λb hb=>.inr (by simp only[List.mem_cons,List.not_mem_nil,or_false] at hb;omega))).ext E).st (H.mono (by simp))).st (V.mono (by simp));exact h9.up (by simp)
    ·have h9:QL [bl,bm] w7.heap vu unc:=((((hu.ext ha).up (L':=[bl,bm]) (λb hb=>.inr (by simp only[List.mem_cons,List.not_mem_nil,or_false] at hb;omega))).ext E).st (H.mono (by simp))).st (V.mono (by simp));exact h9.up (by simp)
    have:=(Qm (hh.own s hs) b hb).1;simp only[List.mem_singleton] at hm;omega
   refine Qi ?_;have Y:i<a.ed.length:=by have h7:(i:Int)<(a.ed.length:Int):=hN;omega
   have hv:a.ed.take (i+1)=a.ed.take i++[a.ed[i]'Y]:=Li Y;have ga:=gq _ (Lc Y);refine Zc (a.ed[i]'Y) λe he=>?_;rw[he] at hv ga;have gb:e.2.2=(e.2.2.toNat:Int):=by omega
   have hw:e.2.2.toNat<n:=by omega
   have g4:=V5 (a.ed.take i) e.2.2.toNat;rw[Lx] at g4;have hO:=QbX (a.ed.take i) e ga.2.2.2.1;have g5:zj [bl,bm] w7.heap ve a.ed:=((((h.ed.ext ha).up (L':=[bl,bm]) (λb hb=>.inr (by simp only[List.mem_cons,List.not_mem_nil,or_false] at hb;omega))).ext E).st (H.mono (by simp))).st (V.mono (by simp));refine Qf<|Qh<|Qc<|xie g5 O O Y λmg h7=>?_;rw[he] at h7
   refine x (QI h7 O O)<|xl O<|Qt (us:=[.int .i64 0,.int .i64 0,.int .i64 0]) O λg6 w8 g7 g8 g9=>xl O<|Qo (us:=Qx e) g9 O O O O ⟨O,O,O,U⟩ λw9 ka hP=>xe ?_;have hy:Step [] w7 w9:=g7.then1 ka g8;have mh:=hy.size;have gc:=hh.ext hy;have kb:=gc.own _ hw
   have h8:∀b∈ob (rv e.2.2.toNat),w6.heap.size≤b∧b<w7.heap.size:=λb hb=>⟨(Qm (hh.own _ hw) b hb).1,QR (hh.own _ hw) b hb⟩;have ge:bp∉ob (rv e.2.2.toNat):=λhb=>by have:=h8 _ hb;omega
   have gg:bm∉ob (rv e.2.2.toNat):=λhb=>by have:=h8 _ hb;omega
   have hQ:g6∉ob (rv e.2.2.toNat):=λhb=>by have:=h8 _ hb;omega
   have gh:=((hY.step V hZ).ext hy);have gi:=hM.ext hy;have gj:=h6 e.2.2.toNat hw;rw[←gb] at gj;refine QW (Step (ob (rv e.2.2.toNat)) w9) [(0,true),(1,true),(2,true),(3,true),(4,true),(5,true),(6,true),(7,true),(8,true),(9,true),(10,true),(11,true),(12,true),(13,true),(14,true),(15,false),(16,false),(17,false)] mixed (by rfl) (by kernel_rfl) (Step.drew _ _) ?_
   refine p (λ_=>Qp)<|p (λ_=>QE O)<|p (λ_=>Qa O)<|pq (λ_ hc=>Qd (gh.step hc ge) O O) <|
    p (λ_=>Qa O)<|pq (λ_ hc=>Qd (hP.step hc hQ) O O)<|p (λ_=>Qp)<|p (λ_=>QE O)<|p (λ_=>Qa O) <|
    pq (λ_ hc=>Qd (gh.step hc ge) O O)<|p (λ_=>Qa O)<|pq (λ_ hc=>Qd (hP.step hc hQ) O O) <|
    pq (λ_ hc=>(Jj (k:=e.2.2) (gi.step hc gg) O O).trans (congrArg (λv=>Result.ok (Next.value v) _) gj))<|p (λ_=>Qa O)<|pq (λ_ hc=>Qd (hP.step hc hQ) O O) <|
    pk<|QC (us:=[[.int .i64 e.1]]) O O (by decide) (by simp) ⟨rfl,rfl,U⟩ λmj kc gk mo ke=>⟨(Step.drew _ _).trans gk,?_⟩
   have hp:Step [] w9 kc:=(Step.drew _ _).trans gk;have mq:=hp.size;refine pk<|Q5 (m:=1) (news:=[.int .i64 e.1]) (Qq kb hp) O O O (ke.at (L:=[]) (by simp)) (by simp[Value.oneCell']) (by omega) (by omega) λhR ms kf hA kg=>⟨hp.any.trans' hA,?_⟩;have kh:=(gi.ext hp).step hA gg;refine pkl (hl:=by kernel_rfl)<|XB (k:=e.2.2) kh O O λmt gl ki=>pe ?_
   have kj:∀b∈ob hR,b∈ob (rv e.2.2.toNat)∨w9.heap.size≤b:=λb hb=>(kg b hb).imp id (λh=>by omega);have gm:=gc.app hw (Qu.snoc kf) (hp.any.trans' hA) kj;have gn:=gm.step gl (λi hi b hb=>by have:=(Qm (gm.own i hi) b hb).1;simp only[List.mem_singleton];omega)
   have kk:KM (Yt (a.ed.take i)) e.2.2.toNat (Yt (a.ed.take i) e.2.2.toNat++[e.1])=Yt (a.ed.take (i+1)):=by rw[hv];exact funext hO
   rw[kk] at gn;refine Qy<|QO O O<|Qb<|xe<|⟨(i+1,KM rv e.2.2.toNat hR,mput m e.2.2 hR),by simp only[];omega,Z,Y,?_,ki,gn,λs hs=>?_⟩
   ·exact (((V.trans hy).trans hp).then hA (λb hb=>.inr (h8 b hb).1)).trans' gl
   simp only[];rw[Jp];by_cases go:s=e.2.2.toNat
   ·subst go;rw[if_pos gb,ZX]
   rw[if_neg (by omega),Ym _ _ go];exact h6 s hs
  refine Qi ?_;have hq:j<rm.length:=by have h5:(j:Int)<(rm.length:Int):=hL;omega
  have kn:=gp _ (Lc hq);have hv:rm.take (j+1)=rm.take j++[rm[j]'hq]:=Li hq;refine Zc (rm[j]'hq) λs hs=>?_;rw[hs] at kn hv;have hO:s=(s.toNat:Int):=by omega
  have mu:((rm.take j).foldl cut (List.replicate n true)).length=n:=by rw[VK];simp
  refine Qf<|Qh<|Qc<|xii (i:=j) ((hW.ext E).st H) O O hq λmv h5=>?_;rw[hs] at h5;refine x (Qw h5 O)<|Qe<|Qy<|Qb<|x (QE O)<|x (Qa O)<|x (Qd (S.step H ht) O O)<|Qb<|x (Zj (i:=s.toNat) O (congrArg (Value.int .i64) hO) (by omega)) <|
   xl rfl<|qu (i:=s.toNat) hg O O (by omega) λw7 V ko=>xe ?_
  refine Qy<|QO O O<|Qb<|xe<|⟨j+1,by omega,Z,hq,H.trans' V,?_⟩;rw[hv,Mx];exact ko
 refine Qi ?_;have Y:k<n:=by have gw:(k:Int)<(n:Int):=hK;omega
 have hX:=S.step ho ht;refine Qf<|Qh<|Qc<|Qb<|Qe<|Qy<|Qb<|x (QE O)<|x (Qa O)<|x (Qd hX O O)<|Qb<|x (Zj (i:=k) O O (by omega)) <|
  xl rfl<|qu (i:=k) hJ O O (by rw[Qmd];exact Y) λw6 H hg=>xe ?_
 have kp:(bA n (λi=>decide (i<k))).set k true=bA n (λi=>decide (i<k+1)):=Qmc (by simp) (λi _ hi=>by
  by_cases e:i<k
  ·simp[e];omega
  simp[e];omega)
 rw[kp] at hg;refine Qy<|QO O O<|Qb<|xe ?_;exact ⟨k+1,by omega,Z,Y,ho.trans' H,hg⟩
end Go.Proofs.YtdffckgdcegpaaaGreatDoor
