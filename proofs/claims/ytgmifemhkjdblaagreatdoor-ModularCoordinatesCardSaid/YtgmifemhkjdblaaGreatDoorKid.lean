/- Merged out of 15 texts. -/
import Derived.Test.YtgmifemhkjdblaaGreatDoorKic
import Derived.Test.YtgmifemhkjdblaaGreatDoorKib
import Derived.Test.YtgmifemhkjdblaaGreatDoorKia
import Derived.Tactics
namespace Go.Proofs.YtgmifemhkjdblaaGreatDoor
open Tryz
open Go.Lg
structure Sty where
 c:CL
 p:AV
 vq:Value
 qs:List TV
 s:AV
 vt:Value
 ts:List TV
 vs:Value
 vx:Value
 vk:Value
 qx:List XV
 ks:List KV
 bm:Nat
 mm:List (ByteArray×Value)
abbrev Sty.cells (q:Sty):LV:=[q.c.ve,q.c.vc,q.c.vr,q.c.vx,q.c.vk,q.p.va,.int .i64 q.p.a.st,q.p.vm,q.p.ve,q.vq,q.s.va,.int .i64 q.s.a.st,q.s.vm,q.s.ve,q.vt,q.vs,q.vx,q.vk,.map (some q.bm)]
structure Kt (L:LN) (b:Nat) (H:Array Obj) (q:Sty):Prop where
 B:QS H b 293 q.cells
 bL:b∉L
 c:ZH L H q.c
 p:Zm L H q.p.va q.p.vm q.p.ve q.p.a
 s:Zm L H q.s.va q.s.vm q.s.ve q.s.a
 qs:XD L H q.vq q.qs
 ts:XD L H q.vt q.ts
 k1:QL L H q.vs (szs q.c.cel.co)
 k2:Ux L H q.vx q.qx
 k3:yd L H q.vk q.ks
 mL:q.bm∉L
 m:ZE Xv H q.bm q.mm
theorem Kt.ext {L:LN}{b:Nat}{w w':World}{q:Sty}(h:Kt L b w.heap q) (hs:Step [] w w'):Kt L b w'.heap q:=⟨h.B.ext hs,h.bL,h.c.ext hs,h.p.ext hs,h.s.ext hs,h.qs.ext hs,h.ts.ext hs,h.k1.ext hs,h.k2.ext hs,h.k3.ext hs,h.mL,h.m.ext hs⟩
theorem Kt.st {L:LN}{b:Nat}{w w':World}{q:Sty}(h:Kt L b w.heap q) (hs:Step L w w'):Kt L b w'.heap q:=⟨h.B.step hs h.bL,h.bL,h.c.st hs,h.p.st hs,h.s.st hs,h.qs.st hs,h.ts.st hs,h.k1.st hs,h.k2.st hs,h.k3.st hs,h.mL,h.m.step hs h.mL⟩
theorem Kt.up {L L':LN}{b:Nat}{H:Array Obj}{q:Sty}(h:Kt L b H q) (hL:∀b∈L',b∈L∨H.size≤b):Kt L' b H q :=
 ⟨h.B,λhm=>by rcases hL _ hm with h1 | h1;exact h.bL h1;have:=h.B.lt;omega,h.c.up hL,h.p.up hL,h.s.up hL,h.qs.up hL,h.ts.up hL,h.k1.up hL,h.k2.up hL,h.k3.up hL,λhm=>by rcases hL _ hm with h1 | h1;exact h.mL h1;have:=h.m.lt;omega,h.m⟩
structure Ql6 (q:Sty):Prop where
 ok:Zh q.c.cel=0
 p:sync (auts q.c.cel.co)=some (q.p.a,q.qs.map (·.2))
 s:sync (auts q.c.cel.co++auts q.c.cel.rq)=some (q.s.a,q.ts.map (·.2))
 ex:q.qx.map (·.x)=q.c.cel.ex
 cs:q.ks.map (·.k)=q.c.cel.cs
 m:V1 q.c.co.length q.mm (q.qs.map (·.2))
theorem Y3 {l:List Jj}(h:∀x∈l,Q2 x.a):∀a∈auts l,Q2 a:=λa ha=>by
 obtain ⟨x,hx,rfl⟩:=List.mem_map.1 ha
 exact h x hx
def stp (a:QM) (s v:Int):Int×Bool×Int:=if cks a s≠0 then (0,false,cks a s) else if v∉a.al then (0,false,9) else if 0≤nxt a.ed s v then (nxt a.ed s v,true,0) else (0,false,0)
theorem Qgv {L:LN}{w:World}{va vm ve:Value}{a:QM}(h:Zm L w.heap va vm ve a) (s v:Int) :
  QG prog 241 [.agg #[va,.int .i64 a.st,vm,ve],.int .i64 s,.int .i64 v] w λr w'=>r=.tuple #[.int .i64 (stp a s v).1,.bool (stp a s v).2.1,.int .i64 (stp a s v).2.2]∧Step [] w w':=by
 have hr:stp a s v=(if cks a s≠0 then (0,false,cks a s) else if v∉a.al then (0,false,9) else if 0≤nxt a.ed s v then (nxt a.ed s v,true,0) else (0,false,0)):=rfl
 refine Zc (stp a s v) λR hR=>?_
 rw[hR] at hr ⊢
 refine QG.of_W func241 rfl ntmps241 results241 (by simp) ?_
 refine Qc<|xl rfl<|QQ (us:=[va,.int .i64 a.st,vm,ve]) rfl λb3 w1 hs1 hb3 hB3=>x Qe<|x Qe<|Qf<|Qg<|Qc<|x (Qn hB3 rfl rfl)<|Qb<|xl rfl<|xf<|(X3 (h.ext hs1) s).mono ?_
 rintro r2 w2 ⟨rfl,hs2⟩
 refine Qf ?_
 have hs12:=hs1.trans hs2
 refine Qc<|Qb<|x (Q4 rfl rfl)<|xe ?_
 refine Q3 rfl (λh14=>?_) (λh14=>?_)
 ·rw[if_pos h14] at hr
  subst hr
  refine Qc<|Qb<|x Qe<|x Qe<|Qf ?_
  exact Qk ⟨[_,_,_],⟨rfl,rfl,rfl,trivial⟩,rfl,hs12⟩
 rw[if_neg h14] at hr
 refine Qi<|Qg<|Qc<|x (Qa rfl)<|x (Qd (hB3.ext hs2) rfl rfl)<|Qb<|xl rfl<|xf<|(Yl (h.al.ext hs12) v).mono ?_
 rintro r3 w3 ⟨rfl,rfl⟩
 refine x (UP rfl)<|xe ?_
 refine Q3 rfl (λh20=>?_) (λh20=>?_)
 ·rw[if_pos h20] at hr
  subst hr
  refine Qc<|x Qe<|x Qe<|Qf ?_
  exact Qk ⟨[_,_,_],⟨rfl,rfl,rfl,trivial⟩,rfl,hs12⟩
 rw[if_neg h20] at hr
 refine Qi ?_
 have hc:cks a s=0:=Decidable.not_not.1 h14
 have hck:Y2 a=0:=by
  unfold cks at hc
  refine Decidable.not_not.1 λhn=>?_
  rw[if_pos hn] at hc;exact hn hc
 have hsr:0≤s∧s<a.st:=by
  unfold cks at hc
  rw[if_neg (by rw[hck];decide)] at hc
  refine Decidable.not_not.1 λhn=>?_
  rw[if_pos (by omega)] at hc;cases hc
 refine Qg<|Qc<|x (Qn (hB3.ext hs2) rfl rfl)<|Qb<|Qb<|xl rfl<|xf<|(QaF (h.ed.ext hs12) ((Zs a).1 hck) s v hsr.1 hsr.2).mono ?_
 rintro r4 w4 ⟨rfl,hs4⟩
 refine Qf<|Qc<|Qb<|x (ZM rfl rfl)<|xe ?_
 refine Q3 rfl (λh26=>?_) (λh26=>?_)
 ·rw[if_pos h26] at hr
  subst hr
  refine Qc<|Qb<|x Qe<|x Qe<|Qf ?_
  exact Qk ⟨[_,_,_],⟨rfl,rfl,rfl,trivial⟩,rfl,hs12.trans hs4⟩
 rw[if_neg h26] at hr
 subst hr
 refine Qi<|Qc<|x Qe<|x Qe<|Qf ?_
 exact Qk ⟨[_,_,_],⟨rfl,rfl,rfl,trivial⟩,rfl,hs12.trans hs4⟩
theorem Qe2 (es:List Ed) (s v:Int):nxt es s v=(eget es s v).getD (-1):=by
 induction es with
 | nil=>rfl
 | cons e es ih =>
  rw[nxt,eget]
  by_cases h:e.1=s∧e.2.1=v
  ·rw[if_pos h,if_pos h];rfl
  ·rw[if_neg h,if_neg h];exact ih
theorem Qjn {a:QM}(h:Q2 a) {s v:Int}(h0:0≤s) (h1:s<a.st) (hv:v∈a.al):(stp a s v).2.1=(eget a.ed s v).isSome:=by
 have hc:cks a s=0:=by unfold cks;rw[if_neg (by rw[(Zs a).2 h];decide),if_neg (by omega)]
 unfold stp
 rw[if_neg (by rw[hc];decide),if_neg (by simpa using hv),Qe2]
 cases he:eget a.ed s v with
 | none=>rfl
 | some t =>
  have:=(h.ed _ (Vp he)).2.2.2.1
  rw[Option.getD_some,if_pos (by simpa using this)];rfl
theorem Qer {L L':LN}{w:World}{b:Nat}{q:Sty}{vt:Value}{t:LI}(hS:Kt L b w.heap q) (ht:QL L' w.heap vt t) (hn:q.c.co.length≤t.length) :
  QG prog 174 [.pointer (some ⟨b,0,none⟩),vt] w λr w'=>Step [] w w'∧∃v1 v2,r=.tuple #[v1,v2]∧QL L' w'.heap v1 (t.take q.c.co.length)∧QL L' w'.heap v2 (t.drop q.c.co.length):=by
 refine QG.of_W func174 rfl ntmps174 results174 (by simp) ?_
 refine Qc<|x Qe<|Qf<|Qc<|Qb<|x (QE rfl)<|x (Qa rfl)<|x (Qa rfl)<|x (Qd hS.B rfl rfl)<|x (Qs hS.c.co.arr rfl)<|Qf<|Qg<|QT (Step [] w) [(0,true),(1,true),(2,true),(3,true),(4,true),(5,true),(6,true),(7,true),(8,true)] mixed (by rfl) (by kernel_rfl) (Step.drew _ _) ?_
 refine p (λ_=>Qo)<|p (λ_=>Qo)<|p (λ_=>Qo)<|QlR (hi:=q.c.co.length) rfl ht rfl rfl rfl hn λv1 h1=>p (λ_=>Qo)<|p (λ_=>Qo)<|Qjx (lo:=q.c.co.length) rfl ht rfl rfl hn λv2 h2 =>
  p (λ_=>Qe)<|p (λ_=>Qe)<|pe ?_
 refine Qk ⟨[_,_],⟨rfl,rfl,trivial⟩,Step.drew _ _,v1,v2,rfl,?_,?_⟩
 ·rw[Nat.mul_one,←List.map_take] at h1
  have e:(t.take q.c.co.length).length=q.c.co.length:=by rw[List.length_take];omega
  unfold QL
  rw[e];exact h1
 ·exact QL.drop h2
theorem QeD {v:Int}{i:Nat}{y:Jj}{l:List Jj}{s:Int}{ss:LI}:rfr v i (y::l) (s::ss)=if v∈y.a.al∧(eget y.a.ed s v).isSome=false then (i:Int) else rfr v (i+1) l ss:=rfl
set_option maxHeartbeats 1000000 in
theorem Qa8 {L L':LN}{w:World}{b:Nat}{q:Sty}{vr:Value}{rs:LI}{v:Int}(hS:Kt L b w.heap q) (hr:QL L' w.heap vr rs) (hok:∀x∈q.c.rq,Q2 x.p.a) (hv:Vt (auts q.c.cel.rq) rs) :
  QG prog 216 [.pointer (some ⟨b,0,none⟩),vr,.int .i64 v] w λr w'=>r=.int .i64 (rfr v 0 q.c.cel.rq rs)∧Step [] w w':=by
 have hle:=hS.c.rq.arr.le
 have hlen:rs.length=q.c.rq.length:=by rw[hv.1];unfold auts;show ((q.c.rq.map IV.it).map _).length=_;simp
 refine Zc (rfr v 0 q.c.cel.rq rs) λR hR=>?_
 rw[hR]
 refine QG.of_W func216 rfl ntmps216 results216 (by simp) ?_
 refine Qc<|Qf<|Qg<|Qc<|Qb<|x (QE rfl)<|x (Qa rfl)<|x (Qa rfl)<|x (Qd hS.B rfl rfl)<|x (Qs hS.c.rq.arr rfl)<|Qb<|xe ?_
 refine Qh<|QA (α:=Nat) [(6,11),(18,44)] (λz=>[(18,.int .i64 z)]) (λz w'=>z≤q.c.rq.length∧Step [] w w'∧rfr v z ((q.c.rq.drop z).map (·.it)) (rs.drop z)=R) (λz=>q.c.rq.length - z) (by rfl) 0 ⟨rfl,trivial⟩
  ⟨Nat.zero_le _,Step.refl _ _,hR⟩ ?_
 rintro k g w1 ⟨hk,hs1,hrf⟩
 refine Qc<|x (QB rfl rfl)<|xe ?_
 refine Qg<|QD rfl (λh19=>?_) (λh19=>?_)
 ·refine Qz ?_
  have hke:q.c.rq.length≤k:=by have h20:¬(k:Int)<(q.c.rq.length:Int):=h19;omega
  rw[List.drop_of_length_le hke] at hrf
  have hm1:R=-1:=hrf.symm
  refine Qc<|Qf ?_
  exact Qk ⟨[_],⟨rfl,trivial⟩,by rw[hm1];rfl,hs1⟩
 have hlt:k<q.c.rq.length:=by have h20:(k:Int)<(q.c.rq.length:Int):=h19;omega
 have hltr:k<rs.length:=by omega
 have hmem:=List.getElem_mem hlt
 rw[XY hlt,Q6 hltr,QeD] at hrf
 have hvk:∀hz:k<(auts q.c.cel.rq).length,0≤rs[k]'hltr∧rs[k]'hltr<((auts q.c.cel.rq)[k]'hz).st:=λhz=>hv.2 k hltr hz
 have hal:k<(auts q.c.cel.rq).length:=by unfold auts;show k<((q.c.rq.map IV.it).map _).length;simpa using hlt
 have hvk:=hvk hal
 have hae:(auts q.c.cel.rq)[k]'hal=(q.c.rq[k]'hlt).p.a:=by unfold auts;show ((q.c.rq.map IV.it).map _)[k]'_=_;simp[IV.it]
 rw[hae,Zg hltr] at hvk
 rw[Zg hltr] at hrf
 refine Qi<|Qg<|Qh<|Qc<|Qb<|xig Xb (hS.c.rq.arr.ext hs1) rfl rfl hlt λa21 h21=>?_
 refine Zc (q.c.rq[k]'hlt) λy hy=>?_
 rw[hy] at h21 hmem hrf hvk
 have hyA:=(hS.c.rq.each y hmem).ext hs1
 have hyo:=hok y hmem
 refine x (QJ h21 rfl rfl)<|xl rfl<|Qr (us:=[.string .empty,nS,.int .i64 0,nS,nS]) rfl λb8 w2 hs2 hb8 hB8=>x Qe <|
  xl rfl<|Ql (us:=Zi y) hB8 rfl rfl rfl rfl ⟨rfl,hyA.al.one,rfl,hyA.mr.one,hyA.ed.one,trivial⟩ λw3 hs3 hB8=>xe ?_
 have hs13:Step [] w1 w3:=hs2.then1 hs3 hb8
 refine Qg<|Qc<|x (Qa rfl)<|x (Qa rfl)<|x (Qd hB8 rfl rfl)<|Qb<|xl rfl<|xf<|(Yx (hyA.al.ext hs13) hyo.ali v).mono ?_
 rintro r4 w4 ⟨rfl,rfl⟩
 refine x (UP rfl)<|xe ?_
 refine Q3 rfl (λh28=>?_) (λh28=>?_)
 ·rw[if_neg (λe=>h28 e.1)] at hrf
  refine Qz ?_
  refine Qx<|x (Qy rfl rfl ⟨by omega,by omega⟩)<|Qb<|xe ?_
  exact ⟨k+1,by omega,⟨rfl,trivial⟩,hlt,hs1.trans hs13,hrf⟩
 have hva:v∈y.p.a.al:=Decidable.not_not.1 h28
 have hst:=Qjn hyo hvk.1 hvk.2 hva
 refine Qi ?_
 have hrk:=(hr.ext hs1).ext hs13
 refine Qg<|QT (Step [] w4) [(0,true),(1,true),(2,true),(3,true),(4,true),(5,true),(6,true),(7,false),(8,true),(9,true),(10,true),(11,true),(12,true),(13,true),(14,true)] mixed (by rfl) (by kernel_rfl) (Step.drew _ _) ?_
 refine p (λ_=>Qa rfl)<|pq (λ_ hc=>Zv (us:=Q7 y.p) (hB8.step hc (by simp)) rfl rfl rfl)<|p (λ_=>Qo)<|p (λ_=>Qo)<|pic (i:=k) rfl hrk rfl rfl hltr λa34 h34 =>
  pq (λ_ hc=>Qw (h34.ext hc) rfl)<|p (λ_=>Qo)<|pk<|xf<|(Qgv ((hyA.ext hs13).ext (Step.drew _ _)) (cget rs k) v).mono ?_
 rintro r5 w5 ⟨rfl,hs5⟩
 have hs45:=(Step.drew [] w4).trans hs5
 refine ⟨hs45,?_⟩
 refine p (λ_=>Qo)<|p (λ_=>Qj rfl rfl)<|p (λ_=>Qj rfl rfl)<|p (λ_=>Qj rfl rfl)<|p (λ_=>Qe) <|
  p (λ_=>Qe)<|p (λ_=>Qe)<|pe ?_
 have hs15:=(hs1.trans hs13).trans hs45
 refine Qc<|Qb<|x (Zp rfl)<|xe ?_
 refine QY rfl (λh42=>?_) (λh42=>?_)
 ·have h43:(eget y.p.a.ed (cget rs k) v).isSome=false:=by rw[←hst];simpa using h42
  rw[if_pos ⟨hva,h43⟩] at hrf
  refine Qc<|Qb<|Qf ?_
  exact Qk ⟨[_],⟨rfl,trivial⟩,by rw[←hrf];rfl,hs15⟩
 have h43:¬(eget y.p.a.ed (cget rs k) v).isSome=false:=by rw[←hst];simpa using h42
 rw[if_neg (λe=>h43 e.2)] at hrf
 refine Qi<|Qx<|x (Qy rfl rfl ⟨by omega,by omega⟩)<|Qb<|xe ?_
 exact ⟨k+1,by omega,⟨rfl,trivial⟩,hlt,hs15,hrf⟩
end Go.Proofs.YtgmifemhkjdblaaGreatDoor
namespace Go.Lg
open Go.RowKit
def X5 (L:LN) (W W':World):Prop:=∀(k:Nat) (o:Obj),k∉L→W.heap[k]?=some o→o.isCells=true→W'.heap[k]?=some o
theorem X5.refl (L:LN) (W:World):X5 L W W:=λ_ _ _ h _=>h
theorem X5.trans {L:LN}{A B C:World}(h:X5 L A B) (k:X5 L B C):X5 L A C:=λi o hn ho hc=>k i o hn (h i o hn ho hc) hc
theorem At.cst {L:LN}{W W':World}{a:Addr}{us:LV}(h:At L W.heap a us) (hc:X5 L W W') (hz:W.heap.size≤W'.heap.size):At L W'.heap a us:=by
 refine ⟨h.out,Nat.lt_of_lt_of_le h.lt hz,λj u hu=>?_⟩
 have h1:=h.cell j u hu
 unfold cel at h1 ⊢
 rw[Z2] at h1 ⊢
 cases ho:W.heap[a.block]? with
 | none=>rw[ho] at h1;cases h1
 | some o =>
  rw[ho] at h1
  cases o with
  | cells c t m=>rw[hc a.block _ h.out ho rfl];exact h1
  | _=>cases h1
theorem Zw.cst {L:LN}{W W':World}{v:Value}{n sz:Nat}{cs:LV}(h:Zw L W.heap v n sz cs) (hc:X5 L W W') (hz:W.heap.size≤W'.heap.size):Zw L W'.heap v n sz cs :=
 ⟨h.1,h.2.1,h.2.2.imp id λ⟨a,cap,h1,h2,h3⟩=>⟨a,cap,h1,h2,h3.cst hc hz⟩⟩
structure LwC (B:Nat) (L:LN) (W W':World):Prop where
 lw:Lw B L W W'
 cst:X5 L W W'
theorem LwC.trans {B:Nat}{L:LN}{w0 w w':World}(h:LwC B L w0 w) (k:LwC B L w w'):LwC B L w0 w':=⟨h.lw.trans k.lw,h.cst.trans k.cst⟩
def rdC {α:Type}(B:Nat) (L:LN) (I:List α→World→Prop) (X:Exit→List α→World→Prop) (xs:List α) (W:World):Exit→LN→Fr→World→Prop
 | .normal,_,_,W'=>Xp B L W W'∧X5 L W W'∧I xs W'
 | .ret,_,_,W'=>Xp B L W W'∧X .ret xs W'
 | .exit i,_,_,W'=>Xp B L W W'∧X (.exit i) xs W'
 | _,_,_,_=>False
theorem QgI {α:Type}{m:Nat}{P:Program}{n:Nat}{Q:Exit→LN→Fr→World→Prop}{ds:LN}{f:Fr}{w:World}{g:Operand}{ps:LN}{assign body:Code}(L:LN) (h1:1≤m)
  {gf:Nat} {fn:Func} [hF:Fu P gf fn] {capt:LV} (hg:ev f g=.func (.func gf) #[] capt.toArray) {encs:α→LV} {S Sp:List α→Prop} {N:Nat} (hp:∀p∈ps,p<n) (hlen:∀x,(encs x).length=ps.length)
  (hseq:SeqStopsK (fen none) (m - 1) P gf capt.toArray (λx=>(encs x).toArray) (LwC w.heap.size L) S Sp N w)
  (I:List α→World→Prop) (hI:∀s,ZX w.heap.size (I s)) (X:Exit→List α→World→Prop) (hX:∀e s,ZX w.heap.size (X e s)) (h0:I [] w) (A:Fr→α→Fr→World→Prop) (hA:∀x f',ZX w.heap.size (A f x f'))
  (hassign:∀l pre x W,I pre W→WG (some l) (m - 1 - 1) P n assign (QaZ (λds' f' W'=>ds'=[]∧Xp w.heap.size L W W'∧X5 L W W'∧I pre W'∧A f x f' W') (λ_ _ _ _=>False)) [] (QaY f ps (encs x)) W)
  (hbody:∀l pre x f' W,I pre W→A f x f' W→pre.length<N→WG (some l) (m - 1 - 1) P n body (rdC w.heap.size L I X (pre++[x]) W) [] f' W)
  (hdone:∀D xs W,w.heap.size≤D→S xs→I xs W→W.heap[D]?=some (.deferred (some []))→Q .normal (D::ds) f W)
  (hstop:∀D e pre W,w.heap.size≤D→Sp pre→X e pre W→W.heap[D]?=some (.deferred (some []))→(e=.ret∨∃i,e=.exit i)→Q e (D::ds) f W) :
  WG none m P n (.rangeFunc g ps.toArray assign body) Q ds f w:=by
 unfold WG at hassign hbody ⊢
 intro a ha
 have eg:∀args w,(callFunc gf args).run P w=.ok (.enter gf args) w:=by
  intro args w
  have h1:¬fn.name = "runtime.NumGoroutine" := by simpa using hF.nm
  have h2:¬fn.body=none:=by have:=hF.b;intro e;rw[e] at this;cases this
  simp[callFunc,hF.f,h1,h2]
 have keep:∀{W W':World},Xp w.heap.size L W W'→KeepsFrom w.heap.size W W':=λh=>⟨h.lw.size,λk o _ hk ho=>h.other k o hk ho⟩
 refine wpIn_rangeFunc_ownH (F:=fen none) rfl h1 (gf:=gf) (lb:=capt.toArray) (by rw[ha.eval];exact hg) trivial eg hseq (λh k=>h.trans k)
  (λW l o o' hl ho hoc _=>⟨⟨rfl,rfl,rfl,by simp,λk hk _=>World.putObj_heap_other (by omega)⟩,λk o2 _ hk hc=>by
   have hne:k≠l:=λe=>by subst e;rw[ho] at hk;cases hk;rw[hoc] at hc;cases hc
   rw[World.putObj_heap_other hne];exact hk⟩) (Below.refl _ _) (λx=>by simp[hlen x]) I
  (λc pre W=>match c with | .ret=>X .ret pre W | .exit i=>X (.exit i) pre W | _=>False) (ZX.own hI) (λc=>ZX.own λs=>?_) h0
  (λx a' W=>∃f',Ys n [] a' f'∧A f x f' W) (λx a'=>ZX.own λ_=>ZX.ex λf'=>ZX.and (ZX.pure _) (hA x f')) ?_ ?_ ?_ ?_
 ·cases c <;> first | exact hX _ s | exact ZX.pure _
 ·intro l pre x W K hi hK
  have hr:Ys n [] { tmps:=(ps.toArray.zip (encs x).toArray).foldl (λt (p,v)=>t.setIfInBounds p v) a.tmps,defers:=[] } (QaY f ps (encs x)):=by
   have h2:Ys n [] { a with defers:=[] } f:=⟨ha.size,rfl,ha.get⟩
   have h3:=VJ ps (encs x) _ _ h2 hp
   have e:(ps.toArray.zip (encs x).toArray).foldl (λt (p,v)=>t.setIfInBounds p v) a.tmps=(ps.zip (encs x)).foldl (λt (x:Nat×Value)=>t.setIfInBounds x.1 x.2) a.tmps:=by simp
   rw[e];exact h3
  refine wpIn_mono (hassign l pre x W hi _ hr) ?_
  rintro e a' W' ⟨ds',f',h2,_,h3⟩
  cases e with
  | normal=>obtain ⟨rfl,h4,h4c,h5,h6⟩:=h3;exact hK a' W' (keep h4) ⟨h4.lw,h4c⟩ h5 ⟨f',h2,h6⟩
  | exit id=>exact h3.elim
  | goto l=>exact h3.elim
  | ret=>exact h3.elim
  | panic ch=>exact h3.elim
  | outgrown=>exact h3.elim
 ·rintro l pre x a' W _ _ hi ⟨f',h2,h3⟩ hlt
  refine wpIn_mono (hbody l pre x f' W hi h3 hlt a' h2) ?_
  rintro e a'' W' ⟨ds',f'',h4,_,h5⟩
  cases e with
  | normal=>exact ⟨keep h5.1,⟨h5.1.lw,h5.2.1⟩,h5.2.2⟩
  | exit id=>exact ⟨keep h5.1,h5.2⟩
  | goto l=>exact h5.elim
  | ret=>exact ⟨keep h5.1,h5.2⟩
  | panic ch=>exact h5.elim
  | outgrown=>exact h5.elim
 ·intro D xs W hD hS hi hd
  exact ⟨D::ds,f,⟨ha.size,by rw[show coll (D::ds)={ target:=.collected D,args:=#[] }::coll ds from rfl,ha.defers],ha.get⟩,λ_ _=>rfl,hdone D xs W hD hS hi hd⟩
 ·intro D c pre W hD hS hx hd
  have hrel:Ys n (D::ds) { a with defers:={ target:=.collected D,args:=#[] }::a.defers } f:=⟨ha.size,by rw[show coll (D::ds)={ target:=.collected D,args:=#[] }::coll ds from rfl,ha.defers],ha.get⟩
  cases c with
  | ret=>exact wpIn_ret ⟨_,f,hrel,λ_ _=>rfl,hstop D .ret pre W hD hS hx hd (.inl rfl)⟩
  | exit i=>exact wpIn_exit ⟨_,f,hrel,λ_ _=>rfl,hstop D (.exit i) pre W hD hS hx hd (.inr ⟨i,rfl⟩)⟩
  | _=>exact hx.elim
theorem xy2 {m:Nat}{P:Program}{ops:List Oper}{rest:List Oper}{f:Fr}{w:World}{K:Fr→World→Prop}{d:Option Nat}{ty:Nat}{ps:String}{af:Array Edge}{gd:Option (Nat×Bool)}{x y z:Operand}{at_:Array Nat}{l:Nat}{R:Ending→World→Prop}
  (hx:ev f x=.func (.yield l) #[] #[]) (hy:YieldAt (fen none) (m - 1) P l #[ev f y,ev f z] w R) (hK:∀e w',R e w'→∃v,e=.returned v∧XI P m ops K rest (QU f d v) w')
  (hg:ZZ ops f ⟨d,.call ⟨.value x,[y,z].toArray,at_⟩,ty,ps,af,gd⟩=true:=by rfl) :
  XI P m ops K (⟨d,.call ⟨.value x,[y,z].toArray,at_⟩,ty,ps,af,gd⟩::rest) f w:=by
 obtain ⟨fn,tmps,assign,body,h1,h2⟩:=hy
 have hr:(execOp (ev f) ⟨d,.call ⟨.value x,[y,z].toArray,at_⟩,ty,ps,af,gd⟩).run P w=.ok (.round l fn tmps assign body) w:=by
  simp[execOp,resolve,hx,Deferred.ofValue,invoke,h1]
 unfold XI
 rw[hg]
 simp only[XOY,hr,upY,cond_true]
 exact h2.mono λe w' h=>by obtain ⟨v,rfl,hk⟩:=hK e w' h;exact hk
end Go.Lg
namespace Go.Proofs.YtgmifemhkjdblaaGreatDoor
open Tryz
open Go.Lg
def wrf (rq:List Jj) (rs:LI):LI→List (Int×Int)
 | []=>[]
 | v::l=>if 0≤rfr v 0 rq rs then (v,rfr v 0 rq rs)::wrf rq rs l else wrf rq rs l
theorem jm (rq:List Jj) (rs:LI) (v:Int):∀l,wrf rq rs (l++[v])=wrf rq rs l++if 0≤rfr v 0 rq rs then [(v,rfr v 0 rq rs)] else []
 | []=>by simp only[List.nil_append,wrf]
 | a::l=>by
  simp only[List.cons_append,wrf,jm rq rs v l]
  by_cases h:0≤rfr a 0 rq rs
  ·rw[if_pos h,if_pos h];rfl
  ·rw[if_neg h,if_neg h]
theorem KB (rq:List Jj) (rs:LI) (b:LI):∀a,wrf rq rs (a++b)=wrf rq rs a++wrf rq rs b
 | []=>rfl
 | x::a=>by
  simp only[List.cons_append,wrf,KB rq rs b a]
  by_cases h:0≤rfr x 0 rq rs
  ·rw[if_pos h,if_pos h];rfl
  ·rw[if_neg h,if_neg h]
theorem Qg2 (rq:List Jj) (rs:LI) (l:LI) (k:Nat):(wrf rq rs (l.take k)).length≤(wrf rq rs l).length:=by
 have h:=KB rq rs (l.drop k) (l.take k)
 rw[List.take_append_drop] at h
 rw[h,List.length_append];omega
theorem Qd0 {rq:List Jj}{rs:LI}{l:LI}{k:Nat}(h:k<l.length):wrf rq rs (l.take (k+1))=wrf rq rs (l.take k)++if 0≤rfr (cget l k) 0 rq rs then [(cget l k,rfr (cget l k) 0 rq rs)] else []:=by
 rw[List.take_succ_eq_append_getElem h,jm,Zg h]
theorem yh {rq:List Jj}{rs:LI}{x:Int×Int}:∀{l:LI},x∈wrf rq rs l↔x.1∈l∧0≤x.2∧x.2=rfr x.1 0 rq rs
 | []=>by simp[wrf]
 | v::l=>by
  rw[wrf]
  have ih:=yh (rq:=rq) (rs:=rs) (x:=x) (l:=l)
  by_cases h:0≤rfr v 0 rq rs
  ·rw[if_pos h,List.mem_cons,ih,List.mem_cons]
   constructor
   ·rintro (rfl | ⟨h1,h2⟩)
    ·exact ⟨.inl rfl,h,rfl⟩
    ·exact ⟨.inr h1,h2⟩
   ·rintro ⟨h1 | h1,h2,h3⟩
    ·exact .inl (by rw[←h1];exact Prod.ext_iff.2 ⟨rfl,h3⟩)
    ·exact .inr ⟨h1,h2,h3⟩
  ·rw[if_neg h,ih,List.mem_cons]
   constructor
   ·rintro ⟨h1,h2⟩;exact ⟨.inr h1,h2⟩
   ·rintro ⟨h1 | h1,h2,h3⟩
    ·exact absurd (by rw[←h1,←h3];exact h2) h
    ·exact ⟨h1,h2,h3⟩
theorem jG {w:World}{b:Nat}{st:Int}{vr:Value}(hr1:vr.cells=[vr].toArray) :
  QG prog 177 [.pointer (some ⟨b,0,none⟩),.int .i64 st,vr] w λr w'=>Step [] w w'∧∃b1 b2 b3,r=.func (.func 215) #[] #[.pointer (some ⟨b1,0,none⟩),.pointer (some ⟨b2,0,none⟩),.pointer (some ⟨b3,0,none⟩)] ∧
   w.heap.size≤b1∧w.heap.size≤b2∧w.heap.size≤b3∧QS w'.heap b1 289 [.pointer (some ⟨b,0,none⟩)]∧QS w'.heap b2 3 [.int .i64 st]∧QS w'.heap b3 40 [vr]:=by
 refine QG.of_W func177 rfl ntmps177 results177 (by simp) ?_
 refine Qc<|xl rfl<|QQ (us:=[.pointer (some ⟨b,0,none⟩)]) rfl λb3 w1 hs1 hb3 hB3=>xl rfl<|QQ (us:=[.int .i64 st]) rfl λb4 w2 hs2 hb4 hB4=>xl rfl<|QQ (us:=[vr]) hr1 λb5 w3 hs3 hb5 hB5=>x Qe <|
  xe ?_
 have hz1:=hs1.size
 have hz2:=hs2.size
 refine Qc<|x Zk<|Qf ?_
 exact Qk ⟨[_],⟨rfl,trivial⟩,(hs1.trans hs2).trans hs3,b3,b4,b5,rfl,hb3,by omega,by omega,(hB3.ext hs2).ext hs3,hB4.ext hs3,hB5⟩
set_option maxHeartbeats 4000000 in
theorem yt {L:LN}{w:World}{b1 b2 b3 b m:Nat}{q:Sty}{vr:Value}{rs es:LI}{st:Int}{fl:List (Int×Int)}(hB1:QS w.heap b1 289 [.pointer (some ⟨b,0,none⟩)]) (hB2:QS w.heap b2 3 [.int .i64 st]) (hB3:QS w.heap b3 40 [vr])
  (h1L:b1∉L) (h3L:b3∉L) (hLw:∀x∈L,x<w.heap.size) (hS:Kt L b w.heap q) (hr:QL L w.heap vr rs) (hok:∀x∈q.c.rq,Q2 x.p.a) (hv:Vt (auts q.c.cel.rq) rs) (hc:cks q.p.a st=0) (hes:enb q.p.a st=es) (hfl:wrf q.c.cel.rq rs es=fl) :
  SeqStopsK (fen none) m prog 215 [.pointer (some ⟨b1,0,none⟩),.pointer (some ⟨b2,0,none⟩),.pointer (some ⟨b3,0,none⟩)].toArray (λx:{ x:Int×Int // x∈fl }=>[Value.int .i64 x.1.1,.int .i64 x.1.2].toArray) (LwC w.heap.size L)
   (λys=>ys.map (·.1)=fl) (λpre=>pre.map (·.1) <+: fl) (fl.length+1) w:=by
 intro l J Jx W hbel hJ hJx hY h0
 have hwW:Step [] w W:=Step.of_below hbel
 have ab:∀{ys:List { x:Int×Int // x∈fl }} {W1 W2:World},J ys W1→Step [] W1 W2→J ys W2:=λ{ys W1 W2} hj hst=>hJ ys W1 W2 none hj ⟨hst.os,hst.tape,hst.output,hst.size,λk hk _=>hst.block k hk (by simp)⟩ (λr e=>by cases e)
 have hel:es.length≤1099511627776:=by
  have h1:=hS.p.ed.le
  have h2:=X8 q.p.a.ed st
  rw[←hes];unfold enb;rw[List.length_map];omega
 have hlk:=Qg2 q.c.cel.rq rs es
 rw[hfl] at hlk
 have key:QG prog 215 [.func (.yield l) #[] #[],.pointer (some ⟨b1,0,none⟩),.pointer (some ⟨b2,0,none⟩),.pointer (some ⟨b3,0,none⟩)] W (λ_ W'=>(∃ys,ys.map (·.1)=fl∧J ys W')∨(∃pre,pre.map (·.1) <+: fl∧Jx pre W')):=by
  refine QG.of_G m func215 rfl ntmps215 results215 (by simp) ?_
  have hB1':=hB1.ext hwW
  have hB2':=hB2.ext hwW
  have hSW:=hS.ext hwW
  refine QZ<|jh (Step [] W) [(0,true),(1,true),(2,true),(3,true),(4,true),(5,false),(6,true),(7,true),(8,true),(9,true),(10,true)] mixed (by rfl) (by rfl) (by kernel_rfl) (Step.drew _ _) ?_
  refine pq (λ_ hc=>Qd (hB1'.ext hc) rfl rfl)<|p (λ_=>QE rfl)<|p (λ_=>Qa rfl)<|pq (λ_ hc=>Zv (us:=Q7 q.p) (hSW.B.ext hc) rfl rfl rfl)<|pq (λ_ hc=>Qd (hB2'.ext hc) rfl rfl)<|pk<|xf<|(KW (hSW.p.ext (Step.drew _ _)) st).mono ?_
  rintro r1 w1 ⟨hs1,ve,rfl,_,hve⟩
  have hve:=hve hc
  have hs01:=(Step.drew [] W).trans hs1
  refine ⟨hs01,?_⟩
  refine p (λ_=>Qo)<|p (λ_=>Qj rfl rfl)<|p (λ_=>Qj rfl rfl)<|p (λ_=>Qe)<|p (λ_=>Qe)<|pe ?_
  have hzw:=hwW.size
  have hzd:({ W with drawn:=W.drawn+1 }:World).heap.size=W.heap.size:=rfl
  rw[hes] at hve
  have hE1:QL L w1.heap ve es:=Qt.ints hve hel (λx hx=>by have:=hLw x hx;omega)
  refine QZ<|QI (by rfl) (by rfl) ?_
  refine Qb<|x (Qs hE1 rfl)<|Qb<|xe ?_
  refine ZJ<|KU (α:=Nat×List { x:Int×Int // x∈fl }) [(8,9),(21,38)] (λz=>[(21,.int .i64 z.1)]) (λz ds W'=>ds=[]∧z.1≤es.length∧Step L w W'∧QL L W'.heap ve es∧z.2.map (·.1)=wrf q.c.cel.rq rs (es.take z.1)∧J z.2 W') (λz=>es.length - z.1) (by rfl) (0,[]) ⟨rfl,trivial⟩
   ⟨rfl,Nat.zero_le _,(hwW.trans hs01).any,hE1,rfl,ab h0 hs01⟩ ?_
  rintro ⟨k,ys⟩ g ds w2 ⟨rfl,hk,hs2,hE2,hys,hJ2⟩
  simp only[] at hk hE2 hys hJ2
  refine QZ<|QI (by rfl) (by rfl) ?_
  refine x (QB rfl rfl)<|xe ?_
  refine QZ<|qM rfl (λh22=>?_) (λh22=>?_)
  ·refine Jv ?_
   have hke:es.length≤k:=by have h23:¬(k:Int)<(es.length:Int):=h22;omega
   rw[List.take_of_length_le hke,hfl] at hys
   exact ⟨λ_ h=>(by cases h),List.nodup_nil,[],λW' hW'=>⟨trivial,.inl ⟨ys,hys,ab hJ2 hW'⟩⟩⟩
  refine Z3 ?_
  have hlt:k<es.length:=by have h23:(k:Int)<(es.length:Int):=h22;omega
  have htk:=Qd0 (rq:=q.c.cel.rq) (rs:=rs) hlt
  have hyl:ys.length<fl.length+1:=by have h1:=congrArg List.length hys;rw[List.length_map] at h1;have:=hlk k;omega
  have hcm:cget es k∈es:=by rw[←Zg hlt];exact List.getElem_mem hlt
  refine Zc (cget es k) λv hvv=>?_
  rw[hvv] at htk hcm
  refine Zc (rfr v 0 q.c.cel.rq rs) λj hj=>?_
  rw[hj] at htk
  refine QZ<|ZJ<|QZ<|QI (by rfl) (by rfl) ?_
  refine xic (i:=k) hE2 rfl rfl hlt λa23 h23=>?_
  rw[hvv] at h23
  refine x (Qw h23 rfl)<|Qf<|QZ<|QI (by rfl) (by rfl) ?_
  refine x (Qd (hB1.step hs2 h1L) rfl rfl)<|x (Qd (hB3.step hs2 h3L) rfl rfl)<|Qb<|xl rfl<|xf<|(Qa8 (v:=v) (hS.st hs2) (hr.st hs2) hok hv).mono ?_
  rintro r3 w3 ⟨hr3,hs3⟩
  rw[hj] at hr3
  subst hr3
  refine Qf<|QZ<|Kl (by rfl) ?_
  refine XI.pre3 ?_
  refine Qb<|xb (ZM rfl rfl) (λh30=>?_) (λh30=>?_)
  ·have h31:0≤j:=h30
   have hme:(v,j)∈fl:=by rw[←hfl];exact yh.2 ⟨hcm,h31,hj.symm⟩
   rw[if_pos h31] at htk
   have hpre:(ys++[(⟨(v,j),hme⟩:{ x:Int×Int // x∈fl })]).map (·.1) <+: fl:=by
    rw[List.map_append,hys,show [(⟨(v,j),hme⟩:{ x:Int×Int // x∈fl })].map (·.1)=[(v,j)] from rfl,←htk,←hfl]
    have h9:=KB q.c.cel.rq rs (es.drop (k+1)) (es.take (k+1))
    rw[List.take_append_drop] at h9
    exact ⟨_,h9.symm⟩
   refine Qb<|xe ?_
   refine XI.pre3 ?_
   refine Qb<|Qb<|Qb<|xe ?_
   refine xy2 (l:=l) rfl (hY ys ⟨(v,j),hme⟩ w3 (ab hJ2 hs3) hyl) λen W3 hen=>Or.elim hen (λh1=>⟨.bool true,h1.1,?_⟩) (λh1=>⟨.bool false,h1.1,?_⟩)
   ·refine XI.of_XL<|x (Zp rfl)<|x (Qp rfl)<|xe ?_
    refine Km rfl<|Z3 ?_
    refine QI (by rfl) (by rfl) ?_
    refine x (Qy rfl rfl ⟨by omega,by omega⟩)<|Qb<|xe ?_
    exact ⟨(k+1,ys++[⟨(v,j),hme⟩]),by simp only[];omega,⟨rfl,trivial⟩,rfl,hlt,(hs2.trans hs3).lw h1.2.2.lw,(hE2.ext hs3).cst h1.2.2.cst h1.2.2.lw.size,by simp only[];rw[htk,List.map_append,hys];rfl,h1.2.1⟩
   ·refine XI.of_XL<|x (Zp rfl)<|x (Qp rfl)<|xe ?_
    refine jg rfl ?_
    refine J4 ⟨λ_ h=>(by cases h),List.nodup_nil,[],λW' hW'=>⟨trivial,.inr ⟨ys++[⟨(v,j),hme⟩],hpre,?_⟩⟩⟩
    exact hJx _ W3 W' none h1.2 ⟨hW'.os,hW'.tape,hW'.output,hW'.size,λk hk _=>hW'.block k hk (by simp)⟩ (λr e=>by cases e)
  have h31:¬0≤j:=h30
  rw[if_neg h31,List.append_nil] at htk
  refine Qb<|xe ?_
  refine XI.of_XL<|xs rfl<|xs rfl<|xs rfl<|xs rfl<|xs rfl<|x (Qp rfl)<|xe ?_
  refine Km rfl<|Z3 ?_
  refine QI (by rfl) (by rfl) ?_
  refine x (Qy rfl rfl ⟨by omega,by omega⟩)<|Qb<|xe ?_
  exact ⟨(k+1,ys),by simp only[];omega,⟨rfl,trivial⟩,rfl,hlt,hs2.trans hs3,hE2.ext hs3,by simp only[];rw[htk,hys],ab hJ2 hs3⟩
 refine (callsIn_wide (n:=m)).2 ?_
 have ea:(#[.func (.yield l) #[] #[]]++[.pointer (some ⟨b1,0,none⟩),.pointer (some ⟨b2,0,none⟩),.pointer (some ⟨b3,0,none⟩)].toArray:Array Value)=[.func (.yield l) #[] #[],.pointer (some ⟨b1,0,none⟩),.pointer (some ⟨b2,0,none⟩),.pointer (some ⟨b3,0,none⟩)].toArray:=by simp
 rw[ea]
 unfold QG at key
 refine Calls.mono key λe w' he=>?_
 cases e with
 | returned v=>exact ⟨⟨v,rfl⟩,he⟩
 | panicked c=>exact he.elim
 | outgrown=>exact he.elim
end Go.Proofs.YtgmifemhkjdblaaGreatDoor
namespace Go.Lg
section
variable {P:Program} {K:Fr→World→Prop} {f:Fr} {w:World} {d:Option Nat} {ty:Nat} {ps:String} {af:Array Edge} {gd:Option (Nat×Bool)}
theorem Kc {t sz:Nat}[h1:Ag P t sz] {x y:Operand}{b T o:Nat}{cs us cs':LV}(hB:QS w.heap b T cs) (hx:ev f x=.pointer (some ⟨b,o,none⟩)) (hy:ev f y=.agg us.toArray) (hl:us.length=sz) (hj:o+sz≤cs.length) (hu:ZD us) (he:cs.take o++us++cs.drop (o+sz)=cs')
  (hK:∀w',Step [b] w w'→QS w'.heap b T cs'→K (QU f d undef) w'):XO P ⟨d,.store t x y,ty,ps,af,gd⟩ f w K:=by
 have hr:=run_storeCells_at P b o T us 0 cs.toArray w hB (by simp;omega) hu.all
 subst hl
 simp only[Nat.add_zero,he] at hr
 refine xk (w':=w.setRow b cs'.toArray) ?_ (hK _ (Step.setRow _ _ _) (KJ hB))
 simp[execOp,hx,hy,Instr.storeAt,Instr.sureAddr,storeVar,VH (sz:=us.length),Value.cells,hr]
end
end Go.Lg
namespace Go.Proofs.YtgmifemhkjdblaaGreatDoor
open Tryz
open Go.Lg
instance:Bw prog 293 [nS,nS,nS,nS,nS,nS,.int .i64 0,nS,nS,nS,nS,.int .i64 0,nS,nS,nS,nS,nS,nS,.map none] [(0,5),(5,4),(9,1),(10,4),(14,1),(15,3),(18,1)]:=⟨by kernel_rfl,by decide⟩
theorem Yb.shape {N:Nat}{H:Array Obj}{aa:List QM}{v vt:Value}{c:Int}(h:Yb N H aa v vt c):∃(a:QM) (va vm ve:Value) (qs:List TV),v=.agg #[va,.int .i64 a.st,vm,ve]∧ZD [va,.int .i64 a.st,vm,ve]∧vt.oneCell'=true ∧
  (c=0→sync aa=some (a,qs.map (·.2))∧JB aa=0∧∀L:LN,(∀b∈L,b<N)→Zm L H va vm ve a∧XD L H vt qs):=by
 by_cases hc:c=0
 ·obtain ⟨⟨va,vm,ve,h1,h2⟩,⟨qs,h3,h4⟩,h5,h6⟩:=h.good hc
  have hA:=h2 [] (by simp)
  exact ⟨syA aa,va,vm,ve,qs,h1,⟨hA.al.one,rfl,hA.mr.one,hA.ed.one,trivial⟩,(h4 [] (by simp)).arr.one,λ_=>⟨by rw[h3];exact h5,h6,λL hL=>⟨h2 L hL,h4 L hL⟩⟩⟩
 ·obtain ⟨h1,h2⟩:=h.bad hc
  exact ⟨⟨[],0,[],[]⟩,Zf,Zf,Zf,[],h1,⟨rfl,rfl,rfl,rfl,trivial⟩,by rw[h2];rfl,λe=>absurd e hc⟩
def plE (c:ZB):Int:=if Zh c≠0 then Zh c else XG (auts c.co)
theorem yc.shape {N:Nat}{H:Array Obj}{c:ZB}{v vt:Value}{e:Int}(h:yc N H c v vt e):e=plE c∧∃(a:QM) (va vm ve:Value) (qs:List TV),v=.agg #[va,.int .i64 a.st,vm,ve]∧ZD [va,.int .i64 a.st,vm,ve]∧vt.oneCell'=true ∧
  (e=0→Zh c=0∧sync (auts c.co)=some (a,qs.map (·.2))∧JB (auts c.co)=0∧∀L:LN,(∀b∈L,b<N)→Zm L H va vm ve a∧XD L H vt qs):=by
 unfold yc at h
 unfold plE
 by_cases hc:Zh c≠0
 ·rw[if_pos hc] at h ⊢
  obtain ⟨h1,h2,h3⟩:=h
  exact ⟨h1,⟨[],0,[],[]⟩,Zf,Zf,Zf,[],h2,⟨rfl,rfl,rfl,rfl,trivial⟩,by rw[h3];rfl,λe=>absurd (h1.symm.trans e) hc⟩
 ·rw[if_neg hc] at h ⊢
  obtain ⟨a,va,vm,ve,qs,h1,h2,h3,h4⟩:=h.shape
  exact ⟨h.e,a,va,vm,ve,qs,h1,h2,h3,λe=>⟨Decidable.not_not.1 hc,h4 e⟩⟩
theorem Qhe (c:ZB):Y4 c=if plE c≠0 then plE c else XG (auts c.co++auts c.rq):=by
 rw[Qhf];unfold plE
 by_cases h:Zh c≠0
 ·rw[if_pos h,if_pos h,if_pos h]
 ·rw[if_neg h,if_neg h]
theorem QiF {L:LN}{H:Array Obj}{ps:List AV}(h:∀p∈ps,Zm L H p.va p.vm p.ve p.a):∀u∈ps.flatMap Q7,u.oneCell'=true:=by
 intro u hu
 obtain ⟨p,hp,hup⟩:=List.mem_flatMap.1 hu
 have hA:=h p hp
 simp only[List.mem_cons,List.not_mem_nil,or_false] at hup
 rcases hup with rfl | rfl | rfl | rfl
 ·exact hA.al.one
 ·rfl
 ·exact hA.mr.one
 ·exact hA.ed.one
theorem QjU {F:LN→Array Obj→Prop}(st:∀{L:LN}{w w':World},F L w.heap→Step L w w'→F L w'.heap) (up:∀{L L':LN}{H:Array Obj},F L H→(∀b∈L',b∈L∨H.size≤b)→F L' H) {N b:Nat}{w w':World}
  (h:∀L:LN,(∀x∈L,x<N)→F L w.heap) (hb:b<N) (hs:Step [b] w w'):∀L:LN,(∀x∈L,x<N)→F L w'.heap:=λL hL =>
 up (st (h (b::L) (λx hx=>by
  rcases List.mem_cons.1 hx with rfl | hx
  ·exact hb
  ·exact hL x hx)) (hs.mono (λx hx=>by simp only[List.mem_singleton] at hx;subst hx;exact List.mem_cons_self))) (λx hx=>.inl (List.mem_cons_of_mem _ hx))
theorem V1.nil (n:Nat):V1 n [] []:=λu _ _=>by simp[mget]
set_option maxHeartbeats 8000000 in
theorem Qgn {L:LN}{w:World}{c:CL}(h0:ZH L w.heap c) (hkb:Kb w 4096) :
  QG prog 173 [c.val] w λr w'=>Step [] w w'∧∃vp,r=.tuple #[vp,.int .i64 (Y4 c.cel)]∧(Y4 c.cel≠0→vp=.pointer none) ∧
   (Y4 c.cel=0→∃b q,vp=.pointer (some ⟨b,0,none⟩)∧q.c=c∧Ql6 q∧Kt [] b w'.heap q∧∀L:LN,(∀x∈L,x<w.heap.size)→Zm L w'.heap q.s.va q.s.vm q.s.ve q.s.a):=by
 have h:=h0.up (L':=[]) (by simp)
 have hE:=Qhe c.cel
 refine Zc (Y4 c.cel) λE hEq=>?_
 rw[hEq] at hE ⊢
 refine QG.of_W func173 rfl ntmps173 results173 (by simp) ?_
 refine Qc<|xl rfl<|QQ (us:=c.cells) rfl λb1 w1 hs1 hb1 hB1=>x Qe<|Qf ?_
 have hz1:=hs1.size
 have hl1:=hB1.lt
 have hones:=h.ones
 refine Qc<|x (Qn hB1 rfl rfl)<|x (Zx [(0,c.cells)] ⟨rfl,rfl,trivial⟩)<|xl rfl<|QQ (us:=[c.ve,c.vc,c.vr,c.vx,c.vk,nS,.int .i64 0,nS,nS,nS,nS,.int .i64 0,nS,nS,nS,nS,nS,nS,.map none]) rfl λb10 w2 hs2 hb10 hB10=>Qf ?_
 have hs02:=hs1.trans hs2
 have hz2:=hs02.size
 have hl10:=hB10.lt
 have hB12:=hB1.ext hs2
 have h2:=h.ext hs02
 have hge:w.heap.size≤b10:=by omega
 have hne:b1≠b10:=by omega
 refine Qc<|Qf<|Qg<|Qc<|Qb<|Qb<|x (Qn hB12 rfl rfl)<|xl rfl<|xf<|(QgC h2 (hkb.ext hs02)).mono ?_
 rintro r3 w3 ⟨hs3,v3,vq,e3,rfl,hP⟩
 obtain ⟨hPe,pa,pva,pvm,pve,qs,rfl,hP1,hP2,hP3⟩:=hP.shape
 have hs03:=hs02.trans hs3
 refine Qb<|x (Qj rfl rfl)<|x (Qj rfl rfl)<|x (Qj rfl rfl)<|x (QE rfl)<|x (Qa rfl)<|xl rfl<|Kc (us:=[pva,.int .i64 pa.st,pvm,pve]) (hB10.ext hs3) rfl rfl rfl (by simp) hP1 rfl λw4 hs4 hB10 =>
  x (QE rfl)<|x (Qa rfl)<|xl rfl<|QF (j:=9) (u:=vq) hB10 rfl rfl (by simp) hP2 λw5 hs5 hB10=>Qf ?_
 have hs35:Step [b10] w3 w5:=hs4.trans' hs5
 have hs05:Step [] w w5:=hs03.then1 hs35 hge
 refine Qc<|Qb<|x (Q4 rfl rfl)<|xe ?_
 refine Q3 rfl (λh24=>?_) (λh24=>?_)
 ·have hpl:plE c.cel≠0:=by rw[←hPe];exact h24
  rw[if_pos hpl,←hPe] at hE
  subst hE
  refine Qc<|Qb<|x Qe<|Qf ?_
  exact Qk ⟨[_,_],⟨rfl,rfl,trivial⟩,hs05,.pointer none,rfl,λ_=>rfl,λe=>absurd e h24⟩
 have he3:e3=0:=Decidable.not_not.1 h24
 rw[if_neg (by rw[←hPe,he3];decide)] at hE
 obtain ⟨hck,hsy,hcp,hPA⟩:=hP3 he3
 have hok:=ZP hck
 refine Qi ?_
 have hB15:=(hB12.ext hs3).step hs35 (by simp;omega)
 have h5:=h.ext hs05
 have hcl:=h.co.arr.le
 have hrl:=h.rq.arr.le
 have hc8:c.co.length≤8:=by have:=hok.c8;have e:c.cel.co.length=c.co.length:=List.length_map ..;omega
 have hcr:c.co.length+c.rq.length≤12:=by have:=hok.cr;have e:c.cel.co.length=c.co.length:=List.length_map ..;have e':c.cel.rq.length=c.rq.length:=List.length_map ..;omega
 refine Qg<|Qg<|QT (Step [] w5) [(0,true),(1,true),(2,true),(3,true),(5,true),(6,true),(4,false),(7,false),(8,false),(9,false),(10,true),(11,true),(12,true),(13,true),(14,true),(15,true),(16,false),(17,true),(18,true),(19,false),(20,true)] mixed (by rfl) (by kernel_rfl) (Step.drew _ _) ?_
 refine p (λ_=>Qo)<|p (λ_=>Qo)<|p (λ_=>Qa rfl)<|pq (λ_ hc=>Qd (hB15.step hc (by simp)) rfl rfl)<|p (λ_=>Qa rfl) <|
  pq (λ_ hc=>Qd (hB15.step hc (by simp)) rfl rfl)<|pk<|xf<|(Qbn (h5.co.ext (Step.drew _ _))).mono ?_
 rintro r6 w6 ⟨hs6,ho6⟩
 have hs56:=(Step.drew [] w5).trans hs6
 refine ⟨hs56,?_⟩
 refine pk<|xf<|(Qbn (h5.rq.ext hs56)).mono ?_
 rintro r7 w7 ⟨hs7,ho7⟩
 have hs57:=hs56.trans hs7
 refine ⟨hs57,?_⟩
 have hz6:=hs6.size
 have hz7:=hs7.size
 have hzd:({ w5 with drawn:=w5.drawn+1 }:World).heap.size=w5.heap.size:=rfl
 have hA7:Zw [] w7.heap r7 (c.rq.map (·.p)).length 4 ((c.rq.map (·.p)).flatMap Q7):=QV ho7 (by rw[List.length_map];omega) (by simp)
 have hge6:=Qq ho6
 refine pk<|QeY (Qu ho6 hs7) rfl hA7 rfl (QiF λp hp=>by
   obtain ⟨q,hq,rfl⟩:=List.mem_map.1 hp
   exact (h.rq.each q hq)) (by rw[List.length_map,List.length_map];omega) (by omega) λv8 w8 ho8 hs8 hn8=>?_
 have hs58:Step [] w5 w8:=hs57.then hs8 (λb hb=>.inr (by have:=(hge6 b hb).1;omega))
 refine ⟨hs58,?_⟩
 have hs08:=hs05.trans hs58
 have hz58:=hs58.size
 have hA8:YG [] w8.heap v8 (c.co.map (·.p)++c.rq.map (·.p)):=by
  rw[←List.length_append,←List.flatMap_append] at ho8
  exact Qfw ho8 (by rw[List.length_append,List.length_map,List.length_map];omega) (by simp) (λp hp=>by
   rcases List.mem_append.1 hp with hp | hp
   ·obtain ⟨q,hq,rfl⟩:=List.mem_map.1 hp
    exact (h.co.each q hq).ext hs08
   ·obtain ⟨q,hq,rfl⟩:=List.mem_map.1 hp
    exact (h.rq.each q hq).ext hs08)
 have hoks:∀p∈c.co.map (·.p)++c.rq.map (·.p),Q2 p.a:=λp hp=>by
   rcases List.mem_append.1 hp with hp | hp
   ·obtain ⟨q,hq,rfl⟩:=List.mem_map.1 hp
    exact hok.co q.it (List.mem_map_of_mem hq)
   ·obtain ⟨q,hq,rfl⟩:=List.mem_map.1 hp
    exact hok.rq q.it (List.mem_map_of_mem hq)
 refine pk<|xf<|(VA (km:=4096) hA8 (hkb.ext hs08) (by decide) (Ur hoks)).mono ?_
 rintro r9 w9 ⟨hs9,v9,vt,e9,rfl,hR⟩
 rw[List.map_append,QcZ,QiG] at hR
 have hRe:=hR.e
 obtain ⟨sa,sva,svm,sve,ts,rfl,hR1,hR2,hR3⟩:=hR.shape
 have hs59:=hs58.trans hs9
 refine ⟨hs59,?_⟩
 refine p (λ_=>Qo)<|p (λ_=>Qj rfl rfl)<|p (λ_=>Qj rfl rfl)<|p (λ_=>Qj rfl rfl)<|p (λ_=>QE rfl) <|
  p (λ_=>Qa rfl)<|pkl (hl:=by kernel_rfl)<|Kc (us:=[sva,.int .i64 sa.st,svm,sve]) (hB10.ext hs59) rfl rfl rfl (by simp) hR1 rfl λw10 hs10 hB10=>p (λ_=>QE rfl)<|p (λ_=>Qa rfl) <|
  pkl (hl:=by kernel_rfl)<|QF (j:=14) (u:=vt) hB10 rfl rfl (by simp) hR2 λw11 hs11 hB10=>p (λ_=>Qe)<|pe ?_
 have hs911:Step [b10] w9 w11:=hs10.trans' hs11
 have hs511:Step [b10] w5 w11:=hs59.any.trans' hs911
 have hs011:Step [] w w11:=hs05.then1 hs511 hge
 refine Qc<|Qb<|x (Q4 rfl rfl)<|xe ?_
 refine Q3 rfl (λh45=>?_) (λh45=>?_)
 ·rw[←hRe] at hE
  subst hE
  refine Qc<|Qb<|x Qe<|Qf ?_
  exact Qk ⟨[_,_],⟨rfl,rfl,trivial⟩,hs011,.pointer none,rfl,λ_=>rfl,λe=>absurd e h45⟩
 have he9:e9=0:=Decidable.not_not.1 h45
 have hE0:E=0:=by rw[hE,←hRe,he9]
 obtain ⟨hsy2,hcp2,hRA⟩:=hR3 he9
 refine Qi ?_
 have hB111:=hB15.step hs511 (by simp;omega)
 refine Qc<|Qb<|Qb<|x (Qn hB111 rfl rfl)<|xl rfl<|xf<|(zZ (h.ext hs011)).mono ?_
 rintro r12 w12 ⟨hs12,vs,vx,vk,qx,ks,rfl,hqx,hks,hCF⟩
 have hC0:=hCF [] (by simp)
 refine xl rfl<|ZU Xv λbm w13 hs13 hbm hm13=>x (QE rfl)<|x (Qa rfl)<|xl rfl<|Kc (us:=[vs,vx,vk]) ((hB10.ext hs12).ext hs13) rfl rfl rfl (by simp) ⟨hC0.1.one,hC0.2.1.arr.one,hC0.2.2.arr.one,trivial⟩ rfl λw14 hs14 hB10 =>
  x (QE rfl)<|x (Qa rfl)<|xl rfl<|QF (j:=18) (u:=.map (some bm)) hB10 rfl rfl (by simp) rfl λw15 hs15 hB10=>xe ?_
 have hz11:=hs011.size
 have hz12:=hs12.size
 have hz511:=hs511.size
 have hz35:=hs35.size
 have hz3:=hs3.size
 have hz59:=hs59.size
 have hlb:b10<w12.heap.size:=by omega
 have hnb:bm≠b10:=by omega
 have hs1215:Step [b10] w12 w15:=(hs13.any.trans' hs14).trans' hs15
 have hs1315:Step [b10] w13 w15:=hs14.trans' hs15
 have hm15:ZE Xv w15.heap bm []:=hm13.step hs1315 (by simpa using hnb)
 have hs312:Step [b10] w3 w12:=(hs35.trans' hs511).trans hs12
 have hs912:Step [b10] w9 w12:=hs911.trans hs12
 have hs012:=hs011.trans hs12
 have fP:∀{w':World},Step [b10] w12 w'→∀L:LN,(∀x∈L,x<w2.heap.size)→Zm L w'.heap pva pvm pve pa∧XD L w'.heap vq qs:=λhs =>
  QjU (F:=λL H=>Zm L H pva pvm pve pa∧XD L H vq qs) (λh hs=>⟨h.1.st hs,h.2.st hs⟩) (λh hL=>⟨h.1.up hL,h.2.up hL⟩) hPA hl10 (hs312.trans' hs)
 have fS:∀{w':World},Step [b10] w12 w'→∀L:LN,(∀x∈L,x<w8.heap.size)→Zm L w'.heap sva svm sve sa∧XD L w'.heap vt ts:=λhs =>
  QjU (F:=λL H=>Zm L H sva svm sve sa∧XD L H vt ts) (λh hs=>⟨h.1.st hs,h.2.st hs⟩) (λh hL=>⟨h.1.up hL,h.2.up hL⟩) hRA (by omega) (hs912.trans' hs)
 have fC:∀{w':World},Step [b10] w12 w'→∀L:LN,(∀x∈L,x<w11.heap.size)→QL L w'.heap vs (szs c.cel.co)∧Ux L w'.heap vx qx∧yd L w'.heap vk ks:=λhs =>
  QjU (F:=λL H=>QL L H vs (szs c.cel.co)∧Ux L H vx qx∧yd L H vk ks) (λh hs=>⟨h.1.st hs,h.2.1.st hs,h.2.2.st hs⟩) (λh hL=>⟨h.1.up hL,h.2.1.up hL,h.2.2.up hL⟩) hCF (by omega) hs
 have hVs:=(yk (Y3 hok.co) hsy).1
 have hnd:=(Xk (Y3 hok.co) hsy).1.nd
 simp only[] at hVs
 have hal:(auts c.cel.co).length=c.co.length:=by unfold auts;show ((c.co.map IV.it).map _).length=_;simp
 have hQ15:=(fP hs1215 [] (by simp)).2
 have hql:=hQ15.arr.le
 refine Qg<|Qc<|Qb<|x (QE rfl)<|x (Qa rfl)<|x (Qd hB10 rfl rfl)<|x (Qs hQ15.arr rfl)<|Qb<|xe ?_
 refine Qh<|QA (α:=Nat×List (ByteArray×Value)) [(6,7),(61,73)] (λz=>[(61,.int .i64 z.1)]) (λz w'=>z.1≤qs.length∧Step [b10] w12 w'∧QS w'.heap b10 293 [c.ve,c.vc,c.vr,c.vx,c.vk,pva,.int .i64 pa.st,pvm,pve,vq,sva,.int .i64 sa.st,svm,sve,vt,vs,vx,vk,.map (some bm)]∧ZE Xv w'.heap bm z.2∧V1 c.co.length z.2 ((qs.take z.1).map (·.2))) (λz=>qs.length - z.1) (by rfl) (0,[]) ⟨rfl,trivial⟩
  ⟨Nat.zero_le _,hs1215,hB10,hm15,V1.nil _⟩ ?_
 rintro ⟨k,mm⟩ g w16 ⟨hk,hs16,hB16,hm16,hkn⟩
 simp only[] at hk hm16 hkn
 have hs016:Step [] w w16:=hs012.then1 hs16 hge
 refine Qc<|x (QB rfl rfl)<|xe ?_
 refine Qg<|QD rfl (λh62=>?_) (λh62=>?_)
 ·refine Qz ?_
  have hke:qs.length≤k:=by have h63:¬(k:Int)<(qs.length:Int):=h62;omega
  rw[List.take_of_length_le hke] at hkn
  refine Qc<|Qb<|x Qe<|Qf ?_
  have aP:=fP hs16 [] (by simp)
  have aS:=fS hs16 [] (by simp)
  have aC:=fC hs16 [] (by simp)
  refine Qk ⟨[_,_],⟨rfl,rfl,trivial⟩,hs016,.pointer (some ⟨b10,0,none⟩),by rw[hE0];rfl,λe=>absurd hE0 e,λ_=>⟨b10,⟨c,⟨pva,pvm,pve,pa⟩,vq,qs,⟨sva,svm,sve,sa⟩,vt,ts,vs,vx,vk,qx,ks,bm,mm⟩,rfl,rfl,⟨hck,hsy,hsy2,hqx,hks,hkn⟩,⟨hB16,by simp,h.ext hs016,aP.1,aS.1,aP.2,aS.2,aC.1,aC.2.1,aC.2.2,by simp,hm16⟩,λL hL=>(fS hs16 L (λb hb=>by have:=hL b hb;omega)).1⟩⟩
 have hlt:k<qs.length:=by have h63:(k:Int)<(qs.length:Int):=h62;omega
 have hQ16:=(fP hs16 [] (by simp)).2
 have hmem:=List.getElem_mem hlt
 have htk:(qs.take (k+1)).map (·.2)=(qs.take k).map (·.2)++[(qs[k]'hlt).2]:=by rw[List.take_succ_eq_append_getElem hlt,List.map_append];rfl
 have hnin:(qs[k]'hlt).2∉(qs.take k).map (·.2):=by
  have h1:((qs.take (k+1)).map (·.2)).Nodup:=by
   rw[List.map_take]
   exact hnd.sublist (List.take_sublist _ _)
  rw[htk] at h1
  intro hm
  exact (List.nodup_append.1 h1).2.2 _ hm _ (List.mem_singleton.2 rfl) rfl
 have htl:((qs.take k).map (·.2)).length=k:=by rw[List.length_map,List.length_take];omega
 refine Qi<|Qg<|Qh<|Qc<|Qb<|xig (g:=Z7) yj hQ16.arr rfl rfl hlt λa64 h64=>?_
 refine Zc (qs[k]'hlt) λq hq=>?_
 rw[hq] at h64 hmem htk hnin
 have hqI:=hQ16.each q hmem
 have hVq:=hVs q.2 (List.mem_map_of_mem hmem)
 have hbd:=hVq.bd (m:=4096) (λa ha=>(Y3 hok.co a ha).st1)
 have hql2:q.2.length=c.co.length:=by rw[hVq.1,hal]
 refine x (Qw h64 rfl)<|x Qe<|Qf<|QT (Step [] w16) [(0,true),(1,true),(2,true),(3,true),(4,true),(6,true),(5,false),(7,false)] mixed (by rfl) (by kernel_rfl) (Step.drew _ _) ?_
 refine p (λ_=>Qo)<|p (λ_=>QE rfl)<|p (λ_=>Qa rfl)<|pq (λ_ hc=>Qd (hB16.step hc (by simp)) rfl rfl) <|
  p (λ_=>Qo)<|p (λ_=>Qo)<|pk<|xf<|(QcT (hqI.ext (Step.drew _ _)) ((hkb.ext hs016).ext (Step.drew _ _)) hbd (by omega)).mono ?_
 rintro r17 w17 ⟨rfl,hs17⟩
 have hs1617:=(Step.drew [] w16).trans hs17
 refine ⟨hs1617,?_⟩
 refine pkl (hl:=by kernel_rfl)<|Yv (k:=Kr q.2) (hm16.ext hs1617) rfl rfl λw18 hs18 hm18=>pe ?_
 have hz16:=hs16.size
 have hs1218:Step [b10] w12 w18:=(hs16.trans hs1617).then1 hs18 (by omega)
 have hB18:=(hB16.ext hs1617).step hs18 (by simp;omega)
 have hkn2:=hkn.add hnin (λx hx=>(hbd x hx).1)
 rw[htl] at hkn2
 refine Qx<|x (Qy rfl rfl ⟨by omega,by omega⟩)<|Qb<|xe ?_
 exact ⟨(k+1,mput mm (Kr q.2) (.int .i64 (k:Int))),by simp only[];omega,⟨rfl,trivial⟩,hlt,hs1218,hB18,hm18,by simp only[];rw[htk];exact hkn2⟩
end Go.Proofs.YtgmifemhkjdblaaGreatDoor
namespace Go.Lg
theorem Uq {W W':World}{base e sz n:Nat}{v:Value}{cs:LV}(h:W.ownsRow base e sz v n cs) (hc:X5 [] W W'):W'.ownsRow base e sz v n cs :=
 ⟨h.1,h.2.imp id λ⟨g,cap,cur,h1,h2,h3,h4⟩=>⟨g,cap,cur,h1,h2,hc g _ (by simp) h3 rfl,h4⟩⟩
theorem X5.mono {L L':LN}{W W':World}(h:X5 L W W') (hL:∀b∈L,b∈L'):X5 L' W W':=λk o hn=>h k o (λhm=>hn (hL k hm))
theorem X5.nonc {X:LN}{W W':World}(hs:Step X W W') (hX:∀r∈X,∃o:Obj,W.heap[r]?=some o∧o.isCells=false):X5 [] W W':=λk o _ hk hc =>
 (hs.block k (Array.getElem?_eq_some_iff.1 hk).1 (λhx=>by
  obtain ⟨o',h1,h2⟩:=hX k hx
  rw[hk] at h1;cases h1;rw[hc] at h2;cases h2)).trans hk
theorem ZX.cst {B:Nat}{I:World→Prop}(h:∀W W',I W→X5 [] W W'→W.heap.size≤W'.heap.size→I W'):ZX B I:=λW W' _ hi hs hX=>h W W' hi (X5.nonc hs (λr hr=>(hX r hr).2)) hs.size
end Go.Lg
namespace Go.Proofs.YtgmifemhkjdblaaGreatDoor
open Go.Lg
theorem ZQ.cst {base:Nat}{av:LN}{W W':World}{v:Value}{n sz:Nat}{cs:LV}(h:ZQ base av W.heap v n sz cs) (hc:Lg.X5 [] W W') (hz:W.heap.size≤W'.heap.size):ZQ base av W'.heap v n sz cs:=λL hL=>(h L hL).cst (hc.mono (by simp)) hz
abbrev Yo (r:Rsn):LV:=[.int .i64 r.st,.int .i64 r.kd,.int .i64 r.ix,.int .i64 r.ev]
structure Ji (base:Nat) (w:World) (v1 v2 v3 v4:Value) (cos rqs:List TV) (pls:LI) (fbs:List Rsn):Prop where
 o1:w.ownsRow base 40 1 v1 cos.length (cos.flatMap Z7)
 o2:w.ownsRow base 40 1 v2 rqs.length (rqs.flatMap Z7)
 o3:Qt 3 base w v3 pls
 o4:w.ownsRow base 245 4 v4 fbs.length (fbs.flatMap Yo)
 d12:Dj v1 v2
 d13:Dj v1 v3
 d14:Dj v1 v4
 d23:Dj v2 v3
 d24:Dj v2 v4
 d34:Dj v3 v4
 e1:∀p∈cos,ZQ base (ob v1++(ob v2++(ob v3++ob v4))) w.heap p.1 p.2.length 1 (p.2.map (.int .i64))
 e2:∀p∈rqs,ZQ base (ob v1++(ob v2++(ob v3++ob v4))) w.heap p.1 p.2.length 1 (p.2.map (.int .i64))
theorem VR {v:Value}:Dj (nS) v:=λb hb=>by simp[ob] at hb
theorem Ji.nil (base:Nat) (w:World):Ji base w (nS) (nS) (nS) (nS) [] [] [] [] :=
 ⟨QP _ _ _ _,QP _ _ _ _,QP _ _ _ _,QP _ _ _ _,VR,VR,VR,VR,VR,VR,λp hp=>(by cases hp),λp hp=>(by cases hp)⟩
variable {base:Nat} {w w7 w8:World} {v1 v2 v3 v4 v':Value} {cos rqs:List TV} {pls:LI} {fbs:List Rsn}
theorem Ji.ext (h:Ji base w v1 v2 v3 v4 cos rqs pls fbs) (hs:Step [] w w7):Ji base w7 v1 v2 v3 v4 cos rqs pls fbs :=
 ⟨Qu h.o1 hs,Qu h.o2 hs,Qu h.o3 hs,Qu h.o4 hs,h.d12,h.d13,h.d14,h.d23,h.d24,h.d34,λp hp=>(h.e1 p hp).ext hs,λp hp=>(h.e2 p hp).ext hs⟩
theorem Ji.low {X:LN}(h:Ji base w v1 v2 v3 v4 cos rqs pls fbs) (hs:Step X w w7) (hX:∀b∈X,b<base):Ji base w7 v1 v2 v3 v4 cos rqs pls fbs:=by
 have k:∀{e sz n:Nat} {v:Value} {cs:LV},w.ownsRow base e sz v n cs→w7.ownsRow base e sz v n cs:=λo=>Qm o hs (λb hb hm=>by have:=(Qq o b hb).1;have:=hX b hm;omega)
 exact ⟨k h.o1,k h.o2,k h.o3,k h.o4,h.d12,h.d13,h.d14,h.d23,h.d24,h.d34,λp hp=>(h.e1 p hp).low hs hX,λp hp=>(h.e2 p hp).low hs hX⟩
theorem Ji.cst (h:Ji base w v1 v2 v3 v4 cos rqs pls fbs) (hc:Lg.X5 [] w w7) (hz:w.heap.size≤w7.heap.size):Ji base w7 v1 v2 v3 v4 cos rqs pls fbs :=
 ⟨Uq h.o1 hc,Uq h.o2 hc,Uq h.o3 hc,Uq h.o4 hc,h.d12,h.d13,h.d14,h.d23,h.d24,h.d34,λp hp=>(h.e1 p hp).cst hc hz,λp hp=>(h.e2 p hp).cst hc hz⟩
theorem VS {a b a':Value}{n:Nat}(h:Dj a b) (hn:∀x∈ob a',x∈ob a∨n≤x) (hb:∀x∈ob b,x<n):Dj a' b:=λx hx hm=>by
 rcases hn x hx with h1 | h1
 ·exact h x h1 hm
 ·have:=hb x hm;omega
theorem Kj {a b b':Value}{n:Nat}(h:Dj a b) (hn:∀x∈ob b',x∈ob b∨n≤x) (ha:∀x∈ob a,x<n):Dj a b':=λx hx hm=>by
 rcases hn x hm with h1 | h1
 ·exact h x hx h1
 ·have:=ha x hx;omega
theorem Ji.lt (h:Ji base w v1 v2 v3 v4 cos rqs pls fbs):(∀x∈ob v1,x<w.heap.size)∧(∀x∈ob v2,x<w.heap.size)∧(∀x∈ob v3,x<w.heap.size)∧∀x∈ob v4,x<w.heap.size:=⟨Q0 h.o1,Q0 h.o2,Q0 h.o3,Q0 h.o4⟩
theorem jW {a b c d:LN}{x:Nat}(h:x∈a++(b++(c++d))):x∈a∨x∈b∨x∈c∨x∈d:=by simpa using h
theorem U4 {a b c d:LN}{x:Nat}(h:x∈a∨x∈b∨x∈c∨x∈d):x∈a++(b++(c++d)):=by simpa using h
theorem Ji.a1 {N e:Nat}{q:TV}(h:Ji base w v1 v2 v3 v4 cos rqs pls fbs) (hs:Step [] w w7) (hq:w7.ownsRow N e 1 q.1 q.2.length (q.2.map (.int .i64))) (hql:q.2.length≤1099511627776) (hN:w.heap.size≤N) (hb:base≤w.heap.size) (ho:w8.ownsRow base 40 1 v' (cos.length+1) (cos.flatMap Z7++Z7 q))
  (hs8:Step (ob v1) w7 w8) (hn:∀b∈ob v',b∈ob v1∨w7.heap.size≤b):Ji base w8 v' v2 v3 v4 (cos++[q]) rqs pls fbs:=by
 have l:=h.lt
 have hz:=hs.size
 have h7:=h.ext hs
 have av:∀b∈ob v'++(ob v2++(ob v3++ob v4)),b∈ob v1++(ob v2++(ob v3++ob v4))∨w7.heap.size≤b:=by
  intro b hb
  rcases jW hb with h1 | h1 | h1 | h1
  ·rcases hn b h1 with h2 | h2
   ·exact .inl (U4 (.inl h2))
   ·exact .inr h2
  ·exact .inl (U4 (.inr (.inl h1)))
  ·exact .inl (U4 (.inr (.inr (.inl h1))))
  ·exact .inl (U4 (.inr (.inr (.inr h1))))
 have st:Step (ob v1++(ob v2++(ob v3++ob v4))) w7 w8:=hs8.mono (λb hb=>U4 (.inl hb))
 have g:∀{v:Value} {n sz:Nat} {cs:LV},ZQ base (ob v1++(ob v2++(ob v3++ob v4))) w7.heap v n sz cs→ZQ base (ob v'++(ob v2++(ob v3++ob v4))) w8.heap v n sz cs:=λa=>a.app st av
 refine ⟨by rw[List.length_append,List.flatMap_append];simpa using ho,Qm h7.o2 hs8 (λb hb hm=>h.d12 b hm hb),Qm h7.o3 hs8 (λb hb hm=>h.d13 b hm hb),Qm h7.o4 hs8 (λb hb hm=>h.d14 b hm hb),VS h.d12 hn (λx hx=>by have:=l.2.1 x hx;omega),VS h.d13 hn (λx hx=>by have:=l.2.2.1 x hx;omega),VS h.d14 hn (λx hx=>by have:=l.2.2.2 x hx;omega),h.d23,h.d24,h.d34,?_,?_⟩
 ·exact λp hp=>by
   rcases List.mem_append.1 hp with hp | hp
   ·exact g (h7.e1 p hp)
   ·simp only[List.mem_singleton] at hp;subst hp
    exact g (ZQ.of_own hq hql (by omega) (λb hb=>by
    rcases jW hb with h1 | h1 | h1 | h1
    ·have:=l.1 b h1;omega
    ·have:=l.2.1 b h1;omega
    ·have:=l.2.2.1 b h1;omega
    ·have:=l.2.2.2 b h1;omega))
 ·exact λp hp=>g (h7.e2 p hp)
theorem Ji.a2 {N e:Nat}{q:TV}(h:Ji base w v1 v2 v3 v4 cos rqs pls fbs) (hs:Step [] w w7) (hq:w7.ownsRow N e 1 q.1 q.2.length (q.2.map (.int .i64))) (hql:q.2.length≤1099511627776) (hN:w.heap.size≤N) (hb:base≤w.heap.size) (ho:w8.ownsRow base 40 1 v' (rqs.length+1) (rqs.flatMap Z7++Z7 q))
  (hs8:Step (ob v2) w7 w8) (hn:∀b∈ob v',b∈ob v2∨w7.heap.size≤b):Ji base w8 v1 v' v3 v4 cos (rqs++[q]) pls fbs:=by
 have l:=h.lt
 have hz:=hs.size
 have h7:=h.ext hs
 have av:∀b∈ob v1++(ob v'++(ob v3++ob v4)),b∈ob v1++(ob v2++(ob v3++ob v4))∨w7.heap.size≤b:=by
  intro b hb
  rcases jW hb with h1 | h1 | h1 | h1
  ·exact .inl (U4 (.inl h1))
  ·rcases hn b h1 with h2 | h2
   ·exact .inl (U4 (.inr (.inl h2)))
   ·exact .inr h2
  ·exact .inl (U4 (.inr (.inr (.inl h1))))
  ·exact .inl (U4 (.inr (.inr (.inr h1))))
 have st:Step (ob v1++(ob v2++(ob v3++ob v4))) w7 w8:=hs8.mono (λb hb=>U4 (.inr (.inl hb)))
 have g:∀{v:Value} {n sz:Nat} {cs:LV},ZQ base (ob v1++(ob v2++(ob v3++ob v4))) w7.heap v n sz cs→ZQ base (ob v1++(ob v'++(ob v3++ob v4))) w8.heap v n sz cs:=λa=>a.app st av
 refine ⟨Qm h7.o1 hs8 (λb hb hm=>h.d12 b hb hm),by rw[List.length_append,List.flatMap_append];simpa using ho,Qm h7.o3 hs8 (λb hb hm=>h.d23 b hm hb),Qm h7.o4 hs8 (λb hb hm=>h.d24 b hm hb),Kj h.d12 hn (λx hx=>by have:=l.1 x hx;omega),h.d13,h.d14,VS h.d23 hn (λx hx=>by have:=l.2.2.1 x hx;omega),VS h.d24 hn (λx hx=>by have:=l.2.2.2 x hx;omega),h.d34,?_,?_⟩
 ·exact λp hp=>g (h7.e1 p hp)
 ·exact λp hp=>by
   rcases List.mem_append.1 hp with hp | hp
   ·exact g (h7.e2 p hp)
   ·simp only[List.mem_singleton] at hp;subst hp
    exact g (ZQ.of_own hq hql (by omega) (λb hb=>by
    rcases jW hb with h1 | h1 | h1 | h1
    ·have:=l.1 b h1;omega
    ·have:=l.2.1 b h1;omega
    ·have:=l.2.2.1 b h1;omega
    ·have:=l.2.2.2 b h1;omega))
theorem Ji.a3 {q:Int}(h:Ji base w v1 v2 v3 v4 cos rqs pls fbs) (hs:Step [] w w7) (ho:w8.ownsRow base 3 1 v' (pls.length+1) (pls.map (.int .i64)++[.int .i64 q]))
  (hs8:Step (ob v3) w7 w8) (hn:∀b∈ob v',b∈ob v3∨w7.heap.size≤b):Ji base w8 v1 v2 v' v4 cos rqs (pls++[q]) fbs:=by
 have l:=h.lt
 have hz:=hs.size
 have h7:=h.ext hs
 have av:∀b∈ob v1++(ob v2++(ob v'++ob v4)),b∈ob v1++(ob v2++(ob v3++ob v4))∨w7.heap.size≤b:=by
  intro b hb
  rcases jW hb with h1 | h1 | h1 | h1
  ·exact .inl (U4 (.inl h1))
  ·exact .inl (U4 (.inr (.inl h1)))
  ·rcases hn b h1 with h2 | h2
   ·exact .inl (U4 (.inr (.inr (.inl h2))))
   ·exact .inr h2
  ·exact .inl (U4 (.inr (.inr (.inr h1))))
 have st:Step (ob v1++(ob v2++(ob v3++ob v4))) w7 w8:=hs8.mono (λb hb=>U4 (.inr (.inr (.inl hb))))
 have g:∀{v:Value} {n sz:Nat} {cs:LV},ZQ base (ob v1++(ob v2++(ob v3++ob v4))) w7.heap v n sz cs→ZQ base (ob v1++(ob v2++(ob v'++ob v4))) w8.heap v n sz cs:=λa=>a.app st av
 refine ⟨Qm h7.o1 hs8 (λb hb hm=>h.d13 b hb hm),Qm h7.o2 hs8 (λb hb hm=>h.d23 b hb hm),Qt.snoc ho,Qm h7.o4 hs8 (λb hb hm=>h.d34 b hm hb),h.d12,Kj h.d13 hn (λx hx=>by have:=l.1 x hx;omega),h.d14,Kj h.d23 hn (λx hx=>by have:=l.2.1 x hx;omega),h.d24,VS h.d34 hn (λx hx=>by have:=l.2.2.2 x hx;omega),?_,?_⟩
 ·exact λp hp=>g (h7.e1 p hp)
 ·exact λp hp=>g (h7.e2 p hp)
theorem Ji.a4 {q:Rsn}(h:Ji base w v1 v2 v3 v4 cos rqs pls fbs) (hs:Step [] w w7) (ho:w8.ownsRow base 245 4 v' (fbs.length+1) (fbs.flatMap Yo++Yo q))
  (hs8:Step (ob v4) w7 w8) (hn:∀b∈ob v',b∈ob v4∨w7.heap.size≤b):Ji base w8 v1 v2 v3 v' cos rqs pls (fbs++[q]):=by
 have l:=h.lt
 have hz:=hs.size
 have h7:=h.ext hs
 have av:∀b∈ob v1++(ob v2++(ob v3++ob v')),b∈ob v1++(ob v2++(ob v3++ob v4))∨w7.heap.size≤b:=by
  intro b hb
  rcases jW hb with h1 | h1 | h1 | h1
  ·exact .inl (U4 (.inl h1))
  ·exact .inl (U4 (.inr (.inl h1)))
  ·exact .inl (U4 (.inr (.inr (.inl h1))))
  ·rcases hn b h1 with h2 | h2
   ·exact .inl (U4 (.inr (.inr (.inr h2))))
   ·exact .inr h2
 have st:Step (ob v1++(ob v2++(ob v3++ob v4))) w7 w8:=hs8.mono (λb hb=>U4 (.inr (.inr (.inr hb))))
 have g:∀{v:Value} {n sz:Nat} {cs:LV},ZQ base (ob v1++(ob v2++(ob v3++ob v4))) w7.heap v n sz cs→ZQ base (ob v1++(ob v2++(ob v3++ob v'))) w8.heap v n sz cs:=λa=>a.app st av
 refine ⟨Qm h7.o1 hs8 (λb hb hm=>h.d14 b hb hm),Qm h7.o2 hs8 (λb hb hm=>h.d24 b hb hm),Qm h7.o3 hs8 (λb hb hm=>h.d34 b hb hm),by rw[List.length_append,List.flatMap_append];simpa using ho,h.d12,h.d13,Kj h.d14 hn (λx hx=>by have:=l.1 x hx;omega),h.d23,Kj h.d24 hn (λx hx=>by have:=l.2.1 x hx;omega),Kj h.d34 hn (λx hx=>by have:=l.2.2.1 x hx;omega),?_,?_⟩
 ·exact λp hp=>g (h7.e1 p hp)
 ·exact λp hp=>g (h7.e2 p hp)
theorem zn (c:ZB) (pl:QM) (ps:List (LI)):∀(l:List (LI)) (i:Nat) (s:Spc),(l.zipIdx i).foldl (Qjp c pl ps) s =
  ⟨s.a,s.co++l.map (·.take c.co.length),s.rq++l.map (·.drop c.co.length),s.pl++l.map (λt=>plx ps (t.take c.co.length)),s.fb++(l.zipIdx i).filterMap (λp=>rsn c pl (plx ps (p.1.take c.co.length)) p.2 p.1)⟩
 | [],i,s=>by simp
 | t::l,i,s=>by
  rw[List.zipIdx_cons,List.foldl_cons,zn c pl ps l (i+1)]
  unfold Qjp
  simp only[List.map_cons,List.append_assoc,List.cons_append,List.nil_append,List.filterMap_cons]
  cases rsn c pl (plx ps (t.take c.co.length)) i t with
  | none=>rfl
  | some r=>simp
theorem UM {c:ZB}{rs:LI}:∀{l:LI},(∀x∈wrf c.rq rs l,(c.ev.getD x.1.toNat ⟨.empty,false,false,false,0⟩).co=true)→rfd c rs l=none
 | [],_=>rfl
 | v::l,h=>by
  rw[wrf] at h
  rw[rfd]
  by_cases h1:0≤rfr v 0 c.rq rs
  ·rw[if_pos h1] at h
   have h2:=h _ List.mem_cons_self
   simp only[] at h2
   rw[if_neg (λe=>by rw[h2] at e;cases e.2)]
   exact UM λx hx=>h x (List.mem_cons_of_mem _ hx)
  ·rw[if_neg h1] at h
   rw[if_neg (λe=>h1 e.1)]
   exact UM h
theorem UL {c:ZB}{rs:LI}{x:Int×Int}{t:List (Int×Int)}:∀{l:LI}{p:List (Int×Int)},wrf c.rq rs l=p++x::t→(∀y∈p,(c.ev.getD y.1.toNat ⟨.empty,false,false,false,0⟩).co=true)→(c.ev.getD x.1.toNat ⟨.empty,false,false,false,0⟩).co=false→rfd c rs l=some (x.2,x.1)
 | [],p,h,_,_=>by simp[wrf] at h
 | v::l,p,h,hp,hx=>by
  rw[wrf] at h
  rw[rfd]
  by_cases h1:0≤rfr v 0 c.rq rs
  ·rw[if_pos h1] at h
   cases p with
   | nil =>
    simp only[List.nil_append,List.cons.injEq] at h
    obtain ⟨h2,_⟩:=h
    subst h2
    rw[if_pos ⟨h1,hx⟩]
   | cons y p =>
    simp only[List.cons_append,List.cons.injEq] at h
    obtain ⟨h2,h3⟩:=h
    have h4:=hp y List.mem_cons_self
    subst h2
    rw[if_neg (λe=>by simp only[] at h4;rw[h4] at e;cases e.2)]
    exact UL h3 (λy hy=>hp y (List.mem_cons_of_mem _ hy)) hx
  ·rw[if_neg h1] at h
   rw[if_neg (λe=>h1 e.1)]
   exact UL h hp hx
theorem Qd2 (c:ZB) (t:LI):vio c t=if (qU c.ex c.cs t).2.2=true then some ((qU c.ex c.cs t).1,(qU c.ex c.cs t).2.1) else none:=by
 unfold vio qU
 by_cases h1:0≤fix (KD t) 0 c.ex
 ·rw[if_pos h1,if_pos h1];rfl
 ·rw[if_neg h1,if_neg h1]
  by_cases h2:0≤fix (VE t) 0 c.cs
  ·rw[if_pos h2,if_pos h2];rfl
  ·rw[if_neg h2,if_neg h2];rfl
def Ql8 (N:Nat) (H:Array Obj) (v:Value) (s:Spc):Prop:=∃va vm ve v1 v2 v3 v4 cos rqs,v=.agg #[va,.int .i64 s.a.st,vm,ve,v1,v2,v3,v4]∧cos.map (·.2)=s.co∧rqs.map (·.2)=s.rq ∧
 ∀L:LN,(∀b∈L,b<N)→Zm L H va vm ve s.a∧XD L H v1 cos∧XD L H v2 rqs∧QL L H v3 s.pl∧Zw L H v4 s.fb.length 4 (s.fb.flatMap Yo)
end Go.Proofs.YtgmifemhkjdblaaGreatDoor
namespace Go.Lg
open Go.RowKit
def qa (all:Array Oper) (i:Nat) (rest:List (Nat×Bool)):List (Nat×Bool)→Array Bool→Bool
 | [],ls=>Region.ready .any all ls == [i] && YB all rest (ls.setIfInBounds i true)
 | (j,true)::l,ls=>(Region.ready .any all ls).contains j && Region.free .any all ls j && qa all i rest l (ls.setIfInBounds j true)
 | (j,false)::l,ls=>!(Region.ready .any all ls).isEmpty && (Region.ready .any all ls).all (λk=>k == j || k == i) && YB all ((j,false)::(l++rest)) (ls.setIfInBounds i true) && qa all i rest l (ls.setIfInBounds j true)
def Z8 (all:List Oper) (d:Nat) (l:List (Nat×Bool)):Bool:=l.all λp=>!((QK all p.1).looksAt all.toArray).contains d && !((QK all p.1).dst == some d)
def QfK (all:List Oper) (pre l:List (Nat×Bool)) (i:Nat) (rest:List (Nat×Bool)):Bool :=
 Region.noSelect all.toArray && (pre.length+(l.length+1+rest.length) == all.length) && Y1 all.toArray pre (Array.replicate all.length false) && qa all.toArray i rest l (Zr pre (Array.replicate all.length false))
  && (QK all i).guard.isNone && (match (QK all i).dst with | some d=>Z8 all d l | none=>false)
def XF (P:Program) (all:List Oper) (C:World→Prop) (K:Fr→World→Prop):List (Nat×Bool)→LN→Fr→World→Prop
 | [],_,f,w=>K f w
 | (j,true)::l,own,f,w=>ZZ all f (QK all j)=true∧∃v,(∀w',(qS (QK all j)=true→C w')→(execOp (ev f) (QK all j)).run P w'=.ok (.value v) w')∧XF P all C K l own (QU f (QK all j).dst v) w
 | (j,false)::l,own,f,w=>ZZ all f (QK all j)=true∧∀w1,Step [] w w1→C w1→XO P (QK all j) f w1 λf' w'=>C w'∧∃own',Step own w1 w'∧(∀b∈own',b∈own∨(w1.heap.size≤b∧b<w'.heap.size))∧XF P all C K l own' f' w'
section
variable {P:Program} {n:Nat} {f:Fr} {w:World} {all:List Oper} {C:World→Prop} {K KF:Fr→World→Prop}
theorem XF.ext (hK:∀f w w',KF f w→Step [] w w'→KF f w'):∀{l:List (Nat×Bool)}{own:LN}{f:Fr}{w w':World},XF P all C KF l own f w→Step [] w w'→XF P all C KF l own f w'
 | [],_,_,_,_,h,hs=>hK _ _ _ h hs
 | (_,true)::_,_,_,_,_,h,hs=>by
  obtain ⟨hg,v,hv,hx⟩:=h
  exact ⟨hg,v,hv,XF.ext hK hx hs⟩
 | (_,false)::_,_,_,_,_,h,hs=>⟨h.1,λw1 h1 hc=>h.2 w1 (hs.trans h1) hc⟩
attribute [local semireducible] XO in
theorem Qc3 {o:Oper}(hs:∀cs b,o.op≠.select cs b) {d:Nat}{v:Value}{K':Fr→World→Prop}(h1:d∉o.looksAt all.toArray) (h2:o.dst≠some d) (hK:∀u w',K (QU f o.dst u) w'→K' (QU (QU f o.dst u) (some d) v) w')
  (h:XO P o f w K):XO P o (QU f (some d) v) w K':=by
 have hc:∀u,QU (QU f (some d) v) o.dst u=QU (QU f o.dst u) (some d) v:=λu=>Ka f v u (λe he=>by cases he;exact h2)
 unfold XO at *
 rw[Y6 (all:=all) hs f (some d) v (λe he=>by cases he;exact h1)]
 generalize (execOp (ev f) o).run P w=r at *
 cases r with
 | ok nx w' =>
  cases nx <;> simp only[upF] at h ⊢
  case value u=>rw[hc];exact hK u w' h
  case skip=>rw[hc];exact hK _ w' h
  case enter g args =>
   refine Calls.mono h λe w'' he=>?_
   cases e with
   | returned u=>simp only at he ⊢;rw[hc];exact hK u w'' he
   | panicked c=>exact he.elim
   | outgrown=>exact he.elim
 | halt x w'=>exact h.elim
theorem JT {D:List (Nat×Nat)}{f f0:Fr}{dst:Option Nat}{v:Value}(hd:inD D dst=true) (h:∀t,YT D t=false→f t=f0 t):∀t,YT D t=false→QU f dst v t=f0 t:=λt ht =>
 (ZN (λe=>by rw[e] at hd;simp only[inD] at hd;rw[hd] at ht;cases ht) v).trans (h t ht)
def Z5 (all:List Oper) (D:List (Nat×Nat)) (l:List (Nat×Bool)):Bool:=l.all λp=>inD D (QK all p.1).dst
structure Fl (P:Program) (all:List Oper) (C:World→Prop) (K KF:Fr→World→Prop) (i d:Nat) (rest:List (Nat×Bool)) (Φ:Value→World→Prop) (Dc:List (Nat×Nat)) (f1:Fr):Prop where
 stab:∀v (own:LN) w w',Φ v w→Step own w w'→(∀b∈ow v,b∉own)→Φ v w'
 spec:∀f w,(∀t,YT Dc t=false→f t=f1 t)→C w→XO P (QK all i) f w λf' w'=>Step [] w w'∧C w'∧Φ (f' d) w'∧∀b∈ow (f' d),w.heap.size≤b∧b<w'.heap.size
 fin:∀f w,KF f w→∀v,C w→Φ v w→XP P all C K rest (QU f (some d) v) w
 mono:∀f w w',KF f w→Step [] w w'→KF f w'
attribute [local semireducible] XP in
theorem qE {i d:Nat}{rest:List (Nat×Bool)}{Φ:Value→World→Prop}{Dc:List (Nat×Nat)}{f1:Fr}(hF:Fl P all C K KF i d rest Φ Dc f1) (hs:Region.noSelect all.toArray=true) {v:Value}:∀(l:List (Nat×Bool)) (own:LN) (f:Fr) (w:World),Z8 all d l=true→XF P all C KF l own f w→C w→Φ v w →
  (∀b∈ow v,b∉own∧b<w.heap.size)→XP P all C K (l++rest) (QU f (some d) v) w
 | [],own,f,w,_,h,hC,hv,_=>hF.fin f w h v hC hv
 | (j,q)::l,own,f,w,hfr,h,hC,hv,hb=>by
  simp only[Z8,List.all_cons,Bool.and_eq_true,Bool.not_eq_true',List.contains_eq_mem,decide_eq_false_iff_not,beq_eq_false_iff_ne,ne_eq] at hfr
  obtain ⟨⟨h1,h2⟩,hfr⟩:=hfr
  have hfr':Z8 all d l=true:=by simpa[Z8] using hfr
  have hsel:∀cs b,(QK all j).op≠.select cs b:=by
   intro cs b
   cases ho:all[j]? with
   | none =>
    have:QK all j=default:=by
     clear h h1 h2 hfr hfr'
     have key:∀(l:List Oper) (j:Nat),l[j]?=none→QK l j=default:=by
      intro l
      induction l with
      | nil=>intro j _;rfl
      | cons a l ih=>intro j hj;cases j with | zero=>simp at hj | succ j=>exact ih j (by simpa using hj)
     exact key all j ho
    rw[this]
    intro e;cases e
   | some o=>rw[Za ho];exact Region.noSelect_spec hs j o cs b (by simpa using ho)
  have hd:∀e,some d=some e→e∉(QK all j).looksAt all.toArray:=λe he=>by cases he;exact h1
  cases q with
  | true =>
   obtain ⟨hg,u,hu,hx⟩:=h
   simp only[List.cons_append,XP]
   rw[Jd (QK all j) f (some d) v hd,hg,cond_true,cond_true]
   refine ⟨u,λw' hc=>?_,?_⟩
   ·rw[Y6 (all:=all) hsel f (some d) v hd];exact hu w' hc
   ·rw[Ka f v u (λe he=>by cases he;exact h2)]
    exact qE hF hs l own _ w hfr' hx hC hv hb
  | false =>
   simp only[List.cons_append,XP]
   rw[Jd (QK all j) f (some d) v hd,h.1,cond_true,cond_false]
   refine Qc3 (all:=all) hsel h1 h2 (λu w' hx=>?_) (h.2 w (Step.refl _ _) hC)
   obtain ⟨hC',own',hst,how,hx⟩:=hx
   refine ⟨.inr (.inr hC'),qE hF hs l own' _ w' hfr' hx hC' (hF.stab v own w w' hv hst (λb hbb=>(hb b hbb).1)) (λb hbb=>⟨λhm=>?_,Nat.lt_of_lt_of_le (hb b hbb).2 hst.size⟩)⟩
   rcases how b hm with h3 | h3
   ·exact (hb b hbb).1 h3
   ·exact Nat.lt_irrefl _ (Nat.lt_of_lt_of_le (hb b hbb).2 h3.1)
theorem Qgx {i d:Nat}{rest:List (Nat×Bool)}{Φ:Value→World→Prop}{Dc:List (Nat×Nat)}{f1:Fr}(hF:Fl P all C K KF i d rest Φ Dc f1) (hs:Region.noSelect all.toArray=true) (hg:(QK all i).guard=none) (hd:(QK all i).dst=some d):∀(l:List (Nat×Bool)) (ls:Array Bool) (own:LN) (f:Fr) (w:World),ls.size=all.length→Z8 all d l=true→Z5 all Dc l=true→(∀t,YT Dc t=false→f t=f1 t) →
  XF P all C KF l own f w→C w→(∀b∈own,b<w.heap.size)→qa all.toArray i rest l ls=true→XA P all C K (l.length+1+rest.length) ls f w
 | [],ls,own,f,w,hsz,hfr,hin,hk1,h,hC,hown,hp=>by
  simp only[qa,Bool.and_eq_true,beq_iff_eq] at hp
  obtain ⟨hr,hp⟩:=hp
  rw[show ([]:List (Nat×Bool)).length+1+rest.length=rest.length+1 by simp;omega]
  refine YA (λh0=>(by rw[h0] at hr;cases hr)) ?_
  rw[hr]
  intro k hk o ho
  have hki:k=i:=by simpa using hk
  subst hki
  have hoi:=Za ho
  have hx:=hF.spec f w hk1 hC
  rw[hoi] at hg hd hx
  rw[Xx hg,cond_true]
  refine hx.mono λv w' hx=>?_
  rw[hd] at hx ⊢
  obtain ⟨h1,h2,h3,h4⟩:=hx
  simp only[QU,Yu] at h3 h4
  refine ⟨.inr (.inr h2),Zt hs rest _ _ _ (by simpa using hsz) (.inl h2) hp (hF.fin f w' (hF.mono f w w' h h1) v h2 h3)⟩
 | (j,true)::l,ls,own,f,w,hsz,hfr,hin,hk1,h,hC,hown,hp=>by
  simp only[qa,Bool.and_eq_true] at hp
  obtain ⟨⟨hr,hf⟩,hp'⟩:=hp
  have hri:j∈Region.ready .any all.toArray ls:=by simpa using hr
  have e:(List.length ((j,true)::l))+1+rest.length=(l.length+1+rest.length)+1:=by simp;omega
  rw[e]
  have hfr':Z8 all d l=true:=by simp only[Z8,List.all_cons,Bool.and_eq_true] at hfr;exact hfr.2
  simp only[Z5,List.all_cons,Bool.and_eq_true] at hin
  have hin':Z5 all Dc l=true:=hin.2
  cases ho:all[j]? with
  | none =>
   exfalso
   obtain ⟨_,o,hoo,_⟩:=mem_ready.1 hri
   simp[ho] at hoo
  | some o =>
   obtain ⟨hgj,v,hv,hx⟩:=h
   rw[Za ho] at hgj hv hx
   have hsel:∀(j:Nat) (o:Oper) cs b,all[j]?=some o→o.op≠.select cs b:=λj o cs b hj=>Region.noSelect_spec hs j o cs b (by simpa using hj)
   have hfree:=λk ok hk=>Region.free_spec (ops:=all.toArray) (md:=.any) (i:=j) (oi:=o) (listed:=ls) (by simpa using ho) hf k ok (by simpa using hk)
   exact Y7 (v:=v) (D:=λw=>qS o=true→C w) ho (λ_ h=>h) hsel _ ls f w (λ_=>hC) hfree hri (.inl ⟨hgj,hv⟩) (Qgx hF hs hg hd l _ own _ w (by simpa using hsz) hfr' hin' (by have:=JT (v:=v) hin.1 hk1;rw[Za ho] at this;exact this) hx hC hown hp')
 | (j,false)::l,ls,own,f,w,hsz,hfr,hin,hk1,h,hC,hown,hp=>by
  simp only[qa,Bool.and_eq_true,List.all_eq_true,Bool.or_eq_true,beq_iff_eq,Bool.not_eq_true'] at hp
  obtain ⟨⟨⟨hne,hr⟩,hpl⟩,hp'⟩:=hp
  have e:(List.length ((j,false)::l))+1+rest.length=(l.length+1+rest.length)+1:=by simp;omega
  rw[e]
  have hfr':Z8 all d l=true:=by simp only[Z8,List.all_cons,Bool.and_eq_true] at hfr;exact hfr.2
  simp only[Z5,List.all_cons,Bool.and_eq_true] at hin
  have hin':Z5 all Dc l=true:=hin.2
  refine YA (λh0=>(by rw[h0] at hne;cases hne)) ?_
  intro k hk o ho
  have hoi:=Za ho
  have hsz':(ls.setIfInBounds k true).size=all.length:=by simpa using hsz
  by_cases hki:k=i
  ·subst hki
   have hx:=hF.spec f w hk1 hC
   rw[hoi] at hg hd hx
   rw[Xx hg,cond_true]
   refine hx.mono λv w' hx=>?_
   rw[hd] at hx ⊢
   obtain ⟨h1,h2,h3,h4⟩:=hx
   simp only[QU,Yu] at h3 h4
   refine ⟨.inr (.inr h2),?_⟩
   have hx:=qE hF hs ((j,false)::l) own f w' hfr (XF.ext hF.mono h h1) h2 h3 (λb hb=>⟨λhm=>Nat.lt_irrefl _ (Nat.lt_of_lt_of_le (hown b hm) (h4 b hb).1),(h4 b hb).2⟩)
   have:=Zt hs ((j,false)::(l++rest)) _ _ _ hsz' (.inl h2) hpl hx
   rw[show ((j,false)::(l++rest)).length=l.length+1+rest.length by simp;omega] at this
   exact this
  ·have hkj:k=j:=(hr k hk).resolve_right hki
   subst hkj
   have h1:=h.1
   have h2:=h.2 w (Step.refl _ _) hC
   rw[hoi] at h1 h2
   rw[h1,cond_true]
   refine h2.mono λv w' hx=>?_
   obtain ⟨hC',own',hst,how,hx⟩:=hx
   refine ⟨.inr (.inr hC'),Qgx hF hs hg hd l _ own' _ w' hsz' hfr' hin' (by have:=JT (v:=v) hin.1 hk1;rw[hoi] at this;exact this) hx hC' (λb hb=>?_) hp'⟩
   rcases how b hb with h3 | h3
   ·exact Nat.lt_of_lt_of_le (hown b h3) hst.size
   ·exact h3.2
theorem QiS {ro:Option Nat}{m:Nat}{ds:LN}{Q:Exit→LN→Fr→World→Prop}{id:Nat}(C:World→Prop) (pre l:List (Nat×Bool)) (i d:Nat) (rest:List (Nat×Bool)) (own:LN) (KF:Fr→World→Prop) (Φ:Value→World→Prop) (Dc:List (Nat×Nat)) (hm:P.follows .mixedOrders=true) (hn:YW n all=true) (hnd:jS all=true)
  (hp:QfK all pre l i rest=true) (hin:Z5 all Dc l=true) (hd:(QK all i).dst=some d) (hC:C { w with drawn:=w.drawn+1 }) (hown:∀b∈own,b<w.heap.size)
  (h:XP P all C (λf1 _=>Fl P all C (λf w=>Q .normal ds f w) KF i d rest Φ Dc f1∧XF P all C KF l own f1 { w with drawn:=w.drawn+1 }) pre f { w with drawn:=w.drawn+1 }):WG ro m P n (.region id all.toArray true) Q ds f w:=by
 unfold WG
 intro a ha
 simp only[QfK,Bool.and_eq_true,beq_iff_eq,Option.isNone_iff_eq_none] at hp
 obtain ⟨⟨⟨⟨⟨hs,hl⟩,hq⟩,hgo⟩,hg⟩,hfr⟩:=hp
 rw[hd] at hfr
 refine wpIn_region_any hm ?_
 have h1:=ZI (K:=λf w=>Q .normal ds f w) (m:=l.length+1+rest.length) hs pre (Array.replicate all.length false) f _ hC hq
  (λf1 hB=>Qgx hB.1 hs hg hd l (Zr pre (Array.replicate all.length false)) own f1 _ (by rw[ZG];simp) hfr hin (λ_ _=>rfl) hB.2 hC hown hgo) h
 rw[hl] at h1
 have h2:=Uy (ro:=ro) (m:=m) (n:=n) (ds:=ds) (Q:=λe a' w'=>∃ds' f',Ys n ds' a' f'∧(∀t,ZK all t=false→f' t=f t)∧Q e ds' f' w') (YC hn) (KK hnd) f
  (λa f' w hr hk hq=>⟨ds,f',hr,hk,hq⟩) _ _ a f _ ha (λ_ _=>rfl) h1
 simpa[Y8] using h2
theorem XP.keeps_mono {K':Fr→World→Prop}:∀(l:List (Nat×Bool)) (f:Fr) (w:World),XP P all C K l f w→(∀f w,K f w→K' f w)→XP P all C K' l f w
 | [],f,w,h,hk=>by simp only[XP] at h ⊢;exact hk _ _ h
 | (j,q)::l,f,w,h,hk=>by
  simp only[XP] at h ⊢
  cases hg:ZZ all f (QK all j) with
  | false=>rw[hg] at h;exact XP.keeps_mono l _ _ h hk
  | true =>
   rw[hg] at h
   cases q with
   | true=>obtain ⟨v,hv,hx⟩:=h;exact ⟨v,hv,XP.keeps_mono l _ _ hx hk⟩
   | false=>exact XO.mono (λv w' hx=>⟨hx.1,XP.keeps_mono l _ _ hx.2 hk⟩) h
theorem XP.keeps {D:List (Nat×Nat)}{f0:Fr}:∀(l:List (Nat×Bool)) (f:Fr) (w:World),Z5 all D l=true→(∀t,YT D t=false→f t=f0 t)→XP P all C K l f w→XP P all C (λf' w'=>(∀t,YT D t=false→f' t=f0 t)∧K f' w') l f w
 | [],f,w,_,hf,h=>by simp only[XP] at h ⊢;exact ⟨hf,h⟩
 | (j,q)::l,f,w,hd,hf,h=>by
  simp only[Z5,List.all_cons,Bool.and_eq_true] at hd
  have hd':Z5 all D l=true:=hd.2
  simp only[XP] at h ⊢
  cases hg:ZZ all f (QK all j) with
  | false=>rw[hg] at h;exact XP.keeps l _ _ hd' (JT hd.1 hf) h
  | true =>
   rw[hg] at h
   cases q with
   | true=>obtain ⟨v,hv,hx⟩:=h;exact ⟨v,hv,XP.keeps l _ _ hd' (JT hd.1 hf) hx⟩
   | false=>exact XO.mono (λv w' hx=>⟨hx.1,XP.keeps l _ _ hd' (JT hd.1 hf) hx.2⟩) h
theorem XF.keeps {D:List (Nat×Nat)}{f0:Fr}:∀(l:List (Nat×Bool)) (own:LN) (f:Fr) (w:World),Z5 all D l=true→(∀t,YT D t=false→f t=f0 t)→XF P all C K l own f w→XF P all C (λf' w'=>(∀t,YT D t=false→f' t=f0 t)∧K f' w') l own f w
 | [],own,f,w,_,hf,h=>⟨hf,h⟩
 | (j,true)::l,own,f,w,hd,hf,h=>by
  simp only[Z5,List.all_cons,Bool.and_eq_true] at hd
  obtain ⟨hg,v,hv,hx⟩:=h
  exact ⟨hg,v,hv,XF.keeps l own _ _ hd.2 (JT hd.1 hf) hx⟩
 | (j,false)::l,own,f,w,hd,hf,h=>by
  simp only[Z5,List.all_cons,Bool.and_eq_true] at hd
  refine ⟨h.1,λw1 h1 hc=>XO.mono (λv w' hx=>?_) (h.2 w1 h1 hc)⟩
  obtain ⟨hC',own',hst,how,hx⟩:=hx
  exact ⟨hC',own',hst,how,XF.keeps l own' _ _ hd.2 (JT hd.1 hf) hx⟩
theorem QgJ {ro:Option Nat}{m:Nat}{ds:LN}{Q:Exit→LN→Fr→World→Prop}{id:Nat}{α:Type}(C:World→Prop) (pre l:List (Nat×Bool)) (i d:Nat) (rest:List (Nat×Bool)) (own:LN) (D Dc:List (Nat×Nat)) (S:α→List (Nat×Value)) (I:α→World→Prop) (Φ:Value→World→Prop) (hm:P.follows .mixedOrders=true) (hn:YW n all=true) (hnd:jS all=true)
  (hp:QfK all pre l i rest=true) (hin:(Z5 all D pre && Z5 all D l && Z5 all Dc l)=true) (hd:(QK all i).dst=some d) (hC:C { w with drawn:=w.drawn+1 }) (hown:∀b∈own,b<w.heap.size)
  (stab:∀v (own:LN) w w',Φ v w→Step own w w'→(∀b∈ow v,b∉own)→Φ v w') (mono:∀z w w',I z w→Step [] w w'→I z w')
  (fin:∀z g w v,I z w→C w→Φ v w→XP P all C (λf w=>Q .normal ds f w) rest (QU (KE (S z) (mix D f g)) (some d) v) w)
  (h:XP P all C (λf1 _=>(∀g w,C w→XO P (QK all i) (mix Dc f1 g) w λf' w'=>Step [] w w'∧C w'∧Φ (f' d) w'∧∀b∈ow (f' d),w.heap.size≤b∧b<w'.heap.size)∧XF P all C (λf' w'=>∃z,Yy f' (S z)∧I z w') l own f1 { w with drawn:=w.drawn+1 }) pre f { w with drawn:=w.drawn+1 }):WG ro m P n (.region id all.toArray true) Q ds f w:=by
 rw[Bool.and_eq_true,Bool.and_eq_true] at hin
 refine QiS C pre l i d rest own (λf' w'=>(∀t,YT D t=false→f' t=f t)∧∃z,Yy f' (S z)∧I z w') Φ Dc hm hn hnd hp hin.2 hd hC hown ?_
 refine XP.keeps_mono _ _ _ (XP.keeps pre f _ hin.1.1 (λ_ _=>rfl) h) (λf1 w1 hx=>⟨⟨stab,?_,?_,?_⟩,XF.keeps l own _ _ hin.1.2 hx.1 hx.2.2⟩)
 ·intro f' w' hk hC'
  have:=hx.2.1 f' w' hC'
  rw[YO hk] at this
  exact this
 ·rintro f' w' ⟨hk,z,hs,hi⟩ v hC' hv
  have:=fin z f' w' v hi hC' hv
  rw[YO hk,Yc hs] at this
  exact this
 ·rintro f' w' w'' ⟨hk,z,hs,hi⟩ hst
  exact ⟨hk,z,hs,mono z _ _ hi hst⟩
theorem fp {j:Nat}{l:List (Nat×Bool)}{own:LN}{v:Value}(hr:∀w',(execOp (ev f) (QK all j)).run P w'=.ok (.value v) w') (h:XF P all C K l own (QU f (QK all j).dst v) w)
  (hg:ZZ all f (QK all j)=true:=by rfl):XF P all C K ((j,true)::l) own f w:=⟨hg,v,λw' _=>hr w',h⟩
theorem fk {j:Nat}{l:List (Nat×Bool)}{own:LN}(h:∀w1,Step [] w w1→C w1→XO P (QK all j) f w1 λf' w'=>C w'∧∃own',Step own w1 w'∧(∀b∈own',b∈own∨(w1.heap.size≤b∧b<w'.heap.size))∧XF P all C K l own' f' w')
  (hg:ZZ all f (QK all j)=true:=by rfl):XF P all C K ((j,false)::l) own f w:=⟨hg,h⟩
theorem fe {own:LN}(h:K f w):XF P all C K [] own f w:=h
end
attribute [irreducible] XF
end Go.Lg
namespace Go.Proofs.YtgmifemhkjdblaaGreatDoor
open Tryz
open Go.Lg
instance:Bw prog 181 [nS,.int .i64 0,nS,nS,nS,nS,nS,nS] [(0,4),(4,1),(5,1),(6,1),(7,1)]:=⟨by kernel_rfl,by decide⟩
def spF (c:ZB) (pl:QM) (ps:List (LI)) (l:List (LI)):List Rsn:=l.zipIdx.filterMap (λp=>rsn c pl (plx ps (p.1.take c.co.length)) p.2 p.1)
theorem Qeu {c:ZB}{pl:QM}{ps:List (LI)}{l:List (LI)}{k:Nat}(h:k<l.length):spF c pl ps (l.take (k+1))=spF c pl ps (l.take k)++(rsn c pl (plx ps ((l[k]'h).take c.co.length)) k (l[k]'h)).toList:=by
 unfold spF
 rw[List.take_succ_eq_append_getElem h,List.zipIdx_append,List.filterMap_append]
 have e:0+(l.take k).length=k:=by rw[List.length_take];omega
 rw[e]
 simp only[List.zipIdx_cons,List.zipIdx_nil,List.filterMap_cons,List.filterMap_nil]
 cases rsn c pl (plx ps ((l[k]'h).take c.co.length)) k (l[k]'h) <;> rfl
theorem Qb9 (c:ZB) (pl:QM) (ps:List (LI)) (l:List (LI)):(spF c pl ps l).length≤l.length:=by
 unfold spF
 refine Nat.le_trans (List.length_filterMap_le _ _) ?_
 rw[List.length_zipIdx];exact Nat.le_refl _
theorem Qet {c:ZB}{pl sa:QM}{ps ts:List (LI)}(hp:sync (auts c.co)=some (pl,ps)) (hs:sync (auts c.co++auts c.rq)=some (sa,ts)) :
  spc c=⟨sa,ts.map (·.take c.co.length),ts.map (·.drop c.co.length),ts.map (λt=>plx ps (t.take c.co.length)),spF c pl ps ts⟩:=by
 unfold spc syA syQ
 rw[hp,hs]
 simp only[]
 rw[zn]
 simp[spF]
theorem Qgj {n:Nat}{u:LI}{s:List ByteArray}{x:Jj}(h:Ya n u s x=0):x.a.st≠0:=by
 unfold Ya at h
 split at h
 ·cases h
 ·split at h
  ·cases h
  ·split at h
   ·rename_i h1 h2;exact absurd h h2
   ·split at h
    ·cases h
    ·split at h
     ·cases h
     ·assumption
theorem Qax {n:Nat}{al:LI}:∀{l:List Jj}{s:List ByteArray}{u:LI},(Yn n al s u l).1=0→∀x∈l,x.a.st≠0
 | [],_,_,_,x,hx=>by cases hx
 | y::l,s,u,h,x,hx=>by
  rw[KO] at h
  by_cases h1:Ya n al s y≠0
  ·rw[if_pos h1] at h;exact absurd h h1
  ·rw[if_neg h1] at h
   have h2:Ya n al s y=0:=Decidable.not_not.1 h1
   rcases List.mem_cons.1 hx with rfl | hx
   ·exact Qgj h2
   ·exact Qax h x hx
theorem Qgk {c:ZB}(h:Zh c=0):∀x∈c.co,x.a.st≠0:=by
 unfold Zh at h
 by_cases h1:Jt c.ev≠0
 ·rw[if_pos h1] at h;exact absurd h h1
 rw[if_neg h1] at h
 by_cases h2:c.co.length=0
 ·rw[if_pos h2] at h;cases h
 rw[if_neg h2] at h
 by_cases h3:8<c.co.length∨12<c.co.length+c.rq.length
 ·rw[if_pos h3] at h;cases h
 rw[if_neg h3] at h
 by_cases h4:(Yn c.ev.length (Kp c.ev.length) [] [] c.co).1≠0
 ·rw[if_pos h4] at h;exact absurd h h4
 exact Qax (Decidable.not_not.1 h4)
theorem QeV {c:ZB}(h:Zh c=0) {A:QM}{Q:List (LI)}(hs:sync (auts c.co)=some (A,Q)):Q2 A∧A.st=(Q.length:Int)∧0<Q.length∧∀e∈A.al,0≤e∧e<(c.ev.length:Int):=by
 have hok:=ZP h
 have ho:=Y3 hok.co
 have hsp:=Xk ho hs
 refine ⟨hsp.1.okay ho,hsp.1.st,?_,λe he=>?_⟩
 ·refine Nat.pos_of_ne_zero λh0=>?_
  obtain ⟨a,ha,h1⟩:=hsp.2.1 h0
  obtain ⟨x,hx,rfl⟩:=List.mem_map.1 ha
  exact Qgk h x hx h1
 ·rw[hsp.1.al] at he
  obtain ⟨a,ha,h1⟩:=(Uu ho e).1 he
  obtain ⟨x,hx,rfl⟩:=List.mem_map.1 ha
  exact ⟨((hok.co x hx).al e h1).1,hok.ce x hx e h1⟩
theorem Qjy {Q:List (LI)}(h:0<Q.length) (t:LI):0≤plx Q t∧plx Q t<(Q.length:Int):=by
 unfold plx
 split
 ·rename_i hm;have:=List.idxOf_lt_length_of_mem hm;omega
 ·omega
theorem Vt.take {a b:List QM}{t:LI}(h:Vt (a++b) t):Vt a (t.take a.length):=by
 have hl:=h.1
 rw[List.length_append] at hl
 refine ⟨by rw[List.length_take];omega,λi h1 h2=>?_⟩
 have:=h.2 i (by omega) (by rw[List.length_append];omega)
 rw[List.getElem_append_left h2] at this
 rw[List.getElem_take];exact this
theorem Vt.drop {a b:List QM}{t:LI}(h:Vt (a++b) t):Vt b (t.drop a.length):=by
 have hl:=h.1
 rw[List.length_append] at hl
 refine ⟨by rw[List.length_drop];omega,λi h1 h2=>?_⟩
 have:=h.2 (a.length+i) (by omega) (by rw[List.length_append];omega)
 rw[List.getElem_append_right (by omega)] at this
 rw[List.getElem_drop]
 simpa using this
theorem Vt.tpOk {l:List Jj}{t:LI}(h:Vt (auts l) t):QiN (szs l) t:=by
 have hl:=h.1
 unfold auts at hl
 rw[List.length_map] at hl
 refine ⟨by unfold szs;rw[List.length_map];exact hl,λi hi=>?_⟩
 have h1:=h.2 i hi (by unfold auts;rw[List.length_map];omega)
 have hi2:i<(szs l).length:=by unfold szs;rw[List.length_map];omega
 rw[←Zg hi,←Zg hi2]
 unfold auts szs at *
 simpa using h1
theorem Ji.add {base b6 T:Nat}{W y1 y2 y3:World}{v1 v2 v3 v4 v' c0 c1 c2 c3:Value}{cos rqs:List TV}{pls:LI}{fbs:List Rsn}{q:Rsn}(hB:QS W.heap b6 T [c0,c1,c2,c3,v1,v2,v3,v4]) (hS:Ji base W v1 v2 v3 v4 cos rqs pls fbs) (hb6:b6<base) (h1:Step [] W y1)
  (ho:y2.ownsRow base 245 4 v' (fbs.length+1) (fbs.flatMap Yo++Yo q)) (h2:Step (ob v4) y1 y2) (hn:∀b∈ob v',b∈ob v4∨y1.heap.size≤b) (h3:Step [b6] y2 y3) :
  Step (b6::ob v4) W y3∧Ji base y3 v1 v2 v3 v' cos rqs pls (fbs++[q])∧(∀x∈b6::ob v4,∃o:Obj,W.heap[x]?=some o∧o.isCells=true):=by
 refine ⟨((h1.any).trans' (h2.mono λx hx=>List.mem_cons_of_mem _ hx)).trans' (h3.mono λx hx=>?_),(hS.a4 h1 ho h2 hn).low h3 (λx hx=>?_),λx hx=>?_⟩
 ·simp only[List.mem_singleton] at hx;subst hx;exact List.mem_cons_self
 ·simp only[List.mem_singleton] at hx;subst hx;exact hb6
 ·rcases List.mem_cons.1 hx with rfl | hx
  ·exact hB.cells
  ·exact Go.Lg.Zl hS.o4 x hx
set_option maxHeartbeats 40000000 in
theorem qJ {L:LN}{w:World}{c:CL}(h0:ZH L w.heap c) (hkb:Kb w 4096) :
  QG prog 136 [c.val] w λr w'=>Step [] w w'∧∃v,r=.tuple #[v,.int .i64 (Y4 c.cel)]∧(∃us,v=.agg us.toArray∧us.length=8∧ZD us)∧(Y4 c.cel=0→Ql8 w.heap.size w'.heap v (spc c.cel)):=by
 have h:=h0.up (L':=[]) (by simp)
 refine Zc (Y4 c.cel) λE hE=>?_
 refine QG.of_G 20 func136 rfl ntmps136 results136 (by simp) ?_
 refine QZ<|QI (by rfl) (by rfl) ?_
 refine xl rfl<|QQ (us:=c.cells) rfl λb1 w1 hs1 hb1 hB1=>xl rfl<|Qr (us:=[nS,.int .i64 0,nS,nS,nS,nS,nS,nS]) rfl λb2 w2 hs2 hb2 hB2=>Qf ?_
 have hs02:=hs1.trans hs2
 have hz1:=hs1.size
 have hz2:=hs2.size
 have hl1:=hB1.lt
 have hl2:=hB2.lt
 have hB12:=hB1.ext hs2
 refine QZ<|QI (by rfl) (by rfl) ?_
 refine x (Qn hB12 rfl rfl)<|xl rfl<|xf<|(Qgn (h.ext hs02) (hkb.ext hs02)).mono ?_
 rintro r3 w3 ⟨hs3,vp,rfl,hbad,hgood⟩
 rw[hE] at hbad hgood ⊢
 have hs03:=hs02.trans hs3
 refine Qb<|x (Qj rfl rfl)<|x (Qj rfl rfl)<|x Qe<|Qf<|QZ<|QZ<|QI (by rfl) (by rfl) ?_
 refine Qb<|x (Q4 rfl rfl)<|xe ?_
 refine Qkl rfl (λh24=>?_) (λh24=>?_)
 ·refine QZ<|QI (by rfl) (by rfl) ?_
  refine x (Zx [] trivial)<|Qb<|xl rfl<|Ql (us:=[nS,.int .i64 0,nS,nS,nS,nS,nS,nS]) (hB2.ext hs3) rfl rfl rfl rfl ⟨rfl,rfl,rfl,rfl,rfl,rfl,rfl,rfl,trivial⟩ λw4 hs4 hB4=>Qf<|J4 ⟨λ_ h=>(by cases h),List.nodup_nil,[.agg [nS,.int .i64 0,nS,nS,nS,nS,nS,nS].toArray,.int .i64 E],λW' hW'=>⟨⟨⟨_,rfl,Qv rfl ((hB4.ext hW').at (L:=[]) (by simp)).cells⟩,rfl,trivial⟩,(hs03.then1 hs4 (by omega)).trans hW',_,rfl,⟨_,rfl,rfl,rfl,rfl,rfl,rfl,rfl,rfl,rfl,rfl,trivial⟩,λe=>absurd e h24⟩⟩
 have hE0:E=0:=Decidable.not_not.1 h24
 obtain ⟨b,q,rfl,rfl,hQ,hA3,hF3⟩:=hgood hE0
 refine Z3 ?_
 have hlb:=hA3.B.lt
 refine QZ<|QI (by rfl) (by rfl) ?_
 refine Qb<|x (QE rfl)<|x (Qa rfl)<|x (Zv (us:=Q7 q.s) hA3.B rfl rfl rfl)<|x (Zx [(0,Q7 q.s)] ⟨rfl,rfl,trivial⟩)<|xl rfl<|Qr (us:=[nS,.int .i64 0,nS,nS,nS,nS,nS,nS]) rfl λb6 w5 hs5 hb6 hB6 =>
  xl rfl<|Ql (us:=[q.s.va,.int .i64 q.s.a.st,q.s.vm,q.s.ve,nS,nS,nS,nS]) hB6 rfl rfl rfl rfl ⟨hA3.s.al.one,rfl,hA3.s.mr.one,hA3.s.ed.one,rfl,rfl,rfl,rfl,trivial⟩ λw6 hs6 hB6=>xe ?_
 have hs36:Step [] w3 w6:=hs5.then1 hs6 hb6
 have hl6:=hB6.lt
 have hA6:=hA3.ext hs36
 have hs06:=hs03.trans hs36
 have hz3:=hs3.size
 have hz36:=hs36.size
 refine QZ<|QZ<|QI (by rfl) (by rfl) ?_
 refine Qb<|x (QE rfl)<|x (Qa rfl)<|x (Qd hA6.B rfl rfl)<|x (Qs hA6.ts.arr rfl)<|Qb<|xe ?_
 have hQv:=(yk (λa ha=>by
  rcases List.mem_append.1 ha with ha | ha
  ·exact Y3 (ZP hQ.ok).co a ha
  ·exact Y3 (ZP hQ.ok).rq a ha) hQ.s)
 have hVt:=hQv.1
 have hTl:=hQv.2
 simp only[] at hVt hTl
 have hok:=ZP hQ.ok
 have hckc:=hok.c8
 have hcel:q.c.cel.co.length=q.c.co.length:=List.length_map ..
 have hrel:q.c.cel.rq.length=q.c.rq.length:=List.length_map ..
 have hcr:=hok.cr
 have hal:(auts q.c.cel.co++auts q.c.cel.rq).length=q.c.co.length+q.c.rq.length:=by rw[List.length_append];unfold auts;rw[List.length_map,List.length_map,hcel,hrel]
 refine Zc (q.ts.map (·.2)) λT hT=>?_
 rw[hT] at hVt hTl
 have hTn:q.ts.length=T.length:=by rw[←hT,List.length_map]
 refine ZJ<|KU (α:=Nat×(Value×Value×Value×Value)×List TV×List TV×LI) [(7,17),(37,99),(100,118)] (λz=>[(37,.int .i64 z.1)]) (λz ds W'=>z.1≤q.ts.length∧Step [b6] w6 W'∧Kn w6.heap.size W'.heap.size ds W'∧QS W'.heap b6 181 [q.s.va,.int .i64 q.s.a.st,q.s.vm,q.s.ve,z.2.1.1,z.2.1.2.1,z.2.1.2.2.1,z.2.1.2.2.2] ∧
  Ji w6.heap.size W' z.2.1.1 z.2.1.2.1 z.2.1.2.2.1 z.2.1.2.2.2 z.2.2.1 z.2.2.2.1 z.2.2.2.2 (spF q.c.cel q.p.a (q.qs.map (·.2)) (T.take z.1))∧z.2.2.1.map (·.2)=(T.take z.1).map (·.take q.c.co.length)∧z.2.2.2.1.map (·.2)=(T.take z.1).map (·.drop q.c.co.length)∧z.2.2.2.2=(T.take z.1).map (λt=>plx (q.qs.map (·.2)) (t.take q.c.co.length)))
  (λz=>q.ts.length - z.1) (by rfl) (0,(nS,nS,nS,nS),[],[],[]) ⟨rfl,trivial⟩
  ⟨Nat.zero_le _,Step.refl _ _,⟨List.nodup_nil,λD hD=>by cases hD⟩,hB6,Ji.nil _ _,rfl,rfl,rfl⟩ ?_
 rintro ⟨k,⟨v1,v2,v3,v4⟩,cos,rqs,pls⟩ g ds w7 ⟨hk,hs7,hD7,hB7,hS7,hco,hrq,hpl⟩
 simp only[] at hk hB7 hS7 hco hrq hpl
 have hs37:Step [] w3 w7:=hs36.then1 hs7 hb6
 have hs07:=hs03.trans hs37
 have hz7:=hs7.size
 have hTk:(T.take k).length=k:=by rw[List.length_take];omega
 have hcosl:cos.length=k:=by have:=congrArg List.length hco;rw[List.length_map,List.length_map,hTk] at this;exact this
 have hrqsl:rqs.length=k:=by have:=congrArg List.length hrq;rw[List.length_map,List.length_map,hTk] at this;exact this
 have hplsl:pls.length=k:=by rw[hpl,List.length_map,hTk]
 have hfbl:=Qb9 q.c.cel q.p.a (q.qs.map (·.2)) (T.take k)
 rw[hTk] at hfbl
 refine Zc (spF q.c.cel q.p.a (q.qs.map (·.2)) (T.take k)) λfbs hfbs=>?_
 rw[hfbs] at hS7 hfbl
 have l7:=hS7.lt
 refine Zc (ob v1++(ob v2++(ob v3++ob v4))) λav hav=>?_
 have havlt:∀x∈av,w6.heap.size≤x∧x<w7.heap.size:=λx hx=>by
  rw[←hav] at hx
  rcases jW hx with h1 | h1 | h1 | h1
  ·exact Qq hS7.o1 x h1
  ·exact Qq hS7.o2 x h1
  ·exact Qq hS7.o3 x h1
  ·exact Qq hS7.o4 x h1
 have h6av:b6∉av:=λhm=>by have:=(havlt b6 hm).1;omega
 have havL:∀x∈av,x∈b6::av:=λx hx=>List.mem_cons_of_mem _ hx
 have hA7:Kt (b6::av) b w7.heap q:=(hA3.up (λx hx=>.inr (by
  rcases List.mem_cons.1 hx with rfl | hx
  ·exact hb6
  ·have:=(havlt x hx).1;omega))).ext hs37
 refine QZ<|QI (by rfl) (by rfl) ?_
 refine x (QB rfl rfl)<|xe ?_
 refine QZ<|qM rfl (λh38=>?_) (λh38=>?_)
 ·refine Jv ?_
  have hke:q.ts.length≤k:=by have h39:¬(k:Int)<(q.ts.length:Int):=h38;omega
  rw[List.take_of_length_le (by omega)] at hco hrq hpl hfbs
  have hsp:=Qet hQ.p hQ.s
  rw[hT,hcel,←hco,←hrq,←hpl,hfbs] at hsp
  have hs27:=hs3.trans hs37
  refine QZ<|QI (by rfl) (by rfl) ?_
  refine x (Qn hB7 rfl rfl)<|xl rfl<|Ql (us:=[q.s.va,.int .i64 q.s.a.st,q.s.vm,q.s.ve,v1,v2,v3,v4]) (hB2.ext hs27) rfl rfl rfl rfl ⟨hA3.s.al.one,rfl,hA3.s.mr.one,hA3.s.ed.one,QO hS7.o1,QO hS7.o2,QO hS7.o3,QO hS7.o4,trivial⟩ λw8 hs8 hB8=>Qf ?_
  have hb2w:b2<w6.heap.size:=by omega
  have hD8:Kn w6.heap.size w7.heap.size ds w8:=hD7.blk hs8 (hB2.ext hs27)
  have hb2d:b2∉ds:=λhm=>by have:=(hD8.2 b2 hm).1;omega
  have hS8:=hS7.low hs8 (λx hx=>by simp only[List.mem_singleton] at hx;subst hx;exact hb2w)
  refine J4 ⟨λD hD=>(hD8.2 D hD).2.2,hD8.1,[.agg [q.s.va,.int .i64 q.s.a.st,q.s.vm,q.s.ve,v1,v2,v3,v4].toArray,.int .i64 E],λW' hW'=>?_⟩
  have hc8:Lg.X5 [] w8 W':=Lg.X5.nonc hW' (λD hD=>⟨_,(hD8.2 D hD).2.2,rfl⟩)
  have hzW:=hW'.size
  have hS9:=hS8.cst hc8 hzW
  refine ⟨⟨⟨_,rfl,Qv rfl ((hB8.step hW' hb2d).at (L:=[]) (by simp)).cells⟩,congrArg (Value.int .i64) hE0.symm,trivial⟩,(hs07.then1 hs8 (by omega)).then hW' (λD hD=>.inr (by have:=(hD8.2 D hD).1;omega)),_,rfl,⟨_,rfl,rfl,hA3.s.al.one,rfl,hA3.s.mr.one,hA3.s.ed.one,QO hS7.o1,QO hS7.o2,QO hS7.o3,QO hS7.o4,trivial⟩,λ_=>?_⟩
  have hl9:pls.length≤1099511627776:=by omega
  have hl8:fbs.length≤1099511627776:=by omega
  rw[hsp]
  refine ⟨q.s.va,q.s.vm,q.s.ve,v1,v2,v3,v4,cos,rqs,rfl,rfl,rfl,λL hL=>⟨?_,⟨QV hS9.o1 (by omega) (λx hx hm=>?_),λp hp=>hS9.e1 p hp L (λx hx=>?_)⟩,⟨QV hS9.o2 (by omega) (λx hx hm=>?_),λp hp=>hS9.e2 p hp L (λx hx=>?_)⟩,QV hS9.o3 hl9 (λx hx hm=>?_),QV hS9.o4 hl8 (λx hx hm=>?_)⟩⟩
  ·have h1:=((hF3 (b2::L) (λx hx=>by
    rcases List.mem_cons.1 hx with rfl | hx
    ·exact hl2
    ·have:=hL x hx;omega)).ext hs37).st (hs8.mono (λx hx=>by simp only[List.mem_singleton] at hx;subst hx;exact List.mem_cons_self))
   have h2:=h1.up (L':=L) (λx hx=>.inl (List.mem_cons_of_mem _ hx))
   exact ⟨h2.al.cst (hc8.mono (by simp)) hzW,h2.mr.cst (hc8.mono (by simp)) hzW,h2.ed.cst (hc8.mono (by simp)) hzW⟩
  ·have:=(Qq hS9.o1 x hx).1;have:=hL x hm;omega
  ·exact .inl (by have:=hL x hx;omega)
  ·have:=(Qq hS9.o2 x hx).1;have:=hL x hm;omega
  ·exact .inl (by have:=hL x hx;omega)
  ·have:=(Qq hS9.o3 x hx).1;have:=hL x hm;omega
  ·have:=(Qq hS9.o4 x hx).1;have:=hL x hm;omega
 have hlt:k<q.ts.length:=by have h39:(k:Int)<(q.ts.length:Int):=h38;omega
 have hltT:k<T.length:=by omega
 have hmem:=List.getElem_mem hlt
 have hTe:T[k]'hltT=(q.ts[k]'hlt).2:=by subst hT;simp
 have htk:=Qeu (c:=q.c.cel) (pl:=q.p.a) (ps:=q.qs.map (·.2)) hltT
 have htt:T.take (k+1)=T.take k++[T[k]'hltT]:=List.take_succ_eq_append_getElem hltT
 have hVk:=hVt _ (List.getElem_mem hltT)
 rw[hfbs] at htk
 rw[hTe] at htk htt hVk
 refine Z3 ?_
 refine Qjf (α:=(Value×Value×Value×Value)×List TV×List TV×LI) [(7,17),(38,117)] (λz=>[(37,.int .i64 k)]) (λz ds' W'=>Step [b6] w6 W'∧Kn w6.heap.size W'.heap.size ds' W'∧QS W'.heap b6 181 [q.s.va,.int .i64 q.s.a.st,q.s.vm,q.s.ve,z.1.1,z.1.2.1,z.1.2.2.1,z.1.2.2.2] ∧
  Ji w6.heap.size W' z.1.1 z.1.2.1 z.1.2.2.1 z.1.2.2.2 z.2.1 z.2.2.1 z.2.2.2 (spF q.c.cel q.p.a (q.qs.map (·.2)) (T.take (k+1)))∧z.2.1.map (·.2)=(T.take (k+1)).map (·.take q.c.co.length)∧z.2.2.1.map (·.2)=(T.take (k+1)).map (·.drop q.c.co.length)∧z.2.2.2=(T.take (k+1)).map (λt=>plx (q.qs.map (·.2)) (t.take q.c.co.length))) (by rfl) ?_ ?_
 rotate_left
 ·rintro ⟨⟨u1,u2,u3,u4⟩,cos',rqs',pls'⟩ g ds' W ⟨hsW,hDW,hBW,hSW,h1,h2,h3⟩
  refine QI (by rfl) (by rfl) ?_
  refine x (Qy rfl rfl ⟨by omega,by omega⟩)<|Qb<|xe ?_
  exact ⟨(k+1,(u1,u2,u3,u4),cos',rqs',pls'),by simp only[];omega,⟨rfl,trivial⟩,hlt,hsW,hDW,hBW,hSW,h1,h2,h3⟩
 refine ZJ<|QZ<|QI (by rfl) (by rfl) ?_
 refine Qb<|xig (g:=Z7) yj hA7.ts.arr rfl rfl hlt λa40 h40=>?_
 refine Zc (q.ts[k]'hlt) λt ht=>?_
 rw[ht] at h40 hmem htk htt hVk
 have htI:=hA7.ts.each t hmem
 have htl:t.2.length=q.c.co.length+q.c.rq.length:=by rw[hVk.1,hal]
 refine x (Qw h40 rfl)<|xl rfl<|Qr (us:=[.int .i64 0]) rfl λb7 w9 hs9 hb7 hB9=>xl rfl<|QF (j:=0) (u:=.int .i64 k) hB9 rfl rfl (by decide) rfl λw10 hs10 hB10 =>
  Qf ?_
 have hs710:Step [] w7 w10:=hs9.then1 hs10 hb7
 refine QZ<|QI (by rfl) (by rfl) ?_
 refine Qb<|Qb<|xl rfl<|xf<|(Qer (hA7.ext hs710) (htI.ext hs710) (by omega)).mono ?_
 rintro r11 w11 ⟨hs11,v9,v10,rfl,hI9,hI10⟩
 refine Qb<|x (Qj rfl rfl)<|x (Qj rfl rfl)<|x Qe<|Qf ?_
 have hs711:=hs710.trans hs11
 have hA11:=hA7.ext hs711
 refine Zc (t.2.take q.c.co.length) λtc htc=>?_
 refine Zc (t.2.drop q.c.co.length) λtr htr=>?_
 rw[hcel] at htk
 rw[htc] at hI9 htk
 rw[htr] at hI10
 have htcl:tc.length=q.c.co.length:=by rw[←htc,List.length_take];omega
 have htrl:tr.length=q.c.rq.length:=by rw[←htr,List.length_drop];omega
 have hbdt:=hVk.bd (m:=4096) (λa ha=>by
  rcases List.mem_append.1 ha with ha | ha
  ·exact (Y3 hok.co a ha).st1
  ·exact (Y3 hok.rq a ha).st1)
 have hbdc:∀x∈tc,0≤x∧x<4096:=λx hx=>hbdt x (List.mem_of_mem_take (by rw[htc];exact hx))
 refine QZ<|jh (Step [] w11) [(0,true),(1,true),(2,true),(3,true),(4,true),(5,false),(6,true),(7,true)] mixed (by rfl) (by rfl) (by kernel_rfl) (Step.drew _ _) ?_
 refine p (λ_=>Qo)<|p (λ_=>QE rfl)<|p (λ_=>Qa rfl)<|pq (λ_ hc=>Qd (hA11.B.ext hc) rfl rfl)<|p (λ_=>Qo)<|pk<|xf<|(QcT (hI9.ext (Step.drew _ _)) ((hkb.ext (hs07.trans hs711)).ext (Step.drew _ _)) hbdc (by omega)).mono ?_
 rintro r12 w12 ⟨rfl,hs12⟩
 have hs1112:=(Step.drew [] w11).trans hs12
 refine ⟨hs1112,?_⟩
 have hplx:(match mget q.mm (Kr tc) with | some u=>u | none=>.int .i64 0)=Value.int .i64 (plx (q.qs.map (·.2)) tc):=by
  rw[hQ.m tc htcl (λx hx=>(hbdc x hx).1)]
  unfold plx
  by_cases hm:tc∈q.qs.map (·.2)
  ·rw[if_pos hm,if_pos hm]
  ·rw[if_neg hm,if_neg hm]
 refine Zc (plx (q.qs.map (·.2)) tc) λpi hpi=>?_
 rw[hpi] at hplx htk
 refine pq (λ_ hc=>(X7 (k:=Kr tc) (hA11.m.ext hc) rfl rfl).trans (congrArg (λv=>Result.ok (Next.value v) _) hplx))<|p (λ_=>Qe)<|pe ?_
 have hs712:=hs711.trans hs1112
 have hs012:=hs07.trans hs712
 have hI9:=hI9.ext hs1112
 have hI10:=hI10.ext hs1112
 have hB6:=hB7.ext hs712
 have hS12:=hS7.ext hs712
 have hS12d:=hS12.ext (Step.drew [] w12)
 have hz712:=hs712.size
 have hzd:({ w12 with drawn:=w12.drawn+1 }:World).heap.size=w12.heap.size:=rfl
 have hC0:Step av w12 { w12 with drawn:=w12.drawn+1 }:=Step.drew _ _
 have fin:∀{v1' v2' v3' r58 r64:Value} {wx wy:World},Step av w12 wx→Ji w6.heap.size wx v1' v2' v3' v4 (cos++[(r58,tc)]) (rqs++[(r64,tr)]) (pls++[pi]) fbs→Step [b6] wx wy→QS wy.heap b6 181 [q.s.va,.int .i64 q.s.a.st,q.s.vm,q.s.ve,v1',v2',v3',v4] →
   Step (b6::av) w12 wy∧QS wy.heap b6 181 [q.s.va,.int .i64 q.s.a.st,q.s.vm,q.s.ve,v1',v2',v3',v4]∧Ji w6.heap.size wy v1' v2' v3' v4 (cos++[(r58,tc)]) (rqs++[(r64,tr)]) (pls++[pi]) fbs:=λhC hP hs hB =>
  ⟨(hC.mono havL).trans' (hs.mono (λx hx=>by simp only[List.mem_singleton] at hx;subst hx;exact List.mem_cons_self)),hB,hP.low hs (λx hx=>by simp only[List.mem_singleton] at hx;subst hx;exact hl6)⟩
 have hkl:k≤4096:=by omega
 have htc16:tc.length≤16:=by omega
 have htr16:tr.length≤16:=by omega
 have htc40:tc.length≤1099511627776:=by omega
 have htr40:tr.length≤1099511627776:=by omega
 have hl1:cos.length+1≤1099511627776:=by omega
 have hl2:rqs.length+1≤1099511627776:=by omega
 have hl3:pls.length+1≤1099511627776:=by omega
 have hb0:w6.heap.size≤w12.heap.size:=by omega
 refine Qjf (α:=Value×Value×Value×Value×Value) [(55,74)] (λ_=>[]) (λz ds' w'=>ds'=ds∧Step (b6::av) w12 w'∧QS w'.heap b6 181 [q.s.va,.int .i64 q.s.a.st,q.s.vm,q.s.ve,z.1,z.2.1,z.2.2.1,v4]∧Ji w6.heap.size w' z.1 z.2.1 z.2.2.1 v4 (cos++[(z.2.2.2.1,tc)]) (rqs++[(z.2.2.2.2,tr)]) (pls++[pi]) fbs) (by rfl) ?_ ?_
 ·refine QgJ (α:=Value×Value×Value×Value) (Step av w12) [(0,true),(1,true),(2,true),(6,true),(7,true),(8,true),(12,true),(13,true),(14,true)] [(3,false),(4,false),(5,false),(17,true),(9,false),(10,false),(11,false)] 15 70
   [(16,false),(18,false),(19,true),(20,false),(21,true),(22,false)] av [(55,74)] [(58,60),(64,66),(72,72)] (λz=>[(60,z.1),(66,z.2.1),(68,v3),(72,.pointer (some ⟨b6,4,none⟩))]) (λz w'=>Step av w12 w'∧Ji w6.heap.size w' z.1 z.2.1 v3 v4 (cos++[(z.2.2.1,tc)]) (rqs++[(z.2.2.2,tr)]) pls fbs)
   (λv w'=>∃b,v=.slice (some ⟨b,0,none⟩) 1 1∧QS w'.heap b 3 [.int .i64 pi]) mixed (by rfl) (by rfl) (by kernel_rfl) (by rfl) rfl hC0 (λx hx=>Nat.lt_of_lt_of_le (havlt x hx).2 hz712) ?_ ?_ ?_ ?_
  ·rintro v own w w' ⟨b,rfl,hB⟩ hs hn
   exact ⟨b,rfl,hB.step hs (hn b (by simp[ow]))⟩
  ·rintro z w w' ⟨h1,h2⟩ hs
   exact ⟨h1.trans hs,h2.ext hs⟩
  ·rintro ⟨v1',v2',r58,r64⟩ g wz v ⟨hCz,hP⟩ _ ⟨b15,rfl,hB15⟩
   simp only[] at hP
   have hcz:=hCz.size
   refine pk<|Q5 (news:=[.int .i64 pi]) (L:=[]) hP.o3 rfl rfl rfl (hB15.at (by simp)) (by simp[Value.oneCell']) hl3 (Nat.le_trans hb0 hcz) λv3' y1 ho1 hs1 hn1=>?_
   have Q1:=Ji.a3 (q:=pi) hP (Step.refl [] _) ho1 hs1 hn1
   have hC1:Step av w12 y1:=hCz.trans' (hs1.mono (λb hb=>by rw[←hav];exact U4 (.inr (.inr (.inl hb)))))
   refine ⟨hC1,?_⟩
   refine pkl (hl:=by kernel_rfl)<|QF (j:=4) (u:=v1') (hB6.step hC1 h6av) rfl rfl (by simp) (QO Q1.o1) λy2 hs2 hB2'=>p (λ_=>Qa rfl) <|
    pkl (hl:=by kernel_rfl)<|QF (j:=5) (u:=v2') hB2' rfl rfl (by simp) (QO Q1.o2) λy3 hs3 hB3'=>p (λ_=>Qa rfl) <|
    pkl (hl:=by kernel_rfl)<|QF (j:=6) (u:=v3') hB3' rfl rfl (by simp) (QO Q1.o3) λy4 hs4 hB4'=>pe ?_
   exact ⟨(v1',v2',v3',r58,r64),trivial,rfl,fin hC1 Q1 ((hs2.trans' hs3).trans' hs4) hB4'⟩
  refine p (λ_=>Qa rfl)<|pq (λ_ hc=>Qd (hB6.step hc h6av) rfl rfl)<|p (λ_=>Qo)<|p (λ_=>Qa rfl)<|pq (λ_ hc=>Qd (hB6.step hc h6av) rfl rfl)<|p (λ_=>Qo) <|
   p (λ_=>Qa rfl)<|pq (λ_ hc=>Qd (hB6.step hc h6av) rfl rfl)<|p (λ_=>Qo)<|pe ⟨λg wf hCf=>QH (us:=[[.int .i64 pi]]) rfl rfl (by decide) (by simp) ⟨rfl,rfl,trivial⟩ λb wf' hsf hbf hBf=>⟨hsf,hCf.trans hsf,⟨b,rfl,hBf⟩,λx hx=>?_⟩,?_⟩
  ·have hxe:x=b:=by
    have hx':x∈[b]:=hx
    simpa using hx'
   subst hxe
   exact ⟨hbf,hBf.lt⟩
  have own1:∀{X:LN},(∀x∈X,x∈ob v1∨x∈ob v2)→∀x∈X,x∈av:=λhX x hx=>by rw[←hav];exact U4 ((hX x hx).imp id .inl)
  refine fk λx1 p1 c1=>xf<|(Yw (hI9.step c1 havL)).mono ?_
  rintro r58 y1 ⟨hs1,ho1⟩
  have P1:=hS12d.ext p1
  have pb1:=Nat.le_trans hb0 c1.size
  refine ⟨c1.trans hs1,av,hs1.any,λb hb=>.inl hb,?_⟩
  refine fk λx2 p2 c2=>QH (us:=[[r58]]) rfl rfl (by decide) (by simp) ⟨Zl ho1,rfl,trivial⟩ λb2' y2 hs2 hb2' hB2'=>⟨c2.trans hs2,av,hs2.any,λb hb=>.inl hb,?_⟩
  refine fk λx3 p3 c3=>?_
  have sh3:=((hs1.trans p2).trans hs2).trans p3
  have ho3:=Qu ho1 ((p2.trans hs2).trans p3)
  refine Q5 (news:=[r58]) (L:=[]) (Qu P1.o1 sh3) rfl rfl rfl ((hB2'.ext p3).at (by simp)) (λu hu=>by rw[List.mem_singleton] at hu;subst hu;exact QO ho3) hl1 (Nat.le_trans hb0 c3.size) λv1' y3 ho4 hs3 hn3=>?_
  have P2:=Ji.a1 (q:=(r58,tc)) P1 sh3 ho3 htc40 (Nat.le_refl _) pb1 ho4 hs3 hn3
  have hs3':Step av x3 y3:=hs3.mono (own1 λx hx=>.inl hx)
  refine ⟨c3.trans' hs3',av,hs3',λb hb=>.inl hb,?_⟩
  refine fp (λ_=>Qa rfl) ?_
  refine fk λx4 p4 c4=>xf<|(Yw (hI10.step c4 havL)).mono ?_
  rintro r64 y4 ⟨hs4,ho5⟩
  have P3:=P2.ext p4
  have pb3:=Nat.le_trans hb0 c4.size
  refine ⟨c4.trans hs4,av,hs4.any,λb hb=>.inl hb,?_⟩
  refine fk λx5 p5 c5=>QH (us:=[[r64]]) rfl rfl (by decide) (by simp) ⟨Zl ho5,rfl,trivial⟩ λb5' y5 hs5 hb5' hB5'=>⟨c5.trans hs5,av,hs5.any,λb hb=>.inl hb,?_⟩
  refine fk λx6 p6 c6=>?_
  have sh6:=((hs4.trans p5).trans hs5).trans p6
  have ho6:=Qu ho5 ((p5.trans hs5).trans p6)
  refine Q5 (news:=[r64]) (L:=[]) (Qu P3.o2 sh6) rfl rfl rfl ((hB5'.ext p6).at (by simp)) (λu hu=>by rw[List.mem_singleton] at hu;subst hu;exact QO ho6) hl2 (Nat.le_trans hb0 c6.size) λv2' y6 ho7 hs6 hn6=>?_
  have P4:=Ji.a2 (q:=(r64,tr)) P3 sh6 ho6 htr40 (Nat.le_refl _) pb3 ho7 hs6 hn6
  have hs6':Step av x6 y6:=hs6.mono (own1 λx hx=>.inr hx)
  refine ⟨c6.trans' hs6',av,hs6',λb hb=>.inl hb,?_⟩
  exact fe ⟨(v1',v2',r58,r64),⟨rfl,rfl,rfl,rfl,trivial⟩,c6.trans' hs6',P4⟩
 rintro ⟨v1',v2',v3',r58,r64⟩ g ds' w13 ⟨rfl,hs13,hB13,hS13⟩
 simp only[] at hB13 hS13
 have hz13:=hs13.size
 have hA13:=(hA11.ext hs1112).st hs13
 have hI9:=hI9.st hs13
 have hI10:=hI10.st hs13
 have hA130:Kt [] b w13.heap q:=hA13.up (by simp)
 have hcell:∀x∈b6::av,∃o:Obj,w12.heap[x]?=some o∧o.isCells=true:=λx hx=>by
  rcases List.mem_cons.1 hx with rfl | hx
  ·exact hB6.cells
  ·rw[←hav] at hx
   rcases jW hx with h1 | h1 | h1 | h1
   ·exact Go.Lg.Zl hS12.o1 x h1
   ·exact Go.Lg.Zl hS12.o2 x h1
   ·exact Go.Lg.Zl hS12.o3 x h1
   ·exact Go.Lg.Zl hS12.o4 x h1
 have hD13:Kn w6.heap.size w7.heap.size ds' w13:=((hD7.up (Nat.le_refl _)).ext hs712).step hs13 hcell
 have hl7:=hB10.lt
 have hz910:=hs10.size
 have hb7n:b7∉b6::av:=λhm=>by
  rcases List.mem_cons.1 hm with h1 | h1
  ·omega
  ·have:=(havlt _ h1).2;omega
 have hb1n:b1∉b6::av:=λhm=>by
  rcases List.mem_cons.1 hm with h1 | h1
  ·omega
  ·have:=(havlt _ h1).1;omega
 have hB7k:=((hB10.ext hs11).ext hs1112).step hs13 hb7n
 have hB1c:=((hB12.ext (hs3.trans hs37)).ext hs712).step hs13 hb1n
 have hs613:Step [b6] w6 w13:=(hs7.trans hs712).then hs13 (λx hx=>by
  rcases List.mem_cons.1 hx with h1 | h1
  ·subst h1;exact .inl List.mem_cons_self
  ·exact .inr (havlt x h1).1)
 have hco':(cos++[(r58,tc)]).map (·.2)=(T.take (k+1)).map (·.take q.c.co.length):=by rw[htt,List.map_append,List.map_append,hco,List.map_singleton,List.map_singleton,htc]
 have hrq':(rqs++[(r64,tr)]).map (·.2)=(T.take (k+1)).map (·.drop q.c.co.length):=by rw[htt,List.map_append,List.map_append,hrq,List.map_singleton,List.map_singleton,htr]
 have hpl':pls++[pi]=(T.take (k+1)).map (λt=>plx (q.qs.map (·.2)) (t.take q.c.co.length)):=by rw[htt,List.map_append,hpl,List.map_singleton,htc,hpi]
 have hVc:Vt (auts q.c.cel.co) tc:=by
  have h1:=hVk.take
  rw[show (auts q.c.cel.co).length=q.c.co.length by unfold auts;rw[List.length_map];exact hcel,htc] at h1
  exact h1
 have hVr:Vt (auts q.c.cel.rq) tr:=by
  have h1:=hVk.drop
  rw[show (auts q.c.cel.co).length=q.c.co.length by unfold auts;rw[List.length_map];exact hcel,htr] at h1
  exact h1
 have hpo:=QeV hQ.ok hQ.p
 have hpr:=Qjy hpo.2.2.1 tc
 rw[hpi,←hpo.2.1] at hpr
 have hckp:cks q.p.a pi=0:=by
  unfold cks
  rw[if_neg (by rw[(Zs q.p.a).2 hpo.1];decide),if_neg (by omega)]
 have hvo:=QaM hA130.k1 hA130.k2 hA130.k3 (hI9.up (L':=[]) (by simp)) (by rw[hQ.ex,hQ.cs];exact hok.cd) hVc.tpOk
 have hrsn:rsn q.c.cel q.p.a pi k t.2=(match vio q.c.cel tc with | some (kd,j)=>some ⟨k,kd,j,-1⟩ | none=>match rfd q.c.cel tr (QdB q.p.a pi) with | some (j,v)=>some ⟨k,3,j,v⟩ | none=>none):=by unfold rsn;rw[hcel,htc,htr];rfl
 rw[Qd2] at hrsn
 rw[hQ.ex,hQ.cs] at hvo
 refine Zc (qU q.c.cel.ex q.c.cel.cs tc) λV hV=>?_
 rw[hV] at hvo hrsn
 refine QZ<|QZ<|QI (by rfl) (by rfl) ?_
 refine Qb<|x (QE rfl)<|x (Qa rfl)<|x (Zv (us:=[q.vs,q.vx,q.vk]) hA130.B rfl rfl rfl)<|Qb<|xl rfl<|xf<|hvo.mono ?_
 rintro r14 w14 ⟨hs14,rfl⟩
 refine Qb<|x (Qj rfl rfl)<|x (Qj rfl rfl)<|x (Qj rfl rfl)<|x (Qj rfl rfl)<|x Qe<|x Qe<|x Qe<|Qf ?_
 have hB14:=hB13.ext hs14
 have hS14:=hS13.ext hs14
 have hD14:=hD13.ext hs14
 have hs614:=hs613.trans hs14
 have hz14:=hs14.size
 have hfl1:fbs.length+1≤1099511627776:=by omega
 have hb014:w6.heap.size≤w14.heap.size:=by omega
 have hz714:w7.heap.size≤w14.heap.size:=by omega
 refine QZ<|QI (by rfl) (by rfl) ?_
 refine Qb<|xe ?_
 refine J5 rfl (λh86=>?_) (λh86=>?_)
 ·rw[if_pos h86] at hrsn
  simp only[] at hrsn
  rw[hrsn] at htk
  refine QZ<|QI (by rfl) (by rfl) ?_
  refine x (Qa rfl)<|x (Qd hB14 rfl rfl)<|x (Qd (hB7k.ext hs14) rfl rfl)<|Qb<|Qb<|x (QN ⟨rfl,rfl,rfl,rfl,trivial⟩) <|
   xl rfl<|QH (us:=[Yo ⟨k,V.1,V.2.1,-1⟩]) rfl rfl (by decide) (by simp) ⟨rfl,rfl,trivial⟩ λb93 y1 hy1 hb93 hB93=>?_
  have zy1:=hy1.size
  refine xl rfl<|Q5 (m:=1) (news:=Yo ⟨k,V.1,V.2.1,-1⟩) (L:=[]) (Qu hS14.o4 hy1) rfl rfl rfl (hB93.at (by simp)) (by simp[Value.oneCell']) hfl1 (Nat.le_trans hb014 zy1) λu4 y2 ho2 hy2 hn2=>?_
  have hb6v:b6∉ob v4:=λhm=>by have:=(Qq hS14.o4 _ hm).1;omega
  refine x (Qa rfl)<|xl rfl<|QF (j:=7) (u:=u4) ((hB14.ext hy1).step hy2 hb6v) rfl rfl (by simp) (QO ho2) λy3 hy3 hB3=>xe ?_
  have had:=Ji.add (q:=⟨k,V.1,V.2.1,-1⟩) hB14 hS14 hl6 hy1 ho2 hy2 hn2 hy3
  refine Jv ?_
  refine ⟨((v1',v2',v3',u4),cos++[(r58,tc)],rqs++[(r64,tr)],pls++[pi]),⟨rfl,trivial⟩,hs614.then had.1 (λx hx=>?_),((hD14.step had.1 had.2.2).up (Nat.le_trans hz714 had.1.size)),hB3,?_,hco',hrq',hpl'⟩
  ·rcases List.mem_cons.1 hx with h1 | h1
   ·subst h1;exact .inl List.mem_cons_self
   ·exact .inr (Qq hS14.o4 x h1).1
  ·simp only[];rw[htk];exact had.2.1
 rw[if_neg (by rw[h86];decide)] at hrsn
 simp only[] at hrsn
 refine Z3 ?_
 have hA14:=hA13.ext hs14
 have hI10:=hI10.ext hs14
 refine QZ<|QI (by rfl) (by rfl) ?_
 refine Qb<|Qb<|Qb<|xl rfl<|xf<|(jG (b:=b) (st:=pi) (vr:=v10) hI10.cells).mono ?_
 rintro r15 w15 ⟨hs15,c1,c2,c3,rfl,hc1,hc2,hc3,hR1,hR2,hR3⟩
 refine xe ?_
 have hz15:=hs15.size
 have hB15:=hB14.ext hs15
 have hS15:=hS14.ext hs15
 have hD15:=hD14.ext hs15
 have hs615:=hs614.trans hs15
 have hA15:=hA14.ext hs15
 have hB7k:=hB7k.ext (hs14.trans hs15)
 have hB1c:=hB1c.ext (hs14.trans hs15)
 have hI10:=hI10.ext hs15
 refine Zc (wrf q.c.cel.rq tr (enb q.p.a pi)) λfl hfl=>?_
 have hok4:∀x∈b6::ob v4,x∈b6::av:=λx hx=>by
  rcases List.mem_cons.1 hx with rfl | hx
  ·exact List.mem_cons_self
  ·exact List.mem_cons_of_mem _ (by rw[←hav];exact U4 (.inr (.inr (.inr hx))))
 have hlow4:∀x∈b6::ob v4,x<w14.heap.size:=λx hx=>by
  rcases List.mem_cons.1 hx with rfl | hx
  ·omega
  ·exact (Qq hS14.o4 x hx).2
 have hSt15:Kt (b6::ob v4) b w15.heap q:=hA15.up (λx hx=>.inl (hok4 x hx))
 have hIr15:QL (b6::ob v4) w15.heap v10 tr:=hI10.up (λx hx=>.inl (hok4 x hx))
 have hEv:∀p∈fl,0≤p.1∧p.1<(q.c.ev.length:Int):=λp hp=>by
  rw[←hfl] at hp
  have h1:=(yh.1 hp).1
  unfold enb at h1
  obtain ⟨e,he,h2⟩:=List.mem_map.1 h1
  have h3:=hpo.2.2.2 _ (hpo.1.ed e (Yi he).1).2.2.1
  rw[h2] at h3
  exact h3
 refine ZJ<|QgI (α:={ x:Int×Int // x∈fl }) (b6::ob v4) (by omega) (capt:=[.pointer (some ⟨c1,0,none⟩),.pointer (some ⟨c2,0,none⟩),.pointer (some ⟨c3,0,none⟩)]) rfl (encs:=λx=>[.int .i64 x.1.1,.int .i64 x.1.2]) (by decide) (λ_=>rfl)
  (yt hR1 hR2 hR3 (λhm=>by have:=hlow4 _ hm;omega) (λhm=>by have:=hlow4 _ hm;omega) (λx hx=>by have:=hlow4 _ hx;omega) hSt15 hIr15 (λx hx=>hok.rq x.it (List.mem_map_of_mem hx)) hVr hckp rfl hfl)
  (λpre W=>(∀y∈pre,(q.c.cel.ev.getD y.1.1.toNat ⟨.empty,false,false,false,0⟩).co=true)∧Step [] w15 W) (λpre=>(ZX.pure _).and (ZX.step (Nat.le_refl _)))
  (λe pre W=>e=.exit 2∧(∃p y,pre=p++[y]∧(∀y∈p,(q.c.cel.ev.getD y.1.1.toNat ⟨.empty,false,false,false,0⟩).co=true)∧(q.c.cel.ev.getD y.1.1.toNat ⟨.empty,false,false,false,0⟩).co=false ∧
   ∃u4,Step (b6::ob v4) w15 W∧QS W.heap b6 181 [q.s.va,.int .i64 q.s.a.st,q.s.vm,q.s.ve,v1',v2',v3',u4]∧Ji w6.heap.size W v1' v2' v3' u4 (cos++[(r58,tc)]) (rqs++[(r64,tr)]) (pls++[pi]) (fbs++[⟨k,3,y.1.2,y.1.1⟩])∧Kn w6.heap.size w7.heap.size ds' W))
  (λe pre=>(ZX.pure _).and (ZX.ex λp=>ZX.ex λy=>(ZX.pure _).and ((ZX.pure _).and ((ZX.pure _).and (ZX.ex λu4=>(ZX.step (Nat.le_refl _)).and (ZX.blk.and ((ZX.cst λW W' h hc hz=>h.cst hc hz).and (Kn.stb (by omega)))))))))
  ⟨λy hy=>(by cases hy),Step.refl _ _⟩
  (λf x f' W=>f'=upd (upd (upd (upd f 100 (.int .i64 x.1.1)) 101 (.int .i64 x.1.2)) 16 (.int .i64 x.1.1)) 17 (.int .i64 x.1.2)) (λx f'=>ZX.pure _) ?_ ?_ ?_ ?_
 ·rintro l pre ⟨⟨e,i⟩,he⟩ W hW
  refine QZ<|QI (by rfl) (by rfl) ?_
  refine Qf<|QI (by rfl) (by rfl) ?_
  refine Qf ?_
  exact ⟨rfl,Xp.refl _ _ _,Lg.X5.refl _ _,hW,rfl⟩
 ·rintro l pre ⟨⟨e,i⟩,he⟩ f' W ⟨hpre,hW⟩ rfl _
  have hee:=hEv _ he
  simp only[] at hee
  have hen:e=(e.toNat:Int):=by omega
  have hel:e.toNat<q.c.ev.length:=by omega
  have hAW:=hSt15.ext hW
  refine ZJ<|QZ<|QI (by rfl) (by rfl) ?_
  refine x (Qa rfl)<|x (Qd (hB1c.ext hW) rfl rfl)<|Qb<|xig (g:=Zo) (i:=e.toNat) yX hAW.c.ev.arr rfl (congrArg (Value.int .i64) hen) hel λa105 h105=>?_
  have hge:q.c.cel.ev.getD e.toNat ⟨.empty,false,false,false,0⟩=q.c.ev[e.toNat]'hel:=by
   show q.c.ev.getD e.toNat _=_
   simp[List.getD,hel]
  refine Zc (q.c.ev[e.toNat]'hel) λv hv=>?_
  rw[hv] at h105 hge
  refine x (Zd rfl)<|x (Qw (h105.fld 1 (.bool v.co) rfl) rfl)<|x (Zp rfl)<|xe ?_
  refine J5 rfl (λh108=>?_) (λh108=>?_)
  ·have hvc:v.co=false:=by simpa using h108
   have hS:=hS15.ext hW
   have hB:=hB15.ext hW
   have hzW:=hW.size
   refine QZ<|QI (by rfl) (by rfl) ?_
   refine x (Qa rfl)<|x (Qd hB rfl rfl)<|x (Qd (hB7k.ext hW) rfl rfl)<|Qb<|Qb<|x (QN ⟨rfl,rfl,rfl,rfl,trivial⟩) <|
    xl rfl<|QH (us:=[Yo ⟨k,3,i,e⟩]) rfl rfl (by decide) (by simp) ⟨rfl,rfl,trivial⟩ λb93 y1 hy1 hb93 hB93=>?_
   have zy1:=hy1.size
   refine xl rfl<|Q5 (m:=1) (news:=Yo ⟨k,3,i,e⟩) (L:=[]) (Qu hS.o4 hy1) rfl rfl rfl (hB93.at (by simp)) (by simp[Value.oneCell']) hfl1 (by omega) λu4 y2 ho2 hy2 hn2=>?_
   have hb6v:b6∉ob v4:=λhm=>by have:=(Qq hS14.o4 _ hm).1;omega
   refine x (Qa rfl)<|xl rfl<|QF (j:=7) (u:=u4) ((hB.ext hy1).step hy2 hb6v) rfl rfl (by simp) (QO ho2) λy3 hy3 hB3=>xe ?_
   have had:=Ji.add (q:=⟨k,3,i,e⟩) hB hS hl6 hy1 ho2 hy2 hn2 hy3
   refine Jv ?_
   exact ⟨Xp.step had.1 hzW (λx hx=>⟨.inl hx,had.2.2 x hx⟩),rfl,pre,_,rfl,hpre,by simp only[];rw[hge];exact hvc,u4,hW.any.trans' had.1,hB3,had.2.1,(hD15.ext hW).step had.1 had.2.2⟩
  ·have hvc:v.co=true:=by simpa using h108
   refine Z3 ?_
   refine ⟨Xp.refl _ _ _,Lg.X5.refl _ _,λy hy=>?_,hW⟩
   rcases List.mem_append.1 hy with h1 | h1
   ·exact hpre y h1
   ·simp only[List.mem_singleton] at h1;subst h1;simp only[];rw[hge];exact hvc
 ·rintro D xs W hD hxs ⟨hpre,hW⟩ hdD
  have hrf:rfd q.c.cel tr (QdB q.p.a pi)=none:=UM λx hx=>by
   rw[show wrf q.c.cel.rq tr (QdB q.p.a pi)=fl from hfl,←hxs] at hx
   obtain ⟨y,hy,rfl⟩:=List.mem_map.1 hx
   exact hpre y hy
  rw[hrf] at hrsn
  rw[hrsn] at htk
  refine ⟨((v1',v2',v3',v4),cos++[(r58,tc)],rqs++[(r64,tr)],pls++[pi]),⟨rfl,trivial⟩,hs615.trans hW,(hD15.ext hW).cons (by omega) (by omega) hdD,hB15.ext hW,?_,hco',hrq',hpl'⟩
  simp only[];rw[htk]
  have h9:=hS15.ext hW
  simpa using h9
 ·rintro D e pre W hD hSp ⟨rfl,p,y,rfl,hp,hy,u4,hst,hBu,hSu,hDu⟩ hdD _
  have hrf:rfd q.c.cel tr (QdB q.p.a pi)=some (y.1.2,y.1.1):=by
   obtain ⟨rs,hrs⟩:=hSp
   rw[List.map_append] at hrs
   refine UL (x:=y.1) (t:=rs) (p:=p.map (·.1)) ?_ (λz hz=>?_) hy
   ·exact (show wrf q.c.cel.rq tr (QdB q.p.a pi)=fl from hfl).trans (hrs.symm.trans (by simp))
   ·obtain ⟨z',hz',rfl⟩:=List.mem_map.1 hz
    exact hp z' hz'
  rw[hrf] at hrsn
  simp only[] at hrsn
  rw[hrsn] at htk
  refine ⟨((v1',v2',v3',u4),cos++[(r58,tc)],rqs++[(r64,tr)],pls++[pi]),⟨rfl,trivial⟩,hs615.then hst (λx hx=>?_),hDu.cons (by omega) (by omega) hdD,hBu,?_,hco',hrq',hpl'⟩
  ·rcases List.mem_cons.1 hx with h1 | h1
   ·subst h1;exact .inl List.mem_cons_self
   ·exact .inr (Qq hS14.o4 x h1).1
  ·simp only[];rw[htk];exact hSu
end Go.Proofs.YtgmifemhkjdblaaGreatDoor
namespace Go.Lg
section
variable {P:Program} {K:Fr→World→Prop} {f:Fr} {w:World} {d:Option Nat} {ty:Nat} {ps:String} {af:Array Edge} {gd:Option (Nat×Bool)}
theorem US {t:Nat}[h1:Xe P t] {x y:Operand}{b T i:Nat}{l:List Bool}{u:Bool}(hB:QS w.heap b T (l.map Value.bool)) (hx:ev f x=.pointer (some ⟨b,0+i*1,none⟩)) (hy:ev f y=.bool u) (hi:i<l.length)
  (hK:∀w',Step [b] w w'→QS w'.heap b T ((l.set i u).map Value.bool)→K (QU f d undef) w'):XO P ⟨d,.store t x y,ty,ps,af,gd⟩ f w K:=by
 refine QF hB hx hy (by simpa using hi) rfl λw' hs hB'=>hK w' hs ?_
 rw[List.map_set]
 simpa using hB'
theorem XR {t:Nat}[Xe P t] {x:Operand}{b T i:Nat}{l:List Bool}(h:QS w.heap b T (l.map Value.bool)) (hx:ev f x=.pointer (some ⟨b,0+i*1,none⟩)) (hi:i<l.length) :
  (execOp (ev f) ⟨d,.load t x,ty,ps,af,gd⟩).run P w=.ok (.value (.bool (l[i]'hi))) w:=Qd h hx (by simp[hi])
variable {ops:List Oper} {C:World→Prop} {pl:List (Nat×Bool)} {i:Nat}
theorem pqB {b:Bool}(hr:∀w',C w'→(execOp (ev f) (QK ops i)).run P w'=.ok (.value (.bool b)) w') (ht:b=true→XP P ops C K pl (QU f (QK ops i).dst (.bool true)) w) (hf:b=false→XP P ops C K pl (QU f (QK ops i).dst (.bool false)) w)
  (hd:qS (QK ops i)=true:=by rfl) (hg:ZZ ops f (QK ops i)=true:=by rfl):XP P ops C K ((i,true)::pl) f w:=by
 cases hb:b with
 | true=>rw[hb] at hr;exact pq hr (ht hb) hd hg
 | false=>rw[hb] at hr;exact pq hr (hf hb) hd hg
end
end Go.Lg
namespace Go.Proofs.YtgmifemhkjdblaaGreatDoor
open Tryz
open Go.Lg
def bA (n:Nat) (g:Nat→Bool):List Bool:=(List.range n).map g
theorem Qkd (n:Nat) (g:Nat→Bool):(bA n g).length=n:=by simp[bA]
theorem Qkc {n i:Nat}{g g':Nat→Bool}{u:Bool}(hu:u=g' i) (h:∀j,j<n→j≠i→g' j=g j):(bA n g).set i u=bA n g':=by
 apply List.ext_getElem
 ·simp[bA]
 ·intro k h1 h2
  rw[List.getElem_set]
  have hk:k<n:=by simpa[bA] using h2
  by_cases e:i=k
  ·rw[if_pos e,hu,e];simp[bA]
  ·rw[if_neg e]
   have:=h k hk (λe'=>e e'.symm)
   simp[bA,this]
theorem QcY (n:Nat):(List.replicate n (Value.bool false).cells.toList).flatten=(bA n (λi=>decide (i<0))).map Value.bool:=by
 apply List.ext_getElem
 ·simp[Value.cells,bA]
 ·intro i h1 h2
  simp[Value.cells,bA]
theorem VN {l:Lf}{s:Int}(h:s.toNat<l.length):l[s.toNat]'h=lft l s:=by unfold lft;simp[List.getD,h]
theorem QhN (n:Nat) (fb:LI):(lf0 n fb).length=n:=by unfold lf0;rw[qi];simp
instance:Bw prog 275 [nS,.int .i64 0,nS,nS,nS,.map none,nS] [(0,4),(4,1),(5,1),(6,1)]:=⟨by kernel_rfl,by decide⟩
structure Pz where
 va:Value
 vm:Value
 ve:Value
 a:QM
 vu:Value
 unc:LI
 mb:Nat
 mm:List (Int×Value)
 bl:Nat
 n:Nat
 rv:Nat→Value
abbrev Pz.cells (p:Pz):LV:=[p.va,.int .i64 p.a.st,p.vm,p.ve,p.vu,.map (some p.mb),.slice (some ⟨p.bl,0,none⟩) p.n p.n]
structure jl (L:LN) (H:Array Obj) (bp:Nat) (p:Pz):Prop where
 B:QS H bp 275 p.cells
 bL:bp∉L
 a:Zm L H p.va p.vm p.ve p.a
 u:QL L H p.vu p.unc
 M:ZE X2 H p.mb p.mm
 mL:p.mb∉L
 g:∀s,s<p.n→(match mget p.mm ((s:Nat):Int) with | some u=>u | none=>nS)=p.rv s
 R:∀s,s<p.n→QL L H (p.rv s) (Zz p.a.ed s)
theorem jl.ext {L:LN}{w w':World}{bp:Nat}{p:Pz}(h:jl L w.heap bp p) (hs:Step [] w w'):jl L w'.heap bp p:=⟨h.B.ext hs,h.bL,h.a.ext hs,h.u.ext hs,h.M.ext hs,h.mL,h.g,λs hs'=>(h.R s hs').ext hs⟩
theorem jl.st {L:LN}{w w':World}{bp:Nat}{p:Pz}(h:jl L w.heap bp p) (hs:Step L w w'):jl L w'.heap bp p:=⟨h.B.step hs h.bL,h.bL,h.a.st hs,h.u.st hs,h.M.step hs h.mL,h.mL,h.g,λs hs'=>(h.R s hs').st hs⟩
theorem jl.up {L L':LN}{H:Array Obj}{bp:Nat}{p:Pz}(h:jl L H bp p) (hL:∀b∈L',b∈L∨H.size≤b):jl L' H bp p :=
 ⟨h.B,λhm=>by rcases hL _ hm with h1 | h1;exact h.bL h1;have:=h.B.lt;omega,h.a.up hL,h.u.up hL,h.M,λhm=>by rcases hL _ hm with h1 | h1;exact h.mL h1;have:=h.M.lt;omega,h.g,λs hs'=>(h.R s hs').up hL⟩
structure PzQ (p:Pz):Prop where
 ok:Q2 p.a
 n:p.a.st=(p.n:Int)
set_option maxHeartbeats 4000000 in
theorem Qem {w:World}{va vm ve vr vu:Value}{a:QM}{rm unc:LI}{n:Nat}(h:Zm [] w.heap va vm ve a) (hok:Q2 a) (hn:a.st=(n:Int)) (hr:QL [] w.heap vr rm) (hrb:∀x∈rm,0≤x∧x<a.st) (hu:QL [] w.heap vu unc) :
  QG prog 163 [.agg #[va,.int .i64 a.st,vm,ve],vr,vu] w λr w'=>Step [] w w'∧∃bp p,r=.pointer (some ⟨bp,0,none⟩)∧p.a=a∧p.unc=unc∧p.n=n∧w.heap.size≤p.bl∧jl [p.bl] w'.heap bp p∧QS w'.heap p.bl 4 ((lf0 n rm).map Value.bool):=by
 have hst1:=hok.st1
 have hed:=hok.ed
 have hel:=hok.ed_le
 have hrl:=hr.le
 refine QG.of_W func163 rfl ntmps163 results163 (by simp) ?_
 refine Qc<|xl rfl<|QQ (us:=[va,.int .i64 a.st,vm,ve]) rfl λb3 w1 hs1 hb3 hB3=>Qf ?_
 have hl3:=hB3.lt
 have hz1:=hs1.size
 refine QW (α:=Nat×Nat×Nat) [(7,7),(13,20)] (λz=>[(7,.pointer (some ⟨z.1,0,none⟩))]) (λz w'=>Step [] w1 w'∧QS w'.heap z.1 275 [va,.int .i64 a.st,vm,ve,vu,.map (some z.2.1),.slice (some ⟨z.2.2,0,none⟩) n n] ∧
  ZE X2 w'.heap z.2.1 []∧QS w'.heap z.2.2 4 ((bA n (λi=>decide (i<0))).map Value.bool)∧w1.heap.size≤z.1∧w1.heap.size≤z.2.1∧w1.heap.size≤z.2.2∧z.1≠z.2.1∧z.1≠z.2.2∧z.2.1≠z.2.2) (by rfl) ?_ ?_
 ·have hd0:Step [] w1 { w1 with drawn:=w1.drawn+1 }:=Step.drew _ _
  refine QiM (Step [] w1) [(0,true),(1,true),(3,true),(4,true)] 2 5 [(5,false),(6,true),(7,false),(8,true)] [(2,false),(6,true),(7,false),(8,true)] mixed (by rfl) (by kernel_rfl) (Step.drew _ _) ?_
  refine pq (λ_ hc=>Qn (hB3.ext hc) rfl rfl)<|p (λ_=>Qo)<|p (λ_=>Qa rfl)<|pq (λ_ hc=>Qd (hB3.ext hc) rfl rfl)<|pe ⟨⟨rfl,?_⟩,rfl,?_⟩
  ·refine ZU X2 λbm w2 hs2 hbm hM2=>⟨hd0.trans hs2,?_⟩
   refine pk<|Xa (n:=n) (congrArg (Value.int .i64) hn) (congrArg (Value.int .i64) hn) (by omega) λbl w3 hs3 hbl hB=>⟨(hd0.trans hs2).trans hs3,?_⟩
   rw[QcY] at hB
   refine p (λ_=>Zx [(0,[va,.int .i64 a.st,vm,ve]),(1,[vu]),(2,[.map (some bm)]),(3,[.slice (some ⟨bl,0,none⟩) n n])] ⟨rfl,rfl,hu.cells,rfl,rfl,rfl,rfl,rfl,trivial⟩)<|pk <|
    QQ (us:=[va,.int .i64 a.st,vm,ve,vu,.map (some bm),.slice (some ⟨bl,0,none⟩) n n]) rfl λbp w4 hs4 hbp hBp=>⟨((hd0.trans hs2).trans hs3).trans hs4,?_⟩
   refine p (λ_=>Qe)<|pe ?_
   have hl2:=hM2.lt
   have hl4:=hB.lt
   have hz2:=hs2.size
   have hz3:=hs3.size
   have hzd:({ w1 with drawn:=w1.drawn+1 }:World).heap.size=w1.heap.size:=rfl
   exact ⟨(bp,bm,bl),⟨rfl,trivial⟩,((hd0.trans hs2).trans hs3).trans hs4,hBp,(hM2.ext hs3).ext hs4,hB.ext hs4,by simp only[];omega,by simp only[];omega,by simp only[];omega,by simp only[];omega,by simp only[];omega,by simp only[];omega⟩
  ·refine Xa (n:=n) (congrArg (Value.int .i64) hn) (congrArg (Value.int .i64) hn) (by omega) λbl w2 hs2 hbl hB=>⟨hd0.trans hs2,?_⟩
   rw[QcY] at hB
   refine pk<|ZU X2 λbm w3 hs3 hbm hM3=>⟨(hd0.trans hs2).trans hs3,?_⟩
   refine p (λ_=>Zx [(0,[va,.int .i64 a.st,vm,ve]),(1,[vu]),(2,[.map (some bm)]),(3,[.slice (some ⟨bl,0,none⟩) n n])] ⟨rfl,rfl,hu.cells,rfl,rfl,rfl,rfl,rfl,trivial⟩)<|pk <|
    QQ (us:=[va,.int .i64 a.st,vm,ve,vu,.map (some bm),.slice (some ⟨bl,0,none⟩) n n]) rfl λbp w4 hs4 hbp hBp=>⟨((hd0.trans hs2).trans hs3).trans hs4,?_⟩
   refine p (λ_=>Qe)<|pe ?_
   have hl2:=hM3.lt
   have hl4:=hB.lt
   have hz2:=hs2.size
   have hz3:=hs3.size
   have hzd:({ w1 with drawn:=w1.drawn+1 }:World).heap.size=w1.heap.size:=rfl
   exact ⟨(bp,bm,bl),⟨rfl,trivial⟩,((hd0.trans hs2).trans hs3).trans hs4,hBp,hM3.ext hs4,(hB.ext hs3).ext hs4,by simp only[];omega,by simp only[];omega,by simp only[];omega,by simp only[];omega,by simp only[];omega,by simp only[];omega⟩
 rintro ⟨bp,bm,bl⟩ g w4 ⟨hs4,hBp,hM4,hBl,hbp,hbm,hbl,hpm,hpl,hml⟩
 simp only[] at hBp hM4 hBl hbp hbm hbl hpm hpl hml
 have hlp:=hBp.lt
 have hlm:=hM4.lt
 have hll:=hBl.lt
 have hs04:=hs1.trans hs4
 have hz4:=hs4.size
 have hpL:bp∉[bl]:=by simpa using hpl
 have hmL:bm∉[bl]:=by simpa using hml
 have h4:=h.ext hs04
 have hr4:=hr.ext hs04
 refine Qg<|Qc<|Qb<|x (QE rfl)<|x (Qa rfl)<|x (Qd hBp rfl rfl)<|x (Qs (L:=[]) (hBl.arr (by simp) (n:=n) (cap:=n) (sz:=1) (by simp[bA]) (by omega) (Nat.le_refl _)) rfl)<|Qb<|xe ?_
 refine Qh<|QA (α:=Nat) [(8,8),(26,35)] (λz=>[(26,.int .i64 z)]) (λz w'=>z≤n∧Step [bl] w4 w'∧QS w'.heap bl 4 ((bA n (λi=>decide (i<z))).map Value.bool)) (λz=>n - z) (by rfl) 0 ⟨rfl,trivial⟩ ⟨Nat.zero_le _,Step.refl _ _,hBl⟩ ?_
 rintro k g w5 ⟨hk,hs5,hBl5⟩
 refine Qc<|x (QB rfl rfl)<|xe ?_
 refine Qg<|QD rfl (λh27=>?_) (λh27=>?_)
 ·refine Qz ?_
  have hkn:k=n:=by have h28:¬(k:Int)<(n:Int):=h27;omega
  have hall:bA n (λi=>decide (i<k))=(rm.take 0).foldl cut (List.replicate n true):=by
   apply List.ext_getElem
   ·simp[bA]
   ·intro i h1 h2
    have:i<n:=by simpa[bA] using h1
    simp[bA];omega
  rw[hall] at hBl5
  have hup:∀b∈[bl],b<w1.heap.size→b∈([]:LN):=λb hb hlt=>by simp only[List.mem_singleton] at hb;omega
  have h1r:QL [bl] w1.heap vr rm:=(hr.ext hs1).up (λb hb=>.inr (by simp only[List.mem_singleton] at hb;omega))
  have h1u:QL [bl] w1.heap vu unc:=(hu.ext hs1).up (λb hb=>.inr (by simp only[List.mem_singleton] at hb;omega))
  have h1a:Zm [bl] w1.heap va vm ve a:=(h.ext hs1).up (λb hb=>.inr (by simp only[List.mem_singleton] at hb;omega))
  have hbp5:=hBp.step hs5 hpL
  have hM5:=hM4.step hs5 hmL
  refine Qg<|Qc<|Qb<|x (Qs ((h1r.ext hs4).st hs5) rfl)<|Qb<|xe ?_
  refine Qh<|QA (α:=Nat) [(10,10),(38,48)] (λz=>[(38,.int .i64 z)]) (λz w'=>z≤rm.length∧Step [bl] w4 w'∧QS w'.heap bl 4 (((rm.take z).foldl cut (List.replicate n true)).map Value.bool)) (λz=>rm.length - z) (by rfl) 0 ⟨rfl,trivial⟩ ⟨Nat.zero_le _,hs5,hBl5⟩ ?_
  rintro j g w6 ⟨hj,hs6,hBl6⟩
  refine Qc<|x (QB rfl rfl)<|xe ?_
  refine Qg<|QD rfl (λh39=>?_) (λh39=>?_)
  ·refine Qz ?_
   have hje:rm.length≤j:=by have h40:¬(j:Int)<(rm.length:Int):=h39;omega
   rw[List.take_of_length_le hje] at hBl6
   have hbp6:=hBp.step hs6 hpL
   have hM6:=hM4.step hs6 hmL
   have hl6:=hBl6.lt
   refine Qg<|Qc<|x (Qa rfl)<|x (Qd ((hB3.ext hs4).step hs6 (by simp only[List.mem_singleton];omega)) rfl rfl)<|x (Qs ((h1a.ext hs4).st hs6).ed rfl)<|Qb<|xe ?_
   have hz6:=hs6.size
   refine Qh<|QA (α:=Nat×(Nat→Value)×List (Int×Value)) [(12,12),(52,73)] (λz=>[(52,.int .i64 z.1)]) (λz w'=>z.1≤a.ed.length∧Step [bm] w6 w'∧ZE X2 w'.heap bm z.2.2∧J1 w6.heap.size w' n z.2.1 (Zz (a.ed.take z.1))∧∀s,s<n→(match mget z.2.2 ((s:Nat):Int) with | some u=>u | none=>nS)=z.2.1 s) (λz=>a.ed.length - z.1) (by rfl) (0,λ_=>nS,[]) ⟨rfl,trivial⟩
    ⟨Nat.zero_le _,Step.refl _ _,hM6,⟨λi _=>QP _ _ _ _,λi j _ _ _=>Dj.nil _⟩,λs _=>rfl⟩ ?_
   rintro ⟨i,rv,m⟩ g w7 ⟨hi,hs7,hM7,hR7,hg7⟩
   simp only[] at hi hM7 hR7 hg7
   have hz7:=hs7.size
   have hpm7:bp∉[bm]:=by simpa using hpm
   have hlm7:bl∉[bm]:=by simpa using Ne.symm hml
   refine Qc<|x (QB rfl rfl)<|xe ?_
   refine Qg<|QD rfl (λh53=>?_) (λh53=>?_)
   ·refine Qz ?_
    have hie:a.ed.length≤i:=by have h54:¬(i:Int)<(a.ed.length:Int):=h53;omega
    rw[List.take_of_length_le hie] at hR7
    refine Qc<|Qb<|Qf ?_
    have hlow:∀b,b<w4.heap.size→b<w6.heap.size:=λb hb=>by omega
    refine Qk ⟨[_],⟨rfl,trivial⟩,(hs04.then1 hs6 (by omega)).then1 hs7 (by omega),bp,⟨va,vm,ve,a,vu,unc,bm,m,bl,n,rv⟩,rfl,rfl,rfl,rfl,by simp only[];omega,⟨hbp6.step hs7 hpm7,hpL,?_,?_,hM7,hmL,hg7,λs hs=>QV (hR7.own s hs) (Nat.le_trans (Xn a.ed s) (by omega)) (λb hb hm=>?_)⟩,hBl6.step hs7 hlm7⟩
    ·have h9:Zm [bl,bm] w7.heap va vm ve a:=((((h.ext hs1).up (L':=[bl,bm]) (λb hb=>.inr (by simp only[List.mem_cons,List.not_mem_nil,or_false] at hb;omega))).ext hs4).st (hs6.mono (by simp))).st (hs7.mono (by simp))
     exact h9.up (by simp)
    ·have h9:QL [bl,bm] w7.heap vu unc:=((((hu.ext hs1).up (L':=[bl,bm]) (λb hb=>.inr (by simp only[List.mem_cons,List.not_mem_nil,or_false] at hb;omega))).ext hs4).st (hs6.mono (by simp))).st (hs7.mono (by simp))
     exact h9.up (by simp)
    ·have:=(Qq (hR7.own s hs) b hb).1
     simp only[List.mem_singleton] at hm
     omega
   refine Qi ?_
   have hlt:i<a.ed.length:=by have h54:(i:Int)<(a.ed.length:Int):=h53;omega
   have htk:a.ed.take (i+1)=a.ed.take i++[a.ed[i]'hlt]:=List.take_succ_eq_append_getElem hlt
   have hei:=hed _ (List.getElem_mem hlt)
   refine Zc (a.ed[i]'hlt) λe he=>?_
   rw[he] at htk hei
   have hto:e.2.2=(e.2.2.toNat:Int):=by omega
   have htn:e.2.2.toNat<n:=by omega
   have hil:=Xn (a.ed.take i) e.2.2.toNat
   rw[List.length_take] at hil
   have hsn:=U2 (a.ed.take i) e hei.2.2.2.1
   have hE7:Uz [bl,bm] w7.heap ve a.ed:=((((h.ed.ext hs1).up (L':=[bl,bm]) (λb hb=>.inr (by simp only[List.mem_cons,List.not_mem_nil,or_false] at hb;omega))).ext hs4).st (hs6.mono (by simp))).st (hs7.mono (by simp))
   refine Qg<|Qh<|Qc<|xie hE7 rfl rfl hlt λa54 h54=>?_
   rw[he] at h54
   refine x (QJ h54 rfl rfl)<|xl rfl<|Qr (us:=[.int .i64 0,.int .i64 0,.int .i64 0]) rfl λb12 w8 hs8 hb12 hB12=>xl rfl<|Ql (us:=QC e) hB12 rfl rfl rfl rfl ⟨rfl,rfl,rfl,trivial⟩ λw9 hs9 hB12'=>xe ?_
   have hs79:Step [] w7 w9:=hs8.then1 hs9 hb12
   have hz9:=hs79.size
   have hR9:=hR7.ext hs79
   have hrow:=hR9.own _ htn
   have hIn:∀b∈ob (rv e.2.2.toNat),w6.heap.size≤b∧b<w7.heap.size:=λb hb=>⟨(Qq (hR7.own _ htn) b hb).1,Q0 (hR7.own _ htn) b hb⟩
   have hpn:bp∉ob (rv e.2.2.toNat):=λhb=>by have:=hIn _ hb;omega
   have hmn:bm∉ob (rv e.2.2.toNat):=λhb=>by have:=hIn _ hb;omega
   have h12n:b12∉ob (rv e.2.2.toNat):=λhb=>by have:=hIn _ hb;omega
   have hbp9:=((hbp6.step hs7 hpm7).ext hs79)
   have hM9:=hM7.ext hs79
   have hlk:=hg7 e.2.2.toNat htn
   rw[←hto] at hlk
   refine QT (Step (ob (rv e.2.2.toNat)) w9) [(0,true),(1,true),(2,true),(3,true),(4,true),(5,true),(6,true),(7,true),(8,true),(9,true),(10,true),(11,true),(12,true),(13,true),(14,true),(15,false),(16,false),(17,false)] mixed (by rfl) (by kernel_rfl) (Step.drew _ _) ?_
   refine p (λ_=>Qo)<|p (λ_=>QE rfl)<|p (λ_=>Qa rfl)<|pq (λ_ hc=>Qd (hbp9.step hc hpn) rfl rfl) <|
    p (λ_=>Qa rfl)<|pq (λ_ hc=>Qd (hB12'.step hc h12n) rfl rfl)<|p (λ_=>Qo)<|p (λ_=>QE rfl)<|p (λ_=>Qa rfl) <|
    pq (λ_ hc=>Qd (hbp9.step hc hpn) rfl rfl)<|p (λ_=>Qa rfl)<|pq (λ_ hc=>Qd (hB12'.step hc h12n) rfl rfl) <|
    pq (λ_ hc=>(X7 (k:=e.2.2) (hM9.step hc hmn) rfl rfl).trans (congrArg (λv=>Result.ok (Next.value v) _) hlk))<|p (λ_=>Qa rfl)<|pq (λ_ hc=>Qd (hB12'.step hc h12n) rfl rfl) <|
    pk<|QH (us:=[[.int .i64 e.1]]) rfl rfl (by decide) (by simp) ⟨rfl,rfl,trivial⟩ λb71 w10 hs10 hb71 hB71=>⟨(Step.drew _ _).trans hs10,?_⟩
   have hs910:Step [] w9 w10:=(Step.drew _ _).trans hs10
   have hz10:=hs910.size
   refine pk<|Q5 (m:=1) (news:=[.int .i64 e.1]) (Qu hrow hs910) rfl rfl rfl (hB71.at (L:=[]) (by simp)) (by simp[Value.oneCell']) (by omega) (by omega) λvr' w11 ho11 hs11 hn11=>⟨hs910.any.trans' hs11,?_⟩
   have hM11:=(hM9.ext hs910).step hs11 hmn
   refine pkl (hl:=by kernel_rfl)<|Yv (k:=e.2.2) hM11 rfl rfl λw12 hs12 hM12=>pe ?_
   have hvn:∀b∈ob vr',b∈ob (rv e.2.2.toNat)∨w9.heap.size≤b:=λb hb=>(hn11 b hb).imp id (λh=>by omega)
   have hR11:=hR9.app htn (Qt.snoc ho11) (hs910.any.trans' hs11) hvn
   have hR12:=hR11.step hs12 (λi hi b hb=>by have:=(Qq (hR11.own i hi) b hb).1;simp only[List.mem_singleton];omega)
   have hfe:JF (Zz (a.ed.take i)) e.2.2.toNat (Zz (a.ed.take i) e.2.2.toNat++[e.1])=Zz (a.ed.take (i+1)):=by rw[htk];exact funext hsn
   rw[hfe] at hR12
   refine Qx<|x (Qy rfl rfl ⟨by omega,by omega⟩)<|Qb<|xe ?_
   refine ⟨(i+1,JF rv e.2.2.toNat vr',mput m e.2.2 vr'),by simp only[];omega,⟨rfl,trivial⟩,hlt,?_,hM12,hR12,λs hs=>?_⟩
   ·exact (((hs7.trans hs79).trans hs910).then hs11 (λb hb=>.inr (hIn b hb).1)).trans' hs12
   ·simp only[]
    rw[Ja]
    by_cases hse:s=e.2.2.toNat
    ·subst hse
     rw[if_pos hto,ZT]
    ·rw[if_neg (by omega),Yd _ _ hse]
     exact hg7 s hs
  refine Qi ?_
  have hjlt:j<rm.length:=by have h40:(j:Int)<(rm.length:Int):=h39;omega
  have hxj:=hrb _ (List.getElem_mem hjlt)
  have htk:rm.take (j+1)=rm.take j++[rm[j]'hjlt]:=List.take_succ_eq_append_getElem hjlt
  refine Zc (rm[j]'hjlt) λs hs=>?_
  rw[hs] at hxj htk
  have hsn:s=(s.toNat:Int):=by omega
  have hlen:((rm.take j).foldl cut (List.replicate n true)).length=n:=by rw[qi];simp
  refine Qg<|Qh<|Qc<|xii (i:=j) ((h1r.ext hs4).st hs6) rfl rfl hjlt λa40 h40=>?_
  rw[hs] at h40
  refine x (Qw h40 rfl)<|Qf<|Qx<|Qb<|x (QE rfl)<|x (Qa rfl)<|x (Qd (hBp.step hs6 hpL) rfl rfl)<|Qb<|x (QR (i:=s.toNat) rfl (congrArg (Value.int .i64) hsn) (by omega)) <|
   xl rfl<|US (i:=s.toNat) hBl6 rfl rfl (by omega) λw7 hs7 hBl7=>xe ?_
  refine Qx<|x (Qy rfl rfl ⟨by omega,by omega⟩)<|Qb<|xe ?_
  refine ⟨j+1,by omega,⟨rfl,trivial⟩,hjlt,hs6.trans' hs7,?_⟩
  rw[htk,List.foldl_append]
  exact hBl7
 refine Qi ?_
 have hlt:k<n:=by have h28:(k:Int)<(n:Int):=h27;omega
 have hbp5:=hBp.step hs5 hpL
 refine Qg<|Qh<|Qc<|Qb<|Qf<|Qx<|Qb<|x (QE rfl)<|x (Qa rfl)<|x (Qd hbp5 rfl rfl)<|Qb<|x (QR (i:=k) rfl rfl (by omega)) <|
  xl rfl<|US (i:=k) hBl5 rfl rfl (by rw[Qkd];exact hlt) λw6 hs6 hBl6=>xe ?_
 have hst:(bA n (λi=>decide (i<k))).set k true=bA n (λi=>decide (i<k+1)):=Qkc (by simp) (λi _ hi=>by
  by_cases e:i<k
  ·simp[e];omega
  ·simp[e];omega)
 rw[hst] at hBl6
 refine Qx<|x (Qy rfl rfl ⟨by omega,by omega⟩)<|Qb<|xe ?_
 exact ⟨k+1,by omega,⟨rfl,trivial⟩,hlt,hs5.trans' hs6,hBl6⟩
theorem qw {l r:LI}{i:Nat}(h:i<l.length):cget (l++r) i=cget l i:=by
 unfold cget;simp[List.getD,List.getElem?_append_left h]
set_option maxHeartbeats 4000000 in
theorem Vq {w:World}{bp:Nat}{q:Pz}{lf:Lf}(hA:jl [] w.heap bp q) (hq:PzQ q) (hB:QS w.heap q.bl 4 (lf.map Value.bool)) (hl:lf.length=q.n) :
  QG prog 167 [.pointer (some ⟨bp,0,none⟩)] w λr w'=>Step [] w w'∧∃b,r=.slice (some ⟨b,0,none⟩) q.n q.n∧w.heap.size≤b∧QS w'.heap b 3 ((dsts q.a lf).map (Value.int .i64))∧(dsts q.a lf).length=q.n:=by
 have hn:=hq.n
 have hst1:=hq.ok.st1
 have hmr:=hq.ok.mr
 have hml:=hq.ok.mr_le
 have hel:=hq.ok.ed_le
 have hnt:q.a.st.toNat=q.n:=by omega
 have hd0:=Qj0 (lf:=lf) hq.ok hn
 have hdt:(dsL q.a.ed lf q.n 0 (ds0 q.a lf)).1=dsts q.a lf:=by unfold dsts;rw[hnt]
 refine Zc (dsts q.a lf) λDD hDD=>?_
 rw[hDD] at hdt ⊢
 refine QG.of_W func167 rfl ntmps167 results167 (by simp) ?_
 refine Qc<|Qf<|Qc<|Qb<|x (QE rfl)<|x (Qa rfl)<|x (Qa rfl)<|x (Qd hA.B rfl rfl)<|xl rfl<|Xa (n:=q.n) (congrArg (Value.int .i64) hn) (congrArg (Value.int .i64) hn) (by omega) λbO w1 hs1 hbO hBO=>Qf ?_
 rw[zL] at hBO
 refine Qg<|Qc<|Qb<|x (Qs (L:=[]) (hBO.arr (by simp) (n:=q.n) (cap:=q.n) (sz:=1) (by simp[gA]) (by omega) (Nat.le_refl _)) rfl)<|Qb<|xe ?_
 refine Qh<|QA (α:=Nat) [(4,4),(19,25)] (λz=>[(19,.int .i64 z)]) (λz w'=>z≤q.n∧Step [] w w'∧QS w'.heap bO 3 ((gA q.n (λj=>if j<z then -1 else 0)).map (Value.int .i64))) (λz=>q.n - z) (by rfl) 0 ⟨rfl,trivial⟩ ⟨Nat.zero_le _,hs1,hBO⟩ ?_
 rintro j g w2 ⟨hj,hs2,hBO2⟩
 refine Qc<|x (QB rfl rfl)<|xe ?_
 refine Qg<|QD rfl (λh20=>?_) (λh20=>?_)
 ·refine Qz ?_
  have hjn:j=q.n:=by have h21:¬(j:Int)<(q.n:Int):=h20;omega
  have hg0:gA q.n (λi=>if i<j then -1 else 0)=((q.a.mr.take 0).foldl (jj lf) (List.replicate q.n (-1),[])).1:=by
   apply List.ext_getElem
   ·simp[gA]
   ·intro i h1 h2
    have:i<q.n:=by simpa[gA] using h1
    simp[gA];omega
  rw[hg0] at hBO2
  refine Qc<|Qf<|Qg<|Qc<|Qb<|x (QE rfl)<|x (Qa rfl)<|x (Qa rfl)<|x (Qd (hA.ext hs2).B rfl rfl)<|x (Qs (hA.ext hs2).a.mr rfl)<|Qb<|xe ?_
  refine Qh<|QA (α:=Nat×Value) [(5,5),(7,7),(32,50)] (λz=>[(5,z.2),(32,.int .i64 z.1)]) (λz w'=>z.1≤q.a.mr.length∧Step [] w w'∧w2.heap.size≤w'.heap.size∧QS w'.heap bO 3 (((q.a.mr.take z.1).foldl (jj lf) (List.replicate q.n (-1),[])).1.map (Value.int .i64)) ∧
   Qt 3 w2.heap.size w' z.2 ((q.a.mr.take z.1).foldl (jj lf) (List.replicate q.n (-1),[])).2) (λz=>q.a.mr.length - z.1) (by rfl) (0,nS) ⟨rfl,rfl,trivial⟩ ⟨Nat.zero_le _,hs2,Nat.le_refl _,hBO2,QP _ _ _ _⟩ ?_
  rintro ⟨k,vl⟩ g w3 ⟨hk,hs3,hz3,hBO3,hO3⟩
  simp only[] at hk hBO3 hO3
  have htk0:=Qan (lf:=lf) (λx hx=>(hmr x hx).1) k
  rw[hnt] at htk0
  have hbo:=hBO3.lt
  refine Qc<|x (QB rfl rfl)<|xe ?_
  refine Qg<|QD rfl (λh33=>?_) (λh33=>?_)
  ·refine Qz ?_
   have hke:q.a.mr.length≤k:=by have h34:¬(k:Int)<(q.a.mr.length:Int):=h33;omega
   have e0:(q.a.mr.take k).foldl (jj lf) (List.replicate q.n (-1),[])=ds0 q.a lf:=by rw[List.take_of_length_le hke];unfold ds0;rw[hnt]
   rw[e0] at hBO3 hO3
   have hbO2:bO<w2.heap.size:=hBO2.lt
   refine Qg<|Qc<|Qf<|Qh<|QA (α:=Nat×Nat×Value×LI×LI) [(5,5),(8,8),(10,10),(51,100)] (λz=>[(5,z.2.2.1),(8,.int .i64 z.2.1)])
    (λz w'=>Step [] w w'∧w2.heap.size≤w'.heap.size∧QS w'.heap bO 3 (z.2.2.2.1.map (Value.int .i64))∧Qt 3 w2.heap.size w' z.2.2.1 z.2.2.2.2∧DsI q.n z.2.2.2∧z.1+z.2.1=q.n∧(dsL q.a.ed lf z.1 z.2.1 z.2.2.2).1=DD) (λz=>q.n - z.2.1) (by rfl) (q.n,0,vl,(ds0 q.a lf).1,(ds0 q.a lf).2) ⟨rfl,rfl,trivial⟩
    ⟨hs3,hz3,hBO3,hO3,hd0,rfl,hdt⟩ ?_
   rintro ⟨f,i,vl,o,l⟩ g w4 ⟨hs4,hz4,hBO4,hO4,hI4,hfi,hres⟩
   simp only[] at hz4 hBO4 hO4 hI4 hfi hres
   have hll:=hI4.le
   have hol:=hI4.ok.len
   simp only[] at hll hol
   have hA4:=hA.ext hs4
   refine Qg<|Qc<|Qb<|Qb<|x (Qs (L:=[]) (QV hO4 (by omega) (by simp)) rfl)<|x (QB rfl rfl)<|xe ?_
   refine QD rfl (λh54=>?_) (λh54=>?_)
   ·refine Qz ?_
    have hie:¬i<l.length:=by have h55:¬(i:Int)<(l.length:Int):=h54;omega
    rw[Qf4 hie] at hres
    simp only[] at hres
    subst hres
    refine Qc<|Qb<|Qf ?_
    exact Qk ⟨[.slice (some ⟨bO,0,none⟩) q.n q.n],⟨rfl,trivial⟩,hs4,bO,rfl,hbO,hBO4,hol⟩
   refine Qi ?_
   have hil:i<l.length:=by have h55:(i:Int)<(l.length:Int):=h54;omega
   refine Exists.elim (Nat.exists_eq_succ_of_ne_zero (show f≠0 by omega)) λf' hfe=>?_
   subst hfe
   rw[dsL,if_pos hil] at hres
   have hli:=Zg hil
   have hsr:=hI4.ok.q _ (Xz hil)
   have hs0:=hI4.s0 _ (Xz hil)
   refine Zc (cget l i) λs hs=>?_
   rw[hs] at hres hsr hli
   simp only[] at hsr hs0
   rw[hs] at hs0
   have hsn:s=(s.toNat:Int):=by omega
   have hlk:=hA4.g s.toNat (by omega)
   rw[←hsn] at hlk
   have hRw:=hA4.R s.toNat (by omega)
   have hil2:=Xn q.a.ed s.toNat
   refine Qg<|Qh<|Qg<|QT (Step [] w4) [(0,true),(1,true),(2,true),(3,true),(4,true),(5,true),(6,true),(7,true),(8,true),(9,true),(10,true)] mixed (by rfl) (by kernel_rfl) (Step.drew _ _) ?_
   refine p (λ_=>Qo)<|p (λ_=>QE rfl)<|p (λ_=>Qa rfl)<|pq (λ_ hc=>Qd (hA4.B.ext hc) rfl rfl)<|p (λ_=>Qo)<|p (λ_=>Qo) <|
    pii (i:=i) rfl (QV (L:=[]) hO4 (by omega) (by simp)) rfl rfl hil λa63 h63=>?_
   rw[hli] at h63
   refine pq (λ_ hc=>Qw (h63.ext hc) rfl)<|pq (λ_ hc=>(X7 (k:=s) (hA4.M.ext hc) rfl rfl).trans (congrArg (λv=>Result.ok (Next.value v) _) hlk))<|p (λ_=>Qs hRw rfl)<|p (λ_=>Qo)<|pe ?_
   have hd4:Step [] w4 { w4 with drawn:=w4.drawn+1 }:=Step.drew _ _
   refine Qh<|QA (α:=Nat×Value×LI×LI) [(5,5),(10,10),(67,100)] (λz=>[(5,z.2.1),(67,.int .i64 z.1)])
    (λz w'=>z.1≤(Zz q.a.ed s.toNat).length∧Step [] w w'∧w2.heap.size≤w'.heap.size∧QS w'.heap bO 3 (z.2.2.1.map (Value.int .i64))∧Qt 3 w2.heap.size w' z.2.1 z.2.2.2∧DsI q.n z.2.2∧0≤cget z.2.2.1 s.toNat∧i<z.2.2.2.length∧cget z.2.2.2 i=s ∧
     ((Zz q.a.ed s.toNat).drop z.1).foldl (Uk lf s) z.2.2=(Zz q.a.ed s.toNat).foldl (Uk lf s) (o,l)) (λz=>(Zz q.a.ed s.toNat).length - z.1) (by rfl) (0,vl,o,l) ⟨rfl,rfl,trivial⟩
    ⟨Nat.zero_le _,hs4.trans hd4,Nat.le_trans hz4 hd4.size,hBO4.ext hd4,Qu hO4 hd4,hI4,hs0,hil,hs,rfl⟩ ?_
   rintro ⟨m,vl2,o2,l2⟩ g w5 ⟨hm,hs5,hz5,hBO5,hO5,hI5,hos5,hil5,hci5,hfo⟩
   simp only[] at hm hz5 hBO5 hO5 hI5 hos5 hil5 hci5 hfo
   have hA5:=hA.ext hs5
   have hll5:=hI5.le
   have hol5:=hI5.ok.len
   simp only[] at hll5 hol5
   refine Qc<|x (QB rfl rfl)<|xe ?_
   refine Qg<|QD rfl (λh68=>?_) (λh68=>?_)
   ·refine Qz ?_
    have hme:(Zz q.a.ed s.toNat).length≤m:=by have h69:¬(m:Int)<((Zz q.a.ed s.toNat).length:Int):=h68;omega
    rw[List.drop_of_length_le hme] at hfo
    simp only[List.foldl_nil] at hfo
    rw[←hfo] at hres
    refine Qx<|Qb<|x (Qy rfl rfl ⟨by omega,by omega⟩)<|Qf ?_
    exact ⟨(f',i+1,vl2,o2,l2),by simp only[];omega,⟨rfl,rfl,trivial⟩,hs5,hz5,hBO5,hO5,hI5,by simp only[];omega,hres⟩
   refine Qi ?_
   have hmlt:m<(Zz q.a.ed s.toNat).length:=by have h69:(m:Int)<((Zz q.a.ed s.toNat).length:Int):=h68;omega
   have hpm:=Jc (List.getElem_mem hmlt)
   have hdr:=Q6 hmlt
   rw[hdr,List.foldl_cons] at hfo
   refine Zc ((Zz q.a.ed s.toNat)[m]'hmlt) λy hy=>?_
   rw[hy] at hpm hfo
   have hyb:0≤y∧y<(q.n:Int):=by
    obtain ⟨e,he,h1,_⟩:=hpm
    have:=hq.ok.ed e he
    omega
   have hyn:y=(y.toNat:Int):=by omega
   have hyl:y.toNat<o2.length:=by omega
   have hsl:s.toNat<o2.length:=by omega
   have hvs:=hI5.ok.le _ (Xz hsl)
   simp only[] at hvs
   have hE:=Qf5 (lf:=lf) hI5 hsr hos5 hyb
   have hlft:=VN (l:=lf) (s:=y) (by omega)
   have hngl:=yE o2
   refine Qg<|Qh<|Qc<|xii (i:=m) ((hA5.R s.toNat (by omega))) rfl rfl hmlt λa69 h69=>?_
   rw[hy] at h69
   refine x (Qw h69 rfl)<|Qf<|QW (α:=Bool) [(71,84)] (λz=>[(84,.bool z)]) (λz w'=>w'=w5∧z=(lft lf y && decide (cget o2 y.toNat<0))) (by rfl) ?_ ?_
   ·refine Qx ?_
    have hld:∀{P:Prop},(∀b,lft lf y=b→P)→P:=λh=>h _ rfl
    refine Qb<|x (QE rfl)<|x (Qa rfl)<|x (Qd hA5.B rfl rfl)<|Qb<|x (QR (i:=y.toNat) rfl (congrArg (Value.int .i64) hyn) (by omega))<|x (XR (i:=y.toNat) (hB.ext hs5) rfl (by omega))<|?_
    rw[hlft]
    cases lft lf y with
    | true =>
     refine Qb<|Qb<|Qb<|x (QR (i:=y.toNat) rfl (congrArg (Value.int .i64) hyn) (by omega))<|x (J9 (i:=y.toNat) hBO5 rfl hyl)<|x (QB rfl rfl)<|x (Qp rfl)<|xe ?_
     exact ⟨_,⟨rfl,trivial⟩,rfl,by rw[Zg hyl];rfl⟩
    | false =>
     refine Qb<|xs rfl<|xs rfl<|xs rfl<|xs rfl<|xs rfl<|x (Qp rfl)<|xe ?_
     exact ⟨_,⟨rfl,trivial⟩,rfl,rfl⟩
   rintro z g w5' ⟨rfl,rfl⟩
   refine QY rfl (λh84=>?_) (λh84=>?_)
   ·rw[Bool.and_eq_true,decide_eq_true_eq] at h84
    have hEq:Uk lf s (o2,l2) y=(o2.set y.toNat (cget o2 s.toNat+1),l2++[y]):=by unfold Uk;rw[if_pos h84]
    rw[hEq] at hfo hE
    have hcs:=Zg hsl
    have hci:=Zg hil5
    rw[hci5] at hci
    refine Qc<|Qb<|Qb<|Qb<|Qb<|Qb<|xii (i:=i) (QV (L:=[]) hO5 (by omega) (by simp)) rfl rfl hil5 λa90 h90=>?_
    rw[hci] at h90
    refine x (Qw h90 rfl)<|x (QR (i:=s.toNat) rfl (congrArg (Value.int .i64) hsn) (by omega))<|x (J9 (i:=s.toNat) hBO5 rfl hsl)<|x (Qy rfl rfl ⟨by omega,by omega⟩) <|
     x (QR (i:=y.toNat) rfl (congrArg (Value.int .i64) hyn) (by omega))<|xl rfl<|Xt (i:=y.toNat) hBO5 rfl rfl hyl λw6 hs6 hBO6=>xe ?_
    rw[hcs] at hBO6
    have hz6:=hs6.size
    have hnO:∀b∈ob vl2,b∉[bO]:=λb hb=>by have:=Qq hO5 b hb;simp only[List.mem_singleton];omega
    have hO6:Qt 3 w2.heap.size w6 vl2 l2:=Qm hO5 hs6 hnO
    have hs06:Step [] w w6:=hs5.then1 hs6 hbO
    refine Qx<|Qb<|Qb<|xl rfl<|QH (us:=[[.int .i64 y]]) rfl rfl (by decide) (by simp) ⟨rfl,rfl,trivial⟩ λb98 w7 hs7 hb98 hB98=>xl rfl<|Q5 (m:=1) (news:=[.int .i64 y]) (Qu hO6 hs7) rfl rfl rfl (hB98.at (L:=[]) (by simp)) (by simp[Value.oneCell']) (by omega) (by have:=hs7.size;omega) λvl3 w8 hO8 hs8 hn8 =>
     Qf ?_
    have hz7:=hs7.size
    have hz8:=hs8.size
    refine Qx<|x (Qy rfl rfl ⟨by omega,by omega⟩)<|Qb<|xe ?_
    refine ⟨(m+1,vl3,_,l2++[y]),by simp only[];omega,⟨rfl,rfl,trivial⟩,hmlt,(hs06.trans hs7).then hs8 (λb hb=>.inr (by have:=Qq hO6 b hb;have:=hs1.size;have:=hs2.size;omega)),by omega,(hBO6.ext hs7).step hs8 (λhb=>by have:=Qq hO6 _ hb;omega),Qt.snoc hO8,hE.1,hE.2,by simp only[List.length_append];omega,by rw[qw hil5];exact hci5,hfo⟩
   ·have hEq:Uk lf s (o2,l2) y=(o2,l2):=by
     unfold Uk;rw[if_neg]
     intro hc
     rw[hc.1,decide_eq_true hc.2] at h84
     cases h84
    rw[hEq] at hfo
    refine Qi<|Qx<|x (Qy rfl rfl ⟨by omega,by omega⟩)<|Qb<|xe ?_
    exact ⟨(m+1,vl2,o2,l2),by simp only[];omega,⟨rfl,rfl,trivial⟩,hmlt,hs5,hz5,hBO5,hO5,hI5,hos5,hil5,hci5,hfo⟩
  refine Qi ?_
  have hklt:k<q.a.mr.length:=by have h34:(k:Int)<(q.a.mr.length:Int):=h33;omega
  have hxk:=hmr _ (List.getElem_mem hklt)
  have htk:q.a.mr.take (k+1)=q.a.mr.take k++[q.a.mr[k]'hklt]:=List.take_succ_eq_append_getElem hklt
  have hfol:(q.a.mr.take (k+1)).foldl (jj lf) (List.replicate q.n (-1),[])=jj lf ((q.a.mr.take k).foldl (jj lf) (List.replicate q.n (-1),[])) (q.a.mr[k]'hklt):=by rw[htk,List.foldl_append];rfl
  have hzlen:((q.a.mr.take k).foldl (jj lf) (List.replicate q.n (-1),[])).1.length=q.n∧((q.a.mr.take k).foldl (jj lf) (List.replicate q.n (-1),[])).2.length≤q.a.mr.length:=by
   rw[htk0]
   exact ⟨YS _ _,Nat.le_trans (List.length_filter_le _ _) (by rw[List.length_take];omega)⟩
  refine Zc ((q.a.mr.take k).foldl (jj lf) (List.replicate q.n (-1),[])) λz hz=>?_
  rw[hz] at hBO3 hO3 hfol hzlen
  refine Zc (q.a.mr[k]'hklt) λy hy=>?_
  rw[hy] at hxk hfol
  have hyn:y=(y.toNat:Int):=by omega
  have hyl:y.toNat<z.1.length:=by omega
  have hlft:=VN (l:=lf) (s:=y) (by omega)
  have hA3:=hA.ext hs3
  refine Qg<|Qh<|Qc<|xii (i:=k) hA3.a.mr rfl rfl hklt λa34 h34=>?_
  rw[hy] at h34
  refine x (Qw h34 rfl)<|Qf<|Qc<|Qb<|x (QE rfl)<|x (Qa rfl)<|x (Qd hA3.B rfl rfl)<|Qb<|x (QR (i:=y.toNat) rfl (congrArg (Value.int .i64) hyn) (by omega))<|x (XR (i:=y.toNat) (hB.ext hs3) rfl (by omega))<|xe ?_
  rw[hlft]
  refine QY rfl (λh42=>?_) (λh42=>?_)
  ·have e1:jj lf z y=(z.1.set y.toNat 0,z.2++[y]):=by unfold jj;rw[if_pos h42]
   rw[e1] at hfol
   refine Qc<|Qb<|Qb<|x (QR (i:=y.toNat) rfl (congrArg (Value.int .i64) hyn) (by omega))<|xl rfl<|Xt (i:=y.toNat) hBO3 rfl rfl hyl λw4 hs4 hBO4=>xe ?_
   have hz4:=hs4.size
   have hbO2:bO<w2.heap.size:=hBO2.lt
   have hO4:Qt 3 w2.heap.size w4 vl z.2:=Qm hO3 hs4 (λb hb=>by have:=Qq hO3 b hb;simp only[List.mem_singleton];omega)
   refine Qx<|Qb<|Qb<|xl rfl<|QH (us:=[[.int .i64 y]]) rfl rfl (by decide) (by simp) ⟨rfl,rfl,trivial⟩ λb48 w5 hs5 hb48 hB48=>xl rfl<|Q5 (m:=1) (news:=[.int .i64 y]) (Qu hO4 hs5) rfl rfl rfl (hB48.at (L:=[]) (by simp)) (by simp[Value.oneCell']) (by omega) (by have:=hs5.size;omega) λvl3 w6 hO6 hs6 hn6 =>
    Qf ?_
   have hz5:=hs5.size
   have hz6:=hs6.size
   refine Qx<|x (Qy rfl rfl ⟨by omega,by omega⟩)<|Qb<|xe ?_
   refine ⟨(k+1,vl3),by simp only[];omega,⟨rfl,rfl,trivial⟩,hklt,((hs3.then1 hs4 hbO).trans hs5).then hs6 (λb hb=>.inr (by have:=Qq hO4 b hb;have:=hs2.size;omega)),by omega,?_,?_⟩
   ·simp only[];rw[hfol]
    exact (hBO4.ext hs5).step hs6 (λhb=>by have:=Qq hO4 _ hb;omega)
   ·simp only[];rw[hfol]
    exact Qt.snoc hO6
  ·have e1:jj lf z y=z:=by unfold jj;rw[if_neg (by rw[h42];decide)]
   rw[e1] at hfol
   refine Qi<|Qx<|x (Qy rfl rfl ⟨by omega,by omega⟩)<|Qb<|xe ?_
   exact ⟨(k+1,vl),by simp only[];omega,⟨rfl,rfl,trivial⟩,hklt,hs3,hz3,by simp only[];rw[hfol];exact hBO3,by simp only[];rw[hfol];exact hO3⟩
 refine Qi ?_
 have hjn:j<q.n:=by have h21:(j:Int)<(q.n:Int):=h20;omega
 refine Qg<|Qh<|Qc<|Qb<|Qf<|Qx ?_
 have hst:(gA q.n (λi=>if i<j then -1 else 0)).set j (-1)=gA q.n (λi=>if i<j+1 then -1 else 0):=U6 (by rw[if_pos (by omega)]) (λi _ hi=>by
  by_cases e:i<j
  ·rw[if_pos e,if_pos (by omega)]
  ·rw[if_neg e,if_neg (by omega)])
 refine Qb<|Qb<|x (QR (i:=j) rfl rfl (by omega))<|xl rfl<|JR (i:=j) hBO2 rfl rfl hjn hst λw6 hs6 hBO6=>xe ?_
 refine Qx<|x (Qy rfl rfl ⟨by omega,by omega⟩)<|Qb<|xe ?_
 exact ⟨j+1,by omega,⟨rfl,trivial⟩,hjn,hs2.then1 hs6 hbO,hBO6⟩
abbrev jJ (rk rs:Int) (x:Int×Int):LV:=[.int .i64 x.1,.int .i64 rk,.int .i64 rs,.int .i64 x.2]
theorem Qcc (rk rs:Int) (x:Int×Int):(jJ rk rs x).length=4:=rfl
abbrev RmO (base:Nat) (w:World) (v:Value) (rk rs:Int) (l:List (Int×Int)):Prop:=w.ownsRow base 271 4 v l.length (l.flatMap (jJ rk rs))
theorem RmO.snoc {base:Nat}{w:World}{v:Value}{rk rs:Int}{l:List (Int×Int)}{x:Int×Int}(h:w.ownsRow base 271 4 v (l.length+1) (l.flatMap (jJ rk rs)++jJ rk rs x)):RmO base w v rk rs (l++[x]):=by
 unfold RmO
 rw[List.length_append,List.flatMap_append];simpa using h
theorem Qfh {a:QM}{ul:LI}{lf:Lf}{k:Nat}(h:k<a.ed.length):(a.ed.take (k+1)).foldl (JS ul lf) []=JS ul lf ((a.ed.take k).foldl (JS ul lf) []) (a.ed[k]'h):=by
 rw[List.take_succ_eq_append_getElem h,List.foldl_append];rfl
set_option maxHeartbeats 4000000 in
theorem QeX {w:World}{bp:Nat}{q:Pz}{lf:Lf}(hA:jl [] w.heap bp q) (hq:PzQ q) (hB:QS w.heap q.bl 4 (lf.map Value.bool)) (hl:lf.length=q.n) (rk:Int) :
  QG prog 197 [.pointer (some ⟨bp,0,none⟩),.int .i64 rk] w λr w'=>Step [] w w'∧RmO w.heap.size w' r rk 2 (lost q.a q.unc lf):=by
 have hn:=hq.n
 have hst1:=hq.ok.st1
 have hel:=hq.ok.ed_le
 refine QG.of_W func197 rfl ntmps197 results197 (by simp) ?_
 refine Qc<|Qf<|Qc<|Qf<|Qg<|Qc<|Qb<|x (QE rfl)<|x (Qa rfl)<|x (Qa rfl)<|x (Qd hA.B rfl rfl)<|x (Qs hA.a.ed rfl)<|Qb<|xe ?_
 refine Qh<|QA (α:=Nat×Value) [(5,5),(7,8),(15,72)] (λz=>[(5,z.2),(15,.int .i64 z.1)]) (λz w'=>z.1≤q.a.ed.length∧Step [] w w'∧RmO w.heap.size w' z.2 rk 2 ((q.a.ed.take z.1).foldl (JS q.unc lf) [])) (λz=>q.a.ed.length - z.1) (by rfl) (0,nS) ⟨rfl,rfl,trivial⟩ ⟨Nat.zero_le _,Step.refl _ _,QP _ _ _ _⟩ ?_
 rintro ⟨k,vo⟩ g w1 ⟨hk,hs1,hO1⟩
 simp only[] at hk hO1
 have hol:=(UX (a:=q.a) (ul:=q.unc) (lf:=lf) (q.a.ed.take k) [] (λe he=>List.mem_of_mem_take he) (λp hp=>by cases hp)).2
 rw[List.length_take] at hol
 refine Qc<|x (QB rfl rfl)<|xe ?_
 refine Qg<|QD rfl (λh16=>?_) (λh16=>?_)
 ·refine Qz ?_
  have hke:q.a.ed.length≤k:=by have h17:¬(k:Int)<(q.a.ed.length:Int):=h16;omega
  rw[List.take_of_length_le hke] at hO1
  refine Qc<|Qb<|Qf ?_
  exact Qk ⟨[_],⟨rfl,trivial⟩,hs1,hO1⟩
 refine Qi ?_
 have hlt:k<q.a.ed.length:=by have h17:(k:Int)<(q.a.ed.length:Int):=h16;omega
 have hek:=hq.ok.ed _ (List.getElem_mem hlt)
 have htk:=Qfh (ul:=q.unc) (lf:=lf) hlt
 refine Zc ((q.a.ed.take k).foldl (JS q.unc lf) []) λout hout=>?_
 rw[hout] at hO1 htk hol
 refine Zc (q.a.ed[k]'hlt) λe he=>?_
 rw[he] at hek htk
 simp only[List.length_nil] at hol
 have hfn:e.1=(e.1.toNat:Int):=by omega
 have htn:e.2.2=(e.2.2.toNat:Int):=by omega
 have hlf:=VN (l:=lf) (s:=e.1) (by omega)
 have hlt2:=VN (l:=lf) (s:=e.2.2) (by omega)
 have hA1:=hA.ext hs1
 refine Qg<|Qh<|Qc<|xie hA1.a.ed rfl rfl hlt λa17 h17=>?_
 rw[he] at h17
 refine x (QJ h17 rfl rfl)<|xl rfl<|Qr (us:=[.int .i64 0,.int .i64 0,.int .i64 0]) rfl λb7 w2 hs2 hb7 hB7=>xl rfl<|Ql (us:=QC e) hB7 rfl rfl rfl rfl ⟨rfl,rfl,rfl,trivial⟩ λw3 hs3 hB7'=>xe ?_
 have hs13:Step [] w1 w3:=hs2.then1 hs3 hb7
 have hs03:=hs1.trans hs13
 have hA3:=hA.ext hs03
 have hB3:=hB.ext hs03
 have hO3:=Qu hO1 hs13
 refine Qg<|QW (α:=Bool) [(19,47)] (λz=>[(47,.bool z)]) (λz w'=>Step [] w3 w'∧(z=true↔(lft lf e.1=false∨lft lf e.2.2=true∨e.2.1∉q.unc))) (by rfl) ?_ ?_
 ·refine QT (Step [] w3) [(0,true),(1,true),(2,true),(3,true),(4,true),(5,true),(6,true),(7,true),(8,true),(9,true),(10,true),(11,true),(12,true),(13,true),(14,true),(15,true),(16,true),(17,true),(18,true),(19,true),(20,true),(21,true),(22,true),(23,true),(24,true),(25,true),(26,false),(27,true),(28,true)] mixed (by rfl) (by kernel_rfl) (Step.drew _ _) ?_
  refine p (λ_=>Qo)<|p (λ_=>QE rfl)<|p (λ_=>Qa rfl)<|pq (λ_ hc=>Qd (hA3.B.ext hc) rfl rfl)<|p (λ_=>Qa rfl)<|pq (λ_ hc=>Qd (hB7'.ext hc) rfl rfl) <|
   p (λ_=>QR (i:=e.1.toNat) rfl (congrArg (Value.int .i64) hfn) (by omega))<|pq (v:=.bool (lft lf e.1)) (λ_ hc=>(XR (i:=e.1.toNat) (hB3.ext hc) rfl (by omega)).trans (by rw[hlf]))<|pB (λ_=>Zp rfl) (λh27=>?_) (λh27=>?_)
  ·refine p (λ_=>Qo)<|ps<|ps<|ps<|ps<|ps<|ps<|ps<|ps<|p (λ_=>Qp rfl)<|p (λ_=>Qo)<|ps<|ps<|ps<|ps<|ps<|ps<|ps<|ps<|p (λ_=>Qp rfl)<|pe ?_
   exact ⟨_,⟨rfl,trivial⟩,Step.drew _ _,by simp at h27;simp[h27]⟩
  refine p (λ_=>Qo)<|p (λ_=>Qo)<|p (λ_=>QE rfl)<|p (λ_=>Qa rfl)<|pq (λ_ hc=>Qd (hA3.B.ext hc) rfl rfl)<|p (λ_=>Qa rfl)<|pq (λ_ hc=>Qd (hB7'.ext hc) rfl rfl) <|
   p (λ_=>QR (i:=e.2.2.toNat) rfl (congrArg (Value.int .i64) htn) (by omega))<|?_
  refine pqB (b:=lft lf e.2.2) (λ_ hc=>(XR (i:=e.2.2.toNat) (hB3.ext hc) rfl (by omega)).trans (by rw[hlt2])) (λh36=>?_) (λh36=>?_)
  ·refine p (λ_=>Qp rfl)<|p (λ_=>Qo)<|ps<|ps<|ps<|ps<|ps<|ps<|ps<|ps<|p (λ_=>Qp rfl)<|pe ?_
   exact ⟨_,⟨rfl,trivial⟩,Step.drew _ _,by simp[h36]⟩
  refine p (λ_=>Qp rfl)<|p (λ_=>Qo)<|p (λ_=>Qo)<|p (λ_=>QE rfl)<|p (λ_=>Qa rfl)<|pq (λ_ hc=>Qd (hA3.B.ext hc) rfl rfl) <|
   p (λ_=>Qa rfl)<|pq (λ_ hc=>Qd (hB7'.ext hc) rfl rfl)<|pk<|xf<|(Yl (hA3.u.ext (Step.drew _ _)) e.2.1).mono ?_
  rintro r4 w4 ⟨rfl,rfl⟩
  refine ⟨Step.drew _ _,?_⟩
  refine p (λ_=>UP rfl)<|p (λ_=>Qp rfl)<|pe ?_
  exact ⟨_,⟨rfl,trivial⟩,Step.drew _ _,by simp at h27;simp[h27,h36]⟩
 rintro z g w4 ⟨hs4,hz⟩
 have hs04:=hs03.trans hs4
 have hO4:=Qu hO3 hs4
 have hB7:=hB7'.ext hs4
 refine QY rfl (λh47=>?_) (λh47=>?_)
 ·refine Qz ?_
  have e1:JS q.unc lf out e=out:=by unfold JS;rw[if_pos (hz.1 h47)]
  rw[e1] at htk
  refine Qx<|x (Qy rfl rfl ⟨by omega,by omega⟩)<|Qb<|xe ?_
  exact ⟨(k+1,vo),by simp only[];omega,⟨rfl,rfl,trivial⟩,hlt,hs04,by simp only[];rw[htk];exact hO4⟩
 refine Qi ?_
 have hzn:¬(lft lf e.1=false∨lft lf e.2.2=true∨e.2.1∉q.unc):=λh=>by rw[hz.2 h] at h47;cases h47
 have hArr:Zw [] w4.heap vo out.length 4 (out.flatMap (jJ rk 2)):=QV hO4 (by omega) (by simp)
 refine Qg<|Qc<|Qb<|x (Qs hArr rfl)<|Qf<|QW (α:=Bool) [(50,62)] (λz=>[(62,.bool z)]) (λz w'=>Step [] w4 w'∧(z=true↔out.getLast?.map (·.1)=some e.1)) (by rfl) ?_ ?_
 ·refine QT (Step [] w4) [(0,true),(1,true),(2,true),(3,true),(4,true),(5,true),(6,true),(7,true),(8,true),(9,true),(10,true),(11,true),(12,true)] mixed (by rfl) (by kernel_rfl) (Step.drew _ _) ?_
  refine p (λ_=>Qo)<|pb (λ_=>ZL rfl rfl) (λh51=>?_) (λh51=>?_)
  ·have hpos:0<out.length:=by have h52:(0:Int)<(out.length:Int):=h51;omega
   have hlast:out.getLast?=some (out[out.length - 1]'(by omega)):=by rw[List.getLast?_eq_getElem?,List.getElem?_eq_getElem]
   refine Zc (out[out.length - 1]'(by omega)) λy hy=>?_
   rw[hy] at hlast
   refine p (λ_=>Qo)<|p (λ_=>Qo)<|p (λ_=>Qo)<|p (λ_=>X6 rfl rfl ⟨by omega,by omega⟩)<|Go.Lg.pig (g:=jJ rk 2) (i:=out.length - 1) rfl (Qcc rk 2) hArr rfl (congrArg (Value.int .i64) (show (out.length:Int) - 1=((out.length - 1:Nat):Int) by omega)) (by omega) λa56 h56=>?_
   rw[hy] at h56
   refine p (λ_=>Zd rfl)<|pq (λ_ hc=>Qw ((h56.fld 0 (.int .i64 y.1) rfl).ext hc) rfl)<|p (λ_=>Qa rfl)<|pq (λ_ hc=>Qd (hB7.ext hc) rfl rfl) <|
    p (λ_=>Zn rfl rfl)<|p (λ_=>Qp rfl)<|pe ?_
   exact ⟨_,⟨rfl,trivial⟩,Step.drew _ _,by rw[hlast];simp⟩
  have h0:out=[]:=List.eq_nil_of_length_eq_zero (by have h52:¬(0:Int)<(out.length:Int):=h51;omega)
  refine p (λ_=>Qo)<|ps<|ps<|ps<|ps<|ps<|ps<|ps<|ps<|ps<|p (λ_=>Qp rfl)<|pe ?_
  exact ⟨_,⟨rfl,trivial⟩,Step.drew _ _,by simp[h0]⟩
 rintro z2 g w5 ⟨hs5,hz2⟩
 have hs05:=hs04.trans hs5
 have hO5:=Qu hO4 hs5
 have hB7:=hB7.ext hs5
 refine QY rfl (λh62=>?_) (λh62=>?_)
 ·refine Qz ?_
  have e1:JS q.unc lf out e=out:=by unfold JS;rw[if_neg hzn,if_pos (hz2.1 h62)]
  rw[e1] at htk
  refine Qx<|x (Qy rfl rfl ⟨by omega,by omega⟩)<|Qb<|xe ?_
  exact ⟨(k+1,vo),by simp only[];omega,⟨rfl,rfl,trivial⟩,hlt,hs05,by simp only[];rw[htk];exact hO5⟩
 refine Qi ?_
 have hzn2:¬out.getLast?.map (·.1)=some e.1:=λh=>by rw[hz2.2 h] at h62;cases h62
 have e1:JS q.unc lf out e=out++[(e.1,e.2.1)]:=by unfold JS;rw[if_neg hzn,if_neg hzn2]
 rw[e1] at htk
 refine Qx<|Qb<|x (Qa rfl)<|x (Qd hB7 rfl rfl)<|Qb<|x (Qa rfl)<|x (Qd hB7 rfl rfl)<|x (QN ⟨rfl,rfl,rfl,rfl,trivial⟩) <|
  xl rfl<|QH (us:=[jJ rk 2 (e.1,e.2.1)]) rfl rfl (by decide) (by simp) ⟨rfl,rfl,trivial⟩ λb70 w6 hs6 hb70 hB70 =>
  xl rfl<|Q5 (m:=1) (news:=jJ rk 2 (e.1,e.2.1)) (Qu hO5 hs6) rfl rfl rfl (hB70.at (L:=[]) (by simp)) (by simp[Value.oneCell']) (by omega) (by have:=hs05.size;have:=hs6.size;omega) λvo2 w7 hO7 hs7 hn7=>Qf<|Qx<|x (Qy rfl rfl ⟨by omega,by omega⟩)<|Qb<|xe ?_
 exact ⟨(k+1,vo2),by simp only[];omega,⟨rfl,rfl,trivial⟩,hlt,(hs05.trans hs6).then hs7 (λb hb=>.inr (Qq hO5 b hb).1),by simp only[];rw[htk];exact RmO.snoc hO7⟩
theorem z6 (lf:Lf) (d:Int):∀(l:LI) (i:Nat),Ju lf i (l++[d])=Ju lf i l++if lf.getD (i+l.length) false=true∧d<0 then [((i+l.length:Nat):Int)] else []
 | [],i=>by
  simp only[List.nil_append,Ju,List.length_nil,Nat.add_zero]
 | a::l,i=>by
  have ih:=z6 lf d l (i+1)
  rw[show i+1+l.length=i+(a::l).length by simp;omega] at ih
  simp only[List.cons_append,Ju,ih]
  by_cases h:lf.getD i false=true∧a<0
  ·rw[if_pos h,if_pos h,List.cons_append]
  ·rw[if_neg h,if_neg h]
abbrev blP (l:LI):List (Int×Int):=l.map λs=>(s,-1)
set_option maxHeartbeats 4000000 in
theorem jO {w:World}{bp:Nat}{q:Pz}{lf:Lf}(hA:jl [] w.heap bp q) (hq:PzQ q) (hB:QS w.heap q.bl 4 (lf.map Value.bool)) (hl:lf.length=q.n) (rk:Int) :
  QG prog 198 [.pointer (some ⟨bp,0,none⟩),.int .i64 rk] w λr w'=>Step [] w w'∧RmO w.heap.size w' r rk 3 (blP (Ju lf 0 (dsts q.a lf)))∧(Ju lf 0 (dsts q.a lf)).length≤q.n:=by
 have hn:=hq.n
 have hst1:=hq.ok.st1
 refine QG.of_W func198 rfl ntmps198 results198 (by simp) ?_
 refine Qc<|Qf<|Qc<|Qf<|Qg<|Qc<|Qb<|xl rfl<|xf<|(Vq hA hq hB hl).mono ?_
 rintro r1 w1 ⟨hs1,b,rfl,hb,hD1,hDl⟩
 refine Zc (dsts q.a lf) λD hD=>?_
 rw[hD] at hD1 hDl ⊢
 have hArr:QL [] w1.heap (.slice (some ⟨b,0,none⟩) q.n q.n) D:=by
  have h:=hD1.arr (L:=[]) (by simp) (n:=q.n) (cap:=q.n) (sz:=1) (by simp[hDl]) (by omega) (Nat.le_refl _)
  unfold QL;rw[hDl];exact h
 refine x (Qs hArr rfl)<|Qb<|xe ?_
 refine Qh<|QA (α:=Nat×Value) [(5,7),(11,33)] (λz=>[(5,z.2),(11,.int .i64 z.1)]) (λz w'=>z.1≤D.length∧Step [] w1 w'∧RmO w1.heap.size w' z.2 rk 3 (blP (Ju lf 0 (D.take z.1)))) (λz=>D.length - z.1) (by rfl) (0,nS) ⟨rfl,rfl,trivial⟩ ⟨Nat.zero_le _,Step.refl _ _,QP _ _ _ _⟩ ?_
 rintro ⟨k,vo⟩ g w2 ⟨hk,hs2,hO2⟩
 simp only[] at hk hO2
 have hbl:=(Vz lf (D.take k) 0).2
 rw[List.length_take] at hbl
 have hs02:=hs1.trans hs2
 refine Qc<|x (QB rfl rfl)<|xe ?_
 refine Qg<|QD rfl (λh12=>?_) (λh12=>?_)
 ·refine Qz ?_
  have hke:D.length≤k:=by have h13:¬(k:Int)<(D.length:Int):=h12;omega
  rw[List.take_of_length_le hke] at hO2
  refine Qc<|Qb<|Qf ?_
  exact Qk ⟨[_],⟨rfl,trivial⟩,hs02,Zb hO2 hs1.size,by have:=(Vz lf D 0).2;omega⟩
 refine Qi ?_
 have hlt:k<D.length:=by have h13:(k:Int)<(D.length:Int):=h12;omega
 have htk:D.take (k+1)=D.take k++[D[k]'hlt]:=List.take_succ_eq_append_getElem hlt
 have hsn:=z6 lf (D[k]'hlt) (D.take k) 0
 rw[←htk,List.length_take,Nat.zero_add,Nat.min_eq_left (by omega)] at hsn
 refine Zc (D[k]'hlt) λd hd=>?_
 rw[hd] at hsn
 refine Zc (Ju lf 0 (D.take k)) λout hout=>?_
 rw[hout] at hsn hO2 hbl
 have hkl:k<lf.length:=by omega
 have hlf:lf[k]'hkl=lf.getD k false:=by simp[List.getD,hkl]
 have hA2:=hA.ext hs02
 refine Qg<|Qh<|Qc<|Qb<|xii (i:=k) (hArr.ext hs2) rfl rfl hlt λa14 h14=>?_
 rw[hd] at h14
 refine x (Qw h14 rfl)<|x Qe<|Qf<|QW (α:=Bool) [(16,26)] (λz=>[(26,.bool z)]) (λz w'=>w'=w2∧(z=true↔lf.getD k false=true∧d<0)) (by rfl) ?_ ?_
 ·refine Qx<|Qb<|x (QE rfl)<|x (Qa rfl)<|x (Qd hA2.B rfl rfl)<|Qb<|x (QR (i:=k) rfl rfl (by omega))<|xB (b:=lf.getD k false) ((XR (i:=k) (hB.ext hs02) rfl hkl).trans (by rw[hlf])) (λh22=>?_) (λh22=>?_)
  ·refine Qb<|Qb<|x (QB rfl rfl)<|x (Qp rfl)<|xe ?_
   exact ⟨_,⟨rfl,trivial⟩,rfl,by rw[h22];simp⟩
  refine Qb<|xs rfl<|xs rfl<|x (Qp rfl)<|xe ?_
  exact ⟨_,⟨rfl,trivial⟩,rfl,by rw[h22];simp⟩
 rintro z g w3 ⟨rfl,hz⟩
 refine QY rfl (λh26=>?_) (λh26=>?_)
 ·rw[if_pos (hz.1 h26)] at hsn
  refine Qx<|Qb<|Qb<|Qb<|x (QN ⟨rfl,rfl,rfl,rfl,trivial⟩)<|xl rfl<|QH (us:=[jJ rk 3 ((k:Int),-1)]) rfl rfl (by decide) (by simp) ⟨rfl,rfl,trivial⟩ λb31 w4 hs4 hb31 hB31 =>
   xl rfl<|Q5 (m:=1) (news:=jJ rk 3 ((k:Int),-1)) (Qu hO2 hs4) rfl rfl rfl (hB31.at (L:=[]) (by simp)) (by simp[Value.oneCell']) (by rw[List.length_map];omega) (by have:=hs2.size;have:=hs4.size;omega) λvo2 w5 hO5 hs5 hn5=>Qf<|Qx<|x (Qy rfl rfl ⟨by omega,by omega⟩)<|Qb<|xe ?_
  refine ⟨(k+1,vo2),by simp only[];omega,⟨rfl,rfl,trivial⟩,hlt,(hs2.trans hs4).then hs5 (λb hb=>.inr (Qq hO2 b hb).1),?_⟩
  simp only[]
  rw[hsn,show blP (out++[(k:Int)])=blP out++[((k:Int),-1)] by simp]
  exact RmO.snoc hO5
 ·rw[if_neg (λh=>by rw[hz.2 h] at h26;cases h26),List.append_nil] at hsn
  refine Qi<|Qx<|x (Qy rfl rfl ⟨by omega,by omega⟩)<|Qb<|xe ?_
  exact ⟨(k+1,vo),by simp only[];omega,⟨rfl,rfl,trivial⟩,hlt,hs2,by simp only[];rw[hsn];exact hO2⟩
theorem QeW {w:World}{bp:Nat}{q:Pz}{lf:Lf}(hA:jl [] w.heap bp q) (hq:PzQ q) (hB:QS w.heap q.bl 4 (lf.map Value.bool)) (hl:lf.length=q.n) (rk:Int) :
  QG prog 164 [.pointer (some ⟨bp,0,none⟩),.int .i64 rk,.bool true] w λr w'=>Step [] w w'∧∃rs l,RmO w.heap.size w' r rk rs l∧l.map (·.1)=nxs q.a q.unc lf∧l.length≤1000000:=by
 have hll:=(yI q.a q.unc lf).2
 have hel:=hq.ok.ed_le
 have hn:=hq.n
 have hst1:=hq.ok.st1
 have hnx:nxs q.a q.unc lf=if (lost q.a q.unc lf).length≠0 then (lost q.a q.unc lf).map (·.1) else Ju lf 0 (dsts q.a lf):=rfl
 refine QG.of_W func164 rfl ntmps164 results164 (by simp) ?_
 refine Qc<|Qf<|Qg<|Qc<|Qb<|Qb<|xl rfl<|xf<|(QeX hA hq hB hl rk).mono ?_
 rintro r1 w1 ⟨hs1,hO1⟩
 refine Zc (lost q.a q.unc lf) λL hL=>?_
 rw[hL] at hO1 hnx hll
 refine Qf<|QW (α:=Bool) [(11,17)] (λz=>[(17,.bool z)]) (λz w'=>w'=w1∧(z=true↔L.length≠0)) (by rfl) ?_ ?_
 ·refine Qx<|Qb<|x (Qs (L:=[]) (QV hO1 (by omega) (by simp)) rfl)<|xb (ZL rfl rfl) (λh13=>?_) (λh13=>?_)
  ·refine Qb<|xs rfl<|xs rfl<|x (Qp rfl)<|xe ?_
   exact ⟨_,⟨rfl,trivial⟩,rfl,by have h14:(0:Int)<(L.length:Int):=h13;simp;intro e;subst e;simp at h14⟩
  refine Qb<|Qb<|x (Zp rfl)<|x (Qp rfl)<|xe ?_
  have h14:¬(0:Int)<(L.length:Int):=h13
  have h15:L.length=0:=by omega
  exact ⟨_,⟨rfl,trivial⟩,rfl,by rw[h15];simp⟩
 rintro z g w2 ⟨rfl,hz⟩
 refine QY rfl (λh17=>?_) (λh17=>?_)
 ·rw[if_pos (hz.1 h17)] at hnx
  refine Qc<|Qb<|Qf ?_
  exact Qk ⟨[_],⟨rfl,trivial⟩,hs1,2,L,hO1,hnx.symm,by omega⟩
 rw[if_neg (λh=>by rw[hz.2 h] at h17;cases h17)] at hnx
 refine Qi<|Qc<|Qb<|Qb<|xl rfl<|xf<|(jO (hA.ext hs1) hq (hB.ext hs1) hl rk).mono ?_
 rintro r3 w3 ⟨hs3,hO3,hbl⟩
 refine Qf<|Qk ⟨[_],⟨rfl,trivial⟩,hs1.trans hs3,3,_,Zb hO3 hs1.size,?_,?_⟩
 ·rw[hnx,List.map_map];exact List.map_id _
 ·rw[List.length_map];omega
structure J2 (base:Nat) (w:World) (n:Nat) (f:Nat→Value) (g:Nat→List Ed):Prop where
 own:∀i,i<n→ZV 126 base w (f i) (g i)
 dj:∀i j,i<n→j<n→i≠j→Dj (f i) (f j)
theorem J2.app {base n i:Nat}{w w':World}{f:Nat→Value}{g:Nat→List Ed}{v':Value}{l:List Ed}(h:J2 base w n f g) (hi:i<n) (ho:ZV 126 base w' v' l) (hs:Step (ob (f i)) w w')
  (hn:∀b∈ob v',b∈ob (f i)∨w.heap.size≤b):J2 base w' n (JF f i v') (JF g i l):=by
 refine ⟨λj hj=>?_,λj k hj hk hjk=>?_⟩
 ·by_cases e:j=i
  ·subst e;rw[ZT,ZT];exact ho
  ·rw[Yd _ _ e,Yd _ _ e]
   exact Qm (h.own j hj) hs (h.dj j i hj hi e)
 ·have key:∀j,j<n→j≠i→Dj v' (f j):=λj hj e b hb hbj=>by
   rcases hn b hb with h1 | h1
   ·exact h.dj i j hi hj (Ne.symm e) b h1 hbj
   ·have:=Q0 (h.own j hj) b hbj;omega
  by_cases e1:j=i
  ·subst e1
   rw[ZT,Yd _ _ (Ne.symm hjk)]
   exact key k hk (Ne.symm hjk)
  ·rw[Yd _ _ e1]
   by_cases e2:k=i
   ·subst e2;rw[ZT];exact (key j hj e1).symm
   ·rw[Yd _ _ e2];exact h.dj j k hj hk hjk
theorem J2.step {base n:Nat}{X:LN}{w w':World}{f:Nat→Value}{g:Nat→List Ed}(h:J2 base w n f g) (hs:Step X w w') (hX:∀i,i<n→∀b∈ob (f i),b∉X):J2 base w' n f g :=
 ⟨λi hi=>Qm (h.own i hi) hs (hX i hi),h.dj⟩
theorem J2.ext {base n:Nat}{w w':World}{f:Nat→Value}{g:Nat→List Ed}(h:J2 base w n f g) (hs:Step [] w w'):J2 base w' n f g:=h.step hs (λ_ _ _ _=>by simp)
def qX (es:List Ed) (s:Nat):List Ed:=ZF es (s:Int)
theorem Qde (es:List Ed) (e:Ed) (h0:0≤e.1):JF (qX es) e.1.toNat (qX es e.1.toNat++[e])=qX (es++[e]):=by
 funext s
 unfold qX ZF
 rw[List.filter_append]
 by_cases h:s=e.1.toNat
 ·subst h
  rw[ZT]
  have:e.1=(e.1.toNat:Int):=by omega
  simp[←this]
 ·rw[Yd _ _ h]
  have:¬e.1=(s:Int):=by omega
  simp[this]
theorem jI (es:List Ed) (s:Nat):(qX es s).length≤es.length:=X8 es _
def QbQ (num:LI) (m:List (Int×Value)):Prop:=∀s:Nat,s<num.length→mget m (s:Int)=if cget num s<0 then none else some (.int .i64 (cget num s))
theorem Ke (l:LI) (k:Int):Zq l k=cget l k.toNat:=rfl
structure JJ (b4 mb:Nat) (r2:Value) (wS:World) (c:Cs) (m:List (Int×Value)) (vo vk ve:Value) (w:World):Prop where
 st:Step [b4,mb] wS w
 B4:QS w.heap b4 50 [r2,.int .i64 0,vk,ve]
 M:ZE X2 w.heap mb m
 nm:QbQ c.num m
 o:Qt 3 wS.heap.size w vo c.ord
 k:Qt 3 wS.heap.size w vk c.mk'
 e:ZV 126 wS.heap.size w ve c.ed
 d1:Dj vo vk
 d2:Dj vo ve
 d3:Dj vk ve
section
variable {b4 mb:Nat} {r2:Value} {wS:World} {c:Cs} {m:List (Int×Value)} {vo vk ve:Value} {w w' w'':World}
theorem JJ.ext (h:JJ b4 mb r2 wS c m vo vk ve w) (hs:Step [] w w'):JJ b4 mb r2 wS c m vo vk ve w' :=
 ⟨h.st.trans hs,h.B4.ext hs,h.M.ext hs,h.nm,Qu h.o hs,Qu h.k hs,Qu h.e hs,h.d1,h.d2,h.d3⟩
theorem JJ.setK (h:JJ b4 mb r2 wS c m vo vk ve w) (l4:b4<wS.heap.size) (lm:mb<wS.heap.size) (ne:mb≠b4) {vk':Value}{l:LI}(hs:Step (ob vk) w w') (hk':Qt 3 wS.heap.size w' vk' l)
  (hn:∀b∈ob vk',b∈ob vk∨w.heap.size≤b) (hs2:Step [b4] w' w'') (hB:QS w''.heap b4 50 [r2,.int .i64 0,vk',ve]):JJ b4 mb r2 wS ⟨c.ord,c.num,l,c.ed⟩ m vo vk' ve w'' :=
 ⟨(h.st.then hs (λb hb=>.inr (Qq h.k b hb).1)).then hs2 (λb hb=>.inl (by simp at hb;simp[hb])),hB,(h.M.step hs (QX h.k lm)).step hs2 (by simpa using ne),h.nm,
  Qm (Qm h.o hs h.d1) hs2 (λb hb=>by have:=(Qq h.o b hb).1;simp;omega),Qm hk' hs2 (λb hb=>by have:=(Qq hk' b hb).1;simp;omega),
  Qm (Qm h.e hs h.d3.symm) hs2 (λb hb=>by have:=(Qq h.e b hb).1;simp;omega),h.d1.grow hn (Q0 h.o),h.d2,(h.d3.symm.grow hn (Q0 h.e)).symm⟩
theorem JJ.setE (h:JJ b4 mb r2 wS c m vo vk ve w) (l4:b4<wS.heap.size) (lm:mb<wS.heap.size) (ne:mb≠b4) {ve':Value}{l:List Ed}(hs:Step (ob ve) w w') (hk':ZV 126 wS.heap.size w' ve' l)
  (hn:∀b∈ob ve',b∈ob ve∨w.heap.size≤b) (hs2:Step [b4] w' w'') (hB:QS w''.heap b4 50 [r2,.int .i64 0,vk,ve']):JJ b4 mb r2 wS ⟨c.ord,c.num,c.mk',l⟩ m vo vk ve' w'' :=
 ⟨(h.st.then hs (λb hb=>.inr (Qq h.e b hb).1)).then hs2 (λb hb=>.inl (by simp at hb;simp[hb])),hB,(h.M.step hs (QX h.e lm)).step hs2 (by simpa using ne),h.nm,
  Qm (Qm h.o hs h.d2) hs2 (λb hb=>by have:=(Qq h.o b hb).1;simp;omega),Qm (Qm h.k hs h.d3) hs2 (λb hb=>by have:=(Qq h.k b hb).1;simp;omega),
  Qm hk' hs2 (λb hb=>by have:=(Qq hk' b hb).1;simp;omega),h.d1,h.d2.grow hn (Q0 h.o),h.d3.grow hn (Q0 h.k)⟩
theorem JJ.setN (h:JJ b4 mb r2 wS c m vo vk ve w) (lm:mb<wS.heap.size) (ne:mb≠b4) {l:LI}{m':List (Int×Value)}(hs2:Step [mb] w w') (hM:ZE X2 w'.heap mb m') (hm:QbQ l m'):JJ b4 mb r2 wS ⟨c.ord,l,c.mk',c.ed⟩ m' vo vk ve w' :=
 ⟨h.st.then hs2 (λb hb=>.inl (by simp at hb;simp[hb])),h.B4.step hs2 (by simpa using ne.symm),hM,hm,Qm h.o hs2 (λb hb=>by have:=(Qq h.o b hb).1;simp;omega),
  Qm h.k hs2 (λb hb=>by have:=(Qq h.k b hb).1;simp;omega),Qm h.e hs2 (λb hb=>by have:=(Qq h.e b hb).1;simp;omega),h.d1,h.d2,h.d3⟩
theorem JJ.setO (h:JJ b4 mb r2 wS c m vo vk ve w) (l4:b4<wS.heap.size) (lm:mb<wS.heap.size) {vo':Value}{l:LI}(hs:Step (ob vo) w w') (hk':Qt 3 wS.heap.size w' vo' l)
  (hn:∀b∈ob vo',b∈ob vo∨w.heap.size≤b):JJ b4 mb r2 wS ⟨l,c.num,c.mk',c.ed⟩ m vo' vk ve w' :=
 ⟨h.st.then hs (λb hb=>.inr (Qq h.o b hb).1),h.B4.step hs (QX h.o l4),h.M.step hs (QX h.o lm),h.nm,hk',Qm h.k hs h.d1.symm,Qm h.e hs h.d2.symm,
  (h.d1.symm.grow hn (Q0 h.k)).symm,(h.d2.symm.grow hn (Q0 h.e)).symm,h.d3⟩
end
theorem QbQ.set {num:LI}{m:List (Int×Value)}(h:QbQ num m) {k:Nat}(hk:k<num.length) {v:Int}(hv:0≤v):QbQ (num.set k v) (mput m (k:Int) (.int .i64 v)):=by
 intro s hs
 rw[List.length_set] at hs
 rw[Ja]
 by_cases e:s=k
 ·subst e
  have:cget (num.set s v) s=v:=by unfold cget;simp[List.getD,hk]
  rw[if_pos rfl,this,if_neg (by omega)]
 ·rw[if_neg (by omega)]
  have:cget (num.set k v) s=cget num s:=by unfold cget;simp[List.getD,List.getElem?_set_ne (Ne.symm e)]
  rw[this];exact h s hs
theorem jx (i:Nat) (c:Cs) (m:LI) (e:Ed):Zj i ⟨c.ord,c.num,m,c.ed⟩ e=⟨(Zj i c e).ord,(Zj i c e).num,m,(Zj i c e).ed⟩∧(Zj i c e).mk'=c.mk':=by
 unfold Zj
 split <;> exact ⟨rfl,rfl⟩
theorem yQ (i:Nat):∀(l:List Ed) (c:Cs) (m:LI),l.foldl (Zj i) ⟨c.ord,c.num,m,c.ed⟩=⟨(l.foldl (Zj i) c).ord,(l.foldl (Zj i) c).num,m,(l.foldl (Zj i) c).ed⟩∧(l.foldl (Zj i) c).mk'=c.mk'
 | [],c,m=>⟨rfl,rfl⟩
 | e::l,c,m=>by
  have h1:=jx i c m e
  have h2:=yQ i l (Zj i c e) m
  rw[List.foldl_cons,List.foldl_cons,h1.1,h2.1]
  exact ⟨rfl,h2.2.trans h1.2⟩
theorem zm (i:Nat) (c:Cs) (e:Ed):∃r,(Zj i c e).ord=c.ord++r:=by
 unfold Zj;split
 ·exact ⟨_,rfl⟩
 ·exact ⟨[],by simp⟩
theorem Qaf (i:Nat):∀(l:List Ed) (c:Cs),∃r,(l.foldl (Zj i) c).ord=c.ord++r
 | [],c=>⟨[],by simp⟩
 | e::l,c=>by
  obtain ⟨r1,h1⟩:=zm i c e
  obtain ⟨r2,h2⟩:=Qaf i l (Zj i c e)
  exact ⟨r1++r2,by rw[List.foldl_cons,h2,h1,List.append_assoc]⟩
theorem Qdf {a:QM}{i:Nat}{c:Cs}(hi:i<c.ord.length):qY a i c=ZR a i ((ZF a.ed (cget c.ord i)).foldl (Zj i) c):=by
 unfold qY
 rw[Ke,Int.toNat_natCast]
 obtain ⟨r,hr⟩:=Qaf i (ZF a.ed (cget c.ord i)) c
 have hm:=(yQ i (ZF a.ed (cget c.ord i)) c c.mk').2
 unfold ZR
 have hg:Zq ((ZF a.ed (cget c.ord i)).foldl (Zj i) c).ord (i:Int)=Zq c.ord (i:Int):=by
  rw[Ke,Ke,hr]
  simp only[Int.toNat_natCast]
  exact qw hi
 rw[hg]
 split
 ·rw[(yQ i _ c _).1,hm]
 ·rfl
set_option maxHeartbeats 8000000 in
theorem UQ {w:World}{bp:Nat}{q:Pz}{lf:Lf}(hA:jl [] w.heap bp q) (hq:PzQ q) (hB:QS w.heap q.bl 4 (lf.map Value.bool)) (hl:lf.length=q.n) :
  QG prog 168 [.pointer (some ⟨bp,0,none⟩)] w λr w'=>Step [] w w'∧∃v o,r=.tuple #[v,o]∧YV w.heap.size w'.heap v (JH q.a lf)∧o.oneCell'=true:=by
 have hn:=hq.n
 have hst1:=hq.ok.st1
 have hel:=hq.ok.ed_le
 have hml:=hq.ok.mr_le
 have hok:=J8 hq.ok lf
 have hsup:JH q.a lf=if q.a.st=0∨lft lf 0=false then ⟨q.a.al,0,[],[]⟩ else YL (rstr q.a lf):=rfl
 refine Zc (JH q.a lf) λSA hSA=>?_
 rw[hSA] at hsup ⊢
 refine QG.of_W func168 rfl ntmps168 results168 (by simp) ?_
 refine Qc<|xl rfl<|Qr (us:=[nS,.int .i64 0,nS,nS]) rfl λb2 w1 hs1 hb2 hB2=>Qf ?_
 have hz1:=hs1.size
 have hl2:=hB2.lt
 have hA1:=hA.ext hs1
 refine Qc<|Qb<|x (QE rfl)<|x (Qa rfl)<|x (Qa rfl)<|x (Qd hA1.B rfl rfl)<|xl rfl<|xf<|(Yw hA1.a.al).mono ?_
 rintro r2 w2 ⟨hs2,hr2⟩
 have hz2:=hs2.size
 have hr2I:=Qt.ints (L:=[]) hr2 hA.a.al.le (by simp)
 refine x (QN ⟨hr2I.cells,trivial⟩)<|xl rfl<|Qr (us:=[nS,.int .i64 0,nS,nS]) rfl λb4 w3 hs3 hb4 hB4 =>
  xl rfl<|Ql (us:=[r2,.int .i64 0,nS,nS]) hB4 rfl rfl rfl rfl ⟨hr2I.one,rfl,rfl,rfl,trivial⟩ λw4 hs4 hB4=>xe ?_
 have hs24:Step [] w2 w4:=hs3.then1 hs4 hb4
 have hs12:=hs1.trans hs2
 have hs04:=hs12.trans hs24
 have hl4:=hB4.lt
 have hz24:=hs24.size
 have hA4:=hA.ext hs04
 have hr2lt:∀b∈ob r2,b<w2.heap.size:=Q0 hr2
 refine Qg<|QW (α:=Bool) [(22,36)] (λz=>[(36,.bool z)]) (λz w'=>w'=w4∧(z=true↔(q.a.st=0∨lft lf 0=false))) (by rfl) ?_ ?_
 ·refine Qx<|Qb<|x (QE rfl)<|x (Qa rfl)<|x (Qa rfl)<|x (Qd hA4.B rfl rfl)<|xb (Zn rfl rfl) (λh27=>?_) (λh27=>?_)
  ·refine Qb<|xs rfl<|xs rfl<|xs rfl<|xs rfl<|xs rfl<|xs rfl<|xs rfl<|x (Qp rfl)<|xe ?_
   exact ⟨_,⟨rfl,trivial⟩,rfl,by simp[h27]⟩
  have hn0:(0:Int).toNat<lf.length:=by
   have:0<q.n:=by omega
   simp;omega
  have hlf:=VN (l:=lf) (s:=0) hn0
  refine Qb<|Qb<|x (QE rfl)<|x (Qa rfl)<|x (Qd hA4.B rfl rfl)<|x (QR (i:=0) rfl rfl (by simp at hn0;omega))<|x (v:=.bool (lft lf 0)) ((XR (i:=0) (hB.ext hs04) rfl hn0).trans (by rw[←hlf];rfl))<|x (Zp rfl)<|x (Qp rfl)<|xe ?_
  exact ⟨_,⟨rfl,trivial⟩,rfl,by simp[h27]⟩
 rintro z g w4 ⟨rfl,hz⟩
 refine QY rfl (λh36=>?_) (λh36=>?_)
 ·rw[if_pos (hz.1 h36)] at hsup
  subst hsup
  refine Qc<|x (Qn hB4 rfl rfl)<|xl rfl<|Ql (us:=[r2,.int .i64 0,nS,nS]) ((hB2.ext hs2).ext hs24) rfl rfl rfl rfl ⟨hr2I.one,rfl,rfl,rfl,trivial⟩ λw6 hs6 hB2=>Qf<|Qk ⟨[.agg #[r2,.int .i64 0,nS,nS],nS],⟨⟨_,rfl,Qv rfl (hB2.at (L:=[]) (by simp)).cells⟩,rfl,trivial⟩,hs04.then1 hs6 (by omega),_,_,rfl,?_,rfl⟩
  have hr6:=Qm (Qu hr2 hs24) hs6 (λb hb=>by have:=(Qq hr2 b hb).1;simp;omega)
  exact ⟨r2,_,_,rfl,λL' hL'=>⟨Qt.ints hr6 hA.a.al.le (λb hb=>by have:=hL' b hb;omega),Zw.nil _ _ _,Zw.nil _ _ _⟩⟩
 have hnz:¬(q.a.st=0∨lft lf 0=false):=λh=>by rw[hz.2 h] at h36;cases h36
 rw[if_neg hnz] at hsup
 have hpos:0<q.a.st:=by have:=hq.ok.st0;omega
 have hnt:(rstr q.a lf).st.toNat=q.n:=by show q.a.st.toNat=q.n;omega
 unfold YL at hsup
 rw[if_neg (show ¬(rstr q.a lf).st=0 from λh=>hnz (.inl h)),hnt] at hsup
 simp only[] at hsup
 refine Qi<|Qc<|Qb<|x (QE rfl)<|x (Qa rfl)<|x (Qa rfl)<|x (Qd hA4.B rfl rfl)<|xl rfl<|Xa (n:=q.n) (congrArg (Value.int .i64) hn) (congrArg (Value.int .i64) hn) (by omega) λbE w6 hs6 hbE hBE=>Qf ?_
 rw[jH] at hBE
 have hz6:=hs6.size
 have hlE:=hBE.lt
 have hs06:=hs04.trans hs6
 have hA6:=hA.ext hs06
 refine Qg<|Qc<|Qb<|x (QE rfl)<|x (Qa rfl)<|x (Qa rfl)<|x (Qd hA6.B rfl rfl)<|x (Qs hA6.a.ed rfl)<|Qb<|xe ?_
 refine Qh<|QA (α:=Nat×(Nat→Value)) [(7,7),(50,74)] (λz=>[(50,.int .i64 z.1)]) (λz w'=>z.1≤q.a.ed.length∧Step [bE] w6 w'∧QS w'.heap bE 48 ((List.range q.n).map z.2)∧J2 w6.heap.size w' q.n z.2 (qX ((q.a.ed.take z.1).filter λe=>lft lf e.2.2))) (λz=>q.a.ed.length - z.1) (by rfl) (0,λ_=>nS) ⟨rfl,trivial⟩
  ⟨Nat.zero_le _,Step.refl _ _,hBE,⟨λi _=>QP _ _ _ _,λi j _ _ _=>Dj.nil _⟩⟩ ?_
 rintro ⟨k,rv⟩ g w7 ⟨hk,hs7,hBE7,hR7⟩
 simp only[] at hk hBE7 hR7
 have hs67:Step [] w4 w7:=hs6.then1 hs7 hbE
 have hs07:=hs04.trans hs67
 have hz7:=hs7.size
 have hA7:=hA.ext hs07
 refine Qc<|x (QB rfl rfl)<|xe ?_
 refine Qg<|QD rfl (λh51=>?_) (λh51=>?_)
 ·refine Qz ?_
  have hke:q.a.ed.length≤k:=by have h52:¬(k:Int)<(q.a.ed.length:Int):=h51;omega
  rw[List.take_of_length_le hke] at hR7
  have hR7:J2 w6.heap.size w7 q.n rv (qX (rstr q.a lf).ed):=hR7
  have hrl:(rstr q.a lf).ed.length≤q.a.ed.length:=List.length_filter_le _ _
  refine Qc<|xl rfl<|ZU X2 λmb w8 hs8 hmb hM8=>xl rfl<|Z9 (k:=(0:Int)) hM8 rfl rfl λw9 hs9 hM9=>Qb<|Qf ?_
  have hs79:Step [] w7 w9:=hs8.then1 hs9 hmb
  have hz9:=hs79.size
  have hlm:=hM9.lt
  refine Qc<|xl rfl<|QH (us:=[[.int .i64 0]]) rfl rfl (by decide) (by simp) ⟨rfl,rfl,trivial⟩ λb77 w10 hs10 hb77 hB77=>Qf<|Qg<|Qc<|Qf ?_
  have hne:mb≠b4:=by omega
  have hl4S:b4<w9.heap.size:=by omega
  have hs09:=hs07.trans hs79
  have hup:∀b∈[b4,mb],w2.heap.size≤b:=λb hb=>by simp only[List.mem_cons,List.not_mem_nil,or_false] at hb;omega
  have hAS:jl [b4,mb] w9.heap bp q:=((hA.ext hs12).up (λb hb=>.inr (hup b hb))).ext (hs24.trans (hs67.trans hs79))
  have hBS:QS w9.heap q.bl 4 (lf.map Value.bool):=hB.ext hs09
  have hlw:=hB.lt
  have hRS:∀s,s<q.n→Uz [b4,mb] w9.heap (rv s) (qX (rstr q.a lf).ed s):=λs hs=>QV (Qu (hR7.own s hs) hs79) (by have:=jI (rstr q.a lf).ed s;omega) (λb hb hm=>by
   have h1:=(Qq (hR7.own s hs) b hb).1
   have h2:=Q0 (hR7.own s hs) b hb
   simp only[List.mem_cons,List.not_mem_nil,or_false] at hm
   omega)
  have hBE9:=hBE7.ext hs79
  have hbn:∀b,b<w2.heap.size→b∉[b4,mb]:=λb hb hm=>by have:=hup b hm;omega
  have hEn:bE∉[b4,mb]:=by simp only[List.mem_cons,List.not_mem_nil,or_false];omega
  have hblw:q.bl<w2.heap.size:=by omega
  have hBl9:q.bl∉[b4,mb]:=hbn _ hblw
  have hB4S:QS w9.heap b4 50 [r2,.int .i64 0,nS,nS]:=((hB4.ext hs67)).ext hs79
  have hB2S:QS w9.heap b2 50 [nS,.int .i64 0,nS,nS]:=((hB2.ext hs2).ext hs24).ext (hs67.trans hs79)
  have hr2S:=Qu hr2 (hs24.trans (hs67.trans hs79))
  have ho10:Qt 3 w9.heap.size w10 (.slice (some ⟨b77,0,none⟩) 1 1) [0]:=hB77.own (n:=1) (sz:=1) rfl (by omega) (by omega)
  have hnm0:QbQ (Yf (rstr q.a lf)).num (mput [] (0:Int) (.int .i64 0)):=by
   have h0:QbQ (List.replicate q.n (-1)) ([]:List (Int×Value)):=λs hs=>by
    have hs':s<q.n:=by simpa using hs
    have:cget (List.replicate q.n (-1)) s=-1:=by unfold cget;simp[List.getD,hs']
    rw[this];rfl
   have h1:=h0.set (k:=0) (by simp;omega) (v:=0) (Int.le_refl _)
   unfold Yf
   rw[hnt]
   exact h1
  have hbound:∀e∈(rstr q.a lf).ed,0≤e.1∧e.1<q.a.st∧0≤e.2.2∧e.2.2<q.a.st:=λe he=>by have:=hok.ed e he;exact ⟨this.1,this.2.1,this.2.2.2.1,this.2.2.2.2⟩
  have hc0:KX q.a.st (Yf (rstr q.a lf)):=QcS (a:=rstr q.a lf) hpos
  have hmr:(rstr q.a lf).mr=q.a.mr:=rfl
  refine Zc (rstr q.a lf) λR hR=>?_
  rw[hR] at hsup hRS hnm0 hbound hc0 hmr hrl
  have hRal:R.al=q.a.al:=by rw[←hR];rfl
  have hnN:q.a.st.toNat=q.n:=by omega
  refine Qh<|QA (α:=Nat×Cs×List (Int×Value)×Value×Value×Value) [(9,10),(12,14),(78,142)] (λz=>[(9,z.2.2.2.1),(10,.int .i64 z.1)])
   (λz w'=>JJ b4 mb r2 w9 z.2.1 z.2.2.1 z.2.2.2.1 z.2.2.2.2.1 z.2.2.2.2.2 w'∧z.1≤z.2.1.ord.length∧KX q.a.st z.2.1∧z.2.1.mk'.length≤z.1∧z.2.1.ed.length≤z.1*131072∧XB R (q.n - z.1) z.1 z.2.1=XB R q.n 0 (Yf R)) (λz=>q.n - z.1) (by rfl)
   (0,Yf R,mput [] (0:Int) (.int .i64 0),.slice (some ⟨b77,0,none⟩) 1 1,nS,nS) ⟨rfl,rfl,trivial⟩
   ⟨⟨hs10.any,hB4S.ext hs10,hM9.ext hs10,hnm0,ho10,QP _ _ _ _,QP _ _ _ _,Dj.nil' _,Dj.nil' _,Dj.nil' _⟩,Nat.zero_le _,hc0,Nat.zero_le _,Nat.zero_le _,rfl⟩ ?_
  rintro ⟨i,c,m,vo,vk,ve⟩ g w11 ⟨hI,hi,hc,hmk,hed,hcan⟩
  simp only[] at hI hi hc hmk hed hcan
  have hcle:=hc.le
  have hoA:=Qt.ints (L:=[]) hI.o (by omega) (by simp)
  refine Qg<|Qc<|Qb<|Qb<|x (Qs hoA rfl)<|x (QB rfl rfl)<|xe ?_
  refine QD rfl (λh81=>?_) (λh81=>?_)
  ·refine Qz ?_
   have hend:c=XB R q.n 0 (Yf R):=by rw[←hcan,zX (by omega)]
   refine Qc<|Qb<|x (Qs hoA rfl)<|x (Qa rfl)<|xl rfl<|QF hI.B4 rfl rfl (by simp) rfl λw12 hs12 hB12=>xe ?_
   have hkA:=Qt.ints (L:=[]) hI.k (by omega) (by simp)
   have heA:=ZV.eds (L:=[]) hI.e (by have:=hc.el;omega) (by simp)
   refine Qc<|x (Qn hB12 rfl rfl)<|Qb<|xl rfl<|Ql (us:=[r2,.int .i64 c.ord.length,vk,ve]) ((hB2S.step hI.st (hbn _ (by omega))).step hs12 (by simp;omega)) rfl rfl rfl rfl ⟨hr2I.one,rfl,hkA.one,heA.one,trivial⟩ λw13 hs13 hB13=>Qf ?_
   have hE1:Step [b4,mb] w9 w12:=hI.st.then hs12 (λb hb=>.inl (by simp at hb;simp[hb]))
   have hfin:Step [] w w13:=(hs09.then hE1 (λb hb=>.inr (by have:=hup b hb;omega))).then1 hs13 (by omega)
   refine Qk ⟨[.agg #[r2,.int .i64 c.ord.length,vk,ve],vo],⟨⟨_,rfl,Qv rfl (hB13.at (L:=[]) (by simp)).cells⟩,rfl,trivial⟩,hfin,_,_,rfl,?_,hoA.one⟩
   rw[←hend] at hsup
   subst hsup
   have k1:=Qm (Qm hI.k hs12 (λb hb=>by have:=(Qq hI.k b hb).1;simp;omega)) hs13 (λb hb=>by have:=(Qq hI.k b hb).1;simp;omega)
   have k2:=Qm (Qm hI.e hs12 (λb hb=>by have:=(Qq hI.e b hb).1;simp;omega)) hs13 (λb hb=>by have:=(Qq hI.e b hb).1;simp;omega)
   have k3:=Qm (Qm hr2S hE1 (λb hb=>hbn b (hr2lt b hb))) hs13 (λb hb=>by have:=(Qq hr2 b hb).1;simp;omega)
   exact ⟨r2,vk,ve,rfl,λL' hL'=>⟨by rw[hRal];exact Qt.ints k3 hA.a.al.le (λb hb=>by have:=hL' b hb;omega),Qt.ints k1 (by show c.mk'.length≤_;omega) (λb hb=>by have:=hL' b hb;omega),ZV.eds k2 (by show c.ed.length≤_;have:=hc.el;omega) (λb hb=>by have:=hL' b hb;omega)⟩⟩
  have hlt:i<c.ord.length:=by omega
  refine Qi ?_
  have hgi:=Zg hlt
  have hsr:=hc.ord _ (Xz hlt)
  have hlate:=Qdf (a:=R) hlt
  refine Zc (cget c.ord i) λs0 hs0=>?_
  rw[hs0] at hgi hsr hlate
  have hsn:s0=(s0.toNat:Int):=by omega
  have hst:s0.toNat<q.n:=by omega
  have hos0:qX R.ed s0.toNat=ZF R.ed s0:=by unfold qX;rw[←hsn]
  have hRow:=hRS s0.toNat hst
  rw[hos0] at hRow
  have hosl:=X8 R.ed s0
  have hosm:∀e∈ZF R.ed s0,0≤e.2.2∧e.2.2<q.a.st:=λe he=>⟨(hbound e (Yi he).1).2.2.1,(hbound e (Yi he).1).2.2.2⟩
  refine Zc (ZF R.ed s0) λos hos=>?_
  rw[hos] at hRow hosl hosm hlate
  refine Qg<|Qh<|Qg<|Qc<|Qb<|Qb<|Qb<|xii (i:=i) hoA rfl rfl hlt λa87 h87=>?_
  rw[hgi] at h87
  refine x (Qw h87 rfl)<|x (QR (i:=s0.toNat) rfl (congrArg (Value.int .i64) hsn) hst)<|x (Qd (u:=rv s0.toNat) (hBE9.step hI.st hEn) rfl (K7 hst))<|x (Qs (hRow.st hI.st) rfl)<|Qb<|xe ?_
  refine Qh<|QA (α:=Nat×Cs×List (Int×Value)×Value×Value) [(9,9),(12,14),(92,126)] (λz=>[(9,z.2.2.2.1),(92,.int .i64 z.1)])
   (λz w'=>JJ b4 mb r2 w9 z.2.1 z.2.2.1 z.2.2.2.1 vk z.2.2.2.2 w'∧z.1≤os.length∧KX q.a.st z.2.1∧z.2.1.mk'=c.mk'∧z.2.1.ed.length=c.ed.length+z.1∧(∃r,z.2.1.ord=c.ord++r)∧(os.drop z.1).foldl (Zj i) z.2.1=os.foldl (Zj i) c) (λz=>os.length - z.1) (by rfl) (0,c,m,vo,ve) ⟨rfl,rfl,trivial⟩
   ⟨hI,Nat.zero_le _,hc,rfl,rfl,⟨[],by simp⟩,rfl⟩ ?_
  rintro ⟨k4,d,m4,vo4,ve4⟩ g w12 ⟨hI4,hk4,hc4,hm4,he4,ho4,hf4⟩
  simp only[] at hI4 hk4 hc4 hm4 he4 ho4 hf4
  have hcle4:=hc4.le
  have hoA4:=Qt.ints (L:=[]) hI4.o (by omega) (by simp)
  have hil4:i<d.ord.length:=by obtain ⟨r,hr⟩:=ho4;rw[hr,List.length_append];omega
  have hgi4:cget d.ord i=s0:=by obtain ⟨r,hr⟩:=ho4;rw[hr,qw hlt];exact hs0
  refine Qc<|x (QB rfl rfl)<|xe ?_
  refine Qg<|QD rfl (λh93=>?_) (λh93=>?_)
  ·refine Qz ?_
   rw[List.drop_of_length_le (by omega),List.foldl_nil] at hf4
   rw[←hf4] at hlate
   have hAw:=hAS.st hI4.st
   have hg4:d.ord[i]'hil4=s0:=by rw[Zg hil4];exact hgi4
   have hmkC:ZR R i d=if s0∈q.a.mr then ⟨d.ord,d.num,d.mk'++[(i:Int)],d.ed⟩ else d:=by
    unfold ZR
    rw[Ke,Int.toNat_natCast,hgi4,hmr]
   rw[hmkC] at hlate
   have hcanS:XB R (q.n - (i+1)) (i+1) (qY R i c)=XB R q.n 0 (Yf R):=by
    rw[←hcan]
    obtain ⟨t,ht⟩:∃t,q.n - i=t+1:=⟨q.n - i - 1,by omega⟩
    rw[ht,XB,if_pos hlt,show q.n - (i+1)=t by omega]
   have hm4l:=congrArg List.length hm4
   refine Qg<|QT (Step [] w12) [(0,true),(1,true),(2,true),(3,true),(4,true),(5,true),(6,true),(7,true),(8,true),(9,false)] mixed (by rfl) (by kernel_rfl) (Step.drew _ _) ?_
   refine p (λ_=>Qo)<|p (λ_=>QE rfl)<|p (λ_=>Qa rfl)<|p (λ_=>Qa rfl)<|pq (λ_ hc=>Qd (hAw.B.ext hc) rfl rfl)<|p (λ_=>Qo) <|
    p (λ_=>Qo)<|pii (i:=i) rfl hoA4 rfl rfl hil4 λa134 h134=>?_
   rw[hg4] at h134
   refine pq (λ_ hc=>Qw (h134.ext hc) rfl)<|pk<|xf<|(Yl (hAw.a.mr.ext (Step.drew _ _)) s0).mono ?_
   rintro r16 w16 ⟨rfl,rfl⟩
   refine ⟨Step.drew _ _,pe ?_⟩
   have hI5:=hI4.ext (Step.drew [] w12)
   refine QD rfl (λh136=>?_) (λh136=>?_)
   ·rw[if_neg h136] at hlate
    refine Qi<|Qx<|Qb<|x (Qy rfl rfl ⟨by omega,by omega⟩)<|Qf ?_
    rw[hlate] at hcanS
    exact ⟨(i+1,d,m4,vo4,vk,ve4),by simp only[];omega,⟨rfl,rfl,trivial⟩,hI5,by simp only[];omega,hc4,by simp only[];omega,by simp only[];omega,hcanS⟩
   rw[if_pos h136] at hlate
   refine Qx<|x (Qa rfl)<|x (Qd hI5.B4 rfl rfl)<|Qb<|xl rfl<|QH (us:=[[.int .i64 i]]) rfl rfl (by decide) (by simp) ⟨rfl,rfl,trivial⟩ λb140 w17 hs17 hb140 hB140=>?_
   have hI17:=hI5.ext hs17
   refine xl rfl<|Q5 (news:=[.int .i64 i]) (L:=[]) hI17.k rfl rfl rfl (hB140.at (by simp)) (by simp[Value.oneCell']) (by omega) hI17.st.size λv18 w18 ho18 hs18 hn18=>?_
   have hk18:Qt 3 w9.heap.size w18 v18 (d.mk'++[(i:Int)]):=Qt.snoc ho18
   refine x (Qa rfl)<|xl rfl<|QF (hI17.B4.step hs18 (QX hI17.k hl4S)) rfl rfl (by simp) (QO ho18) λw19 hs19 hB19=>xe ?_
   have hI19:=hI17.setK hl4S hlm hne hs18 hk18 hn18 hs19 hB19
   refine Qx<|Qb<|x (Qy rfl rfl ⟨by omega,by omega⟩)<|Qf ?_
   rw[hlate] at hcanS
   exact ⟨(i+1,⟨d.ord,d.num,d.mk'++[(i:Int)],d.ed⟩,m4,vo4,v18,ve4),by simp only[];omega,⟨rfl,rfl,trivial⟩,hI19,by simp only[];omega,⟨hc4.nl,hc4.sum,hc4.ord,hc4.num,hc4.el⟩,by simp only[List.length_append,List.length_singleton];omega,by simp only[];omega,hcanS⟩
  refine Qi ?_
  have hlt4:k4<os.length:=by omega
  have hdr:=Q6 hlt4
  rw[hdr,List.foldl_cons] at hf4
  have hto:=hosm _ (List.getElem_mem hlt4)
  refine Zc (os[k4]'hlt4) λe he=>?_
  rw[he] at hf4 hto
  have htn:e.2.2=(e.2.2.toNat:Int):=by omega
  have hqd:e.2.2.toNat<d.num.length:=by rw[hc4.nl];omega
  have hlk:=hI4.nm e.2.2.toNat hqd
  rw[←htn] at hlk
  have hnumL:Zq d.num e.2.2=cget d.num e.2.2.toNat:=rfl
  refine Qg<|Qh<|Qc<|xie (hRow.st hI4.st) rfl rfl hlt4 λa94 h94=>?_
  rw[he] at h94
  refine x (QJ h94 rfl rfl)<|xl rfl<|Qr (us:=[.int .i64 0,.int .i64 0,.int .i64 0]) rfl λb12 w20 hs20 hb12 hB12=>xl rfl<|Ql (us:=QC e) hB12 rfl rfl rfl rfl ⟨rfl,rfl,rfl,trivial⟩ λw21 hs21 hB12=>xe ?_
  have hS21:Step [] w12 w21:=hs20.then1 hs21 hb12
  have hI5:=hI4.ext hS21
  have hl12:=hB12.lt
  have hz21:=hS21.size
  have hIz:=hI4.st.size
  have hc5:KX q.a.st (Zj i d e):=jw hc4 hto.1 hto.2 (by have:=hc4.el;omega)
  have hd2:Zj i d e=⟨(ZS d e).ord,(ZS d e).num,(ZS d e).mk',(ZS d e).ed++[((i:Int),e.2.1,Zq (ZS d e).num e.2.2)]⟩:=UC hqd
  have hordl:=hc5.le
  refine QW (α:=Value) [(13,14),(96,102)] (λz=>[(13,.int .i64 (if cget d.num e.2.2.toNat<0 then 0 else cget d.num e.2.2.toNat)),(14,.bool (!decide (cget d.num e.2.2.toNat<0)))]) (λz w'=>w'=w21) (by rfl) ?_ ?_
  ·refine Qx<|Qb<|x (Qa rfl)<|x (Qd hB12 rfl rfl)<|x (v:=.tuple #[.int .i64 (if cget d.num e.2.2.toNat<0 then 0 else cget d.num e.2.2.toNat),.bool (!decide (cget d.num e.2.2.toNat<0))]) ((JQ (k:=e.2.2) hI5.M rfl rfl).trans (congrArg (λv=>Result.ok (Next.value v) _) ?_))<|Qb<|x (Qj rfl rfl)<|x (Qj rfl rfl)<|x Qe<|Qf ?_
   ·rw[hlk]
    by_cases hneg:cget d.num e.2.2.toNat<0
    ·simp[hneg]
    ·simp[hneg]
   ·exact ⟨.bool true,⟨rfl,rfl,trivial⟩,rfl⟩
  rintro z5 g w21 rfl
  refine QW (α:=Value×List (Int×Value)×Int) [(9,9),(13,13),(103,115)] (λz=>[(9,z.1),(13,.int .i64 z.2.2)]) (λz w'=>cget (ZS d e).num e.2.2.toNat=z.2.2∧JJ b4 mb r2 w9 (ZS d e) z.2.1 z.1 vk ve4 w'∧QS w'.heap b12 126 (QC e)∧w21.heap.size≤w'.heap.size) (by rfl) ?_ ?_
  ·refine Qc<|Qb<|x (Zp rfl)<|xe ?_
   refine QY rfl (λh104=>?_) (λh104=>?_)
   ·have hneg:cget d.num e.2.2.toNat<0:=by simpa using h104
    have hnC:ZS d e=⟨d.ord++[e.2.2],d.num.set e.2.2.toNat d.ord.length,d.mk',d.ed⟩:=by unfold ZS;rw[hnumL,if_pos hneg]
    have hcg:cget (ZS d e).num e.2.2.toNat=(d.ord.length:Int):=by rw[hnC];unfold cget;simp[List.getD,hqd]
    refine Qc<|Qb<|x (Qs (Qt.ints (L:=[]) hI5.o (by omega) (by simp)) rfl)<|Qf<|Qc<|Qb<|x (Qa rfl)<|x (Qd hB12 rfl rfl)<|Qb<|xl rfl<|Yv (k:=e.2.2) hI5.M rfl rfl λw22 hs22 hM22=>xe ?_
    have hnm6:=hI5.nm.set hqd (v:=(d.ord.length:Int)) (by omega)
    rw[←htn] at hnm6
    have hI6:=hI5.setN hlm hne hs22 hM22 hnm6
    have hB12':=hB12.step hs22 (by simp;omega)
    refine Qx<|Qb<|x (Qa rfl)<|x (Qd hB12' rfl rfl)<|xl rfl<|QH (us:=[[.int .i64 e.2.2]]) rfl rfl (by decide) (by simp) ⟨rfl,rfl,trivial⟩ λb114 w23 hs23 hb114 hB114=>?_
    have hI7:=hI6.ext hs23
    refine xl rfl<|Q5 (news:=[.int .i64 e.2.2]) (L:=[]) hI7.o rfl rfl rfl (hB114.at (by simp)) (by simp[Value.oneCell']) (by show d.ord.length+1≤_;omega) hI7.st.size λv24 w24 ho24 hs24 hn24=>Qf ?_
    have hk24:Qt 3 w9.heap.size w24 v24 (d.ord++[e.2.2]):=Qt.snoc ho24
    have hb12o:b12∉ob vo4:=λhb=>by have:=Q0 hI4.o b12 hb;omega
    have hI8:=hI7.setO hl4S hlm hs24 hk24 hn24
    have:=hs22.size
    have:=hs23.size
    have:=hs24.size
    refine ⟨(v24,mput m4 e.2.2 (.int .i64 d.ord.length),(d.ord.length:Int)),⟨rfl,rfl,trivial⟩,hcg,?_,(hB12'.ext hs23).step hs24 hb12o,by omega⟩
    simp only[]
    rw[hnC]
    exact hI8
   ·have hneg:¬cget d.num e.2.2.toNat<0:=by simpa using h104
    have hnC:ZS d e=d:=by unfold ZS;rw[hnumL,if_neg hneg]
    have hel:(if cget d.num e.2.2.toNat<0 then 0 else cget d.num e.2.2.toNat)=cget (ZS d e).num e.2.2.toNat:=by rw[hnC,if_neg hneg]
    refine Qi<|⟨(vo4,m4,if cget d.num e.2.2.toNat<0 then 0 else cget d.num e.2.2.toNat),⟨rfl,rfl,trivial⟩,hel.symm,?_,hB12,Nat.le_refl _⟩
    rw[hnC];exact hI5
  rintro ⟨vo5,m5,tn⟩ g w25 ⟨htnn,hI8,hB12',hz25⟩
  simp only[] at hI8 htnn
  have hnl:(ZS d e).num.length=d.num.length:=Qcm d e
  have hedn:(ZS d e).ed=d.ed:=by unfold ZS;split <;> rfl
  have hgN:Zq (ZS d e).num e.2.2=cget (ZS d e).num e.2.2.toNat:=rfl
  rw[hgN,hedn,htnn] at hd2
  have heN:ZV 126 w9.heap.size w25 ve4 d.ed:=by have:=hI8.e;rw[hedn] at this;exact this
  refine Qx<|x (Qa rfl)<|x (Qd hI8.B4 rfl rfl)<|Qb<|x (Qa rfl)<|x (Qd hB12' rfl rfl)<|Qb<|x (QN ⟨rfl,rfl,rfl,trivial⟩) <|
   xl rfl<|QH (us:=[QC ((i:Int),e.2.1,tn)]) rfl rfl (by decide) (by exact (by decide:1*3≤1000000)) ⟨rfl,rfl,trivial⟩ λb123 w26 hs26 hb123 hB123=>?_
  have hI9:=hI8.ext hs26
  refine xl rfl<|Q5 (m:=1) (news:=QC ((i:Int),e.2.1,tn)) (L:=[]) (Qu heN hs26) rfl rfl rfl (hB123.at (by simp)) (λu hu=>by simp only[QC,List.mem_cons,List.not_mem_nil,or_false] at hu;rcases hu with rfl | rfl | rfl <;> rfl) (by have:=hc4.el;omega) hI9.st.size λv27 w27 ho27 hs27 hn27=>?_
  have hk27:ZV 126 w9.heap.size w27 v27 (d.ed++[((i:Int),e.2.1,tn)]):=ZV.snoc ho27
  refine x (Qa rfl)<|xl rfl<|QF (hI9.B4.step hs27 (QX hI9.e hl4S)) rfl rfl (by simp) (QO ho27) λw28 hs28 hB28=>xe ?_
  have hIA:=hI9.setE hl4S hlm hne hs27 hk27 hn27 hs28 hB28
  rw[←hd2] at hIA
  refine Qx<|x (Qy rfl rfl ⟨by omega,by omega⟩)<|Qb<|xe ?_
  refine ⟨(k4+1,Zj i d e,m5,vo5,v27),by simp only[];omega,⟨rfl,rfl,trivial⟩,hIA,by simp only[];omega,hc5,?_,?_,?_,hf4⟩
  ·simp only[];rw[←hm4];exact (jx i d [] e).2
  ·simp only[];rw[jy,he4];omega
  ·simp only[]
   obtain ⟨r1,h1⟩:=zm i d e
   obtain ⟨r2',h2⟩:=ho4
   exact ⟨r2'++r1,by rw[h1,h2,List.append_assoc]⟩
 refine Qi ?_
 have hlt:k<q.a.ed.length:=by have h52:(k:Int)<(q.a.ed.length:Int):=h51;omega
 have hek:=hq.ok.ed _ (List.getElem_mem hlt)
 have htk:q.a.ed.take (k+1)=q.a.ed.take k++[q.a.ed[k]'hlt]:=List.take_succ_eq_append_getElem hlt
 have hfl:(q.a.ed.take (k+1)).filter (λe=>lft lf e.2.2)=(q.a.ed.take k).filter (λe=>lft lf e.2.2)++if lft lf (q.a.ed[k]'hlt).2.2=true then [q.a.ed[k]'hlt] else []:=by
  rw[htk,List.filter_append]
  congr 1
  by_cases h:lft lf (q.a.ed[k]'hlt).2.2=true
  ·simp[h]
  ·simp[h]
 have hfll:((q.a.ed.take k).filter (λe=>lft lf e.2.2)).length≤k:=Nat.le_trans (List.length_filter_le _ _) (by rw[List.length_take];omega)
 refine Zc ((q.a.ed.take k).filter (λe=>lft lf e.2.2)) λkept hkept=>?_
 rw[hkept] at hfl hR7 hfll
 refine Zc (q.a.ed[k]'hlt) λe he=>?_
 rw[he] at hek hfl
 have hfn:e.1=(e.1.toNat:Int):=by omega
 have htn:e.2.2=(e.2.2.toNat:Int):=by omega
 have hlf:=VN (l:=lf) (s:=e.2.2) (by omega)
 have hrn:e.1.toNat<q.n:=by omega
 refine Qg<|Qh<|Qc<|xie hA7.a.ed rfl rfl hlt λa52 h52=>?_
 rw[he] at h52
 refine x (QJ h52 rfl rfl)<|xl rfl<|Qr (us:=[.int .i64 0,.int .i64 0,.int .i64 0]) rfl λb7 w8 hs8 hb7 hB7=>xl rfl<|Ql (us:=QC e) hB7 rfl rfl rfl rfl ⟨rfl,rfl,rfl,trivial⟩ λw9 hs9 hB7=>xe ?_
 have hs79:Step [] w7 w9:=hs8.then1 hs9 hb7
 have hz9:=hs79.size
 have hA9:=hA7.ext hs79
 have hB9:=hB.ext (hs07.trans hs79)
 have hR9:=hR7.ext hs79
 have hBE9:=hBE7.ext hs79
 refine Qg<|QT (Step [] w9) [(0,true),(1,true),(2,true),(3,true),(4,true),(5,true),(6,true),(7,true)] mixed (by rfl) (by kernel_rfl) (Step.drew _ _) ?_
 refine p (λ_=>Qo)<|p (λ_=>QE rfl)<|p (λ_=>Qa rfl)<|pq (λ_ hc=>Qd (hA9.B.ext hc) rfl rfl)<|p (λ_=>Qa rfl)<|pq (λ_ hc=>Qd (hB7.ext hc) rfl rfl) <|
  p (λ_=>QR (i:=e.2.2.toNat) rfl (congrArg (Value.int .i64) htn) (by omega))<|pq (v:=.bool (lft lf e.2.2)) (λ_ hc=>(XR (i:=e.2.2.toNat) (hB9.ext hc) rfl (by omega)).trans (by rw[hlf]))<|pe ?_
 have hd9:Step [] w9 { w9 with drawn:=w9.drawn+1 }:=Step.drew _ _
 refine QY rfl (λh61=>?_) (λh61=>?_)
 ·rw[if_pos h61] at hfl
  have hrow:=hR9.own _ hrn
  have hIn:∀b∈ob (rv e.1.toNat),w6.heap.size≤b∧b<w7.heap.size:=λb hb=>⟨(Qq (hR7.own _ hrn) b hb).1,Q0 (hR7.own _ hrn) b hb⟩
  have hbEn:bE∉ob (rv e.1.toNat):=λhb=>by have:=hIn _ hb;omega
  have hb7n:b7∉ob (rv e.1.toNat):=λhb=>by have:=hIn _ hb;omega
  have hrl:=jI kept e.1.toNat
  refine QT (Step (ob (rv e.1.toNat)) w9) [(0,true),(1,true),(2,true),(3,true),(4,true),(5,true),(6,true),(7,true),(8,true),(9,false),(10,false),(11,true),(12,false)] mixed (by rfl) (by kernel_rfl) (hd9.any.trans' (Step.drew _ _)) ?_
  refine p (λ_=>Qo)<|p (λ_=>Qa rfl)<|pq (λ_ hc=>Qd (hB7.step hc hb7n) rfl rfl)<|p (λ_=>Qo)<|p (λ_=>Qa rfl) <|
   pq (λ_ hc=>Qd (hB7.step hc hb7n) rfl rfl)<|p (λ_=>QR (i:=e.1.toNat) rfl (congrArg (Value.int .i64) hfn) hrn)<|pq (λ_ hc=>Qd (u:=rv e.1.toNat) (hBE9.step hc hbEn) rfl (K7 hrn)) <|
   pq (λ_ hc=>Qn (hB7.step hc hb7n) rfl rfl)<|pk<|QH (us:=[QC e]) rfl rfl (by decide) (by exact (by decide:1*3≤1000000)) ⟨rfl,rfl,trivial⟩ λb71 w10 hs10 hb71 hB71=>⟨(hd9.any.trans' (Step.drew _ _)).trans' hs10.any,?_⟩
  have hs910:Step [] w9 w10:=(hd9.trans (Step.drew _ _)).trans hs10
  have hz10:=hs910.size
  refine pk<|Q5 (m:=1) (news:=QC e) (L:=[]) (Qu hrow hs910) rfl rfl rfl (hB71.at (by simp)) (λu hu=>by simp only[QC,List.mem_cons,List.not_mem_nil,or_false] at hu;rcases hu with rfl | rfl | rfl <;> rfl) (by omega) (by omega) λvr w11 ho11 hs11 hn11=>⟨hs910.any.trans' hs11,?_⟩
  have hBE11:=(hBE9.ext hs910).step hs11 hbEn
  have hlen:((List.range q.n).map rv).length=q.n:=by simp
  refine p (λ_=>QR (i:=e.1.toNat) rfl (congrArg (Value.int .i64) hfn) hrn)<|pkl (hl:=by kernel_rfl)<|QF (j:=0+e.1.toNat*1) (u:=vr) hBE11 rfl rfl (by rw[hlen];omega) (QO ho11) λw12 hs12 hBE12=>pe ?_
  have hb12:QS w12.heap bE 48 ((List.range q.n).map (JF rv e.1.toNat vr)):=by
   have e1:=jo id q.n rv e.1.toNat vr
   simp only[id] at e1
   rw[←e1]
   simpa using hBE12
  have hvn:∀b∈ob vr,b∈ob (rv e.1.toNat)∨w9.heap.size≤b:=λb hb=>(hn11 b hb).imp id (λh=>by omega)
  have hR11:=hR9.app hrn (ZV.snoc ho11) (hs910.any.trans' hs11) hvn
  have hR12:=hR11.step hs12 (λi hi b hb=>by have:=(Qq (hR11.own i hi) b hb).1;simp only[List.mem_singleton];omega)
  rw[Qde kept e hek.1,←hfl] at hR12
  refine Qx<|x (Qy rfl rfl ⟨by omega,by omega⟩)<|Qb<|xe ?_
  exact ⟨(k+1,JF rv e.1.toNat vr),by simp only[];omega,⟨rfl,trivial⟩,hlt,(((hs7.trans hs79).trans hs910).then hs11 (λb hb=>.inr (hIn b hb).1)).trans' hs12,hb12,hR12⟩
 ·rw[if_neg (by rw[h61];decide),List.append_nil] at hfl
  refine Qi<|Qx<|x (Qy rfl rfl ⟨by omega,by omega⟩)<|Qb<|xe ?_
  exact ⟨(k+1,rv),by simp only[];omega,⟨rfl,trivial⟩,hlt,(hs7.trans hs79).trans hd9,(hBE9.ext hd9),by simp only[];rw[hfl];exact hR9.ext hd9⟩
open Go.Sort
abbrev Rz:={ x:Int×Int×Int×Int // 0≤x.1∧x.1<4096 }
instance:Inhabited Rz:=⟨⟨(0,0,0,0),by decide⟩⟩
abbrev UI (x:Rz):LV:=[.int .i64 x.1.1,.int .i64 x.1.2.1,.int .i64 x.1.2.2.1,.int .i64 x.1.2.2.2]
abbrev RzO (base:Nat) (w:World) (v:Value) (l:List Rz):Prop:=w.ownsRow base 271 4 v l.length (l.flatMap UI)
set_option maxHeartbeats 1000000 in
theorem Qld (x y:Rz) (W:World):Calls prog 166 #[.agg (UI x).toArray,.agg (UI y).toArray] W λe w'=>e=.returned (.int .i64 (x.1.1 - y.1.1))∧∃q os',w'=grow (W.drewN q) os':=by
 have hw:IntKind.i64.wrap (x.1.1 - y.1.1)=x.1.1 - y.1.1:=YZ ⟨by have:=x.2;have:=y.2;omega,by have:=x.2;have:=y.2;omega⟩
 go_enter func166,ntmps166
 go_wp2
 go_ret
 exact ⟨by rw[←hw];rfl,0,_,by rw[alloc_eq_grow,alloc_eq_grow,grow_grow];rfl⟩
theorem yp (x:Rz):(UI x).length=4:=rfl
theorem yo:∀l:List Rz,(l.flatMap UI).length=l.length*4
 | []=>rfl
 | x::l=>by rw[List.flatMap_cons,List.length_append,yo l,yp,List.length_cons];omega
theorem Qcb {l:List Rz}{j:Nat}(hj:j<l.length*4):(l.flatMap UI)[j]?=some ((flatK UI 4 l.toArray)[j]!):=by
 have h1:j / 4<l.length:=Nat.div_lt_of_lt_mul (by omega)
 have h2:j % 4<4:=Nat.mod_lt _ (by decide)
 rw[get_flatK _ _ _ _ (by simpa using hj)]
 have h3:=Jr UI 4 yp l (j / 4) h1
 have h4:(l.flatMap UI)[j]?=(UI (l[j / 4]'h1))[j % 4]?:=by
  rw[←h3,List.getElem?_take,if_pos h2,List.getElem?_drop]
  congr 1;omega
 rw[h4]
 have h5:(l.toArray)[j / 4]! = l[j / 4]'h1:=by simp[h1]
 rw[h5]
 have h6:j % 4<(UI (l[j / 4]'h1)).length:=h2
 exact (List.getElem?_eq_getElem h6).trans (congrArg some (getElem!_pos (UI (l[j / 4]'h1)) (j % 4) h6).symm)
theorem Qju:SWO (ltOf λx y:Rz=>x.1.1 - y.1.1) where
 irrefl x:=by unfold ltOf;simp
 trans x y z h1 h2:=by unfold ltOf at *;simp at *;omega
 ntrans x y z h1 h2:=by unfold ltOf at *;simp at *;omega
set_option maxHeartbeats 1000000 in
theorem Qdb {w:World}{base:Nat}{v:Value}{l:List Rz}(h:RzO base w v l) (hl:l.length≤1099511627776) :
  QG prog 165 [v,.func (.func 166) #[] #[]] w λ_ w'=>Step (ob v) w w'∧∃l',l'.length=l.length∧RzO base w' v l':=by
 unfold QG
 rcases h.2 with ⟨rfl,h0⟩ | ⟨g,cap,cur,rfl,hbg,hg,hnc,hcm,hcs,htk⟩
 ·have hl0:l=[]:=List.eq_nil_of_length_eq_zero h0
  subst hl0
  have hc:=AnyF.slices_SortFunc_none Tryz.sortRm none 0 (.func (.func 166) #[] #[]) w
  change Calls prog 165 _ _ _ at hc
  refine Calls.mono hc λe w' he=>?_
  obtain ⟨rfl,rfl⟩:=he
  exact ⟨Step.refl _ _,[],rfl,h⟩
 ·have hlt:g<w.heap.size:=(Array.getElem?_eq_some_iff.1 hg).1
  have hcl:l.length*4≤cur.size:=by rw[hcs];exact Nat.mul_le_mul_right _ hnc
  have hH:HoldsK UI 4 w g 0 l.toArray:=by
   intro j hj
   rw[size_flatK,List.size_toArray] at hj
   have h1:=Qcb hj
   rw[←htk,List.getElem?_take,if_pos hj] at h1
   constructor
   ·show (match w.heap[g]? with | some (.cells c _ _)=>if (none:Option _).isSome then none else c[0+j]? | _=>none)=_
    rw[hg]
    simp only[Nat.zero_add,Option.isSome_none,Bool.false_eq_true,if_false]
    rw[←Array.getElem?_toList,h1];rfl
   ·show (match w.heap[g]? with | some (.cells _ _ (lo,hi))=>decide (lo≤0+j) && decide (0+j<hi) | _=>false)=false
    rw[hg];simp
  have eg:∀args w,(callFunc 166 args).run prog w=.ok (.enter 166 args) w:=enters_of func166 (by kernel_rfl) rfl
  have hc:=AnyQ.slices_SortFunc Tryz.sortRm 4 Tryz.isAgg271 Tryz.sizeOf271 UI yp (λx v hv=>by simp at hv;rcases hv with rfl | rfl | rfl | rfl <;> rfl) (λx y=>x.1.1 - y.1.1) Qju 166 #[] g 0 cap l.toArray w eg (λm os dk _ x y=>Qld x y _) hH hlt (by simp;omega)
  change Calls prog 165 _ _ _ at hc
  rw[List.size_toArray] at hc
  refine Calls.mono hc λe w' he=>?_
  obtain ⟨rfl,d',n,os,hp,_,rfl⟩:=he
  have hsz:d'.size=l.length:=by have:=hp.1;simpa using this
  have hhp:(sortWorldK UI 4 w g 0 n d' os).heap=w.heap.modify g (onCells (putCells id 0 (flatK UI 4 d')))++os:=rfl
  refine ⟨⟨rfl,rfl,rfl,?_,λk hk hn=>?_⟩,d'.toList,by simpa using hsz,?_⟩
  ·rw[hhp,Array.size_append,Array.size_modify];omega
  ·rw[hhp,Array.getElem?_append,Array.size_modify,if_pos hk,Array.getElem?_modify,if_neg (λe=>hn (by simp[ob,e]))]
  ·refine ⟨yo _,.inr ⟨g,cap,putCells id 0 (flatK UI 4 d') cur,by simp[hsz],hbg,?_,by simp[hsz];exact hnc,hcm,by simp[putCells,hcs],?_⟩⟩
   ·rw[hhp,Array.getElem?_append,Array.size_modify,if_pos hlt,Array.getElem?_modify,if_pos rfl,hg];rfl
   ·apply List.ext_getElem?
    intro j
    rw[List.getElem?_take]
    by_cases hj:j<d'.toList.length*4
    ·rw[if_pos hj,Qcb hj,Array.getElem?_toList]
     have hjc:j<cur.size:=by simp[hsz] at hj;omega
     have hjf:j<(flatK UI 4 d').size:=by simpa using hj
     simp only[putCells,Array.getElem?_mapIdx,Array.getElem?_eq_getElem hjc,Option.map_some,Nat.zero_le,Nat.zero_add,true_and,if_pos hjf,Nat.sub_zero,id]
    ·rw[if_neg hj,List.getElem?_eq_none]
     rw[yo];omega
theorem QjB {a:QM}{ul:LI}{lf:Lf}{n:Nat}(ho:Q2 a) (hn:a.st=(n:Int)) (hl:lf.length=n):∀x∈nxs a ul lf,0≤x∧x<(n:Int):=λx hx=>by
 have h1:=Qe5 x hx
 have h2:x.toNat<n:=by
  refine Decidable.byContradiction λh=>?_
  unfold lft at h1
  simp[List.getD,List.getElem?_eq_none (show lf.length≤x.toNat by omega)] at h1
 unfold nxs at hx
 split at hx
 ·obtain ⟨p,hp,rfl⟩:=List.mem_map.1 hx
  obtain ⟨_,e,he,h3,_⟩:=(yI a ul lf).1 p hp
  have:=ho.ed e he
  omega
 ·have:=((Vz lf (dsts a lf) 0).1 x hx).2
  omega
theorem QiZ {rk rs:Int}:∀(l:List (Int×Int)),(∀x∈l.map (·.1),0≤x∧x<4096)→∃lz:List Rz,lz.flatMap UI=l.flatMap (jJ rk rs)∧lz.length=l.length
 | [],_=>⟨[],rfl,rfl⟩
 | x::l,h=>by
  obtain ⟨lz,h1,h2⟩:=QiZ l (λy hy=>h y (List.mem_cons_of_mem _ hy))
  exact ⟨⟨(x.1,rk,rs,x.2),h x.1 List.mem_cons_self⟩::lz,by rw[List.flatMap_cons,List.flatMap_cons,h1],by simp[h2]⟩
theorem Qcl:∀l:List Rz,∀u∈l.flatMap UI,u.oneCell'=true
 | [],u,h=>by cases h
 | x::l,u,h=>by
  rw[List.flatMap_cons,List.mem_append] at h
  rcases h with h | h
  ·simp only[UI,List.mem_cons,List.not_mem_nil,or_false] at h
   rcases h with rfl | rfl | rfl | rfl <;> rfl
  ·exact Qcl l u h
theorem RzO.snoc {base:Nat}{w:World}{v:Value}{l m:List Rz}(h:w.ownsRow base 271 4 v (l.length+m.length) (l.flatMap UI++m.flatMap UI)):RzO base w v (l++m):=by
 unfold RzO
 rw[List.length_append,List.flatMap_append];exact h
abbrev Y5 (k d r:Value) (n:Int):LV:=[k,d,r,.int .i64 n,nS,.int .i64 0,nS,nS,nS]
structure ReI (b10:Nat) (q:Pz) (wB:World) (lf:Lf) (rn:Int) (vr:Value) (lz:List Rz) (w:World):Prop where
 st:Step [b10,q.bl] wB w
 B10:QS w.heap b10 163 (Y5 (nS) (nS) vr rn)
 R:RzO wB.heap.size w vr lz
 F:QS w.heap q.bl 4 (lf.map Value.bool)
 n:lf.length=q.n
section
variable {b10:Nat} {q:Pz} {wB w w' w'':World} {lf:Lf} {rn:Int} {vr:Value} {lz:List Rz}
theorem ReI.ext (h:ReI b10 q wB lf rn vr lz w) (hs:Step [] w w'):ReI b10 q wB lf rn vr lz w':=⟨h.st.trans hs,h.B10.ext hs,Qu h.R hs,h.F.ext hs,h.n⟩
theorem ReI.cut (h:ReI b10 q wB lf rn vr lz w) (l:q.bl<wB.heap.size) (ne:b10≠q.bl) (hs:Step [q.bl] w w') {lf':Lf}(hF:QS w'.heap q.bl 4 (lf'.map Value.bool)) (hn:lf'.length=q.n):ReI b10 q wB lf' rn vr lz w' :=
 ⟨h.st.then hs (λb hb=>.inl (by simp only[List.mem_singleton] at hb;simp[hb])),h.B10.step hs (by simpa using ne),Qm h.R hs (λb hb=>by have:=(Qq h.R b hb).1;simp only[List.mem_singleton];omega),hF,hn⟩
theorem ReI.app (h:ReI b10 q wB lf rn vr lz w) (l:q.bl<wB.heap.size) (l10:b10<wB.heap.size) (ne:b10≠q.bl) {vr':Value}{lz':List Rz}{rn':Int}(hs:Step (ob vr) w w') (hR:RzO wB.heap.size w' vr' lz') (hs2:Step [b10] w' w'')
  (hB:QS w''.heap b10 163 (Y5 (nS) (nS) vr' rn')):ReI b10 q wB lf rn' vr' lz' w'':=by
 have hge:=Qq h.R
 exact ⟨(h.st.then hs (λb hb=>.inr (hge b hb).1)).then hs2 (λb hb=>.inl (by simp only[List.mem_singleton] at hb;simp[hb])),hB,Qm hR hs2 (λb hb=>by have:=(Qq hR b hb).1;simp only[List.mem_singleton];omega),
  (h.F.step hs (λhb=>by have:=(hge _ hb).1;omega)).step hs2 (by simpa using ne.symm),h.n⟩
theorem ReI.rounds (h:ReI b10 q wB lf rn vr lz w) (l10:b10<wB.heap.size) (ne:b10≠q.bl) {rn':Int}(hs2:Step [b10] w w') (hB:QS w'.heap b10 163 (Y5 (nS) (nS) vr rn')):ReI b10 q wB lf rn' vr lz w' :=
 ⟨h.st.then hs2 (λb hb=>.inl (by simp only[List.mem_singleton] at hb;simp[hb])),hB,Qm h.R hs2 (λb hb=>by have:=(Qq h.R b hb).1;simp only[List.mem_singleton];omega),h.F.step hs2 (by simpa using ne.symm),h.n⟩
end
set_option maxHeartbeats 8000000 in
theorem zr {w:World}{va vm ve vf vu:Value}{a:QM}{forb unc:LI}(h:Zm [] w.heap va vm ve a) (hok:Q2 a) (hf:QL [] w.heap vf forb) (hfb:∀x∈forb,0≤x∧x<a.st) (hfl:forb.length≤4096) (hu:QL [] w.heap vu unc) :
  QG prog 126 [.agg #[va,.int .i64 a.st,vm,ve],vf,vu,.bool true] w λr w'=>Step [] w w'∧∃c0 c1 c2 c3 sa sm se o,r=.agg #[c0,c1,c2,c3,sa,.int .i64 (JG a forb unc).st,sm,se,o] ∧
   ZD [c0,c1,c2,c3,o]∧∀L:LN,(∀b∈L,b<w.heap.size)→Zm L w'.heap sa sm se (JG a forb unc):=by
 have hst0:=hok.st0
 have hst1:=hok.st1
 obtain ⟨n,hn⟩:∃n:Nat,a.st=n:=⟨a.st.toNat,by omega⟩
 have hnt:a.st.toNat=n:=by omega
 have hsy:JG a forb unc=JH a (Ui a unc (n+1) (lf0 n forb)):=by unfold JG QeG;rw[hnt]
 refine Zc (JG a forb unc) λSA hSA=>?_
 rw[hSA] at hsy ⊢
 refine QG.of_W func126 rfl ntmps126 results126 (by simp) ?_
 refine Qc<|xl rfl<|QQ (us:=[va,.int .i64 a.st,vm,ve]) rfl λb4 w1 hs1 hb4 hB4=>xl rfl<|Qr (us:=Y5 (nS) (nS) (nS) 0) rfl λb8 w2 hs2 hb8 hB8=>xe ?_
 have hs02:=hs1.trans hs2
 have hl8:=hB8.lt
 have hz1:=hs1.size
 have hz2:=hs2.size
 refine Qc<|x (Qn (hB4.ext hs2) rfl rfl)<|Qb<|Qb<|xl rfl<|xf<|(Qem (h.ext hs02) hok hn (hf.ext hs02) hfb (hu.ext hs02)).mono ?_
 rintro r3 w3 ⟨hs3,bp,q,rfl,hqa,hqu,hqn,hbl,hP,hF⟩
 refine Qf ?_
 subst hqa hqu hqn
 have hq:PzQ q:=⟨hok,hn⟩
 have hs03:=hs02.trans hs3
 have hz3:=hs3.size
 have hlF:=hF.lt
 refine Qc<|xl rfl<|Qr (us:=Y5 (nS) (nS) (nS) 0) rfl λb10 w4 hs4 hb10 hB10=>xe ?_
 have hs04:=hs03.trans hs4
 have hz4:=hs4.size
 have hl10:=hB10.lt
 have hne:b10≠q.bl:=by omega
 have hlb:q.bl<w4.heap.size:=by omega
 have hP0:jl [b10,q.bl] w4.heap bp q:=(hP.up (λb hb=>by
  simp only[List.mem_cons,List.not_mem_nil,or_false] at hb
  rcases hb with rfl | rfl
  ·exact .inr hb10
  ·exact .inl (by simp))).ext hs4
 have hlfl:=QhN q.n forb
 have hPz:∀{w'},Step [b10,q.bl] w4 w'→jl [] w'.heap bp q:=λhs=>(hP0.st hs).up (by simp)
 refine Qg<|Qc<|Qb<|x (Qs (hf.ext hs04) rfl)<|Qb<|xe ?_
 refine Qh<|QA (α:=Nat×Int×Value×List Rz) [(12,12),(25,39)] (λz=>[(25,.int .i64 z.1)]) (λz w'=>z.1≤forb.length∧ReI b10 q w4 (lf0 q.n forb) z.2.1 z.2.2.1 z.2.2.2 w'∧z.2.2.2.length=z.1∧(z.2.1=0∨z.2.1=1)) (λz=>forb.length - z.1) (by rfl) (0,0,nS,[]) ⟨rfl,trivial⟩
  ⟨Nat.zero_le _,⟨Step.refl _ _,hB10,QP _ _ _ _,hF.ext hs4,hlfl⟩,rfl,.inl rfl⟩ ?_
 rintro ⟨k,rn,vr,lz⟩ g w5 ⟨hk,hI,hlz,hrn⟩
 simp only[] at hk hI hlz hrn
 have hf5:QL [] w5.heap vf forb:=((hf.up (L':=[b10,q.bl]) (λb hb=>by
  simp only[List.mem_cons,List.not_mem_nil,or_false] at hb
  exact .inr (by omega))).ext hs04 |>.st hI.st).up (by simp)
 refine Qc<|x (QB rfl rfl)<|xe ?_
 refine Qg<|QD rfl (λh26=>?_) (λh26=>?_)
 ·refine Qz ?_
  have hcl:=QcO (lf0 q.n forb)
  refine Qg<|Qc<|Qf<|Qh<|QA (α:=Nat×Nat×Int×Value×List Rz×Lf) [(13,14),(16,16),(40,71)] (λz=>[(13,.int .i64 z.2.1)])
   (λz w'=>ReI b10 q w4 z.2.2.2.2.2 z.2.2.1 z.2.2.2.1 z.2.2.2.2.1 w'∧z.2.1+z.1=q.n+3∧z.2.2.2.2.1.length≤4096+z.2.1*1000000∧Ui q.a q.unc z.1 z.2.2.2.2.2=Ui q.a q.unc (q.n+1) (lf0 q.n forb)∧Ks z.2.2.2.2.2+1≤z.1) (λz=>z.1) (by rfl)
   (q.n+1,2,rn,vr,lz,lf0 q.n forb) ⟨rfl,trivial⟩ ⟨hI,by simp only[];omega,by simp only[];omega,rfl,by simp only[];omega⟩ ?_
  rintro ⟨f,rank,rn,vr,lz,lf⟩ g w6 ⟨hI,hrk,hlz,hres,hcn⟩
  simp only[] at hI hrk hlz hres hcn
  refine Qg<|Qh<|Qc<|Qb<|Qb<|Qb<|xl rfl<|xf<|(QeW (hPz hI.st) hq hI.F hI.n rank).mono ?_
  rintro r7 w7 ⟨hs7,rs,l,hO7,hl7,hll7⟩
  refine Qf ?_
  have hI7:=hI.ext hs7
  have hlA:Zw [] w7.heap r7 l.length 4 (l.flatMap (jJ rank rs)):=QV hO7 (by omega) (by simp)
  have hnl:(nxs q.a q.unc lf).length=l.length:=by rw[←hl7,List.length_map]
  have hrg:=QjB (ul:=q.unc) hok hn hI.n
  rw[←hl7] at hrg
  refine Qg<|Qc<|Qb<|x (Qs hlA rfl)<|x (Zn rfl rfl)<|xe ?_
  refine Q3 rfl (λh48=>?_) (λh48=>?_)
  ·refine Qz ?_
   have hl0:l.length=0:=by have h49:(l.length:Int)=0:=h48;omega
   rw[Qdg (by rw[hnl];exact hl0)] at hres
   rw[←hres] at hsy
   refine Qc<|x (Qa rfl)<|x (Qa rfl)<|x (Qd hI7.B10 rfl rfl)<|xl rfl<|xf<|(Qdb hI7.R (by omega)).mono ?_
   rintro r8 w8 ⟨hs8,lz8,_,hR8⟩
   refine xe ?_
   have hge:=Qq hI7.R
   have hst8:Step [b10,q.bl] w4 w8:=hI7.st.then hs8 (λb hb=>.inr (hge b hb).1)
   have hB8':QS w8.heap b10 163 (Y5 (nS) (nS) vr rn):=hI7.B10.step hs8 (λhb=>by have:=(hge _ hb).1;omega)
   have hF8:QS w8.heap q.bl 4 (lf.map Value.bool):=hI7.F.step hs8 (λhb=>by have:=(hge _ hb).1;omega)
   have hvr:=QO hR8
   have hz8:=hst8.size
   refine Qg<|Qc<|Qb<|xl rfl<|xf<|(Vq (hPz hst8) hq hF8 hI7.n).mono ?_
   rintro r9 w9 ⟨hs9,bD,rfl,hbD,hD9,hDl⟩
   refine Zc (dsts q.a lf) λD hD=>?_
   rw[hD] at hD9 hDl
   have hDA:QL [b10] w9.heap (.slice (some ⟨bD,0,none⟩) q.n q.n) D:=by
    have h1:=hD9.arr (L:=[b10]) (by simp only[List.mem_singleton];omega) (n:=q.n) (cap:=q.n) (sz:=1) (by simp[hDl]) (by omega) (Nat.le_refl _)
    unfold QL;rw[hDl];exact h1
   have hst9:=hst8.trans hs9
   have hz9:=hs9.size
   have hF9:=hF8.ext hs9
   refine x (Qs hDA rfl)<|Qb<|xe ?_
   refine Qh<|QA (α:=Nat×Value×Value×LI×LI) [(17,18),(79,107)] (λz=>[(79,.int .i64 z.1)])
    (λz w'=>z.1≤D.length∧Step [b10] w9 w'∧QS w'.heap b10 163 (Y5 z.2.1 z.2.2.1 vr rn)∧Qt 3 w9.heap.size w' z.2.1 z.2.2.2.1∧Qt 3 w9.heap.size w' z.2.2.1 z.2.2.2.2∧Dj z.2.1 z.2.2.1∧z.2.2.2.1.length≤z.1∧z.2.2.2.2.length≤z.1) (λz=>D.length - z.1) (by rfl) (0,nS,nS,[],[]) ⟨rfl,trivial⟩
    ⟨Nat.zero_le _,Step.refl _ _,hB8'.ext hs9,QP _ _ _ _,QP _ _ _ _,Dj.nil' _,Nat.le_refl _,Nat.le_refl _⟩ ?_
   rintro ⟨i,vk,vd,lk,ld⟩ g w10 ⟨hi,hs10,hB10',hK,hDd,hdj,hlk,hld⟩
   simp only[] at hi hB10' hK hDd hdj hlk hld
   have hz10:=hs10.size
   have hst10:Step [b10,q.bl] w4 w10:=hst9.then hs10 (λb hb=>.inl (by simp only[List.mem_singleton] at hb;simp[hb]))
   have hF10:QS w10.heap q.bl 4 (lf.map Value.bool):=hF9.step hs10 (by simpa using hne.symm)
   refine Qc<|x (QB rfl rfl)<|xe ?_
   refine Qg<|QD rfl (λh80=>?_) (λh80=>?_)
   ·refine Qz ?_
    refine Qc<|Qb<|xl rfl<|xf<|(UQ (hPz hst10) hq hF10 hI7.n).mono ?_
    rintro r11 w11 ⟨hs11,_,o,rfl,⟨sa,sm,se,rfl,hSA11⟩,ho1⟩
    rw[←hsy] at hSA11
    have hS0:=hSA11 [] (by simp)
    have hz11:=hs11.size
    refine Qb<|x (Qj rfl rfl)<|x (Qj rfl rfl)<|x (Qa rfl)<|xl rfl<|Kc (us:=[sa,.int .i64 SA.st,sm,se]) (hB10'.ext hs11) rfl (by rw[←hsy];rfl) rfl (by simp) ⟨hS0.al.one,rfl,hS0.mr.one,hS0.ed.one,trivial⟩ rfl λw12 hs12 hB12 =>
     x (Qa rfl)<|xl rfl<|QF (j:=8) (u:=o) hB12 rfl rfl (by simp) ho1 λw13 hs13 hB13=>xe ?_
    have hb8n:b8∉[b10,q.bl]:=by simp only[List.mem_cons,List.not_mem_nil,or_false];omega
    have hb810:b8∉[b10]:=by simp only[List.mem_singleton];omega
    have hB8f:=(((((hB8.ext (hs3.trans hs4)).step hst10 hb8n).ext hs11).step hs12 hb810).step hs13 hb810)
    refine Qc<|x (Qn hB13 rfl rfl)<|xl rfl<|Ql (us:=[vk,vd,vr,.int .i64 rn,sa,.int .i64 SA.st,sm,se,o]) hB8f rfl rfl rfl rfl ⟨QO hK,QO hDd,hvr,rfl,hS0.al.one,rfl,hS0.mr.one,hS0.ed.one,ho1,trivial⟩ λw14 hs14 hB14=>xe ?_
    have hup:∀b∈[b10,q.bl],w.heap.size≤b:=λb hb=>by simp only[List.mem_cons,List.not_mem_nil,or_false] at hb;omega
    have hfin:Step [] w w14:=((((hs04.then hst10 (λb hb=>.inr (hup b hb))).trans hs11).then1 hs12 (by omega)).then1 hs13 (by omega)).then1 hs14 (by omega)
    refine Qk ⟨[.agg [vk,vd,vr,.int .i64 rn,sa,.int .i64 SA.st,sm,se,o].toArray],⟨⟨_,rfl,Qv rfl (hB14.at (L:=[]) (by simp)).cells⟩,trivial⟩,hfin,vk,vd,vr,.int .i64 rn,sa,sm,se,o,rfl,⟨QO hK,QO hDd,hvr,rfl,ho1,trivial⟩,λL hL=>?_⟩
    have h1:=hSA11 (b10::b8::L) (λb hb=>by
     simp only[List.mem_cons] at hb
     rcases hb with rfl | rfl | hb
     ·omega
     ·omega
     ·have:=hL b hb;omega)
    have h2:=((h1.st (hs12.mono (by simp))).st (hs13.mono (by simp))).st (hs14.mono (by simp))
    exact h2.up (λb hb=>.inl (by simp[hb]))
   refine Qi ?_
   have hilt:i<D.length:=by have h81:(i:Int)<(D.length:Int):=h80;omega
   have hil:i<lf.length:=by rw[hI7.n,←hDl];exact hilt
   have hlf:lf[i]'hil=lf.getD i false:=by simp[List.getD,hil]
   refine Qg<|Qh<|Qc<|Qb<|xii (i:=i) (hDA.st hs10) rfl rfl hilt λa82 h82=>?_
   refine Zc (D[i]'hilt) λd hd=>?_
   rw[hd] at h82
   refine x (Qw h82 rfl)<|x Qe<|Qf<|Qc<|Qb<|x (QE rfl)<|x (Qa rfl)<|x (Qd (hPz hst10).B rfl rfl)<|Qb<|x (QR (i:=i) rfl rfl (by omega))<|x (v:=.bool (lf.getD i false)) ((XR (i:=i) hF10 rfl hil).trans (by rw[hlf]))<|xe ?_
   refine QY rfl (λh90=>?_) (λh90=>?_)
   ·have hb10k:∀{v:Value} {l:LI} {w':World},Qt 3 w9.heap.size w' v l→b10∉ob v:=λho hm=>by have:=(Qq ho b10 hm).1;omega
    refine Qc<|x (Qa rfl)<|x (Qa rfl)<|x (Qd hB10' rfl rfl)<|Qb<|xl rfl<|QH (us:=[[.int .i64 i]]) rfl rfl (by decide) (by simp) ⟨rfl,rfl,trivial⟩ λb95 y1 hy1 hb95 hB95=>xl rfl<|Q5 (m:=1) (news:=[.int .i64 i]) (L:=[]) (Qu hK hy1) rfl rfl rfl (hB95.at (by simp)) (by simp[Value.oneCell']) (by omega) (by have:=hy1.size;omega) λvk2 y2 hoy2 hy2 hn2 =>
     x (Qa rfl)<|x (Qa rfl)<|xl rfl<|QF (j:=0) (u:=vk2) ((hB10'.ext hy1).step hy2 (hb10k hK)) rfl rfl (by simp) (QO hoy2) λy3 hy3 hB3=>xe ?_
    have hK2:Qt 3 w9.heap.size y2 vk2 (lk++[(i:Int)]):=Qt.snoc hoy2
    have hzy1:=hy1.size
    have hzy2:=hy2.size
    have hzy3:=hy3.size
    have hD2:Qt 3 w9.heap.size y2 vd ld:=Qm (Qu hDd hy1) hy2 (λb hb hm=>hdj b hm hb)
    have hdj2:Dj vk2 vd:=λb hb hm=>by
     rcases hn2 b hb with h1 | h1
     ·exact hdj b h1 hm
     ·have:=Q0 hDd b hm;omega
    have hs3':∀{v:Value} {l:LI},Qt 3 w9.heap.size y2 v l→Qt 3 w9.heap.size y3 v l:=λho=>Qm ho hy3 (λb hb hm=>by simp only[List.mem_singleton] at hm;subst hm;exact hb10k ho hb)
    have hK3:=hs3' hK2
    have hD3:=hs3' hD2
    have hs913:Step [b10] w9 y3:=(((hs10.trans hy1).then hy2 (λb hb=>.inr (Qq hK b hb).1))).trans' hy3
    refine Qx<|x (Qa rfl)<|x (Qa rfl)<|x (Qd hB3 rfl rfl)<|Qb<|xl rfl<|QH (us:=[[.int .i64 d]]) rfl rfl (by decide) (by simp) ⟨rfl,rfl,trivial⟩ λb103 y4 hy4 hb103 hB103=>xl rfl<|Q5 (m:=1) (news:=[.int .i64 d]) (L:=[]) (Qu hD3 hy4) rfl rfl rfl (hB103.at (by simp)) (by simp[Value.oneCell']) (by omega) (by have:=hy4.size;omega) λvd2 y5 hoy5 hy5 hn5 =>
     x (Qa rfl)<|x (Qa rfl)<|xl rfl<|QF (j:=1) (u:=vd2) ((hB3.ext hy4).step hy5 (hb10k hD3)) rfl rfl (by simp) (QO hoy5) λy6 hy6 hB6=>xe ?_
    have hD5:Qt 3 w9.heap.size y5 vd2 (ld++[d]):=Qt.snoc hoy5
    have hK5:Qt 3 w9.heap.size y5 vk2 (lk++[(i:Int)]):=Qm (Qu hK3 hy4) hy5 (λb hb hm=>hdj2 b hb hm)
    have hzy4:=hy4.size
    refine Qx<|x (Qy rfl rfl ⟨by omega,by omega⟩)<|Qb<|xe ?_
    refine ⟨(i+1,vk2,vd2,_,_),by simp only[];omega,⟨rfl,trivial⟩,hilt,(((hs913.trans hy4).then hy5 (λb hb=>.inr (Qq hD3 b hb).1))).trans' hy6,hB6,Qm hK5 hy6 (λb hb hm=>by simp only[List.mem_singleton] at hm;subst hm;exact hb10k hK5 hb),Qm hD5 hy6 (λb hb hm=>by simp only[List.mem_singleton] at hm;subst hm;exact hb10k hD5 hb),λb hb hm=>?_,by simp only[List.length_append,List.length_singleton];omega,by simp only[List.length_append,List.length_singleton];omega⟩
    rcases hn5 b hm with h1 | h1
    ·exact hdj2 b hb h1
    ·have:=Q0 hK3 b hb;omega
   ·refine Qi<|Qx<|x (Qy rfl rfl ⟨by omega,by omega⟩)<|Qb<|xe ?_
    exact ⟨(i+1,vk,vd,lk,ld),by simp only[];omega,⟨rfl,trivial⟩,hilt,hs10,hB10',hK,hDd,hdj,by simp only[];omega,by simp only[];omega⟩
  refine Qi ?_
  have hl0:¬l.length=0:=λe=>h48 (by show (l.length:Int)=0;omega)
  have hnl0:(nxs q.a q.unc lf).length≠0:=by rw[hnl];exact hl0
  have hless:=jR hnl0
  refine Exists.elim (Nat.exists_eq_succ_of_ne_zero (show f≠0 by omega)) λf' hfe=>?_
  subst hfe
  rw[zt hnl0,←hl7] at hres
  rw[←hl7] at hless
  refine Exists.elim (QiZ (rk:=(rank:Int)) (rs:=rs) l (λx hx=>by have:=hrg x hx;omega)) λln hln=>?_
  have hz67:=hs7.size
  refine Qg<|Qc<|Qb<|x (Qs hlA rfl)<|Qb<|xe ?_
  refine Qh<|QA (α:=Nat) [(16,16),(51,62)] (λz=>[(51,.int .i64 z)]) (λz w'=>z≤l.length∧Step [q.bl] w7 w'∧ReI b10 q w4 (((l.take z).map (·.1)).foldl cut lf) rn vr lz w') (λz=>l.length - z) (by rfl) 0 ⟨rfl,trivial⟩ ⟨Nat.zero_le _,Step.refl _ _,hI7⟩ ?_
  rintro j g w8 ⟨hj,hs8,hI8⟩
  have hrn:∀b∈ob r7,b≠q.bl:=λb hb e=>by have:=(Qq hO7 b hb).1;have:=hI.st.size;omega
  have hO8:RmO w6.heap.size w8 r7 rank rs l:=Qm hO7 hs8 (λb hb hm=>hrn b hb (by simpa using hm))
  have hlA8:Zw [q.bl] w8.heap r7 l.length 4 (l.flatMap (jJ rank rs)):=QV hO8 (by omega) (λb hb hm=>hrn b hb (by simpa using hm))
  refine Qc<|x (QB rfl rfl)<|xe ?_
  refine Qg<|QD rfl (λh52=>?_) (λh52=>?_)
  ·refine Qz ?_
   have hje:l.length≤j:=by have h53:¬(j:Int)<(l.length:Int):=h52;omega
   rw[List.take_of_length_le hje] at hI8
   obtain ⟨ad,cap7,hr7,_,hAt7⟩:∃ad cap,r7=.slice (some ad) l.length cap∧l.length≤cap∧At [q.bl] w8.heap ad (l.flatMap (jJ rank rs)):=by
    rcases hlA8.2.2 with ⟨_,h0⟩ | h1
    ·exact absurd h0 hl0
    ·exact h1
   have hlnl:ln.length*4=l.length*4:=by rw[hln.2]
   refine Qc<|x (Qa rfl)<|x (Qa rfl)<|x (Qd hI8.B10 rfl rfl)<|Qb<|xl rfl<|Q5 (m:=l.length) (news:=l.flatMap (jJ rank rs)) (L:=[q.bl]) hI8.R rfl hr7 (by rw[←hln.1,yo,hln.2]) hAt7 (by rw[←hln.1];exact Qcl ln) (by omega) hI8.st.size λv22 w22 ho22 hs22 hn22 =>
    x (Qa rfl)<|x (Qa rfl)<|xl rfl<|QF (j:=2) (u:=v22) (hI8.B10.step hs22 (λhb=>by have:=(Qq hI8.R _ hb).1;omega)) rfl rfl (by simp) (QO ho22) λw23 hs23 hB23=>xe ?_
   have hR22:RzO w4.heap.size w22 v22 (lz++ln):=RzO.snoc (by rw[hln.1,hln.2];exact ho22)
   have hI23:=hI8.app hlb hl10 hne hs22 hR22 hs23 hB23
   refine Qx<|Qb<|x (Qa rfl)<|xl rfl<|QF (j:=3) (u:=.int .i64 rank) hI23.B10 rfl rfl (by simp) rfl λw24 hs24 hB24=>xe ?_
   have hI24:=hI23.rounds hl10 hne hs24 hB24
   have hra:(-9223372036854775808:Int)≤(rank:Int)+1:=by omega
   have hrb:(rank:Int)+1≤9223372036854775807:=by omega
   refine Qx<|Qb<|x (Qy rfl rfl ⟨hra,hrb⟩)<|Qf ?_
   exact ⟨(f',rank+1,(rank:Int),v22,lz++ln,(l.map (·.1)).foldl cut lf),by simp only[];omega,⟨rfl,trivial⟩,hI24,by simp only[];omega,by simp only[List.length_append];omega,hres,by simp only[];omega⟩
  refine Qi ?_
  have hjlt:j<l.length:=by have h53:(j:Int)<(l.length:Int):=h52;omega
  have htk:l.take (j+1)=l.take j++[l[j]'hjlt]:=List.take_succ_eq_append_getElem hjlt
  have hfo:((l.take (j+1)).map (·.1)).foldl cut lf=cut (((l.take j).map (·.1)).foldl cut lf) (l[j]'hjlt).1:=by rw[htk,List.map_append,List.foldl_append];rfl
  have hxr:=hrg (l[j]'hjlt).1 (List.mem_map_of_mem (List.getElem_mem hjlt))
  refine Zc (l[j]'hjlt) λy hy=>?_
  rw[hy] at hfo hxr
  have hyn:y.1=(y.1.toNat:Int):=by omega
  refine Qg<|Qh<|Qc<|xig (g:=jJ rank rs) (i:=j) (Qcc rank rs) hlA8 rfl rfl hjlt λa53 h53=>?_
  rw[hy] at h53
  refine x (QJ h53 rfl rfl)<|xl rfl<|Qr (us:=[.int .i64 0,.int .i64 0,.int .i64 0,.int .i64 0]) rfl λb16 w9 hs9 hb16 hB16=>xl rfl<|Ql (us:=jJ rank rs y) hB16 rfl rfl rfl rfl ⟨rfl,rfl,rfl,rfl,trivial⟩ λw10 hs10 hB16=>xe ?_
  have hs810:Step [] w8 w10:=hs9.then1 hs10 hb16
  have hI10:=hI8.ext hs810
  have hnn:=hI8.n
  refine QT (Step [] w10) [(0,true),(1,true),(2,true),(3,true),(4,true),(5,true),(6,true),(7,false)] mixed (by rfl) (by kernel_rfl) (Step.drew _ _) ?_
  refine p (λ_=>Qo)<|p (λ_=>QE rfl)<|p (λ_=>Qa rfl)<|pq (λ_ hc=>Qd ((hPz hI10.st).B.ext hc) rfl rfl)<|p (λ_=>Qa rfl)<|pq (λ_ hc=>Qd (hB16.ext hc) rfl rfl) <|
   p (λ_=>QR (i:=y.1.toNat) rfl (congrArg (Value.int .i64) hyn) (by omega))<|pkl (hl:=by kernel_rfl)<|US (i:=y.1.toNat) (hI10.F.ext (Step.drew _ _)) rfl rfl (by omega) λw11 hs11 hF11=>pe ?_
  refine Qx<|x (Qy rfl rfl ⟨by omega,by omega⟩)<|Qb<|xe ?_
  refine ⟨j+1,by omega,⟨rfl,trivial⟩,hjlt,((hs8.trans hs810).trans (Step.drew _ _)).trans' hs11,?_⟩
  rw[hfo]
  exact (hI10.ext (Step.drew _ _)).cut hlb hne hs11 hF11 (by rw[QcL];exact hnn)
 refine Qi ?_
 have hklt:k<forb.length:=by have h27:(k:Int)<(forb.length:Int):=h26;omega
 have hxk:=hfb _ (List.getElem_mem hklt)
 refine Zc (forb[k]'hklt) λy hy=>?_
 rw[hy] at hxk
 refine Qg<|Qh<|Qc<|xii (i:=k) hf5 rfl rfl hklt λa27 h27=>?_
 rw[hy] at h27
 refine x (Qw h27 rfl)<|Qf<|Qc<|x (Qa rfl)<|x (Qa rfl)<|x (Qd hI.B10 rfl rfl)<|Qb<|x (QN ⟨rfl,rfl,rfl,rfl,trivial⟩)<|xl rfl<|QH (us:=[[.int .i64 y,.int .i64 1,.int .i64 1,.int .i64 (-1)]]) rfl rfl (by decide) (by simp) ⟨rfl,rfl,trivial⟩ λb34 w6 hs6 hb34 hB34=>?_
 have hI6:=hI.ext hs6
 refine xl rfl<|Q5 (m:=1) (news:=[.int .i64 y,.int .i64 1,.int .i64 1,.int .i64 (-1)]) (L:=[]) hI6.R rfl rfl rfl (hB34.at (by simp)) (by simp[Value.oneCell']) (by omega) hI6.st.size λv7 w7 ho7 hs7 hn7 =>
  x (Qa rfl)<|x (Qa rfl)<|xl rfl<|QF (j:=2) (u:=v7) (hI6.B10.step hs7 (λhb=>by have:=(Qq hI6.R _ hb).1;omega)) rfl rfl (by simp) (QO ho7) λw8 hs8 hB8'=>xe ?_
 have hR7:RzO w4.heap.size w7 v7 (lz++[⟨(y,1,1,-1),by simp only[];omega⟩]):=RzO.snoc ho7
 have hI8:=hI6.app hlb hl10 hne hs7 hR7 hs8 hB8'
 refine Qx<|x (Qa rfl)<|xl rfl<|QF (j:=3) (u:=.int .i64 1) hI8.B10 rfl rfl (by simp) rfl λw9 hs9 hB9=>xe ?_
 have hI9:=hI8.rounds hl10 hne hs9 hB9
 refine Qx<|x (Qy rfl rfl ⟨by omega,by omega⟩)<|Qb<|xe ?_
 exact ⟨(k+1,1,v7,_),by simp only[];omega,⟨rfl,trivial⟩,hklt,hI9,by simp only[List.length_append,List.length_singleton];omega,.inr rfl⟩
instance:Bw prog 163 (Y5 (nS) (nS) (nS) 0) [(0,3),(3,1),(4,4),(8,1)]:=⟨by kernel_rfl,by decide⟩
theorem Qjq {c:ZB}{pl:QM}{ps:List (LI)}{l:List (LI)}:∀r∈spF c pl ps l,0≤r.st∧r.st<(l.length:Int):=λr hr=>by
 unfold spF at hr
 obtain ⟨⟨t,i⟩,hp,h1⟩:=List.mem_filterMap.1 hr
 have hi:=List.snd_lt_add_of_mem_zipIdx hp
 simp only[Nat.zero_add] at hi
 have h2:r.st=(i:Int):=by
  simp only[] at h1
  unfold rsn at h1
  split at h1
  ·cases h1;rfl
  ·split at h1
   ·cases h1;rfl
   ·cases h1
 omega
theorem Qes {c:ZB}(h:Y4 c=0):Q2 (spc c).a∧(∀x∈fbs (spc c),0≤x∧x<(spc c).a.st)∧(fbs (spc c)).length≤4096∧(spc c).fb.length≤4096∧Jt c.ev=0:=by
 unfold Y4 at h
 by_cases h1:Zh c≠0
 ·rw[if_pos h1] at h;exact absurd h h1
 rw[if_neg h1] at h
 have hck:Zh c=0:=Decidable.not_not.1 h1
 have hok:=ZP hck
 by_cases h2:JB (auts c.co)≠0
 ·rw[if_pos h2] at h;exact absurd h h2
 rw[if_neg h2] at h
 cases hs:sync (auts c.co) with
 | none=>rw[hs] at h;cases h
 | some z =>
  rw[hs] at h
  simp only[] at h
  by_cases h3:JB (auts c.co++auts c.rq)≠0
  ·rw[if_pos h3] at h;exact absurd h h3
  rw[if_neg h3] at h
  cases hs2:sync (auts c.co++auts c.rq) with
  | none=>rw[hs2] at h;cases h
  | some y =>
   have ho:∀a∈auts c.co++auts c.rq,Q2 a:=λa ha=>by
    rcases List.mem_append.1 ha with ha | ha
    ·exact Y3 hok.co a ha
    ·exact Y3 hok.rq a ha
   have hsp:=(Xk ho (A:=y.1) (Q:=y.2) hs2).1
   have he:=Qet (c:=c) (pl:=z.1) (ps:=z.2) (sa:=y.1) (ts:=y.2) hs hs2
   have hl:=Qb9 c z.1 z.2 y.2
   have hle:=hsp.le
   rw[he]
   unfold fbs
   refine ⟨hsp.okay ho,λx hx=>?_,by rw[List.length_map];simp only[];omega,by simp only[];omega,hok.e0⟩
   obtain ⟨r,hr,rfl⟩:=List.mem_map.1 hx
   have:=Qjq r hr
   rw[hsp.st];exact this
theorem st4 (r:Rsn):(Yo r).length=4:=rfl
set_option maxHeartbeats 4000000 in
theorem Qa0 {L:LN}{w:World}{c:CL}(h0:ZH L w.heap c) (hkb:Kb w 4096) :
  QG prog 84 [c.val] w λr w'=>Step [] w w'∧∃us c0 c1 c2 c3 sa sm se o,r=.tuple #[.agg us.toArray,.agg #[c0,c1,c2,c3,sa,.int .i64 (if Y4 c.cel=0 then (Un c.cel).st else 0),sm,se,o],.int .i64 (Y4 c.cel)]∧us.length=8∧ZD us∧ZD [c0,c1,c2,c3,sa,sm,se,o] ∧
   (Y4 c.cel≠0→sa=nS∧sm=nS∧se=nS)∧(Y4 c.cel=0→∀L:LN,(∀b∈L,b<w.heap.size)→Zm L w'.heap sa sm se (Un c.cel)):=by
 have h:=h0.up (L':=[]) (by simp)
 have hsu:Un c.cel=JG (spc c.cel).a (fbs (spc c.cel)) (unc c.cel.ev):=rfl
 have hev:c.cel.ev=c.ev:=rfl
 have hsk:=Qes (c:=c.cel)
 refine Zc (Un c.cel) λSA hSA=>?_
 rw[hSA] at hsu ⊢
 have hsp0:=qJ (h.ext (Step.refl [] w)) hkb
 refine Zc (Y4 c.cel) λE hE=>?_
 rw[hE] at hsk ⊢
 refine Zc (spc c.cel) λS hS=>?_
 rw[hS] at hsk hsu
 rw[hev] at hsk hsu
 refine QG.of_W func84 rfl ntmps84 results84 (by simp) ?_
 refine Qc<|xl rfl<|QQ (us:=c.cells) rfl λb1 w1 hs1 hb1 hB1=>xl rfl<|Qr (us:=[nS,.int .i64 0,nS,nS,nS,nS,nS,nS]) rfl λb2 w2 hs2 hb2 hB2=>xl rfl<|Qr (us:=Y5 (nS) (nS) (nS) 0) rfl λb3 w3 hs3 hb3 hB3=>Qf ?_
 have hs03:=(hs1.trans hs2).trans hs3
 have hz1:=hs1.size
 have hz2:=hs2.size
 have hz3:=hs3.size
 have hl2:=hB2.lt
 have hl3:=hB3.lt
 have hsp:=qJ (h.ext hs03) (hkb.ext hs03)
 rw[hE,hS] at hsp
 refine Qc<|x (Qn ((hB1.ext hs2).ext hs3) rfl rfl)<|xl rfl<|xf<|hsp.mono ?_
 rintro r4 w4 ⟨hs4,v,rfl,⟨us,rfl,hul,huo⟩,hF⟩
 have hz4:=hs4.size
 refine Qb<|x (Qj rfl rfl)<|x (Qj rfl rfl)<|xl rfl<|Qr (us:=[nS,.int .i64 0,nS,nS,nS,nS,nS,nS]) rfl λb5 w5 hs5 hb5 hB5=>xl rfl<|Ql (us:=us) hB5 rfl rfl hul rfl huo λw6 hs6 hB5=>Qf ?_
 have hs46:Step [] w4 w6:=hs5.then1 hs6 hb5
 have hz46:=hs46.size
 have hs06:=(hs03.trans hs4).trans hs46
 have hB2':=(hB2.ext (hs3.trans hs4)).ext hs46
 have hB3':=(hB3.ext hs4).ext hs46
 have hl5:=hB5.lt
 refine Qg<|Qc<|Qb<|x (Q4 rfl rfl)<|xe ?_
 refine Q3 rfl (λh17=>?_) (λh17=>?_)
 ·refine Qc<|x (Zx [] trivial)<|x (Zx [] trivial)<|Qb<|xl rfl<|Ql (us:=[nS,.int .i64 0,nS,nS,nS,nS,nS,nS]) hB2' rfl rfl rfl rfl ⟨rfl,rfl,rfl,rfl,rfl,rfl,rfl,rfl,trivial⟩ λw7 hs7 hB2'' =>
   xl rfl<|Ql (us:=Y5 (nS) (nS) (nS) 0) (hB3'.step hs7 (by simp only[List.mem_singleton];omega)) rfl rfl rfl rfl ⟨rfl,rfl,rfl,rfl,rfl,rfl,rfl,rfl,rfl,trivial⟩ λw8 hs8 hB3''=>Qf<|Qk ⟨[.agg [nS,.int .i64 0,nS,nS,nS,nS,nS,nS].toArray,.agg (Y5 (nS) (nS) (nS) 0).toArray,.int .i64 E],⟨⟨_,rfl,Qv rfl ((hB2''.step hs8 (by simp only[List.mem_singleton];omega)).at (L:=[]) (by simp)).cells⟩,⟨_,rfl,Qv rfl (hB3''.at (L:=[]) (by simp)).cells⟩,rfl,trivial⟩,(hs06.then1 hs7 (by omega)).then1 hs8 (by omega),[nS,.int .i64 0,nS,nS,nS,nS,nS,nS],nS,nS,nS,.int .i64 0,nS,nS,nS,nS,by rw[if_neg h17];rfl,rfl,⟨rfl,rfl,rfl,rfl,rfl,rfl,rfl,rfl,trivial⟩,⟨rfl,rfl,rfl,rfl,rfl,rfl,rfl,rfl,trivial⟩,λ_=>⟨rfl,rfl,rfl⟩,λe=>absurd e h17⟩
 have hE0:E=0:=Decidable.not_not.1 h17
 obtain ⟨hSok,hSf,hSl,hSl2,hevk⟩:=hsk hE0
 obtain ⟨va,vm,ve,v1,v2,v3,v4,cos,rqs,hve,_,_,hSL⟩:=hF hE0
 have hue:us=[va,.int .i64 S.a.st,vm,ve,v1,v2,v3,v4]:=by
  have h1:=congrArg (λv=>match v with | Value.agg a=>a.toList | _=>[]) hve
  simpa using h1
 subst hue
 have hS6:=(hSL [] (by simp))
 have hA6:=hS6.1.ext hs46
 have hfb6:=hS6.2.2.2.2.ext hs46
 refine Qi<|Qc<|Qf<|Qg<|Qc<|x (Qa rfl)<|x (Qd hB5 rfl rfl)<|x (Qs hfb6 rfl)<|Qb<|xe ?_
 refine Qh<|QA (α:=Nat×Value) [(7,7),(9,9),(24,33)] (λz=>[(7,z.2),(24,.int .i64 z.1)]) (λz w'=>z.1≤S.fb.length∧Step [] w6 w'∧Qt 3 w6.heap.size w' z.2 ((S.fb.take z.1).map (·.st))) (λz=>S.fb.length - z.1) (by rfl) (0,nS) ⟨rfl,rfl,trivial⟩ ⟨Nat.zero_le _,Step.refl _ _,QP _ _ _ _⟩ ?_
 rintro ⟨k,vf⟩ g w7 ⟨hk,hs7,hO7⟩
 simp only[] at hk hO7
 refine Qc<|x (QB rfl rfl)<|xe ?_
 refine Qg<|QD rfl (λh25=>?_) (λh25=>?_)
 ·refine Qz ?_
  have hke:S.fb.length≤k:=by have h26:¬(k:Int)<(S.fb.length:Int):=h25;omega
  rw[List.take_of_length_le hke] at hO7
  have hO7:Qt 3 w6.heap.size w7 vf (fbs S):=hO7
  have hs07:=hs06.trans hs7
  have hz7:=hs7.size
  refine Qc<|x (Qa rfl)<|x (Qd ((hB1.ext (hs2.trans hs3)).ext ((hs4.trans hs46).trans hs7)) rfl rfl)<|xl rfl<|xf<|(V0 (h.ev.ext hs07)).mono ?_
  rintro r10 w10 ⟨hs10,vu,rfl,hU⟩
  rw[if_pos hevk] at hU
  refine Qb<|x (Qj rfl rfl)<|x (Qj rfl rfl)<|x Qe<|Qf<|Qg<|Qc<|Qb<|x (Q4 rfl rfl)<|xe ?_
  refine Q3 rfl (λh41=>absurd hevk h41) (λ_=>?_)
  refine Qi ?_
  have hul:(unc c.ev).length≤1099511627776:=Nat.le_trans (Kd _ c.ev 0) h.ev.arr.le
  have hs710:=hs7.trans hs10
  have hA10:=hA6.ext hs710
  have hd10:Step [] w10 { w10 with drawn:=w10.drawn+1 }:=Step.drew _ _
  have hB5':=hB5.ext hs710
  have hb52:b5∉[b2]:=by simp only[List.mem_singleton];omega
  have hz710:=hs710.size
  refine Qg<|QT (Step [b2] w10) [(0,true),(1,true),(2,true),(3,true),(4,true),(5,false),(6,false),(7,false),(8,true)] mixed (by rfl) (by kernel_rfl) (Step.drew _ _) ?_
  refine pq (λ_ hc=>Qn (hB5'.step hc hb52) rfl rfl)<|p (λ_=>Qa rfl)<|pq (λ_ hc=>Zv (us:=[va,.int .i64 S.a.st,vm,ve]) (hB5'.step hc hb52) rfl rfl rfl) <|
   p (λ_=>Qo)<|p (λ_=>Qo)<|pk<|xf<|(zr (hA10.ext hd10) hSok (((Qt.ints (L:=[]) hO7 (by omega) (by simp)).ext hs10).ext hd10) hSf hSl ((Qt.ints (L:=[]) hU hul (by simp)).ext hd10)).mono ?_
  rintro r13 w13 ⟨hs13,c0,c1,c2,c3,sa,sm,se,o,rfl,hones,hSA13⟩
  have hs1013:=hd10.trans hs13
  have hz13:=hs1013.size
  refine ⟨hs1013.any,?_⟩
  have hse:JG S.a (fbs S) (unc c.ev)=SA:=hsu.symm
  rw[hse] at hSA13
  have hS0:=hSA13 [] (by simp)
  refine pk<|Ql (us:=[va,.int .i64 S.a.st,vm,ve,v1,v2,v3,v4]) ((hB2'.ext hs710).ext hs1013) rfl rfl rfl rfl huo λw14 hs14 hB2=>⟨hs1013.any.trans' hs14,?_⟩
  refine pkl (hl:=by kernel_rfl)<|Ql (us:=[c0,c1,c2,c3,sa,.int .i64 SA.st,sm,se,o]) (((hB3'.ext hs710).ext hs1013).step hs14 (by simp only[List.mem_singleton];omega)) rfl (by rw[←hse];rfl) rfl rfl ⟨hones.1,hones.2.1,hones.2.2.1,hones.2.2.2.1,hS0.al.one,rfl,hS0.mr.one,hS0.ed.one,hones.2.2.2.2.1,trivial⟩ λw15 hs15 hB3=>p (λ_=>Qe)<|pe ?_
  have hb23:b2∉[b3]:=by simp only[List.mem_singleton];omega
  refine Qk ⟨[.agg [va,.int .i64 S.a.st,vm,ve,v1,v2,v3,v4].toArray,.agg [c0,c1,c2,c3,sa,.int .i64 SA.st,sm,se,o].toArray,.int .i64 0],⟨⟨_,rfl,Qv rfl ((hB2.step hs15 hb23).at (L:=[]) (by simp)).cells⟩,⟨_,rfl,Qv rfl (hB3.at (L:=[]) (by simp)).cells⟩,rfl,trivial⟩,
   (((hs06.trans hs710).trans hs1013).then1 hs14 (by omega)).then1 hs15 (by omega),_,c0,c1,c2,c3,sa,sm,se,o,by rw[hE0,if_pos rfl];rfl,rfl,huo,⟨hones.1,hones.2.1,hones.2.2.1,hones.2.2.2.1,hS0.al.one,hS0.mr.one,hS0.ed.one,hones.2.2.2.2.1,trivial⟩,λe=>absurd hE0 e,λ_ L hL=>?_⟩
  have hz06:=hs06.size
  have h1:=hSA13 (b2::b3::L) (λb hb=>by
   have hzd:({ w10 with drawn:=w10.drawn+1 }:World).heap.size=w10.heap.size:=rfl
   simp only[List.mem_cons] at hb
   rcases hb with rfl | rfl | hb
   ·omega
   ·omega
   ·have:=hL b hb;omega)
  exact ((h1.st (hs14.mono (by simp))).st (hs15.mono (by simp))).up (λb hb=>.inl (by simp[hb]))
 refine Qi ?_
 have hlt:k<S.fb.length:=by have h26:(k:Int)<(S.fb.length:Int):=h25;omega
 have htk:S.fb.take (k+1)=S.fb.take k++[S.fb[k]'hlt]:=List.take_succ_eq_append_getElem hlt
 have hml:((S.fb.take k).map (·.st)).length=k:=by rw[List.length_map,List.length_take];omega
 refine Zc (S.fb[k]'hlt) λr hr=>?_
 rw[hr] at htk
 refine Qg<|Qh<|Qc<|xig (g:=Yo) (i:=k) st4 (hfb6.ext hs7) rfl rfl hlt λa26 h26=>?_
 rw[hr] at h26
 refine x (QJ h26 rfl rfl)<|xl rfl<|Qr (us:=[.int .i64 0,.int .i64 0,.int .i64 0,.int .i64 0]) rfl λb9 w8 hs8 hb9 hB9=>xl rfl<|Ql (us:=Yo r) hB9 rfl rfl rfl rfl ⟨rfl,rfl,rfl,rfl,trivial⟩ λw9 hs9 hB9=>xe ?_
 have hs79:Step [] w7 w9:=hs8.then1 hs9 hb9
 have hz79:=hs79.size
 have hz7:=hs7.size
 refine Qx<|Qb<|x (Qa rfl)<|x (Qd hB9 rfl rfl)<|xl rfl<|QH (us:=[[.int .i64 r.st]]) rfl rfl (by decide) (by simp) ⟨rfl,rfl,trivial⟩ λb31 w10 hs10 hb31 hB31 =>
  xl rfl<|Q5 (m:=1) (news:=[.int .i64 r.st]) (L:=[]) (Qu hO7 (hs79.trans hs10)) rfl rfl rfl (hB31.at (by simp)) (by simp[Value.oneCell']) (by omega) (by have:=hs10.size;omega) λv19 w11 ho11 hs11 hn11=>Qf<|Qx<|x (Qy rfl rfl ⟨by omega,by omega⟩)<|Qb<|xe ?_
 refine ⟨(k+1,v19),by simp only[];omega,⟨rfl,rfl,trivial⟩,hlt,((hs7.trans hs79).trans hs10).then hs11 (λb hb=>.inr (Qq hO7 b hb).1),?_⟩
 simp only[]
 rw[htk,List.map_append]
 exact Qt.snoc ho11
theorem Kz {L:LN}{w:World}{c:CL}(h0:ZH L w.heap c) (hkb:Kb w 4096) :
  QG prog 33 [c.val] w λr w'=>Step [] w w'∧∃sa sm se,r=.tuple #[.agg #[sa,.int .i64 (if Y4 c.cel=0 then (Un c.cel).st else 0),sm,se],.int .i64 (suE c.cel)]∧ZD [sa,sm,se] ∧
   (suE c.cel≠0→sa=nS∧sm=nS∧se=nS)∧(suE c.cel=0→∀L:LN,(∀b∈L,b<w.heap.size)→Zm L w'.heap sa sm se (Un c.cel)):=by
 have h:=h0.up (L':=[]) (by simp)
 have hsu:suE c.cel=Y4 c.cel:=rfl
 rw[hsu]
 refine QG.of_W func33 rfl ntmps33 results33 (by simp) ?_
 refine Qc<|xl rfl<|QQ (us:=c.cells) rfl λb1 w1 hs1 hb1 hB1=>xl rfl<|Qr (us:=[nS,.int .i64 0,nS,nS]) rfl λb2 w2 hs2 hb2 hB2=>Qf ?_
 have hs02:=hs1.trans hs2
 have hz1:=hs1.size
 have hz2:=hs2.size
 have hl2:=hB2.lt
 refine Qc<|x (Qn (hB1.ext hs2) rfl rfl)<|xl rfl<|xf<|(Qa0 (h.ext hs02) (hkb.ext hs02)).mono ?_
 rintro r3 w3 ⟨hs3,us,c0,c1,c2,c3,sa,sm,se,o,rfl,hul,huo,hones,hbad,hgood⟩
 refine Zc (if Y4 c.cel=0 then (Un c.cel).st else 0) λN hN=>?_
 rw[hN]
 have hz3:=hs3.size
 refine Qb<|x (Qj rfl rfl)<|x (Qj rfl rfl)<|x (Qj rfl rfl)<|xl rfl<|Qr (us:=[nS,.int .i64 0,nS,nS,nS,nS,nS,nS]) rfl λb4 w4 hs4 hb4 hB4=>xl rfl<|Qr (us:=Y5 (nS) (nS) (nS) 0) rfl λb5 w5 hs5 hb5 hB5 =>
  xl rfl<|Ql (us:=us) (hB4.ext hs5) rfl rfl hul rfl huo λw6 hs6 hB4'=>xl rfl<|Ql (us:=[c0,c1,c2,c3,sa,.int .i64 N,sm,se,o]) (hB5.step hs6 (by have:=hB4.lt;simp only[List.mem_singleton];omega)) rfl rfl rfl rfl ⟨hones.1,hones.2.1,hones.2.2.1,hones.2.2.2.1,hones.2.2.2.2.1,rfl,hones.2.2.2.2.2.1,hones.2.2.2.2.2.2.1,hones.2.2.2.2.2.2.2.1,trivial⟩ λw7 hs7 hB5'=>Qf ?_
 have hl4:=hB4.lt
 have hz4:=hs4.size
 have hz5:=hs5.size
 have hs37:Step [] w3 w7:=((hs4.trans hs5).then1 hs6 (by omega)).then1 hs7 (by omega)
 have hz37:=hs37.size
 refine Qc<|x (Qa rfl)<|x (Zv (us:=[sa,.int .i64 N,sm,se]) hB5' rfl rfl rfl)<|Qb<|xl rfl<|Ql (us:=[sa,.int .i64 N,sm,se]) ((hB2.ext hs3).ext hs37) rfl rfl rfl rfl ⟨hones.2.2.2.2.1,rfl,hones.2.2.2.2.2.1,hones.2.2.2.2.2.2.1,trivial⟩ λw8 hs8 hB2=>Qf<|Qk ⟨[.agg [sa,.int .i64 N,sm,se].toArray,.int .i64 (Y4 c.cel)],⟨⟨_,rfl,Qv rfl (hB2.at (L:=[]) (by simp)).cells⟩,rfl,trivial⟩,((hs02.trans hs3).trans hs37).then1 hs8 (by omega),sa,sm,se,rfl,⟨hones.2.2.2.2.1,hones.2.2.2.2.2.1,hones.2.2.2.2.2.2.1,trivial⟩,hbad,λe L hL=>?_⟩
 have h1:=hgood e (b2::L) (λb hb=>by
  simp only[List.mem_cons] at hb
  rcases hb with rfl | hb
  ·omega
  ·have:=hL b hb;omega)
 exact ((h1.ext hs37).st (hs8.mono (by simp))).up (λb hb=>.inl (by simp[hb]))
theorem jp {L:LN}{w:World}{va vm ve vf vu:Value}{a:QM}{fb ul:LI}(h:Zm L w.heap va vm ve a) (hf:QL L w.heap vf fb) (hu:QL L w.heap vu ul) :
  QG prog 125 [.agg #[va,.int .i64 a.st,vm,ve],vf,vu] w λr w'=>r=.int .i64 (KG a fb ul)∧Step [] w w':=by
 have hr:KG a fb ul=if Y2 a≠0 then Y2 a else if YK a.st none fb≠0 then YK a.st none fb else YK 32 none ul:=rfl
 refine Zc (KG a fb ul) λE hE=>?_
 rw[hE] at hr ⊢
 refine QG.of_W func125 rfl ntmps125 results125 (by simp) ?_
 refine Qc<|xl rfl<|QQ (us:=[va,.int .i64 a.st,vm,ve]) rfl λb3 w1 hs1 hb3 hB3=>Qf<|Qg<|Qc<|x (Qn hB3 rfl rfl)<|xl rfl<|xf<|(YR (h.ext hs1)).mono ?_
 rintro r2 w2 ⟨rfl,hs2⟩
 have hs02:=hs1.trans hs2
 refine Qf<|Qc<|Qb<|x (Q4 rfl rfl)<|xe ?_
 refine Q3 rfl (λh12=>?_) (λh12=>?_)
 ·rw[if_pos h12] at hr
  subst hr
  refine Qc<|Qb<|Qf ?_
  exact Qk ⟨[_],⟨rfl,trivial⟩,rfl,hs02⟩
 rw[if_neg h12] at hr
 refine Qi<|Qg<|Qc<|Qb<|x (Qa rfl)<|x (Qd (hB3.ext hs2) rfl rfl)<|xl rfl<|xf<|(J7 (hf.ext hs02) _).mono ?_
 rintro r3 w3 ⟨rfl,rfl⟩
 refine Qf<|Qc<|Qb<|x (Q4 rfl rfl)<|xe ?_
 refine Q3 rfl (λh19=>?_) (λh19=>?_)
 ·rw[if_pos h19] at hr
  subst hr
  refine Qc<|Qb<|Qf ?_
  exact Qk ⟨[_],⟨rfl,trivial⟩,rfl,hs02⟩
 rw[if_neg h19] at hr
 subst hr
 refine Qi<|Qc<|Qb<|xl rfl<|xf<|(J7 (hu.ext hs02) _).mono ?_
 rintro r4 w4 ⟨rfl,rfl⟩
 refine Qf ?_
 exact Qk ⟨[_],⟨rfl,trivial⟩,rfl,hs02⟩
theorem Ky {L:LN}{w:World}{va vm ve vf vu:Value}{a:QM}{fb ul:LI}(h0:Zm L w.heap va vm ve a) (hf0:QL L w.heap vf fb) (hu0:QL L w.heap vu ul) :
  QG prog 73 [.agg #[va,.int .i64 a.st,vm,ve],vf,vu] w λr w'=>Step [] w w'∧∃c0 c1 c2 c3 sa sm se o,r=.tuple #[.agg #[c0,c1,c2,c3,sa,.int .i64 (if KG a fb ul=0 then (JG a fb ul).st else 0),sm,se,o],.int .i64 (KG a fb ul)]∧ZD [c0,c1,c2,c3,sa,sm,se,o] ∧
   (KG a fb ul≠0→sa=nS∧sm=nS∧se=nS)∧(KG a fb ul=0→∀L:LN,(∀b∈L,b<w.heap.size)→Zm L w'.heap sa sm se (JG a fb ul)):=by
 have h:=h0.up (L':=[]) (by simp)
 have hf:=hf0.up (L':=[]) (by simp)
 have hu:=hu0.up (L':=[]) (by simp)
 refine QG.of_W func73 rfl ntmps73 results73 (by simp) ?_
 refine Qc<|xl rfl<|QQ (us:=[va,.int .i64 a.st,vm,ve]) rfl λb3 w1 hs1 hb3 hB3=>xl rfl<|Qr (us:=Y5 (nS) (nS) (nS) 0) rfl λb6 w2 hs2 hb6 hB6=>Qf ?_
 have hs02:=hs1.trans hs2
 have hz1:=hs1.size
 have hl6:=hB6.lt
 refine Qg<|Qc<|x (Qn (hB3.ext hs2) rfl rfl)<|Qb<|Qb<|xl rfl<|xf<|(jp (h.ext hs02) (hf.ext hs02) (hu.ext hs02)).mono ?_
 rintro r3 w3 ⟨rfl,hs3⟩
 have hs03:=hs02.trans hs3
 have hz3:=hs3.size
 refine Qf<|Qc<|Qb<|x (Q4 rfl rfl)<|xe ?_
 refine Q3 rfl (λh14=>?_) (λh14=>?_)
 ·refine Qc<|x (Zx [] trivial)<|Qb<|xl rfl<|Ql (us:=Y5 (nS) (nS) (nS) 0) (hB6.ext hs3) rfl rfl rfl rfl ⟨rfl,rfl,rfl,rfl,rfl,rfl,rfl,rfl,rfl,trivial⟩ λw4 hs4 hB6=>Qf<|Qk ⟨[.agg (Y5 (nS) (nS) (nS) 0).toArray,.int .i64 (KG a fb ul)],⟨⟨_,rfl,Qv rfl (hB6.at (L:=[]) (by simp)).cells⟩,rfl,trivial⟩,hs03.then1 hs4 (by omega),nS,nS,nS,.int .i64 0,nS,nS,nS,nS,by rw[if_neg h14];rfl,⟨rfl,rfl,rfl,rfl,rfl,rfl,rfl,rfl,trivial⟩,λ_=>⟨rfl,rfl,rfl⟩,λe=>absurd e h14⟩
 have hE0:KG a fb ul=0:=Decidable.not_not.1 h14
 have hck:Y2 a=0∧YK a.st none fb=0:=by
  unfold KG at hE0
  by_cases h1:Y2 a≠0
  ·rw[if_pos h1] at hE0;exact absurd hE0 h1
  ·rw[if_neg h1] at hE0
   by_cases h2:YK a.st none fb≠0
   ·rw[if_pos h2] at hE0;exact absurd hE0 h2
   ·exact ⟨Decidable.not_not.1 h1,Decidable.not_not.1 h2⟩
 have hok:=(Zs a).1 hck.1
 have hfs:=(Z1 a.st fb none).1 hck.2
 have hfl:fb.length≤4096:=by have:=Xw fb 0 a.st hfs.2.1 hfs.1;have:=hok.st1;omega
 refine Qi<|Qc<|x (Qn (hB3.ext (hs2.trans hs3)) rfl rfl)<|Qb<|Qb<|xl rfl<|xf<|(zr (h.ext hs03) hok (hf.ext hs03) hfs.1 hfl (hu.ext hs03)).mono ?_
 rintro r5 w5 ⟨hs5,c0,c1,c2,c3,sa,sm,se,o,rfl,hones,hSA⟩
 have hS0:=hSA [] (by simp)
 have hz5:=hs5.size
 refine xl rfl<|Ql (us:=[c0,c1,c2,c3,sa,.int .i64 (JG a fb ul).st,sm,se,o]) ((hB6.ext hs3).ext hs5) rfl rfl rfl rfl ⟨hones.1,hones.2.1,hones.2.2.1,hones.2.2.2.1,hS0.al.one,rfl,hS0.mr.one,hS0.ed.one,hones.2.2.2.2.1,trivial⟩ λw6 hs6 hB6=>Qf<|Qk ⟨[.agg [c0,c1,c2,c3,sa,.int .i64 (JG a fb ul).st,sm,se,o].toArray,.int .i64 0],⟨⟨_,rfl,Qv rfl (hB6.at (L:=[]) (by simp)).cells⟩,rfl,trivial⟩,(hs03.trans hs5).then1 hs6 (by omega),c0,c1,c2,c3,sa,sm,se,o,by rw[if_pos hE0,hE0];rfl,⟨hones.1,hones.2.1,hones.2.2.1,hones.2.2.2.1,hS0.al.one,hS0.mr.one,hS0.ed.one,hones.2.2.2.2.1,trivial⟩,λe=>absurd hE0 e,λ_ L hL=>?_⟩
 have hz03:=hs03.size
 have h1:=hSA (b6::L) (λb hb=>by
  simp only[List.mem_cons] at hb
  rcases hb with rfl | hb
  ·omega
  ·have:=hL b hb;omega)
 exact (h1.st (hs6.mono (by simp))).up (λb hb=>.inl (by simp[hb]))
end Go.Proofs.YtgmifemhkjdblaaGreatDoor
namespace Go.Lg
theorem At.from {L:LN}{H:Array Obj}{a:Addr}{us:LV}(h:At L H a us) (j:Nat):At L H (a.add j) (us.drop j) :=
 ⟨by rw[Z2];exact h.out,by rw[Z2];exact h.lt,λi v hv=>by
  rw[Addr.add_add];exact h.cell (j+i) v (by rw[←List.getElem?_drop];exact hv)⟩
end Go.Lg
namespace Go.Proofs.YtgmifemhkjdblaaGreatDoor
open Tryz
open Go.Lg
def lwB (l:LI) (n:Int):Nat:=(l.filter λx=>decide (x<n)).length
theorem QjG {l:LI}{n:Int}{i:Nat}(_:Yt l) (hi:i≤l.length) (h1:∀m (hm:m<l.length),m<i→l[m]<n) (h2:∀m (hm:m<l.length),i≤m→n≤l[m]):lwB l n=i:=by
 unfold lwB
 have e1:(l.take i).filter (λx=>decide (x<n))=l.take i:=List.filter_eq_self.2 λx hx=>by
  obtain ⟨m,hm,rfl⟩:=List.getElem_of_mem hx
  rw[List.getElem_take]
  have hm':m<i∧m<l.length:=by rw[List.length_take] at hm;omega
  exact decide_eq_true (h1 m hm'.2 hm'.1)
 have e2:(l.drop i).filter (λx=>decide (x<n))=[]:=List.filter_eq_nil_iff.2 λx hx=>by
  obtain ⟨m,hm,rfl⟩:=List.getElem_of_mem hx
  rw[List.getElem_drop]
  have hm':i+m<l.length:=by rw[List.length_drop] at hm;omega
  have:=h2 (i+m) hm' (by omega)
  simp;omega
 have e3:l.filter (λx=>decide (x<n))=l.take i:=by
  conv=>lhs;rw[←List.take_append_drop i l]
  rw[List.filter_append,e1,e2,List.append_nil]
 rw[e3,List.length_take];omega
theorem Qcq:∀{l:LI}{n:Int},Yt l→n∈l→lwB l n=l.idxOf n
 | [],_,_,h=>by cases h
 | a::l,n,hi,h=>by
  have hi':=List.pairwise_cons.1 hi
  unfold lwB
  by_cases e:a=n
  ·subst e
   have e2:l.filter (λx=>decide (x<a))=[]:=List.filter_eq_nil_iff.2 λx hx=>by have:=hi'.1 x hx;simp;omega
   rw[List.filter_cons,if_neg (by simp),e2]
   simp
  ·have hm:n∈l:=by
    rcases List.mem_cons.1 h with h1 | h1
    ·exact absurd h1.symm e
    ·exact h1
   have ih:=Qcq hi'.2 hm
   unfold lwB at ih
   have ha:=hi'.1 n hm
   rw[List.filter_cons,if_pos (decide_eq_true ha),List.length_cons,ih,List.idxOf_cons]
   have:(a == n)=false:=by simpa using e
   rw[this];rfl
theorem QaD {L:LN}{w:World}{v:Value}{l:LI}(h:QL L w.heap v l) (hi:Yt l) (n:Int) :
  QG prog 110 [v,.int .i64 n] w λr w'=>w'=w∧r=.tuple #[.int .i64 (lwB l n),.bool (decide (n∈l))]:=by
 have hle:=h.le
 refine QG.of_W func110 rfl ntmps110 results110 (by simp) ?_
 refine Qc<|x Qe<|Qf<|Qc<|Qb<|x (Qs h rfl)<|Qf<|Qc<|Qb<|x Qe<|Qf<|Qg<|Qh<|QA (α:=Nat×Nat) [(7,9),(13,30)] (λz=>[(7,.int .i64 z.1),(8,.int .i64 z.2)])
  (λz w'=>w'=w∧z.1≤z.2∧z.2≤l.length∧(∀m (hm:m<l.length),m<z.1→l[m]<n)∧(∀m (hm:m<l.length),z.2≤m→n≤l[m])) (λz=>z.2 - z.1) (by rfl) (0,l.length) ⟨rfl,rfl,trivial⟩
  ⟨rfl,Nat.zero_le _,Nat.le_refl _,λm _ h0=>absurd h0 (Nat.not_lt_zero m),λm h1 h0=>absurd h1 (by simp only[] at h0;omega)⟩ ?_
 rintro ⟨i,j⟩ g w1 ⟨rfl,hij,hj,hlo,hhi⟩
 simp only[] at hij hj hlo hhi
 refine Qg<|Qc<|Qb<|Qb<|x (QB rfl rfl)<|xe ?_
 refine QD rfl (λh15=>?_) (λh15=>?_)
 ·have e:i=j:=by omega
  subst e
  refine Qz ?_
  refine QW (α:=Bool) [(4,5),(31,53)] (λz=>[(4,.int .i64 i),(5,.bool z)]) (λz w'=>w'=w1∧z=decide (n∈l)) (by rfl) ?_ ?_
  ·refine Qx<|Qb<|Qb<|Qb<|xb (QB rfl rfl) (λh34=>?_) (λh34=>?_)
   ·have hlt:i<l.length:=by omega
    refine Qb<|Qb<|Qb<|xii h rfl rfl hlt λa38 h38=>x (Qw h38 rfl)<|Qb<|xb (Zn rfl rfl) (λh41=>?_) (λh41=>?_)
    ·refine Qb<|xs rfl<|xs rfl<|xs rfl<|xs rfl<|xs rfl<|xs rfl<|xs rfl<|xs rfl<|xs rfl<|x (Qp rfl)<|x (Qp rfl)<|x Qe<|Qf ?_
     have:n∈l:=by rw[←h41];exact List.getElem_mem hlt
     exact ⟨true,⟨rfl,rfl,trivial⟩,rfl,by simp[this]⟩
    refine Qb<|Qb<|Qb<|xii h rfl rfl hlt λa45 h45=>x (Qw h45 rfl)<|xl rfl<|xf<|(Qab _).mono ?_
    rintro r3 w3 ⟨rfl,rfl⟩
    refine Qb<|xs rfl<|xs rfl<|x (Qp rfl)<|x (Qp rfl)<|x (Qp rfl)<|x Qe<|Qf<|⟨false,⟨rfl,rfl,trivial⟩,rfl,?_⟩
    have:n∉l:=by
     intro hm
     obtain ⟨m,hm1,hm2⟩:=List.getElem_of_mem hm
     by_cases hmi:m<i
     ·have:=hlo m hm1 hmi;omega
     ·by_cases hme:m=i
      ·subst hme;exact h41 hm2
      ·have:=Yt.get hi hm1 (show i<m by omega)
       have:=hhi i hlt (Nat.le_refl _)
       omega
    simp[this]
   refine Qb<|xs rfl<|xs rfl<|xs rfl<|xs rfl<|xs rfl<|xs rfl<|xs rfl<|xs rfl<|xs rfl<|xs rfl<|xs rfl<|xs rfl<|xs rfl<|xs rfl<|xs rfl<|xs rfl<|xs rfl <|
    x (Qp rfl)<|x Qe<|Qf<|⟨false,⟨rfl,rfl,trivial⟩,rfl,?_⟩
   have:n∉l:=by
    intro hm
    obtain ⟨m,hm1,hm2⟩:=List.getElem_of_mem hm
    have:=hlo m hm1 (by omega);omega
   simp[this]
  rintro z g w7 ⟨rfl,rfl⟩
  exact Qk ⟨[.int .i64 i,.bool (decide (n∈l))],⟨rfl,rfl,trivial⟩,rfl,by rw[QjG hi (show i≤l.length by omega) hlo hhi];rfl⟩
 have hij':i<j:=by omega
 refine Qi<|Qh<|Qc<|Qb<|Qb<|x (Qy rfl rfl ⟨by omega,by omega⟩)<|x (YX rfl (by exact ⟨by omega,by omega⟩))<|x (UN (n:=1) rfl rfl (by decide))<|x (YX rfl (by exact ⟨by omega,by omega⟩))<|Qf ?_
 have hh:(((i:Int)+(j:Int)) / 2 ^ 1)=(((i+j) / 2:Nat):Int):=by omega
 rw[hh]
 generalize hq:(i+j) / 2=q
 have hqi:i≤q:=by omega
 have hqj:q<j:=by omega
 have hql:q<l.length:=by omega
 refine Qc<|Qb<|Qb<|xii h rfl rfl hql λa24 h24=>x (Qw h24 rfl)<|Qb<|xl rfl<|xf<|(Qcw _ _).mono ?_
 rintro r8 w8 ⟨rfl,rfl⟩
 refine xe ?_
 refine QD rfl (λh27=>?_) (λh27=>?_)
 ·refine Qx<|Qb<|Qf<|⟨(i,q),by simp only[];omega,⟨rfl,rfl,trivial⟩,rfl,hqi,by omega,hlo,λm hm hqm=>?_⟩
  by_cases e:q=m
  ·subst e;omega
  ·have:=Yt.get hi hm (show q<m by simp only[] at hqm;omega);omega
 refine Qx<|Qb<|x (Qy rfl rfl ⟨by omega,by omega⟩)<|Qf<|⟨(q+1,j),by simp only[];omega,⟨rfl,rfl,trivial⟩,rfl,hqj,hj,λm hm hmq=>?_,hhi⟩
 by_cases e:m=q
 ·subst e;exact h27
 ·have:=Yt.get hi hql (show m<q by simp only[] at hmq;omega);omega
theorem qk {L:LN}{w:World}{v:Value}{l:List Ed}(h:Zw L w.heap v l.length 3 (l.flatMap QC)) :
  QG prog 45 [v] w λr w'=>Step [] w w'∧w'.ownsRow w.heap.size 126 3 r l.length (l.flatMap QC):=by
 have hle:=h.le
 refine QG.of_W func45 rfl ntmps45 results45 (by simp) ?_
 refine Qc<|Qf ?_
 obtain ⟨ao,cap,hv⟩:=h.shape
 refine Qg<|Qc<|Qb<|x (K9 (show ev _ _=_ from hv) rfl)<|xe ?_
 refine QY rfl (λh4=>?_) (λh4=>?_)
 ·refine Qc<|Qf<|Qk ⟨[nS],⟨rfl,trivial⟩,Step.refl _ _,?_⟩
  rcases h.2.2 with ⟨h1,h2⟩ | ⟨a,c,h1,_⟩
  ·have:l=[]:=List.eq_nil_of_length_eq_zero h2
   subst this;exact QP _ _ _ _
  ·rw[h1] at hv;cases hv;cases h4
 rcases h.2.2 with ⟨h1,h2⟩ | ⟨a,c,h1,h2,h3⟩
 ·rw[h1] at hv;injection hv with e1;subst e1;cases h4
 refine Qi<|Qc ?_
 have ho:∀u∈l.flatMap QC,u.oneCell'=true:=by
  intro u hu
  obtain ⟨p,_,hp⟩:=List.mem_flatMap.1 hu
  simp only[QC,List.mem_cons,List.not_mem_nil,or_false] at hp
  rcases hp with rfl | rfl | rfl <;> rfl
 refine xl rfl<|VM λb5 w1 hs1 hb5 hB5=>Qb<|xl rfl<|Q5 (base:=w.heap.size) (hB5.own (n:=0) (sz:=3) rfl (by omega) hb5) rfl (show ev _ _=_ from h1) h.1 (h3.ext hs1) ho (by omega) (by have:=hB5.lt;omega) λv2 w2 ho2 hs2 hn2=>Qf<|Qk ⟨[v2],⟨rfl,trivial⟩,hs1.then1 hs2 hb5,?_⟩
 simpa[tup] using ho2
theorem Qbx {L:LN}{w:World}{v:Value}{l:List KA}(h:Zw L w.heap v l.length 5 (l.flatMap Zo)) :
  QG prog 191 [v] w λr w'=>Step [] w w'∧w'.ownsRow w.heap.size 97 5 r l.length (l.flatMap Zo):=by
 have hle:=h.le
 refine QG.of_W func191 rfl ntmps191 results191 (by simp) ?_
 refine Qc<|Qf ?_
 obtain ⟨ao,cap,hv⟩:=h.shape
 refine Qg<|Qc<|Qb<|x (K9 (show ev _ _=_ from hv) rfl)<|xe ?_
 refine QY rfl (λh4=>?_) (λh4=>?_)
 ·refine Qc<|Qf<|Qk ⟨[nS],⟨rfl,trivial⟩,Step.refl _ _,?_⟩
  rcases h.2.2 with ⟨h1,h2⟩ | ⟨a,c,h1,_⟩
  ·have:l=[]:=List.eq_nil_of_length_eq_zero h2
   subst this;exact QP _ _ _ _
  ·rw[h1] at hv;cases hv;cases h4
 rcases h.2.2 with ⟨h1,h2⟩ | ⟨a,c,h1,h2,h3⟩
 ·rw[h1] at hv;injection hv with e1;subst e1;cases h4
 refine Qi<|Qc ?_
 have ho:∀u∈l.flatMap Zo,u.oneCell'=true:=by
  intro u hu
  obtain ⟨p,_,hp⟩:=List.mem_flatMap.1 hu
  simp only[Zo,List.mem_cons,List.not_mem_nil,or_false] at hp
  rcases hp with rfl | rfl | rfl | rfl | rfl <;> rfl
 refine xl rfl<|VM λb5 w1 hs1 hb5 hB5=>Qb<|xl rfl<|Q5 (base:=w.heap.size) (hB5.own (n:=0) (sz:=5) rfl (by omega) hb5) rfl (show ev _ _=_ from h1) h.1 (h3.ext hs1) ho (by omega) (by have:=hB5.lt;omega) λv2 w2 ho2 hs2 hn2=>Qf<|Qk ⟨[v2],⟨rfl,trivial⟩,hs1.then1 hs2 hb5,?_⟩
 simpa[tup] using ho2
structure Xj {α:Type}(g:α→LV) (sz T:Nat) (ps:α→List (Value×Nat×Nat×LV)) (base:Nat) (w:World) (v:Value) (l:List α):Prop where
 own:w.ownsRow base T sz v l.length (l.flatMap g)
 each:∀q∈l,∀t∈ps q,ZQ base (ob v) w.heap t.1 t.2.1 t.2.2.1 t.2.2.2
section
variable {α:Type} {g:α→LV} {sz T:Nat} {ps:α→List (Value×Nat×Nat×LV)} {base:Nat} {w w':World} {v:Value} {l:List α}
theorem Xj.nil:Xj g sz T ps base w (nS) []:=⟨QP _ _ _ _,λq hq=>by cases hq⟩
theorem Xj.ext (h:Xj g sz T ps base w v l) (hs:Step [] w w'):Xj g sz T ps base w' v l:=⟨Qu h.own hs,λq hq t ht=>(h.each q hq t ht).ext hs⟩
theorem Xj.low {X:LN}(h:Xj g sz T ps base w v l) (hs:Step X w w') (hX:∀b∈X,b<base):Xj g sz T ps base w' v l :=
 ⟨Qm h.own hs (λb hb hm=>by have:=(Qq h.own b hb).1;have:=hX b hm;omega),λq hq t ht=>(h.each q hq t ht).low hs hX⟩
theorem Xj.app {w7 w8:World}{v8:Value}{q:α}(h:Xj g sz T ps base w v l) (hs:Step [] w w7)
  (hq:∀t∈ps q,∃N e,w7.ownsRow N e t.2.2.1 t.1 t.2.1 t.2.2.2∧t.2.1≤1099511627776∧w.heap.size≤N) (hb:base≤w.heap.size)
  (ho:w8.ownsRow base T sz v8 (l.length+1) (l.flatMap g++g q)) (hs8:Step (ob v) w7 w8) (hn:∀b∈ob v8,b∈ob v∨w7.heap.size≤b):Xj g sz T ps base w8 v8 (l++[q]):=by
 have hlt:=Q0 h.own
 refine ⟨?_,λd hd t ht=>?_⟩
 ·rw[List.length_append,List.flatMap_append];simpa using ho
 ·rcases List.mem_append.1 hd with hd | hd
  ·exact ((h.each d hd t ht).ext hs).app hs8 hn
  ·simp only[List.mem_singleton] at hd;subst hd
   obtain ⟨N,e,h1,h2,h3⟩:=hq t ht
   exact (ZQ.of_own h1 h2 (by omega) (λb hb=>by have:=hlt b hb;omega)).app hs8 hn
end
abbrev QhZ (q:IV):List (Value×Nat×Nat×LV):=[(q.p.va,q.p.a.al.length,1,q.p.a.al.map (.int .i64)),(q.p.vm,q.p.a.mr.length,1,q.p.a.mr.map (.int .i64)),(q.p.ve,q.p.a.ed.length,3,q.p.a.ed.flatMap QC)]
abbrev IvP (base:Nat) (w:World) (v:Value) (l:List IV):Prop:=Xj Zi 5 100 QhZ base w v l
def Ku (N:Nat) (H:Array Obj) (v:Value) (l:List Jj):Prop:=∃qs:List IV,qs.map IV.it=l∧∀L:LN,(∀b∈L,b<N)→YU L H v qs
theorem IvP.itms {base:Nat}{w:World}{v:Value}{l:List IV}{L:LN}(h:IvP base w v l) (hn:l.length≤1099511627776) (hm:∀q∈l,Uj q.nm) (hL:∀b∈L,b<base):YU L w.heap v l :=
 ⟨QV h.own hn (λb hb hbL=>by have:=(Qq h.own b hb).1;have:=hL b hbL;omega),λq hq=>⟨h.each q hq (q.p.va,q.p.a.al.length,1,q.p.a.al.map (.int .i64)) (by simp) L (λb hb=>.inl (hL b hb)),h.each q hq (q.p.vm,q.p.a.mr.length,1,q.p.a.mr.map (.int .i64)) (by simp) L (λb hb=>.inl (hL b hb)),h.each q hq (q.p.ve,q.p.a.ed.length,3,q.p.a.ed.flatMap QC) (by simp) L (λb hb=>.inl (hL b hb))⟩,hm⟩
instance:Bw prog 100 [.string .empty,nS,.int .i64 0,nS,nS] [(0,1),(1,4)]:=⟨by kernel_rfl,by decide⟩
set_option maxHeartbeats 4000000 in
theorem qy {L:LN}{w:World}{v vi:Value}{qs:List IV}{ix:LI}(h0:YU L w.heap v qs) (hi0:QL L w.heap vi ix) (hb:∀i∈ix,0≤i∧i<(qs.length:Int)) :
  QG prog 192 [v,vi] w λr w'=>Step [] w w'∧Ku w.heap.size w'.heap r (chs (qs.map IV.it) ix)∧r.oneCell'=true:=by
 have h:YU [] w.heap v qs:=h0.up (by simp)
 have hi:QL [] w.heap vi ix:=hi0.up (by simp)
 have hil:=hi.le
 refine QG.of_W func192 rfl ntmps192 results192 (by simp) ?_
 refine Qc<|Qf<|Qc<|Qf<|Qg<|Qc<|Qb<|x (Qs hi rfl)<|Qb<|xe ?_
 refine Qh<|QA (α:=Nat×Value×List IV) [(5,5),(7,8),(11,41)] (λz=>[(5,z.2.1),(11,.int .i64 z.1)]) (λz w'=>z.1≤ix.length∧Step [] w w'∧IvP w.heap.size w' z.2.1 z.2.2∧z.2.2.map IV.it=chs (qs.map IV.it) (ix.take z.1)∧∀q∈z.2.2,Uj q.nm) (λz=>ix.length - z.1) (by rfl) (0,nS,[]) ⟨rfl,rfl,trivial⟩
  ⟨Nat.zero_le _,Step.refl _ _,Xj.nil,rfl,λq hq=>by cases hq⟩ ?_
 rintro ⟨k,vo,qo⟩ g w1 ⟨hk,hs1,hR1,hq1,hnm1⟩
 simp only[] at hk hR1 hq1 hnm1
 have hqol:qo.length=k:=by have:=congrArg List.length hq1;unfold chs at this;rw[List.length_map,List.length_map,List.length_take] at this;omega
 refine Qc<|x (QB rfl rfl)<|xe ?_
 refine Qg<|QD rfl (λh12=>?_) (λh12=>?_)
 ·refine Qz ?_
  have hke:ix.length≤k:=by have h13:¬(k:Int)<(ix.length:Int):=h12;omega
  rw[List.take_of_length_le hke] at hq1
  refine Qc<|Qb<|Qf ?_
  exact Qk ⟨[_],⟨rfl,trivial⟩,hs1,⟨qo,hq1,λL hL=>hR1.itms (by omega) hnm1 hL⟩,QO hR1.own⟩
 refine Qi ?_
 have hlt:k<ix.length:=by have h13:(k:Int)<(ix.length:Int):=h12;omega
 have hik:=hb _ (List.getElem_mem hlt)
 have htk:ix.take (k+1)=ix.take k++[ix[k]'hlt]:=List.take_succ_eq_append_getElem hlt
 refine Zc (ix[k]'hlt) λi hii=>?_
 rw[hii] at hik htk
 have hin:i=(i.toNat:Int):=by omega
 have hil2:i.toNat<qs.length:=by omega
 have hchs:chs (qs.map IV.it) (ix.take (k+1))=chs (qs.map IV.it) (ix.take k)++[(qs[i.toNat]'hil2).it]:=by
  rw[htk];unfold chs;rw[List.map_append];simp[List.getD,hil2]
 have h1:=h.ext hs1
 have hmem:=List.getElem_mem hil2
 refine Zc (qs[i.toNat]'hil2) λq hq=>?_
 rw[hq] at hchs hmem
 have hqA:=h1.each q hmem
 have hqn:=h1.nm q hmem
 refine Qg<|Qh<|Qc<|xii (i:=k) (hi.ext hs1) rfl rfl hlt λa13 h13=>?_
 rw[hii] at h13
 refine x (Qw h13 rfl)<|Qf<|Qc<|Qb<|Qb<|xig (g:=Zi) (i:=i.toNat) Xb h1.arr rfl (congrArg (Value.int .i64) hin) hil2 λa17 h17=>?_
 rw[hq] at h17
 refine x (Zd rfl)<|x (QJ (us:=[q.p.va,.int .i64 q.p.a.st,q.p.vm,q.p.ve]) (h17.from 1) rfl rfl)<|xl rfl<|Qr (us:=[nS,.int .i64 0,nS,nS]) rfl λb8 w2 hs2 hb8 hB8 =>
  xl rfl<|Ql (us:=[q.p.va,.int .i64 q.p.a.st,q.p.vm,q.p.ve]) hB8 rfl rfl rfl rfl ⟨hqA.al.one,rfl,hqA.mr.one,hqA.ed.one,trivial⟩ λw3 hs3 hB8=>xe ?_
 have hs13:Step [] w1 w3:=hs2.then1 hs3 hb8
 have hd3:Step [] w3 { w3 with drawn:=w3.drawn+1 }:=Step.drew _ _
 have hz13:=hs13.size
 have hz1:=hs1.size
 have hvoL:=Qq hR1.own
 have h3:YU (ob vo) w3.heap v qs:=(h.up (L':=ob vo) (λb hb=>.inr (hvoL b hb).1)).ext (hs1.trans hs13)
 have hb8v:b8∉ob vo:=λhm=>by have:=(hvoL b8 hm).2;omega
 have hqA3:=hqA.ext hs13
 refine QT (Step (ob vo) w3) [(0,true),(1,true),(2,true),(3,true),(4,true),(5,true),(6,true),(7,true),(9,true),(10,true),(11,true),(12,true),(14,true),(15,true),(8,false),(13,false),(16,false),(17,true),(18,true),(19,false),(20,false),(21,true)] mixed (by rfl) (by kernel_rfl) (Step.drew _ _) ?_
 refine p (λ_=>Qo)<|p (λ_=>Qo)<|p (λ_=>Qo)<|Go.Lg.pig (g:=Zi) (i:=i.toNat) rfl Xb h3.arr rfl (congrArg (Value.int .i64) hin) hil2 λa23 h23=>?_
 rw[hq] at h23
 refine p (λ_=>Zd rfl)<|pq (λ_ hc=>Qw ((h23.fld 0 (.string q.nm) rfl).st hc) rfl)<|p (λ_=>Qa rfl)<|pq (λ_ hc=>Qd (hB8.step hc hb8v) rfl rfl)<|p (λ_=>Qa rfl) <|
  pq (λ_ hc=>Qd (hB8.step hc hb8v) rfl rfl)<|p (λ_=>Qa rfl)<|pq (λ_ hc=>Qd (hB8.step hc hb8v) rfl rfl) <|
  p (λ_=>Qa rfl)<|pq (λ_ hc=>Qd (hB8.step hc hb8v) rfl rfl)<|pk<|xf<|(Yw (hqA3.al.ext hd3)).mono ?_
 rintro r4 w4 ⟨hs4,ho4⟩
 refine ⟨(hd3.trans hs4).any,?_⟩
 refine pk<|xf<|(Yw ((hqA3.mr.ext hd3).ext hs4)).mono ?_
 rintro r5 w5 ⟨hs5,ho5⟩
 refine ⟨((hd3.trans hs4).trans hs5).any,?_⟩
 refine pk<|xf<|(qk (((hqA3.ed.ext hd3).ext hs4).ext hs5)).mono ?_
 rintro r6 w6 ⟨hs6,ho6⟩
 have hs36:=((hd3.trans hs4).trans hs5).trans hs6
 refine ⟨hs36.any,?_⟩
 refine p (λ_=>QN ⟨Zl ho4,rfl,Zl ho5,Zl ho6,trivial⟩)<|p (λ_=>Zx [(0,[.string q.nm]),(1,[r4,.int .i64 q.p.a.st,r5,r6])] ⟨rfl,rfl,rfl,rfl,trivial⟩)<|pk<|QH (us:=[Zi ⟨q.nm,⟨r4,r5,r6,q.p.a⟩⟩]) rfl rfl (by decide) (by simp) ⟨rfl,rfl,trivial⟩ λb39 w7 hs7 hb39 hB39=>⟨(hs36.trans hs7).any,?_⟩
 have hs17:=(hs13.trans hs36).trans hs7
 have hz17:=hs17.size
 have hzd:({ w3 with drawn:=w3.drawn+1 }:World).heap.size=w3.heap.size:=rfl
 have hz4:=hs4.size
 have hz5:=hs5.size
 refine pk<|Q5 (m:=1) (news:=Zi ⟨q.nm,⟨r4,r5,r6,q.p.a⟩⟩) (L:=[]) (Qu hR1.own hs17) rfl rfl rfl (hB39.at (by simp)) (λu hu=>by
   simp only[List.mem_cons,List.not_mem_nil,or_false] at hu
   rcases hu with rfl | rfl | rfl | rfl | rfl
   ·rfl
   ·exact QO ho4
   ·rfl
   ·exact QO ho5
   ·exact QO ho6) (by omega) (by omega) λv8 w8 ho8 hs8 hn8=>⟨(hs36.trans hs7).any.trans' hs8,?_⟩
 refine p (λ_=>Qe)<|pe ?_
 have hal:=hqA.al.le
 have hml:=hqA.mr.le
 have hedl:=hqA.ed.le
 have hR8:IvP w.heap.size w8 v8 (qo++[⟨q.nm,⟨r4,r5,r6,q.p.a⟩⟩]):=hR1.app hs17 (λt ht=>by
  simp only[List.mem_cons,List.not_mem_nil,or_false] at ht
  rcases ht with rfl | rfl | rfl
  ·exact ⟨_,_,Qu (Qu (Qu ho4 hs5) hs6) hs7,hal,by omega⟩
  ·exact ⟨_,_,Qu (Qu ho5 hs6) hs7,hml,by omega⟩
  ·exact ⟨_,_,Qu ho6 hs7,hedl,by omega⟩) (by omega) ho8 hs8 hn8
 refine Qx<|x (Qy rfl rfl ⟨by omega,by omega⟩)<|Qb<|xe ?_
 refine ⟨(k+1,v8,_),by simp only[];omega,⟨rfl,rfl,trivial⟩,hlt,(hs1.trans hs17).then hs8 (λb hb=>.inr (hvoL b hb).1),hR8,?_,λq' hq'=>?_⟩
 ·simp only[]
  rw[hchs,List.map_append,hq1];rfl
 ·rcases List.mem_append.1 hq' with h9 | h9
  ·exact hnm1 q' h9
  ·simp only[List.mem_singleton] at h9;subst h9;exact hqn
theorem zp {L:LN}{w:World}{bp bm:Nat}{v0 v1 v2 v3:Value}{co:LI}{mi:Bool}(hB:QS w.heap bp 256 [v0,v1,v2,v3]) (hm:QS w.heap bm 4 [.bool mi]) (hco:QL L w.heap v0 co) (hi:Yt co) (n:Int) :
  QG prog 193 [.int .i64 n,.pointer (some ⟨bp,0,none⟩),.pointer (some ⟨bm,0,none⟩)] w λr w'=>Step [bm] w w'∧r=.int .i64 (lwB co n)∧QS w'.heap bm 4 [.bool (mi || !decide (n∈co))]:=by
 refine QG.of_W func193 rfl ntmps193 results193 (by simp) ?_
 refine Qc<|Qf<|Qc<|x (Qa rfl)<|x (Qd hB rfl rfl)<|Qb<|xl rfl<|xf<|(QaD hco hi n).mono ?_
 rintro r1 w1 ⟨rfl,rfl⟩
 refine Qb<|x (Qj rfl rfl)<|x (Qj rfl rfl)<|x Qe<|Qf<|QW (α:=Bool) [(14,18)] (λz=>[]) (λz w'=>Step [bm] w1 w'∧QS w'.heap bm 4 [.bool (mi || !decide (n∈co))]) (by rfl) ?_ ?_
 ·refine Qx<|xB (Qd hm rfl rfl) (λh14=>?_) (λh14=>?_)
  ·refine Qb<|xs rfl<|xs rfl<|x (Qp rfl)<|xl rfl<|QF (j:=0) (u:=.bool true) hm rfl rfl (by simp) rfl λw2 hs2 hB2=>xe ?_
   exact ⟨true,trivial,hs2,by rw[h14];exact hB2⟩
  refine Qb<|Qb<|x (Zp rfl)<|x (Qp rfl)<|xl rfl<|QF (j:=0) (u:=.bool (!decide (n∈co))) hm rfl rfl (by simp) rfl λw3 hs3 hB3=>xe ?_
  exact ⟨true,trivial,hs3,by rw[h14];exact hB3⟩
 rintro z g w4 ⟨hs4,hB4⟩
 refine Qc<|Qb<|Qf ?_
 exact Qk ⟨[_],⟨rfl,trivial⟩,hs4,rfl,hB4⟩
end Go.Proofs.YtgmifemhkjdblaaGreatDoor
namespace Go.Lg
open Go.RowKit
def qF (P:Program) (all:List Oper) (C:World→Prop) (K:LN→Fr→World→Prop):List (Nat×Bool)→LN→Fr→World→Prop
 | [],own,f,w=>K own f w
 | (j,true)::l,own,f,w=>ZZ all f (QK all j)=true∧∃v,(∀w',(qS (QK all j)=true→C w')→(execOp (ev f) (QK all j)).run P w'=.ok (.value v) w')∧qF P all C K l own (QU f (QK all j).dst v) w
 | (j,false)::l,own,f,w=>ZZ all f (QK all j)=true∧∀w1,Step [] w w1→C w1→XO P (QK all j) f w1 λf' w'=>C w'∧∃own',Step own w1 w'∧(∀b∈own',b∈own∨(w1.heap.size≤b∧b<w'.heap.size))∧qF P all C K l own' f' w'
section
variable {P:Program} {n:Nat} {f:Fr} {w:World} {all:List Oper} {C:World→Prop} {K:Fr→World→Prop} {KF:LN→Fr→World→Prop}
theorem qF.ext (hK:∀own f w w',KF own f w→Step [] w w'→KF own f w'):∀{l:List (Nat×Bool)}{own:LN}{f:Fr}{w w':World},qF P all C KF l own f w→Step [] w w'→qF P all C KF l own f w'
 | [],_,_,_,_,h,hs=>hK _ _ _ _ h hs
 | (_,true)::_,_,_,_,_,h,hs=>by
  obtain ⟨hg,v,hv,hx⟩:=h
  exact ⟨hg,v,hv,qF.ext hK hx hs⟩
 | (_,false)::_,_,_,_,_,h,hs=>⟨h.1,λw1 h1 hc=>h.2 w1 (hs.trans h1) hc⟩
structure Fl2 (P:Program) (all:List Oper) (C:World→Prop) (K:Fr→World→Prop) (KF:LN→Fr→World→Prop) (i d:Nat) (rest:List (Nat×Bool)) (Φ:Value→World→Prop) (Dc:List (Nat×Nat)) (f1:Fr):Prop where
 stab:∀v (own:LN) w w',Φ v w→Step own w w'→(∀b∈ow v,b∉own)→Φ v w'
 spec:∀f w,(∀t,YT Dc t=false→f t=f1 t)→C w→XO P (QK all i) f w λf' w'=>Step [] w w'∧C w'∧Φ (f' d) w'∧∀b∈ow (f' d),w.heap.size≤b∧b<w'.heap.size
 fin:∀own f w,KF own f w→∀v,C w→Φ v w→(∀b∈ow v,b∉own∧b<w.heap.size)→XP P all C K rest (QU f (some d) v) w
 mono:∀own f w w',KF own f w→Step [] w w'→KF own f w'
attribute [local semireducible] XP in
theorem VY {i d:Nat}{rest:List (Nat×Bool)}{Φ:Value→World→Prop}{Dc:List (Nat×Nat)}{f1:Fr}(hF:Fl2 P all C K KF i d rest Φ Dc f1) (hs:Region.noSelect all.toArray=true) {v:Value}:∀(l:List (Nat×Bool)) (own:LN) (f:Fr) (w:World),Z8 all d l=true→qF P all C KF l own f w→C w→Φ v w →
  (∀b∈ow v,b∉own∧b<w.heap.size)→XP P all C K (l++rest) (QU f (some d) v) w
 | [],own,f,w,_,h,hC,hv,hb=>hF.fin own f w h v hC hv hb
 | (j,q)::l,own,f,w,hfr,h,hC,hv,hb=>by
  simp only[Z8,List.all_cons,Bool.and_eq_true,Bool.not_eq_true',List.contains_eq_mem,decide_eq_false_iff_not,beq_eq_false_iff_ne,ne_eq] at hfr
  obtain ⟨⟨h1,h2⟩,hfr⟩:=hfr
  have hfr':Z8 all d l=true:=by simpa[Z8] using hfr
  have hsel:∀cs b,(QK all j).op≠.select cs b:=by
   intro cs b
   cases ho:all[j]? with
   | none =>
    have:QK all j=default:=by
     clear h h1 h2 hfr hfr'
     have key:∀(l:List Oper) (j:Nat),l[j]?=none→QK l j=default:=by
      intro l
      induction l with
      | nil=>intro j _;rfl
      | cons a l ih=>intro j hj;cases j with | zero=>simp at hj | succ j=>exact ih j (by simpa using hj)
     exact key all j ho
    rw[this]
    intro e;cases e
   | some o=>rw[Za ho];exact Region.noSelect_spec hs j o cs b (by simpa using ho)
  have hd:∀e,some d=some e→e∉(QK all j).looksAt all.toArray:=λe he=>by cases he;exact h1
  cases q with
  | true =>
   obtain ⟨hg,u,hu,hx⟩:=h
   simp only[List.cons_append,XP]
   rw[Jd (QK all j) f (some d) v hd,hg,cond_true,cond_true]
   refine ⟨u,λw' hc=>?_,?_⟩
   ·rw[Y6 (all:=all) hsel f (some d) v hd];exact hu w' hc
   ·rw[Ka f v u (λe he=>by cases he;exact h2)]
    exact VY hF hs l own _ w hfr' hx hC hv hb
  | false =>
   simp only[List.cons_append,XP]
   rw[Jd (QK all j) f (some d) v hd,h.1,cond_true,cond_false]
   refine Qc3 (all:=all) hsel h1 h2 (λu w' hx=>?_) (h.2 w (Step.refl _ _) hC)
   obtain ⟨hC',own',hst,how,hx⟩:=hx
   refine ⟨.inr (.inr hC'),VY hF hs l own' _ w' hfr' hx hC' (hF.stab v own w w' hv hst (λb hbb=>(hb b hbb).1)) (λb hbb=>⟨λhm=>?_,Nat.lt_of_lt_of_le (hb b hbb).2 hst.size⟩)⟩
   rcases how b hm with h3 | h3
   ·exact (hb b hbb).1 h3
   ·exact Nat.lt_irrefl _ (Nat.lt_of_lt_of_le (hb b hbb).2 h3.1)
theorem QbK {i d:Nat}{rest:List (Nat×Bool)}{Φ:Value→World→Prop}{Dc:List (Nat×Nat)}{f1:Fr}(hF:Fl2 P all C K KF i d rest Φ Dc f1) (hs:Region.noSelect all.toArray=true) (hg:(QK all i).guard=none) (hd:(QK all i).dst=some d):∀(l:List (Nat×Bool)) (ls:Array Bool) (own:LN) (f:Fr) (w:World),ls.size=all.length→Z8 all d l=true→Z5 all Dc l=true→(∀t,YT Dc t=false→f t=f1 t) →
  qF P all C KF l own f w→C w→(∀b∈own,b<w.heap.size)→qa all.toArray i rest l ls=true→XA P all C K (l.length+1+rest.length) ls f w
 | [],ls,own,f,w,hsz,hfr,hin,hk1,h,hC,hown,hp=>by
  simp only[qa,Bool.and_eq_true,beq_iff_eq] at hp
  obtain ⟨hr,hp⟩:=hp
  rw[show ([]:List (Nat×Bool)).length+1+rest.length=rest.length+1 by simp;omega]
  refine YA (λh0=>(by rw[h0] at hr;cases hr)) ?_
  rw[hr]
  intro k hk o ho
  have hki:k=i:=by simpa using hk
  subst hki
  have hoi:=Za ho
  have hx:=hF.spec f w hk1 hC
  rw[hoi] at hg hd hx
  rw[Xx hg,cond_true]
  refine hx.mono λv w' hx=>?_
  rw[hd] at hx ⊢
  obtain ⟨h1,h2,h3,h4⟩:=hx
  simp only[QU,Yu] at h3 h4
  refine ⟨.inr (.inr h2),Zt hs rest _ _ _ (by simpa using hsz) (.inl h2) hp (hF.fin own f w' (hF.mono own f w w' h h1) v h2 h3 (λb hb=>⟨λhm=>Nat.lt_irrefl _ (Nat.lt_of_lt_of_le (hown b hm) (h4 b hb).1),(h4 b hb).2⟩))⟩
 | (j,true)::l,ls,own,f,w,hsz,hfr,hin,hk1,h,hC,hown,hp=>by
  simp only[qa,Bool.and_eq_true] at hp
  obtain ⟨⟨hr,hf⟩,hp'⟩:=hp
  have hri:j∈Region.ready .any all.toArray ls:=by simpa using hr
  have e:(List.length ((j,true)::l))+1+rest.length=(l.length+1+rest.length)+1:=by simp;omega
  rw[e]
  have hfr':Z8 all d l=true:=by simp only[Z8,List.all_cons,Bool.and_eq_true] at hfr;exact hfr.2
  simp only[Z5,List.all_cons,Bool.and_eq_true] at hin
  have hin':Z5 all Dc l=true:=hin.2
  cases ho:all[j]? with
  | none =>
   exfalso
   obtain ⟨_,o,hoo,_⟩:=mem_ready.1 hri
   simp[ho] at hoo
  | some o =>
   obtain ⟨hgj,v,hv,hx⟩:=h
   rw[Za ho] at hgj hv hx
   have hsel:∀(j:Nat) (o:Oper) cs b,all[j]?=some o→o.op≠.select cs b:=λj o cs b hj=>Region.noSelect_spec hs j o cs b (by simpa using hj)
   have hfree:=λk ok hk=>Region.free_spec (ops:=all.toArray) (md:=.any) (i:=j) (oi:=o) (listed:=ls) (by simpa using ho) hf k ok (by simpa using hk)
   exact Y7 (v:=v) (D:=λw=>qS o=true→C w) ho (λ_ h=>h) hsel _ ls f w (λ_=>hC) hfree hri (.inl ⟨hgj,hv⟩) (QbK hF hs hg hd l _ own _ w (by simpa using hsz) hfr' hin' (by have:=JT (v:=v) hin.1 hk1;rw[Za ho] at this;exact this) hx hC hown hp')
 | (j,false)::l,ls,own,f,w,hsz,hfr,hin,hk1,h,hC,hown,hp=>by
  simp only[qa,Bool.and_eq_true,List.all_eq_true,Bool.or_eq_true,beq_iff_eq,Bool.not_eq_true'] at hp
  obtain ⟨⟨⟨hne,hr⟩,hpl⟩,hp'⟩:=hp
  have e:(List.length ((j,false)::l))+1+rest.length=(l.length+1+rest.length)+1:=by simp;omega
  rw[e]
  have hfr':Z8 all d l=true:=by simp only[Z8,List.all_cons,Bool.and_eq_true] at hfr;exact hfr.2
  simp only[Z5,List.all_cons,Bool.and_eq_true] at hin
  have hin':Z5 all Dc l=true:=hin.2
  refine YA (λh0=>(by rw[h0] at hne;cases hne)) ?_
  intro k hk o ho
  have hoi:=Za ho
  have hsz':(ls.setIfInBounds k true).size=all.length:=by simpa using hsz
  by_cases hki:k=i
  ·subst hki
   have hx:=hF.spec f w hk1 hC
   rw[hoi] at hg hd hx
   rw[Xx hg,cond_true]
   refine hx.mono λv w' hx=>?_
   rw[hd] at hx ⊢
   obtain ⟨h1,h2,h3,h4⟩:=hx
   simp only[QU,Yu] at h3 h4
   refine ⟨.inr (.inr h2),?_⟩
   have hx:=VY hF hs ((j,false)::l) own f w' hfr (qF.ext hF.mono h h1) h2 h3 (λb hb=>⟨λhm=>Nat.lt_irrefl _ (Nat.lt_of_lt_of_le (hown b hm) (h4 b hb).1),(h4 b hb).2⟩)
   have:=Zt hs ((j,false)::(l++rest)) _ _ _ hsz' (.inl h2) hpl hx
   rw[show ((j,false)::(l++rest)).length=l.length+1+rest.length by simp;omega] at this
   exact this
  ·have hkj:k=j:=(hr k hk).resolve_right hki
   subst hkj
   have h1:=h.1
   have h2:=h.2 w (Step.refl _ _) hC
   rw[hoi] at h1 h2
   rw[h1,cond_true]
   refine h2.mono λv w' hx=>?_
   obtain ⟨hC',own',hst,how,hx⟩:=hx
   refine ⟨.inr (.inr hC'),QbK hF hs hg hd l _ own' _ w' hsz' hfr' hin' (by have:=JT (v:=v) hin.1 hk1;rw[hoi] at this;exact this) hx hC' (λb hb=>?_) hp'⟩
   rcases how b hb with h3 | h3
   ·exact Nat.lt_of_lt_of_le (hown b h3) hst.size
   ·exact h3.2
theorem qF.keeps {D:List (Nat×Nat)}{f0:Fr}:∀(l:List (Nat×Bool)) (own:LN) (f:Fr) (w:World),Z5 all D l=true→(∀t,YT D t=false→f t=f0 t)→qF P all C KF l own f w→qF P all C (λo f' w'=>(∀t,YT D t=false→f' t=f0 t)∧KF o f' w') l own f w
 | [],own,f,w,_,hf,h=>⟨hf,h⟩
 | (j,true)::l,own,f,w,hd,hf,h=>by
  simp only[Z5,List.all_cons,Bool.and_eq_true] at hd
  obtain ⟨hg,v,hv,hx⟩:=h
  exact ⟨hg,v,hv,qF.keeps l own _ _ hd.2 (JT hd.1 hf) hx⟩
 | (j,false)::l,own,f,w,hd,hf,h=>by
  simp only[Z5,List.all_cons,Bool.and_eq_true] at hd
  refine ⟨h.1,λw1 h1 hc=>XO.mono (λv w' hx=>?_) (h.2 w1 h1 hc)⟩
  obtain ⟨hC',own',hst,how,hx⟩:=hx
  exact ⟨hC',own',hst,how,qF.keeps l own' _ _ hd.2 (JT hd.1 hf) hx⟩
theorem f2p {j:Nat}{l:List (Nat×Bool)}{own:LN}{v:Value}(hr:∀w',(execOp (ev f) (QK all j)).run P w'=.ok (.value v) w') (h:qF P all C KF l own (QU f (QK all j).dst v) w)
  (hg:ZZ all f (QK all j)=true:=by rfl):qF P all C KF ((j,true)::l) own f w:=⟨hg,v,λw' _=>hr w',h⟩
theorem f2k {j:Nat}{l:List (Nat×Bool)}{own:LN}(h:∀w1,Step [] w w1→C w1→XO P (QK all j) f w1 λf' w'=>C w'∧∃own',Step own w1 w'∧(∀b∈own',b∈own∨(w1.heap.size≤b∧b<w'.heap.size))∧qF P all C KF l own' f' w')
  (hg:ZZ all f (QK all j)=true:=by rfl):qF P all C KF ((j,false)::l) own f w:=⟨hg,h⟩
theorem f2e {own:LN}(h:KF own f w):qF P all C KF [] own f w:=h
theorem z7 {Q:Exit→Fr→World→Prop}{id:Nat}{α:Type}(C:World→Prop) (pre l:List (Nat×Bool)) (i d:Nat) (rest:List (Nat×Bool)) (own:LN) (D Dc:List (Nat×Nat)) (S:α→List (Nat×Value)) (I:α→LN→World→Prop) (Φ:Value→World→Prop) (hm:P.follows .mixedOrders=true) (hn:YW n all=true)
  (hp:QfK all pre l i rest=true) (hin:(Z5 all D pre && Z5 all D l && Z5 all Dc l)=true) (hd:(QK all i).dst=some d) (hC:C { w with drawn:=w.drawn+1 }) (hown:∀b∈own,b<w.heap.size)
  (stab:∀v (own:LN) w w',Φ v w→Step own w w'→(∀b∈ow v,b∉own)→Φ v w') (mono:∀z own w w',I z own w→Step [] w w'→I z own w')
  (fin:∀z g own w v,I z own w→C w→Φ v w→(∀b∈ow v,b∉own∧b<w.heap.size)→XP P all C (λf w=>Q .normal f w) rest (QU (KE (S z) (mix D f g)) (some d) v) w)
  (h:XP P all C (λf1 _=>(∀g w,C w→XO P (QK all i) (mix Dc f1 g) w λf' w'=>Step [] w w'∧C w'∧Φ (f' d) w'∧∀b∈ow (f' d),w.heap.size≤b∧b<w'.heap.size)∧qF P all C (λo f' w'=>∃z,Yy f' (S z)∧I z o w') l own f1 { w with drawn:=w.drawn+1 }) pre f { w with drawn:=w.drawn+1 }):W P n (.region id all.toArray true) Q f w:=by
 rw[Bool.and_eq_true,Bool.and_eq_true] at hin
 simp only[QfK,Bool.and_eq_true,beq_iff_eq,Option.isNone_iff_eq_none] at hp
 obtain ⟨⟨⟨⟨⟨hs,hl⟩,hq⟩,hgo⟩,hg⟩,hfr⟩:=hp
 rw[hd] at hfr
 refine YF C hm hn ?_
 have h1:=ZI (K:=λf w=>Q .normal f w) (m:=l.length+1+rest.length) hs pre (Array.replicate all.length false) f _ hC hq
  (B:=λf1 _=>Fl2 P all C (λf w=>Q .normal f w) (λo f' w'=>(∀t,YT D t=false→f' t=f t)∧∃z,Yy f' (S z)∧I z o w') i d rest Φ Dc f1∧qF P all C (λo f' w'=>(∀t,YT D t=false→f' t=f t)∧∃z,Yy f' (S z)∧I z o w') l own f1 { w with drawn:=w.drawn+1 })
  (λf1 hB=>QbK hB.1 hs hg hd l (Zr pre (Array.replicate all.length false)) own f1 _ (by rw[ZG];simp) hfr hin.2 (λ_ _=>rfl) hB.2 hC hown hgo)
  (XP.keeps_mono _ _ _ (XP.keeps pre f _ hin.1.1 (λ_ _=>rfl) h) (λf1 w1 hx=>⟨⟨stab,?_,?_,?_⟩,qF.keeps l own _ _ hin.1.2 hx.1 hx.2.2⟩))
 ·rw[hl] at h1
  exact h1
 ·intro f' w' hk hC'
  have:=hx.2.1 f' w' hC'
  rw[YO hk] at this
  exact this
 ·rintro o f' w' ⟨hk,z,hs,hi⟩ v hC' hv hb
  have:=fin z f' o w' v hi hC' hv hb
  rw[YO hk,Yc hs] at this
  exact this
 ·rintro o f' w' w'' ⟨hk,z,hs,hi⟩ hst
  exact ⟨hk,z,hs,mono z o _ _ hi hst⟩
end
attribute [irreducible] qF
end Go.Lg
