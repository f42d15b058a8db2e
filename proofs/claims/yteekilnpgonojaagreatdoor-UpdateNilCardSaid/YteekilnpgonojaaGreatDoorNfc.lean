/- Merged out of 29 texts. -/
import Derived.Test.YteekilnpgonojaaGreatDoorNfb
import Derived.Shelf.SlSortCmp.NoneTotal
import Derived.Ground.SlsfProg
import Derived.Tactics
import Derived.Sort.Grow
import Derived.Deep.Draws
import Derived.Sort.Statements
import Derived.Shelf.Lay
import Derived.Tactics2
import Derived.Laws.IdiomStrings
set_option maxHeartbeats 40000000
set_option maxRecDepth 100000
set_option linter.all false
open Go Go.Lg
open Go.Value renaming int->oE
open Go.IntKind renaming i64->oF
open _root_.List renaming mem_singleton->oH,not_mem_nil->oI,mem_cons->oK,length_append->oL,replicate->oM,length_singleton->oN,length->oO,getD->oP,all_cons->oR,append_assoc->oT,range->oW,map_cons->oZ,cons_append->o8,flatMap_cons->Oa,all_eq_true->Og,nil_append->Oi,append_nil->Oq,length_nil->Oy,flatMap_nil->OF,map_set->OL
open _root_.Bool renaming and_eq_true->oJ,not_eq_true'->Ob,false_eq_true->Ox
open _root_.Array renaming replicate->oV,getElem?_eq_getElem->Od,getElem?_mapIdx->Oo
open _root_.Nat renaming zero_add->oX,add_zero->OB,sub_zero->OC,mod_lt->OI,zero_le->ON
open _root_.Option renaming map_some->Ot,isSome_none->Ow
open _root_.Int renaming toNat_natCast->Ou
open Go renaming World->OX,Value->OY,Operand->OZ,Program->O0
open Go.Proofs Go.Proofs.Tryz
variable {w w' W':OX}{L L' X ds av:LN}{n t i sz b T j g N E id ty b1 cap B kt lo hi b2 G bp M gf:Nat}{H:xu}{cs us news capt:LV}{a:Q2}{α:Type}{y:OZ}{z ve va vm vt v' vl vs vx vk vb:OY}{c:Zx}{l u ul out al rs:LI}{f f1:Fr}{P:O0}{fn:Func}{aa:List Q2}{lf:Lf}{o:Oper}{s:Int}{es:List Ed}{d:xz}{af:xw}{gd:xj}{K:xr}{co:List YU}{qs:List IV}{pl rest:xo}{at_:Array Nat}{ops:xx}{ls:xq}{Φ:OY→OX→Prop}{Dc:xp}
namespace Go.Lg
structure Sty where
 c:CL
 p:AV
 vq:OY
 qs:List TV
 s:AV
 vt:OY
 ts:List TV
 vs:OY
 vx:OY
 vk:OY
 qx:List XV
 ks:List KV
 bm:Nat
 mm:List (ByteArray×OY)
abbrev Sty.cells (q:Sty):LV:=[q.c.ve,q.c.vc,q.c.vr,q.c.vx,q.c.vk,q.p.va,oE oF q.p.a.st,q.p.vm,q.p.ve,q.vq,q.s.va,oE oF q.s.a.st,q.s.vm,q.s.ve,q.vt,q.vs,q.vx,q.vk,.map (some q.bm)]
structure JI (L:LN)(b:Nat)(H:xu)(q:Sty):Prop where
 B:Q9 H b 266 q.cells
 bL:b∉L
 c:ZJ L H q.c
 p:ZH L H q.p.va q.p.vm q.p.ve q.p.a
 s:ZH L H q.s.va q.s.vm q.s.ve q.s.a
 qs:JH L H q.vq q.qs
 ts:JH L H q.vt q.ts
 k1:QP L H q.vs (szs q.c.V.co)
 k2:yp L H q.vx q.qx
 k3:yB L H q.vk q.ks
 mL:q.bm∉L
 m:Yi Jt H q.bm q.mm
theorem JI.I {L:LN}{b:Nat}{w w':OX}{q:Sty}(h:JI L b w.heap q)(E:O1 [] w w'):JI L b w'.heap q:=⟨h.B.I E,h.bL,h.c.I E,h.p.I E,h.s.I E,h.qs.I E,h.ts.I E,h.k1.I E,h.k2.I E,h.k3.I E,h.mL,h.m.I E⟩
theorem JI.st {L:LN}{b:Nat}{w w':OX}{q:Sty}(h:JI L b w.heap q)(E:O1 L w w'):JI L b w'.heap q:=⟨h.B.J E h.bL,h.bL,h.c.st E,h.p.st E,h.s.st E,h.qs.st E,h.ts.st E,h.k1.st E,h.k2.st E,h.k3.st E,h.mL,h.m.J E h.mL⟩
theorem JI.up {L L':LN}{b:Nat}{H:xu}{q:Sty}(h:JI L b H q)(E:∀b∈L',b∈L\/H.size<=b):JI L' b H q :=
 ⟨h.B,λI=>by rcases E _ I with G|G;exact h.bL G;have:=h.B.lt;omega,h.c.up E,h.p.up E,h.s.up E,h.qs.up E,h.ts.up E,h.k1.up E,h.k2.up E,h.k3.up E,λI=>by rcases E _ I with G|G;exact h.mL G;have:=h.m.lt;omega,h.m⟩
structure QpQ (q:Sty):Prop where
 ok:Zi q.c.V=0
 p:xd (O3 q.c.V.co)=some (q.p.a,q.qs.map (·.2))
 s:xd (O3 q.c.V.co++O3 q.c.V.rq)=some (q.s.a,q.ts.map (·.2))
 ex:q.qx.map (·.x)=q.c.V.ex
 cs:q.ks.map (·.k)=q.c.V.cs
 m:U3 q.c.co.length q.mm (q.qs.map (·.2))
theorem YQ {l:List YU}(h:∀x∈l,ZD x.a):∀a∈O3 l,ZD a:=λa E=>by
 obtain⟨x,hx,rfl⟩:=LC.1 E;exact h x hx
def stp (a:Q2)(s v:Int):Int×Bool×Int:=if cks a s≠0 then(0,false,cks a s)else if v∉a.al then(0,false,9)else if 0<=O8 a.ed s v then(O8 a.ed s v,true,0)else(0,false,0)
theorem Qi2 (h:ZH L w.heap va vm ve a)(s v:Int):
  Q3 prog 260 [.agg #[va,oE oF a.st,vm,ve],oE oF s,oE oF v] w λr w'=>r=.tuple #[oE oF (stp a s v).1,.bool (stp a s v).2.1,oE oF (stp a s v).2.2]/\O1 [] w w':=by
 have E:stp a s v=(if cks a s≠0 then(0,false,cks a s)else if v∉a.al then(0,false,9)else if 0<=O8 a.ed s v then(O8 a.ed s v,true,0)else(0,false,0)):=rfl
 refine Zo (stp a s v) λR hR=>?_;rw[hR]at E ⊢;refine Zq func260 ?_;refine Qc<|Qe<|QW (us:=[va,oE oF a.st,vm,ve]) U λb3 w1 Y he J=>x Ql<|x Ql<|Qb<|Qd<|Qc<|Q6 J U U<|Qa<|QM<|(JW (h.I Y) s).mono ?_;rintro r2 w2 ⟨rfl,O⟩;refine Qb ?_;have H:=Y.D O;refine Qm<|ZB U U<|xe<|QX rfl (λI=>?_) (λI=>?_)
 ·rw[OQ I]at E;subst E;refine Qm<|x Ql<|x Ql<|Qb<|Qk ⟨[_,_,_],oA,U,H⟩
 rw[OP I]at E;refine Qh<|Qd<|Qc<|Qs U (J.I O) U U<|Qa<|QM<|(Yr (h.al.I H) v).mono ?_;rintro r3 w3 ⟨rfl,rfl⟩;refine x (zi U)<|xe<|QX rfl (λS=>?_) (λS=>?_)
 ·rw[OQ S]at E;subst E;refine Qc<|x Ql<|x Ql<|Qb<|Qk ⟨[_,_,_],oA,U,H⟩
 rw[OP S]at E;refine Qh ?_;have G:cks a s=0:=Ln.1 I;have ha:X9 a=0:=by
  unfold cks at G;refine Ln.1 λT=>?_;rw[OQ T]at G;exact T G
 have hsr:0<=s/\s<a.st:=by
  unfold cks at G;rw[OP (by rw[ha];decide)]at G;refine Ln.1 λT=>?_;rw[OQ oa]at G;cases G
 refine Qd<|Qc<|Q6 (J.I O) U U<|Qa<|Qa<|QM<|(QbS (h.ed.I H) ((Z0 a).1 ha) s v hsr.1 hsr.2).mono ?_;rintro r4 w4 ⟨rfl,hb⟩;refine Qb<|Qm<|x (Yw U U)<|xe<|QX rfl (λV=>?_) (λV=>?_)
 ·rw[OQ V]at E;subst E;refine Qm<|x Ql<|x Ql<|Qb<|Qk ⟨[_,_,_],oA,U,H.D hb⟩
 rw[OP V]at E;subst E;refine Qh<|Qc<|x Ql<|x Ql<|Qb<|Qk ⟨[_,_,_],oA,U,H.D hb⟩
theorem Qg8 (es:List Ed)(s v:Int):O8 es s v=(O9 es s v).getD (-1):=by
 induction es with
 | nil=>rfl
 | cons e es ih =>
  rw[O8,O9];by_cases h:e.1=s/\e.2.1=v
  ·rw[OQ h,OQ h];rfl
  rw[OP h,OP h];exact ih
theorem Qmo (h:ZD a){v:Int}(I:0<=s)(J:s<a.st)(E:v∈a.al):(stp a s v).2.1=(O9 a.ed s v).isSome:=by
 have G:cks a s=0:=by unfold cks;rw[OP (by rw[(Z0 a).2 h];decide),OP oa]
 unfold stp;rw[OP (by rw[G];decide),OP (oy E),Qg8];cases H:O9 a.ed s v with
 | none=>rfl
 | some t =>
  have:=(h.ed _ (Qbr H)).2.2.2.1;rw[Option.getD_some,OQ (oy this)];rfl
theorem QaO {q:Sty}{t:LI}(E:JI L b w.heap q)(G:QP L' w.heap vt t)(H:q.c.co.length<=t.length):
  Q3 prog 125 [.pointer (some ⟨b,0,none⟩),vt] w λr w'=>O1 [] w w'/\∃v1 v2,r=.tuple #[v1,v2]/\QP L' w'.heap v1 (t.take q.c.co.length)/\QP L' w'.heap v2 (t.drop q.c.co.length):=by
 refine Zq func125 ?_;refine Qc<|x Ql<|Qb<|Qm<|Yl U<|Q7 U<|Qs U E.B U U<|QI E.c.co.arr U<|Qb<|Qd<|ZI [] (Xx 0 9 [])<|p QF<|p QF<|p QF<|Qpv (hi:=q.c.co.length) U G U U U H λv1 I=>p QF<|p QF<|Qmz (lo:=q.c.co.length) U G U U H λv2 J =>
  p ZM<|p ZM<|pe ?_
 refine Qk ⟨[_,_],oz,O1.C _ _,v1,v2,U,?_,?_⟩
 ·rw[Nat.mul_one,<-Nr]at I;have e:(t.take q.c.co.length).length=q.c.co.length:=by rw[Ly];omega
  unfold QP;rw[e];exact I
 exact QP.drop J
theorem QgK {v:Int}{y:YU}{l:List YU}{ss:LI}:rfr v i (y::l) (s::ss)=if v∈y.a.al/\(O9 y.a.ed s v).isSome=false then(i:Int)else rfr v (i+1) l ss:=rfl
theorem Qci {q:Sty}{vr:OY}{v:Int}(O:JI L b w.heap q)(hr:QP L' w.heap vr rs)(ho:∀x∈q.c.rq,ZD x.p.a)(hv:Vt (O3 q.c.V.rq) rs):
  Q3 prog 195 [.pointer (some ⟨b,0,none⟩),vr,oE oF v] w λr w'=>r=oE oF (rfr v 0 q.c.V.rq rs)/\O1 [] w w':=by
 have h4:=O.c.rq.arr.le;have h5:rs.length=q.c.rq.length:=by rw[hv.1];unfold O3;show((q.c.rq.map IV.it).map _).length=_;simp
 refine Zo (rfr v 0 q.c.V.rq rs) λR hR=>?_;rw[hR];refine Zq func195 ?_;refine Qc<|Qb<|Qd<|Qm<|Yl U<|Q7 U<|Qs U O.B U U<|QI O.c.rq.arr U<|Qa<|xe<|Qg<|QD (α:=Nat) [(6,11),(18,44)] (λz=>[(18,oE oF z)]) (λz w'=>z<=q.c.rq.length/\O1 [] w w'/\rfr v z ((q.c.rq.drop z).map (·.it)) (rs.drop z)=R) (λz=>q.c.rq.length - z) ol 0 La
  ⟨Lo _,O1.Z _ _,hR⟩ ?_
 rintro k g w1 ⟨hk,I,E⟩;refine Qc<|Q0 U U<|xe<|Qd<|QH U (λY=>?_) (λY=>?_)
 ·refine Qz ?_;have hp:q.c.rq.length<=k:=by have hq:¬(k:Int)<(q.c.rq.length:Int):=Y;omega
  rw[Lp hp]at E;have hs:R=-1:=E.symm;refine Qc<|Qb<|Qk ⟨[_],La,by rw[hs];rfl,I⟩
 have G:k<q.c.rq.length:=by have hq:(k:Int)<(q.c.rq.length:Int):=Y;omega
 have H:k<rs.length:=oa
 have ha:=Lk G;rw[JP G,Zd H,QgK]at E;have J:∀hz:k<(O3 q.c.V.rq).length,0<=rs[k]'H/\rs[k]'H<((O3 q.c.V.rq)[k]'hz).st:=λhz=>hv.2 k H hz;have hg:k<(O3 q.c.V.rq).length:=by unfold O3;show k<((q.c.rq.map IV.it).map _).length;simpa using G
 have J:=J hg;have ht:(O3 q.c.V.rq)[k]'hg=(q.c.rq[k]'G).p.a:=by unfold O3;show((q.c.rq.map IV.it).map _)[k]'_=_;simp[IV.it]
 rw[ht,ZG H]at J;rw[ZG H]at E;refine Qh<|Qd<|Qg<|Qm<|O4 Ys (O.c.rq.arr.I I) U U G λh6 hh=>?_;refine Zo (q.c.rq[k]'G) λy hy=>?_;rw[hy]at hh ha E J;have S:=(O.c.rq.each y ha).I I;have hi:=ho y ha;refine x (Qx hh U U)<|Qe<|Qo (us:=[.string .empty,nS,oE oF 0,nS,nS]) U λb8 w2 hu hw V=>x Ql <|
  Qe<|Qj (us:=QO y) V U U U U ⟨U,S.al.one,U,S.mr.one,S.ed.one,Z⟩ λw3 h0 V=>xe ?_
 have T:O1 [] w1 w3:=hu.O h0 hw;refine Qd<|Qc<|Q7 U<|Qs U V U U<|Qa<|QM<|(JZ (S.al.I T) hi.ali v).mono ?_;rintro r4 w4 ⟨rfl,rfl⟩;refine x (zi U)<|xe<|QX rfl (λhb=>?_) (λhb=>?_)
 ·rw[OP (λe=>hb e.1)]at E;refine Qz<|Qw<|QS U U<|Qa<|xe ?_;exact⟨k+1,oa,La,G,I.D T,E⟩
 have hj:v∈y.p.a.al:=Ln.1 hb;have hl:=Qmo hi J.1 J.2 hj;refine Qh ?_;have h1:=(hr.I I).I T;refine Qd<|ZI [] (Xx 0 15 [7])<|p (QR U)<|pq (λ_ hc=>Zs (us:=ZV y.p) (V.J hc oe) rfl rfl rfl)<|p QF<|p QF<|pic (i:=k) rfl h1 rfl rfl H λh7 h2 =>
  pq (λ_ hc=>QA (h2.I hc) U)<|p QF<|pk<|xg<|(Qi2 ((S.I T).I (O1.C _ _)) (O2 rs k) v).mono ?_
 rintro r5 w5 ⟨rfl,h3⟩;have hm:=(O1.C [] w4).D h3;refine⟨hm,?_⟩;refine p QF<|p (λ_=>Zn U U)<|p (λ_=>Zn U U)<|p (λ_=>Zn U U)<|p ZM <|
  p ZM<|p ZM<|pe ?_
 have hn:=(I.D T).D hm;refine Qm<|x (ZC U)<|xe<|QQ rfl (λhe=>?_) (λhe=>?_)
 ·have hf:(O9 y.p.a.ed (O2 rs k) v).isSome=false:=by rw[<-hl];simpa using he
  rw[OQ ⟨hj,hf⟩]at E;refine Qm<|Qb<|Qk ⟨[_],La,by rw[<-E];rfl,hn⟩
 have hf:¬(O9 y.p.a.ed (O2 rs k) v).isSome=false:=by rw[<-hl];simpa using he
 rw[OP (λe=>hf e.2)]at E;refine Qh<|Qw<|QS U U<|Qa<|xe ?_;exact⟨k+1,oa,La,G,hn,E⟩
open Go.RowKit
def XD (L:LN)(W W':OX):Prop:=∀(k:Nat) (o:Obj),k∉L->W.heap[k]?=some o->o.isCells=true->W'.heap[k]?=some o
theorem XD.refl (L:LN)(W:OX):XD L W W:=λ_ _ _ h _=>h
theorem XD.D {A B C:OX}(h:XD L A B)(k:XD L B C):XD L A C:=λi o E H G=>k i o E (h i o E H G) G
theorem XD.J {W:OX}(h:O1 L W W'):XD L W W':=λk _ G E _=>(h.block k (LO.1 E).1 G).D E
theorem At.cst {W:OX}{a:Addr}(h:At L W.heap a us)(I:XD L W W')(J:W.heap.size<=W'.heap.size):At L W'.heap a us:=by
 refine⟨h.out,λu G=>LT (h.lt u G) J,λj u G=>?_⟩;have E:=h.cell j u G;unfold cel at E ⊢;rw[YC]at E ⊢;cases H:W.heap[a.block]? with
 | none=>rw[H]at E;cases E
 | some o =>
  rw[H]at E;cases o with
  | cells c t m=>rw[I a.block _ (h.out u (Ms G)) H rfl];exact E
  | _=>cases E
theorem Zm.cst {L:LN}{W W':OX}{v:OY}{n sz:Nat}{cs:LV}(h:Zm L W.heap v n sz cs)(E:XD L W W')(G:W.heap.size<=W'.heap.size):Zm L W'.heap v n sz cs :=
 ⟨h.1,h.2.1,h.2.2.imp id λ⟨a,cap,H,I,J⟩=>⟨a,cap,H,I,J.cst E G⟩⟩
structure LwC (B:Nat)(L:LN)(W W':OX):Prop where
 lw:Lw B L W W'
 cst:XD L W W'
theorem LwC.D {B:Nat}{L:LN}{E w w':OX}(h:LwC B L E w)(k:LwC B L w w'):LwC B L E w':=⟨h.lw.D k.lw,h.cst.D k.cst⟩
def rdC {α:Type}(B:Nat)(L:LN)(I:List α->OX->Prop)(X:Exit->List α->OX->Prop)(xs:List α)(W:OX):Exit->LN->Fr->OX->Prop
 | .normal,_,_,W'=>Ks B L W W'/\XD L W W'/\I xs W'
 | .ret,_,_,W'=>Ks B L W W'/\X .ret xs W'
 | .exit i,_,_,W'=>Ks B L W W'/\X (.exit i) xs W'
 | _,_,_,_=>False
theorem QbY {m:Nat}{Q:Exit->LN->Fr->OX->Prop}{g:OZ}{ps:LN}{assign body:Code}(L:LN)(h1:1<=m)
    [hF:Fu P gf fn]  (hg:ev f g=.func (.func gf) #[] capt.toArray) {encs:α->LV} {S Sp:List α->Prop}  (hp:∀p∈ps,p<n) (hm:∀x,(encs x).length=ps.length)
  (hn:SeqStopsK (fen none) (m - 1) P gf capt.toArray (λx=>(encs x).toArray) (LwC w.heap.size L) S Sp N w)
  (I:List α->OX->Prop) (hI:∀s,Yt w.heap.size (I s)) (X:Exit->List α->OX->Prop) (hX:∀e s,Yt w.heap.size (X e s)) (h0:I [] w) (A:Fr->α->Fr->OX->Prop) (hA:∀x E,Yt w.heap.size (A f x E))
  (he:∀l pre x W,I pre W->WG (some l) (m - 1 - 1) P n assign (Qb6 (λhb E W'=>hb=[]/\Ks w.heap.size L W W'/\XD L W W'/\I pre W'/\A f x E W') (λ_ _ _ _=>False)) [] (Qb5 f ps (encs x)) W)
  (hf:∀l pre x E W,I pre W->A f x E W->pre.length<N->WG (some l) (m - 1 - 1) P n body (rdC w.heap.size L I X (pre++[x]) W) [] E W)
  (hq:∀D xs W,w.heap.size<=D->S xs->I xs W->W.heap[D]?=some (.deferred (some []))->Q .normal (D::ds) f W)
  (hh:∀D e pre W,w.heap.size<=D->Sp pre->X e pre W->W.heap[D]?=some (.deferred (some []))->(e=.ret\/∃i,e=.exit i)->Q e (D::ds) f W):
  WG none m P n (.rangeFunc g ps.toArray assign body) Q ds f w:=by
 unfold WG at he hf ⊢;intro a J;have eg:∀args w,(callFunc gf args).run P w=.ok (.enter gf args) w:=by
  intro args w;have h1:¬fn.name = "runtime.NumGoroutine" := by simpa using hF.nm
  have O:¬fn.body=none:=by have:=hF.b;intro e;rw[e]at this;cases this
  simp[callFunc,hF.f,h1,O]
 have keep:∀{W W':OX},Ks w.heap.size L W W'->KeepsFrom w.heap.size W W':=λh=>⟨h.lw.size,λk o _ T ho=>h.other k o T ho⟩;refine wpIn_rangeFunc_ownH (F:=fen none) U h1 (gf:=gf) (lb:=capt.toArray) (by rw[J.eval];exact hg) Z eg hn (λh k=>h.D k)
  (λW l o o' hl ho hs _=>⟨⟨U,U,U,oe,λk T _=>World.putObj_heap_other oa⟩,λk o2 _ T hc=>by
   have ht:k≠l:=λe=>by subst e;rw[ho]at T;cases T;rw[hs]at hc;cases hc
   rw[World.putObj_heap_other ht];exact T⟩) (Below.refl _ _) (λx=>by simp[hm x]) I
  (λc pre W=>match c with| .ret=>X .ret pre W| .exit i=>X (.exit i) pre W|_=>False) (Yt.own hI) (λc=>Yt.own λs=>?_) h0
  (λx V W=>∃E,Y5 n [] V E/\A f x E W) (λx V=>Yt.own λ_=>Yt.ex λE=>Yt.and (Yt.pure _) (hA x E)) ?_ ?_ ?_ ?_
 ·cases c <;> first|exact hX _ s|exact Yt.pure _
 ·intro l pre x W K hi hK;have hr:Y5 n [] { tmps:=(ps.toArray.zip (encs x).toArray).foldl (λt (p,v)=>t.setIfInBounds p v) a.tmps,defers:=[] } (Qb5 f ps (encs x)):=by
   have O:Y5 n [] { a with defers:=[] } f:=⟨J.size,U,J.get⟩
   have H:=UG ps (encs x) _ _ O hp;have e:(ps.toArray.zip (encs x).toArray).foldl (λt (p,v)=>t.setIfInBounds p v) a.tmps=(ps.zip (encs x)).foldl (λt (x:Nat×OY)=>t.setIfInBounds x.1 x.2) a.tmps:=oe
   rw[e];exact H
  refine wpIn_mono (he l pre x W hi _ hr) ?_;rintro e V W' ⟨hb,E,O,_,H⟩;cases e with
  | normal=>obtain⟨rfl,h4,hu,G,h6⟩:=H;exact hK V W' (keep h4) ⟨h4.lw,hu⟩ G ⟨E,O,h6⟩
  | exit id=>exact H.elim
  | goto l=>exact H.elim
  | ret=>exact H.elim
  | panic ch=>exact H.elim
  | outgrown=>exact H.elim
 ·rintro l pre x V W _ _ hi ⟨E,O,H⟩ hv;refine wpIn_mono (hf l pre x E W hi H hv V O) ?_;rintro e hw W' ⟨hb,hy,h4,_,G⟩;cases e with
  | normal=>exact⟨keep G.1,⟨G.1.lw,G.2.1⟩,G.2.2⟩
  | exit id=>exact⟨keep G.1,G.2⟩
  | goto l=>exact G.elim
  | ret=>exact⟨keep G.1,G.2⟩
  | panic ch=>exact G.elim
  | outgrown=>exact G.elim
 ·intro D xs W Y hS hi hd;exact⟨D::ds,f,⟨J.size,by rw[show coll (D::ds)={ target:=.collected D,args:=#[] }::coll ds from rfl,J.defers],J.get⟩,λ_ _=>rfl,hq D xs W Y hS hi hd⟩
 intro D c pre W Y hS hx hd;have hj:Y5 n (D::ds) { a with defers:={ target:=.collected D,args:=#[] }::a.defers } f:=⟨J.size,by rw[show coll (D::ds)={ target:=.collected D,args:=#[] }::coll ds from rfl,J.defers],J.get⟩
 cases c with
 | ret=>exact wpIn_ret ⟨_,f,hj,λ_ _=>U,hh D .ret pre W Y hS hx hd (.inl U)⟩
 | exit i=>exact wpIn_exit ⟨_,f,hj,λ_ _=>U,hh D (.exit i) pre W Y hS hx hd (.inr ⟨i,U⟩)⟩
 | _=>exact hx.elim
theorem xy2 {m:Nat}{rest:xx}{pS:String}{x z:OZ}{l:Nat}{R:Ending->OX->Prop}
  (hx:ev f x=.func (.yield l) #[] #[]) (E:YieldAt (fen none) (m - 1) P l #[ev f y,ev f z] w R) (hK:∀e w',R e w'->∃v,e=.returned v/\JG P m ops K rest (QT f d v) w')
  (G:Ya ops f ⟨d,.call ⟨.value x,#[y,z],at_⟩,ty,pS,af,gd⟩=true:=by rfl):
  JG P m ops K (⟨d,.call ⟨.value x,#[y,z],at_⟩,ty,pS,af,gd⟩::rest) f w:=by
 obtain⟨fn,tmps,assign,body,H,I⟩:=E;have J:(execOp (ev f) ⟨d,.call ⟨.value x,#[y,z],at_⟩,ty,pS,af,gd⟩).run P w=.ok (.round l fn tmps assign body) w:=by
  simp[execOp,resolve,hx,Deferred.ofValue,invoke,H]
 unfold JG;rw[G];simp only[XOY,J,upY,cond_true];exact I.mono λe w' h=>by obtain⟨v,rfl,O⟩:=hK e w' h;exact O
def wrf (rq:List YU)(rs:LI):LI->List (Int×Int)
 | []=>[]
 | v::l=>if 0<=rfr v 0 rq rs then(v,rfr v 0 rq rs)::wrf rq rs l else wrf rq rs l
theorem QaB (rq:List YU)(rs:LI)(v:Int):∀l,wrf rq rs (l++[v])=wrf rq rs l++if 0<=rfr v 0 rq rs then[(v,rfr v 0 rq rs)]else[]
 | []=>by simp only[Oi,wrf]
 | a::l=>by
  simp only[o8,wrf,QaB rq rs v l];by_cases h:0<=rfr a 0 rq rs
  ·rw[OQ h,OQ h];rfl
  rw[OP h,OP h]
theorem Vw (rq:List YU)(rs:LI)(b:LI):∀a,wrf rq rs (a++b)=wrf rq rs a++wrf rq rs b
 | []=>rfl
 | x::a=>by
  simp only[o8,wrf,Vw rq rs b a];by_cases h:0<=rfr x 0 rq rs
  ·rw[OQ h,OQ h];rfl
  rw[OP h,OP h]
theorem QjI (rq:List YU)(rs:LI)(l:LI)(k:Nat):(wrf rq rs (l.take k)).length<=(wrf rq rs l).length:=by
 have h:=Vw rq rs (l.drop k) (l.take k);rw[MS]at h;rw[h,Ll];omega
theorem Qf8 {rq:List YU}{k:Nat}(h:k<l.length):wrf rq rs (l.take (k+1))=wrf rq rs (l.take k)++if 0<=rfr (O2 l k) 0 rq rs then[(O2 l k,rfr (O2 l k) 0 rq rs)]else[]:=by
 rw[Lm h,QaB,ZG h]
theorem qC {rq:List YU}{rs:LI}{x:Int×Int}:∀{l:LI},x∈wrf rq rs l↔x.1∈l/\0<=x.2/\x.2=rfr x.1 0 rq rs
 | []=>by simp[wrf]
 | v::l=>by
  rw[wrf];have ih:=qC (rq:=rq) (rs:=rs) (x:=x) (l:=l);by_cases h:0<=rfr v 0 rq rs
  ·rw[OQ h,Li,ih,Li];constructor
   ·rintro(rfl|⟨E,G⟩)
    ·exact⟨.inl U,h,U⟩
    exact⟨.inr E,G⟩
   rintro⟨E|E,G,H⟩
   ·exact .inl (by rw[<-E];exact Prod.ext_iff.2 ⟨U,H⟩)
   exact .inr ⟨E,G,H⟩
  rw[OP h,ih,Li];constructor
  ·rintro⟨E,G⟩;exact⟨.inr E,G⟩
  rintro⟨E|E,G,H⟩
  ·exact OS (by rw[<-E,<-H];exact G) h
  exact⟨E,G,H⟩
theorem U6 {st:Int}{vr:OY}(J:vr.cells=#[vr]):
  Q3 prog 128 [.pointer (some ⟨b,0,none⟩),oE oF st,vr] w λr w'=>O1 [] w w'/\∃b1 b2 E,r=.func (.func 193) #[] #[.pointer (some ⟨b1,0,none⟩),.pointer (some ⟨b2,0,none⟩),.pointer (some ⟨E,0,none⟩)] /\
   w.heap.size<=b1/\w.heap.size<=b2/\w.heap.size<=E/\Q9 w'.heap b1 261 [.pointer (some ⟨b,0,none⟩)]/\Q9 w'.heap b2 3 [oE oF st]/\Q9 w'.heap E 56 [vr]:=by
 refine Zq func128 ?_;refine Qc<|Qe<|QW (us:=[.pointer (some ⟨b,0,none⟩)]) U λE w1 I O S=>Qe<|QW (us:=[oE oF st]) U λT w2 G hb V=>Qe<|QW (us:=[vr]) J λY w3 H hc ha=>x Ql <|
  xe ?_
 have he:=I.size;have hf:=G.size;refine Qc<|x Zz<|Qb<|Qk ⟨[_],La,(I.D G).D H,E,T,Y,U,O,oa,oa,(S.I G).I H,V.I H,ha⟩
theorem V2 {O m:Nat}{q:Sty}{vr:OY}{es:LI}{st:Int}{fl:xq}(hs:Q9 w.heap b1 261 [.pointer (some ⟨b,0,none⟩)])(h5:Q9 w.heap b2 3 [oE oF st])(h6:Q9 w.heap O 56 [vr])
  (h7:b1∉L) (h8:O∉L) (hA:∀x∈L,x<w.heap.size) (hS:JI L b w.heap q) (hr:QP L w.heap vr rs) (hB:∀x∈q.c.rq,ZD x.p.a) (hv:Vt (O3 q.c.V.rq) rs) (G:cks q.p.a st=0) (ht:enb q.p.a st=es) (hg:wrf q.c.V.rq rs es=fl):
  SeqStopsK (fen none) m prog 193 #[.pointer (some ⟨b1,0,none⟩),.pointer (some ⟨b2,0,none⟩),.pointer (some ⟨O,0,none⟩)] (λx:{ x:Int×Int // x∈fl }=>[oE oF x.1.1,oE oF x.1.2].toArray) (LwC w.heap.size L)
   (λys=>ys.map (·.1)=fl) (λpre=>pre.map (·.1) <+: fl) fl.length w:=by
 intro l J Jx W hC hJ hD hY h0;have ha:O1 [] w W:=O1.of_below hC;have ab:∀{ys:List { x:Int×Int // x∈fl }} {W1 W2:OX},J ys W1->O1 [] W1 W2->J ys W2:=λ{ys W1 W2} hj hb=>hJ ys W1 W2 none hj ⟨hb.os,hb.tape,hb.output,hb.size,λk hk _=>hb.block k hk oe⟩ (λr e=>by cases e);have hE:es.length<=1099511627776:=by
  have E:=hS.p.ed.le;have h2:=KO q.p.a.ed st;rw[<-ht];unfold enb;rw[Lh];omega
 have hF:=QjI q.c.V.rq rs es;rw[hg]at hF;have key:Q3 prog 193 [.func (.yield l) #[] #[],.pointer (some ⟨b1,0,none⟩),.pointer (some ⟨b2,0,none⟩),.pointer (some ⟨O,0,none⟩)] W (λ_ W'=>(∃ys,ys.map (·.1)=fl/\J ys W')\/(∃pre,pre.map (·.1) <+: fl/\Jx pre W')):=by
  refine Q3.of_G m func193 U ntmps193 results193 oe ?_;have hG:=hs.I ha;have hH:=h5.I ha;have hu:=hS.I ha;refine Zg<|ym (O1 [] W) [oC 0,oC 1,oC 2,oC 3,oC 4,oD 5,oC 6,oC 7,oC 8,oC 9,oC 10] mixed ol ol od (O1.C _ _) ?_;refine pq (λ_ G=>Qr (hG.I G) U U)<|p (Y9 U)<|p (QR U)<|pq (λ_ G=>Zs (us:=ZV q.p) (hu.B.I G) U U U)<|pq (λ_ G=>Qr (hH.I G) U U)<|pk<|xg<|(Qda (hu.p.I (O1.C _ _)) st).mono ?_;rintro r1 w1 ⟨hI,ve,rfl,_,hh⟩;have hh:=hh G;have ho:=(O1.C [] W).D hI;refine⟨ho,?_⟩;refine p QF<|p (λ_=>Zn U U)<|p (λ_=>Zn U U)<|p ZM<|p ZM<|pe ?_;have hN:=ha.size;have hO:({ W with drawn:=W.drawn+1 }:OX).heap.size=W.heap.size:=rfl
  rw[ht]at hh;have hw:QP L w1.heap ve es:=Qv.ints hh hE (λx hx=>ot (hA x hx));refine Zg<|QL ol ol<|Qa<|QI hw U<|Qa<|xe<|Z7<|U4 (α:=Nat×List { x:Int×Int // x∈fl }) [(8,9),(21,38)] (λz=>[(21,oE oF z.1)]) (λz ds W'=>ds=[]/\z.1<=es.length/\O1 L w W'/\QP L W'.heap ve es/\z.2.map (·.1)=wrf q.c.V.rq rs (es.take z.1)/\J z.2 W') (λz=>es.length - z.1) ol (0,[]) La
   ⟨U,Lo _,(ha.D ho).any,hw,U,ab h0 ho⟩ ?_
  rintro⟨k,ys⟩ g ds w2 ⟨rfl,hk,S,hi,T,hl⟩;simp only[]at hk hi T hl;refine Zg<|QL ol ol<|Q0 U U<|xe<|Zg<|jH U (λhp=>?_) (λhp=>?_)
  ·refine K6 ?_;have hK:es.length<=k:=by have hm:¬(k:Int)<(es.length:Int):=hp;omega
   rw[Lr hK,hg]at T;exact⟨λ_ h=>(by cases h),ME,[],λW' H=>⟨Z,.inl ⟨ys,T,ab hl H⟩⟩⟩
  refine YG ?_;have V:k<es.length:=by have hm:(k:Int)<(es.length:Int):=hp;omega
  have I:=Qf8 (rq:=q.c.V.rq) (rs:=rs) V;have hy:O2 es k∈es:=by rw[<-ZG V];exact Lk V
  refine Zo (O2 es k) λv hz=>?_;rw[hz]at I hy;refine Zo (rfr v 0 q.c.V.rq rs) λj hj=>?_;rw[hj]at I;refine Zg<|Z7<|Zg<|QL ol ol<|xic (i:=k) hi U U V λhP hm=>?_;rw[hz]at hm;refine x (QA hm U)<|Qb<|Zg<|QL ol ol<|X2 (hs.J S h7) U U<|X2 (h6.J S h8) U U<|Qa<|QM<|(Qci (v:=v) (hS.st S) (hr.st S) hB hv).mono ?_;rintro r3 w3 ⟨h3,Y⟩;rw[hj]at h3;subst h3;refine Qb<|Zg<|Vj ol ?_;refine JG.pre3 ?_;refine Qa<|xb (Yw U U) (λhq=>?_) (λhq=>?_)
  ·have hn:0<=j:=hq;have hf:(v,j)∈fl:=by rw[<-hg];exact qC.2 ⟨hy,hn,hj.symm⟩
   rw[OQ hn]at I;have h4:(ys++[(⟨(v,j),hf⟩:{ x:Int×Int // x∈fl })]).map (·.1) <+: fl:=by
    rw[Lt,T,show[(⟨(v,j),hf⟩:{ x:Int×Int // x∈fl })].map (·.1)=[(v,j)] from rfl,<-I,<-hg];have h9:=Vw q.c.V.rq rs (es.drop (k+1)) (es.take (k+1));rw[MS]at h9;exact⟨_,h9.symm⟩
   have hL:ys.length<fl.length:=by have E:=h4.length_le;rw[Lh,Ll,LF]at E;omega
   refine Qa<|xe<|JG.pre3 ?_;refine Qa<|Qa<|Qa<|xe<|xy2 (l:=l) U (hY ys ⟨(v,j),hf⟩ w3 (ab hl Y) hL) λen W3 hM=>Or.elim hM (λE=>⟨.bool true,E.1,?_⟩) (λE=>⟨.bool false,E.1,?_⟩)
   ·refine JG.of_XL<|x (ZC U)<|QG U<|xe<|Vk U<|YG ?_;refine QL ol ol<|QS U U<|Qa<|xe ?_;exact⟨(k+1,ys++[⟨(v,j),hf⟩]),oh,La,U,V,(S.D Y).lw E.2.2.lw,(hi.I Y).cst E.2.2.cst E.2.2.lw.size,by simp only[];rw[I,Lt,T];rfl,E.2.1⟩
   refine JG.of_XL<|x (ZC U)<|QG U<|xe<|Qar U ?_;refine K5 ⟨λ_ h=>(by cases h),ME,[],λW' H=>⟨Z,.inr ⟨ys++[⟨(v,j),hf⟩],h4,?_⟩⟩⟩;exact hD _ W3 W' none E.2 ⟨H.os,H.tape,H.output,H.size,λk hk _=>H.block k hk oe⟩ (λr e=>by cases e)
  have hn:¬0<=j:=hq;rw[OP hn,LK]at I;refine Qa<|xe<|JG.of_XL<|Qp<|Qp<|Qp<|Qp<|Qp<|QG U<|xe<|Vk U<|YG ?_;refine QL ol ol<|QS U U<|Qa<|xe ?_;exact⟨(k+1,ys),oh,La,U,V,S.D Y,hi.I Y,by simp only[];rw[I,T],ab hl Y⟩
 refine(callsIn_wide (n:=m)).2 ?_;have ea:(#[.func (.yield l) #[] #[]]++[.pointer (some ⟨b1,0,none⟩),.pointer (some ⟨b2,0,none⟩),.pointer (some ⟨O,0,none⟩)].toArray:Array OY)=#[.func (.yield l) #[] #[],.pointer (some ⟨b1,0,none⟩),.pointer (some ⟨b2,0,none⟩),.pointer (some ⟨O,0,none⟩)]:=oe
 rw[ea];unfold Q3 at key;refine Calls.mono key λe w' he=>?_;cases e with
 | returned v=>exact⟨⟨v,U⟩,he⟩
 | panicked c=>exact he.elim
 | outgrown=>exact he.elim
section
variable {pS:String}
theorem Yx [h1:Ag P t sz]{x:OZ}{o:Nat}{cs':LV}(E:Q9 w.heap b T cs)(hx:ev f x=.pointer (some ⟨b,o,none⟩))(H:ev f y=.agg us.toArray)(hl:us.length=sz)(O:o+sz<=cs.length)(I:Zp us)(J:cs.take o++us++cs.drop (o+sz)=cs')
  (hK:∀w',O1 [b] w w'->Q9 w'.heap b T cs'->K (QT f d undef) w'):XO P ⟨d,.store t x y,ty,pS,af,gd⟩ f w K:=by
 have G:=run_storeCells_at P b o T us 0 cs.toArray w E (by simp;omega) I.all;subst hl;simp only[OB,J]at G;refine xk (w':=w.setRow b cs'.toArray) ?_ (hK _ (O1.setRow _ _ _) (XJ E));simp[execOp,hx,H,Instr.storeAt,Instr.sureAddr,storeVar,UE (sz:=us.length),Value.cells,G]
end
instance:Bw prog 266 [nS,nS,nS,nS,nS,nS,oE oF 0,nS,nS,nS,nS,oE oF 0,nS,nS,nS,nS,nS,nS,.map none] [(0,5),(5,4),(9,1),(10,4),(14,1),(15,3),(18,1)]:=⟨od,og⟩
theorem YL.shape {v:OY}{c:Int}(h:YL N H aa v vt c):∃(a:Q2) (va vm ve:OY) (qs:List TV),v=.agg #[va,oE oF a.st,vm,ve]/\Zp [va,oE oF a.st,vm,ve]/\vt.oneCell'=true /\
  (c=0->xd aa=some (a,qs.map (·.2))/\Uz aa=0/\∀L:LN,(∀b∈L,b<N)->ZH L H va vm ve a/\JH L H vt qs):=by
 by_cases G:c=0
 ·obtain⟨⟨va,vm,ve,I,E⟩,⟨qs,T,O⟩,V,Y⟩:=h.good G;have J:=E [] oe;exact⟨syA aa,va,vm,ve,qs,I,⟨J.al.one,U,J.mr.one,J.ed.one,Z⟩,(O [] oe).arr.one,λ_=>⟨by rw[T];exact V,Y,λL S=>⟨E L S,O L S⟩⟩⟩
 obtain⟨I,E⟩:=h.bad G;exact⟨⟨[],0,[],[]⟩,Z8,Z8,Z8,[],I,oB,by rw[E];rfl,λe=>OS e G⟩
def plE (c:Zx):Int:=if Zi c≠0 then Zi c else QaJ (O3 c.co)
theorem jF.shape {N:Nat}{H:xu}{c:Zx}{v vt:OY}{e:Int}(h:jF N H c v vt e):e=plE c/\∃(a:Q2) (va vm ve:OY) (qs:List TV),v=.agg #[va,oE oF a.st,vm,ve]/\Zp [va,oE oF a.st,vm,ve]/\vt.oneCell'=true /\
  (e=0->Zi c=0/\xd (O3 c.co)=some (a,qs.map (·.2))/\Uz (O3 c.co)=0/\∀L:LN,(∀b∈L,b<N)->ZH L H va vm ve a/\JH L H vt qs):=by
 unfold jF at h;unfold plE;by_cases E:Zi c≠0
 ·rw[OQ E]at h ⊢;obtain⟨G,I,J⟩:=h;exact⟨G,⟨[],0,[],[]⟩,Z8,Z8,Z8,[],I,oB,by rw[J];rfl,λe=>OS (G.symm.D e) E⟩
 rw[OP E]at h ⊢;obtain⟨a,va,vm,ve,qs,G,I,J,O⟩:=h.shape;exact⟨h.e,a,va,vm,ve,qs,G,I,J,λe=>⟨Ln.1 E,O e⟩⟩
theorem QjU (c:Zx):YS c=if plE c≠0 then plE c else QaJ (O3 c.co++O3 c.rq):=by
 rw[QjV];unfold plE;by_cases h:Zi c≠0
 ·rw[OQ h,OQ h,OQ h]
 rw[OP h,OP h]
theorem QlC {ps:List AV}(h:∀p∈ps,ZH L H p.va p.vm p.ve p.a):∀u∈ps.flatMap ZV,u.oneCell'=true:=by
 intro u I;obtain⟨p,J,G⟩:=Ma.1 I;have E:=h p J;simp only[oK,oI,or_false]at G;rcases G with rfl|rfl|rfl|rfl
 ·exact E.al.one
 ·rfl
 ·exact E.mr.one
 exact E.ed.one
theorem Qnf {F:LN->Array Obj->Prop}(st:∀{L:LN}{w w':OX},F L w.heap->O1 L w w'->F L w'.heap)(up:∀{L L':LN}{H:xu},F L H->(∀b∈L',b∈L\/H.size<=b)->F L' H)
  (h:∀L:LN,(∀x∈L,x<N)->F L w.heap) (E:b<N) (G:O1 [b] w w'):∀L:LN,(∀x∈L,x<N)->F L w'.heap:=λL I =>
 up (st (h (b::L) (λx hx=>by
  rcases Li.1 hx with rfl|hx
  ·exact E
  exact I x hx)) (G.mono (λx hx=>by simp only[oH]at hx;subst hx;exact Lq))) (λx hx=>.inl (Lj _ hx))
theorem U3.nil (n:Nat):U3 n [] []:=λu _ _=>by simp[O6]
theorem QbP {c:CL}(h0:ZJ L w.heap c)(h4:Kb w 4096):
  Q3 prog 124 [c.val] w λr w'=>O1 [] w w'/\∃vp,r=.tuple #[vp,oE oF (YS c.V)]/\(YS c.V≠0->vp=.pointer none) /\
   (YS c.V=0->∃b q,vp=.pointer (some ⟨b,0,none⟩)/\q.c=c/\QpQ q/\JI [] b w'.heap q/\∀L:LN,(∀x∈L,x<w.heap.size)->ZH L w'.heap q.s.va q.s.vm q.s.ve q.s.a/\(ZJ L w.heap c->JI L b w'.heap q)):=by
 have h:=h0.up (L':=[]) oe;have hE:=QjU c.V;refine Zo (YS c.V) λE hEq=>?_;rw[hEq]at hE ⊢;refine Zq func124 ?_;refine Qc<|Qe<|QW (us:=c.cells) U λb1 w1 gu mj h6=>x Ql<|Qb ?_;have mn:=h6.lt;refine Qc<|Q6 h6 U U<|x (Zc [(0,c.cells)] ⟨U,U,Z⟩)<|Qe<|QW (us:=[c.ve,c.vc,c.vr,c.vx,c.vk,nS,oE oF 0,nS,nS,nS,nS,oE oF 0,nS,nS,nS,nS,nS,nS,.map none]) U λG w2 hO mo I=>Qb ?_;have h7:=gu.D hO;have gv:=I.lt;have hQ:=h6.I hO;have h2:=h.I h7;have hge:w.heap.size<=G:=oa
 have mq:b1≠G:=oa
 refine Qc<|Qb<|Qd<|Qm<|Qa<|Q6 hQ U U<|QM<|(Qjb h2 (h4.I h7)).mono ?_;rintro r3 w3 ⟨hh,v3,vq,e3,rfl,hP⟩;obtain⟨h8,pa,pva,pvm,pve,qs,rfl,gw,gx,gy⟩:=hP.shape;have gz:=h7.D hh;refine Qa<|QZ U U<|QZ U U<|QZ U U<|Yl U<|Q7 U<|Qe<|Yx (us:=[pva,oE oF pa.st,pvm,pve]) (I.I hh) U U U oe gw rfl λw4 g0 I =>
  Yl rfl<|Q7 U<|Qe<|QE (j:=9) (u:=vq) I U U oe gx λw5 g2 I=>Qb ?_
 have hi:O1 [G] w3 w5:=g0.Q g2;have hj:O1 [] w w5:=gz.O hi hge;refine Qm<|ZB U U<|xe<|QX rfl (λhn=>?_) (λhn=>?_)
 ·have g3:plE c.V≠0:=by rw[<-h8];exact hn
  rw[OQ g3,<-h8]at hE;subst hE;refine Qm<|x Ql<|Qb<|Qk ⟨[_,_],oz,hj,.pointer none,U,λ_=>U,λe=>OS e hn⟩
 have hS:e3=0:=Ln.1 hn;rw[OP (by rw[<-h8,hS];decide)]at hE;obtain⟨hT,hA,ms,g4⟩:=gy hS;have he:=ZZ hT;refine Qh ?_;have hB:=(hQ.I hh).J hi (by simp;omega);have h5:=h.I hj;have mt:=h.co.arr.le;have mu:=h.rq.arr.le;have mv:c.co.length<=8:=by have:=he.c8;have e:c.V.co.length=c.co.length:=Lh ..;omega
 have mw:c.co.length+c.rq.length<=12:=by have:=he.cr;have e:c.V.co.length=c.co.length:=Lh ..;have e':c.V.rq.length=c.rq.length:=Lh ..;omega
 refine Qd<|Qd<|ZI [] [oC 0,oC 1,oC 2,oC 3,oC 5,oC 6,oD 4,oD 7,oD 8,oD 9,oC 10,oC 11,oC 12,oC 13,oC 14,oC 15,oD 16,oC 17,oC 18,oD 19,oC 20]<|p QF<|p QF<|p (QR U)<|pq (λ_ hc=>Qr (hB.J hc oe) rfl rfl)<|p (QR rfl) <|
  pq (λ_ hc=>Qr (hB.J hc oe) rfl rfl)<|pk<|xg<|(Qcz (h5.co.I (O1.C _ _))).mono ?_
 rintro r6 w6 ⟨hU,hV⟩;have hC:=(O1.C [] w5).D hU;refine⟨hC,?_⟩;refine pk<|xg<|(Qcz (h5.rq.I hC)).mono ?_;rintro r7 w7 ⟨hD,g5⟩;have hW:=hC.D hD;refine⟨hW,?_⟩;have my:=hU.size;have mz:=hD.size;have m2:({ w5 with drawn:=w5.drawn+1 }:OX).heap.size=w5.heap.size:=rfl
 have g6:Zm [] w7.heap r7 (c.rq.map (·.p)).length 4 ((c.rq.map (·.p)).flatMap ZV):=QK g5 (by rw[Lh];omega) oe;have g7:=Qi hV;refine pk<|Qcn (Qq hV hD) U g6 U (QlC λp S=>by
   obtain⟨q,T,rfl⟩:=LC.1 S;exact(h.rq.each q T)) (by rw[Lh,Lh];omega) oa λv8 w8 hX g8 m3=>?_
 have ho:O1 [] w5 w8:=hW.then g8 (λb hb=>.inr (ot (g7 b hb).1));refine⟨ho,?_⟩;have hF:=hj.D ho;have m4:=ho.size;have g9:Kf [] w8.heap v8 (c.co.map (·.p)++c.rq.map (·.p)):=by
  rw[<-Ll,<-LB]at hX;exact QhE hX (by rw[Ll,Lh,Lh];omega) oe (λp S=>by
   rcases Lc.1 S with S|S
   ·obtain⟨q,T,rfl⟩:=LC.1 S;exact(h.co.each q T).I hF
   obtain⟨q,T,rfl⟩:=LC.1 S;exact(h.rq.each q T).I hF)
 have ka:∀p∈c.co.map (·.p)++c.rq.map (·.p),ZD p.a:=λp S=>by
   rcases Lc.1 S with S|S
   ·obtain⟨q,T,rfl⟩:=LC.1 S;exact he.co q.it (LJ T)
   obtain⟨q,T,rfl⟩:=LC.1 S;exact he.rq q.it (LJ T)
 refine pk<|xg<|(QbX (km:=4096) g9 (h4.I hF) og (Qdt ka)).mono ?_;rintro r9 w9 ⟨kb,v9,vt,e9,rfl,hR⟩;rw[Lt,Qeo,QlD]at hR;have hY:=hR.e;obtain⟨sa,sva,svm,sve,ts,rfl,kc,ke,kf⟩:=hR.shape;have hG:=ho.D kb;refine⟨hG,?_⟩;refine p QF<|p (λ_=>Zn U U)<|p (λ_=>Zn U U)<|p (λ_=>Zn U U)<|p (Y9 U) <|
  p (QR rfl)<|pkl (hl:=by kernel_rfl)<|Yx (us:=[sva,oE oF sa.st,svm,sve]) (I.I hG) U U U oe kc rfl λm5 kg I=>p (Y9 rfl)<|p (QR rfl) <|
  pkl (hl:=by kernel_rfl)<|QE (j:=14) (u:=vt) I U U oe ke λhr kh I=>p ZM<|pe ?_
 have hZ:O1 [G] w9 hr:=kg.Q kh;have ht:O1 [G] w5 hr:=hG.any.Q hZ;have hu:O1 [] w hr:=hj.O ht hge;refine Qm<|ZB U U<|xe<|QX rfl (λhH=>?_) (λhH=>?_)
 ·rw[<-hY]at hE;subst hE;refine Qm<|x Ql<|Qb<|Qk ⟨[_,_],oz,hu,.pointer none,U,λ_=>U,λe=>OS e hH⟩
 have ga:e9=0:=Ln.1 hH;have gb:E=0:=by rw[hE,<-hY,ga]
 obtain⟨ki,m6,kj⟩:=kf ga;refine Qh ?_;have kk:=hB.J ht (by simp;omega);refine Qm<|Qa<|Q6 kk U U<|QM<|(jy (h.I hu)).mono ?_;rintro m7 V ⟨hg,vs,vx,vk,qx,ks,rfl,kn,ko,gc⟩;have hI:=gc [] oe;refine Qe<|Yy Jt λbm kq gg m8 kr=>Yl U<|Q7 U<|Qe<|Yx (us:=[vs,vx,vk]) ((I.I hg).I gg) U U U oe ⟨hI.1.one,hI.2.1.arr.one,hI.2.2.arr.one,Z⟩ rfl λm9 gh I =>
  Yl rfl<|Q7 U<|Qe<|QE (j:=18) (u:=.map (some bm)) I U U oe rfl λhJ gi I=>xe ?_
 have pc:=hu.size;have pd:=hg.size;have pf:=ht.size;have pg:=hi.size;have ph:=hh.size;have pj:G<V.heap.size:=oa
 have kt:bm≠G:=oa
 have gj:O1 [G] V hJ:=(gg.any.Q gh).Q gi;have ku:O1 [G] kq hJ:=gh.Q gi;have kv:Yi Jt hJ.heap bm []:=kr.J ku (oy kt);have kw:O1 [G] w3 V:=(hi.Q ht).D hg;have kx:O1 [G] w9 V:=hZ.D hg;have kz:=hu.D hg;have fP:∀{w':OX},O1 [G] V w'->∀L:LN,(∀x∈L,x<w2.heap.size)->ZH L w'.heap pva pvm pve pa/\JH L w'.heap vq qs:=λJ =>
  Qnf (F:=λL H=>ZH L H pva pvm pve pa/\JH L H vq qs) (λh J=>⟨h.1.st J,h.2.st J⟩) (λh O=>⟨h.1.up O,h.2.up O⟩) g4 gv (kw.Q J)
 have fS:∀{w':OX},O1 [G] V w'->∀L:LN,(∀x∈L,x<w8.heap.size)->ZH L w'.heap sva svm sve sa/\JH L w'.heap vt ts:=λJ =>
  Qnf (F:=λL H=>ZH L H sva svm sve sa/\JH L H vt ts) (λh J=>⟨h.1.st J,h.2.st J⟩) (λh O=>⟨h.1.up O,h.2.up O⟩) kj oa (kx.Q J)
 have fC:∀{w':OX},O1 [G] V w'->∀L:LN,(∀x∈L,x<hr.heap.size)->QP L w'.heap vs (szs c.V.co)/\yp L w'.heap vx qx/\yB L w'.heap vk ks:=λJ =>
  Qnf (F:=λL H=>QP L H vs (szs c.V.co)/\yp L H vx qx/\yB L H vk ks) (λh J=>⟨h.1.st J,h.2.1.st J,h.2.2.st J⟩) (λh O=>⟨h.1.up O,h.2.1.up O,h.2.2.up O⟩) gc oa J
 have gk:=(qD (YQ he.co) hA).1;have k0:=(Jh (YQ he.co) hA).1.nd;simp only[]at gk;have k4:(O3 c.V.co).length=c.co.length:=by unfold O3;show((c.co.map IV.it).map _).length=_;simp
 have gl:=(fP gj [] oe).2;have pm:=gl.arr.le;refine Qd<|Qm<|Yl U<|Qs U I U U<|QI gl.arr U<|Qa<|xe<|Qg<|QD (α:=Nat×List (ByteArray×OY)) [(6,7),(61,73)] (λz=>[(61,oE oF z.1)]) (λz w'=>z.1<=qs.length/\O1 [G] V w'/\Q9 w'.heap G 266 [c.ve,c.vc,c.vr,c.vx,c.vk,pva,oE oF pa.st,pvm,pve,vq,sva,oE oF sa.st,svm,sve,vt,vs,vx,vk,.map (some bm)]/\Yi Jt w'.heap bm z.2/\U3 c.co.length z.2 ((qs.take z.1).map (·.2))) (λz=>qs.length - z.1) ol (0,[]) La
  ⟨Lo _,gj,I,kv,U3.nil _⟩ ?_
 rintro⟨k,mm⟩ g gm ⟨hk,Y,hv,hw,hy⟩;simp only[]at hk hw hy;have hz:O1 [] w gm:=kz.O Y hge;refine Qc<|Q0 U U<|xe<|Qd<|QH U (λhK=>?_) (λhK=>?_)
 ·refine Qz ?_;have k5:qs.length<=k:=by have k6:¬(k:Int)<(qs.length:Int):=hK;omega
  rw[Lr k5]at hy;refine Qm<|x Ql<|Qb ?_;have aP:=fP Y [] oe;have aS:=fS Y [] oe;have aC:=fC Y [] oe;refine Qk ⟨[_,_],oz,hz,.pointer (some ⟨G,0,none⟩),by rw[gb];rfl,λe=>OS gb e,λ_=>⟨G,⟨c,⟨pva,pvm,pve,pa⟩,vq,qs,⟨sva,svm,sve,sa⟩,vt,ts,vs,vx,vk,qx,ks,bm,mm⟩,U,U,⟨hT,hA,ki,kn,ko,hy⟩,⟨hv,oe,h.I hz,aP.1,aS.1,aP.2,aS.2,aC.1,aC.2.1,aC.2.2,oe,hw⟩,λL O=>?_⟩⟩;have bP:=fP Y L (λb hb=>ot (O b hb));have bS:=fS Y L (λb hb=>ot (O b hb));have bC:=fC Y L (λb hb=>ot (O b hb));exact⟨bS.1,λk7=>⟨hv,λhm=>ot (O _ hm),k7.I hz,bP.1,bS.1,bP.2,bS.2,bC.1,bC.2.1,bC.2.2,λhm=>by have h9:bm<w.heap.size:=O bm hm;omega,hw⟩⟩
 have hf:k<qs.length:=by have k6:(k:Int)<(qs.length:Int):=hK;omega
 have gn:=(fP Y [] oe).2;have hM:=Lk hf;have hN:(qs.take (k+1)).map (·.2)=(qs.take k).map (·.2)++[(qs[k]'hf).2]:=by rw[Lm hf,Lt];rfl
 have go:(qs[k]'hf).2∉(qs.take k).map (·.2):=by
  have h1:((qs.take (k+1)).map (·.2)).Nodup:=by
   rw[Nr];exact k0.sublist (List.take_sublist _ _)
  rw[hN]at h1;intro hm;exact(MK.1 h1).2.2 _ hm _ (Lb.2 U) U
 have k8:((qs.take k).map (·.2)).length=k:=by rw[Lh,Ly];omega
 refine Qh<|Qd<|Qg<|Qm<|O4 (g:=YE) VA gn.arr U U hf λpn gp=>?_;refine Zo (qs[k]'hf) λq T=>?_;rw[T]at gp hM hN go;have k9:=gn.each q hM;have gq:=gk q.2 (LJ hM);have gr:=gq.bd (m:=4096) (λa ha=>(YQ he.co a ha).st1);have po:q.2.length=c.co.length:=by rw[gq.1,k4]
 refine x (QA gp U)<|x Ql<|Qb<|ZI [] [oC 0,oC 1,oC 2,oC 3,oC 4,oC 6,oD 5,oD 7]<|p QF<|p (Y9 U)<|p (QR U)<|pq (λ_ hc=>Qr (hv.J hc oe) rfl rfl) <|
  p QF<|p QF<|pk<|xg<|(Qan (k9.I (O1.C _ _)) ((h4.I hz).I (O1.C _ _)) gr oa).mono ?_
 rintro pp pu ⟨rfl,ma⟩;have h3:=(O1.C [] gm).D ma;refine⟨h3,?_⟩;refine pkl (hl:=by kernel_rfl)<|Xv (k:=Kz q.2) (hw.I h3) U U λmf gs mg=>pe ?_;have mh:O1 [G] V mf:=(Y.D h3).O gs oa;have mi:=(hv.I h3).J gs (by simp;omega);have gt:=hy.add go (λx hx=>(gr x hx).1);rw[k8]at gt;refine Qw<|QS U U<|Qa<|xe ?_;exact⟨(k+1,O7 mm (Kz q.2) (oE oF (k:Int))),oh,La,hf,mh,mi,mg,by simp only[];rw[hN];exact gt⟩
theorem qH {W:OX}{base e:Nat}{v:OY}(h:W.ownsRow base e sz v n cs)(E:XD [] W W'):W'.ownsRow base e sz v n cs :=
 ⟨h.1,h.2.imp id λ⟨g,cap,cur,G,H,I,J⟩=>⟨g,cap,cur,G,H,E g _ oe I rfl,J⟩⟩
theorem XD.mono {W:OX}(h:XD L W W')(E:∀b∈L,b∈L'):XD L' W W':=λk o G=>h k o (λH=>G (E k H))
theorem XD.nonc {W:OX}(I:O1 X W W')(J:∀r∈X,∃o:Obj,W.heap[r]?=some o/\o.isCells=false):XD [] W W':=λk o _ E O =>
 (I.block k (LO.1 E).1 (λhx=>by
  obtain⟨S,G,H⟩:=J k hx;rw[E]at G;cases G;rw[O]at H;cases H)).D E
theorem Yt.cst {I:xt}(h:∀W W',I W->XD [] W W'->W.heap.size<=W'.heap.size->I W'):Yt B I:=λW W' _ hi E G=>h W W' hi (XD.nonc E (λr H=>(G r H).2)) E.size
theorem YH.cst {base:Nat}{av:LN}{W W':OX}{v:OY}{n sz:Nat}{cs:LV}(h:YH base av W.heap v n sz cs)(E:Lg.XD [] W W')(G:W.heap.size<=W'.heap.size):YH base av W'.heap v n sz cs:=λL H=>(h L H).cst (E.mono oe) G
abbrev ZX (r:Rsn):LV:=[oE oF r.st,oE oF r.kd,oE oF r.ix,oE oF r.ev]
theorem QgE (r:Rsn):(ZX r).length=4:=rfl
structure Kd (base:Nat)(w:OX)(v1 v2 v3 v4:OY)(cos rqs:List TV)(pls:LI)(fbs:List Rsn):Prop where
 o1:w.ownsRow base 56 1 v1 cos.length (cos.flatMap YE)
 o2:w.ownsRow base 56 1 v2 rqs.length (rqs.flatMap YE)
 o3:Qv 3 base w v3 pls
 o4:w.ownsRow base 185 4 v4 fbs.length (fbs.flatMap ZX)
 d12:Dj v1 v2
 d13:Dj v1 v3
 d14:Dj v1 v4
 d23:Dj v2 v3
 d24:Dj v2 v4
 d34:Dj v3 v4
 e1:∀p∈cos,YH base (ob v1++(ob v2++(ob v3++ob v4))) w.heap p.1 p.2.length 1 (p.2.map (.int .i64))
 e2:∀p∈rqs,YH base (ob v1++(ob v2++(ob v3++ob v4))) w.heap p.1 p.2.length 1 (p.2.map (.int .i64))
theorem UT {v:OY}:Dj (nS) v:=λb E=>by simp[ob]at E
theorem Kd.nil (base:Nat)(w:OX):Kd base w (nS) (nS) (nS) (nS) [] [] [] []:=
 ⟨QJ _ _ _ _,QJ _ _ _ _,QJ _ _ _ _,QJ _ _ _ _,UT,UT,UT,UT,UT,UT,λp E=>(by cases E),λp E=>(by cases E)⟩
variable {base:Nat}{w7 w8:OX}{v1 v2 v3 v4:OY}{cos rqs:List TV}{pls:LI}{fbs:List Rsn}
theorem Kd.I (h:Kd base w v1 v2 v3 v4 cos rqs pls fbs)(E:O1 [] w w7):Kd base w7 v1 v2 v3 v4 cos rqs pls fbs :=
 ⟨Qq h.o1 E,Qq h.o2 E,Qq h.o3 E,Qq h.o4 E,h.d12,h.d13,h.d14,h.d23,h.d24,h.d34,λp G=>(h.e1 p G).I E,λp G=>(h.e2 p G).I E⟩
theorem Kd.low {X:LN}(h:Kd base w v1 v2 v3 v4 cos rqs pls fbs)(E:O1 X w w7)(G:∀b∈X,b<base):Kd base w7 v1 v2 v3 v4 cos rqs pls fbs:=by
 have k:∀{e sz n:Nat} {v:OY} {cs:LV},w.ownsRow base e sz v n cs->w7.ownsRow base e sz v n cs:=λo=>Qf o E (λb I J=>ou (Qi o b I).1 (G b J));exact⟨k h.o1,k h.o2,k h.o3,k h.o4,h.d12,h.d13,h.d14,h.d23,h.d24,h.d34,λp H=>(h.e1 p H).low E G,λp H=>(h.e2 p H).low E G⟩
theorem Kd.cst (h:Kd base w v1 v2 v3 v4 cos rqs pls fbs)(E:Lg.XD [] w w7)(H:w.heap.size<=w7.heap.size):Kd base w7 v1 v2 v3 v4 cos rqs pls fbs :=
 ⟨qH h.o1 E,qH h.o2 E,qH h.o3 E,qH h.o4 E,h.d12,h.d13,h.d14,h.d23,h.d24,h.d34,λp G=>(h.e1 p G).cst E H,λp G=>(h.e2 p G).cst E H⟩
theorem UU {a b E:OY}(h:Dj a b)(I:∀x∈ob E,x∈ob a\/n<=x)(J:∀x∈ob b,x<n):Dj E b:=λx hx G=>by
 rcases I x hx with H|H
 ·exact h x H G
 have:=J x G;omega
theorem Vf {a b E:OY}(h:Dj a b)(H:∀x∈ob E,x∈ob b\/n<=x)(I:∀x∈ob a,x<n):Dj a E:=λx hx J=>by
 rcases H x J with G|G
 ·exact h x hx G
 have:=I x hx;omega
theorem Kd.lt (h:Kd base w v1 v2 v3 v4 cos rqs pls fbs):(∀x∈ob v1,x<w.heap.size)/\(∀x∈ob v2,x<w.heap.size)/\(∀x∈ob v3,x<w.heap.size)/\∀x∈ob v4,x<w.heap.size:=⟨Zf h.o1,Zf h.o2,Zf h.o3,Zf h.o4⟩
theorem Qba {a b c d:LN}{x:Nat}(h:x∈a++(b++(c++d))):x∈a\/x∈b\/x∈c\/x∈d:=by simpa using h
theorem zJ {a b c d:LN}{x:Nat}(h:x∈a\/x∈b\/x∈c\/x∈d):x∈a++(b++(c++d)):=by simpa using h
theorem Kd.a1 {e:Nat}{q:TV}(h:Kd base w v1 v2 v3 v4 cos rqs pls fbs)(V:O1 [] w w7)(Y:w7.ownsRow N e 1 q.1 q.2.length (q.2.map (.int .i64)))(ha:q.2.length<=1099511627776)(hN:w.heap.size<=N)(G:base<=w.heap.size)(ho:w8.ownsRow base 56 1 v' (cos.length+1) (cos.flatMap YE++YE q))
  (O:O1 (ob v1) w7 w8) (S:∀b∈ob v',b∈ob v1\/w7.heap.size<=b):Kd base w8 v' v2 v3 v4 (cos++[q]) rqs pls fbs:=by
 have l:=h.lt;have hz:=V.size;have I:=h.I V;have av:∀b∈ob v'++(ob v2++(ob v3++ob v4)),b∈ob v1++(ob v2++(ob v3++ob v4))\/w7.heap.size<=b:=by
  intro b G;rcases Qba G with E|E|E|E
  ·rcases S b E with T|T
   ·exact .inl (zJ (.inl T))
   exact .inr T
  ·exact .inl (zJ (.inr (.inl E)))
  ·exact .inl (zJ (.inr (.inr (.inl E))))
  exact .inl (zJ (.inr (.inr (.inr E))))
 have st:O1 (ob v1++(ob v2++(ob v3++ob v4))) w7 w8:=O.mono (λb G=>zJ (.inl G));have g:∀{v:OY} {n sz:Nat} {cs:LV},YH base (ob v1++(ob v2++(ob v3++ob v4))) w7.heap v n sz cs->YH base (ob v'++(ob v2++(ob v3++ob v4))) w8.heap v n sz cs:=λa=>a.app st av;refine⟨by rw[Ll,LB];simpa using ho,Qf I.o2 O (λb G J=>h.d12 b J G),Qf I.o3 O (λb G J=>h.d13 b J G),Qf I.o4 O (λb G J=>h.d14 b J G),UU h.d12 S (λx hx=>ot (l.2.1 x hx)),UU h.d13 S (λx hx=>ot (l.2.2.1 x hx)),UU h.d14 S (λx hx=>ot (l.2.2.2 x hx)),h.d23,h.d24,h.d34,?_,?_⟩
 ·exact λp H=>by
   rcases Lc.1 H with H|H
   ·exact g (I.e1 p H)
   simp only[oH]at H;subst H;exact g (YH.of_own Y ha oa (λb G=>by
   rcases Qba G with E|E|E|E
   ·have:=l.1 b E;omega
   ·have:=l.2.1 b E;omega
   ·have:=l.2.2.1 b E;omega
   have:=l.2.2.2 b E;omega))
 exact λp H=>g (I.e2 p H)
theorem Kd.a2 {e:Nat}{q:TV}(h:Kd base w v1 v2 v3 v4 cos rqs pls fbs)(V:O1 [] w w7)(Y:w7.ownsRow N e 1 q.1 q.2.length (q.2.map (.int .i64)))(ha:q.2.length<=1099511627776)(hN:w.heap.size<=N)(G:base<=w.heap.size)(ho:w8.ownsRow base 56 1 v' (rqs.length+1) (rqs.flatMap YE++YE q))
  (O:O1 (ob v2) w7 w8) (S:∀b∈ob v',b∈ob v2\/w7.heap.size<=b):Kd base w8 v1 v' v3 v4 cos (rqs++[q]) pls fbs:=by
 have l:=h.lt;have hz:=V.size;have I:=h.I V;have av:∀b∈ob v1++(ob v'++(ob v3++ob v4)),b∈ob v1++(ob v2++(ob v3++ob v4))\/w7.heap.size<=b:=by
  intro b G;rcases Qba G with E|E|E|E
  ·exact .inl (zJ (.inl E))
  ·rcases S b E with T|T
   ·exact .inl (zJ (.inr (.inl T)))
   exact .inr T
  ·exact .inl (zJ (.inr (.inr (.inl E))))
  exact .inl (zJ (.inr (.inr (.inr E))))
 have st:O1 (ob v1++(ob v2++(ob v3++ob v4))) w7 w8:=O.mono (λb G=>zJ (.inr (.inl G)));have g:∀{v:OY} {n sz:Nat} {cs:LV},YH base (ob v1++(ob v2++(ob v3++ob v4))) w7.heap v n sz cs->YH base (ob v1++(ob v'++(ob v3++ob v4))) w8.heap v n sz cs:=λa=>a.app st av;refine⟨Qf I.o1 O (λb G J=>h.d12 b G J),by rw[Ll,LB];simpa using ho,Qf I.o3 O (λb G J=>h.d23 b J G),Qf I.o4 O (λb G J=>h.d24 b J G),Vf h.d12 S (λx hx=>ot (l.1 x hx)),h.d13,h.d14,UU h.d23 S (λx hx=>ot (l.2.2.1 x hx)),UU h.d24 S (λx hx=>ot (l.2.2.2 x hx)),h.d34,?_,?_⟩
 ·exact λp H=>g (I.e1 p H)
 exact λp H=>by
  rcases Lc.1 H with H|H
  ·exact g (I.e2 p H)
  simp only[oH]at H;subst H;exact g (YH.of_own Y ha oa (λb G=>by
  rcases Qba G with E|E|E|E
  ·have:=l.1 b E;omega
  ·have:=l.2.1 b E;omega
  ·have:=l.2.2.1 b E;omega
  have:=l.2.2.2 b E;omega))
theorem Kd.a3 {q:Int}(h:Kd base w v1 v2 v3 v4 cos rqs pls fbs)(V:O1 [] w w7)(Y:w8.ownsRow base 3 1 v' (pls.length+1) (pls.map (.int .i64)++[oE oF q]))
  (J:O1 (ob v3) w7 w8) (O:∀b∈ob v',b∈ob v3\/w7.heap.size<=b):Kd base w8 v1 v2 v' v4 cos rqs (pls++[q]) fbs:=by
 have l:=h.lt;have hz:=V.size;have H:=h.I V;have av:∀b∈ob v1++(ob v2++(ob v'++ob v4)),b∈ob v1++(ob v2++(ob v3++ob v4))\/w7.heap.size<=b:=by
  intro b E;rcases Qba E with G|G|G|G
  ·exact .inl (zJ (.inl G))
  ·exact .inl (zJ (.inr (.inl G)))
  ·rcases O b G with S|S
   ·exact .inl (zJ (.inr (.inr (.inl S))))
   exact .inr S
  exact .inl (zJ (.inr (.inr (.inr G))))
 have st:O1 (ob v1++(ob v2++(ob v3++ob v4))) w7 w8:=J.mono (λb E=>zJ (.inr (.inr (.inl E))));have g:∀{v:OY} {n sz:Nat} {cs:LV},YH base (ob v1++(ob v2++(ob v3++ob v4))) w7.heap v n sz cs->YH base (ob v1++(ob v2++(ob v'++ob v4))) w8.heap v n sz cs:=λa=>a.app st av;refine⟨Qf H.o1 J (λb E I=>h.d13 b E I),Qf H.o2 J (λb E I=>h.d23 b E I),Qv.snoc Y,Qf H.o4 J (λb E I=>h.d34 b I E),h.d12,Vf h.d13 O (λx hx=>ot (l.1 x hx)),h.d14,Vf h.d23 O (λx hx=>ot (l.2.1 x hx)),h.d24,UU h.d34 O (λx hx=>ot (l.2.2.2 x hx)),?_,?_⟩
 ·exact λp T=>g (H.e1 p T)
 exact λp T=>g (H.e2 p T)
theorem Kd.a4 {q:Rsn}(h:Kd base w v1 v2 v3 v4 cos rqs pls fbs)(V:O1 [] w w7)(Y:w8.ownsRow base 185 4 v' (fbs.length+1) (fbs.flatMap ZX++ZX q))
  (J:O1 (ob v4) w7 w8) (O:∀b∈ob v',b∈ob v4\/w7.heap.size<=b):Kd base w8 v1 v2 v3 v' cos rqs pls (fbs++[q]):=by
 have l:=h.lt;have hz:=V.size;have H:=h.I V;have av:∀b∈ob v1++(ob v2++(ob v3++ob v')),b∈ob v1++(ob v2++(ob v3++ob v4))\/w7.heap.size<=b:=by
  intro b E;rcases Qba E with G|G|G|G
  ·exact .inl (zJ (.inl G))
  ·exact .inl (zJ (.inr (.inl G)))
  ·exact .inl (zJ (.inr (.inr (.inl G))))
  rcases O b G with S|S
  ·exact .inl (zJ (.inr (.inr (.inr S))))
  exact .inr S
 have st:O1 (ob v1++(ob v2++(ob v3++ob v4))) w7 w8:=J.mono (λb E=>zJ (.inr (.inr (.inr E))));have g:∀{v:OY} {n sz:Nat} {cs:LV},YH base (ob v1++(ob v2++(ob v3++ob v4))) w7.heap v n sz cs->YH base (ob v1++(ob v2++(ob v3++ob v'))) w8.heap v n sz cs:=λa=>a.app st av;refine⟨Qf H.o1 J (λb E I=>h.d14 b E I),Qf H.o2 J (λb E I=>h.d24 b E I),Qf H.o3 J (λb E I=>h.d34 b E I),by rw[Ll,LB];simpa using Y,h.d12,h.d13,Vf h.d14 O (λx hx=>ot (l.1 x hx)),h.d23,Vf h.d24 O (λx hx=>ot (l.2.1 x hx)),Vf h.d34 O (λx hx=>ot (l.2.2.1 x hx)),?_,?_⟩
 ·exact λp T=>g (H.e1 p T)
 exact λp T=>g (H.e2 p T)
theorem yM (c:Zx)(pl:Q2)(ps:List (LI)):∀(l:List (LI)) (i:Nat) (s:Spc),(l.zipIdx i).foldl (Qmq c pl ps) s =
  ⟨s.a,s.co++l.map (·.take c.co.length),s.rq++l.map (·.drop c.co.length),s.pl++l.map (λt=>plx ps (t.take c.co.length)),s.fb++(l.zipIdx i).filterMap (λp=>rsn c pl (plx ps (p.1.take c.co.length)) p.2 p.1)⟩
 | [],i,s=>oe
 | t::l,i,s=>by
  rw[Nt,L3,yM c pl ps l (i+1)];unfold Qmq;simp only[oZ,oT,o8,Oi,List.filterMap_cons];cases rsn c pl (plx ps (t.take c.co.length)) i t with
  | none=>rfl
  | some r=>simp
theorem ze {c:Zx}{rs:LI}:∀{l:LI},(∀x∈wrf c.rq rs l,(c.ev.getD x.1.toNat ⟨.empty,false,false,false,0⟩).co=true)->rfd c rs l=none
 | [],_=>rfl
 | v::l,h=>by
  rw[wrf]at h;rw[rfd];by_cases E:0<=rfr v 0 c.rq rs
  ·rw[OQ E]at h;have G:=h _ Lq;simp only[]at G;rw[OP (λe=>by rw[G]at e;cases e.2)];exact ze λx hx=>h x (Lj _ hx)
  rw[OP E]at h;rw[OP (λe=>E e.1)];exact ze h
theorem zd {c:Zx}{rs:LI}{x:Int×Int}{t:xq}:∀{l:LI}{p:xq},wrf c.rq rs l=p++x::t->(∀y∈p,(c.ev.getD y.1.toNat ⟨.empty,false,false,false,0⟩).co=true)->(c.ev.getD x.1.toNat ⟨.empty,false,false,false,0⟩).co=false->rfd c rs l=some (x.2,x.1)
 | [],p,h,_,_=>by simp[wrf]at h
 | v::l,p,h,G,hx=>by
  rw[wrf]at h;rw[rfd];by_cases E:0<=rfr v 0 c.rq rs
  ·rw[OQ E]at h;cases p with
   | nil =>
    simp only[Oi,List.cons.injEq]at h;obtain⟨H,_⟩:=h;subst H;rw[OQ ⟨E,hx⟩]
   | cons y p =>
    simp only[o8,List.cons.injEq]at h;obtain⟨H,J⟩:=h;have I:=G y Lq;subst H;rw[OP (λe=>by simp only[]at I;rw[I]at e;cases e.2)];exact zd J (λy O=>G y (Lj _ O)) hx
  rw[OP E]at h;rw[OP (λe=>E e.1)];exact zd h G hx
theorem Qgb (c:Zx)(t:LI):vio c t=if(VW c.ex c.cs t).2.2=true then some ((VW c.ex c.cs t).1,(VW c.ex c.cs t).2.1)else none:=by
 unfold vio VW;by_cases E:0<=fix (Vy t) 0 c.ex
 ·rw[OQ E,OQ E];rfl
 rw[OP E,OP E];by_cases G:0<=fix (UD t) 0 c.cs
 ·rw[OQ G,OQ G];rfl
 rw[OP G,OP G];rfl
def QpS (N:Nat)(H:xu)(v:OY)(s:Spc):Prop:=∃va vm ve v1 v2 v3 v4 cos rqs,v=.agg #[va,oE oF s.a.st,vm,ve,v1,v2,v3,v4]/\cos.map (·.2)=s.co/\rqs.map (·.2)=s.rq /\
 ∀L:LN,(∀b∈L,b<N)->ZH L H va vm ve s.a/\JH L H v1 cos/\JH L H v2 rqs/\QP L H v3 s.pl/\Zm L H v4 s.fb.length 4 (s.fb.flatMap ZX)
open Go.RowKit
def VF (all:Array Oper)(i:Nat)(rest:xo):xo->Array Bool->Bool
 | [],ls=>Region.ready .any all ls == [i] && Y6 all rest (ls.setIfInBounds i true)
 | (j,true)::l,ls=>(Region.ready .any all ls).contains j && Region.free .any all ls j && VF all i rest l (ls.setIfInBounds j true)
 | (j,false)::l,ls=>!(Region.ready .any all ls).isEmpty && (Region.ready .any all ls).all (λk=>k == j || k == i) && Y6 all ((j,false)::(l++rest)) (ls.setIfInBounds i true) && VF all i rest l (ls.setIfInBounds j true)
def ZP (all:xx)(d:Nat)(l:xo):Bool:=l.all λp=>!((QV all p.1).looksAt all.toArray).contains d && !((QV all p.1).dst == some d)
def QcE (all:xx)(pre l:xo)(i:Nat)(rest:xo):Bool :=
 Region.noSelect all.toArray && (pre.length+(l.length+1+rest.length) == all.length) && Ki all.toArray pre (oV all.length false) && VF all.toArray i rest l (Z6 pre (oV all.length false))
  && (QV all i).guard.isNone && (match (QV all i).dst with|some d=>ZP all d l|none=>false)
def XF (P:O0)(all:xx)(C:xt)(K:xr):xo->LN->Fr->OX->Prop
 | [],_,f,w=>K f w
 | (j,true)::l,own,f,w=>Ya all f (QV all j)=true/\∃v,(∀w',(UH (QV all j)=true->C w')->(execOp (ev f) (QV all j)).run P w'=.ok (.value v) w')/\XF P all C K l own (QT f (QV all j).dst v) w
 | (j,false)::l,own,f,w=>Ya all f (QV all j)=true/\∀w1,O1 [] w w1->C w1->XO P (QV all j) f w1 λE w'=>C w'/\∃own',O1 own w1 w'/\(∀b∈own',b∈own\/(w1.heap.size<=b/\b<w'.heap.size))/\XF P all C K l own' E w'
section
variable {all:xx}{C:xt}{KF:xr}
theorem XF.I (hK:∀f w w',KF f w->O1 [] w w'->KF f w'):∀{l:xo}{own:LN}{f:Fr}{w w':OX},XF P all C KF l own f w->O1 [] w w'->XF P all C KF l own f w'
 | [],_,_,_,_,h,E=>hK _ _ _ h E
 | (_,true)::_,_,_,_,_,h,E=>by
  obtain⟨G,v,H,hx⟩:=h;exact⟨G,v,H,XF.I hK hx E⟩
 | (_,false)::_,_,_,_,_,h,E=>⟨h.1,λI J O=>h.2 I (E.D J) O⟩
attribute [local semireducible] XO in
theorem Qap (H:∀cs b,o.op≠.select cs b){d:Nat}{v:OY}{K':xr}(I:d∉o.looksAt all.toArray)(J:o.dst≠some d)(hK:∀u w',K (QT f o.dst u) w'->K' (QT (QT f o.dst u) (some d) v) w')
  (h:XO P o f w K):XO P o (QT f (some d) v) w K':=by
 have G:∀u,QT (QT f (some d) v) o.dst u=QT (QT f o.dst u) (some d) v:=λu=>J3 f v u (λe E=>by cases E;exact J);unfold XO at *;rw[Xm (all:=all) H f (some d) v (λe E=>by cases E;exact I)];generalize (execOp (ev f) o).run P w=r at *;cases r with
 | ok nx w' =>
  cases nx <;> simp only[upF]at h ⊢
  case value u=>rw[G];exact hK u w' h
  case skip=>rw[G];exact hK _ w' h
  case enter g args =>
   refine Calls.mono h λe O E=>?_;cases e with
   | returned u=>simp only at E ⊢;rw[G];exact hK u O E
   | panicked c=>exact E.elim
   | outgrown=>exact E.elim
 | halt x w'=>exact h.elim
theorem Js {D:xp}{G:Fr}{dst:xz}{v:OY}(hd:inD D dst=true)(h:∀t,Xa D t=false->f t=G t):∀t,Xa D t=false->QT f dst v t=G t:=λt E =>
 (Y1 (λe=>by rw[e]at hd;simp only[inD]at hd;rw[hd]at E;cases E) v).D (h t E)
def Z1 (all:xx)(D:xp)(l:xo):Bool:=l.all λp=>inD D (QV all p.1).dst
structure Fl (P:O0)(all:xx)(C:xt)(K KF:xr)(i d:Nat)(rest:xo)(Φ:OY->OX->Prop)(Dc:xp)(f1:Fr):Prop where
 stab:∀v (own:LN) w w',Φ v w->O1 own w w'->(∀b∈ow v,b∉own)->Φ v w'
 spec:∀f w,(∀t,Xa Dc t=false->f t=f1 t)->C w->XO P (QV all i) f w λf' w'=>O1 [] w w'/\C w'/\Φ (f' d) w'/\∀b∈ow (f' d),w.heap.size<=b/\b<w'.heap.size
 fin:∀f w,KF f w->∀v,C w->Φ v w->XP P all C K rest (QT f (some d) v) w
 mono:∀f w w',KF f w->O1 [] w w'->KF f w'
attribute [local semireducible] XP in
theorem yg {i d:Nat}{rest:xo}{Φ:OY->OX->Prop}{Dc:xp}{f1:Fr}(H:Fl P all C K KF i d rest Φ Dc f1)(O:Region.noSelect all.toArray=true){v:OY}:∀(l:xo) (own:LN) (f:Fr) (w:OX),ZP all d l=true->XF P all C KF l own f w->C w->Φ v w ->
  (∀b∈ow v,b∉own/\b<w.heap.size)->XP P all C K (l++rest) (QT f (some d) v) w
 | [],own,f,w,_,h,I,J,_=>H.fin f w h v I J
 | (j,q)::l,own,f,w,hfr,h,I,J,E=>by
  simp only[ZP,oR,oJ,Ob,List.contains_eq_mem,decide_eq_false_iff_not,beq_eq_false_iff_ne,ne_eq]at hfr;obtain⟨⟨S,T⟩,hfr⟩:=hfr;have V:ZP all d l=true:=by simpa[ZP]using hfr
  have ha:∀cs b,(QV all j).op≠.select cs b:=by
   intro cs b;cases Y:all[j]? with
   | none =>
    have:QV all j=default:=by
     clear h S T hfr V;have key:∀(l:xx) (j:Nat),l[j]?=none->QV l j=default:=by
      intro l;induction l with
      | nil=>intro j _;rfl
      | cons a l ih=>intro j hj;cases j with|zero=>simp at hj|succ j=>exact ih j (oy hj)
     exact key all j Y
    rw[this];intro e;cases e
   | some o=>rw[Zj Y];exact Region.noSelect_spec O j o cs b (oy Y)
  have hd:∀e,some d=some e->e∉(QV all j).looksAt all.toArray:=λe he=>by cases he;exact S
  cases q with
  | true =>
   obtain⟨hg,u,hu,hx⟩:=h;simp only[o8,XP];rw[X0 (QV all j) f (some d) v hd,hg,cond_true,cond_true];refine⟨u,λw' hc=>?_,?_⟩
   ·rw[Xm (all:=all) ha f (some d) v hd];exact hu w' hc
   rw[J3 f v u (λe he=>by cases he;exact T)];exact yg H O l own _ w V hx I J E
  | false =>
   simp only[o8,XP];rw[X0 (QV all j) f (some d) v hd,h.1,cond_true,cond_false];refine Qap (all:=all) ha S T (λu w' hx=>?_) (h.2 w (O1.Z _ _) I);obtain⟨hf,own',hh,hi,hx⟩:=hx;refine⟨.inr (.inr hf),yg H O l own' _ w' V hx hf (H.stab v own w w' J hh (λb G=>(E b G).1)) (λb G=>⟨λhm=>?_,LT (E b G).2 hh.size⟩)⟩;rcases hi b hm with h3|h3
   ·exact(E b G).1 h3
   exact Nf _ (LT (E b G).2 h3.1)
theorem Qi4 {i d:Nat}{rest:xo}{Φ:OY->OX->Prop}{Dc:xp}{f1:Fr}(J:Fl P all C K KF i d rest Φ Dc f1)(V:Region.noSelect all.toArray=true)(Y:(QV all i).guard=none)(hd:(QV all i).dst=some d):∀(l:xo) (ls:Array Bool) (own:LN) (f:Fr) (w:OX),ls.size=all.length->ZP all d l=true->Z1 all Dc l=true->(∀t,Xa Dc t=false->f t=f1 t) ->
  XF P all C KF l own f w->C w->(∀b∈own,b<w.heap.size)->VF all.toArray i rest l ls=true->XA P all C K (l.length+1+rest.length) ls f w
 | [],ls,own,f,w,ha,hfr,O,hk1,h,S,hc,E=>by
  simp only[VF,oJ,beq_iff_eq]at E;obtain⟨T,E⟩:=E;rw[show([]:xo).length+1+rest.length=rest.length+1 by simp;omega];refine XC (λh0=>(by rw[h0]at T;cases T)) ?_;rw[T];intro k hk o H;have hh:k=i:=by simpa using hk
  subst hh;have he:=Zj H;have hx:=J.spec f w hk1 S;rw[he]at Y hd hx;rw[Ju Y,cond_true];refine hx.mono λv w' hx=>?_;rw[hd]at hx ⊢;obtain⟨h1,G,I,h4⟩:=hx;simp only[QT,YJ]at I h4;refine⟨.inr (.inr G),ZN V rest _ _ _ (oy ha) (.inl G) E (J.fin f w' (J.mono f w w' h h1) v G I)⟩
 | (j,true)::l,ls,own,f,w,ha,hfr,O,hk1,h,S,hc,E=>by
  simp only[VF,oJ]at E;obtain⟨⟨T,hf⟩,hi⟩:=E;have hq:j∈Region.ready .any all.toArray ls:=by simpa using T
  have e:(oO ((j,true)::l))+1+rest.length=(l.length+1+rest.length)+1:=by simp;omega
  rw[e];have hl:ZP all d l=true:=by simp only[ZP,oR,oJ]at hfr;exact hfr.2
  simp only[Z1,oR,oJ]at O;have hn:Z1 all Dc l=true:=O.2;cases H:all[j]? with
  | none =>
   exfalso;obtain⟨_,o,hz,_⟩:=mem_ready.1 hq;simp[H]at hz
  | some o =>
   obtain⟨ht,v,hv,hx⟩:=h;rw[Zj H]at ht hv hx;have h5:∀(j:Nat) (o:Oper) cs b,all[j]?=some o->o.op≠.select cs b:=λj o cs b hj=>Region.noSelect_spec V j o cs b (oy hj);have h6:=λk ok hk=>Region.free_spec (ops:=all.toArray) (md:=.any) (i:=j) (oi:=o) (listed:=ls) (oy H) hf k ok (oy hk);exact Xb (v:=v) (D:=λw=>UH o=true->C w) H (λ_ h=>h) h5 _ ls f w (λ_=>S) h6 hq (.inl ⟨ht,hv⟩) (Qi4 J V Y hd l _ own _ w (oy ha) hl hn (by have:=Js (v:=v) O.1 hk1;rw[Zj H]at this;exact this) hx S hc hi)
 | (j,false)::l,ls,own,f,w,ha,hfr,O,hk1,h,S,hc,E=>by
  simp only[VF,oJ,Og,Bool.or_eq_true,beq_iff_eq,Ob]at E;obtain⟨⟨⟨hu,T⟩,h7⟩,hi⟩:=E;have e:(oO ((j,false)::l))+1+rest.length=(l.length+1+rest.length)+1:=by simp;omega
  rw[e];have hl:ZP all d l=true:=by simp only[ZP,oR,oJ]at hfr;exact hfr.2
  simp only[Z1,oR,oJ]at O;have hn:Z1 all Dc l=true:=O.2;refine XC (λh0=>(by rw[h0]at hu;cases hu)) ?_;intro k hk o H;have he:=Zj H;have hw:(ls.setIfInBounds k true).size=all.length:=by simpa using ha
  by_cases hh:k=i
  ·subst hh;have hx:=J.spec f w hk1 S;rw[he]at Y hd hx;rw[Ju Y,cond_true];refine hx.mono λv w' hx=>?_;rw[hd]at hx ⊢;obtain⟨h1,G,I,h4⟩:=hx;simp only[QT,YJ]at I h4;refine⟨.inr (.inr G),?_⟩;have hx:=yg J V ((j,false)::l) own f w' hfr (XF.I J.mono h h1) G I (λb hb=>⟨λhm=>Nf _ (LT (hc b hm) (h4 b hb).1),(h4 b hb).2⟩);have:=ZN V ((j,false)::(l++rest)) _ _ _ hw (.inl G) h7 hx;rw[show((j,false)::(l++rest)).length=l.length+1+rest.length by simp;omega]at this;exact this
  have h8:k=j:=(T k hk).resolve_right hh;subst h8;have h1:=h.1;have G:=h.2 w (O1.Z _ _) S;rw[he]at h1 G;rw[h1,cond_true];refine G.mono λv w' hx=>?_;obtain⟨hy,own',h9,hA,hx⟩:=hx;refine⟨.inr (.inr hy),Qi4 J V Y hd l _ own' _ w' hw hl hn (by have:=Js (v:=v) O.1 hk1;rw[he]at this;exact this) hx hy (λb hb=>?_) hi⟩;rcases hA b hb with I|I
  ·exact LT (hc b I) h9.size
  exact I.2
theorem QlN {ro:xz}{m:Nat}{Q:Exit->LN->Fr->OX->Prop}(C:xt)(pre l:xo)(i d:Nat)(rest:xo)(own:LN)(KF:xr)(Φ:OY->OX->Prop)(Dc:xp)(V:P.follows .mixedOrders=true)(Y:XI n all=true)(hb:Qa6 all=true)
  (I:QcE all pre l i rest=true) (hc:Z1 all Dc l=true) (hd:(QV all i).dst=some d) (J:C { w with drawn:=w.drawn+1 }) (he:∀b∈own,b<w.heap.size)
  (h:XP P all C (λG _=>Fl P all C (λf w=>Q .normal ds f w) KF i d rest Φ Dc G/\XF P all C KF l own G { w with drawn:=w.drawn+1 }) pre f { w with drawn:=w.drawn+1 }):WG ro m P n (.region id all.toArray true) Q ds f w:=by
 unfold WG;intro a ha;simp only[QcE,oJ,beq_iff_eq,Option.isNone_iff_eq_none]at I;obtain⟨⟨⟨⟨⟨O,hl⟩,H⟩,hf⟩,hg⟩,hfr⟩:=I;rw[hd]at hfr;refine wpIn_region_any V ?_;have S:=YD (K:=λf w=>Q .normal ds f w) (m:=l.length+1+rest.length) O pre (oV all.length false) f _ J H
  (λG T=>Qi4 T.1 O hg hd l (Z6 pre (oV all.length false)) own G _ (by rw[YF];simp) hfr hc (λ_ _=>rfl) T.2 J he hf) h
 rw[hl]at S;have h2:=qT (ro:=ro) (m:=m) (n:=n) (ds:=ds) (Q:=λe a' w'=>∃ds' E,Y5 n ds' a' E/\(∀t,Yd all t=false->E t=f t)/\Q e ds' E w') (Xh Y) (VC hb) f
  (λa E w hr hk H=>⟨ds,E,hr,hk,H⟩) _ _ a f _ ha (λ_ _=>U) S
 simpa[X3]using h2
theorem XP.keeps_mono {K':xr}:∀(l:xo) (f:Fr) (w:OX),XP P all C K l f w->(∀f w,K f w->K' f w)->XP P all C K' l f w
 | [],f,w,h,E=>by simp only[XP]at h ⊢;exact E _ _ h
 | (j,q)::l,f,w,h,E=>by
  simp only[XP]at h ⊢;cases G:Ya all f (QV all j)with
  | false=>rw[G]at h;exact XP.keeps_mono l _ _ h E
  | true =>
   rw[G]at h;cases q with
   | true=>obtain⟨v,H,hx⟩:=h;exact⟨v,H,XP.keeps_mono l _ _ hx E⟩
   | false=>exact XO.mono (λv w' hx=>⟨hx.1,XP.keeps_mono l _ _ hx.2 E⟩) h
theorem XP.keeps {D:xp}{H:Fr}:∀(l:xo) (f:Fr) (w:OX),Z1 all D l=true->(∀t,Xa D t=false->f t=H t)->XP P all C K l f w->XP P all C (λI w'=>(∀t,Xa D t=false->I t=H t)/\K I w') l f w
 | [],f,w,_,E,h=>by simp only[XP]at h ⊢;exact⟨E,h⟩
 | (j,q)::l,f,w,hd,E,h=>by
  simp only[Z1,oR,oJ]at hd;have G:Z1 all D l=true:=hd.2;simp only[XP]at h ⊢;cases J:Ya all f (QV all j)with
  | false=>rw[J]at h;exact XP.keeps l _ _ G (Js hd.1 E) h
  | true =>
   rw[J]at h;cases q with
   | true=>obtain⟨v,O,hx⟩:=h;exact⟨v,O,XP.keeps l _ _ G (Js hd.1 E) hx⟩
   | false=>exact XO.mono (λv w' hx=>⟨hx.1,XP.keeps l _ _ G (Js hd.1 E) hx.2⟩) h
theorem XF.keeps {D:xp}{G:Fr}:∀(l:xo) (own:LN) (f:Fr) (w:OX),Z1 all D l=true->(∀t,Xa D t=false->f t=G t)->XF P all C K l own f w->XF P all C (λH w'=>(∀t,Xa D t=false->H t=G t)/\K H w') l own f w
 | [],own,f,w,_,E,h=>⟨E,h⟩
 | (j,true)::l,own,f,w,hd,E,h=>by
  simp only[Z1,oR,oJ]at hd;obtain⟨I,v,J,hx⟩:=h;exact⟨I,v,J,XF.keeps l own _ _ hd.2 (Js hd.1 E) hx⟩
 | (j,false)::l,own,f,w,hd,E,h=>by
  simp only[Z1,oR,oJ]at hd;refine⟨h.1,λO S T=>XO.mono (λv w' hx=>?_) (h.2 O S T)⟩;obtain⟨V,own',Y,ha,hx⟩:=hx;exact⟨V,own',Y,ha,XF.keeps l own' _ _ hd.2 (Js hd.1 E) hx⟩
theorem Qji {ro:xz}{m:Nat}{Q:Exit->LN->Fr->OX->Prop}(C:xt)(pre l:xo)(i d:Nat)(rest:xo)(own:LN)(D Dc:xp)(S:α->List (Nat×OY))(I:α->OX->Prop)(Φ:OY->OX->Prop)(V:P.follows .mixedOrders=true)(Y:XI n all=true)(ha:Qa6 all=true)
  (hp:QcE all pre l i rest=true) (H:(Z1 all D pre && Z1 all D l && Z1 all Dc l)=true) (hd:(QV all i).dst=some d) (hC:C { w with drawn:=w.drawn+1 }) (hb:∀b∈own,b<w.heap.size)
  (stab:∀v (own:LN) w w',Φ v w->O1 own w w'->(∀b∈ow v,b∉own)->Φ v w') (mono:∀z w w',I z w->O1 [] w w'->I z w')
  (fin:∀z g w v,I z w->C w->Φ v w->XP P all C (λf w=>Q .normal ds f w) rest (QT (qh (S z) (mix D f g)) (some d) v) w)
  (h:XP P all C (λJ _=>(∀g w,C w->XO P (QV all i) (mix Dc J g) w λE w'=>O1 [] w w'/\C w'/\Φ (E d) w'/\∀b∈ow (E d),w.heap.size<=b/\b<w'.heap.size)/\XF P all C (λE w'=>∃z,Xn E (S z)/\I z w') l own J { w with drawn:=w.drawn+1 }) pre f { w with drawn:=w.drawn+1 }):WG ro m P n (.region id all.toArray true) Q ds f w:=by
 rw[Lu,Lu]at H;refine QlN C pre l i d rest own (λE w'=>(∀t,Xa D t=false->E t=f t)/\∃z,Xn E (S z)/\I z w') Φ Dc V Y ha hp H.2 hd hC hb ?_;refine XP.keeps_mono _ _ _ (XP.keeps pre f _ H.1.1 (λ_ _=>U) h) (λJ w1 hx=>⟨⟨stab,?_,?_,?_⟩,XF.keeps l own _ _ H.1.2 hx.1 hx.2.2⟩)
 ·intro E w' G O;have:=hx.2.1 E w' O;rw[X5 G]at this;exact this
 ·rintro E w' ⟨G,z,T,hi⟩ v O hv;have:=fin z E w' v hi O hv;rw[X5 G,Y0 T]at this;exact this
 rintro E w' he ⟨G,z,T,hi⟩ hc;exact⟨G,z,T,mono z _ _ hi hc⟩
theorem fp {l:xo}{own:LN}{v:OY}(E:∀w',(execOp (ev f) (QV all j)).run P w'=.ok (.value v) w')(h:XF P all C K l own (QT f (QV all j).dst v) w)
  (G:Ya all f (QV all j)=true:=by rfl):XF P all C K ((j,true)::l) own f w:=⟨G,v,λw' _=>E w',h⟩
theorem fk {l:xo}{own:LN}(h:∀w1,O1 [] w w1->C w1->XO P (QV all j) f w1 λE w'=>C w'/\∃own',O1 own w1 w'/\(∀b∈own',b∈own\/(w1.heap.size<=b/\b<w'.heap.size))/\XF P all C K l own' E w')
  (G:Ya all f (QV all j)=true:=by rfl):XF P all C K ((j,false)::l) own f w:=⟨G,h⟩
theorem fe {own:LN}(h:K f w):XF P all C K [] own f w:=h
end
attribute [irreducible] XF
instance:Bw prog 177 [nS,oE oF 0,nS,nS,nS,nS,nS,nS] [(0,4),(4,1),(5,1),(6,1),(7,1)]:=⟨od,og⟩
def spF (c:Zx)(pl:Q2)(ps:List (LI))(l:List (LI)):List Rsn:=l.zipIdx.filterMap (λp=>rsn c pl (plx ps (p.1.take c.co.length)) p.2 p.1)
theorem Qgy {pl:Q2}{ps:List (LI)}{l:List (LI)}{k:Nat}(h:k<l.length):spF c pl ps (l.take (k+1))=spF c pl ps (l.take k)++(rsn c pl (plx ps ((l[k]'h).take c.co.length)) k (l[k]'h)).toList:=by
 unfold spF;rw[Lm h,List.zipIdx_append,List.filterMap_append];have e:0+(l.take k).length=k:=by rw[Ly];omega
 rw[e];simp only[List.zipIdx_cons,List.zipIdx_nil,List.filterMap_cons,List.filterMap_nil];cases rsn c pl (plx ps ((l[k]'h).take c.co.length)) k (l[k]'h) <;> rfl
theorem Qdj (c:Zx)(pl:Q2)(ps:List (LI))(l:List (LI)):(spF c pl ps l).length<=l.length:=by
 unfold spF;refine LH (List.length_filterMap_le _ _) ?_;rw[List.length_zipIdx];exact Lv _
theorem Qcc {pl sa:Q2}{ps ts:List (LI)}(E:xd (O3 c.co)=some (pl,ps))(G:xd (O3 c.co++O3 c.rq)=some (sa,ts)):
  spc c=⟨sa,ts.map (·.take c.co.length),ts.map (·.drop c.co.length),ts.map (λt=>plx ps (t.take c.co.length)),spF c pl ps ts⟩:=by
 unfold spc syA syQ;rw[E,G];simp only[];rw[yM];simp[spF]
theorem QiH {s:List ByteArray}{x:YU}(h:Yb n u s x=0):x.a.st≠0:=by
 unfold Yb at h;split at h
 ·cases h
 split at h
 ·cases h
 split at h
 ·rename_i G E;exact OS h E
 split at h
 ·cases h
 split at h
 ·cases h
 assumption
theorem QbJ {n:Nat}{al:LI}:∀{l:List YU}{s:List ByteArray}{u:LI},(Yn n al s u l).1=0->∀x∈l,x.a.st≠0
 | [],_,_,_,x,hx=>by cases hx
 | y::l,s,u,h,x,hx=>by
  rw[Kp]at h;by_cases E:Yb n al s y≠0
  ·rw[OQ E]at h;exact OS h E
  rw[OP E]at h;have G:Yb n al s y=0:=Ln.1 E;rcases Li.1 hx with rfl|hx
  ·exact QiH G
  exact QbJ h x hx
theorem QiI (h:Zi c=0):∀x∈c.co,x.a.st≠0:=by
 unfold Zi at h;by_cases E:KC c.ev≠0
 ·rw[OQ E]at h;exact OS h E
 rw[OP E]at h;by_cases H:c.co.length=0
 ·rw[OQ H]at h;cases h
 rw[OP H]at h;by_cases I:8<c.co.length\/12<c.co.length+c.rq.length
 ·rw[OQ I]at h;cases h
 rw[OP I]at h;by_cases G:(Yn c.ev.length (Vl c.ev.length) [] [] c.co).1≠0
 ·rw[OQ G]at h;exact OS h G
 exact QbJ (Ln.1 G)
theorem Qa1 (h:Zi c=0){A:Q2}{Q:List (LI)}(O:xd (O3 c.co)=some (A,Q)):ZD A/\A.st=(Q.length:Int)/\0<Q.length/\∀e∈A.al,0<=e/\e<(c.ev.length:Int):=by
 have G:=ZZ h;have H:=YQ G.co;have hsp:=Jh H O;refine⟨hsp.1.okay H,hsp.1.st,?_,λe J=>?_⟩
 ·refine Nat.pos_of_ne_zero λS=>?_;obtain⟨a,I,E⟩:=hsp.2.1 S;obtain⟨x,hx,rfl⟩:=LC.1 I;exact QiI h x hx E
 rw[hsp.1.al]at J;obtain⟨a,I,E⟩:=(QdX H e).1 J;obtain⟨x,hx,rfl⟩:=LC.1 I;exact⟨((G.co x hx).al e E).1,G.ce x hx e E⟩
theorem QgV {Q:List (LI)}(h:0<Q.length)(t:LI):0<=plx Q t/\plx Q t<(Q.length:Int):=by
 unfold plx;split
 ·rename_i E;have:=MC E;omega
 omega
theorem Vt.take {a b:List Q2}{t:LI}(h:Vt (a++b) t):Vt a (t.take a.length):=by
 have hl:=h.1;rw[Ll]at hl;refine⟨by rw[Ly];omega,λi G E=>?_⟩;have:=h.2 i oa (by rw[Ll];omega);rw[MT E]at this;rw[Nm];exact this
theorem Vt.drop {a b:List Q2}{t:LI}(h:Vt (a++b) t):Vt b (t.drop a.length):=by
 have hl:=h.1;rw[Ll]at hl;refine⟨by rw[LW];omega,λi E G=>?_⟩;have:=h.2 (a.length+i) oa (by rw[Ll];omega);rw[List.getElem_append_right oa]at this;rw[List.getElem_drop];simpa using this
theorem Vt.tpOk {l:List YU}{t:LI}(h:Vt (O3 l) t):QlJ (szs l) t:=by
 have hl:=h.1;unfold O3 at hl;rw[Lh]at hl;refine⟨by unfold szs;rw[Lh];exact hl,λi hi=>?_⟩;have E:=h.2 i hi (by unfold O3;rw[Lh];omega);have G:i<(szs l).length:=by unfold szs;rw[Lh];omega
 rw[<-ZG hi,<-ZG G];unfold O3 szs at *;simpa using E
theorem Kd.add {base:Nat}{W H I J:OX}{v1 v2 v3 E c0 c1 c2 c3:OY}{cos rqs:List TV}{pls:LI}{fbs:List Rsn}{q:Rsn}(hB:Q9 W.heap G T [c0,c1,c2,c3,v1,v2,v3,E])(O:Kd base W v1 v2 v3 E cos rqs pls fbs)(ha:G<base)(S:O1 [] W H)
  (ho:I.ownsRow base 185 4 v' (fbs.length+1) (fbs.flatMap ZX++ZX q)) (V:O1 (ob E) H I) (hn:∀b∈ob v',b∈ob E\/H.heap.size<=b) (Y:O1 [G] I J):
  O1 (G::ob E) W J/\Kd base J v1 v2 v3 v' cos rqs pls (fbs++[q])/\(∀x∈G::ob E,∃o:Obj,W.heap[x]?=some o/\o.isCells=true):=by
 refine⟨((S.any).Q (V.mono λx hx=>Lj _ hx)).Q (Y.mono λx hx=>?_),(O.a4 S ho V hn).low Y (λx hx=>?_),λx hx=>?_⟩
 ·simp only[oH]at hx;subst hx;exact Lq
 ·simp only[oH]at hx;subst hx;exact ha
 rcases Li.1 hx with rfl|hx
 ·exact hB.cells
 exact Go.Lg.QU O.o4 x hx
theorem yk {c:CL}(h0:ZJ L w.heap c)(mv:Kb w 4096):
  Q3 prog 65 [c.val] w λr w'=>O1 [] w w'/\∃v,r=.tuple #[v,oE oF (YS c.V)]/\(∃us,v=.agg us.toArray/\us.length=8/\Zp us)/\(YS c.V=0->QpS w.heap.size w'.heap v (spc c.V)):=by
 have h:=h0.up (L':=[]) oe;refine Zo (YS c.V) λE hE=>?_;refine Q3.of_G 20 func65 U ntmps65 results65 oe ?_;refine Zg<|QL ol ol<|Qe<|QW (us:=c.cells) U λb1 w1 hI hb1 mw=>Qe<|Qo (us:=[nS,oE oF 0,nS,nS,nS,nS,nS,nS]) U λb2 w2 hF hb2 gy=>Qb ?_;have kh:=hI.D hF;have my:=mw.lt;have ki:=gy.lt;have mz:=mw.I hF;refine Zg<|QL ol ol<|Q6 mz U U<|ZO<|(QbP (h.I kh) (mv.I kh)).mono ?_;rintro r3 w3 ⟨h6,vp,rfl,z5,m2⟩;rw[hE]at z5 m2 ⊢;have m3:=kh.D h6;refine Qa<|QZ U U<|QZ U U<|x Ql<|Qb<|Zg<|Zg<|QL ol ol<|Qa<|ZB U U<|xe<|QlM U (λkj=>?_) (λkj=>?_)
 ·refine Zg<|QL ol ol<|x (Zc [] Z)<|Qa<|Qe<|Qj (us:=[nS,oE oF 0,nS,nS,nS,nS,nS,nS]) (gy.I h6) U U U U ⟨U,U,U,U,U,U,U,U,Z⟩ λw4 hN hB4=>Qb<|K5 ⟨λ_ h=>(by cases h),ME,[.agg #[nS,oE oF 0,nS,nS,nS,nS,nS,nS],oE oF E],λW' hO=>⟨⟨⟨_,rfl,Qn rfl ((hB4.I hO).at (L:=[]) oe).cells⟩,rfl,Z⟩,(m3.O hN oa).D hO,_,rfl,⟨_,rfl,rfl,rfl,rfl,rfl,rfl,rfl,rfl,rfl,rfl,Z⟩,λe=>OS e kj⟩⟩
 have m4:E=0:=Ln.1 kj;obtain⟨b,q,rfl,rfl,hQ,hq,hF3⟩:=m2 m4;refine YG<|Zg<|QL ol ol<|Qa<|Yl U<|Q7 U<|x (Zs (us:=ZV q.s) hq.B U U U)<|x (Zc [(0,ZV q.s)] ⟨U,U,Z⟩)<|Qe<|Qo (us:=[nS,oE oF 0,nS,nS,nS,nS,nS,nS]) U λH w5 hY kk h7 =>
  Qe<|Qj (us:=[q.s.va,oE oF q.s.a.st,q.s.vm,q.s.ve,nS,nS,nS,nS]) h7 U U U U ⟨hq.s.al.one,U,hq.s.mr.one,hq.s.ed.one,U,U,U,U,Z⟩ λJ gz h7=>xe ?_
 have m5:O1 [] w3 J:=hY.O gz kk;have kn:=h7.lt;have m6:=hq.I m5;have hz3:=h6.size;refine Zg<|Zg<|QL ol ol<|Qa<|Yl U<|Qs U m6.B U U<|QI m6.ts.arr U<|Qa<|xe ?_;have m7:=(qD (λa ha=>by
  rcases Lc.1 ha with ha|ha
  ·exact YQ (ZZ hQ.ok).co a ha
  exact YQ (ZZ hQ.ok).rq a ha) hQ.s)
 have ko:=m7.1;have m8:=m7.2;simp only[]at ko m8;have hZ:=ZZ hQ.ok;have hckc:=hZ.c8;have ga:q.c.V.co.length=q.c.co.length:=Lh ..;have hrel:q.c.V.rq.length=q.c.rq.length:=Lh ..;have hcr:=hZ.cr;have hal:(O3 q.c.V.co++O3 q.c.V.rq).length=q.c.co.length+q.c.rq.length:=by rw[Ll];unfold O3;rw[Lh,Lh,ga,hrel]
 refine Zo (q.ts.map (·.2)) λT hT=>?_;rw[hT]at ko m8;have hTn:q.ts.length=T.length:=by rw[<-hT,Lh]
 refine Z7<|U4 (α:=Nat×(OY×OY×OY×OY)×List TV×List TV×LI) [(7,17),(37,99),(100,118)] (λz=>[(37,oE oF z.1)]) (λz ds W'=>z.1<=q.ts.length/\O1 [H] J W'/\UB J.heap.size W'.heap.size ds W'/\Q9 W'.heap H 177 [q.s.va,oE oF q.s.a.st,q.s.vm,q.s.ve,z.2.1.1,z.2.1.2.1,z.2.1.2.2.1,z.2.1.2.2.2] /\
  Kd J.heap.size W' z.2.1.1 z.2.1.2.1 z.2.1.2.2.1 z.2.1.2.2.2 z.2.2.1 z.2.2.2.1 z.2.2.2.2 (spF q.c.V q.p.a (q.qs.map (·.2)) (T.take z.1))/\z.2.2.1.map (·.2)=(T.take z.1).map (·.take q.c.co.length)/\z.2.2.2.1.map (·.2)=(T.take z.1).map (·.drop q.c.co.length)/\z.2.2.2.2=(T.take z.1).map (λt=>plx (q.qs.map (·.2)) (t.take q.c.co.length)))
  (λz=>q.ts.length - z.1) ol (0,(nS,nS,nS,nS),[],[],[]) La
  ⟨Lo _,O1.Z _ _,⟨ME,λD hD=>by cases hD⟩,h7,Kd.nil _ _,rfl,rfl,rfl⟩ ?_
 rintro⟨k,⟨v1,v2,v3,O⟩,cos,rqs,pls⟩ g ds w7 ⟨hk,kq,m9,kr,S,gj,gk,gl⟩;simp only[]at hk kr S gj gk gl;have gm:O1 [] w3 w7:=m5.O kq kk;have pa:=m3.D gm;have hz7:=kq.size;have g0:(T.take k).length=k:=by rw[Ly];omega
 have hcosl:cos.length=k:=by have:=OR oO gj;rw[Lh,Lh,g0]at this;exact this
 have hrqsl:rqs.length=k:=by have:=OR oO gk;rw[Lh,Lh,g0]at this;exact this
 have hplsl:pls.length=k:=by rw[gl,Lh,g0]
 have pc:=Qdj q.c.V q.p.a (q.qs.map (·.2)) (T.take k);rw[g0]at pc;refine Zo (spF q.c.V q.p.a (q.qs.map (·.2)) (T.take k)) λfbs g2=>?_;rw[g2]at S pc;refine Zo (ob v1++(ob v2++(ob v3++ob O))) λav gn=>?_;have gb:∀x∈av,J.heap.size<=x/\x<w7.heap.size:=λx hx=>by
  rw[<-gn]at hx;rcases Qba hx with G|G|G|G
  ·exact Qi S.o1 x G
  ·exact Qi S.o2 x G
  ·exact Qi S.o3 x G
  exact Qi S.o4 x G
 have g3:H∉av:=λI=>ot (gb H I).1
 have kt:∀x∈av,x∈H::av:=λx hx=>Lj _ hx;have g4:JI (H::av) b w7.heap q:=(hq.up (λx hx=>.inr (by
  rcases Li.1 hx with rfl|hx
  ·exact kk
  have:=(gb x hx).1;omega))).I gm
 refine Zg<|QL ol ol<|Q0 U U<|xe<|Zg<|jH U (λpd=>?_) (λpd=>?_)
 ·refine K6 ?_;rw[Lr oa]at gj gk gl g2;have hsp:=Qcc hQ.p hQ.s;rw[hT,ga,<-gj,<-gk,<-gl,g2]at hsp;have pf:=h6.D gm;refine Zg<|QL ol ol<|Q6 kr U U<|Qe<|Qj (us:=[q.s.va,oE oF q.s.a.st,q.s.vm,q.s.ve,v1,v2,v3,O]) (gy.I pf) U U U U ⟨hq.s.al.one,U,hq.s.mr.one,hq.s.ed.one,Qu S.o1,Qu S.o2,Qu S.o3,Qu S.o4,Z⟩ λw8 g5 hB8=>Qb ?_;have hb2w:b2<J.heap.size:=oa
  have go:UB J.heap.size w7.heap.size ds w8:=m9.blk g5 (gy.I pf);have hb2d:b2∉ds:=λI=>ot (go.2 b2 I).1
  have hS8:=S.low g5 (λx hx=>by simp only[oH]at hx;subst hx;exact hb2w);refine K5 ⟨λD hD=>(go.2 D hD).2.2,go.1,[.agg #[q.s.va,oE oF q.s.a.st,q.s.vm,q.s.ve,v1,v2,v3,O],oE oF E],λW' hO=>?_⟩;have g6:Lg.XD [] w8 W':=Lg.XD.nonc hO (λD hD=>⟨_,(go.2 D hD).2.2,U⟩);have gc:=hO.size;have h8:=hS8.cst g6 gc;refine⟨⟨⟨_,U,Qn U ((hB8.J hO hb2d).at (L:=[]) oe).cells⟩,OR (Value.int .i64) m4.symm,Z⟩,(pa.O g5 oa).then hO (λD hD=>.inr (ot (go.2 D hD).1)),_,U,⟨_,U,U,hq.s.al.one,U,hq.s.mr.one,hq.s.ed.one,Qu S.o1,Qu S.o2,Qu S.o3,Qu S.o4,Z⟩,λ_=>?_⟩;have hl9:pls.length<=1099511627776:=oa
  have hl8:fbs.length<=1099511627776:=oa
  rw[hsp];refine⟨q.s.va,q.s.vm,q.s.ve,v1,v2,v3,O,cos,rqs,U,U,U,λL hL=>⟨?_,⟨QK h8.o1 oa (λx hx I=>?_),λp hp=>h8.e1 p hp L (λx hx=>?_)⟩,⟨QK h8.o2 oa (λx hx I=>?_),λp hp=>h8.e2 p hp L (λx hx=>?_)⟩,QK h8.o3 hl9 (λx hx I=>?_),QK h8.o4 hl8 (λx hx I=>?_)⟩⟩
  ·have G:=((hF3 (b2::L) (λx hx=>by
    rcases Li.1 hx with rfl|hx
    ·exact ki
    have:=hL x hx;omega)).1.I gm).st (g5.mono (λx hx=>by simp only[oH]at hx;subst hx;exact Lq))
   have h2:=G.up (L':=L) (λx hx=>.inl (Lj _ hx));exact⟨h2.al.cst (g6.mono oe) gc,h2.mr.cst (g6.mono oe) gc,h2.ed.cst (g6.mono oe) gc⟩
  ·have:=(Qi h8.o1 x hx).1;have:=hL x I;omega
  ·exact .inl (ot (hL x hx))
  ·have:=(Qi h8.o2 x hx).1;have:=hL x I;omega
  ·exact .inl (ot (hL x hx))
  ·have:=(Qi h8.o3 x hx).1;have:=hL x I;omega
  have:=(Qi h8.o4 x hx).1;have:=hL x I;omega
 have gp:k<q.ts.length:=by have h39:(k:Int)<(q.ts.length:Int):=pd;omega
 have gq:k<T.length:=oa
 have pg:=Lk gp;have hTe:T[k]'gq=(q.ts[k]'gp).2:=by subst hT;simp
 have hr:=Qgy (c:=q.c.V) (pl:=q.p.a) (ps:=q.qs.map (·.2)) gq;have gr:T.take (k+1)=T.take k++[T[k]'gq]:=Lm gq;have gg:=ko _ (Lk gq);rw[g2]at hr;rw[hTe]at hr gr gg;refine YG<|Qew (α:=(OY×OY×OY×OY)×List TV×List TV×LI) [(7,17),(38,117)] (λz=>[(37,oE oF k)]) (λz hR W'=>O1 [H] J W'/\UB J.heap.size W'.heap.size hR W'/\Q9 W'.heap H 177 [q.s.va,oE oF q.s.a.st,q.s.vm,q.s.ve,z.1.1,z.1.2.1,z.1.2.2.1,z.1.2.2.2] /\
  Kd J.heap.size W' z.1.1 z.1.2.1 z.1.2.2.1 z.1.2.2.2 z.2.1 z.2.2.1 z.2.2.2 (spF q.c.V q.p.a (q.qs.map (·.2)) (T.take (k+1)))/\z.2.1.map (·.2)=(T.take (k+1)).map (·.take q.c.co.length)/\z.2.2.1.map (·.2)=(T.take (k+1)).map (·.drop q.c.co.length)/\z.2.2.2=(T.take (k+1)).map (λt=>plx (q.qs.map (·.2)) (t.take q.c.co.length))) ol ?_ ?_
 rotate_left
 ·rintro⟨⟨u1,u2,u3,u4⟩,cos',rqs',pls'⟩ g hR W ⟨hsW,hDW,hBW,hSW,G,h2,h3⟩;refine QL ol ol<|QS U U<|Qa<|xe ?_;exact⟨(k+1,(u1,u2,u3,u4),cos',rqs',pls'),oh,La,gp,hsW,hDW,hBW,hSW,G,h2,h3⟩
 refine Z7<|Zg<|QL ol ol<|Qa<|O4 (g:=YE) VA g4.ts.arr U U gp λa40 ph=>?_;refine Zo (q.ts[k]'gp) λt ht=>?_;rw[ht]at ph pg hr gr gg;have htI:=g4.ts.each t pg;have htl:t.2.length=q.c.co.length+q.c.rq.length:=by rw[gg.1,hal]
 refine x (QA ph U)<|Qe<|Qo (us:=[oE oF 0]) U λb7 w9 hs9 hb7 hB9=>Qe<|QE (j:=0) (u:=oE oF k) hB9 U U og U λw10 hs10 hB10 =>
  Qb ?_
 have ku:O1 [] w7 w10:=hs9.O hs10 hb7;refine Zg<|QL ol ol<|Qa<|Qa<|ZO<|(QaO (g4.I ku) (htI.I ku) oa).mono ?_;rintro r11 pj ⟨pm,v9,pn,rfl,hJ,hw⟩;refine Qa<|QZ U U<|QZ U U<|x Ql<|Qb ?_;have kv:=ku.D pm;have kw:=g4.I kv;refine Zo (t.2.take q.c.co.length) λtc hU=>?_;refine Zo (t.2.drop q.c.co.length) λtr gs=>?_;rw[ga]at hr;rw[hU]at hJ hr;rw[gs]at hw;have htcl:tc.length=q.c.co.length:=by rw[<-hU,Ly];omega
 have htrl:tr.length=q.c.rq.length:=by rw[<-gs,LW];omega
 have hbdt:=gg.bd (m:=4096) (λa ha=>by
  rcases Lc.1 ha with ha|ha
  ·exact(YQ hZ.co a ha).st1
  exact(YQ hZ.rq a ha).st1)
 have po:∀x∈tc,0<=x/\x<4096:=λx hx=>hbdt x (LZ (by rw[hU];exact hx));refine Zg<|ym (O1 [] pj) [oC 0,oC 1,oC 2,oC 3,oC 4,oD 5,oC 6,oC 7] mixed ol ol od (O1.C _ _) ?_;refine p QF<|p (Y9 U)<|p (QR U)<|pq (λ_ hc=>Qr (kw.B.I hc) U U)<|p QF<|pk<|xf<|(Qan (hJ.I (O1.C _ _)) ((mv.I (pa.D kv)).I (O1.C _ _)) po oa).mono ?_;rintro r12 hf ⟨rfl,hs12⟩;have gh:=(O1.C [] pj).D hs12;refine⟨gh,?_⟩;have pp:(match O6 q.mm (Kz tc)with|some u=>u|none=>oE oF 0)=oE oF (plx (q.qs.map (·.2)) tc):=by
  rw[hQ.m tc htcl (λx hx=>(po x hx).1)];unfold plx;by_cases I:tc∈q.qs.map (·.2)
  ·rw[OQ I,OQ I]
  rw[OP I,OP I]
 refine Zo (plx (q.qs.map (·.2)) tc) λpi kx=>?_;rw[kx]at pp hr;refine pq (λ_ hc=>(Ji (k:=Kz tc) (kw.m.I hc) U U).D (OR (λv=>Result.ok (Next.value v) _) pp))<|p ZM<|pe ?_;have gi:=kv.D gh;have hJ:=hJ.I gh;have hw:=hw.I gh;have h7:=kr.I gi;have gt:=S.I gi;have hS12d:=gt.I (O1.C [] hf);have hz712:=gi.size;have hzd:({ hf with drawn:=hf.drawn+1 }:OX).heap.size=hf.heap.size:=rfl
 have hC0:O1 av hf { hf with drawn:=hf.drawn+1 }:=O1.C _ _
 have fin:∀{hg hh ho hi hj:OY} {wx wy:OX},O1 av hf wx->Kd J.heap.size wx hg hh ho O (cos++[(hi,tc)]) (rqs++[(hj,tr)]) (pls++[pi]) fbs->O1 [H] wx wy->Q9 wy.heap H 177 [q.s.va,oE oF q.s.a.st,q.s.vm,q.s.ve,hg,hh,ho,O] ->
   O1 (H::av) hf wy/\Q9 wy.heap H 177 [q.s.va,oE oF q.s.a.st,q.s.vm,q.s.ve,hg,hh,ho,O]/\Kd J.heap.size wy hg hh ho O (cos++[(hi,tc)]) (rqs++[(hj,tr)]) (pls++[pi]) fbs:=λhC hP hs hB =>
  ⟨(hC.mono kt).Q (hs.mono (λx hx=>by simp only[oH]at hx;subst hx;exact Lq)),hB,hP.low hs (λx hx=>by simp only[oH]at hx;subst hx;exact kn)⟩
 have hkl:k<=4096:=oa
 have htr16:tr.length<=16:=oa
 have htc40:tc.length<=1099511627776:=oa
 have htr40:tr.length<=1099511627776:=oa
 have my:cos.length+1<=1099511627776:=oa
 have ki:rqs.length+1<=1099511627776:=oa
 have hl3:pls.length+1<=1099511627776:=oa
 have gu:J.heap.size<=hf.heap.size:=oa
 refine Qew (α:=OY×OY×OY×OY×OY) [(55,74)] (λ_=>[]) (λz hR w'=>hR=ds/\O1 (H::av) hf w'/\Q9 w'.heap H 177 [q.s.va,oE oF q.s.a.st,q.s.vm,q.s.ve,z.1,z.2.1,z.2.2.1,O]/\Kd J.heap.size w' z.1 z.2.1 z.2.2.1 O (cos++[(z.2.2.2.1,tc)]) (rqs++[(z.2.2.2.2,tr)]) (pls++[pi]) fbs) ol ?_ ?_
 ·refine Qji (α:=OY×OY×OY×OY) (O1 av hf) [oC 0,oC 1,oC 2,oC 6,oC 7,oC 8,oC 12,oC 13,oC 14] [oD 3,oD 4,oD 5,oC 17,oD 9,oD 10,oD 11] 15 70
   [oD 16,oD 18,oC 19,oD 20,oC 21,oD 22] av [(55,74)] [(58,60),(64,66),(72,72)] (λz=>[(60,z.1),(66,z.2.1),(68,v3),(72,.pointer (some ⟨H,4,none⟩))]) (λz w'=>O1 av hf w'/\Kd J.heap.size w' z.1 z.2.1 v3 O (cos++[(z.2.2.1,tc)]) (rqs++[(z.2.2.2,tr)]) pls fbs)
   (λv w'=>∃b,v=.slice (some ⟨b,0,none⟩) 1 1/\Q9 w'.heap b 3 [oE oF pi]) mixed ol ol od ol U hC0 (λx hx=>LT (gb x hx).2 hz712) ?_ ?_ ?_ ?_
  ·rintro v own w w' ⟨b,rfl,hB⟩ hs hn;exact⟨b,U,hB.J hs (hn b oq)⟩
  ·rintro z w w' ⟨G,h2⟩ hs;exact⟨G.D hs,h2.I hs⟩
  ·rintro⟨hg,hh,hi,hj⟩ g wz v ⟨pu,hP⟩ _ ⟨b15,rfl,g7⟩;simp only[]at hP;have hcz:=pu.size;refine pk<|Zb (news:=[oE oF pi]) (L:=[]) hP.o3 U U U (g7.at oe) (by simp[Value.oneCell']) hl3 (LH gu hcz) λho y1 g8 hI hn1=>?_;have Q1:=Kd.a3 (q:=pi) hP (O1.Z [] _) g8 hI hn1;have kz:O1 av hf y1:=pu.Q (hI.mono (λb hb=>by rw[<-gn];exact zJ (.inr (.inr (.inl hb)))));refine⟨kz,?_⟩;refine pkl (hl:=by kernel_rfl)<|QE (j:=4) (u:=hg) (h7.J kz g3) U U oe (Qu Q1.o1) λy2 hF k0=>p (QR rfl) <|
    pkl (hl:=by kernel_rfl)<|QE (j:=5) (u:=hh) k0 U U oe (Qu Q1.o2) λy3 h6 hB3'=>p (QR rfl) <|
    pkl (hl:=by kernel_rfl)<|QE (j:=6) (u:=ho) hB3' U U oe (Qu Q1.o3) λy4 hN hB4'=>pe ?_
   exact⟨(hg,hh,ho,hi,hj),Z,U,fin kz Q1 ((hF.Q h6).Q hN) hB4'⟩
  refine p (QR U)<|pq (λ_ hc=>Qr (h7.J hc g3) U U)<|p QF<|p (QR U)<|pq (λ_ hc=>Qr (h7.J hc g3) U U)<|p QF <|
   p (QR rfl)<|pq (λ_ hc=>Qr (h7.J hc g3) U U)<|p QF<|pe ⟨λg wf hCf=>QB (us:=[[oE oF pi]]) U U og oe ⟨rfl,rfl,Z⟩ λb wf' pw hbf pz=>⟨pw,hCf.D pw,⟨b,rfl,pz⟩,λx hx=>?_⟩,?_⟩
  ·have hxe:x=b:=by
    have hx':x∈[b]:=hx;simpa using hx'
   subst hxe;exact⟨hbf,pz.lt⟩
  have p0:∀{X:LN},(∀x∈X,x∈ob v1\/x∈ob v2)->∀x∈X,x∈av:=λhX x hx=>by rw[<-gn];exact zJ ((hX x hx).imp id .inl)
  refine fk λx1 p1 c1=>xf<|(Z5 (hJ.J c1 kt)).mono ?_;rintro hi y1 ⟨hI,g8⟩;have P1:=hS12d.I p1;have pb1:=LH gu c1.size;refine⟨c1.D hI,av,hI.any,λb hb=>.inl hb,?_⟩;refine fk λx2 p2 c2=>QB (us:=[[hi]]) U U og oe ⟨xH g8,rfl,Z⟩ λb2' y2 hF hb2' k0=>⟨c2.D hF,av,hF.any,λb hb=>.inl hb,?_⟩;refine fk λx3 p3 c3=>?_;have p7:=((hI.D p2).D hF).D p3;have p8:=Qq g8 ((p2.D hF).D p3);refine Zb (news:=[hi]) (L:=[]) (Qq P1.o1 p7) U U U ((k0.I p3).at oe) (λu hu=>by rw[oH]at hu;subst hu;exact Qu p8) my (LH gu c3.size) λhg y3 ho4 h6 hn3=>?_;have P2:=Kd.a1 (q:=(hi,tc)) P1 p7 p8 htc40 (Lv _) pb1 ho4 h6 hn3;have p9:O1 av x3 y3:=h6.mono (p0 λx hx=>.inl hx);refine⟨c3.Q p9,av,p9,λb hb=>.inl hb,?_⟩;refine fp (QR U) ?_;refine fk λx4 p4 c4=>xf<|(Z5 (hw.J c4 kt)).mono ?_;rintro hj y4 ⟨hN,qc⟩;have P3:=P2.I p4;have pb3:=LH gu c4.size;refine⟨c4.D hN,av,hN.any,λb hb=>.inl hb,?_⟩;refine fk λx5 p5 c5=>QB (us:=[[hj]]) U U og oe ⟨xH qc,rfl,Z⟩ λb5' y5 hY hb5' hB5'=>⟨c5.D hY,av,hY.any,λb hb=>.inl hb,?_⟩;refine fk λx6 p6 c6=>?_;have qo:=((hN.D p5).D hY).D p6;have qr:=Qq qc ((p5.D hY).D p6);refine Zb (news:=[hj]) (L:=[]) (Qq P3.o2 qo) U U U ((hB5'.I p6).at oe) (λu hu=>by rw[oH]at hu;subst hu;exact Qu qr) ki (LH gu c6.size) λhh y6 ho7 gz hn6=>?_;have P4:=Kd.a2 (q:=(hj,tr)) P3 qo qr htr40 (Lv _) pb3 ho7 gz hn6;have k4:O1 av x6 y6:=gz.mono (p0 λx hx=>.inr hx);refine⟨c6.Q k4,av,k4,λb hb=>.inl hb,?_⟩;exact fe ⟨(hg,hh,hi,hj),oB,c6.Q k4,P4⟩
 rintro⟨hg,hh,ho,hi,hj⟩ g hR k5 ⟨rfl,hK,q0,q1⟩;simp only[]at q0 q1;have hz13:=hK.size;have q2:=(kw.I gh).st hK;have hJ:=hJ.st hK;have hw:=hw.st hK;have g9:JI [] b k5.heap q:=q2.up oe;have hcell:∀x∈H::av,∃o:Obj,hf.heap[x]?=some o/\o.isCells=true:=λx hx=>by
  rcases Li.1 hx with rfl|hx
  ·exact h7.cells
  rw[<-gn]at hx;rcases Qba hx with G|G|G|G
  ·exact Go.Lg.QU gt.o1 x G
  ·exact Go.Lg.QU gt.o2 x G
  ·exact Go.Lg.QU gt.o3 x G
  exact Go.Lg.QU gt.o4 x G
 have hD13:UB J.heap.size w7.heap.size hR k5:=((m9.up (Lv _)).I gi).J hK hcell;have hb7n:b7∉H::av:=λI=>by
  rcases Li.1 I with G|G
  ·omega
  have:=(gb _ G).2;omega
 have hb1n:b1∉H::av:=λI=>by
  rcases Li.1 I with G|G
  ·omega
  have:=(gb _ G).1;omega
 have ka:=((hB10.I pm).I gh).J hK hb7n;have k6:=((mz.I (h6.D gm)).I gi).J hK hb1n;have hs613:O1 [H] J k5:=(kq.D gi).then hK (λx hx=>by
  rcases Li.1 hx with G|G
  ·subst G;exact .inl Lq
  exact .inr (gb x G).1)
 have k7:(cos++[(hi,tc)]).map (·.2)=(T.take (k+1)).map (·.take q.c.co.length):=by rw[gr,Lt,Lt,gj,M3,M3,hU]
 have k8:(rqs++[(hj,tr)]).map (·.2)=(T.take (k+1)).map (·.drop q.c.co.length):=by rw[gr,Lt,Lt,gk,M3,M3,gs]
 have k9:pls++[pi]=(T.take (k+1)).map (λt=>plx (q.qs.map (·.2)) (t.take q.c.co.length)):=by rw[gr,Lt,gl,M3,hU,kx]
 have hVc:Vt (O3 q.c.V.co) tc:=by
  have G:=gg.take;rw[show(O3 q.c.V.co).length=q.c.co.length by unfold O3;rw[Lh];exact ga,hU]at G;exact G
 have hVr:Vt (O3 q.c.V.rq) tr:=by
  have G:=gg.drop;rw[show(O3 q.c.V.co).length=q.c.co.length by unfold O3;rw[Lh];exact ga,gs]at G;exact G
 have gv:=Qa1 hQ.ok hQ.p;have hpr:=QgV gv.2.2.1 tc;rw[kx,<-gv.2.1]at hpr;have hckp:cks q.p.a pi=0:=by
  unfold cks;rw[OP (by rw[(Z0 q.p.a).2 gv.1];decide),OP oa]
 have hvo:=qd g9.k1 g9.k2 g9.k3 (hJ.up (L':=[]) oe) (by rw[hQ.ex,hQ.cs];exact hZ.cd) hVc.tpOk;have h4:rsn q.c.V q.p.a pi k t.2=(match vio q.c.V tc with|some (kd,j)=>some ⟨k,kd,j,-1⟩|none=>match rfd q.c.V tr (Qfl q.p.a pi)with|some (j,v)=>some ⟨k,3,j,v⟩|none=>none):=by unfold rsn;rw[ga,hU,gs];rfl
 rw[Qgb]at h4;rw[hQ.ex,hQ.cs]at hvo;refine Zo (VW q.c.V.ex q.c.V.cs tc) λV hV=>?_;rw[hV]at hvo h4;refine Zg<|Zg<|QL ol ol<|Qa<|Yl U<|Q7 U<|x (Zs (us:=[q.vs,q.vx,q.vk]) g9.B U U U)<|Qa<|ZO<|hvo.mono ?_;rintro r14 ma ⟨hA,rfl⟩;refine Qa<|QZ U U<|QZ U U<|QZ U U<|QZ U U<|x Ql<|x Ql<|x Ql<|Qb ?_;have kb:=q0.I hA;have hM:=q1.I hA;have q3:=hD13.I hA;have q4:=hs613.D hA;have hz14:=hA.size;have q6:fbs.length+1<=1099511627776:=oa
 have hb014:J.heap.size<=ma.heap.size:=oa
 have hz714:w7.heap.size<=ma.heap.size:=oa
 refine Zg<|QL ol ol<|Qa<|xe<|VR rfl (λmf=>?_) (λmf=>?_)
 ·rw[OQ mf]at h4;simp only[]at h4;rw[h4]at hr;refine Zg<|QL ol ol<|Qs U kb U U<|X2 (ka.I hA) U U<|Qa<|Qa<|x (Qy ⟨U,U,U,U,Z⟩) <|
   Qe<|QB (us:=[ZX ⟨k,V.1,V.2.1,-1⟩]) U U og oe ⟨rfl,rfl,Z⟩ λb93 y1 hG hb93 mg=>?_
  have za:=hG.size;refine Qe<|Zb (m:=1) (news:=ZX ⟨k,V.1,V.2.1,-1⟩) (L:=[]) (Qq hM.o4 hG) U U U (mg.at oe) (by simp[Value.oneCell']) q6 (LH hb014 za) λu4 y2 gw gx mh=>?_;have mi:H∉ob O:=λI=>ot (Qi hM.o4 _ I).1
  refine Q7 U<|Qe<|QE (j:=7) (u:=u4) ((kb.I hG).J gx mi) U U oe (Qu gw) λy3 mj mn=>xe ?_;have h5:=Kd.add (q:=⟨k,V.1,V.2.1,-1⟩) kb hM kn hG gw gx mh mj;refine K6<|⟨((hg,hh,ho,u4),cos++[(hi,tc)],rqs++[(hj,tr)],pls++[pi]),La,q4.then h5.1 (λx hx=>?_),((q3.J h5.1 h5.2.2).up (LH hz714 h5.1.size)),mn,?_,k7,k8,k9⟩
  ·rcases Li.1 hx with G|G
   ·subst G;exact .inl Lq
   exact .inr (Qi hM.o4 x G).1
  simp only[];rw[hr];exact h5.2.1
 rw[OP (by rw[mf];decide)]at h4;simp only[]at h4;refine YG ?_;have hA14:=q2.I hA;have hw:=hw.I hA;refine Zg<|QL ol ol<|Qa<|Qa<|Qa<|ZO<|(U6 (b:=b) (st:=pi) (vr:=pn) hw.cells).mono ?_;rintro r15 kc ⟨hH,c1,c2,c3,rfl,hc1,hc2,hc3,hR1,hR2,hR3⟩;refine xe ?_;have hz15:=hH.size;have g7:=kb.I hH;have zb:=hM.I hH;have zv:=q3.I hH;have z0:=q4.D hH;have hA15:=hA14.I hH;have ka:=ka.I (hA.D hH);have k6:=k6.I (hA.D hH);have hw:=hw.I hH;refine Zo (wrf q.c.V.rq tr (enb q.p.a pi)) λfl ke=>?_;have z1:∀x∈H::ob O,x∈H::av:=λx hx=>by
  rcases Li.1 hx with rfl|hx
  ·exact Lq
  exact Lj _ (by rw[<-gn];exact zJ (.inr (.inr (.inr hx))))
 have mo:∀x∈H::ob O,x<ma.heap.size:=λx hx=>by
  rcases Li.1 hx with rfl|hx
  ·omega
  exact(Qi hM.o4 x hx).2
 have z2:JI (H::ob O) b kc.heap q:=hA15.up (λx hx=>.inl (z1 x hx));have hIr15:QP (H::ob O) kc.heap pn tr:=hw.up (λx hx=>.inl (z1 x hx));have hEv:∀p∈fl,0<=p.1/\p.1<(q.c.ev.length:Int):=λp hp=>by
  rw[<-ke]at hp;have G:=(qC.1 hp).1;unfold enb at G;obtain⟨e,he,h2⟩:=LC.1 G;have h3:=gv.2.2.2 _ (gv.1.ed e (ZU he).1).2.2.1;rw[h2]at h3;exact h3
 refine Z7<|QbY (α:={ x:Int×Int // x∈fl }) (H::ob O) oa (capt:=[.pointer (some ⟨c1,0,none⟩),.pointer (some ⟨c2,0,none⟩),.pointer (some ⟨c3,0,none⟩)]) U (encs:=λx=>[oE oF x.1.1,oE oF x.1.2]) og (λ_=>U)
  (V2 hR1 hR2 hR3 (λI=>ot (mo _ I)) (λI=>ot (mo _ I)) (λx hx=>ot (mo _ hx)) z2 hIr15 (λx hx=>hZ.rq x.it (LJ hx)) hVr hckp U ke)
  (λpre W=>(∀y∈pre,(q.c.V.ev.getD y.1.1.toNat ⟨.empty,false,false,false,0⟩).co=true)/\O1 [] kc W) (λpre=>(Yt.pure _).and (Yt.J (Lv _)))
  (λe pre W=>e=.exit 2/\(∃p y,pre=p++[y]/\(∀y∈p,(q.c.V.ev.getD y.1.1.toNat ⟨.empty,false,false,false,0⟩).co=true)/\(q.c.V.ev.getD y.1.1.toNat ⟨.empty,false,false,false,0⟩).co=false /\
   ∃u4,O1 (H::ob O) kc W/\Q9 W.heap H 177 [q.s.va,oE oF q.s.a.st,q.s.vm,q.s.ve,hg,hh,ho,u4]/\Kd J.heap.size W hg hh ho u4 (cos++[(hi,tc)]) (rqs++[(hj,tr)]) (pls++[pi]) (fbs++[⟨k,3,y.1.2,y.1.1⟩])/\UB J.heap.size w7.heap.size hR W))
  (λe pre=>(Yt.pure _).and (Yt.ex λp=>Yt.ex λy=>(Yt.pure _).and ((Yt.pure _).and ((Yt.pure _).and (Yt.ex λu4=>(Yt.J (Lv _)).and (Yt.blk.and ((Yt.cst λW W' h hc hz=>h.cst hc hz).and (UB.stb oa))))))))
  ⟨λy hy=>(by cases hy),O1.Z _ _⟩
  (λf x f' W=>f'=upd (upd (upd (upd f 100 (oE oF x.1.1)) 101 (oE oF x.1.2)) 16 (oE oF x.1.1)) 17 (oE oF x.1.2)) (λx f'=>Yt.pure _) ?_ ?_ ?_ ?_
 ·rintro l pre ⟨⟨e,i⟩,he⟩ W Y;refine Zg<|QL ol ol<|Qb<|QL ol ol<|Qb<|⟨U,Ks.refl _ _ _,Lg.XD.refl _ _,Y,U⟩
 ·rintro l pre ⟨⟨e,i⟩,he⟩ f' W ⟨kf,Y⟩ rfl _;have hee:=hEv _ he;simp only[]at hee;have hen:e=(e.toNat:Int):=oa
  have kg:e.toNat<q.c.ev.length:=oa
  have hAW:=z2.I Y;refine Z7<|Zg<|QL ol ol<|Qs U (k6.I Y) U U<|Qa<|O4 (g:=Zw) (i:=e.toNat) Ui hAW.c.ev.arr U (OR (Value.int .i64) hen) kg λa105 z3=>?_;have hge:q.c.V.ev.getD e.toNat ⟨.empty,false,false,false,0⟩=q.c.ev[e.toNat]'kg:=by
   show q.c.ev.getD e.toNat _=_;simp[oP,kg]
  refine Zo (q.c.ev[e.toNat]'kg) λv hv=>?_;rw[hv]at z3 hge;refine x (Zt U)<|x (QA (z3.fld 1 (.bool v.co) U) U)<|x (ZC U)<|xe<|VR U (λmq=>?_) (λmq=>?_)
  ·have ms:v.co=false:=by simpa using mq
   have hS:=zb.I Y;have hB:=g7.I Y;have gc:=Y.size;refine Zg<|QL ol ol<|Qs U hB U U<|X2 (ka.I Y) U U<|Qa<|Qa<|x (Qy ⟨U,U,U,U,Z⟩) <|
    Qe<|QB (us:=[ZX ⟨k,3,i,e⟩]) U U og oe ⟨rfl,rfl,Z⟩ λb93 y1 hG hb93 mg=>?_
   have za:=hG.size;refine Qe<|Zb (m:=1) (news:=ZX ⟨k,3,i,e⟩) (L:=[]) (Qq hS.o4 hG) U U U (mg.at oe) (by simp[Value.oneCell']) q6 oa λu4 y2 gw gx mh=>?_;have mi:H∉ob O:=λI=>ot (Qi hM.o4 _ I).1
   refine Q7 U<|Qe<|QE (j:=7) (u:=u4) ((hB.I hG).J gx mi) U U oe (Qu gw) λy3 mj mn=>xe ?_;have h5:=Kd.add (q:=⟨k,3,i,e⟩) hB hS kn hG gw gx mh mj;refine K6 ?_;exact⟨Ks.J h5.1 gc (λx hx=>⟨.inl hx,h5.2.2 x hx⟩),U,pre,_,U,kf,by simp only[];rw[hge];exact ms,u4,Y.any.Q h5.1,mn,h5.2.1,(zv.I Y).J h5.1 h5.2.2⟩
  have ms:v.co=true:=by simpa using mq
  refine YG<|⟨Ks.refl _ _ _,Lg.XD.refl _ _,λy hy=>?_,Y⟩;rcases Lc.1 hy with G|G
  ·exact kf y G
  simp only[oH]at G;subst G;simp only[];rw[hge];exact ms
 ·rintro D xs W hD hxs ⟨kf,Y⟩ mt;have mu:rfd q.c.V tr (Qfl q.p.a pi)=none:=ze λx hx=>by
   rw[show wrf q.c.V.rq tr (Qfl q.p.a pi)=fl from ke,<-hxs]at hx;obtain⟨y,hy,rfl⟩:=LC.1 hx;exact kf y hy
  rw[mu]at h4;rw[h4]at hr;refine⟨((hg,hh,ho,O),cos++[(hi,tc)],rqs++[(hj,tr)],pls++[pi]),La,z0.D Y,(zv.I Y).cons oa oa mt,g7.I Y,?_,k7,k8,k9⟩;simp only[];rw[hr];have h9:=zb.I Y;simpa using h9
 rintro D e pre W hD hSp ⟨rfl,p,y,rfl,hp,hy,u4,hst,hBu,hSu,hDu⟩ mt _;have mu:rfd q.c.V tr (Qfl q.p.a pi)=some (y.1.2,y.1.1):=by
  obtain⟨rs,z4⟩:=hSp;rw[Lt]at z4;refine zd (x:=y.1) (t:=rs) (p:=p.map (·.1)) ?_ (λz hz=>?_) hy
  ·exact(show wrf q.c.V.rq tr (Qfl q.p.a pi)=fl from ke).D (z4.symm.D oe)
  obtain⟨z',hz',rfl⟩:=LC.1 hz;exact hp z' hz'
 rw[mu]at h4;simp only[]at h4;rw[h4]at hr;refine⟨((hg,hh,ho,u4),cos++[(hi,tc)],rqs++[(hj,tr)],pls++[pi]),La,z0.then hst (λx hx=>?_),hDu.cons oa oa mt,hBu,?_,k7,k8,k9⟩
 ·rcases Li.1 hx with G|G
  ·subst G;exact .inl Lq
  exact .inr (Qi hM.o4 x G).1
 simp only[];rw[hr];exact hSu
theorem At.from {a:Addr}(h:At L H a us)(j:Nat):At L H (a.add j) (us.drop j):=
 ⟨λu E=>by rw[YC];exact h.out u (Mc E),λu E=>by rw[YC];exact h.lt u (Mc E),λi v G=>by
  rw[Addr.add_add];exact h.cell (j+i) v (by rw[<-MW];exact G)⟩
def lwB (l:LI)(n:Int):Nat:=(l.filter λx=>decide (x<n)).length
theorem QmL {n:Int}(_:Xk l)(hi:i<=l.length)(H:∀m (E:m<l.length),m<i->l[m]<n)(I:∀m (E:m<l.length),i<=m->n<=l[m]):lwB l n=i:=by
 unfold lwB;have e1:(l.take i).filter (λx=>decide (x<n))=l.take i:=List.filter_eq_self.2 λx hx=>by
  obtain⟨m,E,rfl⟩:=LP hx;rw[Nm];have G:m<i/\m<l.length:=by rw[Ly]at E;omega
  exact OT (H m G.2 G.1)
 have e2:(l.drop i).filter (λx=>decide (x<n))=[]:=MN.2 λx hx=>by
  obtain⟨m,E,rfl⟩:=LP hx;rw[List.getElem_drop];have G:i+m<l.length:=by rw[LW]at E;omega
  have:=I (i+m) G oa;simp;omega
 have J:l.filter (λx=>decide (x<n))=l.take i:=by
  conv=>lhs;rw[<-MS i l]
  rw[L6,e1,e2,LK]
 rw[J,Ly];omega
theorem QdC:∀{l:LI}{n:Int},Xk l->n∈l->lwB l n=l.idxOf n
 | [],_,_,h=>by cases h
 | a::l,n,hi,h=>by
  have E:=L7.1 hi;unfold lwB;by_cases e:a=n
  ·subst e;have e2:l.filter (λx=>decide (x<a))=[]:=MN.2 λx hx=>by have:=E.1 x hx;simp;omega
   rw[Mh,OP oe,e2];simp
  have H:n∈l:=by
   rcases Li.1 h with G|G
   ·exact OS G.symm e
   exact G
  have ih:=QdC E.2 H;unfold lwB at ih;have I:=E.1 n H;rw[Mh,OQ (OT I),LS,ih,List.idxOf_cons];have:(a == n)=false:=by simpa using e
  rw[this];rfl
theorem QbR {v:OY}(h:QP L w.heap v l)(hi:Xk l)(n:Int):
  Q3 prog 104 [v,oE oF n] w λr w'=>w'=w/\r=.tuple #[oE oF (lwB l n),.bool (decide (n∈l))]:=by
 have hu:=h.le;refine Zq func104 ?_;refine Qc<|x Ql<|Qb<|Qm<|QI h U<|Qb<|Qm<|x Ql<|Qb<|Qd<|Qg<|QD (α:=Nat×Nat) [(7,9),(13,30)] (λz=>[(7,oE oF z.1),(8,oE oF z.2)])
  (λz w'=>w'=w/\z.1<=z.2/\z.2<=l.length/\(∀m (E:m<l.length),m<z.1->l[m]<n)/\(∀m (E:m<l.length),z.2<=m->n<=l[m])) (λz=>z.2 - z.1) ol (0,l.length) oz
  ⟨U,Lo _,Lv _,λm _ O=>OS O (Na m),λm h1 O=>OS h1 (by simp only[]at O;omega)⟩ ?_
 rintro⟨i,j⟩ g w1 ⟨rfl,hc,V,G,H⟩;simp only[]at hc V G H;refine Qd<|Qm<|Qa<|Q0 U U<|xe<|QH rfl (λhe=>?_) (λhe=>?_)
 ·have e:i=j:=oa
  subst e;refine Qz<|Za (α:=Bool) [(4,5),(31,53)] (λz=>[(4,oE oF i),(5,.bool z)]) (λz w'=>w'=w1/\z=decide (n∈l)) ol ?_ ?_
  ·refine Qw<|Qa<|Qa<|Qa<|xb (YP U U) (λhf=>?_) (λhf=>?_)
   ·have I:i<l.length:=oa
    refine Qa<|Qa<|Qa<|xii h U U I λhv hg=>x (QA hg U)<|Qa<|xb (QY U U) (λS=>?_) (λS=>?_)
    ·refine Qa<|Qp<|Qp<|Qp<|Qp<|Qp<|Qp<|Qp<|Qp<|Qp<|QG U<|QG U<|x Ql<|Qb ?_;have:n∈l:=by rw[<-S];exact Lk I
     exact⟨true,oz,U,by simp[this]⟩
    refine Qa<|Qa<|Qa<|xii h U U I λhw hk=>x (QA hk U)<|QM<|(Qbg _).mono ?_;rintro r3 w3 ⟨rfl,rfl⟩;refine Qa<|Qp<|Qp<|QG U<|QG U<|QG U<|x Ql<|Qb<|⟨false,oz,U,?_⟩;have:n∉l:=by
     intro E;obtain⟨m,J,Y⟩:=LP E;by_cases hl:m<i
     ·have:=G m J hl;omega
     by_cases hn:m=i
     ·subst hn;exact S Y
     have:=Xk.get hi J (show i<m by omega);have:=H i I (Lv _);omega
    simp[this]
   refine Qa<|Qp<|Qp<|Qp<|Qp<|Qp<|Qp<|Qp<|Qp<|Qp<|Qp<|Qp<|Qp<|Qp<|Qp<|Qp<|Qp<|xs U <|
    QG rfl<|x Ql<|Qb<|⟨false,oz,U,?_⟩
   have:n∉l:=by
    intro E;obtain⟨m,J,Y⟩:=LP E;have:=G m J oa;omega
   simp[this]
  rintro z g w7 ⟨rfl,rfl⟩;exact Qk ⟨[oE oF i,.bool (decide (n∈l))],oz,U,by rw[QmL hi (show i<=l.length by omega) G H];rfl⟩
 refine Qh<|Qg<|Qm<|Qa<|QS U U<|x (XM U (by exact⟨oa,oa⟩))<|x (Qdo (n:=1) U U og)<|x (XM U (by exact⟨oa,oa⟩))<|Qb ?_;have hh:(((i:Int)+(j:Int)) / 2 ^ 1)=(((i+j) / 2:Nat):Int):=oa
 rw[hh];generalize hq:(i+j) / 2=q;have ho:i<=q:=oa
 have hp:q<j:=oa
 have ha:q<l.length:=oa
 refine Qm<|Qa<|xii h U U ha λhy hr=>x (QA hr U)<|Qa<|QM<|(QdG _ _).mono ?_;rintro r8 w8 ⟨rfl,rfl⟩;refine xe<|QH rfl (λhb=>?_) (λhb=>?_)
 ·refine Qw<|Qa<|Qb<|⟨(i,q),oh,oz,U,ho,oa,G,λm E hs=>?_⟩;by_cases e:q=m
  ·subst e;omega
  have:=Xk.get hi E (show q<m by simp only[]at hs;omega);omega
 refine Qw<|Qa<|QS U U<|Qb<|⟨(q+1,j),oh,oz,U,hp,V,λm E ht=>?_,H⟩;by_cases e:m=q
 ·subst e;exact hb
 have:=Xk.get hi ha (show m<q by simp only[]at ht;omega);omega
theorem Ko {v:OY}{l:List Ed}(h:Zm L w.heap v l.length 3 (l.flatMap QC)):
  Q3 prog 142 [v] w λr w'=>O1 [] w w'/\w'.ownsRow w.heap.size 167 3 r l.length (l.flatMap QC):=by
 have hc:=h.le;refine Zq func142 ?_;refine Qc<|Qb ?_;obtain⟨ao,cap,G⟩:=h.shape;refine Qd<|Qm<|x (Xs (show ev _ _=_ from G) U)<|xe<|QQ rfl (λH=>?_) (λH=>?_)
 ·refine Qc<|Qb<|Qk ⟨[nS],La,O1.Z _ _,?_⟩;rcases h.2.2 with⟨E,I⟩|⟨a,c,E,_⟩
  ·have:l=[]:=Ls I;subst this;exact QJ _ _ _ _
  rw[E]at G;cases G;cases H
 rcases h.2.2 with⟨E,I⟩|⟨a,c,E,I,Y⟩
 ·rw[E]at G;injection G with e1;subst e1;cases H
 refine Qh<|Qc ?_;have ho:∀u∈l.flatMap QC,u.oneCell'=true:=by
  intro u hu;obtain⟨p,_,J⟩:=Ma.1 hu;simp only[QC,oK,oI,or_false]at J;rcases J with rfl|rfl|rfl <;> rfl
 refine Qe<|Xw λb5 w1 O S V=>Qa<|Qe<|Zb (base:=w.heap.size) (V.own (n:=0) (sz:=3) U oa S) U (show ev _ _=_ from E) h.1 (Y.I O) ho oa (ot V.lt) λv2 w2 ha hb he=>Qb<|Qk ⟨[v2],La,O.O hb S,?_⟩;simpa[tup]using ha
theorem VK {v:OY}{l:List J1}(h:Zm L w.heap v l.length 5 (l.flatMap Zw)):
  Q3 prog 86 [v] w λr w'=>O1 [] w w'/\w'.ownsRow w.heap.size 183 5 r l.length (l.flatMap Zw):=by
 have hc:=h.le;refine Zq func86 ?_;refine Qc<|Qb ?_;obtain⟨ao,cap,G⟩:=h.shape;refine Qd<|Qm<|x (Xs (show ev _ _=_ from G) U)<|xe<|QQ rfl (λH=>?_) (λH=>?_)
 ·refine Qc<|Qb<|Qk ⟨[nS],La,O1.Z _ _,?_⟩;rcases h.2.2 with⟨E,I⟩|⟨a,c,E,_⟩
  ·have:l=[]:=Ls I;subst this;exact QJ _ _ _ _
  rw[E]at G;cases G;cases H
 rcases h.2.2 with⟨E,I⟩|⟨a,c,E,I,Y⟩
 ·rw[E]at G;injection G with e1;subst e1;cases H
 refine Qh<|Qc ?_;have ho:∀u∈l.flatMap Zw,u.oneCell'=true:=by
  intro u hu;obtain⟨p,_,J⟩:=Ma.1 hu;simp only[Zw,oK,oI,or_false]at J;rcases J with rfl|rfl|rfl|rfl|rfl <;> rfl
 refine Qe<|Xw λb5 w1 O S V=>Qa<|Qe<|Zb (base:=w.heap.size) (V.own (n:=0) (sz:=5) U oa S) U (show ev _ _=_ from E) h.1 (Y.I O) ho oa (ot V.lt) λv2 w2 ha hb he=>Qb<|Qk ⟨[v2],La,O.O hb S,?_⟩;simpa[tup]using ha
structure Qc2 {α:Type}(g:α->LV)(sz T:Nat)(ps:α->List (OY×Nat×Nat×LV))(base:Nat)(w:OX)(v:OY)(l:List α):Prop where
 own:w.ownsRow base T sz v l.length (l.flatMap g)
 each:∀q∈l,∀t∈ps q,YH base (ob v) w.heap t.1 t.2.1 t.2.2.1 t.2.2.2
section
variable {g:α->LV}{ps:α->List (OY×Nat×Nat×LV)}{base:Nat}{v:OY}{l:List α}
theorem Qc2.nil:Qc2 g sz T ps base w (nS) []:=⟨QJ _ _ _ _,λq E=>by cases E⟩
theorem Qc2.app {E G:OX}{H:OY}{q:α}(h:Qc2 g sz T ps base w v l)(V:O1 [] w E)
  (Y:∀t∈ps q,∃N e,E.ownsRow N e t.2.2.1 t.1 t.2.1 t.2.2.2/\t.2.1<=1099511627776/\w.heap.size<=N) (I:base<=w.heap.size)
  (ho:G.ownsRow base T sz H (l.length+1) (l.flatMap g++g q)) (J:O1 (ob v) E G) (O:∀b∈ob H,b∈ob v\/E.heap.size<=b):Qc2 g sz T ps base G H (l++[q]):=by
 have ha:=Zf h.own;refine⟨?_,λd hd t S=>?_⟩
 ·rw[Ll,LB];simpa using ho
 rcases Lc.1 hd with hd|hd
 ·exact((h.each d hd t S).I V).app J O
 simp only[oH]at hd;subst hd;obtain⟨N,e,h1,h2,h3⟩:=Y t S;exact(YH.of_own h1 h2 oa (λb I=>ot (ha b I))).app J O
end
abbrev QkN (q:IV):List (OY×Nat×Nat×LV):=[(q.p.va,q.p.a.al.length,1,q.p.a.al.map (.int .i64)),(q.p.vm,q.p.a.mr.length,1,q.p.a.mr.map (.int .i64)),(q.p.ve,q.p.a.ed.length,3,q.p.a.ed.flatMap QC)]
abbrev IvP (base:Nat)(w:OX)(v:OY)(l:List IV):Prop:=Qc2 QO 5 71 QkN base w v l
def QpT (N:Nat)(H:xu)(v:OY)(l:List YU):Prop:=∃qs:List IV,qs.map IV.it=l/\∀L:LN,(∀b∈L,b<N)->XH L H v qs
theorem IvP.itms {base:Nat}{v:OY}{l:List IV}(h:IvP base w v l)(I:l.length<=1099511627776)(J:∀q∈l,J0 q.nm)(G:∀b∈L,b<base):XH L w.heap v l :=
 ⟨QK h.own I (λb E hbL=>ou (Qi h.own b E).1 (G b hbL)),λq H=>⟨h.each q H (q.p.va,q.p.a.al.length,1,q.p.a.al.map (.int .i64)) oe L (λb E=>.inl (G b E)),h.each q H (q.p.vm,q.p.a.mr.length,1,q.p.a.mr.map (.int .i64)) oe L (λb E=>.inl (G b E)),h.each q H (q.p.ve,q.p.a.ed.length,3,q.p.a.ed.flatMap QC) oe L (λb E=>.inl (G b E))⟩,J⟩
instance:Bw prog 71 [.string .empty,nS,oE oF 0,nS,nS] [(0,1),(1,4)]:=⟨od,og⟩
theorem yd {v vi:OY}{ix:LI}(h0:XH L w.heap v qs)(hD:QP L w.heap vi ix)(hb:∀i∈ix,0<=i/\i<(qs.length:Int)):
  Q3 prog 229 [v,vi] w λr w'=>O1 [] w w'/\QpT w.heap.size w'.heap r (chs (qs.map IV.it) ix)/\r.oneCell'=true:=by
 have h:XH [] w.heap v qs:=h0.up oe;have hi:QP [] w.heap vi ix:=hD.up oe;have hT:=hi.le;refine Zq func229 ?_;refine Qc<|Qb<|Qc<|Qb<|Qd<|Qm<|QI hi U<|Qa<|xe<|Qg<|QD (α:=Nat×OY×List IV) [(5,5),(7,8),(11,41)] (λz=>[(5,z.2.1),(11,oE oF z.1)]) (λz w'=>z.1<=ix.length/\O1 [] w w'/\IvP w.heap.size w' z.2.1 z.2.2/\z.2.2.map IV.it=chs (qs.map IV.it) (ix.take z.1)/\∀q∈z.2.2,J0 q.nm) (λz=>ix.length - z.1) ol (0,nS,[]) oz
  ⟨Lo _,O1.Z _ _,Qc2.nil,U,λq hq=>by cases hq⟩ ?_
 rintro⟨k,vo,qo⟩ g w1 ⟨hk,I,J,hf,hp⟩;simp only[]at hk J hf hp;have hU:qo.length=k:=by have:=OR oO hf;unfold chs at this;rw[Lh,Lh,Ly]at this;omega
 refine Qc<|Q0 U U<|xe<|Qd<|QH U (λhr=>?_) (λhr=>?_)
 ·refine Qz ?_;have hE:ix.length<=k:=by have hh:¬(k:Int)<(ix.length:Int):=hr;omega
  rw[Lr hE]at hf;refine Qm<|Qb<|Qk ⟨[_],La,I,⟨qo,hf,λL hL=>J.itms oa hp hL⟩,Qu J.own⟩
 refine Qh ?_;have O:k<ix.length:=by have hh:(k:Int)<(ix.length:Int):=hr;omega
 have hF:=hb _ (Lk O);have h6:ix.take (k+1)=ix.take k++[ix[k]'O]:=Lm O;refine Zo (ix[k]'O) λi h7=>?_;rw[h7]at hF h6;have h8:i=(i.toNat:Int):=oa
 have S:i.toNat<qs.length:=oa
 have hA:chs (qs.map IV.it) (ix.take (k+1))=chs (qs.map IV.it) (ix.take k)++[(qs[i.toNat]'S).it]:=by
  rw[h6];unfold chs;rw[Lt];simp[oP,S]
 have h1:=h.I I;have hs:=Lk S;refine Zo (qs[i.toNat]'S) λq hq=>?_;rw[hq]at hA hs;have H:=h1.each q hs;have hG:=h1.nm q hs;refine Qd<|Qg<|Qc<|xii (i:=k) (hi.I I) U U O λhV hh=>?_;rw[h7]at hh;refine x (QA hh U)<|Qb<|Qm<|Qa<|O4 (g:=QO) (i:=i.toNat) Ys h1.arr U (OR (Value.int .i64) h8) S λhW hB=>?_;rw[hq]at hB;refine x (Zt U)<|x (Qx (us:=[q.p.va,oE oF q.p.a.st,q.p.vm,q.p.ve]) (hB.from 1) U U)<|Qe<|Qo (us:=[nS,oE oF 0,nS,nS]) U λb8 w2 hH hI V =>
  Qe<|Qj (us:=[q.p.va,oE oF q.p.a.st,q.p.vm,q.p.ve]) V U U U U ⟨H.al.one,U,H.mr.one,H.ed.one,Z⟩ λG hJ V=>xe ?_
 have hj:O1 [] w1 G:=hH.O hJ hI;have Y:O1 [] G { G with drawn:=G.drawn+1 }:=O1.C _ _
 have hX:=hj.size;have hY:=I.size;have hv:=Qi J.own;have h3:XH (ob vo) G.heap v qs:=(h.up (L':=ob vo) (λb hb=>.inr (hv b hb).1)).I (I.D hj);have hl:b8∉ob vo:=λhm=>ot (hv b8 hm).2
 have hw:=H.I hj;refine ZI (ob vo) [oC 0,oC 1,oC 2,oC 3,oC 4,oC 5,oC 6,oC 7,oC 9,oC 10,oC 11,oC 12,oC 14,oC 15,oD 8,oD 13,oD 16,oC 17,oC 18,oD 19,oD 20,oC 21]<|p QF<|p QF<|p QF<|Go.Lg.pig (g:=QO) (i:=i.toNat) U Ys h3.arr U (OR (Value.int .i64) h8) S λhZ hC=>?_;rw[hq]at hC;refine p (λ_=>Zt U)<|pq (λ_ E=>QA ((hC.fld 0 (.string q.nm) U).st E) U)<|p (QR U)<|pq (λ_ E=>Qr (V.J E hl) U U)<|p (QR U) <|
  pq (λ_ E=>Qr (V.J E hl) U U)<|p (QR U)<|pq (λ_ E=>Qr (V.J E hl) U U) <|
  p (QR rfl)<|pq (λ_ E=>Qr (V.J E hl) U U)<|pk<|xg<|(Z5 (hw.al.I Y)).mono ?_
 rintro r4 w4 ⟨ha,hy⟩;refine⟨(Y.D ha).any,?_⟩;refine pk<|xg<|(Z5 ((hw.mr.I Y).I ha)).mono ?_;rintro r5 w5 ⟨hg,hz⟩;refine⟨((Y.D ha).D hg).any,?_⟩;refine pk<|xg<|(Ko (((hw.ed.I Y).I ha).I hg)).mono ?_;rintro r6 w6 ⟨h2,h4⟩;have hn:=((Y.D ha).D hg).D h2;refine⟨hn.any,?_⟩;refine p (λ_=>Qy ⟨xH hy,U,xH hz,xH h4,Z⟩)<|p (λ_=>Zc [(0,[.string q.nm]),(1,[r4,oE oF q.p.a.st,r5,r6])] ⟨U,U,U,U,Z⟩)<|pk<|QB (us:=[QO ⟨q.nm,⟨r4,r5,r6,q.p.a⟩⟩]) U U og oe ⟨rfl,rfl,Z⟩ λga w7 he gb hK=>⟨(hn.D he).any,?_⟩;have ho:=(hj.D hn).D he;have gc:=ho.size;have gg:({ G with drawn:=G.drawn+1 }:OX).heap.size=G.heap.size:=rfl
 have gh:=ha.size;have gi:=hg.size;refine pk<|Zb (m:=1) (news:=QO ⟨q.nm,⟨r4,r5,r6,q.p.a⟩⟩) (L:=[]) (Qq J.own ho) U U U (hK.at oe) (λu hu=>by
   simp only[oK,oI,or_false]at hu;rcases hu with rfl|rfl|rfl|rfl|rfl
   ·rfl
   ·exact Qu hy
   ·rfl
   ·exact Qu hz
   exact Qu h4) oa oa λv8 w8 hM h5 hN=>⟨(hn.D he).any.Q h5,?_⟩
 refine p ZM<|pe ?_;have hO:=H.al.le;have hP:=H.mr.le;have hQ:=H.ed.le;have hR:IvP w.heap.size w8 v8 (qo++[⟨q.nm,⟨r4,r5,r6,q.p.a⟩⟩]):=J.app ho (λt ht=>by
  simp only[oK,oI,or_false]at ht;rcases ht with rfl|rfl|rfl
  ·exact⟨_,_,Qq (Qq (Qq hy hg) h2) he,hO,oa⟩
  ·exact⟨_,_,Qq (Qq hz h2) he,hP,oa⟩
  exact⟨_,_,Qq h4 he,hQ,oa⟩) oa hM h5 hN
 refine Qw<|QS U U<|Qa<|xe<|⟨(k+1,v8,_),oh,oz,O,(I.D ho).then h5 (λb hb=>.inr (hv b hb).1),hR,?_,λq' hS=>?_⟩
 ·simp only[];rw[hA,Lt,hf];rfl
 rcases Lc.1 hS with h9|h9
 ·exact hp q' h9
 simp only[oH]at h9;subst h9;exact hG
theorem yR {bm:Nat}{H v1 v2 v3:OY}{co:LI}{mi:Bool}(I:Q9 w.heap bp 309 [H,v1,v2,v3])(E:Q9 w.heap bm 4 [.bool mi])(J:QP L w.heap H co)(hi:Xk co)(n:Int):
  Q3 prog 230 [oE oF n,.pointer (some ⟨bp,0,none⟩),.pointer (some ⟨bm,0,none⟩)] w λr w'=>O1 [bm] w w'/\r=oE oF (lwB co n)/\Q9 w'.heap bm 4 [.bool (mi || !decide (n∈co))]:=by
 refine Zq func230 ?_;refine Qc<|Qb<|Qc<|Qs U I U U<|Qa<|QM<|(QbR J hi n).mono ?_;rintro r1 O ⟨rfl,rfl⟩;refine Qa<|QZ U U<|QZ U U<|x Ql<|Qb<|Za (α:=Bool) [(14,18)] (λz=>[]) (λz w'=>O1 [bm] O w'/\Q9 w'.heap bm 4 [.bool (mi || !decide (n∈co))]) ol ?_ ?_
 ·refine Qw<|xB (Qr E U U) (λG=>?_) (λG=>?_)
  ·refine Qa<|Qp<|Qp<|QG U<|Qe<|QE (j:=0) (u:=.bool true) E U U oe rfl λw2 S V=>xe ?_;exact⟨true,Z,S,by rw[G];exact V⟩
  refine Qa<|Qa<|x (ZC U)<|QG U<|Qe<|QE (j:=0) (u:=.bool (!decide (n∈co))) E U U oe rfl λw3 Y ha=>xe ?_;exact⟨true,Z,Y,by rw[G];exact ha⟩
 rintro z g w4 ⟨hb,hc⟩;refine Qm<|Qb<|Qk ⟨[_],La,hb,U,hc⟩
theorem YH.of_lt {base:Nat}{v:OY}(h:∀L:LN,(∀b∈L,b<N)->Zm L H v n sz cs)(I:base<=N)(E:∀b∈av,b<N):YH base av H v n sz cs:=λL G =>
 h L (λb hbL=>(G b hbL).elim (λh=>oa) (E b))
theorem K8 (L:LN)(H:xu):QP L H (nS) []:=Zm.nil L H 1
open Go.RowKit
def yh (P:O0)(all:xx)(C:xt)(K:LN->Fr->OX->Prop):xo->LN->Fr->OX->Prop
 | [],own,f,w=>K own f w
 | (j,true)::l,own,f,w=>Ya all f (QV all j)=true/\∃v,(∀w',(UH (QV all j)=true->C w')->(execOp (ev f) (QV all j)).run P w'=.ok (.value v) w')/\yh P all C K l own (QT f (QV all j).dst v) w
 | (j,false)::l,own,f,w=>Ya all f (QV all j)=true/\∀w1,O1 [] w w1->C w1->XO P (QV all j) f w1 λE w'=>C w'/\∃own',O1 own w1 w'/\(∀b∈own',b∈own\/(w1.heap.size<=b/\b<w'.heap.size))/\yh P all C K l own' E w'
section
variable {all:xx}{C:xt}{KF:LN->Fr->OX->Prop}
theorem yh.I (hK:∀own f w w',KF own f w->O1 [] w w'->KF own f w'):∀{l:xo}{own:LN}{f:Fr}{w w':OX},yh P all C KF l own f w->O1 [] w w'->yh P all C KF l own f w'
 | [],_,_,_,_,h,E=>hK _ _ _ _ h E
 | (_,true)::_,_,_,_,_,h,E=>by
  obtain⟨G,v,H,hx⟩:=h;exact⟨G,v,H,yh.I hK hx E⟩
 | (_,false)::_,_,_,_,_,h,E=>⟨h.1,λI J O=>h.2 I (E.D J) O⟩
structure Fl2 (P:O0)(all:xx)(C:xt)(K:xr)(KF:LN->Fr->OX->Prop)(i d:Nat)(rest:xo)(Φ:OY->OX->Prop)(Dc:xp)(f1:Fr):Prop where
 stab:∀v (own:LN) w w',Φ v w->O1 own w w'->(∀b∈ow v,b∉own)->Φ v w'
 spec:∀f w,(∀t,Xa Dc t=false->f t=f1 t)->C w->XO P (QV all i) f w λf' w'=>O1 [] w w'/\C w'/\Φ (f' d) w'/\∀b∈ow (f' d),w.heap.size<=b/\b<w'.heap.size
 fin:∀own f w,KF own f w->∀v,C w->Φ v w->(∀b∈ow v,b∉own/\b<w.heap.size)->XP P all C K rest (QT f (some d) v) w
 mono:∀own f w w',KF own f w->O1 [] w w'->KF own f w'
attribute [local semireducible] XP in
theorem U0 {i d:Nat}{rest:xo}{Φ:OY->OX->Prop}{Dc:xp}{f1:Fr}(H:Fl2 P all C K KF i d rest Φ Dc f1)(O:Region.noSelect all.toArray=true){v:OY}:∀(l:xo) (own:LN) (f:Fr) (w:OX),ZP all d l=true->yh P all C KF l own f w->C w->Φ v w ->
  (∀b∈ow v,b∉own/\b<w.heap.size)->XP P all C K (l++rest) (QT f (some d) v) w
 | [],own,f,w,_,h,I,J,E=>H.fin own f w h v I J E
 | (j,q)::l,own,f,w,hfr,h,I,J,E=>by
  simp only[ZP,oR,oJ,Ob,List.contains_eq_mem,decide_eq_false_iff_not,beq_eq_false_iff_ne,ne_eq]at hfr;obtain⟨⟨S,T⟩,hfr⟩:=hfr;have V:ZP all d l=true:=by simpa[ZP]using hfr
  have ha:∀cs b,(QV all j).op≠.select cs b:=by
   intro cs b;cases Y:all[j]? with
   | none =>
    have:QV all j=default:=by
     clear h S T hfr V;have key:∀(l:xx) (j:Nat),l[j]?=none->QV l j=default:=by
      intro l;induction l with
      | nil=>intro j _;rfl
      | cons a l ih=>intro j hj;cases j with|zero=>simp at hj|succ j=>exact ih j (oy hj)
     exact key all j Y
    rw[this];intro e;cases e
   | some o=>rw[Zj Y];exact Region.noSelect_spec O j o cs b (oy Y)
  have hd:∀e,some d=some e->e∉(QV all j).looksAt all.toArray:=λe he=>by cases he;exact S
  cases q with
  | true =>
   obtain⟨hg,u,hu,hx⟩:=h;simp only[o8,XP];rw[X0 (QV all j) f (some d) v hd,hg,cond_true,cond_true];refine⟨u,λw' hc=>?_,?_⟩
   ·rw[Xm (all:=all) ha f (some d) v hd];exact hu w' hc
   rw[J3 f v u (λe he=>by cases he;exact T)];exact U0 H O l own _ w V hx I J E
  | false =>
   simp only[o8,XP];rw[X0 (QV all j) f (some d) v hd,h.1,cond_true,cond_false];refine Qap (all:=all) ha S T (λu w' hx=>?_) (h.2 w (O1.Z _ _) I);obtain⟨hf,own',hh,hi,hx⟩:=hx;refine⟨.inr (.inr hf),U0 H O l own' _ w' V hx hf (H.stab v own w w' J hh (λb G=>(E b G).1)) (λb G=>⟨λhm=>?_,LT (E b G).2 hh.size⟩)⟩;rcases hi b hm with h3|h3
   ·exact(E b G).1 h3
   exact Nf _ (LT (E b G).2 h3.1)
theorem QcX {i d:Nat}{rest:xo}{Φ:OY->OX->Prop}{Dc:xp}{f1:Fr}(J:Fl2 P all C K KF i d rest Φ Dc f1)(hs:Region.noSelect all.toArray=true)(hg:(QV all i).guard=none)(hd:(QV all i).dst=some d):∀(l:xo) (ls:Array Bool) (own:LN) (f:Fr) (w:OX),ls.size=all.length->ZP all d l=true->Z1 all Dc l=true->(∀t,Xa Dc t=false->f t=f1 t) ->
  yh P all C KF l own f w->C w->(∀b∈own,b<w.heap.size)->VF all.toArray i rest l ls=true->XA P all C K (l.length+1+rest.length) ls f w
 | [],ls,own,f,w,hc,hfr,O,hk1,h,S,ha,E=>by
  simp only[VF,oJ,beq_iff_eq]at E;obtain⟨T,E⟩:=E;rw[show([]:xo).length+1+rest.length=rest.length+1 by simp;omega];refine XC (λh0=>(by rw[h0]at T;cases T)) ?_;rw[T];intro k hk o H;have hh:k=i:=by simpa using hk
  subst hh;have he:=Zj H;have hx:=J.spec f w hk1 S;rw[he]at hg hd hx;rw[Ju hg,cond_true];refine hx.mono λv w' hx=>?_;rw[hd]at hx ⊢;obtain⟨h1,G,I,V⟩:=hx;simp only[QT,YJ]at I V;refine⟨.inr (.inr G),ZN hs rest _ _ _ (oy hc) (.inl G) E (J.fin own f w' (J.mono own f w w' h h1) v G I (λb Y=>⟨λhm=>Nf _ (LT (ha b hm) (V b Y).1),(V b Y).2⟩))⟩
 | (j,true)::l,ls,own,f,w,hc,hfr,O,hk1,h,S,ha,E=>by
  simp only[VF,oJ]at E;obtain⟨⟨T,hf⟩,hi⟩:=E;have hq:j∈Region.ready .any all.toArray ls:=by simpa using T
  have e:(oO ((j,true)::l))+1+rest.length=(l.length+1+rest.length)+1:=by simp;omega
  rw[e];have hl:ZP all d l=true:=by simp only[ZP,oR,oJ]at hfr;exact hfr.2
  simp only[Z1,oR,oJ]at O;have hn:Z1 all Dc l=true:=O.2;cases H:all[j]? with
  | none =>
   exfalso;obtain⟨_,o,hz,_⟩:=mem_ready.1 hq;simp[H]at hz
  | some o =>
   obtain⟨ht,v,hv,hx⟩:=h;rw[Zj H]at ht hv hx;have h5:∀(j:Nat) (o:Oper) cs b,all[j]?=some o->o.op≠.select cs b:=λj o cs b hj=>Region.noSelect_spec hs j o cs b (oy hj);have h6:=λk ok hk=>Region.free_spec (ops:=all.toArray) (md:=.any) (i:=j) (oi:=o) (listed:=ls) (oy H) hf k ok (oy hk);exact Xb (v:=v) (D:=λw=>UH o=true->C w) H (λ_ h=>h) h5 _ ls f w (λ_=>S) h6 hq (.inl ⟨ht,hv⟩) (QcX J hs hg hd l _ own _ w (oy hc) hl hn (by have:=Js (v:=v) O.1 hk1;rw[Zj H]at this;exact this) hx S ha hi)
 | (j,false)::l,ls,own,f,w,hc,hfr,O,hk1,h,S,ha,E=>by
  simp only[VF,oJ,Og,Bool.or_eq_true,beq_iff_eq,Ob]at E;obtain⟨⟨⟨hu,T⟩,h7⟩,hi⟩:=E;have e:(oO ((j,false)::l))+1+rest.length=(l.length+1+rest.length)+1:=by simp;omega
  rw[e];have hl:ZP all d l=true:=by simp only[ZP,oR,oJ]at hfr;exact hfr.2
  simp only[Z1,oR,oJ]at O;have hn:Z1 all Dc l=true:=O.2;refine XC (λh0=>(by rw[h0]at hu;cases hu)) ?_;intro k hk o H;have he:=Zj H;have hw:(ls.setIfInBounds k true).size=all.length:=by simpa using hc
  by_cases hh:k=i
  ·subst hh;have hx:=J.spec f w hk1 S;rw[he]at hg hd hx;rw[Ju hg,cond_true];refine hx.mono λv w' hx=>?_;rw[hd]at hx ⊢;obtain⟨h1,G,I,V⟩:=hx;simp only[QT,YJ]at I V;refine⟨.inr (.inr G),?_⟩;have hx:=U0 J hs ((j,false)::l) own f w' hfr (yh.I J.mono h h1) G I (λb Y=>⟨λhm=>Nf _ (LT (ha b hm) (V b Y).1),(V b Y).2⟩);have:=ZN hs ((j,false)::(l++rest)) _ _ _ hw (.inl G) h7 hx;rw[show((j,false)::(l++rest)).length=l.length+1+rest.length by simp;omega]at this;exact this
  have h8:k=j:=(T k hk).resolve_right hh;subst h8;have h1:=h.1;have G:=h.2 w (O1.Z _ _) S;rw[he]at h1 G;rw[h1,cond_true];refine G.mono λv w' hx=>?_;obtain⟨hy,own',h9,hA,hx⟩:=hx;refine⟨.inr (.inr hy),QcX J hs hg hd l _ own' _ w' hw hl hn (by have:=Js (v:=v) O.1 hk1;rw[he]at this;exact this) hx hy (λb Y=>?_) hi⟩;rcases hA b Y with I|I
  ·exact LT (ha b I) h9.size
  exact I.2
theorem yh.keeps {D:xp}{G:Fr}:∀(l:xo) (own:LN) (f:Fr) (w:OX),Z1 all D l=true->(∀t,Xa D t=false->f t=G t)->yh P all C KF l own f w->yh P all C (λo H w'=>(∀t,Xa D t=false->H t=G t)/\KF o H w') l own f w
 | [],own,f,w,_,E,h=>⟨E,h⟩
 | (j,true)::l,own,f,w,hd,E,h=>by
  simp only[Z1,oR,oJ]at hd;obtain⟨I,v,J,hx⟩:=h;exact⟨I,v,J,yh.keeps l own _ _ hd.2 (Js hd.1 E) hx⟩
 | (j,false)::l,own,f,w,hd,E,h=>by
  simp only[Z1,oR,oJ]at hd;refine⟨h.1,λO S T=>XO.mono (λv w' hx=>?_) (h.2 O S T)⟩;obtain⟨V,own',Y,ha,hx⟩:=hx;exact⟨V,own',Y,ha,yh.keeps l own' _ _ hd.2 (Js hd.1 E) hx⟩
theorem f2p {l:xo}{own:LN}{v:OY}(E:∀w',(execOp (ev f) (QV all j)).run P w'=.ok (.value v) w')(h:yh P all C KF l own (QT f (QV all j).dst v) w)
  (G:Ya all f (QV all j)=true:=by rfl):yh P all C KF ((j,true)::l) own f w:=⟨G,v,λw' _=>E w',h⟩
theorem f2k {l:xo}{own:LN}(h:∀w1,O1 [] w w1->C w1->XO P (QV all j) f w1 λE w'=>C w'/\∃own',O1 own w1 w'/\(∀b∈own',b∈own\/(w1.heap.size<=b/\b<w'.heap.size))/\yh P all C KF l own' E w')
  (G:Ya all f (QV all j)=true:=by rfl):yh P all C KF ((j,false)::l) own f w:=⟨G,h⟩
theorem f2e {own:LN}(h:KF own f w):yh P all C KF [] own f w:=h
theorem Kc {Q:Exit->Fr->OX->Prop}(C:xt)(pre l:xo)(i d:Nat)(rest:xo)(own:LN)(D Dc:xp)(S:α->List (Nat×OY))(I:α->LN->OX->Prop)(Φ:OY->OX->Prop)(hm:P.follows .mixedOrders=true)(hn:XI n all=true)
  (V:QcE all pre l i rest=true) (O:(Z1 all D pre && Z1 all D l && Z1 all Dc l)=true) (hd:(QV all i).dst=some d) (Y:C { w with drawn:=w.drawn+1 }) (ha:∀b∈own,b<w.heap.size)
  (stab:∀v (own:LN) w w',Φ v w->O1 own w w'->(∀b∈ow v,b∉own)->Φ v w') (mono:∀z own w w',I z own w->O1 [] w w'->I z own w')
  (fin:∀z g own w v,I z own w->C w->Φ v w->(∀b∈ow v,b∉own/\b<w.heap.size)->XP P all C (λf w=>Q .normal f w) rest (QT (qh (S z) (mix D f g)) (some d) v) w)
  (h:XP P all C (λG _=>(∀g w,C w->XO P (QV all i) (mix Dc G g) w λE w'=>O1 [] w w'/\C w'/\Φ (E d) w'/\∀b∈ow (E d),w.heap.size<=b/\b<w'.heap.size)/\yh P all C (λo E w'=>∃z,Xn E (S z)/\I z o w') l own G { w with drawn:=w.drawn+1 }) pre f { w with drawn:=w.drawn+1 }):W P n (.region id all.toArray true) Q f w:=by
 rw[Lu,Lu]at O;simp only[QcE,oJ,beq_iff_eq,Option.isNone_iff_eq_none]at V;obtain⟨⟨⟨⟨⟨H,hl⟩,hq⟩,hc⟩,hg⟩,hfr⟩:=V;rw[hd]at hfr;refine JB C hm hn ?_;have h1:=YD (K:=λf w=>Q .normal f w) (m:=l.length+1+rest.length) H pre (oV all.length false) f _ Y hq
  (B:=λG _=>Fl2 P all C (λf w=>Q .normal f w) (λo E w'=>(∀t,Xa D t=false->E t=f t)/\∃z,Xn E (S z)/\I z o w') i d rest Φ Dc G/\yh P all C (λo E w'=>(∀t,Xa D t=false->E t=f t)/\∃z,Xn E (S z)/\I z o w') l own G { w with drawn:=w.drawn+1 })
  (λG hB=>QcX hB.1 H hg hd l (Z6 pre (oV all.length false)) own G _ (by rw[YF];simp) hfr O.2 (λ_ _=>rfl) hB.2 Y ha hc)
  (XP.keeps_mono _ _ _ (XP.keeps pre f _ O.1.1 (λ_ _=>U) h) (λG w1 hx=>⟨⟨stab,?_,?_,?_⟩,yh.keeps l own _ _ O.1.2 hx.1 hx.2.2⟩))
 ·rw[hl]at h1;exact h1
 ·intro E w' J T;have:=hx.2.1 E w' T;rw[X5 J]at this;exact this
 ·rintro o E w' ⟨J,z,H,hi⟩ v T hv hb;have:=fin z E o w' v hi T hv hb;rw[X5 J,Y0 H]at this;exact this
 rintro o E w' hf ⟨J,z,H,hi⟩ he;exact⟨J,z,H,mono z o _ _ hi he⟩
end
attribute [irreducible] yh
abbrev Z3:LV:=[nS,nS,nS,nS,nS]
abbrev X4:LV:=[nS,oE oF 0,nS,nS]
theorem Jl {a:Array UInt8}(h:a.size<=100):(⟨a⟩:ByteArray).size<=9223372036854775807:=by
 show a.size<=_;omega
def UF (N M:Nat):LN:=(oW M).filter λb=>decide (N<=b)
theorem ZA :b∈UF N M↔N<=b/\b<M:=by
 unfold UF;rw[Md,Nu,decide_eq_true_iff];exact And.comm
def Vs (co:LI)(ls:xq):xq:=ls.map λl=>((lwB co l.1:Int),l.2)
theorem QdL {co:LI}(hi:Xk co)(h:mis co ls=false):Vs co ls=ixP co ls:=by
 unfold Vs ixP;refine MO λl hl=>?_;unfold mis at h;have E:=Np.1 h l hl;have G:l.1∈co:=by simpa using E
 rw[QdC hi G]
abbrev exG (c:Zx)(i:Int):UA:=c.ex.getD i.toNat ⟨.empty,[]⟩
abbrev csG (c:Zx)(i:Int):xG:=c.cs.getD i.toNat ⟨.empty,[],0⟩
def exB (c:Zx)(co ix:LI):List UA:=ix.map λi=>⟨(exG c i).nm,Vs co (exG c i).ls⟩
def csB (c:Zx)(co ix:LI):List xG:=ix.map λi=>⟨(csG c i).nm,Vs co (csG c i).ts,(csG c i).bd⟩
def exM (c:Zx)(co ix:LI):Bool:=ix.any λi=>mis co (exG c i).ls
def csM (c:Zx)(co ix:LI):Bool:=ix.any λi=>mis co (csG c i).ts
theorem QjY (c:Zx)(p:Prt):Qoc c p=(exM c p.co p.ex || csM c p.co p.cs):=rfl
theorem QkX {p:Prt}(hi:Xk p.co)(h:exM c p.co p.ex=false):exB c p.co p.ex=QjX c p:=by
 unfold exB QjX;refine MO λi E=>?_;rw[QdL hi (by have:=Np.1 h i E;simpa using this)]
theorem Qlm {p:Prt}(hi:Xk p.co)(h:csM c p.co p.cs=false):csB c p.co p.cs=QjZ c p:=by
 unfold csB QjZ;refine MO λi E=>?_;rw[QdL hi (by have:=Np.1 h i E;simpa using this)]
def ck4:List (OY×LI×Int)->Int
 | []=>0
 | (_,s,n)::l=>if J9 n none s≠0 then J9 n none s else ck4 l
abbrev skC (x:OY×LI×Int):LV:=[x.1,oE oF x.2.2]
theorem Qms (x:OY×LI×Int):(skC x).length=2:=rfl
theorem QbM:∀{l:List (OY×LI×Int)},ck4 l=0->∀x∈l,J9 x.2.2 none x.2.1=0
 | [],_,x,hx=>by cases hx
 | (v,s,n)::l,h,x,hx=>by
  rw[ck4]at h;by_cases E:J9 n none s≠0
  ·rw[OQ E]at h;exact OS h E
  rw[OP E]at h;rcases Li.1 hx with rfl|hx
  ·exact Ln.1 E
  exact QbM h x hx
theorem Yu.app2 {g:α->LV}{p:α->OY×Nat×Nat×LV}{base e:Nat}{E G:OX}{v H:OY}{l:List α}{q:α}(h:Yu g sz T p base E v l)
  (O:E.ownsRow N e (p q).2.2.1 (p q).1 (p q).2.1 (p q).2.2.2) (S:(p q).2.1<=1099511627776) (V:base<=N) (Y:∀b∈ob v,b<N)
  (ho:G.ownsRow base T sz H (l.length+1) (l.flatMap g++g q)) (I:O1 (ob v) E G) (J:∀b∈ob H,b∈ob v\/E.heap.size<=b):Yu g sz T p base G H (l++[q]):=by
 refine⟨?_,λd hd=>?_⟩
 ·rw[Ll,LB];simpa using ho
 rcases Lc.1 hd with hd|hd
 ·exact(h.each d hd).app I J
 simp only[oH]at hd;subst hd;exact(YH.of_own O S V Y).app I J
instance:Bw prog 44 [nS,nS,nS,nS,nS] [(0,1),(1,1),(2,1),(3,1),(4,1)]:=⟨od,og⟩
theorem yX {v:OY}(h:v.oneCell'=true):v.cells=#[v]:=by
 cases v <;> first|rfl|cases h
theorem QhC {v:OY}(h:∀L:LN,(∀b∈L,b<N)->XH L w'.heap v qs)(hM:w'.heap.size=M)(G:∀b∈L,b∉UF N M):XH L w'.heap v qs:=by
 refine(h (L.filter λb=>decide (b<N)) (λb E=>by have:=(Md.1 E).2;exact OU this)).up (λb E=>?_);by_cases H:b<N
 ·exact .inl (Md.2 ⟨E,OT H⟩)
 refine .inr ?_;have:=G b E;rw[ZA]at this;omega
structure EiA (L:LN)(H:xu)(z:OY×OY×OY)(ev:List J1)(qc qr:List IV):Prop where
 ev:Vp L H z.1 ev
 co:XH L H z.2.1 qc
 rq:XH L H z.2.2 qr
theorem EiA.I {L:LN}{w w':OX}{z:OY×OY×OY}{ev:List J1}{qc qr:List IV}(h:EiA L w.heap z ev qc qr)(E:O1 [] w w'):EiA L w'.heap z ev qc qr:=⟨h.ev.I E,h.co.I E,h.rq.I E⟩
theorem EiA.st {L:LN}{w w':OX}{z:OY×OY×OY}{ev:List J1}{qc qr:List IV}(h:EiA L w.heap z ev qc qr)(E:O1 L w w'):EiA L w'.heap z ev qc qr:=⟨h.ev.st E,h.co.st E,h.rq.st E⟩
theorem EiA.up {L L':LN}{H:xu}{z:OY×OY×OY}{ev:List J1}{qc qr:List IV}(h:EiA L H z ev qc qr)(E:∀b∈L',b∈L\/H.size<=b):EiA L' H z ev qc qr:=⟨h.ev.up E,h.co.up E,h.rq.up E⟩
theorem QcS {c:CL}{v0 v1 v2 v3:OY}{p:Prt}(V:ZJ L w.heap c)(hc0:QP L w.heap v0 p.co)(hr0:QP L w.heap v1 p.rq)(hx0:QP L w.heap v2 p.ex)(hk0:QP L w.heap v3 p.cs):
  Q3 prog 162 [c.val,.agg #[v0,v1,v2,v3]] w λr w'=>O1 [] w w'/\∃us,r=.tuple #[.agg us.toArray,oE oF (jQ c.V p)]/\us.length=5/\Zp us/\(jQ c.V p≠0->us=Z3)/\(jQ c.V p=0->QfV w.heap.size w'.heap (.agg us.toArray) (QeH c.V p)):=by
 have h:=V.up (L':=[]) oe;have I:=hc0.up (L':=[]) oe;have hr:=hr0.up (L':=[]) oe;have hx:=hx0.up (L':=[]) oe;have hk:=hk0.up (L':=[]) oe;have Y:jQ c.V p=if Zi c.V≠0 then Zi c.V else if ck4 [(v0,p.co,(c.co.length:Int)),(v1,p.rq,(c.rq.length:Int)),(v2,p.ex,(c.ex.length:Int)),(v3,p.cs,(c.cs.length:Int))]≠0 then ck4 [(v0,p.co,(c.co.length:Int)),(v1,p.rq,(c.rq.length:Int)),(v2,p.ex,(c.ex.length:Int)),(v3,p.cs,(c.cs.length:Int))]
   else if(exM c.V p.co p.ex || csM c.V p.co p.cs)=true then 13 else Zi (QeH c.V p):=by
  have e1:c.V.co.length=c.co.length:=Lh ..;have e2:c.V.rq.length=c.rq.length:=Lh ..;have e3:c.V.ex.length=c.ex.length:=Lh ..;have e4:c.V.cs.length=c.cs.length:=Lh ..;unfold jQ;rw[e1,e2,e3,e4,QjY];simp only[ck4];by_cases q0:Zi c.V≠0
  ·rw[OQ q0,OQ q0]
  rw[OP q0,OP q0];by_cases q1:J9 (c.co.length:Int) none p.co≠0
  ·simp only[OQ q1]
  simp only[OP q1];by_cases q2:J9 (c.rq.length:Int) none p.rq≠0
  ·simp only[OQ q2]
  simp only[OP q2];by_cases q3:J9 (c.ex.length:Int) none p.ex≠0
  ·simp only[OQ q3]
  simp only[OP q3];by_cases q4:J9 (c.cs.length:Int) none p.cs≠0
  ·simp only[OQ q4]
  simp only[OP q4];simp
 refine Zo (jQ c.V p) λE hE=>?_;rw[hE]at Y ⊢;refine Zo [(v0,p.co,(c.co.length:Int)),(v1,p.rq,(c.rq.length:Int)),(v2,p.ex,(c.ex.length:Int)),(v3,p.cs,(c.cs.length:Int))] λS go=>?_;rw[go]at Y;have hl4n:S.length=4:=by rw[<-go];rfl
 have hl4i:∀x∈S,QP [] w.heap x.1 x.2.1:=by
  rw[<-go];intro x O;simp only[oK,oI,or_false]at O;rcases O with rfl|rfl|rfl|rfl
  ·exact I
  ·exact hr
  ·exact hx
  exact hk
 have hl4z:ck4 S=0->J9 (c.co.length:Int) none p.co=0/\J9 (c.rq.length:Int) none p.rq=0/\J9 (c.ex.length:Int) none p.ex=0/\J9 (c.cs.length:Int) none p.cs=0:=by
  intro V;have h1:=QbM V;rw[<-go]at h1;exact⟨h1 (v0,p.co,_) oe,h1 (v1,p.rq,_) oe,h1 (v2,p.ex,_) oe,h1 (v3,p.cs,_) oe⟩
 have hxl:=hx.le;have hkl:=hk.le;refine Zq func162 ?_;refine Qc<|Qe<|QW (us:=c.cells) U λb2 w1 hs1 hb2 m3=>Qe<|QW (us:=[v0,v1,v2,v3]) U λb3 w2 m4 hb3 hB3=>Qe<|Qo (us:=Z3) U λb4 w3 kj hb4 hB4=>Qb ?_;have hl2:=m3.lt;have hl3:=hB3.lt;have hl4':=hB4.lt;have hs03:=(hs1.D m4).D kj;refine Qd<|Qc<|Q6 ((m3.I m4).I kj) U U<|ZO<|(XS (h.I hs03)).mono ?_;rintro r4 w4 ⟨rfl,gp⟩;refine Qb ?_;have m5:=hs03.D gp;have hz4:=gp.size;have gq:=((m3.I m4).I kj).I gp;have gr:=(hB3.I kj).I gp;have m6:=hB4.I gp;refine Qm<|ZB U U<|xe<|QX rfl (λkk=>?_) (λkk=>?_)
 ·rw[OQ kk]at Y;subst Y;refine Qc<|x (Qy Z)<|Qa<|Qe<|Qj (us:=Z3) m6 U U U U ⟨U,U,U,U,U,Z⟩ λw5 hs5 hB45=>Qb<|Qk ⟨[.agg Z3.toArray,oE oF (Zi c.V)],⟨⟨_,U,Qn U (hB45.at (L:=[]) oe).cells⟩,rfl,Z⟩,m5.O hs5 oa,Z3,rfl,rfl,⟨rfl,rfl,rfl,rfl,rfl,Z⟩,λ_=>rfl,λV=>OS V kk⟩
 rw[OP kk]at Y;refine Qh ?_;have h4:=h.I m5;refine Qd<|Qc<|Qs U gr U U<|Qs U gq U U<|QI h4.co.arr U<|x (Qy ⟨I.cells,U,Z⟩) <|
  Qs rfl gr U U<|Qs U gq U U<|QI h4.rq.arr U<|x (Qy ⟨hr.cells,U,Z⟩) <|
  Qs rfl gr U U<|Qs U gq U U<|QI h4.ex.arr U<|x (Qy ⟨hx.cells,U,Z⟩) <|
  Qs rfl gr U U<|Qs U gq U U<|QI h4.cs.arr U<|x (Qy ⟨hk.cells,U,Z⟩) <|
  Qe<|QB (us:=[skC (v0,p.co,(c.co.length:Int)),skC (v1,p.rq,(c.rq.length:Int)),skC (v2,p.ex,(c.ex.length:Int)),skC (v3,p.cs,(c.cs.length:Int))]) U U og oe ⟨rfl,rfl,rfl,rfl,rfl,rfl,rfl,rfl,Z⟩ λb54 w6 hY hb54 hB54=>?_
 have hA54:Zm [] w6.heap (.slice (some ⟨b54,0,none⟩) 4 4) S.length 2 (S.flatMap skC):=by
  have:=hB54.arr (L:=[]) oe (n:=4) (cap:=4) (sz:=2) ol oa (Lv _);rw[hl4n,<-go];exact this
 refine QI hA54 U<|Qa<|xe ?_;have hs06:=m5.D hY;have hz6:=hY.size;refine Qg<|QD (α:=Nat) [(5,5),(8,9),(56,69)] (λz=>[(56,oE oF z)]) (λz w'=>z<=S.length/\O1 [] w6 w'/\ck4 (S.drop z)=ck4 S) (λz=>S.length - z) ol 0 La ⟨Lo _,O1.Z _ _,U⟩ ?_;rintro k g w7 ⟨hkl4,hD,hF⟩;have gs:=hs06.D hD;have hz7:=hD.size;refine Qc<|Q0 U U<|xe<|Qd<|QH U (λm7=>?_) (λm7=>?_)
 ·refine Qz ?_;have hke:S.length<=k:=by have hw:¬(k:Int)<(S.length:Int):=m7;omega
  rw[Lp hke]at hF;have hck0:ck4 S=0:=hF.symm;rw[OP (λV=>V hck0)]at Y;obtain⟨zco,zrq,zex,zcs⟩:=hl4z hck0;have gt:=(XB _ _ _).1 zco;have hrq:=(XB _ _ _).1 zrq;have hexz:=(XB _ _ _).1 zex;have hcsz:=(XB _ _ _).1 zcs;have h7:=h.I gs;have kn:Q9 w7.heap b2 44 c.cells:=(gq.I hY).I hD;have m8:Q9 w7.heap b3 309 [v0,v1,v2,v3]:=(gr.I hY).I hD;have hB47:Q9 w7.heap b4 44 Z3:=(m6.I hY).I hD;have hsd:O1 [] w7 { w7 with drawn:=w7.drawn+1 }:=O1.C _ _
  refine Za (α:=Nat×(OY×OY×OY)×List IV×List IV) [(70,83),(10,10)] (λz=>[(10,.pointer (some ⟨z.1,0,none⟩))]) (λz w'=>O1 [] w7 w'/\w7.heap.size<=z.1/\Q9 w'.heap z.1 44 [z.2.1.1,z.2.1.2.1,z.2.1.2.2,nS,nS] /\
   z.2.2.1.map IV.it=chs c.V.co p.co/\z.2.2.2.map IV.it=chs c.V.rq p.rq/\Zp [z.2.1.1,z.2.1.2.1,z.2.1.2.2]/\∀L:LN,(∀b∈L,b<w7.heap.size\/b=z.1)->EiA L w'.heap z.2.1 c.ev z.2.2.1 z.2.2.2) ol ?_ ?_
  ·refine Kc (α:=(OY×OY×OY)×List IV×List IV) (O1 [] w7) [oC 0,oC 1,oC 3,oC 4,oC 5,oC 6,oC 8,oC 9,oC 10,oC 11] [oD 2,oD 7,oD 12,oC 13] 14 10 [oD 15] []
    [(70,83)] [(72,72),(77,77),(82,83)] (λz=>[(83,.agg #[z.1.1,z.1.2.1,z.1.2.2,nS,nS])])
    (λz own w'=>(∀b∈own,w7.heap.size<=b)/\z.2.1.map IV.it=chs c.V.co p.co/\z.2.2.map IV.it=chs c.V.rq p.rq/\Zp [z.1.1,z.1.2.1,z.1.2.2]/\∀L:LN,(∀b∈L,b∉own)->EiA L w'.heap z.1 c.ev z.2.1 z.2.2)
    (λv w'=>∃b,v=.pointer (some ⟨b,0,none⟩)/\w7.heap.size<=b/\Q9 w'.heap b 44 Z3) mixed ol od ol U hsd oe ?_ ?_ ?_ ?_
   ·rintro v own wa wb ⟨b,rfl,G,hB⟩ hs hn;exact⟨b,U,G,hB.J hs (hn b oq)⟩
   ·rintro z own wa wb ⟨h1,h2,h3,h4,h5⟩ hs;exact⟨h1,h2,h3,h4,λL hL=>(h5 L hL).I hs⟩
   ·rintro⟨zv,qc,qr⟩ g own wz v ⟨i1,i2,i3,i4,i5⟩ hCz ⟨J,rfl,ko,hB10⟩ hbo;simp only[]at i2 i3 i4 i5;have hb10o:=(hbo J oq).1;refine pkl (hl:=by kernel_rfl)<|Qj (us:=[zv.1,zv.2.1,zv.2.2,nS,nS]) hB10 U U U U ⟨i4.1,i4.2.1,i4.2.2.1,U,U,Z⟩ λw8 hZ hB108=>pe ?_;refine⟨(J,zv,qc,qr),La,hCz.O hZ ko,ko,hB108,i2,i3,i4,λL hL=>?_⟩;have h1:=i5 (J::L) (λb G=>by
     rcases Li.1 G with rfl|G
     ·exact hb10o
     rcases hL b G with h2|h2
     ·exact λh3=>ot (i1 b h3)
     subst h2;exact hb10o)
    exact(h1.st (hZ.mono oe)).up (λb G=>.inl (by simp[G]))
   refine Go.Lg.p (QR U)<|pq (λ_ I=>Qr (kn.I I) U U)<|Go.Lg.p (QR U)<|pq (λ_ I=>Qr (kn.I I) U U) <|
    Go.Lg.p (QR U)<|pq (λ_ I=>Qr (m8.I I) U U)<|Go.Lg.p (QR U)<|pq (λ_ I=>Qr (kn.I I) U U) <|
    Go.Lg.p (QR U)<|pq (λ_ I=>Qr (m8.I I) U U)<|pe ⟨λg wf hCf=>Qo (us:=Z3) U λb wf' hsf hbf hBf=>⟨hsf,hCf.D hsf,⟨b,U,LH hCf.size hbf,hBf⟩,λx hx=>?_⟩,?_⟩
   ·have hxe:x=b:=by
     have hx':x∈[b]:=hx;simpa using hx'
    subst hxe;exact⟨hbf,hBf.lt⟩
   refine f2k λx1 p1 c1=>xf<|(VK (h7.ev.I c1).arr).mono ?_;rintro m9 y1 ⟨hs1',ga⟩;refine⟨c1.D hs1',UF x1.heap.size y1.heap.size,hs1'.any,λb G=>.inr (ZA.1 G),?_⟩;refine f2k λx2 p2 c2=>xf<|(yd (h7.co.I c2) (I.I (gs.D c2)) (λi hi=>gt.1 i hi)).mono ?_;rintro r77 y2 ⟨pa,⟨qc,kq,hqcI⟩,kr⟩;refine⟨c2.D pa,UF x1.heap.size y1.heap.size++UF x2.heap.size y2.heap.size,pa.any,λb G=>(Lc.1 G).imp id λG=>ZA.1 G,?_⟩;refine f2k λx3 p3 c3=>xf<|(yd (h7.rq.I c3) (hr.I (gs.D c3)) (λi hi=>hrq.1 i hi)).mono ?_;rintro r82 y3 ⟨kt,⟨qr,ku,hqrI⟩,kv⟩;refine⟨c3.D kt,(UF x1.heap.size y1.heap.size++UF x2.heap.size y2.heap.size)++UF x3.heap.size y3.heap.size,kt.any,λb G=>(Lc.1 G).imp id λG=>ZA.1 G,?_⟩;refine f2p (λ_=>Zc [(0,[m9]),(1,[r77]),(2,[r82])] ⟨xH ga,U,yX kr,U,yX kv,U,Z⟩)<|f2e ?_;refine⟨((m9,r77,r82),qc,qr),La,λb G=>?_,kq,ku,⟨Qu ga,kr,kv,Z⟩,λL hL=>?_⟩
   ·have e1:=c1.size;have e2:=c2.size;have e3:=c3.size;rcases Lc.1 G with G|G
    ·rcases Lc.1 G with G|G
     ·have:=ZA.1 G;omega
     have:=ZA.1 G;omega
    have:=ZA.1 G;omega
   have hL1:∀b∈L,b∉UF x1.heap.size y1.heap.size:=λb G O=>hL b G (by simp[O]);have hL2:∀b∈L,b∉UF x2.heap.size y2.heap.size:=λb G O=>hL b G (by simp[O]);have hL3:∀b∈L,b∉UF x3.heap.size y3.heap.size:=λb G O=>hL b G (by simp[O]);have hev1:Vp L y1.heap m9 c.ev:=⟨QK ga h.ev.arr.le (λb G O=>hL1 b O (ZA.2 (Qi ga b G))),h.ev.nm⟩;exact⟨(((hev1.I p2).I pa).I p3).I kt,((QhC hqcI U hL2).I p3).I kt,QhC hqrI U hL3⟩
  rintro⟨J,zv,qc,qr⟩ g wc ⟨hsc,ko,pc,kq,ku,kw,hEi⟩;simp only[]at ko pc kq ku kw hEi;have hl10:=pc.lt;refine Qc<|Qe<|Qo (us:=[.bool false]) U λH w8 hZ hb11 hB11=>Qe<|QE (j:=0) (u:=.bool false) hB11 U U oe rfl λw9 pd kz=>xe ?_;have k0:O1 [] wc w9:=hZ.O pd hb11;have hG:=hsc.D k0;have gu:=gs.D hG;have hz9:=k0.size;have hl11:=kz.lt;have hB109:=pc.I k0;have hB29:=kn.I hG;have hB39:=m8.I hG;have hB49:=hB47.I hG;have hn10:J≠H:=oa
  have hup:∀b∈[J,H],w.heap.size<=b:=λb G=>by simp only[oK,oI,or_false]at G;omega
  have k4:∀b∈[J,H],b<w9.heap.size:=λb G=>by simp only[oK,oI,or_false]at G;omega
  have hn2:b2∉[J,H]:=λG=>by simp only[oK,oI,or_false]at G;omega
  have hn3:b3∉[J,H]:=λG=>by simp only[oK,oI,or_false]at G;omega
  have hn4:b4∉[J,H]:=λG=>by simp only[oK,oI,or_false]at G;omega
  have k5:∀b∈[J],b∈[J,H]:=λb G=>by simp only[oH]at G;simp[G]
  have k6:∀b∈[H],b∈[J,H]:=λb G=>by simp only[oH]at G;simp[G]
  have ga:=kw.1;have kr:=kw.2.1;have kv:=kw.2.2.1;refine Qc<|x (Zz (l:=[]) (l':=[_,_]))<|Qb<|Qd<|Qc<|Qs U hB39 U U<|QI (hx.I gu) U<|Qa<|xe<|Qg<|QD (α:=Nat×Bool×OY×List XV) [(14,15),(17,17),(88,129)] (λz=>[(88,oE oF z.1)]) (λz w'=>z.1<=p.ex.length/\O1 [J,H] w9 w'/\Q9 w'.heap J 44 [zv.1,zv.2.1,zv.2.2,z.2.2.1,nS]/\Q9 w'.heap H 4 [.bool z.2.1] /\
   XvN w9.heap.size w' z.2.2.1 z.2.2.2/\z.2.2.2.map (·.x)=exB c.V p.co (p.ex.take z.1)/\z.2.1=exM c.V p.co (p.ex.take z.1)/\∀q∈z.2.2.2,J0 q.nm) (λz=>p.ex.length - z.1) ol (0,false,nS,[]) La
   ⟨Lo _,O1.Z _ _,hB109,kz,Yu.nil,U,U,λq T=>by cases T⟩ ?_
  rintro⟨k,mi,vx,qx⟩ g he ⟨hk10,hM,pf,gv,k7,gw,k8,pg⟩;simp only[]at hk10 pf gv k7 gw k8 pg;have gx:O1 [] w he:=gu.then hM (λb G=>.inr (hup b G));have ph:=h.I gx;have pj:=hB29.J hM hn2;have pm:=hB39.J hM hn3;have pn:=hB49.J hM hn4;have hz10:=hM.size;have hqxl:qx.length=k:=by have:=OR oO gw;unfold exB at this;rw[Lh,Lh,Ly]at this;omega
  refine Qc<|Q0 U U<|xe<|Qd<|QH U (λhN=>?_) (λhN=>?_)
  ·refine Qz ?_;have po:p.ex.length<=k:=by have hw:¬(k:Int)<(p.ex.length:Int):=hN;omega
   rw[Lr po]at gw k8;have hlt10:∀b∈[J,H],b<he.heap.size:=λb G=>ot (k4 b G)
   refine Qd<|Qc<|Qs U pm U U<|QI (hk.I gx) U<|Qa<|xe<|Qg<|QD (α:=Nat×Bool×OY×List KV) [(19,20),(22,22),(133,180)] (λz=>[(133,oE oF z.1)]) (λz w'=>z.1<=p.cs.length/\O1 [J,H] he w'/\Q9 w'.heap J 44 [zv.1,zv.2.1,zv.2.2,vx,z.2.2.1]/\Q9 w'.heap H 4 [.bool z.2.1] /\
    KvN he.heap.size w' z.2.2.1 z.2.2.2/\z.2.2.2.map (·.k)=csB c.V p.co (p.cs.take z.1)/\z.2.1=(mi || csM c.V p.co (p.cs.take z.1))/\∀q∈z.2.2.2,J0 q.nm) (λz=>p.cs.length - z.1) ol (0,mi,nS,[]) La
    ⟨Lo _,O1.Z _ _,pf,gv,Yu.nil,U,by simp[csM],λq T=>by cases T⟩ ?_
   rintro⟨k,mk,vk,kx⟩ g hv ⟨hkk10,hH,kB1010,kB1110,kX10,gy,k9,pp⟩;simp only[]at hkk10 kB1010 kB1110 kX10 gy k9 pp;have gz:O1 [] w hv:=gx.then hH (λb G=>.inr (hup b G));have ma:=h.I gz;have kB210:=pj.J hH hn2;have kB310:=pm.J hH hn3;have kB410:=pn.J hH hn4;have kz10:=hH.size;have hkxl:kx.length=k:=by have:=OR oO gy;unfold csB at this;rw[Lh,Lh,Ly]at this;omega
   refine Qc<|Q0 U U<|xe<|Qd<|QH U (λhN=>?_) (λhN=>?_)
   ·refine Qz ?_;have po:p.cs.length<=k:=by have hw:¬(k:Int)<(p.cs.length:Int):=hN;omega
    rw[Lr po]at gy k9;have hmm:mk=(exM c.V p.co p.ex || csM c.V p.co p.cs):=by rw[k9,k8]
    rw[<-hmm]at Y;have kXu:XvN w9.heap.size hv vx qx:=Yu.low k7 hH k4;refine Qd<|Qc<|X2 kB1110 U U<|xe<|QQ U (λmf=>?_) (λmf=>?_)
    ·rw[OQ mf]at Y;subst Y;refine Qc<|x (Qy Z)<|Qe<|Qj (us:=Z3) kB410 U U U U ⟨U,U,U,U,U,Z⟩ λu11 mg kB411=>Qb<|Qk ⟨[.agg Z3.toArray,oE oF 13],⟨⟨_,U,Qn U (kB411.at (L:=[]) oe).cells⟩,rfl,Z⟩,gz.O mg oa,Z3,rfl,rfl,⟨rfl,rfl,rfl,rfl,rfl,Z⟩,λ_=>rfl,λV=>OS V og⟩
    rw[OP (by rw[mf];simp)]at Y;refine Qh ?_;have hmf:(exM c.V p.co p.ex || csM c.V p.co p.cs)=false:=by rw[<-hmm];exact mf
    have hmf2:=MG.1 hmf;have hE1:qx.map (·.x)=QjX c.V p:=gw.D (QkX gt.2.1 hmf2.1);have hE2:kx.map (·.k)=QjZ c.V p:=gy.D (Qlm gt.2.1 hmf2.2);have hcel:(CL.mk zv.1 zv.2.1 zv.2.2 vx vk c.ev qc qr qx kx).V=QeH c.V p:=by
     show Zx.mk c.ev (qc.map IV.it) (qr.map IV.it) (qx.map (·.x)) (kx.map (·.k))=Zx.mk c.V.ev _ _ _ _;rw[kq,ku,hE1,hE2];rfl
    have hCu:∀L:LN,(∀b∈L,b<w.heap.size)->ZJ (b4::L) hv.heap (CL.mk zv.1 zv.2.1 zv.2.2 vx vk c.ev qc qr qx kx):=by
     intro L hL;have e1:=hEi (b4::J::L) (λb G=>by
      rcases Li.1 G with rfl|G
      ·exact .inl oa
      rcases Li.1 G with rfl|G
      ·exact .inr U
      have:=hL b G;exact .inl oa)
     have e2:EiA (H::b4::J::L) wc.heap zv c.ev qc qr:=e1.up (λb G=>by
      rcases Li.1 G with rfl|G
      ·exact .inr hb11
      exact .inl G)
     have hm2:∀b∈[J,H],b∈H::b4::J::L:=λb G=>by
      simp only[oK,oI,or_false]at G;rcases G with rfl|rfl <;> simp
     have e3:=((e2.I k0).st (hM.mono hm2)).st (hH.mono hm2);have e4:EiA (b4::L) hv.heap zv c.ev qc qr:=e3.up (λb G=>by
      rcases Li.1 G with rfl|G
      ·exact .inl oe
      exact .inl (by simp[G]))
     have hqx40:qx.length<=1099511627776:=oa
     have hkx40:kx.length<=1099511627776:=oa
     have pu:∀b∈b4::L,b<w9.heap.size:=λb G=>by
      rcases Li.1 G with rfl|G
      ·omega
      have:=hL b G;omega
     have hLt10:∀b∈b4::L,b<he.heap.size:=λb G=>ot (pu b G)
     exact⟨e4.ev,e4.co,e4.rq,⟨Yu.arr kXu hqx40 pu,λq T=>kXu.each q T _ (λb G=>.inl (pu b G)),pg⟩,⟨Yu.arr kX10 hkx40 hLt10,λq T=>kX10.each q T _ (λb G=>.inl (hLt10 b G)),pp⟩⟩
    rw[<-hcel]at Y;subst Y;refine Qd<|Qc<|Q6 kB1010 U U<|ZO<|(XS (hCu [] oe)).mono ?_;rintro r12 hO ⟨rfl,gb⟩;refine Qb ?_;have g0:=gz.D gb;have kB412:=kB410.I gb;refine Qm<|ZB U U<|xe<|QX U (λmh=>?_) (λmh=>?_)
    ·refine Qc<|x (Qy Z)<|Qa<|Qe<|Qj (us:=Z3) kB412 U U U U ⟨U,U,U,U,U,Z⟩ λhI mn kB413=>Qb<|Qk ⟨[.agg Z3.toArray,oE oF (Zi (CL.mk zv.1 zv.2.1 zv.2.2 vx vk c.ev qc qr qx kx).V)],⟨⟨_,U,Qn U (kB413.at (L:=[]) oe).cells⟩,rfl,Z⟩,g0.O mn oa,Z3,rfl,rfl,⟨rfl,rfl,rfl,rfl,rfl,Z⟩,λ_=>rfl,λV=>OS V mh⟩
    refine Qh ?_;have hone5:Zp [zv.1,zv.2.1,zv.2.2,vx,vk]:=⟨ga,kr,kv,Qu kXu.own,Qu kX10.own,Z⟩;refine Qc<|Q6 (kB1010.I gb) U U<|Qe<|Qj (us:=[zv.1,zv.2.1,zv.2.2,vx,vk]) kB412 U U U U hone5 λhI mn kB413=>Qb<|Qk ⟨[.agg #[zv.1,zv.2.1,zv.2.2,vx,vk],oE oF 0],⟨⟨_,U,Qn U (kB413.at (L:=[]) oe).cells⟩,rfl,Z⟩,g0.O mn oa,[zv.1,zv.2.1,zv.2.2,vx,vk],?_,rfl,hone5,λV=>OS V mh,λ_=>⟨(CL.mk zv.1 zv.2.1 zv.2.2 vx vk c.ev qc qr qx kx),rfl,hcel,λL hL=>?_⟩⟩
    ·have V:Zi (CL.mk zv.1 zv.2.1 zv.2.2 vx vk c.ev qc qr qx kx).V=0:=Ln.1 mh;rw[V];rfl
    exact((((hCu L hL).I gb).st (mn.mono oe))).up (λb G=>.inl (by simp[G]))
   refine Qh ?_;have hf:k<p.cs.length:=by have hw:(k:Int)<(p.cs.length:Int):=hN;omega
   have hP:p.cs.take (k+1)=p.cs.take k++[p.cs[k]'hf]:=Lm hf;have pw:=hcsz.1 _ (Lk hf);refine Zo (p.cs[k]'hf) λi g2=>?_;rw[g2]at hP pw;have gc:i=(i.toNat:Int):=oa
   have ha:i.toNat<c.cs.length:=oa
   have hy:=Lk ha;have hQ:csG c.V i=(c.cs[i.toNat]'ha).k:=by
    show(c.cs.map (·.k)).getD i.toNat ⟨.empty,[],0⟩=_;simp[oP,ha]
   refine Zo (c.cs[i.toNat]'ha) λq T=>?_;rw[T]at hy hQ;have g3:=ma.cs.each q hy;have pz:=ma.cs.nm q hy;have hql:=g3.le;have hcsB:csB c.V p.co (p.cs.take (k+1))=csB c.V p.co (p.cs.take k)++[⟨q.nm,Vs p.co q.ts,q.bd⟩]:=by
    rw[hP];unfold csB;rw[Lt,M3,hQ];rfl
   have hcsM:csM c.V p.co (p.cs.take (k+1))=(csM c.V p.co (p.cs.take k) || mis p.co q.ts):=by
    rw[hP];unfold csM;rw[List.any_append,List.any_cons,List.any_nil,Bool.or_false,hQ];rfl
   refine Qd<|Qg<|Qc<|xii (i:=k) (hk.I gz) U U hf λa90 g4=>?_;rw[g2]at g4;refine x (QA g4 U)<|Qb<|Qd<|ZI [] (Xx 0 15 [13,14])<|Go.Lg.p (QR U)<|pq (λ_ I=>Qr (kB210.I I) U U)<|Go.Lg.p QF<|Go.Lg.pig (g:=Q5) (i:=i.toNat) U Xg ma.cs.arr U (OR (Value.int .i64) gc) ha λa140 h140=>?_;rw[T]at h140;refine Go.Lg.p (λ_=>Zt U)<|pq (λ_ I=>QA ((h140.fld 0 (.string q.nm) U).st I) U)<|Go.Lg.p (QR U)<|pq (λ_ I=>Qr (kB210.I I) U U)<|Go.Lg.p QF<|Go.Lg.pig (g:=Q5) (i:=i.toNat) U Xg ma.cs.arr U (OR (Value.int .i64) gc) ha λa146 h146=>?_;rw[T]at h146;refine Go.Lg.p (λ_=>Zt U)<|pq (λ_ I=>QA ((h146.fld 2 (oE oF q.bd) U).st I) U)<|Go.Lg.p (λ_=>Qy ⟨U,U,Z⟩)<|pk<|Qo (us:=[.string .empty,nS,oE oF 0]) U λhg u11 mg hz kB15=>⟨(O1.C [] hv).D mg,?_⟩;refine pkl (hl:=by kernel_rfl)<|Qj (us:=[.string q.nm,nS,oE oF q.bd]) kB15 U U U U oA λhO gb kB15=>pe ?_;have hz:hv.heap.size<=hg:=hz;have hJ:O1 [] hv hO:=((O1.C [] hv).D mg).O gb hz;have g0:=gz.D hJ;have k12:=h.I g0;have kB212:=kB210.I hJ;have kz12:=hJ.size;have hl15:=kB15.lt;have p0:=g3.I hJ;refine Qd<|Qc<|Qs U kB212 U U<|Qa<|O4 (g:=Q5) (i:=i.toNat) Xg k12.cs.arr U (OR (Value.int .i64) gc) ha λa102 g5=>?_;rw[T]at g5;refine x (Zt U)<|x (QA (g5.fld 1 q.v U) U)<|QI p0 U<|Qa<|xe ?_;have p4:∀b∈[hg,H],w.heap.size<=b:=λb G=>by simp only[oK,oI,or_false]at G;omega
   have p5:b3∉[hg,H]:=λG=>by simp only[oK,oI,or_false]at G;omega
   have hn1510:J∉[hg,H]:=λG=>by simp only[oK,oI,or_false]at G;omega
   refine Qg<|QD (α:=Nat×Bool×OY) [(22,22),(157,173)] (λz=>[(157,oE oF z.1)]) (λz w'=>z.1<=q.ts.length/\O1 [hg,H] hO w'/\Q9 w'.heap hg 121 [.string q.nm,z.2.2,oE oF q.bd]/\Q9 w'.heap H 4 [.bool z.2.1] /\
    w'.ownsRow hO.heap.size 123 2 z.2.2 z.1 ((Vs p.co (q.ts.take z.1)).flatMap QN)/\z.2.1=(mk || mis p.co (q.ts.take z.1))) (λz=>q.ts.length - z.1) ol (0,mk,nS) La
    ⟨Lo _,O1.Z _ _,kB15,kB1110.I hJ,QJ _ _ _ _,by simp[mis]⟩ ?_
   rintro⟨j,mj,vl⟩ g hI ⟨hj,gg,kB1513,kB1113,kO13,h6⟩;simp only[]at hj kB1513 kB1113 kO13 h6;have ks013:O1 [] w hI:=g0.then gg (λb G=>.inr (p4 b G));have kz13:=gg.size;have h8:=Qi kO13;refine Qc<|Q0 U U<|xe<|Qd<|QH U (λhR=>?_) (λhR=>?_)
   ·refine Qz ?_;have g6:j=q.ts.length:=by have hw:¬(j:Int)<(q.ts.length:Int):=hR;omega
    rw[g6,Ng]at kO13;rw[g6,Ng]at h6;have mo:O1 [H] hv hI:=(hJ.any (L:=[H])).then gg (λb G=>by
     simp only[oK,oI,or_false]at G;rcases G with rfl|rfl
     ·exact .inr hz
     exact .inl oe)
    have kB1013:=kB1010.J mo (oy hn10);have kX13:KvN he.heap.size hI vk kx:=Yu.low kX10 mo (λb G=>hlt10 b (k6 b G));have kXge:=Qi kX10.own;have p6:(Vs p.co q.ts).length=q.ts.length:=Lh ..;refine Qw<|Qs U kB1013 U U<|Q6 kB1513 U U<|Qe<|QB (us:=[Q5 ⟨q.nm,vl,Vs p.co q.ts,q.bd⟩]) U U og oe ⟨rfl,rfl,Z⟩ λb126 u14 h9 hb126 kB126 =>
     Qe<|Zb (news:=Q5 ⟨q.nm,vl,Vs p.co q.ts,q.bd⟩) (L:=[]) (Qq kX13.own h9) U U U (kB126.at oe) (QdI (q:=⟨q.nm,vl,Vs p.co q.ts,q.bd⟩) (Qu kO13)) oa (ot h9.size) λhS ho g7 gh p7=>?_
    have kX15:KvN he.heap.size ho hS (kx++[⟨q.nm,vl,Vs p.co q.ts,q.bd⟩]):=Yu.app2 (N:=hO.heap.size) (kX13.I h9) (by show u14.ownsRow _ _ 2 vl (Vs p.co q.ts).length _;rw[p6];exact Qq kO13 h9) (by show(Vs p.co q.ts).length<=_;omega) oa (λb G=>ot (kXge b G)) g7 gh p7;have p8:J∉ob vk:=λO=>ot (kXge J O).1
    have p9:H∉ob vk:=λO=>ot (kXge H O).1
    have ks915:O1 [J,H] he ho:=((hH.Q (mo.mono k6)).D h9).then gh (λb G=>.inr (kXge b G).1);have kB1015:=(kB1013.I h9).J gh p8;have kB1115:=(kB1113.I h9).J gh p9;refine Q7 U<|Qe<|QE (j:=4) (u:=hS) kB1015 U U oe (Qu g7) λu16 g8 kB1016=>xe ?_;refine Qw<|QS U U<|Qa<|xe<|⟨(k+1,mj,hS,kx++[⟨q.nm,vl,Vs p.co q.ts,q.bd⟩]),oh,La,hf,ks915.Q (g8.mono k5),kB1016,kB1115.J g8 om,Yu.low kX15 g8 (λb G=>hlt10 b (k5 b G)),?_,?_,?_⟩
    ·simp only[];rw[hcsB,Lt,gy];rfl
    ·simp only[];rw[hcsM,h6,k9,Bool.or_assoc]
    intro q' qo;rcases Lc.1 qo with hA|hA
    ·exact pp q' hA
    simp only[oH]at hA;subst hA;exact pz
   refine Qh ?_;have hp:j<q.ts.length:=by have hw:(j:Int)<(q.ts.length:Int):=hR;omega
   have hT:q.ts.take (j+1)=q.ts.take j++[q.ts[j]'hp]:=Lm hp;have mo:O1 [H] hv hI:=(hJ.any (L:=[H])).then gg (λb G=>by
    simp only[oK,oI,or_false]at G;rcases G with rfl|rfl
    ·exact .inr hz
    exact .inl oe)
   have q6:yz [] hI.heap q.v q.ts:=(h.I ks013).cs.each q hy;refine Qd<|Qg<|Qc<|O4 (g:=QN) Y7 q6 U U hp λa108 g9=>?_;refine Zo (q.ts[j]'hp) λlc za=>?_;rw[za]at g9 hT;have zb:Vs p.co (q.ts.take (j+1))=Vs p.co (q.ts.take j)++[((lwB p.co lc.1:Int),lc.2)]:=by
    rw[hT];unfold Vs;rw[Lt];rfl
   have z0:mis p.co (q.ts.take (j+1))=(mis p.co (q.ts.take j) || !decide (lc.1∈p.co)):=by
    rw[hT];unfold mis;rw[List.any_append];simp
   refine x (Qx g9 U U)<|Qe<|Qo (us:=[oE oF 0,oE oF 0]) U λb22 u14 h9 z1 kB17=>Qe<|Qj (us:=QN lc) kB17 U U U U oz λho gh kB17=>xe ?_;have hU:O1 [] hI ho:=h9.O gh z1;have ks015:=ks013.D hU;have kz15:=hU.size;have kB1515:=kB1513.I hU;have kB1115:=kB1113.I hU;have kB315:Q9 ho.heap b3 309 [v0,v1,v2,v3]:=(((kB310.I hJ).J gg p5)).I hU;have ka:hg∉H::ob vl:=λG=>by
    rcases Li.1 G with rfl|G
    ·omega
    have:=(h8 hg G).1;omega
   have kb:b22∉H::ob vl:=λG=>by
    rcases Li.1 G with rfl|G
    ·omega
    have:=(h8 b22 G).2;omega
   have kc:H∉ob vl:=λG=>ot (h8 H G).1
   have z2:hg∉ob vl:=λG=>ka (Lj _ G);refine ZI (H::ob vl) [oC 0,oC 1,oC 2,oC 3,oC 4,oC 6,oC 7,oD 5,oC 8,oD 9,oD 10,oC 11,oD 12] ?_;have mq:O1 [] ho { ho with drawn:=ho.drawn+1 }:=O1.C _ _
   have hzd:({ ho with drawn:=ho.drawn+1 }:OX).heap.size=ho.heap.size:=rfl
   refine Go.Lg.p (QR U)<|pq (λ_ I=>Qr (kB1515.J I ka) U U)<|Go.Lg.p QF<|Go.Lg.p (QR U)<|pq (λ_ I=>Qr (kB17.J I kb) U U) <|
    Go.Lg.p (QR U)<|pq (λ_ I=>Qr (kB17.J I kb) U U)<|pk<|xc (first:=[]) (capt:=[.pointer (some ⟨b3,0,none⟩),.pointer (some ⟨H,0,none⟩)]) U<|(yR (kB315.I mq) (kB1115.I mq) (I.I (ks015.D mq)) gt.2.1 lc.1).mono ?_
   rintro r16 u16 ⟨g8,rfl,kB1116⟩;have z3:=mq.any.Q g8;have hV:∀b∈[H],b∈H::ob vl:=λb G=>by simp only[oH]at G;simp[G]
   refine⟨z3.mono hV,?_⟩;refine Go.Lg.p (λ_=>Qy ⟨U,U,Z⟩)<|pk<|QB (us:=[QN ((lwB p.co lc.1:Int),lc.2)]) U U og oe ⟨rfl,rfl,Z⟩ λb119 u17 z4 hb119 gv=>⟨(z3.D z4).mono hV,?_⟩;have ke:=z3.D z4;have kO17:u17.ownsRow hO.heap.size 123 2 vl j ((Vs p.co (q.ts.take j)).flatMap QN):=Qf (Qq kO13 hU) ke (λb G O=>by simp only[oH]at O;subst O;exact kc G);have kz17:=ke.size;refine pk<|Zb (news:=QN ((lwB p.co lc.1:Int),lc.2)) (L:=[]) kO17 U U U (gv.at oe) (λu hu=>by
    simp only[oK,oI,or_false]at hu;rcases hu with rfl|rfl <;> rfl) oa oa λkf u18 hW ms hn18=>⟨(ke.mono hV).Q (ms.mono (λb G=>Lj _ G)),?_⟩
   have kB1518:=((kB1515.J ke om)).J ms z2;have kB1118:=(kB1116.I z4).J ms kc;refine Go.Lg.p (QR U)<|pkl (hl:=by kernel_rfl)<|QE (j:=1) (u:=kf) kB1518 U U oe (Qu hW) λu19 z5 kB1519=>pe ?_;refine Qw<|QS U U<|Qa<|xe ?_;have hm1511:∀b∈[H],b∈[hg,H]:=λb G=>by simp only[oH]at G;simp[G]
   have hm1515:∀b∈[hg],b∈[hg,H]:=λb G=>by simp only[oH]at G;simp[G]
   have ks1218:O1 [hg,H] hO u18:=((gg.D hU).Q (ke.mono hm1511)).then ms (λb G=>.inr (h8 b G).1);refine⟨(j+1,mj || !decide (lc.1∈p.co),kf),oh,La,hp,ks1218.Q (z5.mono hm1515),kB1519,kB1118.J z5 om,?_,?_⟩
   ·simp only[];rw[zb,LB];have:=Qf hW z5 (λb G=>by
     simp only[oH];have:=(Qi hW b G).1;omega)
    simpa using this
   simp only[];rw[z0,h6,Bool.or_assoc]
  refine Qh ?_;have hf:k<p.ex.length:=by have hw:(k:Int)<(p.ex.length:Int):=hN;omega
  have hP:p.ex.take (k+1)=p.ex.take k++[p.ex[k]'hf]:=Lm hf;have pw:=hexz.1 _ (Lk hf);refine Zo (p.ex[k]'hf) λi g2=>?_;rw[g2]at hP pw;have gc:i=(i.toNat:Int):=oa
  have ha:i.toNat<c.ex.length:=oa
  have hy:=Lk ha;have hQ:exG c.V i=(c.ex[i.toNat]'ha).x:=by
   show(c.ex.map (·.x)).getD i.toNat ⟨.empty,[]⟩=_;simp[oP,ha]
  refine Zo (c.ex[i.toNat]'ha) λq T=>?_;rw[T]at hy hQ;have g3:=ph.ex.each q hy;have pz:=ph.ex.nm q hy;have hql:=g3.le;have hexB:exB c.V p.co (p.ex.take (k+1))=exB c.V p.co (p.ex.take k)++[⟨q.nm,Vs p.co q.ls⟩]:=by
   rw[hP];unfold exB;rw[Lt,M3,hQ];rfl
  have hexM:exM c.V p.co (p.ex.take (k+1))=(exM c.V p.co (p.ex.take k) || mis p.co q.ls):=by
   rw[hP];unfold exM;rw[List.any_append,List.any_cons,List.any_nil,Bool.or_false,hQ];rfl
  refine Qd<|Qg<|Qc<|xii (i:=k) (hx.I gx) U U hf λa90 g4=>?_;rw[g2]at g4;refine x (QA g4 U)<|Qb<|Qc<|Qs U pj U U<|Qa<|O4 (g:=Q8) (i:=i.toNat) Xq ph.ex.arr U (OR (Value.int .i64) gc) ha λa95 h95=>?_;rw[T]at h95;refine x (Zt U)<|x (QA (h95.fld 0 (.string q.nm) U) U)<|x (Qy ⟨U,Z⟩)<|Qe<|Qo (us:=[.string .empty,nS]) U λhh w11 hs11 hz mt =>
   Qe<|Qj (us:=[.string q.nm,nS]) mt U U U U oz λgi hs12 mt=>xe ?_
  have hK:O1 [] he gi:=hs11.O hs12 hz;have hs012:=gx.D hK;have h12:=h.I hs012;have hB212:=pj.I hK;have hz12:=hK.size;have hl15:=mt.lt;have p0:=g3.I hK;refine Qd<|Qc<|Qs U hB212 U U<|Qa<|O4 (g:=Q8) (i:=i.toNat) Xq h12.ex.arr U (OR (Value.int .i64) gc) ha λa102 g5=>?_;rw[T]at g5;refine x (Zt U)<|x (QA (g5.fld 1 q.v U) U)<|QI p0 U<|Qa<|xe ?_;have p4:∀b∈[hh,H],w.heap.size<=b:=λb G=>by simp only[oK,oI,or_false]at G;omega
  have p5:b3∉[hh,H]:=λG=>by simp only[oK,oI,or_false]at G;omega
  have hn1510:J∉[hh,H]:=λG=>by simp only[oK,oI,or_false]at G;omega
  refine Qg<|QD (α:=Nat×Bool×OY) [(17,17),(106,122)] (λz=>[(106,oE oF z.1)]) (λz w'=>z.1<=q.ls.length/\O1 [hh,H] gi w'/\Q9 w'.heap hh 116 [.string q.nm,z.2.2]/\Q9 w'.heap H 4 [.bool z.2.1] /\
   w'.ownsRow gi.heap.size 118 2 z.2.2 z.1 ((Vs p.co (q.ls.take z.1)).flatMap QN)/\z.2.1=(mi || mis p.co (q.ls.take z.1))) (λz=>q.ls.length - z.1) ol (0,mi,nS) La
   ⟨Lo _,O1.Z _ _,mt,gv.I hK,QJ _ _ _ _,by simp[mis]⟩ ?_
  rintro⟨j,mj,vl⟩ g gj ⟨hj,gk,hB1513,hB1113,gl,h6⟩;simp only[]at hj hB1513 hB1113 gl h6;have hs013:O1 [] w gj:=hs012.then gk (λb G=>.inr (p4 b G));have hz13:=gk.size;have h8:=Qi gl;refine Qc<|Q0 U U<|xe<|Qd<|QH U (λhR=>?_) (λhR=>?_)
  ·refine Qz ?_;have g6:j=q.ls.length:=by have hw:¬(j:Int)<(q.ls.length:Int):=hR;omega
   rw[g6,Ng]at gl;rw[g6,Ng]at h6;have mu:O1 [H] he gj:=(hK.any (L:=[H])).then gk (λb G=>by
    simp only[oK,oI,or_false]at G;rcases G with rfl|rfl
    ·exact .inr hz
    exact .inl oe)
   have hB1013:=pf.J mu (oy hn10);have hX13:XvN w9.heap.size gj vx qx:=Yu.low k7 mu (λb G=>k4 b (k6 b G));have mv:=Qi k7.own;have p6:(Vs p.co q.ls).length=q.ls.length:=Lh ..;refine Qw<|Qs U hB1013 U U<|Q6 hB1513 U U<|Qe<|QB (us:=[Q8 ⟨q.nm,vl,Vs p.co q.ls⟩]) U U og oe ⟨rfl,rfl,Z⟩ λb126 w14 hC hb126 hB126 =>
    Qe<|Zb (news:=Q8 ⟨q.nm,vl,Vs p.co q.ls⟩) (L:=[]) (Qq hX13.own hC) U U U (hB126.at oe) (Qdb (q:=⟨q.nm,vl,Vs p.co q.ls⟩) (Qu gl)) oa (ot hC.size) λhS ht g7 gm p7=>?_
   have hX15:XvN w9.heap.size ht hS (qx++[⟨q.nm,vl,Vs p.co q.ls⟩]):=Yu.app2 (N:=gi.heap.size) (hX13.I hC) (by show w14.ownsRow _ _ 2 vl (Vs p.co q.ls).length _;rw[p6];exact Qq gl hC) (by show(Vs p.co q.ls).length<=_;omega) oa (λb G=>ot (mv b G)) g7 gm p7;have p8:J∉ob vx:=λO=>ot (mv J O).1
   have p9:H∉ob vx:=λO=>ot (mv H O).1
   have hs915:O1 [J,H] w9 ht:=((hM.Q (mu.mono k6)).D hC).then gm (λb G=>.inr (mv b G).1);have hB1015:=(hB1013.I hC).J gm p8;have hB1115:=(hB1113.I hC).J gm p9;refine Q7 U<|Qe<|QE (j:=3) (u:=hS) hB1015 U U oe (Qu g7) λw16 kg hB1016=>xe ?_;refine Qw<|QS U U<|Qa<|xe<|⟨(k+1,mj,hS,qx++[⟨q.nm,vl,Vs p.co q.ls⟩]),oh,La,hf,hs915.Q (kg.mono k5),hB1016,hB1115.J kg om,Yu.low hX15 kg (λb G=>k4 b (k5 b G)),?_,?_,?_⟩
   ·simp only[];rw[hexB,Lt,gw];rfl
   ·simp only[];rw[hexM,h6,k8]
   intro q' qo;rcases Lc.1 qo with hA|hA
   ·exact pg q' hA
   simp only[oH]at hA;subst hA;exact pz
  refine Qh ?_;have hp:j<q.ls.length:=by have hw:(j:Int)<(q.ls.length:Int):=hR;omega
  have hT:q.ls.take (j+1)=q.ls.take j++[q.ls[j]'hp]:=Lm hp;have mu:O1 [H] he gj:=(hK.any (L:=[H])).then gk (λb G=>by
   simp only[oK,oI,or_false]at G;rcases G with rfl|rfl
   ·exact .inr hz
   exact .inl oe)
  have q6:yz [] gj.heap q.v q.ls:=(h.I hs013).ex.each q hy;refine Qd<|Qg<|Qc<|O4 (g:=QN) Y7 q6 U U hp λa108 g9=>?_;refine Zo (q.ls[j]'hp) λlc za=>?_;rw[za]at g9 hT;have zb:Vs p.co (q.ls.take (j+1))=Vs p.co (q.ls.take j)++[((lwB p.co lc.1:Int),lc.2)]:=by
   rw[hT];unfold Vs;rw[Lt];rfl
  have z0:mis p.co (q.ls.take (j+1))=(mis p.co (q.ls.take j) || !decide (lc.1∈p.co)):=by
   rw[hT];unfold mis;rw[List.any_append];simp
  refine x (Qx g9 U U)<|Qe<|Qo (us:=[oE oF 0,oE oF 0]) U λb17 w14 hC z1 mw=>Qe<|Qj (us:=QN lc) mw U U U U oz λht gm mw=>xe ?_;have hX:O1 [] gj ht:=hC.O gm z1;have hs015:=hs013.D hX;have hz15:=hX.size;have hB1515:=hB1513.I hX;have hB1115:=hB1113.I hX;have hB315:Q9 ht.heap b3 309 [v0,v1,v2,v3]:=(((pm.I hK).J gk p5)).I hX;have ka:hh∉H::ob vl:=λG=>by
   rcases Li.1 G with rfl|G
   ·omega
   have:=(h8 hh G).1;omega
  have kb:b17∉H::ob vl:=λG=>by
   rcases Li.1 G with rfl|G
   ·omega
   have:=(h8 b17 G).2;omega
  have kc:H∉ob vl:=λG=>ot (h8 H G).1
  have z2:hh∉ob vl:=λG=>ka (Lj _ G);refine ZI (H::ob vl) [oC 0,oC 1,oC 2,oC 3,oC 4,oC 6,oC 7,oD 5,oC 8,oD 9,oD 10,oC 11,oD 12] ?_;have my:O1 [] ht { ht with drawn:=ht.drawn+1 }:=O1.C _ _
  have hzd:({ ht with drawn:=ht.drawn+1 }:OX).heap.size=ht.heap.size:=rfl
  refine Go.Lg.p (QR U)<|pq (λ_ I=>Qr (hB1515.J I ka) U U)<|Go.Lg.p QF<|Go.Lg.p (QR U)<|pq (λ_ I=>Qr (mw.J I kb) U U) <|
   Go.Lg.p (QR U)<|pq (λ_ I=>Qr (mw.J I kb) U U)<|pk<|xc (first:=[]) (capt:=[.pointer (some ⟨b3,0,none⟩),.pointer (some ⟨H,0,none⟩)]) U<|(yR (hB315.I my) (hB1115.I my) (I.I (hs015.D my)) gt.2.1 lc.1).mono ?_
  rintro r16 w16 ⟨kg,rfl,hB1116⟩;have hs1516:=my.any.Q kg;have hV:∀b∈[H],b∈H::ob vl:=λb G=>by simp only[oH]at G;simp[G]
  refine⟨hs1516.mono hV,?_⟩;refine Go.Lg.p (λ_=>Qy ⟨U,U,Z⟩)<|pk<|QB (us:=[QN ((lwB p.co lc.1:Int),lc.2)]) U U og oe ⟨rfl,rfl,Z⟩ λb119 w17 hs17 hb119 kz=>⟨(hs1516.D hs17).mono hV,?_⟩;have kh:=hs1516.D hs17;have hO17:w17.ownsRow gi.heap.size 118 2 vl j ((Vs p.co (q.ls.take j)).flatMap QN):=Qf (Qq gl hX) kh (λb G O=>by simp only[oH]at O;subst O;exact kc G);have hz17:=kh.size;refine pk<|Zb (news:=QN ((lwB p.co lc.1:Int),lc.2)) (L:=[]) hO17 U U U (kz.at oe) (λu hu=>by
   simp only[oK,oI,or_false]at hu;rcases hu with rfl|rfl <;> rfl) oa oa λkf w18 hW mz hn18=>⟨(kh.mono hV).Q (mz.mono (λb G=>Lj _ G)),?_⟩
  have hB1518:=((hB1515.J kh om)).J mz z2;have hB1118:=(hB1116.I hs17).J mz kc;refine Go.Lg.p (QR U)<|pkl (hl:=by kernel_rfl)<|QE (j:=1) (u:=kf) hB1518 U U oe (Qu hW) λw19 hs19 hB1519=>pe ?_;refine Qw<|QS U U<|Qa<|xe ?_;have hm1511:∀b∈[H],b∈[hh,H]:=λb G=>by simp only[oH]at G;simp[G]
  have hm1515:∀b∈[hh],b∈[hh,H]:=λb G=>by simp only[oH]at G;simp[G]
  have hs1218:O1 [hh,H] gi w18:=((gk.D hX).Q (kh.mono hm1511)).then mz (λb G=>.inr (h8 b G).1);refine⟨(j+1,mj || !decide (lc.1∈p.co),kf),oh,La,hp,hs1218.Q (hs19.mono hm1515),hB1519,hB1118.J hs19 om,?_,?_⟩
  ·simp only[];rw[zb,LB];have:=Qf hW hs19 (λb G=>by
    simp only[oH];have:=(Qi hW b G).1;omega)
   simpa using this
  simp only[];rw[z0,h6,Bool.or_assoc]
 refine Qh ?_;have gn:k<S.length:=by have hw:(k:Int)<(S.length:Int):=m7;omega
 have hmem:=Lk gn;have hdr:S.drop k=S[k]'gn::S.drop (k+1):=LD gn;refine Qd<|Qg<|Qc<|O4 (g:=skC) Qms (hA54.I hD) U U gn λa58 h58=>?_;refine Zo (S[k]'gn) λq T=>?_;rw[T]at h58 hmem hdr;have hqi:=hl4i q hmem;rw[hdr,show q=(q.1,q.2.1,q.2.2) from rfl,ck4]at hF;refine x (Qx h58 U U)<|Qe<|Qo (us:=[nS,oE oF 0]) U λb8 w8 hZ hb8 m2=>Qe<|Qj (us:=skC q) m2 U U U U ⟨hqi.one,U,Z⟩ λw9 pd m2=>xe ?_;have hG:O1 [] w7 w9:=hZ.O pd hb8;have gu:=gs.D hG;refine Qc<|Qs U m2 U U<|Qs U m2 U U<|ZO<|(Qb1 (hqi.I gu) q.2.2).mono ?_;rintro r10 he ⟨rfl,rfl⟩;refine Qb<|Qm<|ZB U U<|xe<|QX rfl (λki=>?_) (λki=>?_)
 ·rw[OQ ki]at hF;have hne:ck4 S≠0:=by rw[<-hF];exact ki
  rw[OQ hne,<-hF]at Y;subst Y;have pn:Q9 he.heap b4 44 Z3:=((m6.I hY).I hD).I hG;refine Qc<|x (Qy Z)<|Qa<|Qe<|Qj (us:=Z3) pn U U U U ⟨U,U,U,U,U,Z⟩ λw11 hs11 hB411=>Qb<|Qk ⟨[.agg Z3.toArray,oE oF (J9 q.2.2 none q.2.1)],⟨⟨_,U,Qn U (hB411.at (L:=[]) oe).cells⟩,rfl,Z⟩,gu.O hs11 oa,Z3,rfl,rfl,⟨rfl,rfl,rfl,rfl,rfl,Z⟩,λ_=>rfl,λV=>OS V ki⟩
 rw[OP ki]at hF;refine Qh<|Qw<|QS U U<|Qa<|xe ?_;exact⟨k+1,oa,La,gn,hD.D hG,hF⟩
theorem Qdl (n:Nat):(1:Int)*(2:Int) ^ n=((1 <<< n:Nat):Int):=by
 rw[Nat.shiftLeft_eq,NE,Int.one_mul,Int.natCast_pow];rfl
theorem KK (h:n<16):1 <<< n<65536:=by
 rw[Nat.shiftLeft_eq,NE];exact Nat.pow_lt_pow_right og h
theorem Qcm {k:Nat}(E:b<65536)(G:k<16):orB b k<65536:=Qdr E (KK G)
theorem Qm9 (h:n<16):inK .u16 ((1:Int)*(2:Int) ^ n):=by
 rw[Qdl];have E:=KK h;generalize 1 <<< n=m at E;exact⟨oa,oa⟩
theorem QgF {x:YU}:∀(l:List YU) (k b:Nat),b<65536->k+l.length<=16->rqB x k b l<65536
 | [],_,_,E,_=>E
 | y::l,k,b,E,G=>by
  rw[rqB];refine QgF l _ _ ?_ (by simp at G;omega);by_cases h:(y.a.al.any λe=>decide (e∈x.a.al))=true
  ·rw[OQ h];exact Qcm E (by simp at G;omega)
  rw[OP h];exact E
theorem Qa0 (ls:xq)(l:Int×Int):prB (ls++[l])=orB (prB ls) l.1.toNat:=by
 unfold prB;rw[Mv];rfl
theorem jZ:∀(ls:xq),(∀l∈ls,0<=l.1/\l.1<16)->prB ls<65536:=by
 intro ls;unfold prB;have key:∀(ls:xq) (b:Nat),b<65536->(∀l∈ls,0<=l.1/\l.1<16)->ls.foldl (λb l=>orB b l.1.toNat) b<65536:=by
  intro ls;induction ls with
  | nil=>intro b E _;exact E
  | cons l ls ih =>
   intro b E h;exact ih _ (Qcm E (ot (h l Lq))) (λl' hl=>h l' (Lj _ hl))
 exact key ls 0 og
theorem QdF (m:Nat)(S:m<65536)(w:OX):Q3 prog 122 [.int .u16 m] w λr w'=>O1 [] w w'/\Qv 3 w.heap.size w' r (setK m 8):=by
 refine Zq func122 ?_;refine Qc<|Qb<|Qc<|Qb<|Qd<|Qm<|xe<|Qg<|QD (α:=Nat×OY) [(3,17)] (λz=>[(3,z.2),(5,oE oF z.1)]) (λz w'=>z.1<=8/\O1 [] w w'/\Qv 3 w.heap.size w' z.2 (setK m z.1)) (λz=>8 - z.1) ol (0,nS) oz
  ⟨Lo _,O1.Z _ _,QJ _ _ _ _⟩ ?_
 rintro⟨k,v⟩ g w1 ⟨T,G,E⟩;simp only[]at T E;have hh:=VY m k;have hi:=G.size;refine Qc<|Q0 U U<|xe<|Qd<|QH U (λV=>?_) (λV=>?_)
 ·refine Qz<|Qm<|Qb ?_;have Y:k=8:=oa
  rw[Y]at E;exact Qk ⟨[v],La,G,E⟩
 have J:k<8:=oa
 have ha:m / 2 ^ k<65536:=Nat.lt_of_le_of_lt (Nat.div_le_self _ _) S;have H:=yQ m k;refine Qh<|Qd<|Qg<|Qm<|Qb<|Qm<|Qa<|x (Qdo (n:=k) U U (by show k<=16;omega))<|x (Qka (a:=m / 2 ^ k) (b:=1) (OR (Value.int .u16) (QjW m k)) U ha og)<|x (QY U U)<|xe<|QH rfl (λO=>?_) (λO=>?_)
 ·rw[OP (λe=>O (by rw[e];rfl))]at H;refine Qh<|Qw<|QS U U<|Qa<|xe ?_;exact⟨(k+1,v),oh,oz,J,G,by simp only[];rw[H];exact E⟩
 rw[OQ oa]at H;refine Qw<|Qa<|Qa<|Qe<|QB (us:=[[oE oF k]]) U U og oe ⟨rfl,rfl,Z⟩ λhj w2 I hl hc=>?_;have he:=Qq E I;have hn:=I.size;refine Qe<|Zb (news:=[oE oF k]) (L:=[]) he U U U (hc.at oe) (by simp[Value.oneCell']) oa oa λv3 w3 hf hg ho =>
  Qb ?_
 have hge:=Qi E;refine Qw<|QS U U<|Qa<|xe<|⟨(k+1,v3),oh,oz,J,(G.D I).then hg (λb hb=>.inr (hge b hb).1),?_⟩;simp only[];rw[H];exact Qv.snoc hf
theorem Qgw {c:CL}(J:Q9 w.heap b1 44 c.cells)(O:Q9 w.heap b2 3 [oE oF i])(E:ZJ [] w.heap c){q:IV}(hi:c.rq[i]?=some q)(e:Int):
  Q3 prog 224 [oE oF e,.pointer (some ⟨b1,0,none⟩),.pointer (some ⟨b2,0,none⟩)] w λr w'=>r=.bool (decide (e∈q.p.a.al))/\O1 [] w w':=by
 obtain⟨G,H⟩:=Mz.1 hi;have S:=E.rq.each q (H ▸ Lk G);refine Zq func224 ?_;refine Qc<|Qb<|Qc<|Qs U J U U<|X2 O U U<|O4 (g:=QO) (i:=i) Ys E.rq.arr U U G λT I=>?_;rw[H]at I;refine x (Zt U)<|x (Zt U)<|x (QA ((I.fld 1 q.p.va U)) U)<|Qa<|QM<|(Yr S.al e).mono ?_;rintro V Y ⟨rfl,rfl⟩;refine Qb<|Qk ⟨[_],La,U,O1.Z _ _⟩
theorem QjQ {c:CL}(hg:Q9 w.heap b1 44 c.cells)(T:ZJ [] w.heap c)(h8:c.co.length<=8){q:IV}(hi:c.rq[i]?=some q):
  Q3 prog 223 [oE oF i,.pointer (some ⟨b1,0,none⟩)] w λr w'=>r=.int .u16 (rqB q.it 0 0 c.V.co)/\O1 [] w w':=by
 refine Zq func223 ?_;refine Qc<|Qe<|QW (us:=[oE oF i]) U λb2 w1 V hw hn=>Qb<|Qc<|Qb<|Qd<|Qc<|Qs U (hg.I V) U U<|QI (T.I V).co.arr U<|Qa<|xe<|Qg<|QD (α:=Nat×Nat) [(4,6),(10,24)] (λz=>[(4,.int .u16 z.2),(10,oE oF z.1)]) (λz w'=>z.1<=c.co.length/\O1 [] w1 w'/\z.2<65536/\rqB q.it z.1 z.2 ((c.co.drop z.1).map (·.it))=rqB q.it 0 0 c.V.co) (λz=>c.co.length - z.1) ol (0,0) oz
  ⟨Lo _,O1.Z _ _,og,U⟩ ?_
 rintro⟨k,b⟩ g w2 ⟨hk,J,O,E⟩;simp only[]at hk O E;have Y:=V.D J;have h2:=T.I Y;refine Qc<|Q0 U U<|xe<|Qd<|QH U (λha=>?_) (λha=>?_)
 ·refine Qz ?_;have ho:c.co.length<=k:=by have hp:¬(k:Int)<(c.co.length:Int):=ha;omega
  rw[Lp ho]at E;have hq:b=rqB q.it 0 0 c.V.co:=E;refine Qm<|Qb<|Qk ⟨[.int .u16 b],La,by rw[hq];rfl,Y⟩
 have G:k<c.co.length:=by have hp:(k:Int)<(c.co.length:Int):=ha;omega
 have hh:=Lk G;rw[JP G,rqB]at E;refine Qh<|Qd<|Qg<|Qm<|O4 (g:=QO) (i:=k) Ys h2.co.arr U U G λhz hj=>?_;refine Zo (c.co[k]'G) λy hy=>?_;rw[hy]at hj hh E;have S:=h2.co.each y hh;refine x (Qx hj U U)<|Qe<|Qo (us:=[.string .empty,nS,oE oF 0,nS,nS]) U λb6 w3 hs ht he=>x Ql <|
  Qe<|Qj (us:=QO y) he U U U U ⟨U,S.al.one,U,S.mr.one,S.ed.one,Z⟩ λw4 hu he=>xe ?_
 have I:O1 [] w2 w4:=hs.O hu ht;have hl:=Y.D I;refine Qc<|Q7 U<|Qs U he U U<|x (Zz (l:=[]) (l':=[_,_]))<|ZO<|(Qeg (q:=λe=>decide (e∈q.p.a.al)) (cap:=[.pointer (some ⟨b1,0,none⟩),.pointer (some ⟨b2,0,none⟩)]) (S.al.I I)
  (λe w5 H=>Qgw ((hg.I hl).I H) ((hn.I (J.D I)).I H) ((T.I hl).I H) hi e)).mono ?_
 rintro r5 w5 ⟨rfl,H⟩;refine xe<|QQ rfl (λhf=>?_) (λhf=>?_)
 ·rw[OQ (by exact hf)]at E;refine Qw<|Qa<|Qa<|x (QgM (n:=k) U U (by show k<=16;omega) (Qm9 oa))<|x (Qck (a:=b) (b:=1 <<< k) U (OR (Value.int .u16) (Qdl k)) O (KK oa))<|Qb<|Qw<|QS U U<|Qa<|xe ?_;exact⟨(k+1,orB b k),oh,oz,G,(J.D I).D H,Qcm O oa,E⟩
 rw[OP (by intro h0;have hv:(y.p.a.al.any λe=>decide (e∈q.p.a.al))=false:=hf;have hm:(y.p.a.al.any λe=>decide (e∈q.p.a.al))=true:=h0;rw[hv]at hm;cases hm)]at E;refine Qh<|Qw<|QS U U<|Qa<|xe ?_;exact⟨(k+1,b),oh,oz,G,(J.D I).D H,O,E⟩
theorem QjP {c:CL}(hg:Q9 w.heap b1 44 c.cells)(T:ZJ [] w.heap c){q:XV}(hi:c.ex[i]?=some q)(V:∀l∈q.ls,0<=l.1/\l.1<16):
  Q3 prog 225 [oE oF i,.pointer (some ⟨b1,0,none⟩)] w λr w'=>r=.int .u16 (prB q.ls)/\O1 [] w w':=by
 obtain⟨Y,hq⟩:=Mz.1 hi;have I:=T.ex.each q (hq ▸ Lk Y);have hu:=I.le;refine Zq func225 ?_;refine Qc<|Qb<|Qc<|Qb<|Qd<|Qc<|Qs U hg U U<|Qa<|O4 (g:=Q8) (i:=i) Xq T.ex.arr U U Y λhv ha=>?_;rw[hq]at ha;refine x (Zt U)<|x (QA (ha.fld 1 q.v U) U)<|QI I U<|Qa<|xe<|Qg<|QD (α:=Nat×Nat) [(4,4),(6,6),(14,23)] (λz=>[(4,.int .u16 z.2),(14,oE oF z.1)]) (λz w'=>z.1<=q.ls.length/\O1 [] w w'/\z.2=prB (q.ls.take z.1)) (λz=>q.ls.length - z.1) ol (0,0) oz
  ⟨Lo _,O1.Z _ _,U⟩ ?_
 rintro⟨k,b⟩ g w1 ⟨hk,J,G⟩;simp only[]at hk G;have hh:b<65536:=by rw[G];exact jZ _ (λl hl=>V l (LZ hl))
 refine Qc<|Q0 U U<|xe<|Qd<|QH U (λO=>?_) (λO=>?_)
 ·refine Qz ?_;have hj:q.ls.length<=k:=by have H:¬(k:Int)<(q.ls.length:Int):=O;omega
  rw[Lr hj]at G;refine Qm<|Qb<|Qk ⟨[.int .u16 b],La,by rw[G];rfl,J⟩
 have E:k<q.ls.length:=by have H:(k:Int)<(q.ls.length:Int):=O;omega
 have he:q.ls.take (k+1)=q.ls.take k++[q.ls[k]'E]:=Lm E;have hn:=V _ (Lk E);refine Qh<|Qd<|Qg<|Qc<|O4 (g:=QN) Y7 (I.I J) U U E λhw H=>?_;refine Zo (q.ls[k]'E) λl hl=>?_;rw[hl]at H he hn;have ho:l.1=(l.1.toNat:Int):=oa
 have hf:l.1.toNat<16:=oa
 refine x (Qx H U U)<|Qe<|Qo (us:=[oE oF 0,oE oF 0]) U λb6 w2 hp hr S=>Qe<|Qj (us:=QN l) S U U U U oz λw3 hs S =>
  xe ?_
 have ht:O1 [] w1 w3:=hp.O hs hr;refine Qw<|Qa<|Qs U S U U<|x (QgM (n:=l.1.toNat) U (OR (Value.int .i64) ho) (by show l.1.toNat<=16;omega) (Qm9 hf))<|x (Qck (a:=b) (b:=1 <<< l.1.toNat) U (OR (Value.int .u16) (Qdl _)) hh (KK hf))<|Qb<|Qw<|QS U U<|Qa<|xe ?_;exact⟨(k+1,orB b l.1.toNat),oh,oz,E,J.D ht,by simp only[];rw[he,Qa0,G]⟩
theorem QjO {c:CL}(hg:Q9 w.heap b1 44 c.cells)(T:ZJ [] w.heap c){q:KV}(hi:c.cs[i]?=some q)(V:∀l∈q.ts,0<=l.1/\l.1<16):
  Q3 prog 226 [oE oF i,.pointer (some ⟨b1,0,none⟩)] w λr w'=>r=.int .u16 (prB q.ts)/\O1 [] w w':=by
 obtain⟨Y,hq⟩:=Mz.1 hi;have I:=T.cs.each q (hq ▸ Lk Y);have hu:=I.le;refine Zq func226 ?_;refine Qc<|Qb<|Qc<|Qb<|Qd<|Qc<|Qs U hg U U<|Qa<|O4 (g:=Q5) (i:=i) Xg T.cs.arr U U Y λhv ha=>?_;rw[hq]at ha;refine x (Zt U)<|x (QA (ha.fld 1 q.v U) U)<|QI I U<|Qa<|xe<|Qg<|QD (α:=Nat×Nat) [(4,4),(6,6),(14,23)] (λz=>[(4,.int .u16 z.2),(14,oE oF z.1)]) (λz w'=>z.1<=q.ts.length/\O1 [] w w'/\z.2=prB (q.ts.take z.1)) (λz=>q.ts.length - z.1) ol (0,0) oz
  ⟨Lo _,O1.Z _ _,U⟩ ?_
 rintro⟨k,b⟩ g w1 ⟨hk,J,G⟩;simp only[]at hk G;have hh:b<65536:=by rw[G];exact jZ _ (λl hl=>V l (LZ hl))
 refine Qc<|Q0 U U<|xe<|Qd<|QH U (λO=>?_) (λO=>?_)
 ·refine Qz ?_;have hj:q.ts.length<=k:=by have H:¬(k:Int)<(q.ts.length:Int):=O;omega
  rw[Lr hj]at G;refine Qm<|Qb<|Qk ⟨[.int .u16 b],La,by rw[G];rfl,J⟩
 have E:k<q.ts.length:=by have H:(k:Int)<(q.ts.length:Int):=O;omega
 have he:q.ts.take (k+1)=q.ts.take k++[q.ts[k]'E]:=Lm E;have hn:=V _ (Lk E);refine Qh<|Qd<|Qg<|Qc<|O4 (g:=QN) Y7 (I.I J) U U E λhw H=>?_;refine Zo (q.ts[k]'E) λl hl=>?_;rw[hl]at H he hn;have ho:l.1=(l.1.toNat:Int):=oa
 have hf:l.1.toNat<16:=oa
 refine x (Qx H U U)<|Qe<|Qo (us:=[oE oF 0,oE oF 0]) U λb6 w2 hp hr S=>Qe<|Qj (us:=QN l) S U U U U oz λw3 hs S =>
  xe ?_
 have ht:O1 [] w1 w3:=hp.O hs hr;refine Qw<|Qa<|Qs U S U U<|x (QgM (n:=l.1.toNat) U (OR (Value.int .i64) ho) (by show l.1.toNat<=16;omega) (Qm9 hf))<|x (Qck (a:=b) (b:=1 <<< l.1.toNat) U (OR (Value.int .u16) (Qdl _)) hh (KK hf))<|Qb<|Qw<|QS U U<|Qa<|xe ?_;exact⟨(k+1,orB b l.1.toNat),oh,oz,E,J.D ht,by simp only[];rw[he,Qa0,G]⟩
theorem xcG {pS:String}{x:OZ}{l:List OZ}
   {first:LV} (E:∃fn,Fu P g fn) (hx:ev f x=.func (.func g) first.toArray capt.toArray) (h:Q3 P g (first++l.map (ev f)++capt) w λv w'=>K (QT f d v) w'):
  XO P ⟨d,.call ⟨.value x,l.toArray,at_⟩,ty,pS,af,gd⟩ f w K:=by
 obtain⟨fn,G⟩:=E;exact xc (fn:=fn) hx h
def gK (m:Nat):Nat:=if m=0 then 223 else if m=1 then 225 else 226
theorem Ql3 (m:Nat):∃fn,Fu prog (gK m) fn:=by
 unfold gK;split
 ·exact⟨_,inferInstance⟩
 split
 ·exact⟨_,inferInstance⟩
 exact⟨_,inferInstance⟩
abbrev KG (c:Zx)(m:Nat):LN:=srK c ((m:Int)+1)
theorem QjT (c:Zx):KG c 0=srR c:=rfl
theorem QjS (c:Zx):KG c 1=srX c:=rfl
theorem QjR (c:Zx):KG c 2=srC c:=rfl
structure Qaq (c:Zx):Prop where
 c8:c.co.length<=8
 r:c.rq.length<=32
 x:c.ex.length<=32
 k:c.cs.length<=32
 xl:∀e∈c.ex,∀l∈e.ls,0<=l.1/\l.1<16
 kl:∀e∈c.cs,∀l∈e.ts,0<=l.1/\l.1<16
theorem Qjl.sr (h:Qjl c):Qaq c:=by
 have E:=K0 h.cd;have I:(szs c.co).length=c.co.length:=Lh ..;have H:=h.c8;have J:=h.cr;refine⟨H,oa,E.xl,E.kl,λe G l hl=>?_,λe G l hl=>?_⟩
 ·have:=E.x e G l hl;omega
 have:=(E.k e G).1 l hl;omega
theorem jO (h:Qaq c){m:Nat}(I:m<3):(KG c m).length<=32:=by
 have E:=h.r;have G:=h.x;have H:=h.k;rcases m with _|_|_|m
 ·rw[QjT];unfold srR;rw[Lh];exact E
 ·rw[QjS];unfold srX;rw[Lh];exact G
 ·rw[QjR];unfold srC;rw[Lh];exact H
 omega
theorem Qgx (h:Qaq c){m:Nat}(G:m<3):∀b∈KG c m,b<65536:=by
 have H:=h.c8;rcases m with _|_|_|m
 ·rw[QjT];unfold srR;intro b E;obtain⟨x,_,rfl⟩:=LC.1 E;exact QgF _ _ _ og oa
 ·rw[QjS];unfold srX;intro b E;obtain⟨x,hx,rfl⟩:=LC.1 E;exact jZ _ (h.xl x hx)
 ·rw[QjR];unfold srC;intro b E;obtain⟨x,hx,rfl⟩:=LC.1 E;exact jZ _ (h.kl x hx)
 omega
abbrev srV (b1:Nat)(c:Zx)(m:Nat):LV:=[oE oF ((m:Int)+1),oE oF (KG c m).length,.func (.func (gK m)) #[] #[.pointer (some ⟨b1,0,none⟩)]]
theorem jN (b1:Nat)(c:Zx)(m:Nat):(srV b1 c m).length=3:=rfl
theorem Qgv {c:CL}{m:Nat}(G:Q9 w.heap b1 44 c.cells)(H:ZJ [] w.heap c)(I:Qaq c.V)(O:m<3)(hi:i<(KG c.V m).length):
  Q3 prog (gK m) [oE oF i,.pointer (some ⟨b1,0,none⟩)] w λr w'=>r=.int .u16 ((KG c.V m)[i]'hi:Nat)/\O1 [] w w':=by
 rcases m with _|_|_|m
 ·have hl:(KG c.V 0).length=c.rq.length:=by rw[QjT];unfold srR;rw[Lh];exact Lh ..
  have E:i<c.rq.length:=Nat.lt_of_lt_of_eq hi hl;have e:(KG c.V 0)[i]'hi=rqB (c.rq[i]'E).it 0 0 c.V.co:=by
   show(srR c.V)[i]'_=_;simp[srR,CL.V]
  rw[e];have J:c.co.length<=8:=by have:=I.c8;rw[show c.V.co.length=c.co.length from Lh ..]at this;exact this
  exact QjQ G H J (LU E)
 ·have hl:(KG c.V 1).length=c.ex.length:=by rw[QjS];unfold srX;rw[Lh];exact Lh ..
  have E:i<c.ex.length:=Nat.lt_of_lt_of_eq hi hl;have e:(KG c.V 1)[i]'hi=prB (c.ex[i]'E).ls:=by
   show(srX c.V)[i]'_=_;simp[srX,CL.V,XV.x]
  rw[e];exact QjP G H (LU E) (λl hl=>I.xl (c.ex[i]'E).x (LJ (Lk E)) l hl)
 ·have hl:(KG c.V 2).length=c.cs.length:=by rw[QjR];unfold srC;rw[Lh];exact Lh ..
  have E:i<c.cs.length:=Nat.lt_of_lt_of_eq hi hl;have e:(KG c.V 2)[i]'hi=prB (c.cs[i]'E).ts:=by
   show(srC c.V)[i]'_=_;simp[srC,CL.V,KV.k]
  rw[e];exact QjO G H (LU E) (λl hl=>I.kl (c.cs[i]'E).k (LJ (Lk E)) l hl)
 omega
structure QpR (N:Nat)(w:OX)(c:CL)(r:OY)(b1 b:Nat):Prop where
 r:r=.slice (some ⟨b,0,none⟩) 3 3
 n1:N<=b1
 n:N<=b
 B1:Q9 w.heap b1 44 c.cells
 B:Q9 w.heap b 306 ([0,1,2].flatMap (srV b1 c.V))
theorem q5 {c:CL}(J:ZJ L w.heap c):
  Q3 prog 160 [c.val] w λr w'=>O1 [] w w'/\∃b1 b,QpR w.heap.size w' c r b1 b:=by
 have h:=J.up (L':=[]) oe;have e0:(KG c.V 0).length=c.rq.length:=by rw[QjT];unfold srR;rw[Lh];exact Lh ..
 have e1:(KG c.V 1).length=c.ex.length:=by rw[QjS];unfold srX;rw[Lh];exact Lh ..
 have e2:(KG c.V 2).length=c.cs.length:=by rw[QjR];unfold srC;rw[Lh];exact Lh ..
 refine Zq func160 ?_;refine Qc<|Qe<|QW (us:=c.cells) U λb1 V G O E=>Qb ?_;have H:=h.I G;refine Qc<|Qs U E U U<|QI H.rq.arr U<|x (Zz (l:=[]) (l':=[_]))<|x (Qy ⟨U,U,U,Z⟩)<|x (V5 U) <|
  X2 E rfl U<|QI H.ex.arr U<|x (Zz (l:=[]) (l':=[_]))<|x (Qy ⟨U,U,U,Z⟩)<|Q7 U<|x (Qr E U U) <|
  QI H.cs.arr U<|x (Zz (l:=[]) (l':=[_]))<|x (Qy ⟨U,U,U,Z⟩) <|
  Qe<|QB (us:=[[oE oF 1,oE oF c.rq.length,.func (.func 223) #[] #[.pointer (some ⟨b1,0,none⟩)]],[oE oF 2,oE oF c.ex.length,.func (.func 225) #[] #[.pointer (some ⟨b1,0,none⟩)]],[oE oF 3,oE oF c.cs.length,.func (.func 226) #[] #[.pointer (some ⟨b1,0,none⟩)]]]) U U og oe ⟨rfl,rfl,rfl,rfl,rfl,rfl,Z⟩ λS Y I ha T =>
  Qb ?_
 have hb:=G.size;refine Qk ⟨[_],La,G.D I,b1,S,U,O,oa,E.I I,?_⟩;have e:[0,1,2].flatMap (srV b1 c.V)=[oE oF 1,oE oF c.rq.length,.func (.func 223) #[] #[.pointer (some ⟨b1,0,none⟩)],oE oF 2,oE oF c.ex.length,.func (.func 225) #[] #[.pointer (some ⟨b1,0,none⟩)],oE oF 3,oE oF c.cs.length,.func (.func 226) #[] #[.pointer (some ⟨b1,0,none⟩)]]:=by
  simp only[Oa,OF,srV,e0,e1,e2];rfl
 rw[e];exact T
structure MV where
 kd:Int
 ix:Int
 v:OY
 co:LI
def MV.m (q:MV):Ux:=⟨q.kd,q.ix,q.co⟩
abbrev Xe (q:MV):LV:=[oE oF q.kd,oE oF q.ix,q.v]
theorem QmK (q:MV):(Xe q).length=3:=rfl
abbrev mvP (q:MV):OY×Nat×Nat×LV:=(q.v,q.co.length,1,q.co.map (.int .i64))
abbrev MvN (base:Nat)(w:OX)(v:OY)(l:List MV):Prop:=Yu Xe 3 219 mvP base w v l
theorem Qkq {q:MV}(h:q.v.oneCell'=true):∀u∈Xe q,u.oneCell'=true:=by
 intro u E;simp only[Xe,oK,oI,or_false]at E;rcases E with rfl|rfl|rfl
 ·rfl
 ·rfl
 exact h
theorem Ua (k:Int):∀(l:LN) (i:Nat),(Vm k i l).length=l.length
 | [],_=>rfl
 | _::l,i=>by rw[Vm,LS,Ua k l,LS]
theorem y8 (k:Int):∀(l:LN) (i j:Nat) (h:j<l.length),(Vm k i l).take (j+1)=(Vm k i l).take j++[⟨k,((i+j:Nat):Int),setK (l[j]'h) 8⟩]
 | [],_,j,h=>OS h (Na _)
 | b::l,i,0,h=>by rw[Vm];rfl
 | b::l,i,j+1,h=>by
  rw[Vm,Nd,Nd,y8 k l (i+1) j (oy h),L5];have e:((i+1+j:Nat):Int)=((i+(j+1):Nat):Int):=oa
  rw[e];rfl
abbrev mdG (c:Zx)(m:Nat):List Ux:=Vm ((m:Int)+1) 0 (KG c m)
def mdP (c:Zx):Nat->List Ux
 | 0=>[]
 | m+1=>mdP c m++mdG c m
theorem Qbb (c:Zx):mdP c 3=O5 c:=by
 simp only[mdP,O5,Oi,oT];rfl
theorem j5 {c:Zx}(h:Qaq c):∀m,m<=3->(mdP c m).length<=32*m
 | 0,_=>Lo _
 | m+1,E=>by
  have G:=j5 h m oa;have H:=jO h (show m<3 by omega);rw[mdP,Ll,Ua];omega
theorem Qc6 {c:CL}(T:ZJ L w.heap c):
  Q3 prog 92 [c.val] w λr w'=>O1 [] w w'/\∃v l,r=.tuple #[v,oE oF (Zi c.V)]/\MvN w.heap.size w' v l/\(Zi c.V≠0->v=nS/\l=[])/\(Zi c.V=0->l.map MV.m=O5 c.V):=by
 have h:=T.up (L':=[]) oe;refine Zo (Zi c.V) λE hE=>?_;rw[hE];refine Zq func92 ?_;refine Qc<|Qe<|QW (us:=c.cells) U λb1 w1 h7 gh h8=>x Ql<|Qb<|Qd<|Qc<|Q6 h8 U U<|ZO<|(XS (h.I h7)).mono ?_;rintro rc wc ⟨hB,hC⟩;rw[hE]at hB;subst hB;have hJ:=h8.I hC;have ho:=h7.D hC;refine Qb<|Qm<|ZB U U<|xe<|QX rfl (λI=>?_) (λI=>?_)
 ·refine Qm<|x Ql<|Qb<|Qk ⟨[nS,oE oF E],oz,ho,nS,[],U,Yu.nil,λ_=>⟨U,U⟩,λT=>OS T I⟩
 have hp:E=0:=Ln.1 I;have hh:Qaq c.V:=(ZZ (hE.D hp)).sr;refine Qh<|Qc<|Qb<|Qd<|Qc<|Q6 hJ U U<|ZO<|(q5 (h.I ho)).mono ?_;rintro r2 J ⟨hK,c1,bs,hS⟩;have hM:=hS.r;subst hM;have hr:=ho.D hK;have hA:∀{w':OX},O1 [] J w'->Zm [] w'.heap (.slice (some ⟨bs,0,none⟩) 3 3) [0,1,2].length 3 ([0,1,2].flatMap (srV c1 c.V)):=λhs =>
  (hS.B.I hs).arr oe (n:=3) (cap:=3) (sz:=3) ol oa (Lv _)
 refine QI (hA (O1.Z _ _)) U<|Qa<|xe<|Qg<|QD (α:=Nat×OY×List MV) [(5,5),(7,8),(17,39)] (λz=>[(5,z.2.1),(17,oE oF z.1)]) (λz w'=>z.1<=3/\O1 [] J w'/\MvN J.heap.size w' z.2.1 z.2.2/\z.2.2.map MV.m=mdP c.V z.1) (λz=>3 - z.1) ol (0,nS,[]) oz
  ⟨Lo _,O1.Z _ _,Yu.nil,U⟩ ?_
 rintro⟨m,v,l⟩ g w3 ⟨hm,hj,V,Y⟩;simp only[]at hm V Y;have gi:=j5 hh m hm;have gj:l.length=(mdP c.V m).length:=by rw[<-Y,Lh]
 refine Qc<|Q0 U U<|xe<|Qd<|QH U (λht=>?_) (λht=>?_)
 ·refine Qz ?_;have hN:m=3:=by have hu:¬(m:Int)<(3:Nat):=ht;omega
  rw[hN,Qbb]at Y;refine Qm<|x Ql<|Qb ?_;have hO:=hr.size;exact Qk ⟨[v,oE oF 0],oz,hr.D hj,v,l,by rw[hp];rfl,⟨Zy V.own hO,λq hq L hL=>V.each q hq L (λb G=>(hL b G).imp (λh=>oa) id)⟩,λT=>OS hp T,λ_=>Y⟩
 have O:m<3:=by have hu:(m:Int)<(3:Nat):=ht;omega
 have gk:=jO hh O;refine Qh ?_;have gl:=hj.size;have hge:=Qi V.own;have hP:([0,1,2]:LN)[m]'O=m:=by rcases m with _|_|_|m <;> first|rfl|omega
 refine Qd<|Qg<|Qc<|O4 (g:=srV c1 c.V) (i:=m) (jN c1 c.V) (hA hj) U U O λgm I=>?_;rw[hP]at I;refine x (Qx I U U)<|Qe<|Qo (us:=[oE oF 0,oE oF 0,.nilFunc]) U λb7 w4 hQ hR ha=>Qe<|Qj (us:=srV c1 c.V m) ha U U U U oA λw5 hT ha =>
  xe ?_
 have hv:O1 [] w3 w5:=hQ.O hT hR;have gn:=hv.size;refine Qc<|Qs U ha U U<|Qa<|xe<|Qg<|QD (α:=Nat×OY×List MV) [(5,5),(8,8),(23,38)] (λz=>[(5,z.2.1),(23,oE oF z.1)]) (λz w'=>z.1<=(KG c.V m).length/\O1 (ob v) w5 w'/\MvN J.heap.size w' z.2.1 z.2.2/\z.2.2.map MV.m=mdP c.V m++(mdG c.V m).take z.1/\∀b∈ob z.2.1,b∈ob v\/w5.heap.size<=b) (λz=>(KG c.V m).length - z.1) ol (0,v,l) oz
  ⟨Lo _,O1.Z _ _,V.I hv,by simp only[List.take_zero,Oq];exact Y,λb G=>.inl G⟩ ?_
 rintro⟨i,vi,li⟩ g H ⟨hi,hk,he,hf,hl⟩;simp only[]at hi he hf hl;have go:=hk.size;have hU:=Qi he.own;have hn:O1 [] J H:=(hj.D hv).then hk (λb G=>.inr (hge b G).1);have hD:b7∉ob v:=λG=>ot (hge b7 G).2
 have hF:=ha.J hk hD;have h6:=h.I (hr.D hn);have hV:Q9 H.heap c1 44 c.cells:=hS.B1.I hn;have gp:li.length<=200:=by
  have e1:=OR oO hf;rw[Lh,Ll,Ly]at e1;have e2:(mdG c.V m).length=(KG c.V m).length:=Ua _ _ _;omega
 refine Qc<|Q0 U U<|xe<|Qd<|QH U (λhw=>?_) (λhw=>?_)
 ·refine Qz ?_;have hW:(KG c.V m).length<=i:=by have hu:¬(i:Int)<((KG c.V m).length:Int):=hw;omega
  rw[Lr (by rw[Ua];exact hW)]at hf;refine Qw<|QS U U<|Qa<|xe ?_;exact⟨(m+1,vi,li),oh,oz,O,hn,he,hf⟩
 have S:i<(KG c.V m).length:=by have hu:(i:Int)<((KG c.V m).length:Int):=hw;omega
 have hy:(mdG c.V m).take (i+1)=(mdG c.V m).take i++[⟨(m:Int)+1,((0+i:Nat):Int),setK ((KG c.V m)[i]'S) 8⟩]:=y8 _ _ _ _ S;rw[LQ]at hy;have hbl:=Qgx hh O _ (Lk S);refine Qh<|Qd<|Qg<|Qm<|Qb ?_;have hG:b7∉ob vi:=λG=>by
  rcases hl b7 G with h9|h9
  ·exact hD h9
  have:=ha.lt;omega
 have hz:O1 [] H { H with drawn:=H.drawn+1 }:=O1.C _ _
 have gq:({ H with drawn:=H.drawn+1 }:OX).heap.size=H.heap.size:=rfl
 refine ZI (ob vi) (Xx 0 13 [7,8,10,11])<|p QF<|p (QR U)<|pq (λ_ hc=>Qr (hF.J hc hG) U U)<|p QF<|p (QR U) <|
  pq (λ_ hc=>Qr (hF.J hc hG) U U)<|p QF<|pk<|xcG (first:=[]) (capt:=[.pointer (some ⟨c1,0,none⟩)]) (Ql3 m) U<|(Qgv (hV.I hz) (h6.I hz) hh O S).mono ?_
 rintro r8 w8 ⟨rfl,hX⟩;refine Zo ((KG c.V m)[i]'S) λbv hY=>?_;rw[hY]at hy hbl ⊢;have h1:=hz.D hX;refine⟨h1.any,?_⟩;refine pk<|xf<|(QdF bv hbl w8).mono ?_;rintro r9 w9 ⟨hZ,h2⟩;have h3:=h1.D hZ;have gr:=h1.size;refine⟨h3.any,?_⟩;refine p (λ_=>Qy ⟨U,U,xH h2,Z⟩)<|pk<|QB (us:=[Xe ⟨(m:Int)+1,i,r9,setK bv 8⟩]) U U og oe ⟨rfl,rfl,Z⟩ λgs gt h4 gu ga=>⟨(h3.D h4).any,?_⟩;have hg:=h3.D h4;have gv:=hg.size;refine pk<|Zb (news:=Xe ⟨(m:Int)+1,i,r9,setK bv 8⟩) (L:=[]) (Qq he.own hg) U U U (ga.at oe) (Qkq (q:=⟨(m:Int)+1,i,r9,setK bv 8⟩) (Qu h2)) oa oa λhH gb gc h5 hI=>⟨hg.any.Q h5,?_⟩;refine p ZM<|pe ?_;have gw:=VY bv 8;have gg:MvN J.heap.size gb hH (li++[⟨(m:Int)+1,i,r9,setK bv 8⟩]):=Yu.app2 (N:=w8.heap.size) (he.I hg) (Qq h2 h4) (by show(setK bv 8).length<=_;omega) (ot hn.size) (λb G=>ot (hU b G)) gc h5 hI;refine Qw<|QS U U<|Qa<|xe<|⟨(i+1,hH,li++[⟨(m:Int)+1,i,r9,setK bv 8⟩]),oh,oz,S,(hk.D hg).then h5 hl,gg,?_,λb G=>?_⟩
 ·simp only[];rw[hy,Lt,hf,LA];rfl
 rcases hI b G with h9|h9
 ·exact hl b h9
 exact .inr oa
theorem QkJ {v:OY}{es:LN}[Fu prog g fn]{cap:LV}{q:Nat->Bool}(h:Zm L w.heap v es.length 3 (es.flatMap (srV b1 c)))
  (hk:∀(m:Nat) (G:OX),O1 [] w G->Q3 prog g ([.agg (srV b1 c m).toArray]++cap) G λr w'=>r=.bool (q m)/\O1 [] G w'):
  Q3 prog 227 [v,.func (.func g) #[] cap.toArray] w λr w'=>O1 [] w w'/\∃i:Int,r=oE oF i/\((i=-1/\∀m∈es,q m=false)\/∃k:Nat,∃m,es[k]?=some m/\i=(k:Int)/\q m=true):=by
 have hf:=h.le;refine Zq func227 ?_;refine Qc<|Qb<|Qd<|Qm<|QI h U<|Qa<|xe<|Qg<|QD (α:=Nat) [(4,5),(8,18)] (λz=>[(8,oE oF z)]) (λz w'=>z<=es.length/\O1 [] w w'/\∀m∈es.take z,q m=false) (λz=>es.length - z) ol 0 La ⟨Lo _,O1.Z _ _,λm O=>by simp at O⟩ ?_;rintro k g' G ⟨hg,H,S⟩;refine Qc<|Q0 U U<|xe<|Qd<|QH U (λT=>?_) (λT=>?_)
 ·refine Qz ?_;have he:es.length<=k:=by have I:¬(k:Int)<(es.length:Int):=T;omega
  rw[Lr he]at S;refine Qc<|Qb<|Qk ⟨[oE oF (-1)],La,H,-1,U,.inl ⟨U,S⟩⟩
 have E:k<es.length:=by have I:(k:Int)<(es.length:Int):=T;omega
 have V:es.take (k+1)=es.take k++[es[k]'E]:=Lm E;have Y:es[k]?=some (es[k]'E):=LU E;refine Qh<|Qd<|Qg<|Qm<|Qb<|Qm<|Qa<|Qa<|O4 (g:=srV b1 c) (i:=k) (jN b1 c) (h.I H) U U E λhh ha=>?_;refine Zo (es[k]'E) λm O=>?_;rw[O]at ha V Y;refine x (Qx ha U U)<|Qe<|xc (first:=[]) (capt:=cap) U<|(hk m G H).mono ?_;rintro r2 w2 ⟨rfl,hb⟩;refine xe<|QQ rfl (λI=>?_) (λI=>?_)
 ·refine Qm<|Qb<|Qk ⟨[oE oF k],La,H.D hb,k,U,.inr ⟨k,m,Y,U,I⟩⟩
 refine Qh<|Qw<|QS U U<|Qa<|xe<|⟨k+1,oa,La,E,H.D hb,λm' hc=>?_⟩;rw[V]at hc;rcases Lc.1 hc with J|J
 ·exact S m' J
 simp only[oH]at J;subst J;exact I
theorem Qlx {m:Nat}{q:MV}(H:Q9 w.heap E 219 (Xe q)):
  Q3 prog 228 [.agg (srV b1 c m).toArray,.pointer (some ⟨E,0,none⟩)] w λr w'=>r=.bool (decide ((m:Int)+1=q.kd))/\O1 [] w w':=by
 refine Zq func228 ?_;refine Qc<|Qe<|QW (us:=srV b1 c m) U λb2 J G O I=>Qb<|Qc<|Qs U I U U<|Qs U (H.I G) U U<|x (QY U U)<|Qb<|Qk ⟨[_],La,U,G⟩
theorem Qe4 {c:CL}{q:MV}(h0:ZJ L w.heap c)(hD:QP L w.heap q.v q.co):
  Q3 prog 161 [c.val,.agg #[oE oF q.kd,oE oF q.ix,q.v]] w λr w'=>r=oE oF (mdE c.V q.m)/\O1 [] w w':=by
 have h:=h0.up (L':=[]) oe;have hm:=hD.up (L':=[]) oe;have G:mdE c.V q.m=if Zi c.V≠0 then Zi c.V else if q.kd<1\/3<q.kd then 11 else if q.ix<0\/((srK c.V q.kd).length:Int)<=q.ix then 10 else if q.co=setK ((srK c.V q.kd).getD q.ix.toNat 0) 8 then 0 else 13:=rfl
 refine Zo (mdE c.V q.m) λE hE=>?_;rw[hE]at G ⊢;refine Zq func161 ?_;refine Qc<|Qe<|QW (us:=c.cells) U λb2 w1 hF gc hv=>Qe<|QW (us:=Xe q) U λb3 w2 he gg hG=>Qb ?_;have hw:=hF.D he;refine Qd<|Qc<|Q6 (hv.I he) U U<|ZO<|(XS (h.I hw)).mono ?_;rintro r3 w3 ⟨rfl,hf⟩;refine Qb ?_;have hg:=hw.D hf;have hH:=(hv.I he).I hf;have hI:=hG.I hf;refine Qm<|ZB U U<|xe<|QX rfl (λT=>?_) (λT=>?_)
 ·rw[OQ T]at G;subst G;refine Qm<|Qb<|Qk ⟨[_],La,U,hg⟩
 rw[OP T]at G;have hh:Qaq c.V:=(ZZ (Ln.1 T)).sr;refine Qh<|Qc<|Q6 hH U U<|ZO<|(q5 (h.I hg)).mono ?_;rintro r4 w4 ⟨hy,c1,bs,hS⟩;have hJ:=hS.r;subst hJ;refine Qb ?_;have hK:=hg.D hy;have h1:=hI.I hy;have hA:Zm [] w4.heap (.slice (some ⟨bs,0,none⟩) 3 3) [0,1,2].length 3 ([0,1,2].flatMap (srV c1 c.V)):=hS.B.arr oe (n:=3) (cap:=3) (sz:=3) ol oa (Lv _);refine Qm<|x (Zz (l:=[]) (l':=[_]))<|ZO<|(QkJ (q:=λm=>decide ((m:Int)+1=q.kd)) (cap:=[.pointer (some ⟨b3,0,none⟩)]) hA (λm w5 I=>Qlx (h1.I I))).mono ?_;rintro r5 w5 ⟨I,i,rfl,hi⟩;refine Qb ?_;have h2:=hK.D I;have hj:=h1.I I;have h3:=hA.I I;have hL:Q9 w5.heap c1 44 c.cells:=hS.B1.I I;refine Qd<|Qg<|Qm<|Q0 U U<|Qb<|QX U (λhl=>?_) (λhl=>?_)
 ·have hn:q.kd<1\/3<q.kd:=by
   rcases hi with⟨_,hi⟩|⟨k,m,_,hi,_⟩
   ·have e0:=OW (hi 0 oe);have e1:=OW (hi 1 oe);have e2:=OW (hi 2 oe);omega
   have gh:i<0:=hl;omega
  rw[OQ hn]at G;subst G;refine Qc<|Qb<|Qk ⟨[_],La,U,h2⟩
 obtain⟨m,J,hM,hn⟩:∃m:Nat,m<3/\i=(m:Int)/\q.kd=(m:Int)+1:=by
  rcases hi with⟨hi,_⟩|⟨k,m,hk,hi,hq⟩
  ·exact OS (by rw[hi];decide:i<0) hl
  have gi:=OU hq;obtain⟨hN,hk⟩:=Mz.1 hk;have hO:k<3:=hN;have gj:m=k:=by rcases k with _|_|_|k <;> first|exact hk.symm|omega
  exact⟨k,hO,hi,oa⟩
 subst hM;rw[OP oa,show srK c.V q.kd=KG c.V m by rw[hn]]at G;have gk:=jO hh J;have h4:([0,1,2]:LN)[m]'J=m:=by rcases m with _|_|_|m <;> first|rfl|omega
 refine Za (α:=Bool) [(21,34)] (λz=>[(21,.bool z)]) (λz w'=>O1 [] w5 w'/\z=decide (q.ix<0\/((KG c.V m).length:Int)<=q.ix)) ol ?_ ?_
 ·refine ZI [] (Xx 0 14 [])<|p (QR U)<|pq (λ_ H=>Qr (hj.I H) U U)<|pb (λ_=>YP U U) (λho=>?_) (λho=>?_)
  ·refine p QF<|ps<|ps<|ps<|ps<|ps<|ps<|ps<|ps<|p (Xf U)<|p ZM<|pe ?_;have hp:q.ix<0:=ho;exact⟨true,La,O1.C _ _,by rw[OT (.inl hp)]⟩
  refine p QF<|p (QR U)<|pq (λ_ H=>Qr (hj.I H) U U)<|p QF<|p QF <|
   Go.Lg.pig (g:=srV c1 c.V) (i:=m) U (jN c1 c.V) h3 U U J λgl h5=>?_
  rw[h4]at h5;refine p (λ_=>Zt U)<|pq (λ_ H=>QA ((h5.fld 1 (oE oF (KG c.V m).length) U).st H) U)<|p (λ_=>Yw U U) <|
   p (Xf rfl)<|p ZM<|pe ?_
  have hp:¬q.ix<0:=ho;refine⟨decide (((KG c.V m).length:Int)<=q.ix),La,O1.C _ _,?_⟩;rw[decide_eq_decide];exact⟨.inr,λh=>h.resolve_left hp⟩
 rintro z g V ⟨Y,hz⟩;have ha:=h2.D Y;refine QQ rfl (λht=>?_) (λht=>?_)
 ·rw[OQ (OU (hz.symm.D ht))]at G;subst G;refine Qc<|Qb<|Qk ⟨[_],La,U,ha⟩
 have hP:=OW (hz.symm.D ht);rw[OP hP]at G;have hQ:q.ix=(q.ix.toNat:Int):=oa
 have O:q.ix.toNat<(KG c.V m).length:=oa
 have hR:(KG c.V m).getD q.ix.toNat 0=(KG c.V m)[q.ix.toNat]'O:=by simp[oP,O]
 have hbl:=Qgx hh J _ (Lk O);rw[hR]at G;have h6:=hj.I Y;have hT:=h3.I Y;have h7:O1 [] V { V with drawn:=V.drawn+1 }:=O1.C _ _
 have hU:∀{w':OX},O1 [] V w'->Q3 prog (gK m) [oE oF q.ix,.pointer (some ⟨c1,0,none⟩)] w' λr hV=>r=.int .u16 ((KG c.V m)[q.ix.toNat]'O:Nat)/\O1 [] w' hV:=by
  intro w' hs;have:=Qgv ((hL.I Y).I hs) ((h.I ha).I hs) hh J O;rw[<-hQ]at this;exact this
 refine Qd<|ZI [] (Xx 0 14 [9,10,11])<|p (QR U)<|pq (λ_ H=>Qr (h6.I H) U U)<|p QF<|p QF<|Go.Lg.pig (g:=srV c1 c.V) (i:=m) U (jN c1 c.V) hT U U J λgm h8=>?_;rw[h4]at h8;refine p (λ_=>Zt U)<|pq (λ_ H=>QA ((h8.fld 2 (.func (.func (gK m)) #[] #[.pointer (some ⟨c1,0,none⟩)]) U).st H) U)<|p (QR U)<|pq (λ_ H=>Qr (h6.I H) U U) <|
  pk<|xcG (first:=[]) (capt:=[.pointer (some ⟨c1,0,none⟩)]) (Ql3 m) U<|(hU h7).mono ?_
 rintro r7 w7 ⟨rfl,hW⟩;refine Zo ((KG c.V m)[q.ix.toNat]'O) λbv hX=>?_;rw[hX]at G hbl ⊢;have h9:=h7.D hW;refine⟨h9,?_⟩;refine pk<|xf<|(QdF bv hbl w7).mono ?_;rintro r8 w8 ⟨hY,hZ⟩;have hb:=h9.D hY;refine⟨hb,?_⟩;have gn:=VY bv 8;refine pk<|xf<|(Vc (hm.I (ha.D hb)) (Qv.ints (L:=[]) hZ oa oe)).mono ?_;rintro r9 w9 ⟨rfl,hB⟩;refine⟨hb.D hB,?_⟩;refine p (λ_=>ZC U)<|p ZM<|pe ?_;have hC:=(ha.D hb).D hB;refine QQ rfl (λhu=>?_) (λhu=>?_)
 ·have ga:¬q.co=setK bv 8:=by
   intro e;have S:(!decide (q.co=setK bv 8))=true:=hu;rw[OT e]at S;cases S
  rw[OP ga]at G;subst G;refine Qc<|Qb<|Qk ⟨[_],La,U,hC⟩
 have gb:q.co=setK bv 8:=by
  refine Decidable.byContradiction λe=>?_;have S:(!decide (q.co=setK bv 8))=false:=hu;rw[OV e]at S;cases S
 rw[OQ gb]at G;subst G;refine Qh<|Qc<|Qb<|Qk ⟨[_],La,U,hC⟩
section
variable {pS:String}
abbrev i2 (p:Int×Int):LV:=[oE oF p.1,oE oF p.2]
abbrev i5 (a:ByteArray)(b c e:Bool)(i:Int):LV:=[.string a,.bool b,.bool c,.bool e,oE oF i]
end
end Go.Lg
namespace Go.Proofs
open Go.Proofs.Tryz
open Go.Shelf
def Tryz.sortEd_ren:Go.Shelf.Ren:=⟨λ|6=>197|15=>139|14=>261|28=>214|29=>215|20=>301|21=>302|22=>303|23=>304|24=>305|25=>306|26=>307|27=>308|46=>335|47=>268|48=>269|49=>336|50=>337|57=>348|n=>n,λ|22=>57|24=>167|25=>352|3=>3|39=>285|0=>0|53=>367|55=>369|4=>4|46=>361|45=>360|50=>236|5=>5|9=>9|66=>421|70=>425|76=>452|77=>411|n=>n,λ|n=>n⟩
theorem Tryz.sortEd:Go.Proofs.SlLaysF0.n6 prog Tryz.sortEd_ren:={
 mixed:=od
 f6:=⟨Tryz.f197.name,og,func197.D (OR some od)⟩
 f14:=⟨Tryz.f261.name,og,func261.D (OR some od)⟩
 f15:=func139.D (OR some od)
 f20:=⟨Tryz.f301.name,og,func301.D (OR some od)⟩
 f21:=⟨Tryz.f302.name,og,func302.D (OR some od)⟩
 f22:=⟨Tryz.f303.name,og,func303.D (OR some od)⟩
 f23:=⟨Tryz.f304.name,og,func304.D (OR some od)⟩
 f24:=⟨Tryz.f305.name,og,func305.D (OR some od)⟩
 f25:=⟨Tryz.f306.name,og,func306.D (OR some od)⟩
 f26:=⟨Tryz.f307.name,og,func307.D (OR some od)⟩
 f27:=⟨Tryz.f308.name,og,func308.D (OR some od)⟩
 f28:=func214.D (OR some od)
 f29:=func215.D (OR some od)
 f46:=⟨Tryz.f335.name,og,func335.D (OR some od)⟩
 f47:=func268.D (OR some od)
 f48:=func269.D (OR some od)
 f49:=⟨Tryz.f336.name,og,func336.D (OR some od)⟩
 f50:=⟨Tryz.f337.name,og,func337.D (OR some od)⟩
 f57:=⟨Tryz.f348.name,og,func348.D (OR some od)⟩
 t0:=underlying0
 a0:=isAgg0
 z0:=sizeOf0
 v0:=zeroValue0
 t3:=underlying3
 a3:=isAgg3
 z3:=sizeOf3
 v3:=zeroValue3
 t4:=underlying4
 a4:=isAgg4
 z4:=sizeOf4
 v4:=zeroValue4
 t5:=underlying5
 a5:=isAgg5
 z5:=sizeOf5
 v5:=zeroValue5
 t9:=underlying9
 a9:=isAgg9
 z9:=sizeOf9
 v9:=zeroValue9
 t22:=underlying57
 a22:=isAgg57
 z22:=sizeOf57
 v22:=zeroValue57
 t25:=underlying352
 a25:=isAgg352
 z25:=sizeOf352
 v25:=zeroValue352
 t39:=underlying285
 a39:=isAgg285
 z39:=sizeOf285
 v39:=zeroValue285
 t45:=underlying360
 a45:=isAgg360
 z45:=sizeOf360
 v45:=zeroValue360
 t46:=underlying361
 a46:=isAgg361
 z46:=sizeOf361
 v46:=zeroValue361
 t50:=underlying236
 a50:=isAgg236
 z50:=sizeOf236
 v50:=zeroValue236
 t53:=underlying367
 a53:=isAgg367
 z53:=sizeOf367
 v53:=zeroValue367
 t55:=underlying369
 a55:=isAgg369
 z55:=sizeOf369
 v55:=zeroValue369
 t66:=underlying421
 a66:=isAgg421
 z66:=sizeOf421
 v66:=zeroValue421
 t70:=underlying425
 a70:=isAgg425
 z70:=sizeOf425
 v70:=zeroValue425
 t76:=underlying452
 a76:=isAgg452
 z76:=sizeOf452
 v76:=zeroValue452
 t77:=underlying411
 a77:=isAgg411
 z77:=sizeOf411
 v77:=zeroValue411 }
end Go.Proofs
namespace Go.Lg
open Go.Lg Go.Sort
abbrev Ez:={ x:Ed // (0<=x.1/\x.1<1099511627776)/\0<=x.2.1/\x.2.1<1099511627776 }
instance:Inhabited Ez:=⟨⟨(0,0,0),og⟩⟩
abbrev qt (x:Ez):LV:=[oE oF x.1.1,oE oF x.1.2.1,oE oF x.1.2.2]
abbrev EzO (base:Nat)(w:OX)(v:OY)(l:List Ez):Prop:=w.ownsRow base 167 3 v l.length (l.flatMap qt)
def ecf (x y:Ez):Int:=if x.1.1=y.1.1 then x.1.2.1 - y.1.2.1 else x.1.1 - y.1.1
theorem QoO (x y:Ez)(W:OX):Calls prog 311 #[.agg (qt x).toArray,.agg (qt y).toArray] W λe w'=>e=.returned (oE oF (ecf x y))/\∃q os',w'=grow (W.drewN q) os':=by
 have E:IntKind.i64.wrap (x.1.1 - y.1.1)=x.1.1 - y.1.1:=YM ⟨ou x.2 y.2,ou x.2 y.2⟩;have G:IntKind.i64.wrap (x.1.2.1 - y.1.2.1)=x.1.2.1 - y.1.2.1:=YM ⟨ou x.2 y.2,ou x.2 y.2⟩
 go_enter func311,ntmps311
 go_wp2
 ·go_ret;rename_i h;exact⟨by rw[ecf,OP (oy h)];rfl,0,_,by rw[alloc_eq_grow,alloc_eq_grow,grow_grow];rfl⟩
 go_ret;rename_i h;exact⟨by rw[ecf,OQ (oy h)];rfl,0,_,by rw[alloc_eq_grow,alloc_eq_grow,grow_grow];rfl⟩
theorem QoP (x y:Ez)(W:OX):Calls prog 198 #[.agg (qt x).toArray,.agg (qt y).toArray] W λe w'=>e=.returned (oE oF (ecf x y))/\∃q os',w'=grow (W.drewN q) os':=by
 have E:IntKind.i64.wrap (x.1.1 - y.1.1)=x.1.1 - y.1.1:=YM ⟨ou x.2 y.2,ou x.2 y.2⟩;have G:IntKind.i64.wrap (x.1.2.1 - y.1.2.1)=x.1.2.1 - y.1.2.1:=YM ⟨ou x.2 y.2,ou x.2 y.2⟩
 go_enter func198,ntmps198
 go_wp2
 ·go_ret;rename_i h;exact⟨by rw[ecf,OP (oy h)];rfl,0,_,by rw[alloc_eq_grow,alloc_eq_grow,grow_grow];rfl⟩
 go_ret;rename_i h;exact⟨by rw[ecf,OQ (oy h)];rfl,0,_,by rw[alloc_eq_grow,alloc_eq_grow,grow_grow];rfl⟩
theorem Qai (x:Ez):(qt x).length=3:=rfl
theorem QcG:∀l:List Ez,(l.flatMap qt).length=l.length*3
 | []=>rfl
 | x::l=>by rw[LG,Ll,QcG l,Qai,LS];omega
theorem QdV {l:List Ez}(I:j<l.length*3):(l.flatMap qt)[j]?=some ((flatK qt 3 l.toArray)[j]!):=by
 have E:j / 3<l.length:=Nat.div_lt_of_lt_mul oa;have G:j % 3<3:=OI _ og;rw[get_flatK _ _ _ _ (oy I)];have J:=XX qt 3 Qai l (j / 3) E;have O:(l.flatMap qt)[j]?=(qt (l[j / 3]'E))[j % 3]?:=by
  rw[<-J,LX,OQ G,MW];congr 1;omega
 rw[O];have S:(l.toArray)[j / 3]! = l[j / 3]'E:=by simp[E]
 rw[S];have H:j % 3<(qt (l[j / 3]'E)).length:=G;exact(LU H).D (OR some (getElem!_pos (qt (l[j / 3]'E)) (j % 3) H).symm)
theorem Qid (x y:Ez):ltOf ecf x y=true↔x.1.1<y.1.1\/x.1.1=y.1.1/\x.1.2.1<y.1.2.1:=by
 unfold ltOf ecf;rw[decide_eq_true_iff];split <;> omega
theorem Qak (x y:Ez):ltOf ecf x y=false↔y.1.1<x.1.1\/y.1.1=x.1.1/\y.1.2.1<=x.1.2.1:=by
 rw[<-Bool.not_eq_true,Qid];omega
theorem Qng:SWO (ltOf ecf) where
 irrefl x:=by rw[Qak];omega
 trans x y z h1 h2:=by rw[Qid]at *;omega
 ntrans x y z h1 h2:=by rw[Qak]at *;omega
theorem Qdp [Inhabited α]{lt:α->α->Bool}{d E:Array α}(H:PermIn 0 d.size d E)(I:SortedIn lt 0 d.size E):E.toList.Perm d.toList/\E.toList.Pairwise (λx y=>lt y x=false):=by
 obtain⟨J,_,G⟩:=H;have e1:E.extract 0 d.size=E:=by rw[<-J];exact Array.extract_size
 rw[e1,Array.extract_size]at G;refine⟨G,?_⟩;rw[MH];intro i j hi O S;have T:i<E.size:=by simpa using hi
 have V:j<E.size:=by simpa using O
 have:=I i j (Lo _) S oa;rw[getElem!_pos E j V,getElem!_pos E i T]at this;simpa using this
theorem Qce (eg:∀args w,(callFunc g args).run prog w=.ok (.enter g args) w)(hb:∀(x y:Ez) (W:OX),Calls prog g #[.agg (qt x).toArray,.agg (qt y).toArray] W λe w'=>e=.returned (oE oF (ecf x y))/\∃q os',w'=grow (W.drewN q) os')
   {base:Nat} {v:OY} {l:List Ez} (h:EzO base w v l) (hl:l.length<=1099511627776):
  Q3 prog 197 [v,.func (.func g) #[] #[]] w λ_ w'=>O1 (ob v) w w'/\∃l':List Ez,l'.Perm l/\l'.Pairwise (λx y=>ltOf ecf y x=false)/\EzO base w' v l':=by
 unfold Q3;rcases h.2 with⟨rfl,h0⟩|⟨gb,cap,cur,rfl,hf,I,hh,hm,ho,hq⟩
 ·have hr:l=[]:=Ls h0;subst hr;have H:=AnyF.slices_SortFunc_none Tryz.sortEd none 0 (.func (.func g) #[] #[]) w;change Calls prog 197 _ _ _ at H;refine Calls.mono H λe w' J=>?_;obtain⟨rfl,rfl⟩:=J;exact⟨O1.Z _ _,[],List.Perm.refl _,List.Pairwise.nil,h⟩
 have T:gb<w.heap.size:=(LO.1 I).1;have hH:HoldsK qt 3 w gb 0 l.toArray:=by
  intro j E;rw[size_flatK,LR]at E;have V:=QdV E;rw[<-hq,LX,OQ E]at V;constructor
  ·show(match w.heap[gb]? with|some (.cells c _ _)=>if(none:Option _).isSome then none else c[0+j]?|_=>none)=_
   rw[I];simp only[oX,Ow,Ox,if_false];rw[<-Mi,V];rfl
  show(match w.heap[gb]? with|some (.cells _ _ (lo,hi))=>decide (lo<=0+j) && decide (0+j<hi)|_=>false)=false
  rw[I];simp
 have H:=AnyQ.slices_SortFunc Tryz.sortEd 3 isAgg167 sizeOf167 qt Qai (λx v Y=>by simp at Y;rcases Y with rfl|rfl|rfl <;> rfl) ecf Qng g #[] gb 0 cap l.toArray w eg (λm os dk _ x y=>hb x y _) hH T (by simp;omega)
 change Calls prog 197 _ _ _ at H;rw[LR]at H;refine Calls.mono H λe w' J=>?_;obtain⟨rfl,G,n,os,hp,hs,rfl⟩:=J;have O:G.size=l.length:=by have:=hp.1;simpa using this
 have ha:=Qdp (d:=l.toArray) (by rw[LR];exact hp) (by rw[LR];exact hs);have S:(sortWorldK qt 3 w gb 0 n G os).heap=w.heap.modify gb (onCells (putCells id 0 (flatK qt 3 G)))++os:=rfl;refine⟨⟨rfl,U,U,?_,λk hk hn=>?_⟩,G.toList,ha.1,ha.2,?_⟩
 ·rw[S,MP,Mk];omega
 ·rw[S,Mj,Mk,OQ hk,Mw,OP (λe=>hn (by simp[ob,e]))]
 refine⟨QcG _,.inr ⟨gb,cap,putCells id 0 (flatK qt 3 G) cur,by simp[O],hf,?_,by simp[O];exact hh,hm,by simp[putCells,ho],?_⟩⟩
 ·rw[S,Mj,Mk,OQ T,Mw,OQ rfl,I];rfl
 apply M7;intro j;rw[LX];by_cases E:j<G.toList.length*3
 ·rw[OQ E,QdV E,Mi];have ht:j<cur.size:=by simp[O]at E;omega
  have hu:j<(flatK qt 3 G).size:=by simpa using E
  simp only[putCells,Oo,Od ht,Ot,ON,oX,true_and,OQ hu,OC,id]
 rw[OP E,MR];rw[QcG];omega
theorem QhX:∀l:List Ez,(l.map (·.1)).flatMap QC=l.flatMap qt
 | []=>rfl
 | x::l=>by rw[LE,LG,LG,QhX l];rfl
theorem QdU:∀l:List Ed,(∀e∈l,(0<=e.1/\e.1<1099511627776)/\0<=e.2.1/\e.2.1<1099511627776)->∃zs:List Ez,zs.map (·.1)=l
 | [],_=>⟨[],U⟩
 | e::l,h=>by
  obtain⟨zs,E⟩:=QdU l (λd hd=>h d (Lj _ hd));exact⟨⟨e,h e Lq⟩::zs,by rw[LE,E]⟩
abbrev Qbt (x y:Ed):Prop:=x.1<y.1\/x.1=y.1/\x.2.1<=y.2.1
theorem yN (eg:∀args w,(callFunc g args).run prog w=.ok (.enter g args) w)(E:∀(x y:Ez) (W:OX),Calls prog g #[.agg (qt x).toArray,.agg (qt y).toArray] W λe w'=>e=.returned (oE oF (ecf x y))/\∃q os',w'=grow (W.drewN q) os')
   {base:Nat} {v:OY} {l:List Ed} (h:w.ownsRow base 167 3 v l.length (l.flatMap QC)) (hl:l.length<=1099511627776) (G:∀e∈l,(0<=e.1/\e.1<1099511627776)/\0<=e.2.1/\e.2.1<1099511627776):
  Q3 prog 197 [v,.func (.func g) #[] #[]] w λ_ w'=>O1 (ob v) w w'/\∃l':List Ed,l'.Perm l/\l'.Pairwise Qbt/\w'.ownsRow base 167 3 v l'.length (l'.flatMap QC):=by
 obtain⟨zs,rfl⟩:=QdU l G;rw[Lh]at hl;rw[Lh,QhX]at h;refine(Qce eg E h hl).mono λ_ _ ⟨H,l',I,J,O⟩=>⟨H,l'.map (·.1),I.map _,?_,by rw[Lh,QhX];exact O⟩;rw[MF];refine J.imp λ{x y} S=>?_;have:=(Qak y x).1 S;exact this
theorem jP {base:Nat}{v:OY}{l:List Ed}(h:w.ownsRow base 167 3 v l.length (l.flatMap QC))(hl:l.length<=1099511627776)(E:∀e∈l,(0<=e.1/\e.1<1099511627776)/\0<=e.2.1/\e.2.1<1099511627776):
  Q3 prog 266 [v] w λ_ w'=>O1 (ob v) w w'/\∃l':List Ed,l'.Perm l/\l'.Pairwise Qbt/\w'.ownsRow base 167 3 v l'.length (l'.flatMap QC):=by
 refine Zq func266 ?_;refine Qw<|Qa<|QM<|(yN (enters_of func311 od U) QoO h hl E).mono ?_;rintro H I G;refine xe ?_;exact⟨[],Z,G⟩
theorem QeG {base:Nat}{v:OY}{l:List Ed}(h:w.ownsRow base 167 3 v l.length (l.flatMap QC))(hl:l.length<=1099511627776)(E:∀e∈l,(0<=e.1/\e.1<1099511627776)/\0<=e.2.1/\e.2.1<1099511627776):
  Q3 prog 197 [v,.func (.func 198) #[] #[]] w λ_ w'=>O1 (ob v) w w'/\∃l':List Ed,l'.Perm l/\l'.Pairwise Qbt/\w'.ownsRow base 167 3 v l'.length (l'.flatMap QC):=
 yN (enters_of func198 od U) QoP h hl E
def cmF (c:Zx)(l:List (LI)):LI:=l.zipIdx.filterMap λp=>if(VW c.ex c.cs p.1).2.2=true then some (p.2:Int)else none
theorem Qiw {l:List (LI)}{k:Nat}(h:k<l.length):cmF c (l.take (k+1))=cmF c (l.take k)++(if(VW c.ex c.cs (l[k]'h)).2.2=true then[(k:Int)]else[]):=by
 unfold cmF;rw[Lm h,List.zipIdx_append,List.filterMap_append];have e:0+(l.take k).length=k:=by rw[Ly];omega
 rw[e];simp only[List.zipIdx_cons,List.zipIdx_nil,List.filterMap_cons,List.filterMap_nil];by_cases E:(VW c.ex c.cs (l[k]'h)).2.2=true
 ·rw[OQ E,OQ E]
 rw[OP E,OP E]
theorem Qlu (c:Zx)(l:List (LI)):(cmF c l).length<=l.length:=by
 unfold cmF;refine LH (List.length_filterMap_le _ _) ?_;rw[List.length_zipIdx];exact Lv _
def Qeh (c:Zx):Bool:=match xd (O3 c.co),xd (O3 c.co++O3 c.rq)with
 | some (pa,ps),some (_,ts)=>ts.all λt=>decide ((wrf c.rq (t.drop c.co.length) (enb pa (plx ps (t.take c.co.length)))).length<=1)
 | _,_=>false
def cmB (c:Zx):LI:=match xd (O3 c.co++O3 c.rq)with
 | some (sa,ts)=>cmF c (ts.map (·.take c.co.length))++[sa.st]
 | none=>[]
structure CmI (b2 base:Nat)(W:OX)(xa:OY)(st:Int)(xm vb ve:OY)(bad:LI)(es:List Ed):Prop where
 B:Q9 W.heap b2 59 [xa,oE oF st,xm,ve]
 b:Qv 3 base W vb bad
 e:W.ownsRow base 167 3 ve es.length (es.flatMap QC)
 dj:Dj vb ve
 bd:∀e∈es,(0<=e.1/\e.1<1099511627776)/\0<=e.2.1/\e.2.1<1099511627776
theorem CmI.I {b2 base:Nat}{W W':OX}{xa:OY}{st:Int}{xm vb ve:OY}{bad:LI}{es:List Ed}(h:CmI b2 base W xa st xm vb ve bad es)(E:O1 [] W W'):CmI b2 base W' xa st xm vb ve bad es :=
 ⟨h.B.I E,Qq h.b E,Qq h.e E,h.dj,h.bd⟩
theorem CmI.addB {base:Nat}{W:OX}{xa:OY}{st:Int}{xm E:OY}{bad bad':LI}(h:CmI b2 base W xa st xm vb ve bad es)(G:b2<base)(H:O1 (ob vb) W W')(O:Qv 3 base W' E bad')(S:∀b∈ob E,b∈ob vb\/W.heap.size<=b):CmI b2 base W' xa st xm E ve bad' es :=
 ⟨h.B.J H (Zh h.b G),O,Qf h.e H (λb G T=>h.dj b T G),λb V I=>(S b V).elim (λJ=>h.dj b J I) (λJ=>ot (Zf h.e b I)),h.bd⟩
theorem CmI.addE {base:Nat}{W W1:OX}{xa:OY}{st:Int}{xm G:OY}{bad:LI}{e:Ed}(h:CmI b2 base W xa st xm vb ve bad es)(I:b2<base)(V:O1 (ob ve) W W1)(J:W1.ownsRow base 167 3 G (es.length+1) (es.flatMap QC++QC e))(Y:∀b∈ob G,b∈ob ve\/W.heap.size<=b)
  (O:O1 [b2] W1 W') (hB:Q9 W'.heap b2 59 [xa,oE oF st,xm,G]) (he:(0<=e.1/\e.1<1099511627776)/\0<=e.2.1/\e.2.1<1099511627776):CmI b2 base W' xa st xm vb G bad (es++[e]):=by
 have hge:=Qi J;refine⟨hB,Qf (Qf h.b V (λb I E=>h.dj b I E)) O (λb H E=>by have:=(Qi h.b b H).1;rw[Lb.1 E]at this;omega),?_,λb S ha=>(Y b ha).elim (λT=>h.dj b S T) (λT=>ot (Zf h.b b S)),λd hd=>?_⟩
 ·have h9:=Qf J O (λb H E=>by have:=(hge b H).1;rw[Lb.1 E]at this;omega);rw[Ll,LB];simpa using h9
 rcases Lc.1 hd with hd|hd
 ·exact h.bd d hd
 rw[Lb.1 hd];exact he
theorem CmI.stb {base:Nat}{xa:OY}{st:Int}{xm:OY}{bad:LI}:Yt B (λW=>CmI b2 base W xa st xm vb ve bad es):=
 λW W' X h E G=>⟨Yt.blk W W' X h.B E G,Yt.row W W' X h.b E G,Yt.row W W' X h.e E G,h.dj,h.bd⟩
theorem Qb0 {c:CL}(h0:ZJ [] w.heap c)(kk:Kb w 4096)(kn:YS c.V=0)(Y:(spc c.V).a.st<4096)(h1:Qeh c.V=true):
  Q3 prog 135 [c.val] w λr w'=>O1 [] w w'/\∃xa xm xe vb,r=.tuple #[.agg #[xa,oE oF ((spc c.V).a.st+1),xm,xe],vb,oE oF 0]/\Zp [xa,xm,xe]/\Qv 3 w.heap.size w' vb (cmB c.V):=by
 refine Q3.of_G 20 func135 U ntmps135 results135 oe ?_;refine Zg<|QL ol ol<|Qe<|QW (us:=c.cells) U λb1 w1 m9 hb1 ko=>Qe<|Qo (us:=X4) U λb2 w2 kq hb2 kr=>x Ql<|Qb ?_;have hM:=m9.D kq;have hl1:=ko.lt;have pa:=kr.lt;have pc:=ko.I kq;have kt:ZJ [b2] w2.heap c:=(h0.up (L':=[b2]) (λb G=>.inr (by rw[Lb.1 G];omega))).I hM;refine Zg<|QL ol ol<|Q6 pc U U<|ZO<|(QbP (h0.I hM) (kk.I hM)).mono ?_;rintro r3 w3 ⟨gn,vp,rfl,_,pd⟩;obtain⟨b,q,rfl,rfl,J,_,pf⟩:=pd kn;rw[kn];have hw:=hM.D gn;have ku:JI [b2] b w3.heap q:=(pf [b2] (λx hx=>by rw[Lb.1 hx];exact pa)).2 kt;have hsp:=Qcc J.p J.s;have hst':q.s.a.st<4096:=by rw[hsp]at Y;exact Y
 have pg:cmB q.c.V=cmF q.c.V ((q.ts.map (·.2)).map (·.take q.c.V.co.length))++[q.s.a.st]:=by unfold cmB;rw[J.s]
 have ph:∀t∈q.ts.map (·.2),(wrf q.c.V.rq (t.drop q.c.V.co.length) (enb q.p.a (plx (q.qs.map (·.2)) (t.take q.c.V.co.length)))).length<=1:=λt ht=>by
  unfold Qeh at h1;rw[J.p,J.s]at h1;exact OU (Mg.1 h1 t ht)
 have pj:(spc q.c.V).a.st=q.s.a.st:=by rw[hsp]
 rw[pj,pg];refine Qa<|QZ U U<|QZ U U<|x Ql<|Qb<|Zg<|Zg<|QL ol ol<|Qa<|ZB U U<|xe<|Vk rfl<|YG ?_;refine Zg<|QL ol ol<|Qa<|Yl U<|Q7 U<|Qs U ku.B U U<|Qe<|Qo (us:=[oE oF 0]) U λb6 w4 pm pn po=>Qe<|QE (j:=0) (u:=oE oF q.s.a.st) po U U oe rfl λE pp kv=>xe ?_;have hO:O1 [] w3 E:=pm.O pp pn;have hn:=ku.I hO;have hz3:=gn.size;have kw:=kv.lt;have pu:Q9 E.heap b2 59 X4:=(kr.I gn).I hO;have hP:Q9 E.heap b6 3 [oE oF q.s.a.st]:=kv;have hst0:0<=q.s.a.st:=by
  have:=(Jh (λa T=>by
   rcases Lc.1 T with T|T
   ·exact YQ (ZZ J.ok).co a T
   exact YQ (ZZ J.ok).rq a T) J.s).1.st
  omega
 refine Zg<|Zg<|QL ol ol<|X2 hP U U<|x (Yw U U)<|xe<|QlM U (λkx=>OS (show q.s.a.st≥4096 from kx) oa) (λkx=>?_);refine YG ?_;have go:O1 [] E { E with drawn:=E.drawn+1 }:=O1.C _ _
 refine Zg<|ym (O1 [] E) [oC 0,oC 1,oC 2,oC 3,oC 4,oC 6,oC 7,oC 8,oC 9,oC 10,oC 11,oC 12,oC 14,oC 15,oC 16,oC 17,oC 18,oD 5,oD 13,oD 19,oC 20,oD 21] mixed ol ol od go ?_;refine p QF<|p (Y9 U)<|p (QR U)<|p (QR U)<|pq (λ_ S=>Qr (hn.B.I S) U U)<|pq (λ_ S=>Qr (hP.I S) U U)<|p (λ_=>Xu U U ⟨oa,oa⟩)<|p QF<|p (Y9 U)<|p (QR U)<|p (QR U) <|
  pq (λ_ S=>Qr (hn.B.I S) U U)<|p QF<|p (Y9 U)<|p (QR U)<|p (QR U)<|pq (λ_ S=>Qr (hn.B.I S) U U)<|pk<|xf<|(Z5 (hn.s.al.I go)).mono ?_
 rintro xa w6 ⟨pw,gp⟩;have gq:=go.D pw;refine⟨gq,?_⟩;refine pk<|xf<|(Z5 (hn.s.mr.I gq)).mono ?_;rintro xm w7 ⟨pz,gr⟩;have hR:=gq.D pz;refine⟨hR,?_⟩;refine pk<|xf<|(Ko (hn.s.ed.I hR)).mono ?_;rintro hS w8 ⟨p0,hT⟩;have gs:=hR.D p0;refine⟨gs,?_⟩;refine p (λ_=>Qy ⟨xH gp,U,xH gr,xH hT,Z⟩)<|pkl (hl:=by kernel_rfl)<|Qj (us:=[xa,oE oF (q.s.a.st+1),xm,hS]) (pu.I gs) U U U U ⟨Qu gp,U,Qu gr,Qu hT,Z⟩ λw9 kz p1=>pe ?_;have k0:O1 [b2] E w9:=gs.any.Q kz;have hz7:=hR.size;have h8:b2<E.heap.size:=oa
 have k4:=hn.st k0;have hU:Zp [xa,xm]:=⟨Qu gp,Qu gr,Z⟩;have p2:w9.ownsRow E.heap.size 167 3 hS q.s.a.ed.length (q.s.a.ed.flatMap QC):=Qf (Zy hT oa) kz (λb G H=>by have:=(Qi hT b G).1;rw[Lb.1 H]at this;omega);have hy:=ZZ J.ok;have hA:∀a∈O3 q.c.V.co++O3 q.c.V.rq,ZD a:=λa T=>by
  rcases Lc.1 T with T|T
  ·exact YQ hy.co a T
  exact YQ hy.rq a T
 have gt:=(Jh hA J.s).1.okay hA;have p3:∀e∈q.s.a.ed,(0<=e.1/\e.1<1099511627776)/\0<=e.2.1/\e.2.1<1099511627776:=λe he=>by
  have h1:=gt.ed e he;have h2:=gt.al _ h1.2.2.1;omega
 have p4:CmI b2 E.heap.size w9 xa (q.s.a.st+1) xm Z8 hS [] q.s.a.ed:=⟨p1,QJ _ _ _ _,p2,λb G=>(by cases G),p3⟩;have p5:=gt.ed_le;have k5:=qD hA J.s;have k6:=k5.1;have p6:=k5.2;simp only[]at k6 p6;have hckc:=hy.c8;have hX:q.c.V.co.length=q.c.co.length:=Lh ..;have p7:q.c.V.rq.length=q.c.rq.length:=Lh ..;have hcr:=hy.cr;have p8:(O3 q.c.V.co++O3 q.c.V.rq).length=q.c.co.length+q.c.rq.length:=by rw[Ll];unfold O3;rw[Lh,Lh,hX,p7]
 refine Zg<|Zg<|QL ol ol<|Qa<|Yl U<|Qs U k4.B U U<|QI k4.ts.arr U<|Qa<|xe<|Zo ((q.ts.map (·.2)).map (·.take q.c.V.co.length)) λtcs gu=>?_;rw[gu];have htcl:tcs.length=q.ts.length:=by rw[<-gu,Lh,Lh]
 have hTn:q.ts.length<=4096:=by have h2:=(Jh hA J.s).1.st;have h3:(q.ts.map (·.2)).length=q.ts.length:=Lh ..;omega
 refine Z7<|U4 (α:=Nat×OY×OY×List Ed) [(3,3),(7,16),(60,109)] (λz=>[(3,z.2.1),(60,oE oF z.1)])
  (λz ds W'=>z.1<=q.ts.length/\O1 [b2] E W'/\UB E.heap.size W'.heap.size ds W'/\CmI b2 E.heap.size W' xa (q.s.a.st+1) xm z.2.1 z.2.2.1 (cmF q.c.V (tcs.take z.1)) z.2.2.2/\z.2.2.2.length<=131072+z.1)
  (λz=>q.ts.length - z.1) ol (0,Z8,hS,q.s.a.ed) oz ⟨Lo _,k0,⟨ME,λD hD=>by cases hD⟩,p4,p5⟩ ?_
 rintro⟨k,vb,ve,es⟩ g ds hz ⟨hk,hB,k7,I,p9⟩;simp only[]at hk I p9;have hz10:=hB.size;have hY:=Qlu q.c.V (tcs.take k);rw[Ly]at hY;refine Zg<|QL ol ol<|Q0 U U<|xe<|Zg<|jH U (λk8=>?_) (λk8=>?_)
 ·refine K6 ?_;rw[Lr oa]at I hY;refine Zo (cmF q.c.V tcs) λbad hZ=>?_;rw[hZ]at I hY;have gv:b2∉ob ve:=Zh I.e h8;have qc:b2∉ob vb:=Zh I.b h8;have ga:b6∉[b2]:=om
  have qo:b6∉ob ve:=Zh I.e kw;have qr:b6∉ob vb:=Zh I.b kw;refine Zg<|QL ol ol<|Qs U I.B U U<|ZO<|(QeG I.e oa I.bd).mono ?_;rintro r11 h4 ⟨ho,hh,hp,_,ho11⟩;refine xe ?_;have gb:=I.B.J ho gv;have gw:=(hP.J hB ga).J ho qo;have gx:=Qf I.b ho (λb G H=>I.dj b G H);have hz11:=ho.size;have hs:=Qi I.e;have hC:=Qi gx;have q0:UB E.heap.size hz.heap.size ds h4:=k7.J ho (Go.Lg.QU I.e);refine Zg<|ym (λw'=>O1 (b2::ob vb) h4 w'/\Q9 w'.heap b2 59 [xa,oE oF (q.s.a.st+1),xm,ve]/\Q9 w'.heap b6 3 [oE oF q.s.a.st]) [oC 0,oC 1,oC 2,oD 3,oD 4,oD 5,oC 6,oC 7] mixed ol ol od ⟨O1.C _ _,gb.I (O1.C _ _),gw.I (O1.C _ _)⟩ ?_;refine pq (λ_ S=>ZT S.2.1 U U)<|p QF<|pq (λ_ S=>Qr S.2.2 U U)<|pk<|QB (us:=[[oE oF q.s.a.st]]) U U og oe ⟨rfl,rfl,Z⟩ λb116 gy gz hb116 q1=>?_;have h5:=(O1.C [] h4).D gz;have hz12:=h5.size;refine⟨⟨h5.any,gb.I h5,gw.I h5⟩,?_⟩;refine pk<|Zb (m:=1) (news:=[oE oF q.s.a.st]) (L:=[]) (Qq gx h5) U U U (q1.at oe) (by simp[Value.oneCell']) oa oa λk9 hE ma gc hn13=>?_;have gg:O1 (ob vb) h4 hE:=h5.any.Q gc;have mf:=gb.J gg qc;have mg:=gw.J gg qr;refine⟨⟨gg.mono (λb G=>Lj _ G),mf,mg⟩,?_⟩;refine pk<|Qj (us:=[xa,oE oF (q.s.a.st+1),xm,ve]) mf U U U U ⟨hU.1,U,hU.2.1,Qu I.e,Z⟩ λhf O mh=>?_;have g0:O1 (b2::ob vb) h4 hf:=(gg.mono (λb G=>Lj _ G)).Q (O.mono oe);refine⟨⟨g0,mh,mg.J O ga⟩,?_⟩;refine p ZM<|p ZM<|pe ?_;have q2:=Qf ma O (λb G H=>by have:=(Qi ma b G).1;rw[Lb.1 H]at this;omega);have hu:UB E.heap.size hz.heap.size ds hf:=q0.J g0 (λb G=>by
   rcases Li.1 G with rfl|G
   ·exact gb.cells
   exact Go.Lg.QU gx b G)
  have q3:b2∉ds:=λH=>ot (hu.2 b2 H).1
  have hG:O1 [] w hf:=(((hw.D hO).O hB oa).then ho (λb G=>.inr (ou (hs b G).1 hw.size))).then g0 (λb G=>.inr (by
   rcases Li.1 G with rfl|G
   ·omega
   have:=(hC b G).1;have:=hw.size;omega))
  refine K5 ⟨λD hD=>(hu.2 D hD).2.2,hu.1,[.agg #[xa,oE oF (q.s.a.st+1),xm,ve],k9,oE oF 0],λW' g4=>?_⟩;refine⟨⟨⟨_,U,Qn U ((mh.J g4 q3).at (L:=[]) oe).cells⟩,rfl,rfl,Z⟩,hG.then g4 (λD hD=>.inr (ou (hu.2 D hD).1 hw.size)),xa,xm,ve,k9,U,⟨hU.1,hU.2.1,Qu I.e,Z⟩,?_⟩;have h9:=Qv.snoc q2;have mi:=Qf h9 g4 (λb G H=>by
   obtain⟨o,g1,g2⟩:=Go.Lg.QU h9 b G;rw[(hu.2 b H).2.2]at g1;cases g1
   cases g2)
  rw[<-hZ]at mi;exact Zy mi (ot hw.size)
 have hH:k<q.ts.length:=by have h62:(k:Int)<(q.ts.length:Int):=k8;omega
 have mj:k<tcs.length:=oa
 have hg:=Qiw (c:=q.c.V) mj;have q4:tcs[k]'mj=(q.ts[k]'hH).2.take q.c.V.co.length:=by subst gu;simp
 have gh:=Lk hH;have hI:=k6 _ (LJ (f:=(·.2)) gh);have hv:=ph _ (LJ (f:=(·.2)) gh);rw[q4]at hg;refine Zo (cmF q.c.V (tcs.take k)) λbad hZ=>?_;rw[hZ]at I hY hg;refine Zo (ob vb++ob ve) λav g5=>?_;have hC:=Qi I.b;have hs:=Qi I.e;have q6:∀x∈av,E.heap.size<=x/\x<hz.heap.size:=λx hx=>by
  rw[<-g5]at hx;exact(Lc.1 hx).elim (hC x) (hs x)
 have za:JI (b2::av) b E.heap q:=hn.up (λx hx=>by
  rcases Li.1 hx with rfl|hx
  ·exact .inl Lq
  exact .inr (q6 x hx).1)
 have gi:JI (b2::av) b hz.heap q:=za.st (hB.mono oe);refine Zo (cmF q.c.V (tcs.take (k+1))) λg6 mn=>?_;rw[mn]at hg;refine YG<|Qew (α:=OY×OY×List Ed) [(3,3),(7,16),(61,109)] (λz=>[(3,z.1),(60,oE oF k)]) (λz h6 W'=>O1 [b2] E W'/\UB E.heap.size W'.heap.size h6 W'/\CmI b2 E.heap.size W' xa (q.s.a.st+1) xm z.1 z.2.1 g6 z.2.2/\z.2.2.length<=131072+(k+1)) ol ?_ ?_
 rotate_left
 ·rintro⟨gj,hq,hh⟩ g h6 W ⟨zb,zv,z0,z1⟩;refine QL ol ol<|QS U U<|Qa<|xe ?_;exact⟨(k+1,gj,hq,hh),oh,oz,hH,zb,zv,by simp only[];rw[mn];exact z0,z1⟩
 refine Z7<|Zg<|QL ol ol<|Qa<|O4 (g:=YE) VA gi.ts.arr U U hH λa63 mo=>?_;refine Zo (q.ts[k]'hH) λt ht=>?_;rw[ht]at mo gh hI hv hg;have z2:=gi.ts.each t gh;have htl:t.2.length=q.c.co.length+q.c.rq.length:=by rw[hI.1,p8]
 refine x (QA mo U)<|Qe<|Qo (us:=[oE oF 0]) U λb7 h4 ho z3 z4=>Qe<|QE (j:=0) (u:=oE oF k) z4 U U oe rfl λgy gz z5=>Qb ?_;have g7:O1 [] hz gy:=ho.O gz z3;have hB712':Q9 gy.heap b7 3 [oE oF k]:=z5;refine Zg<|QL ol ol<|Qa<|Qa<|ZO<|(QaO (gi.I g7) (z2.I g7) oa).mono ?_;rintro r13 hE ⟨gc,v9,mq,rfl,g8,ms⟩;refine Qa<|QZ U U<|QZ U U<|x Ql<|Qb ?_;have hJ:=g7.D gc;have mt:=gi.I hJ;rw[hX]at hv hg;refine Zo (t.2.take q.c.co.length) λtc gk=>?_;refine Zo (t.2.drop q.c.co.length) λtr mu=>?_;rw[gk]at g8 hv hg;rw[mu]at ms hv;have htcl2:tc.length=q.c.co.length:=by rw[<-gk,Ly];omega
 have hbdt:=hI.bd (m:=4096) (λa T=>(hA a T).st1);have mv:∀x∈tc,0<=x/\x<4096:=λx hx=>hbdt x (LZ (by rw[gk];exact hx));have hVc:Vt (O3 q.c.V.co) tc:=by
  have h1:=hI.take;rw[show(O3 q.c.V.co).length=q.c.co.length by unfold O3;rw[Lh];exact hX,gk]at h1;exact h1
 have hVr:Vt (O3 q.c.V.rq) tr:=by
  have h1:=hI.drop;rw[show(O3 q.c.V.co).length=q.c.co.length by unfold O3;rw[Lh];exact hX,mu]at h1;exact h1
 have gl:JI [] b hE.heap q:=mt.up oe;have hvo:=qd gl.k1 gl.k2 gl.k3 (g8.up (L':=[]) oe) (by rw[J.ex,J.cs];exact hy.cd) hVc.tpOk;rw[J.ex,J.cs]at hvo;refine Zo (VW q.c.V.ex q.c.V.cs tc) λV hV=>?_;rw[hV]at hvo hg;have g9:=I.I hJ;have hz13:=hJ.size;have mw:=hB712'.I gc;refine Qew (α:=OY) [(3,3),(11,14),(71,86)] (λz=>[(3,z)]) (λz h6 W=>h6=ds/\O1 (ob vb) hE W/\Qv 3 E.heap.size W z g6/\∀x∈ob z,x∈ob vb\/hE.heap.size<=x) ol ?_ ?_
 ·refine Zg<|QL ol ol<|Qa<|Yl U<|Q7 U<|x (Zs (us:=[q.vs,q.vx,q.vk]) gl.B U U U)<|Qa<|ZO<|hvo.mono ?_;rintro r14 hf ⟨O,rfl⟩;refine Qa<|QZ U U<|QZ U U<|QZ U U<|QZ U U<|x Ql<|x Ql<|x Ql<|Qb<|Zg<|QL ol ol<|Qa<|xe ?_;have my:=Qq g9.b O;refine VR U (λka=>?_) (λka=>?_)
  ·rw[OQ ka]at hg;refine QL ol ol<|Qa<|X2 (mw.I O) U U<|Qe<|QB (us:=[[oE oF k]]) U U og oe ⟨rfl,rfl,Z⟩ λb85 y1 hi hb85 hB85=>?_;have zy1:=hi.size;have hz14:=O.size;refine Qe<|Zb (m:=1) (news:=[oE oF k]) (L:=[]) (Qq my hi) U U U (hB85.at oe) (by simp[Value.oneCell']) oa oa λz y2 gm hK kb=>Qb<|⟨z,⟨rfl,Z⟩,rfl,(O.D hi).any.Q hK,by rw[hg];exact Qv.snoc gm,λx hx=>(kb x hx).imp id (λh=>oa)⟩
  rw[OP (by rw[ka];decide),LK]at hg;refine YG ?_;exact⟨vb,La,U,O.any,by rw[hg];exact my,λx hx=>.inl hx⟩
 rintro gj g h6 hf ⟨rfl,O,hbO,hbn⟩;have hI14:=g9.addB h8 O hbO hbn;have hz14:=O.size;have kc:∀x∈ob vb,x∈b2::av:=λx hx=>Lj _ (by rw[<-g5];exact Lc.2 (.inl hx));have mz:∀x∈b2::ob ve,x∈b2::av:=λx hx=>by
  rcases Li.1 hx with rfl|hx
  ·exact Lq
  exact Lj _ (by rw[<-g5];exact Lc.2 (.inr hx))
 have ke:=mt.st (O.mono kc);have hI9a:=g8.st (O.mono kc);have m2:=ms.st (O.mono kc);have hG:O1 [b2] E hf:=(hB.D hJ.any).then O (λx hx=>.inr (hC x hx).1);have hs014:O1 [] w hf:=(hw.D hO).O hG oa;have hn7b:b7∉ob vb:=λH=>ot (hC b7 H).2
 have ga:b6∉[b2]:=om
 have hB714:=mw.J O hn7b;have hB614:=hP.J hG ga;have hu:UB E.heap.size hz.heap.size h6 hf:=(k7.I hJ).J O (Go.Lg.QU g9.b);refine Zg<|ym (O1 [] hf) [oC 0,oC 1,oC 2,oC 3,oC 4,oD 5,oC 6,oC 7] mixed ol ol od (O1.C _ _) ?_;refine p QF<|p (Y9 U)<|p (QR U)<|pq (λ_ S=>Qr (ke.B.I S) U U)<|p QF<|pk<|xf<|(Qan (hI9a.I (O1.C _ _)) ((kk.I hs014).I (O1.C _ _)) mv oa).mono ?_;rintro r15 w15 ⟨rfl,hs15⟩;have kf:=(O1.C [] hf).D hs15;refine⟨kf,?_⟩;have m3:(match O6 q.mm (Kz tc)with|some u=>u|none=>oE oF 0)=oE oF (plx (q.qs.map (·.2)) tc):=by
  rw[J.m tc htcl2 (λx hx=>(mv x hx).1)];unfold plx;by_cases H:tc∈q.qs.map (·.2)
  ·rw[OQ H,OQ H]
  rw[OP H,OP H]
 have hL:=Qa1 J.ok J.p;have m4:=QgV hL.2.2.1 tc;refine Zo (plx (q.qs.map (·.2)) tc) λpi hpi=>?_;rw[hpi]at m3 hv m4;rw[<-hL.2.1]at m4;have hckp:cks q.p.a pi=0:=by
  unfold cks;rw[OP (by rw[(Z0 q.p.a).2 hL.1];decide),OP oa]
 refine pq (λ_ S=>(Ji (k:=Kz tc) (ke.m.I S) U U).D (OR (λv=>Result.ok (Next.value v) _) m3))<|p ZM<|pe ?_;refine Zg<|QL ol ol<|Qa<|Qa<|Qa<|ZO<|(U6 (b:=b) (st:=pi) (vr:=mq) m2.cells).mono ?_;rintro r16 h7 ⟨hs16,c1,c2,c3,rfl,hc1,kt,hc3,hR1,hR2,hR3⟩;refine xe ?_;have hr:=kf.D hs16;have hz1415:=kf.size;have hz16:=hr.size;have kg:=hI14.I hr;have hD16:=hu.I hr;have hB716:=hB714.I hr;have hB616:=hB614.I hr;have hs516:O1 [b2] E h7:=hG.D hr.any;refine Zo (wrf q.c.V.rq tr (enb q.p.a pi)) λfl kh=>?_;rw[kh]at hv;have ki:∀x∈b2::ob ve,x<hf.heap.size:=λx hx=>by
  rcases Li.1 hx with rfl|hx
  ·omega
  have:=(hs x hx).2;omega
 have hSt16:JI (b2::ob ve) b h7.heap q:=(ke.I hr).up (λx hx=>.inl (mz x hx));have hIr16:QP (b2::ob ve) h7.heap mq tr:=(m2.I hr).up (λx hx=>.inl (mz x hx));have hEv:∀p∈fl,0<=p.1/\p.1<32:=λp hp=>by
  rw[<-kh]at hp;have g1:=(qC.1 hp).1;unfold enb at g1;obtain⟨e,he,g2⟩:=LC.1 g1;have g3:=hL.1.al _ (hL.1.ed e (ZU he).1).2.2.1;rw[g2]at g3;exact g3
 have hn7L:b7∉b2::ob ve:=λH=>by
  rcases Li.1 H with g1|g1
  ·omega
  have:=(hs b7 g1).2;omega
 have hn6L:b6∉b2::ob ve:=λH=>by
  rcases Li.1 H with g1|g1
  ·omega
  have:=(hs b6 g1).1;omega
 have gv:b2∉ob ve:=Zh I.e h8;have hb016:E.heap.size<=h7.heap.size:=oa
 have hel2:es.length+1<=1099511627776:=oa
 have hkb2:(0:Int)<=(k:Int)/\(k:Int)<1099511627776:=oa
 refine Z7<|QbY (α:={ x:Int×Int // x∈fl }) (b2::ob ve) oa (capt:=[.pointer (some ⟨c1,0,none⟩),.pointer (some ⟨c2,0,none⟩),.pointer (some ⟨c3,0,none⟩)]) U (encs:=λx=>[oE oF x.1.1,oE oF x.1.2]) og (λ_=>U)
  (V2 hR1 hR2 hR3 (λH=>ot (ki _ H)) (λH=>ot (ki _ H)) (λx hx=>ot (ki _ hx)) hSt16 hIr16 (λx hx=>hy.rq x.it (LJ hx)) hVr hckp U kh)
  (λpre W=>∃hq hh,O1 (b2::ob ve) h7 W/\CmI b2 E.heap.size W xa (q.s.a.st+1) xm gj hq g6 hh/\(pre=[]->hq=ve/\hh=es)/\hh.length<=es.length+pre.length)
  (λpre=>Yt.ex λhq=>Yt.ex λhh=>(Yt.J (Lv _)).and (CmI.stb.and ((Yt.pure _).and (Yt.pure _))))
  (λ_ _ _=>False) (λ_ _=>Yt.pure _)
  ⟨ve,es,O1.Z _ _,kg,λ_=>⟨U,U⟩,Lv _⟩
  (λf x f' W=>f'=upd (upd (upd f 98 (oE oF x.1.1)) 99 (oE oF x.1.2)) 16 (oE oF x.1.1)) (λx f'=>Yt.pure _) ?_ ?_ ?_ ?_
 ·rintro l pre ⟨⟨e,i⟩,he⟩ W hW;refine QL ol ol<|Qb<|⟨U,Ks.refl _ _ _,Lg.XD.refl _ _,hW,U⟩
 ·rintro l pre ⟨⟨e,i⟩,he⟩ f' W ⟨hq,hh,Y,hj,m5,hlen⟩ rfl hN;have m6:pre=[]:=Ls (Nat.lt_one_iff.1 (LT hN hv));have hv1:=(m5 m6).1;have hv2:=(m5 m6).2;rw[hv1,hv2]at hj;have m7:=Y.size;have hee:=hEv _ he;simp only[]at hee;refine Z7<|QL ol ol<|Qs U hj.B U U<|X2 (hB716.J Y hn7L) U U<|Qa<|X2 (hB616.J Y hn6L) U U<|x (Qy ⟨U,U,U,Z⟩)<|Qe<|QB (us:=[QC ((k:Int),e,q.s.a.st)]) U U og (by exact(by decide:1*3<=1000000)) oz λb106 y1 hi hb106 hB106=>?_;have zy1:=hi.size;refine Qe<|Zb (m:=1) (news:=QC ((k:Int),e,q.s.a.st)) (L:=[]) (Qq hj.e hi) U U U (hB106.at oe) (by simp[QC,Value.oneCell']) hel2 oa λu y2 gm hK kb=>?_;refine Q7 U<|Qe<|QE (u:=u) ((hj.B.I hi).J hK gv) U U oe (Qu gm) λy3 m8 hB3=>xe ?_;have kj:O1 (b2::ob ve) W y3:=(hi.any.Q (hK.mono λx hx=>Lj _ hx)).Q (m8.mono oe);have hnw:∀x∈ob u,x∈ob ve\/W.heap.size<=x:=λx hx=>(kb x hx).imp id (λh=>oa);refine⟨Ks.J kj m7 (λx hx=>⟨.inl hx,?_⟩),Lg.XD.J kj,u,es++[((k:Int),e,q.s.a.st)],Y.Q kj,hj.addE h8 (hi.any.Q hK) gm hnw m8 hB3 ⟨hkb2,oh⟩,λh=>OS h oe,by simp only[oL,oN];omega⟩;rcases Li.1 hx with rfl|hx
  ·exact hj.B.cells
  exact Go.Lg.QU hj.e x hx
 ·rintro D xs W hD hxs ⟨hq,hh,Y,hj,_,hlen⟩ hdD;have hxl:xs.length=fl.length:=by have g1:=OR oO hxs;rw[Lh]at g1;exact g1
  have m7:=Y.size;refine⟨(gj,hq,hh),oz,hs516.then Y (λx hx=>?_),((hD16.J Y (λx hx=>?_)).up oa).cons oa (show h7.heap.size<=D from hD) hdD,hj,oh⟩
  ·rcases Li.1 hx with rfl|hx
   ·exact .inl Lq
   exact .inr (hs x hx).1
  rcases Li.1 hx with rfl|hx
  ·exact kg.B.cells
  exact Go.Lg.QU kg.e x hx
 rintro D e pre W hD hSp hF;exact hF.elim
section
variable {pS:String}
end
theorem Qh4 (e:J1):∀u∈Zw e,u.oneCell'=true:=by
 intro y E;simp only[Zw,oK,oI,or_false]at E;rcases E with rfl|rfl|rfl|rfl|rfl <;> rfl
theorem QkM {q:IV}(G:q.p.va.oneCell'=true)(H:q.p.vm.oneCell'=true)(I:q.p.ve.oneCell'=true):∀u∈QO q,u.oneCell'=true:=by
 intro y E;simp only[QO,oK,oI,or_false]at E;rcases E with rfl|rfl|rfl|rfl|rfl
 ·rfl
 ·exact G
 ·rfl
 ·exact H
 exact I
theorem QhB {base:Nat}{q:IV}(h:∀L:LN,(∀b∈L,b<N)->ZH L H q.p.va q.p.vm q.p.ve q.p.a)(G:base<=N)(I:∀b∈av,b<N):∀t∈QkN q,YH base av H t.1 t.2.1 t.2.2.1 t.2.2.2:=by
 intro t J;simp only[oK,oI,or_false]at J;rcases J with rfl|rfl|rfl
 ·exact YH.of_lt (λL E=>(h L E).al) G I
 ·exact YH.of_lt (λL E=>(h L E).mr) G I
 exact YH.of_lt (λL E=>(h L E).ed) G I
section
variable {base:Nat}{vc vc' va':OY}{co:List IV}
end
structure GdA (a:Q2):Prop where
 ok:ZD a
 p:0<a.st
 s:a.st<=3
 c:∃a0:Q2,ZD a0/\0<a0.st/\a=Xp a0
theorem QiL (G:ZD a)(h:0<a.st):0<(Xp a).st:=by
 show 0<((xh a).length:Int);have E:(0:Int)∈xh a:=by
  have key:∀(f i:Nat) (out:LI),(0:Int)∈out->(0:Int)∈ji a f i out:=by
   intro f;induction f with
   | zero=>intro i out h;exact h
   | succ f ih =>
    intro i out h;rw[ji];split
    ·exact ih _ _ (Qah _ _ _ h)
    exact h
  refine key _ _ _ ?_;unfold fd0;rw[OQ h];simp
 have:=List.length_pos_of_mem E;omega
open Go.RowKit
section
variable {all:xx}{C:xt}
end
section
variable {all:xx}{C J:xt}
end
end Go.Lg
namespace Go.Proofs
open Go.Proofs.Tryz
open Go.Shelf
def Tryz.sortRm_ren:Go.Shelf.Ren:=⟨λ|6=>240|15=>139|14=>275|28=>214|29=>215|20=>313|21=>314|22=>315|23=>316|24=>317|25=>318|26=>319|27=>320|46=>339|47=>268|48=>269|49=>340|50=>341|57=>349|n=>n,λ|22=>86|24=>241|25=>390|3=>3|39=>285|0=>0|53=>367|55=>369|4=>4|46=>361|45=>360|50=>236|5=>5|9=>9|66=>421|70=>425|76=>452|77=>411|n=>n,λ|n=>n⟩
theorem Tryz.sortRm:Go.Proofs.SlLaysF0.n6 prog Tryz.sortRm_ren:={
 mixed:=od
 f6:=⟨Tryz.f240.name,og,func240.D (OR some od)⟩
 f14:=⟨Tryz.f275.name,og,func275.D (OR some od)⟩
 f15:=func139.D (OR some od)
 f20:=⟨Tryz.f313.name,og,func313.D (OR some od)⟩
 f21:=⟨Tryz.f314.name,og,func314.D (OR some od)⟩
 f22:=⟨Tryz.f315.name,og,func315.D (OR some od)⟩
 f23:=⟨Tryz.f316.name,og,func316.D (OR some od)⟩
 f24:=⟨Tryz.f317.name,og,func317.D (OR some od)⟩
 f25:=⟨Tryz.f318.name,og,func318.D (OR some od)⟩
 f26:=⟨Tryz.f319.name,og,func319.D (OR some od)⟩
 f27:=⟨Tryz.f320.name,og,func320.D (OR some od)⟩
 f28:=func214.D (OR some od)
 f29:=func215.D (OR some od)
 f46:=⟨Tryz.f339.name,og,func339.D (OR some od)⟩
 f47:=func268.D (OR some od)
 f48:=func269.D (OR some od)
 f49:=⟨Tryz.f340.name,og,func340.D (OR some od)⟩
 f50:=⟨Tryz.f341.name,og,func341.D (OR some od)⟩
 f57:=⟨Tryz.f349.name,og,func349.D (OR some od)⟩
 t0:=underlying0
 a0:=isAgg0
 z0:=sizeOf0
 v0:=zeroValue0
 t3:=underlying3
 a3:=isAgg3
 z3:=sizeOf3
 v3:=zeroValue3
 t4:=underlying4
 a4:=isAgg4
 z4:=sizeOf4
 v4:=zeroValue4
 t5:=underlying5
 a5:=isAgg5
 z5:=sizeOf5
 v5:=zeroValue5
 t9:=underlying9
 a9:=isAgg9
 z9:=sizeOf9
 v9:=zeroValue9
 t22:=underlying86
 a22:=isAgg86
 z22:=sizeOf86
 v22:=zeroValue86
 t25:=underlying390
 a25:=isAgg390
 z25:=sizeOf390
 v25:=zeroValue390
 t39:=underlying285
 a39:=isAgg285
 z39:=sizeOf285
 v39:=zeroValue285
 t45:=underlying360
 a45:=isAgg360
 z45:=sizeOf360
 v45:=zeroValue360
 t46:=underlying361
 a46:=isAgg361
 z46:=sizeOf361
 v46:=zeroValue361
 t50:=underlying236
 a50:=isAgg236
 z50:=sizeOf236
 v50:=zeroValue236
 t53:=underlying367
 a53:=isAgg367
 z53:=sizeOf367
 v53:=zeroValue367
 t55:=underlying369
 a55:=isAgg369
 z55:=sizeOf369
 v55:=zeroValue369
 t66:=underlying421
 a66:=isAgg421
 z66:=sizeOf421
 v66:=zeroValue421
 t70:=underlying425
 a70:=isAgg425
 z70:=sizeOf425
 v70:=zeroValue425
 t76:=underlying452
 a76:=isAgg452
 z76:=sizeOf452
 v76:=zeroValue452
 t77:=underlying411
 a77:=isAgg411
 z77:=sizeOf411
 v77:=zeroValue411 }
end Go.Proofs
namespace Go.Lg
def fst (a:Q2):Int:=if a.st=0 then -1 else 0
def cdA (c:Zx):Q2:=jL (tgA c) [] (unc c.ev)
def ccA (c:Zx):Q2:=syA [tgA c,cdA c]
def own (c:Zx)(k:Bool):Q2:=if k=true then ccA c else tgA c
section
variable {pS:String}
theorem zp [h1:X7 P t]{x:OZ}{l:List Bool}{u:Bool}(E:Q9 w.heap b T (l.map Value.bool))(hx:ev f x=.pointer (some ⟨b,0+i*1,none⟩))(G:ev f y=.bool u)(hi:i<l.length)
  (hK:∀w',O1 [b] w w'->Q9 w'.heap b T ((l.set i u).map Value.bool)->K (QT f d undef) w'):XO P ⟨d,.store t x y,ty,pS,af,gd⟩ f w K:=by
 refine QE E hx G (oy hi) rfl λw' H I=>hK w' H ?_;rw[OL];simpa using I
theorem JN [X7 P t]{x:OZ}{l:List Bool}(h:Q9 w.heap b T (l.map Value.bool))(hx:ev f x=.pointer (some ⟨b,0+i*1,none⟩))(hi:i<l.length):
  (execOp (ev f) ⟨d,.load t x,ty,pS,af,gd⟩).run P w=.ok (.value (.bool (l[i]'hi))) w:=Qr h hx (by simp[hi])
variable {C:xt}
theorem pqB {b:Bool}(E:∀w',C w'->(execOp (ev f) (QV ops i)).run P w'=.ok (.value (.bool b)) w')(I:b=true->XP P ops C K pl (QT f (QV ops i).dst (.bool true)) w)(J:b=false->XP P ops C K pl (QT f (QV ops i).dst (.bool false)) w)
  (hd:UH (QV ops i)=true:=by rfl) (H:Ya ops f (QV ops i)=true:=by rfl):XP P ops C K ((i,true)::pl) f w:=by
 cases G:b with
 | true=>rw[G]at E;exact pq E (I G) hd H
 | false=>rw[G]at E;exact pq E (J G) hd H
end
def bA (n:Nat)(g:Nat->Bool):List Bool:=(oW n).map g
theorem QnJ (n:Nat)(g:Nat->Bool):(bA n g).length=n:=by simp[bA]
theorem QnI {g E:Nat->Bool}{u:Bool}(G:u=E i)(h:∀j,j<n->j≠i->E j=g j):(bA n g).set i u=bA n E:=by
 apply Mt
 ·simp[bA]
 intro k O H;rw[M1];have I:k<n:=by simpa[bA]using H
 by_cases e:i=k
 ·rw[OQ e,G,e];simp[bA]
 rw[OP e];have:=h k I (λJ=>e J.symm);simp[bA,this]
theorem Qen (n:Nat):(oM n (Value.bool false).cells.toList).flatten=(bA n (λi=>decide (i<0))).map Value.bool:=by
 apply Mt
 ·simp[Value.cells,bA]
 intro i E G;simp[Value.cells,bA]
theorem UN {l:Lf}(h:s.toNat<l.length):l[s.toNat]'h=lft l s:=by unfold lft;simp[oP,h]
theorem Qkx (n:Nat)(fb:LI):(lf0 n fb).length=n:=by unfold lf0;rw[zY];simp
instance:Bw prog 388 [nS,oE oF 0,nS,nS,nS,.map none,nS] [(0,4),(4,1),(5,1),(6,1)]:=⟨od,og⟩
structure Pz where
 va:OY
 vm:OY
 ve:OY
 a:Q2
 vu:OY
 unc:LI
 mb:Nat
 mm:List (Int×OY)
 bl:Nat
 n:Nat
 rv:Nat->OY
abbrev Pz.cells (p:Pz):LV:=[p.va,oE oF p.a.st,p.vm,p.ve,p.vu,.map (some p.mb),.slice (some ⟨p.bl,0,none⟩) p.n p.n]
structure PzA (L:LN)(H:xu)(bp:Nat)(p:Pz):Prop where
 B:Q9 H bp 388 p.cells
 bL:bp∉L
 a:ZH L H p.va p.vm p.ve p.a
 u:QP L H p.vu p.unc
 M:Yi VE H p.mb p.mm
 mL:p.mb∉L
 g:∀s,s<p.n->(match O6 p.mm ((s:Nat):Int)with|some u=>u|none=>nS)=p.rv s
 R:∀s,s<p.n->QP L H (p.rv s) (YZ p.a.ed s)
theorem PzA.I {L:LN}{w w':OX}{bp:Nat}{p:Pz}(h:PzA L w.heap bp p)(E:O1 [] w w'):PzA L w'.heap bp p:=⟨h.B.I E,h.bL,h.a.I E,h.u.I E,h.M.I E,h.mL,h.g,λs G=>(h.R s G).I E⟩
theorem PzA.st {L:LN}{w w':OX}{bp:Nat}{p:Pz}(h:PzA L w.heap bp p)(E:O1 L w w'):PzA L w'.heap bp p:=⟨h.B.J E h.bL,h.bL,h.a.st E,h.u.st E,h.M.J E h.mL,h.mL,h.g,λs G=>(h.R s G).st E⟩
theorem PzA.up {L L':LN}{H:xu}{bp:Nat}{p:Pz}(h:PzA L H bp p)(E:∀b∈L',b∈L\/H.size<=b):PzA L' H bp p :=
 ⟨h.B,λI=>by rcases E _ I with G|G;exact h.bL G;have:=h.B.lt;omega,h.a.up E,h.u.up E,h.M,λI=>by rcases E _ I with G|G;exact h.mL G;have:=h.M.lt;omega,h.g,λs J=>(h.R s J).up E⟩
structure PzQ (p:Pz):Prop where
 ok:ZD p.a
 n:p.a.st=(p.n:Int)
theorem Qgu {vr vu:OY}{rm unc:LI}(h:ZH [] w.heap va vm ve a)(h7:ZD a)(hn:a.st=(n:Int))(hr:QP [] w.heap vr rm)(gn:∀x∈rm,0<=x/\x<a.st)(hu:QP [] w.heap vu unc):
  Q3 prog 238 [.agg #[va,oE oF a.st,vm,ve],vr,vu] w λr w'=>O1 [] w w'/\∃bp p,r=.pointer (some ⟨bp,0,none⟩)/\p.a=a/\p.unc=unc/\p.n=n/\w.heap.size<=p.bl/\PzA [p.bl] w'.heap bp p/\Q9 w'.heap p.bl 4 ((lf0 n rm).map Value.bool):=by
 have kj:=h7.st1;have go:=h7.ed;have kk:=h7.ed_le;have kn:=hr.le;refine Zq func238 ?_;refine Qc<|Qe<|QW (us:=[va,oE oF a.st,vm,ve]) U λb3 H hh ko hz=>Qb ?_;have kq:=hz.lt;refine Za (α:=Nat×Nat×Nat) [(7,7),(13,20)] (λz=>[(7,.pointer (some ⟨z.1,0,none⟩))]) (λz w'=>O1 [] H w'/\Q9 w'.heap z.1 388 [va,oE oF a.st,vm,ve,vu,.map (some z.2.1),.slice (some ⟨z.2.2,0,none⟩) n n] /\
  Yi VE w'.heap z.2.1 []/\Q9 w'.heap z.2.2 4 ((bA n (λi=>decide (i<0))).map Value.bool)/\H.heap.size<=z.1/\H.heap.size<=z.2.1/\H.heap.size<=z.2.2/\z.1≠z.2.1/\z.1≠z.2.2/\z.2.1≠z.2.2) ol ?_ ?_
 ·have ha:O1 [] H { H with drawn:=H.drawn+1 }:=O1.C _ _
  refine QlH (O1 [] H) [oC 0,oC 1,oC 3,oC 4] 2 5 [oD 5,oC 6,oD 7,oC 8] [oD 2,oC 6,oD 7,oC 8] mixed ol od (O1.C _ _) ?_;refine pq (λ_ I=>ZT (hz.I I) U U)<|p QF<|p (QR U)<|pq (λ_ I=>Qr (hz.I I) U U)<|pe ⟨⟨U,?_⟩,U,?_⟩
  ·refine Yy VE λbm w2 T h8 hN=>⟨ha.D T,?_⟩;refine pk<|UJ (n:=n) (OR (Value.int .i64) hn) (OR (Value.int .i64) hn) oa λbl w3 V hbl hB=>⟨(ha.D T).D V,?_⟩;rw[Qen]at hB;refine p (λ_=>Zc [(0,[va,oE oF a.st,vm,ve]),(1,[vu]),(2,[.map (some bm)]),(3,[.slice (some ⟨bl,0,none⟩) n n])] ⟨U,U,hu.cells,U,U,U,U,U,Z⟩)<|pk <|
    QW (us:=[va,oE oF a.st,vm,ve,vu,.map (some bm),.slice (some ⟨bl,0,none⟩) n n]) U λbp w4 G hA O=>⟨((ha.D T).D V).D G,?_⟩
   refine p ZM<|pe ?_;have gp:=hN.lt;have gq:=hB.lt;have gr:({ H with drawn:=H.drawn+1 }:OX).heap.size=H.heap.size:=rfl
   exact⟨(bp,bm,bl),La,((ha.D T).D V).D G,O,(hN.I V).I G,hB.I G,oh,oh,oh,oh,oh,oh⟩
  refine UJ (n:=n) (OR (Value.int .i64) hn) (OR (Value.int .i64) hn) oa λbl w2 T hbl hB=>⟨ha.D T,?_⟩;rw[Qen]at hB;refine pk<|Yy VE λbm w3 V h8 hO=>⟨(ha.D T).D V,?_⟩;refine p (λ_=>Zc [(0,[va,oE oF a.st,vm,ve]),(1,[vu]),(2,[.map (some bm)]),(3,[.slice (some ⟨bl,0,none⟩) n n])] ⟨U,U,hu.cells,U,U,U,U,U,Z⟩)<|pk <|
   QW (us:=[va,oE oF a.st,vm,ve,vu,.map (some bm),.slice (some ⟨bl,0,none⟩) n n]) U λbp w4 G hA O=>⟨((ha.D T).D V).D G,?_⟩
  refine p ZM<|pe ?_;have gp:=hO.lt;have gq:=hB.lt;have gr:({ H with drawn:=H.drawn+1 }:OX).heap.size=H.heap.size:=rfl
  exact⟨(bp,bm,bl),La,((ha.D T).D V).D G,O,hO.I G,(hB.I V).I G,oh,oh,oh,oh,oh,oh⟩
 rintro⟨bp,bm,bl⟩ g w4 ⟨G,O,hC,hD,hA,h8,hbl,hP,hQ,hE⟩;simp only[]at O hC hD hA h8 hbl hP hQ hE;have kr:=O.lt;have kt:=hC.lt;have gs:=hh.D G;have hq:bp∉[bl]:=by simpa using hQ
 have hR:bm∉[bl]:=by simpa using hE
 refine Qd<|Qm<|Yl U<|Qs U O U U<|QI (L:=[]) (hD.arr oe (n:=n) (cap:=n) (sz:=1) (by simp[bA]) oa (Lv _)) rfl<|Qa<|xe<|Qg<|QD (α:=Nat) [(8,8),(26,35)] (λz=>[(26,oE oF z)]) (λz w'=>z<=n/\O1 [bl] w4 w'/\Q9 w'.heap bl 4 ((bA n (λi=>decide (i<z))).map Value.bool)) (λz=>n - z) ol 0 La ⟨Lo _,O1.Z _ _,hD⟩ ?_;rintro k g w5 ⟨hk,ht,hF⟩;refine Qc<|Q0 U U<|xe<|Qd<|QH U (λhS=>?_) (λhS=>?_)
 ·refine Qz ?_;have gt:bA n (λi=>decide (i<k))=(rm.take 0).foldl cut (oM n true):=by
   apply Mt
   ·simp[bA]
   intro i h1 h2;have:i<n:=by simpa[bA]using h1
   simp[bA];omega
  rw[gt]at hF;have hT:QP [bl] H.heap vr rm:=(hr.I hh).up (λb E=>.inr (by simp only[oH]at E;omega));have gu:ZH [bl] H.heap va vm ve a:=(h.I hh).up (λb E=>.inr (by simp only[oH]at E;omega));have hU:=O.J ht hq;refine Qd<|Qm<|QI ((hT.I G).st ht) U<|Qa<|xe<|Qg<|QD (α:=Nat) [(10,10),(38,48)] (λz=>[(38,oE oF z)]) (λz w'=>z<=rm.length/\O1 [bl] w4 w'/\Q9 w'.heap bl 4 (((rm.take z).foldl cut (oM n true)).map Value.bool)) (λz=>rm.length - z) ol 0 La ⟨Lo _,ht,hF⟩ ?_;rintro j g w6 ⟨hj,J,hf⟩;refine Qc<|Q0 U U<|xe<|Qd<|QH U (λhG=>?_) (λhG=>?_)
  ·refine Qz ?_;have gv:rm.length<=j:=by have h0:¬(j:Int)<(rm.length:Int):=hG;omega
   rw[Lr gv]at hf;have hV:=O.J J hq;have gw:=hC.J J hR;have ku:=hf.lt;refine Qd<|Qc<|Qs U ((hz.I G).J J om) U U<|QI ((gu.I G).st J).ed U<|Qa<|xe ?_;have kv:=J.size;refine Qg<|QD (α:=Nat×(Nat->OY)×List (Int×OY)) [(12,12),(52,73)] (λz=>[(52,oE oF z.1)]) (λz w'=>z.1<=a.ed.length/\O1 [bm] w6 w'/\Yi VE w'.heap bm z.2.2/\Vv w6.heap.size w' n z.2.1 (YZ (a.ed.take z.1))/\∀s,s<n->(match O6 z.2.2 ((s:Nat):Int)with|some u=>u|none=>nS)=z.2.1 s) (λz=>a.ed.length - z.1) ol (0,λ_=>nS,[]) ⟨rfl,Z⟩
    ⟨Lo _,O1.Z _ _,gw,⟨λi _=>QJ _ _ _ _,λi j _ _ _=>Dj.nil _⟩,λs _=>U⟩ ?_
   rintro⟨i,rv,m⟩ g w7 ⟨hi,S,hH,hg,h3⟩;simp only[]at hi hH hg h3;have kw:=S.size;have hW:bp∉[bm]:=by simpa using hP
   have gx:bl∉[bm]:=by simpa using Ne.symm hE
   refine Qc<|Q0 U U<|xe<|Qd<|QH U (λhI=>?_) (λhI=>?_)
   ·refine Qz ?_;have gy:a.ed.length<=i:=by have h4:¬(i:Int)<(a.ed.length:Int):=hI;omega
    rw[Lr gy]at hg;refine Qm<|Qb<|Qk ⟨[_],La,(gs.O J oa).O S oa,bp,⟨va,vm,ve,a,vu,unc,bm,m,bl,n,rv⟩,U,U,U,U,oh,⟨hV.J S hW,hq,?_,?_,hH,hR,h3,λs hs=>QK (hg.own s hs) (LH (UP a.ed s) oa) (λb E hm=>?_)⟩,hf.J S gx⟩
    ·have h9:ZH [bl,bm] w7.heap va vm ve a:=((((h.I hh).up (L':=[bl,bm]) (λb E=>.inr (by simp only[oK,oI,or_false]at E;omega))).I G).st (J.mono oe)).st (S.mono oe);exact h9.up oe
    ·have h9:QP [bl,bm] w7.heap vu unc:=((((hu.I hh).up (L':=[bl,bm]) (λb E=>.inr (by simp only[oK,oI,or_false]at E;omega))).I G).st (J.mono oe)).st (S.mono oe);exact h9.up oe
    have:=(Qi (hg.own s hs) b E).1;simp only[oH]at hm;omega
   refine Qh ?_;have Y:i<a.ed.length:=by have h4:(i:Int)<(a.ed.length:Int):=hI;omega
   have hv:a.ed.take (i+1)=a.ed.take i++[a.ed[i]'Y]:=Lm Y;have hX:=go _ (Lk Y);refine Zo (a.ed[i]'Y) λe he=>?_;rw[he]at hv hX;have hY:e.2.2=(e.2.2.toNat:Int):=oa
   have hw:e.2.2.toNat<n:=oa
   have gz:=UP (a.ed.take i) e.2.2.toNat;rw[Ly]at gz;have hJ:=QcB (a.ed.take i) e hX.2.2.2.1;have g0:qB [bl,bm] w7.heap ve a.ed:=((((h.ed.I hh).up (L':=[bl,bm]) (λb E=>.inr (by simp only[oK,oI,or_false]at E;omega))).I G).st (J.mono oe)).st (S.mono oe);refine Qd<|Qg<|Qc<|xie g0 U U Y λkx h4=>?_;rw[he]at h4;refine x (Qx h4 U U)<|Qe<|Qo (us:=[oE oF 0,oE oF 0,oE oF 0]) U λb12 w8 g2 g3 g4=>Qe<|Qj (us:=QC e) g4 U U U U oA λw9 g5 hK=>xe ?_;have hy:O1 [] w7 w9:=g2.O g5 g3;have kz:=hy.size;have hZ:=hg.I hy;have g6:=hZ.own _ hw;have h5:∀b∈ob (rv e.2.2.toNat),w6.heap.size<=b/\b<w7.heap.size:=λb E=>⟨(Qi (hg.own _ hw) b E).1,Zf (hg.own _ hw) b E⟩;have ga:bp∉ob (rv e.2.2.toNat):=λE=>ot (h5 _ E)
   have gb:bm∉ob (rv e.2.2.toNat):=λE=>ot (h5 _ E)
   have hL:b12∉ob (rv e.2.2.toNat):=λE=>ot (h5 _ E)
   have gc:=((hV.J S hW).I hy);have gg:=hH.I hy;have gh:=h3 e.2.2.toNat hw;rw[<-hY]at gh;refine yj (O1 (ob (rv e.2.2.toNat)) w9) [oC 0,oC 1,oC 2,oC 3,oC 4,oC 5,oC 6,oC 7,oC 8,oC 9,oC 10,oC 11,oC 12,oC 13,oC 14,oD 15,oD 16,oD 17] mixed ol od (O1.C _ _) ?_;refine p QF<|p (Y9 U)<|p (QR U)<|pq (λ_ I=>Qr (gc.J I ga) U U) <|
    p (QR rfl)<|pq (λ_ I=>Qr (hK.J I hL) U U)<|p QF<|p (Y9 U)<|p (QR U) <|
    pq (λ_ I=>Qr (gc.J I ga) U U)<|p (QR U)<|pq (λ_ I=>Qr (hK.J I hL) U U) <|
    pq (λ_ I=>(Ji (k:=e.2.2) (gg.J I gb) U U).D (OR (λv=>Result.ok (Next.value v) _) gh))<|p (QR U)<|pq (λ_ I=>Qr (hK.J I hL) U U) <|
    pk<|QB (us:=[[oE oF e.1]]) U U og oe ⟨rfl,rfl,Z⟩ λk0 g7 gi k4 g8=>⟨(O1.C _ _).D gi,?_⟩
   have ho:O1 [] w9 g7:=(O1.C _ _).D gi;have k5:=ho.size;refine pk<|Zb (m:=1) (news:=[oE oF e.1]) (Qq g6 ho) U U U (g8.at (L:=[]) oe) (by simp[Value.oneCell']) oa oa λhM k6 g9 h6 ka=>⟨ho.any.Q h6,?_⟩;have kb:=(gg.I ho).J h6 gb;refine pkl (hl:=by kernel_rfl)<|Xv (k:=e.2.2) kb U U λk7 gj kc=>pe ?_;have ke:∀b∈ob hM,b∈ob (rv e.2.2.toNat)\/w9.heap.size<=b:=λb E=>(ka b E).imp id (λh=>oa);have gk:=hZ.app hw (Qv.snoc g9) (ho.any.Q h6) ke;have gl:=gk.J gj (λi hi b E=>by have:=(Qi (gk.own i hi) b E).1;simp only[oH];omega);have kf:Vz (YZ (a.ed.take i)) e.2.2.toNat (YZ (a.ed.take i) e.2.2.toNat++[e.1])=YZ (a.ed.take (i+1)):=by rw[hv];exact funext hJ
   rw[kf]at gl;refine Qw<|QS U U<|Qa<|xe<|⟨(i+1,Vz rv e.2.2.toNat hM,O7 m e.2.2 hM),oh,La,Y,?_,kc,gl,λs hs=>?_⟩
   ·exact(((S.D hy).D ho).then h6 (λb E=>.inr (h5 b E).1)).Q gj
   simp only[];rw[Xl];by_cases gm:s=e.2.2.toNat
   ·subst gm;rw[OQ hY,Yo]
   rw[OP oa,YN _ _ gm];exact h3 s hs
  refine Qh ?_;have hp:j<rm.length:=by have h0:(j:Int)<(rm.length:Int):=hG;omega
  have kg:=gn _ (Lk hp);have hv:rm.take (j+1)=rm.take j++[rm[j]'hp]:=Lm hp;refine Zo (rm[j]'hp) λs hs=>?_;rw[hs]at kg hv;have hJ:s=(s.toNat:Int):=oa
  have k8:((rm.take j).foldl cut (oM n true)).length=n:=by rw[zY];simp
  refine Qd<|Qg<|Qc<|xii (i:=j) ((hT.I G).st J) U U hp λk9 h0=>?_;rw[hs]at h0;refine x (QA h0 U)<|Qb<|Qw<|Qa<|Yl U<|Qs U (O.J J hq) U U<|Qa<|x (Zv (i:=s.toNat) U (OR (Value.int .i64) hJ) oa) <|
   Qe<|zp (i:=s.toNat) hf U U oa λw7 S kh=>xe ?_
  refine Qw<|QS U U<|Qa<|xe<|⟨j+1,oa,La,hp,J.Q S,?_⟩;rw[hv,Mv];exact kh
 refine Qh ?_;have Y:k<n:=by have ma:(k:Int)<(n:Int):=hS;omega
 have hU:=O.J ht hq;refine Qd<|Qg<|Qm<|Qb<|Qw<|Qa<|Yl U<|Qs U hU U U<|Qa<|x (Zv (i:=k) U U oa) <|
  Qe<|zp (i:=k) hF U U (by rw[QnJ];exact Y) λw6 J hf=>xe ?_
 have ki:(bA n (λi=>decide (i<k))).set k true=bA n (λi=>decide (i<k+1)):=QnI oe (λi _ hi=>by
  by_cases e:i<k
  ·simp[e];omega
  simp[e];omega)
 rw[ki]at hf;refine Qw<|QS U U<|Qa<|xe ?_;exact⟨k+1,oa,La,Y,ht.Q J,hf⟩
theorem yc {r:LI}(h:i<l.length):O2 (l++r) i=O2 l i:=by
 unfold O2;simp[oP,List.getElem?_append_left h]
theorem Uk {q:Pz}(hA:PzA [] w.heap bp q)(hq:PzQ q)(hB:Q9 w.heap q.bl 4 (lf.map Value.bool))(hl:lf.length=q.n):
  Q3 prog 242 [.pointer (some ⟨bp,0,none⟩)] w λr w'=>O1 [] w w'/\∃b,r=.slice (some ⟨b,0,none⟩) q.n q.n/\w.heap.size<=b/\Q9 w'.heap b 3 ((dsts q.a lf).map (Value.int .i64))/\(dsts q.a lf).length=q.n:=by
 have hn:=hq.n;have kr:=hq.ok.st1;have gb:=hq.ok.mr;have kt:=hq.ok.mr_le;have ku:=hq.ok.ed_le;have hM:q.a.st.toNat=q.n:=oa
 have gt:=Qnn (lf:=lf) hq.ok hn;have gc:(dsL q.a.ed lf q.n 0 (ds0 q.a lf)).1=dsts q.a lf:=by unfold dsts;rw[hM]
 refine Zo (dsts q.a lf) λDD gu=>?_;rw[gu]at gc ⊢;refine Zq func242 ?_;refine Qc<|Qb<|Qm<|Yl U<|Q7 U<|Qs U hA.B U U<|Qe<|UJ (n:=q.n) (OR (Value.int .i64) hn) (OR (Value.int .i64) hn) oa λbO w1 gg hC hN=>Qb ?_;rw[Qfa]at hN;refine Qd<|Qm<|QI (L:=[]) (hN.arr oe (n:=q.n) (cap:=q.n) (sz:=1) (by simp[gA]) oa (Lv _)) rfl<|Qa<|xe<|Qg<|QD (α:=Nat) [(4,4),(19,25)] (λz=>[(19,oE oF z)]) (λz w'=>z<=q.n/\O1 [] w w'/\Q9 w'.heap bO 3 ((gA q.n (λj=>if j<z then -1 else 0)).map (Value.int .i64))) (λz=>q.n - z) ol 0 La ⟨Lo _,gg,hN⟩ ?_
 rintro j g H ⟨hj,hh,h0⟩;refine Qc<|Q0 U U<|xe<|Qd<|QH U (λhO=>?_) (λhO=>?_)
 ·refine Qz ?_;have hP:j=q.n:=by have gv:¬(j:Int)<(q.n:Int):=hO;omega
  have gw:gA q.n (λi=>if i<j then -1 else 0)=((q.a.mr.take 0).foldl (ds1 lf) (oM q.n (-1),[])).1:=by
   apply Mt
   ·simp[gA]
   intro i h1 h2;have:i<q.n:=by simpa[gA]using h1
   simp[gA];omega
  rw[gw]at h0;refine Qc<|Qb<|Qd<|Qm<|Yl U<|Q7 U<|Qs U (hA.I hh).B U U<|QI (hA.I hh).a.mr U<|Qa<|xe<|Qg<|QD (α:=Nat×OY) [(5,5),(7,7),(32,50)] (λz=>[(5,z.2),(32,oE oF z.1)]) (λz w'=>z.1<=q.a.mr.length/\O1 [] w w'/\H.heap.size<=w'.heap.size/\Q9 w'.heap bO 3 (((q.a.mr.take z.1).foldl (ds1 lf) (oM q.n (-1),[])).1.map (Value.int .i64)) /\
   Qv 3 H.heap.size w' z.2 ((q.a.mr.take z.1).foldl (ds1 lf) (oM q.n (-1),[])).2) (λz=>q.a.mr.length - z.1) ol (0,nS) oz ⟨Lo _,hh,Lv _,h0,QJ _ _ _ _⟩ ?_
  rintro⟨k,vl⟩ g w3 ⟨hk,h3,gh,ho,ha⟩;simp only[]at hk ho ha;have gi:=Qbw (lf:=lf) (λx hx=>(gb x hx).1) k;rw[hM]at gi;refine Qc<|Q0 U U<|xe<|Qd<|QH U (λhQ=>?_) (λhQ=>?_)
  ·refine Qz ?_;have gx:q.a.mr.length<=k:=by have hD:¬(k:Int)<(q.a.mr.length:Int):=hQ;omega
   have e0:(q.a.mr.take k).foldl (ds1 lf) (oM q.n (-1),[])=ds0 q.a lf:=by rw[Lr gx];unfold ds0;rw[hM]
   rw[e0]at ho ha;have gy:bO<H.heap.size:=h0.lt;refine Qd<|Qc<|Qb<|Qg<|QD (α:=Nat×Nat×OY×LI×LI) [(5,5),(8,8),(10,10),(51,100)] (λz=>[(5,z.2.2.1),(8,oE oF z.2.1)])
    (λz w'=>O1 [] w w'/\H.heap.size<=w'.heap.size/\Q9 w'.heap bO 3 (z.2.2.2.1.map (Value.int .i64))/\Qv 3 H.heap.size w' z.2.2.1 z.2.2.2.2/\DsI q.n z.2.2.2/\z.1+z.2.1=q.n/\(dsL q.a.ed lf z.1 z.2.1 z.2.2.2).1=DD) (λz=>q.n - z.2.1) ol (q.n,0,vl,(ds0 q.a lf).1,(ds0 q.a lf).2) oz
    ⟨h3,gh,ho,ha,gt,U,gc⟩ ?_
   rintro⟨f,i,vl,o,l⟩ g w4 ⟨hf,hR,h4,O,hp,gz,S⟩;simp only[]at hR h4 O hp gz S;have g0:=hp.le;have gj:=hp.ok.len;simp only[]at g0 gj;have hF:=hA.I hf;refine Qd<|Qm<|Qa<|QI (L:=[]) (QK O oa oe) rfl<|Q0 rfl rfl<|xe<|QH U (λhS=>?_) (λhS=>?_)
   ·refine Qz ?_;have g2:¬i<l.length:=by have g3:¬(i:Int)<(l.length:Int):=hS;omega
    rw[Qie g2]at S;simp only[]at S;subst S;refine Qm<|Qb<|Qk ⟨[.slice (some ⟨bO,0,none⟩) q.n q.n],La,hf,bO,U,hC,h4,gj⟩
   refine Qh ?_;have hr:i<l.length:=by have g3:(i:Int)<(l.length:Int):=hS;omega
   refine Exists.elim (Nat.exists_eq_succ_of_ne_zero (show f≠0 by omega)) λf' g4=>?_;subst g4;rw[dsL,OQ hr]at S;have gk:=ZG hr;have hsr:=hp.ok.q _ (K1 hr);have hT:=hp.s0 _ (K1 hr);refine Zo (O2 l i) λs hs=>?_;rw[hs]at S hsr gk;simp only[]at hsr hT;rw[hs]at hT;have gl:s=(s.toNat:Int):=oa
   have gm:=hF.g s.toNat oa;rw[<-gl]at gm;have g5:=hF.R s.toNat oa;have kv:=UP q.a.ed s.toNat;refine Qd<|Qg<|Qd<|ZI [] (Xx 0 11 [])<|p QF<|p (Y9 U)<|p (QR U)<|pq (λ_ T=>Qr (hF.B.I T) U U)<|p QF<|p QF <|
    pii (i:=i) U (QK (L:=[]) O oa oe) rfl rfl hr λkw gn=>?_
   rw[gk]at gn;refine pq (λ_ T=>QA (gn.I T) U)<|pq (λ_ T=>(Ji (k:=s) (hF.M.I T) U U).D (OR (λv=>Result.ok (Next.value v) _) gm))<|p (λ_=>Yv g5 U)<|p QF<|pe ?_;have hG:O1 [] w4 { w4 with drawn:=w4.drawn+1 }:=O1.C _ _
   refine Qg<|QD (α:=Nat×OY×LI×LI) [(5,5),(10,10),(67,100)] (λz=>[(5,z.2.1),(67,oE oF z.1)])
    (λz w'=>z.1<=(YZ q.a.ed s.toNat).length/\O1 [] w w'/\H.heap.size<=w'.heap.size/\Q9 w'.heap bO 3 (z.2.2.1.map (Value.int .i64))/\Qv 3 H.heap.size w' z.2.1 z.2.2.2/\DsI q.n z.2.2/\0<=O2 z.2.2.1 s.toNat/\i<z.2.2.2.length/\O2 z.2.2.2 i=s /\
     ((YZ q.a.ed s.toNat).drop z.1).foldl (dsE lf s) z.2.2=(YZ q.a.ed s.toNat).foldl (dsE lf s) (o,l)) (λz=>(YZ q.a.ed s.toNat).length - z.1) ol (0,vl,o,l) oz
    ⟨Lo _,hf.D hG,LH hR hG.size,h4.I hG,Qq O hG,hp,hT,hr,hs,U⟩ ?_
   rintro⟨m,hH,o2,l2⟩ g w5 ⟨hm,E,hI,ht,hu,hg,hU,h5,hJ,I⟩;simp only[]at hm hI ht hu hg hU h5 hJ I;have go:=hA.I E;have g6:=hg.le;have g7:=hg.ok.len;simp only[]at g6 g7;refine Qc<|Q0 U U<|xe<|Qd<|QH U (λhV=>?_) (λhV=>?_)
   ·refine Qz ?_;have g8:(YZ q.a.ed s.toNat).length<=m:=by have hK:¬(m:Int)<((YZ q.a.ed s.toNat).length:Int):=hV;omega
    rw[Lp g8]at I;simp only[List.foldl_nil]at I;rw[<-I]at S;refine Qw<|Qa<|QS U U<|Qb<|⟨(f',i+1,hH,o2,l2),oh,oz,E,hI,ht,hu,hg,oh,S⟩
   refine Qh ?_;have hv:m<(YZ q.a.ed s.toNat).length:=by have hK:(m:Int)<((YZ q.a.ed s.toNat).length:Int):=hV;omega
   have gp:=Qfb (Lk hv);have g9:=Zd hv;rw[g9,L3]at I;refine Zo ((YZ q.a.ed s.toNat)[m]'hv) λy hy=>?_;rw[hy]at gp I;have ka:0<=y/\y<(q.n:Int):=by
    obtain⟨e,he,h1,_⟩:=gp;have:=hq.ok.ed e he;omega
   have hw:y=(y.toNat:Int):=oa
   have h6:y.toNat<o2.length:=oa
   have hW:s.toNat<o2.length:=oa
   have kb:=hg.ok.le _ (K1 hW);simp only[]at kb;have hE:=Qif (lf:=lf) hg hsr hU ka;have hX:=UN (l:=lf) (s:=y) oa;refine Qd<|Qg<|Qc<|xii (i:=m) ((go.R s.toNat oa)) U U hv λkx hK=>?_;rw[hy]at hK;refine x (QA hK U)<|Qb<|Za (α:=Bool) [(71,84)] (λz=>[(84,.bool z)]) (λz w'=>w'=w5/\z=(lft lf y && decide (O2 o2 y.toNat<0))) ol ?_ ?_
   ·refine Qw<|Qa<|Yl U<|Qs U go.B U U<|Qa<|x (Zv (i:=y.toNat) U (OR (Value.int .i64) hw) oa)<|x (JN (i:=y.toNat) (hB.I E) U oa)<|?_;rw[hX];cases lft lf y with
    | true =>
     refine Qa<|Qa<|Qa<|x (Zv (i:=y.toNat) U (OR (Value.int .i64) hw) oa)<|x (qF (i:=y.toNat) ht U h6)<|Q0 U U<|QG U<|xe ?_;exact⟨_,La,U,by rw[ZG h6];rfl⟩
    | false =>
     refine Qa<|Qp<|Qp<|Qp<|Qp<|Qp<|QG U<|xe ?_;exact⟨_,La,U,U⟩
   rintro z g kz ⟨rfl,rfl⟩;refine QQ U (λh7=>?_) (λh7=>?_)
   ·rw[Lu,decide_eq_true_eq]at h7;have hEq:dsE lf s (o2,l2) y=(o2.set y.toNat (O2 o2 s.toNat+1),l2++[y]):=by unfold dsE;rw[OQ h7]
    rw[hEq]at I hE;have kc:=ZG hW;have gq:=ZG h5;rw[hJ]at gq;refine Qm<|Qa<|Qa<|Qa<|Qa<|xii (i:=i) (QK (L:=[]) hu oa oe) rfl rfl h5 λk0 gr=>?_;rw[gq]at gr;refine x (QA gr U)<|x (Zv (i:=s.toNat) U (OR (Value.int .i64) gl) oa)<|x (qF (i:=s.toNat) ht U hW)<|x (Xu U U ⟨oa,oa⟩) <|
     x (Zv (i:=y.toNat) U (OR (Value.int .i64) hw) oa)<|Qe<|J4 (i:=y.toNat) ht U U h6 λw6 J hL=>xe ?_
    rw[kc]at hL;have ke:=J.size;have kf:∀b∈ob hH,b∉[bO]:=λb G=>by have:=Qi hu b G;simp only[oH];omega
    have h8:Qv 3 H.heap.size w6 hH l2:=Qf hu J kf;have kg:O1 [] w w6:=E.O J hC;refine Qw<|Qa<|Qa<|Qe<|QB (us:=[[oE oF y]]) U U og oe ⟨rfl,rfl,Z⟩ λk4 w7 h9 k5 kh=>Qe<|Zb (m:=1) (news:=[oE oF y]) (Qq h8 h9) rfl rfl rfl (kh.at (L:=[]) oe) (by simp[Value.oneCell']) oa (ot h9.size) λhY w8 ki hZ k6 =>
     Qb ?_
    have k7:=h9.size;have k8:=hZ.size;refine Qw<|QS U U<|Qa<|xe<|⟨(m+1,hY,_,l2++[y]),oh,oz,hv,(kg.D h9).then hZ (λb G=>.inr (ov (Qi h8 b G) gg.size hh.size)),oa,(hL.I h9).J hZ (λG=>ot (Qi h8 _ G)),Qv.snoc ki,hE.1,hE.2,by simp only[oL];omega,by rw[yc h5];exact hJ,I⟩
   have hEq:dsE lf s (o2,l2) y=(o2,l2):=by
    unfold dsE;rw[OP];intro T;rw[T.1,OT T.2]at h7;cases h7
   rw[hEq]at I;refine Qh<|Qw<|QS U U<|Qa<|xe ?_;exact⟨(m+1,hH,o2,l2),oh,oz,hv,E,hI,ht,hu,hg,hU,h5,hJ,I⟩
  refine Qh ?_;have V:k<q.a.mr.length:=by have hD:(k:Int)<(q.a.mr.length:Int):=hQ;omega
  have kj:=gb _ (Lk V);have kk:q.a.mr.take (k+1)=q.a.mr.take k++[q.a.mr[k]'V]:=Lm V;have Y:(q.a.mr.take (k+1)).foldl (ds1 lf) (oM q.n (-1),[])=ds1 lf ((q.a.mr.take k).foldl (ds1 lf) (oM q.n (-1),[])) (q.a.mr[k]'V):=by rw[kk,Mv];rfl
  have kn:((q.a.mr.take k).foldl (ds1 lf) (oM q.n (-1),[])).1.length=q.n/\((q.a.mr.take k).foldl (ds1 lf) (oM q.n (-1),[])).2.length<=q.a.mr.length:=by
   rw[gi];exact⟨Ut _ _,LH (MD _ _) (by rw[Ly];omega)⟩
  refine Zo ((q.a.mr.take k).foldl (ds1 lf) (oM q.n (-1),[])) λz hz=>?_;rw[hz]at ho ha Y kn;refine Zo (q.a.mr[k]'V) λy hy=>?_;rw[hy]at kj Y;have hw:y=(y.toNat:Int):=oa
  have h6:y.toNat<z.1.length:=oa
  have hX:=UN (l:=lf) (s:=y) oa;have gs:=hA.I h3;refine Qd<|Qg<|Qc<|xii (i:=k) gs.a.mr U U V λk9 hD=>?_;rw[hy]at hD;refine x (QA hD U)<|Qb<|Qm<|Yl U<|Qs U gs.B U U<|Qa<|x (Zv (i:=y.toNat) U (OR (Value.int .i64) hw) oa)<|x (JN (i:=y.toNat) (hB.I h3) U oa)<|xe ?_;rw[hX];refine QQ U (λga=>?_) (λga=>?_)
  ·have e1:ds1 lf z y=(z.1.set y.toNat 0,z.2++[y]):=by unfold ds1;rw[OQ ga]
   rw[e1]at Y;refine Qm<|Qa<|x (Zv (i:=y.toNat) U (OR (Value.int .i64) hw) oa)<|Qe<|J4 (i:=y.toNat) ho U U h6 λw4 hf h4=>xe ?_;have hR:=hf.size;have gy:bO<H.heap.size:=h0.lt;have O:Qv 3 H.heap.size w4 vl z.2:=Qf ha hf (λb G=>by have:=Qi ha b G;simp only[oH];omega);refine Qw<|Qa<|Qa<|Qe<|QB (us:=[[oE oF y]]) U U og oe ⟨rfl,rfl,Z⟩ λma w5 E mf ko=>Qe<|Zb (m:=1) (news:=[oE oF y]) (Qq O E) rfl rfl rfl (ko.at (L:=[]) oe) (by simp[Value.oneCell']) oa (ot E.size) λhY w6 h8 J mg =>
    Qb ?_
   have hI:=E.size;have ke:=J.size;refine Qw<|QS U U<|Qa<|xe<|⟨(k+1,hY),oh,oz,V,((h3.O hf hC).D E).then J (λb G=>.inr (ou (Qi O b G) hh.size)),oa,?_,?_⟩
   ·simp only[];rw[Y];exact(h4.I E).J J (λG=>ot (Qi O _ G))
   simp only[];rw[Y];exact Qv.snoc h8
  have e1:ds1 lf z y=z:=by unfold ds1;rw[OP (by rw[ga];decide)]
  rw[e1]at Y;refine Qh<|Qw<|QS U U<|Qa<|xe ?_;exact⟨(k+1,vl),oh,oz,V,h3,gh,by simp only[];rw[Y];exact ho,by simp only[];rw[Y];exact ha⟩
 refine Qh ?_;have hP:j<q.n:=by have gv:(j:Int)<(q.n:Int):=hO;omega
 refine Qd<|Qg<|Qm<|Qb<|Qw ?_;have kq:(gA q.n (λi=>if i<j then -1 else 0)).set j (-1)=gA q.n (λi=>if i<j+1 then -1 else 0):=Qnc (by rw[OQ oa]) (λi _ hi=>by
  by_cases e:i<j
  ·rw[OQ e,OQ oa]
  rw[OP e,OP oa])
 refine Qa<|Qa<|x (Zv (i:=j) U U oa)<|Qe<|Qg5 (i:=j) h0 U U hP kq λw6 J hL=>xe ?_;refine Qw<|QS U U<|Qa<|xe ?_;exact⟨j+1,oa,La,hP,hh.O J hC,hL⟩
abbrev rmC (rk rs:Int)(x:Int×Int):LV:=[oE oF x.1,oE oF rk,oE oF rs,oE oF x.2]
theorem Qdn (rk rs:Int)(x:Int×Int):(rmC rk rs x).length=4:=rfl
abbrev RmO (base:Nat)(w:OX)(v:OY)(rk rs:Int)(l:xq):Prop:=w.ownsRow base 241 4 v l.length (l.flatMap (rmC rk rs))
theorem RmO.snoc {base:Nat}{v:OY}{rk rs:Int}{l:xq}{x:Int×Int}(h:w.ownsRow base 241 4 v (l.length+1) (l.flatMap (rmC rk rs)++rmC rk rs x)):RmO base w v rk rs (l++[x]):=by
 unfold RmO;rw[Ll,LB];simpa using h
theorem Qhk {k:Nat}(h:k<a.ed.length):(a.ed.take (k+1)).foldl (KQ ul lf) []=KQ ul lf ((a.ed.take k).foldl (KQ ul lf) []) (a.ed[k]'h):=by
 rw[Lm h,Mv];rfl
theorem QgZ {q:Pz}(S:PzA [] w.heap bp q)(hq:PzQ q)(hB:Q9 w.heap q.bl 4 (lf.map Value.bool))(hl:lf.length=q.n)(rk:Int):
  Q3 prog 273 [.pointer (some ⟨bp,0,none⟩),oE oF rk] w λr w'=>O1 [] w w'/\RmO w.heap.size w' r rk 2 (lost q.a q.unc lf):=by
 have hn:=hq.n;have hT:=hq.ok.ed_le;refine Zq func273 ?_;refine Qc<|Qb<|Qc<|Qb<|Qd<|Qm<|Yl U<|Q7 U<|Qs U S.B U U<|QI S.a.ed U<|Qa<|xe<|Qg<|QD (α:=Nat×OY) [(5,5),(7,8),(15,72)] (λz=>[(5,z.2),(15,oE oF z.1)]) (λz w'=>z.1<=q.a.ed.length/\O1 [] w w'/\RmO w.heap.size w' z.2 rk 2 ((q.a.ed.take z.1).foldl (KQ q.unc lf) [])) (λz=>q.a.ed.length - z.1) ol (0,nS) oz ⟨Lo _,O1.Z _ _,QJ _ _ _ _⟩ ?_;rintro⟨k,vo⟩ g w1 ⟨hk,hh,J⟩;simp only[]at hk J;have hi:=(zy (a:=q.a) (ul:=q.unc) (lf:=lf) (q.a.ed.take k) [] (λe T=>LZ T) (λp hp=>by cases hp)).2;rw[Ly]at hi;refine Qc<|Q0 U U<|xe<|Qd<|QH U (λhj=>?_) (λhj=>?_)
 ·refine Qz ?_;have hC:q.a.ed.length<=k:=by have V:¬(k:Int)<(q.a.ed.length:Int):=hj;omega
  rw[Lr hC]at J;refine Qm<|Qb<|Qk ⟨[_],La,hh,J⟩
 refine Qh ?_;have H:k<q.a.ed.length:=by have V:(k:Int)<(q.a.ed.length:Int):=hj;omega
 have hD:=hq.ok.ed _ (Lk H);have G:=Qhk (ul:=q.unc) (lf:=lf) H;refine Zo ((q.a.ed.take k).foldl (KQ q.unc lf) []) λout hout=>?_;rw[hout]at J G hi;refine Zo (q.a.ed[k]'H) λe T=>?_;rw[T]at hD G;simp only[Oy]at hi;have hE:e.1=(e.1.toNat:Int):=oa
 have hF:e.2.2=(e.2.2.toNat:Int):=oa
 have hG:=UN (l:=lf) (s:=e.1) oa;have hH:=UN (l:=lf) (s:=e.2.2) oa;have hI:=S.I hh;refine Qd<|Qg<|Qc<|xie hI.a.ed U U H λhU V=>?_;rw[T]at V;refine x (Qx V U U)<|Qe<|Qo (us:=[oE oF 0,oE oF 0,oE oF 0]) U λb7 w2 hJ hK I=>Qe<|Qj (us:=QC e) I U U U U oA λw3 hL Y=>xe ?_;have h2:O1 [] w1 w3:=hJ.O hL hK;have hm:=hh.D h2;have ha:=S.I hm;have h3:=hB.I hm;have hM:=Qq J h2;refine Qd<|Za (α:=Bool) [(19,47)] (λz=>[(47,.bool z)]) (λz w'=>O1 [] w3 w'/\(z=true↔(lft lf e.1=false\/lft lf e.2.2=true\/e.2.1∉q.unc))) ol ?_ ?_
 ·refine ZI [] (Xx 0 29 [26])<|p QF<|p (Y9 U)<|p (QR U)<|pq (λ_ E=>Qr (ha.B.I E) U U)<|p (QR U)<|pq (λ_ E=>Qr (Y.I E) U U) <|
   p (λ_=>Zv (i:=e.1.toNat) U (OR (Value.int .i64) hE) oa)<|pq (v:=.bool (lft lf e.1)) (λ_ E=>(JN (i:=e.1.toNat) (h3.I E) U oa).D (by rw[hG]))<|pB (λ_=>ZC rfl) (λO=>?_) (λO=>?_)
  ·refine p QF<|ps<|ps<|ps<|ps<|ps<|ps<|ps<|ps<|p (Xf U)<|p QF<|ps<|ps<|ps<|ps<|ps<|ps<|ps<|ps<|p (Xf U)<|pe ?_;exact⟨_,La,O1.C _ _,by simp at O;simp[O]⟩
  refine p QF<|p QF<|p (Y9 U)<|p (QR U)<|pq (λ_ E=>Qr (ha.B.I E) U U)<|p (QR U)<|pq (λ_ E=>Qr (Y.I E) U U) <|
   p (λ_=>Zv (i:=e.2.2.toNat) U (OR (Value.int .i64) hF) oa)<|?_
  refine pqB (b:=lft lf e.2.2) (λ_ E=>(JN (i:=e.2.2.toNat) (h3.I E) U oa).D (by rw[hH])) (λho=>?_) (λho=>?_)
  ·refine p (Xf U)<|p QF<|ps<|ps<|ps<|ps<|ps<|ps<|ps<|ps<|p (Xf U)<|pe ?_;exact⟨_,La,O1.C _ _,by simp[ho]⟩
  refine p (Xf U)<|p QF<|p QF<|p (Y9 U)<|p (QR U)<|pq (λ_ E=>Qr (ha.B.I E) U U) <|
   p (QR rfl)<|pq (λ_ E=>Qr (Y.I E) U U)<|pk<|xg<|(Yr (ha.u.I (O1.C _ _)) e.2.1).mono ?_
  rintro r4 w4 ⟨rfl,rfl⟩;refine⟨O1.C _ _,?_⟩;refine p (λ_=>zi U)<|p (Xf U)<|pe ?_;exact⟨_,La,O1.C _ _,by simp at O;simp[O,ho]⟩
 rintro z g w4 ⟨hr,hz⟩;have h4:=hm.D hr;have hs:=Qq hM hr;have I:=Y.I hr;refine QQ rfl (λhf=>?_) (λhf=>?_)
 ·refine Qz ?_;have e1:KQ q.unc lf out e=out:=by unfold KQ;rw[OQ (hz.1 hf)]
  rw[e1]at G;refine Qw<|QS U U<|Qa<|xe ?_;exact⟨(k+1,vo),oh,oz,H,h4,by simp only[];rw[G];exact hs⟩
 refine Qh ?_;have h5:¬(lft lf e.1=false\/lft lf e.2.2=true\/e.2.1∉q.unc):=λh=>by rw[hz.2 h]at hf;cases hf
 have h6:Zm [] w4.heap vo out.length 4 (out.flatMap (rmC rk 2)):=QK hs oa oe;refine Qd<|Qm<|QI h6 U<|Qb<|Za (α:=Bool) [(50,62)] (λz=>[(62,.bool z)]) (λz w'=>O1 [] w4 w'/\(z=true↔out.getLast?.map (·.1)=some e.1)) ol ?_ ?_
 ·refine ZI [] (Xx 0 13 [])<|p QF<|pb (λ_=>Yg U U) (λht=>?_) (λht=>?_)
  ·have hV:0<out.length:=by have hN:(0:Int)<(out.length:Int):=ht;omega
   have h7:out.getLast?=some (out[out.length - 1]'oa):=by rw[List.getLast?_eq_getElem?,LU]
   refine Zo (out[out.length - 1]'oa) λy hy=>?_;rw[hy]at h7;refine p QF<|p QF<|p QF<|p (λ_=>Jo U U ⟨oa,oa⟩)<|Go.Lg.pig (g:=rmC rk 2) (i:=out.length - 1) U (Qdn rk 2) h6 U (OR (Value.int .i64) (show(out.length:Int) - 1=((out.length - 1:Nat):Int) by omega)) oa λhW h8=>?_;rw[hy]at h8;refine p (λ_=>Zt U)<|pq (λ_ E=>QA ((h8.fld 0 (oE oF y.1) U).I E) U)<|p (QR U)<|pq (λ_ E=>Qr (I.I E) U U) <|
    p (λ_=>QY U U)<|p (Xf U)<|pe ?_
   exact⟨_,La,O1.C _ _,by rw[h7];simp⟩
  have h0:out=[]:=Ls (by have hN:¬(0:Int)<(out.length:Int):=ht;omega);refine p QF<|ps<|ps<|ps<|ps<|ps<|ps<|ps<|ps<|ps<|p (Xf U)<|pe ?_;exact⟨_,La,O1.C _ _,by simp[h0]⟩
 rintro z2 g w5 ⟨hu,h9⟩;have hv:=h4.D hu;have hw:=Qq hs hu;have I:=I.I hu;refine QQ rfl (λhg=>?_) (λhg=>?_)
 ·refine Qz ?_;have e1:KQ q.unc lf out e=out:=by unfold KQ;rw[OP h5,OQ (h9.1 hg)]
  rw[e1]at G;refine Qw<|QS U U<|Qa<|xe ?_;exact⟨(k+1,vo),oh,oz,H,hv,by simp only[];rw[G];exact hw⟩
 refine Qh ?_;have hO:¬out.getLast?.map (·.1)=some e.1:=λh=>by rw[h9.2 h]at hg;cases hg
 have e1:KQ q.unc lf out e=out++[(e.1,e.2.1)]:=by unfold KQ;rw[OP h5,OP hO]
 rw[e1]at G;refine Qw<|Qa<|Qs U I U U<|Qa<|Qs U I U U<|x (Qy ⟨U,U,U,U,Z⟩) <|
  Qe<|QB (us:=[rmC rk 2 (e.1,e.2.1)]) U U og oe ⟨rfl,rfl,Z⟩ λhX w6 h1 hY hP =>
  Qe<|Zb (m:=1) (news:=rmC rk 2 (e.1,e.2.1)) (Qq hw h1) U U U (hP.at (L:=[]) oe) (by simp[Value.oneCell']) oa (ou hv.size h1.size) λhQ w7 hR hS hZ=>Qb<|Qw<|QS U U<|Qa<|xe ?_
 exact⟨(k+1,hQ),oh,oz,H,(hv.D h1).then hS (λb hb=>.inr (Qi hw b hb).1),by simp only[];rw[G];exact RmO.snoc hR⟩
theorem jA (lf:Lf)(d:Int):∀(l:LI) (i:Nat),Vo lf i (l++[d])=Vo lf i l++if lf.getD (i+l.length) false=true/\d<0 then[((i+l.length:Nat):Int)]else[]
 | [],i=>by
  simp only[Oi,Vo,Oy,OB]
 | a::l,i=>by
  have ih:=jA lf d l (i+1);rw[show i+1+l.length=i+(a::l).length by simp;omega]at ih;simp only[o8,Vo,ih];by_cases h:lf.getD i false=true/\a<0
  ·rw[OQ h,OQ h,L5]
  rw[OP h,OP h]
abbrev blP (l:LI):xq:=l.map λs=>(s,-1)
theorem Qa2 {q:Pz}(hA:PzA [] w.heap bp q)(O:PzQ q)(hB:Q9 w.heap q.bl 4 (lf.map Value.bool))(hl:lf.length=q.n)(rk:Int):
  Q3 prog 274 [.pointer (some ⟨bp,0,none⟩),oE oF rk] w λr w'=>O1 [] w w'/\RmO w.heap.size w' r rk 3 (blP (Vo lf 0 (dsts q.a lf)))/\(Vo lf 0 (dsts q.a lf)).length<=q.n:=by
 have hn:=O.n;have hw:=O.ok.st1;refine Zq func274 ?_;refine Qc<|Qb<|Qc<|Qb<|Qd<|Qm<|QM<|(Uk hA O hB hl).mono ?_;rintro r1 S ⟨hf,b,rfl,hb,hg,T⟩;refine Zo (dsts q.a lf) λD hD=>?_;rw[hD]at hg T ⊢;have hh:QP [] S.heap (.slice (some ⟨b,0,none⟩) q.n q.n) D:=by
  have h:=hg.arr (L:=[]) oe (n:=q.n) (cap:=q.n) (sz:=1) (by simp[T]) oa (Lv _);unfold QP;rw[T];exact h
 refine QI hh U<|Qa<|xe<|Qg<|QD (α:=Nat×OY) [(5,7),(11,33)] (λz=>[(5,z.2),(11,oE oF z.1)]) (λz w'=>z.1<=D.length/\O1 [] S w'/\RmO S.heap.size w' z.2 rk 3 (blP (Vo lf 0 (D.take z.1)))) (λz=>D.length - z.1) ol (0,nS) oz ⟨Lo _,O1.Z _ _,QJ _ _ _ _⟩ ?_;rintro⟨k,vo⟩ g w2 ⟨hk,I,E⟩;simp only[]at hk E;have hbl:=(Uu lf (D.take k) 0).2;rw[Ly]at hbl;have V:=hf.D I;refine Qc<|Q0 U U<|xe<|Qd<|QH U (λY=>?_) (λY=>?_)
 ·refine Qz ?_;have hj:D.length<=k:=by have hm:¬(k:Int)<(D.length:Int):=Y;omega
  rw[Lr hj]at E;refine Qm<|Qb<|Qk ⟨[_],La,V,Zy E hf.size,ot (Uu lf D 0).2⟩
 refine Qh ?_;have G:k<D.length:=by have hm:(k:Int)<(D.length:Int):=Y;omega
 have ho:D.take (k+1)=D.take k++[D[k]'G]:=Lm G;have H:=jA lf (D[k]'G) (D.take k) 0;rw[<-ho,Ly,LQ,Ml oa]at H;refine Zo (D[k]'G) λd hd=>?_;rw[hd]at H;refine Zo (Vo lf 0 (D.take k)) λout hout=>?_;rw[hout]at H E hbl;have ha:k<lf.length:=oa
 have hp:lf[k]'ha=lf.getD k false:=by simp[oP,ha]
 have hr:=hA.I V;refine Qd<|Qg<|Qm<|xii (i:=k) (hh.I I) U U G λhy hi=>?_;rw[hd]at hi;refine x (QA hi U)<|x Ql<|Qb<|Za (α:=Bool) [(16,26)] (λz=>[(26,.bool z)]) (λz w'=>w'=w2/\(z=true↔lf.getD k false=true/\d<0)) ol ?_ ?_
 ·refine Qw<|Qa<|Yl U<|Qs U hr.B U U<|Qa<|x (Zv (i:=k) U U oa)<|xB (b:=lf.getD k false) ((JN (i:=k) (hB.I V) U ha).D (by rw[hp])) (λhc=>?_) (λhc=>?_)
  ·refine Qa<|Qa<|Q0 U U<|QG U<|xe ?_;exact⟨_,La,U,by rw[hc];simp⟩
  refine Qa<|Qp<|Qp<|QG U<|xe ?_;exact⟨_,La,U,by rw[hc];simp⟩
 rintro z g w3 ⟨rfl,hz⟩;refine QQ rfl (λJ=>?_) (λJ=>?_)
 ·rw[OQ (hz.1 J)]at H;refine Qw<|Qa<|Qa<|Qa<|x (Qy ⟨U,U,U,U,Z⟩)<|Qe<|QB (us:=[rmC rk 3 ((k:Int),-1)]) U U og oe ⟨rfl,rfl,Z⟩ λh0 w4 he h1 hs =>
   Qe<|Zb (m:=1) (news:=rmC rk 3 ((k:Int),-1)) (Qq E he) U U U (hs.at (L:=[]) oe) (by simp[Value.oneCell']) (by rw[Lh];omega) (ou I.size he.size) λht w5 hu hv h2=>Qb<|Qw<|QS U U<|Qa<|xe ?_
  refine⟨(k+1,ht),oh,oz,G,(I.D he).then hv (λb hb=>.inr (Qi E b hb).1),?_⟩;simp only[];rw[H,show blP (out++[(k:Int)])=blP out++[((k:Int),-1)] by simp];exact RmO.snoc hu
 rw[OP (λh=>by rw[hz.2 h]at J;cases J),LK]at H;refine Qh<|Qw<|QS U U<|Qa<|xe ?_;exact⟨(k+1,vo),oh,oz,G,I,by simp only[];rw[H];exact E⟩
def nxR (a:Q2)(ul:LI)(lf:Lf):Int×xq:=if(lost a ul lf).length≠0 then(2,lost a ul lf)else(3,blP (Vo lf 0 (dsts a lf)))
theorem Qkk (a:Q2)(ul:LI)(lf:Lf):(nxR a ul lf).2.map (·.1)=nxs a ul lf:=by
 unfold nxR nxs;split
 ·rfl
 rw[MB];exact List.map_id _
theorem QgY {q:Pz}(S:PzA [] w.heap bp q)(G:PzQ q)(T:Q9 w.heap q.bl 4 (lf.map Value.bool))(hl:lf.length=q.n)(rk:Int):
  Q3 prog 239 [.pointer (some ⟨bp,0,none⟩),oE oF rk,.bool true] w λr w'=>O1 [] w w'/\RmO w.heap.size w' r rk (nxR q.a q.unc lf).1 (nxR q.a q.unc lf).2/\(nxR q.a q.unc lf).2.length<=1000000:=by
 have ha:=(j6 q.a q.unc lf).2;have hg:=G.ok.ed_le;have hn:=G.n;have hh:=G.ok.st1;have E:nxR q.a q.unc lf=if(lost q.a q.unc lf).length≠0 then(2,lost q.a q.unc lf)else(3,blP (Vo lf 0 (dsts q.a lf))):=rfl
 refine Zo (nxR q.a q.unc lf) λNR hb=>?_;rw[hb]at E ⊢;refine Zq func239 ?_;refine Qc<|Qb<|Qd<|Qm<|Qa<|QM<|(QgZ S G T hl rk).mono ?_;rintro r1 w1 ⟨H,J⟩;refine Zo (lost q.a q.unc lf) λL hL=>?_;rw[hL]at J E ha;refine Qb<|Za (α:=Bool) [(11,17)] (λz=>[(17,.bool z)]) (λz w'=>w'=w1/\(z=true↔L.length≠0)) ol ?_ ?_
 ·refine Qw<|Qa<|QI (L:=[]) (QK J oa oe) rfl<|xb (Yg rfl rfl) (λO=>?_) (λO=>?_)
  ·refine Qa<|Qp<|Qp<|QG U<|xe ?_;exact⟨_,La,U,by have V:(0:Int)<(L.length:Int):=O;simp;intro e;subst e;simp at V⟩
  refine Qa<|Qa<|x (ZC U)<|QG U<|xe ?_;have V:¬(0:Int)<(L.length:Int):=O;have hc:L.length=0:=oa
  exact⟨_,La,U,by rw[hc];simp⟩
 rintro z g w2 ⟨rfl,Y⟩;refine QQ rfl (λI=>?_) (λI=>?_)
 ·rw[OQ (Y.1 I)]at E;refine Qm<|Qb ?_;subst E;exact Qk ⟨[_],La,H,J,by show L.length<=_;omega⟩
 rw[OP (λh=>by rw[Y.2 h]at I;cases I)]at E;refine Qh<|Qm<|Qa<|QM<|(Qa2 (S.I H) G (T.I H) hl rk).mono ?_;rintro r3 w3 ⟨he,hf,hbl⟩;refine Qb ?_;subst E;exact Qk ⟨[_],La,H.D he,Zy hf H.size,by show(blP _).length<=_;rw[Lh];omega⟩
structure K3 (base:Nat)(w:OX)(n:Nat)(f:Nat->OY)(g:Nat->List Ed):Prop where
 own:∀i,i<n->YT 167 base w (f i) (g i)
 dj:∀i j,i<n->j<n->i≠j->Dj (f i) (f j)
theorem K3.app {base:Nat}{f:Nat->OY}{g:Nat->List Ed}{l:List Ed}(h:K3 base w n f g)(hi:i<n)(O:YT 167 base w' v' l)(S:O1 (ob (f i)) w w')
  (T:∀b∈ob v',b∈ob (f i)\/w.heap.size<=b):K3 base w' n (Vz f i v') (Vz g i l):=by
 refine⟨λj E=>?_,λj k E H G=>?_⟩
 ·by_cases e:j=i
  ·subst e;rw[Yo,Yo];exact O
  rw[YN _ _ e,YN _ _ e];exact Qf (h.own j E) S (h.dj j i E hi e)
 have key:∀j,j<n->j≠i->Dj v' (f j):=λj E e b V I=>by
  rcases T b V with J|J
  ·exact h.dj i j hi E (Ne.symm e) b J I
  have:=Zf (h.own j E) b I;omega
 by_cases e1:j=i
 ·subst e1;rw[Yo,YN _ _ (Ne.symm G)];exact key k H (Ne.symm G)
 rw[YN _ _ e1];by_cases e2:k=i
 ·subst e2;rw[Yo];exact(key j E e1).symm
 rw[YN _ _ e2];exact h.dj j k E H G
theorem K3.J {base:Nat}{f:Nat->OY}{g:Nat->List Ed}(h:K3 base w n f g)(E:O1 X w w')(G:∀i,i<n->∀b∈ob (f i),b∉X):K3 base w' n f g :=
 ⟨λi hi=>Qf (h.own i hi) E (G i hi),h.dj⟩
theorem K3.I {base:Nat}{f:Nat->OY}{g:Nat->List Ed}(h:K3 base w n f g)(E:O1 [] w w'):K3 base w' n f g:=h.J E (λ_ _ _ _=>oe)
def yt (es:List Ed)(s:Nat):List Ed:=Z2 es (s:Int)
theorem QeK (es:List Ed)(e:Ed)(E:0<=e.1):Vz (yt es) e.1.toNat (yt es e.1.toNat++[e])=yt (es++[e]):=by
 funext s;unfold yt Z2;rw[L6];by_cases h:s=e.1.toNat
 ·subst h;rw[Yo];have:e.1=(e.1.toNat:Int):=oa
  simp[<-this]
 rw[YN _ _ h];have:¬e.1=(s:Int):=oa
 simp[this]
theorem QaU (es:List Ed)(s:Nat):(yt es s).length<=es.length:=KO es _
def Qc5 (num:LI)(m:List (Int×OY)):Prop:=∀s:Nat,s<num.length->O6 m (s:Int)=if O2 num s<0 then none else some (oE oF (O2 num s))
theorem Va (l:LI)(k:Int):Z9 l k=O2 l k.toNat:=rfl
structure KD (b4 mb:Nat)(r2:OY)(wS:OX)(c:Cs)(m:List (Int×OY))(vo vk ve:OY)(w:OX):Prop where
 st:O1 [b4,mb] wS w
 B4:Q9 w.heap b4 59 [r2,oE oF 0,vk,ve]
 M:Yi VE w.heap mb m
 nm:Qc5 c.num m
 o:Qv 3 wS.heap.size w vo c.ord
 k:Qv 3 wS.heap.size w vk c.mk'
 e:YT 167 wS.heap.size w ve c.ed
 d1:Dj vo vk
 d2:Dj vo ve
 d3:Dj vk ve
section
variable {b4 mb:Nat}{r2:OY}{wS:OX}{c:Cs}{m:List (Int×OY)}{vo:OY}{w'':OX}
theorem KD.I (h:KD b4 mb r2 wS c m vo vk ve w)(E:O1 [] w w'):KD b4 mb r2 wS c m vo vk ve w' :=
 ⟨h.st.D E,h.B4.I E,h.M.I E,h.nm,Qq h.o E,Qq h.k E,Qq h.e E,h.d1,h.d2,h.d3⟩
theorem KD.setK (h:KD b4 mb r2 wS c m vo vk ve w)(T:b4<wS.heap.size)(lm:mb<wS.heap.size)(ne:mb≠b4){H:OY}(I:O1 (ob vk) w w')(J:Qv 3 wS.heap.size w' H l)
  (O:∀b∈ob H,b∈ob vk\/w.heap.size<=b) (G:O1 [b4] w' w'') (S:Q9 w''.heap b4 59 [r2,oE oF 0,H,ve]):KD b4 mb r2 wS ⟨c.ord,c.num,l,c.ed⟩ m vo H ve w'' :=
 ⟨(h.st.then I (λb E=>.inr (Qi h.k b E).1)).then G (λb E=>.inl (by simp at E;simp[E])),S,(h.M.J I (Zh h.k lm)).J G (oy ne),h.nm,
  Qf (Qf h.o I h.d1) G (λb E=>by have:=(Qi h.o b E).1;simp;omega),Qf J G (λb E=>by have:=(Qi J b E).1;simp;omega),
  Qf (Qf h.e I h.d3.symm) G (λb E=>by have:=(Qi h.e b E).1;simp;omega),h.d1.grow O (Zf h.o),h.d2,(h.d3.symm.grow O (Zf h.e)).symm⟩
theorem KD.setE (h:KD b4 mb r2 wS c m vo vk ve w)(T:b4<wS.heap.size)(lm:mb<wS.heap.size)(ne:mb≠b4){H:OY}{l:List Ed}(I:O1 (ob ve) w w')(J:YT 167 wS.heap.size w' H l)
  (O:∀b∈ob H,b∈ob ve\/w.heap.size<=b) (G:O1 [b4] w' w'') (S:Q9 w''.heap b4 59 [r2,oE oF 0,vk,H]):KD b4 mb r2 wS ⟨c.ord,c.num,c.mk',l⟩ m vo vk H w'' :=
 ⟨(h.st.then I (λb E=>.inr (Qi h.e b E).1)).then G (λb E=>.inl (by simp at E;simp[E])),S,(h.M.J I (Zh h.e lm)).J G (oy ne),h.nm,
  Qf (Qf h.o I h.d2) G (λb E=>by have:=(Qi h.o b E).1;simp;omega),Qf (Qf h.k I h.d3) G (λb E=>by have:=(Qi h.k b E).1;simp;omega),
  Qf J G (λb E=>by have:=(Qi J b E).1;simp;omega),h.d1,h.d2.grow O (Zf h.o),h.d3.grow O (Zf h.k)⟩
theorem KD.setN (h:KD b4 mb r2 wS c m vo vk ve w)(lm:mb<wS.heap.size)(ne:mb≠b4){H:List (Int×OY)}(G:O1 [mb] w w')(hM:Yi VE w'.heap mb H)(I:Qc5 l H):KD b4 mb r2 wS ⟨c.ord,l,c.mk',c.ed⟩ H vo vk ve w' :=
 ⟨h.st.then G (λb E=>.inl (by simp at E;simp[E])),h.B4.J G (oy ne.symm),hM,I,Qf h.o G (λb E=>by have:=(Qi h.o b E).1;simp;omega),
  Qf h.k G (λb E=>by have:=(Qi h.k b E).1;simp;omega),Qf h.e G (λb E=>by have:=(Qi h.e b E).1;simp;omega),h.d1,h.d2,h.d3⟩
theorem KD.setO (h:KD b4 mb r2 wS c m vo vk ve w)(I:b4<wS.heap.size)(lm:mb<wS.heap.size){G:OY}(E:O1 (ob vo) w w')(J:Qv 3 wS.heap.size w' G l)
  (H:∀b∈ob G,b∈ob vo\/w.heap.size<=b):KD b4 mb r2 wS ⟨l,c.num,c.mk',c.ed⟩ m G vk ve w' :=
 ⟨h.st.then E (λb O=>.inr (Qi h.o b O).1),h.B4.J E (Zh h.o I),h.M.J E (Zh h.o lm),h.nm,J,Qf h.k E h.d1.symm,Qf h.e E h.d2.symm,
  (h.d1.symm.grow H (Zf h.k)).symm,(h.d2.symm.grow H (Zf h.e)).symm,h.d3⟩
end
theorem Qc5.set {num:LI}{m:List (Int×OY)}(h:Qc5 num m){k:Nat}(G:k<num.length){v:Int}(H:0<=v):Qc5 (num.set k v) (O7 m (k:Int) (oE oF v)):=by
 intro s E;rw[Me]at E;rw[Xl];by_cases e:s=k
 ·subst e;have:O2 (num.set s v) s=v:=by unfold O2;simp[oP,G]
  rw[OQ rfl,this,OP oa]
 rw[OP oa];have:O2 (num.set k v) s=O2 num s:=by unfold O2;simp[oP,List.getElem?_set_ne (Ne.symm e)]
 rw[this];exact h s E
theorem QaM (i:Nat)(c:Cs)(m:LI)(e:Ed):Zu i ⟨c.ord,c.num,m,c.ed⟩ e=⟨(Zu i c e).ord,(Zu i c e).num,m,(Zu i c e).ed⟩/\(Zu i c e).mk'=c.mk':=by
 unfold Zu;split <;> exact⟨U,U⟩
theorem Qaf (i:Nat):∀(l:List Ed) (c:Cs) (m:LI),l.foldl (Zu i) ⟨c.ord,c.num,m,c.ed⟩=⟨(l.foldl (Zu i) c).ord,(l.foldl (Zu i) c).num,m,(l.foldl (Zu i) c).ed⟩/\(l.foldl (Zu i) c).mk'=c.mk'
 | [],c,m=>⟨U,U⟩
 | e::l,c,m=>by
  have E:=QaM i c m e;have G:=Qaf i l (Zu i c e) m;rw[L3,L3,E.1,G.1];exact⟨U,G.2.D E.2⟩
theorem yL (i:Nat)(c:Cs)(e:Ed):∃r,(Zu i c e).ord=c.ord++r:=by
 unfold Zu;split
 ·exact⟨_,rfl⟩
 exact⟨[],oe⟩
theorem Qbk (i:Nat):∀(l:List Ed) (c:Cs),∃r,(l.foldl (Zu i) c).ord=c.ord++r
 | [],c=>⟨[],oe⟩
 | e::l,c=>by
  obtain⟨E,G⟩:=yL i c e;obtain⟨r2,H⟩:=Qbk i l (Zu i c e);exact⟨E++r2,by rw[L3,H,G,LA]⟩
theorem QeL {c:Cs}(hi:i<c.ord.length):qm a i c=Yh a i ((Z2 a.ed (O2 c.ord i)).foldl (Zu i) c):=by
 unfold qm;rw[Va,MJ];obtain⟨r,E⟩:=Qbk i (Z2 a.ed (O2 c.ord i)) c;have G:=(Qaf i (Z2 a.ed (O2 c.ord i)) c c.mk').2;unfold Yh;have H:Z9 ((Z2 a.ed (O2 c.ord i)).foldl (Zu i) c).ord (i:Int)=Z9 c.ord (i:Int):=by
  rw[Va,Va,E];simp only[Ou];exact yc hi
 rw[H];split
 ·rw[(Qaf i _ c _).1,G]
 rfl
theorem zl {q:Pz}(hA:PzA [] w.heap bp q)(hq:PzQ q)(hB:Q9 w.heap q.bl 4 (lf.map Value.bool))(hl:lf.length=q.n):
  Q3 prog 243 [.pointer (some ⟨bp,0,none⟩)] w λr w'=>O1 [] w w'/\∃v o,r=.tuple #[v,o]/\Kg w.heap.size w'.heap v (Qgs q.a lf)/\o.oneCell'=true:=by
 have hn:=hq.n;have hst1:=hq.ok.st1;have kf:=hq.ok.ed_le;have pf:=QeJ hq.ok lf;have Y:Qgs q.a lf=if q.a.st=0\/lft lf 0=false then⟨q.a.al,0,[],[]⟩else Yc (rstr q.a lf):=rfl
 refine Zo (Qgs q.a lf) λSA pg=>?_;rw[pg]at Y ⊢;refine Zq func243 ?_;refine Qc<|Qe<|Qo (us:=[nS,oE oF 0,nS,nS]) U λb2 w1 kg hb2 h9=>Qb ?_;have hl2:=h9.lt;have kh:=hA.I kg;refine Qm<|Yl U<|Q7 U<|Qs U kh.B U U<|QM<|(Z5 kh.a.al).mono ?_;rintro r2 w2 ⟨hM,hv⟩;have hz2:=hM.size;have hN:=Qv.ints (L:=[]) hv hA.a.al.le oe;refine x (Qy ⟨hN.cells,Z⟩)<|Qe<|Qo (us:=[nS,oE oF 0,nS,nS]) U λb4 w3 ph pj hC =>
  Qe<|Qj (us:=[r2,oE oF 0,nS,nS]) hC U U U U ⟨hN.one,U,U,U,Z⟩ λw4 pm hC=>xe ?_
 have T:O1 [] w2 w4:=ph.O pm pj;have ha:=kg.D hM;have hD:=ha.D T;have hl4:=hC.lt;have hz24:=T.size;have gk:=hA.I hD;have pn:∀b∈ob r2,b<w2.heap.size:=Zf hv;refine Qd<|Za (α:=Bool) [(22,36)] (λz=>[(36,.bool z)]) (λz w'=>w'=w4/\(z=true↔(q.a.st=0\/lft lf 0=false))) ol ?_ ?_
 ·refine Qw<|Qa<|Yl U<|Q7 U<|Qs U gk.B U U<|xb (QY U U) (λgl=>?_) (λgl=>?_)
  ·refine Qa<|Qp<|Qp<|Qp<|Qp<|Qp<|Qp<|Qp<|QG U<|xe ?_;exact⟨_,La,U,by simp[gl]⟩
  have gm:(0:Int).toNat<lf.length:=by
   have:0<q.n:=oa
   simp;omega
  have gn:=UN (l:=lf) (s:=0) gm;refine Qa<|Qa<|Yl U<|Qs U gk.B U U<|x (Zv (i:=0) U U (by simp at gm;omega))<|x (v:=.bool (lft lf 0)) ((JN (i:=0) (hB.I hD) U gm).D (by rw[<-gn];rfl))<|x (ZC U)<|QG U<|xe ?_;exact⟨_,La,U,by simp[gl]⟩
 rintro z g w4 ⟨rfl,hz⟩;refine QQ rfl (λhO=>?_) (λhO=>?_)
 ·rw[OQ (hz.1 hO)]at Y;subst Y;refine Qc<|Q6 hC U U<|Qe<|Qj (us:=[r2,oE oF 0,nS,nS]) ((h9.I hM).I T) U U U U ⟨hN.one,U,U,U,Z⟩ λw6 hE h9=>Qb<|Qk ⟨[.agg #[r2,oE oF 0,nS,nS],nS],⟨⟨_,U,Qn U (h9.at (L:=[]) oe).cells⟩,rfl,Z⟩,hD.O hE oa,_,_,rfl,?_,rfl⟩;have po:=Qf (Qq hv T) hE (λb E=>by have:=(Qi hv b E).1;simp;omega);exact⟨r2,_,_,U,λL' hF=>⟨Qv.ints po hA.a.al.le (λb E=>ot (hF b E)),Zm.nil _ _ _,Zm.nil _ _ _⟩⟩
 have ki:¬(q.a.st=0\/lft lf 0=false):=λh=>by rw[hz.2 h]at hO;cases hO
 rw[OP ki]at Y;have pp:0<q.a.st:=by have:=hq.ok.st0;omega
 have kj:(rstr q.a lf).st.toNat=q.n:=by show q.a.st.toNat=q.n;omega
 unfold Yc at Y;rw[OP (show ¬(rstr q.a lf).st=0 from λh=>ki (.inl h)),kj]at Y;simp only[]at Y;refine Qh<|Qm<|Yl U<|Q7 U<|Qs U gk.B U U<|Qe<|UJ (n:=q.n) (OR (Value.int .i64) hn) (OR (Value.int .i64) hn) oa λbE w6 hE pu go=>Qb ?_;rw[QgG]at go;have hlE:=go.lt;have pw:=hD.D hE;have kk:=hA.I pw;refine Qd<|Qm<|Yl U<|Q7 U<|Qs U kk.B U U<|QI kk.a.ed U<|Qa<|xe<|Qg<|QD (α:=Nat×(Nat->OY)) [(7,7),(50,74)] (λz=>[(50,oE oF z.1)]) (λz w'=>z.1<=q.a.ed.length/\O1 [bE] w6 w'/\Q9 w'.heap bE 57 ((oW q.n).map z.2)/\K3 w6.heap.size w' q.n z.2 (yt ((q.a.ed.take z.1).filter λe=>lft lf e.2.2))) (λz=>q.a.ed.length - z.1) ol (0,λ_=>nS) La
  ⟨Lo _,O1.Z _ _,go,⟨λi _=>QJ _ _ _ _,λi j _ _ _=>Dj.nil _⟩⟩ ?_
 rintro⟨k,rv⟩ g w7 ⟨hk,hP,gp,V⟩;simp only[]at hk gp V;have hG:O1 [] w4 w7:=hE.O hP pu;have gq:=hD.D hG;have hz7:=hP.size;have kn:=hA.I gq;refine Qc<|Q0 U U<|xe<|Qd<|QH U (λgr=>?_) (λgr=>?_)
 ·refine Qz ?_;have pz:q.a.ed.length<=k:=by have hQ:¬(k:Int)<(q.a.ed.length:Int):=gr;omega
  rw[Lr pz]at V;have V:K3 w6.heap.size w7 q.n rv (yt (rstr q.a lf).ed):=V;have ko:(rstr q.a lf).ed.length<=q.a.ed.length:=MD _ _;refine Qc<|Qe<|Yy VE λmb w8 gs p0 p1=>Qe<|XY (k:=(0:Int)) p1 U U λH gt kq=>Qa<|Qb ?_;have J:O1 [] w7 H:=gs.O gt p0;have p2:=J.size;have hS:=kq.lt;refine Qc<|Qe<|QB (us:=[[oE oF 0]]) U U og oe ⟨rfl,rfl,Z⟩ λkr gu hw hb77 p3=>Qb<|Qd<|Qc<|Qb ?_;have gv:mb≠b4:=oa
  have hH:b4<H.heap.size:=oa
  have p4:=gq.D J;have gw:∀b∈[b4,mb],w2.heap.size<=b:=λb E=>by simp only[oK,oI,or_false]at E;omega
  have p5:PzA [b4,mb] H.heap bp q:=((hA.I ha).up (λb E=>.inr (gw b E))).I (T.D (hG.D J));have hlw:=hB.lt;have kt:∀s,s<q.n->qB [b4,mb] H.heap (rv s) (yt (rstr q.a lf).ed s):=λs hs=>QK (Qq (V.own s hs) J) (ot (QaU (rstr q.a lf).ed s)) (λb E hm=>by
   have h1:=(Qi (V.own s hs) b E).1;have h2:=Zf (V.own s hs) b E;simp only[oK,oI,or_false]at hm;omega)
  have hJ:=gp.I J;have ku:∀b,b<w2.heap.size->b∉[b4,mb]:=λb E hm=>ot (gw b hm)
  have p6:bE∉[b4,mb]:=by simp only[oK,oI,or_false];omega
  have p7:Q9 H.heap b4 59 [r2,oE oF 0,nS,nS]:=((hC.I hG)).I J;have p8:Q9 H.heap b2 59 [nS,oE oF 0,nS,nS]:=((h9.I hM).I T).I (hG.D J);have p9:=Qq hv (T.D (hG.D J));have qc:Qv 3 H.heap.size gu (.slice (some ⟨kr,0,none⟩) 1 1) [0]:=p3.own (n:=1) (sz:=1) U oa oa;have kv:Qc5 (YK (rstr q.a lf)).num (O7 [] (0:Int) (oE oF 0)):=by
   have h0:Qc5 (oM q.n (-1)) ([]:List (Int×OY)):=λs hs=>by
    have qo:s<q.n:=by simpa using hs
    have:O2 (oM q.n (-1)) s=-1:=by unfold O2;simp[oP,qo]
    rw[this];rfl
   have h1:=h0.set (k:=0) (by simp;omega) (v:=0) (Ny _);unfold YK;rw[kj];exact h1
  have gx:∀e∈(rstr q.a lf).ed,0<=e.1/\e.1<q.a.st/\0<=e.2.2/\e.2.2<q.a.st:=λe he=>by have:=pf.ed e he;exact⟨this.1,this.2.1,this.2.2.2.1,this.2.2.2.2⟩
  have kw:VS q.a.st (YK (rstr q.a lf)):=Qel (a:=rstr q.a lf) pp;have kx:(rstr q.a lf).mr=q.a.mr:=rfl;refine Zo (rstr q.a lf) λR hR=>?_;rw[hR]at Y kt kv gx kw kx ko;have qr:R.al=q.a.al:=by rw[<-hR];rfl
  have hnN:q.a.st.toNat=q.n:=oa
  refine Qg<|QD (α:=Nat×Cs×List (Int×OY)×OY×OY×OY) [(9,10),(12,14),(78,142)] (λz=>[(9,z.2.2.2.1),(10,oE oF z.1)])
   (λz w'=>KD b4 mb r2 H z.2.1 z.2.2.1 z.2.2.2.1 z.2.2.2.2.1 z.2.2.2.2.2 w'/\z.1<=z.2.1.ord.length/\VS q.a.st z.2.1/\z.2.1.mk'.length<=z.1/\z.2.1.ed.length<=z.1*131072/\XR R (q.n - z.1) z.1 z.2.1=XR R q.n 0 (YK R)) (λz=>q.n - z.1) ol
   (0,YK R,O7 [] (0:Int) (oE oF 0),.slice (some ⟨kr,0,none⟩) 1 1,nS,nS) oz
   ⟨⟨hw.any,p7.I hw,kq.I hw,kv,qc,QJ _ _ _ _,QJ _ _ _ _,Dj.nil' _,Dj.nil' _,Dj.nil' _⟩,Lo _,kw,Lo _,Lo _,U⟩ ?_
  rintro⟨i,c,m,vo,vk,ve⟩ g q0 ⟨O,hi,G,q1,q2,gy⟩;simp only[]at O hi G q1 q2 gy;have hcle:=G.le;have hT:=Qv.ints (L:=[]) O.o oa oe;refine Qd<|Qm<|Qa<|QI hT U<|Q0 U U<|xe<|QH U (λq3=>?_) (λq3=>?_)
  ·refine Qz ?_;have q4:c=XR R q.n 0 (YK R):=by rw[<-gy,jx oa]
   refine Qm<|QI hT U<|Q7 U<|Qe<|QE O.B4 U U oe rfl λhy ha hg=>xe ?_;have q6:=Qv.ints (L:=[]) O.k oa oe;have za:=YT.eds (L:=[]) O.e (ot G.el) oe;refine Qc<|Q6 hg U U<|Qa<|Qe<|Qj (us:=[r2,oE oF c.ord.length,vk,ve]) ((p8.J O.st (ku _ oa)).J ha (by simp;omega)) U U U U ⟨hN.one,U,q6.one,za.one,Z⟩ λzb hU zv=>Qb ?_;have kz:O1 [b4,mb] H hy:=O.st.then ha (λb E=>.inl (by simp at E;simp[E]));have z0:O1 [] w zb:=(p4.then kz (λb E=>.inr (ot (gw b E)))).O hU oa;refine Qk ⟨[.agg #[r2,oE oF c.ord.length,vk,ve],vo],⟨⟨_,U,Qn U (zv.at (L:=[]) oe).cells⟩,rfl,Z⟩,z0,_,_,rfl,?_,hT.one⟩;rw[<-q4]at Y;subst Y;have k1:=Qf (Qf O.k ha (λb E=>by have:=(Qi O.k b E).1;simp;omega)) hU (λb E=>by have:=(Qi O.k b E).1;simp;omega);have k2:=Qf (Qf O.e ha (λb E=>by have:=(Qi O.e b E).1;simp;omega)) hU (λb E=>by have:=(Qi O.e b E).1;simp;omega);have k3:=Qf (Qf p9 kz (λb E=>ku b (pn b E))) hU (λb E=>by have:=(Qi hv b E).1;simp;omega);exact⟨r2,vk,ve,U,λL' hF=>⟨by rw[qr];exact Qv.ints k3 hA.a.al.le (λb E=>ot (hF b E)),Qv.ints k1 (by show c.mk'.length<=_;omega) (λb E=>ot (hF b E)),YT.eds k2 (by show c.ed.length<=_;have:=G.el;omega) (λb E=>ot (hF b E))⟩⟩
  have I:i<c.ord.length:=oa
  refine Qh ?_;have k0:=ZG I;have hsr:=G.ord _ (K1 I);have hj:=QeL (a:=R) I;refine Zo (O2 c.ord i) λs0 k5=>?_;rw[k5]at k0 hsr hj;have k6:s0=(s0.toNat:Int):=oa
  have gz:s0.toNat<q.n:=oa
  have z1:yt R.ed s0.toNat=Z2 R.ed s0:=by unfold yt;rw[<-k6]
  have hV:=kt s0.toNat gz;rw[z1]at hV;have z2:=KO R.ed s0;have k7:∀e∈Z2 R.ed s0,0<=e.2.2/\e.2.2<q.a.st:=λe he=>⟨(gx e (ZU he).1).2.2.1,(gx e (ZU he).1).2.2.2⟩;refine Zo (Z2 R.ed s0) λos z3=>?_;rw[z3]at hV z2 k7 hj;refine Qd<|Qg<|Qd<|Qm<|Qa<|Qa<|xii (i:=i) hT U U I λa87 k8=>?_;rw[k0]at k8;refine x (QA k8 U)<|x (Zv (i:=s0.toNat) U (OR (Value.int .i64) k6) gz)<|X2 (u:=rv s0.toNat) (hJ.J O.st p6) U (QaT gz)<|QI (hV.st O.st) U<|Qa<|xe<|Qg<|QD (α:=Nat×Cs×List (Int×OY)×OY×OY) [(9,9),(12,14),(92,126)] (λz=>[(9,z.2.2.2.1),(92,oE oF z.1)])
   (λz w'=>KD b4 mb r2 H z.2.1 z.2.2.1 z.2.2.2.1 vk z.2.2.2.2 w'/\z.1<=os.length/\VS q.a.st z.2.1/\z.2.1.mk'=c.mk'/\z.2.1.ed.length=c.ed.length+z.1/\(∃r,z.2.1.ord=c.ord++r)/\(os.drop z.1).foldl (Zu i) z.2.1=os.foldl (Zu i) c) (λz=>os.length - z.1) ol (0,c,m,vo,ve) oz
   ⟨O,Lo _,G,U,U,⟨[],oe⟩,rfl⟩ ?_
  rintro⟨k4,d,m4,hW,hX⟩ g hy ⟨hh,z4,S,g0,k9,hY,h3⟩;simp only[]at hh z4 S g0 k9 hY h3;have hcle4:=S.le;have hoA4:=Qv.ints (L:=[]) hh.o oa oe;have g2:i<d.ord.length:=by obtain⟨r,hr⟩:=hY;rw[hr,Ll];omega
  have ma:O2 d.ord i=s0:=by obtain⟨r,hr⟩:=hY;rw[hr,yc I];exact k5
  refine Qc<|Q0 U U<|xe<|Qd<|QH U (λh93=>?_) (λh93=>?_)
  ·refine Qz ?_;rw[Lp oa,Nv]at h3;rw[<-h3]at hj;have mf:=p5.st hh.st;have hg4:d.ord[i]'g2=s0:=by rw[ZG g2];exact ma
   have hmkC:Yh R i d=if s0∈q.a.mr then⟨d.ord,d.num,d.mk'++[(i:Int)],d.ed⟩else d:=by
    unfold Yh;rw[Va,MJ,ma,kx]
   rw[hmkC]at hj;have hZ:XR R (q.n - (i+1)) (i+1) (qm R i c)=XR R q.n 0 (YK R):=by
    rw[<-gy];obtain⟨t,ht⟩:∃t,q.n - i=t+1:=⟨q.n - i - 1,oa⟩;rw[ht,XR,OQ I,show q.n - (i+1)=t by omega]
   have hm4l:=OR oO g0;refine Qd<|ZI [] (Xx 0 10 [9])<|p QF<|p (Y9 U)<|p (QR U)<|p (QR U)<|pq (λ_ G=>Qr (mf.B.I G) U U)<|p QF <|
    p QF<|pii (i:=i) U hoA4 U U g2 λa134 mg=>?_
   rw[hg4]at mg;refine pq (λ_ G=>QA (mg.I G) U)<|pk<|xg<|(Yr (mf.a.mr.I (O1.C _ _)) s0).mono ?_;rintro r16 w16 ⟨rfl,rfl⟩;refine⟨O1.C _ _,pe ?_⟩;have hf:=hh.I (O1.C [] hy);refine QH U (λg3=>?_) (λg3=>?_)
   ·rw[OP g3]at hj;refine Qh<|Qw<|Qa<|QS U U<|Qb ?_;rw[hj]at hZ;exact⟨(i+1,d,m4,hW,vk,hX),oh,oz,hf,oh,S,oh,oh,hZ⟩
   rw[OQ g3]at hj;refine Qw<|Qs U hf.B4 U U<|Qa<|Qe<|QB (us:=[[oE oF i]]) U U og oe ⟨rfl,rfl,Z⟩ λb140 w17 hs17 hb140 hB140=>?_;have hK:=hf.I hs17;refine Qe<|Zb (news:=[oE oF i]) (L:=[]) hK.k U U U (hB140.at oe) (by simp[Value.oneCell']) oa hK.st.size λmh w18 mi mj hn18=>?_;have hk18:Qv 3 H.heap.size w18 mh (d.mk'++[(i:Int)]):=Qv.snoc mi;refine Q7 U<|Qe<|QE (hK.B4.J mj (Zh hK.k hH)) U U oe (Qu mi) λw19 hs19 hB19=>xe ?_;have hI19:=hK.setK hH hS gv mj hk18 hn18 hs19 hB19;refine Qw<|Qa<|QS U U<|Qb ?_;rw[hj]at hZ;exact⟨(i+1,⟨d.ord,d.num,d.mk'++[(i:Int)],d.ed⟩,m4,hW,mh,hX),oh,oz,hI19,oh,⟨S.nl,S.sum,S.ord,S.num,S.el⟩,by simp only[oL,oN];omega,oh,hZ⟩
  refine Qh ?_;have ga:k4<os.length:=oa
  have hdr:=Zd ga;rw[hdr,L3]at h3;have g4:=k7 _ (Lk ga);refine Zo (os[k4]'ga) λe he=>?_;rw[he]at h3 g4;have gb:e.2.2=(e.2.2.toNat:Int):=oa
  have gc:e.2.2.toNat<d.num.length:=by rw[S.nl];omega
  have mn:=hh.nm e.2.2.toNat gc;rw[<-gb]at mn;have mo:Z9 d.num e.2.2=O2 d.num e.2.2.toNat:=rfl;refine Qd<|Qg<|Qc<|xie (hV.st hh.st) U U ga λa94 mq=>?_;rw[he]at mq;refine x (Qx mq U U)<|Qe<|Qo (us:=[oE oF 0,oE oF 0,oE oF 0]) U λb12 w20 hs20 g5 hg=>Qe<|Qj (us:=QC e) hg U U U U oA λgg hs21 hg=>xe ?_;have ms:O1 [] hy gg:=hs20.O hs21 g5;have hf:=hh.I ms;have hl12:=hg.lt;have hz21:=ms.size;have hIz:=hh.st.size;have hc5:VS q.a.st (Zu i d e):=QaL S g4.1 g4.2 (ot S.el);have mt:Zu i d e=⟨(Yq d e).ord,(Yq d e).num,(Yq d e).mk',(Yq d e).ed++[((i:Int),e.2.1,Z9 (Yq d e).num e.2.2)]⟩:=qX gc;refine Za (α:=OY) [(13,14),(96,102)] (λz=>[(13,oE oF (if O2 d.num e.2.2.toNat<0 then 0 else O2 d.num e.2.2.toNat)),(14,.bool (!decide (O2 d.num e.2.2.toNat<0)))]) (λz w'=>w'=gg) ol ?_ ?_
  ·refine Qw<|Qa<|Qs U hg U U<|x (v:=.tuple #[oE oF (if O2 d.num e.2.2.toNat<0 then 0 else O2 d.num e.2.2.toNat),.bool (!decide (O2 d.num e.2.2.toNat<0))]) ((KM (k:=e.2.2) hf.M U U).D (OR (λv=>Result.ok (Next.value v) _) ?_))<|Qa<|QZ U U<|QZ U U<|x Ql<|Qb ?_
   ·rw[mn];by_cases ho:O2 d.num e.2.2.toNat<0
    ·simp[ho]
    simp[ho]
   exact⟨.bool true,oz,U⟩
  rintro z5 g gg rfl;refine Za (α:=OY×List (Int×OY)×Int) [(9,9),(13,13),(103,115)] (λz=>[(9,z.1),(13,oE oF z.2.2)]) (λz w'=>O2 (Yq d e).num e.2.2.toNat=z.2.2/\KD b4 mb r2 H (Yq d e) z.2.1 z.1 vk hX w'/\Q9 w'.heap b12 167 (QC e)/\gg.heap.size<=w'.heap.size) ol ?_ ?_
  ·refine Qm<|x (ZC U)<|xe<|QQ U (λg6=>?_) (λg6=>?_)
   ·have ho:O2 d.num e.2.2.toNat<0:=by simpa using g6
    have hL:Yq d e=⟨d.ord++[e.2.2],d.num.set e.2.2.toNat d.ord.length,d.mk',d.ed⟩:=by unfold Yq;rw[mo,OQ ho]
    have hcg:O2 (Yq d e).num e.2.2.toNat=(d.ord.length:Int):=by rw[hL];unfold O2;simp[oP,gc]
    refine Qm<|QI (Qv.ints (L:=[]) hf.o oa oe) rfl<|Qb<|Qm<|Qs rfl hg rfl rfl<|Qa<|Qe<|Xv (k:=e.2.2) hf.M rfl rfl λw22 g7 hM22=>xe ?_;have mu:=hf.nm.set gc (v:=(d.ord.length:Int)) oa;rw[<-gb]at mu;have hI6:=hf.setN hS gv g7 hM22 mu;have gh:=hg.J g7 (by simp;omega);refine Qw<|Qa<|Qs U gh U U<|Qe<|QB (us:=[[oE oF e.2.2]]) U U og oe ⟨rfl,rfl,Z⟩ λb114 w23 g8 hb114 hB114=>?_;have g9:=hI6.I g8;refine Qe<|Zb (news:=[oE oF e.2.2]) (L:=[]) g9.o U U U (hB114.at oe) (by simp[Value.oneCell']) (by show d.ord.length+1<=_;omega) g9.st.size λv24 w24 ho24 T hn24=>Qb ?_;have hk24:Qv 3 H.heap.size w24 v24 (d.ord++[e.2.2]):=Qv.snoc ho24;have hb12o:b12∉ob hW:=λE=>ot (Zf hh.o b12 E)
    have h4:=g9.setO hH hS T hk24 hn24;have:=g7.size;have:=g8.size;have:=T.size;refine⟨(v24,O7 m4 e.2.2 (oE oF d.ord.length),(d.ord.length:Int)),oz,hcg,?_,(gh.I g8).J T hb12o,oa⟩;simp only[];rw[hL];exact h4
   have ho:¬O2 d.num e.2.2.toNat<0:=by simpa using g6
   have hL:Yq d e=d:=by unfold Yq;rw[mo,OP ho]
   have kf:(if O2 d.num e.2.2.toNat<0 then 0 else O2 d.num e.2.2.toNat)=O2 (Yq d e).num e.2.2.toNat:=by rw[hL,OP ho]
   refine Qh<|⟨(hW,m4,if O2 d.num e.2.2.toNat<0 then 0 else O2 d.num e.2.2.toNat),oz,kf.symm,?_,hg,Lv _⟩
   rw[hL];exact hf
  rintro⟨vo5,m5,tn⟩ g w25 ⟨mv,h4,gh,hz25⟩;simp only[]at h4 mv;have mw:(Yq d e).ed=d.ed:=by unfold Yq;split <;> rfl
  have hgN:Z9 (Yq d e).num e.2.2=O2 (Yq d e).num e.2.2.toNat:=rfl;rw[hgN,mw,mv]at mt;have heN:YT 167 H.heap.size w25 hX d.ed:=by have:=h4.e;rw[mw]at this;exact this
  refine Qw<|Qs U h4.B4 U U<|Qa<|Qs U gh U U<|Qa<|x (Qy ⟨U,U,U,Z⟩) <|
   Qe<|QB (us:=[QC ((i:Int),e.2.1,tn)]) U U og (by exact(by decide:1*3<=1000000)) oz λb123 w26 my hb123 hB123=>?_
  have gi:=h4.I my;refine Qe<|Zb (m:=1) (news:=QC ((i:Int),e.2.1,tn)) (L:=[]) (Qq heN my) U U U (hB123.at oe) (λu hu=>by simp only[QC,oK,oI,or_false]at hu;rcases hu with rfl|rfl|rfl <;> rfl) (ot S.el) gi.st.size λmz w27 m2 m3 hn27=>?_
  have hk27:YT 167 H.heap.size w27 mz (d.ed++[((i:Int),e.2.1,tn)]):=YT.snoc m2;refine Q7 U<|Qe<|QE (gi.B4.J m3 (Zh gi.e hH)) U U oe (Qu m2) λw28 hs28 hB28=>xe ?_;have m6:=gi.setE hH hS gv m3 hk27 hn27 hs28 hB28;rw[<-mt]at m6;refine Qw<|QS U U<|Qa<|xe<|⟨(k4+1,Zu i d e,m5,vo5,mz),oh,oz,m6,oh,hc5,?_,?_,?_,h3⟩
  ·simp only[];rw[<-g0];exact(QaM i d [] e).2
  ·simp only[];rw[QaN,k9];omega
  simp only[];obtain⟨r1,h1⟩:=yL i d e;obtain⟨r2',h2⟩:=hY;exact⟨r2'++r1,by rw[h1,h2,LA]⟩
 refine Qh ?_;have I:k<q.a.ed.length:=by have hQ:(k:Int)<(q.a.ed.length:Int):=gr;omega
 have m7:=hq.ok.ed _ (Lk I);have htk:q.a.ed.take (k+1)=q.a.ed.take k++[q.a.ed[k]'I]:=Lm I;have h5:(q.a.ed.take (k+1)).filter (λe=>lft lf e.2.2)=(q.a.ed.take k).filter (λe=>lft lf e.2.2)++if lft lf (q.a.ed[k]'I).2.2=true then[q.a.ed[k]'I]else[]:=by
  rw[htk,L6];congr 1;by_cases h:lft lf (q.a.ed[k]'I).2.2=true
  ·simp[h]
  simp[h]
 have hfll:((q.a.ed.take k).filter (λe=>lft lf e.2.2)).length<=k:=LH (MD _ _) (by rw[Ly];omega);refine Zo ((q.a.ed.take k).filter (λe=>lft lf e.2.2)) λkept hkept=>?_;rw[hkept]at h5 V hfll;refine Zo (q.a.ed[k]'I) λe he=>?_;rw[he]at m7 h5;have m8:e.1=(e.1.toNat:Int):=oa
 have gb:e.2.2=(e.2.2.toNat:Int):=oa
 have gn:=UN (l:=lf) (s:=e.2.2) oa;have hp:e.1.toNat<q.n:=oa
 refine Qd<|Qg<|Qc<|xie kn.a.ed U U I λa52 hQ=>?_;rw[he]at hQ;refine x (Qx hQ U U)<|Qe<|Qo (us:=[oE oF 0,oE oF 0,oE oF 0]) U λb7 w8 gs hb7 h6=>Qe<|Qj (us:=QC e) h6 U U U U oA λH gt h6=>xe ?_;have J:O1 [] w7 H:=gs.O gt hb7;have p2:=J.size;have hA9:=kn.I J;have hB9:=hB.I (gq.D J);have ka:=V.I J;have hJ:=gp.I J;refine Qd<|ZI [] (Xx 0 8 [])<|p QF<|p (Y9 U)<|p (QR U)<|pq (λ_ G=>Qr (hA9.B.I G) U U)<|p (QR U)<|pq (λ_ G=>Qr (h6.I G) U U) <|
  p (λ_=>Zv (i:=e.2.2.toNat) U (OR (Value.int .i64) gb) oa)<|pq (v:=.bool (lft lf e.2.2)) (λ_ G=>(JN (i:=e.2.2.toNat) (hB9.I G) U oa).D (by rw[gn]))<|pe ?_
 have h7:O1 [] H { H with drawn:=H.drawn+1 }:=O1.C _ _
 refine QQ rfl (λkb=>?_) (λkb=>?_)
 ·rw[OQ kb]at h5;have hrow:=ka.own _ hp;have kc:∀b∈ob (rv e.1.toNat),w6.heap.size<=b/\b<w7.heap.size:=λb E=>⟨(Qi (V.own _ hp) b E).1,Zf (V.own _ hp) b E⟩;have m9:bE∉ob (rv e.1.toNat):=λE=>ot (kc _ E)
  have ke:b7∉ob (rv e.1.toNat):=λE=>ot (kc _ E)
  have ko:=QaU kept e.1.toNat;refine yj (O1 (ob (rv e.1.toNat)) H) [oC 0,oC 1,oC 2,oC 3,oC 4,oC 5,oC 6,oC 7,oC 8,oD 9,oD 10,oC 11,oD 12] mixed ol od (h7.any.Q (O1.C _ _)) ?_;refine p QF<|p (QR U)<|pq (λ_ G=>Qr (h6.J G ke) U U)<|p QF<|p (QR U) <|
   pq (λ_ G=>Qr (h6.J G ke) U U)<|p (λ_=>Zv (i:=e.1.toNat) U (OR (Value.int .i64) m8) hp)<|pq (λ_ G=>Qr (u:=rv e.1.toNat) (hJ.J G m9) U (QaT hp)) <|
   pq (λ_ G=>ZT (h6.J G ke) U U)<|pk<|QB (us:=[QC e]) U U og (by exact(by decide:1*3<=1000000)) oz λb71 gu hw hb71 hB71=>⟨(h7.any.Q (O1.C _ _)).Q hw.any,?_⟩
  have h8:O1 [] H gu:=(h7.D (O1.C _ _)).D hw;have hz10:=h8.size;refine pk<|Zb (m:=1) (news:=QC e) (L:=[]) (Qq hrow h8) U U U (hB71.at oe) (λu hu=>by simp only[QC,oK,oI,or_false]at hu;rcases hu with rfl|rfl|rfl <;> rfl) oa oa λvr q0 pa gj hn11=>⟨h8.any.Q gj,?_⟩
  have hBE11:=(hJ.I h8).J gj m9;have hlen:((oW q.n).map rv).length=q.n:=oe
  refine p (λ_=>Zv (i:=e.1.toNat) U (OR (Value.int .i64) m8) hp)<|pkl (hl:=by kernel_rfl)<|QE (j:=0+e.1.toNat*1) (u:=vr) hBE11 U U (by rw[hlen];omega) (Qu pa) λhy ha hBE12=>pe ?_;have g5:Q9 hy.heap bE 57 ((oW q.n).map (Vz rv e.1.toNat vr)):=by
   have e1:=Qgf id q.n rv e.1.toNat vr;simp only[id]at e1;rw[<-e1];simpa using hBE12
  have hvn:∀b∈ob vr,b∈ob (rv e.1.toNat)\/H.heap.size<=b:=λb E=>(hn11 b E).imp id (λh=>oa);have pc:=ka.app hp (YT.snoc pa) (h8.any.Q gj) hvn;have pd:=pc.J ha (λi hi b E=>by have:=(Qi (pc.own i hi) b E).1;simp only[oH];omega);rw[QeK kept e m7.1,<-h5]at pd;refine Qw<|QS U U<|Qa<|xe ?_;exact⟨(k+1,Vz rv e.1.toNat vr),oh,La,I,(((hP.D J).D h8).then gj (λb E=>.inr (kc b E).1)).Q ha,g5,pd⟩
 rw[OP (by rw[kb];decide),LK]at h5;refine Qh<|Qw<|QS U U<|Qa<|xe ?_;exact⟨(k+1,rv),oh,La,I,(hP.D J).D h7,(hJ.I h7),by simp only[];rw[h5];exact ka.I h7⟩
open Go.Sort
abbrev Rz:={ x:Int×Int×Int×Int // 0<=x.1/\x.1<4096 }
instance:Inhabited Rz:=⟨⟨(0,0,0,0),og⟩⟩
abbrev qj (x:Rz):LV:=[oE oF x.1.1,oE oF x.1.2.1,oE oF x.1.2.2.1,oE oF x.1.2.2.2]
abbrev RzO (base:Nat)(w:OX)(v:OY)(l:List Rz):Prop:=w.ownsRow base 241 4 v l.length (l.flatMap qj)
theorem QoM (x y:Rz)(W:OX):Calls prog 241 #[.agg (qj x).toArray,.agg (qj y).toArray] W λe w'=>e=.returned (oE oF (x.1.1 - y.1.1))/\∃q os',w'=grow (W.drewN q) os':=by
 have E:IntKind.i64.wrap (x.1.1 - y.1.1)=x.1.1 - y.1.1:=YM ⟨ou x.2 y.2,ou x.2 y.2⟩
 go_enter func241,ntmps241
 go_wp2
 go_ret;exact⟨by rw[<-E];rfl,0,_,by rw[alloc_eq_grow,alloc_eq_grow,grow_grow];rfl⟩
theorem jS (x:Rz):(qj x).length=4:=rfl
theorem jR:∀l:List Rz,(l.flatMap qj).length=l.length*4
 | []=>rfl
 | x::l=>by rw[LG,Ll,jR l,jS,LS];omega
theorem Qdm {l:List Rz}(I:j<l.length*4):(l.flatMap qj)[j]?=some ((flatK qj 4 l.toArray)[j]!):=by
 have E:j / 4<l.length:=Nat.div_lt_of_lt_mul oa;have G:j % 4<4:=OI _ og;rw[get_flatK _ _ _ _ (oy I)];have J:=XX qj 4 jS l (j / 4) E;have O:(l.flatMap qj)[j]?=(qj (l[j / 4]'E))[j % 4]?:=by
  rw[<-J,LX,OQ G,MW];congr 1;omega
 rw[O];have S:(l.toArray)[j / 4]! = l[j / 4]'E:=by simp[E]
 rw[S];have H:j % 4<(qj (l[j / 4]'E)).length:=G;exact(LU H).D (OR some (getElem!_pos (qj (l[j / 4]'E)) (j % 4) H).symm)
theorem QgC:SWO (ltOf λx y:Rz=>x.1.1 - y.1.1) where
 irrefl x:=by unfold ltOf;simp
 trans x y z h1 h2:=by unfold ltOf at *;simp at *;omega
 ntrans x y z h1 h2:=by unfold ltOf at *;simp at *;omega
def qi (l:List Rz):List Rz:=(pdq (ltOf λx y:Rz=>x.1.1 - y.1.1) l.toArray 0 l.toArray.size (Go.Lib.bitLen l.toArray.size) true true).toList
theorem qZ (l:List Rz):(qi l).length=l.length:=by
 have h:=(pdq_sorts (ltOf λx y:Rz=>x.1.1 - y.1.1) QgC l.toArray 0 l.toArray.size (Go.Lib.bitLen l.toArray.size) true true (Lo _) (Lv _) (Or.inl U)).1.1;unfold qi;simpa using h
theorem QeD {base:Nat}{v:OY}{l:List Rz}(h:RzO base w v l)(hl:l.length<=1099511627776):
  Q3 prog 240 [v,.func (.func 241) #[] #[]] w λ_ w'=>O1 (ob v) w w'/\RzO base w' v (qi l):=by
 unfold Q3;rcases h.2 with⟨rfl,h0⟩|⟨g,cap,cur,rfl,hb,I,hf,hh,hm,ho⟩
 ·have hp:l=[]:=Ls h0;subst hp;have H:=AnyF.slices_SortFunc_none Tryz.sortRm none 0 (.func (.func 241) #[] #[]) w;change Calls prog 240 _ _ _ at H;refine Calls.mono H λe w' J=>?_;obtain⟨rfl,rfl⟩:=J;rw[show qi []=[] from Ls (qZ [])];exact⟨O1.Z _ _,h⟩
 have V:g<w.heap.size:=(LO.1 I).1;have hH:HoldsK qj 4 w g 0 l.toArray:=by
  intro j E;rw[size_flatK,LR]at E;have Y:=Qdm E;rw[<-ho,LX,OQ E]at Y;constructor
  ·show(match w.heap[g]? with|some (.cells c _ _)=>if(none:Option _).isSome then none else c[0+j]?|_=>none)=_
   rw[I];simp only[oX,Ow,Ox,if_false];rw[<-Mi,Y];rfl
  show(match w.heap[g]? with|some (.cells _ _ (lo,hi))=>decide (lo<=0+j) && decide (0+j<hi)|_=>false)=false
  rw[I];simp
 have eg:∀args w,(callFunc 241 args).run prog w=.ok (.enter 241 args) w:=enters_of func241 od U;have H:=AnyQ.slices_SortFunc_eq Tryz.sortRm 4 isAgg241 sizeOf241 qj jS (λx v hv=>by simp at hv;rcases hv with rfl|rfl|rfl|rfl <;> rfl) (λx y=>x.1.1 - y.1.1) QgC 241 #[] g 0 cap l.toArray w eg (λm os dk _ x y=>QoM x y _) hH V (by simp;omega)
 change Calls prog 240 _ _ _ at H;rw[LR]at H;refine Calls.mono H λe w' J=>?_;obtain⟨rfl,n,os,rfl⟩:=J;refine Zo (qi l).toArray λG O=>?_;have S:G.size=l.length:=by rw[<-O];simpa using qZ l
 have hq:qi l=G.toList:=by rw[<-O]
 have ha:pdq (ltOf λx y:Rz=>x.1.1 - y.1.1) l.toArray 0 l.toArray.size (Go.Lib.bitLen l.toArray.size) true true=G:=by rw[<-O];unfold qi;simp
 rw[LR]at ha;rw[ha,hq];have T:(sortWorldK qj 4 w g 0 n G os).heap=w.heap.modify g (onCells (putCells id 0 (flatK qj 4 G)))++os:=rfl;refine⟨⟨rfl,U,U,?_,λk hk hn=>?_⟩,?_⟩
 ·rw[T,MP,Mk];omega
 ·rw[T,Mj,Mk,OQ hk,Mw,OP (λe=>hn (by simp[ob,e]))]
 refine⟨jR _,.inr ⟨g,cap,putCells id 0 (flatK qj 4 G) cur,by simp[S],hb,?_,by simp[S];exact hf,hh,by simp[putCells,hm],?_⟩⟩
 ·rw[T,Mj,Mk,OQ V,Mw,OQ rfl,I];rfl
 apply M7;intro j;rw[LX];by_cases E:j<G.toList.length*4
 ·rw[OQ E,Qdm E,Mi];have hr:j<cur.size:=by simp[S]at E;omega
  have hs:j<(flatK qj 4 G).size:=by simpa using E
  simp only[putCells,Oo,Od hr,Ot,ON,oX,true_and,OQ hs,OC,id]
 rw[OP E,MR];rw[jR];omega
end Go.Lg
