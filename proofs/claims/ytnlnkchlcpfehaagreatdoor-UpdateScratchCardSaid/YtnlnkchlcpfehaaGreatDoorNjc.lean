/- Merged out of 29 texts. -/
import Derived.Test.YtnlnkchlcpfehaaGreatDoorNjb
import Derived.Shelf.SlSortCmp.NoneTotal
import Derived.Ground.SlsfProg
import Derived.Tactics
import Derived.Sort.Grow
import Derived.Deep.Draws
import Derived.Sort.Statements
import Derived.Shelf.Lay
import Derived.Tactics2
import Derived.Laws.IdiomStrings
set_option maxHeartbeats 40000000
set_option maxRecDepth 100000
set_option linter.all false
open Go Go.Lg
open Go.Value renaming int->oG
open Go.IntKind renaming i64->oH
open _root_.List renaming mem_singleton->oJ,replicate->oK,not_mem_nil->oL,mem_cons->oM,length_append->oN,length_singleton->oP,getD->oQ,length->oR,range->oT,map_cons->oX,append_assoc->oY,flatMap_cons->Od,nil_append->Oh,all_cons->Ok,append_nil->Ol,cons_append->On,all_eq_true->Ow,getElem?_set_ne->OE,length_nil->OM,take_zero->ON,flatMap_nil->OS
open _root_.Bool renaming and_eq_true->oO,not_eq_true'->OA,false_eq_true->OJ
open _root_.Array renaming replicate->oW,getElem?_eq_getElem->Oj,getElem?_mapIdx->Oy
open _root_.Nat renaming zero_add->oZ,add_zero->OH,sub_zero->OP,zero_le->OY
open _root_.Decidable renaming byContradiction->Oe
open _root_.Int renaming toNat_natCast->Ov
open _root_.Option renaming map_some->Oz,isSome_none->OI
open Go renaming World->O8,Value->O9,Operand->xd,Program->xh
open Go.Proofs Go.Proofs.Tryz
open Go.Proofs.Tryz renaming prog->sV
variable {w w' W':O8}{L L' ds ns av:LN}{n t i sz b T j N E g ty id cap b1 B kt lo hi b2 bp M gp gf:Nat}{a:QU}{cs us news capt:LV}{α:Type}{y:xd}{c:Zy}{z va ve vm vt v' vl vs vx vb vk vu:O9}{l ul u al fb out rs:LI}{f:Fr}{P:xh}{lf:Lf}{fn:Func}{aa:List QU}{s rk:Int}{o:Oper}{d:xL}{af:xJ}{gd:xC}{K:xG}{co:List Y0}{D:xE}{qs:List IV}{at_:Array Nat}{ops:xK}{qx:List XV}{ks:List KV}
namespace Go.Lg
structure Sty where
 c:CL
 p:AV
 vq:O9
 qs:List TV
 s:AV
 vt:O9
 ts:List TV
 vs:O9
 vx:O9
 vk:O9
 qx:List XV
 ks:List KV
 bm:Nat
 mm:List (ByteArray×O9)
abbrev Sty.cells (q:Sty):LV:=[q.c.ve,q.c.vc,q.c.vr,q.c.vx,q.c.vk,q.p.va,sS q.p.a.st,q.p.vm,q.p.ve,q.vq,q.s.va,sS q.s.a.st,q.s.vm,q.s.ve,q.vt,q.vs,q.vx,q.vk,.map (some q.bm)]
structure Kk (L:LN)(b:Nat)(H:xI)(q:Sty):Prop where
 B:QP H b 246 q.cells
 bL:b∉L
 c:ZG L H q.c
 p:ZE L H q.p.va q.p.vm q.p.ve q.p.a
 s:ZE L H q.s.va q.s.vm q.s.ve q.s.a
 qs:Kj L H q.vq q.qs
 ts:Kj L H q.vt q.ts
 k1:QG L H q.vs (szs q.c.Z.co)
 k2:jT L H q.vx q.qx
 k3:jK L H q.vk q.ks
 mL:q.bm∉L
 m:Yh J2 H q.bm q.mm
theorem Kk.J {L:LN}{b:Nat}{w w':O8}{q:Sty}(h:Kk L b ↑w q)(E:sW w w'):Kk L b ↑w' q:=⟨h.B.J E,h.bL,h.c.J E,h.p.J E,h.s.J E,h.qs.J E,h.ts.J E,h.k1.J E,h.k2.J E,h.k3.J E,h.mL,h.m.J E⟩
theorem Kk.st {L:LN}{b:Nat}{w w':O8}{q:Sty}(h:Kk L b ↑w q)(E:xj L w w'):Kk L b ↑w' q:=⟨h.B.O E h.bL,h.bL,h.c.st E,h.p.st E,h.s.st E,h.qs.st E,h.ts.st E,h.k1.st E,h.k2.st E,h.k3.st E,h.mL,h.m.O E h.mL⟩
theorem Kk.up {L L':LN}{b:Nat}{H:xI}{q:Sty}(h:Kk L b H q)(E:∀b∈L',b∈L\/H.size<=b):Kk L' b H q :=
 ⟨h.B,λJ=>by rcases E _ J with I|I;exact h.bL I;have:=h.B.lt;omega,h.c.up E,h.p.up E,h.s.up E,h.qs.up E,h.ts.up E,h.k1.up E,h.k2.up E,h.k3.up E,λJ=>by rcases E _ J with I|I;exact h.mL I;have:=h.m.lt;omega,h.m⟩
structure Qug (q:Sty):Prop where
 ok:Zf q.c.Z=0
 p:xz (auts q.c.Z.co)=some (q.p.a,q.qs.map (·.2))
 s:xz (auts q.c.Z.co++auts q.c.Z.rq)=some (q.s.a,q.ts.map (·.2))
 ex:q.qx.map (·.x)=q.c.Z.ex
 cs:q.ks.map (·.k)=q.c.Z.cs
 m:zm q.c.co.length q.mm (q.qs.map (·.2))
theorem Y3 {l:List Y0}(h:∀x∈l,Zo x.a):∀a∈auts l,Zo a:=λa E=>by
 obtain⟨x,hx,rfl⟩:=Ly.1 E;exact h x hx
def stp (a:QU)(s v:Int):Int×Bool×Int:=if cks a s≠0 then(0,false,cks a s)else if v∉a.al then(0,false,9)else if 0<=xw a.ed s v then(xw a.ed s v,true,0)else(0,false,0)
theorem Qmo (h:ZE L ↑w va vm ve a)(s v:Int):
  QZ sV 257 [.agg #[va,sS a.st,vm,ve],sS s,sS v] w λr w'=>r=.tuple #[sS (stp a s v).1,.bool (stp a s v).2.1,sS (stp a s v).2.2]/\sW w w':=by
 have E:stp a s v=(if cks a s≠0 then(0,false,cks a s)else if v∉a.al then(0,false,9)else if 0<=xw a.ed s v then(xw a.ed s v,true,0)else(0,false,0)):=rfl
 refine Zd (stp a s v) λR hR=>?_;rw[hR]at E ⊢;refine Zt func257 ?_;refine Qc<|Zg [va,sS a.st,vm,ve] λb3 w1 Z he O=>x Qh<|x Qh<|Qb<|Qd<|Qc<|QV O U U<|Qa<|Qx<|(KH (h.J Z) s).S ?_;rintro r2 w2 ⟨rfl,S⟩;refine Qb ?_;have I:=Z.I S;refine Qj<|Zu U U<|xe<|QY rfl (λJ=>?_) (λJ=>?_)
 .rw[O1 J]at E;subst E;refine Qj<|x Qh<|x Qh<|Qb<|Qi ⟨[_,_,_],oC,U,I⟩
 rw[O0 J]at E;refine Qe<|Qd<|Qc<|Qm U (O.J S) U U<|Qa<|Qx<|(Yn (h.al.J I) v).S ?_;rintro r3 w3 ⟨rfl,rfl⟩;refine x (yM U)<|xe<|QY rfl (λT=>?_) (λT=>?_)
 .rw[O1 T]at E;subst E;refine Qc<|x Qh<|x Qh<|Qb<|Qi ⟨[_,_,_],oC,U,I⟩
 rw[O0 T]at E;refine Qe ?_;have H:cks a s=0:=Lq.1 J;have ha:Jt a=0:=by
  unfold cks at H;refine Lq.1 λV=>?_;rw[O1 V]at H;exact V H
 have hsr:0<=s/\s<a.st:=by
  unfold cks at H;rw[O0 (by rw[ha];decide)]at H;refine Lq.1 λV=>?_;rw[O1 oa]at H;cases H
 refine Qd<|Qc<|QV (O.J S) U U<|Qa<|Qa<|Qx<|(Qeo (h.ed.J I) ((Z0 a).1 ha) s v hsr.1 hsr.2).S ?_;rintro r4 w4 ⟨rfl,hb⟩;refine Qb<|Qj<|x (YI U U)<|xe<|QY rfl (λY=>?_) (λY=>?_)
 .rw[O1 Y]at E;subst E;refine Qj<|x Qh<|x Qh<|Qb<|Qi ⟨[_,_,_],oC,U,I.I hb⟩
 rw[O0 Y]at E;subst E;refine Qe<|Qc<|x Qh<|x Qh<|Qb<|Qi ⟨[_,_,_],oC,U,I.I hb⟩
theorem Qkk (es:List Ed)(s v:Int):xw es s v=(xx es s v).getD (-1):=by
 induction es with
 | nil=>rfl
 | cons e es ih =>
  rw[xw,xx];by_cases h:e.1=s/\e.2.1=v
  .rw[O1 h,O1 h];rfl
  rw[O0 h,O0 h];exact ih
theorem Qqk (h:Zo a){v:Int}(J:0<=s)(O:s<a.st)(E:v∈a.al):(stp a s v).2.1=(xx a.ed s v).isSome:=by
 have H:cks a s=0:=by unfold cks;rw[O0 (by rw[(Z0 a).2 h];decide),O0 oa]
 unfold stp;rw[O0 (by rw[H];decide),O0 (oA E),Qkk];cases I:xx a.ed s v with
 | none=>rfl
 | some t =>
  have:=(h.ed _ (QdR I)).2.2.2.1;rw[Option.getD_some,O1 (oA this)];rfl
theorem Qc1 {q:Sty}{t:LI}(hS:Kk L b ↑w q)(E:QG L' ↑w vt t)(H:q.c.co.length<=t.length):
  QZ sV 106 [sP b,vt] w λr w'=>sW w w'/\∃v1 v2,r=.tuple #[v1,v2]/\QG L' ↑w' v1 (t.take q.c.co.length)/\QG L' ↑w' v2 (t.drop q.c.co.length):=by
 refine Zt func106 ?_;refine Qc<|x Qh<|Qb<|Qj<|Z7 U<|QN U<|Qm U hS.B U U<|QE hS.c.co.arr U<|Qb<|Qd<|ZH [] (Xf 0 9 [])<|p QA<|p QA<|p QA<|QtT (hi:=q.c.co.length) U E U U U H λv1 I=>p QA<|p QA<|QqD (lo:=q.c.co.length) U E U U H λv2 J =>
  p ZL<|p ZL<|pe ?_
 refine Qi ⟨[_,_],oB,xj.X _ _,v1,v2,U,?_,?_⟩
 .rw[Nat.mul_one,<-NV]at I;have e:(t.take q.c.co.length).length=q.c.co.length:=by rw[LB];omega
  unfold QG;rw[e];exact I
 exact QG.drop J
theorem QjV {v:Int}{y:Y0}{l:List Y0}{ss:LI}:rfr v i (y::l) (s::ss)=if v∈y.a.al/\(xx y.a.ed s v).isSome=false then(i:Int)else rfr v (i+1) l ss:=rfl
theorem Qe1 {q:Sty}{vr:O9}{v:Int}(hS:Kk L b ↑w q)(hr:QG L' ↑w vr rs)(ho:∀x∈q.c.rq,Zo x.p.a)(hv:Vt (auts q.c.Z.rq) rs):
  QZ sV 187 [sP b,vr,sS v] w λr w'=>r=sS (rfr v 0 q.c.Z.rq rs)/\sW w w':=by
 have h4:=hS.c.rq.arr.le;have h5:rs.length=q.c.rq.length:=by rw[hv.1];unfold auts;show((q.c.rq.map IV.it).map _).length=_;simp
 refine Zd (rfr v 0 q.c.Z.rq rs) λR hR=>?_;rw[hR];refine Zt func187 ?_;refine Qc<|Qb<|Qd<|Qj<|Z7 U<|QN U<|Qm U hS.B U U<|QE hS.c.rq.arr U<|Qa<|xe<|Q2 (α:=Nat) [(6,11),(18,44)] (λz=>[(18,sS z)]) (λz w'=>z<=q.c.rq.length/\sW w w'/\rfr v z ((q.c.rq.drop z).map (·.it)) (rs.drop z)=R) (λz=>q.c.rq.length - z) 0 Lb
  ⟨Lp _,xj.Y _ _,hR⟩ ?_
 rintro k g w1 ⟨hk,J,E⟩;refine Zi rfl U (λY=>?_) (λY=>?_)
 .refine Qt ?_;have hp:q.c.rq.length<=k:=by have hq:¬(k:Int)<(q.c.rq.length:Int):=Y;omega
  rw[Lx hp]at E;have hs:R=-1:=E.symm;refine Qc<|Qb<|Qi ⟨[_],Lb,by rw[hs];rfl,J⟩
 have H:k<q.c.rq.length:=by have hq:(k:Int)<(q.c.rq.length:Int):=Y;omega
 have I:k<rs.length:=oa
 have Z:=Lm H;rw[Kq H,Zz I,QjV]at E;have O:∀hz:k<(auts q.c.Z.rq).length,0<=rs[k]'I/\rs[k]'I<((auts q.c.Z.rq)[k]'hz).st:=λhz=>hv.2 k I hz;have hg:k<(auts q.c.Z.rq).length:=by unfold auts;show k<((q.c.rq.map IV.it).map _).length;simpa using H
 have O:=O hg;have ht:(auts q.c.Z.rq)[k]'hg=(q.c.rq[k]'H).p.a:=by unfold auts;show((q.c.rq.map IV.it).map _)[k]'_=_;simp[IV.it]
 rw[ht,Zx I]at O;rw[Zx I]at E;refine Qe<|Qd<|Qn<|Qj<|xp Yj (hS.c.rq.arr.J J) U U H λh6 hh=>?_;refine Zd (q.c.rq[k]'H) λy hy=>?_;rw[hy]at hh Z E O;have S:=(hS.c.rq.each y Z).J J;have hi:=ho y Z;refine x (Qu hh U U)<|QL [.string .empty,nS,sS 0,nS,nS] λb8 w2 hw h0 V=>x Qh <|
  QJ (QK y) V ⟨U,S.al.one,U,S.mr.one,S.ed.one,La⟩ λw3 h1 V=>xe ?_
 have T:sW w1 w3:=hw.Q h1 h0;refine Qd<|Qc<|QN U<|Qm U V U U<|Qa<|Qx<|(KJ (S.al.J T) hi.ali v).S ?_;rintro r4 w4 ⟨rfl,rfl⟩;refine x (yM U)<|xe<|QY rfl (λha=>?_) (λha=>?_)
 .rw[O0 (λe=>ha e.1)]at E;refine Qt<|Qq<|QH U U<|Qa<|xe ?_;exact⟨k+1,oa,Lb,H,J.I T,E⟩
 have hj:v∈y.p.a.al:=Lq.1 ha;have hl:=Qqk hi O.1 O.2 hj;refine Qe<|Qd<|ZH [] (Xf 0 15 [7])<|p (QF U)<|pq (λ_ hc=>Q7 (us:=Zq y.p) (V.O hc oe) rfl rfl rfl)<|p QA<|p QA<|pic (i:=k) rfl ((hr.J J).J T) rfl rfl I λh7 h2 =>
  pq (λ_ hc=>Qy (h2.J hc) U)<|p QA<|pk<|xg<|(Qmo ((S.J T).J (xj.X _ _)) (xo rs k) v).S ?_
 rintro r5 w5 ⟨rfl,h3⟩;have hm:=(xj.X [] w4).I h3;refine⟨hm,?_⟩;refine p QA<|p (λ_=>Zw U U)<|p (λ_=>Zw U U)<|p (λ_=>Zw U U)<|p ZL <|
  p ZL<|p ZL<|pe ?_
 have hn:=(J.I T).I hm;refine Qj<|x (Zr U)<|xe<|Q6 rfl (λhb=>?_) (λhb=>?_)
 .have he:(xx y.p.a.ed (xo rs k) v).isSome=false:=by rw[<-hl];simpa using hb
  rw[O1 ⟨hj,he⟩]at E;refine Qj<|Qb<|Qi ⟨[_],Lb,by rw[<-E];rfl,hn⟩
 have he:¬(xx y.p.a.ed (xo rs k) v).isSome=false:=by rw[<-hl];simpa using hb
 rw[O0 (λe=>he e.2)]at E;refine Qe<|Qq<|QH U U<|Qa<|xe ?_;exact⟨k+1,oa,Lb,H,hn,E⟩
open Go.RowKit
def Xp (L:LN)(W W':O8):Prop:=∀(k:Nat) (o:Obj),k∉L->W.heap[k]?=some o->o.isCells=true->W'.heap[k]?=some o
theorem Xp.refl (L:LN)(W:O8):Xp L W W:=λ_ _ _ h _=>h
theorem Xp.I {A B C:O8}(h:Xp L A B)(k:Xp L B C):Xp L A C:=λi o E I H=>k i o E (h i o E I H) H
theorem Xp.O {W:O8}(h:xj L W W'):Xp L W W':=λk _ H E _=>(h.block k (LP.1 E).1 H).I E
theorem At.cst {W:O8}{a:Addr}(h:At L ↑W a us)(I:Xp L W W')(J:W.heap.size<=↑W'):At L ↑W' a us:=by
 refine⟨h.out,λu hu=>Mw (h.lt u hu) J,λj u hu=>?_⟩;have E:=h.cell j u hu;unfold cel at E ⊢;rw[Yz]at E ⊢;cases H:W.heap[a.block]? with
 | none=>rw[H]at E;cases E
 | some o =>
  rw[H]at E;cases o with
  | cells c t m=>rw[I a.block _ (h.out u (MA hu)) H rfl];exact E
  | _=>cases E
theorem Zk.cst {L:LN}{W W':O8}{v:O9}{n sz:Nat}{cs:LV}(h:Zk L ↑W v n sz cs)(E:Xp L W W')(H:W.heap.size<=↑W'):Zk L ↑W' v n sz cs :=
 ⟨h.1,h.2.1,h.2.2.imp id λ⟨a,cap,I,J,O⟩=>⟨a,cap,I,J,O.cst E H⟩⟩
structure LwC (B:Nat)(L:LN)(W W':O8):Prop where
 lw:Lw B L W W'
 cst:Xp L W W'
theorem LwC.I {B:Nat}{L:LN}{E w w':O8}(h:LwC B L E w)(k:LwC B L w w'):LwC B L E w':=⟨h.lw.I k.lw,h.cst.I k.cst⟩
def rdC {α:Type}(B:Nat)(L:LN)(I:List α->O8->Prop)(X:Exit->List α->O8->Prop)(xs:List α)(W:O8):Exit->LN->Fr->O8->Prop
 | .normal,_,_,W'=>Vl B L W W'/\Xp L W W'/\I xs W'
 | .ret,_,_,W'=>Vl B L W W'/\X .ret xs W'
 | .exit i,_,_,W'=>Vl B L W W'/\X (.exit i) xs W'
 | _,_,_,_=>False
theorem Qev {m:Nat}{Q:Exit->LN->Fr->O8->Prop}{g:xd}{ps:LN}{assign body:Code}(L:LN)(Y:1<=m)
    [hF:Fu P gf fn]  (hg:ev f g=.func (.func gf) #[] capt.toArray) {encs:α->LV} {S Sp:List α->Prop}  (hp:∀p∈ps,p<n) (hm:∀x,(encs x).length=ps.length)
  (hn:SeqStopsK (fen none) (m - 1) P gf capt.toArray (λx=>(encs x).toArray) (LwC ↑w L) S Sp N w)
  (I:List α->O8->Prop) (hI:∀s,YL ↑w (I s)) (X:Exit->List α->O8->Prop) (hX:∀e s,YL ↑w (X e s)) (h0:I [] w) (A:Fr->α->Fr->O8->Prop) (hA:∀x E,YL ↑w (A f x E))
  (hb:∀l pre x W,I pre W->WG (some l) (m - 1 - 1) P n assign (QeK (λZ E W'=>Z=[]/\Vl ↑w L W W'/\Xp L W W'/\I pre W'/\A f x E W') (λ_ _ _ _=>False)) [] (QeI f ps (encs x)) W)
  (he:∀l pre x E W,I pre W->A f x E W->pre.length<N->WG (some l) (m - 1 - 1) P n body (rdC ↑w L I X (pre++[x]) W) [] E W)
  (hq:∀D xs W,↑w<=D->S xs->I xs W->W.heap[D]?=some (.deferred (some []))->Q .normal (D::ds) f W)
  (hh:∀D e pre W,↑w<=D->Sp pre->X e pre W->W.heap[D]?=some (.deferred (some []))->(e=.ret\/∃i,e=.exit i)->Q e (D::ds) f W):
  WG none m P n (.rangeFunc g ps.toArray assign body) Q ds f w:=by
 unfold WG at hb he ⊢;intro a O;have eg:∀args w,(callFunc gf args).run P w=.ok (.enter gf args) w:=by
  intro args w;have Y:¬fn.name = "runtime.NumGoroutine" := by simpa using hF.nm
  have T:¬fn.body=none:=by have:=hF.b;intro e;rw[e]at this;cases this
  simp[callFunc,hF.f,Y,T]
 have keep:∀{W W':O8},Vl ↑w L W W'->KeepsFrom ↑w W W':=λh=>⟨h.lw.size,λk o _ hk ho=>h.other k o hk ho⟩;refine wpIn_rangeFunc_ownH (F:=fen none) U Y (gf:=gf) (lb:=capt.toArray) (by rw[O.eval];exact hg) La eg hn (λh k=>h.I k)
  (λW l o o' hl ho hs _=>⟨⟨U,U,U,oe,λk hk _=>World.putObj_heap_other oa⟩,λk o2 _ hk hc=>by
   have ht:k≠l:=λe=>by subst e;rw[ho]at hk;cases hk;rw[hs]at hc;cases hc
   rw[World.putObj_heap_other ht];exact hk⟩) (Below.refl _ _) (λx=>by simp[hm x]) I
  (λc pre W=>match c with| .ret=>X .ret pre W| .exit i=>X (.exit i) pre W|_=>False) (YL.own hI) (λc=>YL.own λs=>?_) h0
  (λx V W=>∃E,Xh n [] V E/\A f x E W) (λx V=>YL.own λ_=>YL.ex λE=>YL.and (YL.pure _) (hA x E)) ?_ ?_ ?_ ?_
 .cases c <;> first|exact hX _ s|exact YL.pure _
 .intro l pre x W K hi hK;have hr:Xh n [] { tmps:=(ps.toArray.zip (encs x).toArray).foldl (λt (p,v)=>t.setIfInBounds p v) a.tmps,defers:=[] } (QeI f ps (encs x)):=by
   have T:Xh n [] { a with defers:=[] } f:=⟨O.size,U,O.get⟩
   have J:=qG ps (encs x) _ _ T hp;have e:(ps.toArray.zip (encs x).toArray).foldl (λt (p,v)=>t.setIfInBounds p v) a.tmps=(ps.zip (encs x)).foldl (λt (x:Nat×O9)=>t.setIfInBounds x.1 x.2) a.tmps:=oe
   rw[e];exact J
  refine wpIn_mono (hb l pre x W hi _ hr) ?_;rintro e V W' ⟨Z,E,T,_,J⟩;cases e with
  | normal=>obtain⟨rfl,h4,hv,H,h6⟩:=J;exact hK V W' (keep h4) ⟨h4.lw,hv⟩ H ⟨E,T,h6⟩
  | exit id=>exact J.elim
  | goto l=>exact J.elim
  | ret=>exact J.elim
  | panic ch=>exact J.elim
  | outgrown=>exact J.elim
 .rintro l pre x V W _ _ hi ⟨E,T,J⟩ hw;refine wpIn_mono (he l pre x E W hi J hw V T) ?_;rintro e hy W' ⟨Z,hz,h4,_,H⟩;cases e with
  | normal=>exact⟨keep H.1,⟨H.1.lw,H.2.1⟩,H.2.2⟩
  | exit id=>exact⟨keep H.1,H.2⟩
  | goto l=>exact H.elim
  | ret=>exact⟨keep H.1,H.2⟩
  | panic ch=>exact H.elim
  | outgrown=>exact H.elim
 .intro D xs W hD hS hi hd;exact⟨D::ds,f,⟨O.size,by rw[show coll (D::ds)={ target:=.collected D,args:=#[] }::coll ds from rfl,O.defers],O.get⟩,λ_ _=>rfl,hq D xs W hD hS hi hd⟩
 intro D c pre W hD hS hx hd;have hj:Xh n (D::ds) { a with defers:={ target:=.collected D,args:=#[] }::a.defers } f:=⟨O.size,by rw[show coll (D::ds)={ target:=.collected D,args:=#[] }::coll ds from rfl,O.defers],O.get⟩
 cases c with
 | ret=>exact wpIn_ret ⟨_,f,hj,λ_ _=>U,hh D .ret pre W hD hS hx hd (.inl U)⟩
 | exit i=>exact wpIn_exit ⟨_,f,hj,λ_ _=>U,hh D (.exit i) pre W hD hS hx hd (.inr ⟨i,U⟩)⟩
 | _=>exact hx.elim
theorem xy2 {m:Nat}{rest:xK}{pS:String}{x z:xd}{l:Nat}{R:Ending->O8->Prop}
  (hx:ev f x=.func (.yield l) #[] #[]) (E:YieldAt (fen none) (m - 1) P l #[ev f y,ev f z] w R) (hK:∀e w',R e w'->∃v,e=.returned v/\Ki P m ops K rest (QT f d v) w')
  (H:Z4 ops f ⟨d,.call ⟨.value x,#[y,z],at_⟩,ty,pS,af,gd⟩=true:=by rfl):
  Ki P m ops K (⟨d,.call ⟨.value x,#[y,z],at_⟩,ty,pS,af,gd⟩::rest) f w:=by
 obtain⟨fn,tmps,assign,body,I,J⟩:=E;have O:(execOp (ev f) ⟨d,.call ⟨.value x,#[y,z],at_⟩,ty,pS,af,gd⟩).run P w=.ok (.round l fn tmps assign body) w:=by
  simp[execOp,resolve,hx,Deferred.ofValue,invoke,I]
 unfold Ki;rw[H];simp only[XOY,O,upY,cond_true];exact J.mono λe w' h=>by obtain⟨v,rfl,hk⟩:=hK e w' h;exact hk
def wrf (rq:List Y0)(rs:LI):LI->List (Int×Int)
 | []=>[]
 | v::l=>if 0<=rfr v 0 rq rs then(v,rfr v 0 rq rs)::wrf rq rs l else wrf rq rs l
theorem QcL (rq:List Y0)(rs:LI)(v:Int):∀l,wrf rq rs (l++[v])=wrf rq rs l++if 0<=rfr v 0 rq rs then[(v,rfr v 0 rq rs)]else[]
 | []=>by simp only[Oh,wrf]
 | a::l=>by
  simp only[On,wrf,QcL rq rs v l];by_cases h:0<=rfr a 0 rq rs
  .rw[O1 h,O1 h];rfl
  rw[O0 h,O0 h]
theorem Uq (rq:List Y0)(rs:LI)(b:LI):∀a,wrf rq rs (a++b)=wrf rq rs a++wrf rq rs b
 | []=>rfl
 | x::a=>by
  simp only[On,wrf,Uq rq rs b a];by_cases h:0<=rfr x 0 rq rs
  .rw[O1 h,O1 h];rfl
  rw[O0 h,O0 h]
theorem Qna (rq:List Y0)(rs:LI)(l:LI)(k:Nat):(wrf rq rs (l.take k)).length<=(wrf rq rs l).length:=by
 have h:=Uq rq rs (l.drop k) (l.take k);rw[MT]at h;rw[h,Ln];omega
theorem Qjf {rq:List Y0}{k:Nat}(h:k<l.length):wrf rq rs (l.take (k+1))=wrf rq rs (l.take k)++if 0<=rfr (xo l k) 0 rq rs then[(xo l k,rfr (xo l k) 0 rq rs)]else[]:=by
 rw[Lo h,QcL,Zx h]
theorem zY {rq:List Y0}{rs:LI}{x:Int×Int}:∀{l:LI},x∈wrf rq rs l↔x.1∈l/\0<=x.2/\x.2=rfr x.1 0 rq rs
 | []=>by simp[wrf]
 | v::l=>by
  rw[wrf];have ih:=zY (rq:=rq) (rs:=rs) (x:=x) (l:=l);by_cases h:0<=rfr v 0 rq rs
  .rw[O1 h,Lk,ih,Lk];constructor
   .rintro(rfl|⟨E,H⟩)
    .exact⟨.inl U,h,U⟩
    exact⟨.inr E,H⟩
   rintro⟨E|E,H,I⟩
   .exact .inl (by rw[<-E];exact Prod.ext_iff.2 ⟨U,I⟩)
   exact .inr ⟨E,H,I⟩
  rw[O0 h,ih,Lk];constructor
  .rintro⟨E,H⟩;exact⟨.inr E,H⟩
  rintro⟨E|E,H,I⟩
  .exact O3 (by rw[<-E,<-I];exact H) h
  exact⟨E,H,I⟩
theorem zp {st:Int}{vr:O9}(O:vr.cells=#[vr]):
  QZ sV 109 [sP b,sS st,vr] w λr w'=>sW w w'/\∃b1 b2 E,r=.func (.func 185) #[] #[sP b1,sP b2,sP E] /\
   ↑w<=b1/\↑w<=b2/\↑w<=E/\QP ↑w' b1 241 [sP b]/\QP ↑w' b2 3 [sS st]/\QP ↑w' E 63 [vr]:=by
 refine Zt func109 ?_;refine Qc<|Zg [sP b] λE w1 J S T=>Zg [sS st] λV w2 H hb Y=>Qo<|QaD (us:=[vr]) O λZ w3 I hc ha=>x Qh <|
  xe ?_
 have he:=J.size;have hg:=H.size;refine Qc<|x ZC<|Qb<|Qi ⟨[_],Lb,(J.I H).I I,E,V,Z,U,S,oa,oa,(T.J H).J I,Y.J I,ha⟩
theorem UT {S m:Nat}{q:Sty}{vr:O9}{es:LI}{st:Int}{fl:xF}(ht:QP ↑w b1 241 [sP b])(h6:QP ↑w b2 3 [sS st])(h7:QP ↑w S 63 [vr])
  (h8:b1∉L) (hA:S∉L) (hB:∀x∈L,x<↑w) (hS:Kk L b ↑w q) (hr:QG L ↑w vr rs) (hC:∀x∈q.c.rq,Zo x.p.a) (hv:Vt (auts q.c.Z.rq) rs) (H:cks q.p.a st=0) (hw:enb q.p.a st=es) (hh:wrf q.c.Z.rq rs es=fl):
  SeqStopsK (fen none) m sV 185 #[sP b1,sP b2,sP S] (λx:{ x:Int×Int // x∈fl }=>[sS x.1.1,sS x.1.2].toArray) (LwC ↑w L)
   (λys=>ys.map (·.1)=fl) (λpre=>pre.map (·.1) <+: fl) fl.length w:=by
 intro l J Jx W hD hJ hE hY h0;have Z:sW w W:=xj.of_below hD;have ab:∀{ys:List { x:Int×Int // x∈fl }} {W1 W2:O8},J ys W1->sW W1 W2->J ys W2:=λ{ys W1 W2} hj ha=>hJ ys W1 W2 none hj ⟨ha.os,ha.tape,ha.output,ha.size,λk hk _=>ha.block k hk oe⟩ (λr e=>by cases e);have hF:es.length<=1099511627776:=by
  have E:=hS.p.ed.le;have h2:=VE q.p.a.ed st;rw[<-hw];unfold enb;rw[Lj];omega
 have hG:=Qna q.c.Z.rq rs es;rw[hh]at hG;have key:QZ sV 185 [.func (.yield l) #[] #[],sP b1,sP b2,sP S] W (λ_ W'=>(∃ys,ys.map (·.1)=fl/\J ys W')\/(∃pre,pre.map (·.1) <+: fl/\Jx pre W')):=by
  refine QZ.of_G m func185 U ntmps185 results185 oe ?_;have hy:=hS.J Z;refine Zh<|jN (sW W) [oE 0,oE 1,oE 2,oE 3,oE 4,oF 5,oE 6,oE 7,oE 8,oE 9,oE 10] mixed om om od (xj.X _ _) ?_;refine pq (λ_ H=>Qk ((ht.J Z).J H) U U)<|p (Xj U)<|p (QF U)<|pq (λ_ H=>Q7 (us:=Zq q.p) (hy.B.J H) U U U)<|pq (λ_ H=>Qk ((h6.J Z).J H) U U)<|pk<|xg<|(Qf1 (hy.p.J (xj.X _ _)) st).S ?_;rintro r1 w1 ⟨hH,ve,rfl,_,hi⟩;have hi:=hi H;have hn:=(xj.X [] W).I hH;refine⟨hn,?_⟩;refine p QA<|p (λ_=>Zw U U)<|p (λ_=>Zw U U)<|p ZL<|p ZL<|pe ?_;have hM:=Z.size;have hN:({ W with drawn:=W.drawn+1 }:O8).heap.size=W.heap.size:=rfl
  rw[hw]at hi;have hE1:QG L ↑w1 ve es:=Qp.ints hi hF (λx hx=>ov (hB x hx));refine Zh<|QM om om<|Qa<|QE hE1 U<|Qa<|xe<|Z5<|zn (α:=Nat×List { x:Int×Int // x∈fl }) [(8,9),(21,38)] (λz=>[(21,sS z.1)]) (λz ds W'=>ds=[]/\z.1<=es.length/\xj L w W'/\QG L ↑W' ve es/\z.2.map (·.1)=wrf q.c.Z.rq rs (es.take z.1)/\J z.2 W') (λz=>es.length - z.1) om (0,[]) Lb
   ⟨U,Lp _,(Z.I hn).any,hE1,U,ab h0 hn⟩ ?_
  rintro⟨k,ys⟩ g ds w2 ⟨rfl,hk,T,ho,hb,hp⟩;refine Zh<|QM om om<|Ye U U<|xe<|Zh<|Qbl U (λhq=>?_) (λhq=>?_)
  .refine VU ?_;have hI:es.length<=k:=by have hl:¬(k:Int)<(es.length:Int):=hq;omega
   rw[Lt hI,hh]at hb;exact⟨λ_ h=>(by cases h),MY,[],λW' I=>⟨La,.inl ⟨ys,hb,ab hp I⟩⟩⟩
  refine YV ?_;have V:k<es.length:=by have hl:(k:Int)<(es.length:Int):=hq;omega
  have O:=Qjf (rq:=q.c.Z.rq) (rs:=rs) V;have hz:xo es k∈es:=by rw[<-Zx V];exact Lm V
  refine Zd (xo es k) λv h3=>?_;rw[h3]at O hz;refine Zd (rfr v 0 q.c.Z.rq rs) λj hj=>?_;rw[hj]at O;refine Zh<|Z5<|Zh<|QM om om<|xic (i:=k) ho U U V λhO hl=>?_;rw[h3]at hl;refine x (Qy hl U)<|Qb<|Zh<|QM om om<|Xe (ht.O T h8) U U<|Xe (h7.O T hA) U U<|Qa<|Qx<|(Qe1 (v:=v) (hS.st T) (hr.st T) hC hv).S ?_;rintro r3 w3 ⟨h4,Y⟩;rw[hj]at h4;subst h4;refine Qb<|Zh<|Ud om ?_;refine Ki.pre3 ?_;refine Qa<|xb (YI U U) (λhs=>?_) (λhs=>?_)
  .have hm:0<=j:=hs;have hg:(v,j)∈fl:=by rw[<-hh];exact zY.2 ⟨hz,hm,hj.symm⟩
   rw[O1 hm]at O;have h5:(ys++[(⟨(v,j),hg⟩:{ x:Int×Int // x∈fl })]).map (·.1) <+: fl:=by
    rw[Ls,hb,show[(⟨(v,j),hg⟩:{ x:Int×Int // x∈fl })].map (·.1)=[(v,j)] from rfl,<-O,<-hh];have h9:=Uq q.c.Z.rq rs (es.drop (k+1)) (es.take (k+1));rw[MT]at h9;exact⟨_,h9.symm⟩
   have hK:ys.length<fl.length:=by have E:=h5.length_le;rw[Lj,Ln,LG]at E;omega
   refine Qa<|xe<|Ki.pre3 ?_;refine Qa<|Qa<|Qa<|xe<|xy2 (l:=l) U (hY ys ⟨(v,j),hg⟩ w3 (ab hp Y) hK) λen W3 hL=>Or.elim hL (λE=>⟨.bool true,E.1,?_⟩) (λE=>⟨.bool false,E.1,?_⟩)
   .refine Ki.of_XL<|x (Zr U)<|QB U<|xe<|Ue U<|YV ?_;refine QM om om<|QH U U<|Qa<|xe ?_;exact⟨(k+1,ys++[⟨(v,j),hg⟩]),og,Lb,U,V,(T.I Y).lw E.2.2.lw,(ho.J Y).cst E.2.2.cst E.2.2.lw.size,by simp only[];rw[O,Ls,hb];rfl,E.2.1⟩
   refine Ki.of_XL<|x (Zr U)<|QB U<|xe<|QcB U ?_;refine VT ⟨λ_ h=>(by cases h),MY,[],λW' I=>⟨La,.inr ⟨ys++[⟨(v,j),hg⟩],h5,?_⟩⟩⟩;exact hE _ W3 W' none E.2 ⟨I.os,I.tape,I.output,I.size,λk hk _=>I.block k hk oe⟩ (λr e=>by cases e)
  have hm:¬0<=j:=hs;rw[O0 hm,LT]at O;refine Qa<|xe<|Ki.of_XL<|Zm<|Z6<|QB U<|xe<|Ue U<|YV ?_;refine QM om om<|QH U U<|Qa<|xe ?_;exact⟨(k+1,ys),og,Lb,U,V,T.I Y,ho.J Y,by simp only[];rw[O,hb],ab hp Y⟩
 refine(callsIn_wide (n:=m)).2 ?_;have ea:(#[.func (.yield l) #[] #[]]++[sP b1,sP b2,sP S].toArray:Array O9)=#[.func (.yield l) #[] #[],sP b1,sP b2,sP S]:=oe
 rw[ea];unfold QZ at key;refine Calls.mono key λe w' he=>?_;cases e with
 | returned v=>exact⟨⟨v,U⟩,he⟩
 | panicked c=>exact he.elim
 | outgrown=>exact he.elim
section
variable {pS:String}
theorem Yy [h1:Ag P t sz]{x:xd}{o:Nat}{cs':LV}(E:QP ↑w b T cs)(hx:ev f x=.pointer (some ⟨b,o,none⟩))(I:ev f y=sT us)(J:us.length=sz)(S:o+sz<=cs.length)(hu:Zj us)(O:cs.take o++us++cs.drop (o+sz)=cs')
  (hK:∀w',xj [b] w w'->QP ↑w' b T cs'->K (QT f d undef) w'):XO P ⟨d,.store t x y,ty,pS,af,gd⟩ f w K:=by
 have H:=run_storeCells_at P b o T us 0 cs.toArray w E (by simp;omega) hu.all;subst J;simp only[OH,O]at H;refine xk (w':=w.setRow b cs'.toArray) ?_ (hK _ (xj.setRow _ _ _) (X5 E));simp[execOp,hx,I,Instr.storeAt,Instr.sureAddr,storeVar,qC (sz:=us.length),Value.cells,H]
end
instance:Bw sV 246 [nS,nS,nS,nS,nS,nS,sS 0,nS,nS,nS,nS,sS 0,nS,nS,nS,nS,nS,nS,.map none] [(0,5),(5,4),(9,1),(10,4),(14,1),(15,3),(18,1)]:={}
theorem YY.shape {H:xI}{v:O9}{c:Int}(h:YY N H aa v vt c):∃(a:QU) (va vm ve:O9) (qs:List TV),v=.agg #[va,sS a.st,vm,ve]/\Zj [va,sS a.st,vm,ve]/\vt.oneCell'=true /\
  (c=0->xz aa=some (a,qs.map (·.2))/\UK aa=0/\∀L:LN,(∀b∈L,b<N)->ZE L H va vm ve a/\Kj L H vt qs):=by
 by_cases I:c=0
 .obtain⟨⟨va,vm,ve,J,E⟩,⟨qs,T,O⟩,V,Y⟩:=h.good I;have hA:=E [] oe;exact⟨syA aa,va,vm,ve,qs,J,⟨hA.al.one,U,hA.mr.one,hA.ed.one,La⟩,(O [] oe).arr.one,λ_=>⟨by rw[T];exact V,Y,λL S=>⟨E L S,O L S⟩⟩⟩
 obtain⟨J,E⟩:=h.bad I;exact⟨⟨[],0,[],[]⟩,ZD,ZD,ZD,[],J,oD,by rw[E];rfl,λe=>O3 e I⟩
def plE (c:Zy):Int:=if Zf c≠0 then Zf c else Ug (auts c.co)
theorem Qbj.shape {N:Nat}{H:xI}{c:Zy}{v vt:O9}{e:Int}(h:Qbj N H c v vt e):e=plE c/\∃(a:QU) (va vm ve:O9) (qs:List TV),v=.agg #[va,sS a.st,vm,ve]/\Zj [va,sS a.st,vm,ve]/\vt.oneCell'=true /\
  (e=0->Zf c=0/\xz (auts c.co)=some (a,qs.map (·.2))/\UK (auts c.co)=0/\∀L:LN,(∀b∈L,b<N)->ZE L H va vm ve a/\Kj L H vt qs):=by
 unfold Qbj at h;unfold plE;by_cases E:Zf c≠0
 .rw[O1 E]at h ⊢;obtain⟨I,J,O⟩:=h;exact⟨I,⟨[],0,[],[]⟩,ZD,ZD,ZD,[],J,oD,by rw[O];rfl,λe=>O3 (I.symm.I e) E⟩
 rw[O0 E]at h ⊢;obtain⟨a,va,vm,ve,qs,I,J,O,S⟩:=h.shape;exact⟨h.e,a,va,vm,ve,qs,I,J,O,λe=>⟨Lq.1 E,S e⟩⟩
theorem Qnk (c:Zy):Yo c=if plE c≠0 then plE c else Ug (auts c.co++auts c.rq):=by
 rw[Qnl];unfold plE;by_cases h:Zf c≠0
 .rw[O1 h,O1 h,O1 h]
 rw[O0 h,O0 h]
theorem Qpq {H:xI}{ps:List AV}(h:∀p∈ps,ZE L H p.va p.vm p.ve p.a):∀u∈ps.flatMap Zq,u.oneCell'=true:=by
 intro u hu;obtain⟨p,I,E⟩:=Mr.1 hu;have hA:=h p I;simp only[oM,oL,or_false]at E;rcases E with rfl|rfl|rfl|rfl
 .exact hA.al.one
 .rfl
 .exact hA.mr.one
 exact hA.ed.one
theorem Qrj {F:LN->Array Obj->Prop}(st:∀{L:LN}{w w':O8},F L ↑w->xj L w w'->F L ↑w')(up:∀{L L':LN}{H:xI},F L H->(∀b∈L',b∈L\/H.size<=b)->F L' H)
  (h:∀L:LN,(∀x∈L,x<N)->F L ↑w) (E:b<N) (I:xj [b] w w'):∀L:LN,(∀x∈L,x<N)->F L ↑w':=λL J =>
 up (st (h (b::L) (λx hx=>by
  rcases Lk.1 hx with rfl|hx
  .exact E
  exact J x hx)) (I.S (λx hx=>by simp only[oJ]at hx;subst hx;exact Lr))) (λx hx=>.inl (Ll _ hx))
theorem zm.nil (n:Nat):zm n [] []:=λu _ _=>by simp[xt]
theorem Qel {c:CL}(h0:ZG L ↑w c)(h2:Kb w 4096):
  QZ sV 105 [c.val] w λr w'=>sW w w'/\∃vp,r=.tuple #[vp,sS (Yo c.Z)]/\(Yo c.Z≠0->vp=.pointer none) /\
   (Yo c.Z=0->∃b q,vp=sP b/\q.c=c/\Qug q/\Kk [] b ↑w' q/\∀L:LN,(∀x∈L,x<↑w)->ZE L ↑w' q.s.va q.s.vm q.s.ve q.s.a/\(ZG L ↑w c->Kk L b ↑w' q)):=by
 have h:=h0.up (L':=[]) oe;have hE:=Qnk c.Z;refine Zd (Yo c.Z) λE hEq=>?_;rw[hEq]at hE ⊢;refine Zt func105 ?_;refine Qc<|Zg c.cells λb1 w1 gt k9 h3=>x Qh<|Qb ?_;have ma:=h3.lt;refine Qc<|QV h3 U U<|x (Q8 [(0,c.cells)] ⟨U,U,La⟩)<|Zg [c.ve,c.vc,c.vr,c.vx,c.vk,nS,sS 0,nS,nS,nS,nS,sS 0,nS,nS,nS,nS,nS,nS,.map none] λI w2 hO mf J=>Qb ?_;have h4:=gt.I hO;have gu:=J.lt;have hQ:=h3.J hO;have hge:↑w<=I:=oa
 have mg:b1≠I:=oa
 refine Qc<|Qb<|Qd<|Qj<|Qa<|QV hQ U U<|Qx<|(Qmx (h.J h4) (h2.J h4)).S ?_;rintro r3 w3 ⟨hi,v3,vq,e3,rfl,hP⟩;obtain⟨h6,pa,pva,pvm,pve,qs,rfl,gv,gw,gx⟩:=hP.shape;refine Qa<|QS U U<|QS U U<|QS U U<|Z7 U<|QN U<|Qo<|Yy (us:=[pva,sS pa.st,pvm,pve]) (J.J hi) U U U oe gv rfl λw4 gy J =>
  Z7 rfl<|QN U<|Qo<|Qw (j:=9) (u:=vq) J U U oe gw λw5 gz J=>Qb ?_
 have hj:xj [I] w3 w5:=gy.V gz;have hl:sW w w5:=(h4.I hi).Q hj hge;refine Qj<|Zu U U<|xe<|QY rfl (λhn=>?_) (λhn=>?_)
 .have g0:plE c.Z≠0:=by rw[<-h6];exact hn
  rw[O1 g0,<-h6]at hE;subst hE;refine Qj<|x Qh<|Qb<|Qi ⟨[_,_],oB,hl,.pointer none,U,λ_=>U,λe=>O3 e hn⟩
 have hS:e3=0:=Lq.1 hn;rw[O0 (by rw[<-h6,hS];decide)]at hE;obtain⟨hT,h7,mh,g2⟩:=gx hS;have he:=ZO hT;refine Qe ?_;have h8:=(hQ.J hi).O hj (by simp;omega);have h5:=h.J hl;have mj:=h.co.arr.le;have mo:=h.rq.arr.le;have mq:c.co.length<=8:=by have:=he.c8;have e:c.Z.co.length=c.co.length:=Lj ..;omega
 have ms:c.co.length+c.rq.length<=12:=by have:=he.cr;have e:c.Z.co.length=c.co.length:=Lj ..;have e':c.Z.rq.length=c.rq.length:=Lj ..;omega
 refine Qd<|Qd<|ZH [] [oE 0,oE 1,oE 2,oE 3,oE 5,oE 6,oF 4,oF 7,oF 8,oF 9,oE 10,oE 11,oE 12,oE 13,oE 14,oE 15,oF 16,oE 17,oE 18,oF 19,oE 20]<|p QA<|p QA<|p (QF U)<|pq (λ_ hc=>Qk (h8.O hc oe) rfl rfl)<|p (QF rfl) <|
  pq (λ_ hc=>Qk (h8.O hc oe) rfl rfl)<|pk<|xg<|(Qfn (h5.co.J (xj.X _ _))).S ?_
 rintro r6 w6 ⟨hU,hV⟩;have hA:=(xj.X [] w5).I hU;refine⟨hA,?_⟩;refine pk<|xg<|(Qfn (h5.rq.J hA)).S ?_;rintro r7 w7 ⟨hB,g3⟩;have hW:=hA.I hB;refine⟨hW,?_⟩;have mt:=hU.size;have mu:=hB.size;have mv:({ w5 with drawn:=w5.drawn+1 }:O8).heap.size=w5.heap.size:=rfl
 have g4:Zk [] ↑w7 r7 (c.rq.map (·.p)).length 4 ((c.rq.map (·.p)).flatMap Zq):=QC g3 (by rw[Lj];omega) oe;refine pk<|QbQ (Ql hV hB) U g4 U (Qpq λp T=>by
   obtain⟨q,V,rfl⟩:=Ly.1 T;exact(h.rq.each q V)) (by rw[Lj,Lj];omega) oa λv8 w8 hX g5 mw=>?_
 have ho:sW w5 w8:=hW.G g5 (λb hb=>.inr (ov ((Qg hV) b hb).1));refine⟨ho,?_⟩;have hC:=hl.I ho;have my:=ho.size;have g6:JL [] ↑w8 v8 (c.co.map (·.p)++c.rq.map (·.p)):=by
  rw[<-Ln,<-LC]at hX;exact QkY hX (by rw[Ln,Lj,Lj];omega) oe (λp T=>by
   rcases Lh.1 T with T|T
   .obtain⟨q,V,rfl⟩:=Ly.1 T;exact(h.co.each q V).J hC
   obtain⟨q,V,rfl⟩:=Ly.1 T;exact(h.rq.each q V).J hC)
 have g7:∀p∈c.co.map (·.p)++c.rq.map (·.p),Zo p.a:=λp T=>by
   rcases Lh.1 T with T|T
   .obtain⟨q,V,rfl⟩:=Ly.1 T;exact he.co q.it (LK V)
   obtain⟨q,V,rfl⟩:=Ly.1 T;exact he.rq q.it (LK V)
 refine pk<|xg<|(jF (km:=4096) g6 (h2.J hC) oh (QbO g7)).S ?_;rintro r9 w9 ⟨g8,v9,vt,e9,rfl,hR⟩;rw[Ls,Qhx,Qpr]at hR;have hY:=hR.e;obtain⟨sa,sva,svm,sve,ts,rfl,g9,ka,kb⟩:=hR.shape;have hD:=ho.I g8;refine⟨hD,?_⟩;refine p QA<|p (λ_=>Zw U U)<|p (λ_=>Zw U U)<|p (λ_=>Zw U U)<|p (Xj U) <|
  p (QF rfl)<|pkk<|Yy (us:=[sva,sS sa.st,svm,sve]) (J.J hD) U U U oe g9 rfl λmz kc J=>p (Xj rfl)<|p (QF rfl) <|
  pkk<|Qw (j:=14) (u:=vt) J U U oe ka λhr ke J=>p ZL<|pe ?_
 have hZ:xj [I] w9 hr:=kc.V ke;have ht:xj [I] w5 hr:=hD.any.V hZ;have hv:sW w hr:=hl.Q ht hge;refine Qj<|Zu U U<|xe<|QY rfl (λhF=>?_) (λhF=>?_)
 .rw[<-hY]at hE;subst hE;refine Qj<|x Qh<|Qb<|Qi ⟨[_,_],oB,hv,.pointer none,U,λ_=>U,λe=>O3 e hF⟩
 have ga:e9=0:=Lq.1 hF;have gb:E=0:=by rw[hE,<-hY,ga]
 obtain⟨kf,m2,kg⟩:=kb ga;refine Qe ?_;have kh:=h8.O ht (by simp;omega);refine Qj<|Qa<|QV kh U U<|Qx<|(Qbd (h.J hv)).S ?_;rintro m3 Y ⟨hh,vs,vx,vk,qx,ks,rfl,ki,kj,gc⟩;have hG:=gc [] oe;refine Qo<|YZ J2 λbm kk gg m4 kn=>Z7 U<|QN U<|Qo<|Yy (us:=[vs,vx,vk]) ((J.J hh).J gg) U U U oe ⟨hG.1.one,hG.2.1.arr.one,hG.2.2.arr.one,La⟩ rfl λm5 gh J =>
  Z7 rfl<|QN U<|Qo<|Qw (j:=18) (u:=.map (some bm)) J U U oe rfl λhH gi J=>xe ?_
 have m6:=hv.size;have m7:=hh.size;have m8:=ht.size;have m9:=hj.size;have pc:=hi.size;have pd:I<Y.heap.size:=oa
 have ko:bm≠I:=oa
 have gj:xj [I] Y hH:=(gg.any.V gh).V gi;have kq:xj [I] kk hH:=gh.V gi;have kr:Yh J2 ↑hH bm []:=kn.O kq (oA ko);have kt:xj [I] w3 Y:=(hj.V ht).I hh;have ku:xj [I] w9 Y:=hZ.I hh;have fP:∀{w':O8},xj [I] Y w'->∀L:LN,(∀x∈L,x<↑w2)->ZE L ↑w' pva pvm pve pa/\Kj L ↑w' vq qs:=λO =>
  Qrj (F:=λL H=>ZE L H pva pvm pve pa/\Kj L H vq qs) (λh O=>⟨h.1.st O,h.2.st O⟩) (λh S=>⟨h.1.up S,h.2.up S⟩) g2 gu (kt.V O)
 have fS:∀{w':O8},xj [I] Y w'->∀L:LN,(∀x∈L,x<↑w8)->ZE L ↑w' sva svm sve sa/\Kj L ↑w' vt ts:=λO =>
  Qrj (F:=λL H=>ZE L H sva svm sve sa/\Kj L H vt ts) (λh O=>⟨h.1.st O,h.2.st O⟩) (λh S=>⟨h.1.up S,h.2.up S⟩) kg oa (ku.V O)
 have fC:∀{w':O8},xj [I] Y w'->∀L:LN,(∀x∈L,x<↑hr)->QG L ↑w' vs (szs c.Z.co)/\jT L ↑w' vx qx/\jK L ↑w' vk ks:=λO =>
  Qrj (F:=λL H=>QG L H vs (szs c.Z.co)/\jT L H vx qx/\jK L H vk ks) (λh O=>⟨h.1.st O,h.2.1.st O,h.2.2.st O⟩) (λh S=>⟨h.1.up S,h.2.1.up S,h.2.2.up S⟩) gc oa O
 have kv:=(zZ (Y3 he.co) h7).1;have kw:(auts c.Z.co).length=c.co.length:=by unfold auts;show((c.co.map IV.it).map _).length=_;simp
 have gk:=(fP gj [] oe).2;have pf:=gk.arr.le;refine Qd<|Qj<|Z7 U<|Qm U J U U<|QE gk.arr U<|Qa<|xe<|Q2 (α:=Nat×List (ByteArray×O9)) [(6,7),(61,73)] (λz=>[(61,sS z.1)]) (λz w'=>z.1<=qs.length/\xj [I] Y w'/\QP ↑w' I 246 [c.ve,c.vc,c.vr,c.vx,c.vk,pva,sS pa.st,pvm,pve,vq,sva,sS sa.st,svm,sve,vt,vs,vx,vk,.map (some bm)]/\Yh J2 ↑w' bm z.2/\zm c.co.length z.2 ((qs.take z.1).map (·.2))) (λz=>qs.length - z.1) (0,[]) Lb
  ⟨Lp _,gj,J,kr,zm.nil _⟩ ?_
 rintro⟨k,mm⟩ g gl ⟨hk,Z,hw,hI,hJ⟩;have hy:sW w gl:=(hv.I hh).Q Z hge;refine Zi rfl U (λhK=>?_) (λhK=>?_)
 .refine Qt ?_;have kx:qs.length<=k:=by have kz:¬(k:Int)<(qs.length:Int):=hK;omega
  rw[Lt kx]at hJ;refine Qj<|x Qh<|Qb ?_;have aP:=fP Z [] oe;have aS:=fS Z [] oe;have aC:=fC Z [] oe;refine Qi ⟨[_,_],oB,hy,sP I,by rw[gb];rfl,λe=>O3 gb e,λ_=>⟨I,⟨c,⟨pva,pvm,pve,pa⟩,vq,qs,⟨sva,svm,sve,sa⟩,vt,ts,vs,vx,vk,qx,ks,bm,mm⟩,U,U,⟨hT,h7,kf,ki,kj,hJ⟩,⟨hw,oe,h.J hy,aP.1,aS.1,aP.2,aS.2,aC.1,aC.2.1,aC.2.2,oe,hI⟩,λL S=>?_⟩⟩;have bP:=fP Z L (λb hb=>ov (S b hb));have bS:=fS Z L (λb hb=>ov (S b hb));have bC:=fC Z L (λb hb=>ov (S b hb));exact⟨bS.1,λk0=>⟨hw,λhm=>ov (S _ hm),k0.J hy,bP.1,bS.1,bP.2,bS.2,bC.1,bC.2.1,bC.2.2,λhm=>by have h9:bm<w.heap.size:=S bm hm;omega,hI⟩⟩
 have hg:k<qs.length:=by have kz:(k:Int)<(qs.length:Int):=hK;omega
 have gm:=(fP Z [] oe).2;have hM:=Lm hg;have hN:(qs.take (k+1)).map (·.2)=(qs.take k).map (·.2)++[(qs[k]'hg).2]:=by rw[Lo hg,Ls];rfl
 have gn:(qs[k]'hg).2∉(qs.take k).map (·.2):=by
  have h1:((qs.take (k+1)).map (·.2)).Nodup:=by
   rw[NV];exact((JM (Y3 he.co) h7).1.nd).sublist (List.take_sublist _ _)
  rw[hN]at h1;intro hm;exact(Mi.1 h1).2.2 _ hm _ (Lc.2 U) U
 have k4:((qs.take k).map (·.2)).length=k:=by rw[Lj,LB];omega
 refine Qe<|Qd<|Qn<|Qj<|xp (g:=YT) Uu gm.arr U U hg λpg go=>?_;refine Zd (qs[k]'hg) λq V=>?_;rw[V]at go hM hN gn;have gp:=kv q.2 (LK hM);have gq:=gp.bd (m:=4096) (λa ha=>(Y3 he.co a ha).st1);have ph:q.2.length=c.co.length:=by rw[gp.1,kw]
 refine x (Qy go U)<|x Qh<|Qb<|ZH [] [oE 0,oE 1,oE 2,oE 3,oE 4,oE 6,oF 5,oF 7]<|p QA<|p (Xj U)<|p (QF U)<|pq (λ_ hc=>Qk (hw.O hc oe) rfl rfl) <|
  p QA<|p QA<|pk<|xg<|(Qcw ((gm.each q hM).J (xj.X _ _)) ((h2.J hy).J (xj.X _ _)) gq oa).S ?_
 rintro pj pm ⟨rfl,k5⟩;have hz:=(xj.X [] gl).I k5;refine⟨hz,?_⟩;refine pkk<|XN (k:=Vp q.2) (hI.J hz) U U λk6 gr k7=>pe ?_;have k8:xj [I] Y k6:=(Z.I hz).Q gr oa;have gs:=hJ.add gn (λx hx=>(gq x hx).1);rw[k4]at gs;refine Qq<|QH U U<|Qa<|xe ?_;exact⟨(k+1,xu mm (Vp q.2) (sS (k:Int))),og,Lb,hg,k8,((hw.J hz).O gr (by simp;omega)),k7,by simp only[];rw[hN];exact gs⟩
theorem yc {W:O8}{base e:Nat}{v:O9}(h:W.ownsRow base e sz v n cs)(E:Xp [] W W'):W'.ownsRow base e sz v n cs :=
 ⟨h.1,h.2.imp id λ⟨g,cap,cur,H,I,J,O⟩=>⟨g,cap,cur,H,I,E g _ oe J rfl,O⟩⟩
theorem Xp.S {W:O8}(h:Xp L W W')(E:∀b∈L,b∈L'):Xp L' W W':=λk o H=>h k o (λI=>H (E k I))
theorem Xp.nonc {X:LN}{W:O8}(I:xj X W W')(J:∀r∈X,∃o:Obj,W.heap[r]?=some o/\o.isCells=false):Xp [] W W':=λk o _ hk O =>
 (I.block k (LP.1 hk).1 (λhx=>by
  obtain⟨S,E,H⟩:=J k hx;rw[hk]at E;cases E;rw[O]at H;cases H)).I hk
theorem YL.cst {I:xH}(h:∀W W',I W->Xp [] W W'->W.heap.size<=↑W'->I W'):YL B I:=λW W' _ hi E H=>h W W' hi (Xp.nonc E (λr J=>(H r J).2)) E.size
theorem Yl.cst {base:Nat}{av:LN}{W W':O8}{v:O9}{n sz:Nat}{cs:LV}(h:Yl base av ↑W v n sz cs)(E:Lg.Xp [] W W')(H:W.heap.size<=↑W'):Yl base av ↑W' v n sz cs:=λL I=>(h L I).cst (E.S oe) H
abbrev ZV (r:Rsn):LV:=[sS r.st,sS r.kd,sS r.ix,sS r.ev]
theorem QjQ (r:Rsn):(ZV r).length=4:=rfl
structure K1 (base:Nat)(w:O8)(v1 v2 v3 v4:O9)(cos rqs:List TV)(pls:LI)(fbs:List Rsn):Prop where
 o1:w.ownsRow base 63 1 v1 cos.length (cos.flatMap YT)
 o2:w.ownsRow base 63 1 v2 rqs.length (rqs.flatMap YT)
 o3:Qp 3 base w v3 pls
 o4:w.ownsRow base 171 4 v4 fbs.length (fbs.flatMap ZV)
 d12:Dj v1 v2
 d13:Dj v1 v3
 d14:Dj v1 v4
 d23:Dj v2 v3
 d24:Dj v2 v4
 d34:Dj v3 v4
 e1:∀p∈cos,Yl base (ob v1++(ob v2++(ob v3++ob v4))) ↑w p.1 p.2.length 1 (p.2.map (.int .i64))
 e2:∀p∈rqs,Yl base (ob v1++(ob v2++(ob v3++ob v4))) ↑w p.1 p.2.length 1 (p.2.map (.int .i64))
theorem q8 {v:O9}:Dj (nS) v:=λb E=>by simp[ob]at E
theorem K1.nil (base:Nat)(w:O8):K1 base w (nS) (nS) (nS) (nS) [] [] [] []:=
 ⟨QI _ _ _ _,QI _ _ _ _,QI _ _ _ _,QI _ _ _ _,q8,q8,q8,q8,q8,q8,λp E=>(by cases E),λp E=>(by cases E)⟩
variable {base:Nat}{w7 w8:O8}{v1 v2 v3 v4:O9}{cos rqs:List TV}{pls:LI}{fbs:List Rsn}
theorem K1.J (h:K1 base w v1 v2 v3 v4 cos rqs pls fbs)(E:sW w w7):K1 base w7 v1 v2 v3 v4 cos rqs pls fbs :=
 ⟨Ql h.o1 E,Ql h.o2 E,Ql h.o3 E,Ql h.o4 E,h.d12,h.d13,h.d14,h.d23,h.d24,h.d34,λp H=>(h.e1 p H).J E,λp H=>(h.e2 p H).J E⟩
theorem K1.low {X:LN}(h:K1 base w v1 v2 v3 v4 cos rqs pls fbs)(E:xj X w w7)(H:∀b∈X,b<base):K1 base w7 v1 v2 v3 v4 cos rqs pls fbs:=by
 have k:∀{e sz n:Nat} {v:O9} {cs:LV},w.ownsRow base e sz v n cs->w7.ownsRow base e sz v n cs:=λo=>Qf o E (λb J O=>oy (Qg o b J).1 (H b O));exact⟨k h.o1,k h.o2,k h.o3,k h.o4,h.d12,h.d13,h.d14,h.d23,h.d24,h.d34,λp I=>(h.e1 p I).low E H,λp I=>(h.e2 p I).low E H⟩
theorem K1.cst (h:K1 base w v1 v2 v3 v4 cos rqs pls fbs)(E:Lg.Xp [] w w7)(I:w.heap.size<=↑w7):K1 base w7 v1 v2 v3 v4 cos rqs pls fbs :=
 ⟨yc h.o1 E,yc h.o2 E,yc h.o3 E,yc h.o4 E,h.d12,h.d13,h.d14,h.d23,h.d24,h.d34,λp H=>(h.e1 p H).cst E I,λp H=>(h.e2 p H).cst E I⟩
theorem q9 {a b E:O9}(h:Dj a b)(J:∀x∈ob E,x∈ob a\/n<=x)(O:∀x∈ob b,x<n):Dj E b:=λx hx H=>by
 rcases J x hx with I|I
 .exact h x I H
 have:=O x H;omega
theorem V5 {a b E:O9}(h:Dj a b)(I:∀x∈ob E,x∈ob b\/n<=x)(J:∀x∈ob a,x<n):Dj a E:=λx hx O=>by
 rcases I x O with H|H
 .exact h x hx H
 have:=J x hx;omega
theorem K1.lt (h:K1 base w v1 v2 v3 v4 cos rqs pls fbs):(∀x∈ob v1,x<↑w)/\(∀x∈ob v2,x<↑w)/\(∀x∈ob v3,x<↑w)/\∀x∈ob v4,x<w.heap.size:=⟨Q3 h.o1,Q3 h.o2,Q3 h.o3,Q3 h.o4⟩
theorem Qdv {a b c d:LN}{x:Nat}(h:x∈a++(b++(c++d))):x∈a\/x∈b\/x∈c\/x∈d:=by simpa using h
theorem je {a b c d:LN}{x:Nat}(h:x∈a\/x∈b\/x∈c\/x∈d):x∈a++(b++(c++d)):=by simpa using h
theorem K1.a1 {e:Nat}{q:TV}(h:K1 base w v1 v2 v3 v4 cos rqs pls fbs)(Y:sW w w7)(Z:w7.ownsRow N e 1 q.1 q.2.length (q.2.map (.int .i64)))(ha:q.2.length<=1099511627776)(hN:↑w<=N)(H:base<=↑w)(ho:w8.ownsRow base 63 1 v' (cos.length+1) (cos.flatMap YT++YT q))
  (S:xj (ob v1) w7 w8) (T:∀b∈ob v',b∈ob v1\/↑w7<=b):K1 base w8 v' v2 v3 v4 (cos++[q]) rqs pls fbs:=by
 have l:=h.lt;have hz:=Y.size;have J:=h.J Y;have av:∀b∈ob v'++(ob v2++(ob v3++ob v4)),b∈ob v1++(ob v2++(ob v3++ob v4))\/↑w7<=b:=by
  intro b H;rcases Qdv H with E|E|E|E
  .rcases T b E with V|V
   .exact .inl (je (.inl V))
   exact .inr V
  .exact .inl (je (.inr (.inl E)))
  .exact .inl (je (.inr (.inr (.inl E))))
  exact .inl (je (.inr (.inr (.inr E))))
 have st:xj (ob v1++(ob v2++(ob v3++ob v4))) w7 w8:=S.S (λb H=>je (.inl H));have g:∀{v:O9} {n sz:Nat} {cs:LV},Yl base (ob v1++(ob v2++(ob v3++ob v4))) ↑w7 v n sz cs->Yl base (ob v'++(ob v2++(ob v3++ob v4))) ↑w8 v n sz cs:=λa=>a.app st av;refine⟨by rw[Ln,LC];simpa using ho,Qf J.o2 S (λb H O=>h.d12 b O H),Qf J.o3 S (λb H O=>h.d13 b O H),Qf J.o4 S (λb H O=>h.d14 b O H),q9 h.d12 T (λx hx=>ov (l.2.1 x hx)),q9 h.d13 T (λx hx=>ov (l.2.2.1 x hx)),q9 h.d14 T (λx hx=>ov (l.2.2.2 x hx)),h.d23,h.d24,h.d34,?_,?_⟩
 .exact λp I=>by
   rcases Lh.1 I with I|I
   .exact g (J.e1 p I)
   simp only[oJ]at I;subst I;exact g (Yl.of_own Z ha oa (λb H=>by
   rcases Qdv H with E|E|E|E
   .have:=l.1 b E;omega
   .have:=l.2.1 b E;omega
   .have:=l.2.2.1 b E;omega
   have:=l.2.2.2 b E;omega))
 exact λp I=>g (J.e2 p I)
theorem K1.a2 {e:Nat}{q:TV}(h:K1 base w v1 v2 v3 v4 cos rqs pls fbs)(Y:sW w w7)(Z:w7.ownsRow N e 1 q.1 q.2.length (q.2.map (.int .i64)))(ha:q.2.length<=1099511627776)(hN:↑w<=N)(H:base<=↑w)(ho:w8.ownsRow base 63 1 v' (rqs.length+1) (rqs.flatMap YT++YT q))
  (S:xj (ob v2) w7 w8) (T:∀b∈ob v',b∈ob v2\/↑w7<=b):K1 base w8 v1 v' v3 v4 cos (rqs++[q]) pls fbs:=by
 have l:=h.lt;have hz:=Y.size;have J:=h.J Y;have av:∀b∈ob v1++(ob v'++(ob v3++ob v4)),b∈ob v1++(ob v2++(ob v3++ob v4))\/↑w7<=b:=by
  intro b H;rcases Qdv H with E|E|E|E
  .exact .inl (je (.inl E))
  .rcases T b E with V|V
   .exact .inl (je (.inr (.inl V)))
   exact .inr V
  .exact .inl (je (.inr (.inr (.inl E))))
  exact .inl (je (.inr (.inr (.inr E))))
 have st:xj (ob v1++(ob v2++(ob v3++ob v4))) w7 w8:=S.S (λb H=>je (.inr (.inl H)));have g:∀{v:O9} {n sz:Nat} {cs:LV},Yl base (ob v1++(ob v2++(ob v3++ob v4))) ↑w7 v n sz cs->Yl base (ob v1++(ob v'++(ob v3++ob v4))) ↑w8 v n sz cs:=λa=>a.app st av;refine⟨Qf J.o1 S (λb H O=>h.d12 b H O),by rw[Ln,LC];simpa using ho,Qf J.o3 S (λb H O=>h.d23 b O H),Qf J.o4 S (λb H O=>h.d24 b O H),V5 h.d12 T (λx hx=>ov (l.1 x hx)),h.d13,h.d14,q9 h.d23 T (λx hx=>ov (l.2.2.1 x hx)),q9 h.d24 T (λx hx=>ov (l.2.2.2 x hx)),h.d34,?_,?_⟩
 .exact λp I=>g (J.e1 p I)
 exact λp I=>by
  rcases Lh.1 I with I|I
  .exact g (J.e2 p I)
  simp only[oJ]at I;subst I;exact g (Yl.of_own Z ha oa (λb H=>by
  rcases Qdv H with E|E|E|E
  .have:=l.1 b E;omega
  .have:=l.2.1 b E;omega
  .have:=l.2.2.1 b E;omega
  have:=l.2.2.2 b E;omega))
theorem K1.a3 {q:Int}(h:K1 base w v1 v2 v3 v4 cos rqs pls fbs)(Y:sW w w7)(Z:w8.ownsRow base 3 1 v' (pls.length+1) (pls.map (.int .i64)++[sS q]))
  (O:xj (ob v3) w7 w8) (S:∀b∈ob v',b∈ob v3\/↑w7<=b):K1 base w8 v1 v2 v' v4 cos rqs (pls++[q]) fbs:=by
 have l:=h.lt;have hz:=Y.size;have I:=h.J Y;have av:∀b∈ob v1++(ob v2++(ob v'++ob v4)),b∈ob v1++(ob v2++(ob v3++ob v4))\/↑w7<=b:=by
  intro b E;rcases Qdv E with H|H|H|H
  .exact .inl (je (.inl H))
  .exact .inl (je (.inr (.inl H)))
  .rcases S b H with T|T
   .exact .inl (je (.inr (.inr (.inl T))))
   exact .inr T
  exact .inl (je (.inr (.inr (.inr H))))
 have st:xj (ob v1++(ob v2++(ob v3++ob v4))) w7 w8:=O.S (λb E=>je (.inr (.inr (.inl E))));have g:∀{v:O9} {n sz:Nat} {cs:LV},Yl base (ob v1++(ob v2++(ob v3++ob v4))) ↑w7 v n sz cs->Yl base (ob v1++(ob v2++(ob v'++ob v4))) ↑w8 v n sz cs:=λa=>a.app st av;refine⟨Qf I.o1 O (λb E J=>h.d13 b E J),Qf I.o2 O (λb E J=>h.d23 b E J),Qp.snoc Z,Qf I.o4 O (λb E J=>h.d34 b J E),h.d12,V5 h.d13 S (λx hx=>ov (l.1 x hx)),h.d14,V5 h.d23 S (λx hx=>ov (l.2.1 x hx)),h.d24,q9 h.d34 S (λx hx=>ov (l.2.2.2 x hx)),?_,?_⟩
 .exact λp V=>g (I.e1 p V)
 exact λp V=>g (I.e2 p V)
theorem K1.a4 {q:Rsn}(h:K1 base w v1 v2 v3 v4 cos rqs pls fbs)(Y:sW w w7)(Z:w8.ownsRow base 171 4 v' (fbs.length+1) (fbs.flatMap ZV++ZV q))
  (O:xj (ob v4) w7 w8) (S:∀b∈ob v',b∈ob v4\/↑w7<=b):K1 base w8 v1 v2 v3 v' cos rqs pls (fbs++[q]):=by
 have l:=h.lt;have hz:=Y.size;have I:=h.J Y;have av:∀b∈ob v1++(ob v2++(ob v3++ob v')),b∈ob v1++(ob v2++(ob v3++ob v4))\/↑w7<=b:=by
  intro b E;rcases Qdv E with H|H|H|H
  .exact .inl (je (.inl H))
  .exact .inl (je (.inr (.inl H)))
  .exact .inl (je (.inr (.inr (.inl H))))
  rcases S b H with T|T
  .exact .inl (je (.inr (.inr (.inr T))))
  exact .inr T
 have st:xj (ob v1++(ob v2++(ob v3++ob v4))) w7 w8:=O.S (λb E=>je (.inr (.inr (.inr E))));have g:∀{v:O9} {n sz:Nat} {cs:LV},Yl base (ob v1++(ob v2++(ob v3++ob v4))) ↑w7 v n sz cs->Yl base (ob v1++(ob v2++(ob v3++ob v'))) ↑w8 v n sz cs:=λa=>a.app st av;refine⟨Qf I.o1 O (λb E J=>h.d14 b E J),Qf I.o2 O (λb E J=>h.d24 b E J),Qf I.o3 O (λb E J=>h.d34 b E J),by rw[Ln,LC];simpa using Z,h.d12,h.d13,V5 h.d14 S (λx hx=>ov (l.1 x hx)),h.d23,V5 h.d24 S (λx hx=>ov (l.2.1 x hx)),V5 h.d34 S (λx hx=>ov (l.2.2.1 x hx)),?_,?_⟩
 .exact λp V=>g (I.e1 p V)
 exact λp V=>g (I.e2 p V)
theorem Qao (c:Zy)(pl:QU)(ps:List (LI)):∀(l:List (LI)) (i:Nat) (s:Spc),(l.zipIdx i).foldl (Qql c pl ps) s =
  ⟨s.a,s.co++l.map (·.take c.co.length),s.rq++l.map (·.drop c.co.length),s.pl++l.map (λt=>plx ps (t.take c.co.length)),s.fb++(l.zipIdx i).filterMap (λp=>rsn c pl (plx ps (p.1.take c.co.length)) p.2 p.1)⟩
 | [],i,s=>oe
 | t::l,i,s=>by
  rw[Nz,LZ,Qao c pl ps l (i+1)];unfold Qql;simp only[oX,oY,On,Oh,List.filterMap_cons];cases rsn c pl (plx ps (t.take c.co.length)) i t with
  | none=>rfl
  | some r=>simp
theorem yJ {c:Zy}{rs:LI}:∀{l:LI},(∀x∈wrf c.rq rs l,(c.ev.getD x.1.toNat ⟨.empty,false,false,false,0⟩).co=true)->rfd c rs l=none
 | [],_=>rfl
 | v::l,h=>by
  rw[wrf]at h;rw[rfd];by_cases E:0<=rfr v 0 c.rq rs
  .rw[O1 E]at h;have H:=h _ Lr;rw[O0 (λe=>by rw[H]at e;cases e.2)];exact yJ λx hx=>h x (Ll _ hx)
  rw[O0 E]at h;rw[O0 (λe=>E e.1)];exact yJ h
theorem yI {c:Zy}{rs:LI}{x:Int×Int}{t:xF}:∀{l:LI}{p:xF},wrf c.rq rs l=p++x::t->(∀y∈p,(c.ev.getD y.1.toNat ⟨.empty,false,false,false,0⟩).co=true)->(c.ev.getD x.1.toNat ⟨.empty,false,false,false,0⟩).co=false->rfd c rs l=some (x.2,x.1)
 | [],p,h,_,_=>by simp[wrf]at h
 | v::l,p,h,H,hx=>by
  rw[wrf]at h;rw[rfd];by_cases E:0<=rfr v 0 c.rq rs
  .rw[O1 E]at h;cases p with
   | nil =>
    simp only[Oh,List.cons.injEq]at h;obtain⟨I,_⟩:=h;subst I;rw[O1 ⟨E,hx⟩]
   | cons y p =>
    simp only[On,List.cons.injEq]at h;obtain⟨I,O⟩:=h;have J:=H y Lr;subst I;rw[O0 (λe=>by simp only[]at J;rw[J]at e;cases e.2)];exact yI O (λy S=>H y (Ll _ S)) hx
  rw[O0 E]at h;rw[O0 (λe=>E e.1)];exact yI h H hx
theorem Qji (c:Zy)(t:LI):vio c t=if(UM c.ex c.cs t).2.2=true then some ((UM c.ex c.cs t).1,(UM c.ex c.cs t).2.1)else none:=by
 unfold vio UM;by_cases E:0<=fix (Us t) 0 c.ex
 .rw[O1 E,O1 E];rfl
 rw[O0 E,O0 E];by_cases H:0<=fix (qz t) 0 c.cs
 .rw[O1 H,O1 H];rfl
 rw[O0 H,O0 H];rfl
def Qui (N:Nat)(H:xI)(v:O9)(s:Spc):Prop:=∃va vm ve v1 v2 v3 v4 cos rqs,v=.agg #[va,sS s.a.st,vm,ve,v1,v2,v3,v4]/\cos.map (·.2)=s.co/\rqs.map (·.2)=s.rq /\
 ∀L:LN,(∀b∈L,b<N)->ZE L H va vm ve s.a/\Kj L H v1 cos/\Kj L H v2 rqs/\QG L H v3 s.pl/\Zk L H v4 s.fb.length 4 (s.fb.flatMap ZV)
open Go.RowKit
def Qfs (all:Array Oper)(i:Nat)(rest:xD):xD->Array Bool->Bool
 | [],ls=>Region.ready .any all ls == [i] && XK all rest (ls.setIfInBounds i true)
 | (j,true)::l,ls=>(Region.ready .any all ls).contains j && Region.free .any all ls j && Qfs all i rest l (ls.setIfInBounds j true)
 | (j,false)::l,ls=>!(Region.ready .any all ls).isEmpty && (Region.ready .any all ls).all (λk=>k == j || k == i) && XK all ((j,false)::(l++rest)) (ls.setIfInBounds i true) && Qfs all i rest l (ls.setIfInBounds j true)
def Jb (all:xK)(d:Nat)(l:xD):Bool:=l.all λp=>!((Za all p.1).looksAt all.toArray).contains d && !((Za all p.1).dst == some d)
def Qrh (all:xK)(pre l:xD)(i:Nat)(rest:xD):Bool :=
 Region.noSelect all.toArray && (pre.length+(l.length+1+rest.length) == all.length) && K6 all.toArray pre (oW all.length false) && Qfs all.toArray i rest l (Yv pre (oW all.length false))
  && (Za all i).guard.isNone && (match (Za all i).dst with|some d=>Jb all d l|none=>false)
def XF (P:xh)(all:xK)(C:xH)(K:xG):xD->LN->Fr->O8->Prop
 | [],_,f,w=>K f w
 | (j,true)::l,own,f,w=>Z4 all f (Za all j)=true/\∃v,(∀w',(jR (Za all j)=true->C w')->(execOp (ev f) (Za all j)).run P w'=.ok (.value v) w')/\XF P all C K l own (QT f (Za all j).dst v) w
 | (j,false)::l,own,f,w=>Z4 all f (Za all j)=true/\∀w1,sW w w1->C w1->XO P (Za all j) f w1 λE w'=>C w'/\∃own',xj own w1 w'/\(∀b∈own',b∈own\/(↑w1<=b/\b<↑w'))/\XF P all C K l own' E w'
section
variable {all:xK}{C:xH}{KF:xG}
attribute [local semireducible] XO in
theorem Qpu (I:∀cs b,o.op≠.select cs b){d:Nat}{v:O9}{K':xG}(J:d∉o.looksAt all.toArray)(O:o.dst≠some d)(hK:∀u w',K (QT f o.dst u) w'->K' (QT (QT f o.dst u) (some d) v) w')
  (h:XO P o f w K):XO P o (QT f (some d) v) w K':=by
 have H:∀u,QT (QT f (some d) v) o.dst u=QT (QT f o.dst u) (some d) v:=λu=>qL f v u (λe E=>by cases E;exact O);unfold XO at *;rw[Kr (all:=all) I f (some d) v (λe E=>by cases E;exact J)];generalize (execOp (ev f) o).run P w=r at *;cases r with
 | ok nx w' =>
  cases nx <;> simp only[upF]at h ⊢
  case value u=>rw[H];exact hK u w' h
  case skip=>rw[H];exact hK _ w' h
  case enter g args =>
   refine Calls.mono h λe S E=>?_;cases e with
   | returned u=>simp only at E ⊢;rw[H];exact hK u S E
   | panicked c=>exact E.elim
   | outgrown=>exact E.elim
 | halt x w'=>exact h.elim
theorem y9 {f0:Fr}{dst:xL}{v:O9}(hd:inD D dst=true)(h:∀t,KD D t=false->f t=f0 t):∀t,KD D t=false->QT f dst v t=f0 t:=λt E =>
 (Y9 (λe=>by rw[e]at hd;simp only[inD]at hd;rw[hd]at E;cases E) v).I (h t E)
def Jp (all:xK)(D:xE)(l:xD):Bool:=l.all λp=>inD D (Za all p.1).dst
attribute [local semireducible] XP in
theorem XP.keeps_mono {K':xG}:∀(l:xD) (f:Fr) (w:O8),XP P all C K l f w->(∀f w,K f w->K' f w)->XP P all C K' l f w
 | [],f,w,h,hk=>by simp only[XP]at h ⊢;exact hk _ _ h
 | (j,q)::l,f,w,h,hk=>by
  simp only[XP]at h ⊢;cases E:Z4 all f (Za all j)with
  | false=>rw[E]at h;exact XP.keeps_mono l _ _ h hk
  | true =>
   rw[E]at h;cases q with
   | true=>obtain⟨v,H,hx⟩:=h;exact⟨v,H,XP.keeps_mono l _ _ hx hk⟩
   | false=>exact XO.S (λv w' hx=>⟨hx.1,XP.keeps_mono l _ _ hx.2 hk⟩) h
theorem XP.keeps {D:xE}{f0:Fr}:∀(l:xD) (f:Fr) (w:O8),Jp all D l=true->(∀t,KD D t=false->f t=f0 t)->XP P all C K l f w->XP P all C (λH w'=>(∀t,KD D t=false->H t=f0 t)/\K H w') l f w
 | [],f,w,_,hf,h=>by simp only[XP]at h ⊢;exact⟨hf,h⟩
 | (j,q)::l,f,w,hd,hf,h=>by
  simp only[Jp,Ok,oO]at hd;have E:Jp all D l=true:=hd.2;simp only[XP]at h ⊢;cases I:Z4 all f (Za all j)with
  | false=>rw[I]at h;exact XP.keeps l _ _ E (y9 hd.1 hf) h
  | true =>
   rw[I]at h;cases q with
   | true=>obtain⟨v,J,hx⟩:=h;exact⟨v,J,XP.keeps l _ _ E (y9 hd.1 hf) hx⟩
   | false=>exact XO.S (λv w' hx=>⟨hx.1,XP.keeps l _ _ E (y9 hd.1 hf) hx.2⟩) h
theorem fk {l:xD}{own:LN}(h:∀w1,sW w w1->C w1->XO P (Za all j) f w1 λE w'=>C w'/\∃own',xj own w1 w'/\(∀b∈own',b∈own\/(↑w1<=b/\b<↑w'))/\XF P all C K l own' E w')
  (H:Z4 all f (Za all j)=true:=by rfl):XF P all C K ((j,false)::l) own f w:=⟨H,h⟩
end
attribute [irreducible] XF
def UE (P:xh)(all:xK)(K:xH->LN->Fr->O8->Prop):xD->xH->LN->Fr->O8->Prop
 | [],C,own,f,w=>K C own f w
 | (j,true)::l,C,own,f,w=>Z4 all f (Za all j)=true/\∃v,(∀w',(jR (Za all j)=true->C w')->(execOp (ev f) (Za all j)).run P w'=.ok (.value v) w')/\UE P all K l C own (QT f (Za all j).dst v) w
 | (j,false)::l,C,own,f,w=>Z4 all f (Za all j)=true/\∀w1,sW w w1->C w1->XO P (Za all j) f w1 λE w'=>∃C':xH,(∀x,C' x->C x)/\(∀x x',C' x->sW x x'->C' x')/\C' w'/\∃own',xj own w1 w'/\(∀b∈own',b∈own\/(↑w1<=b/\b<↑w'))/\UE P all K l C' own' E w'
section
variable {all:xK}{C C0:xH}{KF:xH->LN->Fr->O8->Prop}
theorem UE.J (hK:∀C own f w w',KF C own f w->sW w w'->KF C own f w'):∀{l:xD}{C:xH}{own:LN}{f:Fr}{w w':O8},UE P all KF l C own f w->sW w w'->UE P all KF l C own f w'
 | [],_,_,_,_,_,h,E=>hK _ _ _ _ _ h E
 | (_,true)::_,_,_,_,_,_,h,E=>by
  obtain⟨H,v,I,hx⟩:=h;exact⟨H,v,I,UE.J hK hx E⟩
 | (_,false)::_,_,_,_,_,_,h,E=>⟨h.1,λJ O S=>h.2 J (E.I O) S⟩
attribute [local semireducible] XA XO in
theorem XA.sub {C':xH}(hC:∀x,C' x->C x):∀(k:Nat) (ls:Array Bool) (f:Fr) (w:O8),XA P all C' K k ls f w->XA P all C K k ls f w
 | 0,_,_,_,h=>h
 | k+1,ls,f,w,h=>by
  refine⟨h.1,λi hi o I=>?_⟩;have E:=h.2 i hi o I;cases H:Z4 all f o with
  | false=>rw[H]at E;exact XA.sub hC k _ _ _ E
  | true =>
   rw[H]at E;exact XO.S (λJ w' hx=>⟨hx.1.imp id (Or.imp id (hC w')),XA.sub hC k _ _ _ hx.2⟩) E
structure Fl3 (P:xh)(all:xK)(C0:xH)(K:xG)(KF:xH->LN->Fr->O8->Prop)(i d:Nat)(rest:xD)(Φ:O9->O8->Prop)(Dc:xE)(f1:Fr):Prop where
 stab:∀v (own:LN) w w',Φ v w->xj own w w'->(∀b∈ow v,b∉own)->Φ v w'
 spec:∀f w,(∀t,KD Dc t=false->f t=f1 t)->C0 w->XO P (Za all i) f w λf' w'=>sW w w'/\C0 w'/\Φ (f' d) w'/\∀b∈ow (f' d),↑w<=b/\b<↑w'
 fin:∀C own f w,KF C own f w->∀v,C w->(∀x,C x->C0 x)->Φ v w->(∀b∈ow v,b∉own/\b<↑w)->XP P all C K rest (QT f (some d) v) w
 S:∀C own f w w',KF C own f w->sW w w'->KF C own f w'
theorem QaA:∀(l:xK) (j:Nat),l[j]?=none->Za l j=default
 | [],_,_=>rfl
 | _::l,0,h=>by simp at h
 | _::l,j+1,h=>QaA l j (oA h)
theorem Qdn (H:Region.noSelect all.toArray=true)(j:Nat):∀cs b,(Za all j).op≠.select cs b:=by
 intro cs b;cases E:all[j]? with
 | none=>rw[QaA all j E];intro e;cases e
 | some o=>rw[ZQ E];exact Region.noSelect_spec H j o cs b (oA E)
theorem QfR {i d:Nat}{rest:xD}{Φ:O9->O8->Prop}{Dc:xE}{f1:Fr}(hF:Fl3 P all C0 K KF i d rest Φ Dc f1)(J:Region.noSelect all.toArray=true){v:O9}:∀(l:xD) (C:xH) (own:LN) (ls:Array Bool) (f:Fr) (w:O8),(∀x,C x->C0 x)->(∀x x',C x->sW x x'->C x')->ls.size=all.length->Jb all d l=true->UE P all KF l C own f w->C w->Φ v w ->
  (∀b∈ow v,b∉own/\b<↑w)->XK all.toArray (l++rest) ls=true->XA P all C K (l++rest).length ls (QT f (some d) v) w
 | [],C,own,ls,f,w,O,hh,S,_,h,hC,T,E,I=>YG J rest ls _ w S (.inl hC) I (hF.fin C own f w h v hC O T E)
 | (j,true)::l,C,own,ls,f,w,O,hh,S,hfr,h,hC,T,E,I=>by
  simp only[Jb,Ok,oO,OA,List.contains_eq_mem,decide_eq_false_iff_not,beq_eq_false_iff_ne,ne_eq]at hfr;obtain⟨⟨h1,h2⟩,hfr⟩:=hfr;have hi:Jb all d l=true:=by simpa[Jb]using hfr
  have hd:∀e,some d=some e->e∉(Za all j).looksAt all.toArray:=λe V=>by cases V;exact h1
  simp only[On,XK,oO]at I;obtain⟨⟨Y,hf⟩,hl⟩:=I;have hw:j∈Region.ready .any all.toArray ls:=by simpa using Y
  obtain⟨hg,u,hu,hx⟩:=h;cases H:all[j]? with
  | none =>
   exfalso;obtain⟨_,o,h6,_⟩:=mem_ready.1 hw;simp[H]at h6
  | some o =>
   have h7:∀(j:Nat) (o:Oper) cs b,all[j]?=some o->o.op≠.select cs b:=λj o cs b hj=>Region.noSelect_spec J j o cs b (oA hj);have h8:=λk ok hk=>Region.free_spec (ops:=all.toArray) (md:=.any) (i:=j) (oi:=o) (listed:=ls) (oA H) hf k ok (oA hk);have hn:Z4 all (QT f (some d) v) o=true:=by
    have:=U7 (Za all j) f (some d) v hd;rw[ZQ H]at this hg;rw[this];exact hg
   have h9:∀w',(jR o=true->C w')->(execOp (ev (QT f (some d) v)) o).run P w'=.ok (.value u) w':=λw' hc=>by
    have:=Kr (all:=all) (Qdn J j) f (some d) v hd;rw[ZQ H]at this hu;rw[this];exact hu w' hc
   have hy:=QfR hF J l C own (ls.setIfInBounds j true) _ w O hh (oA S) hi hx hC T E hl;rw[<-qL f v u (λe V=>by cases V;exact h2),ZQ H]at hy;exact K0 (v:=u) (D:=λw=>jR o=true->C w) H (λ_ h=>h) h7 _ ls _ w (λ_=>hC) h8 hw (.inl ⟨hn,h9⟩) hy
 | (j,false)::l,C,own,ls,f,w,O,hh,S,hfr,h,hC,T,E,I=>by
  simp only[Jb,Ok,oO,OA,List.contains_eq_mem,decide_eq_false_iff_not,beq_eq_false_iff_ne,ne_eq]at hfr;obtain⟨⟨h1,h2⟩,hfr⟩:=hfr;have hi:Jb all d l=true:=by simpa[Jb]using hfr
  have hd:∀e,some d=some e->e∉(Za all j).looksAt all.toArray:=λe V=>by cases V;exact h1
  simp only[On,XK,oO,beq_iff_eq]at I;obtain⟨Y,hl⟩:=I;show XA P all C K ((l++rest).length+1) ls _ w;refine V9 (λh0=>(by rw[h0]at Y;cases Y)) ?_;rw[Y];intro k hk o H;have hA:k=j:=by simpa using hk
  subst hA;have hq:=ZQ H;have hn:Z4 all (QT f (some d) v) o=true:=by
   have:=U7 (Za all k) f (some d) v hd;rw[hq]at this;rw[this,<-hq];exact h.1
  rw[hn,cond_true];have Z:=h.2 w (xj.Y _ _) hC;have h4:XO P (Za all k) (QT f (some d) v) w λf' w'=>(VJ all k=true\/w'=w\/C w')/\XA P all C K (l++rest).length (ls.setIfInBounds k true) f' w':=by
   refine Qpu (all:=all) (Qdn J k) h1 h2 (λu w' hx=>?_) Z;obtain⟨C',ht,hB,hz,own',h5,hD,hx⟩:=hx;refine⟨.inr (.inr (ht _ hz)),XA.sub ht _ _ _ _ (QfR hF J l C' own' _ _ w' (λx hx=>O x (ht x hx)) hB (oA S) hi hx hz (hF.stab v own w w' T h5 (λb ha=>(E b ha).1)) (λb ha=>⟨λhm=>?_,Mw (E b ha).2 h5.size⟩) hl)⟩;rcases hD b hm with Z|Z
   .exact(E b ha).1 Z
   exact Nat.lt_irrefl _ (Mw (E b ha).2 Z.1)
  rw[hq]at h4;exact h4
theorem QfQ {i d:Nat}{rest:xD}{Φ:O9->O8->Prop}{Dc:xE}{f1:Fr}(hF:Fl3 P all C0 K KF i d rest Φ Dc f1)(hs:Region.noSelect all.toArray=true)(hg:(Za all i).guard=none)(hd:(Za all i).dst=some d):∀(l:xD) (C:xH) (ls:Array Bool) (own:LN) (f:Fr) (w:O8),(∀x,C x->C0 x)->(∀x x',C x->sW x x'->C x')->ls.size=all.length->Jb all d l=true->Jp all Dc l=true->(∀t,KD Dc t=false->f t=f1 t) ->
  UE P all KF l C own f w->C w->(∀b∈own,b<↑w)->Qfs all.toArray i rest l ls=true->XA P all C K (l.length+1+rest.length) ls f w
 | [],C,ls,own,f,w,O,ha,he,hfr,S,hk1,h,hC,hc,E=>by
  simp only[Qfs,oO,beq_iff_eq]at E;obtain⟨V,E⟩:=E;rw[show([]:xD).length+1+rest.length=rest.length+1 by simp;omega];refine V9 (λh0=>(by rw[h0]at V;cases V)) ?_;rw[V];intro k hk o H;have hi:k=i:=by simpa using hk
  subst hi;have hh:=ZQ H;have hx:=hF.spec f w hk1 (O _ hC);rw[hh]at hg hd hx;rw[jh hg,cond_true];refine hx.S λv w' hx=>?_;rw[hd]at hx ⊢;obtain⟨T,_,I,Y⟩:=hx;simp only[QT,Jj]at I Y;have J:=ha _ _ hC T;refine⟨.inr (.inr J),YG hs rest _ _ _ (oA he) (.inl J) E (hF.fin C own f w' (hF.S C own f w w' h T) v J O I (λb Z=>⟨λhm=>Nat.lt_irrefl _ (Mw (hc b hm) (Y b Z).1),(Y b Z).2⟩))⟩
 | (j,true)::l,C,ls,own,f,w,O,ha,he,hfr,S,hk1,h,hC,hc,E=>by
  simp only[Qfs,oO]at E;obtain⟨⟨V,hf⟩,hl⟩:=E;have hw:j∈Region.ready .any all.toArray ls:=by simpa using V
  have e:(oR ((j,true)::l))+1+rest.length=(l.length+1+rest.length)+1:=by simp;omega
  rw[e];have hn:Jb all d l=true:=by simp only[Jb,Ok,oO]at hfr;exact hfr.2
  simp only[Jp,Ok,oO]at S;have hq:Jp all Dc l=true:=S.2;cases H:all[j]? with
  | none =>
   exfalso;obtain⟨_,o,h7,_⟩:=mem_ready.1 hw;simp[H]at h7
  | some o =>
   obtain⟨hy,v,hv,hx⟩:=h;rw[ZQ H]at hy hv hx;have h8:∀(j:Nat) (o:Oper) cs b,all[j]?=some o->o.op≠.select cs b:=λj o cs b hj=>Region.noSelect_spec hs j o cs b (oA hj);have h9:=λk ok hk=>Region.free_spec (ops:=all.toArray) (md:=.any) (i:=j) (oi:=o) (listed:=ls) (oA H) hf k ok (oA hk);exact K0 (v:=v) (D:=λw=>jR o=true->C w) H (λ_ h=>h) h8 _ ls f w (λ_=>hC) h9 hw (.inl ⟨hy,hv⟩) (QfQ hF hs hg hd l C _ own _ w O ha (oA he) hn hq (by have:=y9 (v:=v) S.1 hk1;rw[ZQ H]at this;exact this) hx hC hc hl)
 | (j,false)::l,C,ls,own,f,w,O,ha,he,hfr,S,hk1,h,hC,hc,E=>by
  simp only[Qfs,oO,Ow,Bool.or_eq_true,beq_iff_eq,OA]at E;obtain⟨⟨⟨hz,V⟩,hA⟩,hl⟩:=E;have e:(oR ((j,false)::l))+1+rest.length=(l.length+1+rest.length)+1:=by simp;omega
  rw[e];have hn:Jb all d l=true:=by simp only[Jb,Ok,oO]at hfr;exact hfr.2
  simp only[Jp,Ok,oO]at S;have hq:Jp all Dc l=true:=S.2;refine V9 (λh0=>(by rw[h0]at hz;cases hz)) ?_;intro k hk o H;have hh:=ZQ H;have h5:(ls.setIfInBounds k true).size=all.length:=by simpa using he
  by_cases hi:k=i
  .subst hi;have hx:=hF.spec f w hk1 (O _ hC);rw[hh]at hg hd hx;rw[jh hg,cond_true];refine hx.S λv w' hx=>?_;rw[hd]at hx ⊢;obtain⟨T,_,I,Y⟩:=hx;simp only[QT,Jj]at I Y;have J:=ha _ _ hC T;refine⟨.inr (.inr J),?_⟩;have hx:=QfR hF hs ((j,false)::l) C own (ls.setIfInBounds k true) f w' O ha h5 hfr (UE.J hF.S h T) J I (λb Z=>⟨λhm=>Nat.lt_irrefl _ (Mw (hc b hm) (Y b Z).1),(Y b Z).2⟩) hA;rw[show((j,false)::l++rest).length=l.length+1+rest.length by simp;omega]at hx;exact hx
  have hB:k=j:=(V k hk).resolve_right hi;subst hB;have T:=h.1;have J:=h.2 w (xj.Y _ _) hC;rw[hh]at T J;rw[T,cond_true];refine J.S λv w' hx=>?_;obtain⟨C',ht,hD,h6,own',hE,hG,hx⟩:=hx;refine⟨.inr (.inr (ht _ h6)),XA.sub ht _ _ _ _ (QfQ hF hs hg hd l C' _ own' _ w' (λx hx=>O x (ht x hx)) hD h5 hn hq (by have:=y9 (v:=v) S.1 hk1;rw[hh]at this;exact this) hx h6 (λb Z=>?_) hl)⟩;rcases hG b Z with I|I
  .exact Mw (hc b I) hE.size
  exact I.2
theorem UE.keeps {D:xE}{f0:Fr}:∀(l:xD) (C:xH) (own:LN) (f:Fr) (w:O8),Jp all D l=true->(∀t,KD D t=false->f t=f0 t)->UE P all KF l C own f w->UE P all (λC' o E w'=>(∀t,KD D t=false->E t=f0 t)/\KF C' o E w') l C own f w
 | [],C,own,f,w,_,hf,h=>⟨hf,h⟩
 | (j,true)::l,C,own,f,w,hd,hf,h=>by
  simp only[Jp,Ok,oO]at hd;obtain⟨H,v,I,hx⟩:=h;exact⟨H,v,I,UE.keeps l C own _ _ hd.2 (y9 hd.1 hf) hx⟩
 | (j,false)::l,C,own,f,w,hd,hf,h=>by
  simp only[Jp,Ok,oO]at hd;refine⟨h.1,λJ O S=>XO.S (λv w' hx=>?_) (h.2 J O S)⟩;obtain⟨C',T,V,Y,own',Z,ha,hx⟩:=hx;exact⟨C',T,V,Y,own',Z,ha,UE.keeps l C' own' _ _ hd.2 (y9 hd.1 hf) hx⟩
theorem f3q {l:xD}{own:LN}{v:O9}(E:∀w',C w'->(execOp (ev f) (Za all j)).run P w'=.ok (.value v) w')(h:UE P all KF l C own (QT f (Za all j).dst v) w)
  (hd:jR (Za all j)=true:=by rfl) (H:Z4 all f (Za all j)=true:=by rfl):UE P all KF ((j,true)::l) C own f w:=⟨H,v,λw' I=>E w' (I hd),h⟩
theorem j3 {l:xD}{own:LN}{v:O9}(E:∀w',(execOp (ev f) (Za all j)).run P w'=.ok (.value v) w')(h:UE P all KF l C own (QT f (Za all j).dst v) w)
  (H:Z4 all f (Za all j)=true:=by rfl):UE P all KF ((j,true)::l) C own f w:=⟨H,v,λw' _=>E w',h⟩
theorem f3k {l:xD}{own:LN}(h:∀w1,sW w w1->C w1->XO P (Za all j) f w1 λE w'=>∃C':xH,(∀x,C' x->C x)/\(∀x x',C' x->sW x x'->C' x')/\C' w'/\∃own',xj own w1 w'/\(∀b∈own',b∈own\/(↑w1<=b/\b<↑w'))/\UE P all KF l C' own' E w')
  (H:Z4 all f (Za all j)=true:=by rfl):UE P all KF ((j,false)::l) C own f w:=⟨H,h⟩
theorem f3e {own:LN}(h:KF C own f w):UE P all KF [] C own f w:=h
theorem jD (C:xH)(pre l:xD)(i d:Nat)(rest:xD)(own:LN)(D Dc:xE)(S:α->List (Nat×O9))(I:α->xH->LN->O8->Prop)(Φ:O9->O8->Prop)
  (T:Qrh all pre l i rest=true) (J:(Jp all D pre && Jp all D l && Jp all Dc l)=true) (hd:(Za all i).dst=some d) (hC:C { w with drawn:=w.drawn+1 }) (Z:∀x x',C x->sW x x'->C x') (ha:∀b∈own,b<↑w)
  (stab:∀v (own:LN) w w',Φ v w->xj own w w'->(∀b∈ow v,b∉own)->Φ v w') (mono:∀z C own w w',I z C own w->sW w w'->I z C own w')
  (fin:∀z g own w v (C':xH),I z C' own w->C' w->(∀x,C' x->C x)->Φ v w->(∀b∈ow v,b∉own/\b<↑w)->XP P all C' K rest (QT (zD (S z) (mix D f g)) (some d) v) w)
  (h:XP P all C (λf1 _=>(∀g w,C w->XO P (Za all i) (mix Dc f1 g) w λE w'=>sW w w'/\C w'/\Φ (E d) w'/\∀b∈ow (E d),↑w<=b/\b<↑w')/\UE P all (λC' o E w'=>∃z,XC E (S z)/\I z C' o w') l C own f1 { w with drawn:=w.drawn+1 }) pre f { w with drawn:=w.drawn+1 }):XA P all C K all.length (oW all.length false) f { w with drawn:=w.drawn+1 }:=by
 rw[LF,LF]at J;simp only[Qrh,oO,beq_iff_eq,Option.isNone_iff_eq_none]at T;obtain⟨⟨⟨⟨⟨H,hl⟩,hq⟩,hc⟩,hg⟩,hfr⟩:=T;rw[hd]at hfr;have V:=XB (K:=K) (m:=l.length+1+rest.length) H pre (oW all.length false) f _ hC hq
  (B:=λf1 _=>Fl3 P all C K (λC' o E w'=>(∀t,KD D t=false->E t=f t)/\∃z,XC E (S z)/\I z C' o w') i d rest Φ Dc f1/\UE P all (λC' o E w'=>(∀t,KD D t=false->E t=f t)/\∃z,XC E (S z)/\I z C' o w') l C own f1 { w with drawn:=w.drawn+1 })
  (λf1 Y=>QfQ Y.1 H hg hd l C (Yv pre (oW all.length false)) own f1 _ (λ_ h=>h) Z (by rw[XJ];simp) hfr J.2 (λ_ _=>rfl) Y.2 hC ha hc)
  (XP.keeps_mono _ _ _ (XP.keeps pre f _ J.1.1 (λ_ _=>U) h) (λf1 w1 hx=>⟨⟨stab,?_,?_,?_⟩,UE.keeps l C own _ _ J.1.2 hx.1 hx.2.2⟩))
 .rw[hl]at V;exact V
 .intro E w' hk O;have:=hx.2.1 E w' O;rw[VF hk]at this;exact this
 .rintro C' o E w' ⟨hk,z,H,hi⟩ v O he hv hb;have:=fin z E o w' v C' hi O he hv hb;rw[VF hk,X4 H]at this;exact this
 rintro C' o E w' hj ⟨hk,z,H,hi⟩ hh;exact⟨hk,z,H,mono z C' o _ _ hi hh⟩
theorem f2k {l:xD}{own:LN}(h:∀E,sW w E->C E->XO P (Za all j) f E λI w'=>C w'/\∃own',xj own E w'/\(∀b∈own',b∈own\/(↑E<=b/\b<↑w'))/\UE P all KF l C own' I w')
  (J:Z4 all f (Za all j)=true:=by rfl) (O:∀x x',C x->sW x x'->C x':=by exact λ_ _ H S=>H.I S):UE P all KF ((j,false)::l) C own f w :=
 ⟨J,λE H T=>XO.S (λ_ _ hx=>⟨C,λ_ h=>h,O,hx⟩) (h E H T)⟩
theorem f2e {own:LN}{S:α->List (Nat×O9)}{I:α->LN->O8->Prop}(h:∃z,XC f (S z)/\I z own w):UE P all (λC' o E w'=>∃z,XC E (S z)/\(C'=C/\I z o w')) [] C own f w :=
 let⟨z,a,b⟩:=h
 ⟨z,a,U,b⟩
theorem Kd (C:xH)(pre l:xD)(i d:Nat)(rest:xD)(own:LN)(D Dc:xE)(S:α->List (Nat×O9))(I:α->LN->O8->Prop)(Φ:O9->O8->Prop)
  (H:Qrh all pre l i rest=true) (J:(Jp all D pre && Jp all D l && Jp all Dc l)=true) (hd:(Za all i).dst=some d) (hC:C { w with drawn:=w.drawn+1 }) (O:∀b∈own,b<↑w)
  (stab:∀v (own:LN) w w',Φ v w->xj own w w'->(∀b∈ow v,b∉own)->Φ v w') (mono:∀z own w w',I z own w->sW w w'->I z own w')
  (fin:∀z g own w v,I z own w->C w->Φ v w->(∀b∈ow v,b∉own/\b<↑w)->XP P all C K rest (QT (zD (S z) (mix D f g)) (some d) v) w)
  (h:XP P all C (λf1 _=>(∀g w,C w->XO P (Za all i) (mix Dc f1 g) w λE w'=>sW w w'/\C w'/\Φ (E d) w'/\∀b∈ow (E d),↑w<=b/\b<↑w')/\UE P all (λC' o E w'=>∃z,XC E (S z)/\(C'=C/\I z o w')) l C own f1 { w with drawn:=w.drawn+1 }) pre f { w with drawn:=w.drawn+1 })
  (T:∀x x',C x->sW x x'->C x':=by exact λ_ _ V Y=>V.I Y):XA P all C K all.length (oW all.length false) f { w with drawn:=w.drawn+1 }:=
 jD C pre l i d rest own D Dc S (λz C' o w=>C'=C/\I z o w) Φ H J hd hC T O stab (λz _ o w w' h Z=>⟨h.1,mono z o w w' h.2 Z⟩)
  (λz g o w v C' h ha _ hv hb=>by obtain⟨rfl,hi⟩:=h;exact fin z g o w v hi ha hv hb) h
end
attribute [irreducible] UE
abbrev Z3:LV:=[nS,nS,nS,nS,nS]
abbrev XD:LV:=[nS,sS 0,nS,nS]
theorem Xx {a:Array UInt8}(h:a.size<=100):(⟨a⟩:ByteArray).size<=9223372036854775807:=by
 show a.size<=_;omega
def qE (N M:Nat):LN:=(oT M).filter λb=>decide (N<=b)
theorem ZF :b∈qE N M↔N<=b/\b<M:=by
 unfold qE;rw[LY,MQ,decide_eq_true_iff];exact And.comm
instance:Bw sV 163 [nS,sS 0,nS,nS,nS,nS,nS,nS] [(0,4),(4,1),(5,1),(6,1),(7,1)]:={}
def spF (c:Zy)(pl:QU)(ps:List (LI))(l:List (LI)):List Rsn:=l.zipIdx.filterMap (λp=>rsn c pl (plx ps (p.1.take c.co.length)) p.2 p.1)
theorem QjJ {pl:QU}{ps:List (LI)}{l:List (LI)}{k:Nat}(h:k<l.length):spF c pl ps (l.take (k+1))=spF c pl ps (l.take k)++(rsn c pl (plx ps ((l[k]'h).take c.co.length)) k (l[k]'h)).toList:=by
 unfold spF;rw[Lo h,List.zipIdx_append,List.filterMap_append];have e:0+(l.take k).length=k:=by rw[LB];omega
 rw[e];simp only[List.zipIdx_cons,List.zipIdx_nil,List.filterMap_cons,List.filterMap_nil];cases rsn c pl (plx ps ((l[k]'h).take c.co.length)) k (l[k]'h) <;> rfl
theorem Qgd (c:Zy)(pl:QU)(ps:List (LI))(l:List (LI)):(spF c pl ps l).length<=l.length:=by
 unfold spF;refine LJ (List.length_filterMap_le _ _) ?_;rw[List.length_zipIdx];exact Lu _
theorem Qbw {pl sa:QU}{ps ts:List (LI)}(E:xz (auts c.co)=some (pl,ps))(H:xz (auts c.co++auts c.rq)=some (sa,ts)):
  spc c=⟨sa,ts.map (·.take c.co.length),ts.map (·.drop c.co.length),ts.map (λt=>plx ps (t.take c.co.length)),spF c pl ps ts⟩:=by
 unfold spc syA syQ;rw[E,H];simp only[];rw[Qao];simp[spF]
theorem Ql2 {s:List ByteArray}{x:Y0}(h:Z1 n u s x=0):x.a.st≠0:=by
 unfold Z1 at h;split at h
 .cases h
 split at h
 .cases h
 split at h
 .rename_i H E;exact O3 h E
 split at h
 .cases h
 split at h
 .cases h
 assumption
theorem Qed {n:Nat}{al:LI}:∀{l:List Y0}{s:List ByteArray}{u:LI},(Yr n al s u l).1=0->∀x∈l,x.a.st≠0
 | [],_,_,_,x,hx=>by cases hx
 | y::l,s,u,h,x,hx=>by
  rw[Kc]at h;by_cases E:Z1 n al s y≠0
  .rw[O1 E]at h;exact O3 h E
  rw[O0 E]at h;have H:Z1 n al s y=0:=Lq.1 E;rcases Lk.1 hx with rfl|hx
  .exact Ql2 H
  exact Qed h x hx
theorem Ql4 (h:Zf c=0):∀x∈c.co,x.a.st≠0:=by
 unfold Zf at h;by_cases E:KG c.ev≠0
 .rw[O1 E]at h;exact O3 h E
 rw[O0 E]at h;by_cases I:c.co.length=0
 .rw[O1 I]at h;cases h
 rw[O0 I]at h;by_cases J:8<c.co.length\/12<c.co.length+c.rq.length
 .rw[O1 J]at h;cases h
 rw[O0 J]at h;by_cases H:(Yr c.ev.length (Vs c.ev.length) [] [] c.co).1≠0
 .rw[O1 H]at h;exact O3 h H
 exact Qed (Lq.1 H)
theorem Qdj (h:Zf c=0){A:QU}{Q:List (LI)}(S:xz (auts c.co)=some (A,Q)):Zo A/\A.st=(Q.length:Int)/\0<Q.length/\∀e∈A.al,0<=e/\e<(c.ev.length:Int):=by
 have H:=ZO h;have I:=Y3 H.co;have hsp:=JM I S;refine⟨hsp.1.okay I,hsp.1.st,?_,λe O=>?_⟩
 .refine Nat.pos_of_ne_zero λT=>?_;obtain⟨a,J,E⟩:=hsp.2.1 T;obtain⟨x,hx,rfl⟩:=Ly.1 J;exact Ql4 h x hx E
 rw[hsp.1.al]at O;obtain⟨a,J,E⟩:=(Qg5 I e).1 O;obtain⟨x,hx,rfl⟩:=Ly.1 J;exact⟨((H.co x hx).al e E).1,H.ce x hx e E⟩
theorem Qj6 {Q:List (LI)}(h:0<Q.length)(t:LI):0<=plx Q t/\plx Q t<(Q.length:Int):=by
 unfold plx;split
 .rename_i E;have:=MR E;omega
 omega
theorem Vt.take {a b:List QU}{t:LI}(h:Vt (a++b) t):Vt a (t.take a.length):=by
 have E:=h.1;rw[Ln]at E;refine⟨by rw[LB];omega,λi I H=>?_⟩;have:=h.2 i oa (by rw[Ln];omega);rw[Ml H]at this;rw[Nj];exact this
theorem Vt.drop {a b:List QU}{t:LI}(h:Vt (a++b) t):Vt b (t.drop a.length):=by
 have E:=h.1;rw[Ln]at E;refine⟨by rw[L5];omega,λi H I=>?_⟩;have:=h.2 (a.length+i) oa (by rw[Ln];omega);rw[M8 oa]at this;rw[List.getElem_drop];simpa using this
theorem Vt.tpOk {l:List Y0}{t:LI}(h:Vt (auts l) t):Qpx (szs l) t:=by
 have E:=h.1;unfold auts at E;rw[Lj]at E;refine⟨by unfold szs;rw[Lj];exact E,λi hi=>?_⟩;have H:=h.2 i hi (by unfold auts;rw[Lj];omega);have I:i<(szs l).length:=by unfold szs;rw[Lj];omega
 rw[<-Zx hi,<-Zx I];unfold auts szs at *;simpa using H
theorem K1.add {base H:Nat}{W I J O:O8}{v1 v2 v3 E c0 c1 c2 c3:O9}{cos rqs:List TV}{pls:LI}{fbs:List Rsn}{q:Rsn}(Z:QP ↑W H T [c0,c1,c2,c3,v1,v2,v3,E])(hS:K1 base W v1 v2 v3 E cos rqs pls fbs)(ha:H<base)(S:sW W I)
  (ho:J.ownsRow base 171 4 v' (fbs.length+1) (fbs.flatMap ZV++ZV q)) (V:xj (ob E) I J) (hn:∀b∈ob v',b∈ob E\/↑I<=b) (Y:xj [H] J O):
  xj (H::ob E) W O/\K1 base O v1 v2 v3 v' cos rqs pls (fbs++[q])/\(∀x∈H::ob E,∃o:Obj,W.heap[x]?=some o/\o.isCells=true):=by
 refine⟨((S.any).V (V.S λx hx=>Ll _ hx)).V (Y.S λx hx=>?_),(hS.a4 S ho V hn).low Y (λx hx=>?_),λx hx=>?_⟩
 .simp only[oJ]at hx;subst hx;exact Lr
 .simp only[oJ]at hx;subst hx;exact ha
 rcases Lk.1 hx with rfl|hx
 .exact Z.cells
 exact Go.Lg.QQ hS.o4 x hx
theorem UG {c:CL}(h0:ZG L ↑w c)(mu:Kb w 4096):
  QZ sV 53 [c.val] w λr w'=>sW w w'/\∃v,r=.tuple #[v,sS (Yo c.Z)]/\(∃us,v=sT us/\us.length=8/\Zj us)/\(Yo c.Z=0->Qui ↑w ↑w' v (spc c.Z)):=by
 have h:=h0.up (L':=[]) oe;refine Zd (Yo c.Z) λE hE=>?_;refine QZ.of_G 20 func53 U ntmps53 results53 oe ?_;refine Zh<|QM om om<|Zg c.cells λb1 w1 hH hb1 mv=>QL [nS,sS 0,nS,nS,nS,nS,nS,nS] λb2 w2 h9 hb2 gx=>Qb ?_;have kf:=hH.I h9;have mw:=mv.lt;have kg:=gx.lt;have my:=mv.J h9;refine Zh<|QM om om<|QV my U U<|Qx<|(Qel (h.J kf) (mu.J kf)).S ?_;rintro r3 w3 ⟨h4,vp,rfl,z2,mz⟩;rw[hE]at z2 mz ⊢;have m2:=kf.I h4;refine Qa<|QS U U<|QS U U<|x Qh<|Qb<|Zh<|Zh<|QM om om<|Qa<|Zu U U<|xe<|QpA U (λkh=>?_) (λkh=>?_)
 .refine Zh<|QM om om<|x (Q8 [] La)<|Qa<|QJ [nS,sS 0,nS,nS,nS,nS,nS,nS] (gx.J h4) ⟨U,U,U,U,U,U,U,U,La⟩ λw4 hM z3=>Qb<|VT ⟨λ_ h=>(by cases h),MY,[.agg #[nS,sS 0,nS,nS,nS,nS,nS,nS],sS E],λW' hN=>⟨⟨YO (z3.J hN),rfl,La⟩,(m2.Q hM oa).I hN,_,rfl,⟨_,rfl,rfl,rfl,rfl,rfl,rfl,rfl,rfl,rfl,rfl,La⟩,λe=>O3 e kh⟩⟩
 have m3:E=0:=Lq.1 kh;obtain⟨b,q,rfl,rfl,hQ,hq,z5⟩:=mz m3;refine YV<|Zh<|QM om om<|Qa<|Z7 U<|QN U<|x (Q7 (us:=Zq q.s) hq.B U U U)<|x (Q8 [(0,Zq q.s)] ⟨U,U,La⟩)<|QL [nS,sS 0,nS,nS,nS,nS,nS,nS] λI w5 hU ki h5 =>
  QJ [q.s.va,sS q.s.a.st,q.s.vm,q.s.ve,nS,nS,nS,nS] h5 ⟨hq.s.al.one,U,hq.s.mr.one,hq.s.ed.one,U,U,U,U,La⟩ λO gy h5=>xe ?_
 have m4:sW w3 O:=hU.Q gy ki;have kj:=h5.lt;have m5:=hq.J m4;have hz3:=h4.size;refine Zh<|Zh<|QM om om<|Qa<|Z7 U<|Qm U m5.B U U<|QE m5.ts.arr U<|Qa<|xe ?_;have m6:=(zZ (λa ha=>by
  rcases Lh.1 ha with ha|ha
  .exact Y3 (ZO hQ.ok).co a ha
  exact Y3 (ZO hQ.ok).rq a ha) hQ.s)
 have kk:=m6.1;have m7:=m6.2;simp only[]at kk m7;have hY:=ZO hQ.ok;have hckc:=hY.c8;have hZ:q.c.Z.co.length=q.c.co.length:=Lj ..;have hrel:q.c.Z.rq.length=q.c.rq.length:=Lj ..;have hcr:=hY.cr;have hal:(auts q.c.Z.co++auts q.c.Z.rq).length=q.c.co.length+q.c.rq.length:=by rw[Ln];unfold auts;rw[Lj,Lj,hZ,hrel]
 refine Zd (q.ts.map (·.2)) λT hT=>?_;rw[hT]at kk m7;have hTn:q.ts.length=T.length:=by rw[<-hT,Lj]
 refine Z5<|zn (α:=Nat×(O9×O9×O9×O9)×List TV×List TV×LI) [(7,17),(37,99),(100,118)] (λz=>[(37,sS z.1)]) (λz ds W'=>z.1<=q.ts.length/\xj [I] O W'/\qw ↑O ↑W' ds W'/\QP ↑W' I 163 [q.s.va,sS q.s.a.st,q.s.vm,q.s.ve,z.2.1.1,z.2.1.2.1,z.2.1.2.2.1,z.2.1.2.2.2] /\
  K1 ↑O W' z.2.1.1 z.2.1.2.1 z.2.1.2.2.1 z.2.1.2.2.2 z.2.2.1 z.2.2.2.1 z.2.2.2.2 (spF q.c.Z q.p.a (q.qs.map (·.2)) (T.take z.1))/\z.2.2.1.map (·.2)=(T.take z.1).map (·.take q.c.co.length)/\z.2.2.2.1.map (·.2)=(T.take z.1).map (·.drop q.c.co.length)/\z.2.2.2.2=(T.take z.1).map (λt=>plx (q.qs.map (·.2)) (t.take q.c.co.length)))
  (λz=>q.ts.length - z.1) om (0,(nS,nS,nS,nS),[],[],[]) Lb
  ⟨Lp _,xj.Y _ _,⟨MY,λD hD=>by cases hD⟩,h5,K1.nil _ _,rfl,rfl,rfl⟩ ?_
 rintro⟨k,⟨v1,v2,v3,S⟩,cos,rqs,pls⟩ g ds w7 ⟨hk,kn,m8,ko,Y,gi,gj,gk⟩;simp only[]at hk ko Y gi gj gk;have gl:sW w3 w7:=m4.Q kn ki;have m9:=m2.I gl;have hz7:=kn.size;have gz:(T.take k).length=k:=by rw[LB];omega
 have hcosl:cos.length=k:=by have:=O2 oR gi;rw[Lj,Lj,gz]at this;exact this
 have hrqsl:rqs.length=k:=by have:=O2 oR gj;rw[Lj,Lj,gz]at this;exact this
 have hplsl:pls.length=k:=by rw[gk,Lj,gz]
 have pa:=Qgd q.c.Z q.p.a (q.qs.map (·.2)) (T.take k);rw[gz]at pa;refine Zd (spF q.c.Z q.p.a (q.qs.map (·.2)) (T.take k)) λfbs g0=>?_;rw[g0]at Y pa;refine Zd (ob v1++(ob v2++(ob v3++ob S))) λav gm=>?_;have ga:∀x∈av,↑O<=x/\x<w7.heap.size:=λx hx=>by
  rw[<-gm]at hx;rcases Qdv hx with H|H|H|H
  .exact Qg Y.o1 x H
  .exact Qg Y.o2 x H
  .exact Qg Y.o3 x H
  exact Qg Y.o4 x H
 have g2:I∉av:=λJ=>ov (ga I J).1
 have kq:∀x∈av,x∈I::av:=λx hx=>Ll _ hx;have g3:Kk (I::av) b ↑w7 q:=(hq.up (λx hx=>.inr (by
  rcases Lk.1 hx with rfl|hx
  .exact ki
  have:=(ga x hx).1;omega))).J gl
 refine Zh<|QM om om<|Ye U U<|xe<|Zh<|Qbl U (λpc=>?_) (λpc=>?_)
 .refine VU ?_;rw[Lt oa]at gi gj gk g0;have hsp:=Qbw hQ.p hQ.s;rw[hT,hZ,<-gi,<-gj,<-gk,g0]at hsp;have pd:=h4.I gl;refine Zh<|QM om om<|QV ko U U<|QJ [q.s.va,sS q.s.a.st,q.s.vm,q.s.ve,v1,v2,v3,S] (gx.J pd) ⟨hq.s.al.one,U,hq.s.mr.one,hq.s.ed.one,Qr Y.o1,Qr Y.o2,Qr Y.o3,Qr Y.o4,La⟩ λw8 g4 hB8=>Qb ?_;have hb2w:b2<O.heap.size:=oa
  have gn:qw ↑O ↑w7 ds w8:=m8.blk g4 (gx.J pd);have hb2d:b2∉ds:=λJ=>ov (gn.2 b2 J).1
  have hS8:=Y.low g4 (λx hx=>by simp only[oJ]at hx;subst hx;exact hb2w);refine VT ⟨λD hD=>(gn.2 D hD).2.2,gn.1,[.agg #[q.s.va,sS q.s.a.st,q.s.vm,q.s.ve,v1,v2,v3,S],sS E],λW' hN=>?_⟩;have g5:Lg.Xp [] w8 W':=Lg.Xp.nonc hN (λD hD=>⟨_,(gn.2 D hD).2.2,U⟩);have gb:=hN.size;have h6:=hS8.cst g5 gb;refine⟨⟨YO (hB8.O hN hb2d),O2 sS m3.symm,La⟩,(m9.Q g4 oa).G hN (λD hD=>.inr (ov (gn.2 D hD).1)),_,U,⟨_,U,U,hq.s.al.one,U,hq.s.mr.one,hq.s.ed.one,Qr Y.o1,Qr Y.o2,Qr Y.o3,Qr Y.o4,La⟩,λ_=>?_⟩;have hl9:pls.length<=1099511627776:=oa
  have hl8:fbs.length<=1099511627776:=oa
  rw[hsp];refine⟨q.s.va,q.s.vm,q.s.ve,v1,v2,v3,S,cos,rqs,U,U,U,λL hL=>⟨?_,⟨QC h6.o1 oa (λx hx J=>?_),λp hp=>h6.e1 p hp L (λx hx=>?_)⟩,⟨QC h6.o2 oa (λx hx J=>?_),λp hp=>h6.e2 p hp L (λx hx=>?_)⟩,QC h6.o3 hl9 (λx hx J=>?_),QC h6.o4 hl8 (λx hx J=>?_)⟩⟩
  .have H:=((z5 (b2::L) (λx hx=>by
    rcases Lk.1 hx with rfl|hx
    .exact kg
    have:=hL x hx;omega)).1.J gl).st (g4.S (λx hx=>by simp only[oJ]at hx;subst hx;exact Lr))
   have h2:=H.up (L':=L) (λx hx=>.inl (Ll _ hx));exact⟨h2.al.cst (g5.S oe) gb,h2.mr.cst (g5.S oe) gb,h2.ed.cst (g5.S oe) gb⟩
  .have:=(Qg h6.o1 x hx).1;have:=hL x J;omega
  .exact .inl (ov (hL x hx))
  .have:=(Qg h6.o2 x hx).1;have:=hL x J;omega
  .exact .inl (ov (hL x hx))
  .have:=(Qg h6.o3 x hx).1;have:=hL x J;omega
  have:=(Qg h6.o4 x hx).1;have:=hL x J;omega
 have go:k<q.ts.length:=by have h39:(k:Int)<(q.ts.length:Int):=pc;omega
 have gp:k<T.length:=oa
 have pf:=Lm go;have hTe:T[k]'gp=(q.ts[k]'go).2:=by subst hT;simp
 have hr:=QjJ (c:=q.c.Z) (pl:=q.p.a) (ps:=q.qs.map (·.2)) gp;have gq:T.take (k+1)=T.take k++[T[k]'gp]:=Lo gp;have gc:=kk _ (Lm gp);rw[g0]at hr;rw[hTe]at hr gq gc;refine YV<|QhF (α:=(O9×O9×O9×O9)×List TV×List TV×LI) [(7,17),(38,117)] (λz=>[(37,sS k)]) (λz hO W'=>xj [I] O W'/\qw ↑O ↑W' hO W'/\QP ↑W' I 163 [q.s.va,sS q.s.a.st,q.s.vm,q.s.ve,z.1.1,z.1.2.1,z.1.2.2.1,z.1.2.2.2] /\
  K1 ↑O W' z.1.1 z.1.2.1 z.1.2.2.1 z.1.2.2.2 z.2.1 z.2.2.1 z.2.2.2 (spF q.c.Z q.p.a (q.qs.map (·.2)) (T.take (k+1)))/\z.2.1.map (·.2)=(T.take (k+1)).map (·.take q.c.co.length)/\z.2.2.1.map (·.2)=(T.take (k+1)).map (·.drop q.c.co.length)/\z.2.2.2=(T.take (k+1)).map (λt=>plx (q.qs.map (·.2)) (t.take q.c.co.length))) om ?_ ?_
 rotate_left
 .rintro⟨⟨u1,u2,u3,u4⟩,cos',rqs',pls'⟩ g hO W ⟨hsW,hDW,hBW,hSW,H,h2,h3⟩;refine QM om om<|QH U U<|Qa<|xe ?_;exact⟨(k+1,(u1,u2,u3,u4),cos',rqs',pls'),og,Lb,go,hsW,hDW,hBW,hSW,H,h2,h3⟩
 refine Z5<|Zh<|QM om om<|Qa<|xp (g:=YT) Uu g3.ts.arr U U go λa40 pg=>?_;refine Zd (q.ts[k]'go) λt ht=>?_;rw[ht]at pg pf hr gq gc;have htl:t.2.length=q.c.co.length+q.c.rq.length:=by rw[gc.1,hal]
 refine x (Qy pg U)<|QL [sS 0] λb7 w9 hs9 hb7 hB9=>Qo<|Qw (j:=0) (u:=sS k) hB9 U U oh U λw10 hs10 hB10 =>
  Qb ?_
 have kr:sW w7 w10:=hs9.Q hs10 hb7;refine Zh<|QM om om<|Qa<|Qa<|Qx<|(Qc1 (g3.J kr) ((g3.ts.each t pf).J kr) oa).S ?_;rintro r11 ph ⟨pj,v9,pm,rfl,hI,h7⟩;refine Qa<|QS U U<|QS U U<|x Qh<|Qb ?_;have kt:=kr.I pj;have ku:=g3.J kt;refine Zd (t.2.take q.c.co.length) λtc hR=>?_;refine Zd (t.2.drop q.c.co.length) λtr gr=>?_;rw[hZ]at hr;rw[hR]at hI hr;rw[gr]at h7;have htcl:tc.length=q.c.co.length:=by rw[<-hR,LB];omega
 have htrl:tr.length=q.c.rq.length:=by rw[<-gr,L5];omega
 have hbdt:=gc.bd (m:=4096) (λa ha=>by
  rcases Lh.1 ha with ha|ha
  .exact(Y3 hY.co a ha).st1
  exact(Y3 hY.rq a ha).st1)
 have pn:∀x∈tc,0<=x/\x<4096:=λx hx=>hbdt x (L8 (by rw[hR];exact hx));refine Zh<|jN (sW ph) [oE 0,oE 1,oE 2,oE 3,oE 4,oF 5,oE 6,oE 7] mixed om om od (xj.X _ _) ?_;refine p QA<|p (Xj U)<|p (QF U)<|pq (λ_ hc=>Qk (ku.B.J hc) U U)<|p QA<|pk<|xg<|(Qcw (hI.J (xj.X _ _)) ((mu.J (m9.I kt)).J (xj.X _ _)) pn oa).S ?_;rintro r12 hg ⟨rfl,hs12⟩;have gg:=(xj.X [] ph).I hs12;refine⟨gg,?_⟩;have po:(match xt q.mm (Vp tc)with|some u=>u|none=>sS 0)=sS (plx (q.qs.map (·.2)) tc):=by
  rw[hQ.m tc htcl (λx hx=>(pn x hx).1)];unfold plx;by_cases J:tc∈q.qs.map (·.2)
  .rw[O1 J,O1 J]
  rw[O0 J,O0 J]
 refine Zd (plx (q.qs.map (·.2)) tc) λpi kv=>?_;rw[kv]at po hr;refine pq (λ_ hc=>(JO (k:=Vp tc) (ku.m.J hc) U U).I (O2 (λv=>Result.ok (Next.value v) _) po))<|p ZL<|pe ?_;have gh:=kt.I gg;have hI:=hI.J gg;have h7:=h7.J gg;have h5:=ko.J gh;have gs:=Y.J gh;have hS12d:=gs.J (xj.X [] hg);have hz712:=gh.size;have hzd:({ hg with drawn:=hg.drawn+1 }:O8).heap.size=hg.heap.size:=rfl
 have hC0:xj av hg { hg with drawn:=hg.drawn+1 }:=xj.X _ _
 have fin:∀{hh hi ho hj hl:O9} {wx wy:O8},xj av hg wx->K1 ↑O wx hh hi ho S (cos++[(hj,tc)]) (rqs++[(hl,tr)]) (pls++[pi]) fbs->xj [I] wx wy->QP ↑wy I 163 [q.s.va,sS q.s.a.st,q.s.vm,q.s.ve,hh,hi,ho,S] ->
   xj (I::av) hg wy/\QP ↑wy I 163 [q.s.va,sS q.s.a.st,q.s.vm,q.s.ve,hh,hi,ho,S]/\K1 ↑O wy hh hi ho S (cos++[(hj,tc)]) (rqs++[(hl,tr)]) (pls++[pi]) fbs:=λhC hP hs hB =>
  ⟨(hC.S kq).V (hs.S (λx hx=>by simp only[oJ]at hx;subst hx;exact Lr)),hB,hP.low hs (λx hx=>by simp only[oJ]at hx;subst hx;exact kj)⟩
 have hkl:k<=4096:=oa
 have htr16:tr.length<=16:=oa
 have htc40:tc.length<=1099511627776:=oa
 have htr40:tr.length<=1099511627776:=oa
 have mw:cos.length+1<=1099511627776:=oa
 have kg:rqs.length+1<=1099511627776:=oa
 have hl3:pls.length+1<=1099511627776:=oa
 have gt:O.heap.size<=hg.heap.size:=oa
 refine QhF (α:=O9×O9×O9×O9×O9) [(55,74)] (λ_=>[]) (λz hO w'=>hO=ds/\xj (I::av) hg w'/\QP ↑w' I 163 [q.s.va,sS q.s.a.st,q.s.vm,q.s.ve,z.1,z.2.1,z.2.2.1,S]/\K1 ↑O w' z.1 z.2.1 z.2.2.1 S (cos++[(z.2.2.2.1,tc)]) (rqs++[(z.2.2.2.2,tr)]) (pls++[pi]) fbs) om ?_ ?_
 .refine jM _ mixed om om (Kd (α:=O9×O9×O9×O9) (xj av hg) [oE 0,oE 1,oE 2,oE 6,oE 7,oE 8,oE 12,oE 13,oE 14] [oF 3,oF 4,oF 5,oE 17,oF 9,oF 10,oF 11] 15 70
   [oF 16,oF 18,oE 19,oF 20,oE 21,oF 22] av [(55,74)] [(58,60),(64,66),(72,72)] (λz=>[(60,z.1),(66,z.2.1),(68,v3),(72,.pointer (some ⟨I,4,none⟩))]) (λz _ w'=>xj av hg w'/\K1 ↑O w' z.1 z.2.1 v3 S (cos++[(z.2.2.1,tc)]) (rqs++[(z.2.2.2,tr)]) pls fbs)
   (λv w'=>∃b,v=sL b 1 1/\QP ↑w' b 3 [sS pi]) od om U hC0 (λx hx=>Mw (ga x hx).2 hz712) ?_ ?_ ?_ ?_)
  .rintro v own w w' ⟨b,rfl,hB⟩ hs hn;exact⟨b,U,hB.O hs (hn b ou)⟩
  .rintro z own w w' ⟨H,h2⟩ hs;exact⟨H.I hs,h2.J hs⟩
  .rintro⟨hh,hi,hj,hl⟩ g own wz v ⟨pp,hP⟩ _ ⟨b15,rfl,g6⟩ _;have hcz:=pp.size;refine pk<|Q9 (news:=[sS pi]) (L:=[]) hP.o3 U U U (g6.at oe) oq hl3 (LJ gt hcz) λho y1 g7 hH hn1=>?_;have Q1:=K1.a3 (q:=pi) hP (xj.Y [] _) g7 hH hn1;have kw:xj av hg y1:=pp.V (hH.S (λb hb=>by rw[<-gm];exact je (.inr (.inr (.inl hb)))));refine⟨kw,?_⟩;refine pkk<|Qw (j:=4) (u:=hh) (h5.O kw g2) U U oe (Qr Q1.o1) λy2 h9 kx=>p (QF rfl) <|
    pkk<|Qw (j:=5) (u:=hi) kx U U oe (Qr Q1.o2) λy3 h4 hB3'=>p (QF rfl) <|
    pkk<|Qw (j:=6) (u:=ho) hB3' U U oe (Qr Q1.o3) λy4 hM hB4'=>pe ?_
   exact⟨(hh,hi,ho,hj,hl),La,U,fin kw Q1 ((h9.V h4).V hM) hB4'⟩
  refine p (QF U)<|pq (λ_ hc=>Qk (h5.O hc g2) U U)<|p QA<|p (QF U)<|pq (λ_ hc=>Qk (h5.O hc g2) U U)<|p QA <|
   p (QF rfl)<|pq (λ_ hc=>Qk (h5.O hc g2) U U)<|p QA<|pe ⟨λg wf hCf=>Zb [[sS pi]] λb wf' pu hbf pw=>⟨pu,hCf.I pu,⟨b,U,pw⟩,λx hx=>?_⟩,?_⟩
  .have hxe:x=b:=by
    have hx':x∈[b]:=hx;simpa using hx'
   subst hxe;exact⟨hbf,pw.lt⟩
  have pz:∀{X:LN},(∀x∈X,x∈ob v1\/x∈ob v2)->∀x∈X,x∈av:=λhX x hx=>by rw[<-gm];exact je ((hX x hx).imp id .inl)
  refine f2k λx1 p1 c1=>xg<|(ZU (hI.O c1 kq)).S ?_;rintro hj y1 ⟨hH,g7⟩;have P1:=hS12d.J p1;refine⟨c1.I hH,av,hH.any,λb hb=>.inl hb,?_⟩;refine f2k λx2 p2 c2=>XQ (us:=[[hj]]) U U oh oe ⟨xS g7,rfl,La⟩ λb2' y2 h9 hb2' kx=>⟨c2.I h9,av,h9.any,λb hb=>.inl hb,?_⟩;refine f2k λx3 p3 c3=>?_;have p0:=((hH.I p2).I h9).I p3;have p7:=Ql g7 ((p2.I h9).I p3);refine Q9 (news:=[hj]) (L:=[]) (Ql P1.o1 p0) U U U ((kx.J p3).at oe) (λu hu=>by rw[oJ]at hu;subst hu;exact Qr p7) mw (LJ gt c3.size) λhh y3 ho4 h4 hn3=>?_;have p8:xj av x3 y3:=h4.S (pz λx hx=>.inl hx);refine⟨c3.V p8,av,p8,λb hb=>.inl hb,?_⟩;refine j3 (QF U) ?_;refine f2k λx4 p4 c4=>xg<|(ZU (h7.O c4 kq)).S ?_;rintro hl y4 ⟨hM,p9⟩;have P3:=(K1.a1 (q:=(hj,tc)) P1 p0 p7 htc40 (Lu _) (LJ gt c1.size) ho4 h4 hn3).J p4;refine⟨c4.I hM,av,hM.any,λb hb=>.inl hb,?_⟩;refine f2k λx5 p5 c5=>XQ (us:=[[hl]]) U U oh oe ⟨xS p9,rfl,La⟩ λb5' y5 hU hb5' hB5'=>⟨c5.I hU,av,hU.any,λb hb=>.inl hb,?_⟩;refine f2k λx6 p6 c6=>?_;have qc:=((hM.I p5).I hU).I p6;have qf:=Ql p9 ((p5.I hU).I p6);refine Q9 (news:=[hl]) (L:=[]) (Ql P3.o2 qc) U U U ((hB5'.J p6).at oe) (λu hu=>by rw[oJ]at hu;subst hu;exact Qr qf) kg (LJ gt c6.size) λhi y6 ho7 gy hn6=>?_;have kz:xj av x6 y6:=gy.S (pz λx hx=>.inr hx);refine⟨c6.V kz,av,kz,λb hb=>.inl hb,?_⟩;exact f2e ⟨(hh,hi,hj,hl),oD,c6.V kz,(K1.a2 (q:=(hl,tr)) P3 qc qf htr40 (Lu _) (LJ gt c4.size) ho7 gy hn6)⟩
 rintro⟨hh,hi,ho,hj,hl⟩ g hO k0 ⟨rfl,hJ,hB13,hS13⟩;have hz13:=hJ.size;have ql:=(ku.J gg).st hJ;have hI:=hI.st hJ;have h7:=h7.st hJ;have g8:Kk [] b ↑k0 q:=ql.up oe;have hcell:∀x∈I::av,∃o:Obj,hg.heap[x]?=some o/\o.isCells=true:=λx hx=>by
  rcases Lk.1 hx with rfl|hx
  .exact h5.cells
  rw[<-gm]at hx;rcases Qdv hx with H|H|H|H
  .exact Go.Lg.QQ gs.o1 x H
  .exact Go.Lg.QQ gs.o2 x H
  .exact Go.Lg.QQ gs.o3 x H
  exact Go.Lg.QQ gs.o4 x H
 have hD13:qw ↑O ↑w7 hO k0:=((m8.up (Lu _)).J gh).O hJ hcell;have hb7n:b7∉I::av:=λJ=>by
  rcases Lk.1 J with H|H
  .omega
  have:=(ga _ H).2;omega
 have hb1n:b1∉I::av:=λJ=>by
  rcases Lk.1 J with H|H
  .omega
  have:=(ga _ H).1;omega
 have qo:=((hB10.J pj).J gg).O hJ hb7n;have hB1c:=((my.J (h4.I gl)).J gh).O hJ hb1n;have hs613:xj [I] O k0:=(kn.I gh).G hJ (λx hx=>by
  rcases Lk.1 hx with H|H
  .subst H;exact .inl Lr
  exact .inr (ga x H).1)
 have k4:(cos++[(hj,tc)]).map (·.2)=(T.take (k+1)).map (·.take q.c.co.length):=by rw[gq,Ls,Ls,gi,M2,M2,hR]
 have k5:(rqs++[(hl,tr)]).map (·.2)=(T.take (k+1)).map (·.drop q.c.co.length):=by rw[gq,Ls,Ls,gj,M2,M2,gr]
 have k6:pls++[pi]=(T.take (k+1)).map (λt=>plx (q.qs.map (·.2)) (t.take q.c.co.length)):=by rw[gq,Ls,gk,M2,hR,kv]
 have hVc:Vt (auts q.c.Z.co) tc:=by
  have H:=gc.take;rw[show(auts q.c.Z.co).length=q.c.co.length by unfold auts;rw[Lj];exact hZ,hR]at H;exact H
 have hVr:Vt (auts q.c.Z.rq) tr:=by
  have H:=gc.drop;rw[show(auts q.c.Z.co).length=q.c.co.length by unfold auts;rw[Lj];exact hZ,gr]at H;exact H
 have gu:=Qdj hQ.ok hQ.p;have hpr:=Qj6 gu.2.2.1 tc;rw[kv,<-gu.2.1]at hpr;have hckp:cks q.p.a pi=0:=by
  unfold cks;rw[O0 (by rw[(Z0 q.p.a).2 gu.1];decide),O0 oa]
 have hvo:=zz g8.k1 g8.k2 g8.k3 (hI.up (L':=[]) oe) (by rw[hQ.ex,hQ.cs];exact hY.cd) hVc.tpOk;have hA:rsn q.c.Z q.p.a pi k t.2=(match vio q.c.Z tc with|some (kd,j)=>some ⟨k,kd,j,-1⟩|none=>match rfd q.c.Z tr (Qiu q.p.a pi)with|some (j,v)=>some ⟨k,3,j,v⟩|none=>none):=by unfold rsn;rw[hZ,hR,gr];rfl
 rw[Qji]at hA;rw[hQ.ex,hQ.cs]at hvo;refine Zd (UM q.c.Z.ex q.c.Z.cs tc) λV hV=>?_;rw[hV]at hvo hA;refine Zh<|Zh<|QM om om<|Qa<|Z7 U<|QN U<|x (Q7 (us:=[q.vs,q.vx,q.vk]) g8.B U U U)<|Qa<|Qx<|hvo.S ?_;rintro r14 k7 ⟨h8,rfl⟩;refine Qa<|QS U U<|QS U U<|QS U U<|QS U U<|x Qh<|x Qh<|x Qh<|Qb ?_;have g9:=hB13.J h8;have hK:=hS13.J h8;have qr:=hD13.J h8;have q0:=hs613.I h8;have hz14:=h8.size;have q1:fbs.length+1<=1099511627776:=oa
 have hb014:O.heap.size<=k7.heap.size:=oa
 have hz714:w7.heap.size<=k7.heap.size:=oa
 refine Zh<|QM om om<|Qa<|xe<|UH rfl (λk8=>?_) (λk8=>?_)
 .rw[O1 k8]at hA;rw[hA]at hr;refine Zh<|QM om om<|Qm U g9 U U<|Xe (qo.J h8) U U<|Qa<|Qa<|x (Qv ⟨U,U,U,U,La⟩) <|
   Qo<|Zb [ZV ⟨k,V.1,V.2.1,-1⟩] λb93 y1 hF hb93 k9=>?_
  have q2:=hF.size;refine Qo<|Q9 (m:=1) (news:=ZV ⟨k,V.1,V.2.1,-1⟩) (L:=[]) (Ql hK.o4 hF) U U U (k9.at oe) oq q1 (LJ hb014 q2) λu4 y2 gv gw ma=>?_;have mf:I∉ob S:=λJ=>ov (Qg hK.o4 _ J).1
  refine QN U<|Qo<|Qw (j:=7) (u:=u4) ((g9.J hF).O gw mf) U U oe (Qr gv) λy3 mg mh=>xe ?_;have hw:=K1.add (q:=⟨k,V.1,V.2.1,-1⟩) g9 hK kj hF gv gw ma mg;refine VU<|⟨((hh,hi,ho,u4),cos++[(hj,tc)],rqs++[(hl,tr)],pls++[pi]),Lb,q0.G hw.1 (λx hx=>?_),((qr.O hw.1 hw.2.2).up (LJ hz714 hw.1.size)),mh,?_,k4,k5,k6⟩
  .rcases Lk.1 hx with H|H
   .subst H;exact .inl Lr
   exact .inr (Qg hK.o4 x H).1
  simp only[];rw[hr];exact hw.2.1
 rw[O0 (by rw[k8];decide)]at hA;refine YV ?_;have h7:=h7.J h8;refine Zh<|QM om om<|Qa<|Qa<|Qa<|Qx<|(zp (b:=b) (st:=pi) (vr:=pm) h7.cells).S ?_;rintro r15 ka ⟨hG,c1,c2,c3,rfl,hc1,hc2,hc3,hR1,hR2,hR3⟩;refine xe ?_;have hz15:=hG.size;have g6:=g9.J hG;have q3:=hK.J hG;have q4:=qr.J hG;have q5:=q0.I hG;refine Zd (wrf q.c.Z.rq tr (enb q.p.a pi)) λfl kb=>?_;have za:∀x∈I::ob S,x∈I::av:=λx hx=>by
  rcases Lk.1 hx with rfl|hx
  .exact Lr
  exact Ll _ (by rw[<-gm];exact je (.inr (.inr (.inr hx))))
 have mj:∀x∈I::ob S,x<k7.heap.size:=λx hx=>by
  rcases Lk.1 hx with rfl|hx
  .omega
  exact(Qg hK.o4 x hx).2
 have zb:Kk (I::ob S) b ↑ka q:=((ql.J h8).J hG).up (λx hx=>.inl (za x hx));have hIr15:QG (I::ob S) ↑ka pm tr:=(h7.J hG).up (λx hx=>.inl (za x hx));have hEv:∀p∈fl,0<=p.1/\p.1<(q.c.ev.length:Int):=λp hp=>by
  rw[<-kb]at hp;have H:=(zY.1 hp).1;unfold enb at H;obtain⟨e,he,h2⟩:=Ly.1 H;have h3:=gu.2.2.2 _ (gu.1.ed e (ZY he).1).2.2.1;rw[h2]at h3;exact h3
 refine Z5<|Qev (α:={ x:Int×Int // x∈fl }) (I::ob S) oa (capt:=[sP c1,sP c2,sP c3]) U (encs:=λx=>[sS x.1.1,sS x.1.2]) oh (λ_=>U)
  (UT hR1 hR2 hR3 (λJ=>ov (mj _ J)) (λJ=>ov (mj _ J)) (λx hx=>ov (mj _ hx)) zb hIr15 (λx hx=>hY.rq x.it (LK hx)) hVr hckp U kb)
  (λpre W=>(∀y∈pre,(q.c.Z.ev.getD y.1.1.toNat ⟨.empty,false,false,false,0⟩).co=true)/\sW ka W) (λpre=>(YL.pure _).and (YL.O (Lu _)))
  (λe pre W=>e=.exit 2/\(∃p y,pre=p++[y]/\(∀y∈p,(q.c.Z.ev.getD y.1.1.toNat ⟨.empty,false,false,false,0⟩).co=true)/\(q.c.Z.ev.getD y.1.1.toNat ⟨.empty,false,false,false,0⟩).co=false /\
   ∃u4,xj (I::ob S) ka W/\QP ↑W I 163 [q.s.va,sS q.s.a.st,q.s.vm,q.s.ve,hh,hi,ho,u4]/\K1 ↑O W hh hi ho u4 (cos++[(hj,tc)]) (rqs++[(hl,tr)]) (pls++[pi]) (fbs++[⟨k,3,y.1.2,y.1.1⟩])/\qw ↑O ↑w7 hO W))
  (λe pre=>(YL.pure _).and (YL.ex λp=>YL.ex λy=>(YL.pure _).and ((YL.pure _).and ((YL.pure _).and (YL.ex λu4=>(YL.O (Lu _)).and (YL.blk.and ((YL.cst λW W' h hc hz=>h.cst hc hz).and (qw.stb oa))))))))
  ⟨λy hy=>(by cases hy),xj.Y _ _⟩
  (λf x f' W=>f'=upd (upd (upd (upd f 100 (sS x.1.1)) 101 (sS x.1.2)) 16 (sS x.1.1)) 17 (sS x.1.2)) (λx f'=>YL.pure _) ?_ ?_ ?_ ?_
 .rintro l pre ⟨⟨e,i⟩,he⟩ W Z;refine Zh<|QM om om<|Qb<|QM om om<|Qb<|⟨U,Vl.refl _ _ _,Lg.Xp.refl _ _,Z,U⟩
 .rintro l pre ⟨⟨e,i⟩,he⟩ f' W ⟨kc,Z⟩ rfl _;have hee:=hEv _ he;have hen:e=(e.toNat:Int):=oa
  have ke:e.toNat<q.c.ev.length:=oa
  refine Z5<|Zh<|QM om om<|QN U<|x (Qk ((hB1c.J (h8.I hG)).J Z) U U)<|Qa<|xp (g:=Zs) (i:=e.toNat) V2 (zb.J Z).c.ev.arr U (O2 sS hen) ke λa105 zv=>?_;have hge:q.c.Z.ev.getD e.toNat ⟨.empty,false,false,false,0⟩=q.c.ev[e.toNat]'ke:=by
   show q.c.ev.getD e.toNat _=_;simp[oQ,ke]
  refine Zd (q.c.ev[e.toNat]'ke) λv hv=>?_;rw[hv]at zv hge;refine x (Zp U)<|x (Qy (zv.fld 1 (.bool v.co) U) U)<|x (Zr U)<|xe<|UH U (λmo=>?_) (λmo=>?_)
  .have mq:v.co=false:=by simpa using mo
   have hS:=q3.J Z;have hB:=g6.J Z;have gb:=Z.size;refine Zh<|QM om om<|Qm U hB U U<|x (Qk ((qo.J (h8.I hG)).J Z) U U)<|Qa<|Qa<|x (Qv ⟨U,U,U,U,La⟩) <|
    Qo<|Zb [ZV ⟨k,3,i,e⟩] λb93 y1 hF hb93 k9=>?_
   have q2:=hF.size;refine Qo<|Q9 (m:=1) (news:=ZV ⟨k,3,i,e⟩) (L:=[]) (Ql hS.o4 hF) U U U (k9.at oe) oq q1 oa λu4 y2 gv gw ma=>?_;have mf:I∉ob S:=λJ=>ov (Qg hK.o4 _ J).1
   refine QN U<|Qo<|Qw (j:=7) (u:=u4) ((hB.J hF).O gw mf) U U oe (Qr gv) λy3 mg mh=>xe ?_;have hw:=K1.add (q:=⟨k,3,i,e⟩) hB hS kj hF gv gw ma mg;refine VU ?_;exact⟨Vl.O hw.1 gb (λx hx=>⟨.inl hx,hw.2.2 x hx⟩),U,pre,_,U,kc,by simp only[];rw[hge];exact mq,u4,Z.any.V hw.1,mh,hw.2.1,(q4.J Z).O hw.1 hw.2.2⟩
  have mq:v.co=true:=by simpa using mo
  refine YV<|⟨Vl.refl _ _ _,Lg.Xp.refl _ _,λy hy=>?_,Z⟩;rcases Lh.1 hy with H|H
  .exact kc y H
  simp only[oJ]at H;subst H;simp only[];rw[hge];exact mq
 .rintro D xs W hD hxs ⟨kc,Z⟩ ms;have mt:rfd q.c.Z tr (Qiu q.p.a pi)=none:=yJ λx hx=>by
   rw[show wrf q.c.Z.rq tr (Qiu q.p.a pi)=fl from kb,<-hxs]at hx;obtain⟨y,hy,rfl⟩:=Ly.1 hx;exact kc y hy
  rw[mt]at hA;rw[hA]at hr;refine⟨((hh,hi,ho,S),cos++[(hj,tc)],rqs++[(hl,tr)],pls++[pi]),Lb,q5.I Z,(q4.J Z).cons oa oa ms,g6.J Z,?_,k4,k5,k6⟩;simp only[];rw[hr];simpa using(q3.J Z)
 rintro D e pre W hD hSp ⟨rfl,p,y,rfl,hp,hy,u4,hst,hBu,hSu,hDu⟩ ms _;have mt:rfd q.c.Z tr (Qiu q.p.a pi)=some (y.1.2,y.1.1):=by
  obtain⟨rs,z1⟩:=hSp;rw[Ls]at z1;refine yI (x:=y.1) (t:=rs) (p:=p.map (·.1)) ?_ (λz hz=>?_) hy
  .exact(show wrf q.c.Z.rq tr (Qiu q.p.a pi)=fl from kb).I (z1.symm.I oe)
  obtain⟨z',hz',rfl⟩:=Ly.1 hz;exact hp z' hz'
 rw[mt]at hA;rw[hA]at hr;refine⟨((hh,hi,ho,u4),cos++[(hj,tc)],rqs++[(hl,tr)],pls++[pi]),Lb,q5.G hst (λx hx=>?_),hDu.cons oa oa ms,hBu,?_,k4,k5,k6⟩
 .rcases Lk.1 hx with H|H
  .subst H;exact .inl Lr
  exact .inr (Qg hK.o4 x H).1
 simp only[];rw[hr];exact hSu
theorem At.from {H:xI}{a:Addr}(h:At L H a us)(j:Nat):At L H (a.add j) (us.drop j):=
 ⟨λu hu=>by rw[Yz];exact h.out u (Mf hu),λu hu=>by rw[Yz];exact h.lt u (Mf hu),λi v E=>by
  rw[Addr.add_add];exact h.cell (j+i) v (by rw[<-MF];exact E)⟩
theorem QgJ:∀{l:LI}{n:Int},Yp l->n∈l->lwB l n=l.idxOf n
 | [],_,_,h=>by cases h
 | a::l,n,hi,h=>by
  have E:=L6.1 hi;unfold lwB;by_cases e:a=n
  .subst e;have e2:l.filter (λx=>decide (x<a))=[]:=Nx.2 λx hx=>by have:=E.1 x hx;simp;omega
   rw[Mg,O0 oe,e2];simp
  have I:n∈l:=by
   rcases Lk.1 h with H|H
   .exact O3 H.symm e
   exact H
  have ih:=QgJ E.2 I;unfold lwB at ih;rw[Mg,O1 (O4 (E.1 n I)),LX,ih,List.idxOf_cons];have:(a == n)=false:=by simpa using e
  rw[this];rfl
theorem Ka {v:O9}{l:List Ed}(h:Zk L ↑w v l.length 3 (l.flatMap Qz)):
  QZ sV 104 [v] w λr w'=>sW w w'/\w'.ownsRow ↑w 159 3 r l.length (l.flatMap Qz):=
 J9 ⟨_,U,func104⟩ h (Qgw (c:=Qz) (λ_=>oC) l)
theorem UC {v:O9}{l:List Kf}(h:Zk L ↑w v l.length 5 (l.flatMap Zs)):
  QZ sV 78 [v] w λr w'=>sW w w'/\w'.ownsRow ↑w 169 5 r l.length (l.flatMap Zs):=
 J9 ⟨_,U,func78⟩ h (Qgw (c:=Zs) (λ_=>⟨U,U,U,U,U,La⟩) l)
structure Jq {α:Type}(g:α->LV)(sz T:Nat)(ps:α->List (O9×Nat×Nat×LV))(base:Nat)(w:O8)(v:O9)(l:List α):Prop where
 own:w.ownsRow base T sz v l.length (l.flatMap g)
 each:∀q∈l,∀t∈ps q,Yl base (ob v) ↑w t.1 t.2.1 t.2.2.1 t.2.2.2
section
variable {g:α->LV}{ps:α->List (O9×Nat×Nat×LV)}{base:Nat}{v:O9}{l:List α}
theorem Jq.nil:Jq g sz T ps base w (nS) []:=⟨QI _ _ _ _,λq E=>by cases E⟩
theorem Jq.J (h:Jq g sz T ps base w v l)(E:sW w w'):Jq g sz T ps base w' v l:=⟨Ql h.own E,λq H t I=>(h.each q H t I).J E⟩
theorem Jq.low {X:LN}(h:Jq g sz T ps base w v l)(E:xj X w w')(H:∀b∈X,b<base):Jq g sz T ps base w' v l :=
 ⟨Qf h.own E (λb I J=>oy (Qg h.own b I).1 (H b J)),λq O t S=>(h.each q O t S).low E H⟩
theorem Jq.app {E H:O8}{I:O9}{q:α}(h:Jq g sz T ps base w v l)(Y:sW w E)
  (Z:∀t∈ps q,∃N e,E.ownsRow N e t.2.2.1 t.1 t.2.1 t.2.2.2/\t.2.1<=1099511627776/\↑w<=N) (J:base<=↑w)
  (ho:H.ownsRow base T sz I (l.length+1) (l.flatMap g++g q)) (O:xj (ob v) E H) (S:∀b∈ob I,b∈ob v\/↑E<=b):Jq g sz T ps base H I (l++[q]):=by
 refine⟨?_,λd hd t V=>?_⟩
 .rw[Ln,LC];simpa using ho
 rcases Lh.1 hd with hd|hd
 .exact((h.each d hd t V).J Y).app O S
 simp only[oJ]at hd;subst hd;obtain⟨N,e,h1,h2,h3⟩:=Z t V;exact(Yl.of_own h1 h2 oa (λb J=>ov ((Q3 h.own) b J))).app O S
end
abbrev Qik (q:IV):List (O9×Nat×Nat×LV):=[(q.p.va,q.p.a.al.length,1,q.p.a.al.map (.int .i64)),(q.p.vm,q.p.a.mr.length,1,q.p.a.mr.map (.int .i64)),(q.p.ve,q.p.a.ed.length,3,q.p.a.ed.flatMap Qz)]
abbrev IvP (base:Nat)(w:O8)(v:O9)(l:List IV):Prop:=Jq QK 5 98 Qik base w v l
def Qul (N:Nat)(H:xI)(v:O9)(l:List Y0):Prop:=∃qs:List IV,qs.map IV.it=l/\∀L:LN,(∀b∈L,b<N)->XX L H v qs
theorem IvP.itms {base:Nat}{v:O9}{l:List IV}(h:IvP base w v l)(J:l.length<=1099511627776)(O:∀q∈l,JE q.nm)(H:∀b∈L,b<base):XX L ↑w v l :=
 ⟨QC h.own J (λb E hbL=>oy (Qg h.own b E).1 (H b hbL)),λq I=>⟨h.each q I (q.p.va,q.p.a.al.length,1,q.p.a.al.map (.int .i64)) oe L (λb E=>.inl (H b E)),h.each q I (q.p.vm,q.p.a.mr.length,1,q.p.a.mr.map (.int .i64)) oe L (λb E=>.inl (H b E)),h.each q I (q.p.ve,q.p.a.ed.length,3,q.p.a.ed.flatMap Qz) oe L (λb E=>.inl (H b E))⟩,O⟩
instance:Bw sV 98 [.string .empty,nS,sS 0,nS,nS] [(0,1),(1,4)]:={}
theorem jz {v vi:O9}{ix:LI}(h0:XX L ↑w v qs)(hE:QG L ↑w vi ix)(hb:∀i∈ix,0<=i/\i<(qs.length:Int)):
  QZ sV 223 [v,vi] w λr w'=>sW w w'/\Qul ↑w ↑w' r (chs (qs.map IV.it) ix)/\r.oneCell'=true:=by
 have h:XX [] ↑w v qs:=h0.up oe;have hi:QG [] ↑w vi ix:=hE.up oe;have hR:=hi.le;refine Zt func223 ?_;refine Qc<|Qb<|Qc<|Qb<|Qd<|Qj<|QE hi U<|Qa<|xe<|Q2 (α:=Nat×O9×List IV) [(5,5),(7,8),(11,41)] (λz=>[(5,z.2.1),(11,sS z.1)]) (λz w'=>z.1<=ix.length/\sW w w'/\IvP ↑w w' z.2.1 z.2.2/\z.2.2.map IV.it=chs (qs.map IV.it) (ix.take z.1)/\∀q∈z.2.2,JE q.nm) (λz=>ix.length - z.1) (0,nS,[]) oB
  ⟨Lp _,xj.Y _ _,Jq.nil,U,λq hq=>by cases hq⟩ ?_
 rintro⟨k,vo,qo⟩ g w1 ⟨hk,J,O,hg,hr⟩;simp only[]at hk O hg hr;have hS:qo.length=k:=by have:=O2 oR hg;unfold chs at this;rw[Lj,Lj,LB]at this;omega
 refine Zi rfl U (λhs=>?_) (λhs=>?_)
 .refine Qt ?_;have hF:ix.length<=k:=by have hj:¬(k:Int)<(ix.length:Int):=hs;omega
  rw[Lt hF]at hg;refine Qj<|Qb<|Qi ⟨[_],Lb,J,⟨qo,hg,λL hL=>O.itms oa hr hL⟩,Qr O.own⟩
 refine Qe ?_;have S:k<ix.length:=by have hj:(k:Int)<(ix.length:Int):=hs;omega
 have hG:=hb _ (Lm S);have h7:ix.take (k+1)=ix.take k++[ix[k]'S]:=Lo S;refine Zd (ix[k]'S) λi h8=>?_;rw[h8]at hG h7;have hA:i=(i.toNat:Int):=oa
 have V:i.toNat<qs.length:=oa
 have hB:chs (qs.map IV.it) (ix.take (k+1))=chs (qs.map IV.it) (ix.take k)++[(qs[i.toNat]'V).it]:=by
  rw[h7];unfold chs;rw[Ls];simp[oQ,V]
 have h1:=h.J J;have hv:=Lm V;refine Zd (qs[i.toNat]'V) λq hq=>?_;rw[hq]at hB hv;have I:=h1.each q hv;have hH:=h1.nm q hv;refine Qd<|Qn<|Qc<|xii (i:=k) (hi.J J) U U S λhT hj=>?_;rw[h8]at hj;refine x (Qy hj U)<|Qb<|Qj<|Qa<|xp (g:=QK) (i:=i.toNat) Yj h1.arr U (O2 sS hA) V λhU hC=>?_;rw[hq]at hC;refine x (Zp U)<|x (Qu (us:=[q.p.va,sS q.p.a.st,q.p.vm,q.p.ve]) (hC.from 1) U U)<|QL [nS,sS 0,nS,nS] λb8 w2 hI hJ Y =>
  QJ [q.p.va,sS q.p.a.st,q.p.vm,q.p.ve] Y ⟨I.al.one,U,I.mr.one,I.ed.one,La⟩ λH hK Y=>xe ?_
 have hl:sW w1 H:=hI.Q hK hJ;have Z:sW H { H with drawn:=H.drawn+1 }:=xj.X _ _
 have hV:=hl.size;have hW:=J.size;have hw:=Qg O.own;have h3:XX (ob vo) ↑H v qs:=(h.up (L':=ob vo) (λb hb=>.inr (hw b hb).1)).J (J.I hl);have hn:b8∉ob vo:=λhm=>ov (hw b8 hm).2
 have hy:=I.J hl;refine ZH (ob vo) [oE 0,oE 1,oE 2,oE 3,oE 4,oE 5,oE 6,oE 7,oE 9,oE 10,oE 11,oE 12,oE 14,oE 15,oF 8,oF 13,oF 16,oE 17,oE 18,oF 19,oF 20,oE 21]<|p QA<|p QA<|p QA<|Go.Lg.pig (g:=QK) (i:=i.toNat) U Yj h3.arr U (O2 sS hA) V λhX hD=>?_;rw[hq]at hD;refine p (λ_=>Zp U)<|pq (λ_ E=>Qy ((hD.fld 0 (.string q.nm) U).st E) U)<|p (QF U)<|pq (λ_ E=>Qk (Y.O E hn) U U)<|p (QF U) <|
  pq (λ_ E=>Qk (Y.O E hn) U U)<|p (QF U)<|pq (λ_ E=>Qk (Y.O E hn) U U) <|
  p (QF rfl)<|pq (λ_ E=>Qk (Y.O E hn) U U)<|pk<|xg<|(ZU (hy.al.J Z)).S ?_
 rintro r4 w4 ⟨ha,hz⟩;refine⟨(Z.I ha).any,?_⟩;refine pk<|xg<|(ZU ((hy.mr.J Z).J ha)).S ?_;rintro r5 w5 ⟨hh,h2⟩;refine⟨((Z.I ha).I hh).any,?_⟩;refine pk<|xg<|(Ka (((hy.ed.J Z).J ha).J hh)).S ?_;rintro r6 w6 ⟨h4,h5⟩;have ho:=((Z.I ha).I hh).I h4;refine⟨ho.any,?_⟩;refine p (λ_=>Qv ⟨xS hz,U,xS h2,xS h5,La⟩)<|p (λ_=>Q8 [(0,[.string q.nm]),(1,[r4,sS q.p.a.st,r5,r6])] ⟨U,U,U,U,La⟩)<|pk<|Zb [QK ⟨q.nm,⟨r4,r5,r6,q.p.a⟩⟩] λhY w7 he hZ hM=>⟨(ho.I he).any,?_⟩;have hp:=(hl.I ho).I he;have ga:=hp.size;have gb:({ H with drawn:=H.drawn+1 }:O8).heap.size=H.heap.size:=rfl
 have gc:=ha.size;have gg:=hh.size;refine pk<|Q9 (m:=1) (news:=QK ⟨q.nm,⟨r4,r5,r6,q.p.a⟩⟩) (L:=[]) (Ql O.own hp) U U U (hM.at oe) (λu hu=>by
   simp only[oM,oL,or_false]at hu;rcases hu with rfl|rfl|rfl|rfl|rfl
   .rfl
   .exact Qr hz
   .rfl
   .exact Qr h2
   exact Qr h5) oa oa λv8 w8 hN h6 hO=>⟨(ho.I he).any.V h6,?_⟩
 refine p ZL<|pe ?_;have hP:IvP ↑w w8 v8 (qo++[⟨q.nm,⟨r4,r5,r6,q.p.a⟩⟩]):=O.app hp (λt ht=>by
  simp only[oM,oL,or_false]at ht;rcases ht with rfl|rfl|rfl
  .exact⟨_,_,Ql (Ql (Ql hz hh) h4) he,I.al.le,oa⟩
  .exact⟨_,_,Ql (Ql h2 h4) he,I.mr.le,oa⟩
  exact⟨_,_,Ql h5 he,I.ed.le,oa⟩) oa hN h6 hO
 refine Qq<|QH U U<|Qa<|xe<|⟨(k+1,v8,_),og,oB,S,(J.I hp).G h6 (λb hb=>.inr (hw b hb).1),hP,?_,λq' hQ=>?_⟩
 .simp only[];rw[hB,Ls,hg];rfl
 rcases Lh.1 hQ with h9|h9
 .exact hr q' h9
 simp only[oJ]at h9;subst h9;exact hH
theorem Qat {bm:Nat}{I v1 v2 v3:O9}{co:LI}{mi:Bool}(J:QP ↑w bp 293 [I,v1,v2,v3])(E:QP ↑w bm 4 [.bool mi])(O:QG L ↑w I co)(hi:Yp co)(n:Int):
  QZ sV 224 [sS n,sP bp,sP bm] w λr w'=>xj [bm] w w'/\r=sS (lwB co n)/\QP ↑w' bm 4 [.bool (mi || !decide (n∈co))]:=by
 refine Zt func224 ?_;refine Qc<|Qb<|Qc<|Qm U J U U<|Qa<|Qx<|(zy O hi n).S ?_;rintro r1 S ⟨rfl,rfl⟩;refine Qa<|QS U U<|QS U U<|x Qh<|Qb<|QX (α:=Bool) [(14,18)] (λz=>[]) (λz w'=>xj [bm] S w'/\QP ↑w' bm 4 [.bool (mi || !decide (n∈co))]) om ?_ ?_
 .refine Qq<|xB (Qk E U U) (λH=>?_) (λH=>?_)
  .refine Qa<|Z6<|QB U<|Qo<|Qw (j:=0) (u:=.bool true) E U U oe rfl λw2 V Y=>xe ?_;exact⟨true,La,V,by rw[H];exact Y⟩
  refine Qa<|Qa<|x (Zr U)<|QB U<|Qo<|Qw (j:=0) (u:=.bool (!decide (n∈co))) E U U oe rfl λw3 Z ha=>xe ?_;exact⟨true,La,Z,by rw[H];exact ha⟩
 rintro z g w4 ⟨hb,hc⟩;refine Qj<|Qb<|Qi ⟨[_],Lb,hb,U,hc⟩
theorem Yl.of_lt {base:Nat}{H:xI}{v:O9}(h:∀L:LN,(∀b∈L,b<N)->Zk L H v n sz cs)(J:base<=N)(E:∀b∈av,b<N):Yl base av H v n sz cs:=λL I =>
 h L (λb hbL=>(I b hbL).elim (λh=>oa) (E b))
theorem K8 (L:LN)(H:xI):QG L H (nS) []:=Zk.nil L H 1
def Uo (co:LI)(ls:xF):xF:=ls.map λl=>((lwB co l.1:Int),l.2)
theorem QgQ {co:LI}(hi:Yp co){ls:xF}(h:mis co ls=false):Uo co ls=ixP co ls:=by
 unfold Uo ixP;refine MU λl E=>?_;unfold mis at h;have H:l.1∈co:=by simpa using(List.any_eq_false.1 h l E)
 rw[QgJ hi H]
abbrev exG (c:Zy)(i:Int):Uf:=c.ex.getD i.toNat ⟨.empty,[]⟩
abbrev csG (c:Zy)(i:Int):xT:=c.cs.getD i.toNat ⟨.empty,[],0⟩
def exB (c:Zy)(co ix:LI):List Uf:=ix.map λi=>⟨(exG c i).nm,Uo co (exG c i).ls⟩
def csB (c:Zy)(co ix:LI):List xT:=ix.map λi=>⟨(csG c i).nm,Uo co (csG c i).ts,(csG c i).bd⟩
def exM (c:Zy)(co ix:LI):Bool:=ix.any λi=>mis co (exG c i).ls
def csM (c:Zy)(co ix:LI):Bool:=ix.any λi=>mis co (csG c i).ts
theorem Qnr (c:Zy)(p:Prt):Qsq c p=(exM c p.co p.ex || csM c p.co p.cs):=rfl
theorem QoH {p:Prt}(hi:Yp p.co)(h:exM c p.co p.ex=false):exB c p.co p.ex=Qnq c p:=by
 unfold exB Qnq;refine MU λi E=>?_;rw[QgQ hi (by have:=List.any_eq_false.1 h i E;simpa using this)]
theorem Qo7 {p:Prt}(hi:Yp p.co)(h:csM c p.co p.cs=false):csB c p.co p.cs=Qns c p:=by
 unfold csB Qns;refine MU λi E=>?_;rw[QgQ hi (by have:=List.any_eq_false.1 h i E;simpa using this)]
def ck4:List (O9×LI×Int)->Int
 | []=>0
 | (_,s,n)::l=>if Kv n none s≠0 then Kv n none s else ck4 l
abbrev skC (x:O9×LI×Int):LV:=[x.1,sS x.2.2]
theorem Qqn (x:O9×LI×Int):(skC x).length=2:=rfl
theorem Qeh:∀{l:List (O9×LI×Int)},ck4 l=0->∀x∈l,Kv x.2.2 none x.2.1=0
 | [],_,x,hx=>by cases hx
 | (v,s,n)::l,h,x,hx=>by
  rw[ck4]at h;by_cases E:Kv n none s≠0
  .rw[O1 E]at h;exact O3 h E
  rw[O0 E]at h;rcases Lk.1 hx with rfl|hx
  .exact Lq.1 E
  exact Qeh h x hx
theorem YH.app2 {g:α->LV}{p:α->O9×Nat×Nat×LV}{base e:Nat}{E H:O8}{v I:O9}{l:List α}{q:α}(h:YH g sz T p base E v l)
  (S:E.ownsRow N e (p q).2.2.1 (p q).1 (p q).2.1 (p q).2.2.2) (V:(p q).2.1<=1099511627776) (Y:base<=N) (Z:∀b∈ob v,b<N)
  (ho:H.ownsRow base T sz I (l.length+1) (l.flatMap g++g q)) (J:xj (ob v) E H) (O:∀b∈ob I,b∈ob v\/↑E<=b):YH g sz T p base H I (l++[q]):=by
 refine⟨?_,λd hd=>?_⟩
 .rw[Ln,LC];simpa using ho
 rcases Lh.1 hd with hd|hd
 .exact(h.each d hd).app J O
 simp only[oJ]at hd;subst hd;exact(Yl.of_own S V Y Z).app J O
instance:Bw sV 45 [nS,nS,nS,nS,nS] [(0,1),(1,1),(2,1),(3,1),(4,1)]:={}
theorem QaB {v:O9}(h:v.oneCell'=true):v.cells=#[v]:=by
 cases v <;> first|rfl|cases h
theorem QkW {v:O9}(h:∀L:LN,(∀b∈L,b<N)->XX L ↑w' v qs)(hM:↑w'=M)(H:∀b∈L,b∉qE N M):XX L ↑w' v qs:=by
 refine(h (L.filter λb=>decide (b<N)) (λb E=>by have:=(LY.1 E).2;exact O5 this)).up (λb E=>?_);by_cases I:b<N
 .exact .inl (LY.2 ⟨E,O4 I⟩)
 refine .inr ?_;have:=H b E;rw[ZF]at this;omega
structure EiA (L:LN)(H:xI)(z:O9×O9×O9)(ev:List Kf)(qc qr:List IV):Prop where
 ev:Uk L H z.1 ev
 co:XX L H z.2.1 qc
 rq:XX L H z.2.2 qr
theorem EiA.J {L:LN}{w w':O8}{z:O9×O9×O9}{ev:List Kf}{qc qr:List IV}(h:EiA L ↑w z ev qc qr)(E:sW w w'):EiA L ↑w' z ev qc qr:=⟨h.ev.J E,h.co.J E,h.rq.J E⟩
theorem EiA.st {L:LN}{w w':O8}{z:O9×O9×O9}{ev:List Kf}{qc qr:List IV}(h:EiA L ↑w z ev qc qr)(E:xj L w w'):EiA L ↑w' z ev qc qr:=⟨h.ev.st E,h.co.st E,h.rq.st E⟩
theorem EiA.up {L L':LN}{H:xI}{z:O9×O9×O9}{ev:List Kf}{qc qr:List IV}(h:EiA L H z ev qc qr)(E:∀b∈L',b∈L\/H.size<=b):EiA L' H z ev qc qr:=⟨h.ev.up E,h.co.up E,h.rq.up E⟩
theorem QfL {c:CL}{v0 v1 v2 v3:O9}{p:Prt}(Y:ZG L ↑w c)(hc0:QG L ↑w v0 p.co)(hr0:QG L ↑w v1 p.rq)(hx0:QG L ↑w v2 p.ex)(hk0:QG L ↑w v3 p.cs):
  QZ sV 145 [c.val,.agg #[v0,v1,v2,v3]] w λr w'=>sW w w'/\∃us,r=.tuple #[sT us,sS (Qbz c.Z p)]/\us.length=5/\Zj us/\(Qbz c.Z p≠0->us=Z3)/\(Qbz c.Z p=0->Qf3 ↑w ↑w' (sT us) (QhR c.Z p)):=by
 have h:=Y.up (L':=[]) oe;have J:=hc0.up (L':=[]) oe;have hr:=hr0.up (L':=[]) oe;have hx:=hx0.up (L':=[]) oe;have hk:=hk0.up (L':=[]) oe;have Z:Qbz c.Z p=if Zf c.Z≠0 then Zf c.Z else if ck4 [(v0,p.co,(c.co.length:Int)),(v1,p.rq,(c.rq.length:Int)),(v2,p.ex,(c.ex.length:Int)),(v3,p.cs,(c.cs.length:Int))]≠0 then ck4 [(v0,p.co,(c.co.length:Int)),(v1,p.rq,(c.rq.length:Int)),(v2,p.ex,(c.ex.length:Int)),(v3,p.cs,(c.cs.length:Int))]
   else if(exM c.Z p.co p.ex || csM c.Z p.co p.cs)=true then 13 else Zf (QhR c.Z p):=by
  have e1:c.Z.co.length=c.co.length:=Lj ..;have e2:c.Z.rq.length=c.rq.length:=Lj ..;have e3:c.Z.ex.length=c.ex.length:=Lj ..;have e4:c.Z.cs.length=c.cs.length:=Lj ..;unfold Qbz;rw[e1,e2,e3,e4,Qnr];simp only[ck4];by_cases q0:Zf c.Z≠0
  .rw[O1 q0,O1 q0]
  rw[O0 q0,O0 q0];by_cases q1:Kv (c.co.length:Int) none p.co≠0
  .simp only[O1 q1]
  simp only[O0 q1];by_cases q2:Kv (c.rq.length:Int) none p.rq≠0
  .simp only[O1 q2]
  simp only[O0 q2];by_cases q3:Kv (c.ex.length:Int) none p.ex≠0
  .simp only[O1 q3]
  simp only[O0 q3];by_cases q4:Kv (c.cs.length:Int) none p.cs≠0
  .simp only[O1 q4]
  simp only[O0 q4];simp
 refine Zd (Qbz c.Z p) λE hE=>?_;rw[hE]at Z ⊢;refine Zd [(v0,p.co,(c.co.length:Int)),(v1,p.rq,(c.rq.length:Int)),(v2,p.ex,(c.ex.length:Int)),(v3,p.cs,(c.cs.length:Int))] λT gn=>?_;rw[gn]at Z;have hl4n:T.length=4:=by rw[<-gn];rfl
 have hl4i:∀x∈T,QG [] ↑w x.1 x.2.1:=by
  rw[<-gn];intro x S;simp only[oM,oL,or_false]at S;rcases S with rfl|rfl|rfl|rfl
  .exact J
  .exact hr
  .exact hx
  exact hk
 have hl4z:ck4 T=0->Kv (c.co.length:Int) none p.co=0/\Kv (c.rq.length:Int) none p.rq=0/\Kv (c.ex.length:Int) none p.ex=0/\Kv (c.cs.length:Int) none p.cs=0:=by
  intro Y;have h1:=Qeh Y;rw[<-gn]at h1;exact⟨h1 (v0,p.co,_) oe,h1 (v1,p.rq,_) oe,h1 (v2,p.ex,_) oe,h1 (v3,p.cs,_) oe⟩
 have hxl:=hx.le;have hkl:=hk.le;refine Zt func145 ?_;refine Qc<|Zg c.cells λb2 w1 hs1 hb2 mv=>Zg [v0,v1,v2,v3] λb3 w2 mw hb3 hB3=>QL Z3 λb4 w3 ki hb4 hB4=>Qb ?_;have hl2:=mv.lt;have hl3:=hB3.lt;have hl4':=hB4.lt;have hs03:=(hs1.I mw).I ki;refine Qd<|Qc<|QV ((mv.J mw).J ki) U U<|Qx<|(Xz (h.J hs03)).S ?_;rintro r4 w4 ⟨rfl,go⟩;refine Qb ?_;have my:=hs03.I go;have hz4:=go.size;have gp:=((mv.J mw).J ki).J go;have gq:=(hB3.J ki).J go;have mz:=hB4.J go;refine Qj<|Zu U U<|xe<|QY rfl (λkj=>?_) (λkj=>?_)
 .rw[O1 kj]at Z;subst Z;refine Qc<|x (Qv La)<|Qa<|QJ Z3 mz ⟨U,U,U,U,U,La⟩ λw5 hs5 hB45=>Qb<|Qi ⟨[sT Z3,sS (Zf c.Z)],⟨YO hB45,U,La⟩,my.Q hs5 oa,Z3,U,U,⟨U,U,U,U,U,La⟩,λ_=>U,λY=>O3 Y kj⟩
 rw[O0 kj]at Z;refine Qe ?_;have h4:=h.J my;refine Qd<|Qc<|Qm U gq U U<|Qm U gp U U<|QE h4.co.arr U<|x (Qv ⟨J.cells,U,La⟩) <|
  Qm rfl gq U U<|Qm U gp U U<|QE h4.rq.arr U<|x (Qv ⟨hr.cells,U,La⟩) <|
  Qm rfl gq U U<|Qm U gp U U<|QE h4.ex.arr U<|x (Qv ⟨hx.cells,U,La⟩) <|
  Qm rfl gq U U<|Qm U gp U U<|QE h4.cs.arr U<|x (Qv ⟨hk.cells,U,La⟩) <|
  Qo<|XQ (us:=[skC (v0,p.co,(c.co.length:Int)),skC (v1,p.rq,(c.rq.length:Int)),skC (v2,p.ex,(c.ex.length:Int)),skC (v3,p.cs,(c.cs.length:Int))]) U U oh oe ⟨rfl,rfl,rfl,rfl,rfl,rfl,rfl,rfl,La⟩ λb54 w6 hY hb54 hB54=>?_
 have hA54:Zk [] ↑w6 (sL b54 4 4) T.length 2 (T.flatMap skC):=by
  have:=hB54.arr (L:=[]) oe (n:=4) (cap:=4) (sz:=2) om oa (Lu _);rw[hl4n,<-gn];exact this
 refine QE hA54 U<|Qa<|xe ?_;have hz6:=hY.size;refine Q2 (α:=Nat) [(5,5),(8,9),(56,69)] (λz=>[(56,sS z)]) (λz w'=>z<=T.length/\sW w6 w'/\ck4 (T.drop z)=ck4 T) (λz=>T.length - z) 0 Lb ⟨Lp _,xj.Y _ _,U⟩ ?_;rintro k g w7 ⟨hkl4,hD,hF⟩;have gr:=(my.I hY).I hD;have hz7:=hD.size;refine Zi rfl U (λm2=>?_) (λm2=>?_)
 .refine Qt ?_;have hke:T.length<=k:=by have hw:¬(k:Int)<(T.length:Int):=m2;omega
  rw[Lx hke]at hF;have hck0:ck4 T=0:=hF.symm;rw[O0 (λY=>Y hck0)]at Z;obtain⟨zco,zrq,zex,zcs⟩:=hl4z hck0;have gs:=(YW _ _ _).1 zco;have h7:=h.J gr;have kk:QP ↑w7 b2 45 c.cells:=(gp.J hY).J hD;have m3:QP ↑w7 b3 293 [v0,v1,v2,v3]:=(gq.J hY).J hD;have hB47:QP ↑w7 b4 45 Z3:=(mz.J hY).J hD;have hsd:sW w7 { w7 with drawn:=w7.drawn+1 }:=xj.X _ _
  refine QX (α:=Nat×(O9×O9×O9)×List IV×List IV) [(70,83),(10,10)] (λz=>[(10,.pointer (some ⟨z.1,0,none⟩))]) (λz w'=>sW w7 w'/\↑w7<=z.1/\QP ↑w' z.1 45 [z.2.1.1,z.2.1.2.1,z.2.1.2.2,nS,nS] /\
   z.2.2.1.map IV.it=chs c.Z.co p.co/\z.2.2.2.map IV.it=chs c.Z.rq p.rq/\Zj [z.2.1.1,z.2.1.2.1,z.2.1.2.2]/\∀L:LN,(∀b∈L,b<↑w7\/b=z.1)->EiA L ↑w' z.2.1 c.ev z.2.2.1 z.2.2.2) om ?_ ?_
  .refine Xv _ mixed om (Kd (α:=(O9×O9×O9)×List IV×List IV) (sW w7) [oE 0,oE 1,oE 3,oE 4,oE 5,oE 6,oE 8,oE 9,oE 10,oE 11] [oF 2,oF 7,oF 12,oE 13] 14 10 [oF 15] []
    [(70,83)] [(72,72),(77,77),(82,83)] (λz=>[(83,.agg #[z.1.1,z.1.2.1,z.1.2.2,nS,nS])])
    (λz own w'=>(∀b∈own,↑w7<=b)/\z.2.1.map IV.it=chs c.Z.co p.co/\z.2.2.map IV.it=chs c.Z.rq p.rq/\Zj [z.1.1,z.1.2.1,z.1.2.2]/\∀L:LN,(∀b∈L,b∉own)->EiA L ↑w' z.1 c.ev z.2.1 z.2.2)
    (λv w'=>∃b,v=sP b/\↑w7<=b/\QP ↑w' b 45 Z3) od om U hsd oe ?_ ?_ ?_ ?_)
   .rintro v own wa wb ⟨b,rfl,H,hB⟩ hs hn;exact⟨b,U,H,hB.O hs (hn b ou)⟩
   .rintro z own wa wb ⟨h1,h2,h3,h4,h5⟩ hs;exact⟨h1,h2,h3,h4,λL hL=>(h5 L hL).J hs⟩
   .rintro⟨zv,qc,qr⟩ g own wz v ⟨i1,i2,i3,i4,i5⟩ hCz ⟨O,rfl,m4,hB10⟩ hbo;have hb10o:=(hbo O ou).1;refine pkk<|Ux [zv.1,zv.2.1,zv.2.2,nS,nS] hB10 ⟨i4.1,i4.2.1,i4.2.2.1,U,U,La⟩ λw8 hZ hB108=>pe ?_;refine⟨(O,zv,qc,qr),Lb,hCz.Q hZ m4,m4,hB108,i2,i3,i4,λL hL=>?_⟩;have h1:=i5 (O::L) (λb H=>by
     rcases Lk.1 H with rfl|H
     .exact hb10o
     rcases hL b H with h2|h2
     .exact λh3=>ov (i1 b h3)
     subst h2;exact hb10o)
    exact(h1.st (hZ.S oe)).up (λb H=>.inl (by simp[H]))
   refine Go.Lg.p (QF U)<|pq (λ_ J=>Qk (kk.J J) U U)<|Go.Lg.p (QF U)<|pq (λ_ J=>Qk (kk.J J) U U) <|
    Go.Lg.p (QF U)<|pq (λ_ J=>Qk (m3.J J) U U)<|Go.Lg.p (QF U)<|pq (λ_ J=>Qk (kk.J J) U U) <|
    Go.Lg.p (QF U)<|pq (λ_ J=>Qk (m3.J J) U U)<|pe ⟨λg wf hCf=>flA Z3 hCf,?_⟩
   refine f2k λx1 p1 c1=>xg<|(UC (h7.ev.J c1).arr).S ?_;rintro m5 y1 ⟨hs1',kn⟩;refine⟨c1.I hs1',qE ↑x1 ↑y1,hs1'.any,λb H=>.inr (ZF.1 H),?_⟩;refine f2k λx2 p2 c2=>xg<|(jz (h7.co.J c2) (J.J (gr.I c2)) (λi hi=>gs.1 i hi)).S ?_;rintro r77 y2 ⟨m6,⟨qc,m7,hqcI⟩,ho2⟩;refine⟨c2.I m6,qE ↑x1 ↑y1++qE ↑x2 ↑y2,m6.any,λb H=>(Lh.1 H).imp id λH=>ZF.1 H,?_⟩;refine f2k λx3 p3 c3=>xg<|(jz (h7.rq.J c3) (hr.J (gr.I c3)) (λi hi=>((YW _ _ _).1 zrq).1 i hi)).S ?_;rintro r82 y3 ⟨ko,⟨qr,m8,hqrI⟩,ho3⟩;refine⟨c3.I ko,(qE ↑x1 ↑y1++qE ↑x2 ↑y2)++qE ↑x3 ↑y3,ko.any,λb H=>(Lh.1 H).imp id λH=>ZF.1 H,?_⟩;refine j3 (λ_=>Q8 [(0,[m5]),(1,[r77]),(2,[r82])] ⟨xS kn,U,QaB ho2,U,QaB ho3,U,La⟩)<|f2e ?_;refine⟨((m5,r77,r82),qc,qr),Lb,λb H=>?_,m7,m8,⟨Qr kn,ho2,ho3,La⟩,λL hL=>?_⟩
   .have e1:=c1.size;have e2:=c2.size;have e3:=c3.size;rcases Lh.1 H with H|H
    .rcases Lh.1 H with H|H
     .have:=ZF.1 H;omega
     have:=ZF.1 H;omega
    have:=ZF.1 H;omega
   have hL1:∀b∈L,b∉qE ↑x1 y1.heap.size:=λb H S=>hL b H (by simp[S]);have hL2:∀b∈L,b∉qE ↑x2 y2.heap.size:=λb H S=>hL b H (by simp[S]);have hL3:∀b∈L,b∉qE ↑x3 y3.heap.size:=λb H S=>hL b H (by simp[S]);have hev1:Uk L ↑y1 m5 c.ev:=⟨QC kn h.ev.arr.le (λb H S=>hL1 b S (ZF.2 (Qg kn b H))),h.ev.nm⟩;exact⟨(((hev1.J p2).J m6).J p3).J ko,((QkW hqcI U hL2).J p3).J ko,QkW hqrI U hL3⟩
  rintro⟨O,zv,qc,qr⟩ g wc ⟨hsc,m4,hB10c,m7,m8,m9,hEi⟩;have hl10:=hB10c.lt;refine Qc<|QL [.bool false] λI w8 hZ hb11 hB11=>Qo<|Qw (j:=0) (u:=.bool false) hB11 U U oe rfl λw9 pa kq=>xe ?_;have kr:sW wc w9:=hZ.Q pa hb11;have hG:=hsc.I kr;have gt:=gr.I hG;have hz9:=kr.size;have hl11:=kq.lt;have hB39:=m3.J hG;have hn10:O≠I:=oa
  have hup:∀b∈[O,I],↑w<=b:=λb H=>by simp only[oM,oL,or_false]at H;omega
  have kt:∀b∈[O,I],b<w9.heap.size:=λb H=>by simp only[oM,oL,or_false]at H;omega
  have hn2:b2∉[O,I]:=λH=>by simp only[oM,oL,or_false]at H;omega
  have hn3:b3∉[O,I]:=λH=>by simp only[oM,oL,or_false]at H;omega
  have hn4:b4∉[O,I]:=λH=>by simp only[oM,oL,or_false]at H;omega
  have ku:∀b∈[O],b∈[O,I]:=λb H=>by simp only[oJ]at H;simp[H]
  have kv:∀b∈[I],b∈[O,I]:=λb H=>by simp only[oJ]at H;simp[H]
  refine Qc<|x (ZC (l:=[]) (l':=[_,_]))<|Qb<|Qd<|Qc<|Qm U hB39 U U<|QE (hx.J gt) U<|Qa<|xe<|Q2 (α:=Nat×Bool×O9×List XV) [(14,15),(17,17),(88,129)] (λz=>[(88,sS z.1)]) (λz w'=>z.1<=p.ex.length/\xj [O,I] w9 w'/\QP ↑w' O 45 [zv.1,zv.2.1,zv.2.2,z.2.2.1,nS]/\QP ↑w' I 4 [.bool z.2.1] /\
   XvN ↑w9 w' z.2.2.1 z.2.2.2/\z.2.2.2.map (·.x)=exB c.Z p.co (p.ex.take z.1)/\z.2.1=exM c.Z p.co (p.ex.take z.1)/\∀q∈z.2.2.2,JE q.nm) (λz=>p.ex.length - z.1) (0,false,nS,[]) Lb
   ⟨Lp _,xj.Y _ _,(hB10c.J kr),kq,YH.nil,U,U,λq V=>by cases V⟩ ?_
  rintro⟨k,mi,vx,qx⟩ g he ⟨hk10,hM,pc,gu,kw,gv,kz,pd⟩;simp only[]at hk10 pc gu kw gv kz pd;have gw:sW w he:=gt.G hM (λb H=>.inr (hup b H));have pf:=h.J gw;have pg:=(kk.J hG).O hM hn2;have ph:=hB39.O hM hn3;have pj:=(hB47.J hG).O hM hn4;have hz10:=hM.size;have hqxl:qx.length=k:=by have:=O2 oR gv;unfold exB at this;rw[Lj,Lj,LB]at this;omega
  refine Zi U U (λhN=>?_) (λhN=>?_)
  .refine Qt ?_;have pm:p.ex.length<=k:=by have hw:¬(k:Int)<(p.ex.length:Int):=hN;omega
   rw[Lt pm]at gv kz;have hlt10:∀b∈[O,I],b<he.heap.size:=λb H=>ov (kt b H)
   refine Qd<|Qc<|Qm U ph U U<|QE (hk.J gw) U<|Qa<|xe<|Q2 (α:=Nat×Bool×O9×List KV) [(19,20),(22,22),(133,180)] (λz=>[(133,sS z.1)]) (λz w'=>z.1<=p.cs.length/\xj [O,I] he w'/\QP ↑w' O 45 [zv.1,zv.2.1,zv.2.2,vx,z.2.2.1]/\QP ↑w' I 4 [.bool z.2.1] /\
    KvN ↑he w' z.2.2.1 z.2.2.2/\z.2.2.2.map (·.k)=csB c.Z p.co (p.cs.take z.1)/\z.2.1=(mi || csM c.Z p.co (p.cs.take z.1))/\∀q∈z.2.2.2,JE q.nm) (λz=>p.cs.length - z.1) (0,mi,nS,[]) Lb
    ⟨Lp _,xj.Y _ _,pc,gu,YH.nil,U,by simp[csM],λq V=>by cases V⟩ ?_
   rintro⟨k,mk,vk,kx⟩ g hv ⟨hkk10,hH,kB1010,kB1110,kX10,gx,k0,pn⟩;simp only[]at hkk10 kB1010 kB1110 kX10 gx k0 pn;have gy:sW w hv:=gw.G hH (λb H=>.inr (hup b H));have k4:=h.J gy;have kB210:=pg.O hH hn2;have kB310:=ph.O hH hn3;have kB410:=pj.O hH hn4;have kz10:=hH.size;have hkxl:kx.length=k:=by have:=O2 oR gx;unfold csB at this;rw[Lj,Lj,LB]at this;omega
   refine Zi U U (λhN=>?_) (λhN=>?_)
   .refine Qt ?_;have pm:p.cs.length<=k:=by have hw:¬(k:Int)<(p.cs.length:Int):=hN;omega
    rw[Lt pm]at gx k0;have hmm:mk=(exM c.Z p.co p.ex || csM c.Z p.co p.cs):=by rw[k0,kz]
    rw[<-hmm]at Z;have kXu:XvN ↑w9 hv vx qx:=YH.low kw hH kt;refine Qd<|Qc<|Xe kB1110 U U<|xe<|Q6 U (λk5=>?_) (λk5=>?_)
    .rw[O1 k5]at Z;subst Z;refine Qc<|x (Qv La)<|QJ Z3 kB410 ⟨U,U,U,U,U,La⟩ λu11 k6 kB411=>Qb<|Qi ⟨[sT Z3,sS 13],⟨YO kB411,U,La⟩,gy.Q k6 oa,Z3,U,U,⟨U,U,U,U,U,La⟩,λ_=>U,λY=>O3 Y oh⟩
    rw[O0 (by rw[k5];simp)]at Z;refine Qe ?_;have hmf:(exM c.Z p.co p.ex || csM c.Z p.co p.cs)=false:=by rw[<-hmm];exact k5
    have hmf2:=M0.1 hmf;have hE1:qx.map (·.x)=Qnq c.Z p:=gv.I (QoH gs.2.1 hmf2.1);have hE2:kx.map (·.k)=Qns c.Z p:=gx.I (Qo7 gs.2.1 hmf2.2);have hcel:(CL.mk zv.1 zv.2.1 zv.2.2 vx vk c.ev qc qr qx kx).Z=QhR c.Z p:=by
     show Zy.mk c.ev (qc.map IV.it) (qr.map IV.it) (qx.map (·.x)) (kx.map (·.k))=Zy.mk c.Z.ev _ _ _ _;rw[m7,m8,hE1,hE2];rfl
    have hCu:∀L:LN,(∀b∈L,b<↑w)->ZG (b4::L) ↑hv (CL.mk zv.1 zv.2.1 zv.2.2 vx vk c.ev qc qr qx kx):=by
     intro L hL;have e1:=hEi (b4::O::L) (λb H=>by
      rcases Lk.1 H with rfl|H
      .exact .inl oa
      rcases Lk.1 H with rfl|H
      .exact .inr U
      have:=hL b H;exact .inl oa)
     have e2:EiA (I::b4::O::L) ↑wc zv c.ev qc qr:=e1.up (λb H=>by
      rcases Lk.1 H with rfl|H
      .exact .inr hb11
      exact .inl H)
     have hm2:∀b∈[O,I],b∈I::b4::O::L:=λb H=>by
      simp only[oM,oL,or_false]at H;rcases H with rfl|rfl <;> simp
     have e4:EiA (b4::L) ↑hv zv c.ev qc qr:=(((e2.J kr).st (hM.S hm2)).st (hH.S hm2)).up (λb H=>by
      rcases Lk.1 H with rfl|H
      .exact .inl oe
      exact .inl (by simp[H]))
     have hqx40:qx.length<=1099511627776:=oa
     have hkx40:kx.length<=1099511627776:=oa
     have po:∀b∈b4::L,b<w9.heap.size:=λb H=>by
      rcases Lk.1 H with rfl|H
      .omega
      have:=hL b H;omega
     have hLt10:∀b∈b4::L,b<he.heap.size:=λb H=>ov (po b H)
     exact⟨e4.ev,e4.co,e4.rq,⟨YH.arr kXu hqx40 po,λq V=>kXu.each q V _ (λb H=>.inl (po b H)),pd⟩,⟨YH.arr kX10 hkx40 hLt10,λq V=>kX10.each q V _ (λb H=>.inl (hLt10 b H)),pn⟩⟩
    rw[<-hcel]at Z;subst Z;refine Qd<|Qc<|QV kB1010 U U<|Qx<|(Xz (hCu [] oe)).S ?_;rintro r12 hO ⟨rfl,ga⟩;refine Qb ?_;have gz:=gy.I ga;have kB412:=kB410.J ga;refine Qj<|Zu U U<|xe<|QY U (λk7=>?_) (λk7=>?_)
    .refine Qc<|x (Qv La)<|Qa<|QJ Z3 kB412 ⟨U,U,U,U,U,La⟩ λhI k8 kB413=>Qb<|Qi ⟨[sT Z3,sS (Zf (CL.mk zv.1 zv.2.1 zv.2.2 vx vk c.ev qc qr qx kx).Z)],⟨YO kB413,U,La⟩,gz.Q k8 oa,Z3,U,U,⟨U,U,U,U,U,La⟩,λ_=>U,λY=>O3 Y k7⟩
    refine Qe ?_;have hone5:Zj [zv.1,zv.2.1,zv.2.2,vx,vk]:=⟨m9.1,m9.2.1,m9.2.2.1,Qr kXu.own,Qr kX10.own,La⟩;refine Qc<|QV (kB1010.J ga) U U<|QJ [zv.1,zv.2.1,zv.2.2,vx,vk] kB412 hone5 λhI k8 kB413=>Qb<|Qi ⟨[.agg #[zv.1,zv.2.1,zv.2.2,vx,vk],sS 0],⟨YO kB413,U,La⟩,gz.Q k8 oa,[zv.1,zv.2.1,zv.2.2,vx,vk],?_,U,hone5,λY=>O3 Y k7,λ_=>⟨(CL.mk zv.1 zv.2.1 zv.2.2 vx vk c.ev qc qr qx kx),U,hcel,λL hL=>?_⟩⟩
    .have Y:Zf (CL.mk zv.1 zv.2.1 zv.2.2 vx vk c.ev qc qr qx kx).Z=0:=Lq.1 k7;rw[Y];rfl
    exact((((hCu L hL).J ga).st (k8.S oe))).up (λb H=>.inl (by simp[H]))
   refine Qe ?_;have hg:k<p.cs.length:=by have hw:(k:Int)<(p.cs.length:Int):=hN;omega
   have hP:p.cs.take (k+1)=p.cs.take k++[p.cs[k]'hg]:=Lo hg;have pp:=((YW _ _ _).1 zcs).1 _ (Lm hg);refine Zd (p.cs[k]'hg) λi g0=>?_;rw[g0]at hP pp;have gb:i=(i.toNat:Int):=oa
   have ha:i.toNat<c.cs.length:=oa
   have hy:=Lm ha;have hQ:csG c.Z i=(c.cs[i.toNat]'ha).k:=by
    show(c.cs.map (·.k)).getD i.toNat ⟨.empty,[],0⟩=_;simp[oQ,ha]
   refine Zd (c.cs[i.toNat]'ha) λq V=>?_;rw[V]at hy hQ;have g2:=k4.cs.each q hy;have pu:=k4.cs.nm q hy;have hql:=g2.le;have hcsB:csB c.Z p.co (p.cs.take (k+1))=csB c.Z p.co (p.cs.take k)++[⟨q.nm,Uo p.co q.ts,q.bd⟩]:=by
    rw[hP];unfold csB;rw[Ls,M2,hQ];rfl
   have hcsM:csM c.Z p.co (p.cs.take (k+1))=(csM c.Z p.co (p.cs.take k) || mis p.co q.ts):=by
    rw[hP];unfold csM;rw[List.any_append,List.any_cons,List.any_nil,Bool.or_false,hQ];rfl
   refine Qd<|Qn<|Qc<|xii (i:=k) (hk.J gy) U U hg λa90 g3=>?_;rw[g0]at g3;refine x (Qy g3 U)<|Qb<|Qd<|ZH [] (Xf 0 15 [13,14])<|Go.Lg.p (QF U)<|pq (λ_ J=>Qk (kB210.J J) U U)<|Go.Lg.p QA<|Go.Lg.pig (g:=Q5) (i:=i.toNat) U Xs k4.cs.arr U (O2 sS gb) ha λa140 h140=>?_;rw[V]at h140;refine Go.Lg.p (λ_=>Zp U)<|pq (λ_ J=>Qy ((h140.fld 0 (.string q.nm) U).st J) U)<|Go.Lg.p (QF U)<|pq (λ_ J=>Qk (kB210.J J) U U)<|Go.Lg.p QA<|Go.Lg.pig (g:=Q5) (i:=i.toNat) U Xs k4.cs.arr U (O2 sS gb) ha λa146 h146=>?_;rw[V]at h146;refine Go.Lg.p (λ_=>Zp U)<|pq (λ_ J=>Qy ((h146.fld 2 (sS q.bd) U).st J) U)<|Go.Lg.p (λ_=>Qv ⟨U,U,La⟩)<|pk<|Jh (us:=[.string .empty,nS,sS 0]) U λhh u11 k6 hz kB15=>⟨(xj.X [] hv).I k6,?_⟩;refine pkk<|Ux [.string q.nm,nS,sS q.bd] kB15 oC λhO ga kB15=>pe ?_;have hz:↑hv<=hh:=hz;have hJ:sW hv hO:=((xj.X [] hv).I k6).Q ga hz;have gz:=gy.I hJ;have kz12:=hJ.size;have hl15:=kB15.lt;have hqA12:=g2.J hJ;refine Qd<|Qc<|Qm U (kB210.J hJ) U U<|Qa<|xp (g:=Q5) (i:=i.toNat) Xs (h.J gz).cs.arr U (O2 sS gb) ha λa102 g4=>?_;rw[V]at g4;refine x (Zp U)<|x (Qy (g4.fld 1 q.v U) U)<|QE hqA12 U<|Qa<|xe ?_;have pw:∀b∈[hh,I],↑w<=b:=λb H=>by simp only[oM,oL,or_false]at H;omega
   have pz:b3∉[hh,I]:=λH=>by simp only[oM,oL,or_false]at H;omega
   have hn1510:O∉[hh,I]:=λH=>by simp only[oM,oL,or_false]at H;omega
   refine Q2 (α:=Nat×Bool×O9) [(22,22),(157,173)] (λz=>[(157,sS z.1)]) (λz w'=>z.1<=q.ts.length/\xj [hh,I] hO w'/\QP ↑w' hh 110 [.string q.nm,z.2.2,sS q.bd]/\QP ↑w' I 4 [.bool z.2.1] /\
    w'.ownsRow ↑hO 112 2 z.2.2 z.1 ((Uo p.co (q.ts.take z.1)).flatMap QD)/\z.2.1=(mk || mis p.co (q.ts.take z.1))) (λz=>q.ts.length - z.1) (0,mk,nS) Lb
    ⟨Lp _,xj.Y _ _,kB15,kB1110.J hJ,QI _ _ _ _,by simp[mis]⟩ ?_
   rintro⟨j,mj,vl⟩ g hI ⟨hj,gc,kB1513,kB1113,kO13,h6⟩;simp only[]at hj kB1513 kB1113 kO13 h6;have ks013:sW w hI:=gz.G gc (λb H=>.inr (pw b H));have kz13:=gc.size;have h8:=Qg kO13;refine Zi U U (λhR=>?_) (λhR=>?_)
   .refine Qt ?_;have g5:j=q.ts.length:=by have hw:¬(j:Int)<(q.ts.length:Int):=hR;omega
    rw[g5,Nd]at kO13;rw[g5,Nd]at h6;have k9:xj [I] hv hI:=(hJ.any (L:=[I])).G gc (λb H=>by
     simp only[oM,oL,or_false]at H;rcases H with rfl|rfl
     .exact .inr hz
     exact .inl oe)
    have kB1013:=kB1010.O k9 (oA hn10);have kX13:KvN ↑he hI vk kx:=YH.low kX10 k9 (λb H=>hlt10 b (kv b H));have kXge:=Qg kX10.own;have p0:(Uo p.co q.ts).length=q.ts.length:=Lj ..;refine Qq<|Qm U kB1013 U U<|QV kB1513 U U<|Qo<|Zb [Q5 ⟨q.nm,vl,Uo p.co q.ts,q.bd⟩] λb126 u14 h9 hb126 kB126 =>
     Qo<|Q9 (news:=Q5 ⟨q.nm,vl,Uo p.co q.ts,q.bd⟩) (L:=[]) (Ql kX13.own h9) U U U (kB126.at oe) (QgN (q:=⟨q.nm,vl,Uo p.co q.ts,q.bd⟩) (Qr kO13)) oa (ov h9.size) λhS ho g6 gg p4=>?_
    have kX15:KvN ↑he ho hS (kx++[⟨q.nm,vl,Uo p.co q.ts,q.bd⟩]):=YH.app2 (N:=↑hO) (kX13.J h9) (by show u14.ownsRow _ _ 2 vl (Uo p.co q.ts).length _;rw[p0];exact Ql kO13 h9) (by show(Uo p.co q.ts).length<=_;omega) oa (λb H=>ov (kXge b H)) g6 gg p4;have p5:O∉ob vk:=λS=>ov (kXge O S).1
    have p6:I∉ob vk:=λS=>ov (kXge I S).1
    have ks915:xj [O,I] he ho:=((hH.V (k9.S kv)).I h9).G gg (λb H=>.inr (kXge b H).1);have kB1015:=(kB1013.J h9).O gg p5;have kB1115:=(kB1113.J h9).O gg p6;refine QN U<|Qo<|Qw (j:=4) (u:=hS) kB1015 U U oe (Qr g6) λu16 g7 kB1016=>xe ?_;refine Qq<|QH U U<|Qa<|xe<|⟨(k+1,mj,hS,kx++[⟨q.nm,vl,Uo p.co q.ts,q.bd⟩]),og,Lb,hg,ks915.V (g7.S ku),kB1016,kB1115.O g7 ol,YH.low kX15 g7 (λb H=>hlt10 b (ku b H)),?_,?_,?_⟩
    .simp only[];rw[hcsB,Ls,gx];rfl
    .simp only[];rw[hcsM,h6,k0,Bool.or_assoc]
    intro q' p7;rcases Lh.1 p7 with hA|hA
    .exact pn q' hA
    simp only[oJ]at hA;subst hA;exact pu
   refine Qe ?_;have hp:j<q.ts.length:=by have hw:(j:Int)<(q.ts.length:Int):=hR;omega
   have hT:q.ts.take (j+1)=q.ts.take j++[q.ts[j]'hp]:=Lo hp;have k9:xj [I] hv hI:=(hJ.any (L:=[I])).G gc (λb H=>by
    simp only[oM,oL,or_false]at H;rcases H with rfl|rfl
    .exact .inr hz
    exact .inl oe)
   have p8:P2s [] ↑hI q.v q.ts:=(h.J ks013).cs.each q hy;refine Qd<|Qn<|Qc<|xp (g:=QD) Yw p8 U U hp λa108 g8=>?_;refine Zd (q.ts[j]'hp) λlc p9=>?_;rw[p9]at g8 hT;have qf:Uo p.co (q.ts.take (j+1))=Uo p.co (q.ts.take j)++[((lwB p.co lc.1:Int),lc.2)]:=by
    rw[hT];unfold Uo;rw[Ls];rfl
   have ql:mis p.co (q.ts.take (j+1))=(mis p.co (q.ts.take j) || !decide (lc.1∈p.co)):=by
    rw[hT];unfold mis;rw[List.any_append];simp
   refine x (Qu g8 U U)<|QL [sS 0,sS 0] λb22 u14 h9 qo kB17=>QJ (QD lc) kB17 oB λho gg kB17=>xe ?_;have hU:sW hI ho:=h9.Q gg qo;have kz15:=hU.size;have kB1515:=kB1513.J hU;have kB315:QP ↑ho b3 293 [v0,v1,v2,v3]:=(((kB310.J hJ).O gc pz)).J hU;have g9:hh∉I::ob vl:=λH=>by
    rcases Lk.1 H with rfl|H
    .omega
    have:=(h8 hh H).1;omega
   have ka:b22∉I::ob vl:=λH=>by
    rcases Lk.1 H with rfl|H
    .omega
    have:=(h8 b22 H).2;omega
   have kb:I∉ob vl:=λH=>ov (h8 I H).1
   have q5:hh∉ob vl:=λH=>g9 (Ll _ H);refine ZH (I::ob vl) [oE 0,oE 1,oE 2,oE 3,oE 4,oE 6,oE 7,oF 5,oE 8,oF 9,oF 10,oE 11,oF 12] ?_;have ma:sW ho { ho with drawn:=ho.drawn+1 }:=xj.X _ _
   have hzd:({ ho with drawn:=ho.drawn+1 }:O8).heap.size=ho.heap.size:=rfl
   refine Go.Lg.p (QF U)<|pq (λ_ J=>Qk (kB1515.O J g9) U U)<|Go.Lg.p QA<|Go.Lg.p (QF U)<|pq (λ_ J=>Qk (kB17.O J ka) U U) <|
    Go.Lg.p (QF U)<|pq (λ_ J=>Qk (kB17.O J ka) U U)<|pk<|xc (first:=[]) (capt:=[sP b3,sP I]) U<|(Qat (kB315.J ma) ((kB1113.J hU).J ma) (J.J ((ks013.I hU).I ma)) gs.2.1 lc.1).S ?_
   rintro r16 u16 ⟨g7,rfl,kB1116⟩;have za:=ma.any.V g7;have hV:∀b∈[I],b∈I::ob vl:=λb H=>by simp only[oJ]at H;simp[H]
   refine⟨za.S hV,?_⟩;refine Go.Lg.p (λ_=>Qv ⟨U,U,La⟩)<|pk<|Zb [QD ((lwB p.co lc.1:Int),lc.2)] λb119 u17 zb hb119 gu=>⟨(za.I zb).S hV,?_⟩;have kc:=za.I zb;have kO17:u17.ownsRow ↑hO 112 2 vl j ((Uo p.co (q.ts.take j)).flatMap QD):=Qf (Ql kO13 hU) kc (λb H S=>by simp only[oJ]at S;subst S;exact kb H);have kz17:=kc.size;refine pk<|Q9 (news:=QD ((lwB p.co lc.1:Int),lc.2)) (L:=[]) kO17 U U U (gu.at oe) (λu hu=>by
    simp only[oM,oL,or_false]at hu;rcases hu with rfl|rfl <;> rfl) oa oa λke u18 hW mf hn18=>⟨(kc.S hV).V (mf.S (λb H=>Ll _ H)),?_⟩
   have kB1518:=((kB1515.O kc ol)).O mf q5;have kB1118:=(kB1116.J zb).O mf kb;refine Go.Lg.p (QF U)<|pkk<|Qw (j:=1) (u:=ke) kB1518 U U oe (Qr hW) λu19 z1 kB1519=>pe ?_;refine Qq<|QH U U<|Qa<|xe ?_;have z2:∀b∈[I],b∈[hh,I]:=λb H=>by simp only[oJ]at H;simp[H]
   have z3:∀b∈[hh],b∈[hh,I]:=λb H=>by simp only[oJ]at H;simp[H]
   have ks1218:xj [hh,I] hO u18:=((gc.I hU).V (kc.S z2)).G mf (λb H=>.inr (h8 b H).1);refine⟨(j+1,mj || !decide (lc.1∈p.co),ke),og,Lb,hp,ks1218.V (z1.S z3),kB1519,kB1118.O z1 ol,?_,?_⟩
   .simp only[];rw[qf,LC];have:=Qf hW z1 (λb H=>by
     simp only[oJ];have:=(Qg hW b H).1;omega)
    simpa using this
   simp only[];rw[ql,h6,Bool.or_assoc]
  refine Qe ?_;have hg:k<p.ex.length:=by have hw:(k:Int)<(p.ex.length:Int):=hN;omega
  have hP:p.ex.take (k+1)=p.ex.take k++[p.ex[k]'hg]:=Lo hg;have pp:=((YW _ _ _).1 zex).1 _ (Lm hg);refine Zd (p.ex[k]'hg) λi g0=>?_;rw[g0]at hP pp;have gb:i=(i.toNat:Int):=oa
  have ha:i.toNat<c.ex.length:=oa
  have hy:=Lm ha;have hQ:exG c.Z i=(c.ex[i.toNat]'ha).x:=by
   show(c.ex.map (·.x)).getD i.toNat ⟨.empty,[]⟩=_;simp[oQ,ha]
  refine Zd (c.ex[i.toNat]'ha) λq V=>?_;rw[V]at hy hQ;have g2:=pf.ex.each q hy;have pu:=pf.ex.nm q hy;have hql:=g2.le;have hexB:exB c.Z p.co (p.ex.take (k+1))=exB c.Z p.co (p.ex.take k)++[⟨q.nm,Uo p.co q.ls⟩]:=by
   rw[hP];unfold exB;rw[Ls,M2,hQ];rfl
  have hexM:exM c.Z p.co (p.ex.take (k+1))=(exM c.Z p.co (p.ex.take k) || mis p.co q.ls):=by
   rw[hP];unfold exM;rw[List.any_append,List.any_cons,List.any_nil,Bool.or_false,hQ];rfl
  refine Qd<|Qn<|Qc<|xii (i:=k) (hx.J gw) U U hg λa90 g3=>?_;rw[g0]at g3;refine x (Qy g3 U)<|Qb<|Qc<|Qm U pg U U<|Qa<|xp (g:=Q0) (i:=i.toNat) XG pf.ex.arr U (O2 sS gb) ha λa95 h95=>?_;rw[V]at h95;refine x (Zp U)<|x (Qy (h95.fld 0 (.string q.nm) U) U)<|x (Qv ⟨U,La⟩)<|QL [.string .empty,nS] λhl w11 z5 hz mg =>
   QJ [.string q.nm,nS] mg oB λgh hs12 mg=>xe ?_
  have hK:sW he gh:=z5.Q hs12 hz;have hs012:=gw.I hK;have hz12:=hK.size;have hl15:=mg.lt;refine Qd<|Qc<|Qm U (pg.J hK) U U<|Qa<|xp (g:=Q0) (i:=i.toNat) XG (h.J hs012).ex.arr U (O2 sS gb) ha λa102 g4=>?_;rw[V]at g4;refine x (Zp U)<|x (Qy (g4.fld 1 q.v U) U)<|QE (g2.J hK) U<|Qa<|xe ?_;have pw:∀b∈[hl,I],↑w<=b:=λb H=>by simp only[oM,oL,or_false]at H;omega
  have pz:b3∉[hl,I]:=λH=>by simp only[oM,oL,or_false]at H;omega
  have hn1510:O∉[hl,I]:=λH=>by simp only[oM,oL,or_false]at H;omega
  refine Q2 (α:=Nat×Bool×O9) [(17,17),(106,122)] (λz=>[(106,sS z.1)]) (λz w'=>z.1<=q.ls.length/\xj [hl,I] gh w'/\QP ↑w' hl 105 [.string q.nm,z.2.2]/\QP ↑w' I 4 [.bool z.2.1] /\
   w'.ownsRow ↑gh 107 2 z.2.2 z.1 ((Uo p.co (q.ls.take z.1)).flatMap QD)/\z.2.1=(mi || mis p.co (q.ls.take z.1))) (λz=>q.ls.length - z.1) (0,mi,nS) Lb
   ⟨Lp _,xj.Y _ _,mg,gu.J hK,QI _ _ _ _,by simp[mis]⟩ ?_
  rintro⟨j,mj,vl⟩ g gi ⟨hj,gj,hB1513,hB1113,gk,h6⟩;simp only[]at hj hB1513 hB1113 gk h6;have hs013:sW w gi:=hs012.G gj (λb H=>.inr (pw b H));have hz13:=gj.size;have h8:=Qg gk;refine Zi U U (λhR=>?_) (λhR=>?_)
  .refine Qt ?_;have g5:j=q.ls.length:=by have hw:¬(j:Int)<(q.ls.length:Int):=hR;omega
   rw[g5,Nd]at gk;rw[g5,Nd]at h6;have mh:xj [I] he gi:=(hK.any (L:=[I])).G gj (λb H=>by
    simp only[oM,oL,or_false]at H;rcases H with rfl|rfl
    .exact .inr hz
    exact .inl oe)
   have hB1013:=pc.O mh (oA hn10);have hX13:XvN ↑w9 gi vx qx:=YH.low kw mh (λb H=>kt b (kv b H));have mo:=Qg kw.own;have p0:(Uo p.co q.ls).length=q.ls.length:=Lj ..;refine Qq<|Qm U hB1013 U U<|QV hB1513 U U<|Qo<|Zb [Q0 ⟨q.nm,vl,Uo p.co q.ls⟩] λb126 w14 hC hb126 hB126 =>
    Qo<|Q9 (news:=Q0 ⟨q.nm,vl,Uo p.co q.ls⟩) (L:=[]) (Ql hX13.own hC) U U U (hB126.at oe) (Qbn (q:=⟨q.nm,vl,Uo p.co q.ls⟩) (Qr gk)) oa (ov hC.size) λhS ht g6 gl p4=>?_
   have hX15:XvN ↑w9 ht hS (qx++[⟨q.nm,vl,Uo p.co q.ls⟩]):=YH.app2 (N:=↑gh) (hX13.J hC) (by show w14.ownsRow _ _ 2 vl (Uo p.co q.ls).length _;rw[p0];exact Ql gk hC) (by show(Uo p.co q.ls).length<=_;omega) oa (λb H=>ov (mo b H)) g6 gl p4;have p5:O∉ob vx:=λS=>ov (mo O S).1
   have p6:I∉ob vx:=λS=>ov (mo I S).1
   have hs915:xj [O,I] w9 ht:=((hM.V (mh.S kv)).I hC).G gl (λb H=>.inr (mo b H).1);have hB1015:=(hB1013.J hC).O gl p5;have hB1115:=(hB1113.J hC).O gl p6;refine QN U<|Qo<|Qw (j:=3) (u:=hS) hB1015 U U oe (Qr g6) λw16 kf hB1016=>xe ?_;refine Qq<|QH U U<|Qa<|xe<|⟨(k+1,mj,hS,qx++[⟨q.nm,vl,Uo p.co q.ls⟩]),og,Lb,hg,hs915.V (kf.S ku),hB1016,hB1115.O kf ol,YH.low hX15 kf (λb H=>kt b (ku b H)),?_,?_,?_⟩
   .simp only[];rw[hexB,Ls,gv];rfl
   .simp only[];rw[hexM,h6,kz]
   intro q' p7;rcases Lh.1 p7 with hA|hA
   .exact pd q' hA
   simp only[oJ]at hA;subst hA;exact pu
  refine Qe ?_;have hp:j<q.ls.length:=by have hw:(j:Int)<(q.ls.length:Int):=hR;omega
  have hT:q.ls.take (j+1)=q.ls.take j++[q.ls[j]'hp]:=Lo hp;have mh:xj [I] he gi:=(hK.any (L:=[I])).G gj (λb H=>by
   simp only[oM,oL,or_false]at H;rcases H with rfl|rfl
   .exact .inr hz
   exact .inl oe)
  have p8:P2s [] ↑gi q.v q.ls:=(h.J hs013).ex.each q hy;refine Qd<|Qn<|Qc<|xp (g:=QD) Yw p8 U U hp λa108 g8=>?_;refine Zd (q.ls[j]'hp) λlc p9=>?_;rw[p9]at g8 hT;have qf:Uo p.co (q.ls.take (j+1))=Uo p.co (q.ls.take j)++[((lwB p.co lc.1:Int),lc.2)]:=by
   rw[hT];unfold Uo;rw[Ls];rfl
  have ql:mis p.co (q.ls.take (j+1))=(mis p.co (q.ls.take j) || !decide (lc.1∈p.co)):=by
   rw[hT];unfold mis;rw[List.any_append];simp
  refine x (Qu g8 U U)<|QL [sS 0,sS 0] λb17 w14 hC qo mq=>QJ (QD lc) mq oB λht gl mq=>xe ?_;have hX:sW gi ht:=hC.Q gl qo;have hz15:=hX.size;have hB1515:=hB1513.J hX;have hB315:QP ↑ht b3 293 [v0,v1,v2,v3]:=(((ph.J hK).O gj pz)).J hX;have g9:hl∉I::ob vl:=λH=>by
   rcases Lk.1 H with rfl|H
   .omega
   have:=(h8 hl H).1;omega
  have ka:b17∉I::ob vl:=λH=>by
   rcases Lk.1 H with rfl|H
   .omega
   have:=(h8 b17 H).2;omega
  have kb:I∉ob vl:=λH=>ov (h8 I H).1
  have q5:hl∉ob vl:=λH=>g9 (Ll _ H);refine ZH (I::ob vl) [oE 0,oE 1,oE 2,oE 3,oE 4,oE 6,oE 7,oF 5,oE 8,oF 9,oF 10,oE 11,oF 12] ?_;have ms:sW ht { ht with drawn:=ht.drawn+1 }:=xj.X _ _
  have hzd:({ ht with drawn:=ht.drawn+1 }:O8).heap.size=ht.heap.size:=rfl
  refine Go.Lg.p (QF U)<|pq (λ_ J=>Qk (hB1515.O J g9) U U)<|Go.Lg.p QA<|Go.Lg.p (QF U)<|pq (λ_ J=>Qk (mq.O J ka) U U) <|
   Go.Lg.p (QF U)<|pq (λ_ J=>Qk (mq.O J ka) U U)<|pk<|xc (first:=[]) (capt:=[sP b3,sP I]) U<|(Qat (hB315.J ms) ((hB1113.J hX).J ms) (J.J ((hs013.I hX).I ms)) gs.2.1 lc.1).S ?_
  rintro r16 w16 ⟨kf,rfl,hB1116⟩;have hs1516:=ms.any.V kf;have hV:∀b∈[I],b∈I::ob vl:=λb H=>by simp only[oJ]at H;simp[H]
  refine⟨hs1516.S hV,?_⟩;refine Go.Lg.p (λ_=>Qv ⟨U,U,La⟩)<|pk<|Zb [QD ((lwB p.co lc.1:Int),lc.2)] λb119 w17 hs17 hb119 kq=>⟨(hs1516.I hs17).S hV,?_⟩;have kg:=hs1516.I hs17;have hO17:w17.ownsRow ↑gh 107 2 vl j ((Uo p.co (q.ls.take j)).flatMap QD):=Qf (Ql gk hX) kg (λb H S=>by simp only[oJ]at S;subst S;exact kb H);have hz17:=kg.size;refine pk<|Q9 (news:=QD ((lwB p.co lc.1:Int),lc.2)) (L:=[]) hO17 U U U (kq.at oe) (λu hu=>by
   simp only[oM,oL,or_false]at hu;rcases hu with rfl|rfl <;> rfl) oa oa λke w18 hW mt hn18=>⟨(kg.S hV).V (mt.S (λb H=>Ll _ H)),?_⟩
  have hB1518:=((hB1515.O kg ol)).O mt q5;have hB1118:=(hB1116.J hs17).O mt kb;refine Go.Lg.p (QF U)<|pkk<|Qw (j:=1) (u:=ke) hB1518 U U oe (Qr hW) λw19 hs19 hB1519=>pe ?_;refine Qq<|QH U U<|Qa<|xe ?_;have z2:∀b∈[I],b∈[hl,I]:=λb H=>by simp only[oJ]at H;simp[H]
  have z3:∀b∈[hl],b∈[hl,I]:=λb H=>by simp only[oJ]at H;simp[H]
  have hs1218:xj [hl,I] gh w18:=((gj.I hX).V (kg.S z2)).G mt (λb H=>.inr (h8 b H).1);refine⟨(j+1,mj || !decide (lc.1∈p.co),ke),og,Lb,hp,hs1218.V (hs19.S z3),hB1519,hB1118.O hs19 ol,?_,?_⟩
  .simp only[];rw[qf,LC];have:=Qf hW hs19 (λb H=>by
    simp only[oJ];have:=(Qg hW b H).1;omega)
   simpa using this
  simp only[];rw[ql,h6,Bool.or_assoc]
 refine Qe ?_;have gm:k<T.length:=by have hw:(k:Int)<(T.length:Int):=m2;omega
 have hmem:=Lm gm;have hdr:T.drop k=T[k]'gm::T.drop (k+1):=LH gm;refine Qd<|Qn<|Qc<|xp (g:=skC) Qqn (hA54.J hD) U U gm λa58 h58=>?_;refine Zd (T[k]'gm) λq V=>?_;rw[V]at h58 hmem hdr;have hqi:=hl4i q hmem;rw[hdr,show q=(q.1,q.2.1,q.2.2) from rfl,ck4]at hF;refine x (Qu h58 U U)<|QL [nS,sS 0] λb8 w8 hZ hb8 mu=>QJ (skC q) mu ⟨hqi.one,U,La⟩ λw9 pa mu=>xe ?_;have hG:sW w7 w9:=hZ.Q pa hb8;have gt:=gr.I hG;refine Qc<|Qm U mu U U<|Qm U mu U U<|Qx<|(KA (hqi.J gt) q.2.2).S ?_;rintro r10 he ⟨rfl,rfl⟩;refine Qb<|Qj<|Zu U U<|xe<|QY rfl (λkh=>?_) (λkh=>?_)
 .rw[O1 kh]at hF;have hne:ck4 T≠0:=by rw[<-hF];exact kh
  rw[O1 hne,<-hF]at Z;subst Z;have pj:QP ↑he b4 45 Z3:=((mz.J hY).J hD).J hG;refine Qc<|x (Qv La)<|Qa<|QJ Z3 pj ⟨U,U,U,U,U,La⟩ λw11 z5 hB411=>Qb<|Qi ⟨[sT Z3,sS (Kv q.2.2 none q.2.1)],⟨YO hB411,U,La⟩,gt.Q z5 oa,Z3,U,U,⟨U,U,U,U,U,La⟩,λ_=>U,λY=>O3 Y kh⟩
 rw[O0 kh]at hF;refine Qe<|Qq<|QH U U<|Qa<|xe ?_;exact⟨k+1,oa,Lb,gm,hD.I hG,hF⟩
theorem Qc2 (n:Nat):(1:Int)*(2:Int) ^ n=((1 <<< n:Nat):Int):=by
 rw[Nat.shiftLeft_eq,NM,Int.one_mul,Int.natCast_pow];rfl
theorem VA (h:n<16):1 <<< n<65536:=by
 rw[Nat.shiftLeft_eq,NM];exact Nat.pow_lt_pow_right oh h
theorem Qe7 {k:Nat}(E:b<65536)(hk:k<16):orB b k<65536:=Qgu E (VA hk)
theorem Qot (h:n<16):inK .u16 ((1:Int)*(2:Int) ^ n):=by
 rw[Qc2];have E:=VA h;generalize 1 <<< n=m at E;exact⟨oa,oa⟩
theorem QjS {x:Y0}:∀(l:List Y0) (k b:Nat),b<65536->k+l.length<=16->rqB x k b l<65536
 | [],_,_,E,_=>E
 | y::l,k,b,E,hk=>by
  rw[rqB];refine QjS l _ _ ?_ (by simp at hk;omega);by_cases h:(y.a.al.any λe=>decide (e∈x.a.al))=true
  .rw[O1 h];exact Qe7 E (by simp at hk;omega)
  rw[O0 h];exact E
theorem Qdi (ls:xF)(l:Int×Int):prB (ls++[l])=orB (prB ls) l.1.toNat:=by
 unfold prB;rw[Mk];rfl
theorem QbM:∀(ls:xF),(∀l∈ls,0<=l.1/\l.1<16)->prB ls<65536:=by
 intro ls;unfold prB;have key:∀(ls:xF) (b:Nat),b<65536->(∀l∈ls,0<=l.1/\l.1<16)->ls.foldl (λb l=>orB b l.1.toNat) b<65536:=by
  intro ls;induction ls with
  | nil=>intro b E _;exact E
  | cons l ls ih =>
   intro b E h;exact ih _ (Qe7 E (ov (h l Lr))) (λl' H=>h l' (Ll _ H))
 exact key ls 0 oh
theorem Qb0 (m:Nat)(T:m<65536)(w:O8):QZ sV 101 [.int .u16 m] w λr w'=>sW w w'/\Qp 3 ↑w w' r (setK m 8):=by
 refine Zt func101 ?_;refine Qc<|Qb<|Qc<|Qb<|Qd<|Qj<|xe<|Q2 (α:=Nat×O9) [(3,17)] (λz=>[(3,z.2),(5,sS z.1)]) (λz w'=>z.1<=8/\sW w w'/\Qp 3 ↑w w' z.2 (setK m z.1)) (λz=>8 - z.1) (0,nS) oB
  ⟨Lp _,xj.Y _ _,QI _ _ _ _⟩ ?_
 rintro⟨k,v⟩ g w1 ⟨hk,H,E⟩;simp only[]at hk E;have hh:=XH m k;have hi:=H.size;refine Zi rfl U (λV=>?_) (λV=>?_)
 .refine Qt<|Qj<|Qb ?_;have Y:k=8:=oa
  rw[Y]at E;exact Qi ⟨[v],Lb,H,E⟩
 have O:k<8:=oa
 have Z:m / 2 ^ k<65536:=Nat.lt_of_le_of_lt (Nat.div_le_self _ _) T;have I:=qD m k;refine Qe<|Qd<|Qn<|Qj<|Qb<|Qj<|Qa<|x (Qdg (n:=k) U U (by show k<=16;omega))<|x (QnG (a:=m / 2 ^ k) (b:=1) (O2 (Value.int .u16) (Qby m k)) U Z oh)<|x (QW U U)<|xe<|ZI rfl (λS=>?_) (λS=>?_)
 .rw[O0 (λe=>S (by rw[e];rfl))]at I;refine Qe<|Qq<|QH U U<|Qa<|xe ?_;exact⟨(k+1,v),og,oB,O,H,by simp only[];rw[I];exact E⟩
 rw[O1 oa]at I;refine Qq<|Qa<|Qa<|Qo<|Zb [[sS k]] λhj w2 J hl ha=>?_;have hc:=Ql E J;have hn:=J.size;refine Qo<|Q9 (news:=[sS k]) (L:=[]) hc U U U (ha.at oe) oq oa oa λv3 w3 he hg ho =>
  Qb<|Qq<|QH U U<|Qa<|xe ?_
 refine⟨(k+1,v3),og,oB,O,(H.I J).G hg (λb hb=>.inr ((Qg E) b hb).1),?_⟩;simp only[];rw[I];exact Qp.snoc he
theorem QjE {c:CL}(O:QP ↑w b1 45 c.cells)(S:QP ↑w b2 3 [sS i])(E:ZG [] ↑w c){q:IV}(hi:c.rq[i]?=some q)(e:Int):
  QZ sV 218 [sS e,sP b1,sP b2] w λr w'=>r=.bool (decide (e∈q.p.a.al))/\sW w w':=by
 obtain⟨H,I⟩:=Me.1 hi;refine Zt func218 ?_;refine Qc<|Qb<|Qc<|Qm U O U U<|Xe S U U<|xp (g:=QK) (i:=i) Yj E.rq.arr U U H λT J=>?_;rw[I]at J;refine x (Zp U)<|x (Zp U)<|x (Qy ((J.fld 1 q.p.va U)) U)<|Qa<|Qx<|(Yn (E.rq.each q (I ▸ Lm H)).al e).S ?_;rintro r1 V ⟨rfl,rfl⟩;refine Qb<|Qi ⟨[_],Lb,U,xj.Y _ _⟩
theorem Qnj {c:CL}(hh:QP ↑w b1 45 c.cells)(T:ZG [] ↑w c)(h8:c.co.length<=8){q:IV}(hi:c.rq[i]?=some q):
  QZ sV 217 [sS i,sP b1] w λr w'=>r=.int .u16 (rqB q.it 0 0 c.Z.co)/\sW w w':=by
 refine Zt func217 ?_;refine Qc<|Zg [sS i] λb2 w1 V h1 ho=>Qb<|Qc<|Qb<|Qd<|Qc<|Qm U (hh.J V) U U<|QE (T.J V).co.arr U<|Qa<|xe<|Q2 (α:=Nat×Nat) [(4,6),(10,24)] (λz=>[(4,.int .u16 z.2),(10,sS z.1)]) (λz w'=>z.1<=c.co.length/\sW w1 w'/\z.2<65536/\rqB q.it z.1 z.2 ((c.co.drop z.1).map (·.it))=rqB q.it 0 0 c.Z.co) (λz=>c.co.length - z.1) (0,0) oB
  ⟨Lp _,xj.Y _ _,oh,U⟩ ?_
 rintro⟨k,b⟩ g w2 ⟨hk,O,Y,E⟩;have Z:=V.I O;have h2:=T.J Z;refine Zi rfl U (λha=>?_) (λha=>?_)
 .refine Qt ?_;have hp:c.co.length<=k:=by have hq:¬(k:Int)<(c.co.length:Int):=ha;omega
  rw[Lx hp]at E;have hs:b=rqB q.it 0 0 c.Z.co:=E;refine Qj<|Qb<|Qi ⟨[.int .u16 b],Lb,by rw[hs];rfl,Z⟩
 have H:k<c.co.length:=by have hq:(k:Int)<(c.co.length:Int):=ha;omega
 have hj:=Lm H;rw[Kq H,rqB]at E;refine Qe<|Qd<|Qn<|Qj<|xp (g:=QK) (i:=k) Yj h2.co.arr U U H λh3 hl=>?_;refine Zd (c.co[k]'H) λy hy=>?_;rw[hy]at hl hj E;have S:=h2.co.each y hj;refine x (Qu hl U U)<|QL [.string .empty,nS,sS 0,nS,nS] λb6 w3 ht hv he=>x Qh <|
  QJ (QK y) he ⟨U,S.al.one,U,S.mr.one,S.ed.one,La⟩ λw4 hw he=>xe ?_
 have J:sW w2 w4:=ht.Q hw hv;have hm:=Z.I J;refine Qc<|QN U<|Qm U he U U<|x (ZC (l:=[]) (l':=[_,_]))<|Qx<|(Qhj (q:=λe=>decide (e∈q.p.a.al)) (cap:=[sP b1,sP b2]) (S.al.J J)
  (λe w5 I=>QjE ((hh.J hm).J I) ((ho.J (O.I J)).J I) ((T.J hm).J I) hi e)).S ?_
 rintro r5 w5 ⟨rfl,I⟩;refine xe<|Q6 rfl (λhg=>?_) (λhg=>?_)
 .rw[O1 (by exact hg)]at E;refine Qq<|Qa<|Qa<|x (Qgo (n:=k) U U (by show k<=16;omega) (Qot oa))<|x (Qe2 (a:=b) (b:=1 <<< k) U (O2 (Value.int .u16) (Qc2 k)) Y (VA oa))<|Qb<|Qq<|QH U U<|Qa<|xe ?_;exact⟨(k+1,orB b k),og,oB,H,(O.I J).I I,Qe7 Y oa,E⟩
 rw[O0 (by intro h0;have hz:(y.p.a.al.any λe=>decide (e∈q.p.a.al))=false:=hg;have hn:(y.p.a.al.any λe=>decide (e∈q.p.a.al))=true:=h0;rw[hz]at hn;cases hn)]at E;refine Qe<|Qq<|QH U U<|Qa<|xe ?_;exact⟨(k+1,b),og,oB,H,(O.I J).I I,Y,E⟩
theorem Qni {c:CL}(hj:QP ↑w b1 45 c.cells)(Y:ZG [] ↑w c){q:XV}(hi:c.ex[i]?=some q)(Z:∀l∈q.ls,0<=l.1/\l.1<16):
  QZ sV 219 [sS i,sP b1] w λr w'=>r=.int .u16 (prB q.ls)/\sW w w':=by
 obtain⟨ha,hq⟩:=Me.1 hi;have J:=Y.ex.each q (hq ▸ Lm ha);have hy:=J.le;refine Zt func219 ?_;refine Qc<|Qb<|Qc<|Qb<|Qd<|Qc<|Qm U hj U U<|Qa<|xp (g:=Q0) (i:=i) XG Y.ex.arr U U ha λhz he=>?_;rw[hq]at he;refine x (Zp U)<|x (Qy (he.fld 1 q.v U) U)<|QE J U<|Qa<|xe<|Q2 (α:=Nat×Nat) [(4,4),(6,6),(14,23)] (λz=>[(4,.int .u16 z.2),(14,sS z.1)]) (λz w'=>z.1<=q.ls.length/\sW w w'/\z.2=prB (q.ls.take z.1)) (λz=>q.ls.length - z.1) (0,0) oB
  ⟨Lp _,xj.Y _ _,U⟩ ?_
 rintro⟨k,b⟩ g w1 ⟨hk,O,H⟩;simp only[]at hk H;have hn:b<65536:=by rw[H];exact QbM _ (λl S=>Z l (L8 S))
 refine Zi rfl U (λT=>?_) (λT=>?_)
 .refine Qt ?_;have ho:q.ls.length<=k:=by have I:¬(k:Int)<(q.ls.length:Int):=T;omega
  rw[Lt ho]at H;refine Qj<|Qb<|Qi ⟨[.int .u16 b],Lb,by rw[H];rfl,O⟩
 have E:k<q.ls.length:=by have I:(k:Int)<(q.ls.length:Int):=T;omega
 have hg:q.ls.take (k+1)=q.ls.take k++[q.ls[k]'E]:=Lo E;have hp:=Z _ (Lm E);refine Qe<|Qd<|Qn<|Qc<|xp (g:=QD) Yw (J.J O) U U E λh0 I=>?_;refine Zd (q.ls[k]'E) λl S=>?_;rw[S]at I hg hp;have hr:l.1=(l.1.toNat:Int):=oa
 have hh:l.1.toNat<16:=oa
 refine x (Qu I U U)<|QL [sS 0,sS 0] λb6 w2 hs ht V=>QJ (QD l) V oB λw3 hv V =>
  xe ?_
 have hw:sW w1 w3:=hs.Q hv ht;refine Qq<|Qa<|Qm U V U U<|x (Qgo (n:=l.1.toNat) U (O2 sS hr) (by show l.1.toNat<=16;omega) (Qot hh))<|x (Qe2 (a:=b) (b:=1 <<< l.1.toNat) U (O2 (Value.int .u16) (Qc2 _)) hn (VA hh))<|Qb<|Qq<|QH U U<|Qa<|xe ?_;exact⟨(k+1,orB b l.1.toNat),og,oB,E,O.I hw,by simp only[];rw[hg,Qdi,H]⟩
theorem Qnh {c:CL}(hj:QP ↑w b1 45 c.cells)(Y:ZG [] ↑w c){q:KV}(hi:c.cs[i]?=some q)(Z:∀l∈q.ts,0<=l.1/\l.1<16):
  QZ sV 220 [sS i,sP b1] w λr w'=>r=.int .u16 (prB q.ts)/\sW w w':=by
 obtain⟨ha,hq⟩:=Me.1 hi;have J:=Y.cs.each q (hq ▸ Lm ha);have hy:=J.le;refine Zt func220 ?_;refine Qc<|Qb<|Qc<|Qb<|Qd<|Qc<|Qm U hj U U<|Qa<|xp (g:=Q5) (i:=i) Xs Y.cs.arr U U ha λhz he=>?_;rw[hq]at he;refine x (Zp U)<|x (Qy (he.fld 1 q.v U) U)<|QE J U<|Qa<|xe<|Q2 (α:=Nat×Nat) [(4,4),(6,6),(14,23)] (λz=>[(4,.int .u16 z.2),(14,sS z.1)]) (λz w'=>z.1<=q.ts.length/\sW w w'/\z.2=prB (q.ts.take z.1)) (λz=>q.ts.length - z.1) (0,0) oB
  ⟨Lp _,xj.Y _ _,U⟩ ?_
 rintro⟨k,b⟩ g w1 ⟨hk,O,H⟩;simp only[]at hk H;have hn:b<65536:=by rw[H];exact QbM _ (λl S=>Z l (L8 S))
 refine Zi rfl U (λT=>?_) (λT=>?_)
 .refine Qt ?_;have ho:q.ts.length<=k:=by have I:¬(k:Int)<(q.ts.length:Int):=T;omega
  rw[Lt ho]at H;refine Qj<|Qb<|Qi ⟨[.int .u16 b],Lb,by rw[H];rfl,O⟩
 have E:k<q.ts.length:=by have I:(k:Int)<(q.ts.length:Int):=T;omega
 have hg:q.ts.take (k+1)=q.ts.take k++[q.ts[k]'E]:=Lo E;have hp:=Z _ (Lm E);refine Qe<|Qd<|Qn<|Qc<|xp (g:=QD) Yw (J.J O) U U E λh0 I=>?_;refine Zd (q.ts[k]'E) λl S=>?_;rw[S]at I hg hp;have hr:l.1=(l.1.toNat:Int):=oa
 have hh:l.1.toNat<16:=oa
 refine x (Qu I U U)<|QL [sS 0,sS 0] λb6 w2 hs ht V=>QJ (QD l) V oB λw3 hv V =>
  xe ?_
 have hw:sW w1 w3:=hs.Q hv ht;refine Qq<|Qa<|Qm U V U U<|x (Qgo (n:=l.1.toNat) U (O2 sS hr) (by show l.1.toNat<=16;omega) (Qot hh))<|x (Qe2 (a:=b) (b:=1 <<< l.1.toNat) U (O2 (Value.int .u16) (Qc2 _)) hn (VA hh))<|Qb<|Qq<|QH U U<|Qa<|xe ?_;exact⟨(k+1,orB b l.1.toNat),og,oB,E,O.I hw,by simp only[];rw[hg,Qdi,H]⟩
theorem xcG {pS:String}{x:xd}{l:List xd}
   {first:LV} (E:∃fn,Fu P g fn) (hx:ev f x=.func (.func g) first.toArray capt.toArray) (h:QZ P g (first++l.map (ev f)++capt) w λv w'=>K (QT f d v) w'):
  XO P ⟨d,.call ⟨.value x,l.toArray,at_⟩,ty,pS,af,gd⟩ f w K:=by
 obtain⟨fn,hF⟩:=E;exact xc (fn:=fn) hx h
def gK (m:Nat):Nat:=if m=0 then 217 else if m=1 then 219 else 220
theorem Qk6 (m:Nat):∃fn,Fu sV (gK m) fn:=by
 unfold gK;split
 .exact⟨_,inferInstance⟩
 split
 .exact⟨_,inferInstance⟩
 exact⟨_,inferInstance⟩
abbrev Jz (c:Zy)(m:Nat):LN:=srK c ((m:Int)+1)
theorem QjH (c:Zy):Jz c 0=srR c:=rfl
theorem QjG (c:Zy):Jz c 1=srX c:=rfl
theorem QjF (c:Zy):Jz c 2=srC c:=rfl
structure zk (c:Zy):Prop where
 c8:c.co.length<=8
 r:c.rq.length<=32
 x:c.ex.length<=32
 k:c.cs.length<=32
 xl:∀e∈c.ex,∀l∈e.ls,0<=l.1/\l.1<16
 kl:∀e∈c.cs,∀l∈e.ts,0<=l.1/\l.1<16
theorem QmJ.sr (h:QmJ c):zk c:=by
 have E:=VQ h.cd;have J:(szs c.co).length=c.co.length:=Lj ..;have O:=h.cr;refine⟨h.c8,oa,E.xl,E.kl,λe H l I=>?_,λe H l I=>?_⟩
 .have:=E.x e H l I;omega
 have:=(E.k e H).1 l I;omega
theorem UP (h:zk c){m:Nat}(E:m<3):(Jz c m).length<=32:=by
 rcases m with _|_|_|m
 .rw[QjH];unfold srR;rw[Lj];exact h.r
 .rw[QjG];unfold srX;rw[Lj];exact h.x
 .rw[QjF];unfold srC;rw[Lj];exact h.k
 omega
theorem yB (h:zk c){m:Nat}(H:m<3):∀b∈Jz c m,b<65536:=by
 have I:=h.c8;rcases m with _|_|_|m
 .rw[QjH];unfold srR;intro b E;obtain⟨x,_,rfl⟩:=Ly.1 E;exact QjS _ _ _ oh oa
 .rw[QjG];unfold srX;intro b E;obtain⟨x,hx,rfl⟩:=Ly.1 E;exact QbM _ (h.xl x hx)
 .rw[QjF];unfold srC;intro b E;obtain⟨x,hx,rfl⟩:=Ly.1 E;exact QbM _ (h.kl x hx)
 omega
abbrev srV (b1:Nat)(c:Zy)(m:Nat):LV:=[sS ((m:Int)+1),sS (Jz c m).length,.func (.func (gK m)) #[] #[sP b1]]
theorem qB (b1:Nat)(c:Zy)(m:Nat):(srV b1 c m).length=3:=rfl
theorem QeQ {c:CL}{m:Nat}(I:QP ↑w b1 45 c.cells)(J:ZG [] ↑w c)(O:zk c.Z)(T:m<3)(hi:i<(Jz c.Z m).length):
  QZ sV (gK m) [sS i,sP b1] w λr w'=>r=.int .u16 ((Jz c.Z m)[i]'hi:Nat)/\sW w w':=by
 rcases m with _|_|_|m
 .have H:(Jz c.Z 0).length=c.rq.length:=by rw[QjH];unfold srR;rw[Lj];exact Lj ..
  have E:i<c.rq.length:=Nat.lt_of_lt_of_eq hi H;have e:(Jz c.Z 0)[i]'hi=rqB (c.rq[i]'E).it 0 0 c.Z.co:=by
   show(srR c.Z)[i]'_=_;simp[srR,CL.Z]
  rw[e];have S:c.co.length<=8:=by have:=O.c8;rw[show c.Z.co.length=c.co.length from Lj ..]at this;exact this
  exact Qnj I J S (LE E)
 .have H:(Jz c.Z 1).length=c.ex.length:=by rw[QjG];unfold srX;rw[Lj];exact Lj ..
  have E:i<c.ex.length:=Nat.lt_of_lt_of_eq hi H;have e:(Jz c.Z 1)[i]'hi=prB (c.ex[i]'E).ls:=by
   show(srX c.Z)[i]'_=_;simp[srX,CL.Z,XV.x]
  rw[e];exact Qni I J (LE E) (λl H=>O.xl (c.ex[i]'E).x (LK (Lm E)) l H)
 .have H:(Jz c.Z 2).length=c.cs.length:=by rw[QjF];unfold srC;rw[Lj];exact Lj ..
  have E:i<c.cs.length:=Nat.lt_of_lt_of_eq hi H;have e:(Jz c.Z 2)[i]'hi=prB (c.cs[i]'E).ts:=by
   show(srC c.Z)[i]'_=_;simp[srC,CL.Z,KV.k]
  rw[e];exact Qnh I J (LE E) (λl H=>O.kl (c.cs[i]'E).k (LK (Lm E)) l H)
 omega
structure Quh (N:Nat)(w:O8)(c:CL)(r:O9)(b1 b:Nat):Prop where
 r:r=sL b 3 3
 n1:N<=b1
 n:N<=b
 B1:QP ↑w b1 45 c.cells
 B:QP ↑w b 290 ([0,1,2].flatMap (srV b1 c.Z))
theorem Uv {c:CL}(O:ZG L ↑w c):
  QZ sV 143 [c.val] w λr w'=>sW w w'/\∃b1 b,Quh ↑w w' c r b1 b:=by
 have e0:(Jz c.Z 0).length=c.rq.length:=by rw[QjH];unfold srR;rw[Lj];exact Lj ..
 have e1:(Jz c.Z 1).length=c.ex.length:=by rw[QjG];unfold srX;rw[Lj];exact Lj ..
 have e2:(Jz c.Z 2).length=c.cs.length:=by rw[QjF];unfold srC;rw[Lj];exact Lj ..
 refine Zt func143 ?_;refine Qc<|Zg c.cells λb1 Y H S E=>Qb ?_;have I:=(O.up (L':=[]) oe).J H;refine Qc<|Qm U E U U<|QE I.rq.arr U<|x (ZC (l:=[]) (l':=[_]))<|x (Qv ⟨U,U,U,La⟩)<|x (VD U) <|
  Xe E rfl U<|QE I.ex.arr U<|x (ZC (l:=[]) (l':=[_]))<|x (Qv ⟨U,U,U,La⟩)<|QN U<|x (Qk E U U) <|
  QE I.cs.arr U<|x (ZC (l:=[]) (l':=[_]))<|x (Qv ⟨U,U,U,La⟩) <|
  Qo<|XQ (us:=[[sS 1,sS c.rq.length,.func (.func 217) #[] #[sP b1]],[sS 2,sS c.ex.length,.func (.func 219) #[] #[sP b1]],[sS 3,sS c.cs.length,.func (.func 220) #[] #[sP b1]]]) U U oh oe ⟨rfl,rfl,rfl,rfl,rfl,rfl,La⟩ λT Z J ha V =>
  Qb ?_
 have hb:=H.size;refine Qi ⟨[_],Lb,H.I J,b1,T,U,S,oa,E.J J,?_⟩;have e:[0,1,2].flatMap (srV b1 c.Z)=[sS 1,sS c.rq.length,.func (.func 217) #[] #[sP b1],sS 2,sS c.ex.length,.func (.func 219) #[] #[sP b1],sS 3,sS c.cs.length,.func (.func 220) #[] #[sP b1]]:=by
  simp only[Od,OS,srV,e0,e1,e2];rfl
 rw[e];exact V
def srP (c:Zy):Nat->LN
 | 0=>[]
 | m+1=>srP c m++Jz c m
theorem Qc0 (c:Zy):srP c 3=sets c:=by
 simp only[srP,QjH,QjG,QjF,sets,Oh,oY]
theorem Qbu {c:Zy}(h:zk c):∀m,m<=3->(srP c m).length<=32*m
 | 0,_=>Lp _
 | m+1,E=>by
  have H:=Qbu h m oa;have I:=UP h (show m<3 by omega);rw[srP,Ln];omega
abbrev Qjo (l:LN):LV:=l.map λb=>.int .u16 (b:Nat)
abbrev jQ (base:Nat)(w:O8)(v:O9)(l:LN):Prop:=w.ownsRow base 234 1 v l.length (Qjo l)
theorem jQ.snoc {base:Nat}{v:O9}{l:LN}(h:w.ownsRow base 234 1 v (l.length+1) (Qjo l++[.int .u16 (b:Nat)])):jQ base w v (l++[b]):=by
 unfold jQ Qjo;rw[Ln,Ls];exact h
theorem Qno {c:CL}(h0:ZG L ↑w c)(Z:zk c.Z):
  QZ sV 100 [c.val] w λr w'=>sW w w'/\jQ ↑w w' r (sets c.Z):=by
 have h:=h0.up (L':=[]) oe;refine Zt func100 ?_;refine Qc<|Zg c.cells λb1 w1 ho hH hr=>Qb<|Qc<|Qb<|Qd<|Qc<|QV hr U U<|Qx<|(Uv (h.J ho)).S ?_;rintro r2 H ⟨ht,c1,bs,hS⟩;have hv:=hS.r;subst hv;have ha:=ho.I ht;have hA:∀{w':O8},sW H w'->Zk [] ↑w' (sL bs 3 3) [0,1,2].length 3 ([0,1,2].flatMap (srV c1 c.Z)):=λhs =>
  (hS.B.J hs).arr oe (n:=3) (cap:=3) (sz:=3) om oa (Lu _)
 refine QE (hA (xj.Y _ _)) U<|Qa<|xe<|Q2 (α:=Nat×O9) [(3,3),(5,6),(10,27)] (λz=>[(3,z.2),(10,sS z.1)]) (λz w'=>z.1<=3/\sW H w'/\jQ ↑H w' z.2 (srP c.Z z.1)) (λz=>3 - z.1) (0,nS) oB
  ⟨Lp _,xj.Y _ _,QI _ _ _ _⟩ ?_
 rintro⟨m,v⟩ g w3 ⟨hm,S,I⟩;simp only[]at hm I;have hI:=Qbu Z m hm;refine Zi rfl U (λhc=>?_) (λhc=>?_)
 .refine Qt ?_;have hw:m=3:=by have he:¬(m:Int)<(3:Nat):=hc;omega
  rw[hw,Qc0]at I;refine Qj<|Qb<|Qi ⟨[v],Lb,ha.I S,Zv I ha.size⟩
 have J:m<3:=by have he:(m:Int)<(3:Nat):=hc;omega
 have hJ:=UP Z J;refine Qe ?_;have hK:=S.size;have hge:=Qg I;have hy:([0,1,2]:LN)[m]'J=m:=by rcases m with _|_|_|m <;> first|rfl|omega
 refine Qd<|Qn<|Qc<|xp (g:=srV c1 c.Z) (i:=m) (qB c1 c.Z) (hA S) U U J λhL hp=>?_;rw[hy]at hp;refine x (Qu hp U U)<|QL [sS 0,sS 0,.nilFunc] λb5 w4 hz h1 T=>QJ (srV c1 c.Z m) T oC λw5 h2 T =>
  xe ?_
 have hg:sW w3 w5:=hz.Q h2 h1;have hM:=hg.size;refine Qc<|Qm U T U U<|Qa<|xe<|Q2 (α:=Nat×O9) [(3,3),(6,6),(16,26)] (λz=>[(3,z.2),(16,sS z.1)]) (λz w'=>z.1<=(Jz c.Z m).length/\xj (ob v) w5 w'/\jQ ↑H w' z.2 (srP c.Z m++(Jz c.Z m).take z.1)/\∀b∈ob z.2,b∈ob v\/↑w5<=b) (λz=>(Jz c.Z m).length - z.1) (0,v) oB
  ⟨Lp _,xj.Y _ _,by simp only[ON,Ol];exact Ql I hg,λb E=>.inl E⟩ ?_
 rintro⟨i,vi⟩ g w6 ⟨hi,V,Y,hh⟩;simp only[]at hi Y hh;have hN:=V.size;have hj:sW H w6:=(S.I hg).G V (λb E=>.inr (hge b E).1);have h3:b5∉ob v:=λE=>ov (hge b5 E).2
 have h4:=T.O V h3;have h6:=h.J (ha.I hj);have h5:QP ↑w6 c1 45 c.cells:=hS.B1.J hj;refine Zi rfl U (λhl=>?_) (λhl=>?_)
 .refine Qt ?_;have h7:(Jz c.Z m).length<=i:=by have he:¬(i:Int)<((Jz c.Z m).length:Int):=hl;omega
  rw[Lt h7]at Y;refine Qq<|QH U U<|Qa<|xe ?_;exact⟨(m+1,vi),og,oB,J,hj,Y⟩
 have O:i<(Jz c.Z m).length:=by have he:(i:Int)<((Jz c.Z m).length:Int):=hl;omega
 have hq:(Jz c.Z m).take (i+1)=(Jz c.Z m).take i++[(Jz c.Z m)[i]'O]:=Lo O;have hO:(srP c.Z m++(Jz c.Z m).take i).length<=200:=by rw[Ln,LB];omega
 refine Qe<|Qd<|Qn<|Qj<|Qb<|Qq<|Qa<|Qm U h4 U U<|Qa<|Qo<|xcG (first:=[]) (capt:=[sP c1]) (Qk6 m) U<|(QeQ h5 h6 Z J O).S ?_;rintro r7 w7 ⟨rfl,h8⟩;refine Zd ((Jz c.Z m)[i]'O) λbv hB=>?_;rw[hB]at hq ⊢;refine Qo<|Zb [[.int .u16 (bv:Nat)]] λhP w8 hC hQ hD=>?_;have hn:=h8.I hC;have hR:=hn.size;refine Qo<|Q9 (news:=[.int .u16 (bv:Nat)]) (L:=[]) (Ql Y hn) U U U (hD.at oe) oq oa oa λv9 w9 hE hF hG =>
  Qb<|Qq<|QH U U<|Qa<|xe ?_
 refine⟨(i+1,v9),og,oB,O,(V.I hn).G hF hh,?_,λb E=>?_⟩
 .simp only[];rw[hq,<-LD];exact jQ.snoc hE
 rcases hG b E with h9|h9
 .exact hh b h9
 exact .inr oa
structure MV where
 kd:Int
 ix:Int
 v:O9
 co:LI
def MV.m (q:MV):Vw:=⟨q.kd,q.ix,q.co⟩
abbrev YN (q:MV):LV:=[sS q.kd,sS q.ix,q.v]
theorem Qkq (q:MV):(YN q).length=3:=rfl
abbrev mvP (q:MV):O9×Nat×Nat×LV:=(q.v,q.co.length,1,q.co.map (.int .i64))
abbrev MvN (base:Nat)(w:O8)(v:O9)(l:List MV):Prop:=YH YN 3 210 mvP base w v l
theorem QnU {q:MV}(h:q.v.oneCell'=true):∀u∈YN q,u.oneCell'=true:=by
 intro u hu;simp only[YN,oM,oL,or_false]at hu;rcases hu with rfl|rfl|rfl
 .rfl
 .rfl
 exact h
theorem U0 (k:Int):∀(l:LN) (i:Nat),(Uh k i l).length=l.length
 | [],_=>rfl
 | _::l,i=>by rw[Uh,LX,U0 k l,LX]
theorem QaK (k:Int):∀(l:LN) (i j:Nat) (h:j<l.length),(Uh k i l).take (j+1)=(Uh k i l).take j++[⟨k,((i+j:Nat):Int),setK (l[j]'h) 8⟩]
 | [],_,j,h=>O3 h (Nat.not_lt_zero _)
 | b::l,i,0,h=>by rw[Uh];rfl
 | b::l,i,j+1,h=>by
  rw[Uh,M9,M9,QaK k l (i+1) j (oA h),MN];have e:((i+1+j:Nat):Int)=((i+(j+1):Nat):Int):=oa
  rw[e];rfl
abbrev mdG (c:Zy)(m:Nat):List Vw:=Uh ((m:Int)+1) 0 (Jz c m)
def mdP (c:Zy):Nat->List Vw
 | 0=>[]
 | m+1=>mdP c m++mdG c m
theorem Qdw (c:Zy):mdP c 3=xq c:=by
 simp only[mdP,xq,Oh,oY];rfl
theorem QbY {c:Zy}(h:zk c):∀m,m<=3->(mdP c m).length<=32*m
 | 0,_=>Lp _
 | m+1,E=>by
  have H:=QbY h m oa;have I:=UP h (show m<3 by omega);rw[mdP,Ln,U0];omega
theorem jI {c:CL}(V:ZG L ↑w c):
  QZ sV 84 [c.val] w λr w'=>sW w w'/\∃v l,r=.tuple #[v,sS (Zf c.Z)]/\MvN ↑w w' v l/\(Zf c.Z≠0->v=nS/\l=[])/\(Zf c.Z=0->l.map MV.m=xq c.Z):=by
 have h:=V.up (L':=[]) oe;refine Zd (Zf c.Z) λE hE=>?_;rw[hE];refine Zt func84 ?_;refine Qc<|Zg c.cells λb1 w1 hC gk hD=>x Qh<|Qb<|Qd<|Qc<|QV hD U U<|Qx<|(Xz (h.J hC)).S ?_;rintro rc wc ⟨hF,hG⟩;rw[hE]at hF;subst hF;have hN:=hD.J hG;have hr:=hC.I hG;refine Qb<|Qj<|Zu U U<|xe<|QY rfl (λJ=>?_) (λJ=>?_)
 .refine Qj<|x Qh<|Qb<|Qi ⟨[nS,sS E],oB,hr,nS,[],U,YH.nil,λ_=>⟨U,U⟩,λV=>O3 V J⟩
 have ht:E=0:=Lq.1 J;have hj:zk c.Z:=(ZO (hE.I ht)).sr;refine Qe<|Qc<|Qb<|Qd<|Qc<|QV hN U U<|Qx<|(Uv (h.J hr)).S ?_;rintro r2 O ⟨hO,c1,bs,hS⟩;have hP:=hS.r;subst hP;have hv:=hr.I hO;have hA:∀{w':O8},sW O w'->Zk [] ↑w' (sL bs 3 3) [0,1,2].length 3 ([0,1,2].flatMap (srV c1 c.Z)):=λhs =>
  (hS.B.J hs).arr oe (n:=3) (cap:=3) (sz:=3) om oa (Lu _)
 refine QE (hA (xj.Y _ _)) U<|Qa<|xe<|Q2 (α:=Nat×O9×List MV) [(5,5),(7,8),(17,39)] (λz=>[(5,z.2.1),(17,sS z.1)]) (λz w'=>z.1<=3/\sW O w'/\MvN ↑O w' z.2.1 z.2.2/\z.2.2.map MV.m=mdP c.Z z.1) (λz=>3 - z.1) (0,nS,[]) oB
  ⟨Lp _,xj.Y _ _,YH.nil,U⟩ ?_
 rintro⟨m,v,l⟩ g w3 ⟨hm,hl,Y,Z⟩;simp only[]at hm Y Z;have gl:=QbY hj m hm;have gm:l.length=(mdP c.Z m).length:=by rw[<-Z,Lj]
 refine Zi rfl U (λhw=>?_) (λhw=>?_)
 .refine Qt ?_;have hQ:m=3:=by have hy:¬(m:Int)<(3:Nat):=hw;omega
  rw[hQ,Qdw]at Z;refine Qj<|x Qh<|Qb ?_;have hR:=hv.size;exact Qi ⟨[v,sS 0],oB,hv.I hl,v,l,by rw[ht];rfl,⟨Zv Y.own hR,λq hq L hL=>Y.each q hq L (λb H=>(hL b H).imp (λh=>oa) id)⟩,λV=>O3 ht V,λ_=>Z⟩
 have S:m<3:=by have hy:(m:Int)<(3:Nat):=hw;omega
 have gn:=UP hj S;refine Qe ?_;have go:=hl.size;have hge:=Qg Y.own;have hT:([0,1,2]:LN)[m]'S=m:=by rcases m with _|_|_|m <;> first|rfl|omega
 refine Qd<|Qn<|Qc<|xp (g:=srV c1 c.Z) (i:=m) (qB c1 c.Z) (hA hl) U U S λgp J=>?_;rw[hT]at J;refine x (Qu J U U)<|QL [sS 0,sS 0,.nilFunc] λb7 w4 hU hV ha=>QJ (srV c1 c.Z m) ha oC λw5 hW ha =>
  xe ?_
 have hz:sW w3 w5:=hU.Q hW hV;have gq:=hz.size;refine Qc<|Qm U ha U U<|Qa<|xe<|Q2 (α:=Nat×O9×List MV) [(5,5),(8,8),(23,38)] (λz=>[(5,z.2.1),(23,sS z.1)]) (λz w'=>z.1<=(Jz c.Z m).length/\xj (ob v) w5 w'/\MvN ↑O w' z.2.1 z.2.2/\z.2.2.map MV.m=mdP c.Z m++(mdG c.Z m).take z.1/\∀b∈ob z.2.1,b∈ob v\/↑w5<=b) (λz=>(Jz c.Z m).length - z.1) (0,v,l) oB
  ⟨Lp _,xj.Y _ _,Y.J hz,by simp only[ON,Ol];exact Z,λb H=>.inl H⟩ ?_
 rintro⟨i,vi,li⟩ g I ⟨hi,hn,he,hg,ho⟩;simp only[]at hi he hg ho;have gr:=hn.size;have hX:=Qg he.own;have hp:sW O I:=(hl.I hz).G hn (λb H=>.inr (hge b H).1);have hH:b7∉ob v:=λH=>ov (hge b7 H).2
 have hI:=ha.O hn hH;have h6:=h.J (hv.I hp);have hY:QP ↑I c1 45 c.cells:=hS.B1.J hp;have gs:li.length<=200:=by
  have e1:=O2 oR hg;rw[Lj,Ln,LB]at e1;have e2:(mdG c.Z m).length=(Jz c.Z m).length:=U0 _ _ _;omega
 refine Zi rfl U (λh1=>?_) (λh1=>?_)
 .refine Qt ?_;have hZ:(Jz c.Z m).length<=i:=by have hy:¬(i:Int)<((Jz c.Z m).length:Int):=h1;omega
  rw[Lt (by rw[U0];exact hZ)]at hg;refine Qq<|QH U U<|Qa<|xe ?_;exact⟨(m+1,vi,li),og,oB,S,hp,he,hg⟩
 have T:i<(Jz c.Z m).length:=by have hy:(i:Int)<((Jz c.Z m).length:Int):=h1;omega
 have h2:(mdG c.Z m).take (i+1)=(mdG c.Z m).take i++[⟨(m:Int)+1,((0+i:Nat):Int),setK ((Jz c.Z m)[i]'T) 8⟩]:=QaK _ _ _ _ T;rw[LS]at h2;have hbl:=yB hj S _ (Lm T);refine Qe<|Qd<|Qn<|Qj<|Qb ?_;have hJ:b7∉ob vi:=λH=>by
  rcases ho b7 H with h9|h9
  .exact hH h9
  have:=ha.lt;omega
 have h3:sW I { I with drawn:=I.drawn+1 }:=xj.X _ _
 have gt:({ I with drawn:=I.drawn+1 }:O8).heap.size=I.heap.size:=rfl
 refine ZH (ob vi) (Xf 0 13 [7,8,10,11])<|p QA<|p (QF U)<|pq (λ_ hc=>Qk (hI.O hc hJ) U U)<|p QA<|p (QF U) <|
  pq (λ_ hc=>Qk (hI.O hc hJ) U U)<|p QA<|pk<|xcG (first:=[]) (capt:=[sP c1]) (Qk6 m) U<|(QeQ (hY.J h3) (h6.J h3) hj S T).S ?_
 rintro r8 w8 ⟨rfl,ga⟩;refine Zd ((Jz c.Z m)[i]'T) λbv gb=>?_;rw[gb]at h2 hbl ⊢;have h4:=h3.I ga;refine⟨h4.any,?_⟩;refine pk<|xg<|(Qb0 bv hbl w8).S ?_;rintro r9 w9 ⟨gc,h5⟩;have h7:=h4.I gc;have gu:=h4.size;refine⟨h7.any,?_⟩;refine p (λ_=>Qv ⟨U,U,xS h5,La⟩)<|pk<|Zb [YN ⟨(m:Int)+1,i,r9,setK bv 8⟩] λgv gw h8 gx gg=>⟨(h7.I h8).any,?_⟩;have hh:=h7.I h8;have gy:=hh.size;refine pk<|Q9 (news:=YN ⟨(m:Int)+1,i,r9,setK bv 8⟩) (L:=[]) (Ql he.own hh) U U U (gg.at oe) (QnU (q:=⟨(m:Int)+1,i,r9,setK bv 8⟩) (Qr h5)) oa oa λhK gh gi hB hM=>⟨hh.any.V hB,?_⟩;refine p ZL<|pe ?_;have gz:=XH bv 8;have gj:MvN ↑O gh hK (li++[⟨(m:Int)+1,i,r9,setK bv 8⟩]):=YH.app2 (N:=↑w8) (he.J hh) (Ql h5 h8) (by show(setK bv 8).length<=_;omega) (ov hp.size) (λb H=>ov (hX b H)) gi hB hM;refine Qq<|QH U U<|Qa<|xe<|⟨(i+1,hK,li++[⟨(m:Int)+1,i,r9,setK bv 8⟩]),og,oB,T,(hn.I hh).G hB ho,gj,?_,λb H=>?_⟩
 .simp only[];rw[h2,Ls,hg,LD];rfl
 rcases hM b H with h9|h9
 .exact ho b h9
 exact .inr oa
theorem QtU (h:n<=8):2 ^ n<=256:=Nat.pow_le_pow_right oh h
theorem qu {c:CL}(J:ZG L ↑w c):
  QZ sV 48 [c.val] w λr w'=>sW w w'/\∃v,r=.tuple #[v,sS (Zf c.Z)]/\(Zf c.Z≠0->v=nS)/\(Zf c.Z=0->Qp 3 ↑w w' v (rem c.Z)):=by
 have h:=J.up (L':=[]) oe;refine Zd (Zf c.Z) λE hE=>?_;rw[hE];refine Zt func48 ?_;refine Qc<|Zg c.cells λb1 w1 hg hB hh=>x Qh<|Qb<|Qd<|Qc<|QV hh U U<|Qx<|(Xz (h.J hg)).S ?_;rintro rc wc ⟨hi,hj⟩;rw[hE]at hi;subst hi;have hl:=hh.J hj;have T:=hg.I hj;refine Qb<|Qj<|Zu U U<|xe<|QY rfl (λV=>?_) (λV=>?_)
 .refine Qj<|x Qh<|Qb<|Qi ⟨[nS,sS E],oB,T,nS,U,λ_=>U,λJ=>O3 J V⟩
 have Y:E=0:=Lq.1 V;have I:zk c.Z:=(ZO (hE.I Y)).sr;have hv:c.Z.co.length=c.co.length:=Lj ..;have h8:c.co.length<=8:=by have:=I.c8;omega
 have hC:=QtU h8;have hD:0<2 ^ c.co.length:=Nat.pow_pos oh;have Z:(1:Int)*(2:Int) ^ c.co.length - 1=((2 ^ c.co.length - 1:Nat):Int):=by
  rw[Qc2,Nat.shiftLeft_eq,NM];omega
 have hw:inK .u16 ((1:Int)*(2:Int) ^ c.co.length - 1):=by rw[Z];exact⟨oa,oa⟩
 have hm:2 ^ c.co.length - 1<65536:=oa
 have hz:=Qbu I 3 oa;rw[Qc0]at hz;have hn:Qe0 c.Z=(sets c.Z).foldl (λl b=>l &&& (65535 ^^^ b)) (2 ^ c.co.length - 1):=by unfold Qe0;rw[hv]
 have hbl:∀b∈sets c.Z,b<65536:=by
  intro b H;unfold sets at H;rcases Lh.1 H with H|H
  .exact yB I (m:=0) oa b H
  rcases Lh.1 H with H|H
  .exact yB I (m:=1) oa b H
  exact yB I (m:=2) oa b H
 refine Zd (2 ^ c.co.length - 1) λb0 h1=>?_;rw[h1]at Z hn hm;have ho:=h.J T;refine Qe<|Qc<|Qm U hl U U<|QE ho.co.arr U<|x (Qgo (n:=c.co.length) U U (by show c.co.length<=16;omega) (Qot oa))<|x (X1 U U hw)<|Qb<|Qd<|Qc<|QV hl U U<|Qx<|(Qno ho I).S ?_;rintro r2 w2 ⟨h2,h3⟩;have hA:Zk [] ↑w2 r2 (sets c.Z).length 1 (Qjo (sets c.Z)):=QC h3 oa oe;have h4:Zk [] ↑w2 r2 (sets c.Z).length 1 ((sets c.Z).flatMap λb=>[.int .u16 (b:Nat)]):=by
  have e:(sets c.Z).flatMap (λb=>[Value.int .u16 (b:Nat)])=Qjo (sets c.Z):=by
   generalize sets c.Z=l;induction l with
   | nil=>rfl
   | cons a l ih=>rw[LQ,ih];rfl
  rw[e];exact hA
 refine QE hA U<|Qa<|xe<|Q2 (α:=Nat×Nat) [(5,5),(7,7),(21,28)] (λz=>[(5,.int .u16 z.2),(21,sS z.1)]) (λz w'=>z.1<=(sets c.Z).length/\sW w2 w'/\z.2<65536/\((sets c.Z).drop z.1).foldl (λl b=>l &&& (65535 ^^^ b)) z.2=Qe0 c.Z) (λz=>(sets c.Z).length - z.1) (0,b0) ⟨O2 (Value.int .u16) Z,U,La⟩
  ⟨Lp _,xj.Y _ _,hm,hn.symm⟩ ?_
 rintro⟨k,b⟩ g w3 ⟨hk,ha,H,O⟩;have hp:=(T.I h2).I ha;refine Zi rfl U (λhc=>?_) (λhc=>?_)
 .refine Qt ?_;have h5:(sets c.Z).length<=k:=by have h6:¬(k:Int)<((sets c.Z).length:Int):=hc;omega
  rw[Lx h5]at O;have h7:b=Qe0 c.Z:=O;refine Qj<|Qx<|(Qb0 b H w3).S ?_;rintro r4 w4 ⟨h9,hq⟩;refine x Qh<|Qb ?_;rw[h7]at hq;exact Qi ⟨[r4,sS 0],oB,hp.I h9,r4,by rw[Y];rfl,λJ=>O3 Y J,λ_=>Zv hq hp.size⟩
 have S:k<(sets c.Z).length:=by have h6:(k:Int)<((sets c.Z).length:Int):=hc;omega
 have hs:=hbl _ (Lm S);rw[LH S,LZ]at O;refine Qe<|Qd<|Qn<|Qc<|xp (g:=λb:Nat=>[.int .u16 (b:Nat)]) (i:=k) (λ_=>U) (h4.J ha) U U S λhF ht=>?_;refine Zd ((sets c.Z)[k]'S) λy hy=>?_;rw[hy]at ht hs O;refine x (Qy ht U)<|Qb<|Qq<|Qa<|Qa<|x (Qe4 (a:=b) (b:=y) U U H hs)<|Qb<|Qq<|QH U U<|Qa<|xe ?_;exact⟨(k+1,b &&& (65535 ^^^ y)),og,oB,S,ha,Nat.lt_of_le_of_lt Nat.and_le_left H,O⟩
theorem Qok {v:O9}{es:LN}[Fu sV g fn]{cap:LV}{q:Nat->Bool}(h:Zk L ↑w v es.length 3 (es.flatMap (srV b1 c)))
  (hk:∀(m:Nat) (I:O8),sW w I->QZ sV g ([sT (srV b1 c m)]++cap) I λr w'=>r=.bool (q m)/\sW I w'):
  QZ sV 221 [v,.func (.func g) #[] cap.toArray] w λr w'=>sW w w'/\∃i:Int,r=sS i/\((i=-1/\∀m∈es,q m=false)\/∃k:Nat,∃m,es[k]?=some m/\i=(k:Int)/\q m=true):=
 (ixG ⟨_,U,func221⟩ (qB b1 c) (ldA (qB b1 c)) h λm _=>hk m).S λ_ _ ⟨E,H⟩=>⟨H,fix q 0 es,E,by
  rcases Qcf q es 0 with⟨E,H⟩|⟨k,hk,E,H,_⟩
  .exact .inl ⟨E,λm J=>by obtain⟨i,hi,rfl⟩:=LM J;exact H i hi⟩
  exact .inr ⟨k,_,LE hk,by rw[E,LS],H⟩⟩
theorem Qph {m:Nat}{q:MV}(I:QP ↑w E 210 (YN q)):
  QZ sV 222 [sT (srV b1 c m),sP E] w λr w'=>r=.bool (decide ((m:Int)+1=q.kd))/\sW w w':=by
 refine Zt func222 ?_;refine Qc<|Zg (srV b1 c m) λb2 O H S J=>Qb<|Qc<|Qm U J U U<|Qm U (I.J H) U U<|x (QW U U)<|Qb<|Qi ⟨[_],Lb,U,H⟩
theorem Qif {c:CL}{q:MV}(h0:ZG L ↑w c)(hF:QG L ↑w q.v q.co):
  QZ sV 144 [c.val,.agg #[sS q.kd,sS q.ix,q.v]] w λr w'=>r=sS (mdE c.Z q.m)/\sW w w':=by
 have h:=h0.up (L':=[]) oe;have H:mdE c.Z q.m=if Zf c.Z≠0 then Zf c.Z else if q.kd<1\/3<q.kd then 11 else if q.ix<0\/((srK c.Z q.kd).length:Int)<=q.ix then 10 else if q.co=setK ((srK c.Z q.kd).getD q.ix.toNat 0) 8 then 0 else 13:=rfl
 refine Zd (mdE c.Z q.m) λE hE=>?_;rw[hE]at H ⊢;refine Zt func144 ?_;refine Qc<|Zg c.cells λb2 w1 hG hZ hw=>Zg (YN q) λb3 w2 he ga hH=>Qb ?_;have hy:=hG.I he;refine Qd<|Qc<|QV (hw.J he) U U<|Qx<|(Xz (h.J hy)).S ?_;rintro r3 w3 ⟨rfl,hg⟩;refine Qb ?_;have hh:=hy.I hg;refine Qj<|Zu U U<|xe<|QY rfl (λV=>?_) (λV=>?_)
 .rw[O1 V]at H;subst H;refine Qj<|Qb<|Qi ⟨[_],Lb,U,hh⟩
 rw[O0 V]at H;have hj:zk c.Z:=(ZO (Lq.1 V)).sr;refine Qe<|Qc<|QV ((hw.J he).J hg) U U<|Qx<|(Uv (h.J hh)).S ?_;rintro r4 w4 ⟨h1,c1,bs,hS⟩;have hI:=hS.r;subst hI;refine Qb ?_;have h2:=(hH.J hg).J h1;have hA:Zk [] ↑w4 (sL bs 3 3) [0,1,2].length 3 ([0,1,2].flatMap (srV c1 c.Z)):=hS.B.arr oe (n:=3) (cap:=3) (sz:=3) om oa (Lu _);refine Qj<|x (ZC (l:=[]) (l':=[_]))<|Qx<|(Qok (q:=λm=>decide ((m:Int)+1=q.kd)) (cap:=[sP b3]) hA (λm w5 J=>Qph (h2.J J))).S ?_;rintro r5 w5 ⟨J,i,rfl,hi⟩;refine Qb ?_;have h3:=(hh.I h1).I J;have hl:=h2.J J;have h4:=hA.J J;have hJ:QP ↑w5 c1 45 c.cells:=hS.B1.J J;refine Qd<|Qn<|Qj<|Ye U U<|Qb<|QY U (λhm=>?_) (λhm=>?_)
 .have hn:q.kd<1\/3<q.kd:=by
   rcases hi with⟨_,hi⟩|⟨k,m,_,hi,_⟩
   .have e0:=O7 (hi 0 oe);have e1:=O7 (hi 1 oe);have e2:=O7 (hi 2 oe);omega
   have gb:i<0:=hm;omega
  rw[O1 hn]at H;subst H;refine Qc<|Qb<|Qi ⟨[_],Lb,U,h3⟩
 obtain⟨m,O,hK,hn⟩:∃m:Nat,m<3/\i=(m:Int)/\q.kd=(m:Int)+1:=by
  rcases hi with⟨hi,_⟩|⟨k,m,hk,hi,hq⟩
  .exact O3 (by rw[hi];decide:i<0) hm
  have gc:=O5 hq;obtain⟨hL,hk⟩:=Me.1 hk;have hM:k<3:=hL;have gg:m=k:=by rcases k with _|_|_|k <;> first|exact hk.symm|omega
  exact⟨k,hM,hi,oa⟩
 subst hK;rw[O0 oa,show srK c.Z q.kd=Jz c.Z m by rw[hn]]at H;have gh:=UP hj O;have h5:([0,1,2]:LN)[m]'O=m:=by rcases m with _|_|_|m <;> first|rfl|omega
 refine QX (α:=Bool) [(21,34)] (λz=>[(21,.bool z)]) (λz w'=>sW w5 w'/\z=decide (q.ix<0\/((Jz c.Z m).length:Int)<=q.ix)) om ?_ ?_
 .refine ZH [] (Xf 0 14 [])<|p (QF U)<|pq (λ_ I=>Qk (hl.J I) U U)<|pb (λ_=>YA U U) (λho=>?_) (λho=>?_)
  .refine p QA<|ps<|ps<|ps<|ps<|ps<|ps<|ps<|ps<|p (Z9 U)<|p ZL<|pe ?_;have hp:q.ix<0:=ho;exact⟨true,Lb,xj.X _ _,by rw[O4 (.inl hp)]⟩
  refine p QA<|p (QF U)<|pq (λ_ I=>Qk (hl.J I) U U)<|p QA<|p QA <|
   Go.Lg.pig (g:=srV c1 c.Z) (i:=m) U (qB c1 c.Z) h4 U U O λgi h6=>?_
  rw[h5]at h6;refine p (λ_=>Zp U)<|pq (λ_ I=>Qy ((h6.fld 1 (sS (Jz c.Z m).length) U).st I) U)<|p (λ_=>YI U U) <|
   p (Z9 rfl)<|p ZL<|pe ?_
  have hp:¬q.ix<0:=ho;refine⟨decide (((Jz c.Z m).length:Int)<=q.ix),Lb,xj.X _ _,?_⟩;rw[decide_eq_decide];exact⟨.inr,λh=>h.resolve_left hp⟩
 rintro z g Y ⟨Z,hz⟩;have ha:=h3.I Z;refine Q6 rfl (λht=>?_) (λht=>?_)
 .rw[O1 (O5 (hz.symm.I ht))]at H;subst H;refine Qc<|Qb<|Qi ⟨[_],Lb,U,ha⟩
 have hN:=O7 (hz.symm.I ht);rw[O0 hN]at H;have hO:q.ix=(q.ix.toNat:Int):=oa
 have S:q.ix.toNat<(Jz c.Z m).length:=oa
 have hP:(Jz c.Z m).getD q.ix.toNat 0=(Jz c.Z m)[q.ix.toNat]'S:=by simp[oQ,S]
 have hbl:=yB hj O _ (Lm S);rw[hP]at H;have h7:=hl.J Z;have h8:sW Y { Y with drawn:=Y.drawn+1 }:=xj.X _ _
 have hQ:∀{w':O8},sW Y w'->QZ sV (gK m) [sS q.ix,sP c1] w' λr hR=>r=.int .u16 ((Jz c.Z m)[q.ix.toNat]'S:Nat)/\sW w' hR:=by
  intro w' hs;have:=QeQ ((hJ.J Z).J hs) ((h.J ha).J hs) hj O S;rw[<-hO]at this;exact this
 refine Qd<|ZH [] (Xf 0 14 [9,10,11])<|p (QF U)<|pq (λ_ I=>Qk (h7.J I) U U)<|p QA<|p QA<|Go.Lg.pig (g:=srV c1 c.Z) (i:=m) U (qB c1 c.Z) (h4.J Z) U U O λgj h9=>?_;rw[h5]at h9;refine p (λ_=>Zp U)<|pq (λ_ I=>Qy ((h9.fld 2 (.func (.func (gK m)) #[] #[sP c1]) U).st I) U)<|p (QF U)<|pq (λ_ I=>Qk (h7.J I) U U) <|
  pk<|xcG (first:=[]) (capt:=[sP c1]) (Qk6 m) U<|(hQ h8).S ?_
 rintro r7 w7 ⟨rfl,hT⟩;refine Zd ((Jz c.Z m)[q.ix.toNat]'S) λbv hU=>?_;rw[hU]at H hbl ⊢;have hB:=h8.I hT;refine⟨hB,?_⟩;refine pk<|xg<|(Qb0 bv hbl w7).S ?_;rintro r8 w8 ⟨hV,hW⟩;have hb:=hB.I hV;refine⟨hb,?_⟩;have gk:=XH bv 8;refine pk<|xg<|(JR ((hF.up (L':=[]) oe).J (ha.I hb)) (Qp.ints (L:=[]) hW oa oe)).S ?_;rintro r9 w9 ⟨rfl,hC⟩;refine⟨hb.I hC,?_⟩;refine p (λ_=>Zr U)<|p ZL<|pe ?_;have hD:=(ha.I hb).I hC;refine Q6 rfl (λhv=>?_) (λhv=>?_)
 .have hX:¬q.co=setK bv 8:=by
   intro e;have T:(!decide (q.co=setK bv 8))=true:=hv;rw[O4 e]at T;cases T
  rw[O0 hX]at H;subst H;refine Qc<|Qb<|Qi ⟨[_],Lb,U,hD⟩
 have hY:q.co=setK bv 8:=by
  refine Oe λe=>?_;have T:(!decide (q.co=setK bv 8))=false:=hv;rw[O6 e]at T;cases T
 rw[O1 hY]at H;subst H;refine Qe<|Qc<|Qb<|Qi ⟨[_],Lb,U,hD⟩
section
variable {pS:String}
abbrev i2 (p:Int×Int):LV:=[sS p.1,sS p.2]
abbrev i5 (a:ByteArray)(b c e:Bool)(i:Int):LV:=[.string a,.bool b,.bool c,.bool e,sS i]
end
end Go.Lg
namespace Go.Proofs
open Go.Proofs.Tryz
open Go.Shelf
def Tryz.sortEd_ren:Go.Shelf.Ren:=⟨λ|6=>190|15=>123|14=>258|28=>208|29=>209|20=>299|21=>300|22=>301|23=>302|24=>303|25=>304|26=>305|27=>306|46=>333|47=>265|48=>266|49=>334|50=>335|57=>346|n=>n,λ|22=>64|24=>159|25=>347|3=>3|39=>269|0=>0|53=>362|55=>364|4=>4|46=>356|45=>355|50=>275|5=>5|9=>9|66=>418|70=>422|76=>449|77=>408|n=>n,λ|n=>n⟩
theorem Tryz.sortEd:Go.Proofs.SlLaysF0.n6 sV Tryz.sortEd_ren:=lyS
end Go.Proofs
namespace Go.Lg
open Go.Lg Go.Sort
abbrev Ez:={ x:Ed // (0<=x.1/\x.1<1099511627776)/\0<=x.2.1/\x.2.1<1099511627776 }
instance:Inhabited Ez:=⟨⟨(0,0,0),oh⟩⟩
abbrev zP (x:Ez):LV:=[sS x.1.1,sS x.1.2.1,sS x.1.2.2]
abbrev EzO (base:Nat)(w:O8)(v:O9)(l:List Ez):Prop:=w.ownsRow base 159 3 v l.length (l.flatMap zP)
def ecf (x y:Ez):Int:=if x.1.1=y.1.1 then x.1.2.1 - y.1.2.1 else x.1.1 - y.1.1
theorem Qs4 (x y:Ez)(W:O8):Calls sV 309 #[sT (zP x),sT (zP y)] W λe w'=>e=.returned (sS (ecf x y))/\∃q os',w'=grow (W.drewN q) os':=by
 have E:IntKind.i64.wrap (x.1.1 - y.1.1)=x.1.1 - y.1.1:=YM ⟨oy x.2 y.2,oy x.2 y.2⟩;have H:IntKind.i64.wrap (x.1.2.1 - y.1.2.1)=x.1.2.1 - y.1.2.1:=YM ⟨oy x.2 y.2,oy x.2 y.2⟩
 go_enter func309,ntmps309
 go_wp2
 .go_ret;rename_i h;exact⟨by rw[ecf,O0 (oA h)];rfl,0,_,by rw[alloc_eq_grow,alloc_eq_grow,grow_grow];rfl⟩
 go_ret;rename_i h;exact⟨by rw[ecf,O1 (oA h)];rfl,0,_,by rw[alloc_eq_grow,alloc_eq_grow,grow_grow];rfl⟩
theorem Qs5 (x y:Ez)(W:O8):Calls sV 191 #[sT (zP x),sT (zP y)] W λe w'=>e=.returned (sS (ecf x y))/\∃q os',w'=grow (W.drewN q) os':=by
 have E:IntKind.i64.wrap (x.1.1 - y.1.1)=x.1.1 - y.1.1:=YM ⟨oy x.2 y.2,oy x.2 y.2⟩;have H:IntKind.i64.wrap (x.1.2.1 - y.1.2.1)=x.1.2.1 - y.1.2.1:=YM ⟨oy x.2 y.2,oy x.2 y.2⟩
 go_enter func191,ntmps191
 go_wp2
 .go_ret;rename_i h;exact⟨by rw[ecf,O0 (oA h)];rfl,0,_,by rw[alloc_eq_grow,alloc_eq_grow,grow_grow];rfl⟩
 go_ret;rename_i h;exact⟨by rw[ecf,O1 (oA h)];rfl,0,_,by rw[alloc_eq_grow,alloc_eq_grow,grow_grow];rfl⟩
theorem Qch (x:Ez):(zP x).length=3:=rfl
theorem Qfv:∀l:List Ez,(l.flatMap zP).length=l.length*3
 | []=>rfl
 | x::l=>by rw[LQ,Ln,Qfv l,Qch,LX];omega
theorem Qg3 {l:List Ez}(J:j<l.length*3):(l.flatMap zP)[j]?=some ((flatK zP 3 l.toArray)[j]!):=by
 have E:j / 3<l.length:=Nat.div_lt_of_lt_mul oa;have H:j % 3<3:=NF _ oh;rw[get_flatK _ _ _ _ (oA J)];have O:(l.flatMap zP)[j]?=(zP (l[j / 3]'E))[j % 3]?:=by
  rw[<-(Xo zP 3 Qch l (j / 3) E),L3,O1 H,MF];congr 1;omega
 rw[O];have S:(l.toArray)[j / 3]! = l[j / 3]'E:=by simp[E]
 rw[S];have I:j % 3<(zP (l[j / 3]'E)).length:=H;exact(LE I).I (O2 some (getElem!_pos (zP (l[j / 3]'E)) (j % 3) I).symm)
theorem QlB (x y:Ez):ltOf ecf x y=true↔x.1.1<y.1.1\/x.1.1=y.1.1/\x.1.2.1<y.1.2.1:=by
 unfold ltOf ecf;rw[decide_eq_true_iff];split <;> omega
theorem Qcj (x y:Ez):ltOf ecf x y=false↔y.1.1<x.1.1\/y.1.1=x.1.1/\y.1.2.1<=x.1.2.1:=by
 rw[<-Bool.not_eq_true,QlB];omega
theorem Qrk:SWO (ltOf ecf) where
 irrefl x:=by rw[Qcj];omega
 trans x y z h1 h2:=by rw[QlB]at *;omega
 ntrans x y z h1 h2:=by rw[Qcj]at *;omega
theorem Qgq [Inhabited α]{lt:α->α->Bool}{d E:Array α}(I:PermIn 0 d.size d E)(J:SortedIn lt 0 d.size E):E.toList.Perm d.toList/\E.toList.Pairwise (λx y=>lt y x=false):=by
 obtain⟨O,_,H⟩:=I;have e1:E.extract 0 d.size=E:=by rw[<-O];exact Array.extract_size
 rw[e1,Array.extract_size]at H;refine⟨H,?_⟩;rw[Mq];intro i j hi S T;have V:i<E.size:=by simpa using hi
 have Y:j<E.size:=by simpa using S
 have:=J i j (Lp _) T oa;rw[getElem!_pos E j Y,getElem!_pos E i V]at this;simpa using this
theorem QeS (eg:∀args w,(callFunc g args).run sV w=.ok (.enter g args) w)(hb:∀(x y:Ez) (W:O8),Calls sV g #[sT (zP x),sT (zP y)] W λe w'=>e=.returned (sS (ecf x y))/\∃q os',w'=grow (W.drewN q) os')
   {base:Nat} {v:O9} {l:List Ez} (h:EzO base w v l) (hl:l.length<=1099511627776):
  QZ sV 190 [v,.func (.func g) #[] #[]] w λ_ w'=>xj (ob v) w w'/\∃l':List Ez,l'.Perm l/\l'.Pairwise (λx y=>ltOf ecf y x=false)/\EzO base w' v l':=by
 unfold QZ;rcases h.2 with⟨rfl,h0⟩|⟨gb,cap,cur,rfl,hh,J,hm,ho,hq,hr⟩
 .have hs:l=[]:=LA h0;subst hs;have I:=AnyF.slices_SortFunc_none Tryz.sortEd none 0 (.func (.func g) #[] #[]) w;change Calls sV 190 _ _ _ at I;refine Calls.mono I λe w' O=>?_;obtain⟨rfl,rfl⟩:=O;exact⟨xj.Y _ _,[],List.Perm.refl _,List.Pairwise.nil,h⟩
 have V:gb<w.heap.size:=(LP.1 J).1;have hH:HoldsK zP 3 w gb 0 l.toArray:=by
  intro j E;rw[size_flatK,LU]at E;have Y:=Qg3 E;rw[<-hr,L3,O1 E]at Y;constructor
  .show(match w.heap[gb]? with|some (.cells c _ _)=>if(none:Option _).isSome then none else c[0+j]?|_=>none)=_
   rw[J];simp only[oZ,OI,OJ,if_false];rw[<-Mx,Y];rfl
  show(match w.heap[gb]? with|some (.cells _ _ (lo,hi))=>decide (lo<=0+j) && decide (0+j<hi)|_=>false)=false
  rw[J];simp
 have I:=AnyQ.slices_SortFunc Tryz.sortEd 3 isAgg159 sizeOf159 zP Qch (λx v Z=>by simp at Z;rcases Z with rfl|rfl|rfl <;> rfl) ecf Qrk g #[] gb 0 cap l.toArray w eg (λm os dk _ x y=>hb x y _) hH V (by simp;omega)
 change Calls sV 190 _ _ _ at I;rw[LU]at I;refine Calls.mono I λe w' O=>?_;obtain⟨rfl,H,n,os,hp,ht,rfl⟩:=O;have S:H.size=l.length:=by have:=hp.1;simpa using this
 have ha:=Qgq (d:=l.toArray) (by rw[LU];exact hp) (by rw[LU];exact ht);have T:(sortWorldK zP 3 w gb 0 n H os).heap=w.heap.modify gb (onCells (putCells id 0 (flatK zP 3 H)))++os:=rfl;refine⟨⟨rfl,U,U,?_,λk hk hn=>?_⟩,H.toList,ha.1,ha.2,?_⟩
 .rw[T,M5,Mn];omega
 .rw[T,Ms,Mn,O1 hk,MD,O0 (λe=>hn (by simp[ob,e]))]
 refine⟨Qfv _,.inr ⟨gb,cap,putCells id 0 (flatK zP 3 H) cur,by simp[S],hh,?_,by simp[S];exact hm,ho,by simp[putCells,hq],?_⟩⟩
 .rw[T,Ms,Mn,O1 V,MD,O1 rfl,J];rfl
 apply Nh;intro j;rw[L3];by_cases E:j<H.toList.length*3
 .rw[O1 E,Qg3 E,Mx];have hw:j<cur.size:=by simp[S]at E;omega
  have hy:j<(flatK zP 3 H).size:=by simpa using E
  simp only[putCells,Oy,Oj hw,Oz,OY,oZ,true_and,O1 hy,OP,id]
 rw[O0 E,MS];rw[Qfv];omega
theorem Qll:∀l:List Ez,(l.map (·.1)).flatMap Qz=l.flatMap zP
 | []=>rfl
 | x::l=>by rw[LO,LQ,LQ,Qll l];rfl
theorem Qg2:∀l:List Ed,(∀e∈l,(0<=e.1/\e.1<1099511627776)/\0<=e.2.1/\e.2.1<1099511627776)->∃zs:List Ez,zs.map (·.1)=l
 | [],_=>⟨[],U⟩
 | e::l,h=>by
  obtain⟨zs,E⟩:=Qg2 l (λd hd=>h d (Ll _ hd));exact⟨⟨e,h e Lr⟩::zs,by rw[LO,E]⟩
abbrev QdT (x y:Ed):Prop:=x.1<y.1\/x.1=y.1/\x.2.1<=y.2.1
theorem Qaq (eg:∀args w,(callFunc g args).run sV w=.ok (.enter g args) w)(H:∀(x y:Ez) (W:O8),Calls sV g #[sT (zP x),sT (zP y)] W λe w'=>e=.returned (sS (ecf x y))/\∃q os',w'=grow (W.drewN q) os')
   {base:Nat} {v:O9} {l:List Ed} (h:w.ownsRow base 159 3 v l.length (l.flatMap Qz)) (E:l.length<=1099511627776) (I:∀e∈l,(0<=e.1/\e.1<1099511627776)/\0<=e.2.1/\e.2.1<1099511627776):
  QZ sV 190 [v,.func (.func g) #[] #[]] w λ_ w'=>xj (ob v) w w'/\∃l':List Ed,l'.Perm l/\l'.Pairwise QdT/\w'.ownsRow base 159 3 v l'.length (l'.flatMap Qz):=by
 obtain⟨zs,rfl⟩:=Qg2 l I;rw[Lj]at E;rw[Lj,Qll]at h;refine(QeS eg H h E).S λ_ _ ⟨J,l',O,S,T⟩=>⟨J,l'.map (·.1),O.map _,?_,by rw[Lj,Qll];exact T⟩;rw[MC];refine S.imp λ{x y} V=>?_;have:=(Qcj y x).1 V;exact this
theorem Qbx {base:Nat}{v:O9}{l:List Ed}(h:w.ownsRow base 159 3 v l.length (l.flatMap Qz))(E:l.length<=1099511627776)(H:∀e∈l,(0<=e.1/\e.1<1099511627776)/\0<=e.2.1/\e.2.1<1099511627776):
  QZ sV 263 [v] w λ_ w'=>xj (ob v) w w'/\∃l':List Ed,l'.Perm l/\l'.Pairwise QdT/\w'.ownsRow base 159 3 v l'.length (l'.flatMap Qz):=by
 refine Zt func263 ?_;refine Qq<|Qa<|Qx<|(Qaq (enters_of func309 od U) Qs4 h E H).S ?_;rintro r1 J I;refine xe ?_;exact⟨[],La,I⟩
theorem QhQ {base:Nat}{v:O9}{l:List Ed}(h:w.ownsRow base 159 3 v l.length (l.flatMap Qz))(E:l.length<=1099511627776)(H:∀e∈l,(0<=e.1/\e.1<1099511627776)/\0<=e.2.1/\e.2.1<1099511627776):
  QZ sV 190 [v,.func (.func 191) #[] #[]] w λ_ w'=>xj (ob v) w w'/\∃l':List Ed,l'.Perm l/\l'.Pairwise QdT/\w'.ownsRow base 159 3 v l'.length (l'.flatMap Qz):=
 Qaq (enters_of func191 od U) Qs5 h E H
def cmF (c:Zy)(l:List (LI)):LI:=l.zipIdx.filterMap λp=>if(UM c.ex c.cs p.1).2.2=true then some (p.2:Int)else none
theorem QlR {l:List (LI)}{k:Nat}(h:k<l.length):cmF c (l.take (k+1))=cmF c (l.take k)++(if(UM c.ex c.cs (l[k]'h)).2.2=true then[(k:Int)]else[]):=by
 unfold cmF;rw[Lo h,List.zipIdx_append,List.filterMap_append];have e:0+(l.take k).length=k:=by rw[LB];omega
 rw[e];simp only[List.zipIdx_cons,List.zipIdx_nil,List.filterMap_cons,List.filterMap_nil];by_cases E:(UM c.ex c.cs (l[k]'h)).2.2=true
 .rw[O1 E,O1 E]
 rw[O0 E,O0 E]
theorem Qpg (c:Zy)(l:List (LI)):(cmF c l).length<=l.length:=by
 unfold cmF;refine LJ (List.length_filterMap_le _ _) ?_;rw[List.length_zipIdx];exact Lu _
def Qhl (c:Zy):Bool:=match xz (auts c.co),xz (auts c.co++auts c.rq)with
 | some (pa,ps),some (_,ts)=>ts.all λt=>decide ((wrf c.rq (t.drop c.co.length) (enb pa (plx ps (t.take c.co.length)))).length<=1)
 | _,_=>false
def cmB (c:Zy):LI:=match xz (auts c.co++auts c.rq)with
 | some (sa,ts)=>cmF c (ts.map (·.take c.co.length))++[sa.st]
 | none=>[]
structure CmI (b2 base:Nat)(W:O8)(xa:O9)(st:Int)(xm vb ve:O9)(bad:LI)(es:List Ed):Prop where
 B:QP ↑W b2 66 [xa,sS st,xm,ve]
 b:Qp 3 base W vb bad
 e:W.ownsRow base 159 3 ve es.length (es.flatMap Qz)
 dj:Dj vb ve
 bd:∀e∈es,(0<=e.1/\e.1<1099511627776)/\0<=e.2.1/\e.2.1<1099511627776
theorem CmI.J {b2 base:Nat}{W W':O8}{xa:O9}{st:Int}{xm vb ve:O9}{bad:LI}{es:List Ed}(h:CmI b2 base W xa st xm vb ve bad es)(E:sW W W'):CmI b2 base W' xa st xm vb ve bad es :=
 ⟨h.B.J E,Ql h.b E,Ql h.e E,h.dj,h.bd⟩
theorem CmI.addB {base:Nat}{W:O8}{xa:O9}{st:Int}{xm E:O9}{bad bad':LI}{es:List Ed}(h:CmI b2 base W xa st xm vb ve bad es)(H:b2<base)(I:xj (ob vb) W W')(S:Qp 3 base W' E bad')(T:∀b∈ob E,b∈ob vb\/↑W<=b):CmI b2 base W' xa st xm E ve bad' es :=
 ⟨h.B.O I (QR h.b H),S,Qf h.e I (λb H V=>h.dj b V H),λb Y J=>(T b Y).elim (λO=>h.dj b O J) (λO=>ov (Q3 h.e b J)),h.bd⟩
theorem CmI.addE {base:Nat}{W W1:O8}{xa:O9}{st:Int}{xm H:O9}{bad:LI}{es:List Ed}{e:Ed}(h:CmI b2 base W xa st xm vb ve bad es)(J:b2<base)(Y:xj (ob ve) W W1)(O:W1.ownsRow base 159 3 H (es.length+1) (es.flatMap Qz++Qz e))(Z:∀b∈ob H,b∈ob ve\/↑W<=b)
  (S:xj [b2] W1 W') (hB:QP ↑W' b2 66 [xa,sS st,xm,H]) (he:(0<=e.1/\e.1<1099511627776)/\0<=e.2.1/\e.2.1<1099511627776):CmI b2 base W' xa st xm vb H bad (es++[e]):=by
 refine⟨hB,Qf (Qf h.b Y (λb J E=>h.dj b J E)) S (λb I E=>by have:=(Qg h.b b I).1;rw[Lc.1 E]at this;omega),?_,λb T ha=>(Z b ha).elim (λV=>h.dj b T V) (λV=>ov (Q3 h.b b T)),λd hd=>?_⟩
 .have h9:=Qf O S (λb I E=>by have:=((Qg O) b I).1;rw[Lc.1 E]at this;omega);rw[Ln,LC];simpa using h9
 rcases Lh.1 hd with hd|hd
 .exact h.bd d hd
 rw[Lc.1 hd];exact he
theorem CmI.stb {base:Nat}{xa:O9}{st:Int}{xm:O9}{bad:LI}{es:List Ed}:YL B (λW=>CmI b2 base W xa st xm vb ve bad es):=
 λW W' X h E H=>⟨YL.blk W W' X h.B E H,YL.row W W' X h.b E H,YL.row W W' X h.e E H,h.dj,h.bd⟩
theorem Qey {c:CL}(h0:ZG [] ↑w c)(kn:Kb w 4096)(ko:Yo c.Z=0)(Z:(spc c.Z).a.st<4096)(h1:Qhl c.Z=true):
  QZ sV 119 [c.val] w λr w'=>sW w w'/\∃xa xm xe vb,r=.tuple #[.agg #[xa,sS ((spc c.Z).a.st+1),xm,xe],vb,sS 0]/\Zj [xa,xm,xe]/\Qp 3 ↑w w' vb (cmB c.Z):=by
 refine QZ.of_G 20 func119 U ntmps119 results119 oe ?_;refine Zh<|QM om om<|Zg c.cells λb1 w1 pd hb1 kq=>QL XD λb2 w2 kr hb2 kt=>x Qh<|Qb ?_;have hO:=pd.I kr;have hl1:=kq.lt;have pf:=kt.lt;have pg:=kq.J kr;have ku:ZG [b2] ↑w2 c:=(h0.up (L':=[b2]) (λb H=>.inr (by rw[Lc.1 H];omega))).J hO;refine Zh<|QM om om<|QV pg U U<|Qx<|(Qel (h0.J hO) (kn.J hO)).S ?_;rintro r3 w3 ⟨go,vp,rfl,_,ph⟩;obtain⟨b,q,rfl,rfl,O,_,pj⟩:=ph ko;rw[ko];have hy:=hO.I go;have kv:Kk [b2] b ↑w3 q:=(pj [b2] (λx hx=>by rw[Lc.1 hx];exact pf)).2 ku;have hsp:=Qbw O.p O.s;have hst':q.s.a.st<4096:=by rw[hsp]at Z;exact Z
 have pm:cmB q.c.Z=cmF q.c.Z ((q.ts.map (·.2)).map (·.take q.c.Z.co.length))++[q.s.a.st]:=by unfold cmB;rw[O.s]
 have pn:∀t∈q.ts.map (·.2),(wrf q.c.Z.rq (t.drop q.c.Z.co.length) (enb q.p.a (plx (q.qs.map (·.2)) (t.take q.c.Z.co.length)))).length<=1:=λt ht=>by
  unfold Qhl at h1;rw[O.p,O.s]at h1;exact O5 (My.1 h1 t ht)
 have po:(spc q.c.Z).a.st=q.s.a.st:=by rw[hsp]
 rw[po,pm];refine Qa<|QS U U<|QS U U<|x Qh<|Qb<|Zh<|Zh<|QM om om<|Qa<|Zu U U<|xe<|Ue rfl<|YV ?_;refine Zh<|QM om om<|Qa<|Z7 U<|QN U<|Qm U kv.B U U<|QL [sS 0] λb6 w4 pp pu pw=>Qo<|Qw (j:=0) (u:=sS q.s.a.st) pw U U oe rfl λE pz kw=>xe ?_;have hP:sW w3 E:=pp.Q pz pu;have hn:=kv.J hP;have hz3:=go.size;have kx:=kw.lt;have p0:QP ↑E b2 66 XD:=(kt.J go).J hP;have hR:QP ↑E b6 3 [sS q.s.a.st]:=kw;have hst0:0<=q.s.a.st:=by
  have:=(JM (λa Y=>by
   rcases Lh.1 Y with Y|Y
   .exact Y3 (ZO O.ok).co a Y
   exact Y3 (ZO O.ok).rq a Y) O.s).1.st
  omega
 refine Zh<|Zh<|QM om om<|Xe hR U U<|x (YI U U)<|xe<|QpA U (λkz=>O3 (show q.s.a.st≥4096 from kz) oa) (λkz=>?_);refine YV ?_;have gp:sW E { E with drawn:=E.drawn+1 }:=xj.X _ _
 refine Zh<|jN (sW E) [oE 0,oE 1,oE 2,oE 3,oE 4,oE 6,oE 7,oE 8,oE 9,oE 10,oE 11,oE 12,oE 14,oE 15,oE 16,oE 17,oE 18,oF 5,oF 13,oF 19,oE 20,oF 21] mixed om om od gp ?_;refine p QA<|p (Xj U)<|p (QF U)<|p (QF U)<|pq (λ_ T=>Qk (hn.B.J T) U U)<|pq (λ_ T=>Qk (hR.J T) U U)<|p (λ_=>X2 U U ⟨oa,oa⟩)<|p QA<|p (Xj U)<|p (QF U)<|p (QF U) <|
  pq (λ_ T=>Qk (hn.B.J T) U U)<|p QA<|p (Xj U)<|p (QF U)<|p (QF U)<|pq (λ_ T=>Qk (hn.B.J T) U U)<|pk<|xg<|(ZU (hn.s.al.J gp)).S ?_
 rintro xa w6 ⟨p1,gq⟩;have gr:=gp.I p1;refine⟨gr,?_⟩;refine pk<|xg<|(ZU (hn.s.mr.J gr)).S ?_;rintro xm w7 ⟨p2,gs⟩;have hS:=gr.I p2;refine⟨hS,?_⟩;refine pk<|xg<|(Ka (hn.s.ed.J hS)).S ?_;rintro hT w8 ⟨p3,hU⟩;have gt:=hS.I p3;refine⟨gt,?_⟩;refine p (λ_=>Qv ⟨xS gq,U,xS gs,xS hU,La⟩)<|pkk<|Ux [xa,sS (q.s.a.st+1),xm,hT] (p0.J gt) ⟨Qr gq,U,Qr gs,Qr hU,La⟩ λw9 k0 p4=>pe ?_;have k4:xj [b2] E w9:=gt.any.V k0;have hz7:=hS.size;have hA:b2<E.heap.size:=oa
 have k5:=hn.st k4;have hX:Zj [xa,xm]:=⟨Qr gq,Qr gs,La⟩;have p5:w9.ownsRow ↑E 159 3 hT q.s.a.ed.length (q.s.a.ed.flatMap Qz):=Qf (Zv hU oa) k0 (λb H I=>by have:=(Qg hU b H).1;rw[Lc.1 I]at this;omega);have hz:=ZO O.ok;have hB:∀a∈auts q.c.Z.co++auts q.c.Z.rq,Zo a:=λa Y=>by
  rcases Lh.1 Y with Y|Y
  .exact Y3 hz.co a Y
  exact Y3 hz.rq a Y
 have gu:=(JM hB O.s).1.okay hB;have p6:∀e∈q.s.a.ed,(0<=e.1/\e.1<1099511627776)/\0<=e.2.1/\e.2.1<1099511627776:=λe he=>by
  have h1:=gu.ed e he;have h2:=gu.al _ h1.2.2.1;omega
 have p7:CmI b2 ↑E w9 xa (q.s.a.st+1) xm ZD hT [] q.s.a.ed:=⟨p4,QI _ _ _ _,p5,λb H=>(by cases H),p6⟩;have k6:=zZ hB O.s;have k7:=k6.1;have p8:=k6.2;simp only[]at k7 p8;have hckc:=hz.c8;have hY:q.c.Z.co.length=q.c.co.length:=Lj ..;have p9:q.c.Z.rq.length=q.c.rq.length:=Lj ..;have hcr:=hz.cr;have qc:(auts q.c.Z.co++auts q.c.Z.rq).length=q.c.co.length+q.c.rq.length:=by rw[Ln];unfold auts;rw[Lj,Lj,hY,p9]
 refine Zh<|Zh<|QM om om<|Qa<|Z7 U<|Qm U k5.B U U<|QE k5.ts.arr U<|Qa<|xe<|Zd ((q.ts.map (·.2)).map (·.take q.c.Z.co.length)) λtcs gv=>?_;rw[gv];have htcl:tcs.length=q.ts.length:=by rw[<-gv,Lj,Lj]
 have hTn:q.ts.length<=4096:=by have h2:=(JM hB O.s).1.st;have h3:(q.ts.map (·.2)).length=q.ts.length:=Lj ..;omega
 refine Z5<|zn (α:=Nat×O9×O9×List Ed) [(3,3),(7,16),(60,109)] (λz=>[(3,z.2.1),(60,sS z.1)])
  (λz ds W'=>z.1<=q.ts.length/\xj [b2] E W'/\qw ↑E ↑W' ds W'/\CmI b2 ↑E W' xa (q.s.a.st+1) xm z.2.1 z.2.2.1 (cmF q.c.Z (tcs.take z.1)) z.2.2.2/\z.2.2.2.length<=131072+z.1)
  (λz=>q.ts.length - z.1) om (0,ZD,hT,q.s.a.ed) oB ⟨Lp _,k4,⟨MY,λD hD=>by cases hD⟩,p7,gu.ed_le⟩ ?_
 rintro⟨k,vb,ve,es⟩ g ds h4 ⟨hk,hC,k8,J,qf⟩;simp only[]at hk J qf;have hz10:=hC.size;have hZ:=Qpg q.c.Z (tcs.take k);rw[LB]at hZ;refine Zh<|QM om om<|Ye U U<|xe<|Zh<|Qbl U (λk9=>?_) (λk9=>?_)
 .refine VU ?_;rw[Lt oa]at J hZ;refine Zd (cmF q.c.Z tcs) λbad ga=>?_;rw[ga]at J hZ;have gw:b2∉ob ve:=QR J.e hA;have ql:b2∉ob vb:=QR J.b hA;have gb:b6∉[b2]:=ol
  have qo:b6∉ob ve:=QR J.e kx;have qr:b6∉ob vb:=QR J.b kx;refine Zh<|QM om om<|Qm U J.B U U<|Qx<|(QhQ J.e oa J.bd).S ?_;rintro r11 h5 ⟨ho,hi,hp,_,ho11⟩;refine xe ?_;have gc:=J.B.O ho gw;have gx:=(hR.O hC gb).O ho qo;have gy:=Qf J.b ho (λb H I=>J.dj b H I);have hz11:=ho.size;have hs:=Qg J.e;have hE:=Qg gy;have q0:qw ↑E ↑h4 ds h5:=k8.O ho (Go.Lg.QQ J.e);refine Zh<|jN (λw'=>xj (b2::ob vb) h5 w'/\QP ↑w' b2 66 [xa,sS (q.s.a.st+1),xm,ve]/\QP ↑w' b6 3 [sS q.s.a.st]) [oE 0,oE 1,oE 2,oF 3,oF 4,oF 5,oE 6,oE 7] mixed om om od ⟨xj.X _ _,gc.J (xj.X _ _),gx.J (xj.X _ _)⟩ ?_;refine pq (λ_ T=>ZN T.2.1 U U)<|p QA<|pq (λ_ T=>Qk T.2.2 U U)<|pk<|Zb [[sS q.s.a.st]] λb116 gz g0 hb116 q1=>?_;have h6:=(xj.X [] h5).I g0;have hz12:=h6.size;refine⟨⟨h6.any,gc.J h6,gx.J h6⟩,?_⟩;refine pk<|Q9 (m:=1) (news:=[sS q.s.a.st]) (L:=[]) (Ql gy h6) U U U (q1.at oe) oq oa oa λma hG mf gg hn13=>?_;have gh:xj (ob vb) h5 hG:=h6.any.V gg;have mg:=gc.O gh ql;have mh:=gx.O gh qr;refine⟨⟨gh.S (λb H=>Ll _ H),mg,mh⟩,?_⟩;refine pk<|Ux [xa,sS (q.s.a.st+1),xm,ve] mg ⟨hX.1,U,hX.2.1,Qr J.e,La⟩ λhg S mj=>?_;have g4:xj (b2::ob vb) h5 hg:=(gh.S (λb H=>Ll _ H)).V (S.S oe);refine⟨⟨g4,mj,mh.O S gb⟩,?_⟩;refine p ZL<|p ZL<|pe ?_;have hv:qw ↑E ↑h4 ds hg:=q0.O g4 (λb H=>by
   rcases Lk.1 H with rfl|H
   .exact gc.cells
   exact Go.Lg.QQ gy b H)
  have q2:b2∉ds:=λI=>ov (hv.2 b2 I).1
  have hH:sW w hg:=(((hy.I hP).Q hC oa).G ho (λb H=>.inr (oy (hs b H).1 hy.size))).G g4 (λb H=>.inr (by
   rcases Lk.1 H with rfl|H
   .omega
   have:=(hE b H).1;have:=hy.size;omega))
  refine VT ⟨λD hD=>(hv.2 D hD).2.2,hv.1,[.agg #[xa,sS (q.s.a.st+1),xm,ve],ma,sS 0],λW' g5=>?_⟩;refine⟨⟨YO (mj.O g5 q2),U,U,La⟩,hH.G g5 (λD hD=>.inr (oy (hv.2 D hD).1 hy.size)),xa,xm,ve,ma,U,⟨hX.1,hX.2.1,Qr J.e,La⟩,?_⟩;have h9:=Qp.snoc (Qf mf S (λb H I=>by have:=(Qg mf b H).1;rw[Lc.1 I]at this;omega));have mo:=Qf h9 g5 (λb H I=>by
   obtain⟨o,g1,g2⟩:=Go.Lg.QQ h9 b H;rw[(hv.2 b I).2.2]at g1;cases g1
   cases g2)
  rw[<-ga]at mo;exact Zv mo (ov hy.size)
 have hI:k<q.ts.length:=by have h62:(k:Int)<(q.ts.length:Int):=k9;omega
 have mq:k<tcs.length:=oa
 have hh:=QlR (c:=q.c.Z) mq;have q3:tcs[k]'mq=(q.ts[k]'hI).2.take q.c.Z.co.length:=by subst gv;simp
 have gi:=Lm hI;have hJ:=k7 _ (LK (f:=(·.2)) gi);have hw:=pn _ (LK (f:=(·.2)) gi);rw[q3]at hh;refine Zd (cmF q.c.Z (tcs.take k)) λbad ga=>?_;rw[ga]at J hZ hh;refine Zd (ob vb++ob ve) λav g6=>?_;have hE:=Qg J.b;have hs:=Qg J.e;have q4:∀x∈av,↑E<=x/\x<h4.heap.size:=λx hx=>by
  rw[<-g6]at hx;exact(Lh.1 hx).elim (hE x) (hs x)
 have q5:Kk (b2::av) b ↑E q:=hn.up (λx hx=>by
  rcases Lk.1 hx with rfl|hx
  .exact .inl Lr
  exact .inr (q4 x hx).1)
 have gj:Kk (b2::av) b ↑h4 q:=q5.st (hC.S oe);refine Zd (cmF q.c.Z (tcs.take (k+1))) λg7 ms=>?_;rw[ms]at hh;refine YV<|QhF (α:=O9×O9×List Ed) [(3,3),(7,16),(61,109)] (λz=>[(3,z.1),(60,sS k)]) (λz h7 W'=>xj [b2] E W'/\qw ↑E ↑W' h7 W'/\CmI b2 ↑E W' xa (q.s.a.st+1) xm z.1 z.2.1 g7 z.2.2/\z.2.2.length<=131072+(k+1)) om ?_ ?_
 rotate_left
 .rintro⟨gk,hq,hi⟩ g h7 W ⟨za,zb,zv,z1⟩;refine QM om om<|QH U U<|Qa<|xe ?_;exact⟨(k+1,gk,hq,hi),og,oB,hI,za,zb,by simp only[];rw[ms];exact zv,z1⟩
 refine Z5<|Zh<|QM om om<|Qa<|xp (g:=YT) Uu gj.ts.arr U U hI λa63 mt=>?_;refine Zd (q.ts[k]'hI) λt ht=>?_;rw[ht]at mt gi hJ hw hh;have htl:t.2.length=q.c.co.length+q.c.rq.length:=by rw[hJ.1,qc]
 refine x (Qy mt U)<|QL [sS 0] λb7 h5 ho z2 z3=>Qo<|Qw (j:=0) (u:=sS k) z3 U U oe rfl λgz g0 z5=>Qb ?_;have g8:sW h4 gz:=ho.Q g0 z2;have hB712':QP ↑gz b7 3 [sS k]:=z5;refine Zh<|QM om om<|Qa<|Qa<|Qx<|(Qc1 (gj.J g8) ((gj.ts.each t gi).J g8) oa).S ?_;rintro r13 hG ⟨gg,v9,mu,rfl,g9,mv⟩;refine Qa<|QS U U<|QS U U<|x Qh<|Qb ?_;have hK:=g8.I gg;have mw:=gj.J hK;rw[hY]at hw hh;refine Zd (t.2.take q.c.co.length) λtc gl=>?_;refine Zd (t.2.drop q.c.co.length) λtr my=>?_;rw[gl]at g9 hw hh;rw[my]at mv hw;have htcl2:tc.length=q.c.co.length:=by rw[<-gl,LB];omega
 have mz:∀x∈tc,0<=x/\x<4096:=λx hx=>(hJ.bd (m:=4096) (λa Y=>(hB a Y).st1)) x (L8 (by rw[gl];exact hx));have hVc:Vt (auts q.c.Z.co) tc:=by
  have h1:=hJ.take;rw[show(auts q.c.Z.co).length=q.c.co.length by unfold auts;rw[Lj];exact hY,gl]at h1;exact h1
 have hVr:Vt (auts q.c.Z.rq) tr:=by
  have h1:=hJ.drop;rw[show(auts q.c.Z.co).length=q.c.co.length by unfold auts;rw[Lj];exact hY,my]at h1;exact h1
 have gm:Kk [] b ↑hG q:=mw.up oe;have hvo:=zz gm.k1 gm.k2 gm.k3 (g9.up (L':=[]) oe) (by rw[O.ex,O.cs];exact hz.cd) hVc.tpOk;rw[O.ex,O.cs]at hvo;refine Zd (UM q.c.Z.ex q.c.Z.cs tc) λV hV=>?_;rw[hV]at hvo hh;have ka:=J.J hK;have hz13:=hK.size;have m2:=hB712'.J gg;refine QhF (α:=O9) [(3,3),(11,14),(71,86)] (λz=>[(3,z)]) (λz h7 W=>h7=ds/\xj (ob vb) hG W/\Qp 3 ↑E W z g7/\∀x∈ob z,x∈ob vb\/↑hG<=x) om ?_ ?_
 .refine Zh<|QM om om<|Qa<|Z7 U<|QN U<|x (Q7 (us:=[q.vs,q.vx,q.vk]) gm.B U U U)<|Qa<|Qx<|hvo.S ?_;rintro r14 hg ⟨S,rfl⟩;refine Qa<|QS U U<|QS U U<|QS U U<|QS U U<|x Qh<|x Qh<|x Qh<|Qb<|Zh<|QM om om<|Qa<|xe ?_;have m3:=Ql ka.b S;refine UH U (λkb=>?_) (λkb=>?_)
  .rw[O1 kb]at hh;refine QM om om<|Qa<|Xe (m2.J S) U U<|Qo<|Zb [[sS k]] λb85 y1 hj hb85 hB85=>?_;have zy1:=hj.size;have hz14:=S.size;refine Qo<|Q9 (m:=1) (news:=[sS k]) (L:=[]) (Ql m3 hj) U U U (hB85.at oe) oq oa oa λz y2 gn hL kc=>Qb<|⟨z,⟨rfl,La⟩,rfl,(S.I hj).any.V hL,by rw[hh];exact Qp.snoc gn,λx hx=>(kc x hx).imp id (λh=>oa)⟩
  rw[O0 (by rw[kb];decide),LT]at hh;refine YV ?_;exact⟨vb,Lb,U,S.any,by rw[hh];exact m3,λx hx=>.inl hx⟩
 rintro gk g h7 hg ⟨rfl,S,hbO,hbn⟩;have hI14:=ka.addB hA S hbO hbn;have hz14:=S.size;have ke:∀x∈ob vb,x∈b2::av:=λx hx=>Ll _ (by rw[<-g6];exact Lh.2 (.inl hx));have m4:∀x∈b2::ob ve,x∈b2::av:=λx hx=>by
  rcases Lk.1 hx with rfl|hx
  .exact Lr
  exact Ll _ (by rw[<-g6];exact Lh.2 (.inr hx))
 have kf:=mw.st (S.S ke);have hI9a:=g9.st (S.S ke);have m5:=mv.st (S.S ke);have hH:xj [b2] E hg:=(hC.I hK.any).G S (λx hx=>.inr (hE x hx).1);have hs014:sW w hg:=(hy.I hP).Q hH oa;have hn7b:b7∉ob vb:=λI=>ov (hE b7 I).2
 have gb:b6∉[b2]:=ol
 have hv:qw ↑E ↑h4 h7 hg:=(k8.J hK).O S (Go.Lg.QQ ka.b);refine Zh<|jN (sW hg) [oE 0,oE 1,oE 2,oE 3,oE 4,oF 5,oE 6,oE 7] mixed om om od (xj.X _ _) ?_;refine p QA<|p (Xj U)<|p (QF U)<|pq (λ_ T=>Qk (kf.B.J T) U U)<|p QA<|pk<|xg<|(Qcw (hI9a.J (xj.X _ _)) ((kn.J hs014).J (xj.X _ _)) mz oa).S ?_;rintro r15 w15 ⟨rfl,hs15⟩;have kg:=(xj.X [] hg).I hs15;refine⟨kg,?_⟩;have m6:(match xt q.mm (Vp tc)with|some u=>u|none=>sS 0)=sS (plx (q.qs.map (·.2)) tc):=by
  rw[O.m tc htcl2 (λx hx=>(mz x hx).1)];unfold plx;by_cases I:tc∈q.qs.map (·.2)
  .rw[O1 I,O1 I]
  rw[O0 I,O0 I]
 have hM:=Qdj O.ok O.p;have m7:=Qj6 hM.2.2.1 tc;refine Zd (plx (q.qs.map (·.2)) tc) λpi hpi=>?_;rw[hpi]at m6 hw m7;rw[<-hM.2.1]at m7;have hckp:cks q.p.a pi=0:=by
  unfold cks;rw[O0 (by rw[(Z0 q.p.a).2 hM.1];decide),O0 oa]
 refine pq (λ_ T=>(JO (k:=Vp tc) (kf.m.J T) U U).I (O2 (λv=>Result.ok (Next.value v) _) m6))<|p ZL<|pe ?_;refine Zh<|QM om om<|Qa<|Qa<|Qa<|Qx<|(zp (b:=b) (st:=pi) (vr:=mu) m5.cells).S ?_;rintro r16 h8 ⟨hs16,c1,c2,c3,rfl,hc1,ku,hc3,hR1,hR2,hR3⟩;refine xe ?_;have hr:=kg.I hs16;have hz1415:=kg.size;have hz16:=hr.size;have kh:=hI14.J hr;have hD16:=hv.J hr;have hB716:=(m2.O S hn7b).J hr;have hB616:=(hR.O hH gb).J hr;have hs516:xj [b2] E h8:=hH.I hr.any;refine Zd (wrf q.c.Z.rq tr (enb q.p.a pi)) λfl ki=>?_;rw[ki]at hw;have kj:∀x∈b2::ob ve,x<hg.heap.size:=λx hx=>by
  rcases Lk.1 hx with rfl|hx
  .omega
  have:=(hs x hx).2;omega
 have hSt16:Kk (b2::ob ve) b ↑h8 q:=(kf.J hr).up (λx hx=>.inl (m4 x hx));have hIr16:QG (b2::ob ve) ↑h8 mu tr:=(m5.J hr).up (λx hx=>.inl (m4 x hx));have hEv:∀p∈fl,0<=p.1/\p.1<32:=λp hp=>by
  rw[<-ki]at hp;have g1:=(zY.1 hp).1;unfold enb at g1;obtain⟨e,he,g2⟩:=Ly.1 g1;have g3:=hM.1.al _ (hM.1.ed e (ZY he).1).2.2.1;rw[g2]at g3;exact g3
 have hn7L:b7∉b2::ob ve:=λI=>by
  rcases Lk.1 I with g1|g1
  .omega
  have:=(hs b7 g1).2;omega
 have hn6L:b6∉b2::ob ve:=λI=>by
  rcases Lk.1 I with g1|g1
  .omega
  have:=(hs b6 g1).1;omega
 have gw:b2∉ob ve:=QR J.e hA;have hb016:E.heap.size<=h8.heap.size:=oa
 have hel2:es.length+1<=1099511627776:=oa
 have hkb2:(0:Int)<=(k:Int)/\(k:Int)<1099511627776:=oa
 refine Z5<|Qev (α:={ x:Int×Int // x∈fl }) (b2::ob ve) oa (capt:=[sP c1,sP c2,sP c3]) U (encs:=λx=>[sS x.1.1,sS x.1.2]) oh (λ_=>U)
  (UT hR1 hR2 hR3 (λI=>ov (kj _ I)) (λI=>ov (kj _ I)) (λx hx=>ov (kj _ hx)) hSt16 hIr16 (λx hx=>hz.rq x.it (LK hx)) hVr hckp U ki)
  (λpre W=>∃hq hi,xj (b2::ob ve) h8 W/\CmI b2 ↑E W xa (q.s.a.st+1) xm gk hq g7 hi/\(pre=[]->hq=ve/\hi=es)/\hi.length<=es.length+pre.length)
  (λpre=>YL.ex λhq=>YL.ex λhi=>(YL.O (Lu _)).and (CmI.stb.and ((YL.pure _).and (YL.pure _))))
  (λ_ _ _=>False) (λ_ _=>YL.pure _)
  ⟨ve,es,xj.Y _ _,kh,λ_=>⟨U,U⟩,Lu _⟩
  (λf x f' W=>f'=upd (upd (upd f 98 (sS x.1.1)) 99 (sS x.1.2)) 16 (sS x.1.1)) (λx f'=>YL.pure _) ?_ ?_ ?_ ?_
 .rintro l pre ⟨⟨e,i⟩,he⟩ W hW;refine QM om om<|Qb<|⟨U,Vl.refl _ _ _,Lg.Xp.refl _ _,hW,U⟩
 .rintro l pre ⟨⟨e,i⟩,he⟩ f' W ⟨hq,hi,Z,hl,m8,hlen⟩ rfl hN;have m9:pre=[]:=LA (Nat.lt_one_iff.1 (Mw hN hw));rw[((m8 m9).1),((m8 m9).2)]at hl;have pa:=Z.size;have hee:=hEv _ he;refine Z5<|QM om om<|Qm U hl.B U U<|Xe (hB716.O Z hn7L) U U<|Qa<|Xe (hB616.O Z hn6L) U U<|x (Qv ⟨U,U,U,La⟩)<|Qo<|Zb [Qz ((k:Int),e,q.s.a.st)] λb106 y1 hj hb106 hB106=>?_;have zy1:=hj.size;refine Qo<|Q9 (m:=1) (news:=Qz ((k:Int),e,q.s.a.st)) (L:=[]) (Ql hl.e hj) U U U (hB106.at oe) (by simp[Qz,Value.oneCell']) hel2 oa λu y2 gn hL kc=>?_;refine QN U<|Qo<|Qw (u:=u) ((hl.B.J hj).O hL gw) U U oe (Qr gn) λy3 pc hB3=>xe ?_;have kk:xj (b2::ob ve) W y3:=(hj.any.V (hL.S λx hx=>Ll _ hx)).V (pc.S oe);have hnw:∀x∈ob u,x∈ob ve\/↑W<=x:=λx hx=>(kc x hx).imp id (λh=>oa);refine⟨Vl.O kk pa (λx hx=>⟨.inl hx,?_⟩),Lg.Xp.O kk,u,es++[((k:Int),e,q.s.a.st)],Z.V kk,hl.addE hA (hj.any.V hL) gn hnw pc hB3 ⟨hkb2,og⟩,λh=>O3 h oe,by simp only[oN,oP];omega⟩;rcases Lk.1 hx with rfl|hx
  .exact hl.B.cells
  exact Go.Lg.QQ hl.e x hx
 .rintro D xs W hD hxs ⟨hq,hi,Z,hl,_,hlen⟩ hdD;have hxl:xs.length=fl.length:=by have g1:=O2 oR hxs;rw[Lj]at g1;exact g1
  have pa:=Z.size;refine⟨(gk,hq,hi),oB,hs516.G Z (λx hx=>?_),((hD16.O Z (λx hx=>?_)).up oa).cons oa (show ↑h8<=D from hD) hdD,hl,og⟩
  .rcases Lk.1 hx with rfl|hx
   .exact .inl Lr
   exact .inr (hs x hx).1
  rcases Lk.1 hx with rfl|hx
  .exact kh.B.cells
  exact Go.Lg.QQ kh.e x hx
 rintro D e pre W hD hSp hF;exact hF.elim
theorem UQ (m:Nat)(T:m<256)(w:O8):QZ sV 23 [.int .u8 m] w λr w'=>sW w w'/\Qp 3 ↑w w' r (setK m 5):=by
 refine Zt func23 ?_;refine Qc<|Qb<|Qc<|Qb<|Qd<|Qc<|Qb<|Q2 (α:=Nat×O9) [(3,17)] (λz=>[(3,z.2),(4,sS z.1)]) (λz w'=>z.1<=5/\sW w w'/\Qp 3 ↑w w' z.2 (setK m z.1)) (λz=>5 - z.1) (0,nS) oB
  ⟨Lp _,xj.Y _ _,QI _ _ _ _⟩ ?_
 rintro⟨k,v⟩ g w1 ⟨hk,H,E⟩;simp only[]at hk E;have hh:=XH m k;have hi:=H.size;refine Qd<|Qj<|Ye U U<|xe<|ZI rfl (λV=>?_) (λV=>?_)
 .refine Qt<|Qj<|Qb ?_;have Y:k=5:=oa
  rw[Y]at E;exact Qi ⟨[v],Lb,H,E⟩
 have O:k<5:=oa
 have Z:m / 2 ^ k<256:=Nat.lt_of_le_of_lt (Nat.div_le_self _ _) T;have I:=qD m k;refine Qe<|Qd<|Qn<|Qj<|Qa<|x (Qdg (n:=k) U U (by show k<=8;omega))<|x (yN (a:=m / 2 ^ k) (b:=1) (O2 (Value.int .u8) (Qby m k)) U Z oh)<|x (QW U U)<|xe<|ZI rfl (λS=>?_) (λS=>?_)
 .rw[O0 (λe=>S (by rw[e];rfl))]at I;refine Qe<|Qq<|Qa<|QH U U<|Qb<|⟨(k+1,v),og,oB,O,H,by simp only[];rw[I];exact E⟩
 rw[O1 oa]at I;refine Qq<|Qa<|Qa<|Qo<|Zb [[sS k]] λhj w2 J hl ha=>?_;have hc:=Ql E J;have hn:=J.size;refine Qo<|Q9 (news:=[sS k]) (L:=[]) hc U U U (ha.at oe) oq oa oa λv3 w3 he hg ho =>
  Qb<|Qq<|Qa<|QH U U<|Qb<|⟨(k+1,v3),og,oB,O,(H.I J).G hg (λb hb=>.inr ((Qg E) b hb).1),?_⟩
 simp only[];rw[I];exact Qp.snoc he
section
variable {pS:String}
theorem Qqy {e bys:Nat}[h:Sl P t e 1 bys z][he:Ik P e .u8][hd:St P E]{x:xd}(H:QP ↑w b T [.int .u8 (n:Int)])(V:n<256)(hx:ev f x=sL b 1 cap):
  sR P f w d (.convert t E x) ty pS af gd (.string ⟨#[UInt8.ofNat n]⟩):=by
 unfold sR
 refine ya hx ?_;refine run_convert_bytes_back (P:=P) w t E e ⟨b,0,none⟩ cap [UInt8.ofNat n] h.u he.u hd.u (λj I=>?_);have J:j=0:=by simp at I;omega
 subst J;rw[JT];have O:(⟨b,0,none⟩:Addr).add 0=⟨b,0,none⟩:=rfl;rw[O,H.cell];have S:(UInt8.ofNat n).toNat=n:=by simp[UInt8.toNat_ofNat'];omega
 simp[S]
end
theorem QdM (e:Kf):∀u∈Zs e,u.oneCell'=true:=by
 intro y E;simp only[Zs,oM,oL,or_false]at E;rcases E with rfl|rfl|rfl|rfl|rfl <;> rfl
theorem Qb9 {q:IV}(H:q.p.va.oneCell'=true)(I:q.p.vm.oneCell'=true)(J:q.p.ve.oneCell'=true):∀u∈QK q,u.oneCell'=true:=by
 intro y E;simp only[QK,oM,oL,or_false]at E;rcases E with rfl|rfl|rfl|rfl|rfl
 .rfl
 .exact H
 .rfl
 .exact I
 exact J
theorem jc {base:Nat}{H:xI}{q:IV}(h:∀L:LN,(∀b∈L,b<N)->ZE L H q.p.va q.p.vm q.p.ve q.p.a)(I:base<=N)(J:∀b∈av,b<N):∀t∈Qik q,Yl base av H t.1 t.2.1 t.2.2.1 t.2.2.2:=by
 intro t O;simp only[oM,oL,or_false]at O;rcases O with rfl|rfl|rfl
 .exact Yl.of_lt (λL E=>(h L E).al) I J
 .exact Yl.of_lt (λL E=>(h L E).mr) I J
 exact Yl.of_lt (λL E=>(h L E).ed) I J
structure zT (base:Nat)(w:O8)(vc va:O9)(co:List IV)(al:LI):Prop where
 c:w.ownsRow base 98 5 vc co.length (co.flatMap QK)
 a:Qp 3 base w va al
 dj:Dj vc va
 each:∀q∈co,∀t∈Qik q,Yl base (ob vc++ob va) ↑w t.1 t.2.1 t.2.2.1 t.2.2.2
section
variable {base:Nat}{vc vc' va':O9}{co:List IV}
theorem zT.nil:zT base w (nS) (nS) [] []:=⟨QI _ _ _ _,QI _ _ _ _,Dj.nil _,λq E=>by cases E⟩
theorem zT.J (h:zT base w vc va co al)(E:sW w w'):zT base w' vc va co al:=⟨Ql h.c E,Ql h.a E,h.dj,λq H t I=>(h.each q H t I).J E⟩
theorem zT.low {X:LN}(h:zT base w vc va co al)(E:xj X w w')(H:∀b∈X,b<base):zT base w' vc va co al :=
 ⟨Qf h.c E (λb I J=>oy (Qg h.c b I).1 (H b J)),Qf h.a E (λb I J=>oy (Qg h.a b I).1 (H b J)),h.dj,λq O t S=>(h.each q O t S).low E H⟩
theorem zT.avlt (h:zT base w vc va co al):∀b∈ob vc++ob va,b<w.heap.size:=λb E=>(Lh.1 E).elim (Q3 h.c b) (Q3 h.a b)
theorem zT.setC {q:IV}(h:zT base w vc va co al)(Y:∀t∈Qik q,Yl base (ob vc++ob va) ↑w t.1 t.2.1 t.2.2.1 t.2.2.2)(Z:w'.ownsRow base 98 5 vc' (co.length+1) (co.flatMap QK++QK q))
  (H:xj (ob vc) w w') (I:∀b∈ob vc',b∈ob vc\/↑w<=b):zT base w' vc' va (co++[q]) al:=by
 have J:xj (ob vc++ob va) w w':=H.S (λb E=>Lh.2 (.inl E));have O:∀b∈ob vc'++ob va,b∈ob vc++ob va\/↑w<=b:=λb E=>by
  rcases Lh.1 E with E|E
  .exact(I b E).imp (λh=>Lh.2 (.inl h)) id
  exact .inl (Lh.2 (.inr E))
 refine⟨?_,Qf h.a H (λb E ha=>h.dj b ha E),λb E S=>?_,λd hd t T=>?_⟩
 .rw[Ln,LC];simpa using Z
 .rcases I b E with V|V
  .exact h.dj b V S
  have:=Q3 h.a b S;omega
 rcases Lh.1 hd with hd|hd
 .exact(h.each d hd t T).app J O
 simp only[oJ]at hd;subst hd;exact(Y t T).app J O
theorem zT.setA {I:LI}(h:zT base w vc va co al)(T:Qp 3 base w' va' I)(J:xj (ob va) w w')(O:∀b∈ob va',b∈ob va\/↑w<=b):zT base w' vc va' co I:=by
 have V:xj (ob vc++ob va) w w':=J.S (λb E=>Lh.2 (.inr E));have Y:∀b∈ob vc++ob va',b∈ob vc++ob va\/↑w<=b:=λb E=>by
  rcases Lh.1 E with E|E
  .exact .inl (Lh.2 (.inl E))
  exact(O b E).imp (λh=>Lh.2 (.inr h)) id
 refine⟨Qf h.c J (λb E H=>h.dj b E H),T,λb E H=>?_,λd hd t Z=>(h.each d hd t Z).app V Y⟩;rcases O b H with S|S
 .exact h.dj b E S
 have:=Q3 h.c b E;omega
theorem zT.itms (h:zT base w vc va co al)(J:co.length<=1099511627776)(O:∀q∈co,JE q.nm)(H:∀b∈L,b<base):XX L ↑w vc co :=
 ⟨QC h.c J (λb E hbL=>oy (Qg h.c b E).1 (H b hbL)),λq I=>⟨h.each q I (q.p.va,q.p.a.al.length,1,q.p.a.al.map (.int .i64)) oe L (λb E=>.inl (H b E)),h.each q I (q.p.vm,q.p.a.mr.length,1,q.p.a.mr.map (.int .i64)) oe L (λb E=>.inl (H b E)),h.each q I (q.p.ve,q.p.a.ed.length,3,q.p.a.ed.flatMap Qz) oe L (λb E=>.inl (H b E))⟩,O⟩
end
theorem XW (ns:LN):(bys ns).length=ns.length:=by rw[bys,Lj]
def grN (ns:LN)(o:Nat):LN:=(ns.drop o).take 27
theorem Qk5 {o:Nat}(h:o+27<=ns.length):(grN ns o).length=27:=by unfold grN;simp;omega
theorem QpX {o:Nat}(h:∀n∈ns,n<256):∀n∈grN ns o,n<256:=Qpj h o 27
theorem Qmd (ns:LN)(n:Nat):(bys ns).set 0 (.int .u8 (n:Int))=bys (ns.set 0 n):=by
 unfold bys;rw[NT]
theorem Qnp (h:∀m∈ns,m<256)(E:n<256):∀m∈ns.set 0 n,m<256:=λm H=>by
 rcases M1 H with I|rfl
 .exact h m I
 exact E
theorem QjN (h:0<ns.length):(ns.set 0 n).getD 0 0=n:=by simp[oQ,h]
structure GdA (a:QU):Prop where
 ok:Zo a
 p:0<a.st
 s:a.st<=3
 c:∃a0:QU,Zo a0/\0<a0.st/\a=Xg a0
theorem Qei (H:Zo a)(h:0<a.st):0<(Xg a).st:=by
 show 0<((xA a).length:Int);have E:(0:Int)∈xA a:=by
  have key:∀(f i:Nat) (out:LI),(0:Int)∈out->(0:Int)∈fdL a f i out:=by
   intro f;induction f with
   | zero=>intro i out h;exact h
   | succ f ih =>
    intro i out h;rw[fdL];split
    .exact ih _ _ (Qcg _ _ _ h)
    exact h
  refine key _ _ _ ?_;unfold fd0;rw[O1 h];simp
 have:=List.length_pos_of_mem E;omega
theorem GdA.of {E:QU}(H:Zo E)(I:0<E.st)(S:E.st<=((1+n % 5:Nat):Int))(O:a=Xg E)(T:n<3):GdA a:=by
 have J:=Qcv H;subst O;exact⟨J.1,Qei H I,ov J.2.2,E,H,I,U⟩
def nmI (c k:Nat):ByteArray:=⟨#[UInt8.ofNat c]⟩++⟨#[UInt8.ofNat (48+k)]⟩
theorem qP (c k:Nat):JE (nmI c k):=by
 show(ByteArray.mk _++ByteArray.mk _).size<=_;rw[ByteArray.size_append];show 1+1<=_;omega
open Go.RowKit
section
variable {all:xK}{C J:xH}
end
end Go.Lg
namespace Go.Proofs
open Go.Proofs.Tryz
open Go.Shelf
def Tryz.sortRm_ren:Go.Shelf.Ren:=⟨λ|6=>234|15=>123|14=>273|28=>208|29=>209|20=>311|21=>312|22=>313|23=>314|24=>315|25=>316|26=>317|27=>318|46=>337|47=>265|48=>266|49=>338|50=>339|57=>347|n=>n,λ|22=>88|24=>261|25=>385|3=>3|39=>269|0=>0|53=>362|55=>364|4=>4|46=>356|45=>355|50=>275|5=>5|9=>9|66=>418|70=>422|76=>449|77=>408|n=>n,λ|n=>n⟩
theorem Tryz.sortRm:Go.Proofs.SlLaysF0.n6 sV Tryz.sortRm_ren:=lyS
end Go.Proofs
namespace Go.Lg
def fst (a:QU):Int:=if a.st=0 then -1 else 0
def cdA (c:Zy):QU:=Qbr (tgA c) [] (unc c.ev)
def ccA (c:Zy):QU:=syA [tgA c,cdA c]
def own (c:Zy)(k:Bool):QU:=if k=true then ccA c else tgA c
section
variable {pS:String}
theorem Xk [h1:XZ P t]{x:xd}{l:List Bool}{u:Bool}(E:QP ↑w b T (l.map Value.bool))(hx:ev f x=.pointer (some ⟨b,0+i*1,none⟩))(H:ev f y=.bool u)(hi:i<l.length)
  (hK:∀w',xj [b] w w'->QP ↑w' b T ((l.set i u).map Value.bool)->K (QT f d undef) w'):XO P ⟨d,.store t x y,ty,pS,af,gd⟩ f w K:=by
 refine Qw E hx H (oA hi) rfl λw' I J=>hK w' I ?_;rw[NT];simpa using J
theorem Kp [XZ P t]{x:xd}{l:List Bool}(h:QP ↑w b T (l.map Value.bool))(hx:ev f x=.pointer (some ⟨b,0+i*1,none⟩))(hi:i<l.length):
  sR P f w d (.load t x) ty pS af gd (.bool (l[i]'hi)):=Qk h hx (by simp[hi])
variable {C:xH}{pl:xD}
theorem pqB {b:Bool}(E:∀w',C w'->(execOp (ev f) (Za ops i)).run P w'=.ok (.value (.bool b)) w')(J:b=true->XP P ops C K pl (QT f (Za ops i).dst (.bool true)) w)(hf:b=false->XP P ops C K pl (QT f (Za ops i).dst (.bool false)) w)
  (hd:jR (Za ops i)=true:=by rfl) (I:Z4 ops f (Za ops i)=true:=by rfl):XP P ops C K ((i,true)::pl) f w:=by
 cases H:b with
 | true=>rw[H]at E;exact pq E (J H) hd I
 | false=>rw[H]at E;exact pq E (hf H) hd I
end
def bA (n:Nat)(g:Nat->Bool):List Bool:=(oT n).map g
theorem QrQ (n:Nat)(g:Nat->Bool):(bA n g).length=n:=by simp[bA]
theorem QrP {g E:Nat->Bool}{u:Bool}(hu:u=E i)(h:∀j,j<n->j≠i->E j=g j):(bA n g).set i u=bA n E:=by
 apply Mh
 .simp[bA]
 intro k J H;rw[Nf];have hk:k<n:=by simpa[bA]using H
 by_cases e:i=k
 .rw[O1 e,hu,e];simp[bA]
 rw[O0 e];have:=h k hk (λI=>e I.symm);simp[bA,this]
theorem Qpp (n:Nat):(oK n (Value.bool false).cells.toList).flatten=(bA n (λi=>decide (i<0))).map Value.bool:=by
 apply Mh
 .simp[Value.cells,bA]
 intro i E H;simp[Value.cells,bA]
theorem qS {l:Lf}(h:s.toNat<l.length):l[s.toNat]'h=lft l s:=by unfold lft;simp[oQ,h]
theorem U1 (n:Nat)(fb:LI):(lf0 n fb).length=n:=by unfold lf0;rw[KU];simp
instance:Bw sV 383 [nS,sS 0,nS,nS,nS,.map none,nS] [(0,4),(4,1),(5,1),(6,1)]:={}
structure Pz where
 va:O9
 vm:O9
 ve:O9
 a:QU
 vu:O9
 unc:LI
 mb:Nat
 mm:List (Int×O9)
 bl:Nat
 n:Nat
 rv:Nat->O9
abbrev Pz.cells (p:Pz):LV:=[p.va,sS p.a.st,p.vm,p.ve,p.vu,.map (some p.mb),.slice (some ⟨p.bl,0,none⟩) p.n p.n]
structure PzA (L:LN)(H:xI)(bp:Nat)(p:Pz):Prop where
 B:QP H bp 383 p.cells
 bL:bp∉L
 a:ZE L H p.va p.vm p.ve p.a
 u:QG L H p.vu p.unc
 M:Yh Ui H p.mb p.mm
 mL:p.mb∉L
 g:∀s,s<p.n->(match xt p.mm ((s:Nat):Int)with|some u=>u|none=>nS)=p.rv s
 R:∀s,s<p.n->QG L H (p.rv s) (YJ p.a.ed s)
theorem PzA.J {L:LN}{w w':O8}{bp:Nat}{p:Pz}(h:PzA L ↑w bp p)(E:sW w w'):PzA L ↑w' bp p:=⟨h.B.J E,h.bL,h.a.J E,h.u.J E,h.M.J E,h.mL,h.g,λs H=>(h.R s H).J E⟩
theorem PzA.st {L:LN}{w w':O8}{bp:Nat}{p:Pz}(h:PzA L ↑w bp p)(E:xj L w w'):PzA L ↑w' bp p:=⟨h.B.O E h.bL,h.bL,h.a.st E,h.u.st E,h.M.O E h.mL,h.mL,h.g,λs H=>(h.R s H).st E⟩
theorem PzA.up {L L':LN}{H:xI}{bp:Nat}{p:Pz}(h:PzA L H bp p)(E:∀b∈L',b∈L\/H.size<=b):PzA L' H bp p :=
 ⟨h.B,λJ=>by rcases E _ J with I|I;exact h.bL I;have:=h.B.lt;omega,h.a.up E,h.u.up E,h.M,λJ=>by rcases E _ J with I|I;exact h.mL I;have:=h.M.lt;omega,h.g,λs O=>(h.R s O).up E⟩
structure PzQ (p:Pz):Prop where
 ok:Zo p.a
 n:p.a.st=(p.n:Int)
def stP (N n:Nat):Nat->O9->O8->Prop
 | 2,v,w=>∃b,v=.map (some b)/\N<=b/\Yh Ui ↑w b []
 | _,v,w=>∃b,v=.slice (some ⟨b,0,none⟩) n n/\N<=b/\QP ↑w b 4 ((bA n (λi=>decide (i<0))).map Value.bool)
theorem Qng {v:O9}:∀{i:Nat},stP N n i v w->sW w w'->stP N n i v w'
 | 0,⟨b,E,H,I⟩,J|1,⟨b,E,H,I⟩,J|_+3,⟨b,E,H,I⟩,J=>⟨b,E,H,I.J J⟩
 | 2,⟨b,E,H,I⟩,J=>⟨b,E,H,I.J J⟩
theorem QjC {vr:O9}{rm unc:LI}(h:ZE [] ↑w va vm ve a)(hC:Zo a)(hn:a.st=(n:Int))(hr:QG [] ↑w vr rm)(go:∀x∈rm,0<=x/\x<a.st)(hu:QG [] ↑w vu unc):
  QZ sV 232 [.agg #[va,sS a.st,vm,ve],vr,vu] w λr w'=>sW w w'/\∃bp p,r=sP bp/\p.a=a/\p.unc=unc/\p.n=n/\↑w<=p.bl/\PzA [p.bl] ↑w' bp p/\QP ↑w' p.bl 4 ((lf0 n rm).map Value.bool):=by
 have kk:=hC.st1;have kn:=hC.ed_le;have ko:=hr.le;refine Zt func232 ?_;refine Qc<|Zg [va,sS a.st,vm,ve] λb3 J hg kq hw=>Qb ?_;have kr:=hw.lt;refine QX (α:=Nat×Nat×Nat) [(7,7),(13,20)] (λz=>[(7,.pointer (some ⟨z.1,0,none⟩))]) (λz w'=>sW J w'/\QP ↑w' z.1 383 [va,sS a.st,vm,ve,vu,.map (some z.2.1),.slice (some ⟨z.2.2,0,none⟩) n n] /\
  Yh Ui ↑w' z.2.1 []/\QP ↑w' z.2.2 4 ((bA n (λi=>decide (i<0))).map Value.bool)/\↑J<=z.1/\↑J<=z.2.1/\↑J<=z.2.2/\z.1≠z.2.1/\z.1≠z.2.2/\z.2.1≠z.2.2) om ?_ ?_
 .have gp:sW J { J with drawn:=J.drawn+1 }:=xj.X _ _
  refine qq (α:=Nat×Nat) (sW J) [oE 0,oE 1,oE 3,oE 4] (λ_=>[]) [2,5] [oE 6,oF 7,oE 8] [(15,15),(18,18)] (stP ↑J n) (λz=>[(15,.map (some z.1)),(18,.slice (some ⟨z.2,0,none⟩) n n)])
   (λz w'=>Yh Ui ↑w' z.1 []/\QP ↑w' z.2 4 ((bA n (λi=>decide (i<0))).map Value.bool)/\↑J<=z.1/\↑J<=z.2/\z.1≠z.2) mixed om od gp (λ_ _ h1 h2=>h1.I h2) (λ_ _ _ _ h T=>Qng h T) ?_ ?_
  .rintro g w' ⟨⟨b,e1,h1,h2⟩,⟨c,e2,h3,h4⟩,_⟩ gq;have d1:=gq 2 oe 5 oe oh;rw[e1,e2]at d1;simp only[ow,oJ,forall_eq]at d1;exact⟨(b,c),⟨e1,e2,La⟩,h2,h4,h1,h3,d1⟩
  refine pq (λ_ H=>ZN (hw.J H) U U)<|p QA<|p (QF U)<|pq (λ_ H=>Qk (hw.J H) U U)<|pe ⟨⟨λg w' H _=>?_,λg w' H _=>?_,La⟩,?_⟩
  .exact YZ Ui λbm w2 gr hh hQ=>⟨gr,⟨bm,U,LJ H.size hh,hQ⟩,λx hx=>by rw[Lc.1 (show x∈[bm] from hx)];exact⟨hh,hQ.lt⟩⟩
  .exact KC (n:=n) (O2 sS hn) (O2 sS hn) oa λbl w3 hp hbl hB=>⟨hp,⟨bl,U,LJ H.size hbl,by rw[Qpp]at hB;exact hB⟩,λx hx=>by rw[Lc.1 (show x∈[bl] from hx)];exact⟨hbl,hB.lt⟩⟩
  rintro⟨bm,bl⟩ g w3 hp ⟨hM,hB,hh,hbl,gs⟩;refine p (λ_=>Q8 [(0,[va,sS a.st,vm,ve]),(1,[vu]),(2,[.map (some bm)]),(3,[sL bl n n])] ⟨U,U,hu.cells,U,U,U,U,U,La⟩)<|pk <|
   QaD (us:=[va,sS a.st,vm,ve,vu,.map (some bm),sL bl n n]) U λbp w4 O hD Y=>⟨hp.I O,p ZL<|pe ?_⟩
  have hz:=hp.size;have h1:=hM.lt;have h2:=hB.lt;exact⟨(bp,bm,bl),Lb,hp.I O,Y,hM.J O,hB.J O,LJ hz hD,hh,hbl,og,og,gs⟩
 rintro⟨bp,bm,bl⟩ g w4 ⟨O,Y,hE,hF,hD,hh,hbl,hR,hS,hG⟩;simp only[]at Y hE hF hD hh hbl hR hS hG;have kt:=Y.lt;have ku:=hE.lt;have gt:=hg.I O;have hy:bp∉[bl]:=by simpa using hS
 have hT:bm∉[bl]:=by simpa using hG
 refine Qd<|Qj<|Z7 U<|Qm U Y U U<|QE (L:=[]) (hF.arr oe (n:=n) (cap:=n) (sz:=1) (by simp[bA]) oa (Lu _)) rfl<|Qa<|xe<|Q2 (α:=Nat) [(8,8),(26,35)] (λz=>[(26,sS z)]) (λz w'=>z<=n/\xj [bl] w4 w'/\QP ↑w' bl 4 ((bA n (λi=>decide (i<z))).map Value.bool)) (λz=>n - z) 0 Lb ⟨Lp _,xj.Y _ _,hF⟩ ?_;rintro k g w5 ⟨hk,h0,hH⟩;refine Zi rfl U (λhU=>?_) (λhU=>?_)
 .refine Qt ?_;have gu:bA n (λi=>decide (i<k))=(rm.take 0).foldl cut (oK n true):=by
   apply Mh
   .simp[bA]
   intro i h1 h2;have:i<n:=by simpa[bA]using h1
   simp[bA];omega
  rw[gu]at hH;have hV:QG [bl] ↑J vr rm:=(hr.J hg).up (λb E=>.inr (by simp only[oJ]at E;omega));have gv:ZE [bl] ↑J va vm ve a:=(h.J hg).up (λb E=>.inr (by simp only[oJ]at E;omega));refine Qd<|Qj<|QE ((hV.J O).st h0) U<|Qa<|xe<|Q2 (α:=Nat) [(10,10),(38,48)] (λz=>[(38,sS z)]) (λz w'=>z<=rm.length/\xj [bl] w4 w'/\QP ↑w' bl 4 (((rm.take z).foldl cut (oK n true)).map Value.bool)) (λz=>rm.length - z) 0 Lb ⟨Lp _,h0,hH⟩ ?_;rintro j g w6 ⟨hj,I,Z⟩;refine Zi U U (λhI=>?_) (λhI=>?_)
  .refine Qt ?_;have gw:rm.length<=j:=by have h5:¬(j:Int)<(rm.length:Int):=hI;omega
   rw[Lt gw]at Z;have hW:=Y.O I hy;have gx:=hE.O I hT;have kv:=Z.lt;refine Qd<|Qc<|Qm U ((hw.J O).O I ol) U U<|QE ((gv.J O).st I).ed U<|Qa<|xe ?_;have kw:=I.size;refine Q2 (α:=Nat×(Nat->O9)×List (Int×O9)) [(12,12),(52,73)] (λz=>[(52,sS z.1)]) (λz w'=>z.1<=a.ed.length/\xj [bm] w6 w'/\Yh Ui ↑w' bm z.2.2/\Up ↑w6 w' n z.2.1 (YJ (a.ed.take z.1))/\∀s,s<n->(match xt z.2.2 ((s:Nat):Int)with|some u=>u|none=>nS)=z.2.1 s) (λz=>a.ed.length - z.1) (0,λ_=>nS,[]) ⟨rfl,La⟩
    ⟨Lp _,xj.Y _ _,gx,⟨λi _=>QI _ _ _ _,λi j _ _ _=>Dj.nil _⟩,λs _=>U⟩ ?_
   rintro⟨i,rv,m⟩ g w7 ⟨hi,S,hJ,ha,h6⟩;simp only[]at hi hJ ha h6;have kx:=S.size;have hX:bp∉[bm]:=by simpa using hR
   have gy:bl∉[bm]:=by simpa using Ne.symm hG
   refine Zi U U (λhK=>?_) (λhK=>?_)
   .refine Qt ?_;have gz:a.ed.length<=i:=by have h7:¬(i:Int)<(a.ed.length:Int):=hK;omega
    rw[Lt gz]at ha;refine Qj<|Qb<|Qi ⟨[_],Lb,(gt.Q I oa).Q S oa,bp,⟨va,vm,ve,a,vu,unc,bm,m,bl,n,rv⟩,U,U,U,U,og,⟨hW.O S hX,hy,?_,?_,hJ,hT,h6,λs T=>QC (ha.own s T) (LJ (qU a.ed s) oa) (λb E hm=>?_)⟩,Z.O S gy⟩
    .have h9:ZE [bl,bm] ↑w7 va vm ve a:=((((h.J hg).up (L':=[bl,bm]) (λb E=>.inr (by simp only[oM,oL,or_false]at E;omega))).J O).st (I.S oe)).st (S.S oe);exact h9.up oe
    .have h9:QG [bl,bm] ↑w7 vu unc:=((((hu.J hg).up (L':=[bl,bm]) (λb E=>.inr (by simp only[oM,oL,or_false]at E;omega))).J O).st (I.S oe)).st (S.S oe);exact h9.up oe
    have:=(Qg (ha.own s T) b E).1;simp only[oJ]at hm;omega
   refine Qe ?_;have V:i<a.ed.length:=by have h7:(i:Int)<(a.ed.length:Int):=hK;omega
   have hq:a.ed.take (i+1)=a.ed.take i++[a.ed[i]'V]:=Lo V;have hY:=hC.ed _ (Lm V);refine Zd (a.ed[i]'V) λe he=>?_;rw[he]at hq hY;have hZ:e.2.2=(e.2.2.toNat:Int):=oa
   have ht:e.2.2.toNat<n:=oa
   have g0:=qU (a.ed.take i) e.2.2.toNat;rw[LB]at g0;have hL:=Qfp (a.ed.take i) e hY.2.2.2.1;have g2:zW [bl,bm] ↑w7 ve a.ed:=((((h.ed.J hg).up (L':=[bl,bm]) (λb E=>.inr (by simp only[oM,oL,or_false]at E;omega))).J O).st (I.S oe)).st (S.S oe);refine Qd<|Qn<|Qc<|xie g2 U U V λkz h7=>?_;rw[he]at h7;refine x (Qu h7 U U)<|QL [sS 0,sS 0,sS 0] λb12 w8 g3 g4 g5=>QJ (Qz e) g5 oC λw9 g6 hN=>xe ?_;have hv:sW w7 w9:=g3.Q g6 g4;have k0:=hv.size;have ga:=ha.J hv;have g7:=ga.own _ ht;have h8:∀b∈ob (rv e.2.2.toNat),↑w6<=b/\b<w7.heap.size:=λb E=>⟨(Qg (ha.own _ ht) b E).1,Q3 (ha.own _ ht) b E⟩;have gb:bp∉ob (rv e.2.2.toNat):=λE=>ov (h8 _ E)
   have gc:bm∉ob (rv e.2.2.toNat):=λE=>ov (h8 _ E)
   have hO:b12∉ob (rv e.2.2.toNat):=λE=>ov (h8 _ E)
   have gg:=((hW.O S hX).J hv);have gh:=hJ.J hv;have gi:=h6 e.2.2.toNat ht;rw[<-hZ]at gi;refine UF (xj (ob (rv e.2.2.toNat)) w9) [oE 0,oE 1,oE 2,oE 3,oE 4,oE 5,oE 6,oE 7,oE 8,oE 9,oE 10,oE 11,oE 12,oE 13,oE 14,oF 15,oF 16,oF 17] mixed om od (xj.X _ _) ?_;refine p QA<|p (Xj U)<|p (QF U)<|pq (λ_ H=>Qk (gg.O H gb) U U) <|
    p (QF rfl)<|pq (λ_ H=>Qk (hN.O H hO) U U)<|p QA<|p (Xj U)<|p (QF U) <|
    pq (λ_ H=>Qk (gg.O H gb) U U)<|p (QF U)<|pq (λ_ H=>Qk (hN.O H hO) U U) <|
    pq (λ_ H=>(JO (k:=e.2.2) (gh.O H gc) U U).I (O2 (λv=>Result.ok (Next.value v) _) gi))<|p (QF U)<|pq (λ_ H=>Qk (hN.O H hO) U U) <|
    pk<|Zb [[sS e.1]] λk4 g8 gj k5 g9=>⟨(xj.X _ _).I gj,?_⟩
   have hl:sW w9 g8:=(xj.X _ _).I gj;have k6:=hl.size;refine pk<|Q9 (m:=1) (news:=[sS e.1]) (Ql g7 hl) U U U (g9.at (L:=[]) oe) oq oa oa λhP k7 ka hA kb=>⟨hl.any.V hA,?_⟩;have kc:=(gh.J hl).O hA gc;refine pkk<|XN (k:=e.2.2) kc U U λk8 gk ke=>pe ?_;have kf:∀b∈ob hP,b∈ob (rv e.2.2.toNat)\/↑w9<=b:=λb E=>(kb b E).imp id (λh=>oa);have gl:=ga.app ht (Qp.snoc ka) (hl.any.V hA) kf;have gm:=gl.O gk (λi hi b E=>by have:=(Qg (gl.own i hi) b E).1;simp only[oJ];omega);have kg:Ut (YJ (a.ed.take i)) e.2.2.toNat (YJ (a.ed.take i) e.2.2.toNat++[e.1])=YJ (a.ed.take (i+1)):=by rw[hq];exact funext hL
   rw[kg]at gm;refine Qq<|QH U U<|Qa<|xe<|⟨(i+1,Ut rv e.2.2.toNat hP,xu m e.2.2 hP),og,Lb,V,?_,ke,gm,λs T=>?_⟩
   .exact(((S.I hv).I hl).G hA (λb E=>.inr (h8 b E).1)).V gk
   simp only[];rw[Xy];by_cases gn:s=e.2.2.toNat
   .subst gn;rw[O1 hZ,Yx]
   rw[O0 oa,Y1 _ _ gn];exact h6 s T
  refine Qe ?_;have ho:j<rm.length:=by have h5:(j:Int)<(rm.length:Int):=hI;omega
  have kh:=go _ (Lm ho);have hq:rm.take (j+1)=rm.take j++[rm[j]'ho]:=Lo ho;refine Zd (rm[j]'ho) λs T=>?_;rw[T]at kh hq;have hL:s=(s.toNat:Int):=oa
  have k9:((rm.take j).foldl cut (oK n true)).length=n:=by rw[KU];simp
  refine Qd<|Qn<|Qc<|xii (i:=j) ((hV.J O).st I) U U ho λma h5=>?_;rw[T]at h5;refine x (Qy h5 U)<|Qb<|Qq<|Qa<|Z7 U<|Qm U (Y.O I hy) U U<|Qa<|x (QO (i:=s.toNat) U (O2 sS hL) oa) <|
   Qo<|Xk (i:=s.toNat) Z U U oa λw7 S ki=>xe ?_
  refine Qq<|QH U U<|Qa<|xe<|⟨j+1,oa,Lb,ho,I.V S,?_⟩;rw[hq,Mk];exact ki
 refine Qe ?_;have V:k<n:=by have mf:(k:Int)<(n:Int):=hU;omega
 refine Qd<|Qn<|Qj<|Qb<|Qq<|Qa<|Z7 U<|Qm U (Y.O h0 hy) U U<|Qa<|x (QO (i:=k) U U oa) <|
  Qo<|Xk (i:=k) hH U U (by rw[QrQ];exact V) λw6 I Z=>xe ?_
 have kj:(bA n (λi=>decide (i<k))).set k true=bA n (λi=>decide (i<k+1)):=QrP oe (λi _ hi=>by
  by_cases e:i<k
  .simp[e];omega
  simp[e];omega)
 rw[kj]at Z;refine Qq<|QH U U<|Qa<|xe ?_;exact⟨k+1,oa,Lb,V,h0.V I,Z⟩
theorem jy {r:LI}(h:i<l.length):xo (l++r) i=xo l i:=by
 unfold xo;simp[oQ,List.getElem?_append_left h]
theorem qe {q:Pz}(hA:PzA [] ↑w bp q)(hq:PzQ q)(hB:QP ↑w q.bl 4 (lf.map Value.bool))(hl:lf.length=q.n):
  QZ sV 236 [sP bp] w λr w'=>sW w w'/\∃b,r=sL b q.n q.n/\↑w<=b/\QP ↑w' b 3 ((dsts q.a lf).map (Value.int .i64))/\(dsts q.a lf).length=q.n:=by
 have hn:=hq.n;have ku:=hq.ok.st1;have gc:=hq.ok.mr;have kv:=hq.ok.mr_le;have kw:=hq.ok.ed_le;have hO:q.a.st.toNat=q.n:=oa
 have gu:=Qco (lf:=lf) hq.ok hn;have gg:(dsL q.a.ed lf q.n 0 (ds0 q.a lf)).1=dsts q.a lf:=by unfold dsts;rw[hO]
 refine Zd (dsts q.a lf) λDD gv=>?_;rw[gv]at gg ⊢;refine Zt func236 ?_;refine Qc<|Qb<|Qj<|Z7 U<|QN U<|Qm U hA.B U U<|Qo<|KC (n:=q.n) (O2 sS hn) (O2 sS hn) oa λbO w1 gh hF hP=>Qb ?_;rw[Qim]at hP;refine Qd<|Qj<|QE (L:=[]) (hP.arr oe (n:=q.n) (cap:=q.n) (sz:=1) (by simp[gA]) oa (Lu _)) rfl<|Qa<|xe<|Q2 (α:=Nat) [(4,4),(19,25)] (λz=>[(19,sS z)]) (λz w'=>z<=q.n/\sW w w'/\QP ↑w' bO 3 ((gA q.n (λj=>if j<z then -1 else 0)).map (Value.int .i64))) (λz=>q.n - z) 0 Lb ⟨Lp _,gh,hP⟩ ?_
 rintro j g I ⟨hj,ho,h4⟩;refine Zi rfl U (λhQ=>?_) (λhQ=>?_)
 .refine Qt ?_;have hR:j=q.n:=by have gw:¬(j:Int)<(q.n:Int):=hQ;omega
  have gx:gA q.n (λi=>if i<j then -1 else 0)=((q.a.mr.take 0).foldl (ds1 lf) (oK q.n (-1),[])).1:=by
   apply Mh
   .simp[gA]
   intro i h1 h2;have:i<q.n:=by simpa[gA]using h1
   simp[gA];omega
  rw[gx]at h4;refine Qc<|Qb<|Qd<|Qj<|Z7 U<|QN U<|Qm U (hA.J ho).B U U<|QE (hA.J ho).a.mr U<|Qa<|xe<|Q2 (α:=Nat×O9) [(5,5),(7,7),(32,50)] (λz=>[(5,z.2),(32,sS z.1)]) (λz w'=>z.1<=q.a.mr.length/\sW w w'/\I.heap.size<=↑w'/\QP ↑w' bO 3 (((q.a.mr.take z.1).foldl (ds1 lf) (oK q.n (-1),[])).1.map (Value.int .i64)) /\
   Qp 3 ↑I w' z.2 ((q.a.mr.take z.1).foldl (ds1 lf) (oK q.n (-1),[])).2) (λz=>q.a.mr.length - z.1) (0,nS) oB ⟨Lp _,ho,Lu _,h4,QI _ _ _ _⟩ ?_
  rintro⟨k,vl⟩ g w3 ⟨hk,h5,gi,hp,ha⟩;simp only[]at hk hp ha;have gj:=QdX (lf:=lf) (λx hx=>(gc x hx).1) k;rw[hO]at gj;refine Zi U U (λhS=>?_) (λhS=>?_)
  .refine Qt ?_;have gy:q.a.mr.length<=k:=by have hG:¬(k:Int)<(q.a.mr.length:Int):=hS;omega
   have e0:(q.a.mr.take k).foldl (ds1 lf) (oK q.n (-1),[])=ds0 q.a lf:=by rw[Lt gy];unfold ds0;rw[hO]
   rw[e0]at hp ha;have gz:bO<I.heap.size:=h4.lt;refine Qd<|Qc<|Qb<|Q2 (α:=Nat×Nat×O9×LI×LI) [(5,5),(8,8),(10,10),(51,100)] (λz=>[(5,z.2.2.1),(8,sS z.2.1)])
    (λz w'=>sW w w'/\I.heap.size<=↑w'/\QP ↑w' bO 3 (z.2.2.2.1.map (Value.int .i64))/\Qp 3 ↑I w' z.2.2.1 z.2.2.2.2/\DsI q.n z.2.2.2/\z.1+z.2.1=q.n/\(dsL q.a.ed lf z.1 z.2.1 z.2.2.2).1=DD) (λz=>q.n - z.2.1) (q.n,0,vl,(ds0 q.a lf).1,(ds0 q.a lf).2) oB
    ⟨h5,gi,hp,ha,gu,U,gg⟩ ?_
   rintro⟨f,i,vl,o,l⟩ g w4 ⟨hg,hT,h6,S,hr,g0,T⟩;simp only[]at hT h6 S hr g0 T;have g2:=hr.le;have gk:=hr.ok.len;simp only[]at g2 gk;have hH:=hA.J hg;refine Qd<|Qj<|Qa<|QE (L:=[]) (QC S oa oe) rfl<|Ye rfl rfl<|xe<|ZI U (λhU=>?_) (λhU=>?_)
   .refine Qt ?_;have g3:¬i<l.length:=by have g4:¬(i:Int)<(l.length:Int):=hU;omega
    rw[QlD g3]at T;simp only[]at T;subst T;refine Qj<|Qb<|Qi ⟨[sL bO q.n q.n],Lb,hg,bO,U,hF,h6,gk⟩
   refine Qe ?_;have ht:i<l.length:=by have g4:(i:Int)<(l.length:Int):=hU;omega
   refine Exists.elim (Nat.exists_eq_succ_of_ne_zero (show f≠0 by omega)) λf' g5=>?_;subst g5;rw[dsL,O1 ht]at T;have gl:=Zx ht;have hsr:=hr.ok.q _ (KW ht);have hV:=hr.s0 _ (KW ht);refine Zd (xo l i) λs hs=>?_;rw[hs]at T hsr gl;simp only[]at hsr hV;rw[hs]at hV;have gm:s=(s.toNat:Int):=oa
   have gn:=hH.g s.toNat oa;rw[<-gm]at gn;have g6:=hH.R s.toNat oa;have kx:=qU q.a.ed s.toNat;refine Qd<|Qn<|Qd<|ZH [] (Xf 0 11 [])<|p QA<|p (Xj U)<|p (QF U)<|pq (λ_ V=>Qk (hH.B.J V) U U)<|p QA<|p QA <|
    pii (i:=i) U (QC (L:=[]) S oa oe) rfl rfl ht λkz go=>?_
   rw[gl]at go;refine pq (λ_ V=>Qy (go.J V) U)<|pq (λ_ V=>(JO (k:=s) (hH.M.J V) U U).I (O2 (λv=>Result.ok (Next.value v) _) gn))<|p (λ_=>Xr g6 U)<|p QA<|pe ?_;have hI:sW w4 { w4 with drawn:=w4.drawn+1 }:=xj.X _ _
   refine Q2 (α:=Nat×O9×LI×LI) [(5,5),(10,10),(67,100)] (λz=>[(5,z.2.1),(67,sS z.1)])
    (λz w'=>z.1<=(YJ q.a.ed s.toNat).length/\sW w w'/\I.heap.size<=↑w'/\QP ↑w' bO 3 (z.2.2.1.map (Value.int .i64))/\Qp 3 ↑I w' z.2.1 z.2.2.2/\DsI q.n z.2.2/\0<=xo z.2.2.1 s.toNat/\i<z.2.2.2.length/\xo z.2.2.2 i=s /\
     ((YJ q.a.ed s.toNat).drop z.1).foldl (Vu lf s) z.2.2=(YJ q.a.ed s.toNat).foldl (Vu lf s) (o,l)) (λz=>(YJ q.a.ed s.toNat).length - z.1) (0,vl,o,l) oB
    ⟨Lp _,hg.I hI,LJ hT hI.size,h6.J hI,Ql S hI,hr,hV,ht,hs,U⟩ ?_
   rintro⟨m,hJ,o2,l2⟩ g w5 ⟨hm,E,hK,hv,hw,hh,hW,h7,hL,J⟩;simp only[]at hm hK hv hw hh hW h7 hL J;have gp:=hA.J E;have g7:=hh.le;have g8:=hh.ok.len;simp only[]at g7 g8;refine Zi U U (λhX=>?_) (λhX=>?_)
   .refine Qt ?_;have g9:(YJ q.a.ed s.toNat).length<=m:=by have hM:¬(m:Int)<((YJ q.a.ed s.toNat).length:Int):=hX;omega
    rw[Lx g9]at J;simp only[List.foldl_nil]at J;rw[<-J]at T;refine Qq<|Qa<|QH U U<|Qb<|⟨(f',i+1,hJ,o2,l2),og,oB,E,hK,hv,hw,hh,og,T⟩
   refine Qe ?_;have h0:m<(YJ q.a.ed s.toNat).length:=by have hM:(m:Int)<((YJ q.a.ed s.toNat).length:Int):=hX;omega
   have gq:=KR (Lm h0);have ka:=Zz h0;rw[ka,LZ]at J;refine Zd ((YJ q.a.ed s.toNat)[m]'h0) λy hy=>?_;rw[hy]at gq J;have kb:0<=y/\y<(q.n:Int):=by
    obtain⟨e,he,h1,_⟩:=gq;have:=hq.ok.ed e he;omega
   have h3:y=(y.toNat:Int):=oa
   have h8:y.toNat<o2.length:=oa
   have hY:s.toNat<o2.length:=oa
   have kc:=hh.ok.le _ (KW hY);simp only[]at kc;have hE:=QlE (lf:=lf) hh hsr hW kb;have ke:=qS (l:=lf) (s:=y) oa;refine Qd<|Qn<|Qc<|xii (i:=m) ((gp.R s.toNat oa)) U U h0 λk0 hM=>?_;rw[hy]at hM;refine x (Qy hM U)<|Qb<|QX (α:=Bool) [(71,84)] (λz=>[(84,.bool z)]) (λz w'=>w'=w5/\z=(lft lf y && decide (xo o2 y.toNat<0))) om ?_ ?_
   .refine Qq<|Qa<|Z7 U<|Qm U gp.B U U<|Qa<|x (QO (i:=y.toNat) U (O2 sS h3) oa)<|x (Kp (i:=y.toNat) (hB.J E) U oa)<|?_;rw[ke];cases lft lf y with
    | true =>
     refine Qa<|Qa<|Qa<|x (QO (i:=y.toNat) U (O2 sS h3) oa)<|x (z8 (i:=y.toNat) hv U h8)<|Ye U U<|QB U<|xe ?_;exact⟨_,Lb,U,by rw[Zx h8];rfl⟩
    | false =>
     refine Qa<|Zm<|Z6<|QB U<|xe ?_;exact⟨_,Lb,U,U⟩
   rintro z g k4 ⟨rfl,rfl⟩;refine Q6 U (λh9=>?_) (λh9=>?_)
   .rw[LF,decide_eq_true_eq]at h9;have hEq:Vu lf s (o2,l2) y=(o2.set y.toNat (xo o2 s.toNat+1),l2++[y]):=by unfold Vu;rw[O1 h9]
    rw[hEq]at J hE;have kf:=Zx hY;have gr:=Zx h7;rw[hL]at gr;refine Qj<|Qa<|Qa<|Qa<|Qa<|xii (i:=i) (QC (L:=[]) hw oa oe) rfl rfl h7 λk5 gs=>?_;rw[gr]at gs;refine x (Qy gs U)<|x (QO (i:=s.toNat) U (O2 sS gm) oa)<|x (z8 (i:=s.toNat) hv U hY)<|x (X2 U U ⟨oa,oa⟩) <|
     x (QO (i:=y.toNat) U (O2 sS h3) oa)<|Qo<|KN (i:=y.toNat) hv U U h8 λw6 O hN=>xe ?_
    rw[kf]at hN;have kg:=O.size;have kh:∀b∈ob hJ,b∉[bO]:=λb H=>by have:=Qg hw b H;simp only[oJ];omega
    have hC:Qp 3 ↑I w6 hJ l2:=Qf hw O kh;have ki:sW w w6:=E.Q O hF;refine Qq<|Qa<|Qa<|Qo<|Zb [[sS y]] λk6 w7 hD k7 kj=>Qo<|Q9 (m:=1) (news:=[sS y]) (Ql hC hD) U U U (kj.at (L:=[]) oe) oq oa (ov hD.size) λhZ w8 kk ga k8 =>
     Qb ?_
    have k9:=hD.size;have ma:=ga.size;refine Qq<|QH U U<|Qa<|xe<|⟨(m+1,hZ,_,l2++[y]),og,oB,h0,(ki.I hD).G ga (λb H=>.inr (oz (Qg hC b H) gh.size ho.size)),oa,(hN.J hD).O ga (λH=>ov (Qg hC _ H)),Qp.snoc kk,hE.1,hE.2,by simp only[oN];omega,by rw[jy h7];exact hL,J⟩
   have hEq:Vu lf s (o2,l2) y=(o2,l2):=by
    unfold Vu;rw[O0];intro V;rw[V.1,O4 V.2]at h9;cases h9
   rw[hEq]at J;refine Qe<|Qq<|QH U U<|Qa<|xe ?_;exact⟨(m+1,hJ,o2,l2),og,oB,h0,E,hK,hv,hw,hh,hW,h7,hL,J⟩
  refine Qe ?_;have Y:k<q.a.mr.length:=by have hG:(k:Int)<(q.a.mr.length:Int):=hS;omega
  have kn:=gc _ (Lm Y);have ko:q.a.mr.take (k+1)=q.a.mr.take k++[q.a.mr[k]'Y]:=Lo Y;have Z:(q.a.mr.take (k+1)).foldl (ds1 lf) (oK q.n (-1),[])=ds1 lf ((q.a.mr.take k).foldl (ds1 lf) (oK q.n (-1),[])) (q.a.mr[k]'Y):=by rw[ko,Mk];rfl
  have kq:((q.a.mr.take k).foldl (ds1 lf) (oK q.n (-1),[])).1.length=q.n/\((q.a.mr.take k).foldl (ds1 lf) (oK q.n (-1),[])).2.length<=q.a.mr.length:=by
   rw[gj];exact⟨Kx _ _,LJ (Mt _ _) (by rw[LB];omega)⟩
  refine Zd ((q.a.mr.take k).foldl (ds1 lf) (oK q.n (-1),[])) λz hz=>?_;rw[hz]at hp ha Z kq;refine Zd (q.a.mr[k]'Y) λy hy=>?_;rw[hy]at kn Z;have h3:y=(y.toNat:Int):=oa
  have h8:y.toNat<z.1.length:=oa
  have gt:=hA.J h5;refine Qd<|Qn<|Qc<|xii (i:=k) gt.a.mr U U Y λmf hG=>?_;rw[hy]at hG;refine x (Qy hG U)<|Qb<|Qj<|Z7 U<|Qm U gt.B U U<|Qa<|x (QO (i:=y.toNat) U (O2 sS h3) oa)<|x (Kp (i:=y.toNat) (hB.J h5) U oa)<|xe ?_;rw[(qS (l:=lf) (s:=y) oa)];refine Q6 U (λgb=>?_) (λgb=>?_)
  .have e1:ds1 lf z y=(z.1.set y.toNat 0,z.2++[y]):=by unfold ds1;rw[O1 gb]
   rw[e1]at Z;refine Qj<|Qa<|x (QO (i:=y.toNat) U (O2 sS h3) oa)<|Qo<|KN (i:=y.toNat) hp U U h8 λw4 hg h6=>xe ?_;have hT:=hg.size;have gz:bO<I.heap.size:=h4.lt;have S:Qp 3 ↑I w4 vl z.2:=Qf ha hg (λb H=>by have:=Qg ha b H;simp only[oJ];omega);refine Qq<|Qa<|Qa<|Qo<|Zb [[sS y]] λmg w5 E mh kr=>Qo<|Q9 (m:=1) (news:=[sS y]) (Ql S E) U U U (kr.at (L:=[]) oe) oq oa (ov E.size) λhZ w6 hC O mj =>
    Qb ?_
   have hK:=E.size;have kg:=O.size;refine Qq<|QH U U<|Qa<|xe<|⟨(k+1,hZ),og,oB,Y,((h5.Q hg hF).I E).G O (λb H=>.inr (oy (Qg S b H) ho.size)),oa,?_,?_⟩
   .simp only[];rw[Z];exact(h6.J E).O O (λH=>ov (Qg S _ H))
   simp only[];rw[Z];exact Qp.snoc hC
  have e1:ds1 lf z y=z:=by unfold ds1;rw[O0 (by rw[gb];decide)]
  rw[e1]at Z;refine Qe<|Qq<|QH U U<|Qa<|xe ?_;exact⟨(k+1,vl),og,oB,Y,h5,gi,by simp only[];rw[Z];exact hp,by simp only[];rw[Z];exact ha⟩
 refine Qe ?_;have hR:j<q.n:=by have gw:(j:Int)<(q.n:Int):=hQ;omega
 refine Qd<|Qn<|Qj<|Qb<|Qq ?_;have kt:(gA q.n (λi=>if i<j then -1 else 0)).set j (-1)=gA q.n (λi=>if i<j+1 then -1 else 0):=Qre (by rw[O1 oa]) (λi _ hi=>by
  by_cases e:i<j
  .rw[O1 e,O1 oa]
  rw[O0 e,O0 oa])
 refine Qa<|Qa<|x (QO (i:=j) U U oa)<|Qo<|Qkg (i:=j) h4 U U hR kt λw6 O hN=>xe ?_;refine Qq<|QH U U<|Qa<|xe ?_;exact⟨j+1,oa,Lb,hR,ho.Q O hF,hN⟩
abbrev rmC (rk rs:Int)(x:Int×Int):LV:=[sS x.1,sS rk,sS rs,sS x.2]
theorem Qgm (rk rs:Int)(x:Int×Int):(rmC rk rs x).length=4:=rfl
abbrev RmO (base:Nat)(w:O8)(v:O9)(rk rs:Int)(l:xF):Prop:=w.ownsRow base 261 4 v l.length (l.flatMap (rmC rk rs))
theorem RmO.snoc {base:Nat}{v:O9}{rs:Int}{l:xF}{x:Int×Int}(h:w.ownsRow base 261 4 v (l.length+1) (l.flatMap (rmC rk rs)++rmC rk rs x)):RmO base w v rk rs (l++[x]):=by
 unfold RmO;rw[Ln,LC];simpa using h
theorem QkA {k:Nat}(h:k<a.ed.length):(a.ed.take (k+1)).foldl (X9 ul lf) []=X9 ul lf ((a.ed.take k).foldl (X9 ul lf) []) (a.ed[k]'h):=by
 rw[Lo h,Mk];rfl
theorem Qka {q:Pz}(hA:PzA [] ↑w bp q)(hq:PzQ q)(hB:QP ↑w q.bl 4 (lf.map Value.bool))(hl:lf.length=q.n)(rk:Int):
  QZ sV 271 [sP bp,sS rk] w λr w'=>sW w w'/\RmO ↑w w' r rk 2 (lost q.a q.unc lf):=by
 have hn:=hq.n;have hQ:=hq.ok.ed_le;refine Zt func271 ?_;refine Qc<|Qb<|Qc<|Qb<|Qd<|Qj<|Z7 U<|QN U<|Qm U hA.B U U<|QE hA.a.ed U<|Qa<|xe<|Q2 (α:=Nat×O9) [(5,5),(7,8),(15,72)] (λz=>[(5,z.2),(15,sS z.1)]) (λz w'=>z.1<=q.a.ed.length/\sW w w'/\RmO ↑w w' z.2 rk 2 ((q.a.ed.take z.1).foldl (X9 q.unc lf) [])) (λz=>q.a.ed.length - z.1) (0,nS) oB ⟨Lp _,xj.Y _ _,QI _ _ _ _⟩ ?_;rintro⟨k,vo⟩ g w1 ⟨hk,hh,S⟩;have hi:=(y7 (a:=q.a) (ul:=q.unc) (lf:=lf) (q.a.ed.take k) [] (λe T=>L8 T) (λp hp=>by cases hp)).2;rw[LB]at hi;refine Zi rfl U (λhj=>?_) (λhj=>?_)
 .refine Qt ?_;have hD:q.a.ed.length<=k:=by have V:¬(k:Int)<(q.a.ed.length:Int):=hj;omega
  rw[Lt hD]at S;refine Qj<|Qb<|Qi ⟨[_],Lb,hh,S⟩
 refine Qe ?_;have I:k<q.a.ed.length:=by have V:(k:Int)<(q.a.ed.length:Int):=hj;omega
 have hE:=hq.ok.ed _ (Lm I);have H:=QkA (ul:=q.unc) (lf:=lf) I;refine Zd ((q.a.ed.take k).foldl (X9 q.unc lf) []) λout hout=>?_;rw[hout]at S H hi;refine Zd (q.a.ed[k]'I) λe T=>?_;rw[T]at hE H;simp only[OM]at hi;have hF:e.1=(e.1.toNat:Int):=oa
 have hG:e.2.2=(e.2.2.toNat:Int):=oa
 refine Qd<|Qn<|Qc<|xie (hA.J hh).a.ed U U I λhR V=>?_;rw[T]at V;refine x (Qu V U U)<|QL [sS 0,sS 0,sS 0] λb7 w2 hH hI J=>QJ (Qz e) J oC λw3 hJ Y=>xe ?_;have h3:sW w1 w3:=hH.Q hJ hI;have hm:=hh.I h3;have Z:=hA.J hm;have h4:=hB.J hm;refine Qd<|QX (α:=Bool) [(19,47)] (λz=>[(47,.bool z)]) (λz w'=>sW w3 w'/\(z=true↔(lft lf e.1=false\/lft lf e.2.2=true\/e.2.1∉q.unc))) om ?_ ?_
 .refine ZH [] (Xf 0 29 [26])<|p QA<|p (Xj U)<|p (QF U)<|pq (λ_ E=>Qk (Z.B.J E) U U)<|p (QF U)<|pq (λ_ E=>Qk (Y.J E) U U) <|
   p (λ_=>QO (i:=e.1.toNat) U (O2 sS hF) oa)<|pq (v:=.bool (lft lf e.1)) (λ_ E=>(Kp (i:=e.1.toNat) (h4.J E) U oa).I (by rw[(qS (l:=lf) (s:=e.1) oa)]))<|pB (λ_=>Zr rfl) (λO=>?_) (λO=>?_)
  .refine p QA<|ps<|ps<|ps<|ps<|ps<|ps<|ps<|ps<|p (Z9 U)<|p QA<|ps<|ps<|ps<|ps<|ps<|ps<|ps<|ps<|p (Z9 U)<|pe ?_;exact⟨_,Lb,xj.X _ _,by simp at O;simp[O]⟩
  refine p QA<|p QA<|p (Xj U)<|p (QF U)<|pq (λ_ E=>Qk (Z.B.J E) U U)<|p (QF U)<|pq (λ_ E=>Qk (Y.J E) U U) <|
   p (λ_=>QO (i:=e.2.2.toNat) U (O2 sS hG) oa)<|?_
  refine pqB (b:=lft lf e.2.2) (λ_ E=>(Kp (i:=e.2.2.toNat) (h4.J E) U oa).I (by rw[(qS (l:=lf) (s:=e.2.2) oa)])) (λho=>?_) (λho=>?_)
  .refine p (Z9 U)<|p QA<|ps<|ps<|ps<|ps<|ps<|ps<|ps<|ps<|p (Z9 U)<|pe ?_;exact⟨_,Lb,xj.X _ _,by simp[ho]⟩
  refine p (Z9 U)<|p QA<|p QA<|p (Xj U)<|p (QF U)<|pq (λ_ E=>Qk (Z.B.J E) U U) <|
   p (QF rfl)<|pq (λ_ E=>Qk (Y.J E) U U)<|pk<|xg<|(Yn (Z.u.J (xj.X _ _)) e.2.1).S ?_
  rintro r4 w4 ⟨rfl,rfl⟩;refine⟨xj.X _ _,?_⟩;refine p (λ_=>yM U)<|p (Z9 U)<|pe ?_;exact⟨_,Lb,xj.X _ _,by simp at O;simp[O,ho]⟩
 rintro z g w4 ⟨hr,hz⟩;have h5:=hm.I hr;have hs:=Ql (Ql S h3) hr;have J:=Y.J hr;refine Q6 rfl (λha=>?_) (λha=>?_)
 .refine Qt ?_;have e1:X9 q.unc lf out e=out:=by unfold X9;rw[O1 (hz.1 ha)]
  rw[e1]at H;refine Qq<|QH U U<|Qa<|xe ?_;exact⟨(k+1,vo),og,oB,I,h5,by simp only[];rw[H];exact hs⟩
 refine Qe ?_;have h6:¬(lft lf e.1=false\/lft lf e.2.2=true\/e.2.1∉q.unc):=λh=>by rw[hz.2 h]at ha;cases ha
 have h7:Zk [] ↑w4 vo out.length 4 (out.flatMap (rmC rk 2)):=QC hs oa oe;refine Qd<|Qj<|QE h7 U<|Qb<|QX (α:=Bool) [(50,62)] (λz=>[(62,.bool z)]) (λz w'=>sW w4 w'/\(z=true↔out.getLast?.map (·.1)=some e.1)) om ?_ ?_
 .refine ZH [] (Xf 0 13 [])<|p QA<|pb (λ_=>ZX U U) (λht=>?_) (λht=>?_)
  .have hS:0<out.length:=by have hK:(0:Int)<(out.length:Int):=ht;omega
   have h8:out.getLast?=some (out[out.length - 1]'oa):=by rw[List.getLast?_eq_getElem?,LE]
   refine Zd (out[out.length - 1]'oa) λy hy=>?_;rw[hy]at h8;refine p QA<|p QA<|p QA<|p (λ_=>X1 U U ⟨oa,oa⟩)<|Go.Lg.pig (g:=rmC rk 2) (i:=out.length - 1) U (Qgm rk 2) h7 U (O2 sS (show(out.length:Int) - 1=((out.length - 1:Nat):Int) by omega)) oa λhT h9=>?_;rw[hy]at h9;refine p (λ_=>Zp U)<|pq (λ_ E=>Qy ((h9.fld 0 (sS y.1) U).J E) U)<|p (QF U)<|pq (λ_ E=>Qk (J.J E) U U) <|
    p (λ_=>QW U U)<|p (Z9 U)<|pe ?_
   exact⟨_,Lb,xj.X _ _,by rw[h8];simp⟩
  have h0:out=[]:=LA (by have hK:¬(0:Int)<(out.length:Int):=ht;omega);refine p QA<|ps<|ps<|ps<|ps<|ps<|ps<|ps<|ps<|ps<|p (Z9 U)<|pe ?_;exact⟨_,Lb,xj.X _ _,by simp[h0]⟩
 rintro z2 g w5 ⟨hv,hC⟩;have hw:=h5.I hv;have h1:=Ql hs hv;have J:=J.J hv;refine Q6 rfl (λhg=>?_) (λhg=>?_)
 .refine Qt ?_;have e1:X9 q.unc lf out e=out:=by unfold X9;rw[O0 h6,O1 (hC.1 hg)]
  rw[e1]at H;refine Qq<|QH U U<|Qa<|xe ?_;exact⟨(k+1,vo),og,oB,I,hw,by simp only[];rw[H];exact h1⟩
 refine Qe ?_;have hL:¬out.getLast?.map (·.1)=some e.1:=λh=>by rw[hC.2 h]at hg;cases hg
 have e1:X9 q.unc lf out e=out++[(e.1,e.2.1)]:=by unfold X9;rw[O0 h6,O0 hL]
 rw[e1]at H;refine Qq<|Qa<|Qm U J U U<|Qa<|Qm U J U U<|x (Qv ⟨U,U,U,U,La⟩) <|
  Qo<|Zb [rmC rk 2 (e.1,e.2.1)] λhU w6 h2 hV hM =>
  Qo<|Q9 (m:=1) (news:=rmC rk 2 (e.1,e.2.1)) (Ql h1 h2) U U U (hM.at (L:=[]) oe) oq oa (oy hw.size h2.size) λhN w7 hO hP hW=>Qb<|Qq<|QH U U<|Qa<|xe ?_
 exact⟨(k+1,hN),og,oB,I,(hw.I h2).G hP (λb hb=>.inr (Qg h1 b hb).1),by simp only[];rw[H];exact RmO.snoc hO⟩
theorem Qbf (lf:Lf)(d:Int):∀(l:LI) (i:Nat),Je lf i (l++[d])=Je lf i l++if lf.getD (i+l.length) false=true/\d<0 then[((i+l.length:Nat):Int)]else[]
 | [],i=>by
  simp only[Oh,Je,OM,OH]
 | a::l,i=>by
  have ih:=Qbf lf d l (i+1);rw[show i+1+l.length=i+(a::l).length by simp;omega]at ih;simp only[On,Je,ih];by_cases h:lf.getD i false=true/\a<0
  .rw[O1 h,O1 h,MN]
  rw[O0 h,O0 h]
abbrev blP (l:LI):xF:=l.map λs=>(s,-1)
theorem Qdk {q:Pz}(hA:PzA [] ↑w bp q)(S:PzQ q)(hB:QP ↑w q.bl 4 (lf.map Value.bool))(hl:lf.length=q.n)(rk:Int):
  QZ sV 272 [sP bp,sS rk] w λr w'=>sW w w'/\RmO ↑w w' r rk 3 (blP (Je lf 0 (dsts q.a lf)))/\(Je lf 0 (dsts q.a lf)).length<=q.n:=by
 have hn:=S.n;have hy:=S.ok.st1;refine Zt func272 ?_;refine Qc<|Qb<|Qc<|Qb<|Qd<|Qj<|Qx<|(qe hA S hB hl).S ?_;rintro r1 T ⟨hg,b,rfl,hb,hh,V⟩;refine Zd (dsts q.a lf) λD hD=>?_;rw[hD]at hh V ⊢;have hi:QG [] ↑T (sL b q.n q.n) D:=by
  have h:=hh.arr (L:=[]) oe (n:=q.n) (cap:=q.n) (sz:=1) (by simp[V]) oa (Lu _);unfold QG;rw[V];exact h
 refine QE hi U<|Qa<|xe<|Q2 (α:=Nat×O9) [(5,7),(11,33)] (λz=>[(5,z.2),(11,sS z.1)]) (λz w'=>z.1<=D.length/\sW T w'/\RmO ↑T w' z.2 rk 3 (blP (Je lf 0 (D.take z.1)))) (λz=>D.length - z.1) (0,nS) oB ⟨Lp _,xj.Y _ _,QI _ _ _ _⟩ ?_;rintro⟨k,vo⟩ g w2 ⟨hk,J,I⟩;have hbl:=(Vk lf (D.take k) 0).2;rw[LB]at hbl;have Y:=hg.I J;refine Zi rfl U (λZ=>?_) (λZ=>?_)
 .refine Qt ?_;have hm:D.length<=k:=by have ho:¬(k:Int)<(D.length:Int):=Z;omega
  rw[Lt hm]at I;refine Qj<|Qb<|Qi ⟨[_],Lb,Y,Zv I hg.size,ov (Vk lf D 0).2⟩
 refine Qe ?_;have E:k<D.length:=by have ho:(k:Int)<(D.length:Int):=Z;omega
 have hp:D.take (k+1)=D.take k++[D[k]'E]:=Lo E;have H:=Qbf lf (D[k]'E) (D.take k) 0;rw[<-hp,LB,LS,Mu oa]at H;refine Zd (D[k]'E) λd hd=>?_;rw[hd]at H;refine Zd (Je lf 0 (D.take k)) λout hout=>?_;rw[hout]at H I hbl;have ha:k<lf.length:=oa
 have hr:lf[k]'ha=lf.getD k false:=by simp[oQ,ha]
 refine Qd<|Qn<|Qj<|xii (i:=k) (hi.J J) U U E λh0 hj=>?_;rw[hd]at hj;refine x (Qy hj U)<|x Qh<|Qb<|QX (α:=Bool) [(16,26)] (λz=>[(26,.bool z)]) (λz w'=>w'=w2/\(z=true↔lf.getD k false=true/\d<0)) om ?_ ?_
 .refine Qq<|Qa<|Z7 U<|Qm U (hA.J Y).B U U<|Qa<|x (QO (i:=k) U U oa)<|xB (b:=lf.getD k false) ((Kp (i:=k) (hB.J Y) U ha).I (by rw[hr])) (λhc=>?_) (λhc=>?_)
  .refine Qa<|Qa<|Ye U U<|QB U<|xe ?_;exact⟨_,Lb,U,by rw[hc];simp⟩
  refine Qa<|Z6<|QB U<|xe ?_;exact⟨_,Lb,U,by rw[hc];simp⟩
 rintro z g w3 ⟨rfl,hz⟩;refine Q6 rfl (λO=>?_) (λO=>?_)
 .rw[O1 (hz.1 O)]at H;refine Qq<|Qa<|Qa<|Qa<|x (Qv ⟨U,U,U,U,La⟩)<|Qo<|Zb [rmC rk 3 ((k:Int),-1)] λh1 w4 he h2 hs =>
   Qo<|Q9 (m:=1) (news:=rmC rk 3 ((k:Int),-1)) (Ql I he) U U U (hs.at (L:=[]) oe) oq (by rw[Lj];omega) (oy J.size he.size) λht w5 hv hw h3=>Qb<|Qq<|QH U U<|Qa<|xe ?_
  refine⟨(k+1,ht),og,oB,E,(J.I he).G hw (λb hb=>.inr (Qg I b hb).1),?_⟩;simp only[];rw[H,show blP (out++[(k:Int)])=blP out++[((k:Int),-1)] by simp];exact RmO.snoc hv
 rw[O0 (λh=>by rw[hz.2 h]at O;cases O),LT]at H;refine Qe<|Qq<|QH U U<|Qa<|xe ?_;exact⟨(k+1,vo),og,oB,E,J,by simp only[];rw[H];exact I⟩
def nxR (a:QU)(ul:LI)(lf:Lf):Int×xF:=if(lost a ul lf).length≠0 then(2,lost a ul lf)else(3,blP (Je lf 0 (dsts a lf)))
theorem Qgz (a:QU)(ul:LI)(lf:Lf):(nxR a ul lf).2.map (·.1)=nxs a ul lf:=by
 unfold nxR nxs;split
 .rfl
 rw[L4];exact List.map_id _
theorem Qj9 {q:Pz}(hA:PzA [] ↑w bp q)(H:PzQ q)(T:QP ↑w q.bl 4 (lf.map Value.bool))(V:lf.length=q.n)(rk:Int):
  QZ sV 233 [sP bp,sS rk,.bool true] w λr w'=>sW w w'/\RmO ↑w w' r rk (nxR q.a q.unc lf).1 (nxR q.a q.unc lf).2/\(nxR q.a q.unc lf).2.length<=1000000:=by
 have ha:=(QbZ q.a q.unc lf).2;have hh:=H.ok.ed_le;have hn:=H.n;have hi:=H.ok.st1;have E:nxR q.a q.unc lf=if(lost q.a q.unc lf).length≠0 then(2,lost q.a q.unc lf)else(3,blP (Je lf 0 (dsts q.a lf))):=rfl
 refine Zd (nxR q.a q.unc lf) λNR hb=>?_;rw[hb]at E ⊢;refine Zt func233 ?_;refine Qc<|Qb<|Qd<|Qj<|Qa<|Qx<|(Qka hA H T V rk).S ?_;rintro r1 w1 ⟨I,O⟩;refine Zd (lost q.a q.unc lf) λL hL=>?_;rw[hL]at O E ha;refine Qb<|QX (α:=Bool) [(11,17)] (λz=>[(17,.bool z)]) (λz w'=>w'=w1/\(z=true↔L.length≠0)) om ?_ ?_
 .refine Qq<|Qa<|QE (L:=[]) (QC O oa oe) rfl<|xb (ZX rfl rfl) (λS=>?_) (λS=>?_)
  .refine Qa<|Z6<|QB U<|xe ?_;exact⟨_,Lb,U,by have Y:(0:Int)<(L.length:Int):=S;simp;intro e;subst e;simp at Y⟩
  refine Qa<|Qa<|x (Zr U)<|QB U<|xe ?_;have Y:¬(0:Int)<(L.length:Int):=S;have hc:L.length=0:=oa
  exact⟨_,Lb,U,by rw[hc];simp⟩
 rintro z g w2 ⟨rfl,Z⟩;refine Q6 rfl (λJ=>?_) (λJ=>?_)
 .rw[O1 (Z.1 J)]at E;refine Qj<|Qb ?_;subst E;exact Qi ⟨[_],Lb,I,O,by show L.length<=_;omega⟩
 rw[O0 (λh=>by rw[Z.2 h]at J;cases J)]at E;refine Qe<|Qj<|Qa<|Qx<|(Qdk (hA.J I) H (T.J I) V rk).S ?_;rintro r3 w3 ⟨he,hg,hbl⟩;refine Qb ?_;subst E;exact Qi ⟨[_],Lb,I.I he,Zv hg I.size,by show(blP _).length<=_;rw[Lj];omega⟩
structure VR (base:Nat)(w:O8)(n:Nat)(f:Nat->O9)(g:Nat->List Ed):Prop where
 own:∀i,i<n->YR 159 base w (f i) (g i)
 dj:∀i j,i<n->j<n->i≠j->Dj (f i) (f j)
theorem VR.app {base:Nat}{f:Nat->O9}{g:Nat->List Ed}{l:List Ed}(h:VR base w n f g)(hi:i<n)(O:YR 159 base w' v' l)(S:xj (ob (f i)) w w')
  (T:∀b∈ob v',b∈ob (f i)\/↑w<=b):VR base w' n (Ut f i v') (Ut g i l):=by
 refine⟨λj E=>?_,λj k E hk H=>?_⟩
 .by_cases e:j=i
  .subst e;rw[Yx,Yx];exact O
  rw[Y1 _ _ e,Y1 _ _ e];exact Qf (h.own j E) S (h.dj j i E hi e)
 have key:∀j,j<n->j≠i->Dj v' (f j):=λj E e b V I=>by
  rcases T b V with J|J
  .exact h.dj i j hi E (Ne.symm e) b J I
  have:=Q3 (h.own j E) b I;omega
 by_cases e1:j=i
 .subst e1;rw[Yx,Y1 _ _ (Ne.symm H)];exact key k hk (Ne.symm H)
 rw[Y1 _ _ e1];by_cases e2:k=i
 .subst e2;rw[Yx];exact(key j E e1).symm
 rw[Y1 _ _ e2];exact h.dj j k E hk H
theorem VR.O {base:Nat}{X:LN}{f:Nat->O9}{g:Nat->List Ed}(h:VR base w n f g)(E:xj X w w')(H:∀i,i<n->∀b∈ob (f i),b∉X):VR base w' n f g :=
 ⟨λi hi=>Qf (h.own i hi) E (H i hi),h.dj⟩
theorem VR.J {base:Nat}{f:Nat->O9}{g:Nat->List Ed}(h:VR base w n f g)(E:sW w w'):VR base w' n f g:=h.O E (λ_ _ _ _=>oe)
def jX (es:List Ed)(s:Nat):List Ed:=Z2 es (s:Int)
theorem QhU (es:List Ed)(e:Ed)(E:0<=e.1):Ut (jX es) e.1.toNat (jX es e.1.toNat++[e])=jX (es++[e]):=by
 funext s;unfold jX Z2;rw[Mc];by_cases h:s=e.1.toNat
 .subst h;rw[Yx];have:e.1=(e.1.toNat:Int):=oa
  simp[<-this]
 rw[Y1 _ _ h];have:¬e.1=(s:Int):=oa
 simp[this]
theorem Qc9 (es:List Ed)(s:Nat):(jX es s).length<=es.length:=VE es _
def QfX (num:LI)(m:List (Int×O9)):Prop:=∀s:Nat,s<num.length->xt m (s:Int)=if xo num s<0 then none else some (sS (xo num s))
theorem VZ (l:LI)(k:Int):Yb l k=xo l k.toNat:=rfl
structure Vr (b4 mb:Nat)(r2:O9)(wS:O8)(c:Cs)(m:List (Int×O9))(vo vk ve:O9)(w:O8):Prop where
 st:xj [b4,mb] wS w
 B4:QP ↑w b4 66 [r2,sS 0,vk,ve]
 M:Yh Ui ↑w mb m
 nm:QfX c.num m
 o:Qp 3 ↑wS w vo c.ord
 k:Qp 3 ↑wS w vk c.mk'
 e:YR 159 ↑wS w ve c.ed
 d1:Dj vo vk
 d2:Dj vo ve
 d3:Dj vk ve
section
variable {b4 mb:Nat}{r2:O9}{wS:O8}{c:Cs}{m:List (Int×O9)}{vo:O9}{w'':O8}
theorem Vr.J (h:Vr b4 mb r2 wS c m vo vk ve w)(E:sW w w'):Vr b4 mb r2 wS c m vo vk ve w' :=
 ⟨h.st.I E,h.B4.J E,h.M.J E,h.nm,Ql h.o E,Ql h.k E,Ql h.e E,h.d1,h.d2,h.d3⟩
theorem Vr.setK (h:Vr b4 mb r2 wS c m vo vk ve w)(V:b4<wS.heap.size)(lm:mb<↑wS)(ne:mb≠b4){I:O9}(J:xj (ob vk) w w')(O:Qp 3 ↑wS w' I l)
  (S:∀b∈ob I,b∈ob vk\/↑w<=b) (H:xj [b4] w' w'') (T:QP ↑w'' b4 66 [r2,sS 0,I,ve]):Vr b4 mb r2 wS ⟨c.ord,c.num,l,c.ed⟩ m vo I ve w'' :=
 ⟨(h.st.G J (λb E=>.inr (Qg h.k b E).1)).G H (λb E=>.inl (by simp at E;simp[E])),T,(h.M.O J (QR h.k lm)).O H (oA ne),h.nm,
  Qf (Qf h.o J h.d1) H (λb E=>by have:=(Qg h.o b E).1;simp;omega),Qf O H (λb E=>by have:=(Qg O b E).1;simp;omega),
  Qf (Qf h.e J h.d3.symm) H (λb E=>by have:=(Qg h.e b E).1;simp;omega),h.d1.grow S (Q3 h.o),h.d2,(h.d3.symm.grow S (Q3 h.e)).symm⟩
theorem Vr.setE (h:Vr b4 mb r2 wS c m vo vk ve w)(V:b4<wS.heap.size)(lm:mb<↑wS)(ne:mb≠b4){I:O9}{l:List Ed}(J:xj (ob ve) w w')(O:YR 159 ↑wS w' I l)
  (S:∀b∈ob I,b∈ob ve\/↑w<=b) (H:xj [b4] w' w'') (T:QP ↑w'' b4 66 [r2,sS 0,vk,I]):Vr b4 mb r2 wS ⟨c.ord,c.num,c.mk',l⟩ m vo vk I w'' :=
 ⟨(h.st.G J (λb E=>.inr (Qg h.e b E).1)).G H (λb E=>.inl (by simp at E;simp[E])),T,(h.M.O J (QR h.e lm)).O H (oA ne),h.nm,
  Qf (Qf h.o J h.d2) H (λb E=>by have:=(Qg h.o b E).1;simp;omega),Qf (Qf h.k J h.d3) H (λb E=>by have:=(Qg h.k b E).1;simp;omega),
  Qf O H (λb E=>by have:=(Qg O b E).1;simp;omega),h.d1,h.d2.grow S (Q3 h.o),h.d3.grow S (Q3 h.k)⟩
theorem Vr.setN (h:Vr b4 mb r2 wS c m vo vk ve w)(lm:mb<↑wS)(ne:mb≠b4){I:List (Int×O9)}(H:xj [mb] w w')(hM:Yh Ui ↑w' mb I)(J:QfX l I):Vr b4 mb r2 wS ⟨c.ord,l,c.mk',c.ed⟩ I vo vk ve w' :=
 ⟨h.st.G H (λb E=>.inl (by simp at E;simp[E])),h.B4.O H (oA ne.symm),hM,J,Qf h.o H (λb E=>by have:=(Qg h.o b E).1;simp;omega),
  Qf h.k H (λb E=>by have:=(Qg h.k b E).1;simp;omega),Qf h.e H (λb E=>by have:=(Qg h.e b E).1;simp;omega),h.d1,h.d2,h.d3⟩
theorem Vr.setO (h:Vr b4 mb r2 wS c m vo vk ve w)(J:b4<wS.heap.size)(lm:mb<↑wS){H:O9}(E:xj (ob vo) w w')(O:Qp 3 ↑wS w' H l)
  (I:∀b∈ob H,b∈ob vo\/↑w<=b):Vr b4 mb r2 wS ⟨l,c.num,c.mk',c.ed⟩ m H vk ve w' :=
 ⟨h.st.G E (λb S=>.inr (Qg h.o b S).1),h.B4.O E (QR h.o J),h.M.O E (QR h.o lm),h.nm,O,Qf h.k E h.d1.symm,Qf h.e E h.d2.symm,
  (h.d1.symm.grow I (Q3 h.k)).symm,(h.d2.symm.grow I (Q3 h.e)).symm,h.d3⟩
end
theorem QfX.set {num:LI}{m:List (Int×O9)}(h:QfX num m){k:Nat}(hk:k<num.length){v:Int}(H:0<=v):QfX (num.set k v) (xu m (k:Int) (sS v)):=by
 intro s E;rw[L9]at E;rw[Xy];by_cases e:s=k
 .subst e;have:xo (num.set s v) s=v:=by unfold xo;simp[oQ,hk]
  rw[O1 rfl,this,O0 oa]
 rw[O0 oa];have:xo (num.set k v) s=xo num s:=by unfold xo;simp[oQ,OE (Ne.symm e)]
 rw[this];exact h s E
theorem QcX (i:Nat)(c:Cs)(m:LI)(e:Ed):ZB i ⟨c.ord,c.num,m,c.ed⟩ e=⟨(ZB i c e).ord,(ZB i c e).num,m,(ZB i c e).ed⟩/\(ZB i c e).mk'=c.mk':=by
 unfold ZB;split <;> exact⟨U,U⟩
theorem Qcd (i:Nat):∀(l:List Ed) (c:Cs) (m:LI),l.foldl (ZB i) ⟨c.ord,c.num,m,c.ed⟩=⟨(l.foldl (ZB i) c).ord,(l.foldl (ZB i) c).num,m,(l.foldl (ZB i) c).ed⟩/\(l.foldl (ZB i) c).mk'=c.mk'
 | [],c,m=>⟨U,U⟩
 | e::l,c,m=>by
  have E:=QcX i c m e;have H:=Qcd i l (ZB i c e) m;rw[LZ,LZ,E.1,H.1];exact⟨U,H.2.I E.2⟩
theorem Qan (i:Nat)(c:Cs)(e:Ed):∃r,(ZB i c e).ord=c.ord++r:=by
 unfold ZB;split
 .exact⟨_,rfl⟩
 exact⟨[],oe⟩
theorem QdI (i:Nat):∀(l:List Ed) (c:Cs),∃r,(l.foldl (ZB i) c).ord=c.ord++r
 | [],c=>⟨[],oe⟩
 | e::l,c=>by
  obtain⟨r1,E⟩:=Qan i c e;obtain⟨r2,H⟩:=QdI i l (ZB i c e);exact⟨r1++r2,by rw[LZ,H,E,LD]⟩
theorem QhV {c:Cs}(hi:i<c.ord.length):zM a i c=Ym a i ((Z2 a.ed (xo c.ord i)).foldl (ZB i) c):=by
 unfold zM;rw[VZ,MK];obtain⟨r,E⟩:=QdI i (Z2 a.ed (xo c.ord i)) c;unfold Ym;have H:Yb ((Z2 a.ed (xo c.ord i)).foldl (ZB i) c).ord (i:Int)=Yb c.ord (i:Int):=by
  rw[VZ,VZ,E];simp only[Ov];exact jy hi
 rw[H];split
 .rw[(Qcd i _ c _).1,((Qcd i (Z2 a.ed (xo c.ord i)) c c.mk').2)]
 rfl
theorem yR {q:Pz}(hA:PzA [] ↑w bp q)(hq:PzQ q)(hB:QP ↑w q.bl 4 (lf.map Value.bool))(hl:lf.length=q.n):
  QZ sV 237 [sP bp] w λr w'=>sW w w'/\∃v o,r=.tuple #[v,o]/\Xi ↑w ↑w' v (QeL q.a lf)/\o.oneCell'=true:=by
 have hn:=hq.n;have hst1:=hq.ok.st1;have ke:=hq.ok.ed_le;have hg:QeL q.a lf=if q.a.st=0\/lft lf 0=false then⟨q.a.al,0,[],[]⟩else Yg (rstr q.a lf):=rfl
 refine Zd (QeL q.a lf) λSA pg=>?_;rw[pg]at hg ⊢;refine Zt func237 ?_;refine Qc<|QL [nS,sS 0,nS,nS] λb2 w1 kf hb2 hC=>Qb ?_;have hl2:=hC.lt;have kg:=hA.J kf;refine Qj<|Z7 U<|QN U<|Qm U kg.B U U<|Qx<|(ZU kg.a.al).S ?_;rintro r2 w2 ⟨hN,hw⟩;have hz2:=hN.size;have hO:=Qp.ints (L:=[]) hw hA.a.al.le oe;refine x (Qv ⟨hO.cells,La⟩)<|QL [nS,sS 0,nS,nS] λb4 w3 ph pj hD =>
  QJ [r2,sS 0,nS,nS] hD ⟨hO.one,U,U,U,La⟩ λw4 pm hD=>xe ?_
 have V:sW w2 w4:=ph.Q pm pj;have Y:=kf.I hN;have hE:=Y.I V;have hl4:=hD.lt;have hz24:=V.size;have gl:=hA.J hE;have pn:∀b∈ob r2,b<w2.heap.size:=Q3 hw;refine Qd<|QX (α:=Bool) [(22,36)] (λz=>[(36,.bool z)]) (λz w'=>w'=w4/\(z=true↔(q.a.st=0\/lft lf 0=false))) om ?_ ?_
 .refine Qq<|Qa<|Z7 U<|QN U<|Qm U gl.B U U<|xb (QW U U) (λgm=>?_) (λgm=>?_)
  .refine Qa<|Zm<|Zm<|K4<|QB U<|xe ?_;exact⟨_,Lb,U,by simp[gm]⟩
  have gn:(0:Int).toNat<lf.length:=by
   have:0<q.n:=oa
   simp;omega
  have po:=qS (l:=lf) (s:=0) gn;refine Qa<|Qa<|Z7 U<|Qm U gl.B U U<|x (QO (i:=0) U U (by simp at gn;omega))<|x (v:=.bool (lft lf 0)) ((Kp (i:=0) (hB.J hE) U gn).I (by rw[<-po];rfl))<|x (Zr U)<|QB U<|xe ?_;exact⟨_,Lb,U,by simp[gm]⟩
 rintro z g w4 ⟨rfl,hz⟩;refine Q6 rfl (λhP=>?_) (λhP=>?_)
 .rw[O1 (hz.1 hP)]at hg;subst hg;refine Qc<|QV hD U U<|QJ [r2,sS 0,nS,nS] ((hC.J hN).J V) ⟨hO.one,U,U,U,La⟩ λw6 hF hC=>Qb<|Qi ⟨[.agg #[r2,sS 0,nS,nS],nS],⟨YO hC,U,La⟩,hE.Q hF oa,_,_,U,?_,U⟩;exact⟨r2,_,_,U,λL' hG=>⟨Qp.ints (Qf (Ql hw V) hF (λb E=>by have:=(Qg hw b E).1;simp;omega)) hA.a.al.le (λb E=>ov (hG b E)),Zk.nil _ _ _,Zk.nil _ _ _⟩⟩
 have kh:¬(q.a.st=0\/lft lf 0=false):=λh=>by rw[hz.2 h]at hP;cases hP
 rw[O0 kh]at hg;have pp:0<q.a.st:=by have:=hq.ok.st0;omega
 have ki:(rstr q.a lf).st.toNat=q.n:=by show q.a.st.toNat=q.n;omega
 unfold Yg at hg;rw[O0 (show ¬(rstr q.a lf).st=0 from λh=>kh (.inl h)),ki]at hg;refine Qe<|Qj<|Z7 U<|QN U<|Qm U gl.B U U<|Qo<|KC (n:=q.n) (O2 sS hn) (O2 sS hn) oa λbE w6 hF pu go=>Qb ?_;rw[QjT]at go;have hlE:=go.lt;have kj:=hA.J (hE.I hF);refine Qd<|Qj<|Z7 U<|QN U<|Qm U kj.B U U<|QE kj.a.ed U<|Qa<|xe<|Q2 (α:=Nat×(Nat->O9)) [(7,7),(50,74)] (λz=>[(50,sS z.1)]) (λz w'=>z.1<=q.a.ed.length/\xj [bE] w6 w'/\QP ↑w' bE 64 ((oT q.n).map z.2)/\VR ↑w6 w' q.n z.2 (jX ((q.a.ed.take z.1).filter λe=>lft lf e.2.2))) (λz=>q.a.ed.length - z.1) (0,λ_=>nS) Lb
  ⟨Lp _,xj.Y _ _,go,⟨λi _=>QI _ _ _ _,λi j _ _ _=>Dj.nil _⟩⟩ ?_
 rintro⟨k,rv⟩ g w7 ⟨hk,hQ,kk,Z⟩;have hH:sW w4 w7:=hF.Q hQ pu;have gp:=hE.I hH;have hz7:=hQ.size;have kn:=hA.J gp;refine Zi rfl U (λgq=>?_) (λgq=>?_)
 .refine Qt ?_;have pw:q.a.ed.length<=k:=by have hS:¬(k:Int)<(q.a.ed.length:Int):=gq;omega
  rw[Lt pw]at Z;have Z:VR ↑w6 w7 q.n rv (jX (rstr q.a lf).ed):=Z;have ko:(rstr q.a lf).ed.length<=q.a.ed.length:=Mt _ _;refine Qc<|Qo<|YZ Ui λmb w8 gr pz p0=>Qo<|Jl (k:=(0:Int)) p0 U U λI gs kq=>Qa<|Qb ?_;have O:sW w7 I:=gr.Q gs pz;have p1:=O.size;have hT:=kq.lt;refine Qc<|Qo<|Zb [[sS 0]] λkr gt hy hb77 p2=>Qb<|Qd<|Qc<|Qb ?_;have gu:mb≠b4:=oa
  have hJ:b4<I.heap.size:=oa
  have p3:=gp.I O;have gv:∀b∈[b4,mb],↑w2<=b:=λb E=>by simp only[oM,oL,or_false]at E;omega
  have p4:PzA [b4,mb] ↑I bp q:=((hA.J Y).up (λb E=>.inr (gv b E))).J (V.I (hH.I O));have hlw:=hB.lt;have kt:∀s,s<q.n->zW [b4,mb] ↑I (rv s) (jX (rstr q.a lf).ed s):=λs hs=>QC (Ql (Z.own s hs) O) (ov (Qc9 (rstr q.a lf).ed s)) (λb E hm=>by
   have h1:=(Qg (Z.own s hs) b E).1;have h2:=Q3 (Z.own s hs) b E;simp only[oM,oL,or_false]at hm;omega)
  have hK:=kk.J O;have ku:∀b,b<↑w2->b∉[b4,mb]:=λb E hm=>ov (gv b hm)
  have p5:bE∉[b4,mb]:=ot
  have p6:QP ↑I b4 66 [r2,sS 0,nS,nS]:=((hD.J hH)).J O;have p7:QP ↑I b2 66 [nS,sS 0,nS,nS]:=((hC.J hN).J V).J (hH.I O);have p8:=Ql hw (V.I (hH.I O));have p9:Qp 3 ↑I gt (sL kr 1 1) [0]:=p2.own (n:=1) (sz:=1) U oa oa;have kv:QfX (YX (rstr q.a lf)).num (xu [] (0:Int) (sS 0)):=by
   have h0:QfX (oK q.n (-1)) ([]:List (Int×O9)):=λs hs=>by
    have qc:s<q.n:=by simpa using hs
    have:xo (oK q.n (-1)) s=-1:=by unfold xo;simp[oQ,qc]
    rw[this];rfl
   have h1:=h0.set (k:=0) (by simp;omega) (v:=0) (Ng _);unfold YX;rw[ki];exact h1
  have gw:∀e∈(rstr q.a lf).ed,0<=e.1/\e.1<q.a.st/\0<=e.2.2/\e.2.2<q.a.st:=λe he=>by have:=(Qav hq.ok lf).ed e he;exact⟨this.1,this.2.1,this.2.2.2.1,this.2.2.2.2⟩
  have kw:UI q.a.st (YX (rstr q.a lf)):=Qhu (a:=rstr q.a lf) pp;have kx:(rstr q.a lf).mr=q.a.mr:=rfl;refine Zd (rstr q.a lf) λR hR=>?_;rw[hR]at hg kt kv gw kw kx ko;have qf:R.al=q.a.al:=by rw[<-hR];rfl
  have hnN:q.a.st.toNat=q.n:=oa
  refine Q2 (α:=Nat×Cs×List (Int×O9)×O9×O9×O9) [(9,10),(12,14),(78,142)] (λz=>[(9,z.2.2.2.1),(10,sS z.1)])
   (λz w'=>Vr b4 mb r2 I z.2.1 z.2.2.1 z.2.2.2.1 z.2.2.2.2.1 z.2.2.2.2.2 w'/\z.1<=z.2.1.ord.length/\UI q.a.st z.2.1/\z.2.1.mk'.length<=z.1/\z.2.1.ed.length<=z.1*131072/\Jd R (q.n - z.1) z.1 z.2.1=Jd R q.n 0 (YX R)) (λz=>q.n - z.1) (0,YX R,xu [] (0:Int) (sS 0),sL kr 1 1,nS,nS) oB
   ⟨⟨hy.any,p6.J hy,kq.J hy,kv,p9,QI _ _ _ _,QI _ _ _ _,Dj.nil' _,Dj.nil' _,Dj.nil' _⟩,Lp _,kw,Lp _,Lp _,U⟩ ?_
  rintro⟨i,c,m,vo,vk,ve⟩ g ql ⟨S,hi,H,qo,qr,gx⟩;simp only[]at S hi H qo qr gx;have hcle:=H.le;have hU:=Qp.ints (L:=[]) S.o oa oe;refine Qd<|Qj<|Qa<|QE hU U<|Ye U U<|xe<|ZI U (λq0=>?_) (λq0=>?_)
  .refine Qt ?_;have q1:c=Jd R q.n 0 (YX R):=by rw[<-gx,Qbb oa]
   refine Qj<|QE hU U<|QN U<|Qo<|Qw S.B4 U U oe rfl λh3 Y hh=>xe ?_;have q2:=Qp.ints (L:=[]) S.k oa oe;have q3:=YR.eds (L:=[]) S.e (ov H.el) oe;refine Qc<|QV hh U U<|Qa<|QJ [r2,sS c.ord.length,vk,ve] ((p7.O S.st (ku _ oa)).O Y (by simp;omega)) ⟨hO.one,U,q2.one,q3.one,La⟩ λq4 hV q5=>Qb ?_;have hE1:xj [b4,mb] I h3:=S.st.G Y (λb E=>.inl (by simp at E;simp[E]));have za:sW w q4:=(p3.G hE1 (λb E=>.inr (ov (gv b E)))).Q hV oa;refine Qi ⟨[.agg #[r2,sS c.ord.length,vk,ve],vo],⟨YO q5,U,La⟩,za,_,_,U,?_,hU.one⟩;rw[<-q1]at hg;subst hg;have k1:=Qf (Qf S.k Y (λb E=>by have:=(Qg S.k b E).1;simp;omega)) hV (λb E=>by have:=(Qg S.k b E).1;simp;omega);have k2:=Qf (Qf S.e Y (λb E=>by have:=(Qg S.e b E).1;simp;omega)) hV (λb E=>by have:=(Qg S.e b E).1;simp;omega);have k3:=Qf (Qf p8 hE1 (λb E=>ku b (pn b E))) hV (λb E=>by have:=(Qg hw b E).1;simp;omega);exact⟨r2,vk,ve,U,λL' hG=>⟨by rw[qf];exact Qp.ints k3 hA.a.al.le (λb E=>ov (hG b E)),Qp.ints k1 (by show c.mk'.length<=_;omega) (λb E=>ov (hG b E)),YR.eds k2 (by show c.ed.length<=_;have:=H.el;omega) (λb E=>ov (hG b E))⟩⟩
  have J:i<c.ord.length:=oa
  refine Qe ?_;have kz:=Zx J;have hsr:=H.ord _ (KW J);have ho:=QhV (a:=R) J;refine Zd (xo c.ord i) λs0 k0=>?_;rw[k0]at kz hsr ho;have k5:s0=(s0.toNat:Int):=oa
  have gy:s0.toNat<q.n:=oa
  have zb:jX R.ed s0.toNat=Z2 R.ed s0:=by unfold jX;rw[<-k5]
  have hW:=kt s0.toNat gy;rw[zb]at hW;have zv:=VE R.ed s0;have k6:∀e∈Z2 R.ed s0,0<=e.2.2/\e.2.2<q.a.st:=λe he=>⟨(gw e (ZY he).1).2.2.1,(gw e (ZY he).1).2.2.2⟩;refine Zd (Z2 R.ed s0) λos z1=>?_;rw[z1]at hW zv k6 ho;refine Qd<|Qn<|Qd<|Qj<|Qa<|Qa<|xii (i:=i) hU U U J λa87 k7=>?_;rw[kz]at k7;refine x (Qy k7 U)<|x (QO (i:=s0.toNat) U (O2 sS k5) gy)<|Xe (u:=rv s0.toNat) (hK.O S.st p5) U (Qc8 gy)<|QE (hW.st S.st) U<|Qa<|xe<|Q2 (α:=Nat×Cs×List (Int×O9)×O9×O9) [(9,9),(12,14),(92,126)] (λz=>[(9,z.2.2.2.1),(92,sS z.1)])
   (λz w'=>Vr b4 mb r2 I z.2.1 z.2.2.1 z.2.2.2.1 vk z.2.2.2.2 w'/\z.1<=os.length/\UI q.a.st z.2.1/\z.2.1.mk'=c.mk'/\z.2.1.ed.length=c.ed.length+z.1/\(∃r,z.2.1.ord=c.ord++r)/\(os.drop z.1).foldl (ZB i) z.2.1=os.foldl (ZB i) c) (λz=>os.length - z.1) (0,c,m,vo,ve) oB
   ⟨S,Lp _,H,U,U,⟨[],oe⟩,rfl⟩ ?_
  rintro⟨k4,d,m4,hX,hY⟩ g h3 ⟨hj,z2,T,gz,k8,hZ,h4⟩;simp only[]at hj z2 T gz k8 hZ h4;have hcle4:=T.le;have z3:=Qp.ints (L:=[]) hj.o oa oe;have g0:i<d.ord.length:=by obtain⟨r,hr⟩:=hZ;rw[hr,Ln];omega
  have k9:xo d.ord i=s0:=by obtain⟨r,hr⟩:=hZ;rw[hr,jy J];exact k0
  refine Zi U U (λh93=>?_) (λh93=>?_)
  .refine Qt ?_;rw[Lx oa,NL]at h4;rw[<-h4]at ho;have ma:=p4.st hj.st;have hg4:d.ord[i]'g0=s0:=by rw[Zx g0];exact k9
   have hmkC:Ym R i d=if s0∈q.a.mr then⟨d.ord,d.num,d.mk'++[(i:Int)],d.ed⟩else d:=by
    unfold Ym;rw[VZ,MK,k9,kx]
   rw[hmkC]at ho;have ga:Jd R (q.n - (i+1)) (i+1) (zM R i c)=Jd R q.n 0 (YX R):=by
    rw[<-gx];obtain⟨t,ht⟩:∃t,q.n - i=t+1:=⟨q.n - i - 1,oa⟩;rw[ht,Jd,O1 J,show q.n - (i+1)=t by omega]
   have hm4l:=O2 oR gz;refine Qd<|ZH [] (Xf 0 10 [9])<|p QA<|p (Xj U)<|p (QF U)<|p (QF U)<|pq (λ_ H=>Qk (ma.B.J H) U U)<|p QA <|
    p QA<|pii (i:=i) U z3 U U g0 λa134 mf=>?_
   rw[hg4]at mf;refine pq (λ_ H=>Qy (mf.J H) U)<|pk<|xg<|(Yn (ma.a.mr.J (xj.X _ _)) s0).S ?_;rintro r16 w16 ⟨rfl,rfl⟩;refine⟨xj.X _ _,pe ?_⟩;have ha:=hj.J (xj.X [] h3);refine ZI U (λg2=>?_) (λg2=>?_)
   .rw[O0 g2]at ho;refine Qe<|Qq<|Qa<|QH U U<|Qb ?_;rw[ho]at ga;exact⟨(i+1,d,m4,hX,vk,hY),og,oB,ha,og,T,og,og,ga⟩
   rw[O1 g2]at ho;refine Qq<|Qm U ha.B4 U U<|Qa<|Qo<|Zb [[sS i]] λb140 w17 hs17 hb140 hB140=>?_;have hL:=ha.J hs17;refine Qo<|Q9 (news:=[sS i]) (L:=[]) hL.k U U U (hB140.at oe) oq oa hL.st.size λmg w18 mh mj hn18=>?_;have hk18:Qp 3 ↑I w18 mg (d.mk'++[(i:Int)]):=Qp.snoc mh;refine QN U<|Qo<|Qw (hL.B4.O mj (QR hL.k hJ)) U U oe (Qr mh) λw19 hs19 hB19=>xe ?_;have hI19:=hL.setK hJ hT gu mj hk18 hn18 hs19 hB19;refine Qq<|Qa<|QH U U<|Qb ?_;rw[ho]at ga;exact⟨(i+1,⟨d.ord,d.num,d.mk'++[(i:Int)],d.ed⟩,m4,hX,mg,hY),og,oB,hI19,og,⟨T.nl,T.sum,T.ord,T.num,T.el⟩,by simp only[oN,oP];omega,og,ga⟩
  refine Qe ?_;have gb:k4<os.length:=oa
  have hdr:=Zz gb;rw[hdr,LZ]at h4;have g3:=k6 _ (Lm gb);refine Zd (os[k4]'gb) λe he=>?_;rw[he]at h4 g3;have gc:e.2.2=(e.2.2.toNat:Int):=oa
  have gg:e.2.2.toNat<d.num.length:=by rw[T.nl];omega
  have mo:=hj.nm e.2.2.toNat gg;rw[<-gc]at mo;have mq:Yb d.num e.2.2=xo d.num e.2.2.toNat:=rfl;refine Qd<|Qn<|Qc<|xie (hW.st hj.st) U U gb λa94 ms=>?_;rw[he]at ms;refine x (Qu ms U U)<|QL [sS 0,sS 0,sS 0] λb12 w20 hs20 g4 hh=>QJ (Qz e) hh oC λgh hs21 hh=>xe ?_;have mt:sW h3 gh:=hs20.Q hs21 g4;have ha:=hj.J mt;have hl12:=hh.lt;have hz21:=mt.size;have hIz:=hj.st.size;have hc5:UI q.a.st (ZB i d e):=QcW T g3.1 g3.2 (ov T.el);have mu:ZB i d e=⟨(YB d e).ord,(YB d e).num,(YB d e).mk',(YB d e).ed++[((i:Int),e.2.1,Yb (YB d e).num e.2.2)]⟩:=yy gg;refine QX (α:=O9) [(13,14),(96,102)] (λz=>[(13,sS (if xo d.num e.2.2.toNat<0 then 0 else xo d.num e.2.2.toNat)),(14,.bool (!decide (xo d.num e.2.2.toNat<0)))]) (λz w'=>w'=gh) om ?_ ?_
  .refine Qq<|Qa<|Qm U hh U U<|x (v:=.tuple #[sS (if xo d.num e.2.2.toNat<0 then 0 else xo d.num e.2.2.toNat),.bool (!decide (xo d.num e.2.2.toNat<0))]) ((VC (k:=e.2.2) ha.M U U).I (O2 (λv=>Result.ok (Next.value v) _) ?_))<|Qa<|QS U U<|QS U U<|x Qh<|Qb ?_
   .rw[mo];by_cases hp:xo d.num e.2.2.toNat<0
    .simp[hp]
    simp[hp]
   exact⟨.bool true,oB,U⟩
  rintro z5 g gh rfl;refine QX (α:=O9×List (Int×O9)×Int) [(9,9),(13,13),(103,115)] (λz=>[(9,z.1),(13,sS z.2.2)]) (λz w'=>xo (YB d e).num e.2.2.toNat=z.2.2/\Vr b4 mb r2 I (YB d e) z.2.1 z.1 vk hY w'/\QP ↑w' b12 159 (Qz e)/\gh.heap.size<=↑w') om ?_ ?_
  .refine Qj<|x (Zr U)<|xe<|Q6 U (λg5=>?_) (λg5=>?_)
   .have hp:xo d.num e.2.2.toNat<0:=by simpa using g5
    have hM:YB d e=⟨d.ord++[e.2.2],d.num.set e.2.2.toNat d.ord.length,d.mk',d.ed⟩:=by unfold YB;rw[mq,O1 hp]
    have hcg:xo (YB d e).num e.2.2.toNat=(d.ord.length:Int):=by rw[hM];unfold xo;simp[oQ,gg]
    refine Qj<|QE (Qp.ints (L:=[]) ha.o oa oe) rfl<|Qb<|Qj<|Qm rfl hh rfl rfl<|Qa<|Qo<|XN (k:=e.2.2) ha.M rfl rfl λw22 g6 hM22=>xe ?_;have mv:=ha.nm.set gg (v:=(d.ord.length:Int)) oa;rw[<-gc]at mv;have hI6:=ha.setN hT gu g6 hM22 mv;have gi:=hh.O g6 (by simp;omega);refine Qq<|Qa<|Qm U gi U U<|Qo<|Zb [[sS e.2.2]] λb114 w23 g7 hb114 hB114=>?_;have g8:=hI6.J g7;refine Qo<|Q9 (news:=[sS e.2.2]) (L:=[]) g8.o U U U (hB114.at oe) oq (by show d.ord.length+1<=_;omega) g8.st.size λv24 w24 ho24 V hn24=>Qb ?_;have hk24:Qp 3 ↑I w24 v24 (d.ord++[e.2.2]):=Qp.snoc ho24;have hb12o:b12∉ob hX:=λE=>ov (Q3 hj.o b12 E)
    have h5:=g8.setO hJ hT V hk24 hn24;have:=g6.size;have:=g7.size;have:=V.size;refine⟨(v24,xu m4 e.2.2 (sS d.ord.length),(d.ord.length:Int)),oB,hcg,?_,(gi.J g7).O V hb12o,oa⟩;simp only[];rw[hM];exact h5
   have hp:¬xo d.num e.2.2.toNat<0:=by simpa using g5
   have hM:YB d e=d:=by unfold YB;rw[mq,O0 hp]
   have ke:(if xo d.num e.2.2.toNat<0 then 0 else xo d.num e.2.2.toNat)=xo (YB d e).num e.2.2.toNat:=by rw[hM,O0 hp]
   refine Qe<|⟨(hX,m4,if xo d.num e.2.2.toNat<0 then 0 else xo d.num e.2.2.toNat),oB,ke.symm,?_,hh,Lu _⟩
   rw[hM];exact ha
  rintro⟨vo5,m5,tn⟩ g w25 ⟨mw,h5,gi,hz25⟩;simp only[]at h5 mw;have my:(YB d e).ed=d.ed:=by unfold YB;split <;> rfl
  have hgN:Yb (YB d e).num e.2.2=xo (YB d e).num e.2.2.toNat:=rfl;rw[hgN,my,mw]at mu;have heN:YR 159 ↑I w25 hY d.ed:=by have:=h5.e;rw[my]at this;exact this
  refine Qq<|Qm U h5.B4 U U<|Qa<|Qm U gi U U<|Qa<|x (Qv ⟨U,U,U,La⟩) <|
   Qo<|Zb [Qz ((i:Int),e.2.1,tn)] λb123 w26 mz hb123 hB123=>?_
  have gj:=h5.J mz;refine Qo<|Q9 (m:=1) (news:=Qz ((i:Int),e.2.1,tn)) (L:=[]) (Ql heN mz) U U U (hB123.at oe) (λu hu=>by simp only[Qz,oM,oL,or_false]at hu;rcases hu with rfl|rfl|rfl <;> rfl) (ov T.el) gj.st.size λm2 w27 m3 m6 hn27=>?_
  have hk27:YR 159 ↑I w27 m2 (d.ed++[((i:Int),e.2.1,tn)]):=YR.snoc m3;refine QN U<|Qo<|Qw (gj.B4.O m6 (QR gj.e hJ)) U U oe (Qr m3) λw28 hs28 hB28=>xe ?_;have m7:=gj.setE hJ hT gu m6 hk27 hn27 hs28 hB28;rw[<-mu]at m7;refine Qq<|QH U U<|Qa<|xe<|⟨(k4+1,ZB i d e,m5,vo5,m2),og,oB,m7,og,hc5,?_,?_,?_,h4⟩
  .simp only[];rw[<-gz];exact(QcX i d [] e).2
  .simp only[];rw[QcY,k8];omega
  simp only[];obtain⟨r1,h1⟩:=Qan i d e;obtain⟨r2',h2⟩:=hZ;exact⟨r2'++r1,by rw[h1,h2,LD]⟩
 refine Qe ?_;have J:k<q.a.ed.length:=by have hS:(k:Int)<(q.a.ed.length:Int):=gq;omega
 have m8:=hq.ok.ed _ (Lm J);have htk:q.a.ed.take (k+1)=q.a.ed.take k++[q.a.ed[k]'J]:=Lo J;have h6:(q.a.ed.take (k+1)).filter (λe=>lft lf e.2.2)=(q.a.ed.take k).filter (λe=>lft lf e.2.2)++if lft lf (q.a.ed[k]'J).2.2=true then[q.a.ed[k]'J]else[]:=by
  rw[htk,Mc];congr 1;by_cases h:lft lf (q.a.ed[k]'J).2.2=true
  .simp[h]
  simp[h]
 have hfll:((q.a.ed.take k).filter (λe=>lft lf e.2.2)).length<=k:=LJ (Mt _ _) (by rw[LB];omega);refine Zd ((q.a.ed.take k).filter (λe=>lft lf e.2.2)) λkept hkept=>?_;rw[hkept]at h6 Z hfll;refine Zd (q.a.ed[k]'J) λe he=>?_;rw[he]at m8 h6;have m9:e.1=(e.1.toNat:Int):=oa
 have gc:e.2.2=(e.2.2.toNat:Int):=oa
 have hv:e.1.toNat<q.n:=oa
 refine Qd<|Qn<|Qc<|xie kn.a.ed U U J λa52 hS=>?_;rw[he]at hS;refine x (Qu hS U U)<|QL [sS 0,sS 0,sS 0] λb7 w8 gr hb7 h7=>QJ (Qz e) h7 oC λI gs h7=>xe ?_;have O:sW w7 I:=gr.Q gs hb7;have p1:=O.size;have g9:=Z.J O;have hK:=kk.J O;refine Qd<|ZH [] (Xf 0 8 [])<|p QA<|p (Xj U)<|p (QF U)<|pq (λ_ H=>Qk ((kn.J O).B.J H) U U)<|p (QF U)<|pq (λ_ H=>Qk (h7.J H) U U) <|
  p (λ_=>QO (i:=e.2.2.toNat) U (O2 sS gc) oa)<|pq (v:=.bool (lft lf e.2.2)) (λ_ H=>(Kp (i:=e.2.2.toNat) ((hB.J (gp.I O)).J H) U oa).I (by rw[(qS (l:=lf) (s:=e.2.2) oa)]))<|pe ?_
 have h8:sW I { I with drawn:=I.drawn+1 }:=xj.X _ _
 refine Q6 rfl (λka=>?_) (λka=>?_)
 .rw[O1 ka]at h6;have kb:∀b∈ob (rv e.1.toNat),↑w6<=b/\b<w7.heap.size:=λb E=>⟨(Qg (Z.own _ hv) b E).1,Q3 (Z.own _ hv) b E⟩;have pa:bE∉ob (rv e.1.toNat):=λE=>ov (kb _ E)
  have kc:b7∉ob (rv e.1.toNat):=λE=>ov (kb _ E)
  have ko:=Qc9 kept e.1.toNat;refine UF (xj (ob (rv e.1.toNat)) I) [oE 0,oE 1,oE 2,oE 3,oE 4,oE 5,oE 6,oE 7,oE 8,oF 9,oF 10,oE 11,oF 12] mixed om od (h8.any.V (xj.X _ _)) ?_;refine p QA<|p (QF U)<|pq (λ_ H=>Qk (h7.O H kc) U U)<|p QA<|p (QF U) <|
   pq (λ_ H=>Qk (h7.O H kc) U U)<|p (λ_=>QO (i:=e.1.toNat) U (O2 sS m9) hv)<|pq (λ_ H=>Qk (u:=rv e.1.toNat) (hK.O H pa) U (Qc8 hv)) <|
   pq (λ_ H=>ZN (h7.O H kc) U U)<|pk<|Zb [Qz e] λb71 gt hy hb71 hB71=>⟨(h8.any.V (xj.X _ _)).V hy.any,?_⟩
  have h9:sW I gt:=(h8.I (xj.X _ _)).I hy;have hz10:=h9.size;refine pk<|Q9 (m:=1) (news:=Qz e) (L:=[]) (Ql (g9.own _ hv) h9) U U U (hB71.at oe) (λu hu=>by simp only[Qz,oM,oL,or_false]at hu;rcases hu with rfl|rfl|rfl <;> rfl) oa oa λvr ql pc gk hn11=>⟨h9.any.V gk,?_⟩
  have hlen:((oT q.n).map rv).length=q.n:=oe
  refine p (λ_=>QO (i:=e.1.toNat) U (O2 sS m9) hv)<|pkk<|Qw (j:=0+e.1.toNat*1) (u:=vr) ((hK.J h9).O gk pa) U U (by rw[hlen];omega) (Qr pc) λh3 Y hBE12=>pe ?_;have g4:QP ↑h3 bE 64 ((oT q.n).map (Ut rv e.1.toNat vr)):=by
   have e1:=Qjm id q.n rv e.1.toNat vr;simp only[id]at e1;rw[<-e1];simpa using hBE12
  have hvn:∀b∈ob vr,b∈ob (rv e.1.toNat)\/↑I<=b:=λb E=>(hn11 b E).imp id (λh=>oa);have pd:=g9.app hv (YR.snoc pc) (h9.any.V gk) hvn;have pf:=pd.O Y (λi hi b E=>by have:=(Qg (pd.own i hi) b E).1;simp only[oJ];omega);rw[QhU kept e m8.1,<-h6]at pf;refine Qq<|QH U U<|Qa<|xe ?_;exact⟨(k+1,Ut rv e.1.toNat vr),og,Lb,J,(((hQ.I O).I h9).G gk (λb E=>.inr (kb b E).1)).V Y,g4,pf⟩
 rw[O0 (by rw[ka];decide),LT]at h6;refine Qe<|Qq<|QH U U<|Qa<|xe ?_;exact⟨(k+1,rv),og,Lb,J,(hQ.I O).I h8,(hK.J h8),by simp only[];rw[h6];exact g9.J h8⟩
open Go.Sort
abbrev Rz:={ x:Int×Int×Int×Int // 0<=x.1/\x.1<4096 }
instance:Inhabited Rz:=⟨⟨(0,0,0,0),oh⟩⟩
abbrev zJ (x:Rz):LV:=[sS x.1.1,sS x.1.2.1,sS x.1.2.2.1,sS x.1.2.2.2]
abbrev RzO (base:Nat)(w:O8)(v:O9)(l:List Rz):Prop:=w.ownsRow base 261 4 v l.length (l.flatMap zJ)
theorem Qs2 (x y:Rz)(W:O8):Calls sV 235 #[sT (zJ x),sT (zJ y)] W λe w'=>e=.returned (sS (x.1.1 - y.1.1))/\∃q os',w'=grow (W.drewN q) os':=by
 have E:IntKind.i64.wrap (x.1.1 - y.1.1)=x.1.1 - y.1.1:=YM ⟨oy x.2 y.2,oy x.2 y.2⟩
 go_enter func235,ntmps235
 go_wp2
 go_ret;exact⟨by rw[<-E];rfl,0,_,by rw[alloc_eq_grow,alloc_eq_grow,grow_grow];rfl⟩
theorem QbD (x:Rz):(zJ x).length=4:=rfl
theorem QbC:∀l:List Rz,(l.flatMap zJ).length=l.length*4
 | []=>rfl
 | x::l=>by rw[LQ,Ln,QbC l,QbD,LX];omega
theorem Qgh {l:List Rz}(J:j<l.length*4):(l.flatMap zJ)[j]?=some ((flatK zJ 4 l.toArray)[j]!):=by
 have E:j / 4<l.length:=Nat.div_lt_of_lt_mul oa;have H:j % 4<4:=NF _ oh;rw[get_flatK _ _ _ _ (oA J)];have O:(l.flatMap zJ)[j]?=(zJ (l[j / 4]'E))[j % 4]?:=by
  rw[<-(Xo zJ 4 QbD l (j / 4) E),L3,O1 H,MF];congr 1;omega
 rw[O];have S:(l.toArray)[j / 4]! = l[j / 4]'E:=by simp[E]
 rw[S];have I:j % 4<(zJ (l[j / 4]'E)).length:=H;exact(LE I).I (O2 some (getElem!_pos (zJ (l[j / 4]'E)) (j % 4) I).symm)
theorem QbB:SWO (ltOf λx y:Rz=>x.1.1 - y.1.1) where
 irrefl x:=by unfold ltOf;simp
 trans x y z h1 h2:=by unfold ltOf at *;simp at *;omega
 ntrans x y z h1 h2:=by unfold ltOf at *;simp at *;omega
def zH (l:List Rz):List Rz:=(pdq (ltOf λx y:Rz=>x.1.1 - y.1.1) l.toArray 0 l.toArray.size (Go.Lib.bitLen l.toArray.size) true true).toList
theorem yA (l:List Rz):(zH l).length=l.length:=by
 unfold zH;simpa using((pdq_sorts (ltOf λx y:Rz=>x.1.1 - y.1.1) QbB l.toArray 0 l.toArray.size (Go.Lib.bitLen l.toArray.size) true true (Lp _) (Lu _) (Or.inl rfl)).1.1)
theorem QhO {base:Nat}{v:O9}{l:List Rz}(h:RzO base w v l)(hl:l.length<=1099511627776):
  QZ sV 234 [v,.func (.func 235) #[] #[]] w λ_ w'=>xj (ob v) w w'/\RzO base w' v (zH l):=by
 unfold QZ;rcases h.2 with⟨rfl,h0⟩|⟨g,cap,cur,rfl,hb,J,hh,hm,ho,hp⟩
 .have hq:l=[]:=LA h0;subst hq;have I:=AnyF.slices_SortFunc_none Tryz.sortRm none 0 (.func (.func 235) #[] #[]) w;change Calls sV 234 _ _ _ at I;refine Calls.mono I λe w' O=>?_;obtain⟨rfl,rfl⟩:=O;rw[show zH []=[] from LA (yA [])];exact⟨xj.Y _ _,h⟩
 have Y:g<w.heap.size:=(LP.1 J).1;have hH:HoldsK zJ 4 w g 0 l.toArray:=by
  intro j E;rw[size_flatK,LU]at E;have Z:=Qgh E;rw[<-hp,L3,O1 E]at Z;constructor
  .show(match w.heap[g]? with|some (.cells c _ _)=>if(none:Option _).isSome then none else c[0+j]?|_=>none)=_
   rw[J];simp only[oZ,OI,OJ,if_false];rw[<-Mx,Z];rfl
  show(match w.heap[g]? with|some (.cells _ _ (lo,hi))=>decide (lo<=0+j) && decide (0+j<hi)|_=>false)=false
  rw[J];simp
 have eg:∀args w,(callFunc 235 args).run sV w=.ok (.enter 235 args) w:=enters_of func235 od U;have I:=AnyQ.slices_SortFunc_eq Tryz.sortRm 4 isAgg261 sizeOf261 zJ QbD (λx v hv=>by simp at hv;rcases hv with rfl|rfl|rfl|rfl <;> rfl) (λx y=>x.1.1 - y.1.1) QbB 235 #[] g 0 cap l.toArray w eg (λm os dk _ x y=>Qs2 x y _) hH Y (by simp;omega)
 change Calls sV 234 _ _ _ at I;rw[LU]at I;refine Calls.mono I λe w' O=>?_;obtain⟨rfl,n,os,rfl⟩:=O;refine Zd (zH l).toArray λH S=>?_;have T:H.size=l.length:=by rw[<-S];simpa using yA l
 have hr:zH l=H.toList:=by rw[<-S]
 have ha:pdq (ltOf λx y:Rz=>x.1.1 - y.1.1) l.toArray 0 l.toArray.size (Go.Lib.bitLen l.toArray.size) true true=H:=by rw[<-S];unfold zH;simp
 rw[LU]at ha;rw[ha,hr];have V:(sortWorldK zJ 4 w g 0 n H os).heap=w.heap.modify g (onCells (putCells id 0 (flatK zJ 4 H)))++os:=rfl;refine⟨⟨rfl,U,U,?_,λk hk hn=>?_⟩,?_⟩
 .rw[V,M5,Mn];omega
 .rw[V,Ms,Mn,O1 hk,MD,O0 (λe=>hn (by simp[ob,e]))]
 refine⟨QbC _,.inr ⟨g,cap,putCells id 0 (flatK zJ 4 H) cur,by simp[T],hb,?_,by simp[T];exact hh,hm,by simp[putCells,ho],?_⟩⟩
 .rw[V,Ms,Mn,O1 Y,MD,O1 rfl,J];rfl
 apply Nh;intro j;rw[L3];by_cases E:j<H.toList.length*4
 .rw[O1 E,Qgh E,Mx];have hs:j<cur.size:=by simp[T]at E;omega
  have ht:j<(flatK zJ 4 H).size:=by simpa using E
  simp only[putCells,Oy,Oj hs,Oz,OY,oZ,true_and,O1 ht,OP,id]
 rw[O0 E,MS];rw[QbC];omega
end Go.Lg
