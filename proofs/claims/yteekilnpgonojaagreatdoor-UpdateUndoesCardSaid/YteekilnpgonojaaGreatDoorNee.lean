/- Merged out of 42 texts. -/
import Derived.Test.YteekilnpgonojaaGreatDoorNed
import Derived.Scope
import Derived.Lib.Overlaps
set_option maxHeartbeats 40000000
set_option maxRecDepth 100000
set_option linter.all false
open Go Go.Lg
open Go.Value renaming int->oF
open Go.IntKind renaming i64->oG
open _root_.List renaming mem_singleton->oI,not_mem_nil->oJ,mem_cons->oL,length_append->oM,length_singleton->oO,length->oP,getD->oQ,all_cons->oS,range->oT,mem_append->oV,length_cons->oW,map_cons->oX,append_assoc->o0,length_drop->o6,length_take->Oa,cons_append->Ob,length_map->Oc,size_toArray->Od,map_append->Oi,all_eq_true->Om,length_set->Ou,length_nil->OG,map_nil->OL,map_set->OQ
open _root_.Bool renaming and_eq_true->oK,not_eq_true'->Og,false_eq_true->OE,true_and->OO
open _root_.Array renaming replicate->oU,getElem?_eq_getElem->Oj,getElem?_mapIdx->Ow
open _root_.Nat renaming zero_add->oY,add_mul->Oo,lt_or_ge->OH,sub_zero->OI,zero_mul->OP,zero_le->OR
open _root_.Option renaming map_some->Oy,isSome_none->OD
open Go renaming World->O1,Value->O2,Operand->O3,Program->O4
open Go.Proofs Go.Proofs.Tryz
variable {w w':O1}{L L' X ds:LN}{n t i sz b T j E g N id o ty cap b1 B kt lo hi b2 et G M gp:Nat}{cs us news capt:LV}{H:xC}{a:Q9}{α β:Type}{y:O3}{z va ve vm vt v' vl vs vx vb vk:O2}{l u al rs:LI}{c:ZB}{f f1:Fr}{P:O4}{fn:Func}{q:DV}{s:Int}{es:List Ed}{d:xF}{af:xD}{gd:xt}{K:xz}{bf:List xK}{k':IntKind}{qs:List IV}{at_:Array Nat}{co:List Xt}{ops:xE}{rest:xu}{ks:List KV}{Φ:O2→O1→Prop}{Dc:xw}
namespace Go.Lg
structure qF {α:Type}(g:α->LV)(sz T:Nat)(E:LN->Array Obj->α->Prop)(L:LN)(base:Nat)(w:O1)(v:O2)(l:List α):Prop where
 own:w.ownsRow base T sz v l.length (l.flatMap g)
 each:∀q∈l,E (ob v++L) w.heap q
section
variable {g:α->LV}{E:LN->Array Obj->α->Prop}{bs:Nat}{v:O2}{l:List α}
theorem qF.nil:qF g sz T E L bs w (nS) []:=⟨QL _ _ _ _,λq G=>by cases G⟩
theorem qF.J [Mm E]{X:LN}(h:qF g sz T E L bs w v l)(H:O5 X w w')(I:∀b∈X,(b∈L\/w.heap.size<=b)/\b∉ob v):qF g sz T E L bs w' v l :=
 ⟨Qg h.own H (λb G J=>(I b J).2 G),λq O=>Mm.J (h.each q O) H λb G=>(I b G).1.imp (λh=>Lc.2 (.inr h)) id⟩
theorem qF.I [Mm E](h:qF g sz T E L bs w v l)(G:O5 [] w w'):qF g sz T E L bs w' v l:=h.J G (λ_ H=>by cases H)
theorem qF.app [Mm E]{H:O2}{I:O1}{q:α}(h:qF g sz T E L bs w v l)(J:E (ob v++L) w.heap q)
  (O:I.ownsRow bs T sz H (l.length+1) (l.flatMap g++g q)) (S:O5 (ob v) w I) (V:∀b∈ob H,b∈ob v\/w.heap.size<=b):qF g sz T E L bs I H (l++[q]):=by
 have mv:∀d:α,E (ob v++L) w.heap d->E (ob H++L) I.heap d:=λd hd=>by
  have Y:E (ob v++(ob H++L)) w.heap d:=Mm.up hd λb G=>by
   rcases Lc.1 G with G|G
   ·exact .inl (Lc.2 (.inl G))
   rcases Lc.1 G with G|G
   ·exact(V b G).imp (λh3=>Lc.2 (.inl h3)) id
   exact .inl (Lc.2 (.inr G))
  exact Mm.mono (Mm.st Y (S.mono λb G=>Lc.2 (.inl G))) λb G=>Lc.2 (.inr G)
 refine⟨?_,λd hd=>?_⟩
 ·rw[Lk,LA];simpa using O
 rcases Lc.1 hd with hd|hd
 ·exact mv d (h.each d hd)
 simp only[oI]at hd;subst hd;exact mv d J
end
structure ze where
 ky:Ky
 vr:Int
 p:AV
 vk:O2
 kp:LI
 vd:O2
 ds:LI
 vm:O2
 rm:List Q4
abbrev ZF (q:ze):LV:=[oF oG q.ky.1,.string q.ky.2,oF oG q.vr,q.p.va,oF oG q.p.a.st,q.p.vm,q.p.ve,q.vk,q.vd,q.vm]
theorem Vl (q:ze):(ZF q).length=10:=rfl
structure zf (L:LN)(H:xC)(q:ze):Prop where
 a:ZH L H q.p.va q.p.vm q.p.ve q.p.a
 k:QQ L H q.vk q.kp
 d:QQ L H q.vd q.ds
 r:Zn L H q.vm q.rm.length 4 (q.rm.flatMap q4C)
theorem zf.st {L:LN}{w w':O1}{q:ze}(h:zf L w.heap q)(G:O5 L w w'):zf L w'.heap q:=⟨h.a.st G,h.k.st G,h.d.st G,h.r.st G⟩
theorem zf.I {q:ze}(h:zf L w.heap q)(G:O5 [] w w'):zf L w'.heap q:=h.st G.any
theorem zf.up {L L':LN}{H:xC}{q:ze}(h:zf L H q)(G:∀b∈L',b∈L\/H.size<=b):zf L' H q:=⟨h.a.up G,h.k.up G,h.d.up G,h.r.up G⟩
instance:Mm zf:=⟨zf.st,zf.up⟩
theorem zf.ones {q:ze}(h:zf L H q):Zr (ZF q):=⟨U,U,U,h.a.al.one,U,h.a.mr.one,h.a.ed.one,h.k.one,h.d.one,h.r.one,Z⟩
structure Ent where
 ky:Ky
 vr:Int
 sp:Q9
 kp:LI
 ds:LI
 rm:List Q4
def ze.en (q:ze):Ent:=⟨q.ky,q.vr,q.p.a,q.kp,q.ds,q.rm⟩
def xK.en (p:xK):Ent:=⟨p.ky,p.vr,p.sp,p.kp,p.ds,p.rm⟩
structure q9 where
 e:ze
 c:CL
abbrev ZR (q:q9):LV:=[oF oG q.e.ky.1,.string q.e.ky.2,oF oG q.e.vr,q.e.p.va,oF oG q.e.p.a.st,q.e.p.vm,q.e.p.ve,q.e.vk,q.e.vd,q.e.vm,q.c.ve,q.c.vc,q.c.vr,q.c.vx,q.c.vk]
theorem Qdm (q:q9):(ZR q).length=15:=rfl
def q9.pt (q:q9):xK:=⟨q.e.ky,q.e.vr,q.e.p.a,q.e.kp,q.e.ds,q.e.rm,q.c.V⟩
structure qG (L:LN)(H:xC)(q:q9):Prop where
 e:zf L H q.e
 c:ZK L H q.c
theorem qG.st {L:LN}{w w':O1}{q:q9}(h:qG L w.heap q)(G:O5 L w w'):qG L w'.heap q:=⟨h.e.st G,h.c.st G⟩
theorem qG.I {q:q9}(h:qG L w.heap q)(G:O5 [] w w'):qG L w'.heap q:=h.st G.any
theorem qG.up {L L':LN}{H:xC}{q:q9}(h:qG L H q)(G:∀b∈L',b∈L\/H.size<=b):qG L' H q:=⟨h.e.up G,h.c.up G⟩
instance:Mm qG:=⟨qG.st,qG.up⟩
theorem qG.ones {q:q9}(h:qG L H q):Zr (ZR q):=⟨U,U,U,h.e.a.al.one,U,h.e.a.mr.one,h.e.a.ed.one,h.e.k.one,h.e.d.one,h.e.r.one,h.c.ev.arr.one,h.c.co.arr.one,h.c.rq.arr.one,h.c.ex.arr.one,h.c.cs.arr.one,Z⟩
structure yZ where
 v1:O2
 k1:List Ky
 v2:O2
 k2:List Ky
 v3:O2
 k3:List Ky
def yZ.rp (q:yZ):Rp:=⟨q.k1,q.k2,q.k3⟩
abbrev ZI (q:yZ):LV:=[q.v1,q.v2,q.v3]
theorem QnI (q:yZ):(ZI q).length=3:=rfl
abbrev Kys (L:LN)(H:xC)(v:O2)(l:List Ky):Prop:=Zn L H v l.length 2 (l.flatMap KL)
structure K4 (L:LN)(H:xC)(q:yZ):Prop where
 a1:Kys L H q.v1 q.k1
 a2:Kys L H q.v2 q.k2
 a3:Kys L H q.v3 q.k3
theorem K4.st {L:LN}{w w':O1}{q:yZ}(h:K4 L w.heap q)(G:O5 L w w'):K4 L w'.heap q:=⟨h.a1.st G,h.a2.st G,h.a3.st G⟩
theorem K4.I {q:yZ}(h:K4 L w.heap q)(G:O5 [] w w'):K4 L w'.heap q:=h.st G.any
theorem K4.up {L L':LN}{H:xC}{q:yZ}(h:K4 L H q)(G:∀b∈L',b∈L\/H.size<=b):K4 L' H q:=⟨h.a1.up G,h.a2.up G,h.a3.up G⟩
instance:Mm K4:=⟨K4.st,K4.up⟩
theorem K4.ones {q:yZ}(h:K4 L H q):Zr (ZI q):=⟨h.a1.one,h.a2.one,h.a3.one,Z⟩
theorem QaU (l:List Ky):∀u∈l.flatMap KL,u.oneCell'=true:=by
 intro u H;obtain⟨p,_,G⟩:=Mb.1 H;simp only[KL,oL,oJ,or_false]at G;rcases G with rfl|rfl <;> rfl
structure IvA (L:LN)(H:xC)(q:IV):Prop where
 a:ZH L H q.p.va q.p.vm q.p.ve q.p.a
 nm:Jp q.nm
theorem IvA.st {L:LN}{w w':O1}{q:IV}(h:IvA L w.heap q)(E:O5 L w w'):IvA L w'.heap q:=⟨h.a.st E,h.nm⟩
theorem IvA.up {L L':LN}{H:xC}{q:IV}(h:IvA L H q)(E:∀b∈L',b∈L\/H.size<=b):IvA L' H q:=⟨h.a.up E,h.nm⟩
instance:Mm IvA:=⟨IvA.st,IvA.up⟩
theorem IvA.ones {q:IV}(h:IvA L H q):Zr (QO q):=⟨U,h.a.al.one,U,h.a.mr.one,h.a.ed.one,Z⟩
structure XvA (L:LN)(H:xC)(q:XV):Prop where
 l:jj L H q.v q.ls
 nm:Jp q.nm
theorem XvA.st {L:LN}{w w':O1}{q:XV}(h:XvA L w.heap q)(E:O5 L w w'):XvA L w'.heap q:=⟨h.l.st E,h.nm⟩
theorem XvA.up {L L':LN}{H:xC}{q:XV}(h:XvA L H q)(E:∀b∈L',b∈L\/H.size<=b):XvA L' H q:=⟨h.l.up E,h.nm⟩
instance:Mm XvA:=⟨XvA.st,XvA.up⟩
structure KvA (L:LN)(H:xC)(q:KV):Prop where
 l:jj L H q.v q.ts
 nm:Jp q.nm
theorem KvA.st {L:LN}{w w':O1}{q:KV}(h:KvA L w.heap q)(E:O5 L w w'):KvA L w'.heap q:=⟨h.l.st E,h.nm⟩
theorem KvA.up {L L':LN}{H:xC}{q:KV}(h:KvA L H q)(E:∀b∈L',b∈L\/H.size<=b):KvA L' H q:=⟨h.l.up E,h.nm⟩
instance:Mm KvA:=⟨KvA.st,KvA.up⟩
abbrev IvR (base:Nat)(w:O1)(v:O2)(l:List IV):Prop:=Yn QO 5 71 IvA base w v l
theorem IvR.itms {base:Nat}{v:O2}{l:List IV}(h:IvR base w v l)(G:l.length<=1099511627776)(H:∀b∈L,b<base):XM L w.heap v l :=
 let z:=Yn.lst h G H;⟨z.arr,λq E=>(z.each q E).a,λq E=>(z.each q E).nm⟩
theorem Qlk (l:List Q4):∀u∈l.flatMap q4C,u.oneCell'=true:=by
 intro u G;obtain⟨p,_,E⟩:=Mb.1 G;simp only[q4C,oL,oJ,or_false]at E;rcases E with rfl|rfl|rfl|rfl <;> rfl
theorem QdO (h0:ZH L w.heap va vm ve a):
  Q6 prog 89 [.agg #[va,oF oG a.st,vm,ve]] w λr w'=>O5 [] w w'/\Jv w.heap.size w'.heap r a:=by
 have h:=h0.up (L':=[]) oe;have hr:=h.al.le;have hs:=h.mr.le;have ht:=h.ed.le;refine Zq func89 ?_;refine Qc<|Qe<|QS (us:=[va,oF oG a.st,vm,ve]) U λb1 w1 hu hz hj=>Qe<|Qo (us:=KJ) U λb2 G hk h1 hn=>xe ?_;have ho:=hu.D hk;have V:=h.I ho;have I:=hj.I hk;have h3:=hj.lt;have hv:=hn.lt;have hd:O5 [] G { G with drawn:=G.drawn+1 }:=O5.C _ _
 refine Qd<|ZD [] [oD 0,oD 1,oD 3,oD 4,oD 5,oD 6,oD 8,oD 9,oE 2,oE 7,oE 10,oD 11,oE 12]<|p (QR U)<|pq (λ_ H=>Qq (I.I H) U U)<|p (QR U)<|pq (λ_ H=>Qq (I.I H) U U) <|
  p (QR rfl)<|pq (λ_ H=>Qq (I.I H) U U)<|p (QR U)<|pq (λ_ H=>Qq (I.I H) U U) <|
  pk<|xg<|(Z0 (V.al.I hd)).mono ?_
 rintro ra w5 ⟨hw,Y⟩;have J:O5 [] G w5:=hd.D hw;refine⟨J,?_⟩;refine pk<|xg<|(Z0 (V.mr.I J)).mono ?_;rintro rm w6 ⟨hp,hf⟩;have O:=J.D hp;refine⟨O,?_⟩;refine pk<|xg<|(KQ (V.ed.I O)).mono ?_;rintro re S ⟨hg,T⟩;have hh:=O.D hg;refine⟨hh,?_⟩;refine p (λ_=>Qz ⟨xM Y,U,xM hf,xM T,Z⟩)<|pkl (hl:=by kernel_rfl)<|Qj (us:=[ra,oF oG a.st,rm,re]) (hn.I hh) U U U U ⟨Qt Y,U,Qt hf,Qt T,Z⟩ λw8 hq hy=>pe ?_;refine Qk ⟨[.agg #[ra,oF oG a.st,rm,re]],⟨⟨_,U,Qn U (hy.at (L:=[]) oe).cells⟩,Z⟩,(ho.D hh).O hq oa,ra,rm,re,rfl,λL hL=>?_⟩;have e1:({ G with drawn:=G.drawn+1 }:O1).heap.size=G.heap.size:=rfl
 have h4:=J.size;have h5:=O.size;have hi:∀b∈b2::L,b<G.heap.size:=λb E=>by
  rcases Li.1 E with rfl|E
  ·exact hv
  have:=hL b E;omega
 have ha:QQ (b2::L) S.heap ra a.al:=((Qu.ints Y hr (λb E=>ou (hi b E))).I hp).I hg;have hm:QQ (b2::L) S.heap rm a.mr:=(Qu.ints hf hs (λb E=>ou (hi b E))).I hg;have he:zg (b2::L) S.heap re a.ed:=QJ T ht (λb E hbL=>ov (Qi T b E).1 (hi b hbL));have hA:ZH (b2::L) S.heap ra rm re a:=⟨ha,hm,he⟩;exact(hA.st (hq.mono oe)).up (λb E=>.inl (Lj _ E))
abbrev z10:LV:=[oF oG 0,.string .empty,oF oG 0,nS,oF oG 0,nS,nS,nS,nS,nS]
theorem QoS {q:ze}(h0:zf L w.heap q):
  Q6 prog 53 [.agg (ZF q).toArray] w λr w'=>O5 [] w w'/\∃q':ze,r=.agg (ZF q').toArray/\q'.en=q.en/\∀L:LN,(∀b∈L,b<w.heap.size)->zf L w'.heap q':=by
 have h:=h0.up (L':=[]) oe;have h7:=h.k.le;have h8:=h.d.le;have h9:=h.r.le;refine Zq func53 ?_;refine Qc<|Qe<|QS (us:=ZF q) U λb1 w1 hA hs hi=>Qe<|Qo (us:=z10) U λb2 w2 hj hT ht=>xe ?_;have hB:=hA.D hj;have hU:=hi.lt;have hV:=ht.lt;refine Qc<|Q2 U<|x (Zj (us:=[q.vk,q.vd,q.vm]) (hi.I hj) U U U)<|Qe<|Qo (us:=[nS,nS,nS]) U λb3 w3 hC hD hF=>Qe<|Qj (us:=[q.vk,q.vd,q.vm]) hF U U U U ⟨h.k.one,h.d.one,h.r.one,Z⟩ λw4 hG hH=>xe ?_;have T:O5 [] w2 w4:=hC.O hG hD;have hu:=hB.D T;have h4:=h.I hu;have hW:=T.size;have hv:=(hi.I hj).I T;have hI:=ht.I T;refine Qc<|Q2 U<|x (Zj (us:=[q.p.va,oF oG q.p.a.st,q.p.vm,q.p.ve]) hv U U U)<|QM<|(QdO h4.a).mono ?_;rintro _ w5 ⟨hm,xa,xm,H,rfl,hw⟩;have hX:=hm.size;have I:=(hw [] oe);refine Q2 rfl<|Qe<|YB (us:=[xa,oF oG q.p.a.st,xm,H]) (cs':=[oF oG q.ky.1,.string q.ky.2,oF oG q.vr,xa,oF oG q.p.a.st,xm,H,q.vk,q.vd,q.vm]) (hv.I hm) U U U oe ⟨I.al.one,rfl,I.mr.one,I.ed.one,Z⟩ rfl λG hn hJ=>xe ?_;have ho:O5 [b1] w4 G:=hm.any.Q hn;have hy:O5 [] w G:=hu.O ho hs;have h6:=h.I hy;have hY:=hn.size;have hK:b3∉[b1]:=om
 have hz:b2∉[b1]:=om
 have hp:=hH.J ho hK;have hM:=hI.J ho hz;have hd:O5 [] G { G with drawn:=G.drawn+1 }:=O5.C _ _
 refine Qd<|ZD [] [oD 0,oD 1,oD 3,oD 4,oD 6,oD 7,oE 2,oE 5,oE 8,oD 9,oD 10,oE 11]<|p (QR U)<|pq (λ_ J=>Qq (hp.I J) U U)<|p (QR U)<|pq (λ_ J=>Qq (hp.I J) U U) <|
  p (QR rfl)<|pq (λ_ J=>Qq (hp.I J) U U)<|pk<|xg<|(Z0 (h6.k.I hd)).mono ?_
 rintro rk w7 ⟨hN,V⟩;have Y:O5 [] G w7:=hd.D hN;refine⟨Y,?_⟩;refine pk<|xg<|(Z0 (h6.d.I Y)).mono ?_;rintro rd w8 ⟨h1,he⟩;have hf:=Y.D h1;refine⟨hf,?_⟩;refine pk<|xg<|(QjK (h6.r.I hf) (Qlk q.rm)).mono ?_;rintro rr O ⟨hq,S⟩;have hg:=hf.D hq;refine⟨hg,?_⟩;refine p (λ_=>Qz ⟨xM V,xM he,xM S,Z⟩)<|p (QR U)<|pkl (hl:=by kernel_rfl)<|YB (us:=[rk,rd,rr]) (cs':=[oF oG q.ky.1,.string q.ky.2,oF oG q.vr,xa,oF oG q.p.a.st,xm,H,rk,rd,rr]) (hJ.I hg) U U U oe ⟨Qt V,Qt he,Qt S,Z⟩ rfl λhO h2 hP=>pe ?_;have h3:O5 [b1] G hO:=hg.any.Q h2;have hQ:Zr (ZF ⟨q.ky,q.vr,⟨xa,xm,H,q.p.a⟩,rk,q.kp,rd,q.ds,rr,q.rm⟩):=⟨U,U,U,I.al.one,U,I.mr.one,I.ed.one,Qt V,Qt he,Qt S,Z⟩;refine Qc<|Q5 hP U U<|Qe<|Qj (us:=ZF ⟨q.ky,q.vr,⟨xa,xm,H,q.p.a⟩,rk,q.kp,rd,q.ds,rr,q.rm⟩) (hM.J h3 hz) U U U U hQ λhZ h5 hR=>xe ?_;refine Qk ⟨[.agg (ZF ⟨q.ky,q.vr,⟨xa,xm,H,q.p.a⟩,rk,q.kp,rd,q.ds,rr,q.rm⟩).toArray],⟨⟨_,U,Qn U (hR.at (L:=[]) oe).cells⟩,Z⟩,(hy.O h3 hs).O h5 oa,_,rfl,rfl,λL hL=>?_⟩;have e6:({ G with drawn:=G.drawn+1 }:O1).heap.size=G.heap.size:=rfl
 have ga:=Y.size;have gb:=hf.size;have hh:∀b∈b1::b2::L,b<w4.heap.size:=λb E=>by
  simp only[oL]at E;rcases E with rfl|rfl|E
  ·omega
  ·omega
  have:=hL b E;omega
 have ha:ZH (b1::b2::L) O.heap xa xm H q.p.a:=((hw (b1::b2::L) hh).st (hn.mono oe)).I hg;have hk:QQ (b1::b2::L) O.heap rk q.kp:=((Qu.ints V h7 (λb E=>ou (hh b E))).I h1).I hq;have hS:QQ (b1::b2::L) O.heap rd q.ds:=(Qu.ints he h8 (λb E=>ou (hh b E))).I hq;have hr:Zn (b1::b2::L) O.heap rr q.rm.length 4 (q.rm.flatMap q4C):=QJ S h9 (λb E hbL=>ov (Qi S b E).1 (hh b hbL));have hE:zf (b1::b2::L) O.heap ⟨q.ky,q.vr,⟨xa,xm,H,q.p.a⟩,rk,q.kp,rd,q.ds,rr,q.rm⟩:=⟨ha,hk,hS,hr⟩;exact((hE.st (h2.mono oe)).st (h5.mono oe)).up (λb E=>.inl (by simp[E]))
theorem QoR {q:yZ}(h0:K4 L w.heap q):
  Q6 prog 49 [.agg (ZI q).toArray] w λr w'=>O5 [] w w'/\∃q':yZ,r=.agg (ZI q').toArray/\q'.rp=q.rp/\∀L:LN,(∀b∈L,b<w.heap.size)->K4 L w'.heap q':=by
 have h:=h0.up (L':=[]) oe;have hr:=h.a1.le;have hs:=h.a2.le;have ht:=h.a3.le;refine Zq func49 ?_;refine Qc<|Qe<|QS (us:=ZI q) U λb1 w1 hj hz hu=>Qe<|Qo (us:=[nS,nS,nS]) U λb2 G hk h1 hn=>xe ?_;have ho:=hj.D hk;have Y:=h.I ho;have hf:=hu.I hk;have h3:=hj.size;have hv:=hn.lt;have hd:O5 [] G { G with drawn:=G.drawn+1 }:=O5.C _ _
 refine Qd<|ZD [] [oD 0,oD 1,oD 3,oD 4,oD 6,oD 7,oE 2,oE 5,oE 8,oD 9,oE 10]<|p (QR U)<|pq (λ_ H=>Qq (hf.I H) U U)<|p (QR U)<|pq (λ_ H=>Qq (hf.I H) U U) <|
  p (QR rfl)<|pq (λ_ H=>Qq (hf.I H) U U)<|pk<|xg<|(yI (Y.a1.I hd) (QaU q.k1)).mono ?_
 rintro ra w5 ⟨hw,I⟩;have J:O5 [] G w5:=hd.D hw;refine⟨J,?_⟩;refine pk<|xg<|(yI (Y.a2.I J) (QaU q.k2)).mono ?_;rintro rm w6 ⟨hp,O⟩;have S:=J.D hp;refine⟨S,?_⟩;refine pk<|xg<|(yI (Y.a3.I S) (QaU q.k3)).mono ?_;rintro re T ⟨hg,V⟩;have hh:=S.D hg;refine⟨hh,?_⟩;refine p (λ_=>Qz ⟨xM I,xM O,xM V,Z⟩)<|pkl (hl:=by kernel_rfl)<|Qj (us:=[ra,rm,re]) (hn.I hh) U U U U ⟨Qt I,Qt O,Qt V,Z⟩ λw8 hq hy=>pe ?_;refine Qk ⟨[.agg (ZI ⟨ra,q.k1,rm,q.k2,re,q.k3⟩).toArray],⟨⟨_,U,Qn U (hy.at (L:=[]) oe).cells⟩,Z⟩,(ho.D hh).O hq oa,_,rfl,rfl,λL hL=>?_⟩;have e1:({ G with drawn:=G.drawn+1 }:O1).heap.size=G.heap.size:=rfl
 have h4:=J.size;have h5:=S.size;have hi:∀b∈b2::L,b<G.heap.size:=λb E=>by
  rcases Li.1 E with rfl|E
  ·exact hv
  have:=hL b E;omega
 have ha:Kys (b2::L) T.heap ra q.k1:=((QJ I hr (λb E hbL=>ov (Qi I b E).1 (hi b hbL)):Kys (b2::L) w5.heap ra q.k1).I hp).I hg;have hm:Kys (b2::L) T.heap rm q.k2:=(QJ O hs (λb E hbL=>ov (Qi O b E).1 (hi b hbL)):Kys (b2::L) w6.heap rm q.k2).I hg;have he:Kys (b2::L) T.heap re q.k3:=QJ V ht (λb E hbL=>ov (Qi V b E).1 (hi b hbL));have hA:K4 (b2::L) T.heap ⟨ra,q.k1,rm,q.k2,re,q.k3⟩:=⟨ha,hm,he⟩;exact(hA.st (hq.mono oe)).up (λb E=>.inl (Lj _ E))
theorem QiD {c:CL}{q:MV}(h0:ZK L w.heap c)(hq:0<=q.ix)(hk:q.kd=1\/q.kd=2\/q.kd=3)(hr:q.kd=1->q.ix<(c.rq.length:Int))(hx:q.kd=2->q.ix<(c.ex.length:Int))(hs:q.kd=3->q.ix<(c.cs.length:Int)):
  Q6 prog 93 [c.val,.agg #[oF oG q.kd,oF oG q.ix,q.v]] w λr w'=>r=.agg #[oF oG (Yg c.V q.m).1,.string (Yg c.V q.m).2]/\O5 [] w w':=by
 have h:=h0.up (L':=[]) oe;have hb:((q.ix.toNat:Nat):Int)=q.ix:=Int.toNat_of_nonneg hq;refine Zq func93 ?_;refine Qc<|Qe<|QS (us:=c.cells) U λb2 w1 hl h4 ht=>Qe<|QS (us:=[oF oG q.kd,oF oG q.ix,q.v]) U λb3 w2 hc h6 hm=>Qe<|Qo (us:=[oF oG 0,.string .empty]) U λb4 w3 T h7 hn=>xe ?_;have hu:=(hl.D hc).D T;refine Qc<|Qs U (hm.I T) U U<|x (Qz ⟨U,Z⟩)<|Qe<|Qo (us:=[oF oG 0,.string .empty]) U λb5 w4 hv hw hy=>Qe<|Qj (us:=[oF oG q.kd,.string .empty]) hy U U U U oA λw5 hz he=>xe ?_;have V:O5 [] w3 w5:=hv.O hz hw;have ho:=hu.D V;have hf:=((ht.I hc).I T).I V;have Y:=(hm.I T).I V;have hg:=hn.I V;have h8:=hn.lt;have hh:b4∉[b5]:=om
 have h9:=hl.size;have hA:=hc.size;have h5:=h.I ho;have fin:∀(nm:ByteArray) (I w8:O1),(Yg c.V q.m)=(q.kd,nm)->O5 [b5] w5 I->Zb I.heap b5 75 [oF oG q.kd,.string nm]->O5 [b4] I w8->(Value.agg #[oF oG q.kd,.string nm]=.agg #[oF oG (Yg c.V q.m).1,.string (Yg c.V q.m).2]/\O5 [] w w8):=λnm I w8 e h1 _ h2 =>
  ⟨by rw[e],(ho.O h1 oa).O h2 oa⟩
 refine Qd<|Qc<|Qs U Y U U<|xe<|Qf<|Qc<|x (Q0 U U)<|Qb<|QY U (λhi=>?_) (λhi=>?_)
 ·have hk1:q.kd=1:=hi;have E:q.ix.toNat<c.rq.length:=by have:=hr hk1;omega
  refine Qw<|Qs U hf U U<|Qs U Y U U<|O8 (g:=QO) (i:=q.ix.toNat) Yp h5.rq.arr U (show Go.Lg.ev _ _=_ from OV (Value.int .i64) hb.symm) E λhp J =>
   x (Zp rfl)<|x (QA (J.fld 0 (.string (c.rq[q.ix.toNat]'E).nm) U) U)<|Q2 U<|Qe<|QB (j:=1) (u:=.string (c.rq[q.ix.toNat]'E).nm) he U U oe rfl λw6 G H=>xe ?_
  refine Qc<|Q5 H U U<|Qe<|Qj (us:=[oF oG q.kd,.string (c.rq[q.ix.toNat]'E).nm]) (hg.J G hh) U U U U oA λI O S=>xe ?_;refine Qk ⟨[.agg #[oF oG q.kd,.string (c.rq[q.ix.toNat]'E).nm]],⟨⟨_,U,Qn U (S.at (L:=[]) oe).cells⟩,Z⟩,fin _ _ _ ?_ G H O⟩;unfold Yg;rw[OU (show q.m.kd=1 from hk1)];refine Prod.ext U ?_;show((c.rq.map IV.it).getD q.ix.toNat ⟨.empty,Vn⟩).nm=_;simp[oQ,E,IV.it]
 have hk1:¬q.kd=1:=hi;refine Qc<|x (Q0 U U)<|Qb<|QY U (λhj=>?_) (λhj=>?_)
 ·have ha:q.kd=2:=hj;have E:q.ix.toNat<c.ex.length:=by have:=hx ha;omega
  refine Qw<|Qs U hf U U<|Qs U Y U U<|O8 (g:=Q8) (i:=q.ix.toNat) Xz h5.ex.arr U (show Go.Lg.ev _ _=_ from OV (Value.int .i64) hb.symm) E λhp J =>
   x (Zp rfl)<|x (QA (J.fld 0 (.string (c.ex[q.ix.toNat]'E).nm) U) U)<|Q2 U<|Qe<|QB (j:=1) (u:=.string (c.ex[q.ix.toNat]'E).nm) he U U oe rfl λw6 G H=>xe ?_
  refine Qc<|Q5 H U U<|Qe<|Qj (us:=[oF oG q.kd,.string (c.ex[q.ix.toNat]'E).nm]) (hg.J G hh) U U U U oA λI O S=>xe ?_;refine Qk ⟨[.agg #[oF oG q.kd,.string (c.ex[q.ix.toNat]'E).nm]],⟨⟨_,U,Qn U (S.at (L:=[]) oe).cells⟩,Z⟩,fin _ _ _ ?_ G H O⟩;unfold Yg;rw[OT (show ¬q.m.kd=1 from hk1),OU (show q.m.kd=2 from ha)];refine Prod.ext U ?_;show((c.ex.map XV.x).getD q.ix.toNat ⟨.empty,[]⟩).nm=_;simp[oQ,E,XV.x]
 have ha:¬q.kd=2:=hj;have h3:q.kd=3:=oa
 have E:q.ix.toNat<c.cs.length:=by have:=hs h3;omega
 refine Qw<|Qs U hf U U<|Qs U Y U U<|O8 (g:=Zd) (i:=q.ix.toNat) Xp h5.cs.arr U (show Go.Lg.ev _ _=_ from OV (Value.int .i64) hb.symm) E λhp J =>
  x (Zp rfl)<|x (QA (J.fld 0 (.string (c.cs[q.ix.toNat]'E).nm) U) U)<|Q2 U<|Qe<|QB (j:=1) (u:=.string (c.cs[q.ix.toNat]'E).nm) he U U oe rfl λw6 G H=>xe ?_
 refine Qc<|Q5 H U U<|Qe<|Qj (us:=[oF oG q.kd,.string (c.cs[q.ix.toNat]'E).nm]) (hg.J G hh) U U U U oA λI O S=>xe ?_;refine Qk ⟨[.agg #[oF oG q.kd,.string (c.cs[q.ix.toNat]'E).nm]],⟨⟨_,U,Qn U (S.at (L:=[]) oe).cells⟩,Z⟩,fin _ _ _ ?_ G H O⟩;unfold Yg;rw[OT (show ¬q.m.kd=1 from hk1),OT (show ¬q.m.kd=2 from ha)];refine Prod.ext U ?_;show((c.cs.map KV.k).getD q.ix.toNat ⟨.empty,[],0⟩).nm=_;simp[oQ,E,KV.k]
theorem Qfw {v:O2}{a:Addr}(h:Zn L H v n sz cs)(e:v=.slice (some a) n cap):At L H a cs:=by
 rcases h.2.2 with⟨E,_⟩|⟨a',cap',E,_,G⟩
 ·rw[E]at e;cases e
 rw[E]at e;simp only[Value.slice.injEq,Option.some.injEq]at e;rw[<-e.1];exact G
section
variable {Q:Exit->Fr->O1->Prop}
end
section
variable {pS:String}
theorem QfV {e bys:Nat}[h:Sl P t e sz bys z]{x E G H:O3}{k:IntKind}{m:Nat}(hx:ev f x=.slice (some ⟨b,0,none⟩) n cap)(hl:ev f E=.int k lo)(I:ev f G=.int k hi)(J:ev f H=.int k m)(Y:lo<=hi)(h2:hi<=m)(h3:m<=cap):
  (execOp (ev f) ⟨d,.slice t x (some E) (some G) (some H),ty,pS,af,gd⟩).run P w=.ok (.value (.slice (if m=lo then some ⟨b,0,none⟩else some ((⟨b,0,none⟩:Addr).add (lo*sz))) (hi - lo) (m - lo))) w:=by
 obtain⟨i,O,_,S,_⟩:=Sl.info h;have e1:(Instr.sliceBound (.int k m) cap .slice3Acap).run P w=.ok m w:=ZM h3;have e2:(Instr.sliceBound (.int k hi) m .slice3B).run P w=.ok hi w:=ZM h2;have T:(Instr.sliceBound (.int k lo) hi .slice3C).run P w=.ok lo w:=ZM Y;by_cases V:m=lo
 ·subst V;simp[execOp,hx,hl,I,J,Instr.sliceAt,Instr.slice,run_underlying h.u,Instr.sliceBounds,e1,e2,T,sizeOf,typeInfo,O,S]
 simp[execOp,hx,hl,I,J,Instr.sliceAt,Instr.slice,run_underlying h.u,Instr.sliceBounds,e1,e2,T,sizeOf,typeInfo,O,S,V]
theorem QfU {e bys:Nat}[h:Sl P t e sz bys z]{x E G:O3}{k:IntKind}(hx:ev f x=.slice (some ⟨b,0,none⟩) n cap)(hl:ev f E=.int k lo)(H:ev f G=.int k hi)(I:lo<=hi)(J:hi<=cap)(V:lo<cap):
  (execOp (ev f) ⟨d,.slice t x (some E) (some G) none,ty,pS,af,gd⟩).run P w=.ok (.value (.slice (some ⟨b,lo*sz,none⟩) (hi - lo) (cap - lo))) w:=by
 obtain⟨i,O,_,S,_⟩:=Sl.info h;have e1:(Instr.sliceBound (.int k hi) cap .sliceAcap).run P w=.ok hi w:=ZM J;have e2:(Instr.sliceBound (.int k lo) hi .sliceB).run P w=.ok lo w:=ZM I;have T:¬cap=lo:=oa
 simp[execOp,hx,hl,H,Instr.sliceAt,Instr.slice,run_underlying h.u,Instr.sliceBounds,e1,e2,sizeOf,typeInfo,O,S,T,Addr.add];exact λe=>e.symm
theorem QnU {e bys:Nat}[h:Sl P t e sz bys z]{s:O3}{cur:LV}(H:Zb w.heap g e cur)(J:ev f s=.slice (some ⟨g,0,none⟩) n cap)(O:cur.length=cap*sz)
  {a:Addr} {m c:Nat}  (S:ev f y=.slice (some a) m c) (hl:news.length=m*sz)  (T:At L w.heap a news) (V:∀u∈news,u.oneCell'=true) (I:n+m<=cap)
  (hK:∀w',O5 [g] w w'->Zb w'.heap g e (cur.take (n*sz)++news++cur.drop (n*sz+news.length))->K (QW f d (.slice (some ⟨g,0,none⟩) (n+m) cap)) w'):
  XO P ⟨d,.call ⟨.builtin .append,#[s,y],#[t,t]⟩,ty,pS,af,gd⟩ f w K:=by
 obtain⟨i,hi,hz,E,hb⟩:=Sl.info h;have Y:n*i.size+news.length<=cur.toArray.size:=by
  rw[LP,O,hl,E,<-Ms];exact LY _ I
 have G:=run_append_room (P:=P) w t ty e i h.u hi g n cap cur.toArray H a m c news (by rw[E];exact hl) T.cells V I Y;rw[E]at G;have ha:(execOp (ev f) ⟨d,.call ⟨.builtin .append,#[s,y],#[t,t]⟩,ty,pS,af,gd⟩).run P w=.ok (.value (.slice (some ⟨g,0,none⟩) (n+m) cap)) (w.setRow g (cur.take (n*sz)++news++cur.drop (n*sz+news.length)).toArray):=by
  simp[execOp,resolve,invoke,builtin,J,S]at G ⊢;simp[G]
 exact xv ha (hK _ (O5.setRow _ _ _) (XX H))
end
theorem Qm6 {pS:String}[h1:X6 P t]{x:O3}{base k:Nat}{u:O2}
  (h:w.ownsRow base T sz (.slice (some ⟨g,0,none⟩) n cap) n cs) (hx:ev f x=.pointer (some ⟨g,k,none⟩)) (G:ev f y=u) (V:k<n*sz) (H:u.oneCell'=true)
  (hK:∀w',O5 [g] w w'->w'.ownsRow base T sz (.slice (some ⟨g,0,none⟩) n cap) n (cs.set k u)->K (QW f d undef) w'):XO P ⟨d,.store t x y,ty,pS,af,gd⟩ f w K:=by
 obtain⟨I,cur,J,hl,E⟩:=Jn h;have Y:n*sz<=cap*sz:=LY _ I;refine QB (j:=k) J hx G oa H λw' O S=>hK w' O ?_;refine Vx h (Lu _) S (by rw[L7];exact hl) ?_ (by rw[L7,<-E,Ly];omega);rw[List.take_set,E]
def Fre {α:Type}(E:LN->Array Obj->α->Prop)(M:Nat)(H:xC)(q:α):Prop:=∀L:LN,(∀b∈L,b<M)->E L H q
theorem Fre.low {E:LN->Array Obj->α->Prop}[Mm E]{q:α}(h:Fre E M w.heap q)(H:O5 X w w')(I:∀b∈X,b<M):Fre E M w'.heap q:=λL J =>
 Mm.mono (Mm.st (L:=X++L) (h _ λb G=>(Lc.1 G).elim (I b) (J b)) (H.mono λ_ G=>Lc.2 (.inl G))) λ_ G=>Lc.2 (.inr G)
theorem Fre.I {E:LN->Array Obj->α->Prop}[Mm E]{q:α}(h:Fre E M w.heap q)(G:O5 [] w w'):Fre E M w'.heap q:=h.low G λ_ H=>by cases H
theorem Qhc {q:XV}(h:q.v.oneCell'=true):∀u∈Q8 q,u.oneCell'=true:=by
 intro u E;simp only[Q8,oL,oJ,or_false]at E;rcases E with rfl|rfl
 ·rfl
 exact h
theorem QiB {q:KV}(h:q.v.oneCell'=true):∀u∈Zd q,u.oneCell'=true:=by
 intro u E;simp only[Zd,oL,oJ,or_false]at E;rcases E with rfl|rfl|rfl
 ·rfl
 ·exact h
 rfl
theorem yx {α:Type}{g:α->LV}{sz:Nat}(G:∀x,(g x).length=sz):∀(l:List α) (i j:Nat) (u:O2) (E:α) (h:i<l.length),j<sz->g E=(g (l[i]'h)).set j u->(l.flatMap g).set (i*sz+j) u=(l.set i E).flatMap g
 | [],i,_,_,_,h,_,_=>by simp at h
 | a::l,0,j,u,E,h,H,e=>by
  have I:g E=(g a).set j u:=e;rw[OP,LR,List.set_cons_zero,LH,LH,List.set_append_left _ _ (by rw[G a];exact H),I]
 | a::l,i+1,j,u,E,h,H,e=>by
  have J:(i+1)*sz+j=(g a).length+(i*sz+j):=by rw[G a,Nat.succ_mul];omega
  rw[J,NN,LH,LH,List.set_append_right _ _ oa,MK,yx G l i j u E (oz h) H e]
theorem yi {f:α->β}{l:List α}(hi:i<l.length){q:α}(h:f q=f (l[i]'hi)):(l.set i q).map f=l.map f:=by
 rw[OQ,h];have:f (l[i]'hi)=(l.map f)[i]'(by rw[Lh];exact hi):=by rw[Mq]
 rw[this,List.set_getElem_self]
structure CpI (N:Nat)(w':O1)(c:CL)(b3:Nat)(re rx rk:O2):Prop where
 b:N<=b3
 B:Zb w'.heap b3 44 [re,nS,nS,rx,rk]
 e:w'.ownsRow N 183 5 re c.ev.length (c.ev.flatMap Zo)
 x:w'.ownsRow N 116 2 rx c.ex.length (c.ex.flatMap Q8)
 k:w'.ownsRow N 121 3 rk c.cs.length (c.cs.flatMap Zd)
 d1:∀b∈ob re,b≠b3/\b∉ob rx/\b∉ob rk
 d2:∀b∈ob rx,b≠b3/\b∉ob rk
 d3:∀b∈ob rk,b≠b3
theorem QoT {c:CL}(h0:ZK L w.heap c)(hn1:c.co.length<=1000)(hn2:c.rq.length<=1000):
  Q6 prog 44 [c.val] w λr w'=>O5 [] w w'/\Qed w.heap.size w'.heap r c.V:=by
 have h:=h0.up (L':=[]) oe;have pa:=h.ex.arr.le;have pc:=h.cs.arr.le;have pd:=h.ev.arr.le;refine Zq func44 ?_;refine Qc<|Qe<|QS (us:=c.cells) U λb1 w1 pf hb1 k0=>Qe<|Qo (us:=Z6) U λb2 w2 k4 hb2 k5=>xe ?_;have k6:=pf.D k4;have hl1:=k0.lt;have pg:=k5.lt;have h2:=h.I k6;have gg:=k0.I k4;have ph:O5 [] w2 { w2 with drawn:=w2.drawn+1 }:=O5.C _ _
 have pj:∀u∈c.ex.flatMap Q8,u.oneCell'=true:=λu hu=>by
  obtain⟨q,S,hu⟩:=Mb.1 hu;exact Qhc (h.ex.each q S).one u hu
 have pm:∀u∈c.cs.flatMap Zd,u.oneCell'=true:=λu hu=>by
  obtain⟨q,S,hu⟩:=Mb.1 hu;exact QiB (h.cs.each q S).one u hu
 refine Q3 (α:=Nat×O2×O2×O2) [(10,19),(3,3)] (λz=>[(3,.pointer (some ⟨z.1,0,none⟩))]) (λz w'=>O5 [] w2 w'/\CpI w2.heap.size w' c z.1 z.2.1 z.2.2.1 z.2.2.2) ol ?_ ?_
 ·refine VG (α:=O2×O2×O2) (O5 [] w2) [oD 0,oD 1,oD 3,oD 4,oD 6,oD 7] [oE 2,oE 5,oE 8,oD 9] 10 3 [oE 11] []
   [(10,19)] [(12,12),(15,15),(18,19)] (λz=>[(19,.agg #[z.1,nS,nS,z.2.1,z.2.2])])
   (λz own w'=>(w'.ownsRow w2.heap.size 183 5 z.1 c.ev.length (c.ev.flatMap Zo)/\w'.ownsRow w2.heap.size 116 2 z.2.1 c.ex.length (c.ex.flatMap Q8)/\w'.ownsRow w2.heap.size 121 3 z.2.2 c.cs.length (c.cs.flatMap Zd)) /\
    (∀b∈ob z.1,b∈own/\b∉ob z.2.1/\b∉ob z.2.2)/\(∀b∈ob z.2.1,b∈own/\b∉ob z.2.2)/\∀b∈ob z.2.2,b∈own)
   (λv w'=>∃b,v=.pointer (some ⟨b,0,none⟩)/\w2.heap.size<=b/\Zb w'.heap b 44 Z6) mixed ol od ol U ph oe ?_ ?_ ?_ ?_
  ·rintro v own wa wb ⟨b,rfl,E,hB⟩ hs hn;exact⟨b,U,E,hB.J hs (hn b ot)⟩
  ·rintro z own wa wb ⟨⟨h1,h2,h3⟩,h4⟩ hs;exact⟨⟨Qp h1 hs,Qp h2 hs,Qp h3 hs⟩,h4⟩
  ·rintro⟨re,rx,rk⟩ g own wz v ⟨⟨i1,i2,i3⟩,i4,i5,i6⟩ pn ⟨O,rfl,k7,po⟩ pp;simp only[]at i1 i2 i3 i4 i5 i6;have gh:=(pp O ot).1;refine pkl (hl:=by kernel_rfl)<|Qj (us:=[re,nS,nS,rx,rk]) po U U U U ⟨Qt i1,U,U,Qt i2,Qt i3,Z⟩ λw8 h9 pu=>pe ?_;have nn:∀b,b∈own->b∉[O]:=λb E H=>gh (by rw[<-Lb.1 H];exact E);refine⟨(O,re,rx,rk),La,pn.O h9 k7,k7,pu,Qg i1 h9 (λb E=>nn b (i4 b E).1),Qg i2 h9 (λb E=>nn b (i5 b E).1),Qg i3 h9 (λb E=>nn b (i6 b E)),λb E=>⟨λe=>gh (by rw[show O=b from e.symm];exact(i4 b E).1),(i4 b E).2⟩,λb E=>⟨λe=>gh (by rw[show O=b from e.symm];exact(i5 b E).1),(i5 b E).2⟩,λb E e=>gh (by rw[show O=b from e.symm];exact i6 b E)⟩
  refine p (QR U)<|pq (λ_ I=>Qq (gg.I I) U U)<|p (QR U)<|pq (λ_ I=>Qq (gg.I I) U U) <|
   p (QR rfl)<|pq (λ_ I=>Qq (gg.I I) U U)<|pe ⟨λg wf k8=>Qo (us:=Z6) U λb wf' k9 ma mf=>⟨k9,k8.D k9,⟨b,U,LJ k8.size ma,mf⟩,λx hx=>?_⟩,?_⟩
  ·have pw:x=b:=by
    have pz:x∈[b]:=hx;simpa using pz
   subst pw;exact⟨ma,mf.lt⟩
  refine f2k λx1 p1 c1=>xg<|(V9 (h2.ev.I c1).arr).mono ?_;rintro re y1 ⟨mg,gr⟩;refine⟨c1.D mg,U2 x1.heap.size y1.heap.size,mg.any,λb E=>.inr (ZC.1 E),?_⟩;refine f2k λx2 p2 c2=>xg<|(QjL (h2.ex.I c2).arr pj).mono ?_;rintro rx y2 ⟨gi,gs⟩;refine⟨c2.D gi,U2 x1.heap.size y1.heap.size++U2 x2.heap.size y2.heap.size,gi.any,λb E=>(Lc.1 E).imp id λE=>ZC.1 E,?_⟩;refine f2k λx3 p3 c3=>xg<|(QjO (h2.cs.I c3).arr pm).mono ?_;rintro rk y3 ⟨gj,gt⟩;refine⟨c3.D gj,(U2 x1.heap.size y1.heap.size++U2 x2.heap.size y2.heap.size)++U2 x3.heap.size y3.heap.size,gj.any,λb E=>(Lc.1 E).imp id λE=>ZC.1 E,?_⟩;refine f2p (λ_=>Qz ⟨xM gr,xM gs,xM gt,Z⟩)<|f2e ?_;have e1:=c1.size;have e2:=c2.size;have e3:=c3.size;have e12:=p2.size;have e23:=p3.size;have g1:=Qi gr;have g2:=Qi gs;have g3:=Qi gt;have f2:=gi.size;refine⟨(re,rx,rk),La,⟨Zv (Qp (Qp (Qp (Qp gr p2) gi) p3) gj) e1,Zv (Qp (Qp gs p3) gj) e2,Zv gt e3⟩,λb E=>⟨?_,λH=>?_,λH=>?_⟩,λb E=>⟨?_,λH=>?_⟩,λb E=>?_⟩
  ·exact Lc.2 (.inl (Lc.2 (.inl (ZC.2 (g1 b E)))))
  ·have:=g1 b E;have:=g2 b H;omega
  ·have:=g1 b E;have:=g3 b H;omega
  ·exact Lc.2 (.inl (Lc.2 (.inr (ZC.2 (g2 b E)))))
  ·have:=g2 b E;have:=g3 b H;omega
  exact Lc.2 (.inr (ZC.2 (g3 b E)))
 rintro⟨O,re,rx,rk⟩ g w3 ⟨gk,T⟩;simp only[]at T;have gu:=k6.D gk;have h3:=h.I gu;have mh:=gg.I gk;have hz3:=gk.size;have mj:=T.B.lt;have gv:=Qi T.x;have gw:=Qi T.k;have p0:b1≠O:=by have:=T.b;omega
 have mo:b2≠O:=by have:=T.b;omega
 have mq:∀b∈O::(ob rx++ob rk),w.heap.size<=b/\b<w3.heap.size:=λb E=>by
  rcases Li.1 E with rfl|E
  ·exact⟨ou T.b,mj⟩
  rcases Lc.1 E with E|E
  ·have:=gv b E;omega
  have:=gw b E;omega
 have ms:ZK (O::(ob rx++ob rk)) w3.heap c:=(h0.up (λb E=>.inr (mq b E).1)).I gu;have gy:∀b∈ob rx,b<w3.heap.size:=λb E=>(gv b E).2;have gl:∀b∈ob rk,b<w3.heap.size:=λb E=>(gw b E).2;have m3x:O∉ob rx:=λE=>(T.d2 O E).1 U;have m3k:O∉ob rk:=λE=>T.d3 O E U;refine Qd<|Qc<|Qs U mh U U<|QK h3.co.arr U<|Qa<|xe<|Qf<|QD (α:=Nat×O2×List IV) [(5,5),(23,38)] (λz=>[(23,oF oG z.1)]) (λz w'=>z.1<=c.co.length/\O5 [O] w3 w'/\Zb w'.heap O 44 [re,z.2.1,nS,rx,rk]/\IvR w3.heap.size w' z.2.1 z.2.2/\z.2.2.map IV.it=(c.co.take z.1).map IV.it) (λz=>c.co.length - z.1) ol (0,nS,[]) La ⟨Ln _,O5.Z _ _,T.B,Yn.nil,U⟩ ?_;rintro⟨i,voA,lA⟩ g w4 ⟨mt,hg,gz,gm,hG⟩;simp only[]at mt gz gm hG;refine Qc<|QZ U U<|xe<|Qd<|QG U (λgn=>?_) (λgn=>?_)
 rotate_left
 ·have J:i<c.co.length:=by have hN:(i:Int)<(c.co.length:Int):=gn;omega
  have hO:c.co.take (i+1)=c.co.take i++[c.co[i]'J]:=Lm J;have p4:lA.length=i:=by have:=OV oP hG;rw[Lh,Lh,Ly]at this;omega
  have V:=Ll J;have h4:=ms.st (hg.mono oe);have g0:=hg.size;refine Qh<|Qd<|Qf<|Qc<|O8 (g:=QO) (i:=i) Yp h4.co.arr U U J λp5 hP=>?_;refine Zk (c.co[i]'J) λq S=>?_;rw[S]at hP hO V;have hr:=h4.co.each q V;have hQ:=h4.co.nm q V;refine x (Qx hP U U)<|Qe<|Qo (us:=[.string .empty,nS,oF oG 0,nS,nS]) U λb5 p6 g4 g5 g6=>Qe<|Qj (us:=QO q) g6 U U U U ⟨U,hr.al.one,U,hr.mr.one,hr.ed.one,Z⟩ λY g7 hR=>xe ?_;have hh:O5 [] w4 Y:=g4.O g7 g5;have p7:=hh.size;have hS:=gm.I hh;have hT:=gz.I hh;have hge:=Qi hS.own;have hU:=Qi gm.own;have n3v:O∉ob voA:=λE=>ou (hge O E)
  have n5v:b5∉ob voA:=λE=>ou (hU b5 E)
  have hV:O5 [] Y { Y with drawn:=Y.drawn+1 }:=O5.C _ _
  refine ZD (ob voA) (Xb 0 12 [6,8,9,11])<|p (QR U)<|pq (λ_ I=>Qq (hT.J I n3v) U U)<|p (QR U)<|pq (λ_ I=>Qq (hR.J I n5v) U U) <|
   p (QR rfl)<|pq (λ_ I=>Zj (us:=[q.p.va,oF oG q.p.a.st,q.p.vm,q.p.ve]) (hR.J I n5v) U U U)<|pk<|xg<|(QdO ((hr.I hh).I hV)).mono ?_
  rintro _ p8 ⟨g8,xa,xm,ha,rfl,hA⟩;have ht:=hV.D g8;have p9:=ht.size;have g9:=hA [] oe;refine⟨ht.any,?_⟩;refine p (λ_=>Zf [(0,[.string q.nm]),(1,[xa,oF oG q.p.a.st,xm,ha])] ⟨U,U,U,U,Z⟩)<|pk<|QC (us:=[QO ⟨q.nm,⟨xa,xm,ha,q.p.a⟩⟩]) U U og (show 1*5<=1000000 by omega) oA λqc ka hv qf kb=>⟨(ht.D hv).any,?_⟩;have hi:=ht.D hv;have hW:=hS.I hi;have kc:IvA [] ka.heap ⟨q.nm,⟨xa,xm,ha,q.p.a⟩⟩:=⟨g9.I hv,hQ⟩;refine pk<|Za (m:=1) (news:=QO ⟨q.nm,⟨xa,xm,ha,q.p.a⟩⟩) (L:=[]) hW.own U U U (kb.at oe) (Zr.all kc.ones) oa (ou hi.size) λv16 ke hX hw kf=>⟨(hi.any (L:=ob voA)).Q hw,?_⟩;have ql:({ Y with drawn:=Y.drawn+1 }:O1).heap.size=Y.heap.size:=rfl
  have kg:IvR w3.heap.size ke v16 (lA++[⟨q.nm,⟨xa,xm,ha,q.p.a⟩⟩]):=hW.app (λL hL=>⟨(hA L (λb E=>by
   rcases hL b E with h|h
   ·omega
   have:=hge b h;omega)).I hv,hQ⟩) hX hw kf
  refine p (QR U)<|pkl (hl:=by kernel_rfl)<|QB (j:=1) (u:=v16) ((hT.I hi).J hw n3v) U U oe (Qt hX) λqo hY kh=>pe ?_;refine Qw<|QP U U<|Qa<|xe<|⟨(i+1,v16,lA++[⟨q.nm,⟨xa,xm,ha,q.p.a⟩⟩]),oh,La,J,?_,kh,kg.low hY (λb E=>by rw[Lb.1 E];omega),?_⟩
  ·exact((hg.D (hh.D hi)).then hw (λb E=>.inr (ou (hU b E)))).Q hY
  simp only[];rw[hO,Ls,Ls,hG];rfl
 refine Qy ?_;have mu:c.co.length<=i:=by have hN:¬(i:Int)<(c.co.length:Int):=gn;omega
 rw[Lt mu]at hG;clear mt mu gn;have ki:=ms.st (hg.mono oe);have qr:=hg.size;have q0:=mh.J hg (oz p0);have q1:=Qg T.x hg (λb E H=>m3x (Lb.1 H ▸ E));have q2:=Qg T.k hg (λb E H=>m3k (Lb.1 H ▸ E));have q3:=Qg T.e hg (λb E H=>(T.d1 b E).1 (Lb.1 H));have q4:=(k5.I gk).J hg (oz mo);refine Qd<|Qc<|Qs U q0 U U<|QK ki.rq.arr U<|Qa<|xe<|Qf<|QD (α:=Nat×O2×List IV) [(7,7),(42,57)] (λz=>[(42,oF oG z.1)]) (λz w'=>z.1<=c.rq.length/\O5 [O] w4 w'/\Zb w'.heap O 44 [re,voA,z.2.1,rx,rk]/\IvR w4.heap.size w' z.2.1 z.2.2/\z.2.2.map IV.it=(c.rq.take z.1).map IV.it) (λz=>c.rq.length - z.1) ol (0,nS,[]) La ⟨Ln _,O5.Z _ _,gz,Yn.nil,U⟩ ?_;rintro⟨i,voB,lB⟩ g w5 ⟨mv,hk,hZ,hH,hJ⟩;simp only[]at mv hZ hH hJ;refine Qc<|QZ U U<|xe<|Qd<|QG U (λgo=>?_) (λgo=>?_)
 rotate_left
 ·have J:i<c.rq.length:=by have hN:(i:Int)<(c.rq.length:Int):=go;omega
  have hO:c.rq.take (i+1)=c.rq.take i++[c.rq[i]'J]:=Lm J;have p4:lB.length=i:=by have:=OV oP hJ;rw[Lh,Lh,Ly]at this;omega
  have V:=Ll J;have h4:=ki.st (hk.mono oe);have g0:=hk.size;refine Qh<|Qd<|Qf<|Qc<|O8 (g:=QO) (i:=i) Yp h4.rq.arr U U J λp5 hP=>?_;refine Zk (c.rq[i]'J) λq S=>?_;rw[S]at hP hO V;have hr:=h4.rq.each q V;have hQ:=h4.rq.nm q V;refine x (Qx hP U U)<|Qe<|Qo (us:=[.string .empty,nS,oF oG 0,nS,nS]) U λb5 p6 g4 g5 g6=>Qe<|Qj (us:=QO q) g6 U U U U ⟨U,hr.al.one,U,hr.mr.one,hr.ed.one,Z⟩ λY g7 hR=>xe ?_;have hh:O5 [] w5 Y:=g4.O g7 g5;have p7:=hh.size;have hS:=hH.I hh;have hT:=hZ.I hh;have hge:=Qi hS.own;have hU:=Qi hH.own;have n3v:O∉ob voB:=λE=>ou (hge O E)
  have n5v:b5∉ob voB:=λE=>ou (hU b5 E)
  have hV:O5 [] Y { Y with drawn:=Y.drawn+1 }:=O5.C _ _
  refine ZD (ob voB) (Xb 0 12 [6,8,9,11])<|p (QR U)<|pq (λ_ I=>Qq (hT.J I n3v) U U)<|p (QR U)<|pq (λ_ I=>Qq (hR.J I n5v) U U) <|
   p (QR rfl)<|pq (λ_ I=>Zj (us:=[q.p.va,oF oG q.p.a.st,q.p.vm,q.p.ve]) (hR.J I n5v) U U U)<|pk<|xg<|(QdO ((hr.I hh).I hV)).mono ?_
  rintro _ p8 ⟨g8,xa,xm,ha,rfl,hA⟩;have ht:=hV.D g8;have p9:=ht.size;have g9:=hA [] oe;refine⟨ht.any,?_⟩;refine p (λ_=>Zf [(0,[.string q.nm]),(1,[xa,oF oG q.p.a.st,xm,ha])] ⟨U,U,U,U,Z⟩)<|pk<|QC (us:=[QO ⟨q.nm,⟨xa,xm,ha,q.p.a⟩⟩]) U U og (show 1*5<=1000000 by omega) oA λqc ka hv qf kb=>⟨(ht.D hv).any,?_⟩;have hi:=ht.D hv;have hW:=hS.I hi;have kc:IvA [] ka.heap ⟨q.nm,⟨xa,xm,ha,q.p.a⟩⟩:=⟨g9.I hv,hQ⟩;refine pk<|Za (m:=1) (news:=QO ⟨q.nm,⟨xa,xm,ha,q.p.a⟩⟩) (L:=[]) hW.own U U U (kb.at oe) (Zr.all kc.ones) oa (ou hi.size) λv16 ke hX hw kf=>⟨(hi.any (L:=ob voB)).Q hw,?_⟩;have ql:({ Y with drawn:=Y.drawn+1 }:O1).heap.size=Y.heap.size:=rfl
  have kg:IvR w4.heap.size ke v16 (lB++[⟨q.nm,⟨xa,xm,ha,q.p.a⟩⟩]):=hW.app (λL hL=>⟨(hA L (λb E=>by
   rcases hL b E with h|h
   ·omega
   have:=hge b h;omega)).I hv,hQ⟩) hX hw kf
  refine p (QR U)<|pkl (hl:=by kernel_rfl)<|QB (j:=2) (u:=v16) ((hT.I hi).J hw n3v) U U oe (Qt hX) λqo hY kh=>pe ?_;refine Qw<|QP U U<|Qa<|xe<|⟨(i+1,v16,lB++[⟨q.nm,⟨xa,xm,ha,q.p.a⟩⟩]),oh,La,J,?_,kh,kg.low hY (λb E=>by rw[Lb.1 E];omega),?_⟩
  ·exact((hk.D (hh.D hi)).then hw (λb E=>.inr (ou (hU b E)))).Q hY
  simp only[];rw[hO,Ls,Ls,hJ];rfl
 refine Qy ?_;have mw:c.rq.length<=i:=by have hN:¬(i:Int)<(c.rq.length:Int):=go;omega
 rw[Lt mw]at hJ;clear mv mw go;have my:=ki.st (hk.mono oe);have hzB:=hk.size;have hH:=Yn.base hH qr;have q5:=gm.low hk (λb E=>by rw[Lb.1 E];exact mj);have mz:=Qg q1 hk (λb E H=>m3x (Lb.1 H ▸ E));have j1:=Qg q2 hk (λb E H=>m3k (Lb.1 H ▸ E));have j2:=Qg q3 hk (λb E H=>(T.d1 b E).1 (Lb.1 H));have j3:=q4.J hk (oz mo);refine Qd<|Qc<|Qs U hZ U U<|QK (QJ (L:=[]) mz (by exact pa) oe) rfl<|Qa<|xe<|Qf<|QD (α:=Nat×List XV) [(8,8),(61,76)] (λz=>[(61,oF oG z.1)]) (λz w'=>(z.1<=c.ex.length/\z.2.length=c.ex.length)/\O5 (ob rx) w5 w'/\w'.ownsRow w2.heap.size 116 2 rx z.2.length (z.2.flatMap Q8)/\z.2.map XV.x=c.ex.map XV.x/\(∀j (G:j<z.2.length),j<z.1->Fre XvA w3.heap.size w'.heap (z.2[j]'G))/\∀j (G:j<z.2.length) (hp:j<c.ex.length),z.1<=j->z.2[j]'G=c.ex[j]'hp)
  (λz=>c.ex.length - z.1) ol (0,c.ex) La ⟨⟨Ln _,U⟩,O5.Z _ _,mz,U,λj G ho=>OW ho (Ni j),λj G hp _=>U⟩ ?_
 rintro⟨i,lx⟩ g w6 ⟨⟨za,m2⟩,he,hK,kj,kk,kn⟩;simp only[]at za m2 hK kj kk kn;refine Qc<|QZ U U<|xe<|Qd<|QG U (λm3=>?_) (λm3=>?_)
 rotate_left
 ·have hy:i<c.ex.length:=by have hN:(i:Int)<(c.ex.length:Int):=m3;omega
  have J:i<lx.length:=oa
  have hge:=Qi hK;have g0:=he.size;obtain⟨gx,capx,eg⟩:=XZ hK oa;have ko:ob rx=[gx]:=by rw[eg];rfl
  have ga:=hK;rw[eg]at ga;have gb:=hZ.J he m3x;have hz:=kn i J hy (Lu _);have V:=Ll hy;have hD:=((my.st (he.mono (λb E=>Lj _ (Lc.2 (.inl E))))).ex.each _ V).up (L':=[]) oe;have zb:=QJ (L:=[]) hK oa oe;refine Qh<|Qd<|Qf<|Qm<|Qb<|Zk (c.ex[i]'hy) λq S=>?_;rw[S]at hz V hD;have hd:O5 [] w6 { w6 with drawn:=w6.drawn+1 }:=O5.C _ _
  refine ZD [] (Xb 0 13 [9,12])<|p (QR U)<|pq (λ_ I=>Qq (gb.I I) U U)<|p QE<|p (QR U)<|pq (λ_ I=>Qq (gb.I I) U U) <|
   p QE<|Go.Lg.pig (g:=Q8) (i:=i) U Xz zb U U J λzv kq=>p (λ_=>Zp U)<|pq (λ_ I=>QA ((kq.fld 1 q.v (by rw[hz];rfl)).I I) U) <|
   pk<|xg<|(Qaa (hD.I hd)).mono ?_
  rintro rv w9 ⟨kr,hE⟩;have h6:O5 [] w6 w9:=hd.D kr;refine⟨h6,?_⟩;refine p (λ_=>Zu (i:=i) eg U J)<|p (QR U)<|pkl (hl:=by kernel_rfl)<|Qm6 (k:=0+i*2+1) (u:=rv) (Qp ga h6) U U (by have:(i+1)*2<=lx.length*2:=LY _ J;omega) (Qt hE) λz0 h7 hF =>
   pe ?_
  rw[<-ko]at h7;rw[<-eg]at hF;have kt:=yx (g:=Q8) Xz lx i 1 rv ⟨q.nm,rv,q.ls⟩ J og (by rw[hz];rfl);rw[show 0+i*2+1=i*2+1 by omega,kt]at hF;refine Qw<|QP U U<|Qa<|xe ?_;have gc:=gy;refine⟨(i+1,lx.set i ⟨q.nm,rv,q.ls⟩),oh,La,⟨hy,by simp only[Ou];exact m2⟩,(he.D h6).Q h7,by simp only[Ou];exact hF,?_,λj G ho=>?_,λj G hp ho=>?_⟩
  ·simp only[];rw[yi J (by rw[hz];rfl),kj]
  ·simp only[Ou]at G;simp only[]at ho ⊢;rw[M7];split
   ·refine Fre.low (w:=w9) ?_ h7 gc;intro L hL;exact⟨QJ hE (ou hD.le) (λb E hbL=>by have h1:=(Qi hE b E).1;have h2:=hL b hbL;have h3:w3.heap.size<=w6.heap.size:=oa;have h4:({ w6 with drawn:=w6.drawn+1 }:O1).heap.size=w6.heap.size:=rfl;omega),h.ex.nm q V⟩
   rename_i z1;exact((kk j G oa).I h6).low h7 gc
  simp only[Ou]at G;simp only[]at ho ⊢;rw[List.getElem_set_ne oa];exact kn j G hp oa
 refine Qy ?_;have z2:=my.st (he.mono (λb E=>Lj _ (Lc.2 (.inl E))));have hzC:=he.size;have z3:=q5.low he gy;have z4:=hH.low he gy;have m4:=Qg j1 he (λb E H=>(T.d2 b H).2 E);have z5:=Qg j2 he (λb E H=>(T.d1 b E).2.1 H);have ku:=hZ.J he m3x;have m2x:b2∉ob rx:=λE=>ou (gv b2 E)
 have m2k:b2∉ob rk:=λE=>ou (gw b2 E)
 have hB26:=j3.J he m2x;refine Qd<|Qc<|Qs U ku U U<|QK (QJ (L:=[]) m4 (by exact pc) oe) rfl<|Qa<|xe<|Qf<|QD (α:=Nat×List KV) [(9,9),(80,95)] (λz=>[(80,oF oG z.1)]) (λz w'=>(z.1<=c.cs.length/\z.2.length=c.cs.length)/\O5 (ob rk) w6 w'/\w'.ownsRow w2.heap.size 121 3 rk z.2.length (z.2.flatMap Zd)/\z.2.map KV.k=c.cs.map KV.k/\(∀j (G:j<z.2.length),j<z.1->Fre KvA w3.heap.size w'.heap (z.2[j]'G))/\∀j (G:j<z.2.length) (hp:j<c.cs.length),z.1<=j->z.2[j]'G=c.cs[j]'hp)
  (λz=>c.cs.length - z.1) ol (0,c.cs) La ⟨⟨Ln _,U⟩,O5.Z _ _,m4,U,λj G ho=>OW ho (Ni j),λj G hp _=>U⟩ ?_
 rintro⟨i,lk⟩ g w7 ⟨⟨hiD,m5⟩,hf,h8,kv,gp,kw⟩;simp only[]at hiD m5 h8 kv gp kw;refine Qc<|QZ U U<|xe<|Qd<|QG U (λm6=>?_) (λm6=>?_)
 rotate_left
 ·have hy:i<c.cs.length:=by have hN:(i:Int)<(c.cs.length:Int):=m6;omega
  have J:i<lk.length:=oa
  have hge:=Qi h8;have g0:=hf.size;obtain⟨gx,capx,eg⟩:=XZ h8 oa;have ko:ob rk=[gx]:=by rw[eg];rfl
  have ga:=h8;rw[eg]at ga;have gb:=ku.J hf m3k;have hz:=kw i J hy (Lu _);have V:=Ll hy;have hD:=((z2.st (hf.mono (λb E=>Lj _ (Lc.2 (.inr E))))).cs.each _ V).up (L':=[]) oe;have hAD:=QJ (L:=[]) h8 oa oe;refine Qh<|Qd<|Qf<|Qm<|Qb<|Zk (c.cs[i]'hy) λq S=>?_;rw[S]at hz V hD;have hd:O5 [] w7 { w7 with drawn:=w7.drawn+1 }:=O5.C _ _
  refine ZD [] (Xb 0 13 [9,12])<|p (QR U)<|pq (λ_ I=>Qq (gb.I I) U U)<|p QE<|p (QR U)<|pq (λ_ I=>Qq (gb.I I) U U) <|
   p QE<|Go.Lg.pig (g:=Zd) (i:=i) U Xp hAD U U J λzv kq=>p (λ_=>Zp U)<|pq (λ_ I=>QA ((kq.fld 1 q.v (by rw[hz];rfl)).I I) U) <|
   pk<|xg<|(j9 (hD.I hd)).mono ?_
  rintro rv w9 ⟨kr,hE⟩;have h6:O5 [] w7 w9:=hd.D kr;refine⟨h6,?_⟩;refine p (λ_=>Zu (i:=i) eg U J)<|p (QR U)<|pkl (hl:=by kernel_rfl)<|Qm6 (k:=0+i*3+1) (u:=rv) (Qp ga h6) U U (by have:(i+1)*3<=lk.length*3:=LY _ J;omega) (Qt hE) λz0 h7 hF =>
   pe ?_
  rw[<-ko]at h7;rw[<-eg]at hF;have kt:=yx (g:=Zd) Xp lk i 1 rv ⟨q.nm,rv,q.ts,q.bd⟩ J og (by rw[hz];rfl);rw[show 0+i*3+1=i*3+1 by omega,kt]at hF;refine Qw<|QP U U<|Qa<|xe ?_;have gc:=gl;refine⟨(i+1,lk.set i ⟨q.nm,rv,q.ts,q.bd⟩),oh,La,⟨hy,by simp only[Ou];exact m5⟩,(hf.D h6).Q h7,by simp only[Ou];exact hF,?_,λj G ho=>?_,λj G hp ho=>?_⟩
  ·simp only[];rw[yi J (by rw[hz];rfl),kv]
  ·simp only[Ou]at G;simp only[]at ho ⊢;rw[M7];split
   ·refine Fre.low (w:=w9) ?_ h7 gc;intro L hL;exact⟨QJ hE (ou hD.le) (λb E hbL=>by have h1:=(Qi hE b E).1;have h2:=hL b hbL;have h3:w3.heap.size<=w7.heap.size:=oa;have h4:({ w7 with drawn:=w7.drawn+1 }:O1).heap.size=w7.heap.size:=rfl;omega),h.cs.nm q V⟩
   rename_i z1;exact((gp j G oa).I h6).low h7 gc
  simp only[Ou]at G;simp only[]at ho ⊢;rw[List.getElem_set_ne oa];exact kw j G hp oa
 refine Qy ?_;have m7:=z3.low hf gl;have m8:=z4.low hf gl;have kx:=Qg hK hf (λb E H=>(T.d2 b E).2 H);have kz:=Qg z5 hf (λb E H=>(T.d1 b E).2.2 H);have hB37:=ku.J hf m3k;have hB27:=hB26.J hf m2k;have m9:∀j (G:j<lx.length),j<c.ex.length->Fre XvA w3.heap.size w7.heap (lx[j]'G):=λj G hp=>(kk j G oa).low hf gl;have hone:Zr [re,voA,voB,rx,rk]:=⟨Qt kz,Qt m7.own,Qt m8.own,Qt kx,Qt h8,Z⟩;refine Qc<|Q5 hB37 U U<|Qe<|Qj (us:=[re,voA,voB,rx,rk]) hB27 U U U U hone λw8 h9 hB28=>xe ?_;have hs37:O5 (O::(ob rx++ob rk)) w3 w7:=(((hg.mono oe).Q (hk.mono oe)).Q (he.mono (λb E=>Lj _ (Lc.2 (.inl E))))).Q (hf.mono (λb E=>Lj _ (Lc.2 (.inr E))));have hs07:O5 [] w w7:=gu.then hs37 (λb E=>.inr (mq b E).1);refine Qk ⟨[.agg #[re,voA,voB,rx,rk]],⟨⟨_,U,Qn U (hB28.at (L:=[]) oe).cells⟩,Z⟩,hs07.O h9 oa,CL.mk re voA voB rx rk c.ev lA lB lx lk,rfl,?_,λL hL=>?_⟩
 ·unfold CL.V;simp only[];rw[hG,hJ,kj,kv]
 have gq:∀b∈b2::L,b<w2.heap.size:=λb E=>by
  rcases Li.1 E with rfl|E
  ·exact pg
  have:=hL b E;omega
 have hM:∀b∈b2::L,b<w3.heap.size:=λb E=>ou (gq b E)
 have lA1:lA.length=c.co.length:=by have:=OV oP hG;rwa [Lh,Lh]at this
 have lB1:lB.length=c.rq.length:=by have:=OV oP hJ;rwa [Lh,Lh]at this
 have hC:ZK (b2::L) w7.heap (CL.mk re voA voB rx rk c.ev lA lB lx lk):=by
  refine⟨⟨QJ kz pd (λb E H=>ov (Qi kz b E).1 (gq b H)),h.ev.nm⟩,IvR.itms m7 (show lA.length<=1099511627776 by omega) hM,IvR.itms m8 (show lB.length<=1099511627776 by omega) hM,⟨QJ kx (show lx.length<=1099511627776 by omega) (λb E H=>ov (Qi kx b E).1 (gq b H)),λq S=>?_,λq S=>?_⟩,⟨QJ h8 (show lk.length<=1099511627776 by omega) (λb E H=>ov (Qi h8 b E).1 (gq b H)),λq S=>?_,λq S=>?_⟩⟩
  ·obtain⟨j,G,rfl⟩:=LM S;exact(m9 j G (by have h5:j<lx.length:=G;omega) _ hM).l
  ·obtain⟨j,G,rfl⟩:=LM S;exact(m9 j G (by have h5:j<lx.length:=G;omega) _ hM).nm
  ·obtain⟨j,G,rfl⟩:=LM S;exact(gp j G (by have h5:j<lk.length:=G;omega) _ hM).l
  obtain⟨j,G,rfl⟩:=LM S;exact(gp j G (by have h5:j<lk.length:=G;omega) _ hM).nm
 exact(hC.st (h9.mono oe)).up (λb E=>.inl (Lj _ E))
section
variable {κ:Type}[DecidableEq κ](ky:α->κ)(vl:α->O2)
def yk (l:List α)(m:List (κ×O2)):List (κ×O2):=l.foldl (λm p=>xh m (ky p) (vl p)) m
theorem jO {k:κ}:∀(l:List α) (m:List (κ×O2)),(l.map ky).Nodup->(∀p∈l,xd m (ky p)=none)->xd (yk ky vl l m) k=match l.find? (λp=>decide (ky p=k))with
  | some p=>some (vl p)
  | none=>xd m k
 | [],m,_,_=>rfl
 | p::l,m,I,J=>by
  obtain⟨H,O⟩:=Nz.1 (show(ky p::l.map ky).Nodup from I);have ih:=jO (k:=k) l (xh m (ky p) (vl p)) O λq G=>by
   rw[Xv,OT λe=>H (by rw[e];exact LO G)];exact J q (Lj _ G)
  have e0:yk ky vl (p::l) m=yk ky vl l (xh m (ky p) (vl p)):=rfl;rw[e0,ih,List.find?_cons];by_cases E:ky p=k
  ·have S:l.find? (λp=>decide (ky p=k))=none:=List.find?_eq_none.2 λq G=>by
    have:ky q≠k:=λe=>H (by rw[E,<-e];exact LO G);simpa using this
   rw[S,Xv,OU E];simp[E]
  rw[Xv,OT E];simp[E]
end
theorem QhD {κ:Type}[DecidableEq κ]{l:List κ}{s:κ}(h:s∉l):xh (l.map λs=>(s,Value.bool true)) s (.bool true)=(l++[s]).map λs=>(s,Value.bool true):=by
 induction l with
 | nil=>rfl
 | cons a l ih =>
  have E:a≠s:=λe=>h (by subst e;exact Lr);show(if a=s then(a,Value.bool true)::(l.map λs=>(s,Value.bool true))else(a,Value.bool true)::xh (l.map λs=>(s,Value.bool true)) s (.bool true))=_
  rw[OT E,ih (λG=>h (Lj _ G))];rfl
theorem QhE {κ:Type}[DecidableEq κ](l:List κ)(s:κ):xd (l.map λs=>(s,Value.bool true)) s=if s∈l then some (.bool true)else none:=by
 induction l with
 | nil=>rfl
 | cons a l ih =>
  show(if a=s then some (Value.bool true)else xd (l.map λs=>(s,Value.bool true)) s)=_
  rw[ih];by_cases h:a=s
  ·subst h;simp
  rw[OT h];have E:¬s=a:=λe=>h e.symm;simp[E]
section
variable {pS:String}{κ:Type}[DecidableEq κ]
theorem QfY [hm:Mp P t kt et (.bool false)]{enc:κ->O2}[hk:Key P kt enc]{x:O3}{l:List κ}{s:κ}(h:Yk enc w.heap b (l.map λs=>(s,Value.bool true)))(hx:ev f x=.map (some b))(E:ev f y=enc s):
  (execOp (ev f) ⟨d,.lookup t x y false,ty,pS,af,gd⟩).run P w=.ok (.value (.bool (decide (s∈l)))) w:=by
 rw[Jz h hx E,QhE];by_cases G:s∈l <;> simp[G]
end
section
variable {pS:String}{κ:Type}[DecidableEq κ]
theorem Qli [hm:Mp P t kt et z]{enc:κ->O2}[hk:Key P kt enc]{x:O3}{m:List (κ×O2)}{k:κ}(h:Yk enc w.heap b m)(hx:ev f x=.map (some b))(E:ev f y=enc k)
  {v:O2} (G:(match xd m k with|some u=>Value.tuple #[u,.bool true]|none=>.tuple #[z,.bool false])=v):
  (execOp (ev f) ⟨d,.lookup t x y true,ty,pS,af,gd⟩).run P w=.ok (.value v) w:=by
 rw[<-G];exact Vb h hx E
end
instance keyKy:Key prog 75 kKy:=Qn7 underlying75 og og U U underlying3 underlying9
abbrev z15:LV:=[oF oG 0,.string .empty,oF oG 0,nS,oF oG 0,nS,nS,nS,nS,nS,nS,nS,nS,nS,nS]
abbrev YX:LV:=[nS,nS,nS]
abbrev paV (q:q9):O2:=.agg (ZR q).toArray
theorem zt {k:Int}:∀{l:LN}{i:Nat}{m:UU},m∈VM k i l->m.kd=k/\(i:Int)<=m.ix/\m.ix<((i+l.length:Nat):Int)
 | [],_,_,h=>by simp[VM]at h
 | b::l,i,m,h=>by
  rw[VM]at h;rcases Li.1 h with rfl|h
  ·exact⟨U,NI _,by simp only[oW];omega⟩
  obtain⟨E,G,H⟩:=zt h;exact⟨E,oa,by simp only[oW];omega⟩
theorem Qlz {m:UU}(h:m∈O9 c):0<=m.ix/\(m.kd=1\/m.kd=2\/m.kd=3)/\(m.kd=1->m.ix<(c.rq.length:Int))/\(m.kd=2->m.ix<(c.ex.length:Int))/\(m.kd=3->m.ix<(c.cs.length:Int)):=by
 have e1:(srR c).length=c.rq.length:=Lh _;have e2:(srX c).length=c.ex.length:=Lh _;have I:(srC c).length=c.cs.length:=Lh _;unfold O9 at h;rcases Lc.1 h with h|h
 ·obtain⟨E,G,H⟩:=zt h;exact⟨oa,.inl E,λ_=>oa,λh=>oa,λh=>oa⟩
 rcases Lc.1 h with h|h
 ·obtain⟨E,G,H⟩:=zt h;exact⟨oa,.inr (.inl E),λh=>oa,λ_=>oa,λh=>oa⟩
 obtain⟨E,G,H⟩:=zt h;exact⟨oa,.inr (.inr E),λh=>oa,λh=>oa,λ_=>oa⟩
theorem Qib {ps:List q9}(G:(ps.map (·.e.ky)).Nodup)(H:∀q∈ps,Zr (ZR q))(k:Ky):∃(us:LV) (is:Bool),(match xd (yk (λq:q9=>q.e.ky) paV ps []) k with|some u=>Value.tuple #[u,.bool true]|none=>.tuple #[.agg z15.toArray,.bool false])=.tuple #[.agg us.toArray,.bool is]/\us.length=15/\Zr us /\
  (is=true->∃q∈ps,us=ZR q/\ja (ps.map (·.pt)) k=some q.pt)/\(is=false->ja (ps.map (·.pt)) k=none):=by
 rw[jO (λq:q9=>q.e.ky) paV ps [] G (λ_ _=>rfl)];have I:ja (ps.map (·.pt)) k=(ps.find? λq=>decide (q.e.ky=k)).map (·.pt):=by
  unfold ja;rw[List.find?_map];rfl
 rw[I];cases J:ps.find? λq=>decide (q.e.ky=k)with
 | none=>exact⟨z15,false,U,U,⟨U,U,U,U,U,U,U,U,U,U,U,U,U,U,U,Z⟩,(λh=>by cases h),λ_=>rfl⟩
 | some q =>
  have E:=List.mem_of_find?_eq_some J;exact⟨ZR q,true,U,U,H q E,λ_=>⟨q,E,U,U⟩,(λh=>by cases h)⟩
theorem QgN {v:Int}{m:UU}{p:xK}(E:mcE c m=0)(h:ja bf (Yg c m)=some p):KS c bf v m=if p.c=K3 c m then(0,p,true)else(Y0 (K3 c m),Ut c v m,false):=by
 unfold KS;rw[OT (not_not_intro E),h]
theorem QmG {v:Int}{m:UU}(E:mcE c m=0)(h:ja bf (Yg c m)=none):KS c bf v m=(Y0 (K3 c m),Ut c v m,false):=by
 unfold KS;rw[OT (not_not_intro E),h]
theorem QmH {v:Int}{m:UU}(E:mcE c m≠0):(KS c bf v m).1=mcE c m:=by
 unfold KS;rw[OU E]
structure BlS where
 k:Nat
 vo:O2
 qs:List q9
 vk:O2
 K:List Ky
 vm:O2
 M:List Ky
structure BlI (LL:LN)(B:Nat)(w':O1)(b15 b50:Nat)(ks:List Ky)(z:BlS):Prop where
 b:∃T,Zb w'.heap b15 T [z.vk,z.vm,nS]
 n:Yk kKy w'.heap b50 (ks.map λs=>(s,Value.bool true))
 o:qF ZR 15 149 qG (ob z.vk++(ob z.vm++LL)) B w' z.vo z.qs
 k:w'.ownsRow B 75 2 z.vk z.K.length (z.K.flatMap KL)
 m:w'.ownsRow B 75 2 z.vm z.M.length (z.M.flatMap KL)
 d1:∀b∈ob z.vo,b∉ob z.vk/\b∉ob z.vm
 d2:∀b∈ob z.vk,b∉ob z.vm
section
variable {LL:LN}{w8 w9:O1}{b15 b50:Nat}{ks ks':List Ky}{z:BlS}
theorem BlI.I (h:BlI LL B w b15 b50 ks z)(E:O5 [] w w8):BlI LL B w8 b15 b50 ks z:=by
 obtain⟨T,G⟩:=h.b;exact⟨⟨T,G.I E⟩,h.n.I E,h.o.I E,Qp h.k E,Qp h.m E,h.d1,h.d2⟩
theorem BlI.now (h:BlI LL B w b15 b50 ks z)(H:O5 [b50] w w8)(I:Yk kKy w8.heap b50 (ks'.map λs=>(s,Value.bool true)))(J:b15≠b50)(hB:b50<B)(O:b50∈LL):BlI LL B w8 b15 b50 ks' z:=by
 obtain⟨T,S⟩:=h.b;have g1:=Qi h.o.own;have V:=Qi h.k;have Y:=Qi h.m;refine⟨⟨T,S.J H (oz J)⟩,I,h.o.J H λb E=>?_,Qg h.k H λb E G=>?_,Qg h.m H λb E G=>?_,h.d1,h.d2⟩
 ·rw[Lb.1 E];exact⟨.inl (Lc.2 (.inr (Lc.2 (.inr O)))),λG=>ou (g1 _ G)⟩
 ·rw[Lb.1 G]at E;have:=V _ E;omega
 rw[Lb.1 G]at E;have:=Y _ E;omega
theorem BlI.part (h:BlI LL B w b15 b50 ks z){I:O2}{q:q9}(S:qG (ob z.vo++(ob z.vk++(ob z.vm++LL))) w.heap q)(V:w8.ownsRow B 149 15 I (z.qs.length+1) (z.qs.flatMap ZR++ZR q))(G:O5 (ob z.vo) w w8)
  (J:∀b∈ob I,b∈ob z.vo\/w.heap.size<=b) (ha:b15<B) (hc:b50<B):BlI LL B w8 b15 b50 ks { z with vo:=I,qs:=z.qs++[q] }:=by
 obtain⟨T,Y⟩:=h.b;have ge:=Qi h.o.own;have gk:=Qi h.k;have gm:=Qi h.m;refine⟨⟨T,Y.J G (λE=>ou (ge _ E))⟩,h.n.J G (λE=>ou (ge _ E)),h.o.app S V G J,Qg h.k G (λb H E=>(h.d1 b E).1 H),Qg h.m G (λb H E=>(h.d1 b E).2 H),λb H=>?_,h.d2⟩;rcases J b H with O|O
 ·exact h.d1 b O
 exact⟨λE=>ou (gk b E),λE=>ou (gm b E)⟩
theorem BlI.kept (h:BlI LL B w b15 b50 ks z){H:O2}{k:Ky}(Y:w8.ownsRow B 75 2 H (z.K.length+1) (z.K.flatMap KL++KL k))(S:O5 (ob z.vk) w w8)
  (hn:∀b∈ob H,b∈ob z.vk\/w.heap.size<=b) (J:O5 [b15] w8 w9) (ha:∃T,Zb w9.heap b15 T [H,z.vm,nS]) (hf:b15<B) (hg:b50<B) (hc:b15≠b50) (hL:b15∈LL):BlI LL B w9 b15 b50 ks { z with vk:=H,K:=z.K++[k] }:=by
 have ge:=Qi h.o.own;have gk:=Qi h.k;have gm:=Qi h.m;have g8:=Qi Y;have hd:∀b∈ob H,b∉ob z.vo/\b∉ob z.vm:=λb E=>by
  rcases hn b E with O|O
  ·exact⟨λI=>(h.d1 b I).1 O,h.d2 b O⟩
  exact⟨λI=>ou (ge b I),λI=>ou (gm b I)⟩
 have he:w8.ownsRow B 75 2 H (z.K++[k]).length ((z.K++[k]).flatMap KL):=by
  rw[Lk,LA];simpa using Y
 refine⟨ha,(h.n.J S (λG=>ou (gk _ G))).J J (by simpa using λe=>hc e.symm),⟨?_,λq hq=>?_⟩,Qg he J (λb E G=>?_),Qg (Qg h.m S (λb E G=>h.d2 b G E)) J (λb E G=>?_),λb E=>⟨λG=>(hd b G).1 E,(h.d1 b E).2⟩,λb E=>(hd b E).2⟩
 ·exact Qg (Qg h.o.own S (λb E G=>(h.d1 b E).1 G)) J (λb E G=>by rw[Lb.1 G]at E;have:=ge _ E;omega)
 ·have O:qG (ob H++(ob z.vo++(ob z.vk++(ob z.vm++LL)))) w.heap q:=Mm.up (h.o.each q hq) λb E=>by
   rcases Lc.1 E with E|E
   ·exact(hn b E).imp (λV=>Lc.2 (.inr (Lc.2 (.inl V)))) id
   exact .inl E
  have I:=Mm.st O (S.mono λb E=>Lc.2 (.inr (Lc.2 (.inr (Lc.2 (.inl E))))));have V:=Mm.st I (J.mono λb E=>by rw[Lb.1 E];exact Lc.2 (.inr (Lc.2 (.inr (Lc.2 (.inr (Lc.2 (.inr hL))))))));refine Mm.mono V λb E=>?_;rcases Lc.1 E with E|E
  ·exact Lc.2 (.inr (Lc.2 (.inl E)))
  rcases Lc.1 E with E|E
  ·exact Lc.2 (.inl E)
  exact Lc.2 (.inr (Lc.2 (.inr (Lc.2 (.inr E)))))
 ·rw[Lb.1 G]at E;have:=g8 _ E;omega
 rw[Lb.1 G]at E;have:=gm _ E;omega
theorem BlI.mades (h:BlI LL B w b15 b50 ks z){I:O2}{k:Ky}(Y:w8.ownsRow B 75 2 I (z.M.length+1) (z.M.flatMap KL++KL k))(S:O5 (ob z.vm) w w8)
  (hn:∀b∈ob I,b∈ob z.vm\/w.heap.size<=b) (J:O5 [b15] w8 w9) (ha:∃T,Zb w9.heap b15 T [z.vk,I,nS]) (hf:b15<B) (hg:b50<B) (hc:b15≠b50) (hL:b15∈LL):BlI LL B w9 b15 b50 ks { z with vm:=I,M:=z.M++[k] }:=by
 have ge:=Qi h.o.own;have gk:=Qi h.k;have gm:=Qi h.m;have g8:=Qi Y;have hd:∀b∈ob I,b∉ob z.vo/\b∉ob z.vk:=λb E=>by
  rcases hn b E with O|O
  ·exact⟨λH=>(h.d1 b H).2 O,λH=>h.d2 b H O⟩
  exact⟨λH=>ou (ge b H),λH=>ou (gk b H)⟩
 have he:w8.ownsRow B 75 2 I (z.M++[k]).length ((z.M++[k]).flatMap KL):=by
  rw[Lk,LA];simpa using Y
 refine⟨ha,(h.n.J S (λG=>ou (gm _ G))).J J (by simpa using λe=>hc e.symm),⟨?_,λq hq=>?_⟩,Qg (Qg h.k S (λb E G=>h.d2 b E G)) J (λb E G=>?_),Qg he J (λb E G=>?_),λb E=>⟨(h.d1 b E).1,λG=>(hd b G).1 E⟩,λb E G=>(hd b G).2 E⟩
 ·exact Qg (Qg h.o.own S (λb E G=>(h.d1 b E).2 G)) J (λb E G=>by rw[Lb.1 G]at E;have:=ge _ E;omega)
 ·have O:qG (ob I++(ob z.vo++(ob z.vk++(ob z.vm++LL)))) w.heap q:=Mm.up (h.o.each q hq) λb E=>by
   rcases Lc.1 E with E|E
   ·exact(hn b E).imp (λV=>Lc.2 (.inr (Lc.2 (.inr (Lc.2 (.inl V)))))) id
   exact .inl E
  have H:=Mm.st O (S.mono λb E=>Lc.2 (.inr (Lc.2 (.inr (Lc.2 (.inr (Lc.2 (.inl E))))))));have V:=Mm.st H (J.mono λb E=>by rw[Lb.1 E];exact Lc.2 (.inr (Lc.2 (.inr (Lc.2 (.inr (Lc.2 (.inr hL))))))));refine Mm.mono V λb E=>?_;rcases Lc.1 E with E|E
  ·exact Lc.2 (.inr (Lc.2 (.inl E)))
  rcases Lc.1 E with E|E
  ·exact Lc.2 (.inr (Lc.2 (.inr (Lc.2 (.inl E)))))
  rcases Lc.1 E with E|E
  ·exact Lc.2 (.inl E)
  exact Lc.2 (.inr (Lc.2 (.inr (Lc.2 (.inr (Lc.2 (.inr E)))))))
 ·rw[Lb.1 G]at E;have:=gk _ E;omega
 rw[Lb.1 G]at E;have:=g8 _ E;omega
end
theorem Qf0 (h0:X7 L w.heap q):
  Q6 prog 148 [.agg (Qv q).toArray] w λr w'=>r=.bool (QbQ q.it)/\O5 [] w w':=by
 have h:=h0.up (L':=[]) oe;have hm:=h.a.al.le;have hn:=h.a.mr.le;have ho:=h.a.ed.le;have hp:=h.ls.arr.le;have hq:=h.ts.arr.le;have S:Qam q.p.a=(decide (q.p.a.st=0) && decide ((q.p.a.al.length:Int)+(q.p.a.mr.length:Int)+(q.p.a.ed.length:Int)=0)):=rfl;have E:QbQ q.it=if q.kd=3 then Qam q.p.a && decide ((q.ts.length:Int)=0) && decide (q.bd=0)else if q.kd=4 then Qam q.p.a && decide ((q.ls.length:Int)=0)else decide ((q.ls.length:Int)+(q.ts.length:Int)=0) && decide (q.bd=0):=rfl
 refine Zk (Qam q.p.a) λB hB=>?_;rw[hB]at S E;refine Zq func148 ?_;refine Qc<|Qe<|QS (us:=Qv q) U λb1 w1 hh hr hf=>Qb<|Qc<|Q2 U<|x (Zj (us:=[q.p.va,oF oG q.p.a.st,q.p.vm,q.p.ve]) hf U U U)<|Qe<|Qo (us:=KJ) U λb3 w2 hi hj hk=>Qe<|Qj (us:=[q.p.va,oF oG q.p.a.st,q.p.vm,q.p.ve]) hk U U U U ⟨h.a.al.one,U,h.a.mr.one,h.a.ed.one,Z⟩ λw3 hl I=>xe ?_;have hg:O5 [] w1 w3:=hi.O hl hj;have J:=hh.D hg;have G:=hf.I hg;have H:=h.I J;refine Q3 (α:=Unit) [(4,4),(7,23)] (λ_=>[(4,.bool B)]) (λ_ w'=>w'=w3) ol ?_ ?_
 ·refine Qw<|Qs U I U U<|xb (Q0 U U) (λT=>?_) (λT=>?_)
  ·refine Qa<|Qs U I U U<|QK H.a.al U<|Qs U I U U<|x (Xo H.a.mr U) <|
    QP rfl rfl<|Qs U I U U<|QK H.a.ed U<|x (XR U U ⟨oa,oa⟩) <|
    x (Q0 rfl U)<|QH U<|Qb<|⟨(),⟨OV Value.bool (by rw[S,OX (show q.p.a.st=0 from T),OO]),Z⟩,rfl⟩
  refine Qa<|Qr<|Qr<|Qr<|Qr<|Qr<|Qr<|Qr<|Qr<|Qr<|Qr<|Qr<|Qr<|QH U<|Qb<|⟨(),⟨OV Value.bool (by rw[S,OZ (show ¬q.p.a.st=0 from T),Bool.false_and]),Z⟩,rfl⟩
 rintro _ g V rfl;refine Qd<|Qc<|Qs U G U U<|xe<|Qf<|Qc<|x (Q0 U U)<|Qb<|QY U (λY=>?_) (λY=>?_)
 ·rw[OU Y]at E;refine Q3 (α:=Unit) [(2,2),(28,39)] (λ_=>[(2,.bool (QbQ q.it))]) (λ_ w'=>w'=V) ol ?_ ?_
  ·refine Qw<|xB KD (λO=>?_) (λO=>?_)
   ·refine Qa<|Qs U G U U<|QK H.ts.arr U<|xb (Q0 U U) (λha=>?_) (λha=>?_)
    ·refine QH U<|Qa<|Qs U G U U<|x (Q0 U U)<|QH U<|Qb<|⟨(),⟨OV Value.bool (by rw[E,O,OX (show(q.ts.length:Int)=0 from ha)];rfl),Z⟩,U⟩
    refine QH U<|Qa<|Qr<|Qr<|Qr<|QH U<|Qb<|⟨(),⟨OV Value.bool (by rw[E,O,OZ (show ¬(q.ts.length:Int)=0 from ha)];rfl),Z⟩,U⟩
   refine Qa<|Qr<|Qr<|Qr<|Qr<|QH U<|Qa<|Qr<|Qr<|Qr<|QH U<|Qb<|⟨(),⟨OV Value.bool (by rw[E,O];rfl),Z⟩,U⟩
  rintro _ g w5 rfl;exact Qk ⟨[_],La,U,J⟩
 rw[OT Y]at E;refine Qc<|x (Q0 U U)<|Qb<|QY U (λhb=>?_) (λhb=>?_)
 ·rw[OU hb]at E;refine Q3 (α:=Unit) [(2,2),(42,48)] (λ_=>[(2,.bool (QbQ q.it))]) (λ_ w'=>w'=V) ol ?_ ?_
  ·refine Qw<|xB KD (λhc=>?_) (λhc=>?_)
   ·refine Qa<|Qs U G U U<|QK H.ls.arr U<|x (Q0 U U)<|QH U<|Qb<|⟨(),⟨OV Value.bool (by rw[E,hc,OO]),Z⟩,rfl⟩
   refine Qa<|Qr<|Qr<|Qr<|Qr<|QH U<|Qb<|⟨(),⟨OV Value.bool (by rw[E,hc];rfl),Z⟩,U⟩
  rintro _ g w5 rfl;exact Qk ⟨[_],La,U,J⟩
 rw[OT hb]at E;refine Qh<|Q3 (α:=Unit) [(2,2),(49,61)] (λ_=>[(2,.bool (QbQ q.it))]) (λ_ w'=>w'=V) ol ?_ ?_
 ·refine Qw<|Qs U G U U<|QK H.ls.arr U<|Qs U G U U<|QK H.ts.arr U<|QP U U<|xb (Q0 U U) (λhe=>?_) (λhe=>?_)
  ·refine Qa<|Qs U G U U<|x (Q0 U U)<|QH U<|Qb<|⟨(),⟨OV Value.bool (by rw[E,OX (show(q.ls.length:Int)+(q.ts.length:Int)=0 from he),OO]),Z⟩,rfl⟩
  refine Qa<|Qr<|Qr<|Qr<|QH U<|Qb<|⟨(),⟨OV Value.bool (by rw[E,OZ (show ¬(q.ls.length:Int)+(q.ts.length:Int)=0 from he),Bool.false_and]),Z⟩,rfl⟩
 rintro _ g w5 rfl;exact Qk ⟨[_],La,U,J⟩
theorem QeD {v:O2}(h:XM L w.heap v qs)(i:Int):
  Q6 prog 145 [v,oF oG i] w λr w'=>(match jb (qs.map (·.it)) i with
   | none=>r=.tuple #[.string .empty,oF oG 2]
   | some n=>r=.tuple #[.string n,oF oG 0]/\Jp n)/\O5 [] w w':=by
 have E:jb (qs.map (·.it)) i=if i<0\/(qs.length:Int)<=i then none else some ((qs.map IV.it).getD i.toNat ⟨.empty,Vn⟩).nm:=by unfold jb;rw[Lh]
 refine Zq func145 ?_;refine Qc<|x Ql<|Qb<|Qd<|Q3 (α:=Bool) [(6,13)] (λz=>[(13,.bool z)]) (λz w'=>w'=w/\(z=true↔(i<0\/(qs.length:Int)<=i))) ol ?_ ?_
 ·refine Qw<|Qa<|xb (YQ U U) (λI=>?_) (λI=>?_)
  ·refine Qa<|Qr<|Qr<|Qr<|Qr<|QH U<|xe ?_;exact⟨true,La,U,⟨λ_=>.inl I,λ_=>U⟩⟩
  refine Qa<|Qa<|Qa<|QK h.arr U<|x (Ys U U)<|QH U<|xe ?_;exact⟨_,La,U,⟨λe=>.inr (OY e),λe=>OX (e.resolve_left I)⟩⟩
 rintro z g w1 ⟨rfl,J⟩;refine QX rfl (λH=>?_) (λH=>?_)
 ·rw[OU (J.1 H)]at E;refine Qc<|x Ql<|Qb<|Qk ⟨[_,_],oA,by rw[E];rfl,O5.Z _ _⟩
 have V:¬(i<0\/(qs.length:Int)<=i):=λe=>by rw[J.2 e]at H;cases H
 rw[OT V]at E;refine Qh<|exN (a:=i) oa λj O=>?_;have G:j<qs.length:=oa
 have Y:((qs.map IV.it).getD i.toNat ⟨.empty,Vn⟩).nm=(qs[j]'G).nm:=by
  rw[O];simp[oQ,G,IV.it]
 have S:=Ll G;rw[Y]at E;refine Qm<|Qa<|O8 (g:=QO) (i:=j) Yp h.arr U (show Go.Lg.ev _ _=_ from OV (Value.int .i64) O) G λha T=>?_;refine Zk (qs[j]'G) λq hq=>?_;rw[hq]at T E S;refine x (Zp U)<|x (QA (T.fld 0 (.string q.nm) U) U)<|x Ql<|Qb<|Qk ⟨[_,_],oA,by rw[E];exact⟨U,h.nm q S⟩,O5.Z _ _⟩
theorem Qcu (co:List Xt)(y:Int×Int)(l:xx):VU co (y::l)=match jb co y.1 with
  | none=>none
  | some n=>(VU co l).map ((n,y.2)::·):=rfl
theorem Qct {y:Int×Int}{l:xx}{o:List (ByteArray×Int)}{X:Option (List (ByteArray×Int))}(h:X=(VU co (y::l)).map (o++·))(E:jb co y.1=none):X=none:=by
 rw[h,Qcu,E];rfl
theorem Qcs {y:Int×Int}{l:xx}{o:List (ByteArray×Int)}{X:Option (List (ByteArray×Int))}(h:X=(VU co (y::l)).map (o++·)){n:ByteArray}(E:jb co y.1=some n):X=(VU co l).map ((o++[(n,y.2)])++·):=by
 rw[h,Qcu,E];simp only[Option.map_map];congr 1;funext z;simp
abbrev Zs:O2:=nS
theorem Qlo (o:Option α):o=none\/∃n,o=some n:=by cases o with
 | none=>exact .inl U
 | some n=>exact .inr ⟨n,U⟩
instance:Bw prog 63 z9 [(0,1),(1,1),(2,4),(6,1),(7,1),(8,1)]:=⟨od,og⟩
theorem Qjb {v:O2}{q:XV}(h0:XM L w.heap v qs)(hI:jj L w.heap q.v q.ls)(hJ:Jp q.nm)(gy:q.ls.length<=100000):
  Q6 prog 78 [v,.agg (Q8 q).toArray] w λr w'=>O5 [] w w'/\(match VU (qs.map (·.it)) q.ls with
   | none=>r=.tuple #[.agg z9.toArray,oF oG 2]
   | some l=>∃d:DV,r=.tuple #[.agg (Qv d).toArray,oF oG 0]/\d.it=⟨3,q.nm,Vn,l,[],0⟩/\∀L:LN,(∀b∈L,b<w.heap.size)->X7 L w'.heap d):=by
 have h:=h0.up (L':=[]) oe;have hl:=hI.up (L':=[]) oe;refine Zk (VU (qs.map (·.it)) q.ls) λR hR=>?_;rw[hR];have hK:R=(VU (qs.map (·.it)) q.ls).map (([]:List (ByteArray×Int))++·):=by rw[hR];cases R <;> rfl
 refine Zq func78 ?_;refine Qc<|Qe<|QS (us:=Q8 q) U λb3 w1 hr gz hM=>Qe<|Qo (us:=z9) U λb4 w2 hs g0 ht=>Qb ?_;have hN:=hr.D hs;have hu:=hM.I hs;refine Qc<|Qs U hu U U<|x (Zf [(0,[oF oG 3]),(1,[.string q.nm])] ⟨U,U,U,U,Z⟩)<|Qe<|Qo (us:=z9) U λJ w3 hO hP hQ=>Qe<|Qj (us:=[oF oG 3,.string q.nm,Zs,oF oG 0,Zs,Zs,Zs,Zs,oF oG 0]) hQ U U U U ⟨U,U,U,U,U,U,U,U,U,Z⟩ λO hS hv=>xe ?_;have hg:O5 [] w2 O:=hO.O hS hP;have hw:=hN.D hg;have g2:=hr.size;have g3:=ht.lt;have g4:=hv.lt;have hT:=hu.I hg;have hU:=ht.I hg;refine Qd<|Qc<|Qs U hT U U<|QK (hl.I hw) U<|Qa<|xe<|Qf<|QD (α:=Nat×O2×List (ByteArray×Int)) [(5,5),(8,10),(17,41)] (λz=>[(17,oF oG z.1)]) (λz w'=>z.1<=q.ls.length/\O5 [J] O w'/\Zb w'.heap J 63 [oF oG 3,.string q.nm,Zs,oF oG 0,Zs,Zs,z.2.1,Zs,oF oG 0]/\w'.ownsRow O.heap.size 143 2 z.2.1 z.2.2.length (z.2.2.flatMap ZJ)/\z.2.2.length=z.1/\(∀p∈z.2.2,Jp p.1)/\R=(VU (qs.map (·.it)) (q.ls.drop z.1)).map (z.2.2++·)) (λz=>q.ls.length - z.1) ol (0,Zs,[]) La
  ⟨Ln _,O5.Z _ _,hv,QL _ _ _ _,U,oe,hK⟩ ?_
 rintro⟨k,vl,l⟩ g w5 ⟨hk,V,hh,G,hz,hi,hE⟩;simp only[]at hk hh G hz hi hE;have Y:O5 [] w w5:=hw.O V oa;have g5:=V.size;have h3:=hU.J V om;have h5:=h.I Y;have hV:=hl.I Y;refine Qc<|QZ U U<|xe<|Qd<|QG U (λhj=>?_) (λhj=>?_)
 ·refine Qy ?_;have hW:q.ls.length<=k:=by have hX:¬(k:Int)<(q.ls.length:Int):=hj;omega
  rw[Lq hW]at hE;have hY:R=some l:=by rw[hE];simp[VU]
  refine Qc<|Q5 hh U U<|Qe<|Qj (us:=[oF oG 3,.string q.nm,Zs,oF oG 0,Zs,Zs,vl,Zs,oF oG 0]) h3 U U U U ⟨U,U,U,U,U,U,Qt G,U,U,Z⟩ λw6 h4 hZ=>Qb<|Qk ⟨[.agg (Qv ⟨3,q.nm,⟨Zs,Zs,Zs,Vn⟩,vl,l,Zs,[],0⟩).toArray,oF oG 0],⟨⟨_,U,Qn U (hZ.at (L:=[]) oe).cells⟩,rfl,Z⟩,Y.O h4 oa,?_⟩;rw[hY];refine⟨⟨3,q.nm,⟨Zs,Zs,Zs,Vn⟩,vl,l,Zs,[],0⟩,U,U,λL hL=>?_⟩;have ga:Zn (b4::L) w5.heap vl l.length 2 (l.flatMap ZJ):=QJ G oa (λb E hbL=>by
   have:=(Qi G b E).1;simp only[oL]at hbL;rcases hbL with rfl|hbL
   ·omega
   have:=hL b hbL;omega)
  have gb:VI L w6.heap vl l:=⟨(ga.st (h4.mono oe)).up (λb E=>.inl (by simp[E])),hi⟩;exact⟨hJ,⟨Zn.nil _ _ _,Zn.nil _ _ _,Zn.nil _ _ _⟩,gb,VI.nil⟩
 have S:k<q.ls.length:=by have hX:(k:Int)<(q.ls.length:Int):=hj;omega
 have h6:q.ls.drop k=q.ls[k]'S::q.ls.drop (k+1):=LE S;refine Qh<|Qd<|Qf<|Qc<|O8 (g:=QI) (i:=k) YA hV U U S λg6 h7=>?_;refine Zk (q.ls[k]'S) λy hy=>?_;rw[hy]at h7 h6;rw[h6]at hE;refine x (Qx h7 U U)<|Qe<|Qo (us:=[oF oG 0,oF oG 0]) U λb8 w7 gc gg gh=>Qe<|Qj (us:=QI y) gh U U U U oA λw8 gi h8=>xe ?_;have h9:O5 [] w5 w8:=gc.O gi gg;refine Qm<|Qs U h8 U U<|QM<|(QeD (h5.I h9) y.1).mono ?_;rintro r9 w9 ⟨ha,hA⟩;have he:=h9.D hA;have gj:=h8.I hA;refine Or.elim (Qlo (jb (qs.map (·.it)) y.1)) (λH=>?_) (λH=>?_)
 ·have gk:=Qct hE H;rw[H]at ha;have hf:r9=.tuple #[.string .empty,oF oG 2]:=ha;subst hf;refine Qa<|Q7 U U<|Q7 U U<|x Ql<|Qb<|Qd<|Qm<|ZA U U<|xe<|QY U (λT=>?_) (λT=>OW (show(2:Int)≠0 by decide) T);refine Qc<|x (Zf [] Z)<|Qa<|Qe<|Qj (us:=z9) (h3.I he) U U U U ⟨U,U,U,U,U,U,U,U,U,Z⟩ λg7 gl gm=>Qb<|Qk ⟨[.agg z9.toArray,oF oG 2],⟨⟨_,U,Qn U (gm.at (L:=[]) oe).cells⟩,rfl,Z⟩,(Y.D he).O gl oa,?_⟩;rw[gk];rfl
 refine Exists.elim H λn H=>?_;have gn:=Qcs hE H;rw[H]at ha;have hf:r9=.tuple #[.string n,oF oG 0]/\Jp n:=ha;have go:=hf.1;subst go;refine Qa<|Q7 U U<|Q7 U U<|x Ql<|Qb<|Qd<|Qm<|ZA U U<|xe<|QY rfl (λT=>OW U T) (λT=>?_);refine Qh ?_;have hB:=hh.I he;refine Qw<|Qs U hB U U<|Qa<|Qs U gj U U<|x (Qz ⟨U,U,Z⟩)<|Qe<|QC (us:=[ZJ (n,y.2)]) U U og (show 1*2<=1000000 by decide) oA λg8 g9 hC ka gp=>?_;have ho:=he.D hC;have kb:=ho.size;have gq:=Qp G ho;refine Qe<|Za (m:=1) (news:=ZJ (n,y.2)) gq U U U (by have:=gp.at (L:=[]) oe;simpa using this) (by simp[Value.oneCell']) oa oa λhq gr hD hF gs=>?_;have hG:J∉ob vl:=λhm=>ou (Qi G J hm).1
 have gt:=(hB.I hC).J hF hG;refine Q2 rfl<|Qe<|QB (j:=6) (u:=hq) gt U U oe (Qt hD) λgu hH gv=>xe ?_;have gw:O5 [J] O gr:=(V.then ho oe).then hF λb E=>.inr (Qi G b E).1;have gx:gu.ownsRow O.heap.size 143 2 hq (l++[(n,y.2)]).length ((l++[(n,y.2)]).flatMap ZJ):=by
  have h1:=Qg hD hH (λb E hc=>by
   simp only[oI]at hc;subst hc;rcases gs b E with h2|h2
   ·exact hG h2
   omega)
  rw[Lk,LA];simpa using h1
 refine Qw<|QP U U<|Qa<|xe<|⟨(k+1,hq,l++[(n,y.2)]),by show q.ls.length - (k+1)<q.ls.length - k;omega,La,S,gw.then hH (λb E=>.inl E),gv,gx,by simp[hz],λp I=>?_,gn⟩;rcases Lc.1 I with I|I
 ·exact hi p I
 simp only[oI]at I;subst I;exact hf.2
theorem QjC {v:O2}{q:KV}(h0:XM L w.heap v qs)(hI:jj L w.heap q.v q.ts)(hJ:Jp q.nm)(gy:q.ts.length<=100000):
  Q6 prog 79 [v,.agg (Zd q).toArray] w λr w'=>O5 [] w w'/\(match VU (qs.map (·.it)) q.ts with
   | none=>r=.tuple #[.agg z9.toArray,oF oG 2]
   | some l=>∃d:DV,r=.tuple #[.agg (Qv d).toArray,oF oG 0]/\d.it=⟨4,q.nm,Vn,[],l,q.bd⟩/\∀L:LN,(∀b∈L,b<w.heap.size)->X7 L w'.heap d):=by
 have h:=h0.up (L':=[]) oe;have hl:=hI.up (L':=[]) oe;refine Zk (VU (qs.map (·.it)) q.ts) λR hR=>?_;rw[hR];have hK:R=(VU (qs.map (·.it)) q.ts).map (([]:List (ByteArray×Int))++·):=by rw[hR];cases R <;> rfl
 refine Zq func79 ?_;refine Qc<|Qe<|QS (us:=Zd q) U λb3 w1 hs gz hM=>Qe<|Qo (us:=z9) U λb4 w2 ht g0 hu=>Qb ?_;have hN:=hs.D ht;have hg:=hM.I ht;refine Qc<|Qs U hg U U<|Qs U hg U U<|x (Zf [(0,[oF oG 4]),(1,[.string q.nm]),(5,[oF oG q.bd])] ⟨U,U,U,U,U,U,Z⟩)<|Qe<|Qo (us:=z9) U λJ w3 hO hP hQ=>Qe<|Qj (us:=[oF oG 4,.string q.nm,Zs,oF oG 0,Zs,Zs,Zs,Zs,oF oG q.bd]) hQ U U U U ⟨U,U,U,U,U,U,U,U,U,Z⟩ λO hS hv=>xe ?_;have hh:O5 [] w2 O:=hO.O hS hP;have hw:=hN.D hh;have g2:=hs.size;have g3:=hu.lt;have g4:=hv.lt;have hT:=hg.I hh;have hU:=hu.I hh;refine Qd<|Qc<|Qs U hT U U<|QK (hl.I hw) U<|Qa<|xe<|Qf<|QD (α:=Nat×O2×List (ByteArray×Int)) [(5,5),(8,10),(19,43)] (λz=>[(19,oF oG z.1)]) (λz w'=>z.1<=q.ts.length/\O5 [J] O w'/\Zb w'.heap J 63 [oF oG 4,.string q.nm,Zs,oF oG 0,Zs,Zs,Zs,z.2.1,oF oG q.bd]/\w'.ownsRow O.heap.size 145 2 z.2.1 z.2.2.length (z.2.2.flatMap ZJ)/\z.2.2.length=z.1/\(∀p∈z.2.2,Jp p.1)/\R=(VU (qs.map (·.it)) (q.ts.drop z.1)).map (z.2.2++·)) (λz=>q.ts.length - z.1) ol (0,Zs,[]) La
  ⟨Ln _,O5.Z _ _,hv,QL _ _ _ _,U,oe,hK⟩ ?_
 rintro⟨k,vl,l⟩ g w5 ⟨hk,V,hi,G,hz,hj,hE⟩;simp only[]at hk hi G hz hj hE;have Y:O5 [] w w5:=hw.O V oa;have g5:=V.size;have h3:=hU.J V om;have h5:=h.I Y;have hV:=hl.I Y;refine Qc<|QZ U U<|xe<|Qd<|QG U (λho=>?_) (λho=>?_)
 ·refine Qy ?_;have hW:q.ts.length<=k:=by have hX:¬(k:Int)<(q.ts.length:Int):=ho;omega
  rw[Lq hW]at hE;have hY:R=some l:=by rw[hE];simp[VU]
  refine Qc<|Q5 hi U U<|Qe<|Qj (us:=[oF oG 4,.string q.nm,Zs,oF oG 0,Zs,Zs,Zs,vl,oF oG q.bd]) h3 U U U U ⟨U,U,U,U,U,U,U,Qt G,U,Z⟩ λw6 h4 hZ=>Qb<|Qk ⟨[.agg (Qv ⟨4,q.nm,⟨Zs,Zs,Zs,Vn⟩,Zs,[],vl,l,q.bd⟩).toArray,oF oG 0],⟨⟨_,U,Qn U (hZ.at (L:=[]) oe).cells⟩,rfl,Z⟩,Y.O h4 oa,?_⟩;rw[hY];refine⟨⟨4,q.nm,⟨Zs,Zs,Zs,Vn⟩,Zs,[],vl,l,q.bd⟩,U,U,λL hL=>?_⟩;have ga:Zn (b4::L) w5.heap vl l.length 2 (l.flatMap ZJ):=QJ G oa (λb E hbL=>by
   have:=(Qi G b E).1;simp only[oL]at hbL;rcases hbL with rfl|hbL
   ·omega
   have:=hL b hbL;omega)
  have gb:VI L w6.heap vl l:=⟨(ga.st (h4.mono oe)).up (λb E=>.inl (by simp[E])),hj⟩;exact⟨hJ,⟨Zn.nil _ _ _,Zn.nil _ _ _,Zn.nil _ _ _⟩,VI.nil,gb⟩
 have S:k<q.ts.length:=by have hX:(k:Int)<(q.ts.length:Int):=ho;omega
 have h6:q.ts.drop k=q.ts[k]'S::q.ts.drop (k+1):=LE S;refine Qh<|Qd<|Qf<|Qc<|O8 (g:=QI) (i:=k) YA hV U U S λg6 h7=>?_;refine Zk (q.ts[k]'S) λy hy=>?_;rw[hy]at h7 h6;rw[h6]at hE;refine x (Qx h7 U U)<|Qe<|Qo (us:=[oF oG 0,oF oG 0]) U λb8 w7 gc gg gh=>Qe<|Qj (us:=QI y) gh U U U U oA λw8 gi h8=>xe ?_;have h9:O5 [] w5 w8:=gc.O gi gg;refine Qm<|Qs U h8 U U<|QM<|(QeD (h5.I h9) y.1).mono ?_;rintro r9 w9 ⟨ha,hA⟩;have he:=h9.D hA;have gj:=h8.I hA;refine Or.elim (Qlo (jb (qs.map (·.it)) y.1)) (λH=>?_) (λH=>?_)
 ·have gk:=Qct hE H;rw[H]at ha;have hf:r9=.tuple #[.string .empty,oF oG 2]:=ha;subst hf;refine Qa<|Q7 U U<|Q7 U U<|x Ql<|Qb<|Qd<|Qm<|ZA U U<|xe<|QY U (λT=>?_) (λT=>OW (show(2:Int)≠0 by decide) T);refine Qc<|x (Zf [] Z)<|Qa<|Qe<|Qj (us:=z9) (h3.I he) U U U U ⟨U,U,U,U,U,U,U,U,U,Z⟩ λg7 gl gm=>Qb<|Qk ⟨[.agg z9.toArray,oF oG 2],⟨⟨_,U,Qn U (gm.at (L:=[]) oe).cells⟩,rfl,Z⟩,(Y.D he).O gl oa,?_⟩;rw[gk];rfl
 refine Exists.elim H λn H=>?_;have gn:=Qcs hE H;rw[H]at ha;have hf:r9=.tuple #[.string n,oF oG 0]/\Jp n:=ha;have go:=hf.1;subst go;refine Qa<|Q7 U U<|Q7 U U<|x Ql<|Qb<|Qd<|Qm<|ZA U U<|xe<|QY rfl (λT=>OW U T) (λT=>?_);refine Qh ?_;have hB:=hi.I he;refine Qw<|Qs U hB U U<|Qa<|Qs U gj U U<|x (Qz ⟨U,U,Z⟩)<|Qe<|QC (us:=[ZJ (n,y.2)]) U U og (show 1*2<=1000000 by decide) oA λg8 g9 hC ka gp=>?_;have hq:=he.D hC;have kb:=hq.size;have gq:=Qp G hq;refine Qe<|Za (m:=1) (news:=ZJ (n,y.2)) gq U U U (by have:=gp.at (L:=[]) oe;simpa using this) (by simp[Value.oneCell']) oa oa λhr gr hD hF gs=>?_;have hG:J∉ob vl:=λhm=>ou (Qi G J hm).1
 have gt:=(hB.I hC).J hF hG;refine Q2 rfl<|Qe<|QB (j:=7) (u:=hr) gt U U oe (Qt hD) λgu hH gv=>xe ?_;have gw:O5 [J] O gr:=(V.then hq oe).then hF λb E=>.inr (Qi G b E).1;have gx:gu.ownsRow O.heap.size 145 2 hr (l++[(n,y.2)]).length ((l++[(n,y.2)]).flatMap ZJ):=by
  have h1:=Qg hD hH (λb E hc=>by
   simp only[oI]at hc;subst hc;rcases gs b E with h2|h2
   ·exact hG h2
   omega)
  rw[Lk,LA];simpa using h1
 refine Qw<|QP U U<|Qa<|xe<|⟨(k+1,hr,l++[(n,y.2)]),by show q.ts.length - (k+1)<q.ts.length - k;omega,La,S,gw.then hH (λb E=>.inl E),gv,gx,by simp[hz],λp I=>?_,gn⟩;rcases Lc.1 I with I|I
 ·exact hj p I
 simp only[oI]at I;subst I;exact hf.2
instance:Bw prog 90 z10 [(0,2),(2,1),(3,4),(7,3)]:=⟨od,og⟩
instance:Bw prog 149 z15 [(0,10),(10,5)]:=⟨od,og⟩
theorem Qbw {c:CL}(E:ZK L w.heap c)(G:Kb w 4096):
  Q6 prog 95 [c.val] w λr w'=>O5 [] w w'/\∃us c0 c1 c2 c3 sa st sm se o,r=.tuple #[.agg us.toArray,.agg #[c0,c1,c2,c3,sa,oF oG st,sm,se,o],oF oG (Y0 c.V)]/\us.length=8/\Zr us/\Zr [c0,c1,c2,c3,sa,sm,se,o] /\
   (Y0 c.V=0->st=(suA c.V).st/\∀L:LN,(∀b∈L,b<w.heap.size)->ZH L w'.heap sa sm se (suA c.V)/\jm L w'.heap c0 c1 c2 (spc c.V).a (fbs (spc c.V)) (unc c.V.ev)):=by
 refine(Qc7 E G).mono ?_;rintro r w' ⟨H,us,c0,c1,c2,c3,sa,sm,se,o,rfl,I,J,O,_,S⟩;exact⟨H,us,c0,c1,c2,c3,sa,_,sm,se,o,U,I,J,O,λh=>⟨OU h,S h⟩⟩
theorem Qgb {c:CL}{q:MV}(H:ZK L w.heap c)(I:QQ L w.heap q.v q.co):
  Q6 prog 94 [c.val,.agg #[oF oG q.kd,oF oG q.ix,q.v]] w λr w'=>O5 [] w w'/\∃cm:CL,r=.tuple #[.agg cm.cells.toArray,oF oG (mcE c.V q.m)]/\Zr cm.cells/\(mcE c.V q.m=0->cm.V=K3 c.V q.m/\∀L:LN,(∀b∈L,b<w.heap.size)->ZK L w'.heap cm):=by
 refine(Qit H I).mono ?_;rintro r w' ⟨J,us,rfl,V,G,O,S⟩;refine⟨J,?_⟩;by_cases E:mcE c.V q.m=0
 ·obtain⟨cm,e1,e2,T⟩:=S E;have e:us=cm.cells:=by simpa using e1
  subst e;exact⟨cm,U,G,λ_=>⟨e2,T⟩⟩
 have e:=O E;subst e;exact⟨CL.mk Zs Zs Zs Zs Zs [] [] [] [] [],U,G,λh=>OW h E⟩
theorem Qj9 (c:ZB)(bf:List xK)(v:Int)(m:UU)(l:List UU)(o:List xK)(k n:List Ky):blL c bf v (m::l) o k n=if(KS c bf v m).1≠0 then((KS c bf v m).1,[],[],[])else
  if(KS c bf v m).2.2=true then blL c bf v l (o++[(KS c bf v m).2.1]) (k++[Yg c m]) n else blL c bf v l (o++[(KS c bf v m).2.1]) k (n++[Yg c m]):=rfl
theorem QcL {c:CL}{ps:List q9}{v:Int}(h0:ZK L w.heap c)(hp:Go.Lg.KX ZR 15 qG L' w.heap vb ps)(ma:∀b∈L',b<w.heap.size)(hn:(ps.map (·.e.ky)).Nodup)(hpl:ps.length<=1000)(hkb:Kb w 4096):
  Q6 prog 45 [c.val,vb,oF oG v] w λr w'=>O5 [] w w'/\∃vp us,r=.tuple #[vp,.agg us.toArray,oF oG (KZ c.V (ps.map (·.pt)) v)]/\us.length=3/\Zr us/\(KZ c.V (ps.map (·.pt)) v≠0->vp=Zs/\us=YX) /\
   (KZ c.V (ps.map (·.pt)) v=0->∃qs q,us=ZI q/\qs.map (·.pt)=qz c.V (ps.map (·.pt)) v/\q.rp=XQ c.V (ps.map (·.pt)) v/\(w'.ownsRow w.heap.size 149 15 vp qs.length (qs.flatMap ZR))/\Go.Lg.KX ZR 15 qG L' w'.heap vp qs/\∀M:LN,(∀b∈M,b<w.heap.size)->K4 M w'.heap q):=by
 have h:=h0.up (L':=[]) oe;have hS:Go.Lg.KX ZR 15 qG [] w.heap vb ps:=hp.up oe;have hpk:(ps.map (·.pt)).map (·.ky)=ps.map (·.e.ky):=by rw[Mu];rfl
 have mf:=Qib hn (λq hq=>(hp.each q hq).ones);refine Zk (ps.map (·.pt)) λbf mg=>?_;rw[mg]at hpk mf ⊢;have ha:KZ c.V bf v=if Zl c.V≠0 then Zl c.V else(qy c.V bf v).1:=rfl
 have mh:qz c.V bf v=(qy c.V bf v).2.1:=rfl;have mj:XQ c.V bf v=⟨(qy c.V bf v).2.2.1,(qy c.V bf v).2.2.2,(bf.filter λp=>decide (p.ky∉(O9 c.V).map (Yg c.V))).map (·.ky)⟩:=rfl;have hbR:blL c.V bf v (O9 c.V) [] [] []=qy c.V bf v:=rfl;refine Zk (KZ c.V bf v) λE hE=>?_;rw[hE]at ha ⊢;refine Zq func45 ?_;refine Qc<|Qe<|QS (us:=c.cells) U λb3 w1 mo hb3 g4=>x Ql<|Qe<|Qo (us:=YX) U λb7 w2 gm hb7 g5=>Qb ?_;have mq:=mo.D gm;have hz1:=mo.size;have hz2:=gm.size;refine Qc<|Q5 (g4.I gm) U U<|QM<|(Qd6 (h.I mq)).mono ?_;rintro r3 w3 ⟨hT,vM,lM,rfl,hM,hMbad,hMgood⟩;have ms:=mq.D hT;have hz3:=hT.size;refine Qa<|Q7 U U<|Q7 U U<|x Ql<|Qb<|Qd<|Qm<|ZA U U<|xe<|QY rfl (λhU=>?_) (λhU=>?_)
 ·rw[OU hU]at ha;refine Qc<|x (Qz Z)<|Qa<|x Ql<|Qe<|Qj (us:=YX) (g5.I hT) U U U U oB λw4 hs4 hB74=>Qb<|Qk ⟨[Zs,.agg YX.toArray,oF oG (Zl c.V)],⟨U,⟨_,U,Qn U (hB74.at (L:=[]) oe).cells⟩,rfl,Z⟩,ms.O hs4 oa,Zs,YX,by rw[ha];rfl,U,oB,λ_=>⟨U,U⟩,λh0=>OW (ha.symm.D h0) hU⟩
 rw[OT hU]at ha;have g6:=Lo.1 hU;have hok:Qbi c.V:=(Z5 g6).sr;have hV:=hMgood g6;have mt:=Qb4 g6;have hMl:lM.length<=96:=by have:=yh hok;rw[<-hV,Lh]at this;exact this
 have mu:Zn [] w3.heap vM lM.length 3 (lM.flatMap Xn):=hM.arr oa oe;refine Qh<|Qc<|Qe<|YC kKy λg7 w5 mv hb37 mw=>Qb ?_;have my:=ms.D mv;have hp5:=Go.Lg.KX.I hS my;refine Qd<|Qm<|QK hp5.arr U<|Qa<|xe<|Qf<|QD (α:=Nat) [(13,13),(40,49)] (λz=>[(40,oF oG z)]) (λz w'=>z<=ps.length/\O5 [g7] w5 w'/\Yk kKy w'.heap g7 (yk (λq:q9=>q.e.ky) paV (ps.take z) [])) (λz=>ps.length - z) ol 0 La ⟨Ln _,O5.Z _ _,mw⟩ ?_;rintro k g w6 ⟨hk,gn,g8⟩;have mz:O5 [] w w6:=my.O gn oa;have hz6:=gn.size;refine Qc<|QZ U U<|xe<|Qd<|QG U (λgo=>?_) (λgo=>?_)
 rotate_left
 ·have J:k<ps.length:=by have hW:(k:Int)<(ps.length:Int):=go;omega
  have hr:ps.take (k+1)=ps.take k++[ps[k]'J]:=Lm J;have m2:=Go.Lg.KX.I hS mz;have hs:=Ll J;refine Qh<|Qd<|Qf<|Qc<|O8 (g:=ZR) (i:=k) Qdm m2.arr U U J λa42 m3=>?_;refine Zk (ps[k]'J) λq hq=>?_;rw[hq]at m3 hr hs;have g9:=m2.each q hs;refine x (Qx m3 U U)<|Qe<|Qo (us:=z15) U λb13 w7 ka hb13 hB13=>Qe<|Qj (us:=ZR q) hB13 U U U U g9.ones λV hY m4=>xe ?_;have hB:O5 [] w6 V:=ka.O hY hb13;refine Qw<|Qa<|Q2 U<|Q2 U<|x (Zj (us:=KL q.e.ky) m4 U U U)<|Q5 m4 U U<|Qe<|XD (k:=q.e.ky) (g8.I hB) U U λY ht hm9=>xe ?_;refine Qw<|QP U U<|Qa<|xe<|⟨k+1,oa,La,J,(gn.D hB).Q ht,?_⟩;have m5:Yk kKy Y.heap g7 (xh (yk (λq:q9=>q.e.ky) paV (ps.take k) []) q.e.ky (paV q)):=hm9;rw[hr];unfold yk at m5 ⊢;rw[MD];exact m5
 refine Qy ?_;have hZ:ps.length<=k:=by have hW:¬(k:Int)<(ps.length:Int):=go;omega
 rw[Lt hZ]at g8;clear hZ go hk;refine Qc<|Qb<|Qc<|Qe<|Qo (us:=YX) U λI w7 ka hb15 m6=>xe ?_;refine Qc<|Qe<|YC kKy λO V hY hb50 m7=>Qb ?_;have hB:=ka.D hY;have m8:=mz.D hB;have hz8:=hY.size;have hB158:=m6.I hY;have hl15:=m6.lt;have hl50:=m7.lt;have hl37:=mw.lt;have hm378:=g8.I hB;have ga:O5 [] w3 V:=(mv.O gn oa).D hB;have hB38:=(g4.I (gm.D hT)).I ga;have hB78:=(g5.I hT).I ga;have hl3:=g4.lt;have hl7:=g5.lt;have hMA8:=mu.I ga;refine Qd<|Qm<|QK hMA8 U<|Qa<|xe<|Qf<|QD (α:=BlS) [(6,6),(8,8),(14,14),(18,25),(53,123)] (λz=>[(14,z.vo),(53,oF oG z.k)]) (λz w'=>z.k<=lM.length/\O5 [I,O] V w'/\BlI (b7::I::O::L') V.heap.size w' I O ((lM.take z.k).map λq=>Yg c.V q.m) z/\blL c.V bf v ((lM.drop z.k).map MV.m) (z.qs.map (·.pt)) z.K z.M=qy c.V bf v/\(z.qs.length=z.k/\z.K.length<=z.k/\z.M.length<=z.k))
  (λz=>lM.length - z.k) ol ⟨0,Zs,[],Zs,[],Zs,[]⟩ oA ⟨Ln _,O5.Z _ _,⟨⟨_,hB158⟩,m7,qF.nil,QL _ _ _ _,QL _ _ _ _,λb H=>by simp[ob]at H,λb H=>by simp[ob]at H⟩,by rw[List.drop_zero,hV];exact hbR,U,Lu _,Lu _⟩ ?_
 rintro⟨k,vo,qs,vk,K,vm,M⟩ g Y ⟨hk,ht,S,hR,hql,hKl,hMl'⟩;simp only[]at hk S hR hql hKl hMl';have hX:∀b∈[I,O],w.heap.size<=b/\b<V.heap.size:=λb H=>by simp only[oL,oJ,or_false]at H;omega
 have kb:O5 [] w Y:=m8.then ht (λb H=>.inr (hX b H).1);have hz9:=ht.size;have m9:=hB38.J ht oq;have pa:=hB78.J ht oq;have hm379:=hm378.J ht oq;have hp9:=Go.Lg.KX.I hS kb;refine Qc<|QZ U U<|xe<|Qd<|QG U (λkc=>?_) (λkc=>?_)
 ·refine Qy ?_;have hZ:lM.length<=k:=by have hW:¬(k:Int)<(lM.length:Int):=kc;omega
  have gp:=S;rw[Lt hZ]at gp;rw[Lq hZ]at hR;have hR0:qy c.V bf v=(0,qs.map (·.pt),K,M):=hR.symm;rw[hR0]at ha mh mj;have pc:E=0:=ha;have hks:(lM.map λq=>Yg c.V q.m)=(O9 c.V).map (Yg c.V):=by rw[<-hV,Mu];rfl
  rw[hks]at gp;obtain⟨T15,hB159⟩:=gp.b;have hm509:=gp.n;refine Qd<|Qm<|QK hp9.arr U<|Qa<|xe<|Qf<|QD (α:=Nat×O2×List Ky) [(27,27),(126,144)] (λz=>[(126,oF oG z.1)]) (λz w'=>z.1<=ps.length/\O5 [I] Y w'/\Zb w'.heap I T15 [vk,vm,z.2.1]/\w'.ownsRow Y.heap.size 75 2 z.2.1 z.2.2.length (z.2.2.flatMap KL)/\z.2.2=((ps.take z.1).filter λp=>decide (p.e.ky∉(O9 c.V).map (Yg c.V))).map (·.e.ky))
   (λz=>ps.length - z.1) ol (0,Zs,[]) La ⟨Ln _,O5.Z _ _,hB159,QL _ _ _ _,U⟩ ?_
  rintro⟨i,vg,G⟩ g gb ⟨hi,hf,ke,h6,hG⟩;simp only[]at hi ke h6 hG;have pd:O5 [] w gb:=kb.O hf oa;have hz10:=hf.size;have hB710:=pa.J hf om;have hm5010:=hm509.J hf om;have hGl:G.length<=1000:=by
   rw[hG,Lh];refine LJ (Mi _ _) ?_;rw[Ly];omega
  refine Qc<|QZ U U<|xe<|Qd<|QG U (λkf=>?_) (λkf=>?_)
  ·refine Qy ?_;have hie:ps.length<=i:=by have hW:¬(i:Int)<(ps.length:Int):=kf;omega
   rw[Lt hie]at hG;have pf:Zr [vk,vm,vg]:=⟨Qt S.k,Qt S.m,Qt h6,Z⟩;refine Qd<|ZD [] (Xb 0 5 [3])<|p QE<|pq (λ_ hc=>ZY (ke.I hc) U U)<|p ZN<|pkl (hl:=by kernel_rfl)<|Qj (us:=[vk,vm,vg]) (hB710.I (O5.C _ _)) U U U U pf λgq kg hB711 =>
    p ZN<|pe ?_
   have hD:O5 [b7] gb gq:=(O5.C [] gb).any.Q kg;have n7:∀b,V.heap.size<=b->b∉[b7]:=λb H T=>by rw[Lb.1 T]at H;omega
   have kh:∀b,V.heap.size<=b->b∉[I]:=λb H T=>by rw[Lb.1 T]at H;omega
   have pg:=Qg (Qg S.k hf (λb H=>kh b (Qi S.k b H).1)) hD (λb H=>n7 b (Qi S.k b H).1);have ph:=Qg (Qg S.m hf (λb H=>kh b (Qi S.m b H).1)) hD (λb H=>n7 b (Qi S.m b H).1);have pj:=Qg h6 hD (λb H=>n7 b (ou (Qi h6 b H).1));have ki:=Qg (Qg S.o.own hf (λb H=>kh b (Qi S.o.own b H).1)) hD (λb H=>n7 b (Qi S.o.own b H).1);have kj:O5 [] w gq:=pd.O hD oa;refine Qk ⟨[vo,.agg #[vk,vm,vg],oF oG 0],⟨U,⟨_,U,Qn U (hB711.at (L:=[]) oe).cells⟩,rfl,Z⟩,kj,vo,[vk,vm,vg],by rw[pc];rfl,U,pf,λh0=>OW pc h0,λ_=>⟨qs,⟨vk,K,vm,M,vg,G⟩,U,mh.symm,?_,Zv ki oa,⟨QJ ki oa (λb H hbL=>ov (Qi ki b H).1 (ma b hbL)),λq hq=>?_⟩,λN hN=>⟨QJ pg (show K.length<=1099511627776 by omega) (λb H hbL=>ov (Qi pg b H).1 (hN b hbL)),QJ ph (show M.length<=1099511627776 by omega) (λb H hbL=>ov (Qi ph b H).1 (hN b hbL)),QJ pj (show G.length<=1099511627776 by omega) (λb H hbL=>ov (Qi pj b H).1 (hN b hbL))⟩⟩⟩
   ·rw[mj];show Rp.mk K M G=_;rw[hG,<-mg,List.filter_map,Mu];rfl
   have hq9:=S.o.each q hq;have hq9':qG (b7::I::O::L') Y.heap q:=Mm.mono hq9 λb H=>Lc.2 (.inr (Lc.2 (.inr (Lc.2 (.inr H)))));exact((hq9'.st (hf.mono oe)).st (hD.mono oe)).up (λb H=>.inl (by simp[H]))
  have J:i<ps.length:=by have hW:(i:Int)<(ps.length:Int):=kf;omega
  have hr:ps.take (i+1)=ps.take i++[ps[i]'J]:=Lm J;have pm:=Go.Lg.KX.I hS pd;have hs:=Ll J;refine Qh<|Qd<|Qf<|Qc<|O8 (g:=ZR) (i:=i) Qdm pm.arr U U J λa128 pn=>?_;refine Zk (ps[i]'J) λq hq=>?_;rw[hq]at pn hr hs;have g9:=pm.each q hs;refine x (Qx pn U U)<|Qe<|Qo (us:=z15) U λb27 po gc hb27 hB27=>Qe<|Qj (us:=ZR q) hB27 U U U U g9.ones λpp gr pu=>xe ?_;have hF:O5 [] gb pp:=gc.O gr hb27;have hz13:=hF.size;refine Qm<|Q2 U<|Q2 U<|x (Zj (us:=KL q.e.ky) pu U U U)<|x (QfY (s:=q.e.ky) (hm5010.I hF) U U)<|x (Zx U)<|xe ?_;have kk:=ke.I hF;have pw:=Qp h6 hF;refine QX U (λkn=>?_) (λkn=>?_)
  ·have ko:q.e.ky∉(O9 c.V).map (Yg c.V):=by simpa using kn
   refine Qw<|Qs U kk U U<|Q2 U<|Q2 U<|x (Zj (us:=KL q.e.ky) pu U U U)<|Qe<|QC (us:=[KL q.e.ky]) U U og (by exact(by decide:1*2<=1000000)) oA λb141 kq hH hb141 hB141 =>
    Qe<|Za (m:=1) (news:=KL q.e.ky) (L:=[]) (Qp pw hH) U U U (by have:=hB141.at (L:=[]) oe;simpa using this) (by simp[Value.oneCell']) oa (ou hH.size) λkr ho pz hg p0=>Q2 U<|Qe<|QB (j:=2) (u:=kr) ((kk.I hH).J hg (λH=>ou (Qi h6 I H).1)) U U oe (Qt pz) λp1 gs hB1516 =>
    xe ?_
   refine Qw<|QP U U<|Qa<|xe ?_;have hu:O5 [I] Y kq:=hf.D (hF.D hH);have kt:O5 [I] Y ho:=hu.then hg (λb H=>.inr (Qi h6 b H).1);refine⟨(i+1,kr,G++[q.e.ky]),oh,La,J,kt.Q gs,hB1516,?_,?_⟩
   ·have p2:ho.ownsRow Y.heap.size 75 2 kr (G++[q.e.ky]).length ((G++[q.e.ky]).flatMap KL):=by
     rw[Lk,LA];simpa using pz
    refine Qg p2 gs (λb H T=>?_);have:=(Qi p2 b H).1;rw[Lb.1 T]at this;omega
   simp only[];rw[hr,L5,Ls,<-hG,Mf,OU (OX ko)];rfl
  have ko:q.e.ky∈(O9 c.V).map (Yg c.V):=by simpa using kn
  refine Qh<|Qw<|QP U U<|Qa<|xe<|⟨(i+1,vg,G),oh,La,J,hf.D hF,kk,pw,?_⟩;simp only[];rw[hr,L5,Ls,<-hG,Mf,OT (oz ko)];simp
 have J:k<lM.length:=by have hW:(k:Int)<(lM.length:Int):=kc;omega
 have hr:lM.take (k+1)=lM.take k++[lM[k]'J]:=Lm J;have hs:=Ll J;rw[LE J,LK,Qj9]at hR;have ku:O5 [] w3 Y:=ga.then ht (λb H=>.inr (by simp only[oL,oJ,or_false]at H;have:=ga.size;omega));have hM9:=Yz.I hM ku;have hMA9:=mu.I ku;have hn1:(lM.map λq=>Yg c.V q.m).Nodup:=by
  rw[<-hV,Mu]at mt;exact mt
 have kv:=hn1.sublist ((List.take_sublist (k+1) lM).map λq=>Yg c.V q.m);rw[hr,Ls]at kv;refine Qh<|Qd<|Qf<|Qc<|O8 (g:=Xn) (i:=k) Qn4 hMA9 U U J λa55 p3=>?_;refine Zk (lM[k]'J) λq hq=>?_;rw[hq]at p3 hr hs hR kv;have hqI:QQ [] Y.heap q.v q.co:=hM9.each q hs [] oe;have hqm:q.m∈O9 c.V:=by rw[<-hV];exact LO hs
 have p4:Yg c.V q.m∉(lM.take k).map λq=>Yg c.V q.m:=λT=>(MC.1 kv).2.2 _ T _ (Lb.2 U) U;have gg:=Qlz hqm;have hh:=mf (Yg c.V q.m);have gt:=λp:xK=>QgN (c:=c.V) (bf:=bf) (v:=v) (m:=q.m) (p:=p);have gu:=QmG (c:=c.V) (bf:=bf) (v:=v) (m:=q.m);have hb0:=QmH (c:=c.V) (bf:=bf) (v:=v) (m:=q.m);refine x (Qx p3 U U)<|Qe<|Qo (us:=[oF oG 0,oF oG 0,nS]) U λb18 gb hf hb18 hB18=>Qe<|Qj (us:=Xn q) hB18 U U U U ⟨U,U,hqI.one,Z⟩ λgq kg p5=>xe ?_;have gv:O5 [] Y gq:=hf.O kg hb18;have kj:=kb.D gv;have hK:=QiD (q:=q) (h.I kj) gg.1 gg.2.1 (λe=>by have:=gg.2.2.1 e;rwa [show c.V.rq.length=c.rq.length from Lh ..]at this) (λe=>by have:=gg.2.2.2.1 e;rwa [show c.V.ex.length=c.ex.length from Lh ..]at this) (λe=>by have:=gg.2.2.2.2 e;rwa [show c.V.cs.length=c.cs.length from Lh ..]at this);have p6:Ut c.V v q.m=⟨Yg c.V q.m,v,suA (K3 c.V q.m),(q6 (K3 c.V q.m)).1,(q6 (K3 c.V q.m)).2.1,(q6 (K3 c.V q.m)).2.2,K3 c.V q.m⟩:=rfl;refine Zk (Yg c.V q.m) λky p7=>?_;rw[p7]at p4 hh gt gu hK hR p6;refine Qc<|Q5 (m9.I gv) U U<|Q5 p5 U U<|QM<|hK.mono ?_;rintro _ po ⟨rfl,gc⟩;refine Qe<|Qo (us:=[oF oG 0,.string .empty]) U λp8 pp gr hb19 hB19=>Qe<|Qj (us:=KL ky) hB19 U U U U oA λkq hH p9=>xe ?_;have qc:O5 [] po kq:=gr.O hH hb19;have hu:=(gv.D gc).D qc;have hz914:=hu.size;have hz911:=gv.size;have hz12:=gc.size;have qf:=S.I hu;have hz10:=hf.size;have hz13:=gr.size;refine Qm<|Q5 p9 U U<|Qe<|XD (k:=ky) qf.n U U λho hg p0=>xe ?_;have kt:O5 [O] Y ho:=hu.any.Q hg;have ql:O5 [I,O] V ho:=ht.Q (kt.mono oe);have qo:O5 [] w ho:=m8.then ql (λb H=>.inr (hX b H).1);have hz15:=hg.size;have hI15:BlI (b7::I::O::L') V.heap.size ho I O ((lM.take (k+1)).map λq=>Yg c.V q.m) ⟨k,vo,qs,vk,K,vm,M⟩:=by
  refine qf.now hg ?_ oa oa oe;have h5:Yk kKy ho.heap O (xh (((lM.take k).map λq=>Yg c.V q.m).map λs=>(s,Value.bool true)) ky (.bool true)):=p0;rw[QhD p4]at h5;have e:((lM.take (k+1)).map λq=>Yg c.V q.m)=((lM.take k).map λq=>Yg c.V q.m)++[ky]:=by
   rw[hr,Ls,LK,p7];rfl
  rw[e];exact h5
 have hne50:∀b,V.heap.size<=b->b∉[O]:=λb H T=>by rw[Lb.1 T]at H;omega
 have hB1815:=((p5.I gc).I qc).J hg om;have hB1915:=p9.J hg om;have hB315:=(m9.I hu).J hg om;have qr:=(pa.I hu).J hg om;have hm3715:=(hm379.I hu).J hg om;have hqI3:QQ [] w3.heap q.v q.co:=hM.each q hs [] oe;have hqI15:QQ [] ho.heap q.v q.co:=((((hqI3.up (L':=[O]) (λb H=>.inr (by rw[Lb.1 H];omega))).I ku).I hu).st hg).up oe;refine Qc<|Q5 hB315 U U<|Q5 hB1815 U U<|QM<|(Qgb (q:=q) (h.I qo) hqI15).mono ?_;rintro r23 p1 ⟨gs,cm,rfl,ho5,hgood⟩;refine Qa<|Q7 U U<|Q7 U U<|Qe<|Qo (us:=Z6) U λb20 w17 hs17 hb20 hB20=>Qe<|Qj (us:=cm.cells) hB20 U U U U ho5 λq0 hs18 hB2018 =>
  Qb ?_
 have kw:O5 [] p1 q0:=hs17.O hs18 hb20;have h2:=gs.D kw;have q1:=qo.D h2;have hz1518:=h2.size;refine Qd<|Qm<|ZA U U<|xe<|QY rfl (λgh=>?_) (λgh=>?_)
 ·have he:=hb0 gh;rw[he,OU gh]at hR;rw[<-hR]at ha;refine Qc<|x (Qz Z)<|Qa<|x Ql<|Qe<|Qj (us:=YX) (qr.I h2) U U U U oB λw19 kx hB719=>Qb<|Qk ⟨[Zs,.agg YX.toArray,oF oG (mcE c.V q.m)],⟨U,⟨_,U,Qn U (hB719.at (L:=[]) oe).cells⟩,rfl,Z⟩,q1.O kx oa,Zs,YX,by rw[ha];rfl,U,oB,λ_=>⟨U,U⟩,λh0=>OW (ha.symm.D h0) gh⟩
 have kz:=Lo.1 gh;have gt:=λp=>gt p kz;have gu:=gu kz;have gi:=hgood kz;have hI18:=hI15.I h2;have q2:=hB1915.I h2;refine Qh<|Exists.elim hh λus hh=>Exists.elim hh λis hh=>?_;refine Qd<|Qm<|Q5 q2 U U<|x (Qli (k:=ky) (hm3715.I h2) U U hh.1)<|Qa<|Q7 U U<|Q7 U U<|Qe<|Qo (us:=z15) U λb22 w19 kx hb22 hB22 =>
  Qe<|Qj (us:=us) hB22 U U hh.2.1 U hh.2.2.1 λhJ hs20 q3=>Qb ?_
 have hL:O5 [] q0 hJ:=kx.O hs20 hb22;have q4:=q1.D hL;have q5:=hB2018.I hL;have hz1820:=hL.size;have j1:∀N:LN,(∀b∈N,b<ho.heap.size)->ZK N hJ.heap cm:=λN hN=>((gi.2 N hN).I kw).I hL;refine Q3 (α:=Bool) [(78,84)] (λz=>[(84,.bool z)]) (λz w'=>O5 [] hJ w'/\(z=true->∃p∈ps,us=ZR p/\KS c.V bf v q.m=(0,p.pt,true))/\(z=false->KS c.V bf v q.m=(Y0 (K3 c.V q.m),Ut c.V v q.m,false))) ol ?_ ?_
 ·refine Qw<|xB KD (λk0=>?_) (λk0=>?_)
  ·refine Exists.elim (hh.2.2.2.1 k0) λp h3=>?_;have gw:qG [] hJ.heap p:=(Go.Lg.KX.I hS q4).each p h3.1;have gx:=h3.2.1;have hEq:Q6 prog 60 [p.c.val,cm.val] hJ λr w'=>r=.bool (decide (p.c.V=K3 c.V q.m))/\O5 [] hJ w':=by
    rw[<-gi.1];exact QdV gw.c (j1 [] oe)
   refine Qa<|Q2 U<|x (Zj (us:=p.c.cells) q3 U U (by rw[gx];rfl))<|Q5 q5 U U<|QM<|hEq.mono ?_;rintro _ gy ⟨rfl,hv⟩;refine QH U<|xe ?_;have H:=gt p.pt h3.2.2;refine⟨decide (p.c.V=K3 c.V q.m),La,hv,λhz=>⟨p,h3.1,gx,?_⟩,λhz=>?_⟩
   ·rw[H,OU (show p.pt.c=_ from OY hz)]
   rw[H,OT (show ¬p.pt.c=_ from O0 hz)]
  refine Qa<|Qr<|Qr<|Qr<|Qr<|QH U<|xe ?_;exact⟨false,La,O5.Z _ _,λhz=>OW hz og,λ_=>gu (hh.2.2.2.2 k0)⟩
 rintro zb g gy ⟨hv,hzt,hzf⟩;have gz:=hL.D hv;have k4:=q4.D hv;have hO:=hI18.I gz;have hz21:=hv.size;have j2:=q2.I gz;have j3:=q5.I hv;have h721:=(qr.I h2).I gz;have za:O5 [I,O] V gy:=(ql.D h2).D gz;have gvo:=Qi hO.o.own;have gvk:=Qi hO.k;have gvm:=Qi hO.m;obtain⟨T15,zv⟩:=hO.b;have n15o:I∉ob vo:=λT=>ou (gvo I T).1
 have n15k:I∉ob vk:=λT=>ou (gvk I T).1
 have n15m:I∉ob vm:=λT=>ou (gvm I T).1
 have n19o:p8∉ob vo:=λT=>ou (Qi S.o.own p8 T)
 have z0:∀b∈ob vo++(ob vk++(ob vm++(b7::I::O::L'))),b<Y.heap.size/\(b∈L'\/w.heap.size<=b):=λb H=>by
  rcases Lc.1 H with H|H
  ·have:=Qi S.o.own b H;exact⟨this.2,.inr oa⟩
  rcases Lc.1 H with H|H
  ·have:=Qi S.k b H;exact⟨this.2,.inr oa⟩
  rcases Lc.1 H with H|H
  ·have:=Qi S.m b H;exact⟨this.2,.inr oa⟩
  simp only[oL]at H;rcases H with rfl|rfl|rfl|H
  ·exact⟨oa,.inr oa⟩
  ·exact⟨oa,.inr oa⟩
  ·exact⟨oa,.inr oa⟩
  exact⟨ou (ma b H),.inl H⟩
 refine QX rfl (λk5=>?_) (λk5=>?_)
 ·refine Exists.elim (hzt k5) λp h3=>?_;have gx:=h3.2.1;have H:=h3.2.2;rw[H,OT oe,OU rfl]at hR;have gw:qG (ob vo++(ob vk++(ob vm++(b7::I::O::L')))) gy.heap p:=((hp.each p h3.1).up λb H=>(z0 b H).2).I k4;refine Qm<|Q5 (q3.I hv) U hh.2.1<|Qe<|QC (us:=[us]) U U og (by exact(by decide:1*15<=1000000)) ⟨U,hh.2.1,Z⟩ λb87 k6 hw hb87 hB87=>?_;have hA22:At [] k6.heap ⟨b87,0,none⟩ (ZR p):=by have:=hB87.at (L:=[]) oe;rw[gx]at this;simpa using this
  have z1:=hO.I hw;refine Qe<|KH (m:=1) (news:=ZR p) z1.o.own U U U hA22 (Zr.all gw.ones) (show qs.length+1<=1073741824 by omega) (ou hw.size) λv23 w23 ho23 h7 hn23=>?_;refine Qb ?_;have hI23:=z1.part (gw.I hw) ho23 h7 hn23 oa oa;have z2:=(zv.I hw).J h7 n15o;have hB1923:=(j2.I hw).J h7 n19o;refine Qc<|Qs U z2 U U<|Q5 hB1923 U U<|Qe<|QC (us:=[KL ky]) U U og (by exact(by decide:1*2<=1000000)) oA λb92 w24 h8 hb92 hB92=>?_;have z3:=hI23.I h8;refine Qe<|Za (m:=1) (news:=KL ky) (L:=[]) z3.k U U U (by have:=hB92.at (L:=[]) oe;simpa using this) (by simp[Value.oneCell']) (show K.length+1<=1099511627776 by omega) (oy hw.size h7.size h8.size) λz4 w25 z5 hQ hn25=>?_;refine Q2 U<|Qe<|QB (j:=0) (u:=z4) ((z2.I h8).J hQ n15k) U U oe (Qt z5) λk7 g0 hB1526=>xe ?_;have hy:=z3.kept z5 hQ hn25 g0 ⟨T15,hB1526⟩ oa oa oa oe;refine Qy<|Qw<|QP U U<|Qa<|xe ?_;have hs826:O5 [I,O] V k7:=((((za.D hw).then h7 (λb H=>.inr (gvo b H).1)).D h8).then hQ (λb H=>.inr (gvk b H).1)).Q (g0.mono oe);refine⟨⟨k+1,v23,qs++[p],z4,K++[ky],vm,M⟩,oh,oA,J,hs826,⟨hy.b,hy.n,hy.o,hy.k,hy.m,hy.d1,hy.d2⟩,?_,by simp only[oM,oO];omega⟩;simp only[];rw[Ls];exact hR
 have H:=hzf k5;rw[H]at hR;have hSy:=Qbw ((j1 [] oe).I hv) (hkb.I k4);rw[gi.1]at hSy;refine Qh<|Qc<|Q5 j3 U U<|QM<|hSy.mono ?_;rintro r36 k6 ⟨hw,us8,c0,c1,c2,c3,sa,st,sm,se,oo,rfl,hl8,ho8,h4,g2⟩;refine Qa<|Q7 U U<|Q7 U U<|Q7 U U<|Qe<|Qo (us:=[nS,oF oG 0,nS,nS,nS,nS,nS,nS]) U λb24 w23 h7 hb24 hB24=>Qe<|Qo (us:=[nS,nS,nS,oF oG 0,nS,oF oG 0,nS,nS,nS]) U λb25 w24 h8 hb25 hB25 =>
  Qe<|Qj (us:=us8) (hB24.I h8) U U hl8 U ho8 λw25 hQ hB2425=>?_
 have hl24:=hB24.lt;have n2425:b25∉[b24]:=om
 refine Qe<|Qj (us:=[c0,c1,c2,c3,sa,oF oG st,sm,se,oo]) (hB25.J hQ n2425) U U U U ⟨h4.1,h4.2.1,h4.2.2.1,h4.2.2.2.1,h4.2.2.2.2.1,U,h4.2.2.2.2.2.1,h4.2.2.2.2.2.2.1,h4.2.2.2.2.2.2.2.1,Z⟩ λk7 g0 hB2526=>Qb ?_;have gj:O5 [] k6 k7:=(((h7.D h8).O hQ oa).O g0 oa);have h1:=hw.D gj;have hs026:=k4.D h1;have hz2126:=h1.size;refine Qd<|Qm<|ZA U U<|xe<|QY rfl (λgk=>?_) (λgk=>?_)
 ·rw[OU gk]at hR;rw[<-hR]at ha;refine Qc<|x (Qz Z)<|Qa<|x Ql<|Qe<|Qj (us:=YX) (h721.I h1) U U U U oB λk8 hj hB727=>Qb<|Qk ⟨[Zs,.agg YX.toArray,oF oG (Y0 (K3 c.V q.m))],⟨U,⟨_,U,Qn U (hB727.at (L:=[]) oe).cells⟩,rfl,Z⟩,hs026.O hj oa,Zs,YX,by rw[ha];rfl,U,oB,λ_=>⟨U,U⟩,λh0=>OW (ha.symm.D h0) gk⟩
 rw[OT gk,OT oe]at hR;have g2:=g2 (Lo.1 gk);have hst:=g2.1;refine Qh<|Qc ?_;have hy:=hO.I h1;have hB1926:=j2.I h1;have hB2026:=j3.I h1;refine Zk (⟨⟨ky,v,⟨sa,sm,se,suA (K3 c.V q.m)⟩,c0,(q6 (K3 c.V q.m)).1,c1,(q6 (K3 c.V q.m)).2.1,c2,(q6 (K3 c.V q.m)).2.2⟩,cm⟩:q9) λP hP=>?_;have hPc:[oF oG ky.1,.string ky.2,oF oG v,sa,oF oG st,sm,se,c0,c1,c2,cm.ve,cm.vc,cm.vr,cm.vx,cm.vk]=ZR P:=by rw[<-hP,hst]
 refine Qa<|Q5 hB1926 U U<|Qa<|Q2 U<|x (Zj (us:=[sa,oF oG st,sm,se]) hB2526 U U U)<|Q2 U<|x (Zj (us:=[c0,c1,c2]) hB2526 U U U) <|
  x (Zf [(0,KL ky),(1,[oF oG v]),(2,[sa,oF oG st,sm,se]),(3,[c0,c1,c2])] ⟨U,U,U,U,U,U,U,U,Z⟩)<|Q5 hB2026 U U<|x (Zf [(0,[oF oG ky.1,.string ky.2,oF oG v,sa,oF oG st,sm,se,c0,c1,c2]),(1,cm.cells)] ⟨U,U,U,U,Z⟩) <|
  Qe<|QC (us:=[[oF oG ky.1,.string ky.2,oF oG v,sa,oF oG st,sm,se,c0,c1,c2,cm.ve,cm.vc,cm.vr,cm.vx,cm.vk]]) U U og (by exact(by decide:1*15<=1000000)) oA λb115 k8 hj hb115 hB115=>?_
 have hA27:At [] k8.heap ⟨b115,0,none⟩ (ZR P):=by have:=hB115.at (L:=[]) oe;rw[<-hPc];simpa using this
 have hI27:=hy.I hj;have hz27:=hj.size;have hLc:∀b∈ob vo++(ob vk++(ob vm++(b7::I::O::L'))),b<ho.heap.size/\b<gy.heap.size:=λb H=>ou (z0 b H).1
 have hPA:qG (ob vo++(ob vk++(ob vm++(b7::I::O::L')))) k8.heap P:=by
  obtain⟨hA,hC⟩:=g2.2 _ (λb H=>(hLc b H).2);have hcmX:=((((gi.2 _ (λb H=>(hLc b H).1)).I kw).I hL).I hv).I h1;rw[<-hP];exact⟨⟨(hA.I gj).I hj,(hC.k.I gj).I hj,(hC.d.I gj).I hj,(hC.r.I gj).I hj⟩,hcmX.I hj⟩
 refine Qe<|KH (m:=1) (news:=ZR P) hI27.o.own U U U hA27 (Zr.all hPA.ones) (show qs.length+1<=1073741824 by omega) oa λv28 w28 ho28 gl hn28=>?_;refine Qb ?_;have hI28:=hI27.part hPA ho28 gl hn28 oa oa;have hB1528:=((zv.I h1).I hj).J gl n15o;have hB1928:=(hB1926.I hj).J gl n19o;refine Qw<|Qs U hB1528 U U<|Q5 hB1928 U U<|Qe<|QC (us:=[KL ky]) U U og (by exact(by decide:1*2<=1000000)) oA λb120 w29 g3 hb120 hB120=>?_;have hI29:=hI28.I g3;refine Qe<|Za (m:=1) (news:=KL ky) (L:=[]) hI29.m U U U (by have:=hB120.at (L:=[]) oe;simpa using this) (by simp[Value.oneCell']) (show M.length+1<=1099511627776 by omega) (ov gl.size g3.size) λv30 w30 ho30 k9 hn30=>?_;refine Q2 rfl<|Qe<|QB (j:=1) (u:=v30) ((hB1528.I g3).J k9 n15m) U U oe (Qt ho30) λw31 hs31 hB1531=>xe ?_;have h9:=hI29.mades ho30 k9 hn30 hs31 ⟨T15,hB1531⟩ oa oa oa oe;refine Qw<|QP U U<|Qa<|xe ?_;have hs831:O5 [I,O] V w31:=(((((za.D h1).D hj).then gl (λb H=>.inr (gvo b H).1)).D g3).then k9 (λb H=>.inr (gvm b H).1)).Q (hs31.mono oe);refine⟨⟨k+1,v28,qs++[P],vk,K,v30,M++[ky]⟩,oh,oA,J,hs831,⟨h9.b,h9.n,h9.o,h9.k,h9.m,h9.d1,h9.d2⟩,?_,by simp only[oM,oO];omega⟩;simp only[];rw[Ls];have hPp:[P].map (·.pt)=[Ut c.V v q.m]:=by
  rw[p6,<-hP];show[q9.pt _]=_;unfold q9.pt;rw[gi.1]
 rw[hPp];exact hR
structure CkP (c:ZB):Prop where
 ev:Ke c.ev=0
 ne:c.co.length≠0
 n8:c.co.length<=8
 n12:c.co.length+c.rq.length<=12
 co:(Yu c.ev.length (K1 c.ev.length) [] [] c.co).1=0
 rq:JP c.ev.length (Yu c.ev.length (K1 c.ev.length) [] [] c.co).2.2 (Yu c.ev.length (K1 c.ev.length) [] [] c.co).2.1 c.rq=0
 cd:Yw (szs c.co) c.ex c.cs=0
theorem QgG :Zl c=0↔CkP c:=by
 constructor
 ·intro h;unfold Zl at h;split at h
  ·rename_i E;exact OW h E
  rename_i E;split at h
  ·cases h
  rename_i I;split at h
  ·cases h
  rename_i J;split at h
  ·rename_i G;exact OW h G
  rename_i G;split at h
  ·rename_i H;exact OW h H
  rename_i H;exact⟨Lo.1 E,I,oa,oa,Lo.1 G,Lo.1 H,h⟩
 intro h;unfold Zl;rw[OT (not_not_intro h.ev),OT h.ne,OT (ov h.n8 h.n12),OT (not_not_intro h.co),OT (not_not_intro h.rq)];exact h.cd
theorem QgF {sz:LI}{ex:List UV}{cs:List xL}(h:Yw sz ex cs=0):(∀x∈ex,YY (x.ls.map (·.1))/\x.ls.length≠0)/\∀x∈cs,YY (x.ts.map (·.1)):=by
 unfold Yw at h;split at h
 ·cases h
 split at h
 ·cases h
 split at h
 ·cases h
 split at h
 ·rename_i E;exact OW h E
 rename_i hx;have hx:=J7 _ _ _ (Lo.1 hx);have I:=Vo _ _ _ h;refine⟨λx H=>?_,λx H=>?_⟩
 ·have E:=hx x H;unfold Jd at E;split at E
  ·cases E
  rename_i G;exact⟨(Uc _ _ _ E).2.1,G⟩
 have E:=I x H;unfold Xx at E;split at E
 ·cases E
 split at E
 ·rename_i G;exact OW E G
 rename_i G;exact(Ua _ _ _ (Lo.1 G)).2.1
theorem Qa9 (h:(ZT c).1=0):∃a b,JT c.co c.ex=some a/\Kc c.co c.cs=some b/\(ZT c).2=c.co.map (KO 1)++(c.rq.map (KO 2)++(a++b))/\KB (ZT c).2=0:=by
 unfold ZT Qe8 at *;cases G:JT c.co c.ex with
 | none=>rw[G]at h;simp at h
 | some a =>
  cases H:Kc c.co c.cs with
  | none=>rw[G,H]at h;simp at h
  | some b =>
   rw[G,H]at h;simp only[]at h ⊢;by_cases E:KB (c.co.map (KO 1)++(c.rq.map (KO 2)++(a++b)))≠0
   ·rw[OU E]at h;exact OW h E
   rw[OT E];exact⟨a,b,U,U,U,Lo.1 E⟩
abbrev dky (x:Yc):Ky:=(x.kd,x.nm)
theorem Qcv {k:Int}{n:ByteArray}{x:Yc}:V7 k n x=true↔dky x=(k,n):=by
 unfold V7 dky;rw[Lx,decide_eq_true_iff,decide_eq_true_iff,Prod.mk.injEq]
theorem Qjy {l:List Yc}{k:Int}{n:ByteArray}:KP l k n=true↔(k,n)∈l.map dky:=by
 unfold KP Yx;rw[decide_eq_true_iff];constructor
 ·intro h;have E:=List.findIdx_getElem (w:=h);exact LC.2 ⟨_,Ll h,Qcv.1 E⟩
 intro h;obtain⟨x,hx,e⟩:=LC.1 h;exact List.findIdx_lt_length_of_exists ⟨x,hx,Qcv.2 e⟩
structure KOk (ks:List Ky):Prop where
 n:ks.length<=76
 kd:∀k (h:k<ks.length),1<=(ks[k]'h).1/\(ks[k]'h).1<=4
 nm:∀k (h:k<ks.length),Y3 (ks[k]'h).2=true
 no:∀k (h:k<ks.length),ks[k]'h∉ks.take k
 or:∀k (h:k<ks.length),0<k->(ks[k - 1]'oa).1<=(ks[k]'h).1
theorem QqE {l:List Yc}{k:Nat}(h:k<l.length):dk1 l k (l[k]'h)=0↔((1<=(l[k]'h).kd/\(l[k]'h).kd<=4)/\Y3 (l[k]'h).nm=true/\dky (l[k]'h)∉(l.map dky).take k/\(0<k->((l[k - 1]'oa).kd<=(l[k]'h).kd))/\QbQ (l[k]'h)=true):=by
 have S:((l.getD (k - 1) ⟨0,.empty,Vn,[],[],0⟩))=l[k - 1]'oa:=by rw[Ns,LF oa];rfl
 have J:KP (l.take k) (l[k]'h).kd (l[k]'h).nm=true↔dky (l[k]'h)∈(l.map dky).take k:=by rw[Qjy,NO]
 unfold dk1;rw[S];constructor
 ·intro E;split at E
  ·cases E
  rename_i T;split at E
  ·cases E
  rename_i G;split at E
  ·cases E
  rename_i H;split at E
  ·cases E
  rename_i O;split at E
  ·cases E
  rename_i I;exact⟨oa,oz G,λe=>H (J.2 e),λV=>oa,oz I⟩
 rintro⟨T,G,H,O,I⟩;rw[OT oa,OT (by rw[G];decide),OT (λe=>H (J.1 e)),OT (λe=>ou (O e.1)),OT (by rw[I];decide)]
def UL (a:Q9):Q9:=⟨a.al,a.st,K1 a.st.toNat,a.ed⟩
structure POk (p:xK):Prop where
 e:Y0 p.c=0
 sp:p.sp=suA p.c
 kp:p.kp=(q6 p.c).1
 ds:p.ds=(q6 p.c).2.1
 rm:p.rm=(q6 p.c).2.2
theorem POk.new {v:Int}{m:UU}(h:Y0 (K3 c m)=0):POk (Ut c v m):=⟨h,U,U,U,U⟩
structure Qkg (c:ZB)(ps:List xK):Prop where
 ck:Zl c=0
 mc:∀m∈O9 c,mcE c m=0/\Y0 (K3 c m)=0
 ky:ps.map (·.ky)=(O9 c).map (Yg c)
 cc:ps.map (·.c)=(O9 c).map (K3 c)
 ok:∀p∈ps,POk p
theorem Qh8 {l:List xK}{k:Ky}{p:xK}(h:ja l k=some p):p∈l/\p.ky=k:=by
 unfold ja at h;have E:=List.find?_some h;exact⟨List.mem_of_find?_eq_some h,oz E⟩
theorem Qqm {v:Int}{m:UU}(I:∀p∈bf,POk p)(h:(KS c bf v m).1=0):mcE c m=0/\Y0 (K3 c m)=0/\POk (KS c bf v m).2.1/\(KS c bf v m).2.1.c=K3 c m/\(KS c bf v m).2.1.ky=Yg c m:=by
 refine⟨?_,?_,?_,?_,Qo5 c bf v m⟩
 all_goals unfold KS at *
 ·by_cases E:mcE c m≠0
  ·rw[OU E]at h;exact OW h E
  exact Lo.1 E
 all_goals
  by_cases E:mcE c m≠0
  ·rw[OU E]at h;exact OW h E
  rw[OT E]at h
  try rw[OT E]
  cases H:ja bf (Yg c m)with
  | none =>
   rw[H]at h
   first|exact h|exact POk.new h|rfl
  | some p =>
   rw[H]at h;obtain⟨J,_⟩:=Qh8 H;simp only[]at h ⊢;by_cases G:p.c=K3 c m
   ·first|exact G ▸ (I p J).e|(rw[OU G];first|exact I p J|exact G)
   rw[OT G]at h
   first|exact h|(rw[OT G];first|exact POk.new h|rfl)
theorem Qj7 {c:ZB}{bf:List xK}{v:Int}:∀(l:List UU) (o:List xK) (k n:List Ky),(blL c bf v l o k n).1=0->(∀m∈l,(KS c bf v m).1=0)
 | [],_,_,_,_,_,E=>by cases E
 | m::l,o,k,n,h,m',E=>by
  rw[blL]at h;by_cases G:(KS c bf v m).1≠0
  ·rw[OU G]at h;exact OW h G
  rw[OT G]at h;rcases Li.1 E with rfl|E
  ·exact Lo.1 G
  split at h
  ·exact Qj7 l _ _ _ h m' E
  exact Qj7 l _ _ _ h m' E
theorem Qj8 {c:ZB}{bf:List xK}{v:Int}:∀(l:List UU) (o:List xK) (k n:List Ky),(∀m∈l,(KS c bf v m).1=0) ->
  blL c bf v l o k n=(0,o++l.map (λm=>(KS c bf v m).2.1),k++(l.filter λm=>(KS c bf v m).2.2).map (Yg c),n++(l.filter λm=>!(KS c bf v m).2.2).map (Yg c))
 | [],o,k,n,_=>by rw[blL];simp
 | m::l,o,k,n,h=>by
  have ih:=λo k n=>Qj8 l o k n λx hx=>h x (Lj _ hx);rw[blL,OT (not_not_intro (h m Lr))];cases E:(KS c bf v m).2.2 with
  | true=>rw[OU rfl,ih];simp[E,o0]
  | false=>rw[OT og,ih];simp[E,o0]
theorem Qj6 {v:Int}(h:KZ c bf v=0):Zl c=0/\∀m∈O9 c,(KS c bf v m).1=0:=by
 unfold KZ at h;by_cases E:Zl c≠0
 ·rw[OU E]at h;exact OW h E
 rw[OT E]at h;exact⟨Lo.1 E,Qj7 (O9 c) [] [] [] h⟩
theorem Qfs {v:Int}(h:∀m∈O9 c,(KS c bf v m).1=0):qy c bf v=(0,(O9 c).map (λm=>(KS c bf v m).2.1),((O9 c).filter λm=>(KS c bf v m).2.2).map (Yg c),((O9 c).filter λm=>!(KS c bf v m).2.2).map (Yg c)):=by
 unfold qy;rw[Qj8 _ _ _ _ h,L8,L8,L8]
theorem Qj4 {v:Int}(J:∀p∈bf,POk p)(h:KZ c bf v=0):Qkg c (qz c bf v):=by
 obtain⟨O,H⟩:=Qj6 h;have G:=λm E=>Qqm J (H m E);have e:qz c bf v=(O9 c).map (λm=>(KS c bf v m).2.1):=by unfold qz;rw[Qfs H]
 refine⟨O,λm E=>⟨(G m E).1,(G m E).2.1⟩,?_,?_,λp I=>?_⟩
 ·rw[e,Mu];exact Nl λm E=>(G m E).2.2.2.2
 ·rw[e,Mu];exact Nl λm E=>(G m E).2.2.2.1
 rw[e]at I;obtain⟨m,E,rfl⟩:=LC.1 I;exact(G m E).2.2.1
abbrev Pts (L:LN)(H:xC)(v:O2)(l:List q9):Prop:=Go.Lg.KX ZR 15 qG L H v l
structure StV where
 c:CL
 vp:O2
 ps:List q9
structure StA (L:LN)(H:xC)(q:StV):Prop where
 c:ZK L H q.c
 p:Pts L H q.vp q.ps
theorem StA.st {L:LN}{w w':O1}{q:StV}(h:StA L w.heap q)(E:O5 L w w'):StA L w'.heap q:=⟨h.c.st E,h.p.st E⟩
theorem StA.up {L L':LN}{H:xC}{q:StV}(h:StA L H q)(E:∀b∈L',b∈L\/H.size<=b):StA L' H q:=⟨h.c.up E,h.p.up E⟩
instance:Mm StA:=⟨StA.st,StA.up⟩
def StV.st (q:StV):ZB×List xK:=(q.c.V,q.ps.map (·.pt))
structure UnV where
 b1:Nat
 b2:Nat
 s:StV
structure Ki where
 b:Nat
 s:StV
 made:Int
 vr:O2
 rs:List yZ
 vu:O2
 us:List UnV
abbrev Qaw (s:Ki):LV:=[s.s.c.ve,s.s.c.vc,s.s.c.vr,s.s.c.vx,s.s.c.vk,s.s.vp,oF oG s.made,s.vr,s.vu]
def Ki.own (s:Ki):LN:=s.b::(ob s.vr++ob s.vu)
def Ki.sys (s:Ki):Sys:=⟨s.s.c.V,s.s.ps.map (·.pt),s.made,s.rs.map (·.rp),s.us.map λu=>u.s.st⟩
abbrev K7 (u:UnV):O2:=.func (.func 48) #[] #[.pointer (some ⟨u.b1,0,none⟩),.pointer (some ⟨u.b2,0,none⟩)]
structure UnA (L:LN)(H:xC)(u:UnV):Prop where
 a1:At L H ⟨u.b1,0,none⟩ u.s.c.cells
 a2:At L H ⟨u.b2,0,none⟩ [u.s.vp]
 s:StA L H u.s
theorem UnA.st {L:LN}{w w':O1}{u:UnV}(h:UnA L w.heap u)(E:O5 L w w'):UnA L w'.heap u:=⟨h.a1.st E,h.a2.st E,StA.st h.s E⟩
theorem UnA.up {L L':LN}{H:xC}{u:UnV}(h:UnA L H u)(E:∀b∈L',b∈L\/H.size<=b):UnA L' H u:=⟨h.a1.up E,h.a2.up E,h.s.up E⟩
instance:Mm UnA:=⟨UnA.st,UnA.up⟩
structure VH (L:LN)(w:O1)(s:Ki):Prop where
 blk:∃T,Zb w.heap s.b T (Qaw s)
 rr:w.ownsRow 0 53 3 s.vr s.rs.length (s.rs.flatMap ZI)
 ru:w.ownsRow 0 139 1 s.vu s.us.length (s.us.map K7)
 d1:s.b∉ob s.vr
 d2:s.b∉ob s.vu
 d3:∀b∈ob s.vr,b∉ob s.vu
 sub:∀b∈s.own,b∈L
 st:StA L w.heap s.s
 rA:∀q∈s.rs,K4 L w.heap q
 uA:∀q∈s.us,UnA L w.heap q
theorem VH.lt {L:LN}{w:O1}{s:Ki}(h:VH L w s):∀b∈s.own,b<w.heap.size:=λb E=>by
 unfold Ki.own at E;rcases Li.1 E with rfl|E
 ·obtain⟨T,G⟩:=h.blk;exact G.lt
 rcases Lc.1 E with E|E
 ·exact(Qi h.rr b E).2
 exact(Qi h.ru b E).2
theorem VH.J {L X:LN}{w w':O1}{s:Ki}(h:VH L w s)(E:O5 X w w')(G:∀b∈X,b∈L\/w.heap.size<=b)(H:∀b∈s.own,b∉X):VH L w' s:=by
 have O:s.b∉X:=H _ Lr;have S:∀b∈ob s.vr,b∉X:=λb I=>H b (Lj _ (Lc.2 (.inl I)));have V:∀b∈ob s.vu,b∉X:=λb I=>H b (Lj _ (Lc.2 (.inr I)));obtain⟨T,Y⟩:=h.blk;exact⟨⟨T,Y.J E O⟩,Qg h.rr E S,Qg h.ru E V,h.d1,h.d2,h.d3,h.sub,Mm.J h.st E G,λq J=>Mm.J (h.rA q J) E G,λq J=>Mm.J (h.uA q J) E G⟩
theorem VH.I {s:Ki}(h:VH L w s)(E:O5 [] w w'):VH L w' s:=h.J E (λ_ G=>by cases G) (λ_ _=>oe)
theorem VH.up {L L':LN}{w:O1}{s:Ki}(h:VH L w s)(E:∀b∈L',b∈L\/w.heap.size<=b)(H:∀b∈s.own,b∈L'):VH L' w s :=
 ⟨h.blk,h.rr,h.ru,h.d1,h.d2,h.d3,H,h.st.up E,λq G=>(h.rA q G).up E,λq G=>(h.uA q G).up E⟩
section
variable {pS:String}
theorem QqY {C:xA}{pl:xu}{e bys:Nat}{x G:O3}{v:O2}{k:IntKind}[h:Sl P t e sz bys z]
  (I:QV ops E=⟨d,.slice t x none (some G) none,ty,pS,af,gd⟩) (J:Zn L H v n sz cs) (hx:ev f x=v) (O:ev f G=.int k hi) (S:hi<=n)
  (hK:∀v',Zn L H v' hi sz (cs.take (hi*sz))->XP P ops C K pl (QW f d v') w)
  (T:Yb ops f (QV ops E)=true:=by rfl):XP P ops C K ((E,true)::pl) f w:=by
 obtain⟨v',V,Y⟩:=QbO (P:=P) (d:=d) (ty:=ty) (pS:=pS) (af:=af) (gd:=gd) (t:=t) J hx O S;exact Lg.p (λw'=>by rw[I];exact Y w') (by rw[I];exact hK v' V) T
end
theorem JE {v:O2}{es:List DV}(h0:Kx L w.heap v es):
  Q6 prog 80 [v] w λr w'=>r=oF oG (KB (es.map DV.it))/\O5 [] w w':=by
 have h:=h0.up (L':=[]) oe;have hQ:=h.arr.le;have ha:KB (es.map DV.it)=if 76<es.length then 3 else dkL (es.map DV.it) 0 (es.map DV.it):=by unfold KB;rw[Lh]
 refine Zq func80 ?_;refine Qc<|Qb<|Qd<|Qm<|QK h.arr U<|x (Z7 U U)<|xe<|QY rfl (λh9=>?_) (λh9=>?_)
 ·have hh:76<es.length:=by have h8:(76:Int)<(es.length:Int):=h9;omega
  refine Qc<|Qb<|Qk ⟨[_],La,by rw[ha,OU hh];rfl,O5.Z _ _⟩
 have hh:¬76<es.length:=by have h8:¬(76:Int)<(es.length:Int):=h9;omega
 rw[OT hh]at ha;refine Zk (KB (es.map DV.it)) λE hE=>?_;rw[hE]at ha;refine Qh<|Qd<|Qm<|QK h.arr U<|Qa<|xe<|Qf<|QD (α:=Nat) [(2,6),(12,62)] (λz=>[(12,oF oG z)]) (λz w'=>z<=es.length/\O5 [] w w'/\dkL (es.map DV.it) z ((es.map DV.it).drop z)=E) (λz=>es.length - z) ol 0 La ⟨Ln _,O5.Z _ _,ha.symm⟩ ?_;rintro k g w1 ⟨hk,hj,hd⟩;refine Qc<|QZ U U<|xe<|Qd<|QG U (λhl=>?_) (λhl=>?_)
 ·refine Qy ?_;have hA:es.length<=k:=by have hB:¬(k:Int)<(es.length:Int):=hl;omega
  rw[Lq (by rw[Lh];exact hA)]at hd;refine Qc<|Qb<|Qk ⟨[oF oG 0],La,by rw[hE,<-hd];rfl,hj⟩
 have H:k<es.length:=by have hB:(k:Int)<(es.length:Int):=hl;omega
 have hC:k<(es.map DV.it).length:=by rw[Lh];exact H
 rw[LE hC,Mq,dkL]at hd;have h2:=Ll H;have hD:(es.map DV.it).take k=(es.take k).map DV.it:=NO.symm;have G:dk1 (es.map DV.it) k (es[k]'H).it=if(es[k]'H).kd<1\/4<(es[k]'H).kd then 11 else if Y3 (es[k]'H).nm=false then 7 else if KP ((es.take k).map DV.it) (es[k]'H).kd (es[k]'H).nm=true then 8 else if 0<k/\(es[k]'H).kd<((es.map DV.it).getD (k - 1) ⟨0,.empty,Vn,[],[],0⟩).kd then 5 else if QbQ (es[k]'H).it=false then 6 else 0:=by
  unfold dk1;rw[hD];rfl
 have h1:=h.I hj;refine Qh<|Qd<|Qf<|Qm<|O8 (g:=Qv) (i:=k) ZW h1.arr U U H λhR h4=>?_;refine Zk (es[k]'H) λq hq=>?_;rw[hq]at h4 h2 G hd;have hm:=h1.each q h2;refine x (Qx h4 U U)<|Qe<|Qo (us:=[oF oG 0,.string .empty,nS,oF oG 0,nS,nS,nS,nS,oF oG 0]) U λb4 w2 hF hG hH=>x Ql <|
  Qe<|Qj (us:=Qv q) hH U U U U hm.ones λO hI hn=>xe ?_
 have ho:O5 [] w1 O:=hF.O hI hG;have hJ:=hj.D ho;have h3:=h1.I ho;have S:∀e:Int,e≠0->dk1 (es.map DV.it) k q.it=e->E=e:=λe he h=>by rw[h,OU he]at hd;exact hd.symm
 have h5:O5 [] O { O with drawn:=O.drawn+1 }:=O5.C _ _
 refine Qd<|ZD [] (Xb 0 13 [7])<|p QE<|p QE<|QqY (hi:=k) U h3.arr U U oa λv' hK=>p (QR U)<|pq (λ_ J=>Qq (hn.I J) U U) <|
  p (QR rfl)<|pq (λ_ J=>Qq (hn.I J) U U)<|?_
 have hL:Zn [] O.heap v' (es.take k).length 9 ((es.take k).flatMap Qv):=by
  rw[Ly,Mj oa,<-jX Qv 9 ZW];exact hK
 refine pk<|xg<|(zG (hL.I h5) q.kd q.nm).mono ?_;rintro r4 w4 ⟨⟨i,rfl,_⟩,hM⟩;have T:O5 [] O w4:=h5.D hM;refine⟨T,?_⟩;refine p QE<|p (λ_=>Zt U U)<|p (λ_=>Zt U U)<|p ZN<|p ZN<|pe ?_;have V:=hn.I T;have hb:=hJ.D T;refine Qf<|Q3 (α:=Bool) [(28,36)] (λz=>[(28,.bool z)]) (λz w'=>w'=w4/\(z=true↔(q.kd<1\/4<q.kd))) ol ?_ ?_
 ·refine Qw<|Qs U V U U<|xb (YQ U U) (λhr=>?_) (λhr=>?_)
  ·refine Qa<|Qr<|Qr<|Qr<|QH U<|Qb<|⟨true,La,U,⟨λ_=>.inl hr,λ_=>U⟩⟩
  refine Qa<|Qs U V U U<|x (Z7 U U)<|QH U<|Qb<|⟨_,La,U,⟨λe=>.inr (OY e),λe=>OX (e.resolve_left hr)⟩⟩
 rintro z g w5 ⟨rfl,Y⟩;refine QX rfl (λhf=>?_) (λhf=>?_)
 ·rw[OU (Y.1 hf)]at G;have I:=S 11 og G;refine Qc<|Qb<|Qk ⟨[oF oG 11],La,by rw[hE,I];rfl,hb⟩
 rw[OT (λe=>by rw[Y.2 e]at hf;cases hf)]at G;refine Qc<|Qs U V U U<|QM<|(VJ q.nm hm.nm w5).mono ?_;rintro r6 w6 ⟨rfl,rfl⟩;refine x (Zx U)<|Qb<|QX U (λhs=>?_) (λhs=>?_)
 ·rw[OU (oz hs)]at G;have I:=S 7 og G;refine Qc<|Qb<|Qk ⟨[oF oG 7],La,by rw[hE,I];rfl,hb⟩
 rw[OT (oz hs)]at G;refine Qm<|Qb<|QX U (λht=>?_) (λht=>?_)
 ·rw[OU ht]at G;have I:=S 8 og G;refine Qc<|Qb<|Qk ⟨[oF oG 8],La,by rw[hE,I];rfl,hb⟩
 rw[OT (by rw[ht];decide)]at G;have h6:=h3.I T;refine Q3 (α:=Bool) [(44,57)] (λz=>[(44,.bool z)]) (λz w'=>O5 [] w6 w'/\(z=true↔(0<k/\q.kd<((es.map DV.it).getD (k - 1) ⟨0,.empty,Vn,[],[],0⟩).kd))) ol ?_ ?_
 ·refine ZD [] (Xb 0 14 [])<|p QE<|pb (λ_=>Z7 U U) (λhu=>?_) (λhu=>?_)
  ·have hN:0<k:=by have hS:(0:Int)<(k:Int):=hu;omega
   have hp:k - 1<es.length:=oa
   have hge:((es.map DV.it).getD (k - 1) ⟨0,.empty,Vn,[],[],0⟩).kd=(es[k - 1]'hp).kd:=by simp[oQ,hp,DV.it]
   have hO:(k:Int) - 1=((k - 1:Nat):Int):=oa
   refine p QE<|p (QR U)<|pq (λ_ J=>Qq (V.I J) U U)<|p QE<|p QE <|
    p (λ_=>Jh U U ⟨oa,oa⟩)<|Go.Lg.pig (g:=Qv) (i:=k - 1) U ZW h6.arr U (show Go.Lg.ev _ _=_ from OV (Value.int .i64) hO) hp λhT hP=>p (λ_=>Zp U)<|pq (λ_ J=>QA ((hP.fld 0 (oF oG (es[k - 1]'hp).kd) U).I J) U) <|
    p (λ_=>YQ U U)<|p (Xg U)<|p ZN<|pe ?_
   refine⟨_,La,O5.C _ _,⟨λe=>⟨hN,by rw[hge];exact OY e⟩,λe=>OX (by rw[hge]at e;exact e.2)⟩⟩
  refine p QE<|ps<|ps<|ps<|ps<|ps<|ps<|ps<|ps<|ps<|p (Xg U)<|p ZN<|pe ?_;exact⟨false,La,O5.C _ _,⟨λe=>(by cases e),λe=>OW (show(0:Int)<(k:Int) by omega) hu⟩⟩
 rintro z g w7 ⟨hv,Y⟩;have hw:=hb.D hv;refine QX rfl (λhg=>?_) (λhg=>?_)
 ·rw[OU (Y.1 hg)]at G;have I:=S 5 og G;refine Qc<|Qb<|Qk ⟨[oF oG 5],La,by rw[hE,I];rfl,hw⟩
 rw[OT (λe=>by rw[Y.2 e]at hg;cases hg)]at G;refine Qc<|Q5 (V.I hv) U U<|QM<|(Qf0 (hm.I ((ho.D T).D hv))).mono ?_;rintro r8 w8 ⟨rfl,h7⟩;refine x (Zx U)<|Qb<|QX U (λhy=>?_) (λhy=>?_)
 ·rw[OU (oz hy)]at G;have I:=S 6 og G;refine Qc<|Qb<|Qk ⟨[oF oG 6],La,by rw[hE,I];rfl,hw.D h7⟩
 rw[OT (oz hy)]at G;rw[G,OT og]at hd;refine Qh<|Qw<|QP U U<|Qa<|xe ?_;exact⟨k+1,oa,La,H,hw.D h7,hd⟩
section
variable {o:List Yc}{X:Option (List Yc)}
theorem Qgz {y:UV}{l:List UV}(h:X=(JT co (y::l)).map (o++·))(E:VU co y.ls=none):X=none:=by
 rw[h,JT,E];rfl
theorem Qgy {y:UV}{l:List UV}(h:X=(JT co (y::l)).map (o++·)){r:List (ByteArray×Int)}(E:VU co y.ls=some r):X=(JT co l).map ((o++[⟨3,y.nm,Vn,r,[],0⟩])++·):=by
 rw[h,JT,E];simp only[Option.map_map];congr 1;funext z;simp
theorem QgB {y:xL}{l:List xL}(h:X=(Kc co (y::l)).map (o++·))(E:VU co y.ts=none):X=none:=by
 rw[h,Kc,E];rfl
theorem QgA {y:xL}{l:List xL}(h:X=(Kc co (y::l)).map (o++·)){r:List (ByteArray×Int)}(E:VU co y.ts=some r):X=(Kc co l).map ((o++[⟨4,y.nm,Vn,[],r,y.bd⟩])++·):=by
 rw[h,Kc,E];simp only[Option.map_map];congr 1;funext z;simp
end
theorem Qia {X:Option (List Yc)}:X=X.map (([]:List Yc)++·):=by cases X <;> rfl
theorem Qmo (h:JT c.co c.ex=none\/Kc c.co c.cs=none):ZT c=(2,[]):=by
 unfold ZT Qe8;rcases h with h|h <;> rw[h]
 cases JT c.co c.ex <;> rfl
theorem Qjv {a b l:List Yc}(E:JT c.co c.ex=some a)(G:Kc c.co c.cs=some b)(hl:l=c.co.map (KO 1)++(c.rq.map (KO 2)++(a++b))):ZT c=if KB l≠0 then(KB l,[])else(0,l):=by
 unfold ZT Qe8;rw[E,G,hl]
theorem Ju.app {base:Nat}{w E:O1}{v G:O2}{l:List DV}{H:O1}{q:DV}(h:Ju base w v l)(J:O5 [] w E)(hb:base<=w.heap.size)(O:∀L:LN,(∀b∈L,b<w.heap.size)->X7 L E.heap q)
  (S:H.ownsRow base 63 9 G (l.length+1) (l.flatMap Qv++Qv q)) (T:O5 (ob v) E H) (V:∀b∈ob G,b∈ob v\/E.heap.size<=b):Ju base H G (l++[q]):=
 (Yn.I h J).app (λL Y=>O L (λb ha=>by
  rcases Y b ha with I|I
  ·omega
  exact Zc h.own b I)) S T V
theorem Qkq {c:CL}(h0:ZK L w.heap c)(g7:c.co.length<=1000)(g8:c.rq.length<=1000)(g9:c.ex.length<=1000)(ka:c.cs.length<=1000)(gu:∀q∈c.ex,q.ls.length<=100000)(hk1:∀q∈c.cs,q.ts.length<=100000):
  Q6 prog 42 [c.val] w λr w'=>O5 [] w w'/\∃v,r=.tuple #[v,oF oG (ZT c.V).1]/\((ZT c.V).1≠0->v=Zs)/\((ZT c.V).1=0->∃l,Ju w.heap.size w' v l/\l.map DV.it=(ZT c.V).2):=by
 have h:=h0.up (L':=[]) oe;have hG:=@Qmo c.V;have gc:=@Qjv c.V;refine Zk (ZT c.V) λR hR=>?_;rw[hR]at hG gc ⊢;refine Zk (JT c.V.co c.V.ex) λRE gn=>?_;refine Zk (Kc c.V.co c.V.cs) λRC go=>?_;rw[gn,go]at hG gc;refine Zq func42 ?_;refine Qc<|Qe<|QS (us:=c.cells) U λb1 I hO kb hH=>x Ql<|Qb ?_;have kc:=hO.size;have h1:=h.I hO;refine Qc<|Qb<|Qd<|Qc<|Qs U (hH.I (O5.Z [] I)) U U<|QK (h1.co.arr.I (O5.Z [] I)) U<|Qa<|xe<|Qf<|QD (α:=Nat×O2×List DV×List Yc) [(4,4),(6,6),(21,34)] (λz=>[(4,z.2.1),(21,oF oG z.1)]) (λz w'=>z.1<=c.co.length/\O5 [] I w'/\Ju I.heap.size w' z.2.1 z.2.2.1/\z.2.2.1.map DV.it=([]:List Yc)++z.2.2.2/\z.2.2.2.length=z.1/\z.2.2.2=(c.co.take z.1).map (λq=>KO 1 q.it)) (λz=>c.co.length - z.1) ol (0,Zs,[],[]) oA
  ⟨Ln _,(O5.Z [] I),Yn.nil,by rw[LQ];exact U,U,U⟩ ?_
 rintro⟨k2,v2,l2,o2⟩ g w2 ⟨gv,hI,hR2,hP,gp,hX⟩;simp only[]at gv hR2 hP gp hX;have gw:=hI.size;have ke:l2.length<=4000:=by
  have e1:=OV oP hP;simp only[Oc,oM,OG]at e1;omega
 refine Qc<|QZ U U<|xe<|Qd<|QG U (λY=>?_) (λY=>?_)
 ·refine Qy ?_;have hs:c.co.length<=k2:=by have ht:¬(k2:Int)<(c.co.length:Int):=Y;omega
  rw[Lt hs]at hX;rw[hX,L8]at hP;refine Qd<|Qc<|Qs U (hH.I hI) U U<|QK (h1.rq.arr.I hI) U<|Qa<|xe<|Qf<|QD (α:=Nat×O2×List DV×List Yc) [(4,4),(8,8),(38,51)] (λz=>[(4,z.2.1),(38,oF oG z.1)]) (λz w'=>z.1<=c.rq.length/\O5 [] I w'/\Ju I.heap.size w' z.2.1 z.2.2.1/\z.2.2.1.map DV.it=(c.co.map (λq=>KO 1 q.it))++z.2.2.2/\z.2.2.2.length=z.1/\z.2.2.2=(c.rq.take z.1).map (λq=>KO 2 q.it)) (λz=>c.rq.length - z.1) ol (0,v2,l2,[]) oA
   ⟨Ln _,hI,hR2,by rw[LQ];exact hP,U,U⟩ ?_
  rintro⟨k3,v3,l3,o3⟩ g w3 ⟨gx,hJ,hR3,hQ,gq,hY⟩;simp only[]at gx hR3 hQ gq hY;have gy:=hJ.size;have kf:l3.length<=4000:=by
   have e1:=OV oP hQ;simp only[Oc,oM]at e1;omega
  refine Qc<|QZ U U<|xe<|Qd<|QG U (λY=>?_) (λY=>?_)
  ·refine Qy ?_;have hs:c.rq.length<=k3:=by have ht:¬(k3:Int)<(c.rq.length:Int):=Y;omega
   rw[Lt hs]at hY;rw[hY]at hQ;refine Qd<|Qc<|Qs U (hH.I hJ) U U<|QK (h1.ex.arr.I hJ) U<|Qa<|xe<|Qf<|QD (α:=Nat×O2×List DV×List Yc) [(2,4),(10,12),(55,73)] (λz=>[(4,z.2.1),(55,oF oG z.1)]) (λz w'=>z.1<=c.ex.length/\O5 [] I w'/\Ju I.heap.size w' z.2.1 z.2.2.1/\z.2.2.1.map DV.it=(c.co.map (λq=>KO 1 q.it)++c.rq.map (λq=>KO 2 q.it))++z.2.2.2/\z.2.2.2.length=z.1/\RE=(JT c.V.co ((c.ex.drop z.1).map XV.x)).map (z.2.2.2++·)) (λz=>c.ex.length - z.1) ol (0,v3,l3,[]) oA
    ⟨Ln _,hJ,hR3,by rw[LQ];exact hQ,U,gn ▸ Qia⟩ ?_
   rintro⟨k4,v4,l4,o4⟩ g w4 ⟨gz,hr,hS,hZ,gr,hK⟩;simp only[]at gz hS hZ gr hK;have g0:=hr.size;have kg:l4.length<=4000:=by
    have e1:=OV oP hZ;simp only[Oc,oM]at e1;omega
   refine Qc<|QZ U U<|xe<|Qd<|QG U (λY=>?_) (λY=>?_)
   ·refine Qy ?_;have hs:c.ex.length<=k4:=by have ht:¬(k4:Int)<(c.ex.length:Int):=Y;omega
    rw[Lq hs]at hK;have g2:RE=some o4:=by rw[hK];simp[JT]
    refine Qd<|Qc<|Qs U (hH.I hr) U U<|QK (h1.cs.arr.I hr) U<|Qa<|xe<|Qf<|QD (α:=Nat×O2×List DV×List Yc) [(2,4),(14,16),(77,95)] (λz=>[(4,z.2.1),(77,oF oG z.1)]) (λz w'=>z.1<=c.cs.length/\O5 [] I w'/\Ju I.heap.size w' z.2.1 z.2.2.1/\z.2.2.1.map DV.it=(c.co.map (λq=>KO 1 q.it)++c.rq.map (λq=>KO 2 q.it)++o4)++z.2.2.2/\z.2.2.2.length=z.1/\RC=(Kc c.V.co ((c.cs.drop z.1).map KV.k)).map (z.2.2.2++·)) (λz=>c.cs.length - z.1) ol (0,v4,l4,[]) oA
     ⟨Ln _,hr,hS,by rw[LQ];exact hZ,U,go ▸ Qia⟩ ?_
    rintro⟨k5,v5,l5,o5⟩ g w5 ⟨g3,hM,hR5,ga,gs,hN⟩;simp only[]at g3 hR5 ga gs hN;have g4:=hM.size;have kh:l5.length<=4000:=by
     have e1:=OV oP ga;simp only[Oc,oM]at e1;omega
    refine Qc<|QZ U U<|xe<|Qd<|QG U (λY=>?_) (λY=>?_)
    ·refine Qy ?_;have hs:c.cs.length<=k5:=by have ht:¬(k5:Int)<(c.cs.length:Int):=Y;omega
     rw[Lq hs]at hN;have g5:RC=some o5:=by rw[hN];simp[Kc]
     have hu:=gc (l:=l5.map DV.it) g2 g5 (by rw[ga,LB,LB];simp only[CL.V,List.map_map];rfl);refine Qd<|Qm<|QM<|(JE (hR5.dits (L:=[]) oa oe)).mono ?_;rintro r6 w6 ⟨rfl,J⟩;have gt:O5 [] w w6:=hO.D (hM.D J);refine Qb<|Qm<|ZA U U<|xe<|QY U (λgb=>?_) (λgb=>?_)
     ·rw[OU gb]at hu;refine Qm<|x Ql<|Qb<|Qk ⟨[Zs,oF oG (KB (l5.map DV.it))],oA,gt,Zs,by rw[hu];rfl,λ_=>U,λe=>?_⟩;rw[hu]at e;exact OW e gb
     rw[OT gb]at hu;refine Qh<|Qm<|x Ql<|Qb<|Qk ⟨[v5,oF oG 0],oA,gt,v5,by rw[hu];rfl,λe=>OW (by rw[hu]) e,λ_=>⟨l5,(Yn.I hR5 J).base oa,by rw[hu]⟩⟩
    have E:k5<c.cs.length:=by have ht:(k5:Int)<(c.cs.length:Int):=Y;omega
    have hj:c.cs.drop k5=c.cs[k5]'E::c.cs.drop (k5+1):=LE E;have hk:c.cs.take (k5+1)=c.cs.take k5++[c.cs[k5]'E]:=Lm E;have T:=Ll E;have V:=h1.I hM;refine Qh<|Qd<|Qf<|Qc<|O8 (g:=Zd) (i:=k5) Xp V.cs.arr U U E λgg hf=>?_;refine Zk (c.cs[k5]'E) λq hq=>?_;rw[hq]at hf hk T hj;have ha:=V.cs.each q T;have hv:=V.cs.nm q T;rw[hj,LK]at hN;refine x (Qx hf U U)<|Qe<|Qo (us:=[.string .empty,Zs,oF oG 0]) U λb5 w6 J hw hy=>Qe<|Qj (us:=Zd q) hy U U U U ⟨U,ha.one,U,Z⟩ λw7 hz hl=>xe ?_;have O:O5 [] w5 w7:=J.O hz hw;have gh:=O.size;refine Qc<|Qs U ((hH.I hM).I O) U U<|Q5 hl U U<|QM<|(QjC (V.co.I O) (ha.I O) hv (hk1 q T)).mono ?_;rintro r8 w8 ⟨h2,hm⟩;have hT:=O.D h2;refine Or.elim (Qlo (VU (c.co.map (·.it)) q.ts)) (λhn=>?_) (λhn=>?_)
    ·have hU:=QgB hN hn;rw[hn]at hm;have he:r8=.tuple #[.agg z9.toArray,oF oG 2]:=hm;subst he;refine Qa<|Q7 U U<|Q7 U U<|Qe<|Qo (us:=z9) U λgi w9 h3 h4 h6=>Qe<|Qj (us:=z9) h6 U U U U ⟨U,U,U,U,U,U,U,U,U,Z⟩ λho H hV=>Qb<|Qd<|Qm<|ZA U U<|xe<|QY U (λhg=>?_) (λhg=>OW (show(2:Int)≠0 by decide) hg);refine Qm<|x Ql<|Qb<|Qk ⟨[Zs,oF oG 2],oA,hO.D ((hM.D hT).D (h3.O H h4)),Zs,?_,λ_=>U,λe=>?_⟩
     ·rw[hG (.inr hU)];rfl
     rw[hG (.inr hU)]at e;exact OW e og
    refine Exists.elim hn λn hn=>?_;have gj:=QgA hN hn;rw[hn]at hm;have he:∃d:DV,r8=.tuple #[.agg (Qv d).toArray,oF oG 0]/\d.it=⟨4,q.nm,Vn,[],n,q.bd⟩/\∀L:LN,(∀b∈L,b<w7.heap.size)->X7 L w8.heap d:=hm;refine Exists.elim he λG he=>?_;have gk:=he.1;have h7:=he.2.1;have hp:=he.2.2;subst gk;have gl:X7 [] w8.heap G:=hp [] oe;refine Qa<|Q7 U U<|Q7 U U<|Qe<|Qo (us:=z9) U λgi g6 h3 h4 h6=>Qe<|Qj (us:=Qv G) h6 U U U U gl.ones λw9 H hV=>Qb ?_;have hW:O5 [] w8 w9:=h3.O H h4;have S:=hT.D hW;have hh:∀L:LN,(∀b∈L,b<w5.heap.size)->X7 L w9.heap G:=λL hL=>(hp L (λb hb=>ou (hL b hb))).I hW;refine Qd<|Qm<|ZA U U<|xe<|QY U (λhg=>OW U hg) (λhg=>?_);refine Qh<|Qw<|Qa<|Q5 hV U U<|?_;have h8:Ju I.heap.size w9 v5 l5:=Yn.I hR5 S;refine Qe<|QC (us:=[Qv G]) U U og (show 1*9<=1000000 by decide) oA λh9 ho H gm hA=>?_;have hB:At [] ho.heap ⟨h9,0,none⟩ (Qv G):=by have:=hA.at (L:=[]) oe;simpa using this
    refine Qe<|KH (m:=1) (news:=Qv G) (Yn.I h8 H).own U U U hB (VC (hh [] oe)) oa (ov S.size H.size) λv6 hi hC J hD=>?_;refine Qb ?_;have hE:Ju I.heap.size hi v6 (l5++[G]):=hR5.app (S.D H) g4 (λL hL=>(hh L hL).I H) hC J hD;have hF:O5 [] I hi:=((hM.D S).D H).then J λb hb=>.inr (Qi hR5.own b hb).1;refine Qw<|QP U U<|Qa<|xe<|⟨(k5+1,v6,l5++[G],o5++[G.it]),by show c.cs.length - (k5+1)<c.cs.length - k5;omega,oA,E,hF,hE,by simp only[];rw[Ls,ga,LB];rfl,by simp[gs],?_⟩;simp only[];rw[h7];exact gj
   have E:k4<c.ex.length:=by have ht:(k4:Int)<(c.ex.length:Int):=Y;omega
   have hj:c.ex.drop k4=c.ex[k4]'E::c.ex.drop (k4+1):=LE E;have hk:c.ex.take (k4+1)=c.ex.take k4++[c.ex[k4]'E]:=Lm E;have T:=Ll E;have V:=h1.I hr;refine Qh<|Qd<|Qf<|Qc<|O8 (g:=Q8) (i:=k4) Xz V.ex.arr U U E λgg hf=>?_;refine Zk (c.ex[k4]'E) λq hq=>?_;rw[hq]at hf hk T hj;have ha:=V.ex.each q T;have hv:=V.ex.nm q T;rw[hj,LK]at hK;refine x (Qx hf U U)<|Qe<|Qo (us:=[.string .empty,Zs]) U λb5 w6 J hw hy=>Qe<|Qj (us:=Q8 q) hy U U U U ⟨U,ha.one,Z⟩ λw7 hz hl=>xe ?_;have O:O5 [] w4 w7:=J.O hz hw;have gh:=O.size;refine Qc<|Qs U ((hH.I hr).I O) U U<|Q5 hl U U<|QM<|(Qjb (V.co.I O) (ha.I O) hv (gu q T)).mono ?_;rintro r8 w8 ⟨h2,hm⟩;have hT:=O.D h2;refine Or.elim (Qlo (VU (c.co.map (·.it)) q.ls)) (λhn=>?_) (λhn=>?_)
   ·have hU:=Qgz hK hn;rw[hn]at hm;have he:r8=.tuple #[.agg z9.toArray,oF oG 2]:=hm;subst he;refine Qa<|Q7 U U<|Q7 U U<|Qe<|Qo (us:=z9) U λgi w9 h3 h4 h6=>Qe<|Qj (us:=z9) h6 U U U U ⟨U,U,U,U,U,U,U,U,U,Z⟩ λho H hV=>Qb<|Qd<|Qm<|ZA U U<|xe<|QY U (λhg=>?_) (λhg=>OW (show(2:Int)≠0 by decide) hg);refine Qm<|x Ql<|Qb<|Qk ⟨[Zs,oF oG 2],oA,hO.D ((hr.D hT).D (h3.O H h4)),Zs,?_,λ_=>U,λe=>?_⟩
    ·rw[hG (.inl hU)];rfl
    rw[hG (.inl hU)]at e;exact OW e og
   refine Exists.elim hn λn hn=>?_;have gj:=Qgy hK hn;rw[hn]at hm;have he:∃d:DV,r8=.tuple #[.agg (Qv d).toArray,oF oG 0]/\d.it=⟨3,q.nm,Vn,n,[],0⟩/\∀L:LN,(∀b∈L,b<w7.heap.size)->X7 L w8.heap d:=hm;refine Exists.elim he λG he=>?_;have gk:=he.1;have h7:=he.2.1;have hp:=he.2.2;subst gk;have gl:X7 [] w8.heap G:=hp [] oe;refine Qa<|Q7 U U<|Q7 U U<|Qe<|Qo (us:=z9) U λgi g6 h3 h4 h6=>Qe<|Qj (us:=Qv G) h6 U U U U gl.ones λw9 H hV=>Qb ?_;have hW:O5 [] w8 w9:=h3.O H h4;have S:=hT.D hW;have hh:∀L:LN,(∀b∈L,b<w4.heap.size)->X7 L w9.heap G:=λL hL=>(hp L (λb hb=>ou (hL b hb))).I hW;refine Qd<|Qm<|ZA U U<|xe<|QY U (λhg=>OW U hg) (λhg=>?_);refine Qh<|Qw<|Qa<|Q5 hV U U<|?_;have h8:Ju I.heap.size w9 v4 l4:=Yn.I hS S;refine Qe<|QC (us:=[Qv G]) U U og (show 1*9<=1000000 by decide) oA λh9 ho H gm hA=>?_;have hB:At [] ho.heap ⟨h9,0,none⟩ (Qv G):=by have:=hA.at (L:=[]) oe;simpa using this
   refine Qe<|KH (m:=1) (news:=Qv G) (Yn.I h8 H).own U U U hB (VC (hh [] oe)) oa (ov S.size H.size) λv6 hi hC J hD=>?_;refine Qb ?_;have hE:Ju I.heap.size hi v6 (l4++[G]):=hS.app (S.D H) g0 (λL hL=>(hh L hL).I H) hC J hD;have hF:O5 [] I hi:=((hr.D S).D H).then J λb hb=>.inr (Qi hS.own b hb).1;refine Qw<|QP U U<|Qa<|xe<|⟨(k4+1,v6,l4++[G],o4++[G.it]),by show c.ex.length - (k4+1)<c.ex.length - k4;omega,oA,E,hF,hE,by simp only[];rw[Ls,hZ,LB];rfl,by simp[gr],?_⟩;simp only[];rw[h7];exact gj
  have E:k3<c.rq.length:=by have ht:(k3:Int)<(c.rq.length:Int):=Y;omega
  have hj:c.rq.drop k3=c.rq[k3]'E::c.rq.drop (k3+1):=LE E;have hk:c.rq.take (k3+1)=c.rq.take k3++[c.rq[k3]'E]:=Lm E;have T:=Ll E;have V:=h1.I hJ;refine Qh<|Qd<|Qf<|Qc<|O8 (g:=QO) (i:=k3) Yp V.rq.arr U U E λgg hf=>?_;refine Zk (c.rq[k3]'E) λq hq=>?_;rw[hq]at hf hk T hj;have ha:=V.rq.each q T;have hv:=V.rq.nm q T;refine x (Qx hf U U)<|Qe<|Qo (us:=[.string .empty,Zs,oF oG 0,Zs,Zs]) U λb5 w6 J hw hy=>Qe<|Qj (us:=QO q) hy U U U U ⟨U,ha.al.one,U,ha.mr.one,ha.ed.one,Z⟩ λw7 hz hl=>xe ?_;have O:O5 [] w3 w7:=J.O hz hw;refine Qw<|Qa<|Qs U hl U U<|Q2 U<|x (Zj (us:=[q.p.va,oF oG q.p.a.st,q.p.vm,q.p.ve]) hl U U U)<|x (Zf [(0,[oF oG 2]),(1,[.string q.nm]),(2,[q.p.va,oF oG q.p.a.st,q.p.vm,q.p.ve])] ⟨U,U,U,U,U,U,Z⟩) <|
   QM<|(Kp (q:=⟨2,q.nm,q.p,Zs,[],Zs,[],0⟩) (L:=[]) ⟨hv,ha.I O,VI.nil,VI.nil⟩).mono ?_
  rintro r8 w9 ⟨h2,G,rfl,h7,hp⟩;have S:=O.D h2;have gh:=O.size;have hh:∀L:LN,(∀b∈L,b<w3.heap.size)->X7 L w9.heap G:=λL hL=>hp L (λb hb=>ou (hL b hb));have h8:Ju I.heap.size w9 v3 l3:=Yn.I hR3 S;refine Qe<|QC (us:=[Qv G]) U U og (show 1*9<=1000000 by decide) oA λh9 ho H gm hA=>?_;have hB:At [] ho.heap ⟨h9,0,none⟩ (Qv G):=by have:=hA.at (L:=[]) oe;simpa using this
  refine Qe<|KH (m:=1) (news:=Qv G) (Yn.I h8 H).own U U U hB (VC (hh [] oe)) oa (ov S.size H.size) λv6 hi hC J hD=>?_;refine Qb ?_;have hE:Ju I.heap.size hi v6 (l3++[G]):=hR3.app (S.D H) gy (λL hL=>(hh L hL).I H) hC J hD;have hF:O5 [] I hi:=((hJ.D S).D H).then J λb hb=>.inr (Qi hR3.own b hb).1;refine Qw<|QP U U<|Qa<|xe<|⟨(k3+1,v6,l3++[G],o3++[G.it]),by show c.rq.length - (k3+1)<c.rq.length - k3;omega,oA,E,hF,hE,by simp only[];rw[Ls,hQ,LB];rfl,by simp[gq],?_⟩;simp only[];rw[hk,Ls,<-hY,h7];rfl
 have E:k2<c.co.length:=by have ht:(k2:Int)<(c.co.length:Int):=Y;omega
 have hj:c.co.drop k2=c.co[k2]'E::c.co.drop (k2+1):=LE E;have hk:c.co.take (k2+1)=c.co.take k2++[c.co[k2]'E]:=Lm E;have T:=Ll E;have V:=h1.I hI;refine Qh<|Qd<|Qf<|Qc<|O8 (g:=QO) (i:=k2) Yp V.co.arr U U E λgg hf=>?_;refine Zk (c.co[k2]'E) λq hq=>?_;rw[hq]at hf hk T hj;have ha:=V.co.each q T;have hv:=V.co.nm q T;refine x (Qx hf U U)<|Qe<|Qo (us:=[.string .empty,Zs,oF oG 0,Zs,Zs]) U λb5 w6 J hw hy=>Qe<|Qj (us:=QO q) hy U U U U ⟨U,ha.al.one,U,ha.mr.one,ha.ed.one,Z⟩ λw7 hz hl=>xe ?_;have O:O5 [] w2 w7:=J.O hz hw;refine Qw<|Qa<|Qs U hl U U<|Q2 U<|x (Zj (us:=[q.p.va,oF oG q.p.a.st,q.p.vm,q.p.ve]) hl U U U)<|x (Zf [(0,[oF oG 1]),(1,[.string q.nm]),(2,[q.p.va,oF oG q.p.a.st,q.p.vm,q.p.ve])] ⟨U,U,U,U,U,U,Z⟩) <|
  QM<|(Kp (q:=⟨1,q.nm,q.p,Zs,[],Zs,[],0⟩) (L:=[]) ⟨hv,ha.I O,VI.nil,VI.nil⟩).mono ?_
 rintro r8 w9 ⟨h2,G,rfl,h7,hp⟩;have S:=O.D h2;have gh:=O.size;have hh:∀L:LN,(∀b∈L,b<w2.heap.size)->X7 L w9.heap G:=λL hL=>hp L (λb hb=>ou (hL b hb));have h8:Ju I.heap.size w9 v2 l2:=Yn.I hR2 S;refine Qe<|QC (us:=[Qv G]) U U og (show 1*9<=1000000 by decide) oA λh9 ho H gm hA=>?_;have hB:At [] ho.heap ⟨h9,0,none⟩ (Qv G):=by have:=hA.at (L:=[]) oe;simpa using this
 refine Qe<|KH (m:=1) (news:=Qv G) (Yn.I h8 H).own U U U hB (VC (hh [] oe)) oa (ov S.size H.size) λv6 hi hC J hD=>?_;refine Qb ?_;have hE:Ju I.heap.size hi v6 (l2++[G]):=hR2.app (S.D H) gw (λL hL=>(hh L hL).I H) hC J hD;have hF:O5 [] I hi:=((hI.D S).D H).then J λb hb=>.inr (Qi hR2.own b hb).1;refine Qw<|QP U U<|Qa<|xe<|⟨(k2+1,v6,l2++[G],o2++[G.it]),by show c.co.length - (k2+1)<c.co.length - k2;omega,oA,E,hF,hE,by simp only[];rw[Ls,hP,LB];rfl,by simp[gp],?_⟩;simp only[];rw[hk,Ls,<-hX,h7];rfl
structure CSz (c:ZB):Prop where
 c1:c.co.length<=1000
 c2:c.rq.length<=1000
 c3:c.ex.length<=1000
 c4:c.cs.length<=1000
 x:∀q∈c.ex,q.ls.length<=100000
 k:∀q∈c.cs,q.ts.length<=100000
theorem Qgj {n:Int}(h:YY l)(E:∀x∈l,0<=x/\x<n)(G:n<=8):l.length<=8:=by
 have:=X0 l 0 n h E;omega
theorem Vq (h:Zl c=0):CSz c:=by
 have E:=QgG.1 h;have hd:=Vp E.cd;have hl:=QgF E.cd;have I:(szs c.co).length=c.co.length:=Lh _;have J:=E.n8;refine⟨oa,ou E.n12,ou hd.xl,ou hd.kl,λq G=>?_,λq G=>?_⟩
 ·have:=Qgj (hl.1 q G).1 (n:=((szs c.co).length:Int)) (λx hx=>by
   obtain⟨p,H,rfl⟩:=LC.1 hx;exact hd.x q G p H) oa
  rw[Lh]at this;omega
 have:=(hd.k q G).2;omega
theorem CSz.its {c:CL}(h:CSz c.V):c.co.length<=1000/\c.rq.length<=1000/\c.ex.length<=1000/\c.cs.length<=1000/\(∀q∈c.ex,q.ls.length<=100000)/\∀q∈c.cs,q.ts.length<=100000:=by
 have e1:c.V.co.length=c.co.length:=Lh _;have e2:c.V.rq.length=c.rq.length:=Lh _;have G:c.V.ex.length=c.ex.length:=Lh _;have H:c.V.cs.length=c.cs.length:=Lh _;exact⟨e1 ▸ h.c1,e2 ▸ h.c2,G ▸ h.c3,H ▸ h.c4,λq E=>h.x q.x (LO E),λq E=>h.k q.k (LO E)⟩
theorem Qdx {c:CL}(E:ZK L w.heap c)(G:CSz c.V):
  Q6 prog 42 [c.val] w λr w'=>O5 [] w w'/\∃v,r=.tuple #[v,oF oG (ZT c.V).1]/\((ZT c.V).1≠0->v=Zs)/\((ZT c.V).1=0->∃l,Ju w.heap.size w' v l/\l.map DV.it=(ZT c.V).2):=
 let h:=G.its;Qkq E h.1 h.2.1 h.2.2.1 h.2.2.2.1 h.2.2.2.2.1 h.2.2.2.2.2
theorem QdN {c:CL}(E:ZK L w.heap c)(G:CSz c.V):
  Q6 prog 44 [c.val] w λr w'=>O5 [] w w'/\Qed w.heap.size w'.heap r c.V :=
 let h:=G.its;QoT E h.1 h.2.1
abbrev z9s:LV:=[nS,nS,nS,nS,nS,nS,oF oG 0,nS,nS]
instance:Bw prog 136 z9s [(0,5),(5,1),(6,1),(7,1),(8,1)]:=⟨od,og⟩
abbrev Qdp:O2:=.pointer none
abbrev pS (b:Nat):O2:=.pointer (some ⟨b,0,none⟩)
theorem Qkn {c:CL}(I:ZK L w.heap c)(hz:CSz c.V)(hy:Kb w 4096):
  Q6 prog 11 [c.val] w λr w'=>O5 [] w w'/\∃vp,r=.tuple #[vp,oF oG (yf c.V)]/\(yf c.V≠0->vp=Qdp)/\(yf c.V=0->∃s:Ki,vp=pS s.b/\s.sys=Qf5 c.V/\(∀b∈s.own,w.heap.size<=b)/\VH (s.own++oT w.heap.size) w' s):=by
 have h:=I.up (L':=[]) oe;have H:yf c.V=if(ZT c.V).1≠0 then(ZT c.V).1 else if Zl c.V≠0 then Zl c.V else KZ c.V [] 0:=rfl
 refine Zk (yf c.V) λE hE=>?_;rw[hE]at H ⊢;refine Zq func11 ?_;refine Qc<|Qe<|QS (us:=c.cells) U λb1 w1 hm h1 S=>x Ql<|Qb<|Qd<|Qc<|Q5 S U U<|QM<|(Qdx (h.I hm) hz).mono ?_;rintro r2 w2 ⟨T,v2,rfl,_,_⟩;have hf:=hm.D T;have hJ:=T.size;refine Qa<|Q7 U U<|Q7 U U<|x Ql<|Qb<|Qm<|ZA U U<|xe<|QY rfl (λY=>?_) (λY=>?_)
 ·rw[OU Y]at H;refine Qm<|x Ql<|Qb<|Qk ⟨[Qdp,oF oG (ZT c.V).1],oA,hf,Qdp,by rw[H];rfl,λ_=>U,λI=>OW (H.symm.D I) Y⟩
 rw[OT Y]at H;refine Qh<|Qd<|Qc<|Q5 (S.I T) U U<|QM<|(X2 (h.I hf)).mono ?_;rintro r3 w3 ⟨rfl,ha⟩;have hg:=hf.D ha;have hK:=ha.size;refine Qb<|Qm<|ZA U U<|xe<|QY rfl (λhc=>?_) (λhc=>?_)
 ·rw[OU hc]at H;refine Qm<|x Ql<|Qb<|Qk ⟨[Qdp,oF oG (Zl c.V)],oA,hg,Qdp,by rw[H];rfl,λ_=>U,λI=>OW (H.symm.D I) hc⟩
 rw[OT hc]at H;have hL:=S.lt;refine Qh<|Qc<|Q5 ((S.I T).I ha) U U<|QM<|(QdN (h.I hg) hz).mono ?_;rintro _ w4 ⟨hh,c4,rfl,hn,ho⟩;have h2:=hg.D hh;have hM:=hh.size;refine Qe<|Qj (us:=c4.cells) (((S.I T).I ha).I hh) U U U U (ho [] oe).ones λw5 hi hp=>xe ?_;have hr:O5 [] w w5:=h2.O hi h1;have hN:=hi.size;have h3:∀b∈b1::oT w.heap.size,b<w3.heap.size:=λb G=>by
  rcases Li.1 G with rfl|G
  ·omega
  have:=Nc.1 G;omega
 have hs:ZK (b1::oT w.heap.size) w5.heap c4:=(ho _ h3).st (hi.mono oe);have hbld:=QcL (L':=oT w.heap.size) (vb:=Zs) (ps:=[]) (v:=0) hs ⟨Zn.nil _ _ _,oe⟩ (λb G=>ou (Nc.1 G)) .nil oe (hy.I hr);rw[hn]at hbld;refine Qc<|Q5 hp U U<|QM<|hbld.mono ?_;rintro r6 w6 ⟨he,vp,us,rfl,h4,h5,hO,h6⟩;have h7:=hr.D he;have hP:=he.size;refine Qa<|Q7 U U<|Q7 U U<|Q7 U U<|Qe<|Qo (us:=YX) U λb8 w7 h8 h9 hA=>x Ql <|
  Qe<|Qj (us:=us) hA U U h4 U h5 λw8 hB ht=>Qb ?_
 have O:O5 [] w6 w8:=h8.O hB h9;have hu:=h7.D O;refine Qd<|Qm<|ZA U U<|xe<|QY rfl (λhj=>?_) (λhj=>?_)
 ·refine Qm<|x Ql<|Qb<|Qk ⟨[Qdp,oF oG (KZ c.V [] 0)],oA,hu,Qdp,by rw[H];rfl,λ_=>U,λI=>OW (H.symm.D I) hj⟩
 have hk:KZ c.V [] 0=0:=Lo.1 hj;refine Exists.elim (h6 hk) λqs J=>Exists.elim J λq J=>?_;have hC:us=[q.v1,q.v2,q.v3]:=J.1;rw[hC]at ht;have hD:=J.2.2.2.2.2 [] oe;have hF:=hD.I O;refine Qh<|Qc<|Q5 (hp.I (he.D O)) U U<|Qa<|Qs U ht U U<|x (Xo hF.a2 U) <|
  x (Zf [(0,c4.cells),(1,[vp]),(2,[oF oG (q.k2.length:Int)])] ⟨U,U,xM J.2.2.2.1,U,U,U,Z⟩) <|
  Qe<|QS (us:=Qaw ⟨0,⟨c4,vp,qs⟩,q.k2.length,Zs,[],Zs,[]⟩) U λV w9 hl hG hv=>x Ql<|Qb ?_
 have hQ:=O.size;have hR:=hv.lt;have hH:=J.2.2.2.2.1;have hw:∀b∈V::oT w.heap.size,b∈oT w.heap.size\/w8.heap.size<=b:=λb G=>by
  rcases Li.1 G with rfl|G
  ·exact .inr hG
  exact .inl G
 refine Qk ⟨[pS V,oF oG 0],oA,hu.D hl,pS V,by rw[H,hk];rfl,λI=>OW (H.D hk) I,λ_=>⟨⟨V,⟨c4,vp,qs⟩,q.k2.length,Zs,[],Zs,[]⟩,U,?_,λb G=>?_,?_⟩⟩
 ·unfold Ki.sys Qf5;simp only[];rw[hn];have e1:qs.map (·.pt)=qz c.V [] 0:=J.2.1;have e2:q.rp=XQ c.V [] 0:=J.2.2.1;have e3:(XQ c.V [] 0).made=q.k2:=by rw[<-e2];rfl
  rw[e1,e3];rfl
 ·have hI:b∈[V]:=G;rw[Lb.1 hI];omega
 refine⟨⟨_,hv⟩,QL _ _ _ _,QL _ _ _ _,by simp[ob],by simp[ob],by simp[ob],λb G=>Lc.2 (.inl G),⟨?_,?_⟩,oe,oe⟩
 ·exact(((hs.I (he.D O)).up λb G=>(hw b G).imp (Lj _) id).I hl)
 exact(Go.Lg.KX.up (Go.Lg.KX.I hH O) hw).I hl
theorem QhG {s:Ki}(h:VH L w s):
  Q6 prog 12 [pS s.b] w λr w'=>r=oF oG s.made/\w'=w:=by
 obtain⟨T,E⟩:=h.blk;refine Zq func12 ?_;refine Qc<|Qb<|Qd<|Qm<|x (X4 underlying46 U U)<|xe<|ZL rfl<|Qh<|Qm<|Yl U<|Qs U E U U<|Qb<|Qk ⟨[_],La,U,U⟩
theorem QhH {s:Ki}(h:VH L w s)(S:CSz s.s.c.V):
  Q6 prog 16 [pS s.b] w λr w'=>O5 [] w w'/\∃cm:CL,r=.tuple #[.agg cm.cells.toArray,oF oG 0]/\cm.V=s.s.c.V/\∀L:LN,(∀b∈L,b<w.heap.size)->ZK L w'.heap cm:=by
 obtain⟨T,V⟩:=h.blk;refine Zq func16 ?_;refine Qc<|Qe<|Qo (us:=Z6) U λb2 w1 G Y H=>Qb ?_;have ha:=H.lt;refine Qd<|Qm<|x (X4 underlying46 U U)<|xe<|ZL rfl<|Qh<|Qm<|Yl U<|Q2 U<|x (Zj (us:=s.s.c.cells) (V.I G) U U U)<|QM<|(QdN (h.st.c.I G) S).mono ?_;rintro _ w3 ⟨I,cm,rfl,hc,J⟩;refine Qe<|Qj (us:=cm.cells) (H.I I) U U U U (J [] oe).ones λw4 O he=>Qb<|Qk ⟨[.agg cm.cells.toArray,oF oG 0],⟨⟨_,rfl,Qn rfl (he.at (L:=[]) oe).cells⟩,rfl,Z⟩,(G.D I).O O Y,cm,rfl,hc,λN hN=>?_⟩;exact((J (b2::N) (λb E=>by
  rcases Li.1 E with rfl|E
  ·exact ha
  have:=hN b E;omega)).st (O.mono oe)).up λb E=>.inl (Lj _ E)
theorem JZ {s:Ki}(h:VH L w s)(hl:s.s.ps.length<=1000):
  Q6 prog 17 [pS s.b] w λr w'=>O5 [] w w'/\∃v es,r=.tuple #[v,oF oG 0]/\es.map ze.en=s.s.ps.map (λq=>q.pt.en)/\Yn ZF 10 90 zf w.heap.size w' v es:=by
 obtain⟨T,hB⟩:=h.blk;have hp:Pts [] w.heap s.s.vp s.s.ps:=h.st.p.up oe;refine Zq func17 ?_;refine Qc<|x Ql<|Qb<|Qd<|Qm<|x (X4 underlying46 U U)<|xe<|ZL rfl<|Qh<|Qc<|Qb<|Qd<|Qm<|Yl U<|Qs U hB U U<|QK hp.arr U<|Qa<|xe<|Qf<|QD (α:=Nat×O2×List ze) [(4,4),(6,6),(14,24)] (λz=>[(4,z.2.1),(14,oF oG z.1)]) (λz w'=>z.1<=s.s.ps.length/\O5 [] w w'/\Yn ZF 10 90 zf w.heap.size w' z.2.1 z.2.2/\z.2.2.map ze.en=(s.s.ps.take z.1).map λq=>q.pt.en) (λz=>s.s.ps.length - z.1) ol (0,Zs,[]) oA ⟨Ln _,O5.Z _ _,Yn.nil,U⟩ ?_;rintro⟨k,vo,l⟩ g V ⟨hk,J,hR,G⟩;simp only[]at hk hR G;have h4:l.length=k:=by have:=OV oP G;rw[Lh,Lh,Ly]at this;omega
 refine Qc<|QZ U U<|xe<|Qd<|QG U (λY=>?_) (λY=>?_)
 ·refine Qy ?_;have hj:s.s.ps.length<=k:=by have O:¬(k:Int)<(s.s.ps.length:Int):=Y;omega
  rw[Lt hj]at G;refine Qm<|x Ql<|Qb<|Qk ⟨[vo,oF oG 0],oA,J,vo,l,U,G,hR⟩
 have E:k<s.s.ps.length:=by have O:(k:Int)<(s.s.ps.length:Int):=Y;omega
 have hc:s.s.ps.take (k+1)=s.s.ps.take k++[s.s.ps[k]'E]:=Lm E;have he:=Ll E;have hf:Pts [] V.heap s.s.vp s.s.ps:=Go.Lg.KX.I hp J;refine Qh<|Qd<|Qf<|Qc<|O8 (g:=ZR) (i:=k) Qdm hf.arr U U E λh5 O=>?_;refine Zk (s.s.ps[k]'E) λq hq=>?_;rw[hq]at O hc he;have hg:qG [] V.heap q:=hf.each q he;refine x (Qx O U U)<|Qe<|Qo (us:=z15) U λb6 w2 hn ho hr=>Qe<|Qj (us:=ZR q) hr U U U U hg.ones λw3 hs ht=>xe ?_;have H:O5 [] V w3:=hn.O hs ho;have h6:=H.size;have h7:=J.size;refine Qw<|Qa<|Q2 U<|x (Zj (us:=ZF q.e) ht U U U)<|QM<|(QoS (hg.e.I H)).mono ?_;rintro r4 w4 ⟨ha,I,rfl,hu,hh⟩;have h8:=ha.size;have hv:=(hR.I H).I ha;have hw:=Zc (hR.I H).own;refine Qe<|QC (us:=[ZF I]) U U og (show 1*10<=1000000 by decide) oA λhy w5 S h9 hz=>?_;have hA:=S.size;have h0:At [] w5.heap ⟨hy,0,none⟩ (ZF I):=by have:=hz.at (L:=[]) oe;simpa using this
 have hR5:=hv.I S;refine Qe<|KH (m:=1) (news:=ZF I) hR5.own U U U h0 (hh [] oe).ones.all oa oa λv6 w6 h1 hi h2=>?_;refine Qb ?_;have h3:Yn ZF 10 90 zf w.heap.size w6 v6 (l++[I]):=hR5.app (λL hL=>(hh L (λb hb=>by
  rcases hL b hb with h|h
  ·omega
  exact hw b h)).I S) h1 hi h2
 refine Qw<|QP U U<|Qa<|xe<|⟨(k+1,v6,l++[I]),by show s.s.ps.length - (k+1)<s.s.ps.length - k;omega,oA,E,((((J.D H).D ha).D S).then hi λb hb=>.inr (Qi hR.own b hb).1),h3,?_⟩;simp only[];rw[hc,Ls,Ls,G,LK,LK,hu];rfl
theorem QeZ {α:Type}(g:α->LV)(sz:Nat)(E:∀x,(g x).length=sz):∀(l:List α) (k:Nat),(l.flatMap g).drop (k*sz)=(l.drop k).flatMap g
 | [],k=>oe
 | a::l,0=>oe
 | a::l,k+1=>by
  rw[show(k+1)*sz=(g a).length+k*sz by rw[E a,Nat.succ_mul];omega,LH,List.drop_append,Lq oa,L8,MK,QeZ g sz E l k];rfl
theorem Qco {base:Nat}{v:O2}{l:List DV}(h:Ju base w v l):∀q∈l,∀u∈Qv q,u.oneCell'=true:=λq E=>VC (h.each q E [] oe)
theorem Ju.turn {base:Nat}{v r:O2}{l l':List DV}(h:Ju base w v l)(G:O5 (ob v) w w')(H:∀b∈ob r,b∈ob v)(hl:∀q∈l',q∈l)(I:w'.ownsRow base 63 9 r l'.length (l'.flatMap Qv)):Ju base w' r l' :=
 ⟨I,λq J L O=>Mm.mono (Mm.st (L:=ob v++L) (h.each q (hl q J) _ λb E=>by
  rcases Lc.1 E with E|E
  ·exact .inr E
  exact(O b E).imp id (H b)) (G.mono λb E=>Lc.2 (.inl E))) λb E=>Lc.2 (.inr E)⟩
theorem Qmj {base:Nat}{v:O2}{l:List DV}(hR:Ju base w v l){k:Nat}(hk:k<l.length)(hl:l.length<=1000):
  Q6 prog 165 [v,oF oG (k:Int),oF oG ((k+1:Nat):Int)] w λr w'=>O5 (ob v) w w'/\Ju base w' r (l.take k++l.drop (k+1)):=by
 have h:=hR.own;have he:=Qco hR;have O:∀(r:O2) (w':O1),O5 (ob v) w w'/\ob r=ob v/\w'.ownsRow base 63 9 r (l.length - 1) ((l.take k++l.drop (k+1)).flatMap Qv)->O5 (ob v) w w'/\Ju base w' r (l.take k++l.drop (k+1)):=λr w' ⟨G,I,h3⟩ =>
  ⟨G,Ju.turn hR G (λb hb=>I ▸ hb) (λq J=>(Lc.1 J).elim (λh=>LX h) (λh=>L6 h)) (by
   have e:(l.take k++l.drop (k+1)).length=l.length - 1:=by rw[Lk,Ly,LT];omega
   rw[e];exact h3)⟩
 refine Q6.mono ?_ O;clear O hR;obtain⟨g,cap,rfl⟩:=XZ h oa;obtain⟨ht,cur,hB,hf,hg⟩:=Jn h;refine Zq func165 ?_;refine Qc<|Qb<|Qm<|Qa<|Qa<|Qa<|x (Us U)<|x (QfV (lo:=k) (hi:=k+1) (m:=l.length) U U U U oa oa oa)<|xe<|Qd<|Qm<|Qa<|x (Q0 U U)<|xe<|QY rfl (λS=>OW (show(k:Int)=((k+1:Nat):Int) from S) oa) (λS=>?_);refine Qh<|Qm<|x (Us U)<|Qb ?_;have H:((l.drop (k+1)).flatMap Qv).length=(l.length - (k+1))*9:=by rw[xG ZW,LT]
 have hh:At [] w.heap ⟨g,if cap=k+1 then 0 else(k+1)*9,none⟩ ((l.drop (k+1)).flatMap Qv):=by
  by_cases hc:cap=k+1
  ·have:(l.drop (k+1)).flatMap Qv=[]:=Lp (by rw[H];omega);rw[this];exact⟨λu E=>(by cases E),λu E=>(by cases E),λj u E=>(by cases E)⟩
  rw[OT hc];have G:=Qfw (QJ (L:=[]) h oa oe) rfl;refine⟨λu _=>oe,λu E=>G.lt u (by rw[<-QeZ Qv 9 ZW]at E;exact L6 E),λj u E=>?_⟩;rw[<-QeZ Qv 9 ZW,ME]at E;have I:=G.cell _ u E;have e:(⟨g,(k+1)*9,none⟩:Addr).add j=(⟨g,0,none⟩:Addr).add ((k+1)*9+j):=by rw[Addr.add_lit,Addr.add_lit,LR]
  rw[e];exact I
 have hj:∀u∈(l.drop (k+1)).flatMap Qv,u.oneCell'=true:=λu E=>by
  obtain⟨q,J,E⟩:=Mb.1 E;exact he q (L6 J) u E
 refine Qd<|qD (λ_=>True) [oD 0,oD 1,oD 2,oD 3,oD 4,oD 5,oE 6,oD 7] mixed ol od Z ?_;have hd:O5 [] w { w with drawn:=w.drawn+1 }:=O5.C _ _
 refine p QE<|p QE<|p (λ_=>Jy (hi:=k) U U oa)<|p QE<|p QE<|p (λ_=>U5 (lo:=k+1) U U oa) <|
  pk<|QnU (g:=g) (n:=k) (cap:=cap) (cur:=cur) (m:=l.length - (k+1)) (L:=[]) hB U hf U H (hh.I hd) hj oa λw2 hm T=>⟨Z,p ZN<|pe ?_⟩
 have hn:O5 [g] w w2:=hd.any.Q hm;have em:k+(l.length - (k+1))=l.length - 1:=oa
 have V:(cur.take (k*9)++(l.drop (k+1)).flatMap Qv).length=(l.length - 1)*9:=by
  rw[Lk,Ly,H];omega
 have ho:(cur.take (k*9)++(l.drop (k+1)).flatMap Qv++cur.drop (k*9+((l.drop (k+1)).flatMap Qv).length)).length=cap*9:=by
  rw[Lk,V,LT,H];omega
 have Y:(cur.take (k*9)++(l.drop (k+1)).flatMap Qv++cur.drop (k*9+((l.drop (k+1)).flatMap Qv).length)).take ((l.length - 1)*9)=(l.take k++l.drop (k+1)).flatMap Qv:=by
  rw[List.take_left' V,LA,<-jX Qv 9 ZW l k,<-hg,M4,Mj oa]
 refine Zk (cur.take (k*9)++(l.drop (k+1)).flatMap Qv++cur.drop (k*9+((l.drop (k+1)).flatMap Qv).length)) λhv hp=>?_;rw[hp]at T ho Y;refine Qm<|Qa<|x (Us U)<|Qa<|x (QfU (lo:=k+(l.length - (k+1))) (hi:=l.length) U U U oa oa oa) <|
  Qe<|QeA (m:=l.length - (k+(l.length - (k+1)))) (o:=(k+(l.length - (k+1)))*9) (λu E=>by simp[Value.cells]at E;rcases E with rfl|rfl|rfl|rfl|rfl|rfl|rfl|rfl|rfl <;> rfl) T ⟨_,rfl,λ_=>⟨U,oa⟩⟩ λw3 hw hr hs hy ha=>xe ?_
 refine Qm<|Qb<|Qk ⟨[.slice (some ⟨g,0,none⟩) (k+(l.length - (k+1))) cap],La,hn.Q hr,U,?_⟩;rw[em]at ha ⊢;exact Vx h oa hs oa (ha.D Y) (by rw[xG ZW,Lk,Ly,LT];omega)
section
variable {pS:String}
theorem zp {e bys:Nat}[h:Sl P t e sz bys z]{x:O3}{dLen dCap:Nat}{cur:LV}{a:Addr}{sLen sCap:Nat}(G:Zb w.heap g T cur)(hx:ev f x=.slice (some ⟨g,o,none⟩) dLen dCap)(J:ev f y=.slice (some a) sLen sCap)
  (O:cs.length=Nat.min sLen dLen*sz)  (S:At L w.heap a cs) (V:o+cs.length<=cur.length) (Y:∀u∈cs,u.oneCell'=true)
  (hK:∀w',O5 [g] w w'->Zb w'.heap g T (cur.take o++cs++cur.drop (o+cs.length))->K (QW f d (goInt (Nat.min sLen dLen))) w'):XO P ⟨d,.call ⟨.builtin .copy,#[x,y],#[t,E]⟩,ty,pS,af,gd⟩ f w K:=by
 obtain⟨i,hi,hz,ha,_⟩:=Sl.info h;have hl:=run_loadCells_list (P:=P) w a cs S.cells;have H:=run_storeCells_at P g o T cs 0 cur.toArray w G (oz V) Y;have I:(Builtin.copy_ #[t,E] ty #[.slice (some ⟨g,o,none⟩) dLen dCap,.slice (some a) sLen sCap]).run P w=.ok (goInt (Nat.min sLen dLen)) (w.setRow g (cur.take o++cs++cur.drop (o+cs.length)).toArray):=by
  simp[Builtin.copy_,run_underlying h.u,Builtin.lenOf,Builtin.firstCells,sizeOf,typeInfo,hi,ha,<-O,hl]at H ⊢;simp[H]
 have hb:(execOp (ev f) ⟨d,.call ⟨.builtin .copy,#[x,y],#[t,E]⟩,ty,pS,af,gd⟩).run P w=.ok (.value (goInt (Nat.min sLen dLen))) (w.setRow g (cur.take o++cs++cur.drop (o+cs.length)).toArray):=by
  simp[execOp,resolve,invoke,builtin,hx,J]at I ⊢;simp[I]
 exact xv hb (hK _ (O5.setRow _ _ _) (XX G))
end
section
variable {pS:String}
theorem QnS {ti e bys:Nat}[h:Sl P t e sz bys z](T:P.underlying ti=some (.int .i64)){s:O3}{E:Addr}{L0:LN}(V:At L0 w.heap E cs)(Y:ev f s=.slice (some E) n cap)(G:cs.length=n*sz)
  {m:Nat} (hy:ev f y=oF oG m) (hm:0<m) (ha:cap<n+m) (hb:n+m<=1048576)
  (hK:∀b c' w' zs,O5 [] w w'->w.heap.size<=b->n+m<=c'->zs.length=m*sz->w'.ownsRow w.heap.size e sz (.slice (some ⟨b,0,none⟩) (n+m) c') (n+m) (cs++zs)->K (QW f d (.slice (some ⟨b,0,none⟩) (n+m) c')) w') (hc:bys<=131072:=by decide):
  XO P ⟨d,.call ⟨.builtin .append,#[s,y],#[t,ti]⟩,ty,pS,af,gd⟩ f w K:=by
 obtain⟨i,hi,hz,I,J⟩:=Sl.info h;have he:=h.pos;have O:(n+m)*bys<=140737488355328:=LJ (Nat.mul_le_mul hb hc) oa;have hf:n+m<=maxLen:=by simp only[maxLen];omega
 have hn:¬(n+m<=cap):=oa
 have hg:¬(9223372036854775807<((n:Int)+(m:Int))):=oa
 have hu:=growslice_fits (bytes:=i.bytes) ha (by rw[J];exact O);have hh:¬(281474976710656<Builtin.nextslicecap (n+m) cap*i.bytes):=oa
 have hj:=run_firstCells_some (P:=P) w.drew i.size n E n cap cs (by rw[I];exact G) (oz V.cells);have hl:IntKind.i64.wrap (m:Int)=(m:Int):=by rw[IntKind.wrap_i64];omega
 have ho:¬((m:Int)<0):=oa
 have hv:m*i.bytes<=140737488355328:=by rw[J];exact LJ (LY _ (Nat.le_add_left m n)) O
 have hp:¬(281474976710656<(m:Int)*(i.bytes:Int)):=by
  have:((m*i.bytes:Nat):Int)<=140737488355328:=oa
  rw[Int.natCast_mul]at this;omega
 have hr:(Builtin.append_ #[t,ti] ty #[.slice (some E) n cap,oF oG m]).run P w=.ok (.slice (some ⟨w.heap.size,0,none⟩) (n+m) (grownCap w (n+m) cap e)) (w.drew.alloc (Obj.cells (cs.toArray++(Builtin.zeroCells z.cells m).toList.toArray++Builtin.zeroCells z.cells (grownCap w (n+m) cap e - (n+m))) e)):=by
  simp[Builtin.append_,run_underlying h.u,run_underlying T,sizeOf,typeInfo,zeroValue,hi,hz,hn,hg,hh,Question.forced,hj,newRow,grownCap,asInt,asIntOf,hl,ho,hp];intro h0;have h1:0<m*i.size:=Nat.mul_pos hm (by rw[I];exact he);omega
 have hq:(execOp (ev f) ⟨d,.call ⟨.builtin .append,#[s,y],#[t,ti]⟩,ty,pS,af,gd⟩).run P w=.ok (.value (.slice (some ⟨w.heap.size,0,none⟩) (n+m) (grownCap w (n+m) cap e))) (w.drew.alloc (Obj.cells (cs.toArray++(Builtin.zeroCells z.cells m).toList.toArray++Builtin.zeroCells z.cells (grownCap w (n+m) cap e - (n+m))) e)):=by
  simp[execOp,resolve,invoke,builtin,Y,hy,hr]
 have hge:=grownCap_ge w (n+m) cap e;have ht:grownCap w (n+m) cap e<=maxLen:=grownCap_le_maxLen w (n+m) cap e hf;have H:(Builtin.zeroCells z.cells m).toList.length=m*sz:=by simp[Builtin.zeroCells,h.zs]
 have S:(cs++(Builtin.zeroCells z.cells m).toList).length=(n+m)*sz:=by rw[Lk,G,H,Ms]
 refine xv hq (hK _ _ _ _ ⟨U,U,U,by rw[VF];exact NQ _,λk hk _=>qB w.drew _ k hk⟩ (Lu _) hge H ⟨S,.inr ⟨w.heap.size,_,_,U,Lu _,Kg w.drew _,hge,ht,?_,?_⟩⟩)
 ·simp only[Array.size_append,Od,size_zeroCells,h.zs,G,H,<-Oo];congr 1;omega
 simp only[Array.toList_append,o0];rw[<-LB,<-S];exact List.take_left
theorem QpE {x:O3}{a:Option Addr}{c e:Nat}(E:P.underlying t=some (.slice e))(hx:ev f x=.slice a n c):
  (execOp (ev f) ⟨d,.call ⟨.builtin .cap,#[x],#[t]⟩,ty,pS,af,gd⟩).run P w=.ok (.value (oF oG c)) w:=by
 simp[execOp,resolve,invoke,builtin,Builtin.cap_,hx,run_underlying E,goInt]
theorem QpD {x:O3}{tS tR e:Nat}{ts:Array Nat}(J:P.funcs[g]?=some fn)(O:(fn.name == "runtime.NumGoroutine")=false) (S:fn.body.isNone=true) (T:Extern.findNext fn=none)
  (V:Extern.find fn=some (Extern.SlicesOverlaps.overlaps #[tS,tS] #[tR])) (Y:P.underlying tS=some (.slice e)) {size:Nat} (hz:∀w,(sizeOf e).run P w=.ok size w) {a b:Addr} {la ca lb cb TA TB:Nat} {vs:LV} (hx:ev f x=.slice (some a) la ca) (G:ev f y=.slice (some b) lb cb)
  (H:Zb w.heap a.block TA us) (hB:Zb w.heap b.block TB vs) (ha:a.block≠b.block) (hg:vs.length≠0) (hh:a=⟨a.block,0,none⟩):
  (execOp (ev f) ⟨d,.call ⟨.value (.func g),#[x,y],ts⟩,ty,pS,af,gd⟩).run P w=.ok (.value (.bool false)) w:=by
 have hi:w.shape? a.block=some (TA,us.length):=by
  have E:w.heap[a.block]?=some (.cells us.toArray TA (0,0)):=H;simp[World.shape?,E]
 have hj:w.shape? b.block=some (TB,vs.length):=by
  have E:w.heap[b.block]?=some (.cells vs.toArray TB (0,0)):=hB;simp[World.shape?,E]
 have hfr:∀o,w.frozen? { block:=a.block,off:=o }=false:=λo=>by
  have E:w.heap[a.block]?=some (.cells us.toArray TA (0,0)):=H;simp[World.frozen?,E]
 have hr:=Lib.run_overlaps_apart (P:=P) w tS tR e Y size hz a b la ca lb cb ha TA TB us.length vs.length hi hj hg (by rw[hh];exact hfr 0) (hfr _);have I:=run_callFunc_extern J O S T V #[ev f x,ev f y] w;rw[hx,G,hr]at I;have h0:ev f (.func g)=.func (.func g) #[] #[]:=rfl;simp[execOp,resolve,h0,Deferred.ofValue,invoke,hx,G,I,Result.andThen]
end
theorem XY {pS:String}{e bys:Nat}[Sl P t e sz bys z]{x E:O3}{k:IntKind}(hx:ev f x=.slice (some ⟨b,0,none⟩) n cap)(hl:ev f E=.int k lo)(G:lo<=n)(I:lo<cap):
  (execOp (ev f) ⟨d,.slice t x (some E) none none,ty,pS,af,gd⟩).run P w=.ok (.value (.slice (some ⟨b,lo*sz,none⟩) (n - lo) (cap - lo))) w:=by
 have H:=U5 (P:=P) (w:=w) (d:=d) (ty:=ty) (pS:=pS) (af:=af) (gd:=gd) (t:=t) hx hl G
 rwa [OT oa]at H
theorem Ju.turn2 {base:Nat}{v r:O2}{l l':List DV}(h:Ju base w v l)(J:O5 (ob v) w w')(O:∀b∈ob r,b∈ob v\/w.heap.size<=b)(S:∀L:LN,(∀b∈L,b<base\/b∈ob v)->X7 L w.heap q)(hl:∀d∈l',d∈l\/d=q)
  (T:w'.ownsRow base 63 9 r l'.length (l'.flatMap Qv)):Ju base w' r l':=by
 refine⟨T,λd hd L H=>?_⟩;have V:∀L:LN,(∀b∈L,b<base\/b∈ob v)->X7 L w.heap d:=λL H=>(hl d hd).elim (λG=>h.each d G L H) (λG=>G ▸ S L H);have G:X7 (ob v++L) w.heap d:=Mm.up (V (ob v++L.filter λb=>decide (b<base)) λb E=>(Lc.1 E).elim .inr λE=>.inl (OY (L9.1 E).2)) λb E=>by
  rcases Lc.1 E with E|E
  ·exact .inl (Lc.2 (.inl E))
  rcases H b E with I|I
  ·exact .inl (Lc.2 (.inr (L9.2 ⟨E,OX I⟩)))
  exact(O b I).imp (λY=>Lc.2 (.inl Y)) id
 exact Mm.mono (Mm.st G (J.mono λb E=>Lc.2 (.inl E))) λb E=>Lc.2 (.inr E)
theorem Vy {qs:LV}{s:Nat}(E:cs.length=n*s)(G:qs.length=s)(hi:i<=n):(cs.take (i*s)++qs++cs.drop (i*s)).length=(n+1)*s:=by
 have H:i*s<=n*s:=LY _ hi;simp only[oM,Oa,o6,E,G,Oo];omega
theorem QlU {base:Nat}{v:O2}{l:List DV}(hR:Ju base w v l)(hr:base<=w.heap.size)(hl:l.length<=1000)(hi:i<=l.length)(hq:∀L:LN,(∀b∈L,b<base\/b∈ob v)->X7 L w.heap q){bq:Nat}(O:Zb w.heap bq T (Qv q))(hJ:bq∉ob v):
  Q6 prog 168 [v,oF oG (i:Int),.slice (some ⟨bq,0,none⟩) 1 1] w λr w'=>O5 (ob v) w w'/\Ju base w' r (l.take i++q::l.drop i)/\∀b∈ob r,b∈ob v\/w.heap.size<=b:=by
 have h:=hR.own;have V:=(hq [] oe).ones.all;have hs:=Qco hR;have H:(l.flatMap Qv).length=l.length*9:=xG ZW l;have ht:(l.take i++q::l.drop i).length=l.length+1:=by simp only[oM,Oa,oW,o6];omega
 have hv:(l.take i++q::l.drop i).flatMap Qv=(l.flatMap Qv).take (i*9)++Qv q++(l.flatMap Qv).drop (i*9):=by
  rw[jX Qv 9 ZW,QeZ Qv 9 ZW,LA,LH,LB]
 have hw:∀d∈l.take i++q::l.drop i,d∈l\/d=q:=λd hd=>by
  rcases Lc.1 hd with hd|hd
  ·exact .inl (LX hd)
  rcases Li.1 hd with rfl|hd
  ·exact .inr U
  exact .inl (L6 hd)
 have hy:∀(r:O2) (w':O1),O5 (ob v) w w'/\(∀b∈ob r,b∈ob v\/w.heap.size<=b)/\w'.ownsRow base 63 9 r (l.length+1) ((l.flatMap Qv).take (i*9)++Qv q++(l.flatMap Qv).drop (i*9))->O5 (ob v) w w'/\Ju base w' r (l.take i++q::l.drop i)/\∀b∈ob r,b∈ob v\/w.heap.size<=b:=λr w' ⟨h1,h2,h3⟩ =>
  ⟨h1,hR.turn2 h1 h2 hq hw (by rw[ht,hv];exact h3),h2⟩
 refine Q6.mono ?_ hy;have Y:∀u∈l.flatMap Qv,u.oneCell'=true:=λu E=>by
  obtain⟨d,hd,E⟩:=Mb.1 E;exact hs d hd u E
 clear hy hR hw ht hv hs;refine Zk (l.flatMap Qv) λcs ha=>?_;refine Zk l.length λn hn=>?_;rw[ha,hn]at h;rw[ha,hn]at H;rw[ha]at Y ⊢;rw[hn]at hl hi ⊢;have hA:=QJ (L:=[]) h oa oe;refine Zq func168 ?_;refine Qc<|Qb<|Qm<|Qa<|QqI (lo:=i) hA U U hi λgm _=>xe ?_;refine Qm<|x (Us U)<|Qb<|Qd<|Qm<|x (Q0 U U)<|xe<|QY rfl (λhK=>OW (show((1:Nat):Int)=0 from hK) og) (λ_=>?_);refine Qh<|Qm<|QK hA U<|Qb<|Qd<|Qm<|Qa<|x (Q0 U U)<|xe<|QY rfl (λhc=>?_) (λhc=>?_)
 ·have hL:i=n:=by have hM:(i:Int)=(n:Int):=hc;omega
  refine Qm<|Qa<|Qe<|KH (m:=1) (news:=Qv q) h U U U (O.at (L:=[]) oe) V oa hr λv1 w1 hN hO hP=>Qb<|Qk ⟨[v1],⟨rfl,Z⟩,hO,hP,?_⟩;rw[hL,<-H,M1,List.drop_length,LQ];exact hN
 have gn:i<n:=by have hM:¬(i:Int)=(n:Int):=hc;omega
 obtain⟨g,cap,ev⟩:=XZ h oa;have he:ob v=[g]:=by rw[ev];rfl
 have hf:=h;rw[ev]at hf;obtain⟨go,cur,J,hg,hz⟩:=Jn hf;have h0:bq≠g:=λe=>hJ (by rw[he,e];exact Lb.2 U);have h4:At [] w.heap ⟨g,0,none⟩ cs:=Qfw hA ev;have gp:i*9<=n*9:=LY _ hi;have h5:∀w':O1,Zb w'.heap g 63 cur->At [] w'.heap ⟨g,i*9,none⟩ (cs.drop (i*9)):=λw' h6=>by
  have hQ:=h6.lt;refine⟨λu _=>oe,λu _=>hQ,λj u E=>?_⟩;rw[ME,<-hz,LU]at E;split at E
  ·have e:(⟨g,i*9,none⟩:Addr).add j=⟨g,i*9+j,none⟩:=Km g (i*9) j;rw[e,h6.cell];exact E
  cases E
 refine Qh<|Qd<|Qm<|Qa<|QP U U<|Qa<|x (QpE underlying126 ev)<|x (Z7 U U)<|xe<|QY rfl (λhh=>?_) (λhh=>?_)
 ·have h7:cap<n+1:=by have hS:(cap:Int)<(n:Int)+((1:Nat):Int):=hh;omega
  have hT:At [] w.heap ⟨g,0,none⟩ (cs.take (i*9)):=⟨λu _=>oe,λu E=>h4.lt u (List.mem_of_mem_take E),λj u E=>h4.cell j u (by rw[List.getElem?_take]at E;split at E;exact E;cases E)⟩;have hU:(cs.take (i*9)).length=i*9:=by rw[Ly];omega
  refine Qm<|Qa<|x (Jy (hi:=i) ev U oa)<|Qa<|Qa<|QP U U<|Qa<|x (Jh U U ⟨oa,oa⟩) <|
   Qe<|QnS (n:=i) (cap:=cap) (m:=n+1 - i) underlying3 hT U hU (show Go.Lg.ev _ _=_ from OV (Value.int .i64) oa) oa oa oa λb2 c2 w2 zs hj h8 gq gr hk=>Qb ?_
  have en:i+(n+1 - i)=n+1:=oa
  obtain⟨_,G,hV,hW,h9⟩:=Jn hk;rw[en]at h9;have gs:(n+1)*9<=G.length:=by rw[hW];exact LY _ oa
  have n2g:g≠b2:=by have:=J.lt;omega
  have hX:(i+1)*9<=(n+1)*9:=LY _ oa;refine Qm<|Qa<|x (XY (lo:=i) U U oa oa)<|Qa<|Qe<|zp (cs:=Qv q) hV U U (by rw[show Nat.min 1 (i+(n+1 - i) - i)=1 from Mj oa];exact ZW q) ((O.I hj).at (L:=[]) oe) (by rw[ZW];omega) V λw3 hC hD=>xe ?_;have hY:=(J.I hj).J hC (oz n2g);have hm:(G.take (i*9)++Qv q++G.drop (i*9+(Qv q).length)).length=G.length:=by simp only[oM,Oa,o6,ZW];omega
  have hE:(G.take (i*9)++Qv q++G.drop (i*9+(Qv q).length)).take ((i+1)*9)=cs.take (i*9)++Qv q:=by
   have e1:(G.take (i*9)++Qv q).length=(i+1)*9:=by rw[Lk,Ly,ZW];omega
   rw[List.take_left' e1];congr 1;have:=OV (List.take (i*9)) h9;rw[M4,Mj oa,MZ oa,M4,Nat.min_self]at this;exact this
  refine Zk (G.take (i*9)++Qv q++G.drop (i*9+(Qv q).length)) λgt hZ=>?_;rw[hZ]at hD hm hE;have I:(cs.drop (i*9)).length=(n - i)*9:=by rw[LT,H,Nat.sub_mul]
  refine Qd<|ZD [] (Xb 0 9 [8])<|p QE<|p QE<|p QE<|p (λ_=>XR U U ⟨oa,oa⟩)<|p (λ_=>XY (lo:=i+1) U U oa oa) <|
   p QE<|p QE<|p (λ_=>XY (lo:=i) ev U oa oa)<|pkl (hl:=by kernel_rfl)<|zp (cs:=cs.drop (i*9)) (hD.I (O5.C _ _)) U U (by rw[I,show Nat.min (n - i) (i+(n+1 - i) - (i+1))=n - i from Mj oa]) (h5 _ (hY.I (O5.C _ _))) (by rw[I,hm];omega) (λu E=>Y u (L6 E)) λw4 ho S=>pe ?_
  refine Qm<|Qb ?_;have ga:O5 [b2] w2 w4:=hC.Q ((O5.C [] w3).any.Q ho);refine Qk ⟨[.slice (some ⟨b2,0,none⟩) (i+(n+1 - i)) c2],La,(hj.O ga h8).any,λb hb=>?_,?_⟩
  ·have gb:b∈[b2]:=hb;rw[Lb.1 gb];exact .inr h8
  rw[en]at hk ⊢;have gc:=Zv hk hr;refine Vx gc (Lu _) S ?_ ?_ (Vy H (ZW q) hi)
  ·simp only[oM,Oa,o6,I,hm];omega
  rw[hE];exact List.take_left' (Vy H (ZW q) hi)
 have h7:n+1<=cap:=by have hS:¬(cap:Int)<(n:Int)+((1:Nat):Int):=hh;omega
 have hX:(i+1)*9<=(n+1)*9:=LY _ oa;have I:(cs.drop (i*9)).length=(n - i)*9:=by rw[LT,H,Nat.sub_mul]
 refine Qh<|Qm<|Qa<|Qa<|QP U U<|x (Jy (hi:=n+1) ev U oa)<|Qb<|Qd<|Qm<|Qa<|Qa<|Qa<|QP U U<|x (XY (lo:=i+1) U U oa oa) <|
  x (QpD func244 od od od (tS:=126) (tR:=4) od underlying126 sizeOf63 (a:=⟨bq,0,none⟩) (b:=⟨g,(i+1)*9,none⟩) U U O J h0 (by rw[hg];omega) U)<|x (Zx U)<|xe ?_
 refine QX rfl (λ_=>?_) (λgg=>OW gg og);have en:n+1 - (i+1)=n - i:=oa
 refine Qd<|ZD [] (Xb 0 9 [8])<|p QE<|p QE<|p QE<|p (λ_=>XR U U ⟨oa,oa⟩)<|p (λ_=>XY (lo:=i+1) U U oa oa) <|
  p QE<|p QE<|p (λ_=>XY (lo:=i) U U oa oa)<|pkl (hl:=by kernel_rfl)<|zp (cs:=cs.drop (i*9)) (J.I (O5.C _ _)) U U (by rw[I,show Nat.min (n+1 - i) (n+1 - (i+1))=n - i from(Nat.min_eq_right oa).D en]) (h5 _ (J.I (O5.C _ _))) (by rw[I,hg];omega) (λu E=>Y u (L6 E)) λw4 ho S=>pe ?_
 have hF:O5 [g] w w4:=(O5.C [] w).any.Q ho;have hG:(cur.take ((i+1)*9)++cs.drop (i*9)++cur.drop ((i+1)*9+(cs.drop (i*9)).length)).length=cap*9:=by simp only[oM,Oa,o6,I,hg];omega
 have hH:(cur.take ((i+1)*9)++cs.drop (i*9)++cur.drop ((i+1)*9+(cs.drop (i*9)).length)).take (i*9)=cs.take (i*9):=by
  rw[LB,MZ (by rw[Ly];omega),M4,Mj oa,<-hz,M4,Mj oa]
 have hI:((cur.take ((i+1)*9)++cs.drop (i*9)++cur.drop ((i+1)*9+(cs.drop (i*9)).length)).drop (i*9+9)).take ((n - i)*9)=cs.drop (i*9):=by
  have e1:(cur.take ((i+1)*9)).length=i*9+9:=by rw[Ly];omega
  rw[LB,List.drop_left' e1,List.take_left' I]
 refine Zk (cur.take ((i+1)*9)++cs.drop (i*9)++cur.drop ((i+1)*9+(cs.drop (i*9)).length)) λhp gh=>?_;rw[gh]at S hG hH hI;refine Qm<|Qa<|x (XY (lo:=i) U U oa oa)<|Qa<|Qe<|zp (cs:=Qv q) S U U (by rw[show Nat.min 1 (n+1 - i)=1 from Mj oa];exact ZW q) ((O.J hF (oz h0)).at (L:=[]) oe) (by rw[ZW];omega) V λw5 gi gj=>xe ?_;refine Qm<|Qb<|Qk ⟨[.slice (some ⟨g,0,none⟩) (n+1) cap],La,by rw[he];exact hF.Q gi,λb hb=>.inl (by rw[he];exact hb),?_⟩;rcases hf.2 with⟨e1,_⟩|⟨g',cap',cur',e1,gk,gu,gv,gl,gw,gx⟩
 ·cases e1
 cases e1
 refine⟨Vy H (ZW q) hi,.inr ⟨g,cap,_,U,gk,gj,h7,gl,?_,?_⟩⟩
 ·simp only[Od,oM,Oa,o6,ZW,hG];omega
 have hR:=Vy H (ZW q) hi;rw[ZW,hH];have e3:hp.drop (i*9+9)=cs.drop (i*9)++(hp.drop (i*9+9)).drop ((n - i)*9):=by
  conv=>lhs;rw[<-MI ((n - i)*9) (hp.drop (i*9+9)),hI]
 rw[e3,<-LB];exact List.take_left' hR
theorem Qov {k:Int}(G:Zb w.heap b T cs)(H:cs[0]?=some (oF oG k)):
  Q6 prog 167 [.agg (Qv q).toArray,.pointer (some ⟨b,0,none⟩)] w λr w'=>r=.bool (decide (k<q.kd))/\O5 [] w w':=by
 refine Zq func167 ?_;refine Qc<|Qe<|QS (us:=Qv q) U λb2 J E O I=>Qb<|Qc<|Qs U I U U<|Qs U (G.I E) U H<|x (Z7 U U)<|Qb<|Qk ⟨[_],La,U,E⟩
theorem Vm {l:List Yc}(h:KB l=0):l.length<=76:=by
 unfold KB at h;split at h
 ·cases h
 omega
theorem QmZ {v:O2}{es:List DV}(G:Kx L w.heap v es)(k:Int)(n:ByteArray):
  Q6 prog 97 [v,oF oG k,.string n] w λr w'=>O5 [] w w'/\∃vo l,r=.tuple #[vo,oF oG (qZ (es.map DV.it) k n).1]/\Ju w.heap.size w' vo l/\((qZ (es.map DV.it) k n).1=0->l.map DV.it=(qZ (es.map DV.it) k n).2):=by
 have h:=G.up (L':=[]) oe;have E:qZ (es.map DV.it) k n=if KB (es.map DV.it)≠0 then(KB (es.map DV.it),[])else if KP (es.map DV.it) k n=false then(10,[])else(0,(es.map DV.it).take (Yx (es.map DV.it) k n)++(es.map DV.it).drop (Yx (es.map DV.it) k n+1)):=rfl
 refine Zk (qZ (es.map DV.it) k n) λD hD=>?_;rw[hD]at E ⊢;refine Zq func97 ?_;refine Qc<|x Ql<|Qb<|Qd<|Qm<|QM<|(JE h).mono ?_;rintro r1 w1 ⟨rfl,O⟩;refine Qb<|Qm<|ZA U U<|xe<|QY rfl (λH=>?_) (λH=>?_)
 ·rw[OU H]at E;refine Qm<|x Ql<|Qb<|Qk ⟨[nS,oF oG (KB (es.map DV.it))],oA,O,nS,[],by rw[E];rfl,Yn.nil,λG=>OW (by rw[E]at G;exact G) H⟩
 rw[OT H]at E;have ho:es.length<=76:=by have:=Vm (Lo.1 H);rwa [Lh]at this
 refine Qh<|Qm<|Qa<|Qa<|QM<|(zG (h.arr.I O) k n).mono ?_;rintro r2 w2 ⟨⟨i,rfl,hi⟩,Y⟩;have J:=O.D Y;refine Qa<|Q7 U U<|Q7 U U<|x Ql<|Qb<|Qd<|Qm<|x (Zx U)<|xe<|QX rfl (λS=>?_) (λS=>?_)
 ·have I:KP (es.map DV.it) k n=false:=by simpa using S
  rw[OU I]at E;refine Qc<|x Ql<|Qb<|Qk ⟨[nS,oF oG 10],oA,J,nS,[],by rw[E];rfl,Yn.nil,λG=>OW (by rw[E]at G;exact G) og⟩
 have I:KP (es.map DV.it) k n=true:=by simpa using S
 rw[OT (by rw[I];decide)]at E;have hi:=hi I;have ha:Yx (es.map DV.it) k n<es.length:=by have:=OY I;rwa [Lh]at this
 refine Zk (Yx (es.map DV.it) k n) λj hj=>?_;rw[hj]at hi ha E;refine Qh<|Qm<|QM<|(J5 (h.I J) oa).mono ?_;rintro r3 w3 ⟨hc,l,hl,T⟩;have hp:l.length=es.length:=by have:=OV oP T;rwa [Lh,Lh]at this
 have hD3:=Qmj hl (k:=j) oa oa;have he:(i:Int)+1=((j+1:Nat):Int):=oa
 rw[<-he,<-hi]at hD3;refine Qa<|Qa<|QP U U<|QM<|hD3.mono ?_;rintro V w4 ⟨hf,hg⟩;refine x Ql<|Qb ?_;have hh:=Qi hl.own;have hk:=J.size;refine Qk ⟨[V,oF oG 0],oA,(J.D hc).then hf (λb hb=>.inr (ou (hh b hb).1)),V,_,by rw[E];rfl,hg.base hk,λ_=>?_⟩;rw[E,Ls,NO,List.map_drop,T]
theorem Qpc {v:O2}{es:List DV}(G:Kx L w.heap v es)(hM:X7 L' w.heap q):
  Q6 prog 98 [v,.agg (Qv q).toArray] w λr w'=>O5 [] w w'/\∃vo l,r=.tuple #[vo,oF oG (qY (es.map DV.it) q.it).1]/\Ju w.heap.size w' vo l/\((qY (es.map DV.it) q.it).1=0->l.map DV.it=(qY (es.map DV.it) q.it).2):=by
 have h:=G.up (L':=[]) oe;have hq:=hM.up (L':=[]) oe;have E:qY (es.map DV.it) q.it=if KB (es.map DV.it)≠0 then(KB (es.map DV.it),[])else if KB [q.it]≠0 then(KB [q.it],[])else if KP (es.map DV.it) q.kd q.nm=true then(0,(es.map DV.it).set (Yx (es.map DV.it) q.kd q.nm) q.it)else if(es.map DV.it).length=76 then(3,[])else
  (0,(es.map DV.it).take ((es.map DV.it).findIdx λy=>decide (q.kd<y.kd))++q.it::(es.map DV.it).drop ((es.map DV.it).findIdx λy=>decide (q.kd<y.kd))):=rfl
 refine Zk (qY (es.map DV.it) q.it) λD hD=>?_;rw[hD]at E ⊢;refine Zq func98 ?_;refine Qc<|Qe<|QS (us:=Qv q) U λb3 w1 h4 gj hN=>x Ql<|Qb<|Qd<|Qm<|ZP<|(JE (h.I h4)).mono ?_;rintro r1 w2 ⟨rfl,h5⟩;have h6:=h4.D h5;refine Qb<|Qm<|ZA U U<|xe<|QY rfl (λT=>?_) (λT=>?_)
 ·rw[OU T]at E;refine Qm<|x Ql<|Qb<|Qk ⟨[nS,oF oG (KB (es.map DV.it))],oA,h6,nS,[],by rw[E];rfl,Yn.nil,λG=>OW (by rw[E]at G;exact G) T⟩
 rw[OT T]at E;have gk:es.length<=76:=by have:=Vm (Lo.1 T);rwa [Lh]at this
 have h7:=hN.I h5;refine Qh<|Qd<|Qc<|Q5 h7 U U<|Qe<|QC (us:=[Qv q]) U U og (show 1*9<=1000000 by decide) oA λhO w3 h8 gl hP=>?_;have h9:=h6.D h8;have hQ:Kx [] w3.heap (.slice (some ⟨hO,0,none⟩) 1 1) [q]:=⟨hP.arr (L:=[]) oe (n:=1) (cap:=1) (sz:=9) rfl og (Nat.le_refl _),λd hd=>by rw[List.mem_singleton.1 hd];exact hq.I h9⟩;refine ZP<|(JE hQ).mono ?_;rintro r4 w4 ⟨rfl,hA⟩;have he:=h9.D hA;refine Qb<|Qm<|ZA U U<|xe<|QY rfl (λhf=>?_) (λhf=>?_)
 ·rw[OU (show KB [q.it]≠0 from hf)]at E;refine Qm<|x Ql<|Qb<|Qk ⟨[nS,oF oG (KB [q.it])],oA,he,nS,[],by rw[E];rfl,Yn.nil,λG=>OW (by rw[E]at G;exact G) hf⟩
 rw[OT (show ¬KB [q.it]≠0 from hf)]at E;refine Qh<|Qm<|ZP<|(J5 (h.I he) oa).mono ?_;rintro I w5 ⟨hr,l,hl,J⟩;have gm:l.length=es.length:=by have:=OV oP J;rwa [Lh,Lh]at this
 have hB:=he.D hr;have hC:=he.size;have gn:=hr.size;have hs:=(h7.I (h8.D hA)).I hr;have V:=Qi hl.own;refine Qb<|Qd<|Qm<|Qs U hs U U<|Qs U hs U U<|ZP<|(zG (h.arr.I hB) q.kd q.nm).mono ?_;rintro r6 w6 ⟨⟨i,rfl,hi⟩,hh⟩;have Y:=hB.D hh;have ht:=hl.I hh;have hu:=hs.I hh;have go:=hh.size;refine Qa<|Q7 U U<|Q7 U U<|x Ql<|Qb<|Qm<|xe<|QX rfl (λha=>?_) (λha=>?_)
 ·rw[OU ha]at E;have hi:=hi ha;have hv:Yx (es.map DV.it) q.kd q.nm<l.length:=by have:=OY ha;rw[Lh]at this;omega
  refine Zk (Yx (es.map DV.it) q.kd q.nm) λj hj=>?_;rw[hj]at hi hv E;refine Qm<|Qa<|Q5 hu U U<|ZP<|(Kp (hq.I Y)).mono ?_;rintro r7 w7 ⟨hk,q',rfl,hw,ho⟩;have hy:=ht.I hk;refine Exists.elim (XZ hy.own oa) λg O=>Exists.elim O λcap O=>?_;have hR:ob I=[g]:=by rw[O];rfl
  have hE:=hy.own;rw[O]at hE;refine x (Zu (i:=j) O (show Go.Lg.ev _ _=_ from OV (Value.int .i64) hi) hv)<|Qe<|jI ZW hE (show Go.Lg.ev _ _=_ from by show Value.pointer (some ⟨g,0+j*9,none⟩)=_;rw[LR]) rfl hv (ho [] oe).ones λw8 hS hF=>xe ?_;refine Qm<|x Ql<|Qb ?_;rw[<-O]at hF;have hG:O5 (ob I) w7 w8:=by rw[hR];exact hS
  have hT:Ju w4.heap.size w8 I (l.set j q'):=Ju.turn2 hy hG (λb H=>.inl H) (λL hL=>ho L (λb H=>by
   rcases hL b H with h|h
   ·omega
   have:=V b h;omega)) (λd hd=>MR hd) (by rw[L7];exact hF)
  refine Qk ⟨[I,oF oG 0],oA,(Y.D hk).then hG (λb H=>.inr (ou (V b H).1)),I,_,by rw[E];rfl,hT.base hC,λ_=>?_⟩;rw[E,OQ,J,hw]
 rw[OT (by rw[ha];decide)]at E;refine Qh<|Qd<|Qm<|QK (h.arr.I Y) U<|x (Q0 U U)<|xe<|QY rfl (λhz=>?_) (λhz=>?_)
 ·have hn:es.length=76:=by have hU:(es.length:Int)=76:=hz;omega
  rw[OU (by rw[Lh];exact hn)]at E;refine Qc<|x Ql<|Qb<|Qk ⟨[nS,oF oG 3],oA,Y,nS,[],by rw[E];rfl,Yn.nil,λG=>OW (by rw[E]at G;exact G) og⟩
 have hn:¬es.length=76:=by have hU:¬(es.length:Int)=76:=hz;omega
 rw[OT (by rw[Lh];exact hn)]at E;have hV:(es.map DV.it).findIdx (λy=>decide (q.kd<y.kd))=l.findIdx λy=>decide (q.kd<y.kd):=by rw[<-J,List.findIdx_map];rfl
 rw[hV]at E;have hW:l.findIdx (λy=>decide (q.kd<y.kd))<=l.length:=List.findIdx_le_length;have h1:ixD (λy:DV=>decide (q.kd<y.kd)) l=if l.findIdx (λy=>decide (q.kd<y.kd))<l.length then((l.findIdx λy=>decide (q.kd<y.kd):Nat):Int)else -1:=rfl
 refine Zk (l.findIdx λy=>decide (q.kd<y.kd)) λat_ hX=>?_;rw[hX]at E hW h1;have hH:Zn [] w6.heap I l.length 9 (l.flatMap Qv):=QJ ht.own oa oe;refine Qh<|Qm<|x (Zy (l:=[]) (l':=[_]))<|ZP<|(QeR (q:=λy:DV=>decide (q.kd<y.kd)) (cap:=[.pointer (some ⟨b3,0,none⟩)]) hH (λe _ w7 hk=>Qov (hu.I hk) U)).mono ?_;rintro r9 w9 ⟨rfl,hc⟩;refine Qb<|Q3 (α:=Unit) [(11,11),(47,50)] (λ_=>[(11,oF oG (at_:Int))]) (λ_ w'=>w'=w9) ol ?_ ?_
 ·refine Qm<|QZ U U<|xe<|QG U (λh2=>?_) (λh2=>?_)
  ·refine Qh<|⟨(),⟨?_,Z⟩,U⟩;have S:¬ixD (λy:DV=>decide (q.kd<y.kd)) l<0:=h2;have e:ixD (λy:DV=>decide (q.kd<y.kd)) l=(at_:Int):=by
    rw[h1]at S ⊢;split at S
    ·rename_i hY;rw[OU hY]
    exact OW og S
   exact OV (Value.int .i64) e
  refine Qw<|Qa<|QK (hH.I hc) U<|Qb<|⟨(),⟨?_,Z⟩,U⟩;have S:ixD (λy:DV=>decide (q.kd<y.kd)) l<0:=h2;have e:(l.length:Int)=(at_:Int):=by
   rw[h1]at S;split at S
   ·omega
   omega
  exact OV (Value.int .i64) e
 rintro⟨⟩ g gp rfl;have hZ:=ht.I hc;have hI:=Y.D hc;have gq:=hc.size;refine Qm<|Qa<|Q5 (hu.I hc) U U<|ZP<|(Kp (hq.I hI)).mono ?_;rintro gr gs ⟨h3,q',rfl,hw,ho⟩;have gt:=h3.size;refine Qe<|QC (us:=[Qv q']) U U og (show 1*9<=1000000 by decide) oA λhJ ga hp gu gb=>?_;have gv:=hp.size;have gc:=(hZ.I h3).I hp;have gg:Zb ga.heap hJ 63 (Qv q'):=by have:=gb;simpa using this
 refine ZP<|(QlU gc oa oa (i:=at_) oa (q:=q') (λL hL=>(ho L (λb H=>by
   rcases hL b H with h|h
   ·omega
   have:=V b h;omega)).I hp) gg (λJ=>ou (V hJ J))).mono ?_
 rintro hK gw ⟨gh,gi,gx⟩;refine x Ql<|Qb<|Qk ⟨[hK,oF oG 0],oA,((hI.D h3).D hp).then gh (λb H=>.inr (ou (V b H).1)),hK,_,by rw[E];rfl,gi.base hC,λ_=>?_⟩;rw[E,Ls,LK,NO,List.map_drop,J,hw]
end Go.Lg
namespace Go.Proofs
open Go.Proofs.Tryz
open Go.Shelf
def Tryz.sortLo_ren:Go.Shelf.Ren:=⟨λ|6=>170|15=>139|14=>246|28=>214|29=>215|20=>277|21=>278|22=>279|23=>280|24=>281|25=>282|26=>283|27=>284|46=>322|47=>268|48=>269|49=>323|50=>324|57=>342|n=>n,λ|22=>114|24=>118|25=>320|3=>3|39=>285|0=>0|53=>367|55=>369|4=>4|46=>361|45=>360|50=>236|5=>5|9=>9|66=>421|70=>425|76=>452|77=>411|n=>n,λ|n=>n⟩
theorem Tryz.sortLo:Go.Proofs.SlLaysF0.n6 prog Tryz.sortLo_ren:={
 mixed:=od
 f6:=⟨Tryz.f170.name,og,func170.D (OV some od)⟩
 f14:=⟨Tryz.f246.name,og,func246.D (OV some od)⟩
 f15:=func139.D (OV some od)
 f20:=⟨Tryz.f277.name,og,func277.D (OV some od)⟩
 f21:=⟨Tryz.f278.name,og,func278.D (OV some od)⟩
 f22:=⟨Tryz.f279.name,og,func279.D (OV some od)⟩
 f23:=⟨Tryz.f280.name,og,func280.D (OV some od)⟩
 f24:=⟨Tryz.f281.name,og,func281.D (OV some od)⟩
 f25:=⟨Tryz.f282.name,og,func282.D (OV some od)⟩
 f26:=⟨Tryz.f283.name,og,func283.D (OV some od)⟩
 f27:=⟨Tryz.f284.name,og,func284.D (OV some od)⟩
 f28:=func214.D (OV some od)
 f29:=func215.D (OV some od)
 f46:=⟨Tryz.f322.name,og,func322.D (OV some od)⟩
 f47:=func268.D (OV some od)
 f48:=func269.D (OV some od)
 f49:=⟨Tryz.f323.name,og,func323.D (OV some od)⟩
 f50:=⟨Tryz.f324.name,og,func324.D (OV some od)⟩
 f57:=⟨Tryz.f342.name,og,func342.D (OV some od)⟩
 t0:=underlying0
 a0:=isAgg0
 z0:=sizeOf0
 v0:=zeroValue0
 t3:=underlying3
 a3:=isAgg3
 z3:=sizeOf3
 v3:=zeroValue3
 t4:=underlying4
 a4:=isAgg4
 z4:=sizeOf4
 v4:=zeroValue4
 t5:=underlying5
 a5:=isAgg5
 z5:=sizeOf5
 v5:=zeroValue5
 t9:=underlying9
 a9:=isAgg9
 z9:=sizeOf9
 v9:=zeroValue9
 t22:=underlying114
 a22:=isAgg114
 z22:=sizeOf114
 v22:=zeroValue114
 t25:=underlying320
 a25:=isAgg320
 z25:=sizeOf320
 v25:=zeroValue320
 t39:=underlying285
 a39:=isAgg285
 z39:=sizeOf285
 v39:=zeroValue285
 t45:=underlying360
 a45:=isAgg360
 z45:=sizeOf360
 v45:=zeroValue360
 t46:=underlying361
 a46:=isAgg361
 z46:=sizeOf361
 v46:=zeroValue361
 t50:=underlying236
 a50:=isAgg236
 z50:=sizeOf236
 v50:=zeroValue236
 t53:=underlying367
 a53:=isAgg367
 z53:=sizeOf367
 v53:=zeroValue367
 t55:=underlying369
 a55:=isAgg369
 z55:=sizeOf369
 v55:=zeroValue369
 t66:=underlying421
 a66:=isAgg421
 z66:=sizeOf421
 v66:=zeroValue421
 t70:=underlying425
 a70:=isAgg425
 z70:=sizeOf425
 v70:=zeroValue425
 t76:=underlying452
 a76:=isAgg452
 z76:=sizeOf452
 v76:=zeroValue452
 t77:=underlying411
 a77:=isAgg411
 z77:=sizeOf411
 v77:=zeroValue411 }
def Tryz.sortTe_ren:Go.Shelf.Ren:=⟨λ|6=>172|15=>139|14=>247|28=>214|29=>215|20=>285|21=>286|22=>287|23=>288|24=>289|25=>290|26=>291|27=>292|46=>325|47=>268|48=>269|49=>326|50=>327|57=>343|n=>n,λ|22=>119|24=>123|25=>322|3=>3|39=>285|0=>0|53=>367|55=>369|4=>4|46=>361|45=>360|50=>236|5=>5|9=>9|66=>421|70=>425|76=>452|77=>411|n=>n,λ|n=>n⟩
theorem Tryz.sortTe:Go.Proofs.SlLaysF0.n6 prog Tryz.sortTe_ren:={
 mixed:=od
 f6:=⟨Tryz.f172.name,og,func172.D (OV some od)⟩
 f14:=⟨Tryz.f247.name,og,func247.D (OV some od)⟩
 f15:=func139.D (OV some od)
 f20:=⟨Tryz.f285.name,og,func285.D (OV some od)⟩
 f21:=⟨Tryz.f286.name,og,func286.D (OV some od)⟩
 f22:=⟨Tryz.f287.name,og,func287.D (OV some od)⟩
 f23:=⟨Tryz.f288.name,og,func288.D (OV some od)⟩
 f24:=⟨Tryz.f289.name,og,func289.D (OV some od)⟩
 f25:=⟨Tryz.f290.name,og,func290.D (OV some od)⟩
 f26:=⟨Tryz.f291.name,og,func291.D (OV some od)⟩
 f27:=⟨Tryz.f292.name,og,func292.D (OV some od)⟩
 f28:=func214.D (OV some od)
 f29:=func215.D (OV some od)
 f46:=⟨Tryz.f325.name,og,func325.D (OV some od)⟩
 f47:=func268.D (OV some od)
 f48:=func269.D (OV some od)
 f49:=⟨Tryz.f326.name,og,func326.D (OV some od)⟩
 f50:=⟨Tryz.f327.name,og,func327.D (OV some od)⟩
 f57:=⟨Tryz.f343.name,og,func343.D (OV some od)⟩
 t0:=underlying0
 a0:=isAgg0
 z0:=sizeOf0
 v0:=zeroValue0
 t3:=underlying3
 a3:=isAgg3
 z3:=sizeOf3
 v3:=zeroValue3
 t4:=underlying4
 a4:=isAgg4
 z4:=sizeOf4
 v4:=zeroValue4
 t5:=underlying5
 a5:=isAgg5
 z5:=sizeOf5
 v5:=zeroValue5
 t9:=underlying9
 a9:=isAgg9
 z9:=sizeOf9
 v9:=zeroValue9
 t22:=underlying119
 a22:=isAgg119
 z22:=sizeOf119
 v22:=zeroValue119
 t25:=underlying322
 a25:=isAgg322
 z25:=sizeOf322
 v25:=zeroValue322
 t39:=underlying285
 a39:=isAgg285
 z39:=sizeOf285
 v39:=zeroValue285
 t45:=underlying360
 a45:=isAgg360
 z45:=sizeOf360
 v45:=zeroValue360
 t46:=underlying361
 a46:=isAgg361
 z46:=sizeOf361
 v46:=zeroValue361
 t50:=underlying236
 a50:=isAgg236
 z50:=sizeOf236
 v50:=zeroValue236
 t53:=underlying367
 a53:=isAgg367
 z53:=sizeOf367
 v53:=zeroValue367
 t55:=underlying369
 a55:=isAgg369
 z55:=sizeOf369
 v55:=zeroValue369
 t66:=underlying421
 a66:=isAgg421
 z66:=sizeOf421
 v66:=zeroValue421
 t70:=underlying425
 a70:=isAgg425
 z70:=sizeOf425
 v70:=zeroValue425
 t76:=underlying452
 a76:=isAgg452
 z76:=sizeOf452
 v76:=zeroValue452
 t77:=underlying411
 a77:=isAgg411
 z77:=sizeOf411
 v77:=zeroValue411 }
end Go.Proofs
namespace Go.Lg
open Go.Lg Go.Sort
abbrev Lz:={ x:Int×Int // 0<=x.1/\x.1<4096 }
instance:Inhabited Lz:=⟨⟨(0,0),og⟩⟩
abbrev qK (x:Lz):LV:=[oF oG x.1.1,oF oG x.1.2]
theorem zw (x:Lz):(qK x).length=2:=rfl
theorem yl:∀l:List Lz,(l.flatMap qK).length=l.length*2
 | []=>rfl
 | x::l=>by rw[LH,Lk,yl l,zw,LS];omega
theorem zu {l:List Lz}(I:j<l.length*2):(l.flatMap qK)[j]?=some ((flatK qK 2 l.toArray)[j]!):=by
 have E:j / 2<l.length:=Nat.div_lt_of_lt_mul oa;have G:j % 2<2:=NM _ og;rw[get_flatK _ _ _ _ (oz I)];have J:=XH qK 2 zw l (j / 2) E;have O:(l.flatMap qK)[j]?=(qK (l[j / 2]'E))[j % 2]?:=by
  rw[<-J,LU,OU G,ME];congr 1;omega
 rw[O];have S:(l.toArray)[j / 2]! = l[j / 2]'E:=by simp[E]
 rw[S];have H:j % 2<(qK (l[j / 2]'E)).length:=G;exact(LF H).D (OV some (getElem!_pos (qK (l[j / 2]'E)) (j % 2) H).symm)
theorem Qds:SWO (ltOf λx y:Lz=>x.1.1 - y.1.1) where
 irrefl x:=by unfold ltOf;simp
 trans x y z h1 h2:=by unfold ltOf at *;simp at *;omega
 ntrans x y z h1 h2:=by unfold ltOf at *;simp at *;omega
theorem Qiv:∀{l:xx},(∀x∈l,0<=x.1/\x.1<4096)->∃L:List Lz,L.map Subtype.val=l
 | [],_=>⟨[],U⟩
 | x::l,h=>by
  obtain⟨L,E⟩:=Qiv (l:=l) (λy G=>h y (Lj _ G));exact⟨⟨x,h x Lr⟩::L,by rw[LK,E]⟩
theorem QeI (L:List Lz):L.flatMap qK=(L.map Subtype.val).flatMap QI:=by rw[List.flatMap_map]
theorem Qiu {l:List Lz}{E:Array Lz}(h:pdq (ltOf λx y:Lz=>x.1.1 - y.1.1) l.toArray 0 l.length (Go.Lib.bitLen l.length) true true=E)(J:((l.map Subtype.val).map (·.1)).Nodup):E.size=l.length/\E.toList.map Subtype.val=isrt (·.1) (l.map Subtype.val):=by
 have G:=pdq_sorts (ltOf λx y:Lz=>x.1.1 - y.1.1) Qds l.toArray 0 l.toArray.size (Go.Lib.bitLen l.length) true true (Ln _) (Lu _) (Or.inl U);rw[LP,h]at G;obtain⟨H,O⟩:=Qet (d:=l.toArray) (by rw[LP];exact G.1) (by rw[LP];exact G.2);refine⟨oz H.length_eq,QlT (λp:Int×Int=>p.1) (H.map _) ?_ J⟩;refine MO.2 (O.imp λ{x y} I=>?_);unfold ltOf at I;have S:¬(y.1.1 - x.1.1<0):=O0 I;show x.1.1<=y.1.1;omega
theorem Qqf (x y:Lz)(W:O1):Calls prog 171 #[.agg (qK x).toArray,.agg (qK y).toArray] W λe w'=>e=.returned (oF oG (x.1.1 - y.1.1))/\∃q os',w'=grow (W.drewN q) os':=by
 have E:IntKind.i64.wrap (x.1.1 - y.1.1)=x.1.1 - y.1.1:=YJ ⟨ov x.2 y.2,ov x.2 y.2⟩
 go_enter func171,ntmps171
 go_wp2
 go_ret;exact⟨by rw[<-E];rfl,0,_,by rw[alloc_eq_grow,alloc_eq_grow,grow_grow];rfl⟩
theorem QfK {base:Nat}{v:O2}{G:xx}(h0:w.ownsRow base 118 2 v G.length (G.flatMap QI))(hb:∀x∈G,0<=x.1/\x.1<4096)(S:(G.map (·.1)).Nodup)(hh:G.length<=1099511627776):
  Q6 prog 170 [v,.func (.func 171) #[] #[]] w λ_ w'=>O5 (ob v) w w'/\w'.ownsRow base 118 2 v (isrt (·.1) G).length ((isrt (·.1) G).flatMap QI):=by
 obtain⟨l,hl⟩:=Qiv hb;subst hl;rw[<-QeI,Lh]at h0;rw[Lh]at hh;unfold Q6;rcases h0.2 with⟨rfl,J⟩|⟨g,cap,cur,rfl,hm,O,ho,hp,hq,hr⟩
 ·have hs:l=[]:=Lp J;subst hs;have H:=AnyF.slices_SortFunc_none Tryz.sortLo none 0 (.func (.func 171) #[] #[]) w;change Calls prog 170 _ _ _ at H;refine Calls.mono H λe w' T=>?_;obtain⟨rfl,rfl⟩:=T;exact⟨O5.Z _ _,QL _ _ _ _⟩
 have ha:g<w.heap.size:=(LG.1 O).1;have hH:HoldsK qK 2 w g 0 l.toArray:=by
  intro j E;rw[size_flatK,LP]at E;have J:=zu E;rw[<-hr,LU,OU E]at J;constructor
  ·show(match w.heap[g]? with|some (.cells c _ _)=>if(none:Option _).isSome then none else c[0+j]?|_=>none)=_
   rw[O];simp only[oY,OD,OE,if_false];rw[<-Mo,J];rfl
  show(match w.heap[g]? with|some (.cells _ _ (lo,hi))=>decide (lo<=0+j) && decide (0+j<hi)|_=>false)=false
  rw[O];simp
 have eg:∀args w,(callFunc 171 args).run prog w=.ok (.enter 171 args) w:=enters_of func171 od U;have H:=AnyQ.slices_SortFunc_eq Tryz.sortLo 2 isAgg118 sizeOf118 qK zw (λx v hv=>by simp at hv;rcases hv with rfl|rfl <;> rfl) (λx y=>x.1.1 - y.1.1) Qds 171 #[] g 0 cap l.toArray w eg (λm os dk _ x y=>Qqf x y _) hH ha (by simp;omega)
 change Calls prog 170 _ _ _ at H;rw[LP]at H;refine Calls.mono H λe w' T=>?_;obtain⟨rfl,n,os,rfl⟩:=T;refine Zk (pdq (ltOf λx y:Lz=>x.1.1 - y.1.1) l.toArray 0 l.length (Go.Lib.bitLen l.length) true true) λI hf=>?_;obtain⟨V,ht⟩:=Qiu hf S;rw[hf,<-ht];have Y:(sortWorldK qK 2 w g 0 n I os).heap=w.heap.modify g (onCells (putCells id 0 (flatK qK 2 I)))++os:=rfl;refine⟨⟨rfl,U,U,?_,λk hk S=>?_⟩,?_⟩
 ·rw[Y,MT,Md];omega
 ·rw[Y,Mh,Md,OU hk,Mv,OT (λe=>S (by simp[ob,e]))]
 rw[<-QeI,Lh];refine⟨yl _,.inr ⟨g,cap,putCells id 0 (flatK qK 2 I) cur,by simp[V],hm,?_,by simp[V];exact ho,hp,by simp[putCells,hq],?_⟩⟩
 ·rw[Y,Mh,Md,OU ha,Mv,OU rfl,O];rfl
 apply M2;intro j;rw[LU];by_cases E:j<I.toList.length*2
 ·rw[OU E,zu E,Mo];have hu:j<cur.size:=by simp[V]at E;omega
  have hw:j<(flatK qK 2 I).size:=by simpa using E
  simp only[putCells,Ow,Oj hu,Oy,OR,oY,true_and,OU hw,OI,id]
 rw[OT E,MS];rw[yl];omega
theorem Qqd (x y:Lz)(W:O1):Calls prog 173 #[.agg (qK x).toArray,.agg (qK y).toArray] W λe w'=>e=.returned (oF oG (x.1.1 - y.1.1))/\∃q os',w'=grow (W.drewN q) os':=by
 have E:IntKind.i64.wrap (x.1.1 - y.1.1)=x.1.1 - y.1.1:=YJ ⟨ov x.2 y.2,ov x.2 y.2⟩
 go_enter func173,ntmps173
 go_wp2
 go_ret;exact⟨by rw[<-E];rfl,0,_,by rw[alloc_eq_grow,alloc_eq_grow,grow_grow];rfl⟩
theorem QfI {base:Nat}{v:O2}{G:xx}(h0:w.ownsRow base 123 2 v G.length (G.flatMap QI))(hb:∀x∈G,0<=x.1/\x.1<4096)(S:(G.map (·.1)).Nodup)(hh:G.length<=1099511627776):
  Q6 prog 172 [v,.func (.func 173) #[] #[]] w λ_ w'=>O5 (ob v) w w'/\w'.ownsRow base 123 2 v (isrt (·.1) G).length ((isrt (·.1) G).flatMap QI):=by
 obtain⟨l,hl⟩:=Qiv hb;subst hl;rw[<-QeI,Lh]at h0;rw[Lh]at hh;unfold Q6;rcases h0.2 with⟨rfl,J⟩|⟨g,cap,cur,rfl,hm,O,ho,hp,hq,hr⟩
 ·have hs:l=[]:=Lp J;subst hs;have H:=AnyF.slices_SortFunc_none Tryz.sortTe none 0 (.func (.func 173) #[] #[]) w;change Calls prog 172 _ _ _ at H;refine Calls.mono H λe w' T=>?_;obtain⟨rfl,rfl⟩:=T;exact⟨O5.Z _ _,QL _ _ _ _⟩
 have ha:g<w.heap.size:=(LG.1 O).1;have hH:HoldsK qK 2 w g 0 l.toArray:=by
  intro j E;rw[size_flatK,LP]at E;have J:=zu E;rw[<-hr,LU,OU E]at J;constructor
  ·show(match w.heap[g]? with|some (.cells c _ _)=>if(none:Option _).isSome then none else c[0+j]?|_=>none)=_
   rw[O];simp only[oY,OD,OE,if_false];rw[<-Mo,J];rfl
  show(match w.heap[g]? with|some (.cells _ _ (lo,hi))=>decide (lo<=0+j) && decide (0+j<hi)|_=>false)=false
  rw[O];simp
 have eg:∀args w,(callFunc 173 args).run prog w=.ok (.enter 173 args) w:=enters_of func173 od U;have H:=AnyQ.slices_SortFunc_eq Tryz.sortTe 2 isAgg123 sizeOf123 qK zw (λx v hv=>by simp at hv;rcases hv with rfl|rfl <;> rfl) (λx y=>x.1.1 - y.1.1) Qds 173 #[] g 0 cap l.toArray w eg (λm os dk _ x y=>Qqd x y _) hH ha (by simp;omega)
 change Calls prog 172 _ _ _ at H;rw[LP]at H;refine Calls.mono H λe w' T=>?_;obtain⟨rfl,n,os,rfl⟩:=T;refine Zk (pdq (ltOf λx y:Lz=>x.1.1 - y.1.1) l.toArray 0 l.length (Go.Lib.bitLen l.length) true true) λI hf=>?_;obtain⟨V,ht⟩:=Qiu hf S;rw[hf,<-ht];have Y:(sortWorldK qK 2 w g 0 n I os).heap=w.heap.modify g (onCells (putCells id 0 (flatK qK 2 I)))++os:=rfl;refine⟨⟨rfl,U,U,?_,λk hk S=>?_⟩,?_⟩
 ·rw[Y,MT,Md];omega
 ·rw[Y,Mh,Md,OU hk,Mv,OT (λe=>S (by simp[ob,e]))]
 rw[<-QeI,Lh];refine⟨yl _,.inr ⟨g,cap,putCells id 0 (flatK qK 2 I) cur,by simp[V],hm,?_,by simp[V];exact ho,hp,by simp[putCells,hq],?_⟩⟩
 ·rw[Y,Mh,Md,OU ha,Mv,OU rfl,O];rfl
 apply M2;intro j;rw[LU];by_cases E:j<I.toList.length*2
 ·rw[OU E,zu E,Mo];have hu:j<cur.size:=by simp[V]at E;omega
  have hw:j<(flatK qK 2 I).size:=by simpa using E
  simp only[putCells,Ow,Oj hu,Oy,OR,oY,true_and,OU hw,OI,id]
 rw[OT E,MS];rw[yl];omega
def yH (l:List Yc)(n:ByteArray)(tk:LI):Int:=if KP l 1 n=false then 9 else if(Yx l 1 n:Int)∈tk then 8 else 0
theorem Qfd {v:O2}{es:List DV}(h:Zn L w.heap v es.length 9 (es.flatMap Qv))(n:ByteArray){tk:LI}(S:QQ L' w.heap vt tk):
  Q6 prog 169 [v,.string n,vt] w λr w'=>(∃i:Int,r=.tuple #[oF oG i,oF oG (yH (es.map DV.it) n tk)]/\(yH (es.map DV.it) n tk=0->i=(Yx (es.map DV.it) 1 n:Int)))/\O5 [] w w':=by
 have G:yH (es.map DV.it) n tk=if KP (es.map DV.it) 1 n=false then 9 else if(Yx (es.map DV.it) 1 n:Int)∈tk then 8 else 0:=rfl
 refine Zk (yH (es.map DV.it) n tk) λE hE=>?_;rw[hE]at G ⊢;refine Zq func169 ?_;refine Qc<|x Ql<|Qb<|Qm<|Qa<|QM<|(zG h 1 n).mono ?_;rintro T V ⟨⟨i,rfl,hi⟩,H⟩;refine Qa<|Q7 U U<|Q7 U U<|x Ql<|Qb<|Qd<|Qf<|Qm<|x (Zx U)<|Qb<|QX U (λI=>?_) (λI=>?_)
 ·rw[OU (oz I)]at G;subst G;refine Qc<|x Ql<|Qb<|Qk ⟨[oF oG 0,oF oG 9],oA,⟨0,U,λe=>OW e og⟩,H⟩
 have O:KP (es.map DV.it) 1 n=true:=by simpa using I
 have hi:=hi O;subst hi;rw[OT (by rw[O];decide)]at G;refine Qm<|Qa<|QM<|(Yj (S.I H) _).mono ?_;rintro r2 Y ⟨rfl,rfl⟩;refine Qb<|QY U (λJ=>?_) (λJ=>?_)
 ·rw[OU J]at G;subst G;refine Qc<|x Ql<|Qb<|Qk ⟨[oF oG 0,oF oG 8],oA,⟨0,U,λe=>OW e og⟩,H⟩
 rw[OT J]at G;subst G;refine Qh<|Qm<|x Ql<|Qb<|Qk ⟨[oF oG _,oF oG 0],oA,⟨_,U,λ_=>U⟩,H⟩
theorem j7 (l:List Yc)(y:ByteArray×Int)(r:List (ByteArray×Int))(tk:LI)(o:xx):Yv l (y::r) tk o=if yH l y.1 tk≠0 then(yH l y.1 tk,[])else Yv l r (tk++[(Yx l 1 y.1:Int)]) (o++[((Yx l 1 y.1:Int),y.2)]):=by
 rw[Yv];unfold yH;split
 ·rfl
 split
 ·rfl
 rfl
theorem QjG {l:List Yc}{n:ByteArray}{tk:LI}(h:yH l n tk=0):Yx l 1 n<l.length/\(Yx l 1 n:Int)∉tk:=by
 unfold yH at h;split at h
 ·exact OW h og
 rename_i E;split at h
 ·exact OW h og
 rename_i G;refine⟨?_,G⟩;have H:KP l 1 n=true:=by simpa using E
 exact OY H
theorem Qgc {v:O2}{es:List DV}(h0:Zn L w.heap v es.length 9 (es.flatMap Qv))(gm:es.length<=4096)(hC:X7 L' w.heap q)(gn:q.ls.length<=100000):
  Q6 prog 99 [v,.agg (Qv q).toArray] w λr w'=>O5 [] w w'/\∃vo,r=.tuple #[vo,oF oG (Yv (es.map DV.it) q.ls [] []).1]/\((Yv (es.map DV.it) q.ls [] []).1≠0->vo=Zs) /\
   ((Yv (es.map DV.it) q.ls [] []).1=0->w'.ownsRow w.heap.size 118 2 vo (Yv (es.map DV.it) q.ls [] []).2.length ((Yv (es.map DV.it) q.ls [] []).2.flatMap QI)):=by
 have h:=h0.up (L':=[]) oe;have hq:=hC.up (L':=[]) oe;refine Zk (Yv (es.map DV.it) q.ls [] []) λR hR=>?_;rw[hR];refine Zq func99 ?_;refine Qc<|Qe<|QS (us:=Qv q) U λb3 G T go hD=>x Ql<|Qb ?_;have gp:=T.size;have h1:=h.I T;have hw:=hq.I T;refine Qc<|Qb<|Qc<|Qb<|Qd<|Qc<|Qs U hD U U<|QK hw.ls.arr U<|Qa<|xe<|Qf<|QD (α:=Nat×O2×O2×xx) [(4,7),(9,11),(15,41)] (λz=>[(6,z.2.1),(7,z.2.2.1),(15,oF oG z.1)]) (λz w'=>z.1<=q.ls.length/\O5 [] G w'/\w'.ownsRow G.heap.size 118 2 z.2.1 z.2.2.2.length (z.2.2.2.flatMap QI)/\Qu 3 G.heap.size w' z.2.2.1 (z.2.2.2.map (·.1))/\(∀b∈ob z.2.1,b∉ob z.2.2.1)/\z.2.2.2.length=z.1/\(∀x∈z.2.2.2,0<=x.1/\x.1<4096)/\(z.2.2.2.map (·.1)).Nodup/\Yv (es.map DV.it) (q.ls.drop z.1) (z.2.2.2.map (·.1)) z.2.2.2=R) (λz=>q.ls.length - z.1) ol (0,Zs,Zs,[]) oB
  ⟨Ln _,O5.Z _ _,QL _ _ _ _,QL _ _ _ _,by simp[ob],rfl,oe,MM,hR⟩ ?_
 rintro⟨k,vo,vt,l⟩ g w2 ⟨hk,I,J,hg,hn,ho,hr,hs,hE⟩;simp only[]at hk J hg hn ho hr hs hE;have gq:=I.size;have gr:(l.map (·.1)).length=k:=by rw[Lh,ho]
 have h2:=h1.I I;have hG:=hw.I I;refine Qc<|QZ U U<|xe<|Qd<|QG U (λht=>?_) (λht=>?_)
 ·refine Qy ?_;have hH:q.ls.length<=k:=by have hh:¬(k:Int)<(q.ls.length:Int):=ht;omega
  rw[Lq hH]at hE;rw[Yv]at hE;subst hE;refine Qm<|QM<|(QfK J hr hs oa).mono ?_;rintro r3 w3 ⟨hI,hJ⟩;refine xe<|Qm<|x Ql<|Qb<|Qk ⟨[vo,oF oG 0],oA,T.D (I.then hI λb E=>.inr (Qi J b E).1),vo,U,λe=>OW U e,λ_=>Zv hJ oa⟩
 have V:k<q.ls.length:=by have hh:(k:Int)<(q.ls.length:Int):=ht;omega
 have hK:q.ls.drop k=q.ls[k]'V::q.ls.drop (k+1):=LE V;rw[hK,j7]at hE;refine Qh<|Qd<|Qf<|Qc<|O8 (g:=ZJ) (i:=k) Qdf hG.ls.arr U U V λgs hh=>?_;refine Zk (q.ls[k]'V) λy hy=>?_;rw[hy]at hh hE;refine x (Qx hh U U)<|Qe<|Qo (us:=[.string .empty,oF oG 0]) U λb9 w4 hL hM hN=>Qe<|Qj (us:=ZJ y) hN U U U U oA λw5 hO hz=>xe ?_;have hu:O5 [] w2 w5:=hL.O hO hM;have hP:QQ [] w5.heap vt (l.map (·.1)):=(Qu.ints hg oa oe).I hu;refine Qm<|Qs U hz U U<|Qa<|QM<|(Qfd (h2.I hu) y.1 hP).mono ?_;rintro r6 w6 ⟨⟨i,rfl,hi⟩,h4⟩;have Y:=hu.D h4;have gt:=Y.size;refine Qa<|Q7 U U<|Q7 U U<|x Ql<|Qb<|Qd<|Qm<|ZA U U<|xe<|QY rfl (λhe=>?_) (λhe=>?_)
 ·rw[OU he]at hE;subst hE;refine Qm<|x Ql<|Qb<|Qk ⟨[Zs,oF oG _],oA,T.D (I.D Y),Zs,U,λ_=>U,λe=>OW e he⟩
 rw[OT he]at hE;have h5:yH (es.map DV.it) y.1 (l.map (·.1))=0:=Lo.1 he;have hi:=hi h5;obtain⟨hF,h6⟩:=QjG h5;rw[Lh]at hF;refine Zk (Yx (es.map DV.it) 1 y.1) λF hQ=>?_;rw[hQ]at hi hF h6 hE;subst hi;refine Qh ?_;have hS:=hz.I h4;have hT:=Qp J Y;have hU:Qu 3 G.heap.size w6 vt (l.map (·.1)):=Qp hg Y;refine Qm<|Qa<|Qe<|QC (us:=[[oF oG F]]) U U og (show 1*1<=1000000 by decide) oA λgu w7 hf gv hV=>?_;have h7:Qu 3 G.heap.size w7 vt (l.map (·.1)):=Qp hU hf;have gw:=hf.size;refine Qe<|Za (m:=1) (news:=[oF oG F]) h7 U U U (by have:=hV.at (L:=[]) oe;simpa using this) (by simp[Value.oneCell']) oa oa λhj w8 hW hl hX=>?_;refine Qb ?_;have gx:=hl.size;have hY:=Qg (Qp hT hf) hl hn;have hZ:∀b∈ob vt,G.heap.size<=b:=λb E=>(Qi h7 b E).1;have ga:O5 [] G w8:=((I.D Y).D hf).then hl λb E=>.inr (hZ b E);have gb:=(hS.I hf).J hl (λE=>ou (Qi hg b9 E).2);have h8:∀b∈ob vo,b∉ob hj:=λb E O=>by
  rcases hX b O with H|H
  ·exact hn b E H
  have:=(Qi J b E).2;omega
 refine Qw<|Qa<|Qa<|Qs U gb U U<|x (Qz ⟨U,U,Z⟩)<|Qe<|QC (us:=[QI ((F:Int),y.2)]) U U og (show 1*2<=1000000 by decide) oA λgy w9 hm gz gc=>?_;have gg:=Qp hY hm;have g0:=hm.size;refine Qe<|Za (m:=1) (news:=QI ((F:Int),y.2)) gg U U U (by have:=gc.at (L:=[]) oe;simpa using this) (by simp[Value.oneCell']) oa oa λh9 hv gh hA gi=>?_;refine Qb ?_;have hB:=Qp hW hm;have gj:Qu 3 G.heap.size hv hj ((l++[((F:Int),y.2)]).map (·.1)):=by
  have H:=Qg hB hA (λb E O=>h8 b O E);show hv.ownsRow _ _ 1 _ _ _;simp only[Oi,oM,Oc]at H ⊢;simpa using H
 have gk:O5 [] G hv:=(ga.D hm).then hA λb E=>.inr (Qi J b E).1;have gl:∀b∈ob h9,b∉ob hj:=λb E O=>by
  rcases gi b E with H|H
  ·exact h8 b H O
  have:=(Qi hB b O).2;omega
 refine Qw<|QP U U<|Qa<|xe<|⟨(k+1,h9,hj,l++[((F:Int),y.2)]),by show q.ls.length - (k+1)<q.ls.length - k;omega,oB,V,gk,by rw[Lk,LA];simpa using gh,gj,gl,by simp[ho],λp S=>?_,?_,?_⟩
 ·rcases Lc.1 S with S|S
  ·exact hr p S
  simp only[oI]at S;subst S;exact⟨oh,oh⟩
 ·rw[Ls,MC];refine⟨hs,oe,λa ha b E e=>?_⟩;simp only[oX,OL,oI]at E;subst E;subst e;exact h6 ha
 rw[Ls];exact hE
theorem Qhm {v:O2}{es:List DV}(h0:Zn L w.heap v es.length 9 (es.flatMap Qv))(gm:es.length<=4096)(hC:X7 L' w.heap q)(gn:q.ts.length<=100000):
  Q6 prog 100 [v,.agg (Qv q).toArray] w λr w'=>O5 [] w w'/\∃vo,r=.tuple #[vo,oF oG (Yv (es.map DV.it) q.ts [] []).1]/\((Yv (es.map DV.it) q.ts [] []).1≠0->vo=Zs) /\
   ((Yv (es.map DV.it) q.ts [] []).1=0->w'.ownsRow w.heap.size 123 2 vo (Yv (es.map DV.it) q.ts [] []).2.length ((Yv (es.map DV.it) q.ts [] []).2.flatMap QI)):=by
 have h:=h0.up (L':=[]) oe;have hq:=hC.up (L':=[]) oe;refine Zk (Yv (es.map DV.it) q.ts [] []) λR hR=>?_;rw[hR];refine Zq func100 ?_;refine Qc<|Qe<|QS (us:=Qv q) U λb3 G T go hD=>x Ql<|Qb ?_;have gp:=T.size;have h1:=h.I T;have hw:=hq.I T;refine Qc<|Qb<|Qc<|Qb<|Qd<|Qc<|Qs U hD U U<|QK hw.ts.arr U<|Qa<|xe<|Qf<|QD (α:=Nat×O2×O2×xx) [(4,7),(9,11),(15,41)] (λz=>[(6,z.2.1),(7,z.2.2.1),(15,oF oG z.1)]) (λz w'=>z.1<=q.ts.length/\O5 [] G w'/\w'.ownsRow G.heap.size 123 2 z.2.1 z.2.2.2.length (z.2.2.2.flatMap QI)/\Qu 3 G.heap.size w' z.2.2.1 (z.2.2.2.map (·.1))/\(∀b∈ob z.2.1,b∉ob z.2.2.1)/\z.2.2.2.length=z.1/\(∀x∈z.2.2.2,0<=x.1/\x.1<4096)/\(z.2.2.2.map (·.1)).Nodup/\Yv (es.map DV.it) (q.ts.drop z.1) (z.2.2.2.map (·.1)) z.2.2.2=R) (λz=>q.ts.length - z.1) ol (0,Zs,Zs,[]) oB
  ⟨Ln _,O5.Z _ _,QL _ _ _ _,QL _ _ _ _,by simp[ob],rfl,oe,MM,hR⟩ ?_
 rintro⟨k,vo,vt,l⟩ g w2 ⟨hk,I,J,hg,hn,ho,hr,hs,hE⟩;simp only[]at hk J hg hn ho hr hs hE;have gq:=I.size;have gr:(l.map (·.1)).length=k:=by rw[Lh,ho]
 have h2:=h1.I I;have hG:=hw.I I;refine Qc<|QZ U U<|xe<|Qd<|QG U (λht=>?_) (λht=>?_)
 ·refine Qy ?_;have hH:q.ts.length<=k:=by have hh:¬(k:Int)<(q.ts.length:Int):=ht;omega
  rw[Lq hH]at hE;rw[Yv]at hE;subst hE;refine Qm<|QM<|(QfI J hr hs oa).mono ?_;rintro r3 w3 ⟨hI,hJ⟩;refine xe<|Qm<|x Ql<|Qb<|Qk ⟨[vo,oF oG 0],oA,T.D (I.then hI λb E=>.inr (Qi J b E).1),vo,U,λe=>OW U e,λ_=>Zv hJ oa⟩
 have V:k<q.ts.length:=by have hh:(k:Int)<(q.ts.length:Int):=ht;omega
 have hK:q.ts.drop k=q.ts[k]'V::q.ts.drop (k+1):=LE V;rw[hK,j7]at hE;refine Qh<|Qd<|Qf<|Qc<|O8 (g:=ZJ) (i:=k) Qdf hG.ts.arr U U V λgs hh=>?_;refine Zk (q.ts[k]'V) λy hy=>?_;rw[hy]at hh hE;refine x (Qx hh U U)<|Qe<|Qo (us:=[.string .empty,oF oG 0]) U λb9 w4 hL hM hN=>Qe<|Qj (us:=ZJ y) hN U U U U oA λw5 hO hz=>xe ?_;have hu:O5 [] w2 w5:=hL.O hO hM;have hP:QQ [] w5.heap vt (l.map (·.1)):=(Qu.ints hg oa oe).I hu;refine Qm<|Qs U hz U U<|Qa<|QM<|(Qfd (h2.I hu) y.1 hP).mono ?_;rintro r6 w6 ⟨⟨i,rfl,hi⟩,h4⟩;have Y:=hu.D h4;have gt:=Y.size;refine Qa<|Q7 U U<|Q7 U U<|x Ql<|Qb<|Qd<|Qm<|ZA U U<|xe<|QY rfl (λhe=>?_) (λhe=>?_)
 ·rw[OU he]at hE;subst hE;refine Qm<|x Ql<|Qb<|Qk ⟨[Zs,oF oG _],oA,T.D (I.D Y),Zs,U,λ_=>U,λe=>OW e he⟩
 rw[OT he]at hE;have h5:yH (es.map DV.it) y.1 (l.map (·.1))=0:=Lo.1 he;have hi:=hi h5;obtain⟨hF,h6⟩:=QjG h5;rw[Lh]at hF;refine Zk (Yx (es.map DV.it) 1 y.1) λF hQ=>?_;rw[hQ]at hi hF h6 hE;subst hi;refine Qh ?_;have hS:=hz.I h4;have hT:=Qp J Y;have hU:Qu 3 G.heap.size w6 vt (l.map (·.1)):=Qp hg Y;refine Qm<|Qa<|Qe<|QC (us:=[[oF oG F]]) U U og (show 1*1<=1000000 by decide) oA λgu w7 hf gv hV=>?_;have h7:Qu 3 G.heap.size w7 vt (l.map (·.1)):=Qp hU hf;have gw:=hf.size;refine Qe<|Za (m:=1) (news:=[oF oG F]) h7 U U U (by have:=hV.at (L:=[]) oe;simpa using this) (by simp[Value.oneCell']) oa oa λhj w8 hW hl hX=>?_;refine Qb ?_;have gx:=hl.size;have hY:=Qg (Qp hT hf) hl hn;have hZ:∀b∈ob vt,G.heap.size<=b:=λb E=>(Qi h7 b E).1;have ga:O5 [] G w8:=((I.D Y).D hf).then hl λb E=>.inr (hZ b E);have gb:=(hS.I hf).J hl (λE=>ou (Qi hg b9 E).2);have h8:∀b∈ob vo,b∉ob hj:=λb E O=>by
  rcases hX b O with H|H
  ·exact hn b E H
  have:=(Qi J b E).2;omega
 refine Qw<|Qa<|Qa<|Qs U gb U U<|x (Qz ⟨U,U,Z⟩)<|Qe<|QC (us:=[QI ((F:Int),y.2)]) U U og (show 1*2<=1000000 by decide) oA λgy w9 hm gz gc=>?_;have gg:=Qp hY hm;have g0:=hm.size;refine Qe<|Za (m:=1) (news:=QI ((F:Int),y.2)) gg U U U (by have:=gc.at (L:=[]) oe;simpa using this) (by simp[Value.oneCell']) oa oa λh9 hv gh hA gi=>?_;refine Qb ?_;have hB:=Qp hW hm;have gj:Qu 3 G.heap.size hv hj ((l++[((F:Int),y.2)]).map (·.1)):=by
  have H:=Qg hB hA (λb E O=>h8 b O E);show hv.ownsRow _ _ 1 _ _ _;simp only[Oi,oM,Oc]at H ⊢;simpa using H
 have gk:O5 [] G hv:=(ga.D hm).then hA λb E=>.inr (Qi J b E).1;have gl:∀b∈ob h9,b∉ob hj:=λb E O=>by
  rcases gi b E with H|H
  ·exact h8 b H O
  have:=(Qi hB b O).2;omega
 refine Qw<|QP U U<|Qa<|xe<|⟨(k+1,h9,hj,l++[((F:Int),y.2)]),by show q.ts.length - (k+1)<q.ts.length - k;omega,oB,V,gk,by rw[Lk,LA];simpa using gh,gj,gl,by simp[ho],λp S=>?_,?_,?_⟩
 ·rcases Lc.1 S with S|S
  ·exact hr p S
  simp only[oI]at S;subst S;exact⟨oh,oh⟩
 ·rw[Ls,MC];refine⟨hs,oe,λa ha b E e=>?_⟩;simp only[oX,OL,oI]at E;subst E;subst e;exact h6 ha
 rw[Ls];exact hE
structure YT where
 dr:Bool
 q:DV
abbrev ZO (e:YT):LV:=[.bool e.dr,oF oG e.q.kd,.string e.q.nm,e.q.p.va,oF oG e.q.p.a.st,e.q.p.vm,e.q.p.ve,e.q.vl,e.q.vt,oF oG e.q.bd]
theorem Qme (e:YT):(ZO e).length=10:=rfl
def YT.e (e:YT):Bool×Yc:=(e.dr,e.q.it)
def Qkv (L:LN)(H:xC)(e:YT):Prop:=X7 L H e.q
instance:Mm Qkv:=⟨λh E=>X7.st h E,λh G=>X7.up h G⟩
theorem Qkv.ones {L:LN}{H:xC}{e:YT}(h:Qkv L H e):Zr (ZO e):=⟨U,X7.ones h⟩
abbrev jl (L:LN)(H:xC)(v:O2)(l:List YT):Prop:=Go.Lg.KX ZO 10 Qkv L H v l
theorem Qml {l:List Yc}{x:Yc}(h:(qY l x).1=0):(qY l x).2.length<=76:=by
 unfold qY at *;split at h
 ·rename_i E;exact OW h E
 rename_i E;have hl:=Vm (Lo.1 E);rw[OT E];split at h
 ·rename_i G;exact OW h G
 rename_i G;rw[OT G];split at h
 ·rename_i H;rw[OU H,L7];exact hl
 rename_i H;rw[OT H];split at h
 ·cases h
 rename_i I;rw[OT I];simp only[oM,Oa,oW,o6];omega
theorem Qmq {l:List Yc}{k:Int}{n:ByteArray}(h:(qZ l k n).1=0):(qZ l k n).2.length<=76:=by
 unfold qZ at *;split at h
 ·rename_i E;exact OW h E
 rename_i E;have hl:=Vm (Lo.1 E);rw[OT E];split at h
 ·cases h
 rename_i G;rw[OT G];simp only[oM,Oa,o6];omega
theorem Qkz {v:O2}{es:List DV}{xs:List YT}(E:Kx L w.heap v es)(hv:jl L' w.heap vx xs):
  Q6 prog 46 [v,vx] w λr w'=>O5 [] w w'/\∃vo l,r=.tuple #[vo,oF oG (je (es.map DV.it) (xs.map YT.e)).1]/\Ju w.heap.size w' vo l/\((je (es.map DV.it) (xs.map YT.e)).1=0->l.map DV.it=(je (es.map DV.it) (xs.map YT.e)).2/\l.length<=76):=by
 have h:=E.up (L':=[]) oe;have hx:jl [] w.heap vx xs:=hv.up oe;have hI:=hx.arr.le;have G:je (es.map DV.it) (xs.map YT.e)=if KB (es.map DV.it)≠0 then(KB (es.map DV.it),[])else Qbb (xs.map YT.e) (es.map DV.it):=rfl
 refine Zk (je (es.map DV.it) (xs.map YT.e)) λD hD=>?_;rw[hD]at G ⊢;refine Zq func46 ?_;refine Qc<|x Ql<|Qb<|Qd<|Qm<|QM<|(JE h).mono ?_;rintro r1 w1 ⟨rfl,S⟩;refine Qb<|Qm<|ZA U U<|xe<|QY rfl (λH=>?_) (λH=>?_)
 ·rw[OU H]at G;refine Qm<|x Ql<|Qb<|Qk ⟨[nS,oF oG (KB (es.map DV.it))],oA,S,nS,[],by rw[G];rfl,Yn.nil,λE=>OW (by rw[G]at E;exact E) H⟩
 rw[OT H]at G;have hJ:es.length<=76:=by have:=Vm (Lo.1 H);rwa [Lh]at this
 refine Qh<|Qm<|QM<|(J5 (h.I S) oa).mono ?_;rintro r2 w2 ⟨hw,l2,hy,hh⟩;have hK:l2.length=es.length:=by have:=OV oP hh;rwa [Lh,Lh]at this
 have hz:=S.D hw;have h2:=S.size;refine Qb<|Qd<|Qm<|QK hx.arr U<|Qa<|xe<|Qf<|QD (α:=Nat×O2×List DV) [(4,5),(7,7),(9,10),(20,47)] (λz=>[(7,z.2.1),(20,oF oG z.1)]) (λz w'=>z.1<=xs.length/\O5 [] w w'/\Ju w.heap.size w' z.2.1 z.2.2/\z.2.2.length<=76/\Qbb ((xs.map YT.e).drop z.1) (z.2.2.map DV.it)=D) (λz=>xs.length - z.1) ol (0,r2,l2) oA
  ⟨Ln _,hz,hy.base h2,(show l2.length<=76 by omega),by rw[List.drop_zero,hh];exact G.symm⟩ ?_
 rintro⟨k,vo,l⟩ g Y ⟨hk,ha,hl,hi,hR⟩;simp only[]at hk hl hi hR;refine Qc<|QZ U U<|xe<|Qd<|QG U (λhb=>?_) (λhb=>?_)
 ·refine Qy ?_;have h3:xs.length<=k:=by have h4:¬(k:Int)<(xs.length:Int):=hb;omega
  rw[Lq (by rw[Lh];exact h3),Qbb]at hR;refine Qm<|x Ql<|Qb<|Qk ⟨[vo,oF oG 0],oA,ha,vo,l,by rw[<-hR];rfl,hl,λ_=>⟨by rw[<-hR],hi⟩⟩
 have I:k<xs.length:=by have h4:(k:Int)<(xs.length:Int):=hb;omega
 have h5:k<(xs.map YT.e).length:=by rw[Lh];exact I
 rw[LE h5,Mq,Qbb]at hR;have hj:=Ll I;have hm:jl [] Y.heap vx xs:=Go.Lg.KX.I hx ha;refine Qh<|Qd<|Qf<|Qc<|O8 (g:=ZO) (i:=k) Qme hm.arr U U I λhL hn=>?_;refine Zk (xs[k]'I) λe he=>?_;rw[he]at hn hj hR;have ho:X7 [] Y.heap e.q:=hm.each e hj;refine x (Qx hn U U)<|Qe<|Qo (us:=[.bool false,oF oG 0,.string .empty,nS,oF oG 0,nS,nS,nS,nS,oF oG 0]) U λb9 w4 h6 h7 h8=>Qe<|Qj (us:=ZO e) h8 U U U U (Qkv.ones ho) λw5 h9 T=>xe ?_;have hc:O5 [] Y w5:=h6.O h9 h7;have hf:=ha.D hc;have hp:=hf.size;have hA:=hl.I hc;have hq:Kx [] w5.heap vo l:=Ju.dits hA oa oe;have hB:=ho.I hc;refine Qc<|Qb<|Q3 (α:=O2×List DV) [(7,7),(10,10),(24,43)] (λz=>[(7,z.1),(10,oF oG (jf (l.map DV.it) e.e).1)]) (λz w'=>O5 [] w w'/\Ju w.heap.size w' z.1 z.2/\((jf (l.map DV.it) e.e).1=0->z.2.map DV.it=(jf (l.map DV.it) e.e).2/\z.2.length<=76)) ol ?_ ?_
 ·refine Qc<|Qs U T U U<|xe<|QX U (λhg=>?_) (λhg=>?_)
  ·have e1:jf (l.map DV.it) e.e=qZ (l.map DV.it) e.q.kd e.q.nm:=OU hg;rw[e1];refine Qw<|Qa<|Q2 U<|Qs U T U U<|Q2 U<|Q2 U<|x (Qq T U U) <|
    QM<|(QmZ hq e.q.kd e.q.nm).mono ?_
   rintro r7 w7 ⟨hC,v7,l7,rfl,hE,hr⟩;refine Qa<|Q7 U U<|Q7 U U<|x Ql<|Qb<|⟨(v7,l7),oA,hf.D hC,hE.base hp,λE=>⟨hr E,?_⟩⟩;have J:=Qmq E;rw[<-hr E,Lh]at J;exact J
  have e1:jf (l.map DV.it) e.e=qY (l.map DV.it) e.q.it:=OT (by show ¬e.dr=true;rw[hg];decide);rw[e1];refine Qw<|Qa<|Q2 U<|x (Zj (us:=Qv e.q) T U U U)<|QM<|(Qpc hq hB).mono ?_;rintro r6 w6 ⟨hF,v6,l6,rfl,hG,hs⟩;refine Qa<|Q7 U U<|Q7 U U<|x Ql<|Qb<|⟨(v6,l6),oA,hf.D hF,hG.base hp,λE=>⟨hs E,?_⟩⟩;have J:=Qml E;rw[<-hs E,Lh]at J;exact J
 rintro⟨v8,l8⟩ g w8 ⟨ht,hu,V⟩;simp only[]at hu V;refine Qm<|ZA U U<|xe<|QY rfl (λO=>?_) (λO=>?_)
 ·rw[OU O]at hR;refine Qm<|x Ql<|Qb<|Qk ⟨[nS,oF oG (jf (l.map DV.it) e.e).1],oA,ht,nS,[],by rw[<-hR];rfl,Yn.nil,λE=>OW (by rw[<-hR]at E;exact E) O⟩
 rw[OT O]at hR;obtain⟨V,hH⟩:=V (Lo.1 O);refine Qh<|Qw<|QP U U<|Qa<|xe ?_;exact⟨(k+1,v8,l8),oh,oA,I,ht,hu,hH,by simp only[];rw[V];exact hR⟩
structure zH where
 vc:O2
 lc:List IV
 vr:O2
 lr:List IV
 vx:O2
 lx:List XV
 vk:O2
 lk:List KV
def zH.bl (z:zH):LN:=ob z.vc++(ob z.vr++(ob z.vx++ob z.vk))
structure CeA (L:LN)(H:xC)(z:zH):Prop where
 c:∀q∈z.lc,IvA L H q
 r:∀q∈z.lr,IvA L H q
 x:∀q∈z.lx,XvA L H q
 k:∀q∈z.lk,KvA L H q
instance:Mm CeA:=⟨λh G=>⟨λq E=>(h.c q E).st G,λq E=>(h.r q E).st G,λq E=>(h.x q E).st G,λq E=>(h.k q E).st G⟩,λh H=>⟨λq E=>(h.c q E).up H,λq E=>(h.r q E).up H,λq E=>(h.x q E).up H,λq E=>(h.k q E).up H⟩⟩
theorem Mm.own {E:LN->Array Obj->α->Prop}[Mm E]{O O' LL:LN}{q:α}(h:E (O++LL) w.heap q)(H:O5 X w w')(I:∀b∈X,b∈O\/b∈LL)(J:∀b∈O',b∈O\/w.heap.size<=b):E (O'++LL) w'.heap q:=by
 have S:E (O'++(O++LL)) w.heap q:=Mm.up h λb G=>(Lc.1 G).elim (λG=>(J b G).imp (λh=>Lc.2 (.inl h)) id) .inl;refine Mm.mono (Mm.st S (H.mono λb G=>Lc.2 (.inr (Lc.2 (I b G))))) λb G=>?_;exact(Lc.1 G).elim (λG=>Lc.2 (.inl G)) λG=>Lc.2 (.inr (Lc.2 (.inr G)))
structure CwI (LL:LN)(B:Nat)(w:O1)(b7:Nat)(ve:O2)(z:zH):Prop where
 b:∃T,Zb w.heap b7 T [ve,z.vc,z.vr,z.vx,z.vk]
 oc:w.ownsRow B 71 5 z.vc z.lc.length (z.lc.flatMap QO)
 or:w.ownsRow B 71 5 z.vr z.lr.length (z.lr.flatMap QO)
 ox:w.ownsRow B 116 2 z.vx z.lx.length (z.lx.flatMap Q8)
 ok:w.ownsRow B 121 3 z.vk z.lk.length (z.lk.flatMap Zd)
 e:CeA (z.bl++LL) w.heap z
 dcr:∀b∈ob z.vc,b∉ob z.vr
 dcx:∀b∈ob z.vc,b∉ob z.vx
 dck:∀b∈ob z.vc,b∉ob z.vk
 drx:∀b∈ob z.vr,b∉ob z.vx
 drk:∀b∈ob z.vr,b∉ob z.vk
 dxk:∀b∈ob z.vx,b∉ob z.vk
section
variable {LL:LN}{w8 w9:O1}{b7:Nat}{z:zH}
theorem CwI.I (h:CwI LL B w b7 ve z)(E:O5 [] w w8):CwI LL B w8 b7 ve z:=by
 obtain⟨T,G⟩:=h.b;exact⟨⟨T,G.I E⟩,Qp h.oc E,Qp h.or E,Qp h.ox E,Qp h.ok E,Mm.I h.e E,h.dcr,h.dcx,h.dck,h.drx,h.drk,h.dxk⟩
theorem CwI.ge (h:CwI LL B w b7 ve z):∀b∈z.bl,B<=b/\b<w.heap.size:=λb E=>by
 unfold zH.bl at E;rcases Lc.1 E with E|E
 ·exact Qi h.oc b E
 rcases Lc.1 E with E|E
 ·exact Qi h.or b E
 rcases Lc.1 E with E|E
 ·exact Qi h.ox b E
 exact Qi h.ok b E
theorem CwI.ap_c (h:CwI LL B w b7 ve z){H:O2}{q:IV}(Y:IvA (z.bl++LL) w.heap q)(V:w8.ownsRow B 71 5 H (z.lc.length+1) (z.lc.flatMap QO++QO q))(O:O5 (ob z.vc) w w8)(S:∀b∈ob H,b∈ob z.vc\/w.heap.size<=b)
  (J:O5 [b7] w8 w9) (ha:∃T,Zb w9.heap b7 T [ve,H,z.vr,z.vx,z.vk]) (h7:b7<B) (hL:b7∈LL):CwI LL B w9 b7 ve { z with vc:=H,lc:=z.lc++[q] }:=by
 have gr:=Qi h.or;have gx:=Qi h.ox;have gk:=Qi h.ok;have g8:=Qi V;have hc:w8.ownsRow B 71 5 H (z.lc++[q]).length ((z.lc++[q]).flatMap QO):=by
  rw[Lk,LA];simpa using V
 have he:∀b∈ob z.vc,b∈z.bl:=λb E=>by
  unfold zH.bl;simp only[oV];exact .inl E
 have hz:CeA (z.bl++LL) w.heap { z with vc:=H,lc:=z.lc++[q] }:=⟨λd hd=>(Lc.1 hd).elim (h.e.c d) λhd=>by rw[Lb.1 hd];exact Y,h.e.r,h.e.x,h.e.k⟩
 have hf:CeA ((zH.bl { z with vc:=H,lc:=z.lc++[q] })++LL) w8.heap { z with vc:=H,lc:=z.lc++[q] }:=Mm.own hz O (λb E=>.inl (he b E)) λb E=>by
  unfold zH.bl at E ⊢;simp only[oV]at E ⊢;rcases E with E|E|E|E
  ·exact(S b E).imp (λE=>.inl E) id
  ·exact .inl (.inr (.inl E))
  ·exact .inl (.inr (.inr (.inl E)))
  exact .inl (.inr (.inr (.inr E)))
 refine⟨ha,Qg hc J (λb E G=>by rw[Lb.1 G]at E;have:=g8 b7 E;omega),Qg (Qg h.or O (λb E G=>h.dcr b G E)) J (λb E G=>by rw[Lb.1 G]at E;have:=gr b7 E;omega),Qg (Qg h.ox O (λb E G=>h.dcx b G E)) J (λb E G=>by rw[Lb.1 G]at E;have:=gx b7 E;omega),Qg (Qg h.ok O (λb E G=>h.dck b G E)) J (λb E G=>by rw[Lb.1 G]at E;have:=gk b7 E;omega),Mm.own hf J (λb E=>.inr (by rw[Lb.1 E];exact hL)) (λb E=>.inl E),λb E G=>(S b E).elim (λI=>h.dcr b I G) (λI=>ou (gr b G)),λb E G=>(S b E).elim (λI=>h.dcx b I G) (λI=>ou (gx b G)),λb E G=>(S b E).elim (λI=>h.dck b I G) (λI=>ou (gk b G)),h.drx,h.drk,h.dxk⟩
theorem CwI.ap_r (h:CwI LL B w b7 ve z){H:O2}{q:IV}(Y:IvA (z.bl++LL) w.heap q)(V:w8.ownsRow B 71 5 H (z.lr.length+1) (z.lr.flatMap QO++QO q))(O:O5 (ob z.vr) w w8)(S:∀b∈ob H,b∈ob z.vr\/w.heap.size<=b)
  (J:O5 [b7] w8 w9) (ha:∃T,Zb w9.heap b7 T [ve,z.vc,H,z.vx,z.vk]) (h7:b7<B) (hL:b7∈LL):CwI LL B w9 b7 ve { z with vr:=H,lr:=z.lr++[q] }:=by
 have gc:=Qi h.oc;have gx:=Qi h.ox;have gk:=Qi h.ok;have g8:=Qi V;have hc:w8.ownsRow B 71 5 H (z.lr++[q]).length ((z.lr++[q]).flatMap QO):=by
  rw[Lk,LA];simpa using V
 have he:∀b∈ob z.vr,b∈z.bl:=λb E=>by
  unfold zH.bl;simp only[oV];exact .inr (.inl E)
 have hz:CeA (z.bl++LL) w.heap { z with vr:=H,lr:=z.lr++[q] }:=⟨h.e.c,λd hd=>(Lc.1 hd).elim (h.e.r d) λhd=>by rw[Lb.1 hd];exact Y,h.e.x,h.e.k⟩
 have hf:CeA ((zH.bl { z with vr:=H,lr:=z.lr++[q] })++LL) w8.heap { z with vr:=H,lr:=z.lr++[q] }:=Mm.own hz O (λb E=>.inl (he b E)) λb E=>by
  unfold zH.bl at E ⊢;simp only[oV]at E ⊢;rcases E with E|E|E|E
  ·exact .inl (.inl E)
  ·exact(S b E).imp (λE=>.inr (.inl E)) id
  ·exact .inl (.inr (.inr (.inl E)))
  exact .inl (.inr (.inr (.inr E)))
 refine⟨ha,Qg (Qg h.oc O (λb E G=>h.dcr b E G)) J (λb E G=>by rw[Lb.1 G]at E;have:=gc b7 E;omega),Qg hc J (λb E G=>by rw[Lb.1 G]at E;have:=g8 b7 E;omega),Qg (Qg h.ox O (λb E G=>h.drx b G E)) J (λb E G=>by rw[Lb.1 G]at E;have:=gx b7 E;omega),Qg (Qg h.ok O (λb E G=>h.drk b G E)) J (λb E G=>by rw[Lb.1 G]at E;have:=gk b7 E;omega),Mm.own hf J (λb E=>.inr (by rw[Lb.1 E];exact hL)) (λb E=>.inl E),λb E G=>(S b G).elim (λI=>h.dcr b E I) (λI=>ou (gc b E)),h.dcx,h.dck,λb E G=>(S b E).elim (λI=>h.drx b I G) (λI=>ou (gx b G)),λb E G=>(S b E).elim (λI=>h.drk b I G) (λI=>ou (gk b G)),h.dxk⟩
theorem CwI.ap_x (h:CwI LL B w b7 ve z){H:O2}{q:XV}(Y:XvA (z.bl++LL) w.heap q)(V:w8.ownsRow B 116 2 H (z.lx.length+1) (z.lx.flatMap Q8++Q8 q))(O:O5 (ob z.vx) w w8)(S:∀b∈ob H,b∈ob z.vx\/w.heap.size<=b)
  (J:O5 [b7] w8 w9) (ha:∃T,Zb w9.heap b7 T [ve,z.vc,z.vr,H,z.vk]) (h7:b7<B) (hL:b7∈LL):CwI LL B w9 b7 ve { z with vx:=H,lx:=z.lx++[q] }:=by
 have gc:=Qi h.oc;have gr:=Qi h.or;have gk:=Qi h.ok;have g8:=Qi V;have hc:w8.ownsRow B 116 2 H (z.lx++[q]).length ((z.lx++[q]).flatMap Q8):=by
  rw[Lk,LA];simpa using V
 have he:∀b∈ob z.vx,b∈z.bl:=λb E=>by
  unfold zH.bl;simp only[oV];exact .inr (.inr (.inl E))
 have hz:CeA (z.bl++LL) w.heap { z with vx:=H,lx:=z.lx++[q] }:=⟨h.e.c,h.e.r,λd hd=>(Lc.1 hd).elim (h.e.x d) λhd=>by rw[Lb.1 hd];exact Y,h.e.k⟩
 have hf:CeA ((zH.bl { z with vx:=H,lx:=z.lx++[q] })++LL) w8.heap { z with vx:=H,lx:=z.lx++[q] }:=Mm.own hz O (λb E=>.inl (he b E)) λb E=>by
  unfold zH.bl at E ⊢;simp only[oV]at E ⊢;rcases E with E|E|E|E
  ·exact .inl (.inl E)
  ·exact .inl (.inr (.inl E))
  ·exact(S b E).imp (λE=>.inr (.inr (.inl E))) id
  exact .inl (.inr (.inr (.inr E)))
 refine⟨ha,Qg (Qg h.oc O (λb E G=>h.dcx b E G)) J (λb E G=>by rw[Lb.1 G]at E;have:=gc b7 E;omega),Qg (Qg h.or O (λb E G=>h.drx b E G)) J (λb E G=>by rw[Lb.1 G]at E;have:=gr b7 E;omega),Qg hc J (λb E G=>by rw[Lb.1 G]at E;have:=g8 b7 E;omega),Qg (Qg h.ok O (λb E G=>h.dxk b G E)) J (λb E G=>by rw[Lb.1 G]at E;have:=gk b7 E;omega),Mm.own hf J (λb E=>.inr (by rw[Lb.1 E];exact hL)) (λb E=>.inl E),h.dcr,λb E G=>(S b G).elim (λI=>h.dcx b E I) (λI=>ou (gc b E)),h.dck,λb E G=>(S b G).elim (λI=>h.drx b E I) (λI=>ou (gr b E)),h.drk,λb E G=>(S b E).elim (λI=>h.dxk b I G) (λI=>ou (gk b G))⟩
theorem CwI.ap_k (h:CwI LL B w b7 ve z){H:O2}{q:KV}(Y:KvA (z.bl++LL) w.heap q)(V:w8.ownsRow B 121 3 H (z.lk.length+1) (z.lk.flatMap Zd++Zd q))(O:O5 (ob z.vk) w w8)(S:∀b∈ob H,b∈ob z.vk\/w.heap.size<=b)
  (J:O5 [b7] w8 w9) (ha:∃T,Zb w9.heap b7 T [ve,z.vc,z.vr,z.vx,H]) (h7:b7<B) (hL:b7∈LL):CwI LL B w9 b7 ve { z with vk:=H,lk:=z.lk++[q] }:=by
 have gc:=Qi h.oc;have gr:=Qi h.or;have gx:=Qi h.ox;have g8:=Qi V;have hc:w8.ownsRow B 121 3 H (z.lk++[q]).length ((z.lk++[q]).flatMap Zd):=by
  rw[Lk,LA];simpa using V
 have he:∀b∈ob z.vk,b∈z.bl:=λb E=>by
  unfold zH.bl;simp only[oV];exact .inr (.inr (.inr E))
 have hz:CeA (z.bl++LL) w.heap { z with vk:=H,lk:=z.lk++[q] }:=⟨h.e.c,h.e.r,h.e.x,λd hd=>(Lc.1 hd).elim (h.e.k d) λhd=>by rw[Lb.1 hd];exact Y⟩
 have hf:CeA ((zH.bl { z with vk:=H,lk:=z.lk++[q] })++LL) w8.heap { z with vk:=H,lk:=z.lk++[q] }:=Mm.own hz O (λb E=>.inl (he b E)) λb E=>by
  unfold zH.bl at E ⊢;simp only[oV]at E ⊢;rcases E with E|E|E|E
  ·exact .inl (.inl E)
  ·exact .inl (.inr (.inl E))
  ·exact .inl (.inr (.inr (.inl E)))
  exact(S b E).imp (λE=>.inr (.inr (.inr E))) id
 refine⟨ha,Qg (Qg h.oc O (λb E G=>h.dck b E G)) J (λb E G=>by rw[Lb.1 G]at E;have:=gc b7 E;omega),Qg (Qg h.or O (λb E G=>h.drk b E G)) J (λb E G=>by rw[Lb.1 G]at E;have:=gr b7 E;omega),Qg (Qg h.ox O (λb E G=>h.dxk b E G)) J (λb E G=>by rw[Lb.1 G]at E;have:=gx b7 E;omega),Qg hc J (λb E G=>by rw[Lb.1 G]at E;have:=g8 b7 E;omega),Mm.own hf J (λb E=>.inr (by rw[Lb.1 E];exact hL)) (λb E=>.inl E),h.dcr,h.dcx,λb E G=>(S b G).elim (λI=>h.dck b E I) (λI=>ou (gc b E)),h.drx,λb E G=>(S b G).elim (λI=>h.drk b E I) (λI=>ou (gr b E)),λb E G=>(S b G).elim (λI=>h.dxk b E I) (λI=>ou (gx b E))⟩
end
def yX (ev:List J9)(z:zH):ZB:=⟨ev,z.lc.map IV.it,z.lr.map IV.it,z.lx.map XV.x,z.lk.map KV.k⟩
theorem QgC (all:List Yc)(x:Yc)(l:List Yc)(c:ZB):QgD all (x::l) c=if(Kq all x c).1≠0 then((Kq all x c).1,UN)else QgD all l (Kq all x c).2:=rfl
theorem Qra {all:List Yc}{ev:List J9}{z:zH}(h:q.kd=1)(v:O2):Kq all q.it (yX ev z)=(0,yX ev { z with vc:=v,lc:=z.lc++[⟨q.nm,q.p⟩] }):=by
 unfold Kq;rw[OU (show q.it.kd=1 from h)];unfold yX;simp only[Oi];rfl
theorem Qq9 {all:List Yc}{ev:List J9}{z:zH}(h:q.kd=2)(v:O2):Kq all q.it (yX ev z)=(0,yX ev { z with vr:=v,lr:=z.lr++[⟨q.nm,q.p⟩] }):=by
 unfold Kq;rw[OT (show ¬q.it.kd=1 from λe=>by rw[show q.it.kd=q.kd from rfl,h]at e;cases e),OU (show q.it.kd=2 from h)];unfold yX;simp only[Oi];rfl
theorem Qq8 {all:List Yc}{ev:List J9}{z:zH}(h:q.kd=3):(Kq all q.it (yX ev z)).1=(Yv all q.ls [] []).1/\((Yv all q.ls [] []).1=0->∀v u,Kq all q.it (yX ev z)=(0,yX ev { z with vx:=v,lx:=z.lx++[⟨q.nm,u,(Yv all q.ls [] []).2⟩] })):=by
 have e:Kq all q.it (yX ev z)=if(Yv all q.ls [] []).1≠0 then((Yv all q.ls [] []).1,UN)else(0,{ yX ev z with ex:=(yX ev z).ex++[⟨q.nm,(Yv all q.ls [] []).2⟩] }):=by
  unfold Kq;rw[OT (show ¬q.it.kd=1 from λe=>by rw[show q.it.kd=q.kd from rfl,h]at e;cases e),OT (show ¬q.it.kd=2 from λe=>by rw[show q.it.kd=q.kd from rfl,h]at e;cases e),OU (show q.it.kd=3 from h)];rfl
 rw[e];refine⟨?_,λE v u=>?_⟩
 ·split
  ·rfl
  rename_i G;exact(Lo.1 G).symm
 rw[OT (not_not_intro E)];unfold yX;simp only[Oi];rfl
theorem Qq7 {all:List Yc}{ev:List J9}{z:zH}(h:q.kd=4):(Kq all q.it (yX ev z)).1=(Yv all q.ts [] []).1/\((Yv all q.ts [] []).1=0->∀v u,Kq all q.it (yX ev z)=(0,yX ev { z with vk:=v,lk:=z.lk++[⟨q.nm,u,(Yv all q.ts [] []).2,q.bd⟩] })):=by
 have e:Kq all q.it (yX ev z)=if(Yv all q.ts [] []).1≠0 then((Yv all q.ts [] []).1,UN)else(0,{ yX ev z with cs:=(yX ev z).cs++[⟨q.nm,(Yv all q.ts [] []).2,q.bd⟩] }):=by
  unfold Kq;rw[OT (show ¬q.it.kd=1 from λe=>by rw[show q.it.kd=q.kd from rfl,h]at e;cases e),OT (show ¬q.it.kd=2 from λe=>by rw[show q.it.kd=q.kd from rfl,h]at e;cases e),OT (show ¬q.it.kd=3 from λe=>by rw[show q.it.kd=q.kd from rfl,h]at e;cases e),OU (show q.it.kd=4 from h)];rfl
 rw[e];refine⟨?_,λE v u=>?_⟩
 ·split
  ·rfl
  rename_i G;exact(Lo.1 G).symm
 rw[OT (not_not_intro E)];unfold yX;simp only[Oi];rfl
theorem Qrb {all:List Yc}(E:¬q.kd=1)(G:¬q.kd=2)(H:¬q.kd=3)(I:¬q.kd=4):Kq all q.it c=(0,c):=by
 unfold Kq;rw[OT (show ¬q.it.kd=1 from E),OT (show ¬q.it.kd=2 from G),OT (show ¬q.it.kd=3 from H),OT (show ¬q.it.kd=4 from I)]
theorem yE (all:List Yc):∀(r:List (ByteArray×Int)) (tk:LI) (o:xx),(Yv all r tk o).2.length<=o.length+r.length
 | [],tk,o=>by rw[Yv];exact Nat.le_of_eq ((qi (λp:Int×Int=>p.1) o).length_eq)
 | y::r,tk,o=>by
  rw[Yv];split
  ·simp
  split
  ·simp
  refine LJ (yE all r _ _) ?_;simp only[oM,oW,OG];omega
theorem QjB {v:O2}{ev:List J9}{es:List DV}(ka:VQ L w.heap ve ev)(h0:Kx L' w.heap v es)(E:∀q∈es.map DV.it,q.ls.length<=100000/\q.ts.length<=100000):
  Q6 prog 47 [ve,v] w λr w'=>O5 [] w w'/\∃cm:CL,r=.tuple #[.agg cm.cells.toArray,oF oG (VN ev (es.map DV.it)).1]/\Zr cm.cells/\((VN ev (es.map DV.it)).1=0->cm.V=(VN ev (es.map DV.it)).2/\∀L:LN,(∀b∈L,b<w.heap.size)->ZK L w'.heap cm):=by
 have h:=h0.up (L':=[]) oe;have hE:=ka.up (L':=[]) oe;have kb:=hE.arr.le;have hn:VN ev (es.map DV.it)=if KB (es.map DV.it)≠0 then(KB (es.map DV.it),UN)else QgD (es.map DV.it) (es.map DV.it) ⟨ev,[],[],[],[]⟩:=rfl
 have hO:Zr (CL.mk Zs Zs Zs Zs Zs [] [] [] [] []).cells:=⟨U,U,U,U,U,Z⟩;refine Zk (VN ev (es.map DV.it)) λD hD=>?_;rw[hD]at hn ⊢;refine Zq func47 ?_;refine Qc<|Qe<|Qo (us:=Z6) U λb4 w1 g0 mu hP=>Qb<|Qd<|Qm<|QM<|(JE (h.I g0)).mono ?_;rintro r2 w2 ⟨rfl,hA⟩;have hQ:=g0.D hA;have mv:=hA.size;have mw:=hP.lt;refine Qb<|Qm<|ZA U U<|xe<|QY rfl (λhu=>?_) (λhu=>?_)
 ·rw[OU hu]at hn;refine Qc<|x (Qz Z)<|Qa<|Qe<|Qj (us:=Z6) (hP.I hA) U U U U ⟨U,U,U,U,U,Z⟩ λw3 kc ke=>Qb<|Qk ⟨[.agg Z6.toArray,oF oG (KB (es.map DV.it))],⟨⟨_,U,Qn U (ke.at (L:=[]) oe).cells⟩,rfl,Z⟩,hQ.O kc oa,CL.mk Zs Zs Zs Zs Zs [] [] [] [] [],by rw[hn];rfl,hO,λh0=>OW (by rw[hn]at h0;exact h0) hu⟩
 rw[OT hu]at hn;have my:es.length<=76:=by have:=Vm (Lo.1 hu);rwa [Lh]at this
 refine Qh<|Qm<|QM<|(V9 (hE.I hQ).arr).mono ?_;rintro re w4 ⟨hS,hv⟩;have mz:=hS.size;refine x (Qz ⟨xM hv,Z⟩)<|Qe<|Qo (us:=Z6) U λI w5 kf kg kh=>Qe<|Qj (us:=[re,Zs,Zs,Zs,Zs]) kh U U U U ⟨Qt hv,U,U,U,U,Z⟩ λw6 ki g2=>xe ?_;have hT:O5 [] w4 w6:=kf.O ki kg;have g3:=(hQ.D hS).D hT;have kj:=g2.lt;have hge:=Qi hv;refine Qd<|Qm<|QM<|(J5 (h.I g3) oa).mono ?_;rintro r7 w8 ⟨hw,l,hl,T⟩;have m2:l.length=es.length:=by have:=OV oP T;rwa [Lh,Lh]at this
 have kk:=g3.D hw;have m3:=hw.size;have kn:Zn [] w8.heap r7 l.length 9 (l.flatMap Qv):=QJ hl.own oa oe;have ko:=g2.I hw;have hU:=((hP.I hA).I hS).I (hT.D hw);have kq:=Qp (Qp hv hT) hw;rw[<-T]at hn E;refine QK kn U<|Qa<|xe<|Qf<|QD (α:=Nat×zH) [(5,5),(9,13),(26,100)] (λz=>[(26,oF oG z.1)]) (λz w'=>z.1<=l.length/\O5 [I] w8 w'/\(∀L:LN,(∀b∈L,b<w.heap.size)->CwI (b4::I::L) w8.heap.size w' I re z.2)/\QgD (l.map DV.it) ((l.drop z.1).map DV.it) (yX ev z.2)=D/\(z.2.lc.length<=z.1/\z.2.lr.length<=z.1/\z.2.lx.length<=z.1/\z.2.lk.length<=z.1))
  (λz=>l.length - z.1) ol (0,⟨Zs,[],Zs,[],Zs,[],Zs,[]⟩) La ⟨Ln _,O5.Z _ _,λL _=>⟨⟨_,ko⟩,QL _ _ _ _,QL _ _ _ _,QL _ _ _ _,QL _ _ _ _,⟨oe,oe,oe,oe⟩,by simp[ob],by simp[ob],by simp[ob],by simp[ob],by simp[ob],by simp[ob]⟩,by rw[List.drop_zero];exact hn.symm,Lu _,Lu _,Lu _,Lu _⟩ ?_
 rintro⟨k,z⟩ g w9 ⟨hk,hf,hI,hR,kr,kt,ku,kv⟩;simp only[]at hk hI hR kr kt ku kv;have g4:O5 [] w w9:=kk.O hf oa;have m4:=hf.size;have hg:=hI [] oe;refine Qc<|QZ U U<|xe<|Qd<|QG U (λhV=>?_) (λhV=>?_)
 ·refine Qy ?_;have kw:l.length<=k:=by have kx:¬(k:Int)<(l.length:Int):=hV;omega
  rw[Lq kw]at hR;have g5:D=(0,yX ev z):=hR.symm;refine Exists.elim hg.b λT7 kz=>?_;have k0:=hU.J hf om;have g6:Zr [re,z.vc,z.vr,z.vx,z.vk]:=⟨Qt hv,Qt hg.oc,Qt hg.or,Qt hg.ox,Qt hg.ok,Z⟩;refine Qc<|Q5 kz U U<|Qe<|Qj (us:=[re,z.vc,z.vr,z.vx,z.vk]) k0 U U U U g6 λk4 hB k5=>Qb<|Qk ⟨[.agg #[re,z.vc,z.vr,z.vx,z.vk],oF oG 0],⟨⟨_,U,Qn U (k5.at (L:=[]) oe).cells⟩,rfl,Z⟩,g4.O hB oa,CL.mk re z.vc z.vr z.vx z.vk ev z.lc z.lr z.lx z.lk,by rw[g5];rfl,g6,λ_=>⟨by rw[g5];rfl,λN hN=>?_⟩⟩;have V:=hI N hN;have hF:∀b∈b4::N,b<w8.heap.size:=λb E=>by
   rcases Li.1 E with rfl|E
   ·omega
   have:=hN b E;omega
  have hG:∀b∈b4::N,b∈z.bl++(b4::I::N):=λb E=>Lc.2 (.inr (by
   rcases Li.1 E with rfl|E
   ·exact Lr
   exact Lj _ (Lj _ E)))
  have k6:=Qg kq hf (λb E T=>by rw[Lb.1 T]at E;have:=(hge I E).2;omega);have hC:ZK (b4::N) w9.heap (CL.mk re z.vc z.vr z.vx z.vk ev z.lc z.lr z.lx z.lk):=
   ⟨⟨QJ k6 kb (λb E hbL=>by
     have h1:=hge b E;rcases Li.1 hbL with rfl|hbL
     ·omega
     have:=hN b hbL;omega),hE.nm⟩,
    ⟨QJ V.oc (show z.lc.length<=1099511627776 by omega) (λb E hbL=>by have h1:=(Qi V.oc b E).1;have:=hF b hbL;omega),λq O=>((V.e.c q O).a.up λb E=>.inl (hG b E)),λq O=>(V.e.c q O).nm⟩,
    ⟨QJ V.or (show z.lr.length<=1099511627776 by omega) (λb E hbL=>by have h1:=(Qi V.or b E).1;have:=hF b hbL;omega),λq O=>((V.e.r q O).a.up λb E=>.inl (hG b E)),λq O=>(V.e.r q O).nm⟩,
    ⟨QJ V.ox (show z.lx.length<=1099511627776 by omega) (λb E hbL=>by have h1:=(Qi V.ox b E).1;have:=hF b hbL;omega),λq O=>((V.e.x q O).l.up λb E=>.inl (hG b E)),λq O=>(V.e.x q O).nm⟩,
    ⟨QJ V.ok (show z.lk.length<=1099511627776 by omega) (λb E hbL=>by have h1:=(Qi V.ok b E).1;have:=hF b hbL;omega),λq O=>((V.e.k q O).l.up λb E=>.inl (hG b E)),λq O=>(V.e.k q O).nm⟩⟩
  exact(hC.st (hB.mono oe)).up λb E=>.inl (Lj _ E)
 have hh:k<l.length:=by have kx:(k:Int)<(l.length:Int):=hV;omega
 rw[LE hh,LK,QgC]at hR;have hW:=Ll hh;have k7:Zn [] w9.heap r7 l.length 9 (l.flatMap Qv):=((QJ hl.own oa (λb E T=>by rw[Lb.1 T]at E;have:=(Qi hl.own I E).1;omega):Zn [I] w8.heap r7 l.length 9 (l.flatMap Qv)).st hf).up oe;refine Qh<|Qd<|Qf<|Qc<|O8 (g:=Qv) (i:=k) ZW k7 U U hh λm5 g7=>?_;refine Zk (l[k]'hh) λq O=>?_;rw[O]at g7 hW hR;have hH:=E q.it (LO hW);have g8:∀L:LN,(∀b∈L,b<w.heap.size)->X7 (z.bl++(b4::I::L)) w9.heap q:=λL J=>by
  have h1:X7 (b4::I::L) w8.heap q:=hl.each q hW _ λb E=>.inl (by
   simp only[oL]at E;rcases E with rfl|rfl|E
   ·omega
   ·exact kj
   have:=J b E;omega)
  have S:X7 (z.bl++(b4::I::L)) w8.heap q:=h1.up λb E=>by
   rcases Lc.1 E with E|E
   ·exact .inr ((hI L J).ge b E).1
   exact .inl E
  exact S.st (hf.mono oe)
 have ha:X7 [] w9.heap q:=(g8 [] oe).up oe;refine x (Qx g7 U U)<|Qe<|Qo (us:=z9) U λb9 k4 hB k8 k9=>Qe<|Qj (us:=Qv q) k9 U U U U ha.ones λhs ma he=>xe ?_;have hi:O5 [] w9 hs:=hB.O ma k8;have hJ:=g4.D hi;have m6:=hi.size;have hj:∀L:LN,(∀b∈L,b<w.heap.size)->CwI (b4::I::L) w8.heap.size hs I re z:=λL J=>(hI L J).I hi;have hy:=hj [] oe;refine Exists.elim hy.b λT7 ht=>?_;have gc:=Qi hg.oc;have gr:=Qi hg.or;have gx:=Qi hg.ox;have gk:=Qi hg.ok;have n7c:I∉ob z.vc:=λT=>ou (gc I T).1
 have n7r:I∉ob z.vr:=λT=>ou (gr I T).1
 have n7x:I∉ob z.vx:=λT=>ou (gx I T).1
 have n7k:I∉ob z.vk:=λT=>ou (gk I T).1
 have g9:∀L:LN,(∀b∈L,b<w.heap.size)->X7 (z.bl++(b4::I::L)) hs.heap q:=λL J=>(g8 L J).I hi;have hz:O5 [I] w8 hs:=hf.D hi;refine Qc<|Qs U he U U<|xe<|Qf<|Qc<|x (Q0 U U)<|Qb<|QY U (λhX=>?_) (λhX=>?_)
 ·have hk1:q.kd=1:=hX;refine Qw<|Qs U ht U U<|Qs U he U U<|Q2 U<|x (Zj (us:=[q.p.va,oF oG q.p.a.st,q.p.vm,q.p.ve]) he U U U)<|x (Zf [(0,[.string q.nm]),(1,[q.p.va,oF oG q.p.a.st,q.p.vm,q.p.ve])] ⟨U,U,U,U,Z⟩) <|
   Qe<|QC (us:=[QO ⟨q.nm,q.p⟩]) U U og (by exact(by decide:1*5<=1000000)) oA λmf hY G mg hZ=>Qe<|Za (m:=1) (news:=QO ⟨q.nm,q.p⟩) (L:=[]) (hy.I G).oc U U U (hZ.at oe) (Zr.all (IvA.ones ⟨ha.a,ha.nm⟩)) (show z.lc.length+1<=1099511627776 by omega) (ou G.size) λho h3 h4 H ga =>
   Q2 rfl<|Qe<|QB (j:=1) (u:=ho) ((ht.I G).J H n7c) U U oe (Qt h4) λgb Y gg=>xe ?_
  have e:=Qra (all:=l.map DV.it) (ev:=ev) (z:=z) hk1 ho;rw[e,OT oe]at hR;refine Qw<|QP U U<|Qa<|xe<|⟨(k+1,{ z with vc:=ho,lc:=z.lc++[⟨q.nm,q.p⟩] }),oh,La,hh,((hz.D G).then H (λb E=>.inr (gc b E).1)).Q Y,λL J=>((hj L J).I G).ap_c ⟨((g9 L J).I G).a,ha.nm⟩ h4 H ga Y ⟨T7,gg⟩ oa oe,hR,?_⟩
  simp only[oM,oO];omega
 have hk1:¬q.kd=1:=hX;refine Qc<|x (Q0 U U)<|Qb<|QY U (λgh=>?_) (λgh=>?_)
 ·have gi:q.kd=2:=gh;refine Qw<|Qs U ht U U<|Qs U he U U<|Q2 U<|x (Zj (us:=[q.p.va,oF oG q.p.a.st,q.p.vm,q.p.ve]) he U U U)<|x (Zf [(0,[.string q.nm]),(1,[q.p.va,oF oG q.p.a.st,q.p.vm,q.p.ve])] ⟨U,U,U,U,Z⟩) <|
   Qe<|QC (us:=[QO ⟨q.nm,q.p⟩]) U U og (by exact(by decide:1*5<=1000000)) oA λmf hY G mg hZ=>Qe<|Za (m:=1) (news:=QO ⟨q.nm,q.p⟩) (L:=[]) (hy.I G).or U U U (hZ.at oe) (Zr.all (IvA.ones ⟨ha.a,ha.nm⟩)) (show z.lr.length+1<=1099511627776 by omega) (ou G.size) λho h3 h4 H ga =>
   Q2 rfl<|Qe<|QB (j:=2) (u:=ho) ((ht.I G).J H n7r) U U oe (Qt h4) λgb Y gg=>xe ?_
  have e:=Qq9 (all:=l.map DV.it) (ev:=ev) (z:=z) gi ho;rw[e,OT oe]at hR;refine Qw<|QP U U<|Qa<|xe<|⟨(k+1,{ z with vr:=ho,lr:=z.lr++[⟨q.nm,q.p⟩] }),oh,La,hh,((hz.D G).then H (λb E=>.inr (gr b E).1)).Q Y,λL J=>((hj L J).I G).ap_r ⟨((g9 L J).I G).a,ha.nm⟩ h4 H ga Y ⟨T7,gg⟩ oa oe,hR,?_⟩
  simp only[oM,oO];omega
 have gi:¬q.kd=2:=gh;refine Qc<|x (Q0 U U)<|Qb<|QY U (λgj=>?_) (λgj=>?_)
 ·have gl:q.kd=3:=gj;have h5:=yE (l.map DV.it) q.ls [] [];have hLk:=Qgc (w:=hs) (v:=v) (es:=es) (q:=q) (h.arr.I hJ) oa (ha.I hi) hH.1;rw[<-T]at hLk;have hp:=Qq8 (all:=l.map DV.it) (ev:=ev) (z:=z) gl;refine Zk (Yv (l.map DV.it) q.ls [] []) λR gm=>?_;rw[gm]at hLk hp h5;refine Qm<|Q5 he U U<|QM<|hLk.mono ?_;rintro mh hY ⟨G,vo,rfl,mj,gn⟩;refine Qa<|Q7 U U<|Q7 U U<|x Ql<|Qb<|Qd<|Qm<|ZA U U<|xe<|QY U (λhK=>?_) (λhK=>?_)
  ·rw[hp.1,OU hK]at hR;have go:=((hU.J hf om).I hi).I G;refine Qc<|x (Qz Z)<|Qa<|Qe<|Qj (us:=Z6) go U U U U ⟨U,U,U,U,U,Z⟩ λh3 H gp=>Qb<|Qk ⟨[.agg Z6.toArray,oF oG R.1],⟨⟨_,U,Qn U (gp.at (L:=[]) oe).cells⟩,rfl,Z⟩,(hJ.D G).O H oa,CL.mk Zs Zs Zs Zs Zs [] [] [] [] [],by rw[<-hR];rfl,hO,λh0=>OW (by rw[<-hR]at h0;exact h0) hK⟩
  have h6:=Lo.1 hK;have hc:=gn h6;have gq:=Qi hc;have mo:=G.size;have h7:=ht.I G;refine Qh<|Qw<|Qs U h7 U U<|Qs U (he.I G) U U<|Qa<|x (Qz ⟨U,xM hc,Z⟩)<|Qe<|QC (us:=[[.string q.nm,vo]]) U U og (by exact(by decide:1*2<=1000000)) oA λmq h3 H ms gs=>?_;have gt:=(hy.I G).I H;refine Qe<|Za (m:=1) (news:=[.string q.nm,vo]) (L:=[]) gt.ox U U U (gs.at oe) (Zr.all (us:=[.string q.nm,vo]) ⟨rfl,Qt hc,Z⟩) (show z.lx.length+1<=1099511627776 by omega) (ou H.size) λhr gb h8 Y gu =>
   Q2 rfl<|Qe<|QB (j:=3) (u:=hr) ((h7.I H).J Y n7x) U U oe (Qt h8) λmt h9 gv=>xe ?_
  have e:=hp.2 h6 hr vo;rw[e,OT oe]at hR;refine Qw<|QP U U<|Qa<|xe ?_;have gw:R.2.length<=1099511627776:=by
   have h1:=hc.1;exact LJ h5 (by have S:q.ls.length<=100000:=hH.1;simp only[OG];omega)
  refine⟨(k+1,{ z with vx:=hr,lx:=z.lx++[⟨q.nm,vo,R.2⟩] }),oh,La,hh,(((hz.D G).D H).then Y (λb E=>.inr (gx b E).1)).Q h9,λL J=>(((hj L J).I G).I H).ap_x ⟨(QJ hc gw (λb E hbL=>?_)).I H,ha.nm⟩ h8 Y gu h9 ⟨T7,gv⟩ oa oe,hR,?_⟩
  ·have h1:=(gq b E).1;rcases Lc.1 hbL with S|S
   ·have:=((hj L J).ge b S).2;omega
   simp only[oL]at S;rcases S with rfl|rfl|S
   ·omega
   ·omega
   have:=J b S;omega
  simp only[oM,oO];omega
 have gl:¬q.kd=3:=gj;refine Qc<|x (Q0 U U)<|Qb<|QG U (λgy=>?_) (λgy=>?_)
 ·have gz:¬q.kd=4:=gy;rw[Qrb hk1 gi gl gz,OT oe]at hR;refine Qh<|Qw<|QP U U<|Qa<|xe ?_;exact⟨(k+1,z),oh,La,hh,hz,hj,hR,oh⟩
 have gz:q.kd=4:=gy;have h5:=yE (l.map DV.it) q.ts [] [];have hLk:=Qhm (w:=hs) (v:=v) (es:=es) (q:=q) (h.arr.I hJ) oa (ha.I hi) hH.2;rw[<-T]at hLk;have hp:=Qq7 (all:=l.map DV.it) (ev:=ev) (z:=z) gz;refine Zk (Yv (l.map DV.it) q.ts [] []) λR gm=>?_;rw[gm]at hLk hp h5;refine Qm<|Q5 he U U<|QM<|hLk.mono ?_;rintro mh hY ⟨G,vo,rfl,mj,gn⟩;refine Qa<|Q7 U U<|Q7 U U<|x Ql<|Qb<|Qd<|Qm<|ZA U U<|xe<|QY rfl (λhM=>?_) (λhM=>?_)
 ·rw[hp.1,OU hM]at hR;have go:=((hU.J hf om).I hi).I G;refine Qc<|x (Qz Z)<|Qa<|Qe<|Qj (us:=Z6) go U U U U ⟨U,U,U,U,U,Z⟩ λh3 H gp=>Qb<|Qk ⟨[.agg Z6.toArray,oF oG R.1],⟨⟨_,U,Qn U (gp.at (L:=[]) oe).cells⟩,rfl,Z⟩,(hJ.D G).O H oa,CL.mk Zs Zs Zs Zs Zs [] [] [] [] [],by rw[<-hR];rfl,hO,λh0=>OW (by rw[<-hR]at h0;exact h0) hM⟩
 have h6:=Lo.1 hM;have hc:=gn h6;have gq:=Qi hc;have mo:=G.size;have h7:=ht.I G;refine Qh<|Qw<|Qs U h7 U U<|Qs U (he.I G) U U<|Qa<|Qs U (he.I G) U U<|x (Qz ⟨U,xM hc,U,Z⟩)<|Qe<|QC (us:=[[.string q.nm,vo,oF oG q.bd]]) U U og (by exact(by decide:1*3<=1000000)) oA λmq h3 H ms gs=>?_;have gt:=(hy.I G).I H;refine Qe<|Za (m:=1) (news:=[.string q.nm,vo,oF oG q.bd]) (L:=[]) gt.ok U U U (gs.at oe) (Zr.all (us:=[.string q.nm,vo,oF oG q.bd]) ⟨rfl,Qt hc,rfl,Z⟩) (show z.lk.length+1<=1099511627776 by omega) (ou H.size) λhr gb h8 Y gu =>
  Q2 rfl<|Qe<|QB (j:=4) (u:=hr) ((h7.I H).J Y n7k) U U oe (Qt h8) λmt h9 gv=>xe ?_
 have e:=hp.2 h6 hr vo;rw[e,OT oe]at hR;refine Qw<|QP U U<|Qa<|xe ?_;have gw:R.2.length<=1099511627776:=by
  have h1:=hc.1;exact LJ h5 (by have S:q.ts.length<=100000:=hH.2;simp only[OG];omega)
 refine⟨(k+1,{ z with vk:=hr,lk:=z.lk++[⟨q.nm,vo,R.2,q.bd⟩] }),oh,La,hh,(((hz.D G).D H).then Y (λb E=>.inr (gk b E).1)).Q h9,λL J=>(((hj L J).I G).I H).ap_k ⟨(QJ hc gw (λb E hbL=>?_)).I H,ha.nm⟩ h8 Y gu h9 ⟨T7,gv⟩ oa oe,hR,?_⟩
 ·have h1:=(gq b E).1;rcases Lc.1 hbL with S|S
  ·have:=((hj L J).ge b S).2;omega
  simp only[oL]at S;rcases S with rfl|rfl|S
  ·omega
  ·omega
  have:=J b S;omega
 simp only[oM,oO];omega
abbrev edV (s:Ki)(cm:CL)(vp:O2)(qs:List q9)(made:Int)(v24:O2)(q:yZ)(v16:O2)(b12 b13:Nat):Ki:=⟨s.b,⟨cm,vp,qs⟩,made,v24,s.rs++[q],v16,s.us++[⟨b12,b13,s.s⟩]⟩
theorem Qjo {wA wC wD wE wF wI wJ wK wN wP wM:O1}{s:Ki}{cm:CL}{vp:O2}{qs:List q9}{q:yZ}{made:Int}{v16 v24:O2}{b12 b13 T12 T13 TS:Nat}
  (h:VH L w s) (hL:∀b∈L,b<w.heap.size) (hc:O5 [] w wA) (hn:w.heap.size<=G/\G<wA.heap.size) (hp:Pts (G::L) wA.heap vp qs) (hq:K4 (G::L) wA.heap q)
  (hz:O5 [] wA wC) (ho:wA.heap.size<=b12) (hr:wA.heap.size<=b13) (hs:Zb wC.heap b12 T12 s.s.c.cells) (ht:Zb wC.heap b13 T13 [s.s.vp])
  (hj:O5 (ob s.vu) wC wD) (hv:wD.ownsRow 0 139 1 v16 (s.us.length+1) (s.us.map K7++[K7 ⟨b12,b13,s.s⟩])) (S:∀b∈ob v16,b∈ob s.vu\/wC.heap.size<=b)
  (he:O5 [s.b] wD wE) (hf:O5 [] wE wF) (h0:∀N:LN,(∀b∈N,b<wE.heap.size)->ZK N wF.heap cm) (hg:O5 [s.b] wF wI) (hh:O5 [] wI wJ) (hk:O5 (ob s.vr) wJ wK)
  (h4:wK.ownsRow 0 53 3 v24 (s.rs.length+1) (s.rs.flatMap ZI++ZI q)) (T:∀b∈ob v24,b∈ob s.vr\/wJ.heap.size<=b)
  (hi:O5 [s.b] wK wN) (h5:Zb wN.heap s.b TS (Qaw (edV s cm vp qs made v24 q v16 b12 b13))) (V:O5 [] wN wP) (Y:O5 [G] wP wM):
  O5 s.own w wM/\VH ((edV s cm vp qs made v24 q v16 b12 b13).own++L) wM (edV s cm vp qs made v24 q v16 b12 b13)/\∀b∈(edV s cm vp qs made v24 q v16 b12 b13).own,b∈s.own\/w.heap.size<=b:=by
 have ha:=h.lt;have z2:=hj.size;have z3:=he.size;have z4:=hf.size;have z5:=hg.size;have z6:=hh.size;have msb:s.b∈s.own:=Lr;have mvr:∀b∈ob s.vr,b∈s.own:=λb E=>Lj _ (Lc.2 (.inl E));have mvu:∀b∈ob s.vu,b∈s.own:=λb E=>Lj _ (Lc.2 (.inr E));have lsb:=ha _ msb;have lvr:=λb E=>ha b (mvr b E);have lvu:=λb E=>ha b (mvu b E);have h6:=hs.lt;have h7:=ht.lt;have hw:=Qi hv;have sC:O5 (s.own++[G]) wA wC:=hz.any;have sD:=sC.Q (hj.mono λb E=>Lc.2 (.inl (mvu b E)));have sE:=sD.Q (he.mono λb E=>by rw[Lb.1 E];exact Lc.2 (.inl msb));have sF:=sE.D hf;have s5:O5 (s.own++[G]) wF wI:=hg.mono λb E=>by rw[Lb.1 E];exact Lc.2 (.inl msb)
 have s7:O5 (s.own++[G]) wJ wK:=hk.mono λb E=>Lc.2 (.inl (mvr b E));have s8:O5 (s.own++[G]) wK wN:=hi.mono λb E=>by rw[Lb.1 E];exact Lc.2 (.inl msb)
 have h8:O5 (s.own++[G]) wP wM:=Y.mono λb E=>Lc.2 (.inr E);have sKM:O5 (s.own++[G]) wK wM:=(s8.D V).Q h8;have sFM:O5 (s.own++[G]) wF wM:=((s5.D hh).Q s7).Q sKM;have sAM:O5 (s.own++[G]) wA wM:=sF.Q sFM;have sDM:O5 (s.own++[G]) wD wM:=((he.mono λb E=>by rw[Lb.1 E];exact Lc.2 (.inl msb):O5 (s.own++[G]) wD wE).D hf).Q sFM;have sCM:O5 (s.own++[G]) wC wM:=(hj.mono λb E=>Lc.2 (.inl (mvu b E)):O5 (s.own++[G]) wC wD).Q sDM;have h9:∀b∈s.own++[G],b∈G::L:=λb E=>by
  rcases Lc.1 E with E|E
  ·exact Lj _ (h.sub b E)
  rw[Lb.1 E];exact Lr
 have own':∀b∈(edV s cm vp qs made v24 q v16 b12 b13).own,b∈s.own\/wC.heap.size<=b:=λb E=>by
  rcases Li.1 E with rfl|E
  ·exact .inl msb
  rcases Lc.1 E with E|E
  ·rcases T b E with I|I
   ·exact .inl (mvr b I)
   exact .inr oa
  rcases S b E with I|I
  ·exact .inl (mvu b I)
  exact .inr I
 have upL:∀b∈((edV s cm vp qs made v24 q v16 b12 b13).own++(G::L)),b∈G::L\/wA.heap.size<=b:=λb E=>by
  rcases Lc.1 E with E|E
  ·rcases own' b E with I|I
   ·exact .inl (Lj _ (h.sub b I))
   exact .inr oa
  exact .inl E
 have dn:∀b∈(edV s cm vp qs made v24 q v16 b12 b13).own++L,b∈(edV s cm vp qs made v24 q v16 b12 b13).own++(G::L):=λb E=>by
  rcases Lc.1 E with E|E
  ·exact Lc.2 (.inl E)
  exact Lc.2 (.inr (Lj _ E))
 have sAM':O5 ((edV s cm vp qs made v24 q v16 b12 b13).own++(G::L)) wA wM:=sAM.mono λb E=>Lc.2 (.inr (h9 b E));have hl:∀b∈G::L,b∈L\/w.heap.size<=b:=λb E=>by
  rcases Li.1 E with rfl|E
  ·exact .inr hn.1
  exact .inl E
 have mS:StA ((edV s cm vp qs made v24 q v16 b12 b13).own++L) wM.heap s.s:=Mm.mono (Mm.st (Mm.up (Mm.I (Mm.up h.st hl) hc) upL) sAM') dn;have nown:∀b,wA.heap.size<=b->b<wC.heap.size->b∉(edV s cm vp qs made v24 q v16 b12 b13).own++L:=λb I H E=>by
  rcases Lc.1 E with E|E
  ·rcases own' b E with O|O
   ·have:=ha b O;omega
   omega
  have:=hL b E;omega
 have nst:∀b,wA.heap.size<=b->b∉s.own++[G]:=λb I E=>by
  rcases Lc.1 E with E|E
  ·have:=ha b E;omega
  rw[Lb.1 E]at I;omega
 refine⟨?_,⟨⟨TS,?_⟩,?_,?_,?_,?_,?_,λb E=>Lc.2 (.inl E),⟨?_,?_⟩,λd hd=>?_,λu hu=>?_⟩,λb E=>(own' b E).imp id λI=>oa⟩
 ·exact hc.any.then sAM λb E=>by
   rcases Lc.1 E with E|E
   ·exact .inl E
   rw[Lb.1 E];exact .inr hn.1
 ·exact(h5.I V).J Y (by simp only[oI];show s.b≠G;omega)
 ·have I:wK.ownsRow 0 53 3 v24 (s.rs++[q]).length ((s.rs++[q]).flatMap ZI):=by
   rw[Lk,LA];simpa using h4
  refine Qg (Qp (Qg I hi λb E J=>?_) V) Y λb E J=>?_
  ·rcases T b E with H|H
   ·exact h.d1 (Lb.1 J ▸ H)
   rw[Lb.1 J]at H;omega
  rw[Lb.1 J]at E;rcases T G E with H|H
  ·have:=lvr G H;omega
  omega
 ·have I:wD.ownsRow 0 139 1 v16 (s.us++[(⟨b12,b13,s.s⟩:UnV)]).length ((s.us++[(⟨b12,b13,s.s⟩:UnV)]).map K7):=by
   rw[Lk,Ls];simpa using hv
  have nsb:∀b∈ob v16,b∉[s.b]:=λb E J=>by
   rw[Lb.1 J]at E;rcases S s.b E with H|H
   ·exact h.d2 H
   omega
  have nvr:∀b∈ob v16,b∉ob s.vr:=λb E J=>by
   rcases S b E with H|H
   ·exact h.d3 b J H
   have:=lvr b J;omega
  have n4:∀b∈ob v16,b∉[G]:=λb E J=>by
   rw[Lb.1 J]at E;rcases S G E with H|H
   ·have:=lvu G H;omega
   omega
  exact Qg (Qp (Qg (Qg (Qp (Qg (Qp (Qg I he nsb) hf) hg nsb) hh) hk nvr) hi nsb) V) Y n4
 ·intro E;rcases T s.b E with H|H
  ·exact h.d1 H
  omega
 ·intro E;rcases S s.b E with H|H
  ·exact h.d2 H
  omega
 ·intro b E J;rcases T b E with H|H
  ·rcases S b J with O|O
   ·exact h.d3 b H O
   have:=lvr b H;omega
  have:=(hw b J).2;omega
 ·have I:ZK (s.b::(ob v16++(ob s.vr++(G::L)))) wF.heap cm:=h0 _ λb E=>by
   rcases Li.1 E with rfl|E
   ·omega
   rcases Lc.1 E with E|E
   ·have:=(hw b E).2;omega
   rcases Lc.1 E with E|E
   ·have:=lvr b E;omega
   rcases Li.1 E with rfl|E
   ·omega
   have:=hL b E;omega
  have H:ZK (ob v24++(s.b::(ob v16++(ob s.vr++(G::L))))) wF.heap cm:=I.up λb E=>by
   rcases Lc.1 E with E|E
   ·rcases T b E with O|O
    ·exact .inl (Lj _ (Lc.2 (.inr (Lc.2 (.inl O)))))
    exact .inr oa
   exact .inl E
  have hy:∀b∈[s.b],b∈ob v24++(s.b::(ob v16++(ob s.vr++(G::L)))):=λb E=>by rw[Lb.1 E];exact Lc.2 (.inr Lr)
  have O:=((((((H.st (hg.mono hy)).I hh).st (hk.mono λb E=>Lc.2 (.inr (Lj _ (Lc.2 (.inr (Lc.2 (.inl E)))))))).st (hi.mono hy)).I V).st (Y.mono λb E=>by
   rw[Lb.1 E];exact Lc.2 (.inr (Lj _ (Lc.2 (.inr (Lc.2 (.inr Lr))))))))
  refine O.up λb E=>.inl ?_;rcases Lc.1 E with E|E
  ·rcases Li.1 E with rfl|E
   ·exact Lc.2 (.inr Lr)
   rcases Lc.1 E with E|E
   ·exact Lc.2 (.inl E)
   exact Lc.2 (.inr (Lj _ (Lc.2 (.inl E))))
  exact Lc.2 (.inr (Lj _ (Lc.2 (.inr (Lc.2 (.inr (Lj _ E)))))))
 ·have I:Pts ((edV s cm vp qs made v24 q v16 b12 b13).own++(G::L)) wM.heap vp qs:=Go.Lg.KX.st (Go.Lg.KX.up hp upL) sAM';exact Go.Lg.KX.up I λb E=>.inl (dn b E)
 ·rcases Lc.1 hd with hd|hd
  ·exact Mm.mono (Mm.st (Mm.up (Mm.I (Mm.up (h.rA d hd) hl) hc) upL) sAM') dn
  rw[Lb.1 hd];exact Mm.mono (Mm.st (Mm.up hq upL) sAM') dn
 rcases Lc.1 hu with hu|hu
 ·exact Mm.mono (Mm.st (Mm.up (Mm.I (Mm.up (h.uA u hu) hl) hc) upL) sAM') dn
 rw[Lb.1 hu];exact⟨(hs.J sCM (nst b12 ho)).at (nown b12 ho h6),(ht.J sCM (nst b13 hr)).at (nown b13 hr h7),mS⟩
def zD (x:Yc):Prop:=x.ls.length<=100000/\x.ts.length<=100000
theorem zB {co:List Xt}:∀{l:xx}{r:List (ByteArray×Int)},VU co l=some r->r.length=l.length
 | [],r,h=>by
  rw[VU]at h;cases h;rfl
 | y::l,r,h=>by
  rw[VU]at h;cases E:jb co y.1 with
  | none=>rw[E]at h;cases h
  | some n =>
   rw[E]at h;obtain⟨H,G,rfl⟩:=My.1 h;rw[LS,LS,zB G]
theorem Qe9 {co:List Xt}:∀{l:List UV}{a:List Yc},JT co l=some a->(∀q∈l,q.ls.length<=100000)->∀x∈a,zD x
 | [],a,h,_=>by
  rw[JT]at h;cases h
  exact λx hx=>by cases hx
 | x::l,a,h,G=>by
  rw[JT]at h;cases hx:VU co x.ls with
  | none=>rw[hx]at h;cases h
  | some n =>
   rw[hx]at h;obtain⟨I,H,rfl⟩:=My.1 h;intro y E;rcases Li.1 E with rfl|E
   ·exact⟨by show n.length<=_;rw[zB hx];exact G x Lr,oe⟩
   exact Qe9 H (λq h=>G q (Lj _ h)) y E
theorem Qfa {co:List Xt}:∀{l:List xL}{a:List Yc},Kc co l=some a->(∀q∈l,q.ts.length<=100000)->∀x∈a,zD x
 | [],a,h,_=>by
  rw[Kc]at h;cases h
  exact λx hx=>by cases hx
 | x::l,a,h,G=>by
  rw[Kc]at h;cases hx:VU co x.ts with
  | none=>rw[hx]at h;cases h
  | some n =>
   rw[hx]at h;obtain⟨I,H,rfl⟩:=My.1 h;intro y E;rcases Li.1 E with rfl|E
   ·exact⟨oe,by show n.length<=_;rw[zB hx];exact G x Lr⟩
   exact Qfa H (λq h=>G q (Lj _ h)) y E
theorem Qba (E:CSz c)(h:(ZT c).1=0):∀x∈(ZT c).2,zD x:=by
 obtain⟨a,b,G,H,e,_⟩:=Qa9 h;intro x hx;rw[e]at hx;rcases Lc.1 hx with hx|hx
 ·obtain⟨y,_,rfl⟩:=LC.1 hx;exact⟨by simp[KO],by simp[KO]⟩
 rcases Lc.1 hx with hx|hx
 ·obtain⟨y,_,rfl⟩:=LC.1 hx;exact⟨by simp[KO],by simp[KO]⟩
 rcases Lc.1 hx with hx|hx
 ·exact Qe9 G E.x x hx
 exact Qfa H E.k x hx
theorem Qmk {l:List Yc}{x:Yc}(hl:∀y∈l,zD y)(hx:zD x):∀y∈(qY l x).2,zD y:=by
 unfold qY;split
 ·exact λy E=>by cases E
 split
 ·exact λy E=>by cases E
 split
 ·intro y E;rcases MR E with E|rfl
  ·exact hl y E
  exact hx
 split
 ·exact λy E=>by cases E
 intro y E;rcases Lc.1 E with E|E
 ·exact hl y (LX E)
 rcases Li.1 E with rfl|E
 ·exact hx
 exact hl y (L6 E)
theorem Qmp {l:List Yc}{k:Int}{n:ByteArray}(hl:∀y∈l,zD y):∀y∈(qZ l k n).2,zD y:=by
 unfold qZ;split
 ·exact λy E=>by cases E
 split
 ·exact λy E=>by cases E
 intro y E;rcases Lc.1 E with E|E
 ·exact hl y (LX E)
 exact hl y (L6 E)
theorem Qfb:∀{es:List (Bool×Yc)}{l:List Yc},(∀y∈l,zD y)->(∀e∈es,zD e.2)->∀y∈(Qbb es l).2,zD y
 | [],l,hl,_=>by rw[Qbb];exact hl
 | e::es,l,hl,E=>by
  rw[Qbb];split
  ·exact λy G=>by cases G
  refine Qfb ?_ λe h=>E e (Lj _ h);unfold jf;split
  ·exact Qmp hl
  exact Qmk hl (E e Lr)
theorem Qmr {es:List (Bool×Yc)}{l:List Yc}(hl:∀y∈l,zD y)(E:∀e∈es,zD e.2):∀y∈(je l es).2,zD y:=by
 unfold je;split
 ·exact λy G=>by cases G
 exact Qfb hl E
structure UnZ where
 b12:Nat
 b13:Nat
def unP (N:Nat)(i:Nat)(v:O2)(w':O1):Prop:=∃b T,v=pS b/\N<=b/\Zb w'.heap b T (if i=8 then Z6 else[Zs])
theorem QkV (N:Nat):∀i v (w w':O1),unP N i v w->O5 [] w w'->unP N i v w':=λ_ _ _ _ ⟨b,T,E,G,H⟩ I=>⟨b,T,E,G,H.I I⟩
theorem QmX {L2:LN}{s:Ki}{xs:List YT}(h:VH L w s)(hL:∀b∈L,b<w.heap.size)(hx:jl L2 w.heap vl xs)(k5:∀e∈xs.map YT.e,zD e.2)(gz:Qkg s.s.c.V (s.s.ps.map (·.pt)))(k6:s.s.ps.length<=1000)
  (hm:0<=s.made/\s.made<=1099511627776) (hrl:s.rs.length<=64) (hul:s.us.length<=64) (k7:Kb w 4096):
  Q6 prog 13 [pS s.b,vl] w λr w'=>∃qr:yZ,r=.tuple #[.agg (ZI qr).toArray,oF oG (yW s.sys (xs.map YT.e))]/\(∀N:LN,(∀b∈N,b<w.heap.size)->K4 N w'.heap qr)/\(yW s.sys (xs.map YT.e)≠0->O5 [] w w'/\qr.rp=⟨[],[],[]⟩) /\
   (yW s.sys (xs.map YT.e)=0->qr.rp=XQ (qq s.s.c.V (xs.map YT.e)).2 (s.s.ps.map (·.pt)) ((s.us.length:Int)+1)/\∃s':Ki,s'.b=s.b/\s'.sys=edS s.sys (xs.map YT.e)/\O5 s.own w w'/\VH (s'.own++L) w' s'/\(∀b∈s'.own,b∈s.own\/w.heap.size<=b)/\K4 s'.own w'.heap qr):=by
 obtain⟨TS,Y⟩:=h.blk;have g0:=gz.ck;have g2:=Vq g0;have g3:Zn [] w.heap s.vu s.us.length 1 (s.us.map K7):=QJ h.ru oa oe;have g4:s.sys.un.length=s.us.length:=Lh _;have k8:(s.s.ps.map (·.e.ky)).Nodup:=by
  have:=gz.ky;rw[Mu]at this;have e:s.s.ps.map (·.e.ky)=(O9 s.s.c.V).map (Yg s.s.c.V):=this;rw[e];exact Qb4 g0
 have k9:(xs.map YT.e).length=xs.length:=Lh _;have ma:∀(w':O1) (N:LN),K4 N w'.heap ⟨Zs,[],Zs,[],Zs,[]⟩:=λw' N=>⟨Zn.nil _ _ _,Zn.nil _ _ _,Zn.nil _ _ _⟩;have I:yW s.sys (xs.map YT.e)=if xs.length=0 then 12 else if s.us.length=64 then 3 else if(qq s.s.c.V (xs.map YT.e)).1≠0 then(qq s.s.c.V (xs.map YT.e)).1 else KZ (qq s.s.c.V (xs.map YT.e)).2 (s.s.ps.map (·.pt)) ((s.us.length:Int)+1):=by
  unfold yW;rw[k9,g4];rfl
 have T:qq s.s.c.V (xs.map YT.e)=if(edI s.s.c.V (xs.map YT.e)).1≠0 then((edI s.s.c.V (xs.map YT.e)).1,UN)else if(VN s.s.c.V.ev (edI s.s.c.V (xs.map YT.e)).2).1≠0 then((VN s.s.c.V.ev (edI s.s.c.V (xs.map YT.e)).2).1,UN)else if Zl (VN s.s.c.V.ev (edI s.s.c.V (xs.map YT.e)).2).2≠0 then(Zl (VN s.s.c.V.ev (edI s.s.c.V (xs.map YT.e)).2).2,UN)else(0,(VN s.s.c.V.ev (edI s.s.c.V (xs.map YT.e)).2).2):=rfl
 have hy:edI s.s.c.V (xs.map YT.e)=if(ZT s.s.c.V).1≠0 then((ZT s.s.c.V).1,[])else je (ZT s.s.c.V).2 (xs.map YT.e):=rfl
 have hT:(ZT s.s.c.V).1=0->∀y∈(je (ZT s.s.c.V).2 (xs.map YT.e)).2,zD y:=λh0=>Qmr (Qba g2 h0) k5;have hF:edS s.sys (xs.map YT.e)=⟨(qq s.s.c.V (xs.map YT.e)).2,qz (qq s.s.c.V (xs.map YT.e)).2 (s.s.ps.map (·.pt)) ((s.us.length:Int)+1),s.made+((XQ (qq s.s.c.V (xs.map YT.e)).2 (s.s.ps.map (·.pt)) ((s.us.length:Int)+1)).made.length:Int),s.rs.map yZ.rp++[XQ (qq s.s.c.V (xs.map YT.e)).2 (s.s.ps.map (·.pt)) ((s.us.length:Int)+1)],(s.us.map λu=>u.s.st)++[(s.s.c.V,s.s.ps.map (·.pt))]⟩:=by
  unfold edS;rw[g4];rfl
 refine Zk (yW s.sys (xs.map YT.e)) λE hE=>?_;refine Zk (edS s.sys (xs.map YT.e)) λES g5=>?_;refine Zk (qq s.s.c.V (xs.map YT.e)) λEC g6=>?_;refine Zk (edI s.s.c.V (xs.map YT.e)) λEI mf=>?_;rw[hE]at I;rw[g5]at hF;rw[g6]at I T hF;rw[mf]at T hy;rw[hE,g5,g6];refine Zq func13 ?_;refine Qc<|Qe<|Qo (us:=YX) U λH w1 hj ga hz=>Qb ?_;have hl4:=hz.lt;have bad:∀(e:Int) (w2 O:O1),E=e->e≠0->O5 [] w w2->O5 [H] w2 O->(∃qr:yZ,tup [.agg YX.toArray,oF oG e]=.tuple #[.agg (ZI qr).toArray,oF oG E]/\(∀N:LN,(∀b∈N,b<w.heap.size)->K4 N O.heap qr)/\(E≠0->O5 [] w O/\qr.rp=⟨[],[],[]⟩) /\
   (E=0->qr.rp=XQ EC.2 (s.s.ps.map (·.pt)) ((s.us.length:Int)+1)/\∃s':Ki,s'.b=s.b/\s'.sys=ES/\O5 s.own w O/\VH (s'.own++L) O s'/\(∀b∈s'.own,b∈s.own\/w.heap.size<=b)/\K4 s'.own O.heap qr)):=λe w2 O S h2 h3 h4 =>
  ⟨⟨Zs,[],Zs,[],Zs,[]⟩,by rw[S];rfl,λN _=>ma O N,λ_=>⟨h3.O h4 oa,U⟩,λh0=>OW (S.symm.D h0) h2⟩
 refine Qd<|Qf<|Qm<|x (X4 underlying46 U U)<|Qb<|ZL U<|Qm<|QK hx.arr U<|x (Q0 U U)<|Qb<|QY U (λgb=>?_) (λgb=>?_)
 ·rw[OU (by have mg:(xs.length:Int)=0:=gb;omega)]at I;refine Qc<|x (Qz Z)<|Qe<|Qj (us:=YX) hz U U U U oB λO ha hG=>Qb<|Qk ⟨[.agg YX.toArray,oF oG 12],⟨⟨_,U,Qn U (hG.at (L:=[]) oe).cells⟩,rfl,Z⟩,bad 12 w1 O I og hj ha⟩
 rw[OT (by have mg:¬(xs.length:Int)=0:=gb;omega)]at I;refine Qm<|Yl U<|Qs U (Y.I hj) U U<|QK (g3.I hj) U<|x (Q0 U U)<|Qb<|QY U (λgc=>?_) (λgc=>?_)
 ·rw[OU (by have mh:(s.us.length:Int)=64:=gc;omega)]at I;refine Qc<|x (Qz Z)<|Qe<|Qj (us:=YX) hz U U U U oB λO ha hG=>Qb<|Qk ⟨[.agg YX.toArray,oF oG 3],⟨⟨_,U,Qn U (hG.at (L:=[]) oe).cells⟩,rfl,Z⟩,bad 3 w1 O I og hj ha⟩
 have mj:¬s.us.length=64:=by have mh:¬(s.us.length:Int)=64:=gc;omega
 rw[OT mj]at I;refine Qh<|Qm<|Yl U<|Q2 U<|x (Zj (us:=s.s.c.cells) (Y.I hj) U U U)<|QM<|(Qdx (h.st.c.I hj) g2).mono ?_;rintro r5 w2 ⟨ho,v5,rfl,_,mo⟩;have gg:=hj.D ho;refine Qa<|Q7 U U<|Q7 U U<|x Ql<|Qb<|Qd<|Qm<|ZA U U<|xe<|QY rfl (λhp=>?_) (λhp=>?_)
 ·rw[OU hp]at hy;rw[hy,OU hp]at T;rw[T,OU hp]at I;refine Qc<|x (Qz Z)<|Qa<|Qe<|Qj (us:=YX) (hz.I ho) U U U U oB λO ha hG=>Qb<|Qk ⟨[.agg YX.toArray,oF oG (ZT s.s.c.V).1],⟨⟨_,U,Qn U (hG.at (L:=[]) oe).cells⟩,rfl,Z⟩,bad _ w2 O I hp gg ha⟩
 rw[OT hp]at hy;have gh:=Lo.1 hp;have hT:=hT gh;refine Exists.elim (mo gh) λl5 gi=>?_;have mq:Kx [] w2.heap v5 l5:=by
  refine Ju.dits gi.1 ?_ oe;have S:=OV oP gi.2;rw[Lh]at S;obtain⟨_,_,_,_,_,hk⟩:=Qa9 gh;have:=Vm hk;omega
 have hAp:=Qkz mq (Go.Lg.KX.I hx gg);rw[gi.2,<-hy]at hAp;rw[<-hy]at hT;refine Qh<|Qd<|Qm<|Qa<|QM<|hAp.mono ?_;rintro r7 O ⟨ha,v7,l7,rfl,ms,hU⟩;have hH:=gg.D ha;refine Qa<|Q7 U U<|Q7 U U<|x Ql<|Qb<|Qm<|ZA U U<|xe<|QY rfl (λh5=>?_) (λh5=>?_)
 ·rw[OU h5]at T;rw[T,OU h5]at I;refine Qc<|x (Qz Z)<|Qa<|Qe<|Qj (us:=YX) ((hz.I ho).I ha) U U U U oB λw4 hI mt=>Qb<|Qk ⟨[.agg YX.toArray,oF oG EI.1],⟨⟨_,U,Qn U (mt.at (L:=[]) oe).cells⟩,rfl,Z⟩,bad _ O w4 I h5 hH hI⟩
 rw[OT h5]at T;obtain⟨hU,hln7⟩:=hU (Lo.1 h5);have hD3:Kx [] O.heap v7 l7:=Ju.dits ms oa oe;have hCe:=QjB (h.st.c.I hH).ev hD3 (λq hq=>hT q (by rw[<-hU];exact hq));rw[hU]at hCe;have mu:s.s.c.V.ev=s.s.c.ev:=rfl;rw[mu]at T;refine Zk (VN s.s.c.ev EI.2) λDC mv=>?_;rw[mv]at T hCe;refine Qh<|Qm<|Yl U<|Q2 U<|Qs U (Y.I hH) U U<|Qa<|QM<|hCe.mono ?_;rintro r9 w4 ⟨hI,c9,rfl,mw,hV⟩;refine Qa<|Q7 U U<|Q7 U U<|Qe<|Qo (us:=Z6) U λb8 w5 hJ my mz=>Qe<|Qj (us:=c9.cells) mz U U U U mw λw6 m2 g7 =>
  Qb ?_
 have hW:O5 [] w4 w6:=hJ.O m2 my;have gj:=(hH.D hI).D hW;have hz4:=hI.size;have hz46:=hW.size;have gk:=(((hz.I ho).I ha).I hI).I hW;refine Qd<|Qm<|ZA U U<|xe<|QY rfl (λh6=>?_) (λh6=>?_)
 ·rw[OU h6]at T;rw[T,OU h6]at I;refine Qc<|x (Qz Z)<|Qa<|Qe<|Qj (us:=YX) gk U U U U oB λV hf m3=>Qb<|Qk ⟨[.agg YX.toArray,oF oG DC.1],⟨⟨_,U,Qn U (m3.at (L:=[]) oe).cells⟩,rfl,Z⟩,bad _ w6 V I h6 gj hf⟩
 rw[OT h6]at T;have hV:=hV (Lo.1 h6);have hX:=hV.1;have gl:∀N:LN,(∀b∈N,b<O.heap.size\/w4.heap.size<=b)->ZK N w6.heap c9:=λN hN=>by
  have S:=hV.2 (N.filter λb=>decide (b<O.heap.size)) (λb G=>OY (L9.1 G).2);exact(S.up (L':=N) λb G=>(hN b G).imp (λh=>L9.2 ⟨G,OX h⟩) id).I hW
 have hCk:=X2 (gl [] oe);rw[hX]at hCk;refine Qh<|Qd<|Qc<|Q5 g7 U U<|QM<|hCk.mono ?_;rintro r13 V ⟨rfl,hf⟩;have hr:=gj.D hf;have hz7:=hf.size;refine Qb<|Qm<|ZA U U<|xe<|QY rfl (λh7=>?_) (λh7=>?_)
 ·rw[OU h7]at T;rw[T,OU h7]at I;refine Qc<|x (Qz Z)<|Qa<|Qe<|Qj (us:=YX) (gk.I hf) U U U U oB λw8 he gm=>Qb<|Qk ⟨[.agg YX.toArray,oF oG (Zl DC.2)],⟨⟨_,U,Qn U (gm.at (L:=[]) oe).cells⟩,rfl,Z⟩,bad _ V w8 I h7 hr he⟩
 rw[OT h7]at T;have m4:=Lo.1 h7;rw[T,OT oe]at I;rw[T]at hF;simp only[]at I hF;refine Qh ?_;have g8:=Y.I hr;have m5:=g3.I hr;have g9:=g7.I hf;have hz06:=gj.size;have hz03:=hH.size;have ka:∀b∈H::L,b<V.heap.size:=λb G=>by
  rcases Li.1 G with rfl|G
  ·have:=ho.size;have:=ha.size;omega
  have:=hL b G;omega
 have m6:Pts (H::L) V.heap s.s.vp s.s.ps:=Go.Lg.KX.I (Go.Lg.KX.up h.st.p λb G=>by
  rcases Li.1 G with rfl|G
  ·exact .inr ga
  exact .inl G) hr
 have m7:O5 [] V { V with drawn:=V.drawn+1 }:=O5.C _ _
 refine Zk (KZ DC.2 (s.s.ps.map (·.pt)) ((s.us.length:Int)+1)) λE2 kb=>?_;rw[kb]at I;refine Q3 (α:=O2×LV×Nat) [(73,88),(7,7),(10,11)] (λz=>[(10,z.1),(11,pS z.2.2),(7,oF oG E2)]) (λz w'=>O5 [] V w'/\V.heap.size<=z.2.2/\Zb w'.heap z.2.2 53 z.2.1/\(z.2.1.length=3/\Zr z.2.1)/\(E2=0->∃qs q,z.2.1=ZI q/\qs.map (·.pt)=qz DC.2 (s.s.ps.map (·.pt)) ((s.us.length:Int)+1)/\q.rp=XQ DC.2 (s.s.ps.map (·.pt)) ((s.us.length:Int)+1)/\Pts (H::L) w'.heap z.1 qs/\K4 (z.2.2::H::L) w'.heap q)) ol ?_ ?_
 ·refine VG (α:=O2×LV) (O5 [] V) [oD 0,oD 1,oD 2,oD 3,oD 4,oD 5,oD 6,oD 7,oD 8,oD 9,oD 10] [oE 11,oD 12,oD 13,oD 14,oD 15] 16 11 [oD 17,oE 18,oD 19] []
   [(73,88)] [(73,73),(85,88)] (λz=>[(86,z.1),(87,.agg z.2.toArray),(88,oF oG E2)])
   (λz own w'=>(∀b∈own,V.heap.size<=b)/\(z.2.length=3/\Zr z.2)/\(E2=0->∃qs q,z.2=ZI q/\qs.map (·.pt)=qz DC.2 (s.s.ps.map (·.pt)) ((s.us.length:Int)+1)/\q.rp=XQ DC.2 (s.s.ps.map (·.pt)) ((s.us.length:Int)+1)/\∀b',V.heap.size<=b'->b'∉own->Pts (b'::H::L) w'.heap z.1 qs/\K4 (b'::H::L) w'.heap q))
   (λv w'=>∃b,v=pS b/\V.heap.size<=b/\Zb w'.heap b 53 YX) mixed ol od ol U m7 oe ?_ ?_ ?_ ?_
  ·rintro v own wa wb ⟨b,rfl,G,Y⟩ hs hn;exact⟨b,U,G,Y.J hs (hn b ot)⟩
  ·rintro z own wa wb ⟨S,h2,h3⟩ hs;refine⟨S,h2,λh0=>?_⟩;obtain⟨qs,q,e1,e2,e3,e4⟩:=h3 h0;exact⟨qs,q,e1,e2,e3,λb' hY hn=>⟨Go.Lg.KX.I (e4 b' hY hn).1 hs,(e4 b' hY hn).2.I hs⟩⟩
  ·rintro⟨vp,us⟩ g own wz v ⟨i1,i2,i3⟩ kc ⟨h8,rfl,hh,hi⟩ m8;simp only[]at i2 i3;have m9:=(m8 h8 ot).1;refine p ZN<|pk<|Qj (us:=us) hi U U i2.1 U i2.2 λw8 he pa=>⟨kc.O he hh,?_⟩;refine p ZN<|pe ?_;refine⟨(vp,us,h8),oB,kc.O he hh,hh,pa,i2,λh0=>?_⟩;obtain⟨qs,q,e1,e2,e3,e4⟩:=i3 h0;have e5:=e4 h8 hh m9;exact⟨qs,q,e1,e2,e3,Go.Lg.KX.up (Go.Lg.KX.st e5.1 (he.mono oe)) (λb G=>.inl (Lj _ G)),e5.2.st (he.mono oe)⟩
  refine pq (λ_ J=>ZY (g9.I J) U U)<|p QE<|p (Xh U)<|p (QR U)<|pq (λ_ J=>Qq (g8.I J) U U) <|
   p QE<|p (Xh U)<|p (QR U)<|pq (λ_ J=>Qq (g8.I J) U U)<|p (λ_=>Xo m5 U) <|
   p (λ_=>XR U U ⟨oa,oa⟩)<|pe ⟨λg wf ke=>Qo (us:=YX) U λb wf' kf kg kh=>⟨kf,ke.D kf,⟨b,U,LJ ke.size kg,kh⟩,λx hx=>?_⟩,?_⟩
  ·have pc:x=b:=by
    have pd:x∈[b]:=hx;simpa using pd
   subst pc;exact⟨kg,kh.lt⟩
  refine f2k λx1 p1 c1=>?_;have pf:=(gl (H::L) (λb G=>by
   rcases Li.1 G with rfl|G
   ·exact .inl (ov ho.size ha.size)
   exact .inl (ou (hL b G)))).I (hf.D c1)
  have pg:Pts (U2 V.heap.size x1.heap.size++(H::L)) x1.heap s.s.vp s.s.ps:=Go.Lg.KX.I (Go.Lg.KX.up m6 λb G=>by
   rcases Lc.1 G with G|G
   ·exact .inr (ZC.1 G).1
   exact .inl G) c1
  have hbl:=QcL (v:=(s.us.length:Int)+1) pf pg (λb G=>by
   have:=c1.size;rcases Lc.1 G with G|G
   ·exact(ZC.1 G).2
   have:=ka b G;omega) k8 k6 (k7.I (hr.D c1))
  rw[hX,kb]at hbl;refine xg<|hbl.mono ?_;rintro _ y1 ⟨ki,vp,us,rfl,ph,pj,_,pm⟩;have z1:=c1.size;refine⟨c1.D ki,U2 x1.heap.size y1.heap.size,ki.any,λb G=>.inr (ZC.1 G),?_⟩;refine f2p QE<|f2p (λ_=>Zt U U)<|f2p (λ_=>Zt U U)<|f2p (λ_=>Zt U U)<|f2e ?_;refine⟨(vp,us),oB,λb G=>ou (ZC.1 G),⟨ph,pj⟩,λh0=>?_⟩;obtain⟨qs,q,e1,e2,e3,_,e5,e6⟩:=pm h0;refine⟨qs,q,e1,e2,e3,λb' hY hn=>?_⟩;have pn:b'<x1.heap.size\/y1.heap.size<=b':=by
   rcases OH b' x1.heap.size with S|S
   ·exact .inl S
   rcases OH b' y1.heap.size with h2|h2
   ·exact OW (ZC.2 ⟨S,h2⟩) hn
   exact .inr h2
  have kj:∀b∈b'::H::L,b∈U2 V.heap.size x1.heap.size++(H::L)\/y1.heap.size<=b:=λb G=>by
   rcases Li.1 G with rfl|G
   ·exact pn.imp (λS=>Lc.2 (.inl (ZC.2 ⟨hY,S⟩))) id
   exact .inl (Lc.2 (.inr G))
  exact⟨Go.Lg.KX.up e5 kj,(e6 (U2 V.heap.size x1.heap.size++(H::L)) (λb G=>by
   rcases Lc.1 G with G|G
   ·exact(ZC.1 G).2
   have:=ka b G;omega)).up kj⟩
 rintro⟨vp,us,h8⟩ g wA ⟨hK,hh,hi,po,hg⟩;simp only[]at hh hi po hg;have h9:=(gk.I hf).I hK;refine Qd<|Qm<|ZA U U<|xe<|QY rfl (λgn=>?_) (λgn=>?_)
 ·refine Qc<|x (Qz Z)<|Qa<|Qe<|Qj (us:=YX) h9 U U U U oB λw8 he gm=>Qb<|Qk ⟨[.agg YX.toArray,oF oG E2],⟨⟨_,U,Qn U (gm.at (L:=[]) oe).cells⟩,rfl,Z⟩,bad _ wA w8 I gn (hr.D hK) he⟩
 have kk:=Lo.1 gn;refine Exists.elim (hg kk) λqs pp=>Exists.elim pp λq hM=>?_;have eu:=hM.1;have eqs:=hM.2.1;have eq:=hM.2.2.1;have kn:=hM.2.2.2.1;have hO:=hM.2.2.2.2;rw[eu]at hi;refine Qh ?_;have go:=hr.D hK;have gp:=Y.I go;have hl11:=hi.lt;have hlsb:=Y.lt;have pu:O5 [] wA { wA with drawn:=wA.drawn+1 }:=O5.C _ _
 refine Q3 (α:=UnZ) [(93,100),(12,13)] (λz=>[(12,pS z.b12),(13,pS z.b13)]) (λz w'=>O5 [] wA w'/\wA.heap.size<=z.b12/\wA.heap.size<=z.b13/\∃T1 T2,Zb w'.heap z.b12 T1 s.s.c.cells/\Zb w'.heap z.b13 T2 [s.s.vp]) ol ?_ ?_
 ·refine QmN (α:=UnZ) (O5 [] wA) [oD 0,oD 1,oD 2,oD 3,oD 4,oD 5,oD 6,oD 7] [8,9] [oE 10,oE 11] [(12,13)] (unP wA.heap.size) (λz=>[(12,pS z.b12),(13,pS z.b13)])
   (λz w'=>z.b12≠z.b13/\wA.heap.size<=z.b12/\wA.heap.size<=z.b13/\∃T1 T2,Zb w'.heap z.b12 T1 Z6/\Zb w'.heap z.b13 T2 [Zs]) mixed ol od pu (λ_ _ S h2=>S.D h2) (QkV _) ?_ ?_
  ·rintro g w' ⟨⟨b12,T1,e3,pw,pz⟩,⟨b13,T2,e4,p0,hh⟩,_⟩ p2;refine⟨⟨b12,b13⟩,⟨e3,e4,Z⟩,?_,pw,p0,T1,T2,pz,hh⟩;have d1:=p2 8 oe 9 oe og;rw[e3,e4]at d1;simp only[ow,oI,forall_eq]at d1;exact d1
  refine p QE<|p (Xh U)<|p (QR U)<|pq (λ_ J=>Zj (us:=s.s.c.cells) (gp.I J) U U U)<|p QE<|p (Xh U)<|p (QR U) <|
   pq (λ_ J=>Qq (gp.I J) U U)<|pe ⟨⟨?_,?_,Z⟩,?_⟩
  ·intro g w' J;exact Qo (us:=Z6) U λb w5 hJ G Y=>⟨hJ,⟨b,_,U,LJ J.size G,Y⟩,λc gq=>by rw[Lb.1 (show c∈[b] from gq)];exact⟨G,Y.lt⟩⟩
  ·intro g w' J;exact Qo (us:=[Zs]) U λb w5 hJ G Y=>⟨hJ,⟨b,_,U,LJ J.size G,Y⟩,λc gq=>by rw[Lb.1 (show c∈[b] from gq)];exact⟨G,Y.lt⟩⟩
  rintro⟨b12,b13⟩ g wz ko ⟨gr,ht,hA,T1,T2,hP,hQ⟩;simp only[]at gr ht hA hP hQ;refine pk<|Qj (us:=s.s.c.cells) hP U U U U h.st.c.ones λw8 he p3=>⟨ko.O he ht,?_⟩;refine pkl (hl:=by kernel_rfl)<|QB (u:=s.s.vp) (hQ.J he (by simp only[oI];exact λe=>gr e.symm)) U U oe h.st.p.arr.one λw9 kq p4=>pe ?_;exact⟨⟨b12,b13⟩,oA,(ko.O he ht).O kq hA,ht,hA,T1,T2,p3.J kq (by simp only[oI];exact gr),p4⟩
 rintro⟨b12,b13⟩ gC wC ⟨hC,ht,hA,T12,T13,hP,hQ⟩;simp only[]at ht hA hP hQ;have kr:=gp.I hC;refine Qm<|Qa<|Yl U<|Qs U kr U U<|x (Zy (l:=[]) (l':=[_,_]))<|Qe<|QC (us:=[[K7 ⟨b12,b13,s.s⟩]]) U U og oe ⟨rfl,rfl,Z⟩ λb107 wC1 hu hb107 p5=>?_;have kt:=(go.D hC).D hu;have zC1:=hu.size;refine Qe<|Za (news:=[K7 ⟨b12,b13,s.s⟩]) (L:=[]) (Qp h.ru kt) U U U (p5.at oe) (by simp[Value.oneCell']) oa oa λv16 wD gs hD p6=>?_;have d2:s.b∉ob s.vu:=h.d2;have p7:=(kr.I hu).J hD d2;refine Yl rfl<|Q2 U<|Qe<|QB (u:=v16) p7 U U (Ma U) (Qt gs) λwE hv p8=>xe ?_;have zE:=hv.size;have p9:Zb wE.heap s.b TS [s.s.c.ve,s.s.c.vc,s.s.c.vr,s.s.c.vx,s.s.c.vk,s.s.vp,oF oG s.made,s.vr,v16]:=p8;have qc:=((gl (H::L) (λb G=>by
   rcases Li.1 G with rfl|G
   ·exact .inl (ov ho.size ha.size)
   exact .inl (ou (hL b G)))).I (hf.D hK)).I (hC.D hu)
 have subL:∀b∈s.own,b∈H::L:=λb G=>Lj _ (h.sub b G);have msb:s.b∈s.own:=Lr;have mvr:∀b∈ob s.vr,b∈s.own:=λb G=>Lj _ (Lc.2 (.inl G));have mvu:∀b∈ob s.vu,b∈s.own:=λb G=>Lj _ (Lc.2 (.inr G));have sDL:=hD.mono (L':=H::L) λb G=>subL b (mvu b G);have sEL:=hv.mono (L':=H::L) λb G=>by rw[Lb.1 G];exact subL _ msb
 have qf:=(qc.st sDL).st sEL;have ql:CSz c9.V:=Vq (by rw[hX];exact m4);refine Qc ?_;have qo:Zb wE.heap b8 _ c9.cells:=((((g9.I hK).I hC).I hu).J hD (λhm=>ou (h.lt _ (mvu _ hm)))).J hv om;refine Qa<|Qa<|Q5 qo U U<|QM<|(QdN qf ql).mono ?_;rintro r19 wF ⟨hR,cm,rfl,ecm,ku⟩;have zF:=hR.size;have d1:s.b∉ob s.vr:=h.d1;have nown:∀b,w.heap.size<=b->b∉s.own:=λb S G=>ou (h.lt b G)
 have n4:=nown H ga;have hZ:=nown h8 oa;have sE:O5 s.own wA wE:=((hC.D hu).any.Q (hD.mono mvu)).Q (hv.mono λb G=>by rw[Lb.1 G];exact msb);have sF:=sE.D hR;have q0:=p9.I hR;refine Qa<|Yl U<|Q2 U<|Qe<|YB (us:=cm.cells) (cs':=[cm.ve,cm.vc,cm.vr,cm.vx,cm.vk,s.s.vp,oF oG s.made,s.vr,v16]) q0 U U U (Ma U) (ku [] oe).ones rfl λwG q1 q2=>?_;refine Yl rfl<|Q2 U<|Qe<|QB (u:=vp) q2 U U (Ma U) kn.arr.one λwH q3 q4=>xe ?_;have kv:Zb wH.heap s.b TS [cm.ve,cm.vc,cm.vr,cm.vx,cm.vk,vp,oF oG s.made,s.vr,v16]:=q4;have gt:∀b∈[s.b],b∈s.own:=λb G=>by rw[Lb.1 G];exact msb
 have sFH:O5 [s.b] wF wH:=q1.Q q3;have sH:O5 s.own wA wH:=sF.Q (sFH.mono gt);have q5:=hi.J sH hZ;have hk2:(XQ DC.2 (s.s.ps.map (·.pt)) ((s.us.length:Int)+1)).made.length=q.k2.length:=by rw[<-eq];rfl
 have hrl2:=hO.a2.le;refine Qd<|ZD [] (Xb 0 11 [10])<|p QE<|p (Xh U)<|p (QR U)<|pq (λ_ J=>Qq (kv.I J) U U)<|p (QR U)<|pq (λ_ J=>Qq (q5.I J) U U) <|
  p (λ_=>Xo hO.a2 U)<|p (λ_=>XR U U ⟨oa,oa⟩)<|p (Xh U)<|p (QR U) <|
  pkl (hl:=by kernel_rfl)<|QB (u:=oF oG (s.made+(q.k2.length:Int))) (kv.I (O5.C _ _)) U U (Ma U) U λwI j1 j2=>pe ?_
 have kw:Zb wI.heap s.b TS [cm.ve,cm.vc,cm.vr,cm.vx,cm.vk,vp,oF oG (s.made+(q.k2.length:Int)),s.vr,v16]:=j2;have sHI:O5 [s.b] wH wI:=(O5.C [] wH).any.Q j1;have sFI:=sFH.Q sHI;have sI:O5 s.own wA wI:=sF.Q (sFI.mono gt);have zI:=sI.size;have j3:=hi.J sI hZ;have kx:∀b∈ob s.vr,b≠s.b:=λb G e=>d1 (e ▸ G);have za:wI.ownsRow 0 53 3 s.vr s.rs.length (s.rs.flatMap ZI):=by
  refine Qg (Qp (Qg (Qg (Qp h.rr kt) hD λb G hm=>h.d3 b G hm) hv λb G hm=>kx b G (Lb.1 hm)) hR) sFI λb G hm=>kx b G (Lb.1 hm)
 have drI:O5 [] wI { wI with drawn:=wI.drawn+1 }:=O5.C _ _
 have n11r:h8∉ob s.vr:=λhm=>hZ (mvr _ hm);refine Qd<|ZD (ob s.vr) (Xb 0 11 [6,7,10])<|p QE<|p QE<|p (Xh U)<|p (QR U)<|pq (λ_ J=>Qq (kw.J J d1) U U)<|pq (λ_ J=>ZY (j3.J J n11r) U U) <|
  pk<|QC (us:=[ZI q]) U U og (by exact(by decide:1*3<=1000000)) oA λb136 wJ hw hb136 zb=>⟨(drI.D hw).any,?_⟩
 refine pk<|Za (m:=1) (news:=ZI q) (L:=[]) (Qp za (drI.D hw)) U U U (zb.at oe) (Zr.all hO.ones) oa (Ln _) λv24 wK gu hS zv=>⟨(drI.D hw).any.Q hS,?_⟩;have z0:Zb wK.heap s.b TS _:=(kw.I (drI.D hw)).J hS d1;refine p (Xh U)<|p (QR U)<|pkl (hl:=by kernel_rfl)<|QB (u:=v24) z0 U U (Ma U) (Qt gu) λwN gv kz=>pe ?_;have sK:O5 s.own wA wK:=sI.Q ((drI.D hw).any.Q (hS.mono mvr));have sN:O5 s.own wA wN:=sK.Q (gv.mono gt);have zN:=sN.size;have z2:=hi.J sN hZ;have z3:=(hO.up (L':=H::L) λb G=>.inl (Lj _ G)).st (sN.mono subL);refine Qc<|Q5 z2 U U<|QM<|(QoR z3).mono ?_;rintro r26 wP ⟨k0,q',rfl,z4,gw⟩;have z5:=(h9.J sN n4).I k0;have hq1:=gw [H] (λb G=>by rw[Lb.1 G];have:=h9.lt;omega);refine Qe<|Qj (us:=ZI q') z5 U U U U hq1.ones λwM gx hB4M=>Qb<|Qk ⟨[.agg (ZI q').toArray,oF oG 0],⟨⟨_,U,Qn U (hB4M.at (L:=[]) oe).cells⟩,rfl,Z⟩,?_⟩;have k4:E=0:=I.D kk;have gy:=Qjo (cm:=cm) (vp:=vp) (qs:=qs) (q:=q) (made:=s.made+(q.k2.length:Int)) (v16:=v16) (v24:=v24) h hL go ⟨ga,by have:=h9.lt;exact this⟩ (Go.Lg.KX.up kn λb G=>.inl G) (hO.up (L':=H::L) λb G=>.inl (Lj _ G))
  hC ht hA hP hQ (hu.any.Q hD) gs (λb G=>(p6 b G).imp id λS=>LJ zC1 S) hv hR ku sFI (drI.D hw) hS gu zv gv kz k0 gx
 have hqN:∀N:LN,(∀b∈N,b<w.heap.size)->K4 N wM.heap q':=λN hN=>((gw (H::N) (λb G=>by
  rcases Li.1 G with rfl|G
  ·have:=h9.lt;omega
  have:=hN b G;omega)).st (gx.mono oe)).up λb G=>.inl (Lj _ G)
 have hqS:K4 (s.b::(ob v24++ob v16)) wM.heap q':=by
  have y1:=hv.size;have y3:=sFI.size;have y4:=(drI.D hw).size;have y5:=hS.size;have y6:=gv.size;refine((gw (H::(s.b::(ob v24++ob v16))) (λb G=>?_)).st (gx.mono oe)).up λb G=>.inl (Lj _ G);rcases Li.1 G with rfl|G
  ·have:=h9.lt;omega
  rcases Li.1 G with rfl|G
  ·exact kz.lt
  rcases Lc.1 G with G|G
  ·have:=(Qi gu b G).2;omega
  have:=(Qi gs b G).2;omega
 refine⟨q',by rw[k4];rfl,hqN,λh0=>OW k4 h0,λ_=>⟨?_,_,?_,?_,gy.1,gy.2.1,gy.2.2,hqS⟩⟩
 ·rw[z4,eq,T]
 ·rfl
 rw[hF,<-eqs,<-eq,<-hX,<-ecm];unfold Ki.sys;simp only[Oi,oX,OL];rfl
theorem Qjp {TS:Nat}{u:UnV}{v1 v2 v3 J O H m vr vu:O2}(S:Zb w.heap b TS [v1,v2,v3,J,O,H,m,vr,vu])(E:UnA L w.heap u)(T:b∈L):
  Q6 prog 48 [pS b,pS u.b1,pS u.b2] w λ_ w'=>O5 [b] w w'/\Zb w'.heap b TS [u.s.c.ve,u.s.c.vc,u.s.c.vr,u.s.c.vx,u.s.c.vk,u.s.vp,m,vr,vu]:=by
 refine Zq func48 ?_;have hbL:∀x∈[b],x∈L:=λx hx=>by rw[Lb.1 hx];exact T
 have hd:O5 [] w { w with drawn:=w.drawn+1 }:=O5.C _ _
 refine ZD [b] (Xb 0 10 [6,9])<|p QE<|p QE<|pq (λ_ G=>Qx (us:=u.s.c.cells) (E.a1.st (G.mono hbL)) U U)<|pq (λ_ G=>QA (u:=u.s.vp) (E.a2.st (G.mono hbL)) U)<|p (Xh U)<|p (QR U) <|
  pk<|YB (us:=u.s.c.cells) (cs':=[u.s.c.ve,u.s.c.vc,u.s.c.vr,u.s.c.vx,u.s.c.vk,H,m,vr,vu]) (S.I hd) U U U (Ma U) E.s.c.ones U λw1 I V=>⟨hd.any.Q I,?_⟩
 refine p (Xh U)<|p (QR U)<|pkl (hl:=by kernel_rfl)<|QB (u:=u.s.vp) V U U (Ma U) E.s.p.arr.one λw2 Y ha =>
  pe ?_
 exact⟨[],Z,(hd.any.Q I).Q Y,ha⟩
theorem QbU {e:Nat}{v:O2}{g:α->LV}(E:∀x,(g x).length=sz){l:List α}{y:α}(h:w.ownsRow 0 e sz v (l++[y]).length ((l++[y]).flatMap g)):
  ∃b cap,v=.slice (some ⟨b,0,none⟩) (l.length+1) cap/\l.length+1<=cap/\b<w.heap.size/\∀(X:LN) (w':O1),O5 X w w'->b∉X->w'.ownsRow 0 e sz (.slice (some ⟨b,0,none⟩) l.length cap) l.length (l.flatMap g):=by
 have G:(l++[y]).length=l.length+1:=oe
 rw[G]at h;rcases h.2 with⟨e1,e2⟩|⟨b,cap,cur,e1,T,H,V,Y⟩
 ·omega
 subst e1;obtain⟨I,cur,H,hl,J⟩:=Jn h;refine⟨b,cap,U,I,H.lt,λX w' O G=>Vx h (NQ _) (H.J O G) hl ?_ (xG E l)⟩;have S:(cur.take ((l.length+1)*sz)).take (l.length*sz)=cur.take (l.length*sz):=by rw[M4,Mj (LY _ (NQ _))]
 rw[<-S,J,LA,MZ (by rw[xG E l];exact Lu _),Lt (by rw[xG E l];exact Lu _)]
theorem QmP {s:Ki}(h:VH L w s)(hp:s.rs.length=s.us.length)(h3:s.us.length<=64):
  Q6 prog 18 [pS s.b] w λr w'=>(s.us=[]->r=oF oG 12/\O5 [] w w') /\
   (s.us≠[]->r=oF oG 0/\∃s':Ki,s'.b=s.b/\s'.sys=unS s.sys/\O5 s.own w w'/\VH L w' s'/\∀b∈s'.own,b∈s.own):=by
 obtain⟨TS,hB⟩:=h.blk;have hh:Zn [] w.heap s.vu s.us.length 1 (s.us.map K7):=QJ h.ru oa oe;refine Zq func18 ?_;refine Qc<|Qb<|Qd<|Qm<|x (X4 underlying46 U U)<|xe<|ZL rfl<|Qh<|Qm<|Yl U<|Qs U hB U U<|QK hh U<|Qb<|Qd<|Qm<|x (Q0 U U)<|xe<|QY rfl (λha=>?_) (λha=>?_)
 ·have hz:s.us=[]:=List.length_eq_zero_iff.1 (by have h4:(s.us.length:Int)=0:=ha;omega);refine Qc<|Qb<|Qk ⟨[oF oG 12],La,λ_=>⟨U,O5.Z _ _⟩,λhn=>OW hz hn⟩
 have V:s.us≠[]:=λe=>ha (by rw[e];rfl);refine Qh ?_;have he:s.rs≠[]:=λe=>V (List.length_eq_zero_iff.1 (by rw[<-hp,e];rfl));have J:s.us=s.us.dropLast++[s.us.getLast V]:=(List.dropLast_concat_getLast V).symm;have Y:s.rs=s.rs.dropLast++[s.rs.getLast he]:=(List.dropLast_concat_getLast he).symm;refine Zk s.us.dropLast λG hq=>Zk (s.us.getLast V) λu hr=>Zk s.rs.dropLast λH hs=>Zk (s.rs.getLast he) λq ht=>?_;rw[hq,hr]at J;rw[hs,ht]at Y;have h5:s.us.length=G.length+1:=by rw[J];simp
 have h6:s.rs.length=H.length+1:=by rw[Y];simp
 have O:=QbU (g:=λu=>[K7 u]) (λ_=>U) (l:=G) (y:=u) (by rw[<-List.map_eq_flatMap,<-J];exact h.ru);have S:=QbU QnI (l:=H) (y:=q) (by rw[<-Y];exact h.rr);refine Exists.elim O λgu O=>Exists.elim O λcu O=>Exists.elim S λgr S=>Exists.elim S λcr S=>?_;have evu:=O.1;have evr:=S.1;have hi:(s.us.length:Int) - 1=((G.length:Nat):Int):=oa
 have hu:(s.us.length:Int) - 1=((H.length:Nat):Int):=oa
 have eu:((s.us.map K7).drop (G.length*1)).take 1=[K7 u]:=by rw[J];simp
 have mu:u∈s.us:=by rw[J];simp
 have msb:s.b∈s.own:=Lr;have mgu:gu∈ob s.vu:=by rw[evu];simp[ob]
 have mgr:gr∈ob s.vr:=by rw[evr];simp[ob]
 refine Qm<|Yl U<|Qs U hB U U<|Qa<|x (Jh U U ⟨oa,oa⟩)<|xi (i:=G.length) hh U (show Go.Lg.ev _ _=_ from OV (Value.int .i64) hi) oa λh7 hj=>?_;rw[eu]at hj;refine x (QA hj U)<|Qa<|Qe<|xc (first:=[]) (capt:=[pS u.b1,pS u.b2]) U<|(Qjp hB (h.uA u mu) (h.sub _ msb)).mono ?_;rintro r1 w1 ⟨hv,hf⟩;refine xe<|Qd<|ZD [] (Xb 0 22 [18,21]) ?_;have hd:O5 [] w1 { w1 with drawn:=w1.drawn+1 }:=O5.C _ _
 refine p QE<|p QE<|p QE<|p (Xh U)<|p (QR U)<|pq (λ_ hc=>Qq (hf.I hc) U U) <|
  p QE<|p (λ_=>Jh U U ⟨oa,oa⟩)<|p (λ_=>Jy (n:=G.length+1) (b:=gu) (cap:=cu) (hi:=G.length) evu (show Go.Lg.ev _ _=_ from OV (Value.int .i64) hi) (ou O.2.1))<|p QE<|p (Xh U) <|
  p (QR rfl)<|pq (λ_ hc=>Qq (hf.I hc) U U)<|p QE<|p (λ_=>Jh U U ⟨oa,oa⟩)<|p (λ_=>Jy (n:=H.length+1) (b:=gr) (cap:=cr) (hi:=H.length) evr (show Go.Lg.ev _ _=_ from OV (Value.int .i64) hu) (ou S.2.1)) <|
  p (Xh rfl)<|p (QR U)<|pkl (hl:=by kernel_rfl)<|QB (u:=.slice (some ⟨gu,0,none⟩) G.length cu) (hf.I hd) U U (Ma U) U λw2 hw hy=>p (Xh U) <|
  p (QR rfl)<|pkl (hl:=by kernel_rfl)<|QB (u:=.slice (some ⟨gr,0,none⟩) H.length cr) hy U U (Ma U) U λw3 h0 h1=>pe ?_
 refine Qc<|Qb ?_;have T:O5 [s.b] w w3:=((hv.D hd).Q hw).Q h0;have hk:gu∉[s.b]:=λI=>h.d2 (Lb.1 I ▸ mgu);have ho:gr∉[s.b]:=λI=>h.d1 (Lb.1 I ▸ mgr);have hg:∀b∈[s.b],b∈L:=λb E=>by rw[Lb.1 E];exact h.sub _ msb
 have h2:∀b∈[s.b],b∈s.own:=λb E=>by rw[Lb.1 E];exact msb
 have own':∀b∈(⟨s.b,u.s,s.made,.slice (some ⟨gr,0,none⟩) H.length cr,H,.slice (some ⟨gu,0,none⟩) G.length cu,G⟩:Ki).own,b∈s.own:=λb E=>by
  rcases Li.1 E with rfl|E
  ·exact msb
  rcases Lc.1 E with E|E
  ·rw[Lb.1 (show b∈[gr] from E)];exact Lj _ (Lc.2 (.inl mgr))
  rw[Lb.1 (show b∈[gu] from E)];exact Lj _ (Lc.2 (.inr mgu))
 refine Qk ⟨[oF oG 0],La,λe=>OW e V,λ_=>⟨U,⟨s.b,u.s,s.made,.slice (some ⟨gr,0,none⟩) H.length cr,H,.slice (some ⟨gu,0,none⟩) G.length cu,G⟩,U,?_,T.mono h2,⟨⟨TS,h1⟩,S.2.2.2 _ _ T ho,?_,λI=>ho (Lb.2 (Lb.1 (show s.b∈[gr] from I)).symm),λI=>hk (Lb.2 (Lb.1 (show s.b∈[gu] from I)).symm),λb E I=>?_,λb E=>h.sub b (own' b E),Mm.st (h.uA u mu).s (T.mono hg),λd hd=>Mm.st (h.rA d (by rw[Y];exact Lc.2 (.inl hd))) (T.mono hg),λd hd=>Mm.st (h.uA d (by rw[J];exact Lc.2 (.inl hd))) (T.mono hg)⟩,own'⟩⟩
 ·show Ki.sys _=_;unfold Ki.sys unS;rw[J,Y];simp only[Oi,oX,OL,List.dropLast_concat,List.getLastD_concat];rfl
 ·have:=O.2.2.2 _ _ T hk;rw[<-List.map_eq_flatMap]at this;exact this
 rw[Lb.1 (show b∈[gr] from E)]at I;exact h.d3 gr mgr (by rw[Lb.1 (show gr∈[gu] from I)];exact mgu)
structure YF (k:Nat)(s:Sys):Prop where
 st:Qkg s.c s.ps
 un:∀u∈s.un,Qkg u.1 u.2
 ln:s.rs.length=s.un.length
 l64:s.un.length<=64
 m0:0<=s.made
 m1:s.made<=(k:Int)*1000
theorem Qal {v:Int}(h:KZ c bf v=0):(XQ c bf v).made.length<=96:=by
 obtain⟨E,G⟩:=Qj6 h;have e:(XQ c bf v).made=((O9 c).filter λm=>!(KS c bf v m).2.2).map (Yg c):=by unfold XQ;rw[Qfs G]
 rw[e,Lh];exact LJ (Mi _ _) (yh (Z5 E).sr)
theorem YF.mono {k k':Nat}{s:Sys}(h:YF k s)(E:k<=k'):YF k' s:=⟨h.st,h.un,h.ln,h.l64,h.m0,ou h.m1⟩
theorem Qn1 (h:yf c=0):(ZT c).1=0/\Zl c=0/\KZ c [] 0=0:=by
 unfold yf at h;by_cases E:(ZT c).1≠0
 ·rw[OU E]at h;exact OW h E
 rw[OT E]at h;by_cases G:Zl c≠0
 ·rw[OU G]at h;exact OW h G
 rw[OT G]at h;exact⟨Lo.1 E,Lo.1 G,h⟩
theorem YF.new (h:yf c=0):YF 1 (Qf5 c):=by
 have E:=(Qn1 h).2.2;have I:=Qal E;exact⟨Qj4 (λp G=>(by cases G)) E,λu H=>(by cases H),rfl,Ln _,(by show(0:Int)<=((XQ c [] 0).made.length:Int);omega),(by show((XQ c [] 0).made.length:Int)<=_;omega)⟩
theorem Qp8 {s:Sys}{es:List (Bool×Yc)}(h:yW s es=0):es.length≠0/\s.un.length≠64/\(qq s.c es).1=0/\KZ (qq s.c es).2 s.ps ((s.un.length:Int)+1)=0:=by
 unfold yW at h;by_cases G:es.length=0
 ·rw[OU G]at h;cases h
 rw[OT G]at h;by_cases H:s.un.length=64
 ·rw[OU H]at h;cases h
 rw[OT H]at h;by_cases E:(qq s.c es).1≠0
 ·rw[OU E]at h;exact OW h E
 rw[OT E]at h;exact⟨G,H,Lo.1 E,h⟩
theorem YF.edit {k:Nat}{s:Sys}{es:List (Bool×Yc)}(E:YF k s)(h:yW s es=0):YF (k+1) (edS s es):=by
 obtain⟨J,O,S,H⟩:=Qp8 h;have T:=Qal H;have hl:=E.l64;have I:=E.ln;have V:=E.m0;have a1:=E.m1;refine⟨Qj4 E.st.ok H,λu G=>?_,?_,?_,?_,?_⟩
 ·rcases Lc.1 G with G|G
  ·exact E.un u G
  rw[Lb.1 G];exact E.st
 ·show(s.rs++[_]).length=(s.un++[_]).length;simp[I]
 ·show(s.un++[_]).length<=64;simp;omega
 ·show(0:Int)<=s.made+((XQ _ _ _).made.length:Int);omega
 show s.made+((XQ _ _ _).made.length:Int)<=_;omega
theorem YF.undo {k:Nat}{s:Sys}(E:YF k s)(h:s.un≠[]):YF k (unS s):=by
 have e:s.un.getLastD (s.c,s.ps)=s.un.getLast h:=by
  conv=>lhs;rw[<-List.dropLast_concat_getLast h]
  exact List.getLastD_concat
 refine⟨?_,λu G=>E.un u (List.dropLast_subset _ G),?_,?_,E.m0,E.m1⟩
 ·show Qkg (s.un.getLastD (s.c,s.ps)).1 (s.un.getLastD (s.c,s.ps)).2;rw[e];exact E.un _ (List.getLast_mem h)
 ·show s.rs.dropLast.length=s.un.dropLast.length;rw[List.length_dropLast,List.length_dropLast,E.ln]
 show s.un.dropLast.length<=64;rw[List.length_dropLast];have:=E.l64;omega
theorem YF.len {k:Nat}{s:Ki}(h:YF k s.sys):s.rs.length=s.us.length/\s.us.length<=64/\s.s.ps.length<=1000:=by
 have e1:s.sys.rs.length=s.rs.length:=Lh _;have e2:s.sys.un.length=s.us.length:=Lh _;have G:s.sys.ps.length=s.s.ps.length:=Lh _;have E:=OV oP h.st.ky;rw[Lh,Lh]at E;have:=yh (Z5 h.st.ck).sr;exact⟨by rw[<-e1,<-e2];exact h.ln,by rw[<-e2];exact h.l64,oa⟩
theorem U1 {k:Nat}{L2:LN}{s:Ki}{xs:List YT}(h:VH L w s)(G:YF k s.sys)(ha:k<=1000)(I:∀b∈L,b<w.heap.size)(hx:jl L2 w.heap vl xs)(J:∀e∈xs.map YT.e,zD e.2)(O:Kb w 4096):
  Q6 prog 13 [pS s.b,vl] w λr w'=>∃qr:yZ,r=.tuple #[.agg (ZI qr).toArray,oF oG (yW s.sys (xs.map YT.e))]/\(∀N:LN,(∀b∈N,b<w.heap.size)->K4 N w'.heap qr)/\(yW s.sys (xs.map YT.e)≠0->O5 [] w w'/\qr.rp=⟨[],[],[]⟩) /\
   (yW s.sys (xs.map YT.e)=0->qr.rp=XQ (qq s.sys.c (xs.map YT.e)).2 s.sys.ps ((s.sys.un.length:Int)+1)/\∃E:Ki,E.b=s.b/\E.sys=edS s.sys (xs.map YT.e)/\YF (k+1) E.sys/\O5 s.own w w'/\VH (E.own++L) w' E/\(∀b∈E.own,b∈s.own\/w.heap.size<=b)/\K4 E.own w'.heap qr):=by
 have hl:=G.len;have m0:0<=s.made:=G.m0;have m1:s.made<=(k:Int)*1000:=G.m1;refine(QmX h I hx J G.st hl.2.2 ⟨m0,oa⟩ oa hl.2.1 O).mono ?_;rintro r w' ⟨qr,e1,e2,S,T⟩;refine⟨qr,e1,e2,S,λH=>?_⟩;obtain⟨f1,E,f2,f3,f4,V,Y⟩:=T H;have e5:s.sys.un.length=s.us.length:=Lh _;exact⟨by rw[f1,e5];rfl,E,f2,f3,by rw[f3];exact G.edit H,f4,V,Y⟩
theorem zR {k:Nat}{L2:LN}{s:Ki}{xs:List YT}(h:VH L w s)(G:YF k s.sys)(H:k<=1000)(I:∀b∈L,b<w.heap.size)(hx:jl L2 w.heap vl xs)(J:∀e∈xs.map YT.e,zD e.2)(O:Kb w 4096):
  Q6 prog 13 [pS s.b,vl] w λr w'=>∃qr:yZ,r=.tuple #[.agg (ZI qr).toArray,oF oG (yW s.sys (xs.map YT.e))]/\(∀N:LN,(∀b∈N,b<w.heap.size)->K4 N w'.heap qr)/\(yW s.sys (xs.map YT.e)≠0->O5 [] w w'/\qr.rp=⟨[],[],[]⟩) /\
   (yW s.sys (xs.map YT.e)=0->qr.rp=XQ (qq s.sys.c (xs.map YT.e)).2 s.sys.ps ((s.sys.un.length:Int)+1)/\∃E:Ki,E.b=s.b/\E.sys=edS s.sys (xs.map YT.e)/\YF (k+1) E.sys/\O5 s.own w w'/\VH (E.own++L) w' E/\∀b∈E.own,b∈s.own\/w.heap.size<=b):=
 (U1 h G H I hx J O).mono λ_ _ ⟨qr,e1,e2,S,T⟩=>⟨qr,e1,e2,S,λV=>let⟨f1,E,f2,f3,f4,Y,f6,f7,_⟩:=T V;⟨f1,E,f2,f3,f4,Y,f6,f7⟩⟩
theorem zQ {k:Nat}{s:Ki}(h:VH L w s)(H:YF k s.sys):
  Q6 prog 18 [pS s.b] w λr w'=>(s.sys.un=[]->r=oF oG 12/\O5 [] w w') /\
   (s.sys.un≠[]->r=oF oG 0/\∃E:Ki,E.b=s.b/\E.sys=unS s.sys/\YF k E.sys/\O5 s.own w w'/\VH L w' E/\∀b∈E.own,b∈s.own):=by
 have hl:=H.len;refine(QmP h hl.1 hl.2.1).mono ?_;rintro r w' ⟨e1,e2⟩;refine⟨λG=>e1 (List.map_eq_nil_iff.1 G),λG=>?_⟩;obtain⟨f1,E,f2,f3,f4,I,J⟩:=e2 λe=>G (by show s.us.map _=[];rw[e];rfl);exact⟨f1,E,f2,f3,by rw[f3];exact H.undo G,f4,I,J⟩
theorem Qlb {c:CL}(G:ZK L w.heap c)(H:CSz c.V)(I:Kb w 4096)(hE:yf c.V=0):
  Q6 prog 11 [c.val] w λr w'=>O5 [] w w'/\∃s:Ki,r=.tuple #[pS s.b,oF oG 0]/\s.sys=Qf5 c.V/\YF 1 s.sys/\(∀b∈s.own,w.heap.size<=b)/\VH (s.own++oT w.heap.size) w' s:=by
 refine(Qkn G H I).mono ?_;rintro r w' ⟨J,vp,e1,_,O⟩;obtain⟨s,S,E,T,V⟩:=O hE;exact⟨J,s,by rw[e1,S,hE],E,by rw[E];exact YF.new hE,T,V⟩
theorem QeO (k:Ky):(KL k).length=2:=rfl
theorem X8 {v:O2}{l:List Ky}(h:Kys L w.heap v l)(J:Kys L' w.heap v' l):
  Q6 prog 54 [v,v'] w λr w'=>r=.bool true/\O5 [] w w':=by
 have hb:=h.le;refine Zq func54 ?_;refine Qc<|Qb<|Qd<|Qm<|QK h U<|Qa<|QK J U<|ZA U U<|xe<|QY rfl (λO=>OW U O) (λO=>?_);refine Qh<|Qd<|Qc<|Qb<|Qf<|QD (α:=Nat) [(4,5),(11,25)] (λk=>[(5,oF oG k)]) (λk w'=>O5 [] w w'/\k<=l.length) (λk=>l.length - k) ol 0 La ⟨O5.Z _ _,Ln _⟩ ?_;rintro k g H ⟨G,hk⟩;have S:Kys L H.heap v l:=h.I G;have V:Kys L' H.heap v' l:=J.I G;refine Qd<|Qm<|Qa<|QK S U<|QZ U U<|xe<|QG rfl (λT=>?_) (λT=>?_)
 ·refine Qy<|Qc<|Qb<|Qk ⟨[.bool true],La,U,G⟩
 have E:k<l.length:=by have he:(k:Int)<(l.length:Int):=T;omega
 refine Qh<|Qd<|Qf<|Qd<|ZD [] (Xb 0 9 [])<|p QE<|p QE<|Lg.pig (g:=KL) (i:=k) U QeO S U U E λhf Y=>pq (λ_ I=>Qx (Y.I I) U U) <|
  p QE<|p QE<|Lg.pig (g:=KL) (i:=k) U QeO V U U E λhg ha=>pq (λ_ I=>Qx (ha.I I) U U)<|p (λ_=>Va (xs:=KL (l[k]'E)) (ys:=KL (l[k]'E)) U U U)<|pe ?_
 refine ZL (show Go.Lg.ev _ _=_ from OV (λb=>Value.bool (!b)) ((QiA (l[k]'E) (l[k]'E)).D (OX U))) ?_;refine Qh<|Qw<|Qa<|QP U U<|Qb<|⟨k+1,oa,La,G.D (O5.C [] H),oa⟩
theorem jC {v:O2}(h:QQ L w.heap v l)(I:QQ L' w.heap v' l):
  Q6 prog 109 [v,v'] w λr w'=>r=.bool true/\O5 [] w w':=by
 have he:=h.le;refine Zq func109 ?_;refine Qc<|Qb<|Qd<|Qm<|QK h U<|Qa<|QK I U<|ZA U U<|xe<|QY rfl (λJ=>OW U J) (λJ=>?_);refine Qh<|Qd<|Qc<|Qb<|Qf<|QD (α:=Nat) [(4,5),(11,25)] (λk=>[(5,oF oG k)]) (λk w'=>O5 [] w w'/\k<=l.length) (λk=>l.length - k) ol 0 La ⟨O5.Z _ _,Ln _⟩ ?_;rintro k g G ⟨E,hk⟩;have O:QQ L G.heap v l:=h.I E;have Y:QQ L' G.heap v' l:=I.I E;refine Qd<|Qm<|Qa<|QK O U<|QZ U U<|xe<|QG rfl (λS=>?_) (λS=>?_)
 ·refine Qy<|Qc<|Qb<|Qk ⟨[.bool true],La,U,E⟩
 have T:k<l.length:=by have hf:(k:Int)<(l.length:Int):=S;omega
 refine Qh<|Qd<|Qf<|Qd<|ZD [] (Xb 0 9 [])<|p QE<|p QE<|pii U O U U T λhg ha=>pq (λ_ H=>QA (ha.I H) U) <|
  p QE<|p QE<|pii U Y U U T λhh hb=>pq (λ_ H=>QA (hb.I H) U)<|p (λ_=>YP U U)<|pe ?_
 refine QY rfl (λV=>OW U V) (λV=>?_);refine Qh<|Qw<|Qa<|QP U U<|Qb<|⟨k+1,oa,La,E.D (O5.C [] G),oa⟩
theorem y7 {a b:yZ}(h:K4 L w.heap a)(I:K4 L' w.heap b)(e:a.rp=b.rp):
  Q6 prog 19 [.agg (ZI a).toArray,.agg (ZI b).toArray] w λr w'=>r=.bool true/\O5 [] w w':=by
 obtain⟨a1,k1,a2,k2,a3,k3⟩:=a;obtain⟨b1,j1,b2,j2,V,j3⟩:=b;cases e
 refine Zq func19 ?_;refine Qc<|Qe<|QS (us:=[a1,a2,a3]) U λhc w1 Y he ha=>Qe<|QS (us:=[b1,b2,V]) U λhf w2 T hg J=>Qb ?_;have E:=Y.D T;have O:=ha.I T;refine Q3 (α:=Unit) [(4,23)] (λz=>[(4,.bool true)]) (λz w'=>O5 [] w2 w') ol ?_ ?_
 ·refine Qw<|Qs U O U U<|Qs U J U U<|QM<|(X8 (h.a1.I E) (I.a1.I E)).mono ?_;rintro r3 w3 ⟨rfl,G⟩;refine Qa<|Qs U (O.I G) U U<|Qs U (J.I G) U U<|QM<|(X8 ((h.a2.I E).I G) ((I.a2.I E).I G)).mono ?_;rintro r4 w4 ⟨rfl,hb⟩;have H:=G.D hb;refine QH U<|Qa<|Qs U (O.I H) U U<|Qs U (J.I H) U U<|QM<|(X8 ((h.a3.I E).I H) ((I.a3.I E).I H)).mono ?_;rintro r5 w5 ⟨rfl,S⟩;refine QH U<|Qb<|⟨(),La,H.D S⟩
 rintro⟨⟩ g5 w5 S;exact Qk ⟨[.bool true],La,U,E.D S⟩
abbrev VE (q:ze):LV:=[q.vk,q.vd,q.vm]
theorem QbI {a b:ze}(h:zf L w.heap a)(J:zf L' w.heap b)(e1:a.kp=b.kp)(e2:a.ds=b.ds)(e3:a.rm=b.rm):
  Q6 prog 56 [.agg (VE a).toArray,.agg (VE b).toArray] w λr w'=>r=.bool true/\O5 [] w w':=by
 have hk:=h.k;have hd:=h.d;have O:=h.r;rw[e1]at hk;rw[e2]at hd;rw[e3]at O;have hu:=O.le;refine Zq func56 ?_;refine Qc<|Qe<|QS (us:=VE a) U λb2 w1 hl hv hm=>Qe<|QS (us:=VE b) U λb3 w2 hb hw S=>Qb ?_;have E:=hl.D hb;have T:=hm.I hb;refine Qd<|Q3 (α:=Unit) [(6,28)] (λz=>[(28,.bool false)]) (λz w'=>O5 [] w2 w') ol ?_ ?_
 ·refine Qw<|Qs U T U U<|Qs U S U U<|QM<|(jC (hk.I E) (J.k.I E)).mono ?_;rintro r3 w3 ⟨rfl,H⟩;refine xB (Zx U) (λhe=>OW he oe) (λhe=>?_);refine Qa<|Qs U (T.I H) U U<|Qs U (S.I H) U U<|QM<|(jC ((hd.I E).I H) ((J.d.I E).I H)).mono ?_;rintro r4 w4 ⟨rfl,hn⟩;have I:=H.D hn;refine xB (Zx U) (λhf=>OW hf oe) (λhf=>?_);refine QH U<|Qa<|Qs U (T.I I) U U<|QK ((O.I E).I I) U<|Q2 U<|x (Qq (S.I I) U U) <|
   QK ((J.r.I E).I I) U<|ZA U U<|QH U<|xe ?_
  exact⟨(),⟨OV Value.bool (OZ λh=>h U),Z⟩,I⟩
 rintro⟨⟩ g5 w5 hg;refine ZL rfl<|Qh ?_;have ho:=E.D hg;refine Qd<|Qc<|Qb<|Qf<|QD (α:=Nat) [(4,5),(29,46)] (λk=>[(5,oF oG k)]) (λk w'=>O5 [] w5 w'/\k<=b.rm.length) (λk=>b.rm.length - k) ol 0 La ⟨O5.Z _ _,Ln _⟩ ?_;rintro k g w6 ⟨Y,hy⟩;have hh:=hg.D Y;have ha:=ho.D Y;have h1:=O.I ha;have hp:=J.r.I ha;have hi:=T.I hh;have hq:=S.I hh;refine Qd<|Qm<|Qs U hi U U<|QK h1 U<|QZ U U<|xe<|QG rfl (λhj=>?_) (λhj=>?_)
 ·refine Qy<|Qc<|Qb<|Qk ⟨[.bool true],La,U,ha⟩
 have V:k<b.rm.length:=by have hz:(k:Int)<(b.rm.length:Int):=hj;omega
 refine Qh<|Qd<|Qf<|Qd<|ZD [] (Xb 0 11 [])<|p (QR U)<|pq (λ_ G=>Qq (hi.I G) U U)<|p QE<|Lg.pig (g:=q4C) (i:=k) U Qh1 h1 U U V λh0 hs=>pq (λ_ G=>Qx (hs.I G) U U) <|
  p (QR rfl)<|pq (λ_ G=>Qq (hq.I G) U U)<|p QE<|Lg.pig (g:=q4C) (i:=k) U Qh1 hp U U V λh2 ht=>pq (λ_ G=>Qx (ht.I G) U U)<|p (λ_=>Va (xs:=q4C b.rm[k]) (ys:=q4C b.rm[k]) U U U)<|pe ?_
 refine ZL (show Go.Lg.ev _ _=_ from OV (λb=>Value.bool (!b)) ((QnO (b.rm[k]'V) (b.rm[k]'V)).D (OX U))) ?_;refine Qh<|Qw<|Qa<|QP U U<|Qb<|⟨k+1,oa,La,Y.D (O5.C [] w6),oa⟩
theorem Uo {a b:ze}(h:zf L w.heap a)(J:zf L' w.heap b)(e:a.en=b.en):
  Q6 prog 20 [.agg (ZF a).toArray,.agg (ZF b).toArray] w λr w'=>r=.bool true/\O5 [] w w':=by
 have ek:a.ky=b.ky:=OV Ent.ky e;have es:a.p.a=b.p.a:=OV Ent.sp e;have O:=h.a;rw[es]at O;refine Zq func20 ?_;refine Qc<|Qe<|QS (us:=ZF a) U λb2 w1 V hc Y=>Qe<|QS (us:=ZF b) U λb3 w2 S he H=>Qb ?_;have E:=V.D S;have I:=Y.I S;refine Q3 (α:=Unit) [(4,23)] (λz=>[(4,.bool true)]) (λz w'=>O5 [] w2 w') ol ?_ ?_
 ·refine Qw<|Q2 U<|x (Zj (us:=KL a.ky) I U U U)<|Q2 U<|x (Zj (us:=KL b.ky) H U U U)<|xB (Qh0 (xs:=KL a.ky) (ys:=KL b.ky) U U U) (λT=>?_) (λT=>OW T (by rw[QiA,OX ek];simp));refine Qa<|Q2 U<|x (Zj (us:=[a.p.va,oF oG a.p.a.st,a.p.vm,a.p.ve]) I U U U)<|Q2 U<|x (Zj (us:=[b.p.va,oF oG b.p.a.st,b.p.vm,b.p.ve]) H U U U)<|Qe<|xf ?_;rw[es];refine(Qea (O.I E) (J.a.I E)).mono ?_;rintro r3 w3 ⟨rfl,G⟩;refine QH U<|Qa<|Q2 U<|x (Zj (us:=VE a) (I.I G) U U U)<|Q2 U<|x (Zj (us:=VE b) (H.I G) U U U)<|ZP<|(QbI ((h.I E).I G) ((J.I E).I G) (OV Ent.kp e) (OV Ent.ds e) (OV Ent.rm e)).mono ?_;rintro r4 w4 ⟨rfl,ha⟩;refine QH U<|Qb<|⟨(),La,G.D ha⟩
 rintro⟨⟩ g5 w5 hb;exact Qk ⟨[.bool true],La,U,E.D hb⟩
open Go.RowKit
def q8 (P:O4)(all:xE)(K:LN->Fr->O1->Prop):xu->xA->LN->Fr->O1->Prop
 | [],_,own,f,w=>K own f w
 | (j,true)::l,C,own,f,w=>Yb all f (QV all j)=true/\∃v,(∀w',(U4 (QV all j)=true->C w')->(execOp (ev f) (QV all j)).run P w'=.ok (.value v) w')/\q8 P all K l C own (QW f (QV all j).dst v) w
 | (j,false)::l,C,own,f,w=>Yb all f (QV all j)=true/\∀w1,O5 [] w w1->C w1->XO P (QV all j) f w1 λE w'=>∃C':xA,(∀x,C' x->C x)/\(∀x x',C' x->O5 [] x x'->C' x')/\C' w'/\∃own',O5 own w1 w'/\(∀b∈own',b∈own\/(w1.heap.size<=b/\b<w'.heap.size))/\q8 P all K l C' own' E w'
section
variable {all:xE}{C C0:xA}{KF:LN->Fr->O1->Prop}
theorem q8.I (hK:∀own f w w',KF own f w->O5 [] w w'->KF own f w'):∀{l:xu}{C:xA}{own:LN}{f:Fr}{w w':O1},q8 P all KF l C own f w->O5 [] w w'->q8 P all KF l C own f w'
 | [],_,_,_,_,_,h,E=>hK _ _ _ _ h E
 | (_,true)::_,_,_,_,_,_,h,E=>by
  obtain⟨G,v,H,hx⟩:=h;exact⟨G,v,H,q8.I hK hx E⟩
 | (_,false)::_,_,_,_,_,_,h,E=>⟨h.1,λI J O=>h.2 I (E.D J) O⟩
attribute [local semireducible] XA XO in
theorem XA.sub {C':xA}(G:∀x,C' x->C x):∀(k:Nat) (ls:Array Bool) (f:Fr) (w:O1),XA P all C' K k ls f w->XA P all C K k ls f w
 | 0,_,_,_,h=>h
 | k+1,ls,f,w,h=>by
  refine⟨h.1,λi hi o I=>?_⟩;have E:=h.2 i hi o I;cases H:Yb all f o with
  | false=>rw[H]at E;exact XA.sub G k _ _ _ E
  | true =>
   rw[H]at E;exact XO.mono (λJ w' hx=>⟨hx.1.imp id (Or.imp id (G w')),XA.sub G k _ _ _ hx.2⟩) E
structure Fl3 (P:O4)(all:xE)(C0:xA)(K:xz)(KF:LN->Fr->O1->Prop)(i d:Nat)(rest:xu)(Φ:O2->O1->Prop)(Dc:xw)(f1:Fr):Prop where
 stab:∀v (own:LN) w w',Φ v w->O5 own w w'->(∀b∈ow v,b∉own)->Φ v w'
 spec:∀f w,(∀t,Xi Dc t=false->f t=f1 t)->C0 w->XO P (QV all i) f w λf' w'=>O5 [] w w'/\Φ (f' d) w'/\∀b∈ow (f' d),w.heap.size<=b/\b<w'.heap.size
 fin:∀own f w,KF own f w->∀v (C:xA),C w->(∀x,C x->C0 x)->Φ v w->(∀b∈ow v,b∉own/\b<w.heap.size)->XP P all C K rest (QW f (some d) v) w
 mono:∀own f w w',KF own f w->O5 [] w w'->KF own f w'
theorem jG:∀(l:xE) (j:Nat),l[j]?=none->QV l j=default
 | [],_,_=>rfl
 | _::l,0,h=>by simp at h
 | _::l,j+1,h=>jG l j (oz h)
theorem QbW (G:Region.noSelect all.toArray=true)(j:Nat):∀cs b,(QV all j).op≠.select cs b:=by
 intro cs b;cases E:all[j]? with
 | none=>rw[jG all j E];intro e;cases e
 | some o=>rw[Zm E];exact Region.noSelect_spec G j o cs b (oz E)
theorem Qd0 {i d:Nat}{rest:xu}{Φ:O2->O1->Prop}{Dc:xw}{f1:Fr}(hF:Fl3 P all C0 K KF i d rest Φ Dc f1)(J:Region.noSelect all.toArray=true){v:O2}:∀(l:xu) (C:xA) (own:LN) (ls:Array Bool) (f:Fr) (w:O1),(∀x,C x->C0 x)->(∀x x',C x->O5 [] x x'->C x')->ls.size=all.length->ZS all d l=true->q8 P all KF l C own f w->C w->Φ v w ->
  (∀b∈ow v,b∉own/\b<w.heap.size)->Xe all.toArray (l++rest) ls=true->XA P all C K (l++rest).length ls (QW f (some d) v) w
 | [],C,own,ls,f,w,O,hh,S,_,h,H,T,E,I=>ZQ J rest ls _ w S (.inl H) I (hF.fin own f w h v C H O T E)
 | (j,true)::l,C,own,ls,f,w,O,hh,S,hfr,h,H,T,E,I=>by
  simp only[ZS,oS,oK,Og,List.contains_eq_mem,decide_eq_false_iff_not,beq_eq_false_iff_ne,ne_eq]at hfr;obtain⟨⟨h1,h2⟩,hfr⟩:=hfr;have hi:ZS all d l=true:=by simpa[ZS]using hfr
  have hd:∀e,some d=some e->e∉(QV all j).looksAt all.toArray:=λe V=>by cases V;exact h1
  simp only[Ob,Xe,oK]at I;obtain⟨⟨Y,hf⟩,hl⟩:=I;have hw:j∈Region.ready .any all.toArray ls:=by simpa using Y
  obtain⟨hg,u,hu,hx⟩:=h;cases G:all[j]? with
  | none =>
   exfalso;obtain⟨_,o,h6,_⟩:=mem_ready.1 hw;simp[G]at h6
  | some o =>
   have h7:∀(j:Nat) (o:Oper) cs b,all[j]?=some o->o.op≠.select cs b:=λj o cs b hj=>Region.noSelect_spec J j o cs b (oz hj);have h8:=λk ok hk=>Region.free_spec (ops:=all.toArray) (md:=.any) (i:=j) (oi:=o) (listed:=ls) (oz G) hf k ok (oz hk);have hn:Yb all (QW f (some d) v) o=true:=by
    have:=Jc (QV all j) f (some d) v hd;rw[Zm G]at this hg;rw[this];exact hg
   have h9:∀w',(U4 o=true->C w')->(execOp (ev (QW f (some d) v)) o).run P w'=.ok (.value u) w':=λw' hc=>by
    have:=Xw (all:=all) (QbW J j) f (some d) v hd;rw[Zm G]at this hu;rw[this];exact hu w' hc
   have hy:=Qd0 hF J l C own (ls.setIfInBounds j true) _ w O hh (oz S) hi hx H T E hl;rw[<-Kj f v u (λe V=>by cases V;exact h2),Zm G]at hy;exact Xj (v:=u) (D:=λw=>U4 o=true->C w) G (λ_ h=>h) h7 _ ls _ w (λ_=>H) h8 hw (.inl ⟨hn,h9⟩) hy
 | (j,false)::l,C,own,ls,f,w,O,hh,S,hfr,h,H,T,E,I=>by
  simp only[ZS,oS,oK,Og,List.contains_eq_mem,decide_eq_false_iff_not,beq_eq_false_iff_ne,ne_eq]at hfr;obtain⟨⟨h1,h2⟩,hfr⟩:=hfr;have hi:ZS all d l=true:=by simpa[ZS]using hfr
  have hd:∀e,some d=some e->e∉(QV all j).looksAt all.toArray:=λe V=>by cases V;exact h1
  simp only[Ob,Xe,oK,beq_iff_eq]at I;obtain⟨Y,hl⟩:=I;show XA P all C K ((l++rest).length+1) ls _ w;refine XK (λh0=>(by rw[h0]at Y;cases Y)) ?_;rw[Y];intro k hk o G;have hA:k=j:=by simpa using hk
  subst hA;have hq:=Zm G;have hn:Yb all (QW f (some d) v) o=true:=by
   have:=Jc (QV all k) f (some d) v hd;rw[hq]at this;rw[this,<-hq];exact h.1
  rw[hn,cond_true];have h3:=h.2 w (O5.Z _ _) H;have h4:XO P (QV all k) (QW f (some d) v) w λf' w'=>(VS all k=true\/w'=w\/C w')/\XA P all C K (l++rest).length (ls.setIfInBounds k true) f' w':=by
   refine Qbh (all:=all) (QbW J k) h1 h2 (λu w' hx=>?_) h3;obtain⟨C',ht,hB,hz,own',h5,hD,hx⟩:=hx;refine⟨.inr (.inr (ht _ hz)),XA.sub ht _ _ _ _ (Qd0 hF J l C' own' _ _ w' (λx hx=>O x (ht x hx)) hB (oz S) hi hx hz (hF.stab v own w w' T h5 (λb ha=>(E b ha).1)) (λb ha=>⟨λhm=>?_,LW (E b ha).2 h5.size⟩) hl)⟩;rcases hD b hm with h3|h3
   ·exact(E b ha).1 h3
   exact Nq _ (LW (E b ha).2 h3.1)
  rw[hq]at h4;exact h4
theorem QdY {i d:Nat}{rest:xu}{Φ:O2->O1->Prop}{Dc:xw}{f1:Fr}(O:Fl3 P all C0 K KF i d rest Φ Dc f1)(hs:Region.noSelect all.toArray=true)(hg:(QV all i).guard=none)(hd:(QV all i).dst=some d):∀(l:xu) (C:xA) (ls:Array Bool) (own:LN) (f:Fr) (w:O1),(∀x,C x->C0 x)->(∀x x',C x->O5 [] x x'->C x')->ls.size=all.length->ZS all d l=true->Z2 all Dc l=true->(∀t,Xi Dc t=false->f t=f1 t) ->
  q8 P all KF l C own f w->C w->(∀b∈own,b<w.heap.size)->V5 all.toArray i rest l ls=true->XA P all C K (l.length+1+rest.length) ls f w
 | [],C,ls,own,f,w,S,ha,he,hfr,T,hk1,h,G,hc,E=>by
  simp only[V5,oK,beq_iff_eq]at E;obtain⟨Y,E⟩:=E;rw[show([]:xu).length+1+rest.length=rest.length+1 by simp;omega];refine XK (λh0=>(by rw[h0]at Y;cases Y)) ?_;rw[Y];intro k hk o H;have hi:k=i:=by simpa using hk
  subst hi;have hh:=Zm H;have hx:=O.spec f w hk1 (S _ G);rw[hh]at hg hd hx;rw[JM hg,cond_true];refine hx.mono λv w' hx=>?_;rw[hd]at hx ⊢;obtain⟨V,I,h4⟩:=hx;simp only[QW,YO]at I h4;have J:=ha _ _ G V;refine⟨.inr (.inr J),ZQ hs rest _ _ _ (oz he) (.inl J) E (O.fin own f w' (O.mono own f w w' h V) v C J S I (λb hb=>⟨λhm=>Nq _ (LW (hc b hm) (h4 b hb).1),(h4 b hb).2⟩))⟩
 | (j,true)::l,C,ls,own,f,w,S,ha,he,hfr,T,hk1,h,G,hc,E=>by
  simp only[V5,oK]at E;obtain⟨⟨Y,hf⟩,hl⟩:=E;have hu:j∈Region.ready .any all.toArray ls:=by simpa using Y
  have e:(oP ((j,true)::l))+1+rest.length=(l.length+1+rest.length)+1:=by simp;omega
  rw[e];have hn:ZS all d l=true:=by simp only[ZS,oS,oK]at hfr;exact hfr.2
  simp only[Z2,oS,oK]at T;have hq:Z2 all Dc l=true:=T.2;cases H:all[j]? with
  | none =>
   exfalso;obtain⟨_,o,h6,_⟩:=mem_ready.1 hu;simp[H]at h6
  | some o =>
   obtain⟨hw,v,hv,hx⟩:=h;rw[Zm H]at hw hv hx;have h7:∀(j:Nat) (o:Oper) cs b,all[j]?=some o->o.op≠.select cs b:=λj o cs b hj=>Region.noSelect_spec hs j o cs b (oz hj);have h8:=λk ok hk=>Region.free_spec (ops:=all.toArray) (md:=.any) (i:=j) (oi:=o) (listed:=ls) (oz H) hf k ok (oz hk);exact Xj (v:=v) (D:=λw=>U4 o=true->C w) H (λ_ h=>h) h7 _ ls f w (λ_=>G) h8 hu (.inl ⟨hw,hv⟩) (QdY O hs hg hd l C _ own _ w S ha (oz he) hn hq (by have:=JK (v:=v) T.1 hk1;rw[Zm H]at this;exact this) hx G hc hl)
 | (j,false)::l,C,ls,own,f,w,S,ha,he,hfr,T,hk1,h,G,hc,E=>by
  simp only[V5,oK,Om,Bool.or_eq_true,beq_iff_eq,Og]at E;obtain⟨⟨⟨hy,Y⟩,h9⟩,hl⟩:=E;have e:(oP ((j,false)::l))+1+rest.length=(l.length+1+rest.length)+1:=by simp;omega
  rw[e];have hn:ZS all d l=true:=by simp only[ZS,oS,oK]at hfr;exact hfr.2
  simp only[Z2,oS,oK]at T;have hq:Z2 all Dc l=true:=T.2;refine XK (λh0=>(by rw[h0]at hy;cases hy)) ?_;intro k hk o H;have hh:=Zm H;have hz:(ls.setIfInBounds k true).size=all.length:=by simpa using he
  by_cases hi:k=i
  ·subst hi;have hx:=O.spec f w hk1 (S _ G);rw[hh]at hg hd hx;rw[JM hg,cond_true];refine hx.mono λv w' hx=>?_;rw[hd]at hx ⊢;obtain⟨V,I,h4⟩:=hx;simp only[QW,YO]at I h4;have J:=ha _ _ G V;refine⟨.inr (.inr J),?_⟩;have hx:=Qd0 O hs ((j,false)::l) C own (ls.setIfInBounds k true) f w' S ha hz hfr (q8.I O.mono h V) J I (λb hb=>⟨λhm=>Nq _ (LW (hc b hm) (h4 b hb).1),(h4 b hb).2⟩) h9;rw[show((j,false)::l++rest).length=l.length+1+rest.length by simp;omega]at hx;exact hx
  have hA:k=j:=(Y k hk).resolve_right hi;subst hA;have V:=h.1;have J:=h.2 w (O5.Z _ _) G;rw[hh]at V J;rw[V,cond_true];refine J.mono λv w' hx=>?_;obtain⟨C',ht,hB,h5,own',hD,hE,hx⟩:=hx;refine⟨.inr (.inr (ht _ h5)),XA.sub ht _ _ _ _ (QdY O hs hg hd l C' _ own' _ w' (λx hx=>S x (ht x hx)) hB hz hn hq (by have:=JK (v:=v) T.1 hk1;rw[hh]at this;exact this) hx h5 (λb hb=>?_) hl)⟩;rcases hE b hb with I|I
  ·exact LW (hc b I) hD.size
  exact I.2
theorem q8.keeps {D:xw}{f0:Fr}:∀(l:xu) (C:xA) (own:LN) (f:Fr) (w:O1),Z2 all D l=true->(∀t,Xi D t=false->f t=f0 t)->q8 P all KF l C own f w->q8 P all (λo G w'=>(∀t,Xi D t=false->G t=f0 t)/\KF o G w') l C own f w
 | [],C,own,f,w,_,E,h=>⟨E,h⟩
 | (j,true)::l,C,own,f,w,hd,E,h=>by
  simp only[Z2,oS,oK]at hd;obtain⟨H,v,I,hx⟩:=h;exact⟨H,v,I,q8.keeps l C own _ _ hd.2 (JK hd.1 E) hx⟩
 | (j,false)::l,C,own,f,w,hd,E,h=>by
  simp only[Z2,oS,oK]at hd;refine⟨h.1,λJ O S=>XO.mono (λv w' hx=>?_) (h.2 J O S)⟩;obtain⟨C',T,V,Y,own',ha,hb,hx⟩:=hx;exact⟨C',T,V,Y,own',ha,hb,q8.keeps l C' own' _ _ hd.2 (JK hd.1 E) hx⟩
theorem f3q {l:xu}{own:LN}{v:O2}(E:∀w',C w'->(execOp (ev f) (QV all j)).run P w'=.ok (.value v) w')(h:q8 P all KF l C own (QW f (QV all j).dst v) w)
  (hd:U4 (QV all j)=true:=by rfl) (G:Yb all f (QV all j)=true:=by rfl):q8 P all KF ((j,true)::l) C own f w:=⟨G,v,λw' H=>E w' (H hd),h⟩
theorem f3p {l:xu}{own:LN}{v:O2}(E:∀w',(execOp (ev f) (QV all j)).run P w'=.ok (.value v) w')(h:q8 P all KF l C own (QW f (QV all j).dst v) w)
  (G:Yb all f (QV all j)=true:=by rfl):q8 P all KF ((j,true)::l) C own f w:=⟨G,v,λw' _=>E w',h⟩
theorem f3k {l:xu}{own:LN}(h:∀w1,O5 [] w w1->C w1->XO P (QV all j) f w1 λE w'=>∃C':xA,(∀x,C' x->C x)/\(∀x x',C' x->O5 [] x x'->C' x')/\C' w'/\∃own',O5 own w1 w'/\(∀b∈own',b∈own\/(w1.heap.size<=b/\b<w'.heap.size))/\q8 P all KF l C' own' E w')
  (G:Yb all f (QV all j)=true:=by rfl):q8 P all KF ((j,false)::l) C own f w:=⟨G,h⟩
theorem f3e {own:LN}(h:KF own f w):q8 P all KF [] C own f w:=h
theorem QgT {Q:Exit->Fr->O1->Prop}(C:xA)(pre l:xu)(i d:Nat)(rest:xu)(own:LN)(D Dc:xw)(S:α->List (Nat×O2))(I:α->LN->O1->Prop)(Φ:O2->O1->Prop)(hm:P.follows .mixedOrders=true)(hn:XS n all=true)
  (T:QdE all pre l i rest=true) (J:(Z2 all D pre && Z2 all D l && Z2 all Dc l)=true) (hd:(QV all i).dst=some d) (V:C { w with drawn:=w.drawn+1 }) (ha:∀x x',C x->O5 [] x x'->C x') (hc:∀b∈own,b<w.heap.size)
  (stab:∀v (own:LN) w w',Φ v w->O5 own w w'->(∀b∈ow v,b∉own)->Φ v w') (mono:∀z own w w',I z own w->O5 [] w w'->I z own w')
  (fin:∀z g own w v (C':xA),I z own w->C' w->(∀x,C' x->C x)->Φ v w->(∀b∈ow v,b∉own/\b<w.heap.size)->XP P all C' (λf w=>Q .normal f w) rest (QW (qR (S z) (mix D f g)) (some d) v) w)
  (h:XP P all C (λf1 _=>(∀g w,C w->XO P (QV all i) (mix Dc f1 g) w λE w'=>O5 [] w w'/\Φ (E d) w'/\∀b∈ow (E d),w.heap.size<=b/\b<w'.heap.size)/\q8 P all (λo E w'=>∃z,Xy E (S z)/\I z o w') l C own f1 { w with drawn:=w.drawn+1 }) pre f { w with drawn:=w.drawn+1 }):W P n (.region id all.toArray true) Q f w:=by
 rw[Lx,Lx]at J;simp only[QdE,oK,beq_iff_eq,Option.isNone_iff_eq_none]at T;obtain⟨⟨⟨⟨⟨G,hl⟩,hq⟩,he⟩,hg⟩,hfr⟩:=T;rw[hd]at hfr;refine JQ C hm hn ?_;have Y:=YI (K:=λf w=>Q .normal f w) (m:=l.length+1+rest.length) G pre (oU all.length false) f _ V hq
  (B:=λf1 _=>Fl3 P all C (λf w=>Q .normal f w) (λo E w'=>(∀t,Xi D t=false->E t=f t)/\∃z,Xy E (S z)/\I z o w') i d rest Φ Dc f1/\q8 P all (λo E w'=>(∀t,Xi D t=false->E t=f t)/\∃z,Xy E (S z)/\I z o w') l C own f1 { w with drawn:=w.drawn+1 })
  (λf1 hB=>QdY hB.1 G hg hd l C (Z8 pre (oU all.length false)) own f1 _ (λ_ h=>h) ha (by rw[YM];simp) hfr J.2 (λ_ _=>rfl) hB.2 V hc he)
  (XP.keeps_mono _ _ _ (XP.keeps pre f _ J.1.1 (λ_ _=>U) h) (λf1 w1 hx=>⟨⟨stab,?_,?_,?_⟩,q8.keeps l C own _ _ J.1.2 hx.1 hx.2.2⟩))
 ·rw[hl]at Y;exact Y
 ·intro E w' H O;have:=hx.2.1 E w' O;rw[Jg H]at this;exact this
 ·rintro o E w' ⟨H,z,G,hi⟩ v C' O hf hv hb;have:=fin z E o w' v C' hi O hf hv hb;rw[Jg H,Y8 G]at this;exact this
 rintro o E w' hj ⟨H,z,G,hi⟩ hh;exact⟨H,z,G,mono z o _ _ hi hh⟩
end
attribute [irreducible] q8
theorem Js (w:O1):Q6 prog 25 [] w λr w'=>O5 [] w w'/\Qed w.heap.size w'.heap r QaX:=by
 refine Zq func25 ?_;refine Qc<|Qe<|Qo (us:=Z6) U λG w1 h0 hR ho=>xe ?_;refine Qc<|QM<|(J8 3 og w1).mono ?_;rintro r2 w2 ⟨he,c1,rfl,h1,hf⟩;refine Qe<|Qo (us:=Z6) U λb1 w3 h3 hp h4=>Qe<|Qj (us:=c1.cells) h4 U U U U (hf [] oe).ones λY h5 hr=>xe ?_;have hg:O5 [] w2 Y:=h3.O h5 hp;have hS:=he.size;have h6:=ho.lt;have h7:=hr.lt;refine Qc<|Qe<|QC (us:=[[oF oG 1],[oF oG 2]]) U U og oe ⟨rfl,rfl,rfl,rfl,Z⟩ λO w5 hs hT h8=>Qe<|QC (us:=[[oF oG 0],[oF oG 1]]) rfl rfl og oe ⟨rfl,rfl,rfl,rfl,Z⟩ λS w6 hh hU hA =>
  x (Qz ⟨rfl,U,U,Z⟩)<|x (Qz ⟨U,U,U,Z⟩)<|Qe<|QC (us:=[QF (0,1,1),QF (1,2,0)]) U U og (by exact(by decide:2*3<=1000000)) oC λT w7 ha hV hB=>?_
 have hC:=(hs.D hh).D ha;refine x (Qz ⟨U,U,U,U,Z⟩)<|x (Zf [(0,[.string Y1]),(1,[.slice (some ⟨O,0,none⟩) 2 2,oF oG 2,.slice (some ⟨S,0,none⟩) 2 2,.slice (some ⟨T,0,none⟩) 2 2])] ⟨U,U,U,U,Z⟩) <|
  Qe<|QC (us:=[[.string Y1,.slice (some ⟨O,0,none⟩) 2 2,oF oG 2,.slice (some ⟨S,0,none⟩) 2 2,.slice (some ⟨T,0,none⟩) 2 2]]) U U og (by exact(by decide:1*5<=1000000)) oA λI w8 V hW hD=>?_
 have ht:=hC.D V;refine Q2 rfl<|Qe<|QB (j:=2) (u:=.slice (some ⟨I,0,none⟩) 1 1) (hr.I ht) U U oe rfl λw9 hi hE=>xe ?_;refine Qc<|x (Qz ⟨U,U,Z⟩)<|x (Qz ⟨U,U,Z⟩)<|Qe<|QC (us:=[QI (1,1),QI (2,1)]) U U og (by exact(by decide:2*2<=1000000)) oC λhc hY hu hZ hF=>x (Qz ⟨U,U,Z⟩) <|
  Qe<|QC (us:=[[.string Y2,.slice (some ⟨hc,0,none⟩) 2 2]]) U U og (by exact(by decide:1*2<=1000000)) oA λJ hG hv ga hH=>?_
 have hj:=hu.D hv;refine Q2 rfl<|Qe<|QB (j:=3) (u:=.slice (some ⟨J,0,none⟩) 1 1) (hE.I hj) U U oe rfl λhw hk hJ=>xe ?_;have gb:=hs.size;have gc:=hh.size;have gg:=ha.size;have gh:=V.size;have gi:=hi.size;have gj:=hu.size;have hl:O5 [b1] Y hw:=((ht.any.Q hi).D hj.any).Q hk;have hK:G∉[b1]:=om
 have hM:=((ho.I he).I hg).J hl hK;have hN:Zr [c1.ve,c1.vc,.slice (some ⟨I,0,none⟩) 1 1,.slice (some ⟨J,0,none⟩) 1 1,c1.vk]:=by
  have h9:=(hf [] oe).ones;exact⟨h9.1,h9.2.1,U,U,h9.2.2.2.2.1,Z⟩
 refine Qc<|Q5 hJ U U<|Qe<|Qj (us:=[c1.ve,c1.vc,.slice (some ⟨I,0,none⟩) 1 1,.slice (some ⟨J,0,none⟩) 1 1,c1.vk]) hM U U U U hN λgk hy hO=>xe ?_;have H:=CL.cel_ex (CL.cel_rq h1 (.slice (some ⟨I,0,none⟩) 1 1) [⟨Y1,⟨.slice (some ⟨O,0,none⟩) 2 2,.slice (some ⟨S,0,none⟩) 2 2,.slice (some ⟨T,0,none⟩) 2 2,Uz.a⟩⟩]) (.slice (some ⟨J,0,none⟩) 1 1) [⟨Y2,.slice (some ⟨hc,0,none⟩) 2 2,[(1,1),(2,1)]⟩];refine Qk ⟨[.agg #[c1.ve,c1.vc,.slice (some ⟨I,0,none⟩) 1 1,.slice (some ⟨J,0,none⟩) 1 1,c1.vk]],⟨⟨_,U,Qn U (hO.at (L:=[]) oe).cells⟩,Z⟩,(((h0.D he).D hg).O hl oa).O hy oa,_,rfl,H,λL hL=>?_⟩;have hz:∀b∈G::L,b<w1.heap.size:=λb E=>by
  rcases Li.1 E with rfl|E
  ·exact h6
  have:=hL b E;omega
 have hP:∀b∈b1::G::L,b<Y.heap.size:=λb E=>by
  rcases Li.1 E with rfl|E
  ·exact h7
  have:=hz b E;omega
 have h2:=(hf (G::L) hz).up (L':=b1::G::L) (λb E=>by
  rcases Li.1 E with rfl|E
  ·exact .inr hp
  exact .inl E)
 have hn:=(h2.I hg).st (hl.mono oe);have nB:∀b,Y.heap.size<=b->b∉b1::G::L:=λb E hm=>ou (hP b hm)
 have hI:XM (b1::G::L) w8.heap (.slice (some ⟨I,0,none⟩) 1 1) [⟨Y1,⟨.slice (some ⟨O,0,none⟩) 2 2,.slice (some ⟨S,0,none⟩) 2 2,.slice (some ⟨T,0,none⟩) 2 2,Uz.a⟩⟩]:=by
  refine⟨hD.arr (nB _ oa) (n:=1) (cap:=1) (sz:=5) U og (Lu _),λq H=>?_,λq H=>?_⟩
  ·rw[Lb.1 H];exact⟨(((h8.I hh).I ha).I V).arr (nB _ oa) (n:=2) (cap:=2) (sz:=1) U og (Lu _),((hA.I ha).I V).arr (nB _ oa) (n:=2) (cap:=2) (sz:=1) U og (Lu _),(hB.I V).arr (nB _ oa) (n:=2) (cap:=2) (sz:=3) U og (Lu _)⟩
  rw[Lb.1 H];exact Xu og
 have hX:yY (b1::G::L) hG.heap (.slice (some ⟨J,0,none⟩) 1 1) [⟨Y2,.slice (some ⟨hc,0,none⟩) 2 2,[(1,1),(2,1)]⟩]:=by
  refine⟨hH.arr (nB _ oa) (n:=1) (cap:=1) (sz:=2) U og (Lu _),λq H=>?_,λq H=>?_⟩
  ·rw[Lb.1 H];exact(hF.I hv).arr (nB _ oa) (n:=2) (cap:=2) (sz:=2) U og (Lu _)
  rw[Lb.1 H];exact Xu og
 have hQ:ZK (b1::G::L) hw.heap (CL.mk c1.ve c1.vc (.slice (some ⟨I,0,none⟩) 1 1) (.slice (some ⟨J,0,none⟩) 1 1) c1.vk c1.ev c1.co [⟨Y1,⟨.slice (some ⟨O,0,none⟩) 2 2,.slice (some ⟨S,0,none⟩) 2 2,.slice (some ⟨T,0,none⟩) 2 2,Uz.a⟩⟩] [⟨Y2,.slice (some ⟨hc,0,none⟩) 2 2,[(1,1),(2,1)]⟩] c1.cs):=
  ⟨hn.ev,hn.co,((hI.st (hi.mono oe)).I hj).st (hk.mono oe),hX.st (hk.mono oe),hn.cs⟩
 exact(hQ.st (hy.mono oe)).up (λb E=>.inl (Lj _ (Lj _ E)))
abbrev Qq6:Xt:=⟨.empty,Vn⟩
def Jo (k:Nat):ByteArray:=(QaX.co.getD k Qq6).nm
def Uy:List (Bool×Yc):=[(false,⟨3,Y2,Vn,[(Jo 1,0),(Jo 2,1)],[],0⟩)]
def QiH:List (Bool×Yc):=[(true,⟨1,Jo 1,Vn,[],[],0⟩)]
def Kn:Sys:=Qf5 QaX
def QeQ:Sys:=edS Kn Uy
theorem QlI:yf QaX=0:=od
theorem Qod:yW Kn Uy=0:=od
theorem Qn9:(XQ (qq Kn.c Uy).2 Kn.ps 1).kept=[(1,Y1)]:=od
theorem Qn8:(XQ (qq Kn.c Uy).2 Kn.ps 1).made=[(2,Y2)]:=od
theorem Qoa:(XQ (qq Kn.c Uy).2 Kn.ps 1).gone=[]:=od
theorem Qoc:yW QeQ QiH=9:=od
theorem QiG:QeQ.made=3:=od
end Go.Lg
