/- Merged out of 39 texts. -/
import Derived.Test.YteekilnpgonojaaGreatDoorNdd
import Derived.Scope
import Derived.Lib.Overlaps
set_option maxHeartbeats 40000000
set_option maxRecDepth 100000
set_option linter.all false
open Go Go.Lg
open Go.Value renaming int->oF
open Go.IntKind renaming i64->oG
open _root_.List renaming mem_singleton->oI,not_mem_nil->oJ,mem_cons->oL,length_append->oM,length_singleton->oO,length->oP,getD->oQ,all_cons->oS,range->oT,mem_append->oU,append_assoc->oV,length_cons->oW,map_cons->oY,length_drop->o6,length_take->Oa,cons_append->Ob,length_map->Oc,size_toArray->Od,map_append->Oi,all_eq_true->Om,length_set->Ou,length_nil->OG,map_nil->OL
open _root_.Bool renaming and_eq_true->oK,not_eq_true'->Og,false_eq_true->OE,true_and->OO
open _root_.Array renaming replicate->oX,getElem?_eq_getElem->Oj,getElem?_mapIdx->Ow
open _root_.Nat renaming zero_add->oZ,add_mul->Oq,lt_or_ge->OH,sub_zero->OI,le_succ->OP,zero_mul->OQ,zero_le->OR
open _root_.Int renaming toNat_natCast->On
open _root_.Option renaming map_some->Oy,isSome_none->OD
open Go renaming World->O1,Value->O2,Operand->O3,Program->O4
open Go.Proofs Go.Proofs.Tryz
variable {w w':O1}{L L' X ds:LN}{n t i sz b j T E g N id o ty cap b1 B kt lo hi b2 et G M gp:Nat}{cs us news capt:LV}{a:Q0}{H:xC}{α β:Type}{y:O3}{c:Zt}{z va ve vm vt v' vs vl vx vb vk:O2}{l u al rs:LI}{f f1:Fr}{P:O4}{aa:List Q0}{fn:Func}{q:DV}{s:Int}{es:List Ed}{d:xF}{af:xD}{gd:xt}{K:xz}{bf:List xK}{co:List YV}{qs:List IV}{at_:Array Nat}{ops:xE}{rest:xu}{ls:xx}{ks:List KV}{Φ:O2→O1→Prop}{Dc:xw}
namespace Go.Lg
structure qJ {α:Type}(g:α->LV)(sz T:Nat)(E:LN->Array Obj->α->Prop)(L:LN)(base:Nat)(w:O1)(v:O2)(l:List α):Prop where
 own:w.ownsRow base T sz v l.length (l.flatMap g)
 each:∀q∈l,E (ob v++L) w.heap q
section
variable {g:α->LV}{E:LN->Array Obj->α->Prop}{bs:Nat}{v:O2}{l:List α}
theorem qJ.nil:qJ g sz T E L bs w (nS) []:=⟨QI _ _ _ _,λq G=>by cases G⟩
theorem qJ.J [Mm E]{X:LN}(h:qJ g sz T E L bs w v l)(H:O5 X w w')(I:∀b∈X,(b∈L\/w.heap.size<=b)/\b∉ob v):qJ g sz T E L bs w' v l :=
 ⟨Qf h.own H (λb G J=>(I b J).2 G),λq O=>Mm.J (h.each q O) H λb G=>(I b G).1.imp (λh=>Lc.2 (.inr h)) id⟩
theorem qJ.I [Mm E](h:qJ g sz T E L bs w v l)(G:O5 [] w w'):qJ g sz T E L bs w' v l:=h.J G (λ_ H=>by cases H)
theorem qJ.app [Mm E]{H:O2}{I:O1}{q:α}(h:qJ g sz T E L bs w v l)(J:E (ob v++L) w.heap q)
  (O:I.ownsRow bs T sz H (l.length+1) (l.flatMap g++g q)) (S:O5 (ob v) w I) (V:∀b∈ob H,b∈ob v\/w.heap.size<=b):qJ g sz T E L bs I H (l++[q]):=by
 have mv:∀d:α,E (ob v++L) w.heap d->E (ob H++L) I.heap d:=λd hd=>by
  have Y:E (ob v++(ob H++L)) w.heap d:=Mm.up hd λb G=>by
   rcases Lc.1 G with G|G
   ·exact .inl (Lc.2 (.inl G))
   rcases Lc.1 G with G|G
   ·exact(V b G).imp (λh3=>Lc.2 (.inl h3)) id
   exact .inl (Lc.2 (.inr G))
  exact Mm.mono (Mm.st Y (S.mono λb G=>Lc.2 (.inl G))) λb G=>Lc.2 (.inr G)
 refine⟨?_,λd hd=>?_⟩
 ·rw[Lk,LA];simpa using O
 rcases Lc.1 hd with hd|hd
 ·exact mv d (h.each d hd)
 simp only[oI]at hd;subst hd;exact mv d J
end
structure EnV where
 ky:Ky
 vr:Int
 p:AV
 vk:O2
 kp:LI
 vd:O2
 ds:LI
 vm:O2
 rm:List Q4
abbrev VC (q:EnV):LV:=[oF oG q.ky.1,.string q.ky.2,oF oG q.vr,q.p.va,oF oG q.p.a.st,q.p.vm,q.p.ve,q.vk,q.vd,q.vm]
structure EnA (L:LN)(H:xC)(q:EnV):Prop where
 a:ZG L H q.p.va q.p.vm q.p.ve q.p.a
 k:QR L H q.vk q.kp
 d:QR L H q.vd q.ds
 r:Zp L H q.vm q.rm.length 4 (q.rm.flatMap q4C)
theorem EnA.st {L:LN}{w w':O1}{q:EnV}(h:EnA L w.heap q)(G:O5 L w w'):EnA L w'.heap q:=⟨h.a.st G,h.k.st G,h.d.st G,h.r.st G⟩
theorem EnA.I {q:EnV}(h:EnA L w.heap q)(G:O5 [] w w'):EnA L w'.heap q:=h.st G.any
theorem EnA.up {L L':LN}{H:xC}{q:EnV}(h:EnA L H q)(G:∀b∈L',b∈L\/H.size<=b):EnA L' H q:=⟨h.a.up G,h.k.up G,h.d.up G,h.r.up G⟩
structure Ent where
 ky:Ky
 vr:Int
 sp:Q0
 kp:LI
 ds:LI
 rm:List Q4
def EnV.en (q:EnV):Ent:=⟨q.ky,q.vr,q.p.a,q.kp,q.ds,q.rm⟩
structure zj where
 e:EnV
 c:CL
abbrev ZR (q:zj):LV:=[oF oG q.e.ky.1,.string q.e.ky.2,oF oG q.e.vr,q.e.p.va,oF oG q.e.p.a.st,q.e.p.vm,q.e.p.ve,q.e.vk,q.e.vd,q.e.vm,q.c.ve,q.c.vc,q.c.vr,q.c.vx,q.c.vk]
theorem Qio (q:zj):(ZR q).length=15:=rfl
def zj.pt (q:zj):xK:=⟨q.e.ky,q.e.vr,q.e.p.a,q.e.kp,q.e.ds,q.e.rm,q.c.V⟩
structure qV (L:LN)(H:xC)(q:zj):Prop where
 e:EnA L H q.e
 c:ZH L H q.c
theorem qV.st {L:LN}{w w':O1}{q:zj}(h:qV L w.heap q)(G:O5 L w w'):qV L w'.heap q:=⟨h.e.st G,h.c.st G⟩
theorem qV.I {q:zj}(h:qV L w.heap q)(G:O5 [] w w'):qV L w'.heap q:=h.st G.any
theorem qV.up {L L':LN}{H:xC}{q:zj}(h:qV L H q)(G:∀b∈L',b∈L\/H.size<=b):qV L' H q:=⟨h.e.up G,h.c.up G⟩
instance:Mm qV:=⟨qV.st,qV.up⟩
theorem qV.ones {q:zj}(h:qV L H q):Zm (ZR q):=⟨U,U,U,h.e.a.al.one,U,h.e.a.mr.one,h.e.a.ed.one,h.e.k.one,h.e.d.one,h.e.r.one,h.c.ev.arr.one,h.c.co.arr.one,h.c.rq.arr.one,h.c.ex.arr.one,h.c.cs.arr.one,Z⟩
structure jr where
 v1:O2
 k1:List Ky
 v2:O2
 k2:List Ky
 v3:O2
 k3:List Ky
def jr.rp (q:jr):Rp:=⟨q.k1,q.k2,q.k3⟩
abbrev ZJ (q:jr):LV:=[q.v1,q.v2,q.v3]
theorem Qob (q:jr):(ZJ q).length=3:=rfl
abbrev Kys (L:LN)(H:xC)(v:O2)(l:List Ky):Prop:=Zp L H v l.length 2 (l.flatMap KI)
structure VJ (L:LN)(H:xC)(q:jr):Prop where
 a1:Kys L H q.v1 q.k1
 a2:Kys L H q.v2 q.k2
 a3:Kys L H q.v3 q.k3
theorem VJ.st {L:LN}{w w':O1}{q:jr}(h:VJ L w.heap q)(G:O5 L w w'):VJ L w'.heap q:=⟨h.a1.st G,h.a2.st G,h.a3.st G⟩
theorem VJ.I {q:jr}(h:VJ L w.heap q)(G:O5 [] w w'):VJ L w'.heap q:=h.st G.any
theorem VJ.up {L L':LN}{H:xC}{q:jr}(h:VJ L H q)(G:∀b∈L',b∈L\/H.size<=b):VJ L' H q:=⟨h.a1.up G,h.a2.up G,h.a3.up G⟩
instance:Mm VJ:=⟨VJ.st,VJ.up⟩
theorem VJ.ones {q:jr}(h:VJ L H q):Zm (ZJ q):=⟨h.a1.one,h.a2.one,h.a3.one,Z⟩
theorem QaU (l:List Ky):∀u∈l.flatMap KI,u.oneCell'=true:=by
 intro u H;obtain⟨p,_,G⟩:=Mf.1 H;simp only[KI,oL,oJ,or_false]at G;rcases G with rfl|rfl <;> rfl
structure IvA (L:LN)(H:xC)(q:IV):Prop where
 a:ZG L H q.p.va q.p.vm q.p.ve q.p.a
 nm:Kl q.nm
theorem IvA.st {L:LN}{w w':O1}{q:IV}(h:IvA L w.heap q)(E:O5 L w w'):IvA L w'.heap q:=⟨h.a.st E,h.nm⟩
theorem IvA.up {L L':LN}{H:xC}{q:IV}(h:IvA L H q)(E:∀b∈L',b∈L\/H.size<=b):IvA L' H q:=⟨h.a.up E,h.nm⟩
instance:Mm IvA:=⟨IvA.st,IvA.up⟩
theorem IvA.ones {q:IV}(h:IvA L H q):Zm (QM q):=⟨U,h.a.al.one,U,h.a.mr.one,h.a.ed.one,Z⟩
structure XvA (L:LN)(H:xC)(q:XV):Prop where
 l:js L H q.v q.ls
 nm:Kl q.nm
theorem XvA.st {L:LN}{w w':O1}{q:XV}(h:XvA L w.heap q)(E:O5 L w w'):XvA L w'.heap q:=⟨h.l.st E,h.nm⟩
theorem XvA.up {L L':LN}{H:xC}{q:XV}(h:XvA L H q)(E:∀b∈L',b∈L\/H.size<=b):XvA L' H q:=⟨h.l.up E,h.nm⟩
instance:Mm XvA:=⟨XvA.st,XvA.up⟩
structure KvA (L:LN)(H:xC)(q:KV):Prop where
 l:js L H q.v q.ts
 nm:Kl q.nm
theorem KvA.st {L:LN}{w w':O1}{q:KV}(h:KvA L w.heap q)(E:O5 L w w'):KvA L w'.heap q:=⟨h.l.st E,h.nm⟩
theorem KvA.up {L L':LN}{H:xC}{q:KV}(h:KvA L H q)(E:∀b∈L',b∈L\/H.size<=b):KvA L' H q:=⟨h.l.up E,h.nm⟩
instance:Mm KvA:=⟨KvA.st,KvA.up⟩
abbrev IvR (base:Nat)(w:O1)(v:O2)(l:List IV):Prop:=YA QM 5 71 IvA base w v l
theorem IvR.itms {base:Nat}{v:O2}{l:List IV}(h:IvR base w v l)(G:l.length<=1099511627776)(H:∀b∈L,b<base):XW L w.heap v l :=
 let z:=YA.lst h G H;⟨z.arr,λq E=>(z.each q E).a,λq E=>(z.each q E).nm⟩
theorem QlJ (l:List Q4):∀u∈l.flatMap q4C,u.oneCell'=true:=by
 intro u G;obtain⟨p,_,E⟩:=Mf.1 G;simp only[q4C,oL,oJ,or_false]at E;rcases E with rfl|rfl|rfl|rfl <;> rfl
theorem QdU (h0:ZG L w.heap va vm ve a):
  Q6 prog 89 [.agg #[va,oF oG a.st,vm,ve]] w λr w'=>O5 [] w w'/\Jw w.heap.size w'.heap r a:=by
 have h:=h0.up (L':=[]) oe;have hr:=h.al.le;have hs:=h.mr.le;have ht:=h.ed.le;refine Zo func89 ?_;refine Qc<|Qe<|QV (us:=[va,oF oG a.st,vm,ve]) U λb1 w1 hu hz hj=>Qe<|Qo (us:=KW) U λb2 G hk h1 hn=>xe ?_;have ho:=hu.D hk;have V:=h.I ho;have I:=hj.I hk;have h3:=hj.lt;have hv:=hn.lt;have hd:O5 [] G { G with drawn:=G.drawn+1 }:=O5.C _ _
 refine Qd<|ZF [] [oD 0,oD 1,oD 3,oD 4,oD 5,oD 6,oD 8,oD 9,oE 2,oE 7,oE 10,oD 11,oE 12]<|p (QQ U)<|pq (λ_ H=>Qq (I.I H) U U)<|p (QQ U)<|pq (λ_ H=>Qq (I.I H) U U) <|
  p (QQ rfl)<|pq (λ_ H=>Qq (I.I H) U U)<|p (QQ U)<|pq (λ_ H=>Qq (I.I H) U U) <|
  pk<|xg<|(Z2 (V.al.I hd)).mono ?_
 rintro ra w5 ⟨hw,Y⟩;have J:O5 [] G w5:=hd.D hw;refine⟨J,?_⟩;refine pk<|xg<|(Z2 (V.mr.I J)).mono ?_;rintro rm w6 ⟨hp,hf⟩;have O:=J.D hp;refine⟨O,?_⟩;refine pk<|xg<|(KM (V.ed.I O)).mono ?_;rintro re S ⟨hg,T⟩;have hh:=O.D hg;refine⟨hh,?_⟩;refine p (λ_=>Qx ⟨xM Y,U,xM hf,xM T,Z⟩)<|pkl (hl:=by kernel_rfl)<|Qj (us:=[ra,oF oG a.st,rm,re]) (hn.I hh) U U U U ⟨Qt Y,U,Qt hf,Qt T,Z⟩ λw8 hq hy=>pe ?_;refine Qk ⟨[.agg #[ra,oF oG a.st,rm,re]],⟨⟨_,U,Qp U (hy.at (L:=[]) oe).cells⟩,Z⟩,(ho.D hh).O hq oa,ra,rm,re,rfl,λL hL=>?_⟩;have e1:({ G with drawn:=G.drawn+1 }:O1).heap.size=G.heap.size:=rfl
 have h4:=J.size;have h5:=O.size;have hi:∀b∈b2::L,b<G.heap.size:=λb E=>by
  rcases Li.1 E with rfl|E
  ·exact hv
  have:=hL b E;omega
 have ha:QR (b2::L) S.heap ra a.al:=((Qu.ints Y hr (λb E=>ou (hi b E))).I hp).I hg;have hm:QR (b2::L) S.heap rm a.mr:=(Qu.ints hf hs (λb E=>ou (hi b E))).I hg;have he:zm (b2::L) S.heap re a.ed:=QK T ht (λb E hbL=>ov (Qi T b E).1 (hi b hbL));have hA:ZG (b2::L) S.heap ra rm re a:=⟨ha,hm,he⟩;exact(hA.st (hq.mono oe)).up (λb E=>.inl (Lj _ E))
abbrev z10:LV:=[oF oG 0,.string .empty,oF oG 0,nS,oF oG 0,nS,nS,nS,nS,nS]
theorem QrI {q:EnV}(h0:EnA L w.heap q):
  Q6 prog 53 [.agg (VC q).toArray] w λr w'=>O5 [] w w'/\∃q':EnV,r=.agg (VC q').toArray/\q'.en=q.en/\∀L:LN,(∀b∈L,b<w.heap.size)->EnA L w'.heap q':=by
 have h:=h0.up (L':=[]) oe;have h7:=h.k.le;have h8:=h.d.le;have h9:=h.r.le;refine Zo func53 ?_;refine Qc<|Qe<|QV (us:=VC q) U λb1 w1 hA hs hi=>Qe<|Qo (us:=z10) U λb2 w2 hj hT ht=>xe ?_;have hB:=hA.D hj;have hU:=hi.lt;have hV:=ht.lt;refine Qc<|Zc U<|x (Zv (us:=[q.vk,q.vd,q.vm]) (hi.I hj) U U U)<|Qe<|Qo (us:=[nS,nS,nS]) U λb3 w3 hC hD hF=>Qe<|Qj (us:=[q.vk,q.vd,q.vm]) hF U U U U ⟨h.k.one,h.d.one,h.r.one,Z⟩ λw4 hG hH=>xe ?_;have T:O5 [] w2 w4:=hC.O hG hD;have hu:=hB.D T;have h4:=h.I hu;have hW:=T.size;have hv:=(hi.I hj).I T;have hI:=ht.I T;refine Qc<|Zc U<|x (Zv (us:=[q.p.va,oF oG q.p.a.st,q.p.vm,q.p.ve]) hv U U U)<|QN<|(QdU h4.a).mono ?_;rintro _ w5 ⟨hm,xa,xm,H,rfl,hw⟩;have hX:=hm.size;have I:=(hw [] oe);refine Zc rfl<|Qe<|YU (us:=[xa,oF oG q.p.a.st,xm,H]) (cs':=[oF oG q.ky.1,.string q.ky.2,oF oG q.vr,xa,oF oG q.p.a.st,xm,H,q.vk,q.vd,q.vm]) (hv.I hm) U U U oe ⟨I.al.one,rfl,I.mr.one,I.ed.one,Z⟩ rfl λG hn hJ=>xe ?_;have ho:O5 [b1] w4 G:=hm.any.Q hn;have hy:O5 [] w G:=hu.O ho hs;have h6:=h.I hy;have hY:=hn.size;have hK:b3∉[b1]:=om
 have hz:b2∉[b1]:=om
 have hp:=hH.J ho hK;have hM:=hI.J ho hz;have hd:O5 [] G { G with drawn:=G.drawn+1 }:=O5.C _ _
 refine Qd<|ZF [] [oD 0,oD 1,oD 3,oD 4,oD 6,oD 7,oE 2,oE 5,oE 8,oD 9,oD 10,oE 11]<|p (QQ U)<|pq (λ_ J=>Qq (hp.I J) U U)<|p (QQ U)<|pq (λ_ J=>Qq (hp.I J) U U) <|
  p (QQ rfl)<|pq (λ_ J=>Qq (hp.I J) U U)<|pk<|xg<|(Z2 (h6.k.I hd)).mono ?_
 rintro rk w7 ⟨hN,V⟩;have Y:O5 [] G w7:=hd.D hN;refine⟨Y,?_⟩;refine pk<|xg<|(Z2 (h6.d.I Y)).mono ?_;rintro rd w8 ⟨h1,he⟩;have hf:=Y.D h1;refine⟨hf,?_⟩;refine pk<|xg<|(Qj7 (h6.r.I hf) (QlJ q.rm)).mono ?_;rintro rr O ⟨hq,S⟩;have hg:=hf.D hq;refine⟨hg,?_⟩;refine p (λ_=>Qx ⟨xM V,xM he,xM S,Z⟩)<|p (QQ U)<|pkl (hl:=by kernel_rfl)<|YU (us:=[rk,rd,rr]) (cs':=[oF oG q.ky.1,.string q.ky.2,oF oG q.vr,xa,oF oG q.p.a.st,xm,H,rk,rd,rr]) (hJ.I hg) U U U oe ⟨Qt V,Qt he,Qt S,Z⟩ rfl λhO h2 hP=>pe ?_;have h3:O5 [b1] G hO:=hg.any.Q h2;have hQ:Zm (VC ⟨q.ky,q.vr,⟨xa,xm,H,q.p.a⟩,rk,q.kp,rd,q.ds,rr,q.rm⟩):=⟨U,U,U,I.al.one,U,I.mr.one,I.ed.one,Qt V,Qt he,Qt S,Z⟩;refine Qc<|Q9 hP U U<|Qe<|Qj (us:=VC ⟨q.ky,q.vr,⟨xa,xm,H,q.p.a⟩,rk,q.kp,rd,q.ds,rr,q.rm⟩) (hM.J h3 hz) U U U U hQ λhZ h5 hR=>xe ?_;refine Qk ⟨[.agg (VC ⟨q.ky,q.vr,⟨xa,xm,H,q.p.a⟩,rk,q.kp,rd,q.ds,rr,q.rm⟩).toArray],⟨⟨_,U,Qp U (hR.at (L:=[]) oe).cells⟩,Z⟩,(hy.O h3 hs).O h5 oa,_,rfl,rfl,λL hL=>?_⟩;have e6:({ G with drawn:=G.drawn+1 }:O1).heap.size=G.heap.size:=rfl
 have ga:=Y.size;have gb:=hf.size;have hh:∀b∈b1::b2::L,b<w4.heap.size:=λb E=>by
  simp only[oL]at E;rcases E with rfl|rfl|E
  ·omega
  ·omega
  have:=hL b E;omega
 have ha:ZG (b1::b2::L) O.heap xa xm H q.p.a:=((hw (b1::b2::L) hh).st (hn.mono oe)).I hg;have hk:QR (b1::b2::L) O.heap rk q.kp:=((Qu.ints V h7 (λb E=>ou (hh b E))).I h1).I hq;have hS:QR (b1::b2::L) O.heap rd q.ds:=(Qu.ints he h8 (λb E=>ou (hh b E))).I hq;have hr:Zp (b1::b2::L) O.heap rr q.rm.length 4 (q.rm.flatMap q4C):=QK S h9 (λb E hbL=>ov (Qi S b E).1 (hh b hbL));have hE:EnA (b1::b2::L) O.heap ⟨q.ky,q.vr,⟨xa,xm,H,q.p.a⟩,rk,q.kp,rd,q.ds,rr,q.rm⟩:=⟨ha,hk,hS,hr⟩;exact((hE.st (h2.mono oe)).st (h5.mono oe)).up (λb E=>.inl (by simp[E]))
theorem Qpk {q:jr}(h0:VJ L w.heap q):
  Q6 prog 49 [.agg (ZJ q).toArray] w λr w'=>O5 [] w w'/\∃q':jr,r=.agg (ZJ q').toArray/\q'.rp=q.rp/\∀L:LN,(∀b∈L,b<w.heap.size)->VJ L w'.heap q':=by
 have h:=h0.up (L':=[]) oe;have hr:=h.a1.le;have hs:=h.a2.le;have ht:=h.a3.le;refine Zo func49 ?_;refine Qc<|Qe<|QV (us:=ZJ q) U λb1 w1 hj hz hu=>Qe<|Qo (us:=[nS,nS,nS]) U λb2 G hk h1 hn=>xe ?_;have ho:=hj.D hk;have Y:=h.I ho;have hf:=hu.I hk;have h3:=hj.size;have hv:=hn.lt;have hd:O5 [] G { G with drawn:=G.drawn+1 }:=O5.C _ _
 refine Qd<|ZF [] [oD 0,oD 1,oD 3,oD 4,oD 6,oD 7,oE 2,oE 5,oE 8,oD 9,oE 10]<|p (QQ U)<|pq (λ_ H=>Qq (hf.I H) U U)<|p (QQ U)<|pq (λ_ H=>Qq (hf.I H) U U) <|
  p (QQ rfl)<|pq (λ_ H=>Qq (hf.I H) U U)<|pk<|xg<|(yS (Y.a1.I hd) (QaU q.k1)).mono ?_
 rintro ra w5 ⟨hw,I⟩;have J:O5 [] G w5:=hd.D hw;refine⟨J,?_⟩;refine pk<|xg<|(yS (Y.a2.I J) (QaU q.k2)).mono ?_;rintro rm w6 ⟨hp,O⟩;have S:=J.D hp;refine⟨S,?_⟩;refine pk<|xg<|(yS (Y.a3.I S) (QaU q.k3)).mono ?_;rintro re T ⟨hg,V⟩;have hh:=S.D hg;refine⟨hh,?_⟩;refine p (λ_=>Qx ⟨xM I,xM O,xM V,Z⟩)<|pkl (hl:=by kernel_rfl)<|Qj (us:=[ra,rm,re]) (hn.I hh) U U U U ⟨Qt I,Qt O,Qt V,Z⟩ λw8 hq hy=>pe ?_;refine Qk ⟨[.agg (ZJ ⟨ra,q.k1,rm,q.k2,re,q.k3⟩).toArray],⟨⟨_,U,Qp U (hy.at (L:=[]) oe).cells⟩,Z⟩,(ho.D hh).O hq oa,_,rfl,rfl,λL hL=>?_⟩;have e1:({ G with drawn:=G.drawn+1 }:O1).heap.size=G.heap.size:=rfl
 have h4:=J.size;have h5:=S.size;have hi:∀b∈b2::L,b<G.heap.size:=λb E=>by
  rcases Li.1 E with rfl|E
  ·exact hv
  have:=hL b E;omega
 have ha:Kys (b2::L) T.heap ra q.k1:=((QK I hr (λb E hbL=>ov (Qi I b E).1 (hi b hbL)):Kys (b2::L) w5.heap ra q.k1).I hp).I hg;have hm:Kys (b2::L) T.heap rm q.k2:=(QK O hs (λb E hbL=>ov (Qi O b E).1 (hi b hbL)):Kys (b2::L) w6.heap rm q.k2).I hg;have he:Kys (b2::L) T.heap re q.k3:=QK V ht (λb E hbL=>ov (Qi V b E).1 (hi b hbL));have hA:VJ (b2::L) T.heap ⟨ra,q.k1,rm,q.k2,re,q.k3⟩:=⟨ha,hm,he⟩;exact(hA.st (hq.mono oe)).up (λb E=>.inl (Lj _ E))
theorem Qi0 {c:CL}{q:MV}(h0:ZH L w.heap c)(hq:0<=q.ix)(hk:q.kd=1\/q.kd=2\/q.kd=3)(hr:q.kd=1->q.ix<(c.rq.length:Int))(hx:q.kd=2->q.ix<(c.ex.length:Int))(hs:q.kd=3->q.ix<(c.cs.length:Int)):
  Q6 prog 93 [c.val,.agg #[oF oG q.kd,oF oG q.ix,q.v]] w λr w'=>r=.agg #[oF oG (ZN c.V q.m).1,.string (ZN c.V q.m).2]/\O5 [] w w':=by
 have h:=h0.up (L':=[]) oe;have hb:((q.ix.toNat:Nat):Int)=q.ix:=Int.toNat_of_nonneg hq;refine Zo func93 ?_;refine Qc<|Qe<|QV (us:=c.cells) U λb2 w1 hl h4 ht=>Qe<|QV (us:=[oF oG q.kd,oF oG q.ix,q.v]) U λb3 w2 hc h6 hm=>Qe<|Qo (us:=[oF oG 0,.string .empty]) U λb4 w3 T h7 hn=>xe ?_;have hu:=(hl.D hc).D T;refine Qc<|Qs U (hm.I T) U U<|x (Qx ⟨U,Z⟩)<|Qe<|Qo (us:=[oF oG 0,.string .empty]) U λb5 w4 hv hw hy=>Qe<|Qj (us:=[oF oG q.kd,.string .empty]) hy U U U U oA λw5 hz he=>xe ?_;have V:O5 [] w3 w5:=hv.O hz hw;have ho:=hu.D V;have hf:=((ht.I hc).I T).I V;have Y:=(hm.I T).I V;have hg:=hn.I V;have h8:=hn.lt;have hh:b4∉[b5]:=om
 have h9:=hl.size;have hA:=hc.size;have h5:=h.I ho;have fin:∀(nm:ByteArray) (I w8:O1),(ZN c.V q.m)=(q.kd,nm)->O5 [b5] w5 I->Q7 I.heap b5 75 [oF oG q.kd,.string nm]->O5 [b4] I w8->(Value.agg #[oF oG q.kd,.string nm]=.agg #[oF oG (ZN c.V q.m).1,.string (ZN c.V q.m).2]/\O5 [] w w8):=λnm I w8 e h1 _ h2 =>
  ⟨by rw[e],(ho.O h1 oa).O h2 oa⟩
 refine Qd<|Qc<|Qs U Y U U<|xe<|Qg<|Qc<|x (Q2 U U)<|Qb<|QZ U (λhi=>?_) (λhi=>?_)
 ·have hk1:q.kd=1:=hi;have E:q.ix.toNat<c.rq.length:=by have:=hr hk1;omega
  refine Qv<|Qs U hf U U<|Qs U Y U U<|O8 (g:=QM) (i:=q.ix.toNat) Yn h5.rq.arr U (show Go.Lg.ev _ _=_ from OV (Value.int .i64) hb.symm) E λhp J =>
   x (Zs rfl)<|x (QD (J.fld 0 (.string (c.rq[q.ix.toNat]'E).nm) U) U)<|Zc U<|Qe<|QB (j:=1) (u:=.string (c.rq[q.ix.toNat]'E).nm) he U U oe rfl λw6 G H=>xe ?_
  refine Qc<|Q9 H U U<|Qe<|Qj (us:=[oF oG q.kd,.string (c.rq[q.ix.toNat]'E).nm]) (hg.J G hh) U U U U oA λI O S=>xe ?_;refine Qk ⟨[.agg #[oF oG q.kd,.string (c.rq[q.ix.toNat]'E).nm]],⟨⟨_,U,Qp U (S.at (L:=[]) oe).cells⟩,Z⟩,fin _ _ _ ?_ G H O⟩;unfold ZN;rw[OU (show q.m.kd=1 from hk1)];refine Prod.ext U ?_;show((c.rq.map IV.it).getD q.ix.toNat ⟨.empty,V9⟩).nm=_;simp[oQ,E,IV.it]
 have hk1:¬q.kd=1:=hi;refine Qc<|x (Q2 U U)<|Qb<|QZ U (λhj=>?_) (λhj=>?_)
 ·have ha:q.kd=2:=hj;have E:q.ix.toNat<c.ex.length:=by have:=hx ha;omega
  refine Qv<|Qs U hf U U<|Qs U Y U U<|O8 (g:=Q5) (i:=q.ix.toNat) XC h5.ex.arr U (show Go.Lg.ev _ _=_ from OV (Value.int .i64) hb.symm) E λhp J =>
   x (Zs rfl)<|x (QD (J.fld 0 (.string (c.ex[q.ix.toNat]'E).nm) U) U)<|Zc U<|Qe<|QB (j:=1) (u:=.string (c.ex[q.ix.toNat]'E).nm) he U U oe rfl λw6 G H=>xe ?_
  refine Qc<|Q9 H U U<|Qe<|Qj (us:=[oF oG q.kd,.string (c.ex[q.ix.toNat]'E).nm]) (hg.J G hh) U U U U oA λI O S=>xe ?_;refine Qk ⟨[.agg #[oF oG q.kd,.string (c.ex[q.ix.toNat]'E).nm]],⟨⟨_,U,Qp U (S.at (L:=[]) oe).cells⟩,Z⟩,fin _ _ _ ?_ G H O⟩;unfold ZN;rw[OT (show ¬q.m.kd=1 from hk1),OU (show q.m.kd=2 from ha)];refine Prod.ext U ?_;show((c.ex.map XV.x).getD q.ix.toNat ⟨.empty,[]⟩).nm=_;simp[oQ,E,XV.x]
 have ha:¬q.kd=2:=hj;have h3:q.kd=3:=oa
 have E:q.ix.toNat<c.cs.length:=by have:=hs h3;omega
 refine Qv<|Qs U hf U U<|Qs U Y U U<|O8 (g:=Za) (i:=q.ix.toNat) Xs h5.cs.arr U (show Go.Lg.ev _ _=_ from OV (Value.int .i64) hb.symm) E λhp J =>
  x (Zs rfl)<|x (QD (J.fld 0 (.string (c.cs[q.ix.toNat]'E).nm) U) U)<|Zc U<|Qe<|QB (j:=1) (u:=.string (c.cs[q.ix.toNat]'E).nm) he U U oe rfl λw6 G H=>xe ?_
 refine Qc<|Q9 H U U<|Qe<|Qj (us:=[oF oG q.kd,.string (c.cs[q.ix.toNat]'E).nm]) (hg.J G hh) U U U U oA λI O S=>xe ?_;refine Qk ⟨[.agg #[oF oG q.kd,.string (c.cs[q.ix.toNat]'E).nm]],⟨⟨_,U,Qp U (S.at (L:=[]) oe).cells⟩,Z⟩,fin _ _ _ ?_ G H O⟩;unfold ZN;rw[OT (show ¬q.m.kd=1 from hk1),OT (show ¬q.m.kd=2 from ha)];refine Prod.ext U ?_;show((c.cs.map KV.k).getD q.ix.toNat ⟨.empty,[],0⟩).nm=_;simp[oQ,E,KV.k]
theorem QfO {v:O2}{a:Addr}(h:Zp L H v n sz cs)(e:v=.slice (some a) n cap):At L H a cs:=by
 rcases h.2.2 with⟨E,_⟩|⟨a',cap',E,_,G⟩
 ·rw[E]at e;cases e
 rw[E]at e;simp only[Value.slice.injEq,Option.some.injEq]at e;rw[<-e.1];exact G
section
variable {Q:Exit->Fr->O1->Prop}
end
section
variable {pS:String}
theorem Qgc {e bys:Nat}[h:Sl P t e sz bys z]{x E G H:O3}{k:IntKind}{m:Nat}(hx:ev f x=.slice (some ⟨b,0,none⟩) n cap)(hl:ev f E=.int k lo)(I:ev f G=.int k hi)(J:ev f H=.int k m)(Y:lo<=hi)(h2:hi<=m)(h3:m<=cap):
  (execOp (ev f) ⟨d,.slice t x (some E) (some G) (some H),ty,pS,af,gd⟩).run P w=.ok (.value (.slice (if m=lo then some ⟨b,0,none⟩else some ((⟨b,0,none⟩:Addr).add (lo*sz))) (hi - lo) (m - lo))) w:=by
 obtain⟨i,O,_,S,_⟩:=Sl.info h;have e1:(Instr.sliceBound (.int k m) cap .slice3Acap).run P w=.ok m w:=ZK h3;have e2:(Instr.sliceBound (.int k hi) m .slice3B).run P w=.ok hi w:=ZK h2;have T:(Instr.sliceBound (.int k lo) hi .slice3C).run P w=.ok lo w:=ZK Y;by_cases V:m=lo
 ·subst V;simp[execOp,hx,hl,I,J,Instr.sliceAt,Instr.slice,run_underlying h.u,Instr.sliceBounds,e1,e2,T,sizeOf,typeInfo,O,S]
 simp[execOp,hx,hl,I,J,Instr.sliceAt,Instr.slice,run_underlying h.u,Instr.sliceBounds,e1,e2,T,sizeOf,typeInfo,O,S,V]
theorem Qgb {e bys:Nat}[h:Sl P t e sz bys z]{x E G:O3}{k:IntKind}(hx:ev f x=.slice (some ⟨b,0,none⟩) n cap)(hl:ev f E=.int k lo)(H:ev f G=.int k hi)(I:lo<=hi)(J:hi<=cap)(V:lo<cap):
  (execOp (ev f) ⟨d,.slice t x (some E) (some G) none,ty,pS,af,gd⟩).run P w=.ok (.value (.slice (some ⟨b,lo*sz,none⟩) (hi - lo) (cap - lo))) w:=by
 obtain⟨i,O,_,S,_⟩:=Sl.info h;have e1:(Instr.sliceBound (.int k hi) cap .sliceAcap).run P w=.ok hi w:=ZK J;have e2:(Instr.sliceBound (.int k lo) hi .sliceB).run P w=.ok lo w:=ZK I;have T:¬cap=lo:=oa
 simp[execOp,hx,hl,H,Instr.sliceAt,Instr.slice,run_underlying h.u,Instr.sliceBounds,e1,e2,sizeOf,typeInfo,O,S,T,Addr.add];exact λe=>e.symm
theorem Qon {e bys:Nat}[h:Sl P t e sz bys z]{s:O3}{cur:LV}(H:Q7 w.heap g e cur)(J:ev f s=.slice (some ⟨g,0,none⟩) n cap)(O:cur.length=cap*sz)
  {a:Addr} {m c:Nat}  (S:ev f y=.slice (some a) m c) (hl:news.length=m*sz)  (T:At L w.heap a news) (V:∀u∈news,u.oneCell'=true) (I:n+m<=cap)
  (hK:∀w',O5 [g] w w'->Q7 w'.heap g e (cur.take (n*sz)++news++cur.drop (n*sz+news.length))->K (QW f d (.slice (some ⟨g,0,none⟩) (n+m) cap)) w'):
  XO P ⟨d,.call ⟨.builtin .append,#[s,y],#[t,t]⟩,ty,pS,af,gd⟩ f w K:=by
 obtain⟨i,hi,hz,E,hb⟩:=Sl.info h;have Y:n*i.size+news.length<=cur.toArray.size:=by
  rw[LR,O,hl,E,<-Mu];exact L3 _ I
 have G:=run_append_room (P:=P) w t ty e i h.u hi g n cap cur.toArray H a m c news (by rw[E];exact hl) T.cells V I Y;rw[E]at G;have ha:(execOp (ev f) ⟨d,.call ⟨.builtin .append,#[s,y],#[t,t]⟩,ty,pS,af,gd⟩).run P w=.ok (.value (.slice (some ⟨g,0,none⟩) (n+m) cap)) (w.setRow g (cur.take (n*sz)++news++cur.drop (n*sz+news.length)).toArray):=by
  simp[execOp,resolve,invoke,builtin,J,S]at G ⊢;simp[G]
 exact xv ha (hK _ (O5.setRow _ _ _) (X2 H))
end
theorem Qnz {pS:String}[h1:Ja P t]{x:O3}{base k:Nat}{u:O2}
  (h:w.ownsRow base T sz (.slice (some ⟨g,0,none⟩) n cap) n cs) (hx:ev f x=.pointer (some ⟨g,k,none⟩)) (G:ev f y=u) (V:k<n*sz) (H:u.oneCell'=true)
  (hK:∀w',O5 [g] w w'->w'.ownsRow base T sz (.slice (some ⟨g,0,none⟩) n cap) n (cs.set k u)->K (QW f d undef) w'):XO P ⟨d,.store t x y,ty,pS,af,gd⟩ f w K:=by
 obtain⟨I,cur,J,hl,E⟩:=KC h;have Y:n*sz<=cap*sz:=L3 _ I;refine QB (j:=k) J hx G oa H λw' O S=>hK w' O ?_;refine Uy h (Lx _) S (by rw[Mc];exact hl) ?_ (by rw[Mc,<-E,Ly];omega);rw[List.take_set,E]
def Fre {α:Type}(E:LN->Array Obj->α->Prop)(M:Nat)(H:xC)(q:α):Prop:=∀L:LN,(∀b∈L,b<M)->E L H q
theorem Fre.low {E:LN->Array Obj->α->Prop}[Mm E]{q:α}(h:Fre E M w.heap q)(H:O5 X w w')(I:∀b∈X,b<M):Fre E M w'.heap q:=λL J =>
 Mm.mono (Mm.st (L:=X++L) (h _ λb G=>(Lc.1 G).elim (I b) (J b)) (H.mono λ_ G=>Lc.2 (.inl G))) λ_ G=>Lc.2 (.inr G)
theorem Fre.I {E:LN->Array Obj->α->Prop}[Mm E]{q:α}(h:Fre E M w.heap q)(G:O5 [] w w'):Fre E M w'.heap q:=h.low G λ_ H=>by cases H
theorem Qhs {q:XV}(h:q.v.oneCell'=true):∀u∈Q5 q,u.oneCell'=true:=by
 intro u E;simp only[Q5,oL,oJ,or_false]at E;rcases E with rfl|rfl
 ·rfl
 exact h
theorem QiY {q:KV}(h:q.v.oneCell'=true):∀u∈Za q,u.oneCell'=true:=by
 intro u E;simp only[Za,oL,oJ,or_false]at E;rcases E with rfl|rfl|rfl
 ·rfl
 ·exact h
 rfl
theorem yG {α:Type}{g:α->LV}{sz:Nat}(G:∀x,(g x).length=sz):∀(l:List α) (i j:Nat) (u:O2) (E:α) (h:i<l.length),j<sz->g E=(g (l[i]'h)).set j u->(l.flatMap g).set (i*sz+j) u=(l.set i E).flatMap g
 | [],i,_,_,_,h,_,_=>by simp at h
 | a::l,0,j,u,E,h,H,e=>by
  have I:g E=(g a).set j u:=e;rw[OQ,LS,NQ,LM,LM,List.set_append_left _ _ (by rw[G a];exact H),I]
 | a::l,i+1,j,u,E,h,H,e=>by
  have J:(i+1)*sz+j=(g a).length+(i*sz+j):=by rw[G a,Nat.succ_mul];omega
  rw[J,Nw,LM,LM,NA _ _ oa,MO,yG G l i j u E (oz h) H e]
theorem yr {f:α->β}{l:List α}(hi:i<l.length){q:α}(h:f q=f (l[i]'hi)):(l.set i q).map f=l.map f:=by
 rw[NE,h];have:f (l[i]'hi)=(l.map f)[i]'(by rw[Lh];exact hi):=by rw[LO]
 rw[this,List.set_getElem_self]
structure CpI (N:Nat)(w':O1)(c:CL)(b3:Nat)(re rx rk:O2):Prop where
 b:N<=b3
 B:Q7 w'.heap b3 44 [re,nS,nS,rx,rk]
 e:w'.ownsRow N 183 5 re c.ev.length (c.ev.flatMap Zl)
 x:w'.ownsRow N 116 2 rx c.ex.length (c.ex.flatMap Q5)
 k:w'.ownsRow N 121 3 rk c.cs.length (c.cs.flatMap Za)
 d1:∀b∈ob re,b≠b3/\b∉ob rx/\b∉ob rk
 d2:∀b∈ob rx,b≠b3/\b∉ob rk
 d3:∀b∈ob rk,b≠b3
theorem Qpl {c:CL}(h0:ZH L w.heap c)(hn1:c.co.length<=1000)(hn2:c.rq.length<=1000):
  Q6 prog 44 [c.val] w λr w'=>O5 [] w w'/\Qei w.heap.size w'.heap r c.V:=by
 have h:=h0.up (L':=[]) oe;have pa:=h.ex.arr.le;have pc:=h.cs.arr.le;have pd:=h.ev.arr.le;refine Zo func44 ?_;refine Qc<|Qe<|QV (us:=c.cells) U λb1 w1 pf hb1 k0=>Qe<|Qo (us:=Yf) U λb2 w2 k4 hb2 k5=>xe ?_;have k6:=pf.D k4;have hl1:=k0.lt;have pg:=k5.lt;have h2:=h.I k6;have gg:=k0.I k4;have ph:O5 [] w2 { w2 with drawn:=w2.drawn+1 }:=O5.C _ _
 have pj:∀u∈c.ex.flatMap Q5,u.oneCell'=true:=λu hu=>by
  obtain⟨q,S,hu⟩:=Mf.1 hu;exact Qhs (h.ex.each q S).one u hu
 have pm:∀u∈c.cs.flatMap Za,u.oneCell'=true:=λu hu=>by
  obtain⟨q,S,hu⟩:=Mf.1 hu;exact QiY (h.cs.each q S).one u hu
 refine Q3 (α:=Nat×O2×O2×O2) [(10,19),(3,3)] (λz=>[(3,.pointer (some ⟨z.1,0,none⟩))]) (λz w'=>O5 [] w2 w'/\CpI w2.heap.size w' c z.1 z.2.1 z.2.2.1 z.2.2.2) ol ?_ ?_
 ·refine VI (α:=O2×O2×O2) (O5 [] w2) [oD 0,oD 1,oD 3,oD 4,oD 6,oD 7] [oE 2,oE 5,oE 8,oD 9] 10 3 [oE 11] []
   [(10,19)] [(12,12),(15,15),(18,19)] (λz=>[(19,.agg #[z.1,nS,nS,z.2.1,z.2.2])])
   (λz own w'=>(w'.ownsRow w2.heap.size 183 5 z.1 c.ev.length (c.ev.flatMap Zl)/\w'.ownsRow w2.heap.size 116 2 z.2.1 c.ex.length (c.ex.flatMap Q5)/\w'.ownsRow w2.heap.size 121 3 z.2.2 c.cs.length (c.cs.flatMap Za)) /\
    (∀b∈ob z.1,b∈own/\b∉ob z.2.1/\b∉ob z.2.2)/\(∀b∈ob z.2.1,b∈own/\b∉ob z.2.2)/\∀b∈ob z.2.2,b∈own)
   (λv w'=>∃b,v=.pointer (some ⟨b,0,none⟩)/\w2.heap.size<=b/\Q7 w'.heap b 44 Yf) mixed ol od ol U ph oe ?_ ?_ ?_ ?_
  ·rintro v own wa wb ⟨b,rfl,E,hB⟩ hs hn;exact⟨b,U,E,hB.J hs (hn b ot)⟩
  ·rintro z own wa wb ⟨⟨h1,h2,h3⟩,h4⟩ hs;exact⟨⟨Qn h1 hs,Qn h2 hs,Qn h3 hs⟩,h4⟩
  ·rintro⟨re,rx,rk⟩ g own wz v ⟨⟨i1,i2,i3⟩,i4,i5,i6⟩ pn ⟨O,rfl,k7,po⟩ pp;simp only[]at i1 i2 i3 i4 i5 i6;have gh:=(pp O ot).1;refine pkl (hl:=by kernel_rfl)<|Qj (us:=[re,nS,nS,rx,rk]) po U U U U ⟨Qt i1,U,U,Qt i2,Qt i3,Z⟩ λw8 h9 pu=>pe ?_;have nn:∀b,b∈own->b∉[O]:=λb E H=>gh (by rw[<-Lb.1 H];exact E);refine⟨(O,re,rx,rk),La,pn.O h9 k7,k7,pu,Qf i1 h9 (λb E=>nn b (i4 b E).1),Qf i2 h9 (λb E=>nn b (i5 b E).1),Qf i3 h9 (λb E=>nn b (i6 b E)),λb E=>⟨λe=>gh (by rw[show O=b from e.symm];exact(i4 b E).1),(i4 b E).2⟩,λb E=>⟨λe=>gh (by rw[show O=b from e.symm];exact(i5 b E).1),(i5 b E).2⟩,λb E e=>gh (by rw[show O=b from e.symm];exact i6 b E)⟩
  refine p (QQ U)<|pq (λ_ I=>Qq (gg.I I) U U)<|p (QQ U)<|pq (λ_ I=>Qq (gg.I I) U U) <|
   p (QQ rfl)<|pq (λ_ I=>Qq (gg.I I) U U)<|pe ⟨λg wf k8=>Qo (us:=Yf) U λb wf' k9 ma mf=>⟨k9,k8.D k9,⟨b,U,LP k8.size ma,mf⟩,λx hx=>?_⟩,?_⟩
  ·have pw:x=b:=by
    have pz:x∈[b]:=hx;simpa using pz
   subst pw;exact⟨ma,mf.lt⟩
  refine f2k λx1 p1 c1=>xg<|(Ub (h2.ev.I c1).arr).mono ?_;rintro re y1 ⟨mg,gr⟩;refine⟨c1.D mg,U6 x1.heap.size y1.heap.size,mg.any,λb E=>.inr (ZC.1 E),?_⟩;refine f2k λx2 p2 c2=>xg<|(Qj8 (h2.ex.I c2).arr pj).mono ?_;rintro rx y2 ⟨gi,gs⟩;refine⟨c2.D gi,U6 x1.heap.size y1.heap.size++U6 x2.heap.size y2.heap.size,gi.any,λb E=>(Lc.1 E).imp id λE=>ZC.1 E,?_⟩;refine f2k λx3 p3 c3=>xg<|(Qkb (h2.cs.I c3).arr pm).mono ?_;rintro rk y3 ⟨gj,gt⟩;refine⟨c3.D gj,(U6 x1.heap.size y1.heap.size++U6 x2.heap.size y2.heap.size)++U6 x3.heap.size y3.heap.size,gj.any,λb E=>(Lc.1 E).imp id λE=>ZC.1 E,?_⟩;refine f2p (λ_=>Qx ⟨xM gr,xM gs,xM gt,Z⟩)<|f2e ?_;have e1:=c1.size;have e2:=c2.size;have e3:=c3.size;have e12:=p2.size;have e23:=p3.size;have g1:=Qi gr;have g2:=Qi gs;have g3:=Qi gt;have f2:=gi.size;refine⟨(re,rx,rk),La,⟨Zu (Qn (Qn (Qn (Qn gr p2) gi) p3) gj) e1,Zu (Qn (Qn gs p3) gj) e2,Zu gt e3⟩,λb E=>⟨?_,λH=>?_,λH=>?_⟩,λb E=>⟨?_,λH=>?_⟩,λb E=>?_⟩
  ·exact Lc.2 (.inl (Lc.2 (.inl (ZC.2 (g1 b E)))))
  ·have:=g1 b E;have:=g2 b H;omega
  ·have:=g1 b E;have:=g3 b H;omega
  ·exact Lc.2 (.inl (Lc.2 (.inr (ZC.2 (g2 b E)))))
  ·have:=g2 b E;have:=g3 b H;omega
  exact Lc.2 (.inr (ZC.2 (g3 b E)))
 rintro⟨O,re,rx,rk⟩ g w3 ⟨gk,T⟩;simp only[]at T;have gu:=k6.D gk;have h3:=h.I gu;have mh:=gg.I gk;have hz3:=gk.size;have mj:=T.B.lt;have gv:=Qi T.x;have gw:=Qi T.k;have p0:b1≠O:=by have:=T.b;omega
 have mo:b2≠O:=by have:=T.b;omega
 have mq:∀b∈O::(ob rx++ob rk),w.heap.size<=b/\b<w3.heap.size:=λb E=>by
  rcases Li.1 E with rfl|E
  ·exact⟨ou T.b,mj⟩
  rcases Lc.1 E with E|E
  ·have:=gv b E;omega
  have:=gw b E;omega
 have ms:ZH (O::(ob rx++ob rk)) w3.heap c:=(h0.up (λb E=>.inr (mq b E).1)).I gu;have gy:∀b∈ob rx,b<w3.heap.size:=λb E=>(gv b E).2;have gl:∀b∈ob rk,b<w3.heap.size:=λb E=>(gw b E).2;have m3x:O∉ob rx:=λE=>(T.d2 O E).1 U;have m3k:O∉ob rk:=λE=>T.d3 O E U;refine Qd<|Qc<|Qs U mh U U<|QL h3.co.arr U<|Qa<|xe<|Qg<|QC (α:=Nat×O2×List IV) [(5,5),(23,38)] (λz=>[(23,oF oG z.1)]) (λz w'=>z.1<=c.co.length/\O5 [O] w3 w'/\Q7 w'.heap O 44 [re,z.2.1,nS,rx,rk]/\IvR w3.heap.size w' z.2.1 z.2.2/\z.2.2.map IV.it=(c.co.take z.1).map IV.it) (λz=>c.co.length - z.1) ol (0,nS,[]) La ⟨Ln _,O5.Z _ _,T.B,YA.nil,U⟩ ?_;rintro⟨i,voA,lA⟩ g w4 ⟨mt,hg,gz,gm,hG⟩;simp only[]at mt gz gm hG;refine Qc<|QY U U<|xe<|Qd<|QH U (λgn=>?_) (λgn=>?_)
 rotate_left
 ·have J:i<c.co.length:=by have hN:(i:Int)<(c.co.length:Int):=gn;omega
  have hO:c.co.take (i+1)=c.co.take i++[c.co[i]'J]:=Lm J;have p4:lA.length=i:=by have:=OV oP hG;rw[Lh,Lh,Ly]at this;omega
  have V:=Ll J;have h4:=ms.st (hg.mono oe);have g0:=hg.size;refine Qh<|Qd<|Qg<|Qc<|O8 (g:=QM) (i:=i) Yn h4.co.arr U U J λp5 hP=>?_;refine Zj (c.co[i]'J) λq S=>?_;rw[S]at hP hO V;have hr:=h4.co.each q V;have hQ:=h4.co.nm q V;refine x (Qw hP U U)<|Qe<|Qo (us:=[.string .empty,nS,oF oG 0,nS,nS]) U λb5 p6 g4 g5 g6=>Qe<|Qj (us:=QM q) g6 U U U U ⟨U,hr.al.one,U,hr.mr.one,hr.ed.one,Z⟩ λY g7 hR=>xe ?_;have hh:O5 [] w4 Y:=g4.O g7 g5;have p7:=hh.size;have hS:=gm.I hh;have hT:=gz.I hh;have hge:=Qi hS.own;have hU:=Qi gm.own;have n3v:O∉ob voA:=λE=>ou (hge O E)
  have n5v:b5∉ob voA:=λE=>ou (hU b5 E)
  have hV:O5 [] Y { Y with drawn:=Y.drawn+1 }:=O5.C _ _
  refine ZF (ob voA) (Xi 0 12 [6,8,9,11])<|p (QQ U)<|pq (λ_ I=>Qq (hT.J I n3v) U U)<|p (QQ U)<|pq (λ_ I=>Qq (hR.J I n5v) U U) <|
   p (QQ rfl)<|pq (λ_ I=>Zv (us:=[q.p.va,oF oG q.p.a.st,q.p.vm,q.p.ve]) (hR.J I n5v) U U U)<|pk<|xg<|(QdU ((hr.I hh).I hV)).mono ?_
  rintro _ p8 ⟨g8,xa,xm,ha,rfl,hA⟩;have ht:=hV.D g8;have p9:=ht.size;have g9:=hA [] oe;refine⟨ht.any,?_⟩;refine p (λ_=>Zn [(0,[.string q.nm]),(1,[xa,oF oG q.p.a.st,xm,ha])] ⟨U,U,U,U,Z⟩)<|pk<|QA (us:=[QM ⟨q.nm,⟨xa,xm,ha,q.p.a⟩⟩]) U U og (show 1*5<=1000000 by omega) oA λqc ka hv qf kb=>⟨(ht.D hv).any,?_⟩;have hi:=ht.D hv;have hW:=hS.I hi;have kc:IvA [] ka.heap ⟨q.nm,⟨xa,xm,ha,q.p.a⟩⟩:=⟨g9.I hv,hQ⟩;refine pk<|Q8 (m:=1) (news:=QM ⟨q.nm,⟨xa,xm,ha,q.p.a⟩⟩) (L:=[]) hW.own U U U (kb.at oe) (Zm.all kc.ones) oa (ou hi.size) λv16 ke hX hw kf=>⟨(hi.any (L:=ob voA)).Q hw,?_⟩;have ql:({ Y with drawn:=Y.drawn+1 }:O1).heap.size=Y.heap.size:=rfl
  have kg:IvR w3.heap.size ke v16 (lA++[⟨q.nm,⟨xa,xm,ha,q.p.a⟩⟩]):=hW.app (λL hL=>⟨(hA L (λb E=>by
   rcases hL b E with h|h
   ·omega
   have:=hge b h;omega)).I hv,hQ⟩) hX hw kf
  refine p (QQ U)<|pkl (hl:=by kernel_rfl)<|QB (j:=1) (u:=v16) ((hT.I hi).J hw n3v) U U oe (Qt hX) λqo hY kh=>pe ?_;refine Qv<|QP U U<|Qa<|xe<|⟨(i+1,v16,lA++[⟨q.nm,⟨xa,xm,ha,q.p.a⟩⟩]),oh,La,J,?_,kh,kg.low hY (λb E=>by rw[Lb.1 E];omega),?_⟩
  ·exact((hg.D (hh.D hi)).then hw (λb E=>.inr (ou (hU b E)))).Q hY
  simp only[];rw[hO,Ls,Ls,hG];rfl
 refine Qz ?_;have mu:c.co.length<=i:=by have hN:¬(i:Int)<(c.co.length:Int):=gn;omega
 rw[Lt mu]at hG;clear mt mu gn;have ki:=ms.st (hg.mono oe);have qr:=hg.size;have qy:=mh.J hg (oz p0);have q0:=Qf T.x hg (λb E H=>m3x (Lb.1 H ▸ E));have q1:=Qf T.k hg (λb E H=>m3k (Lb.1 H ▸ E));have q2:=Qf T.e hg (λb E H=>(T.d1 b E).1 (Lb.1 H));have q3:=(k5.I gk).J hg (oz mo);refine Qd<|Qc<|Qs U qy U U<|QL ki.rq.arr U<|Qa<|xe<|Qg<|QC (α:=Nat×O2×List IV) [(7,7),(42,57)] (λz=>[(42,oF oG z.1)]) (λz w'=>z.1<=c.rq.length/\O5 [O] w4 w'/\Q7 w'.heap O 44 [re,voA,z.2.1,rx,rk]/\IvR w4.heap.size w' z.2.1 z.2.2/\z.2.2.map IV.it=(c.rq.take z.1).map IV.it) (λz=>c.rq.length - z.1) ol (0,nS,[]) La ⟨Ln _,O5.Z _ _,gz,YA.nil,U⟩ ?_;rintro⟨i,voB,lB⟩ g w5 ⟨mv,hk,hZ,hH,hJ⟩;simp only[]at mv hZ hH hJ;refine Qc<|QY U U<|xe<|Qd<|QH U (λgo=>?_) (λgo=>?_)
 rotate_left
 ·have J:i<c.rq.length:=by have hN:(i:Int)<(c.rq.length:Int):=go;omega
  have hO:c.rq.take (i+1)=c.rq.take i++[c.rq[i]'J]:=Lm J;have p4:lB.length=i:=by have:=OV oP hJ;rw[Lh,Lh,Ly]at this;omega
  have V:=Ll J;have h4:=ki.st (hk.mono oe);have g0:=hk.size;refine Qh<|Qd<|Qg<|Qc<|O8 (g:=QM) (i:=i) Yn h4.rq.arr U U J λp5 hP=>?_;refine Zj (c.rq[i]'J) λq S=>?_;rw[S]at hP hO V;have hr:=h4.rq.each q V;have hQ:=h4.rq.nm q V;refine x (Qw hP U U)<|Qe<|Qo (us:=[.string .empty,nS,oF oG 0,nS,nS]) U λb5 p6 g4 g5 g6=>Qe<|Qj (us:=QM q) g6 U U U U ⟨U,hr.al.one,U,hr.mr.one,hr.ed.one,Z⟩ λY g7 hR=>xe ?_;have hh:O5 [] w5 Y:=g4.O g7 g5;have p7:=hh.size;have hS:=hH.I hh;have hT:=hZ.I hh;have hge:=Qi hS.own;have hU:=Qi hH.own;have n3v:O∉ob voB:=λE=>ou (hge O E)
  have n5v:b5∉ob voB:=λE=>ou (hU b5 E)
  have hV:O5 [] Y { Y with drawn:=Y.drawn+1 }:=O5.C _ _
  refine ZF (ob voB) (Xi 0 12 [6,8,9,11])<|p (QQ U)<|pq (λ_ I=>Qq (hT.J I n3v) U U)<|p (QQ U)<|pq (λ_ I=>Qq (hR.J I n5v) U U) <|
   p (QQ rfl)<|pq (λ_ I=>Zv (us:=[q.p.va,oF oG q.p.a.st,q.p.vm,q.p.ve]) (hR.J I n5v) U U U)<|pk<|xg<|(QdU ((hr.I hh).I hV)).mono ?_
  rintro _ p8 ⟨g8,xa,xm,ha,rfl,hA⟩;have ht:=hV.D g8;have p9:=ht.size;have g9:=hA [] oe;refine⟨ht.any,?_⟩;refine p (λ_=>Zn [(0,[.string q.nm]),(1,[xa,oF oG q.p.a.st,xm,ha])] ⟨U,U,U,U,Z⟩)<|pk<|QA (us:=[QM ⟨q.nm,⟨xa,xm,ha,q.p.a⟩⟩]) U U og (show 1*5<=1000000 by omega) oA λqc ka hv qf kb=>⟨(ht.D hv).any,?_⟩;have hi:=ht.D hv;have hW:=hS.I hi;have kc:IvA [] ka.heap ⟨q.nm,⟨xa,xm,ha,q.p.a⟩⟩:=⟨g9.I hv,hQ⟩;refine pk<|Q8 (m:=1) (news:=QM ⟨q.nm,⟨xa,xm,ha,q.p.a⟩⟩) (L:=[]) hW.own U U U (kb.at oe) (Zm.all kc.ones) oa (ou hi.size) λv16 ke hX hw kf=>⟨(hi.any (L:=ob voB)).Q hw,?_⟩;have ql:({ Y with drawn:=Y.drawn+1 }:O1).heap.size=Y.heap.size:=rfl
  have kg:IvR w4.heap.size ke v16 (lB++[⟨q.nm,⟨xa,xm,ha,q.p.a⟩⟩]):=hW.app (λL hL=>⟨(hA L (λb E=>by
   rcases hL b E with h|h
   ·omega
   have:=hge b h;omega)).I hv,hQ⟩) hX hw kf
  refine p (QQ U)<|pkl (hl:=by kernel_rfl)<|QB (j:=2) (u:=v16) ((hT.I hi).J hw n3v) U U oe (Qt hX) λqo hY kh=>pe ?_;refine Qv<|QP U U<|Qa<|xe<|⟨(i+1,v16,lB++[⟨q.nm,⟨xa,xm,ha,q.p.a⟩⟩]),oh,La,J,?_,kh,kg.low hY (λb E=>by rw[Lb.1 E];omega),?_⟩
  ·exact((hk.D (hh.D hi)).then hw (λb E=>.inr (ou (hU b E)))).Q hY
  simp only[];rw[hO,Ls,Ls,hJ];rfl
 refine Qz ?_;have mw:c.rq.length<=i:=by have hN:¬(i:Int)<(c.rq.length:Int):=go;omega
 rw[Lt mw]at hJ;clear mv mw go;have my:=ki.st (hk.mono oe);have hzB:=hk.size;have hH:=YA.base hH qr;have q4:=gm.low hk (λb E=>by rw[Lb.1 E];exact mj);have mz:=Qf q0 hk (λb E H=>m3x (Lb.1 H ▸ E));have q5:=Qf q1 hk (λb E H=>m3k (Lb.1 H ▸ E));have za:=Qf q2 hk (λb E H=>(T.d1 b E).1 (Lb.1 H));have zb:=q3.J hk (oz mo);refine Qd<|Qc<|Qs U hZ U U<|QL (QK (L:=[]) mz (by exact pa) oe) rfl<|Qa<|xe<|Qg<|QC (α:=Nat×List XV) [(8,8),(61,76)] (λz=>[(61,oF oG z.1)]) (λz w'=>(z.1<=c.ex.length/\z.2.length=c.ex.length)/\O5 (ob rx) w5 w'/\w'.ownsRow w2.heap.size 116 2 rx z.2.length (z.2.flatMap Q5)/\z.2.map XV.x=c.ex.map XV.x/\(∀j (G:j<z.2.length),j<z.1->Fre XvA w3.heap.size w'.heap (z.2[j]'G))/\∀j (G:j<z.2.length) (hp:j<c.ex.length),z.1<=j->z.2[j]'G=c.ex[j]'hp)
  (λz=>c.ex.length - z.1) ol (0,c.ex) La ⟨⟨Ln _,U⟩,O5.Z _ _,mz,U,λj G ho=>OW ho (Nn j),λj G hp _=>U⟩ ?_
 rintro⟨i,lx⟩ g w6 ⟨⟨zv,m2⟩,he,hK,kj,kk,kn⟩;simp only[]at zv m2 hK kj kk kn;refine Qc<|QY U U<|xe<|Qd<|QH U (λm3=>?_) (λm3=>?_)
 rotate_left
 ·have hy:i<c.ex.length:=by have hN:(i:Int)<(c.ex.length:Int):=m3;omega
  have J:i<lx.length:=oa
  have hge:=Qi hK;have g0:=he.size;obtain⟨gx,capx,eg⟩:=JB hK oa;have ko:ob rx=[gx]:=by rw[eg];rfl
  have ga:=hK;rw[eg]at ga;have gb:=hZ.J he m3x;have hz:=kn i J hy (Lx _);have V:=Ll hy;have hD:=((my.st (he.mono (λb E=>Lj _ (Lc.2 (.inl E))))).ex.each _ V).up (L':=[]) oe;have z0:=QK (L:=[]) hK oa oe;refine Qh<|Qd<|Qg<|Qm<|Qb<|Zj (c.ex[i]'hy) λq S=>?_;rw[S]at hz V hD;have hd:O5 [] w6 { w6 with drawn:=w6.drawn+1 }:=O5.C _ _
  refine ZF [] (Xi 0 13 [9,12])<|p (QQ U)<|pq (λ_ I=>Qq (gb.I I) U U)<|p QF<|p (QQ U)<|pq (λ_ I=>Qq (gb.I I) U U) <|
   p QF<|Go.Lg.pig (g:=Q5) (i:=i) U XC z0 U U J λz1 kq=>p (λ_=>Zs U)<|pq (λ_ I=>QD ((kq.fld 1 q.v (by rw[hz];rfl)).I I) U) <|
   pk<|xg<|(j9 (hD.I hd)).mono ?_
  rintro rv w9 ⟨kr,hE⟩;have h6:O5 [] w6 w9:=hd.D kr;refine⟨h6,?_⟩;refine p (λ_=>Zw (i:=i) eg U J)<|p (QQ U)<|pkl (hl:=by kernel_rfl)<|Qnz (k:=0+i*2+1) (u:=rv) (Qn ga h6) U U (by have:(i+1)*2<=lx.length*2:=L3 _ J;omega) (Qt hE) λz2 h7 hF =>
   pe ?_
  rw[<-ko]at h7;rw[<-eg]at hF;have kt:=yG (g:=Q5) XC lx i 1 rv ⟨q.nm,rv,q.ls⟩ J og (by rw[hz];rfl);rw[show 0+i*2+1=i*2+1 by omega,kt]at hF;refine Qv<|QP U U<|Qa<|xe ?_;have gc:=gy;refine⟨(i+1,lx.set i ⟨q.nm,rv,q.ls⟩),oh,La,⟨hy,by simp only[Ou];exact m2⟩,(he.D h6).Q h7,by simp only[Ou];exact hF,?_,λj G ho=>?_,λj G hp ho=>?_⟩
  ·simp only[];rw[yr J (by rw[hz];rfl),kj]
  ·simp only[Ou]at G;simp only[]at ho ⊢;rw[Nf];split
   ·refine Fre.low (w:=w9) ?_ h7 gc;intro L hL;exact⟨QK hE (ou hD.le) (λb E hbL=>by have h1:=(Qi hE b E).1;have h2:=hL b hbL;have h3:w3.heap.size<=w6.heap.size:=oa;have h4:({ w6 with drawn:=w6.drawn+1 }:O1).heap.size=w6.heap.size:=rfl;omega),h.ex.nm q V⟩
   rename_i z3;exact((kk j G oa).I h6).low h7 gc
  simp only[Ou]at G;simp only[]at ho ⊢;rw[List.getElem_set_ne oa];exact kn j G hp oa
 refine Qz ?_;have z4:=my.st (he.mono (λb E=>Lj _ (Lc.2 (.inl E))));have hzC:=he.size;have z5:=q4.low he gy;have z6:=hH.low he gy;have m4:=Qf q5 he (λb E H=>(T.d2 b H).2 E);have he6:=Qf za he (λb E H=>(T.d1 b E).2.1 H);have ku:=hZ.J he m3x;have m2x:b2∉ob rx:=λE=>ou (gv b2 E)
 have m2k:b2∉ob rk:=λE=>ou (gw b2 E)
 have hB26:=zb.J he m2x;refine Qd<|Qc<|Qs U ku U U<|QL (QK (L:=[]) m4 (by exact pc) oe) rfl<|Qa<|xe<|Qg<|QC (α:=Nat×List KV) [(9,9),(80,95)] (λz=>[(80,oF oG z.1)]) (λz w'=>(z.1<=c.cs.length/\z.2.length=c.cs.length)/\O5 (ob rk) w6 w'/\w'.ownsRow w2.heap.size 121 3 rk z.2.length (z.2.flatMap Za)/\z.2.map KV.k=c.cs.map KV.k/\(∀j (G:j<z.2.length),j<z.1->Fre KvA w3.heap.size w'.heap (z.2[j]'G))/\∀j (G:j<z.2.length) (hp:j<c.cs.length),z.1<=j->z.2[j]'G=c.cs[j]'hp)
  (λz=>c.cs.length - z.1) ol (0,c.cs) La ⟨⟨Ln _,U⟩,O5.Z _ _,m4,U,λj G ho=>OW ho (Nn j),λj G hp _=>U⟩ ?_
 rintro⟨i,lk⟩ g w7 ⟨⟨hiD,m5⟩,hf,h8,kv,gp,kw⟩;simp only[]at hiD m5 h8 kv gp kw;refine Qc<|QY U U<|xe<|Qd<|QH U (λm6=>?_) (λm6=>?_)
 rotate_left
 ·have hy:i<c.cs.length:=by have hN:(i:Int)<(c.cs.length:Int):=m6;omega
  have J:i<lk.length:=oa
  have hge:=Qi h8;have g0:=hf.size;obtain⟨gx,capx,eg⟩:=JB h8 oa;have ko:ob rk=[gx]:=by rw[eg];rfl
  have ga:=h8;rw[eg]at ga;have gb:=ku.J hf m3k;have hz:=kw i J hy (Lx _);have V:=Ll hy;have hD:=((z4.st (hf.mono (λb E=>Lj _ (Lc.2 (.inr E))))).cs.each _ V).up (L':=[]) oe;have hAD:=QK (L:=[]) h8 oa oe;refine Qh<|Qd<|Qg<|Qm<|Qb<|Zj (c.cs[i]'hy) λq S=>?_;rw[S]at hz V hD;have hd:O5 [] w7 { w7 with drawn:=w7.drawn+1 }:=O5.C _ _
  refine ZF [] (Xi 0 13 [9,12])<|p (QQ U)<|pq (λ_ I=>Qq (gb.I I) U U)<|p QF<|p (QQ U)<|pq (λ_ I=>Qq (gb.I I) U U) <|
   p QF<|Go.Lg.pig (g:=Za) (i:=i) U Xs hAD U U J λz1 kq=>p (λ_=>Zs U)<|pq (λ_ I=>QD ((kq.fld 1 q.v (by rw[hz];rfl)).I I) U) <|
   pk<|xg<|(j8 (hD.I hd)).mono ?_
  rintro rv w9 ⟨kr,hE⟩;have h6:O5 [] w7 w9:=hd.D kr;refine⟨h6,?_⟩;refine p (λ_=>Zw (i:=i) eg U J)<|p (QQ U)<|pkl (hl:=by kernel_rfl)<|Qnz (k:=0+i*3+1) (u:=rv) (Qn ga h6) U U (by have:(i+1)*3<=lk.length*3:=L3 _ J;omega) (Qt hE) λz2 h7 hF =>
   pe ?_
  rw[<-ko]at h7;rw[<-eg]at hF;have kt:=yG (g:=Za) Xs lk i 1 rv ⟨q.nm,rv,q.ts,q.bd⟩ J og (by rw[hz];rfl);rw[show 0+i*3+1=i*3+1 by omega,kt]at hF;refine Qv<|QP U U<|Qa<|xe ?_;have gc:=gl;refine⟨(i+1,lk.set i ⟨q.nm,rv,q.ts,q.bd⟩),oh,La,⟨hy,by simp only[Ou];exact m5⟩,(hf.D h6).Q h7,by simp only[Ou];exact hF,?_,λj G ho=>?_,λj G hp ho=>?_⟩
  ·simp only[];rw[yr J (by rw[hz];rfl),kv]
  ·simp only[Ou]at G;simp only[]at ho ⊢;rw[Nf];split
   ·refine Fre.low (w:=w9) ?_ h7 gc;intro L hL;exact⟨QK hE (ou hD.le) (λb E hbL=>by have h1:=(Qi hE b E).1;have h2:=hL b hbL;have h3:w3.heap.size<=w7.heap.size:=oa;have h4:({ w7 with drawn:=w7.drawn+1 }:O1).heap.size=w7.heap.size:=rfl;omega),h.cs.nm q V⟩
   rename_i z3;exact((gp j G oa).I h6).low h7 gc
  simp only[Ou]at G;simp only[]at ho ⊢;rw[List.getElem_set_ne oa];exact kw j G hp oa
 refine Qz ?_;have m7:=z5.low hf gl;have m8:=z6.low hf gl;have kx:=Qf hK hf (λb E H=>(T.d2 b E).2 H);have kz:=Qf he6 hf (λb E H=>(T.d1 b E).2.2 H);have hB37:=ku.J hf m3k;have hB27:=hB26.J hf m2k;have m9:∀j (G:j<lx.length),j<c.ex.length->Fre XvA w3.heap.size w7.heap (lx[j]'G):=λj G hp=>(kk j G oa).low hf gl;have hone:Zm [re,voA,voB,rx,rk]:=⟨Qt kz,Qt m7.own,Qt m8.own,Qt kx,Qt h8,Z⟩;refine Qc<|Q9 hB37 U U<|Qe<|Qj (us:=[re,voA,voB,rx,rk]) hB27 U U U U hone λw8 h9 hB28=>xe ?_;have hs37:O5 (O::(ob rx++ob rk)) w3 w7:=(((hg.mono oe).Q (hk.mono oe)).Q (he.mono (λb E=>Lj _ (Lc.2 (.inl E))))).Q (hf.mono (λb E=>Lj _ (Lc.2 (.inr E))));have hs07:O5 [] w w7:=gu.then hs37 (λb E=>.inr (mq b E).1);refine Qk ⟨[.agg #[re,voA,voB,rx,rk]],⟨⟨_,U,Qp U (hB28.at (L:=[]) oe).cells⟩,Z⟩,hs07.O h9 oa,CL.mk re voA voB rx rk c.ev lA lB lx lk,rfl,?_,λL hL=>?_⟩
 ·unfold CL.V;simp only[];rw[hG,hJ,kj,kv]
 have gq:∀b∈b2::L,b<w2.heap.size:=λb E=>by
  rcases Li.1 E with rfl|E
  ·exact pg
  have:=hL b E;omega
 have hM:∀b∈b2::L,b<w3.heap.size:=λb E=>ou (gq b E)
 have lA1:lA.length=c.co.length:=by have:=OV oP hG;rwa [Lh,Lh]at this
 have lB1:lB.length=c.rq.length:=by have:=OV oP hJ;rwa [Lh,Lh]at this
 have hC:ZH (b2::L) w7.heap (CL.mk re voA voB rx rk c.ev lA lB lx lk):=by
  refine⟨⟨QK kz pd (λb E H=>ov (Qi kz b E).1 (gq b H)),h.ev.nm⟩,IvR.itms m7 (show lA.length<=1099511627776 by omega) hM,IvR.itms m8 (show lB.length<=1099511627776 by omega) hM,⟨QK kx (show lx.length<=1099511627776 by omega) (λb E H=>ov (Qi kx b E).1 (gq b H)),λq S=>?_,λq S=>?_⟩,⟨QK h8 (show lk.length<=1099511627776 by omega) (λb E H=>ov (Qi h8 b E).1 (gq b H)),λq S=>?_,λq S=>?_⟩⟩
  ·obtain⟨j,G,rfl⟩:=LG S;exact(m9 j G (by have h5:j<lx.length:=G;omega) _ hM).l
  ·obtain⟨j,G,rfl⟩:=LG S;exact(m9 j G (by have h5:j<lx.length:=G;omega) _ hM).nm
  ·obtain⟨j,G,rfl⟩:=LG S;exact(gp j G (by have h5:j<lk.length:=G;omega) _ hM).l
  obtain⟨j,G,rfl⟩:=LG S;exact(gp j G (by have h5:j<lk.length:=G;omega) _ hM).nm
 exact(hC.st (h9.mono oe)).up (λb E=>.inl (Lj _ E))
section
variable {κ:Type}[DecidableEq κ](ky:α->κ)(vl:α->O2)
def yu (l:List α)(m:List (κ×O2)):List (κ×O2):=l.foldl (λm p=>xh m (ky p) (vl p)) m
theorem jS {k:κ}:∀(l:List α) (m:List (κ×O2)),(l.map ky).Nodup->(∀p∈l,xd m (ky p)=none)->xd (yu ky vl l m) k=match l.find? (λp=>decide (ky p=k))with
  | some p=>some (vl p)
  | none=>xd m k
 | [],m,_,_=>rfl
 | p::l,m,I,J=>by
  obtain⟨H,O⟩:=M6.1 (show(ky p::l.map ky).Nodup from I);have ih:=jS (k:=k) l (xh m (ky p) (vl p)) O λq G=>by
   rw[Xx,OT λe=>H (by rw[e];exact LJ G)];exact J q (Lj _ G)
  have e0:yu ky vl (p::l) m=yu ky vl l (xh m (ky p) (vl p)):=rfl;rw[e0,ih,List.find?_cons];by_cases E:ky p=k
  ·have S:l.find? (λp=>decide (ky p=k))=none:=List.find?_eq_none.2 λq G=>by
    have:ky q≠k:=λe=>H (by rw[E,<-e];exact LJ G);simpa using this
   rw[S,Xx,OU E];simp[E]
  rw[Xx,OT E];simp[E]
end
theorem QhZ {κ:Type}[DecidableEq κ]{l:List κ}{s:κ}(h:s∉l):xh (l.map λs=>(s,Value.bool true)) s (.bool true)=(l++[s]).map λs=>(s,Value.bool true):=by
 induction l with
 | nil=>rfl
 | cons a l ih =>
  have E:a≠s:=λe=>h (by subst e;exact Lp);show(if a=s then(a,Value.bool true)::(l.map λs=>(s,Value.bool true))else(a,Value.bool true)::xh (l.map λs=>(s,Value.bool true)) s (.bool true))=_
  rw[OT E,ih (λG=>h (Lj _ G))];rfl
theorem Qh0 {κ:Type}[DecidableEq κ](l:List κ)(s:κ):xd (l.map λs=>(s,Value.bool true)) s=if s∈l then some (.bool true)else none:=by
 induction l with
 | nil=>rfl
 | cons a l ih =>
  show(if a=s then some (Value.bool true)else xd (l.map λs=>(s,Value.bool true)) s)=_
  rw[ih];by_cases h:a=s
  ·subst h;simp
  rw[OT h];have E:¬s=a:=λe=>h e.symm;simp[E]
section
variable {pS:String}{κ:Type}[DecidableEq κ]
theorem Qgf [hm:Mp P t kt et (.bool false)]{enc:κ->O2}[hk:Key P kt enc]{x:O3}{l:List κ}{s:κ}(h:Ym enc w.heap b (l.map λs=>(s,Value.bool true)))(hx:ev f x=.map (some b))(E:ev f y=enc s):
  (execOp (ev f) ⟨d,.lookup t x y false,ty,pS,af,gd⟩).run P w=.ok (.value (.bool (decide (s∈l)))) w:=by
 rw[JA h hx E,Qh0];by_cases G:s∈l <;> simp[G]
end
section
variable {pS:String}{κ:Type}[DecidableEq κ]
theorem QlH [hm:Mp P t kt et z]{enc:κ->O2}[hk:Key P kt enc]{x:O3}{m:List (κ×O2)}{k:κ}(h:Ym enc w.heap b m)(hx:ev f x=.map (some b))(E:ev f y=enc k)
  {v:O2} (G:(match xd m k with|some u=>Value.tuple #[u,.bool true]|none=>.tuple #[z,.bool false])=v):
  (execOp (ev f) ⟨d,.lookup t x y true,ty,pS,af,gd⟩).run P w=.ok (.value v) w:=by
 rw[<-G];exact K9 h hx E
end
instance keyKy:Key prog 75 kKy:=QoA underlying75 og og U U underlying3 underlying9
abbrev z15:LV:=[oF oG 0,.string .empty,oF oG 0,nS,oF oG 0,nS,nS,nS,nS,nS,nS,nS,nS,nS,nS]
abbrev Y6:LV:=[nS,nS,nS]
abbrev paV (q:zj):O2:=.agg (ZR q).toArray
theorem zB {k:Int}:∀{l:LN}{i:Nat}{m:VW},m∈VN k i l->m.kd=k/\(i:Int)<=m.ix/\m.ix<((i+l.length:Nat):Int)
 | [],_,_,h=>by simp[VN]at h
 | b::l,i,m,h=>by
  rw[VN]at h;rcases Li.1 h with rfl|h
  ·exact⟨U,NM _,by simp only[oW];omega⟩
  obtain⟨E,G,H⟩:=zB h;exact⟨E,oa,by simp only[oW];omega⟩
theorem QlY {m:VW}(h:m∈O9 c):0<=m.ix/\(m.kd=1\/m.kd=2\/m.kd=3)/\(m.kd=1->m.ix<(c.rq.length:Int))/\(m.kd=2->m.ix<(c.ex.length:Int))/\(m.kd=3->m.ix<(c.cs.length:Int)):=by
 have e1:(srR c).length=c.rq.length:=Lh _;have e2:(srX c).length=c.ex.length:=Lh _;have I:(srC c).length=c.cs.length:=Lh _;unfold O9 at h;rcases Lc.1 h with h|h
 ·obtain⟨E,G,H⟩:=zB h;exact⟨oa,.inl E,λ_=>oa,λh=>oa,λh=>oa⟩
 rcases Lc.1 h with h|h
 ·obtain⟨E,G,H⟩:=zB h;exact⟨oa,.inr (.inl E),λh=>oa,λ_=>oa,λh=>oa⟩
 obtain⟨E,G,H⟩:=zB h;exact⟨oa,.inr (.inr E),λh=>oa,λh=>oa,λ_=>oa⟩
theorem Qiv {ps:List zj}(G:(ps.map (·.e.ky)).Nodup)(H:∀q∈ps,Zm (ZR q))(k:Ky):∃(us:LV) (is:Bool),(match xd (yu (λq:zj=>q.e.ky) paV ps []) k with|some u=>Value.tuple #[u,.bool true]|none=>.tuple #[.agg z15.toArray,.bool false])=.tuple #[.agg us.toArray,.bool is]/\us.length=15/\Zm us /\
  (is=true->∃q∈ps,us=ZR q/\q8 (ps.map (·.pt)) k=some q.pt)/\(is=false->q8 (ps.map (·.pt)) k=none):=by
 rw[jS (λq:zj=>q.e.ky) paV ps [] G (λ_ _=>rfl)];have I:q8 (ps.map (·.pt)) k=(ps.find? λq=>decide (q.e.ky=k)).map (·.pt):=by
  unfold q8;rw[List.find?_map];rfl
 rw[I];cases J:ps.find? λq=>decide (q.e.ky=k)with
 | none=>exact⟨z15,false,U,U,⟨U,U,U,U,U,U,U,U,U,U,U,U,U,U,U,Z⟩,(λh=>by cases h),λ_=>rfl⟩
 | some q =>
  have E:=List.mem_of_find?_eq_some J;exact⟨ZR q,true,U,U,H q E,λ_=>⟨q,E,U,U⟩,(λh=>by cases h)⟩
theorem Qg4 {v:Int}{m:VW}{p:xK}(E:yq c m=0)(h:q8 bf (ZN c m)=some p):Kh c bf v m=if p.c=XJ c m then(0,p,true)else(Yy (XJ c m),Ux c v m,false):=by
 unfold Kh;rw[OT (not_not_intro E),h]
theorem Qnb {v:Int}{m:VW}(E:yq c m=0)(h:q8 bf (ZN c m)=none):Kh c bf v m=(Yy (XJ c m),Ux c v m,false):=by
 unfold Kh;rw[OT (not_not_intro E),h]
theorem Qnc {v:Int}{m:VW}(E:yq c m≠0):(Kh c bf v m).1=yq c m:=by
 unfold Kh;rw[OU E]
structure BlS where
 k:Nat
 vo:O2
 qs:List zj
 vk:O2
 K:List Ky
 vm:O2
 M:List Ky
structure BlI (LL:LN)(B:Nat)(w':O1)(b15 b50:Nat)(ks:List Ky)(z:BlS):Prop where
 b:∃T,Q7 w'.heap b15 T [z.vk,z.vm,nS]
 n:Ym kKy w'.heap b50 (ks.map λs=>(s,Value.bool true))
 o:qJ ZR 15 149 qV (ob z.vk++(ob z.vm++LL)) B w' z.vo z.qs
 k:w'.ownsRow B 75 2 z.vk z.K.length (z.K.flatMap KI)
 m:w'.ownsRow B 75 2 z.vm z.M.length (z.M.flatMap KI)
 d1:∀b∈ob z.vo,b∉ob z.vk/\b∉ob z.vm
 d2:∀b∈ob z.vk,b∉ob z.vm
section
variable {LL:LN}{w8 w9:O1}{b15 b50:Nat}{ks ks':List Ky}{z:BlS}
theorem BlI.I (h:BlI LL B w b15 b50 ks z)(E:O5 [] w w8):BlI LL B w8 b15 b50 ks z:=by
 obtain⟨T,G⟩:=h.b;exact⟨⟨T,G.I E⟩,h.n.I E,h.o.I E,Qn h.k E,Qn h.m E,h.d1,h.d2⟩
theorem BlI.now (h:BlI LL B w b15 b50 ks z)(H:O5 [b50] w w8)(I:Ym kKy w8.heap b50 (ks'.map λs=>(s,Value.bool true)))(J:b15≠b50)(hB:b50<B)(O:b50∈LL):BlI LL B w8 b15 b50 ks' z:=by
 obtain⟨T,S⟩:=h.b;have g1:=Qi h.o.own;have V:=Qi h.k;have Y:=Qi h.m;refine⟨⟨T,S.J H (oz J)⟩,I,h.o.J H λb E=>?_,Qf h.k H λb E G=>?_,Qf h.m H λb E G=>?_,h.d1,h.d2⟩
 ·rw[Lb.1 E];exact⟨.inl (Lc.2 (.inr (Lc.2 (.inr O)))),λG=>ou (g1 _ G)⟩
 ·rw[Lb.1 G]at E;have:=V _ E;omega
 rw[Lb.1 G]at E;have:=Y _ E;omega
theorem BlI.part (h:BlI LL B w b15 b50 ks z){I:O2}{q:zj}(S:qV (ob z.vo++(ob z.vk++(ob z.vm++LL))) w.heap q)(V:w8.ownsRow B 149 15 I (z.qs.length+1) (z.qs.flatMap ZR++ZR q))(G:O5 (ob z.vo) w w8)
  (J:∀b∈ob I,b∈ob z.vo\/w.heap.size<=b) (ha:b15<B) (hc:b50<B):BlI LL B w8 b15 b50 ks { z with vo:=I,qs:=z.qs++[q] }:=by
 obtain⟨T,Y⟩:=h.b;have ge:=Qi h.o.own;have gk:=Qi h.k;have gm:=Qi h.m;refine⟨⟨T,Y.J G (λE=>ou (ge _ E))⟩,h.n.J G (λE=>ou (ge _ E)),h.o.app S V G J,Qf h.k G (λb H E=>(h.d1 b E).1 H),Qf h.m G (λb H E=>(h.d1 b E).2 H),λb H=>?_,h.d2⟩;rcases J b H with O|O
 ·exact h.d1 b O
 exact⟨λE=>ou (gk b E),λE=>ou (gm b E)⟩
theorem BlI.kept (h:BlI LL B w b15 b50 ks z){H:O2}{k:Ky}(Y:w8.ownsRow B 75 2 H (z.K.length+1) (z.K.flatMap KI++KI k))(S:O5 (ob z.vk) w w8)
  (hn:∀b∈ob H,b∈ob z.vk\/w.heap.size<=b) (J:O5 [b15] w8 w9) (ha:∃T,Q7 w9.heap b15 T [H,z.vm,nS]) (hf:b15<B) (hg:b50<B) (hc:b15≠b50) (hL:b15∈LL):BlI LL B w9 b15 b50 ks { z with vk:=H,K:=z.K++[k] }:=by
 have ge:=Qi h.o.own;have gk:=Qi h.k;have gm:=Qi h.m;have g8:=Qi Y;have hd:∀b∈ob H,b∉ob z.vo/\b∉ob z.vm:=λb E=>by
  rcases hn b E with O|O
  ·exact⟨λI=>(h.d1 b I).1 O,h.d2 b O⟩
  exact⟨λI=>ou (ge b I),λI=>ou (gm b I)⟩
 have he:w8.ownsRow B 75 2 H (z.K++[k]).length ((z.K++[k]).flatMap KI):=by
  rw[Lk,LA];simpa using Y
 refine⟨ha,(h.n.J S (λG=>ou (gk _ G))).J J (by simpa using λe=>hc e.symm),⟨?_,λq hq=>?_⟩,Qf he J (λb E G=>?_),Qf (Qf h.m S (λb E G=>h.d2 b G E)) J (λb E G=>?_),λb E=>⟨λG=>(hd b G).1 E,(h.d1 b E).2⟩,λb E=>(hd b E).2⟩
 ·exact Qf (Qf h.o.own S (λb E G=>(h.d1 b E).1 G)) J (λb E G=>by rw[Lb.1 G]at E;have:=ge _ E;omega)
 ·have O:qV (ob H++(ob z.vo++(ob z.vk++(ob z.vm++LL)))) w.heap q:=Mm.up (h.o.each q hq) λb E=>by
   rcases Lc.1 E with E|E
   ·exact(hn b E).imp (λV=>Lc.2 (.inr (Lc.2 (.inl V)))) id
   exact .inl E
  have I:=Mm.st O (S.mono λb E=>Lc.2 (.inr (Lc.2 (.inr (Lc.2 (.inl E))))));have V:=Mm.st I (J.mono λb E=>by rw[Lb.1 E];exact Lc.2 (.inr (Lc.2 (.inr (Lc.2 (.inr (Lc.2 (.inr hL))))))));refine Mm.mono V λb E=>?_;rcases Lc.1 E with E|E
  ·exact Lc.2 (.inr (Lc.2 (.inl E)))
  rcases Lc.1 E with E|E
  ·exact Lc.2 (.inl E)
  exact Lc.2 (.inr (Lc.2 (.inr (Lc.2 (.inr E)))))
 ·rw[Lb.1 G]at E;have:=g8 _ E;omega
 rw[Lb.1 G]at E;have:=gm _ E;omega
theorem BlI.mades (h:BlI LL B w b15 b50 ks z){I:O2}{k:Ky}(Y:w8.ownsRow B 75 2 I (z.M.length+1) (z.M.flatMap KI++KI k))(S:O5 (ob z.vm) w w8)
  (hn:∀b∈ob I,b∈ob z.vm\/w.heap.size<=b) (J:O5 [b15] w8 w9) (ha:∃T,Q7 w9.heap b15 T [z.vk,I,nS]) (hf:b15<B) (hg:b50<B) (hc:b15≠b50) (hL:b15∈LL):BlI LL B w9 b15 b50 ks { z with vm:=I,M:=z.M++[k] }:=by
 have ge:=Qi h.o.own;have gk:=Qi h.k;have gm:=Qi h.m;have g8:=Qi Y;have hd:∀b∈ob I,b∉ob z.vo/\b∉ob z.vk:=λb E=>by
  rcases hn b E with O|O
  ·exact⟨λH=>(h.d1 b H).2 O,λH=>h.d2 b H O⟩
  exact⟨λH=>ou (ge b H),λH=>ou (gk b H)⟩
 have he:w8.ownsRow B 75 2 I (z.M++[k]).length ((z.M++[k]).flatMap KI):=by
  rw[Lk,LA];simpa using Y
 refine⟨ha,(h.n.J S (λG=>ou (gm _ G))).J J (by simpa using λe=>hc e.symm),⟨?_,λq hq=>?_⟩,Qf (Qf h.k S (λb E G=>h.d2 b E G)) J (λb E G=>?_),Qf he J (λb E G=>?_),λb E=>⟨(h.d1 b E).1,λG=>(hd b G).1 E⟩,λb E G=>(hd b G).2 E⟩
 ·exact Qf (Qf h.o.own S (λb E G=>(h.d1 b E).2 G)) J (λb E G=>by rw[Lb.1 G]at E;have:=ge _ E;omega)
 ·have O:qV (ob I++(ob z.vo++(ob z.vk++(ob z.vm++LL)))) w.heap q:=Mm.up (h.o.each q hq) λb E=>by
   rcases Lc.1 E with E|E
   ·exact(hn b E).imp (λV=>Lc.2 (.inr (Lc.2 (.inr (Lc.2 (.inl V)))))) id
   exact .inl E
  have H:=Mm.st O (S.mono λb E=>Lc.2 (.inr (Lc.2 (.inr (Lc.2 (.inr (Lc.2 (.inl E))))))));have V:=Mm.st H (J.mono λb E=>by rw[Lb.1 E];exact Lc.2 (.inr (Lc.2 (.inr (Lc.2 (.inr (Lc.2 (.inr hL))))))));refine Mm.mono V λb E=>?_;rcases Lc.1 E with E|E
  ·exact Lc.2 (.inr (Lc.2 (.inl E)))
  rcases Lc.1 E with E|E
  ·exact Lc.2 (.inr (Lc.2 (.inr (Lc.2 (.inl E)))))
  rcases Lc.1 E with E|E
  ·exact Lc.2 (.inl E)
  exact Lc.2 (.inr (Lc.2 (.inr (Lc.2 (.inr (Lc.2 (.inr E)))))))
 ·rw[Lb.1 G]at E;have:=gk _ E;omega
 rw[Lb.1 G]at E;have:=g8 _ E;omega
end
theorem Qgg (h0:Jg L w.heap q):
  Q6 prog 148 [.agg (Qy q).toArray] w λr w'=>r=.bool (yf q.it)/\O5 [] w w':=by
 have h:=h0.up (L':=[]) oe;have hm:=h.a.al.le;have hn:=h.a.mr.le;have ho:=h.a.ed.le;have hp:=h.ls.arr.le;have hq:=h.ts.arr.le;have S:Qan q.p.a=(decide (q.p.a.st=0) && decide ((q.p.a.al.length:Int)+(q.p.a.mr.length:Int)+(q.p.a.ed.length:Int)=0)):=rfl;have E:yf q.it=if q.kd=3 then Qan q.p.a && decide ((q.ts.length:Int)=0) && decide (q.bd=0)else if q.kd=4 then Qan q.p.a && decide ((q.ls.length:Int)=0)else decide ((q.ls.length:Int)+(q.ts.length:Int)=0) && decide (q.bd=0):=rfl
 refine Zj (Qan q.p.a) λB hB=>?_;rw[hB]at S E;refine Zo func148 ?_;refine Qc<|Qe<|QV (us:=Qy q) U λb1 w1 hh hr hf=>Qb<|Qc<|Zc U<|x (Zv (us:=[q.p.va,oF oG q.p.a.st,q.p.vm,q.p.ve]) hf U U U)<|Qe<|Qo (us:=KW) U λb3 w2 hi hj hk=>Qe<|Qj (us:=[q.p.va,oF oG q.p.a.st,q.p.vm,q.p.ve]) hk U U U U ⟨h.a.al.one,U,h.a.mr.one,h.a.ed.one,Z⟩ λw3 hl I=>xe ?_;have hg:O5 [] w1 w3:=hi.O hl hj;have J:=hh.D hg;have G:=hf.I hg;have H:=h.I J;refine Q3 (α:=Unit) [(4,4),(7,23)] (λ_=>[(4,.bool B)]) (λ_ w'=>w'=w3) ol ?_ ?_
 ·refine Qv<|Qs U I U U<|xb (Q2 U U) (λT=>?_) (λT=>?_)
  ·refine Qa<|Qs U I U U<|QL H.a.al U<|Qs U I U U<|x (YX H.a.mr U) <|
    QP rfl rfl<|Qs U I U U<|QL H.a.ed U<|x (XH U U ⟨oa,oa⟩) <|
    x (Q2 rfl U)<|QJ U<|Qb<|⟨(),⟨OV Value.bool (by rw[S,OX (show q.p.a.st=0 from T),OO]),Z⟩,rfl⟩
  refine Qa<|Qr<|Qr<|Qr<|Qr<|Qr<|Qr<|Qr<|Qr<|Qr<|Qr<|Qr<|Qr<|QJ U<|Qb<|⟨(),⟨OV Value.bool (by rw[S,OZ (show ¬q.p.a.st=0 from T),Bool.false_and]),Z⟩,rfl⟩
 rintro _ g V rfl;refine Qd<|Qc<|Qs U G U U<|xe<|Qg<|Qc<|x (Q2 U U)<|Qb<|QZ U (λY=>?_) (λY=>?_)
 ·rw[OU Y]at E;refine Q3 (α:=Unit) [(2,2),(28,39)] (λ_=>[(2,.bool (yf q.it))]) (λ_ w'=>w'=V) ol ?_ ?_
  ·refine Qv<|xB KA (λO=>?_) (λO=>?_)
   ·refine Qa<|Qs U G U U<|QL H.ts.arr U<|xb (Q2 U U) (λha=>?_) (λha=>?_)
    ·refine QJ U<|Qa<|Qs U G U U<|x (Q2 U U)<|QJ U<|Qb<|⟨(),⟨OV Value.bool (by rw[E,O,OX (show(q.ts.length:Int)=0 from ha)];rfl),Z⟩,U⟩
    refine QJ U<|Qa<|Qr<|Qr<|Qr<|QJ U<|Qb<|⟨(),⟨OV Value.bool (by rw[E,O,OZ (show ¬(q.ts.length:Int)=0 from ha)];rfl),Z⟩,U⟩
   refine Qa<|Qr<|Qr<|Qr<|Qr<|QJ U<|Qa<|Qr<|Qr<|Qr<|QJ U<|Qb<|⟨(),⟨OV Value.bool (by rw[E,O];rfl),Z⟩,U⟩
  rintro _ g w5 rfl;exact Qk ⟨[_],La,U,J⟩
 rw[OT Y]at E;refine Qc<|x (Q2 U U)<|Qb<|QZ U (λhb=>?_) (λhb=>?_)
 ·rw[OU hb]at E;refine Q3 (α:=Unit) [(2,2),(42,48)] (λ_=>[(2,.bool (yf q.it))]) (λ_ w'=>w'=V) ol ?_ ?_
  ·refine Qv<|xB KA (λhc=>?_) (λhc=>?_)
   ·refine Qa<|Qs U G U U<|QL H.ls.arr U<|x (Q2 U U)<|QJ U<|Qb<|⟨(),⟨OV Value.bool (by rw[E,hc,OO]),Z⟩,rfl⟩
   refine Qa<|Qr<|Qr<|Qr<|Qr<|QJ U<|Qb<|⟨(),⟨OV Value.bool (by rw[E,hc];rfl),Z⟩,U⟩
  rintro _ g w5 rfl;exact Qk ⟨[_],La,U,J⟩
 rw[OT hb]at E;refine Qh<|Q3 (α:=Unit) [(2,2),(49,61)] (λ_=>[(2,.bool (yf q.it))]) (λ_ w'=>w'=V) ol ?_ ?_
 ·refine Qv<|Qs U G U U<|QL H.ls.arr U<|Qs U G U U<|QL H.ts.arr U<|QP U U<|xb (Q2 U U) (λhe=>?_) (λhe=>?_)
  ·refine Qa<|Qs U G U U<|x (Q2 U U)<|QJ U<|Qb<|⟨(),⟨OV Value.bool (by rw[E,OX (show(q.ls.length:Int)+(q.ts.length:Int)=0 from he),OO]),Z⟩,rfl⟩
  refine Qa<|Qr<|Qr<|Qr<|QJ U<|Qb<|⟨(),⟨OV Value.bool (by rw[E,OZ (show ¬(q.ls.length:Int)+(q.ts.length:Int)=0 from he),Bool.false_and]),Z⟩,rfl⟩
 rintro _ g w5 rfl;exact Qk ⟨[_],La,U,J⟩
theorem QeM {v:O2}(h:XW L w.heap v qs)(i:Int):
  Q6 prog 145 [v,oF oG i] w λr w'=>(match q9 (qs.map (·.it)) i with
   | none=>r=.tuple #[.string .empty,oF oG 2]
   | some n=>r=.tuple #[.string n,oF oG 0]/\Kl n)/\O5 [] w w':=by
 have E:q9 (qs.map (·.it)) i=if i<0\/(qs.length:Int)<=i then none else some ((qs.map IV.it).getD i.toNat ⟨.empty,V9⟩).nm:=by unfold q9;rw[Lh]
 refine Zo func145 ?_;refine Qc<|x Ql<|Qb<|Qd<|Q3 (α:=Bool) [(6,13)] (λz=>[(13,.bool z)]) (λz w'=>w'=w/\(z=true↔(i<0\/(qs.length:Int)<=i))) ol ?_ ?_
 ·refine Qv<|Qa<|xb (YR U U) (λI=>?_) (λI=>?_)
  ·refine Qa<|Qr<|Qr<|Qr<|Qr<|QJ U<|xe ?_;exact⟨true,La,U,⟨λ_=>.inl I,λ_=>U⟩⟩
  refine Qa<|Qa<|Qa<|QL h.arr U<|x (Yw U U)<|QJ U<|xe ?_;exact⟨_,La,U,⟨λe=>.inr (OY e),λe=>OX (e.resolve_left I)⟩⟩
 rintro z g w1 ⟨rfl,J⟩;refine QX rfl (λH=>?_) (λH=>?_)
 ·rw[OU (J.1 H)]at E;refine Qc<|x Ql<|Qb<|Qk ⟨[_,_],oA,by rw[E];rfl,O5.Z _ _⟩
 have V:¬(i<0\/(qs.length:Int)<=i):=λe=>by rw[J.2 e]at H;cases H
 rw[OT V]at E;refine Qh<|exN (a:=i) oa λj O=>?_;have G:j<qs.length:=oa
 have Y:((qs.map IV.it).getD i.toNat ⟨.empty,V9⟩).nm=(qs[j]'G).nm:=by
  rw[O];simp[oQ,G,IV.it]
 have S:=Ll G;rw[Y]at E;refine Qm<|Qa<|O8 (g:=QM) (i:=j) Yn h.arr U (show Go.Lg.ev _ _=_ from OV (Value.int .i64) O) G λha T=>?_;refine Zj (qs[j]'G) λq hq=>?_;rw[hq]at T E S;refine x (Zs U)<|x (QD (T.fld 0 (.string q.nm) U) U)<|x Ql<|Qb<|Qk ⟨[_,_],oA,by rw[E];exact⟨U,h.nm q S⟩,O5.Z _ _⟩
theorem Qcz (co:List YV)(y:Int×Int)(l:xx):Vk co (y::l)=match q9 co y.1 with
  | none=>none
  | some n=>(Vk co l).map ((n,y.2)::·):=rfl
theorem Qcy {y:Int×Int}{l:xx}{o:List (ByteArray×Int)}{X:Option (List (ByteArray×Int))}(h:X=(Vk co (y::l)).map (o++·))(E:q9 co y.1=none):X=none:=by
 rw[h,Qcz,E];rfl
theorem Qcx {y:Int×Int}{l:xx}{o:List (ByteArray×Int)}{X:Option (List (ByteArray×Int))}(h:X=(Vk co (y::l)).map (o++·)){n:ByteArray}(E:q9 co y.1=some n):X=(Vk co l).map ((o++[(n,y.2)])++·):=by
 rw[h,Qcz,E];simp only[Option.map_map];congr 1;funext z;simp
abbrev Zz:O2:=nS
theorem QlN (o:Option α):o=none\/∃n,o=some n:=by cases o with
 | none=>exact .inl U
 | some n=>exact .inr ⟨n,U⟩
instance:Bw prog 63 z9 [(0,1),(1,1),(2,4),(6,1),(7,1),(8,1)]:=⟨od,og⟩
theorem Qjz {v:O2}{q:XV}(h0:XW L w.heap v qs)(hI:js L w.heap q.v q.ls)(hJ:Kl q.nm)(gy:q.ls.length<=100000):
  Q6 prog 78 [v,.agg (Q5 q).toArray] w λr w'=>O5 [] w w'/\(match Vk (qs.map (·.it)) q.ls with
   | none=>r=.tuple #[.agg z9.toArray,oF oG 2]
   | some l=>∃d:DV,r=.tuple #[.agg (Qy d).toArray,oF oG 0]/\d.it=⟨3,q.nm,V9,l,[],0⟩/\∀L:LN,(∀b∈L,b<w.heap.size)->Jg L w'.heap d):=by
 have h:=h0.up (L':=[]) oe;have hl:=hI.up (L':=[]) oe;refine Zj (Vk (qs.map (·.it)) q.ls) λR hR=>?_;rw[hR];have hK:R=(Vk (qs.map (·.it)) q.ls).map (([]:List (ByteArray×Int))++·):=by rw[hR];cases R <;> rfl
 refine Zo func78 ?_;refine Qc<|Qe<|QV (us:=Q5 q) U λb3 w1 hr gz hM=>Qe<|Qo (us:=z9) U λb4 w2 hs g0 ht=>Qb ?_;have hN:=hr.D hs;have hu:=hM.I hs;refine Qc<|Qs U hu U U<|x (Zn [(0,[oF oG 3]),(1,[.string q.nm])] ⟨U,U,U,U,Z⟩)<|Qe<|Qo (us:=z9) U λJ w3 hO hP hQ=>Qe<|Qj (us:=[oF oG 3,.string q.nm,Zz,oF oG 0,Zz,Zz,Zz,Zz,oF oG 0]) hQ U U U U ⟨U,U,U,U,U,U,U,U,U,Z⟩ λO hS hv=>xe ?_;have hg:O5 [] w2 O:=hO.O hS hP;have hw:=hN.D hg;have g2:=hr.size;have g3:=ht.lt;have g4:=hv.lt;have hT:=hu.I hg;have hU:=ht.I hg;refine Qd<|Qc<|Qs U hT U U<|QL (hl.I hw) U<|Qa<|xe<|Qg<|QC (α:=Nat×O2×List (ByteArray×Int)) [(5,5),(8,10),(17,41)] (λz=>[(17,oF oG z.1)]) (λz w'=>z.1<=q.ls.length/\O5 [J] O w'/\Q7 w'.heap J 63 [oF oG 3,.string q.nm,Zz,oF oG 0,Zz,Zz,z.2.1,Zz,oF oG 0]/\w'.ownsRow O.heap.size 143 2 z.2.1 z.2.2.length (z.2.2.flatMap Z7)/\z.2.2.length=z.1/\(∀p∈z.2.2,Kl p.1)/\R=(Vk (qs.map (·.it)) (q.ls.drop z.1)).map (z.2.2++·)) (λz=>q.ls.length - z.1) ol (0,Zz,[]) La
  ⟨Ln _,O5.Z _ _,hv,QI _ _ _ _,U,oe,hK⟩ ?_
 rintro⟨k,vl,l⟩ g w5 ⟨hk,V,hh,G,hz,hi,hE⟩;simp only[]at hk hh G hz hi hE;have Y:O5 [] w w5:=hw.O V oa;have g5:=V.size;have h3:=hU.J V om;have h5:=h.I Y;have hV:=hl.I Y;refine Qc<|QY U U<|xe<|Qd<|QH U (λhj=>?_) (λhj=>?_)
 ·refine Qz ?_;have hW:q.ls.length<=k:=by have hX:¬(k:Int)<(q.ls.length:Int):=hj;omega
  rw[Lr hW]at hE;have hY:R=some l:=by rw[hE];simp[Vk]
  refine Qc<|Q9 hh U U<|Qe<|Qj (us:=[oF oG 3,.string q.nm,Zz,oF oG 0,Zz,Zz,vl,Zz,oF oG 0]) h3 U U U U ⟨U,U,U,U,U,U,Qt G,U,U,Z⟩ λw6 h4 hZ=>Qb<|Qk ⟨[.agg (Qy ⟨3,q.nm,⟨Zz,Zz,Zz,V9⟩,vl,l,Zz,[],0⟩).toArray,oF oG 0],⟨⟨_,U,Qp U (hZ.at (L:=[]) oe).cells⟩,rfl,Z⟩,Y.O h4 oa,?_⟩;rw[hY];refine⟨⟨3,q.nm,⟨Zz,Zz,Zz,V9⟩,vl,l,Zz,[],0⟩,U,U,λL hL=>?_⟩;have ga:Zp (b4::L) w5.heap vl l.length 2 (l.flatMap Z7):=QK G oa (λb E hbL=>by
   have:=(Qi G b E).1;simp only[oL]at hbL;rcases hbL with rfl|hbL
   ·omega
   have:=hL b hbL;omega)
  have gb:qU L w6.heap vl l:=⟨(ga.st (h4.mono oe)).up (λb E=>.inl (by simp[E])),hi⟩;exact⟨hJ,⟨Zp.nil _ _ _,Zp.nil _ _ _,Zp.nil _ _ _⟩,gb,qU.nil⟩
 have S:k<q.ls.length:=by have hX:(k:Int)<(q.ls.length:Int):=hj;omega
 have h6:q.ls.drop k=q.ls[k]'S::q.ls.drop (k+1):=LF S;refine Qh<|Qd<|Qg<|Qc<|O8 (g:=QG) (i:=k) YD hV U U S λg6 h7=>?_;refine Zj (q.ls[k]'S) λy hy=>?_;rw[hy]at h7 h6;rw[h6]at hE;refine x (Qw h7 U U)<|Qe<|Qo (us:=[oF oG 0,oF oG 0]) U λb8 w7 gc gg gh=>Qe<|Qj (us:=QG y) gh U U U U oA λw8 gi h8=>xe ?_;have h9:O5 [] w5 w8:=gc.O gi gg;refine Qm<|Qs U h8 U U<|QN<|(QeM (h5.I h9) y.1).mono ?_;rintro r9 w9 ⟨ha,hA⟩;have he:=h9.D hA;have gj:=h8.I hA;refine Or.elim (QlN (q9 (qs.map (·.it)) y.1)) (λH=>?_) (λH=>?_)
 ·have gk:=Qcy hE H;rw[H]at ha;have hf:r9=.tuple #[.string .empty,oF oG 2]:=ha;subst hf;refine Qa<|Zd U U<|Zd U U<|x Ql<|Qb<|Qd<|Qm<|ZD U U<|xe<|QZ U (λT=>?_) (λT=>OW (show(2:Int)≠0 by decide) T);refine Qc<|x (Zn [] Z)<|Qa<|Qe<|Qj (us:=z9) (h3.I he) U U U U ⟨U,U,U,U,U,U,U,U,U,Z⟩ λg7 gl gm=>Qb<|Qk ⟨[.agg z9.toArray,oF oG 2],⟨⟨_,U,Qp U (gm.at (L:=[]) oe).cells⟩,rfl,Z⟩,(Y.D he).O gl oa,?_⟩;rw[gk];rfl
 refine Exists.elim H λn H=>?_;have gn:=Qcx hE H;rw[H]at ha;have hf:r9=.tuple #[.string n,oF oG 0]/\Kl n:=ha;have go:=hf.1;subst go;refine Qa<|Zd U U<|Zd U U<|x Ql<|Qb<|Qd<|Qm<|ZD U U<|xe<|QZ rfl (λT=>OW U T) (λT=>?_);refine Qh ?_;have hB:=hh.I he;refine Qv<|Qs U hB U U<|Qa<|Qs U gj U U<|x (Qx ⟨U,U,Z⟩)<|Qe<|QA (us:=[Z7 (n,y.2)]) U U og (show 1*2<=1000000 by decide) oA λg8 g9 hC ka gp=>?_;have ho:=he.D hC;have kb:=ho.size;have gq:=Qn G ho;refine Qe<|Q8 (m:=1) (news:=Z7 (n,y.2)) gq U U U (by have:=gp.at (L:=[]) oe;simpa using this) (by simp[Value.oneCell']) oa oa λhq gr hD hF gs=>?_;have hG:J∉ob vl:=λhm=>ou (Qi G J hm).1
 have gt:=(hB.I hC).J hF hG;refine Zc rfl<|Qe<|QB (j:=6) (u:=hq) gt U U oe (Qt hD) λgu hH gv=>xe ?_;have gw:O5 [J] O gr:=(V.then ho oe).then hF λb E=>.inr (Qi G b E).1;have gx:gu.ownsRow O.heap.size 143 2 hq (l++[(n,y.2)]).length ((l++[(n,y.2)]).flatMap Z7):=by
  have h1:=Qf hD hH (λb E hc=>by
   simp only[oI]at hc;subst hc;rcases gs b E with h2|h2
   ·exact hG h2
   omega)
  rw[Lk,LA];simpa using h1
 refine Qv<|QP U U<|Qa<|xe<|⟨(k+1,hq,l++[(n,y.2)]),by show q.ls.length - (k+1)<q.ls.length - k;omega,La,S,gw.then hH (λb E=>.inl E),gv,gx,by simp[hz],λp I=>?_,gn⟩;rcases Lc.1 I with I|I
 ·exact hi p I
 simp only[oI]at I;subst I;exact hf.2
theorem QjW {v:O2}{q:KV}(h0:XW L w.heap v qs)(hI:js L w.heap q.v q.ts)(hJ:Kl q.nm)(gy:q.ts.length<=100000):
  Q6 prog 79 [v,.agg (Za q).toArray] w λr w'=>O5 [] w w'/\(match Vk (qs.map (·.it)) q.ts with
   | none=>r=.tuple #[.agg z9.toArray,oF oG 2]
   | some l=>∃d:DV,r=.tuple #[.agg (Qy d).toArray,oF oG 0]/\d.it=⟨4,q.nm,V9,[],l,q.bd⟩/\∀L:LN,(∀b∈L,b<w.heap.size)->Jg L w'.heap d):=by
 have h:=h0.up (L':=[]) oe;have hl:=hI.up (L':=[]) oe;refine Zj (Vk (qs.map (·.it)) q.ts) λR hR=>?_;rw[hR];have hK:R=(Vk (qs.map (·.it)) q.ts).map (([]:List (ByteArray×Int))++·):=by rw[hR];cases R <;> rfl
 refine Zo func79 ?_;refine Qc<|Qe<|QV (us:=Za q) U λb3 w1 hs gz hM=>Qe<|Qo (us:=z9) U λb4 w2 ht g0 hu=>Qb ?_;have hN:=hs.D ht;have hg:=hM.I ht;refine Qc<|Qs U hg U U<|Qs U hg U U<|x (Zn [(0,[oF oG 4]),(1,[.string q.nm]),(5,[oF oG q.bd])] ⟨U,U,U,U,U,U,Z⟩)<|Qe<|Qo (us:=z9) U λJ w3 hO hP hQ=>Qe<|Qj (us:=[oF oG 4,.string q.nm,Zz,oF oG 0,Zz,Zz,Zz,Zz,oF oG q.bd]) hQ U U U U ⟨U,U,U,U,U,U,U,U,U,Z⟩ λO hS hv=>xe ?_;have hh:O5 [] w2 O:=hO.O hS hP;have hw:=hN.D hh;have g2:=hs.size;have g3:=hu.lt;have g4:=hv.lt;have hT:=hg.I hh;have hU:=hu.I hh;refine Qd<|Qc<|Qs U hT U U<|QL (hl.I hw) U<|Qa<|xe<|Qg<|QC (α:=Nat×O2×List (ByteArray×Int)) [(5,5),(8,10),(19,43)] (λz=>[(19,oF oG z.1)]) (λz w'=>z.1<=q.ts.length/\O5 [J] O w'/\Q7 w'.heap J 63 [oF oG 4,.string q.nm,Zz,oF oG 0,Zz,Zz,Zz,z.2.1,oF oG q.bd]/\w'.ownsRow O.heap.size 145 2 z.2.1 z.2.2.length (z.2.2.flatMap Z7)/\z.2.2.length=z.1/\(∀p∈z.2.2,Kl p.1)/\R=(Vk (qs.map (·.it)) (q.ts.drop z.1)).map (z.2.2++·)) (λz=>q.ts.length - z.1) ol (0,Zz,[]) La
  ⟨Ln _,O5.Z _ _,hv,QI _ _ _ _,U,oe,hK⟩ ?_
 rintro⟨k,vl,l⟩ g w5 ⟨hk,V,hi,G,hz,hj,hE⟩;simp only[]at hk hi G hz hj hE;have Y:O5 [] w w5:=hw.O V oa;have g5:=V.size;have h3:=hU.J V om;have h5:=h.I Y;have hV:=hl.I Y;refine Qc<|QY U U<|xe<|Qd<|QH U (λho=>?_) (λho=>?_)
 ·refine Qz ?_;have hW:q.ts.length<=k:=by have hX:¬(k:Int)<(q.ts.length:Int):=ho;omega
  rw[Lr hW]at hE;have hY:R=some l:=by rw[hE];simp[Vk]
  refine Qc<|Q9 hi U U<|Qe<|Qj (us:=[oF oG 4,.string q.nm,Zz,oF oG 0,Zz,Zz,Zz,vl,oF oG q.bd]) h3 U U U U ⟨U,U,U,U,U,U,U,Qt G,U,Z⟩ λw6 h4 hZ=>Qb<|Qk ⟨[.agg (Qy ⟨4,q.nm,⟨Zz,Zz,Zz,V9⟩,Zz,[],vl,l,q.bd⟩).toArray,oF oG 0],⟨⟨_,U,Qp U (hZ.at (L:=[]) oe).cells⟩,rfl,Z⟩,Y.O h4 oa,?_⟩;rw[hY];refine⟨⟨4,q.nm,⟨Zz,Zz,Zz,V9⟩,Zz,[],vl,l,q.bd⟩,U,U,λL hL=>?_⟩;have ga:Zp (b4::L) w5.heap vl l.length 2 (l.flatMap Z7):=QK G oa (λb E hbL=>by
   have:=(Qi G b E).1;simp only[oL]at hbL;rcases hbL with rfl|hbL
   ·omega
   have:=hL b hbL;omega)
  have gb:qU L w6.heap vl l:=⟨(ga.st (h4.mono oe)).up (λb E=>.inl (by simp[E])),hj⟩;exact⟨hJ,⟨Zp.nil _ _ _,Zp.nil _ _ _,Zp.nil _ _ _⟩,qU.nil,gb⟩
 have S:k<q.ts.length:=by have hX:(k:Int)<(q.ts.length:Int):=ho;omega
 have h6:q.ts.drop k=q.ts[k]'S::q.ts.drop (k+1):=LF S;refine Qh<|Qd<|Qg<|Qc<|O8 (g:=QG) (i:=k) YD hV U U S λg6 h7=>?_;refine Zj (q.ts[k]'S) λy hy=>?_;rw[hy]at h7 h6;rw[h6]at hE;refine x (Qw h7 U U)<|Qe<|Qo (us:=[oF oG 0,oF oG 0]) U λb8 w7 gc gg gh=>Qe<|Qj (us:=QG y) gh U U U U oA λw8 gi h8=>xe ?_;have h9:O5 [] w5 w8:=gc.O gi gg;refine Qm<|Qs U h8 U U<|QN<|(QeM (h5.I h9) y.1).mono ?_;rintro r9 w9 ⟨ha,hA⟩;have he:=h9.D hA;have gj:=h8.I hA;refine Or.elim (QlN (q9 (qs.map (·.it)) y.1)) (λH=>?_) (λH=>?_)
 ·have gk:=Qcy hE H;rw[H]at ha;have hf:r9=.tuple #[.string .empty,oF oG 2]:=ha;subst hf;refine Qa<|Zd U U<|Zd U U<|x Ql<|Qb<|Qd<|Qm<|ZD U U<|xe<|QZ U (λT=>?_) (λT=>OW (show(2:Int)≠0 by decide) T);refine Qc<|x (Zn [] Z)<|Qa<|Qe<|Qj (us:=z9) (h3.I he) U U U U ⟨U,U,U,U,U,U,U,U,U,Z⟩ λg7 gl gm=>Qb<|Qk ⟨[.agg z9.toArray,oF oG 2],⟨⟨_,U,Qp U (gm.at (L:=[]) oe).cells⟩,rfl,Z⟩,(Y.D he).O gl oa,?_⟩;rw[gk];rfl
 refine Exists.elim H λn H=>?_;have gn:=Qcx hE H;rw[H]at ha;have hf:r9=.tuple #[.string n,oF oG 0]/\Kl n:=ha;have go:=hf.1;subst go;refine Qa<|Zd U U<|Zd U U<|x Ql<|Qb<|Qd<|Qm<|ZD U U<|xe<|QZ rfl (λT=>OW U T) (λT=>?_);refine Qh ?_;have hB:=hi.I he;refine Qv<|Qs U hB U U<|Qa<|Qs U gj U U<|x (Qx ⟨U,U,Z⟩)<|Qe<|QA (us:=[Z7 (n,y.2)]) U U og (show 1*2<=1000000 by decide) oA λg8 g9 hC ka gp=>?_;have hq:=he.D hC;have kb:=hq.size;have gq:=Qn G hq;refine Qe<|Q8 (m:=1) (news:=Z7 (n,y.2)) gq U U U (by have:=gp.at (L:=[]) oe;simpa using this) (by simp[Value.oneCell']) oa oa λhr gr hD hF gs=>?_;have hG:J∉ob vl:=λhm=>ou (Qi G J hm).1
 have gt:=(hB.I hC).J hF hG;refine Zc rfl<|Qe<|QB (j:=7) (u:=hr) gt U U oe (Qt hD) λgu hH gv=>xe ?_;have gw:O5 [J] O gr:=(V.then hq oe).then hF λb E=>.inr (Qi G b E).1;have gx:gu.ownsRow O.heap.size 145 2 hr (l++[(n,y.2)]).length ((l++[(n,y.2)]).flatMap Z7):=by
  have h1:=Qf hD hH (λb E hc=>by
   simp only[oI]at hc;subst hc;rcases gs b E with h2|h2
   ·exact hG h2
   omega)
  rw[Lk,LA];simpa using h1
 refine Qv<|QP U U<|Qa<|xe<|⟨(k+1,hr,l++[(n,y.2)]),by show q.ts.length - (k+1)<q.ts.length - k;omega,La,S,gw.then hH (λb E=>.inl E),gv,gx,by simp[hz],λp I=>?_,gn⟩;rcases Lc.1 I with I|I
 ·exact hj p I
 simp only[oI]at I;subst I;exact hf.2
instance:Bw prog 90 z10 [(0,2),(2,1),(3,4),(7,3)]:=⟨od,og⟩
instance:Bw prog 149 z15 [(0,10),(10,5)]:=⟨od,og⟩
theorem QbB {c:CL}(E:ZH L w.heap c)(G:Kb w 4096):
  Q6 prog 95 [c.val] w λr w'=>O5 [] w w'/\∃us c0 c1 c2 c3 sa st sm se o,r=.tuple #[.agg us.toArray,.agg #[c0,c1,c2,c3,sa,oF oG st,sm,se,o],oF oG (Yy c.V)]/\us.length=8/\Zm us/\Zm [c0,c1,c2,c3,sa,sm,se,o] /\
   (Yy c.V=0->st=(suA c.V).st/\∀L:LN,(∀b∈L,b<w.heap.size)->ZG L w'.heap sa sm se (suA c.V)/\ju L w'.heap c0 c1 c2 (spc c.V).a (fbs (spc c.V)) (unc c.V.ev)):=by
 refine(Qde E G).mono ?_;rintro r w' ⟨H,us,c0,c1,c2,c3,sa,sm,se,o,rfl,I,J,O,_,S⟩;exact⟨H,us,c0,c1,c2,c3,sa,_,sm,se,o,U,I,J,O,λh=>⟨OU h,S h⟩⟩
theorem Qgr {c:CL}{q:MV}(H:ZH L w.heap c)(I:QR L w.heap q.v q.co):
  Q6 prog 94 [c.val,.agg #[oF oG q.kd,oF oG q.ix,q.v]] w λr w'=>O5 [] w w'/\∃cm:CL,r=.tuple #[.agg cm.cells.toArray,oF oG (yq c.V q.m)]/\Zm cm.cells/\(yq c.V q.m=0->cm.V=XJ c.V q.m/\∀L:LN,(∀b∈L,b<w.heap.size)->ZH L w'.heap cm):=by
 refine(QiQ H I).mono ?_;rintro r w' ⟨J,us,rfl,V,G,O,S⟩;refine⟨J,?_⟩;by_cases E:yq c.V q.m=0
 ·obtain⟨cm,e1,e2,T⟩:=S E;have e:us=cm.cells:=by simpa using e1
  subst e;exact⟨cm,U,G,λ_=>⟨e2,T⟩⟩
 have e:=O E;subst e;exact⟨CL.mk Zz Zz Zz Zz Zz [] [] [] [] [],U,G,λh=>OW h E⟩
theorem Qkx (c:Zt)(bf:List xK)(v:Int)(m:VW)(l:List VW)(o:List xK)(k n:List Ky):blL c bf v (m::l) o k n=if(Kh c bf v m).1≠0 then((Kh c bf v m).1,[],[],[])else
  if(Kh c bf v m).2.2=true then blL c bf v l (o++[(Kh c bf v m).2.1]) (k++[ZN c m]) n else blL c bf v l (o++[(Kh c bf v m).2.1]) k (n++[ZN c m]):=rfl
theorem QcS {c:CL}{ps:List zj}{v:Int}(h0:ZH L w.heap c)(hp:Go.Lg.K1 ZR 15 qV L' w.heap vb ps)(ma:∀b∈L',b<w.heap.size)(hn:(ps.map (·.e.ky)).Nodup)(hpl:ps.length<=1000)(hkb:Kb w 4096):
  Q6 prog 45 [c.val,vb,oF oG v] w λr w'=>O5 [] w w'/\∃vp us,r=.tuple #[vp,.agg us.toArray,oF oG (JQ c.V (ps.map (·.pt)) v)]/\us.length=3/\Zm us/\(JQ c.V (ps.map (·.pt)) v≠0->vp=Zz/\us=Y6) /\
   (JQ c.V (ps.map (·.pt)) v=0->∃qs q,us=ZJ q/\qs.map (·.pt)=yY c.V (ps.map (·.pt)) v/\q.rp=YS c.V (ps.map (·.pt)) v/\(w'.ownsRow w.heap.size 149 15 vp qs.length (qs.flatMap ZR))/\Go.Lg.K1 ZR 15 qV L' w'.heap vp qs/\∀M:LN,(∀b∈M,b<w.heap.size)->VJ M w'.heap q):=by
 have h:=h0.up (L':=[]) oe;have hS:Go.Lg.K1 ZR 15 qV [] w.heap vb ps:=hp.up oe;have hpk:(ps.map (·.pt)).map (·.ky)=ps.map (·.e.ky):=by rw[Ms];rfl
 have mf:=Qiv hn (λq hq=>(hp.each q hq).ones);refine Zj (ps.map (·.pt)) λbf mg=>?_;rw[mg]at hpk mf ⊢;have ha:JQ c.V bf v=if Zi c.V≠0 then Zi c.V else(qD c.V bf v).1:=rfl
 have mh:yY c.V bf v=(qD c.V bf v).2.1:=rfl;have mj:YS c.V bf v=⟨(qD c.V bf v).2.2.1,(qD c.V bf v).2.2.2,(bf.filter λp=>decide (p.ky∉(O9 c.V).map (ZN c.V))).map (·.ky)⟩:=rfl;have hbR:blL c.V bf v (O9 c.V) [] [] []=qD c.V bf v:=rfl;refine Zj (JQ c.V bf v) λE hE=>?_;rw[hE]at ha ⊢;refine Zo func45 ?_;refine Qc<|Qe<|QV (us:=c.cells) U λb3 w1 mo hb3 g4=>x Ql<|Qe<|Qo (us:=Y6) U λb7 w2 gm hb7 g5=>Qb ?_;have mq:=mo.D gm;have hz1:=mo.size;have hz2:=gm.size;refine Qc<|Q9 (g4.I gm) U U<|QN<|(Qec (h.I mq)).mono ?_;rintro r3 w3 ⟨hT,vM,lM,rfl,hM,hMbad,hMgood⟩;have ms:=mq.D hT;have hz3:=hT.size;refine Qa<|Zd U U<|Zd U U<|x Ql<|Qb<|Qd<|Qm<|ZD U U<|xe<|QZ rfl (λhU=>?_) (λhU=>?_)
 ·rw[OU hU]at ha;refine Qc<|x (Qx Z)<|Qa<|x Ql<|Qe<|Qj (us:=Y6) (g5.I hT) U U U U oB λw4 hs4 hB74=>Qb<|Qk ⟨[Zz,.agg Y6.toArray,oF oG (Zi c.V)],⟨U,⟨_,U,Qp U (hB74.at (L:=[]) oe).cells⟩,rfl,Z⟩,ms.O hs4 oa,Zz,Y6,by rw[ha];rfl,U,oB,λ_=>⟨U,U⟩,λh0=>OW (ha.symm.D h0) hU⟩
 rw[OT hU]at ha;have g6:=Lo.1 hU;have hok:Qbl c.V:=(Yi g6).sr;have hV:=hMgood g6;have mt:=UD g6;have hMl:lM.length<=96:=by have:=yp hok;rw[<-hV,Lh]at this;exact this
 have mu:Zp [] w3.heap vM lM.length 3 (lM.flatMap Xr):=hM.arr oa oe;refine Qh<|Qc<|Qe<|YE kKy λg7 w5 mv hb37 mw=>Qb ?_;have my:=ms.D mv;have hp5:=Go.Lg.K1.I hS my;refine Qd<|Qm<|QL hp5.arr U<|Qa<|xe<|Qg<|QC (α:=Nat) [(13,13),(40,49)] (λz=>[(40,oF oG z)]) (λz w'=>z<=ps.length/\O5 [g7] w5 w'/\Ym kKy w'.heap g7 (yu (λq:zj=>q.e.ky) paV (ps.take z) [])) (λz=>ps.length - z) ol 0 La ⟨Ln _,O5.Z _ _,mw⟩ ?_;rintro k g w6 ⟨hk,gn,g8⟩;have mz:O5 [] w w6:=my.O gn oa;have hz6:=gn.size;refine Qc<|QY U U<|xe<|Qd<|QH U (λgo=>?_) (λgo=>?_)
 rotate_left
 ·have J:k<ps.length:=by have hW:(k:Int)<(ps.length:Int):=go;omega
  have hr:ps.take (k+1)=ps.take k++[ps[k]'J]:=Lm J;have m2:=Go.Lg.K1.I hS mz;have hs:=Ll J;refine Qh<|Qd<|Qg<|Qc<|O8 (g:=ZR) (i:=k) Qio m2.arr U U J λa42 m3=>?_;refine Zj (ps[k]'J) λq hq=>?_;rw[hq]at m3 hr hs;have g9:=m2.each q hs;refine x (Qw m3 U U)<|Qe<|Qo (us:=z15) U λb13 w7 ka hb13 hB13=>Qe<|Qj (us:=ZR q) hB13 U U U U g9.ones λV hY m4=>xe ?_;have hB:O5 [] w6 V:=ka.O hY hb13;refine Qv<|Qa<|Zc U<|Zc U<|x (Zv (us:=KI q.e.ky) m4 U U U)<|Q9 m4 U U<|Qe<|XI (k:=q.e.ky) (g8.I hB) U U λY ht hm9=>xe ?_;refine Qv<|QP U U<|Qa<|xe<|⟨k+1,oa,La,J,(gn.D hB).Q ht,?_⟩;have m5:Ym kKy Y.heap g7 (xh (yu (λq:zj=>q.e.ky) paV (ps.take k) []) q.e.ky (paV q)):=hm9;rw[hr];unfold yu at m5 ⊢;rw[MG];exact m5
 refine Qz ?_;have hZ:ps.length<=k:=by have hW:¬(k:Int)<(ps.length:Int):=go;omega
 rw[Lt hZ]at g8;clear hZ go hk;refine Qc<|Qb<|Qc<|Qe<|Qo (us:=Y6) U λI w7 ka hb15 m6=>xe ?_;refine Qc<|Qe<|YE kKy λO V hY hb50 m7=>Qb ?_;have hB:=ka.D hY;have m8:=mz.D hB;have hz8:=hY.size;have hB158:=m6.I hY;have hl15:=m6.lt;have hl50:=m7.lt;have hl37:=mw.lt;have hm378:=g8.I hB;have ga:O5 [] w3 V:=(mv.O gn oa).D hB;have hB38:=(g4.I (gm.D hT)).I ga;have hB78:=(g5.I hT).I ga;have hl3:=g4.lt;have hl7:=g5.lt;have hMA8:=mu.I ga;refine Qd<|Qm<|QL hMA8 U<|Qa<|xe<|Qg<|QC (α:=BlS) [(6,6),(8,8),(14,14),(18,25),(53,123)] (λz=>[(14,z.vo),(53,oF oG z.k)]) (λz w'=>z.k<=lM.length/\O5 [I,O] V w'/\BlI (b7::I::O::L') V.heap.size w' I O ((lM.take z.k).map λq=>ZN c.V q.m) z/\blL c.V bf v ((lM.drop z.k).map MV.m) (z.qs.map (·.pt)) z.K z.M=qD c.V bf v/\(z.qs.length=z.k/\z.K.length<=z.k/\z.M.length<=z.k))
  (λz=>lM.length - z.k) ol ⟨0,Zz,[],Zz,[],Zz,[]⟩ oA ⟨Ln _,O5.Z _ _,⟨⟨_,hB158⟩,m7,qJ.nil,QI _ _ _ _,QI _ _ _ _,λb H=>by simp[ob]at H,λb H=>by simp[ob]at H⟩,by rw[List.drop_zero,hV];exact hbR,U,Lx _,Lx _⟩ ?_
 rintro⟨k,vo,qs,vk,K,vm,M⟩ g Y ⟨hk,ht,S,hR,hql,hKl,hMl'⟩;simp only[]at hk S hR hql hKl hMl';have hX:∀b∈[I,O],w.heap.size<=b/\b<V.heap.size:=λb H=>by simp only[oL,oJ,or_false]at H;omega
 have kb:O5 [] w Y:=m8.then ht (λb H=>.inr (hX b H).1);have hz9:=ht.size;have m9:=hB38.J ht oq;have pa:=hB78.J ht oq;have hm379:=hm378.J ht oq;have hp9:=Go.Lg.K1.I hS kb;refine Qc<|QY U U<|xe<|Qd<|QH U (λkc=>?_) (λkc=>?_)
 ·refine Qz ?_;have hZ:lM.length<=k:=by have hW:¬(k:Int)<(lM.length:Int):=kc;omega
  have gp:=S;rw[Lt hZ]at gp;rw[Lr hZ]at hR;have hR0:qD c.V bf v=(0,qs.map (·.pt),K,M):=hR.symm;rw[hR0]at ha mh mj;have pc:E=0:=ha;have hks:(lM.map λq=>ZN c.V q.m)=(O9 c.V).map (ZN c.V):=by rw[<-hV,Ms];rfl
  rw[hks]at gp;obtain⟨T15,hB159⟩:=gp.b;have hm509:=gp.n;refine Qd<|Qm<|QL hp9.arr U<|Qa<|xe<|Qg<|QC (α:=Nat×O2×List Ky) [(27,27),(126,144)] (λz=>[(126,oF oG z.1)]) (λz w'=>z.1<=ps.length/\O5 [I] Y w'/\Q7 w'.heap I T15 [vk,vm,z.2.1]/\w'.ownsRow Y.heap.size 75 2 z.2.1 z.2.2.length (z.2.2.flatMap KI)/\z.2.2=((ps.take z.1).filter λp=>decide (p.e.ky∉(O9 c.V).map (ZN c.V))).map (·.e.ky))
   (λz=>ps.length - z.1) ol (0,Zz,[]) La ⟨Ln _,O5.Z _ _,hB159,QI _ _ _ _,U⟩ ?_
  rintro⟨i,vg,G⟩ g gb ⟨hi,hf,ke,h6,hG⟩;simp only[]at hi ke h6 hG;have pd:O5 [] w gb:=kb.O hf oa;have hz10:=hf.size;have hB710:=pa.J hf om;have hm5010:=hm509.J hf om;have hGl:G.length<=1000:=by
   rw[hG,Lh];refine LP (Ml _ _) ?_;rw[Ly];omega
  refine Qc<|QY U U<|xe<|Qd<|QH U (λkf=>?_) (λkf=>?_)
  ·refine Qz ?_;have hie:ps.length<=i:=by have hW:¬(i:Int)<(ps.length:Int):=kf;omega
   rw[Lt hie]at hG;have pf:Zm [vk,vm,vg]:=⟨Qt S.k,Qt S.m,Qt h6,Z⟩;refine Qd<|ZF [] (Xi 0 5 [3])<|p QF<|pq (λ_ hc=>Z1 (ke.I hc) U U)<|p ZI<|pkl (hl:=by kernel_rfl)<|Qj (us:=[vk,vm,vg]) (hB710.I (O5.C _ _)) U U U U pf λgq kg hB711 =>
    p ZI<|pe ?_
   have hD:O5 [b7] gb gq:=(O5.C [] gb).any.Q kg;have n7:∀b,V.heap.size<=b->b∉[b7]:=λb H T=>by rw[Lb.1 T]at H;omega
   have kh:∀b,V.heap.size<=b->b∉[I]:=λb H T=>by rw[Lb.1 T]at H;omega
   have pg:=Qf (Qf S.k hf (λb H=>kh b (Qi S.k b H).1)) hD (λb H=>n7 b (Qi S.k b H).1);have ph:=Qf (Qf S.m hf (λb H=>kh b (Qi S.m b H).1)) hD (λb H=>n7 b (Qi S.m b H).1);have pj:=Qf h6 hD (λb H=>n7 b (ou (Qi h6 b H).1));have ki:=Qf (Qf S.o.own hf (λb H=>kh b (Qi S.o.own b H).1)) hD (λb H=>n7 b (Qi S.o.own b H).1);have kj:O5 [] w gq:=pd.O hD oa;refine Qk ⟨[vo,.agg #[vk,vm,vg],oF oG 0],⟨U,⟨_,U,Qp U (hB711.at (L:=[]) oe).cells⟩,rfl,Z⟩,kj,vo,[vk,vm,vg],by rw[pc];rfl,U,pf,λh0=>OW pc h0,λ_=>⟨qs,⟨vk,K,vm,M,vg,G⟩,U,mh.symm,?_,Zu ki oa,⟨QK ki oa (λb H hbL=>ov (Qi ki b H).1 (ma b hbL)),λq hq=>?_⟩,λN hN=>⟨QK pg (show K.length<=1099511627776 by omega) (λb H hbL=>ov (Qi pg b H).1 (hN b hbL)),QK ph (show M.length<=1099511627776 by omega) (λb H hbL=>ov (Qi ph b H).1 (hN b hbL)),QK pj (show G.length<=1099511627776 by omega) (λb H hbL=>ov (Qi pj b H).1 (hN b hbL))⟩⟩⟩
   ·rw[mj];show Rp.mk K M G=_;rw[hG,<-mg,List.filter_map,Ms];rfl
   have hq9:=S.o.each q hq;have hq9':qV (b7::I::O::L') Y.heap q:=Mm.mono hq9 λb H=>Lc.2 (.inr (Lc.2 (.inr (Lc.2 (.inr H)))));exact((hq9'.st (hf.mono oe)).st (hD.mono oe)).up (λb H=>.inl (by simp[H]))
  have J:i<ps.length:=by have hW:(i:Int)<(ps.length:Int):=kf;omega
  have hr:ps.take (i+1)=ps.take i++[ps[i]'J]:=Lm J;have pm:=Go.Lg.K1.I hS pd;have hs:=Ll J;refine Qh<|Qd<|Qg<|Qc<|O8 (g:=ZR) (i:=i) Qio pm.arr U U J λa128 pn=>?_;refine Zj (ps[i]'J) λq hq=>?_;rw[hq]at pn hr hs;have g9:=pm.each q hs;refine x (Qw pn U U)<|Qe<|Qo (us:=z15) U λb27 po gc hb27 hB27=>Qe<|Qj (us:=ZR q) hB27 U U U U g9.ones λpp gr pu=>xe ?_;have hF:O5 [] gb pp:=gc.O gr hb27;have hz13:=hF.size;refine Qm<|Zc U<|Zc U<|x (Zv (us:=KI q.e.ky) pu U U U)<|x (Qgf (s:=q.e.ky) (hm5010.I hF) U U)<|x (ZB U)<|xe ?_;have kk:=ke.I hF;have pw:=Qn h6 hF;refine QX U (λkn=>?_) (λkn=>?_)
  ·have ko:q.e.ky∉(O9 c.V).map (ZN c.V):=by simpa using kn
   refine Qv<|Qs U kk U U<|Zc U<|Zc U<|x (Zv (us:=KI q.e.ky) pu U U U)<|Qe<|QA (us:=[KI q.e.ky]) U U og (by exact(by decide:1*2<=1000000)) oA λb141 kq hH hb141 hB141 =>
    Qe<|Q8 (m:=1) (news:=KI q.e.ky) (L:=[]) (Qn pw hH) U U U (by have:=hB141.at (L:=[]) oe;simpa using this) (by simp[Value.oneCell']) oa (ou hH.size) λkr ho pz hg p0=>Zc U<|Qe<|QB (j:=2) (u:=kr) ((kk.I hH).J hg (λH=>ou (Qi h6 I H).1)) U U oe (Qt pz) λp1 gs hB1516 =>
    xe ?_
   refine Qv<|QP U U<|Qa<|xe ?_;have hu:O5 [I] Y kq:=hf.D (hF.D hH);have kt:O5 [I] Y ho:=hu.then hg (λb H=>.inr (Qi h6 b H).1);refine⟨(i+1,kr,G++[q.e.ky]),oh,La,J,kt.Q gs,hB1516,?_,?_⟩
   ·have p2:ho.ownsRow Y.heap.size 75 2 kr (G++[q.e.ky]).length ((G++[q.e.ky]).flatMap KI):=by
     rw[Lk,LA];simpa using pz
    refine Qf p2 gs (λb H T=>?_);have:=(Qi p2 b H).1;rw[Lb.1 T]at this;omega
   simp only[];rw[hr,L6,Ls,<-hG,Me,OU (OX ko)];rfl
  have ko:q.e.ky∈(O9 c.V).map (ZN c.V):=by simpa using kn
  refine Qh<|Qv<|QP U U<|Qa<|xe<|⟨(i+1,vg,G),oh,La,J,hf.D hF,kk,pw,?_⟩;simp only[];rw[hr,L6,Ls,<-hG,Me,OT (oz ko)];simp
 have J:k<lM.length:=by have hW:(k:Int)<(lM.length:Int):=kc;omega
 have hr:lM.take (k+1)=lM.take k++[lM[k]'J]:=Lm J;have hs:=Ll J;rw[LF J,LH,Qkx]at hR;have ku:O5 [] w3 Y:=ga.then ht (λb H=>.inr (by simp only[oL,oJ,or_false]at H;have:=ga.size;omega));have hM9:=YC.I hM ku;have hMA9:=mu.I ku;have hn1:(lM.map λq=>ZN c.V q.m).Nodup:=by
  rw[<-hV,Ms]at mt;exact mt
 have kv:=hn1.sublist ((List.take_sublist (k+1) lM).map λq=>ZN c.V q.m);rw[hr,Ls]at kv;refine Qh<|Qd<|Qg<|Qc<|O8 (g:=Xr) (i:=k) Qox hMA9 U U J λa55 p3=>?_;refine Zj (lM[k]'J) λq hq=>?_;rw[hq]at p3 hr hs hR kv;have hqI:QR [] Y.heap q.v q.co:=hM9.each q hs [] oe;have hqm:q.m∈O9 c.V:=by rw[<-hV];exact LJ hs
 have p4:ZN c.V q.m∉(lM.take k).map λq=>ZN c.V q.m:=λT=>(ME.1 kv).2.2 _ T _ (Lb.2 U) U;have gg:=QlY hqm;have hh:=mf (ZN c.V q.m);have gt:=λp:xK=>Qg4 (c:=c.V) (bf:=bf) (v:=v) (m:=q.m) (p:=p);have gu:=Qnb (c:=c.V) (bf:=bf) (v:=v) (m:=q.m);have hb0:=Qnc (c:=c.V) (bf:=bf) (v:=v) (m:=q.m);refine x (Qw p3 U U)<|Qe<|Qo (us:=[oF oG 0,oF oG 0,nS]) U λb18 gb hf hb18 hB18=>Qe<|Qj (us:=Xr q) hB18 U U U U ⟨U,U,hqI.one,Z⟩ λgq kg p5=>xe ?_;have gv:O5 [] Y gq:=hf.O kg hb18;have kj:=kb.D gv;have hK:=Qi0 (q:=q) (h.I kj) gg.1 gg.2.1 (λe=>by have:=gg.2.2.1 e;rwa [show c.V.rq.length=c.rq.length from Lh ..]at this) (λe=>by have:=gg.2.2.2.1 e;rwa [show c.V.ex.length=c.ex.length from Lh ..]at this) (λe=>by have:=gg.2.2.2.2 e;rwa [show c.V.cs.length=c.cs.length from Lh ..]at this);have p6:Ux c.V v q.m=⟨ZN c.V q.m,v,suA (XJ c.V q.m),(zg (XJ c.V q.m)).1,(zg (XJ c.V q.m)).2.1,(zg (XJ c.V q.m)).2.2,XJ c.V q.m⟩:=rfl;refine Zj (ZN c.V q.m) λky p7=>?_;rw[p7]at p4 hh gt gu hK hR p6;refine Qc<|Q9 (m9.I gv) U U<|Q9 p5 U U<|QN<|hK.mono ?_;rintro _ po ⟨rfl,gc⟩;refine Qe<|Qo (us:=[oF oG 0,.string .empty]) U λp8 pp gr hb19 hB19=>Qe<|Qj (us:=KI ky) hB19 U U U U oA λkq hH p9=>xe ?_;have qc:O5 [] po kq:=gr.O hH hb19;have hu:=(gv.D gc).D qc;have hz914:=hu.size;have hz911:=gv.size;have hz12:=gc.size;have qf:=S.I hu;have hz10:=hf.size;have hz13:=gr.size;refine Qm<|Q9 p9 U U<|Qe<|XI (k:=ky) qf.n U U λho hg p0=>xe ?_;have kt:O5 [O] Y ho:=hu.any.Q hg;have ql:O5 [I,O] V ho:=ht.Q (kt.mono oe);have qo:O5 [] w ho:=m8.then ql (λb H=>.inr (hX b H).1);have hz15:=hg.size;have hI15:BlI (b7::I::O::L') V.heap.size ho I O ((lM.take (k+1)).map λq=>ZN c.V q.m) ⟨k,vo,qs,vk,K,vm,M⟩:=by
  refine qf.now hg ?_ oa oa oe;have h5:Ym kKy ho.heap O (xh (((lM.take k).map λq=>ZN c.V q.m).map λs=>(s,Value.bool true)) ky (.bool true)):=p0;rw[QhZ p4]at h5;have e:((lM.take (k+1)).map λq=>ZN c.V q.m)=((lM.take k).map λq=>ZN c.V q.m)++[ky]:=by
   rw[hr,Ls,LH,p7];rfl
  rw[e];exact h5
 have hne50:∀b,V.heap.size<=b->b∉[O]:=λb H T=>by rw[Lb.1 T]at H;omega
 have hB1815:=((p5.I gc).I qc).J hg om;have hB1915:=p9.J hg om;have hB315:=(m9.I hu).J hg om;have qr:=(pa.I hu).J hg om;have hm3715:=(hm379.I hu).J hg om;have hqI3:QR [] w3.heap q.v q.co:=hM.each q hs [] oe;have hqI15:QR [] ho.heap q.v q.co:=((((hqI3.up (L':=[O]) (λb H=>.inr (by rw[Lb.1 H];omega))).I ku).I hu).st hg).up oe;refine Qc<|Q9 hB315 U U<|Q9 hB1815 U U<|QN<|(Qgr (q:=q) (h.I qo) hqI15).mono ?_;rintro r23 p1 ⟨gs,cm,rfl,ho5,hgood⟩;refine Qa<|Zd U U<|Zd U U<|Qe<|Qo (us:=Yf) U λb20 w17 hs17 hb20 hB20=>Qe<|Qj (us:=cm.cells) hB20 U U U U ho5 λqy hs18 hB2018 =>
  Qb ?_
 have kw:O5 [] p1 qy:=hs17.O hs18 hb20;have h2:=gs.D kw;have q0:=qo.D h2;have hz1518:=h2.size;refine Qd<|Qm<|ZD U U<|xe<|QZ rfl (λgh=>?_) (λgh=>?_)
 ·have he:=hb0 gh;rw[he,OU gh]at hR;rw[<-hR]at ha;refine Qc<|x (Qx Z)<|Qa<|x Ql<|Qe<|Qj (us:=Y6) (qr.I h2) U U U U oB λw19 kx hB719=>Qb<|Qk ⟨[Zz,.agg Y6.toArray,oF oG (yq c.V q.m)],⟨U,⟨_,U,Qp U (hB719.at (L:=[]) oe).cells⟩,rfl,Z⟩,q0.O kx oa,Zz,Y6,by rw[ha];rfl,U,oB,λ_=>⟨U,U⟩,λh0=>OW (ha.symm.D h0) gh⟩
 have kz:=Lo.1 gh;have gt:=λp=>gt p kz;have gu:=gu kz;have gi:=hgood kz;have hI18:=hI15.I h2;have q1:=hB1915.I h2;refine Qh<|Exists.elim hh λus hh=>Exists.elim hh λis hh=>?_;refine Qd<|Qm<|Q9 q1 U U<|x (QlH (k:=ky) (hm3715.I h2) U U hh.1)<|Qa<|Zd U U<|Zd U U<|Qe<|Qo (us:=z15) U λb22 w19 kx hb22 hB22 =>
  Qe<|Qj (us:=us) hB22 U U hh.2.1 U hh.2.2.1 λhJ hs20 q2=>Qb ?_
 have hL:O5 [] qy hJ:=kx.O hs20 hb22;have q3:=q0.D hL;have q4:=hB2018.I hL;have hz1820:=hL.size;have q5:∀N:LN,(∀b∈N,b<ho.heap.size)->ZH N hJ.heap cm:=λN hN=>((gi.2 N hN).I kw).I hL;refine Q3 (α:=Bool) [(78,84)] (λz=>[(84,.bool z)]) (λz w'=>O5 [] hJ w'/\(z=true->∃p∈ps,us=ZR p/\Kh c.V bf v q.m=(0,p.pt,true))/\(z=false->Kh c.V bf v q.m=(Yy (XJ c.V q.m),Ux c.V v q.m,false))) ol ?_ ?_
 ·refine Qv<|xB KA (λk0=>?_) (λk0=>?_)
  ·refine Exists.elim (hh.2.2.2.1 k0) λp h3=>?_;have gw:qV [] hJ.heap p:=(Go.Lg.K1.I hS q3).each p h3.1;have gx:=h3.2.1;have hEq:Q6 prog 60 [p.c.val,cm.val] hJ λr w'=>r=.bool (decide (p.c.V=XJ c.V q.m))/\O5 [] hJ w':=by
    rw[<-gi.1];exact Qd0 gw.c (q5 [] oe)
   refine Qa<|Zc U<|x (Zv (us:=p.c.cells) q2 U U (by rw[gx];rfl))<|Q9 q4 U U<|QN<|hEq.mono ?_;rintro _ gy ⟨rfl,hv⟩;refine QJ U<|xe ?_;have H:=gt p.pt h3.2.2;refine⟨decide (p.c.V=XJ c.V q.m),La,hv,λhz=>⟨p,h3.1,gx,?_⟩,λhz=>?_⟩
   ·rw[H,OU (show p.pt.c=_ from OY hz)]
   rw[H,OT (show ¬p.pt.c=_ from O0 hz)]
  refine Qa<|Qr<|Qr<|Qr<|Qr<|QJ U<|xe ?_;exact⟨false,La,O5.Z _ _,λhz=>OW hz og,λ_=>gu (hh.2.2.2.2 k0)⟩
 rintro zb g gy ⟨hv,hzt,hzf⟩;have gz:=hL.D hv;have k4:=q3.D hv;have hO:=hI18.I gz;have hz21:=hv.size;have za:=q1.I gz;have zv:=q4.I hv;have h721:=(qr.I h2).I gz;have z0:O5 [I,O] V gy:=(ql.D h2).D gz;have gvo:=Qi hO.o.own;have gvk:=Qi hO.k;have gvm:=Qi hO.m;obtain⟨T15,z1⟩:=hO.b;have n15o:I∉ob vo:=λT=>ou (gvo I T).1
 have n15k:I∉ob vk:=λT=>ou (gvk I T).1
 have n15m:I∉ob vm:=λT=>ou (gvm I T).1
 have n19o:p8∉ob vo:=λT=>ou (Qi S.o.own p8 T)
 have z2:∀b∈ob vo++(ob vk++(ob vm++(b7::I::O::L'))),b<Y.heap.size/\(b∈L'\/w.heap.size<=b):=λb H=>by
  rcases Lc.1 H with H|H
  ·have:=Qi S.o.own b H;exact⟨this.2,.inr oa⟩
  rcases Lc.1 H with H|H
  ·have:=Qi S.k b H;exact⟨this.2,.inr oa⟩
  rcases Lc.1 H with H|H
  ·have:=Qi S.m b H;exact⟨this.2,.inr oa⟩
  simp only[oL]at H;rcases H with rfl|rfl|rfl|H
  ·exact⟨oa,.inr oa⟩
  ·exact⟨oa,.inr oa⟩
  ·exact⟨oa,.inr oa⟩
  exact⟨ou (ma b H),.inl H⟩
 refine QX rfl (λk5=>?_) (λk5=>?_)
 ·refine Exists.elim (hzt k5) λp h3=>?_;have gx:=h3.2.1;have H:=h3.2.2;rw[H,OT oe,OU rfl]at hR;have gw:qV (ob vo++(ob vk++(ob vm++(b7::I::O::L')))) gy.heap p:=((hp.each p h3.1).up λb H=>(z2 b H).2).I k4;refine Qm<|Q9 (q2.I hv) U hh.2.1<|Qe<|QA (us:=[us]) U U og (by exact(by decide:1*15<=1000000)) ⟨U,hh.2.1,Z⟩ λb87 k6 hw hb87 hB87=>?_;have hA22:At [] k6.heap ⟨b87,0,none⟩ (ZR p):=by have:=hB87.at (L:=[]) oe;rw[gx]at this;simpa using this
  have z3:=hO.I hw;refine Qe<|Vc (m:=1) (news:=ZR p) z3.o.own U U U hA22 (Zm.all gw.ones) (show qs.length+1<=1073741824 by omega) (ou hw.size) λv23 w23 ho23 h7 hn23=>?_;refine Qb ?_;have hI23:=z3.part (gw.I hw) ho23 h7 hn23 oa oa;have z4:=(z1.I hw).J h7 n15o;have hB1923:=(za.I hw).J h7 n19o;refine Qc<|Qs U z4 U U<|Q9 hB1923 U U<|Qe<|QA (us:=[KI ky]) U U og (by exact(by decide:1*2<=1000000)) oA λb92 w24 h8 hb92 hB92=>?_;have z5:=hI23.I h8;refine Qe<|Q8 (m:=1) (news:=KI ky) (L:=[]) z5.k U U U (by have:=hB92.at (L:=[]) oe;simpa using this) (by simp[Value.oneCell']) (show K.length+1<=1099511627776 by omega) (oy hw.size h7.size h8.size) λz6 w25 ho25 hQ hn25=>?_;refine Zc U<|Qe<|QB (j:=0) (u:=z6) ((z4.I h8).J hQ n15k) U U oe (Qt ho25) λk7 g0 hB1526=>xe ?_;have hy:=z5.kept ho25 hQ hn25 g0 ⟨T15,hB1526⟩ oa oa oa oe;refine Qz<|Qv<|QP U U<|Qa<|xe ?_;have hs826:O5 [I,O] V k7:=((((z0.D hw).then h7 (λb H=>.inr (gvo b H).1)).D h8).then hQ (λb H=>.inr (gvk b H).1)).Q (g0.mono oe);refine⟨⟨k+1,v23,qs++[p],z6,K++[ky],vm,M⟩,oh,oA,J,hs826,⟨hy.b,hy.n,hy.o,hy.k,hy.m,hy.d1,hy.d2⟩,?_,by simp only[oM,oO];omega⟩;simp only[];rw[Ls];exact hR
 have H:=hzf k5;rw[H]at hR;have hSy:=QbB ((q5 [] oe).I hv) (hkb.I k4);rw[gi.1]at hSy;refine Qh<|Qc<|Q9 zv U U<|QN<|hSy.mono ?_;rintro r36 k6 ⟨hw,us8,c0,c1,c2,c3,sa,st,sm,se,oo,rfl,hl8,ho8,h4,g2⟩;refine Qa<|Zd U U<|Zd U U<|Zd U U<|Qe<|Qo (us:=[nS,oF oG 0,nS,nS,nS,nS,nS,nS]) U λb24 w23 h7 hb24 hB24=>Qe<|Qo (us:=[nS,nS,nS,oF oG 0,nS,oF oG 0,nS,nS,nS]) U λb25 w24 h8 hb25 hB25 =>
  Qe<|Qj (us:=us8) (hB24.I h8) U U hl8 U ho8 λw25 hQ hB2425=>?_
 have hl24:=hB24.lt;have n2425:b25∉[b24]:=om
 refine Qe<|Qj (us:=[c0,c1,c2,c3,sa,oF oG st,sm,se,oo]) (hB25.J hQ n2425) U U U U ⟨h4.1,h4.2.1,h4.2.2.1,h4.2.2.2.1,h4.2.2.2.2.1,U,h4.2.2.2.2.2.1,h4.2.2.2.2.2.2.1,h4.2.2.2.2.2.2.2.1,Z⟩ λk7 g0 hB2526=>Qb ?_;have gj:O5 [] k6 k7:=(((h7.D h8).O hQ oa).O g0 oa);have h1:=hw.D gj;have hs026:=k4.D h1;have hz2126:=h1.size;refine Qd<|Qm<|ZD U U<|xe<|QZ rfl (λgk=>?_) (λgk=>?_)
 ·rw[OU gk]at hR;rw[<-hR]at ha;refine Qc<|x (Qx Z)<|Qa<|x Ql<|Qe<|Qj (us:=Y6) (h721.I h1) U U U U oB λk8 hj hB727=>Qb<|Qk ⟨[Zz,.agg Y6.toArray,oF oG (Yy (XJ c.V q.m))],⟨U,⟨_,U,Qp U (hB727.at (L:=[]) oe).cells⟩,rfl,Z⟩,hs026.O hj oa,Zz,Y6,by rw[ha];rfl,U,oB,λ_=>⟨U,U⟩,λh0=>OW (ha.symm.D h0) gk⟩
 rw[OT gk,OT oe]at hR;have g2:=g2 (Lo.1 gk);have hst:=g2.1;refine Qh<|Qc ?_;have hy:=hO.I h1;have hB1926:=za.I h1;have hB2026:=zv.I h1;refine Zj (⟨⟨ky,v,⟨sa,sm,se,suA (XJ c.V q.m)⟩,c0,(zg (XJ c.V q.m)).1,c1,(zg (XJ c.V q.m)).2.1,c2,(zg (XJ c.V q.m)).2.2⟩,cm⟩:zj) λP hP=>?_;have hPc:[oF oG ky.1,.string ky.2,oF oG v,sa,oF oG st,sm,se,c0,c1,c2,cm.ve,cm.vc,cm.vr,cm.vx,cm.vk]=ZR P:=by rw[<-hP,hst]
 refine Qa<|Q9 hB1926 U U<|Qa<|Zc U<|x (Zv (us:=[sa,oF oG st,sm,se]) hB2526 U U U)<|Zc U<|x (Zv (us:=[c0,c1,c2]) hB2526 U U U) <|
  x (Zn [(0,KI ky),(1,[oF oG v]),(2,[sa,oF oG st,sm,se]),(3,[c0,c1,c2])] ⟨U,U,U,U,U,U,U,U,Z⟩)<|Q9 hB2026 U U<|x (Zn [(0,[oF oG ky.1,.string ky.2,oF oG v,sa,oF oG st,sm,se,c0,c1,c2]),(1,cm.cells)] ⟨U,U,U,U,Z⟩) <|
  Qe<|QA (us:=[[oF oG ky.1,.string ky.2,oF oG v,sa,oF oG st,sm,se,c0,c1,c2,cm.ve,cm.vc,cm.vr,cm.vx,cm.vk]]) U U og (by exact(by decide:1*15<=1000000)) oA λb115 k8 hj hb115 hB115=>?_
 have hA27:At [] k8.heap ⟨b115,0,none⟩ (ZR P):=by have:=hB115.at (L:=[]) oe;rw[<-hPc];simpa using this
 have hI27:=hy.I hj;have hz27:=hj.size;have hLc:∀b∈ob vo++(ob vk++(ob vm++(b7::I::O::L'))),b<ho.heap.size/\b<gy.heap.size:=λb H=>ou (z2 b H).1
 have hPA:qV (ob vo++(ob vk++(ob vm++(b7::I::O::L')))) k8.heap P:=by
  obtain⟨hA,hC⟩:=g2.2 _ (λb H=>(hLc b H).2);have hcmX:=((((gi.2 _ (λb H=>(hLc b H).1)).I kw).I hL).I hv).I h1;rw[<-hP];exact⟨⟨(hA.I gj).I hj,(hC.k.I gj).I hj,(hC.d.I gj).I hj,(hC.r.I gj).I hj⟩,hcmX.I hj⟩
 refine Qe<|Vc (m:=1) (news:=ZR P) hI27.o.own U U U hA27 (Zm.all hPA.ones) (show qs.length+1<=1073741824 by omega) oa λv28 w28 ho28 gl hn28=>?_;refine Qb ?_;have hI28:=hI27.part hPA ho28 gl hn28 oa oa;have hB1528:=((z1.I h1).I hj).J gl n15o;have hB1928:=(hB1926.I hj).J gl n19o;refine Qv<|Qs U hB1528 U U<|Q9 hB1928 U U<|Qe<|QA (us:=[KI ky]) U U og (by exact(by decide:1*2<=1000000)) oA λb120 w29 g3 hb120 hB120=>?_;have hI29:=hI28.I g3;refine Qe<|Q8 (m:=1) (news:=KI ky) (L:=[]) hI29.m U U U (by have:=hB120.at (L:=[]) oe;simpa using this) (by simp[Value.oneCell']) (show M.length+1<=1099511627776 by omega) (ov gl.size g3.size) λv30 w30 ho30 k9 hn30=>?_;refine Zc rfl<|Qe<|QB (j:=1) (u:=v30) ((hB1528.I g3).J k9 n15m) U U oe (Qt ho30) λw31 hs31 hB1531=>xe ?_;have h9:=hI29.mades ho30 k9 hn30 hs31 ⟨T15,hB1531⟩ oa oa oa oe;refine Qv<|QP U U<|Qa<|xe ?_;have hs831:O5 [I,O] V w31:=(((((z0.D h1).D hj).then gl (λb H=>.inr (gvo b H).1)).D g3).then k9 (λb H=>.inr (gvm b H).1)).Q (hs31.mono oe);refine⟨⟨k+1,v28,qs++[P],vk,K,v30,M++[ky]⟩,oh,oA,J,hs831,⟨h9.b,h9.n,h9.o,h9.k,h9.m,h9.d1,h9.d2⟩,?_,by simp only[oM,oO];omega⟩;simp only[];rw[Ls];have hPp:[P].map (·.pt)=[Ux c.V v q.m]:=by
  rw[p6,<-hP];show[zj.pt _]=_;unfold zj.pt;rw[gi.1]
 rw[hPp];exact hR
theorem QcL {n:Nat}{al:LI}:∀{l:List YV}{s:List ByteArray}{u:LI},(Ys n al s u l).1=0->(l.map (·.nm)).Nodup/\∀x∈l,x.nm∉s
 | [],_,_,_=>⟨.nil,λx hx=>by cases hx⟩
 | y::l,s,u,h=>by
  rw[KO]at h;by_cases E:ZW n al s y≠0
  ·rw[OU E]at h;exact OW h E
  rw[OT E]at h;have G:ZW n al s y=0:=Lo.1 E;have J:y.nm∉s:=λH=>by
   unfold ZW at G;split at G
   ·exact OW G og
   exact OW G og
  obtain⟨O,I⟩:=QcL h;refine⟨M6.2 ⟨λH=>?_,O⟩,λx hx=>?_⟩
  ·obtain⟨x,hx,e⟩:=LC.1 H;exact I x hx (by rw[e];simp)
  rcases Li.1 hx with rfl|hx
  ·exact J
  exact λH=>I x hx (Lc.2 (.inl H))
structure CkP (c:Zt):Prop where
 ev:Kf c.ev=0
 ne:c.co.length≠0
 n8:c.co.length<=8
 n12:c.co.length+c.rq.length<=12
 co:(Ys c.ev.length (Kk c.ev.length) [] [] c.co).1=0
 rq:XQ c.ev.length (Ys c.ev.length (Kk c.ev.length) [] [] c.co).2.2 (Ys c.ev.length (Kk c.ev.length) [] [] c.co).2.1 c.rq=0
 cd:YF (szs c.co) c.ex c.cs=0
theorem VG :Zi c=0↔CkP c:=by
 constructor
 ·intro h;unfold Zi at h;split at h
  ·rename_i E;exact OW h E
  rename_i E;split at h
  ·cases h
  rename_i I;split at h
  ·cases h
  rename_i J;split at h
  ·rename_i G;exact OW h G
  rename_i G;split at h
  ·rename_i H;exact OW h H
  rename_i H;exact⟨Lo.1 E,I,oa,oa,Lo.1 G,Lo.1 H,h⟩
 intro h;unfold Zi;rw[OT (not_not_intro h.ev),OT h.ne,OT (ov h.n8 h.n12),OT (not_not_intro h.co),OT (not_not_intro h.rq)];exact h.cd
theorem Qaf {sz:LI}{ex:List U0}{cs:List xL}(h:YF sz ex cs=0):(∀x∈ex,YW (x.ls.map (·.1))/\x.ls.length≠0)/\∀x∈cs,YW (x.ts.map (·.1)):=by
 unfold YF at h;split at h
 ·cases h
 split at h
 ·cases h
 split at h
 ·cases h
 split at h
 ·rename_i E;exact OW h E
 rename_i hx;have hx:=Vm _ _ _ (Lo.1 hx);have I:=Vn _ _ _ h;refine⟨λx H=>?_,λx H=>?_⟩
 ·have E:=hx x H;unfold Jm at E;split at E
  ·cases E
  rename_i G;exact⟨(Ue _ _ _ E).2.1,G⟩
 have E:=I x H;unfold Xz at E;split at E
 ·cases E
 split at E
 ·rename_i G;exact OW E G
 rename_i G;exact(Uc _ _ _ (Lo.1 G)).2.1
theorem Qfr (all:List Z4):∀(l:List YV) (r:List Z4) (z:Zt),KK all (l.map (Yh 1)++r) z=KK all r { z with co:=z.co++l }
 | [],r,z=>by rw[LQ];rfl
 | x::l,r,z=>by
  have e:XY all (Yh 1 x) z=(0,{ z with co:=z.co++[x] }):=by unfold XY;rw[OU (show(Yh 1 x).kd=1 from rfl)];rfl
  rw[LH,L9,KK,e,OT oe,Qfr all l r];simp[oV]
theorem Qfo (all:List Z4):∀(l:List YV) (r:List Z4) (z:Zt),KK all (l.map (Yh 2)++r) z=KK all r { z with rq:=z.rq++l }
 | [],r,z=>by rw[LQ];rfl
 | x::l,r,z=>by
  have e:XY all (Yh 2 x) z=(0,{ z with rq:=z.rq++[x] }):=by unfold XY;rw[OT (show ¬(Yh 2 x).kd=1 from(by decide:¬((2:Int)=1))),OU (show(Yh 2 x).kd=2 from rfl)];rfl
  rw[LH,L9,KK,e,OT oe,Qfo all l r];simp[oV]
def CoF (all:List Z4)(co:List YV):Prop:=∀i (h:i<co.length),JP all 1 (co[i]'h).nm=true/\Z8 all 1 (co[i]'h).nm=i
theorem Qpm {rest:List Z4}(I:(co.map (·.nm)).Nodup):CoF (co.map (Yh 1)++rest) co:=by
 intro i h;have hl:i<(co.map (Yh 1)++rest).length:=by rw[Lk,Lh];omega
 have G:∀j (E:j<co.length) (H:j<(co.map (Yh 1)++rest).length),(co.map (Yh 1)++rest)[j]'H=Yh 1 (co[j]'E):=λj E H=>by
  rw[MB (by rw[Lh];exact E),LO]
 have e:Z8 (co.map (Yh 1)++rest) 1 (co[i]'h).nm=i:=by
  unfold Z8;refine(List.findIdx_eq hl).2 ⟨?_,λj E=>?_⟩
  ·rw[G i h hl];simp[Vl,Yh]
  rw[G j oa oa];have J:(co[j]'oa).nm≠(co[i]'h).nm:=λe=>by
   have O:j<(co.map (·.nm)).length:=by rw[Lh];omega
   have S:i<(co.map (·.nm)).length:=by rw[Lh];omega
   have:=(List.getElem_inj (h₀:=O) (h₁:=S) I).1 (by rw[LO,LO];exact e);omega
  simp[Vl,Yh,J]
 exact⟨by unfold JP;rw[e];exact OX hl,e⟩
theorem Qfk {all:List Z4}{co:List YV}(I:CoF all co):∀(ls:xx) (r:List (ByteArray×Int)) (tk:LI) (o:xx),Vk co ls=some r->(ls.map (·.1)).Nodup->(∀p∈ls,p.1∉tk) ->
  Yp all r tk o=(0,isrt (·.1) (o++ls))
 | [],r,tk,o,h,_,_=>by
  rw[Vk]at h;cases h
  rw[Yp,LQ]
 | y::ls,r,tk,o,h,V,J=>by
  rw[Vk]at h;cases E:q9 co y.1 with
  | none=>rw[E]at h;cases h
  | some n =>
   rw[E]at h;obtain⟨Y,ha,rfl⟩:=L7.1 h;unfold q9 at E;split at E
   ·cases E
   rename_i hb;have H:y.1.toNat<co.length:=oa
   have hc:n=(co[y.1.toNat]'H).nm:=by have:=Option.some.inj E;rw[<-this];simp[oQ,H]
   obtain⟨O,S⟩:=I y.1.toNat H;rw[<-hc]at O S;have e1:((Z8 all 1 n:Nat):Int)=y.1:=by rw[S];omega
   obtain⟨n1,n2⟩:=M6.1 (show(y.1::ls.map (·.1)).Nodup from V);rw[Yp,OT (by rw[O];decide),e1,OT (J y Lp),Qfk I ls Y _ _ ha n2 (λp T G=>?_),LB]
   ·rfl
   rcases Lc.1 G with G|G
   ·exact J p (Lj _ T) G
   rw[Lb]at G;exact n1 (by rw[<-G];exact LJ T)
theorem QcA {all:List Z4}(G:CoF all co){r:List (ByteArray×Int)}(h:Vk co ls=some r)(hi:YW (ls.map (·.1))):Yp all r [] []=(0,ls):=by
 have E:(ls.map (·.1)).Nodup:=hi.imp λh=>oa
 rw[Qfk G ls r [] [] h E (λ_ _=>oe),Mb];exact OV (Prod.mk 0) (Qe4 (λp:Int×Int=>p.1) (List.Perm.refl _) (MF.1 (hi.imp λh=>oa)) E).symm
theorem Qfp {all:List Z4}{co:List YV}(E:CoF all co):∀(l:List U0) (a r:List Z4) (z:Zt),JU co l=some a->(∀x∈l,YW (x.ls.map (·.1)))->KK all (a++r) z=KK all r { z with ex:=z.ex++l }
 | [],a,r,z,h,_=>by
  rw[JU]at h;cases h
  rw[LQ];rfl
 | x::l,a,r,z,h,hi=>by
  rw[JU]at h;cases hx:Vk co x.ls with
  | none=>rw[hx]at h;cases h
  | some n =>
   rw[hx]at h;obtain⟨a',G,rfl⟩:=L7.1 h;have e:XY all ⟨3,x.nm,V9,n,[],0⟩ z=(0,{ z with ex:=z.ex++[x] }):=by
    unfold XY;simp only[];rw[OT (show ¬((3:Int)=1) by decide),OT (show ¬((3:Int)=2) by decide),OU trivial];rw[QcA E hx (hi x Lp)];rfl
   rw[L9,KK,e,OT oe,Qfp E l a' r _ G λy H=>hi y (Lj _ H)];simp[oV]
theorem Qfq {all:List Z4}{co:List YV}(E:CoF all co):∀(l:List xL) (a r:List Z4) (z:Zt),Kd co l=some a->(∀x∈l,YW (x.ts.map (·.1)))->KK all (a++r) z=KK all r { z with cs:=z.cs++l }
 | [],a,r,z,h,_=>by
  rw[Kd]at h;cases h
  rw[LQ];rfl
 | x::l,a,r,z,h,hi=>by
  rw[Kd]at h;cases hx:Vk co x.ts with
  | none=>rw[hx]at h;cases h
  | some n =>
   rw[hx]at h;obtain⟨a',G,rfl⟩:=L7.1 h;have e:XY all ⟨4,x.nm,V9,[],n,x.bd⟩ z=(0,{ z with cs:=z.cs++[x] }):=by
    unfold XY;simp only[];rw[OT (show ¬((4:Int)=1) by decide),OT (show ¬((4:Int)=2) by decide),OT (show ¬((4:Int)=3) by decide),OU trivial];rw[QcA E hx (hi x Lp)];rfl
   rw[L9,KK,e,OT oe,Qfq E l a' r _ G λy H=>hi y (Lj _ H)];simp[oV]
theorem qz (h:(ZP c).1=0):∃a b,JU c.co c.ex=some a/\Kd c.co c.cs=some b/\(ZP c).2=c.co.map (Yh 1)++(c.rq.map (Yh 2)++(a++b))/\Jt (ZP c).2=0:=by
 unfold ZP yP at *;cases G:JU c.co c.ex with
 | none=>rw[G]at h;simp at h
 | some a =>
  cases H:Kd c.co c.cs with
  | none=>rw[G,H]at h;simp at h
  | some b =>
   rw[G,H]at h;simp only[]at h ⊢;by_cases E:Jt (c.co.map (Yh 1)++(c.rq.map (Yh 2)++(a++b)))≠0
   ·rw[OU E]at h;exact OW h E
   rw[OT E];exact⟨a,b,U,U,U,Lo.1 E⟩
theorem QcB (h:Zi c=0)(hd:(ZP c).1=0):KY c.ev (ZP c).2=(0,c):=by
 obtain⟨a,b,I,J,e,O⟩:=qz hd;have G:=VG.1 h;have E:CoF (ZP c).2 c.co:=by rw[e];exact Qpm (QcL G.co).1
 obtain⟨hx,S⟩:=Qaf G.cd;unfold KY;rw[OT (not_not_intro O)];refine Zj (ZP c).2 λall T=>?_;rw[T]at e E ⊢;conv=>lhs;arg 2;rw[e]
 rw[Qfr,Qfo,Qfp E c.ex a b _ I (λx V=>(hx x V).1)];have H:=Qfq E c.cs b [] (⟨c.ev,[]++c.co,[]++c.rq,[]++c.ex,[]⟩) J S;rw[LQ]at H;refine H.D ?_;rw[KK];rfl
abbrev dky (x:Z4):Ky:=(x.kd,x.nm)
theorem UQ {k:Int}{n:ByteArray}{x:Z4}:Vl k n x=true↔dky x=(k,n):=by
 unfold Vl dky;rw[Lv,decide_eq_true_iff,decide_eq_true_iff,Prod.mk.injEq]
theorem QjS {l:List Z4}{k:Int}{n:ByteArray}:JP l k n=true↔(k,n)∈l.map dky:=by
 unfold JP Z8;rw[decide_eq_true_iff];constructor
 ·intro h;have E:=List.findIdx_getElem (w:=h);exact LC.2 ⟨_,Ll h,UQ.1 E⟩
 intro h;obtain⟨x,hx,e⟩:=LC.1 h;exact List.findIdx_lt_length_of_exists ⟨x,hx,UQ.2 e⟩
structure KOk (ks:List Ky):Prop where
 n:ks.length<=76
 kd:∀k (h:k<ks.length),1<=(ks[k]'h).1/\(ks[k]'h).1<=4
 nm:∀k (h:k<ks.length),Y1 (ks[k]'h).2=true
 no:∀k (h:k<ks.length),ks[k]'h∉ks.take k
 or:∀k (h:k<ks.length),0<k->(ks[k - 1]'oa).1<=(ks[k]'h).1
theorem Qfi {l:List Z4}{k:Nat}(h:k<l.length):dk1 l k (l[k]'h)=0↔((1<=(l[k]'h).kd/\(l[k]'h).kd<=4)/\Y1 (l[k]'h).nm=true/\dky (l[k]'h)∉(l.map dky).take k/\(0<k->((l[k - 1]'oa).kd<=(l[k]'h).kd))/\yf (l[k]'h)=true):=by
 have S:((l.getD (k - 1) ⟨0,.empty,V9,[],[],0⟩))=l[k - 1]'oa:=by rw[Mq,LD oa];rfl
 have J:JP (l.take k) (l[k]'h).kd (l[k]'h).nm=true↔dky (l[k]'h)∈(l.map dky).take k:=by rw[QjS,NG]
 unfold dk1;rw[S];constructor
 ·intro E;split at E
  ·cases E
  rename_i T;split at E
  ·cases E
  rename_i G;split at E
  ·cases E
  rename_i H;split at E
  ·cases E
  rename_i O;split at E
  ·cases E
  rename_i I;exact⟨oa,oz G,λe=>H (J.2 e),λV=>oa,oz I⟩
 rintro⟨T,G,H,O,I⟩;rw[OT oa,OT (by rw[G];decide),OT (λe=>H (J.1 e)),OT (λe=>ou (O e.1)),OT (by rw[I];decide)]
theorem zK {l:List Z4}:∀(r:List Z4) (i:Nat),dkL l i r=0↔∀k (h:k<r.length),dk1 l (i+k) (r[k]'h)=0
 | [],i=>⟨λ_ k h=>by simp at h,λ_=>rfl⟩
 | x::r,i=>by
  rw[dkL];constructor
  ·intro h k E;split at h
   ·rename_i G;exact OW h G
   rename_i G;cases k with
   | zero=>exact Lo.1 G
   | succ k =>
    have:=(zK r (i+1)).1 h k (oz E);rw[show i+(k+1)=i+1+k by omega];exact this
  intro h;have H:dk1 l i x=0:=h 0 oe;rw[OT (not_not_intro H)];refine(zK r (i+1)).2 λk E=>?_;have:=h (k+1) (oz E);rw[show i+1+k=i+(k+1) by omega];exact this
theorem UO {l:List Z4}:Jt l=0↔KOk (l.map dky)/\∀x∈l,yf x=true:=by
 unfold Jt;constructor
 ·intro h;split at h
  ·cases h
  rename_i T;have J:=(zK l 0).1 h;have G:∀k (E:k<l.length),_:=λk E=>(Qfi E).1 (by have:=J k E;rw[LS]at this;exact this);refine⟨⟨by rw[Lh];omega,λk E=>?_,λk E=>?_,λk E=>?_,λk E I=>?_⟩,λx hx=>?_⟩
  ·rw[LO];exact(G k (oz E)).1
  ·rw[LO];exact(G k (oz E)).2.1
  ·rw[LO];exact(G k (oz E)).2.2.1
  ·rw[LO,LO];exact(G k (oz E)).2.2.2.1 I
  obtain⟨k,E,rfl⟩:=LG hx;exact(G k E).2.2.2.2
 rintro⟨h,O⟩;have S:=h.n;rw[Lh]at S;rw[OT oa];refine(zK l 0).2 λk E=>?_;rw[LS];have H:k<(l.map dky).length:=by rw[Lh];exact E
 refine(Qfi E).2 ⟨?_,?_,?_,λI=>?_,O _ (Ll E)⟩
 ·have:=h.kd k H;rwa [LO]at this
 ·have:=h.nm k H;rwa [LO]at this
 ·have:=h.no k H;rwa [LO]at this
 have:=h.or k H I;rwa [LO,LO]at this
theorem QjT {l:List Z4}(h:KOk (l.map dky)){k:Nat}(E:k<l.length):JP l (l[k]'E).kd (l[k]'E).nm=true/\Z8 l (l[k]'E).kd (l[k]'E).nm=k:=by
 have e:Z8 l (l[k]'E).kd (l[k]'E).nm=k:=by
  unfold Z8;refine(List.findIdx_eq E).2 ⟨UQ.2 U,λj I=>?_⟩;refine Bool.eq_false_iff.2 λe=>?_;have H:=UQ.1 e;have G:=h.no k (by rw[Lh];exact E);rw[LO]at G;refine G ?_;rw[<-NG];exact LC.2 ⟨l[j]'oa,List.mem_take_iff_getElem.2 ⟨j,oa,U⟩,H⟩
 exact⟨by unfold JP;rw[e];exact OX E,e⟩
theorem QmH {l:List Z4}(h:Jt l=0){x y:Z4}(hx:x∈l)(H:dky y=dky x)(I:yf y=true):Jt [y]=0:=by
 obtain⟨G,_⟩:=UO.1 h;obtain⟨k,J,rfl⟩:=LG hx;have E:k<(l.map dky).length:=by rw[Lh];exact J
 have e:(l.map dky)[k]'E=dky y:=by rw[LO,H]
 have a:=G.kd k E;have b:=G.nm k E;rw[e]at a b;refine UO.2 ⟨⟨oe,λi hi=>?_,λi hi=>?_,λi hi=>?_,λi hi S=>?_⟩,λz O=>by rw[List.mem_singleton.1 O];exact I⟩
 ·have:i=0:=by simpa using hi
  subst this;exact a
 ·have:i=0:=by simpa using hi
  subst this;exact b
 ·have:i=0:=by simpa using hi
  subst this;simp
 have:i=0:=by simpa using hi
 omega
theorem QmG {l:List Z4}{k:Nat}(E:k<l.length){y:Z4}(h:dky y=dky (l[k]'E)):(l.set k y).map dky=l.map dky:=by
 rw[NE,h];have:dky (l[k]'E)=(l.map dky)[k]'(by rw[Lh];exact E):=by rw[LO]
 rw[this,List.set_getElem_self]
theorem Qfj {l:List Z4}(h:Jt l=0){k:Nat}(E:k<l.length){y:Z4}(G:dky y=dky (l[k]'E))(H:yf y=true):V8 l y=(0,l.set k y)/\Jt (l.set k y)=0:=by
 obtain⟨I,J⟩:=UO.1 h;obtain⟨O,S⟩:=QjT I E;have e1:y.kd=(l[k]'E).kd:=OV Prod.fst G;have e2:y.nm=(l[k]'E).nm:=OV Prod.snd G;constructor
 ·unfold V8;rw[OT (not_not_intro h),OT (not_not_intro (QmH h (Ll E) G H)),e1,e2,OU O,S]
 refine UO.2 ⟨by rw[QmG E G];exact I,λx hx=>?_⟩;rcases MS hx with hx|rfl
 ·exact J x hx
 exact H
theorem QgN {l:List Z4}(h:Jt l=0){x:Z4}(hx:x∈l):V8 l x=(0,l):=by
 obtain⟨k,E,rfl⟩:=LG hx;rw[(Qfj h E rfl ((UO.1 h).2 _ hx)).1,List.set_getElem_self]
def KN (a:Q0):Q0:=⟨a.al,a.st,Kk a.st.toNat,a.ed⟩
theorem QhC {x:Int}:x∈Kk n↔0<=x/\x<n:=by
 unfold Kk;rw[LC];constructor
 ·rintro⟨k,E,rfl⟩;have:=M5.1 E;omega
 intro h;exact⟨x.toNat,M5.2 oa,oa⟩
theorem QhB (n:Nat):YW (Kk n):=by
 unfold Kk;refine MF.2 ((List.pairwise_lt_range (n:=n)).imp λh=>oa)
theorem Qaa (h:ZA a):ZA (KN a):=⟨h.al,h.ali,h.st0,h.st1,λs E=>by have G:=QhC.1 E;have H:=h.st0;exact⟨G.1,by show s<a.st;omega⟩,QhB _,h.ed,h.edi⟩
def ym (c:Cs):Cs:=⟨c.ord,c.num,[],c.ed⟩
theorem QhR (i:Nat)(c:Cs)(e:Ed):ym (Zq i c e)=Zq i (ym c) e:=by
 unfold Zq ym;simp only[];split <;> rfl
theorem Qa6 (i:Nat):∀(l:List Ed) (c:Cs),ym (l.foldl (Zq i) c)=l.foldl (Zq i) (ym c)
 | [],_=>rfl
 | e::l,c=>by rw[LZ,LZ,Qa6 i l,QhR]
theorem Qca (a:Q0)(i:Nat)(c:Cs):ym (Ya a i c)=ym c:=by
 unfold Ya;split <;> rfl
theorem QaP {c E:Cs}(h:ym c=ym E):c.ord=E.ord:=by
 have G:(ym c).ord=(ym E).ord:=by rw[h]
 exact G
theorem QlC {a':Q0}(G:a'.ed=a.ed){c E:Cs}(h:ym E=ym c):ym (V2 a' i E)=ym (V2 a i c):=by
 unfold V2;rw[Qa6,Qa6,Qca,Qca,h,G,QaP h]
theorem QfI {a a':Q0}(G:a'.ed=a.ed):∀(f i:Nat) (c E:Cs),ym E=ym c->ym (YY a' f i E)=ym (YY a f i c)
 | 0,_,_,_,h=>h
 | f+1,i,c,E,h=>by
  rw[YY,YY,QaP h];split
  ·exact QfI G f (i+1) _ _ (QlC G h)
  exact h
theorem Qm6 (I:ZA a)(J:0<a.st):Yr (KN a)=KN (Yr a):=by
 obtain⟨_,T,_⟩:=Qj0 I J;obtain⟨E,O,_⟩:=Qj0 (Qaa I) J;have S:ym (KL (KN a))=ym (KL a):=QfI (a:=a) (a':=KN a) U _ _ _ _ U;have e1:(KL (KN a)).ord=(KL a).ord:=QaP S;have e2:(KL (KN a)).ed=(KL a).ed:=by
  have V:(ym (KL (KN a))).ed=(ym (KL a)).ed:=by rw[S]
  exact V
 have G:(KL (KN a)).mk'=Kk (KL a).ord.length:=by
  have H:=E.mk2;rw[O]at H;simp only[]at H;rw[H,e1];rw[Nr.2]
  ·unfold Kk;rw[List.range_eq_range']
  intro j Y;have ha:j<(KL a).ord.length:=by have:=Mw.1 Y;omega
  have G:ZV (KL a).ord j∈(KL a).ord:=Qjj (by rw[MD];exact ha);rw[e1]at E;have:=E.bd _ G;exact OX (QhC.2 ⟨this.1,by have h4:ZV (KL a).ord j<a.st:=this.2;omega⟩)
 rw[O,T,e1,e2,G];unfold KN;simp only[On]
theorem Qa4 :Jl a=true↔JD a=0/\Yr a=a:=by
 unfold Jl;rw[Lv,decide_eq_true_iff,decide_eq_true_iff];constructor
 ·rintro⟨E,G,H,I,J⟩;refine⟨E,?_⟩;generalize Yr a=b at *;cases a;cases b;simp_all
 rintro⟨E,G⟩;exact⟨E,by rw[G];exact⟨U,U,U,U⟩⟩
theorem Qgw (h:Jl a=true)(J:a.st≠0):Jl (KN a)=true/\JD (KN a)=0:=by
 obtain⟨H,I⟩:=Qa4.1 h;have E:=(ZQ a).1 H;have G:=(ZQ _).2 (Qaa E);exact⟨Qa4.2 ⟨G,by rw[Qm6 E (ou E.st0),I]⟩,G⟩
abbrev kaA (a:Q0):LI×Int×List Ed:=(a.al,a.st,a.ed)
theorem QbG (v:Int):∀{aa bb:List Q0},bb.map kaA=aa.map kaA->∀t,Yv v bb t=Yv v aa t
 | [],[],_,_=>rfl
 | [],_::_,h,_=>by simp at h
 | _::_,[],h,_=>by simp at h
 | a::aa,b::bb,h,[]=>rfl
 | a::aa,b::bb,h,t::ts=>by
  rw[LH,LH,List.cons.injEq]at h;have E:b.al=a.al:=OV Prod.fst h.1;have G:b.ed=a.ed:=OV (λz=>z.2.2) h.1;rw[Yv,Yv,QbG v h.2 ts,E,G]
theorem Qo7 {bb:List Q0}(h:bb.map kaA=aa.map kaA):evs bb=evs aa:=by
 have e:∀(l:List Q0) (z:LI),l.foldl (λacc a=>mrg (· || ·) acc a.al) z=(l.map kaA).foldl (λacc a=>mrg (· || ·) acc a.1) z:=λl z=>by rw[List.foldl_map]
 unfold evs;rw[e,e,h]
def je (s:Sy):Sy:=⟨s.tup,[],s.ed⟩
theorem QeK {s s':Sy}(h:je s'=je s):s'.tup=s.tup:=by
 have E:(je s').tup=(je s).tup:=by rw[h]
 exact E
theorem Qoq {s s':Sy}(h:je s'=je s):s'.ed=s.ed:=by
 have E:(je s').ed=(je s).ed:=by rw[h]
 exact E
theorem Qn0 {bb:List Q0}(h:bb.map kaA=aa.map kaA){t:LI}{s s':Sy}(E:je s'=je s)(v:Int):(syE bb i t s' v).map je=(syE aa i t s v).map je:=by
 have G:=QeK E;have H:=Qoq E;unfold syE;rw[QbG v h,G,H];cases Yv v aa t with
 | none=>exact OV some E
 | some u =>
  simp only[];split
  ·rfl
  split
  ·rfl
  rfl
theorem Qep {aa bb:List Q0}(h:bb.map kaA=aa.map kaA){i:Nat}{t:LI}:∀(vs:LI) {s s':Sy},je s'=je s->(K6 bb i t vs s').map je=(K6 aa i t vs s).map je
 | [],_,_,G=>OV some G
 | v::vs,s,s',G=>by
  rw[K6,K6];have E:=Qn0 h (i:=i) (t:=t) G v;cases H:syE aa i t s v with
  | none =>
   rw[H]at E;have:syE bb i t s' v=none:=by simpa using E
   rw[this];rfl
  | some z =>
   rw[H]at E;obtain⟨J,I,e⟩:=L7.1 E;rw[I];exact Qep h vs e
theorem jz (aa:List Q0)(i:Nat)(t:LI)(s:Sy):je (ZS aa i t s)=je s:=by
 unfold ZS;split <;> rfl
theorem QhI {aa bb:List Q0}(h:bb.map kaA=aa.map kaA):∀(f i:Nat) {s s':Sy},je s'=je s->(syL bb f i s').map je=(syL aa f i s).map je
 | 0,_,_,_,E=>OV some E
 | f+1,i,s,s',E=>by
  have H:=QeK E;have J:Uj s' i=Uj s i:=by unfold Uj;rw[H]
  rw[syL,syL,H,J];split
  ·have G:=Qep h (i:=i) (t:=Uj s i) (evs aa) (s:=ZS aa i (Uj s i) s) (s':=ZS bb i (Uj s i) s') (by rw[jz,jz,E]);rw[Qo7 h];cases I:K6 aa i (Uj s i) (evs aa) (ZS aa i (Uj s i) s)with
   | none =>
    rw[I]at G;have:K6 bb i (Uj s i) (evs aa) (ZS bb i (Uj s i) s')=none:=by simpa using G
    rw[this];rfl
   | some z =>
    rw[I]at G;obtain⟨S,O,e⟩:=L7.1 G;rw[O];exact QhI h f (i+1) e
  exact OV some E
theorem Qli {bb:List Q0}(h:bb.map kaA=aa.map kaA):(xp bb).isSome=(xp aa).isSome:=by
 have I:(∃a∈bb,a.st=0)↔∃a∈aa,a.st=0:=by
  have e:∀l:List Q0,(∃a∈l,a.st=0)↔∃z∈l.map kaA,z.2.1=0:=λl=>⟨λ⟨a,E,G⟩=>⟨kaA a,LJ E,G⟩,λ⟨z,E,G⟩=>by
   obtain⟨a,J,rfl⟩:=LC.1 E;exact⟨a,J,G⟩⟩
  rw[e,e,h]
 unfold xp;by_cases H:∃a∈aa,a.st=0
 ·rw[OU H,OU (I.2 H)];rfl
 rw[OT H,OT (λe=>H (I.1 e))];have hl:bb.length=aa.length:=by have:=OV oP h;rwa [Lh,Lh]at this
 have E:=QhI h 4096 0 (s:=zR aa) (s':=zR bb) (by unfold zR;rw[hl]);rw[Option.isSome_map,Option.isSome_map];have G:=OV Option.isSome E
 rwa [Option.isSome_map,Option.isSome_map]at G
structure POk (p:xK):Prop where
 e:Yy p.c=0
 sp:p.sp=suA p.c
 kp:p.kp=(zg p.c).1
 ds:p.ds=(zg p.c).2.1
 rm:p.rm=(zg p.c).2.2
theorem POk.new {v:Int}{m:VW}(h:Yy (XJ c m)=0):POk (Ux c v m):=⟨h,U,U,U,U⟩
structure y8 (c:Zt)(ps:List xK):Prop where
 ck:Zi c=0
 mc:∀m∈O9 c,yq c m=0/\Yy (XJ c m)=0
 ky:ps.map (·.ky)=(O9 c).map (ZN c)
 cc:ps.map (·.c)=(O9 c).map (XJ c)
 ok:∀p∈ps,POk p
theorem Qis {l:List xK}{k:Ky}{p:xK}(h:q8 l k=some p):p∈l/\p.ky=k:=by
 unfold q8 at h;have E:=List.find?_some h;exact⟨List.mem_of_find?_eq_some h,oz E⟩
theorem QqR {v:Int}{m:VW}(I:∀p∈bf,POk p)(h:(Kh c bf v m).1=0):yq c m=0/\Yy (XJ c m)=0/\POk (Kh c bf v m).2.1/\(Kh c bf v m).2.1.c=XJ c m/\(Kh c bf v m).2.1.ky=ZN c m:=by
 refine⟨?_,?_,?_,?_,Qpy c bf v m⟩
 all_goals unfold Kh at *
 ·by_cases E:yq c m≠0
  ·rw[OU E]at h;exact OW h E
  exact Lo.1 E
 all_goals
  by_cases E:yq c m≠0
  ·rw[OU E]at h;exact OW h E
  rw[OT E]at h
  try rw[OT E]
  cases H:q8 bf (ZN c m)with
  | none =>
   rw[H]at h
   first|exact h|exact POk.new h|rfl
  | some p =>
   rw[H]at h;obtain⟨J,_⟩:=Qis H;simp only[]at h ⊢;by_cases G:p.c=XJ c m
   ·first|exact G ▸ (I p J).e|(rw[OU G];first|exact I p J|exact G)
   rw[OT G]at h
   first|exact h|(rw[OT G];first|exact POk.new h|rfl)
theorem Qkv {c:Zt}{bf:List xK}{v:Int}:∀(l:List VW) (o:List xK) (k n:List Ky),(blL c bf v l o k n).1=0->(∀m∈l,(Kh c bf v m).1=0)
 | [],_,_,_,_,_,E=>by cases E
 | m::l,o,k,n,h,m',E=>by
  rw[blL]at h;by_cases G:(Kh c bf v m).1≠0
  ·rw[OU G]at h;exact OW h G
  rw[OT G]at h;rcases Li.1 E with rfl|E
  ·exact Lo.1 G
  split at h
  ·exact Qkv l _ _ _ h m' E
  exact Qkv l _ _ _ h m' E
theorem Qkw {c:Zt}{bf:List xK}{v:Int}:∀(l:List VW) (o:List xK) (k n:List Ky),(∀m∈l,(Kh c bf v m).1=0) ->
  blL c bf v l o k n=(0,o++l.map (λm=>(Kh c bf v m).2.1),k++(l.filter λm=>(Kh c bf v m).2.2).map (ZN c),n++(l.filter λm=>!(Kh c bf v m).2.2).map (ZN c))
 | [],o,k,n,_=>by rw[blL];simp
 | m::l,o,k,n,h=>by
  have ih:=λo k n=>Qkw l o k n λx hx=>h x (Lj _ hx);rw[blL,OT (not_not_intro (h m Lp))];cases E:(Kh c bf v m).2.2 with
  | true=>rw[OU rfl,ih];simp[E,oV]
  | false=>rw[OT og,ih];simp[E,oV]
theorem Qku {v:Int}(h:JQ c bf v=0):Zi c=0/\∀m∈O9 c,(Kh c bf v m).1=0:=by
 unfold JQ at h;by_cases E:Zi c≠0
 ·rw[OU E]at h;exact OW h E
 rw[OT E]at h;exact⟨Lo.1 E,Qkv (O9 c) [] [] [] h⟩
theorem Qbj {v:Int}(h:∀m∈O9 c,(Kh c bf v m).1=0):qD c bf v=(0,(O9 c).map (λm=>(Kh c bf v m).2.1),((O9 c).filter λm=>(Kh c bf v m).2.2).map (ZN c),((O9 c).filter λm=>!(Kh c bf v m).2.2).map (ZN c)):=by
 unfold qD;rw[Qkw _ _ _ _ h,Mb,Mb,Mb]
theorem Qkr {v:Int}(J:∀p∈bf,POk p)(h:JQ c bf v=0):y8 c (yY c bf v):=by
 obtain⟨O,H⟩:=Qku h;have G:=λm E=>QqR J (H m E);have e:yY c bf v=(O9 c).map (λm=>(Kh c bf v m).2.1):=by unfold yY;rw[Qbj H]
 refine⟨O,λm E=>⟨(G m E).1,(G m E).2.1⟩,?_,?_,λp I=>?_⟩
 ·rw[e,Ms];exact M0 λm E=>(G m E).2.2.2.2
 ·rw[e,Ms];exact M0 λm E=>(G m E).2.2.2.1
 rw[e]at I;obtain⟨m,E,rfl⟩:=LC.1 I;exact(G m E).2.2.1
theorem y8.fnd {ps:List xK}(h:y8 c ps){m:VW}(H:m∈O9 c):∃p∈ps,q8 ps (ZN c m)=some p/\p.c=XJ c m:=by
 obtain⟨i,hi,rfl⟩:=LG H;have hl:ps.length=(O9 c).length:=by have:=OV oP h.ky;rwa [Lh,Lh]at this
 have E:i<ps.length:=oa
 have ek:∀j (G:j<ps.length),(ps[j]'G).ky=ZN c ((O9 c)[j]'oa):=λj G=>by
  have:=List.getElem_of_eq h.ky (i:=j) (by rw[Lh];exact G)
  rwa [LO,LO]at this
 have ec:(ps[i]'E).c=XJ c ((O9 c)[i]'hi):=by
  have:=List.getElem_of_eq h.cc (i:=i) (by rw[Lh];exact E)
  rwa [LO,LO]at this
 refine⟨ps[i]'E,Ll E,?_,ec⟩;unfold q8;have I:(ps.map (·.ky)).Nodup:=by rw[h.ky];exact UD h.ck
 rw[List.find?_eq_some_iff_getElem];refine⟨OX (ek i E),i,E,U,λj G=>?_⟩;have J:(ps[j]'oa).ky≠ZN c ((O9 c)[i]'hi):=λe=>by
  rw[<-ek i E]at e;have O:j<(ps.map (·.ky)).length:=by rw[Lh];omega
  have S:i<(ps.map (·.ky)).length:=by rw[Lh];omega
  have:=(List.getElem_inj (h₀:=O) (h₁:=S) I).1 (by rw[LO,LO];exact e);omega
 simpa using J
theorem QcU {E:Zt}{ps:List xK}(h:y8 c ps)(H:O9 E=O9 c)(I:∀m,ZN E m=ZN c m)(T:Zi E=0)(O:∀m∈O9 c,yq E m=0/\Yy (XJ E m)=0)(v:Int):
  JQ E ps v=0/\(YS E ps v).made=((O9 c).filter λm=>!decide (XJ c m=XJ E m)).map (ZN c)/\(YS E ps v).gone=[]:=by
 have S:∀m∈O9 c,(Kh E ps v m).1=0/\(Kh E ps v m).2.2=decide (XJ c m=XJ E m):=λm G=>by
  obtain⟨p,_,J,V⟩:=h.fnd G;unfold Kh;rw[OT (not_not_intro (O m G).1),I,J];simp only[];rw[V];by_cases e:XJ c m=XJ E m
  ·rw[OU e,OX e];exact⟨U,U⟩
  rw[OT e,OZ e];exact⟨(O m G).2,U⟩
 have Y:∀m∈O9 E,(Kh E ps v m).1=0:=λm G=>(S m (H ▸ G)).1;have e:=Qbj Y;refine⟨?_,?_,?_⟩
 ·unfold JQ;rw[OT (not_not_intro T),e]
 ·unfold YS;rw[e,H];show List.map _ _=_;rw[M0 (λm _=>I m),List.filter_congr λm G=>by rw[(S m G).2]]
 unfold YS QqQ;show List.map _ _=_;rw[MT.2]
 ·rfl
 intro p J;have:p.ky∈(O9 E).map (ZN E):=by
  rw[H,M0 (λm _=>I m),<-h.ky];exact LJ J
 simp only[decide_eq_true_eq];exact λhn=>hn this
abbrev Pts (L:LN)(H:xC)(v:O2)(l:List zj):Prop:=Go.Lg.K1 ZR 15 qV L H v l
structure StV where
 c:CL
 vp:O2
 ps:List zj
structure StA (L:LN)(H:xC)(q:StV):Prop where
 c:ZH L H q.c
 p:Pts L H q.vp q.ps
theorem StA.st {L:LN}{w w':O1}{q:StV}(h:StA L w.heap q)(E:O5 L w w'):StA L w'.heap q:=⟨h.c.st E,h.p.st E⟩
theorem StA.up {L L':LN}{H:xC}{q:StV}(h:StA L H q)(E:∀b∈L',b∈L\/H.size<=b):StA L' H q:=⟨h.c.up E,h.p.up E⟩
instance:Mm StA:=⟨StA.st,StA.up⟩
def StV.st (q:StV):Zt×List xK:=(q.c.V,q.ps.map (·.pt))
structure UnV where
 b1:Nat
 b2:Nat
 s:StV
structure KZ where
 b:Nat
 s:StV
 made:Int
 vr:O2
 rs:List jr
 vu:O2
 us:List UnV
abbrev Qax (s:KZ):LV:=[s.s.c.ve,s.s.c.vc,s.s.c.vr,s.s.c.vx,s.s.c.vk,s.s.vp,oF oG s.made,s.vr,s.vu]
def KZ.own (s:KZ):LN:=s.b::(ob s.vr++ob s.vu)
def KZ.sys (s:KZ):Sys:=⟨s.s.c.V,s.s.ps.map (·.pt),s.made,s.rs.map (·.rp),s.us.map λu=>u.s.st⟩
abbrev K5 (u:UnV):O2:=.func (.func 48) #[] #[.pointer (some ⟨u.b1,0,none⟩),.pointer (some ⟨u.b2,0,none⟩)]
structure UnA (L:LN)(H:xC)(u:UnV):Prop where
 a1:At L H ⟨u.b1,0,none⟩ u.s.c.cells
 a2:At L H ⟨u.b2,0,none⟩ [u.s.vp]
 s:StA L H u.s
theorem UnA.st {L:LN}{w w':O1}{u:UnV}(h:UnA L w.heap u)(E:O5 L w w'):UnA L w'.heap u:=⟨h.a1.st E,h.a2.st E,StA.st h.s E⟩
theorem UnA.up {L L':LN}{H:xC}{u:UnV}(h:UnA L H u)(E:∀b∈L',b∈L\/H.size<=b):UnA L' H u:=⟨h.a1.up E,h.a2.up E,h.s.up E⟩
instance:Mm UnA:=⟨UnA.st,UnA.up⟩
structure Ul (L:LN)(w:O1)(s:KZ):Prop where
 blk:∃T,Q7 w.heap s.b T (Qax s)
 rr:w.ownsRow 0 53 3 s.vr s.rs.length (s.rs.flatMap ZJ)
 ru:w.ownsRow 0 139 1 s.vu s.us.length (s.us.map K5)
 d1:s.b∉ob s.vr
 d2:s.b∉ob s.vu
 d3:∀b∈ob s.vr,b∉ob s.vu
 sub:∀b∈s.own,b∈L
 st:StA L w.heap s.s
 rA:∀q∈s.rs,VJ L w.heap q
 uA:∀q∈s.us,UnA L w.heap q
theorem Ul.lt {L:LN}{w:O1}{s:KZ}(h:Ul L w s):∀b∈s.own,b<w.heap.size:=λb E=>by
 unfold KZ.own at E;rcases Li.1 E with rfl|E
 ·obtain⟨T,G⟩:=h.blk;exact G.lt
 rcases Lc.1 E with E|E
 ·exact(Qi h.rr b E).2
 exact(Qi h.ru b E).2
theorem Ul.J {L X:LN}{w w':O1}{s:KZ}(h:Ul L w s)(E:O5 X w w')(G:∀b∈X,b∈L\/w.heap.size<=b)(H:∀b∈s.own,b∉X):Ul L w' s:=by
 have O:s.b∉X:=H _ Lp;have S:∀b∈ob s.vr,b∉X:=λb I=>H b (Lj _ (Lc.2 (.inl I)));have V:∀b∈ob s.vu,b∉X:=λb I=>H b (Lj _ (Lc.2 (.inr I)));obtain⟨T,Y⟩:=h.blk;exact⟨⟨T,Y.J E O⟩,Qf h.rr E S,Qf h.ru E V,h.d1,h.d2,h.d3,h.sub,Mm.J h.st E G,λq J=>Mm.J (h.rA q J) E G,λq J=>Mm.J (h.uA q J) E G⟩
theorem Ul.I {s:KZ}(h:Ul L w s)(E:O5 [] w w'):Ul L w' s:=h.J E (λ_ G=>by cases G) (λ_ _=>oe)
theorem Ul.up {L L':LN}{w:O1}{s:KZ}(h:Ul L w s)(E:∀b∈L',b∈L\/w.heap.size<=b)(H:∀b∈s.own,b∈L'):Ul L' w s :=
 ⟨h.blk,h.rr,h.ru,h.d1,h.d2,h.d3,H,h.st.up E,λq G=>(h.rA q G).up E,λq G=>(h.uA q G).up E⟩
section
variable {pS:String}
theorem Qrr {C:xA}{pl:xu}{e bys:Nat}{x G:O3}{v:O2}{k:IntKind}[h:Sl P t e sz bys z]
  (I:QU ops E=⟨d,.slice t x none (some G) none,ty,pS,af,gd⟩) (J:Zp L H v n sz cs) (hx:ev f x=v) (O:ev f G=.int k hi) (S:hi<=n)
  (hK:∀v',Zp L H v' hi sz (cs.take (hi*sz))->XP P ops C K pl (QW f d v') w)
  (T:Yd ops f (QU ops E)=true:=by rfl):XP P ops C K ((E,true)::pl) f w:=by
 obtain⟨v',V,Y⟩:=QbV (P:=P) (d:=d) (ty:=ty) (pS:=pS) (af:=af) (gd:=gd) (t:=t) J hx O S;exact Lg.p (λw'=>by rw[I];exact Y w') (by rw[I];exact hK v' V) T
end
theorem JC {v:O2}{es:List DV}(h0:KR L w.heap v es):
  Q6 prog 80 [v] w λr w'=>r=oF oG (Jt (es.map DV.it))/\O5 [] w w':=by
 have h:=h0.up (L':=[]) oe;have hQ:=h.arr.le;have ha:Jt (es.map DV.it)=if 76<es.length then 3 else dkL (es.map DV.it) 0 (es.map DV.it):=by unfold Jt;rw[Lh]
 refine Zo func80 ?_;refine Qc<|Qb<|Qd<|Qm<|QL h.arr U<|x (Z6 U U)<|xe<|QZ rfl (λh9=>?_) (λh9=>?_)
 ·have hh:76<es.length:=by have h8:(76:Int)<(es.length:Int):=h9;omega
  refine Qc<|Qb<|Qk ⟨[_],La,by rw[ha,OU hh];rfl,O5.Z _ _⟩
 have hh:¬76<es.length:=by have h8:¬(76:Int)<(es.length:Int):=h9;omega
 rw[OT hh]at ha;refine Zj (Jt (es.map DV.it)) λE hE=>?_;rw[hE]at ha;refine Qh<|Qd<|Qm<|QL h.arr U<|Qa<|xe<|Qg<|QC (α:=Nat) [(2,6),(12,62)] (λz=>[(12,oF oG z)]) (λz w'=>z<=es.length/\O5 [] w w'/\dkL (es.map DV.it) z ((es.map DV.it).drop z)=E) (λz=>es.length - z) ol 0 La ⟨Ln _,O5.Z _ _,ha.symm⟩ ?_;rintro k g w1 ⟨hk,hj,hd⟩;refine Qc<|QY U U<|xe<|Qd<|QH U (λhl=>?_) (λhl=>?_)
 ·refine Qz ?_;have hA:es.length<=k:=by have hB:¬(k:Int)<(es.length:Int):=hl;omega
  rw[Lr (by rw[Lh];exact hA)]at hd;refine Qc<|Qb<|Qk ⟨[oF oG 0],La,by rw[hE,<-hd];rfl,hj⟩
 have H:k<es.length:=by have hB:(k:Int)<(es.length:Int):=hl;omega
 have hC:k<(es.map DV.it).length:=by rw[Lh];exact H
 rw[LF hC,LO,dkL]at hd;have h2:=Ll H;have hD:(es.map DV.it).take k=(es.take k).map DV.it:=NG.symm;have G:dk1 (es.map DV.it) k (es[k]'H).it=if(es[k]'H).kd<1\/4<(es[k]'H).kd then 11 else if Y1 (es[k]'H).nm=false then 7 else if JP ((es.take k).map DV.it) (es[k]'H).kd (es[k]'H).nm=true then 8 else if 0<k/\(es[k]'H).kd<((es.map DV.it).getD (k - 1) ⟨0,.empty,V9,[],[],0⟩).kd then 5 else if yf (es[k]'H).it=false then 6 else 0:=by
  unfold dk1;rw[hD];rfl
 have h1:=h.I hj;refine Qh<|Qd<|Qg<|Qm<|O8 (g:=Qy) (i:=k) ZX h1.arr U U H λhR h4=>?_;refine Zj (es[k]'H) λq hq=>?_;rw[hq]at h4 h2 G hd;have hm:=h1.each q h2;refine x (Qw h4 U U)<|Qe<|Qo (us:=[oF oG 0,.string .empty,nS,oF oG 0,nS,nS,nS,nS,oF oG 0]) U λb4 w2 hF hG hH=>x Ql <|
  Qe<|Qj (us:=Qy q) hH U U U U hm.ones λO hI hn=>xe ?_
 have ho:O5 [] w1 O:=hF.O hI hG;have hJ:=hj.D ho;have h3:=h1.I ho;have S:∀e:Int,e≠0->dk1 (es.map DV.it) k q.it=e->E=e:=λe he h=>by rw[h,OU he]at hd;exact hd.symm
 have h5:O5 [] O { O with drawn:=O.drawn+1 }:=O5.C _ _
 refine Qd<|ZF [] (Xi 0 13 [7])<|p QF<|p QF<|Qrr (hi:=k) U h3.arr U U oa λv' hK=>p (QQ U)<|pq (λ_ J=>Qq (hn.I J) U U) <|
  p (QQ rfl)<|pq (λ_ J=>Qq (hn.I J) U U)<|?_
 have hL:Zp [] O.heap v' (es.take k).length 9 ((es.take k).flatMap Qy):=by
  rw[Ly,Mn oa,<-j0 Qy 9 ZX];exact hK
 refine pk<|xg<|(zO (hL.I h5) q.kd q.nm).mono ?_;rintro r4 w4 ⟨⟨i,rfl,_⟩,hM⟩;have T:O5 [] O w4:=h5.D hM;refine⟨T,?_⟩;refine p QF<|p (λ_=>Zr U U)<|p (λ_=>Zr U U)<|p ZI<|p ZI<|pe ?_;have V:=hn.I T;have hb:=hJ.D T;refine Qg<|Q3 (α:=Bool) [(28,36)] (λz=>[(28,.bool z)]) (λz w'=>w'=w4/\(z=true↔(q.kd<1\/4<q.kd))) ol ?_ ?_
 ·refine Qv<|Qs U V U U<|xb (YR U U) (λhr=>?_) (λhr=>?_)
  ·refine Qa<|Qr<|Qr<|Qr<|QJ U<|Qb<|⟨true,La,U,⟨λ_=>.inl hr,λ_=>U⟩⟩
  refine Qa<|Qs U V U U<|x (Z6 U U)<|QJ U<|Qb<|⟨_,La,U,⟨λe=>.inr (OY e),λe=>OX (e.resolve_left hr)⟩⟩
 rintro z g w5 ⟨rfl,Y⟩;refine QX rfl (λhf=>?_) (λhf=>?_)
 ·rw[OU (Y.1 hf)]at G;have I:=S 11 og G;refine Qc<|Qb<|Qk ⟨[oF oG 11],La,by rw[hE,I];rfl,hb⟩
 rw[OT (λe=>by rw[Y.2 e]at hf;cases hf)]at G;refine Qc<|Qs U V U U<|QN<|(VK q.nm hm.nm w5).mono ?_;rintro r6 w6 ⟨rfl,rfl⟩;refine x (ZB U)<|Qb<|QX U (λhs=>?_) (λhs=>?_)
 ·rw[OU (oz hs)]at G;have I:=S 7 og G;refine Qc<|Qb<|Qk ⟨[oF oG 7],La,by rw[hE,I];rfl,hb⟩
 rw[OT (oz hs)]at G;refine Qm<|Qb<|QX U (λht=>?_) (λht=>?_)
 ·rw[OU ht]at G;have I:=S 8 og G;refine Qc<|Qb<|Qk ⟨[oF oG 8],La,by rw[hE,I];rfl,hb⟩
 rw[OT (by rw[ht];decide)]at G;have h6:=h3.I T;refine Q3 (α:=Bool) [(44,57)] (λz=>[(44,.bool z)]) (λz w'=>O5 [] w6 w'/\(z=true↔(0<k/\q.kd<((es.map DV.it).getD (k - 1) ⟨0,.empty,V9,[],[],0⟩).kd))) ol ?_ ?_
 ·refine ZF [] (Xi 0 14 [])<|p QF<|pb (λ_=>Z6 U U) (λhu=>?_) (λhu=>?_)
  ·have hN:0<k:=by have hS:(0:Int)<(k:Int):=hu;omega
   have hp:k - 1<es.length:=oa
   have hge:((es.map DV.it).getD (k - 1) ⟨0,.empty,V9,[],[],0⟩).kd=(es[k - 1]'hp).kd:=by simp[oQ,hp,DV.it]
   have hO:(k:Int) - 1=((k - 1:Nat):Int):=oa
   refine p QF<|p (QQ U)<|pq (λ_ J=>Qq (V.I J) U U)<|p QF<|p QF <|
    p (λ_=>JH U U ⟨oa,oa⟩)<|Go.Lg.pig (g:=Qy) (i:=k - 1) U ZX h6.arr U (show Go.Lg.ev _ _=_ from OV (Value.int .i64) hO) hp λhT hP=>p (λ_=>Zs U)<|pq (λ_ J=>QD ((hP.fld 0 (oF oG (es[k - 1]'hp).kd) U).I J) U) <|
    p (λ_=>YR U U)<|p (Xk U)<|p ZI<|pe ?_
   refine⟨_,La,O5.C _ _,⟨λe=>⟨hN,by rw[hge];exact OY e⟩,λe=>OX (by rw[hge]at e;exact e.2)⟩⟩
  refine p QF<|ps<|ps<|ps<|ps<|ps<|ps<|ps<|ps<|ps<|p (Xk U)<|p ZI<|pe ?_;exact⟨false,La,O5.C _ _,⟨λe=>(by cases e),λe=>OW (show(0:Int)<(k:Int) by omega) hu⟩⟩
 rintro z g w7 ⟨hv,Y⟩;have hw:=hb.D hv;refine QX rfl (λhg=>?_) (λhg=>?_)
 ·rw[OU (Y.1 hg)]at G;have I:=S 5 og G;refine Qc<|Qb<|Qk ⟨[oF oG 5],La,by rw[hE,I];rfl,hw⟩
 rw[OT (λe=>by rw[Y.2 e]at hg;cases hg)]at G;refine Qc<|Q9 (V.I hv) U U<|QN<|(Qgg (hm.I ((ho.D T).D hv))).mono ?_;rintro r8 w8 ⟨rfl,h7⟩;refine x (ZB U)<|Qb<|QX U (λhy=>?_) (λhy=>?_)
 ·rw[OU (oz hy)]at G;have I:=S 6 og G;refine Qc<|Qb<|Qk ⟨[oF oG 6],La,by rw[hE,I];rfl,hw.D h7⟩
 rw[OT (oz hy)]at G;rw[G,OT og]at hd;refine Qh<|Qv<|QP U U<|Qa<|xe ?_;exact⟨k+1,oa,La,H,hw.D h7,hd⟩
section
variable {o:List Z4}{X:Option (List Z4)}
theorem QgQ {y:U0}{l:List U0}(h:X=(JU co (y::l)).map (o++·))(E:Vk co y.ls=none):X=none:=by
 rw[h,JU,E];rfl
theorem QgP {y:U0}{l:List U0}(h:X=(JU co (y::l)).map (o++·)){r:List (ByteArray×Int)}(E:Vk co y.ls=some r):X=(JU co l).map ((o++[⟨3,y.nm,V9,r,[],0⟩])++·):=by
 rw[h,JU,E];simp only[Option.map_map];congr 1;funext z;simp
theorem QgS {y:xL}{l:List xL}(h:X=(Kd co (y::l)).map (o++·))(E:Vk co y.ts=none):X=none:=by
 rw[h,Kd,E];rfl
theorem QgR {y:xL}{l:List xL}(h:X=(Kd co (y::l)).map (o++·)){r:List (ByteArray×Int)}(E:Vk co y.ts=some r):X=(Kd co l).map ((o++[⟨4,y.nm,V9,[],r,y.bd⟩])++·):=by
 rw[h,Kd,E];simp only[Option.map_map];congr 1;funext z;simp
end
theorem Qiu {X:Option (List Z4)}:X=X.map (([]:List Z4)++·):=by cases X <;> rfl
theorem QmO (h:JU c.co c.ex=none\/Kd c.co c.cs=none):ZP c=(2,[]):=by
 unfold ZP yP;rcases h with h|h <;> rw[h]
 cases JU c.co c.ex <;> rfl
theorem QjR {a b l:List Z4}(E:JU c.co c.ex=some a)(G:Kd c.co c.cs=some b)(hl:l=c.co.map (Yh 1)++(c.rq.map (Yh 2)++(a++b))):ZP c=if Jt l≠0 then(Jt l,[])else(0,l):=by
 unfold ZP yP;rw[E,G,hl]
theorem JE.app {base:Nat}{w E:O1}{v G:O2}{l:List DV}{H:O1}{q:DV}(h:JE base w v l)(J:O5 [] w E)(hb:base<=w.heap.size)(O:∀L:LN,(∀b∈L,b<w.heap.size)->Jg L E.heap q)
  (S:H.ownsRow base 63 9 G (l.length+1) (l.flatMap Qy++Qy q)) (T:O5 (ob v) E H) (V:∀b∈ob G,b∈ob v\/E.heap.size<=b):JE base H G (l++[q]):=
 (YA.I h J).app (λL Y=>O L (λb ha=>by
  rcases Y b ha with I|I
  ·omega
  exact Zb h.own b I)) S T V
theorem QkN {c:CL}(h0:ZH L w.heap c)(g8:c.co.length<=1000)(g9:c.rq.length<=1000)(ka:c.ex.length<=1000)(kb:c.cs.length<=1000)(gv:∀q∈c.ex,q.ls.length<=100000)(hk1:∀q∈c.cs,q.ts.length<=100000):
  Q6 prog 42 [c.val] w λr w'=>O5 [] w w'/\∃v,r=.tuple #[v,oF oG (ZP c.V).1]/\((ZP c.V).1≠0->v=Zz)/\((ZP c.V).1=0->∃l,JE w.heap.size w' v l/\l.map DV.it=(ZP c.V).2):=by
 have h:=h0.up (L':=[]) oe;have hG:=@QmO c.V;have gg:=@QjR c.V;refine Zj (ZP c.V) λR hR=>?_;rw[hR]at hG gg ⊢;refine Zj (JU c.V.co c.V.ex) λRE go=>?_;refine Zj (Kd c.V.co c.V.cs) λRC gp=>?_;rw[go,gp]at hG gg;refine Zo func42 ?_;refine Qc<|Qe<|QV (us:=c.cells) U λb1 I hO kc hH=>x Ql<|Qb ?_;have ke:=hO.size;have h1:=h.I hO;refine Qc<|Qb<|Qd<|Qc<|Qs U (hH.I (O5.Z [] I)) U U<|QL (h1.co.arr.I (O5.Z [] I)) U<|Qa<|xe<|Qg<|QC (α:=Nat×O2×List DV×List Z4) [(4,4),(6,6),(21,34)] (λz=>[(4,z.2.1),(21,oF oG z.1)]) (λz w'=>z.1<=c.co.length/\O5 [] I w'/\JE I.heap.size w' z.2.1 z.2.2.1/\z.2.2.1.map DV.it=([]:List Z4)++z.2.2.2/\z.2.2.2.length=z.1/\z.2.2.2=(c.co.take z.1).map (λq=>Yh 1 q.it)) (λz=>c.co.length - z.1) ol (0,Zz,[],[]) oA
  ⟨Ln _,(O5.Z [] I),YA.nil,by rw[LQ];exact U,U,U⟩ ?_
 rintro⟨k2,v2,l2,o2⟩ g w2 ⟨gw,hI,hR2,hP,gq,hY⟩;simp only[]at gw hR2 hP gq hY;have gx:=hI.size;have kf:l2.length<=4000:=by
  have e1:=OV oP hP;simp only[Oc,oM,OG]at e1;omega
 refine Qc<|QY U U<|xe<|Qd<|QH U (λY=>?_) (λY=>?_)
 ·refine Qz ?_;have hs:c.co.length<=k2:=by have ht:¬(k2:Int)<(c.co.length:Int):=Y;omega
  rw[Lt hs]at hY;rw[hY,Mb]at hP;refine Qd<|Qc<|Qs U (hH.I hI) U U<|QL (h1.rq.arr.I hI) U<|Qa<|xe<|Qg<|QC (α:=Nat×O2×List DV×List Z4) [(4,4),(8,8),(38,51)] (λz=>[(4,z.2.1),(38,oF oG z.1)]) (λz w'=>z.1<=c.rq.length/\O5 [] I w'/\JE I.heap.size w' z.2.1 z.2.2.1/\z.2.2.1.map DV.it=(c.co.map (λq=>Yh 1 q.it))++z.2.2.2/\z.2.2.2.length=z.1/\z.2.2.2=(c.rq.take z.1).map (λq=>Yh 2 q.it)) (λz=>c.rq.length - z.1) ol (0,v2,l2,[]) oA
   ⟨Ln _,hI,hR2,by rw[LQ];exact hP,U,U⟩ ?_
  rintro⟨k3,v3,l3,o3⟩ g w3 ⟨gy,hJ,hQ,hS,gr,hZ⟩;simp only[]at gy hQ hS gr hZ;have gz:=hJ.size;have kg:l3.length<=4000:=by
   have e1:=OV oP hS;simp only[Oc,oM]at e1;omega
  refine Qc<|QY U U<|xe<|Qd<|QH U (λY=>?_) (λY=>?_)
  ·refine Qz ?_;have hs:c.rq.length<=k3:=by have ht:¬(k3:Int)<(c.rq.length:Int):=Y;omega
   rw[Lt hs]at hZ;rw[hZ]at hS;refine Qd<|Qc<|Qs U (hH.I hJ) U U<|QL (h1.ex.arr.I hJ) U<|Qa<|xe<|Qg<|QC (α:=Nat×O2×List DV×List Z4) [(2,4),(10,12),(55,73)] (λz=>[(4,z.2.1),(55,oF oG z.1)]) (λz w'=>z.1<=c.ex.length/\O5 [] I w'/\JE I.heap.size w' z.2.1 z.2.2.1/\z.2.2.1.map DV.it=(c.co.map (λq=>Yh 1 q.it)++c.rq.map (λq=>Yh 2 q.it))++z.2.2.2/\z.2.2.2.length=z.1/\RE=(JU c.V.co ((c.ex.drop z.1).map XV.x)).map (z.2.2.2++·)) (λz=>c.ex.length - z.1) ol (0,v3,l3,[]) oA
    ⟨Ln _,hJ,hQ,by rw[LQ];exact hS,U,go ▸ Qiu⟩ ?_
   rintro⟨k4,v4,l4,o4⟩ g w4 ⟨g0,hr,hT,ga,gs,hK⟩;simp only[]at g0 hT ga gs hK;have g2:=hr.size;have kh:l4.length<=4000:=by
    have e1:=OV oP ga;simp only[Oc,oM]at e1;omega
   refine Qc<|QY U U<|xe<|Qd<|QH U (λY=>?_) (λY=>?_)
   ·refine Qz ?_;have hs:c.ex.length<=k4:=by have ht:¬(k4:Int)<(c.ex.length:Int):=Y;omega
    rw[Lr hs]at hK;have g3:RE=some o4:=by rw[hK];simp[JU]
    refine Qd<|Qc<|Qs U (hH.I hr) U U<|QL (h1.cs.arr.I hr) U<|Qa<|xe<|Qg<|QC (α:=Nat×O2×List DV×List Z4) [(2,4),(14,16),(77,95)] (λz=>[(4,z.2.1),(77,oF oG z.1)]) (λz w'=>z.1<=c.cs.length/\O5 [] I w'/\JE I.heap.size w' z.2.1 z.2.2.1/\z.2.2.1.map DV.it=(c.co.map (λq=>Yh 1 q.it)++c.rq.map (λq=>Yh 2 q.it)++o4)++z.2.2.2/\z.2.2.2.length=z.1/\RC=(Kd c.V.co ((c.cs.drop z.1).map KV.k)).map (z.2.2.2++·)) (λz=>c.cs.length - z.1) ol (0,v4,l4,[]) oA
     ⟨Ln _,hr,hT,by rw[LQ];exact ga,U,gp ▸ Qiu⟩ ?_
    rintro⟨k5,v5,l5,o5⟩ g w5 ⟨g4,hM,hR5,gb,gt,hN⟩;simp only[]at g4 hR5 gb gt hN;have g5:=hM.size;have ki:l5.length<=4000:=by
     have e1:=OV oP gb;simp only[Oc,oM]at e1;omega
    refine Qc<|QY U U<|xe<|Qd<|QH U (λY=>?_) (λY=>?_)
    ·refine Qz ?_;have hs:c.cs.length<=k5:=by have ht:¬(k5:Int)<(c.cs.length:Int):=Y;omega
     rw[Lr hs]at hN;have g6:RC=some o5:=by rw[hN];simp[Kd]
     have hu:=gg (l:=l5.map DV.it) g3 g6 (by rw[gb,LB,LB];simp only[CL.V,List.map_map];rfl);refine Qd<|Qm<|QN<|(JC (hR5.dits (L:=[]) oa oe)).mono ?_;rintro r6 w6 ⟨rfl,J⟩;have gu:O5 [] w w6:=hO.D (hM.D J);refine Qb<|Qm<|ZD U U<|xe<|QZ U (λgc=>?_) (λgc=>?_)
     ·rw[OU gc]at hu;refine Qm<|x Ql<|Qb<|Qk ⟨[Zz,oF oG (Jt (l5.map DV.it))],oA,gu,Zz,by rw[hu];rfl,λ_=>U,λe=>?_⟩;rw[hu]at e;exact OW e gc
     rw[OT gc]at hu;refine Qh<|Qm<|x Ql<|Qb<|Qk ⟨[v5,oF oG 0],oA,gu,v5,by rw[hu];rfl,λe=>OW (by rw[hu]) e,λ_=>⟨l5,(YA.I hR5 J).base oa,by rw[hu]⟩⟩
    have E:k5<c.cs.length:=by have ht:(k5:Int)<(c.cs.length:Int):=Y;omega
    have hj:c.cs.drop k5=c.cs[k5]'E::c.cs.drop (k5+1):=LF E;have hk:c.cs.take (k5+1)=c.cs.take k5++[c.cs[k5]'E]:=Lm E;have T:=Ll E;have V:=h1.I hM;refine Qh<|Qd<|Qg<|Qc<|O8 (g:=Za) (i:=k5) Xs V.cs.arr U U E λgh hf=>?_;refine Zj (c.cs[k5]'E) λq hq=>?_;rw[hq]at hf hk T hj;have ha:=V.cs.each q T;have hv:=V.cs.nm q T;rw[hj,LH]at hN;refine x (Qw hf U U)<|Qe<|Qo (us:=[.string .empty,Zz,oF oG 0]) U λb5 w6 J hw hy=>Qe<|Qj (us:=Za q) hy U U U U ⟨U,ha.one,U,Z⟩ λw7 hz hl=>xe ?_;have O:O5 [] w5 w7:=J.O hz hw;have gi:=O.size;refine Qc<|Qs U ((hH.I hM).I O) U U<|Q9 hl U U<|QN<|(QjW (V.co.I O) (ha.I O) hv (hk1 q T)).mono ?_;rintro r8 w8 ⟨h2,hm⟩;have hU:=O.D h2;refine Or.elim (QlN (Vk (c.co.map (·.it)) q.ts)) (λhn=>?_) (λhn=>?_)
    ·have hV:=QgS hN hn;rw[hn]at hm;have he:r8=.tuple #[.agg z9.toArray,oF oG 2]:=hm;subst he;refine Qa<|Zd U U<|Zd U U<|Qe<|Qo (us:=z9) U λgj w9 h3 h4 h6=>Qe<|Qj (us:=z9) h6 U U U U ⟨U,U,U,U,U,U,U,U,U,Z⟩ λho H hW=>Qb<|Qd<|Qm<|ZD U U<|xe<|QZ U (λhg=>?_) (λhg=>OW (show(2:Int)≠0 by decide) hg);refine Qm<|x Ql<|Qb<|Qk ⟨[Zz,oF oG 2],oA,hO.D ((hM.D hU).D (h3.O H h4)),Zz,?_,λ_=>U,λe=>?_⟩
     ·rw[hG (.inr hV)];rfl
     rw[hG (.inr hV)]at e;exact OW e og
    refine Exists.elim hn λn hn=>?_;have gk:=QgR hN hn;rw[hn]at hm;have he:∃d:DV,r8=.tuple #[.agg (Qy d).toArray,oF oG 0]/\d.it=⟨4,q.nm,V9,[],n,q.bd⟩/\∀L:LN,(∀b∈L,b<w7.heap.size)->Jg L w8.heap d:=hm;refine Exists.elim he λG he=>?_;have gl:=he.1;have h7:=he.2.1;have hp:=he.2.2;subst gl;have gm:Jg [] w8.heap G:=hp [] oe;refine Qa<|Zd U U<|Zd U U<|Qe<|Qo (us:=z9) U λgj g7 h3 h4 h6=>Qe<|Qj (us:=Qy G) h6 U U U U gm.ones λw9 H hW=>Qb ?_;have hX:O5 [] w8 w9:=h3.O H h4;have S:=hU.D hX;have hh:∀L:LN,(∀b∈L,b<w5.heap.size)->Jg L w9.heap G:=λL hL=>(hp L (λb hb=>ou (hL b hb))).I hX;refine Qd<|Qm<|ZD U U<|xe<|QZ U (λhg=>OW U hg) (λhg=>?_);refine Qh<|Qv<|Qa<|Q9 hW U U<|?_;have h8:JE I.heap.size w9 v5 l5:=YA.I hR5 S;refine Qe<|QA (us:=[Qy G]) U U og (show 1*9<=1000000 by decide) oA λh9 ho H gn hA=>?_;have hB:At [] ho.heap ⟨h9,0,none⟩ (Qy G):=by have:=hA.at (L:=[]) oe;simpa using this
    refine Qe<|Vc (m:=1) (news:=Qy G) (YA.I h8 H).own U U U hB (VE (hh [] oe)) oa (ov S.size H.size) λv6 hi hC J hD=>?_;refine Qb ?_;have hE:JE I.heap.size hi v6 (l5++[G]):=hR5.app (S.D H) g5 (λL hL=>(hh L hL).I H) hC J hD;have hF:O5 [] I hi:=((hM.D S).D H).then J λb hb=>.inr (Qi hR5.own b hb).1;refine Qv<|QP U U<|Qa<|xe<|⟨(k5+1,v6,l5++[G],o5++[G.it]),by show c.cs.length - (k5+1)<c.cs.length - k5;omega,oA,E,hF,hE,by simp only[];rw[Ls,gb,LB];rfl,by simp[gt],?_⟩;simp only[];rw[h7];exact gk
   have E:k4<c.ex.length:=by have ht:(k4:Int)<(c.ex.length:Int):=Y;omega
   have hj:c.ex.drop k4=c.ex[k4]'E::c.ex.drop (k4+1):=LF E;have hk:c.ex.take (k4+1)=c.ex.take k4++[c.ex[k4]'E]:=Lm E;have T:=Ll E;have V:=h1.I hr;refine Qh<|Qd<|Qg<|Qc<|O8 (g:=Q5) (i:=k4) XC V.ex.arr U U E λgh hf=>?_;refine Zj (c.ex[k4]'E) λq hq=>?_;rw[hq]at hf hk T hj;have ha:=V.ex.each q T;have hv:=V.ex.nm q T;rw[hj,LH]at hK;refine x (Qw hf U U)<|Qe<|Qo (us:=[.string .empty,Zz]) U λb5 w6 J hw hy=>Qe<|Qj (us:=Q5 q) hy U U U U ⟨U,ha.one,Z⟩ λw7 hz hl=>xe ?_;have O:O5 [] w4 w7:=J.O hz hw;have gi:=O.size;refine Qc<|Qs U ((hH.I hr).I O) U U<|Q9 hl U U<|QN<|(Qjz (V.co.I O) (ha.I O) hv (gv q T)).mono ?_;rintro r8 w8 ⟨h2,hm⟩;have hU:=O.D h2;refine Or.elim (QlN (Vk (c.co.map (·.it)) q.ls)) (λhn=>?_) (λhn=>?_)
   ·have hV:=QgQ hK hn;rw[hn]at hm;have he:r8=.tuple #[.agg z9.toArray,oF oG 2]:=hm;subst he;refine Qa<|Zd U U<|Zd U U<|Qe<|Qo (us:=z9) U λgj w9 h3 h4 h6=>Qe<|Qj (us:=z9) h6 U U U U ⟨U,U,U,U,U,U,U,U,U,Z⟩ λho H hW=>Qb<|Qd<|Qm<|ZD U U<|xe<|QZ U (λhg=>?_) (λhg=>OW (show(2:Int)≠0 by decide) hg);refine Qm<|x Ql<|Qb<|Qk ⟨[Zz,oF oG 2],oA,hO.D ((hr.D hU).D (h3.O H h4)),Zz,?_,λ_=>U,λe=>?_⟩
    ·rw[hG (.inl hV)];rfl
    rw[hG (.inl hV)]at e;exact OW e og
   refine Exists.elim hn λn hn=>?_;have gk:=QgP hK hn;rw[hn]at hm;have he:∃d:DV,r8=.tuple #[.agg (Qy d).toArray,oF oG 0]/\d.it=⟨3,q.nm,V9,n,[],0⟩/\∀L:LN,(∀b∈L,b<w7.heap.size)->Jg L w8.heap d:=hm;refine Exists.elim he λG he=>?_;have gl:=he.1;have h7:=he.2.1;have hp:=he.2.2;subst gl;have gm:Jg [] w8.heap G:=hp [] oe;refine Qa<|Zd U U<|Zd U U<|Qe<|Qo (us:=z9) U λgj g7 h3 h4 h6=>Qe<|Qj (us:=Qy G) h6 U U U U gm.ones λw9 H hW=>Qb ?_;have hX:O5 [] w8 w9:=h3.O H h4;have S:=hU.D hX;have hh:∀L:LN,(∀b∈L,b<w4.heap.size)->Jg L w9.heap G:=λL hL=>(hp L (λb hb=>ou (hL b hb))).I hX;refine Qd<|Qm<|ZD U U<|xe<|QZ U (λhg=>OW U hg) (λhg=>?_);refine Qh<|Qv<|Qa<|Q9 hW U U<|?_;have h8:JE I.heap.size w9 v4 l4:=YA.I hT S;refine Qe<|QA (us:=[Qy G]) U U og (show 1*9<=1000000 by decide) oA λh9 ho H gn hA=>?_;have hB:At [] ho.heap ⟨h9,0,none⟩ (Qy G):=by have:=hA.at (L:=[]) oe;simpa using this
   refine Qe<|Vc (m:=1) (news:=Qy G) (YA.I h8 H).own U U U hB (VE (hh [] oe)) oa (ov S.size H.size) λv6 hi hC J hD=>?_;refine Qb ?_;have hE:JE I.heap.size hi v6 (l4++[G]):=hT.app (S.D H) g2 (λL hL=>(hh L hL).I H) hC J hD;have hF:O5 [] I hi:=((hr.D S).D H).then J λb hb=>.inr (Qi hT.own b hb).1;refine Qv<|QP U U<|Qa<|xe<|⟨(k4+1,v6,l4++[G],o4++[G.it]),by show c.ex.length - (k4+1)<c.ex.length - k4;omega,oA,E,hF,hE,by simp only[];rw[Ls,ga,LB];rfl,by simp[gs],?_⟩;simp only[];rw[h7];exact gk
  have E:k3<c.rq.length:=by have ht:(k3:Int)<(c.rq.length:Int):=Y;omega
  have hj:c.rq.drop k3=c.rq[k3]'E::c.rq.drop (k3+1):=LF E;have hk:c.rq.take (k3+1)=c.rq.take k3++[c.rq[k3]'E]:=Lm E;have T:=Ll E;have V:=h1.I hJ;refine Qh<|Qd<|Qg<|Qc<|O8 (g:=QM) (i:=k3) Yn V.rq.arr U U E λgh hf=>?_;refine Zj (c.rq[k3]'E) λq hq=>?_;rw[hq]at hf hk T hj;have ha:=V.rq.each q T;have hv:=V.rq.nm q T;refine x (Qw hf U U)<|Qe<|Qo (us:=[.string .empty,Zz,oF oG 0,Zz,Zz]) U λb5 w6 J hw hy=>Qe<|Qj (us:=QM q) hy U U U U ⟨U,ha.al.one,U,ha.mr.one,ha.ed.one,Z⟩ λw7 hz hl=>xe ?_;have O:O5 [] w3 w7:=J.O hz hw;refine Qv<|Qa<|Qs U hl U U<|Zc U<|x (Zv (us:=[q.p.va,oF oG q.p.a.st,q.p.vm,q.p.ve]) hl U U U)<|x (Zn [(0,[oF oG 2]),(1,[.string q.nm]),(2,[q.p.va,oF oG q.p.a.st,q.p.vm,q.p.ve])] ⟨U,U,U,U,U,U,Z⟩) <|
   QN<|(Kr (q:=⟨2,q.nm,q.p,Zz,[],Zz,[],0⟩) (L:=[]) ⟨hv,ha.I O,qU.nil,qU.nil⟩).mono ?_
  rintro r8 w9 ⟨h2,G,rfl,h7,hp⟩;have S:=O.D h2;have gi:=O.size;have hh:∀L:LN,(∀b∈L,b<w3.heap.size)->Jg L w9.heap G:=λL hL=>hp L (λb hb=>ou (hL b hb));have h8:JE I.heap.size w9 v3 l3:=YA.I hQ S;refine Qe<|QA (us:=[Qy G]) U U og (show 1*9<=1000000 by decide) oA λh9 ho H gn hA=>?_;have hB:At [] ho.heap ⟨h9,0,none⟩ (Qy G):=by have:=hA.at (L:=[]) oe;simpa using this
  refine Qe<|Vc (m:=1) (news:=Qy G) (YA.I h8 H).own U U U hB (VE (hh [] oe)) oa (ov S.size H.size) λv6 hi hC J hD=>?_;refine Qb ?_;have hE:JE I.heap.size hi v6 (l3++[G]):=hQ.app (S.D H) gz (λL hL=>(hh L hL).I H) hC J hD;have hF:O5 [] I hi:=((hJ.D S).D H).then J λb hb=>.inr (Qi hQ.own b hb).1;refine Qv<|QP U U<|Qa<|xe<|⟨(k3+1,v6,l3++[G],o3++[G.it]),by show c.rq.length - (k3+1)<c.rq.length - k3;omega,oA,E,hF,hE,by simp only[];rw[Ls,hS,LB];rfl,by simp[gr],?_⟩;simp only[];rw[hk,Ls,<-hZ,h7];rfl
 have E:k2<c.co.length:=by have ht:(k2:Int)<(c.co.length:Int):=Y;omega
 have hj:c.co.drop k2=c.co[k2]'E::c.co.drop (k2+1):=LF E;have hk:c.co.take (k2+1)=c.co.take k2++[c.co[k2]'E]:=Lm E;have T:=Ll E;have V:=h1.I hI;refine Qh<|Qd<|Qg<|Qc<|O8 (g:=QM) (i:=k2) Yn V.co.arr U U E λgh hf=>?_;refine Zj (c.co[k2]'E) λq hq=>?_;rw[hq]at hf hk T hj;have ha:=V.co.each q T;have hv:=V.co.nm q T;refine x (Qw hf U U)<|Qe<|Qo (us:=[.string .empty,Zz,oF oG 0,Zz,Zz]) U λb5 w6 J hw hy=>Qe<|Qj (us:=QM q) hy U U U U ⟨U,ha.al.one,U,ha.mr.one,ha.ed.one,Z⟩ λw7 hz hl=>xe ?_;have O:O5 [] w2 w7:=J.O hz hw;refine Qv<|Qa<|Qs U hl U U<|Zc U<|x (Zv (us:=[q.p.va,oF oG q.p.a.st,q.p.vm,q.p.ve]) hl U U U)<|x (Zn [(0,[oF oG 1]),(1,[.string q.nm]),(2,[q.p.va,oF oG q.p.a.st,q.p.vm,q.p.ve])] ⟨U,U,U,U,U,U,Z⟩) <|
  QN<|(Kr (q:=⟨1,q.nm,q.p,Zz,[],Zz,[],0⟩) (L:=[]) ⟨hv,ha.I O,qU.nil,qU.nil⟩).mono ?_
 rintro r8 w9 ⟨h2,G,rfl,h7,hp⟩;have S:=O.D h2;have gi:=O.size;have hh:∀L:LN,(∀b∈L,b<w2.heap.size)->Jg L w9.heap G:=λL hL=>hp L (λb hb=>ou (hL b hb));have h8:JE I.heap.size w9 v2 l2:=YA.I hR2 S;refine Qe<|QA (us:=[Qy G]) U U og (show 1*9<=1000000 by decide) oA λh9 ho H gn hA=>?_;have hB:At [] ho.heap ⟨h9,0,none⟩ (Qy G):=by have:=hA.at (L:=[]) oe;simpa using this
 refine Qe<|Vc (m:=1) (news:=Qy G) (YA.I h8 H).own U U U hB (VE (hh [] oe)) oa (ov S.size H.size) λv6 hi hC J hD=>?_;refine Qb ?_;have hE:JE I.heap.size hi v6 (l2++[G]):=hR2.app (S.D H) gx (λL hL=>(hh L hL).I H) hC J hD;have hF:O5 [] I hi:=((hI.D S).D H).then J λb hb=>.inr (Qi hR2.own b hb).1;refine Qv<|QP U U<|Qa<|xe<|⟨(k2+1,v6,l2++[G],o2++[G.it]),by show c.co.length - (k2+1)<c.co.length - k2;omega,oA,E,hF,hE,by simp only[];rw[Ls,hP,LB];rfl,by simp[gq],?_⟩;simp only[];rw[hk,Ls,<-hY,h7];rfl
structure CSz (c:Zt):Prop where
 c1:c.co.length<=1000
 c2:c.rq.length<=1000
 c3:c.ex.length<=1000
 c4:c.cs.length<=1000
 x:∀q∈c.ex,q.ls.length<=100000
 k:∀q∈c.cs,q.ts.length<=100000
theorem QgA {n:Int}(h:YW l)(E:∀x∈l,0<=x/\x<n)(G:n<=8):l.length<=8:=by
 have:=X5 l 0 n h E;omega
theorem Qbh (h:Zi c=0):CSz c:=by
 have E:=VG.1 h;have hd:=Vo E.cd;have hl:=Qaf E.cd;have I:(szs c.co).length=c.co.length:=Lh _;have J:=E.n8;refine⟨oa,ou E.n12,ou hd.xl,ou hd.kl,λq G=>?_,λq G=>?_⟩
 ·have:=QgA (hl.1 q G).1 (n:=((szs c.co).length:Int)) (λx hx=>by
   obtain⟨p,H,rfl⟩:=LC.1 hx;exact hd.x q G p H) oa
  rw[Lh]at this;omega
 have:=(hd.k q G).2;omega
theorem CSz.its {c:CL}(h:CSz c.V):c.co.length<=1000/\c.rq.length<=1000/\c.ex.length<=1000/\c.cs.length<=1000/\(∀q∈c.ex,q.ls.length<=100000)/\∀q∈c.cs,q.ts.length<=100000:=by
 have e1:c.V.co.length=c.co.length:=Lh _;have e2:c.V.rq.length=c.rq.length:=Lh _;have G:c.V.ex.length=c.ex.length:=Lh _;have H:c.V.cs.length=c.cs.length:=Lh _;exact⟨e1 ▸ h.c1,e2 ▸ h.c2,G ▸ h.c3,H ▸ h.c4,λq E=>h.x q.x (LJ E),λq E=>h.k q.k (LJ E)⟩
theorem QdE {c:CL}(E:ZH L w.heap c)(G:CSz c.V):
  Q6 prog 42 [c.val] w λr w'=>O5 [] w w'/\∃v,r=.tuple #[v,oF oG (ZP c.V).1]/\((ZP c.V).1≠0->v=Zz)/\((ZP c.V).1=0->∃l,JE w.heap.size w' v l/\l.map DV.it=(ZP c.V).2):=
 let h:=G.its;QkN E h.1 h.2.1 h.2.2.1 h.2.2.2.1 h.2.2.2.2.1 h.2.2.2.2.2
theorem QjV {c:CL}(E:ZH L w.heap c)(G:CSz c.V):
  Q6 prog 44 [c.val] w λr w'=>O5 [] w w'/\Qei w.heap.size w'.heap r c.V :=
 let h:=G.its;Qpl E h.1 h.2.1
abbrev z9s:LV:=[nS,nS,nS,nS,nS,nS,oF oG 0,nS,nS]
instance:Bw prog 136 z9s [(0,5),(5,1),(6,1),(7,1),(8,1)]:=⟨od,og⟩
abbrev Qdw:O2:=.pointer none
abbrev pS (b:Nat):O2:=.pointer (some ⟨b,0,none⟩)
theorem QkK {c:CL}(I:ZH L w.heap c)(hz:CSz c.V)(hy:Kb w 4096):
  Q6 prog 11 [c.val] w λr w'=>O5 [] w w'/\∃vp,r=.tuple #[vp,oF oG (yn c.V)]/\(yn c.V≠0->vp=Qdw)/\(yn c.V=0->∃s:KZ,vp=pS s.b/\s.sys=Qgl c.V/\(∀b∈s.own,w.heap.size<=b)/\Ul (s.own++oT w.heap.size) w' s):=by
 have h:=I.up (L':=[]) oe;have H:yn c.V=if(ZP c.V).1≠0 then(ZP c.V).1 else if Zi c.V≠0 then Zi c.V else JQ c.V [] 0:=rfl
 refine Zj (yn c.V) λE hE=>?_;rw[hE]at H ⊢;refine Zo func11 ?_;refine Qc<|Qe<|QV (us:=c.cells) U λb1 w1 hm h1 S=>x Ql<|Qb<|Qd<|Qc<|Q9 S U U<|QN<|(QdE (h.I hm) hz).mono ?_;rintro r2 w2 ⟨T,v2,rfl,_,_⟩;have hf:=hm.D T;have hJ:=T.size;refine Qa<|Zd U U<|Zd U U<|x Ql<|Qb<|Qm<|ZD U U<|xe<|QZ rfl (λY=>?_) (λY=>?_)
 ·rw[OU Y]at H;refine Qm<|x Ql<|Qb<|Qk ⟨[Qdw,oF oG (ZP c.V).1],oA,hf,Qdw,by rw[H];rfl,λ_=>U,λI=>OW (H.symm.D I) Y⟩
 rw[OT Y]at H;refine Qh<|Qd<|Qc<|Q9 (S.I T) U U<|QN<|(X7 (h.I hf)).mono ?_;rintro r3 w3 ⟨rfl,ha⟩;have hg:=hf.D ha;have hK:=ha.size;refine Qb<|Qm<|ZD U U<|xe<|QZ rfl (λhc=>?_) (λhc=>?_)
 ·rw[OU hc]at H;refine Qm<|x Ql<|Qb<|Qk ⟨[Qdw,oF oG (Zi c.V)],oA,hg,Qdw,by rw[H];rfl,λ_=>U,λI=>OW (H.symm.D I) hc⟩
 rw[OT hc]at H;have hL:=S.lt;refine Qh<|Qc<|Q9 ((S.I T).I ha) U U<|QN<|(QjV (h.I hg) hz).mono ?_;rintro _ w4 ⟨hh,c4,rfl,hn,ho⟩;have h2:=hg.D hh;have hM:=hh.size;refine Qe<|Qj (us:=c4.cells) (((S.I T).I ha).I hh) U U U U (ho [] oe).ones λw5 hi hp=>xe ?_;have hr:O5 [] w w5:=h2.O hi h1;have hN:=hi.size;have h3:∀b∈b1::oT w.heap.size,b<w3.heap.size:=λb G=>by
  rcases Li.1 G with rfl|G
  ·omega
  have:=M5.1 G;omega
 have hs:ZH (b1::oT w.heap.size) w5.heap c4:=(ho _ h3).st (hi.mono oe);have hbld:=QcS (L':=oT w.heap.size) (vb:=Zz) (ps:=[]) (v:=0) hs ⟨Zp.nil _ _ _,oe⟩ (λb G=>ou (M5.1 G)) .nil oe (hy.I hr);rw[hn]at hbld;refine Qc<|Q9 hp U U<|QN<|hbld.mono ?_;rintro r6 w6 ⟨he,vp,us,rfl,h4,h5,hO,h6⟩;have h7:=hr.D he;have hP:=he.size;refine Qa<|Zd U U<|Zd U U<|Zd U U<|Qe<|Qo (us:=Y6) U λb8 w7 h8 h9 hA=>x Ql <|
  Qe<|Qj (us:=us) hA U U h4 U h5 λw8 hB ht=>Qb ?_
 have O:O5 [] w6 w8:=h8.O hB h9;have hu:=h7.D O;refine Qd<|Qm<|ZD U U<|xe<|QZ rfl (λhj=>?_) (λhj=>?_)
 ·refine Qm<|x Ql<|Qb<|Qk ⟨[Qdw,oF oG (JQ c.V [] 0)],oA,hu,Qdw,by rw[H];rfl,λ_=>U,λI=>OW (H.symm.D I) hj⟩
 have hk:JQ c.V [] 0=0:=Lo.1 hj;refine Exists.elim (h6 hk) λqs J=>Exists.elim J λq J=>?_;have hC:us=[q.v1,q.v2,q.v3]:=J.1;rw[hC]at ht;have hD:=J.2.2.2.2.2 [] oe;have hF:=hD.I O;refine Qh<|Qc<|Q9 (hp.I (he.D O)) U U<|Qa<|Qs U ht U U<|x (YX hF.a2 U) <|
  x (Zn [(0,c4.cells),(1,[vp]),(2,[oF oG (q.k2.length:Int)])] ⟨U,U,xM J.2.2.2.1,U,U,U,Z⟩) <|
  Qe<|QV (us:=Qax ⟨0,⟨c4,vp,qs⟩,q.k2.length,Zz,[],Zz,[]⟩) U λV w9 hl hG hv=>x Ql<|Qb ?_
 have hQ:=O.size;have hR:=hv.lt;have hH:=J.2.2.2.2.1;have hw:∀b∈V::oT w.heap.size,b∈oT w.heap.size\/w8.heap.size<=b:=λb G=>by
  rcases Li.1 G with rfl|G
  ·exact .inr hG
  exact .inl G
 refine Qk ⟨[pS V,oF oG 0],oA,hu.D hl,pS V,by rw[H,hk];rfl,λI=>OW (H.D hk) I,λ_=>⟨⟨V,⟨c4,vp,qs⟩,q.k2.length,Zz,[],Zz,[]⟩,U,?_,λb G=>?_,?_⟩⟩
 ·unfold KZ.sys Qgl;simp only[];rw[hn];have e1:qs.map (·.pt)=yY c.V [] 0:=J.2.1;have e2:q.rp=YS c.V [] 0:=J.2.2.1;have e3:(YS c.V [] 0).made=q.k2:=by rw[<-e2];rfl
  rw[e1,e3];rfl
 ·have hI:b∈[V]:=G;rw[Lb.1 hI];omega
 refine⟨⟨_,hv⟩,QI _ _ _ _,QI _ _ _ _,by simp[ob],by simp[ob],by simp[ob],λb G=>Lc.2 (.inl G),⟨?_,?_⟩,oe,oe⟩
 ·exact(((hs.I (he.D O)).up λb G=>(hw b G).imp (Lj _) id).I hl)
 exact(Go.Lg.K1.up (Go.Lg.K1.I hH O) hw).I hl
theorem zW {s:KZ}(h:Ul L w s):
  Q6 prog 12 [pS s.b] w λr w'=>r=oF oG s.made/\w'=w:=by
 obtain⟨T,E⟩:=h.blk;refine Zo func12 ?_;refine Qc<|Qb<|Qd<|Qm<|x (J3 underlying46 U U)<|xe<|Z0 rfl<|Qh<|Qm<|Yt U<|Qs U E U U<|Qb<|Qk ⟨[_],La,U,U⟩
theorem Qe8 {α:Type}(g:α->LV)(sz:Nat)(E:∀x,(g x).length=sz):∀(l:List α) (k:Nat),(l.flatMap g).drop (k*sz)=(l.drop k).flatMap g
 | [],k=>oe
 | a::l,0=>oe
 | a::l,k+1=>by
  rw[show(k+1)*sz=(g a).length+k*sz by rw[E a,Nat.succ_mul];omega,LM,List.drop_append,Lr oa,Mb,MO,Qe8 g sz E l k];rfl
theorem Qct {base:Nat}{v:O2}{l:List DV}(h:JE base w v l):∀q∈l,∀u∈Qy q,u.oneCell'=true:=λq E=>VE (h.each q E [] oe)
theorem JE.turn {base:Nat}{v r:O2}{l l':List DV}(h:JE base w v l)(G:O5 (ob v) w w')(H:∀b∈ob r,b∈ob v)(hl:∀q∈l',q∈l)(I:w'.ownsRow base 63 9 r l'.length (l'.flatMap Qy)):JE base w' r l' :=
 ⟨I,λq J L O=>Mm.mono (Mm.st (L:=ob v++L) (h.each q (hl q J) _ λb E=>by
  rcases Lc.1 E with E|E
  ·exact .inr E
  exact(O b E).imp id (H b)) (G.mono λb E=>Lc.2 (.inl E))) λb E=>Lc.2 (.inr E)⟩
theorem QmL {base:Nat}{v:O2}{l:List DV}(hR:JE base w v l){k:Nat}(hk:k<l.length)(hl:l.length<=1000):
  Q6 prog 165 [v,oF oG (k:Int),oF oG ((k+1:Nat):Int)] w λr w'=>O5 (ob v) w w'/\JE base w' r (l.take k++l.drop (k+1)):=by
 have h:=hR.own;have he:=Qct hR;have O:∀(r:O2) (w':O1),O5 (ob v) w w'/\ob r=ob v/\w'.ownsRow base 63 9 r (l.length - 1) ((l.take k++l.drop (k+1)).flatMap Qy)->O5 (ob v) w w'/\JE base w' r (l.take k++l.drop (k+1)):=λr w' ⟨G,I,h3⟩ =>
  ⟨G,JE.turn hR G (λb hb=>I ▸ hb) (λq J=>(Lc.1 J).elim (λh=>LY h) (λh=>Ma h)) (by
   have e:(l.take k++l.drop (k+1)).length=l.length - 1:=by rw[Lk,Ly,LU];omega
   rw[e];exact h3)⟩
 refine Q6.mono ?_ O;clear O hR;obtain⟨g,cap,rfl⟩:=JB h oa;obtain⟨ht,cur,hB,hf,hg⟩:=KC h;refine Zo func165 ?_;refine Qc<|Qb<|Qm<|Qa<|Qa<|Qa<|x (Uw U)<|x (Qgc (lo:=k) (hi:=k+1) (m:=l.length) U U U U oa oa oa)<|xe<|Qd<|Qm<|Qa<|x (Q2 U U)<|xe<|QZ rfl (λS=>OW (show(k:Int)=((k+1:Nat):Int) from S) oa) (λS=>?_);refine Qh<|Qm<|x (Uw U)<|Qb ?_;have H:((l.drop (k+1)).flatMap Qy).length=(l.length - (k+1))*9:=by rw[xG ZX,LU]
 have hh:At [] w.heap ⟨g,if cap=k+1 then 0 else(k+1)*9,none⟩ ((l.drop (k+1)).flatMap Qy):=by
  by_cases hc:cap=k+1
  ·have:(l.drop (k+1)).flatMap Qy=[]:=Lq (by rw[H];omega);rw[this];exact⟨λu E=>(by cases E),λu E=>(by cases E),λj u E=>(by cases E)⟩
  rw[OT hc];have G:=QfO (QK (L:=[]) h oa oe) rfl;refine⟨λu _=>oe,λu E=>G.lt u (by rw[<-Qe8 Qy 9 ZX]at E;exact Ma E),λj u E=>?_⟩;rw[<-Qe8 Qy 9 ZX,MH]at E;have I:=G.cell _ u E;have e:(⟨g,(k+1)*9,none⟩:Addr).add j=(⟨g,0,none⟩:Addr).add ((k+1)*9+j):=by rw[Addr.add_lit,Addr.add_lit,LS]
  rw[e];exact I
 have hj:∀u∈(l.drop (k+1)).flatMap Qy,u.oneCell'=true:=λu E=>by
  obtain⟨q,J,E⟩:=Mf.1 E;exact he q (Ma J) u E
 refine Qd<|qH (λ_=>True) [oD 0,oD 1,oD 2,oD 3,oD 4,oD 5,oE 6,oD 7] mixed ol od Z ?_;have hd:O5 [] w { w with drawn:=w.drawn+1 }:=O5.C _ _
 refine p QF<|p QF<|p (λ_=>Jz (hi:=k) U U oa)<|p QF<|p QF<|p (λ_=>U9 (lo:=k+1) U U oa) <|
  pk<|Qon (g:=g) (n:=k) (cap:=cap) (cur:=cur) (m:=l.length - (k+1)) (L:=[]) hB U hf U H (hh.I hd) hj oa λw2 hm T=>⟨Z,p ZI<|pe ?_⟩
 have hn:O5 [g] w w2:=hd.any.Q hm;have em:k+(l.length - (k+1))=l.length - 1:=oa
 have V:(cur.take (k*9)++(l.drop (k+1)).flatMap Qy).length=(l.length - 1)*9:=by
  rw[Lk,Ly,H];omega
 have ho:(cur.take (k*9)++(l.drop (k+1)).flatMap Qy++cur.drop (k*9+((l.drop (k+1)).flatMap Qy).length)).length=cap*9:=by
  rw[Lk,V,LU,H];omega
 have Y:(cur.take (k*9)++(l.drop (k+1)).flatMap Qy++cur.drop (k*9+((l.drop (k+1)).flatMap Qy).length)).take ((l.length - 1)*9)=(l.take k++l.drop (k+1)).flatMap Qy:=by
  rw[List.take_left' V,LA,<-j0 Qy 9 ZX l k,<-hg,Nb,Mn oa]
 refine Zj (cur.take (k*9)++(l.drop (k+1)).flatMap Qy++cur.drop (k*9+((l.drop (k+1)).flatMap Qy).length)) λhv hp=>?_;rw[hp]at T ho Y;refine Qm<|Qa<|x (Uw U)<|Qa<|x (Qgb (lo:=k+(l.length - (k+1))) (hi:=l.length) U U U oa oa oa) <|
  Qe<|QeI (m:=l.length - (k+(l.length - (k+1)))) (o:=(k+(l.length - (k+1)))*9) (λu E=>by simp[Value.cells]at E;rcases E with rfl|rfl|rfl|rfl|rfl|rfl|rfl|rfl|rfl <;> rfl) T ⟨_,rfl,λ_=>⟨U,oa⟩⟩ λw3 hw hr hs hy ha=>xe ?_
 refine Qm<|Qb<|Qk ⟨[.slice (some ⟨g,0,none⟩) (k+(l.length - (k+1))) cap],La,hn.Q hr,U,?_⟩;rw[em]at ha ⊢;exact Uy h oa hs oa (ha.D Y) (by rw[xG ZX,Lk,Ly,LU];omega)
section
variable {pS:String}
theorem zx {e bys:Nat}[h:Sl P t e sz bys z]{x:O3}{dLen dCap:Nat}{cur:LV}{a:Addr}{sLen sCap:Nat}(G:Q7 w.heap g T cur)(hx:ev f x=.slice (some ⟨g,o,none⟩) dLen dCap)(J:ev f y=.slice (some a) sLen sCap)
  (O:cs.length=Nat.min sLen dLen*sz)  (S:At L w.heap a cs) (V:o+cs.length<=cur.length) (Y:∀u∈cs,u.oneCell'=true)
  (hK:∀w',O5 [g] w w'->Q7 w'.heap g T (cur.take o++cs++cur.drop (o+cs.length))->K (QW f d (goInt (Nat.min sLen dLen))) w'):XO P ⟨d,.call ⟨.builtin .copy,#[x,y],#[t,E]⟩,ty,pS,af,gd⟩ f w K:=by
 obtain⟨i,hi,hz,ha,_⟩:=Sl.info h;have hl:=run_loadCells_list (P:=P) w a cs S.cells;have H:=run_storeCells_at P g o T cs 0 cur.toArray w G (oz V) Y;have I:(Builtin.copy_ #[t,E] ty #[.slice (some ⟨g,o,none⟩) dLen dCap,.slice (some a) sLen sCap]).run P w=.ok (goInt (Nat.min sLen dLen)) (w.setRow g (cur.take o++cs++cur.drop (o+cs.length)).toArray):=by
  simp[Builtin.copy_,run_underlying h.u,Builtin.lenOf,Builtin.firstCells,sizeOf,typeInfo,hi,ha,<-O,hl]at H ⊢;simp[H]
 have hb:(execOp (ev f) ⟨d,.call ⟨.builtin .copy,#[x,y],#[t,E]⟩,ty,pS,af,gd⟩).run P w=.ok (.value (goInt (Nat.min sLen dLen))) (w.setRow g (cur.take o++cs++cur.drop (o+cs.length)).toArray):=by
  simp[execOp,resolve,invoke,builtin,hx,J]at I ⊢;simp[I]
 exact xv hb (hK _ (O5.setRow _ _ _) (X2 G))
end
section
variable {pS:String}
theorem Qol {ti e bys:Nat}[h:Sl P t e sz bys z](T:P.underlying ti=some (.int .i64)){s:O3}{E:Addr}{L0:LN}(V:At L0 w.heap E cs)(Y:ev f s=.slice (some E) n cap)(G:cs.length=n*sz)
  {m:Nat} (hy:ev f y=oF oG m) (hm:0<m) (ha:cap<n+m) (hb:n+m<=1048576)
  (hK:∀b c' w' zs,O5 [] w w'->w.heap.size<=b->n+m<=c'->zs.length=m*sz->w'.ownsRow w.heap.size e sz (.slice (some ⟨b,0,none⟩) (n+m) c') (n+m) (cs++zs)->K (QW f d (.slice (some ⟨b,0,none⟩) (n+m) c')) w') (hc:bys<=131072:=by decide):
  XO P ⟨d,.call ⟨.builtin .append,#[s,y],#[t,ti]⟩,ty,pS,af,gd⟩ f w K:=by
 obtain⟨i,hi,hz,I,J⟩:=Sl.info h;have he:=h.pos;have O:(n+m)*bys<=140737488355328:=LP (Nat.mul_le_mul hb hc) oa;have hf:n+m<=maxLen:=by simp only[maxLen];omega
 have hn:¬(n+m<=cap):=oa
 have hg:¬(9223372036854775807<((n:Int)+(m:Int))):=oa
 have hu:=growslice_fits (bytes:=i.bytes) ha (by rw[J];exact O);have hh:¬(281474976710656<Builtin.nextslicecap (n+m) cap*i.bytes):=oa
 have hj:=run_firstCells_some (P:=P) w.drew i.size n E n cap cs (by rw[I];exact G) (oz V.cells);have hl:IntKind.i64.wrap (m:Int)=(m:Int):=by rw[IntKind.wrap_i64];omega
 have ho:¬((m:Int)<0):=oa
 have hv:m*i.bytes<=140737488355328:=by rw[J];exact LP (L3 _ (Nat.le_add_left m n)) O
 have hp:¬(281474976710656<(m:Int)*(i.bytes:Int)):=by
  have:((m*i.bytes:Nat):Int)<=140737488355328:=oa
  rw[Int.natCast_mul]at this;omega
 have hr:(Builtin.append_ #[t,ti] ty #[.slice (some E) n cap,oF oG m]).run P w=.ok (.slice (some ⟨w.heap.size,0,none⟩) (n+m) (grownCap w (n+m) cap e)) (w.drew.alloc (Obj.cells (cs.toArray++(Builtin.zeroCells z.cells m).toList.toArray++Builtin.zeroCells z.cells (grownCap w (n+m) cap e - (n+m))) e)):=by
  simp[Builtin.append_,run_underlying h.u,run_underlying T,sizeOf,typeInfo,zeroValue,hi,hz,hn,hg,hh,Question.forced,hj,newRow,grownCap,asInt,asIntOf,hl,ho,hp];intro h0;have h1:0<m*i.size:=Nat.mul_pos hm (by rw[I];exact he);omega
 have hq:(execOp (ev f) ⟨d,.call ⟨.builtin .append,#[s,y],#[t,ti]⟩,ty,pS,af,gd⟩).run P w=.ok (.value (.slice (some ⟨w.heap.size,0,none⟩) (n+m) (grownCap w (n+m) cap e))) (w.drew.alloc (Obj.cells (cs.toArray++(Builtin.zeroCells z.cells m).toList.toArray++Builtin.zeroCells z.cells (grownCap w (n+m) cap e - (n+m))) e)):=by
  simp[execOp,resolve,invoke,builtin,Y,hy,hr]
 have hge:=grownCap_ge w (n+m) cap e;have ht:grownCap w (n+m) cap e<=maxLen:=grownCap_le_maxLen w (n+m) cap e hf;have H:(Builtin.zeroCells z.cells m).toList.length=m*sz:=by simp[Builtin.zeroCells,h.zs]
 have S:(cs++(Builtin.zeroCells z.cells m).toList).length=(n+m)*sz:=by rw[Lk,G,H,Mu]
 refine xv hq (hK _ _ _ _ ⟨U,U,U,by rw[VH];exact OP _,λk hk _=>qF w.drew _ k hk⟩ (Lx _) hge H ⟨S,.inr ⟨w.heap.size,_,_,U,Lx _,Ki w.drew _,hge,ht,?_,?_⟩⟩)
 ·simp only[Array.size_append,Od,size_zeroCells,h.zs,G,H,<-Oq];congr 1;omega
 simp only[Array.toList_append,oV];rw[<-LB,<-S];exact List.take_left
theorem Qp9 {x:O3}{a:Option Addr}{c e:Nat}(E:P.underlying t=some (.slice e))(hx:ev f x=.slice a n c):
  (execOp (ev f) ⟨d,.call ⟨.builtin .cap,#[x],#[t]⟩,ty,pS,af,gd⟩).run P w=.ok (.value (oF oG c)) w:=by
 simp[execOp,resolve,invoke,builtin,Builtin.cap_,hx,run_underlying E,goInt]
theorem Qp8 {x:O3}{tS tR e:Nat}{ts:Array Nat}(J:P.funcs[g]?=some fn)(O:(fn.name == "runtime.NumGoroutine")=false) (S:fn.body.isNone=true) (T:Extern.findNext fn=none)
  (V:Extern.find fn=some (Extern.SlicesOverlaps.overlaps #[tS,tS] #[tR])) (Y:P.underlying tS=some (.slice e)) {size:Nat} (hz:∀w,(sizeOf e).run P w=.ok size w) {a b:Addr} {la ca lb cb TA TB:Nat} {vs:LV} (hx:ev f x=.slice (some a) la ca) (G:ev f y=.slice (some b) lb cb)
  (H:Q7 w.heap a.block TA us) (hB:Q7 w.heap b.block TB vs) (ha:a.block≠b.block) (hg:vs.length≠0) (hh:a=⟨a.block,0,none⟩):
  (execOp (ev f) ⟨d,.call ⟨.value (.func g),#[x,y],ts⟩,ty,pS,af,gd⟩).run P w=.ok (.value (.bool false)) w:=by
 have hi:w.shape? a.block=some (TA,us.length):=by
  have E:w.heap[a.block]?=some (.cells us.toArray TA (0,0)):=H;simp[World.shape?,E]
 have hj:w.shape? b.block=some (TB,vs.length):=by
  have E:w.heap[b.block]?=some (.cells vs.toArray TB (0,0)):=hB;simp[World.shape?,E]
 have hfr:∀o,w.frozen? { block:=a.block,off:=o }=false:=λo=>by
  have E:w.heap[a.block]?=some (.cells us.toArray TA (0,0)):=H;simp[World.frozen?,E]
 have hr:=Lib.run_overlaps_apart (P:=P) w tS tR e Y size hz a b la ca lb cb ha TA TB us.length vs.length hi hj hg (by rw[hh];exact hfr 0) (hfr _);have I:=run_callFunc_extern J O S T V #[ev f x,ev f y] w;rw[hx,G,hr]at I;have h0:ev f (.func g)=.func (.func g) #[] #[]:=rfl;simp[execOp,resolve,h0,Deferred.ofValue,invoke,hx,G,I,Result.andThen]
end
theorem X3 {pS:String}{e bys:Nat}[Sl P t e sz bys z]{x E:O3}{k:IntKind}(hx:ev f x=.slice (some ⟨b,0,none⟩) n cap)(hl:ev f E=.int k lo)(G:lo<=n)(I:lo<cap):
  (execOp (ev f) ⟨d,.slice t x (some E) none none,ty,pS,af,gd⟩).run P w=.ok (.value (.slice (some ⟨b,lo*sz,none⟩) (n - lo) (cap - lo))) w:=by
 have H:=U9 (P:=P) (w:=w) (d:=d) (ty:=ty) (pS:=pS) (af:=af) (gd:=gd) (t:=t) hx hl G
 rwa [OT oa]at H
theorem JE.turn2 {base:Nat}{v r:O2}{l l':List DV}(h:JE base w v l)(J:O5 (ob v) w w')(O:∀b∈ob r,b∈ob v\/w.heap.size<=b)(S:∀L:LN,(∀b∈L,b<base\/b∈ob v)->Jg L w.heap q)(hl:∀d∈l',d∈l\/d=q)
  (T:w'.ownsRow base 63 9 r l'.length (l'.flatMap Qy)):JE base w' r l':=by
 refine⟨T,λd hd L H=>?_⟩;have V:∀L:LN,(∀b∈L,b<base\/b∈ob v)->Jg L w.heap d:=λL H=>(hl d hd).elim (λG=>h.each d G L H) (λG=>G ▸ S L H);have G:Jg (ob v++L) w.heap d:=Mm.up (V (ob v++L.filter λb=>decide (b<base)) λb E=>(Lc.1 E).elim .inr λE=>.inl (OY (L8.1 E).2)) λb E=>by
  rcases Lc.1 E with E|E
  ·exact .inl (Lc.2 (.inl E))
  rcases H b E with I|I
  ·exact .inl (Lc.2 (.inr (L8.2 ⟨E,OX I⟩)))
  exact(O b I).imp (λY=>Lc.2 (.inl Y)) id
 exact Mm.mono (Mm.st G (J.mono λb E=>Lc.2 (.inl E))) λb E=>Lc.2 (.inr E)
theorem Vw {qs:LV}{s:Nat}(E:cs.length=n*s)(G:qs.length=s)(hi:i<=n):(cs.take (i*s)++qs++cs.drop (i*s)).length=(n+1)*s:=by
 have H:i*s<=n*s:=L3 _ hi;simp only[oM,Oa,o6,E,G,Oq];omega
theorem Qmi {base:Nat}{v:O2}{l:List DV}(hR:JE base w v l)(hr:base<=w.heap.size)(hl:l.length<=1000)(hi:i<=l.length)(hq:∀L:LN,(∀b∈L,b<base\/b∈ob v)->Jg L w.heap q){bq:Nat}(O:Q7 w.heap bq T (Qy q))(hJ:bq∉ob v):
  Q6 prog 168 [v,oF oG (i:Int),.slice (some ⟨bq,0,none⟩) 1 1] w λr w'=>O5 (ob v) w w'/\JE base w' r (l.take i++q::l.drop i)/\∀b∈ob r,b∈ob v\/w.heap.size<=b:=by
 have h:=hR.own;have V:=(hq [] oe).ones.all;have hs:=Qct hR;have H:(l.flatMap Qy).length=l.length*9:=xG ZX l;have ht:(l.take i++q::l.drop i).length=l.length+1:=by simp only[oM,Oa,oW,o6];omega
 have hv:(l.take i++q::l.drop i).flatMap Qy=(l.flatMap Qy).take (i*9)++Qy q++(l.flatMap Qy).drop (i*9):=by
  rw[j0 Qy 9 ZX,Qe8 Qy 9 ZX,LA,LM,LB]
 have hw:∀d∈l.take i++q::l.drop i,d∈l\/d=q:=λd hd=>by
  rcases Lc.1 hd with hd|hd
  ·exact .inl (LY hd)
  rcases Li.1 hd with rfl|hd
  ·exact .inr U
  exact .inl (Ma hd)
 have hy:∀(r:O2) (w':O1),O5 (ob v) w w'/\(∀b∈ob r,b∈ob v\/w.heap.size<=b)/\w'.ownsRow base 63 9 r (l.length+1) ((l.flatMap Qy).take (i*9)++Qy q++(l.flatMap Qy).drop (i*9))->O5 (ob v) w w'/\JE base w' r (l.take i++q::l.drop i)/\∀b∈ob r,b∈ob v\/w.heap.size<=b:=λr w' ⟨h1,h2,h3⟩ =>
  ⟨h1,hR.turn2 h1 h2 hq hw (by rw[ht,hv];exact h3),h2⟩
 refine Q6.mono ?_ hy;have Y:∀u∈l.flatMap Qy,u.oneCell'=true:=λu E=>by
  obtain⟨d,hd,E⟩:=Mf.1 E;exact hs d hd u E
 clear hy hR hw ht hv hs;refine Zj (l.flatMap Qy) λcs ha=>?_;refine Zj l.length λn hn=>?_;rw[ha,hn]at h;rw[ha,hn]at H;rw[ha]at Y ⊢;rw[hn]at hl hi ⊢;have hA:=QK (L:=[]) h oa oe;refine Zo func168 ?_;refine Qc<|Qb<|Qm<|Qa<|Qrb (lo:=i) hA U U hi λgm _=>xe ?_;refine Qm<|x (Uw U)<|Qb<|Qd<|Qm<|x (Q2 U U)<|xe<|QZ rfl (λhK=>OW (show((1:Nat):Int)=0 from hK) og) (λ_=>?_);refine Qh<|Qm<|QL hA U<|Qb<|Qd<|Qm<|Qa<|x (Q2 U U)<|xe<|QZ rfl (λhc=>?_) (λhc=>?_)
 ·have hL:i=n:=by have hM:(i:Int)=(n:Int):=hc;omega
  refine Qm<|Qa<|Qe<|Vc (m:=1) (news:=Qy q) h U U U (O.at (L:=[]) oe) V oa hr λv1 w1 hN hO hP=>Qb<|Qk ⟨[v1],⟨rfl,Z⟩,hO,hP,?_⟩;rw[hL,<-H,M8,List.drop_length,LQ];exact hN
 have gn:i<n:=by have hM:¬(i:Int)=(n:Int):=hc;omega
 obtain⟨g,cap,ev⟩:=JB h oa;have he:ob v=[g]:=by rw[ev];rfl
 have hf:=h;rw[ev]at hf;obtain⟨go,cur,J,hg,hz⟩:=KC hf;have h0:bq≠g:=λe=>hJ (by rw[he,e];exact Lb.2 U);have h4:At [] w.heap ⟨g,0,none⟩ cs:=QfO hA ev;have gp:i*9<=n*9:=L3 _ hi;have h5:∀w':O1,Q7 w'.heap g 63 cur->At [] w'.heap ⟨g,i*9,none⟩ (cs.drop (i*9)):=λw' h6=>by
  have hQ:=h6.lt;refine⟨λu _=>oe,λu _=>hQ,λj u E=>?_⟩;rw[MH,<-hz,LW]at E;split at E
  ·have e:(⟨g,i*9,none⟩:Addr).add j=⟨g,i*9+j,none⟩:=Kp g (i*9) j;rw[e,h6.cell];exact E
  cases E
 refine Qh<|Qd<|Qm<|Qa<|QP U U<|Qa<|x (Qp9 underlying126 ev)<|x (Z6 U U)<|xe<|QZ rfl (λhh=>?_) (λhh=>?_)
 ·have h7:cap<n+1:=by have hS:(cap:Int)<(n:Int)+((1:Nat):Int):=hh;omega
  have hT:At [] w.heap ⟨g,0,none⟩ (cs.take (i*9)):=⟨λu _=>oe,λu E=>h4.lt u (List.mem_of_mem_take E),λj u E=>h4.cell j u (by rw[List.getElem?_take]at E;split at E;exact E;cases E)⟩;have hU:(cs.take (i*9)).length=i*9:=by rw[Ly];omega
  refine Qm<|Qa<|x (Jz (hi:=i) ev U oa)<|Qa<|Qa<|QP U U<|Qa<|x (JH U U ⟨oa,oa⟩) <|
   Qe<|Qol (n:=i) (cap:=cap) (m:=n+1 - i) underlying3 hT U hU (show Go.Lg.ev _ _=_ from OV (Value.int .i64) oa) oa oa oa λb2 c2 w2 zs hj h8 gq gr hk=>Qb ?_
  have en:i+(n+1 - i)=n+1:=oa
  obtain⟨_,G,hV,hW,h9⟩:=KC hk;rw[en]at h9;have gs:(n+1)*9<=G.length:=by rw[hW];exact L3 _ oa
  have n2g:g≠b2:=by have:=J.lt;omega
  have hX:(i+1)*9<=(n+1)*9:=L3 _ oa;refine Qm<|Qa<|x (X3 (lo:=i) U U oa oa)<|Qa<|Qe<|zx (cs:=Qy q) hV U U (by rw[show Nat.min 1 (i+(n+1 - i) - i)=1 from Mn oa];exact ZX q) ((O.I hj).at (L:=[]) oe) (by rw[ZX];omega) V λw3 hC hD=>xe ?_;have hY:=(J.I hj).J hC (oz n2g);have hm:(G.take (i*9)++Qy q++G.drop (i*9+(Qy q).length)).length=G.length:=by simp only[oM,Oa,o6,ZX];omega
  have hE:(G.take (i*9)++Qy q++G.drop (i*9+(Qy q).length)).take ((i+1)*9)=cs.take (i*9)++Qy q:=by
   have e1:(G.take (i*9)++Qy q).length=(i+1)*9:=by rw[Lk,Ly,ZX];omega
   rw[List.take_left' e1];congr 1;have:=OV (List.take (i*9)) h9;rw[Nb,Mn oa,M4 oa,Nb,Nat.min_self]at this;exact this
  refine Zj (G.take (i*9)++Qy q++G.drop (i*9+(Qy q).length)) λgt hZ=>?_;rw[hZ]at hD hm hE;have I:(cs.drop (i*9)).length=(n - i)*9:=by rw[LU,H,Nat.sub_mul]
  refine Qd<|ZF [] (Xi 0 9 [8])<|p QF<|p QF<|p QF<|p (λ_=>XH U U ⟨oa,oa⟩)<|p (λ_=>X3 (lo:=i+1) U U oa oa) <|
   p QF<|p QF<|p (λ_=>X3 (lo:=i) ev U oa oa)<|pkl (hl:=by kernel_rfl)<|zx (cs:=cs.drop (i*9)) (hD.I (O5.C _ _)) U U (by rw[I,show Nat.min (n - i) (i+(n+1 - i) - (i+1))=n - i from Mn oa]) (h5 _ (hY.I (O5.C _ _))) (by rw[I,hm];omega) (λu E=>Y u (Ma E)) λw4 ho S=>pe ?_
  refine Qm<|Qb ?_;have ga:O5 [b2] w2 w4:=hC.Q ((O5.C [] w3).any.Q ho);refine Qk ⟨[.slice (some ⟨b2,0,none⟩) (i+(n+1 - i)) c2],La,(hj.O ga h8).any,λb hb=>?_,?_⟩
  ·have gb:b∈[b2]:=hb;rw[Lb.1 gb];exact .inr h8
  rw[en]at hk ⊢;have gc:=Zu hk hr;refine Uy gc (Lx _) S ?_ ?_ (Vw H (ZX q) hi)
  ·simp only[oM,Oa,o6,I,hm];omega
  rw[hE];exact List.take_left' (Vw H (ZX q) hi)
 have h7:n+1<=cap:=by have hS:¬(cap:Int)<(n:Int)+((1:Nat):Int):=hh;omega
 have hX:(i+1)*9<=(n+1)*9:=L3 _ oa;have I:(cs.drop (i*9)).length=(n - i)*9:=by rw[LU,H,Nat.sub_mul]
 refine Qh<|Qm<|Qa<|Qa<|QP U U<|x (Jz (hi:=n+1) ev U oa)<|Qb<|Qd<|Qm<|Qa<|Qa<|Qa<|QP U U<|x (X3 (lo:=i+1) U U oa oa) <|
  x (Qp8 func244 od od od (tS:=126) (tR:=4) od underlying126 sizeOf63 (a:=⟨bq,0,none⟩) (b:=⟨g,(i+1)*9,none⟩) U U O J h0 (by rw[hg];omega) U)<|x (ZB U)<|xe ?_
 refine QX rfl (λ_=>?_) (λgg=>OW gg og);have en:n+1 - (i+1)=n - i:=oa
 refine Qd<|ZF [] (Xi 0 9 [8])<|p QF<|p QF<|p QF<|p (λ_=>XH U U ⟨oa,oa⟩)<|p (λ_=>X3 (lo:=i+1) U U oa oa) <|
  p QF<|p QF<|p (λ_=>X3 (lo:=i) U U oa oa)<|pkl (hl:=by kernel_rfl)<|zx (cs:=cs.drop (i*9)) (J.I (O5.C _ _)) U U (by rw[I,show Nat.min (n+1 - i) (n+1 - (i+1))=n - i from(Nat.min_eq_right oa).D en]) (h5 _ (J.I (O5.C _ _))) (by rw[I,hg];omega) (λu E=>Y u (Ma E)) λw4 ho S=>pe ?_
 have hF:O5 [g] w w4:=(O5.C [] w).any.Q ho;have hG:(cur.take ((i+1)*9)++cs.drop (i*9)++cur.drop ((i+1)*9+(cs.drop (i*9)).length)).length=cap*9:=by simp only[oM,Oa,o6,I,hg];omega
 have hH:(cur.take ((i+1)*9)++cs.drop (i*9)++cur.drop ((i+1)*9+(cs.drop (i*9)).length)).take (i*9)=cs.take (i*9):=by
  rw[LB,M4 (by rw[Ly];omega),Nb,Mn oa,<-hz,Nb,Mn oa]
 have hI:((cur.take ((i+1)*9)++cs.drop (i*9)++cur.drop ((i+1)*9+(cs.drop (i*9)).length)).drop (i*9+9)).take ((n - i)*9)=cs.drop (i*9):=by
  have e1:(cur.take ((i+1)*9)).length=i*9+9:=by rw[Ly];omega
  rw[LB,List.drop_left' e1,List.take_left' I]
 refine Zj (cur.take ((i+1)*9)++cs.drop (i*9)++cur.drop ((i+1)*9+(cs.drop (i*9)).length)) λhp gh=>?_;rw[gh]at S hG hH hI;refine Qm<|Qa<|x (X3 (lo:=i) U U oa oa)<|Qa<|Qe<|zx (cs:=Qy q) S U U (by rw[show Nat.min 1 (n+1 - i)=1 from Mn oa];exact ZX q) ((O.J hF (oz h0)).at (L:=[]) oe) (by rw[ZX];omega) V λw5 gi gj=>xe ?_;refine Qm<|Qb<|Qk ⟨[.slice (some ⟨g,0,none⟩) (n+1) cap],La,by rw[he];exact hF.Q gi,λb hb=>.inl (by rw[he];exact hb),?_⟩;rcases hf.2 with⟨e1,_⟩|⟨g',cap',cur',e1,gk,gu,gv,gl,gw,gx⟩
 ·cases e1
 cases e1
 refine⟨Vw H (ZX q) hi,.inr ⟨g,cap,_,U,gk,gj,h7,gl,?_,?_⟩⟩
 ·simp only[Od,oM,Oa,o6,ZX,hG];omega
 have hR:=Vw H (ZX q) hi;rw[ZX,hH];have e3:hp.drop (i*9+9)=cs.drop (i*9)++(hp.drop (i*9+9)).drop ((n - i)*9):=by
  conv=>lhs;rw[<-MM ((n - i)*9) (hp.drop (i*9+9)),hI]
 rw[e3,<-LB];exact List.take_left' hR
theorem QoY {k:Int}(G:Q7 w.heap b T cs)(H:cs[0]?=some (oF oG k)):
  Q6 prog 167 [.agg (Qy q).toArray,.pointer (some ⟨b,0,none⟩)] w λr w'=>r=.bool (decide (k<q.kd))/\O5 [] w w':=by
 refine Zo func167 ?_;refine Qc<|Qe<|QV (us:=Qy q) U λb2 J E O I=>Qb<|Qc<|Qs U I U U<|Qs U (G.I E) U H<|x (Z6 U U)<|Qb<|Qk ⟨[_],La,U,E⟩
theorem Vj {l:List Z4}(h:Jt l=0):l.length<=76:=by
 unfold Jt at h;split at h
 ·cases h
 omega
theorem Qns {v:O2}{es:List DV}(G:KR L w.heap v es)(k:Int)(n:ByteArray):
  Q6 prog 97 [v,oF oG k,.string n] w λr w'=>O5 [] w w'/\∃vo l,r=.tuple #[vo,oF oG (zd (es.map DV.it) k n).1]/\JE w.heap.size w' vo l/\((zd (es.map DV.it) k n).1=0->l.map DV.it=(zd (es.map DV.it) k n).2):=by
 have h:=G.up (L':=[]) oe;have E:zd (es.map DV.it) k n=if Jt (es.map DV.it)≠0 then(Jt (es.map DV.it),[])else if JP (es.map DV.it) k n=false then(10,[])else(0,(es.map DV.it).take (Z8 (es.map DV.it) k n)++(es.map DV.it).drop (Z8 (es.map DV.it) k n+1)):=rfl
 refine Zj (zd (es.map DV.it) k n) λD hD=>?_;rw[hD]at E ⊢;refine Zo func97 ?_;refine Qc<|x Ql<|Qb<|Qd<|Qm<|QN<|(JC h).mono ?_;rintro r1 w1 ⟨rfl,O⟩;refine Qb<|Qm<|ZD U U<|xe<|QZ rfl (λH=>?_) (λH=>?_)
 ·rw[OU H]at E;refine Qm<|x Ql<|Qb<|Qk ⟨[nS,oF oG (Jt (es.map DV.it))],oA,O,nS,[],by rw[E];rfl,YA.nil,λG=>OW (by rw[E]at G;exact G) H⟩
 rw[OT H]at E;have ho:es.length<=76:=by have:=Vj (Lo.1 H);rwa [Lh]at this
 refine Qh<|Qm<|Qa<|Qa<|QN<|(zO (h.arr.I O) k n).mono ?_;rintro r2 w2 ⟨⟨i,rfl,hi⟩,Y⟩;have J:=O.D Y;refine Qa<|Zd U U<|Zd U U<|x Ql<|Qb<|Qd<|Qm<|x (ZB U)<|xe<|QX rfl (λS=>?_) (λS=>?_)
 ·have I:JP (es.map DV.it) k n=false:=by simpa using S
  rw[OU I]at E;refine Qc<|x Ql<|Qb<|Qk ⟨[nS,oF oG 10],oA,J,nS,[],by rw[E];rfl,YA.nil,λG=>OW (by rw[E]at G;exact G) og⟩
 have I:JP (es.map DV.it) k n=true:=by simpa using S
 rw[OT (by rw[I];decide)]at E;have hi:=hi I;have ha:Z8 (es.map DV.it) k n<es.length:=by have:=OY I;rwa [Lh]at this
 refine Zj (Z8 (es.map DV.it) k n) λj hj=>?_;rw[hj]at hi ha E;refine Qh<|Qm<|QN<|(J6 (h.I J) oa).mono ?_;rintro r3 w3 ⟨hc,l,hl,T⟩;have hp:l.length=es.length:=by have:=OV oP T;rwa [Lh,Lh]at this
 have hD3:=QmL hl (k:=j) oa oa;have he:(i:Int)+1=((j+1:Nat):Int):=oa
 rw[<-he,<-hi]at hD3;refine Qa<|Qa<|QP U U<|QN<|hD3.mono ?_;rintro V w4 ⟨hf,hg⟩;refine x Ql<|Qb ?_;have hh:=Qi hl.own;have hk:=J.size;refine Qk ⟨[V,oF oG 0],oA,(J.D hc).then hf (λb hb=>.inr (ou (hh b hb).1)),V,_,by rw[E];rfl,hg.base hk,λ_=>?_⟩;rw[E,Ls,NG,List.map_drop,T]
theorem QpF {v:O2}{es:List DV}(G:KR L w.heap v es)(hM:Jg L' w.heap q):
  Q6 prog 98 [v,.agg (Qy q).toArray] w λr w'=>O5 [] w w'/\∃vo l,r=.tuple #[vo,oF oG (V8 (es.map DV.it) q.it).1]/\JE w.heap.size w' vo l/\((V8 (es.map DV.it) q.it).1=0->l.map DV.it=(V8 (es.map DV.it) q.it).2):=by
 have h:=G.up (L':=[]) oe;have hq:=hM.up (L':=[]) oe;have E:V8 (es.map DV.it) q.it=if Jt (es.map DV.it)≠0 then(Jt (es.map DV.it),[])else if Jt [q.it]≠0 then(Jt [q.it],[])else if JP (es.map DV.it) q.kd q.nm=true then(0,(es.map DV.it).set (Z8 (es.map DV.it) q.kd q.nm) q.it)else if(es.map DV.it).length=76 then(3,[])else
  (0,(es.map DV.it).take ((es.map DV.it).findIdx λy=>decide (q.kd<y.kd))++q.it::(es.map DV.it).drop ((es.map DV.it).findIdx λy=>decide (q.kd<y.kd))):=rfl
 refine Zj (V8 (es.map DV.it) q.it) λD hD=>?_;rw[hD]at E ⊢;refine Zo func98 ?_;refine Qc<|Qe<|QV (us:=Qy q) U λb3 w1 h4 gj hN=>x Ql<|Qb<|Qd<|Qm<|ZM<|(JC (h.I h4)).mono ?_;rintro r1 w2 ⟨rfl,h5⟩;have h6:=h4.D h5;refine Qb<|Qm<|ZD U U<|xe<|QZ rfl (λT=>?_) (λT=>?_)
 ·rw[OU T]at E;refine Qm<|x Ql<|Qb<|Qk ⟨[nS,oF oG (Jt (es.map DV.it))],oA,h6,nS,[],by rw[E];rfl,YA.nil,λG=>OW (by rw[E]at G;exact G) T⟩
 rw[OT T]at E;have gk:es.length<=76:=by have:=Vj (Lo.1 T);rwa [Lh]at this
 have h7:=hN.I h5;refine Qh<|Qd<|Qc<|Q9 h7 U U<|Qe<|QA (us:=[Qy q]) U U og (show 1*9<=1000000 by decide) oA λhO w3 h8 gl hP=>?_;have h9:=h6.D h8;have hQ:KR [] w3.heap (.slice (some ⟨hO,0,none⟩) 1 1) [q]:=⟨hP.arr (L:=[]) oe (n:=1) (cap:=1) (sz:=9) rfl og (Nat.le_refl _),λd hd=>by rw[List.mem_singleton.1 hd];exact hq.I h9⟩;refine ZM<|(JC hQ).mono ?_;rintro r4 w4 ⟨rfl,hA⟩;have he:=h9.D hA;refine Qb<|Qm<|ZD U U<|xe<|QZ rfl (λhf=>?_) (λhf=>?_)
 ·rw[OU (show Jt [q.it]≠0 from hf)]at E;refine Qm<|x Ql<|Qb<|Qk ⟨[nS,oF oG (Jt [q.it])],oA,he,nS,[],by rw[E];rfl,YA.nil,λG=>OW (by rw[E]at G;exact G) hf⟩
 rw[OT (show ¬Jt [q.it]≠0 from hf)]at E;refine Qh<|Qm<|ZM<|(J6 (h.I he) oa).mono ?_;rintro I w5 ⟨hr,l,hl,J⟩;have gm:l.length=es.length:=by have:=OV oP J;rwa [Lh,Lh]at this
 have hB:=he.D hr;have hC:=he.size;have gn:=hr.size;have hs:=(h7.I (h8.D hA)).I hr;have V:=Qi hl.own;refine Qb<|Qd<|Qm<|Qs U hs U U<|Qs U hs U U<|ZM<|(zO (h.arr.I hB) q.kd q.nm).mono ?_;rintro r6 w6 ⟨⟨i,rfl,hi⟩,hh⟩;have Y:=hB.D hh;have ht:=hl.I hh;have hu:=hs.I hh;have go:=hh.size;refine Qa<|Zd U U<|Zd U U<|x Ql<|Qb<|Qm<|xe<|QX rfl (λha=>?_) (λha=>?_)
 ·rw[OU ha]at E;have hi:=hi ha;have hv:Z8 (es.map DV.it) q.kd q.nm<l.length:=by have:=OY ha;rw[Lh]at this;omega
  refine Zj (Z8 (es.map DV.it) q.kd q.nm) λj hj=>?_;rw[hj]at hi hv E;refine Qm<|Qa<|Q9 hu U U<|ZM<|(Kr (hq.I Y)).mono ?_;rintro r7 w7 ⟨hk,q',rfl,hw,ho⟩;have hy:=ht.I hk;refine Exists.elim (JB hy.own oa) λg O=>Exists.elim O λcap O=>?_;have hR:ob I=[g]:=by rw[O];rfl
  have hE:=hy.own;rw[O]at hE;refine x (Zw (i:=j) O (show Go.Lg.ev _ _=_ from OV (Value.int .i64) hi) hv)<|Qe<|jO ZX hE (show Go.Lg.ev _ _=_ from by show Value.pointer (some ⟨g,0+j*9,none⟩)=_;rw[LS]) rfl hv (ho [] oe).ones λw8 hS hF=>xe ?_;refine Qm<|x Ql<|Qb ?_;rw[<-O]at hF;have hG:O5 (ob I) w7 w8:=by rw[hR];exact hS
  have hT:JE w4.heap.size w8 I (l.set j q'):=JE.turn2 hy hG (λb H=>.inl H) (λL hL=>ho L (λb H=>by
   rcases hL b H with h|h
   ·omega
   have:=V b h;omega)) (λd hd=>MS hd) (by rw[Mc];exact hF)
  refine Qk ⟨[I,oF oG 0],oA,(Y.D hk).then hG (λb H=>.inr (ou (V b H).1)),I,_,by rw[E];rfl,hT.base hC,λ_=>?_⟩;rw[E,NE,J,hw]
 rw[OT (by rw[ha];decide)]at E;refine Qh<|Qd<|Qm<|QL (h.arr.I Y) U<|x (Q2 U U)<|xe<|QZ rfl (λhz=>?_) (λhz=>?_)
 ·have hn:es.length=76:=by have hU:(es.length:Int)=76:=hz;omega
  rw[OU (by rw[Lh];exact hn)]at E;refine Qc<|x Ql<|Qb<|Qk ⟨[nS,oF oG 3],oA,Y,nS,[],by rw[E];rfl,YA.nil,λG=>OW (by rw[E]at G;exact G) og⟩
 have hn:¬es.length=76:=by have hU:¬(es.length:Int)=76:=hz;omega
 rw[OT (by rw[Lh];exact hn)]at E;have hV:(es.map DV.it).findIdx (λy=>decide (q.kd<y.kd))=l.findIdx λy=>decide (q.kd<y.kd):=by rw[<-J,List.findIdx_map];rfl
 rw[hV]at E;have hW:l.findIdx (λy=>decide (q.kd<y.kd))<=l.length:=List.findIdx_le_length;have h1:ixD (λy:DV=>decide (q.kd<y.kd)) l=if l.findIdx (λy=>decide (q.kd<y.kd))<l.length then((l.findIdx λy=>decide (q.kd<y.kd):Nat):Int)else -1:=rfl
 refine Zj (l.findIdx λy=>decide (q.kd<y.kd)) λat_ hX=>?_;rw[hX]at E hW h1;have hH:Zp [] w6.heap I l.length 9 (l.flatMap Qy):=QK ht.own oa oe;refine Qh<|Qm<|x (Zx (l:=[]) (l':=[_]))<|ZM<|(QeZ (q:=λy:DV=>decide (q.kd<y.kd)) (cap:=[.pointer (some ⟨b3,0,none⟩)]) hH (λe _ w7 hk=>QoY (hu.I hk) U)).mono ?_;rintro r9 w9 ⟨rfl,hc⟩;refine Qb<|Q3 (α:=Unit) [(11,11),(47,50)] (λ_=>[(11,oF oG (at_:Int))]) (λ_ w'=>w'=w9) ol ?_ ?_
 ·refine Qm<|QY U U<|xe<|QH U (λh2=>?_) (λh2=>?_)
  ·refine Qh<|⟨(),⟨?_,Z⟩,U⟩;have S:¬ixD (λy:DV=>decide (q.kd<y.kd)) l<0:=h2;have e:ixD (λy:DV=>decide (q.kd<y.kd)) l=(at_:Int):=by
    rw[h1]at S ⊢;split at S
    ·rename_i hY;rw[OU hY]
    exact OW og S
   exact OV (Value.int .i64) e
  refine Qv<|Qa<|QL (hH.I hc) U<|Qb<|⟨(),⟨?_,Z⟩,U⟩;have S:ixD (λy:DV=>decide (q.kd<y.kd)) l<0:=h2;have e:(l.length:Int)=(at_:Int):=by
   rw[h1]at S;split at S
   ·omega
   omega
  exact OV (Value.int .i64) e
 rintro⟨⟩ g gp rfl;have hZ:=ht.I hc;have hI:=Y.D hc;have gq:=hc.size;refine Qm<|Qa<|Q9 (hu.I hc) U U<|ZM<|(Kr (hq.I hI)).mono ?_;rintro gr gs ⟨h3,q',rfl,hw,ho⟩;have gt:=h3.size;refine Qe<|QA (us:=[Qy q']) U U og (show 1*9<=1000000 by decide) oA λhJ ga hp gu gb=>?_;have gv:=hp.size;have gc:=(hZ.I h3).I hp;have gg:Q7 ga.heap hJ 63 (Qy q'):=by have:=gb;simpa using this
 refine ZM<|(Qmi gc oa oa (i:=at_) oa (q:=q') (λL hL=>(ho L (λb H=>by
   rcases hL b H with h|h
   ·omega
   have:=V b h;omega)).I hp) gg (λJ=>ou (V hJ J))).mono ?_
 rintro hK gw ⟨gh,gi,gx⟩;refine x Ql<|Qb<|Qk ⟨[hK,oF oG 0],oA,((hI.D h3).D hp).then gh (λb H=>.inr (ou (V b H).1)),hK,_,by rw[E];rfl,gi.base hC,λ_=>?_⟩;rw[E,Ls,LH,NG,List.map_drop,J,hw]
end Go.Lg
namespace Go.Proofs
open Go.Proofs.Tryz
open Go.Shelf
def Tryz.sortLo_ren:Go.Shelf.Ren:=⟨λ|6=>170|15=>139|14=>246|28=>214|29=>215|20=>277|21=>278|22=>279|23=>280|24=>281|25=>282|26=>283|27=>284|46=>322|47=>268|48=>269|49=>323|50=>324|57=>342|n=>n,λ|22=>114|24=>118|25=>320|3=>3|39=>285|0=>0|53=>367|55=>369|4=>4|46=>361|45=>360|50=>236|5=>5|9=>9|66=>421|70=>425|76=>452|77=>411|n=>n,λ|n=>n⟩
theorem Tryz.sortLo:Go.Proofs.SlLaysF0.n6 prog Tryz.sortLo_ren:={
 mixed:=od
 f6:=⟨Tryz.f170.name,og,func170.D (OV some od)⟩
 f14:=⟨Tryz.f246.name,og,func246.D (OV some od)⟩
 f15:=func139.D (OV some od)
 f20:=⟨Tryz.f277.name,og,func277.D (OV some od)⟩
 f21:=⟨Tryz.f278.name,og,func278.D (OV some od)⟩
 f22:=⟨Tryz.f279.name,og,func279.D (OV some od)⟩
 f23:=⟨Tryz.f280.name,og,func280.D (OV some od)⟩
 f24:=⟨Tryz.f281.name,og,func281.D (OV some od)⟩
 f25:=⟨Tryz.f282.name,og,func282.D (OV some od)⟩
 f26:=⟨Tryz.f283.name,og,func283.D (OV some od)⟩
 f27:=⟨Tryz.f284.name,og,func284.D (OV some od)⟩
 f28:=func214.D (OV some od)
 f29:=func215.D (OV some od)
 f46:=⟨Tryz.f322.name,og,func322.D (OV some od)⟩
 f47:=func268.D (OV some od)
 f48:=func269.D (OV some od)
 f49:=⟨Tryz.f323.name,og,func323.D (OV some od)⟩
 f50:=⟨Tryz.f324.name,og,func324.D (OV some od)⟩
 f57:=⟨Tryz.f342.name,og,func342.D (OV some od)⟩
 t0:=underlying0
 a0:=isAgg0
 z0:=sizeOf0
 v0:=zeroValue0
 t3:=underlying3
 a3:=isAgg3
 z3:=sizeOf3
 v3:=zeroValue3
 t4:=underlying4
 a4:=isAgg4
 z4:=sizeOf4
 v4:=zeroValue4
 t5:=underlying5
 a5:=isAgg5
 z5:=sizeOf5
 v5:=zeroValue5
 t9:=underlying9
 a9:=isAgg9
 z9:=sizeOf9
 v9:=zeroValue9
 t22:=underlying114
 a22:=isAgg114
 z22:=sizeOf114
 v22:=zeroValue114
 t25:=underlying320
 a25:=isAgg320
 z25:=sizeOf320
 v25:=zeroValue320
 t39:=underlying285
 a39:=isAgg285
 z39:=sizeOf285
 v39:=zeroValue285
 t45:=underlying360
 a45:=isAgg360
 z45:=sizeOf360
 v45:=zeroValue360
 t46:=underlying361
 a46:=isAgg361
 z46:=sizeOf361
 v46:=zeroValue361
 t50:=underlying236
 a50:=isAgg236
 z50:=sizeOf236
 v50:=zeroValue236
 t53:=underlying367
 a53:=isAgg367
 z53:=sizeOf367
 v53:=zeroValue367
 t55:=underlying369
 a55:=isAgg369
 z55:=sizeOf369
 v55:=zeroValue369
 t66:=underlying421
 a66:=isAgg421
 z66:=sizeOf421
 v66:=zeroValue421
 t70:=underlying425
 a70:=isAgg425
 z70:=sizeOf425
 v70:=zeroValue425
 t76:=underlying452
 a76:=isAgg452
 z76:=sizeOf452
 v76:=zeroValue452
 t77:=underlying411
 a77:=isAgg411
 z77:=sizeOf411
 v77:=zeroValue411 }
def Tryz.sortTe_ren:Go.Shelf.Ren:=⟨λ|6=>172|15=>139|14=>247|28=>214|29=>215|20=>285|21=>286|22=>287|23=>288|24=>289|25=>290|26=>291|27=>292|46=>325|47=>268|48=>269|49=>326|50=>327|57=>343|n=>n,λ|22=>119|24=>123|25=>322|3=>3|39=>285|0=>0|53=>367|55=>369|4=>4|46=>361|45=>360|50=>236|5=>5|9=>9|66=>421|70=>425|76=>452|77=>411|n=>n,λ|n=>n⟩
theorem Tryz.sortTe:Go.Proofs.SlLaysF0.n6 prog Tryz.sortTe_ren:={
 mixed:=od
 f6:=⟨Tryz.f172.name,og,func172.D (OV some od)⟩
 f14:=⟨Tryz.f247.name,og,func247.D (OV some od)⟩
 f15:=func139.D (OV some od)
 f20:=⟨Tryz.f285.name,og,func285.D (OV some od)⟩
 f21:=⟨Tryz.f286.name,og,func286.D (OV some od)⟩
 f22:=⟨Tryz.f287.name,og,func287.D (OV some od)⟩
 f23:=⟨Tryz.f288.name,og,func288.D (OV some od)⟩
 f24:=⟨Tryz.f289.name,og,func289.D (OV some od)⟩
 f25:=⟨Tryz.f290.name,og,func290.D (OV some od)⟩
 f26:=⟨Tryz.f291.name,og,func291.D (OV some od)⟩
 f27:=⟨Tryz.f292.name,og,func292.D (OV some od)⟩
 f28:=func214.D (OV some od)
 f29:=func215.D (OV some od)
 f46:=⟨Tryz.f325.name,og,func325.D (OV some od)⟩
 f47:=func268.D (OV some od)
 f48:=func269.D (OV some od)
 f49:=⟨Tryz.f326.name,og,func326.D (OV some od)⟩
 f50:=⟨Tryz.f327.name,og,func327.D (OV some od)⟩
 f57:=⟨Tryz.f343.name,og,func343.D (OV some od)⟩
 t0:=underlying0
 a0:=isAgg0
 z0:=sizeOf0
 v0:=zeroValue0
 t3:=underlying3
 a3:=isAgg3
 z3:=sizeOf3
 v3:=zeroValue3
 t4:=underlying4
 a4:=isAgg4
 z4:=sizeOf4
 v4:=zeroValue4
 t5:=underlying5
 a5:=isAgg5
 z5:=sizeOf5
 v5:=zeroValue5
 t9:=underlying9
 a9:=isAgg9
 z9:=sizeOf9
 v9:=zeroValue9
 t22:=underlying119
 a22:=isAgg119
 z22:=sizeOf119
 v22:=zeroValue119
 t25:=underlying322
 a25:=isAgg322
 z25:=sizeOf322
 v25:=zeroValue322
 t39:=underlying285
 a39:=isAgg285
 z39:=sizeOf285
 v39:=zeroValue285
 t45:=underlying360
 a45:=isAgg360
 z45:=sizeOf360
 v45:=zeroValue360
 t46:=underlying361
 a46:=isAgg361
 z46:=sizeOf361
 v46:=zeroValue361
 t50:=underlying236
 a50:=isAgg236
 z50:=sizeOf236
 v50:=zeroValue236
 t53:=underlying367
 a53:=isAgg367
 z53:=sizeOf367
 v53:=zeroValue367
 t55:=underlying369
 a55:=isAgg369
 z55:=sizeOf369
 v55:=zeroValue369
 t66:=underlying421
 a66:=isAgg421
 z66:=sizeOf421
 v66:=zeroValue421
 t70:=underlying425
 a70:=isAgg425
 z70:=sizeOf425
 v70:=zeroValue425
 t76:=underlying452
 a76:=isAgg452
 z76:=sizeOf452
 v76:=zeroValue452
 t77:=underlying411
 a77:=isAgg411
 z77:=sizeOf411
 v77:=zeroValue411 }
end Go.Proofs
namespace Go.Lg
open Go.Lg Go.Sort
abbrev Lz:={ x:Int×Int // 0<=x.1/\x.1<4096 }
instance:Inhabited Lz:=⟨⟨(0,0),og⟩⟩
abbrev qO (x:Lz):LV:=[oF oG x.1.1,oF oG x.1.2]
theorem zD (x:Lz):(qO x).length=2:=rfl
theorem yv:∀l:List Lz,(l.flatMap qO).length=l.length*2
 | []=>rfl
 | x::l=>by rw[LM,Lk,yv l,zD,LT];omega
theorem zC {l:List Lz}(I:j<l.length*2):(l.flatMap qO)[j]?=some ((flatK qO 2 l.toArray)[j]!):=by
 have E:j / 2<l.length:=Nat.div_lt_of_lt_mul oa;have G:j % 2<2:=NS _ og;rw[get_flatK _ _ _ _ (oz I)];have J:=XM qO 2 zD l (j / 2) E;have O:(l.flatMap qO)[j]?=(qO (l[j / 2]'E))[j % 2]?:=by
  rw[<-J,LW,OU G,MH];congr 1;omega
 rw[O];have S:(l.toArray)[j / 2]! = l[j / 2]'E:=by simp[E]
 rw[S];have H:j % 2<(qO (l[j / 2]'E)).length:=G;exact(LD H).D (OV some (getElem!_pos (qO (l[j / 2]'E)) (j % 2) H).symm)
theorem Qdz:SWO (ltOf λx y:Lz=>x.1.1 - y.1.1) where
 irrefl x:=by unfold ltOf;simp
 trans x y z h1 h2:=by unfold ltOf at *;simp at *;omega
 ntrans x y z h1 h2:=by unfold ltOf at *;simp at *;omega
theorem QiS:∀{l:xx},(∀x∈l,0<=x.1/\x.1<4096)->∃L:List Lz,L.map Subtype.val=l
 | [],_=>⟨[],U⟩
 | x::l,h=>by
  obtain⟨L,E⟩:=QiS (l:=l) (λy G=>h y (Lj _ G));exact⟨⟨x,h x Lp⟩::L,by rw[LH,E]⟩
theorem QeR (L:List Lz):L.flatMap qO=(L.map Subtype.val).flatMap QG:=by rw[List.flatMap_map]
theorem QiR {l:List Lz}{E:Array Lz}(h:pdq (ltOf λx y:Lz=>x.1.1 - y.1.1) l.toArray 0 l.length (Go.Lib.bitLen l.length) true true=E)(J:((l.map Subtype.val).map (·.1)).Nodup):E.size=l.length/\E.toList.map Subtype.val=isrt (·.1) (l.map Subtype.val):=by
 have G:=pdq_sorts (ltOf λx y:Lz=>x.1.1 - y.1.1) Qdz l.toArray 0 l.toArray.size (Go.Lib.bitLen l.length) true true (Ln _) (Lx _) (Or.inl U);rw[LR,h]at G;obtain⟨H,O⟩:=QeB (d:=l.toArray) (by rw[LR];exact G.1) (by rw[LR];exact G.2);refine⟨oz H.length_eq,Qe4 (λp:Int×Int=>p.1) (H.map _) ?_ J⟩;refine MF.2 (O.imp λ{x y} I=>?_);unfold ltOf at I;have S:¬(y.1.1 - x.1.1<0):=O0 I;show x.1.1<=y.1.1;omega
theorem QqJ (x y:Lz)(W:O1):Calls prog 171 #[.agg (qO x).toArray,.agg (qO y).toArray] W λe w'=>e=.returned (oF oG (x.1.1 - y.1.1))/\∃q os',w'=grow (W.drewN q) os':=by
 have E:IntKind.i64.wrap (x.1.1 - y.1.1)=x.1.1 - y.1.1:=YL ⟨ov x.2 y.2,ov x.2 y.2⟩
 go_enter func171,ntmps171
 go_wp2
 go_ret;exact⟨by rw[<-E];rfl,0,_,by rw[alloc_eq_grow,alloc_eq_grow,grow_grow];rfl⟩
theorem Qf1 {base:Nat}{v:O2}{G:xx}(h0:w.ownsRow base 118 2 v G.length (G.flatMap QG))(hb:∀x∈G,0<=x.1/\x.1<4096)(S:(G.map (·.1)).Nodup)(hh:G.length<=1099511627776):
  Q6 prog 170 [v,.func (.func 171) #[] #[]] w λ_ w'=>O5 (ob v) w w'/\w'.ownsRow base 118 2 v (isrt (·.1) G).length ((isrt (·.1) G).flatMap QG):=by
 obtain⟨l,hl⟩:=QiS hb;subst hl;rw[<-QeR,Lh]at h0;rw[Lh]at hh;unfold Q6;rcases h0.2 with⟨rfl,J⟩|⟨g,cap,cur,rfl,hm,O,ho,hp,hq,hr⟩
 ·have hs:l=[]:=Lq J;subst hs;have H:=AnyF.slices_SortFunc_none Tryz.sortLo none 0 (.func (.func 171) #[] #[]) w;change Calls prog 170 _ _ _ at H;refine Calls.mono H λe w' T=>?_;obtain⟨rfl,rfl⟩:=T;exact⟨O5.Z _ _,QI _ _ _ _⟩
 have ha:g<w.heap.size:=(LK.1 O).1;have hH:HoldsK qO 2 w g 0 l.toArray:=by
  intro j E;rw[size_flatK,LR]at E;have J:=zC E;rw[<-hr,LW,OU E]at J;constructor
  ·show(match w.heap[g]? with|some (.cells c _ _)=>if(none:Option _).isSome then none else c[0+j]?|_=>none)=_
   rw[O];simp only[oZ,OD,OE,if_false];rw[<-Mr,J];rfl
  show(match w.heap[g]? with|some (.cells _ _ (lo,hi))=>decide (lo<=0+j) && decide (0+j<hi)|_=>false)=false
  rw[O];simp
 have eg:∀args w,(callFunc 171 args).run prog w=.ok (.enter 171 args) w:=enters_of func171 od U;have H:=AnyQ.slices_SortFunc_eq Tryz.sortLo 2 isAgg118 sizeOf118 qO zD (λx v hv=>by simp at hv;rcases hv with rfl|rfl <;> rfl) (λx y=>x.1.1 - y.1.1) Qdz 171 #[] g 0 cap l.toArray w eg (λm os dk _ x y=>QqJ x y _) hH ha (by simp;omega)
 change Calls prog 170 _ _ _ at H;rw[LR]at H;refine Calls.mono H λe w' T=>?_;obtain⟨rfl,n,os,rfl⟩:=T;refine Zj (pdq (ltOf λx y:Lz=>x.1.1 - y.1.1) l.toArray 0 l.length (Go.Lib.bitLen l.length) true true) λI hf=>?_;obtain⟨V,ht⟩:=QiR hf S;rw[hf,<-ht];have Y:(sortWorldK qO 2 w g 0 n I os).heap=w.heap.modify g (onCells (putCells id 0 (flatK qO 2 I)))++os:=rfl;refine⟨⟨rfl,U,U,?_,λk hk S=>?_⟩,?_⟩
 ·rw[Y,MW,Mg];omega
 ·rw[Y,Mk,Mg,OU hk,Mx,OT (λe=>S (by simp[ob,e]))]
 rw[<-QeR,Lh];refine⟨yv _,.inr ⟨g,cap,putCells id 0 (flatK qO 2 I) cur,by simp[V],hm,?_,by simp[V];exact ho,hp,by simp[putCells,hq],?_⟩⟩
 ·rw[Y,Mk,Mg,OU ha,Mx,OU rfl,O];rfl
 apply Na;intro j;rw[LW];by_cases E:j<I.toList.length*2
 ·rw[OU E,zC E,Mr];have hu:j<cur.size:=by simp[V]at E;omega
  have hw:j<(flatK qO 2 I).size:=by simpa using E
  simp only[putCells,Ow,Oj hu,Oy,OR,oZ,true_and,OU hw,OI,id]
 rw[OT E,MU];rw[yv];omega
theorem QqH (x y:Lz)(W:O1):Calls prog 173 #[.agg (qO x).toArray,.agg (qO y).toArray] W λe w'=>e=.returned (oF oG (x.1.1 - y.1.1))/\∃q os',w'=grow (W.drewN q) os':=by
 have E:IntKind.i64.wrap (x.1.1 - y.1.1)=x.1.1 - y.1.1:=YL ⟨ov x.2 y.2,ov x.2 y.2⟩
 go_enter func173,ntmps173
 go_wp2
 go_ret;exact⟨by rw[<-E];rfl,0,_,by rw[alloc_eq_grow,alloc_eq_grow,grow_grow];rfl⟩
theorem QfZ {base:Nat}{v:O2}{G:xx}(h0:w.ownsRow base 123 2 v G.length (G.flatMap QG))(hb:∀x∈G,0<=x.1/\x.1<4096)(S:(G.map (·.1)).Nodup)(hh:G.length<=1099511627776):
  Q6 prog 172 [v,.func (.func 173) #[] #[]] w λ_ w'=>O5 (ob v) w w'/\w'.ownsRow base 123 2 v (isrt (·.1) G).length ((isrt (·.1) G).flatMap QG):=by
 obtain⟨l,hl⟩:=QiS hb;subst hl;rw[<-QeR,Lh]at h0;rw[Lh]at hh;unfold Q6;rcases h0.2 with⟨rfl,J⟩|⟨g,cap,cur,rfl,hm,O,ho,hp,hq,hr⟩
 ·have hs:l=[]:=Lq J;subst hs;have H:=AnyF.slices_SortFunc_none Tryz.sortTe none 0 (.func (.func 173) #[] #[]) w;change Calls prog 172 _ _ _ at H;refine Calls.mono H λe w' T=>?_;obtain⟨rfl,rfl⟩:=T;exact⟨O5.Z _ _,QI _ _ _ _⟩
 have ha:g<w.heap.size:=(LK.1 O).1;have hH:HoldsK qO 2 w g 0 l.toArray:=by
  intro j E;rw[size_flatK,LR]at E;have J:=zC E;rw[<-hr,LW,OU E]at J;constructor
  ·show(match w.heap[g]? with|some (.cells c _ _)=>if(none:Option _).isSome then none else c[0+j]?|_=>none)=_
   rw[O];simp only[oZ,OD,OE,if_false];rw[<-Mr,J];rfl
  show(match w.heap[g]? with|some (.cells _ _ (lo,hi))=>decide (lo<=0+j) && decide (0+j<hi)|_=>false)=false
  rw[O];simp
 have eg:∀args w,(callFunc 173 args).run prog w=.ok (.enter 173 args) w:=enters_of func173 od U;have H:=AnyQ.slices_SortFunc_eq Tryz.sortTe 2 isAgg123 sizeOf123 qO zD (λx v hv=>by simp at hv;rcases hv with rfl|rfl <;> rfl) (λx y=>x.1.1 - y.1.1) Qdz 173 #[] g 0 cap l.toArray w eg (λm os dk _ x y=>QqH x y _) hH ha (by simp;omega)
 change Calls prog 172 _ _ _ at H;rw[LR]at H;refine Calls.mono H λe w' T=>?_;obtain⟨rfl,n,os,rfl⟩:=T;refine Zj (pdq (ltOf λx y:Lz=>x.1.1 - y.1.1) l.toArray 0 l.length (Go.Lib.bitLen l.length) true true) λI hf=>?_;obtain⟨V,ht⟩:=QiR hf S;rw[hf,<-ht];have Y:(sortWorldK qO 2 w g 0 n I os).heap=w.heap.modify g (onCells (putCells id 0 (flatK qO 2 I)))++os:=rfl;refine⟨⟨rfl,U,U,?_,λk hk S=>?_⟩,?_⟩
 ·rw[Y,MW,Mg];omega
 ·rw[Y,Mk,Mg,OU hk,Mx,OT (λe=>S (by simp[ob,e]))]
 rw[<-QeR,Lh];refine⟨yv _,.inr ⟨g,cap,putCells id 0 (flatK qO 2 I) cur,by simp[V],hm,?_,by simp[V];exact ho,hp,by simp[putCells,hq],?_⟩⟩
 ·rw[Y,Mk,Mg,OU ha,Mx,OU rfl,O];rfl
 apply Na;intro j;rw[LW];by_cases E:j<I.toList.length*2
 ·rw[OU E,zC E,Mr];have hu:j<cur.size:=by simp[V]at E;omega
  have hw:j<(flatK qO 2 I).size:=by simpa using E
  simp only[putCells,Ow,Oj hu,Oy,OR,oZ,true_and,OU hw,OI,id]
 rw[OT E,MU];rw[yv];omega
def yR (l:List Z4)(n:ByteArray)(tk:LI):Int:=if JP l 1 n=false then 9 else if(Z8 l 1 n:Int)∈tk then 8 else 0
theorem Qfu {v:O2}{es:List DV}(h:Zp L w.heap v es.length 9 (es.flatMap Qy))(n:ByteArray){tk:LI}(S:QR L' w.heap vt tk):
  Q6 prog 169 [v,.string n,vt] w λr w'=>(∃i:Int,r=.tuple #[oF oG i,oF oG (yR (es.map DV.it) n tk)]/\(yR (es.map DV.it) n tk=0->i=(Z8 (es.map DV.it) 1 n:Int)))/\O5 [] w w':=by
 have G:yR (es.map DV.it) n tk=if JP (es.map DV.it) 1 n=false then 9 else if(Z8 (es.map DV.it) 1 n:Int)∈tk then 8 else 0:=rfl
 refine Zj (yR (es.map DV.it) n tk) λE hE=>?_;rw[hE]at G ⊢;refine Zo func169 ?_;refine Qc<|x Ql<|Qb<|Qm<|Qa<|QN<|(zO h 1 n).mono ?_;rintro T V ⟨⟨i,rfl,hi⟩,H⟩;refine Qa<|Zd U U<|Zd U U<|x Ql<|Qb<|Qd<|Qg<|Qm<|x (ZB U)<|Qb<|QX U (λI=>?_) (λI=>?_)
 ·rw[OU (oz I)]at G;subst G;refine Qc<|x Ql<|Qb<|Qk ⟨[oF oG 0,oF oG 9],oA,⟨0,U,λe=>OW e og⟩,H⟩
 have O:JP (es.map DV.it) 1 n=true:=by simpa using I
 have hi:=hi O;subst hi;rw[OT (by rw[O];decide)]at G;refine Qm<|Qa<|QN<|(Yl (S.I H) _).mono ?_;rintro r2 Y ⟨rfl,rfl⟩;refine Qb<|QZ U (λJ=>?_) (λJ=>?_)
 ·rw[OU J]at G;subst G;refine Qc<|x Ql<|Qb<|Qk ⟨[oF oG 0,oF oG 8],oA,⟨0,U,λe=>OW e og⟩,H⟩
 rw[OT J]at G;subst G;refine Qh<|Qm<|x Ql<|Qb<|Qk ⟨[oF oG _,oF oG 0],oA,⟨_,U,λ_=>U⟩,H⟩
theorem j7 (l:List Z4)(y:ByteArray×Int)(r:List (ByteArray×Int))(tk:LI)(o:xx):Yp l (y::r) tk o=if yR l y.1 tk≠0 then(yR l y.1 tk,[])else Yp l r (tk++[(Z8 l 1 y.1:Int)]) (o++[((Z8 l 1 y.1:Int),y.2)]):=by
 rw[Yp];unfold yR;split
 ·rfl
 split
 ·rfl
 rfl
theorem Qj1 {l:List Z4}{n:ByteArray}{tk:LI}(h:yR l n tk=0):Z8 l 1 n<l.length/\(Z8 l 1 n:Int)∉tk:=by
 unfold yR at h;split at h
 ·exact OW h og
 rename_i E;split at h
 ·exact OW h og
 rename_i G;refine⟨?_,G⟩;have H:JP l 1 n=true:=by simpa using E
 exact OY H
theorem Qgs {v:O2}{es:List DV}(h0:Zp L w.heap v es.length 9 (es.flatMap Qy))(gm:es.length<=4096)(hC:Jg L' w.heap q)(gn:q.ls.length<=100000):
  Q6 prog 99 [v,.agg (Qy q).toArray] w λr w'=>O5 [] w w'/\∃vo,r=.tuple #[vo,oF oG (Yp (es.map DV.it) q.ls [] []).1]/\((Yp (es.map DV.it) q.ls [] []).1≠0->vo=Zz) /\
   ((Yp (es.map DV.it) q.ls [] []).1=0->w'.ownsRow w.heap.size 118 2 vo (Yp (es.map DV.it) q.ls [] []).2.length ((Yp (es.map DV.it) q.ls [] []).2.flatMap QG)):=by
 have h:=h0.up (L':=[]) oe;have hq:=hC.up (L':=[]) oe;refine Zj (Yp (es.map DV.it) q.ls [] []) λR hR=>?_;rw[hR];refine Zo func99 ?_;refine Qc<|Qe<|QV (us:=Qy q) U λb3 G T go hD=>x Ql<|Qb ?_;have gp:=T.size;have h1:=h.I T;have hw:=hq.I T;refine Qc<|Qb<|Qc<|Qb<|Qd<|Qc<|Qs U hD U U<|QL hw.ls.arr U<|Qa<|xe<|Qg<|QC (α:=Nat×O2×O2×xx) [(4,7),(9,11),(15,41)] (λz=>[(6,z.2.1),(7,z.2.2.1),(15,oF oG z.1)]) (λz w'=>z.1<=q.ls.length/\O5 [] G w'/\w'.ownsRow G.heap.size 118 2 z.2.1 z.2.2.2.length (z.2.2.2.flatMap QG)/\Qu 3 G.heap.size w' z.2.2.1 (z.2.2.2.map (·.1))/\(∀b∈ob z.2.1,b∉ob z.2.2.1)/\z.2.2.2.length=z.1/\(∀x∈z.2.2.2,0<=x.1/\x.1<4096)/\(z.2.2.2.map (·.1)).Nodup/\Yp (es.map DV.it) (q.ls.drop z.1) (z.2.2.2.map (·.1)) z.2.2.2=R) (λz=>q.ls.length - z.1) ol (0,Zz,Zz,[]) oB
  ⟨Ln _,O5.Z _ _,QI _ _ _ _,QI _ _ _ _,by simp[ob],rfl,oe,MP,hR⟩ ?_
 rintro⟨k,vo,vt,l⟩ g w2 ⟨hk,I,J,hg,hn,ho,hr,hs,hE⟩;simp only[]at hk J hg hn ho hr hs hE;have gq:=I.size;have gr:(l.map (·.1)).length=k:=by rw[Lh,ho]
 have h2:=h1.I I;have hG:=hw.I I;refine Qc<|QY U U<|xe<|Qd<|QH U (λht=>?_) (λht=>?_)
 ·refine Qz ?_;have hH:q.ls.length<=k:=by have hh:¬(k:Int)<(q.ls.length:Int):=ht;omega
  rw[Lr hH]at hE;rw[Yp]at hE;subst hE;refine Qm<|QN<|(Qf1 J hr hs oa).mono ?_;rintro r3 w3 ⟨hI,hJ⟩;refine xe<|Qm<|x Ql<|Qb<|Qk ⟨[vo,oF oG 0],oA,T.D (I.then hI λb E=>.inr (Qi J b E).1),vo,U,λe=>OW U e,λ_=>Zu hJ oa⟩
 have V:k<q.ls.length:=by have hh:(k:Int)<(q.ls.length:Int):=ht;omega
 have hK:q.ls.drop k=q.ls[k]'V::q.ls.drop (k+1):=LF V;rw[hK,j7]at hE;refine Qh<|Qd<|Qg<|Qc<|O8 (g:=Z7) (i:=k) QhY hG.ls.arr U U V λgs hh=>?_;refine Zj (q.ls[k]'V) λy hy=>?_;rw[hy]at hh hE;refine x (Qw hh U U)<|Qe<|Qo (us:=[.string .empty,oF oG 0]) U λb9 w4 hL hM hN=>Qe<|Qj (us:=Z7 y) hN U U U U oA λw5 hO hz=>xe ?_;have hu:O5 [] w2 w5:=hL.O hO hM;have hP:QR [] w5.heap vt (l.map (·.1)):=(Qu.ints hg oa oe).I hu;refine Qm<|Qs U hz U U<|Qa<|QN<|(Qfu (h2.I hu) y.1 hP).mono ?_;rintro r6 w6 ⟨⟨i,rfl,hi⟩,h4⟩;have Y:=hu.D h4;have gt:=Y.size;refine Qa<|Zd U U<|Zd U U<|x Ql<|Qb<|Qd<|Qm<|ZD U U<|xe<|QZ rfl (λhe=>?_) (λhe=>?_)
 ·rw[OU he]at hE;subst hE;refine Qm<|x Ql<|Qb<|Qk ⟨[Zz,oF oG _],oA,T.D (I.D Y),Zz,U,λ_=>U,λe=>OW e he⟩
 rw[OT he]at hE;have h5:yR (es.map DV.it) y.1 (l.map (·.1))=0:=Lo.1 he;have hi:=hi h5;obtain⟨hF,h6⟩:=Qj1 h5;rw[Lh]at hF;refine Zj (Z8 (es.map DV.it) 1 y.1) λF hQ=>?_;rw[hQ]at hi hF h6 hE;subst hi;refine Qh ?_;have hS:=hz.I h4;have hT:=Qn J Y;have hU:Qu 3 G.heap.size w6 vt (l.map (·.1)):=Qn hg Y;refine Qm<|Qa<|Qe<|QA (us:=[[oF oG F]]) U U og (show 1*1<=1000000 by decide) oA λgu w7 hf gv hV=>?_;have h7:Qu 3 G.heap.size w7 vt (l.map (·.1)):=Qn hU hf;have gw:=hf.size;refine Qe<|Q8 (m:=1) (news:=[oF oG F]) h7 U U U (by have:=hV.at (L:=[]) oe;simpa using this) (by simp[Value.oneCell']) oa oa λhj w8 hW hl hX=>?_;refine Qb ?_;have gx:=hl.size;have hY:=Qf (Qn hT hf) hl hn;have hZ:∀b∈ob vt,G.heap.size<=b:=λb E=>(Qi h7 b E).1;have ga:O5 [] G w8:=((I.D Y).D hf).then hl λb E=>.inr (hZ b E);have gb:=(hS.I hf).J hl (λE=>ou (Qi hg b9 E).2);have h8:∀b∈ob vo,b∉ob hj:=λb E O=>by
  rcases hX b O with H|H
  ·exact hn b E H
  have:=(Qi J b E).2;omega
 refine Qv<|Qa<|Qa<|Qs U gb U U<|x (Qx ⟨U,U,Z⟩)<|Qe<|QA (us:=[QG ((F:Int),y.2)]) U U og (show 1*2<=1000000 by decide) oA λgy w9 hm gz gc=>?_;have gg:=Qn hY hm;have g0:=hm.size;refine Qe<|Q8 (m:=1) (news:=QG ((F:Int),y.2)) gg U U U (by have:=gc.at (L:=[]) oe;simpa using this) (by simp[Value.oneCell']) oa oa λh9 hv gh hA gi=>?_;refine Qb ?_;have hB:=Qn hW hm;have gj:Qu 3 G.heap.size hv hj ((l++[((F:Int),y.2)]).map (·.1)):=by
  have H:=Qf hB hA (λb E O=>h8 b O E);show hv.ownsRow _ _ 1 _ _ _;simp only[Oi,oM,Oc]at H ⊢;simpa using H
 have gk:O5 [] G hv:=(ga.D hm).then hA λb E=>.inr (Qi J b E).1;have gl:∀b∈ob h9,b∉ob hj:=λb E O=>by
  rcases gi b E with H|H
  ·exact h8 b H O
  have:=(Qi hB b O).2;omega
 refine Qv<|QP U U<|Qa<|xe<|⟨(k+1,h9,hj,l++[((F:Int),y.2)]),by show q.ls.length - (k+1)<q.ls.length - k;omega,oB,V,gk,by rw[Lk,LA];simpa using gh,gj,gl,by simp[ho],λp S=>?_,?_,?_⟩
 ·rcases Lc.1 S with S|S
  ·exact hr p S
  simp only[oI]at S;subst S;exact⟨oh,oh⟩
 ·rw[Ls,ME];refine⟨hs,oe,λa ha b E e=>?_⟩;simp only[oY,OL,oI]at E;subst E;subst e;exact h6 ha
 rw[Ls];exact hE
theorem QhF {v:O2}{es:List DV}(h0:Zp L w.heap v es.length 9 (es.flatMap Qy))(gm:es.length<=4096)(hC:Jg L' w.heap q)(gn:q.ts.length<=100000):
  Q6 prog 100 [v,.agg (Qy q).toArray] w λr w'=>O5 [] w w'/\∃vo,r=.tuple #[vo,oF oG (Yp (es.map DV.it) q.ts [] []).1]/\((Yp (es.map DV.it) q.ts [] []).1≠0->vo=Zz) /\
   ((Yp (es.map DV.it) q.ts [] []).1=0->w'.ownsRow w.heap.size 123 2 vo (Yp (es.map DV.it) q.ts [] []).2.length ((Yp (es.map DV.it) q.ts [] []).2.flatMap QG)):=by
 have h:=h0.up (L':=[]) oe;have hq:=hC.up (L':=[]) oe;refine Zj (Yp (es.map DV.it) q.ts [] []) λR hR=>?_;rw[hR];refine Zo func100 ?_;refine Qc<|Qe<|QV (us:=Qy q) U λb3 G T go hD=>x Ql<|Qb ?_;have gp:=T.size;have h1:=h.I T;have hw:=hq.I T;refine Qc<|Qb<|Qc<|Qb<|Qd<|Qc<|Qs U hD U U<|QL hw.ts.arr U<|Qa<|xe<|Qg<|QC (α:=Nat×O2×O2×xx) [(4,7),(9,11),(15,41)] (λz=>[(6,z.2.1),(7,z.2.2.1),(15,oF oG z.1)]) (λz w'=>z.1<=q.ts.length/\O5 [] G w'/\w'.ownsRow G.heap.size 123 2 z.2.1 z.2.2.2.length (z.2.2.2.flatMap QG)/\Qu 3 G.heap.size w' z.2.2.1 (z.2.2.2.map (·.1))/\(∀b∈ob z.2.1,b∉ob z.2.2.1)/\z.2.2.2.length=z.1/\(∀x∈z.2.2.2,0<=x.1/\x.1<4096)/\(z.2.2.2.map (·.1)).Nodup/\Yp (es.map DV.it) (q.ts.drop z.1) (z.2.2.2.map (·.1)) z.2.2.2=R) (λz=>q.ts.length - z.1) ol (0,Zz,Zz,[]) oB
  ⟨Ln _,O5.Z _ _,QI _ _ _ _,QI _ _ _ _,by simp[ob],rfl,oe,MP,hR⟩ ?_
 rintro⟨k,vo,vt,l⟩ g w2 ⟨hk,I,J,hg,hn,ho,hr,hs,hE⟩;simp only[]at hk J hg hn ho hr hs hE;have gq:=I.size;have gr:(l.map (·.1)).length=k:=by rw[Lh,ho]
 have h2:=h1.I I;have hG:=hw.I I;refine Qc<|QY U U<|xe<|Qd<|QH U (λht=>?_) (λht=>?_)
 ·refine Qz ?_;have hH:q.ts.length<=k:=by have hh:¬(k:Int)<(q.ts.length:Int):=ht;omega
  rw[Lr hH]at hE;rw[Yp]at hE;subst hE;refine Qm<|QN<|(QfZ J hr hs oa).mono ?_;rintro r3 w3 ⟨hI,hJ⟩;refine xe<|Qm<|x Ql<|Qb<|Qk ⟨[vo,oF oG 0],oA,T.D (I.then hI λb E=>.inr (Qi J b E).1),vo,U,λe=>OW U e,λ_=>Zu hJ oa⟩
 have V:k<q.ts.length:=by have hh:(k:Int)<(q.ts.length:Int):=ht;omega
 have hK:q.ts.drop k=q.ts[k]'V::q.ts.drop (k+1):=LF V;rw[hK,j7]at hE;refine Qh<|Qd<|Qg<|Qc<|O8 (g:=Z7) (i:=k) QhY hG.ts.arr U U V λgs hh=>?_;refine Zj (q.ts[k]'V) λy hy=>?_;rw[hy]at hh hE;refine x (Qw hh U U)<|Qe<|Qo (us:=[.string .empty,oF oG 0]) U λb9 w4 hL hM hN=>Qe<|Qj (us:=Z7 y) hN U U U U oA λw5 hO hz=>xe ?_;have hu:O5 [] w2 w5:=hL.O hO hM;have hP:QR [] w5.heap vt (l.map (·.1)):=(Qu.ints hg oa oe).I hu;refine Qm<|Qs U hz U U<|Qa<|QN<|(Qfu (h2.I hu) y.1 hP).mono ?_;rintro r6 w6 ⟨⟨i,rfl,hi⟩,h4⟩;have Y:=hu.D h4;have gt:=Y.size;refine Qa<|Zd U U<|Zd U U<|x Ql<|Qb<|Qd<|Qm<|ZD U U<|xe<|QZ rfl (λhe=>?_) (λhe=>?_)
 ·rw[OU he]at hE;subst hE;refine Qm<|x Ql<|Qb<|Qk ⟨[Zz,oF oG _],oA,T.D (I.D Y),Zz,U,λ_=>U,λe=>OW e he⟩
 rw[OT he]at hE;have h5:yR (es.map DV.it) y.1 (l.map (·.1))=0:=Lo.1 he;have hi:=hi h5;obtain⟨hF,h6⟩:=Qj1 h5;rw[Lh]at hF;refine Zj (Z8 (es.map DV.it) 1 y.1) λF hQ=>?_;rw[hQ]at hi hF h6 hE;subst hi;refine Qh ?_;have hS:=hz.I h4;have hT:=Qn J Y;have hU:Qu 3 G.heap.size w6 vt (l.map (·.1)):=Qn hg Y;refine Qm<|Qa<|Qe<|QA (us:=[[oF oG F]]) U U og (show 1*1<=1000000 by decide) oA λgu w7 hf gv hV=>?_;have h7:Qu 3 G.heap.size w7 vt (l.map (·.1)):=Qn hU hf;have gw:=hf.size;refine Qe<|Q8 (m:=1) (news:=[oF oG F]) h7 U U U (by have:=hV.at (L:=[]) oe;simpa using this) (by simp[Value.oneCell']) oa oa λhj w8 hW hl hX=>?_;refine Qb ?_;have gx:=hl.size;have hY:=Qf (Qn hT hf) hl hn;have hZ:∀b∈ob vt,G.heap.size<=b:=λb E=>(Qi h7 b E).1;have ga:O5 [] G w8:=((I.D Y).D hf).then hl λb E=>.inr (hZ b E);have gb:=(hS.I hf).J hl (λE=>ou (Qi hg b9 E).2);have h8:∀b∈ob vo,b∉ob hj:=λb E O=>by
  rcases hX b O with H|H
  ·exact hn b E H
  have:=(Qi J b E).2;omega
 refine Qv<|Qa<|Qa<|Qs U gb U U<|x (Qx ⟨U,U,Z⟩)<|Qe<|QA (us:=[QG ((F:Int),y.2)]) U U og (show 1*2<=1000000 by decide) oA λgy w9 hm gz gc=>?_;have gg:=Qn hY hm;have g0:=hm.size;refine Qe<|Q8 (m:=1) (news:=QG ((F:Int),y.2)) gg U U U (by have:=gc.at (L:=[]) oe;simpa using this) (by simp[Value.oneCell']) oa oa λh9 hv gh hA gi=>?_;refine Qb ?_;have hB:=Qn hW hm;have gj:Qu 3 G.heap.size hv hj ((l++[((F:Int),y.2)]).map (·.1)):=by
  have H:=Qf hB hA (λb E O=>h8 b O E);show hv.ownsRow _ _ 1 _ _ _;simp only[Oi,oM,Oc]at H ⊢;simpa using H
 have gk:O5 [] G hv:=(ga.D hm).then hA λb E=>.inr (Qi J b E).1;have gl:∀b∈ob h9,b∉ob hj:=λb E O=>by
  rcases gi b E with H|H
  ·exact h8 b H O
  have:=(Qi hB b O).2;omega
 refine Qv<|QP U U<|Qa<|xe<|⟨(k+1,h9,hj,l++[((F:Int),y.2)]),by show q.ts.length - (k+1)<q.ts.length - k;omega,oB,V,gk,by rw[Lk,LA];simpa using gh,gj,gl,by simp[ho],λp S=>?_,?_,?_⟩
 ·rcases Lc.1 S with S|S
  ·exact hr p S
  simp only[oI]at S;subst S;exact⟨oh,oh⟩
 ·rw[Ls,ME];refine⟨hs,oe,λa ha b E e=>?_⟩;simp only[oY,OL,oI]at E;subst E;subst e;exact h6 ha
 rw[Ls];exact hE
structure Y2 where
 dr:Bool
 q:DV
abbrev Yg (e:Y2):LV:=[.bool e.dr,oF oG e.q.kd,.string e.q.nm,e.q.p.va,oF oG e.q.p.a.st,e.q.p.vm,e.q.p.ve,e.q.vl,e.q.vt,oF oG e.q.bd]
theorem QmC (e:Y2):(Yg e).length=10:=rfl
def Y2.e (e:Y2):Bool×Z4:=(e.dr,e.q.it)
def QkS (L:LN)(H:xC)(e:Y2):Prop:=Jg L H e.q
instance:Mm QkS:=⟨λh E=>Jg.st h E,λh G=>Jg.up h G⟩
theorem QkS.ones {L:LN}{H:xC}{e:Y2}(h:QkS L H e):Zm (Yg e):=⟨U,Jg.ones h⟩
abbrev Qbo (L:LN)(H:xC)(v:O2)(l:List Y2):Prop:=Go.Lg.K1 Yg 10 QkS L H v l
theorem QmN {l:List Z4}{x:Z4}(h:(V8 l x).1=0):(V8 l x).2.length<=76:=by
 unfold V8 at *;split at h
 ·rename_i E;exact OW h E
 rename_i E;have hl:=Vj (Lo.1 E);rw[OT E];split at h
 ·rename_i G;exact OW h G
 rename_i G;rw[OT G];split at h
 ·rename_i H;rw[OU H,Mc];exact hl
 rename_i H;rw[OT H];split at h
 ·cases h
 rename_i I;rw[OT I];simp only[oM,Oa,oW,o6];omega
theorem QmQ {l:List Z4}{k:Int}{n:ByteArray}(h:(zd l k n).1=0):(zd l k n).2.length<=76:=by
 unfold zd at *;split at h
 ·rename_i E;exact OW h E
 rename_i E;have hl:=Vj (Lo.1 E);rw[OT E];split at h
 ·cases h
 rename_i G;rw[OT G];simp only[oM,Oa,o6];omega
theorem QkV {v:O2}{es:List DV}{xs:List Y2}(E:KR L w.heap v es)(hv:Qbo L' w.heap vx xs):
  Q6 prog 46 [v,vx] w λr w'=>O5 [] w w'/\∃vo l,r=.tuple #[vo,oF oG (ze (es.map DV.it) (xs.map Y2.e)).1]/\JE w.heap.size w' vo l/\((ze (es.map DV.it) (xs.map Y2.e)).1=0->l.map DV.it=(ze (es.map DV.it) (xs.map Y2.e)).2/\l.length<=76):=by
 have h:=E.up (L':=[]) oe;have hx:Qbo [] w.heap vx xs:=hv.up oe;have hI:=hx.arr.le;have G:ze (es.map DV.it) (xs.map Y2.e)=if Jt (es.map DV.it)≠0 then(Jt (es.map DV.it),[])else qA (xs.map Y2.e) (es.map DV.it):=rfl
 refine Zj (ze (es.map DV.it) (xs.map Y2.e)) λD hD=>?_;rw[hD]at G ⊢;refine Zo func46 ?_;refine Qc<|x Ql<|Qb<|Qd<|Qm<|QN<|(JC h).mono ?_;rintro r1 w1 ⟨rfl,S⟩;refine Qb<|Qm<|ZD U U<|xe<|QZ rfl (λH=>?_) (λH=>?_)
 ·rw[OU H]at G;refine Qm<|x Ql<|Qb<|Qk ⟨[nS,oF oG (Jt (es.map DV.it))],oA,S,nS,[],by rw[G];rfl,YA.nil,λE=>OW (by rw[G]at E;exact E) H⟩
 rw[OT H]at G;have hJ:es.length<=76:=by have:=Vj (Lo.1 H);rwa [Lh]at this
 refine Qh<|Qm<|QN<|(J6 (h.I S) oa).mono ?_;rintro r2 w2 ⟨hw,l2,hy,hh⟩;have hK:l2.length=es.length:=by have:=OV oP hh;rwa [Lh,Lh]at this
 have hz:=S.D hw;have h2:=S.size;refine Qb<|Qd<|Qm<|QL hx.arr U<|Qa<|xe<|Qg<|QC (α:=Nat×O2×List DV) [(4,5),(7,7),(9,10),(20,47)] (λz=>[(7,z.2.1),(20,oF oG z.1)]) (λz w'=>z.1<=xs.length/\O5 [] w w'/\JE w.heap.size w' z.2.1 z.2.2/\z.2.2.length<=76/\qA ((xs.map Y2.e).drop z.1) (z.2.2.map DV.it)=D) (λz=>xs.length - z.1) ol (0,r2,l2) oA
  ⟨Ln _,hz,hy.base h2,(show l2.length<=76 by omega),by rw[List.drop_zero,hh];exact G.symm⟩ ?_
 rintro⟨k,vo,l⟩ g Y ⟨hk,ha,hl,hi,hR⟩;simp only[]at hk hl hi hR;refine Qc<|QY U U<|xe<|Qd<|QH U (λhb=>?_) (λhb=>?_)
 ·refine Qz ?_;have h3:xs.length<=k:=by have h4:¬(k:Int)<(xs.length:Int):=hb;omega
  rw[Lr (by rw[Lh];exact h3),qA]at hR;refine Qm<|x Ql<|Qb<|Qk ⟨[vo,oF oG 0],oA,ha,vo,l,by rw[<-hR];rfl,hl,λ_=>⟨by rw[<-hR],hi⟩⟩
 have I:k<xs.length:=by have h4:(k:Int)<(xs.length:Int):=hb;omega
 have h5:k<(xs.map Y2.e).length:=by rw[Lh];exact I
 rw[LF h5,LO,qA]at hR;have hj:=Ll I;have hm:Qbo [] Y.heap vx xs:=Go.Lg.K1.I hx ha;refine Qh<|Qd<|Qg<|Qc<|O8 (g:=Yg) (i:=k) QmC hm.arr U U I λhL hn=>?_;refine Zj (xs[k]'I) λe he=>?_;rw[he]at hn hj hR;have ho:Jg [] Y.heap e.q:=hm.each e hj;refine x (Qw hn U U)<|Qe<|Qo (us:=[.bool false,oF oG 0,.string .empty,nS,oF oG 0,nS,nS,nS,nS,oF oG 0]) U λb9 w4 h6 h7 h8=>Qe<|Qj (us:=Yg e) h8 U U U U (QkS.ones ho) λw5 h9 T=>xe ?_;have hc:O5 [] Y w5:=h6.O h9 h7;have hf:=ha.D hc;have hp:=hf.size;have hA:=hl.I hc;have hq:KR [] w5.heap vo l:=JE.dits hA oa oe;have hB:=ho.I hc;refine Qc<|Qb<|Q3 (α:=O2×List DV) [(7,7),(10,10),(24,43)] (λz=>[(7,z.1),(10,oF oG (zf (l.map DV.it) e.e).1)]) (λz w'=>O5 [] w w'/\JE w.heap.size w' z.1 z.2/\((zf (l.map DV.it) e.e).1=0->z.2.map DV.it=(zf (l.map DV.it) e.e).2/\z.2.length<=76)) ol ?_ ?_
 ·refine Qc<|Qs U T U U<|xe<|QX U (λhg=>?_) (λhg=>?_)
  ·have e1:zf (l.map DV.it) e.e=zd (l.map DV.it) e.q.kd e.q.nm:=OU hg;rw[e1];refine Qv<|Qa<|Zc U<|Qs U T U U<|Zc U<|Zc U<|x (Qq T U U) <|
    QN<|(Qns hq e.q.kd e.q.nm).mono ?_
   rintro r7 w7 ⟨hC,v7,l7,rfl,hE,hr⟩;refine Qa<|Zd U U<|Zd U U<|x Ql<|Qb<|⟨(v7,l7),oA,hf.D hC,hE.base hp,λE=>⟨hr E,?_⟩⟩;have J:=QmQ E;rw[<-hr E,Lh]at J;exact J
  have e1:zf (l.map DV.it) e.e=V8 (l.map DV.it) e.q.it:=OT (by show ¬e.dr=true;rw[hg];decide);rw[e1];refine Qv<|Qa<|Zc U<|x (Zv (us:=Qy e.q) T U U U)<|QN<|(QpF hq hB).mono ?_;rintro r6 w6 ⟨hF,v6,l6,rfl,hG,hs⟩;refine Qa<|Zd U U<|Zd U U<|x Ql<|Qb<|⟨(v6,l6),oA,hf.D hF,hG.base hp,λE=>⟨hs E,?_⟩⟩;have J:=QmN E;rw[<-hs E,Lh]at J;exact J
 rintro⟨v8,l8⟩ g w8 ⟨ht,hu,V⟩;simp only[]at hu V;refine Qm<|ZD U U<|xe<|QZ rfl (λO=>?_) (λO=>?_)
 ·rw[OU O]at hR;refine Qm<|x Ql<|Qb<|Qk ⟨[nS,oF oG (zf (l.map DV.it) e.e).1],oA,ht,nS,[],by rw[<-hR];rfl,YA.nil,λE=>OW (by rw[<-hR]at E;exact E) O⟩
 rw[OT O]at hR;obtain⟨V,hH⟩:=V (Lo.1 O);refine Qh<|Qv<|QP U U<|Qa<|xe ?_;exact⟨(k+1,v8,l8),oh,oA,I,ht,hu,hH,by simp only[];rw[V];exact hR⟩
structure zP where
 vc:O2
 lc:List IV
 vr:O2
 lr:List IV
 vx:O2
 lx:List XV
 vk:O2
 lk:List KV
def zP.bl (z:zP):LN:=ob z.vc++(ob z.vr++(ob z.vx++ob z.vk))
structure CeA (L:LN)(H:xC)(z:zP):Prop where
 c:∀q∈z.lc,IvA L H q
 r:∀q∈z.lr,IvA L H q
 x:∀q∈z.lx,XvA L H q
 k:∀q∈z.lk,KvA L H q
instance:Mm CeA:=⟨λh G=>⟨λq E=>(h.c q E).st G,λq E=>(h.r q E).st G,λq E=>(h.x q E).st G,λq E=>(h.k q E).st G⟩,λh H=>⟨λq E=>(h.c q E).up H,λq E=>(h.r q E).up H,λq E=>(h.x q E).up H,λq E=>(h.k q E).up H⟩⟩
theorem Mm.own {E:LN->Array Obj->α->Prop}[Mm E]{O O' LL:LN}{q:α}(h:E (O++LL) w.heap q)(H:O5 X w w')(I:∀b∈X,b∈O\/b∈LL)(J:∀b∈O',b∈O\/w.heap.size<=b):E (O'++LL) w'.heap q:=by
 have S:E (O'++(O++LL)) w.heap q:=Mm.up h λb G=>(Lc.1 G).elim (λG=>(J b G).imp (λh=>Lc.2 (.inl h)) id) .inl;refine Mm.mono (Mm.st S (H.mono λb G=>Lc.2 (.inr (Lc.2 (I b G))))) λb G=>?_;exact(Lc.1 G).elim (λG=>Lc.2 (.inl G)) λG=>Lc.2 (.inr (Lc.2 (.inr G)))
structure CwI (LL:LN)(B:Nat)(w:O1)(b7:Nat)(ve:O2)(z:zP):Prop where
 b:∃T,Q7 w.heap b7 T [ve,z.vc,z.vr,z.vx,z.vk]
 oc:w.ownsRow B 71 5 z.vc z.lc.length (z.lc.flatMap QM)
 or:w.ownsRow B 71 5 z.vr z.lr.length (z.lr.flatMap QM)
 ox:w.ownsRow B 116 2 z.vx z.lx.length (z.lx.flatMap Q5)
 ok:w.ownsRow B 121 3 z.vk z.lk.length (z.lk.flatMap Za)
 e:CeA (z.bl++LL) w.heap z
 dcr:∀b∈ob z.vc,b∉ob z.vr
 dcx:∀b∈ob z.vc,b∉ob z.vx
 dck:∀b∈ob z.vc,b∉ob z.vk
 drx:∀b∈ob z.vr,b∉ob z.vx
 drk:∀b∈ob z.vr,b∉ob z.vk
 dxk:∀b∈ob z.vx,b∉ob z.vk
section
variable {LL:LN}{w8 w9:O1}{b7:Nat}{z:zP}
theorem CwI.I (h:CwI LL B w b7 ve z)(E:O5 [] w w8):CwI LL B w8 b7 ve z:=by
 obtain⟨T,G⟩:=h.b;exact⟨⟨T,G.I E⟩,Qn h.oc E,Qn h.or E,Qn h.ox E,Qn h.ok E,Mm.I h.e E,h.dcr,h.dcx,h.dck,h.drx,h.drk,h.dxk⟩
theorem CwI.ge (h:CwI LL B w b7 ve z):∀b∈z.bl,B<=b/\b<w.heap.size:=λb E=>by
 unfold zP.bl at E;rcases Lc.1 E with E|E
 ·exact Qi h.oc b E
 rcases Lc.1 E with E|E
 ·exact Qi h.or b E
 rcases Lc.1 E with E|E
 ·exact Qi h.ox b E
 exact Qi h.ok b E
theorem CwI.ap_c (h:CwI LL B w b7 ve z){H:O2}{q:IV}(Y:IvA (z.bl++LL) w.heap q)(V:w8.ownsRow B 71 5 H (z.lc.length+1) (z.lc.flatMap QM++QM q))(O:O5 (ob z.vc) w w8)(S:∀b∈ob H,b∈ob z.vc\/w.heap.size<=b)
  (J:O5 [b7] w8 w9) (ha:∃T,Q7 w9.heap b7 T [ve,H,z.vr,z.vx,z.vk]) (h7:b7<B) (hL:b7∈LL):CwI LL B w9 b7 ve { z with vc:=H,lc:=z.lc++[q] }:=by
 have gr:=Qi h.or;have gx:=Qi h.ox;have gk:=Qi h.ok;have g8:=Qi V;have hc:w8.ownsRow B 71 5 H (z.lc++[q]).length ((z.lc++[q]).flatMap QM):=by
  rw[Lk,LA];simpa using V
 have he:∀b∈ob z.vc,b∈z.bl:=λb E=>by
  unfold zP.bl;simp only[oU];exact .inl E
 have hz:CeA (z.bl++LL) w.heap { z with vc:=H,lc:=z.lc++[q] }:=⟨λd hd=>(Lc.1 hd).elim (h.e.c d) λhd=>by rw[Lb.1 hd];exact Y,h.e.r,h.e.x,h.e.k⟩
 have hf:CeA ((zP.bl { z with vc:=H,lc:=z.lc++[q] })++LL) w8.heap { z with vc:=H,lc:=z.lc++[q] }:=Mm.own hz O (λb E=>.inl (he b E)) λb E=>by
  unfold zP.bl at E ⊢;simp only[oU]at E ⊢;rcases E with E|E|E|E
  ·exact(S b E).imp (λE=>.inl E) id
  ·exact .inl (.inr (.inl E))
  ·exact .inl (.inr (.inr (.inl E)))
  exact .inl (.inr (.inr (.inr E)))
 refine⟨ha,Qf hc J (λb E G=>by rw[Lb.1 G]at E;have:=g8 b7 E;omega),Qf (Qf h.or O (λb E G=>h.dcr b G E)) J (λb E G=>by rw[Lb.1 G]at E;have:=gr b7 E;omega),Qf (Qf h.ox O (λb E G=>h.dcx b G E)) J (λb E G=>by rw[Lb.1 G]at E;have:=gx b7 E;omega),Qf (Qf h.ok O (λb E G=>h.dck b G E)) J (λb E G=>by rw[Lb.1 G]at E;have:=gk b7 E;omega),Mm.own hf J (λb E=>.inr (by rw[Lb.1 E];exact hL)) (λb E=>.inl E),λb E G=>(S b E).elim (λI=>h.dcr b I G) (λI=>ou (gr b G)),λb E G=>(S b E).elim (λI=>h.dcx b I G) (λI=>ou (gx b G)),λb E G=>(S b E).elim (λI=>h.dck b I G) (λI=>ou (gk b G)),h.drx,h.drk,h.dxk⟩
theorem CwI.ap_r (h:CwI LL B w b7 ve z){H:O2}{q:IV}(Y:IvA (z.bl++LL) w.heap q)(V:w8.ownsRow B 71 5 H (z.lr.length+1) (z.lr.flatMap QM++QM q))(O:O5 (ob z.vr) w w8)(S:∀b∈ob H,b∈ob z.vr\/w.heap.size<=b)
  (J:O5 [b7] w8 w9) (ha:∃T,Q7 w9.heap b7 T [ve,z.vc,H,z.vx,z.vk]) (h7:b7<B) (hL:b7∈LL):CwI LL B w9 b7 ve { z with vr:=H,lr:=z.lr++[q] }:=by
 have gc:=Qi h.oc;have gx:=Qi h.ox;have gk:=Qi h.ok;have g8:=Qi V;have hc:w8.ownsRow B 71 5 H (z.lr++[q]).length ((z.lr++[q]).flatMap QM):=by
  rw[Lk,LA];simpa using V
 have he:∀b∈ob z.vr,b∈z.bl:=λb E=>by
  unfold zP.bl;simp only[oU];exact .inr (.inl E)
 have hz:CeA (z.bl++LL) w.heap { z with vr:=H,lr:=z.lr++[q] }:=⟨h.e.c,λd hd=>(Lc.1 hd).elim (h.e.r d) λhd=>by rw[Lb.1 hd];exact Y,h.e.x,h.e.k⟩
 have hf:CeA ((zP.bl { z with vr:=H,lr:=z.lr++[q] })++LL) w8.heap { z with vr:=H,lr:=z.lr++[q] }:=Mm.own hz O (λb E=>.inl (he b E)) λb E=>by
  unfold zP.bl at E ⊢;simp only[oU]at E ⊢;rcases E with E|E|E|E
  ·exact .inl (.inl E)
  ·exact(S b E).imp (λE=>.inr (.inl E)) id
  ·exact .inl (.inr (.inr (.inl E)))
  exact .inl (.inr (.inr (.inr E)))
 refine⟨ha,Qf (Qf h.oc O (λb E G=>h.dcr b E G)) J (λb E G=>by rw[Lb.1 G]at E;have:=gc b7 E;omega),Qf hc J (λb E G=>by rw[Lb.1 G]at E;have:=g8 b7 E;omega),Qf (Qf h.ox O (λb E G=>h.drx b G E)) J (λb E G=>by rw[Lb.1 G]at E;have:=gx b7 E;omega),Qf (Qf h.ok O (λb E G=>h.drk b G E)) J (λb E G=>by rw[Lb.1 G]at E;have:=gk b7 E;omega),Mm.own hf J (λb E=>.inr (by rw[Lb.1 E];exact hL)) (λb E=>.inl E),λb E G=>(S b G).elim (λI=>h.dcr b E I) (λI=>ou (gc b E)),h.dcx,h.dck,λb E G=>(S b E).elim (λI=>h.drx b I G) (λI=>ou (gx b G)),λb E G=>(S b E).elim (λI=>h.drk b I G) (λI=>ou (gk b G)),h.dxk⟩
theorem CwI.ap_x (h:CwI LL B w b7 ve z){H:O2}{q:XV}(Y:XvA (z.bl++LL) w.heap q)(V:w8.ownsRow B 116 2 H (z.lx.length+1) (z.lx.flatMap Q5++Q5 q))(O:O5 (ob z.vx) w w8)(S:∀b∈ob H,b∈ob z.vx\/w.heap.size<=b)
  (J:O5 [b7] w8 w9) (ha:∃T,Q7 w9.heap b7 T [ve,z.vc,z.vr,H,z.vk]) (h7:b7<B) (hL:b7∈LL):CwI LL B w9 b7 ve { z with vx:=H,lx:=z.lx++[q] }:=by
 have gc:=Qi h.oc;have gr:=Qi h.or;have gk:=Qi h.ok;have g8:=Qi V;have hc:w8.ownsRow B 116 2 H (z.lx++[q]).length ((z.lx++[q]).flatMap Q5):=by
  rw[Lk,LA];simpa using V
 have he:∀b∈ob z.vx,b∈z.bl:=λb E=>by
  unfold zP.bl;simp only[oU];exact .inr (.inr (.inl E))
 have hz:CeA (z.bl++LL) w.heap { z with vx:=H,lx:=z.lx++[q] }:=⟨h.e.c,h.e.r,λd hd=>(Lc.1 hd).elim (h.e.x d) λhd=>by rw[Lb.1 hd];exact Y,h.e.k⟩
 have hf:CeA ((zP.bl { z with vx:=H,lx:=z.lx++[q] })++LL) w8.heap { z with vx:=H,lx:=z.lx++[q] }:=Mm.own hz O (λb E=>.inl (he b E)) λb E=>by
  unfold zP.bl at E ⊢;simp only[oU]at E ⊢;rcases E with E|E|E|E
  ·exact .inl (.inl E)
  ·exact .inl (.inr (.inl E))
  ·exact(S b E).imp (λE=>.inr (.inr (.inl E))) id
  exact .inl (.inr (.inr (.inr E)))
 refine⟨ha,Qf (Qf h.oc O (λb E G=>h.dcx b E G)) J (λb E G=>by rw[Lb.1 G]at E;have:=gc b7 E;omega),Qf (Qf h.or O (λb E G=>h.drx b E G)) J (λb E G=>by rw[Lb.1 G]at E;have:=gr b7 E;omega),Qf hc J (λb E G=>by rw[Lb.1 G]at E;have:=g8 b7 E;omega),Qf (Qf h.ok O (λb E G=>h.dxk b G E)) J (λb E G=>by rw[Lb.1 G]at E;have:=gk b7 E;omega),Mm.own hf J (λb E=>.inr (by rw[Lb.1 E];exact hL)) (λb E=>.inl E),h.dcr,λb E G=>(S b G).elim (λI=>h.dcx b E I) (λI=>ou (gc b E)),h.dck,λb E G=>(S b G).elim (λI=>h.drx b E I) (λI=>ou (gr b E)),h.drk,λb E G=>(S b E).elim (λI=>h.dxk b I G) (λI=>ou (gk b G))⟩
theorem CwI.ap_k (h:CwI LL B w b7 ve z){H:O2}{q:KV}(Y:KvA (z.bl++LL) w.heap q)(V:w8.ownsRow B 121 3 H (z.lk.length+1) (z.lk.flatMap Za++Za q))(O:O5 (ob z.vk) w w8)(S:∀b∈ob H,b∈ob z.vk\/w.heap.size<=b)
  (J:O5 [b7] w8 w9) (ha:∃T,Q7 w9.heap b7 T [ve,z.vc,z.vr,z.vx,H]) (h7:b7<B) (hL:b7∈LL):CwI LL B w9 b7 ve { z with vk:=H,lk:=z.lk++[q] }:=by
 have gc:=Qi h.oc;have gr:=Qi h.or;have gx:=Qi h.ox;have g8:=Qi V;have hc:w8.ownsRow B 121 3 H (z.lk++[q]).length ((z.lk++[q]).flatMap Za):=by
  rw[Lk,LA];simpa using V
 have he:∀b∈ob z.vk,b∈z.bl:=λb E=>by
  unfold zP.bl;simp only[oU];exact .inr (.inr (.inr E))
 have hz:CeA (z.bl++LL) w.heap { z with vk:=H,lk:=z.lk++[q] }:=⟨h.e.c,h.e.r,h.e.x,λd hd=>(Lc.1 hd).elim (h.e.k d) λhd=>by rw[Lb.1 hd];exact Y⟩
 have hf:CeA ((zP.bl { z with vk:=H,lk:=z.lk++[q] })++LL) w8.heap { z with vk:=H,lk:=z.lk++[q] }:=Mm.own hz O (λb E=>.inl (he b E)) λb E=>by
  unfold zP.bl at E ⊢;simp only[oU]at E ⊢;rcases E with E|E|E|E
  ·exact .inl (.inl E)
  ·exact .inl (.inr (.inl E))
  ·exact .inl (.inr (.inr (.inl E)))
  exact(S b E).imp (λE=>.inr (.inr (.inr E))) id
 refine⟨ha,Qf (Qf h.oc O (λb E G=>h.dck b E G)) J (λb E G=>by rw[Lb.1 G]at E;have:=gc b7 E;omega),Qf (Qf h.or O (λb E G=>h.drk b E G)) J (λb E G=>by rw[Lb.1 G]at E;have:=gr b7 E;omega),Qf (Qf h.ox O (λb E G=>h.dxk b E G)) J (λb E G=>by rw[Lb.1 G]at E;have:=gx b7 E;omega),Qf hc J (λb E G=>by rw[Lb.1 G]at E;have:=g8 b7 E;omega),Mm.own hf J (λb E=>.inr (by rw[Lb.1 E];exact hL)) (λb E=>.inl E),h.dcr,h.dcx,λb E G=>(S b G).elim (λI=>h.dck b E I) (λI=>ou (gc b E)),h.drx,λb E G=>(S b G).elim (λI=>h.drk b E I) (λI=>ou (gr b E)),λb E G=>(S b G).elim (λI=>h.dxk b E I) (λI=>ou (gx b E))⟩
end
def jf (ev:List Ka)(z:zP):Zt:=⟨ev,z.lc.map IV.it,z.lr.map IV.it,z.lx.map XV.x,z.lk.map KV.k⟩
theorem QgT (all:List Z4)(x:Z4)(l:List Z4)(c:Zt):KK all (x::l) c=if(XY all x c).1≠0 then((XY all x c).1,UV)else KK all l (XY all x c).2:=rfl
theorem QrC {all:List Z4}{ev:List Ka}{z:zP}(h:q.kd=1)(v:O2):XY all q.it (jf ev z)=(0,jf ev { z with vc:=v,lc:=z.lc++[⟨q.nm,q.p⟩] }):=by
 unfold XY;rw[OU (show q.it.kd=1 from h)];unfold jf;simp only[Oi];rfl
theorem QrB {all:List Z4}{ev:List Ka}{z:zP}(h:q.kd=2)(v:O2):XY all q.it (jf ev z)=(0,jf ev { z with vr:=v,lr:=z.lr++[⟨q.nm,q.p⟩] }):=by
 unfold XY;rw[OT (show ¬q.it.kd=1 from λe=>by rw[show q.it.kd=q.kd from rfl,h]at e;cases e),OU (show q.it.kd=2 from h)];unfold jf;simp only[Oi];rfl
theorem QrA {all:List Z4}{ev:List Ka}{z:zP}(h:q.kd=3):(XY all q.it (jf ev z)).1=(Yp all q.ls [] []).1/\((Yp all q.ls [] []).1=0->∀v u,XY all q.it (jf ev z)=(0,jf ev { z with vx:=v,lx:=z.lx++[⟨q.nm,u,(Yp all q.ls [] []).2⟩] })):=by
 have e:XY all q.it (jf ev z)=if(Yp all q.ls [] []).1≠0 then((Yp all q.ls [] []).1,UV)else(0,{ jf ev z with ex:=(jf ev z).ex++[⟨q.nm,(Yp all q.ls [] []).2⟩] }):=by
  unfold XY;rw[OT (show ¬q.it.kd=1 from λe=>by rw[show q.it.kd=q.kd from rfl,h]at e;cases e),OT (show ¬q.it.kd=2 from λe=>by rw[show q.it.kd=q.kd from rfl,h]at e;cases e),OU (show q.it.kd=3 from h)];rfl
 rw[e];refine⟨?_,λE v u=>?_⟩
 ·split
  ·rfl
  rename_i G;exact(Lo.1 G).symm
 rw[OT (not_not_intro E)];unfold jf;simp only[Oi];rfl
theorem Qrz {all:List Z4}{ev:List Ka}{z:zP}(h:q.kd=4):(XY all q.it (jf ev z)).1=(Yp all q.ts [] []).1/\((Yp all q.ts [] []).1=0->∀v u,XY all q.it (jf ev z)=(0,jf ev { z with vk:=v,lk:=z.lk++[⟨q.nm,u,(Yp all q.ts [] []).2,q.bd⟩] })):=by
 have e:XY all q.it (jf ev z)=if(Yp all q.ts [] []).1≠0 then((Yp all q.ts [] []).1,UV)else(0,{ jf ev z with cs:=(jf ev z).cs++[⟨q.nm,(Yp all q.ts [] []).2,q.bd⟩] }):=by
  unfold XY;rw[OT (show ¬q.it.kd=1 from λe=>by rw[show q.it.kd=q.kd from rfl,h]at e;cases e),OT (show ¬q.it.kd=2 from λe=>by rw[show q.it.kd=q.kd from rfl,h]at e;cases e),OT (show ¬q.it.kd=3 from λe=>by rw[show q.it.kd=q.kd from rfl,h]at e;cases e),OU (show q.it.kd=4 from h)];rfl
 rw[e];refine⟨?_,λE v u=>?_⟩
 ·split
  ·rfl
  rename_i G;exact(Lo.1 G).symm
 rw[OT (not_not_intro E)];unfold jf;simp only[Oi];rfl
theorem QrD {all:List Z4}(E:¬q.kd=1)(G:¬q.kd=2)(H:¬q.kd=3)(I:¬q.kd=4):XY all q.it c=(0,c):=by
 unfold XY;rw[OT (show ¬q.it.kd=1 from E),OT (show ¬q.it.kd=2 from G),OT (show ¬q.it.kd=3 from H),OT (show ¬q.it.kd=4 from I)]
theorem yO (all:List Z4):∀(r:List (ByteArray×Int)) (tk:LI) (o:xx),(Yp all r tk o).2.length<=o.length+r.length
 | [],tk,o=>by rw[Yp];exact Nat.le_of_eq ((qk (λp:Int×Int=>p.1) o).length_eq)
 | y::r,tk,o=>by
  rw[Yp];split
  ·simp
  split
  ·simp
  refine LP (yO all r _ _) ?_;simp only[oM,oW,OG];omega
theorem QjU {v:O2}{ev:List Ka}{es:List DV}(ka:VQ L w.heap ve ev)(h0:KR L' w.heap v es)(E:∀q∈es.map DV.it,q.ls.length<=100000/\q.ts.length<=100000):
  Q6 prog 47 [ve,v] w λr w'=>O5 [] w w'/\∃cm:CL,r=.tuple #[.agg cm.cells.toArray,oF oG (KY ev (es.map DV.it)).1]/\Zm cm.cells/\((KY ev (es.map DV.it)).1=0->cm.V=(KY ev (es.map DV.it)).2/\∀L:LN,(∀b∈L,b<w.heap.size)->ZH L w'.heap cm):=by
 have h:=h0.up (L':=[]) oe;have hE:=ka.up (L':=[]) oe;have kb:=hE.arr.le;have hn:KY ev (es.map DV.it)=if Jt (es.map DV.it)≠0 then(Jt (es.map DV.it),UV)else KK (es.map DV.it) (es.map DV.it) ⟨ev,[],[],[],[]⟩:=rfl
 have hO:Zm (CL.mk Zz Zz Zz Zz Zz [] [] [] [] []).cells:=⟨U,U,U,U,U,Z⟩;refine Zj (KY ev (es.map DV.it)) λD hD=>?_;rw[hD]at hn ⊢;refine Zo func47 ?_;refine Qc<|Qe<|Qo (us:=Yf) U λb4 w1 g0 mu hP=>Qb<|Qd<|Qm<|QN<|(JC (h.I g0)).mono ?_;rintro r2 w2 ⟨rfl,hA⟩;have hQ:=g0.D hA;have mv:=hA.size;have mw:=hP.lt;refine Qb<|Qm<|ZD U U<|xe<|QZ rfl (λhu=>?_) (λhu=>?_)
 ·rw[OU hu]at hn;refine Qc<|x (Qx Z)<|Qa<|Qe<|Qj (us:=Yf) (hP.I hA) U U U U ⟨U,U,U,U,U,Z⟩ λw3 kc ke=>Qb<|Qk ⟨[.agg Yf.toArray,oF oG (Jt (es.map DV.it))],⟨⟨_,U,Qp U (ke.at (L:=[]) oe).cells⟩,rfl,Z⟩,hQ.O kc oa,CL.mk Zz Zz Zz Zz Zz [] [] [] [] [],by rw[hn];rfl,hO,λh0=>OW (by rw[hn]at h0;exact h0) hu⟩
 rw[OT hu]at hn;have my:es.length<=76:=by have:=Vj (Lo.1 hu);rwa [Lh]at this
 refine Qh<|Qm<|QN<|(Ub (hE.I hQ).arr).mono ?_;rintro re w4 ⟨hS,hv⟩;have mz:=hS.size;refine x (Qx ⟨xM hv,Z⟩)<|Qe<|Qo (us:=Yf) U λI w5 kf kg kh=>Qe<|Qj (us:=[re,Zz,Zz,Zz,Zz]) kh U U U U ⟨Qt hv,U,U,U,U,Z⟩ λw6 ki g2=>xe ?_;have hT:O5 [] w4 w6:=kf.O ki kg;have g3:=(hQ.D hS).D hT;have kj:=g2.lt;have hge:=Qi hv;refine Qd<|Qm<|QN<|(J6 (h.I g3) oa).mono ?_;rintro r7 w8 ⟨hw,l,hl,T⟩;have m2:l.length=es.length:=by have:=OV oP T;rwa [Lh,Lh]at this
 have kk:=g3.D hw;have m3:=hw.size;have kn:Zp [] w8.heap r7 l.length 9 (l.flatMap Qy):=QK hl.own oa oe;have ko:=g2.I hw;have hU:=((hP.I hA).I hS).I (hT.D hw);have kq:=Qn (Qn hv hT) hw;rw[<-T]at hn E;refine QL kn U<|Qa<|xe<|Qg<|QC (α:=Nat×zP) [(5,5),(9,13),(26,100)] (λz=>[(26,oF oG z.1)]) (λz w'=>z.1<=l.length/\O5 [I] w8 w'/\(∀L:LN,(∀b∈L,b<w.heap.size)->CwI (b4::I::L) w8.heap.size w' I re z.2)/\KK (l.map DV.it) ((l.drop z.1).map DV.it) (jf ev z.2)=D/\(z.2.lc.length<=z.1/\z.2.lr.length<=z.1/\z.2.lx.length<=z.1/\z.2.lk.length<=z.1))
  (λz=>l.length - z.1) ol (0,⟨Zz,[],Zz,[],Zz,[],Zz,[]⟩) La ⟨Ln _,O5.Z _ _,λL _=>⟨⟨_,ko⟩,QI _ _ _ _,QI _ _ _ _,QI _ _ _ _,QI _ _ _ _,⟨oe,oe,oe,oe⟩,by simp[ob],by simp[ob],by simp[ob],by simp[ob],by simp[ob],by simp[ob]⟩,by rw[List.drop_zero];exact hn.symm,Lx _,Lx _,Lx _,Lx _⟩ ?_
 rintro⟨k,z⟩ g w9 ⟨hk,hf,hI,hR,kr,kt,ku,kv⟩;simp only[]at hk hI hR kr kt ku kv;have g4:O5 [] w w9:=kk.O hf oa;have m4:=hf.size;have hg:=hI [] oe;refine Qc<|QY U U<|xe<|Qd<|QH U (λhV=>?_) (λhV=>?_)
 ·refine Qz ?_;have kw:l.length<=k:=by have kx:¬(k:Int)<(l.length:Int):=hV;omega
  rw[Lr kw]at hR;have g5:D=(0,jf ev z):=hR.symm;refine Exists.elim hg.b λT7 kz=>?_;have k0:=hU.J hf om;have g6:Zm [re,z.vc,z.vr,z.vx,z.vk]:=⟨Qt hv,Qt hg.oc,Qt hg.or,Qt hg.ox,Qt hg.ok,Z⟩;refine Qc<|Q9 kz U U<|Qe<|Qj (us:=[re,z.vc,z.vr,z.vx,z.vk]) k0 U U U U g6 λk4 hB k5=>Qb<|Qk ⟨[.agg #[re,z.vc,z.vr,z.vx,z.vk],oF oG 0],⟨⟨_,U,Qp U (k5.at (L:=[]) oe).cells⟩,rfl,Z⟩,g4.O hB oa,CL.mk re z.vc z.vr z.vx z.vk ev z.lc z.lr z.lx z.lk,by rw[g5];rfl,g6,λ_=>⟨by rw[g5];rfl,λN hN=>?_⟩⟩;have V:=hI N hN;have hF:∀b∈b4::N,b<w8.heap.size:=λb E=>by
   rcases Li.1 E with rfl|E
   ·omega
   have:=hN b E;omega
  have hG:∀b∈b4::N,b∈z.bl++(b4::I::N):=λb E=>Lc.2 (.inr (by
   rcases Li.1 E with rfl|E
   ·exact Lp
   exact Lj _ (Lj _ E)))
  have k6:=Qf kq hf (λb E T=>by rw[Lb.1 T]at E;have:=(hge I E).2;omega);have hC:ZH (b4::N) w9.heap (CL.mk re z.vc z.vr z.vx z.vk ev z.lc z.lr z.lx z.lk):=
   ⟨⟨QK k6 kb (λb E hbL=>by
     have h1:=hge b E;rcases Li.1 hbL with rfl|hbL
     ·omega
     have:=hN b hbL;omega),hE.nm⟩,
    ⟨QK V.oc (show z.lc.length<=1099511627776 by omega) (λb E hbL=>by have h1:=(Qi V.oc b E).1;have:=hF b hbL;omega),λq O=>((V.e.c q O).a.up λb E=>.inl (hG b E)),λq O=>(V.e.c q O).nm⟩,
    ⟨QK V.or (show z.lr.length<=1099511627776 by omega) (λb E hbL=>by have h1:=(Qi V.or b E).1;have:=hF b hbL;omega),λq O=>((V.e.r q O).a.up λb E=>.inl (hG b E)),λq O=>(V.e.r q O).nm⟩,
    ⟨QK V.ox (show z.lx.length<=1099511627776 by omega) (λb E hbL=>by have h1:=(Qi V.ox b E).1;have:=hF b hbL;omega),λq O=>((V.e.x q O).l.up λb E=>.inl (hG b E)),λq O=>(V.e.x q O).nm⟩,
    ⟨QK V.ok (show z.lk.length<=1099511627776 by omega) (λb E hbL=>by have h1:=(Qi V.ok b E).1;have:=hF b hbL;omega),λq O=>((V.e.k q O).l.up λb E=>.inl (hG b E)),λq O=>(V.e.k q O).nm⟩⟩
  exact(hC.st (hB.mono oe)).up λb E=>.inl (Lj _ E)
 have hh:k<l.length:=by have kx:(k:Int)<(l.length:Int):=hV;omega
 rw[LF hh,LH,QgT]at hR;have hW:=Ll hh;have k7:Zp [] w9.heap r7 l.length 9 (l.flatMap Qy):=((QK hl.own oa (λb E T=>by rw[Lb.1 T]at E;have:=(Qi hl.own I E).1;omega):Zp [I] w8.heap r7 l.length 9 (l.flatMap Qy)).st hf).up oe;refine Qh<|Qd<|Qg<|Qc<|O8 (g:=Qy) (i:=k) ZX k7 U U hh λm5 g7=>?_;refine Zj (l[k]'hh) λq O=>?_;rw[O]at g7 hW hR;have hH:=E q.it (LJ hW);have g8:∀L:LN,(∀b∈L,b<w.heap.size)->Jg (z.bl++(b4::I::L)) w9.heap q:=λL J=>by
  have h1:Jg (b4::I::L) w8.heap q:=hl.each q hW _ λb E=>.inl (by
   simp only[oL]at E;rcases E with rfl|rfl|E
   ·omega
   ·exact kj
   have:=J b E;omega)
  have S:Jg (z.bl++(b4::I::L)) w8.heap q:=h1.up λb E=>by
   rcases Lc.1 E with E|E
   ·exact .inr ((hI L J).ge b E).1
   exact .inl E
  exact S.st (hf.mono oe)
 have ha:Jg [] w9.heap q:=(g8 [] oe).up oe;refine x (Qw g7 U U)<|Qe<|Qo (us:=z9) U λb9 k4 hB k8 k9=>Qe<|Qj (us:=Qy q) k9 U U U U ha.ones λhs ma he=>xe ?_;have hi:O5 [] w9 hs:=hB.O ma k8;have hJ:=g4.D hi;have m6:=hi.size;have hj:∀L:LN,(∀b∈L,b<w.heap.size)->CwI (b4::I::L) w8.heap.size hs I re z:=λL J=>(hI L J).I hi;have hy:=hj [] oe;refine Exists.elim hy.b λT7 ht=>?_;have gc:=Qi hg.oc;have gr:=Qi hg.or;have gx:=Qi hg.ox;have gk:=Qi hg.ok;have n7c:I∉ob z.vc:=λT=>ou (gc I T).1
 have n7r:I∉ob z.vr:=λT=>ou (gr I T).1
 have n7x:I∉ob z.vx:=λT=>ou (gx I T).1
 have n7k:I∉ob z.vk:=λT=>ou (gk I T).1
 have g9:∀L:LN,(∀b∈L,b<w.heap.size)->Jg (z.bl++(b4::I::L)) hs.heap q:=λL J=>(g8 L J).I hi;have hz:O5 [I] w8 hs:=hf.D hi;refine Qc<|Qs U he U U<|xe<|Qg<|Qc<|x (Q2 U U)<|Qb<|QZ U (λhX=>?_) (λhX=>?_)
 ·have hk1:q.kd=1:=hX;refine Qv<|Qs U ht U U<|Qs U he U U<|Zc U<|x (Zv (us:=[q.p.va,oF oG q.p.a.st,q.p.vm,q.p.ve]) he U U U)<|x (Zn [(0,[.string q.nm]),(1,[q.p.va,oF oG q.p.a.st,q.p.vm,q.p.ve])] ⟨U,U,U,U,Z⟩) <|
   Qe<|QA (us:=[QM ⟨q.nm,q.p⟩]) U U og (by exact(by decide:1*5<=1000000)) oA λmf hY G mg hZ=>Qe<|Q8 (m:=1) (news:=QM ⟨q.nm,q.p⟩) (L:=[]) (hy.I G).oc U U U (hZ.at oe) (Zm.all (IvA.ones ⟨ha.a,ha.nm⟩)) (show z.lc.length+1<=1099511627776 by omega) (ou G.size) λho h3 h4 H ga =>
   Zc rfl<|Qe<|QB (j:=1) (u:=ho) ((ht.I G).J H n7c) U U oe (Qt h4) λgb Y gg=>xe ?_
  have e:=QrC (all:=l.map DV.it) (ev:=ev) (z:=z) hk1 ho;rw[e,OT oe]at hR;refine Qv<|QP U U<|Qa<|xe<|⟨(k+1,{ z with vc:=ho,lc:=z.lc++[⟨q.nm,q.p⟩] }),oh,La,hh,((hz.D G).then H (λb E=>.inr (gc b E).1)).Q Y,λL J=>((hj L J).I G).ap_c ⟨((g9 L J).I G).a,ha.nm⟩ h4 H ga Y ⟨T7,gg⟩ oa oe,hR,?_⟩
  simp only[oM,oO];omega
 have hk1:¬q.kd=1:=hX;refine Qc<|x (Q2 U U)<|Qb<|QZ U (λgh=>?_) (λgh=>?_)
 ·have gi:q.kd=2:=gh;refine Qv<|Qs U ht U U<|Qs U he U U<|Zc U<|x (Zv (us:=[q.p.va,oF oG q.p.a.st,q.p.vm,q.p.ve]) he U U U)<|x (Zn [(0,[.string q.nm]),(1,[q.p.va,oF oG q.p.a.st,q.p.vm,q.p.ve])] ⟨U,U,U,U,Z⟩) <|
   Qe<|QA (us:=[QM ⟨q.nm,q.p⟩]) U U og (by exact(by decide:1*5<=1000000)) oA λmf hY G mg hZ=>Qe<|Q8 (m:=1) (news:=QM ⟨q.nm,q.p⟩) (L:=[]) (hy.I G).or U U U (hZ.at oe) (Zm.all (IvA.ones ⟨ha.a,ha.nm⟩)) (show z.lr.length+1<=1099511627776 by omega) (ou G.size) λho h3 h4 H ga =>
   Zc rfl<|Qe<|QB (j:=2) (u:=ho) ((ht.I G).J H n7r) U U oe (Qt h4) λgb Y gg=>xe ?_
  have e:=QrB (all:=l.map DV.it) (ev:=ev) (z:=z) gi ho;rw[e,OT oe]at hR;refine Qv<|QP U U<|Qa<|xe<|⟨(k+1,{ z with vr:=ho,lr:=z.lr++[⟨q.nm,q.p⟩] }),oh,La,hh,((hz.D G).then H (λb E=>.inr (gr b E).1)).Q Y,λL J=>((hj L J).I G).ap_r ⟨((g9 L J).I G).a,ha.nm⟩ h4 H ga Y ⟨T7,gg⟩ oa oe,hR,?_⟩
  simp only[oM,oO];omega
 have gi:¬q.kd=2:=gh;refine Qc<|x (Q2 U U)<|Qb<|QZ U (λgj=>?_) (λgj=>?_)
 ·have gl:q.kd=3:=gj;have h5:=yO (l.map DV.it) q.ls [] [];have hLk:=Qgs (w:=hs) (v:=v) (es:=es) (q:=q) (h.arr.I hJ) oa (ha.I hi) hH.1;rw[<-T]at hLk;have hp:=QrA (all:=l.map DV.it) (ev:=ev) (z:=z) gl;refine Zj (Yp (l.map DV.it) q.ls [] []) λR gm=>?_;rw[gm]at hLk hp h5;refine Qm<|Q9 he U U<|QN<|hLk.mono ?_;rintro mh hY ⟨G,vo,rfl,mj,gn⟩;refine Qa<|Zd U U<|Zd U U<|x Ql<|Qb<|Qd<|Qm<|ZD U U<|xe<|QZ U (λhK=>?_) (λhK=>?_)
  ·rw[hp.1,OU hK]at hR;have go:=((hU.J hf om).I hi).I G;refine Qc<|x (Qx Z)<|Qa<|Qe<|Qj (us:=Yf) go U U U U ⟨U,U,U,U,U,Z⟩ λh3 H gp=>Qb<|Qk ⟨[.agg Yf.toArray,oF oG R.1],⟨⟨_,U,Qp U (gp.at (L:=[]) oe).cells⟩,rfl,Z⟩,(hJ.D G).O H oa,CL.mk Zz Zz Zz Zz Zz [] [] [] [] [],by rw[<-hR];rfl,hO,λh0=>OW (by rw[<-hR]at h0;exact h0) hK⟩
  have h6:=Lo.1 hK;have hc:=gn h6;have gq:=Qi hc;have mo:=G.size;have h7:=ht.I G;refine Qh<|Qv<|Qs U h7 U U<|Qs U (he.I G) U U<|Qa<|x (Qx ⟨U,xM hc,Z⟩)<|Qe<|QA (us:=[[.string q.nm,vo]]) U U og (by exact(by decide:1*2<=1000000)) oA λmq h3 H ms gs=>?_;have gt:=(hy.I G).I H;refine Qe<|Q8 (m:=1) (news:=[.string q.nm,vo]) (L:=[]) gt.ox U U U (gs.at oe) (Zm.all (us:=[.string q.nm,vo]) ⟨rfl,Qt hc,Z⟩) (show z.lx.length+1<=1099511627776 by omega) (ou H.size) λhr gb h8 Y gu =>
   Zc rfl<|Qe<|QB (j:=3) (u:=hr) ((h7.I H).J Y n7x) U U oe (Qt h8) λmt h9 gv=>xe ?_
  have e:=hp.2 h6 hr vo;rw[e,OT oe]at hR;refine Qv<|QP U U<|Qa<|xe ?_;have gw:R.2.length<=1099511627776:=by
   have h1:=hc.1;exact LP h5 (by have S:q.ls.length<=100000:=hH.1;simp only[OG];omega)
  refine⟨(k+1,{ z with vx:=hr,lx:=z.lx++[⟨q.nm,vo,R.2⟩] }),oh,La,hh,(((hz.D G).D H).then Y (λb E=>.inr (gx b E).1)).Q h9,λL J=>(((hj L J).I G).I H).ap_x ⟨(QK hc gw (λb E hbL=>?_)).I H,ha.nm⟩ h8 Y gu h9 ⟨T7,gv⟩ oa oe,hR,?_⟩
  ·have h1:=(gq b E).1;rcases Lc.1 hbL with S|S
   ·have:=((hj L J).ge b S).2;omega
   simp only[oL]at S;rcases S with rfl|rfl|S
   ·omega
   ·omega
   have:=J b S;omega
  simp only[oM,oO];omega
 have gl:¬q.kd=3:=gj;refine Qc<|x (Q2 U U)<|Qb<|QH U (λgy=>?_) (λgy=>?_)
 ·have gz:¬q.kd=4:=gy;rw[QrD hk1 gi gl gz,OT oe]at hR;refine Qh<|Qv<|QP U U<|Qa<|xe ?_;exact⟨(k+1,z),oh,La,hh,hz,hj,hR,oh⟩
 have gz:q.kd=4:=gy;have h5:=yO (l.map DV.it) q.ts [] [];have hLk:=QhF (w:=hs) (v:=v) (es:=es) (q:=q) (h.arr.I hJ) oa (ha.I hi) hH.2;rw[<-T]at hLk;have hp:=Qrz (all:=l.map DV.it) (ev:=ev) (z:=z) gz;refine Zj (Yp (l.map DV.it) q.ts [] []) λR gm=>?_;rw[gm]at hLk hp h5;refine Qm<|Q9 he U U<|QN<|hLk.mono ?_;rintro mh hY ⟨G,vo,rfl,mj,gn⟩;refine Qa<|Zd U U<|Zd U U<|x Ql<|Qb<|Qd<|Qm<|ZD U U<|xe<|QZ rfl (λhM=>?_) (λhM=>?_)
 ·rw[hp.1,OU hM]at hR;have go:=((hU.J hf om).I hi).I G;refine Qc<|x (Qx Z)<|Qa<|Qe<|Qj (us:=Yf) go U U U U ⟨U,U,U,U,U,Z⟩ λh3 H gp=>Qb<|Qk ⟨[.agg Yf.toArray,oF oG R.1],⟨⟨_,U,Qp U (gp.at (L:=[]) oe).cells⟩,rfl,Z⟩,(hJ.D G).O H oa,CL.mk Zz Zz Zz Zz Zz [] [] [] [] [],by rw[<-hR];rfl,hO,λh0=>OW (by rw[<-hR]at h0;exact h0) hM⟩
 have h6:=Lo.1 hM;have hc:=gn h6;have gq:=Qi hc;have mo:=G.size;have h7:=ht.I G;refine Qh<|Qv<|Qs U h7 U U<|Qs U (he.I G) U U<|Qa<|Qs U (he.I G) U U<|x (Qx ⟨U,xM hc,U,Z⟩)<|Qe<|QA (us:=[[.string q.nm,vo,oF oG q.bd]]) U U og (by exact(by decide:1*3<=1000000)) oA λmq h3 H ms gs=>?_;have gt:=(hy.I G).I H;refine Qe<|Q8 (m:=1) (news:=[.string q.nm,vo,oF oG q.bd]) (L:=[]) gt.ok U U U (gs.at oe) (Zm.all (us:=[.string q.nm,vo,oF oG q.bd]) ⟨rfl,Qt hc,rfl,Z⟩) (show z.lk.length+1<=1099511627776 by omega) (ou H.size) λhr gb h8 Y gu =>
  Zc rfl<|Qe<|QB (j:=4) (u:=hr) ((h7.I H).J Y n7k) U U oe (Qt h8) λmt h9 gv=>xe ?_
 have e:=hp.2 h6 hr vo;rw[e,OT oe]at hR;refine Qv<|QP U U<|Qa<|xe ?_;have gw:R.2.length<=1099511627776:=by
  have h1:=hc.1;exact LP h5 (by have S:q.ts.length<=100000:=hH.2;simp only[OG];omega)
 refine⟨(k+1,{ z with vk:=hr,lk:=z.lk++[⟨q.nm,vo,R.2,q.bd⟩] }),oh,La,hh,(((hz.D G).D H).then Y (λb E=>.inr (gk b E).1)).Q h9,λL J=>(((hj L J).I G).I H).ap_k ⟨(QK hc gw (λb E hbL=>?_)).I H,ha.nm⟩ h8 Y gu h9 ⟨T7,gv⟩ oa oe,hR,?_⟩
 ·have h1:=(gq b E).1;rcases Lc.1 hbL with S|S
  ·have:=((hj L J).ge b S).2;omega
  simp only[oL]at S;rcases S with rfl|rfl|S
  ·omega
  ·omega
  have:=J b S;omega
 simp only[oM,oO];omega
abbrev edV (s:KZ)(cm:CL)(vp:O2)(qs:List zj)(made:Int)(v24:O2)(q:jr)(v16:O2)(b12 b13:Nat):KZ:=⟨s.b,⟨cm,vp,qs⟩,made,v24,s.rs++[q],v16,s.us++[⟨b12,b13,s.s⟩]⟩
theorem QjK {wA wC wD wE wF wI wJ wK wN wP wM:O1}{s:KZ}{cm:CL}{vp:O2}{qs:List zj}{q:jr}{made:Int}{v16 v24:O2}{b12 b13 T12 T13 TS:Nat}
  (h:Ul L w s) (hL:∀b∈L,b<w.heap.size) (hc:O5 [] w wA) (hn:w.heap.size<=G/\G<wA.heap.size) (hp:Pts (G::L) wA.heap vp qs) (hq:VJ (G::L) wA.heap q)
  (hz:O5 [] wA wC) (ho:wA.heap.size<=b12) (hr:wA.heap.size<=b13) (hs:Q7 wC.heap b12 T12 s.s.c.cells) (ht:Q7 wC.heap b13 T13 [s.s.vp])
  (hj:O5 (ob s.vu) wC wD) (hv:wD.ownsRow 0 139 1 v16 (s.us.length+1) (s.us.map K5++[K5 ⟨b12,b13,s.s⟩])) (S:∀b∈ob v16,b∈ob s.vu\/wC.heap.size<=b)
  (he:O5 [s.b] wD wE) (hf:O5 [] wE wF) (h0:∀N:LN,(∀b∈N,b<wE.heap.size)->ZH N wF.heap cm) (hg:O5 [s.b] wF wI) (hh:O5 [] wI wJ) (hk:O5 (ob s.vr) wJ wK)
  (h4:wK.ownsRow 0 53 3 v24 (s.rs.length+1) (s.rs.flatMap ZJ++ZJ q)) (T:∀b∈ob v24,b∈ob s.vr\/wJ.heap.size<=b)
  (hi:O5 [s.b] wK wN) (h5:Q7 wN.heap s.b TS (Qax (edV s cm vp qs made v24 q v16 b12 b13))) (V:O5 [] wN wP) (Y:O5 [G] wP wM):
  O5 s.own w wM/\Ul ((edV s cm vp qs made v24 q v16 b12 b13).own++L) wM (edV s cm vp qs made v24 q v16 b12 b13)/\∀b∈(edV s cm vp qs made v24 q v16 b12 b13).own,b∈s.own\/w.heap.size<=b:=by
 have ha:=h.lt;have z2:=hj.size;have z3:=he.size;have z4:=hf.size;have z5:=hg.size;have z6:=hh.size;have msb:s.b∈s.own:=Lp;have mvr:∀b∈ob s.vr,b∈s.own:=λb E=>Lj _ (Lc.2 (.inl E));have mvu:∀b∈ob s.vu,b∈s.own:=λb E=>Lj _ (Lc.2 (.inr E));have lsb:=ha _ msb;have lvr:=λb E=>ha b (mvr b E);have lvu:=λb E=>ha b (mvu b E);have h6:=hs.lt;have h7:=ht.lt;have hw:=Qi hv;have sC:O5 (s.own++[G]) wA wC:=hz.any;have sD:=sC.Q (hj.mono λb E=>Lc.2 (.inl (mvu b E)));have sE:=sD.Q (he.mono λb E=>by rw[Lb.1 E];exact Lc.2 (.inl msb));have sF:=sE.D hf;have s5:O5 (s.own++[G]) wF wI:=hg.mono λb E=>by rw[Lb.1 E];exact Lc.2 (.inl msb)
 have s7:O5 (s.own++[G]) wJ wK:=hk.mono λb E=>Lc.2 (.inl (mvr b E));have s8:O5 (s.own++[G]) wK wN:=hi.mono λb E=>by rw[Lb.1 E];exact Lc.2 (.inl msb)
 have h8:O5 (s.own++[G]) wP wM:=Y.mono λb E=>Lc.2 (.inr E);have sKM:O5 (s.own++[G]) wK wM:=(s8.D V).Q h8;have sFM:O5 (s.own++[G]) wF wM:=((s5.D hh).Q s7).Q sKM;have sAM:O5 (s.own++[G]) wA wM:=sF.Q sFM;have sDM:O5 (s.own++[G]) wD wM:=((he.mono λb E=>by rw[Lb.1 E];exact Lc.2 (.inl msb):O5 (s.own++[G]) wD wE).D hf).Q sFM;have sCM:O5 (s.own++[G]) wC wM:=(hj.mono λb E=>Lc.2 (.inl (mvu b E)):O5 (s.own++[G]) wC wD).Q sDM;have h9:∀b∈s.own++[G],b∈G::L:=λb E=>by
  rcases Lc.1 E with E|E
  ·exact Lj _ (h.sub b E)
  rw[Lb.1 E];exact Lp
 have own':∀b∈(edV s cm vp qs made v24 q v16 b12 b13).own,b∈s.own\/wC.heap.size<=b:=λb E=>by
  rcases Li.1 E with rfl|E
  ·exact .inl msb
  rcases Lc.1 E with E|E
  ·rcases T b E with I|I
   ·exact .inl (mvr b I)
   exact .inr oa
  rcases S b E with I|I
  ·exact .inl (mvu b I)
  exact .inr I
 have upL:∀b∈((edV s cm vp qs made v24 q v16 b12 b13).own++(G::L)),b∈G::L\/wA.heap.size<=b:=λb E=>by
  rcases Lc.1 E with E|E
  ·rcases own' b E with I|I
   ·exact .inl (Lj _ (h.sub b I))
   exact .inr oa
  exact .inl E
 have dn:∀b∈(edV s cm vp qs made v24 q v16 b12 b13).own++L,b∈(edV s cm vp qs made v24 q v16 b12 b13).own++(G::L):=λb E=>by
  rcases Lc.1 E with E|E
  ·exact Lc.2 (.inl E)
  exact Lc.2 (.inr (Lj _ E))
 have sAM':O5 ((edV s cm vp qs made v24 q v16 b12 b13).own++(G::L)) wA wM:=sAM.mono λb E=>Lc.2 (.inr (h9 b E));have hl:∀b∈G::L,b∈L\/w.heap.size<=b:=λb E=>by
  rcases Li.1 E with rfl|E
  ·exact .inr hn.1
  exact .inl E
 have mS:StA ((edV s cm vp qs made v24 q v16 b12 b13).own++L) wM.heap s.s:=Mm.mono (Mm.st (Mm.up (Mm.I (Mm.up h.st hl) hc) upL) sAM') dn;have nown:∀b,wA.heap.size<=b->b<wC.heap.size->b∉(edV s cm vp qs made v24 q v16 b12 b13).own++L:=λb I H E=>by
  rcases Lc.1 E with E|E
  ·rcases own' b E with O|O
   ·have:=ha b O;omega
   omega
  have:=hL b E;omega
 have nst:∀b,wA.heap.size<=b->b∉s.own++[G]:=λb I E=>by
  rcases Lc.1 E with E|E
  ·have:=ha b E;omega
  rw[Lb.1 E]at I;omega
 refine⟨?_,⟨⟨TS,?_⟩,?_,?_,?_,?_,?_,λb E=>Lc.2 (.inl E),⟨?_,?_⟩,λd hd=>?_,λu hu=>?_⟩,λb E=>(own' b E).imp id λI=>oa⟩
 ·exact hc.any.then sAM λb E=>by
   rcases Lc.1 E with E|E
   ·exact .inl E
   rw[Lb.1 E];exact .inr hn.1
 ·exact(h5.I V).J Y (by simp only[oI];show s.b≠G;omega)
 ·have I:wK.ownsRow 0 53 3 v24 (s.rs++[q]).length ((s.rs++[q]).flatMap ZJ):=by
   rw[Lk,LA];simpa using h4
  refine Qf (Qn (Qf I hi λb E J=>?_) V) Y λb E J=>?_
  ·rcases T b E with H|H
   ·exact h.d1 (Lb.1 J ▸ H)
   rw[Lb.1 J]at H;omega
  rw[Lb.1 J]at E;rcases T G E with H|H
  ·have:=lvr G H;omega
  omega
 ·have I:wD.ownsRow 0 139 1 v16 (s.us++[(⟨b12,b13,s.s⟩:UnV)]).length ((s.us++[(⟨b12,b13,s.s⟩:UnV)]).map K5):=by
   rw[Lk,Ls];simpa using hv
  have nsb:∀b∈ob v16,b∉[s.b]:=λb E J=>by
   rw[Lb.1 J]at E;rcases S s.b E with H|H
   ·exact h.d2 H
   omega
  have nvr:∀b∈ob v16,b∉ob s.vr:=λb E J=>by
   rcases S b E with H|H
   ·exact h.d3 b J H
   have:=lvr b J;omega
  have n4:∀b∈ob v16,b∉[G]:=λb E J=>by
   rw[Lb.1 J]at E;rcases S G E with H|H
   ·have:=lvu G H;omega
   omega
  exact Qf (Qn (Qf (Qf (Qn (Qf (Qn (Qf I he nsb) hf) hg nsb) hh) hk nvr) hi nsb) V) Y n4
 ·intro E;rcases T s.b E with H|H
  ·exact h.d1 H
  omega
 ·intro E;rcases S s.b E with H|H
  ·exact h.d2 H
  omega
 ·intro b E J;rcases T b E with H|H
  ·rcases S b J with O|O
   ·exact h.d3 b H O
   have:=lvr b H;omega
  have:=(hw b J).2;omega
 ·have I:ZH (s.b::(ob v16++(ob s.vr++(G::L)))) wF.heap cm:=h0 _ λb E=>by
   rcases Li.1 E with rfl|E
   ·omega
   rcases Lc.1 E with E|E
   ·have:=(hw b E).2;omega
   rcases Lc.1 E with E|E
   ·have:=lvr b E;omega
   rcases Li.1 E with rfl|E
   ·omega
   have:=hL b E;omega
  have H:ZH (ob v24++(s.b::(ob v16++(ob s.vr++(G::L))))) wF.heap cm:=I.up λb E=>by
   rcases Lc.1 E with E|E
   ·rcases T b E with O|O
    ·exact .inl (Lj _ (Lc.2 (.inr (Lc.2 (.inl O)))))
    exact .inr oa
   exact .inl E
  have hy:∀b∈[s.b],b∈ob v24++(s.b::(ob v16++(ob s.vr++(G::L)))):=λb E=>by rw[Lb.1 E];exact Lc.2 (.inr Lp)
  have O:=((((((H.st (hg.mono hy)).I hh).st (hk.mono λb E=>Lc.2 (.inr (Lj _ (Lc.2 (.inr (Lc.2 (.inl E)))))))).st (hi.mono hy)).I V).st (Y.mono λb E=>by
   rw[Lb.1 E];exact Lc.2 (.inr (Lj _ (Lc.2 (.inr (Lc.2 (.inr Lp))))))))
  refine O.up λb E=>.inl ?_;rcases Lc.1 E with E|E
  ·rcases Li.1 E with rfl|E
   ·exact Lc.2 (.inr Lp)
   rcases Lc.1 E with E|E
   ·exact Lc.2 (.inl E)
   exact Lc.2 (.inr (Lj _ (Lc.2 (.inl E))))
  exact Lc.2 (.inr (Lj _ (Lc.2 (.inr (Lc.2 (.inr (Lj _ E)))))))
 ·have I:Pts ((edV s cm vp qs made v24 q v16 b12 b13).own++(G::L)) wM.heap vp qs:=Go.Lg.K1.st (Go.Lg.K1.up hp upL) sAM';exact Go.Lg.K1.up I λb E=>.inl (dn b E)
 ·rcases Lc.1 hd with hd|hd
  ·exact Mm.mono (Mm.st (Mm.up (Mm.I (Mm.up (h.rA d hd) hl) hc) upL) sAM') dn
  rw[Lb.1 hd];exact Mm.mono (Mm.st (Mm.up hq upL) sAM') dn
 rcases Lc.1 hu with hu|hu
 ·exact Mm.mono (Mm.st (Mm.up (Mm.I (Mm.up (h.uA u hu) hl) hc) upL) sAM') dn
 rw[Lb.1 hu];exact⟨(hs.J sCM (nst b12 ho)).at (nown b12 ho h6),(ht.J sCM (nst b13 hr)).at (nown b13 hr h7),mS⟩
def ShI (x:Z4):Prop:=x.ls.length<=100000/\x.ts.length<=100000
theorem Qbd {co:List YV}:∀{l:xx}{r:List (ByteArray×Int)},Vk co l=some r->r.length=l.length
 | [],r,h=>by
  rw[Vk]at h;cases h;rfl
 | y::l,r,h=>by
  rw[Vk]at h;cases E:q9 co y.1 with
  | none=>rw[E]at h;cases h
  | some n =>
   rw[E]at h;obtain⟨H,G,rfl⟩:=L7.1 h;rw[LT,LT,Qbd G]
theorem Qfm {co:List YV}:∀{l:List U0}{a:List Z4},JU co l=some a->(∀q∈l,q.ls.length<=100000)->∀x∈a,ShI x
 | [],a,h,_=>by
  rw[JU]at h;cases h
  exact λx hx=>by cases hx
 | x::l,a,h,G=>by
  rw[JU]at h;cases hx:Vk co x.ls with
  | none=>rw[hx]at h;cases h
  | some n =>
   rw[hx]at h;obtain⟨a',H,rfl⟩:=L7.1 h;intro y E;rcases Li.1 E with rfl|E
   ·exact⟨by show n.length<=_;rw[Qbd hx];exact G x Lp,oe⟩
   exact Qfm H (λq h=>G q (Lj _ h)) y E
theorem Qfn {co:List YV}:∀{l:List xL}{a:List Z4},Kd co l=some a->(∀q∈l,q.ts.length<=100000)->∀x∈a,ShI x
 | [],a,h,_=>by
  rw[Kd]at h;cases h
  exact λx hx=>by cases hx
 | x::l,a,h,G=>by
  rw[Kd]at h;cases hx:Vk co x.ts with
  | none=>rw[hx]at h;cases h
  | some n =>
   rw[hx]at h;obtain⟨a',H,rfl⟩:=L7.1 h;intro y E;rcases Li.1 E with rfl|E
   ·exact⟨oe,by show n.length<=_;rw[Qbd hx];exact G x Lp⟩
   exact Qfn H (λq h=>G q (Lj _ h)) y E
theorem Qfl (E:CSz c)(h:(ZP c).1=0):∀x∈(ZP c).2,ShI x:=by
 obtain⟨a,b,G,H,e,_⟩:=qz h;intro x hx;rw[e]at hx;rcases Lc.1 hx with hx|hx
 ·obtain⟨y,_,rfl⟩:=LC.1 hx;exact⟨by simp[Yh],by simp[Yh]⟩
 rcases Lc.1 hx with hx|hx
 ·obtain⟨y,_,rfl⟩:=LC.1 hx;exact⟨by simp[Yh],by simp[Yh]⟩
 rcases Lc.1 hx with hx|hx
 ·exact Qfm G E.x x hx
 exact Qfn H E.k x hx
theorem QmM {l:List Z4}{x:Z4}(hl:∀y∈l,ShI y)(hx:ShI x):∀y∈(V8 l x).2,ShI y:=by
 unfold V8;split
 ·exact λy E=>by cases E
 split
 ·exact λy E=>by cases E
 split
 ·intro y E;rcases MS E with E|rfl
  ·exact hl y E
  exact hx
 split
 ·exact λy E=>by cases E
 intro y E;rcases Lc.1 E with E|E
 ·exact hl y (LY E)
 rcases Li.1 E with rfl|E
 ·exact hx
 exact hl y (Ma E)
theorem QmP {l:List Z4}{k:Int}{n:ByteArray}(hl:∀y∈l,ShI y):∀y∈(zd l k n).2,ShI y:=by
 unfold zd;split
 ·exact λy E=>by cases E
 split
 ·exact λy E=>by cases E
 intro y E;rcases Lc.1 E with E|E
 ·exact hl y (LY E)
 exact hl y (Ma E)
theorem Qfs:∀{es:List (Bool×Z4)}{l:List Z4},(∀y∈l,ShI y)->(∀e∈es,ShI e.2)->∀y∈(qA es l).2,ShI y
 | [],l,hl,_=>by rw[qA];exact hl
 | e::es,l,hl,E=>by
  rw[qA];split
  ·exact λy G=>by cases G
  refine Qfs ?_ λe h=>E e (Lj _ h);unfold zf;split
  ·exact QmP hl
  exact QmM hl (E e Lp)
theorem QmR {es:List (Bool×Z4)}{l:List Z4}(hl:∀y∈l,ShI y)(E:∀e∈es,ShI e.2):∀y∈(ze l es).2,ShI y:=by
 unfold ze;split
 ·exact λy G=>by cases G
 exact Qfs hl E
structure UnZ where
 b12:Nat
 b13:Nat
def unP (N:Nat)(i:Nat)(v:O2)(w':O1):Prop:=∃b T,v=pS b/\N<=b/\Q7 w'.heap b T (if i=8 then Yf else[Zz])
theorem Qlh (N:Nat):∀i v (w w':O1),unP N i v w->O5 [] w w'->unP N i v w':=λ_ _ _ _ ⟨b,T,E,G,H⟩ I=>⟨b,T,E,G,H.I I⟩
theorem Qnq {L2:LN}{s:KZ}{xs:List Y2}(h:Ul L w s)(hL:∀b∈L,b<w.heap.size)(hx:Qbo L2 w.heap vl xs)(k5:∀e∈xs.map Y2.e,ShI e.2)(gz:y8 s.s.c.V (s.s.ps.map (·.pt)))(k6:s.s.ps.length<=1000)
  (hm:0<=s.made/\s.made<=1099511627776) (hrl:s.rs.length<=64) (hul:s.us.length<=64) (k7:Kb w 4096):
  Q6 prog 13 [pS s.b,vl] w λr w'=>∃qr:jr,r=.tuple #[.agg (ZJ qr).toArray,oF oG (jn s.sys (xs.map Y2.e))]/\(∀N:LN,(∀b∈N,b<w.heap.size)->VJ N w'.heap qr)/\(jn s.sys (xs.map Y2.e)≠0->O5 [] w w'/\qr.rp=⟨[],[],[]⟩) /\
   (jn s.sys (xs.map Y2.e)=0->qr.rp=YS (VD s.s.c.V (xs.map Y2.e)).2 (s.s.ps.map (·.pt)) ((s.us.length:Int)+1)/\∃s':KZ,s'.b=s.b/\s'.sys=edS s.sys (xs.map Y2.e)/\O5 s.own w w'/\Ul (s'.own++L) w' s'/\(∀b∈s'.own,b∈s.own\/w.heap.size<=b)/\VJ s'.own w'.heap qr):=by
 obtain⟨TS,Y⟩:=h.blk;have g0:=gz.ck;have g2:=Qbh g0;have g3:Zp [] w.heap s.vu s.us.length 1 (s.us.map K5):=QK h.ru oa oe;have g4:s.sys.un.length=s.us.length:=Lh _;have k8:(s.s.ps.map (·.e.ky)).Nodup:=by
  have:=gz.ky;rw[Ms]at this;have e:s.s.ps.map (·.e.ky)=(O9 s.s.c.V).map (ZN s.s.c.V):=this;rw[e];exact UD g0
 have k9:(xs.map Y2.e).length=xs.length:=Lh _;have ma:∀(w':O1) (N:LN),VJ N w'.heap ⟨Zz,[],Zz,[],Zz,[]⟩:=λw' N=>⟨Zp.nil _ _ _,Zp.nil _ _ _,Zp.nil _ _ _⟩;have I:jn s.sys (xs.map Y2.e)=if xs.length=0 then 12 else if s.us.length=64 then 3 else if(VD s.s.c.V (xs.map Y2.e)).1≠0 then(VD s.s.c.V (xs.map Y2.e)).1 else JQ (VD s.s.c.V (xs.map Y2.e)).2 (s.s.ps.map (·.pt)) ((s.us.length:Int)+1):=by
  unfold jn;rw[k9,g4];rfl
 have T:VD s.s.c.V (xs.map Y2.e)=if(j6 s.s.c.V (xs.map Y2.e)).1≠0 then((j6 s.s.c.V (xs.map Y2.e)).1,UV)else if(KY s.s.c.V.ev (j6 s.s.c.V (xs.map Y2.e)).2).1≠0 then((KY s.s.c.V.ev (j6 s.s.c.V (xs.map Y2.e)).2).1,UV)else if Zi (KY s.s.c.V.ev (j6 s.s.c.V (xs.map Y2.e)).2).2≠0 then(Zi (KY s.s.c.V.ev (j6 s.s.c.V (xs.map Y2.e)).2).2,UV)else(0,(KY s.s.c.V.ev (j6 s.s.c.V (xs.map Y2.e)).2).2):=rfl
 have hy:j6 s.s.c.V (xs.map Y2.e)=if(ZP s.s.c.V).1≠0 then((ZP s.s.c.V).1,[])else ze (ZP s.s.c.V).2 (xs.map Y2.e):=rfl
 have hT:(ZP s.s.c.V).1=0->∀y∈(ze (ZP s.s.c.V).2 (xs.map Y2.e)).2,ShI y:=λh0=>QmR (Qfl g2 h0) k5;have hF:edS s.sys (xs.map Y2.e)=⟨(VD s.s.c.V (xs.map Y2.e)).2,yY (VD s.s.c.V (xs.map Y2.e)).2 (s.s.ps.map (·.pt)) ((s.us.length:Int)+1),s.made+((YS (VD s.s.c.V (xs.map Y2.e)).2 (s.s.ps.map (·.pt)) ((s.us.length:Int)+1)).made.length:Int),s.rs.map jr.rp++[YS (VD s.s.c.V (xs.map Y2.e)).2 (s.s.ps.map (·.pt)) ((s.us.length:Int)+1)],(s.us.map λu=>u.s.st)++[(s.s.c.V,s.s.ps.map (·.pt))]⟩:=by
  unfold edS;rw[g4];rfl
 refine Zj (jn s.sys (xs.map Y2.e)) λE hE=>?_;refine Zj (edS s.sys (xs.map Y2.e)) λES g5=>?_;refine Zj (VD s.s.c.V (xs.map Y2.e)) λEC g6=>?_;refine Zj (j6 s.s.c.V (xs.map Y2.e)) λEI mf=>?_;rw[hE]at I;rw[g5]at hF;rw[g6]at I T hF;rw[mf]at T hy;rw[hE,g5,g6];refine Zo func13 ?_;refine Qc<|Qe<|Qo (us:=Y6) U λH w1 hj ga hz=>Qb ?_;have hl4:=hz.lt;have bad:∀(e:Int) (w2 O:O1),E=e->e≠0->O5 [] w w2->O5 [H] w2 O->(∃qr:jr,tup [.agg Y6.toArray,oF oG e]=.tuple #[.agg (ZJ qr).toArray,oF oG E]/\(∀N:LN,(∀b∈N,b<w.heap.size)->VJ N O.heap qr)/\(E≠0->O5 [] w O/\qr.rp=⟨[],[],[]⟩) /\
   (E=0->qr.rp=YS EC.2 (s.s.ps.map (·.pt)) ((s.us.length:Int)+1)/\∃s':KZ,s'.b=s.b/\s'.sys=ES/\O5 s.own w O/\Ul (s'.own++L) O s'/\(∀b∈s'.own,b∈s.own\/w.heap.size<=b)/\VJ s'.own O.heap qr)):=λe w2 O S h2 h3 h4 =>
  ⟨⟨Zz,[],Zz,[],Zz,[]⟩,by rw[S];rfl,λN _=>ma O N,λ_=>⟨h3.O h4 oa,U⟩,λh0=>OW (S.symm.D h0) h2⟩
 refine Qd<|Qg<|Qm<|x (J3 underlying46 U U)<|Qb<|Z0 U<|Qm<|QL hx.arr U<|x (Q2 U U)<|Qb<|QZ U (λgb=>?_) (λgb=>?_)
 ·rw[OU (by have mg:(xs.length:Int)=0:=gb;omega)]at I;refine Qc<|x (Qx Z)<|Qe<|Qj (us:=Y6) hz U U U U oB λO ha hG=>Qb<|Qk ⟨[.agg Y6.toArray,oF oG 12],⟨⟨_,U,Qp U (hG.at (L:=[]) oe).cells⟩,rfl,Z⟩,bad 12 w1 O I og hj ha⟩
 rw[OT (by have mg:¬(xs.length:Int)=0:=gb;omega)]at I;refine Qm<|Yt U<|Qs U (Y.I hj) U U<|QL (g3.I hj) U<|x (Q2 U U)<|Qb<|QZ U (λgc=>?_) (λgc=>?_)
 ·rw[OU (by have mh:(s.us.length:Int)=64:=gc;omega)]at I;refine Qc<|x (Qx Z)<|Qe<|Qj (us:=Y6) hz U U U U oB λO ha hG=>Qb<|Qk ⟨[.agg Y6.toArray,oF oG 3],⟨⟨_,U,Qp U (hG.at (L:=[]) oe).cells⟩,rfl,Z⟩,bad 3 w1 O I og hj ha⟩
 have mj:¬s.us.length=64:=by have mh:¬(s.us.length:Int)=64:=gc;omega
 rw[OT mj]at I;refine Qh<|Qm<|Yt U<|Zc U<|x (Zv (us:=s.s.c.cells) (Y.I hj) U U U)<|QN<|(QdE (h.st.c.I hj) g2).mono ?_;rintro r5 w2 ⟨ho,v5,rfl,_,mo⟩;have gg:=hj.D ho;refine Qa<|Zd U U<|Zd U U<|x Ql<|Qb<|Qd<|Qm<|ZD U U<|xe<|QZ rfl (λhp=>?_) (λhp=>?_)
 ·rw[OU hp]at hy;rw[hy,OU hp]at T;rw[T,OU hp]at I;refine Qc<|x (Qx Z)<|Qa<|Qe<|Qj (us:=Y6) (hz.I ho) U U U U oB λO ha hG=>Qb<|Qk ⟨[.agg Y6.toArray,oF oG (ZP s.s.c.V).1],⟨⟨_,U,Qp U (hG.at (L:=[]) oe).cells⟩,rfl,Z⟩,bad _ w2 O I hp gg ha⟩
 rw[OT hp]at hy;have gh:=Lo.1 hp;have hT:=hT gh;refine Exists.elim (mo gh) λl5 gi=>?_;have mq:KR [] w2.heap v5 l5:=by
  refine JE.dits gi.1 ?_ oe;have S:=OV oP gi.2;rw[Lh]at S;obtain⟨_,_,_,_,_,hk⟩:=qz gh;have:=Vj hk;omega
 have hAp:=QkV mq (Go.Lg.K1.I hx gg);rw[gi.2,<-hy]at hAp;rw[<-hy]at hT;refine Qh<|Qd<|Qm<|Qa<|QN<|hAp.mono ?_;rintro r7 O ⟨ha,v7,l7,rfl,ms,hU⟩;have hH:=gg.D ha;refine Qa<|Zd U U<|Zd U U<|x Ql<|Qb<|Qm<|ZD U U<|xe<|QZ rfl (λh5=>?_) (λh5=>?_)
 ·rw[OU h5]at T;rw[T,OU h5]at I;refine Qc<|x (Qx Z)<|Qa<|Qe<|Qj (us:=Y6) ((hz.I ho).I ha) U U U U oB λw4 hI mt=>Qb<|Qk ⟨[.agg Y6.toArray,oF oG EI.1],⟨⟨_,U,Qp U (mt.at (L:=[]) oe).cells⟩,rfl,Z⟩,bad _ O w4 I h5 hH hI⟩
 rw[OT h5]at T;obtain⟨hU,hln7⟩:=hU (Lo.1 h5);have hD3:KR [] O.heap v7 l7:=JE.dits ms oa oe;have hCe:=QjU (h.st.c.I hH).ev hD3 (λq hq=>hT q (by rw[<-hU];exact hq));rw[hU]at hCe;have mu:s.s.c.V.ev=s.s.c.ev:=rfl;rw[mu]at T;refine Zj (KY s.s.c.ev EI.2) λDC mv=>?_;rw[mv]at T hCe;refine Qh<|Qm<|Yt U<|Zc U<|Qs U (Y.I hH) U U<|Qa<|QN<|hCe.mono ?_;rintro r9 w4 ⟨hI,c9,rfl,mw,hV⟩;refine Qa<|Zd U U<|Zd U U<|Qe<|Qo (us:=Yf) U λb8 w5 hJ my mz=>Qe<|Qj (us:=c9.cells) mz U U U U mw λw6 m2 g7 =>
  Qb ?_
 have hW:O5 [] w4 w6:=hJ.O m2 my;have gj:=(hH.D hI).D hW;have hz4:=hI.size;have hz46:=hW.size;have gk:=(((hz.I ho).I ha).I hI).I hW;refine Qd<|Qm<|ZD U U<|xe<|QZ rfl (λh6=>?_) (λh6=>?_)
 ·rw[OU h6]at T;rw[T,OU h6]at I;refine Qc<|x (Qx Z)<|Qa<|Qe<|Qj (us:=Y6) gk U U U U oB λV hf m3=>Qb<|Qk ⟨[.agg Y6.toArray,oF oG DC.1],⟨⟨_,U,Qp U (m3.at (L:=[]) oe).cells⟩,rfl,Z⟩,bad _ w6 V I h6 gj hf⟩
 rw[OT h6]at T;have hV:=hV (Lo.1 h6);have hX:=hV.1;have gl:∀N:LN,(∀b∈N,b<O.heap.size\/w4.heap.size<=b)->ZH N w6.heap c9:=λN hN=>by
  have S:=hV.2 (N.filter λb=>decide (b<O.heap.size)) (λb G=>OY (L8.1 G).2);exact(S.up (L':=N) λb G=>(hN b G).imp (λh=>L8.2 ⟨G,OX h⟩) id).I hW
 have hCk:=X7 (gl [] oe);rw[hX]at hCk;refine Qh<|Qd<|Qc<|Q9 g7 U U<|QN<|hCk.mono ?_;rintro r13 V ⟨rfl,hf⟩;have hr:=gj.D hf;have hz7:=hf.size;refine Qb<|Qm<|ZD U U<|xe<|QZ rfl (λh7=>?_) (λh7=>?_)
 ·rw[OU h7]at T;rw[T,OU h7]at I;refine Qc<|x (Qx Z)<|Qa<|Qe<|Qj (us:=Y6) (gk.I hf) U U U U oB λw8 he gm=>Qb<|Qk ⟨[.agg Y6.toArray,oF oG (Zi DC.2)],⟨⟨_,U,Qp U (gm.at (L:=[]) oe).cells⟩,rfl,Z⟩,bad _ V w8 I h7 hr he⟩
 rw[OT h7]at T;have m4:=Lo.1 h7;rw[T,OT oe]at I;rw[T]at hF;simp only[]at I hF;refine Qh ?_;have g8:=Y.I hr;have m5:=g3.I hr;have g9:=g7.I hf;have hz06:=gj.size;have hz03:=hH.size;have ka:∀b∈H::L,b<V.heap.size:=λb G=>by
  rcases Li.1 G with rfl|G
  ·have:=ho.size;have:=ha.size;omega
  have:=hL b G;omega
 have m6:Pts (H::L) V.heap s.s.vp s.s.ps:=Go.Lg.K1.I (Go.Lg.K1.up h.st.p λb G=>by
  rcases Li.1 G with rfl|G
  ·exact .inr ga
  exact .inl G) hr
 have m7:O5 [] V { V with drawn:=V.drawn+1 }:=O5.C _ _
 refine Zj (JQ DC.2 (s.s.ps.map (·.pt)) ((s.us.length:Int)+1)) λE2 kb=>?_;rw[kb]at I;refine Q3 (α:=O2×LV×Nat) [(73,88),(7,7),(10,11)] (λz=>[(10,z.1),(11,pS z.2.2),(7,oF oG E2)]) (λz w'=>O5 [] V w'/\V.heap.size<=z.2.2/\Q7 w'.heap z.2.2 53 z.2.1/\(z.2.1.length=3/\Zm z.2.1)/\(E2=0->∃qs q,z.2.1=ZJ q/\qs.map (·.pt)=yY DC.2 (s.s.ps.map (·.pt)) ((s.us.length:Int)+1)/\q.rp=YS DC.2 (s.s.ps.map (·.pt)) ((s.us.length:Int)+1)/\Pts (H::L) w'.heap z.1 qs/\VJ (z.2.2::H::L) w'.heap q)) ol ?_ ?_
 ·refine VI (α:=O2×LV) (O5 [] V) [oD 0,oD 1,oD 2,oD 3,oD 4,oD 5,oD 6,oD 7,oD 8,oD 9,oD 10] [oE 11,oD 12,oD 13,oD 14,oD 15] 16 11 [oD 17,oE 18,oD 19] []
   [(73,88)] [(73,73),(85,88)] (λz=>[(86,z.1),(87,.agg z.2.toArray),(88,oF oG E2)])
   (λz own w'=>(∀b∈own,V.heap.size<=b)/\(z.2.length=3/\Zm z.2)/\(E2=0->∃qs q,z.2=ZJ q/\qs.map (·.pt)=yY DC.2 (s.s.ps.map (·.pt)) ((s.us.length:Int)+1)/\q.rp=YS DC.2 (s.s.ps.map (·.pt)) ((s.us.length:Int)+1)/\∀b',V.heap.size<=b'->b'∉own->Pts (b'::H::L) w'.heap z.1 qs/\VJ (b'::H::L) w'.heap q))
   (λv w'=>∃b,v=pS b/\V.heap.size<=b/\Q7 w'.heap b 53 Y6) mixed ol od ol U m7 oe ?_ ?_ ?_ ?_
  ·rintro v own wa wb ⟨b,rfl,G,Y⟩ hs hn;exact⟨b,U,G,Y.J hs (hn b ot)⟩
  ·rintro z own wa wb ⟨S,h2,h3⟩ hs;refine⟨S,h2,λh0=>?_⟩;obtain⟨qs,q,e1,e2,e3,e4⟩:=h3 h0;exact⟨qs,q,e1,e2,e3,λb' hY hn=>⟨Go.Lg.K1.I (e4 b' hY hn).1 hs,(e4 b' hY hn).2.I hs⟩⟩
  ·rintro⟨vp,us⟩ g own wz v ⟨i1,i2,i3⟩ kc ⟨h8,rfl,hh,hi⟩ m8;simp only[]at i2 i3;have m9:=(m8 h8 ot).1;refine p ZI<|pk<|Qj (us:=us) hi U U i2.1 U i2.2 λw8 he pa=>⟨kc.O he hh,?_⟩;refine p ZI<|pe ?_;refine⟨(vp,us,h8),oB,kc.O he hh,hh,pa,i2,λh0=>?_⟩;obtain⟨qs,q,e1,e2,e3,e4⟩:=i3 h0;have e5:=e4 h8 hh m9;exact⟨qs,q,e1,e2,e3,Go.Lg.K1.up (Go.Lg.K1.st e5.1 (he.mono oe)) (λb G=>.inl (Lj _ G)),e5.2.st (he.mono oe)⟩
  refine pq (λ_ J=>Z1 (g9.I J) U U)<|p QF<|p (Xl U)<|p (QQ U)<|pq (λ_ J=>Qq (g8.I J) U U) <|
   p QF<|p (Xl U)<|p (QQ U)<|pq (λ_ J=>Qq (g8.I J) U U)<|p (λ_=>YX m5 U) <|
   p (λ_=>XH U U ⟨oa,oa⟩)<|pe ⟨λg wf ke=>Qo (us:=Y6) U λb wf' kf kg kh=>⟨kf,ke.D kf,⟨b,U,LP ke.size kg,kh⟩,λx hx=>?_⟩,?_⟩
  ·have pc:x=b:=by
    have pd:x∈[b]:=hx;simpa using pd
   subst pc;exact⟨kg,kh.lt⟩
  refine f2k λx1 p1 c1=>?_;have pf:=(gl (H::L) (λb G=>by
   rcases Li.1 G with rfl|G
   ·exact .inl (ov ho.size ha.size)
   exact .inl (ou (hL b G)))).I (hf.D c1)
  have pg:Pts (U6 V.heap.size x1.heap.size++(H::L)) x1.heap s.s.vp s.s.ps:=Go.Lg.K1.I (Go.Lg.K1.up m6 λb G=>by
   rcases Lc.1 G with G|G
   ·exact .inr (ZC.1 G).1
   exact .inl G) c1
  have hbl:=QcS (v:=(s.us.length:Int)+1) pf pg (λb G=>by
   have:=c1.size;rcases Lc.1 G with G|G
   ·exact(ZC.1 G).2
   have:=ka b G;omega) k8 k6 (k7.I (hr.D c1))
  rw[hX,kb]at hbl;refine xg<|hbl.mono ?_;rintro _ y1 ⟨ki,vp,us,rfl,ph,pj,_,pm⟩;have z1:=c1.size;refine⟨c1.D ki,U6 x1.heap.size y1.heap.size,ki.any,λb G=>.inr (ZC.1 G),?_⟩;refine f2p QF<|f2p (λ_=>Zr U U)<|f2p (λ_=>Zr U U)<|f2p (λ_=>Zr U U)<|f2e ?_;refine⟨(vp,us),oB,λb G=>ou (ZC.1 G),⟨ph,pj⟩,λh0=>?_⟩;obtain⟨qs,q,e1,e2,e3,_,e5,e6⟩:=pm h0;refine⟨qs,q,e1,e2,e3,λb' hY hn=>?_⟩;have pn:b'<x1.heap.size\/y1.heap.size<=b':=by
   rcases OH b' x1.heap.size with S|S
   ·exact .inl S
   rcases OH b' y1.heap.size with h2|h2
   ·exact OW (ZC.2 ⟨S,h2⟩) hn
   exact .inr h2
  have kj:∀b∈b'::H::L,b∈U6 V.heap.size x1.heap.size++(H::L)\/y1.heap.size<=b:=λb G=>by
   rcases Li.1 G with rfl|G
   ·exact pn.imp (λS=>Lc.2 (.inl (ZC.2 ⟨hY,S⟩))) id
   exact .inl (Lc.2 (.inr G))
  exact⟨Go.Lg.K1.up e5 kj,(e6 (U6 V.heap.size x1.heap.size++(H::L)) (λb G=>by
   rcases Lc.1 G with G|G
   ·exact(ZC.1 G).2
   have:=ka b G;omega)).up kj⟩
 rintro⟨vp,us,h8⟩ g wA ⟨hK,hh,hi,po,hg⟩;simp only[]at hh hi po hg;have h9:=(gk.I hf).I hK;refine Qd<|Qm<|ZD U U<|xe<|QZ rfl (λgn=>?_) (λgn=>?_)
 ·refine Qc<|x (Qx Z)<|Qa<|Qe<|Qj (us:=Y6) h9 U U U U oB λw8 he gm=>Qb<|Qk ⟨[.agg Y6.toArray,oF oG E2],⟨⟨_,U,Qp U (gm.at (L:=[]) oe).cells⟩,rfl,Z⟩,bad _ wA w8 I gn (hr.D hK) he⟩
 have kk:=Lo.1 gn;refine Exists.elim (hg kk) λqs pp=>Exists.elim pp λq hM=>?_;have eu:=hM.1;have eqs:=hM.2.1;have eq:=hM.2.2.1;have kn:=hM.2.2.2.1;have hO:=hM.2.2.2.2;rw[eu]at hi;refine Qh ?_;have go:=hr.D hK;have gp:=Y.I go;have hl11:=hi.lt;have hlsb:=Y.lt;have pu:O5 [] wA { wA with drawn:=wA.drawn+1 }:=O5.C _ _
 refine Q3 (α:=UnZ) [(93,100),(12,13)] (λz=>[(12,pS z.b12),(13,pS z.b13)]) (λz w'=>O5 [] wA w'/\wA.heap.size<=z.b12/\wA.heap.size<=z.b13/\∃T1 T2,Q7 w'.heap z.b12 T1 s.s.c.cells/\Q7 w'.heap z.b13 T2 [s.s.vp]) ol ?_ ?_
 ·refine Qni (α:=UnZ) (O5 [] wA) [oD 0,oD 1,oD 2,oD 3,oD 4,oD 5,oD 6,oD 7] [8,9] [oE 10,oE 11] [(12,13)] (unP wA.heap.size) (λz=>[(12,pS z.b12),(13,pS z.b13)])
   (λz w'=>z.b12≠z.b13/\wA.heap.size<=z.b12/\wA.heap.size<=z.b13/\∃T1 T2,Q7 w'.heap z.b12 T1 Yf/\Q7 w'.heap z.b13 T2 [Zz]) mixed ol od pu (λ_ _ S h2=>S.D h2) (Qlh _) ?_ ?_
  ·rintro g w' ⟨⟨b12,T1,e3,pw,pz⟩,⟨b13,T2,e4,p0,hh⟩,_⟩ p2;refine⟨⟨b12,b13⟩,⟨e3,e4,Z⟩,?_,pw,p0,T1,T2,pz,hh⟩;have d1:=p2 8 oe 9 oe og;rw[e3,e4]at d1;simp only[ow,oI,forall_eq]at d1;exact d1
  refine p QF<|p (Xl U)<|p (QQ U)<|pq (λ_ J=>Zv (us:=s.s.c.cells) (gp.I J) U U U)<|p QF<|p (Xl U)<|p (QQ U) <|
   pq (λ_ J=>Qq (gp.I J) U U)<|pe ⟨⟨?_,?_,Z⟩,?_⟩
  ·intro g w' J;exact Qo (us:=Yf) U λb w5 hJ G Y=>⟨hJ,⟨b,_,U,LP J.size G,Y⟩,λc gq=>by rw[Lb.1 (show c∈[b] from gq)];exact⟨G,Y.lt⟩⟩
  ·intro g w' J;exact Qo (us:=[Zz]) U λb w5 hJ G Y=>⟨hJ,⟨b,_,U,LP J.size G,Y⟩,λc gq=>by rw[Lb.1 (show c∈[b] from gq)];exact⟨G,Y.lt⟩⟩
  rintro⟨b12,b13⟩ g wz ko ⟨gr,ht,hA,T1,T2,hP,hQ⟩;simp only[]at gr ht hA hP hQ;refine pk<|Qj (us:=s.s.c.cells) hP U U U U h.st.c.ones λw8 he p3=>⟨ko.O he ht,?_⟩;refine pkl (hl:=by kernel_rfl)<|QB (u:=s.s.vp) (hQ.J he (by simp only[oI];exact λe=>gr e.symm)) U U oe h.st.p.arr.one λw9 kq p4=>pe ?_;exact⟨⟨b12,b13⟩,oA,(ko.O he ht).O kq hA,ht,hA,T1,T2,p3.J kq (by simp only[oI];exact gr),p4⟩
 rintro⟨b12,b13⟩ gC wC ⟨hC,ht,hA,T12,T13,hP,hQ⟩;simp only[]at ht hA hP hQ;have kr:=gp.I hC;refine Qm<|Qa<|Yt U<|Qs U kr U U<|x (Zx (l:=[]) (l':=[_,_]))<|Qe<|QA (us:=[[K5 ⟨b12,b13,s.s⟩]]) U U og oe ⟨rfl,rfl,Z⟩ λb107 wC1 hu hb107 p5=>?_;have kt:=(go.D hC).D hu;have zC1:=hu.size;refine Qe<|Q8 (news:=[K5 ⟨b12,b13,s.s⟩]) (L:=[]) (Qn h.ru kt) U U U (p5.at oe) (by simp[Value.oneCell']) oa oa λv16 wD gs hD p6=>?_;have d2:s.b∉ob s.vu:=h.d2;have p7:=(kr.I hu).J hD d2;refine Yt rfl<|Zc U<|Qe<|QB (u:=v16) p7 U U (MJ U) (Qt gs) λwE hv p8=>xe ?_;have zE:=hv.size;have p9:Q7 wE.heap s.b TS [s.s.c.ve,s.s.c.vc,s.s.c.vr,s.s.c.vx,s.s.c.vk,s.s.vp,oF oG s.made,s.vr,v16]:=p8;have qc:=((gl (H::L) (λb G=>by
   rcases Li.1 G with rfl|G
   ·exact .inl (ov ho.size ha.size)
   exact .inl (ou (hL b G)))).I (hf.D hK)).I (hC.D hu)
 have subL:∀b∈s.own,b∈H::L:=λb G=>Lj _ (h.sub b G);have msb:s.b∈s.own:=Lp;have mvr:∀b∈ob s.vr,b∈s.own:=λb G=>Lj _ (Lc.2 (.inl G));have mvu:∀b∈ob s.vu,b∈s.own:=λb G=>Lj _ (Lc.2 (.inr G));have sDL:=hD.mono (L':=H::L) λb G=>subL b (mvu b G);have sEL:=hv.mono (L':=H::L) λb G=>by rw[Lb.1 G];exact subL _ msb
 have qf:=(qc.st sDL).st sEL;have ql:CSz c9.V:=Qbh (by rw[hX];exact m4);refine Qc ?_;have qo:Q7 wE.heap b8 _ c9.cells:=((((g9.I hK).I hC).I hu).J hD (λhm=>ou (h.lt _ (mvu _ hm)))).J hv om;refine Qa<|Qa<|Q9 qo U U<|QN<|(QjV qf ql).mono ?_;rintro r19 wF ⟨hR,cm,rfl,ecm,ku⟩;have zF:=hR.size;have d1:s.b∉ob s.vr:=h.d1;have nown:∀b,w.heap.size<=b->b∉s.own:=λb S G=>ou (h.lt b G)
 have n4:=nown H ga;have hZ:=nown h8 oa;have sE:O5 s.own wA wE:=((hC.D hu).any.Q (hD.mono mvu)).Q (hv.mono λb G=>by rw[Lb.1 G];exact msb);have sF:=sE.D hR;have qy:=p9.I hR;refine Qa<|Yt U<|Zc U<|Qe<|YU (us:=cm.cells) (cs':=[cm.ve,cm.vc,cm.vr,cm.vx,cm.vk,s.s.vp,oF oG s.made,s.vr,v16]) qy U U U (MJ U) (ku [] oe).ones rfl λwG q0 q1=>?_;refine Yt rfl<|Zc U<|Qe<|QB (u:=vp) q1 U U (MJ U) kn.arr.one λwH q2 q3=>xe ?_;have kv:Q7 wH.heap s.b TS [cm.ve,cm.vc,cm.vr,cm.vx,cm.vk,vp,oF oG s.made,s.vr,v16]:=q3;have gt:∀b∈[s.b],b∈s.own:=λb G=>by rw[Lb.1 G];exact msb
 have sFH:O5 [s.b] wF wH:=q0.Q q2;have sH:O5 s.own wA wH:=sF.Q (sFH.mono gt);have q4:=hi.J sH hZ;have hk2:(YS DC.2 (s.s.ps.map (·.pt)) ((s.us.length:Int)+1)).made.length=q.k2.length:=by rw[<-eq];rfl
 have hrl2:=hO.a2.le;refine Qd<|ZF [] (Xi 0 11 [10])<|p QF<|p (Xl U)<|p (QQ U)<|pq (λ_ J=>Qq (kv.I J) U U)<|p (QQ U)<|pq (λ_ J=>Qq (q4.I J) U U) <|
  p (λ_=>YX hO.a2 U)<|p (λ_=>XH U U ⟨oa,oa⟩)<|p (Xl U)<|p (QQ U) <|
  pkl (hl:=by kernel_rfl)<|QB (u:=oF oG (s.made+(q.k2.length:Int))) (kv.I (O5.C _ _)) U U (MJ U) U λwI q5 za=>pe ?_
 have kw:Q7 wI.heap s.b TS [cm.ve,cm.vc,cm.vr,cm.vx,cm.vk,vp,oF oG (s.made+(q.k2.length:Int)),s.vr,v16]:=za;have sHI:O5 [s.b] wH wI:=(O5.C [] wH).any.Q q5;have sFI:=sFH.Q sHI;have sI:O5 s.own wA wI:=sF.Q (sFI.mono gt);have zI:=sI.size;have zb:=hi.J sI hZ;have kx:∀b∈ob s.vr,b≠s.b:=λb G e=>d1 (e ▸ G);have zv:wI.ownsRow 0 53 3 s.vr s.rs.length (s.rs.flatMap ZJ):=by
  refine Qf (Qn (Qf (Qf (Qn h.rr kt) hD λb G hm=>h.d3 b G hm) hv λb G hm=>kx b G (Lb.1 hm)) hR) sFI λb G hm=>kx b G (Lb.1 hm)
 have drI:O5 [] wI { wI with drawn:=wI.drawn+1 }:=O5.C _ _
 have n11r:h8∉ob s.vr:=λhm=>hZ (mvr _ hm);refine Qd<|ZF (ob s.vr) (Xi 0 11 [6,7,10])<|p QF<|p QF<|p (Xl U)<|p (QQ U)<|pq (λ_ J=>Qq (kw.J J d1) U U)<|pq (λ_ J=>Z1 (zb.J J n11r) U U) <|
  pk<|QA (us:=[ZJ q]) U U og (by exact(by decide:1*3<=1000000)) oA λb136 wJ hw hb136 z0=>⟨(drI.D hw).any,?_⟩
 refine pk<|Q8 (m:=1) (news:=ZJ q) (L:=[]) (Qn zv (drI.D hw)) U U U (z0.at oe) (Zm.all hO.ones) oa (Ln _) λv24 wK gu hS z2=>⟨(drI.D hw).any.Q hS,?_⟩;have z3:Q7 wK.heap s.b TS _:=(kw.I (drI.D hw)).J hS d1;refine p (Xl U)<|p (QQ U)<|pkl (hl:=by kernel_rfl)<|QB (u:=v24) z3 U U (MJ U) (Qt gu) λwN gv kz=>pe ?_;have sK:O5 s.own wA wK:=sI.Q ((drI.D hw).any.Q (hS.mono mvr));have sN:O5 s.own wA wN:=sK.Q (gv.mono gt);have zN:=sN.size;have z4:=hi.J sN hZ;have z5:=(hO.up (L':=H::L) λb G=>.inl (Lj _ G)).st (sN.mono subL);refine Qc<|Q9 z4 U U<|QN<|(Qpk z5).mono ?_;rintro r26 wP ⟨k0,q',rfl,z6,gw⟩;have hB4P:=(h9.J sN n4).I k0;have hq1:=gw [H] (λb G=>by rw[Lb.1 G];have:=h9.lt;omega);refine Qe<|Qj (us:=ZJ q') hB4P U U U U hq1.ones λwM gx hB4M=>Qb<|Qk ⟨[.agg (ZJ q').toArray,oF oG 0],⟨⟨_,U,Qp U (hB4M.at (L:=[]) oe).cells⟩,rfl,Z⟩,?_⟩;have k4:E=0:=I.D kk;have gy:=QjK (cm:=cm) (vp:=vp) (qs:=qs) (q:=q) (made:=s.made+(q.k2.length:Int)) (v16:=v16) (v24:=v24) h hL go ⟨ga,by have:=h9.lt;exact this⟩ (Go.Lg.K1.up kn λb G=>.inl G) (hO.up (L':=H::L) λb G=>.inl (Lj _ G))
  hC ht hA hP hQ (hu.any.Q hD) gs (λb G=>(p6 b G).imp id λS=>LP zC1 S) hv hR ku sFI (drI.D hw) hS gu z2 gv kz k0 gx
 have hqN:∀N:LN,(∀b∈N,b<w.heap.size)->VJ N wM.heap q':=λN hN=>((gw (H::N) (λb G=>by
  rcases Li.1 G with rfl|G
  ·have:=h9.lt;omega
  have:=hN b G;omega)).st (gx.mono oe)).up λb G=>.inl (Lj _ G)
 have hqS:VJ (s.b::(ob v24++ob v16)) wM.heap q':=by
  have y1:=hv.size;have y3:=sFI.size;have y4:=(drI.D hw).size;have y5:=hS.size;have y6:=gv.size;refine((gw (H::(s.b::(ob v24++ob v16))) (λb G=>?_)).st (gx.mono oe)).up λb G=>.inl (Lj _ G);rcases Li.1 G with rfl|G
  ·have:=h9.lt;omega
  rcases Li.1 G with rfl|G
  ·exact kz.lt
  rcases Lc.1 G with G|G
  ·have:=(Qi gu b G).2;omega
  have:=(Qi gs b G).2;omega
 refine⟨q',by rw[k4];rfl,hqN,λh0=>OW k4 h0,λ_=>⟨?_,_,?_,?_,gy.1,gy.2.1,gy.2.2,hqS⟩⟩
 ·rw[z6,eq,T]
 ·rfl
 rw[hF,<-eqs,<-eq,<-hX,<-ecm];unfold KZ.sys;simp only[Oi,oY,OL];rfl
theorem QjL {TS:Nat}{u:UnV}{v1 v2 v3 J O H m vr vu:O2}(S:Q7 w.heap b TS [v1,v2,v3,J,O,H,m,vr,vu])(E:UnA L w.heap u)(T:b∈L):
  Q6 prog 48 [pS b,pS u.b1,pS u.b2] w λ_ w'=>O5 [b] w w'/\Q7 w'.heap b TS [u.s.c.ve,u.s.c.vc,u.s.c.vr,u.s.c.vx,u.s.c.vk,u.s.vp,m,vr,vu]:=by
 refine Zo func48 ?_;have hbL:∀x∈[b],x∈L:=λx hx=>by rw[Lb.1 hx];exact T
 have hd:O5 [] w { w with drawn:=w.drawn+1 }:=O5.C _ _
 refine ZF [b] (Xi 0 10 [6,9])<|p QF<|p QF<|pq (λ_ G=>Qw (us:=u.s.c.cells) (E.a1.st (G.mono hbL)) U U)<|pq (λ_ G=>QD (u:=u.s.vp) (E.a2.st (G.mono hbL)) U)<|p (Xl U)<|p (QQ U) <|
  pk<|YU (us:=u.s.c.cells) (cs':=[u.s.c.ve,u.s.c.vc,u.s.c.vr,u.s.c.vx,u.s.c.vk,H,m,vr,vu]) (S.I hd) U U U (MJ U) E.s.c.ones U λw1 I V=>⟨hd.any.Q I,?_⟩
 refine p (Xl U)<|p (QQ U)<|pkl (hl:=by kernel_rfl)<|QB (u:=u.s.vp) V U U (MJ U) E.s.p.arr.one λw2 Y ha =>
  pe ?_
 exact⟨[],Z,(hd.any.Q I).Q Y,ha⟩
theorem Qb0 {e:Nat}{v:O2}{g:α->LV}(E:∀x,(g x).length=sz){l:List α}{y:α}(h:w.ownsRow 0 e sz v (l++[y]).length ((l++[y]).flatMap g)):
  ∃b cap,v=.slice (some ⟨b,0,none⟩) (l.length+1) cap/\l.length+1<=cap/\b<w.heap.size/\∀(X:LN) (w':O1),O5 X w w'->b∉X->w'.ownsRow 0 e sz (.slice (some ⟨b,0,none⟩) l.length cap) l.length (l.flatMap g):=by
 have G:(l++[y]).length=l.length+1:=oe
 rw[G]at h;rcases h.2 with⟨e1,e2⟩|⟨b,cap,cur,e1,T,H,V,Y⟩
 ·omega
 subst e1;obtain⟨I,cur,H,hl,J⟩:=KC h;refine⟨b,cap,U,I,H.lt,λX w' O G=>Uy h (OP _) (H.J O G) hl ?_ (xG E l)⟩;have S:(cur.take ((l.length+1)*sz)).take (l.length*sz)=cur.take (l.length*sz):=by rw[Nb,Mn (L3 _ (OP _))]
 rw[<-S,J,LA,M4 (by rw[xG E l];exact Lx _),Lt (by rw[xG E l];exact Lx _)]
theorem Qnk {s:KZ}(h:Ul L w s)(hp:s.rs.length=s.us.length)(h3:s.us.length<=64):
  Q6 prog 18 [pS s.b] w λr w'=>(s.us=[]->r=oF oG 12/\O5 [] w w') /\
   (s.us≠[]->r=oF oG 0/\∃s':KZ,s'.b=s.b/\s'.sys=unS s.sys/\O5 s.own w w'/\Ul L w' s'/\∀b∈s'.own,b∈s.own):=by
 obtain⟨TS,hB⟩:=h.blk;have hh:Zp [] w.heap s.vu s.us.length 1 (s.us.map K5):=QK h.ru oa oe;refine Zo func18 ?_;refine Qc<|Qb<|Qd<|Qm<|x (J3 underlying46 U U)<|xe<|Z0 rfl<|Qh<|Qm<|Yt U<|Qs U hB U U<|QL hh U<|Qb<|Qd<|Qm<|x (Q2 U U)<|xe<|QZ rfl (λha=>?_) (λha=>?_)
 ·have hz:s.us=[]:=List.length_eq_zero_iff.1 (by have h4:(s.us.length:Int)=0:=ha;omega);refine Qc<|Qb<|Qk ⟨[oF oG 12],La,λ_=>⟨U,O5.Z _ _⟩,λhn=>OW hz hn⟩
 have V:s.us≠[]:=λe=>ha (by rw[e];rfl);refine Qh ?_;have he:s.rs≠[]:=λe=>V (List.length_eq_zero_iff.1 (by rw[<-hp,e];rfl));have J:s.us=s.us.dropLast++[s.us.getLast V]:=(List.dropLast_concat_getLast V).symm;have Y:s.rs=s.rs.dropLast++[s.rs.getLast he]:=(List.dropLast_concat_getLast he).symm;refine Zj s.us.dropLast λG hq=>Zj (s.us.getLast V) λu hr=>Zj s.rs.dropLast λH hs=>Zj (s.rs.getLast he) λq ht=>?_;rw[hq,hr]at J;rw[hs,ht]at Y;have h5:s.us.length=G.length+1:=by rw[J];simp
 have h6:s.rs.length=H.length+1:=by rw[Y];simp
 have O:=Qb0 (g:=λu=>[K5 u]) (λ_=>U) (l:=G) (y:=u) (by rw[<-List.map_eq_flatMap,<-J];exact h.ru);have S:=Qb0 Qob (l:=H) (y:=q) (by rw[<-Y];exact h.rr);refine Exists.elim O λgu O=>Exists.elim O λcu O=>Exists.elim S λgr S=>Exists.elim S λcr S=>?_;have evu:=O.1;have evr:=S.1;have hi:(s.us.length:Int) - 1=((G.length:Nat):Int):=oa
 have hu:(s.us.length:Int) - 1=((H.length:Nat):Int):=oa
 have eu:((s.us.map K5).drop (G.length*1)).take 1=[K5 u]:=by rw[J];simp
 have mu:u∈s.us:=by rw[J];simp
 have msb:s.b∈s.own:=Lp;have mgu:gu∈ob s.vu:=by rw[evu];simp[ob]
 have mgr:gr∈ob s.vr:=by rw[evr];simp[ob]
 refine Qm<|Yt U<|Qs U hB U U<|Qa<|x (JH U U ⟨oa,oa⟩)<|xi (i:=G.length) hh U (show Go.Lg.ev _ _=_ from OV (Value.int .i64) hi) oa λh7 hj=>?_;rw[eu]at hj;refine x (QD hj U)<|Qa<|Qe<|xc (first:=[]) (capt:=[pS u.b1,pS u.b2]) U<|(QjL hB (h.uA u mu) (h.sub _ msb)).mono ?_;rintro r1 w1 ⟨hv,hf⟩;refine xe<|Qd<|ZF [] (Xi 0 22 [18,21]) ?_;have hd:O5 [] w1 { w1 with drawn:=w1.drawn+1 }:=O5.C _ _
 refine p QF<|p QF<|p QF<|p (Xl U)<|p (QQ U)<|pq (λ_ hc=>Qq (hf.I hc) U U) <|
  p QF<|p (λ_=>JH U U ⟨oa,oa⟩)<|p (λ_=>Jz (n:=G.length+1) (b:=gu) (cap:=cu) (hi:=G.length) evu (show Go.Lg.ev _ _=_ from OV (Value.int .i64) hi) (ou O.2.1))<|p QF<|p (Xl U) <|
  p (QQ rfl)<|pq (λ_ hc=>Qq (hf.I hc) U U)<|p QF<|p (λ_=>JH U U ⟨oa,oa⟩)<|p (λ_=>Jz (n:=H.length+1) (b:=gr) (cap:=cr) (hi:=H.length) evr (show Go.Lg.ev _ _=_ from OV (Value.int .i64) hu) (ou S.2.1)) <|
  p (Xl rfl)<|p (QQ U)<|pkl (hl:=by kernel_rfl)<|QB (u:=.slice (some ⟨gu,0,none⟩) G.length cu) (hf.I hd) U U (MJ U) U λw2 hw hy=>p (Xl U) <|
  p (QQ rfl)<|pkl (hl:=by kernel_rfl)<|QB (u:=.slice (some ⟨gr,0,none⟩) H.length cr) hy U U (MJ U) U λw3 h0 h1=>pe ?_
 refine Qc<|Qb ?_;have T:O5 [s.b] w w3:=((hv.D hd).Q hw).Q h0;have hk:gu∉[s.b]:=λI=>h.d2 (Lb.1 I ▸ mgu);have ho:gr∉[s.b]:=λI=>h.d1 (Lb.1 I ▸ mgr);have hg:∀b∈[s.b],b∈L:=λb E=>by rw[Lb.1 E];exact h.sub _ msb
 have h2:∀b∈[s.b],b∈s.own:=λb E=>by rw[Lb.1 E];exact msb
 have own':∀b∈(⟨s.b,u.s,s.made,.slice (some ⟨gr,0,none⟩) H.length cr,H,.slice (some ⟨gu,0,none⟩) G.length cu,G⟩:KZ).own,b∈s.own:=λb E=>by
  rcases Li.1 E with rfl|E
  ·exact msb
  rcases Lc.1 E with E|E
  ·rw[Lb.1 (show b∈[gr] from E)];exact Lj _ (Lc.2 (.inl mgr))
  rw[Lb.1 (show b∈[gu] from E)];exact Lj _ (Lc.2 (.inr mgu))
 refine Qk ⟨[oF oG 0],La,λe=>OW e V,λ_=>⟨U,⟨s.b,u.s,s.made,.slice (some ⟨gr,0,none⟩) H.length cr,H,.slice (some ⟨gu,0,none⟩) G.length cu,G⟩,U,?_,T.mono h2,⟨⟨TS,h1⟩,S.2.2.2 _ _ T ho,?_,λI=>ho (Lb.2 (Lb.1 (show s.b∈[gr] from I)).symm),λI=>hk (Lb.2 (Lb.1 (show s.b∈[gu] from I)).symm),λb E I=>?_,λb E=>h.sub b (own' b E),Mm.st (h.uA u mu).s (T.mono hg),λd hd=>Mm.st (h.rA d (by rw[Y];exact Lc.2 (.inl hd))) (T.mono hg),λd hd=>Mm.st (h.uA d (by rw[J];exact Lc.2 (.inl hd))) (T.mono hg)⟩,own'⟩⟩
 ·show KZ.sys _=_;unfold KZ.sys unS;rw[J,Y];simp only[Oi,oY,OL,List.dropLast_concat,List.getLastD_concat];rfl
 ·have:=O.2.2.2 _ _ T hk;rw[<-List.map_eq_flatMap]at this;exact this
 rw[Lb.1 (show b∈[gr] from E)]at I;exact h.d3 gr mgr (by rw[Lb.1 (show gr∈[gu] from I)];exact mgu)
structure Xa (k:Nat)(s:Sys):Prop where
 st:y8 s.c s.ps
 un:∀u∈s.un,y8 u.1 u.2
 ln:s.rs.length=s.un.length
 l64:s.un.length<=64
 m0:0<=s.made
 m1:s.made<=(k:Int)*1000
theorem Qam {v:Int}(h:JQ c bf v=0):(YS c bf v).made.length<=96:=by
 obtain⟨E,G⟩:=Qku h;have e:(YS c bf v).made=((O9 c).filter λm=>!(Kh c bf v m).2.2).map (ZN c):=by unfold YS;rw[Qbj G]
 rw[e,Lh];exact LP (Ml _ _) (yp (Yi E).sr)
theorem QiI (h:yn c=0):(ZP c).1=0/\Zi c=0/\JQ c [] 0=0:=by
 unfold yn at h;by_cases E:(ZP c).1≠0
 ·rw[OU E]at h;exact OW h E
 rw[OT E]at h;by_cases G:Zi c≠0
 ·rw[OU G]at h;exact OW h G
 rw[OT G]at h;exact⟨Lo.1 E,Lo.1 G,h⟩
theorem Xa.new (h:yn c=0):Xa 1 (Qgl c):=by
 have E:=(QiI h).2.2;have I:=Qam E;exact⟨Qkr (λp G=>(by cases G)) E,λu H=>(by cases H),rfl,Ln _,(by show(0:Int)<=((YS c [] 0).made.length:Int);omega),(by show((YS c [] 0).made.length:Int)<=_;omega)⟩
theorem QqD {s:Sys}{es:List (Bool×Z4)}(h:jn s es=0):es.length≠0/\s.un.length≠64/\(VD s.c es).1=0/\JQ (VD s.c es).2 s.ps ((s.un.length:Int)+1)=0:=by
 unfold jn at h;by_cases G:es.length=0
 ·rw[OU G]at h;cases h
 rw[OT G]at h;by_cases H:s.un.length=64
 ·rw[OU H]at h;cases h
 rw[OT H]at h;by_cases E:(VD s.c es).1≠0
 ·rw[OU E]at h;exact OW h E
 rw[OT E]at h;exact⟨G,H,Lo.1 E,h⟩
theorem Xa.edit {k:Nat}{s:Sys}{es:List (Bool×Z4)}(E:Xa k s)(h:jn s es=0):Xa (k+1) (edS s es):=by
 obtain⟨J,O,S,H⟩:=QqD h;have T:=Qam H;have hl:=E.l64;have I:=E.ln;have V:=E.m0;have a1:=E.m1;refine⟨Qkr E.st.ok H,λu G=>?_,?_,?_,?_,?_⟩
 ·rcases Lc.1 G with G|G
  ·exact E.un u G
  rw[Lb.1 G];exact E.st
 ·show(s.rs++[_]).length=(s.un++[_]).length;simp[I]
 ·show(s.un++[_]).length<=64;simp;omega
 ·show(0:Int)<=s.made+((YS _ _ _).made.length:Int);omega
 show s.made+((YS _ _ _).made.length:Int)<=_;omega
theorem Xa.undo {k:Nat}{s:Sys}(E:Xa k s)(h:s.un≠[]):Xa k (unS s):=by
 have e:s.un.getLastD (s.c,s.ps)=s.un.getLast h:=by
  conv=>lhs;rw[<-List.dropLast_concat_getLast h]
  exact List.getLastD_concat
 refine⟨?_,λu G=>E.un u (List.dropLast_subset _ G),?_,?_,E.m0,E.m1⟩
 ·show y8 (s.un.getLastD (s.c,s.ps)).1 (s.un.getLastD (s.c,s.ps)).2;rw[e];exact E.un _ (List.getLast_mem h)
 ·show s.rs.dropLast.length=s.un.dropLast.length;rw[List.length_dropLast,List.length_dropLast,E.ln]
 show s.un.dropLast.length<=64;rw[List.length_dropLast];have:=E.l64;omega
theorem Xa.len {k:Nat}{s:KZ}(h:Xa k s.sys):s.rs.length=s.us.length/\s.us.length<=64/\s.s.ps.length<=1000:=by
 have e1:s.sys.rs.length=s.rs.length:=Lh _;have e2:s.sys.un.length=s.us.length:=Lh _;have G:s.sys.ps.length=s.s.ps.length:=Lh _;have E:=OV oP h.st.ky;rw[Lh,Lh]at E;have:=yp (Yi h.st.ck).sr;exact⟨by rw[<-e1,<-e2];exact h.ln,by rw[<-e2];exact h.l64,oa⟩
theorem Qf4 {k:Nat}{L2:LN}{s:KZ}{xs:List Y2}(h:Ul L w s)(E:Xa k s.sys)(ha:k<=1000)(H:∀b∈L,b<w.heap.size)(hx:Qbo L2 w.heap vl xs)(I:∀e∈xs.map Y2.e,ShI e.2)(J:Kb w 4096):
  Q6 prog 13 [pS s.b,vl] w λr w'=>∃qr:jr,r=.tuple #[.agg (ZJ qr).toArray,oF oG (jn s.sys (xs.map Y2.e))]/\(∀N:LN,(∀b∈N,b<w.heap.size)->VJ N w'.heap qr)/\(jn s.sys (xs.map Y2.e)≠0->O5 [] w w'/\qr.rp=⟨[],[],[]⟩) /\
   (jn s.sys (xs.map Y2.e)=0->qr.rp=YS (VD s.sys.c (xs.map Y2.e)).2 s.sys.ps ((s.sys.un.length:Int)+1)/\∃s':KZ,s'.b=s.b/\s'.sys=edS s.sys (xs.map Y2.e)/\Xa (k+1) s'.sys/\O5 s.own w w'/\Ul (s'.own++L) w' s'/\(∀b∈s'.own,b∈s.own\/w.heap.size<=b)/\VJ s'.own w'.heap qr):=by
 have hl:=E.len;have m0:0<=s.made:=E.m0;have m1:s.made<=(k:Int)*1000:=E.m1;refine(Qnq h H hx I E.st hl.2.2 ⟨m0,oa⟩ oa hl.2.1 J).mono ?_;rintro r w' ⟨qr,e1,e2,O,S⟩;refine⟨qr,e1,e2,O,λG=>?_⟩;obtain⟨f1,s',f2,f3,T,V,Y⟩:=S G;have e5:s.sys.un.length=s.us.length:=Lh _;exact⟨by rw[f1,e5];rfl,s',f2,f3,by rw[f3];exact E.edit G,T,V,Y⟩
theorem Ur {k:Nat}{L2:LN}{s:KZ}{xs:List Y2}(h:Ul L w s)(E:Xa k s.sys)(G:k<=1000)(H:∀b∈L,b<w.heap.size)(hx:Qbo L2 w.heap vl xs)(I:∀e∈xs.map Y2.e,ShI e.2)(J:Kb w 4096):
  Q6 prog 13 [pS s.b,vl] w λr w'=>∃qr:jr,r=.tuple #[.agg (ZJ qr).toArray,oF oG (jn s.sys (xs.map Y2.e))]/\(∀N:LN,(∀b∈N,b<w.heap.size)->VJ N w'.heap qr)/\(jn s.sys (xs.map Y2.e)≠0->O5 [] w w'/\qr.rp=⟨[],[],[]⟩) /\
   (jn s.sys (xs.map Y2.e)=0->qr.rp=YS (VD s.sys.c (xs.map Y2.e)).2 s.sys.ps ((s.sys.un.length:Int)+1)/\∃s':KZ,s'.b=s.b/\s'.sys=edS s.sys (xs.map Y2.e)/\Xa (k+1) s'.sys/\O5 s.own w w'/\Ul (s'.own++L) w' s'/\∀b∈s'.own,b∈s.own\/w.heap.size<=b):=
 (Qf4 h E G H hx I J).mono λ_ _ ⟨qr,e1,e2,O,S⟩=>⟨qr,e1,e2,O,λT=>let⟨f1,s',f2,f3,V,Y,f6,f7,_⟩:=S T;⟨f1,s',f2,f3,V,Y,f6,f7⟩⟩
theorem QbP {k:Nat}{s:KZ}(h:Ul L w s)(G:Xa k s.sys):
  Q6 prog 18 [pS s.b] w λr w'=>(s.sys.un=[]->r=oF oG 12/\O5 [] w w') /\
   (s.sys.un≠[]->r=oF oG 0/\∃s':KZ,s'.b=s.b/\s'.sys=unS s.sys/\Xa k s'.sys/\O5 s.own w w'/\Ul L w' s'/\∀b∈s'.own,b∈s.own):=by
 have hl:=G.len;refine(Qnk h hl.1 hl.2.1).mono ?_;rintro r w' ⟨e1,e2⟩;refine⟨λE=>e1 (List.map_eq_nil_iff.1 E),λE=>?_⟩;obtain⟨f1,s',f2,f3,H,I,J⟩:=e2 λe=>E (by show s.us.map _=[];rw[e];rfl);exact⟨f1,s',f2,f3,by rw[f3];exact G.undo E,H,I,J⟩
theorem Qlz {c:CL}(G:ZH L w.heap c)(H:CSz c.V)(I:Kb w 4096)(hE:yn c.V=0):
  Q6 prog 11 [c.val] w λr w'=>O5 [] w w'/\∃s:KZ,r=.tuple #[pS s.b,oF oG 0]/\s.sys=Qgl c.V/\Xa 1 s.sys/\(∀b∈s.own,w.heap.size<=b)/\Ul (s.own++oT w.heap.size) w' s:=by
 refine(QkK G H I).mono ?_;rintro r w' ⟨J,vp,e1,_,O⟩;obtain⟨s,S,E,T,V⟩:=O hE;exact⟨J,s,by rw[e1,S,hE],E,by rw[E];exact Xa.new hE,T,V⟩
theorem QaV (k:Ky):(KI k).length=2:=rfl
theorem qM {v:O2}{l:List Ky}(h:Kys L w.heap v l)(J:Kys L' w.heap v' l):
  Q6 prog 54 [v,v'] w λr w'=>r=.bool true/\O5 [] w w':=by
 have hb:=h.le;refine Zo func54 ?_;refine Qc<|Qb<|Qd<|Qm<|QL h U<|Qa<|QL J U<|ZD U U<|xe<|QZ rfl (λO=>OW U O) (λO=>?_);refine Qh<|Qd<|Qc<|Qb<|Qg<|QC (α:=Nat) [(4,5),(11,25)] (λk=>[(5,oF oG k)]) (λk w'=>O5 [] w w'/\k<=l.length) (λk=>l.length - k) ol 0 La ⟨O5.Z _ _,Ln _⟩ ?_;rintro k g H ⟨G,hk⟩;have S:Kys L H.heap v l:=h.I G;have V:Kys L' H.heap v' l:=J.I G;refine Qd<|Qm<|Qa<|QL S U<|QY U U<|xe<|QH rfl (λT=>?_) (λT=>?_)
 ·refine Qz<|Qc<|Qb<|Qk ⟨[.bool true],La,U,G⟩
 have E:k<l.length:=by have he:(k:Int)<(l.length:Int):=T;omega
 refine Qh<|Qd<|Qg<|Qd<|ZF [] (Xi 0 9 [])<|p QF<|p QF<|Lg.pig (g:=KI) (i:=k) U QaV S U U E λhf Y=>pq (λ_ I=>Qw (Y.I I) U U) <|
  p QF<|p QF<|Lg.pig (g:=KI) (i:=k) U QaV V U U E λhg ha=>pq (λ_ I=>Qw (ha.I I) U U)<|p (λ_=>Uu (xs:=KI (l[k]'E)) (ys:=KI (l[k]'E)) U U U)<|pe ?_
 refine Z0 (show Go.Lg.ev _ _=_ from OV (λb=>Value.bool (!b)) ((QiX (l[k]'E) (l[k]'E)).D (OX U))) ?_;refine Qh<|Qv<|Qa<|QP U U<|Qb<|⟨k+1,oa,La,G.D (O5.C [] H),oa⟩
open Go.RowKit
def zi (P:O4)(all:xE)(K:LN->Fr->O1->Prop):xu->xA->LN->Fr->O1->Prop
 | [],_,own,f,w=>K own f w
 | (j,true)::l,C,own,f,w=>Yd all f (QU all j)=true/\∃v,(∀w',(U8 (QU all j)=true->C w')->(execOp (ev f) (QU all j)).run P w'=.ok (.value v) w')/\zi P all K l C own (QW f (QU all j).dst v) w
 | (j,false)::l,C,own,f,w=>Yd all f (QU all j)=true/\∀w1,O5 [] w w1->C w1->XO P (QU all j) f w1 λE w'=>∃C':xA,(∀x,C' x->C x)/\(∀x x',C' x->O5 [] x x'->C' x')/\C' w'/\∃own',O5 own w1 w'/\(∀b∈own',b∈own\/(w1.heap.size<=b/\b<w'.heap.size))/\zi P all K l C' own' E w'
section
variable {all:xE}{C C0:xA}{KF:LN->Fr->O1->Prop}
theorem zi.I (hK:∀own f w w',KF own f w->O5 [] w w'->KF own f w'):∀{l:xu}{C:xA}{own:LN}{f:Fr}{w w':O1},zi P all KF l C own f w->O5 [] w w'->zi P all KF l C own f w'
 | [],_,_,_,_,_,h,E=>hK _ _ _ _ h E
 | (_,true)::_,_,_,_,_,_,h,E=>by
  obtain⟨G,v,H,hx⟩:=h;exact⟨G,v,H,zi.I hK hx E⟩
 | (_,false)::_,_,_,_,_,_,h,E=>⟨h.1,λI J O=>h.2 I (E.D J) O⟩
attribute [local semireducible] XA XO in
theorem XA.sub {C':xA}(G:∀x,C' x->C x):∀(k:Nat) (ls:Array Bool) (f:Fr) (w:O1),XA P all C' K k ls f w->XA P all C K k ls f w
 | 0,_,_,_,h=>h
 | k+1,ls,f,w,h=>by
  refine⟨h.1,λi hi o I=>?_⟩;have E:=h.2 i hi o I;cases H:Yd all f o with
  | false=>rw[H]at E;exact XA.sub G k _ _ _ E
  | true =>
   rw[H]at E;exact XO.mono (λJ w' hx=>⟨hx.1.imp id (Or.imp id (G w')),XA.sub G k _ _ _ hx.2⟩) E
structure Fl3 (P:O4)(all:xE)(C0:xA)(K:xz)(KF:LN->Fr->O1->Prop)(i d:Nat)(rest:xu)(Φ:O2->O1->Prop)(Dc:xw)(f1:Fr):Prop where
 stab:∀v (own:LN) w w',Φ v w->O5 own w w'->(∀b∈ow v,b∉own)->Φ v w'
 spec:∀f w,(∀t,Xm Dc t=false->f t=f1 t)->C0 w->XO P (QU all i) f w λf' w'=>O5 [] w w'/\Φ (f' d) w'/\∀b∈ow (f' d),w.heap.size<=b/\b<w'.heap.size
 fin:∀own f w,KF own f w->∀v (C:xA),C w->(∀x,C x->C0 x)->Φ v w->(∀b∈ow v,b∉own/\b<w.heap.size)->XP P all C K rest (QW f (some d) v) w
 mono:∀own f w w',KF own f w->O5 [] w w'->KF own f w'
theorem jM:∀(l:xE) (j:Nat),l[j]?=none->QU l j=default
 | [],_,_=>rfl
 | _::l,0,h=>by simp at h
 | _::l,j+1,h=>jM l j (oz h)
theorem Qb2 (G:Region.noSelect all.toArray=true)(j:Nat):∀cs b,(QU all j).op≠.select cs b:=by
 intro cs b;cases E:all[j]? with
 | none=>rw[jM all j E];intro e;cases e
 | some o=>rw[Zk E];exact Region.noSelect_spec G j o cs b (oz E)
theorem Qd6 {i d:Nat}{rest:xu}{Φ:O2->O1->Prop}{Dc:xw}{f1:Fr}(hF:Fl3 P all C0 K KF i d rest Φ Dc f1)(J:Region.noSelect all.toArray=true){v:O2}:∀(l:xu) (C:xA) (own:LN) (ls:Array Bool) (f:Fr) (w:O1),(∀x,C x->C0 x)->(∀x x',C x->O5 [] x x'->C x')->ls.size=all.length->ZO all d l=true->zi P all KF l C own f w->C w->Φ v w ->
  (∀b∈ow v,b∉own/\b<w.heap.size)->Xh all.toArray (l++rest) ls=true->XA P all C K (l++rest).length ls (QW f (some d) v) w
 | [],C,own,ls,f,w,O,hh,S,_,h,H,T,E,I=>ZL J rest ls _ w S (.inl H) I (hF.fin own f w h v C H O T E)
 | (j,true)::l,C,own,ls,f,w,O,hh,S,hfr,h,H,T,E,I=>by
  simp only[ZO,oS,oK,Og,List.contains_eq_mem,decide_eq_false_iff_not,beq_eq_false_iff_ne,ne_eq]at hfr;obtain⟨⟨h1,h2⟩,hfr⟩:=hfr;have hi:ZO all d l=true:=by simpa[ZO]using hfr
  have hd:∀e,some d=some e->e∉(QU all j).looksAt all.toArray:=λe V=>by cases V;exact h1
  simp only[Ob,Xh,oK]at I;obtain⟨⟨Y,hf⟩,hl⟩:=I;have hw:j∈Region.ready .any all.toArray ls:=by simpa using Y
  obtain⟨hg,u,hu,hx⟩:=h;cases G:all[j]? with
  | none =>
   exfalso;obtain⟨_,o,h6,_⟩:=mem_ready.1 hw;simp[G]at h6
  | some o =>
   have h7:∀(j:Nat) (o:Oper) cs b,all[j]?=some o->o.op≠.select cs b:=λj o cs b hj=>Region.noSelect_spec J j o cs b (oz hj);have h8:=λk ok hk=>Region.free_spec (ops:=all.toArray) (md:=.any) (i:=j) (oi:=o) (listed:=ls) (oz G) hf k ok (oz hk);have hn:Yd all (QW f (some d) v) o=true:=by
    have:=Je (QU all j) f (some d) v hd;rw[Zk G]at this hg;rw[this];exact hg
   have h9:∀w',(U8 o=true->C w')->(execOp (ev (QW f (some d) v)) o).run P w'=.ok (.value u) w':=λw' hc=>by
    have:=Xy (all:=all) (Qb2 J j) f (some d) v hd;rw[Zk G]at this hu;rw[this];exact hu w' hc
   have hy:=Qd6 hF J l C own (ls.setIfInBounds j true) _ w O hh (oz S) hi hx H T E hl;rw[<-Km f v u (λe V=>by cases V;exact h2),Zk G]at hy;exact Xn (v:=u) (D:=λw=>U8 o=true->C w) G (λ_ h=>h) h7 _ ls _ w (λ_=>H) h8 hw (.inl ⟨hn,h9⟩) hy
 | (j,false)::l,C,own,ls,f,w,O,hh,S,hfr,h,H,T,E,I=>by
  simp only[ZO,oS,oK,Og,List.contains_eq_mem,decide_eq_false_iff_not,beq_eq_false_iff_ne,ne_eq]at hfr;obtain⟨⟨h1,h2⟩,hfr⟩:=hfr;have hi:ZO all d l=true:=by simpa[ZO]using hfr
  have hd:∀e,some d=some e->e∉(QU all j).looksAt all.toArray:=λe V=>by cases V;exact h1
  simp only[Ob,Xh,oK,beq_iff_eq]at I;obtain⟨Y,hl⟩:=I;show XA P all C K ((l++rest).length+1) ls _ w;refine XS (λh0=>(by rw[h0]at Y;cases Y)) ?_;rw[Y];intro k hk o G;have hA:k=j:=by simpa using hk
  subst hA;have hq:=Zk G;have hn:Yd all (QW f (some d) v) o=true:=by
   have:=Je (QU all k) f (some d) v hd;rw[hq]at this;rw[this,<-hq];exact h.1
  rw[hn,cond_true];have h3:=h.2 w (O5.Z _ _) H;have h4:XO P (QU all k) (QW f (some d) v) w λf' w'=>(VT all k=true\/w'=w\/C w')/\XA P all C K (l++rest).length (ls.setIfInBounds k true) f' w':=by
   refine Qbk (all:=all) (Qb2 J k) h1 h2 (λu w' hx=>?_) h3;obtain⟨C',ht,hB,hz,own',h5,hD,hx⟩:=hx;refine⟨.inr (.inr (ht _ hz)),XA.sub ht _ _ _ _ (Qd6 hF J l C' own' _ _ w' (λx hx=>O x (ht x hx)) hB (oz S) hi hx hz (hF.stab v own w w' T h5 (λb ha=>(E b ha).1)) (λb ha=>⟨λhm=>?_,LX (E b ha).2 h5.size⟩) hl)⟩;rcases hD b hm with h3|h3
   ·exact(E b ha).1 h3
   exact Nu _ (LX (E b ha).2 h3.1)
  rw[hq]at h4;exact h4
theorem Qd4 {i d:Nat}{rest:xu}{Φ:O2->O1->Prop}{Dc:xw}{f1:Fr}(O:Fl3 P all C0 K KF i d rest Φ Dc f1)(hs:Region.noSelect all.toArray=true)(hg:(QU all i).guard=none)(hd:(QU all i).dst=some d):∀(l:xu) (C:xA) (ls:Array Bool) (own:LN) (f:Fr) (w:O1),(∀x,C x->C0 x)->(∀x x',C x->O5 [] x x'->C x')->ls.size=all.length->ZO all d l=true->Z3 all Dc l=true->(∀t,Xm Dc t=false->f t=f1 t) ->
  zi P all KF l C own f w->C w->(∀b∈own,b<w.heap.size)->V7 all.toArray i rest l ls=true->XA P all C K (l.length+1+rest.length) ls f w
 | [],C,ls,own,f,w,S,ha,he,hfr,T,hk1,h,G,hc,E=>by
  simp only[V7,oK,beq_iff_eq]at E;obtain⟨Y,E⟩:=E;rw[show([]:xu).length+1+rest.length=rest.length+1 by simp;omega];refine XS (λh0=>(by rw[h0]at Y;cases Y)) ?_;rw[Y];intro k hk o H;have hi:k=i:=by simpa using hk
  subst hi;have hh:=Zk H;have hx:=O.spec f w hk1 (S _ G);rw[hh]at hg hd hx;rw[JM hg,cond_true];refine hx.mono λv w' hx=>?_;rw[hd]at hx ⊢;obtain⟨V,I,h4⟩:=hx;simp only[QW,YQ]at I h4;have J:=ha _ _ G V;refine⟨.inr (.inr J),ZL hs rest _ _ _ (oz he) (.inl J) E (O.fin own f w' (O.mono own f w w' h V) v C J S I (λb hb=>⟨λhm=>Nu _ (LX (hc b hm) (h4 b hb).1),(h4 b hb).2⟩))⟩
 | (j,true)::l,C,ls,own,f,w,S,ha,he,hfr,T,hk1,h,G,hc,E=>by
  simp only[V7,oK]at E;obtain⟨⟨Y,hf⟩,hl⟩:=E;have hu:j∈Region.ready .any all.toArray ls:=by simpa using Y
  have e:(oP ((j,true)::l))+1+rest.length=(l.length+1+rest.length)+1:=by simp;omega
  rw[e];have hn:ZO all d l=true:=by simp only[ZO,oS,oK]at hfr;exact hfr.2
  simp only[Z3,oS,oK]at T;have hq:Z3 all Dc l=true:=T.2;cases H:all[j]? with
  | none =>
   exfalso;obtain⟨_,o,h6,_⟩:=mem_ready.1 hu;simp[H]at h6
  | some o =>
   obtain⟨hw,v,hv,hx⟩:=h;rw[Zk H]at hw hv hx;have h7:∀(j:Nat) (o:Oper) cs b,all[j]?=some o->o.op≠.select cs b:=λj o cs b hj=>Region.noSelect_spec hs j o cs b (oz hj);have h8:=λk ok hk=>Region.free_spec (ops:=all.toArray) (md:=.any) (i:=j) (oi:=o) (listed:=ls) (oz H) hf k ok (oz hk);exact Xn (v:=v) (D:=λw=>U8 o=true->C w) H (λ_ h=>h) h7 _ ls f w (λ_=>G) h8 hu (.inl ⟨hw,hv⟩) (Qd4 O hs hg hd l C _ own _ w S ha (oz he) hn hq (by have:=JK (v:=v) T.1 hk1;rw[Zk H]at this;exact this) hx G hc hl)
 | (j,false)::l,C,ls,own,f,w,S,ha,he,hfr,T,hk1,h,G,hc,E=>by
  simp only[V7,oK,Om,Bool.or_eq_true,beq_iff_eq,Og]at E;obtain⟨⟨⟨hy,Y⟩,h9⟩,hl⟩:=E;have e:(oP ((j,false)::l))+1+rest.length=(l.length+1+rest.length)+1:=by simp;omega
  rw[e];have hn:ZO all d l=true:=by simp only[ZO,oS,oK]at hfr;exact hfr.2
  simp only[Z3,oS,oK]at T;have hq:Z3 all Dc l=true:=T.2;refine XS (λh0=>(by rw[h0]at hy;cases hy)) ?_;intro k hk o H;have hh:=Zk H;have hz:(ls.setIfInBounds k true).size=all.length:=by simpa using he
  by_cases hi:k=i
  ·subst hi;have hx:=O.spec f w hk1 (S _ G);rw[hh]at hg hd hx;rw[JM hg,cond_true];refine hx.mono λv w' hx=>?_;rw[hd]at hx ⊢;obtain⟨V,I,h4⟩:=hx;simp only[QW,YQ]at I h4;have J:=ha _ _ G V;refine⟨.inr (.inr J),?_⟩;have hx:=Qd6 O hs ((j,false)::l) C own (ls.setIfInBounds k true) f w' S ha hz hfr (zi.I O.mono h V) J I (λb hb=>⟨λhm=>Nu _ (LX (hc b hm) (h4 b hb).1),(h4 b hb).2⟩) h9;rw[show((j,false)::l++rest).length=l.length+1+rest.length by simp;omega]at hx;exact hx
  have hA:k=j:=(Y k hk).resolve_right hi;subst hA;have V:=h.1;have J:=h.2 w (O5.Z _ _) G;rw[hh]at V J;rw[V,cond_true];refine J.mono λv w' hx=>?_;obtain⟨C',ht,hB,h5,own',hD,hE,hx⟩:=hx;refine⟨.inr (.inr (ht _ h5)),XA.sub ht _ _ _ _ (Qd4 O hs hg hd l C' _ own' _ w' (λx hx=>S x (ht x hx)) hB hz hn hq (by have:=JK (v:=v) T.1 hk1;rw[hh]at this;exact this) hx h5 (λb hb=>?_) hl)⟩;rcases hE b hb with I|I
  ·exact LX (hc b I) hD.size
  exact I.2
theorem zi.keeps {D:xw}{f0:Fr}:∀(l:xu) (C:xA) (own:LN) (f:Fr) (w:O1),Z3 all D l=true->(∀t,Xm D t=false->f t=f0 t)->zi P all KF l C own f w->zi P all (λo G w'=>(∀t,Xm D t=false->G t=f0 t)/\KF o G w') l C own f w
 | [],C,own,f,w,_,E,h=>⟨E,h⟩
 | (j,true)::l,C,own,f,w,hd,E,h=>by
  simp only[Z3,oS,oK]at hd;obtain⟨H,v,I,hx⟩:=h;exact⟨H,v,I,zi.keeps l C own _ _ hd.2 (JK hd.1 E) hx⟩
 | (j,false)::l,C,own,f,w,hd,E,h=>by
  simp only[Z3,oS,oK]at hd;refine⟨h.1,λJ O S=>XO.mono (λv w' hx=>?_) (h.2 J O S)⟩;obtain⟨C',T,V,Y,own',ha,hb,hx⟩:=hx;exact⟨C',T,V,Y,own',ha,hb,zi.keeps l C' own' _ _ hd.2 (JK hd.1 E) hx⟩
theorem f3q {l:xu}{own:LN}{v:O2}(E:∀w',C w'->(execOp (ev f) (QU all j)).run P w'=.ok (.value v) w')(h:zi P all KF l C own (QW f (QU all j).dst v) w)
  (hd:U8 (QU all j)=true:=by rfl) (G:Yd all f (QU all j)=true:=by rfl):zi P all KF ((j,true)::l) C own f w:=⟨G,v,λw' H=>E w' (H hd),h⟩
theorem f3p {l:xu}{own:LN}{v:O2}(E:∀w',(execOp (ev f) (QU all j)).run P w'=.ok (.value v) w')(h:zi P all KF l C own (QW f (QU all j).dst v) w)
  (G:Yd all f (QU all j)=true:=by rfl):zi P all KF ((j,true)::l) C own f w:=⟨G,v,λw' _=>E w',h⟩
theorem f3k {l:xu}{own:LN}(h:∀w1,O5 [] w w1->C w1->XO P (QU all j) f w1 λE w'=>∃C':xA,(∀x,C' x->C x)/\(∀x x',C' x->O5 [] x x'->C' x')/\C' w'/\∃own',O5 own w1 w'/\(∀b∈own',b∈own\/(w1.heap.size<=b/\b<w'.heap.size))/\zi P all KF l C' own' E w')
  (G:Yd all f (QU all j)=true:=by rfl):zi P all KF ((j,false)::l) C own f w:=⟨G,h⟩
theorem f3e {own:LN}(h:KF own f w):zi P all KF [] C own f w:=h
theorem Qg9 {Q:Exit->Fr->O1->Prop}(C:xA)(pre l:xu)(i d:Nat)(rest:xu)(own:LN)(D Dc:xw)(S:α->List (Nat×O2))(I:α->LN->O1->Prop)(Φ:O2->O1->Prop)(hm:P.follows .mixedOrders=true)(hn:X0 n all=true)
  (T:QdL all pre l i rest=true) (J:(Z3 all D pre && Z3 all D l && Z3 all Dc l)=true) (hd:(QU all i).dst=some d) (V:C { w with drawn:=w.drawn+1 }) (ha:∀x x',C x->O5 [] x x'->C x') (hc:∀b∈own,b<w.heap.size)
  (stab:∀v (own:LN) w w',Φ v w->O5 own w w'->(∀b∈ow v,b∉own)->Φ v w') (mono:∀z own w w',I z own w->O5 [] w w'->I z own w')
  (fin:∀z g own w v (C':xA),I z own w->C' w->(∀x,C' x->C x)->Φ v w->(∀b∈ow v,b∉own/\b<w.heap.size)->XP P all C' (λf w=>Q .normal f w) rest (QW (qX (S z) (mix D f g)) (some d) v) w)
  (h:XP P all C (λf1 _=>(∀g w,C w->XO P (QU all i) (mix Dc f1 g) w λE w'=>O5 [] w w'/\Φ (E d) w'/\∀b∈ow (E d),w.heap.size<=b/\b<w'.heap.size)/\zi P all (λo E w'=>∃z,XB E (S z)/\I z o w') l C own f1 { w with drawn:=w.drawn+1 }) pre f { w with drawn:=w.drawn+1 }):W P n (.region id all.toArray true) Q f w:=by
 rw[Lv,Lv]at J;simp only[QdL,oK,beq_iff_eq,Option.isNone_iff_eq_none]at T;obtain⟨⟨⟨⟨⟨G,hl⟩,hq⟩,he⟩,hg⟩,hfr⟩:=T;rw[hd]at hfr;refine JR C hm hn ?_;have Y:=YK (K:=λf w=>Q .normal f w) (m:=l.length+1+rest.length) G pre (oX all.length false) f _ V hq
  (B:=λf1 _=>Fl3 P all C (λf w=>Q .normal f w) (λo E w'=>(∀t,Xm D t=false->E t=f t)/\∃z,XB E (S z)/\I z o w') i d rest Φ Dc f1/\zi P all (λo E w'=>(∀t,Xm D t=false->E t=f t)/\∃z,XB E (S z)/\I z o w') l C own f1 { w with drawn:=w.drawn+1 })
  (λf1 hB=>Qd4 hB.1 G hg hd l C (Z9 pre (oX all.length false)) own f1 _ (λ_ h=>h) ha (by rw[YO];simp) hfr J.2 (λ_ _=>rfl) hB.2 V hc he)
  (XP.keeps_mono _ _ _ (XP.keeps pre f _ J.1.1 (λ_ _=>U) h) (λf1 w1 hx=>⟨⟨stab,?_,?_,?_⟩,zi.keeps l C own _ _ J.1.2 hx.1 hx.2.2⟩))
 ·rw[hl]at Y;exact Y
 ·intro E w' H O;have:=hx.2.1 E w' O;rw[Ji H]at this;exact this
 ·rintro o E w' ⟨H,z,G,hi⟩ v C' O hf hv hb;have:=fin z E o w' v C' hi O hf hv hb;rw[Ji H,Xc G]at this;exact this
 rintro o E w' hj ⟨H,z,G,hi⟩ hh;exact⟨H,z,G,mono z o _ _ hi hh⟩
end
attribute [irreducible] zi
end Go.Lg
