/- Merged out of 45 texts. -/
import Derived.Test.YteekilnpgonojaaGreatDoorNgd
import Derived.Scope
import Derived.Lib.Overlaps
set_option maxHeartbeats 40000000
set_option maxRecDepth 100000
set_option linter.all false
open Go Go.Lg
open Go.Value renaming int->oG
open Go.IntKind renaming i64->oH
open _root_.List renaming mem_singleton->oJ,not_mem_nil->oK,mem_cons->oL,length_append->oN,length_singleton->oP,length->oQ,getD->oR,range'->oS,range->oV,mem_append->oW,length_cons->oX,map_cons->oY,append_assoc->o6,length_drop->Oa,length_take->Ob,length_map->Oc,size_toArray->Od,map_append->Oj,nil_append->Om,length_set->Ov,length_nil->OI,map_nil->OL,map_set->OQ
open _root_.Nat renaming zero_add->oZ,add_mul->Oq,sub_zero->OJ,zero_mul->OP,zero_le->OR
open _root_.Array renaming getElem?_eq_getElem->Ol,getElem?_mapIdx->Ox
open _root_.Option renaming map_some->Oz,isSome_none->OE
open _root_.Bool renaming false_eq_true->OF,true_and->OO
open Go renaming World->O1,Value->O2,Operand->O3,Program->O4
open Go.Proofs Go.Proofs.Tryz
open Go.Proofs.Tryz renaming prog->sV
variable {w w':O1}{L L' X ds L2:LN}{n t i sz b T j g E N id ty cap b1 B kt lo hi b2 et M gp:Nat}{cs us news capt:LV}{H:xC}{a:Q6}{α β:Type}{y G:O3}{z va ve vm vt v' vl vs vb vx vk:O2}{l u al rs:LI}{c:ZF}{f f1:Fr}{P:O4}{fn:Func}{q:DV}{o:Oper}{es:List Ed}{d:xF}{af:xD}{gd:xt}{K:xz}{bf:List xJ}{k':IntKind}{qs:List IV}{at_:Array Nat}{co:List XC}{ops:xE}{ks:List KV}
namespace Go.Lg
section
variable {pS:String}
theorem yt {base e:Nat}{bys:Nat}[h:Sl P t e sz bys z]{v:O2}(H:w.ownsRow base e sz v n cs)
  {a:Addr} {m c:Nat}  (I:news.length=m*sz) (Y:∀j u,news[j]?=some u->w.cell? (a.add j)=some u) (h1:∀u∈news,u.oneCell'=true)
  (hb:n+m<=1073741824) (hs:bys<=131072) (he:base<=↑w):
  ∃v' w',(Builtin.append_ #[t,t] ty #[v,.slice (some a) m c]).run P w=.ok v' w'/\w'.ownsRow base e sz v' (n+m) (cs++news)/\O5 (ob v) w w'/\(∀b∈ob v',b∈ob v\/↑w<=b):=by
 obtain⟨i,hi,hz,O,ha⟩:=Sl.info h;have hc:(n+m)*bys<=140737488355328:=LH (Nat.mul_le_mul hb hs) oa;have hf:n+m<=maxLen:=by simp only[maxLen];omega
 by_cases hg:∃g cap cur,v=sL g n cap/\w.heap[g]?=some (.cells cur e (0,0))/\n+m<=cap
 ·obtain⟨v',w',V,ho,ht,_⟩:=run_append_own (P:=P) w base t ty e i z sz bys h.u hi hz O ha h.zs h.pos v n cs H a m c news I Y h1 hf hc he;refine⟨v',w',V,ho,by rw[yE];exact O5.of_grown ht,?_⟩;obtain⟨g,cap,cur,rfl,hh,S⟩:=hg;rcases H.2 with⟨h2,_⟩|⟨g2,cap2,hj,h2,h3,h4,h5,h6,h7,h8⟩
  ·cases h2
  cases h2
  have hu:n*i.size+news.length<=hj.size:=by rw[I,h7,O,<-Mt];exact LY _ S
  rw[(run_append_room (P:=P) w t ty e i h.u hi g n cap hj h4 a m c news (by rw[O];exact I) Y h1 S hu)]at V;cases V
  intro b G;exact .inl G
 have new:∀(old:Nat),old<n+m->∀J,J=(Obj.cells (cs.toArray++news.toArray++Builtin.zeroCells z.cells (grownCap w (n+m) old e - (n+m))) e) ->
   (w.drew.alloc J).ownsRow base e sz (.slice (some ⟨↑w,0,none⟩) (n+m) (grownCap w (n+m) old e)) (n+m) (cs++news):=by
  intro old ho J hv;subst hv;have hge:=grownCap_ge w (n+m) old e;have hp:grownCap w (n+m) old e<=maxLen:=grownCap_le_maxLen w (n+m) old e hf;have hq:(cs++news).length=(n+m)*sz:=by rw[Lk,H.1,I,Mt]
  refine⟨hq,.inr ⟨↑w,_,_,U,he,Kv w.drew _,hge,hp,?_,?_⟩⟩
  ·simp only[Array.size_append,Od,size_zeroCells,h.zs,H.1,I,<-Oq];congr 1;omega
  simp only[Array.toList_append,o6];rw[<-LB,<-hq];exact List.take_left
 have stp:∀J,O5 (ob v) w (w.drew.alloc J):=λJ=>⟨U,U,U,by rw[V1];exact NU _,λk hk _=>qY w.drew J k hk⟩;have fin:∀(b:Nat),b∈ob (.slice (some ⟨↑w,0,none⟩) (n+m) 0)->b∈ob v\/↑w<=b:=λb G=>by simp[ob]at G;omega
 rcases H.2 with⟨rfl,rfl⟩|⟨g,cap,cur,rfl,h9,hh,hA,hp,hB,hC⟩
 ·have hx:cs=[]:=Lr (oA H.1);subst hx;by_cases hm:m=0
  ·subst hm;have hn:news=[]:=Lr (oA I);subst hn;refine⟨nS,w,?_,QD _ _ _ _,O5.Z _ _,λb G=>by simp[ob]at G⟩;simp[Builtin.append_,run_underlying h.u,sizeOf,typeInfo,hi,Builtin.lenOf,Builtin.firstCells,loadCells,loadCellsFrom]
  have V:=run_append_nil (P:=P) w t ty e i z h.u hi hz a m c news (by rw[O];exact I) Y oa oa (by rw[ha];have hw:=hc;simp only[oZ]at hw;omega);have hn:=new 0 oa _ U;simp only[oZ,Om,Array.empty_append]at hn ⊢;exact⟨_,_,V,hn,stp _,λb G=>fin b G⟩
 have S:cap<n+m:=by
  rcases Np cap (n+m)with hy|hge
  ·exact hy
  exact OW ⟨g,cap,cur,U,hh,hge⟩ hg
 have h0:∀j u,cs[j]?=some u->w.cell? ((⟨g,0,none⟩:Addr).add j)=some u:=H.cells (g:=g) U;exact⟨_,_,(run_append_grow (P:=P) w t ty e i z h.u hi hz ⟨g,0,none⟩ n cap cs (by rw[O];exact H.1) h0 a m c news (by rw[O];exact I) Y S oa (growslice_fits S (by rw[ha];exact hc))),new cap S _ U,stp _,λb G=>fin b G⟩
theorem Ja {e bys:Nat}[h:Sl P t e sz bys z]{s:O3}{base:Nat}{v:O2}(G:w.ownsRow base e sz v n cs)(H:ev f s=v)
  {a:Addr} {m c:Nat}  (I:ev f y=.slice (some a) m c) (J:news.length=m*sz)  (O:At L w.heap a news) (S:∀u∈news,u.oneCell'=true)
  (V:n+m<=1073741824) (Y:base<=↑w)
  (hK:∀v' w',w'.ownsRow base e sz v' (n+m) (cs++news)->O5 (ob v) w w'->(∀b∈ob v',b∈ob v\/↑w<=b)->K (QN f d v') w') (ha:bys<=131072:=by decide):
  XO P ⟨d,.call ⟨.builtin .append,#[s,y],#[t,t]⟩,ty,pS,af,gd⟩ f w K:=by
 obtain⟨v',w',hr,h2,h3,h4⟩:=yt (P:=P) (t:=t) (ty:=ty) G J O.cells S V ha Y (c:=c);have hc:(execOp (ev f) ⟨d,.call ⟨.builtin .append,#[s,y],#[t,t]⟩,ty,pS,af,gd⟩).run P w=.ok (.value v') w':=by
  simp[execOp,resolve,invoke,builtin,H,I,hr]
 exact xv hc (hK v' w' h2 h3 h4)
end
class Mm {α:Type}(E:LN->Array Obj->α->Prop):Prop where
 st:∀{L:LN} {w w':O1} {q:α},E L w.heap q->O5 L w w'->E L w'.heap q
 up:∀{L L':LN} {H:xC} {q:α},E L H q->(∀b∈L',b∈L\/H.size<=b)->E L' H q
section
variable {E:LN->Array Obj->α->Prop}[Mm E]{q:α}
theorem Mm.mono (h:E L H q)(G:∀b∈L',b∈L):E L' H q:=Mm.up h λb I=>.inl (G b I)
theorem Mm.J (h:E L w.heap q)(H:O5 X w w')(I:∀b∈X,b∈L\/↑w<=b):E L w'.heap q :=
 Mm.mono (Mm.st (Mm.up (L':=X++L) h (λb G=>(Lc.1 G).elim (I b) .inl)) (H.mono λ_ G=>Lc.2 (.inl G))) λ_ G=>Lc.2 (.inr G)
theorem Mm.I (h:E L w.heap q)(G:sX w w'):E L w'.heap q:=Mm.st h G.any
end
structure XK {α:Type}(g:α->LV)(sz:Nat)(E:LN->Array Obj->α->Prop)(L:LN)(H:xC)(v:O2)(qs:List α):Prop where
 arr:Zo L H v qs.length sz (qs.flatMap g)
 each:∀q∈qs,E L H q
section
variable {g:α->LV}{E:LN->Array Obj->α->Prop}
theorem XK.st [Mm E]{L:LN}{w w':O1}{v:O2}{qs:List α}(h:XK g sz E L w.heap v qs)(G:O5 L w w'):XK g sz E L w'.heap v qs:=⟨h.arr.st G,λq H=>Mm.st (h.each q H) G⟩
theorem XK.up [Mm E]{L L':LN}{H:xC}{v:O2}{qs:List α}(h:XK g sz E L H v qs)(G:∀b∈L',b∈L\/H.size<=b):XK g sz E L' H v qs:=⟨h.arr.up G,λq I=>Mm.up (h.each q I) G⟩
theorem XK.I [Mm E]{v:O2}{qs:List α}(h:XK g sz E L w.heap v qs)(G:sX w w'):XK g sz E L w'.heap v qs:=h.st G.any
structure Yh {α:Type}(g:α->LV)(sz T:Nat)(E:LN->Array Obj->α->Prop)(base:Nat)(w:O1)(v:O2)(l:List α):Prop where
 own:w.ownsRow base T sz v l.length (l.flatMap g)
 each:∀q∈l,∀L:LN,(∀b∈L,b<base\/b∈ob v)->E L w.heap q
variable {bs:Nat}{v:O2}{l:List α}
theorem Yh.nil:Yh g sz T E bs w (nS) []:=⟨QD _ _ _ _,λq G=>by cases G⟩
theorem Yh.low [Mm E](h:Yh g sz T E bs w v l)(H:O5 X w w')(I:∀b∈X,b<bs):Yh g sz T E bs w' v l :=
 ⟨Qd h.own H (λb G J=>oy (Qg h.own b G).1 (I b J)),λq O L S =>
  Mm.mono (Mm.st (L:=X++L) (h.each q O _ λb G=>(Lc.1 G).elim (λG=>.inl (I b G)) (S b)) (H.mono λb G=>Lc.2 (.inl G))) λb G=>Lc.2 (.inr G)⟩
theorem Yh.I [Mm E](h:Yh g sz T E bs w v l)(G:sX w w'):Yh g sz T E bs w' v l:=h.low G (λ_ H=>by cases H)
theorem Yh.base {base':Nat}(h:Yh g sz T E bs w v l)(G:base'<=bs):Yh g sz T E base' w v l :=
 ⟨Zz h.own G,λq H L I=>h.each q H L λb J=>(I b J).imp (λh=>oa) id⟩
theorem Yh.app [Mm E]{H:O2}{I:O1}{q:α}(h:Yh g sz T E bs w v l)(O:∀L:LN,(∀b∈L,b<bs\/b∈ob v)->E L w.heap q)
  (S:I.ownsRow bs T sz H (l.length+1) (l.flatMap g++g q)) (V:O5 (ob v) w I) (Y:∀b∈ob H,b∈ob v\/↑w<=b):Yh g sz T E bs I H (l++[q]):=by
 have mv:∀d:α,(∀L:LN,(∀b∈L,b<bs\/b∈ob v)->E L w.heap d)->∀L:LN,(∀b∈L,b<bs\/b∈ob H)->E L I.heap d:=λd hd L hL=>by
  have h1:E (ob v++L) w.heap d:=Mm.up (hd (ob v++L.filter λb=>decide (b<bs)) λb G=>(Lc.1 G).elim .inr λG=>.inl (OY (L5.1 G).2)) λb G=>by
   rcases Lc.1 G with G|G
   ·exact .inl (Lc.2 (.inl G))
   rcases hL b G with J|J
   ·exact .inl (Lc.2 (.inr (L5.2 ⟨G,OX J⟩)))
   exact(Y b J).imp (λh3=>Lc.2 (.inl h3)) id
  exact Mm.mono (Mm.st h1 (V.mono λb G=>Lc.2 (.inl G))) λb G=>Lc.2 (.inr G)
 refine⟨?_,λd hd=>?_⟩
 ·rw[Lk,Ly];simpa using S
 rcases Lc.1 hd with hd|hd
 ·exact mv d (h.each d hd)
 simp only[oJ]at hd;subst hd;exact mv d O
theorem Yh.lst (h:Yh g sz T E bs w v l)(I:l.length<=1099511627776)(H:∀b∈L,b<bs):XK g sz E L w.heap v l :=
 ⟨QB h.own I (λb G hbL=>oy (Qg h.own b G).1 (H b hbL)),λq J=>h.each q J L λb G=>.inl (H b G)⟩
end
instance:Mm Jg:=⟨Jg.st,Jg.up⟩
theorem VY (h:Jg L H q):∀u∈Qt q,u.oneCell'=true:=by
 intro u E;simp only[Qt,oL,oK,or_false]at E;rcases E with rfl|rfl|rfl|rfl|rfl|rfl|rfl|rfl|rfl
 ·rfl
 ·rfl
 ·exact h.a.al.one
 ·rfl
 ·exact h.a.mr.one
 ·exact h.a.ed.one
 ·exact h.ls.arr.one
 ·exact h.ts.arr.one
 rfl
abbrev Ju (base:Nat)(w:O1)(v:O2)(l:List DV):Prop:=Yh Qt 9 63 Jg base w v l
theorem Ju.dits {base:Nat}{v:O2}{l:List DV}(h:Ju base w v l)(E:l.length<=1099511627776)(G:∀b∈L,b<base):Ka L w.heap v l:=⟨(Yh.lst h E G).arr,(Yh.lst h E G).each⟩
theorem Kk {v:O2}{es:List DV}(h0:Ka L w.heap v es)(h2:es.length<=100000):
  QZ sV 96 [v] w λr w'=>sX w w'/\∃l:List DV,Ju ↑w w' r l/\l.map DV.it=es.map DV.it:=by
 have h:=h0.up (L':=[]) od;refine Zq func96 ?_;refine Qc<|Qb<|Qc<|Qb<|Qe<|Qj<|QF h.arr U<|Qa<|xe<|Q8 (α:=Nat×O2×List DV) [(3,3),(5,5),(8,17)] (λz=>[(3,z.2.1),(8,sS z.1)]) (λz w'=>z.1<=es.length/\sX w w'/\Ju ↑w w' z.2.1 z.2.2/\z.2.2.map DV.it=(es.take z.1).map DV.it) (λz=>es.length - z.1) (0,nS,[]) oB
  ⟨Ln _,O5.Z _ _,Yh.nil,U⟩ ?_
 rintro⟨k,vo,l⟩ g w1 ⟨hk,J,hR,G⟩;simp only[]at hk hR G;have h3:l.length=k:=by have:=OV oQ G;rw[Lh,Lh,LA]at this;omega
 refine Zn rfl U (λS=>?_) (λS=>?_)
 ·refine Qw ?_;have hh:es.length<=k:=by have hi:¬(k:Int)<(es.length:Int):=S;omega
  rw[Lt hh]at G;refine Qj<|Qb<|Qh ⟨[vo],La,J,l,hR,G⟩
 have E:k<es.length:=by have hi:(k:Int)<(es.length:Int):=S;omega
 have Y:es.take (k+1)=es.take k++[es[k]'E]:=Lm E;have ha:=Ll E;have h1:=h.I J;refine Qf<|Qe<|Qm<|Qc<|O8 (g:=Qt) (i:=k) Z0 h1.arr U U E λh4 hc=>?_;refine Zh (es[k]'E) λq hq=>?_;rw[hq]at hc Y ha;have he:=h1.each q ha;refine x (Qr hc U U)<|QM z9 λb5 w2 hj hl hn=>QI (Qt q) hn he.ones λw3 ho hp=>xe ?_;have H:sX w1 w3:=hj.O ho hl;have h5:=H.size;have h6:=J.size;refine Qs<|Qa<|QS hp U U<|Qz<|(KI (he.I H)).mono ?_;rintro r4 w4 ⟨T,I,rfl,hr,hf⟩;have h7:=T.size;have hs:=Q7 (hR.I H).own;refine Qn<|Za [Qt I] λht w5 O h8 hu=>?_;have hA:=O.size;have hv:At [] w5.heap ⟨ht,0,none⟩ (Qt I):=by have:=hu.at (L:=[]) od;simpa using this
 have hR5:=((hR.I H).I T).I O;refine Qn<|Ja (m:=1) (news:=Qt I) hR5.own U U U hv (VY (hf [] od)) oa oa λv6 w6 hw hg hy=>?_;refine Qb ?_;have hz:Ju ↑w w6 v6 (l++[I]):=hR5.app (λL hL=>(hf L (λb V=>by
  rcases hL b V with h|h
  ·omega
  exact hs b h)).I O) hw hg hy
 refine Qs<|QG U U<|Qa<|xe<|⟨(k+1,v6,l++[I]),by show es.length - (k+1)<es.length - k;omega,oB,E,((((J.D H).D T).D O).then hg λb V=>.inr (Qg hR.own b V).1),hz,?_⟩;simp only[];rw[Y,Lp,Lp,G,LG,LG,hr]
theorem Qdg {n:Nat}{u:LI}:∀{l:List XC}{s:List ByteArray},J1 n u s l=0->(l.map (·.nm)).Nodup/\∀x∈l,x.nm∉s
 | [],_,_=>⟨.nil,λx hx=>by cases hx⟩
 | y::l,s,h=>by
  rw[UB]at h;by_cases E:Yw n u s y≠0
  ·rw[OU E]at h;exact OW h E
  rw[OT E]at h;have G:Yw n u s y=0:=Lo.1 E;have J:y.nm∉s:=λH=>by
   unfold Yw at G;split at G
   ·exact OW G ol
   exact OW G ol
  obtain⟨O,I⟩:=Qdg h;refine⟨NA.2 ⟨λH=>?_,O⟩,λx hx=>?_⟩
  ·obtain⟨x,hx,e⟩:=LC.1 H;exact I x hx (by rw[e];simp)
  rcases Li.1 hx with rfl|hx
  ·exact J
  exact λH=>I x hx (Lc.2 (.inl H))
theorem Qf1 {s:List ByteArray}{n:ByteArray}(h:Ks s n=0):n∉s:=λE=>by
 unfold Ks at h;split at h
 ·exact OW h ol
 exact OW h ol
theorem QaL {sz:LI}:∀{l:List qu}{s:List ByteArray},Yy sz s l=0->(l.map (·.nm)).Nodup/\∀x∈l,x.nm∉s
 | [],_,_=>⟨.nil,λx hx=>by cases hx⟩
 | y::l,s,h=>by
  rw[Yy]at h;by_cases E:Ks s y.nm≠0
  ·rw[OU E]at h;exact OW h E
  rw[OT E]at h;by_cases G:Jp sz y.ls≠0
  ·rw[OU G]at h;exact OW h G
  rw[OT G]at h;obtain⟨J,I⟩:=QaL h;refine⟨NA.2 ⟨λH=>?_,J⟩,λx hx=>?_⟩
  ·obtain⟨x,hx,e⟩:=LC.1 H;exact I x hx (by rw[e];simp)
  rcases Li.1 hx with rfl|hx
  ·exact(Qf1 (Lo.1 E))
  exact λH=>I x hx (Lc.2 (.inl H))
theorem QaM {sz:LI}:∀{l:List xL}{s:List ByteArray},Xf sz s l=0->(l.map (·.nm)).Nodup/\∀x∈l,x.nm∉s
 | [],_,_=>⟨.nil,λx hx=>by cases hx⟩
 | y::l,s,h=>by
  rw[Xf]at h;by_cases E:Ks s y.nm≠0
  ·rw[OU E]at h;exact OW h E
  rw[OT E]at h;by_cases G:XJ sz y≠0
  ·rw[OU G]at h;exact OW h G
  rw[OT G]at h;obtain⟨J,I⟩:=QaM h;refine⟨NA.2 ⟨λH=>?_,J⟩,λx hx=>?_⟩
  ·obtain⟨x,hx,e⟩:=LC.1 H;exact I x hx (by rw[e];simp)
  rcases Li.1 hx with rfl|hx
  ·exact(Qf1 (Lo.1 E))
  exact λH=>I x hx (Lc.2 (.inl H))
theorem zW {c:ZF}{k:Int}{f:Nat->ByteArray}(E:∀(j:Nat) (co:LI),ZS c ⟨k,(j:Int),co⟩=(k,f j)):∀(l:LN) (i:Nat),(V9 k i l).map (ZS c)=(oS i l.length).map λj=>(k,f j)
 | [],_=>rfl
 | b::l,i=>by
  rw[V9,LG,zW E l (i+1),E,LT,M8,LG]
theorem yx (L:List α)(f:α->ByteArray)(d:α)(k:Int):((oS 0 L.length).map λj=>(k,f (L.getD j d)))=L.map λx=>(k,f x):=by
 apply Mu
 ·simp
 intro i H E;have G:i<L.length:=by simpa using E
 simp[oR,G]
theorem Qmd (c:ZF):(O9 c).map (ZS c)=c.rq.map (λx=>((1:Int),x.nm))++(c.ex.map (λx=>((2:Int),x.nm))++c.cs.map λx=>((3:Int),x.nm)):=by
 unfold O9;rw[Lp,Lp];rw[zW (f:=λj=>(c.rq.getD j ⟨.empty,Vo⟩).nm) (λj co=>rfl),zW (f:=λj=>(c.ex.getD j ⟨.empty,[]⟩).nm) (λj co=>rfl),zW (f:=λj=>(c.cs.getD j ⟨.empty,[],0⟩).nm) (λj co=>rfl)];have e1:(srR c).length=c.rq.length:=Lh _;have e2:(srX c).length=c.ex.length:=Lh _;have E:(srC c).length=c.cs.length:=Lh _;rw[e1,e2,E,yx c.rq (·.nm),yx c.ex (·.nm),yx c.cs (·.nm)]
theorem qI {k:Int}{f:α->ByteArray}{l:List α}(h:(l.map f).Nodup):(l.map λx=>(k,f x)).Nodup:=by
 have e:(l.map λx=>(k,f x))=(l.map f).map λn=>(k,n):=by rw[Ml];rfl
 rw[e];exact(MO.2 (h.imp λE e=>E (OV Prod.snd e)))
theorem QcK (h:Zj c=0):((O9 c).map (ZS c)).Nodup:=by
 unfold Zj at h;split at h
 ·rename_i E;exact OW h E
 split at h
 ·cases h
 split at h
 ·cases h
 split at h
 ·rename_i E;exact OW h E
 split at h
 ·rename_i E;exact OW h E
 rename_i I;unfold YE at h;split at h
 ·cases h
 split at h
 ·cases h
 split at h
 ·cases h
 split at h
 ·rename_i E;exact OW h E
 rename_i hx;rw[Qmd];refine MC.2 ⟨qI (Qdg (Lo.1 I)).1,MC.2 ⟨qI (QaL (Lo.1 hx)).1,qI (QaM h).1,λa H b G e=>?_⟩,λa H b G e=>?_⟩
 ·obtain⟨_,_,rfl⟩:=LC.1 H;obtain⟨_,_,rfl⟩:=LC.1 G;exact OW (OV Prod.fst e) (show(2:Int)≠3 by decide)
 obtain⟨_,_,rfl⟩:=LC.1 H;rcases Lc.1 G with G|G
 ·obtain⟨_,_,rfl⟩:=LC.1 G;exact OW (OV Prod.fst e) (show(1:Int)≠2 by decide)
 obtain⟨_,_,rfl⟩:=LC.1 G;exact OW (OV Prod.fst e) (show(1:Int)≠3 by decide)
theorem QpC (c:ZF)(bf:List xJ)(v:Int)(m:qt):(KO c bf v m).2.1.ky=ZS c m:=by
 unfold KO;split
 ·rfl
 split
 ·rename_i p E;split
  ·have:=List.find?_some E;simpa using this
  rfl
 rfl
structure UH {α:Type}(g:α->LV)(sz T:Nat)(E:LN->Array Obj->α->Prop)(L:LN)(base:Nat)(w:O1)(v:O2)(l:List α):Prop where
 own:w.ownsRow base T sz v l.length (l.flatMap g)
 each:∀q∈l,E (ob v++L) w.heap q
section
variable {g:α->LV}{E:LN->Array Obj->α->Prop}{bs:Nat}{v:O2}{l:List α}
theorem UH.nil:UH g sz T E L bs w (nS) []:=⟨QD _ _ _ _,λq G=>by cases G⟩
theorem UH.J [Mm E]{X:LN}(h:UH g sz T E L bs w v l)(H:O5 X w w')(I:∀b∈X,(b∈L\/↑w<=b)/\b∉ob v):UH g sz T E L bs w' v l :=
 ⟨Qd h.own H (λb G J=>(I b J).2 G),λq O=>Mm.J (h.each q O) H λb G=>(I b G).1.imp (λh=>Lc.2 (.inr h)) id⟩
theorem UH.I [Mm E](h:UH g sz T E L bs w v l)(G:sX w w'):UH g sz T E L bs w' v l:=h.J G (λ_ H=>by cases H)
theorem UH.app [Mm E]{H:O2}{I:O1}{q:α}(h:UH g sz T E L bs w v l)(J:E (ob v++L) w.heap q)
  (O:I.ownsRow bs T sz H (l.length+1) (l.flatMap g++g q)) (S:O5 (ob v) w I) (V:∀b∈ob H,b∈ob v\/↑w<=b):UH g sz T E L bs I H (l++[q]):=by
 have mv:∀d:α,E (ob v++L) w.heap d->E (ob H++L) I.heap d:=λd hd=>by
  have Y:E (ob v++(ob H++L)) w.heap d:=Mm.up hd λb G=>by
   rcases Lc.1 G with G|G
   ·exact .inl (Lc.2 (.inl G))
   rcases Lc.1 G with G|G
   ·exact(V b G).imp (λh3=>Lc.2 (.inl h3)) id
   exact .inl (Lc.2 (.inr G))
  exact Mm.mono (Mm.st Y (S.mono λb G=>Lc.2 (.inl G))) λb G=>Lc.2 (.inr G)
 refine⟨?_,λd hd=>?_⟩
 ·rw[Lk,Ly];simpa using O
 rcases Lc.1 hd with hd|hd
 ·exact mv d (h.each d hd)
 simp only[oJ]at hd;subst hd;exact mv d J
end
structure EnV where
 ky:Ky
 vr:Int
 p:AV
 vk:O2
 kp:LI
 vd:O2
 ds:LI
 vm:O2
 rm:List Q4
abbrev ZW (q:EnV):LV:=[sS q.ky.1,.string q.ky.2,sS q.vr,q.p.va,sS q.p.a.st,q.p.vm,q.p.ve,q.vk,q.vd,q.vm]
theorem Qj1 (q:EnV):(ZW q).length=10:=rfl
structure zH (L:LN)(H:xC)(q:EnV):Prop where
 a:ZM L H q.p.va q.p.vm q.p.ve q.p.a
 k:QL L H q.vk q.kp
 d:QL L H q.vd q.ds
 r:Zo L H q.vm q.rm.length 4 (q.rm.flatMap q4C)
theorem zH.st {L:LN}{w w':O1}{q:EnV}(h:zH L w.heap q)(G:O5 L w w'):zH L w'.heap q:=⟨h.a.st G,h.k.st G,h.d.st G,h.r.st G⟩
theorem zH.I {q:EnV}(h:zH L w.heap q)(G:sX w w'):zH L w'.heap q:=h.st G.any
theorem zH.up {L L':LN}{H:xC}{q:EnV}(h:zH L H q)(G:∀b∈L',b∈L\/H.size<=b):zH L' H q:=⟨h.a.up G,h.k.up G,h.d.up G,h.r.up G⟩
instance:Mm zH:=⟨zH.st,zH.up⟩
theorem zH.ones {q:EnV}(h:zH L H q):Zb (ZW q):=⟨U,U,U,h.a.al.one,U,h.a.mr.one,h.a.ed.one,h.k.one,h.d.one,h.r.one,Z⟩
structure Ent where
 ky:Ky
 vr:Int
 sp:Q6
 kp:LI
 ds:LI
 rm:List Q4
def EnV.en (q:EnV):Ent:=⟨q.ky,q.vr,q.p.a,q.kp,q.ds,q.rm⟩
def xJ.en (p:xJ):Ent:=⟨p.ky,p.vr,p.sp,p.kp,p.ds,p.rm⟩
structure V5 where
 e:EnV
 c:CL
abbrev Zp (q:V5):LV:=[sS q.e.ky.1,.string q.e.ky.2,sS q.e.vr,q.e.p.va,sS q.e.p.a.st,q.e.p.vm,q.e.p.ve,q.e.vk,q.e.vd,q.e.vm,q.c.ve,q.c.vc,q.c.vr,q.c.vx,q.c.vk]
theorem KY (q:V5):(Zp q).length=15:=rfl
def V5.pt (q:V5):xJ:=⟨q.e.ky,q.e.vr,q.e.p.a,q.e.kp,q.e.ds,q.e.rm,q.c.V⟩
structure V4 (L:LN)(H:xC)(q:V5):Prop where
 e:zH L H q.e
 c:ZH L H q.c
theorem V4.st {L:LN}{w w':O1}{q:V5}(h:V4 L w.heap q)(G:O5 L w w'):V4 L w'.heap q:=⟨h.e.st G,h.c.st G⟩
theorem V4.I {q:V5}(h:V4 L w.heap q)(G:sX w w'):V4 L w'.heap q:=h.st G.any
theorem V4.up {L L':LN}{H:xC}{q:V5}(h:V4 L H q)(G:∀b∈L',b∈L\/H.size<=b):V4 L' H q:=⟨h.e.up G,h.c.up G⟩
instance:Mm V4:=⟨V4.st,V4.up⟩
theorem V4.ones {q:V5}(h:V4 L H q):Zb (Zp q):=⟨U,U,U,h.e.a.al.one,U,h.e.a.mr.one,h.e.a.ed.one,h.e.k.one,h.e.d.one,h.e.r.one,h.c.ev.arr.one,h.c.co.arr.one,h.c.rq.arr.one,h.c.ex.arr.one,h.c.cs.arr.one,Z⟩
structure V3 where
 v1:O2
 k1:List Ky
 v2:O2
 k2:List Ky
 v3:O2
 k3:List Ky
def V3.rp (q:V3):Rp:=⟨q.k1,q.k2,q.k3⟩
abbrev Q0 (q:V3):LV:=[q.v1,q.v2,q.v3]
theorem Qbg (q:V3):(Q0 q).length=3:=rfl
abbrev Kys (L:LN)(H:xC)(v:O2)(l:List Ky):Prop:=Zo L H v l.length 2 (l.flatMap Xp)
structure Jr (L:LN)(H:xC)(q:V3):Prop where
 a1:Kys L H q.v1 q.k1
 a2:Kys L H q.v2 q.k2
 a3:Kys L H q.v3 q.k3
theorem Jr.st {L:LN}{w w':O1}{q:V3}(h:Jr L w.heap q)(G:O5 L w w'):Jr L w'.heap q:=⟨h.a1.st G,h.a2.st G,h.a3.st G⟩
theorem Jr.I {q:V3}(h:Jr L w.heap q)(G:sX w w'):Jr L w'.heap q:=h.st G.any
theorem Jr.up {L L':LN}{H:xC}{q:V3}(h:Jr L H q)(G:∀b∈L',b∈L\/H.size<=b):Jr L' H q:=⟨h.a1.up G,h.a2.up G,h.a3.up G⟩
instance:Mm Jr:=⟨Jr.st,Jr.up⟩
theorem Jr.ones {q:V3}(h:Jr L H q):Zb (Q0 q):=⟨h.a1.one,h.a2.one,h.a3.one,Z⟩
instance:Mm ZH:=⟨ZH.st,ZH.up⟩
theorem Qbw (l:List Ky):∀u∈l.flatMap Xp,u.oneCell'=true:=by
 intro u H;obtain⟨p,_,G⟩:=Mc.1 H;simp only[Xp,oL,oK,or_false]at G;rcases G with rfl|rfl <;> rfl
structure IvA (L:LN)(H:xC)(q:IV):Prop where
 a:ZM L H q.p.va q.p.vm q.p.ve q.p.a
 nm:JD q.nm
theorem IvA.st {L:LN}{w w':O1}{q:IV}(h:IvA L w.heap q)(E:O5 L w w'):IvA L w'.heap q:=⟨h.a.st E,h.nm⟩
theorem IvA.up {L L':LN}{H:xC}{q:IV}(h:IvA L H q)(E:∀b∈L',b∈L\/H.size<=b):IvA L' H q:=⟨h.a.up E,h.nm⟩
instance:Mm IvA:=⟨IvA.st,IvA.up⟩
theorem IvA.ones {q:IV}(h:IvA L H q):Zb (QK q):=⟨U,h.a.al.one,U,h.a.mr.one,h.a.ed.one,Z⟩
structure XvA (L:LN)(H:xC)(q:XV):Prop where
 l:jP L H q.v q.ls
 nm:JD q.nm
theorem XvA.st {L:LN}{w w':O1}{q:XV}(h:XvA L w.heap q)(E:O5 L w w'):XvA L w'.heap q:=⟨h.l.st E,h.nm⟩
theorem XvA.up {L L':LN}{H:xC}{q:XV}(h:XvA L H q)(E:∀b∈L',b∈L\/H.size<=b):XvA L' H q:=⟨h.l.up E,h.nm⟩
instance:Mm XvA:=⟨XvA.st,XvA.up⟩
structure KvA (L:LN)(H:xC)(q:KV):Prop where
 l:jP L H q.v q.ts
 nm:JD q.nm
theorem KvA.st {L:LN}{w w':O1}{q:KV}(h:KvA L w.heap q)(E:O5 L w w'):KvA L w'.heap q:=⟨h.l.st E,h.nm⟩
theorem KvA.up {L L':LN}{H:xC}{q:KV}(h:KvA L H q)(E:∀b∈L',b∈L\/H.size<=b):KvA L' H q:=⟨h.l.up E,h.nm⟩
instance:Mm KvA:=⟨KvA.st,KvA.up⟩
abbrev IvR (base:Nat)(w:O1)(v:O2)(l:List IV):Prop:=Yh QK 5 71 IvA base w v l
theorem IvR.itms {base:Nat}{v:O2}{l:List IV}(h:IvR base w v l)(G:l.length<=1099511627776)(H:∀b∈L,b<base):X3 L w.heap v l :=
 let z:=Yh.lst h G H;⟨z.arr,λq E=>(z.each q E).a,λq E=>(z.each q E).nm⟩
theorem QlY (l:List Q4):∀u∈l.flatMap q4C,u.oneCell'=true:=by
 intro u G;obtain⟨p,_,E⟩:=Mc.1 G;simp only[q4C,oL,oK,or_false]at E;rcases E with rfl|rfl|rfl|rfl <;> rfl
theorem Qeu (h0:ZM L w.heap va vm ve a):
  QZ sV 89 [.agg #[va,sS a.st,vm,ve]] w λr w'=>sX w w'/\JI ↑w w'.heap r a:=by
 have h:=h0.up (L':=[]) od;refine Zq func89 ?_;refine Qc<|Zl [va,sS a.st,vm,ve] λb1 w1 hq ht hk=>QM K3 λb2 H V hu hl=>xe ?_;have hn:=hq.D V;have Y:=h.I hn;have I:=hk.I V;have hv:=hk.lt;have hd:sX H { H with drawn:=H.drawn+1 }:=O5.C _ _
 refine Qe<|ZA [] [oE 0,oE 1,oE 3,oE 4,oE 5,oE 6,oE 8,oE 9,oF 2,oF 7,oF 10,oE 11,oF 12]<|p (QJ U)<|pq (λ_ G=>Ql (I.I G) U U)<|p (QJ U)<|pq (λ_ G=>Ql (I.I G) U U) <|
  p (QJ rfl)<|pq (λ_ G=>Ql (I.I G) U U)<|p (QJ U)<|pq (λ_ G=>Ql (I.I G) U U) <|
  pk<|xg<|(Z3 (Y.al.I hd)).mono ?_
 rintro ra w5 ⟨hr,hf⟩;have J:sX H w5:=hd.D hr;refine⟨J,?_⟩;refine pk<|xg<|(Z3 (Y.mr.I J)).mono ?_;rintro rm w6 ⟨ho,hg⟩;have O:=J.D ho;refine⟨O,?_⟩;refine pk<|xg<|(Vb (Y.ed.I O)).mono ?_;rintro re S ⟨hh,T⟩;have hi:=O.D hh;refine⟨hi,?_⟩;refine p (λ_=>Qv ⟨xM hf,U,xM hg,xM T,Z⟩)<|pkk<|JW [ra,sS a.st,rm,re] (hl.I hi) ⟨Qp hf,U,Qp hg,Qp T,Z⟩ λw8 hp hs=>pe ?_;refine Qh ⟨[.agg #[ra,sS a.st,rm,re]],⟨Yk hs,Z⟩,(hn.D hi).O hp oa,ra,rm,re,U,λL hL=>?_⟩;have hw:=V.size;have hy:=J.size;have hz:=O.size;have hj:∀b∈b2::L,b<H.heap.size:=λb E=>by
  rcases Li.1 E with rfl|E
  ·exact hl.lt
  have:=hL b E;omega
 have ha:QL (b2::L) S.heap ra a.al:=((Qq.ints hf h.al.le (λb E=>ov (hj b E))).I ho).I hh;have hm:QL (b2::L) S.heap rm a.mr:=(Qq.ints hg h.mr.le (λb E=>ov (hj b E))).I hh;have he:zJ (b2::L) S.heap re a.ed:=QB T h.ed.le (λb E hbL=>oy (Qg T b E).1 (hj b hbL));have hA:ZM (b2::L) S.heap ra rm re a:=⟨ha,hm,he⟩;exact(hA.st (hp.mono od)).up (λb E=>.inl (Lj _ E))
abbrev z10:LV:=[sS 0,.string .empty,sS 0,nS,sS 0,nS,nS,nS,nS,nS]
theorem Qpp {q:EnV}(h0:zH L w.heap q):
  QZ sV 53 [sT (ZW q)] w λr w'=>sX w w'/\∃q':EnV,r=sT (ZW q')/\q'.en=q.en/\∀L:LN,(∀b∈L,b<↑w)->zH L w'.heap q':=by
 have h:=h0.up (L':=[]) od;refine Zq func53 ?_;refine Qc<|Zl (ZW q) λb1 w1 h4 hq hi=>QM z10 λb2 w2 hj hK hs=>xe ?_;have hM:=hi.lt;have hN:=hs.lt;refine Qc<|QQ U<|x (Zd (us:=[q.vk,q.vd,q.vm]) (hi.I hj) U U U)<|QM [nS,nS,nS] λb3 w3 h5 h7 h8=>QI [q.vk,q.vd,q.vm] h8 ⟨h.k.one,h.d.one,h.r.one,Z⟩ λw4 h9 hA=>xe ?_;have T:sX w2 w4:=h5.O h9 h7;have ht:=(h4.D hj).D T;have hO:=T.size;have hu:=(hi.I hj).I T;refine Qc<|QQ U<|x (Zd (us:=[q.p.va,sS q.p.a.st,q.p.vm,q.p.ve]) hu U U U)<|Qz<|(Qeu (h.I ht).a).mono ?_;rintro _ w5 ⟨hl,xa,xm,H,rfl,hv⟩;have hP:=hl.size;have I:=(hv [] od);refine QQ rfl<|Qn<|YK (us:=[xa,sS q.p.a.st,xm,H]) (cs':=[sS q.ky.1,.string q.ky.2,sS q.vr,xa,sS q.p.a.st,xm,H,q.vk,q.vd,q.vm]) (hu.I hl) U U U od ⟨I.al.one,rfl,I.mr.one,I.ed.one,Z⟩ rfl λG hm hB=>xe ?_;have hn:O5 [b1] w4 G:=hl.any.Q hm;have hw:sX w G:=ht.O hn hq;have h6:=h.I hw;have hQ:=hm.size;have hC:b3∉[b1]:=oh
 have hy:b2∉[b1]:=oh
 have ho:=hA.J hn hC;have hd:sX G { G with drawn:=G.drawn+1 }:=O5.C _ _
 refine Qe<|ZA [] [oE 0,oE 1,oE 3,oE 4,oE 6,oE 7,oF 2,oF 5,oF 8,oE 9,oE 10,oF 11]<|p (QJ U)<|pq (λ_ J=>Ql (ho.I J) U U)<|p (QJ U)<|pq (λ_ J=>Ql (ho.I J) U U) <|
  p (QJ rfl)<|pq (λ_ J=>Ql (ho.I J) U U)<|pk<|xg<|(Z3 (h6.k.I hd)).mono ?_
 rintro rk w7 ⟨hD,V⟩;have Y:sX G w7:=hd.D hD;refine⟨Y,?_⟩;refine pk<|xg<|(Z3 (h6.d.I Y)).mono ?_;rintro rd w8 ⟨hz,he⟩;have hf:=Y.D hz;refine⟨hf,?_⟩;refine pk<|xg<|(Qkp (h6.r.I hf) (QlY q.rm)).mono ?_;rintro rr O ⟨hp,S⟩;have hg:=hf.D hp;refine⟨hg,?_⟩;refine p (λ_=>Qv ⟨xM V,xM he,xM S,Z⟩)<|p (QJ U)<|pkk<|YK (us:=[rk,rd,rr]) (cs':=[sS q.ky.1,.string q.ky.2,sS q.vr,xa,sS q.p.a.st,xm,H,rk,rd,rr]) (hB.I hg) U U U od ⟨Qp V,Qp he,Qp S,Z⟩ rfl λhF h1 hG=>pe ?_;have h2:O5 [b1] G hF:=hg.any.Q h1;have hH:Zb (ZW ⟨q.ky,q.vr,⟨xa,xm,H,q.p.a⟩,rk,q.kp,rd,q.ds,rr,q.rm⟩):=⟨U,U,U,I.al.one,U,I.mr.one,I.ed.one,Qp V,Qp he,Qp S,Z⟩;refine Qc<|QS hG U U<|QI (ZW ⟨q.ky,q.vr,⟨xa,xm,H,q.p.a⟩,rk,q.kp,rd,q.ds,rr,q.rm⟩) (((hs.I T).J hn hy).J h2 hy) hH λhR h3 hI=>xe ?_;refine Qh ⟨[sT (ZW ⟨q.ky,q.vr,⟨xa,xm,H,q.p.a⟩,rk,q.kp,rd,q.ds,rr,q.rm⟩)],⟨Yk hI,Z⟩,(hw.O h2 hq).O h3 oa,_,U,U,λL hL=>?_⟩;have e6:({ G with drawn:=G.drawn+1 }:O1).heap.size=G.heap.size:=rfl
 have hS:=Y.size;have hT:=hf.size;have hh:∀b∈b1::b2::L,b<w4.heap.size:=λb E=>by
  simp only[oL]at E;rcases E with rfl|rfl|E
  ·omega
  ·omega
  have:=hL b E;omega
 have ha:ZM (b1::b2::L) O.heap xa xm H q.p.a:=((hv (b1::b2::L) hh).st (hm.mono od)).I hg;have hk:QL (b1::b2::L) O.heap rk q.kp:=((Qq.ints V h.k.le (λb E=>ov (hh b E))).I hz).I hp;have hJ:QL (b1::b2::L) O.heap rd q.ds:=(Qq.ints he h.d.le (λb E=>ov (hh b E))).I hp;have hr:Zo (b1::b2::L) O.heap rr q.rm.length 4 (q.rm.flatMap q4C):=QB S h.r.le (λb E hbL=>oy (Qg S b E).1 (hh b hbL));have hE:zH (b1::b2::L) O.heap ⟨q.ky,q.vr,⟨xa,xm,H,q.p.a⟩,rk,q.kp,rd,q.ds,rr,q.rm⟩:=⟨ha,hk,hJ,hr⟩;exact((hE.st (h1.mono od)).st (h3.mono od)).up (λb E=>.inl (by simp[E]))
theorem Qkg {q:V3}(h0:Jr L w.heap q):
  QZ sV 49 [sT (Q0 q)] w λr w'=>sX w w'/\∃q':V3,r=sT (Q0 q')/\q'.rp=q.rp/\∀L:LN,(∀b∈L,b<↑w)->Jr L w'.heap q':=by
 have h:=h0.up (L':=[]) od;refine Zq func49 ?_;refine Qc<|Zl (Q0 q) λb1 w1 hj hs hp=>QM [nS,nS,nS] λb2 G Y ht hk=>xe ?_;have hl:=hj.D Y;have h2:=h.I hl;have hf:=hp.I Y;have hu:=hj.size;have hv:=Y.size;have hd:sX G { G with drawn:=G.drawn+1 }:=O5.C _ _
 refine Qe<|ZA [] [oE 0,oE 1,oE 3,oE 4,oE 6,oE 7,oF 2,oF 5,oF 8,oE 9,oF 10]<|p (QJ U)<|pq (λ_ H=>Ql (hf.I H) U U)<|p (QJ U)<|pq (λ_ H=>Ql (hf.I H) U U) <|
  p (QJ rfl)<|pq (λ_ H=>Ql (hf.I H) U U)<|pk<|xg<|(jj (h2.a1.I hd) (Qbw q.k1)).mono ?_
 rintro ra w5 ⟨hq,I⟩;have J:sX G w5:=hd.D hq;refine⟨J,?_⟩;refine pk<|xg<|(jj (h2.a2.I J) (Qbw q.k2)).mono ?_;rintro rm w6 ⟨hn,O⟩;have S:=J.D hn;refine⟨S,?_⟩;refine pk<|xg<|(jj (h2.a3.I S) (Qbw q.k3)).mono ?_;rintro re T ⟨hg,V⟩;have hh:=S.D hg;refine⟨hh,?_⟩;refine p (λ_=>Qv ⟨xM I,xM O,xM V,Z⟩)<|pkk<|JW [ra,rm,re] (hk.I hh) ⟨Qp I,Qp O,Qp V,Z⟩ λw8 ho hr=>pe ?_;refine Qh ⟨[sT (Q0 ⟨ra,q.k1,rm,q.k2,re,q.k3⟩)],⟨Yk hr,Z⟩,(hl.D hh).O ho oa,_,U,U,λL hL=>?_⟩;have e1:({ G with drawn:=G.drawn+1 }:O1).heap.size=G.heap.size:=rfl
 have hw:=J.size;have hy:=S.size;have hi:∀b∈b2::L,b<G.heap.size:=λb E=>by
  rcases Li.1 E with rfl|E
  ·exact hk.lt
  have:=hL b E;omega
 have ha:Kys (b2::L) T.heap ra q.k1:=((QB I h.a1.le (λb E hbL=>oy (Qg I b E).1 (hi b hbL)):Kys (b2::L) w5.heap ra q.k1).I hn).I hg;have hm:Kys (b2::L) T.heap rm q.k2:=(QB O h.a2.le (λb E hbL=>oy (Qg O b E).1 (hi b hbL)):Kys (b2::L) w6.heap rm q.k2).I hg;have he:Kys (b2::L) T.heap re q.k3:=QB V h.a3.le (λb E hbL=>oy (Qg V b E).1 (hi b hbL));have hA:Jr (b2::L) T.heap ⟨ra,q.k1,rm,q.k2,re,q.k3⟩:=⟨ha,hm,he⟩;exact(hA.st (ho.mono od)).up (λb E=>.inl (Lj _ E))
theorem Qji {c:CL}{q:MV}(h0:ZH L w.heap c)(hq:0<=q.ix)(hk:q.kd=1\/q.kd=2\/q.kd=3)(hr:q.kd=1->q.ix<(c.rq.length:Int))(hx:q.kd=2->q.ix<(c.ex.length:Int))(hs:q.kd=3->q.ix<(c.cs.length:Int)):
  QZ sV 93 [c.val,.agg #[sS q.kd,sS q.ix,q.v]] w λr w'=>r=.agg #[sS (ZS c.V q.m).1,.string (ZS c.V q.m).2]/\sX w w':=by
 have hb:((q.ix.toNat:Nat):Int)=q.ix:=Int.toNat_of_nonneg hq;refine Zq func93 ?_;refine Qc<|Zl c.cells λb2 w1 hl h3 ht=>Zl [sS q.kd,sS q.ix,q.v] λb3 w2 hc h4 hm=>QM [sS 0,.string .empty] λb4 w3 T h6 hn=>xe ?_;refine Qc<|Qo U (hm.I T) U U<|x (Qv ⟨U,Z⟩)<|QM [sS 0,.string .empty] λb5 w4 hu hv hw=>QI [sS q.kd,.string .empty] hw oB λw5 hy he=>xe ?_;have V:sX w3 w5:=hu.O hy hv;have ho:=((hl.D hc).D T).D V;have hf:=((ht.I hc).I T).I V;have Y:=(hm.I T).I V;have hg:=hn.I V;have h7:=hn.lt;have hh:b4∉[b5]:=oh
 have h8:=hl.size;have h9:=hc.size;have h5:=(h0.up (L':=[]) od).I ho;have fin:∀(nm:ByteArray) (I w8:O1),(ZS c.V q.m)=(q.kd,nm)->O5 [b5] w5 I->QY I.heap b5 75 [sS q.kd,.string nm]->O5 [b4] I w8->(Value.agg #[sS q.kd,.string nm]=.agg #[sS (ZS c.V q.m).1,.string (ZS c.V q.m).2]/\sX w w8):=λnm I w8 e hz _ h1 =>
  ⟨by rw[e],(ho.O hz oa).O h1 oa⟩
 refine Qe<|Qc<|Qo U Y U U<|xe<|Qm<|Qc<|x (QT U U)<|Qb<|QO U (λhi=>?_) (λhi=>?_)
 ·have hk1:q.kd=1:=hi;have E:q.ix.toNat<c.rq.length:=by have:=hr hk1;omega
  refine Qs<|Qo U hf U U<|Qo U Y U U<|O8 (g:=QK) (i:=q.ix.toNat) Ys h5.rq.arr U (show Go.Lg.ev _ _=_ from OV sS hb.symm) E λhp J =>
   x (Zf rfl)<|x (Qy (J.fld 0 (.string (c.rq[q.ix.toNat]'E).nm) U) U)<|QQ U<|Qn<|Qu (j:=1) (u:=.string (c.rq[q.ix.toNat]'E).nm) he U U od rfl λw6 G H=>xe ?_
  refine Qc<|QS H U U<|Qn<|Zv (us:=[sS q.kd,.string (c.rq[q.ix.toNat]'E).nm]) (hg.J G hh) U U U U oB λI O S=>xe ?_;refine Qh ⟨[.agg #[sS q.kd,.string (c.rq[q.ix.toNat]'E).nm]],⟨Yk S,Z⟩,fin _ _ _ ?_ G H O⟩;unfold ZS;rw[OU (show q.m.kd=1 from hk1)];refine Prod.ext U ?_;show((c.rq.map IV.it).getD q.ix.toNat ⟨.empty,Vo⟩).nm=_;simp[oR,E,IV.it]
 have hk1:¬q.kd=1:=hi;refine Qc<|x (QT U U)<|Qb<|QO U (λhj=>?_) (λhj=>?_)
 ·have ha:q.kd=2:=hj;have E:q.ix.toNat<c.ex.length:=by have:=hx ha;omega
  refine Qs<|Qo U hf U U<|Qo U Y U U<|O8 (g:=Q3) (i:=q.ix.toNat) Xw h5.ex.arr U (show Go.Lg.ev _ _=_ from OV sS hb.symm) E λhp J =>
   x (Zf rfl)<|x (Qy (J.fld 0 (.string (c.ex[q.ix.toNat]'E).nm) U) U)<|QQ U<|Qn<|Qu (j:=1) (u:=.string (c.ex[q.ix.toNat]'E).nm) he U U od rfl λw6 G H=>xe ?_
  refine Qc<|QS H U U<|Qn<|Zv (us:=[sS q.kd,.string (c.ex[q.ix.toNat]'E).nm]) (hg.J G hh) U U U U oB λI O S=>xe ?_;refine Qh ⟨[.agg #[sS q.kd,.string (c.ex[q.ix.toNat]'E).nm]],⟨Yk S,Z⟩,fin _ _ _ ?_ G H O⟩;unfold ZS;rw[OT (show ¬q.m.kd=1 from hk1),OU (show q.m.kd=2 from ha)];refine Prod.ext U ?_;show((c.ex.map XV.x).getD q.ix.toNat ⟨.empty,[]⟩).nm=_;simp[oR,E,XV.x]
 have ha:¬q.kd=2:=hj;have h2:q.kd=3:=oa
 have E:q.ix.toNat<c.cs.length:=by have:=hs h2;omega
 refine Qs<|Qo U hf U U<|Qo U Y U U<|O8 (g:=Q9) (i:=q.ix.toNat) Xq h5.cs.arr U (show Go.Lg.ev _ _=_ from OV sS hb.symm) E λhp J =>
  x (Zf rfl)<|x (Qy (J.fld 0 (.string (c.cs[q.ix.toNat]'E).nm) U) U)<|QQ U<|Qn<|Qu (j:=1) (u:=.string (c.cs[q.ix.toNat]'E).nm) he U U od rfl λw6 G H=>xe ?_
 refine Qc<|QS H U U<|Qn<|Zv (us:=[sS q.kd,.string (c.cs[q.ix.toNat]'E).nm]) (hg.J G hh) U U U U oB λI O S=>xe ?_;refine Qh ⟨[.agg #[sS q.kd,.string (c.cs[q.ix.toNat]'E).nm]],⟨Yk S,Z⟩,fin _ _ _ ?_ G H O⟩;unfold ZS;rw[OT (show ¬q.m.kd=1 from hk1),OT (show ¬q.m.kd=2 from ha)];refine Prod.ext U ?_;show((c.cs.map KV.k).getD q.ix.toNat ⟨.empty,[],0⟩).nm=_;simp[oR,E,KV.k]
theorem Qge {v:O2}{a:Addr}(h:Zo L H v n sz cs)(e:v=.slice (some a) n cap):At L H a cs:=by
 rcases h.2.2 with⟨E,_⟩|⟨a',cap',E,_,G⟩
 ·rw[E]at e;cases e
 rw[E]at e;simp only[Value.slice.injEq,Option.some.injEq]at e;rw[<-e.1];exact G
section
variable {Q:Exit->Fr->O1->Prop}
end
section
variable {pS:String}
theorem QgG {e bys:Nat}[h:Sl P t e sz bys z]{x E H:O3}{k:IntKind}{m:Nat}(hx:ev f x=sL b n cap)(I:ev f E=.int k lo)(J:ev f G=.int k hi)(O:ev f H=.int k m)(h1:lo<=hi)(h2:hi<=m)(h3:m<=cap):
  (execOp (ev f) ⟨d,.slice t x (some E) (some G) (some H),ty,pS,af,gd⟩).run P w=.ok (.value (.slice (if m=lo then some ⟨b,0,none⟩else some ((⟨b,0,none⟩:Addr).add (lo*sz))) (hi - lo) (m - lo))) w:=by
 obtain⟨i,S,_,T,_⟩:=Sl.info h;have e1:(Instr.sliceBound (.int k m) cap .slice3Acap).run P w=.ok m w:=ZP h3;have e2:(Instr.sliceBound (.int k hi) m .slice3B).run P w=.ok hi w:=ZP h2;have V:(Instr.sliceBound (.int k lo) hi .slice3C).run P w=.ok lo w:=ZP h1;by_cases Y:m=lo
 ·subst Y;simp[execOp,hx,I,J,O,Instr.sliceAt,Instr.slice,run_underlying h.u,Instr.sliceBounds,e1,e2,V,sizeOf,typeInfo,S,T]
 simp[execOp,hx,I,J,O,Instr.sliceAt,Instr.slice,run_underlying h.u,Instr.sliceBounds,e1,e2,V,sizeOf,typeInfo,S,T,Y]
theorem QgF {e bys:Nat}[h:Sl P t e sz bys z]{x E:O3}{k:IntKind}(hx:ev f x=sL b n cap)(H:ev f E=.int k lo)(I:ev f G=.int k hi)(J:lo<=hi)(O:hi<=cap)(Y:lo<cap):
  (execOp (ev f) ⟨d,.slice t x (some E) (some G) none,ty,pS,af,gd⟩).run P w=.ok (.value (.slice (some ⟨b,lo*sz,none⟩) (hi - lo) (cap - lo))) w:=by
 obtain⟨i,S,_,T,_⟩:=Sl.info h;have e1:(Instr.sliceBound (.int k hi) cap .sliceAcap).run P w=.ok hi w:=ZP O;have e2:(Instr.sliceBound (.int k lo) hi .sliceB).run P w=.ok lo w:=ZP J;have V:¬cap=lo:=oa
 simp[execOp,hx,H,I,Instr.sliceAt,Instr.slice,run_underlying h.u,Instr.sliceBounds,e1,e2,sizeOf,typeInfo,S,T,V,Addr.add];exact λe=>e.symm
theorem Qou {e bys:Nat}[h:Sl P t e sz bys z]{s:O3}{cur:LV}(H:QY w.heap g e cur)(O:ev f s=sL g n cap)(S:cur.length=cap*sz)
  {a:Addr} {m c:Nat}  (T:ev f y=.slice (some a) m c) (I:news.length=m*sz)  (V:At L w.heap a news) (Y:∀u∈news,u.oneCell'=true) (J:n+m<=cap)
  (hK:∀w',O5 [g] w w'->QY w'.heap g e (cur.take (n*sz)++news++cur.drop (n*sz+news.length))->K (QN f d (sL g (n+m) cap)) w'):
  XO P ⟨d,.call ⟨.builtin .append,#[s,y],#[t,t]⟩,ty,pS,af,gd⟩ f w K:=by
 obtain⟨i,hi,hz,E,hc⟩:=Sl.info h;have ha:n*i.size+news.length<=cur.toArray.size:=by
  rw[LQ,S,I,E,<-Mt];exact LY _ J
 have G:=run_append_room (P:=P) w t ty e i h.u hi g n cap cur.toArray H a m c news (by rw[E];exact I) V.cells Y J ha;rw[E]at G;have hb:(execOp (ev f) ⟨d,.call ⟨.builtin .append,#[s,y],#[t,t]⟩,ty,pS,af,gd⟩).run P w=.ok (.value (sL g (n+m) cap)) (w.setRow g (cur.take (n*sz)++news++cur.drop (n*sz+news.length)).toArray):=by
  simp[execOp,resolve,invoke,builtin,O,T]at G ⊢;simp[G]
 exact xv hb (hK _ (O5.setRow _ _ _) (X7 H))
end
theorem QnG {pS:String}[h1:X6 P t]{x:O3}{base k:Nat}{u:O2}
  (h:w.ownsRow base T sz (sL g n cap) n cs) (hx:ev f x=.pointer (some ⟨g,k,none⟩)) (G:ev f y=u) (Y:k<n*sz) (H:u.oneCell'=true)
  (hK:∀w',O5 [g] w w'->w'.ownsRow base T sz (sL g n cap) n (cs.set k u)->K (QN f d undef) w'):XO P ⟨d,.store t x y,ty,pS,af,gd⟩ f w K:=by
 obtain⟨I,cur,J,O,E⟩:=JB h;have ha:n*sz<=cap*sz:=LY _ I;refine Qu (j:=k) J hx G oa H λw' S V=>hK w' S ?_;refine VT h (Lv _) V (by rw[L9];exact O) ?_ (by rw[L9,<-E,LA];omega);rw[List.take_set,E]
def Fre {α:Type}(E:LN->Array Obj->α->Prop)(M:Nat)(H:xC)(q:α):Prop:=∀L:LN,(∀b∈L,b<M)->E L H q
theorem Fre.low {E:LN->Array Obj->α->Prop}[Mm E]{q:α}(h:Fre E M w.heap q)(H:O5 X w w')(I:∀b∈X,b<M):Fre E M w'.heap q:=λL J =>
 Mm.mono (Mm.st (L:=X++L) (h _ λb G=>(Lc.1 G).elim (I b) (J b)) (H.mono λ_ G=>Lc.2 (.inl G))) λ_ G=>Lc.2 (.inr G)
theorem Fre.I {E:LN->Array Obj->α->Prop}[Mm E]{q:α}(h:Fre E M w.heap q)(G:sX w w'):Fre E M w'.heap q:=h.low G λ_ H=>by cases H
theorem QhU {q:XV}(h:q.v.oneCell'=true):∀u∈Q3 q,u.oneCell'=true:=by
 intro u E;simp only[Q3,oL,oK,or_false]at E;rcases E with rfl|rfl
 ·rfl
 exact h
theorem Qjg {q:KV}(h:q.v.oneCell'=true):∀u∈Q9 q,u.oneCell'=true:=by
 intro u E;simp only[Q9,oL,oK,or_false]at E;rcases E with rfl|rfl|rfl
 ·rfl
 ·exact h
 rfl
theorem yZ {α:Type}{g:α->LV}{sz:Nat}(G:∀x,(g x).length=sz):∀(l:List α) (i j:Nat) (u:O2) (E:α) (h:i<l.length),j<sz->g E=(g (l[i]'h)).set j u->(l.flatMap g).set (i*sz+j) u=(l.set i E).flatMap g
 | [],i,_,_,_,h,_,_=>by simp at h
 | a::l,0,j,u,E,h,H,e=>by
  have I:g E=(g a).set j u:=e;rw[OP,LS,List.set_cons_zero,LK,LK,List.set_append_left _ _ (by rw[G a];exact H),I]
 | a::l,i+1,j,u,E,h,H,e=>by
  have J:(i+1)*sz+j=(g a).length+(i*sz+j):=by rw[G a,Nat.succ_mul];omega
  rw[J,NP,LK,LK,List.set_append_right _ _ oa,MK,yZ G l i j u E (oA h) H e]
theorem yJ {f:α->β}{l:List α}(hi:i<l.length){q:α}(h:f q=f (l[i]'hi)):(l.set i q).map f=l.map f:=by
 rw[OQ,h];have:f (l[i]'hi)=(l.map f)[i]'(by rw[Lh];exact hi):=by rw[Mq]
 rw[this,List.set_getElem_self]
structure CpI (N:Nat)(w':O1)(c:CL)(b3:Nat)(re rx rk:O2):Prop where
 b:N<=b3
 B:QY w'.heap b3 44 [re,nS,nS,rx,rk]
 e:w'.ownsRow N 183 5 re c.ev.length (c.ev.flatMap Zt)
 x:w'.ownsRow N 116 2 rx c.ex.length (c.ex.flatMap Q3)
 k:w'.ownsRow N 121 3 rk c.cs.length (c.cs.flatMap Q9)
 d1:∀b∈ob re,b≠b3/\b∉ob rx/\b∉ob rk
 d2:∀b∈ob rx,b≠b3/\b∉ob rk
 d3:∀b∈ob rk,b≠b3
theorem Qpq {c:CL}(h0:ZH L w.heap c)(hn1:c.co.length<=1000)(hn2:c.rq.length<=1000):
  QZ sV 44 [c.val] w λr w'=>sX w w'/\QeQ ↑w w'.heap r c.V:=by
 have h:=h0.up (L':=[]) od;have m5:=h.ex.arr.le;have m6:=h.cs.arr.le;have m7:=h.ev.arr.le;refine Zq func44 ?_;refine Qc<|Zl c.cells λb1 w1 m8 hb1 kz=>QM Z8 λb2 w2 k0 hb2 k4=>xe ?_;have k5:=m8.D k0;have hl1:=kz.lt;have m9:=k4.lt;have h2:=h.I k5;have gc:=kz.I k0;have pa:sX w2 { w2 with drawn:=w2.drawn+1 }:=O5.C _ _
 have pc:∀u∈c.ex.flatMap Q3,u.oneCell'=true:=λu hu=>by
  obtain⟨q,S,hu⟩:=Mc.1 hu;exact QhU (h.ex.each q S).one u hu
 have pd:∀u∈c.cs.flatMap Q9,u.oneCell'=true:=λu hu=>by
  obtain⟨q,S,hu⟩:=Mc.1 hu;exact Qjg (h.cs.each q S).one u hu
 refine QX (α:=Nat×O2×O2×O2) [(10,19),(3,3)] (λz=>[(3,.pointer (some ⟨z.1,0,none⟩))]) (λz w'=>sX w2 w'/\CpI ↑w2 w' c z.1 z.2.1 z.2.2.1 z.2.2.2) om ?_ ?_
 ·refine Jf (α:=O2×O2×O2) (sX w2) [oE 0,oE 1,oE 3,oE 4,oE 6,oE 7] [oF 2,oF 5,oF 8,oE 9] 10 3 [oF 11] []
   [(10,19)] [(12,12),(15,15),(18,19)] (λz=>[(19,.agg #[z.1,nS,nS,z.2.1,z.2.2])])
   (λz own w'=>(w'.ownsRow ↑w2 183 5 z.1 c.ev.length (c.ev.flatMap Zt)/\w'.ownsRow ↑w2 116 2 z.2.1 c.ex.length (c.ex.flatMap Q3)/\w'.ownsRow ↑w2 121 3 z.2.2 c.cs.length (c.cs.flatMap Q9)) /\
    (∀b∈ob z.1,b∈own/\b∉ob z.2.1/\b∉ob z.2.2)/\(∀b∈ob z.2.1,b∈own/\b∉ob z.2.2)/\∀b∈ob z.2.2,b∈own)
   (λv w'=>∃b,v=sP b/\↑w2<=b/\QY w'.heap b 44 Z8) mixed om oe om U pa od ?_ ?_ ?_ ?_
  ·rintro v own wa wb ⟨b,rfl,E,hB⟩ hs hn;exact⟨b,U,E,hB.J hs (hn b ou)⟩
  ·rintro z own wa wb ⟨⟨h1,h2,h3⟩,h4⟩ hs;exact⟨⟨Qk h1 hs,Qk h2 hs,Qk h3 hs⟩,h4⟩
  ·rintro⟨re,rx,rk⟩ g own wz v ⟨⟨i1,i2,i3⟩,i4,i5,i6⟩ pf ⟨O,rfl,k6,pg⟩ ph;simp only[]at i1 i2 i3 i4 i5 i6;have gg:=(ph O ou).1;refine pkk<|JW [re,nS,nS,rx,rk] pg ⟨Qp i1,U,U,Qp i2,Qp i3,Z⟩ λw8 h8 pj=>pe ?_;have nn:∀b,b∈own->b∉[O]:=λb E H=>gg (by rw[<-Lb.1 H];exact E);refine⟨(O,re,rx,rk),La,pf.O h8 k6,k6,pj,Qd i1 h8 (λb E=>nn b (i4 b E).1),Qd i2 h8 (λb E=>nn b (i5 b E).1),Qd i3 h8 (λb E=>nn b (i6 b E)),λb E=>⟨λe=>gg (by rw[show O=b from e.symm];exact(i4 b E).1),(i4 b E).2⟩,λb E=>⟨λe=>gg (by rw[show O=b from e.symm];exact(i5 b E).1),(i5 b E).2⟩,λb E e=>gg (by rw[show O=b from e.symm];exact i6 b E)⟩
  refine p (QJ U)<|pq (λ_ I=>Ql (gc.I I) U U)<|p (QJ U)<|pq (λ_ I=>Ql (gc.I I) U U) <|
   p (QJ rfl)<|pq (λ_ I=>Ql (gc.I I) U U)<|pe ⟨λg wf pm=>flA Z8 pm,?_⟩
  refine f2k λx1 p1 c1=>xg<|(Uz (h2.ev.I c1).arr).mono ?_;rintro re y1 ⟨k7,gq⟩;refine⟨c1.D k7,Uq ↑x1 ↑y1,k7.any,λb E=>.inr (Zw.1 E),?_⟩;refine f2k λx2 p2 c2=>xg<|(Qkq (h2.ex.I c2).arr pc).mono ?_;rintro rx y2 ⟨gh,gr⟩;refine⟨c2.D gh,Uq ↑x1 ↑y1++Uq ↑x2 ↑y2,gh.any,λb E=>(Lc.1 E).imp id λE=>Zw.1 E,?_⟩;refine f2k λx3 p3 c3=>xg<|(Qkt (h2.cs.I c3).arr pd).mono ?_;rintro rk y3 ⟨gi,gs⟩;refine⟨c3.D gi,(Uq ↑x1 ↑y1++Uq ↑x2 ↑y2)++Uq ↑x3 ↑y3,gi.any,λb E=>(Lc.1 E).imp id λE=>Zw.1 E,?_⟩;refine Ui (λ_=>Qv ⟨xM gq,xM gr,xM gs,Z⟩)<|f2e ?_;have e1:=c1.size;have e2:=c2.size;have e3:=c3.size;have e12:=p2.size;have e23:=p3.size;have g1:=Qg gq;have g2:=Qg gr;have g3:=Qg gs;have f2:=gh.size;refine⟨(re,rx,rk),La,⟨Zz (Qk (Qk (Qk (Qk gq p2) gh) p3) gi) e1,Zz (Qk (Qk gr p3) gi) e2,Zz gs e3⟩,λb E=>⟨?_,λH=>?_,λH=>?_⟩,λb E=>⟨?_,λH=>?_⟩,λb E=>?_⟩
  ·exact Lc.2 (.inl (Lc.2 (.inl (Zw.2 (g1 b E)))))
  ·have:=g1 b E;have:=g2 b H;omega
  ·have:=g1 b E;have:=g3 b H;omega
  ·exact Lc.2 (.inl (Lc.2 (.inr (Zw.2 (g2 b E)))))
  ·have:=g2 b E;have:=g3 b H;omega
  exact Lc.2 (.inr (Zw.2 (g3 b E)))
 rintro⟨O,re,rx,rk⟩ g w3 ⟨gj,T⟩;simp only[]at T;have gt:=k5.D gj;have h3:=h.I gt;have k8:=gc.I gj;have hz3:=gj.size;have k9:=T.B.lt;have gu:=Qg T.x;have gv:=Qg T.k;have pn:b1≠O:=by have:=T.b;omega
 have ma:b2≠O:=by have:=T.b;omega
 have mf:∀b∈O::(ob rx++ob rk),↑w<=b/\b<w3.heap.size:=λb E=>by
  rcases Li.1 E with rfl|E
  ·exact⟨ov T.b,k9⟩
  rcases Lc.1 E with E|E
  ·have:=gu b E;omega
  have:=gv b E;omega
 have mg:ZH (O::(ob rx++ob rk)) w3.heap c:=(h0.up (λb E=>.inr (mf b E).1)).I gt;have gw:∀b∈ob rx,b<w3.heap.size:=λb E=>(gu b E).2;have gk:∀b∈ob rk,b<w3.heap.size:=λb E=>(gv b E).2;have m3x:O∉ob rx:=λE=>(T.d2 O E).1 U;have m3k:O∉ob rk:=λE=>T.d3 O E U;refine Qe<|Qc<|Qo U k8 U U<|QF h3.co.arr U<|Qa<|xe<|Q8 (α:=Nat×O2×List IV) [(5,5),(23,38)] (λz=>[(23,sS z.1)]) (λz w'=>z.1<=c.co.length/\O5 [O] w3 w'/\QY w'.heap O 44 [re,z.2.1,nS,rx,rk]/\IvR ↑w3 w' z.2.1 z.2.2/\z.2.2.map IV.it=(c.co.take z.1).map IV.it) (λz=>c.co.length - z.1) (0,nS,[]) La ⟨Ln _,O5.Z _ _,T.B,Yh.nil,U⟩ ?_;rintro⟨i,voA,lA⟩ g w4 ⟨mh,hg,gy,gl,hF⟩;simp only[]at mh gy gl hF;refine Zn rfl U (λgm=>?_) (λgm=>?_)
 rotate_left
 ·have J:i<c.co.length:=by have hM:(i:Int)<(c.co.length:Int):=gm;omega
  have hN:c.co.take (i+1)=c.co.take i++[c.co[i]'J]:=Lm J;have po:lA.length=i:=by have:=OV oQ hF;rw[Lh,Lh,LA]at this;omega
  have V:=Ll J;have h4:=mg.st (hg.mono od);have gz:=hg.size;refine Qf<|Qe<|Qm<|Qc<|O8 (g:=QK) (i:=i) Ys h4.co.arr U U J λpp hO=>?_;refine Zh (c.co[i]'J) λq S=>?_;rw[S]at hO hN V;have hp:=h4.co.each q V;have hP:=h4.co.nm q V;refine x (Qr hO U U)<|QM [.string .empty,nS,sS 0,nS,nS] λb5 pu g0 g4 g5=>QI (QK q) g5 ⟨U,hp.al.one,U,hp.mr.one,hp.ed.one,Z⟩ λY g6 hQ=>xe ?_;have hh:sX w4 Y:=g0.O g6 g4;have pw:=hh.size;have hR:=gl.I hh;have hS:=gy.I hh;have hge:=Qg hR.own;have hT:=Qg gl.own;have n3v:O∉ob voA:=λE=>ov (hge O E)
  have n5v:b5∉ob voA:=λE=>ov (hT b5 E)
  have hU:sX Y { Y with drawn:=Y.drawn+1 }:=O5.C _ _
  refine ZA (ob voA) (YX 0 12 [6,8,9,11])<|p (QJ U)<|pq (λ_ I=>Ql (hS.J I n3v) U U)<|p (QJ U)<|pq (λ_ I=>Ql (hQ.J I n5v) U U) <|
   p (QJ rfl)<|pq (λ_ I=>Zd (us:=[q.p.va,sS q.p.a.st,q.p.vm,q.p.ve]) (hQ.J I n5v) U U U)<|pk<|xg<|(Qeu ((hp.I hh).I hU)).mono ?_
  rintro _ pz ⟨g7,xa,xm,ha,rfl,hA⟩;have hr:=hU.D g7;have p0:=hr.size;have g8:=hA [] od;refine⟨hr.any,?_⟩;refine p (λ_=>Q5 [(0,[.string q.nm]),(1,[xa,sS q.p.a.st,xm,ha])] ⟨U,U,U,U,Z⟩)<|pk<|Za [QK ⟨q.nm,⟨xa,xm,ha,q.p.a⟩⟩] λp4 g9 ht p5 ka=>⟨(hr.D ht).any,?_⟩;have hi:=hr.D ht;have hV:=hR.I hi;have kb:IvA [] g9.heap ⟨q.nm,⟨xa,xm,ha,q.p.a⟩⟩:=⟨g8.I ht,hP⟩;refine pk<|Q2 (m:=1) (news:=QK ⟨q.nm,⟨xa,xm,ha,q.p.a⟩⟩) (L:=[]) hV.own U U U (ka.at od) (Zb.all kb.ones) oa (ov hi.size) λv16 kc hW hv ke=>⟨(hi.any (L:=ob voA)).Q hv,?_⟩;have p6:({ Y with drawn:=Y.drawn+1 }:O1).heap.size=Y.heap.size:=rfl
  have kf:IvR ↑w3 kc v16 (lA++[⟨q.nm,⟨xa,xm,ha,q.p.a⟩⟩]):=hV.app (λL hL=>⟨(hA L (λb E=>by
   rcases hL b E with h|h
   ·omega
   have:=hge b h;omega)).I ht,hP⟩) hW hv ke
  refine p (QJ U)<|pkk<|Qu (j:=1) (u:=v16) ((hS.I hi).J hv n3v) U U od (Qp hW) λp7 hX kg=>pe ?_;refine Qs<|QG U U<|Qa<|xe<|⟨(i+1,v16,lA++[⟨q.nm,⟨xa,xm,ha,q.p.a⟩⟩]),og,La,J,?_,kg,kf.low hX (λb E=>by rw[Lb.1 E];omega),?_⟩
  ·exact((hg.D (hh.D hi)).then hv (λb E=>.inr (ov (hT b E)))).Q hX
  simp only[];rw[hN,Lp,Lp,hF];rfl
 refine Qw ?_;have mj:c.co.length<=i:=by have hM:¬(i:Int)<(c.co.length:Int):=gm;omega
 rw[Lt mj]at hF;clear mh mj gm;have kh:=mg.st (hg.mono od);have p8:=hg.size;have p9:=k8.J hg (oA pn);have qc:=Qd T.x hg (λb E H=>m3x (Lb.1 H ▸ E));have qf:=Qd T.k hg (λb E H=>m3k (Lb.1 H ▸ E));have ql:=Qd T.e hg (λb E H=>(T.d1 b E).1 (Lb.1 H));have qm:=(k4.I gj).J hg (oA ma);refine Qe<|Qc<|Qo U p9 U U<|QF kh.rq.arr U<|Qa<|xe<|Q8 (α:=Nat×O2×List IV) [(7,7),(42,57)] (λz=>[(42,sS z.1)]) (λz w'=>z.1<=c.rq.length/\O5 [O] w4 w'/\QY w'.heap O 44 [re,voA,z.2.1,rx,rk]/\IvR ↑w4 w' z.2.1 z.2.2/\z.2.2.map IV.it=(c.rq.take z.1).map IV.it) (λz=>c.rq.length - z.1) (0,nS,[]) La ⟨Ln _,O5.Z _ _,gy,Yh.nil,U⟩ ?_;rintro⟨i,voB,lB⟩ g w5 ⟨mo,hk,hY,hG,hH⟩;simp only[]at mo hY hG hH;refine Zn rfl U (λgn=>?_) (λgn=>?_)
 rotate_left
 ·have J:i<c.rq.length:=by have hM:(i:Int)<(c.rq.length:Int):=gn;omega
  have hN:c.rq.take (i+1)=c.rq.take i++[c.rq[i]'J]:=Lm J;have po:lB.length=i:=by have:=OV oQ hH;rw[Lh,Lh,LA]at this;omega
  have V:=Ll J;have h4:=kh.st (hk.mono od);have gz:=hk.size;refine Qf<|Qe<|Qm<|Qc<|O8 (g:=QK) (i:=i) Ys h4.rq.arr U U J λpp hO=>?_;refine Zh (c.rq[i]'J) λq S=>?_;rw[S]at hO hN V;have hp:=h4.rq.each q V;have hP:=h4.rq.nm q V;refine x (Qr hO U U)<|QM [.string .empty,nS,sS 0,nS,nS] λb5 pu g0 g4 g5=>QI (QK q) g5 ⟨U,hp.al.one,U,hp.mr.one,hp.ed.one,Z⟩ λY g6 hQ=>xe ?_;have hh:sX w5 Y:=g0.O g6 g4;have pw:=hh.size;have hR:=hG.I hh;have hS:=hY.I hh;have hge:=Qg hR.own;have hT:=Qg hG.own;have n3v:O∉ob voB:=λE=>ov (hge O E)
  have n5v:b5∉ob voB:=λE=>ov (hT b5 E)
  have hU:sX Y { Y with drawn:=Y.drawn+1 }:=O5.C _ _
  refine ZA (ob voB) (YX 0 12 [6,8,9,11])<|p (QJ U)<|pq (λ_ I=>Ql (hS.J I n3v) U U)<|p (QJ U)<|pq (λ_ I=>Ql (hQ.J I n5v) U U) <|
   p (QJ rfl)<|pq (λ_ I=>Zd (us:=[q.p.va,sS q.p.a.st,q.p.vm,q.p.ve]) (hQ.J I n5v) U U U)<|pk<|xg<|(Qeu ((hp.I hh).I hU)).mono ?_
  rintro _ pz ⟨g7,xa,xm,ha,rfl,hA⟩;have hr:=hU.D g7;have p0:=hr.size;have g8:=hA [] od;refine⟨hr.any,?_⟩;refine p (λ_=>Q5 [(0,[.string q.nm]),(1,[xa,sS q.p.a.st,xm,ha])] ⟨U,U,U,U,Z⟩)<|pk<|Za [QK ⟨q.nm,⟨xa,xm,ha,q.p.a⟩⟩] λp4 g9 ht p5 ka=>⟨(hr.D ht).any,?_⟩;have hi:=hr.D ht;have hV:=hR.I hi;have kb:IvA [] g9.heap ⟨q.nm,⟨xa,xm,ha,q.p.a⟩⟩:=⟨g8.I ht,hP⟩;refine pk<|Q2 (m:=1) (news:=QK ⟨q.nm,⟨xa,xm,ha,q.p.a⟩⟩) (L:=[]) hV.own U U U (ka.at od) (Zb.all kb.ones) oa (ov hi.size) λv16 kc hW hv ke=>⟨(hi.any (L:=ob voB)).Q hv,?_⟩;have p6:({ Y with drawn:=Y.drawn+1 }:O1).heap.size=Y.heap.size:=rfl
  have kf:IvR ↑w4 kc v16 (lB++[⟨q.nm,⟨xa,xm,ha,q.p.a⟩⟩]):=hV.app (λL hL=>⟨(hA L (λb E=>by
   rcases hL b E with h|h
   ·omega
   have:=hge b h;omega)).I ht,hP⟩) hW hv ke
  refine p (QJ U)<|pkk<|Qu (j:=2) (u:=v16) ((hS.I hi).J hv n3v) U U od (Qp hW) λp7 hX kg=>pe ?_;refine Qs<|QG U U<|Qa<|xe<|⟨(i+1,v16,lB++[⟨q.nm,⟨xa,xm,ha,q.p.a⟩⟩]),og,La,J,?_,kg,kf.low hX (λb E=>by rw[Lb.1 E];omega),?_⟩
  ·exact((hk.D (hh.D hi)).then hv (λb E=>.inr (ov (hT b E)))).Q hX
  simp only[];rw[hN,Lp,Lp,hH];rfl
 refine Qw ?_;have mq:c.rq.length<=i:=by have hM:¬(i:Int)<(c.rq.length:Int):=gn;omega
 rw[Lt mq]at hH;clear mo mq gn;have ms:=kh.st (hk.mono od);have hzB:=hk.size;have hG:=Yh.base hG p8;have qn:=gl.low hk (λb E=>by rw[Lb.1 E];exact k9);have mt:=Qd qc hk (λb E H=>m3x (Lb.1 H ▸ E));have qo:=Qd qf hk (λb E H=>m3k (Lb.1 H ▸ E));have qr:=Qd ql hk (λb E H=>(T.d1 b E).1 (Lb.1 H));have q0:=qm.J hk (oA ma);refine Qe<|Qc<|Qo U hY U U<|QF (QB (L:=[]) mt (by exact m5) od) rfl<|Qa<|xe<|Q8 (α:=Nat×List XV) [(8,8),(61,76)] (λz=>[(61,sS z.1)]) (λz w'=>(z.1<=c.ex.length/\z.2.length=c.ex.length)/\O5 (ob rx) w5 w'/\w'.ownsRow ↑w2 116 2 rx z.2.length (z.2.flatMap Q3)/\z.2.map XV.x=c.ex.map XV.x/\(∀j (G:j<z.2.length),j<z.1->Fre XvA ↑w3 w'.heap (z.2[j]'G))/\∀j (G:j<z.2.length) (ho:j<c.ex.length),z.1<=j->z.2[j]'G=c.ex[j]'ho)
  (λz=>c.ex.length - z.1) (0,c.ex) La ⟨⟨Ln _,U⟩,O5.Z _ _,mt,U,λj G hl=>OW hl (Nh j),λj G ho _=>U⟩ ?_
 rintro⟨i,lx⟩ g w6 ⟨⟨q1,mu⟩,he,hJ,ki,kj,kk⟩;simp only[]at q1 mu hJ ki kj kk;refine Zn rfl U (λmv=>?_) (λmv=>?_)
 rotate_left
 ·have hw:i<c.ex.length:=by have hM:(i:Int)<(c.ex.length:Int):=mv;omega
  have J:i<lx.length:=oa
  have hge:=Qg hJ;have gz:=he.size;obtain⟨gx,capx,eg⟩:=X9 hJ oa;have kn:ob rx=[gx]:=by rw[eg];rfl
  have hZ:=hJ;rw[eg]at hZ;have ga:=hY.J he m3x;have hy:=kk i J hw (Lv _);have V:=Ll hw;have h9:=((ms.st (he.mono (λb E=>Lj _ (Lc.2 (.inl E))))).ex.each _ V).up (L':=[]) od;have q2:=QB (L:=[]) hJ oa od;refine Qf<|Qe<|Qm<|Qj<|Qb<|Zh (c.ex[i]'hw) λq S=>?_;rw[S]at hy V h9;have hd:sX w6 { w6 with drawn:=w6.drawn+1 }:=O5.C _ _
  refine ZA [] (YX 0 13 [9,12])<|p (QJ U)<|pq (λ_ I=>Ql (ga.I I) U U)<|p Qx<|p (QJ U)<|pq (λ_ I=>Ql (ga.I I) U U) <|
   p Qx<|Go.Lg.pig (g:=Q3) (i:=i) U Xw q2 U U J λq3 ko=>p (λ_=>Zf U)<|pq (λ_ I=>Qy ((ko.fld 1 q.v (by rw[hy];rfl)).I I) U) <|
   pk<|xg<|(QaJ (h9.I hd)).mono ?_
  rintro rv w9 ⟨kq,hD⟩;have hz:sX w6 w9:=hd.D kq;refine⟨hz,?_⟩;refine p (λ_=>Zy (i:=i) eg U J)<|p (QJ U)<|pkk<|QnG (k:=0+i*2+1) (u:=rv) (Qk hZ hz) U U (by have:(i+1)*2<=lx.length*2:=LY _ J;omega) (Qp hD) λq4 h6 hE =>
   pe ?_
  rw[<-kn]at h6;rw[<-eg]at hE;have kr:=yZ (g:=Q3) Xw lx i 1 rv ⟨q.nm,rv,q.ls⟩ J ol (by rw[hy];rfl);rw[show 0+i*2+1=i*2+1 by omega,kr]at hE;refine Qs<|QG U U<|Qa<|xe ?_;have gb:=gw;refine⟨(i+1,lx.set i ⟨q.nm,rv,q.ls⟩),og,La,⟨hw,by simp only[Ov];exact mu⟩,(he.D hz).Q h6,by simp only[Ov];exact hE,?_,λj G hl=>?_,λj G ho hl=>?_⟩
  ·simp only[];rw[yJ J (by rw[hy];rfl),ki]
  ·simp only[Ov]at G;simp only[]at hl ⊢;rw[M7];split
   ·refine Fre.low (w:=w9) ?_ h6 gb;intro L hL;exact⟨QB hD (ov h9.le) (λb E hbL=>by have h1:=(Qg hD b E).1;have h2:=hL b hbL;have h3:w3.heap.size<=w6.heap.size:=oa;have h4:({ w6 with drawn:=w6.drawn+1 }:O1).heap.size=w6.heap.size:=rfl;omega),h.ex.nm q V⟩
   rename_i q5;exact((kj j G oa).I hz).low h6 gb
  simp only[Ov]at G;simp only[]at hl ⊢;rw[List.getElem_set_ne oa];exact kk j G ho oa
 refine Qw ?_;have j1:=ms.st (he.mono (λb E=>Lj _ (Lc.2 (.inl E))));have hzC:=he.size;have j2:=qn.low he gw;have j3:=hG.low he gw;have mw:=Qd qo he (λb E H=>(T.d2 b H).2 E);have za:=Qd qr he (λb E H=>(T.d1 b E).2.1 H);have kt:=hY.J he m3x;have m2x:b2∉ob rx:=λE=>ov (gu b2 E)
 have m2k:b2∉ob rk:=λE=>ov (gv b2 E)
 have zb:=q0.J he m2x;refine Qe<|Qc<|Qo U kt U U<|QF (QB (L:=[]) mw (by exact m6) od) rfl<|Qa<|xe<|Q8 (α:=Nat×List KV) [(9,9),(80,95)] (λz=>[(80,sS z.1)]) (λz w'=>(z.1<=c.cs.length/\z.2.length=c.cs.length)/\O5 (ob rk) w6 w'/\w'.ownsRow ↑w2 121 3 rk z.2.length (z.2.flatMap Q9)/\z.2.map KV.k=c.cs.map KV.k/\(∀j (G:j<z.2.length),j<z.1->Fre KvA ↑w3 w'.heap (z.2[j]'G))/\∀j (G:j<z.2.length) (ho:j<c.cs.length),z.1<=j->z.2[j]'G=c.cs[j]'ho)
  (λz=>c.cs.length - z.1) (0,c.cs) La ⟨⟨Ln _,U⟩,O5.Z _ _,mw,U,λj G hl=>OW hl (Nh j),λj G ho _=>U⟩ ?_
 rintro⟨i,lk⟩ g w7 ⟨⟨zv,my⟩,hf,h7,ku,go,kv⟩;simp only[]at zv my h7 ku go kv;refine Zn rfl U (λmz=>?_) (λmz=>?_)
 rotate_left
 ·have hw:i<c.cs.length:=by have hM:(i:Int)<(c.cs.length:Int):=mz;omega
  have J:i<lk.length:=oa
  have hge:=Qg h7;have gz:=hf.size;obtain⟨gx,capx,eg⟩:=X9 h7 oa;have kn:ob rk=[gx]:=by rw[eg];rfl
  have hZ:=h7;rw[eg]at hZ;have ga:=kt.J hf m3k;have hy:=kv i J hw (Lv _);have V:=Ll hw;have h9:=((j1.st (hf.mono (λb E=>Lj _ (Lc.2 (.inr E))))).cs.each _ V).up (L':=[]) od;have z1:=QB (L:=[]) h7 oa od;refine Qf<|Qe<|Qm<|Qj<|Qb<|Zh (c.cs[i]'hw) λq S=>?_;rw[S]at hy V h9;have hd:sX w7 { w7 with drawn:=w7.drawn+1 }:=O5.C _ _
  refine ZA [] (YX 0 13 [9,12])<|p (QJ U)<|pq (λ_ I=>Ql (ga.I I) U U)<|p Qx<|p (QJ U)<|pq (λ_ I=>Ql (ga.I I) U U) <|
   p Qx<|Go.Lg.pig (g:=Q9) (i:=i) U Xq z1 U U J λq3 ko=>p (λ_=>Zf U)<|pq (λ_ I=>Qy ((ko.fld 1 q.v (by rw[hy];rfl)).I I) U) <|
   pk<|xg<|(QaI (h9.I hd)).mono ?_
  rintro rv w9 ⟨kq,hD⟩;have hz:sX w7 w9:=hd.D kq;refine⟨hz,?_⟩;refine p (λ_=>Zy (i:=i) eg U J)<|p (QJ U)<|pkk<|QnG (k:=0+i*3+1) (u:=rv) (Qk hZ hz) U U (by have:(i+1)*3<=lk.length*3:=LY _ J;omega) (Qp hD) λq4 h6 hE =>
   pe ?_
  rw[<-kn]at h6;rw[<-eg]at hE;have kr:=yZ (g:=Q9) Xq lk i 1 rv ⟨q.nm,rv,q.ts,q.bd⟩ J ol (by rw[hy];rfl);rw[show 0+i*3+1=i*3+1 by omega,kr]at hE;refine Qs<|QG U U<|Qa<|xe ?_;have gb:=gk;refine⟨(i+1,lk.set i ⟨q.nm,rv,q.ts,q.bd⟩),og,La,⟨hw,by simp only[Ov];exact my⟩,(hf.D hz).Q h6,by simp only[Ov];exact hE,?_,λj G hl=>?_,λj G ho hl=>?_⟩
  ·simp only[];rw[yJ J (by rw[hy];rfl),ku]
  ·simp only[Ov]at G;simp only[]at hl ⊢;rw[M7];split
   ·refine Fre.low (w:=w9) ?_ h6 gb;intro L hL;exact⟨QB hD (ov h9.le) (λb E hbL=>by have h1:=(Qg hD b E).1;have h2:=hL b hbL;have h3:w3.heap.size<=w7.heap.size:=oa;have h4:({ w7 with drawn:=w7.drawn+1 }:O1).heap.size=w7.heap.size:=rfl;omega),h.cs.nm q V⟩
   rename_i q5;exact((go j G oa).I hz).low h6 gb
  simp only[Ov]at G;simp only[]at hl ⊢;rw[List.getElem_set_ne oa];exact kv j G ho oa
 refine Qw ?_;have m2:=j2.low hf gk;have m3:=j3.low hf gk;have kw:=Qd hJ hf (λb E H=>(T.d2 b E).2 H);have kx:=Qd za hf (λb E H=>(T.d1 b E).2.2 H);have z2:=kt.J hf m3k;have z3:=zb.J hf m2k;have m4:∀j (G:j<lx.length),j<c.ex.length->Fre XvA ↑w3 w7.heap (lx[j]'G):=λj G ho=>(kj j G oa).low hf gk;have z4:Zb [re,voA,voB,rx,rk]:=⟨Qp kx,Qp m2.own,Qp m3.own,Qp kw,Qp h7,Z⟩;refine Qc<|QS z2 U U<|QI [re,voA,voB,rx,rk] z3 z4 λw8 h8 z5=>xe ?_;have hs37:O5 (O::(ob rx++ob rk)) w3 w7:=(((hg.mono od).Q (hk.mono od)).Q (he.mono (λb E=>Lj _ (Lc.2 (.inl E))))).Q (hf.mono (λb E=>Lj _ (Lc.2 (.inr E))));have hs07:sX w w7:=gt.then hs37 (λb E=>.inr (mf b E).1);refine Qh ⟨[.agg #[re,voA,voB,rx,rk]],⟨Yk z5,Z⟩,hs07.O h8 oa,CL.mk re voA voB rx rk c.ev lA lB lx lk,U,?_,λL hL=>?_⟩
 ·unfold CL.V;simp only[];rw[hF,hH,ki,ku]
 have gp:∀b∈b2::L,b<w2.heap.size:=λb E=>by
  rcases Li.1 E with rfl|E
  ·exact m9
  have:=hL b E;omega
 have hK:∀b∈b2::L,b<w3.heap.size:=λb E=>ov (gp b E)
 have lA1:lA.length=c.co.length:=by have:=OV oQ hF;rwa [Lh,Lh]at this
 have lB1:lB.length=c.rq.length:=by have:=OV oQ hH;rwa [Lh,Lh]at this
 have hC:ZH (b2::L) w7.heap (CL.mk re voA voB rx rk c.ev lA lB lx lk):=by
  refine⟨⟨QB kx m7 (λb E H=>oy (Qg kx b E).1 (gp b H)),h.ev.nm⟩,IvR.itms m2 (show lA.length<=1099511627776 by omega) hK,IvR.itms m3 (show lB.length<=1099511627776 by omega) hK,⟨QB kw (show lx.length<=1099511627776 by omega) (λb E H=>oy (Qg kw b E).1 (gp b H)),λq S=>?_,λq S=>?_⟩,⟨QB h7 (show lk.length<=1099511627776 by omega) (λb E H=>oy (Qg h7 b E).1 (gp b H)),λq S=>?_,λq S=>?_⟩⟩
  ·obtain⟨j,G,rfl⟩:=LP S;exact(m4 j G (by have h5:j<lx.length:=G;omega) _ hK).l
  ·obtain⟨j,G,rfl⟩:=LP S;exact(m4 j G (by have h5:j<lx.length:=G;omega) _ hK).nm
  ·obtain⟨j,G,rfl⟩:=LP S;exact(go j G (by have h5:j<lk.length:=G;omega) _ hK).l
  obtain⟨j,G,rfl⟩:=LP S;exact(go j G (by have h5:j<lk.length:=G;omega) _ hK).nm
 exact(hC.st (h8.mono od)).up (λb E=>.inl (Lj _ E))
section
variable {κ:Type}[DecidableEq κ](ky:α->κ)(vl:α->O2)
def yL (l:List α)(m:List (κ×O2)):List (κ×O2):=l.foldl (λm p=>xh m (ky p) (vl p)) m
theorem Qao {k:κ}:∀(l:List α) (m:List (κ×O2)),(l.map ky).Nodup->(∀p∈l,xd m (ky p)=none)->xd (yL ky vl l m) k=match l.find? (λp=>decide (ky p=k))with
  | some p=>some (vl p)
  | none=>xd m k
 | [],m,_,_=>rfl
 | p::l,m,I,J=>by
  obtain⟨H,O⟩:=NA.1 (show(ky p::l.map ky).Nodup from I);have ih:=Qao (k:=k) l (xh m (ky p) (vl p)) O λq G=>by
   rw[XG,OT λe=>H (by rw[e];exact LM G)];exact J q (Lj _ G)
  have e0:yL ky vl (p::l) m=yL ky vl l (xh m (ky p) (vl p)):=rfl;rw[e0,ih,List.find?_cons];by_cases E:ky p=k
  ·have S:l.find? (λp=>decide (ky p=k))=none:=List.find?_eq_none.2 λq G=>by
    have:ky q≠k:=λe=>H (by rw[E,<-e];exact LM G);simpa using this
   rw[S,XG,OU E];simp[E]
  rw[XG,OT E];simp[E]
end
theorem Qik {κ:Type}[DecidableEq κ]{l:List κ}{s:κ}(h:s∉l):xh (l.map λs=>(s,Value.bool true)) s (.bool true)=(l++[s]).map λs=>(s,Value.bool true):=by
 induction l with
 | nil=>rfl
 | cons a l ih =>
  have E:a≠s:=λe=>h (by subst e;exact Lq);show(if a=s then(a,Value.bool true)::(l.map λs=>(s,Value.bool true))else(a,Value.bool true)::xh (l.map λs=>(s,Value.bool true)) s (.bool true))=_
  rw[OT E,ih (λG=>h (Lj _ G))];rfl
theorem Qil {κ:Type}[DecidableEq κ](l:List κ)(s:κ):xd (l.map λs=>(s,Value.bool true)) s=if s∈l then some (.bool true)else none:=by
 induction l with
 | nil=>rfl
 | cons a l ih =>
  show(if a=s then some (Value.bool true)else xd (l.map λs=>(s,Value.bool true)) s)=_
  rw[ih];by_cases h:a=s
  ·subst h;simp
  rw[OT h];have E:¬s=a:=λe=>h e.symm;simp[E]
section
variable {pS:String}{κ:Type}[DecidableEq κ]
theorem QgJ [hm:Mp P t kt et (.bool false)]{enc:κ->O2}[hk:Key P kt enc]{x:O3}{l:List κ}{s:κ}(h:Yr enc w.heap b (l.map λs=>(s,Value.bool true)))(hx:ev f x=.map (some b))(E:ev f y=enc s):
  (execOp (ev f) ⟨d,.lookup t x y false,ty,pS,af,gd⟩).run P w=.ok (.value (.bool (decide (s∈l)))) w:=by
 rw[JL h hx E,Qil];by_cases G:s∈l <;> simp[G]
end
section
variable {pS:String}{κ:Type}[DecidableEq κ]
theorem QlW [hm:Mp P t kt et z]{enc:κ->O2}[hk:Key P kt enc]{x:O3}{m:List (κ×O2)}{k:κ}(h:Yr enc w.heap b m)(hx:ev f x=.map (some b))(E:ev f y=enc k)
  {v:O2} (G:(match xd m k with|some u=>Value.tuple #[u,.bool true]|none=>.tuple #[z,.bool false])=v):
  (execOp (ev f) ⟨d,.lookup t x y true,ty,pS,af,gd⟩).run P w=.ok (.value v) w:=by
 rw[<-G];exact Vw h hx E
end
instance keyKy:Key sV 75 kKy:=QoG underlying75 ol ol U U underlying3 underlying9
abbrev z15:LV:=[sS 0,.string .empty,sS 0,nS,sS 0,nS,nS,nS,nS,nS,nS,nS,nS,nS,nS]
abbrev ZT:LV:=[nS,nS,nS]
abbrev paV (q:V5):O2:=sT (Zp q)
theorem zX {k:Int}:∀{l:LN}{i:Nat}{m:qt},m∈V9 k i l->m.kd=k/\(i:Int)<=m.ix/\m.ix<((i+l.length:Nat):Int)
 | [],_,_,h=>by simp[V9]at h
 | b::l,i,m,h=>by
  rw[V9]at h;rcases Li.1 h with rfl|h
  ·exact⟨U,NK _,by simp only[oX];omega⟩
  obtain⟨E,G,H⟩:=zX h;exact⟨E,oa,by simp only[oX];omega⟩
theorem Qfk {m:qt}(h:m∈O9 c):0<=m.ix/\(m.kd=1\/m.kd=2\/m.kd=3)/\(m.kd=1->m.ix<(c.rq.length:Int))/\(m.kd=2->m.ix<(c.ex.length:Int))/\(m.kd=3->m.ix<(c.cs.length:Int)):=by
 have e1:(srR c).length=c.rq.length:=Lh _;have e2:(srX c).length=c.ex.length:=Lh _;have I:(srC c).length=c.cs.length:=Lh _;unfold O9 at h;rcases Lc.1 h with h|h
 ·obtain⟨E,G,H⟩:=zX h;exact⟨oa,.inl E,λ_=>oa,λh=>oa,λh=>oa⟩
 rcases Lc.1 h with h|h
 ·obtain⟨E,G,H⟩:=zX h;exact⟨oa,.inr (.inl E),λh=>oa,λ_=>oa,λh=>oa⟩
 obtain⟨E,G,H⟩:=zX h;exact⟨oa,.inr (.inr E),λh=>oa,λh=>oa,λ_=>oa⟩
theorem QiP {ps:List V5}(G:(ps.map (·.e.ky)).Nodup)(H:∀q∈ps,Zb (Zp q))(k:Ky):∃(us:LV) (is:Bool),(match xd (yL (λq:V5=>q.e.ky) paV ps []) k with|some u=>Value.tuple #[u,.bool true]|none=>.tuple #[sT z15,.bool false])=.tuple #[sT us,.bool is]/\us.length=15/\Zb us /\
  (is=true->∃q∈ps,us=Zp q/\KZ (ps.map (·.pt)) k=some q.pt)/\(is=false->KZ (ps.map (·.pt)) k=none):=by
 rw[Qao (λq:V5=>q.e.ky) paV ps [] G (λ_ _=>rfl)];have I:KZ (ps.map (·.pt)) k=(ps.find? λq=>decide (q.e.ky=k)).map (·.pt):=by
  unfold KZ;rw[List.find?_map];rfl
 rw[I];cases J:ps.find? λq=>decide (q.e.ky=k)with
 | none=>exact⟨z15,false,U,U,⟨U,U,U,U,U,U,U,U,U,U,U,U,U,U,U,Z⟩,(λh=>by cases h),λ_=>rfl⟩
 | some q =>
  have E:=List.mem_of_find?_eq_some J;exact⟨Zp q,true,U,U,H q E,λ_=>⟨q,E,U,U⟩,(λh=>by cases h)⟩
theorem QaV {v:Int}{m:qt}{p:xJ}(E:zY c m=0)(h:KZ bf (ZS c m)=some p):KO c bf v m=if p.c=Jt c m then(0,p,true)else(Y2 (Jt c m),Vh c v m,false):=by
 unfold KO;rw[OT (not_not_intro E),h]
theorem Qf9 {v:Int}{m:qt}(E:zY c m=0)(h:KZ bf (ZS c m)=none):KO c bf v m=(Y2 (Jt c m),Vh c v m,false):=by
 unfold KO;rw[OT (not_not_intro E),h]
theorem Qga {v:Int}{m:qt}(E:zY c m≠0):(KO c bf v m).1=zY c m:=by
 unfold KO;rw[OU E]
structure BlS where
 k:Nat
 vo:O2
 qs:List V5
 vk:O2
 K:List Ky
 vm:O2
 M:List Ky
structure BlI (LL:LN)(B:Nat)(w':O1)(b15 b50:Nat)(ks:List Ky)(z:BlS):Prop where
 b:∃T,QY w'.heap b15 T [z.vk,z.vm,nS]
 n:Yr kKy w'.heap b50 (ks.map λs=>(s,Value.bool true))
 o:UH Zp 15 149 V4 (ob z.vk++(ob z.vm++LL)) B w' z.vo z.qs
 k:w'.ownsRow B 75 2 z.vk z.K.length (z.K.flatMap Xp)
 m:w'.ownsRow B 75 2 z.vm z.M.length (z.M.flatMap Xp)
 d1:∀b∈ob z.vo,b∉ob z.vk/\b∉ob z.vm
 d2:∀b∈ob z.vk,b∉ob z.vm
section
variable {LL:LN}{w8 w9:O1}{b15 b50:Nat}{ks ks':List Ky}{z:BlS}
theorem BlI.I (h:BlI LL B w b15 b50 ks z)(E:sX w w8):BlI LL B w8 b15 b50 ks z:=by
 obtain⟨T,G⟩:=h.b;exact⟨⟨T,G.I E⟩,h.n.I E,h.o.I E,Qk h.k E,Qk h.m E,h.d1,h.d2⟩
theorem BlI.now (h:BlI LL B w b15 b50 ks z)(H:O5 [b50] w w8)(I:Yr kKy w8.heap b50 (ks'.map λs=>(s,Value.bool true)))(J:b15≠b50)(V:b50<B)(O:b50∈LL):BlI LL B w8 b15 b50 ks' z:=by
 obtain⟨T,S⟩:=h.b;refine⟨⟨T,S.J H (oA J)⟩,I,h.o.J H λb E=>?_,Qd h.k H λb E G=>?_,Qd h.m H λb E G=>?_,h.d1,h.d2⟩
 ·rw[Lb.1 E];exact⟨.inl (Lc.2 (.inr (Lc.2 (.inr O)))),λG=>ov ((Qg h.o.own) _ G)⟩
 ·rw[Lb.1 G]at E;have:=(Qg h.k) _ E;omega
 rw[Lb.1 G]at E;have:=(Qg h.m) _ E;omega
theorem BlI.part (h:BlI LL B w b15 b50 ks z){I:O2}{q:V5}(S:V4 (ob z.vo++(ob z.vk++(ob z.vm++LL))) w.heap q)(V:w8.ownsRow B 149 15 I (z.qs.length+1) (z.qs.flatMap Zp++Zp q))(G:O5 (ob z.vo) w w8)
  (J:∀b∈ob I,b∈ob z.vo\/↑w<=b) (ha:b15<B) (hc:b50<B):BlI LL B w8 b15 b50 ks { z with vo:=I,qs:=z.qs++[q] }:=by
 obtain⟨T,Y⟩:=h.b;have ge:=Qg h.o.own;refine⟨⟨T,Y.J G (λE=>ov (ge _ E))⟩,h.n.J G (λE=>ov (ge _ E)),h.o.app S V G J,Qd h.k G (λb H E=>(h.d1 b E).1 H),Qd h.m G (λb H E=>(h.d1 b E).2 H),λb H=>?_,h.d2⟩;rcases J b H with O|O
 ·exact h.d1 b O
 exact⟨λE=>ov ((Qg h.k) b E),λE=>ov ((Qg h.m) b E)⟩
theorem BlI.kept (h:BlI LL B w b15 b50 ks z){H:O2}{k:Ky}(V:w8.ownsRow B 75 2 H (z.K.length+1) (z.K.flatMap Xp++Xp k))(S:O5 (ob z.vk) w w8)
  (Y:∀b∈ob H,b∈ob z.vk\/↑w<=b) (I:O5 [b15] w8 w9) (ha:∃T,QY w9.heap b15 T [H,z.vm,nS]) (hf:b15<B) (hg:b50<B) (hc:b15≠b50) (hL:b15∈LL):BlI LL B w9 b15 b50 ks { z with vk:=H,K:=z.K++[k] }:=by
 have ge:=Qg h.o.own;have gm:=Qg h.m;have hd:∀b∈ob H,b∉ob z.vo/\b∉ob z.vm:=λb E=>by
  rcases Y b E with J|J
  ·exact⟨λO=>(h.d1 b O).1 J,h.d2 b J⟩
  exact⟨λO=>ov (ge b O),λO=>ov (gm b O)⟩
 have he:w8.ownsRow B 75 2 H (z.K++[k]).length ((z.K++[k]).flatMap Xp):=by
  rw[Lk,Ly];simpa using V
 refine⟨ha,(h.n.J S (λG=>ov ((Qg h.k) _ G))).J I (by simpa using λe=>hc e.symm),⟨?_,λq hq=>?_⟩,Qd he I (λb E G=>?_),Qd (Qd h.m S (λb E G=>h.d2 b G E)) I (λb E G=>?_),λb E=>⟨λG=>(hd b G).1 E,(h.d1 b E).2⟩,λb E=>(hd b E).2⟩
 ·exact Qd (Qd h.o.own S (λb E G=>(h.d1 b E).1 G)) I (λb E G=>by rw[Lb.1 G]at E;have:=ge _ E;omega)
 ·have J:V4 (ob H++(ob z.vo++(ob z.vk++(ob z.vm++LL)))) w.heap q:=Mm.up (h.o.each q hq) λb E=>by
   rcases Lc.1 E with E|E
   ·exact(Y b E).imp (λh3=>Lc.2 (.inr (Lc.2 (.inl h3)))) id
   exact .inl E
  refine Mm.mono (Mm.st (Mm.st J (S.mono λb E=>Lc.2 (.inr (Lc.2 (.inr (Lc.2 (.inl E))))))) (I.mono λb E=>by rw[Lb.1 E];exact Lc.2 (.inr (Lc.2 (.inr (Lc.2 (.inr (Lc.2 (.inr hL))))))))) λb E=>?_;rcases Lc.1 E with E|E
  ·exact Lc.2 (.inr (Lc.2 (.inl E)))
  rcases Lc.1 E with E|E
  ·exact Lc.2 (.inl E)
  exact Lc.2 (.inr (Lc.2 (.inr (Lc.2 (.inr E)))))
 ·rw[Lb.1 G]at E;have:=(Qg V) _ E;omega
 rw[Lb.1 G]at E;have:=gm _ E;omega
theorem BlI.mades (h:BlI LL B w b15 b50 ks z){H:O2}{k:Ky}(V:w8.ownsRow B 75 2 H (z.M.length+1) (z.M.flatMap Xp++Xp k))(S:O5 (ob z.vm) w w8)
  (Y:∀b∈ob H,b∈ob z.vm\/↑w<=b) (J:O5 [b15] w8 w9) (ha:∃T,QY w9.heap b15 T [z.vk,H,nS]) (hf:b15<B) (hg:b50<B) (hc:b15≠b50) (hL:b15∈LL):BlI LL B w9 b15 b50 ks { z with vm:=H,M:=z.M++[k] }:=by
 have ge:=Qg h.o.own;have gk:=Qg h.k;have hd:∀b∈ob H,b∉ob z.vo/\b∉ob z.vk:=λb E=>by
  rcases Y b E with O|O
  ·exact⟨λI=>(h.d1 b I).2 O,λI=>h.d2 b I O⟩
  exact⟨λI=>ov (ge b I),λI=>ov (gk b I)⟩
 have he:w8.ownsRow B 75 2 H (z.M++[k]).length ((z.M++[k]).flatMap Xp):=by
  rw[Lk,Ly];simpa using V
 refine⟨ha,(h.n.J S (λG=>ov ((Qg h.m) _ G))).J J (by simpa using λe=>hc e.symm),⟨?_,λq hq=>?_⟩,Qd (Qd h.k S (λb E G=>h.d2 b E G)) J (λb E G=>?_),Qd he J (λb E G=>?_),λb E=>⟨(h.d1 b E).1,λG=>(hd b G).1 E⟩,λb E G=>(hd b G).2 E⟩
 ·exact Qd (Qd h.o.own S (λb E G=>(h.d1 b E).2 G)) J (λb E G=>by rw[Lb.1 G]at E;have:=ge _ E;omega)
 ·have O:V4 (ob H++(ob z.vo++(ob z.vk++(ob z.vm++LL)))) w.heap q:=Mm.up (h.o.each q hq) λb E=>by
   rcases Lc.1 E with E|E
   ·exact(Y b E).imp (λh3=>Lc.2 (.inr (Lc.2 (.inr (Lc.2 (.inl h3)))))) id
   exact .inl E
  refine Mm.mono (Mm.st (Mm.st O (S.mono λb E=>Lc.2 (.inr (Lc.2 (.inr (Lc.2 (.inr (Lc.2 (.inl E))))))))) (J.mono λb E=>by rw[Lb.1 E];exact Lc.2 (.inr (Lc.2 (.inr (Lc.2 (.inr (Lc.2 (.inr hL))))))))) λb E=>?_;rcases Lc.1 E with E|E
  ·exact Lc.2 (.inr (Lc.2 (.inl E)))
  rcases Lc.1 E with E|E
  ·exact Lc.2 (.inr (Lc.2 (.inr (Lc.2 (.inl E)))))
  rcases Lc.1 E with E|E
  ·exact Lc.2 (.inl E)
  exact Lc.2 (.inr (Lc.2 (.inr (Lc.2 (.inr (Lc.2 (.inr E)))))))
 ·rw[Lb.1 G]at E;have:=gk _ E;omega
 rw[Lb.1 G]at E;have:=(Qg V) _ E;omega
end
theorem QgL (h0:Jg L w.heap q):
  QZ sV 148 [sT (Qt q)] w λr w'=>r=.bool (Qcw q.it)/\sX w w':=by
 have h:=h0.up (L':=[]) od;have hm:=h.a.al.le;have hn:=h.a.mr.le;have ho:=h.a.ed.le;have hp:=h.ls.arr.le;have hq:=h.ts.arr.le;have S:QaW q.p.a=(decide (q.p.a.st=0) && decide ((q.p.a.al.length:Int)+(q.p.a.mr.length:Int)+(q.p.a.ed.length:Int)=0)):=rfl;have E:Qcw q.it=if q.kd=3 then QaW q.p.a && decide ((q.ts.length:Int)=0) && decide (q.bd=0)else if q.kd=4 then QaW q.p.a && decide ((q.ls.length:Int)=0)else decide ((q.ls.length:Int)+(q.ts.length:Int)=0) && decide (q.bd=0):=rfl
 refine Zh (QaW q.p.a) λB hB=>?_;rw[hB]at S E;refine Zq func148 ?_;refine Qc<|Zl (Qt q) λb1 w1 hh hr hf=>Qb<|Qc<|QQ U<|x (Zd (us:=[q.p.va,sS q.p.a.st,q.p.vm,q.p.ve]) hf U U U)<|QM K3 λb3 w2 hi hj hk=>QI [q.p.va,sS q.p.a.st,q.p.vm,q.p.ve] hk ⟨h.a.al.one,U,h.a.mr.one,h.a.ed.one,Z⟩ λw3 hl I=>xe ?_;have hg:sX w1 w3:=hi.O hl hj;have J:=hh.D hg;have G:=hf.I hg;have H:=h.I J;refine QX (α:=Unit) [(4,4),(7,23)] (λ_=>[(4,.bool B)]) (λ_ w'=>w'=w3) om ?_ ?_
 ·refine Qs<|Qo U I U U<|xb (QT U U) (λT=>?_) (λT=>?_)
  ·refine Qa<|Qo U I U U<|QF H.a.al U<|Qo U I U U<|x (Yx H.a.mr U) <|
    QG rfl rfl<|Qo U I U U<|QF H.a.ed U<|x (XS U U ⟨oa,oa⟩) <|
    x (QT rfl U)<|QE U<|Qb<|⟨(),⟨OV Value.bool (by rw[S,OX (show q.p.a.st=0 from T),OO]),Z⟩,rfl⟩
  refine Qa<|Zu<|Zu<|Zu<|Zu<|QE U<|Qb<|⟨(),⟨OV Value.bool (by rw[S,OZ (show ¬q.p.a.st=0 from T),Bool.false_and]),Z⟩,rfl⟩
 rintro _ g V rfl;refine Qe<|Qc<|Qo U G U U<|xe<|Qm<|Qc<|x (QT U U)<|Qb<|QO U (λY=>?_) (λY=>?_)
 ·rw[OU Y]at E;refine QX (α:=Unit) [(2,2),(28,39)] (λ_=>[(2,.bool (Qcw q.it))]) (λ_ w'=>w'=V) om ?_ ?_
  ·refine Qs<|xB Kq (λO=>?_) (λO=>?_)
   ·refine Qa<|Qo U G U U<|QF H.ts.arr U<|xb (QT U U) (λha=>?_) (λha=>?_)
    ·refine QE U<|Qa<|Qo U G U U<|x (QT U U)<|QE U<|Qb<|⟨(),⟨OV Value.bool (by rw[E,O,OX (show(q.ts.length:Int)=0 from ha)];rfl),Z⟩,U⟩
    refine QE U<|Qa<|Zu<|QE U<|Qb<|⟨(),⟨OV Value.bool (by rw[E,O,OZ (show ¬(q.ts.length:Int)=0 from ha)];rfl),Z⟩,U⟩
   refine Qa<|Zu<|Kz<|QE U<|Qa<|Zu<|QE U<|Qb<|⟨(),⟨OV Value.bool (by rw[E,O];rfl),Z⟩,U⟩
  rintro _ g w5 rfl;exact Qh ⟨[_],La,U,J⟩
 rw[OT Y]at E;refine Qc<|x (QT U U)<|Qb<|QO U (λhb=>?_) (λhb=>?_)
 ·rw[OU hb]at E;refine QX (α:=Unit) [(2,2),(42,48)] (λ_=>[(2,.bool (Qcw q.it))]) (λ_ w'=>w'=V) om ?_ ?_
  ·refine Qs<|xB Kq (λhc=>?_) (λhc=>?_)
   ·refine Qa<|Qo U G U U<|QF H.ls.arr U<|x (QT U U)<|QE U<|Qb<|⟨(),⟨OV Value.bool (by rw[E,hc,OO]),Z⟩,rfl⟩
   refine Qa<|Zu<|Kz<|QE U<|Qb<|⟨(),⟨OV Value.bool (by rw[E,hc];rfl),Z⟩,U⟩
  rintro _ g w5 rfl;exact Qh ⟨[_],La,U,J⟩
 rw[OT hb]at E;refine Qf<|QX (α:=Unit) [(2,2),(49,61)] (λ_=>[(2,.bool (Qcw q.it))]) (λ_ w'=>w'=V) om ?_ ?_
 ·refine Qs<|Qo U G U U<|QF H.ls.arr U<|Qo U G U U<|QF H.ts.arr U<|QG U U<|xb (QT U U) (λhe=>?_) (λhe=>?_)
  ·refine Qa<|Qo U G U U<|x (QT U U)<|QE U<|Qb<|⟨(),⟨OV Value.bool (by rw[E,OX (show(q.ls.length:Int)+(q.ts.length:Int)=0 from he),OO]),Z⟩,rfl⟩
  refine Qa<|Zu<|QE U<|Qb<|⟨(),⟨OV Value.bool (by rw[E,OZ (show ¬(q.ls.length:Int)+(q.ts.length:Int)=0 from he),Bool.false_and]),Z⟩,rfl⟩
 rintro _ g w5 rfl;exact Qh ⟨[_],La,U,J⟩
theorem Qfg {v:O2}(h:X3 L w.heap v qs)(i:Int):
  QZ sV 145 [v,sS i] w λr w'=>(match jF (qs.map (·.it)) i with
   | none=>r=.tuple #[.string .empty,oG oH 2]
   | some n=>r=.tuple #[.string n,oG oH 0]/\JD n)/\sX w w':=by
 have E:jF (qs.map (·.it)) i=if i<0\/(qs.length:Int)<=i then none else some ((qs.map IV.it).getD i.toNat ⟨.empty,Vo⟩).nm:=by unfold jF;rw[Lh]
 refine Zq func145 ?_;refine Qc<|x Qi<|Qb<|Qe<|QX (α:=Bool) [(6,13)] (λz=>[(13,.bool z)]) (λz w'=>w'=w/\(z=true↔(i<0\/(qs.length:Int)<=i))) om ?_ ?_
 ·refine Qs<|Qa<|xb (YW U U) (λI=>?_) (λI=>?_)
  ·refine Qa<|Zu<|Kz<|QE U<|xe ?_;exact⟨true,La,U,⟨λ_=>.inl I,λ_=>U⟩⟩
  refine Qa<|Qa<|Qa<|QF h.arr U<|x (YA U U)<|QE U<|xe ?_;exact⟨_,La,U,⟨λe=>.inr (OY e),λe=>OX (e.resolve_left I)⟩⟩
 rintro z g w1 ⟨rfl,J⟩;refine QU rfl (λH=>?_) (λH=>?_)
 ·rw[OU (J.1 H)]at E;refine Qc<|x Qi<|Qb<|Qh ⟨[_,_],oB,by rw[E];rfl,O5.Z _ _⟩
 have V:¬(i<0\/(qs.length:Int)<=i):=λe=>by rw[J.2 e]at H;cases H
 rw[OT V]at E;refine Qf<|exN (a:=i) oa λj O=>?_;have G:j<qs.length:=oa
 have Y:((qs.map IV.it).getD i.toNat ⟨.empty,Vo⟩).nm=(qs[j]'G).nm:=by
  rw[O];simp[oR,G,IV.it]
 have S:=Ll G;rw[Y]at E;refine Qj<|Qa<|O8 (g:=QK) (i:=j) Ys h.arr U (show Go.Lg.ev _ _=_ from OV sS O) G λha T=>?_;refine Zh (qs[j]'G) λq hq=>?_;rw[hq]at T E S;refine x (Zf U)<|x (Qy (T.fld 0 (.string q.nm) U) U)<|x Qi<|Qb<|Qh ⟨[_,_],oB,by rw[E];exact⟨U,h.nm q S⟩,O5.Z _ _⟩
theorem Qda (co:List XC)(y:Int×Int)(l:xx):Uj co (y::l)=match jF co y.1 with
  | none=>none
  | some n=>(Uj co l).map ((n,y.2)::·):=rfl
theorem Qc9 {y:Int×Int}{l:xx}{o:List (ByteArray×Int)}{X:Option (List (ByteArray×Int))}(h:X=(Uj co (y::l)).map (o++·))(E:jF co y.1=none):X=none:=by
 rw[h,Qda,E];rfl
theorem Qc8 {y:Int×Int}{l:xx}{o:List (ByteArray×Int)}{X:Option (List (ByteArray×Int))}(h:X=(Uj co (y::l)).map (o++·)){n:ByteArray}(E:jF co y.1=some n):X=(Uj co l).map ((o++[(n,y.2)])++·):=by
 rw[h,Qda,E];simp only[Option.map_map];congr 1;funext z;simp
abbrev Zm:O2:=nS
theorem Ql3 (o:Option α):o=none\/∃n,o=some n:=by cases o with
 | none=>exact .inl U
 | some n=>exact .inr ⟨n,U⟩
instance:Bw sV 63 z9 [(0,1),(1,1),(2,4),(6,1),(7,1),(8,1)]:={}
theorem QjQ {v:O2}{q:XV}(h0:X3 L w.heap v qs)(hI:jP L w.heap q.v q.ls)(hJ:JD q.nm)(gu:q.ls.length<=100000):
  QZ sV 78 [v,sT (Q3 q)] w λr w'=>sX w w'/\(match Uj (qs.map (·.it)) q.ls with
   | none=>r=.tuple #[.agg z9.toArray,oG oH 2]
   | some l=>∃d:DV,r=.tuple #[.agg (Qt d).toArray,oG oH 0]/\d.it=⟨3,q.nm,Vo,l,[],0⟩/\∀L:LN,(∀b∈L,b<↑w)->Jg L w'.heap d):=by
 have hl:=hI.up (L':=[]) od;refine Zh (Uj (qs.map (·.it)) q.ls) λR hR=>?_;rw[hR];have hK:R=(Uj (qs.map (·.it)) q.ls).map (([]:List (ByteArray×Int))++·):=by rw[hR];cases R <;> rfl
 refine Zq func78 ?_;refine Qc<|Zl (Q3 q) λb3 w1 hr gv hM=>QM z9 λb4 w2 hs gw ht=>Qb ?_;have hN:=hr.D hs;have hu:=hM.I hs;refine Qc<|Qo U hu U U<|x (Q5 [(0,[sS 3]),(1,[.string q.nm])] ⟨U,U,U,U,Z⟩)<|QM z9 λJ w3 hO hP hQ=>QI [sS 3,.string q.nm,Zm,sS 0,Zm,Zm,Zm,Zm,sS 0] hQ ⟨U,U,U,U,U,U,U,U,U,Z⟩ λO hS hv=>xe ?_;have hg:sX w2 O:=hO.O hS hP;have hw:=hN.D hg;have gx:=hr.size;have gy:=ht.lt;have gz:=hv.lt;have hT:=hu.I hg;have hU:=ht.I hg;refine Qe<|Qc<|Qo U hT U U<|QF (hl.I hw) U<|Qa<|xe<|Q8 (α:=Nat×O2×List (ByteArray×Int)) [(5,5),(8,10),(17,41)] (λz=>[(17,sS z.1)]) (λz w'=>z.1<=q.ls.length/\O5 [J] O w'/\QY w'.heap J 63 [sS 3,.string q.nm,Zm,sS 0,Zm,Zm,z.2.1,Zm,sS 0]/\w'.ownsRow ↑O 143 2 z.2.1 z.2.2.length (z.2.2.flatMap ZN)/\z.2.2.length=z.1/\(∀p∈z.2.2,JD p.1)/\R=(Uj (qs.map (·.it)) (q.ls.drop z.1)).map (z.2.2++·)) (λz=>q.ls.length - z.1) (0,Zm,[]) La
  ⟨Ln _,O5.Z _ _,hv,QD _ _ _ _,U,od,hK⟩ ?_
 rintro⟨k,vl,l⟩ g w5 ⟨hk,V,hh,G,hz,hi,hE⟩;simp only[]at hk hh G hz hi hE;have Y:sX w w5:=hw.O V oa;have g0:=V.size;have h3:=hU.J V oh;have h5:=(h0.up (L':=[]) od).I Y;have hV:=hl.I Y;refine Zn rfl U (λhj=>?_) (λhj=>?_)
 ·refine Qw ?_;have hW:q.ls.length<=k:=by have hX:¬(k:Int)<(q.ls.length:Int):=hj;omega
  rw[Ls hW]at hE;have hY:R=some l:=by rw[hE];simp[Uj]
  refine Qc<|QS hh U U<|QI [sS 3,.string q.nm,Zm,sS 0,Zm,Zm,vl,Zm,sS 0] h3 ⟨U,U,U,U,U,U,Qp G,U,U,Z⟩ λw6 h4 hZ=>Qb<|Qh ⟨[sT (Qt ⟨3,q.nm,⟨Zm,Zm,Zm,Vo⟩,vl,l,Zm,[],0⟩),sS 0],⟨Yk hZ,U,Z⟩,Y.O h4 oa,?_⟩;rw[hY];refine⟨⟨3,q.nm,⟨Zm,Zm,Zm,Vo⟩,vl,l,Zm,[],0⟩,U,U,λL hL=>?_⟩;have ga:Zo (b4::L) w5.heap vl l.length 2 (l.flatMap ZN):=QB G oa (λb E hbL=>by
   have:=(Qg G b E).1;simp only[oL]at hbL;rcases hbL with rfl|hbL
   ·omega
   have:=hL b hbL;omega)
  have gb:V2 L w6.heap vl l:=⟨(ga.st (h4.mono od)).up (λb E=>.inl (by simp[E])),hi⟩;exact⟨hJ,⟨Zo.nil _ _ _,Zo.nil _ _ _,Zo.nil _ _ _⟩,gb,V2.nil⟩
 have S:k<q.ls.length:=by have hX:(k:Int)<(q.ls.length:Int):=hj;omega
 have h6:q.ls.drop k=q.ls[k]'S::q.ls.drop (k+1):=LE S;refine Qf<|Qe<|Qm<|Qc<|O8 (g:=QC) (i:=k) YJ hV U U S λg2 h7=>?_;refine Zh (q.ls[k]'S) λy hy=>?_;rw[hy]at h7 h6;rw[h6]at hE;refine x (Qr h7 U U)<|QM [sS 0,sS 0] λb8 w7 gc gg gh=>QI (QC y) gh oB λw8 gi h8=>xe ?_;have h9:sX w5 w8:=gc.O gi gg;refine Qj<|Qo U h8 U U<|Qz<|(Qfg (h5.I h9) y.1).mono ?_;rintro r9 w9 ⟨ha,hA⟩;have he:=h9.D hA;refine Or.elim (Ql3 (jF (qs.map (·.it)) y.1)) (λH=>?_) (λH=>?_)
 ·have gj:=Qc9 hE H;rw[H]at ha;have hf:r9=.tuple #[.string .empty,sS 2]:=ha;subst hf;refine Qa<|QW U U<|QW U U<|x Qi<|Qb<|Qe<|Qj<|Zx U U<|xe<|QO U (λT=>?_) (λT=>OW (show(2:Int)≠0 by decide) T);refine Qc<|x (Q5 [] Z)<|Qa<|QI z9 (h3.I he) ⟨U,U,U,U,U,U,U,U,U,Z⟩ λg3 gk gl=>Qb<|Qh ⟨[sT z9,sS 2],⟨Yk gl,U,Z⟩,(Y.D he).O gk oa,?_⟩;rw[gj];rfl
 refine Exists.elim H λn H=>?_;rw[H]at ha;have hf:r9=.tuple #[.string n,sS 0]/\JD n:=ha;have gm:=hf.1;subst gm;refine Qa<|QW U U<|QW U U<|x Qi<|Qb<|Qe<|Qj<|Zx U U<|xe<|QO rfl (λT=>OW U T) (λT=>?_);refine Qf ?_;have hB:=hh.I he;refine Qs<|Qo U hB U U<|Qa<|Qo U (h8.I hA) U U<|x (Qv ⟨U,U,Z⟩)<|Qn<|Za [ZN (n,y.2)] λg4 g5 hC g6 gn=>?_;have ho:=he.D hC;have g7:=ho.size;refine Qn<|Q2 (m:=1) (news:=ZN (n,y.2)) (Qk G ho) U U U (by have:=gn.at (L:=[]) od;simpa using this) oq oa oa λhq go hD hF gp=>?_;have hG:J∉ob vl:=λhm=>ov (Qg G J hm).1
 refine QQ rfl<|Qn<|Qu (j:=6) (u:=hq) ((hB.I hC).J hF hG) U U od (Qp hD) λgq hH gr=>xe ?_;have gs:O5 [J] O go:=(V.then ho od).then hF λb E=>.inr (Qg G b E).1;have gt:gq.ownsRow ↑O 143 2 hq (l++[(n,y.2)]).length ((l++[(n,y.2)]).flatMap ZN):=by
  have h1:=Qd hD hH (λb E hc=>by
   simp only[oJ]at hc;subst hc;rcases gp b E with h2|h2
   ·exact hG h2
   omega)
  rw[Lk,Ly];simpa using h1
 refine Qs<|QG U U<|Qa<|xe<|⟨(k+1,hq,l++[(n,y.2)]),by show q.ls.length - (k+1)<q.ls.length - k;omega,La,S,gs.then hH (λb E=>.inl E),gr,gt,by simp[hz],λp I=>?_,(Qc8 hE H)⟩;rcases Lc.1 I with I|I
 ·exact hi p I
 simp only[oJ]at I;subst I;exact hf.2
theorem Qkh {v:O2}{q:KV}(h0:X3 L w.heap v qs)(hI:jP L w.heap q.v q.ts)(hJ:JD q.nm)(gu:q.ts.length<=100000):
  QZ sV 79 [v,sT (Q9 q)] w λr w'=>sX w w'/\(match Uj (qs.map (·.it)) q.ts with
   | none=>r=.tuple #[.agg z9.toArray,oG oH 2]
   | some l=>∃d:DV,r=.tuple #[.agg (Qt d).toArray,oG oH 0]/\d.it=⟨4,q.nm,Vo,[],l,q.bd⟩/\∀L:LN,(∀b∈L,b<↑w)->Jg L w'.heap d):=by
 have hl:=hI.up (L':=[]) od;refine Zh (Uj (qs.map (·.it)) q.ts) λR hR=>?_;rw[hR];have hK:R=(Uj (qs.map (·.it)) q.ts).map (([]:List (ByteArray×Int))++·):=by rw[hR];cases R <;> rfl
 refine Zq func79 ?_;refine Qc<|Zl (Q9 q) λb3 w1 hs gv hM=>QM z9 λb4 w2 ht gw hu=>Qb ?_;have hN:=hs.D ht;have hg:=hM.I ht;refine Qc<|Qo U hg U U<|Qo U hg U U<|x (Q5 [(0,[sS 4]),(1,[.string q.nm]),(5,[sS q.bd])] ⟨U,U,U,U,U,U,Z⟩)<|QM z9 λJ w3 hO hP hQ=>QI [sS 4,.string q.nm,Zm,sS 0,Zm,Zm,Zm,Zm,sS q.bd] hQ ⟨U,U,U,U,U,U,U,U,U,Z⟩ λO hS hv=>xe ?_;have hh:sX w2 O:=hO.O hS hP;have hw:=hN.D hh;have gx:=hs.size;have gy:=hu.lt;have gz:=hv.lt;have hT:=hg.I hh;have hU:=hu.I hh;refine Qe<|Qc<|Qo U hT U U<|QF (hl.I hw) U<|Qa<|xe<|Q8 (α:=Nat×O2×List (ByteArray×Int)) [(5,5),(8,10),(19,43)] (λz=>[(19,sS z.1)]) (λz w'=>z.1<=q.ts.length/\O5 [J] O w'/\QY w'.heap J 63 [sS 4,.string q.nm,Zm,sS 0,Zm,Zm,Zm,z.2.1,sS q.bd]/\w'.ownsRow ↑O 145 2 z.2.1 z.2.2.length (z.2.2.flatMap ZN)/\z.2.2.length=z.1/\(∀p∈z.2.2,JD p.1)/\R=(Uj (qs.map (·.it)) (q.ts.drop z.1)).map (z.2.2++·)) (λz=>q.ts.length - z.1) (0,Zm,[]) La
  ⟨Ln _,O5.Z _ _,hv,QD _ _ _ _,U,od,hK⟩ ?_
 rintro⟨k,vl,l⟩ g w5 ⟨hk,V,hi,G,hz,hj,hE⟩;simp only[]at hk hi G hz hj hE;have Y:sX w w5:=hw.O V oa;have g0:=V.size;have h3:=hU.J V oh;have h5:=(h0.up (L':=[]) od).I Y;have hV:=hl.I Y;refine Zn rfl U (λho=>?_) (λho=>?_)
 ·refine Qw ?_;have hW:q.ts.length<=k:=by have hX:¬(k:Int)<(q.ts.length:Int):=ho;omega
  rw[Ls hW]at hE;have hY:R=some l:=by rw[hE];simp[Uj]
  refine Qc<|QS hi U U<|QI [sS 4,.string q.nm,Zm,sS 0,Zm,Zm,Zm,vl,sS q.bd] h3 ⟨U,U,U,U,U,U,U,Qp G,U,Z⟩ λw6 h4 hZ=>Qb<|Qh ⟨[sT (Qt ⟨4,q.nm,⟨Zm,Zm,Zm,Vo⟩,Zm,[],vl,l,q.bd⟩),sS 0],⟨Yk hZ,U,Z⟩,Y.O h4 oa,?_⟩;rw[hY];refine⟨⟨4,q.nm,⟨Zm,Zm,Zm,Vo⟩,Zm,[],vl,l,q.bd⟩,U,U,λL hL=>?_⟩;have ga:Zo (b4::L) w5.heap vl l.length 2 (l.flatMap ZN):=QB G oa (λb E hbL=>by
   have:=(Qg G b E).1;simp only[oL]at hbL;rcases hbL with rfl|hbL
   ·omega
   have:=hL b hbL;omega)
  have gb:V2 L w6.heap vl l:=⟨(ga.st (h4.mono od)).up (λb E=>.inl (by simp[E])),hj⟩;exact⟨hJ,⟨Zo.nil _ _ _,Zo.nil _ _ _,Zo.nil _ _ _⟩,V2.nil,gb⟩
 have S:k<q.ts.length:=by have hX:(k:Int)<(q.ts.length:Int):=ho;omega
 have h6:q.ts.drop k=q.ts[k]'S::q.ts.drop (k+1):=LE S;refine Qf<|Qe<|Qm<|Qc<|O8 (g:=QC) (i:=k) YJ hV U U S λg2 h7=>?_;refine Zh (q.ts[k]'S) λy hy=>?_;rw[hy]at h7 h6;rw[h6]at hE;refine x (Qr h7 U U)<|QM [sS 0,sS 0] λb8 w7 gc gg gh=>QI (QC y) gh oB λw8 gi h8=>xe ?_;have h9:sX w5 w8:=gc.O gi gg;refine Qj<|Qo U h8 U U<|Qz<|(Qfg (h5.I h9) y.1).mono ?_;rintro r9 w9 ⟨ha,hA⟩;have he:=h9.D hA;refine Or.elim (Ql3 (jF (qs.map (·.it)) y.1)) (λH=>?_) (λH=>?_)
 ·have gj:=Qc9 hE H;rw[H]at ha;have hf:r9=.tuple #[.string .empty,sS 2]:=ha;subst hf;refine Qa<|QW U U<|QW U U<|x Qi<|Qb<|Qe<|Qj<|Zx U U<|xe<|QO U (λT=>?_) (λT=>OW (show(2:Int)≠0 by decide) T);refine Qc<|x (Q5 [] Z)<|Qa<|QI z9 (h3.I he) ⟨U,U,U,U,U,U,U,U,U,Z⟩ λg3 gk gl=>Qb<|Qh ⟨[sT z9,sS 2],⟨Yk gl,U,Z⟩,(Y.D he).O gk oa,?_⟩;rw[gj];rfl
 refine Exists.elim H λn H=>?_;rw[H]at ha;have hf:r9=.tuple #[.string n,sS 0]/\JD n:=ha;have gm:=hf.1;subst gm;refine Qa<|QW U U<|QW U U<|x Qi<|Qb<|Qe<|Qj<|Zx U U<|xe<|QO rfl (λT=>OW U T) (λT=>?_);refine Qf ?_;have hB:=hi.I he;refine Qs<|Qo U hB U U<|Qa<|Qo U (h8.I hA) U U<|x (Qv ⟨U,U,Z⟩)<|Qn<|Za [ZN (n,y.2)] λg4 g5 hC g6 gn=>?_;have hq:=he.D hC;have g7:=hq.size;refine Qn<|Q2 (m:=1) (news:=ZN (n,y.2)) (Qk G hq) U U U (by have:=gn.at (L:=[]) od;simpa using this) oq oa oa λhr go hD hF gp=>?_;have hG:J∉ob vl:=λhm=>ov (Qg G J hm).1
 refine QQ rfl<|Qn<|Qu (j:=7) (u:=hr) ((hB.I hC).J hF hG) U U od (Qp hD) λgq hH gr=>xe ?_;have gs:O5 [J] O go:=(V.then hq od).then hF λb E=>.inr (Qg G b E).1;have gt:gq.ownsRow ↑O 145 2 hr (l++[(n,y.2)]).length ((l++[(n,y.2)]).flatMap ZN):=by
  have h1:=Qd hD hH (λb E hc=>by
   simp only[oJ]at hc;subst hc;rcases gp b E with h2|h2
   ·exact hG h2
   omega)
  rw[Lk,Ly];simpa using h1
 refine Qs<|QG U U<|Qa<|xe<|⟨(k+1,hr,l++[(n,y.2)]),by show q.ts.length - (k+1)<q.ts.length - k;omega,La,S,gs.then hH (λb E=>.inl E),gr,gt,by simp[hz],λp I=>?_,(Qc8 hE H)⟩;rcases Lc.1 I with I|I
 ·exact hj p I
 simp only[oJ]at I;subst I;exact hf.2
instance:Bw sV 90 z10 [(0,2),(2,1),(3,4),(7,3)]:={}
instance:Bw sV 149 z15 [(0,10),(10,5)]:={}
theorem zd {c:CL}(E:ZH L w.heap c)(G:Kb w 4096):
  QZ sV 95 [c.val] w λr w'=>sX w w'/\∃us c0 c1 c2 c3 sa st sm se o,r=.tuple #[sT us,.agg #[c0,c1,c2,c3,sa,sS st,sm,se,o],sS (Y2 c.V)]/\us.length=8/\Zb us/\Zb [c0,c1,c2,c3,sa,sm,se,o] /\
   (Y2 c.V=0->st=(suA c.V).st/\∀L:LN,(∀b∈L,b<↑w)->ZM L w'.heap sa sm se (suA c.V)/\jR L w'.heap c0 c1 c2 (spc c.V).a (fbs (spc c.V)) (unc c.V.ev)):=by
 refine(QdP E G).mono ?_;rintro r w' ⟨H,us,c0,c1,c2,c3,sa,sm,se,o,rfl,I,J,O,_,S⟩;exact⟨H,us,c0,c1,c2,c3,sa,_,sm,se,o,U,I,J,O,λh=>⟨OU h,S h⟩⟩
theorem Qar {c:CL}{q:MV}(H:ZH L w.heap c)(I:QL L w.heap q.v q.co):
  QZ sV 94 [c.val,.agg #[sS q.kd,sS q.ix,q.v]] w λr w'=>sX w w'/\∃cm:CL,r=.tuple #[sT cm.cells,sS (zY c.V q.m)]/\Zb cm.cells/\(zY c.V q.m=0->cm.V=Jt c.V q.m/\∀L:LN,(∀b∈L,b<↑w)->ZH L w'.heap cm):=by
 refine(Qi8 H I).mono ?_;rintro r w' ⟨J,us,rfl,V,G,O,S⟩;refine⟨J,?_⟩;by_cases E:zY c.V q.m=0
 ·obtain⟨cm,e1,e2,T⟩:=S E;have e:us=cm.cells:=by simpa using e1
  subst e;exact⟨cm,U,G,λ_=>⟨e2,T⟩⟩
 have e:=O E;subst e;exact⟨CL.mk Zm Zm Zm Zm Zm [] [] [] [] [],U,G,λh=>OW h E⟩
theorem Qdu (c:ZF)(bf:List xJ)(v:Int)(m:qt)(l:List qt)(o:List xJ)(k n:List Ky):blL c bf v (m::l) o k n=if(KO c bf v m).1≠0 then((KO c bf v m).1,[],[],[])else
  if(KO c bf v m).2.2=true then blL c bf v l (o++[(KO c bf v m).2.1]) (k++[ZS c m]) n else blL c bf v l (o++[(KO c bf v m).2.1]) k (n++[ZS c m]):=rfl
theorem Qds {c:CL}{ps:List V5}{v:Int}(h0:ZH L w.heap c)(hp:Go.Lg.XK Zp 15 V4 L' w.heap vb ps)(k9:∀b∈L',b<↑w)(hn:(ps.map (·.e.ky)).Nodup)(hpl:ps.length<=1000)(hkb:Kb w 4096):
  QZ sV 45 [c.val,vb,sS v] w λr w'=>sX w w'/\∃vp us,r=.tuple #[vp,sT us,sS (Je c.V (ps.map (·.pt)) v)]/\us.length=3/\Zb us/\(Je c.V (ps.map (·.pt)) v≠0->vp=Zm/\us=ZT) /\
   (Je c.V (ps.map (·.pt)) v=0->∃qs q,us=Q0 q/\qs.map (·.pt)=VL c.V (ps.map (·.pt)) v/\q.rp=YM c.V (ps.map (·.pt)) v/\(w'.ownsRow ↑w 149 15 vp qs.length (qs.flatMap Zp))/\Go.Lg.XK Zp 15 V4 L' w'.heap vp qs/\∀M:LN,(∀b∈M,b<↑w)->Jr M w'.heap q):=by
 have h:=h0.up (L':=[]) od;have hQ:Go.Lg.XK Zp 15 V4 [] w.heap vb ps:=hp.up od;have hpk:(ps.map (·.pt)).map (·.ky)=ps.map (·.e.ky):=by rw[Ml];rfl
 have ma:=QiP hn (λq hq=>(hp.each q hq).ones);refine Zh (ps.map (·.pt)) λbf mf=>?_;rw[mf]at hpk ma ⊢;have ha:Je c.V bf v=if Zj c.V≠0 then Zj c.V else(KN c.V bf v).1:=rfl
 have mg:VL c.V bf v=(KN c.V bf v).2.1:=rfl;have mh:YM c.V bf v=⟨(KN c.V bf v).2.2.1,(KN c.V bf v).2.2.2,(bf.filter λp=>decide (p.ky∉(O9 c.V).map (ZS c.V))).map (·.ky)⟩:=rfl;have hbR:blL c.V bf v (O9 c.V) [] [] []=KN c.V bf v:=rfl;refine Zh (Je c.V bf v) λE hE=>?_;rw[hE]at ha ⊢;refine Zq func45 ?_;refine Qc<|Zl c.cells λb3 w1 mj hb3 g3=>x Qi<|QM ZT λb7 w2 gl hb7 g4=>Qb ?_;have mo:=mj.D gl;have hz1:=mj.size;have hz2:=gl.size;refine Qc<|QS (g3.I gl) U U<|Qz<|(jt (h.I mo)).mono ?_;rintro r3 w3 ⟨hS,vM,lM,rfl,hM,hMbad,hMgood⟩;have mq:=mo.D hS;have hz3:=hS.size;refine Qa<|QW U U<|QW U U<|x Qi<|Qb<|Qe<|Qj<|Zx U U<|xe<|QO rfl (λhT=>?_) (λhT=>?_)
 ·rw[OU hT]at ha;refine Qc<|x (Qv Z)<|Qa<|x Qi<|QI ZT (g4.I hS) oC λw4 hs4 hB74=>Qb<|Qh ⟨[Zm,sT ZT,sS (Zj c.V)],⟨U,Yk hB74,U,Z⟩,mq.O hs4 oa,Zm,ZT,by rw[ha];rfl,U,oC,λ_=>⟨U,U⟩,λh0=>OW (ha.symm.D h0) hT⟩
 rw[OT hT]at ha;have g5:=Lo.1 hT;have hok:jN c.V:=(Z4 g5).sr;have hU:=hMgood g5;have ms:=QcK g5;have hMl:lM.length<=96:=by have:=Vz hok;rw[<-hU,Lh]at this;exact this
 have mt:Zo [] w3.heap vM lM.length 3 (lM.flatMap Yv):=hM.arr oa od;refine Qf<|Qc<|Qn<|YL kKy λg6 w5 mu hb37 mv=>Qb ?_;have mw:=mq.D mu;refine Qe<|Qj<|QF (Go.Lg.XK.I hQ mw).arr U<|Qa<|xe<|Q8 (α:=Nat) [(13,13),(40,49)] (λz=>[(40,sS z)]) (λz w'=>z<=ps.length/\O5 [g6] w5 w'/\Yr kKy w'.heap g6 (yL (λq:V5=>q.e.ky) paV (ps.take z) [])) (λz=>ps.length - z) 0 La ⟨Ln _,O5.Z _ _,mv⟩ ?_;rintro k g w6 ⟨hk,gm,g7⟩;have my:sX w w6:=mw.O gm oa;have hz6:=gm.size;refine Zn rfl U (λgn=>?_) (λgn=>?_)
 rotate_left
 ·have J:k<ps.length:=by have hV:(k:Int)<(ps.length:Int):=gn;omega
  have ho:ps.take (k+1)=ps.take k++[ps[k]'J]:=Lm J;have mz:=Go.Lg.XK.I hQ my;have hr:=Ll J;refine Qf<|Qe<|Qm<|Qc<|O8 (g:=Zp) (i:=k) KY mz.arr U U J λa42 m2=>?_;refine Zh (ps[k]'J) λq hq=>?_;rw[hq]at m2 ho hr;have g8:=mz.each q hr;refine x (Qr m2 U U)<|QM z15 λb13 w7 g9 hb13 hB13=>QI (Zp q) hB13 g8.ones λV hW m3=>xe ?_;have h9:sX w6 V:=g9.O hW hb13;refine Qs<|Qa<|QQ U<|QQ U<|x (Zd (us:=Xp q.e.ky) m3 U U U)<|QS m3 U U<|Qn<|XW (k:=q.e.ky) (g7.I h9) U U λY hs hm9=>xe ?_;refine Qs<|QG U U<|Qa<|xe<|⟨k+1,oa,La,J,(gm.D h9).Q hs,?_⟩;have m4:Yr kKy Y.heap g6 (xh (yL (λq:V5=>q.e.ky) paV (ps.take k) []) q.e.ky (paV q)):=hm9;rw[ho];unfold yL at m4 ⊢;rw[MD];exact m4
 refine Qw ?_;have hY:ps.length<=k:=by have hV:¬(k:Int)<(ps.length:Int):=gn;omega
 rw[Lt hY]at g7;clear hY gn hk;refine Qc<|Qb<|Qc<|QM ZT λI w7 g9 hb15 m5=>xe ?_;refine Qc<|Qn<|YL kKy λO V hW hb50 m6=>Qb ?_;have h9:=g9.D hW;have m7:=my.D h9;have hz8:=hW.size;have hl15:=m5.lt;have hl50:=m6.lt;have hl37:=mv.lt;have hZ:sX w3 V:=(mu.O gm oa).D h9;have hB38:=(g3.I (gl.D hS)).I hZ;have hB78:=(g4.I hS).I hZ;have hl3:=g3.lt;have hl7:=g4.lt;have hMA8:=mt.I hZ;refine Qe<|Qj<|QF hMA8 U<|Qa<|xe<|Q8 (α:=BlS) [(6,6),(8,8),(14,14),(18,25),(53,123)] (λz=>[(14,z.vo),(53,sS z.k)]) (λz w'=>z.k<=lM.length/\O5 [I,O] V w'/\BlI (b7::I::O::L') ↑V w' I O ((lM.take z.k).map λq=>ZS c.V q.m) z/\blL c.V bf v ((lM.drop z.k).map MV.m) (z.qs.map (·.pt)) z.K z.M=KN c.V bf v/\(z.qs.length=z.k/\z.K.length<=z.k/\z.M.length<=z.k))
  (λz=>lM.length - z.k) ⟨0,Zm,[],Zm,[],Zm,[]⟩ oB ⟨Ln _,O5.Z _ _,⟨⟨_,(m5.I hW)⟩,m6,UH.nil,QD _ _ _ _,QD _ _ _ _,λb H=>by simp[ob]at H,λb H=>by simp[ob]at H⟩,by rw[List.drop_zero,hU];exact hbR,U,Lv _,Lv _⟩ ?_
 rintro⟨k,vo,qs,vk,K,vm,M⟩ g Y ⟨hk,hs,S,hR,hql,hKl,hMl'⟩;simp only[]at hk S hR hql hKl hMl';have hX:∀b∈[I,O],↑w<=b/\b<V.heap.size:=λb H=>by simp only[oL,oK,or_false]at H;omega
 have ka:sX w Y:=m7.then hs (λb H=>.inr (hX b H).1);have hz9:=hs.size;have m8:=hB38.J hs ot;have m9:=hB78.J hs ot;have hm379:=(g7.I h9).J hs ot;have hp9:=Go.Lg.XK.I hQ ka;refine Zn rfl U (λkb=>?_) (λkb=>?_)
 ·refine Qw ?_;have hY:lM.length<=k:=by have hV:¬(k:Int)<(lM.length:Int):=kb;omega
  have go:=S;rw[Lt hY]at go;rw[Ls hY]at hR;have hR0:KN c.V bf v=(0,qs.map (·.pt),K,M):=hR.symm;rw[hR0]at ha mg mh;have pa:E=0:=ha;have hks:(lM.map λq=>ZS c.V q.m)=(O9 c.V).map (ZS c.V):=by rw[<-hU,Ml];rfl
  rw[hks]at go;obtain⟨T15,hB159⟩:=go.b;have hm509:=go.n;refine Qe<|Qj<|QF hp9.arr U<|Qa<|xe<|Q8 (α:=Nat×O2×List Ky) [(27,27),(126,144)] (λz=>[(126,sS z.1)]) (λz w'=>z.1<=ps.length/\O5 [I] Y w'/\QY w'.heap I T15 [vk,vm,z.2.1]/\w'.ownsRow ↑Y 75 2 z.2.1 z.2.2.length (z.2.2.flatMap Xp)/\z.2.2=((ps.take z.1).filter λp=>decide (p.e.ky∉(O9 c.V).map (ZS c.V))).map (·.e.ky))
   (λz=>ps.length - z.1) (0,Zm,[]) La ⟨Ln _,O5.Z _ _,hB159,QD _ _ _ _,U⟩ ?_
  rintro⟨i,vg,G⟩ g ga ⟨hi,hf,kc,h4,hG⟩;simp only[]at hi kc h4 hG;have pc:sX w ga:=ka.O hf oa;have hz10:=hf.size;have hB710:=m9.J hf oh;have hm5010:=hm509.J hf oh;have hGl:G.length<=1000:=by
   rw[hG,Lh];refine LH (Mf _ _) ?_;rw[LA];omega
  refine Zn U U (λke=>?_) (λke=>?_)
  ·refine Qw ?_;have hie:ps.length<=i:=by have hV:¬(i:Int)<(ps.length:Int):=ke;omega
   rw[Lt hie]at hG;have pd:Zb [vk,vm,vg]:=⟨Qp S.k,Qp S.m,Qp h4,Z⟩;refine Qe<|ZA [] (YX 0 5 [3])<|p Qx<|pq (λ_ hc=>Zr (kc.I hc) U U)<|p ZG<|pkk<|JW [vk,vm,vg] (hB710.I (O5.C _ _)) pd λgp kf hB711 =>
    p ZG<|pe ?_
   have hB:O5 [b7] ga gp:=(O5.C [] ga).any.Q kf;have n7:∀b,↑V<=b->b∉[b7]:=λb H T=>by rw[Lb.1 T]at H;omega
   have kg:∀b,↑V<=b->b∉[I]:=λb H T=>by rw[Lb.1 T]at H;omega
   have pf:=Qd (Qd S.k hf (λb H=>kg b (Qg S.k b H).1)) hB (λb H=>n7 b (Qg S.k b H).1);have pg:=Qd (Qd S.m hf (λb H=>kg b (Qg S.m b H).1)) hB (λb H=>n7 b (Qg S.m b H).1);have ph:=Qd h4 hB (λb H=>n7 b (ov (Qg h4 b H).1));have kh:=Qd (Qd S.o.own hf (λb H=>kg b (Qg S.o.own b H).1)) hB (λb H=>n7 b (Qg S.o.own b H).1);have ki:sX w gp:=pc.O hB oa;refine Qh ⟨[vo,.agg #[vk,vm,vg],sS 0],⟨U,Yk hB711,U,Z⟩,ki,vo,[vk,vm,vg],by rw[pa];rfl,U,pd,λh0=>OW pa h0,λ_=>⟨qs,⟨vk,K,vm,M,vg,G⟩,U,mg.symm,?_,Zz kh oa,⟨QB kh oa (λb H hbL=>oy (Qg kh b H).1 (k9 b hbL)),λq hq=>?_⟩,λN hN=>⟨QB pf (show K.length<=1099511627776 by omega) (λb H hbL=>oy (Qg pf b H).1 (hN b hbL)),QB pg (show M.length<=1099511627776 by omega) (λb H hbL=>oy (Qg pg b H).1 (hN b hbL)),QB ph (show G.length<=1099511627776 by omega) (λb H hbL=>oy (Qg ph b H).1 (hN b hbL))⟩⟩⟩
   ·rw[mh];show Rp.mk K M G=_;rw[hG,<-mf,List.filter_map,Ml];rfl
   have hq9:=S.o.each q hq;have hq9':V4 (b7::I::O::L') Y.heap q:=Mm.mono hq9 λb H=>Lc.2 (.inr (Lc.2 (.inr (Lc.2 (.inr H)))));exact((hq9'.st (hf.mono od)).st (hB.mono od)).up (λb H=>.inl (by simp[H]))
  have J:i<ps.length:=by have hV:(i:Int)<(ps.length:Int):=ke;omega
  have ho:ps.take (i+1)=ps.take i++[ps[i]'J]:=Lm J;have pj:=Go.Lg.XK.I hQ pc;have hr:=Ll J;refine Qf<|Qe<|Qm<|Qc<|O8 (g:=Zp) (i:=i) KY pj.arr U U J λa128 pm=>?_;refine Zh (ps[i]'J) λq hq=>?_;rw[hq]at pm ho hr;have g8:=pj.each q hr;refine x (Qr pm U U)<|QM z15 λb27 pn gb hb27 hB27=>QI (Zp q) hB27 g8.ones λpo gq pp=>xe ?_;have hD:sX ga po:=gb.O gq hb27;have hz13:=hD.size;refine Qj<|QQ U<|QQ U<|x (Zd (us:=Xp q.e.ky) pp U U U)<|x (QgJ (s:=q.e.ky) (hm5010.I hD) U U)<|x (ZC U)<|xe ?_;have kj:=kc.I hD;have pu:=Qk h4 hD;refine QU U (λkk=>?_) (λkk=>?_)
  ·have kn:q.e.ky∉(O9 c.V).map (ZS c.V):=by simpa using kk
   refine Qs<|Qo U kj U U<|QQ U<|QQ U<|x (Zd (us:=Xp q.e.ky) pp U U U)<|Qn<|Za [Xp q.e.ky] λb141 ko hF hb141 hB141 =>
    Qn<|Q2 (m:=1) (news:=Xp q.e.ky) (L:=[]) (Qk pu hF) U U U (by have:=hB141.at (L:=[]) od;simpa using this) oq oa (ov hF.size) λkq hl pw hg pz=>QQ U<|Qn<|Qu (j:=2) (u:=kq) ((kj.I hF).J hg (λH=>ov (Qg h4 I H).1)) U U od (Qp pw) λp0 gr hB1516 =>
    xe ?_
   refine Qs<|QG U U<|Qa<|xe ?_;have ht:O5 [I] Y ko:=hf.D (hD.D hF);have kr:O5 [I] Y hl:=ht.then hg (λb H=>.inr (Qg h4 b H).1);refine⟨(i+1,kq,G++[q.e.ky]),og,La,J,kr.Q gr,hB1516,?_,?_⟩
   ·have p1:hl.ownsRow ↑Y 75 2 kq (G++[q.e.ky]).length ((G++[q.e.ky]).flatMap Xp):=by
     rw[Lk,Ly];simpa using pw
    refine Qd p1 gr (λb H T=>?_);have:=(Qg p1 b H).1;rw[Lb.1 T]at this;omega
   simp only[];rw[ho,L3,Lp,<-hG,Mb,OU (OX kn)];rfl
  have kn:q.e.ky∈(O9 c.V).map (ZS c.V):=by simpa using kk
  refine Qf<|Qs<|QG U U<|Qa<|xe<|⟨(i+1,vg,G),og,La,J,hf.D hD,kj,pu,?_⟩;simp only[];rw[ho,L3,Lp,<-hG,Mb,OT (oA kn)];simp
 have J:k<lM.length:=by have hV:(k:Int)<(lM.length:Int):=kb;omega
 have ho:lM.take (k+1)=lM.take k++[lM[k]'J]:=Lm J;have hr:=Ll J;rw[LE J,LG,Qdu]at hR;have kt:sX w3 Y:=hZ.then hs (λb H=>.inr (by simp only[oL,oK,or_false]at H;have:=hZ.size;omega));have hn1:(lM.map λq=>ZS c.V q.m).Nodup:=by
  rw[<-hU,Ml]at ms;exact ms
 have ku:=hn1.sublist ((List.take_sublist (k+1) lM).map λq=>ZS c.V q.m);rw[ho,Lp]at ku;refine Qf<|Qe<|Qm<|Qc<|O8 (g:=Yv) (i:=k) Qd7 (mt.I kt) U U J λa55 p2=>?_;refine Zh (lM[k]'J) λq hq=>?_;rw[hq]at p2 ho hr hR ku;have hqI:QL [] Y.heap q.v q.co:=(YI.I hM kt).each q hr [] od;have hqm:q.m∈O9 c.V:=by rw[<-hU];exact LM hr
 have p3:ZS c.V q.m∉(lM.take k).map λq=>ZS c.V q.m:=λT=>(MC.1 ku).2.2 _ T _ (Lb.2 U) U;have gc:=Qfk hqm;have hh:=ma (ZS c.V q.m);have gs:=λp:xJ=>QaV (c:=c.V) (bf:=bf) (v:=v) (m:=q.m) (p:=p);have gt:=Qf9 (c:=c.V) (bf:=bf) (v:=v) (m:=q.m);have hb0:=Qga (c:=c.V) (bf:=bf) (v:=v) (m:=q.m);refine x (Qr p2 U U)<|QM [sS 0,sS 0,nS] λb18 ga hf hb18 hB18=>QI (Yv q) hB18 ⟨U,U,hqI.one,Z⟩ λgp kf p4=>xe ?_;have gu:sX Y gp:=hf.O kf hb18;have ki:=ka.D gu;have hK:=Qji (q:=q) (h.I ki) gc.1 gc.2.1 (λe=>by have:=gc.2.2.1 e;rwa [show c.V.rq.length=c.rq.length from Lh ..]at this) (λe=>by have:=gc.2.2.2.1 e;rwa [show c.V.ex.length=c.ex.length from Lh ..]at this) (λe=>by have:=gc.2.2.2.2 e;rwa [show c.V.cs.length=c.cs.length from Lh ..]at this);have p5:Vh c.V v q.m=⟨ZS c.V q.m,v,suA (Jt c.V q.m),(Vk (Jt c.V q.m)).1,(Vk (Jt c.V q.m)).2.1,(Vk (Jt c.V q.m)).2.2,Jt c.V q.m⟩:=rfl;refine Zh (ZS c.V q.m) λky p6=>?_;rw[p6]at p3 hh gs gt hK hR p5;refine Qc<|QS (m8.I gu) U U<|QS p4 U U<|Qz<|hK.mono ?_;rintro _ pn ⟨rfl,gb⟩;refine QM [sS 0,.string .empty] λp7 po gq hb19 hB19=>QI (Xp ky) hB19 oB λko hF p8=>xe ?_;have p9:sX pn ko:=gq.O hF hb19;have ht:=(gu.D gb).D p9;have hz914:=ht.size;have hz911:=gu.size;have hz12:=gb.size;have qc:=S.I ht;have hz10:=hf.size;have hz13:=gq.size;refine Qj<|QS p8 U U<|Qn<|XW (k:=ky) qc.n U U λhl hg pz=>xe ?_;have kr:O5 [O] Y hl:=ht.any.Q hg;have qf:O5 [I,O] V hl:=hs.Q (kr.mono od);have ql:sX w hl:=m7.then qf (λb H=>.inr (hX b H).1);have hz15:=hg.size;have hI15:BlI (b7::I::O::L') ↑V hl I O ((lM.take (k+1)).map λq=>ZS c.V q.m) ⟨k,vo,qs,vk,K,vm,M⟩:=by
  refine qc.now hg ?_ oa oa od;have h5:Yr kKy hl.heap O (xh (((lM.take k).map λq=>ZS c.V q.m).map λs=>(s,Value.bool true)) ky (.bool true)):=pz;rw[Qik p3]at h5;have e:((lM.take (k+1)).map λq=>ZS c.V q.m)=((lM.take k).map λq=>ZS c.V q.m)++[ky]:=by
   rw[ho,Lp,LG,p6];rfl
  rw[e];exact h5
 have hne50:∀b,↑V<=b->b∉[O]:=λb H T=>by rw[Lb.1 T]at H;omega
 have hB1815:=((p4.I gb).I p9).J hg oh;have hB1915:=p8.J hg oh;have hB315:=(m8.I ht).J hg oh;have qm:=(m9.I ht).J hg oh;have hm3715:=(hm379.I ht).J hg oh;have hqI3:QL [] w3.heap q.v q.co:=hM.each q hr [] od;have hqI15:QL [] hl.heap q.v q.co:=((((hqI3.up (L':=[O]) (λb H=>.inr (by rw[Lb.1 H];omega))).I kt).I ht).st hg).up od;refine Qc<|QS hB315 U U<|QS hB1815 U U<|Qz<|(Qar (q:=q) (h.I ql) hqI15).mono ?_;rintro r23 p0 ⟨gr,cm,rfl,ho5,hgood⟩;refine Qa<|QW U U<|QW U U<|QM Z8 λb20 w17 hs17 hb20 hB20=>QI cm.cells hB20 ho5 λqn hs18 hB2018 =>
  Qb ?_
 have kv:sX p0 qn:=hs17.O hs18 hb20;have h1:=gr.D kv;have qo:=ql.D h1;have hz1518:=h1.size;refine Qe<|Qj<|Zx U U<|xe<|QO rfl (λgg=>?_) (λgg=>?_)
 ·have he:=hb0 gg;rw[he,OU gg]at hR;rw[<-hR]at ha;refine Qc<|x (Qv Z)<|Qa<|x Qi<|QI ZT (qm.I h1) oC λw19 kw hB719=>Qb<|Qh ⟨[Zm,sT ZT,sS (zY c.V q.m)],⟨U,Yk hB719,U,Z⟩,qo.O kw oa,Zm,ZT,by rw[ha];rfl,U,oC,λ_=>⟨U,U⟩,λh0=>OW (ha.symm.D h0) gg⟩
 have kx:=Lo.1 gg;have gs:=λp=>gs p kx;have gt:=gt kx;have gh:=hgood kx;have hI18:=hI15.I h1;have qr:=hB1915.I h1;refine Qf<|Exists.elim hh λus hh=>Exists.elim hh λis hh=>?_;refine Qe<|Qj<|QS qr U U<|x (QlW (k:=ky) (hm3715.I h1) U U hh.1)<|Qa<|QW U U<|QW U U<|QM z15 λb22 w19 kw hb22 hB22 =>
  Qn<|Zv (us:=us) hB22 U U hh.2.1 U hh.2.2.1 λhH hs20 q0=>Qb ?_
 have hJ:sX qn hH:=kw.O hs20 hb22;have q1:=qo.D hJ;have q2:=hB2018.I hJ;have hz1820:=hJ.size;have q3:∀N:LN,(∀b∈N,b<↑hl)->ZH N hH.heap cm:=λN hN=>((gh.2 N hN).I kv).I hJ;refine QX (α:=Bool) [(78,84)] (λz=>[(84,.bool z)]) (λz w'=>sX hH w'/\(z=true->∃p∈ps,us=Zp p/\KO c.V bf v q.m=(0,p.pt,true))/\(z=false->KO c.V bf v q.m=(Y2 (Jt c.V q.m),Vh c.V v q.m,false))) om ?_ ?_
 ·refine Qs<|xB Kq (λkz=>?_) (λkz=>?_)
  ·refine Exists.elim (hh.2.2.2.1 kz) λp h2=>?_;have gv:V4 [] hH.heap p:=(Go.Lg.XK.I hQ q1).each p h2.1;have gw:=h2.2.1;have hEq:QZ sV 60 [p.c.val,cm.val] hH λr w'=>r=.bool (decide (p.c.V=Jt c.V q.m))/\sX hH w':=by
    rw[<-gh.1];exact UF gv.c (q3 [] od)
   refine Qa<|QQ U<|x (Zd (us:=p.c.cells) q0 U U (by rw[gw];rfl))<|QS q2 U U<|Qz<|hEq.mono ?_;rintro _ gx ⟨rfl,hu⟩;refine QE U<|xe ?_;have H:=gs p.pt h2.2.2;refine⟨decide (p.c.V=Jt c.V q.m),La,hu,λhz=>⟨p,h2.1,gw,?_⟩,λhz=>?_⟩
   ·rw[H,OU (show p.pt.c=_ from OY hz)]
   rw[H,OT (show ¬p.pt.c=_ from O0 hz)]
  refine Qa<|Zu<|Kz<|QE U<|xe ?_;exact⟨false,La,O5.Z _ _,λhz=>OW hz ol,λ_=>gt (hh.2.2.2.2 kz)⟩
 rintro zb g gx ⟨hu,hzt,hzf⟩;have gy:=hJ.D hu;have k0:=q1.D hu;have hL:=hI18.I gy;have hz21:=hu.size;have q4:=qr.I gy;have q5:=q2.I hu;have h721:=(qm.I h1).I gy;have j1:O5 [I,O] V gx:=(qf.D h1).D gy;have gvo:=Qg hL.o.own;have gvk:=Qg hL.k;have gvm:=Qg hL.m;obtain⟨T15,j2⟩:=hL.b;have n15o:I∉ob vo:=λT=>ov (gvo I T).1
 have n15k:I∉ob vk:=λT=>ov (gvk I T).1
 have n15m:I∉ob vm:=λT=>ov (gvm I T).1
 have n19o:p7∉ob vo:=λT=>ov (Qg S.o.own p7 T)
 have j3:∀b∈ob vo++(ob vk++(ob vm++(b7::I::O::L'))),b<↑Y/\(b∈L'\/↑w<=b):=λb H=>by
  rcases Lc.1 H with H|H
  ·have:=Qg S.o.own b H;exact⟨this.2,.inr oa⟩
  rcases Lc.1 H with H|H
  ·have:=Qg S.k b H;exact⟨this.2,.inr oa⟩
  rcases Lc.1 H with H|H
  ·have:=Qg S.m b H;exact⟨this.2,.inr oa⟩
  simp only[oL]at H;rcases H with rfl|rfl|rfl|H
  ·exact⟨oa,.inr oa⟩
  ·exact⟨oa,.inr oa⟩
  ·exact⟨oa,.inr oa⟩
  exact⟨ov (k9 b H),.inl H⟩
 refine QU rfl (λk4=>?_) (λk4=>?_)
 ·refine Exists.elim (hzt k4) λp h2=>?_;have gw:=h2.2.1;have H:=h2.2.2;rw[H,OT od,OU rfl]at hR;have gv:V4 (ob vo++(ob vk++(ob vm++(b7::I::O::L')))) gx.heap p:=((hp.each p h2.1).up λb H=>(j3 b H).2).I k0;refine Qj<|QS (q0.I hu) U hh.2.1<|Qn<|Xx (us:=[us]) U U ol (by exact(by decide:1*15<=1000000)) ⟨U,hh.2.1,Z⟩ λb87 k5 hv hb87 hB87=>?_;have hA22:At [] k5.heap ⟨b87,0,none⟩ (Zp p):=by have:=hB87.at (L:=[]) od;rw[gw]at this;simpa using this
  have za:=hL.I hv;refine Qn<|Ja (m:=1) (news:=Zp p) za.o.own U U U hA22 (Zb.all gv.ones) (show qs.length+1<=1073741824 by omega) (ov hv.size) λv23 w23 ho23 h6 hn23=>?_;refine Qb ?_;have hI23:=za.part (gv.I hv) ho23 h6 hn23 oa oa;have zv:=(j2.I hv).J h6 n15o;have hB1923:=(q4.I hv).J h6 n19o;refine Qc<|Qo U zv U U<|QS hB1923 U U<|Qn<|Za [Xp ky] λb92 w24 h7 hb92 hB92=>?_;have z1:=hI23.I h7;refine Qn<|Q2 (m:=1) (news:=Xp ky) (L:=[]) z1.k U U U (by have:=hB92.at (L:=[]) od;simpa using this) oq (show K.length+1<=1099511627776 by omega) (oz hv.size h6.size h7.size) λz2 w25 z3 hO hn25=>?_;refine QQ U<|Qn<|Qu (j:=0) (u:=z2) ((zv.I h7).J hO n15k) U U od (Qp z3) λk6 gz hB1526=>xe ?_;have hw:=z1.kept z3 hO hn25 gz ⟨T15,hB1526⟩ oa oa oa od;refine Qw<|Qs<|QG U U<|Qa<|xe ?_;have hs826:O5 [I,O] V k6:=((((j1.D hv).then h6 (λb H=>.inr (gvo b H).1)).D h7).then hO (λb H=>.inr (gvk b H).1)).Q (gz.mono od);refine⟨⟨k+1,v23,qs++[p],z2,K++[ky],vm,M⟩,og,oB,J,hs826,⟨hw.b,hw.n,hw.o,hw.k,hw.m,hw.d1,hw.d2⟩,?_,by simp only[oN,oP];omega⟩;simp only[];rw[Lp];exact hR
 have H:=hzf k4;rw[H]at hR;have hSy:=zd ((q3 [] od).I hu) (hkb.I k0);rw[gh.1]at hSy;refine Qf<|Qc<|QS q5 U U<|Qz<|hSy.mono ?_;rintro r36 k5 ⟨hv,us8,c0,c1,c2,c3,sa,st,sm,se,oo,rfl,hl8,ho8,h3,g0⟩;refine Qa<|QW U U<|QW U U<|QW U U<|QM [nS,sS 0,nS,nS,nS,nS,nS,nS] λb24 w23 h6 hb24 z4=>QM [nS,nS,nS,sS 0,nS,sS 0,nS,nS,nS] λb25 w24 h7 hb25 hB25 =>
  Qn<|Zv (us:=us8) (z4.I h7) U U hl8 U ho8 λw25 hO hB2425=>?_
 have hl24:=z4.lt;have n2425:b25∉[b24]:=oh
 refine QI [c0,c1,c2,c3,sa,sS st,sm,se,oo] (hB25.J hO n2425) ⟨h3.1,h3.2.1,h3.2.2.1,h3.2.2.2.1,h3.2.2.2.2.1,U,h3.2.2.2.2.2.1,h3.2.2.2.2.2.2.1,h3.2.2.2.2.2.2.2.1,Z⟩ λk6 gz z5=>Qb ?_;have gi:sX k5 k6:=(((h6.D h7).O hO oa).O gz oa);have hy:=hv.D gi;have hs026:=k0.D hy;have hz2126:=hy.size;refine Qe<|Qj<|Zx U U<|xe<|QO rfl (λgj=>?_) (λgj=>?_)
 ·rw[OU gj]at hR;rw[<-hR]at ha;refine Qc<|x (Qv Z)<|Qa<|x Qi<|QI ZT (h721.I hy) oC λk7 hj hB727=>Qb<|Qh ⟨[Zm,sT ZT,sS (Y2 (Jt c.V q.m))],⟨U,Yk hB727,U,Z⟩,hs026.O hj oa,Zm,ZT,by rw[ha];rfl,U,oC,λ_=>⟨U,U⟩,λh0=>OW (ha.symm.D h0) gj⟩
 rw[OT gj,OT od]at hR;have g0:=g0 (Lo.1 gj);have hst:=g0.1;refine Qf<|Qc ?_;have hw:=hL.I hy;have hB1926:=q4.I hy;have hB2026:=q5.I hy;refine Zh (⟨⟨ky,v,⟨sa,sm,se,suA (Jt c.V q.m)⟩,c0,(Vk (Jt c.V q.m)).1,c1,(Vk (Jt c.V q.m)).2.1,c2,(Vk (Jt c.V q.m)).2.2⟩,cm⟩:V5) λP hP=>?_;have hPc:[sS ky.1,.string ky.2,sS v,sa,sS st,sm,se,c0,c1,c2,cm.ve,cm.vc,cm.vr,cm.vx,cm.vk]=Zp P:=by rw[<-hP,hst]
 refine Qa<|QS hB1926 U U<|Qa<|QQ U<|x (Zd (us:=[sa,sS st,sm,se]) z5 U U U)<|QQ U<|x (Zd (us:=[c0,c1,c2]) z5 U U U) <|
  x (Q5 [(0,Xp ky),(1,[sS v]),(2,[sa,sS st,sm,se]),(3,[c0,c1,c2])] ⟨U,U,U,U,U,U,U,U,Z⟩)<|QS hB2026 U U<|x (Q5 [(0,[sS ky.1,.string ky.2,sS v,sa,sS st,sm,se,c0,c1,c2]),(1,cm.cells)] ⟨U,U,U,U,Z⟩) <|
  Qn<|Za [[sS ky.1,.string ky.2,sS v,sa,sS st,sm,se,c0,c1,c2,cm.ve,cm.vc,cm.vr,cm.vx,cm.vk]] λb115 k7 hj hb115 hB115=>?_
 have hA27:At [] k7.heap ⟨b115,0,none⟩ (Zp P):=by have:=hB115.at (L:=[]) od;rw[<-hPc];simpa using this
 have hI27:=hw.I hj;have hz27:=hj.size;have hLc:∀b∈ob vo++(ob vk++(ob vm++(b7::I::O::L'))),b<↑hl/\b<gx.heap.size:=λb H=>ov (j3 b H).1
 have hPA:V4 (ob vo++(ob vk++(ob vm++(b7::I::O::L')))) k7.heap P:=by
  obtain⟨hA,hC⟩:=g0.2 _ (λb H=>(hLc b H).2);have hcmX:=((((gh.2 _ (λb H=>(hLc b H).1)).I kv).I hJ).I hu).I hy;rw[<-hP];exact⟨⟨(hA.I gi).I hj,(hC.k.I gi).I hj,(hC.d.I gi).I hj,(hC.r.I gi).I hj⟩,hcmX.I hj⟩
 refine Qn<|Ja (m:=1) (news:=Zp P) hI27.o.own U U U hA27 (Zb.all hPA.ones) (show qs.length+1<=1073741824 by omega) oa λv28 w28 ho28 gk hn28=>?_;refine Qb ?_;have hI28:=hI27.part hPA ho28 gk hn28 oa oa;have hB1528:=((j2.I hy).I hj).J gk n15o;have hB1928:=(hB1926.I hj).J gk n19o;refine Qs<|Qo U hB1528 U U<|QS hB1928 U U<|Qn<|Za [Xp ky] λb120 w29 g2 hb120 hB120=>?_;have hI29:=hI28.I g2;refine Qn<|Q2 (m:=1) (news:=Xp ky) (L:=[]) hI29.m U U U (by have:=hB120.at (L:=[]) od;simpa using this) oq (show M.length+1<=1099511627776 by omega) (oy gk.size g2.size) λv30 w30 ho30 k8 hn30=>?_;refine QQ rfl<|Qn<|Qu (j:=1) (u:=v30) ((hB1528.I g2).J k8 n15m) U U od (Qp ho30) λw31 hs31 hB1531=>xe ?_;have h8:=hI29.mades ho30 k8 hn30 hs31 ⟨T15,hB1531⟩ oa oa oa od;refine Qs<|QG U U<|Qa<|xe ?_;have hs831:O5 [I,O] V w31:=(((((j1.D hy).D hj).then gk (λb H=>.inr (gvo b H).1)).D g2).then k8 (λb H=>.inr (gvm b H).1)).Q (hs31.mono od);refine⟨⟨k+1,v28,qs++[P],vk,K,v30,M++[ky]⟩,og,oB,J,hs831,⟨h8.b,h8.n,h8.o,h8.k,h8.m,h8.d1,h8.d2⟩,?_,by simp only[oN,oP];omega⟩;simp only[];rw[Lp];have hPp:[P].map (·.pt)=[Vh c.V v q.m]:=by
  rw[p5,<-hP];show[V5.pt _]=_;unfold V5.pt;rw[gh.1]
 rw[hPp];exact hR
structure CkP (c:ZF):Prop where
 ev:Kt c.ev=0
 ne:c.co.length≠0
 n8:c.co.length<=8
 n12:c.co.length+c.rq.length<=12
 co:(YC c.ev.length (Vm c.ev.length) [] [] c.co).1=0
 rq:J1 c.ev.length (YC c.ev.length (Vm c.ev.length) [] [] c.co).2.2 (YC c.ev.length (Vm c.ev.length) [] [] c.co).2.1 c.rq=0
 cd:YE (szs c.co) c.ex c.cs=0
theorem Qhq :Zj c=0↔CkP c:=by
 constructor
 ·intro h;unfold Zj at h;split at h
  ·rename_i E;exact OW h E
  rename_i E;split at h
  ·cases h
  rename_i I;split at h
  ·cases h
  rename_i J;split at h
  ·rename_i G;exact OW h G
  rename_i G;split at h
  ·rename_i H;exact OW h H
  rename_i H;exact⟨Lo.1 E,I,oa,oa,Lo.1 G,Lo.1 H,h⟩
 intro h;unfold Zj;rw[OT (not_not_intro h.ev),OT h.ne,OT (oy h.n8 h.n12),OT (not_not_intro h.co),OT (not_not_intro h.rq)];exact h.cd
theorem Qhp {sz:LI}{ex:List qu}{cs:List xL}(h:YE sz ex cs=0):(∀x∈ex,Y8 (x.ls.map (·.1))/\x.ls.length≠0)/\∀x∈cs,Y8 (x.ts.map (·.1)):=by
 unfold YE at h;split at h
 ·cases h
 split at h
 ·cases h
 split at h
 ·cases h
 split at h
 ·rename_i E;exact OW h E
 rename_i hx;refine⟨λx H=>?_,λx H=>?_⟩
 ·have E:=(Km _ _ _ (Lo.1 hx)) x H;unfold Jp at E;split at E
  ·cases E
  rename_i G;exact⟨(UC _ _ _ E).2.1,G⟩
 have E:=(VH _ _ _ h) x H;unfold XJ at E;split at E
 ·cases E
 split at E
 ·rename_i G;exact OW E G
 rename_i G;exact(UA _ _ _ (Lo.1 G)).2.1
theorem jf (h:(ZR c).1=0):∃a b,J5 c.co c.ex=some a/\Kr c.co c.cs=some b/\(ZR c).2=c.co.map (K9 1)++(c.rq.map (K9 2)++(a++b))/\KW (ZR c).2=0:=by
 unfold ZR QfN at *;cases G:J5 c.co c.ex with
 | none=>rw[G]at h;simp at h
 | some a =>
  cases H:Kr c.co c.cs with
  | none=>rw[G,H]at h;simp at h
  | some b =>
   rw[G,H]at h;simp only[]at h ⊢;by_cases E:KW (c.co.map (K9 1)++(c.rq.map (K9 2)++(a++b)))≠0
   ·rw[OU E]at h;exact OW h E
   rw[OT E];exact⟨a,b,U,U,U,Lo.1 E⟩
abbrev dky (x:Yi):Ky:=(x.kd,x.nm)
theorem Qdb {k:Int}{n:ByteArray}{x:Yi}:Ux k n x=true↔dky x=(k,n):=by
 unfold Ux dky;rw[Lx,decide_eq_true_iff,decide_eq_true_iff,Prod.mk.injEq]
theorem Qkd {l:List Yi}{k:Int}{n:ByteArray}:Va l k n=true↔(k,n)∈l.map dky:=by
 unfold Va YF;rw[decide_eq_true_iff];constructor
 ·intro h;exact LC.2 ⟨_,Ll h,Qdb.1 (List.findIdx_getElem (w:=h))⟩
 intro h;obtain⟨x,hx,e⟩:=LC.1 h;exact List.findIdx_lt_length_of_exists ⟨x,hx,Qdb.2 e⟩
theorem Qrf {l:List Yi}{k:Nat}(h:k<l.length):dk1 l k (l[k]'h)=0↔((1<=(l[k]'h).kd/\(l[k]'h).kd<=4)/\Xj (l[k]'h).nm=true/\dky (l[k]'h)∉(l.map dky).take k/\(0<k->((l[k - 1]'oa).kd<=(l[k]'h).kd))/\Qcw (l[k]'h)=true):=by
 have S:((l.getD (k - 1) ⟨0,.empty,Vo,[],[],0⟩))=l[k - 1]'oa:=by rw[Ns,LF oa];rfl
 have J:Va (l.take k) (l[k]'h).kd (l[k]'h).nm=true↔dky (l[k]'h)∈(l.map dky).take k:=by rw[Qkd,NS]
 unfold dk1;rw[S];constructor
 ·intro E;split at E
  ·cases E
  rename_i T;split at E
  ·cases E
  rename_i G;split at E
  ·cases E
  rename_i H;split at E
  ·cases E
  rename_i O;split at E
  ·cases E
  rename_i I;exact⟨oa,oA G,λe=>H (J.2 e),λV=>oa,oA I⟩
 rintro⟨T,G,H,O,I⟩;rw[OT oa,OT (by rw[G];decide),OT (λe=>H (J.1 e)),OT (λe=>ov (O e.1)),OT (by rw[I];decide)]
def qe (a:Q6):Q6:=⟨a.al,a.st,Vm a.st.toNat,a.ed⟩
structure POk (p:xJ):Prop where
 e:Y2 p.c=0
 sp:p.sp=suA p.c
 kp:p.kp=(Vk p.c).1
 ds:p.ds=(Vk p.c).2.1
 rm:p.rm=(Vk p.c).2.2
theorem POk.new {v:Int}{m:qt}(h:Y2 (Jt c m)=0):POk (Vh c v m):=⟨h,U,U,U,U⟩
structure QkW (c:ZF)(ps:List xJ):Prop where
 ck:Zj c=0
 mc:∀m∈O9 c,zY c m=0/\Y2 (Jt c m)=0
 ky:ps.map (·.ky)=(O9 c).map (ZS c)
 cc:ps.map (·.c)=(O9 c).map (Jt c)
 ok:∀p∈ps,POk p
theorem Qcz {l:List xJ}{k:Ky}{p:xJ}(h:KZ l k=some p):p∈l/\p.ky=k:=by
 unfold KZ at h;have E:=List.find?_some h;exact⟨List.mem_of_find?_eq_some h,oA E⟩
theorem QqV {v:Int}{m:qt}(I:∀p∈bf,POk p)(h:(KO c bf v m).1=0):zY c m=0/\Y2 (Jt c m)=0/\POk (KO c bf v m).2.1/\(KO c bf v m).2.1.c=Jt c m/\(KO c bf v m).2.1.ky=ZS c m:=by
 refine⟨?_,?_,?_,?_,QpC c bf v m⟩
 all_goals unfold KO at *
 ·by_cases E:zY c m≠0
  ·rw[OU E]at h;exact OW h E
  exact Lo.1 E
 all_goals
  by_cases E:zY c m≠0
  ·rw[OU E]at h;exact OW h E
  rw[OT E]at h
  try rw[OT E]
  cases H:KZ bf (ZS c m)with
  | none =>
   rw[H]at h
   first|exact h|exact POk.new h|rfl
  | some p =>
   rw[H]at h;obtain⟨J,_⟩:=Qcz H;simp only[]at h ⊢;by_cases G:p.c=Jt c m
   ·first|exact G ▸ (I p J).e|(rw[OU G];first|exact I p J|exact G)
   rw[OT G]at h
   first|exact h|(rw[OT G];first|exact POk.new h|rfl)
theorem QkM {c:ZF}{bf:List xJ}{v:Int}:∀(l:List qt) (o:List xJ) (k n:List Ky),(blL c bf v l o k n).1=0->(∀m∈l,(KO c bf v m).1=0)
 | [],_,_,_,_,_,E=>by cases E
 | m::l,o,k,n,h,m',E=>by
  rw[blL]at h;by_cases G:(KO c bf v m).1≠0
  ·rw[OU G]at h;exact OW h G
  rw[OT G]at h;rcases Li.1 E with rfl|E
  ·exact Lo.1 G
  split at h
  ·exact QkM l _ _ _ h m' E
  exact QkM l _ _ _ h m' E
theorem QkN {c:ZF}{bf:List xJ}{v:Int}:∀(l:List qt) (o:List xJ) (k n:List Ky),(∀m∈l,(KO c bf v m).1=0) ->
  blL c bf v l o k n=(0,o++l.map (λm=>(KO c bf v m).2.1),k++(l.filter λm=>(KO c bf v m).2.2).map (ZS c),n++(l.filter λm=>!(KO c bf v m).2.2).map (ZS c))
 | [],o,k,n,_=>by rw[blL];simp
 | m::l,o,k,n,h=>by
  have ih:=λo k n=>QkN l o k n λx hx=>h x (Lj _ hx);rw[blL,OT (not_not_intro (h m Lq))];cases E:(KO c bf v m).2.2 with
  | true=>rw[OU rfl,ih];simp[E,o6]
  | false=>rw[OT ol,ih];simp[E,o6]
theorem QkL {v:Int}(h:Je c bf v=0):Zj c=0/\∀m∈O9 c,(KO c bf v m).1=0:=by
 unfold Je at h;by_cases E:Zj c≠0
 ·rw[OU E]at h;exact OW h E
 rw[OT E]at h;exact⟨Lo.1 E,QkM (O9 c) [] [] [] h⟩
theorem Qf8 {v:Int}(h:∀m∈O9 c,(KO c bf v m).1=0):KN c bf v=(0,(O9 c).map (λm=>(KO c bf v m).2.1),((O9 c).filter λm=>(KO c bf v m).2.2).map (ZS c),((O9 c).filter λm=>!(KO c bf v m).2.2).map (ZS c)):=by
 unfold KN;rw[QkN _ _ _ _ h,Ma,Ma,Ma]
theorem QkJ {v:Int}(J:∀p∈bf,POk p)(h:Je c bf v=0):QkW c (VL c bf v):=by
 obtain⟨O,H⟩:=QkL h;have G:=λm E=>QqV J (H m E);have e:VL c bf v=(O9 c).map (λm=>(KO c bf v m).2.1):=by unfold VL;rw[Qf8 H]
 refine⟨O,λm E=>⟨(G m E).1,(G m E).2.1⟩,?_,?_,λp I=>?_⟩
 ·rw[e,Ml];exact Nk λm E=>(G m E).2.2.2.2
 ·rw[e,Ml];exact Nk λm E=>(G m E).2.2.2.1
 rw[e]at I;obtain⟨m,E,rfl⟩:=LC.1 I;exact(G m E).2.2.1
abbrev jO (L:LN)(H:xC)(v:O2)(l:List V5):Prop:=Go.Lg.XK Zp 15 V4 L H v l
structure jM where
 c:CL
 vp:O2
 ps:List V5
abbrev Xh (q:jM):LV:=[q.c.ve,q.c.vc,q.c.vr,q.c.vx,q.c.vk,q.vp]
theorem QlB (q:jM):(Xh q).length=6:=rfl
structure ye (L:LN)(H:xC)(q:jM):Prop where
 c:ZH L H q.c
 p:jO L H q.vp q.ps
theorem ye.st {L:LN}{w w':O1}{q:jM}(h:ye L w.heap q)(E:O5 L w w'):ye L w'.heap q:=⟨h.c.st E,h.p.st E⟩
theorem ye.I {q:jM}(h:ye L w.heap q)(E:sX w w'):ye L w'.heap q:=h.st E.any
theorem ye.up {L L':LN}{H:xC}{q:jM}(h:ye L H q)(E:∀b∈L',b∈L\/H.size<=b):ye L' H q:=⟨h.c.up E,h.p.up E⟩
instance:Mm ye:=⟨ye.st,ye.up⟩
theorem ye.ones {q:jM}(h:ye L H q):Zb (Xh q):=⟨h.c.ev.arr.one,h.c.co.arr.one,h.c.rq.arr.one,h.c.ex.arr.one,h.c.cs.arr.one,h.p.arr.one,Z⟩
def jM.st (q:jM):ZF×List xJ:=(q.c.V,q.ps.map (·.pt))
structure UnV where
 b1:Nat
 b2:Nat
 s:jM
structure JR where
 b:Nat
 s:jM
 made:Int
 vr:O2
 rs:List V3
 vu:O2
 us:List UnV
abbrev Qa7 (s:JR):LV:=[s.s.c.ve,s.s.c.vc,s.s.c.vr,s.s.c.vx,s.s.c.vk,s.s.vp,sS s.made,s.vr,s.vu]
def JR.own (s:JR):LN:=s.b::(ob s.vr++ob s.vu)
def JR.sys (s:JR):jr:=⟨s.s.c.V,s.s.ps.map (·.pt),s.made,s.rs.map (·.rp),s.us.map λu=>u.s.st⟩
abbrev Vr (u:UnV):O2:=.func (.func 48) #[] #[.pointer (some ⟨u.b1,0,none⟩),.pointer (some ⟨u.b2,0,none⟩)]
structure UnA (L:LN)(H:xC)(u:UnV):Prop where
 a1:At L H ⟨u.b1,0,none⟩ u.s.c.cells
 a2:At L H ⟨u.b2,0,none⟩ [u.s.vp]
 s:ye L H u.s
theorem UnA.st {L:LN}{w w':O1}{u:UnV}(h:UnA L w.heap u)(E:O5 L w w'):UnA L w'.heap u:=⟨h.a1.st E,h.a2.st E,ye.st h.s E⟩
theorem UnA.up {L L':LN}{H:xC}{u:UnV}(h:UnA L H u)(E:∀b∈L',b∈L\/H.size<=b):UnA L' H u:=⟨h.a1.up E,h.a2.up E,h.s.up E⟩
instance:Mm UnA:=⟨UnA.st,UnA.up⟩
structure Vd (L:LN)(w:O1)(s:JR):Prop where
 blk:∃T,QY w.heap s.b T (Qa7 s)
 rr:w.ownsRow 0 53 3 s.vr s.rs.length (s.rs.flatMap Q0)
 ru:w.ownsRow 0 139 1 s.vu s.us.length (s.us.map Vr)
 d1:s.b∉ob s.vr
 d2:s.b∉ob s.vu
 d3:∀b∈ob s.vr,b∉ob s.vu
 sub:∀b∈s.own,b∈L
 st:ye L w.heap s.s
 rA:∀q∈s.rs,Jr L w.heap q
 uA:∀q∈s.us,UnA L w.heap q
theorem Vd.lt {L:LN}{w:O1}{s:JR}(h:Vd L w s):∀b∈s.own,b<w.heap.size:=λb E=>by
 unfold JR.own at E;rcases Li.1 E with rfl|E
 ·obtain⟨T,G⟩:=h.blk;exact G.lt
 rcases Lc.1 E with E|E
 ·exact(Qg h.rr b E).2
 exact(Qg h.ru b E).2
theorem Vd.J {L X:LN}{w w':O1}{s:JR}(h:Vd L w s)(E:O5 X w w')(G:∀b∈X,b∈L\/↑w<=b)(H:∀b∈s.own,b∉X):Vd L w' s:=by
 have O:s.b∉X:=H _ Lq;have S:∀b∈ob s.vr,b∉X:=λb I=>H b (Lj _ (Lc.2 (.inl I)));have V:∀b∈ob s.vu,b∉X:=λb I=>H b (Lj _ (Lc.2 (.inr I)));obtain⟨T,Y⟩:=h.blk;exact⟨⟨T,Y.J E O⟩,Qd h.rr E S,Qd h.ru E V,h.d1,h.d2,h.d3,h.sub,Mm.J h.st E G,λq J=>Mm.J (h.rA q J) E G,λq J=>Mm.J (h.uA q J) E G⟩
theorem Vd.I {s:JR}(h:Vd L w s)(E:sX w w'):Vd L w' s:=h.J E (λ_ G=>by cases G) (λ_ _=>od)
theorem Vd.up {L L':LN}{w:O1}{s:JR}(h:Vd L w s)(E:∀b∈L',b∈L\/↑w<=b)(H:∀b∈s.own,b∈L'):Vd L' w s :=
 ⟨h.blk,h.rr,h.ru,h.d1,h.d2,h.d3,H,h.st.up E,λq G=>(h.rA q G).up E,λq G=>(h.uA q G).up E⟩
structure VN where
 b:Nat
 vs:O2
 ss:List jM
 vr:O2
 rs:List V3
 made:Int
abbrev Qmf (m:VN):LV:=[m.vs,m.vr,sS m.made]
def VN.own (m:VN):LN:=m.b::(ob m.vs++ob m.vr)
structure ju (L:LN)(w:O1)(m:VN):Prop where
 blk:∃T,QY w.heap m.b T (Qmf m)
 rs:w.ownsRow 0 156 6 m.vs m.ss.length (m.ss.flatMap Xh)
 rr:w.ownsRow 0 53 3 m.vr m.rs.length (m.rs.flatMap Q0)
 d1:m.b∉ob m.vs
 d2:m.b∉ob m.vr
 d3:∀b∈ob m.vs,b∉ob m.vr
 sub:∀b∈m.own,b∈L
 sA:∀q∈m.ss,ye L w.heap q
 rA:∀q∈m.rs,Jr L w.heap q
theorem ju.lt {L:LN}{w:O1}{m:VN}(h:ju L w m):∀b∈m.own,b<w.heap.size:=λb E=>by
 unfold VN.own at E;rcases Li.1 E with rfl|E
 ·obtain⟨T,G⟩:=h.blk;exact G.lt
 rcases Lc.1 E with E|E
 ·exact(Qg h.rs b E).2
 exact(Qg h.rr b E).2
theorem ju.J {L X:LN}{w w':O1}{m:VN}(h:ju L w m)(E:O5 X w w')(J:∀b∈X,b∈L\/↑w<=b)(G:∀b∈m.own,b∉X):ju L w' m:=by
 have O:m.b∉X:=G _ Lq;have S:∀b∈ob m.vs,b∉X:=λb H=>G b (Lj _ (Lc.2 (.inl H)));have V:∀b∈ob m.vr,b∉X:=λb H=>G b (Lj _ (Lc.2 (.inr H)));obtain⟨T,Y⟩:=h.blk;exact⟨⟨T,Y.J E O⟩,Qd h.rs E S,Qd h.rr E V,h.d1,h.d2,h.d3,h.sub,λq I=>Mm.J (h.sA q I) E J,λq I=>Mm.J (h.rA q I) E J⟩
theorem ju.I {m:VN}(h:ju L w m)(E:sX w w'):ju L w' m:=h.J E (λ_ G=>by cases G) (λ_ _=>od)
theorem ju.up {L L':LN}{w:O1}{m:VN}(h:ju L w m)(G:∀b∈L',b∈L\/↑w<=b)(H:∀b∈m.own,b∈L'):ju L' w m :=
 ⟨h.blk,h.rs,h.rr,h.d1,h.d2,h.d3,H,λq E=>(h.sA q E).up G,λq E=>(h.rA q E).up G⟩
def VN.is (m:VN)(s:jr):Prop:=m.ss.map jM.st=s.un++[(s.c,s.ps)]/\m.rs.map (·.rp)=s.rs/\m.made=s.made/\s.rs.length=s.un.length
section
variable {pS:String}
theorem Qrz {C:xA}{pl:xu}{e bys:Nat}{x:O3}{v:O2}{k:IntKind}[h:Sl P t e sz bys z]
  (I:QR ops E=⟨d,.slice t x none (some G) none,ty,pS,af,gd⟩) (J:Zo L H v n sz cs) (hx:ev f x=v) (O:ev f G=.int k hi) (S:hi<=n)
  (hK:∀v',Zo L H v' hi sz (cs.take (hi*sz))->XP P ops C K pl (QN f d v') w)
  (T:Z9 ops f (QR ops E)=true:=by rfl):XP P ops C K ((E,true)::pl) f w:=by
 obtain⟨v',V,Y⟩:=Qct (P:=P) (d:=d) (ty:=ty) (pS:=pS) (af:=af) (gd:=gd) (t:=t) J hx O S;exact Lg.p (λw'=>by rw[I];exact Y w') (by rw[I];exact hK v' V) T
end
theorem JQ {v:O2}{es:List DV}(h0:Ka L w.heap v es):
  QZ sV 80 [v] w λr w'=>r=sS (KW (es.map DV.it))/\sX w w':=by
 have h:=h0.up (L':=[]) od;have hO:=h.arr.le;have ha:KW (es.map DV.it)=if 76<es.length then 3 else dkL (es.map DV.it) 0 (es.map DV.it):=by unfold KW;rw[Lh]
 refine Zq func80 ?_;refine Qc<|Qb<|Qe<|Qj<|QF h.arr U<|x (Yd U U)<|xe<|QO rfl (λh9=>?_) (λh9=>?_)
 ·have hh:76<es.length:=by have h7:(76:Int)<(es.length:Int):=h9;omega
  refine Qc<|Qb<|Qh ⟨[_],La,by rw[ha,OU hh];rfl,O5.Z _ _⟩
 have hh:¬76<es.length:=by have h7:¬(76:Int)<(es.length:Int):=h9;omega
 rw[OT hh]at ha;refine Zh (KW (es.map DV.it)) λE hE=>?_;rw[hE]at ha;refine Qf<|Qe<|Qj<|QF h.arr U<|Qa<|xe<|Q8 (α:=Nat) [(2,6),(12,62)] (λz=>[(12,sS z)]) (λz w'=>z<=es.length/\sX w w'/\dkL (es.map DV.it) z ((es.map DV.it).drop z)=E) (λz=>es.length - z) 0 La ⟨Ln _,O5.Z _ _,ha.symm⟩ ?_;rintro k g w1 ⟨hk,hj,hd⟩;refine Zn rfl U (λhl=>?_) (λhl=>?_)
 ·refine Qw ?_;have h8:es.length<=k:=by have hA:¬(k:Int)<(es.length:Int):=hl;omega
  rw[Ls (by rw[Lh];exact h8)]at hd;refine Qc<|Qb<|Qh ⟨[sS 0],La,by rw[hE,<-hd];rfl,hj⟩
 have H:k<es.length:=by have hA:(k:Int)<(es.length:Int):=hl;omega
 have hB:k<(es.map DV.it).length:=by rw[Lh];exact H
 rw[LE hB,Mq,dkL]at hd;have h2:=Ll H;have hC:(es.map DV.it).take k=(es.take k).map DV.it:=NS.symm;have G:dk1 (es.map DV.it) k (es[k]'H).it=if(es[k]'H).kd<1\/4<(es[k]'H).kd then 11 else if Xj (es[k]'H).nm=false then 7 else if Va ((es.take k).map DV.it) (es[k]'H).kd (es[k]'H).nm=true then 8 else if 0<k/\(es[k]'H).kd<((es.map DV.it).getD (k - 1) ⟨0,.empty,Vo,[],[],0⟩).kd then 5 else if Qcw (es[k]'H).it=false then 6 else 0:=by
  unfold dk1;rw[hC];rfl
 have h1:=h.I hj;refine Qf<|Qe<|Qm<|Qj<|O8 (g:=Qt) (i:=k) Z0 h1.arr U U H λhP h4=>?_;refine Zh (es[k]'H) λq hq=>?_;rw[hq]at h4 h2 G hd;have hm:=h1.each q h2;refine x (Qr h4 U U)<|QM [sS 0,.string .empty,nS,sS 0,nS,nS,nS,nS,sS 0] λb4 w2 hD hF hG=>x Qi <|
  QI (Qt q) hG hm.ones λO hH hn=>xe ?_
 have ho:sX w1 O:=hD.O hH hF;have h3:=h1.I ho;have S:∀e:Int,e≠0->dk1 (es.map DV.it) k q.it=e->E=e:=λe he h=>by rw[h,OU he]at hd;exact hd.symm
 have h5:sX O { O with drawn:=O.drawn+1 }:=O5.C _ _
 refine Qe<|ZA [] (YX 0 13 [7])<|p Qx<|p Qx<|Qrz (hi:=k) U h3.arr U U oa λv' hI=>p (QJ U)<|pq (λ_ I=>Ql (hn.I I) U U) <|
  p (QJ rfl)<|pq (λ_ I=>Ql (hn.I I) U U)<|?_
 have hJ:Zo [] O.heap v' (es.take k).length 9 ((es.take k).flatMap Qt):=by
  rw[LA,Mj oa,<-Qay Qt 9 Z0];exact hI
 refine pk<|xg<|(yf (hJ.I h5) q.kd q.nm).mono ?_;rintro r4 w4 ⟨⟨i,rfl,_⟩,hK⟩;have T:sX O w4:=h5.D hK;refine⟨T,?_⟩;refine p Qx<|p (λ_=>Zi U U)<|p (λ_=>Zi U U)<|p ZG<|p ZG<|pe ?_;have V:=hn.I T;have hb:=(hj.D ho).D T;refine Qm<|QX (α:=Bool) [(28,36)] (λz=>[(28,.bool z)]) (λz w'=>w'=w4/\(z=true↔(q.kd<1\/4<q.kd))) om ?_ ?_
 ·refine Qs<|Qo U V U U<|xb (YW U U) (λhr=>?_) (λhr=>?_)
  ·refine Qa<|Zu<|QE U<|Qb<|⟨true,La,U,⟨λ_=>.inl hr,λ_=>U⟩⟩
  refine Qa<|Qo U V U U<|x (Yd U U)<|QE U<|Qb<|⟨_,La,U,⟨λe=>.inr (OY e),λe=>OX (e.resolve_left hr)⟩⟩
 rintro z g w5 ⟨rfl,Y⟩;refine QU rfl (λhf=>?_) (λhf=>?_)
 ·rw[OU (Y.1 hf)]at G;have J:=S 11 ol G;refine Qc<|Qb<|Qh ⟨[sS 11],La,by rw[hE,J];rfl,hb⟩
 rw[OT (λe=>by rw[Y.2 e]at hf;cases hf)]at G;refine Qc<|Qo U V U U<|Qz<|(V6 q.nm hm.nm w5).mono ?_;rintro r6 w6 ⟨rfl,rfl⟩;refine x (ZC U)<|Qb<|QU U (λhs=>?_) (λhs=>?_)
 ·rw[OU (oA hs)]at G;have J:=S 7 ol G;refine Qc<|Qb<|Qh ⟨[sS 7],La,by rw[hE,J];rfl,hb⟩
 rw[OT (oA hs)]at G;refine Qj<|Qb<|QU U (λht=>?_) (λht=>?_)
 ·rw[OU ht]at G;have J:=S 8 ol G;refine Qc<|Qb<|Qh ⟨[sS 8],La,by rw[hE,J];rfl,hb⟩
 rw[OT (by rw[ht];decide)]at G;refine QX (α:=Bool) [(44,57)] (λz=>[(44,.bool z)]) (λz w'=>sX w6 w'/\(z=true↔(0<k/\q.kd<((es.map DV.it).getD (k - 1) ⟨0,.empty,Vo,[],[],0⟩).kd))) om ?_ ?_
 ·refine ZA [] (YX 0 14 [])<|p Qx<|pb (λ_=>Yd U U) (λhu=>?_) (λhu=>?_)
  ·have hL:0<k:=by have hQ:(0:Int)<(k:Int):=hu;omega
   have hp:k - 1<es.length:=oa
   have hge:((es.map DV.it).getD (k - 1) ⟨0,.empty,Vo,[],[],0⟩).kd=(es[k - 1]'hp).kd:=by simp[oR,hp,DV.it]
   have hM:(k:Int) - 1=((k - 1:Nat):Int):=oa
   refine p Qx<|p (QJ U)<|pq (λ_ I=>Ql (V.I I) U U)<|p Qx<|p Qx <|
    p (λ_=>Jk U U ⟨oa,oa⟩)<|Go.Lg.pig (g:=Qt) (i:=k - 1) U Z0 (h3.I T).arr U (show Go.Lg.ev _ _=_ from OV sS hM) hp λhR hN=>p (λ_=>Zf U)<|pq (λ_ I=>Qy ((hN.fld 0 (sS (es[k - 1]'hp).kd) U).I I) U) <|
    p (λ_=>YW U U)<|p (Y7 U)<|p ZG<|pe ?_
   refine⟨_,La,O5.C _ _,⟨λe=>⟨hL,by rw[hge];exact OY e⟩,λe=>OX (by rw[hge]at e;exact e.2)⟩⟩
  refine p Qx<|ps<|ps<|ps<|ps<|ps<|ps<|ps<|ps<|ps<|p (Y7 U)<|p ZG<|pe ?_;exact⟨false,La,O5.C _ _,⟨λe=>(by cases e),λe=>OW (show(0:Int)<(k:Int) by omega) hu⟩⟩
 rintro z g w7 ⟨hv,Y⟩;have hw:=hb.D hv;refine QU rfl (λhg=>?_) (λhg=>?_)
 ·rw[OU (Y.1 hg)]at G;have J:=S 5 ol G;refine Qc<|Qb<|Qh ⟨[sS 5],La,by rw[hE,J];rfl,hw⟩
 rw[OT (λe=>by rw[Y.2 e]at hg;cases hg)]at G;refine Qc<|QS (V.I hv) U U<|Qz<|(QgL (hm.I ((ho.D T).D hv))).mono ?_;rintro r8 w8 ⟨rfl,h6⟩;refine x (ZC U)<|Qb<|QU U (λhy=>?_) (λhy=>?_)
 ·rw[OU (oA hy)]at G;refine Qc<|Qb<|Qh ⟨[sS 6],La,by rw[hE,(S 6 ol G)];rfl,hw.D h6⟩
 rw[OT (oA hy)]at G;rw[G,OT ol]at hd;refine Qf<|Qs<|QG U U<|Qa<|xe ?_;exact⟨k+1,oa,La,H,hw.D h6,hd⟩
section
variable {o:List Yi}{X:Option (List Yi)}
theorem Qhj {y:qu}{l:List qu}(h:X=(J5 co (y::l)).map (o++·))(E:Uj co y.ls=none):X=none:=by
 rw[h,J5,E];rfl
theorem Qhi {y:qu}{l:List qu}(h:X=(J5 co (y::l)).map (o++·)){r:List (ByteArray×Int)}(E:Uj co y.ls=some r):X=(J5 co l).map ((o++[⟨3,y.nm,Vo,r,[],0⟩])++·):=by
 rw[h,J5,E];simp only[Option.map_map];congr 1;funext z;simp
theorem Qhl {y:xL}{l:List xL}(h:X=(Kr co (y::l)).map (o++·))(E:Uj co y.ts=none):X=none:=by
 rw[h,Kr,E];rfl
theorem Qhk {y:xL}{l:List xL}(h:X=(Kr co (y::l)).map (o++·)){r:List (ByteArray×Int)}(E:Uj co y.ts=some r):X=(Kr co l).map ((o++[⟨4,y.nm,Vo,[],r,y.bd⟩])++·):=by
 rw[h,Kr,E];simp only[Option.map_map];congr 1;funext z;simp
end
theorem QiO {X:Option (List Yi)}:X=X.map (([]:List Yi)++·):=by cases X <;> rfl
theorem Qm3 (h:J5 c.co c.ex=none\/Kr c.co c.cs=none):ZR c=(2,[]):=by
 unfold ZR QfN;rcases h with h|h <;> rw[h]
 cases J5 c.co c.ex <;> rfl
theorem Qka {a b l:List Yi}(E:J5 c.co c.ex=some a)(G:Kr c.co c.cs=some b)(H:l=c.co.map (K9 1)++(c.rq.map (K9 2)++(a++b))):ZR c=if KW l≠0 then(KW l,[])else(0,l):=by
 unfold ZR QfN;rw[E,G,H]
theorem Ju.app {base:Nat}{w E:O1}{v G:O2}{l:List DV}{H:O1}{q:DV}(h:Ju base w v l)(J:sX w E)(hb:base<=↑w)(O:∀L:LN,(∀b∈L,b<↑w)->Jg L E.heap q)
  (S:H.ownsRow base 63 9 G (l.length+1) (l.flatMap Qt++Qt q)) (T:O5 (ob v) E H) (V:∀b∈ob G,b∈ob v\/↑E<=b):Ju base H G (l++[q]):=
 (Yh.I h J).app (λL Y=>O L (λb ha=>by
  rcases Y b ha with I|I
  ·omega
  exact Q7 h.own b I)) S T V
theorem Qk6 {c:CL}(h0:ZH L w.heap c)(g7:c.co.length<=1000)(g8:c.rq.length<=1000)(g9:c.ex.length<=1000)(ka:c.cs.length<=1000)(gu:∀q∈c.ex,q.ls.length<=100000)(hk1:∀q∈c.cs,q.ts.length<=100000):
  QZ sV 42 [c.val] w λr w'=>sX w w'/\∃v,r=.tuple #[v,sS (ZR c.V).1]/\((ZR c.V).1≠0->v=Zm)/\((ZR c.V).1=0->∃l,Ju ↑w w' v l/\l.map DV.it=(ZR c.V).2):=by
 have h:=h0.up (L':=[]) od;have hG:=@Qm3 c.V;have gc:=@Qka c.V;refine Zh (ZR c.V) λR hR=>?_;rw[hR]at hG gc ⊢;refine Zh (J5 c.V.co c.V.ex) λRE gn=>?_;refine Zh (Kr c.V.co c.V.cs) λRC go=>?_;rw[gn,go]at hG gc;refine Zq func42 ?_;refine Qc<|Zl c.cells λb1 I hO kb hH=>x Qi<|Qb ?_;have kc:=hO.size;have h1:=h.I hO;refine Qc<|Qb<|Qe<|Qc<|Qo U (hH.I (O5.Z [] I)) U U<|QF (h1.co.arr.I (O5.Z [] I)) U<|Qa<|xe<|Q8 (α:=Nat×O2×List DV×List Yi) [(4,4),(6,6),(21,34)] (λz=>[(4,z.2.1),(21,sS z.1)]) (λz w'=>z.1<=c.co.length/\sX I w'/\Ju ↑I w' z.2.1 z.2.2.1/\z.2.2.1.map DV.it=([]:List Yi)++z.2.2.2/\z.2.2.2.length=z.1/\z.2.2.2=(c.co.take z.1).map (λq=>K9 1 q.it)) (λz=>c.co.length - z.1) (0,Zm,[],[]) oB
  ⟨Ln _,(O5.Z [] I),Yh.nil,by rw[LR];exact U,U,U⟩ ?_
 rintro⟨k2,v2,l2,o2⟩ g w2 ⟨gv,hI,hR2,hP,gp,hX⟩;simp only[]at gv hR2 hP gp hX;have gw:=hI.size;have ke:l2.length<=4000:=by
  have e1:=OV oQ hP;simp only[Oc,oN,OI]at e1;omega
 refine Zn rfl U (λY=>?_) (λY=>?_)
 ·refine Qw ?_;have hs:c.co.length<=k2:=by have ht:¬(k2:Int)<(c.co.length:Int):=Y;omega
  rw[Lt hs]at hX;rw[hX,Ma]at hP;refine Qe<|Qc<|Qo U (hH.I hI) U U<|QF (h1.rq.arr.I hI) U<|Qa<|xe<|Q8 (α:=Nat×O2×List DV×List Yi) [(4,4),(8,8),(38,51)] (λz=>[(4,z.2.1),(38,sS z.1)]) (λz w'=>z.1<=c.rq.length/\sX I w'/\Ju ↑I w' z.2.1 z.2.2.1/\z.2.2.1.map DV.it=(c.co.map (λq=>K9 1 q.it))++z.2.2.2/\z.2.2.2.length=z.1/\z.2.2.2=(c.rq.take z.1).map (λq=>K9 2 q.it)) (λz=>c.rq.length - z.1) (0,v2,l2,[]) oB
   ⟨Ln _,hI,hR2,by rw[LR];exact hP,U,U⟩ ?_
  rintro⟨k3,v3,l3,o3⟩ g w3 ⟨gx,hJ,hR3,hQ,gq,hY⟩;simp only[]at gx hR3 hQ gq hY;have gy:=hJ.size;have kf:l3.length<=4000:=by
   have e1:=OV oQ hQ;simp only[Oc,oN]at e1;omega
  refine Zn U U (λY=>?_) (λY=>?_)
  ·refine Qw ?_;have hs:c.rq.length<=k3:=by have ht:¬(k3:Int)<(c.rq.length:Int):=Y;omega
   rw[Lt hs]at hY;rw[hY]at hQ;refine Qe<|Qc<|Qo U (hH.I hJ) U U<|QF (h1.ex.arr.I hJ) U<|Qa<|xe<|Q8 (α:=Nat×O2×List DV×List Yi) [(2,4),(10,12),(55,73)] (λz=>[(4,z.2.1),(55,sS z.1)]) (λz w'=>z.1<=c.ex.length/\sX I w'/\Ju ↑I w' z.2.1 z.2.2.1/\z.2.2.1.map DV.it=(c.co.map (λq=>K9 1 q.it)++c.rq.map (λq=>K9 2 q.it))++z.2.2.2/\z.2.2.2.length=z.1/\RE=(J5 c.V.co ((c.ex.drop z.1).map XV.x)).map (z.2.2.2++·)) (λz=>c.ex.length - z.1) (0,v3,l3,[]) oB
    ⟨Ln _,hJ,hR3,by rw[LR];exact hQ,U,gn ▸ QiO⟩ ?_
   rintro⟨k4,v4,l4,o4⟩ g w4 ⟨gz,hr,hS,hZ,gr,hK⟩;simp only[]at gz hS hZ gr hK;have g0:=hr.size;have kg:l4.length<=4000:=by
    have e1:=OV oQ hZ;simp only[Oc,oN]at e1;omega
   refine Zn U U (λY=>?_) (λY=>?_)
   ·refine Qw ?_;have hs:c.ex.length<=k4:=by have ht:¬(k4:Int)<(c.ex.length:Int):=Y;omega
    rw[Ls hs]at hK;have g2:RE=some o4:=by rw[hK];simp[J5]
    refine Qe<|Qc<|Qo U (hH.I hr) U U<|QF (h1.cs.arr.I hr) U<|Qa<|xe<|Q8 (α:=Nat×O2×List DV×List Yi) [(2,4),(14,16),(77,95)] (λz=>[(4,z.2.1),(77,sS z.1)]) (λz w'=>z.1<=c.cs.length/\sX I w'/\Ju ↑I w' z.2.1 z.2.2.1/\z.2.2.1.map DV.it=(c.co.map (λq=>K9 1 q.it)++c.rq.map (λq=>K9 2 q.it)++o4)++z.2.2.2/\z.2.2.2.length=z.1/\RC=(Kr c.V.co ((c.cs.drop z.1).map KV.k)).map (z.2.2.2++·)) (λz=>c.cs.length - z.1) (0,v4,l4,[]) oB
     ⟨Ln _,hr,hS,by rw[LR];exact hZ,U,go ▸ QiO⟩ ?_
    rintro⟨k5,v5,l5,o5⟩ g w5 ⟨g3,hM,hR5,ga,gs,hN⟩;simp only[]at g3 hR5 ga gs hN;have g4:=hM.size;have kh:l5.length<=4000:=by
     have e1:=OV oQ ga;simp only[Oc,oN]at e1;omega
    refine Zn U U (λY=>?_) (λY=>?_)
    ·refine Qw ?_;have hs:c.cs.length<=k5:=by have ht:¬(k5:Int)<(c.cs.length:Int):=Y;omega
     rw[Ls hs]at hN;have g5:RC=some o5:=by rw[hN];simp[Kr]
     have hu:=gc (l:=l5.map DV.it) g2 g5 (by rw[ga,LB,LB];simp only[CL.V,List.map_map];rfl);refine Qe<|Qj<|Qz<|(JQ (hR5.dits (L:=[]) oa od)).mono ?_;rintro r6 w6 ⟨rfl,J⟩;have gt:sX w w6:=hO.D (hM.D J);refine Qb<|Qj<|Zx U U<|xe<|QO U (λgb=>?_) (λgb=>?_)
     ·rw[OU gb]at hu;refine Qj<|x Qi<|Qb<|Qh ⟨[Zm,sS (KW (l5.map DV.it))],oB,gt,Zm,by rw[hu];rfl,λ_=>U,λe=>?_⟩;rw[hu]at e;exact OW e gb
     rw[OT gb]at hu;refine Qf<|Qj<|x Qi<|Qb<|Qh ⟨[v5,sS 0],oB,gt,v5,by rw[hu];rfl,λe=>OW (by rw[hu]) e,λ_=>⟨l5,(Yh.I hR5 J).base oa,by rw[hu]⟩⟩
    have E:k5<c.cs.length:=by have ht:(k5:Int)<(c.cs.length:Int):=Y;omega
    have hj:c.cs.drop k5=c.cs[k5]'E::c.cs.drop (k5+1):=LE E;have hk:c.cs.take (k5+1)=c.cs.take k5++[c.cs[k5]'E]:=Lm E;have T:=Ll E;have V:=h1.I hM;refine Qf<|Qe<|Qm<|Qc<|O8 (g:=Q9) (i:=k5) Xq V.cs.arr U U E λgg hf=>?_;refine Zh (c.cs[k5]'E) λq hq=>?_;rw[hq]at hf hk T hj;have ha:=V.cs.each q T;have hv:=V.cs.nm q T;rw[hj,LG]at hN;refine x (Qr hf U U)<|QM [.string .empty,Zm,sS 0] λb5 w6 J hw hy=>QI (Q9 q) hy ⟨U,ha.one,U,Z⟩ λw7 hz hl=>xe ?_;have O:sX w5 w7:=J.O hz hw;have gh:=O.size;refine Qc<|Qo U ((hH.I hM).I O) U U<|QS hl U U<|Qz<|(Qkh (V.co.I O) (ha.I O) hv (hk1 q T)).mono ?_;rintro r8 w8 ⟨h2,hm⟩;have hT:=O.D h2;refine Or.elim (Ql3 (Uj (c.co.map (·.it)) q.ts)) (λhn=>?_) (λhn=>?_)
    ·have hU:=Qhl hN hn;rw[hn]at hm;have he:r8=.tuple #[sT z9,sS 2]:=hm;subst he;refine Qa<|QW U U<|QW U U<|QM z9 λgi w9 h3 h4 h6=>QI z9 h6 ⟨U,U,U,U,U,U,U,U,U,Z⟩ λho H hV=>Qb<|Qe<|Qj<|Zx U U<|xe<|QO U (λhg=>?_) (λhg=>OW (show(2:Int)≠0 by decide) hg);refine Qj<|x Qi<|Qb<|Qh ⟨[Zm,sS 2],oB,hO.D ((hM.D hT).D (h3.O H h4)),Zm,?_,λ_=>U,λe=>?_⟩
     ·rw[hG (.inr hU)];rfl
     rw[hG (.inr hU)]at e;exact OW e ol
    refine Exists.elim hn λn hn=>?_;have gj:=Qhk hN hn;rw[hn]at hm;have he:∃d:DV,r8=.tuple #[sT (Qt d),sS 0]/\d.it=⟨4,q.nm,Vo,[],n,q.bd⟩/\∀L:LN,(∀b∈L,b<↑w7)->Jg L w8.heap d:=hm;refine Exists.elim he λG he=>?_;have gk:=he.1;have h7:=he.2.1;have hp:=he.2.2;subst gk;have gl:Jg [] w8.heap G:=hp [] od;refine Qa<|QW U U<|QW U U<|QM z9 λgi g6 h3 h4 h6=>QI (Qt G) h6 gl.ones λw9 H hV=>Qb ?_;have hW:sX w8 w9:=h3.O H h4;have S:=hT.D hW;have hh:∀L:LN,(∀b∈L,b<↑w5)->Jg L w9.heap G:=λL hL=>(hp L (λb hb=>ov (hL b hb))).I hW;refine Qe<|Qj<|Zx U U<|xe<|QO U (λhg=>OW U hg) (λhg=>?_);refine Qf<|Qs<|Qa<|QS hV U U<|?_;have h8:Ju ↑I w9 v5 l5:=Yh.I hR5 S;refine Qn<|Za [Qt G] λh9 ho H gm hA=>?_;have hB:At [] ho.heap ⟨h9,0,none⟩ (Qt G):=by have:=hA.at (L:=[]) od;simpa using this
    refine Qn<|Ja (m:=1) (news:=Qt G) (Yh.I h8 H).own U U U hB (VY (hh [] od)) oa (oy S.size H.size) λv6 hi hC J hD=>?_;refine Qb ?_;have hE:Ju ↑I hi v6 (l5++[G]):=hR5.app (S.D H) g4 (λL hL=>(hh L hL).I H) hC J hD;have hF:sX I hi:=((hM.D S).D H).then J λb hb=>.inr (Qg hR5.own b hb).1;refine Qs<|QG U U<|Qa<|xe<|⟨(k5+1,v6,l5++[G],o5++[G.it]),by show c.cs.length - (k5+1)<c.cs.length - k5;omega,oB,E,hF,hE,by simp only[];rw[Lp,ga,LB];rfl,by simp[gs],?_⟩;simp only[];rw[h7];exact gj
   have E:k4<c.ex.length:=by have ht:(k4:Int)<(c.ex.length:Int):=Y;omega
   have hj:c.ex.drop k4=c.ex[k4]'E::c.ex.drop (k4+1):=LE E;have hk:c.ex.take (k4+1)=c.ex.take k4++[c.ex[k4]'E]:=Lm E;have T:=Ll E;have V:=h1.I hr;refine Qf<|Qe<|Qm<|Qc<|O8 (g:=Q3) (i:=k4) Xw V.ex.arr U U E λgg hf=>?_;refine Zh (c.ex[k4]'E) λq hq=>?_;rw[hq]at hf hk T hj;have ha:=V.ex.each q T;have hv:=V.ex.nm q T;rw[hj,LG]at hK;refine x (Qr hf U U)<|QM [.string .empty,Zm] λb5 w6 J hw hy=>QI (Q3 q) hy ⟨U,ha.one,Z⟩ λw7 hz hl=>xe ?_;have O:sX w4 w7:=J.O hz hw;have gh:=O.size;refine Qc<|Qo U ((hH.I hr).I O) U U<|QS hl U U<|Qz<|(QjQ (V.co.I O) (ha.I O) hv (gu q T)).mono ?_;rintro r8 w8 ⟨h2,hm⟩;have hT:=O.D h2;refine Or.elim (Ql3 (Uj (c.co.map (·.it)) q.ls)) (λhn=>?_) (λhn=>?_)
   ·have hU:=Qhj hK hn;rw[hn]at hm;have he:r8=.tuple #[sT z9,sS 2]:=hm;subst he;refine Qa<|QW U U<|QW U U<|QM z9 λgi w9 h3 h4 h6=>QI z9 h6 ⟨U,U,U,U,U,U,U,U,U,Z⟩ λho H hV=>Qb<|Qe<|Qj<|Zx U U<|xe<|QO U (λhg=>?_) (λhg=>OW (show(2:Int)≠0 by decide) hg);refine Qj<|x Qi<|Qb<|Qh ⟨[Zm,sS 2],oB,hO.D ((hr.D hT).D (h3.O H h4)),Zm,?_,λ_=>U,λe=>?_⟩
    ·rw[hG (.inl hU)];rfl
    rw[hG (.inl hU)]at e;exact OW e ol
   refine Exists.elim hn λn hn=>?_;have gj:=Qhi hK hn;rw[hn]at hm;have he:∃d:DV,r8=.tuple #[sT (Qt d),sS 0]/\d.it=⟨3,q.nm,Vo,n,[],0⟩/\∀L:LN,(∀b∈L,b<↑w7)->Jg L w8.heap d:=hm;refine Exists.elim he λG he=>?_;have gk:=he.1;have h7:=he.2.1;have hp:=he.2.2;subst gk;have gl:Jg [] w8.heap G:=hp [] od;refine Qa<|QW U U<|QW U U<|QM z9 λgi g6 h3 h4 h6=>QI (Qt G) h6 gl.ones λw9 H hV=>Qb ?_;have hW:sX w8 w9:=h3.O H h4;have S:=hT.D hW;have hh:∀L:LN,(∀b∈L,b<↑w4)->Jg L w9.heap G:=λL hL=>(hp L (λb hb=>ov (hL b hb))).I hW;refine Qe<|Qj<|Zx U U<|xe<|QO U (λhg=>OW U hg) (λhg=>?_);refine Qf<|Qs<|Qa<|QS hV U U<|?_;have h8:Ju ↑I w9 v4 l4:=Yh.I hS S;refine Qn<|Za [Qt G] λh9 ho H gm hA=>?_;have hB:At [] ho.heap ⟨h9,0,none⟩ (Qt G):=by have:=hA.at (L:=[]) od;simpa using this
   refine Qn<|Ja (m:=1) (news:=Qt G) (Yh.I h8 H).own U U U hB (VY (hh [] od)) oa (oy S.size H.size) λv6 hi hC J hD=>?_;refine Qb ?_;have hE:Ju ↑I hi v6 (l4++[G]):=hS.app (S.D H) g0 (λL hL=>(hh L hL).I H) hC J hD;have hF:sX I hi:=((hr.D S).D H).then J λb hb=>.inr (Qg hS.own b hb).1;refine Qs<|QG U U<|Qa<|xe<|⟨(k4+1,v6,l4++[G],o4++[G.it]),by show c.ex.length - (k4+1)<c.ex.length - k4;omega,oB,E,hF,hE,by simp only[];rw[Lp,hZ,LB];rfl,by simp[gr],?_⟩;simp only[];rw[h7];exact gj
  have E:k3<c.rq.length:=by have ht:(k3:Int)<(c.rq.length:Int):=Y;omega
  have hj:c.rq.drop k3=c.rq[k3]'E::c.rq.drop (k3+1):=LE E;have hk:c.rq.take (k3+1)=c.rq.take k3++[c.rq[k3]'E]:=Lm E;have T:=Ll E;have V:=h1.I hJ;refine Qf<|Qe<|Qm<|Qc<|O8 (g:=QK) (i:=k3) Ys V.rq.arr U U E λgg hf=>?_;refine Zh (c.rq[k3]'E) λq hq=>?_;rw[hq]at hf hk T hj;have ha:=V.rq.each q T;have hv:=V.rq.nm q T;refine x (Qr hf U U)<|QM [.string .empty,Zm,sS 0,Zm,Zm] λb5 w6 J hw hy=>QI (QK q) hy ⟨U,ha.al.one,U,ha.mr.one,ha.ed.one,Z⟩ λw7 hz hl=>xe ?_;have O:sX w3 w7:=J.O hz hw;refine Qs<|Qa<|Qo U hl U U<|QQ U<|x (Zd (us:=[q.p.va,sS q.p.a.st,q.p.vm,q.p.ve]) hl U U U)<|x (Q5 [(0,[sS 2]),(1,[.string q.nm]),(2,[q.p.va,sS q.p.a.st,q.p.vm,q.p.ve])] ⟨U,U,U,U,U,U,Z⟩) <|
   Qz<|(KI (q:=⟨2,q.nm,q.p,Zm,[],Zm,[],0⟩) (L:=[]) ⟨hv,ha.I O,V2.nil,V2.nil⟩).mono ?_
  rintro r8 w9 ⟨h2,G,rfl,h7,hp⟩;have S:=O.D h2;have gh:=O.size;have hh:∀L:LN,(∀b∈L,b<↑w3)->Jg L w9.heap G:=λL hL=>hp L (λb hb=>ov (hL b hb));have h8:Ju ↑I w9 v3 l3:=Yh.I hR3 S;refine Qn<|Za [Qt G] λh9 ho H gm hA=>?_;have hB:At [] ho.heap ⟨h9,0,none⟩ (Qt G):=by have:=hA.at (L:=[]) od;simpa using this
  refine Qn<|Ja (m:=1) (news:=Qt G) (Yh.I h8 H).own U U U hB (VY (hh [] od)) oa (oy S.size H.size) λv6 hi hC J hD=>?_;refine Qb ?_;have hE:Ju ↑I hi v6 (l3++[G]):=hR3.app (S.D H) gy (λL hL=>(hh L hL).I H) hC J hD;have hF:sX I hi:=((hJ.D S).D H).then J λb hb=>.inr (Qg hR3.own b hb).1;refine Qs<|QG U U<|Qa<|xe<|⟨(k3+1,v6,l3++[G],o3++[G.it]),by show c.rq.length - (k3+1)<c.rq.length - k3;omega,oB,E,hF,hE,by simp only[];rw[Lp,hQ,LB];rfl,by simp[gq],?_⟩;simp only[];rw[hk,Lp,<-hY,h7];rfl
 have E:k2<c.co.length:=by have ht:(k2:Int)<(c.co.length:Int):=Y;omega
 have hj:c.co.drop k2=c.co[k2]'E::c.co.drop (k2+1):=LE E;have hk:c.co.take (k2+1)=c.co.take k2++[c.co[k2]'E]:=Lm E;have T:=Ll E;have V:=h1.I hI;refine Qf<|Qe<|Qm<|Qc<|O8 (g:=QK) (i:=k2) Ys V.co.arr U U E λgg hf=>?_;refine Zh (c.co[k2]'E) λq hq=>?_;rw[hq]at hf hk T hj;have ha:=V.co.each q T;have hv:=V.co.nm q T;refine x (Qr hf U U)<|QM [.string .empty,Zm,sS 0,Zm,Zm] λb5 w6 J hw hy=>QI (QK q) hy ⟨U,ha.al.one,U,ha.mr.one,ha.ed.one,Z⟩ λw7 hz hl=>xe ?_;have O:sX w2 w7:=J.O hz hw;refine Qs<|Qa<|Qo U hl U U<|QQ U<|x (Zd (us:=[q.p.va,sS q.p.a.st,q.p.vm,q.p.ve]) hl U U U)<|x (Q5 [(0,[sS 1]),(1,[.string q.nm]),(2,[q.p.va,sS q.p.a.st,q.p.vm,q.p.ve])] ⟨U,U,U,U,U,U,Z⟩) <|
  Qz<|(KI (q:=⟨1,q.nm,q.p,Zm,[],Zm,[],0⟩) (L:=[]) ⟨hv,ha.I O,V2.nil,V2.nil⟩).mono ?_
 rintro r8 w9 ⟨h2,G,rfl,h7,hp⟩;have S:=O.D h2;have gh:=O.size;have hh:∀L:LN,(∀b∈L,b<↑w2)->Jg L w9.heap G:=λL hL=>hp L (λb hb=>ov (hL b hb));have h8:Ju ↑I w9 v2 l2:=Yh.I hR2 S;refine Qn<|Za [Qt G] λh9 ho H gm hA=>?_;have hB:At [] ho.heap ⟨h9,0,none⟩ (Qt G):=by have:=hA.at (L:=[]) od;simpa using this
 refine Qn<|Ja (m:=1) (news:=Qt G) (Yh.I h8 H).own U U U hB (VY (hh [] od)) oa (oy S.size H.size) λv6 hi hC J hD=>?_;refine Qb ?_;have hE:Ju ↑I hi v6 (l2++[G]):=hR2.app (S.D H) gw (λL hL=>(hh L hL).I H) hC J hD;have hF:sX I hi:=((hI.D S).D H).then J λb hb=>.inr (Qg hR2.own b hb).1;refine Qs<|QG U U<|Qa<|xe<|⟨(k2+1,v6,l2++[G],o2++[G.it]),by show c.co.length - (k2+1)<c.co.length - k2;omega,oB,E,hF,hE,by simp only[];rw[Lp,hP,LB];rfl,by simp[gp],?_⟩;simp only[];rw[hk,Lp,<-hX,h7];rfl
structure CSz (c:ZF):Prop where
 c1:c.co.length<=1000
 c2:c.rq.length<=1000
 c3:c.ex.length<=1000
 c4:c.cs.length<=1000
 x:∀q∈c.ex,q.ls.length<=100000
 k:∀q∈c.cs,q.ts.length<=100000
theorem Qg3 {n:Int}(h:Y8 l)(E:∀x∈l,0<=x/\x<n)(G:n<=8):l.length<=8:=by
 have:=Jc l 0 n h E;omega
theorem VK (h:Zj c=0):CSz c:=by
 have E:=Qhq.1 h;have hd:=VI E.cd;have I:(szs c.co).length=c.co.length:=Lh _;have J:=E.n8;refine⟨oa,ov E.n12,ov hd.xl,ov hd.kl,λq G=>?_,λq G=>?_⟩
 ·have:=Qg3 ((Qhp E.cd).1 q G).1 (n:=((szs c.co).length:Int)) (λx hx=>by
   obtain⟨p,H,rfl⟩:=LC.1 hx;exact hd.x q G p H) oa
  rw[Lh]at this;omega
 have:=(hd.k q G).2;omega
theorem CSz.its {c:CL}(h:CSz c.V):c.co.length<=1000/\c.rq.length<=1000/\c.ex.length<=1000/\c.cs.length<=1000/\(∀q∈c.ex,q.ls.length<=100000)/\∀q∈c.cs,q.ts.length<=100000:=by
 have e1:c.V.co.length=c.co.length:=Lh _;have e2:c.V.rq.length=c.rq.length:=Lh _;have G:c.V.ex.length=c.ex.length:=Lh _;have H:c.V.cs.length=c.cs.length:=Lh _;exact⟨e1 ▸ h.c1,e2 ▸ h.c2,G ▸ h.c3,H ▸ h.c4,λq E=>h.x q.x (LM E),λq E=>h.k q.k (LM E)⟩
theorem yT {c:CL}(E:ZH L w.heap c)(G:CSz c.V):
  QZ sV 42 [c.val] w λr w'=>sX w w'/\∃v,r=.tuple #[v,sS (ZR c.V).1]/\((ZR c.V).1≠0->v=Zm)/\((ZR c.V).1=0->∃l,Ju ↑w w' v l/\l.map DV.it=(ZR c.V).2):=
 let h:=G.its;Qk6 E h.1 h.2.1 h.2.2.1 h.2.2.2.1 h.2.2.2.2.1 h.2.2.2.2.2
theorem Qet {c:CL}(E:ZH L w.heap c)(G:CSz c.V):
  QZ sV 44 [c.val] w λr w'=>sX w w'/\QeQ ↑w w'.heap r c.V :=
 let h:=G.its;Qpq E h.1 h.2.1
abbrev z9s:LV:=[nS,nS,nS,nS,nS,nS,sS 0,nS,nS]
instance:Bw sV 136 z9s [(0,5),(5,1),(6,1),(7,1),(8,1)]:={}
abbrev UY:O2:=.pointer none
abbrev pS (b:Nat):O2:=sP b
theorem Qk3 {c:CL}(I:ZH L w.heap c)(hz:CSz c.V)(hy:Kb w 4096):
  QZ sV 11 [c.val] w λr w'=>sX w w'/\∃vp,r=.tuple #[vp,sS (Vy c.V)]/\(Vy c.V≠0->vp=UY)/\(Vy c.V=0->∃s:JR,vp=pS s.b/\s.sys=Qbs c.V/\(∀b∈s.own,↑w<=b)/\Vd (s.own++oV ↑w) w' s):=by
 have h:=I.up (L':=[]) od;have H:Vy c.V=if(ZR c.V).1≠0 then(ZR c.V).1 else if Zj c.V≠0 then Zj c.V else Je c.V [] 0:=rfl
 refine Zh (Vy c.V) λE hE=>?_;rw[hE]at H ⊢;refine Zq func11 ?_;refine Qc<|Zl c.cells λb1 w1 hm h1 S=>x Qi<|Qb<|Qe<|Qc<|QS S U U<|Qz<|(yT (h.I hm) hz).mono ?_;rintro r2 w2 ⟨T,v2,rfl,_,_⟩;have hf:=hm.D T;have hD:=T.size;refine Qa<|QW U U<|QW U U<|x Qi<|Qb<|Qj<|Zx U U<|xe<|QO rfl (λY=>?_) (λY=>?_)
 ·rw[OU Y]at H;refine Qj<|x Qi<|Qb<|Qh ⟨[UY,sS (ZR c.V).1],oB,hf,UY,by rw[H];rfl,λ_=>U,λI=>OW (H.symm.D I) Y⟩
 rw[OT Y]at H;refine Qf<|Qe<|Qc<|QS (S.I T) U U<|Qz<|(Xl (h.I hf)).mono ?_;rintro r3 w3 ⟨rfl,ha⟩;have hg:=hf.D ha;have hF:=ha.size;refine Qb<|Qj<|Zx U U<|xe<|QO rfl (λhc=>?_) (λhc=>?_)
 ·rw[OU hc]at H;refine Qj<|x Qi<|Qb<|Qh ⟨[UY,sS (Zj c.V)],oB,hg,UY,by rw[H];rfl,λ_=>U,λI=>OW (H.symm.D I) hc⟩
 rw[OT hc]at H;have hG:=S.lt;refine Qf<|Qc<|QS ((S.I T).I ha) U U<|Qz<|(Qet (h.I hg) hz).mono ?_;rintro _ w4 ⟨hh,c4,rfl,hn,ho⟩;have hH:=hh.size;refine QI c4.cells (((S.I T).I ha).I hh) (ho [] od).ones λw5 hi hp=>xe ?_;have hr:sX w w5:=(hg.D hh).O hi h1;have hI:=hi.size;have h2:∀b∈b1::oV ↑w,b<w3.heap.size:=λb G=>by
  rcases Li.1 G with rfl|G
  ·omega
  have:=Nt.1 G;omega
 have hs:ZH (b1::oV ↑w) w5.heap c4:=(ho _ h2).st (hi.mono od);have hbld:=Qds (L':=oV ↑w) (vb:=Zm) (ps:=[]) (v:=0) hs ⟨Zo.nil _ _ _,od⟩ (λb G=>ov (Nt.1 G)) .nil od (hy.I hr);rw[hn]at hbld;refine Qc<|QS hp U U<|Qz<|hbld.mono ?_;rintro r6 w6 ⟨he,vp,us,rfl,h3,h4,hJ,h5⟩;have hK:=he.size;refine Qa<|QW U U<|QW U U<|QW U U<|QM ZT λb8 w7 h6 h7 h8=>x Qi <|
  Qn<|Zv (us:=us) h8 U U h3 U h4 λw8 h9 ht=>Qb ?_
 have O:sX w6 w8:=h6.O h9 h7;have hu:=(hr.D he).D O;refine Qe<|Qj<|Zx U U<|xe<|QO rfl (λhj=>?_) (λhj=>?_)
 ·refine Qj<|x Qi<|Qb<|Qh ⟨[UY,sS (Je c.V [] 0)],oB,hu,UY,by rw[H];rfl,λ_=>U,λI=>OW (H.symm.D I) hj⟩
 have hk:Je c.V [] 0=0:=Lo.1 hj;refine Exists.elim (h5 hk) λqs J=>Exists.elim J λq J=>?_;have hA:us=[q.v1,q.v2,q.v3]:=J.1;rw[hA]at ht;refine Qf<|Qc<|QS (hp.I (he.D O)) U U<|Qa<|Qo U ht U U<|x (Yx ((J.2.2.2.2.2 [] od).I O).a2 rfl) <|
  x (Q5 [(0,c4.cells),(1,[vp]),(2,[sS (q.k2.length:Int)])] ⟨U,U,xM J.2.2.2.1,U,U,U,Z⟩) <|
  Zl (Qa7 ⟨0,⟨c4,vp,qs⟩,q.k2.length,Zm,[],Zm,[]⟩) λV w9 hl hB hv=>x Qi<|Qb ?_
 have hL:=O.size;have hM:=hv.lt;have hw:∀b∈V::oV ↑w,b∈oV ↑w\/↑w8<=b:=λb G=>by
  rcases Li.1 G with rfl|G
  ·exact .inr hB
  exact .inl G
 refine Qh ⟨[pS V,sS 0],oB,hu.D hl,pS V,by rw[H,hk];rfl,λI=>OW (H.D hk) I,λ_=>⟨⟨V,⟨c4,vp,qs⟩,q.k2.length,Zm,[],Zm,[]⟩,U,?_,λb G=>?_,?_⟩⟩
 ·unfold JR.sys Qbs;simp only[];rw[hn];have e1:qs.map (·.pt)=VL c.V [] 0:=J.2.1;have e2:q.rp=YM c.V [] 0:=J.2.2.1;have e3:(YM c.V [] 0).made=q.k2:=by rw[<-e2];rfl
  rw[e1,e3];rfl
 ·have hC:b∈[V]:=G;rw[Lb.1 hC];omega
 refine⟨⟨_,hv⟩,QD _ _ _ _,QD _ _ _ _,by simp[ob],by simp[ob],by simp[ob],λb G=>Lc.2 (.inl G),⟨?_,?_⟩,od,od⟩
 ·exact(((hs.I (he.D O)).up λb G=>(hw b G).imp (Lj _) id).I hl)
 exact(Go.Lg.XK.up (Go.Lg.XK.I J.2.2.2.2.1 O) hw).I hl
theorem Qcm {s:JR}(h:Vd L w s):
  QZ sV 12 [pS s.b] w λr w'=>r=sS s.made/\w'=w:=by
 obtain⟨T,E⟩:=h.blk;refine Zq func12 ?_;refine Qc<|Qb<|Qe<|Qj<|x (XN underlying46 U U)<|xe<|ZO rfl<|Qf<|Qj<|Yf U<|Qo U E U U<|Qb<|Qh ⟨[_],La,U,U⟩
theorem Qin {s:JR}(h:Vd L w s)(S:CSz s.s.c.V):
  QZ sV 16 [pS s.b] w λr w'=>sX w w'/\∃cm:CL,r=.tuple #[sT cm.cells,sS 0]/\cm.V=s.s.c.V/\∀L:LN,(∀b∈L,b<↑w)->ZH L w'.heap cm:=by
 obtain⟨T,V⟩:=h.blk;refine Zq func16 ?_;refine Qc<|QM Z8 λb2 w1 G Y H=>Qb ?_;have he:=G.size;refine Qe<|Qj<|x (XN underlying46 U U)<|xe<|ZO rfl<|Qf<|Qj<|Yf U<|QQ U<|x (Zd (us:=s.s.c.cells) (V.I G) U U U)<|Qz<|(Qet (h.st.c.I G) S).mono ?_;rintro _ w3 ⟨I,cm,rfl,hc,J⟩;refine QI cm.cells (H.I I) (J [] od).ones λw4 O ha=>Qb<|Qh ⟨[sT cm.cells,sS 0],⟨Yk ha,rfl,Z⟩,(G.D I).O O Y,cm,rfl,hc,λN hN=>?_⟩;exact((J (b2::N) (λb E=>by
  rcases Li.1 E with rfl|E
  ·exact H.lt
  have:=hN b E;omega)).st (O.mono od)).up λb E=>.inl (Lj _ E)
theorem Qcn {s:JR}(h:Vd L w s)(hl:s.s.ps.length<=1000):
  QZ sV 17 [pS s.b] w λr w'=>sX w w'/\∃v es,r=.tuple #[v,sS 0]/\es.map EnV.en=s.s.ps.map (λq=>q.pt.en)/\Yh ZW 10 90 zH ↑w w' v es:=by
 obtain⟨T,hB⟩:=h.blk;have hp:jO [] w.heap s.s.vp s.s.ps:=h.st.p.up od;refine Zq func17 ?_;refine Qc<|x Qi<|Qb<|Qe<|Qj<|x (XN underlying46 U U)<|xe<|ZO rfl<|Qf<|Qc<|Qb<|Qe<|Qj<|Yf U<|Qo U hB U U<|QF hp.arr U<|Qa<|xe<|Q8 (α:=Nat×O2×List EnV) [(4,4),(6,6),(14,24)] (λz=>[(4,z.2.1),(14,sS z.1)]) (λz w'=>z.1<=s.s.ps.length/\sX w w'/\Yh ZW 10 90 zH ↑w w' z.2.1 z.2.2/\z.2.2.map EnV.en=(s.s.ps.take z.1).map λq=>q.pt.en) (λz=>s.s.ps.length - z.1) (0,Zm,[]) oB ⟨Ln _,O5.Z _ _,Yh.nil,U⟩ ?_;rintro⟨k,vo,l⟩ g V ⟨hk,J,hR,G⟩;simp only[]at hk hR G;have h3:l.length=k:=by have:=OV oQ G;rw[Lh,Lh,LA]at this;omega
 refine Zn rfl U (λY=>?_) (λY=>?_)
 ·refine Qw ?_;have hj:s.s.ps.length<=k:=by have O:¬(k:Int)<(s.s.ps.length:Int):=Y;omega
  rw[Lt hj]at G;refine Qj<|x Qi<|Qb<|Qh ⟨[vo,sS 0],oB,J,vo,l,U,G,hR⟩
 have E:k<s.s.ps.length:=by have O:(k:Int)<(s.s.ps.length:Int):=Y;omega
 have hc:s.s.ps.take (k+1)=s.s.ps.take k++[s.s.ps[k]'E]:=Lm E;have he:=Ll E;have hf:jO [] V.heap s.s.vp s.s.ps:=Go.Lg.XK.I hp J;refine Qf<|Qe<|Qm<|Qc<|O8 (g:=Zp) (i:=k) KY hf.arr U U E λh4 O=>?_;refine Zh (s.s.ps[k]'E) λq hq=>?_;rw[hq]at O hc he;have hg:V4 [] V.heap q:=hf.each q he;refine x (Qr O U U)<|QM z15 λb6 w2 hn ho hr=>QI (Zp q) hr hg.ones λw3 hs ht=>xe ?_;have H:sX V w3:=hn.O hs ho;have h5:=H.size;have h6:=J.size;refine Qs<|Qa<|QQ U<|x (Zd (us:=ZW q.e) ht U U U)<|Qz<|(Qpp (hg.e.I H)).mono ?_;rintro r4 w4 ⟨ha,I,rfl,hu,hh⟩;have h7:=ha.size;have hv:=Q7 (hR.I H).own;refine Qn<|Za [ZW I] λhw w5 S h8 hy=>?_;have h9:=S.size;have hz:At [] w5.heap ⟨hw,0,none⟩ (ZW I):=by have:=hy.at (L:=[]) od;simpa using this
 have hR5:=((hR.I H).I ha).I S;refine Qn<|Ja (m:=1) (news:=ZW I) hR5.own U U U hz (hh [] od).ones.all oa oa λv6 w6 h0 hi h1=>?_;refine Qb ?_;have h2:Yh ZW 10 90 zH ↑w w6 v6 (l++[I]):=hR5.app (λL hL=>(hh L (λb hb=>by
  rcases hL b hb with h|h
  ·omega
  exact hv b h)).I S) h0 hi h1
 refine Qs<|QG U U<|Qa<|xe<|⟨(k+1,v6,l++[I]),by show s.s.ps.length - (k+1)<s.s.ps.length - k;omega,oB,E,((((J.D H).D ha).D S).then hi λb hb=>.inr (Qg hR.own b hb).1),h2,?_⟩;simp only[];rw[hc,Lp,Lp,G,LG,LG,hu];rfl
theorem Qcl {s:JR}(h:Vd L w s)(hl:s.rs.length<=1000):
  QZ sV 27 [pS s.b] w λr w'=>sX w w'/\∃es,es.map V3.rp=s.rs.map V3.rp/\Yh Q0 3 53 Jr ↑w w' r es:=by
 obtain⟨T,hB⟩:=h.blk;have ha:Zo [] w.heap s.vr s.rs.length 3 (s.rs.flatMap Q0):=QB h.rr oa od;refine Zq func27 ?_;refine Qc<|Qb<|Qe<|Qj<|x (XN underlying46 U U)<|xe<|ZO rfl<|Qf<|Qc<|Qb<|Qe<|Qj<|Yf U<|Qo U hB U U<|QF ha U<|Qa<|xe<|Q8 (α:=Nat×O2×List V3) [(3,3),(5,5),(13,22)] (λz=>[(3,z.2.1),(13,sS z.1)]) (λz w'=>z.1<=s.rs.length/\sX w w'/\Yh Q0 3 53 Jr ↑w w' z.2.1 z.2.2/\z.2.2.map V3.rp=(s.rs.take z.1).map V3.rp) (λz=>s.rs.length - z.1) (0,Zm,[]) oB ⟨Ln _,O5.Z _ _,Yh.nil,U⟩ ?_;rintro⟨k,vo,l⟩ g w1 ⟨hk,G,hR,H⟩;simp only[]at hk hR H;have h1:l.length=k:=by have:=OV oQ H;rw[Lh,Lh,LA]at this;omega
 refine Zn rfl U (λV=>?_) (λV=>?_)
 ·refine Qw ?_;have hi:s.rs.length<=k:=by have O:¬(k:Int)<(s.rs.length:Int):=V;omega
  rw[Lt hi]at H;refine Qj<|Qb<|Qh ⟨[vo],La,G,l,H,hR⟩
 have E:k<s.rs.length:=by have O:(k:Int)<(s.rs.length:Int):=V;omega
 have hc:s.rs.take (k+1)=s.rs.take k++[s.rs[k]'E]:=Lm E;have he:=Ll E;refine Qf<|Qe<|Qm<|Qc<|O8 (g:=Q0) (i:=k) Qbg (ha.I G) U U E λh2 O=>?_;refine Zh (s.rs[k]'E) λq hq=>?_;rw[hq]at O hc he;have hf:Jr [] w1.heap q:=((h.rA q he).up od).I G;refine x (Qr O U U)<|QM ZT λb6 w2 hj hn ho=>QI (Q0 q) ho hf.ones λw3 hp hr=>xe ?_;have I:sX w1 w3:=hj.O hp hn;have h3:=I.size;have h4:=G.size;refine Qs<|Qa<|QS hr U U<|Qz<|(Qkg (hf.I I)).mono ?_;rintro r4 w4 ⟨Y,J,rfl,hs,hg⟩;have h5:=Y.size;have ht:=Q7 (hR.I I).own;refine Qn<|Za [Q0 J] λhu w5 S h6 hv=>?_;have h7:=S.size;have hw:At [] w5.heap ⟨hu,0,none⟩ (Q0 J):=by have:=hv.at (L:=[]) od;simpa using this
 have hR5:=((hR.I I).I Y).I S;refine Qn<|Ja (m:=1) (news:=Q0 J) hR5.own U U U hw (hg [] od).ones.all oa oa λv6 w6 hy hh hz=>?_;refine Qb ?_;have h0:Yh Q0 3 53 Jr ↑w w6 v6 (l++[J]):=hR5.app (λL hL=>(hg L (λb hb=>by
  rcases hL b hb with h|h
  ·omega
  exact ht b h)).I S) hy hh hz
 refine Qs<|QG U U<|Qa<|xe<|⟨(k+1,v6,l++[J]),by show s.rs.length - (k+1)<s.rs.length - k;omega,oB,E,((((G.D I).D Y).D S).then hh λb hb=>.inr (Qg hR.own b hb).1),h0,?_⟩;simp only[];rw[hc,Lp,Lp,H,LG,LG,hs]
theorem QfD {α:Type}(g:α->LV)(sz:Nat)(E:∀x,(g x).length=sz):∀(l:List α) (k:Nat),(l.flatMap g).drop (k*sz)=(l.drop k).flatMap g
 | [],k=>od
 | a::l,0=>od
 | a::l,k+1=>by
  rw[show(k+1)*sz=(g a).length+k*sz by rw[E a,Nat.succ_mul];omega,LK,List.drop_append,Ls oa,Ma,MK,QfD g sz E l k];rfl
theorem Qc4 {base:Nat}{v:O2}{l:List DV}(h:Ju base w v l):∀q∈l,∀u∈Qt q,u.oneCell'=true:=λq E=>VY (h.each q E [] od)
theorem Ju.turn {base:Nat}{v r:O2}{l l':List DV}(h:Ju base w v l)(G:O5 (ob v) w w')(H:∀b∈ob r,b∈ob v)(I:∀q∈l',q∈l)(J:w'.ownsRow base 63 9 r l'.length (l'.flatMap Qt)):Ju base w' r l' :=
 ⟨J,λq O L S=>Mm.mono (Mm.st (L:=ob v++L) (h.each q (I q O) _ λb E=>by
  rcases Lc.1 E with E|E
  ·exact .inr E
  exact(S b E).imp id (H b)) (G.mono λb E=>Lc.2 (.inl E))) λb E=>Lc.2 (.inr E)⟩
theorem QmY {base:Nat}{v:O2}{l:List DV}(hR:Ju base w v l){k:Nat}(hk:k<l.length)(hl:l.length<=1000):
  QZ sV 165 [v,sS (k:Int),sS ((k+1:Nat):Int)] w λr w'=>O5 (ob v) w w'/\Ju base w' r (l.take k++l.drop (k+1)):=by
 have h:=hR.own;have he:=Qc4 hR;have O:∀(r:O2) (w':O1),O5 (ob v) w w'/\ob r=ob v/\w'.ownsRow base 63 9 r (l.length - 1) ((l.take k++l.drop (k+1)).flatMap Qt)->O5 (ob v) w w'/\Ju base w' r (l.take k++l.drop (k+1)):=λr w' ⟨G,I,h3⟩ =>
  ⟨G,Ju.turn hR G (λb hb=>I ▸ hb) (λq J=>(Lc.1 J).elim (λh=>LU h) (λh=>L8 h)) (by
   have e:(l.take k++l.drop (k+1)).length=l.length - 1:=by rw[Lk,LA,LX];omega
   rw[e];exact h3)⟩
 refine QZ.mono ?_ O;clear O hR;obtain⟨g,cap,rfl⟩:=X9 h oa;obtain⟨ht,cur,hB,hf,hg⟩:=JB h;refine Zq func165 ?_;refine Qc<|Qb<|Qj<|Qa<|Qa<|Qa<|x (UV U)<|x (QgG (lo:=k) (hi:=k+1) (m:=l.length) U U U U oa oa oa)<|xe<|Qe<|Qj<|Qa<|x (QT U U)<|xe<|QO rfl (λS=>OW (show(k:Int)=((k+1:Nat):Int) from S) oa) (λS=>?_);refine Qf<|Qj<|x (UV U)<|Qb ?_;have H:((l.drop (k+1)).flatMap Qt).length=(l.length - (k+1))*9:=by rw[xG Z0,LX]
 have hh:At [] w.heap ⟨g,if cap=k+1 then 0 else(k+1)*9,none⟩ ((l.drop (k+1)).flatMap Qt):=by
  by_cases hc:cap=k+1
  ·have:(l.drop (k+1)).flatMap Qt=[]:=Lr (by rw[H];omega);rw[this];exact⟨λu E=>(by cases E),λu E=>(by cases E),λj u E=>(by cases E)⟩
  rw[OT hc];have G:=Qge (QB (L:=[]) h oa od) rfl;refine⟨λu _=>od,λu E=>G.lt u (by rw[<-QfD Qt 9 Z0]at E;exact L8 E),λj u E=>?_⟩;rw[<-QfD Qt 9 Z0,ME]at E;have I:=G.cell _ u E;have e:(⟨g,(k+1)*9,none⟩:Addr).add j=(⟨g,0,none⟩:Addr).add ((k+1)*9+j):=by rw[Addr.add_lit,Addr.add_lit,LS]
  rw[e];exact I
 have hj:∀u∈(l.drop (k+1)).flatMap Qt,u.oneCell'=true:=λu E=>by
  obtain⟨q,J,E⟩:=Mc.1 E;exact he q (L8 J) u E
 refine Qe<|qZ (λ_=>True) [oE 0,oE 1,oE 2,oE 3,oE 4,oE 5,oF 6,oE 7] mixed om oe Z ?_;have hd:sX w { w with drawn:=w.drawn+1 }:=O5.C _ _
 refine p Qx<|p Qx<|p (λ_=>JK (hi:=k) U U oa)<|p Qx<|p Qx<|p (λ_=>qB (lo:=k+1) U U oa) <|
  pk<|Qou (g:=g) (n:=k) (cap:=cap) (cur:=cur) (m:=l.length - (k+1)) (L:=[]) hB U hf U H (hh.I hd) hj oa λw2 hm T=>⟨Z,p ZG<|pe ?_⟩
 have hn:O5 [g] w w2:=hd.any.Q hm;have em:k+(l.length - (k+1))=l.length - 1:=oa
 have V:(cur.take (k*9)++(l.drop (k+1)).flatMap Qt).length=(l.length - 1)*9:=by
  rw[Lk,LA,H];omega
 have ho:(cur.take (k*9)++(l.drop (k+1)).flatMap Qt++cur.drop (k*9+((l.drop (k+1)).flatMap Qt).length)).length=cap*9:=by
  rw[Lk,V,LX,H];omega
 have Y:(cur.take (k*9)++(l.drop (k+1)).flatMap Qt++cur.drop (k*9+((l.drop (k+1)).flatMap Qt).length)).take ((l.length - 1)*9)=(l.take k++l.drop (k+1)).flatMap Qt:=by
  rw[List.take_left' V,Ly,<-Qay Qt 9 Z0 l k,<-hg,M4,Mj oa]
 refine Zh (cur.take (k*9)++(l.drop (k+1)).flatMap Qt++cur.drop (k*9+((l.drop (k+1)).flatMap Qt).length)) λhv hp=>?_;rw[hp]at T ho Y;refine Qj<|Qa<|x (UV U)<|Qa<|x (QgF (lo:=k+(l.length - (k+1))) (hi:=l.length) U U U oa oa oa) <|
  Qn<|Qfd (m:=l.length - (k+(l.length - (k+1)))) (o:=(k+(l.length - (k+1)))*9) (λu E=>by simp[Value.cells]at E;rcases E with rfl|rfl|rfl|rfl|rfl|rfl|rfl|rfl|rfl <;> rfl) T ⟨_,rfl,λ_=>⟨U,oa⟩⟩ λw3 hw hr hs hy ha=>xe ?_
 refine Qj<|Qb<|Qh ⟨[sL g (k+(l.length - (k+1))) cap],La,hn.Q hr,U,?_⟩;rw[em]at ha ⊢;exact VT h oa hs oa (ha.D Y) (by rw[xG Z0,Lk,LA,LX];omega)
section
variable {pS:String}
theorem zU {e bys:Nat}[h:Sl P t e sz bys z]{x:O3}{o dLen dCap:Nat}{cur:LV}{a:Addr}{sLen sCap:Nat}(G:QY w.heap g T cur)(hx:ev f x=.slice (some ⟨g,o,none⟩) dLen dCap)(J:ev f y=.slice (some a) sLen sCap)
  (O:cs.length=Nat.min sLen dLen*sz)  (S:At L w.heap a cs) (V:o+cs.length<=cur.length) (Y:∀u∈cs,u.oneCell'=true)
  (hK:∀w',O5 [g] w w'->QY w'.heap g T (cur.take o++cs++cur.drop (o+cs.length))->K (QN f d (goInt (Nat.min sLen dLen))) w'):XO P ⟨d,.call ⟨.builtin .copy,#[x,y],#[t,E]⟩,ty,pS,af,gd⟩ f w K:=by
 obtain⟨i,hi,hz,ha,_⟩:=Sl.info h;have H:=run_storeCells_at P g o T cs 0 cur.toArray w G (oA V) Y;have I:(Builtin.copy_ #[t,E] ty #[.slice (some ⟨g,o,none⟩) dLen dCap,.slice (some a) sLen sCap]).run P w=.ok (goInt (Nat.min sLen dLen)) (w.setRow g (cur.take o++cs++cur.drop (o+cs.length)).toArray):=by
  simp[Builtin.copy_,run_underlying h.u,Builtin.lenOf,Builtin.firstCells,sizeOf,typeInfo,hi,ha,<-O,(run_loadCells_list (P:=P) w a cs S.cells)]at H ⊢;simp[H]
 have hb:(execOp (ev f) ⟨d,.call ⟨.builtin .copy,#[x,y],#[t,E]⟩,ty,pS,af,gd⟩).run P w=.ok (.value (goInt (Nat.min sLen dLen))) (w.setRow g (cur.take o++cs++cur.drop (o+cs.length)).toArray):=by
  simp[execOp,resolve,invoke,builtin,hx,J]at I ⊢;simp[I]
 exact xv hb (hK _ (O5.setRow _ _ _) (X7 G))
end
section
variable {pS:String}
theorem Qos {ti e bys:Nat}[h:Sl P t e sz bys z](T:P.underlying ti=some (.int .i64)){s:O3}{E:Addr}{L0:LN}(V:At L0 w.heap E cs)(Y:ev f s=.slice (some E) n cap)(G:cs.length=n*sz)
  {m:Nat} (hy:ev f y=sS m) (hm:0<m) (ha:cap<n+m) (hb:n+m<=1048576)
  (hK:∀b c' w' zs,sX w w'->↑w<=b->n+m<=c'->zs.length=m*sz->w'.ownsRow ↑w e sz (sL b (n+m) c') (n+m) (cs++zs)->K (QN f d (sL b (n+m) c')) w') (hc:bys<=131072:=by decide):
  XO P ⟨d,.call ⟨.builtin .append,#[s,y],#[t,ti]⟩,ty,pS,af,gd⟩ f w K:=by
 obtain⟨i,hi,hz,I,J⟩:=Sl.info h;have O:(n+m)*bys<=140737488355328:=LH (Nat.mul_le_mul hb hc) oa;have he:n+m<=maxLen:=by simp only[maxLen];omega
 have hn:¬(n+m<=cap):=oa
 have hf:¬(9223372036854775807<((n:Int)+(m:Int))):=oa
 have hq:=growslice_fits (bytes:=i.bytes) ha (by rw[J];exact O);have hg:¬(281474976710656<Builtin.nextslicecap (n+m) cap*i.bytes):=oa
 have hh:IntKind.i64.wrap (m:Int)=(m:Int):=by rw[IntKind.wrap_i64];omega
 have hj:¬((m:Int)<0):=oa
 have ht:m*i.bytes<=140737488355328:=by rw[J];exact LH (LY _ (Nat.le_add_left m n)) O
 have hl:¬(281474976710656<(m:Int)*(i.bytes:Int)):=by
  have:((m*i.bytes:Nat):Int)<=140737488355328:=oa
  rw[Int.natCast_mul]at this;omega
 have hr:(Builtin.append_ #[t,ti] ty #[.slice (some E) n cap,sS m]).run P w=.ok (.slice (some ⟨↑w,0,none⟩) (n+m) (grownCap w (n+m) cap e)) (w.drew.alloc (Obj.cells (cs.toArray++(Builtin.zeroCells z.cells m).toList.toArray++Builtin.zeroCells z.cells (grownCap w (n+m) cap e - (n+m))) e)):=by
  simp[Builtin.append_,run_underlying h.u,run_underlying T,sizeOf,typeInfo,zeroValue,hi,hz,hn,hf,hg,Question.forced,(run_firstCells_some (P:=P) w.drew i.size n E n cap cs (by rw[I];exact G) (oA V.cells)),newRow,grownCap,asInt,asIntOf,hh,hj,hl];intro h0;have h1:0<m*i.size:=Nat.mul_pos hm (by rw[I];exact h.pos);omega
 have ho:(execOp (ev f) ⟨d,.call ⟨.builtin .append,#[s,y],#[t,ti]⟩,ty,pS,af,gd⟩).run P w=.ok (.value (.slice (some ⟨↑w,0,none⟩) (n+m) (grownCap w (n+m) cap e))) (w.drew.alloc (Obj.cells (cs.toArray++(Builtin.zeroCells z.cells m).toList.toArray++Builtin.zeroCells z.cells (grownCap w (n+m) cap e - (n+m))) e)):=by
  simp[execOp,resolve,invoke,builtin,Y,hy,hr]
 have hge:=grownCap_ge w (n+m) cap e;have hp:grownCap w (n+m) cap e<=maxLen:=grownCap_le_maxLen w (n+m) cap e he;have H:(Builtin.zeroCells z.cells m).toList.length=m*sz:=by simp[Builtin.zeroCells,h.zs]
 have S:(cs++(Builtin.zeroCells z.cells m).toList).length=(n+m)*sz:=by rw[Lk,G,H,Mt]
 refine xv ho (hK _ _ _ _ ⟨U,U,U,by rw[V1];exact NU _,λk hk _=>qY w.drew _ k hk⟩ (Lv _) hge H ⟨S,.inr ⟨↑w,_,_,U,Lv _,Kv w.drew _,hge,hp,?_,?_⟩⟩)
 ·simp only[Array.size_append,Od,size_zeroCells,h.zs,G,H,<-Oq];congr 1;omega
 simp only[Array.toList_append,o6];rw[<-LB,<-S];exact List.take_left
theorem Qqc {x:O3}{a:Option Addr}{c e:Nat}(E:P.underlying t=some (.slice e))(hx:ev f x=.slice a n c):
  (execOp (ev f) ⟨d,.call ⟨.builtin .cap,#[x],#[t]⟩,ty,pS,af,gd⟩).run P w=.ok (.value (sS c)) w:=by
 simp[execOp,resolve,invoke,builtin,Builtin.cap_,hx,run_underlying E,goInt]
theorem Qqb {x:O3}{tS tR e:Nat}{ts:Array Nat}(J:P.funcs[g]?=some fn)(O:(fn.name == "runtime.NumGoroutine")=false) (S:fn.body.isNone=true) (T:Extern.findNext fn=none)
  (V:Extern.find fn=some (Extern.SlicesOverlaps.overlaps #[tS,tS] #[tR])) (Y:P.underlying tS=some (.slice e)) {size:Nat} (hz:∀w,(sizeOf e).run P w=.ok size w) {a b:Addr} {la ca lb cb TA TB:Nat} {vs:LV} (hx:ev f x=.slice (some a) la ca) (G:ev f y=.slice (some b) lb cb)
  (H:QY w.heap a.block TA us) (hB:QY w.heap b.block TB vs) (ha:a.block≠b.block) (hg:vs.length≠0) (hh:a=⟨a.block,0,none⟩):
  (execOp (ev f) ⟨d,.call ⟨.value (.func g),#[x,y],ts⟩,ty,pS,af,gd⟩).run P w=.ok (.value (.bool false)) w:=by
 have hi:w.shape? a.block=some (TA,us.length):=by
  have E:w.heap[a.block]?=some (.cells us.toArray TA (0,0)):=H;simp[World.shape?,E]
 have hj:w.shape? b.block=some (TB,vs.length):=by
  have E:w.heap[b.block]?=some (.cells vs.toArray TB (0,0)):=hB;simp[World.shape?,E]
 have hfr:∀o,w.frozen? { block:=a.block,off:=o }=false:=λo=>by
  have E:w.heap[a.block]?=some (.cells us.toArray TA (0,0)):=H;simp[World.frozen?,E]
 have I:=run_callFunc_extern J O S T V #[ev f x,ev f y] w;rw[hx,G,(Lib.run_overlaps_apart (P:=P) w tS tR e Y size hz a b la ca lb cb ha TA TB us.length vs.length hi hj hg (by rw[hh];exact hfr 0) (hfr _))]at I;have h0:ev f (.func g)=.func (.func g) #[] #[]:=rfl;simp[execOp,resolve,h0,Deferred.ofValue,invoke,hx,G,I,Result.andThen]
end
theorem X8 {pS:String}{e bys:Nat}[Sl P t e sz bys z]{x E:O3}{k:IntKind}(hx:ev f x=sL b n cap)(G:ev f E=.int k lo)(H:lo<=n)(J:lo<cap):
  (execOp (ev f) ⟨d,.slice t x (some E) none none,ty,pS,af,gd⟩).run P w=.ok (.value (.slice (some ⟨b,lo*sz,none⟩) (n - lo) (cap - lo))) w:=by
 have I:=qB (P:=P) (w:=w) (d:=d) (ty:=ty) (pS:=pS) (af:=af) (gd:=gd) (t:=t) hx G H
 rwa [OT oa]at I
theorem Ju.turn2 {base:Nat}{v r:O2}{l l':List DV}(h:Ju base w v l)(J:O5 (ob v) w w')(O:∀b∈ob r,b∈ob v\/↑w<=b)(S:∀L:LN,(∀b∈L,b<base\/b∈ob v)->Jg L w.heap q)(T:∀d∈l',d∈l\/d=q)
  (V:w'.ownsRow base 63 9 r l'.length (l'.flatMap Qt)):Ju base w' r l':=by
 refine⟨V,λd hd L H=>?_⟩;have Y:∀L:LN,(∀b∈L,b<base\/b∈ob v)->Jg L w.heap d:=λL H=>(T d hd).elim (λG=>h.each d G L H) (λG=>G ▸ S L H);have G:Jg (ob v++L) w.heap d:=Mm.up (Y (ob v++L.filter λb=>decide (b<base)) λb E=>(Lc.1 E).elim .inr λE=>.inl (OY (L5.1 E).2)) λb E=>by
  rcases Lc.1 E with E|E
  ·exact .inl (Lc.2 (.inl E))
  rcases H b E with I|I
  ·exact .inl (Lc.2 (.inr (L5.2 ⟨E,OX I⟩)))
  exact(O b I).imp (λh3=>Lc.2 (.inl h3)) id
 exact Mm.mono (Mm.st G (J.mono λb E=>Lc.2 (.inl E))) λb E=>Lc.2 (.inr E)
theorem VU {qs:LV}{s:Nat}(E:cs.length=n*s)(G:qs.length=s)(hi:i<=n):(cs.take (i*s)++qs++cs.drop (i*s)).length=(n+1)*s:=by
 have H:i*s<=n*s:=LY _ hi;simp only[oN,Ob,Oa,E,G,Oq];omega
theorem Qmz {base:Nat}{v:O2}{l:List DV}(hR:Ju base w v l)(hr:base<=↑w)(hl:l.length<=1000)(hi:i<=l.length)(hq:∀L:LN,(∀b∈L,b<base\/b∈ob v)->Jg L w.heap q){bq:Nat}(O:QY w.heap bq T (Qt q))(hJ:bq∉ob v):
  QZ sV 168 [v,sS (i:Int),sL bq 1 1] w λr w'=>O5 (ob v) w w'/\Ju base w' r (l.take i++q::l.drop i)/\∀b∈ob r,b∈ob v\/↑w<=b:=by
 have h:=hR.own;have V:=(hq [] od).ones.all;have hs:=Qc4 hR;have H:(l.flatMap Qt).length=l.length*9:=xG Z0 l;have ht:(l.take i++q::l.drop i).length=l.length+1:=by simp only[oN,Ob,oX,Oa];omega
 have hv:(l.take i++q::l.drop i).flatMap Qt=(l.flatMap Qt).take (i*9)++Qt q++(l.flatMap Qt).drop (i*9):=by
  rw[Qay Qt 9 Z0,QfD Qt 9 Z0,Ly,LK,LB]
 have hw:∀d∈l.take i++q::l.drop i,d∈l\/d=q:=λd hd=>by
  rcases Lc.1 hd with hd|hd
  ·exact .inl (LU hd)
  rcases Li.1 hd with rfl|hd
  ·exact .inr U
  exact .inl (L8 hd)
 have hy:∀(r:O2) (w':O1),O5 (ob v) w w'/\(∀b∈ob r,b∈ob v\/↑w<=b)/\w'.ownsRow base 63 9 r (l.length+1) ((l.flatMap Qt).take (i*9)++Qt q++(l.flatMap Qt).drop (i*9))->O5 (ob v) w w'/\Ju base w' r (l.take i++q::l.drop i)/\∀b∈ob r,b∈ob v\/↑w<=b:=λr w' ⟨h1,h2,h3⟩ =>
  ⟨h1,hR.turn2 h1 h2 hq hw (by rw[ht,hv];exact h3),h2⟩
 refine QZ.mono ?_ hy;have Y:∀u∈l.flatMap Qt,u.oneCell'=true:=λu E=>by
  obtain⟨d,hd,E⟩:=Mc.1 E;exact hs d hd u E
 clear hy hR hw ht hv hs;refine Zh (l.flatMap Qt) λcs ha=>?_;refine Zh l.length λn hn=>?_;rw[ha,hn]at h;rw[ha,hn]at H;rw[ha]at Y ⊢;rw[hn]at hl hi ⊢;have hA:=QB (L:=[]) h oa od;refine Zq func168 ?_;refine Qc<|Qb<|Qj<|Qa<|Qrj (lo:=i) hA U U hi λgj _=>xe ?_;refine Qj<|x (UV U)<|Qb<|Qe<|Qj<|x (QT U U)<|xe<|QO rfl (λhK=>OW (show((1:Nat):Int)=0 from hK) ol) (λ_=>?_);refine Qf<|Qj<|QF hA U<|Qb<|Qe<|Qj<|Qa<|x (QT U U)<|xe<|QO rfl (λhc=>?_) (λhc=>?_)
 ·have hL:i=n:=by have hM:(i:Int)=(n:Int):=hc;omega
  refine Qj<|Qa<|Qn<|Ja (m:=1) (news:=Qt q) h U U U (O.at (L:=[]) od) V oa hr λv1 w1 hN hO hP=>Qb<|Qh ⟨[v1],⟨rfl,Z⟩,hO,hP,?_⟩;rw[hL,<-H,M1,List.drop_length,LR];exact hN
 have gk:i<n:=by have hM:¬(i:Int)=(n:Int):=hc;omega
 obtain⟨g,cap,ev⟩:=X9 h oa;have he:ob v=[g]:=by rw[ev];rfl
 have hf:=h;rw[ev]at hf;obtain⟨gl,cur,J,hg,hz⟩:=JB hf;have h0:bq≠g:=λe=>hJ (by rw[he,e];exact Lb.2 U);have h4:At [] w.heap ⟨g,0,none⟩ cs:=Qge hA ev;have gm:i*9<=n*9:=LY _ hi;have h5:∀w':O1,QY w'.heap g 63 cur->At [] w'.heap ⟨g,i*9,none⟩ (cs.drop (i*9)):=λw' h6=>by
  refine⟨λu _=>od,λu _=>h6.lt,λj u E=>?_⟩;rw[ME,<-hz,LW]at E;split at E
  ·have e:(⟨g,i*9,none⟩:Addr).add j=⟨g,i*9+j,none⟩:=KD g (i*9) j;rw[e,h6.cell];exact E
  cases E
 refine Qf<|Qe<|Qj<|Qa<|QG U U<|Qa<|x (Qqc underlying126 ev)<|x (Yd U U)<|xe<|QO rfl (λhh=>?_) (λhh=>?_)
 ·have h7:cap<n+1:=by have hQ:(cap:Int)<(n:Int)+((1:Nat):Int):=hh;omega
  have hS:At [] w.heap ⟨g,0,none⟩ (cs.take (i*9)):=⟨λu _=>od,λu E=>h4.lt u (List.mem_of_mem_take E),λj u E=>h4.cell j u (by rw[List.getElem?_take]at E;split at E;exact E;cases E)⟩;have hT:(cs.take (i*9)).length=i*9:=by rw[LA];omega
  refine Qj<|Qa<|x (JK (hi:=i) ev U oa)<|Qa<|Qa<|QG U U<|Qa<|x (Jk U U ⟨oa,oa⟩) <|
   Qn<|Qos (n:=i) (cap:=cap) (m:=n+1 - i) underlying3 hS U hT (show Go.Lg.ev _ _=_ from OV sS oa) oa oa oa λb2 c2 w2 zs hj h8 gn go hk=>Qb ?_
  have en:i+(n+1 - i)=n+1:=oa
  obtain⟨_,G,hU,hV,h9⟩:=JB hk;rw[en]at h9;have gp:(n+1)*9<=G.length:=by rw[hV];exact LY _ oa
  have n2g:g≠b2:=by have:=J.lt;omega
  have hW:(i+1)*9<=(n+1)*9:=LY _ oa;refine Qj<|Qa<|x (X8 (lo:=i) U U oa oa)<|Qa<|Qn<|zU (cs:=Qt q) hU U U (by rw[show Nat.min 1 (i+(n+1 - i) - i)=1 from Mj oa];exact Z0 q) ((O.I hj).at (L:=[]) od) (by rw[Z0];omega) V λw3 hC hD=>xe ?_;have hm:(G.take (i*9)++Qt q++G.drop (i*9+(Qt q).length)).length=G.length:=by simp only[oN,Ob,Oa,Z0];omega
  have hE:(G.take (i*9)++Qt q++G.drop (i*9+(Qt q).length)).take ((i+1)*9)=cs.take (i*9)++Qt q:=by
   have e1:(G.take (i*9)++Qt q).length=(i+1)*9:=by rw[Lk,LA,Z0];omega
   rw[List.take_left' e1];congr 1;have:=OV (List.take (i*9)) h9;rw[M4,Mj oa,MZ oa,M4,Nat.min_self]at this;exact this
  refine Zh (G.take (i*9)++Qt q++G.drop (i*9+(Qt q).length)) λgq hX=>?_;rw[hX]at hD hm hE;have I:(cs.drop (i*9)).length=(n - i)*9:=by rw[LX,H,Nat.sub_mul]
  refine Qe<|ZA [] (YX 0 9 [8])<|p Qx<|p Qx<|p Qx<|p (λ_=>XS U U ⟨oa,oa⟩)<|p (λ_=>X8 (lo:=i+1) U U oa oa) <|
   p Qx<|p Qx<|p (λ_=>X8 (lo:=i) ev U oa oa)<|pkk<|zU (cs:=cs.drop (i*9)) (hD.I (O5.C _ _)) U U (by rw[I,show Nat.min (n - i) (i+(n+1 - i) - (i+1))=n - i from Mj oa]) (h5 _ (((J.I hj).J hC (oA n2g)).I (O5.C _ _))) (by rw[I,hm];omega) (λu E=>Y u (L8 E)) λw4 ho S=>pe ?_
  refine Qj<|Qb ?_;have hY:O5 [b2] w2 w4:=hC.Q ((O5.C [] w3).any.Q ho);refine Qh ⟨[sL b2 (i+(n+1 - i)) c2],La,(hj.O hY h8).any,λb hb=>?_,?_⟩
  ·have hZ:b∈[b2]:=hb;rw[Lb.1 hZ];exact .inr h8
  rw[en]at hk ⊢;refine VT (Zz hk hr) (Lv _) S ?_ ?_ (VU H (Z0 q) hi)
  ·simp only[oN,Ob,Oa,I,hm];omega
  rw[hE];exact List.take_left' (VU H (Z0 q) hi)
 have h7:n+1<=cap:=by have hQ:¬(cap:Int)<(n:Int)+((1:Nat):Int):=hh;omega
 have hW:(i+1)*9<=(n+1)*9:=LY _ oa;have I:(cs.drop (i*9)).length=(n - i)*9:=by rw[LX,H,Nat.sub_mul]
 refine Qf<|Qj<|Qa<|Qa<|QG U U<|x (JK (hi:=n+1) ev U oa)<|Qb<|Qe<|Qj<|Qa<|Qa<|Qa<|QG U U<|x (X8 (lo:=i+1) U U oa oa) <|
  x (Qqb func244 oe oe oe (tS:=126) (tR:=4) oe underlying126 sizeOf63 (a:=⟨bq,0,none⟩) (b:=⟨g,(i+1)*9,none⟩) U U O J h0 (by rw[hg];omega) U)<|x (ZC U)<|xe ?_
 refine QU rfl (λ_=>?_) (λga=>OW ga ol);have en:n+1 - (i+1)=n - i:=oa
 refine Qe<|ZA [] (YX 0 9 [8])<|p Qx<|p Qx<|p Qx<|p (λ_=>XS U U ⟨oa,oa⟩)<|p (λ_=>X8 (lo:=i+1) U U oa oa) <|
  p Qx<|p Qx<|p (λ_=>X8 (lo:=i) U U oa oa)<|pkk<|zU (cs:=cs.drop (i*9)) (J.I (O5.C _ _)) U U (by rw[I,show Nat.min (n+1 - i) (n+1 - (i+1))=n - i from(Nat.min_eq_right oa).D en]) (h5 _ (J.I (O5.C _ _))) (by rw[I,hg];omega) (λu E=>Y u (L8 E)) λw4 ho S=>pe ?_
 have hF:O5 [g] w w4:=(O5.C [] w).any.Q ho;have hG:(cur.take ((i+1)*9)++cs.drop (i*9)++cur.drop ((i+1)*9+(cs.drop (i*9)).length)).length=cap*9:=by simp only[oN,Ob,Oa,I,hg];omega
 have hH:(cur.take ((i+1)*9)++cs.drop (i*9)++cur.drop ((i+1)*9+(cs.drop (i*9)).length)).take (i*9)=cs.take (i*9):=by
  rw[LB,MZ (by rw[LA];omega),M4,Mj oa,<-hz,M4,Mj oa]
 have hI:((cur.take ((i+1)*9)++cs.drop (i*9)++cur.drop ((i+1)*9+(cs.drop (i*9)).length)).drop (i*9+9)).take ((n - i)*9)=cs.drop (i*9):=by
  have e1:(cur.take ((i+1)*9)).length=i*9+9:=by rw[LA];omega
  rw[LB,List.drop_left' e1,List.take_left' I]
 refine Zh (cur.take ((i+1)*9)++cs.drop (i*9)++cur.drop ((i+1)*9+(cs.drop (i*9)).length)) λhp gb=>?_;rw[gb]at S hG hH hI;refine Qj<|Qa<|x (X8 (lo:=i) U U oa oa)<|Qa<|Qn<|zU (cs:=Qt q) S U U (by rw[show Nat.min 1 (n+1 - i)=1 from Mj oa];exact Z0 q) ((O.J hF (oA h0)).at (L:=[]) od) (by rw[Z0];omega) V λw5 gc gg=>xe ?_;refine Qj<|Qb<|Qh ⟨[sL g (n+1) cap],La,by rw[he];exact hF.Q gc,λb hb=>.inl (by rw[he];exact hb),?_⟩;rcases hf.2 with⟨e1,_⟩|⟨g',cap',cur',e1,gh,gr,gs,gi,gt,gu⟩
 ·cases e1
 cases e1
 refine⟨VU H (Z0 q) hi,.inr ⟨g,cap,_,U,gh,gg,h7,gi,?_,?_⟩⟩
 ·simp only[Od,oN,Ob,Oa,Z0,hG];omega
 have hR:=VU H (Z0 q) hi;rw[Z0,hH];have e3:hp.drop (i*9+9)=cs.drop (i*9)++(hp.drop (i*9+9)).drop ((n - i)*9):=by
  conv=>lhs;rw[<-MF ((n - i)*9) (hp.drop (i*9+9)),hI]
 rw[e3,<-LB];exact List.take_left' hR
theorem Qo4 {k:Int}(G:QY w.heap b T cs)(H:cs[0]?=some (sS k)):
  QZ sV 167 [sT (Qt q),sP b] w λr w'=>r=.bool (decide (k<q.kd))/\sX w w':=by
 refine Zq func167 ?_;refine Qc<|Zl (Qt q) λb2 J E O I=>Qb<|Qc<|Qo U I U U<|Qo U (G.I E) U H<|x (Yd U U)<|Qb<|Qh ⟨[_],La,U,E⟩
theorem K8 {l:List Yi}(h:KW l=0):l.length<=76:=by
 unfold KW at h;split at h
 ·cases h
 omega
theorem Qnz {v:O2}{es:List DV}(G:Ka L w.heap v es)(k:Int)(n:ByteArray):
  QZ sV 97 [v,sS k,.string n] w λr w'=>sX w w'/\∃vo l,r=.tuple #[vo,sS (zy (es.map DV.it) k n).1]/\Ju ↑w w' vo l/\((zy (es.map DV.it) k n).1=0->l.map DV.it=(zy (es.map DV.it) k n).2):=by
 have h:=G.up (L':=[]) od;have E:zy (es.map DV.it) k n=if KW (es.map DV.it)≠0 then(KW (es.map DV.it),[])else if Va (es.map DV.it) k n=false then(10,[])else(0,(es.map DV.it).take (YF (es.map DV.it) k n)++(es.map DV.it).drop (YF (es.map DV.it) k n+1)):=rfl
 refine Zh (zy (es.map DV.it) k n) λD hD=>?_;rw[hD]at E ⊢;refine Zq func97 ?_;refine Qc<|x Qi<|Qb<|Qe<|Qj<|Qz<|(JQ h).mono ?_;rintro r1 w1 ⟨rfl,O⟩;refine Qb<|Qj<|Zx U U<|xe<|QO rfl (λH=>?_) (λH=>?_)
 ·rw[OU H]at E;refine Qj<|x Qi<|Qb<|Qh ⟨[nS,sS (KW (es.map DV.it))],oB,O,nS,[],by rw[E];rfl,Yh.nil,λG=>OW (by rw[E]at G;exact G) H⟩
 rw[OT H]at E;have hp:es.length<=76:=by have:=K8 (Lo.1 H);rwa [Lh]at this
 refine Qf<|Qj<|Qa<|Qa<|Qz<|(yf (h.arr.I O) k n).mono ?_;rintro r2 w2 ⟨⟨i,rfl,hi⟩,ha⟩;have J:=O.D ha;refine Qa<|QW U U<|QW U U<|x Qi<|Qb<|Qe<|Qj<|x (ZC U)<|xe<|QU rfl (λS=>?_) (λS=>?_)
 ·have I:Va (es.map DV.it) k n=false:=by simpa using S
  rw[OU I]at E;refine Qc<|x Qi<|Qb<|Qh ⟨[nS,sS 10],oB,J,nS,[],by rw[E];rfl,Yh.nil,λG=>OW (by rw[E]at G;exact G) ol⟩
 have I:Va (es.map DV.it) k n=true:=by simpa using S
 rw[OT (by rw[I];decide)]at E;have hi:=hi I;have hc:YF (es.map DV.it) k n<es.length:=by have:=OY I;rwa [Lh]at this
 refine Zh (YF (es.map DV.it) k n) λj hj=>?_;rw[hj]at hi hc E;refine Qf<|Qj<|Qz<|(Kk (h.I J) oa).mono ?_;rintro r3 w3 ⟨he,l,T,V⟩;have hq:l.length=es.length:=by have:=OV oQ V;rwa [Lh,Lh]at this
 have hD3:=QmY T (k:=j) oa oa;have hf:(i:Int)+1=((j+1:Nat):Int):=oa
 rw[<-hf,<-hi]at hD3;refine Qa<|Qa<|QG U U<|Qz<|hD3.mono ?_;rintro Y w4 ⟨hg,hh⟩;refine x Qi<|Qb ?_;have hk:=Qg T.own;have ho:=J.size;refine Qh ⟨[Y,sS 0],oB,(J.D he).then hg (λb hb=>.inr (ov (hk b hb).1)),Y,_,by rw[E];rfl,hh.base ho,λ_=>?_⟩;rw[E,Lp,NS,List.map_drop,V]
theorem QpJ {v:O2}{es:List DV}(G:Ka L w.heap v es)(hM:Jg L' w.heap q):
  QZ sV 98 [v,sT (Qt q)] w λr w'=>sX w w'/\∃vo l,r=.tuple #[vo,sS (zx (es.map DV.it) q.it).1]/\Ju ↑w w' vo l/\((zx (es.map DV.it) q.it).1=0->l.map DV.it=(zx (es.map DV.it) q.it).2):=by
 have h:=G.up (L':=[]) od;have hq:=hM.up (L':=[]) od;have E:zx (es.map DV.it) q.it=if KW (es.map DV.it)≠0 then(KW (es.map DV.it),[])else if KW [q.it]≠0 then(KW [q.it],[])else if Va (es.map DV.it) q.kd q.nm=true then(0,(es.map DV.it).set (YF (es.map DV.it) q.kd q.nm) q.it)else if(es.map DV.it).length=76 then(3,[])else
  (0,(es.map DV.it).take ((es.map DV.it).findIdx λy=>decide (q.kd<y.kd))++q.it::(es.map DV.it).drop ((es.map DV.it).findIdx λy=>decide (q.kd<y.kd))):=rfl
 refine Zh (zx (es.map DV.it) q.it) λD hD=>?_;rw[hD]at E ⊢;refine Zq func98 ?_;refine Qc<|Zl (Qt q) λb3 w1 h4 gh hN=>x Qi<|Qb<|Qe<|Qj<|Qz<|(JQ (h.I h4)).mono ?_;rintro r1 w2 ⟨rfl,h5⟩;have h6:=h4.D h5;refine Qb<|Qj<|Zx U U<|xe<|QO rfl (λT=>?_) (λT=>?_)
 ·rw[OU T]at E;refine Qj<|x Qi<|Qb<|Qh ⟨[nS,sS (KW (es.map DV.it))],oB,h6,nS,[],by rw[E];rfl,Yh.nil,λG=>OW (by rw[E]at G;exact G) T⟩
 rw[OT T]at E;have gi:es.length<=76:=by have:=K8 (Lo.1 T);rwa [Lh]at this
 have h7:=hN.I h5;refine Qf<|Qe<|Qc<|QS h7 U U<|Qn<|Za [Qt q] λhO w3 h8 gj hP=>?_;have h9:=h6.D h8;have hQ:Ka [] w3.heap (sL hO 1 1) [q]:=⟨hP.arr (L:=[]) od (n:=1) (cap:=1) (sz:=9) rfl ol (Nat.le_refl _),λd hd=>by rw[List.mem_singleton.1 hd];exact hq.I h9⟩;refine Qz<|(JQ hQ).mono ?_;rintro r4 w4 ⟨rfl,hA⟩;have he:=h9.D hA;refine Qb<|Qj<|Zx U U<|xe<|QO rfl (λhf=>?_) (λhf=>?_)
 ·rw[OU (show KW [q.it]≠0 from hf)]at E;refine Qj<|x Qi<|Qb<|Qh ⟨[nS,sS (KW [q.it])],oB,he,nS,[],by rw[E];rfl,Yh.nil,λG=>OW (by rw[E]at G;exact G) hf⟩
 rw[OT (show ¬KW [q.it]≠0 from hf)]at E;refine Qf<|Qj<|Qz<|(Kk (h.I he) oa).mono ?_;rintro I w5 ⟨hr,l,hl,J⟩;have gk:l.length=es.length:=by have:=OV oQ J;rwa [Lh,Lh]at this
 have hB:=he.D hr;have hC:=he.size;have gl:=hr.size;have hs:=(h7.I (h8.D hA)).I hr;have V:=Qg hl.own;refine Qb<|Qe<|Qj<|Qo U hs U U<|Qo U hs U U<|Qz<|(yf (h.arr.I hB) q.kd q.nm).mono ?_;rintro r6 w6 ⟨⟨i,rfl,hi⟩,hh⟩;have Y:=hB.D hh;have ht:=hl.I hh;have hu:=hs.I hh;have gm:=hh.size;refine Qa<|QW U U<|QW U U<|x Qi<|Qb<|Qj<|xe<|QU rfl (λha=>?_) (λha=>?_)
 ·rw[OU ha]at E;have hi:=hi ha;have hv:YF (es.map DV.it) q.kd q.nm<l.length:=by have:=OY ha;rw[Lh]at this;omega
  refine Zh (YF (es.map DV.it) q.kd q.nm) λj hj=>?_;rw[hj]at hi hv E;refine Qj<|Qa<|QS hu U U<|Qz<|(KI (hq.I Y)).mono ?_;rintro r7 w7 ⟨hk,q',rfl,hw,ho⟩;have hy:=ht.I hk;refine Exists.elim (X9 hy.own oa) λg O=>Exists.elim O λcap O=>?_;have hR:ob I=[g]:=by rw[O];rfl
  have hE:=hy.own;rw[O]at hE;refine x (Zy (i:=j) O (show Go.Lg.ev _ _=_ from OV sS hi) hv)<|Qn<|Qah Z0 hE (show Go.Lg.ev _ _=_ from by show Value.pointer (some ⟨g,0+j*9,none⟩)=_;rw[LS]) rfl hv (ho [] od).ones λw8 hS hF=>xe ?_;refine Qj<|x Qi<|Qb ?_;rw[<-O]at hF;have hG:O5 (ob I) w7 w8:=by rw[hR];exact hS
  have hT:Ju ↑w4 w8 I (l.set j q'):=Ju.turn2 hy hG (λb H=>.inl H) (λL hL=>ho L (λb H=>by
   rcases hL b H with h|h
   ·omega
   have:=V b h;omega)) (λd hd=>MS hd) (by rw[L9];exact hF)
  refine Qh ⟨[I,sS 0],oB,(Y.D hk).then hG (λb H=>.inr (ov (V b H).1)),I,_,by rw[E];rfl,hT.base hC,λ_=>?_⟩;rw[E,OQ,J,hw]
 rw[OT (by rw[ha];decide)]at E;refine Qf<|Qe<|Qj<|QF (h.arr.I Y) U<|x (QT U U)<|xe<|QO rfl (λhz=>?_) (λhz=>?_)
 ·have hn:es.length=76:=by have hU:(es.length:Int)=76:=hz;omega
  rw[OU (by rw[Lh];exact hn)]at E;refine Qc<|x Qi<|Qb<|Qh ⟨[nS,sS 3],oB,Y,nS,[],by rw[E];rfl,Yh.nil,λG=>OW (by rw[E]at G;exact G) ol⟩
 have hn:¬es.length=76:=by have hU:¬(es.length:Int)=76:=hz;omega
 rw[OT (by rw[Lh];exact hn)]at E;have hV:(es.map DV.it).findIdx (λy=>decide (q.kd<y.kd))=l.findIdx λy=>decide (q.kd<y.kd):=by rw[<-J,List.findIdx_map];rfl
 rw[hV]at E;have hW:l.findIdx (λy=>decide (q.kd<y.kd))<=l.length:=List.findIdx_le_length;have h1:ixD (λy:DV=>decide (q.kd<y.kd)) l=if l.findIdx (λy=>decide (q.kd<y.kd))<l.length then((l.findIdx λy=>decide (q.kd<y.kd):Nat):Int)else -1:=rfl
 refine Zh (l.findIdx λy=>decide (q.kd<y.kd)) λat_ hX=>?_;rw[hX]at E hW h1;have hH:Zo [] w6.heap I l.length 9 (l.flatMap Qt):=QB ht.own oa od;refine Qf<|Qj<|x (ZD (l:=[]) (l':=[_]))<|Qz<|(Qfv (q:=λy:DV=>decide (q.kd<y.kd)) (cap:=[sP b3]) hH (λe _ w7 hk=>Qo4 (hu.I hk) U)).mono ?_;rintro r9 w9 ⟨rfl,hc⟩;refine Qb<|QX (α:=Unit) [(11,11),(47,50)] (λ_=>[(11,sS (at_:Int))]) (λ_ w'=>w'=w9) om ?_ ?_
 ·refine Qj<|Ya U U<|xe<|ZI U (λh2=>?_) (λh2=>?_)
  ·refine Qf<|⟨(),⟨?_,Z⟩,U⟩;have S:¬ixD (λy:DV=>decide (q.kd<y.kd)) l<0:=h2;have e:ixD (λy:DV=>decide (q.kd<y.kd)) l=(at_:Int):=by
    rw[h1]at S ⊢;split at S
    ·rename_i hY;rw[OU hY]
    exact OW ol S
   exact OV sS e
  refine Qs<|Qa<|QF (hH.I hc) U<|Qb<|⟨(),⟨?_,Z⟩,U⟩;have S:ixD (λy:DV=>decide (q.kd<y.kd)) l<0:=h2;have e:(l.length:Int)=(at_:Int):=by
   rw[h1]at S;split at S
   ·omega
   omega
  exact OV sS e
 rintro⟨⟩ g gn rfl;have hI:=Y.D hc;have go:=hc.size;refine Qj<|Qa<|QS (hu.I hc) U U<|Qz<|(KI (hq.I hI)).mono ?_;rintro gp gq ⟨h3,q',rfl,hw,ho⟩;have gr:=h3.size;refine Qn<|Za [Qt q'] λhJ hZ hp gs ga=>?_;have gt:=hp.size;have gb:QY hZ.heap hJ 63 (Qt q'):=by have:=ga;simpa using this
 refine Qz<|(Qmz (((ht.I hc).I h3).I hp) oa oa (i:=at_) oa (q:=q') (λL hL=>(ho L (λb H=>by
   rcases hL b H with h|h
   ·omega
   have:=V b h;omega)).I hp) gb (λJ=>ov (V hJ J))).mono ?_
 rintro hK gu ⟨gc,gg,gv⟩;refine x Qi<|Qb<|Qh ⟨[hK,sS 0],oB,((hI.D h3).D hp).then gc (λb H=>.inr (ov (V b H).1)),hK,_,by rw[E];rfl,gg.base hC,λ_=>?_⟩;rw[E,Lp,LG,NS,List.map_drop,J,hw]
end Go.Lg
namespace Go.Proofs
open Go.Proofs.Tryz
open Go.Shelf
def Tryz.sortLo_ren:Go.Shelf.Ren:=⟨λ|6=>170|15=>139|14=>246|28=>214|29=>215|20=>277|21=>278|22=>279|23=>280|24=>281|25=>282|26=>283|27=>284|46=>322|47=>268|48=>269|49=>323|50=>324|57=>342|n=>n,λ|22=>114|24=>118|25=>320|3=>3|39=>285|0=>0|53=>367|55=>369|4=>4|46=>361|45=>360|50=>236|5=>5|9=>9|66=>421|70=>425|76=>452|77=>411|n=>n,λ|n=>n⟩
theorem Tryz.sortLo:Go.Proofs.SlLaysF0.n6 sV Tryz.sortLo_ren:=lyS
def Tryz.sortTe_ren:Go.Shelf.Ren:=⟨λ|6=>172|15=>139|14=>247|28=>214|29=>215|20=>285|21=>286|22=>287|23=>288|24=>289|25=>290|26=>291|27=>292|46=>325|47=>268|48=>269|49=>326|50=>327|57=>343|n=>n,λ|22=>119|24=>123|25=>322|3=>3|39=>285|0=>0|53=>367|55=>369|4=>4|46=>361|45=>360|50=>236|5=>5|9=>9|66=>421|70=>425|76=>452|77=>411|n=>n,λ|n=>n⟩
theorem Tryz.sortTe:Go.Proofs.SlLaysF0.n6 sV Tryz.sortTe_ren:=lyS
end Go.Proofs
namespace Go.Lg
open Go.Lg Go.Sort
abbrev Lz:={ x:Int×Int // 0<=x.1/\x.1<4096 }
instance:Inhabited Lz:=⟨⟨(0,0),ol⟩⟩
abbrev zh (x:Lz):LV:=[sS x.1.1,sS x.1.2]
theorem z0 (x:Lz):(zh x).length=2:=rfl
theorem yM:∀l:List Lz,(l.flatMap zh).length=l.length*2
 | []=>rfl
 | x::l=>by rw[LK,Lk,yM l,z0,LT];omega
theorem zZ {l:List Lz}(I:j<l.length*2):(l.flatMap zh)[j]?=some ((flatK zh 2 l.toArray)[j]!):=by
 have E:j / 2<l.length:=Nat.div_lt_of_lt_mul oa;have G:j % 2<2:=NO _ ol;rw[get_flatK _ _ _ _ (oA I)];have J:(l.flatMap zh)[j]?=(zh (l[j / 2]'E))[j % 2]?:=by
  rw[<-(XZ zh 2 z0 l (j / 2) E),LW,OU G,ME];congr 1;omega
 rw[J];have O:(l.toArray)[j / 2]! = l[j / 2]'E:=by simp[E]
 rw[O];have H:j % 2<(zh (l[j / 2]'E)).length:=G;exact(LF H).D (OV some (getElem!_pos (zh (l[j / 2]'E)) (j % 2) H).symm)
theorem Qea:SWO (ltOf λx y:Lz=>x.1.1 - y.1.1) where
 irrefl x:=by unfold ltOf;simp
 trans x y z h1 h2:=by unfold ltOf at *;simp at *;omega
 ntrans x y z h1 h2:=by unfold ltOf at *;simp at *;omega
theorem Qja:∀{l:xx},(∀x∈l,0<=x.1/\x.1<4096)->∃L:List Lz,L.map Subtype.val=l
 | [],_=>⟨[],U⟩
 | x::l,h=>by
  obtain⟨L,E⟩:=Qja (l:=l) (λy G=>h y (Lj _ G));exact⟨⟨x,h x Lq⟩::L,by rw[LG,E]⟩
theorem Qfm (L:List Lz):L.flatMap zh=(L.map Subtype.val).flatMap QC:=by rw[List.flatMap_map]
theorem Qi9 {l:List Lz}{E:Array Lz}(h:pdq (ltOf λx y:Lz=>x.1.1 - y.1.1) l.toArray 0 l.length (Go.Lib.bitLen l.length) true true=E)(J:((l.map Subtype.val).map (·.1)).Nodup):E.size=l.length/\E.toList.map Subtype.val=isrt (·.1) (l.map Subtype.val):=by
 have G:=pdq_sorts (ltOf λx y:Lz=>x.1.1 - y.1.1) Qea l.toArray 0 l.toArray.size (Go.Lib.bitLen l.length) true true (Ln _) (Lv _) (Or.inl U);rw[LQ,h]at G;obtain⟨H,O⟩:=Qe6 (d:=l.toArray) (by rw[LQ];exact G.1) (by rw[LQ];exact G.2);refine⟨oA H.length_eq,Qmy (λp:Int×Int=>p.1) (H.map _) ?_ J⟩;refine MO.2 (O.imp λ{x y} I=>?_);unfold ltOf at I;have S:¬(y.1.1 - x.1.1<0):=O0 I;show x.1.1<=y.1.1;omega
theorem QqO (x y:Lz)(W:O1):Calls sV 171 #[sT (zh x),sT (zh y)] W λe w'=>e=.returned (sS (x.1.1 - y.1.1))/\∃q os',w'=grow (W.drewN q) os':=by
 have E:IntKind.i64.wrap (x.1.1 - y.1.1)=x.1.1 - y.1.1:=YR ⟨oy x.2 y.2,oy x.2 y.2⟩
 go_enter func171,ntmps171
 go_wp2
 go_ret;exact⟨by rw[<-E];rfl,0,_,by rw[alloc_eq_grow,alloc_eq_grow,grow_grow];rfl⟩
theorem Qgv {base:Nat}{v:O2}{G:xx}(h0:w.ownsRow base 118 2 v G.length (G.flatMap QC))(hb:∀x∈G,0<=x.1/\x.1<4096)(S:(G.map (·.1)).Nodup)(hh:G.length<=1099511627776):
  QZ sV 170 [v,.func (.func 171) #[] #[]] w λ_ w'=>O5 (ob v) w w'/\w'.ownsRow base 118 2 v (isrt (·.1) G).length ((isrt (·.1) G).flatMap QC):=by
 obtain⟨l,hl⟩:=Qja hb;subst hl;rw[<-Qfm,Lh]at h0;rw[Lh]at hh;unfold QZ;rcases h0.2 with⟨rfl,J⟩|⟨g,cap,cur,rfl,hm,O,ho,hp,hq,hr⟩
 ·have hs:l=[]:=Lr J;subst hs;have H:=AnyF.slices_SortFunc_none Tryz.sortLo none 0 (.func (.func 171) #[] #[]) w;change Calls sV 170 _ _ _ at H;refine Calls.mono H λe w' T=>?_;obtain⟨rfl,rfl⟩:=T;exact⟨O5.Z _ _,QD _ _ _ _⟩
 have ha:g<w.heap.size:=(LJ.1 O).1;have hH:HoldsK zh 2 w g 0 l.toArray:=by
  intro j E;rw[size_flatK,LQ]at E;have J:=zZ E;rw[<-hr,LW,OU E]at J;constructor
  ·show(match w.heap[g]? with|some (.cells c _ _)=>if(none:Option _).isSome then none else c[0+j]?|_=>none)=_
   rw[O];simp only[oZ,OE,OF,if_false];rw[<-Mo,J];rfl
  show(match w.heap[g]? with|some (.cells _ _ (lo,hi))=>decide (lo<=0+j) && decide (0+j<hi)|_=>false)=false
  rw[O];simp
 have eg:∀args w,(callFunc 171 args).run sV w=.ok (.enter 171 args) w:=enters_of func171 oe U;have H:=AnyQ.slices_SortFunc_eq Tryz.sortLo 2 isAgg118 sizeOf118 zh z0 (λx v hv=>by simp at hv;rcases hv with rfl|rfl <;> rfl) (λx y=>x.1.1 - y.1.1) Qea 171 #[] g 0 cap l.toArray w eg (λm os dk _ x y=>QqO x y _) hH ha (by simp;omega)
 change Calls sV 170 _ _ _ at H;rw[LQ]at H;refine Calls.mono H λe w' T=>?_;obtain⟨rfl,n,os,rfl⟩:=T;refine Zh (pdq (ltOf λx y:Lz=>x.1.1 - y.1.1) l.toArray 0 l.length (Go.Lib.bitLen l.length) true true) λI hf=>?_;obtain⟨V,ht⟩:=Qi9 hf S;rw[hf,<-ht];have Y:(sortWorldK zh 2 w g 0 n I os).heap=w.heap.modify g (onCells (putCells id 0 (flatK zh 2 I)))++os:=rfl;refine⟨⟨rfl,U,U,?_,λk hk S=>?_⟩,?_⟩
 ·rw[Y,MU,Mh];omega
 ·rw[Y,Mi,Mh,OU hk,Mw,OT (λe=>S (by simp[ob,e]))]
 rw[<-Qfm,Lh];refine⟨yM _,.inr ⟨g,cap,putCells id 0 (flatK zh 2 I) cur,by simp[V],hm,?_,by simp[V];exact ho,hp,by simp[putCells,hq],?_⟩⟩
 ·rw[Y,Mi,Mh,OU ha,Mw,OU rfl,O];rfl
 apply M2;intro j;rw[LW];by_cases E:j<I.toList.length*2
 ·rw[OU E,zZ E,Mo];have hu:j<cur.size:=by simp[V]at E;omega
  have hw:j<(flatK zh 2 I).size:=by simpa using E
  simp only[putCells,Ox,Ol hu,Oz,OR,oZ,true_and,OU hw,OJ,id]
 rw[OT E,MT];rw[yM];omega
theorem QqM (x y:Lz)(W:O1):Calls sV 173 #[sT (zh x),sT (zh y)] W λe w'=>e=.returned (sS (x.1.1 - y.1.1))/\∃q os',w'=grow (W.drewN q) os':=by
 have E:IntKind.i64.wrap (x.1.1 - y.1.1)=x.1.1 - y.1.1:=YR ⟨oy x.2 y.2,oy x.2 y.2⟩
 go_enter func173,ntmps173
 go_wp2
 go_ret;exact⟨by rw[<-E];rfl,0,_,by rw[alloc_eq_grow,alloc_eq_grow,grow_grow];rfl⟩
theorem Qgt {base:Nat}{v:O2}{G:xx}(h0:w.ownsRow base 123 2 v G.length (G.flatMap QC))(hb:∀x∈G,0<=x.1/\x.1<4096)(S:(G.map (·.1)).Nodup)(hh:G.length<=1099511627776):
  QZ sV 172 [v,.func (.func 173) #[] #[]] w λ_ w'=>O5 (ob v) w w'/\w'.ownsRow base 123 2 v (isrt (·.1) G).length ((isrt (·.1) G).flatMap QC):=by
 obtain⟨l,hl⟩:=Qja hb;subst hl;rw[<-Qfm,Lh]at h0;rw[Lh]at hh;unfold QZ;rcases h0.2 with⟨rfl,J⟩|⟨g,cap,cur,rfl,hm,O,ho,hp,hq,hr⟩
 ·have hs:l=[]:=Lr J;subst hs;have H:=AnyF.slices_SortFunc_none Tryz.sortTe none 0 (.func (.func 173) #[] #[]) w;change Calls sV 172 _ _ _ at H;refine Calls.mono H λe w' T=>?_;obtain⟨rfl,rfl⟩:=T;exact⟨O5.Z _ _,QD _ _ _ _⟩
 have ha:g<w.heap.size:=(LJ.1 O).1;have hH:HoldsK zh 2 w g 0 l.toArray:=by
  intro j E;rw[size_flatK,LQ]at E;have J:=zZ E;rw[<-hr,LW,OU E]at J;constructor
  ·show(match w.heap[g]? with|some (.cells c _ _)=>if(none:Option _).isSome then none else c[0+j]?|_=>none)=_
   rw[O];simp only[oZ,OE,OF,if_false];rw[<-Mo,J];rfl
  show(match w.heap[g]? with|some (.cells _ _ (lo,hi))=>decide (lo<=0+j) && decide (0+j<hi)|_=>false)=false
  rw[O];simp
 have eg:∀args w,(callFunc 173 args).run sV w=.ok (.enter 173 args) w:=enters_of func173 oe U;have H:=AnyQ.slices_SortFunc_eq Tryz.sortTe 2 isAgg123 sizeOf123 zh z0 (λx v hv=>by simp at hv;rcases hv with rfl|rfl <;> rfl) (λx y=>x.1.1 - y.1.1) Qea 173 #[] g 0 cap l.toArray w eg (λm os dk _ x y=>QqM x y _) hH ha (by simp;omega)
 change Calls sV 172 _ _ _ at H;rw[LQ]at H;refine Calls.mono H λe w' T=>?_;obtain⟨rfl,n,os,rfl⟩:=T;refine Zh (pdq (ltOf λx y:Lz=>x.1.1 - y.1.1) l.toArray 0 l.length (Go.Lib.bitLen l.length) true true) λI hf=>?_;obtain⟨V,ht⟩:=Qi9 hf S;rw[hf,<-ht];have Y:(sortWorldK zh 2 w g 0 n I os).heap=w.heap.modify g (onCells (putCells id 0 (flatK zh 2 I)))++os:=rfl;refine⟨⟨rfl,U,U,?_,λk hk S=>?_⟩,?_⟩
 ·rw[Y,MU,Mh];omega
 ·rw[Y,Mi,Mh,OU hk,Mw,OT (λe=>S (by simp[ob,e]))]
 rw[<-Qfm,Lh];refine⟨yM _,.inr ⟨g,cap,putCells id 0 (flatK zh 2 I) cur,by simp[V],hm,?_,by simp[V];exact ho,hp,by simp[putCells,hq],?_⟩⟩
 ·rw[Y,Mi,Mh,OU ha,Mw,OU rfl,O];rfl
 apply M2;intro j;rw[LW];by_cases E:j<I.toList.length*2
 ·rw[OU E,zZ E,Mo];have hu:j<cur.size:=by simp[V]at E;omega
  have hw:j<(flatK zh 2 I).size:=by simpa using E
  simp only[putCells,Ox,Ol hu,Oz,OR,oZ,true_and,OU hw,OJ,id]
 rw[OT E,MT];rw[yM];omega
def ji (l:List Yi)(n:ByteArray)(tk:LI):Int:=if Va l 1 n=false then 9 else if(YF l 1 n:Int)∈tk then 8 else 0
theorem QfT {v:O2}{es:List DV}(h:Zo L w.heap v es.length 9 (es.flatMap Qt))(n:ByteArray){tk:LI}(S:QL L' w.heap vt tk):
  QZ sV 169 [v,.string n,vt] w λr w'=>(∃i:Int,r=.tuple #[sS i,sS (ji (es.map DV.it) n tk)]/\(ji (es.map DV.it) n tk=0->i=(YF (es.map DV.it) 1 n:Int)))/\sX w w':=by
 have G:ji (es.map DV.it) n tk=if Va (es.map DV.it) 1 n=false then 9 else if(YF (es.map DV.it) 1 n:Int)∈tk then 8 else 0:=rfl
 refine Zh (ji (es.map DV.it) n tk) λE hE=>?_;rw[hE]at G ⊢;refine Zq func169 ?_;refine Qc<|x Qi<|Qb<|Qj<|Qa<|Qz<|(yf h 1 n).mono ?_;rintro T V ⟨⟨i,rfl,hi⟩,H⟩;refine Qa<|QW U U<|QW U U<|x Qi<|Qb<|Qe<|Qm<|Qj<|x (ZC U)<|Qb<|QU U (λI=>?_) (λI=>?_)
 ·rw[OU (oA I)]at G;subst G;refine Qc<|x Qi<|Qb<|Qh ⟨[sS 0,sS 9],oB,⟨0,U,λe=>OW e ol⟩,H⟩
 have O:Va (es.map DV.it) 1 n=true:=by simpa using I
 have hi:=hi O;subst hi;rw[OT (by rw[O];decide)]at G;refine Qj<|Qa<|Qz<|(Yp (S.I H) _).mono ?_;rintro r2 Y ⟨rfl,rfl⟩;refine Qb<|QO U (λJ=>?_) (λJ=>?_)
 ·rw[OU J]at G;subst G;refine Qc<|x Qi<|Qb<|Qh ⟨[sS 0,sS 8],oB,⟨0,U,λe=>OW e ol⟩,H⟩
 rw[OT J]at G;subst G;refine Qf<|Qj<|x Qi<|Qb<|Qh ⟨[sS _,sS 0],oB,⟨_,U,λ_=>U⟩,H⟩
theorem QaG (l:List Yi)(y:ByteArray×Int)(r:List (ByteArray×Int))(tk:LI)(o:xx):YD l (y::r) tk o=if ji l y.1 tk≠0 then(ji l y.1 tk,[])else YD l r (tk++[(YF l 1 y.1:Int)]) (o++[((YF l 1 y.1:Int),y.2)]):=by
 rw[YD];unfold ji;split
 ·rfl
 split
 ·rfl
 rfl
theorem Qkl {l:List Yi}{n:ByteArray}{tk:LI}(h:ji l n tk=0):YF l 1 n<l.length/\(YF l 1 n:Int)∉tk:=by
 unfold ji at h;split at h
 ·exact OW h ol
 rename_i E;split at h
 ·exact OW h ol
 rename_i G;refine⟨?_,G⟩;have H:Va l 1 n=true:=by simpa using E
 exact OY H
theorem QgW {v:O2}{es:List DV}(h0:Zo L w.heap v es.length 9 (es.flatMap Qt))(gh:es.length<=4096)(hC:Jg L' w.heap q)(gi:q.ls.length<=100000):
  QZ sV 99 [v,sT (Qt q)] w λr w'=>sX w w'/\∃vo,r=.tuple #[vo,sS (YD (es.map DV.it) q.ls [] []).1]/\((YD (es.map DV.it) q.ls [] []).1≠0->vo=Zm) /\
   ((YD (es.map DV.it) q.ls [] []).1=0->w'.ownsRow ↑w 118 2 vo (YD (es.map DV.it) q.ls [] []).2.length ((YD (es.map DV.it) q.ls [] []).2.flatMap QC)):=by
 have h:=h0.up (L':=[]) od;have hq:=hC.up (L':=[]) od;refine Zh (YD (es.map DV.it) q.ls [] []) λR hR=>?_;rw[hR];refine Zq func99 ?_;refine Qc<|Zl (Qt q) λb3 G T gj hD=>x Qi<|Qb ?_;have gk:=T.size;have h1:=h.I T;have hw:=hq.I T;refine Qc<|Qb<|Qc<|Qb<|Qe<|Qc<|Qo U hD U U<|QF hw.ls.arr U<|Qa<|xe<|Q8 (α:=Nat×O2×O2×xx) [(4,7),(9,11),(15,41)] (λz=>[(6,z.2.1),(7,z.2.2.1),(15,sS z.1)]) (λz w'=>z.1<=q.ls.length/\sX G w'/\w'.ownsRow ↑G 118 2 z.2.1 z.2.2.2.length (z.2.2.2.flatMap QC)/\Qq 3 ↑G w' z.2.2.1 (z.2.2.2.map (·.1))/\(∀b∈ob z.2.1,b∉ob z.2.2.1)/\z.2.2.2.length=z.1/\(∀x∈z.2.2.2,0<=x.1/\x.1<4096)/\(z.2.2.2.map (·.1)).Nodup/\YD (es.map DV.it) (q.ls.drop z.1) (z.2.2.2.map (·.1)) z.2.2.2=R) (λz=>q.ls.length - z.1) (0,Zm,Zm,[]) oC
  ⟨Ln _,O5.Z _ _,QD _ _ _ _,QD _ _ _ _,by simp[ob],rfl,od,MM,hR⟩ ?_
 rintro⟨k,vo,vt,l⟩ g w2 ⟨hk,I,J,hg,hn,ho,hr,hs,hE⟩;simp only[]at hk J hg hn ho hr hs hE;have gl:=I.size;have gm:(l.map (·.1)).length=k:=by rw[Lh,ho]
 have h2:=h1.I I;have hG:=hw.I I;refine Zn rfl U (λht=>?_) (λht=>?_)
 ·refine Qw ?_;have hH:q.ls.length<=k:=by have hh:¬(k:Int)<(q.ls.length:Int):=ht;omega
  rw[Ls hH]at hE;rw[YD]at hE;subst hE;refine Qj<|Qz<|(Qgv J hr hs oa).mono ?_;rintro r3 w3 ⟨hI,hJ⟩;refine xe<|Qj<|x Qi<|Qb<|Qh ⟨[vo,sS 0],oB,T.D (I.then hI λb E=>.inr (Qg J b E).1),vo,U,λe=>OW U e,λ_=>Zz hJ oa⟩
 have V:k<q.ls.length:=by have hh:(k:Int)<(q.ls.length:Int):=ht;omega
 have hK:q.ls.drop k=q.ls[k]'V::q.ls.drop (k+1):=LE V;rw[hK,QaG]at hE;refine Qf<|Qe<|Qm<|Qc<|O8 (g:=ZN) (i:=k) QdX hG.ls.arr U U V λgn hh=>?_;refine Zh (q.ls[k]'V) λy hy=>?_;rw[hy]at hh hE;refine x (Qr hh U U)<|QM [.string .empty,sS 0] λb9 w4 hL hM hN=>QI (ZN y) hN oB λw5 hO hz=>xe ?_;have hu:sX w2 w5:=hL.O hO hM;have hP:QL [] w5.heap vt (l.map (·.1)):=(Qq.ints hg oa od).I hu;refine Qj<|Qo U hz U U<|Qa<|Qz<|(QfT (h2.I hu) y.1 hP).mono ?_;rintro r6 w6 ⟨⟨i,rfl,hi⟩,h4⟩;have Y:=hu.D h4;have go:=Y.size;refine Qa<|QW U U<|QW U U<|x Qi<|Qb<|Qe<|Qj<|Zx U U<|xe<|QO rfl (λhe=>?_) (λhe=>?_)
 ·rw[OU he]at hE;subst hE;refine Qj<|x Qi<|Qb<|Qh ⟨[Zm,sS _],oB,T.D (I.D Y),Zm,U,λ_=>U,λe=>OW e he⟩
 rw[OT he]at hE;have h5:ji (es.map DV.it) y.1 (l.map (·.1))=0:=Lo.1 he;have hi:=hi h5;obtain⟨hF,h6⟩:=Qkl h5;rw[Lh]at hF;refine Zh (YF (es.map DV.it) 1 y.1) λF hQ=>?_;rw[hQ]at hi hF h6 hE;subst hi;refine Qf ?_;have hS:Qq 3 ↑G w6 vt (l.map (·.1)):=Qk hg Y;refine Qj<|Qa<|Qn<|Za [[sS F]] λgp w7 hf gq hT=>?_;have h7:Qq 3 ↑G w7 vt (l.map (·.1)):=Qk hS hf;have gr:=hf.size;refine Qn<|Q2 (m:=1) (news:=[sS F]) h7 U U U (by have:=hT.at (L:=[]) od;simpa using this) oq oa oa λhj w8 hU hl hV=>?_;refine Qb ?_;have gs:=hl.size;have hW:∀b∈ob vt,↑G<=b:=λb E=>(Qg h7 b E).1;have hX:sX G w8:=((I.D Y).D hf).then hl λb E=>.inr (hW b E);have h8:∀b∈ob vo,b∉ob hj:=λb E O=>by
  rcases hV b O with H|H
  ·exact hn b E H
  have:=(Qg J b E).2;omega
 refine Qs<|Qa<|Qa<|QQ U<|x (Ql (((hz.I h4).I hf).J hl (λE=>ov (Qg hg b9 E).2)) U U)<|x (Qv ⟨U,U,Z⟩)<|Qn<|Za [QC ((F:Int),y.2)] λgt w9 hm gu hY=>?_;have gv:=hm.size;refine Qn<|Q2 (m:=1) (news:=QC ((F:Int),y.2)) (Qk (Qd (Qk (Qk J Y) hf) hl hn) hm) U U U (by have:=hY.at (L:=[]) od;simpa using this) oq oa oa λh9 hv hZ hA ga=>?_;refine Qb ?_;have hB:=Qk hU hm;have gb:Qq 3 ↑G hv hj ((l++[((F:Int),y.2)]).map (·.1)):=by
  have H:=Qd hB hA (λb E O=>h8 b O E);show hv.ownsRow _ _ 1 _ _ _;simp only[Oj,oN,Oc]at H ⊢;simpa using H
 have gc:sX G hv:=(hX.D hm).then hA λb E=>.inr (Qg J b E).1;have gg:∀b∈ob h9,b∉ob hj:=λb E O=>by
  rcases ga b E with H|H
  ·exact h8 b H O
  have:=(Qg hB b O).2;omega
 refine Qs<|QG U U<|Qa<|xe<|⟨(k+1,h9,hj,l++[((F:Int),y.2)]),by show q.ls.length - (k+1)<q.ls.length - k;omega,oC,V,gc,by rw[Lk,Ly];simpa using hZ,gb,gg,by simp[ho],λp S=>?_,?_,?_⟩
 ·rcases Lc.1 S with S|S
  ·exact hr p S
  simp only[oJ]at S;subst S;exact⟨og,og⟩
 ·rw[Lp,MC];refine⟨hs,od,λa ha b E e=>?_⟩;simp only[oY,OL,oJ]at E;subst E;subst e;exact h6 ha
 rw[Lp];exact hE
theorem Qh4 {v:O2}{es:List DV}(h0:Zo L w.heap v es.length 9 (es.flatMap Qt))(gh:es.length<=4096)(hC:Jg L' w.heap q)(gi:q.ts.length<=100000):
  QZ sV 100 [v,sT (Qt q)] w λr w'=>sX w w'/\∃vo,r=.tuple #[vo,sS (YD (es.map DV.it) q.ts [] []).1]/\((YD (es.map DV.it) q.ts [] []).1≠0->vo=Zm) /\
   ((YD (es.map DV.it) q.ts [] []).1=0->w'.ownsRow ↑w 123 2 vo (YD (es.map DV.it) q.ts [] []).2.length ((YD (es.map DV.it) q.ts [] []).2.flatMap QC)):=by
 have h:=h0.up (L':=[]) od;have hq:=hC.up (L':=[]) od;refine Zh (YD (es.map DV.it) q.ts [] []) λR hR=>?_;rw[hR];refine Zq func100 ?_;refine Qc<|Zl (Qt q) λb3 G T gj hD=>x Qi<|Qb ?_;have gk:=T.size;have h1:=h.I T;have hw:=hq.I T;refine Qc<|Qb<|Qc<|Qb<|Qe<|Qc<|Qo U hD U U<|QF hw.ts.arr U<|Qa<|xe<|Q8 (α:=Nat×O2×O2×xx) [(4,7),(9,11),(15,41)] (λz=>[(6,z.2.1),(7,z.2.2.1),(15,sS z.1)]) (λz w'=>z.1<=q.ts.length/\sX G w'/\w'.ownsRow ↑G 123 2 z.2.1 z.2.2.2.length (z.2.2.2.flatMap QC)/\Qq 3 ↑G w' z.2.2.1 (z.2.2.2.map (·.1))/\(∀b∈ob z.2.1,b∉ob z.2.2.1)/\z.2.2.2.length=z.1/\(∀x∈z.2.2.2,0<=x.1/\x.1<4096)/\(z.2.2.2.map (·.1)).Nodup/\YD (es.map DV.it) (q.ts.drop z.1) (z.2.2.2.map (·.1)) z.2.2.2=R) (λz=>q.ts.length - z.1) (0,Zm,Zm,[]) oC
  ⟨Ln _,O5.Z _ _,QD _ _ _ _,QD _ _ _ _,by simp[ob],rfl,od,MM,hR⟩ ?_
 rintro⟨k,vo,vt,l⟩ g w2 ⟨hk,I,J,hg,hn,ho,hr,hs,hE⟩;simp only[]at hk J hg hn ho hr hs hE;have gl:=I.size;have gm:(l.map (·.1)).length=k:=by rw[Lh,ho]
 have h2:=h1.I I;have hG:=hw.I I;refine Zn rfl U (λht=>?_) (λht=>?_)
 ·refine Qw ?_;have hH:q.ts.length<=k:=by have hh:¬(k:Int)<(q.ts.length:Int):=ht;omega
  rw[Ls hH]at hE;rw[YD]at hE;subst hE;refine Qj<|Qz<|(Qgt J hr hs oa).mono ?_;rintro r3 w3 ⟨hI,hJ⟩;refine xe<|Qj<|x Qi<|Qb<|Qh ⟨[vo,sS 0],oB,T.D (I.then hI λb E=>.inr (Qg J b E).1),vo,U,λe=>OW U e,λ_=>Zz hJ oa⟩
 have V:k<q.ts.length:=by have hh:(k:Int)<(q.ts.length:Int):=ht;omega
 have hK:q.ts.drop k=q.ts[k]'V::q.ts.drop (k+1):=LE V;rw[hK,QaG]at hE;refine Qf<|Qe<|Qm<|Qc<|O8 (g:=ZN) (i:=k) QdX hG.ts.arr U U V λgn hh=>?_;refine Zh (q.ts[k]'V) λy hy=>?_;rw[hy]at hh hE;refine x (Qr hh U U)<|QM [.string .empty,sS 0] λb9 w4 hL hM hN=>QI (ZN y) hN oB λw5 hO hz=>xe ?_;have hu:sX w2 w5:=hL.O hO hM;have hP:QL [] w5.heap vt (l.map (·.1)):=(Qq.ints hg oa od).I hu;refine Qj<|Qo U hz U U<|Qa<|Qz<|(QfT (h2.I hu) y.1 hP).mono ?_;rintro r6 w6 ⟨⟨i,rfl,hi⟩,h4⟩;have Y:=hu.D h4;have go:=Y.size;refine Qa<|QW U U<|QW U U<|x Qi<|Qb<|Qe<|Qj<|Zx U U<|xe<|QO rfl (λhe=>?_) (λhe=>?_)
 ·rw[OU he]at hE;subst hE;refine Qj<|x Qi<|Qb<|Qh ⟨[Zm,sS _],oB,T.D (I.D Y),Zm,U,λ_=>U,λe=>OW e he⟩
 rw[OT he]at hE;have h5:ji (es.map DV.it) y.1 (l.map (·.1))=0:=Lo.1 he;have hi:=hi h5;obtain⟨hF,h6⟩:=Qkl h5;rw[Lh]at hF;refine Zh (YF (es.map DV.it) 1 y.1) λF hQ=>?_;rw[hQ]at hi hF h6 hE;subst hi;refine Qf ?_;have hS:Qq 3 ↑G w6 vt (l.map (·.1)):=Qk hg Y;refine Qj<|Qa<|Qn<|Za [[sS F]] λgp w7 hf gq hT=>?_;have h7:Qq 3 ↑G w7 vt (l.map (·.1)):=Qk hS hf;have gr:=hf.size;refine Qn<|Q2 (m:=1) (news:=[sS F]) h7 U U U (by have:=hT.at (L:=[]) od;simpa using this) oq oa oa λhj w8 hU hl hV=>?_;refine Qb ?_;have gs:=hl.size;have hW:∀b∈ob vt,↑G<=b:=λb E=>(Qg h7 b E).1;have hX:sX G w8:=((I.D Y).D hf).then hl λb E=>.inr (hW b E);have h8:∀b∈ob vo,b∉ob hj:=λb E O=>by
  rcases hV b O with H|H
  ·exact hn b E H
  have:=(Qg J b E).2;omega
 refine Qs<|Qa<|Qa<|QQ U<|x (Ql (((hz.I h4).I hf).J hl (λE=>ov (Qg hg b9 E).2)) U U)<|x (Qv ⟨U,U,Z⟩)<|Qn<|Za [QC ((F:Int),y.2)] λgt w9 hm gu hY=>?_;have gv:=hm.size;refine Qn<|Q2 (m:=1) (news:=QC ((F:Int),y.2)) (Qk (Qd (Qk (Qk J Y) hf) hl hn) hm) U U U (by have:=hY.at (L:=[]) od;simpa using this) oq oa oa λh9 hv hZ hA ga=>?_;refine Qb ?_;have hB:=Qk hU hm;have gb:Qq 3 ↑G hv hj ((l++[((F:Int),y.2)]).map (·.1)):=by
  have H:=Qd hB hA (λb E O=>h8 b O E);show hv.ownsRow _ _ 1 _ _ _;simp only[Oj,oN,Oc]at H ⊢;simpa using H
 have gc:sX G hv:=(hX.D hm).then hA λb E=>.inr (Qg J b E).1;have gg:∀b∈ob h9,b∉ob hj:=λb E O=>by
  rcases ga b E with H|H
  ·exact h8 b H O
  have:=(Qg hB b O).2;omega
 refine Qs<|QG U U<|Qa<|xe<|⟨(k+1,h9,hj,l++[((F:Int),y.2)]),by show q.ts.length - (k+1)<q.ts.length - k;omega,oC,V,gc,by rw[Lk,Ly];simpa using hZ,gb,gg,by simp[ho],λp S=>?_,?_,?_⟩
 ·rcases Lc.1 S with S|S
  ·exact hr p S
  simp only[oJ]at S;subst S;exact⟨og,og⟩
 ·rw[Lp,MC];refine⟨hs,od,λa ha b E e=>?_⟩;simp only[oY,OL,oJ]at E;subst E;subst e;exact h6 ha
 rw[Lp];exact hE
structure ZU where
 dr:Bool
 q:DV
abbrev ZQ (e:ZU):LV:=[.bool e.dr,sS e.q.kd,.string e.q.nm,e.q.p.va,sS e.q.p.a.st,e.q.p.vm,e.q.p.ve,e.q.vl,e.q.vt,sS e.q.bd]
theorem QmT (e:ZU):(ZQ e).length=10:=rfl
def ZU.e (e:ZU):Bool×Yi:=(e.dr,e.q.it)
def Qlb (L:LN)(H:xC)(e:ZU):Prop:=Jg L H e.q
instance:Mm Qlb:=⟨λh E=>Jg.st h E,λh G=>Jg.up h G⟩
theorem Qlb.ones {L:LN}{H:xC}{e:ZU}(h:Qlb L H e):Zb (ZQ e):=⟨U,Jg.ones h⟩
abbrev zc (L:LN)(H:xC)(v:O2)(l:List ZU):Prop:=Go.Lg.XK ZQ 10 Qlb L H v l
theorem Qm0 {l:List Yi}{x:Yi}(h:(zx l x).1=0):(zx l x).2.length<=76:=by
 unfold zx at *;split at h
 ·rename_i E;exact OW h E
 rename_i E;have I:=K8 (Lo.1 E);rw[OT E];split at h
 ·rename_i G;exact OW h G
 rename_i G;rw[OT G];split at h
 ·rename_i H;rw[OU H,L9];exact I
 rename_i H;rw[OT H];split at h
 ·cases h
 rename_i J;rw[OT J];simp only[oN,Ob,oX,Oa];omega
theorem Qm5 {l:List Yi}{k:Int}{n:ByteArray}(h:(zy l k n).1=0):(zy l k n).2.length<=76:=by
 unfold zy at *;split at h
 ·rename_i E;exact OW h E
 rename_i E;have H:=K8 (Lo.1 E);rw[OT E];split at h
 ·cases h
 rename_i G;rw[OT G];simp only[oN,Ob,Oa];omega
theorem QdH {v:O2}{es:List DV}{xs:List ZU}(E:Ka L w.heap v es)(hu:zc L' w.heap vx xs):
  QZ sV 46 [v,vx] w λr w'=>sX w w'/\∃vo l,r=.tuple #[vo,sS (zz (es.map DV.it) (xs.map ZU.e)).1]/\Ju ↑w w' vo l/\((zz (es.map DV.it) (xs.map ZU.e)).1=0->l.map DV.it=(zz (es.map DV.it) (xs.map ZU.e)).2/\l.length<=76):=by
 have h:=E.up (L':=[]) od;have hx:zc [] w.heap vx xs:=hu.up od;have hF:=hx.arr.le;have G:zz (es.map DV.it) (xs.map ZU.e)=if KW (es.map DV.it)≠0 then(KW (es.map DV.it),[])else QbM (xs.map ZU.e) (es.map DV.it):=rfl
 refine Zh (zz (es.map DV.it) (xs.map ZU.e)) λD hD=>?_;rw[hD]at G ⊢;refine Zq func46 ?_;refine Qc<|x Qi<|Qb<|Qe<|Qj<|Qz<|(JQ h).mono ?_;rintro r1 w1 ⟨rfl,S⟩;refine Qb<|Qj<|Zx U U<|xe<|QO rfl (λH=>?_) (λH=>?_)
 ·rw[OU H]at G;refine Qj<|x Qi<|Qb<|Qh ⟨[nS,sS (KW (es.map DV.it))],oB,S,nS,[],by rw[G];rfl,Yh.nil,λE=>OW (by rw[G]at E;exact E) H⟩
 rw[OT H]at G;have hG:es.length<=76:=by have:=K8 (Lo.1 H);rwa [Lh]at this
 refine Qf<|Qj<|Qz<|(Kk (h.I S) oa).mono ?_;rintro r2 w2 ⟨hv,l2,hw,hh⟩;have hH:l2.length=es.length:=by have:=OV oQ hh;rwa [Lh,Lh]at this
 refine Qb<|Qe<|Qj<|QF hx.arr U<|Qa<|xe<|Q8 (α:=Nat×O2×List DV) [(4,5),(7,7),(9,10),(20,47)] (λz=>[(7,z.2.1),(20,sS z.1)]) (λz w'=>z.1<=xs.length/\sX w w'/\Ju ↑w w' z.2.1 z.2.2/\z.2.2.length<=76/\QbM ((xs.map ZU.e).drop z.1) (z.2.2.map DV.it)=D) (λz=>xs.length - z.1) (0,r2,l2) oB
  ⟨Ln _,(S.D hv),hw.base S.size,(show l2.length<=76 by omega),by rw[List.drop_zero,hh];exact G.symm⟩ ?_
 rintro⟨k,vo,l⟩ g V ⟨hk,Y,hl,hi,hR⟩;simp only[]at hk hl hi hR;refine Zn rfl U (λha=>?_) (λha=>?_)
 ·refine Qw ?_;have hy:xs.length<=k:=by have hz:¬(k:Int)<(xs.length:Int):=ha;omega
  rw[Ls (by rw[Lh];exact hy),QbM]at hR;refine Qj<|x Qi<|Qb<|Qh ⟨[vo,sS 0],oB,Y,vo,l,by rw[<-hR];rfl,hl,λ_=>⟨by rw[<-hR],hi⟩⟩
 have I:k<xs.length:=by have hz:(k:Int)<(xs.length:Int):=ha;omega
 have h2:k<(xs.map ZU.e).length:=by rw[Lh];exact I
 rw[LE h2,Mq,QbM]at hR;have hj:=Ll I;have hm:zc [] V.heap vx xs:=Go.Lg.XK.I hx Y;refine Qf<|Qe<|Qm<|Qc<|O8 (g:=ZQ) (i:=k) QmT hm.arr U U I λhI hn=>?_;refine Zh (xs[k]'I) λe he=>?_;rw[he]at hn hj hR;have ho:Jg [] V.heap e.q:=hm.each e hj;refine x (Qr hn U U)<|QM [.bool false,sS 0,.string .empty,nS,sS 0,nS,nS,nS,nS,sS 0] λb9 w4 h3 h4 h5=>QI (ZQ e) h5 (Qlb.ones ho) λw5 h6 T=>xe ?_;have hb:sX V w5:=h3.O h6 h4;have hc:=Y.D hb;have hp:=hc.size;have h7:=hl.I hb;have hq:Ka [] w5.heap vo l:=Ju.dits h7 oa od;refine Qc<|Qb<|QX (α:=O2×List DV) [(7,7),(10,10),(24,43)] (λz=>[(7,z.1),(10,sS (jI (l.map DV.it) e.e).1)]) (λz w'=>sX w w'/\Ju ↑w w' z.1 z.2/\((jI (l.map DV.it) e.e).1=0->z.2.map DV.it=(jI (l.map DV.it) e.e).2/\z.2.length<=76)) om ?_ ?_
 ·refine Qc<|Qo U T U U<|xe<|QU U (λhf=>?_) (λhf=>?_)
  ·have e1:jI (l.map DV.it) e.e=zy (l.map DV.it) e.q.kd e.q.nm:=OU hf;rw[e1];refine Qs<|Qa<|QQ U<|Qo U T U U<|QQ U<|QQ U<|x (Ql T U U) <|
    Qz<|(Qnz hq e.q.kd e.q.nm).mono ?_
   rintro r7 w7 ⟨h8,v7,l7,rfl,h9,hr⟩;refine Qa<|QW U U<|QW U U<|x Qi<|Qb<|⟨(v7,l7),oB,hc.D h8,h9.base hp,λE=>⟨hr E,?_⟩⟩;have J:=Qm5 E;rw[<-hr E,Lh]at J;exact J
  have e1:jI (l.map DV.it) e.e=zx (l.map DV.it) e.q.it:=OT (by show ¬e.dr=true;rw[hf];decide);rw[e1];refine Qs<|Qa<|QQ U<|x (Zd (us:=Qt e.q) T U U U)<|Qz<|(QpJ hq (ho.I hb)).mono ?_;rintro r6 w6 ⟨hA,v6,l6,rfl,hB,hs⟩;refine Qa<|QW U U<|QW U U<|x Qi<|Qb<|⟨(v6,l6),oB,hc.D hA,hB.base hp,λE=>⟨hs E,?_⟩⟩;have J:=Qm0 E;rw[<-hs E,Lh]at J;exact J
 rintro⟨v8,l8⟩ g w8 ⟨ht,hC,hg⟩;refine Qj<|Zx U U<|xe<|QO rfl (λO=>?_) (λO=>?_)
 ·rw[OU O]at hR;refine Qj<|x Qi<|Qb<|Qh ⟨[nS,sS (jI (l.map DV.it) e.e).1],oB,ht,nS,[],by rw[<-hR];rfl,Yh.nil,λE=>OW (by rw[<-hR]at E;exact E) O⟩
 rw[OT O]at hR;obtain⟨hg,hE⟩:=hg (Lo.1 O);refine Qf<|Qs<|QG U U<|Qa<|xe ?_;exact⟨(k+1,v8,l8),og,oB,I,ht,hC,hE,by simp only[];rw[hg];exact hR⟩
structure yg where
 vc:O2
 lc:List IV
 vr:O2
 lr:List IV
 vx:O2
 lx:List XV
 vk:O2
 lk:List KV
def yg.bl (z:yg):LN:=ob z.vc++(ob z.vr++(ob z.vx++ob z.vk))
structure CeA (L:LN)(H:xC)(z:yg):Prop where
 c:∀q∈z.lc,IvA L H q
 r:∀q∈z.lr,IvA L H q
 x:∀q∈z.lx,XvA L H q
 k:∀q∈z.lk,KvA L H q
instance:Mm CeA:=⟨λh G=>⟨λq E=>(h.c q E).st G,λq E=>(h.r q E).st G,λq E=>(h.x q E).st G,λq E=>(h.k q E).st G⟩,λh H=>⟨λq E=>(h.c q E).up H,λq E=>(h.r q E).up H,λq E=>(h.x q E).up H,λq E=>(h.k q E).up H⟩⟩
theorem Mm.own {E:LN->Array Obj->α->Prop}[Mm E]{O O' LL:LN}{q:α}(h:E (O++LL) w.heap q)(H:O5 X w w')(I:∀b∈X,b∈O\/b∈LL)(J:∀b∈O',b∈O\/↑w<=b):E (O'++LL) w'.heap q:=by
 have S:E (O'++(O++LL)) w.heap q:=Mm.up h λb G=>(Lc.1 G).elim (λG=>(J b G).imp (λh=>Lc.2 (.inl h)) id) .inl;refine Mm.mono (Mm.st S (H.mono λb G=>Lc.2 (.inr (Lc.2 (I b G))))) λb G=>?_;exact(Lc.1 G).elim (λG=>Lc.2 (.inl G)) λG=>Lc.2 (.inr (Lc.2 (.inr G)))
structure CwI (LL:LN)(B:Nat)(w:O1)(b7:Nat)(ve:O2)(z:yg):Prop where
 b:∃T,QY w.heap b7 T [ve,z.vc,z.vr,z.vx,z.vk]
 oc:w.ownsRow B 71 5 z.vc z.lc.length (z.lc.flatMap QK)
 or:w.ownsRow B 71 5 z.vr z.lr.length (z.lr.flatMap QK)
 ox:w.ownsRow B 116 2 z.vx z.lx.length (z.lx.flatMap Q3)
 ok:w.ownsRow B 121 3 z.vk z.lk.length (z.lk.flatMap Q9)
 e:CeA (z.bl++LL) w.heap z
 dcr:∀b∈ob z.vc,b∉ob z.vr
 dcx:∀b∈ob z.vc,b∉ob z.vx
 dck:∀b∈ob z.vc,b∉ob z.vk
 drx:∀b∈ob z.vr,b∉ob z.vx
 drk:∀b∈ob z.vr,b∉ob z.vk
 dxk:∀b∈ob z.vx,b∉ob z.vk
section
variable {LL:LN}{w8 w9:O1}{b7:Nat}{z:yg}
theorem CwI.I (h:CwI LL B w b7 ve z)(E:sX w w8):CwI LL B w8 b7 ve z:=by
 obtain⟨T,G⟩:=h.b;exact⟨⟨T,G.I E⟩,Qk h.oc E,Qk h.or E,Qk h.ox E,Qk h.ok E,Mm.I h.e E,h.dcr,h.dcx,h.dck,h.drx,h.drk,h.dxk⟩
theorem CwI.ge (h:CwI LL B w b7 ve z):∀b∈z.bl,B<=b/\b<w.heap.size:=λb E=>by
 unfold yg.bl at E;rcases Lc.1 E with E|E
 ·exact Qg h.oc b E
 rcases Lc.1 E with E|E
 ·exact Qg h.or b E
 rcases Lc.1 E with E|E
 ·exact Qg h.ox b E
 exact Qg h.ok b E
theorem CwI.ap_c (h:CwI LL B w b7 ve z){H:O2}{q:IV}(Y:IvA (z.bl++LL) w.heap q)(V:w8.ownsRow B 71 5 H (z.lc.length+1) (z.lc.flatMap QK++QK q))(O:O5 (ob z.vc) w w8)(S:∀b∈ob H,b∈ob z.vc\/↑w<=b)
  (J:O5 [b7] w8 w9) (ha:∃T,QY w9.heap b7 T [ve,H,z.vr,z.vx,z.vk]) (h7:b7<B) (hL:b7∈LL):CwI LL B w9 b7 ve { z with vc:=H,lc:=z.lc++[q] }:=by
 have gr:=Qg h.or;have gx:=Qg h.ox;have gk:=Qg h.ok;have hc:w8.ownsRow B 71 5 H (z.lc++[q]).length ((z.lc++[q]).flatMap QK):=by
  rw[Lk,Ly];simpa using V
 have he:∀b∈ob z.vc,b∈z.bl:=λb E=>by
  unfold yg.bl;simp only[oW];exact .inl E
 have hz:CeA (z.bl++LL) w.heap { z with vc:=H,lc:=z.lc++[q] }:=⟨λd hd=>(Lc.1 hd).elim (h.e.c d) λhd=>by rw[Lb.1 hd];exact Y,h.e.r,h.e.x,h.e.k⟩
 have hf:CeA ((yg.bl { z with vc:=H,lc:=z.lc++[q] })++LL) w8.heap { z with vc:=H,lc:=z.lc++[q] }:=Mm.own hz O (λb E=>.inl (he b E)) λb E=>by
  unfold yg.bl at E ⊢;simp only[oW]at E ⊢;rcases E with E|E|E|E
  ·exact(S b E).imp (λE=>.inl E) id
  ·exact .inl (.inr (.inl E))
  ·exact .inl (.inr (.inr (.inl E)))
  exact .inl (.inr (.inr (.inr E)))
 refine⟨ha,Qd hc J (λb E G=>by rw[Lb.1 G]at E;have:=(Qg V) b7 E;omega),Qd (Qd h.or O (λb E G=>h.dcr b G E)) J (λb E G=>by rw[Lb.1 G]at E;have:=gr b7 E;omega),Qd (Qd h.ox O (λb E G=>h.dcx b G E)) J (λb E G=>by rw[Lb.1 G]at E;have:=gx b7 E;omega),Qd (Qd h.ok O (λb E G=>h.dck b G E)) J (λb E G=>by rw[Lb.1 G]at E;have:=gk b7 E;omega),Mm.own hf J (λb E=>.inr (by rw[Lb.1 E];exact hL)) (λb E=>.inl E),λb E G=>(S b E).elim (λI=>h.dcr b I G) (λI=>ov (gr b G)),λb E G=>(S b E).elim (λI=>h.dcx b I G) (λI=>ov (gx b G)),λb E G=>(S b E).elim (λI=>h.dck b I G) (λI=>ov (gk b G)),h.drx,h.drk,h.dxk⟩
theorem CwI.ap_r (h:CwI LL B w b7 ve z){H:O2}{q:IV}(Y:IvA (z.bl++LL) w.heap q)(V:w8.ownsRow B 71 5 H (z.lr.length+1) (z.lr.flatMap QK++QK q))(O:O5 (ob z.vr) w w8)(S:∀b∈ob H,b∈ob z.vr\/↑w<=b)
  (J:O5 [b7] w8 w9) (ha:∃T,QY w9.heap b7 T [ve,z.vc,H,z.vx,z.vk]) (h7:b7<B) (hL:b7∈LL):CwI LL B w9 b7 ve { z with vr:=H,lr:=z.lr++[q] }:=by
 have gc:=Qg h.oc;have gx:=Qg h.ox;have gk:=Qg h.ok;have hc:w8.ownsRow B 71 5 H (z.lr++[q]).length ((z.lr++[q]).flatMap QK):=by
  rw[Lk,Ly];simpa using V
 have he:∀b∈ob z.vr,b∈z.bl:=λb E=>by
  unfold yg.bl;simp only[oW];exact .inr (.inl E)
 have hz:CeA (z.bl++LL) w.heap { z with vr:=H,lr:=z.lr++[q] }:=⟨h.e.c,λd hd=>(Lc.1 hd).elim (h.e.r d) λhd=>by rw[Lb.1 hd];exact Y,h.e.x,h.e.k⟩
 have hf:CeA ((yg.bl { z with vr:=H,lr:=z.lr++[q] })++LL) w8.heap { z with vr:=H,lr:=z.lr++[q] }:=Mm.own hz O (λb E=>.inl (he b E)) λb E=>by
  unfold yg.bl at E ⊢;simp only[oW]at E ⊢;rcases E with E|E|E|E
  ·exact .inl (.inl E)
  ·exact(S b E).imp (λE=>.inr (.inl E)) id
  ·exact .inl (.inr (.inr (.inl E)))
  exact .inl (.inr (.inr (.inr E)))
 refine⟨ha,Qd (Qd h.oc O (λb E G=>h.dcr b E G)) J (λb E G=>by rw[Lb.1 G]at E;have:=gc b7 E;omega),Qd hc J (λb E G=>by rw[Lb.1 G]at E;have:=(Qg V) b7 E;omega),Qd (Qd h.ox O (λb E G=>h.drx b G E)) J (λb E G=>by rw[Lb.1 G]at E;have:=gx b7 E;omega),Qd (Qd h.ok O (λb E G=>h.drk b G E)) J (λb E G=>by rw[Lb.1 G]at E;have:=gk b7 E;omega),Mm.own hf J (λb E=>.inr (by rw[Lb.1 E];exact hL)) (λb E=>.inl E),λb E G=>(S b G).elim (λI=>h.dcr b E I) (λI=>ov (gc b E)),h.dcx,h.dck,λb E G=>(S b E).elim (λI=>h.drx b I G) (λI=>ov (gx b G)),λb E G=>(S b E).elim (λI=>h.drk b I G) (λI=>ov (gk b G)),h.dxk⟩
theorem CwI.ap_x (h:CwI LL B w b7 ve z){H:O2}{q:XV}(Y:XvA (z.bl++LL) w.heap q)(V:w8.ownsRow B 116 2 H (z.lx.length+1) (z.lx.flatMap Q3++Q3 q))(O:O5 (ob z.vx) w w8)(S:∀b∈ob H,b∈ob z.vx\/↑w<=b)
  (J:O5 [b7] w8 w9) (ha:∃T,QY w9.heap b7 T [ve,z.vc,z.vr,H,z.vk]) (h7:b7<B) (hL:b7∈LL):CwI LL B w9 b7 ve { z with vx:=H,lx:=z.lx++[q] }:=by
 have gc:=Qg h.oc;have gr:=Qg h.or;have gk:=Qg h.ok;have hc:w8.ownsRow B 116 2 H (z.lx++[q]).length ((z.lx++[q]).flatMap Q3):=by
  rw[Lk,Ly];simpa using V
 have he:∀b∈ob z.vx,b∈z.bl:=λb E=>by
  unfold yg.bl;simp only[oW];exact .inr (.inr (.inl E))
 have hz:CeA (z.bl++LL) w.heap { z with vx:=H,lx:=z.lx++[q] }:=⟨h.e.c,h.e.r,λd hd=>(Lc.1 hd).elim (h.e.x d) λhd=>by rw[Lb.1 hd];exact Y,h.e.k⟩
 have hf:CeA ((yg.bl { z with vx:=H,lx:=z.lx++[q] })++LL) w8.heap { z with vx:=H,lx:=z.lx++[q] }:=Mm.own hz O (λb E=>.inl (he b E)) λb E=>by
  unfold yg.bl at E ⊢;simp only[oW]at E ⊢;rcases E with E|E|E|E
  ·exact .inl (.inl E)
  ·exact .inl (.inr (.inl E))
  ·exact(S b E).imp (λE=>.inr (.inr (.inl E))) id
  exact .inl (.inr (.inr (.inr E)))
 refine⟨ha,Qd (Qd h.oc O (λb E G=>h.dcx b E G)) J (λb E G=>by rw[Lb.1 G]at E;have:=gc b7 E;omega),Qd (Qd h.or O (λb E G=>h.drx b E G)) J (λb E G=>by rw[Lb.1 G]at E;have:=gr b7 E;omega),Qd hc J (λb E G=>by rw[Lb.1 G]at E;have:=(Qg V) b7 E;omega),Qd (Qd h.ok O (λb E G=>h.dxk b G E)) J (λb E G=>by rw[Lb.1 G]at E;have:=gk b7 E;omega),Mm.own hf J (λb E=>.inr (by rw[Lb.1 E];exact hL)) (λb E=>.inl E),h.dcr,λb E G=>(S b G).elim (λI=>h.dcx b E I) (λI=>ov (gc b E)),h.dck,λb E G=>(S b G).elim (λI=>h.drx b E I) (λI=>ov (gr b E)),h.drk,λb E G=>(S b E).elim (λI=>h.dxk b I G) (λI=>ov (gk b G))⟩
theorem CwI.ap_k (h:CwI LL B w b7 ve z){H:O2}{q:KV}(Y:KvA (z.bl++LL) w.heap q)(V:w8.ownsRow B 121 3 H (z.lk.length+1) (z.lk.flatMap Q9++Q9 q))(O:O5 (ob z.vk) w w8)(S:∀b∈ob H,b∈ob z.vk\/↑w<=b)
  (J:O5 [b7] w8 w9) (ha:∃T,QY w9.heap b7 T [ve,z.vc,z.vr,z.vx,H]) (h7:b7<B) (hL:b7∈LL):CwI LL B w9 b7 ve { z with vk:=H,lk:=z.lk++[q] }:=by
 have gc:=Qg h.oc;have gr:=Qg h.or;have gx:=Qg h.ox;have hc:w8.ownsRow B 121 3 H (z.lk++[q]).length ((z.lk++[q]).flatMap Q9):=by
  rw[Lk,Ly];simpa using V
 have he:∀b∈ob z.vk,b∈z.bl:=λb E=>by
  unfold yg.bl;simp only[oW];exact .inr (.inr (.inr E))
 have hz:CeA (z.bl++LL) w.heap { z with vk:=H,lk:=z.lk++[q] }:=⟨h.e.c,h.e.r,h.e.x,λd hd=>(Lc.1 hd).elim (h.e.k d) λhd=>by rw[Lb.1 hd];exact Y⟩
 have hf:CeA ((yg.bl { z with vk:=H,lk:=z.lk++[q] })++LL) w8.heap { z with vk:=H,lk:=z.lk++[q] }:=Mm.own hz O (λb E=>.inl (he b E)) λb E=>by
  unfold yg.bl at E ⊢;simp only[oW]at E ⊢;rcases E with E|E|E|E
  ·exact .inl (.inl E)
  ·exact .inl (.inr (.inl E))
  ·exact .inl (.inr (.inr (.inl E)))
  exact(S b E).imp (λE=>.inr (.inr (.inr E))) id
 refine⟨ha,Qd (Qd h.oc O (λb E G=>h.dck b E G)) J (λb E G=>by rw[Lb.1 G]at E;have:=gc b7 E;omega),Qd (Qd h.or O (λb E G=>h.drk b E G)) J (λb E G=>by rw[Lb.1 G]at E;have:=gr b7 E;omega),Qd (Qd h.ox O (λb E G=>h.dxk b E G)) J (λb E G=>by rw[Lb.1 G]at E;have:=gx b7 E;omega),Qd hc J (λb E G=>by rw[Lb.1 G]at E;have:=(Qg V) b7 E;omega),Mm.own hf J (λb E=>.inr (by rw[Lb.1 E];exact hL)) (λb E=>.inl E),h.dcr,h.dcx,λb E G=>(S b G).elim (λI=>h.dck b E I) (λI=>ov (gc b E)),h.drx,λb E G=>(S b G).elim (λI=>h.drk b E I) (λI=>ov (gr b E)),λb E G=>(S b G).elim (λI=>h.dxk b E I) (λI=>ov (gx b E))⟩
end
def jz (ev:List Ko)(z:yg):ZF:=⟨ev,z.lc.map IV.it,z.lr.map IV.it,z.lx.map XV.x,z.lk.map KV.k⟩
theorem Qhm (all:List Yi)(x:Yi)(l:List Yi)(c:ZF):Qhn all (x::l) c=if(KJ all x c).1≠0 then((KJ all x c).1,VJ)else Qhn all l (KJ all x c).2:=rfl
theorem QrL {all:List Yi}{ev:List Ko}{z:yg}(h:q.kd=1)(v:O2):KJ all q.it (jz ev z)=(0,jz ev { z with vc:=v,lc:=z.lc++[⟨q.nm,q.p⟩] }):=by
 unfold KJ;rw[OU (show q.it.kd=1 from h)];unfold jz;simp only[Oj];rfl
theorem QrK {all:List Yi}{ev:List Ko}{z:yg}(h:q.kd=2)(v:O2):KJ all q.it (jz ev z)=(0,jz ev { z with vr:=v,lr:=z.lr++[⟨q.nm,q.p⟩] }):=by
 unfold KJ;rw[OT (show ¬q.it.kd=1 from λe=>by rw[show q.it.kd=q.kd from rfl,h]at e;cases e),OU (show q.it.kd=2 from h)];unfold jz;simp only[Oj];rfl
theorem QrJ {all:List Yi}{ev:List Ko}{z:yg}(h:q.kd=3):(KJ all q.it (jz ev z)).1=(YD all q.ls [] []).1/\((YD all q.ls [] []).1=0->∀v u,KJ all q.it (jz ev z)=(0,jz ev { z with vx:=v,lx:=z.lx++[⟨q.nm,u,(YD all q.ls [] []).2⟩] })):=by
 have e:KJ all q.it (jz ev z)=if(YD all q.ls [] []).1≠0 then((YD all q.ls [] []).1,VJ)else(0,{ jz ev z with ex:=(jz ev z).ex++[⟨q.nm,(YD all q.ls [] []).2⟩] }):=by
  unfold KJ;rw[OT (show ¬q.it.kd=1 from λe=>by rw[show q.it.kd=q.kd from rfl,h]at e;cases e),OT (show ¬q.it.kd=2 from λe=>by rw[show q.it.kd=q.kd from rfl,h]at e;cases e),OU (show q.it.kd=3 from h)];rfl
 rw[e];refine⟨?_,λE v u=>?_⟩
 ·split
  ·rfl
  rename_i G;exact(Lo.1 G).symm
 rw[OT (not_not_intro E)];unfold jz;simp only[Oj];rfl
theorem QrI {all:List Yi}{ev:List Ko}{z:yg}(h:q.kd=4):(KJ all q.it (jz ev z)).1=(YD all q.ts [] []).1/\((YD all q.ts [] []).1=0->∀v u,KJ all q.it (jz ev z)=(0,jz ev { z with vk:=v,lk:=z.lk++[⟨q.nm,u,(YD all q.ts [] []).2,q.bd⟩] })):=by
 have e:KJ all q.it (jz ev z)=if(YD all q.ts [] []).1≠0 then((YD all q.ts [] []).1,VJ)else(0,{ jz ev z with cs:=(jz ev z).cs++[⟨q.nm,(YD all q.ts [] []).2,q.bd⟩] }):=by
  unfold KJ;rw[OT (show ¬q.it.kd=1 from λe=>by rw[show q.it.kd=q.kd from rfl,h]at e;cases e),OT (show ¬q.it.kd=2 from λe=>by rw[show q.it.kd=q.kd from rfl,h]at e;cases e),OT (show ¬q.it.kd=3 from λe=>by rw[show q.it.kd=q.kd from rfl,h]at e;cases e),OU (show q.it.kd=4 from h)];rfl
 rw[e];refine⟨?_,λE v u=>?_⟩
 ·split
  ·rfl
  rename_i G;exact(Lo.1 G).symm
 rw[OT (not_not_intro E)];unfold jz;simp only[Oj];rfl
theorem QrM {all:List Yi}(E:¬q.kd=1)(G:¬q.kd=2)(H:¬q.kd=3)(I:¬q.kd=4):KJ all q.it c=(0,c):=by
 unfold KJ;rw[OT (show ¬q.it.kd=1 from E),OT (show ¬q.it.kd=2 from G),OT (show ¬q.it.kd=3 from H),OT (show ¬q.it.kd=4 from I)]
theorem je (all:List Yi):∀(r:List (ByteArray×Int)) (tk:LI) (o:xx),(YD all r tk o).2.length<=o.length+r.length
 | [],tk,o=>by rw[YD];exact Nat.le_of_eq ((qN (λp:Int×Int=>p.1) o).length_eq)
 | y::r,tk,o=>by
  rw[YD];split
  ·simp
  split
  ·simp
  refine LH (je all r _ _) ?_;simp only[oN,oX,OI];omega
theorem Qdc {v:O2}{ev:List Ko}{es:List DV}(ka:Ud L w.heap ve ev)(h0:Ka L' w.heap v es)(E:∀q∈es.map DV.it,q.ls.length<=100000/\q.ts.length<=100000):
  QZ sV 47 [ve,v] w λr w'=>sX w w'/\∃cm:CL,r=.tuple #[sT cm.cells,sS (J6 ev (es.map DV.it)).1]/\Zb cm.cells/\((J6 ev (es.map DV.it)).1=0->cm.V=(J6 ev (es.map DV.it)).2/\∀L:LN,(∀b∈L,b<↑w)->ZH L w'.heap cm):=by
 have h:=h0.up (L':=[]) od;have hE:=ka.up (L':=[]) od;have kb:=hE.arr.le;have hn:J6 ev (es.map DV.it)=if KW (es.map DV.it)≠0 then(KW (es.map DV.it),VJ)else Qhn (es.map DV.it) (es.map DV.it) ⟨ev,[],[],[],[]⟩:=rfl
 have hO:Zb (CL.mk Zm Zm Zm Zm Zm [] [] [] [] []).cells:=⟨U,U,U,U,U,Z⟩;refine Zh (J6 ev (es.map DV.it)) λD hD=>?_;rw[hD]at hn ⊢;refine Zq func47 ?_;refine Qc<|QM Z8 λb4 w1 g0 mu hP=>Qb<|Qe<|Qj<|Qz<|(JQ (h.I g0)).mono ?_;rintro r2 w2 ⟨rfl,hA⟩;have hQ:=g0.D hA;have mv:=hA.size;have mw:=hP.lt;refine Qb<|Qj<|Zx U U<|xe<|QO rfl (λhu=>?_) (λhu=>?_)
 ·rw[OU hu]at hn;refine Qc<|x (Qv Z)<|Qa<|QI Z8 (hP.I hA) ⟨U,U,U,U,U,Z⟩ λw3 kc ke=>Qb<|Qh ⟨[sT Z8,sS (KW (es.map DV.it))],⟨Yk ke,U,Z⟩,hQ.O kc oa,CL.mk Zm Zm Zm Zm Zm [] [] [] [] [],by rw[hn];rfl,hO,λh0=>OW (by rw[hn]at h0;exact h0) hu⟩
 rw[OT hu]at hn;have my:es.length<=76:=by have:=K8 (Lo.1 hu);rwa [Lh]at this
 refine Qf<|Qj<|Qz<|(Uz (hE.I hQ).arr).mono ?_;rintro re w4 ⟨hS,hv⟩;have mz:=hS.size;refine x (Qv ⟨xM hv,Z⟩)<|QM Z8 λI w5 kf kg kh=>QI [re,Zm,Zm,Zm,Zm] kh ⟨Qp hv,U,U,U,U,Z⟩ λw6 ki g2=>xe ?_;have hT:sX w4 w6:=kf.O ki kg;have g3:=(hQ.D hS).D hT;have kj:=g2.lt;have hge:=Qg hv;refine Qe<|Qj<|Qz<|(Kk (h.I g3) oa).mono ?_;rintro r7 w8 ⟨hw,l,hl,T⟩;have m2:l.length=es.length:=by have:=OV oQ T;rwa [Lh,Lh]at this
 have kk:=g3.D hw;have m3:=hw.size;have kn:Zo [] w8.heap r7 l.length 9 (l.flatMap Qt):=QB hl.own oa od;have ko:=g2.I hw;have hU:=((hP.I hA).I hS).I (hT.D hw);have kq:=Qk (Qk hv hT) hw;rw[<-T]at hn E;refine QF kn U<|Qa<|xe<|Q8 (α:=Nat×yg) [(5,5),(9,13),(26,100)] (λz=>[(26,sS z.1)]) (λz w'=>z.1<=l.length/\O5 [I] w8 w'/\(∀L:LN,(∀b∈L,b<↑w)->CwI (b4::I::L) ↑w8 w' I re z.2)/\Qhn (l.map DV.it) ((l.drop z.1).map DV.it) (jz ev z.2)=D/\(z.2.lc.length<=z.1/\z.2.lr.length<=z.1/\z.2.lx.length<=z.1/\z.2.lk.length<=z.1))
  (λz=>l.length - z.1) (0,⟨Zm,[],Zm,[],Zm,[],Zm,[]⟩) La ⟨Ln _,O5.Z _ _,λL _=>⟨⟨_,ko⟩,QD _ _ _ _,QD _ _ _ _,QD _ _ _ _,QD _ _ _ _,⟨od,od,od,od⟩,by simp[ob],by simp[ob],by simp[ob],by simp[ob],by simp[ob],by simp[ob]⟩,by rw[List.drop_zero];exact hn.symm,Lv _,Lv _,Lv _,Lv _⟩ ?_
 rintro⟨k,z⟩ g w9 ⟨hk,hf,hI,hR,kr,kt,ku,kv⟩;simp only[]at hk hI hR kr kt ku kv;have g4:sX w w9:=kk.O hf oa;have m4:=hf.size;have hg:=hI [] od;refine Zn rfl U (λhV=>?_) (λhV=>?_)
 ·refine Qw ?_;have kw:l.length<=k:=by have kx:¬(k:Int)<(l.length:Int):=hV;omega
  rw[Ls kw]at hR;have g5:D=(0,jz ev z):=hR.symm;refine Exists.elim hg.b λT7 kz=>?_;have k0:=hU.J hf oh;have g6:Zb [re,z.vc,z.vr,z.vx,z.vk]:=⟨Qp hv,Qp hg.oc,Qp hg.or,Qp hg.ox,Qp hg.ok,Z⟩;refine Qc<|QS kz U U<|QI [re,z.vc,z.vr,z.vx,z.vk] k0 g6 λk4 hB k5=>Qb<|Qh ⟨[.agg #[re,z.vc,z.vr,z.vx,z.vk],sS 0],⟨Yk k5,U,Z⟩,g4.O hB oa,CL.mk re z.vc z.vr z.vx z.vk ev z.lc z.lr z.lx z.lk,by rw[g5];rfl,g6,λ_=>⟨by rw[g5];rfl,λN hN=>?_⟩⟩;have V:=hI N hN;have hF:∀b∈b4::N,b<w8.heap.size:=λb E=>by
   rcases Li.1 E with rfl|E
   ·omega
   have:=hN b E;omega
  have hG:∀b∈b4::N,b∈z.bl++(b4::I::N):=λb E=>Lc.2 (.inr (by
   rcases Li.1 E with rfl|E
   ·exact Lq
   exact Lj _ (Lj _ E)))
  have k6:=Qd kq hf (λb E T=>by rw[Lb.1 T]at E;have:=(hge I E).2;omega);have hC:ZH (b4::N) w9.heap (CL.mk re z.vc z.vr z.vx z.vk ev z.lc z.lr z.lx z.lk):=
   ⟨⟨QB k6 kb (λb E hbL=>by
     have h1:=hge b E;rcases Li.1 hbL with rfl|hbL
     ·omega
     have:=hN b hbL;omega),hE.nm⟩,
    ⟨QB V.oc (show z.lc.length<=1099511627776 by omega) (λb E hbL=>by have h1:=(Qg V.oc b E).1;have:=hF b hbL;omega),λq O=>((V.e.c q O).a.up λb E=>.inl (hG b E)),λq O=>(V.e.c q O).nm⟩,
    ⟨QB V.or (show z.lr.length<=1099511627776 by omega) (λb E hbL=>by have h1:=(Qg V.or b E).1;have:=hF b hbL;omega),λq O=>((V.e.r q O).a.up λb E=>.inl (hG b E)),λq O=>(V.e.r q O).nm⟩,
    ⟨QB V.ox (show z.lx.length<=1099511627776 by omega) (λb E hbL=>by have h1:=(Qg V.ox b E).1;have:=hF b hbL;omega),λq O=>((V.e.x q O).l.up λb E=>.inl (hG b E)),λq O=>(V.e.x q O).nm⟩,
    ⟨QB V.ok (show z.lk.length<=1099511627776 by omega) (λb E hbL=>by have h1:=(Qg V.ok b E).1;have:=hF b hbL;omega),λq O=>((V.e.k q O).l.up λb E=>.inl (hG b E)),λq O=>(V.e.k q O).nm⟩⟩
  exact(hC.st (hB.mono od)).up λb E=>.inl (Lj _ E)
 have hh:k<l.length:=by have kx:(k:Int)<(l.length:Int):=hV;omega
 rw[LE hh,LG,Qhm]at hR;have hW:=Ll hh;have k7:Zo [] w9.heap r7 l.length 9 (l.flatMap Qt):=((QB hl.own oa (λb E T=>by rw[Lb.1 T]at E;have:=(Qg hl.own I E).1;omega):Zo [I] w8.heap r7 l.length 9 (l.flatMap Qt)).st hf).up od;refine Qf<|Qe<|Qm<|Qc<|O8 (g:=Qt) (i:=k) Z0 k7 U U hh λm5 g7=>?_;refine Zh (l[k]'hh) λq O=>?_;rw[O]at g7 hW hR;have hH:=E q.it (LM hW);have g8:∀L:LN,(∀b∈L,b<↑w)->Jg (z.bl++(b4::I::L)) w9.heap q:=λL J=>by
  have h1:Jg (b4::I::L) w8.heap q:=hl.each q hW _ λb E=>.inl (by
   simp only[oL]at E;rcases E with rfl|rfl|E
   ·omega
   ·exact kj
   have:=J b E;omega)
  have S:Jg (z.bl++(b4::I::L)) w8.heap q:=h1.up λb E=>by
   rcases Lc.1 E with E|E
   ·exact .inr ((hI L J).ge b E).1
   exact .inl E
  exact S.st (hf.mono od)
 have ha:Jg [] w9.heap q:=(g8 [] od).up od;refine x (Qr g7 U U)<|QM z9 λb9 k4 hB k8 k9=>QI (Qt q) k9 ha.ones λhs ma he=>xe ?_;have hi:sX w9 hs:=hB.O ma k8;have hJ:=g4.D hi;have m6:=hi.size;have hj:∀L:LN,(∀b∈L,b<↑w)->CwI (b4::I::L) ↑w8 hs I re z:=λL J=>(hI L J).I hi;have hy:=hj [] od;refine Exists.elim hy.b λT7 ht=>?_;have gc:=Qg hg.oc;have gr:=Qg hg.or;have gx:=Qg hg.ox;have gk:=Qg hg.ok;have n7c:I∉ob z.vc:=λT=>ov (gc I T).1
 have n7r:I∉ob z.vr:=λT=>ov (gr I T).1
 have n7x:I∉ob z.vx:=λT=>ov (gx I T).1
 have n7k:I∉ob z.vk:=λT=>ov (gk I T).1
 have g9:∀L:LN,(∀b∈L,b<↑w)->Jg (z.bl++(b4::I::L)) hs.heap q:=λL J=>(g8 L J).I hi;have hz:O5 [I] w8 hs:=hf.D hi;refine Qc<|Qo U he U U<|xe<|Qm<|Qc<|x (QT U U)<|Qb<|QO U (λhX=>?_) (λhX=>?_)
 ·have hk1:q.kd=1:=hX;refine Qs<|Qo U ht U U<|Qo U he U U<|QQ U<|x (Zd (us:=[q.p.va,sS q.p.a.st,q.p.vm,q.p.ve]) he U U U)<|x (Q5 [(0,[.string q.nm]),(1,[q.p.va,sS q.p.a.st,q.p.vm,q.p.ve])] ⟨U,U,U,U,Z⟩) <|
   Qn<|Za [QK ⟨q.nm,q.p⟩] λmf hY G mg hZ=>Qn<|Q2 (m:=1) (news:=QK ⟨q.nm,q.p⟩) (L:=[]) (hy.I G).oc U U U (hZ.at od) (Zb.all (IvA.ones ⟨ha.a,ha.nm⟩)) (show z.lc.length+1<=1099511627776 by omega) (ov G.size) λho h3 h4 H ga =>
   QQ rfl<|Qn<|Qu (j:=1) (u:=ho) ((ht.I G).J H n7c) U U od (Qp h4) λgb Y gg=>xe ?_
  have e:=QrL (all:=l.map DV.it) (ev:=ev) (z:=z) hk1 ho;rw[e,OT od]at hR;refine Qs<|QG U U<|Qa<|xe<|⟨(k+1,{ z with vc:=ho,lc:=z.lc++[⟨q.nm,q.p⟩] }),og,La,hh,((hz.D G).then H (λb E=>.inr (gc b E).1)).Q Y,λL J=>((hj L J).I G).ap_c ⟨((g9 L J).I G).a,ha.nm⟩ h4 H ga Y ⟨T7,gg⟩ oa od,hR,?_⟩
  simp only[oN,oP];omega
 have hk1:¬q.kd=1:=hX;refine Qc<|x (QT U U)<|Qb<|QO U (λgh=>?_) (λgh=>?_)
 ·have gi:q.kd=2:=gh;refine Qs<|Qo U ht U U<|Qo U he U U<|QQ U<|x (Zd (us:=[q.p.va,sS q.p.a.st,q.p.vm,q.p.ve]) he U U U)<|x (Q5 [(0,[.string q.nm]),(1,[q.p.va,sS q.p.a.st,q.p.vm,q.p.ve])] ⟨U,U,U,U,Z⟩) <|
   Qn<|Za [QK ⟨q.nm,q.p⟩] λmf hY G mg hZ=>Qn<|Q2 (m:=1) (news:=QK ⟨q.nm,q.p⟩) (L:=[]) (hy.I G).or U U U (hZ.at od) (Zb.all (IvA.ones ⟨ha.a,ha.nm⟩)) (show z.lr.length+1<=1099511627776 by omega) (ov G.size) λho h3 h4 H ga =>
   QQ rfl<|Qn<|Qu (j:=2) (u:=ho) ((ht.I G).J H n7r) U U od (Qp h4) λgb Y gg=>xe ?_
  have e:=QrK (all:=l.map DV.it) (ev:=ev) (z:=z) gi ho;rw[e,OT od]at hR;refine Qs<|QG U U<|Qa<|xe<|⟨(k+1,{ z with vr:=ho,lr:=z.lr++[⟨q.nm,q.p⟩] }),og,La,hh,((hz.D G).then H (λb E=>.inr (gr b E).1)).Q Y,λL J=>((hj L J).I G).ap_r ⟨((g9 L J).I G).a,ha.nm⟩ h4 H ga Y ⟨T7,gg⟩ oa od,hR,?_⟩
  simp only[oN,oP];omega
 have gi:¬q.kd=2:=gh;refine Qc<|x (QT U U)<|Qb<|QO U (λgj=>?_) (λgj=>?_)
 ·have gl:q.kd=3:=gj;have h5:=je (l.map DV.it) q.ls [] [];have hLk:=QgW (w:=hs) (v:=v) (es:=es) (q:=q) (h.arr.I hJ) oa (ha.I hi) hH.1;rw[<-T]at hLk;have hp:=QrJ (all:=l.map DV.it) (ev:=ev) (z:=z) gl;refine Zh (YD (l.map DV.it) q.ls [] []) λR gm=>?_;rw[gm]at hLk hp h5;refine Qj<|QS he U U<|Qz<|hLk.mono ?_;rintro mh hY ⟨G,vo,rfl,mj,gn⟩;refine Qa<|QW U U<|QW U U<|x Qi<|Qb<|Qe<|Qj<|Zx U U<|xe<|QO U (λhK=>?_) (λhK=>?_)
  ·rw[hp.1,OU hK]at hR;have go:=((hU.J hf oh).I hi).I G;refine Qc<|x (Qv Z)<|Qa<|QI Z8 go ⟨U,U,U,U,U,Z⟩ λh3 H gp=>Qb<|Qh ⟨[sT Z8,sS R.1],⟨Yk gp,U,Z⟩,(hJ.D G).O H oa,CL.mk Zm Zm Zm Zm Zm [] [] [] [] [],by rw[<-hR];rfl,hO,λh0=>OW (by rw[<-hR]at h0;exact h0) hK⟩
  have h6:=Lo.1 hK;have hc:=gn h6;have gq:=Qg hc;have mo:=G.size;have h7:=ht.I G;refine Qf<|Qs<|Qo U h7 U U<|Qo U (he.I G) U U<|Qa<|x (Qv ⟨U,xM hc,Z⟩)<|Qn<|Za [[.string q.nm,vo]] λmq h3 H ms gs=>?_;have gt:=(hy.I G).I H;refine Qn<|Q2 (m:=1) (news:=[.string q.nm,vo]) (L:=[]) gt.ox U U U (gs.at od) (Zb.all (us:=[.string q.nm,vo]) ⟨rfl,Qp hc,Z⟩) (show z.lx.length+1<=1099511627776 by omega) (ov H.size) λhr gb h8 Y gu =>
   QQ rfl<|Qn<|Qu (j:=3) (u:=hr) ((h7.I H).J Y n7x) U U od (Qp h8) λmt h9 gv=>xe ?_
  have e:=hp.2 h6 hr vo;rw[e,OT od]at hR;refine Qs<|QG U U<|Qa<|xe ?_;have gw:R.2.length<=1099511627776:=by
   have h1:=hc.1;exact LH h5 (by have S:q.ls.length<=100000:=hH.1;simp only[OI];omega)
  refine⟨(k+1,{ z with vx:=hr,lx:=z.lx++[⟨q.nm,vo,R.2⟩] }),og,La,hh,(((hz.D G).D H).then Y (λb E=>.inr (gx b E).1)).Q h9,λL J=>(((hj L J).I G).I H).ap_x ⟨(QB hc gw (λb E hbL=>?_)).I H,ha.nm⟩ h8 Y gu h9 ⟨T7,gv⟩ oa od,hR,?_⟩
  ·have h1:=(gq b E).1;rcases Lc.1 hbL with S|S
   ·have:=((hj L J).ge b S).2;omega
   simp only[oL]at S;rcases S with rfl|rfl|S
   ·omega
   ·omega
   have:=J b S;omega
  simp only[oN,oP];omega
 have gl:¬q.kd=3:=gj;refine Qc<|x (QT U U)<|Qb<|ZI U (λgy=>?_) (λgy=>?_)
 ·have gz:¬q.kd=4:=gy;rw[QrM hk1 gi gl gz,OT od]at hR;refine Qf<|Qs<|QG U U<|Qa<|xe ?_;exact⟨(k+1,z),og,La,hh,hz,hj,hR,og⟩
 have gz:q.kd=4:=gy;have h5:=je (l.map DV.it) q.ts [] [];have hLk:=Qh4 (w:=hs) (v:=v) (es:=es) (q:=q) (h.arr.I hJ) oa (ha.I hi) hH.2;rw[<-T]at hLk;have hp:=QrI (all:=l.map DV.it) (ev:=ev) (z:=z) gz;refine Zh (YD (l.map DV.it) q.ts [] []) λR gm=>?_;rw[gm]at hLk hp h5;refine Qj<|QS he U U<|Qz<|hLk.mono ?_;rintro mh hY ⟨G,vo,rfl,mj,gn⟩;refine Qa<|QW U U<|QW U U<|x Qi<|Qb<|Qe<|Qj<|Zx U U<|xe<|QO rfl (λhM=>?_) (λhM=>?_)
 ·rw[hp.1,OU hM]at hR;have go:=((hU.J hf oh).I hi).I G;refine Qc<|x (Qv Z)<|Qa<|QI Z8 go ⟨U,U,U,U,U,Z⟩ λh3 H gp=>Qb<|Qh ⟨[sT Z8,sS R.1],⟨Yk gp,U,Z⟩,(hJ.D G).O H oa,CL.mk Zm Zm Zm Zm Zm [] [] [] [] [],by rw[<-hR];rfl,hO,λh0=>OW (by rw[<-hR]at h0;exact h0) hM⟩
 have h6:=Lo.1 hM;have hc:=gn h6;have gq:=Qg hc;have mo:=G.size;have h7:=ht.I G;refine Qf<|Qs<|Qo U h7 U U<|Qo U (he.I G) U U<|Qa<|Qo U (he.I G) U U<|x (Qv ⟨U,xM hc,U,Z⟩)<|Qn<|Za [[.string q.nm,vo,sS q.bd]] λmq h3 H ms gs=>?_;have gt:=(hy.I G).I H;refine Qn<|Q2 (m:=1) (news:=[.string q.nm,vo,sS q.bd]) (L:=[]) gt.ok U U U (gs.at od) (Zb.all (us:=[.string q.nm,vo,sS q.bd]) ⟨rfl,Qp hc,rfl,Z⟩) (show z.lk.length+1<=1099511627776 by omega) (ov H.size) λhr gb h8 Y gu =>
  QQ rfl<|Qn<|Qu (j:=4) (u:=hr) ((h7.I H).J Y n7k) U U od (Qp h8) λmt h9 gv=>xe ?_
 have e:=hp.2 h6 hr vo;rw[e,OT od]at hR;refine Qs<|QG U U<|Qa<|xe ?_;have gw:R.2.length<=1099511627776:=by
  have h1:=hc.1;exact LH h5 (by have S:q.ts.length<=100000:=hH.2;simp only[OI];omega)
 refine⟨(k+1,{ z with vk:=hr,lk:=z.lk++[⟨q.nm,vo,R.2,q.bd⟩] }),og,La,hh,(((hz.D G).D H).then Y (λb E=>.inr (gk b E).1)).Q h9,λL J=>(((hj L J).I G).I H).ap_k ⟨(QB hc gw (λb E hbL=>?_)).I H,ha.nm⟩ h8 Y gu h9 ⟨T7,gv⟩ oa od,hR,?_⟩
 ·have h1:=(gq b E).1;rcases Lc.1 hbL with S|S
  ·have:=((hj L J).ge b S).2;omega
  simp only[oL]at S;rcases S with rfl|rfl|S
  ·omega
  ·omega
  have:=J b S;omega
 simp only[oN,oP];omega
abbrev edV (s:JR)(cm:CL)(vp:O2)(qs:List V5)(made:Int)(v24:O2)(q:V3)(v16:O2)(b12 b13:Nat):JR:=⟨s.b,⟨cm,vp,qs⟩,made,v24,s.rs++[q],v16,s.us++[⟨b12,b13,s.s⟩]⟩
theorem Qj3 {wA wC wD wE wF wI wJ wK wN wP wM:O1}{s:JR}{cm:CL}{vp:O2}{qs:List V5}{q:V3}{made:Int}{v16 v24:O2}{G b12 b13 T12 T13 TS:Nat}
  (h:Vd L w s) (hL:∀b∈L,b<↑w) (hc:sX w wA) (hn:↑w<=G/\G<↑wA) (hp:jO (G::L) wA.heap vp qs) (hq:Jr (G::L) wA.heap q)
  (hz:sX wA wC) (ho:↑wA<=b12) (hr:↑wA<=b13) (hs:QY wC.heap b12 T12 s.s.c.cells) (ht:QY wC.heap b13 T13 [s.s.vp])
  (hj:O5 (ob s.vu) wC wD) (hv:wD.ownsRow 0 139 1 v16 (s.us.length+1) (s.us.map Vr++[Vr ⟨b12,b13,s.s⟩])) (S:∀b∈ob v16,b∈ob s.vu\/↑wC<=b)
  (he:O5 [s.b] wD wE) (hf:sX wE wF) (h0:∀N:LN,(∀b∈N,b<↑wE)->ZH N wF.heap cm) (hg:O5 [s.b] wF wI) (hh:sX wI wJ) (hk:O5 (ob s.vr) wJ wK)
  (h4:wK.ownsRow 0 53 3 v24 (s.rs.length+1) (s.rs.flatMap Q0++Q0 q)) (T:∀b∈ob v24,b∈ob s.vr\/↑wJ<=b)
  (hi:O5 [s.b] wK wN) (h5:QY wN.heap s.b TS (Qa7 (edV s cm vp qs made v24 q v16 b12 b13))) (V:sX wN wP) (Y:O5 [G] wP wM):
  O5 s.own w wM/\Vd ((edV s cm vp qs made v24 q v16 b12 b13).own++L) wM (edV s cm vp qs made v24 q v16 b12 b13)/\∀b∈(edV s cm vp qs made v24 q v16 b12 b13).own,b∈s.own\/↑w<=b:=by
 have ha:=h.lt;have z2:=hj.size;have z3:=he.size;have z4:=hf.size;have z5:=hg.size;have z6:=hh.size;have msb:s.b∈s.own:=Lq;have mvr:∀b∈ob s.vr,b∈s.own:=λb E=>Lj _ (Lc.2 (.inl E));have mvu:∀b∈ob s.vu,b∈s.own:=λb E=>Lj _ (Lc.2 (.inr E));have lsb:=ha _ msb;have lvr:=λb E=>ha b (mvr b E);have lvu:=λb E=>ha b (mvu b E);have h6:=hs.lt;have h7:=ht.lt;have hw:=Qg hv;have sC:O5 (s.own++[G]) wA wC:=hz.any;have s5:O5 (s.own++[G]) wF wI:=hg.mono λb E=>by rw[Lb.1 E];exact Lc.2 (.inl msb)
 have s7:O5 (s.own++[G]) wJ wK:=hk.mono λb E=>Lc.2 (.inl (mvr b E));have s8:O5 (s.own++[G]) wK wN:=hi.mono λb E=>by rw[Lb.1 E];exact Lc.2 (.inl msb)
 have h8:O5 (s.own++[G]) wP wM:=Y.mono λb E=>Lc.2 (.inr E);have sKM:O5 (s.own++[G]) wK wM:=(s8.D V).Q h8;have sFM:O5 (s.own++[G]) wF wM:=((s5.D hh).Q s7).Q sKM;have sAM:O5 (s.own++[G]) wA wM:=(((sC.Q (hj.mono λb E=>Lc.2 (.inl (mvu b E)))).Q (he.mono λb E=>by rw[Lb.1 E];exact Lc.2 (.inl msb))).D hf).Q sFM;have sDM:O5 (s.own++[G]) wD wM:=((he.mono λb E=>by rw[Lb.1 E];exact Lc.2 (.inl msb):O5 (s.own++[G]) wD wE).D hf).Q sFM;have sCM:O5 (s.own++[G]) wC wM:=(hj.mono λb E=>Lc.2 (.inl (mvu b E)):O5 (s.own++[G]) wC wD).Q sDM;have h9:∀b∈s.own++[G],b∈G::L:=λb E=>by
  rcases Lc.1 E with E|E
  ·exact Lj _ (h.sub b E)
  rw[Lb.1 E];exact Lq
 have own':∀b∈(edV s cm vp qs made v24 q v16 b12 b13).own,b∈s.own\/↑wC<=b:=λb E=>by
  rcases Li.1 E with rfl|E
  ·exact .inl msb
  rcases Lc.1 E with E|E
  ·rcases T b E with I|I
   ·exact .inl (mvr b I)
   exact .inr oa
  rcases S b E with I|I
  ·exact .inl (mvu b I)
  exact .inr I
 have upL:∀b∈((edV s cm vp qs made v24 q v16 b12 b13).own++(G::L)),b∈G::L\/↑wA<=b:=λb E=>by
  rcases Lc.1 E with E|E
  ·rcases own' b E with I|I
   ·exact .inl (Lj _ (h.sub b I))
   exact .inr oa
  exact .inl E
 have dn:∀b∈(edV s cm vp qs made v24 q v16 b12 b13).own++L,b∈(edV s cm vp qs made v24 q v16 b12 b13).own++(G::L):=λb E=>by
  rcases Lc.1 E with E|E
  ·exact Lc.2 (.inl E)
  exact Lc.2 (.inr (Lj _ E))
 have sAM':O5 ((edV s cm vp qs made v24 q v16 b12 b13).own++(G::L)) wA wM:=sAM.mono λb E=>Lc.2 (.inr (h9 b E));have hl:∀b∈G::L,b∈L\/↑w<=b:=λb E=>by
  rcases Li.1 E with rfl|E
  ·exact .inr hn.1
  exact .inl E
 have mS:ye ((edV s cm vp qs made v24 q v16 b12 b13).own++L) wM.heap s.s:=Mm.mono (Mm.st (Mm.up (Mm.I (Mm.up h.st hl) hc) upL) sAM') dn;have nown:∀b,↑wA<=b->b<↑wC->b∉(edV s cm vp qs made v24 q v16 b12 b13).own++L:=λb I H E=>by
  rcases Lc.1 E with E|E
  ·rcases own' b E with O|O
   ·have:=ha b O;omega
   omega
  have:=hL b E;omega
 have nst:∀b,↑wA<=b->b∉s.own++[G]:=λb I E=>by
  rcases Lc.1 E with E|E
  ·have:=ha b E;omega
  rw[Lb.1 E]at I;omega
 refine⟨?_,⟨⟨TS,?_⟩,?_,?_,?_,?_,?_,λb E=>Lc.2 (.inl E),⟨?_,?_⟩,λd hd=>?_,λu hu=>?_⟩,λb E=>(own' b E).imp id λI=>oa⟩
 ·exact hc.any.then sAM λb E=>by
   rcases Lc.1 E with E|E
   ·exact .inl E
   rw[Lb.1 E];exact .inr hn.1
 ·exact(h5.I V).J Y (by simp only[oJ];show s.b≠G;omega)
 ·have I:wK.ownsRow 0 53 3 v24 (s.rs++[q]).length ((s.rs++[q]).flatMap Q0):=by
   rw[Lk,Ly];simpa using h4
  refine Qd (Qk (Qd I hi λb E J=>?_) V) Y λb E J=>?_
  ·rcases T b E with H|H
   ·exact h.d1 (Lb.1 J ▸ H)
   rw[Lb.1 J]at H;omega
  rw[Lb.1 J]at E;rcases T G E with H|H
  ·have:=lvr G H;omega
  omega
 ·have I:wD.ownsRow 0 139 1 v16 (s.us++[(⟨b12,b13,s.s⟩:UnV)]).length ((s.us++[(⟨b12,b13,s.s⟩:UnV)]).map Vr):=by
   rw[Lk,Lp];simpa using hv
  have nsb:∀b∈ob v16,b∉[s.b]:=λb E J=>by
   rw[Lb.1 J]at E;rcases S s.b E with H|H
   ·exact h.d2 H
   omega
  have nvr:∀b∈ob v16,b∉ob s.vr:=λb E J=>by
   rcases S b E with H|H
   ·exact h.d3 b J H
   have:=lvr b J;omega
  have n4:∀b∈ob v16,b∉[G]:=λb E J=>by
   rw[Lb.1 J]at E;rcases S G E with H|H
   ·have:=lvu G H;omega
   omega
  exact Qd (Qk (Qd (Qd (Qk (Qd (Qk (Qd I he nsb) hf) hg nsb) hh) hk nvr) hi nsb) V) Y n4
 ·intro E;rcases T s.b E with H|H
  ·exact h.d1 H
  omega
 ·intro E;rcases S s.b E with H|H
  ·exact h.d2 H
  omega
 ·intro b E J;rcases T b E with H|H
  ·rcases S b J with O|O
   ·exact h.d3 b H O
   have:=lvr b H;omega
  have:=(hw b J).2;omega
 ·have I:ZH (s.b::(ob v16++(ob s.vr++(G::L)))) wF.heap cm:=h0 _ λb E=>by
   rcases Li.1 E with rfl|E
   ·omega
   rcases Lc.1 E with E|E
   ·have:=(hw b E).2;omega
   rcases Lc.1 E with E|E
   ·have:=lvr b E;omega
   rcases Li.1 E with rfl|E
   ·omega
   have:=hL b E;omega
  have H:ZH (ob v24++(s.b::(ob v16++(ob s.vr++(G::L))))) wF.heap cm:=I.up λb E=>by
   rcases Lc.1 E with E|E
   ·rcases T b E with O|O
    ·exact .inl (Lj _ (Lc.2 (.inr (Lc.2 (.inl O)))))
    exact .inr oa
   exact .inl E
  have hy:∀b∈[s.b],b∈ob v24++(s.b::(ob v16++(ob s.vr++(G::L)))):=λb E=>by rw[Lb.1 E];exact Lc.2 (.inr Lq)
  have O:=((((((H.st (hg.mono hy)).I hh).st (hk.mono λb E=>Lc.2 (.inr (Lj _ (Lc.2 (.inr (Lc.2 (.inl E)))))))).st (hi.mono hy)).I V).st (Y.mono λb E=>by
   rw[Lb.1 E];exact Lc.2 (.inr (Lj _ (Lc.2 (.inr (Lc.2 (.inr Lq))))))))
  refine O.up λb E=>.inl ?_;rcases Lc.1 E with E|E
  ·rcases Li.1 E with rfl|E
   ·exact Lc.2 (.inr Lq)
   rcases Lc.1 E with E|E
   ·exact Lc.2 (.inl E)
   exact Lc.2 (.inr (Lj _ (Lc.2 (.inl E))))
  exact Lc.2 (.inr (Lj _ (Lc.2 (.inr (Lc.2 (.inr (Lj _ E)))))))
 ·have I:jO ((edV s cm vp qs made v24 q v16 b12 b13).own++(G::L)) wM.heap vp qs:=Go.Lg.XK.st (Go.Lg.XK.up hp upL) sAM';exact Go.Lg.XK.up I λb E=>.inl (dn b E)
 ·rcases Lc.1 hd with hd|hd
  ·exact Mm.mono (Mm.st (Mm.up (Mm.I (Mm.up (h.rA d hd) hl) hc) upL) sAM') dn
  rw[Lb.1 hd];exact Mm.mono (Mm.st (Mm.up hq upL) sAM') dn
 rcases Lc.1 hu with hu|hu
 ·exact Mm.mono (Mm.st (Mm.up (Mm.I (Mm.up (h.uA u hu) hl) hc) upL) sAM') dn
 rw[Lb.1 hu];exact⟨(hs.J sCM (nst b12 ho)).at (nown b12 ho h6),(ht.J sCM (nst b13 hr)).at (nown b13 hr h7),mS⟩
def q7 (x:Yi):Prop:=x.ls.length<=100000/\x.ts.length<=100000
theorem yb {co:List XC}:∀{l:xx}{r:List (ByteArray×Int)},Uj co l=some r->r.length=l.length
 | [],r,h=>by
  rw[Uj]at h;cases h;rfl
 | y::l,r,h=>by
  rw[Uj]at h;cases E:jF co y.1 with
  | none=>rw[E]at h;cases h
  | some n =>
   rw[E]at h;obtain⟨H,G,rfl⟩:=Mr.1 h;rw[LT,LT,yb G]
theorem QfO {co:List XC}:∀{l:List qu}{a:List Yi},J5 co l=some a->(∀q∈l,q.ls.length<=100000)->∀x∈a,q7 x
 | [],a,h,_=>by
  rw[J5]at h;cases h
  exact λx hx=>by cases hx
 | x::l,a,h,G=>by
  rw[J5]at h;cases hx:Uj co x.ls with
  | none=>rw[hx]at h;cases h
  | some n =>
   rw[hx]at h;obtain⟨I,H,rfl⟩:=Mr.1 h;intro y E;rcases Li.1 E with rfl|E
   ·exact⟨by show n.length<=_;rw[yb hx];exact G x Lq,od⟩
   exact QfO H (λq h=>G q (Lj _ h)) y E
theorem QfP {co:List XC}:∀{l:List xL}{a:List Yi},Kr co l=some a->(∀q∈l,q.ts.length<=100000)->∀x∈a,q7 x
 | [],a,h,_=>by
  rw[Kr]at h;cases h
  exact λx hx=>by cases hx
 | x::l,a,h,G=>by
  rw[Kr]at h;cases hx:Uj co x.ts with
  | none=>rw[hx]at h;cases h
  | some n =>
   rw[hx]at h;obtain⟨I,H,rfl⟩:=Mr.1 h;intro y E;rcases Li.1 E with rfl|E
   ·exact⟨od,by show n.length<=_;rw[yb hx];exact G x Lq⟩
   exact QfP H (λq h=>G q (Lj _ h)) y E
theorem yc (E:CSz c)(h:(ZR c).1=0):∀x∈(ZR c).2,q7 x:=by
 obtain⟨a,b,G,H,e,_⟩:=jf h;intro x hx;rw[e]at hx;rcases Lc.1 hx with hx|hx
 ·obtain⟨y,_,rfl⟩:=LC.1 hx;exact⟨by simp[K9],by simp[K9]⟩
 rcases Lc.1 hx with hx|hx
 ·obtain⟨y,_,rfl⟩:=LC.1 hx;exact⟨by simp[K9],by simp[K9]⟩
 rcases Lc.1 hx with hx|hx
 ·exact QfO G E.x x hx
 exact QfP H E.k x hx
theorem QmZ {l:List Yi}{x:Yi}(G:∀y∈l,q7 y)(hx:q7 x):∀y∈(zx l x).2,q7 y:=by
 unfold zx;split
 ·exact λy E=>by cases E
 split
 ·exact λy E=>by cases E
 split
 ·intro y E;rcases MS E with E|rfl
  ·exact G y E
  exact hx
 split
 ·exact λy E=>by cases E
 intro y E;rcases Lc.1 E with E|E
 ·exact G y (LU E)
 rcases Li.1 E with rfl|E
 ·exact hx
 exact G y (L8 E)
theorem Qm4 {l:List Yi}{k:Int}{n:ByteArray}(G:∀y∈l,q7 y):∀y∈(zy l k n).2,q7 y:=by
 unfold zy;split
 ·exact λy E=>by cases E
 split
 ·exact λy E=>by cases E
 intro y E;rcases Lc.1 E with E|E
 ·exact G y (LU E)
 exact G y (L8 E)
theorem QfR:∀{es:List (Bool×Yi)}{l:List Yi},(∀y∈l,q7 y)->(∀e∈es,q7 e.2)->∀y∈(QbM es l).2,q7 y
 | [],l,E,_=>by rw[QbM];exact E
 | e::es,l,E,G=>by
  rw[QbM];split
  ·exact λy H=>by cases H
  refine QfR ?_ λe h=>G e (Lj _ h);unfold jI;split
  ·exact Qm4 E
  exact QmZ E (G e Lq)
theorem QfQ {es:List (Bool×Yi)}{l:List Yi}(E:∀y∈l,q7 y)(G:∀e∈es,q7 e.2):∀y∈(zz l es).2,q7 y:=by
 unfold zz;split
 ·exact λy H=>by cases H
 exact QfR E G
structure UnZ where
 b12:Nat
 b13:Nat
def unP (N:Nat)(i:Nat)(v:O2)(w':O1):Prop:=∃b T,v=pS b/\N<=b/\QY w'.heap b T (if i=8 then Z8 else[Zm])
theorem Qly (N:Nat):∀i v (w w':O1),unP N i v w->sX w w'->unP N i v w':=λ_ _ _ _ ⟨b,T,E,G,H⟩ I=>⟨b,T,E,G,H.I I⟩
theorem Qnx {s:JR}{xs:List ZU}(h:Vd L w s)(hL:∀b∈L,b<↑w)(hx:zc L2 w.heap vl xs)(kw:∀e∈xs.map ZU.e,q7 e.2)(gy:QkW s.s.c.V (s.s.ps.map (·.pt)))(kx:s.s.ps.length<=1000)
  (hm:0<=s.made/\s.made<=1099511627776) (j1:s.rs.length<=64) (j2:s.us.length<=64) (kz:Kb w 4096):
  QZ sV 13 [pS s.b,vl] w λr w'=>∃qr:V3,r=.tuple #[sT (Q0 qr),sS (UL s.sys (xs.map ZU.e))]/\(∀N:LN,(∀b∈N,b<↑w)->Jr N w'.heap qr)/\(UL s.sys (xs.map ZU.e)≠0->sX w w'/\qr.rp=⟨[],[],[]⟩) /\
   (UL s.sys (xs.map ZU.e)=0->qr.rp=YM (KU s.s.c.V (xs.map ZU.e)).2 (s.s.ps.map (·.pt)) ((s.us.length:Int)+1)/\∃s':JR,s'.b=s.b/\s'.sys=edS s.sys (xs.map ZU.e)/\O5 s.own w w'/\Vd (s'.own++L) w' s'/\(∀b∈s'.own,b∈s.own\/↑w<=b)/\Jr s'.own w'.heap qr):=by
 obtain⟨TS,Y⟩:=h.blk;have gz:=gy.ck;have g0:=VK gz;have g2:Zo [] w.heap s.vu s.us.length 1 (s.us.map Vr):=QB h.ru oa od;have g3:s.sys.un.length=s.us.length:=Lh _;have k0:(s.s.ps.map (·.e.ky)).Nodup:=by
  have:=gy.ky;rw[Ml]at this;have e:s.s.ps.map (·.e.ky)=(O9 s.s.c.V).map (ZS s.s.c.V):=this;rw[e];exact QcK gz
 have k4:(xs.map ZU.e).length=xs.length:=Lh _;have k5:∀(w':O1) (N:LN),Jr N w'.heap ⟨Zm,[],Zm,[],Zm,[]⟩:=λw' N=>⟨Zo.nil _ _ _,Zo.nil _ _ _,Zo.nil _ _ _⟩;have I:UL s.sys (xs.map ZU.e)=if xs.length=0 then 12 else if s.us.length=64 then 3 else if(KU s.s.c.V (xs.map ZU.e)).1≠0 then(KU s.s.c.V (xs.map ZU.e)).1 else Je (KU s.s.c.V (xs.map ZU.e)).2 (s.s.ps.map (·.pt)) ((s.us.length:Int)+1):=by
  unfold UL;rw[k4,g3];rfl
 have T:KU s.s.c.V (xs.map ZU.e)=if(zw s.s.c.V (xs.map ZU.e)).1≠0 then((zw s.s.c.V (xs.map ZU.e)).1,VJ)else if(J6 s.s.c.V.ev (zw s.s.c.V (xs.map ZU.e)).2).1≠0 then((J6 s.s.c.V.ev (zw s.s.c.V (xs.map ZU.e)).2).1,VJ)else if Zj (J6 s.s.c.V.ev (zw s.s.c.V (xs.map ZU.e)).2).2≠0 then(Zj (J6 s.s.c.V.ev (zw s.s.c.V (xs.map ZU.e)).2).2,VJ)else(0,(J6 s.s.c.V.ev (zw s.s.c.V (xs.map ZU.e)).2).2):=rfl
 have hw:zw s.s.c.V (xs.map ZU.e)=if(ZR s.s.c.V).1≠0 then((ZR s.s.c.V).1,[])else zz (ZR s.s.c.V).2 (xs.map ZU.e):=rfl
 have hS:(ZR s.s.c.V).1=0->∀y∈(zz (ZR s.s.c.V).2 (xs.map ZU.e)).2,q7 y:=λh0=>QfQ (yc g0 h0) kw;have hD:edS s.sys (xs.map ZU.e)=⟨(KU s.s.c.V (xs.map ZU.e)).2,VL (KU s.s.c.V (xs.map ZU.e)).2 (s.s.ps.map (·.pt)) ((s.us.length:Int)+1),s.made+((YM (KU s.s.c.V (xs.map ZU.e)).2 (s.s.ps.map (·.pt)) ((s.us.length:Int)+1)).made.length:Int),s.rs.map V3.rp++[YM (KU s.s.c.V (xs.map ZU.e)).2 (s.s.ps.map (·.pt)) ((s.us.length:Int)+1)],(s.us.map λu=>u.s.st)++[(s.s.c.V,s.s.ps.map (·.pt))]⟩:=by
  unfold edS;rw[g3];rfl
 refine Zh (UL s.sys (xs.map ZU.e)) λE hE=>?_;refine Zh (edS s.sys (xs.map ZU.e)) λES g4=>?_;refine Zh (KU s.s.c.V (xs.map ZU.e)) λEC g5=>?_;refine Zh (zw s.s.c.V (xs.map ZU.e)) λEI k6=>?_;rw[hE]at I;rw[g4]at hD;rw[g5]at I T hD;rw[k6]at T hw;rw[hE,g4,g5];refine Zq func13 ?_;refine Qc<|QM ZT λH w1 hj hZ hy=>Qb ?_;have j3:=hy.lt;have bad:∀(e:Int) (w2 O:O1),E=e->e≠0->sX w w2->O5 [H] w2 O->(∃qr:V3,tup [sT ZT,sS e]=.tuple #[sT (Q0 qr),sS E]/\(∀N:LN,(∀b∈N,b<↑w)->Jr N O.heap qr)/\(E≠0->sX w O/\qr.rp=⟨[],[],[]⟩) /\
   (E=0->qr.rp=YM EC.2 (s.s.ps.map (·.pt)) ((s.us.length:Int)+1)/\∃s':JR,s'.b=s.b/\s'.sys=ES/\O5 s.own w O/\Vd (s'.own++L) O s'/\(∀b∈s'.own,b∈s.own\/↑w<=b)/\Jr s'.own O.heap qr)):=λe w2 O S h2 h3 h4 =>
  ⟨⟨Zm,[],Zm,[],Zm,[]⟩,by rw[S];rfl,λN _=>k5 O N,λ_=>⟨h3.O h4 oa,U⟩,λh0=>OW (S.symm.D h0) h2⟩
 refine Qe<|Qm<|Qj<|x (XN underlying46 U U)<|Qb<|ZO U<|Qj<|QF hx.arr U<|x (QT U U)<|Qb<|QO U (λga=>?_) (λga=>?_)
 ·rw[OU (by have k7:(xs.length:Int)=0:=ga;omega)]at I;refine Qc<|x (Qv Z)<|QI ZT hy oC λO ha hF=>Qb<|Qh ⟨[sT ZT,sS 12],⟨Yk hF,U,Z⟩,bad 12 w1 O I ol hj ha⟩
 rw[OT (by have k7:¬(xs.length:Int)=0:=ga;omega)]at I;refine Qj<|Yf U<|Qo U (Y.I hj) U U<|QF (g2.I hj) U<|x (QT U U)<|Qb<|QO U (λgb=>?_) (λgb=>?_)
 ·rw[OU (by have k8:(s.us.length:Int)=64:=gb;omega)]at I;refine Qc<|x (Qv Z)<|QI ZT hy oC λO ha hF=>Qb<|Qh ⟨[sT ZT,sS 3],⟨Yk hF,U,Z⟩,bad 3 w1 O I ol hj ha⟩
 have k9:¬s.us.length=64:=by have k8:¬(s.us.length:Int)=64:=gb;omega
 rw[OT k9]at I;refine Qf<|Qj<|Yf U<|QQ U<|x (Zd (us:=s.s.c.cells) (Y.I hj) U U U)<|Qz<|(yT (h.st.c.I hj) g0).mono ?_;rintro r5 w2 ⟨hl,v5,rfl,_,ma⟩;have gc:=hj.D hl;refine Qa<|QW U U<|QW U U<|x Qi<|Qb<|Qe<|Qj<|Zx U U<|xe<|QO rfl (λho=>?_) (λho=>?_)
 ·rw[OU ho]at hw;rw[hw,OU ho]at T;rw[T,OU ho]at I;refine Qc<|x (Qv Z)<|Qa<|QI ZT (hy.I hl) oC λO ha hF=>Qb<|Qh ⟨[sT ZT,sS (ZR s.s.c.V).1],⟨Yk hF,U,Z⟩,bad _ w2 O I ho gc ha⟩
 rw[OT ho]at hw;have gg:=Lo.1 ho;have hS:=hS gg;refine Exists.elim (ma gg) λl5 gh=>?_;have mf:Ka [] w2.heap v5 l5:=by
  refine Ju.dits gh.1 ?_ od;have S:=OV oQ gh.2;rw[Lh]at S;obtain⟨_,_,_,_,_,hk⟩:=jf gg;have:=K8 hk;omega
 have hAp:=QdH mf (Go.Lg.XK.I hx gc);rw[gh.2,<-hw]at hAp;rw[<-hw]at hS;refine Qf<|Qe<|Qj<|Qa<|Qz<|hAp.mono ?_;rintro r7 O ⟨ha,v7,l7,rfl,mg,hT⟩;have hG:=gc.D ha;refine Qa<|QW U U<|QW U U<|x Qi<|Qb<|Qj<|Zx U U<|xe<|QO rfl (λhz=>?_) (λhz=>?_)
 ·rw[OU hz]at T;rw[T,OU hz]at I;refine Qc<|x (Qv Z)<|Qa<|QI ZT ((hy.I hl).I ha) oC λw4 hH mh=>Qb<|Qh ⟨[sT ZT,sS EI.1],⟨Yk mh,U,Z⟩,bad _ O w4 I hz hG hH⟩
 rw[OT hz]at T;obtain⟨hT,za⟩:=hT (Lo.1 hz);have hD3:Ka [] O.heap v7 l7:=Ju.dits mg oa od;have hCe:=Qdc (h.st.c.I hG).ev hD3 (λq hq=>hS q (by rw[<-hT];exact hq));rw[hT]at hCe;have mj:s.s.c.V.ev=s.s.c.ev:=rfl;rw[mj]at T;refine Zh (J6 s.s.c.ev EI.2) λDC mo=>?_;rw[mo]at T hCe;refine Qf<|Qj<|Yf U<|QQ U<|Qo U (Y.I hG) U U<|Qa<|Qz<|hCe.mono ?_;rintro r9 w4 ⟨hH,c9,rfl,mq,hU⟩;refine Qa<|QW U U<|QW U U<|QM Z8 λb8 w5 hI ms mt=>QI c9.cells mt mq λw6 mu g6 =>
  Qb ?_
 have hV:sX w4 w6:=hI.O mu ms;have gi:=(hG.D hH).D hV;have zb:=hH.size;have zv:=hV.size;have gj:=(((hy.I hl).I ha).I hH).I hV;refine Qe<|Qj<|Zx U U<|xe<|QO rfl (λh5=>?_) (λh5=>?_)
 ·rw[OU h5]at T;rw[T,OU h5]at I;refine Qc<|x (Qv Z)<|Qa<|QI ZT gj oC λV hf mv=>Qb<|Qh ⟨[sT ZT,sS DC.1],⟨Yk mv,U,Z⟩,bad _ w6 V I h5 gi hf⟩
 rw[OT h5]at T;have hU:=hU (Lo.1 h5);have hW:=hU.1;have gk:∀N:LN,(∀b∈N,b<↑O\/↑w4<=b)->ZH N w6.heap c9:=λN hN=>by
  have S:=hU.2 (N.filter λb=>decide (b<↑O)) (λb G=>OY (L5.1 G).2);exact(S.up (L':=N) λb G=>(hN b G).imp (λh=>L5.2 ⟨G,OX h⟩) id).I hV
 have hCk:=Xl (gk [] od);rw[hW]at hCk;refine Qf<|Qe<|Qc<|QS g6 U U<|Qz<|hCk.mono ?_;rintro z2 V ⟨rfl,hf⟩;have hp:=gi.D hf;have z3:=hf.size;refine Qb<|Qj<|Zx U U<|xe<|QO rfl (λh6=>?_) (λh6=>?_)
 ·rw[OU h6]at T;rw[T,OU h6]at I;refine Qc<|x (Qv Z)<|Qa<|QI ZT (gj.I hf) oC λw8 he gl=>Qb<|Qh ⟨[sT ZT,sS (Zj DC.2)],⟨Yk gl,U,Z⟩,bad _ V w8 I h6 hp he⟩
 rw[OT h6]at T;have mw:=Lo.1 h6;rw[T,OT od]at I;rw[T]at hD;simp only[]at I hD;refine Qf ?_;have g7:=Y.I hp;have my:=g2.I hp;have g8:=g6.I hf;have z4:=gi.size;have z5:=hG.size;have g9:∀b∈H::L,b<V.heap.size:=λb G=>by
  rcases Li.1 G with rfl|G
  ·have:=hl.size;have:=ha.size;omega
  have:=hL b G;omega
 have mz:jO (H::L) V.heap s.s.vp s.s.ps:=Go.Lg.XK.I (Go.Lg.XK.up h.st.p λb G=>by
  rcases Li.1 G with rfl|G
  ·exact .inr hZ
  exact .inl G) hp
 have m2:sX V { V with drawn:=V.drawn+1 }:=O5.C _ _
 refine Zh (Je DC.2 (s.s.ps.map (·.pt)) ((s.us.length:Int)+1)) λE2 ka=>?_;rw[ka]at I;refine QX (α:=O2×LV×Nat) [(73,88),(7,7),(10,11)] (λz=>[(10,z.1),(11,pS z.2.2),(7,sS E2)]) (λz w'=>sX V w'/\↑V<=z.2.2/\QY w'.heap z.2.2 53 z.2.1/\(z.2.1.length=3/\Zb z.2.1)/\(E2=0->∃qs q,z.2.1=Q0 q/\qs.map (·.pt)=VL DC.2 (s.s.ps.map (·.pt)) ((s.us.length:Int)+1)/\q.rp=YM DC.2 (s.s.ps.map (·.pt)) ((s.us.length:Int)+1)/\jO (H::L) w'.heap z.1 qs/\Jr (z.2.2::H::L) w'.heap q)) om ?_ ?_
 ·refine Jf (α:=O2×LV) (sX V) [oE 0,oE 1,oE 2,oE 3,oE 4,oE 5,oE 6,oE 7,oE 8,oE 9,oE 10] [oF 11,oE 12,oE 13,oE 14,oE 15] 16 11 [oE 17,oF 18,oE 19] []
   [(73,88)] [(73,73),(85,88)] (λz=>[(86,z.1),(87,sT z.2),(88,sS E2)])
   (λz own w'=>(∀b∈own,↑V<=b)/\(z.2.length=3/\Zb z.2)/\(E2=0->∃qs q,z.2=Q0 q/\qs.map (·.pt)=VL DC.2 (s.s.ps.map (·.pt)) ((s.us.length:Int)+1)/\q.rp=YM DC.2 (s.s.ps.map (·.pt)) ((s.us.length:Int)+1)/\∀b',↑V<=b'->b'∉own->jO (b'::H::L) w'.heap z.1 qs/\Jr (b'::H::L) w'.heap q))
   (λv w'=>∃b,v=pS b/\↑V<=b/\QY w'.heap b 53 ZT) mixed om oe om U m2 od ?_ ?_ ?_ ?_
  ·rintro v own wa wb ⟨b,rfl,G,Y⟩ hs hn;exact⟨b,U,G,Y.J hs (hn b ou)⟩
  ·rintro z own wa wb ⟨S,h2,h3⟩ hs;refine⟨S,h2,λh0=>?_⟩;obtain⟨qs,q,e1,e2,e3,e4⟩:=h3 h0;exact⟨qs,q,e1,e2,e3,λb' hX hn=>⟨Go.Lg.XK.I (e4 b' hX hn).1 hs,(e4 b' hX hn).2.I hs⟩⟩
  ·rintro⟨vp,us⟩ g own wz v ⟨i1,i2,i3⟩ kb ⟨h7,rfl,hh,hi⟩ m3;simp only[]at i2 i3;have m4:=(m3 h7 ou).1;refine p ZG<|pk<|Zv (us:=us) hi U U i2.1 U i2.2 λw8 he m5=>⟨kb.O he hh,?_⟩;refine p ZG<|pe ?_;refine⟨(vp,us,h7),oC,kb.O he hh,hh,m5,i2,λh0=>?_⟩;obtain⟨qs,q,e1,e2,e3,e4⟩:=i3 h0;have e5:=e4 h7 hh m4;exact⟨qs,q,e1,e2,e3,Go.Lg.XK.up (Go.Lg.XK.st e5.1 (he.mono od)) (λb G=>.inl (Lj _ G)),e5.2.st (he.mono od)⟩
  refine pq (λ_ J=>Zr (g8.I J) U U)<|p Qx<|p (YG U)<|p (QJ U)<|pq (λ_ J=>Ql (g7.I J) U U) <|
   p Qx<|p (YG U)<|p (QJ U)<|pq (λ_ J=>Ql (g7.I J) U U)<|p (λ_=>Yx my U) <|
   p (λ_=>XS U U ⟨oa,oa⟩)<|pe ⟨λg wf m6=>flA ZT m6,?_⟩
  refine f2k λx1 p1 c1=>?_;have m7:=(gk (H::L) (λb G=>by
   rcases Li.1 G with rfl|G
   ·exact .inl (oy hl.size ha.size)
   exact .inl (ov (hL b G)))).I (hf.D c1)
  have m8:jO (Uq ↑V ↑x1++(H::L)) x1.heap s.s.vp s.s.ps:=Go.Lg.XK.I (Go.Lg.XK.up mz λb G=>by
   rcases Lc.1 G with G|G
   ·exact .inr (Zw.1 G).1
   exact .inl G) c1
  have hbl:=Qds (v:=(s.us.length:Int)+1) m7 m8 (λb G=>by
   have:=c1.size;rcases Lc.1 G with G|G
   ·exact(Zw.1 G).2
   have:=g9 b G;omega) k0 kx (kz.I (hp.D c1))
  rw[hW,ka]at hbl;refine xg<|hbl.mono ?_;rintro _ y1 ⟨kc,vp,us,rfl,m9,pa,_,pc⟩;have z1:=c1.size;refine⟨c1.D kc,Uq ↑x1 ↑y1,kc.any,λb G=>.inr (Zw.1 G),?_⟩;refine Ui Qx<|Ui (λ_=>Zi U U)<|Ui (λ_=>Zi U U)<|Ui (λ_=>Zi U U)<|f2e ?_;refine⟨(vp,us),oC,λb G=>ov (Zw.1 G),⟨m9,pa⟩,λh0=>?_⟩;obtain⟨qs,q,e1,e2,e3,_,e5,e6⟩:=pc h0;refine⟨qs,q,e1,e2,e3,λb' hX hn=>?_⟩;have pd:b'<↑x1\/↑y1<=b':=by
   rcases Np b' ↑x1 with S|S
   ·exact .inl S
   rcases Np b' ↑y1 with h2|h2
   ·exact OW (Zw.2 ⟨S,h2⟩) hn
   exact .inr h2
  have ke:∀b∈b'::H::L,b∈Uq ↑V ↑x1++(H::L)\/↑y1<=b:=λb G=>by
   rcases Li.1 G with rfl|G
   ·exact pd.imp (λS=>Lc.2 (.inl (Zw.2 ⟨hX,S⟩))) id
   exact .inl (Lc.2 (.inr G))
  exact⟨Go.Lg.XK.up e5 ke,(e6 (Uq ↑V ↑x1++(H::L)) (λb G=>by
   rcases Lc.1 G with G|G
   ·exact(Zw.1 G).2
   have:=g9 b G;omega)).up ke⟩
 rintro⟨vp,us,h7⟩ g wA ⟨hJ,hh,hi,pf,hg⟩;simp only[]at hh hi pf hg;have h8:=(gj.I hf).I hJ;refine Qe<|Qj<|Zx U U<|xe<|QO rfl (λgm=>?_) (λgm=>?_)
 ·refine Qc<|x (Qv Z)<|Qa<|QI ZT h8 oC λw8 he gl=>Qb<|Qh ⟨[sT ZT,sS E2],⟨Yk gl,U,Z⟩,bad _ wA w8 I gm (hp.D hJ) he⟩
 have kf:=Lo.1 gm;refine Exists.elim (hg kf) λqs pg=>Exists.elim pg λq hK=>?_;have eu:=hK.1;have eqs:=hK.2.1;have eq:=hK.2.2.1;have kg:=hK.2.2.2.1;have hM:=hK.2.2.2.2;rw[eu]at hi;refine Qf ?_;have gn:=hp.D hJ;have go:=Y.I gn;have hl11:=hi.lt;have hlsb:=Y.lt;have ph:sX wA { wA with drawn:=wA.drawn+1 }:=O5.C _ _
 refine QX (α:=UnZ) [(93,100),(12,13)] (λz=>[(12,pS z.b12),(13,pS z.b13)]) (λz w'=>sX wA w'/\↑wA<=z.b12/\↑wA<=z.b13/\∃T1 T2,QY w'.heap z.b12 T1 s.s.c.cells/\QY w'.heap z.b13 T2 [s.s.vp]) om ?_ ?_
 ·refine Qnp (α:=UnZ) (sX wA) [oE 0,oE 1,oE 2,oE 3,oE 4,oE 5,oE 6,oE 7] [8,9] [oF 10,oF 11] [(12,13)] (unP ↑wA) (λz=>[(12,pS z.b12),(13,pS z.b13)])
   (λz w'=>z.b12≠z.b13/\↑wA<=z.b12/\↑wA<=z.b13/\∃T1 T2,QY w'.heap z.b12 T1 Z8/\QY w'.heap z.b13 T2 [Zm]) mixed om oe ph (λ_ _ S h2=>S.D h2) (Qly _) ?_ ?_
  ·rintro g w' ⟨⟨b12,T1,e3,pj,pm⟩,⟨b13,T2,e4,pn,hh⟩,_⟩ po;refine⟨⟨b12,b13⟩,⟨e3,e4,Z⟩,?_,pj,pn,T1,T2,pm,hh⟩;have d1:=po 8 od 9 od ol;rw[e3,e4]at d1;simp only[ow,oJ,forall_eq]at d1;exact d1
  refine p Qx<|p (YG U)<|p (QJ U)<|pq (λ_ J=>Zd (us:=s.s.c.cells) (go.I J) U U U)<|p Qx<|p (YG U)<|p (QJ U) <|
   pq (λ_ J=>Ql (go.I J) U U)<|pe ⟨⟨?_,?_,Z⟩,?_⟩
  ·intro g w' J;exact K1 (us:=Z8) U λb w5 hI G Y=>⟨hI,⟨b,_,U,LH J.size G,Y⟩,λc gp=>by rw[Lb.1 (show c∈[b] from gp)];exact⟨G,Y.lt⟩⟩
  ·intro g w' J;exact K1 (us:=[Zm]) U λb w5 hI G Y=>⟨hI,⟨b,_,U,LH J.size G,Y⟩,λc gp=>by rw[Lb.1 (show c∈[b] from gp)];exact⟨G,Y.lt⟩⟩
  rintro⟨b12,b13⟩ g wz kh ⟨gq,hr,h9,T1,T2,hO,hP⟩;simp only[]at gq hr h9 hO hP;refine pk<|JW s.s.c.cells hO h.st.c.ones λw8 he pp=>⟨kh.O he hr,?_⟩;refine pkk<|Qu (u:=s.s.vp) (hP.J he (by simp only[oJ];exact λe=>gq e.symm)) U U od h.st.p.arr.one λw9 ki pu=>pe ?_;exact⟨⟨b12,b13⟩,oB,(kh.O he hr).O ki h9,hr,h9,T1,T2,pp.J ki (by simp only[oJ];exact gq),pu⟩
 rintro⟨b12,b13⟩ gC wC ⟨hA,hr,h9,T12,T13,hO,hP⟩;simp only[]at hr h9 hO hP;have kj:=go.I hA;refine Qj<|Qa<|Yf U<|Qo U kj U U<|x (ZD (l:=[]) (l':=[_,_]))<|Qn<|Za [[Vr ⟨b12,b13,s.s⟩]] λb107 wC1 ht hb107 pw=>?_;have kk:=(gn.D hA).D ht;have zC1:=ht.size;refine Qn<|Q2 (news:=[Vr ⟨b12,b13,s.s⟩]) (L:=[]) (Qk h.ru kk) U U U (pw.at od) oq oa oa λv16 wD gr hC pz=>?_;have d2:s.b∉ob s.vu:=h.d2;have p0:=(kj.I ht).J hC d2;refine Yf rfl<|QQ U<|Qn<|Qu (u:=v16) p0 U U (LZ U) (Qp gr) λwE hu p2=>xe ?_;have zE:=hu.size;have p3:QY wE.heap s.b TS [s.s.c.ve,s.s.c.vc,s.s.c.vr,s.s.c.vx,s.s.c.vk,s.s.vp,sS s.made,s.vr,v16]:=p2;have p4:=((gk (H::L) (λb G=>by
   rcases Li.1 G with rfl|G
   ·exact .inl (oy hl.size ha.size)
   exact .inl (ov (hL b G)))).I (hf.D hJ)).I (hA.D ht)
 have subL:∀b∈s.own,b∈H::L:=λb G=>Lj _ (h.sub b G);have msb:s.b∈s.own:=Lq;have mvr:∀b∈ob s.vr,b∈s.own:=λb G=>Lj _ (Lc.2 (.inl G));have mvu:∀b∈ob s.vu,b∈s.own:=λb G=>Lj _ (Lc.2 (.inr G));have sDL:=hC.mono (L':=H::L) λb G=>subL b (mvu b G);have sEL:=hu.mono (L':=H::L) λb G=>by rw[Lb.1 G];exact subL _ msb
 have p5:=(p4.st sDL).st sEL;have p6:CSz c9.V:=VK (by rw[hW];exact mw);refine Qc ?_;have p7:QY wE.heap b8 _ c9.cells:=((((g8.I hJ).I hA).I ht).J hC (λhm=>ov (h.lt _ (mvu _ hm)))).J hu oh;refine Qa<|Qa<|QS p7 U U<|Qz<|(Qet p5 p6).mono ?_;rintro r19 wF ⟨hQ,cm,rfl,ecm,kn⟩;have zF:=hQ.size;have d1:s.b∉ob s.vr:=h.d1;have nown:∀b,↑w<=b->b∉s.own:=λb S G=>ov (h.lt b G)
 have n4:=nown H hZ;have hY:=nown h7 oa;have sE:O5 s.own wA wE:=((hA.D ht).any.Q (hC.mono mvu)).Q (hu.mono λb G=>by rw[Lb.1 G];exact msb);have sF:=sE.D hQ;refine Qa<|Yf U<|QQ U<|Qn<|YK (us:=cm.cells) (cs':=[cm.ve,cm.vc,cm.vr,cm.vx,cm.vk,s.s.vp,sS s.made,s.vr,v16]) (p3.I hQ) U U U (LZ U) (kn [] od).ones rfl λwG p8 p9=>?_;refine Yf rfl<|QQ U<|Qn<|Qu (u:=vp) p9 U U (LZ U) kg.arr.one λwH qc qf=>xe ?_;have ko:QY wH.heap s.b TS [cm.ve,cm.vc,cm.vr,cm.vx,cm.vk,vp,sS s.made,s.vr,v16]:=qf;have gs:∀b∈[s.b],b∈s.own:=λb G=>by rw[Lb.1 G];exact msb
 have sFH:O5 [s.b] wF wH:=p8.Q qc;have sH:O5 s.own wA wH:=sF.Q (sFH.mono gs);have hk2:(YM DC.2 (s.s.ps.map (·.pt)) ((s.us.length:Int)+1)).made.length=q.k2.length:=by rw[<-eq];rfl
 have hrl2:=hM.a2.le;refine Qe<|ZA [] (YX 0 11 [10])<|p Qx<|p (YG U)<|p (QJ U)<|pq (λ_ J=>Ql (ko.I J) U U)<|p (QJ U)<|pq (λ_ J=>Ql ((hi.J sH hY).I J) U U) <|
  p (λ_=>Yx hM.a2 U)<|p (λ_=>XS U U ⟨oa,oa⟩)<|p (YG U)<|p (QJ U) <|
  pkk<|Qu (u:=sS (s.made+(q.k2.length:Int))) (ko.I (O5.C _ _)) U U (LZ U) U λwI ql qm=>pe ?_
 have kq:QY wI.heap s.b TS [cm.ve,cm.vc,cm.vr,cm.vx,cm.vk,vp,sS (s.made+(q.k2.length:Int)),s.vr,v16]:=qm;have sHI:O5 [s.b] wH wI:=(O5.C [] wH).any.Q ql;have sFI:=sFH.Q sHI;have sI:O5 s.own wA wI:=sF.Q (sFI.mono gs);have zI:=sI.size;have kr:∀b∈ob s.vr,b≠s.b:=λb G e=>d1 (e ▸ G);have qn:wI.ownsRow 0 53 3 s.vr s.rs.length (s.rs.flatMap Q0):=by
  refine Qd (Qk (Qd (Qd (Qk h.rr kk) hC λb G hm=>h.d3 b G hm) hu λb G hm=>kr b G (Lb.1 hm)) hQ) sFI λb G hm=>kr b G (Lb.1 hm)
 have drI:sX wI { wI with drawn:=wI.drawn+1 }:=O5.C _ _
 have n11r:h7∉ob s.vr:=λhm=>hY (mvr _ hm);refine Qe<|ZA (ob s.vr) (YX 0 11 [6,7,10])<|p Qx<|p Qx<|p (YG U)<|p (QJ U)<|pq (λ_ J=>Ql (kq.J J d1) U U)<|pq (λ_ J=>Zr ((hi.J sI hY).J J n11r) U U) <|
  pk<|Za [Q0 q] λb136 wJ hv hb136 qo=>⟨(drI.D hv).any,?_⟩
 refine pk<|Q2 (m:=1) (news:=Q0 q) (L:=[]) (Qk qn (drI.D hv)) U U U (qo.at od) (Zb.all hM.ones) oa (Ln _) λv24 wK gt hR q0=>⟨(drI.D hv).any.Q hR,?_⟩;have q1:QY wK.heap s.b TS _:=(kq.I (drI.D hv)).J hR d1;refine p (YG U)<|p (QJ U)<|pkk<|Qu (u:=v24) q1 U U (LZ U) (Qp gt) λwN gu kt=>pe ?_;have sK:O5 s.own wA wK:=sI.Q ((drI.D hv).any.Q (hR.mono mvr));have sN:O5 s.own wA wN:=sK.Q (gu.mono gs);have zN:=sN.size;refine Qc<|QS (hi.J sN hY) U U<|Qz<|(Qkg ((hM.up (L':=H::L) λb G=>.inl (Lj _ G)).st (sN.mono subL))).mono ?_;rintro r26 wP ⟨ku,q',rfl,q2,gv⟩;refine QI (Q0 q') ((h8.J sN n4).I ku) (gv [H] (λb G=>by rw[Lb.1 G];have:=h8.lt;omega)).ones λwM gw q3=>Qb<|Qh ⟨[sT (Q0 q'),sS 0],⟨Yk q3,U,Z⟩,?_⟩;have kv:E=0:=I.D kf;have gx:=Qj3 (cm:=cm) (vp:=vp) (qs:=qs) (q:=q) (made:=s.made+(q.k2.length:Int)) (v16:=v16) (v24:=v24) h hL gn ⟨hZ,by have:=h8.lt;exact this⟩ (Go.Lg.XK.up kg λb G=>.inl G) (hM.up (L':=H::L) λb G=>.inl (Lj _ G))
  hA hr h9 hO hP (ht.any.Q hC) gr (λb G=>(pz b G).imp id λS=>LH zC1 S) hu hQ kn sFI (drI.D hv) hR gt q0 gu kt ku gw
 have q4:∀N:LN,(∀b∈N,b<↑w)->Jr N wM.heap q':=λN hN=>((gv (H::N) (λb G=>by
  rcases Li.1 G with rfl|G
  ·have:=h8.lt;omega
  have:=hN b G;omega)).st (gw.mono od)).up λb G=>.inl (Lj _ G)
 have q5:Jr (s.b::(ob v24++ob v16)) wM.heap q':=by
  have y1:=hu.size;have y3:=sFI.size;have y4:=(drI.D hv).size;have y5:=hR.size;have y6:=gu.size;refine((gv (H::(s.b::(ob v24++ob v16))) (λb G=>?_)).st (gw.mono od)).up λb G=>.inl (Lj _ G);rcases Li.1 G with rfl|G
  ·have:=h8.lt;omega
  rcases Li.1 G with rfl|G
  ·exact kt.lt
  rcases Lc.1 G with G|G
  ·have:=(Qg gt b G).2;omega
  have:=(Qg gr b G).2;omega
 refine⟨q',by rw[kv];rfl,q4,λh0=>OW kv h0,λ_=>⟨?_,_,?_,?_,gx.1,gx.2.1,gx.2.2,q5⟩⟩
 ·rw[q2,eq,T]
 ·rfl
 rw[hD,<-eqs,<-eq,<-hW,<-ecm];unfold JR.sys;simp only[Oj,oY,OL];rfl
theorem Qj4 {TS:Nat}{u:UnV}{v1 v2 v3 J O H m vr vu:O2}(S:QY w.heap b TS [v1,v2,v3,J,O,H,m,vr,vu])(E:UnA L w.heap u)(T:b∈L):
  QZ sV 48 [pS b,pS u.b1,pS u.b2] w λ_ w'=>O5 [b] w w'/\QY w'.heap b TS [u.s.c.ve,u.s.c.vc,u.s.c.vr,u.s.c.vx,u.s.c.vk,u.s.vp,m,vr,vu]:=by
 refine Zq func48 ?_;have hbL:∀x∈[b],x∈L:=λx hx=>by rw[Lb.1 hx];exact T
 have hd:sX w { w with drawn:=w.drawn+1 }:=O5.C _ _
 refine ZA [b] (YX 0 10 [6,9])<|p Qx<|p Qx<|pq (λ_ G=>Qr (us:=u.s.c.cells) (E.a1.st (G.mono hbL)) U U)<|pq (λ_ G=>Qy (u:=u.s.vp) (E.a2.st (G.mono hbL)) U)<|p (YG U)<|p (QJ U) <|
  pk<|YK (us:=u.s.c.cells) (cs':=[u.s.c.ve,u.s.c.vc,u.s.c.vr,u.s.c.vx,u.s.c.vk,H,m,vr,vu]) (S.I hd) U U U (LZ U) E.s.c.ones U λw1 I V=>⟨hd.any.Q I,?_⟩
 refine p (YG U)<|p (QJ U)<|pkk<|Qu (u:=u.s.vp) V U U (LZ U) E.s.p.arr.one λw2 Y ha =>
  pe ?_
 exact⟨[],Z,(hd.any.Q I).Q Y,ha⟩
theorem QcB {e:Nat}{v:O2}{g:α->LV}(E:∀x,(g x).length=sz){l:List α}{y:α}(h:w.ownsRow 0 e sz v (l++[y]).length ((l++[y]).flatMap g)):
  ∃b cap,v=sL b (l.length+1) cap/\l.length+1<=cap/\b<↑w/\∀(X:LN) (w':O1),O5 X w w'->b∉X->w'.ownsRow 0 e sz (sL b l.length cap) l.length (l.flatMap g):=by
 have G:(l++[y]).length=l.length+1:=od
 rw[G]at h;rcases h.2 with⟨e1,e2⟩|⟨b,cap,cur,e1,V,H,Y,h4⟩
 ·omega
 subst e1;obtain⟨I,cur,H,J,O⟩:=JB h;refine⟨b,cap,U,I,H.lt,λX w' S G=>VT h (NU _) (H.J S G) J ?_ (xG E l)⟩;have T:(cur.take ((l.length+1)*sz)).take (l.length*sz)=cur.take (l.length*sz):=by rw[M4,Mj (LY _ (NU _))]
 rw[<-T,O,Ly,MZ (by rw[xG E l];exact Lv _),Lt (by rw[xG E l];exact Lv _)]
theorem Qnr {s:JR}(h:Vd L w s)(ho:s.rs.length=s.us.length)(h2:s.us.length<=64):
  QZ sV 18 [pS s.b] w λr w'=>(s.us=[]->r=sS 12/\sX w w') /\
   (s.us≠[]->r=sS 0/\∃s':JR,s'.b=s.b/\s'.sys=unS s.sys/\O5 s.own w w'/\Vd L w' s'/\∀b∈s'.own,b∈s.own):=by
 obtain⟨TS,hB⟩:=h.blk;have hh:Zo [] w.heap s.vu s.us.length 1 (s.us.map Vr):=QB h.ru oa od;refine Zq func18 ?_;refine Qc<|Qb<|Qe<|Qj<|x (XN underlying46 U U)<|xe<|ZO rfl<|Qf<|Qj<|Yf U<|Qo U hB U U<|QF hh U<|Qb<|Qe<|Qj<|x (QT U U)<|xe<|QO rfl (λha=>?_) (λha=>?_)
 ·have hz:s.us=[]:=List.length_eq_zero_iff.1 (by have h3:(s.us.length:Int)=0:=ha;omega);refine Qc<|Qb<|Qh ⟨[sS 12],La,λ_=>⟨U,O5.Z _ _⟩,λhn=>OW hz hn⟩
 have V:s.us≠[]:=λe=>ha (by rw[e];rfl);refine Qf ?_;have he:s.rs≠[]:=λe=>V (List.length_eq_zero_iff.1 (by rw[<-ho,e];rfl));have J:s.us=s.us.dropLast++[s.us.getLast V]:=(List.dropLast_concat_getLast V).symm;have Y:s.rs=s.rs.dropLast++[s.rs.getLast he]:=(List.dropLast_concat_getLast he).symm;refine Zh s.us.dropLast λG hp=>Zh (s.us.getLast V) λu hq=>Zh s.rs.dropLast λH hr=>Zh (s.rs.getLast he) λq hs=>?_;rw[hp,hq]at J;rw[hr,hs]at Y;have h4:s.us.length=G.length+1:=by rw[J];simp
 have h5:s.rs.length=H.length+1:=by rw[Y];simp
 have O:=QcB (g:=λu=>[Vr u]) (λ_=>U) (l:=G) (y:=u) (by rw[<-List.map_eq_flatMap,<-J];exact h.ru);have S:=QcB Qbg (l:=H) (y:=q) (by rw[<-Y];exact h.rr);refine Exists.elim O λgu O=>Exists.elim O λcu O=>Exists.elim S λgr S=>Exists.elim S λcr S=>?_;have evu:=O.1;have evr:=S.1;have hi:(s.us.length:Int) - 1=((G.length:Nat):Int):=oa
 have ht:(s.us.length:Int) - 1=((H.length:Nat):Int):=oa
 have eu:((s.us.map Vr).drop (G.length*1)).take 1=[Vr u]:=by rw[J];simp
 have mu:u∈s.us:=by rw[J];simp
 have msb:s.b∈s.own:=Lq;have mgu:gu∈ob s.vu:=by rw[evu];simp[ob]
 have mgr:gr∈ob s.vr:=by rw[evr];simp[ob]
 refine Qj<|Yf U<|Qo U hB U U<|Qa<|x (Jk U U ⟨oa,oa⟩)<|xi (i:=G.length) hh U (show Go.Lg.ev _ _=_ from OV sS hi) oa λh6 hj=>?_;rw[eu]at hj;refine x (Qy hj U)<|Qa<|Qn<|xc (first:=[]) (capt:=[pS u.b1,pS u.b2]) U<|(Qj4 hB (h.uA u mu) (h.sub _ msb)).mono ?_;rintro r1 w1 ⟨hu,hf⟩;refine xe<|Qe<|ZA [] (YX 0 22 [18,21]) ?_;have hd:sX w1 { w1 with drawn:=w1.drawn+1 }:=O5.C _ _
 refine p Qx<|p Qx<|p Qx<|p (YG U)<|p (QJ U)<|pq (λ_ hc=>Ql (hf.I hc) U U) <|
  p Qx<|p (λ_=>Jk U U ⟨oa,oa⟩)<|p (λ_=>JK (n:=G.length+1) (b:=gu) (cap:=cu) (hi:=G.length) evu (show Go.Lg.ev _ _=_ from OV sS hi) (ov O.2.1))<|p Qx<|p (YG U) <|
  p (QJ rfl)<|pq (λ_ hc=>Ql (hf.I hc) U U)<|p Qx<|p (λ_=>Jk U U ⟨oa,oa⟩)<|p (λ_=>JK (n:=H.length+1) (b:=gr) (cap:=cr) (hi:=H.length) evr (show Go.Lg.ev _ _=_ from OV sS ht) (ov S.2.1)) <|
  p (YG rfl)<|p (QJ U)<|pkk<|Qu (u:=sL gu G.length cu) (hf.I hd) U U (LZ U) U λw2 hv hw=>p (YG U) <|
  p (QJ rfl)<|pkk<|Qu (u:=sL gr H.length cr) hw U U (LZ U) U λw3 hy h0=>pe ?_
 refine Qc<|Qb ?_;have T:O5 [s.b] w w3:=((hu.D hd).Q hv).Q hy;have hk:gu∉[s.b]:=λI=>h.d2 (Lb.1 I ▸ mgu);have hl:gr∉[s.b]:=λI=>h.d1 (Lb.1 I ▸ mgr);have hg:∀b∈[s.b],b∈L:=λb E=>by rw[Lb.1 E];exact h.sub _ msb
 have h1:∀b∈[s.b],b∈s.own:=λb E=>by rw[Lb.1 E];exact msb
 have own':∀b∈(⟨s.b,u.s,s.made,sL gr H.length cr,H,sL gu G.length cu,G⟩:JR).own,b∈s.own:=λb E=>by
  rcases Li.1 E with rfl|E
  ·exact msb
  rcases Lc.1 E with E|E
  ·rw[Lb.1 (show b∈[gr] from E)];exact Lj _ (Lc.2 (.inl mgr))
  rw[Lb.1 (show b∈[gu] from E)];exact Lj _ (Lc.2 (.inr mgu))
 refine Qh ⟨[sS 0],La,λe=>OW e V,λ_=>⟨U,⟨s.b,u.s,s.made,sL gr H.length cr,H,sL gu G.length cu,G⟩,U,?_,T.mono h1,⟨⟨TS,h0⟩,S.2.2.2 _ _ T hl,?_,λI=>hl (Lb.2 (Lb.1 (show s.b∈[gr] from I)).symm),λI=>hk (Lb.2 (Lb.1 (show s.b∈[gu] from I)).symm),λb E I=>?_,λb E=>h.sub b (own' b E),Mm.st (h.uA u mu).s (T.mono hg),λd hd=>Mm.st (h.rA d (by rw[Y];exact Lc.2 (.inl hd))) (T.mono hg),λd hd=>Mm.st (h.uA d (by rw[J];exact Lc.2 (.inl hd))) (T.mono hg)⟩,own'⟩⟩
 ·show JR.sys _=_;unfold JR.sys unS;rw[J,Y];simp only[Oj,oY,OL,List.dropLast_concat,List.getLastD_concat];rfl
 ·have:=O.2.2.2 _ _ T hk;rw[<-List.map_eq_flatMap]at this;exact this
 rw[Lb.1 (show b∈[gr] from E)]at I;exact h.d3 gr mgr (by rw[Lb.1 (show gr∈[gu] from I)];exact mgu)
structure Yu (k:Nat)(s:jr):Prop where
 st:QkW s.c s.ps
 un:∀u∈s.un,QkW u.1 u.2
 ln:s.rs.length=s.un.length
 l64:s.un.length<=64
 m0:0<=s.made
 m1:s.made<=(k:Int)*1000
theorem QaU {v:Int}(h:Je c bf v=0):(YM c bf v).made.length<=96:=by
 obtain⟨E,G⟩:=QkL h;have e:(YM c bf v).made=((O9 c).filter λm=>!(KO c bf v m).2.2).map (ZS c):=by unfold YM;rw[Qf8 G]
 rw[e,Lh];exact LH (Mf _ _) (Vz (Z4 E).sr)
theorem Yu.mono {k k':Nat}{s:jr}(h:Yu k s)(E:k<=k'):Yu k' s:=⟨h.st,h.un,h.ln,h.l64,h.m0,ov h.m1⟩
theorem QoB (h:Vy c=0):(ZR c).1=0/\Zj c=0/\Je c [] 0=0:=by
 unfold Vy at h;by_cases E:(ZR c).1≠0
 ·rw[OU E]at h;exact OW h E
 rw[OT E]at h;by_cases G:Zj c≠0
 ·rw[OU G]at h;exact OW h G
 rw[OT G]at h;exact⟨Lo.1 E,Lo.1 G,h⟩
theorem Yu.new (h:Vy c=0):Yu 1 (Qbs c):=by
 have E:=(QoB h).2.2;have I:=QaU E;exact⟨QkJ (λp G=>(by cases G)) E,λu H=>(by cases H),rfl,Ln _,(by show(0:Int)<=((YM c [] 0).made.length:Int);omega),(by show((YM c [] 0).made.length:Int)<=_;omega)⟩
theorem QqH {s:jr}{es:List (Bool×Yi)}(h:UL s es=0):es.length≠0/\s.un.length≠64/\(KU s.c es).1=0/\Je (KU s.c es).2 s.ps ((s.un.length:Int)+1)=0:=by
 unfold UL at h;by_cases G:es.length=0
 ·rw[OU G]at h;cases h
 rw[OT G]at h;by_cases H:s.un.length=64
 ·rw[OU H]at h;cases h
 rw[OT H]at h;by_cases E:(KU s.c es).1≠0
 ·rw[OU E]at h;exact OW h E
 rw[OT E]at h;exact⟨G,H,Lo.1 E,h⟩
theorem Yu.edit {k:Nat}{s:jr}{es:List (Bool×Yi)}(E:Yu k s)(h:UL s es=0):Yu (k+1) (edS s es):=by
 obtain⟨I,J,O,H⟩:=QqH h;have S:=QaU H;have T:=E.l64;have V:=E.m0;have a1:=E.m1;refine⟨QkJ E.st.ok H,λu G=>?_,?_,?_,?_,?_⟩
 ·rcases Lc.1 G with G|G
  ·exact E.un u G
  rw[Lb.1 G];exact E.st
 ·show(s.rs++[_]).length=(s.un++[_]).length;simp[E.ln]
 ·show(s.un++[_]).length<=64;simp;omega
 ·show(0:Int)<=s.made+((YM _ _ _).made.length:Int);omega
 show s.made+((YM _ _ _).made.length:Int)<=_;omega
theorem Yu.undo {k:Nat}{s:jr}(E:Yu k s)(h:s.un≠[]):Yu k (unS s):=by
 have e:s.un.getLastD (s.c,s.ps)=s.un.getLast h:=by
  conv=>lhs;rw[<-List.dropLast_concat_getLast h]
  exact List.getLastD_concat
 refine⟨?_,λu G=>E.un u (List.dropLast_subset _ G),?_,?_,E.m0,E.m1⟩
 ·show QkW (s.un.getLastD (s.c,s.ps)).1 (s.un.getLastD (s.c,s.ps)).2;rw[e];exact E.un _ (List.getLast_mem h)
 ·show s.rs.dropLast.length=s.un.dropLast.length;rw[List.length_dropLast,List.length_dropLast,E.ln]
 show s.un.dropLast.length<=64;rw[List.length_dropLast];have:=E.l64;omega
theorem Yu.len {k:Nat}{s:JR}(h:Yu k s.sys):s.rs.length=s.us.length/\s.us.length<=64/\s.s.ps.length<=1000:=by
 have e1:s.sys.rs.length=s.rs.length:=Lh _;have e2:s.sys.un.length=s.us.length:=Lh _;have G:s.sys.ps.length=s.s.ps.length:=Lh _;have E:=OV oQ h.st.ky;rw[Lh,Lh]at E;have:=Vz (Z4 h.st.ck).sr;exact⟨by rw[<-e1,<-e2];exact h.ln,by rw[<-e2];exact h.l64,oa⟩
theorem Qab {k:Nat}{s:JR}{xs:List ZU}(h:Vd L w s)(G:Yu k s.sys)(ha:k<=1000)(J:∀b∈L,b<↑w)(hx:zc L2 w.heap vl xs)(O:∀e∈xs.map ZU.e,q7 e.2)(S:Kb w 4096):
  QZ sV 13 [pS s.b,vl] w λr w'=>∃qr:V3,r=.tuple #[sT (Q0 qr),sS (UL s.sys (xs.map ZU.e))]/\(∀N:LN,(∀b∈N,b<↑w)->Jr N w'.heap qr)/\(UL s.sys (xs.map ZU.e)≠0->sX w w'/\qr.rp=⟨[],[],[]⟩) /\
   (UL s.sys (xs.map ZU.e)=0->qr.rp=YM (KU s.sys.c (xs.map ZU.e)).2 s.sys.ps ((s.sys.un.length:Int)+1)/\∃E:JR,E.b=s.b/\E.sys=edS s.sys (xs.map ZU.e)/\Yu (k+1) E.sys/\O5 s.own w w'/\Vd (E.own++L) w' E/\(∀b∈E.own,b∈s.own\/↑w<=b)/\Jr E.own w'.heap qr):=by
 have H:=G.len;have m0:0<=s.made:=G.m0;have m1:s.made<=(k:Int)*1000:=G.m1;refine(Qnx h J hx O G.st H.2.2 ⟨m0,oa⟩ oa H.2.1 S).mono ?_;rintro r w' ⟨qr,e1,e2,T,V⟩;refine⟨qr,e1,e2,T,λI=>?_⟩;obtain⟨f1,E,f2,f3,Y,f5,f6⟩:=V I;have e5:s.sys.un.length=s.us.length:=Lh _;exact⟨by rw[f1,e5];rfl,E,f2,f3,by rw[f3];exact G.edit I,Y,f5,f6⟩
theorem yp {k:Nat}{s:JR}{xs:List ZU}(h:Vd L w s)(G:Yu k s.sys)(H:k<=1000)(I:∀b∈L,b<↑w)(hx:zc L2 w.heap vl xs)(J:∀e∈xs.map ZU.e,q7 e.2)(O:Kb w 4096):
  QZ sV 13 [pS s.b,vl] w λr w'=>∃qr:V3,r=.tuple #[sT (Q0 qr),sS (UL s.sys (xs.map ZU.e))]/\(∀N:LN,(∀b∈N,b<↑w)->Jr N w'.heap qr)/\(UL s.sys (xs.map ZU.e)≠0->sX w w'/\qr.rp=⟨[],[],[]⟩) /\
   (UL s.sys (xs.map ZU.e)=0->qr.rp=YM (KU s.sys.c (xs.map ZU.e)).2 s.sys.ps ((s.sys.un.length:Int)+1)/\∃E:JR,E.b=s.b/\E.sys=edS s.sys (xs.map ZU.e)/\Yu (k+1) E.sys/\O5 s.own w w'/\Vd (E.own++L) w' E/\∀b∈E.own,b∈s.own\/↑w<=b):=
 (Qab h G H I hx J O).mono λ_ _ ⟨qr,e1,e2,S,T⟩=>⟨qr,e1,e2,S,λV=>let⟨f1,E,f2,f3,Y,f5,f6,f7,_⟩:=T V;⟨f1,E,f2,f3,Y,f5,f6,f7⟩⟩
theorem Qck {k:Nat}{s:JR}(h:Vd L w s)(H:Yu k s.sys):
  QZ sV 18 [pS s.b] w λr w'=>(s.sys.un=[]->r=sS 12/\sX w w') /\
   (s.sys.un≠[]->r=sS 0/\∃E:JR,E.b=s.b/\E.sys=unS s.sys/\Yu k E.sys/\O5 s.own w w'/\Vd L w' E/\∀b∈E.own,b∈s.own):=by
 have I:=H.len;refine(Qnr h I.1 I.2.1).mono ?_;rintro r w' ⟨e1,e2⟩;refine⟨λG=>e1 (List.map_eq_nil_iff.1 G),λG=>?_⟩;obtain⟨f1,E,f2,f3,J,O,f6⟩:=e2 λe=>G (by show s.us.map _=[];rw[e];rfl);exact⟨f1,E,f2,f3,by rw[f3];exact H.undo G,J,O,f6⟩
theorem QlP {c:CL}(G:ZH L w.heap c)(H:CSz c.V)(I:Kb w 4096)(hE:Vy c.V=0):
  QZ sV 11 [c.val] w λr w'=>sX w w'/\∃s:JR,r=.tuple #[pS s.b,sS 0]/\s.sys=Qbs c.V/\Yu 1 s.sys/\(∀b∈s.own,↑w<=b)/\Vd (s.own++oV ↑w) w' s:=by
 refine(Qk3 G H I).mono ?_;rintro r w' ⟨J,vp,e1,_,O⟩;obtain⟨s,S,E,T,V⟩:=O hE;exact⟨J,s,by rw[e1,S,hE],E,by rw[E];exact Yu.new hE,T,V⟩
theorem Qfs (k:Ky):(Xp k).length=2:=rfl
theorem Jj {v:O2}{l:List Ky}(h:Kys L w.heap v l)(J:Kys L' w.heap v' l):
  QZ sV 54 [v,v'] w λr w'=>r=.bool true/\sX w w':=by
 have hb:=h.le;refine Zq func54 ?_;refine Qc<|Qb<|Qe<|Qj<|QF h U<|Qa<|QF J U<|Zx U U<|xe<|QO rfl (λO=>OW U O) (λO=>?_);refine Qf<|Qe<|Qc<|Qb<|Q8 (α:=Nat) [(4,5),(11,25)] (λk=>[(5,sS k)]) (λk w'=>sX w w'/\k<=l.length) (λk=>l.length - k) 0 La ⟨O5.Z _ _,Ln _⟩ ?_;rintro k g H ⟨G,hk⟩;have S:Kys L H.heap v l:=h.I G;have V:Kys L' H.heap v' l:=J.I G;refine Qe<|Qj<|Qa<|QF S U<|Ya U U<|xe<|ZI rfl (λT=>?_) (λT=>?_)
 ·refine Qw<|Qc<|Qb<|Qh ⟨[.bool true],La,U,G⟩
 have E:k<l.length:=by have he:(k:Int)<(l.length:Int):=T;omega
 refine Qf<|Qe<|Qm<|Qe<|ZA [] (YX 0 9 [])<|p Qx<|p Qx<|Lg.pig (g:=Xp) (i:=k) U Qfs S U U E λhf Y=>pq (λ_ I=>Qr (Y.I I) U U) <|
  p Qx<|p Qx<|Lg.pig (g:=Xp) (i:=k) U Qfs V U U E λhg ha=>pq (λ_ I=>Qr (ha.I I) U U)<|p (λ_=>Vv (xs:=Xp (l[k]'E)) (ys:=Xp (l[k]'E)) U U U)<|pe ?_
 refine ZO (show Go.Lg.ev _ _=_ from OV (λb=>Value.bool (!b)) ((Qbx (l[k]'E) (l[k]'E)).D (OX U))) ?_;refine Qf<|Qs<|Qa<|QG U U<|Qb<|⟨k+1,oa,La,G.D (O5.C [] H),oa⟩
theorem Qaa {v:O2}(h:QL L w.heap v l)(I:QL L' w.heap v' l):
  QZ sV 109 [v,v'] w λr w'=>r=.bool true/\sX w w':=by
 have he:=h.le;refine Zq func109 ?_;refine Qc<|Qb<|Qe<|Qj<|QF h U<|Qa<|QF I U<|Zx U U<|xe<|QO rfl (λJ=>OW U J) (λJ=>?_);refine Qf<|Qe<|Qc<|Qb<|Q8 (α:=Nat) [(4,5),(11,25)] (λk=>[(5,sS k)]) (λk w'=>sX w w'/\k<=l.length) (λk=>l.length - k) 0 La ⟨O5.Z _ _,Ln _⟩ ?_;rintro k g G ⟨E,hk⟩;have O:QL L G.heap v l:=h.I E;have Y:QL L' G.heap v' l:=I.I E;refine Qe<|Qj<|Qa<|QF O U<|Ya U U<|xe<|ZI rfl (λS=>?_) (λS=>?_)
 ·refine Qw<|Qc<|Qb<|Qh ⟨[.bool true],La,U,E⟩
 have T:k<l.length:=by have hf:(k:Int)<(l.length:Int):=S;omega
 refine Qf<|Qe<|Qm<|Qe<|ZA [] (YX 0 9 [])<|p Qx<|p Qx<|pii U O U U T λhg ha=>pq (λ_ H=>Qy (ha.I H) U) <|
  p Qx<|p Qx<|pii U Y U U T λhh hb=>pq (λ_ H=>Qy (hb.I H) U)<|p (λ_=>XM U U)<|pe ?_
 refine QO rfl (λV=>OW U V) (λV=>?_);refine Qf<|Qs<|Qa<|QG U U<|Qb<|⟨k+1,oa,La,E.D (O5.C [] G),oa⟩
theorem Ue {a b:V3}(h:Jr L w.heap a)(I:Jr L' w.heap b)(e:a.rp=b.rp):
  QZ sV 19 [sT (Q0 a),sT (Q0 b)] w λr w'=>r=.bool true/\sX w w':=by
 obtain⟨a1,k1,a2,k2,a3,k3⟩:=a;obtain⟨b1,j1,b2,j2,V,j3⟩:=b;cases e
 refine Zq func19 ?_;refine Qc<|Zl [a1,a2,a3] λhc w1 Y he ha=>Zl [b1,b2,V] λhf w2 T hg J=>Qb ?_;have E:=Y.D T;have O:=ha.I T;refine QX (α:=Unit) [(4,23)] (λz=>[(4,.bool true)]) (λz w'=>sX w2 w') om ?_ ?_
 ·refine Qs<|Qo U O U U<|Qo U J U U<|Qz<|(Jj (h.a1.I E) (I.a1.I E)).mono ?_;rintro r3 w3 ⟨rfl,G⟩;refine Qa<|Qo U (O.I G) U U<|Qo U (J.I G) U U<|Qz<|(Jj ((h.a2.I E).I G) ((I.a2.I E).I G)).mono ?_;rintro r4 w4 ⟨rfl,hb⟩;have H:=G.D hb;refine QE U<|Qa<|Qo U (O.I H) U U<|Qo U (J.I H) U U<|Qz<|(Jj ((h.a3.I E).I H) ((I.a3.I E).I H)).mono ?_;rintro r5 w5 ⟨rfl,S⟩;refine QE U<|Qb<|⟨(),La,H.D S⟩
 rintro⟨⟩ g5 w5 S;exact Qh ⟨[.bool true],La,U,E.D S⟩
abbrev V0 (q:EnV):LV:=[q.vk,q.vd,q.vm]
theorem Qcj {a b:EnV}(h:zH L w.heap a)(J:zH L' w.heap b)(e1:a.kp=b.kp)(e2:a.ds=b.ds)(e3:a.rm=b.rm):
  QZ sV 56 [sT (V0 a),sT (V0 b)] w λr w'=>r=.bool true/\sX w w':=by
 have hk:=h.k;have hd:=h.d;have O:=h.r;rw[e1]at hk;rw[e2]at hd;rw[e3]at O;have hq:=O.le;refine Zq func56 ?_;refine Qc<|Zl (V0 a) λb2 w1 hl hs hm=>Zl (V0 b) λb3 w2 hb ht S=>Qb ?_;have E:=hl.D hb;have T:=hm.I hb;refine Qe<|QX (α:=Unit) [(6,28)] (λz=>[(28,.bool false)]) (λz w'=>sX w2 w') om ?_ ?_
 ·refine Qs<|Qo U T U U<|Qo U S U U<|Qz<|(Qaa (hk.I E) (J.k.I E)).mono ?_;rintro r3 w3 ⟨rfl,H⟩;refine xB (ZC U) (λhe=>OW he od) (λhe=>?_);refine Qa<|Qo U (T.I H) U U<|Qo U (S.I H) U U<|Qz<|(Qaa ((hd.I E).I H) ((J.d.I E).I H)).mono ?_;rintro r4 w4 ⟨rfl,hn⟩;have I:=H.D hn;refine xB (ZC U) (λhf=>OW hf od) (λhf=>?_);refine QE U<|Qa<|Qo U (T.I I) U U<|QF ((O.I E).I I) U<|QQ U<|x (Ql (S.I I) U U) <|
   QF ((J.r.I E).I I) U<|Zx U U<|QE U<|xe ?_
  exact⟨(),⟨OV Value.bool (OZ λh=>h U),Z⟩,I⟩
 rintro⟨⟩ g5 w5 hg;refine ZO rfl<|Qf<|Qe<|Qc<|Qb<|Q8 (α:=Nat) [(4,5),(29,46)] (λk=>[(5,sS k)]) (λk w'=>sX w5 w'/\k<=b.rm.length) (λk=>b.rm.length - k) 0 La ⟨O5.Z _ _,Ln _⟩ ?_;rintro k g w6 ⟨Y,hu⟩;have hh:=hg.D Y;have ha:=(E.D hg).D Y;have h1:=O.I ha;have hi:=T.I hh;refine Qe<|Qj<|Qo U hi U U<|QF h1 U<|Ya U U<|xe<|ZI rfl (λhj=>?_) (λhj=>?_)
 ·refine Qw<|Qc<|Qb<|Qh ⟨[.bool true],La,U,ha⟩
 have V:k<b.rm.length:=by have hv:(k:Int)<(b.rm.length:Int):=hj;omega
 refine Qf<|Qe<|Qm<|Qe<|ZA [] (YX 0 11 [])<|p (QJ U)<|pq (λ_ G=>Ql (hi.I G) U U)<|p Qx<|Lg.pig (g:=q4C) (i:=k) U QiG h1 U U V λhw ho=>pq (λ_ G=>Qr (ho.I G) U U) <|
  p (QJ rfl)<|pq (λ_ G=>Ql ((S.I hh).I G) U U)<|p Qx<|Lg.pig (g:=q4C) (i:=k) U QiG (J.r.I ha) U U V λhy hp=>pq (λ_ G=>Qr (hp.I G) U U)<|p (λ_=>Vv (xs:=q4C b.rm[k]) (ys:=q4C b.rm[k]) U U U)<|pe ?_
 refine ZO (show Go.Lg.ev _ _=_ from OV (λb=>Value.bool (!b)) ((Qoo (b.rm[k]'V) (b.rm[k]'V)).D (OX U))) ?_;refine Qf<|Qs<|Qa<|QG U U<|Qb<|⟨k+1,oa,La,Y.D (O5.C [] w6),oa⟩
theorem Qbd {a b:EnV}(h:zH L w.heap a)(J:zH L' w.heap b)(e:a.en=b.en):
  QZ sV 20 [sT (ZW a),sT (ZW b)] w λr w'=>r=.bool true/\sX w w':=by
 have ek:a.ky=b.ky:=OV Ent.ky e;have es:a.p.a=b.p.a:=OV Ent.sp e;have O:=h.a;rw[es]at O;refine Zq func20 ?_;refine Qc<|Zl (ZW a) λb2 w1 V hc Y=>Zl (ZW b) λb3 w2 S he H=>Qb ?_;have E:=V.D S;have I:=Y.I S;refine QX (α:=Unit) [(4,23)] (λz=>[(4,.bool true)]) (λz w'=>sX w2 w') om ?_ ?_
 ·refine Qs<|QQ U<|x (Zd (us:=Xp a.ky) I U U U)<|QQ U<|x (Zd (us:=Xp b.ky) H U U U)<|xB (Qcv (xs:=Xp a.ky) (ys:=Xp b.ky) U U U) (λT=>?_) (λT=>OW T (by rw[Qbx,OX ek];simp));refine Qa<|QQ U<|x (Zd (us:=[a.p.va,sS a.p.a.st,a.p.vm,a.p.ve]) I U U U)<|QQ U<|x (Zd (us:=[b.p.va,sS b.p.a.st,b.p.vm,b.p.ve]) H U U U)<|Qn<|xf ?_;rw[es];refine(QeN (O.I E) (J.a.I E)).mono ?_;rintro r3 w3 ⟨rfl,G⟩;refine QE U<|Qa<|QQ U<|x (Zd (us:=V0 a) (I.I G) U U U)<|QQ U<|x (Zd (us:=V0 b) (H.I G) U U U)<|jB<|(Qcj ((h.I E).I G) ((J.I E).I G) (OV Ent.kp e) (OV Ent.ds e) (OV Ent.rm e)).mono ?_;rintro r4 w4 ⟨rfl,ha⟩;refine QE U<|Qb<|⟨(),La,G.D ha⟩
 rintro⟨⟩ g5 w5 hb;exact Qh ⟨[.bool true],La,U,E.D hb⟩
theorem JG (w:O1):QZ sV 25 [] w λr w'=>sX w w'/\QeQ ↑w w'.heap r QbA:=by
 refine Zq func25 ?_;refine Qc<|QM Z8 λG w1 h0 hR ho=>xe ?_;refine Qc<|Qz<|(Kn 3 ol w1).mono ?_;rintro r2 w2 ⟨he,c1,rfl,h1,hf⟩;refine QM Z8 λb1 w3 h3 hp h4=>QI c1.cells h4 (hf [] od).ones λY h5 hr=>xe ?_;have hg:sX w2 Y:=h3.O h5 hp;have hS:=he.size;have h6:=ho.lt;have h7:=hr.lt;refine Qc<|Qn<|Za [[sS 1],[sS 2]] λO w5 hs hT h8=>Qn<|Za [[sS 0],[sS 1]] λS w6 hh hU hA =>
  x (Qv ⟨rfl,U,U,Z⟩)<|x (Qv ⟨U,U,U,Z⟩)<|Qn<|Za [QA (0,1,1),QA (1,2,0)] λT w7 ha hV hB=>?_
 have hC:=(hs.D hh).D ha;refine x (Qv ⟨U,U,U,U,Z⟩)<|x (Q5 [(0,[.string Xb]),(1,[sL O 2 2,sS 2,sL S 2 2,sL T 2 2])] ⟨U,U,U,U,Z⟩) <|
  Qn<|Za [[.string Xb,sL O 2 2,sS 2,sL S 2 2,sL T 2 2]] λI w8 V hW hD=>?_
 have ht:=hC.D V;refine QQ rfl<|Qn<|Qu (j:=2) (u:=sL I 1 1) (hr.I ht) U U od rfl λw9 hi hE=>xe ?_;refine Qc<|x (Qv ⟨U,U,Z⟩)<|x (Qv ⟨U,U,Z⟩)<|Qn<|Za [QC (1,1),QC (2,1)] λhc hY hu hZ hF=>x (Qv ⟨U,U,Z⟩) <|
  Qn<|Za [[.string Xc,sL hc 2 2]] λJ hG hv ga hH=>?_
 have hj:=hu.D hv;refine QQ rfl<|Qn<|Qu (j:=3) (u:=sL J 1 1) (hE.I hj) U U od rfl λhw hk hJ=>xe ?_;have gb:=hs.size;have gc:=hh.size;have gg:=ha.size;have gh:=V.size;have gi:=hi.size;have gj:=hu.size;have hl:O5 [b1] Y hw:=((ht.any.Q hi).D hj.any).Q hk;have hK:G∉[b1]:=oh
 have hM:=((ho.I he).I hg).J hl hK;have hN:Zb [c1.ve,c1.vc,sL I 1 1,sL J 1 1,c1.vk]:=by
  have h9:=(hf [] od).ones;exact⟨h9.1,h9.2.1,U,U,h9.2.2.2.2.1,Z⟩
 refine Qc<|QS hJ U U<|QI [c1.ve,c1.vc,sL I 1 1,sL J 1 1,c1.vk] hM hN λgk hy hO=>xe ?_;have H:=CL.cel_ex (CL.cel_rq h1 (sL I 1 1) [⟨Xb,⟨sL O 2 2,sL S 2 2,sL T 2 2,U2.a⟩⟩]) (sL J 1 1) [⟨Xc,sL hc 2 2,[(1,1),(2,1)]⟩];refine Qh ⟨[.agg #[c1.ve,c1.vc,sL I 1 1,sL J 1 1,c1.vk]],⟨Yk hO,Z⟩,(((h0.D he).D hg).O hl oa).O hy oa,_,U,H,λL hL=>?_⟩;have hz:∀b∈G::L,b<w1.heap.size:=λb E=>by
  rcases Li.1 E with rfl|E
  ·exact h6
  have:=hL b E;omega
 have hP:∀b∈b1::G::L,b<Y.heap.size:=λb E=>by
  rcases Li.1 E with rfl|E
  ·exact h7
  have:=hz b E;omega
 have h2:=(hf (G::L) hz).up (L':=b1::G::L) (λb E=>by
  rcases Li.1 E with rfl|E
  ·exact .inr hp
  exact .inl E)
 have hn:=(h2.I hg).st (hl.mono od);have nB:∀b,↑Y<=b->b∉b1::G::L:=λb E hm=>ov (hP b hm)
 have hI:X3 (b1::G::L) w8.heap (sL I 1 1) [⟨Xb,⟨sL O 2 2,sL S 2 2,sL T 2 2,U2.a⟩⟩]:=by
  refine⟨hD.arr (nB _ oa) (n:=1) (cap:=1) (sz:=5) U ol (Lv _),λq H=>?_,λq H=>?_⟩
  ·rw[Lb.1 H];exact⟨(((h8.I hh).I ha).I V).arr (nB _ oa) (n:=2) (cap:=2) (sz:=1) U ol (Lv _),((hA.I ha).I V).arr (nB _ oa) (n:=2) (cap:=2) (sz:=1) U ol (Lv _),(hB.I V).arr (nB _ oa) (n:=2) (cap:=2) (sz:=3) U ol (Lv _)⟩
  rw[Lb.1 H];exact XD ol
 have hX:jA (b1::G::L) hG.heap (sL J 1 1) [⟨Xc,sL hc 2 2,[(1,1),(2,1)]⟩]:=by
  refine⟨hH.arr (nB _ oa) (n:=1) (cap:=1) (sz:=2) U ol (Lv _),λq H=>?_,λq H=>?_⟩
  ·rw[Lb.1 H];exact(hF.I hv).arr (nB _ oa) (n:=2) (cap:=2) (sz:=2) U ol (Lv _)
  rw[Lb.1 H];exact XD ol
 have hQ:ZH (b1::G::L) hw.heap (CL.mk c1.ve c1.vc (sL I 1 1) (sL J 1 1) c1.vk c1.ev c1.co [⟨Xb,⟨sL O 2 2,sL S 2 2,sL T 2 2,U2.a⟩⟩] [⟨Xc,sL hc 2 2,[(1,1),(2,1)]⟩] c1.cs):=
  ⟨hn.ev,hn.co,((hI.st (hi.mono od)).I hj).st (hk.mono od),hX.st (hk.mono od),hn.cs⟩
 exact(hQ.st (hy.mono od)).up (λb E=>.inl (Lj _ (Lj _ E)))
abbrev QrH:XC:=⟨.empty,Vo⟩
def JC (k:Nat):ByteArray:=(QbA.co.getD k QrH).nm
def U1:List (Bool×Yi):=[(false,⟨3,Xc,Vo,[(JC 1,0),(JC 2,1)],[],0⟩)]
def Qjn:List (Bool×Yi):=[(true,⟨1,JC 1,Vo,[],[],0⟩)]
def KG:jr:=Qbs QbA
def Qfu:jr:=edS KG U1
theorem Qmn:Vy QbA=0:=oe
theorem QoM:UL KG U1=0:=oe
theorem QoI:(YM (KU KG.c U1).2 KG.ps 1).kept=[(1,Xb)]:=oe
theorem QoH:(YM (KU KG.c U1).2 KG.ps 1).made=[(2,Xc)]:=oe
theorem QoJ:(YM (KU KG.c U1).2 KG.ps 1).gone=[]:=oe
theorem QoL:UL Qfu Qjn=9:=oe
theorem Qjm:Qfu.made=3:=oe
end Go.Lg
