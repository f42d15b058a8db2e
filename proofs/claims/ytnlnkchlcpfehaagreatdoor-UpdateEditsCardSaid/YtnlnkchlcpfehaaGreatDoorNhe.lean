/- Merged out of 45 texts. -/
import Derived.Test.YtnlnkchlcpfehaaGreatDoorNhd
import Derived.Scope
import Derived.Lib.Overlaps
set_option maxHeartbeats 40000000
set_option maxRecDepth 100000
set_option linter.all false
open Go Go.Lg
open Go.Value renaming int->oG
open Go.IntKind renaming i64->oH
open _root_.List renaming mem_singleton->oJ,not_mem_nil->oK,mem_cons->oL,length_append->oN,length_singleton->oP,length->oQ,getD->oR,range'->oS,range->oV,mem_append->oW,length_cons->oX,map_cons->oY,append_assoc->o6,length_drop->Oa,length_take->Ob,length_map->Oc,size_toArray->Od,map_append->Oj,nil_append->Om,length_set->Ov,length_nil->OI,map_nil->OL,map_set->OQ
open _root_.Nat renaming zero_add->oZ,add_mul->Oq,sub_zero->OJ,zero_mul->OP,zero_le->OR
open _root_.Array renaming getElem?_eq_getElem->Ol,getElem?_mapIdx->Ox
open _root_.Option renaming map_some->Oz,isSome_none->OE
open _root_.Bool renaming false_eq_true->OF,true_and->OO
open Go renaming World->O1,Value->O2,Operand->O3,Program->O4
open Go.Proofs Go.Proofs.Tryz
open Go.Proofs.Tryz renaming prog->sV
variable {w w':O1}{L L' X ds L2:LN}{n t sz i b T j E g N id ty cap b1 B kt lo hi b2 et M gp:Nat}{cs us news capt:LV}{H:xA}{a:Q6}{α β:Type}{y G:O3}{z va ve vm vt v' vl vs vb vx vk:O2}{l u al rs:LI}{c:ZF}{P:O4}{f f1:Fr}{fn:Func}{q:DV}{o:Oper}{d:xE}{af:xC}{gd:xq}{es:List Ed}{K:xx}{bf:List xI}{k':IntKind}{qs:List IV}{at_:Array Nat}{co:List XD}{ops:xD}{ks:List KV}
namespace Go.Lg
section
variable {pS:String}
theorem yA {base e:Nat}{bys:Nat}[h:Sl P t e sz bys z]{v:O2}(H:w.ownsRow base e sz v n cs)
  {a:Addr} {m c:Nat}  (I:news.length=m*sz) (Y:∀j u,news[j]?=some u->w.cell? (a.add j)=some u) (h1:∀u∈news,u.oneCell'=true)
  (hb:n+m<=1073741824) (hs:bys<=131072) (he:base<=↑w):
  ∃v' w',(Builtin.append_ #[t,t] ty #[v,.slice (some a) m c]).run P w=.ok v' w'/\w'.ownsRow base e sz v' (n+m) (cs++news)/\O5 (ob v) w w'/\(∀b∈ob v',b∈ob v\/↑w<=b):=by
 obtain⟨i,hi,hz,O,ha⟩:=Sl.info h;have hc:(n+m)*bys<=140737488355328:=LH (Nat.mul_le_mul hb hs) oa;have hf:n+m<=maxLen:=by simp only[maxLen];omega
 by_cases hg:∃g cap cur,v=sL g n cap/\w.heap[g]?=some (.cells cur e (0,0))/\n+m<=cap
 ·obtain⟨v',w',V,ho,ht,_⟩:=run_append_own (P:=P) w base t ty e i z sz bys h.u hi hz O ha h.zs h.pos v n cs H a m c news I Y h1 hf hc he;refine⟨v',w',V,ho,by rw[yL];exact O5.of_grown ht,?_⟩;obtain⟨g,cap,cur,rfl,hh,S⟩:=hg;rcases H.2 with⟨h2,_⟩|⟨g2,cap2,hj,h2,h3,h4,h5,h6,h7,h8⟩
  ·cases h2
  cases h2
  have hu:n*i.size+news.length<=hj.size:=by rw[I,h7,O,<-Mu];exact L3 _ S
  rw[(run_append_room (P:=P) w t ty e i h.u hi g n cap hj h4 a m c news (by rw[O];exact I) Y h1 S hu)]at V;cases V
  intro b G;exact .inl G
 have new:∀(old:Nat),old<n+m->∀J,J=(Obj.cells (cs.toArray++news.toArray++Builtin.zeroCells z.cells (grownCap w (n+m) old e - (n+m))) e) ->
   (w.drew.alloc J).ownsRow base e sz (.slice (some ⟨↑w,0,none⟩) (n+m) (grownCap w (n+m) old e)) (n+m) (cs++news):=by
  intro old ho J hv;subst hv;have hge:=grownCap_ge w (n+m) old e;have hp:grownCap w (n+m) old e<=maxLen:=grownCap_le_maxLen w (n+m) old e hf;have hq:(cs++news).length=(n+m)*sz:=by rw[Ll,H.1,I,Mu]
  refine⟨hq,.inr ⟨↑w,_,_,U,he,Kx w.drew _,hge,hp,?_,?_⟩⟩
  ·simp only[Array.size_append,Od,size_zeroCells,h.zs,H.1,I,<-Oq];congr 1;omega
  simp only[Array.toList_append,o6];rw[<-LC,<-hq];exact List.take_left
 have stp:∀J,O5 (ob v) w (w.drew.alloc J):=λJ=>⟨U,U,U,by rw[V3];exact NP _,λk hk _=>qY w.drew J k hk⟩;have fin:∀(b:Nat),b∈ob (.slice (some ⟨↑w,0,none⟩) (n+m) 0)->b∈ob v\/↑w<=b:=λb G=>by simp[ob]at G;omega
 rcases H.2 with⟨rfl,rfl⟩|⟨g,cap,cur,rfl,h9,hh,hA,hp,hB,hC⟩
 ·have hx:cs=[]:=Ls (oA H.1);subst hx;by_cases hm:m=0
  ·subst hm;have hn:news=[]:=Ls (oA I);subst hn;refine⟨nS,w,?_,QE _ _ _ _,O5.Z _ _,λb G=>by simp[ob]at G⟩;simp[Builtin.append_,run_underlying h.u,sizeOf,typeInfo,hi,Builtin.lenOf,Builtin.firstCells,loadCells,loadCellsFrom]
  have V:=run_append_nil (P:=P) w t ty e i z h.u hi hz a m c news (by rw[O];exact I) Y oa oa (by rw[ha];have hw:=hc;simp only[oZ]at hw;omega);have hn:=new 0 oa _ U;simp only[oZ,Om,Array.empty_append]at hn ⊢;exact⟨_,_,V,hn,stp _,λb G=>fin b G⟩
 have S:cap<n+m:=by
  rcases Ns cap (n+m)with hy|hge
  ·exact hy
  exact OW ⟨g,cap,cur,U,hh,hge⟩ hg
 have h0:∀j u,cs[j]?=some u->w.cell? ((⟨g,0,none⟩:Addr).add j)=some u:=H.cells (g:=g) U;exact⟨_,_,(run_append_grow (P:=P) w t ty e i z h.u hi hz ⟨g,0,none⟩ n cap cs (by rw[O];exact H.1) h0 a m c news (by rw[O];exact I) Y S oa (growslice_fits S (by rw[ha];exact hc))),new cap S _ U,stp _,λb G=>fin b G⟩
theorem Jc {e bys:Nat}[h:Sl P t e sz bys z]{s:O3}{base:Nat}{v:O2}(G:w.ownsRow base e sz v n cs)(H:ev f s=v)
  {a:Addr} {m c:Nat}  (I:ev f y=.slice (some a) m c) (J:news.length=m*sz)  (O:At L ↑w a news) (S:∀u∈news,u.oneCell'=true)
  (V:n+m<=1073741824) (Y:base<=↑w)
  (hK:∀v' w',w'.ownsRow base e sz v' (n+m) (cs++news)->O5 (ob v) w w'->(∀b∈ob v',b∈ob v\/↑w<=b)->K (QN f d v') w') (ha:bys<=131072:=by decide):
  XO P ⟨d,.call ⟨.builtin .append,#[s,y],#[t,t]⟩,ty,pS,af,gd⟩ f w K:=by
 obtain⟨v',w',hr,h2,h3,h4⟩:=yA (P:=P) (t:=t) (ty:=ty) G J O.cells S V ha Y (c:=c);have hc:(execOp (ev f) ⟨d,.call ⟨.builtin .append,#[s,y],#[t,t]⟩,ty,pS,af,gd⟩).run P w=.ok (.value v') w':=by
  simp[execOp,resolve,invoke,builtin,H,I,hr]
 exact xv hc (hK v' w' h2 h3 h4)
end
class Mm {α:Type}(E:LN->Array Obj->α->Prop):Prop where
 st:∀{L:LN} {w w':O1} {q:α},E L ↑w q->O5 L w w'->E L ↑w' q
 up:∀{L L':LN} {H:xA} {q:α},E L H q->(∀b∈L',b∈L\/H.size<=b)->E L' H q
section
variable {E:LN->Array Obj->α->Prop}[Mm E]{q:α}
theorem Mm.Y (h:E L H q)(G:∀b∈L',b∈L):E L' H q:=Mm.up h λb I=>.inl (G b I)
theorem Mm.J (h:E L ↑w q)(H:O5 X w w')(I:∀b∈X,b∈L\/↑w<=b):E L ↑w' q :=
 Mm.Y (Mm.st (Mm.up (L':=X++L) h (λb G=>(Lc.1 G).elim (I b) .inl)) (H.Y λ_ G=>Lc.2 (.inl G))) λ_ G=>Lc.2 (.inr G)
theorem Mm.I (h:E L ↑w q)(G:sX w w'):E L ↑w' q:=Mm.st h G.any
end
structure XQ {α:Type}(g:α->LV)(sz:Nat)(E:LN->Array Obj->α->Prop)(L:LN)(H:xA)(v:O2)(qs:List α):Prop where
 arr:Zn L H v qs.length sz (qs.flatMap g)
 each:∀q∈qs,E L H q
section
variable {g:α->LV}{E:LN->Array Obj->α->Prop}
theorem XQ.st [Mm E]{L:LN}{w w':O1}{v:O2}{qs:List α}(h:XQ g sz E L ↑w v qs)(G:O5 L w w'):XQ g sz E L ↑w' v qs:=⟨h.arr.st G,λq H=>Mm.st (h.each q H) G⟩
theorem XQ.up [Mm E]{L L':LN}{H:xA}{v:O2}{qs:List α}(h:XQ g sz E L H v qs)(G:∀b∈L',b∈L\/H.size<=b):XQ g sz E L' H v qs:=⟨h.arr.up G,λq I=>Mm.up (h.each q I) G⟩
theorem XQ.I [Mm E]{v:O2}{qs:List α}(h:XQ g sz E L ↑w v qs)(G:sX w w'):XQ g sz E L ↑w' v qs:=h.st G.any
structure Yh {α:Type}(g:α->LV)(sz T:Nat)(E:LN->Array Obj->α->Prop)(base:Nat)(w:O1)(v:O2)(l:List α):Prop where
 own:w.ownsRow base T sz v l.length (l.flatMap g)
 each:∀q∈l,∀L:LN,(∀b∈L,b<base\/b∈ob v)->E L ↑w q
variable {bs:Nat}{v:O2}{l:List α}
theorem Yh.nil:Yh g sz T E bs w (nS) []:=⟨QE _ _ _ _,λq G=>by cases G⟩
theorem Yh.low [Mm E](h:Yh g sz T E bs w v l)(H:O5 X w w')(I:∀b∈X,b<bs):Yh g sz T E bs w' v l :=
 ⟨Qe h.own H (λb G J=>oy (Qg h.own b G).1 (I b J)),λq O L S =>
  Mm.Y (Mm.st (L:=X++L) (h.each q O _ λb G=>(Lc.1 G).elim (λG=>.inl (I b G)) (S b)) (H.Y λb G=>Lc.2 (.inl G))) λb G=>Lc.2 (.inr G)⟩
theorem Yh.I [Mm E](h:Yh g sz T E bs w v l)(G:sX w w'):Yh g sz T E bs w' v l:=h.low G (λ_ H=>by cases H)
theorem Yh.base {base':Nat}(h:Yh g sz T E bs w v l)(G:base'<=bs):Yh g sz T E base' w v l :=
 ⟨ZB h.own G,λq H L I=>h.each q H L λb J=>(I b J).imp (λh=>oa) id⟩
theorem Yh.app [Mm E]{H:O2}{I:O1}{q:α}(h:Yh g sz T E bs w v l)(O:∀L:LN,(∀b∈L,b<bs\/b∈ob v)->E L ↑w q)
  (S:I.ownsRow bs T sz H (l.length+1) (l.flatMap g++g q)) (V:O5 (ob v) w I) (Y:∀b∈ob H,b∈ob v\/↑w<=b):Yh g sz T E bs I H (l++[q]):=by
 have mv:∀d:α,(∀L:LN,(∀b∈L,b<bs\/b∈ob v)->E L ↑w d)->∀L:LN,(∀b∈L,b<bs\/b∈ob H)->E L ↑I d:=λd hd L hL=>by
  have h1:E (ob v++L) ↑w d:=Mm.up (hd (ob v++L.filter λb=>decide (b<bs)) λb G=>(Lc.1 G).elim .inr λG=>.inl (OY (L6.1 G).2)) λb G=>by
   rcases Lc.1 G with G|G
   ·exact .inl (Lc.2 (.inl G))
   rcases hL b G with J|J
   ·exact .inl (Lc.2 (.inr (L6.2 ⟨G,OX J⟩)))
   exact(Y b J).imp (λh3=>Lc.2 (.inl h3)) id
  exact Mm.Y (Mm.st h1 (V.Y λb G=>Lc.2 (.inl G))) λb G=>Lc.2 (.inr G)
 refine⟨?_,λd hd=>?_⟩
 ·rw[Ll,LA];simpa using S
 rcases Lc.1 hd with hd|hd
 ·exact mv d (h.each d hd)
 simp only[oJ]at hd;subst hd;exact mv d O
theorem Yh.lst (h:Yh g sz T E bs w v l)(I:l.length<=1099511627776)(H:∀b∈L,b<bs):XQ g sz E L ↑w v l :=
 ⟨QB h.own I (λb G hbL=>oy (Qg h.own b G).1 (H b hbL)),λq J=>h.each q J L λb G=>.inl (H b G)⟩
end
instance:Mm Jl:=⟨Jl.st,Jl.up⟩
theorem V0 (h:Jl L H q):∀u∈Qt q,u.oneCell'=true:=by
 intro u E;simp only[Qt,oL,oK,or_false]at E;rcases E with rfl|rfl|rfl|rfl|rfl|rfl|rfl|rfl|rfl
 ·rfl
 ·rfl
 ·exact h.a.al.one
 ·rfl
 ·exact h.a.mr.one
 ·exact h.a.ed.one
 ·exact h.ls.arr.one
 ·exact h.ts.arr.one
 rfl
abbrev Jw (base:Nat)(w:O1)(v:O2)(l:List DV):Prop:=Yh Qt 9 70 Jl base w v l
theorem Jw.dits {base:Nat}{v:O2}{l:List DV}(h:Jw base w v l)(E:l.length<=1099511627776)(G:∀b∈L,b<base):Kd L ↑w v l:=⟨(Yh.lst h E G).arr,(Yh.lst h E G).each⟩
theorem Km {v:O2}{es:List DV}(h0:Kd L ↑w v es)(h2:es.length<=100000):
  QY sV 92 [v] w λr w'=>sX w w'/\∃l:List DV,Jw ↑w w' r l/\l.map DV.it=es.map DV.it:=by
 have h:=h0.up (L':=[]) od;refine Zq func92 ?_;refine Qc<|Qb<|Qc<|Qb<|Qd<|Qj<|QF h.arr U<|Qa<|xe<|Q7 (α:=Nat×O2×List DV) [(3,3),(5,5),(8,17)] (λz=>[(3,z.2.1),(8,sS z.1)]) (λz w'=>z.1<=es.length/\sX w w'/\Jw ↑w w' z.2.1 z.2.2/\z.2.2.map DV.it=(es.take z.1).map DV.it) (λz=>es.length - z.1) (0,nS,[]) oB
  ⟨Lo _,O5.Z _ _,Yh.nil,U⟩ ?_
 rintro⟨k,vo,l⟩ g w1 ⟨hk,J,hR,G⟩;simp only[]at hk hR G;have h3:l.length=k:=by have:=OV oQ G;rw[Lh,Lh,LB]at this;omega
 refine Zo rfl U (λS=>?_) (λS=>?_)
 ·refine Qw ?_;have hh:es.length<=k:=by have hi:¬(k:Int)<(es.length:Int):=S;omega
  rw[Lu hh]at G;refine Qj<|Qb<|Qh ⟨[vo],La,J,l,hR,G⟩
 have E:k<es.length:=by have hi:(k:Int)<(es.length:Int):=S;omega
 have Y:es.take (k+1)=es.take k++[es[k]'E]:=Ln E;have ha:=Lm E;have h1:=h.I J;refine Qf<|Qd<|Qm<|Qc<|xig (g:=Qt) (i:=k) Z1 h1.arr U U E λh4 hc=>?_;refine Zf (es[k]'E) λq hq=>?_;rw[hq]at hc Y ha;have he:=h1.each q ha;refine x (Qr hc U U)<|QM z9 λb5 w2 hj hl hn=>QK (Qt q) hn he.ones λw3 ho hp=>xe ?_;have H:sX w1 w3:=hj.O ho hl;have h5:=H.size;have h6:=J.size;refine Qs<|Qa<|QT hp U U<|Qz<|(KK (he.I H)).Y ?_;rintro r4 w4 ⟨T,I,rfl,hr,hf⟩;have h7:=T.size;have hs:=Q8 (hR.I H).own;refine Qn<|Za [Qt I] λht w5 O h8 hu=>?_;have hA:=O.size;have hv:At [] ↑w5 ⟨ht,0,none⟩ (Qt I):=by have:=hu.at (L:=[]) od;simpa using this
 have hR5:=((hR.I H).I T).I O;refine Qn<|Jc (m:=1) (news:=Qt I) hR5.own U U U hv (V0 (hf [] od)) oa oa λv6 w6 hw hg hy=>?_;refine Qb ?_;have hz:Jw ↑w w6 v6 (l++[I]):=hR5.app (λL hL=>(hf L (λb V=>by
  rcases hL b V with h|h
  ·omega
  exact hs b h)).I O) hw hg hy
 refine Qs<|QH U U<|Qa<|xe<|⟨(k+1,v6,l++[I]),by show es.length - (k+1)<es.length - k;omega,oB,E,((((J.D H).D T).D O).S hg λb V=>.inr (Qg hR.own b V).1),hz,?_⟩;simp only[];rw[Y,Lr,Lr,G,LJ,LJ,hr]
theorem Qdk {n:Nat}{u:LI}:∀{l:List XD}{s:List ByteArray},J3 n u s l=0->(l.map (·.nm)).Nodup/\∀x∈l,x.nm∉s
 | [],_,_=>⟨.nil,λx hx=>by cases hx⟩
 | y::l,s,h=>by
  rw[UD]at h;by_cases E:Yy n u s y≠0
  ·rw[OU E]at h;exact OW h E
  rw[OT E]at h;have G:Yy n u s y=0:=Lp.1 E;have J:y.nm∉s:=λH=>by
   unfold Yy at G;split at G
   ·exact OW G ol
   exact OW G ol
  obtain⟨O,I⟩:=Qdk h;refine⟨ND.2 ⟨λH=>?_,O⟩,λx hx=>?_⟩
  ·obtain⟨x,hx,e⟩:=LD.1 H;exact I x hx (by rw[e];simp)
  rcases Lj.1 hx with rfl|hx
  ·exact J
  exact λH=>I x hx (Lc.2 (.inl H))
theorem Qf7 {s:List ByteArray}{n:ByteArray}(h:Ku s n=0):n∉s:=λE=>by
 unfold Ku at h;split at h
 ·exact OW h ol
 exact OW h ol
theorem QaO {sz:LI}:∀{l:List qv}{s:List ByteArray},Yz sz s l=0->(l.map (·.nm)).Nodup/\∀x∈l,x.nm∉s
 | [],_,_=>⟨.nil,λx hx=>by cases hx⟩
 | y::l,s,h=>by
  rw[Yz]at h;by_cases E:Ku s y.nm≠0
  ·rw[OU E]at h;exact OW h E
  rw[OT E]at h;by_cases G:Jr sz y.ls≠0
  ·rw[OU G]at h;exact OW h G
  rw[OT G]at h;obtain⟨J,I⟩:=QaO h;refine⟨ND.2 ⟨λH=>?_,J⟩,λx hx=>?_⟩
  ·obtain⟨x,hx,e⟩:=LD.1 H;exact I x hx (by rw[e];simp)
  rcases Lj.1 hx with rfl|hx
  ·exact(Qf7 (Lp.1 E))
  exact λH=>I x hx (Lc.2 (.inl H))
theorem QaP {sz:LI}:∀{l:List xK}{s:List ByteArray},Xg sz s l=0->(l.map (·.nm)).Nodup/\∀x∈l,x.nm∉s
 | [],_,_=>⟨.nil,λx hx=>by cases hx⟩
 | y::l,s,h=>by
  rw[Xg]at h;by_cases E:Ku s y.nm≠0
  ·rw[OU E]at h;exact OW h E
  rw[OT E]at h;by_cases G:XN sz y≠0
  ·rw[OU G]at h;exact OW h G
  rw[OT G]at h;obtain⟨J,I⟩:=QaP h;refine⟨ND.2 ⟨λH=>?_,J⟩,λx hx=>?_⟩
  ·obtain⟨x,hx,e⟩:=LD.1 H;exact I x hx (by rw[e];simp)
  rcases Lj.1 hx with rfl|hx
  ·exact(Qf7 (Lp.1 E))
  exact λH=>I x hx (Lc.2 (.inl H))
theorem z7 {c:ZF}{k:Int}{f:Nat->ByteArray}(E:∀(j:Nat) (co:LI),ZR c ⟨k,(j:Int),co⟩=(k,f j)):∀(l:LN) (i:Nat),(Ub k i l).map (ZR c)=(oS i l.length).map λj=>(k,f j)
 | [],_=>rfl
 | b::l,i=>by
  rw[Ub,LJ,z7 E l (i+1),E,LU,Na,LJ]
theorem yE (L:List α)(f:α->ByteArray)(d:α)(k:Int):((oS 0 L.length).map λj=>(k,f (L.getD j d)))=L.map λx=>(k,f x):=by
 apply Mv
 ·simp
 intro i H E;have G:i<L.length:=by simpa using E
 simp[oR,G]
theorem Qmq (c:ZF):(O8 c).map (ZR c)=c.rq.map (λx=>((1:Int),x.nm))++(c.ex.map (λx=>((2:Int),x.nm))++c.cs.map λx=>((3:Int),x.nm)):=by
 unfold O8;rw[Lr,Lr];rw[z7 (f:=λj=>(c.rq.getD j ⟨.empty,Vq⟩).nm) (λj co=>rfl),z7 (f:=λj=>(c.ex.getD j ⟨.empty,[]⟩).nm) (λj co=>rfl),z7 (f:=λj=>(c.cs.getD j ⟨.empty,[],0⟩).nm) (λj co=>rfl)];have e1:(srR c).length=c.rq.length:=Lh _;have e2:(srX c).length=c.ex.length:=Lh _;have E:(srC c).length=c.cs.length:=Lh _;rw[e1,e2,E,yE c.rq (·.nm),yE c.ex (·.nm),yE c.cs (·.nm)]
theorem qI {k:Int}{f:α->ByteArray}{l:List α}(h:(l.map f).Nodup):(l.map λx=>(k,f x)).Nodup:=by
 have e:(l.map λx=>(k,f x))=(l.map f).map λn=>(k,n):=by rw[Mn];rfl
 rw[e];exact(MQ.2 (h.imp λE e=>E (OV Prod.snd e)))
theorem QcN (h:Zj c=0):((O8 c).map (ZR c)).Nodup:=by
 unfold Zj at h;split at h
 ·rename_i E;exact OW h E
 split at h
 ·cases h
 split at h
 ·cases h
 split at h
 ·rename_i E;exact OW h E
 split at h
 ·rename_i E;exact OW h E
 rename_i I;unfold YG at h;split at h
 ·cases h
 split at h
 ·cases h
 split at h
 ·cases h
 split at h
 ·rename_i E;exact OW h E
 rename_i hx;rw[Qmq];refine ME.2 ⟨qI (Qdk (Lp.1 I)).1,ME.2 ⟨qI (QaO (Lp.1 hx)).1,qI (QaP h).1,λa H b G e=>?_⟩,λa H b G e=>?_⟩
 ·obtain⟨_,_,rfl⟩:=LD.1 H;obtain⟨_,_,rfl⟩:=LD.1 G;exact OW (OV Prod.fst e) (show(2:Int)≠3 by decide)
 obtain⟨_,_,rfl⟩:=LD.1 H;rcases Lc.1 G with G|G
 ·obtain⟨_,_,rfl⟩:=LD.1 G;exact OW (OV Prod.fst e) (show(1:Int)≠2 by decide)
 obtain⟨_,_,rfl⟩:=LD.1 G;exact OW (OV Prod.fst e) (show(1:Int)≠3 by decide)
theorem QpP (c:ZF)(bf:List xI)(v:Int)(m:qu):(KP c bf v m).2.1.ky=ZR c m:=by
 unfold KP;split
 ·rfl
 split
 ·rename_i p E;split
  ·have:=List.find?_some E;simpa using this
  rfl
 rfl
structure UJ {α:Type}(g:α->LV)(sz T:Nat)(E:LN->Array Obj->α->Prop)(L:LN)(base:Nat)(w:O1)(v:O2)(l:List α):Prop where
 own:w.ownsRow base T sz v l.length (l.flatMap g)
 each:∀q∈l,E (ob v++L) ↑w q
section
variable {g:α->LV}{E:LN->Array Obj->α->Prop}{bs:Nat}{v:O2}{l:List α}
theorem UJ.nil:UJ g sz T E L bs w (nS) []:=⟨QE _ _ _ _,λq G=>by cases G⟩
theorem UJ.J [Mm E]{X:LN}(h:UJ g sz T E L bs w v l)(H:O5 X w w')(I:∀b∈X,(b∈L\/↑w<=b)/\b∉ob v):UJ g sz T E L bs w' v l :=
 ⟨Qe h.own H (λb G J=>(I b J).2 G),λq O=>Mm.J (h.each q O) H λb G=>(I b G).1.imp (λh=>Lc.2 (.inr h)) id⟩
theorem UJ.I [Mm E](h:UJ g sz T E L bs w v l)(G:sX w w'):UJ g sz T E L bs w' v l:=h.J G (λ_ H=>by cases H)
theorem UJ.app [Mm E]{H:O2}{I:O1}{q:α}(h:UJ g sz T E L bs w v l)(J:E (ob v++L) ↑w q)
  (O:I.ownsRow bs T sz H (l.length+1) (l.flatMap g++g q)) (S:O5 (ob v) w I) (V:∀b∈ob H,b∈ob v\/↑w<=b):UJ g sz T E L bs I H (l++[q]):=by
 have mv:∀d:α,E (ob v++L) ↑w d->E (ob H++L) ↑I d:=λd hd=>by
  have Y:E (ob v++(ob H++L)) ↑w d:=Mm.up hd λb G=>by
   rcases Lc.1 G with G|G
   ·exact .inl (Lc.2 (.inl G))
   rcases Lc.1 G with G|G
   ·exact(V b G).imp (λh3=>Lc.2 (.inl h3)) id
   exact .inl (Lc.2 (.inr G))
  exact Mm.Y (Mm.st Y (S.Y λb G=>Lc.2 (.inl G))) λb G=>Lc.2 (.inr G)
 refine⟨?_,λd hd=>?_⟩
 ·rw[Ll,LA];simpa using O
 rcases Lc.1 hd with hd|hd
 ·exact mv d (h.each d hd)
 simp only[oJ]at hd;subst hd;exact mv d J
end
structure EnV where
 ky:Ky
 vr:Int
 p:AV
 vk:O2
 kp:LI
 vd:O2
 ds:LI
 vm:O2
 rm:List Q4
abbrev ZT (q:EnV):LV:=[sS q.ky.1,.string q.ky.2,sS q.vr,q.p.va,sS q.p.a.st,q.p.vm,q.p.ve,q.vk,q.vd,q.vm]
theorem Qke (q:EnV):(ZT q).length=10:=rfl
structure zf (L:LN)(H:xA)(q:EnV):Prop where
 a:ZM L H q.p.va q.p.vm q.p.ve q.p.a
 k:QL L H q.vk q.kp
 d:QL L H q.vd q.ds
 r:Zn L H q.vm q.rm.length 4 (q.rm.flatMap q4C)
theorem zf.st {L:LN}{w w':O1}{q:EnV}(h:zf L ↑w q)(G:O5 L w w'):zf L ↑w' q:=⟨h.a.st G,h.k.st G,h.d.st G,h.r.st G⟩
theorem zf.I {q:EnV}(h:zf L ↑w q)(G:sX w w'):zf L ↑w' q:=h.st G.any
theorem zf.up {L L':LN}{H:xA}{q:EnV}(h:zf L H q)(G:∀b∈L',b∈L\/H.size<=b):zf L' H q:=⟨h.a.up G,h.k.up G,h.d.up G,h.r.up G⟩
instance:Mm zf:=⟨zf.st,zf.up⟩
theorem zf.ones {q:EnV}(h:zf L H q):Zb (ZT q):=⟨U,U,U,h.a.al.one,U,h.a.mr.one,h.a.ed.one,h.k.one,h.d.one,h.r.one,Z⟩
structure Ent where
 ky:Ky
 vr:Int
 sp:Q6
 kp:LI
 ds:LI
 rm:List Q4
def EnV.en (q:EnV):Ent:=⟨q.ky,q.vr,q.p.a,q.kp,q.ds,q.rm⟩
def xI.en (p:xI):Ent:=⟨p.ky,p.vr,p.sp,p.kp,p.ds,p.rm⟩
structure V7 where
 e:EnV
 c:CL
abbrev Zp (q:V7):LV:=[sS q.e.ky.1,.string q.e.ky.2,sS q.e.vr,q.e.p.va,sS q.e.p.a.st,q.e.p.vm,q.e.p.ve,q.e.vk,q.e.vd,q.e.vm,q.c.ve,q.c.vc,q.c.vr,q.c.vx,q.c.vk]
theorem K0 (q:V7):(Zp q).length=15:=rfl
def V7.pt (q:V7):xI:=⟨q.e.ky,q.e.vr,q.e.p.a,q.e.kp,q.e.ds,q.e.rm,q.c.V⟩
structure V6 (L:LN)(H:xA)(q:V7):Prop where
 e:zf L H q.e
 c:ZI L H q.c
theorem V6.st {L:LN}{w w':O1}{q:V7}(h:V6 L ↑w q)(G:O5 L w w'):V6 L ↑w' q:=⟨h.e.st G,h.c.st G⟩
theorem V6.I {q:V7}(h:V6 L ↑w q)(G:sX w w'):V6 L ↑w' q:=h.st G.any
theorem V6.up {L L':LN}{H:xA}{q:V7}(h:V6 L H q)(G:∀b∈L',b∈L\/H.size<=b):V6 L' H q:=⟨h.e.up G,h.c.up G⟩
instance:Mm V6:=⟨V6.st,V6.up⟩
theorem V6.ones {q:V7}(h:V6 L H q):Zb (Zp q):=⟨U,U,U,h.e.a.al.one,U,h.e.a.mr.one,h.e.a.ed.one,h.e.k.one,h.e.d.one,h.e.r.one,h.c.ev.arr.one,h.c.co.arr.one,h.c.rq.arr.one,h.c.ex.arr.one,h.c.cs.arr.one,Z⟩
structure V5 where
 v1:O2
 k1:List Ky
 v2:O2
 k2:List Ky
 v3:O2
 k3:List Ky
def V5.rp (q:V5):Rp:=⟨q.k1,q.k2,q.k3⟩
abbrev Q0 (q:V5):LV:=[q.v1,q.v2,q.v3]
theorem yx (q:V5):(Q0 q).length=3:=rfl
abbrev Kys (L:LN)(H:xA)(v:O2)(l:List Ky):Prop:=Zn L H v l.length 2 (l.flatMap Xp)
structure Jt (L:LN)(H:xA)(q:V5):Prop where
 a1:Kys L H q.v1 q.k1
 a2:Kys L H q.v2 q.k2
 a3:Kys L H q.v3 q.k3
theorem Jt.st {L:LN}{w w':O1}{q:V5}(h:Jt L ↑w q)(G:O5 L w w'):Jt L ↑w' q:=⟨h.a1.st G,h.a2.st G,h.a3.st G⟩
theorem Jt.I {q:V5}(h:Jt L ↑w q)(G:sX w w'):Jt L ↑w' q:=h.st G.any
theorem Jt.up {L L':LN}{H:xA}{q:V5}(h:Jt L H q)(G:∀b∈L',b∈L\/H.size<=b):Jt L' H q:=⟨h.a1.up G,h.a2.up G,h.a3.up G⟩
instance:Mm Jt:=⟨Jt.st,Jt.up⟩
theorem Jt.ones {q:V5}(h:Jt L H q):Zb (Q0 q):=⟨h.a1.one,h.a2.one,h.a3.one,Z⟩
instance:Mm ZI:=⟨ZI.st,ZI.up⟩
theorem QbC (l:List Ky):∀u∈l.flatMap Xp,u.oneCell'=true:=by
 intro u H;obtain⟨p,_,G⟩:=Me.1 H;simp only[Xp,oL,oK,or_false]at G;rcases G with rfl|rfl <;> rfl
structure IvA (L:LN)(H:xA)(q:IV):Prop where
 a:ZM L H q.p.va q.p.vm q.p.ve q.p.a
 nm:JF q.nm
theorem IvA.st {L:LN}{w w':O1}{q:IV}(h:IvA L ↑w q)(E:O5 L w w'):IvA L ↑w' q:=⟨h.a.st E,h.nm⟩
theorem IvA.up {L L':LN}{H:xA}{q:IV}(h:IvA L H q)(E:∀b∈L',b∈L\/H.size<=b):IvA L' H q:=⟨h.a.up E,h.nm⟩
instance:Mm IvA:=⟨IvA.st,IvA.up⟩
theorem IvA.ones {q:IV}(h:IvA L H q):Zb (QJ q):=⟨U,h.a.al.one,U,h.a.mr.one,h.a.ed.one,Z⟩
structure XvA (L:LN)(H:xA)(q:XV):Prop where
 l:jT L H q.v q.ls
 nm:JF q.nm
theorem XvA.st {L:LN}{w w':O1}{q:XV}(h:XvA L ↑w q)(E:O5 L w w'):XvA L ↑w' q:=⟨h.l.st E,h.nm⟩
theorem XvA.up {L L':LN}{H:xA}{q:XV}(h:XvA L H q)(E:∀b∈L',b∈L\/H.size<=b):XvA L' H q:=⟨h.l.up E,h.nm⟩
instance:Mm XvA:=⟨XvA.st,XvA.up⟩
structure KvA (L:LN)(H:xA)(q:KV):Prop where
 l:jT L H q.v q.ts
 nm:JF q.nm
theorem KvA.st {L:LN}{w w':O1}{q:KV}(h:KvA L ↑w q)(E:O5 L w w'):KvA L ↑w' q:=⟨h.l.st E,h.nm⟩
theorem KvA.up {L L':LN}{H:xA}{q:KV}(h:KvA L H q)(E:∀b∈L',b∈L\/H.size<=b):KvA L' H q:=⟨h.l.up E,h.nm⟩
instance:Mm KvA:=⟨KvA.st,KvA.up⟩
abbrev IvR (base:Nat)(w:O1)(v:O2)(l:List IV):Prop:=Yh QJ 5 98 IvA base w v l
theorem IvR.itms {base:Nat}{v:O2}{l:List IV}(h:IvR base w v l)(G:l.length<=1099511627776)(H:∀b∈L,b<base):X4 L ↑w v l :=
 let z:=Yh.lst h G H;⟨z.arr,λq E=>(z.each q E).a,λq E=>(z.each q E).nm⟩
theorem Qma (l:List Q4):∀u∈l.flatMap q4C,u.oneCell'=true:=by
 intro u G;obtain⟨p,_,E⟩:=Me.1 G;simp only[q4C,oL,oK,or_false]at E;rcases E with rfl|rfl|rfl|rfl <;> rfl
theorem Qey (h0:ZM L ↑w va vm ve a):
  QY sV 81 [.agg #[va,sS a.st,vm,ve]] w λr w'=>sX w w'/\JK ↑w ↑w' r a:=by
 have h:=h0.up (L':=[]) od;refine Zq func81 ?_;refine Qc<|Zl [va,sS a.st,vm,ve] λb1 w1 hq ht hk=>QM K5 λb2 H V hu hl=>xe ?_;have hn:=hq.D V;have Y:=h.I hn;have I:=hk.I V;have hv:=hk.lt;have hd:sX H { H with drawn:=H.drawn+1 }:=O5.C _ _
 refine Qd<|Zz [] [oE 0,oE 1,oE 3,oE 4,oE 5,oE 6,oE 8,oE 9,oF 2,oF 7,oF 10,oE 11,oF 12]<|p (QG U)<|pq (λ_ G=>Qk (I.I G) U U)<|p (QG U)<|pq (λ_ G=>Qk (I.I G) U U) <|
  p (QG rfl)<|pq (λ_ G=>Qk (I.I G) U U)<|p (QG U)<|pq (λ_ G=>Qk (I.I G) U U) <|
  pk<|xg<|(Z3 (Y.al.I hd)).Y ?_
 rintro ra w5 ⟨hr,hf⟩;have J:sX H w5:=hd.D hr;refine⟨J,?_⟩;refine pk<|xg<|(Z3 (Y.mr.I J)).Y ?_;rintro rm w6 ⟨ho,hg⟩;have O:=J.D ho;refine⟨O,?_⟩;refine pk<|xg<|(Vd (Y.ed.I O)).Y ?_;rintro re S ⟨hh,T⟩;have hi:=O.D hh;refine⟨hi,?_⟩;refine p (λ_=>Qx ⟨xL hf,U,xL hg,xL T,Z⟩)<|pkk<|JY [ra,sS a.st,rm,re] (hl.I hi) ⟨Qp hf,U,Qp hg,Qp T,Z⟩ λw8 hp hs=>pe ?_;refine Qh ⟨[.agg #[ra,sS a.st,rm,re]],⟨Yl hs,Z⟩,(hn.D hi).O hp oa,ra,rm,re,U,λL hL=>?_⟩;have hw:=V.size;have hy:=J.size;have hz:=O.size;have hj:∀b∈b2::L,b<H.heap.size:=λb E=>by
  rcases Lj.1 E with rfl|E
  ·exact hl.lt
  have:=hL b E;omega
 have ha:QL (b2::L) ↑S ra a.al:=((Qq.ints hf h.al.le (λb E=>ov (hj b E))).I ho).I hh;have hm:QL (b2::L) ↑S rm a.mr:=(Qq.ints hg h.mr.le (λb E=>ov (hj b E))).I hh;have he:zP (b2::L) ↑S re a.ed:=QB T h.ed.le (λb E hbL=>oy (Qg T b E).1 (hj b hbL));have hA:ZM (b2::L) ↑S ra rm re a:=⟨ha,hm,he⟩;exact(hA.st (hp.Y od)).up (λb E=>.inl (Lk _ E))
abbrev z10:LV:=[sS 0,.string .empty,sS 0,nS,sS 0,nS,nS,nS,nS,nS]
theorem QpC {q:EnV}(h0:zf L ↑w q):
  QY sV 55 [sT (ZT q)] w λr w'=>sX w w'/\∃q':EnV,r=sT (ZT q')/\q'.en=q.en/\∀L:LN,(∀b∈L,b<↑w)->zf L ↑w' q':=by
 have h:=h0.up (L':=[]) od;refine Zq func55 ?_;refine Qc<|Zl (ZT q) λb1 w1 h4 hq hi=>QM z10 λb2 w2 hj hK hs=>xe ?_;have hM:=hi.lt;have hN:=hs.lt;refine Qc<|QQ U<|x (Zh (us:=[q.vk,q.vd,q.vm]) (hi.I hj) U U U)<|QM [nS,nS,nS] λb3 w3 h5 h7 h8=>QK [q.vk,q.vd,q.vm] h8 ⟨h.k.one,h.d.one,h.r.one,Z⟩ λw4 h9 hA=>xe ?_;have T:sX w2 w4:=h5.O h9 h7;have ht:=(h4.D hj).D T;have hO:=T.size;have hu:=(hi.I hj).I T;refine Qc<|QQ U<|x (Zh (us:=[q.p.va,sS q.p.a.st,q.p.vm,q.p.ve]) hu U U U)<|Qz<|(Qey (h.I ht).a).Y ?_;rintro _ w5 ⟨hl,xa,xm,H,rfl,hv⟩;have hP:=hl.size;have I:=(hv [] od);refine QQ rfl<|Qn<|YL (us:=[xa,sS q.p.a.st,xm,H]) (cs':=[sS q.ky.1,.string q.ky.2,sS q.vr,xa,sS q.p.a.st,xm,H,q.vk,q.vd,q.vm]) (hu.I hl) U U U od ⟨I.al.one,rfl,I.mr.one,I.ed.one,Z⟩ rfl λG hm hB=>xe ?_;have hn:O5 [b1] w4 G:=hl.any.Q hm;have hw:sX w G:=ht.O hn hq;have h6:=h.I hw;have hQ:=hm.size;have hC:b3∉[b1]:=oh
 have hy:b2∉[b1]:=oh
 have ho:=hA.J hn hC;have hd:sX G { G with drawn:=G.drawn+1 }:=O5.C _ _
 refine Qd<|Zz [] [oE 0,oE 1,oE 3,oE 4,oE 6,oE 7,oF 2,oF 5,oF 8,oE 9,oE 10,oF 11]<|p (QG U)<|pq (λ_ J=>Qk (ho.I J) U U)<|p (QG U)<|pq (λ_ J=>Qk (ho.I J) U U) <|
  p (QG rfl)<|pq (λ_ J=>Qk (ho.I J) U U)<|pk<|xg<|(Z3 (h6.k.I hd)).Y ?_
 rintro rk w7 ⟨hD,V⟩;have Y:sX G w7:=hd.D hD;refine⟨Y,?_⟩;refine pk<|xg<|(Z3 (h6.d.I Y)).Y ?_;rintro rd w8 ⟨hz,he⟩;have hf:=Y.D hz;refine⟨hf,?_⟩;refine pk<|xg<|(QkA (h6.r.I hf) (Qma q.rm)).Y ?_;rintro rr O ⟨hp,S⟩;have hg:=hf.D hp;refine⟨hg,?_⟩;refine p (λ_=>Qx ⟨xL V,xL he,xL S,Z⟩)<|p (QG U)<|pkk<|YL (us:=[rk,rd,rr]) (cs':=[sS q.ky.1,.string q.ky.2,sS q.vr,xa,sS q.p.a.st,xm,H,rk,rd,rr]) (hB.I hg) U U U od ⟨Qp V,Qp he,Qp S,Z⟩ rfl λhF h1 hG=>pe ?_;have h2:O5 [b1] G hF:=hg.any.Q h1;have hH:Zb (ZT ⟨q.ky,q.vr,⟨xa,xm,H,q.p.a⟩,rk,q.kp,rd,q.ds,rr,q.rm⟩):=⟨U,U,U,I.al.one,U,I.mr.one,I.ed.one,Qp V,Qp he,Qp S,Z⟩;refine Qc<|QT hG U U<|QK (ZT ⟨q.ky,q.vr,⟨xa,xm,H,q.p.a⟩,rk,q.kp,rd,q.ds,rr,q.rm⟩) (((hs.I T).J hn hy).J h2 hy) hH λhR h3 hI=>xe ?_;refine Qh ⟨[sT (ZT ⟨q.ky,q.vr,⟨xa,xm,H,q.p.a⟩,rk,q.kp,rd,q.ds,rr,q.rm⟩)],⟨Yl hI,Z⟩,(hw.O h2 hq).O h3 oa,_,U,U,λL hL=>?_⟩;have e6:({ G with drawn:=G.drawn+1 }:O1).heap.size=G.heap.size:=rfl
 have hS:=Y.size;have hT:=hf.size;have hh:∀b∈b1::b2::L,b<w4.heap.size:=λb E=>by
  simp only[oL]at E;rcases E with rfl|rfl|E
  ·omega
  ·omega
  have:=hL b E;omega
 have ha:ZM (b1::b2::L) ↑O xa xm H q.p.a:=((hv (b1::b2::L) hh).st (hm.Y od)).I hg;have hk:QL (b1::b2::L) ↑O rk q.kp:=((Qq.ints V h.k.le (λb E=>ov (hh b E))).I hz).I hp;have hJ:QL (b1::b2::L) ↑O rd q.ds:=(Qq.ints he h.d.le (λb E=>ov (hh b E))).I hp;have hr:Zn (b1::b2::L) ↑O rr q.rm.length 4 (q.rm.flatMap q4C):=QB S h.r.le (λb E hbL=>oy (Qg S b E).1 (hh b hbL));have hE:zf (b1::b2::L) ↑O ⟨q.ky,q.vr,⟨xa,xm,H,q.p.a⟩,rk,q.kp,rd,q.ds,rr,q.rm⟩:=⟨ha,hk,hJ,hr⟩;exact((hE.st (h1.Y od)).st (h3.Y od)).up (λb E=>.inl (by simp[E]))
theorem Qkr {q:V5}(h0:Jt L ↑w q):
  QY sV 45 [sT (Q0 q)] w λr w'=>sX w w'/\∃q':V5,r=sT (Q0 q')/\q'.rp=q.rp/\∀L:LN,(∀b∈L,b<↑w)->Jt L ↑w' q':=by
 have h:=h0.up (L':=[]) od;refine Zq func45 ?_;refine Qc<|Zl (Q0 q) λb1 w1 hj hs hp=>QM [nS,nS,nS] λb2 G Y ht hk=>xe ?_;have hl:=hj.D Y;have h2:=h.I hl;have hf:=hp.I Y;have hu:=hj.size;have hv:=Y.size;have hd:sX G { G with drawn:=G.drawn+1 }:=O5.C _ _
 refine Qd<|Zz [] [oE 0,oE 1,oE 3,oE 4,oE 6,oE 7,oF 2,oF 5,oF 8,oE 9,oF 10]<|p (QG U)<|pq (λ_ H=>Qk (hf.I H) U U)<|p (QG U)<|pq (λ_ H=>Qk (hf.I H) U U) <|
  p (QG rfl)<|pq (λ_ H=>Qk (hf.I H) U U)<|pk<|xg<|(jo (h2.a1.I hd) (QbC q.k1)).Y ?_
 rintro ra w5 ⟨hq,I⟩;have J:sX G w5:=hd.D hq;refine⟨J,?_⟩;refine pk<|xg<|(jo (h2.a2.I J) (QbC q.k2)).Y ?_;rintro rm w6 ⟨hn,O⟩;have S:=J.D hn;refine⟨S,?_⟩;refine pk<|xg<|(jo (h2.a3.I S) (QbC q.k3)).Y ?_;rintro re T ⟨hg,V⟩;have hh:=S.D hg;refine⟨hh,?_⟩;refine p (λ_=>Qx ⟨xL I,xL O,xL V,Z⟩)<|pkk<|JY [ra,rm,re] (hk.I hh) ⟨Qp I,Qp O,Qp V,Z⟩ λw8 ho hr=>pe ?_;refine Qh ⟨[sT (Q0 ⟨ra,q.k1,rm,q.k2,re,q.k3⟩)],⟨Yl hr,Z⟩,(hl.D hh).O ho oa,_,U,U,λL hL=>?_⟩;have e1:({ G with drawn:=G.drawn+1 }:O1).heap.size=G.heap.size:=rfl
 have hw:=J.size;have hy:=S.size;have hi:∀b∈b2::L,b<G.heap.size:=λb E=>by
  rcases Lj.1 E with rfl|E
  ·exact hk.lt
  have:=hL b E;omega
 have ha:Kys (b2::L) ↑T ra q.k1:=((QB I h.a1.le (λb E hbL=>oy (Qg I b E).1 (hi b hbL)):Kys (b2::L) ↑w5 ra q.k1).I hn).I hg;have hm:Kys (b2::L) ↑T rm q.k2:=(QB O h.a2.le (λb E hbL=>oy (Qg O b E).1 (hi b hbL)):Kys (b2::L) ↑w6 rm q.k2).I hg;have he:Kys (b2::L) ↑T re q.k3:=QB V h.a3.le (λb E hbL=>oy (Qg V b E).1 (hi b hbL));have hA:Jt (b2::L) ↑T ⟨ra,q.k1,rm,q.k2,re,q.k3⟩:=⟨ha,hm,he⟩;exact(hA.st (ho.Y od)).up (λb E=>.inl (Lk _ E))
theorem Qjr {c:CL}{q:MV}(h0:ZI L ↑w c)(hq:0<=q.ix)(hk:q.kd=1\/q.kd=2\/q.kd=3)(hr:q.kd=1->q.ix<(c.rq.length:Int))(hx:q.kd=2->q.ix<(c.ex.length:Int))(hs:q.kd=3->q.ix<(c.cs.length:Int)):
  QY sV 85 [c.val,.agg #[sS q.kd,sS q.ix,q.v]] w λr w'=>r=.agg #[sS (ZR c.V q.m).1,.string (ZR c.V q.m).2]/\sX w w':=by
 have hb:((q.ix.toNat:Nat):Int)=q.ix:=Int.toNat_of_nonneg hq;refine Zq func85 ?_;refine Qc<|Zl c.cells λb2 w1 hl h3 ht=>Zl [sS q.kd,sS q.ix,q.v] λb3 w2 hc h4 hm=>QM [sS 0,.string .empty] λb4 w3 T h6 hn=>xe ?_;refine Qc<|Qo U (hm.I T) U U<|x (Qx ⟨U,Z⟩)<|QM [sS 0,.string .empty] λb5 w4 hu hv hw=>QK [sS q.kd,.string .empty] hw oB λw5 hy he=>xe ?_;have V:sX w3 w5:=hu.O hy hv;have ho:=((hl.D hc).D T).D V;have hf:=((ht.I hc).I T).I V;have Y:=(hm.I T).I V;have hg:=hn.I V;have h7:=hn.lt;have hh:b4∉[b5]:=oh
 have h8:=hl.size;have h9:=hc.size;have h5:=(h0.up (L':=[]) od).I ho;have fin:∀(nm:ByteArray) (I w8:O1),(ZR c.V q.m)=(q.kd,nm)->O5 [b5] w5 I->QZ ↑I b5 87 [sS q.kd,.string nm]->O5 [b4] I w8->(Value.agg #[sS q.kd,.string nm]=.agg #[sS (ZR c.V q.m).1,.string (ZR c.V q.m).2]/\sX w w8):=λnm I w8 e hz _ h1 =>
  ⟨by rw[e],(ho.O hz oa).O h1 oa⟩
 refine Qd<|Qc<|Qo U Y U U<|xe<|Qm<|Qc<|x (QR U U)<|Qb<|QO U (λhi=>?_) (λhi=>?_)
 ·have hk1:q.kd=1:=hi;have E:q.ix.toNat<c.rq.length:=by have:=hr hk1;omega
  refine Qs<|Qo U hf U U<|Qo U Y U U<|xig (g:=QJ) (i:=q.ix.toNat) Yv h5.rq.arr U (show Go.Lg.ev _ _=_ from OV sS hb.symm) E λhp J =>
   x (Zd rfl)<|x (Qy (J.fld 0 (.string (c.rq[q.ix.toNat]'E).nm) U) U)<|QQ U<|Qn<|Qu (j:=1) (u:=.string (c.rq[q.ix.toNat]'E).nm) he U U od rfl λw6 G H=>xe ?_
  refine Qc<|QT H U U<|Qn<|Zv (us:=[sS q.kd,.string (c.rq[q.ix.toNat]'E).nm]) (hg.J G hh) U U U U oB λI O S=>xe ?_;refine Qh ⟨[.agg #[sS q.kd,.string (c.rq[q.ix.toNat]'E).nm]],⟨Yl S,Z⟩,fin _ _ _ ?_ G H O⟩;unfold ZR;rw[OU (show q.m.kd=1 from hk1)];refine Prod.ext U ?_;show((c.rq.map IV.it).getD q.ix.toNat ⟨.empty,Vq⟩).nm=_;simp[oR,E,IV.it]
 have hk1:¬q.kd=1:=hi;refine Qc<|x (QR U U)<|Qb<|QO U (λhj=>?_) (λhj=>?_)
 ·have ha:q.kd=2:=hj;have E:q.ix.toNat<c.ex.length:=by have:=hx ha;omega
  refine Qs<|Qo U hf U U<|Qo U Y U U<|xig (g:=Q3) (i:=q.ix.toNat) Xx h5.ex.arr U (show Go.Lg.ev _ _=_ from OV sS hb.symm) E λhp J =>
   x (Zd rfl)<|x (Qy (J.fld 0 (.string (c.ex[q.ix.toNat]'E).nm) U) U)<|QQ U<|Qn<|Qu (j:=1) (u:=.string (c.ex[q.ix.toNat]'E).nm) he U U od rfl λw6 G H=>xe ?_
  refine Qc<|QT H U U<|Qn<|Zv (us:=[sS q.kd,.string (c.ex[q.ix.toNat]'E).nm]) (hg.J G hh) U U U U oB λI O S=>xe ?_;refine Qh ⟨[.agg #[sS q.kd,.string (c.ex[q.ix.toNat]'E).nm]],⟨Yl S,Z⟩,fin _ _ _ ?_ G H O⟩;unfold ZR;rw[OT (show ¬q.m.kd=1 from hk1),OU (show q.m.kd=2 from ha)];refine Prod.ext U ?_;show((c.ex.map XV.x).getD q.ix.toNat ⟨.empty,[]⟩).nm=_;simp[oR,E,XV.x]
 have ha:¬q.kd=2:=hj;have h2:q.kd=3:=oa
 have E:q.ix.toNat<c.cs.length:=by have:=hs h2;omega
 refine Qs<|Qo U hf U U<|Qo U Y U U<|xig (g:=Q9) (i:=q.ix.toNat) Xq h5.cs.arr U (show Go.Lg.ev _ _=_ from OV sS hb.symm) E λhp J =>
  x (Zd rfl)<|x (Qy (J.fld 0 (.string (c.cs[q.ix.toNat]'E).nm) U) U)<|QQ U<|Qn<|Qu (j:=1) (u:=.string (c.cs[q.ix.toNat]'E).nm) he U U od rfl λw6 G H=>xe ?_
 refine Qc<|QT H U U<|Qn<|Zv (us:=[sS q.kd,.string (c.cs[q.ix.toNat]'E).nm]) (hg.J G hh) U U U U oB λI O S=>xe ?_;refine Qh ⟨[.agg #[sS q.kd,.string (c.cs[q.ix.toNat]'E).nm]],⟨Yl S,Z⟩,fin _ _ _ ?_ G H O⟩;unfold ZR;rw[OT (show ¬q.m.kd=1 from hk1),OT (show ¬q.m.kd=2 from ha)];refine Prod.ext U ?_;show((c.cs.map KV.k).getD q.ix.toNat ⟨.empty,[],0⟩).nm=_;simp[oR,E,KV.k]
theorem Qgk {v:O2}{a:Addr}(h:Zn L H v n sz cs)(e:v=.slice (some a) n cap):At L H a cs:=by
 rcases h.2.2 with⟨E,_⟩|⟨a',cap',E,_,G⟩
 ·rw[E]at e;cases e
 rw[E]at e;simp only[Value.slice.injEq,Option.some.injEq]at e;rw[<-e.1];exact G
section
variable {Q:Exit->Fr->O1->Prop}
end
section
variable {pS:String}
theorem QgO {e bys:Nat}[h:Sl P t e sz bys z]{x E H:O3}{k:IntKind}{m:Nat}(hx:ev f x=sL b n cap)(I:ev f E=.int k lo)(J:ev f G=.int k hi)(O:ev f H=.int k m)(h1:lo<=hi)(h2:hi<=m)(h3:m<=cap):
  (execOp (ev f) ⟨d,.slice t x (some E) (some G) (some H),ty,pS,af,gd⟩).run P w=.ok (.value (.slice (if m=lo then some ⟨b,0,none⟩else some ((⟨b,0,none⟩:Addr).add (lo*sz))) (hi - lo) (m - lo))) w:=by
 obtain⟨i,S,_,T,_⟩:=Sl.info h;have e1:(Instr.sliceBound (.int k m) cap .slice3Acap).run P w=.ok m w:=ZP h3;have e2:(Instr.sliceBound (.int k hi) m .slice3B).run P w=.ok hi w:=ZP h2;have V:(Instr.sliceBound (.int k lo) hi .slice3C).run P w=.ok lo w:=ZP h1;by_cases Y:m=lo
 ·subst Y;simp[execOp,hx,I,J,O,Instr.sliceAt,Instr.slice,run_underlying h.u,Instr.sliceBounds,e1,e2,V,sizeOf,typeInfo,S,T]
 simp[execOp,hx,I,J,O,Instr.sliceAt,Instr.slice,run_underlying h.u,Instr.sliceBounds,e1,e2,V,sizeOf,typeInfo,S,T,Y]
theorem QgN {e bys:Nat}[h:Sl P t e sz bys z]{x E:O3}{k:IntKind}(hx:ev f x=sL b n cap)(H:ev f E=.int k lo)(I:ev f G=.int k hi)(J:lo<=hi)(O:hi<=cap)(Y:lo<cap):
  (execOp (ev f) ⟨d,.slice t x (some E) (some G) none,ty,pS,af,gd⟩).run P w=.ok (.value (.slice (some ⟨b,lo*sz,none⟩) (hi - lo) (cap - lo))) w:=by
 obtain⟨i,S,_,T,_⟩:=Sl.info h;have e1:(Instr.sliceBound (.int k hi) cap .sliceAcap).run P w=.ok hi w:=ZP O;have e2:(Instr.sliceBound (.int k lo) hi .sliceB).run P w=.ok lo w:=ZP J;have V:¬cap=lo:=oa
 simp[execOp,hx,H,I,Instr.sliceAt,Instr.slice,run_underlying h.u,Instr.sliceBounds,e1,e2,sizeOf,typeInfo,S,T,V,Addr.add];exact λe=>e.symm
theorem QoK {e bys:Nat}[h:Sl P t e sz bys z]{s:O3}{cur:LV}(H:QZ ↑w g e cur)(O:ev f s=sL g n cap)(S:cur.length=cap*sz)
  {a:Addr} {m c:Nat}  (T:ev f y=.slice (some a) m c) (I:news.length=m*sz)  (V:At L ↑w a news) (Y:∀u∈news,u.oneCell'=true) (J:n+m<=cap)
  (hK:∀w',O5 [g] w w'->QZ ↑w' g e (cur.take (n*sz)++news++cur.drop (n*sz+news.length))->K (QN f d (sL g (n+m) cap)) w'):
  XO P ⟨d,.call ⟨.builtin .append,#[s,y],#[t,t]⟩,ty,pS,af,gd⟩ f w K:=by
 obtain⟨i,hi,hz,E,hc⟩:=Sl.info h;have ha:n*i.size+news.length<=cur.toArray.size:=by
  rw[LR,S,I,E,<-Mu];exact L3 _ J
 have G:=run_append_room (P:=P) w t ty e i h.u hi g n cap cur.toArray H a m c news (by rw[E];exact I) V.cells Y J ha;rw[E]at G;have hb:(execOp (ev f) ⟨d,.call ⟨.builtin .append,#[s,y],#[t,t]⟩,ty,pS,af,gd⟩).run P w=.ok (.value (sL g (n+m) cap)) (w.setRow g (cur.take (n*sz)++news++cur.drop (n*sz+news.length)).toArray):=by
  simp[execOp,resolve,invoke,builtin,O,T]at G ⊢;simp[G]
 exact xv hb (hK _ (O5.setRow _ _ _) (X9 H))
end
theorem QnV {pS:String}[h1:X8 P t]{x:O3}{base k:Nat}{u:O2}
  (h:w.ownsRow base T sz (sL g n cap) n cs) (hx:ev f x=.pointer (some ⟨g,k,none⟩)) (G:ev f y=u) (Y:k<n*sz) (H:u.oneCell'=true)
  (hK:∀w',O5 [g] w w'->w'.ownsRow base T sz (sL g n cap) n (cs.set k u)->K (QN f d undef) w'):XO P ⟨d,.store t x y,ty,pS,af,gd⟩ f w K:=by
 obtain⟨I,cur,J,O,E⟩:=JD h;have ha:n*sz<=cap*sz:=L3 _ I;refine Qu (j:=k) J hx G oa H λw' S V=>hK w' S ?_;refine VV h (Lx _) V (by rw[Mb];exact O) ?_ (by rw[Mb,<-E,LB];omega);rw[List.take_set,E]
def Fre {α:Type}(E:LN->Array Obj->α->Prop)(M:Nat)(H:xA)(q:α):Prop:=∀L:LN,(∀b∈L,b<M)->E L H q
theorem Fre.low {E:LN->Array Obj->α->Prop}[Mm E]{q:α}(h:Fre E M ↑w q)(H:O5 X w w')(I:∀b∈X,b<M):Fre E M ↑w' q:=λL J =>
 Mm.Y (Mm.st (L:=X++L) (h _ λb G=>(Lc.1 G).elim (I b) (J b)) (H.Y λ_ G=>Lc.2 (.inl G))) λ_ G=>Lc.2 (.inr G)
theorem Fre.I {E:LN->Array Obj->α->Prop}[Mm E]{q:α}(h:Fre E M ↑w q)(G:sX w w'):Fre E M ↑w' q:=h.low G λ_ H=>by cases H
theorem Qh4 {q:XV}(h:q.v.oneCell'=true):∀u∈Q3 q,u.oneCell'=true:=by
 intro u E;simp only[Q3,oL,oK,or_false]at E;rcases E with rfl|rfl
 ·rfl
 exact h
theorem Qjp {q:KV}(h:q.v.oneCell'=true):∀u∈Q9 q,u.oneCell'=true:=by
 intro u E;simp only[Q9,oL,oK,or_false]at E;rcases E with rfl|rfl|rfl
 ·rfl
 ·exact h
 rfl
theorem jb {α:Type}{g:α->LV}{sz:Nat}(G:∀x,(g x).length=sz):∀(l:List α) (i j:Nat) (u:O2) (E:α) (h:i<l.length),j<sz->g E=(g (l[i]'h)).set j u->(l.flatMap g).set (i*sz+j) u=(l.set i E).flatMap g
 | [],i,_,_,_,h,_,_=>by simp at h
 | a::l,0,j,u,E,h,H,e=>by
  have I:g E=(g a).set j u:=e;rw[OP,LT,List.set_cons_zero,LM,LM,List.set_append_left _ _ (by rw[G a];exact H),I]
 | a::l,i+1,j,u,E,h,H,e=>by
  have J:(i+1)*sz+j=(g a).length+(i*sz+j):=by rw[G a,Nat.succ_mul];omega
  rw[J,NV,LM,LM,List.set_append_right _ _ oa,ML,jb G l i j u E (oA h) H e]
theorem yQ {f:α->β}{l:List α}(hi:i<l.length){q:α}(h:f q=f (l[i]'hi)):(l.set i q).map f=l.map f:=by
 rw[OQ,h];have:f (l[i]'hi)=(l.map f)[i]'(by rw[Lh];exact hi):=by rw[Mr]
 rw[this,List.set_getElem_self]
structure CpI (N:Nat)(w':O1)(c:CL)(b3:Nat)(re rx rk:O2):Prop where
 b:N<=b3
 B:QZ ↑w' b3 45 [re,nS,nS,rx,rk]
 e:w'.ownsRow N 169 5 re c.ev.length (c.ev.flatMap Zs)
 x:w'.ownsRow N 105 2 rx c.ex.length (c.ex.flatMap Q3)
 k:w'.ownsRow N 110 3 rk c.cs.length (c.cs.flatMap Q9)
 d1:∀b∈ob re,b≠b3/\b∉ob rx/\b∉ob rk
 d2:∀b∈ob rx,b≠b3/\b∉ob rk
 d3:∀b∈ob rk,b≠b3
theorem QpD {c:CL}(h0:ZI L ↑w c)(hn1:c.co.length<=1000)(hn2:c.rq.length<=1000):
  QY sV 33 [c.val] w λr w'=>sX w w'/\QeV ↑w ↑w' r c.V:=by
 have h:=h0.up (L':=[]) od;have m5:=h.ex.arr.le;have m6:=h.cs.arr.le;have m7:=h.ev.arr.le;refine Zq func33 ?_;refine Qc<|Zl c.cells λb1 w1 m8 hb1 kz=>QM Z8 λb2 w2 k0 hb2 k4=>xe ?_;have k5:=m8.D k0;have hl1:=kz.lt;have m9:=k4.lt;have h2:=h.I k5;have gc:=kz.I k0;have pa:sX w2 { w2 with drawn:=w2.drawn+1 }:=O5.C _ _
 have pc:∀u∈c.ex.flatMap Q3,u.oneCell'=true:=λu hu=>by
  obtain⟨q,S,hu⟩:=Me.1 hu;exact Qh4 (h.ex.each q S).one u hu
 have pd:∀u∈c.cs.flatMap Q9,u.oneCell'=true:=λu hu=>by
  obtain⟨q,S,hu⟩:=Me.1 hu;exact Qjp (h.cs.each q S).one u hu
 refine QX (α:=Nat×O2×O2×O2) [(10,19),(3,3)] (λz=>[(3,.pointer (some ⟨z.1,0,none⟩))]) (λz w'=>sX w2 w'/\CpI ↑w2 w' c z.1 z.2.1 z.2.2.1 z.2.2.2) om ?_ ?_
 ·refine Jh (α:=O2×O2×O2) (sX w2) [oE 0,oE 1,oE 3,oE 4,oE 6,oE 7] [oF 2,oF 5,oF 8,oE 9] 10 3 [oF 11] []
   [(10,19)] [(12,12),(15,15),(18,19)] (λz=>[(19,.agg #[z.1,nS,nS,z.2.1,z.2.2])])
   (λz own w'=>(w'.ownsRow ↑w2 169 5 z.1 c.ev.length (c.ev.flatMap Zs)/\w'.ownsRow ↑w2 105 2 z.2.1 c.ex.length (c.ex.flatMap Q3)/\w'.ownsRow ↑w2 110 3 z.2.2 c.cs.length (c.cs.flatMap Q9)) /\
    (∀b∈ob z.1,b∈own/\b∉ob z.2.1/\b∉ob z.2.2)/\(∀b∈ob z.2.1,b∈own/\b∉ob z.2.2)/\∀b∈ob z.2.2,b∈own)
   (λv w'=>∃b,v=sP b/\↑w2<=b/\QZ ↑w' b 45 Z8) mixed om oe om U pa od ?_ ?_ ?_ ?_
  ·rintro v own wa wb ⟨b,rfl,E,hB⟩ hs hn;exact⟨b,U,E,hB.J hs (hn b ou)⟩
  ·rintro z own wa wb ⟨⟨h1,h2,h3⟩,h4⟩ hs;exact⟨⟨Ql h1 hs,Ql h2 hs,Ql h3 hs⟩,h4⟩
  ·rintro⟨re,rx,rk⟩ g own wz v ⟨⟨i1,i2,i3⟩,i4,i5,i6⟩ pf ⟨O,rfl,k6,pg⟩ ph;simp only[]at i1 i2 i3 i4 i5 i6;have gg:=(ph O ou).1;refine pkk<|JY [re,nS,nS,rx,rk] pg ⟨Qp i1,U,U,Qp i2,Qp i3,Z⟩ λw8 h8 pj=>pe ?_;have nn:∀b,b∈own->b∉[O]:=λb E H=>gg (by rw[<-Lb.1 H];exact E);refine⟨(O,re,rx,rk),La,pf.O h8 k6,k6,pj,Qe i1 h8 (λb E=>nn b (i4 b E).1),Qe i2 h8 (λb E=>nn b (i5 b E).1),Qe i3 h8 (λb E=>nn b (i6 b E)),λb E=>⟨λe=>gg (by rw[show O=b from e.symm];exact(i4 b E).1),(i4 b E).2⟩,λb E=>⟨λe=>gg (by rw[show O=b from e.symm];exact(i5 b E).1),(i5 b E).2⟩,λb E e=>gg (by rw[show O=b from e.symm];exact i6 b E)⟩
  refine p (QG U)<|pq (λ_ I=>Qk (gc.I I) U U)<|p (QG U)<|pq (λ_ I=>Qk (gc.I I) U U) <|
   p (QG rfl)<|pq (λ_ I=>Qk (gc.I I) U U)<|pe ⟨λg wf pm=>flA Z8 pm,?_⟩
  refine f2k λx1 p1 c1=>xg<|(UB (h2.ev.I c1).arr).Y ?_;rintro re y1 ⟨k7,gq⟩;refine⟨c1.D k7,Ut ↑x1 ↑y1,k7.any,λb E=>.inr (Zw.1 E),?_⟩;refine f2k λx2 p2 c2=>xg<|(QkB (h2.ex.I c2).arr pc).Y ?_;rintro rx y2 ⟨gh,gr⟩;refine⟨c2.D gh,Ut ↑x1 ↑y1++Ut ↑x2 ↑y2,gh.any,λb E=>(Lc.1 E).imp id λE=>Zw.1 E,?_⟩;refine f2k λx3 p3 c3=>xg<|(QkE (h2.cs.I c3).arr pd).Y ?_;rintro rk y3 ⟨gi,gs⟩;refine⟨c3.D gi,(Ut ↑x1 ↑y1++Ut ↑x2 ↑y2)++Ut ↑x3 ↑y3,gi.any,λb E=>(Lc.1 E).imp id λE=>Zw.1 E,?_⟩;refine Ul (λ_=>Qx ⟨xL gq,xL gr,xL gs,Z⟩)<|f2e ?_;have e1:=c1.size;have e2:=c2.size;have e3:=c3.size;have e12:=p2.size;have e23:=p3.size;have g1:=Qg gq;have g2:=Qg gr;have g3:=Qg gs;have f2:=gh.size;refine⟨(re,rx,rk),La,⟨ZB (Ql (Ql (Ql (Ql gq p2) gh) p3) gi) e1,ZB (Ql (Ql gr p3) gi) e2,ZB gs e3⟩,λb E=>⟨?_,λH=>?_,λH=>?_⟩,λb E=>⟨?_,λH=>?_⟩,λb E=>?_⟩
  ·exact Lc.2 (.inl (Lc.2 (.inl (Zw.2 (g1 b E)))))
  ·have:=g1 b E;have:=g2 b H;omega
  ·have:=g1 b E;have:=g3 b H;omega
  ·exact Lc.2 (.inl (Lc.2 (.inr (Zw.2 (g2 b E)))))
  ·have:=g2 b E;have:=g3 b H;omega
  exact Lc.2 (.inr (Zw.2 (g3 b E)))
 rintro⟨O,re,rx,rk⟩ g w3 ⟨gj,T⟩;simp only[]at T;have gt:=k5.D gj;have h3:=h.I gt;have k8:=gc.I gj;have hz3:=gj.size;have k9:=T.B.lt;have gu:=Qg T.x;have gv:=Qg T.k;have pn:b1≠O:=by have:=T.b;omega
 have ma:b2≠O:=by have:=T.b;omega
 have mf:∀b∈O::(ob rx++ob rk),↑w<=b/\b<w3.heap.size:=λb E=>by
  rcases Lj.1 E with rfl|E
  ·exact⟨ov T.b,k9⟩
  rcases Lc.1 E with E|E
  ·have:=gu b E;omega
  have:=gv b E;omega
 have mg:ZI (O::(ob rx++ob rk)) ↑w3 c:=(h0.up (λb E=>.inr (mf b E).1)).I gt;have gw:∀b∈ob rx,b<w3.heap.size:=λb E=>(gu b E).2;have gk:∀b∈ob rk,b<w3.heap.size:=λb E=>(gv b E).2;have m3x:O∉ob rx:=λE=>(T.d2 O E).1 U;have m3k:O∉ob rk:=λE=>T.d3 O E U;refine Qd<|Qc<|Qo U k8 U U<|QF h3.co.arr U<|Qa<|xe<|Q7 (α:=Nat×O2×List IV) [(5,5),(23,38)] (λz=>[(23,sS z.1)]) (λz w'=>z.1<=c.co.length/\O5 [O] w3 w'/\QZ ↑w' O 45 [re,z.2.1,nS,rx,rk]/\IvR ↑w3 w' z.2.1 z.2.2/\z.2.2.map IV.it=(c.co.take z.1).map IV.it) (λz=>c.co.length - z.1) (0,nS,[]) La ⟨Lo _,O5.Z _ _,T.B,Yh.nil,U⟩ ?_;rintro⟨i,voA,lA⟩ g w4 ⟨mh,hg,gy,gl,hF⟩;simp only[]at mh gy gl hF;refine Zo rfl U (λgm=>?_) (λgm=>?_)
 rotate_left
 ·have J:i<c.co.length:=by have hM:(i:Int)<(c.co.length:Int):=gm;omega
  have hN:c.co.take (i+1)=c.co.take i++[c.co[i]'J]:=Ln J;have po:lA.length=i:=by have:=OV oQ hF;rw[Lh,Lh,LB]at this;omega
  have V:=Lm J;have h4:=mg.st (hg.Y od);have gz:=hg.size;refine Qf<|Qd<|Qm<|Qc<|xig (g:=QJ) (i:=i) Yv h4.co.arr U U J λpp hO=>?_;refine Zf (c.co[i]'J) λq S=>?_;rw[S]at hO hN V;have hp:=h4.co.each q V;have hP:=h4.co.nm q V;refine x (Qr hO U U)<|QM [.string .empty,nS,sS 0,nS,nS] λb5 pu g0 g4 g5=>QK (QJ q) g5 ⟨U,hp.al.one,U,hp.mr.one,hp.ed.one,Z⟩ λY g6 hQ=>xe ?_;have hh:sX w4 Y:=g0.O g6 g4;have pw:=hh.size;have hR:=gl.I hh;have hS:=gy.I hh;have hge:=Qg hR.own;have hT:=Qg gl.own;have n3v:O∉ob voA:=λE=>ov (hge O E)
  have n5v:b5∉ob voA:=λE=>ov (hT b5 E)
  have hU:sX Y { Y with drawn:=Y.drawn+1 }:=O5.C _ _
  refine Zz (ob voA) (YW 0 12 [6,8,9,11])<|p (QG U)<|pq (λ_ I=>Qk (hS.J I n3v) U U)<|p (QG U)<|pq (λ_ I=>Qk (hQ.J I n5v) U U) <|
   p (QG rfl)<|pq (λ_ I=>Zh (us:=[q.p.va,sS q.p.a.st,q.p.vm,q.p.ve]) (hQ.J I n5v) U U U)<|pk<|xg<|(Qey ((hp.I hh).I hU)).Y ?_
  rintro _ pz ⟨g7,xa,xm,ha,rfl,hA⟩;have hr:=hU.D g7;have p0:=hr.size;have g8:=hA [] od;refine⟨hr.any,?_⟩;refine p (λ_=>Q5 [(0,[.string q.nm]),(1,[xa,sS q.p.a.st,xm,ha])] ⟨U,U,U,U,Z⟩)<|pk<|Za [QJ ⟨q.nm,⟨xa,xm,ha,q.p.a⟩⟩] λp4 g9 ht p5 ka=>⟨(hr.D ht).any,?_⟩;have hi:=hr.D ht;have hV:=hR.I hi;have kb:IvA [] ↑g9 ⟨q.nm,⟨xa,xm,ha,q.p.a⟩⟩:=⟨g8.I ht,hP⟩;refine pk<|Q2 (m:=1) (news:=QJ ⟨q.nm,⟨xa,xm,ha,q.p.a⟩⟩) (L:=[]) hV.own U U U (ka.at od) (Zb.all kb.ones) oa (ov hi.size) λv16 kc hW hv ke=>⟨(hi.any (L:=ob voA)).Q hv,?_⟩;have p6:({ Y with drawn:=Y.drawn+1 }:O1).heap.size=Y.heap.size:=rfl
  have kf:IvR ↑w3 kc v16 (lA++[⟨q.nm,⟨xa,xm,ha,q.p.a⟩⟩]):=hV.app (λL hL=>⟨(hA L (λb E=>by
   rcases hL b E with h|h
   ·omega
   have:=hge b h;omega)).I ht,hP⟩) hW hv ke
  refine p (QG U)<|pkk<|Qu (j:=1) (u:=v16) ((hS.I hi).J hv n3v) U U od (Qp hW) λp7 hX kg=>pe ?_;refine Qs<|QH U U<|Qa<|xe<|⟨(i+1,v16,lA++[⟨q.nm,⟨xa,xm,ha,q.p.a⟩⟩]),og,La,J,?_,kg,kf.low hX (λb E=>by rw[Lb.1 E];omega),?_⟩
  ·exact((hg.D (hh.D hi)).S hv (λb E=>.inr (ov (hT b E)))).Q hX
  simp only[];rw[hN,Lr,Lr,hF];rfl
 refine Qw ?_;have mj:c.co.length<=i:=by have hM:¬(i:Int)<(c.co.length:Int):=gm;omega
 rw[Lu mj]at hF;clear mh mj gm;have kh:=mg.st (hg.Y od);have p8:=hg.size;have p9:=k8.J hg (oA pn);have qc:=Qe T.x hg (λb E H=>m3x (Lb.1 H ▸ E));have qf:=Qe T.k hg (λb E H=>m3k (Lb.1 H ▸ E));have ql:=Qe T.e hg (λb E H=>(T.d1 b E).1 (Lb.1 H));have qm:=(k4.I gj).J hg (oA ma);refine Qd<|Qc<|Qo U p9 U U<|QF kh.rq.arr U<|Qa<|xe<|Q7 (α:=Nat×O2×List IV) [(7,7),(42,57)] (λz=>[(42,sS z.1)]) (λz w'=>z.1<=c.rq.length/\O5 [O] w4 w'/\QZ ↑w' O 45 [re,voA,z.2.1,rx,rk]/\IvR ↑w4 w' z.2.1 z.2.2/\z.2.2.map IV.it=(c.rq.take z.1).map IV.it) (λz=>c.rq.length - z.1) (0,nS,[]) La ⟨Lo _,O5.Z _ _,gy,Yh.nil,U⟩ ?_;rintro⟨i,voB,lB⟩ g w5 ⟨mo,hk,hY,hG,hH⟩;simp only[]at mo hY hG hH;refine Zo rfl U (λgn=>?_) (λgn=>?_)
 rotate_left
 ·have J:i<c.rq.length:=by have hM:(i:Int)<(c.rq.length:Int):=gn;omega
  have hN:c.rq.take (i+1)=c.rq.take i++[c.rq[i]'J]:=Ln J;have po:lB.length=i:=by have:=OV oQ hH;rw[Lh,Lh,LB]at this;omega
  have V:=Lm J;have h4:=kh.st (hk.Y od);have gz:=hk.size;refine Qf<|Qd<|Qm<|Qc<|xig (g:=QJ) (i:=i) Yv h4.rq.arr U U J λpp hO=>?_;refine Zf (c.rq[i]'J) λq S=>?_;rw[S]at hO hN V;have hp:=h4.rq.each q V;have hP:=h4.rq.nm q V;refine x (Qr hO U U)<|QM [.string .empty,nS,sS 0,nS,nS] λb5 pu g0 g4 g5=>QK (QJ q) g5 ⟨U,hp.al.one,U,hp.mr.one,hp.ed.one,Z⟩ λY g6 hQ=>xe ?_;have hh:sX w5 Y:=g0.O g6 g4;have pw:=hh.size;have hR:=hG.I hh;have hS:=hY.I hh;have hge:=Qg hR.own;have hT:=Qg hG.own;have n3v:O∉ob voB:=λE=>ov (hge O E)
  have n5v:b5∉ob voB:=λE=>ov (hT b5 E)
  have hU:sX Y { Y with drawn:=Y.drawn+1 }:=O5.C _ _
  refine Zz (ob voB) (YW 0 12 [6,8,9,11])<|p (QG U)<|pq (λ_ I=>Qk (hS.J I n3v) U U)<|p (QG U)<|pq (λ_ I=>Qk (hQ.J I n5v) U U) <|
   p (QG rfl)<|pq (λ_ I=>Zh (us:=[q.p.va,sS q.p.a.st,q.p.vm,q.p.ve]) (hQ.J I n5v) U U U)<|pk<|xg<|(Qey ((hp.I hh).I hU)).Y ?_
  rintro _ pz ⟨g7,xa,xm,ha,rfl,hA⟩;have hr:=hU.D g7;have p0:=hr.size;have g8:=hA [] od;refine⟨hr.any,?_⟩;refine p (λ_=>Q5 [(0,[.string q.nm]),(1,[xa,sS q.p.a.st,xm,ha])] ⟨U,U,U,U,Z⟩)<|pk<|Za [QJ ⟨q.nm,⟨xa,xm,ha,q.p.a⟩⟩] λp4 g9 ht p5 ka=>⟨(hr.D ht).any,?_⟩;have hi:=hr.D ht;have hV:=hR.I hi;have kb:IvA [] ↑g9 ⟨q.nm,⟨xa,xm,ha,q.p.a⟩⟩:=⟨g8.I ht,hP⟩;refine pk<|Q2 (m:=1) (news:=QJ ⟨q.nm,⟨xa,xm,ha,q.p.a⟩⟩) (L:=[]) hV.own U U U (ka.at od) (Zb.all kb.ones) oa (ov hi.size) λv16 kc hW hv ke=>⟨(hi.any (L:=ob voB)).Q hv,?_⟩;have p6:({ Y with drawn:=Y.drawn+1 }:O1).heap.size=Y.heap.size:=rfl
  have kf:IvR ↑w4 kc v16 (lB++[⟨q.nm,⟨xa,xm,ha,q.p.a⟩⟩]):=hV.app (λL hL=>⟨(hA L (λb E=>by
   rcases hL b E with h|h
   ·omega
   have:=hge b h;omega)).I ht,hP⟩) hW hv ke
  refine p (QG U)<|pkk<|Qu (j:=2) (u:=v16) ((hS.I hi).J hv n3v) U U od (Qp hW) λp7 hX kg=>pe ?_;refine Qs<|QH U U<|Qa<|xe<|⟨(i+1,v16,lB++[⟨q.nm,⟨xa,xm,ha,q.p.a⟩⟩]),og,La,J,?_,kg,kf.low hX (λb E=>by rw[Lb.1 E];omega),?_⟩
  ·exact((hk.D (hh.D hi)).S hv (λb E=>.inr (ov (hT b E)))).Q hX
  simp only[];rw[hN,Lr,Lr,hH];rfl
 refine Qw ?_;have mq:c.rq.length<=i:=by have hM:¬(i:Int)<(c.rq.length:Int):=gn;omega
 rw[Lu mq]at hH;clear mo mq gn;have ms:=kh.st (hk.Y od);have hzB:=hk.size;have hG:=Yh.base hG p8;have qo:=gl.low hk (λb E=>by rw[Lb.1 E];exact k9);have mt:=Qe qc hk (λb E H=>m3x (Lb.1 H ▸ E));have qr:=Qe qf hk (λb E H=>m3k (Lb.1 H ▸ E));have q0:=Qe ql hk (λb E H=>(T.d1 b E).1 (Lb.1 H));have q1:=qm.J hk (oA ma);refine Qd<|Qc<|Qo U hY U U<|QF (QB (L:=[]) mt (by exact m5) od) rfl<|Qa<|xe<|Q7 (α:=Nat×List XV) [(8,8),(61,76)] (λz=>[(61,sS z.1)]) (λz w'=>(z.1<=c.ex.length/\z.2.length=c.ex.length)/\O5 (ob rx) w5 w'/\w'.ownsRow ↑w2 105 2 rx z.2.length (z.2.flatMap Q3)/\z.2.map XV.x=c.ex.map XV.x/\(∀j (G:j<z.2.length),j<z.1->Fre XvA ↑w3 ↑w' (z.2[j]'G))/\∀j (G:j<z.2.length) (ho:j<c.ex.length),z.1<=j->z.2[j]'G=c.ex[j]'ho)
  (λz=>c.ex.length - z.1) (0,c.ex) La ⟨⟨Lo _,U⟩,O5.Z _ _,mt,U,λj G hl=>OW hl (Nk j),λj G ho _=>U⟩ ?_
 rintro⟨i,lx⟩ g w6 ⟨⟨q2,mu⟩,he,hJ,ki,kj,kk⟩;simp only[]at q2 mu hJ ki kj kk;refine Zo rfl U (λmv=>?_) (λmv=>?_)
 rotate_left
 ·have hw:i<c.ex.length:=by have hM:(i:Int)<(c.ex.length:Int):=mv;omega
  have J:i<lx.length:=oa
  have hge:=Qg hJ;have gz:=he.size;obtain⟨gx,capx,eg⟩:=Jb hJ oa;have kn:ob rx=[gx]:=by rw[eg];rfl
  have hZ:=hJ;rw[eg]at hZ;have ga:=hY.J he m3x;have hy:=kk i J hw (Lx _);have V:=Lm hw;have h9:=((ms.st (he.Y (λb E=>Lk _ (Lc.2 (.inl E))))).ex.each _ V).up (L':=[]) od;have q3:=QB (L:=[]) hJ oa od;refine Qf<|Qd<|Qm<|Qj<|Qb<|Zf (c.ex[i]'hw) λq S=>?_;rw[S]at hy V h9;have hd:sX w6 { w6 with drawn:=w6.drawn+1 }:=O5.C _ _
  refine Zz [] (YW 0 13 [9,12])<|p (QG U)<|pq (λ_ I=>Qk (ga.I I) U U)<|p Qv<|p (QG U)<|pq (λ_ I=>Qk (ga.I I) U U) <|
   p Qv<|Go.Lg.pig (g:=Q3) (i:=i) U Xx q3 U U J λq4 ko=>p (λ_=>Zd U)<|pq (λ_ I=>Qy ((ko.fld 1 q.v (by rw[hy];rfl)).I I) U) <|
   pk<|xg<|(QaM (h9.I hd)).Y ?_
  rintro rv w9 ⟨kq,hD⟩;have hz:sX w6 w9:=hd.D kq;refine⟨hz,?_⟩;refine p (λ_=>ZA (i:=i) eg U J)<|p (QG U)<|pkk<|QnV (k:=0+i*2+1) (u:=rv) (Ql hZ hz) U U (by have:(i+1)*2<=lx.length*2:=L3 _ J;omega) (Qp hD) λq5 h6 hE =>
   pe ?_
  rw[<-kn]at h6;rw[<-eg]at hE;have kr:=jb (g:=Q3) Xx lx i 1 rv ⟨q.nm,rv,q.ls⟩ J ol (by rw[hy];rfl);rw[show 0+i*2+1=i*2+1 by omega,kr]at hE;refine Qs<|QH U U<|Qa<|xe ?_;have gb:=gw;refine⟨(i+1,lx.set i ⟨q.nm,rv,q.ls⟩),og,La,⟨hw,by simp only[Ov];exact mu⟩,(he.D hz).Q h6,by simp only[Ov];exact hE,?_,λj G hl=>?_,λj G ho hl=>?_⟩
  ·simp only[];rw[yQ J (by rw[hy];rfl),ki]
  ·simp only[Ov]at G;simp only[]at hl ⊢;rw[M9];split
   ·refine Fre.low (w:=w9) ?_ h6 gb;intro L hL;exact⟨QB hD (ov h9.le) (λb E hbL=>by have h1:=(Qg hD b E).1;have h2:=hL b hbL;have h3:w3.heap.size<=w6.heap.size:=oa;have h4:({ w6 with drawn:=w6.drawn+1 }:O1).heap.size=w6.heap.size:=rfl;omega),h.ex.nm q V⟩
   rename_i q6;exact((kj j G oa).I hz).low h6 gb
  simp only[Ov]at G;simp only[]at hl ⊢;rw[List.getElem_set_ne oa];exact kk j G ho oa
 refine Qw ?_;have j1:=ms.st (he.Y (λb E=>Lk _ (Lc.2 (.inl E))));have hzC:=he.size;have j2:=qo.low he gw;have j3:=hG.low he gw;have mw:=Qe qr he (λb E H=>(T.d2 b H).2 E);have za:=Qe q0 he (λb E H=>(T.d1 b E).2.1 H);have kt:=hY.J he m3x;have m2x:b2∉ob rx:=λE=>ov (gu b2 E)
 have m2k:b2∉ob rk:=λE=>ov (gv b2 E)
 have zb:=q1.J he m2x;refine Qd<|Qc<|Qo U kt U U<|QF (QB (L:=[]) mw (by exact m6) od) rfl<|Qa<|xe<|Q7 (α:=Nat×List KV) [(9,9),(80,95)] (λz=>[(80,sS z.1)]) (λz w'=>(z.1<=c.cs.length/\z.2.length=c.cs.length)/\O5 (ob rk) w6 w'/\w'.ownsRow ↑w2 110 3 rk z.2.length (z.2.flatMap Q9)/\z.2.map KV.k=c.cs.map KV.k/\(∀j (G:j<z.2.length),j<z.1->Fre KvA ↑w3 ↑w' (z.2[j]'G))/\∀j (G:j<z.2.length) (ho:j<c.cs.length),z.1<=j->z.2[j]'G=c.cs[j]'ho)
  (λz=>c.cs.length - z.1) (0,c.cs) La ⟨⟨Lo _,U⟩,O5.Z _ _,mw,U,λj G hl=>OW hl (Nk j),λj G ho _=>U⟩ ?_
 rintro⟨i,lk⟩ g w7 ⟨⟨zv,my⟩,hf,h7,ku,go,kv⟩;simp only[]at zv my h7 ku go kv;refine Zo rfl U (λmz=>?_) (λmz=>?_)
 rotate_left
 ·have hw:i<c.cs.length:=by have hM:(i:Int)<(c.cs.length:Int):=mz;omega
  have J:i<lk.length:=oa
  have hge:=Qg h7;have gz:=hf.size;obtain⟨gx,capx,eg⟩:=Jb h7 oa;have kn:ob rk=[gx]:=by rw[eg];rfl
  have hZ:=h7;rw[eg]at hZ;have ga:=kt.J hf m3k;have hy:=kv i J hw (Lx _);have V:=Lm hw;have h9:=((j1.st (hf.Y (λb E=>Lk _ (Lc.2 (.inr E))))).cs.each _ V).up (L':=[]) od;have z1:=QB (L:=[]) h7 oa od;refine Qf<|Qd<|Qm<|Qj<|Qb<|Zf (c.cs[i]'hw) λq S=>?_;rw[S]at hy V h9;have hd:sX w7 { w7 with drawn:=w7.drawn+1 }:=O5.C _ _
  refine Zz [] (YW 0 13 [9,12])<|p (QG U)<|pq (λ_ I=>Qk (ga.I I) U U)<|p Qv<|p (QG U)<|pq (λ_ I=>Qk (ga.I I) U U) <|
   p Qv<|Go.Lg.pig (g:=Q9) (i:=i) U Xq z1 U U J λq4 ko=>p (λ_=>Zd U)<|pq (λ_ I=>Qy ((ko.fld 1 q.v (by rw[hy];rfl)).I I) U) <|
   pk<|xg<|(QaL (h9.I hd)).Y ?_
  rintro rv w9 ⟨kq,hD⟩;have hz:sX w7 w9:=hd.D kq;refine⟨hz,?_⟩;refine p (λ_=>ZA (i:=i) eg U J)<|p (QG U)<|pkk<|QnV (k:=0+i*3+1) (u:=rv) (Ql hZ hz) U U (by have:(i+1)*3<=lk.length*3:=L3 _ J;omega) (Qp hD) λq5 h6 hE =>
   pe ?_
  rw[<-kn]at h6;rw[<-eg]at hE;have kr:=jb (g:=Q9) Xq lk i 1 rv ⟨q.nm,rv,q.ts,q.bd⟩ J ol (by rw[hy];rfl);rw[show 0+i*3+1=i*3+1 by omega,kr]at hE;refine Qs<|QH U U<|Qa<|xe ?_;have gb:=gk;refine⟨(i+1,lk.set i ⟨q.nm,rv,q.ts,q.bd⟩),og,La,⟨hw,by simp only[Ov];exact my⟩,(hf.D hz).Q h6,by simp only[Ov];exact hE,?_,λj G hl=>?_,λj G ho hl=>?_⟩
  ·simp only[];rw[yQ J (by rw[hy];rfl),ku]
  ·simp only[Ov]at G;simp only[]at hl ⊢;rw[M9];split
   ·refine Fre.low (w:=w9) ?_ h6 gb;intro L hL;exact⟨QB hD (ov h9.le) (λb E hbL=>by have h1:=(Qg hD b E).1;have h2:=hL b hbL;have h3:w3.heap.size<=w7.heap.size:=oa;have h4:({ w7 with drawn:=w7.drawn+1 }:O1).heap.size=w7.heap.size:=rfl;omega),h.cs.nm q V⟩
   rename_i q6;exact((go j G oa).I hz).low h6 gb
  simp only[Ov]at G;simp only[]at hl ⊢;rw[List.getElem_set_ne oa];exact kv j G ho oa
 refine Qw ?_;have m2:=j2.low hf gk;have m3:=j3.low hf gk;have kw:=Qe hJ hf (λb E H=>(T.d2 b E).2 H);have kx:=Qe za hf (λb E H=>(T.d1 b E).2.2 H);have z2:=kt.J hf m3k;have z3:=zb.J hf m2k;have m4:∀j (G:j<lx.length),j<c.ex.length->Fre XvA ↑w3 ↑w7 (lx[j]'G):=λj G ho=>(kj j G oa).low hf gk;have z4:Zb [re,voA,voB,rx,rk]:=⟨Qp kx,Qp m2.own,Qp m3.own,Qp kw,Qp h7,Z⟩;refine Qc<|QT z2 U U<|QK [re,voA,voB,rx,rk] z3 z4 λw8 h8 z5=>xe ?_;have hs37:O5 (O::(ob rx++ob rk)) w3 w7:=(((hg.Y od).Q (hk.Y od)).Q (he.Y (λb E=>Lk _ (Lc.2 (.inl E))))).Q (hf.Y (λb E=>Lk _ (Lc.2 (.inr E))));have hs07:sX w w7:=gt.S hs37 (λb E=>.inr (mf b E).1);refine Qh ⟨[.agg #[re,voA,voB,rx,rk]],⟨Yl z5,Z⟩,hs07.O h8 oa,CL.mk re voA voB rx rk c.ev lA lB lx lk,U,?_,λL hL=>?_⟩
 ·unfold CL.V;simp only[];rw[hF,hH,ki,ku]
 have gp:∀b∈b2::L,b<w2.heap.size:=λb E=>by
  rcases Lj.1 E with rfl|E
  ·exact m9
  have:=hL b E;omega
 have hK:∀b∈b2::L,b<w3.heap.size:=λb E=>ov (gp b E)
 have lA1:lA.length=c.co.length:=by have:=OV oQ hF;rwa [Lh,Lh]at this
 have lB1:lB.length=c.rq.length:=by have:=OV oQ hH;rwa [Lh,Lh]at this
 have hC:ZI (b2::L) ↑w7 (CL.mk re voA voB rx rk c.ev lA lB lx lk):=by
  refine⟨⟨QB kx m7 (λb E H=>oy (Qg kx b E).1 (gp b H)),h.ev.nm⟩,IvR.itms m2 (show lA.length<=1099511627776 by omega) hK,IvR.itms m3 (show lB.length<=1099511627776 by omega) hK,⟨QB kw (show lx.length<=1099511627776 by omega) (λb E H=>oy (Qg kw b E).1 (gp b H)),λq S=>?_,λq S=>?_⟩,⟨QB h7 (show lk.length<=1099511627776 by omega) (λb E H=>oy (Qg h7 b E).1 (gp b H)),λq S=>?_,λq S=>?_⟩⟩
  ·obtain⟨j,G,rfl⟩:=LO S;exact(m4 j G (by have h5:j<lx.length:=G;omega) _ hK).l
  ·obtain⟨j,G,rfl⟩:=LO S;exact(m4 j G (by have h5:j<lx.length:=G;omega) _ hK).nm
  ·obtain⟨j,G,rfl⟩:=LO S;exact(go j G (by have h5:j<lk.length:=G;omega) _ hK).l
  obtain⟨j,G,rfl⟩:=LO S;exact(go j G (by have h5:j<lk.length:=G;omega) _ hK).nm
 exact(hC.st (h8.Y od)).up (λb E=>.inl (Lk _ E))
section
variable {κ:Type}[DecidableEq κ](ky:α->κ)(vl:α->O2)
def yR (l:List α)(m:List (κ×O2)):List (κ×O2):=l.foldl (λm p=>xd m (ky p) (vl p)) m
theorem Qas {k:κ}:∀(l:List α) (m:List (κ×O2)),(l.map ky).Nodup->(∀p∈l,O9 m (ky p)=none)->O9 (yR ky vl l m) k=match l.find? (λp=>decide (ky p=k))with
  | some p=>some (vl p)
  | none=>O9 m k
 | [],m,_,_=>rfl
 | p::l,m,I,J=>by
  obtain⟨H,O⟩:=ND.1 (show(ky p::l.map ky).Nodup from I);have ih:=Qas (k:=k) l (xd m (ky p) (vl p)) O λq G=>by
   rw[XJ,OT λe=>H (by rw[e];exact LP G)];exact J q (Lk _ G)
  have e0:yR ky vl (p::l) m=yR ky vl l (xd m (ky p) (vl p)):=rfl;rw[e0,ih,List.find?_cons];by_cases E:ky p=k
  ·have S:l.find? (λp=>decide (ky p=k))=none:=List.find?_eq_none.2 λq G=>by
    have:ky q≠k:=λe=>H (by rw[E,<-e];exact LP G);simpa using this
   rw[S,XJ,OU E];simp[E]
  rw[XJ,OT E];simp[E]
end
theorem Qiv {κ:Type}[DecidableEq κ]{l:List κ}{s:κ}(h:s∉l):xd (l.map λs=>(s,Value.bool true)) s (.bool true)=(l++[s]).map λs=>(s,Value.bool true):=by
 induction l with
 | nil=>rfl
 | cons a l ih =>
  have E:a≠s:=λe=>h (by subst e;exact Lq);show(if a=s then(a,Value.bool true)::(l.map λs=>(s,Value.bool true))else(a,Value.bool true)::xd (l.map λs=>(s,Value.bool true)) s (.bool true))=_
  rw[OT E,ih (λG=>h (Lk _ G))];rfl
theorem Qiw {κ:Type}[DecidableEq κ](l:List κ)(s:κ):O9 (l.map λs=>(s,Value.bool true)) s=if s∈l then some (.bool true)else none:=by
 induction l with
 | nil=>rfl
 | cons a l ih =>
  show(if a=s then some (Value.bool true)else O9 (l.map λs=>(s,Value.bool true)) s)=_
  rw[ih];by_cases h:a=s
  ·subst h;simp
  rw[OT h];have E:¬s=a:=λe=>h e.symm;simp[E]
section
variable {pS:String}{κ:Type}[DecidableEq κ]
theorem QgR [hm:Mp P t kt et (.bool false)]{enc:κ->O2}[hk:Key P kt enc]{x:O3}{l:List κ}{s:κ}(h:Yu enc ↑w b (l.map λs=>(s,Value.bool true)))(hx:ev f x=.map (some b))(E:ev f y=enc s):
  (execOp (ev f) ⟨d,.lookup t x y false,ty,pS,af,gd⟩).run P w=.ok (.value (.bool (decide (s∈l)))) w:=by
 rw[JM h hx E,Qiw];by_cases G:s∈l <;> simp[G]
end
section
variable {pS:String}{κ:Type}[DecidableEq κ]
theorem Ql8 [hm:Mp P t kt et z]{enc:κ->O2}[hk:Key P kt enc]{x:O3}{m:List (κ×O2)}{k:κ}(h:Yu enc ↑w b m)(hx:ev f x=.map (some b))(E:ev f y=enc k)
  {v:O2} (G:(match O9 m k with|some u=>Value.tuple #[u,.bool true]|none=>.tuple #[z,.bool false])=v):
  (execOp (ev f) ⟨d,.lookup t x y true,ty,pS,af,gd⟩).run P w=.ok (.value v) w:=by
 rw[<-G];exact Vy h hx E
end
instance keyKy:Key sV 87 kKy:=QoW underlying87 ol ol U U underlying3 underlying9
abbrev z15:LV:=[sS 0,.string .empty,sS 0,nS,sS 0,nS,nS,nS,nS,nS,nS,nS,nS,nS,nS]
abbrev ZU:LV:=[nS,nS,nS]
abbrev paV (q:V7):O2:=sT (Zp q)
theorem z8 {k:Int}:∀{l:LN}{i:Nat}{m:qu},m∈Ub k i l->m.kd=k/\(i:Int)<=m.ix/\m.ix<((i+l.length:Nat):Int)
 | [],_,_,h=>by simp[Ub]at h
 | b::l,i,m,h=>by
  rw[Ub]at h;rcases Lj.1 h with rfl|h
  ·exact⟨U,NQ _,by simp only[oX];omega⟩
  obtain⟨E,G,H⟩:=z8 h;exact⟨E,oa,by simp only[oX];omega⟩
theorem Qfq {m:qu}(h:m∈O8 c):0<=m.ix/\(m.kd=1\/m.kd=2\/m.kd=3)/\(m.kd=1->m.ix<(c.rq.length:Int))/\(m.kd=2->m.ix<(c.ex.length:Int))/\(m.kd=3->m.ix<(c.cs.length:Int)):=by
 have e1:(srR c).length=c.rq.length:=Lh _;have e2:(srX c).length=c.ex.length:=Lh _;have I:(srC c).length=c.cs.length:=Lh _;unfold O8 at h;rcases Lc.1 h with h|h
 ·obtain⟨E,G,H⟩:=z8 h;exact⟨oa,.inl E,λ_=>oa,λh=>oa,λh=>oa⟩
 rcases Lc.1 h with h|h
 ·obtain⟨E,G,H⟩:=z8 h;exact⟨oa,.inr (.inl E),λh=>oa,λ_=>oa,λh=>oa⟩
 obtain⟨E,G,H⟩:=z8 h;exact⟨oa,.inr (.inr E),λh=>oa,λh=>oa,λ_=>oa⟩
theorem QiY {ps:List V7}(G:(ps.map (·.e.ky)).Nodup)(H:∀q∈ps,Zb (Zp q))(k:Ky):∃(us:LV) (is:Bool),(match O9 (yR (λq:V7=>q.e.ky) paV ps []) k with|some u=>Value.tuple #[u,.bool true]|none=>.tuple #[sT z15,.bool false])=.tuple #[sT us,.bool is]/\us.length=15/\Zb us /\
  (is=true->∃q∈ps,us=Zp q/\K1 (ps.map (·.pt)) k=some q.pt)/\(is=false->K1 (ps.map (·.pt)) k=none):=by
 rw[Qas (λq:V7=>q.e.ky) paV ps [] G (λ_ _=>rfl)];have I:K1 (ps.map (·.pt)) k=(ps.find? λq=>decide (q.e.ky=k)).map (·.pt):=by
  unfold K1;rw[List.find?_map];rfl
 rw[I];cases J:ps.find? λq=>decide (q.e.ky=k)with
 | none=>exact⟨z15,false,U,U,⟨U,U,U,U,U,U,U,U,U,U,U,U,U,U,U,Z⟩,(λh=>by cases h),λ_=>rfl⟩
 | some q =>
  have E:=List.mem_of_find?_eq_some J;exact⟨Zp q,true,U,U,H q E,λ_=>⟨q,E,U,U⟩,(λh=>by cases h)⟩
theorem QaY {v:Int}{m:qu}{p:xI}(E:ya c m=0)(h:K1 bf (ZR c m)=some p):KP c bf v m=if p.c=Jv c m then(0,p,true)else(Y3 (Jv c m),Vj c v m,false):=by
 unfold KP;rw[OT (not_not_intro E),h]
theorem Qgf {v:Int}{m:qu}(E:ya c m=0)(h:K1 bf (ZR c m)=none):KP c bf v m=(Y3 (Jv c m),Vj c v m,false):=by
 unfold KP;rw[OT (not_not_intro E),h]
theorem Qgg {v:Int}{m:qu}(E:ya c m≠0):(KP c bf v m).1=ya c m:=by
 unfold KP;rw[OU E]
structure BlS where
 k:Nat
 vo:O2
 qs:List V7
 vk:O2
 K:List Ky
 vm:O2
 M:List Ky
structure BlI (LL:LN)(B:Nat)(w':O1)(b15 b50:Nat)(ks:List Ky)(z:BlS):Prop where
 b:∃T,QZ ↑w' b15 T [z.vk,z.vm,nS]
 n:Yu kKy ↑w' b50 (ks.map λs=>(s,Value.bool true))
 o:UJ Zp 15 150 V6 (ob z.vk++(ob z.vm++LL)) B w' z.vo z.qs
 k:w'.ownsRow B 87 2 z.vk z.K.length (z.K.flatMap Xp)
 m:w'.ownsRow B 87 2 z.vm z.M.length (z.M.flatMap Xp)
 d1:∀b∈ob z.vo,b∉ob z.vk/\b∉ob z.vm
 d2:∀b∈ob z.vk,b∉ob z.vm
section
variable {LL:LN}{w8 w9:O1}{b15 b50:Nat}{ks ks':List Ky}{z:BlS}
theorem BlI.I (h:BlI LL B w b15 b50 ks z)(E:sX w w8):BlI LL B w8 b15 b50 ks z:=by
 obtain⟨T,G⟩:=h.b;exact⟨⟨T,G.I E⟩,h.n.I E,h.o.I E,Ql h.k E,Ql h.m E,h.d1,h.d2⟩
theorem BlI.now (h:BlI LL B w b15 b50 ks z)(H:O5 [b50] w w8)(I:Yu kKy ↑w8 b50 (ks'.map λs=>(s,Value.bool true)))(J:b15≠b50)(V:b50<B)(O:b50∈LL):BlI LL B w8 b15 b50 ks' z:=by
 obtain⟨T,S⟩:=h.b;refine⟨⟨T,S.J H (oA J)⟩,I,h.o.J H λb E=>?_,Qe h.k H λb E G=>?_,Qe h.m H λb E G=>?_,h.d1,h.d2⟩
 ·rw[Lb.1 E];exact⟨.inl (Lc.2 (.inr (Lc.2 (.inr O)))),λG=>ov ((Qg h.o.own) _ G)⟩
 ·rw[Lb.1 G]at E;have:=(Qg h.k) _ E;omega
 rw[Lb.1 G]at E;have:=(Qg h.m) _ E;omega
theorem BlI.part (h:BlI LL B w b15 b50 ks z){I:O2}{q:V7}(S:V6 (ob z.vo++(ob z.vk++(ob z.vm++LL))) ↑w q)(V:w8.ownsRow B 150 15 I (z.qs.length+1) (z.qs.flatMap Zp++Zp q))(G:O5 (ob z.vo) w w8)
  (J:∀b∈ob I,b∈ob z.vo\/↑w<=b) (ha:b15<B) (hc:b50<B):BlI LL B w8 b15 b50 ks { z with vo:=I,qs:=z.qs++[q] }:=by
 obtain⟨T,Y⟩:=h.b;have ge:=Qg h.o.own;refine⟨⟨T,Y.J G (λE=>ov (ge _ E))⟩,h.n.J G (λE=>ov (ge _ E)),h.o.app S V G J,Qe h.k G (λb H E=>(h.d1 b E).1 H),Qe h.m G (λb H E=>(h.d1 b E).2 H),λb H=>?_,h.d2⟩;rcases J b H with O|O
 ·exact h.d1 b O
 exact⟨λE=>ov ((Qg h.k) b E),λE=>ov ((Qg h.m) b E)⟩
theorem BlI.kept (h:BlI LL B w b15 b50 ks z){H:O2}{k:Ky}(V:w8.ownsRow B 87 2 H (z.K.length+1) (z.K.flatMap Xp++Xp k))(S:O5 (ob z.vk) w w8)
  (Y:∀b∈ob H,b∈ob z.vk\/↑w<=b) (I:O5 [b15] w8 w9) (ha:∃T,QZ ↑w9 b15 T [H,z.vm,nS]) (hf:b15<B) (hg:b50<B) (hc:b15≠b50) (hL:b15∈LL):BlI LL B w9 b15 b50 ks { z with vk:=H,K:=z.K++[k] }:=by
 have ge:=Qg h.o.own;have gm:=Qg h.m;have hd:∀b∈ob H,b∉ob z.vo/\b∉ob z.vm:=λb E=>by
  rcases Y b E with J|J
  ·exact⟨λO=>(h.d1 b O).1 J,h.d2 b J⟩
  exact⟨λO=>ov (ge b O),λO=>ov (gm b O)⟩
 have he:w8.ownsRow B 87 2 H (z.K++[k]).length ((z.K++[k]).flatMap Xp):=by
  rw[Ll,LA];simpa using V
 refine⟨ha,(h.n.J S (λG=>ov ((Qg h.k) _ G))).J I (by simpa using λe=>hc e.symm),⟨?_,λq hq=>?_⟩,Qe he I (λb E G=>?_),Qe (Qe h.m S (λb E G=>h.d2 b G E)) I (λb E G=>?_),λb E=>⟨λG=>(hd b G).1 E,(h.d1 b E).2⟩,λb E=>(hd b E).2⟩
 ·exact Qe (Qe h.o.own S (λb E G=>(h.d1 b E).1 G)) I (λb E G=>by rw[Lb.1 G]at E;have:=ge _ E;omega)
 ·have J:V6 (ob H++(ob z.vo++(ob z.vk++(ob z.vm++LL)))) ↑w q:=Mm.up (h.o.each q hq) λb E=>by
   rcases Lc.1 E with E|E
   ·exact(Y b E).imp (λh3=>Lc.2 (.inr (Lc.2 (.inl h3)))) id
   exact .inl E
  refine Mm.Y (Mm.st (Mm.st J (S.Y λb E=>Lc.2 (.inr (Lc.2 (.inr (Lc.2 (.inl E))))))) (I.Y λb E=>by rw[Lb.1 E];exact Lc.2 (.inr (Lc.2 (.inr (Lc.2 (.inr (Lc.2 (.inr hL))))))))) λb E=>?_;rcases Lc.1 E with E|E
  ·exact Lc.2 (.inr (Lc.2 (.inl E)))
  rcases Lc.1 E with E|E
  ·exact Lc.2 (.inl E)
  exact Lc.2 (.inr (Lc.2 (.inr (Lc.2 (.inr E)))))
 ·rw[Lb.1 G]at E;have:=(Qg V) _ E;omega
 rw[Lb.1 G]at E;have:=gm _ E;omega
theorem BlI.mades (h:BlI LL B w b15 b50 ks z){H:O2}{k:Ky}(V:w8.ownsRow B 87 2 H (z.M.length+1) (z.M.flatMap Xp++Xp k))(S:O5 (ob z.vm) w w8)
  (Y:∀b∈ob H,b∈ob z.vm\/↑w<=b) (J:O5 [b15] w8 w9) (ha:∃T,QZ ↑w9 b15 T [z.vk,H,nS]) (hf:b15<B) (hg:b50<B) (hc:b15≠b50) (hL:b15∈LL):BlI LL B w9 b15 b50 ks { z with vm:=H,M:=z.M++[k] }:=by
 have ge:=Qg h.o.own;have gk:=Qg h.k;have hd:∀b∈ob H,b∉ob z.vo/\b∉ob z.vk:=λb E=>by
  rcases Y b E with O|O
  ·exact⟨λI=>(h.d1 b I).2 O,λI=>h.d2 b I O⟩
  exact⟨λI=>ov (ge b I),λI=>ov (gk b I)⟩
 have he:w8.ownsRow B 87 2 H (z.M++[k]).length ((z.M++[k]).flatMap Xp):=by
  rw[Ll,LA];simpa using V
 refine⟨ha,(h.n.J S (λG=>ov ((Qg h.m) _ G))).J J (by simpa using λe=>hc e.symm),⟨?_,λq hq=>?_⟩,Qe (Qe h.k S (λb E G=>h.d2 b E G)) J (λb E G=>?_),Qe he J (λb E G=>?_),λb E=>⟨(h.d1 b E).1,λG=>(hd b G).1 E⟩,λb E G=>(hd b G).2 E⟩
 ·exact Qe (Qe h.o.own S (λb E G=>(h.d1 b E).2 G)) J (λb E G=>by rw[Lb.1 G]at E;have:=ge _ E;omega)
 ·have O:V6 (ob H++(ob z.vo++(ob z.vk++(ob z.vm++LL)))) ↑w q:=Mm.up (h.o.each q hq) λb E=>by
   rcases Lc.1 E with E|E
   ·exact(Y b E).imp (λh3=>Lc.2 (.inr (Lc.2 (.inr (Lc.2 (.inl h3)))))) id
   exact .inl E
  refine Mm.Y (Mm.st (Mm.st O (S.Y λb E=>Lc.2 (.inr (Lc.2 (.inr (Lc.2 (.inr (Lc.2 (.inl E))))))))) (J.Y λb E=>by rw[Lb.1 E];exact Lc.2 (.inr (Lc.2 (.inr (Lc.2 (.inr (Lc.2 (.inr hL))))))))) λb E=>?_;rcases Lc.1 E with E|E
  ·exact Lc.2 (.inr (Lc.2 (.inl E)))
  rcases Lc.1 E with E|E
  ·exact Lc.2 (.inr (Lc.2 (.inr (Lc.2 (.inl E)))))
  rcases Lc.1 E with E|E
  ·exact Lc.2 (.inl E)
  exact Lc.2 (.inr (Lc.2 (.inr (Lc.2 (.inr (Lc.2 (.inr E)))))))
 ·rw[Lb.1 G]at E;have:=gk _ E;omega
 rw[Lb.1 G]at E;have:=(Qg V) _ E;omega
end
theorem QgT (h0:Jl L ↑w q):
  QY sV 131 [sT (Qt q)] w λr w'=>r=.bool (Qcz q.it)/\sX w w':=by
 have h:=h0.up (L':=[]) od;have hm:=h.a.al.le;have hn:=h.a.mr.le;have ho:=h.a.ed.le;have hp:=h.ls.arr.le;have hq:=h.ts.arr.le;have S:QaZ q.p.a=(decide (q.p.a.st=0) && decide ((q.p.a.al.length:Int)+(q.p.a.mr.length:Int)+(q.p.a.ed.length:Int)=0)):=rfl;have E:Qcz q.it=if q.kd=3 then QaZ q.p.a && decide ((q.ts.length:Int)=0) && decide (q.bd=0)else if q.kd=4 then QaZ q.p.a && decide ((q.ls.length:Int)=0)else decide ((q.ls.length:Int)+(q.ts.length:Int)=0) && decide (q.bd=0):=rfl
 refine Zf (QaZ q.p.a) λB hB=>?_;rw[hB]at S E;refine Zq func131 ?_;refine Qc<|Zl (Qt q) λb1 w1 hh hr hf=>Qb<|Qc<|QQ U<|x (Zh (us:=[q.p.va,sS q.p.a.st,q.p.vm,q.p.ve]) hf U U U)<|QM K5 λb3 w2 hi hj hk=>QK [q.p.va,sS q.p.a.st,q.p.vm,q.p.ve] hk ⟨h.a.al.one,U,h.a.mr.one,h.a.ed.one,Z⟩ λw3 hl I=>xe ?_;have hg:sX w1 w3:=hi.O hl hj;have J:=hh.D hg;have G:=hf.I hg;have H:=h.I J;refine QX (α:=Unit) [(4,4),(7,23)] (λ_=>[(4,.bool B)]) (λ_ w'=>w'=w3) om ?_ ?_
 ·refine Qs<|Qo U I U U<|xb (QR U U) (λT=>?_) (λT=>?_)
  ·refine Qa<|Qo U I U U<|QF H.a.al U<|Qo U I U U<|x (Yo H.a.mr U) <|
    QH rfl rfl<|Qo U I U U<|QF H.a.ed U<|x (XX U U ⟨oa,oa⟩) <|
    x (QR rfl U)<|QC U<|Qb<|⟨(),⟨OV Value.bool (by rw[S,OX (show q.p.a.st=0 from T),OO]),Z⟩,rfl⟩
  refine Qa<|Zt<|Zt<|Zt<|Zt<|QC U<|Qb<|⟨(),⟨OV Value.bool (by rw[S,OZ (show ¬q.p.a.st=0 from T),Bool.false_and]),Z⟩,rfl⟩
 rintro _ g V rfl;refine Qd<|Qc<|Qo U G U U<|xe<|Qm<|Qc<|x (QR U U)<|Qb<|QO U (λY=>?_) (λY=>?_)
 ·rw[OU Y]at E;refine QX (α:=Unit) [(2,2),(28,39)] (λ_=>[(2,.bool (Qcz q.it))]) (λ_ w'=>w'=V) om ?_ ?_
  ·refine Qs<|xB Ks (λO=>?_) (λO=>?_)
   ·refine Qa<|Qo U G U U<|QF H.ts.arr U<|xb (QR U U) (λha=>?_) (λha=>?_)
    ·refine QC U<|Qa<|Qo U G U U<|x (QR U U)<|QC U<|Qb<|⟨(),⟨OV Value.bool (by rw[E,O,OX (show(q.ts.length:Int)=0 from ha)];rfl),Z⟩,U⟩
    refine QC U<|Qa<|Zt<|QC U<|Qb<|⟨(),⟨OV Value.bool (by rw[E,O,OZ (show ¬(q.ts.length:Int)=0 from ha)];rfl),Z⟩,U⟩
   refine Qa<|Zt<|KB<|QC U<|Qa<|Zt<|QC U<|Qb<|⟨(),⟨OV Value.bool (by rw[E,O];rfl),Z⟩,U⟩
  rintro _ g w5 rfl;exact Qh ⟨[_],La,U,J⟩
 rw[OT Y]at E;refine Qc<|x (QR U U)<|Qb<|QO U (λhb=>?_) (λhb=>?_)
 ·rw[OU hb]at E;refine QX (α:=Unit) [(2,2),(42,48)] (λ_=>[(2,.bool (Qcz q.it))]) (λ_ w'=>w'=V) om ?_ ?_
  ·refine Qs<|xB Ks (λhc=>?_) (λhc=>?_)
   ·refine Qa<|Qo U G U U<|QF H.ls.arr U<|x (QR U U)<|QC U<|Qb<|⟨(),⟨OV Value.bool (by rw[E,hc,OO]),Z⟩,rfl⟩
   refine Qa<|Zt<|KB<|QC U<|Qb<|⟨(),⟨OV Value.bool (by rw[E,hc];rfl),Z⟩,U⟩
  rintro _ g w5 rfl;exact Qh ⟨[_],La,U,J⟩
 rw[OT hb]at E;refine Qf<|QX (α:=Unit) [(2,2),(49,61)] (λ_=>[(2,.bool (Qcz q.it))]) (λ_ w'=>w'=V) om ?_ ?_
 ·refine Qs<|Qo U G U U<|QF H.ls.arr U<|Qo U G U U<|QF H.ts.arr U<|QH U U<|xb (QR U U) (λhe=>?_) (λhe=>?_)
  ·refine Qa<|Qo U G U U<|x (QR U U)<|QC U<|Qb<|⟨(),⟨OV Value.bool (by rw[E,OX (show(q.ls.length:Int)+(q.ts.length:Int)=0 from he),OO]),Z⟩,rfl⟩
  refine Qa<|Zt<|QC U<|Qb<|⟨(),⟨OV Value.bool (by rw[E,OZ (show ¬(q.ls.length:Int)+(q.ts.length:Int)=0 from he),Bool.false_and]),Z⟩,rfl⟩
 rintro _ g w5 rfl;exact Qh ⟨[_],La,U,J⟩
theorem Qfm {v:O2}(h:X4 L ↑w v qs)(i:Int):
  QY sV 128 [v,sS i] w λr w'=>(match jJ (qs.map (·.it)) i with
   | none=>r=.tuple #[.string .empty,oG oH 2]
   | some n=>r=.tuple #[.string n,oG oH 0]/\JF n)/\sX w w':=by
 have E:jJ (qs.map (·.it)) i=if i<0\/(qs.length:Int)<=i then none else some ((qs.map IV.it).getD i.toNat ⟨.empty,Vq⟩).nm:=by unfold jJ;rw[Lh]
 refine Zq func128 ?_;refine Qc<|x Qi<|Qb<|Qd<|QX (α:=Bool) [(6,13)] (λz=>[(13,.bool z)]) (λz w'=>w'=w/\(z=true↔(i<0\/(qs.length:Int)<=i))) om ?_ ?_
 ·refine Qs<|Qa<|xb (YX U U) (λI=>?_) (λI=>?_)
  ·refine Qa<|Zt<|KB<|QC U<|xe ?_;exact⟨true,La,U,⟨λ_=>.inl I,λ_=>U⟩⟩
  refine Qa<|Qa<|Qa<|QF h.arr U<|x (YC U U)<|QC U<|xe ?_;exact⟨_,La,U,⟨λe=>.inr (OY e),λe=>OX (e.resolve_left I)⟩⟩
 rintro z g w1 ⟨rfl,J⟩;refine QU rfl (λH=>?_) (λH=>?_)
 ·rw[OU (J.1 H)]at E;refine Qc<|x Qi<|Qb<|Qh ⟨[_,_],oB,by rw[E];rfl,O5.Z _ _⟩
 have V:¬(i<0\/(qs.length:Int)<=i):=λe=>by rw[J.2 e]at H;cases H
 rw[OT V]at E;refine Qf<|exN (a:=i) oa λj O=>?_;have G:j<qs.length:=oa
 have Y:((qs.map IV.it).getD i.toNat ⟨.empty,Vq⟩).nm=(qs[j]'G).nm:=by
  rw[O];simp[oR,G,IV.it]
 have S:=Lm G;rw[Y]at E;refine Qj<|Qa<|xig (g:=QJ) (i:=j) Yv h.arr U (show Go.Lg.ev _ _=_ from OV sS O) G λha T=>?_;refine Zf (qs[j]'G) λq hq=>?_;rw[hq]at T E S;refine x (Zd U)<|x (Qy (T.fld 0 (.string q.nm) U) U)<|x Qi<|Qb<|Qh ⟨[_,_],oB,by rw[E];exact⟨U,h.nm q S⟩,O5.Z _ _⟩
theorem Qde (co:List XD)(y:Int×Int)(l:xw):Um co (y::l)=match jJ co y.1 with
  | none=>none
  | some n=>(Um co l).map ((n,y.2)::·):=rfl
theorem Qdd {y:Int×Int}{l:xw}{o:List (ByteArray×Int)}{X:Option (List (ByteArray×Int))}(h:X=(Um co (y::l)).map (o++·))(E:jJ co y.1=none):X=none:=by
 rw[h,Qde,E];rfl
theorem Qdc {y:Int×Int}{l:xw}{o:List (ByteArray×Int)}{X:Option (List (ByteArray×Int))}(h:X=(Um co (y::l)).map (o++·)){n:ByteArray}(E:jJ co y.1=some n):X=(Um co l).map ((o++[(n,y.2)])++·):=by
 rw[h,Qde,E];simp only[Option.map_map];congr 1;funext z;simp
abbrev Zm:O2:=nS
theorem Qmf (o:Option α):o=none\/∃n,o=some n:=by cases o with
 | none=>exact .inl U
 | some n=>exact .inr ⟨n,U⟩
instance:Bw sV 70 z9 [(0,1),(1,1),(2,4),(6,1),(7,1),(8,1)]:={}
theorem Qj3 {v:O2}{q:XV}(h0:X4 L ↑w v qs)(hI:jT L ↑w q.v q.ls)(hJ:JF q.nm)(gu:q.ls.length<=100000):
  QY sV 70 [v,sT (Q3 q)] w λr w'=>sX w w'/\(match Um (qs.map (·.it)) q.ls with
   | none=>r=.tuple #[.agg z9.toArray,oG oH 2]
   | some l=>∃d:DV,r=.tuple #[.agg (Qt d).toArray,oG oH 0]/\d.it=⟨3,q.nm,Vq,l,[],0⟩/\∀L:LN,(∀b∈L,b<↑w)->Jl L ↑w' d):=by
 have hl:=hI.up (L':=[]) od;refine Zf (Um (qs.map (·.it)) q.ls) λR hR=>?_;rw[hR];have hK:R=(Um (qs.map (·.it)) q.ls).map (([]:List (ByteArray×Int))++·):=by rw[hR];cases R <;> rfl
 refine Zq func70 ?_;refine Qc<|Zl (Q3 q) λb3 w1 hr gv hM=>QM z9 λb4 w2 hs gw ht=>Qb ?_;have hN:=hr.D hs;have hu:=hM.I hs;refine Qc<|Qo U hu U U<|x (Q5 [(0,[sS 3]),(1,[.string q.nm])] ⟨U,U,U,U,Z⟩)<|QM z9 λJ w3 hO hP hQ=>QK [sS 3,.string q.nm,Zm,sS 0,Zm,Zm,Zm,Zm,sS 0] hQ ⟨U,U,U,U,U,U,U,U,U,Z⟩ λO hS hv=>xe ?_;have hg:sX w2 O:=hO.O hS hP;have hw:=hN.D hg;have gx:=hr.size;have gy:=ht.lt;have gz:=hv.lt;have hT:=hu.I hg;have hU:=ht.I hg;refine Qd<|Qc<|Qo U hT U U<|QF (hl.I hw) U<|Qa<|xe<|Q7 (α:=Nat×O2×List (ByteArray×Int)) [(5,5),(8,10),(17,41)] (λz=>[(17,sS z.1)]) (λz w'=>z.1<=q.ls.length/\O5 [J] O w'/\QZ ↑w' J 70 [sS 3,.string q.nm,Zm,sS 0,Zm,Zm,z.2.1,Zm,sS 0]/\w'.ownsRow ↑O 145 2 z.2.1 z.2.2.length (z.2.2.flatMap ZN)/\z.2.2.length=z.1/\(∀p∈z.2.2,JF p.1)/\R=(Um (qs.map (·.it)) (q.ls.drop z.1)).map (z.2.2++·)) (λz=>q.ls.length - z.1) (0,Zm,[]) La
  ⟨Lo _,O5.Z _ _,hv,QE _ _ _ _,U,od,hK⟩ ?_
 rintro⟨k,vl,l⟩ g w5 ⟨hk,V,hh,G,hz,hi,hE⟩;simp only[]at hk hh G hz hi hE;have Y:sX w w5:=hw.O V oa;have g0:=V.size;have h3:=hU.J V oh;have h5:=(h0.up (L':=[]) od).I Y;have hV:=hl.I Y;refine Zo rfl U (λhj=>?_) (λhj=>?_)
 ·refine Qw ?_;have hW:q.ls.length<=k:=by have hX:¬(k:Int)<(q.ls.length:Int):=hj;omega
  rw[Lt hW]at hE;have hY:R=some l:=by rw[hE];simp[Um]
  refine Qc<|QT hh U U<|QK [sS 3,.string q.nm,Zm,sS 0,Zm,Zm,vl,Zm,sS 0] h3 ⟨U,U,U,U,U,U,Qp G,U,U,Z⟩ λw6 h4 hZ=>Qb<|Qh ⟨[sT (Qt ⟨3,q.nm,⟨Zm,Zm,Zm,Vq⟩,vl,l,Zm,[],0⟩),sS 0],⟨Yl hZ,U,Z⟩,Y.O h4 oa,?_⟩;rw[hY];refine⟨⟨3,q.nm,⟨Zm,Zm,Zm,Vq⟩,vl,l,Zm,[],0⟩,U,U,λL hL=>?_⟩;have ga:Zn (b4::L) ↑w5 vl l.length 2 (l.flatMap ZN):=QB G oa (λb E hbL=>by
   have:=(Qg G b E).1;simp only[oL]at hbL;rcases hbL with rfl|hbL
   ·omega
   have:=hL b hbL;omega)
  have gb:V4 L ↑w6 vl l:=⟨(ga.st (h4.Y od)).up (λb E=>.inl (by simp[E])),hi⟩;exact⟨hJ,⟨Zn.nil _ _ _,Zn.nil _ _ _,Zn.nil _ _ _⟩,gb,V4.nil⟩
 have S:k<q.ls.length:=by have hX:(k:Int)<(q.ls.length:Int):=hj;omega
 have h6:q.ls.drop k=q.ls[k]'S::q.ls.drop (k+1):=LF S;refine Qf<|Qd<|Qm<|Qc<|xig (g:=QD) (i:=k) YK hV U U S λg2 h7=>?_;refine Zf (q.ls[k]'S) λy hy=>?_;rw[hy]at h7 h6;rw[h6]at hE;refine x (Qr h7 U U)<|QM [sS 0,sS 0] λb8 w7 gc gg gh=>QK (QD y) gh oB λw8 gi h8=>xe ?_;have h9:sX w5 w8:=gc.O gi gg;refine Qj<|Qo U h8 U U<|Qz<|(Qfm (h5.I h9) y.1).Y ?_;rintro r9 w9 ⟨ha,hA⟩;have he:=h9.D hA;refine Or.elim (Qmf (jJ (qs.map (·.it)) y.1)) (λH=>?_) (λH=>?_)
 ·have gj:=Qdd hE H;rw[H]at ha;have hf:r9=.tuple #[.string .empty,sS 2]:=ha;subst hf;refine Qa<|QW U U<|QW U U<|x Qi<|Qb<|Qd<|Qj<|Zx U U<|xe<|QO U (λT=>?_) (λT=>OW (show(2:Int)≠0 by decide) T);refine Qc<|x (Q5 [] Z)<|Qa<|QK z9 (h3.I he) ⟨U,U,U,U,U,U,U,U,U,Z⟩ λg3 gk gl=>Qb<|Qh ⟨[sT z9,sS 2],⟨Yl gl,U,Z⟩,(Y.D he).O gk oa,?_⟩;rw[gj];rfl
 refine Exists.elim H λn H=>?_;rw[H]at ha;have hf:r9=.tuple #[.string n,sS 0]/\JF n:=ha;have gm:=hf.1;subst gm;refine Qa<|QW U U<|QW U U<|x Qi<|Qb<|Qd<|Qj<|Zx U U<|xe<|QO rfl (λT=>OW U T) (λT=>?_);refine Qf ?_;have hB:=hh.I he;refine Qs<|Qo U hB U U<|Qa<|Qo U (h8.I hA) U U<|x (Qx ⟨U,U,Z⟩)<|Qn<|Za [ZN (n,y.2)] λg4 g5 hC g6 gn=>?_;have ho:=he.D hC;have g7:=ho.size;refine Qn<|Q2 (m:=1) (news:=ZN (n,y.2)) (Ql G ho) U U U (by have:=gn.at (L:=[]) od;simpa using this) oq oa oa λhq go hD hF gp=>?_;have hG:J∉ob vl:=λhm=>ov (Qg G J hm).1
 refine QQ rfl<|Qn<|Qu (j:=6) (u:=hq) ((hB.I hC).J hF hG) U U od (Qp hD) λgq hH gr=>xe ?_;have gs:O5 [J] O go:=(V.S ho od).S hF λb E=>.inr (Qg G b E).1;have gt:gq.ownsRow ↑O 145 2 hq (l++[(n,y.2)]).length ((l++[(n,y.2)]).flatMap ZN):=by
  have h1:=Qe hD hH (λb E hc=>by
   simp only[oJ]at hc;subst hc;rcases gp b E with h2|h2
   ·exact hG h2
   omega)
  rw[Ll,LA];simpa using h1
 refine Qs<|QH U U<|Qa<|xe<|⟨(k+1,hq,l++[(n,y.2)]),by show q.ls.length - (k+1)<q.ls.length - k;omega,La,S,gs.S hH (λb E=>.inl E),gr,gt,by simp[hz],λp I=>?_,(Qdc hE H)⟩;rcases Lc.1 I with I|I
 ·exact hi p I
 simp only[oJ]at I;subst I;exact hf.2
theorem Qks {v:O2}{q:KV}(h0:X4 L ↑w v qs)(hI:jT L ↑w q.v q.ts)(hJ:JF q.nm)(gu:q.ts.length<=100000):
  QY sV 71 [v,sT (Q9 q)] w λr w'=>sX w w'/\(match Um (qs.map (·.it)) q.ts with
   | none=>r=.tuple #[.agg z9.toArray,oG oH 2]
   | some l=>∃d:DV,r=.tuple #[.agg (Qt d).toArray,oG oH 0]/\d.it=⟨4,q.nm,Vq,[],l,q.bd⟩/\∀L:LN,(∀b∈L,b<↑w)->Jl L ↑w' d):=by
 have hl:=hI.up (L':=[]) od;refine Zf (Um (qs.map (·.it)) q.ts) λR hR=>?_;rw[hR];have hK:R=(Um (qs.map (·.it)) q.ts).map (([]:List (ByteArray×Int))++·):=by rw[hR];cases R <;> rfl
 refine Zq func71 ?_;refine Qc<|Zl (Q9 q) λb3 w1 hs gv hM=>QM z9 λb4 w2 ht gw hu=>Qb ?_;have hN:=hs.D ht;have hg:=hM.I ht;refine Qc<|Qo U hg U U<|Qo U hg U U<|x (Q5 [(0,[sS 4]),(1,[.string q.nm]),(5,[sS q.bd])] ⟨U,U,U,U,U,U,Z⟩)<|QM z9 λJ w3 hO hP hQ=>QK [sS 4,.string q.nm,Zm,sS 0,Zm,Zm,Zm,Zm,sS q.bd] hQ ⟨U,U,U,U,U,U,U,U,U,Z⟩ λO hS hv=>xe ?_;have hh:sX w2 O:=hO.O hS hP;have hw:=hN.D hh;have gx:=hs.size;have gy:=hu.lt;have gz:=hv.lt;have hT:=hg.I hh;have hU:=hu.I hh;refine Qd<|Qc<|Qo U hT U U<|QF (hl.I hw) U<|Qa<|xe<|Q7 (α:=Nat×O2×List (ByteArray×Int)) [(5,5),(8,10),(19,43)] (λz=>[(19,sS z.1)]) (λz w'=>z.1<=q.ts.length/\O5 [J] O w'/\QZ ↑w' J 70 [sS 4,.string q.nm,Zm,sS 0,Zm,Zm,Zm,z.2.1,sS q.bd]/\w'.ownsRow ↑O 147 2 z.2.1 z.2.2.length (z.2.2.flatMap ZN)/\z.2.2.length=z.1/\(∀p∈z.2.2,JF p.1)/\R=(Um (qs.map (·.it)) (q.ts.drop z.1)).map (z.2.2++·)) (λz=>q.ts.length - z.1) (0,Zm,[]) La
  ⟨Lo _,O5.Z _ _,hv,QE _ _ _ _,U,od,hK⟩ ?_
 rintro⟨k,vl,l⟩ g w5 ⟨hk,V,hi,G,hz,hj,hE⟩;simp only[]at hk hi G hz hj hE;have Y:sX w w5:=hw.O V oa;have g0:=V.size;have h3:=hU.J V oh;have h5:=(h0.up (L':=[]) od).I Y;have hV:=hl.I Y;refine Zo rfl U (λho=>?_) (λho=>?_)
 ·refine Qw ?_;have hW:q.ts.length<=k:=by have hX:¬(k:Int)<(q.ts.length:Int):=ho;omega
  rw[Lt hW]at hE;have hY:R=some l:=by rw[hE];simp[Um]
  refine Qc<|QT hi U U<|QK [sS 4,.string q.nm,Zm,sS 0,Zm,Zm,Zm,vl,sS q.bd] h3 ⟨U,U,U,U,U,U,U,Qp G,U,Z⟩ λw6 h4 hZ=>Qb<|Qh ⟨[sT (Qt ⟨4,q.nm,⟨Zm,Zm,Zm,Vq⟩,Zm,[],vl,l,q.bd⟩),sS 0],⟨Yl hZ,U,Z⟩,Y.O h4 oa,?_⟩;rw[hY];refine⟨⟨4,q.nm,⟨Zm,Zm,Zm,Vq⟩,Zm,[],vl,l,q.bd⟩,U,U,λL hL=>?_⟩;have ga:Zn (b4::L) ↑w5 vl l.length 2 (l.flatMap ZN):=QB G oa (λb E hbL=>by
   have:=(Qg G b E).1;simp only[oL]at hbL;rcases hbL with rfl|hbL
   ·omega
   have:=hL b hbL;omega)
  have gb:V4 L ↑w6 vl l:=⟨(ga.st (h4.Y od)).up (λb E=>.inl (by simp[E])),hj⟩;exact⟨hJ,⟨Zn.nil _ _ _,Zn.nil _ _ _,Zn.nil _ _ _⟩,V4.nil,gb⟩
 have S:k<q.ts.length:=by have hX:(k:Int)<(q.ts.length:Int):=ho;omega
 have h6:q.ts.drop k=q.ts[k]'S::q.ts.drop (k+1):=LF S;refine Qf<|Qd<|Qm<|Qc<|xig (g:=QD) (i:=k) YK hV U U S λg2 h7=>?_;refine Zf (q.ts[k]'S) λy hy=>?_;rw[hy]at h7 h6;rw[h6]at hE;refine x (Qr h7 U U)<|QM [sS 0,sS 0] λb8 w7 gc gg gh=>QK (QD y) gh oB λw8 gi h8=>xe ?_;have h9:sX w5 w8:=gc.O gi gg;refine Qj<|Qo U h8 U U<|Qz<|(Qfm (h5.I h9) y.1).Y ?_;rintro r9 w9 ⟨ha,hA⟩;have he:=h9.D hA;refine Or.elim (Qmf (jJ (qs.map (·.it)) y.1)) (λH=>?_) (λH=>?_)
 ·have gj:=Qdd hE H;rw[H]at ha;have hf:r9=.tuple #[.string .empty,sS 2]:=ha;subst hf;refine Qa<|QW U U<|QW U U<|x Qi<|Qb<|Qd<|Qj<|Zx U U<|xe<|QO U (λT=>?_) (λT=>OW (show(2:Int)≠0 by decide) T);refine Qc<|x (Q5 [] Z)<|Qa<|QK z9 (h3.I he) ⟨U,U,U,U,U,U,U,U,U,Z⟩ λg3 gk gl=>Qb<|Qh ⟨[sT z9,sS 2],⟨Yl gl,U,Z⟩,(Y.D he).O gk oa,?_⟩;rw[gj];rfl
 refine Exists.elim H λn H=>?_;rw[H]at ha;have hf:r9=.tuple #[.string n,sS 0]/\JF n:=ha;have gm:=hf.1;subst gm;refine Qa<|QW U U<|QW U U<|x Qi<|Qb<|Qd<|Qj<|Zx U U<|xe<|QO rfl (λT=>OW U T) (λT=>?_);refine Qf ?_;have hB:=hi.I he;refine Qs<|Qo U hB U U<|Qa<|Qo U (h8.I hA) U U<|x (Qx ⟨U,U,Z⟩)<|Qn<|Za [ZN (n,y.2)] λg4 g5 hC g6 gn=>?_;have hq:=he.D hC;have g7:=hq.size;refine Qn<|Q2 (m:=1) (news:=ZN (n,y.2)) (Ql G hq) U U U (by have:=gn.at (L:=[]) od;simpa using this) oq oa oa λhr go hD hF gp=>?_;have hG:J∉ob vl:=λhm=>ov (Qg G J hm).1
 refine QQ rfl<|Qn<|Qu (j:=7) (u:=hr) ((hB.I hC).J hF hG) U U od (Qp hD) λgq hH gr=>xe ?_;have gs:O5 [J] O go:=(V.S hq od).S hF λb E=>.inr (Qg G b E).1;have gt:gq.ownsRow ↑O 147 2 hr (l++[(n,y.2)]).length ((l++[(n,y.2)]).flatMap ZN):=by
  have h1:=Qe hD hH (λb E hc=>by
   simp only[oJ]at hc;subst hc;rcases gp b E with h2|h2
   ·exact hG h2
   omega)
  rw[Ll,LA];simpa using h1
 refine Qs<|QH U U<|Qa<|xe<|⟨(k+1,hr,l++[(n,y.2)]),by show q.ts.length - (k+1)<q.ts.length - k;omega,La,S,gs.S hH (λb E=>.inl E),gr,gt,by simp[hz],λp I=>?_,(Qdc hE H)⟩;rcases Lc.1 I with I|I
 ·exact hj p I
 simp only[oJ]at I;subst I;exact hf.2
instance:Bw sV 92 z10 [(0,2),(2,1),(3,4),(7,3)]:={}
instance:Bw sV 150 z15 [(0,10),(10,5)]:={}
theorem zg {c:CL}(E:ZI L ↑w c)(G:Kb w 4096):
  QY sV 88 [c.val] w λr w'=>sX w w'/\∃us c0 c1 c2 c3 sa st sm se o,r=.tuple #[sT us,.agg #[c0,c1,c2,c3,sa,sS st,sm,se,o],sS (Y3 c.V)]/\us.length=8/\Zb us/\Zb [c0,c1,c2,c3,sa,sm,se,o] /\
   (Y3 c.V=0->st=(suA c.V).st/\∀L:LN,(∀b∈L,b<↑w)->ZM L ↑w' sa sm se (suA c.V)/\jV L ↑w' c0 c1 c2 (spc c.V).a (fbs (spc c.V)) (unc c.V.ev)):=by
 refine(QdS E G).Y ?_;rintro r w' ⟨H,us,c0,c1,c2,c3,sa,sm,se,o,rfl,I,J,O,_,S⟩;exact⟨H,us,c0,c1,c2,c3,sa,_,sm,se,o,U,I,J,O,λh=>⟨OU h,S h⟩⟩
theorem Qau {c:CL}{q:MV}(H:ZI L ↑w c)(I:QL L ↑w q.v q.co):
  QY sV 86 [c.val,.agg #[sS q.kd,sS q.ix,q.v]] w λr w'=>sX w w'/\∃cm:CL,r=.tuple #[sT cm.cells,sS (ya c.V q.m)]/\Zb cm.cells/\(ya c.V q.m=0->cm.V=Jv c.V q.m/\∀L:LN,(∀b∈L,b<↑w)->ZI L ↑w' cm):=by
 refine(Qjj H I).Y ?_;rintro r w' ⟨J,us,rfl,V,G,O,S⟩;refine⟨J,?_⟩;by_cases E:ya c.V q.m=0
 ·obtain⟨cm,e1,e2,T⟩:=S E;have e:us=cm.cells:=by simpa using e1
  subst e;exact⟨cm,U,G,λ_=>⟨e2,T⟩⟩
 have e:=O E;subst e;exact⟨CL.mk Zm Zm Zm Zm Zm [] [] [] [] [],U,G,λh=>OW h E⟩
theorem Qdy (c:ZF)(bf:List xI)(v:Int)(m:qu)(l:List qu)(o:List xI)(k n:List Ky):blL c bf v (m::l) o k n=if(KP c bf v m).1≠0 then((KP c bf v m).1,[],[],[])else
  if(KP c bf v m).2.2=true then blL c bf v l (o++[(KP c bf v m).2.1]) (k++[ZR c m]) n else blL c bf v l (o++[(KP c bf v m).2.1]) k (n++[ZR c m]):=rfl
theorem Qdw {c:CL}{ps:List V7}{v:Int}(h0:ZI L ↑w c)(hp:Go.Lg.XQ Zp 15 V6 L' ↑w vb ps)(k9:∀b∈L',b<↑w)(hn:(ps.map (·.e.ky)).Nodup)(hpl:ps.length<=1000)(hkb:Kb w 4096):
  QY sV 34 [c.val,vb,sS v] w λr w'=>sX w w'/\∃vp us,r=.tuple #[vp,sT us,sS (Jg c.V (ps.map (·.pt)) v)]/\us.length=3/\Zb us/\(Jg c.V (ps.map (·.pt)) v≠0->vp=Zm/\us=ZU) /\
   (Jg c.V (ps.map (·.pt)) v=0->∃qs q,us=Q0 q/\qs.map (·.pt)=VO c.V (ps.map (·.pt)) v/\q.rp=YN c.V (ps.map (·.pt)) v/\(w'.ownsRow ↑w 150 15 vp qs.length (qs.flatMap Zp))/\Go.Lg.XQ Zp 15 V6 L' ↑w' vp qs/\∀M:LN,(∀b∈M,b<↑w)->Jt M ↑w' q):=by
 have h:=h0.up (L':=[]) od;have hQ:Go.Lg.XQ Zp 15 V6 [] ↑w vb ps:=hp.up od;have hpk:(ps.map (·.pt)).map (·.ky)=ps.map (·.e.ky):=by rw[Mn];rfl
 have ma:=QiY hn (λq hq=>(hp.each q hq).ones);refine Zf (ps.map (·.pt)) λbf mf=>?_;rw[mf]at hpk ma ⊢;have ha:Jg c.V bf v=if Zj c.V≠0 then Zj c.V else(KO c.V bf v).1:=rfl
 have mg:VO c.V bf v=(KO c.V bf v).2.1:=rfl;have mh:YN c.V bf v=⟨(KO c.V bf v).2.2.1,(KO c.V bf v).2.2.2,(bf.filter λp=>decide (p.ky∉(O8 c.V).map (ZR c.V))).map (·.ky)⟩:=rfl;have hbR:blL c.V bf v (O8 c.V) [] [] []=KO c.V bf v:=rfl;refine Zf (Jg c.V bf v) λE hE=>?_;rw[hE]at ha ⊢;refine Zq func34 ?_;refine Qc<|Zl c.cells λb3 w1 mj hb3 g3=>x Qi<|QM ZU λb7 w2 gl hb7 g4=>Qb ?_;have mo:=mj.D gl;have hz1:=mj.size;have hz2:=gl.size;refine Qc<|QT (g3.I gl) U U<|Qz<|(jx (h.I mo)).Y ?_;rintro r3 w3 ⟨hS,vM,lM,rfl,hM,hMbad,hMgood⟩;have mq:=mo.D hS;have hz3:=hS.size;refine Qa<|QW U U<|QW U U<|x Qi<|Qb<|Qd<|Qj<|Zx U U<|xe<|QO rfl (λhT=>?_) (λhT=>?_)
 ·rw[OU hT]at ha;refine Qc<|x (Qx Z)<|Qa<|x Qi<|QK ZU (g4.I hS) oC λw4 hs4 hB74=>Qb<|Qh ⟨[Zm,sT ZU,sS (Zj c.V)],⟨U,Yl hB74,U,Z⟩,mq.O hs4 oa,Zm,ZU,by rw[ha];rfl,U,oC,λ_=>⟨U,U⟩,λh0=>OW (ha.symm.D h0) hT⟩
 rw[OT hT]at ha;have g5:=Lp.1 hT;have hok:jQ c.V:=(ZW g5).sr;have hU:=hMgood g5;have ms:=QcN g5;have hMl:lM.length<=96:=by have:=VC hok;rw[<-hU,Lh]at this;exact this
 have mt:Zn [] ↑w3 vM lM.length 3 (lM.flatMap Yx):=hM.arr oa od;refine Qf<|Qc<|Qn<|YM kKy λg6 w5 mu hb37 mv=>Qb ?_;have mw:=mq.D mu;refine Qd<|Qj<|QF (Go.Lg.XQ.I hQ mw).arr U<|Qa<|xe<|Q7 (α:=Nat) [(13,13),(40,49)] (λz=>[(40,sS z)]) (λz w'=>z<=ps.length/\O5 [g6] w5 w'/\Yu kKy ↑w' g6 (yR (λq:V7=>q.e.ky) paV (ps.take z) [])) (λz=>ps.length - z) 0 La ⟨Lo _,O5.Z _ _,mv⟩ ?_;rintro k g w6 ⟨hk,gm,g7⟩;have my:sX w w6:=mw.O gm oa;have hz6:=gm.size;refine Zo rfl U (λgn=>?_) (λgn=>?_)
 rotate_left
 ·have J:k<ps.length:=by have hV:(k:Int)<(ps.length:Int):=gn;omega
  have ho:ps.take (k+1)=ps.take k++[ps[k]'J]:=Ln J;have mz:=Go.Lg.XQ.I hQ my;have hr:=Lm J;refine Qf<|Qd<|Qm<|Qc<|xig (g:=Zp) (i:=k) K0 mz.arr U U J λa42 m2=>?_;refine Zf (ps[k]'J) λq hq=>?_;rw[hq]at m2 ho hr;have g8:=mz.each q hr;refine x (Qr m2 U U)<|QM z15 λb13 w7 g9 hb13 hB13=>QK (Zp q) hB13 g8.ones λV hW m3=>xe ?_;have h9:sX w6 V:=g9.O hW hb13;refine Qs<|Qa<|QQ U<|QQ U<|x (Zh (us:=Xp q.e.ky) m3 U U U)<|QT m3 U U<|Qn<|XY (k:=q.e.ky) (g7.I h9) U U λY hs hm9=>xe ?_;refine Qs<|QH U U<|Qa<|xe<|⟨k+1,oa,La,J,(gm.D h9).Q hs,?_⟩;have m4:Yu kKy ↑Y g6 (xd (yR (λq:V7=>q.e.ky) paV (ps.take k) []) q.e.ky (paV q)):=hm9;rw[ho];unfold yR at m4 ⊢;rw[MF];exact m4
 refine Qw ?_;have hY:ps.length<=k:=by have hV:¬(k:Int)<(ps.length:Int):=gn;omega
 rw[Lu hY]at g7;clear hY gn hk;refine Qc<|Qb<|Qc<|QM ZU λI w7 g9 hb15 m5=>xe ?_;refine Qc<|Qn<|YM kKy λO V hW hb50 m6=>Qb ?_;have h9:=g9.D hW;have m7:=my.D h9;have hz8:=hW.size;have hl15:=m5.lt;have hl50:=m6.lt;have hl37:=mv.lt;have hZ:sX w3 V:=(mu.O gm oa).D h9;have hB38:=(g3.I (gl.D hS)).I hZ;have hB78:=(g4.I hS).I hZ;have hl3:=g3.lt;have hl7:=g4.lt;have hMA8:=mt.I hZ;refine Qd<|Qj<|QF hMA8 U<|Qa<|xe<|Q7 (α:=BlS) [(6,6),(8,8),(14,14),(18,25),(53,123)] (λz=>[(14,z.vo),(53,sS z.k)]) (λz w'=>z.k<=lM.length/\O5 [I,O] V w'/\BlI (b7::I::O::L') ↑V w' I O ((lM.take z.k).map λq=>ZR c.V q.m) z/\blL c.V bf v ((lM.drop z.k).map MV.m) (z.qs.map (·.pt)) z.K z.M=KO c.V bf v/\(z.qs.length=z.k/\z.K.length<=z.k/\z.M.length<=z.k))
  (λz=>lM.length - z.k) ⟨0,Zm,[],Zm,[],Zm,[]⟩ oB ⟨Lo _,O5.Z _ _,⟨⟨_,(m5.I hW)⟩,m6,UJ.nil,QE _ _ _ _,QE _ _ _ _,λb H=>by simp[ob]at H,λb H=>by simp[ob]at H⟩,by rw[List.drop_zero,hU];exact hbR,U,Lx _,Lx _⟩ ?_
 rintro⟨k,vo,qs,vk,K,vm,M⟩ g Y ⟨hk,hs,S,hR,hql,hKl,hMl'⟩;simp only[]at hk S hR hql hKl hMl';have hX:∀b∈[I,O],↑w<=b/\b<V.heap.size:=λb H=>by simp only[oL,oK,or_false]at H;omega
 have ka:sX w Y:=m7.S hs (λb H=>.inr (hX b H).1);have hz9:=hs.size;have m8:=hB38.J hs ot;have m9:=hB78.J hs ot;have hm379:=(g7.I h9).J hs ot;have hp9:=Go.Lg.XQ.I hQ ka;refine Zo rfl U (λkb=>?_) (λkb=>?_)
 ·refine Qw ?_;have hY:lM.length<=k:=by have hV:¬(k:Int)<(lM.length:Int):=kb;omega
  have go:=S;rw[Lu hY]at go;rw[Lt hY]at hR;have hR0:KO c.V bf v=(0,qs.map (·.pt),K,M):=hR.symm;rw[hR0]at ha mg mh;have pa:E=0:=ha;have hks:(lM.map λq=>ZR c.V q.m)=(O8 c.V).map (ZR c.V):=by rw[<-hU,Mn];rfl
  rw[hks]at go;obtain⟨T15,hB159⟩:=go.b;have hm509:=go.n;refine Qd<|Qj<|QF hp9.arr U<|Qa<|xe<|Q7 (α:=Nat×O2×List Ky) [(27,27),(126,144)] (λz=>[(126,sS z.1)]) (λz w'=>z.1<=ps.length/\O5 [I] Y w'/\QZ ↑w' I T15 [vk,vm,z.2.1]/\w'.ownsRow ↑Y 87 2 z.2.1 z.2.2.length (z.2.2.flatMap Xp)/\z.2.2=((ps.take z.1).filter λp=>decide (p.e.ky∉(O8 c.V).map (ZR c.V))).map (·.e.ky))
   (λz=>ps.length - z.1) (0,Zm,[]) La ⟨Lo _,O5.Z _ _,hB159,QE _ _ _ _,U⟩ ?_
  rintro⟨i,vg,G⟩ g ga ⟨hi,hf,kc,h4,hG⟩;simp only[]at hi kc h4 hG;have pc:sX w ga:=ka.O hf oa;have hz10:=hf.size;have hB710:=m9.J hf oh;have hm5010:=hm509.J hf oh;have hGl:G.length<=1000:=by
   rw[hG,Lh];refine LH (Mg _ _) ?_;rw[LB];omega
  refine Zo U U (λke=>?_) (λke=>?_)
  ·refine Qw ?_;have hie:ps.length<=i:=by have hV:¬(i:Int)<(ps.length:Int):=ke;omega
   rw[Lu hie]at hG;have pd:Zb [vk,vm,vg]:=⟨Qp S.k,Qp S.m,Qp h4,Z⟩;refine Qd<|Zz [] (YW 0 5 [3])<|p Qv<|pq (λ_ hc=>Zu (kc.I hc) U U)<|p ZG<|pkk<|JY [vk,vm,vg] (hB710.I (O5.C _ _)) pd λgp kf hB711 =>
    p ZG<|pe ?_
   have hB:O5 [b7] ga gp:=(O5.C [] ga).any.Q kf;have n7:∀b,↑V<=b->b∉[b7]:=λb H T=>by rw[Lb.1 T]at H;omega
   have kg:∀b,↑V<=b->b∉[I]:=λb H T=>by rw[Lb.1 T]at H;omega
   have pf:=Qe (Qe S.k hf (λb H=>kg b (Qg S.k b H).1)) hB (λb H=>n7 b (Qg S.k b H).1);have pg:=Qe (Qe S.m hf (λb H=>kg b (Qg S.m b H).1)) hB (λb H=>n7 b (Qg S.m b H).1);have ph:=Qe h4 hB (λb H=>n7 b (ov (Qg h4 b H).1));have kh:=Qe (Qe S.o.own hf (λb H=>kg b (Qg S.o.own b H).1)) hB (λb H=>n7 b (Qg S.o.own b H).1);have ki:sX w gp:=pc.O hB oa;refine Qh ⟨[vo,.agg #[vk,vm,vg],sS 0],⟨U,Yl hB711,U,Z⟩,ki,vo,[vk,vm,vg],by rw[pa];rfl,U,pd,λh0=>OW pa h0,λ_=>⟨qs,⟨vk,K,vm,M,vg,G⟩,U,mg.symm,?_,ZB kh oa,⟨QB kh oa (λb H hbL=>oy (Qg kh b H).1 (k9 b hbL)),λq hq=>?_⟩,λN hN=>⟨QB pf (show K.length<=1099511627776 by omega) (λb H hbL=>oy (Qg pf b H).1 (hN b hbL)),QB pg (show M.length<=1099511627776 by omega) (λb H hbL=>oy (Qg pg b H).1 (hN b hbL)),QB ph (show G.length<=1099511627776 by omega) (λb H hbL=>oy (Qg ph b H).1 (hN b hbL))⟩⟩⟩
   ·rw[mh];show Rp.mk K M G=_;rw[hG,<-mf,List.filter_map,Mn];rfl
   have hq9:=S.o.each q hq;have hq9':V6 (b7::I::O::L') ↑Y q:=Mm.Y hq9 λb H=>Lc.2 (.inr (Lc.2 (.inr (Lc.2 (.inr H)))));exact((hq9'.st (hf.Y od)).st (hB.Y od)).up (λb H=>.inl (by simp[H]))
  have J:i<ps.length:=by have hV:(i:Int)<(ps.length:Int):=ke;omega
  have ho:ps.take (i+1)=ps.take i++[ps[i]'J]:=Ln J;have pj:=Go.Lg.XQ.I hQ pc;have hr:=Lm J;refine Qf<|Qd<|Qm<|Qc<|xig (g:=Zp) (i:=i) K0 pj.arr U U J λa128 pm=>?_;refine Zf (ps[i]'J) λq hq=>?_;rw[hq]at pm ho hr;have g8:=pj.each q hr;refine x (Qr pm U U)<|QM z15 λb27 pn gb hb27 hB27=>QK (Zp q) hB27 g8.ones λpo gq pp=>xe ?_;have hD:sX ga po:=gb.O gq hb27;have hz13:=hD.size;refine Qj<|QQ U<|QQ U<|x (Zh (us:=Xp q.e.ky) pp U U U)<|x (QgR (s:=q.e.ky) (hm5010.I hD) U U)<|x (Zy U)<|xe ?_;have kj:=kc.I hD;have pu:=Ql h4 hD;refine QU U (λkk=>?_) (λkk=>?_)
  ·have kn:q.e.ky∉(O8 c.V).map (ZR c.V):=by simpa using kk
   refine Qs<|Qo U kj U U<|QQ U<|QQ U<|x (Zh (us:=Xp q.e.ky) pp U U U)<|Qn<|Za [Xp q.e.ky] λb141 ko hF hb141 hB141 =>
    Qn<|Q2 (m:=1) (news:=Xp q.e.ky) (L:=[]) (Ql pu hF) U U U (by have:=hB141.at (L:=[]) od;simpa using this) oq oa (ov hF.size) λkq hl pw hg pz=>QQ U<|Qn<|Qu (j:=2) (u:=kq) ((kj.I hF).J hg (λH=>ov (Qg h4 I H).1)) U U od (Qp pw) λp0 gr hB1516 =>
    xe ?_
   refine Qs<|QH U U<|Qa<|xe ?_;have ht:O5 [I] Y ko:=hf.D (hD.D hF);have kr:O5 [I] Y hl:=ht.S hg (λb H=>.inr (Qg h4 b H).1);refine⟨(i+1,kq,G++[q.e.ky]),og,La,J,kr.Q gr,hB1516,?_,?_⟩
   ·have p1:hl.ownsRow ↑Y 87 2 kq (G++[q.e.ky]).length ((G++[q.e.ky]).flatMap Xp):=by
     rw[Ll,LA];simpa using pw
    refine Qe p1 gr (λb H T=>?_);have:=(Qg p1 b H).1;rw[Lb.1 T]at this;omega
   simp only[];rw[ho,L4,Lr,<-hG,Md,OU (OX kn)];rfl
  have kn:q.e.ky∈(O8 c.V).map (ZR c.V):=by simpa using kk
  refine Qf<|Qs<|QH U U<|Qa<|xe<|⟨(i+1,vg,G),og,La,J,hf.D hD,kj,pu,?_⟩;simp only[];rw[ho,L4,Lr,<-hG,Md,OT (oA kn)];simp
 have J:k<lM.length:=by have hV:(k:Int)<(lM.length:Int):=kb;omega
 have ho:lM.take (k+1)=lM.take k++[lM[k]'J]:=Ln J;have hr:=Lm J;rw[LF J,LJ,Qdy]at hR;have kt:sX w3 Y:=hZ.S hs (λb H=>.inr (by simp only[oL,oK,or_false]at H;have:=hZ.size;omega));have hn1:(lM.map λq=>ZR c.V q.m).Nodup:=by
  rw[<-hU,Mn]at ms;exact ms
 have ku:=hn1.sublist ((List.take_sublist (k+1) lM).map λq=>ZR c.V q.m);rw[ho,Lr]at ku;refine Qf<|Qd<|Qm<|Qc<|xig (g:=Yx) (i:=k) Qeb (mt.I kt) U U J λa55 p2=>?_;refine Zf (lM[k]'J) λq hq=>?_;rw[hq]at p2 ho hr hR ku;have hqI:QL [] ↑Y q.v q.co:=(YJ.I hM kt).each q hr [] od;have hqm:q.m∈O8 c.V:=by rw[<-hU];exact LP hr
 have p3:ZR c.V q.m∉(lM.take k).map λq=>ZR c.V q.m:=λT=>(ME.1 ku).2.2 _ T _ (Lb.2 U) U;have gc:=Qfq hqm;have hh:=ma (ZR c.V q.m);have gs:=λp:xI=>QaY (c:=c.V) (bf:=bf) (v:=v) (m:=q.m) (p:=p);have gt:=Qgf (c:=c.V) (bf:=bf) (v:=v) (m:=q.m);have hb0:=Qgg (c:=c.V) (bf:=bf) (v:=v) (m:=q.m);refine x (Qr p2 U U)<|QM [sS 0,sS 0,nS] λb18 ga hf hb18 hB18=>QK (Yx q) hB18 ⟨U,U,hqI.one,Z⟩ λgp kf p4=>xe ?_;have gu:sX Y gp:=hf.O kf hb18;have ki:=ka.D gu;have hK:=Qjr (q:=q) (h.I ki) gc.1 gc.2.1 (λe=>by have:=gc.2.2.1 e;rwa [show c.V.rq.length=c.rq.length from Lh ..]at this) (λe=>by have:=gc.2.2.2.1 e;rwa [show c.V.ex.length=c.ex.length from Lh ..]at this) (λe=>by have:=gc.2.2.2.2 e;rwa [show c.V.cs.length=c.cs.length from Lh ..]at this);have p5:Vj c.V v q.m=⟨ZR c.V q.m,v,suA (Jv c.V q.m),(Vm (Jv c.V q.m)).1,(Vm (Jv c.V q.m)).2.1,(Vm (Jv c.V q.m)).2.2,Jv c.V q.m⟩:=rfl;refine Zf (ZR c.V q.m) λky p6=>?_;rw[p6]at p3 hh gs gt hK hR p5;refine Qc<|QT (m8.I gu) U U<|QT p4 U U<|Qz<|hK.Y ?_;rintro _ pn ⟨rfl,gb⟩;refine QM [sS 0,.string .empty] λp7 po gq hb19 hB19=>QK (Xp ky) hB19 oB λko hF p8=>xe ?_;have p9:sX pn ko:=gq.O hF hb19;have ht:=(gu.D gb).D p9;have hz914:=ht.size;have hz911:=gu.size;have hz12:=gb.size;have qc:=S.I ht;have hz10:=hf.size;have hz13:=gq.size;refine Qj<|QT p8 U U<|Qn<|XY (k:=ky) qc.n U U λhl hg pz=>xe ?_;have kr:O5 [O] Y hl:=ht.any.Q hg;have qf:O5 [I,O] V hl:=hs.Q (kr.Y od);have ql:sX w hl:=m7.S qf (λb H=>.inr (hX b H).1);have hz15:=hg.size;have hI15:BlI (b7::I::O::L') ↑V hl I O ((lM.take (k+1)).map λq=>ZR c.V q.m) ⟨k,vo,qs,vk,K,vm,M⟩:=by
  refine qc.now hg ?_ oa oa od;have h5:Yu kKy ↑hl O (xd (((lM.take k).map λq=>ZR c.V q.m).map λs=>(s,Value.bool true)) ky (.bool true)):=pz;rw[Qiv p3]at h5;have e:((lM.take (k+1)).map λq=>ZR c.V q.m)=((lM.take k).map λq=>ZR c.V q.m)++[ky]:=by
   rw[ho,Lr,LJ,p6];rfl
  rw[e];exact h5
 have hne50:∀b,↑V<=b->b∉[O]:=λb H T=>by rw[Lb.1 T]at H;omega
 have hB1815:=((p4.I gb).I p9).J hg oh;have hB1915:=p8.J hg oh;have hB315:=(m8.I ht).J hg oh;have qm:=(m9.I ht).J hg oh;have hm3715:=(hm379.I ht).J hg oh;have hqI3:QL [] ↑w3 q.v q.co:=hM.each q hr [] od;have hqI15:QL [] ↑hl q.v q.co:=((((hqI3.up (L':=[O]) (λb H=>.inr (by rw[Lb.1 H];omega))).I kt).I ht).st hg).up od;refine Qc<|QT hB315 U U<|QT hB1815 U U<|Qz<|(Qau (q:=q) (h.I ql) hqI15).Y ?_;rintro r23 p0 ⟨gr,cm,rfl,ho5,hgood⟩;refine Qa<|QW U U<|QW U U<|QM Z8 λb20 w17 hs17 hb20 hB20=>QK cm.cells hB20 ho5 λqo hs18 hB2018 =>
  Qb ?_
 have kv:sX p0 qo:=hs17.O hs18 hb20;have h1:=gr.D kv;have qr:=ql.D h1;have hz1518:=h1.size;refine Qd<|Qj<|Zx U U<|xe<|QO rfl (λgg=>?_) (λgg=>?_)
 ·have he:=hb0 gg;rw[he,OU gg]at hR;rw[<-hR]at ha;refine Qc<|x (Qx Z)<|Qa<|x Qi<|QK ZU (qm.I h1) oC λw19 kw hB719=>Qb<|Qh ⟨[Zm,sT ZU,sS (ya c.V q.m)],⟨U,Yl hB719,U,Z⟩,qr.O kw oa,Zm,ZU,by rw[ha];rfl,U,oC,λ_=>⟨U,U⟩,λh0=>OW (ha.symm.D h0) gg⟩
 have kx:=Lp.1 gg;have gs:=λp=>gs p kx;have gt:=gt kx;have gh:=hgood kx;have hI18:=hI15.I h1;have q0:=hB1915.I h1;refine Qf<|Exists.elim hh λus hh=>Exists.elim hh λis hh=>?_;refine Qd<|Qj<|QT q0 U U<|x (Ql8 (k:=ky) (hm3715.I h1) U U hh.1)<|Qa<|QW U U<|QW U U<|QM z15 λb22 w19 kw hb22 hB22 =>
  Qn<|Zv (us:=us) hB22 U U hh.2.1 U hh.2.2.1 λhH hs20 q1=>Qb ?_
 have hJ:sX qo hH:=kw.O hs20 hb22;have q2:=qr.D hJ;have q3:=hB2018.I hJ;have hz1820:=hJ.size;have q4:∀N:LN,(∀b∈N,b<↑hl)->ZI N ↑hH cm:=λN hN=>((gh.2 N hN).I kv).I hJ;refine QX (α:=Bool) [(78,84)] (λz=>[(84,.bool z)]) (λz w'=>sX hH w'/\(z=true->∃p∈ps,us=Zp p/\KP c.V bf v q.m=(0,p.pt,true))/\(z=false->KP c.V bf v q.m=(Y3 (Jv c.V q.m),Vj c.V v q.m,false))) om ?_ ?_
 ·refine Qs<|xB Ks (λkz=>?_) (λkz=>?_)
  ·refine Exists.elim (hh.2.2.2.1 kz) λp h2=>?_;have gv:V6 [] ↑hH p:=(Go.Lg.XQ.I hQ q2).each p h2.1;have gw:=h2.2.1;have hEq:QY sV 87 [p.c.val,cm.val] hH λr w'=>r=.bool (decide (p.c.V=Jv c.V q.m))/\sX hH w':=by
    rw[<-gh.1];exact UH gv.c (q4 [] od)
   refine Qa<|QQ U<|x (Zh (us:=p.c.cells) q1 U U (by rw[gw];rfl))<|QT q3 U U<|Qz<|hEq.Y ?_;rintro _ gx ⟨rfl,hu⟩;refine QC U<|xe ?_;have H:=gs p.pt h2.2.2;refine⟨decide (p.c.V=Jv c.V q.m),La,hu,λhz=>⟨p,h2.1,gw,?_⟩,λhz=>?_⟩
   ·rw[H,OU (show p.pt.c=_ from OY hz)]
   rw[H,OT (show ¬p.pt.c=_ from O0 hz)]
  refine Qa<|Zt<|KB<|QC U<|xe ?_;exact⟨false,La,O5.Z _ _,λhz=>OW hz ol,λ_=>gt (hh.2.2.2.2 kz)⟩
 rintro zb g gx ⟨hu,hzt,hzf⟩;have gy:=hJ.D hu;have k0:=q2.D hu;have hL:=hI18.I gy;have hz21:=hu.size;have q5:=q0.I gy;have q6:=q3.I hu;have h721:=(qm.I h1).I gy;have j1:O5 [I,O] V gx:=(qf.D h1).D gy;have gvo:=Qg hL.o.own;have gvk:=Qg hL.k;have gvm:=Qg hL.m;obtain⟨T15,j2⟩:=hL.b;have n15o:I∉ob vo:=λT=>ov (gvo I T).1
 have n15k:I∉ob vk:=λT=>ov (gvk I T).1
 have n15m:I∉ob vm:=λT=>ov (gvm I T).1
 have n19o:p7∉ob vo:=λT=>ov (Qg S.o.own p7 T)
 have j3:∀b∈ob vo++(ob vk++(ob vm++(b7::I::O::L'))),b<↑Y/\(b∈L'\/↑w<=b):=λb H=>by
  rcases Lc.1 H with H|H
  ·have:=Qg S.o.own b H;exact⟨this.2,.inr oa⟩
  rcases Lc.1 H with H|H
  ·have:=Qg S.k b H;exact⟨this.2,.inr oa⟩
  rcases Lc.1 H with H|H
  ·have:=Qg S.m b H;exact⟨this.2,.inr oa⟩
  simp only[oL]at H;rcases H with rfl|rfl|rfl|H
  ·exact⟨oa,.inr oa⟩
  ·exact⟨oa,.inr oa⟩
  ·exact⟨oa,.inr oa⟩
  exact⟨ov (k9 b H),.inl H⟩
 refine QU rfl (λk4=>?_) (λk4=>?_)
 ·refine Exists.elim (hzt k4) λp h2=>?_;have gw:=h2.2.1;have H:=h2.2.2;rw[H,OT od,OU rfl]at hR;have gv:V6 (ob vo++(ob vk++(ob vm++(b7::I::O::L')))) ↑gx p:=((hp.each p h2.1).up λb H=>(j3 b H).2).I k0;refine Qj<|QT (q1.I hu) U hh.2.1<|Qn<|Xy (us:=[us]) U U ol (by exact(by decide:1*15<=1000000)) ⟨U,hh.2.1,Z⟩ λb87 k5 hv hb87 hB87=>?_;have hA22:At [] ↑k5 ⟨b87,0,none⟩ (Zp p):=by have:=hB87.at (L:=[]) od;rw[gw]at this;simpa using this
  have za:=hL.I hv;refine Qn<|Jc (m:=1) (news:=Zp p) za.o.own U U U hA22 (Zb.all gv.ones) (show qs.length+1<=1073741824 by omega) (ov hv.size) λv23 w23 ho23 h6 hn23=>?_;refine Qb ?_;have hI23:=za.part (gv.I hv) ho23 h6 hn23 oa oa;have zv:=(j2.I hv).J h6 n15o;have hB1923:=(q5.I hv).J h6 n19o;refine Qc<|Qo U zv U U<|QT hB1923 U U<|Qn<|Za [Xp ky] λb92 w24 h7 hb92 hB92=>?_;have z1:=hI23.I h7;refine Qn<|Q2 (m:=1) (news:=Xp ky) (L:=[]) z1.k U U U (by have:=hB92.at (L:=[]) od;simpa using this) oq (show K.length+1<=1099511627776 by omega) (oz hv.size h6.size h7.size) λz2 w25 z3 hO hn25=>?_;refine QQ U<|Qn<|Qu (j:=0) (u:=z2) ((zv.I h7).J hO n15k) U U od (Qp z3) λk6 gz hB1526=>xe ?_;have hw:=z1.kept z3 hO hn25 gz ⟨T15,hB1526⟩ oa oa oa od;refine Qw<|Qs<|QH U U<|Qa<|xe ?_;have hs826:O5 [I,O] V k6:=((((j1.D hv).S h6 (λb H=>.inr (gvo b H).1)).D h7).S hO (λb H=>.inr (gvk b H).1)).Q (gz.Y od);refine⟨⟨k+1,v23,qs++[p],z2,K++[ky],vm,M⟩,og,oB,J,hs826,⟨hw.b,hw.n,hw.o,hw.k,hw.m,hw.d1,hw.d2⟩,?_,by simp only[oN,oP];omega⟩;simp only[];rw[Lr];exact hR
 have H:=hzf k4;rw[H]at hR;have hSy:=zg ((q4 [] od).I hu) (hkb.I k0);rw[gh.1]at hSy;refine Qf<|Qc<|QT q6 U U<|Qz<|hSy.Y ?_;rintro r36 k5 ⟨hv,us8,c0,c1,c2,c3,sa,st,sm,se,oo,rfl,hl8,ho8,h3,g0⟩;refine Qa<|QW U U<|QW U U<|QW U U<|QM [nS,sS 0,nS,nS,nS,nS,nS,nS] λb24 w23 h6 hb24 z4=>QM [nS,nS,nS,sS 0,nS,sS 0,nS,nS,nS] λb25 w24 h7 hb25 hB25 =>
  Qn<|Zv (us:=us8) (z4.I h7) U U hl8 U ho8 λw25 hO hB2425=>?_
 have hl24:=z4.lt;have n2425:b25∉[b24]:=oh
 refine QK [c0,c1,c2,c3,sa,sS st,sm,se,oo] (hB25.J hO n2425) ⟨h3.1,h3.2.1,h3.2.2.1,h3.2.2.2.1,h3.2.2.2.2.1,U,h3.2.2.2.2.2.1,h3.2.2.2.2.2.2.1,h3.2.2.2.2.2.2.2.1,Z⟩ λk6 gz z5=>Qb ?_;have gi:sX k5 k6:=(((h6.D h7).O hO oa).O gz oa);have hy:=hv.D gi;have hs026:=k0.D hy;have hz2126:=hy.size;refine Qd<|Qj<|Zx U U<|xe<|QO rfl (λgj=>?_) (λgj=>?_)
 ·rw[OU gj]at hR;rw[<-hR]at ha;refine Qc<|x (Qx Z)<|Qa<|x Qi<|QK ZU (h721.I hy) oC λk7 hj hB727=>Qb<|Qh ⟨[Zm,sT ZU,sS (Y3 (Jv c.V q.m))],⟨U,Yl hB727,U,Z⟩,hs026.O hj oa,Zm,ZU,by rw[ha];rfl,U,oC,λ_=>⟨U,U⟩,λh0=>OW (ha.symm.D h0) gj⟩
 rw[OT gj,OT od]at hR;have g0:=g0 (Lp.1 gj);have hst:=g0.1;refine Qf<|Qc ?_;have hw:=hL.I hy;have hB1926:=q5.I hy;have hB2026:=q6.I hy;refine Zf (⟨⟨ky,v,⟨sa,sm,se,suA (Jv c.V q.m)⟩,c0,(Vm (Jv c.V q.m)).1,c1,(Vm (Jv c.V q.m)).2.1,c2,(Vm (Jv c.V q.m)).2.2⟩,cm⟩:V7) λP hP=>?_;have hPc:[sS ky.1,.string ky.2,sS v,sa,sS st,sm,se,c0,c1,c2,cm.ve,cm.vc,cm.vr,cm.vx,cm.vk]=Zp P:=by rw[<-hP,hst]
 refine Qa<|QT hB1926 U U<|Qa<|QQ U<|x (Zh (us:=[sa,sS st,sm,se]) z5 U U U)<|QQ U<|x (Zh (us:=[c0,c1,c2]) z5 U U U) <|
  x (Q5 [(0,Xp ky),(1,[sS v]),(2,[sa,sS st,sm,se]),(3,[c0,c1,c2])] ⟨U,U,U,U,U,U,U,U,Z⟩)<|QT hB2026 U U<|x (Q5 [(0,[sS ky.1,.string ky.2,sS v,sa,sS st,sm,se,c0,c1,c2]),(1,cm.cells)] ⟨U,U,U,U,Z⟩) <|
  Qn<|Za [[sS ky.1,.string ky.2,sS v,sa,sS st,sm,se,c0,c1,c2,cm.ve,cm.vc,cm.vr,cm.vx,cm.vk]] λb115 k7 hj hb115 hB115=>?_
 have hA27:At [] ↑k7 ⟨b115,0,none⟩ (Zp P):=by have:=hB115.at (L:=[]) od;rw[<-hPc];simpa using this
 have hI27:=hw.I hj;have hz27:=hj.size;have hLc:∀b∈ob vo++(ob vk++(ob vm++(b7::I::O::L'))),b<↑hl/\b<gx.heap.size:=λb H=>ov (j3 b H).1
 have hPA:V6 (ob vo++(ob vk++(ob vm++(b7::I::O::L')))) ↑k7 P:=by
  obtain⟨hA,hC⟩:=g0.2 _ (λb H=>(hLc b H).2);have hcmX:=((((gh.2 _ (λb H=>(hLc b H).1)).I kv).I hJ).I hu).I hy;rw[<-hP];exact⟨⟨(hA.I gi).I hj,(hC.k.I gi).I hj,(hC.d.I gi).I hj,(hC.r.I gi).I hj⟩,hcmX.I hj⟩
 refine Qn<|Jc (m:=1) (news:=Zp P) hI27.o.own U U U hA27 (Zb.all hPA.ones) (show qs.length+1<=1073741824 by omega) oa λv28 w28 ho28 gk hn28=>?_;refine Qb ?_;have hI28:=hI27.part hPA ho28 gk hn28 oa oa;have hB1528:=((j2.I hy).I hj).J gk n15o;have hB1928:=(hB1926.I hj).J gk n19o;refine Qs<|Qo U hB1528 U U<|QT hB1928 U U<|Qn<|Za [Xp ky] λb120 w29 g2 hb120 hB120=>?_;have hI29:=hI28.I g2;refine Qn<|Q2 (m:=1) (news:=Xp ky) (L:=[]) hI29.m U U U (by have:=hB120.at (L:=[]) od;simpa using this) oq (show M.length+1<=1099511627776 by omega) (oy gk.size g2.size) λv30 w30 ho30 k8 hn30=>?_;refine QQ rfl<|Qn<|Qu (j:=1) (u:=v30) ((hB1528.I g2).J k8 n15m) U U od (Qp ho30) λw31 hs31 hB1531=>xe ?_;have h8:=hI29.mades ho30 k8 hn30 hs31 ⟨T15,hB1531⟩ oa oa oa od;refine Qs<|QH U U<|Qa<|xe ?_;have hs831:O5 [I,O] V w31:=(((((j1.D hy).D hj).S gk (λb H=>.inr (gvo b H).1)).D g2).S k8 (λb H=>.inr (gvm b H).1)).Q (hs31.Y od);refine⟨⟨k+1,v28,qs++[P],vk,K,v30,M++[ky]⟩,og,oB,J,hs831,⟨h8.b,h8.n,h8.o,h8.k,h8.m,h8.d1,h8.d2⟩,?_,by simp only[oN,oP];omega⟩;simp only[];rw[Lr];have hPp:[P].map (·.pt)=[Vj c.V v q.m]:=by
  rw[p5,<-hP];show[V7.pt _]=_;unfold V7.pt;rw[gh.1]
 rw[hPp];exact hR
structure CkP (c:ZF):Prop where
 ev:Kv c.ev=0
 ne:c.co.length≠0
 n8:c.co.length<=8
 n12:c.co.length+c.rq.length<=12
 co:(YE c.ev.length (Vo c.ev.length) [] [] c.co).1=0
 rq:J3 c.ev.length (YE c.ev.length (Vo c.ev.length) [] [] c.co).2.2 (YE c.ev.length (Vo c.ev.length) [] [] c.co).2.1 c.rq=0
 cd:YG (szs c.co) c.ex c.cs=0
theorem QhB :Zj c=0↔CkP c:=by
 constructor
 ·intro h;unfold Zj at h;split at h
  ·rename_i E;exact OW h E
  rename_i E;split at h
  ·cases h
  rename_i I;split at h
  ·cases h
  rename_i J;split at h
  ·rename_i G;exact OW h G
  rename_i G;split at h
  ·rename_i H;exact OW h H
  rename_i H;exact⟨Lp.1 E,I,oa,oa,Lp.1 G,Lp.1 H,h⟩
 intro h;unfold Zj;rw[OT (not_not_intro h.ev),OT h.ne,OT (oy h.n8 h.n12),OT (not_not_intro h.co),OT (not_not_intro h.rq)];exact h.cd
theorem QhA {sz:LI}{ex:List qv}{cs:List xK}(h:YG sz ex cs=0):(∀x∈ex,Xa (x.ls.map (·.1))/\x.ls.length≠0)/\∀x∈cs,Xa (x.ts.map (·.1)):=by
 unfold YG at h;split at h
 ·cases h
 split at h
 ·cases h
 split at h
 ·cases h
 split at h
 ·rename_i E;exact OW h E
 rename_i hx;refine⟨λx H=>?_,λx H=>?_⟩
 ·have E:=(Ko _ _ _ (Lp.1 hx)) x H;unfold Jr at E;split at E
  ·cases E
  rename_i G;exact⟨(UE _ _ _ E).2.1,G⟩
 have E:=(VL _ _ _ h) x H;unfold XN at E;split at E
 ·cases E
 split at E
 ·rename_i G;exact OW E G
 rename_i G;exact(UC _ _ _ (Lp.1 G)).2.1
theorem jk (h:(ZQ c).1=0):∃a b,J7 c.co c.ex=some a/\Kt c.co c.cs=some b/\(ZQ c).2=c.co.map (Vb 1)++(c.rq.map (Vb 2)++(a++b))/\KY (ZQ c).2=0:=by
 unfold ZQ QfT at *;cases G:J7 c.co c.ex with
 | none=>rw[G]at h;simp at h
 | some a =>
  cases H:Kt c.co c.cs with
  | none=>rw[G,H]at h;simp at h
  | some b =>
   rw[G,H]at h;simp only[]at h ⊢;by_cases E:KY (c.co.map (Vb 1)++(c.rq.map (Vb 2)++(a++b)))≠0
   ·rw[OU E]at h;exact OW h E
   rw[OT E];exact⟨a,b,U,U,U,Lp.1 E⟩
abbrev dky (x:Yi):Ky:=(x.kd,x.nm)
theorem Qdf {k:Int}{n:ByteArray}{x:Yi}:Uz k n x=true↔dky x=(k,n):=by
 unfold Uz dky;rw[Ly,decide_eq_true_iff,decide_eq_true_iff,Prod.mk.injEq]
theorem Qko {l:List Yi}{k:Int}{n:ByteArray}:Vc l k n=true↔(k,n)∈l.map dky:=by
 unfold Vc YH;rw[decide_eq_true_iff];constructor
 ·intro h;exact LD.2 ⟨_,Lm h,Qdf.1 (List.findIdx_getElem (w:=h))⟩
 intro h;obtain⟨x,hx,e⟩:=LD.1 h;exact List.findIdx_lt_length_of_exists ⟨x,hx,Qdf.2 e⟩
theorem Qrr {l:List Yi}{k:Nat}(h:k<l.length):dk1 l k (l[k]'h)=0↔((1<=(l[k]'h).kd/\(l[k]'h).kd<=4)/\Xj (l[k]'h).nm=true/\dky (l[k]'h)∉(l.map dky).take k/\(0<k->((l[k - 1]'oa).kd<=(l[k]'h).kd))/\Qcz (l[k]'h)=true):=by
 have S:((l.getD (k - 1) ⟨0,.empty,Vq,[],[],0⟩))=l[k - 1]'oa:=by rw[Nv,LG oa];rfl
 have J:Vc (l.take k) (l[k]'h).kd (l[k]'h).nm=true↔dky (l[k]'h)∈(l.map dky).take k:=by rw[Qko,NX]
 unfold dk1;rw[S];constructor
 ·intro E;split at E
  ·cases E
  rename_i T;split at E
  ·cases E
  rename_i G;split at E
  ·cases E
  rename_i H;split at E
  ·cases E
  rename_i O;split at E
  ·cases E
  rename_i I;exact⟨oa,oA G,λe=>H (J.2 e),λV=>oa,oA I⟩
 rintro⟨T,G,H,O,I⟩;rw[OT oa,OT (by rw[G];decide),OT (λe=>H (J.1 e)),OT (λe=>ov (O e.1)),OT (by rw[I];decide)]
def qh (a:Q6):Q6:=⟨a.al,a.st,Vo a.st.toNat,a.ed⟩
structure POk (p:xI):Prop where
 e:Y3 p.c=0
 sp:p.sp=suA p.c
 kp:p.kp=(Vm p.c).1
 ds:p.ds=(Vm p.c).2.1
 rm:p.rm=(Vm p.c).2.2
theorem POk.new {v:Int}{m:qu}(h:Y3 (Jv c m)=0):POk (Vj c v m):=⟨h,U,U,U,U⟩
structure Qk7 (c:ZF)(ps:List xI):Prop where
 ck:Zj c=0
 mc:∀m∈O8 c,ya c m=0/\Y3 (Jv c m)=0
 ky:ps.map (·.ky)=(O8 c).map (ZR c)
 cc:ps.map (·.c)=(O8 c).map (Jv c)
 ok:∀p∈ps,POk p
theorem QcC {l:List xI}{k:Ky}{p:xI}(h:K1 l k=some p):p∈l/\p.ky=k:=by
 unfold K1 at h;have E:=List.find?_some h;exact⟨List.mem_of_find?_eq_some h,oA E⟩
theorem Qq7 {v:Int}{m:qu}(I:∀p∈bf,POk p)(h:(KP c bf v m).1=0):ya c m=0/\Y3 (Jv c m)=0/\POk (KP c bf v m).2.1/\(KP c bf v m).2.1.c=Jv c m/\(KP c bf v m).2.1.ky=ZR c m:=by
 refine⟨?_,?_,?_,?_,QpP c bf v m⟩
 all_goals unfold KP at *
 ·by_cases E:ya c m≠0
  ·rw[OU E]at h;exact OW h E
  exact Lp.1 E
 all_goals
  by_cases E:ya c m≠0
  ·rw[OU E]at h;exact OW h E
  rw[OT E]at h
  try rw[OT E]
  cases H:K1 bf (ZR c m)with
  | none =>
   rw[H]at h
   first|exact h|exact POk.new h|rfl
  | some p =>
   rw[H]at h;obtain⟨J,_⟩:=QcC H;simp only[]at h ⊢;by_cases G:p.c=Jv c m
   ·first|exact G ▸ (I p J).e|(rw[OU G];first|exact I p J|exact G)
   rw[OT G]at h
   first|exact h|(rw[OT G];first|exact POk.new h|rfl)
theorem QkX {c:ZF}{bf:List xI}{v:Int}:∀(l:List qu) (o:List xI) (k n:List Ky),(blL c bf v l o k n).1=0->(∀m∈l,(KP c bf v m).1=0)
 | [],_,_,_,_,_,E=>by cases E
 | m::l,o,k,n,h,m',E=>by
  rw[blL]at h;by_cases G:(KP c bf v m).1≠0
  ·rw[OU G]at h;exact OW h G
  rw[OT G]at h;rcases Lj.1 E with rfl|E
  ·exact Lp.1 G
  split at h
  ·exact QkX l _ _ _ h m' E
  exact QkX l _ _ _ h m' E
theorem QkY {c:ZF}{bf:List xI}{v:Int}:∀(l:List qu) (o:List xI) (k n:List Ky),(∀m∈l,(KP c bf v m).1=0) ->
  blL c bf v l o k n=(0,o++l.map (λm=>(KP c bf v m).2.1),k++(l.filter λm=>(KP c bf v m).2.2).map (ZR c),n++(l.filter λm=>!(KP c bf v m).2.2).map (ZR c))
 | [],o,k,n,_=>by rw[blL];simp
 | m::l,o,k,n,h=>by
  have ih:=λo k n=>QkY l o k n λx hx=>h x (Lk _ hx);rw[blL,OT (not_not_intro (h m Lq))];cases E:(KP c bf v m).2.2 with
  | true=>rw[OU rfl,ih];simp[E,o6]
  | false=>rw[OT ol,ih];simp[E,o6]
theorem QkW {v:Int}(h:Jg c bf v=0):Zj c=0/\∀m∈O8 c,(KP c bf v m).1=0:=by
 unfold Jg at h;by_cases E:Zj c≠0
 ·rw[OU E]at h;exact OW h E
 rw[OT E]at h;exact⟨Lp.1 E,QkX (O8 c) [] [] [] h⟩
theorem Qge {v:Int}(h:∀m∈O8 c,(KP c bf v m).1=0):KO c bf v=(0,(O8 c).map (λm=>(KP c bf v m).2.1),((O8 c).filter λm=>(KP c bf v m).2.2).map (ZR c),((O8 c).filter λm=>!(KP c bf v m).2.2).map (ZR c)):=by
 unfold KO;rw[QkY _ _ _ _ h,Mc,Mc,Mc]
theorem QkU {v:Int}(J:∀p∈bf,POk p)(h:Jg c bf v=0):Qk7 c (VO c bf v):=by
 obtain⟨O,H⟩:=QkW h;have G:=λm E=>Qq7 J (H m E);have e:VO c bf v=(O8 c).map (λm=>(KP c bf v m).2.1):=by unfold VO;rw[Qge H]
 refine⟨O,λm E=>⟨(G m E).1,(G m E).2.1⟩,?_,?_,λp I=>?_⟩
 ·rw[e,Mn];exact Nn λm E=>(G m E).2.2.2.2
 ·rw[e,Mn];exact Nn λm E=>(G m E).2.2.2.1
 rw[e]at I;obtain⟨m,E,rfl⟩:=LD.1 I;exact(G m E).2.2.1
abbrev jS (L:LN)(H:xA)(v:O2)(l:List V7):Prop:=Go.Lg.XQ Zp 15 V6 L H v l
structure jE where
 c:CL
 vp:O2
 ps:List V7
abbrev Y7 (q:jE):LV:=[q.c.ve,q.c.vc,q.c.vr,q.c.vx,q.c.vk,q.vp]
theorem Qe2 (q:jE):(Y7 q).length=6:=rfl
structure zJ (L:LN)(H:xA)(q:jE):Prop where
 c:ZI L H q.c
 p:jS L H q.vp q.ps
theorem zJ.st {L:LN}{w w':O1}{q:jE}(h:zJ L ↑w q)(E:O5 L w w'):zJ L ↑w' q:=⟨h.c.st E,h.p.st E⟩
theorem zJ.I {q:jE}(h:zJ L ↑w q)(E:sX w w'):zJ L ↑w' q:=h.st E.any
theorem zJ.up {L L':LN}{H:xA}{q:jE}(h:zJ L H q)(E:∀b∈L',b∈L\/H.size<=b):zJ L' H q:=⟨h.c.up E,h.p.up E⟩
instance:Mm zJ:=⟨zJ.st,zJ.up⟩
theorem zJ.ones {q:jE}(h:zJ L H q):Zb (Y7 q):=⟨h.c.ev.arr.one,h.c.co.arr.one,h.c.rq.arr.one,h.c.ex.arr.one,h.c.cs.arr.one,h.p.arr.one,Z⟩
def jE.st (q:jE):ZF×List xI:=(q.c.V,q.ps.map (·.pt))
structure UnV where
 b1:Nat
 b2:Nat
 s:jE
structure X7 where
 b:Nat
 s:jE
 made:Int
 vr:O2
 rs:List V5
 vu:O2
 us:List UnV
abbrev Qbc (s:X7):LV:=[s.s.c.ve,s.s.c.vc,s.s.c.vr,s.s.c.vx,s.s.c.vk,s.s.vp,sS s.made,s.vr,s.vu]
def X7.own (s:X7):LN:=s.b::(ob s.vr++ob s.vu)
def X7.sys (s:X7):q7:=⟨s.s.c.V,s.s.ps.map (·.pt),s.made,s.rs.map (·.rp),s.us.map λu=>u.s.st⟩
abbrev Vu (u:UnV):O2:=.func (.func 44) #[] #[.pointer (some ⟨u.b1,0,none⟩),.pointer (some ⟨u.b2,0,none⟩)]
structure UnA (L:LN)(H:xA)(u:UnV):Prop where
 a1:At L H ⟨u.b1,0,none⟩ u.s.c.cells
 a2:At L H ⟨u.b2,0,none⟩ [u.s.vp]
 s:zJ L H u.s
theorem UnA.st {L:LN}{w w':O1}{u:UnV}(h:UnA L ↑w u)(E:O5 L w w'):UnA L ↑w' u:=⟨h.a1.st E,h.a2.st E,zJ.st h.s E⟩
theorem UnA.up {L L':LN}{H:xA}{u:UnV}(h:UnA L H u)(E:∀b∈L',b∈L\/H.size<=b):UnA L' H u:=⟨h.a1.up E,h.a2.up E,h.s.up E⟩
instance:Mm UnA:=⟨UnA.st,UnA.up⟩
structure KS (L:LN)(w:O1)(s:X7):Prop where
 blk:∃T,QZ ↑w s.b T (Qbc s)
 rr:w.ownsRow 0 60 3 s.vr s.rs.length (s.rs.flatMap Q0)
 ru:w.ownsRow 0 140 1 s.vu s.us.length (s.us.map Vu)
 d1:s.b∉ob s.vr
 d2:s.b∉ob s.vu
 d3:∀b∈ob s.vr,b∉ob s.vu
 sub:∀b∈s.own,b∈L
 st:zJ L ↑w s.s
 rA:∀q∈s.rs,Jt L ↑w q
 uA:∀q∈s.us,UnA L ↑w q
theorem KS.lt {L:LN}{w:O1}{s:X7}(h:KS L w s):∀b∈s.own,b<w.heap.size:=λb E=>by
 unfold X7.own at E;rcases Lj.1 E with rfl|E
 ·obtain⟨T,G⟩:=h.blk;exact G.lt
 rcases Lc.1 E with E|E
 ·exact(Qg h.rr b E).2
 exact(Qg h.ru b E).2
theorem KS.J {L X:LN}{w w':O1}{s:X7}(h:KS L w s)(E:O5 X w w')(G:∀b∈X,b∈L\/↑w<=b)(H:∀b∈s.own,b∉X):KS L w' s:=by
 have O:s.b∉X:=H _ Lq;have S:∀b∈ob s.vr,b∉X:=λb I=>H b (Lk _ (Lc.2 (.inl I)));have V:∀b∈ob s.vu,b∉X:=λb I=>H b (Lk _ (Lc.2 (.inr I)));obtain⟨T,Y⟩:=h.blk;exact⟨⟨T,Y.J E O⟩,Qe h.rr E S,Qe h.ru E V,h.d1,h.d2,h.d3,h.sub,Mm.J h.st E G,λq J=>Mm.J (h.rA q J) E G,λq J=>Mm.J (h.uA q J) E G⟩
theorem KS.I {s:X7}(h:KS L w s)(E:sX w w'):KS L w' s:=h.J E (λ_ G=>by cases G) (λ_ _=>od)
theorem KS.up {L L':LN}{w:O1}{s:X7}(h:KS L w s)(E:∀b∈L',b∈L\/↑w<=b)(H:∀b∈s.own,b∈L'):KS L' w s :=
 ⟨h.blk,h.rr,h.ru,h.d1,h.d2,h.d3,H,h.st.up E,λq G=>(h.rA q G).up E,λq G=>(h.uA q G).up E⟩
structure JT where
 b:Nat
 vs:O2
 ss:List jE
 vr:O2
 rs:List V5
 made:Int
abbrev Qms (m:JT):LV:=[m.vs,m.vr,sS m.made]
def JT.own (m:JT):LN:=m.b::(ob m.vs++ob m.vr)
structure zc (L:LN)(w:O1)(m:JT):Prop where
 blk:∃T,QZ ↑w m.b T (Qms m)
 rs:w.ownsRow 0 129 6 m.vs m.ss.length (m.ss.flatMap Y7)
 rr:w.ownsRow 0 60 3 m.vr m.rs.length (m.rs.flatMap Q0)
 d1:m.b∉ob m.vs
 d2:m.b∉ob m.vr
 d3:∀b∈ob m.vs,b∉ob m.vr
 sub:∀b∈m.own,b∈L
 sA:∀q∈m.ss,zJ L ↑w q
 rA:∀q∈m.rs,Jt L ↑w q
theorem zc.lt {L:LN}{w:O1}{m:JT}(h:zc L w m):∀b∈m.own,b<w.heap.size:=λb E=>by
 unfold JT.own at E;rcases Lj.1 E with rfl|E
 ·obtain⟨T,G⟩:=h.blk;exact G.lt
 rcases Lc.1 E with E|E
 ·exact(Qg h.rs b E).2
 exact(Qg h.rr b E).2
theorem zc.J {L X:LN}{w w':O1}{m:JT}(h:zc L w m)(E:O5 X w w')(J:∀b∈X,b∈L\/↑w<=b)(G:∀b∈m.own,b∉X):zc L w' m:=by
 have O:m.b∉X:=G _ Lq;have S:∀b∈ob m.vs,b∉X:=λb H=>G b (Lk _ (Lc.2 (.inl H)));have V:∀b∈ob m.vr,b∉X:=λb H=>G b (Lk _ (Lc.2 (.inr H)));obtain⟨T,Y⟩:=h.blk;exact⟨⟨T,Y.J E O⟩,Qe h.rs E S,Qe h.rr E V,h.d1,h.d2,h.d3,h.sub,λq I=>Mm.J (h.sA q I) E J,λq I=>Mm.J (h.rA q I) E J⟩
theorem zc.I {m:JT}(h:zc L w m)(E:sX w w'):zc L w' m:=h.J E (λ_ G=>by cases G) (λ_ _=>od)
theorem zc.up {L L':LN}{w:O1}{m:JT}(h:zc L w m)(G:∀b∈L',b∈L\/↑w<=b)(H:∀b∈m.own,b∈L'):zc L' w m :=
 ⟨h.blk,h.rs,h.rr,h.d1,h.d2,h.d3,H,λq E=>(h.sA q E).up G,λq E=>(h.rA q E).up G⟩
def JT.is (m:JT)(s:q7):Prop:=m.ss.map jE.st=s.un++[(s.c,s.ps)]/\m.rs.map (·.rp)=s.rs/\m.made=s.made/\s.rs.length=s.un.length
section
variable {pS:String}
theorem QrL {C:xz}{pl:xt}{e bys:Nat}{x:O3}{v:O2}{k:IntKind}[h:Sl P t e sz bys z]
  (I:QS ops E=⟨d,.slice t x none (some G) none,ty,pS,af,gd⟩) (J:Zn L H v n sz cs) (hx:ev f x=v) (O:ev f G=.int k hi) (S:hi<=n)
  (hK:∀v',Zn L H v' hi sz (cs.take (hi*sz))->XP P ops C K pl (QN f d v') w)
  (T:Z9 ops f (QS ops E)=true:=by rfl):XP P ops C K ((E,true)::pl) f w:=by
 obtain⟨v',V,Y⟩:=Qcw (P:=P) (d:=d) (ty:=ty) (pS:=pS) (af:=af) (gd:=gd) (t:=t) J hx O S;exact Lg.p (λw'=>by rw[I];exact Y w') (by rw[I];exact hK v' V) T
end
theorem JR {v:O2}{es:List DV}(h0:Kd L ↑w v es):
  QY sV 72 [v] w λr w'=>r=sS (KY (es.map DV.it))/\sX w w':=by
 have h:=h0.up (L':=[]) od;have hO:=h.arr.le;have ha:KY (es.map DV.it)=if 76<es.length then 3 else dkL (es.map DV.it) 0 (es.map DV.it):=by unfold KY;rw[Lh]
 refine Zq func72 ?_;refine Qc<|Qb<|Qd<|Qj<|QF h.arr U<|x (Yc U U)<|xe<|QO rfl (λh9=>?_) (λh9=>?_)
 ·have hh:76<es.length:=by have h7:(76:Int)<(es.length:Int):=h9;omega
  refine Qc<|Qb<|Qh ⟨[_],La,by rw[ha,OU hh];rfl,O5.Z _ _⟩
 have hh:¬76<es.length:=by have h7:¬(76:Int)<(es.length:Int):=h9;omega
 rw[OT hh]at ha;refine Zf (KY (es.map DV.it)) λE hE=>?_;rw[hE]at ha;refine Qf<|Qd<|Qj<|QF h.arr U<|Qa<|xe<|Q7 (α:=Nat) [(2,6),(12,62)] (λz=>[(12,sS z)]) (λz w'=>z<=es.length/\sX w w'/\dkL (es.map DV.it) z ((es.map DV.it).drop z)=E) (λz=>es.length - z) 0 La ⟨Lo _,O5.Z _ _,ha.symm⟩ ?_;rintro k g w1 ⟨hk,hj,hd⟩;refine Zo rfl U (λhl=>?_) (λhl=>?_)
 ·refine Qw ?_;have h8:es.length<=k:=by have hA:¬(k:Int)<(es.length:Int):=hl;omega
  rw[Lt (by rw[Lh];exact h8)]at hd;refine Qc<|Qb<|Qh ⟨[sS 0],La,by rw[hE,<-hd];rfl,hj⟩
 have H:k<es.length:=by have hA:(k:Int)<(es.length:Int):=hl;omega
 have hB:k<(es.map DV.it).length:=by rw[Lh];exact H
 rw[LF hB,Mr,dkL]at hd;have h2:=Lm H;have hC:(es.map DV.it).take k=(es.take k).map DV.it:=NX.symm;have G:dk1 (es.map DV.it) k (es[k]'H).it=if(es[k]'H).kd<1\/4<(es[k]'H).kd then 11 else if Xj (es[k]'H).nm=false then 7 else if Vc ((es.take k).map DV.it) (es[k]'H).kd (es[k]'H).nm=true then 8 else if 0<k/\(es[k]'H).kd<((es.map DV.it).getD (k - 1) ⟨0,.empty,Vq,[],[],0⟩).kd then 5 else if Qcz (es[k]'H).it=false then 6 else 0:=by
  unfold dk1;rw[hC];rfl
 have h1:=h.I hj;refine Qf<|Qd<|Qm<|Qj<|xig (g:=Qt) (i:=k) Z1 h1.arr U U H λhP h4=>?_;refine Zf (es[k]'H) λq hq=>?_;rw[hq]at h4 h2 G hd;have hm:=h1.each q h2;refine x (Qr h4 U U)<|QM [sS 0,.string .empty,nS,sS 0,nS,nS,nS,nS,sS 0] λb4 w2 hD hF hG=>x Qi <|
  QK (Qt q) hG hm.ones λO hH hn=>xe ?_
 have ho:sX w1 O:=hD.O hH hF;have h3:=h1.I ho;have S:∀e:Int,e≠0->dk1 (es.map DV.it) k q.it=e->E=e:=λe he h=>by rw[h,OU he]at hd;exact hd.symm
 have h5:sX O { O with drawn:=O.drawn+1 }:=O5.C _ _
 refine Qd<|Zz [] (YW 0 13 [7])<|p Qv<|p Qv<|QrL (hi:=k) U h3.arr U U oa λv' hI=>p (QG U)<|pq (λ_ I=>Qk (hn.I I) U U) <|
  p (QG rfl)<|pq (λ_ I=>Qk (hn.I I) U U)<|?_
 have hJ:Zn [] ↑O v' (es.take k).length 9 ((es.take k).flatMap Qt):=by
  rw[LB,Mk oa,<-QaB Qt 9 Z1];exact hI
 refine pk<|xg<|(yj (hJ.I h5) q.kd q.nm).Y ?_;rintro r4 w4 ⟨⟨i,rfl,_⟩,hK⟩;have T:sX O w4:=h5.D hK;refine⟨T,?_⟩;refine p Qv<|p (λ_=>Zi U U)<|p (λ_=>Zi U U)<|p ZG<|p ZG<|pe ?_;have V:=hn.I T;have hb:=(hj.D ho).D T;refine Qm<|QX (α:=Bool) [(28,36)] (λz=>[(28,.bool z)]) (λz w'=>w'=w4/\(z=true↔(q.kd<1\/4<q.kd))) om ?_ ?_
 ·refine Qs<|Qo U V U U<|xb (YX U U) (λhr=>?_) (λhr=>?_)
  ·refine Qa<|Zt<|QC U<|Qb<|⟨true,La,U,⟨λ_=>.inl hr,λ_=>U⟩⟩
  refine Qa<|Qo U V U U<|x (Yc U U)<|QC U<|Qb<|⟨_,La,U,⟨λe=>.inr (OY e),λe=>OX (e.resolve_left hr)⟩⟩
 rintro z g w5 ⟨rfl,Y⟩;refine QU rfl (λhf=>?_) (λhf=>?_)
 ·rw[OU (Y.1 hf)]at G;have J:=S 11 ol G;refine Qc<|Qb<|Qh ⟨[sS 11],La,by rw[hE,J];rfl,hb⟩
 rw[OT (λe=>by rw[Y.2 e]at hf;cases hf)]at G;refine Qc<|Qo U V U U<|Qz<|(V8 q.nm hm.nm w5).Y ?_;rintro r6 w6 ⟨rfl,rfl⟩;refine x (Zy U)<|Qb<|QU U (λhs=>?_) (λhs=>?_)
 ·rw[OU (oA hs)]at G;have J:=S 7 ol G;refine Qc<|Qb<|Qh ⟨[sS 7],La,by rw[hE,J];rfl,hb⟩
 rw[OT (oA hs)]at G;refine Qj<|Qb<|QU U (λht=>?_) (λht=>?_)
 ·rw[OU ht]at G;have J:=S 8 ol G;refine Qc<|Qb<|Qh ⟨[sS 8],La,by rw[hE,J];rfl,hb⟩
 rw[OT (by rw[ht];decide)]at G;refine QX (α:=Bool) [(44,57)] (λz=>[(44,.bool z)]) (λz w'=>sX w6 w'/\(z=true↔(0<k/\q.kd<((es.map DV.it).getD (k - 1) ⟨0,.empty,Vq,[],[],0⟩).kd))) om ?_ ?_
 ·refine Zz [] (YW 0 14 [])<|p Qv<|pb (λ_=>Yc U U) (λhu=>?_) (λhu=>?_)
  ·have hL:0<k:=by have hQ:(0:Int)<(k:Int):=hu;omega
   have hp:k - 1<es.length:=oa
   have hge:((es.map DV.it).getD (k - 1) ⟨0,.empty,Vq,[],[],0⟩).kd=(es[k - 1]'hp).kd:=by simp[oR,hp,DV.it]
   have hM:(k:Int) - 1=((k - 1:Nat):Int):=oa
   refine p Qv<|p (QG U)<|pq (λ_ I=>Qk (V.I I) U U)<|p Qv<|p Qv <|
    p (λ_=>XR U U ⟨oa,oa⟩)<|Go.Lg.pig (g:=Qt) (i:=k - 1) U Z1 (h3.I T).arr U (show Go.Lg.ev _ _=_ from OV sS hM) hp λhR hN=>p (λ_=>Zd U)<|pq (λ_ I=>Qy ((hN.fld 0 (sS (es[k - 1]'hp).kd) U).I I) U) <|
    p (λ_=>YX U U)<|p (Y9 U)<|p ZG<|pe ?_
   refine⟨_,La,O5.C _ _,⟨λe=>⟨hL,by rw[hge];exact OY e⟩,λe=>OX (by rw[hge]at e;exact e.2)⟩⟩
  refine p Qv<|ps<|ps<|ps<|ps<|ps<|ps<|ps<|ps<|ps<|p (Y9 U)<|p ZG<|pe ?_;exact⟨false,La,O5.C _ _,⟨λe=>(by cases e),λe=>OW (show(0:Int)<(k:Int) by omega) hu⟩⟩
 rintro z g w7 ⟨hv,Y⟩;have hw:=hb.D hv;refine QU rfl (λhg=>?_) (λhg=>?_)
 ·rw[OU (Y.1 hg)]at G;have J:=S 5 ol G;refine Qc<|Qb<|Qh ⟨[sS 5],La,by rw[hE,J];rfl,hw⟩
 rw[OT (λe=>by rw[Y.2 e]at hg;cases hg)]at G;refine Qc<|QT (V.I hv) U U<|Qz<|(QgT (hm.I ((ho.D T).D hv))).Y ?_;rintro r8 w8 ⟨rfl,h6⟩;refine x (Zy U)<|Qb<|QU U (λhy=>?_) (λhy=>?_)
 ·rw[OU (oA hy)]at G;refine Qc<|Qb<|Qh ⟨[sS 6],La,by rw[hE,(S 6 ol G)];rfl,hw.D h6⟩
 rw[OT (oA hy)]at G;rw[G,OT ol]at hd;refine Qf<|Qs<|QH U U<|Qa<|xe ?_;exact⟨k+1,oa,La,H,hw.D h6,hd⟩
section
variable {o:List Yi}{X:Option (List Yi)}
theorem Qhu {y:qv}{l:List qv}(h:X=(J7 co (y::l)).map (o++·))(E:Um co y.ls=none):X=none:=by
 rw[h,J7,E];rfl
theorem Qht {y:qv}{l:List qv}(h:X=(J7 co (y::l)).map (o++·)){r:List (ByteArray×Int)}(E:Um co y.ls=some r):X=(J7 co l).map ((o++[⟨3,y.nm,Vq,r,[],0⟩])++·):=by
 rw[h,J7,E];simp only[Option.map_map];congr 1;funext z;simp
theorem Qhw {y:xK}{l:List xK}(h:X=(Kt co (y::l)).map (o++·))(E:Um co y.ts=none):X=none:=by
 rw[h,Kt,E];rfl
theorem Qhv {y:xK}{l:List xK}(h:X=(Kt co (y::l)).map (o++·)){r:List (ByteArray×Int)}(E:Um co y.ts=some r):X=(Kt co l).map ((o++[⟨4,y.nm,Vq,[],r,y.bd⟩])++·):=by
 rw[h,Kt,E];simp only[Option.map_map];congr 1;funext z;simp
end
theorem QiX {X:Option (List Yi)}:X=X.map (([]:List Yi)++·):=by cases X <;> rfl
theorem Qni (h:J7 c.co c.ex=none\/Kt c.co c.cs=none):ZQ c=(2,[]):=by
 unfold ZQ QfT;rcases h with h|h <;> rw[h]
 cases J7 c.co c.ex <;> rfl
theorem Qkm {a b l:List Yi}(E:J7 c.co c.ex=some a)(G:Kt c.co c.cs=some b)(H:l=c.co.map (Vb 1)++(c.rq.map (Vb 2)++(a++b))):ZQ c=if KY l≠0 then(KY l,[])else(0,l):=by
 unfold ZQ QfT;rw[E,G,H]
theorem Jw.app {base:Nat}{w E:O1}{v G:O2}{l:List DV}{H:O1}{q:DV}(h:Jw base w v l)(J:sX w E)(hb:base<=↑w)(O:∀L:LN,(∀b∈L,b<↑w)->Jl L ↑E q)
  (S:H.ownsRow base 70 9 G (l.length+1) (l.flatMap Qt++Qt q)) (T:O5 (ob v) E H) (V:∀b∈ob G,b∈ob v\/↑E<=b):Jw base H G (l++[q]):=
 (Yh.I h J).app (λL Y=>O L (λb ha=>by
  rcases Y b ha with I|I
  ·omega
  exact Q8 h.own b I)) S T V
theorem Qlh {c:CL}(h0:ZI L ↑w c)(g8:c.co.length<=1000)(g9:c.rq.length<=1000)(ka:c.ex.length<=1000)(kb:c.cs.length<=1000)(gv:∀q∈c.ex,q.ls.length<=100000)(hk1:∀q∈c.cs,q.ts.length<=100000):
  QY sV 31 [c.val] w λr w'=>sX w w'/\∃v,r=.tuple #[v,sS (ZQ c.V).1]/\((ZQ c.V).1≠0->v=Zm)/\((ZQ c.V).1=0->∃l,Jw ↑w w' v l/\l.map DV.it=(ZQ c.V).2):=by
 have h:=h0.up (L':=[]) od;have hG:=@Qni c.V;have gg:=@Qkm c.V;refine Zf (ZQ c.V) λR hR=>?_;rw[hR]at hG gg ⊢;refine Zf (J7 c.V.co c.V.ex) λRE go=>?_;refine Zf (Kt c.V.co c.V.cs) λRC gp=>?_;rw[go,gp]at hG gg;refine Zq func31 ?_;refine Qc<|Zl c.cells λb1 I hO kc hH=>x Qi<|Qb ?_;have ke:=hO.size;have h1:=h.I hO;refine Qc<|Qb<|Qd<|Qc<|Qo U (hH.I (O5.Z [] I)) U U<|QF (h1.co.arr.I (O5.Z [] I)) U<|Qa<|xe<|Q7 (α:=Nat×O2×List DV×List Yi) [(4,4),(6,6),(21,34)] (λz=>[(4,z.2.1),(21,sS z.1)]) (λz w'=>z.1<=c.co.length/\sX I w'/\Jw ↑I w' z.2.1 z.2.2.1/\z.2.2.1.map DV.it=([]:List Yi)++z.2.2.2/\z.2.2.2.length=z.1/\z.2.2.2=(c.co.take z.1).map (λq=>Vb 1 q.it)) (λz=>c.co.length - z.1) (0,Zm,[],[]) oB
  ⟨Lo _,(O5.Z [] I),Yh.nil,by rw[LS];exact U,U,U⟩ ?_
 rintro⟨k2,v2,l2,o2⟩ g w2 ⟨gw,hI,hR2,hP,gq,hY⟩;simp only[]at gw hR2 hP gq hY;have gx:=hI.size;have kf:l2.length<=4000:=by
  have e1:=OV oQ hP;simp only[Oc,oN,OI]at e1;omega
 refine Zo rfl U (λY=>?_) (λY=>?_)
 ·refine Qw ?_;have hs:c.co.length<=k2:=by have ht:¬(k2:Int)<(c.co.length:Int):=Y;omega
  rw[Lu hs]at hY;rw[hY,Mc]at hP;refine Qd<|Qc<|Qo U (hH.I hI) U U<|QF (h1.rq.arr.I hI) U<|Qa<|xe<|Q7 (α:=Nat×O2×List DV×List Yi) [(4,4),(8,8),(38,51)] (λz=>[(4,z.2.1),(38,sS z.1)]) (λz w'=>z.1<=c.rq.length/\sX I w'/\Jw ↑I w' z.2.1 z.2.2.1/\z.2.2.1.map DV.it=(c.co.map (λq=>Vb 1 q.it))++z.2.2.2/\z.2.2.2.length=z.1/\z.2.2.2=(c.rq.take z.1).map (λq=>Vb 2 q.it)) (λz=>c.rq.length - z.1) (0,v2,l2,[]) oB
   ⟨Lo _,hI,hR2,by rw[LS];exact hP,U,U⟩ ?_
  rintro⟨k3,v3,l3,o3⟩ g w3 ⟨gy,hJ,hQ,hS,gr,hZ⟩;simp only[]at gy hQ hS gr hZ;have gz:=hJ.size;have kg:l3.length<=4000:=by
   have e1:=OV oQ hS;simp only[Oc,oN]at e1;omega
  refine Zo U U (λY=>?_) (λY=>?_)
  ·refine Qw ?_;have hs:c.rq.length<=k3:=by have ht:¬(k3:Int)<(c.rq.length:Int):=Y;omega
   rw[Lu hs]at hZ;rw[hZ]at hS;refine Qd<|Qc<|Qo U (hH.I hJ) U U<|QF (h1.ex.arr.I hJ) U<|Qa<|xe<|Q7 (α:=Nat×O2×List DV×List Yi) [(2,4),(10,12),(55,73)] (λz=>[(4,z.2.1),(55,sS z.1)]) (λz w'=>z.1<=c.ex.length/\sX I w'/\Jw ↑I w' z.2.1 z.2.2.1/\z.2.2.1.map DV.it=(c.co.map (λq=>Vb 1 q.it)++c.rq.map (λq=>Vb 2 q.it))++z.2.2.2/\z.2.2.2.length=z.1/\RE=(J7 c.V.co ((c.ex.drop z.1).map XV.x)).map (z.2.2.2++·)) (λz=>c.ex.length - z.1) (0,v3,l3,[]) oB
    ⟨Lo _,hJ,hQ,by rw[LS];exact hS,U,go ▸ QiX⟩ ?_
   rintro⟨k4,v4,l4,o4⟩ g w4 ⟨g0,hr,hT,ga,gs,hK⟩;simp only[]at g0 hT ga gs hK;have g2:=hr.size;have kh:l4.length<=4000:=by
    have e1:=OV oQ ga;simp only[Oc,oN]at e1;omega
   refine Zo U U (λY=>?_) (λY=>?_)
   ·refine Qw ?_;have hs:c.ex.length<=k4:=by have ht:¬(k4:Int)<(c.ex.length:Int):=Y;omega
    rw[Lt hs]at hK;have g3:RE=some o4:=by rw[hK];simp[J7]
    refine Qd<|Qc<|Qo U (hH.I hr) U U<|QF (h1.cs.arr.I hr) U<|Qa<|xe<|Q7 (α:=Nat×O2×List DV×List Yi) [(2,4),(14,16),(77,95)] (λz=>[(4,z.2.1),(77,sS z.1)]) (λz w'=>z.1<=c.cs.length/\sX I w'/\Jw ↑I w' z.2.1 z.2.2.1/\z.2.2.1.map DV.it=(c.co.map (λq=>Vb 1 q.it)++c.rq.map (λq=>Vb 2 q.it)++o4)++z.2.2.2/\z.2.2.2.length=z.1/\RC=(Kt c.V.co ((c.cs.drop z.1).map KV.k)).map (z.2.2.2++·)) (λz=>c.cs.length - z.1) (0,v4,l4,[]) oB
     ⟨Lo _,hr,hT,by rw[LS];exact ga,U,gp ▸ QiX⟩ ?_
    rintro⟨k5,v5,l5,o5⟩ g w5 ⟨g4,hM,hR5,gb,gt,hN⟩;simp only[]at g4 hR5 gb gt hN;have g5:=hM.size;have ki:l5.length<=4000:=by
     have e1:=OV oQ gb;simp only[Oc,oN]at e1;omega
    refine Zo U U (λY=>?_) (λY=>?_)
    ·refine Qw ?_;have hs:c.cs.length<=k5:=by have ht:¬(k5:Int)<(c.cs.length:Int):=Y;omega
     rw[Lt hs]at hN;have g6:RC=some o5:=by rw[hN];simp[Kt]
     have hu:=gg (l:=l5.map DV.it) g3 g6 (by rw[gb,LC,LC];simp only[CL.V,List.map_map];rfl);refine Qd<|Qj<|Qz<|(JR (hR5.dits (L:=[]) oa od)).Y ?_;rintro r6 w6 ⟨rfl,J⟩;have gu:sX w w6:=hO.D (hM.D J);refine Qb<|Qj<|Zx U U<|xe<|QO U (λgc=>?_) (λgc=>?_)
     ·rw[OU gc]at hu;refine Qj<|x Qi<|Qb<|Qh ⟨[Zm,sS (KY (l5.map DV.it))],oB,gu,Zm,by rw[hu];rfl,λ_=>U,λe=>?_⟩;rw[hu]at e;exact OW e gc
     rw[OT gc]at hu;refine Qf<|Qj<|x Qi<|Qb<|Qh ⟨[v5,sS 0],oB,gu,v5,by rw[hu];rfl,λe=>OW (by rw[hu]) e,λ_=>⟨l5,(Yh.I hR5 J).base oa,by rw[hu]⟩⟩
    have E:k5<c.cs.length:=by have ht:(k5:Int)<(c.cs.length:Int):=Y;omega
    have hj:c.cs.drop k5=c.cs[k5]'E::c.cs.drop (k5+1):=LF E;have hk:c.cs.take (k5+1)=c.cs.take k5++[c.cs[k5]'E]:=Ln E;have T:=Lm E;have V:=h1.I hM;refine Qf<|Qd<|Qm<|Qc<|xig (g:=Q9) (i:=k5) Xq V.cs.arr U U E λgh hf=>?_;refine Zf (c.cs[k5]'E) λq hq=>?_;rw[hq]at hf hk T hj;have ha:=V.cs.each q T;have hv:=V.cs.nm q T;rw[hj,LJ]at hN;refine x (Qr hf U U)<|QM [.string .empty,Zm,sS 0] λb5 w6 J hw hy=>QK (Q9 q) hy ⟨U,ha.one,U,Z⟩ λw7 hz hl=>xe ?_;have O:sX w5 w7:=J.O hz hw;have gi:=O.size;refine Qc<|Qo U ((hH.I hM).I O) U U<|QT hl U U<|Qz<|(Qks (V.co.I O) (ha.I O) hv (hk1 q T)).Y ?_;rintro r8 w8 ⟨h2,hm⟩;have hU:=O.D h2;refine Or.elim (Qmf (Um (c.co.map (·.it)) q.ts)) (λhn=>?_) (λhn=>?_)
    ·have hV:=Qhw hN hn;rw[hn]at hm;have he:r8=.tuple #[sT z9,sS 2]:=hm;subst he;refine Qa<|QW U U<|QW U U<|QM z9 λgj w9 h3 h4 h6=>QK z9 h6 ⟨U,U,U,U,U,U,U,U,U,Z⟩ λho H hW=>Qb<|Qd<|Qj<|Zx U U<|xe<|QO U (λhg=>?_) (λhg=>OW (show(2:Int)≠0 by decide) hg);refine Qj<|x Qi<|Qb<|Qh ⟨[Zm,sS 2],oB,hO.D ((hM.D hU).D (h3.O H h4)),Zm,?_,λ_=>U,λe=>?_⟩
     ·rw[hG (.inr hV)];rfl
     rw[hG (.inr hV)]at e;exact OW e ol
    refine Exists.elim hn λn hn=>?_;have gk:=Qhv hN hn;rw[hn]at hm;have he:∃d:DV,r8=.tuple #[sT (Qt d),sS 0]/\d.it=⟨4,q.nm,Vq,[],n,q.bd⟩/\∀L:LN,(∀b∈L,b<↑w7)->Jl L ↑w8 d:=hm;refine Exists.elim he λG he=>?_;have gl:=he.1;have h7:=he.2.1;have hp:=he.2.2;subst gl;have gm:Jl [] ↑w8 G:=hp [] od;refine Qa<|QW U U<|QW U U<|QM z9 λgj g7 h3 h4 h6=>QK (Qt G) h6 gm.ones λw9 H hW=>Qb ?_;have hX:sX w8 w9:=h3.O H h4;have S:=hU.D hX;have hh:∀L:LN,(∀b∈L,b<↑w5)->Jl L ↑w9 G:=λL hL=>(hp L (λb hb=>ov (hL b hb))).I hX;refine Qd<|Qj<|Zx U U<|xe<|QO U (λhg=>OW U hg) (λhg=>?_);refine Qf<|Qs<|Qa<|QT hW U U<|?_;have h8:Jw ↑I w9 v5 l5:=Yh.I hR5 S;refine Qn<|Za [Qt G] λh9 ho H gn hA=>?_;have hB:At [] ↑ho ⟨h9,0,none⟩ (Qt G):=by have:=hA.at (L:=[]) od;simpa using this
    refine Qn<|Jc (m:=1) (news:=Qt G) (Yh.I h8 H).own U U U hB (V0 (hh [] od)) oa (oy S.size H.size) λv6 hi hC J hD=>?_;refine Qb ?_;have hE:Jw ↑I hi v6 (l5++[G]):=hR5.app (S.D H) g5 (λL hL=>(hh L hL).I H) hC J hD;have hF:sX I hi:=((hM.D S).D H).S J λb hb=>.inr (Qg hR5.own b hb).1;refine Qs<|QH U U<|Qa<|xe<|⟨(k5+1,v6,l5++[G],o5++[G.it]),by show c.cs.length - (k5+1)<c.cs.length - k5;omega,oB,E,hF,hE,by simp only[];rw[Lr,gb,LC];rfl,by simp[gt],?_⟩;simp only[];rw[h7];exact gk
   have E:k4<c.ex.length:=by have ht:(k4:Int)<(c.ex.length:Int):=Y;omega
   have hj:c.ex.drop k4=c.ex[k4]'E::c.ex.drop (k4+1):=LF E;have hk:c.ex.take (k4+1)=c.ex.take k4++[c.ex[k4]'E]:=Ln E;have T:=Lm E;have V:=h1.I hr;refine Qf<|Qd<|Qm<|Qc<|xig (g:=Q3) (i:=k4) Xx V.ex.arr U U E λgh hf=>?_;refine Zf (c.ex[k4]'E) λq hq=>?_;rw[hq]at hf hk T hj;have ha:=V.ex.each q T;have hv:=V.ex.nm q T;rw[hj,LJ]at hK;refine x (Qr hf U U)<|QM [.string .empty,Zm] λb5 w6 J hw hy=>QK (Q3 q) hy ⟨U,ha.one,Z⟩ λw7 hz hl=>xe ?_;have O:sX w4 w7:=J.O hz hw;have gi:=O.size;refine Qc<|Qo U ((hH.I hr).I O) U U<|QT hl U U<|Qz<|(Qj3 (V.co.I O) (ha.I O) hv (gv q T)).Y ?_;rintro r8 w8 ⟨h2,hm⟩;have hU:=O.D h2;refine Or.elim (Qmf (Um (c.co.map (·.it)) q.ls)) (λhn=>?_) (λhn=>?_)
   ·have hV:=Qhu hK hn;rw[hn]at hm;have he:r8=.tuple #[sT z9,sS 2]:=hm;subst he;refine Qa<|QW U U<|QW U U<|QM z9 λgj w9 h3 h4 h6=>QK z9 h6 ⟨U,U,U,U,U,U,U,U,U,Z⟩ λho H hW=>Qb<|Qd<|Qj<|Zx U U<|xe<|QO U (λhg=>?_) (λhg=>OW (show(2:Int)≠0 by decide) hg);refine Qj<|x Qi<|Qb<|Qh ⟨[Zm,sS 2],oB,hO.D ((hr.D hU).D (h3.O H h4)),Zm,?_,λ_=>U,λe=>?_⟩
    ·rw[hG (.inl hV)];rfl
    rw[hG (.inl hV)]at e;exact OW e ol
   refine Exists.elim hn λn hn=>?_;have gk:=Qht hK hn;rw[hn]at hm;have he:∃d:DV,r8=.tuple #[sT (Qt d),sS 0]/\d.it=⟨3,q.nm,Vq,n,[],0⟩/\∀L:LN,(∀b∈L,b<↑w7)->Jl L ↑w8 d:=hm;refine Exists.elim he λG he=>?_;have gl:=he.1;have h7:=he.2.1;have hp:=he.2.2;subst gl;have gm:Jl [] ↑w8 G:=hp [] od;refine Qa<|QW U U<|QW U U<|QM z9 λgj g7 h3 h4 h6=>QK (Qt G) h6 gm.ones λw9 H hW=>Qb ?_;have hX:sX w8 w9:=h3.O H h4;have S:=hU.D hX;have hh:∀L:LN,(∀b∈L,b<↑w4)->Jl L ↑w9 G:=λL hL=>(hp L (λb hb=>ov (hL b hb))).I hX;refine Qd<|Qj<|Zx U U<|xe<|QO U (λhg=>OW U hg) (λhg=>?_);refine Qf<|Qs<|Qa<|QT hW U U<|?_;have h8:Jw ↑I w9 v4 l4:=Yh.I hT S;refine Qn<|Za [Qt G] λh9 ho H gn hA=>?_;have hB:At [] ↑ho ⟨h9,0,none⟩ (Qt G):=by have:=hA.at (L:=[]) od;simpa using this
   refine Qn<|Jc (m:=1) (news:=Qt G) (Yh.I h8 H).own U U U hB (V0 (hh [] od)) oa (oy S.size H.size) λv6 hi hC J hD=>?_;refine Qb ?_;have hE:Jw ↑I hi v6 (l4++[G]):=hT.app (S.D H) g2 (λL hL=>(hh L hL).I H) hC J hD;have hF:sX I hi:=((hr.D S).D H).S J λb hb=>.inr (Qg hT.own b hb).1;refine Qs<|QH U U<|Qa<|xe<|⟨(k4+1,v6,l4++[G],o4++[G.it]),by show c.ex.length - (k4+1)<c.ex.length - k4;omega,oB,E,hF,hE,by simp only[];rw[Lr,ga,LC];rfl,by simp[gs],?_⟩;simp only[];rw[h7];exact gk
  have E:k3<c.rq.length:=by have ht:(k3:Int)<(c.rq.length:Int):=Y;omega
  have hj:c.rq.drop k3=c.rq[k3]'E::c.rq.drop (k3+1):=LF E;have hk:c.rq.take (k3+1)=c.rq.take k3++[c.rq[k3]'E]:=Ln E;have T:=Lm E;have V:=h1.I hJ;refine Qf<|Qd<|Qm<|Qc<|xig (g:=QJ) (i:=k3) Yv V.rq.arr U U E λgh hf=>?_;refine Zf (c.rq[k3]'E) λq hq=>?_;rw[hq]at hf hk T hj;have ha:=V.rq.each q T;have hv:=V.rq.nm q T;refine x (Qr hf U U)<|QM [.string .empty,Zm,sS 0,Zm,Zm] λb5 w6 J hw hy=>QK (QJ q) hy ⟨U,ha.al.one,U,ha.mr.one,ha.ed.one,Z⟩ λw7 hz hl=>xe ?_;have O:sX w3 w7:=J.O hz hw;refine Qs<|Qa<|Qo U hl U U<|QQ U<|x (Zh (us:=[q.p.va,sS q.p.a.st,q.p.vm,q.p.ve]) hl U U U)<|x (Q5 [(0,[sS 2]),(1,[.string q.nm]),(2,[q.p.va,sS q.p.a.st,q.p.vm,q.p.ve])] ⟨U,U,U,U,U,U,Z⟩) <|
   Qz<|(KK (q:=⟨2,q.nm,q.p,Zm,[],Zm,[],0⟩) (L:=[]) ⟨hv,ha.I O,V4.nil,V4.nil⟩).Y ?_
  rintro r8 w9 ⟨h2,G,rfl,h7,hp⟩;have S:=O.D h2;have gi:=O.size;have hh:∀L:LN,(∀b∈L,b<↑w3)->Jl L ↑w9 G:=λL hL=>hp L (λb hb=>ov (hL b hb));have h8:Jw ↑I w9 v3 l3:=Yh.I hQ S;refine Qn<|Za [Qt G] λh9 ho H gn hA=>?_;have hB:At [] ↑ho ⟨h9,0,none⟩ (Qt G):=by have:=hA.at (L:=[]) od;simpa using this
  refine Qn<|Jc (m:=1) (news:=Qt G) (Yh.I h8 H).own U U U hB (V0 (hh [] od)) oa (oy S.size H.size) λv6 hi hC J hD=>?_;refine Qb ?_;have hE:Jw ↑I hi v6 (l3++[G]):=hQ.app (S.D H) gz (λL hL=>(hh L hL).I H) hC J hD;have hF:sX I hi:=((hJ.D S).D H).S J λb hb=>.inr (Qg hQ.own b hb).1;refine Qs<|QH U U<|Qa<|xe<|⟨(k3+1,v6,l3++[G],o3++[G.it]),by show c.rq.length - (k3+1)<c.rq.length - k3;omega,oB,E,hF,hE,by simp only[];rw[Lr,hS,LC];rfl,by simp[gr],?_⟩;simp only[];rw[hk,Lr,<-hZ,h7];rfl
 have E:k2<c.co.length:=by have ht:(k2:Int)<(c.co.length:Int):=Y;omega
 have hj:c.co.drop k2=c.co[k2]'E::c.co.drop (k2+1):=LF E;have hk:c.co.take (k2+1)=c.co.take k2++[c.co[k2]'E]:=Ln E;have T:=Lm E;have V:=h1.I hI;refine Qf<|Qd<|Qm<|Qc<|xig (g:=QJ) (i:=k2) Yv V.co.arr U U E λgh hf=>?_;refine Zf (c.co[k2]'E) λq hq=>?_;rw[hq]at hf hk T hj;have ha:=V.co.each q T;have hv:=V.co.nm q T;refine x (Qr hf U U)<|QM [.string .empty,Zm,sS 0,Zm,Zm] λb5 w6 J hw hy=>QK (QJ q) hy ⟨U,ha.al.one,U,ha.mr.one,ha.ed.one,Z⟩ λw7 hz hl=>xe ?_;have O:sX w2 w7:=J.O hz hw;refine Qs<|Qa<|Qo U hl U U<|QQ U<|x (Zh (us:=[q.p.va,sS q.p.a.st,q.p.vm,q.p.ve]) hl U U U)<|x (Q5 [(0,[sS 1]),(1,[.string q.nm]),(2,[q.p.va,sS q.p.a.st,q.p.vm,q.p.ve])] ⟨U,U,U,U,U,U,Z⟩) <|
  Qz<|(KK (q:=⟨1,q.nm,q.p,Zm,[],Zm,[],0⟩) (L:=[]) ⟨hv,ha.I O,V4.nil,V4.nil⟩).Y ?_
 rintro r8 w9 ⟨h2,G,rfl,h7,hp⟩;have S:=O.D h2;have gi:=O.size;have hh:∀L:LN,(∀b∈L,b<↑w2)->Jl L ↑w9 G:=λL hL=>hp L (λb hb=>ov (hL b hb));have h8:Jw ↑I w9 v2 l2:=Yh.I hR2 S;refine Qn<|Za [Qt G] λh9 ho H gn hA=>?_;have hB:At [] ↑ho ⟨h9,0,none⟩ (Qt G):=by have:=hA.at (L:=[]) od;simpa using this
 refine Qn<|Jc (m:=1) (news:=Qt G) (Yh.I h8 H).own U U U hB (V0 (hh [] od)) oa (oy S.size H.size) λv6 hi hC J hD=>?_;refine Qb ?_;have hE:Jw ↑I hi v6 (l2++[G]):=hR2.app (S.D H) gx (λL hL=>(hh L hL).I H) hC J hD;have hF:sX I hi:=((hI.D S).D H).S J λb hb=>.inr (Qg hR2.own b hb).1;refine Qs<|QH U U<|Qa<|xe<|⟨(k2+1,v6,l2++[G],o2++[G.it]),by show c.co.length - (k2+1)<c.co.length - k2;omega,oB,E,hF,hE,by simp only[];rw[Lr,hP,LC];rfl,by simp[gq],?_⟩;simp only[];rw[hk,Lr,<-hY,h7];rfl
structure CSz (c:ZF):Prop where
 c1:c.co.length<=1000
 c2:c.rq.length<=1000
 c3:c.ex.length<=1000
 c4:c.cs.length<=1000
 x:∀q∈c.ex,q.ls.length<=100000
 k:∀q∈c.cs,q.ts.length<=100000
theorem Qhe {n:Int}(h:Xa l)(E:∀x∈l,0<=x/\x<n)(G:n<=8):l.length<=8:=by
 have:=Je l 0 n h E;omega
theorem Vf (h:Zj c=0):CSz c:=by
 have E:=QhB.1 h;have hd:=VM E.cd;have I:(szs c.co).length=c.co.length:=Lh _;have J:=E.n8;refine⟨oa,ov E.n12,ov hd.xl,ov hd.kl,λq G=>?_,λq G=>?_⟩
 ·have:=Qhe ((QhA E.cd).1 q G).1 (n:=((szs c.co).length:Int)) (λx hx=>by
   obtain⟨p,H,rfl⟩:=LD.1 hx;exact hd.x q G p H) oa
  rw[Lh]at this;omega
 have:=(hd.k q G).2;omega
theorem CSz.its {c:CL}(h:CSz c.V):c.co.length<=1000/\c.rq.length<=1000/\c.ex.length<=1000/\c.cs.length<=1000/\(∀q∈c.ex,q.ls.length<=100000)/\∀q∈c.cs,q.ts.length<=100000:=by
 have e1:c.V.co.length=c.co.length:=Lh _;have e2:c.V.rq.length=c.rq.length:=Lh _;have G:c.V.ex.length=c.ex.length:=Lh _;have H:c.V.cs.length=c.cs.length:=Lh _;exact⟨e1 ▸ h.c1,e2 ▸ h.c2,G ▸ h.c3,H ▸ h.c4,λq E=>h.x q.x (LP E),λq E=>h.k q.k (LP E)⟩
theorem yY {c:CL}(E:ZI L ↑w c)(G:CSz c.V):
  QY sV 31 [c.val] w λr w'=>sX w w'/\∃v,r=.tuple #[v,sS (ZQ c.V).1]/\((ZQ c.V).1≠0->v=Zm)/\((ZQ c.V).1=0->∃l,Jw ↑w w' v l/\l.map DV.it=(ZQ c.V).2):=
 let h:=G.its;Qlh E h.1 h.2.1 h.2.2.1 h.2.2.2.1 h.2.2.2.2.1 h.2.2.2.2.2
theorem Qex {c:CL}(E:ZI L ↑w c)(G:CSz c.V):
  QY sV 33 [c.val] w λr w'=>sX w w'/\QeV ↑w ↑w' r c.V :=
 let h:=G.its;QpD E h.1 h.2.1
abbrev z9s:LV:=[nS,nS,nS,nS,nS,nS,sS 0,nS,nS]
instance:Bw sV 126 z9s [(0,5),(5,1),(6,1),(7,1),(8,1)]:={}
abbrev UZ:O2:=.pointer none
abbrev pS (b:Nat):O2:=sP b
theorem Qle {c:CL}(I:ZI L ↑w c)(hz:CSz c.V)(hy:Kb w 4096):
  QY sV 8 [c.val] w λr w'=>sX w w'/\∃vp,r=.tuple #[vp,sS (VB c.V)]/\(VB c.V≠0->vp=UZ)/\(VB c.V=0->∃s:X7,vp=pS s.b/\s.sys=Qbx c.V/\(∀b∈s.own,↑w<=b)/\KS (s.own++oV ↑w) w' s):=by
 have h:=I.up (L':=[]) od;have H:VB c.V=if(ZQ c.V).1≠0 then(ZQ c.V).1 else if Zj c.V≠0 then Zj c.V else Jg c.V [] 0:=rfl
 refine Zf (VB c.V) λE hE=>?_;rw[hE]at H ⊢;refine Zq func8 ?_;refine Qc<|Zl c.cells λb1 w1 hm h1 S=>x Qi<|Qb<|Qd<|Qc<|QT S U U<|Qz<|(yY (h.I hm) hz).Y ?_;rintro r2 w2 ⟨T,v2,rfl,_,_⟩;have hf:=hm.D T;have hD:=T.size;refine Qa<|QW U U<|QW U U<|x Qi<|Qb<|Qj<|Zx U U<|xe<|QO rfl (λY=>?_) (λY=>?_)
 ·rw[OU Y]at H;refine Qj<|x Qi<|Qb<|Qh ⟨[UZ,sS (ZQ c.V).1],oB,hf,UZ,by rw[H];rfl,λ_=>U,λI=>OW (H.symm.D I) Y⟩
 rw[OT Y]at H;refine Qf<|Qd<|Qc<|QT (S.I T) U U<|Qz<|(Xl (h.I hf)).Y ?_;rintro r3 w3 ⟨rfl,ha⟩;have hg:=hf.D ha;have hF:=ha.size;refine Qb<|Qj<|Zx U U<|xe<|QO rfl (λhc=>?_) (λhc=>?_)
 ·rw[OU hc]at H;refine Qj<|x Qi<|Qb<|Qh ⟨[UZ,sS (Zj c.V)],oB,hg,UZ,by rw[H];rfl,λ_=>U,λI=>OW (H.symm.D I) hc⟩
 rw[OT hc]at H;have hG:=S.lt;refine Qf<|Qc<|QT ((S.I T).I ha) U U<|Qz<|(Qex (h.I hg) hz).Y ?_;rintro _ w4 ⟨hh,c4,rfl,hn,ho⟩;have hH:=hh.size;refine QK c4.cells (((S.I T).I ha).I hh) (ho [] od).ones λw5 hi hp=>xe ?_;have hr:sX w w5:=(hg.D hh).O hi h1;have hI:=hi.size;have h2:∀b∈b1::oV ↑w,b<w3.heap.size:=λb G=>by
  rcases Lj.1 G with rfl|G
  ·omega
  have:=Nw.1 G;omega
 have hs:ZI (b1::oV ↑w) ↑w5 c4:=(ho _ h2).st (hi.Y od);have hbld:=Qdw (L':=oV ↑w) (vb:=Zm) (ps:=[]) (v:=0) hs ⟨Zn.nil _ _ _,od⟩ (λb G=>ov (Nw.1 G)) .nil od (hy.I hr);rw[hn]at hbld;refine Qc<|QT hp U U<|Qz<|hbld.Y ?_;rintro r6 w6 ⟨he,vp,us,rfl,h3,h4,hJ,h5⟩;have hK:=he.size;refine Qa<|QW U U<|QW U U<|QW U U<|QM ZU λb8 w7 h6 h7 h8=>x Qi <|
  Qn<|Zv (us:=us) h8 U U h3 U h4 λw8 h9 ht=>Qb ?_
 have O:sX w6 w8:=h6.O h9 h7;have hu:=(hr.D he).D O;refine Qd<|Qj<|Zx U U<|xe<|QO rfl (λhj=>?_) (λhj=>?_)
 ·refine Qj<|x Qi<|Qb<|Qh ⟨[UZ,sS (Jg c.V [] 0)],oB,hu,UZ,by rw[H];rfl,λ_=>U,λI=>OW (H.symm.D I) hj⟩
 have hk:Jg c.V [] 0=0:=Lp.1 hj;refine Exists.elim (h5 hk) λqs J=>Exists.elim J λq J=>?_;have hA:us=[q.v1,q.v2,q.v3]:=J.1;rw[hA]at ht;refine Qf<|Qc<|QT (hp.I (he.D O)) U U<|Qa<|Qo U ht U U<|x (Yo ((J.2.2.2.2.2 [] od).I O).a2 rfl) <|
  x (Q5 [(0,c4.cells),(1,[vp]),(2,[sS (q.k2.length:Int)])] ⟨U,U,xL J.2.2.2.1,U,U,U,Z⟩) <|
  Zl (Qbc ⟨0,⟨c4,vp,qs⟩,q.k2.length,Zm,[],Zm,[]⟩) λV w9 hl hB hv=>x Qi<|Qb ?_
 have hL:=O.size;have hM:=hv.lt;have hw:∀b∈V::oV ↑w,b∈oV ↑w\/↑w8<=b:=λb G=>by
  rcases Lj.1 G with rfl|G
  ·exact .inr hB
  exact .inl G
 refine Qh ⟨[pS V,sS 0],oB,hu.D hl,pS V,by rw[H,hk];rfl,λI=>OW (H.D hk) I,λ_=>⟨⟨V,⟨c4,vp,qs⟩,q.k2.length,Zm,[],Zm,[]⟩,U,?_,λb G=>?_,?_⟩⟩
 ·unfold X7.sys Qbx;simp only[];rw[hn];have e1:qs.map (·.pt)=VO c.V [] 0:=J.2.1;have e2:q.rp=YN c.V [] 0:=J.2.2.1;have e3:(YN c.V [] 0).made=q.k2:=by rw[<-e2];rfl
  rw[e1,e3];rfl
 ·have hC:b∈[V]:=G;rw[Lb.1 hC];omega
 refine⟨⟨_,hv⟩,QE _ _ _ _,QE _ _ _ _,by simp[ob],by simp[ob],by simp[ob],λb G=>Lc.2 (.inl G),⟨?_,?_⟩,od,od⟩
 ·exact(((hs.I (he.D O)).up λb G=>(hw b G).imp (Lk _) id).I hl)
 exact(Go.Lg.XQ.up (Go.Lg.XQ.I J.2.2.2.2.1 O) hw).I hl
theorem Qcp {s:X7}(h:KS L w s):
  QY sV 59 [pS s.b] w λr w'=>r=sS s.made/\w'=w:=by
 obtain⟨T,E⟩:=h.blk;refine Zq func59 ?_;refine Qc<|Qb<|Qd<|Qj<|x (Jj underlying47 U U)<|xe<|ZO rfl<|Qf<|Qj<|Yd U<|Qo U E U U<|Qb<|Qh ⟨[_],La,U,U⟩
theorem Qiy {s:X7}(h:KS L w s)(S:CSz s.s.c.V):
  QY sV 11 [pS s.b] w λr w'=>sX w w'/\∃cm:CL,r=.tuple #[sT cm.cells,sS 0]/\cm.V=s.s.c.V/\∀L:LN,(∀b∈L,b<↑w)->ZI L ↑w' cm:=by
 obtain⟨T,V⟩:=h.blk;refine Zq func11 ?_;refine Qc<|QM Z8 λb2 w1 G Y H=>Qb ?_;have he:=G.size;refine Qd<|Qj<|x (Jj underlying47 U U)<|xe<|ZO rfl<|Qf<|Qj<|Yd U<|QQ U<|x (Zh (us:=s.s.c.cells) (V.I G) U U U)<|Qz<|(Qex (h.st.c.I G) S).Y ?_;rintro _ w3 ⟨I,cm,rfl,hc,J⟩;refine QK cm.cells (H.I I) (J [] od).ones λw4 O ha=>Qb<|Qh ⟨[sT cm.cells,sS 0],⟨Yl ha,rfl,Z⟩,(G.D I).O O Y,cm,rfl,hc,λN hN=>?_⟩;exact((J (b2::N) (λb E=>by
  rcases Lj.1 E with rfl|E
  ·exact H.lt
  have:=hN b E;omega)).st (O.Y od)).up λb E=>.inl (Lk _ E)
theorem Qcq {s:X7}(h:KS L w s)(hl:s.s.ps.length<=1000):
  QY sV 18 [pS s.b] w λr w'=>sX w w'/\∃v es,r=.tuple #[v,sS 0]/\es.map EnV.en=s.s.ps.map (λq=>q.pt.en)/\Yh ZT 10 92 zf ↑w w' v es:=by
 obtain⟨T,hB⟩:=h.blk;have hp:jS [] ↑w s.s.vp s.s.ps:=h.st.p.up od;refine Zq func18 ?_;refine Qc<|x Qi<|Qb<|Qd<|Qj<|x (Jj underlying47 U U)<|xe<|ZO rfl<|Qf<|Qc<|Qb<|Qd<|Qj<|Yd U<|Qo U hB U U<|QF hp.arr U<|Qa<|xe<|Q7 (α:=Nat×O2×List EnV) [(4,4),(6,6),(14,24)] (λz=>[(4,z.2.1),(14,sS z.1)]) (λz w'=>z.1<=s.s.ps.length/\sX w w'/\Yh ZT 10 92 zf ↑w w' z.2.1 z.2.2/\z.2.2.map EnV.en=(s.s.ps.take z.1).map λq=>q.pt.en) (λz=>s.s.ps.length - z.1) (0,Zm,[]) oB ⟨Lo _,O5.Z _ _,Yh.nil,U⟩ ?_;rintro⟨k,vo,l⟩ g V ⟨hk,J,hR,G⟩;simp only[]at hk hR G;have h3:l.length=k:=by have:=OV oQ G;rw[Lh,Lh,LB]at this;omega
 refine Zo rfl U (λY=>?_) (λY=>?_)
 ·refine Qw ?_;have hj:s.s.ps.length<=k:=by have O:¬(k:Int)<(s.s.ps.length:Int):=Y;omega
  rw[Lu hj]at G;refine Qj<|x Qi<|Qb<|Qh ⟨[vo,sS 0],oB,J,vo,l,U,G,hR⟩
 have E:k<s.s.ps.length:=by have O:(k:Int)<(s.s.ps.length:Int):=Y;omega
 have hc:s.s.ps.take (k+1)=s.s.ps.take k++[s.s.ps[k]'E]:=Ln E;have he:=Lm E;have hf:jS [] ↑V s.s.vp s.s.ps:=Go.Lg.XQ.I hp J;refine Qf<|Qd<|Qm<|Qc<|xig (g:=Zp) (i:=k) K0 hf.arr U U E λh4 O=>?_;refine Zf (s.s.ps[k]'E) λq hq=>?_;rw[hq]at O hc he;have hg:V6 [] ↑V q:=hf.each q he;refine x (Qr O U U)<|QM z15 λb6 w2 hn ho hr=>QK (Zp q) hr hg.ones λw3 hs ht=>xe ?_;have H:sX V w3:=hn.O hs ho;have h5:=H.size;have h6:=J.size;refine Qs<|Qa<|QQ U<|x (Zh (us:=ZT q.e) ht U U U)<|Qz<|(QpC (hg.e.I H)).Y ?_;rintro r4 w4 ⟨ha,I,rfl,hu,hh⟩;have h7:=ha.size;have hv:=Q8 (hR.I H).own;refine Qn<|Za [ZT I] λhw w5 S h8 hy=>?_;have h9:=S.size;have hz:At [] ↑w5 ⟨hw,0,none⟩ (ZT I):=by have:=hy.at (L:=[]) od;simpa using this
 have hR5:=((hR.I H).I ha).I S;refine Qn<|Jc (m:=1) (news:=ZT I) hR5.own U U U hz (hh [] od).ones.all oa oa λv6 w6 h0 hi h1=>?_;refine Qb ?_;have h2:Yh ZT 10 92 zf ↑w w6 v6 (l++[I]):=hR5.app (λL hL=>(hh L (λb hb=>by
  rcases hL b hb with h|h
  ·omega
  exact hv b h)).I S) h0 hi h1
 refine Qs<|QH U U<|Qa<|xe<|⟨(k+1,v6,l++[I]),by show s.s.ps.length - (k+1)<s.s.ps.length - k;omega,oB,E,((((J.D H).D ha).D S).S hi λb hb=>.inr (Qg hR.own b hb).1),h2,?_⟩;simp only[];rw[hc,Lr,Lr,G,LJ,LJ,hu];rfl
theorem Qco {s:X7}(h:KS L w s)(hl:s.rs.length<=1000):
  QY sV 91 [pS s.b] w λr w'=>sX w w'/\∃es,es.map V5.rp=s.rs.map V5.rp/\Yh Q0 3 60 Jt ↑w w' r es:=by
 obtain⟨T,hB⟩:=h.blk;have ha:Zn [] ↑w s.vr s.rs.length 3 (s.rs.flatMap Q0):=QB h.rr oa od;refine Zq func91 ?_;refine Qc<|Qb<|Qd<|Qj<|x (Jj underlying47 U U)<|xe<|ZO rfl<|Qf<|Qc<|Qb<|Qd<|Qj<|Yd U<|Qo U hB U U<|QF ha U<|Qa<|xe<|Q7 (α:=Nat×O2×List V5) [(3,3),(5,5),(13,22)] (λz=>[(3,z.2.1),(13,sS z.1)]) (λz w'=>z.1<=s.rs.length/\sX w w'/\Yh Q0 3 60 Jt ↑w w' z.2.1 z.2.2/\z.2.2.map V5.rp=(s.rs.take z.1).map V5.rp) (λz=>s.rs.length - z.1) (0,Zm,[]) oB ⟨Lo _,O5.Z _ _,Yh.nil,U⟩ ?_;rintro⟨k,vo,l⟩ g w1 ⟨hk,G,hR,H⟩;simp only[]at hk hR H;have h1:l.length=k:=by have:=OV oQ H;rw[Lh,Lh,LB]at this;omega
 refine Zo rfl U (λV=>?_) (λV=>?_)
 ·refine Qw ?_;have hi:s.rs.length<=k:=by have O:¬(k:Int)<(s.rs.length:Int):=V;omega
  rw[Lu hi]at H;refine Qj<|Qb<|Qh ⟨[vo],La,G,l,H,hR⟩
 have E:k<s.rs.length:=by have O:(k:Int)<(s.rs.length:Int):=V;omega
 have hc:s.rs.take (k+1)=s.rs.take k++[s.rs[k]'E]:=Ln E;have he:=Lm E;refine Qf<|Qd<|Qm<|Qc<|xig (g:=Q0) (i:=k) yx (ha.I G) U U E λh2 O=>?_;refine Zf (s.rs[k]'E) λq hq=>?_;rw[hq]at O hc he;have hf:Jt [] ↑w1 q:=((h.rA q he).up od).I G;refine x (Qr O U U)<|QM ZU λb6 w2 hj hn ho=>QK (Q0 q) ho hf.ones λw3 hp hr=>xe ?_;have I:sX w1 w3:=hj.O hp hn;have h3:=I.size;have h4:=G.size;refine Qs<|Qa<|QT hr U U<|Qz<|(Qkr (hf.I I)).Y ?_;rintro r4 w4 ⟨Y,J,rfl,hs,hg⟩;have h5:=Y.size;have ht:=Q8 (hR.I I).own;refine Qn<|Za [Q0 J] λhu w5 S h6 hv=>?_;have h7:=S.size;have hw:At [] ↑w5 ⟨hu,0,none⟩ (Q0 J):=by have:=hv.at (L:=[]) od;simpa using this
 have hR5:=((hR.I I).I Y).I S;refine Qn<|Jc (m:=1) (news:=Q0 J) hR5.own U U U hw (hg [] od).ones.all oa oa λv6 w6 hy hh hz=>?_;refine Qb ?_;have h0:Yh Q0 3 60 Jt ↑w w6 v6 (l++[J]):=hR5.app (λL hL=>(hg L (λb hb=>by
  rcases hL b hb with h|h
  ·omega
  exact ht b h)).I S) hy hh hz
 refine Qs<|QH U U<|Qa<|xe<|⟨(k+1,v6,l++[J]),by show s.rs.length - (k+1)<s.rs.length - k;omega,oB,E,((((G.D I).D Y).D S).S hh λb hb=>.inr (Qg hR.own b hb).1),h0,?_⟩;simp only[];rw[hc,Lr,Lr,H,LJ,LJ,hs]
theorem QfJ {α:Type}(g:α->LV)(sz:Nat)(E:∀x,(g x).length=sz):∀(l:List α) (k:Nat),(l.flatMap g).drop (k*sz)=(l.drop k).flatMap g
 | [],k=>od
 | a::l,0=>od
 | a::l,k+1=>by
  rw[show(k+1)*sz=(g a).length+k*sz by rw[E a,Nat.succ_mul];omega,LM,List.drop_append,Lt oa,Mc,ML,QfJ g sz E l k];rfl
theorem Qc7 {base:Nat}{v:O2}{l:List DV}(h:Jw base w v l):∀q∈l,∀u∈Qt q,u.oneCell'=true:=λq E=>V0 (h.each q E [] od)
theorem Jw.turn {base:Nat}{v r:O2}{l l':List DV}(h:Jw base w v l)(G:O5 (ob v) w w')(H:∀b∈ob r,b∈ob v)(I:∀q∈l',q∈l)(J:w'.ownsRow base 70 9 r l'.length (l'.flatMap Qt)):Jw base w' r l' :=
 ⟨J,λq O L S=>Mm.Y (Mm.st (L:=ob v++L) (h.each q (I q O) _ λb E=>by
  rcases Lc.1 E with E|E
  ·exact .inr E
  exact(S b E).imp id (H b)) (G.Y λb E=>Lc.2 (.inl E))) λb E=>Lc.2 (.inr E)⟩
theorem Qnd {base:Nat}{v:O2}{l:List DV}(hR:Jw base w v l){k:Nat}(hk:k<l.length)(hl:l.length<=1000):
  QY sV 157 [v,sS (k:Int),sS ((k+1:Nat):Int)] w λr w'=>O5 (ob v) w w'/\Jw base w' r (l.take k++l.drop (k+1)):=by
 have h:=hR.own;have he:=Qc7 hR;have O:∀(r:O2) (w':O1),O5 (ob v) w w'/\ob r=ob v/\w'.ownsRow base 70 9 r (l.length - 1) ((l.take k++l.drop (k+1)).flatMap Qt)->O5 (ob v) w w'/\Jw base w' r (l.take k++l.drop (k+1)):=λr w' ⟨G,I,h3⟩ =>
  ⟨G,Jw.turn hR G (λb hb=>I ▸ hb) (λq J=>(Lc.1 J).elim (λh=>LX h) (λh=>Ma h)) (by
   have e:(l.take k++l.drop (k+1)).length=l.length - 1:=by rw[Ll,LB,LY];omega
   rw[e];exact h3)⟩
 refine QY.Y ?_ O;clear O hR;obtain⟨g,cap,rfl⟩:=Jb h oa;obtain⟨ht,cur,hB,hf,hg⟩:=JD h;refine Zq func157 ?_;refine Qc<|Qb<|Qj<|Qa<|Qa<|Qa<|x (Ui U)<|x (QgO (lo:=k) (hi:=k+1) (m:=l.length) U U U U oa oa oa)<|xe<|Qd<|Qj<|Qa<|x (QR U U)<|xe<|QO rfl (λS=>OW (show(k:Int)=((k+1:Nat):Int) from S) oa) (λS=>?_);refine Qf<|Qj<|x (Ui U)<|Qb ?_;have H:((l.drop (k+1)).flatMap Qt).length=(l.length - (k+1))*9:=by rw[xF Z1,LY]
 have hh:At [] ↑w ⟨g,if cap=k+1 then 0 else(k+1)*9,none⟩ ((l.drop (k+1)).flatMap Qt):=by
  by_cases hc:cap=k+1
  ·have:(l.drop (k+1)).flatMap Qt=[]:=Ls (by rw[H];omega);rw[this];exact⟨λu E=>(by cases E),λu E=>(by cases E),λj u E=>(by cases E)⟩
  rw[OT hc];have G:=Qgk (QB (L:=[]) h oa od) rfl;refine⟨λu _=>od,λu E=>G.lt u (by rw[<-QfJ Qt 9 Z1]at E;exact Ma E),λj u E=>?_⟩;rw[<-QfJ Qt 9 Z1,My]at E;have I:=G.cell _ u E;have e:(⟨g,(k+1)*9,none⟩:Addr).add j=(⟨g,0,none⟩:Addr).add ((k+1)*9+j):=by rw[Addr.add_lit,Addr.add_lit,LT]
  rw[e];exact I
 have hj:∀u∈(l.drop (k+1)).flatMap Qt,u.oneCell'=true:=λu E=>by
  obtain⟨q,J,E⟩:=Me.1 E;exact he q (Ma J) u E
 refine Qd<|qZ (λ_=>True) [oE 0,oE 1,oE 2,oE 3,oE 4,oE 5,oF 6,oE 7] mixed om oe Z ?_;have hd:sX w { w with drawn:=w.drawn+1 }:=O5.C _ _
 refine p Qv<|p Qv<|p (λ_=>XG (hi:=k) U U oa)<|p Qv<|p Qv<|p (λ_=>qC (lo:=k+1) U U oa) <|
  pk<|QoK (g:=g) (n:=k) (cap:=cap) (cur:=cur) (m:=l.length - (k+1)) (L:=[]) hB U hf U H (hh.I hd) hj oa λw2 hm T=>⟨Z,p ZG<|pe ?_⟩
 have hn:O5 [g] w w2:=hd.any.Q hm;have em:k+(l.length - (k+1))=l.length - 1:=oa
 have V:(cur.take (k*9)++(l.drop (k+1)).flatMap Qt).length=(l.length - 1)*9:=by
  rw[Ll,LB,H];omega
 have ho:(cur.take (k*9)++(l.drop (k+1)).flatMap Qt++cur.drop (k*9+((l.drop (k+1)).flatMap Qt).length)).length=cap*9:=by
  rw[Ll,V,LY,H];omega
 have Y:(cur.take (k*9)++(l.drop (k+1)).flatMap Qt++cur.drop (k*9+((l.drop (k+1)).flatMap Qt).length)).take ((l.length - 1)*9)=(l.take k++l.drop (k+1)).flatMap Qt:=by
  rw[List.take_left' V,LA,<-QaB Qt 9 Z1 l k,<-hg,M6,Mk oa]
 refine Zf (cur.take (k*9)++(l.drop (k+1)).flatMap Qt++cur.drop (k*9+((l.drop (k+1)).flatMap Qt).length)) λhv hp=>?_;rw[hp]at T ho Y;refine Qj<|Qa<|x (Ui U)<|Qa<|x (QgN (lo:=k+(l.length - (k+1))) (hi:=l.length) U U U oa oa oa) <|
  Qn<|Qfj (m:=l.length - (k+(l.length - (k+1)))) (o:=(k+(l.length - (k+1)))*9) (λu E=>by simp[Value.cells]at E;rcases E with rfl|rfl|rfl|rfl|rfl|rfl|rfl|rfl|rfl <;> rfl) T ⟨_,rfl,λ_=>⟨U,oa⟩⟩ λw3 hw hr hs hy ha=>xe ?_
 refine Qj<|Qb<|Qh ⟨[sL g (k+(l.length - (k+1))) cap],La,hn.Q hr,U,?_⟩;rw[em]at ha ⊢;exact VV h oa hs oa (ha.D Y) (by rw[xF Z1,Ll,LB,LY];omega)
section
variable {pS:String}
theorem zZ {e bys:Nat}[h:Sl P t e sz bys z]{x:O3}{o dLen dCap:Nat}{cur:LV}{a:Addr}{sLen sCap:Nat}(G:QZ ↑w g T cur)(hx:ev f x=.slice (some ⟨g,o,none⟩) dLen dCap)(J:ev f y=.slice (some a) sLen sCap)
  (O:cs.length=Nat.min sLen dLen*sz)  (S:At L ↑w a cs) (V:o+cs.length<=cur.length) (Y:∀u∈cs,u.oneCell'=true)
  (hK:∀w',O5 [g] w w'->QZ ↑w' g T (cur.take o++cs++cur.drop (o+cs.length))->K (QN f d (goInt (Nat.min sLen dLen))) w'):XO P ⟨d,.call ⟨.builtin .copy,#[x,y],#[t,E]⟩,ty,pS,af,gd⟩ f w K:=by
 obtain⟨i,hi,hz,ha,_⟩:=Sl.info h;have H:=run_storeCells_at P g o T cs 0 cur.toArray w G (oA V) Y;have I:(Builtin.copy_ #[t,E] ty #[.slice (some ⟨g,o,none⟩) dLen dCap,.slice (some a) sLen sCap]).run P w=.ok (goInt (Nat.min sLen dLen)) (w.setRow g (cur.take o++cs++cur.drop (o+cs.length)).toArray):=by
  simp[Builtin.copy_,run_underlying h.u,Builtin.lenOf,Builtin.firstCells,sizeOf,typeInfo,hi,ha,<-O,(run_loadCells_list (P:=P) w a cs S.cells)]at H ⊢;simp[H]
 have hb:(execOp (ev f) ⟨d,.call ⟨.builtin .copy,#[x,y],#[t,E]⟩,ty,pS,af,gd⟩).run P w=.ok (.value (goInt (Nat.min sLen dLen))) (w.setRow g (cur.take o++cs++cur.drop (o+cs.length)).toArray):=by
  simp[execOp,resolve,invoke,builtin,hx,J]at I ⊢;simp[I]
 exact xv hb (hK _ (O5.setRow _ _ _) (X9 G))
end
section
variable {pS:String}
theorem QoI {ti e bys:Nat}[h:Sl P t e sz bys z](T:P.underlying ti=some (.int .i64)){s:O3}{E:Addr}{L0:LN}(V:At L0 ↑w E cs)(Y:ev f s=.slice (some E) n cap)(G:cs.length=n*sz)
  {m:Nat} (hy:ev f y=sS m) (hm:0<m) (ha:cap<n+m) (hb:n+m<=1048576)
  (hK:∀b c' w' zs,sX w w'->↑w<=b->n+m<=c'->zs.length=m*sz->w'.ownsRow ↑w e sz (sL b (n+m) c') (n+m) (cs++zs)->K (QN f d (sL b (n+m) c')) w') (hc:bys<=131072:=by decide):
  XO P ⟨d,.call ⟨.builtin .append,#[s,y],#[t,ti]⟩,ty,pS,af,gd⟩ f w K:=by
 obtain⟨i,hi,hz,I,J⟩:=Sl.info h;have O:(n+m)*bys<=140737488355328:=LH (Nat.mul_le_mul hb hc) oa;have he:n+m<=maxLen:=by simp only[maxLen];omega
 have hn:¬(n+m<=cap):=oa
 have hf:¬(9223372036854775807<((n:Int)+(m:Int))):=oa
 have hq:=growslice_fits (bytes:=i.bytes) ha (by rw[J];exact O);have hg:¬(281474976710656<Builtin.nextslicecap (n+m) cap*i.bytes):=oa
 have hh:IntKind.i64.wrap (m:Int)=(m:Int):=by rw[IntKind.wrap_i64];omega
 have hj:¬((m:Int)<0):=oa
 have ht:m*i.bytes<=140737488355328:=by rw[J];exact LH (L3 _ (Nat.le_add_left m n)) O
 have hl:¬(281474976710656<(m:Int)*(i.bytes:Int)):=by
  have:((m*i.bytes:Nat):Int)<=140737488355328:=oa
  rw[Int.natCast_mul]at this;omega
 have hr:(Builtin.append_ #[t,ti] ty #[.slice (some E) n cap,sS m]).run P w=.ok (.slice (some ⟨↑w,0,none⟩) (n+m) (grownCap w (n+m) cap e)) (w.drew.alloc (Obj.cells (cs.toArray++(Builtin.zeroCells z.cells m).toList.toArray++Builtin.zeroCells z.cells (grownCap w (n+m) cap e - (n+m))) e)):=by
  simp[Builtin.append_,run_underlying h.u,run_underlying T,sizeOf,typeInfo,zeroValue,hi,hz,hn,hf,hg,Question.forced,(run_firstCells_some (P:=P) w.drew i.size n E n cap cs (by rw[I];exact G) (oA V.cells)),newRow,grownCap,asInt,asIntOf,hh,hj,hl];intro h0;have h1:0<m*i.size:=Nat.mul_pos hm (by rw[I];exact h.pos);omega
 have ho:(execOp (ev f) ⟨d,.call ⟨.builtin .append,#[s,y],#[t,ti]⟩,ty,pS,af,gd⟩).run P w=.ok (.value (.slice (some ⟨↑w,0,none⟩) (n+m) (grownCap w (n+m) cap e))) (w.drew.alloc (Obj.cells (cs.toArray++(Builtin.zeroCells z.cells m).toList.toArray++Builtin.zeroCells z.cells (grownCap w (n+m) cap e - (n+m))) e)):=by
  simp[execOp,resolve,invoke,builtin,Y,hy,hr]
 have hge:=grownCap_ge w (n+m) cap e;have hp:grownCap w (n+m) cap e<=maxLen:=grownCap_le_maxLen w (n+m) cap e he;have H:(Builtin.zeroCells z.cells m).toList.length=m*sz:=by simp[Builtin.zeroCells,h.zs]
 have S:(cs++(Builtin.zeroCells z.cells m).toList).length=(n+m)*sz:=by rw[Ll,G,H,Mu]
 refine xv ho (hK _ _ _ _ ⟨U,U,U,by rw[V3];exact NP _,λk hk _=>qY w.drew _ k hk⟩ (Lx _) hge H ⟨S,.inr ⟨↑w,_,_,U,Lx _,Kx w.drew _,hge,hp,?_,?_⟩⟩)
 ·simp only[Array.size_append,Od,size_zeroCells,h.zs,G,H,<-Oq];congr 1;omega
 simp only[Array.toList_append,o6];rw[<-LC,<-S];exact List.take_left
theorem Qqq {x:O3}{a:Option Addr}{c e:Nat}(E:P.underlying t=some (.slice e))(hx:ev f x=.slice a n c):
  (execOp (ev f) ⟨d,.call ⟨.builtin .cap,#[x],#[t]⟩,ty,pS,af,gd⟩).run P w=.ok (.value (sS c)) w:=by
 simp[execOp,resolve,invoke,builtin,Builtin.cap_,hx,run_underlying E,goInt]
theorem Qqp {x:O3}{tS tR e:Nat}{ts:Array Nat}(J:P.funcs[g]?=some fn)(O:(fn.name == "runtime.NumGoroutine")=false) (S:fn.body.isNone=true) (T:Extern.findNext fn=none)
  (V:Extern.find fn=some (Extern.SlicesOverlaps.overlaps #[tS,tS] #[tR])) (Y:P.underlying tS=some (.slice e)) {size:Nat} (hz:∀w,(sizeOf e).run P w=.ok size w) {a b:Addr} {la ca lb cb TA TB:Nat} {vs:LV} (hx:ev f x=.slice (some a) la ca) (G:ev f y=.slice (some b) lb cb)
  (H:QZ ↑w a.block TA us) (hB:QZ ↑w b.block TB vs) (ha:a.block≠b.block) (hg:vs.length≠0) (hh:a=⟨a.block,0,none⟩):
  (execOp (ev f) ⟨d,.call ⟨.value (.func g),#[x,y],ts⟩,ty,pS,af,gd⟩).run P w=.ok (.value (.bool false)) w:=by
 have hi:w.shape? a.block=some (TA,us.length):=by
  have E:w.heap[a.block]?=some (.cells us.toArray TA (0,0)):=H;simp[World.shape?,E]
 have hj:w.shape? b.block=some (TB,vs.length):=by
  have E:w.heap[b.block]?=some (.cells vs.toArray TB (0,0)):=hB;simp[World.shape?,E]
 have hfr:∀o,w.frozen? { block:=a.block,off:=o }=false:=λo=>by
  have E:w.heap[a.block]?=some (.cells us.toArray TA (0,0)):=H;simp[World.frozen?,E]
 have I:=run_callFunc_extern J O S T V #[ev f x,ev f y] w;rw[hx,G,(Lib.run_overlaps_apart (P:=P) w tS tR e Y size hz a b la ca lb cb ha TA TB us.length vs.length hi hj hg (by rw[hh];exact hfr 0) (hfr _))]at I;have h0:ev f (.func g)=.func (.func g) #[] #[]:=rfl;simp[execOp,resolve,h0,Deferred.ofValue,invoke,hx,G,I,Result.andThen]
end
theorem Ja {pS:String}{e bys:Nat}[Sl P t e sz bys z]{x E:O3}{k:IntKind}(hx:ev f x=sL b n cap)(G:ev f E=.int k lo)(H:lo<=n)(J:lo<cap):
  (execOp (ev f) ⟨d,.slice t x (some E) none none,ty,pS,af,gd⟩).run P w=.ok (.value (.slice (some ⟨b,lo*sz,none⟩) (n - lo) (cap - lo))) w:=by
 have I:=qC (P:=P) (w:=w) (d:=d) (ty:=ty) (pS:=pS) (af:=af) (gd:=gd) (t:=t) hx G H
 rwa [OT oa]at I
theorem Jw.turn2 {base:Nat}{v r:O2}{l l':List DV}(h:Jw base w v l)(J:O5 (ob v) w w')(O:∀b∈ob r,b∈ob v\/↑w<=b)(S:∀L:LN,(∀b∈L,b<base\/b∈ob v)->Jl L ↑w q)(T:∀d∈l',d∈l\/d=q)
  (V:w'.ownsRow base 70 9 r l'.length (l'.flatMap Qt)):Jw base w' r l':=by
 refine⟨V,λd hd L H=>?_⟩;have Y:∀L:LN,(∀b∈L,b<base\/b∈ob v)->Jl L ↑w d:=λL H=>(T d hd).elim (λG=>h.each d G L H) (λG=>G ▸ S L H);have G:Jl (ob v++L) ↑w d:=Mm.up (Y (ob v++L.filter λb=>decide (b<base)) λb E=>(Lc.1 E).elim .inr λE=>.inl (OY (L6.1 E).2)) λb E=>by
  rcases Lc.1 E with E|E
  ·exact .inl (Lc.2 (.inl E))
  rcases H b E with I|I
  ·exact .inl (Lc.2 (.inr (L6.2 ⟨E,OX I⟩)))
  exact(O b I).imp (λh3=>Lc.2 (.inl h3)) id
 exact Mm.Y (Mm.st G (J.Y λb E=>Lc.2 (.inl E))) λb E=>Lc.2 (.inr E)
theorem VW {qs:LV}{s:Nat}(E:cs.length=n*s)(G:qs.length=s)(hi:i<=n):(cs.take (i*s)++qs++cs.drop (i*s)).length=(n+1)*s:=by
 have H:i*s<=n*s:=L3 _ hi;simp only[oN,Ob,Oa,E,G,Oq];omega
theorem QmO {base:Nat}{v:O2}{l:List DV}(hR:Jw base w v l)(hr:base<=↑w)(hl:l.length<=1000)(hi:i<=l.length)(hq:∀L:LN,(∀b∈L,b<base\/b∈ob v)->Jl L ↑w q){bq:Nat}(O:QZ ↑w bq T (Qt q))(hJ:bq∉ob v):
  QY sV 160 [v,sS (i:Int),sL bq 1 1] w λr w'=>O5 (ob v) w w'/\Jw base w' r (l.take i++q::l.drop i)/\∀b∈ob r,b∈ob v\/↑w<=b:=by
 have h:=hR.own;have V:=(hq [] od).ones.all;have hs:=Qc7 hR;have H:(l.flatMap Qt).length=l.length*9:=xF Z1 l;have ht:(l.take i++q::l.drop i).length=l.length+1:=by simp only[oN,Ob,oX,Oa];omega
 have hv:(l.take i++q::l.drop i).flatMap Qt=(l.flatMap Qt).take (i*9)++Qt q++(l.flatMap Qt).drop (i*9):=by
  rw[QaB Qt 9 Z1,QfJ Qt 9 Z1,LA,LM,LC]
 have hw:∀d∈l.take i++q::l.drop i,d∈l\/d=q:=λd hd=>by
  rcases Lc.1 hd with hd|hd
  ·exact .inl (LX hd)
  rcases Lj.1 hd with rfl|hd
  ·exact .inr U
  exact .inl (Ma hd)
 have hy:∀(r:O2) (w':O1),O5 (ob v) w w'/\(∀b∈ob r,b∈ob v\/↑w<=b)/\w'.ownsRow base 70 9 r (l.length+1) ((l.flatMap Qt).take (i*9)++Qt q++(l.flatMap Qt).drop (i*9))->O5 (ob v) w w'/\Jw base w' r (l.take i++q::l.drop i)/\∀b∈ob r,b∈ob v\/↑w<=b:=λr w' ⟨h1,h2,h3⟩ =>
  ⟨h1,hR.turn2 h1 h2 hq hw (by rw[ht,hv];exact h3),h2⟩
 refine QY.Y ?_ hy;have Y:∀u∈l.flatMap Qt,u.oneCell'=true:=λu E=>by
  obtain⟨d,hd,E⟩:=Me.1 E;exact hs d hd u E
 clear hy hR hw ht hv hs;refine Zf (l.flatMap Qt) λcs ha=>?_;refine Zf l.length λn hn=>?_;rw[ha,hn]at h;rw[ha,hn]at H;rw[ha]at Y ⊢;rw[hn]at hl hi ⊢;have hA:=QB (L:=[]) h oa od;refine Zq func160 ?_;refine Qc<|Qb<|Qj<|Qa<|Qrv (lo:=i) hA U U hi λgj _=>xe ?_;refine Qj<|x (Ui U)<|Qb<|Qd<|Qj<|x (QR U U)<|xe<|QO rfl (λhK=>OW (show((1:Nat):Int)=0 from hK) ol) (λ_=>?_);refine Qf<|Qj<|QF hA U<|Qb<|Qd<|Qj<|Qa<|x (QR U U)<|xe<|QO rfl (λhc=>?_) (λhc=>?_)
 ·have hL:i=n:=by have hM:(i:Int)=(n:Int):=hc;omega
  refine Qj<|Qa<|Qn<|Jc (m:=1) (news:=Qt q) h U U U (O.at (L:=[]) od) V oa hr λv1 w1 hN hO hP=>Qb<|Qh ⟨[v1],⟨rfl,Z⟩,hO,hP,?_⟩;rw[hL,<-H,M4,List.drop_length,LS];exact hN
 have gk:i<n:=by have hM:¬(i:Int)=(n:Int):=hc;omega
 obtain⟨g,cap,ev⟩:=Jb h oa;have he:ob v=[g]:=by rw[ev];rfl
 have hf:=h;rw[ev]at hf;obtain⟨gl,cur,J,hg,hz⟩:=JD hf;have h0:bq≠g:=λe=>hJ (by rw[he,e];exact Lb.2 U);have h4:At [] ↑w ⟨g,0,none⟩ cs:=Qgk hA ev;have gm:i*9<=n*9:=L3 _ hi;have h5:∀w':O1,QZ ↑w' g 70 cur->At [] ↑w' ⟨g,i*9,none⟩ (cs.drop (i*9)):=λw' h6=>by
  refine⟨λu _=>od,λu _=>h6.lt,λj u E=>?_⟩;rw[My,<-hz,LW]at E;split at E
  ·have e:(⟨g,i*9,none⟩:Addr).add j=⟨g,i*9+j,none⟩:=KG g (i*9) j;rw[e,h6.cell];exact E
  cases E
 refine Qf<|Qd<|Qj<|Qa<|QH U U<|Qa<|x (Qqq underlying115 ev)<|x (Yc U U)<|xe<|QO rfl (λhh=>?_) (λhh=>?_)
 ·have h7:cap<n+1:=by have hQ:(cap:Int)<(n:Int)+((1:Nat):Int):=hh;omega
  have hS:At [] ↑w ⟨g,0,none⟩ (cs.take (i*9)):=⟨λu _=>od,λu E=>h4.lt u (List.mem_of_mem_take E),λj u E=>h4.cell j u (by rw[List.getElem?_take]at E;split at E;exact E;cases E)⟩;have hT:(cs.take (i*9)).length=i*9:=by rw[LB];omega
  refine Qj<|Qa<|x (XG (hi:=i) ev U oa)<|Qa<|Qa<|QH U U<|Qa<|x (XR U U ⟨oa,oa⟩) <|
   Qn<|QoI (n:=i) (cap:=cap) (m:=n+1 - i) underlying3 hS U hT (show Go.Lg.ev _ _=_ from OV sS oa) oa oa oa λb2 c2 w2 zs hj h8 gn go hk=>Qb ?_
  have en:i+(n+1 - i)=n+1:=oa
  obtain⟨_,G,hU,hV,h9⟩:=JD hk;rw[en]at h9;have gp:(n+1)*9<=G.length:=by rw[hV];exact L3 _ oa
  have n2g:g≠b2:=by have:=J.lt;omega
  have hW:(i+1)*9<=(n+1)*9:=L3 _ oa;refine Qj<|Qa<|x (Ja (lo:=i) U U oa oa)<|Qa<|Qn<|zZ (cs:=Qt q) hU U U (by rw[show Nat.min 1 (i+(n+1 - i) - i)=1 from Mk oa];exact Z1 q) ((O.I hj).at (L:=[]) od) (by rw[Z1];omega) V λw3 hC hD=>xe ?_;have hm:(G.take (i*9)++Qt q++G.drop (i*9+(Qt q).length)).length=G.length:=by simp only[oN,Ob,Oa,Z1];omega
  have hE:(G.take (i*9)++Qt q++G.drop (i*9+(Qt q).length)).take ((i+1)*9)=cs.take (i*9)++Qt q:=by
   have e1:(G.take (i*9)++Qt q).length=(i+1)*9:=by rw[Ll,LB,Z1];omega
   rw[List.take_left' e1];congr 1;have:=OV (List.take (i*9)) h9;rw[M6,Mk oa,M1 oa,M6,Nat.min_self]at this;exact this
  refine Zf (G.take (i*9)++Qt q++G.drop (i*9+(Qt q).length)) λgq hX=>?_;rw[hX]at hD hm hE;have I:(cs.drop (i*9)).length=(n - i)*9:=by rw[LY,H,Nat.sub_mul]
  refine Qd<|Zz [] (YW 0 9 [8])<|p Qv<|p Qv<|p Qv<|p (λ_=>XX U U ⟨oa,oa⟩)<|p (λ_=>Ja (lo:=i+1) U U oa oa) <|
   p Qv<|p Qv<|p (λ_=>Ja (lo:=i) ev U oa oa)<|pkk<|zZ (cs:=cs.drop (i*9)) (hD.I (O5.C _ _)) U U (by rw[I,show Nat.min (n - i) (i+(n+1 - i) - (i+1))=n - i from Mk oa]) (h5 _ (((J.I hj).J hC (oA n2g)).I (O5.C _ _))) (by rw[I,hm];omega) (λu E=>Y u (Ma E)) λw4 ho S=>pe ?_
  refine Qj<|Qb ?_;have hY:O5 [b2] w2 w4:=hC.Q ((O5.C [] w3).any.Q ho);refine Qh ⟨[sL b2 (i+(n+1 - i)) c2],La,(hj.O hY h8).any,λb hb=>?_,?_⟩
  ·have hZ:b∈[b2]:=hb;rw[Lb.1 hZ];exact .inr h8
  rw[en]at hk ⊢;refine VV (ZB hk hr) (Lx _) S ?_ ?_ (VW H (Z1 q) hi)
  ·simp only[oN,Ob,Oa,I,hm];omega
  rw[hE];exact List.take_left' (VW H (Z1 q) hi)
 have h7:n+1<=cap:=by have hQ:¬(cap:Int)<(n:Int)+((1:Nat):Int):=hh;omega
 have hW:(i+1)*9<=(n+1)*9:=L3 _ oa;have I:(cs.drop (i*9)).length=(n - i)*9:=by rw[LY,H,Nat.sub_mul]
 refine Qf<|Qj<|Qa<|Qa<|QH U U<|x (XG (hi:=n+1) ev U oa)<|Qb<|Qd<|Qj<|Qa<|Qa<|Qa<|QH U U<|x (Ja (lo:=i+1) U U oa oa) <|
  x (Qqp func238 oe oe oe (tS:=115) (tR:=4) oe underlying115 sizeOf70 (a:=⟨bq,0,none⟩) (b:=⟨g,(i+1)*9,none⟩) U U O J h0 (by rw[hg];omega) U)<|x (Zy U)<|xe ?_
 refine QU rfl (λ_=>?_) (λga=>OW ga ol);have en:n+1 - (i+1)=n - i:=oa
 refine Qd<|Zz [] (YW 0 9 [8])<|p Qv<|p Qv<|p Qv<|p (λ_=>XX U U ⟨oa,oa⟩)<|p (λ_=>Ja (lo:=i+1) U U oa oa) <|
  p Qv<|p Qv<|p (λ_=>Ja (lo:=i) U U oa oa)<|pkk<|zZ (cs:=cs.drop (i*9)) (J.I (O5.C _ _)) U U (by rw[I,show Nat.min (n+1 - i) (n+1 - (i+1))=n - i from(Nat.min_eq_right oa).D en]) (h5 _ (J.I (O5.C _ _))) (by rw[I,hg];omega) (λu E=>Y u (Ma E)) λw4 ho S=>pe ?_
 have hF:O5 [g] w w4:=(O5.C [] w).any.Q ho;have hG:(cur.take ((i+1)*9)++cs.drop (i*9)++cur.drop ((i+1)*9+(cs.drop (i*9)).length)).length=cap*9:=by simp only[oN,Ob,Oa,I,hg];omega
 have hH:(cur.take ((i+1)*9)++cs.drop (i*9)++cur.drop ((i+1)*9+(cs.drop (i*9)).length)).take (i*9)=cs.take (i*9):=by
  rw[LC,M1 (by rw[LB];omega),M6,Mk oa,<-hz,M6,Mk oa]
 have hI:((cur.take ((i+1)*9)++cs.drop (i*9)++cur.drop ((i+1)*9+(cs.drop (i*9)).length)).drop (i*9+9)).take ((n - i)*9)=cs.drop (i*9):=by
  have e1:(cur.take ((i+1)*9)).length=i*9+9:=by rw[LB];omega
  rw[LC,List.drop_left' e1,List.take_left' I]
 refine Zf (cur.take ((i+1)*9)++cs.drop (i*9)++cur.drop ((i+1)*9+(cs.drop (i*9)).length)) λhp gb=>?_;rw[gb]at S hG hH hI;refine Qj<|Qa<|x (Ja (lo:=i) U U oa oa)<|Qa<|Qn<|zZ (cs:=Qt q) S U U (by rw[show Nat.min 1 (n+1 - i)=1 from Mk oa];exact Z1 q) ((O.J hF (oA h0)).at (L:=[]) od) (by rw[Z1];omega) V λw5 gc gg=>xe ?_;refine Qj<|Qb<|Qh ⟨[sL g (n+1) cap],La,by rw[he];exact hF.Q gc,λb hb=>.inl (by rw[he];exact hb),?_⟩;rcases hf.2 with⟨e1,_⟩|⟨g',cap',cur',e1,gh,gr,gs,gi,gt,gu⟩
 ·cases e1
 cases e1
 refine⟨VW H (Z1 q) hi,.inr ⟨g,cap,_,U,gh,gg,h7,gi,?_,?_⟩⟩
 ·simp only[Od,oN,Ob,Oa,Z1,hG];omega
 have hR:=VW H (Z1 q) hi;rw[Z1,hH];have e3:hp.drop (i*9+9)=cs.drop (i*9)++(hp.drop (i*9+9)).drop ((n - i)*9):=by
  conv=>lhs;rw[<-MG ((n - i)*9) (hp.drop (i*9+9)),hI]
 rw[e3,<-LC];exact List.take_left' hR
theorem Qpf {k:Int}(G:QZ ↑w b T cs)(H:cs[0]?=some (sS k)):
  QY sV 159 [sT (Qt q),sP b] w λr w'=>r=.bool (decide (k<q.kd))/\sX w w':=by
 refine Zq func159 ?_;refine Qc<|Zl (Qt q) λb2 J E O I=>Qb<|Qc<|Qo U I U U<|Qo U (G.I E) U H<|x (Yc U U)<|Qb<|Qh ⟨[_],La,U,E⟩
theorem Va {l:List Yi}(h:KY l=0):l.length<=76:=by
 unfold KY at h;split at h
 ·cases h
 omega
theorem QnO {v:O2}{es:List DV}(G:Kd L ↑w v es)(k:Int)(n:ByteArray):
  QY sV 93 [v,sS k,.string n] w λr w'=>sX w w'/\∃vo l,r=.tuple #[vo,sS (zD (es.map DV.it) k n).1]/\Jw ↑w w' vo l/\((zD (es.map DV.it) k n).1=0->l.map DV.it=(zD (es.map DV.it) k n).2):=by
 have h:=G.up (L':=[]) od;have E:zD (es.map DV.it) k n=if KY (es.map DV.it)≠0 then(KY (es.map DV.it),[])else if Vc (es.map DV.it) k n=false then(10,[])else(0,(es.map DV.it).take (YH (es.map DV.it) k n)++(es.map DV.it).drop (YH (es.map DV.it) k n+1)):=rfl
 refine Zf (zD (es.map DV.it) k n) λD hD=>?_;rw[hD]at E ⊢;refine Zq func93 ?_;refine Qc<|x Qi<|Qb<|Qd<|Qj<|Qz<|(JR h).Y ?_;rintro r1 w1 ⟨rfl,O⟩;refine Qb<|Qj<|Zx U U<|xe<|QO rfl (λH=>?_) (λH=>?_)
 ·rw[OU H]at E;refine Qj<|x Qi<|Qb<|Qh ⟨[nS,sS (KY (es.map DV.it))],oB,O,nS,[],by rw[E];rfl,Yh.nil,λG=>OW (by rw[E]at G;exact G) H⟩
 rw[OT H]at E;have hp:es.length<=76:=by have:=Va (Lp.1 H);rwa [Lh]at this
 refine Qf<|Qj<|Qa<|Qa<|Qz<|(yj (h.arr.I O) k n).Y ?_;rintro r2 w2 ⟨⟨i,rfl,hi⟩,ha⟩;have J:=O.D ha;refine Qa<|QW U U<|QW U U<|x Qi<|Qb<|Qd<|Qj<|x (Zy U)<|xe<|QU rfl (λS=>?_) (λS=>?_)
 ·have I:Vc (es.map DV.it) k n=false:=by simpa using S
  rw[OU I]at E;refine Qc<|x Qi<|Qb<|Qh ⟨[nS,sS 10],oB,J,nS,[],by rw[E];rfl,Yh.nil,λG=>OW (by rw[E]at G;exact G) ol⟩
 have I:Vc (es.map DV.it) k n=true:=by simpa using S
 rw[OT (by rw[I];decide)]at E;have hi:=hi I;have hc:YH (es.map DV.it) k n<es.length:=by have:=OY I;rwa [Lh]at this
 refine Zf (YH (es.map DV.it) k n) λj hj=>?_;rw[hj]at hi hc E;refine Qf<|Qj<|Qz<|(Km (h.I J) oa).Y ?_;rintro r3 w3 ⟨he,l,T,V⟩;have hq:l.length=es.length:=by have:=OV oQ V;rwa [Lh,Lh]at this
 have hD3:=Qnd T (k:=j) oa oa;have hf:(i:Int)+1=((j+1:Nat):Int):=oa
 rw[<-hf,<-hi]at hD3;refine Qa<|Qa<|QH U U<|Qz<|hD3.Y ?_;rintro Y w4 ⟨hg,hh⟩;refine x Qi<|Qb ?_;have hk:=Qg T.own;have ho:=J.size;refine Qh ⟨[Y,sS 0],oB,(J.D he).S hg (λb hb=>.inr (ov (hk b hb).1)),Y,_,by rw[E];rfl,hh.base ho,λ_=>?_⟩;rw[E,Lr,NX,List.map_drop,V]
theorem QpW {v:O2}{es:List DV}(G:Kd L ↑w v es)(hM:Jl L' ↑w q):
  QY sV 94 [v,sT (Qt q)] w λr w'=>sX w w'/\∃vo l,r=.tuple #[vo,sS (zC (es.map DV.it) q.it).1]/\Jw ↑w w' vo l/\((zC (es.map DV.it) q.it).1=0->l.map DV.it=(zC (es.map DV.it) q.it).2):=by
 have h:=G.up (L':=[]) od;have hq:=hM.up (L':=[]) od;have E:zC (es.map DV.it) q.it=if KY (es.map DV.it)≠0 then(KY (es.map DV.it),[])else if KY [q.it]≠0 then(KY [q.it],[])else if Vc (es.map DV.it) q.kd q.nm=true then(0,(es.map DV.it).set (YH (es.map DV.it) q.kd q.nm) q.it)else if(es.map DV.it).length=76 then(3,[])else
  (0,(es.map DV.it).take ((es.map DV.it).findIdx λy=>decide (q.kd<y.kd))++q.it::(es.map DV.it).drop ((es.map DV.it).findIdx λy=>decide (q.kd<y.kd))):=rfl
 refine Zf (zC (es.map DV.it) q.it) λD hD=>?_;rw[hD]at E ⊢;refine Zq func94 ?_;refine Qc<|Zl (Qt q) λb3 w1 h4 gh hN=>x Qi<|Qb<|Qd<|Qj<|Qz<|(JR (h.I h4)).Y ?_;rintro r1 w2 ⟨rfl,h5⟩;have h6:=h4.D h5;refine Qb<|Qj<|Zx U U<|xe<|QO rfl (λT=>?_) (λT=>?_)
 ·rw[OU T]at E;refine Qj<|x Qi<|Qb<|Qh ⟨[nS,sS (KY (es.map DV.it))],oB,h6,nS,[],by rw[E];rfl,Yh.nil,λG=>OW (by rw[E]at G;exact G) T⟩
 rw[OT T]at E;have gi:es.length<=76:=by have:=Va (Lp.1 T);rwa [Lh]at this
 have h7:=hN.I h5;refine Qf<|Qd<|Qc<|QT h7 U U<|Qn<|Za [Qt q] λhO w3 h8 gj hP=>?_;have h9:=h6.D h8;have hQ:Kd [] ↑w3 (sL hO 1 1) [q]:=⟨hP.arr (L:=[]) od (n:=1) (cap:=1) (sz:=9) rfl ol (Nat.le_refl _),λd hd=>by rw[List.mem_singleton.1 hd];exact hq.I h9⟩;refine Qz<|(JR hQ).Y ?_;rintro r4 w4 ⟨rfl,hA⟩;have he:=h9.D hA;refine Qb<|Qj<|Zx U U<|xe<|QO rfl (λhf=>?_) (λhf=>?_)
 ·rw[OU (show KY [q.it]≠0 from hf)]at E;refine Qj<|x Qi<|Qb<|Qh ⟨[nS,sS (KY [q.it])],oB,he,nS,[],by rw[E];rfl,Yh.nil,λG=>OW (by rw[E]at G;exact G) hf⟩
 rw[OT (show ¬KY [q.it]≠0 from hf)]at E;refine Qf<|Qj<|Qz<|(Km (h.I he) oa).Y ?_;rintro I w5 ⟨hr,l,hl,J⟩;have gk:l.length=es.length:=by have:=OV oQ J;rwa [Lh,Lh]at this
 have hB:=he.D hr;have hC:=he.size;have gl:=hr.size;have hs:=(h7.I (h8.D hA)).I hr;have V:=Qg hl.own;refine Qb<|Qd<|Qj<|Qo U hs U U<|Qo U hs U U<|Qz<|(yj (h.arr.I hB) q.kd q.nm).Y ?_;rintro r6 w6 ⟨⟨i,rfl,hi⟩,hh⟩;have Y:=hB.D hh;have ht:=hl.I hh;have hu:=hs.I hh;have gm:=hh.size;refine Qa<|QW U U<|QW U U<|x Qi<|Qb<|Qj<|xe<|QU rfl (λha=>?_) (λha=>?_)
 ·rw[OU ha]at E;have hi:=hi ha;have hv:YH (es.map DV.it) q.kd q.nm<l.length:=by have:=OY ha;rw[Lh]at this;omega
  refine Zf (YH (es.map DV.it) q.kd q.nm) λj hj=>?_;rw[hj]at hi hv E;refine Qj<|Qa<|QT hu U U<|Qz<|(KK (hq.I Y)).Y ?_;rintro r7 w7 ⟨hk,q',rfl,hw,ho⟩;have hy:=ht.I hk;refine Exists.elim (Jb hy.own oa) λg O=>Exists.elim O λcap O=>?_;have hR:ob I=[g]:=by rw[O];rfl
  have hE:=hy.own;rw[O]at hE;refine x (ZA (i:=j) O (show Go.Lg.ev _ _=_ from OV sS hi) hv)<|Qn<|Qal Z1 hE (show Go.Lg.ev _ _=_ from by show Value.pointer (some ⟨g,0+j*9,none⟩)=_;rw[LT]) rfl hv (ho [] od).ones λw8 hS hF=>xe ?_;refine Qj<|x Qi<|Qb ?_;rw[<-O]at hF;have hG:O5 (ob I) w7 w8:=by rw[hR];exact hS
  have hT:Jw ↑w4 w8 I (l.set j q'):=Jw.turn2 hy hG (λb H=>.inl H) (λL hL=>ho L (λb H=>by
   rcases hL b H with h|h
   ·omega
   have:=V b h;omega)) (λd hd=>MU hd) (by rw[Mb];exact hF)
  refine Qh ⟨[I,sS 0],oB,(Y.D hk).S hG (λb H=>.inr (ov (V b H).1)),I,_,by rw[E];rfl,hT.base hC,λ_=>?_⟩;rw[E,OQ,J,hw]
 rw[OT (by rw[ha];decide)]at E;refine Qf<|Qd<|Qj<|QF (h.arr.I Y) U<|x (QR U U)<|xe<|QO rfl (λhz=>?_) (λhz=>?_)
 ·have hn:es.length=76:=by have hU:(es.length:Int)=76:=hz;omega
  rw[OU (by rw[Lh];exact hn)]at E;refine Qc<|x Qi<|Qb<|Qh ⟨[nS,sS 3],oB,Y,nS,[],by rw[E];rfl,Yh.nil,λG=>OW (by rw[E]at G;exact G) ol⟩
 have hn:¬es.length=76:=by have hU:¬(es.length:Int)=76:=hz;omega
 rw[OT (by rw[Lh];exact hn)]at E;have hV:(es.map DV.it).findIdx (λy=>decide (q.kd<y.kd))=l.findIdx λy=>decide (q.kd<y.kd):=by rw[<-J,List.findIdx_map];rfl
 rw[hV]at E;have hW:l.findIdx (λy=>decide (q.kd<y.kd))<=l.length:=List.findIdx_le_length;have h1:ixD (λy:DV=>decide (q.kd<y.kd)) l=if l.findIdx (λy=>decide (q.kd<y.kd))<l.length then((l.findIdx λy=>decide (q.kd<y.kd):Nat):Int)else -1:=rfl
 refine Zf (l.findIdx λy=>decide (q.kd<y.kd)) λat_ hX=>?_;rw[hX]at E hW h1;have hH:Zn [] ↑w6 I l.length 9 (l.flatMap Qt):=QB ht.own oa od;refine Qf<|Qj<|x (ZD (l:=[]) (l':=[_]))<|Qz<|(QfB (q:=λy:DV=>decide (q.kd<y.kd)) (cap:=[sP b3]) hH (λe _ w7 hk=>Qpf (hu.I hk) U)).Y ?_;rintro r9 w9 ⟨rfl,hc⟩;refine Qb<|QX (α:=Unit) [(11,11),(47,50)] (λ_=>[(11,sS (at_:Int))]) (λ_ w'=>w'=w9) om ?_ ?_
 ·refine Qj<|Z5 U U<|xe<|ZH U (λh2=>?_) (λh2=>?_)
  ·refine Qf<|⟨(),⟨?_,Z⟩,U⟩;have S:¬ixD (λy:DV=>decide (q.kd<y.kd)) l<0:=h2;have e:ixD (λy:DV=>decide (q.kd<y.kd)) l=(at_:Int):=by
    rw[h1]at S ⊢;split at S
    ·rename_i hY;rw[OU hY]
    exact OW ol S
   exact OV sS e
  refine Qs<|Qa<|QF (hH.I hc) U<|Qb<|⟨(),⟨?_,Z⟩,U⟩;have S:ixD (λy:DV=>decide (q.kd<y.kd)) l<0:=h2;have e:(l.length:Int)=(at_:Int):=by
   rw[h1]at S;split at S
   ·omega
   omega
  exact OV sS e
 rintro⟨⟩ g gn rfl;have hI:=Y.D hc;have go:=hc.size;refine Qj<|Qa<|QT (hu.I hc) U U<|Qz<|(KK (hq.I hI)).Y ?_;rintro gp gq ⟨h3,q',rfl,hw,ho⟩;have gr:=h3.size;refine Qn<|Za [Qt q'] λhJ hZ hp gs ga=>?_;have gt:=hp.size;have gb:QZ ↑hZ hJ 70 (Qt q'):=by have:=ga;simpa using this
 refine Qz<|(QmO (((ht.I hc).I h3).I hp) oa oa (i:=at_) oa (q:=q') (λL hL=>(ho L (λb H=>by
   rcases hL b H with h|h
   ·omega
   have:=V b h;omega)).I hp) gb (λJ=>ov (V hJ J))).Y ?_
 rintro hK gu ⟨gc,gg,gv⟩;refine x Qi<|Qb<|Qh ⟨[hK,sS 0],oB,((hI.D h3).D hp).S gc (λb H=>.inr (ov (V b H).1)),hK,_,by rw[E];rfl,gg.base hC,λ_=>?_⟩;rw[E,Lr,LJ,NX,List.map_drop,J,hw]
end Go.Lg
namespace Go.Proofs
open Go.Proofs.Tryz
open Go.Shelf
def Tryz.sortLo_ren:Go.Shelf.Ren:=⟨λ|6=>162|15=>123|14=>240|28=>208|29=>209|20=>275|21=>276|22=>277|23=>278|24=>279|25=>280|26=>281|27=>282|46=>320|47=>265|48=>266|49=>321|50=>322|57=>340|n=>n,λ|22=>103|24=>107|25=>313|3=>3|39=>269|0=>0|53=>362|55=>364|4=>4|46=>356|45=>355|50=>275|5=>5|9=>9|66=>418|70=>422|76=>449|77=>408|n=>n,λ|n=>n⟩
theorem Tryz.sortLo:Go.Proofs.SlLaysF0.n6 sV Tryz.sortLo_ren:=lyS
def Tryz.sortTe_ren:Go.Shelf.Ren:=⟨λ|6=>164|15=>123|14=>241|28=>208|29=>209|20=>283|21=>284|22=>285|23=>286|24=>287|25=>288|26=>289|27=>290|46=>323|47=>265|48=>266|49=>324|50=>325|57=>341|n=>n,λ|22=>108|24=>112|25=>315|3=>3|39=>269|0=>0|53=>362|55=>364|4=>4|46=>356|45=>355|50=>275|5=>5|9=>9|66=>418|70=>422|76=>449|77=>408|n=>n,λ|n=>n⟩
theorem Tryz.sortTe:Go.Proofs.SlLaysF0.n6 sV Tryz.sortTe_ren:=lyS
end Go.Proofs
namespace Go.Lg
open Go.Lg Go.Sort
abbrev Lz:={ x:Int×Int // 0<=x.1/\x.1<4096 }
instance:Inhabited Lz:=⟨⟨(0,0),ol⟩⟩
abbrev zk (x:Lz):LV:=[sS x.1.1,sS x.1.2]
theorem yc (x:Lz):(zk x).length=2:=rfl
theorem yS:∀l:List Lz,(l.flatMap zk).length=l.length*2
 | []=>rfl
 | x::l=>by rw[LM,Ll,yS l,yc,LU];omega
theorem yb {l:List Lz}(I:j<l.length*2):(l.flatMap zk)[j]?=some ((flatK zk 2 l.toArray)[j]!):=by
 have E:j / 2<l.length:=Nat.div_lt_of_lt_mul oa;have G:j % 2<2:=NH _ ol;rw[get_flatK _ _ _ _ (oA I)];have J:(l.flatMap zk)[j]?=(zk (l[j / 2]'E))[j % 2]?:=by
  rw[<-(Xw zk 2 yc l (j / 2) E),LW,OU G,My];congr 1;omega
 rw[J];have O:(l.toArray)[j / 2]! = l[j / 2]'E:=by simp[E]
 rw[O];have H:j % 2<(zk (l[j / 2]'E)).length:=G;exact(LG H).D (OV some (getElem!_pos (zk (l[j / 2]'E)) (j % 2) H).symm)
theorem Qee:SWO (ltOf λx y:Lz=>x.1.1 - y.1.1) where
 irrefl x:=by unfold ltOf;simp
 trans x y z h1 h2:=by unfold ltOf at *;simp at *;omega
 ntrans x y z h1 h2:=by unfold ltOf at *;simp at *;omega
theorem Qjl:∀{l:xw},(∀x∈l,0<=x.1/\x.1<4096)->∃L:List Lz,L.map Subtype.val=l
 | [],_=>⟨[],U⟩
 | x::l,h=>by
  obtain⟨L,E⟩:=Qjl (l:=l) (λy G=>h y (Lk _ G));exact⟨⟨x,h x Lq⟩::L,by rw[LJ,E]⟩
theorem Qfs (L:List Lz):L.flatMap zk=(L.map Subtype.val).flatMap QD:=by rw[List.flatMap_map]
theorem Qjk {l:List Lz}{E:Array Lz}(h:pdq (ltOf λx y:Lz=>x.1.1 - y.1.1) l.toArray 0 l.length (Go.Lib.bitLen l.length) true true=E)(J:((l.map Subtype.val).map (·.1)).Nodup):E.size=l.length/\E.toList.map Subtype.val=isrt (·.1) (l.map Subtype.val):=by
 have G:=pdq_sorts (ltOf λx y:Lz=>x.1.1 - y.1.1) Qee l.toArray 0 l.toArray.size (Go.Lib.bitLen l.length) true true (Lo _) (Lx _) (Or.inl U);rw[LR,h]at G;obtain⟨H,O⟩:=Qfc (d:=l.toArray) (by rw[LR];exact G.1) (by rw[LR];exact G.2);refine⟨oA H.length_eq,QmN (λp:Int×Int=>p.1) (H.map _) ?_ J⟩;refine MQ.2 (O.imp λ{x y} I=>?_);unfold ltOf at I;have S:¬(y.1.1 - x.1.1<0):=O0 I;show x.1.1<=y.1.1;omega
theorem Qq0 (x y:Lz)(W:O1):Calls sV 163 #[sT (zk x),sT (zk y)] W λe w'=>e=.returned (sS (x.1.1 - y.1.1))/\∃q os',w'=grow (W.drewN q) os':=by
 have E:IntKind.i64.wrap (x.1.1 - y.1.1)=x.1.1 - y.1.1:=YR ⟨oy x.2 y.2,oy x.2 y.2⟩
 go_enter func163,ntmps163
 go_wp2
 go_ret;exact⟨by rw[<-E];rfl,0,_,by rw[alloc_eq_grow,alloc_eq_grow,grow_grow];rfl⟩
theorem QgB {base:Nat}{v:O2}{G:xw}(h0:w.ownsRow base 107 2 v G.length (G.flatMap QD))(hb:∀x∈G,0<=x.1/\x.1<4096)(S:(G.map (·.1)).Nodup)(hh:G.length<=1099511627776):
  QY sV 162 [v,.func (.func 163) #[] #[]] w λ_ w'=>O5 (ob v) w w'/\w'.ownsRow base 107 2 v (isrt (·.1) G).length ((isrt (·.1) G).flatMap QD):=by
 obtain⟨l,hl⟩:=Qjl hb;subst hl;rw[<-Qfs,Lh]at h0;rw[Lh]at hh;unfold QY;rcases h0.2 with⟨rfl,J⟩|⟨g,cap,cur,rfl,hm,O,ho,hp,hq,hr⟩
 ·have hs:l=[]:=Ls J;subst hs;have H:=AnyF.slices_SortFunc_none Tryz.sortLo none 0 (.func (.func 163) #[] #[]) w;change Calls sV 162 _ _ _ at H;refine Calls.mono H λe w' T=>?_;obtain⟨rfl,rfl⟩:=T;exact⟨O5.Z _ _,QE _ _ _ _⟩
 have ha:g<w.heap.size:=(LK.1 O).1;have hH:HoldsK zk 2 w g 0 l.toArray:=by
  intro j E;rw[size_flatK,LR]at E;have J:=yb E;rw[<-hr,LW,OU E]at J;constructor
  ·show(match w.heap[g]? with|some (.cells c _ _)=>if(none:Option _).isSome then none else c[0+j]?|_=>none)=_
   rw[O];simp only[oZ,OE,OF,if_false];rw[<-Mq,J];rfl
  show(match w.heap[g]? with|some (.cells _ _ (lo,hi))=>decide (lo<=0+j) && decide (0+j<hi)|_=>false)=false
  rw[O];simp
 have eg:∀args w,(callFunc 163 args).run sV w=.ok (.enter 163 args) w:=enters_of func163 oe U;have H:=AnyQ.slices_SortFunc_eq Tryz.sortLo 2 isAgg107 sizeOf107 zk yc (λx v hv=>by simp at hv;rcases hv with rfl|rfl <;> rfl) (λx y=>x.1.1 - y.1.1) Qee 163 #[] g 0 cap l.toArray w eg (λm os dk _ x y=>Qq0 x y _) hH ha (by simp;omega)
 change Calls sV 162 _ _ _ at H;rw[LR]at H;refine Calls.mono H λe w' T=>?_;obtain⟨rfl,n,os,rfl⟩:=T;refine Zf (pdq (ltOf λx y:Lz=>x.1.1 - y.1.1) l.toArray 0 l.length (Go.Lib.bitLen l.length) true true) λI hf=>?_;obtain⟨V,ht⟩:=Qjk hf S;rw[hf,<-ht];have Y:(sortWorldK zk 2 w g 0 n I os).heap=w.heap.modify g (onCells (putCells id 0 (flatK zk 2 I)))++os:=rfl;refine⟨⟨rfl,U,U,?_,λk hk S=>?_⟩,?_⟩
 ·rw[Y,MY,Mi];omega
 ·rw[Y,Mj,Mi,OU hk,Mx,OT (λe=>S (by simp[ob,e]))]
 rw[<-Qfs,Lh];refine⟨yS _,.inr ⟨g,cap,putCells id 0 (flatK zk 2 I) cur,by simp[V],hm,?_,by simp[V];exact ho,hp,by simp[putCells,hq],?_⟩⟩
 ·rw[Y,Mj,Mi,OU ha,Mx,OU rfl,O];rfl
 apply M5;intro j;rw[LW];by_cases E:j<I.toList.length*2
 ·rw[OU E,yb E,Mq];have hu:j<cur.size:=by simp[V]at E;omega
  have hw:j<(flatK zk 2 I).size:=by simpa using E
  simp only[putCells,Ox,Ol hu,Oz,OR,oZ,true_and,OU hw,OJ,id]
 rw[OT E,MX];rw[yS];omega
theorem QqY (x y:Lz)(W:O1):Calls sV 165 #[sT (zk x),sT (zk y)] W λe w'=>e=.returned (sS (x.1.1 - y.1.1))/\∃q os',w'=grow (W.drewN q) os':=by
 have E:IntKind.i64.wrap (x.1.1 - y.1.1)=x.1.1 - y.1.1:=YR ⟨oy x.2 y.2,oy x.2 y.2⟩
 go_enter func165,ntmps165
 go_wp2
 go_ret;exact⟨by rw[<-E];rfl,0,_,by rw[alloc_eq_grow,alloc_eq_grow,grow_grow];rfl⟩
theorem Qgz {base:Nat}{v:O2}{G:xw}(h0:w.ownsRow base 112 2 v G.length (G.flatMap QD))(hb:∀x∈G,0<=x.1/\x.1<4096)(S:(G.map (·.1)).Nodup)(hh:G.length<=1099511627776):
  QY sV 164 [v,.func (.func 165) #[] #[]] w λ_ w'=>O5 (ob v) w w'/\w'.ownsRow base 112 2 v (isrt (·.1) G).length ((isrt (·.1) G).flatMap QD):=by
 obtain⟨l,hl⟩:=Qjl hb;subst hl;rw[<-Qfs,Lh]at h0;rw[Lh]at hh;unfold QY;rcases h0.2 with⟨rfl,J⟩|⟨g,cap,cur,rfl,hm,O,ho,hp,hq,hr⟩
 ·have hs:l=[]:=Ls J;subst hs;have H:=AnyF.slices_SortFunc_none Tryz.sortTe none 0 (.func (.func 165) #[] #[]) w;change Calls sV 164 _ _ _ at H;refine Calls.mono H λe w' T=>?_;obtain⟨rfl,rfl⟩:=T;exact⟨O5.Z _ _,QE _ _ _ _⟩
 have ha:g<w.heap.size:=(LK.1 O).1;have hH:HoldsK zk 2 w g 0 l.toArray:=by
  intro j E;rw[size_flatK,LR]at E;have J:=yb E;rw[<-hr,LW,OU E]at J;constructor
  ·show(match w.heap[g]? with|some (.cells c _ _)=>if(none:Option _).isSome then none else c[0+j]?|_=>none)=_
   rw[O];simp only[oZ,OE,OF,if_false];rw[<-Mq,J];rfl
  show(match w.heap[g]? with|some (.cells _ _ (lo,hi))=>decide (lo<=0+j) && decide (0+j<hi)|_=>false)=false
  rw[O];simp
 have eg:∀args w,(callFunc 165 args).run sV w=.ok (.enter 165 args) w:=enters_of func165 oe U;have H:=AnyQ.slices_SortFunc_eq Tryz.sortTe 2 isAgg112 sizeOf112 zk yc (λx v hv=>by simp at hv;rcases hv with rfl|rfl <;> rfl) (λx y=>x.1.1 - y.1.1) Qee 165 #[] g 0 cap l.toArray w eg (λm os dk _ x y=>QqY x y _) hH ha (by simp;omega)
 change Calls sV 164 _ _ _ at H;rw[LR]at H;refine Calls.mono H λe w' T=>?_;obtain⟨rfl,n,os,rfl⟩:=T;refine Zf (pdq (ltOf λx y:Lz=>x.1.1 - y.1.1) l.toArray 0 l.length (Go.Lib.bitLen l.length) true true) λI hf=>?_;obtain⟨V,ht⟩:=Qjk hf S;rw[hf,<-ht];have Y:(sortWorldK zk 2 w g 0 n I os).heap=w.heap.modify g (onCells (putCells id 0 (flatK zk 2 I)))++os:=rfl;refine⟨⟨rfl,U,U,?_,λk hk S=>?_⟩,?_⟩
 ·rw[Y,MY,Mi];omega
 ·rw[Y,Mj,Mi,OU hk,Mx,OT (λe=>S (by simp[ob,e]))]
 rw[<-Qfs,Lh];refine⟨yS _,.inr ⟨g,cap,putCells id 0 (flatK zk 2 I) cur,by simp[V],hm,?_,by simp[V];exact ho,hp,by simp[putCells,hq],?_⟩⟩
 ·rw[Y,Mj,Mi,OU ha,Mx,OU rfl,O];rfl
 apply M5;intro j;rw[LW];by_cases E:j<I.toList.length*2
 ·rw[OU E,yb E,Mq];have hu:j<cur.size:=by simp[V]at E;omega
  have hw:j<(flatK zk 2 I).size:=by simpa using E
  simp only[putCells,Ox,Ol hu,Oz,OR,oZ,true_and,OU hw,OJ,id]
 rw[OT E,MX];rw[yS];omega
def jn (l:List Yi)(n:ByteArray)(tk:LI):Int:=if Vc l 1 n=false then 9 else if(YH l 1 n:Int)∈tk then 8 else 0
theorem QfZ {v:O2}{es:List DV}(h:Zn L ↑w v es.length 9 (es.flatMap Qt))(n:ByteArray){tk:LI}(S:QL L' ↑w vt tk):
  QY sV 161 [v,.string n,vt] w λr w'=>(∃i:Int,r=.tuple #[sS i,sS (jn (es.map DV.it) n tk)]/\(jn (es.map DV.it) n tk=0->i=(YH (es.map DV.it) 1 n:Int)))/\sX w w':=by
 have G:jn (es.map DV.it) n tk=if Vc (es.map DV.it) 1 n=false then 9 else if(YH (es.map DV.it) 1 n:Int)∈tk then 8 else 0:=rfl
 refine Zf (jn (es.map DV.it) n tk) λE hE=>?_;rw[hE]at G ⊢;refine Zq func161 ?_;refine Qc<|x Qi<|Qb<|Qj<|Qa<|Qz<|(yj h 1 n).Y ?_;rintro T V ⟨⟨i,rfl,hi⟩,H⟩;refine Qa<|QW U U<|QW U U<|x Qi<|Qb<|Qd<|Qm<|Qj<|x (Zy U)<|Qb<|QU U (λI=>?_) (λI=>?_)
 ·rw[OU (oA I)]at G;subst G;refine Qc<|x Qi<|Qb<|Qh ⟨[sS 0,sS 9],oB,⟨0,U,λe=>OW e ol⟩,H⟩
 have O:Vc (es.map DV.it) 1 n=true:=by simpa using I
 have hi:=hi O;subst hi;rw[OT (by rw[O];decide)]at G;refine Qj<|Qa<|Qz<|(Yr (S.I H) _).Y ?_;rintro r2 Y ⟨rfl,rfl⟩;refine Qb<|QO U (λJ=>?_) (λJ=>?_)
 ·rw[OU J]at G;subst G;refine Qc<|x Qi<|Qb<|Qh ⟨[sS 0,sS 8],oB,⟨0,U,λe=>OW e ol⟩,H⟩
 rw[OT J]at G;subst G;refine Qf<|Qj<|x Qi<|Qb<|Qh ⟨[sS _,sS 0],oB,⟨_,U,λ_=>U⟩,H⟩
theorem QaJ (l:List Yi)(y:ByteArray×Int)(r:List (ByteArray×Int))(tk:LI)(o:xw):YF l (y::r) tk o=if jn l y.1 tk≠0 then(jn l y.1 tk,[])else YF l r (tk++[(YH l 1 y.1:Int)]) (o++[((YH l 1 y.1:Int),y.2)]):=by
 rw[YF];unfold jn;split
 ·rfl
 split
 ·rfl
 rfl
theorem Qkw {l:List Yi}{n:ByteArray}{tk:LI}(h:jn l n tk=0):YH l 1 n<l.length/\(YH l 1 n:Int)∉tk:=by
 unfold jn at h;split at h
 ·exact OW h ol
 rename_i E;split at h
 ·exact OW h ol
 rename_i G;refine⟨?_,G⟩;have H:Vc l 1 n=true:=by simpa using E
 exact OY H
theorem Qg6 {v:O2}{es:List DV}(h0:Zn L ↑w v es.length 9 (es.flatMap Qt))(gh:es.length<=4096)(hC:Jl L' ↑w q)(gi:q.ls.length<=100000):
  QY sV 95 [v,sT (Qt q)] w λr w'=>sX w w'/\∃vo,r=.tuple #[vo,sS (YF (es.map DV.it) q.ls [] []).1]/\((YF (es.map DV.it) q.ls [] []).1≠0->vo=Zm) /\
   ((YF (es.map DV.it) q.ls [] []).1=0->w'.ownsRow ↑w 107 2 vo (YF (es.map DV.it) q.ls [] []).2.length ((YF (es.map DV.it) q.ls [] []).2.flatMap QD)):=by
 have h:=h0.up (L':=[]) od;have hq:=hC.up (L':=[]) od;refine Zf (YF (es.map DV.it) q.ls [] []) λR hR=>?_;rw[hR];refine Zq func95 ?_;refine Qc<|Zl (Qt q) λb3 G T gj hD=>x Qi<|Qb ?_;have gk:=T.size;have h1:=h.I T;have hw:=hq.I T;refine Qc<|Qb<|Qc<|Qb<|Qd<|Qc<|Qo U hD U U<|QF hw.ls.arr U<|Qa<|xe<|Q7 (α:=Nat×O2×O2×xw) [(4,7),(9,11),(15,41)] (λz=>[(6,z.2.1),(7,z.2.2.1),(15,sS z.1)]) (λz w'=>z.1<=q.ls.length/\sX G w'/\w'.ownsRow ↑G 107 2 z.2.1 z.2.2.2.length (z.2.2.2.flatMap QD)/\Qq 3 ↑G w' z.2.2.1 (z.2.2.2.map (·.1))/\(∀b∈ob z.2.1,b∉ob z.2.2.1)/\z.2.2.2.length=z.1/\(∀x∈z.2.2.2,0<=x.1/\x.1<4096)/\(z.2.2.2.map (·.1)).Nodup/\YF (es.map DV.it) (q.ls.drop z.1) (z.2.2.2.map (·.1)) z.2.2.2=R) (λz=>q.ls.length - z.1) (0,Zm,Zm,[]) oC
  ⟨Lo _,O5.Z _ _,QE _ _ _ _,QE _ _ _ _,by simp[ob],rfl,od,MN,hR⟩ ?_
 rintro⟨k,vo,vt,l⟩ g w2 ⟨hk,I,J,hg,hn,ho,hr,hs,hE⟩;simp only[]at hk J hg hn ho hr hs hE;have gl:=I.size;have gm:(l.map (·.1)).length=k:=by rw[Lh,ho]
 have h2:=h1.I I;have hG:=hw.I I;refine Zo rfl U (λht=>?_) (λht=>?_)
 ·refine Qw ?_;have hH:q.ls.length<=k:=by have hh:¬(k:Int)<(q.ls.length:Int):=ht;omega
  rw[Lt hH]at hE;rw[YF]at hE;subst hE;refine Qj<|Qz<|(QgB J hr hs oa).Y ?_;rintro r3 w3 ⟨hI,hJ⟩;refine xe<|Qj<|x Qi<|Qb<|Qh ⟨[vo,sS 0],oB,T.D (I.S hI λb E=>.inr (Qg J b E).1),vo,U,λe=>OW U e,λ_=>ZB hJ oa⟩
 have V:k<q.ls.length:=by have hh:(k:Int)<(q.ls.length:Int):=ht;omega
 have hK:q.ls.drop k=q.ls[k]'V::q.ls.drop (k+1):=LF V;rw[hK,QaJ]at hE;refine Qf<|Qd<|Qm<|Qc<|xig (g:=ZN) (i:=k) Qd0 hG.ls.arr U U V λgn hh=>?_;refine Zf (q.ls[k]'V) λy hy=>?_;rw[hy]at hh hE;refine x (Qr hh U U)<|QM [.string .empty,sS 0] λb9 w4 hL hM hN=>QK (ZN y) hN oB λw5 hO hz=>xe ?_;have hu:sX w2 w5:=hL.O hO hM;have hP:QL [] ↑w5 vt (l.map (·.1)):=(Qq.ints hg oa od).I hu;refine Qj<|Qo U hz U U<|Qa<|Qz<|(QfZ (h2.I hu) y.1 hP).Y ?_;rintro r6 w6 ⟨⟨i,rfl,hi⟩,h4⟩;have Y:=hu.D h4;have go:=Y.size;refine Qa<|QW U U<|QW U U<|x Qi<|Qb<|Qd<|Qj<|Zx U U<|xe<|QO rfl (λhe=>?_) (λhe=>?_)
 ·rw[OU he]at hE;subst hE;refine Qj<|x Qi<|Qb<|Qh ⟨[Zm,sS _],oB,T.D (I.D Y),Zm,U,λ_=>U,λe=>OW e he⟩
 rw[OT he]at hE;have h5:jn (es.map DV.it) y.1 (l.map (·.1))=0:=Lp.1 he;have hi:=hi h5;obtain⟨hF,h6⟩:=Qkw h5;rw[Lh]at hF;refine Zf (YH (es.map DV.it) 1 y.1) λF hQ=>?_;rw[hQ]at hi hF h6 hE;subst hi;refine Qf ?_;have hS:Qq 3 ↑G w6 vt (l.map (·.1)):=Ql hg Y;refine Qj<|Qa<|Qn<|Za [[sS F]] λgp w7 hf gq hT=>?_;have h7:Qq 3 ↑G w7 vt (l.map (·.1)):=Ql hS hf;have gr:=hf.size;refine Qn<|Q2 (m:=1) (news:=[sS F]) h7 U U U (by have:=hT.at (L:=[]) od;simpa using this) oq oa oa λhj w8 hU hl hV=>?_;refine Qb ?_;have gs:=hl.size;have hW:∀b∈ob vt,↑G<=b:=λb E=>(Qg h7 b E).1;have hX:sX G w8:=((I.D Y).D hf).S hl λb E=>.inr (hW b E);have h8:∀b∈ob vo,b∉ob hj:=λb E O=>by
  rcases hV b O with H|H
  ·exact hn b E H
  have:=(Qg J b E).2;omega
 refine Qs<|Qa<|Qa<|QQ U<|x (Qk (((hz.I h4).I hf).J hl (λE=>ov (Qg hg b9 E).2)) U U)<|x (Qx ⟨U,U,Z⟩)<|Qn<|Za [QD ((F:Int),y.2)] λgt w9 hm gu hY=>?_;have gv:=hm.size;refine Qn<|Q2 (m:=1) (news:=QD ((F:Int),y.2)) (Ql (Qe (Ql (Ql J Y) hf) hl hn) hm) U U U (by have:=hY.at (L:=[]) od;simpa using this) oq oa oa λh9 hv hZ hA ga=>?_;refine Qb ?_;have hB:=Ql hU hm;have gb:Qq 3 ↑G hv hj ((l++[((F:Int),y.2)]).map (·.1)):=by
  have H:=Qe hB hA (λb E O=>h8 b O E);show hv.ownsRow _ _ 1 _ _ _;simp only[Oj,oN,Oc]at H ⊢;simpa using H
 have gc:sX G hv:=(hX.D hm).S hA λb E=>.inr (Qg J b E).1;have gg:∀b∈ob h9,b∉ob hj:=λb E O=>by
  rcases ga b E with H|H
  ·exact h8 b H O
  have:=(Qg hB b O).2;omega
 refine Qs<|QH U U<|Qa<|xe<|⟨(k+1,h9,hj,l++[((F:Int),y.2)]),by show q.ls.length - (k+1)<q.ls.length - k;omega,oC,V,gc,by rw[Ll,LA];simpa using hZ,gb,gg,by simp[ho],λp S=>?_,?_,?_⟩
 ·rcases Lc.1 S with S|S
  ·exact hr p S
  simp only[oJ]at S;subst S;exact⟨og,og⟩
 ·rw[Lr,ME];refine⟨hs,od,λa ha b E e=>?_⟩;simp only[oY,OL,oJ]at E;subst E;subst e;exact h6 ha
 rw[Lr];exact hE
theorem Qif {v:O2}{es:List DV}(h0:Zn L ↑w v es.length 9 (es.flatMap Qt))(gh:es.length<=4096)(hC:Jl L' ↑w q)(gi:q.ts.length<=100000):
  QY sV 96 [v,sT (Qt q)] w λr w'=>sX w w'/\∃vo,r=.tuple #[vo,sS (YF (es.map DV.it) q.ts [] []).1]/\((YF (es.map DV.it) q.ts [] []).1≠0->vo=Zm) /\
   ((YF (es.map DV.it) q.ts [] []).1=0->w'.ownsRow ↑w 112 2 vo (YF (es.map DV.it) q.ts [] []).2.length ((YF (es.map DV.it) q.ts [] []).2.flatMap QD)):=by
 have h:=h0.up (L':=[]) od;have hq:=hC.up (L':=[]) od;refine Zf (YF (es.map DV.it) q.ts [] []) λR hR=>?_;rw[hR];refine Zq func96 ?_;refine Qc<|Zl (Qt q) λb3 G T gj hD=>x Qi<|Qb ?_;have gk:=T.size;have h1:=h.I T;have hw:=hq.I T;refine Qc<|Qb<|Qc<|Qb<|Qd<|Qc<|Qo U hD U U<|QF hw.ts.arr U<|Qa<|xe<|Q7 (α:=Nat×O2×O2×xw) [(4,7),(9,11),(15,41)] (λz=>[(6,z.2.1),(7,z.2.2.1),(15,sS z.1)]) (λz w'=>z.1<=q.ts.length/\sX G w'/\w'.ownsRow ↑G 112 2 z.2.1 z.2.2.2.length (z.2.2.2.flatMap QD)/\Qq 3 ↑G w' z.2.2.1 (z.2.2.2.map (·.1))/\(∀b∈ob z.2.1,b∉ob z.2.2.1)/\z.2.2.2.length=z.1/\(∀x∈z.2.2.2,0<=x.1/\x.1<4096)/\(z.2.2.2.map (·.1)).Nodup/\YF (es.map DV.it) (q.ts.drop z.1) (z.2.2.2.map (·.1)) z.2.2.2=R) (λz=>q.ts.length - z.1) (0,Zm,Zm,[]) oC
  ⟨Lo _,O5.Z _ _,QE _ _ _ _,QE _ _ _ _,by simp[ob],rfl,od,MN,hR⟩ ?_
 rintro⟨k,vo,vt,l⟩ g w2 ⟨hk,I,J,hg,hn,ho,hr,hs,hE⟩;simp only[]at hk J hg hn ho hr hs hE;have gl:=I.size;have gm:(l.map (·.1)).length=k:=by rw[Lh,ho]
 have h2:=h1.I I;have hG:=hw.I I;refine Zo rfl U (λht=>?_) (λht=>?_)
 ·refine Qw ?_;have hH:q.ts.length<=k:=by have hh:¬(k:Int)<(q.ts.length:Int):=ht;omega
  rw[Lt hH]at hE;rw[YF]at hE;subst hE;refine Qj<|Qz<|(Qgz J hr hs oa).Y ?_;rintro r3 w3 ⟨hI,hJ⟩;refine xe<|Qj<|x Qi<|Qb<|Qh ⟨[vo,sS 0],oB,T.D (I.S hI λb E=>.inr (Qg J b E).1),vo,U,λe=>OW U e,λ_=>ZB hJ oa⟩
 have V:k<q.ts.length:=by have hh:(k:Int)<(q.ts.length:Int):=ht;omega
 have hK:q.ts.drop k=q.ts[k]'V::q.ts.drop (k+1):=LF V;rw[hK,QaJ]at hE;refine Qf<|Qd<|Qm<|Qc<|xig (g:=ZN) (i:=k) Qd0 hG.ts.arr U U V λgn hh=>?_;refine Zf (q.ts[k]'V) λy hy=>?_;rw[hy]at hh hE;refine x (Qr hh U U)<|QM [.string .empty,sS 0] λb9 w4 hL hM hN=>QK (ZN y) hN oB λw5 hO hz=>xe ?_;have hu:sX w2 w5:=hL.O hO hM;have hP:QL [] ↑w5 vt (l.map (·.1)):=(Qq.ints hg oa od).I hu;refine Qj<|Qo U hz U U<|Qa<|Qz<|(QfZ (h2.I hu) y.1 hP).Y ?_;rintro r6 w6 ⟨⟨i,rfl,hi⟩,h4⟩;have Y:=hu.D h4;have go:=Y.size;refine Qa<|QW U U<|QW U U<|x Qi<|Qb<|Qd<|Qj<|Zx U U<|xe<|QO rfl (λhe=>?_) (λhe=>?_)
 ·rw[OU he]at hE;subst hE;refine Qj<|x Qi<|Qb<|Qh ⟨[Zm,sS _],oB,T.D (I.D Y),Zm,U,λ_=>U,λe=>OW e he⟩
 rw[OT he]at hE;have h5:jn (es.map DV.it) y.1 (l.map (·.1))=0:=Lp.1 he;have hi:=hi h5;obtain⟨hF,h6⟩:=Qkw h5;rw[Lh]at hF;refine Zf (YH (es.map DV.it) 1 y.1) λF hQ=>?_;rw[hQ]at hi hF h6 hE;subst hi;refine Qf ?_;have hS:Qq 3 ↑G w6 vt (l.map (·.1)):=Ql hg Y;refine Qj<|Qa<|Qn<|Za [[sS F]] λgp w7 hf gq hT=>?_;have h7:Qq 3 ↑G w7 vt (l.map (·.1)):=Ql hS hf;have gr:=hf.size;refine Qn<|Q2 (m:=1) (news:=[sS F]) h7 U U U (by have:=hT.at (L:=[]) od;simpa using this) oq oa oa λhj w8 hU hl hV=>?_;refine Qb ?_;have gs:=hl.size;have hW:∀b∈ob vt,↑G<=b:=λb E=>(Qg h7 b E).1;have hX:sX G w8:=((I.D Y).D hf).S hl λb E=>.inr (hW b E);have h8:∀b∈ob vo,b∉ob hj:=λb E O=>by
  rcases hV b O with H|H
  ·exact hn b E H
  have:=(Qg J b E).2;omega
 refine Qs<|Qa<|Qa<|QQ U<|x (Qk (((hz.I h4).I hf).J hl (λE=>ov (Qg hg b9 E).2)) U U)<|x (Qx ⟨U,U,Z⟩)<|Qn<|Za [QD ((F:Int),y.2)] λgt w9 hm gu hY=>?_;have gv:=hm.size;refine Qn<|Q2 (m:=1) (news:=QD ((F:Int),y.2)) (Ql (Qe (Ql (Ql J Y) hf) hl hn) hm) U U U (by have:=hY.at (L:=[]) od;simpa using this) oq oa oa λh9 hv hZ hA ga=>?_;refine Qb ?_;have hB:=Ql hU hm;have gb:Qq 3 ↑G hv hj ((l++[((F:Int),y.2)]).map (·.1)):=by
  have H:=Qe hB hA (λb E O=>h8 b O E);show hv.ownsRow _ _ 1 _ _ _;simp only[Oj,oN,Oc]at H ⊢;simpa using H
 have gc:sX G hv:=(hX.D hm).S hA λb E=>.inr (Qg J b E).1;have gg:∀b∈ob h9,b∉ob hj:=λb E O=>by
  rcases ga b E with H|H
  ·exact h8 b H O
  have:=(Qg hB b O).2;omega
 refine Qs<|QH U U<|Qa<|xe<|⟨(k+1,h9,hj,l++[((F:Int),y.2)]),by show q.ts.length - (k+1)<q.ts.length - k;omega,oC,V,gc,by rw[Ll,LA];simpa using hZ,gb,gg,by simp[ho],λp S=>?_,?_,?_⟩
 ·rcases Lc.1 S with S|S
  ·exact hr p S
  simp only[oJ]at S;subst S;exact⟨og,og⟩
 ·rw[Lr,ME];refine⟨hs,od,λa ha b E e=>?_⟩;simp only[oY,OL,oJ]at E;subst E;subst e;exact h6 ha
 rw[Lr];exact hE
structure ZZ where
 dr:Bool
 q:DV
abbrev ZS (e:ZZ):LV:=[.bool e.dr,sS e.q.kd,.string e.q.nm,e.q.p.va,sS e.q.p.a.st,e.q.p.vm,e.q.p.ve,e.q.vl,e.q.vt,sS e.q.bd]
theorem Qm8 (e:ZZ):(ZS e).length=10:=rfl
def ZZ.e (e:ZZ):Bool×Yi:=(e.dr,e.q.it)
def Qlm (L:LN)(H:xA)(e:ZZ):Prop:=Jl L H e.q
instance:Mm Qlm:=⟨λh E=>Jl.st h E,λh G=>Jl.up h G⟩
theorem Qlm.ones {L:LN}{H:xA}{e:ZZ}(h:Qlm L H e):Zb (ZS e):=⟨U,Jl.ones h⟩
abbrev zO (L:LN)(H:xA)(v:O2)(l:List ZZ):Prop:=Go.Lg.XQ ZS 10 Qlm L H v l
theorem Qnf {l:List Yi}{x:Yi}(h:(zC l x).1=0):(zC l x).2.length<=76:=by
 unfold zC at *;split at h
 ·rename_i E;exact OW h E
 rename_i E;have I:=Va (Lp.1 E);rw[OT E];split at h
 ·rename_i G;exact OW h G
 rename_i G;rw[OT G];split at h
 ·rename_i H;rw[OU H,Mb];exact I
 rename_i H;rw[OT H];split at h
 ·cases h
 rename_i J;rw[OT J];simp only[oN,Ob,oX,Oa];omega
theorem Qnk {l:List Yi}{k:Int}{n:ByteArray}(h:(zD l k n).1=0):(zD l k n).2.length<=76:=by
 unfold zD at *;split at h
 ·rename_i E;exact OW h E
 rename_i E;have H:=Va (Lp.1 E);rw[OT E];split at h
 ·cases h
 rename_i G;rw[OT G];simp only[oN,Ob,Oa];omega
theorem QdL {v:O2}{es:List DV}{xs:List ZZ}(E:Kd L ↑w v es)(hu:zO L' ↑w vx xs):
  QY sV 42 [v,vx] w λr w'=>sX w w'/\∃vo l,r=.tuple #[vo,sS (zG (es.map DV.it) (xs.map ZZ.e)).1]/\Jw ↑w w' vo l/\((zG (es.map DV.it) (xs.map ZZ.e)).1=0->l.map DV.it=(zG (es.map DV.it) (xs.map ZZ.e)).2/\l.length<=76):=by
 have h:=E.up (L':=[]) od;have hx:zO [] ↑w vx xs:=hu.up od;have hF:=hx.arr.le;have G:zG (es.map DV.it) (xs.map ZZ.e)=if KY (es.map DV.it)≠0 then(KY (es.map DV.it),[])else QbS (xs.map ZZ.e) (es.map DV.it):=rfl
 refine Zf (zG (es.map DV.it) (xs.map ZZ.e)) λD hD=>?_;rw[hD]at G ⊢;refine Zq func42 ?_;refine Qc<|x Qi<|Qb<|Qd<|Qj<|Qz<|(JR h).Y ?_;rintro r1 w1 ⟨rfl,S⟩;refine Qb<|Qj<|Zx U U<|xe<|QO rfl (λH=>?_) (λH=>?_)
 ·rw[OU H]at G;refine Qj<|x Qi<|Qb<|Qh ⟨[nS,sS (KY (es.map DV.it))],oB,S,nS,[],by rw[G];rfl,Yh.nil,λE=>OW (by rw[G]at E;exact E) H⟩
 rw[OT H]at G;have hG:es.length<=76:=by have:=Va (Lp.1 H);rwa [Lh]at this
 refine Qf<|Qj<|Qz<|(Km (h.I S) oa).Y ?_;rintro r2 w2 ⟨hv,l2,hw,hh⟩;have hH:l2.length=es.length:=by have:=OV oQ hh;rwa [Lh,Lh]at this
 refine Qb<|Qd<|Qj<|QF hx.arr U<|Qa<|xe<|Q7 (α:=Nat×O2×List DV) [(4,5),(7,7),(9,10),(20,47)] (λz=>[(7,z.2.1),(20,sS z.1)]) (λz w'=>z.1<=xs.length/\sX w w'/\Jw ↑w w' z.2.1 z.2.2/\z.2.2.length<=76/\QbS ((xs.map ZZ.e).drop z.1) (z.2.2.map DV.it)=D) (λz=>xs.length - z.1) (0,r2,l2) oB
  ⟨Lo _,(S.D hv),hw.base S.size,(show l2.length<=76 by omega),by rw[List.drop_zero,hh];exact G.symm⟩ ?_
 rintro⟨k,vo,l⟩ g V ⟨hk,Y,hl,hi,hR⟩;simp only[]at hk hl hi hR;refine Zo rfl U (λha=>?_) (λha=>?_)
 ·refine Qw ?_;have hy:xs.length<=k:=by have hz:¬(k:Int)<(xs.length:Int):=ha;omega
  rw[Lt (by rw[Lh];exact hy),QbS]at hR;refine Qj<|x Qi<|Qb<|Qh ⟨[vo,sS 0],oB,Y,vo,l,by rw[<-hR];rfl,hl,λ_=>⟨by rw[<-hR],hi⟩⟩
 have I:k<xs.length:=by have hz:(k:Int)<(xs.length:Int):=ha;omega
 have h2:k<(xs.map ZZ.e).length:=by rw[Lh];exact I
 rw[LF h2,Mr,QbS]at hR;have hj:=Lm I;have hm:zO [] ↑V vx xs:=Go.Lg.XQ.I hx Y;refine Qf<|Qd<|Qm<|Qc<|xig (g:=ZS) (i:=k) Qm8 hm.arr U U I λhI hn=>?_;refine Zf (xs[k]'I) λe he=>?_;rw[he]at hn hj hR;have ho:Jl [] ↑V e.q:=hm.each e hj;refine x (Qr hn U U)<|QM [.bool false,sS 0,.string .empty,nS,sS 0,nS,nS,nS,nS,sS 0] λb9 w4 h3 h4 h5=>QK (ZS e) h5 (Qlm.ones ho) λw5 h6 T=>xe ?_;have hb:sX V w5:=h3.O h6 h4;have hc:=Y.D hb;have hp:=hc.size;have h7:=hl.I hb;have hq:Kd [] ↑w5 vo l:=Jw.dits h7 oa od;refine Qc<|Qb<|QX (α:=O2×List DV) [(7,7),(10,10),(24,43)] (λz=>[(7,z.1),(10,sS (jM (l.map DV.it) e.e).1)]) (λz w'=>sX w w'/\Jw ↑w w' z.1 z.2/\((jM (l.map DV.it) e.e).1=0->z.2.map DV.it=(jM (l.map DV.it) e.e).2/\z.2.length<=76)) om ?_ ?_
 ·refine Qc<|Qo U T U U<|xe<|QU U (λhf=>?_) (λhf=>?_)
  ·have e1:jM (l.map DV.it) e.e=zD (l.map DV.it) e.q.kd e.q.nm:=OU hf;rw[e1];refine Qs<|Qa<|QQ U<|Qo U T U U<|QQ U<|QQ U<|x (Qk T U U) <|
    Qz<|(QnO hq e.q.kd e.q.nm).Y ?_
   rintro r7 w7 ⟨h8,v7,l7,rfl,h9,hr⟩;refine Qa<|QW U U<|QW U U<|x Qi<|Qb<|⟨(v7,l7),oB,hc.D h8,h9.base hp,λE=>⟨hr E,?_⟩⟩;have J:=Qnk E;rw[<-hr E,Lh]at J;exact J
  have e1:jM (l.map DV.it) e.e=zC (l.map DV.it) e.q.it:=OT (by show ¬e.dr=true;rw[hf];decide);rw[e1];refine Qs<|Qa<|QQ U<|x (Zh (us:=Qt e.q) T U U U)<|Qz<|(QpW hq (ho.I hb)).Y ?_;rintro r6 w6 ⟨hA,v6,l6,rfl,hB,hs⟩;refine Qa<|QW U U<|QW U U<|x Qi<|Qb<|⟨(v6,l6),oB,hc.D hA,hB.base hp,λE=>⟨hs E,?_⟩⟩;have J:=Qnf E;rw[<-hs E,Lh]at J;exact J
 rintro⟨v8,l8⟩ g w8 ⟨ht,hC,hg⟩;refine Qj<|Zx U U<|xe<|QO rfl (λO=>?_) (λO=>?_)
 ·rw[OU O]at hR;refine Qj<|x Qi<|Qb<|Qh ⟨[nS,sS (jM (l.map DV.it) e.e).1],oB,ht,nS,[],by rw[<-hR];rfl,Yh.nil,λE=>OW (by rw[<-hR]at E;exact E) O⟩
 rw[OT O]at hR;obtain⟨hg,hE⟩:=hg (Lp.1 O);refine Qf<|Qs<|QH U U<|Qa<|xe ?_;exact⟨(k+1,v8,l8),og,oB,I,ht,hC,hE,by simp only[];rw[hg];exact hR⟩
structure yk where
 vc:O2
 lc:List IV
 vr:O2
 lr:List IV
 vx:O2
 lx:List XV
 vk:O2
 lk:List KV
def yk.bl (z:yk):LN:=ob z.vc++(ob z.vr++(ob z.vx++ob z.vk))
structure CeA (L:LN)(H:xA)(z:yk):Prop where
 c:∀q∈z.lc,IvA L H q
 r:∀q∈z.lr,IvA L H q
 x:∀q∈z.lx,XvA L H q
 k:∀q∈z.lk,KvA L H q
instance:Mm CeA:=⟨λh G=>⟨λq E=>(h.c q E).st G,λq E=>(h.r q E).st G,λq E=>(h.x q E).st G,λq E=>(h.k q E).st G⟩,λh H=>⟨λq E=>(h.c q E).up H,λq E=>(h.r q E).up H,λq E=>(h.x q E).up H,λq E=>(h.k q E).up H⟩⟩
theorem Mm.own {E:LN->Array Obj->α->Prop}[Mm E]{O O' LL:LN}{q:α}(h:E (O++LL) ↑w q)(H:O5 X w w')(I:∀b∈X,b∈O\/b∈LL)(J:∀b∈O',b∈O\/↑w<=b):E (O'++LL) ↑w' q:=by
 have S:E (O'++(O++LL)) ↑w q:=Mm.up h λb G=>(Lc.1 G).elim (λG=>(J b G).imp (λh=>Lc.2 (.inl h)) id) .inl;refine Mm.Y (Mm.st S (H.Y λb G=>Lc.2 (.inr (Lc.2 (I b G))))) λb G=>?_;exact(Lc.1 G).elim (λG=>Lc.2 (.inl G)) λG=>Lc.2 (.inr (Lc.2 (.inr G)))
structure CwI (LL:LN)(B:Nat)(w:O1)(b7:Nat)(ve:O2)(z:yk):Prop where
 b:∃T,QZ ↑w b7 T [ve,z.vc,z.vr,z.vx,z.vk]
 oc:w.ownsRow B 98 5 z.vc z.lc.length (z.lc.flatMap QJ)
 or:w.ownsRow B 98 5 z.vr z.lr.length (z.lr.flatMap QJ)
 ox:w.ownsRow B 105 2 z.vx z.lx.length (z.lx.flatMap Q3)
 ok:w.ownsRow B 110 3 z.vk z.lk.length (z.lk.flatMap Q9)
 e:CeA (z.bl++LL) ↑w z
 dcr:∀b∈ob z.vc,b∉ob z.vr
 dcx:∀b∈ob z.vc,b∉ob z.vx
 dck:∀b∈ob z.vc,b∉ob z.vk
 drx:∀b∈ob z.vr,b∉ob z.vx
 drk:∀b∈ob z.vr,b∉ob z.vk
 dxk:∀b∈ob z.vx,b∉ob z.vk
section
variable {LL:LN}{w8 w9:O1}{b7:Nat}{z:yk}
theorem CwI.I (h:CwI LL B w b7 ve z)(E:sX w w8):CwI LL B w8 b7 ve z:=by
 obtain⟨T,G⟩:=h.b;exact⟨⟨T,G.I E⟩,Ql h.oc E,Ql h.or E,Ql h.ox E,Ql h.ok E,Mm.I h.e E,h.dcr,h.dcx,h.dck,h.drx,h.drk,h.dxk⟩
theorem CwI.ge (h:CwI LL B w b7 ve z):∀b∈z.bl,B<=b/\b<w.heap.size:=λb E=>by
 unfold yk.bl at E;rcases Lc.1 E with E|E
 ·exact Qg h.oc b E
 rcases Lc.1 E with E|E
 ·exact Qg h.or b E
 rcases Lc.1 E with E|E
 ·exact Qg h.ox b E
 exact Qg h.ok b E
theorem CwI.ap_c (h:CwI LL B w b7 ve z){H:O2}{q:IV}(Y:IvA (z.bl++LL) ↑w q)(V:w8.ownsRow B 98 5 H (z.lc.length+1) (z.lc.flatMap QJ++QJ q))(O:O5 (ob z.vc) w w8)(S:∀b∈ob H,b∈ob z.vc\/↑w<=b)
  (J:O5 [b7] w8 w9) (ha:∃T,QZ ↑w9 b7 T [ve,H,z.vr,z.vx,z.vk]) (h7:b7<B) (hL:b7∈LL):CwI LL B w9 b7 ve { z with vc:=H,lc:=z.lc++[q] }:=by
 have gr:=Qg h.or;have gx:=Qg h.ox;have gk:=Qg h.ok;have hc:w8.ownsRow B 98 5 H (z.lc++[q]).length ((z.lc++[q]).flatMap QJ):=by
  rw[Ll,LA];simpa using V
 have he:∀b∈ob z.vc,b∈z.bl:=λb E=>by
  unfold yk.bl;simp only[oW];exact .inl E
 have hz:CeA (z.bl++LL) ↑w { z with vc:=H,lc:=z.lc++[q] }:=⟨λd hd=>(Lc.1 hd).elim (h.e.c d) λhd=>by rw[Lb.1 hd];exact Y,h.e.r,h.e.x,h.e.k⟩
 have hf:CeA ((yk.bl { z with vc:=H,lc:=z.lc++[q] })++LL) ↑w8 { z with vc:=H,lc:=z.lc++[q] }:=Mm.own hz O (λb E=>.inl (he b E)) λb E=>by
  unfold yk.bl at E ⊢;simp only[oW]at E ⊢;rcases E with E|E|E|E
  ·exact(S b E).imp (λE=>.inl E) id
  ·exact .inl (.inr (.inl E))
  ·exact .inl (.inr (.inr (.inl E)))
  exact .inl (.inr (.inr (.inr E)))
 refine⟨ha,Qe hc J (λb E G=>by rw[Lb.1 G]at E;have:=(Qg V) b7 E;omega),Qe (Qe h.or O (λb E G=>h.dcr b G E)) J (λb E G=>by rw[Lb.1 G]at E;have:=gr b7 E;omega),Qe (Qe h.ox O (λb E G=>h.dcx b G E)) J (λb E G=>by rw[Lb.1 G]at E;have:=gx b7 E;omega),Qe (Qe h.ok O (λb E G=>h.dck b G E)) J (λb E G=>by rw[Lb.1 G]at E;have:=gk b7 E;omega),Mm.own hf J (λb E=>.inr (by rw[Lb.1 E];exact hL)) (λb E=>.inl E),λb E G=>(S b E).elim (λI=>h.dcr b I G) (λI=>ov (gr b G)),λb E G=>(S b E).elim (λI=>h.dcx b I G) (λI=>ov (gx b G)),λb E G=>(S b E).elim (λI=>h.dck b I G) (λI=>ov (gk b G)),h.drx,h.drk,h.dxk⟩
theorem CwI.ap_r (h:CwI LL B w b7 ve z){H:O2}{q:IV}(Y:IvA (z.bl++LL) ↑w q)(V:w8.ownsRow B 98 5 H (z.lr.length+1) (z.lr.flatMap QJ++QJ q))(O:O5 (ob z.vr) w w8)(S:∀b∈ob H,b∈ob z.vr\/↑w<=b)
  (J:O5 [b7] w8 w9) (ha:∃T,QZ ↑w9 b7 T [ve,z.vc,H,z.vx,z.vk]) (h7:b7<B) (hL:b7∈LL):CwI LL B w9 b7 ve { z with vr:=H,lr:=z.lr++[q] }:=by
 have gc:=Qg h.oc;have gx:=Qg h.ox;have gk:=Qg h.ok;have hc:w8.ownsRow B 98 5 H (z.lr++[q]).length ((z.lr++[q]).flatMap QJ):=by
  rw[Ll,LA];simpa using V
 have he:∀b∈ob z.vr,b∈z.bl:=λb E=>by
  unfold yk.bl;simp only[oW];exact .inr (.inl E)
 have hz:CeA (z.bl++LL) ↑w { z with vr:=H,lr:=z.lr++[q] }:=⟨h.e.c,λd hd=>(Lc.1 hd).elim (h.e.r d) λhd=>by rw[Lb.1 hd];exact Y,h.e.x,h.e.k⟩
 have hf:CeA ((yk.bl { z with vr:=H,lr:=z.lr++[q] })++LL) ↑w8 { z with vr:=H,lr:=z.lr++[q] }:=Mm.own hz O (λb E=>.inl (he b E)) λb E=>by
  unfold yk.bl at E ⊢;simp only[oW]at E ⊢;rcases E with E|E|E|E
  ·exact .inl (.inl E)
  ·exact(S b E).imp (λE=>.inr (.inl E)) id
  ·exact .inl (.inr (.inr (.inl E)))
  exact .inl (.inr (.inr (.inr E)))
 refine⟨ha,Qe (Qe h.oc O (λb E G=>h.dcr b E G)) J (λb E G=>by rw[Lb.1 G]at E;have:=gc b7 E;omega),Qe hc J (λb E G=>by rw[Lb.1 G]at E;have:=(Qg V) b7 E;omega),Qe (Qe h.ox O (λb E G=>h.drx b G E)) J (λb E G=>by rw[Lb.1 G]at E;have:=gx b7 E;omega),Qe (Qe h.ok O (λb E G=>h.drk b G E)) J (λb E G=>by rw[Lb.1 G]at E;have:=gk b7 E;omega),Mm.own hf J (λb E=>.inr (by rw[Lb.1 E];exact hL)) (λb E=>.inl E),λb E G=>(S b G).elim (λI=>h.dcr b E I) (λI=>ov (gc b E)),h.dcx,h.dck,λb E G=>(S b E).elim (λI=>h.drx b I G) (λI=>ov (gx b G)),λb E G=>(S b E).elim (λI=>h.drk b I G) (λI=>ov (gk b G)),h.dxk⟩
theorem CwI.ap_x (h:CwI LL B w b7 ve z){H:O2}{q:XV}(Y:XvA (z.bl++LL) ↑w q)(V:w8.ownsRow B 105 2 H (z.lx.length+1) (z.lx.flatMap Q3++Q3 q))(O:O5 (ob z.vx) w w8)(S:∀b∈ob H,b∈ob z.vx\/↑w<=b)
  (J:O5 [b7] w8 w9) (ha:∃T,QZ ↑w9 b7 T [ve,z.vc,z.vr,H,z.vk]) (h7:b7<B) (hL:b7∈LL):CwI LL B w9 b7 ve { z with vx:=H,lx:=z.lx++[q] }:=by
 have gc:=Qg h.oc;have gr:=Qg h.or;have gk:=Qg h.ok;have hc:w8.ownsRow B 105 2 H (z.lx++[q]).length ((z.lx++[q]).flatMap Q3):=by
  rw[Ll,LA];simpa using V
 have he:∀b∈ob z.vx,b∈z.bl:=λb E=>by
  unfold yk.bl;simp only[oW];exact .inr (.inr (.inl E))
 have hz:CeA (z.bl++LL) ↑w { z with vx:=H,lx:=z.lx++[q] }:=⟨h.e.c,h.e.r,λd hd=>(Lc.1 hd).elim (h.e.x d) λhd=>by rw[Lb.1 hd];exact Y,h.e.k⟩
 have hf:CeA ((yk.bl { z with vx:=H,lx:=z.lx++[q] })++LL) ↑w8 { z with vx:=H,lx:=z.lx++[q] }:=Mm.own hz O (λb E=>.inl (he b E)) λb E=>by
  unfold yk.bl at E ⊢;simp only[oW]at E ⊢;rcases E with E|E|E|E
  ·exact .inl (.inl E)
  ·exact .inl (.inr (.inl E))
  ·exact(S b E).imp (λE=>.inr (.inr (.inl E))) id
  exact .inl (.inr (.inr (.inr E)))
 refine⟨ha,Qe (Qe h.oc O (λb E G=>h.dcx b E G)) J (λb E G=>by rw[Lb.1 G]at E;have:=gc b7 E;omega),Qe (Qe h.or O (λb E G=>h.drx b E G)) J (λb E G=>by rw[Lb.1 G]at E;have:=gr b7 E;omega),Qe hc J (λb E G=>by rw[Lb.1 G]at E;have:=(Qg V) b7 E;omega),Qe (Qe h.ok O (λb E G=>h.dxk b G E)) J (λb E G=>by rw[Lb.1 G]at E;have:=gk b7 E;omega),Mm.own hf J (λb E=>.inr (by rw[Lb.1 E];exact hL)) (λb E=>.inl E),h.dcr,λb E G=>(S b G).elim (λI=>h.dcx b E I) (λI=>ov (gc b E)),h.dck,λb E G=>(S b G).elim (λI=>h.drx b E I) (λI=>ov (gr b E)),h.drk,λb E G=>(S b E).elim (λI=>h.dxk b I G) (λI=>ov (gk b G))⟩
theorem CwI.ap_k (h:CwI LL B w b7 ve z){H:O2}{q:KV}(Y:KvA (z.bl++LL) ↑w q)(V:w8.ownsRow B 110 3 H (z.lk.length+1) (z.lk.flatMap Q9++Q9 q))(O:O5 (ob z.vk) w w8)(S:∀b∈ob H,b∈ob z.vk\/↑w<=b)
  (J:O5 [b7] w8 w9) (ha:∃T,QZ ↑w9 b7 T [ve,z.vc,z.vr,z.vx,H]) (h7:b7<B) (hL:b7∈LL):CwI LL B w9 b7 ve { z with vk:=H,lk:=z.lk++[q] }:=by
 have gc:=Qg h.oc;have gr:=Qg h.or;have gx:=Qg h.ox;have hc:w8.ownsRow B 110 3 H (z.lk++[q]).length ((z.lk++[q]).flatMap Q9):=by
  rw[Ll,LA];simpa using V
 have he:∀b∈ob z.vk,b∈z.bl:=λb E=>by
  unfold yk.bl;simp only[oW];exact .inr (.inr (.inr E))
 have hz:CeA (z.bl++LL) ↑w { z with vk:=H,lk:=z.lk++[q] }:=⟨h.e.c,h.e.r,h.e.x,λd hd=>(Lc.1 hd).elim (h.e.k d) λhd=>by rw[Lb.1 hd];exact Y⟩
 have hf:CeA ((yk.bl { z with vk:=H,lk:=z.lk++[q] })++LL) ↑w8 { z with vk:=H,lk:=z.lk++[q] }:=Mm.own hz O (λb E=>.inl (he b E)) λb E=>by
  unfold yk.bl at E ⊢;simp only[oW]at E ⊢;rcases E with E|E|E|E
  ·exact .inl (.inl E)
  ·exact .inl (.inr (.inl E))
  ·exact .inl (.inr (.inr (.inl E)))
  exact(S b E).imp (λE=>.inr (.inr (.inr E))) id
 refine⟨ha,Qe (Qe h.oc O (λb E G=>h.dck b E G)) J (λb E G=>by rw[Lb.1 G]at E;have:=gc b7 E;omega),Qe (Qe h.or O (λb E G=>h.drk b E G)) J (λb E G=>by rw[Lb.1 G]at E;have:=gr b7 E;omega),Qe (Qe h.ox O (λb E G=>h.dxk b E G)) J (λb E G=>by rw[Lb.1 G]at E;have:=gx b7 E;omega),Qe hc J (λb E G=>by rw[Lb.1 G]at E;have:=(Qg V) b7 E;omega),Mm.own hf J (λb E=>.inr (by rw[Lb.1 E];exact hL)) (λb E=>.inl E),h.dcr,h.dcx,λb E G=>(S b G).elim (λI=>h.dck b E I) (λI=>ov (gc b E)),h.drx,λb E G=>(S b G).elim (λI=>h.drk b E I) (λI=>ov (gr b E)),λb E G=>(S b G).elim (λI=>h.dxk b E I) (λI=>ov (gx b E))⟩
end
def jC (ev:List Kq)(z:yk):ZF:=⟨ev,z.lc.map IV.it,z.lr.map IV.it,z.lx.map XV.x,z.lk.map KV.k⟩
theorem Qhx (all:List Yi)(x:Yi)(l:List Yi)(c:ZF):Qhy all (x::l) c=if(KL all x c).1≠0 then((KL all x c).1,VN)else Qhy all l (KL all x c).2:=rfl
theorem QrX {all:List Yi}{ev:List Kq}{z:yk}(h:q.kd=1)(v:O2):KL all q.it (jC ev z)=(0,jC ev { z with vc:=v,lc:=z.lc++[⟨q.nm,q.p⟩] }):=by
 unfold KL;rw[OU (show q.it.kd=1 from h)];unfold jC;simp only[Oj];rfl
theorem QrW {all:List Yi}{ev:List Kq}{z:yk}(h:q.kd=2)(v:O2):KL all q.it (jC ev z)=(0,jC ev { z with vr:=v,lr:=z.lr++[⟨q.nm,q.p⟩] }):=by
 unfold KL;rw[OT (show ¬q.it.kd=1 from λe=>by rw[show q.it.kd=q.kd from rfl,h]at e;cases e),OU (show q.it.kd=2 from h)];unfold jC;simp only[Oj];rfl
theorem QrV {all:List Yi}{ev:List Kq}{z:yk}(h:q.kd=3):(KL all q.it (jC ev z)).1=(YF all q.ls [] []).1/\((YF all q.ls [] []).1=0->∀v u,KL all q.it (jC ev z)=(0,jC ev { z with vx:=v,lx:=z.lx++[⟨q.nm,u,(YF all q.ls [] []).2⟩] })):=by
 have e:KL all q.it (jC ev z)=if(YF all q.ls [] []).1≠0 then((YF all q.ls [] []).1,VN)else(0,{ jC ev z with ex:=(jC ev z).ex++[⟨q.nm,(YF all q.ls [] []).2⟩] }):=by
  unfold KL;rw[OT (show ¬q.it.kd=1 from λe=>by rw[show q.it.kd=q.kd from rfl,h]at e;cases e),OT (show ¬q.it.kd=2 from λe=>by rw[show q.it.kd=q.kd from rfl,h]at e;cases e),OU (show q.it.kd=3 from h)];rfl
 rw[e];refine⟨?_,λE v u=>?_⟩
 ·split
  ·rfl
  rename_i G;exact(Lp.1 G).symm
 rw[OT (not_not_intro E)];unfold jC;simp only[Oj];rfl
theorem QrU {all:List Yi}{ev:List Kq}{z:yk}(h:q.kd=4):(KL all q.it (jC ev z)).1=(YF all q.ts [] []).1/\((YF all q.ts [] []).1=0->∀v u,KL all q.it (jC ev z)=(0,jC ev { z with vk:=v,lk:=z.lk++[⟨q.nm,u,(YF all q.ts [] []).2,q.bd⟩] })):=by
 have e:KL all q.it (jC ev z)=if(YF all q.ts [] []).1≠0 then((YF all q.ts [] []).1,VN)else(0,{ jC ev z with cs:=(jC ev z).cs++[⟨q.nm,(YF all q.ts [] []).2,q.bd⟩] }):=by
  unfold KL;rw[OT (show ¬q.it.kd=1 from λe=>by rw[show q.it.kd=q.kd from rfl,h]at e;cases e),OT (show ¬q.it.kd=2 from λe=>by rw[show q.it.kd=q.kd from rfl,h]at e;cases e),OT (show ¬q.it.kd=3 from λe=>by rw[show q.it.kd=q.kd from rfl,h]at e;cases e),OU (show q.it.kd=4 from h)];rfl
 rw[e];refine⟨?_,λE v u=>?_⟩
 ·split
  ·rfl
  rename_i G;exact(Lp.1 G).symm
 rw[OT (not_not_intro E)];unfold jC;simp only[Oj];rfl
theorem QrY {all:List Yi}(E:¬q.kd=1)(G:¬q.kd=2)(H:¬q.kd=3)(I:¬q.kd=4):KL all q.it c=(0,c):=by
 unfold KL;rw[OT (show ¬q.it.kd=1 from E),OT (show ¬q.it.kd=2 from G),OT (show ¬q.it.kd=3 from H),OT (show ¬q.it.kd=4 from I)]
theorem jj (all:List Yi):∀(r:List (ByteArray×Int)) (tk:LI) (o:xw),(YF all r tk o).2.length<=o.length+r.length
 | [],tk,o=>by rw[YF];exact Nat.le_of_eq ((qN (λp:Int×Int=>p.1) o).length_eq)
 | y::r,tk,o=>by
  rw[YF];split
  ·simp
  split
  ·simp
  refine LH (jj all r _ _) ?_;simp only[oN,oX,OI];omega
theorem Qdg {v:O2}{ev:List Kq}{es:List DV}(ka:Uf L ↑w ve ev)(h0:Kd L' ↑w v es)(E:∀q∈es.map DV.it,q.ls.length<=100000/\q.ts.length<=100000):
  QY sV 43 [ve,v] w λr w'=>sX w w'/\∃cm:CL,r=.tuple #[sT cm.cells,sS (J8 ev (es.map DV.it)).1]/\Zb cm.cells/\((J8 ev (es.map DV.it)).1=0->cm.V=(J8 ev (es.map DV.it)).2/\∀L:LN,(∀b∈L,b<↑w)->ZI L ↑w' cm):=by
 have h:=h0.up (L':=[]) od;have hE:=ka.up (L':=[]) od;have kb:=hE.arr.le;have hn:J8 ev (es.map DV.it)=if KY (es.map DV.it)≠0 then(KY (es.map DV.it),VN)else Qhy (es.map DV.it) (es.map DV.it) ⟨ev,[],[],[],[]⟩:=rfl
 have hO:Zb (CL.mk Zm Zm Zm Zm Zm [] [] [] [] []).cells:=⟨U,U,U,U,U,Z⟩;refine Zf (J8 ev (es.map DV.it)) λD hD=>?_;rw[hD]at hn ⊢;refine Zq func43 ?_;refine Qc<|QM Z8 λb4 w1 g0 mu hP=>Qb<|Qd<|Qj<|Qz<|(JR (h.I g0)).Y ?_;rintro r2 w2 ⟨rfl,hA⟩;have hQ:=g0.D hA;have mv:=hA.size;have mw:=hP.lt;refine Qb<|Qj<|Zx U U<|xe<|QO rfl (λhu=>?_) (λhu=>?_)
 ·rw[OU hu]at hn;refine Qc<|x (Qx Z)<|Qa<|QK Z8 (hP.I hA) ⟨U,U,U,U,U,Z⟩ λw3 kc ke=>Qb<|Qh ⟨[sT Z8,sS (KY (es.map DV.it))],⟨Yl ke,U,Z⟩,hQ.O kc oa,CL.mk Zm Zm Zm Zm Zm [] [] [] [] [],by rw[hn];rfl,hO,λh0=>OW (by rw[hn]at h0;exact h0) hu⟩
 rw[OT hu]at hn;have my:es.length<=76:=by have:=Va (Lp.1 hu);rwa [Lh]at this
 refine Qf<|Qj<|Qz<|(UB (hE.I hQ).arr).Y ?_;rintro re w4 ⟨hS,hv⟩;have mz:=hS.size;refine x (Qx ⟨xL hv,Z⟩)<|QM Z8 λI w5 kf kg kh=>QK [re,Zm,Zm,Zm,Zm] kh ⟨Qp hv,U,U,U,U,Z⟩ λw6 ki g2=>xe ?_;have hT:sX w4 w6:=kf.O ki kg;have g3:=(hQ.D hS).D hT;have kj:=g2.lt;have hge:=Qg hv;refine Qd<|Qj<|Qz<|(Km (h.I g3) oa).Y ?_;rintro r7 w8 ⟨hw,l,hl,T⟩;have m2:l.length=es.length:=by have:=OV oQ T;rwa [Lh,Lh]at this
 have kk:=g3.D hw;have m3:=hw.size;have kn:Zn [] ↑w8 r7 l.length 9 (l.flatMap Qt):=QB hl.own oa od;have ko:=g2.I hw;have hU:=((hP.I hA).I hS).I (hT.D hw);have kq:=Ql (Ql hv hT) hw;rw[<-T]at hn E;refine QF kn U<|Qa<|xe<|Q7 (α:=Nat×yk) [(5,5),(9,13),(26,100)] (λz=>[(26,sS z.1)]) (λz w'=>z.1<=l.length/\O5 [I] w8 w'/\(∀L:LN,(∀b∈L,b<↑w)->CwI (b4::I::L) ↑w8 w' I re z.2)/\Qhy (l.map DV.it) ((l.drop z.1).map DV.it) (jC ev z.2)=D/\(z.2.lc.length<=z.1/\z.2.lr.length<=z.1/\z.2.lx.length<=z.1/\z.2.lk.length<=z.1))
  (λz=>l.length - z.1) (0,⟨Zm,[],Zm,[],Zm,[],Zm,[]⟩) La ⟨Lo _,O5.Z _ _,λL _=>⟨⟨_,ko⟩,QE _ _ _ _,QE _ _ _ _,QE _ _ _ _,QE _ _ _ _,⟨od,od,od,od⟩,by simp[ob],by simp[ob],by simp[ob],by simp[ob],by simp[ob],by simp[ob]⟩,by rw[List.drop_zero];exact hn.symm,Lx _,Lx _,Lx _,Lx _⟩ ?_
 rintro⟨k,z⟩ g w9 ⟨hk,hf,hI,hR,kr,kt,ku,kv⟩;simp only[]at hk hI hR kr kt ku kv;have g4:sX w w9:=kk.O hf oa;have m4:=hf.size;have hg:=hI [] od;refine Zo rfl U (λhV=>?_) (λhV=>?_)
 ·refine Qw ?_;have kw:l.length<=k:=by have kx:¬(k:Int)<(l.length:Int):=hV;omega
  rw[Lt kw]at hR;have g5:D=(0,jC ev z):=hR.symm;refine Exists.elim hg.b λT7 kz=>?_;have k0:=hU.J hf oh;have g6:Zb [re,z.vc,z.vr,z.vx,z.vk]:=⟨Qp hv,Qp hg.oc,Qp hg.or,Qp hg.ox,Qp hg.ok,Z⟩;refine Qc<|QT kz U U<|QK [re,z.vc,z.vr,z.vx,z.vk] k0 g6 λk4 hB k5=>Qb<|Qh ⟨[.agg #[re,z.vc,z.vr,z.vx,z.vk],sS 0],⟨Yl k5,U,Z⟩,g4.O hB oa,CL.mk re z.vc z.vr z.vx z.vk ev z.lc z.lr z.lx z.lk,by rw[g5];rfl,g6,λ_=>⟨by rw[g5];rfl,λN hN=>?_⟩⟩;have V:=hI N hN;have hF:∀b∈b4::N,b<w8.heap.size:=λb E=>by
   rcases Lj.1 E with rfl|E
   ·omega
   have:=hN b E;omega
  have hG:∀b∈b4::N,b∈z.bl++(b4::I::N):=λb E=>Lc.2 (.inr (by
   rcases Lj.1 E with rfl|E
   ·exact Lq
   exact Lk _ (Lk _ E)))
  have k6:=Qe kq hf (λb E T=>by rw[Lb.1 T]at E;have:=(hge I E).2;omega);have hC:ZI (b4::N) ↑w9 (CL.mk re z.vc z.vr z.vx z.vk ev z.lc z.lr z.lx z.lk):=
   ⟨⟨QB k6 kb (λb E hbL=>by
     have h1:=hge b E;rcases Lj.1 hbL with rfl|hbL
     ·omega
     have:=hN b hbL;omega),hE.nm⟩,
    ⟨QB V.oc (show z.lc.length<=1099511627776 by omega) (λb E hbL=>by have h1:=(Qg V.oc b E).1;have:=hF b hbL;omega),λq O=>((V.e.c q O).a.up λb E=>.inl (hG b E)),λq O=>(V.e.c q O).nm⟩,
    ⟨QB V.or (show z.lr.length<=1099511627776 by omega) (λb E hbL=>by have h1:=(Qg V.or b E).1;have:=hF b hbL;omega),λq O=>((V.e.r q O).a.up λb E=>.inl (hG b E)),λq O=>(V.e.r q O).nm⟩,
    ⟨QB V.ox (show z.lx.length<=1099511627776 by omega) (λb E hbL=>by have h1:=(Qg V.ox b E).1;have:=hF b hbL;omega),λq O=>((V.e.x q O).l.up λb E=>.inl (hG b E)),λq O=>(V.e.x q O).nm⟩,
    ⟨QB V.ok (show z.lk.length<=1099511627776 by omega) (λb E hbL=>by have h1:=(Qg V.ok b E).1;have:=hF b hbL;omega),λq O=>((V.e.k q O).l.up λb E=>.inl (hG b E)),λq O=>(V.e.k q O).nm⟩⟩
  exact(hC.st (hB.Y od)).up λb E=>.inl (Lk _ E)
 have hh:k<l.length:=by have kx:(k:Int)<(l.length:Int):=hV;omega
 rw[LF hh,LJ,Qhx]at hR;have hW:=Lm hh;have k7:Zn [] ↑w9 r7 l.length 9 (l.flatMap Qt):=((QB hl.own oa (λb E T=>by rw[Lb.1 T]at E;have:=(Qg hl.own I E).1;omega):Zn [I] ↑w8 r7 l.length 9 (l.flatMap Qt)).st hf).up od;refine Qf<|Qd<|Qm<|Qc<|xig (g:=Qt) (i:=k) Z1 k7 U U hh λm5 g7=>?_;refine Zf (l[k]'hh) λq O=>?_;rw[O]at g7 hW hR;have hH:=E q.it (LP hW);have g8:∀L:LN,(∀b∈L,b<↑w)->Jl (z.bl++(b4::I::L)) ↑w9 q:=λL J=>by
  have h1:Jl (b4::I::L) ↑w8 q:=hl.each q hW _ λb E=>.inl (by
   simp only[oL]at E;rcases E with rfl|rfl|E
   ·omega
   ·exact kj
   have:=J b E;omega)
  have S:Jl (z.bl++(b4::I::L)) ↑w8 q:=h1.up λb E=>by
   rcases Lc.1 E with E|E
   ·exact .inr ((hI L J).ge b E).1
   exact .inl E
  exact S.st (hf.Y od)
 have ha:Jl [] ↑w9 q:=(g8 [] od).up od;refine x (Qr g7 U U)<|QM z9 λb9 k4 hB k8 k9=>QK (Qt q) k9 ha.ones λhs ma he=>xe ?_;have hi:sX w9 hs:=hB.O ma k8;have hJ:=g4.D hi;have m6:=hi.size;have hj:∀L:LN,(∀b∈L,b<↑w)->CwI (b4::I::L) ↑w8 hs I re z:=λL J=>(hI L J).I hi;have hy:=hj [] od;refine Exists.elim hy.b λT7 ht=>?_;have gc:=Qg hg.oc;have gr:=Qg hg.or;have gx:=Qg hg.ox;have gk:=Qg hg.ok;have n7c:I∉ob z.vc:=λT=>ov (gc I T).1
 have n7r:I∉ob z.vr:=λT=>ov (gr I T).1
 have n7x:I∉ob z.vx:=λT=>ov (gx I T).1
 have n7k:I∉ob z.vk:=λT=>ov (gk I T).1
 have g9:∀L:LN,(∀b∈L,b<↑w)->Jl (z.bl++(b4::I::L)) ↑hs q:=λL J=>(g8 L J).I hi;have hz:O5 [I] w8 hs:=hf.D hi;refine Qc<|Qo U he U U<|xe<|Qm<|Qc<|x (QR U U)<|Qb<|QO U (λhX=>?_) (λhX=>?_)
 ·have hk1:q.kd=1:=hX;refine Qs<|Qo U ht U U<|Qo U he U U<|QQ U<|x (Zh (us:=[q.p.va,sS q.p.a.st,q.p.vm,q.p.ve]) he U U U)<|x (Q5 [(0,[.string q.nm]),(1,[q.p.va,sS q.p.a.st,q.p.vm,q.p.ve])] ⟨U,U,U,U,Z⟩) <|
   Qn<|Za [QJ ⟨q.nm,q.p⟩] λmf hY G mg hZ=>Qn<|Q2 (m:=1) (news:=QJ ⟨q.nm,q.p⟩) (L:=[]) (hy.I G).oc U U U (hZ.at od) (Zb.all (IvA.ones ⟨ha.a,ha.nm⟩)) (show z.lc.length+1<=1099511627776 by omega) (ov G.size) λho h3 h4 H ga =>
   QQ rfl<|Qn<|Qu (j:=1) (u:=ho) ((ht.I G).J H n7c) U U od (Qp h4) λgb Y gg=>xe ?_
  have e:=QrX (all:=l.map DV.it) (ev:=ev) (z:=z) hk1 ho;rw[e,OT od]at hR;refine Qs<|QH U U<|Qa<|xe<|⟨(k+1,{ z with vc:=ho,lc:=z.lc++[⟨q.nm,q.p⟩] }),og,La,hh,((hz.D G).S H (λb E=>.inr (gc b E).1)).Q Y,λL J=>((hj L J).I G).ap_c ⟨((g9 L J).I G).a,ha.nm⟩ h4 H ga Y ⟨T7,gg⟩ oa od,hR,?_⟩
  simp only[oN,oP];omega
 have hk1:¬q.kd=1:=hX;refine Qc<|x (QR U U)<|Qb<|QO U (λgh=>?_) (λgh=>?_)
 ·have gi:q.kd=2:=gh;refine Qs<|Qo U ht U U<|Qo U he U U<|QQ U<|x (Zh (us:=[q.p.va,sS q.p.a.st,q.p.vm,q.p.ve]) he U U U)<|x (Q5 [(0,[.string q.nm]),(1,[q.p.va,sS q.p.a.st,q.p.vm,q.p.ve])] ⟨U,U,U,U,Z⟩) <|
   Qn<|Za [QJ ⟨q.nm,q.p⟩] λmf hY G mg hZ=>Qn<|Q2 (m:=1) (news:=QJ ⟨q.nm,q.p⟩) (L:=[]) (hy.I G).or U U U (hZ.at od) (Zb.all (IvA.ones ⟨ha.a,ha.nm⟩)) (show z.lr.length+1<=1099511627776 by omega) (ov G.size) λho h3 h4 H ga =>
   QQ rfl<|Qn<|Qu (j:=2) (u:=ho) ((ht.I G).J H n7r) U U od (Qp h4) λgb Y gg=>xe ?_
  have e:=QrW (all:=l.map DV.it) (ev:=ev) (z:=z) gi ho;rw[e,OT od]at hR;refine Qs<|QH U U<|Qa<|xe<|⟨(k+1,{ z with vr:=ho,lr:=z.lr++[⟨q.nm,q.p⟩] }),og,La,hh,((hz.D G).S H (λb E=>.inr (gr b E).1)).Q Y,λL J=>((hj L J).I G).ap_r ⟨((g9 L J).I G).a,ha.nm⟩ h4 H ga Y ⟨T7,gg⟩ oa od,hR,?_⟩
  simp only[oN,oP];omega
 have gi:¬q.kd=2:=gh;refine Qc<|x (QR U U)<|Qb<|QO U (λgj=>?_) (λgj=>?_)
 ·have gl:q.kd=3:=gj;have h5:=jj (l.map DV.it) q.ls [] [];have hLk:=Qg6 (w:=hs) (v:=v) (es:=es) (q:=q) (h.arr.I hJ) oa (ha.I hi) hH.1;rw[<-T]at hLk;have hp:=QrV (all:=l.map DV.it) (ev:=ev) (z:=z) gl;refine Zf (YF (l.map DV.it) q.ls [] []) λR gm=>?_;rw[gm]at hLk hp h5;refine Qj<|QT he U U<|Qz<|hLk.Y ?_;rintro mh hY ⟨G,vo,rfl,mj,gn⟩;refine Qa<|QW U U<|QW U U<|x Qi<|Qb<|Qd<|Qj<|Zx U U<|xe<|QO U (λhK=>?_) (λhK=>?_)
  ·rw[hp.1,OU hK]at hR;have go:=((hU.J hf oh).I hi).I G;refine Qc<|x (Qx Z)<|Qa<|QK Z8 go ⟨U,U,U,U,U,Z⟩ λh3 H gp=>Qb<|Qh ⟨[sT Z8,sS R.1],⟨Yl gp,U,Z⟩,(hJ.D G).O H oa,CL.mk Zm Zm Zm Zm Zm [] [] [] [] [],by rw[<-hR];rfl,hO,λh0=>OW (by rw[<-hR]at h0;exact h0) hK⟩
  have h6:=Lp.1 hK;have hc:=gn h6;have gq:=Qg hc;have mo:=G.size;have h7:=ht.I G;refine Qf<|Qs<|Qo U h7 U U<|Qo U (he.I G) U U<|Qa<|x (Qx ⟨U,xL hc,Z⟩)<|Qn<|Za [[.string q.nm,vo]] λmq h3 H ms gs=>?_;have gt:=(hy.I G).I H;refine Qn<|Q2 (m:=1) (news:=[.string q.nm,vo]) (L:=[]) gt.ox U U U (gs.at od) (Zb.all (us:=[.string q.nm,vo]) ⟨rfl,Qp hc,Z⟩) (show z.lx.length+1<=1099511627776 by omega) (ov H.size) λhr gb h8 Y gu =>
   QQ rfl<|Qn<|Qu (j:=3) (u:=hr) ((h7.I H).J Y n7x) U U od (Qp h8) λmt h9 gv=>xe ?_
  have e:=hp.2 h6 hr vo;rw[e,OT od]at hR;refine Qs<|QH U U<|Qa<|xe ?_;have gw:R.2.length<=1099511627776:=by
   have h1:=hc.1;exact LH h5 (by have S:q.ls.length<=100000:=hH.1;simp only[OI];omega)
  refine⟨(k+1,{ z with vx:=hr,lx:=z.lx++[⟨q.nm,vo,R.2⟩] }),og,La,hh,(((hz.D G).D H).S Y (λb E=>.inr (gx b E).1)).Q h9,λL J=>(((hj L J).I G).I H).ap_x ⟨(QB hc gw (λb E hbL=>?_)).I H,ha.nm⟩ h8 Y gu h9 ⟨T7,gv⟩ oa od,hR,?_⟩
  ·have h1:=(gq b E).1;rcases Lc.1 hbL with S|S
   ·have:=((hj L J).ge b S).2;omega
   simp only[oL]at S;rcases S with rfl|rfl|S
   ·omega
   ·omega
   have:=J b S;omega
  simp only[oN,oP];omega
 have gl:¬q.kd=3:=gj;refine Qc<|x (QR U U)<|Qb<|ZH U (λgy=>?_) (λgy=>?_)
 ·have gz:¬q.kd=4:=gy;rw[QrY hk1 gi gl gz,OT od]at hR;refine Qf<|Qs<|QH U U<|Qa<|xe ?_;exact⟨(k+1,z),og,La,hh,hz,hj,hR,og⟩
 have gz:q.kd=4:=gy;have h5:=jj (l.map DV.it) q.ts [] [];have hLk:=Qif (w:=hs) (v:=v) (es:=es) (q:=q) (h.arr.I hJ) oa (ha.I hi) hH.2;rw[<-T]at hLk;have hp:=QrU (all:=l.map DV.it) (ev:=ev) (z:=z) gz;refine Zf (YF (l.map DV.it) q.ts [] []) λR gm=>?_;rw[gm]at hLk hp h5;refine Qj<|QT he U U<|Qz<|hLk.Y ?_;rintro mh hY ⟨G,vo,rfl,mj,gn⟩;refine Qa<|QW U U<|QW U U<|x Qi<|Qb<|Qd<|Qj<|Zx U U<|xe<|QO rfl (λhM=>?_) (λhM=>?_)
 ·rw[hp.1,OU hM]at hR;have go:=((hU.J hf oh).I hi).I G;refine Qc<|x (Qx Z)<|Qa<|QK Z8 go ⟨U,U,U,U,U,Z⟩ λh3 H gp=>Qb<|Qh ⟨[sT Z8,sS R.1],⟨Yl gp,U,Z⟩,(hJ.D G).O H oa,CL.mk Zm Zm Zm Zm Zm [] [] [] [] [],by rw[<-hR];rfl,hO,λh0=>OW (by rw[<-hR]at h0;exact h0) hM⟩
 have h6:=Lp.1 hM;have hc:=gn h6;have gq:=Qg hc;have mo:=G.size;have h7:=ht.I G;refine Qf<|Qs<|Qo U h7 U U<|Qo U (he.I G) U U<|Qa<|Qo U (he.I G) U U<|x (Qx ⟨U,xL hc,U,Z⟩)<|Qn<|Za [[.string q.nm,vo,sS q.bd]] λmq h3 H ms gs=>?_;have gt:=(hy.I G).I H;refine Qn<|Q2 (m:=1) (news:=[.string q.nm,vo,sS q.bd]) (L:=[]) gt.ok U U U (gs.at od) (Zb.all (us:=[.string q.nm,vo,sS q.bd]) ⟨rfl,Qp hc,rfl,Z⟩) (show z.lk.length+1<=1099511627776 by omega) (ov H.size) λhr gb h8 Y gu =>
  QQ rfl<|Qn<|Qu (j:=4) (u:=hr) ((h7.I H).J Y n7k) U U od (Qp h8) λmt h9 gv=>xe ?_
 have e:=hp.2 h6 hr vo;rw[e,OT od]at hR;refine Qs<|QH U U<|Qa<|xe ?_;have gw:R.2.length<=1099511627776:=by
  have h1:=hc.1;exact LH h5 (by have S:q.ts.length<=100000:=hH.2;simp only[OI];omega)
 refine⟨(k+1,{ z with vk:=hr,lk:=z.lk++[⟨q.nm,vo,R.2,q.bd⟩] }),og,La,hh,(((hz.D G).D H).S Y (λb E=>.inr (gk b E).1)).Q h9,λL J=>(((hj L J).I G).I H).ap_k ⟨(QB hc gw (λb E hbL=>?_)).I H,ha.nm⟩ h8 Y gu h9 ⟨T7,gv⟩ oa od,hR,?_⟩
 ·have h1:=(gq b E).1;rcases Lc.1 hbL with S|S
  ·have:=((hj L J).ge b S).2;omega
  simp only[oL]at S;rcases S with rfl|rfl|S
  ·omega
  ·omega
  have:=J b S;omega
 simp only[oN,oP];omega
abbrev edV (s:X7)(cm:CL)(vp:O2)(qs:List V7)(made:Int)(v24:O2)(q:V5)(v16:O2)(b12 b13:Nat):X7:=⟨s.b,⟨cm,vp,qs⟩,made,v24,s.rs++[q],v16,s.us++[⟨b12,b13,s.s⟩]⟩
theorem Qkg {wA wC wD wE wF wI wJ wK wN wP wM:O1}{s:X7}{cm:CL}{vp:O2}{qs:List V7}{q:V5}{made:Int}{v16 v24:O2}{G b12 b13 T12 T13 TS:Nat}
  (h:KS L w s) (hL:∀b∈L,b<↑w) (hc:sX w wA) (hn:↑w<=G/\G<↑wA) (hp:jS (G::L) ↑wA vp qs) (hq:Jt (G::L) ↑wA q)
  (hz:sX wA wC) (ho:↑wA<=b12) (hr:↑wA<=b13) (hs:QZ ↑wC b12 T12 s.s.c.cells) (ht:QZ ↑wC b13 T13 [s.s.vp])
  (hj:O5 (ob s.vu) wC wD) (hv:wD.ownsRow 0 140 1 v16 (s.us.length+1) (s.us.map Vu++[Vu ⟨b12,b13,s.s⟩])) (S:∀b∈ob v16,b∈ob s.vu\/↑wC<=b)
  (he:O5 [s.b] wD wE) (hf:sX wE wF) (h0:∀N:LN,(∀b∈N,b<↑wE)->ZI N ↑wF cm) (hg:O5 [s.b] wF wI) (hh:sX wI wJ) (hk:O5 (ob s.vr) wJ wK)
  (h4:wK.ownsRow 0 60 3 v24 (s.rs.length+1) (s.rs.flatMap Q0++Q0 q)) (T:∀b∈ob v24,b∈ob s.vr\/↑wJ<=b)
  (hi:O5 [s.b] wK wN) (h5:QZ ↑wN s.b TS (Qbc (edV s cm vp qs made v24 q v16 b12 b13))) (V:sX wN wP) (Y:O5 [G] wP wM):
  O5 s.own w wM/\KS ((edV s cm vp qs made v24 q v16 b12 b13).own++L) wM (edV s cm vp qs made v24 q v16 b12 b13)/\∀b∈(edV s cm vp qs made v24 q v16 b12 b13).own,b∈s.own\/↑w<=b:=by
 have ha:=h.lt;have z2:=hj.size;have z3:=he.size;have z4:=hf.size;have z5:=hg.size;have z6:=hh.size;have msb:s.b∈s.own:=Lq;have mvr:∀b∈ob s.vr,b∈s.own:=λb E=>Lk _ (Lc.2 (.inl E));have mvu:∀b∈ob s.vu,b∈s.own:=λb E=>Lk _ (Lc.2 (.inr E));have lsb:=ha _ msb;have lvr:=λb E=>ha b (mvr b E);have lvu:=λb E=>ha b (mvu b E);have h6:=hs.lt;have h7:=ht.lt;have hw:=Qg hv;have sC:O5 (s.own++[G]) wA wC:=hz.any;have s5:O5 (s.own++[G]) wF wI:=hg.Y λb E=>by rw[Lb.1 E];exact Lc.2 (.inl msb)
 have s7:O5 (s.own++[G]) wJ wK:=hk.Y λb E=>Lc.2 (.inl (mvr b E));have s8:O5 (s.own++[G]) wK wN:=hi.Y λb E=>by rw[Lb.1 E];exact Lc.2 (.inl msb)
 have h8:O5 (s.own++[G]) wP wM:=Y.Y λb E=>Lc.2 (.inr E);have sKM:O5 (s.own++[G]) wK wM:=(s8.D V).Q h8;have sFM:O5 (s.own++[G]) wF wM:=((s5.D hh).Q s7).Q sKM;have sAM:O5 (s.own++[G]) wA wM:=(((sC.Q (hj.Y λb E=>Lc.2 (.inl (mvu b E)))).Q (he.Y λb E=>by rw[Lb.1 E];exact Lc.2 (.inl msb))).D hf).Q sFM;have sDM:O5 (s.own++[G]) wD wM:=((he.Y λb E=>by rw[Lb.1 E];exact Lc.2 (.inl msb):O5 (s.own++[G]) wD wE).D hf).Q sFM;have sCM:O5 (s.own++[G]) wC wM:=(hj.Y λb E=>Lc.2 (.inl (mvu b E)):O5 (s.own++[G]) wC wD).Q sDM;have h9:∀b∈s.own++[G],b∈G::L:=λb E=>by
  rcases Lc.1 E with E|E
  ·exact Lk _ (h.sub b E)
  rw[Lb.1 E];exact Lq
 have own':∀b∈(edV s cm vp qs made v24 q v16 b12 b13).own,b∈s.own\/↑wC<=b:=λb E=>by
  rcases Lj.1 E with rfl|E
  ·exact .inl msb
  rcases Lc.1 E with E|E
  ·rcases T b E with I|I
   ·exact .inl (mvr b I)
   exact .inr oa
  rcases S b E with I|I
  ·exact .inl (mvu b I)
  exact .inr I
 have upL:∀b∈((edV s cm vp qs made v24 q v16 b12 b13).own++(G::L)),b∈G::L\/↑wA<=b:=λb E=>by
  rcases Lc.1 E with E|E
  ·rcases own' b E with I|I
   ·exact .inl (Lk _ (h.sub b I))
   exact .inr oa
  exact .inl E
 have dn:∀b∈(edV s cm vp qs made v24 q v16 b12 b13).own++L,b∈(edV s cm vp qs made v24 q v16 b12 b13).own++(G::L):=λb E=>by
  rcases Lc.1 E with E|E
  ·exact Lc.2 (.inl E)
  exact Lc.2 (.inr (Lk _ E))
 have sAM':O5 ((edV s cm vp qs made v24 q v16 b12 b13).own++(G::L)) wA wM:=sAM.Y λb E=>Lc.2 (.inr (h9 b E));have hl:∀b∈G::L,b∈L\/↑w<=b:=λb E=>by
  rcases Lj.1 E with rfl|E
  ·exact .inr hn.1
  exact .inl E
 have mS:zJ ((edV s cm vp qs made v24 q v16 b12 b13).own++L) ↑wM s.s:=Mm.Y (Mm.st (Mm.up (Mm.I (Mm.up h.st hl) hc) upL) sAM') dn;have nown:∀b,↑wA<=b->b<↑wC->b∉(edV s cm vp qs made v24 q v16 b12 b13).own++L:=λb I H E=>by
  rcases Lc.1 E with E|E
  ·rcases own' b E with O|O
   ·have:=ha b O;omega
   omega
  have:=hL b E;omega
 have nst:∀b,↑wA<=b->b∉s.own++[G]:=λb I E=>by
  rcases Lc.1 E with E|E
  ·have:=ha b E;omega
  rw[Lb.1 E]at I;omega
 refine⟨?_,⟨⟨TS,?_⟩,?_,?_,?_,?_,?_,λb E=>Lc.2 (.inl E),⟨?_,?_⟩,λd hd=>?_,λu hu=>?_⟩,λb E=>(own' b E).imp id λI=>oa⟩
 ·exact hc.any.S sAM λb E=>by
   rcases Lc.1 E with E|E
   ·exact .inl E
   rw[Lb.1 E];exact .inr hn.1
 ·exact(h5.I V).J Y (by simp only[oJ];show s.b≠G;omega)
 ·have I:wK.ownsRow 0 60 3 v24 (s.rs++[q]).length ((s.rs++[q]).flatMap Q0):=by
   rw[Ll,LA];simpa using h4
  refine Qe (Ql (Qe I hi λb E J=>?_) V) Y λb E J=>?_
  ·rcases T b E with H|H
   ·exact h.d1 (Lb.1 J ▸ H)
   rw[Lb.1 J]at H;omega
  rw[Lb.1 J]at E;rcases T G E with H|H
  ·have:=lvr G H;omega
  omega
 ·have I:wD.ownsRow 0 140 1 v16 (s.us++[(⟨b12,b13,s.s⟩:UnV)]).length ((s.us++[(⟨b12,b13,s.s⟩:UnV)]).map Vu):=by
   rw[Ll,Lr];simpa using hv
  have nsb:∀b∈ob v16,b∉[s.b]:=λb E J=>by
   rw[Lb.1 J]at E;rcases S s.b E with H|H
   ·exact h.d2 H
   omega
  have nvr:∀b∈ob v16,b∉ob s.vr:=λb E J=>by
   rcases S b E with H|H
   ·exact h.d3 b J H
   have:=lvr b J;omega
  have n4:∀b∈ob v16,b∉[G]:=λb E J=>by
   rw[Lb.1 J]at E;rcases S G E with H|H
   ·have:=lvu G H;omega
   omega
  exact Qe (Ql (Qe (Qe (Ql (Qe (Ql (Qe I he nsb) hf) hg nsb) hh) hk nvr) hi nsb) V) Y n4
 ·intro E;rcases T s.b E with H|H
  ·exact h.d1 H
  omega
 ·intro E;rcases S s.b E with H|H
  ·exact h.d2 H
  omega
 ·intro b E J;rcases T b E with H|H
  ·rcases S b J with O|O
   ·exact h.d3 b H O
   have:=lvr b H;omega
  have:=(hw b J).2;omega
 ·have I:ZI (s.b::(ob v16++(ob s.vr++(G::L)))) ↑wF cm:=h0 _ λb E=>by
   rcases Lj.1 E with rfl|E
   ·omega
   rcases Lc.1 E with E|E
   ·have:=(hw b E).2;omega
   rcases Lc.1 E with E|E
   ·have:=lvr b E;omega
   rcases Lj.1 E with rfl|E
   ·omega
   have:=hL b E;omega
  have H:ZI (ob v24++(s.b::(ob v16++(ob s.vr++(G::L))))) ↑wF cm:=I.up λb E=>by
   rcases Lc.1 E with E|E
   ·rcases T b E with O|O
    ·exact .inl (Lk _ (Lc.2 (.inr (Lc.2 (.inl O)))))
    exact .inr oa
   exact .inl E
  have hy:∀b∈[s.b],b∈ob v24++(s.b::(ob v16++(ob s.vr++(G::L)))):=λb E=>by rw[Lb.1 E];exact Lc.2 (.inr Lq)
  have O:=((((((H.st (hg.Y hy)).I hh).st (hk.Y λb E=>Lc.2 (.inr (Lk _ (Lc.2 (.inr (Lc.2 (.inl E)))))))).st (hi.Y hy)).I V).st (Y.Y λb E=>by
   rw[Lb.1 E];exact Lc.2 (.inr (Lk _ (Lc.2 (.inr (Lc.2 (.inr Lq))))))))
  refine O.up λb E=>.inl ?_;rcases Lc.1 E with E|E
  ·rcases Lj.1 E with rfl|E
   ·exact Lc.2 (.inr Lq)
   rcases Lc.1 E with E|E
   ·exact Lc.2 (.inl E)
   exact Lc.2 (.inr (Lk _ (Lc.2 (.inl E))))
  exact Lc.2 (.inr (Lk _ (Lc.2 (.inr (Lc.2 (.inr (Lk _ E)))))))
 ·have I:jS ((edV s cm vp qs made v24 q v16 b12 b13).own++(G::L)) ↑wM vp qs:=Go.Lg.XQ.st (Go.Lg.XQ.up hp upL) sAM';exact Go.Lg.XQ.up I λb E=>.inl (dn b E)
 ·rcases Lc.1 hd with hd|hd
  ·exact Mm.Y (Mm.st (Mm.up (Mm.I (Mm.up (h.rA d hd) hl) hc) upL) sAM') dn
  rw[Lb.1 hd];exact Mm.Y (Mm.st (Mm.up hq upL) sAM') dn
 rcases Lc.1 hu with hu|hu
 ·exact Mm.Y (Mm.st (Mm.up (Mm.I (Mm.up (h.uA u hu) hl) hc) upL) sAM') dn
 rw[Lb.1 hu];exact⟨(hs.J sCM (nst b12 ho)).at (nown b12 ho h6),(ht.J sCM (nst b13 hr)).at (nown b13 hr h7),mS⟩
def q9 (x:Yi):Prop:=x.ls.length<=100000/\x.ts.length<=100000
theorem yg {co:List XD}:∀{l:xw}{r:List (ByteArray×Int)},Um co l=some r->r.length=l.length
 | [],r,h=>by
  rw[Um]at h;cases h;rfl
 | y::l,r,h=>by
  rw[Um]at h;cases E:jJ co y.1 with
  | none=>rw[E]at h;cases h
  | some n =>
   rw[E]at h;obtain⟨H,G,rfl⟩:=Ms.1 h;rw[LU,LU,yg G]
theorem QfU {co:List XD}:∀{l:List qv}{a:List Yi},J7 co l=some a->(∀q∈l,q.ls.length<=100000)->∀x∈a,q9 x
 | [],a,h,_=>by
  rw[J7]at h;cases h
  exact λx hx=>by cases hx
 | x::l,a,h,G=>by
  rw[J7]at h;cases hx:Um co x.ls with
  | none=>rw[hx]at h;cases h
  | some n =>
   rw[hx]at h;obtain⟨I,H,rfl⟩:=Ms.1 h;intro y E;rcases Lj.1 E with rfl|E
   ·exact⟨by show n.length<=_;rw[yg hx];exact G x Lq,od⟩
   exact QfU H (λq h=>G q (Lk _ h)) y E
theorem QfV {co:List XD}:∀{l:List xK}{a:List Yi},Kt co l=some a->(∀q∈l,q.ts.length<=100000)->∀x∈a,q9 x
 | [],a,h,_=>by
  rw[Kt]at h;cases h
  exact λx hx=>by cases hx
 | x::l,a,h,G=>by
  rw[Kt]at h;cases hx:Um co x.ts with
  | none=>rw[hx]at h;cases h
  | some n =>
   rw[hx]at h;obtain⟨I,H,rfl⟩:=Ms.1 h;intro y E;rcases Lj.1 E with rfl|E
   ·exact⟨od,by show n.length<=_;rw[yg hx];exact G x Lq⟩
   exact QfV H (λq h=>G q (Lk _ h)) y E
theorem yh (E:CSz c)(h:(ZQ c).1=0):∀x∈(ZQ c).2,q9 x:=by
 obtain⟨a,b,G,H,e,_⟩:=jk h;intro x hx;rw[e]at hx;rcases Lc.1 hx with hx|hx
 ·obtain⟨y,_,rfl⟩:=LD.1 hx;exact⟨by simp[Vb],by simp[Vb]⟩
 rcases Lc.1 hx with hx|hx
 ·obtain⟨y,_,rfl⟩:=LD.1 hx;exact⟨by simp[Vb],by simp[Vb]⟩
 rcases Lc.1 hx with hx|hx
 ·exact QfU G E.x x hx
 exact QfV H E.k x hx
theorem Qne {l:List Yi}{x:Yi}(G:∀y∈l,q9 y)(hx:q9 x):∀y∈(zC l x).2,q9 y:=by
 unfold zC;split
 ·exact λy E=>by cases E
 split
 ·exact λy E=>by cases E
 split
 ·intro y E;rcases MU E with E|rfl
  ·exact G y E
  exact hx
 split
 ·exact λy E=>by cases E
 intro y E;rcases Lc.1 E with E|E
 ·exact G y (LX E)
 rcases Lj.1 E with rfl|E
 ·exact hx
 exact G y (Ma E)
theorem Qnj {l:List Yi}{k:Int}{n:ByteArray}(G:∀y∈l,q9 y):∀y∈(zD l k n).2,q9 y:=by
 unfold zD;split
 ·exact λy E=>by cases E
 split
 ·exact λy E=>by cases E
 intro y E;rcases Lc.1 E with E|E
 ·exact G y (LX E)
 exact G y (Ma E)
theorem QfX:∀{es:List (Bool×Yi)}{l:List Yi},(∀y∈l,q9 y)->(∀e∈es,q9 e.2)->∀y∈(QbS es l).2,q9 y
 | [],l,E,_=>by rw[QbS];exact E
 | e::es,l,E,G=>by
  rw[QbS];split
  ·exact λy H=>by cases H
  refine QfX ?_ λe h=>G e (Lk _ h);unfold jM;split
  ·exact Qnj E
  exact Qne E (G e Lq)
theorem QfW {es:List (Bool×Yi)}{l:List Yi}(E:∀y∈l,q9 y)(G:∀e∈es,q9 e.2):∀y∈(zG l es).2,q9 y:=by
 unfold zG;split
 ·exact λy H=>by cases H
 exact QfX E G
structure UnZ where
 b12:Nat
 b13:Nat
def unP (N:Nat)(i:Nat)(v:O2)(w':O1):Prop:=∃b T,v=pS b/\N<=b/\QZ ↑w' b T (if i=8 then Z8 else[Zm])
theorem QlJ (N:Nat):∀i v (w w':O1),unP N i v w->sX w w'->unP N i v w':=λ_ _ _ _ ⟨b,T,E,G,H⟩ I=>⟨b,T,E,G,H.I I⟩
theorem QnM {s:X7}{xs:List ZZ}(h:KS L w s)(hL:∀b∈L,b<↑w)(hx:zO L2 ↑w vl xs)(kw:∀e∈xs.map ZZ.e,q9 e.2)(gy:Qk7 s.s.c.V (s.s.ps.map (·.pt)))(kx:s.s.ps.length<=1000)
  (hm:0<=s.made/\s.made<=1099511627776) (j1:s.rs.length<=64) (j2:s.us.length<=64) (kz:Kb w 4096):
  QY sV 12 [pS s.b,vl] w λr w'=>∃qr:V5,r=.tuple #[sT (Q0 qr),sS (qb s.sys (xs.map ZZ.e))]/\(∀N:LN,(∀b∈N,b<↑w)->Jt N ↑w' qr)/\(qb s.sys (xs.map ZZ.e)≠0->sX w w'/\qr.rp=⟨[],[],[]⟩) /\
   (qb s.sys (xs.map ZZ.e)=0->qr.rp=YN (KX s.s.c.V (xs.map ZZ.e)).2 (s.s.ps.map (·.pt)) ((s.us.length:Int)+1)/\∃s':X7,s'.b=s.b/\s'.sys=edS s.sys (xs.map ZZ.e)/\O5 s.own w w'/\KS (s'.own++L) w' s'/\(∀b∈s'.own,b∈s.own\/↑w<=b)/\Jt s'.own ↑w' qr):=by
 obtain⟨TS,Y⟩:=h.blk;have gz:=gy.ck;have g0:=Vf gz;have g2:Zn [] ↑w s.vu s.us.length 1 (s.us.map Vu):=QB h.ru oa od;have g3:s.sys.un.length=s.us.length:=Lh _;have k0:(s.s.ps.map (·.e.ky)).Nodup:=by
  have:=gy.ky;rw[Mn]at this;have e:s.s.ps.map (·.e.ky)=(O8 s.s.c.V).map (ZR s.s.c.V):=this;rw[e];exact QcN gz
 have k4:(xs.map ZZ.e).length=xs.length:=Lh _;have k5:∀(w':O1) (N:LN),Jt N ↑w' ⟨Zm,[],Zm,[],Zm,[]⟩:=λw' N=>⟨Zn.nil _ _ _,Zn.nil _ _ _,Zn.nil _ _ _⟩;have I:qb s.sys (xs.map ZZ.e)=if xs.length=0 then 12 else if s.us.length=64 then 3 else if(KX s.s.c.V (xs.map ZZ.e)).1≠0 then(KX s.s.c.V (xs.map ZZ.e)).1 else Jg (KX s.s.c.V (xs.map ZZ.e)).2 (s.s.ps.map (·.pt)) ((s.us.length:Int)+1):=by
  unfold qb;rw[k4,g3];rfl
 have T:KX s.s.c.V (xs.map ZZ.e)=if(zz s.s.c.V (xs.map ZZ.e)).1≠0 then((zz s.s.c.V (xs.map ZZ.e)).1,VN)else if(J8 s.s.c.V.ev (zz s.s.c.V (xs.map ZZ.e)).2).1≠0 then((J8 s.s.c.V.ev (zz s.s.c.V (xs.map ZZ.e)).2).1,VN)else if Zj (J8 s.s.c.V.ev (zz s.s.c.V (xs.map ZZ.e)).2).2≠0 then(Zj (J8 s.s.c.V.ev (zz s.s.c.V (xs.map ZZ.e)).2).2,VN)else(0,(J8 s.s.c.V.ev (zz s.s.c.V (xs.map ZZ.e)).2).2):=rfl
 have hw:zz s.s.c.V (xs.map ZZ.e)=if(ZQ s.s.c.V).1≠0 then((ZQ s.s.c.V).1,[])else zG (ZQ s.s.c.V).2 (xs.map ZZ.e):=rfl
 have hS:(ZQ s.s.c.V).1=0->∀y∈(zG (ZQ s.s.c.V).2 (xs.map ZZ.e)).2,q9 y:=λh0=>QfW (yh g0 h0) kw;have hD:edS s.sys (xs.map ZZ.e)=⟨(KX s.s.c.V (xs.map ZZ.e)).2,VO (KX s.s.c.V (xs.map ZZ.e)).2 (s.s.ps.map (·.pt)) ((s.us.length:Int)+1),s.made+((YN (KX s.s.c.V (xs.map ZZ.e)).2 (s.s.ps.map (·.pt)) ((s.us.length:Int)+1)).made.length:Int),s.rs.map V5.rp++[YN (KX s.s.c.V (xs.map ZZ.e)).2 (s.s.ps.map (·.pt)) ((s.us.length:Int)+1)],(s.us.map λu=>u.s.st)++[(s.s.c.V,s.s.ps.map (·.pt))]⟩:=by
  unfold edS;rw[g3];rfl
 refine Zf (qb s.sys (xs.map ZZ.e)) λE hE=>?_;refine Zf (edS s.sys (xs.map ZZ.e)) λES g4=>?_;refine Zf (KX s.s.c.V (xs.map ZZ.e)) λEC g5=>?_;refine Zf (zz s.s.c.V (xs.map ZZ.e)) λEI k6=>?_;rw[hE]at I;rw[g4]at hD;rw[g5]at I T hD;rw[k6]at T hw;rw[hE,g4,g5];refine Zq func12 ?_;refine Qc<|QM ZU λH w1 hj hZ hy=>Qb ?_;have j3:=hy.lt;have bad:∀(e:Int) (w2 O:O1),E=e->e≠0->sX w w2->O5 [H] w2 O->(∃qr:V5,tup [sT ZU,sS e]=.tuple #[sT (Q0 qr),sS E]/\(∀N:LN,(∀b∈N,b<↑w)->Jt N ↑O qr)/\(E≠0->sX w O/\qr.rp=⟨[],[],[]⟩) /\
   (E=0->qr.rp=YN EC.2 (s.s.ps.map (·.pt)) ((s.us.length:Int)+1)/\∃s':X7,s'.b=s.b/\s'.sys=ES/\O5 s.own w O/\KS (s'.own++L) O s'/\(∀b∈s'.own,b∈s.own\/↑w<=b)/\Jt s'.own ↑O qr)):=λe w2 O S h2 h3 h4 =>
  ⟨⟨Zm,[],Zm,[],Zm,[]⟩,by rw[S];rfl,λN _=>k5 O N,λ_=>⟨h3.O h4 oa,U⟩,λh0=>OW (S.symm.D h0) h2⟩
 refine Qd<|Qm<|Qj<|x (Jj underlying47 U U)<|Qb<|ZO U<|Qj<|QF hx.arr U<|x (QR U U)<|Qb<|QO U (λga=>?_) (λga=>?_)
 ·rw[OU (by have k7:(xs.length:Int)=0:=ga;omega)]at I;refine Qc<|x (Qx Z)<|QK ZU hy oC λO ha hF=>Qb<|Qh ⟨[sT ZU,sS 12],⟨Yl hF,U,Z⟩,bad 12 w1 O I ol hj ha⟩
 rw[OT (by have k7:¬(xs.length:Int)=0:=ga;omega)]at I;refine Qj<|Yd U<|Qo U (Y.I hj) U U<|QF (g2.I hj) U<|x (QR U U)<|Qb<|QO U (λgb=>?_) (λgb=>?_)
 ·rw[OU (by have k8:(s.us.length:Int)=64:=gb;omega)]at I;refine Qc<|x (Qx Z)<|QK ZU hy oC λO ha hF=>Qb<|Qh ⟨[sT ZU,sS 3],⟨Yl hF,U,Z⟩,bad 3 w1 O I ol hj ha⟩
 have k9:¬s.us.length=64:=by have k8:¬(s.us.length:Int)=64:=gb;omega
 rw[OT k9]at I;refine Qf<|Qj<|Yd U<|QQ U<|x (Zh (us:=s.s.c.cells) (Y.I hj) U U U)<|Qz<|(yY (h.st.c.I hj) g0).Y ?_;rintro r5 w2 ⟨hl,v5,rfl,_,ma⟩;have gc:=hj.D hl;refine Qa<|QW U U<|QW U U<|x Qi<|Qb<|Qd<|Qj<|Zx U U<|xe<|QO rfl (λho=>?_) (λho=>?_)
 ·rw[OU ho]at hw;rw[hw,OU ho]at T;rw[T,OU ho]at I;refine Qc<|x (Qx Z)<|Qa<|QK ZU (hy.I hl) oC λO ha hF=>Qb<|Qh ⟨[sT ZU,sS (ZQ s.s.c.V).1],⟨Yl hF,U,Z⟩,bad _ w2 O I ho gc ha⟩
 rw[OT ho]at hw;have gg:=Lp.1 ho;have hS:=hS gg;refine Exists.elim (ma gg) λl5 gh=>?_;have mf:Kd [] ↑w2 v5 l5:=by
  refine Jw.dits gh.1 ?_ od;have S:=OV oQ gh.2;rw[Lh]at S;obtain⟨_,_,_,_,_,hk⟩:=jk gg;have:=Va hk;omega
 have hAp:=QdL mf (Go.Lg.XQ.I hx gc);rw[gh.2,<-hw]at hAp;rw[<-hw]at hS;refine Qf<|Qd<|Qj<|Qa<|Qz<|hAp.Y ?_;rintro r7 O ⟨ha,v7,l7,rfl,mg,hT⟩;have hG:=gc.D ha;refine Qa<|QW U U<|QW U U<|x Qi<|Qb<|Qj<|Zx U U<|xe<|QO rfl (λhz=>?_) (λhz=>?_)
 ·rw[OU hz]at T;rw[T,OU hz]at I;refine Qc<|x (Qx Z)<|Qa<|QK ZU ((hy.I hl).I ha) oC λw4 hH mh=>Qb<|Qh ⟨[sT ZU,sS EI.1],⟨Yl mh,U,Z⟩,bad _ O w4 I hz hG hH⟩
 rw[OT hz]at T;obtain⟨hT,za⟩:=hT (Lp.1 hz);have hD3:Kd [] ↑O v7 l7:=Jw.dits mg oa od;have hCe:=Qdg (h.st.c.I hG).ev hD3 (λq hq=>hS q (by rw[<-hT];exact hq));rw[hT]at hCe;have mj:s.s.c.V.ev=s.s.c.ev:=rfl;rw[mj]at T;refine Zf (J8 s.s.c.ev EI.2) λDC mo=>?_;rw[mo]at T hCe;refine Qf<|Qj<|Yd U<|QQ U<|Qo U (Y.I hG) U U<|Qa<|Qz<|hCe.Y ?_;rintro r9 w4 ⟨hH,c9,rfl,mq,hU⟩;refine Qa<|QW U U<|QW U U<|QM Z8 λb8 w5 hI ms mt=>QK c9.cells mt mq λw6 mu g6 =>
  Qb ?_
 have hV:sX w4 w6:=hI.O mu ms;have gi:=(hG.D hH).D hV;have zb:=hH.size;have zv:=hV.size;have gj:=(((hy.I hl).I ha).I hH).I hV;refine Qd<|Qj<|Zx U U<|xe<|QO rfl (λh5=>?_) (λh5=>?_)
 ·rw[OU h5]at T;rw[T,OU h5]at I;refine Qc<|x (Qx Z)<|Qa<|QK ZU gj oC λV hf mv=>Qb<|Qh ⟨[sT ZU,sS DC.1],⟨Yl mv,U,Z⟩,bad _ w6 V I h5 gi hf⟩
 rw[OT h5]at T;have hU:=hU (Lp.1 h5);have hW:=hU.1;have gk:∀N:LN,(∀b∈N,b<↑O\/↑w4<=b)->ZI N ↑w6 c9:=λN hN=>by
  have S:=hU.2 (N.filter λb=>decide (b<↑O)) (λb G=>OY (L6.1 G).2);exact(S.up (L':=N) λb G=>(hN b G).imp (λh=>L6.2 ⟨G,OX h⟩) id).I hV
 have hCk:=Xl (gk [] od);rw[hW]at hCk;refine Qf<|Qd<|Qc<|QT g6 U U<|Qz<|hCk.Y ?_;rintro z2 V ⟨rfl,hf⟩;have hp:=gi.D hf;have z3:=hf.size;refine Qb<|Qj<|Zx U U<|xe<|QO rfl (λh6=>?_) (λh6=>?_)
 ·rw[OU h6]at T;rw[T,OU h6]at I;refine Qc<|x (Qx Z)<|Qa<|QK ZU (gj.I hf) oC λw8 he gl=>Qb<|Qh ⟨[sT ZU,sS (Zj DC.2)],⟨Yl gl,U,Z⟩,bad _ V w8 I h6 hp he⟩
 rw[OT h6]at T;have mw:=Lp.1 h6;rw[T,OT od]at I;rw[T]at hD;simp only[]at I hD;refine Qf ?_;have g7:=Y.I hp;have my:=g2.I hp;have g8:=g6.I hf;have z4:=gi.size;have z5:=hG.size;have g9:∀b∈H::L,b<V.heap.size:=λb G=>by
  rcases Lj.1 G with rfl|G
  ·have:=hl.size;have:=ha.size;omega
  have:=hL b G;omega
 have mz:jS (H::L) ↑V s.s.vp s.s.ps:=Go.Lg.XQ.I (Go.Lg.XQ.up h.st.p λb G=>by
  rcases Lj.1 G with rfl|G
  ·exact .inr hZ
  exact .inl G) hp
 have m2:sX V { V with drawn:=V.drawn+1 }:=O5.C _ _
 refine Zf (Jg DC.2 (s.s.ps.map (·.pt)) ((s.us.length:Int)+1)) λE2 ka=>?_;rw[ka]at I;refine QX (α:=O2×LV×Nat) [(73,88),(7,7),(10,11)] (λz=>[(10,z.1),(11,pS z.2.2),(7,sS E2)]) (λz w'=>sX V w'/\↑V<=z.2.2/\QZ ↑w' z.2.2 60 z.2.1/\(z.2.1.length=3/\Zb z.2.1)/\(E2=0->∃qs q,z.2.1=Q0 q/\qs.map (·.pt)=VO DC.2 (s.s.ps.map (·.pt)) ((s.us.length:Int)+1)/\q.rp=YN DC.2 (s.s.ps.map (·.pt)) ((s.us.length:Int)+1)/\jS (H::L) ↑w' z.1 qs/\Jt (z.2.2::H::L) ↑w' q)) om ?_ ?_
 ·refine Jh (α:=O2×LV) (sX V) [oE 0,oE 1,oE 2,oE 3,oE 4,oE 5,oE 6,oE 7,oE 8,oE 9,oE 10] [oF 11,oE 12,oE 13,oE 14,oE 15] 16 11 [oE 17,oF 18,oE 19] []
   [(73,88)] [(73,73),(85,88)] (λz=>[(86,z.1),(87,sT z.2),(88,sS E2)])
   (λz own w'=>(∀b∈own,↑V<=b)/\(z.2.length=3/\Zb z.2)/\(E2=0->∃qs q,z.2=Q0 q/\qs.map (·.pt)=VO DC.2 (s.s.ps.map (·.pt)) ((s.us.length:Int)+1)/\q.rp=YN DC.2 (s.s.ps.map (·.pt)) ((s.us.length:Int)+1)/\∀b',↑V<=b'->b'∉own->jS (b'::H::L) ↑w' z.1 qs/\Jt (b'::H::L) ↑w' q))
   (λv w'=>∃b,v=pS b/\↑V<=b/\QZ ↑w' b 60 ZU) mixed om oe om U m2 od ?_ ?_ ?_ ?_
  ·rintro v own wa wb ⟨b,rfl,G,Y⟩ hs hn;exact⟨b,U,G,Y.J hs (hn b ou)⟩
  ·rintro z own wa wb ⟨S,h2,h3⟩ hs;refine⟨S,h2,λh0=>?_⟩;obtain⟨qs,q,e1,e2,e3,e4⟩:=h3 h0;exact⟨qs,q,e1,e2,e3,λb' hX hn=>⟨Go.Lg.XQ.I (e4 b' hX hn).1 hs,(e4 b' hX hn).2.I hs⟩⟩
  ·rintro⟨vp,us⟩ g own wz v ⟨i1,i2,i3⟩ kb ⟨h7,rfl,hh,hi⟩ m3;simp only[]at i2 i3;have m4:=(m3 h7 ou).1;refine p ZG<|pk<|Zv (us:=us) hi U U i2.1 U i2.2 λw8 he m5=>⟨kb.O he hh,?_⟩;refine p ZG<|pe ?_;refine⟨(vp,us,h7),oC,kb.O he hh,hh,m5,i2,λh0=>?_⟩;obtain⟨qs,q,e1,e2,e3,e4⟩:=i3 h0;have e5:=e4 h7 hh m4;exact⟨qs,q,e1,e2,e3,Go.Lg.XQ.up (Go.Lg.XQ.st e5.1 (he.Y od)) (λb G=>.inl (Lk _ G)),e5.2.st (he.Y od)⟩
  refine pq (λ_ J=>Zu (g8.I J) U U)<|p Qv<|p (Yt U)<|p (QG U)<|pq (λ_ J=>Qk (g7.I J) U U) <|
   p Qv<|p (Yt U)<|p (QG U)<|pq (λ_ J=>Qk (g7.I J) U U)<|p (λ_=>Yo my U) <|
   p (λ_=>XX U U ⟨oa,oa⟩)<|pe ⟨λg wf m6=>flA ZU m6,?_⟩
  refine f2k λx1 p1 c1=>?_;have m7:=(gk (H::L) (λb G=>by
   rcases Lj.1 G with rfl|G
   ·exact .inl (oy hl.size ha.size)
   exact .inl (ov (hL b G)))).I (hf.D c1)
  have m8:jS (Ut ↑V ↑x1++(H::L)) ↑x1 s.s.vp s.s.ps:=Go.Lg.XQ.I (Go.Lg.XQ.up mz λb G=>by
   rcases Lc.1 G with G|G
   ·exact .inr (Zw.1 G).1
   exact .inl G) c1
  have hbl:=Qdw (v:=(s.us.length:Int)+1) m7 m8 (λb G=>by
   have:=c1.size;rcases Lc.1 G with G|G
   ·exact(Zw.1 G).2
   have:=g9 b G;omega) k0 kx (kz.I (hp.D c1))
  rw[hW,ka]at hbl;refine xg<|hbl.Y ?_;rintro _ y1 ⟨kc,vp,us,rfl,m9,pa,_,pc⟩;have z1:=c1.size;refine⟨c1.D kc,Ut ↑x1 ↑y1,kc.any,λb G=>.inr (Zw.1 G),?_⟩;refine Ul Qv<|Ul (λ_=>Zi U U)<|Ul (λ_=>Zi U U)<|Ul (λ_=>Zi U U)<|f2e ?_;refine⟨(vp,us),oC,λb G=>ov (Zw.1 G),⟨m9,pa⟩,λh0=>?_⟩;obtain⟨qs,q,e1,e2,e3,_,e5,e6⟩:=pc h0;refine⟨qs,q,e1,e2,e3,λb' hX hn=>?_⟩;have pd:b'<↑x1\/↑y1<=b':=by
   rcases Ns b' ↑x1 with S|S
   ·exact .inl S
   rcases Ns b' ↑y1 with h2|h2
   ·exact OW (Zw.2 ⟨S,h2⟩) hn
   exact .inr h2
  have ke:∀b∈b'::H::L,b∈Ut ↑V ↑x1++(H::L)\/↑y1<=b:=λb G=>by
   rcases Lj.1 G with rfl|G
   ·exact pd.imp (λS=>Lc.2 (.inl (Zw.2 ⟨hX,S⟩))) id
   exact .inl (Lc.2 (.inr G))
  exact⟨Go.Lg.XQ.up e5 ke,(e6 (Ut ↑V ↑x1++(H::L)) (λb G=>by
   rcases Lc.1 G with G|G
   ·exact(Zw.1 G).2
   have:=g9 b G;omega)).up ke⟩
 rintro⟨vp,us,h7⟩ g wA ⟨hJ,hh,hi,pf,hg⟩;simp only[]at hh hi pf hg;have h8:=(gj.I hf).I hJ;refine Qd<|Qj<|Zx U U<|xe<|QO rfl (λgm=>?_) (λgm=>?_)
 ·refine Qc<|x (Qx Z)<|Qa<|QK ZU h8 oC λw8 he gl=>Qb<|Qh ⟨[sT ZU,sS E2],⟨Yl gl,U,Z⟩,bad _ wA w8 I gm (hp.D hJ) he⟩
 have kf:=Lp.1 gm;refine Exists.elim (hg kf) λqs pg=>Exists.elim pg λq hK=>?_;have eu:=hK.1;have eqs:=hK.2.1;have eq:=hK.2.2.1;have kg:=hK.2.2.2.1;have hM:=hK.2.2.2.2;rw[eu]at hi;refine Qf ?_;have gn:=hp.D hJ;have go:=Y.I gn;have hl11:=hi.lt;have hlsb:=Y.lt;have ph:sX wA { wA with drawn:=wA.drawn+1 }:=O5.C _ _
 refine QX (α:=UnZ) [(93,100),(12,13)] (λz=>[(12,pS z.b12),(13,pS z.b13)]) (λz w'=>sX wA w'/\↑wA<=z.b12/\↑wA<=z.b13/\∃T1 T2,QZ ↑w' z.b12 T1 s.s.c.cells/\QZ ↑w' z.b13 T2 [s.s.vp]) om ?_ ?_
 ·refine QnE (α:=UnZ) (sX wA) [oE 0,oE 1,oE 2,oE 3,oE 4,oE 5,oE 6,oE 7] [8,9] [oF 10,oF 11] [(12,13)] (unP ↑wA) (λz=>[(12,pS z.b12),(13,pS z.b13)])
   (λz w'=>z.b12≠z.b13/\↑wA<=z.b12/\↑wA<=z.b13/\∃T1 T2,QZ ↑w' z.b12 T1 Z8/\QZ ↑w' z.b13 T2 [Zm]) mixed om oe ph (λ_ _ S h2=>S.D h2) (QlJ _) ?_ ?_
  ·rintro g w' ⟨⟨b12,T1,e3,pj,pm⟩,⟨b13,T2,e4,pn,hh⟩,_⟩ po;refine⟨⟨b12,b13⟩,⟨e3,e4,Z⟩,?_,pj,pn,T1,T2,pm,hh⟩;have d1:=po 8 od 9 od ol;rw[e3,e4]at d1;simp only[ow,oJ,forall_eq]at d1;exact d1
  refine p Qv<|p (Yt U)<|p (QG U)<|pq (λ_ J=>Zh (us:=s.s.c.cells) (go.I J) U U U)<|p Qv<|p (Yt U)<|p (QG U) <|
   pq (λ_ J=>Qk (go.I J) U U)<|pe ⟨⟨?_,?_,Z⟩,?_⟩
  ·intro g w' J;exact K3 (us:=Z8) U λb w5 hI G Y=>⟨hI,⟨b,_,U,LH J.size G,Y⟩,λc gp=>by rw[Lb.1 (show c∈[b] from gp)];exact⟨G,Y.lt⟩⟩
  ·intro g w' J;exact K3 (us:=[Zm]) U λb w5 hI G Y=>⟨hI,⟨b,_,U,LH J.size G,Y⟩,λc gp=>by rw[Lb.1 (show c∈[b] from gp)];exact⟨G,Y.lt⟩⟩
  rintro⟨b12,b13⟩ g wz kh ⟨gq,hr,h9,T1,T2,hO,hP⟩;simp only[]at gq hr h9 hO hP;refine pk<|JY s.s.c.cells hO h.st.c.ones λw8 he pp=>⟨kh.O he hr,?_⟩;refine pkk<|Qu (u:=s.s.vp) (hP.J he (by simp only[oJ];exact λe=>gq e.symm)) U U od h.st.p.arr.one λw9 ki pu=>pe ?_;exact⟨⟨b12,b13⟩,oB,(kh.O he hr).O ki h9,hr,h9,T1,T2,pp.J ki (by simp only[oJ];exact gq),pu⟩
 rintro⟨b12,b13⟩ gC wC ⟨hA,hr,h9,T12,T13,hO,hP⟩;simp only[]at hr h9 hO hP;have kj:=go.I hA;refine Qj<|Qa<|Yd U<|Qo U kj U U<|x (ZD (l:=[]) (l':=[_,_]))<|Qn<|Za [[Vu ⟨b12,b13,s.s⟩]] λb107 wC1 ht hb107 pw=>?_;have kk:=(gn.D hA).D ht;have zC1:=ht.size;refine Qn<|Q2 (news:=[Vu ⟨b12,b13,s.s⟩]) (L:=[]) (Ql h.ru kk) U U U (pw.at od) oq oa oa λv16 wD gr hC pz=>?_;have d2:s.b∉ob s.vu:=h.d2;have p0:=(kj.I ht).J hC d2;refine Yd rfl<|QQ U<|Qn<|Qu (u:=v16) p0 U U (LZ U) (Qp gr) λwE hu p2=>xe ?_;have zE:=hu.size;have p3:QZ ↑wE s.b TS [s.s.c.ve,s.s.c.vc,s.s.c.vr,s.s.c.vx,s.s.c.vk,s.s.vp,sS s.made,s.vr,v16]:=p2;have p4:=((gk (H::L) (λb G=>by
   rcases Lj.1 G with rfl|G
   ·exact .inl (oy hl.size ha.size)
   exact .inl (ov (hL b G)))).I (hf.D hJ)).I (hA.D ht)
 have subL:∀b∈s.own,b∈H::L:=λb G=>Lk _ (h.sub b G);have msb:s.b∈s.own:=Lq;have mvr:∀b∈ob s.vr,b∈s.own:=λb G=>Lk _ (Lc.2 (.inl G));have mvu:∀b∈ob s.vu,b∈s.own:=λb G=>Lk _ (Lc.2 (.inr G));have sDL:=hC.Y (L':=H::L) λb G=>subL b (mvu b G);have sEL:=hu.Y (L':=H::L) λb G=>by rw[Lb.1 G];exact subL _ msb
 have p5:=(p4.st sDL).st sEL;have p6:CSz c9.V:=Vf (by rw[hW];exact mw);refine Qc ?_;have p7:QZ ↑wE b8 _ c9.cells:=((((g8.I hJ).I hA).I ht).J hC (λhm=>ov (h.lt _ (mvu _ hm)))).J hu oh;refine Qa<|Qa<|QT p7 U U<|Qz<|(Qex p5 p6).Y ?_;rintro r19 wF ⟨hQ,cm,rfl,ecm,kn⟩;have zF:=hQ.size;have d1:s.b∉ob s.vr:=h.d1;have nown:∀b,↑w<=b->b∉s.own:=λb S G=>ov (h.lt b G)
 have n4:=nown H hZ;have hY:=nown h7 oa;have sE:O5 s.own wA wE:=((hA.D ht).any.Q (hC.Y mvu)).Q (hu.Y λb G=>by rw[Lb.1 G];exact msb);have sF:=sE.D hQ;refine Qa<|Yd U<|QQ U<|Qn<|YL (us:=cm.cells) (cs':=[cm.ve,cm.vc,cm.vr,cm.vx,cm.vk,s.s.vp,sS s.made,s.vr,v16]) (p3.I hQ) U U U (LZ U) (kn [] od).ones rfl λwG p8 p9=>?_;refine Yd rfl<|QQ U<|Qn<|Qu (u:=vp) p9 U U (LZ U) kg.arr.one λwH qc qf=>xe ?_;have ko:QZ ↑wH s.b TS [cm.ve,cm.vc,cm.vr,cm.vx,cm.vk,vp,sS s.made,s.vr,v16]:=qf;have gs:∀b∈[s.b],b∈s.own:=λb G=>by rw[Lb.1 G];exact msb
 have sFH:O5 [s.b] wF wH:=p8.Q qc;have sH:O5 s.own wA wH:=sF.Q (sFH.Y gs);have hk2:(YN DC.2 (s.s.ps.map (·.pt)) ((s.us.length:Int)+1)).made.length=q.k2.length:=by rw[<-eq];rfl
 have hrl2:=hM.a2.le;refine Qd<|Zz [] (YW 0 11 [10])<|p Qv<|p (Yt U)<|p (QG U)<|pq (λ_ J=>Qk (ko.I J) U U)<|p (QG U)<|pq (λ_ J=>Qk ((hi.J sH hY).I J) U U) <|
  p (λ_=>Yo hM.a2 U)<|p (λ_=>XX U U ⟨oa,oa⟩)<|p (Yt U)<|p (QG U) <|
  pkk<|Qu (u:=sS (s.made+(q.k2.length:Int))) (ko.I (O5.C _ _)) U U (LZ U) U λwI ql qm=>pe ?_
 have kq:QZ ↑wI s.b TS [cm.ve,cm.vc,cm.vr,cm.vx,cm.vk,vp,sS (s.made+(q.k2.length:Int)),s.vr,v16]:=qm;have sHI:O5 [s.b] wH wI:=(O5.C [] wH).any.Q ql;have sFI:=sFH.Q sHI;have sI:O5 s.own wA wI:=sF.Q (sFI.Y gs);have zI:=sI.size;have kr:∀b∈ob s.vr,b≠s.b:=λb G e=>d1 (e ▸ G);have qo:wI.ownsRow 0 60 3 s.vr s.rs.length (s.rs.flatMap Q0):=by
  refine Qe (Ql (Qe (Qe (Ql h.rr kk) hC λb G hm=>h.d3 b G hm) hu λb G hm=>kr b G (Lb.1 hm)) hQ) sFI λb G hm=>kr b G (Lb.1 hm)
 have drI:sX wI { wI with drawn:=wI.drawn+1 }:=O5.C _ _
 have n11r:h7∉ob s.vr:=λhm=>hY (mvr _ hm);refine Qd<|Zz (ob s.vr) (YW 0 11 [6,7,10])<|p Qv<|p Qv<|p (Yt U)<|p (QG U)<|pq (λ_ J=>Qk (kq.J J d1) U U)<|pq (λ_ J=>Zu ((hi.J sI hY).J J n11r) U U) <|
  pk<|Za [Q0 q] λb136 wJ hv hb136 q0=>⟨(drI.D hv).any,?_⟩
 refine pk<|Q2 (m:=1) (news:=Q0 q) (L:=[]) (Ql qo (drI.D hv)) U U U (q0.at od) (Zb.all hM.ones) oa (Lo _) λv24 wK gt hR q1=>⟨(drI.D hv).any.Q hR,?_⟩;have q2:QZ ↑wK s.b TS _:=(kq.I (drI.D hv)).J hR d1;refine p (Yt U)<|p (QG U)<|pkk<|Qu (u:=v24) q2 U U (LZ U) (Qp gt) λwN gu kt=>pe ?_;have sK:O5 s.own wA wK:=sI.Q ((drI.D hv).any.Q (hR.Y mvr));have sN:O5 s.own wA wN:=sK.Q (gu.Y gs);have zN:=sN.size;refine Qc<|QT (hi.J sN hY) U U<|Qz<|(Qkr ((hM.up (L':=H::L) λb G=>.inl (Lk _ G)).st (sN.Y subL))).Y ?_;rintro r26 wP ⟨ku,q',rfl,q3,gv⟩;refine QK (Q0 q') ((h8.J sN n4).I ku) (gv [H] (λb G=>by rw[Lb.1 G];have:=h8.lt;omega)).ones λwM gw q4=>Qb<|Qh ⟨[sT (Q0 q'),sS 0],⟨Yl q4,U,Z⟩,?_⟩;have kv:E=0:=I.D kf;have gx:=Qkg (cm:=cm) (vp:=vp) (qs:=qs) (q:=q) (made:=s.made+(q.k2.length:Int)) (v16:=v16) (v24:=v24) h hL gn ⟨hZ,by have:=h8.lt;exact this⟩ (Go.Lg.XQ.up kg λb G=>.inl G) (hM.up (L':=H::L) λb G=>.inl (Lk _ G))
  hA hr h9 hO hP (ht.any.Q hC) gr (λb G=>(pz b G).imp id λS=>LH zC1 S) hu hQ kn sFI (drI.D hv) hR gt q1 gu kt ku gw
 have q5:∀N:LN,(∀b∈N,b<↑w)->Jt N ↑wM q':=λN hN=>((gv (H::N) (λb G=>by
  rcases Lj.1 G with rfl|G
  ·have:=h8.lt;omega
  have:=hN b G;omega)).st (gw.Y od)).up λb G=>.inl (Lk _ G)
 have q6:Jt (s.b::(ob v24++ob v16)) ↑wM q':=by
  have y1:=hu.size;have y3:=sFI.size;have y4:=(drI.D hv).size;have y5:=hR.size;have y6:=gu.size;refine((gv (H::(s.b::(ob v24++ob v16))) (λb G=>?_)).st (gw.Y od)).up λb G=>.inl (Lk _ G);rcases Lj.1 G with rfl|G
  ·have:=h8.lt;omega
  rcases Lj.1 G with rfl|G
  ·exact kt.lt
  rcases Lc.1 G with G|G
  ·have:=(Qg gt b G).2;omega
  have:=(Qg gr b G).2;omega
 refine⟨q',by rw[kv];rfl,q5,λh0=>OW kv h0,λ_=>⟨?_,_,?_,?_,gx.1,gx.2.1,gx.2.2,q6⟩⟩
 ·rw[q3,eq,T]
 ·rfl
 rw[hD,<-eqs,<-eq,<-hW,<-ecm];unfold X7.sys;simp only[Oj,oY,OL];rfl
theorem Qkh {TS:Nat}{u:UnV}{v1 v2 v3 J O H m vr vu:O2}(S:QZ ↑w b TS [v1,v2,v3,J,O,H,m,vr,vu])(E:UnA L ↑w u)(T:b∈L):
  QY sV 44 [pS b,pS u.b1,pS u.b2] w λ_ w'=>O5 [b] w w'/\QZ ↑w' b TS [u.s.c.ve,u.s.c.vc,u.s.c.vr,u.s.c.vx,u.s.c.vk,u.s.vp,m,vr,vu]:=by
 refine Zq func44 ?_;have hbL:∀x∈[b],x∈L:=λx hx=>by rw[Lb.1 hx];exact T
 have hd:sX w { w with drawn:=w.drawn+1 }:=O5.C _ _
 refine Zz [b] (YW 0 10 [6,9])<|p Qv<|p Qv<|pq (λ_ G=>Qr (us:=u.s.c.cells) (E.a1.st (G.Y hbL)) U U)<|pq (λ_ G=>Qy (u:=u.s.vp) (E.a2.st (G.Y hbL)) U)<|p (Yt U)<|p (QG U) <|
  pk<|YL (us:=u.s.c.cells) (cs':=[u.s.c.ve,u.s.c.vc,u.s.c.vr,u.s.c.vx,u.s.c.vk,H,m,vr,vu]) (S.I hd) U U U (LZ U) E.s.c.ones U λw1 I V=>⟨hd.any.Q I,?_⟩
 refine p (Yt U)<|p (QG U)<|pkk<|Qu (u:=u.s.vp) V U U (LZ U) E.s.p.arr.one λw2 Y ha =>
  pe ?_
 exact⟨[],Z,(hd.any.Q I).Q Y,ha⟩
theorem UW {e:Nat}{v:O2}{g:α->LV}(E:∀x,(g x).length=sz){l:List α}{y:α}(h:w.ownsRow 0 e sz v (l++[y]).length ((l++[y]).flatMap g)):
  ∃b cap,v=sL b (l.length+1) cap/\l.length+1<=cap/\b<↑w/\∀(X:LN) (w':O1),O5 X w w'->b∉X->w'.ownsRow 0 e sz (sL b l.length cap) l.length (l.flatMap g):=by
 have G:(l++[y]).length=l.length+1:=od
 rw[G]at h;rcases h.2 with⟨e1,e2⟩|⟨b,cap,cur,e1,V,H,Y,h4⟩
 ·omega
 subst e1;obtain⟨I,cur,H,J,O⟩:=JD h;refine⟨b,cap,U,I,H.lt,λX w' S G=>VV h (NP _) (H.J S G) J ?_ (xF E l)⟩;have T:(cur.take ((l.length+1)*sz)).take (l.length*sz)=cur.take (l.length*sz):=by rw[M6,Mk (L3 _ (NP _))]
 rw[<-T,O,LA,M1 (by rw[xF E l];exact Lx _),Lu (by rw[xF E l];exact Lx _)]
theorem QnG {s:X7}(h:KS L w s)(ho:s.rs.length=s.us.length)(h2:s.us.length<=64):
  QY sV 36 [pS s.b] w λr w'=>(s.us=[]->r=sS 12/\sX w w') /\
   (s.us≠[]->r=sS 0/\∃s':X7,s'.b=s.b/\s'.sys=unS s.sys/\O5 s.own w w'/\KS L w' s'/\∀b∈s'.own,b∈s.own):=by
 obtain⟨TS,hB⟩:=h.blk;have hh:Zn [] ↑w s.vu s.us.length 1 (s.us.map Vu):=QB h.ru oa od;refine Zq func36 ?_;refine Qc<|Qb<|Qd<|Qj<|x (Jj underlying47 U U)<|xe<|ZO rfl<|Qf<|Qj<|Yd U<|Qo U hB U U<|QF hh U<|Qb<|Qd<|Qj<|x (QR U U)<|xe<|QO rfl (λha=>?_) (λha=>?_)
 ·have hz:s.us=[]:=Ni.1 (by have h3:(s.us.length:Int)=0:=ha;omega);refine Qc<|Qb<|Qh ⟨[sS 12],La,λ_=>⟨U,O5.Z _ _⟩,λhn=>OW hz hn⟩
 have V:s.us≠[]:=λe=>ha (by rw[e];rfl);refine Qf ?_;have he:s.rs≠[]:=λe=>V (Ni.1 (by rw[<-ho,e];rfl));have J:s.us=s.us.dropLast++[s.us.getLast V]:=(MW V).symm;have Y:s.rs=s.rs.dropLast++[s.rs.getLast he]:=(MW he).symm;refine Zf s.us.dropLast λG hp=>Zf (s.us.getLast V) λu hq=>Zf s.rs.dropLast λH hr=>Zf (s.rs.getLast he) λq hs=>?_;rw[hp,hq]at J;rw[hr,hs]at Y;have h4:s.us.length=G.length+1:=by rw[J];simp
 have h5:s.rs.length=H.length+1:=by rw[Y];simp
 have O:=UW (g:=λu=>[Vu u]) (λ_=>U) (l:=G) (y:=u) (by rw[<-List.map_eq_flatMap,<-J];exact h.ru);have S:=UW yx (l:=H) (y:=q) (by rw[<-Y];exact h.rr);refine Exists.elim O λgu O=>Exists.elim O λcu O=>Exists.elim S λgr S=>Exists.elim S λcr S=>?_;have evu:=O.1;have evr:=S.1;have hi:(s.us.length:Int) - 1=((G.length:Nat):Int):=oa
 have ht:(s.us.length:Int) - 1=((H.length:Nat):Int):=oa
 have eu:((s.us.map Vu).drop (G.length*1)).take 1=[Vu u]:=by rw[J];simp
 have mu:u∈s.us:=by rw[J];simp
 have msb:s.b∈s.own:=Lq;have mgu:gu∈ob s.vu:=by rw[evu];simp[ob]
 have mgr:gr∈ob s.vr:=by rw[evr];simp[ob]
 refine Qj<|Yd U<|Qo U hB U U<|Qa<|x (XR U U ⟨oa,oa⟩)<|xi (i:=G.length) hh U (show Go.Lg.ev _ _=_ from OV sS hi) oa λh6 hj=>?_;rw[eu]at hj;refine x (Qy hj U)<|Qa<|Qn<|xc (first:=[]) (capt:=[pS u.b1,pS u.b2]) U<|(Qkh hB (h.uA u mu) (h.sub _ msb)).Y ?_;rintro r1 w1 ⟨hu,hf⟩;refine xe<|Qd<|Zz [] (YW 0 22 [18,21]) ?_;have hd:sX w1 { w1 with drawn:=w1.drawn+1 }:=O5.C _ _
 refine p Qv<|p Qv<|p Qv<|p (Yt U)<|p (QG U)<|pq (λ_ hc=>Qk (hf.I hc) U U) <|
  p Qv<|p (λ_=>XR U U ⟨oa,oa⟩)<|p (λ_=>XG (n:=G.length+1) (b:=gu) (cap:=cu) (hi:=G.length) evu (show Go.Lg.ev _ _=_ from OV sS hi) (ov O.2.1))<|p Qv<|p (Yt U) <|
  p (QG rfl)<|pq (λ_ hc=>Qk (hf.I hc) U U)<|p Qv<|p (λ_=>XR U U ⟨oa,oa⟩)<|p (λ_=>XG (n:=H.length+1) (b:=gr) (cap:=cr) (hi:=H.length) evr (show Go.Lg.ev _ _=_ from OV sS ht) (ov S.2.1)) <|
  p (Yt rfl)<|p (QG U)<|pkk<|Qu (u:=sL gu G.length cu) (hf.I hd) U U (LZ U) U λw2 hv hw=>p (Yt U) <|
  p (QG rfl)<|pkk<|Qu (u:=sL gr H.length cr) hw U U (LZ U) U λw3 hy h0=>pe ?_
 refine Qc<|Qb ?_;have T:O5 [s.b] w w3:=((hu.D hd).Q hv).Q hy;have hk:gu∉[s.b]:=λI=>h.d2 (Lb.1 I ▸ mgu);have hl:gr∉[s.b]:=λI=>h.d1 (Lb.1 I ▸ mgr);have hg:∀b∈[s.b],b∈L:=λb E=>by rw[Lb.1 E];exact h.sub _ msb
 have h1:∀b∈[s.b],b∈s.own:=λb E=>by rw[Lb.1 E];exact msb
 have own':∀b∈(⟨s.b,u.s,s.made,sL gr H.length cr,H,sL gu G.length cu,G⟩:X7).own,b∈s.own:=λb E=>by
  rcases Lj.1 E with rfl|E
  ·exact msb
  rcases Lc.1 E with E|E
  ·rw[Lb.1 (show b∈[gr] from E)];exact Lk _ (Lc.2 (.inl mgr))
  rw[Lb.1 (show b∈[gu] from E)];exact Lk _ (Lc.2 (.inr mgu))
 refine Qh ⟨[sS 0],La,λe=>OW e V,λ_=>⟨U,⟨s.b,u.s,s.made,sL gr H.length cr,H,sL gu G.length cu,G⟩,U,?_,T.Y h1,⟨⟨TS,h0⟩,S.2.2.2 _ _ T hl,?_,λI=>hl (Lb.2 (Lb.1 (show s.b∈[gr] from I)).symm),λI=>hk (Lb.2 (Lb.1 (show s.b∈[gu] from I)).symm),λb E I=>?_,λb E=>h.sub b (own' b E),Mm.st (h.uA u mu).s (T.Y hg),λd hd=>Mm.st (h.rA d (by rw[Y];exact Lc.2 (.inl hd))) (T.Y hg),λd hd=>Mm.st (h.uA d (by rw[J];exact Lc.2 (.inl hd))) (T.Y hg)⟩,own'⟩⟩
 ·show X7.sys _=_;unfold X7.sys unS;rw[J,Y];simp only[Oj,oY,OL,List.dropLast_concat,List.getLastD_concat];rfl
 ·have:=O.2.2.2 _ _ T hk;rw[<-List.map_eq_flatMap]at this;exact this
 rw[Lb.1 (show b∈[gr] from E)]at I;exact h.d3 gr mgr (by rw[Lb.1 (show gr∈[gu] from I)];exact mgu)
structure Ye (k:Nat)(s:q7):Prop where
 st:Qk7 s.c s.ps
 un:∀u∈s.un,Qk7 u.1 u.2
 ln:s.rs.length=s.un.length
 l64:s.un.length<=64
 m0:0<=s.made
 m1:s.made<=(k:Int)*1000
theorem QaX {v:Int}(h:Jg c bf v=0):(YN c bf v).made.length<=96:=by
 obtain⟨E,G⟩:=QkW h;have e:(YN c bf v).made=((O8 c).filter λm=>!(KP c bf v m).2.2).map (ZR c):=by unfold YN;rw[Qge G]
 rw[e,Lh];exact LH (Mg _ _) (VC (ZW E).sr)
theorem Ye.Y {k k':Nat}{s:q7}(h:Ye k s)(E:k<=k'):Ye k' s:=⟨h.st,h.un,h.ln,h.l64,h.m0,ov h.m1⟩
theorem QoR (h:VB c=0):(ZQ c).1=0/\Zj c=0/\Jg c [] 0=0:=by
 unfold VB at h;by_cases E:(ZQ c).1≠0
 ·rw[OU E]at h;exact OW h E
 rw[OT E]at h;by_cases G:Zj c≠0
 ·rw[OU G]at h;exact OW h G
 rw[OT G]at h;exact⟨Lp.1 E,Lp.1 G,h⟩
theorem Ye.new (h:VB c=0):Ye 1 (Qbx c):=by
 have E:=(QoR h).2.2;have I:=QaX E;exact⟨QkU (λp G=>(by cases G)) E,λu H=>(by cases H),rfl,Lo _,(by show(0:Int)<=((YN c [] 0).made.length:Int);omega),(by show((YN c [] 0).made.length:Int)<=_;omega)⟩
theorem QqT {s:q7}{es:List (Bool×Yi)}(h:qb s es=0):es.length≠0/\s.un.length≠64/\(KX s.c es).1=0/\Jg (KX s.c es).2 s.ps ((s.un.length:Int)+1)=0:=by
 unfold qb at h;by_cases G:es.length=0
 ·rw[OU G]at h;cases h
 rw[OT G]at h;by_cases H:s.un.length=64
 ·rw[OU H]at h;cases h
 rw[OT H]at h;by_cases E:(KX s.c es).1≠0
 ·rw[OU E]at h;exact OW h E
 rw[OT E]at h;exact⟨G,H,Lp.1 E,h⟩
theorem Ye.edit {k:Nat}{s:q7}{es:List (Bool×Yi)}(E:Ye k s)(h:qb s es=0):Ye (k+1) (edS s es):=by
 obtain⟨I,J,O,H⟩:=QqT h;have S:=QaX H;have T:=E.l64;have V:=E.m0;have a1:=E.m1;refine⟨QkU E.st.ok H,λu G=>?_,?_,?_,?_,?_⟩
 ·rcases Lc.1 G with G|G
  ·exact E.un u G
  rw[Lb.1 G];exact E.st
 ·show(s.rs++[_]).length=(s.un++[_]).length;simp[E.ln]
 ·show(s.un++[_]).length<=64;simp;omega
 ·show(0:Int)<=s.made+((YN _ _ _).made.length:Int);omega
 show s.made+((YN _ _ _).made.length:Int)<=_;omega
theorem Ye.undo {k:Nat}{s:q7}(E:Ye k s)(h:s.un≠[]):Ye k (unS s):=by
 have e:s.un.getLastD (s.c,s.ps)=s.un.getLast h:=by
  conv=>lhs;rw[<-MW h]
  exact List.getLastD_concat
 refine⟨?_,λu G=>E.un u (List.dropLast_subset _ G),?_,?_,E.m0,E.m1⟩
 ·show Qk7 (s.un.getLastD (s.c,s.ps)).1 (s.un.getLastD (s.c,s.ps)).2;rw[e];exact E.un _ (List.getLast_mem h)
 ·show s.rs.dropLast.length=s.un.dropLast.length;rw[NF,NF,E.ln]
 show s.un.dropLast.length<=64;rw[NF];have:=E.l64;omega
theorem Ye.len {k:Nat}{s:X7}(h:Ye k s.sys):s.rs.length=s.us.length/\s.us.length<=64/\s.s.ps.length<=1000:=by
 have e1:s.sys.rs.length=s.rs.length:=Lh _;have e2:s.sys.un.length=s.us.length:=Lh _;have G:s.sys.ps.length=s.s.ps.length:=Lh _;have E:=OV oQ h.st.ky;rw[Lh,Lh]at E;have:=VC (ZW h.st.ck).sr;exact⟨by rw[<-e1,<-e2];exact h.ln,by rw[<-e2];exact h.l64,oa⟩
theorem QgG {k:Nat}{s:X7}{xs:List ZZ}(h:KS L w s)(G:Ye k s.sys)(ha:k<=1000)(J:∀b∈L,b<↑w)(hx:zO L2 ↑w vl xs)(O:∀e∈xs.map ZZ.e,q9 e.2)(S:Kb w 4096):
  QY sV 12 [pS s.b,vl] w λr w'=>∃qr:V5,r=.tuple #[sT (Q0 qr),sS (qb s.sys (xs.map ZZ.e))]/\(∀N:LN,(∀b∈N,b<↑w)->Jt N ↑w' qr)/\(qb s.sys (xs.map ZZ.e)≠0->sX w w'/\qr.rp=⟨[],[],[]⟩) /\
   (qb s.sys (xs.map ZZ.e)=0->qr.rp=YN (KX s.sys.c (xs.map ZZ.e)).2 s.sys.ps ((s.sys.un.length:Int)+1)/\∃E:X7,E.b=s.b/\E.sys=edS s.sys (xs.map ZZ.e)/\Ye (k+1) E.sys/\O5 s.own w w'/\KS (E.own++L) w' E/\(∀b∈E.own,b∈s.own\/↑w<=b)/\Jt E.own ↑w' qr):=by
 have H:=G.len;have m0:0<=s.made:=G.m0;have m1:s.made<=(k:Int)*1000:=G.m1;refine(QnM h J hx O G.st H.2.2 ⟨m0,oa⟩ oa H.2.1 S).Y ?_;rintro r w' ⟨qr,e1,e2,T,V⟩;refine⟨qr,e1,e2,T,λI=>?_⟩;obtain⟨f1,E,f2,f3,Y,f5,f6⟩:=V I;have e5:s.sys.un.length=s.us.length:=Lh _;exact⟨by rw[f1,e5];rfl,E,f2,f3,by rw[f3];exact G.edit I,Y,f5,f6⟩
theorem yw {k:Nat}{s:X7}{xs:List ZZ}(h:KS L w s)(G:Ye k s.sys)(H:k<=1000)(I:∀b∈L,b<↑w)(hx:zO L2 ↑w vl xs)(J:∀e∈xs.map ZZ.e,q9 e.2)(O:Kb w 4096):
  QY sV 12 [pS s.b,vl] w λr w'=>∃qr:V5,r=.tuple #[sT (Q0 qr),sS (qb s.sys (xs.map ZZ.e))]/\(∀N:LN,(∀b∈N,b<↑w)->Jt N ↑w' qr)/\(qb s.sys (xs.map ZZ.e)≠0->sX w w'/\qr.rp=⟨[],[],[]⟩) /\
   (qb s.sys (xs.map ZZ.e)=0->qr.rp=YN (KX s.sys.c (xs.map ZZ.e)).2 s.sys.ps ((s.sys.un.length:Int)+1)/\∃E:X7,E.b=s.b/\E.sys=edS s.sys (xs.map ZZ.e)/\Ye (k+1) E.sys/\O5 s.own w w'/\KS (E.own++L) w' E/\∀b∈E.own,b∈s.own\/↑w<=b):=
 (QgG h G H I hx J O).Y λ_ _ ⟨qr,e1,e2,S,T⟩=>⟨qr,e1,e2,S,λV=>let⟨f1,E,f2,f3,Y,f5,f6,f7,_⟩:=T V;⟨f1,E,f2,f3,Y,f5,f6,f7⟩⟩
theorem yv {k:Nat}{s:X7}(h:KS L w s)(H:Ye k s.sys):
  QY sV 36 [pS s.b] w λr w'=>(s.sys.un=[]->r=sS 12/\sX w w') /\
   (s.sys.un≠[]->r=sS 0/\∃E:X7,E.b=s.b/\E.sys=unS s.sys/\Ye k E.sys/\O5 s.own w w'/\KS L w' E/\∀b∈E.own,b∈s.own):=by
 have I:=H.len;refine(QnG h I.1 I.2.1).Y ?_;rintro r w' ⟨e1,e2⟩;refine⟨λG=>e1 (List.map_eq_nil_iff.1 G),λG=>?_⟩;obtain⟨f1,E,f2,f3,J,O,S⟩:=e2 λe=>G (by show s.us.map _=[];rw[e];rfl);exact⟨f1,E,f2,f3,by rw[f3];exact H.undo G,J,O,S⟩
theorem Ql0 {c:CL}(G:ZI L ↑w c)(H:CSz c.V)(I:Kb w 4096)(hE:VB c.V=0):
  QY sV 8 [c.val] w λr w'=>sX w w'/\∃s:X7,r=.tuple #[pS s.b,sS 0]/\s.sys=Qbx c.V/\Ye 1 s.sys/\(∀b∈s.own,↑w<=b)/\KS (s.own++oV ↑w) w' s:=by
 refine(Qle G H I).Y ?_;rintro r w' ⟨J,vp,e1,_,O⟩;obtain⟨s,S,E,T,V⟩:=O hE;exact⟨J,s,by rw[e1,S,hE],E,by rw[E];exact Ye.new hE,T,V⟩
theorem Qfy (k:Ky):(Xp k).length=2:=rfl
theorem Jm {v:O2}{l:List Ky}(h:Kys L ↑w v l)(J:Kys L' ↑w v' l):
  QY sV 58 [v,v'] w λr w'=>r=.bool true/\sX w w':=by
 have hb:=h.le;refine Zq func58 ?_;refine Qc<|Qb<|Qd<|Qj<|QF h U<|Qa<|QF J U<|Zx U U<|xe<|QO rfl (λO=>OW U O) (λO=>?_);refine Qf<|Qd<|Qc<|Qb<|Q7 (α:=Nat) [(4,5),(11,25)] (λk=>[(5,sS k)]) (λk w'=>sX w w'/\k<=l.length) (λk=>l.length - k) 0 La ⟨O5.Z _ _,Lo _⟩ ?_;rintro k g H ⟨G,hk⟩;have S:Kys L ↑H v l:=h.I G;have V:Kys L' ↑H v' l:=J.I G;refine Qd<|Qj<|Qa<|QF S U<|Z5 U U<|xe<|ZH rfl (λT=>?_) (λT=>?_)
 ·refine Qw<|Qc<|Qb<|Qh ⟨[.bool true],La,U,G⟩
 have E:k<l.length:=by have he:(k:Int)<(l.length:Int):=T;omega
 refine Qf<|Qd<|Qm<|Qd<|Zz [] (YW 0 9 [])<|p Qv<|p Qv<|Lg.pig (g:=Xp) (i:=k) U Qfy S U U E λhf Y=>pq (λ_ I=>Qr (Y.I I) U U) <|
  p Qv<|p Qv<|Lg.pig (g:=Xp) (i:=k) U Qfy V U U E λhg ha=>pq (λ_ I=>Qr (ha.I I) U U)<|p (λ_=>Vx (xs:=Xp (l[k]'E)) (ys:=Xp (l[k]'E)) U U U)<|pe ?_
 refine ZO (show Go.Lg.ev _ _=_ from OV (λb=>Value.bool (!b)) ((QbD (l[k]'E) (l[k]'E)).D (OX U))) ?_;refine Qf<|Qs<|Qa<|QH U U<|Qb<|⟨k+1,oa,La,G.D (O5.C [] H),oa⟩
theorem Qae {v:O2}(h:QL L ↑w v l)(I:QL L' ↑w v' l):
  QY sV 117 [v,v'] w λr w'=>r=.bool true/\sX w w':=by
 have he:=h.le;refine Zq func117 ?_;refine Qc<|Qb<|Qd<|Qj<|QF h U<|Qa<|QF I U<|Zx U U<|xe<|QO rfl (λJ=>OW U J) (λJ=>?_);refine Qf<|Qd<|Qc<|Qb<|Q7 (α:=Nat) [(4,5),(11,25)] (λk=>[(5,sS k)]) (λk w'=>sX w w'/\k<=l.length) (λk=>l.length - k) 0 La ⟨O5.Z _ _,Lo _⟩ ?_;rintro k g G ⟨E,hk⟩;have O:QL L ↑G v l:=h.I E;have Y:QL L' ↑G v' l:=I.I E;refine Qd<|Qj<|Qa<|QF O U<|Z5 U U<|xe<|ZH rfl (λS=>?_) (λS=>?_)
 ·refine Qw<|Qc<|Qb<|Qh ⟨[.bool true],La,U,E⟩
 have T:k<l.length:=by have hf:(k:Int)<(l.length:Int):=S;omega
 refine Qf<|Qd<|Qm<|Qd<|Zz [] (YW 0 9 [])<|p Qv<|p Qv<|pii U O U U T λhg ha=>pq (λ_ H=>Qy (ha.I H) U) <|
  p Qv<|p Qv<|pii U Y U U T λhh hb=>pq (λ_ H=>Qy (hb.I H) U)<|p (λ_=>XH U U)<|pe ?_
 refine QO rfl (λV=>OW U V) (λV=>?_);refine Qf<|Qs<|Qa<|QH U U<|Qb<|⟨k+1,oa,La,E.D (O5.C [] G),oa⟩
theorem Ug {a b:V5}(h:Jt L ↑w a)(I:Jt L' ↑w b)(e:a.rp=b.rp):
  QY sV 41 [sT (Q0 a),sT (Q0 b)] w λr w'=>r=.bool true/\sX w w':=by
 obtain⟨a1,k1,a2,k2,a3,k3⟩:=a;obtain⟨b1,j1,b2,j2,V,j3⟩:=b;cases e
 refine Zq func41 ?_;refine Qc<|Zl [a1,a2,a3] λhc w1 Y he ha=>Zl [b1,b2,V] λhf w2 T hg J=>Qb ?_;have E:=Y.D T;have O:=ha.I T;refine QX (α:=Unit) [(4,23)] (λz=>[(4,.bool true)]) (λz w'=>sX w2 w') om ?_ ?_
 ·refine Qs<|Qo U O U U<|Qo U J U U<|Qz<|(Jm (h.a1.I E) (I.a1.I E)).Y ?_;rintro r3 w3 ⟨rfl,G⟩;refine Qa<|Qo U (O.I G) U U<|Qo U (J.I G) U U<|Qz<|(Jm ((h.a2.I E).I G) ((I.a2.I E).I G)).Y ?_;rintro r4 w4 ⟨rfl,hb⟩;have H:=G.D hb;refine QC U<|Qa<|Qo U (O.I H) U U<|Qo U (J.I H) U U<|Qz<|(Jm ((h.a3.I E).I H) ((I.a3.I E).I H)).Y ?_;rintro r5 w5 ⟨rfl,S⟩;refine QC U<|Qb<|⟨(),La,H.D S⟩
 rintro⟨⟩ g5 w5 S;exact Qh ⟨[.bool true],La,U,E.D S⟩
abbrev V2 (q:EnV):LV:=[q.vk,q.vd,q.vm]
theorem Qcn {a b:EnV}(h:zf L ↑w a)(J:zf L' ↑w b)(e1:a.kp=b.kp)(e2:a.ds=b.ds)(e3:a.rm=b.rm):
  QY sV 56 [sT (V2 a),sT (V2 b)] w λr w'=>r=.bool true/\sX w w':=by
 have hk:=h.k;have hd:=h.d;have O:=h.r;rw[e1]at hk;rw[e2]at hd;rw[e3]at O;have hq:=O.le;refine Zq func56 ?_;refine Qc<|Zl (V2 a) λb2 w1 hl hs hm=>Zl (V2 b) λb3 w2 hb ht S=>Qb ?_;have E:=hl.D hb;have T:=hm.I hb;refine Qd<|QX (α:=Unit) [(6,28)] (λz=>[(28,.bool false)]) (λz w'=>sX w2 w') om ?_ ?_
 ·refine Qs<|Qo U T U U<|Qo U S U U<|Qz<|(Qae (hk.I E) (J.k.I E)).Y ?_;rintro r3 w3 ⟨rfl,H⟩;refine xB (Zy U) (λhe=>OW he od) (λhe=>?_);refine Qa<|Qo U (T.I H) U U<|Qo U (S.I H) U U<|Qz<|(Qae ((hd.I E).I H) ((J.d.I E).I H)).Y ?_;rintro r4 w4 ⟨rfl,hn⟩;have I:=H.D hn;refine xB (Zy U) (λhf=>OW hf od) (λhf=>?_);refine QC U<|Qa<|Qo U (T.I I) U U<|QF ((O.I E).I I) U<|QQ U<|x (Qk (S.I I) U U) <|
   QF ((J.r.I E).I I) U<|Zx U U<|QC U<|xe ?_
  exact⟨(),⟨OV Value.bool (OZ λh=>h U),Z⟩,I⟩
 rintro⟨⟩ g5 w5 hg;refine ZO rfl<|Qf<|Qd<|Qc<|Qb<|Q7 (α:=Nat) [(4,5),(29,46)] (λk=>[(5,sS k)]) (λk w'=>sX w5 w'/\k<=b.rm.length) (λk=>b.rm.length - k) 0 La ⟨O5.Z _ _,Lo _⟩ ?_;rintro k g w6 ⟨Y,hu⟩;have hh:=hg.D Y;have ha:=(E.D hg).D Y;have h1:=O.I ha;have hi:=T.I hh;refine Qd<|Qj<|Qo U hi U U<|QF h1 U<|Z5 U U<|xe<|ZH rfl (λhj=>?_) (λhj=>?_)
 ·refine Qw<|Qc<|Qb<|Qh ⟨[.bool true],La,U,ha⟩
 have V:k<b.rm.length:=by have hv:(k:Int)<(b.rm.length:Int):=hj;omega
 refine Qf<|Qd<|Qm<|Qd<|Zz [] (YW 0 11 [])<|p (QG U)<|pq (λ_ G=>Qk (hi.I G) U U)<|p Qv<|Lg.pig (g:=q4C) (i:=k) U QiP h1 U U V λhw ho=>pq (λ_ G=>Qr (ho.I G) U U) <|
  p (QG rfl)<|pq (λ_ G=>Qk ((S.I hh).I G) U U)<|p Qv<|Lg.pig (g:=q4C) (i:=k) U QiP (J.r.I ha) U U V λhy hp=>pq (λ_ G=>Qr (hp.I G) U U)<|p (λ_=>Vx (xs:=q4C b.rm[k]) (ys:=q4C b.rm[k]) U U U)<|pe ?_
 refine ZO (show Go.Lg.ev _ _=_ from OV (λb=>Value.bool (!b)) ((QoD (b.rm[k]'V) (b.rm[k]'V)).D (OX U))) ?_;refine Qf<|Qs<|Qa<|QH U U<|Qb<|⟨k+1,oa,La,Y.D (O5.C [] w6),oa⟩
theorem Qd2 {a b:EnV}(h:zf L ↑w a)(J:zf L' ↑w b)(e:{ a.en with vr:=0 }={ b.en with vr:=0 }):
  QY sV 19 [sT (ZT a),sT (ZT b)] w λr w'=>r=.bool true/\sX w w':=by
 have ek:a.ky=b.ky:=OV Ent.ky e;have es:a.p.a=b.p.a:=OV Ent.sp e;have O:=h.a;rw[es]at O;refine Zq func19 ?_;refine Qc<|Zl (ZT a) λb2 w1 V hc Y=>Zl (ZT b) λb3 w2 S he H=>Qb ?_;have E:=V.D S;have I:=Y.I S;refine QX (α:=Unit) [(4,23)] (λz=>[(4,.bool true)]) (λz w'=>sX w2 w') om ?_ ?_
 ·refine Qs<|QQ U<|x (Zh (us:=Xp a.ky) I U U U)<|QQ U<|x (Zh (us:=Xp b.ky) H U U U)<|xB (Qcy (xs:=Xp a.ky) (ys:=Xp b.ky) U U U) (λT=>?_) (λT=>OW T (by rw[QbD,OX ek];simp));refine Qa<|QQ U<|x (Zh (us:=[a.p.va,sS a.p.a.st,a.p.vm,a.p.ve]) I U U U)<|QQ U<|x (Zh (us:=[b.p.va,sS b.p.a.st,b.p.vm,b.p.ve]) H U U U)<|Qn<|xf ?_;rw[es];refine(QeS (O.I E) (J.a.I E)).Y ?_;rintro r3 w3 ⟨rfl,G⟩;refine QC U<|Qa<|QQ U<|x (Zh (us:=V2 a) (I.I G) U U U)<|QQ U<|x (Zh (us:=V2 b) (H.I G) U U U)<|jF<|(Qcn ((h.I E).I G) ((J.I E).I G) (OV Ent.kp e) (OV Ent.ds e) (OV Ent.rm e)).Y ?_;rintro r4 w4 ⟨rfl,ha⟩;refine QC U<|Qb<|⟨(),La,G.D ha⟩
 rintro⟨⟩ g5 w5 hb;exact Qh ⟨[.bool true],La,U,E.D hb⟩
theorem Qbi {a b:EnV}(h:zf L ↑w a)(E:zf L' ↑w b)(e:a.en=b.en):
  QY sV 19 [sT (ZT a),sT (ZT b)] w λr w'=>r=.bool true/\sX w w' :=
 Qd2 h E (by rw[e])
theorem JI (w:O1):QY sV 57 [] w λr w'=>sX w w'/\QeV ↑w ↑w' r QbG:=by
 refine Zq func57 ?_;refine Qc<|QM Z8 λG w1 h0 hR ho=>xe ?_;refine Qc<|Qz<|(Kp 3 ol w1).Y ?_;rintro r2 w2 ⟨he,c1,rfl,h1,hf⟩;refine QM Z8 λb1 w3 h3 hp h4=>QK c1.cells h4 (hf [] od).ones λY h5 hr=>xe ?_;have hg:sX w2 Y:=h3.O h5 hp;have hS:=he.size;have h6:=ho.lt;have h7:=hr.lt;refine Qc<|Qn<|Za [[sS 1],[sS 2]] λO w5 hs hT h8=>Qn<|Za [[sS 0],[sS 1]] λS w6 hh hU hA =>
  x (Qx ⟨rfl,U,U,Z⟩)<|x (Qx ⟨U,U,U,Z⟩)<|Qn<|Za [QA (0,1,1),QA (1,2,0)] λT w7 ha hV hB=>?_
 have hC:=(hs.D hh).D ha;refine x (Qx ⟨U,U,U,U,Z⟩)<|x (Q5 [(0,[.string Xd]),(1,[sL O 2 2,sS 2,sL S 2 2,sL T 2 2])] ⟨U,U,U,U,Z⟩) <|
  Qn<|Za [[.string Xd,sL O 2 2,sS 2,sL S 2 2,sL T 2 2]] λI w8 V hW hD=>?_
 have ht:=hC.D V;refine QQ rfl<|Qn<|Qu (j:=2) (u:=sL I 1 1) (hr.I ht) U U od rfl λw9 hi hE=>xe ?_;refine Qc<|x (Qx ⟨U,U,Z⟩)<|x (Qx ⟨U,U,Z⟩)<|Qn<|Za [QD (1,1),QD (2,1)] λhc hY hu hZ hF=>x (Qx ⟨U,U,Z⟩) <|
  Qn<|Za [[.string Xe,sL hc 2 2]] λJ hG hv ga hH=>?_
 have hj:=hu.D hv;refine QQ rfl<|Qn<|Qu (j:=3) (u:=sL J 1 1) (hE.I hj) U U od rfl λhw hk hJ=>xe ?_;have gb:=hs.size;have gc:=hh.size;have gg:=ha.size;have gh:=V.size;have gi:=hi.size;have gj:=hu.size;have hl:O5 [b1] Y hw:=((ht.any.Q hi).D hj.any).Q hk;have hK:G∉[b1]:=oh
 have hM:=((ho.I he).I hg).J hl hK;have hN:Zb [c1.ve,c1.vc,sL I 1 1,sL J 1 1,c1.vk]:=by
  have h9:=(hf [] od).ones;exact⟨h9.1,h9.2.1,U,U,h9.2.2.2.2.1,Z⟩
 refine Qc<|QT hJ U U<|QK [c1.ve,c1.vc,sL I 1 1,sL J 1 1,c1.vk] hM hN λgk hy hO=>xe ?_;have H:=CL.cel_ex (CL.cel_rq h1 (sL I 1 1) [⟨Xd,⟨sL O 2 2,sL S 2 2,sL T 2 2,U3.a⟩⟩]) (sL J 1 1) [⟨Xe,sL hc 2 2,[(1,1),(2,1)]⟩];refine Qh ⟨[.agg #[c1.ve,c1.vc,sL I 1 1,sL J 1 1,c1.vk]],⟨Yl hO,Z⟩,(((h0.D he).D hg).O hl oa).O hy oa,_,U,H,λL hL=>?_⟩;have hz:∀b∈G::L,b<w1.heap.size:=λb E=>by
  rcases Lj.1 E with rfl|E
  ·exact h6
  have:=hL b E;omega
 have hP:∀b∈b1::G::L,b<Y.heap.size:=λb E=>by
  rcases Lj.1 E with rfl|E
  ·exact h7
  have:=hz b E;omega
 have h2:=(hf (G::L) hz).up (L':=b1::G::L) (λb E=>by
  rcases Lj.1 E with rfl|E
  ·exact .inr hp
  exact .inl E)
 have hn:=(h2.I hg).st (hl.Y od);have nB:∀b,↑Y<=b->b∉b1::G::L:=λb E hm=>ov (hP b hm)
 have hI:X4 (b1::G::L) ↑w8 (sL I 1 1) [⟨Xd,⟨sL O 2 2,sL S 2 2,sL T 2 2,U3.a⟩⟩]:=by
  refine⟨hD.arr (nB _ oa) (n:=1) (cap:=1) (sz:=5) U ol (Lx _),λq H=>?_,λq H=>?_⟩
  ·rw[Lb.1 H];exact⟨(((h8.I hh).I ha).I V).arr (nB _ oa) (n:=2) (cap:=2) (sz:=1) U ol (Lx _),((hA.I ha).I V).arr (nB _ oa) (n:=2) (cap:=2) (sz:=1) U ol (Lx _),(hB.I V).arr (nB _ oa) (n:=2) (cap:=2) (sz:=3) U ol (Lx _)⟩
  rw[Lb.1 H];exact XI ol
 have hX:jD (b1::G::L) ↑hG (sL J 1 1) [⟨Xe,sL hc 2 2,[(1,1),(2,1)]⟩]:=by
  refine⟨hH.arr (nB _ oa) (n:=1) (cap:=1) (sz:=2) U ol (Lx _),λq H=>?_,λq H=>?_⟩
  ·rw[Lb.1 H];exact(hF.I hv).arr (nB _ oa) (n:=2) (cap:=2) (sz:=2) U ol (Lx _)
  rw[Lb.1 H];exact XI ol
 have hQ:ZI (b1::G::L) ↑hw (CL.mk c1.ve c1.vc (sL I 1 1) (sL J 1 1) c1.vk c1.ev c1.co [⟨Xd,⟨sL O 2 2,sL S 2 2,sL T 2 2,U3.a⟩⟩] [⟨Xe,sL hc 2 2,[(1,1),(2,1)]⟩] c1.cs):=
  ⟨hn.ev,hn.co,((hI.st (hi.Y od)).I hj).st (hk.Y od),hX.st (hk.Y od),hn.cs⟩
 exact(hQ.st (hy.Y od)).up (λb E=>.inl (Lk _ (Lk _ E)))
abbrev QrT:XD:=⟨.empty,Vq⟩
def JE (k:Nat):ByteArray:=(QbG.co.getD k QrT).nm
def U2:List (Bool×Yi):=[(false,⟨3,Xe,Vq,[(JE 1,0),(JE 2,1)],[],0⟩)]
def Qjw:List (Bool×Yi):=[(true,⟨1,JE 1,Vq,[],[],0⟩)]
def KI:q7:=Qbx QbG
def QfA:q7:=edS KI U2
theorem QmA:VB QbG=0:=oe
theorem Qo2:qb KI U2=0:=oe
theorem QoY:(YN (KX KI.c U2).2 KI.ps 1).kept=[(1,Xd)]:=oe
theorem QoX:(YN (KX KI.c U2).2 KI.ps 1).made=[(2,Xe)]:=oe
theorem QoZ:(YN (KX KI.c U2).2 KI.ps 1).gone=[]:=oe
theorem Qo1:qb QfA Qjw=9:=oe
theorem Qjv:QfA.made=3:=oe
end Go.Lg
