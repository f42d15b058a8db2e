/- Merged out of 29 texts. -/
import Derived.Test.YtleldcnoenokmaaGreatDoorNcb
import Derived.Shelf.SlSortCmp.NoneTotal
import Derived.Ground.SlsfProg
import Derived.Tactics
import Derived.Sort.Grow
import Derived.Deep.Draws
import Derived.Sort.Statements
import Derived.Shelf.Lay
import Derived.Tactics2
import Derived.Laws.IdiomStrings
set_option maxHeartbeats 40000000
set_option maxRecDepth 100000
set_option linter.all false
open Go Go.Lg
open Go.Value renaming int->oF
open Go.IntKind renaming i64->oG
open _root_.List renaming mem_singleton->oI,not_mem_nil->oJ,mem_cons->oK,length_append->oM,replicate->oN,length_singleton->oO,length->oP,getD->oQ,all_cons->oR,range->oT,map_cons->oX,append_assoc->o0,cons_append->Ob,nil_append->Oj,all_eq_true->Ol,flatMap_cons->Om,length_nil->OD,map_set->ON
open _root_.Bool renaming and_eq_true->oL,not_eq_true'->Oi,false_eq_true->OC
open _root_.Array renaming replicate->oW,getElem?_eq_getElem->Oh,getElem?_mapIdx->Ow
open _root_.Nat renaming zero_add->oY,add_zero->Oz,sub_zero->OG,mod_lt->OO,zero_le->OP
open _root_.Option renaming map_some->Ox,isSome_none->OB
open Go renaming World->OZ,Value->O0,Operand->O1,Program->O2
open Go.Proofs Go.Proofs.Tryz
variable {w w' W':OZ}{L L' X ds ns av:LN}{n t i sz b T j E N g o id ty cap b1 B kt lo hi b2 bp G M gf gp:Nat}{cs us news capt:LV}{H:xx}{a:Zd}{α:Type}{y:O1}{z va ve vm vt v' vs vl vb vx vk:O0}{l u al ul out rs:LI}{f f1:Fr}{c:ZG}{P:O2}{fn:Func}{aa:List Zd}{lf:Lf}{s:Int}{es:List Ed}{d:xC}{af:xz}{gd:xo}{K:xu}{k':IntKind}{qs:List IV}{ops:xA}{rest:xp}{qx:List XV}{ks:List KV}{Φ:O0→OZ→Prop}{Dc:xq}
namespace Go.Lg
theorem Qhc (n:Nat):VJ (n+1)=VJ n++[(n:Int)]:=by unfold VJ;rw[Nv,Lp];rfl
theorem QkA (n:Nat):(VJ n).length=n:=by unfold VJ;simp
theorem JT {k:Nat}{l:List IV}(h:k<l.length):(l.drop k).map (·.it)=(l[k]'h).it::(l.drop (k+1)).map (·.it):=by rw[Zf h];rfl
theorem yn {s:List ByteArray}{x:XG}(h:Yi n u s x=0):ZJ x.a:=by
 unfold Yi at h;split at h
 ·cases h
 split at h
 ·cases h
 split at h
 ·rename_i E G;exact OU h G
 rename_i E;exact(Z6 _).1 (Lo.1 E)
theorem V7 {s:List ByteArray}{x:XG}{l:List XG}:Yn n al s u (x::l)=if Yi n al s x≠0 then(Yi n al s x,s,u)else Yn n al (s++[x.nm]) (mrg (· || ·) u x.a.al) l:=rfl
theorem V5 {s:List ByteArray}{x:XG}{l:List XG}:JE n u s (x::l)=if Yi n u s x≠0 then Yi n u s x else JE n u (s++[x.nm]) l:=rfl
theorem Y7 {c:CL}(h:ZF L w.heap c):
  Q5 prog 10 [c.val] w λr w'=>r=oF oG (Zm c.V)/\O3 [] w w':=by
 have kc:=h.co.arr.le;have ke:=h.rq.arr.le;have E:Zm c.V=(if J2 c.ev≠0 then J2 c.ev else if c.co.length=0 then 12 else if 8<c.co.length\/12<c.co.length+c.rq.length then 3 else
  if(Yn c.ev.length (VJ c.ev.length) [] [] (c.co.map (·.it))).1≠0 then(Yn c.ev.length (VJ c.ev.length) [] [] (c.co.map (·.it))).1 else
  if JE c.ev.length (Yn c.ev.length (VJ c.ev.length) [] [] (c.co.map (·.it))).2.2 (Yn c.ev.length (VJ c.ev.length) [] [] (c.co.map (·.it))).2.1 (c.rq.map (·.it))≠0 then JE c.ev.length (Yn c.ev.length (VJ c.ev.length) [] [] (c.co.map (·.it))).2.2 (Yn c.ev.length (VJ c.ev.length) [] [] (c.co.map (·.it))).2.1 (c.rq.map (·.it))else
  Yy (szs c.V.co) c.V.ex c.V.cs):=by
  unfold Zm;rw[show c.V.co.length=c.co.length from Lh ..,show c.V.rq.length=c.rq.length from Lh ..];rfl
 refine Zk (Zm c.V) λR hR=>?_;rw[hR]at E ⊢;refine Zk (Yn c.ev.length (VJ c.ev.length) [] [] (c.co.map (·.it))) λCO h6=>?_;rw[h6]at E;refine Zs func10 ntmps10 results10 ?_;refine Qe<|Qa<|QS (us:=c.cells) U λb1 w1 h7 kf h8=>Qc<|Qd<|Qe<|Qs U h8 U U<|Qa<|xf<|(yh (h.ev.I h7)).mono ?_;rintro r2 w2 ⟨rfl,h9⟩;refine Qc ?_;have Y:=h7.D h9;have hl:=h8.I h9;have h2:=h.I Y;refine Qm<|ZA U U<|xe<|QZ rfl (λhm=>?_) (λhm=>?_)
 ·rw[OS hm]at E;subst E;refine Qm<|Qc ?_;exact Ql ⟨[_],La,U,Y⟩
 rw[OR hm]at E;have kg:c.ev.length<=32:=by
  refine Lo.1 λhn=>?_;apply hm;unfold J2;rw[OS oa];decide
 refine Qh<|Qd<|Qe<|Qs U hl U U<|QL h2.co.arr U<|Qc<|Qg<|Qm<|x (Q9 U U)<|Qc<|QZ U (λhu=>?_) (λhu=>?_)
 ·have hv:c.co.length=0:=by have hX:(c.co.length:Int)=0:=hu;omega
  rw[OS hv]at E;subst E;refine Qe<|Qc ?_;exact Ql ⟨[_],La,U,Y⟩
 have hv:¬c.co.length=0:=by have hX:¬(c.co.length:Int)=0:=hu;omega
 rw[OR hv]at E;refine Q3 (α:=Bool) [(27,37)] (λz=>[(27,.bool z)]) (λz w'=>w'=w2/\z=decide (8<c.co.length\/12<c.co.length+c.rq.length)) ol ?_ ?_
 ·refine Qw<|Qb<|xb (ZZ U U) (λhY=>?_) (λhY=>?_)
  ·refine Qb<|Qr<|Qr<|Qr<|Qr<|Qr<|Qr<|QK U<|Qc ?_;exact⟨_,La,U,bT (.inl oa)⟩
  refine Qb<|Qb<|Qs U hl U U<|QL h2.rq.arr U<|x (XI U U ⟨oa,oa⟩) <|
   x (ZZ rfl U)<|QK U<|Qc ?_
  exact⟨_,La,U,bD oa⟩
 rintro z g w3 ⟨rfl,rfl⟩;refine QZ rfl (λhw=>?_) (λhw=>?_)
 ·rw[OS hw]at E;subst E;refine Qe<|Qc ?_;exact Ql ⟨[_],La,U,Y⟩
 rw[OR hw]at E;refine Qh<|Qe<|Qa<|Yw JB λbm w4 hA kh hB=>Qc ?_;have ki:=hB.lt;have kj:=hl.lt;have hC:=Y.D hA;have hD:=hl.I hA;have hE:b1≠bm:=oa
 have hge:w.heap.size<=bm:=oa
 have hM:ZF [bm] w.heap c:=h.up (λb hb=>.inr (by simp at hb;omega));have hG:=hM.I hC;refine Qe<|x Qk<|Qc<|Qd<|Qe<|Qs U hD U U<|QL hG.ev.arr U<|Qb<|xe<|Qg<|QC (α:=Nat×O0) [(6,6),(8,8),(42,49)] (λz=>[(6,z.2),(42,oF oG z.1)]) (λz w'=>z.1<=c.ev.length/\O3 [] w4 w'/\Qu 3 w4.heap.size w' z.2 (VJ z.1)) (λz=>c.ev.length - z.1) ol (0,nS) oA
  ⟨Ln _,O3.Z _ _,QJ _ _ _ _⟩ ?_
 rintro⟨k,vg⟩ g w5 ⟨hk,ha,ho⟩;simp only[]at hk ho;have kk:=QkA k;refine Qe<|QX U U<|xe<|Qd<|QG U (λhy=>?_) (λhy=>?_)
 ·refine Qx ?_;have hc:k=c.ev.length:=by have he:¬(k:Int)<(c.ev.length:Int):=hy;omega
  subst hc;have hZ:QQ [bm] w5.heap vg (VJ c.ev.length):=Qu.ints ho oa (by simp;omega);have ga:=hB.I ha;have hH:=hD.I ha;have hI:=hG.I ha;have gb:=hC.D ha;refine Qd<|Qe<|Qs U hH U U<|QL hI.co.arr U<|Qb<|xe<|Qg<|QC (α:=Nat×O0×List ByteArray×LI) [(2,2),(7,7),(10,11),(53,72)] (λz=>[(7,z.2.1),(53,oF oG z.1)]) (λz w'=>z.1<=c.co.length/\O3 [bm] w5 w'/\Yd JB w'.heap bm (nmM z.2.2.1)/\QQ [bm] w'.heap z.2.1 z.2.2.2/\z.2.2.2.length<=32*z.1/\Yn c.ev.length (VJ c.ev.length) z.2.2.1 z.2.2.2 ((c.co.drop z.1).map (·.it))=CO) (λz=>c.co.length - z.1) ol (0,nS,[],[]) oA
   ⟨Ln _,O3.Z _ _,ga,Zv.nil _ _ _,oe,h6⟩ ?_
  rintro⟨k,vu,sn,u⟩ g w6 ⟨hk,hf,hp,hz,gc,H⟩;simp only[]at hk hp hz gc H;have hJ:O3 [] w w6:=gb.O hf hge;have h0:=hH.J hf (oz hE);have S:=hI.st hf;refine Qe<|QX U U<|xe<|Qd<|QG U (λh1=>?_) (λh1=>?_)
  ·refine Qx ?_;have hc:k=c.co.length:=by have he:¬(k:Int)<(c.co.length:Int):=h1;omega
   subst hc;rw[Lr (Lx _)]at H;have gg:CO=(0,sn,u):=H.symm;subst gg;rw[OR oe]at E;simp only[]at E;refine Zk (JE c.ev.length u sn (c.rq.map (·.it))) λRQ hK=>?_;rw[hK]at E;refine Qd<|Qe<|Qs U h0 U U<|QL S.rq.arr U<|Qb<|xe<|Qg<|QC (α:=Nat×List ByteArray) [(2,2),(13,14),(76,90)] (λz=>[(76,oF oG z.1)]) (λz w'=>z.1<=c.rq.length/\O3 [bm] w6 w'/\Yd JB w'.heap bm (nmM z.2)/\JE c.ev.length u z.2 ((c.rq.drop z.1).map (·.it))=RQ) (λz=>c.rq.length - z.1) ol (0,sn) La
    ⟨Ln _,O3.Z _ _,hp,hK⟩ ?_
   rintro⟨k,sm⟩ g w7 ⟨hk,hg,hL,I⟩;simp only[]at hk hL I;have hN:O3 [] w w7:=hJ.O hg hge;have hO:=h0.J hg (oz hE);have hh:=S.st hg;have gh:=hz.st hg;refine Qe<|QX U U<|xe<|Qd<|QG U (λh3=>?_) (λh3=>?_)
   ·refine Qx ?_;have hc:c.rq.length<=k:=by have he:¬(k:Int)<(c.rq.length:Int):=h3;omega
    rw[Lr hc]at I;have gi:RQ=0:=I.symm;rw[OR (by rw[gi];decide)]at E;refine Qe<|Q2 hO U U<|Qa<|xf<|(jT hh).mono ?_;rintro r8 w8 ⟨gj,vs,vx,vk,qx,ks,rfl,gk,gl,hF⟩;obtain⟨gm,gn,go⟩:=hF [] oe;refine Qa<|xf<|(yg gm gn go).mono ?_;rintro r9 w9 ⟨rfl,gp⟩;rw[gk,gl,<-E];refine Qc ?_;exact Ql ⟨[_],La,U,(hN.D gj).D gp⟩
   have G:k<c.rq.length:=by have he:(k:Int)<(c.rq.length:Int):=h3;omega
   have O:=Lm G;rw[JT G,V5]at I;refine Qh<|Qd<|Qg<|Qe<|O6 Yj hh.rq.arr U U G λkn hP=>?_;refine Zk (c.rq[k]'G) λq hq=>?_;rw[hq]at hP O I;have J:=hh.rq.each q O;refine x (Qv hP U U)<|Qa<|Qo (us:=[.string .empty,nS,oF oG 0,nS,nS]) U λb13 ko gq gr h4=>Qa<|Qj (us:=QO q) h4 U U U U ⟨U,J.al.one,U,J.mr.one,J.ed.one,Z⟩ λgs gt h4 =>
    xe ?_
   have T:O3 [] w7 gs:=gq.O gt gr;refine Qe<|Q2 h4 U U<|Qs U (hO.I T) U U<|QL (hh.ev.I T).arr U<|Qb<|Qb<|Qa<|xf<|(QeO (J.I T) (hh.rq.nm q O) (gh.I T) oa (hL.I T) oe oe).mono ?_;rintro kq kr ⟨rfl,hQ,gu⟩;refine Qc<|Qm<|ZA U U<|xe<|QZ U (λhi=>?_) (λhi=>?_)
   ·rw[OS hi]at I;rw[OS (by rw[<-I];exact hi)]at E;refine Qm<|Qc ?_;exact Ql ⟨[_],La,by rw[E,<-I];rfl,(hN.D T).O hQ hge⟩
   rw[OR hi]at I;refine Qh<|Qw<|QN U U<|Qb<|xe ?_;exact⟨(k+1,sm++[q.nm]),oh,La,G,(hg.D T).Q hQ,gu (Lo.1 hi),I⟩
  have G:k<c.co.length:=by have he:(k:Int)<(c.co.length:Int):=h1;omega
  have O:=Lm G;rw[JT G,V7]at H;refine Qh<|Qd<|Qg<|Qe<|O6 Yj S.co.arr U U G λkt hS=>?_;refine Zk (c.co[k]'G) λq hq=>?_;rw[hq]at hS O H;have J:=S.co.each q O;have gv:=hZ.st hf;refine x (Qv hS U U)<|Qa<|Qo (us:=[.string .empty,nS,oF oG 0,nS,nS]) U λku kv gw gx hs=>Qa<|Qj (us:=QO q) hs U U U U ⟨U,J.al.one,U,J.mr.one,J.ed.one,Z⟩ λgy gz hs =>
   xe ?_
  have V:O3 [] w6 gy:=gw.O gz gx;have kw:=hp.lt;refine Qd<|Qe<|Q2 hs U U<|Qs U (h0.I V) U U<|QL (S.ev.I V).arr U<|Qb<|Qb<|Qa<|xf<|(QeO (J.I V) (S.co.nm q O) (gv.I V) oa (hp.I V) oe oe).mono ?_;rintro kx g0 ⟨rfl,h5,g2⟩;refine Qc<|Qm<|ZA U U<|xe<|QZ U (λhj=>?_) (λhj=>?_)
  ·rw[OS hj]at H;rw[OS (by rw[<-H];exact hj)]at E;refine Qm<|Qc ?_;exact Ql ⟨[_],La,by rw[E,<-H];rfl,(hJ.D V).O h5 hge⟩
  rw[OR hj]at H;have hT:Yi c.ev.length (VJ c.ev.length) sn q.it=0:=Lo.1 hj;have g3:=(yn hT).al_le;have kz:q.p.a.al.length<=32:=g3;refine Qh ?_;have ht:O3 [bm] w6 g0:=V.any.Q h5;have g4:=hz.st ht;have k0:=ht.size;refine Qw<|Qb<|Q0 U<|Qs U (hs.J h5 (by simp;omega)) U U<|Qa<|xf<|(QcG g4 (S.st ht |>.co.each q O |>.al) oa).mono ?_;rintro g5 k4 ⟨hU,g6⟩;refine Qc ?_;have k5:=Qax (· || ·) u q.p.a.al;refine Qw<|QN U U<|Qb<|xe ?_;exact⟨(k+1,g5,sn++[q.nm],mrg (· || ·) u q.p.a.al),oh,oA,G,(hf.Q ht).D hU,(g2 hT).I hU,Qu.ints g6 (by show(mrg _ _ _).length<=_;omega) (by simp;omega),oh,H⟩
 have G:k<c.ev.length:=by have he:(k:Int)<(c.ev.length:Int):=hy;omega
 refine Qh<|Qd<|Qg<|Qm<|Qc<|Qw<|Qb<|Qb<|Qa<|QB (us:=[[oF oG k]]) U U og oe ⟨rfl,rfl,Z⟩ λk6 k7 hV k8 g7=>?_;have hW:=ha.D hV;have k9:=hW.size;have g8:=Qi ho;refine Qa<|Za (news:=[oF oG k]) (L:=[]) (Qp ho hV) U U U (g7.at oe) (by simp[Value.oneCell']) oa oa λg9 ma ka kb mf =>
  Qc<|Qw<|QN U U<|Qb<|xe ?_
 refine⟨(k+1,g9),oh,oA,G,hW.then kb (λb hb=>.inr (g8 b hb).1),?_⟩;simp only[];rw[Qhc];exact Qu.snoc (n:=(k:Int)) ka
theorem Qqy {pS:String}{C:xw}{pl:xp}
  {e bys:Nat}  {x G I:O1}  {v:O0}    {k:IntKind}  [h:Sl P t e sz bys z]
  (J:QV ops E=⟨d,.slice t x none (some G) (some I),ty,pS,af,gd⟩) (O:Zv L H v n sz cs) (hx:ev f x=v) (S:ev f G=.int k hi) (T:ev f I=.int k' hi) (V:hi<=n)
  (hK:∀v',Zv L H v' hi sz (cs.take (hi*sz))->XP P ops C K pl (QY f d v') w)
  (Y:Z4 ops f (QV ops E)=true:=by rfl):XP P ops C K ((E,true)::pl) f w:=by
 obtain⟨v',h3,h4⟩:=QhI (P:=P) (d:=d) (ty:=ty) (pS:=pS) (af:=af) (gd:=gd) (t:=t) O hx S T V;exact Lg.p (λw'=>by rw[J];exact h4 w') (by rw[J];exact hK v' h3) Y
structure Qkg (c:ZG):Prop where
 ev:c.ev.length<=32
 c0:c.co.length≠0
 c8:c.co.length<=8
 cr:c.co.length+c.rq.length<=12
 co:∀x∈c.co,ZJ x.a
 rq:∀x∈c.rq,ZJ x.a
 ce:∀x∈c.co,∀e∈x.a.al,e<(c.ev.length:Int)
 re:∀x∈c.rq,∀e∈x.a.al,e<(c.ev.length:Int)
 cd:Yy (szs c.co) c.ex c.cs=0
 e0:J2 c.ev=0
theorem Qco {s:List ByteArray}{x:XG}(h:Yi n u s x=0):∀e∈x.a.al,e<(n:Int):=by
 unfold Yi at h;split at h
 ·cases h
 split at h
 ·cases h
 split at h
 ·rename_i E G;exact OU h G
 split at h
 ·cases h
 split at h
 ·cases h
 split at h
 ·cases h
 rename_i E;intro e H;refine Lo.1 λI=>E ?_;rw[Nm];exact⟨e,H,OV oa⟩
theorem Qcr {n:Nat}{al:LI}:∀{l:List XG}{s:List ByteArray}{u:LI},(Yn n al s u l).1=0->∀x∈l,ZJ x.a/\∀e∈x.a.al,e<(n:Int)
 | [],_,_,_,x,hx=>by cases hx
 | y::l,s,u,h,x,hx=>by
  rw[V7]at h;by_cases E:Yi n al s y≠0
  ·rw[OS E]at h;exact OU h E
  rw[OR E]at h;have G:Yi n al s y=0:=Lo.1 E;rcases Li.1 hx with rfl|hx
  ·exact⟨yn G,Qco G⟩
  exact Qcr h x hx
theorem Qcl {n:Nat}{u:LI}:∀{l:List XG}{s:List ByteArray},JE n u s l=0->∀x∈l,ZJ x.a/\∀e∈x.a.al,e<(n:Int)
 | [],_,_,x,hx=>by cases hx
 | y::l,s,h,x,hx=>by
  rw[V5]at h;by_cases E:Yi n u s y≠0
  ·rw[OS E]at h;exact OU h E
  rw[OR E]at h;have G:Yi n u s y=0:=Lo.1 E;rcases Li.1 hx with rfl|hx
  ·exact⟨yn G,Qco G⟩
  exact Qcl h x hx
theorem Z5 (h:Zm c=0):Qkg c:=by
 unfold Zm at h;by_cases E:J2 c.ev≠0
 ·rw[OS E]at h;exact OU h E
 rw[OR E]at h;by_cases I:c.co.length=0
 ·rw[OS I]at h;cases h
 rw[OR I]at h;by_cases J:8<c.co.length\/12<c.co.length+c.rq.length
 ·rw[OS J]at h;cases h
 rw[OR J]at h;by_cases G:(Yn c.ev.length (VJ c.ev.length) [] [] c.co).1≠0
 ·rw[OS G]at h;exact OU h G
 rw[OR G]at h;by_cases H:JE c.ev.length (Yn c.ev.length (VJ c.ev.length) [] [] c.co).2.2 (Yn c.ev.length (VJ c.ev.length) [] [] c.co).2.1 c.rq≠0
 ·rw[OS H]at h;exact OU h H
 rw[OR H]at h;have a4:=Qcr (Lo.1 G);have O:=Qcl (Lo.1 H);have S:c.ev.length<=32:=by
  refine Lo.1 λT=>?_;apply E;unfold J2;rw[OS oa];decide
 exact⟨S,I,oa,oa,λx hx=>(a4 x hx).1,λx hx=>(O x hx).1,λx hx=>(a4 x hx).2,λx hx=>(O x hx).2,h,Lo.1 E⟩
theorem YL.e {c:Int}(h:YL N H aa va vt c):c=Qbf aa:=by
 unfold YL at h;unfold Qbf;by_cases E:UT aa≠0
 ·rw[OS E]at h ⊢;exact h.1
 rw[OR E]at h ⊢;cases G:xh aa with
 | none=>rw[G]at h;exact h.1
 | some z=>rw[G]at h;exact h.1
theorem YL.bad {c:Int}(h:YL N H aa va vt c)(I:c≠0):va=zA/\vt=ZD:=by
 unfold YL at h;by_cases E:UT aa≠0
 ·rw[OS E]at h;exact h.2
 rw[OR E]at h;cases G:xh aa with
 | none=>rw[G]at h;exact h.2
 | some z=>rw[G]at h;exact OU h.1 I
theorem YL.good {c:Int}(h:YL N H aa va vt c)(G:c=0):Jo N H va (syA aa)/\QdS N H vt (syQ aa)/\xh aa=some (syA aa,syQ aa)/\UT aa=0:=by
 unfold YL at h;unfold syA syQ;by_cases E:UT aa≠0
 ·rw[OS E]at h;exact OU (h.1.symm.D G) E
 rw[OR E]at h;cases I:xh aa with
 | none=>rw[I]at h;rw[h.1]at G;cases G
 | some z=>rw[I]at h;exact⟨h.2.1,h.2.2,U,Lo.1 E⟩
theorem YL.st1 {c:Int}(h:YL N w.heap aa va vt c)(G:b<N)(H:O3 [b] w w'):YL N w'.heap aa va vt c:=by
 unfold YL at *;split
 ·rename_i E;rw[OS E]at h;exact h
 rename_i E;rw[OR E]at h;cases I:xh aa with
 | none=>rw[I]at h;exact h
 | some z=>rw[I]at h;exact⟨h.1,Kn h.2.1 G H,Qj0 h.2.2 G H⟩
theorem YL.mono {N M:Nat}{H:xx}{aa:List Zd}{va vt:O0}{c:Int}(h:YL N H aa va vt c)(hM:M<=N):YL M H aa va vt c:=by
 unfold YL at *;split
 ·rename_i E;rw[OS E]at h;exact h
 rename_i E;rw[OR E]at h;cases G:xh aa with
 | none=>rw[G]at h;exact h
 | some z=>rw[G]at h;exact⟨h.1,h.2.1.mono hM,h.2.2.mono hM⟩
theorem QkN (c:ZG):YN c=if Zm c≠0 then Zm c else if Qbf (O5 c.co)≠0 then Qbf (O5 c.co)else Qbf (O5 c.co++O5 c.rq):=by
 unfold YN;split
 ·rfl
 have e:Qbf (O5 c.co)=if UT (O5 c.co)≠0 then UT (O5 c.co)else match xh (O5 c.co)with|none=>3|some _=>0:=rfl
 by_cases E:UT (O5 c.co)≠0
 ·rw[OS E]at e;rw[OS E,e,OS E]
 rw[OR E]at e;rw[OR E];cases G:xh (O5 c.co)with
 | none=>rw[G]at e;simp only[]at e;rw[e];rfl
 | some z=>rw[G]at e;simp only[]at e;rw[e];rfl
theorem Qfq (c:CL):(c.co.map (·.p)).map (·.a)=O5 c.V.co:=by unfold O5;show _=(c.co.map IV.it).map _;rw[Mh,Mh];rfl
theorem Qmp (c:CL):(c.rq.map (·.p)).map (·.a)=O5 c.V.rq:=by unfold O5;show _=(c.rq.map IV.it).map _;rw[Mh,Mh];rfl
theorem Qer {ps:List AV}(h:∀p∈ps,ZJ p.a):∀p∈ps,p.a.st<=4096:=λp E=>(h p E).st1
def j0 (N:Nat)(H:xx)(c:ZG)(va vt:O0)(e:Int):Prop:=if Zm c≠0 then e=Zm c/\va=zA/\vt=ZD else YL N H (O5 c.co) va vt e
theorem Qj6 {c:CL}(h:ZF L w.heap c)(hh:Kb w 4096):
  Q5 prog 198 [c.val] w λr w'=>O3 [] w w'/\∃va vt e,r=.tuple #[va,vt,oF oG e]/\j0 w.heap.size w'.heap c.V va vt e:=by
 refine Zs func198 ntmps198 results198 ?_;refine Qe<|Qa<|QS (us:=c.cells) U λb1 w1 Y hv hi=>Qa<|Qo (us:=[nS,oF oG 0,nS,nS]) U λb2 w2 ha hw J=>x Qk<|Qc ?_;have hb:=Y.D ha;have hy:=Y.size;have hc:=hi.I ha;refine Qd<|Qe<|Q2 hc U U<|Qa<|xf<|(Y7 (h.I hb)).mono ?_;rintro r3 w3 ⟨rfl,E⟩;refine Qc ?_;have O:=hb.D E;have hz:=J.lt;refine Qm<|ZA U U<|xe<|QZ rfl (λH=>?_) (λH=>?_)
 ·refine Qe<|x (Qz Z)<|Qb<|Qa<|Qj (us:=[nS,oF oG 0,nS,nS]) (J.I E) U U U U oC λw4 hj hk=>x Qk<|Qc ?_;exact Ql ⟨[zA,ZD,oF oG (Zm c.V)],⟨⟨_,U,Qn U (hk.at (L:=[]) oe).cells⟩,rfl,rfl,Z⟩,O.O hj oa,zA,ZD,_,rfl,by unfold j0;rw[OS H];exact⟨U,U,U⟩⟩
 have hl:=Z5 (Lo.1 H);refine Qh<|Qe ?_;have h3:=h.I O;refine Qs rfl (hc.I E) U U<|Qa<|xf<|(Qdq h3.co).mono ?_;rintro r5 w5 ⟨S,hm⟩;have I:=O.D S;have hn:∀p∈c.co.map (·.p),ZJ p.a:=λp T=>by
  obtain⟨q,V,rfl⟩:=LD.1 T;exact hl.co q.it (LK V)
 have h0:=h.co.arr.le;have ho:Km [] w5.heap r5 (c.co.map (·.p)):=QiH hm (by rw[Lh];omega) oe (λp T=>by
  obtain⟨q,V,rfl⟩:=LD.1 T;exact(((h.co.each q V).up (L':=[]) oe).I I))
 refine Qa<|xf<|(QcH (km:=4096) ho (hh.I I) og (Qer hn)).mono ?_;rintro r6 w6 ⟨hf,va,vt,e,rfl,hR⟩;rw[Qfq]at hR;have hr:=I.D hf;have hs:=I.size;have ht:∃us,va=.agg us.toArray/\us.length=4/\Zj us:=by
  by_cases he:e=0
  ·exact JH (hR.good he).1
  exact⟨[nS,oF oG 0,nS,nS],(hR.bad he).1,U,U,U,U,U,Z⟩
 refine Exists.elim ht λus G=>?_;refine Q8 rfl U<|Q8 U U<|Q8 U U<|Qa<|Qj (us:=us) ((J.I E).I (S.D hf)) U G.1 G.2.1 U G.2.2 λw7 hg hu =>
  x Qk<|Qc<|Ql ⟨[.agg us.toArray,vt,oF oG e],⟨⟨_,U,Qn G.2.1 (hu.at (L:=[]) oe).cells⟩,rfl,rfl,Z⟩,hr.O hg oa,va,vt,e,by rw[G.1];rfl,?_⟩
 unfold j0;rw[OR H];exact(hR.st1 (ov S.size E.size) hg).mono hs
theorem QaV {v:O0}{m:Int}(h:QQ L w.heap v l)(O:Kb w m)(hb:∀n∈l,0<=n/\n<m)(hl:l.length<=1000000):
  Q5 prog 136 [v] w λr w'=>r=.string ⟨(JJ l).toArray⟩/\O3 [] w w':=by
 refine Zs func136 ntmps136 results136 ?_;refine Qe<|Qc<|Qe<|Qa<|Qo (us:=[.pointer none,nS]) U λH w1 ha S hc=>xe ?_;refine Qd<|Qm<|QL h U<|Qb<|xe<|Qg<|QC (α:=Nat×O0) [(5,5),(8,16)] (λz=>[(8,oF oG z.1)]) (λz w'=>z.1<=l.length/\O3 [] w w'/\(z.2=.pointer none\/z.2=me H)/\Bl z.2 H (JJ (l.take z.1)) w'/\(JJ (l.take z.1)).length<=8*z.1) (λz=>l.length - z.1) ol (0,.pointer none) La
  ⟨Ln _,ha,.inl U,⟨_,hc,QJ _ _ _ _⟩,Lx _⟩ ?_
 rintro⟨k,p⟩ g w2 ⟨hk,E,I,G,he⟩;simp only[]at hk I G he;refine Qe<|QX U U<|xe<|Qd<|QG U (λh9=>?_) (λh9=>?_)
 ·refine Qx<|Qe ?_;rw[Ls oa]at G;refine Qa<|xf<|(y9 E S I G).mono ?_;rintro r3 w3 ⟨rfl,hf⟩;refine Qc ?_;exact Ql ⟨[.string ⟨(JJ l).toArray⟩],La,U,hf⟩
 have J:k<l.length:=oa
 have hm:=hb l[k] (Lm J);obtain⟨q,hq⟩:∃q:Nat,l[k]=q:=⟨l[k].toNat,oa⟩;have hg:l[k].toNat=q:=oa
 have hn:=qn 7 q (ou O.le);have T:JJ (l.take (k+1))=JJ (l.take k)++(Lib.decDigits q++[32]):=by
  rw[Ll J];unfold JJ;rw[LA,List.flatMap_singleton,hg]
 refine Qh<|Qd<|Qg<|Qe<|xii (h.I E) U U J λho hh=>x (QD hh U)<|Qc<|Qw<|Qb<|Qa<|xf ?_;refine(show Q5 _ _ [oF oG l[k]] _ _ by rw[hq];exact(QeM q oa w2 (O.I E))).mono ?_;rintro r4 w4 ⟨rfl,V⟩;have hi:(⟨(Lib.decDigits q).toArray⟩:ByteArray).size+(⟨#[32]⟩:ByteArray).size<=1000000000:=by show(Lib.decDigits q).toArray.size+1<=_;simp;omega
 refine x (YF U U hi)<|Qa<|xf<|(KY (E.D V) S I (G.I V) ((⟨(Lib.decDigits q).toArray⟩:ByteArray)++(⟨#[32]⟩:ByteArray)) (by rw[ByteArray.size_append];show _+((Lib.decDigits q).toArray.size+1)<=_;simp;omega)).mono ?_;rintro r5 w5 ⟨hj,Y⟩;refine xe<|Qw<|QN U U<|Qb<|xe<|⟨(k+1,me H),oh,La,oh,hj,.inr U,?_,?_⟩
 ·simp only[];rw[T];have e:((⟨(Lib.decDigits q).toArray⟩++⟨#[32]⟩:ByteArray)).data.toList=Lib.decDigits q++[32]:=by rw[ByteArray.data_append];simp
  rw[e]at Y;exact Y
 simp only[];rw[T];simp;omega
structure Sty where
 c:CL
 p:AV
 vq:O0
 qs:List TV
 s:AV
 vt:O0
 ts:List TV
 vs:O0
 vx:O0
 vk:O0
 qx:List XV
 ks:List KV
 bm:Nat
 mm:List (ByteArray×O0)
abbrev Sty.cells (q:Sty):LV:=[q.c.ve,q.c.vc,q.c.vr,q.c.vx,q.c.vk,q.p.va,oF oG q.p.a.st,q.p.vm,q.p.ve,q.vq,q.s.va,oF oG q.s.a.st,q.s.vm,q.s.ve,q.vt,q.vs,q.vx,q.vk,.map (some q.bm)]
structure JM (L:LN)(b:Nat)(H:xx)(q:Sty):Prop where
 B:Q7 H b 271 q.cells
 bL:b∉L
 c:ZF L H q.c
 p:ZK L H q.p.va q.p.vm q.p.ve q.p.a
 s:ZK L H q.s.va q.s.vm q.s.ve q.s.a
 qs:JL L H q.vq q.qs
 ts:JL L H q.vt q.ts
 k1:QQ L H q.vs (szs q.c.V.co)
 k2:yD L H q.vx q.qx
 k3:yz L H q.vk q.ks
 mL:q.bm∉L
 m:Yd JB H q.bm q.mm
theorem JM.I {L:LN}{b:Nat}{w w':OZ}{q:Sty}(h:JM L b w.heap q)(E:O3 [] w w'):JM L b w'.heap q:=⟨h.B.I E,h.bL,h.c.I E,h.p.I E,h.s.I E,h.qs.I E,h.ts.I E,h.k1.I E,h.k2.I E,h.k3.I E,h.mL,h.m.I E⟩
theorem JM.st {L:LN}{b:Nat}{w w':OZ}{q:Sty}(h:JM L b w.heap q)(E:O3 L w w'):JM L b w'.heap q:=⟨h.B.J E h.bL,h.bL,h.c.st E,h.p.st E,h.s.st E,h.qs.st E,h.ts.st E,h.k1.st E,h.k2.st E,h.k3.st E,h.mL,h.m.J E h.mL⟩
theorem JM.up {L L':LN}{b:Nat}{H:xx}{q:Sty}(h:JM L b H q)(E:∀b∈L',b∈L\/H.size<=b):JM L' b H q :=
 ⟨h.B,λI=>by rcases E _ I with G|G;exact h.bL G;have:=h.B.lt;omega,h.c.up E,h.p.up E,h.s.up E,h.qs.up E,h.ts.up E,h.k1.up E,h.k2.up E,h.k3.up E,λI=>by rcases E _ I with G|G;exact h.mL G;have:=h.m.lt;omega,h.m⟩
structure QqS (q:Sty):Prop where
 ok:Zm q.c.V=0
 p:xh (O5 q.c.V.co)=some (q.p.a,q.qs.map (·.2))
 s:xh (O5 q.c.V.co++O5 q.c.V.rq)=some (q.s.a,q.ts.map (·.2))
 ex:q.qx.map (·.x)=q.c.V.ex
 cs:q.ks.map (·.k)=q.c.V.cs
 m:qw q.c.co.length q.mm (q.qs.map (·.2))
theorem YR {l:List XG}(h:∀x∈l,ZJ x.a):∀a∈O5 l,ZJ a:=λa E=>by
 obtain⟨x,hx,rfl⟩:=LD.1 E;exact h x hx
def stp (a:Zd)(s v:Int):Int×Bool×Int:=if cks a s≠0 then(0,false,cks a s)else if v∉a.al then(0,false,9)else if 0<=xd a.ed s v then(xd a.ed s v,true,0)else(0,false,0)
theorem QjV (h:ZK L w.heap va vm ve a)(s v:Int):
  Q5 prog 248 [.agg #[va,oF oG a.st,vm,ve],oF oG s,oF oG v] w λr w'=>r=.tuple #[oF oG (stp a s v).1,.bool (stp a s v).2.1,oF oG (stp a s v).2.2]/\O3 [] w w':=by
 have E:stp a s v=(if cks a s≠0 then(0,false,cks a s)else if v∉a.al then(0,false,9)else if 0<=xd a.ed s v then(xd a.ed s v,true,0)else(0,false,0)):=rfl
 refine Zk (stp a s v) λR hR=>?_;rw[hR]at E ⊢;refine Zs func248 ntmps248 results248 ?_;refine Qe<|Qa<|QS (us:=[va,oF oG a.st,vm,ve]) U λb3 w1 Y he J=>x Qk<|x Qk<|Qc<|Qd<|Qe<|Q2 J U U<|Qb<|Qa<|xf<|(J3 (h.I Y) s).mono ?_;rintro r2 w2 ⟨rfl,O⟩;refine Qc ?_;have H:=Y.D O;refine Qm<|ZA U U<|xe<|QZ rfl (λI=>?_) (λI=>?_)
 ·rw[OS I]at E;subst E;refine Qm<|x Qk<|x Qk<|Qc ?_;exact Ql ⟨[_,_,_],oB,U,H⟩
 rw[OR I]at E;refine Qh<|Qd<|Qe<|Qs U (J.I O) U U<|Qb<|Qa<|xf<|(Ya (h.al.I H) v).mono ?_;rintro r3 w3 ⟨rfl,rfl⟩;refine x (zI U)<|xe<|QZ rfl (λS=>?_) (λS=>?_)
 ·rw[OS S]at E;subst E;refine Qe<|x Qk<|x Qk<|Qc ?_;exact Ql ⟨[_,_,_],oB,U,H⟩
 rw[OR S]at E;refine Qh ?_;have G:cks a s=0:=Lo.1 I;have ha:KD a=0:=by
  unfold cks at G;refine Lo.1 λT=>?_;rw[OS T]at G;exact T G
 have hsr:0<=s/\s<a.st:=by
  unfold cks at G;rw[OR (by rw[ha];decide)]at G;refine Lo.1 λT=>?_;rw[OS oa]at G;cases G
 refine Qd<|Qe<|Q2 (J.I O) U U<|Qb<|Qb<|Qa<|xf<|(QcC (h.ed.I H) ((Z6 a).1 ha) s v hsr.1 hsr.2).mono ?_;rintro r4 w4 ⟨rfl,hb⟩;refine Qc<|Qm<|x (Yl U U)<|xe<|QZ rfl (λV=>?_) (λV=>?_)
 ·rw[OS V]at E;subst E;refine Qm<|x Qk<|x Qk<|Qc ?_;exact Ql ⟨[_,_,_],oB,U,H.D hb⟩
 rw[OR V]at E;subst E;refine Qh<|Qe<|x Qk<|x Qk<|Qc ?_;exact Ql ⟨[_,_,_],oB,U,H.D hb⟩
theorem Qh7 (es:List Ed)(s v:Int):xd es s v=(xg es s v).getD (-1):=by
 induction es with
 | nil=>rfl
 | cons e es ih =>
  rw[xd,xg];by_cases h:e.1=s/\e.2.1=v
  ·rw[OS h,OS h];rfl
  rw[OR h,OR h];exact ih
theorem Qne (h:ZJ a){v:Int}(I:0<=s)(J:s<a.st)(E:v∈a.al):(stp a s v).2.1=(xg a.ed s v).isSome:=by
 have G:cks a s=0:=by unfold cks;rw[OR (by rw[(Z6 a).2 h];decide),OR oa]
 unfold stp;rw[OR (by rw[G];decide),OR (oz E),Qh7];cases H:xg a.ed s v with
 | none=>rfl
 | some t =>
  have:=(h.ed _ (Qb8 H)).2.2.2.1;rw[Option.getD_some,OS (oz this)];rfl
theorem Qbk {q:Sty}{t:LI}(E:JM L b w.heap q)(G:QQ L' w.heap vt t)(H:q.c.co.length<=t.length):
  Q5 prog 135 [.pointer (some ⟨b,0,none⟩),vt] w λr w'=>O3 [] w w'/\∃v1 v2,r=.tuple #[v1,v2]/\QQ L' w'.heap v1 (t.take q.c.co.length)/\QQ L' w'.heap v2 (t.drop q.c.co.length):=by
 refine Zs func135 ntmps135 results135 ?_;refine Qe<|x Qk<|Qc<|Qm<|Yb U<|Q0 U<|Qs U E.B U U<|QL E.c.co.arr U<|Qc<|Qd<|QR (O3 [] w) [oD 0,oD 1,oD 2,oD 3,oD 4,oD 5,oD 6,oD 7,oD 8] mixed ol od (O3.C _ _) ?_;refine p Qy<|p Qy<|p Qy<|Qqy (hi:=q.c.co.length) U G U U U H λv1 I=>p Qy<|p Qy<|Qnu (lo:=q.c.co.length) U G U U H λv2 J =>
  p ZH<|p ZH<|pe ?_
 refine Ql ⟨[_,_],oA,O3.C _ _,v1,v2,U,?_,?_⟩
 ·rw[Nat.mul_one,<-NM]at I;have e:(t.take q.c.co.length).length=q.c.co.length:=by rw[Ly];omega
  unfold QQ;rw[e];exact I
 exact QQ.drop J
theorem QhH {v:Int}{y:XG}{l:List XG}{ss:LI}:rfr v i (y::l) (s::ss)=if v∈y.a.al/\(xg y.a.ed s v).isSome=false then(i:Int)else rfr v (i+1) l ss:=rfl
theorem Qc8 {q:Sty}{vr:O0}{v:Int}(O:JM L b w.heap q)(hr:QQ L' w.heap vr rs)(ho:∀x∈q.c.rq,ZJ x.p.a)(hv:Vt (O5 q.c.V.rq) rs):
  Q5 prog 209 [.pointer (some ⟨b,0,none⟩),vr,oF oG v] w λr w'=>r=oF oG (rfr v 0 q.c.V.rq rs)/\O3 [] w w':=by
 have h4:=O.c.rq.arr.le;have h5:rs.length=q.c.rq.length:=by rw[hv.1];unfold O5;show((q.c.rq.map IV.it).map _).length=_;simp
 refine Zk (rfr v 0 q.c.V.rq rs) λR hR=>?_;rw[hR];refine Zs func209 ntmps209 results209 ?_;refine Qe<|Qc<|Qd<|Qm<|Yb U<|Q0 U<|Qs U O.B U U<|QL O.c.rq.arr U<|Qb<|xe<|Qg<|QC (α:=Nat) [(6,11),(18,44)] (λz=>[(18,oF oG z)]) (λz w'=>z<=q.c.rq.length/\O3 [] w w'/\rfr v z ((q.c.rq.drop z).map (·.it)) (rs.drop z)=R) (λz=>q.c.rq.length - z) ol 0 La
  ⟨Ln _,O3.Z _ _,hR⟩ ?_
 rintro k g w1 ⟨hk,I,E⟩;refine Qe<|QX U U<|xe<|Qd<|QG U (λY=>?_) (λY=>?_)
 ·refine Qx ?_;have hp:q.c.rq.length<=k:=by have hq:¬(k:Int)<(q.c.rq.length:Int):=Y;omega
  rw[Lr hp]at E;have hs:R=-1:=E.symm;refine Qe<|Qc ?_;exact Ql ⟨[_],La,by rw[hs];rfl,I⟩
 have G:k<q.c.rq.length:=by have hq:(k:Int)<(q.c.rq.length:Int):=Y;omega
 have H:k<rs.length:=oa
 have ha:=Lm G;rw[JT G,Zf H,QhH]at E;have J:∀hz:k<(O5 q.c.V.rq).length,0<=rs[k]'H/\rs[k]'H<((O5 q.c.V.rq)[k]'hz).st:=λhz=>hv.2 k H hz;have hg:k<(O5 q.c.V.rq).length:=by unfold O5;show k<((q.c.rq.map IV.it).map _).length;simpa using G
 have J:=J hg;have ht:(O5 q.c.V.rq)[k]'hg=(q.c.rq[k]'G).p.a:=by unfold O5;show((q.c.rq.map IV.it).map _)[k]'_=_;simp[IV.it]
 rw[ht,ZI H]at J;rw[ZI H]at E;refine Qh<|Qd<|Qg<|Qm<|O6 Yj (O.c.rq.arr.I I) U U G λh6 hh=>?_;refine Zk (q.c.rq[k]'G) λy hy=>?_;rw[hy]at hh ha E J;have S:=(O.c.rq.each y ha).I I;have hi:=ho y ha;refine x (Qv hh U U)<|Qa<|Qo (us:=[.string .empty,nS,oF oG 0,nS,nS]) U λb8 w2 hu hw V=>x Qk <|
  Qa<|Qj (us:=QO y) V U U U U ⟨U,S.al.one,U,S.mr.one,S.ed.one,Z⟩ λw3 h0 V=>xe ?_
 have T:O3 [] w1 w3:=hu.O h0 hw;refine Qd<|Qe<|Q0 U<|Qs U V U U<|Qb<|Qa<|xf<|(J5 (S.al.I T) hi.ali v).mono ?_;rintro r4 w4 ⟨rfl,rfl⟩;refine x (zI U)<|xe<|QZ rfl (λhb=>?_) (λhb=>?_)
 ·rw[OR (λe=>hb e.1)]at E;refine Qx<|Qw<|QN U U<|Qb<|xe ?_;exact⟨k+1,oa,La,G,I.D T,E⟩
 have hj:v∈y.p.a.al:=Lo.1 hb;have hl:=Qne hi J.1 J.2 hj;refine Qh ?_;have h1:=(hr.I I).I T;refine Qd<|QR (O3 [] w4) [oD 0,oD 1,oD 2,oD 3,oD 4,oD 5,oD 6,oE 7,oD 8,oD 9,oD 10,oD 11,oD 12,oD 13,oD 14] mixed ol od (O3.C _ _) ?_;refine p (QP U)<|pq (λ_ hc=>Zl (us:=ZS y.p) (V.J hc oe) rfl rfl rfl)<|p Qy<|p Qy<|pic (i:=k) rfl h1 rfl rfl H λh7 h2 =>
  pq (λ_ hc=>QD (h2.I hc) U)<|p Qy<|pk<|xf<|(QjV ((S.I T).I (O3.C _ _)) (O4 rs k) v).mono ?_
 rintro r5 w5 ⟨rfl,h3⟩;have hm:=(O3.C [] w4).D h3;refine⟨hm,?_⟩;refine p Qy<|p (λ_=>Zp U U)<|p (λ_=>Zp U U)<|p (λ_=>Zp U U)<|p ZH <|
  p ZH<|p ZH<|pe ?_
 have hn:=(I.D T).D hm;refine Qm<|x (Zz U)<|xe<|QW rfl (λhe=>?_) (λhe=>?_)
 ·have hf:(xg y.p.a.ed (O4 rs k) v).isSome=false:=by rw[<-hl];simpa using he
  rw[OS ⟨hj,hf⟩]at E;refine Qm<|Qc ?_;exact Ql ⟨[_],La,by rw[<-E];rfl,hn⟩
 have hf:¬(xg y.p.a.ed (O4 rs k) v).isSome=false:=by rw[<-hl];simpa using he
 rw[OR (λe=>hf e.2)]at E;refine Qh<|Qw<|QN U U<|Qb<|xe ?_;exact⟨k+1,oa,La,G,hn,E⟩
open Go.RowKit
def XH (L:LN)(W W':OZ):Prop:=∀(k:Nat) (o:Obj),k∉L->W.heap[k]?=some o->o.isCells=true->W'.heap[k]?=some o
theorem XH.refl (L:LN)(W:OZ):XH L W W:=λ_ _ _ h _=>h
theorem XH.D {A B C:OZ}(h:XH L A B)(k:XH L B C):XH L A C:=λi o E H G=>k i o E (h i o E H G) G
theorem XH.J {W:OZ}(h:O3 L W W'):XH L W W':=λk _ G E _=>(h.block k (LH.1 E).1 G).D E
theorem At.cst {W:OZ}{a:Addr}(h:At L W.heap a us)(I:XH L W W')(J:W.heap.size<=W'.heap.size):At L W'.heap a us:=by
 refine⟨h.out,λu G=>LU (h.lt u G) J,λj u G=>?_⟩;have E:=h.cell j u G;unfold cel at E ⊢;rw[Yz]at E ⊢;cases H:W.heap[a.block]? with
 | none=>rw[H]at E;cases E
 | some o =>
  rw[H]at E;cases o with
  | cells c t m=>rw[I a.block _ (h.out u (Mq G)) H rfl];exact E
  | _=>cases E
theorem Zv.cst {L:LN}{W W':OZ}{v:O0}{n sz:Nat}{cs:LV}(h:Zv L W.heap v n sz cs)(E:XH L W W')(G:W.heap.size<=W'.heap.size):Zv L W'.heap v n sz cs :=
 ⟨h.1,h.2.1,h.2.2.imp id λ⟨a,cap,H,I,J⟩=>⟨a,cap,H,I,J.cst E G⟩⟩
structure LwC (B:Nat)(L:LN)(W W':OZ):Prop where
 lw:Lw B L W W'
 cst:XH L W W'
theorem LwC.D {B:Nat}{L:LN}{E w w':OZ}(h:LwC B L E w)(k:LwC B L w w'):LwC B L E w':=⟨h.lw.D k.lw,h.cst.D k.cst⟩
def rdC {α:Type}(B:Nat)(L:LN)(I:List α->OZ->Prop)(X:Exit->List α->OZ->Prop)(xs:List α)(W:OZ):Exit->LN->Fr->OZ->Prop
 | .normal,_,_,W'=>KJ B L W W'/\XH L W W'/\I xs W'
 | .ret,_,_,W'=>KJ B L W W'/\X .ret xs W'
 | .exit i,_,_,W'=>KJ B L W W'/\X (.exit i) xs W'
 | _,_,_,_=>False
theorem QcI {m:Nat}{Q:Exit->LN->Fr->OZ->Prop}{g:O1}{ps:LN}{assign body:Code}(L:LN)(h1:1<=m)
    [hF:Fu P gf fn]  (hg:ev f g=.func (.func gf) #[] capt.toArray) {encs:α->LV} {S Sp:List α->Prop}  (hp:∀p∈ps,p<n) (hm:∀x,(encs x).length=ps.length)
  (hn:SeqStopsK (fen none) (m - 1) P gf capt.toArray (λx=>(encs x).toArray) (LwC w.heap.size L) S Sp N w)
  (I:List α->OZ->Prop) (hI:∀s,Yt w.heap.size (I s)) (X:Exit->List α->OZ->Prop) (hX:∀e s,Yt w.heap.size (X e s)) (h0:I [] w) (A:Fr->α->Fr->OZ->Prop) (hA:∀x E,Yt w.heap.size (A f x E))
  (he:∀l pre x W,I pre W->WG (some l) (m - 1 - 1) P n assign (QcX (λhb E W'=>hb=[]/\KJ w.heap.size L W W'/\XH L W W'/\I pre W'/\A f x E W') (λ_ _ _ _=>False)) [] (QcV f ps (encs x)) W)
  (hf:∀l pre x E W,I pre W->A f x E W->pre.length<N->WG (some l) (m - 1 - 1) P n body (rdC w.heap.size L I X (pre++[x]) W) [] E W)
  (hq:∀D xs W,w.heap.size<=D->S xs->I xs W->W.heap[D]?=some (.deferred (some []))->Q .normal (D::ds) f W)
  (hh:∀D e pre W,w.heap.size<=D->Sp pre->X e pre W->W.heap[D]?=some (.deferred (some []))->(e=.ret\/∃i,e=.exit i)->Q e (D::ds) f W):
  WG none m P n (.rangeFunc g ps.toArray assign body) Q ds f w:=by
 unfold WG at he hf ⊢;intro a J;have eg:∀args w,(callFunc gf args).run P w=.ok (.enter gf args) w:=by
  intro args w;have h1:¬fn.name = "runtime.NumGoroutine" := by simpa using hF.nm
  have O:¬fn.body=none:=by have:=hF.b;intro e;rw[e]at this;cases this
  simp[callFunc,hF.f,h1,O]
 have keep:∀{W W':OZ},KJ w.heap.size L W W'->KeepsFrom w.heap.size W W':=λh=>⟨h.lw.size,λk o _ T ho=>h.other k o T ho⟩;refine wpIn_rangeFunc_ownH (F:=fen none) U h1 (gf:=gf) (lb:=capt.toArray) (by rw[J.eval];exact hg) Z eg hn (λh k=>h.D k)
  (λW l o o' hl ho hs _=>⟨⟨U,U,U,oe,λk T _=>World.putObj_heap_other oa⟩,λk o2 _ T hc=>by
   have ht:k≠l:=λe=>by subst e;rw[ho]at T;cases T;rw[hs]at hc;cases hc
   rw[World.putObj_heap_other ht];exact T⟩) (Below.refl _ _) (λx=>by simp[hm x]) I
  (λc pre W=>match c with| .ret=>X .ret pre W| .exit i=>X (.exit i) pre W|_=>False) (Yt.own hI) (λc=>Yt.own λs=>?_) h0
  (λx V W=>∃E,Y8 n [] V E/\A f x E W) (λx V=>Yt.own λ_=>Yt.ex λE=>Yt.and (Yt.pure _) (hA x E)) ?_ ?_ ?_ ?_
 ·cases c <;> first|exact hX _ s|exact Yt.pure _
 ·intro l pre x W K hi hK;have hr:Y8 n [] { tmps:=(ps.toArray.zip (encs x).toArray).foldl (λt (p,v)=>t.setIfInBounds p v) a.tmps,defers:=[] } (QcV f ps (encs x)):=by
   have O:Y8 n [] { a with defers:=[] } f:=⟨J.size,U,J.get⟩
   have H:=UZ ps (encs x) _ _ O hp;have e:(ps.toArray.zip (encs x).toArray).foldl (λt (p,v)=>t.setIfInBounds p v) a.tmps=(ps.zip (encs x)).foldl (λt (x:Nat×O0)=>t.setIfInBounds x.1 x.2) a.tmps:=oe
   rw[e];exact H
  refine wpIn_mono (he l pre x W hi _ hr) ?_;rintro e V W' ⟨hb,E,O,_,H⟩;cases e with
  | normal=>obtain⟨rfl,h4,hu,G,h6⟩:=H;exact hK V W' (keep h4) ⟨h4.lw,hu⟩ G ⟨E,O,h6⟩
  | exit id=>exact H.elim
  | goto l=>exact H.elim
  | ret=>exact H.elim
  | panic ch=>exact H.elim
  | outgrown=>exact H.elim
 ·rintro l pre x V W _ _ hi ⟨E,O,H⟩ hv;refine wpIn_mono (hf l pre x E W hi H hv V O) ?_;rintro e hw W' ⟨hb,hy,h4,_,G⟩;cases e with
  | normal=>exact⟨keep G.1,⟨G.1.lw,G.2.1⟩,G.2.2⟩
  | exit id=>exact⟨keep G.1,G.2⟩
  | goto l=>exact G.elim
  | ret=>exact⟨keep G.1,G.2⟩
  | panic ch=>exact G.elim
  | outgrown=>exact G.elim
 ·intro D xs W hD Y hi hd;exact⟨D::ds,f,⟨J.size,by rw[show coll (D::ds)={ target:=.collected D,args:=#[] }::coll ds from rfl,J.defers],J.get⟩,λ_ _=>rfl,hq D xs W hD Y hi hd⟩
 intro D c pre W hD Y hx hd;have hj:Y8 n (D::ds) { a with defers:={ target:=.collected D,args:=#[] }::a.defers } f:=⟨J.size,by rw[show coll (D::ds)={ target:=.collected D,args:=#[] }::coll ds from rfl,J.defers],J.get⟩
 cases c with
 | ret=>exact wpIn_ret ⟨_,f,hj,λ_ _=>U,hh D .ret pre W hD Y hx hd (.inl U)⟩
 | exit i=>exact wpIn_exit ⟨_,f,hj,λ_ _=>U,hh D (.exit i) pre W hD Y hx hd (.inr ⟨i,U⟩)⟩
 | _=>exact hx.elim
theorem xy2 {m:Nat}{rest:xA}{pS:String}{x z:O1}{at_:Array Nat}{l:Nat}{R:Ending->OZ->Prop}
  (hx:ev f x=.func (.yield l) #[] #[]) (E:YieldAt (fen none) (m - 1) P l #[ev f y,ev f z] w R) (hK:∀e w',R e w'->∃v,e=.returned v/\JK P m ops K rest (QY f d v) w')
  (G:Z4 ops f ⟨d,.call ⟨.value x,#[y,z],at_⟩,ty,pS,af,gd⟩=true:=by rfl):
  JK P m ops K (⟨d,.call ⟨.value x,#[y,z],at_⟩,ty,pS,af,gd⟩::rest) f w:=by
 obtain⟨fn,tmps,assign,body,H,I⟩:=E;have J:(execOp (ev f) ⟨d,.call ⟨.value x,#[y,z],at_⟩,ty,pS,af,gd⟩).run P w=.ok (.round l fn tmps assign body) w:=by
  simp[execOp,resolve,hx,Deferred.ofValue,invoke,H]
 unfold JK;rw[G];simp only[XOY,J,upY,cond_true];exact I.mono λe w' h=>by obtain⟨v,rfl,O⟩:=hK e w' h;exact O
def wrf (rq:List XG)(rs:LI):LI->List (Int×Int)
 | []=>[]
 | v::l=>if 0<=rfr v 0 rq rs then(v,rfr v 0 rq rs)::wrf rq rs l else wrf rq rs l
theorem Qa9 (rq:List XG)(rs:LI)(v:Int):∀l,wrf rq rs (l++[v])=wrf rq rs l++if 0<=rfr v 0 rq rs then[(v,rfr v 0 rq rs)]else[]
 | []=>by simp only[Oj,wrf]
 | a::l=>by
  simp only[Ob,wrf,Qa9 rq rs v l];by_cases h:0<=rfr a 0 rq rs
  ·rw[OS h,OS h];rfl
  rw[OR h,OR h]
theorem VQ (rq:List XG)(rs:LI)(b:LI):∀a,wrf rq rs (a++b)=wrf rq rs a++wrf rq rs b
 | []=>rfl
 | x::a=>by
  simp only[Ob,wrf,VQ rq rs b a];by_cases h:0<=rfr x 0 rq rs
  ·rw[OS h,OS h];rfl
  rw[OR h,OR h]
theorem Qky (rq:List XG)(rs:LI)(l:LI)(k:Nat):(wrf rq rs (l.take k)).length<=(wrf rq rs l).length:=by
 have h:=VQ rq rs (l.drop k) (l.take k);rw[MB]at h;rw[h,Lj];omega
theorem Qg4 {rq:List XG}{k:Nat}(h:k<l.length):wrf rq rs (l.take (k+1))=wrf rq rs (l.take k)++if 0<=rfr (O4 l k) 0 rq rs then[(O4 l k,rfr (O4 l k) 0 rq rs)]else[]:=by
 rw[Ll h,Qa9,ZI h]
theorem qY {rq:List XG}{rs:LI}{x:Int×Int}:∀{l:LI},x∈wrf rq rs l↔x.1∈l/\0<=x.2/\x.2=rfr x.1 0 rq rs
 | []=>by simp[wrf]
 | v::l=>by
  rw[wrf];have ih:=qY (rq:=rq) (rs:=rs) (x:=x) (l:=l);by_cases h:0<=rfr v 0 rq rs
  ·rw[OS h,Li,ih,Li];constructor
   ·rintro(rfl|⟨E,G⟩)
    ·exact⟨.inl U,h,U⟩
    exact⟨.inr E,G⟩
   rintro⟨E|E,G,H⟩
   ·exact .inl (by rw[<-E];exact Prod.ext_iff.2 ⟨U,H⟩)
   exact .inr ⟨E,G,H⟩
  rw[OR h,ih,Li];constructor
  ·rintro⟨E,G⟩;exact⟨.inr E,G⟩
  rintro⟨E|E,G,H⟩
  ·exact OU (by rw[<-E,<-H];exact G) h
  exact⟨E,G,H⟩
theorem qB {st:Int}{vr:O0}(J:vr.cells=#[vr]):
  Q5 prog 138 [.pointer (some ⟨b,0,none⟩),oF oG st,vr] w λr w'=>O3 [] w w'/\∃b1 b2 E,r=.func (.func 207) #[] #[.pointer (some ⟨b1,0,none⟩),.pointer (some ⟨b2,0,none⟩),.pointer (some ⟨E,0,none⟩)] /\
   w.heap.size<=b1/\w.heap.size<=b2/\w.heap.size<=E/\Q7 w'.heap b1 266 [.pointer (some ⟨b,0,none⟩)]/\Q7 w'.heap b2 3 [oF oG st]/\Q7 w'.heap E 56 [vr]:=by
 refine Zs func138 ntmps138 results138 ?_;refine Qe<|Qa<|QS (us:=[.pointer (some ⟨b,0,none⟩)]) U λE w1 I O S=>Qa<|QS (us:=[oF oG st]) U λT w2 G hb V=>Qa<|QS (us:=[vr]) J λY w3 H hc ha=>x Qk <|
  xe ?_
 have he:=I.size;have hf:=G.size;refine Qe<|x ZC<|Qc ?_;exact Ql ⟨[_],La,(I.D G).D H,E,T,Y,U,O,oa,oa,(S.I G).I H,V.I H,ha⟩
theorem Um {O m:Nat}{q:Sty}{vr:O0}{es:LI}{st:Int}{fl:xt}(hs:Q7 w.heap b1 266 [.pointer (some ⟨b,0,none⟩)])(h5:Q7 w.heap b2 3 [oF oG st])(h6:Q7 w.heap O 56 [vr])
  (h7:b1∉L) (h8:O∉L) (hA:∀x∈L,x<w.heap.size) (hS:JM L b w.heap q) (hr:QQ L w.heap vr rs) (hB:∀x∈q.c.rq,ZJ x.p.a) (hv:Vt (O5 q.c.V.rq) rs) (G:cks q.p.a st=0) (ht:enb q.p.a st=es) (hg:wrf q.c.V.rq rs es=fl):
  SeqStopsK (fen none) m prog 207 #[.pointer (some ⟨b1,0,none⟩),.pointer (some ⟨b2,0,none⟩),.pointer (some ⟨O,0,none⟩)] (λx:{ x:Int×Int // x∈fl }=>[oF oG x.1.1,oF oG x.1.2].toArray) (LwC w.heap.size L)
   (λys=>ys.map (·.1)=fl) (λpre=>pre.map (·.1) <+: fl) fl.length w:=by
 intro l J Jx W hC hJ hD hY h0;have ha:O3 [] w W:=O3.of_below hC;have ab:∀{ys:List { x:Int×Int // x∈fl }} {W1 W2:OZ},J ys W1->O3 [] W1 W2->J ys W2:=λ{ys W1 W2} hj hb=>hJ ys W1 W2 none hj ⟨hb.os,hb.tape,hb.output,hb.size,λk hk _=>hb.block k hk oe⟩ (λr e=>by cases e);have hE:es.length<=1099511627776:=by
  have E:=hS.p.ed.le;have h2:=K5 q.p.a.ed st;rw[<-ht];unfold enb;rw[Lh];omega
 have hF:=Qky q.c.V.rq rs es;rw[hg]at hF;have key:Q5 prog 207 [.func (.yield l) #[] #[],.pointer (some ⟨b1,0,none⟩),.pointer (some ⟨b2,0,none⟩),.pointer (some ⟨O,0,none⟩)] W (λ_ W'=>(∃ys,ys.map (·.1)=fl/\J ys W')\/(∃pre,pre.map (·.1) <+: fl/\Jx pre W')):=by
  refine Q5.of_G m func207 U ntmps207 results207 oe ?_;have hG:=hs.I ha;have hH:=h5.I ha;have hu:=hS.I ha;refine Zi<|yB (O3 [] W) [oD 0,oD 1,oD 2,oD 3,oD 4,oE 5,oD 6,oD 7,oD 8,oD 9,oD 10] mixed ol ol od (O3.C _ _) ?_;refine pq (λ_ G=>Qq (hG.I G) U U)<|p (YO U)<|p (QP U)<|pq (λ_ G=>Zl (us:=ZS q.p) (hu.B.I G) U U U)<|pq (λ_ G=>Qq (hH.I G) U U)<|pk<|xf<|(Qd2 (hu.p.I (O3.C _ _)) st).mono ?_;rintro r1 w1 ⟨hI,ve,rfl,_,hh⟩;have hh:=hh G;have ho:=(O3.C [] W).D hI;refine⟨ho,?_⟩;refine p Qy<|p (λ_=>Zp U U)<|p (λ_=>Zp U U)<|p ZH<|p ZH<|pe ?_;have hN:=ha.size;have hO:({ W with drawn:=W.drawn+1 }:OZ).heap.size=W.heap.size:=rfl
  rw[ht]at hh;have hw:QQ L w1.heap ve es:=Qu.ints hh hE (λx hx=>ou (hA x hx));refine Zi<|QM ol ol ?_;refine Qb<|QL hw U<|Qb<|xe<|Z1<|qy (α:=Nat×List { x:Int×Int // x∈fl }) [(8,9),(21,38)] (λz=>[(21,oF oG z.1)]) (λz ds W'=>ds=[]/\z.1<=es.length/\O3 L w W'/\QQ L W'.heap ve es/\z.2.map (·.1)=wrf q.c.V.rq rs (es.take z.1)/\J z.2 W') (λz=>es.length - z.1) ol (0,[]) La
   ⟨U,Ln _,(ha.D ho).any,hw,U,ab h0 ho⟩ ?_
  rintro⟨k,ys⟩ g ds w2 ⟨rfl,hk,S,hi,T,hl⟩;simp only[]at hk hi T hl;refine Zi<|QM ol ol ?_;refine QX U U<|xe<|Zi<|j5 U (λhp=>?_) (λhp=>?_)
  ·refine Vm ?_;have hK:es.length<=k:=by have hm:¬(k:Int)<(es.length:Int):=hp;omega
   rw[Ls hK,hg]at T;exact⟨λ_ h=>(by cases h),MH,[],λW' H=>⟨Z,.inl ⟨ys,T,ab hl H⟩⟩⟩
  refine YH ?_;have V:k<es.length:=by have hm:(k:Int)<(es.length:Int):=hp;omega
  have I:=Qg4 (rq:=q.c.V.rq) (rs:=rs) V;have hy:O4 es k∈es:=by rw[<-ZI V];exact Lm V
  refine Zk (O4 es k) λv hz=>?_;rw[hz]at I hy;refine Zk (rfr v 0 q.c.V.rq rs) λj hj=>?_;rw[hj]at I;refine Zi<|Z1<|Zi<|QM ol ol ?_;refine xic (i:=k) hi U U V λhP hm=>?_;rw[hz]at hm;refine x (QD hm U)<|Qc<|Zi<|QM ol ol ?_;refine Y2 (hs.J S h7) U U<|Y2 (h6.J S h8) U U<|Qb<|Qa<|xf<|(Qc8 (v:=v) (hS.st S) (hr.st S) hB hv).mono ?_;rintro r3 w3 ⟨h3,Y⟩;rw[hj]at h3;subst h3;refine Qc<|Zi<|VC ol ?_;refine JK.pre3 ?_;refine Qb<|xb (Yl U U) (λhq=>?_) (λhq=>?_)
  ·have hn:0<=j:=hq;have hf:(v,j)∈fl:=by rw[<-hg];exact qY.2 ⟨hy,hn,hj.symm⟩
   rw[OS hn]at I;have h4:(ys++[(⟨(v,j),hf⟩:{ x:Int×Int // x∈fl })]).map (·.1) <+: fl:=by
    rw[Lp,T,show[(⟨(v,j),hf⟩:{ x:Int×Int // x∈fl })].map (·.1)=[(v,j)] from rfl,<-I,<-hg];have h9:=VQ q.c.V.rq rs (es.drop (k+1)) (es.take (k+1));rw[MB]at h9;exact⟨_,h9.symm⟩
   have hL:ys.length<fl.length:=by have E:=h4.length_le;rw[Lh,Lj,LC]at E;omega
   refine Qb<|xe<|JK.pre3 ?_;refine Qb<|Qb<|Qb<|xe<|xy2 (l:=l) U (hY ys ⟨(v,j),hf⟩ w3 (ab hl Y) hL) λen W3 hM=>Or.elim hM (λE=>⟨.bool true,E.1,?_⟩) (λE=>⟨.bool false,E.1,?_⟩)
   ·refine JK.of_XL<|x (Zz U)<|QK U<|xe<|VD U<|YH ?_;refine QM ol ol ?_;refine QN U U<|Qb<|xe ?_;exact⟨(k+1,ys++[⟨(v,j),hf⟩]),oh,La,U,V,(S.D Y).lw E.2.2.lw,(hi.I Y).cst E.2.2.cst E.2.2.lw.size,by simp only[];rw[I,Lp,T];rfl,E.2.1⟩
   refine JK.of_XL<|x (Zz U)<|QK U<|xe<|QaX U ?_;refine Vl ⟨λ_ h=>(by cases h),MH,[],λW' H=>⟨Z,.inr ⟨ys++[⟨(v,j),hf⟩],h4,?_⟩⟩⟩;exact hD _ W3 W' none E.2 ⟨H.os,H.tape,H.output,H.size,λk hk _=>H.block k hk oe⟩ (λr e=>by cases e)
  have hn:¬0<=j:=hq;rw[OR hn,LS]at I;refine Qb<|xe<|JK.of_XL<|Qr<|Qr<|Qr<|Qr<|Qr<|QK U<|xe<|VD U<|YH ?_;refine QM ol ol ?_;refine QN U U<|Qb<|xe ?_;exact⟨(k+1,ys),oh,La,U,V,S.D Y,hi.I Y,by simp only[];rw[I,T],ab hl Y⟩
 refine(callsIn_wide (n:=m)).2 ?_;have ea:(#[.func (.yield l) #[] #[]]++[.pointer (some ⟨b1,0,none⟩),.pointer (some ⟨b2,0,none⟩),.pointer (some ⟨O,0,none⟩)].toArray:Array O0)=#[.func (.yield l) #[] #[],.pointer (some ⟨b1,0,none⟩),.pointer (some ⟨b2,0,none⟩),.pointer (some ⟨O,0,none⟩)]:=oe
 rw[ea];unfold Q5 at key;refine Calls.mono key λe w' he=>?_;cases e with
 | returned v=>exact⟨⟨v,U⟩,he⟩
 | panicked c=>exact he.elim
 | outgrown=>exact he.elim
section
variable {pS:String}
theorem YM [h1:Ag P t sz]{x:O1}{cs':LV}(E:Q7 w.heap b T cs)(hx:ev f x=.pointer (some ⟨b,o,none⟩))(H:ev f y=.agg us.toArray)(hl:us.length=sz)(O:o+sz<=cs.length)(I:Zj us)(J:cs.take o++us++cs.drop (o+sz)=cs')
  (hK:∀w',O3 [b] w w'->Q7 w'.heap b T cs'->K (QY f d undef) w'):XO P ⟨d,.store t x y,ty,pS,af,gd⟩ f w K:=by
 have G:=run_storeCells_at P b o T us 0 cs.toArray w E (by simp;omega) I.all;subst hl;simp only[Oz,J]at G;refine xk (w':=w.setRow b cs'.toArray) ?_ (hK _ (O3.setRow _ _ _) (XM E));simp[execOp,hx,H,Instr.storeAt,Instr.sureAddr,storeVar,Vo (sz:=us.length),Value.cells,G]
end
instance:Bw prog 271 [nS,nS,nS,nS,nS,nS,oF oG 0,nS,nS,nS,nS,oF oG 0,nS,nS,nS,nS,nS,nS,.map none] [(0,5),(5,4),(9,1),(10,4),(14,1),(15,3),(18,1)]:=⟨od,og⟩
theorem YL.shape {v:O0}{c:Int}(h:YL N H aa v vt c):∃(a:Zd) (va vm ve:O0) (qs:List TV),v=.agg #[va,oF oG a.st,vm,ve]/\Zj [va,oF oG a.st,vm,ve]/\vt.oneCell'=true /\
  (c=0->xh aa=some (a,qs.map (·.2))/\UT aa=0/\∀L:LN,(∀b∈L,b<N)->ZK L H va vm ve a/\JL L H vt qs):=by
 by_cases G:c=0
 ·obtain⟨⟨va,vm,ve,I,E⟩,⟨qs,T,O⟩,V,Y⟩:=h.good G;have J:=E [] oe;exact⟨syA aa,va,vm,ve,qs,I,⟨J.al.one,U,J.mr.one,J.ed.one,Z⟩,(O [] oe).arr.one,λ_=>⟨by rw[T];exact V,Y,λL S=>⟨E L S,O L S⟩⟩⟩
 obtain⟨I,E⟩:=h.bad G;exact⟨⟨[],0,[],[]⟩,ZD,ZD,ZD,[],I,oC,by rw[E];rfl,λe=>OU e G⟩
def plE (c:ZG):Int:=if Zm c≠0 then Zm c else Qbf (O5 c.co)
theorem j0.shape {N:Nat}{H:xx}{c:ZG}{v vt:O0}{e:Int}(h:j0 N H c v vt e):e=plE c/\∃(a:Zd) (va vm ve:O0) (qs:List TV),v=.agg #[va,oF oG a.st,vm,ve]/\Zj [va,oF oG a.st,vm,ve]/\vt.oneCell'=true /\
  (e=0->Zm c=0/\xh (O5 c.co)=some (a,qs.map (·.2))/\UT (O5 c.co)=0/\∀L:LN,(∀b∈L,b<N)->ZK L H va vm ve a/\JL L H vt qs):=by
 unfold j0 at h;unfold plE;by_cases E:Zm c≠0
 ·rw[OS E]at h ⊢;obtain⟨G,I,J⟩:=h;exact⟨G,⟨[],0,[],[]⟩,ZD,ZD,ZD,[],I,oC,by rw[J];rfl,λe=>OU (G.symm.D e) E⟩
 rw[OR E]at h ⊢;obtain⟨a,va,vm,ve,qs,G,I,J,O⟩:=h.shape;exact⟨h.e,a,va,vm,ve,qs,G,I,J,λe=>⟨Lo.1 E,O e⟩⟩
theorem QkM (c:ZG):YN c=if plE c≠0 then plE c else Qbf (O5 c.co++O5 c.rq):=by
 rw[QkN];unfold plE;by_cases h:Zm c≠0
 ·rw[OS h,OS h,OS h]
 rw[OR h,OR h]
theorem Qmo {ps:List AV}(h:∀p∈ps,ZK L H p.va p.vm p.ve p.a):∀u∈ps.flatMap ZS,u.oneCell'=true:=by
 intro u I;obtain⟨p,J,G⟩:=Mi.1 I;have E:=h p J;simp only[oK,oJ,or_false]at G;rcases G with rfl|rfl|rfl|rfl
 ·exact E.al.one
 ·rfl
 ·exact E.mr.one
 exact E.ed.one
theorem Qod {F:LN->Array Obj->Prop}(st:∀{L:LN}{w w':OZ},F L w.heap->O3 L w w'->F L w'.heap)(up:∀{L L':LN}{H:xx},F L H->(∀b∈L',b∈L\/H.size<=b)->F L' H)
  (h:∀L:LN,(∀x∈L,x<N)->F L w.heap) (E:b<N) (G:O3 [b] w w'):∀L:LN,(∀x∈L,x<N)->F L w'.heap:=λL I =>
 up (st (h (b::L) (λx hx=>by
  rcases Li.1 hx with rfl|hx
  ·exact E
  exact I x hx)) (G.mono (λx hx=>by simp only[oI]at hx;subst hx;exact Lt))) (λx hx=>.inl (Lk _ hx))
theorem qw.nil (n:Nat):qw n [] []:=λu _ _=>by simp[O8]
theorem Qcx {c:CL}(h0:ZF L w.heap c)(h6:Kb w 4096):
  Q5 prog 134 [c.val] w λr w'=>O3 [] w w'/\∃vp,r=.tuple #[vp,oF oG (YN c.V)]/\(YN c.V≠0->vp=.pointer none) /\
   (YN c.V=0->∃b q,vp=.pointer (some ⟨b,0,none⟩)/\q.c=c/\QqS q/\JM [] b w'.heap q/\∀L:LN,(∀x∈L,x<w.heap.size)->ZK L w'.heap q.s.va q.s.vm q.s.ve q.s.a/\(ZF L w.heap c->JM L b w'.heap q)):=by
 have h:=h0.up (L':=[]) oe;have hE:=QkM c.V;refine Zk (YN c.V) λE hEq=>?_;rw[hEq]at hE ⊢;refine Zs func134 ntmps134 results134 ?_;refine Qe<|Qa<|QS (us:=c.cells) U λb1 w1 gv mq h7=>x Qk<|Qc ?_;have ms:=h7.lt;refine Qe<|Q2 h7 U U<|x (Zt [(0,c.cells)] ⟨U,U,Z⟩)<|Qa<|QS (us:=[c.ve,c.vc,c.vr,c.vx,c.vk,nS,oF oG 0,nS,nS,nS,nS,oF oG 0,nS,nS,nS,nS,nS,nS,.map none]) U λG w2 hS mt I=>Qc ?_;have h8:=gv.D hS;have gw:=I.lt;have hT:=h7.I hS;have h2:=h.I h8;have hge:w.heap.size<=G:=oa
 have mu:b1≠G:=oa
 refine Qe<|Qc<|Qd<|Qm<|Qb<|Q2 hT U U<|Qa<|xf<|(Qj6 h2 (h6.I h8)).mono ?_;rintro r3 w3 ⟨hi,v3,vq,e3,rfl,hP⟩;obtain⟨hA,pa,pva,pvm,pve,qs,rfl,gx,gy,gz⟩:=hP.shape;have g0:=h8.D hi;refine Qb<|Q8 U U<|Q8 U U<|Q8 U U<|Yb U<|Q0 U<|Qa<|YM (us:=[pva,oF oG pa.st,pvm,pve]) (I.I hi) U U U oe gx rfl λw4 g2 I =>
  Yb rfl<|Q0 U<|Qa<|QA (j:=9) (u:=vq) I U U oe gy λV g3 I=>Qc ?_
 have hj:O3 [G] w3 V:=g2.Q g3;have hn:O3 [] w V:=g0.O hj hge;refine Qm<|ZA U U<|xe<|QZ rfl (λho=>?_) (λho=>?_)
 ·have g4:plE c.V≠0:=by rw[<-hA];exact ho
  rw[OS g4,<-hA]at hE;subst hE;refine Qm<|x Qk<|Qc ?_;exact Ql ⟨[_,_],oA,hn,.pointer none,U,λ_=>U,λe=>OU e ho⟩
 have hU:e3=0:=Lo.1 ho;rw[OR (by rw[<-hA,hU];decide)]at hE;obtain⟨hV,hB,mv,g5⟩:=gz hU;have hf:=Z5 hV;refine Qh ?_;have hC:=(hT.I hi).J hj (by simp;omega);have h5:=h.I hn;have mw:=h.co.arr.le;have my:=h.rq.arr.le;have mz:c.co.length<=8:=by have:=hf.c8;have e:c.V.co.length=c.co.length:=Lh ..;omega
 have m2:c.co.length+c.rq.length<=12:=by have:=hf.cr;have e:c.V.co.length=c.co.length:=Lh ..;have e':c.V.rq.length=c.rq.length:=Lh ..;omega
 refine Qd<|Qd<|QR (O3 [] V) [oD 0,oD 1,oD 2,oD 3,oD 5,oD 6,oE 4,oE 7,oE 8,oE 9,oD 10,oD 11,oD 12,oD 13,oD 14,oD 15,oE 16,oD 17,oD 18,oE 19,oD 20] mixed ol od (O3.C _ _) ?_;refine p Qy<|p Qy<|p (QP U)<|pq (λ_ hc=>Qq (hC.J hc oe) rfl rfl)<|p (QP rfl) <|
  pq (λ_ hc=>Qq (hC.J hc oe) rfl rfl)<|pk<|xf<|(Qdq (h5.co.I (O3.C _ _))).mono ?_
 rintro r6 w6 ⟨hW,hX⟩;have hD:=(O3.C [] V).D hW;refine⟨hD,?_⟩;refine pk<|xf<|(Qdq (h5.rq.I hD)).mono ?_;rintro r7 w7 ⟨hF,g6⟩;have hY:=hD.D hF;refine⟨hY,?_⟩;have m3:=hW.size;have m4:=hF.size;have m5:({ V with drawn:=V.drawn+1 }:OZ).heap.size=V.heap.size:=rfl
 have g7:Zv [] w7.heap r7 (c.rq.map (·.p)).length 4 ((c.rq.map (·.p)).flatMap ZS):=QH g6 (by rw[Lh];omega) oe;have g8:=Qi hX;refine pk<|Qas (Qp hX hF) U g7 U (Qmo λp S=>by
   obtain⟨q,T,rfl⟩:=LD.1 S;exact(h.rq.each q T)) (by rw[Lh,Lh];omega) oa λv8 w8 hZ g9 m6=>?_
 have hr:O3 [] V w8:=hY.then g9 (λb hb=>.inr (ou (g8 b hb).1));refine⟨hr,?_⟩;have hG:=hn.D hr;have m7:=hr.size;have ka:Km [] w8.heap v8 (c.co.map (·.p)++c.rq.map (·.p)):=by
  rw[<-Lj,<-LA]at hZ;exact QiH hZ (by rw[Lj,Lh,Lh];omega) oe (λp S=>by
   rcases Lc.1 S with S|S
   ·obtain⟨q,T,rfl⟩:=LD.1 S;exact(h.co.each q T).I hG
   obtain⟨q,T,rfl⟩:=LD.1 S;exact(h.rq.each q T).I hG)
 have kb:∀p∈c.co.map (·.p)++c.rq.map (·.p),ZJ p.a:=λp S=>by
   rcases Lc.1 S with S|S
   ·obtain⟨q,T,rfl⟩:=LD.1 S;exact hf.co q.it (LK T)
   obtain⟨q,T,rfl⟩:=LD.1 S;exact hf.rq q.it (LK T)
 refine pk<|xf<|(QcH (km:=4096) ka (h6.I hG) og (Qer kb)).mono ?_;rintro r9 w9 ⟨kc,v9,vt,e9,rfl,hR⟩;rw[Lp,Qfq,Qmp]at hR;have ga:=hR.e;obtain⟨sa,sva,svm,sve,ts,rfl,ke,kf,kg⟩:=hR.shape;have hH:=hr.D kc;refine⟨hH,?_⟩;refine p Qy<|p (λ_=>Zp U U)<|p (λ_=>Zp U U)<|p (λ_=>Zp U U)<|p (YO U) <|
  p (QP rfl)<|pkl (hl:=by kernel_rfl)<|YM (us:=[sva,oF oG sa.st,svm,sve]) (I.I hH) U U U oe ke rfl λm8 kh I=>p (YO rfl)<|p (QP rfl) <|
  pkl (hl:=by kernel_rfl)<|QA (j:=14) (u:=vt) I U U oe kf λht ki I=>p ZH<|pe ?_
 have gb:O3 [G] w9 ht:=kh.Q ki;have hu:O3 [G] V ht:=hH.any.Q gb;have hv:O3 [] w ht:=hn.O hu hge;refine Qm<|ZA U U<|xe<|QZ rfl (λhI=>?_) (λhI=>?_)
 ·rw[<-ga]at hE;subst hE;refine Qm<|x Qk<|Qc ?_;exact Ql ⟨[_,_],oA,hv,.pointer none,U,λ_=>U,λe=>OU e hI⟩
 have gc:e9=0:=Lo.1 hI;have gg:E=0:=by rw[hE,<-ga,gc]
 obtain⟨kj,m9,kk⟩:=kg gc;refine Qh ?_;have kn:=hC.J hu (by simp;omega);refine Qm<|Qb<|Q2 kn U U<|Qa<|xf<|(jT (h.I hv)).mono ?_;rintro pc Y ⟨hh,vs,vx,vk,qx,ks,rfl,ko,kq,gh⟩;have hJ:=gh [] oe;refine Qa<|Yw JB λbm kr gi pd kt=>Yb U<|Q0 U<|Qa<|YM (us:=[vs,vx,vk]) ((I.I hh).I gi) U U U oe ⟨hJ.1.one,hJ.2.1.arr.one,hJ.2.2.arr.one,Z⟩ rfl λpf gj I =>
  Yb rfl<|Q0 U<|Qa<|QA (j:=18) (u:=.map (some bm)) I U U oe rfl λhK gk I=>xe ?_
 have pg:=hv.size;have ph:=hh.size;have pj:=hu.size;have pm:=hj.size;have pn:=hi.size;have po:G<Y.heap.size:=oa
 have ku:bm≠G:=oa
 have gl:O3 [G] Y hK:=(gi.any.Q gj).Q gk;have kv:O3 [G] kr hK:=gj.Q gk;have kw:Yd JB hK.heap bm []:=kt.J kv (oz ku);have kx:O3 [G] w3 Y:=(hj.Q hu).D hh;have kz:O3 [G] w9 Y:=gb.D hh;have k0:=hv.D hh;have fP:∀{w':OZ},O3 [G] Y w'->∀L:LN,(∀x∈L,x<w2.heap.size)->ZK L w'.heap pva pvm pve pa/\JL L w'.heap vq qs:=λJ =>
  Qod (F:=λL H=>ZK L H pva pvm pve pa/\JL L H vq qs) (λh J=>⟨h.1.st J,h.2.st J⟩) (λh O=>⟨h.1.up O,h.2.up O⟩) g5 gw (kx.Q J)
 have fS:∀{w':OZ},O3 [G] Y w'->∀L:LN,(∀x∈L,x<w8.heap.size)->ZK L w'.heap sva svm sve sa/\JL L w'.heap vt ts:=λJ =>
  Qod (F:=λL H=>ZK L H sva svm sve sa/\JL L H vt ts) (λh J=>⟨h.1.st J,h.2.st J⟩) (λh O=>⟨h.1.up O,h.2.up O⟩) kk oa (kz.Q J)
 have fC:∀{w':OZ},O3 [G] Y w'->∀L:LN,(∀x∈L,x<ht.heap.size)->QQ L w'.heap vs (szs c.V.co)/\yD L w'.heap vx qx/\yz L w'.heap vk ks:=λJ =>
  Qod (F:=λL H=>QQ L H vs (szs c.V.co)/\yD L H vx qx/\yz L H vk ks) (λh J=>⟨h.1.st J,h.2.1.st J,h.2.2.st J⟩) (λh O=>⟨h.1.up O,h.2.1.up O,h.2.2.up O⟩) gh oa J
 have gm:=(qZ (YR hf.co) hB).1;have k4:=(Jp (YR hf.co) hB).1.nd;simp only[]at gm;have k5:(O5 c.V.co).length=c.co.length:=by unfold O5;show((c.co.map IV.it).map _).length=_;simp
 have gn:=(fP gl [] oe).2;have pp:=gn.arr.le;refine Qd<|Qm<|Yb U<|Qs U I U U<|QL gn.arr U<|Qb<|xe<|Qg<|QC (α:=Nat×List (ByteArray×O0)) [(6,7),(61,73)] (λz=>[(61,oF oG z.1)]) (λz w'=>z.1<=qs.length/\O3 [G] Y w'/\Q7 w'.heap G 271 [c.ve,c.vc,c.vr,c.vx,c.vk,pva,oF oG pa.st,pvm,pve,vq,sva,oF oG sa.st,svm,sve,vt,vs,vx,vk,.map (some bm)]/\Yd JB w'.heap bm z.2/\qw c.co.length z.2 ((qs.take z.1).map (·.2))) (λz=>qs.length - z.1) ol (0,[]) La
  ⟨Ln _,gl,I,kw,qw.nil _⟩ ?_
 rintro⟨k,mm⟩ g hM ⟨hk,he,hw,hy,hz⟩;simp only[]at hk hy hz;have h3:O3 [] w hM:=k0.O he hge;refine Qe<|QX U U<|xe<|Qd<|QG U (λhN=>?_) (λhN=>?_)
 ·refine Qx ?_;have k6:qs.length<=k:=by have k7:¬(k:Int)<(qs.length:Int):=hN;omega
  rw[Ls k6]at hz;refine Qm<|x Qk<|Qc ?_;have aP:=fP he [] oe;have aS:=fS he [] oe;have aC:=fC he [] oe;refine Ql ⟨[_,_],oA,h3,.pointer (some ⟨G,0,none⟩),by rw[gg];rfl,λe=>OU gg e,λ_=>⟨G,⟨c,⟨pva,pvm,pve,pa⟩,vq,qs,⟨sva,svm,sve,sa⟩,vt,ts,vs,vx,vk,qx,ks,bm,mm⟩,U,U,⟨hV,hB,kj,ko,kq,hz⟩,⟨hw,oe,h.I h3,aP.1,aS.1,aP.2,aS.2,aC.1,aC.2.1,aC.2.2,oe,hy⟩,λL O=>?_⟩⟩;have bP:=fP he L (λb hb=>ou (O b hb));have bS:=fS he L (λb hb=>ou (O b hb));have bC:=fC he L (λb hb=>ou (O b hb));exact⟨bS.1,λk8=>⟨hw,λhm=>ou (O _ hm),k8.I h3,bP.1,bS.1,bP.2,bS.2,bC.1,bC.2.1,bC.2.2,λhm=>by have h9:bm<w.heap.size:=O bm hm;omega,hy⟩⟩
 have hg:k<qs.length:=by have k7:(k:Int)<(qs.length:Int):=hN;omega
 have go:=(fP he [] oe).2;have hO:=Lm hg;have hQ:(qs.take (k+1)).map (·.2)=(qs.take k).map (·.2)++[(qs[k]'hg).2]:=by rw[Ll hg,Lp];rfl
 have gp:(qs[k]'hg).2∉(qs.take k).map (·.2):=by
  have h1:((qs.take (k+1)).map (·.2)).Nodup:=by
   rw[NM];exact k4.sublist (List.take_sublist _ _)
  rw[hQ]at h1;intro hm;exact(My.1 h1).2.2 _ hm _ (Lb.2 U) U
 have k9:((qs.take k).map (·.2)).length=k:=by rw[Lh,Ly];omega
 refine Qh<|Qd<|Qg<|Qm<|O6 (g:=YE) VU go.arr U U hg λpu gq=>?_;refine Zk (qs[k]'hg) λq T=>?_;rw[T]at gq hO hQ gp;have ma:=go.each q hO;have gr:=gm q.2 (LK hO);have gs:=gr.bd (m:=4096) (λa ha=>(YR hf.co a ha).st1);have pw:q.2.length=c.co.length:=by rw[gr.1,k5]
 refine x (QD gq U)<|x Qk<|Qc<|QR (O3 [] hM) [oD 0,oD 1,oD 2,oD 3,oD 4,oD 6,oE 5,oE 7] mixed ol od (O3.C _ _) ?_;refine p Qy<|p (YO U)<|p (QP U)<|pq (λ_ hc=>Qq (hw.J hc oe) rfl rfl) <|
  p Qy<|p Qy<|pk<|xf<|(QaV (ma.I (O3.C _ _)) ((h6.I h3).I (O3.C _ _)) gs oa).mono ?_
 rintro pz p0 ⟨rfl,mf⟩;have h4:=(O3.C [] hM).D mf;refine⟨h4,?_⟩;refine pkl (hl:=by kernel_rfl)<|Xw (k:=KP q.2) (hy.I h4) U U λmg gt mh=>pe ?_;have mj:O3 [G] Y mg:=(he.D h4).O gt oa;have mo:=(hw.I h4).J gt (by simp;omega);have gu:=hz.add gp (λx hx=>(gs x hx).1);rw[k9]at gu;refine Qw<|QN U U<|Qb<|xe ?_;exact⟨(k+1,O9 mm (KP q.2) (oF oG (k:Int))),oh,La,hg,mj,mo,mh,by simp only[];rw[hQ];exact gu⟩
theorem zd {W:OZ}{base e:Nat}{v:O0}(h:W.ownsRow base e sz v n cs)(E:XH [] W W'):W'.ownsRow base e sz v n cs :=
 ⟨h.1,h.2.imp id λ⟨g,cap,cur,G,H,I,J⟩=>⟨g,cap,cur,G,H,E g _ oe I rfl,J⟩⟩
theorem XH.mono {W:OZ}(h:XH L W W')(E:∀b∈L,b∈L'):XH L' W W':=λk o G=>h k o (λH=>G (E k H))
theorem XH.nonc {W:OZ}(I:O3 X W W')(J:∀r∈X,∃o:Obj,W.heap[r]?=some o/\o.isCells=false):XH [] W W':=λk o _ E O =>
 (I.block k (LH.1 E).1 (λhx=>by
  obtain⟨S,G,H⟩:=J k hx;rw[E]at G;cases G;rw[O]at H;cases H)).D E
theorem Yt.cst {I:xw}(h:∀W W',I W->XH [] W W'->W.heap.size<=W'.heap.size->I W'):Yt B I:=λW W' _ hi E G=>h W W' hi (XH.nonc E (λr H=>(G r H).2)) E.size
theorem YA.cst {base:Nat}{av:LN}{W W':OZ}{v:O0}{n sz:Nat}{cs:LV}(h:YA base av W.heap v n sz cs)(E:Lg.XH [] W W')(G:W.heap.size<=W'.heap.size):YA base av W'.heap v n sz cs:=λL H=>(h L H).cst (E.mono oe) G
abbrev ZT (r:Rsn):LV:=[oF oG r.st,oF oG r.kd,oF oG r.ix,oF oG r.ev]
theorem QhB (r:Rsn):(ZT r).length=4:=rfl
structure Kl (base:Nat)(w:OZ)(v1 v2 v3 v4:O0)(cos rqs:List TV)(pls:LI)(fbs:List Rsn):Prop where
 o1:w.ownsRow base 56 1 v1 cos.length (cos.flatMap YE)
 o2:w.ownsRow base 56 1 v2 rqs.length (rqs.flatMap YE)
 o3:Qu 3 base w v3 pls
 o4:w.ownsRow base 223 4 v4 fbs.length (fbs.flatMap ZT)
 d12:Dj v1 v2
 d13:Dj v1 v3
 d14:Dj v1 v4
 d23:Dj v2 v3
 d24:Dj v2 v4
 d34:Dj v3 v4
 e1:∀p∈cos,YA base (ob v1++(ob v2++(ob v3++ob v4))) w.heap p.1 p.2.length 1 (p.2.map (.int .i64))
 e2:∀p∈rqs,YA base (ob v1++(ob v2++(ob v3++ob v4))) w.heap p.1 p.2.length 1 (p.2.map (.int .i64))
theorem qk {v:O0}:Dj (nS) v:=λb E=>by simp[ob]at E
theorem Kl.nil (base:Nat)(w:OZ):Kl base w (nS) (nS) (nS) (nS) [] [] [] []:=
 ⟨QJ _ _ _ _,QJ _ _ _ _,QJ _ _ _ _,QJ _ _ _ _,qk,qk,qk,qk,qk,qk,λp E=>(by cases E),λp E=>(by cases E)⟩
variable {base:Nat}{w7 w8:OZ}{v1 v2 v3 v4:O0}{cos rqs:List TV}{pls:LI}{fbs:List Rsn}
theorem Kl.I (h:Kl base w v1 v2 v3 v4 cos rqs pls fbs)(E:O3 [] w w7):Kl base w7 v1 v2 v3 v4 cos rqs pls fbs :=
 ⟨Qp h.o1 E,Qp h.o2 E,Qp h.o3 E,Qp h.o4 E,h.d12,h.d13,h.d14,h.d23,h.d24,h.d34,λp G=>(h.e1 p G).I E,λp G=>(h.e2 p G).I E⟩
theorem Kl.low {X:LN}(h:Kl base w v1 v2 v3 v4 cos rqs pls fbs)(E:O3 X w w7)(G:∀b∈X,b<base):Kl base w7 v1 v2 v3 v4 cos rqs pls fbs:=by
 have k:∀{e sz n:Nat} {v:O0} {cs:LV},w.ownsRow base e sz v n cs->w7.ownsRow base e sz v n cs:=λo=>Qf o E (λb I J=>ov (Qi o b I).1 (G b J));exact⟨k h.o1,k h.o2,k h.o3,k h.o4,h.d12,h.d13,h.d14,h.d23,h.d24,h.d34,λp H=>(h.e1 p H).low E G,λp H=>(h.e2 p H).low E G⟩
theorem Kl.cst (h:Kl base w v1 v2 v3 v4 cos rqs pls fbs)(E:Lg.XH [] w w7)(H:w.heap.size<=w7.heap.size):Kl base w7 v1 v2 v3 v4 cos rqs pls fbs :=
 ⟨zd h.o1 E,zd h.o2 E,zd h.o3 E,zd h.o4 E,h.d12,h.d13,h.d14,h.d23,h.d24,h.d34,λp G=>(h.e1 p G).cst E H,λp G=>(h.e2 p G).cst E H⟩
theorem qm {a b E:O0}(h:Dj a b)(I:∀x∈ob E,x∈ob a\/n<=x)(J:∀x∈ob b,x<n):Dj E b:=λx hx G=>by
 rcases I x hx with H|H
 ·exact h x H G
 have:=J x G;omega
theorem Vw {a b E:O0}(h:Dj a b)(H:∀x∈ob E,x∈ob b\/n<=x)(I:∀x∈ob a,x<n):Dj a E:=λx hx J=>by
 rcases H x J with G|G
 ·exact h x hx G
 have:=I x hx;omega
theorem Kl.lt (h:Kl base w v1 v2 v3 v4 cos rqs pls fbs):(∀x∈ob v1,x<w.heap.size)/\(∀x∈ob v2,x<w.heap.size)/\(∀x∈ob v3,x<w.heap.size)/\∀x∈ob v4,x<w.heap.size:=⟨Zb h.o1,Zb h.o2,Zb h.o3,Zb h.o4⟩
theorem QbP {a b c d:LN}{x:Nat}(h:x∈a++(b++(c++d))):x∈a\/x∈b\/x∈c\/x∈d:=by simpa using h
theorem z7 {a b c d:LN}{x:Nat}(h:x∈a\/x∈b\/x∈c\/x∈d):x∈a++(b++(c++d)):=by simpa using h
theorem Kl.a1 {e:Nat}{q:TV}(h:Kl base w v1 v2 v3 v4 cos rqs pls fbs)(V:O3 [] w w7)(Y:w7.ownsRow N e 1 q.1 q.2.length (q.2.map (.int .i64)))(ha:q.2.length<=1099511627776)(hN:w.heap.size<=N)(G:base<=w.heap.size)(ho:w8.ownsRow base 56 1 v' (cos.length+1) (cos.flatMap YE++YE q))
  (O:O3 (ob v1) w7 w8) (S:∀b∈ob v',b∈ob v1\/w7.heap.size<=b):Kl base w8 v' v2 v3 v4 (cos++[q]) rqs pls fbs:=by
 have l:=h.lt;have hz:=V.size;have I:=h.I V;have av:∀b∈ob v'++(ob v2++(ob v3++ob v4)),b∈ob v1++(ob v2++(ob v3++ob v4))\/w7.heap.size<=b:=by
  intro b G;rcases QbP G with E|E|E|E
  ·rcases S b E with T|T
   ·exact .inl (z7 (.inl T))
   exact .inr T
  ·exact .inl (z7 (.inr (.inl E)))
  ·exact .inl (z7 (.inr (.inr (.inl E))))
  exact .inl (z7 (.inr (.inr (.inr E))))
 have st:O3 (ob v1++(ob v2++(ob v3++ob v4))) w7 w8:=O.mono (λb G=>z7 (.inl G));have g:∀{v:O0} {n sz:Nat} {cs:LV},YA base (ob v1++(ob v2++(ob v3++ob v4))) w7.heap v n sz cs->YA base (ob v'++(ob v2++(ob v3++ob v4))) w8.heap v n sz cs:=λa=>a.app st av;refine⟨by rw[Lj,LA];simpa using ho,Qf I.o2 O (λb G J=>h.d12 b J G),Qf I.o3 O (λb G J=>h.d13 b J G),Qf I.o4 O (λb G J=>h.d14 b J G),qm h.d12 S (λx hx=>ou (l.2.1 x hx)),qm h.d13 S (λx hx=>ou (l.2.2.1 x hx)),qm h.d14 S (λx hx=>ou (l.2.2.2 x hx)),h.d23,h.d24,h.d34,?_,?_⟩
 ·exact λp H=>by
   rcases Lc.1 H with H|H
   ·exact g (I.e1 p H)
   simp only[oI]at H;subst H;exact g (YA.of_own Y ha oa (λb G=>by
   rcases QbP G with E|E|E|E
   ·have:=l.1 b E;omega
   ·have:=l.2.1 b E;omega
   ·have:=l.2.2.1 b E;omega
   have:=l.2.2.2 b E;omega))
 exact λp H=>g (I.e2 p H)
theorem Kl.a2 {e:Nat}{q:TV}(h:Kl base w v1 v2 v3 v4 cos rqs pls fbs)(V:O3 [] w w7)(Y:w7.ownsRow N e 1 q.1 q.2.length (q.2.map (.int .i64)))(ha:q.2.length<=1099511627776)(hN:w.heap.size<=N)(G:base<=w.heap.size)(ho:w8.ownsRow base 56 1 v' (rqs.length+1) (rqs.flatMap YE++YE q))
  (O:O3 (ob v2) w7 w8) (S:∀b∈ob v',b∈ob v2\/w7.heap.size<=b):Kl base w8 v1 v' v3 v4 cos (rqs++[q]) pls fbs:=by
 have l:=h.lt;have hz:=V.size;have I:=h.I V;have av:∀b∈ob v1++(ob v'++(ob v3++ob v4)),b∈ob v1++(ob v2++(ob v3++ob v4))\/w7.heap.size<=b:=by
  intro b G;rcases QbP G with E|E|E|E
  ·exact .inl (z7 (.inl E))
  ·rcases S b E with T|T
   ·exact .inl (z7 (.inr (.inl T)))
   exact .inr T
  ·exact .inl (z7 (.inr (.inr (.inl E))))
  exact .inl (z7 (.inr (.inr (.inr E))))
 have st:O3 (ob v1++(ob v2++(ob v3++ob v4))) w7 w8:=O.mono (λb G=>z7 (.inr (.inl G)));have g:∀{v:O0} {n sz:Nat} {cs:LV},YA base (ob v1++(ob v2++(ob v3++ob v4))) w7.heap v n sz cs->YA base (ob v1++(ob v'++(ob v3++ob v4))) w8.heap v n sz cs:=λa=>a.app st av;refine⟨Qf I.o1 O (λb G J=>h.d12 b G J),by rw[Lj,LA];simpa using ho,Qf I.o3 O (λb G J=>h.d23 b J G),Qf I.o4 O (λb G J=>h.d24 b J G),Vw h.d12 S (λx hx=>ou (l.1 x hx)),h.d13,h.d14,qm h.d23 S (λx hx=>ou (l.2.2.1 x hx)),qm h.d24 S (λx hx=>ou (l.2.2.2 x hx)),h.d34,?_,?_⟩
 ·exact λp H=>g (I.e1 p H)
 exact λp H=>by
  rcases Lc.1 H with H|H
  ·exact g (I.e2 p H)
  simp only[oI]at H;subst H;exact g (YA.of_own Y ha oa (λb G=>by
  rcases QbP G with E|E|E|E
  ·have:=l.1 b E;omega
  ·have:=l.2.1 b E;omega
  ·have:=l.2.2.1 b E;omega
  have:=l.2.2.2 b E;omega))
theorem Kl.a3 {q:Int}(h:Kl base w v1 v2 v3 v4 cos rqs pls fbs)(V:O3 [] w w7)(Y:w8.ownsRow base 3 1 v' (pls.length+1) (pls.map (.int .i64)++[oF oG q]))
  (J:O3 (ob v3) w7 w8) (O:∀b∈ob v',b∈ob v3\/w7.heap.size<=b):Kl base w8 v1 v2 v' v4 cos rqs (pls++[q]) fbs:=by
 have l:=h.lt;have hz:=V.size;have H:=h.I V;have av:∀b∈ob v1++(ob v2++(ob v'++ob v4)),b∈ob v1++(ob v2++(ob v3++ob v4))\/w7.heap.size<=b:=by
  intro b E;rcases QbP E with G|G|G|G
  ·exact .inl (z7 (.inl G))
  ·exact .inl (z7 (.inr (.inl G)))
  ·rcases O b G with S|S
   ·exact .inl (z7 (.inr (.inr (.inl S))))
   exact .inr S
  exact .inl (z7 (.inr (.inr (.inr G))))
 have st:O3 (ob v1++(ob v2++(ob v3++ob v4))) w7 w8:=J.mono (λb E=>z7 (.inr (.inr (.inl E))));have g:∀{v:O0} {n sz:Nat} {cs:LV},YA base (ob v1++(ob v2++(ob v3++ob v4))) w7.heap v n sz cs->YA base (ob v1++(ob v2++(ob v'++ob v4))) w8.heap v n sz cs:=λa=>a.app st av;refine⟨Qf H.o1 J (λb E I=>h.d13 b E I),Qf H.o2 J (λb E I=>h.d23 b E I),Qu.snoc Y,Qf H.o4 J (λb E I=>h.d34 b I E),h.d12,Vw h.d13 O (λx hx=>ou (l.1 x hx)),h.d14,Vw h.d23 O (λx hx=>ou (l.2.1 x hx)),h.d24,qm h.d34 O (λx hx=>ou (l.2.2.2 x hx)),?_,?_⟩
 ·exact λp T=>g (H.e1 p T)
 exact λp T=>g (H.e2 p T)
theorem Kl.a4 {q:Rsn}(h:Kl base w v1 v2 v3 v4 cos rqs pls fbs)(V:O3 [] w w7)(Y:w8.ownsRow base 223 4 v' (fbs.length+1) (fbs.flatMap ZT++ZT q))
  (J:O3 (ob v4) w7 w8) (O:∀b∈ob v',b∈ob v4\/w7.heap.size<=b):Kl base w8 v1 v2 v3 v' cos rqs pls (fbs++[q]):=by
 have l:=h.lt;have hz:=V.size;have H:=h.I V;have av:∀b∈ob v1++(ob v2++(ob v3++ob v')),b∈ob v1++(ob v2++(ob v3++ob v4))\/w7.heap.size<=b:=by
  intro b E;rcases QbP E with G|G|G|G
  ·exact .inl (z7 (.inl G))
  ·exact .inl (z7 (.inr (.inl G)))
  ·exact .inl (z7 (.inr (.inr (.inl G))))
  rcases O b G with S|S
  ·exact .inl (z7 (.inr (.inr (.inr S))))
  exact .inr S
 have st:O3 (ob v1++(ob v2++(ob v3++ob v4))) w7 w8:=J.mono (λb E=>z7 (.inr (.inr (.inr E))));have g:∀{v:O0} {n sz:Nat} {cs:LV},YA base (ob v1++(ob v2++(ob v3++ob v4))) w7.heap v n sz cs->YA base (ob v1++(ob v2++(ob v3++ob v'))) w8.heap v n sz cs:=λa=>a.app st av;refine⟨Qf H.o1 J (λb E I=>h.d14 b E I),Qf H.o2 J (λb E I=>h.d24 b E I),Qf H.o3 J (λb E I=>h.d34 b E I),by rw[Lj,LA];simpa using Y,h.d12,h.d13,Vw h.d14 O (λx hx=>ou (l.1 x hx)),h.d23,Vw h.d24 O (λx hx=>ou (l.2.1 x hx)),Vw h.d34 O (λx hx=>ou (l.2.2.1 x hx)),?_,?_⟩
 ·exact λp T=>g (H.e1 p T)
 exact λp T=>g (H.e2 p T)
theorem jb (c:ZG)(pl:Zd)(ps:List (LI)):∀(l:List (LI)) (i:Nat) (s:Spc),(l.zipIdx i).foldl (Qng c pl ps) s =
  ⟨s.a,s.co++l.map (·.take c.co.length),s.rq++l.map (·.drop c.co.length),s.pl++l.map (λt=>plx ps (t.take c.co.length)),s.fb++(l.zipIdx i).filterMap (λp=>rsn c pl (plx ps (p.1.take c.co.length)) p.2 p.1)⟩
 | [],i,s=>oe
 | t::l,i,s=>by
  rw[ND,L4,jb c pl ps l (i+1)];unfold Qng;simp only[oX,o0,Ob,Oj,List.filterMap_cons];cases rsn c pl (plx ps (t.take c.co.length)) i t with
  | none=>rfl
  | some r=>simp
theorem zE {c:ZG}{rs:LI}:∀{l:LI},(∀x∈wrf c.rq rs l,(c.ev.getD x.1.toNat ⟨.empty,false,false,false,0⟩).co=true)->rfd c rs l=none
 | [],_=>rfl
 | v::l,h=>by
  rw[wrf]at h;rw[rfd];by_cases E:0<=rfr v 0 c.rq rs
  ·rw[OS E]at h;have G:=h _ Lt;simp only[]at G;rw[OR (λe=>by rw[G]at e;cases e.2)];exact zE λx hx=>h x (Lk _ hx)
  rw[OR E]at h;rw[OR (λe=>E e.1)];exact zE h
theorem zD {c:ZG}{rs:LI}{x:Int×Int}{t:xt}:∀{l:LI}{p:xt},wrf c.rq rs l=p++x::t->(∀y∈p,(c.ev.getD y.1.toNat ⟨.empty,false,false,false,0⟩).co=true)->(c.ev.getD x.1.toNat ⟨.empty,false,false,false,0⟩).co=false->rfd c rs l=some (x.2,x.1)
 | [],p,h,_,_=>by simp[wrf]at h
 | v::l,p,h,G,hx=>by
  rw[wrf]at h;rw[rfd];by_cases E:0<=rfr v 0 c.rq rs
  ·rw[OS E]at h;cases p with
   | nil =>
    simp only[Oj,List.cons.injEq]at h;obtain⟨H,_⟩:=h;subst H;rw[OS ⟨E,hx⟩]
   | cons y p =>
    simp only[Ob,List.cons.injEq]at h;obtain⟨H,J⟩:=h;have I:=G y Lt;subst H;rw[OR (λe=>by simp only[]at I;rw[I]at e;cases e.2)];exact zD J (λy O=>G y (Lk _ O)) hx
  rw[OR E]at h;rw[OR (λe=>E e.1)];exact zD h G hx
theorem Qg7 (c:ZG)(t:LI):vio c t=if(Uh c.ex c.cs t).2.2=true then some ((Uh c.ex c.cs t).1,(Uh c.ex c.cs t).2.1)else none:=by
 unfold vio Uh;by_cases E:0<=fix (VS t) 0 c.ex
 ·rw[OS E,OS E];rfl
 rw[OR E,OR E];by_cases G:0<=fix (UX t) 0 c.cs
 ·rw[OS G,OS G];rfl
 rw[OR G,OR G];rfl
def QqU (N:Nat)(H:xx)(v:O0)(s:Spc):Prop:=∃va vm ve v1 v2 v3 v4 cos rqs,v=.agg #[va,oF oG s.a.st,vm,ve,v1,v2,v3,v4]/\cos.map (·.2)=s.co/\rqs.map (·.2)=s.rq /\
 ∀L:LN,(∀b∈L,b<N)->ZK L H va vm ve s.a/\JL L H v1 cos/\JL L H v2 rqs/\QQ L H v3 s.pl/\Zv L H v4 s.fb.length 4 (s.fb.flatMap ZT)
open Go.RowKit
def VZ (all:Array Oper)(i:Nat)(rest:xp):xp->Array Bool->Bool
 | [],ls=>Region.ready .any all ls == [i] && Y9 all rest (ls.setIfInBounds i true)
 | (j,true)::l,ls=>(Region.ready .any all ls).contains j && Region.free .any all ls j && VZ all i rest l (ls.setIfInBounds j true)
 | (j,false)::l,ls=>!(Region.ready .any all ls).isEmpty && (Region.ready .any all ls).all (λk=>k == j || k == i) && Y9 all ((j,false)::(l++rest)) (ls.setIfInBounds i true) && VZ all i rest l (ls.setIfInBounds j true)
def ZP (all:xA)(d:Nat)(l:xp):Bool:=l.all λp=>!((QV all p.1).looksAt all.toArray).contains d && !((QV all p.1).dst == some d)
def Qdv (all:xA)(pre l:xp)(i:Nat)(rest:xp):Bool :=
 Region.noSelect all.toArray && (pre.length+(l.length+1+rest.length) == all.length) && Kq all.toArray pre (oW all.length false) && VZ all.toArray i rest l (Z0 pre (oW all.length false))
  && (QV all i).guard.isNone && (match (QV all i).dst with|some d=>ZP all d l|none=>false)
def XF (P:O2)(all:xA)(C:xw)(K:xu):xp->LN->Fr->OZ->Prop
 | [],_,f,w=>K f w
 | (j,true)::l,own,f,w=>Z4 all f (QV all j)=true/\∃v,(∀w',(U0 (QV all j)=true->C w')->(execOp (ev f) (QV all j)).run P w'=.ok (.value v) w')/\XF P all C K l own (QY f (QV all j).dst v) w
 | (j,false)::l,own,f,w=>Z4 all f (QV all j)=true/\∀w1,O3 [] w w1->C w1->XO P (QV all j) f w1 λE w'=>C w'/\∃own',O3 own w1 w'/\(∀b∈own',b∈own\/(w1.heap.size<=b/\b<w'.heap.size))/\XF P all C K l own' E w'
section
variable {all:xA}{C:xw}{KF:xu}
theorem XF.I (hK:∀f w w',KF f w->O3 [] w w'->KF f w'):∀{l:xp}{own:LN}{f:Fr}{w w':OZ},XF P all C KF l own f w->O3 [] w w'->XF P all C KF l own f w'
 | [],_,_,_,_,h,E=>hK _ _ _ h E
 | (_,true)::_,_,_,_,_,h,E=>by
  obtain⟨G,v,H,hx⟩:=h;exact⟨G,v,H,XF.I hK hx E⟩
 | (_,false)::_,_,_,_,_,h,E=>⟨h.1,λI J O=>h.2 I (E.D J) O⟩
attribute [local semireducible] XO in
theorem QaW {o:Oper}(H:∀cs b,o.op≠.select cs b){d:Nat}{v:O0}{K':xu}(I:d∉o.looksAt all.toArray)(J:o.dst≠some d)(hK:∀u w',K (QY f o.dst u) w'->K' (QY (QY f o.dst u) (some d) v) w')
  (h:XO P o f w K):XO P o (QY f (some d) v) w K':=by
 have G:∀u,QY (QY f (some d) v) o.dst u=QY (QY f o.dst u) (some d) v:=λu=>J7 f v u (λe E=>by cases E;exact J);unfold XO at *;rw[Xo (all:=all) H f (some d) v (λe E=>by cases E;exact I)];generalize (execOp (ev f) o).run P w=r at *;cases r with
 | ok nx w' =>
  cases nx <;> simp only[upF]at h ⊢
  case value u=>rw[G];exact hK u w' h
  case skip=>rw[G];exact hK _ w' h
  case enter g args =>
   refine Calls.mono h λe O E=>?_;cases e with
   | returned u=>simp only at E ⊢;rw[G];exact hK u O E
   | panicked c=>exact E.elim
   | outgrown=>exact E.elim
 | halt x w'=>exact h.elim
theorem JA {D:xq}{f0:Fr}{dst:xC}{v:O0}(hd:inD D dst=true)(h:∀t,Xd D t=false->f t=f0 t):∀t,Xd D t=false->QY f dst v t=f0 t:=λt E =>
 (Y4 (λe=>by rw[e]at hd;simp only[inD]at hd;rw[hd]at E;cases E) v).D (h t E)
def ZV (all:xA)(D:xq)(l:xp):Bool:=l.all λp=>inD D (QV all p.1).dst
structure Fl (P:O2)(all:xA)(C:xw)(K KF:xu)(i d:Nat)(rest:xp)(Φ:O0->OZ->Prop)(Dc:xq)(f1:Fr):Prop where
 stab:∀v (own:LN) w w',Φ v w->O3 own w w'->(∀b∈ow v,b∉own)->Φ v w'
 spec:∀f w,(∀t,Xd Dc t=false->f t=f1 t)->C w->XO P (QV all i) f w λf' w'=>O3 [] w w'/\C w'/\Φ (f' d) w'/\∀b∈ow (f' d),w.heap.size<=b/\b<w'.heap.size
 fin:∀f w,KF f w->∀v,C w->Φ v w->XP P all C K rest (QY f (some d) v) w
 mono:∀f w w',KF f w->O3 [] w w'->KF f w'
attribute [local semireducible] XP in
theorem yt {i d:Nat}{rest:xp}{Φ:O0->OZ->Prop}{Dc:xq}{f1:Fr}(H:Fl P all C K KF i d rest Φ Dc f1)(O:Region.noSelect all.toArray=true){v:O0}:∀(l:xp) (own:LN) (f:Fr) (w:OZ),ZP all d l=true->XF P all C KF l own f w->C w->Φ v w ->
  (∀b∈ow v,b∉own/\b<w.heap.size)->XP P all C K (l++rest) (QY f (some d) v) w
 | [],own,f,w,_,h,I,J,_=>H.fin f w h v I J
 | (j,q)::l,own,f,w,hfr,h,I,J,E=>by
  simp only[ZP,oR,oL,Oi,List.contains_eq_mem,decide_eq_false_iff_not,beq_eq_false_iff_ne,ne_eq]at hfr;obtain⟨⟨S,T⟩,hfr⟩:=hfr;have V:ZP all d l=true:=by simpa[ZP]using hfr
  have ha:∀cs b,(QV all j).op≠.select cs b:=by
   intro cs b;cases Y:all[j]? with
   | none =>
    have:QV all j=default:=by
     clear h S T hfr V;have key:∀(l:xA) (j:Nat),l[j]?=none->QV l j=default:=by
      intro l;induction l with
      | nil=>intro j _;rfl
      | cons a l ih=>intro j hj;cases j with|zero=>simp at hj|succ j=>exact ih j (oz hj)
     exact key all j Y
    rw[this];intro e;cases e
   | some o=>rw[Zq Y];exact Region.noSelect_spec O j o cs b (oz Y)
  have hd:∀e,some d=some e->e∉(QV all j).looksAt all.toArray:=λe he=>by cases he;exact S
  cases q with
  | true =>
   obtain⟨hg,u,hu,hx⟩:=h;simp only[Ob,XP];rw[X3 (QV all j) f (some d) v hd,hg,cond_true,cond_true];refine⟨u,λw' hc=>?_,?_⟩
   ·rw[Xo (all:=all) ha f (some d) v hd];exact hu w' hc
   rw[J7 f v u (λe he=>by cases he;exact T)];exact yt H O l own _ w V hx I J E
  | false =>
   simp only[Ob,XP];rw[X3 (QV all j) f (some d) v hd,h.1,cond_true,cond_false];refine QaW (all:=all) ha S T (λu w' hx=>?_) (h.2 w (O3.Z _ _) I);obtain⟨hf,own',hh,hi,hx⟩:=hx;refine⟨.inr (.inr hf),yt H O l own' _ w' V hx hf (H.stab v own w w' J hh (λb G=>(E b G).1)) (λb G=>⟨λhm=>?_,LU (E b G).2 hh.size⟩)⟩;rcases hi b hm with h3|h3
   ·exact(E b G).1 h3
   exact Nl _ (LU (E b G).2 h3.1)
theorem QjX {i d:Nat}{rest:xp}{Φ:O0->OZ->Prop}{Dc:xq}{f1:Fr}(J:Fl P all C K KF i d rest Φ Dc f1)(V:Region.noSelect all.toArray=true)(Y:(QV all i).guard=none)(hd:(QV all i).dst=some d):∀(l:xp) (ls:Array Bool) (own:LN) (f:Fr) (w:OZ),ls.size=all.length->ZP all d l=true->ZV all Dc l=true->(∀t,Xd Dc t=false->f t=f1 t) ->
  XF P all C KF l own f w->C w->(∀b∈own,b<w.heap.size)->VZ all.toArray i rest l ls=true->XA P all C K (l.length+1+rest.length) ls f w
 | [],ls,own,f,w,ha,hfr,O,hk1,h,S,hc,E=>by
  simp only[VZ,oL,beq_iff_eq]at E;obtain⟨T,E⟩:=E;rw[show([]:xp).length+1+rest.length=rest.length+1 by simp;omega];refine XC (λh0=>(by rw[h0]at T;cases T)) ?_;rw[T];intro k hk o H;have hh:k=i:=by simpa using hk
  subst hh;have he:=Zq H;have hx:=J.spec f w hk1 S;rw[he]at Y hd hx;rw[JC Y,cond_true];refine hx.mono λv w' hx=>?_;rw[hd]at hx ⊢;obtain⟨h1,G,I,h4⟩:=hx;simp only[QY,YI]at I h4;refine⟨.inr (.inr G),ZN V rest _ _ _ (oz ha) (.inl G) E (J.fin f w' (J.mono f w w' h h1) v G I)⟩
 | (j,true)::l,ls,own,f,w,ha,hfr,O,hk1,h,S,hc,E=>by
  simp only[VZ,oL]at E;obtain⟨⟨T,hf⟩,hi⟩:=E;have hq:j∈Region.ready .any all.toArray ls:=by simpa using T
  have e:(oP ((j,true)::l))+1+rest.length=(l.length+1+rest.length)+1:=by simp;omega
  rw[e];have hl:ZP all d l=true:=by simp only[ZP,oR,oL]at hfr;exact hfr.2
  simp only[ZV,oR,oL]at O;have hn:ZV all Dc l=true:=O.2;cases H:all[j]? with
  | none =>
   exfalso;obtain⟨_,o,hz,_⟩:=mem_ready.1 hq;simp[H]at hz
  | some o =>
   obtain⟨ht,v,hv,hx⟩:=h;rw[Zq H]at ht hv hx;have h5:∀(j:Nat) (o:Oper) cs b,all[j]?=some o->o.op≠.select cs b:=λj o cs b hj=>Region.noSelect_spec V j o cs b (oz hj);have h6:=λk ok hk=>Region.free_spec (ops:=all.toArray) (md:=.any) (i:=j) (oi:=o) (listed:=ls) (oz H) hf k ok (oz hk);exact Xe (v:=v) (D:=λw=>U0 o=true->C w) H (λ_ h=>h) h5 _ ls f w (λ_=>S) h6 hq (.inl ⟨ht,hv⟩) (QjX J V Y hd l _ own _ w (oz ha) hl hn (by have:=JA (v:=v) O.1 hk1;rw[Zq H]at this;exact this) hx S hc hi)
 | (j,false)::l,ls,own,f,w,ha,hfr,O,hk1,h,S,hc,E=>by
  simp only[VZ,oL,Ol,Bool.or_eq_true,beq_iff_eq,Oi]at E;obtain⟨⟨⟨hu,T⟩,h7⟩,hi⟩:=E;have e:(oP ((j,false)::l))+1+rest.length=(l.length+1+rest.length)+1:=by simp;omega
  rw[e];have hl:ZP all d l=true:=by simp only[ZP,oR,oL]at hfr;exact hfr.2
  simp only[ZV,oR,oL]at O;have hn:ZV all Dc l=true:=O.2;refine XC (λh0=>(by rw[h0]at hu;cases hu)) ?_;intro k hk o H;have he:=Zq H;have hw:(ls.setIfInBounds k true).size=all.length:=by simpa using ha
  by_cases hh:k=i
  ·subst hh;have hx:=J.spec f w hk1 S;rw[he]at Y hd hx;rw[JC Y,cond_true];refine hx.mono λv w' hx=>?_;rw[hd]at hx ⊢;obtain⟨h1,G,I,h4⟩:=hx;simp only[QY,YI]at I h4;refine⟨.inr (.inr G),?_⟩;have hx:=yt J V ((j,false)::l) own f w' hfr (XF.I J.mono h h1) G I (λb hb=>⟨λhm=>Nl _ (LU (hc b hm) (h4 b hb).1),(h4 b hb).2⟩);have:=ZN V ((j,false)::(l++rest)) _ _ _ hw (.inl G) h7 hx;rw[show((j,false)::(l++rest)).length=l.length+1+rest.length by simp;omega]at this;exact this
  have h8:k=j:=(T k hk).resolve_right hh;subst h8;have h1:=h.1;have G:=h.2 w (O3.Z _ _) S;rw[he]at h1 G;rw[h1,cond_true];refine G.mono λv w' hx=>?_;obtain⟨hy,own',h9,hA,hx⟩:=hx;refine⟨.inr (.inr hy),QjX J V Y hd l _ own' _ w' hw hl hn (by have:=JA (v:=v) O.1 hk1;rw[he]at this;exact this) hx hy (λb hb=>?_) hi⟩;rcases hA b hb with I|I
  ·exact LU (hc b I) h9.size
  exact I.2
theorem QmB {ro:xC}{m:Nat}{Q:Exit->LN->Fr->OZ->Prop}(C:xw)(pre l:xp)(i d:Nat)(rest:xp)(own:LN)(KF:xu)(Φ:O0->OZ->Prop)(Dc:xq)(T:P.follows .mixedOrders=true)(V:X4 n all=true)(Y:QbK all=true)
  (H:Qdv all pre l i rest=true) (hb:ZV all Dc l=true) (hd:(QV all i).dst=some d) (I:C { w with drawn:=w.drawn+1 }) (hc:∀b∈own,b<w.heap.size)
  (h:XP P all C (λf1 _=>Fl P all C (λf w=>Q .normal ds f w) KF i d rest Φ Dc f1/\XF P all C KF l own f1 { w with drawn:=w.drawn+1 }) pre f { w with drawn:=w.drawn+1 }):WG ro m P n (.region id all.toArray true) Q ds f w:=by
 unfold WG;intro a ha;simp only[Qdv,oL,beq_iff_eq,Option.isNone_iff_eq_none]at H;obtain⟨⟨⟨⟨⟨J,hl⟩,G⟩,he⟩,hg⟩,hfr⟩:=H;rw[hd]at hfr;refine wpIn_region_any T ?_;have O:=YC (K:=λf w=>Q .normal ds f w) (m:=l.length+1+rest.length) J pre (oW all.length false) f _ I G
  (λf1 S=>QjX S.1 J hg hd l (Z0 pre (oW all.length false)) own f1 _ (by rw[YG];simp) hfr hb (λ_ _=>rfl) S.2 I hc he) h
 rw[hl]at O;have h2:=zo (ro:=ro) (m:=m) (n:=n) (ds:=ds) (Q:=λe a' w'=>∃ds' E,Y8 n ds' a' E/\(∀t,Z7 all t=false->E t=f t)/\Q e ds' E w') (Xj V) (VW Y) f
  (λa E w hr hk G=>⟨ds,E,hr,hk,G⟩) _ _ a f _ ha (λ_ _=>U) O
 simpa[X5]using h2
theorem XP.keeps_mono {K':xu}:∀(l:xp) (f:Fr) (w:OZ),XP P all C K l f w->(∀f w,K f w->K' f w)->XP P all C K' l f w
 | [],f,w,h,E=>by simp only[XP]at h ⊢;exact E _ _ h
 | (j,q)::l,f,w,h,E=>by
  simp only[XP]at h ⊢;cases G:Z4 all f (QV all j)with
  | false=>rw[G]at h;exact XP.keeps_mono l _ _ h E
  | true =>
   rw[G]at h;cases q with
   | true=>obtain⟨v,H,hx⟩:=h;exact⟨v,H,XP.keeps_mono l _ _ hx E⟩
   | false=>exact XO.mono (λv w' hx=>⟨hx.1,XP.keeps_mono l _ _ hx.2 E⟩) h
theorem XP.keeps {D:xq}{f0:Fr}:∀(l:xp) (f:Fr) (w:OZ),ZV all D l=true->(∀t,Xd D t=false->f t=f0 t)->XP P all C K l f w->XP P all C (λH w'=>(∀t,Xd D t=false->H t=f0 t)/\K H w') l f w
 | [],f,w,_,E,h=>by simp only[XP]at h ⊢;exact⟨E,h⟩
 | (j,q)::l,f,w,hd,E,h=>by
  simp only[ZV,oR,oL]at hd;have G:ZV all D l=true:=hd.2;simp only[XP]at h ⊢;cases I:Z4 all f (QV all j)with
  | false=>rw[I]at h;exact XP.keeps l _ _ G (JA hd.1 E) h
  | true =>
   rw[I]at h;cases q with
   | true=>obtain⟨v,J,hx⟩:=h;exact⟨v,J,XP.keeps l _ _ G (JA hd.1 E) hx⟩
   | false=>exact XO.mono (λv w' hx=>⟨hx.1,XP.keeps l _ _ G (JA hd.1 E) hx.2⟩) h
theorem XF.keeps {D:xq}{f0:Fr}:∀(l:xp) (own:LN) (f:Fr) (w:OZ),ZV all D l=true->(∀t,Xd D t=false->f t=f0 t)->XF P all C K l own f w->XF P all C (λG w'=>(∀t,Xd D t=false->G t=f0 t)/\K G w') l own f w
 | [],own,f,w,_,E,h=>⟨E,h⟩
 | (j,true)::l,own,f,w,hd,E,h=>by
  simp only[ZV,oR,oL]at hd;obtain⟨H,v,I,hx⟩:=h;exact⟨H,v,I,XF.keeps l own _ _ hd.2 (JA hd.1 E) hx⟩
 | (j,false)::l,own,f,w,hd,E,h=>by
  simp only[ZV,oR,oL]at hd;refine⟨h.1,λJ O S=>XO.mono (λv w' hx=>?_) (h.2 J O S)⟩;obtain⟨T,own',V,Y,hx⟩:=hx;exact⟨T,own',V,Y,XF.keeps l own' _ _ hd.2 (JA hd.1 E) hx⟩
theorem Qkd {ro:xC}{m:Nat}{Q:Exit->LN->Fr->OZ->Prop}(C:xw)(pre l:xp)(i d:Nat)(rest:xp)(own:LN)(D Dc:xq)(S:α->List (Nat×O0))(I:α->OZ->Prop)(Φ:O0->OZ->Prop)(T:P.follows .mixedOrders=true)(V:X4 n all=true)(Y:QbK all=true)
  (hp:Qdv all pre l i rest=true) (H:(ZV all D pre && ZV all D l && ZV all Dc l)=true) (hd:(QV all i).dst=some d) (hC:C { w with drawn:=w.drawn+1 }) (ha:∀b∈own,b<w.heap.size)
  (stab:∀v (own:LN) w w',Φ v w->O3 own w w'->(∀b∈ow v,b∉own)->Φ v w') (mono:∀z w w',I z w->O3 [] w w'->I z w')
  (fin:∀z g w v,I z w->C w->Φ v w->XP P all C (λf w=>Q .normal ds f w) rest (QY (qK (S z) (mix D f g)) (some d) v) w)
  (h:XP P all C (λf1 _=>(∀g w,C w->XO P (QV all i) (mix Dc f1 g) w λE w'=>O3 [] w w'/\C w'/\Φ (E d) w'/\∀b∈ow (E d),w.heap.size<=b/\b<w'.heap.size)/\XF P all C (λE w'=>∃z,Xr E (S z)/\I z w') l own f1 { w with drawn:=w.drawn+1 }) pre f { w with drawn:=w.drawn+1 }):WG ro m P n (.region id all.toArray true) Q ds f w:=by
 rw[Lv,Lv]at H;refine QmB C pre l i d rest own (λE w'=>(∀t,Xd D t=false->E t=f t)/\∃z,Xr E (S z)/\I z w') Φ Dc T V Y hp H.2 hd hC ha ?_;refine XP.keeps_mono _ _ _ (XP.keeps pre f _ H.1.1 (λ_ _=>U) h) (λf1 w1 hx=>⟨⟨stab,?_,?_,?_⟩,XF.keeps l own _ _ H.1.2 hx.1 hx.2.2⟩)
 ·intro E w' G J;have:=hx.2.1 E w' J;rw[X7 G]at this;exact this
 ·rintro E w' ⟨G,z,O,hi⟩ v J hv;have:=fin z E w' v hi J hv;rw[X7 G,Y3 O]at this;exact this
 rintro E w' hc ⟨G,z,O,hi⟩ hb;exact⟨G,z,O,mono z _ _ hi hb⟩
theorem fp {l:xp}{own:LN}{v:O0}(E:∀w',(execOp (ev f) (QV all j)).run P w'=.ok (.value v) w')(h:XF P all C K l own (QY f (QV all j).dst v) w)
  (G:Z4 all f (QV all j)=true:=by rfl):XF P all C K ((j,true)::l) own f w:=⟨G,v,λw' _=>E w',h⟩
theorem fk {l:xp}{own:LN}(h:∀w1,O3 [] w w1->C w1->XO P (QV all j) f w1 λE w'=>C w'/\∃own',O3 own w1 w'/\(∀b∈own',b∈own\/(w1.heap.size<=b/\b<w'.heap.size))/\XF P all C K l own' E w')
  (G:Z4 all f (QV all j)=true:=by rfl):XF P all C K ((j,false)::l) own f w:=⟨G,h⟩
theorem fe {own:LN}(h:K f w):XF P all C K [] own f w:=h
end
attribute [irreducible] XF
instance:Bw prog 180 [nS,oF oG 0,nS,nS,nS,nS,nS,nS] [(0,4),(4,1),(5,1),(6,1),(7,1)]:=⟨od,og⟩
def spF (c:ZG)(pl:Zd)(ps:List (LI))(l:List (LI)):List Rsn:=l.zipIdx.filterMap (λp=>rsn c pl (plx ps (p.1.take c.co.length)) p.2 p.1)
theorem Qht {pl:Zd}{ps:List (LI)}{l:List (LI)}{k:Nat}(h:k<l.length):spF c pl ps (l.take (k+1))=spF c pl ps (l.take k)++(rsn c pl (plx ps ((l[k]'h).take c.co.length)) k (l[k]'h)).toList:=by
 unfold spF;rw[Ll h,List.zipIdx_append,List.filterMap_append];have e:0+(l.take k).length=k:=by rw[Ly];omega
 rw[e];simp only[List.zipIdx_cons,List.zipIdx_nil,List.filterMap_cons,List.filterMap_nil];cases rsn c pl (plx ps ((l[k]'h).take c.co.length)) k (l[k]'h) <;> rfl
theorem Qee (c:ZG)(pl:Zd)(ps:List (LI))(l:List (LI)):(spF c pl ps l).length<=l.length:=by
 unfold spF;refine LJ (List.length_filterMap_le _ _) ?_;rw[List.length_zipIdx];exact Lx _
theorem Qc3 {pl sa:Zd}{ps ts:List (LI)}(E:xh (O5 c.co)=some (pl,ps))(G:xh (O5 c.co++O5 c.rq)=some (sa,ts)):
  spc c=⟨sa,ts.map (·.take c.co.length),ts.map (·.drop c.co.length),ts.map (λt=>plx ps (t.take c.co.length)),spF c pl ps ts⟩:=by
 unfold spc syA syQ;rw[E,G];simp only[];rw[jb];simp[spF]
theorem QjE {s:List ByteArray}{x:XG}(h:Yi n u s x=0):x.a.st≠0:=by
 unfold Yi at h;split at h
 ·cases h
 split at h
 ·cases h
 split at h
 ·rename_i G E;exact OU h E
 split at h
 ·cases h
 split at h
 ·cases h
 assumption
theorem Qcq {n:Nat}{al:LI}:∀{l:List XG}{s:List ByteArray}{u:LI},(Yn n al s u l).1=0->∀x∈l,x.a.st≠0
 | [],_,_,_,x,hx=>by cases hx
 | y::l,s,u,h,x,hx=>by
  rw[V7]at h;by_cases E:Yi n al s y≠0
  ·rw[OS E]at h;exact OU h E
  rw[OR E]at h;have G:Yi n al s y=0:=Lo.1 E;rcases Li.1 hx with rfl|hx
  ·exact QjE G
  exact Qcq h x hx
theorem QjF (h:Zm c=0):∀x∈c.co,x.a.st≠0:=by
 unfold Zm at h;by_cases E:J2 c.ev≠0
 ·rw[OS E]at h;exact OU h E
 rw[OR E]at h;by_cases H:c.co.length=0
 ·rw[OS H]at h;cases h
 rw[OR H]at h;by_cases I:8<c.co.length\/12<c.co.length+c.rq.length
 ·rw[OS I]at h;cases h
 rw[OR I]at h;by_cases G:(Yn c.ev.length (VJ c.ev.length) [] [] c.co).1≠0
 ·rw[OS G]at h;exact OU h G
 exact Qcq (Lo.1 G)
theorem QbE (h:Zm c=0){A:Zd}{Q:List (LI)}(O:xh (O5 c.co)=some (A,Q)):ZJ A/\A.st=(Q.length:Int)/\0<Q.length/\∀e∈A.al,0<=e/\e<(c.ev.length:Int):=by
 have G:=Z5 h;have H:=YR G.co;have hsp:=Jp H O;refine⟨hsp.1.okay H,hsp.1.st,?_,λe J=>?_⟩
 ·refine Nat.pos_of_ne_zero λS=>?_;obtain⟨a,I,E⟩:=hsp.2.1 S;obtain⟨x,hx,rfl⟩:=LD.1 I;exact QjF h x hx E
 rw[hsp.1.al]at J;obtain⟨a,I,E⟩:=(QeX H e).1 J;obtain⟨x,hx,rfl⟩:=LD.1 I;exact⟨((G.co x hx).al e E).1,G.ce x hx e E⟩
theorem QhU {Q:List (LI)}(h:0<Q.length)(t:LI):0<=plx Q t/\plx Q t<(Q.length:Int):=by
 unfold plx;split
 ·rename_i E;have:=MN E;omega
 omega
theorem Vt.take {a b:List Zd}{t:LI}(h:Vt (a++b) t):Vt a (t.take a.length):=by
 have hl:=h.1;rw[Lj]at hl;refine⟨by rw[Ly];omega,λi G E=>?_⟩;have:=h.2 i oa (by rw[Lj];omega);rw[MC E]at this;rw[Nd];exact this
theorem Vt.drop {a b:List Zd}{t:LI}(h:Vt (a++b) t):Vt b (t.drop a.length):=by
 have hl:=h.1;rw[Lj]at hl;refine⟨by rw[LW];omega,λi E G=>?_⟩;have:=h.2 (a.length+i) oa (by rw[Lj];omega);rw[M5 oa]at this;rw[List.getElem_drop];simpa using this
theorem Vt.tpOk {l:List XG}{t:LI}(h:Vt (O5 l) t):Qmw (szs l) t:=by
 have hl:=h.1;unfold O5 at hl;rw[Lh]at hl;refine⟨by unfold szs;rw[Lh];exact hl,λi hi=>?_⟩;have E:=h.2 i hi (by unfold O5;rw[Lh];omega);have G:i<(szs l).length:=by unfold szs;rw[Lh];omega
 rw[<-ZI hi,<-ZI G];unfold O5 szs at *;simpa using E
theorem Kl.add {base:Nat}{W H I J:OZ}{v1 v2 v3 E c0 c1 c2 c3:O0}{cos rqs:List TV}{pls:LI}{fbs:List Rsn}{q:Rsn}(hB:Q7 W.heap G T [c0,c1,c2,c3,v1,v2,v3,E])(O:Kl base W v1 v2 v3 E cos rqs pls fbs)(ha:G<base)(S:O3 [] W H)
  (ho:I.ownsRow base 223 4 v' (fbs.length+1) (fbs.flatMap ZT++ZT q)) (V:O3 (ob E) H I) (hn:∀b∈ob v',b∈ob E\/H.heap.size<=b) (Y:O3 [G] I J):
  O3 (G::ob E) W J/\Kl base J v1 v2 v3 v' cos rqs pls (fbs++[q])/\(∀x∈G::ob E,∃o:Obj,W.heap[x]?=some o/\o.isCells=true):=by
 refine⟨((S.any).Q (V.mono λx hx=>Lk _ hx)).Q (Y.mono λx hx=>?_),(O.a4 S ho V hn).low Y (λx hx=>?_),λx hx=>?_⟩
 ·simp only[oI]at hx;subst hx;exact Lt
 ·simp only[oI]at hx;subst hx;exact ha
 rcases Li.1 hx with rfl|hx
 ·exact hB.cells
 exact Go.Lg.QU O.o4 x hx
theorem yw {c:CL}(h0:ZF L w.heap c)(my:Kb w 4096):
  Q5 prog 98 [c.val] w λr w'=>O3 [] w w'/\∃v,r=.tuple #[v,oF oG (YN c.V)]/\(∃us,v=.agg us.toArray/\us.length=8/\Zj us)/\(YN c.V=0->QqU w.heap.size w'.heap v (spc c.V)):=by
 have h:=h0.up (L':=[]) oe;refine Zk (YN c.V) λE hE=>?_;refine Q5.of_G 20 func98 U ntmps98 results98 oe ?_;refine Zi<|QM ol ol ?_;refine Qa<|QS (us:=c.cells) U λb1 w1 hI hb1 mz=>Qa<|Qo (us:=[nS,oF oG 0,nS,nS,nS,nS,nS,nS]) U λb2 w2 hF hb2 gy=>Qc ?_;have kh:=hI.D hF;have m2:=mz.lt;have ki:=gy.lt;have m3:=mz.I hF;refine Zi<|QM ol ol ?_;refine Q2 m3 U U<|Qa<|xf<|(Qcx (h.I kh) (my.I kh)).mono ?_;rintro r3 w3 ⟨h6,vp,rfl,z2,m4⟩;rw[hE]at z2 m4 ⊢;have m5:=kh.D h6;refine Qb<|Q8 U U<|Q8 U U<|x Qk<|Qc<|Zi<|Zi<|QM ol ol ?_;refine Qb<|ZA U U<|xe<|QmA U (λkj=>?_) (λkj=>?_)
 ·refine Zi<|QM ol ol ?_;refine x (Zt [] Z)<|Qb<|Qa<|Qj (us:=[nS,oF oG 0,nS,nS,nS,nS,nS,nS]) (gy.I h6) U U U U ⟨U,U,U,U,U,U,U,U,Z⟩ λw4 hN z3=>Qc<|Vl ⟨λ_ h=>(by cases h),MH,[.agg #[nS,oF oG 0,nS,nS,nS,nS,nS,nS],oF oG E],λW' hO=>⟨⟨⟨_,rfl,Qn rfl ((z3.I hO).at (L:=[]) oe).cells⟩,rfl,Z⟩,(m5.O hN oa).D hO,_,rfl,⟨_,rfl,rfl,rfl,rfl,rfl,rfl,rfl,rfl,rfl,rfl,Z⟩,λe=>OU e kj⟩⟩
 have m6:E=0:=Lo.1 kj;obtain⟨b,q,rfl,rfl,hQ,hq,z4⟩:=m4 m6;refine YH<|Zi<|QM ol ol ?_;refine Qb<|Yb U<|Q0 U<|x (Zl (us:=ZS q.s) hq.B U U U)<|x (Zt [(0,ZS q.s)] ⟨U,U,Z⟩)<|Qa<|Qo (us:=[nS,oF oG 0,nS,nS,nS,nS,nS,nS]) U λH w5 hY kk h7 =>
  Qa<|Qj (us:=[q.s.va,oF oG q.s.a.st,q.s.vm,q.s.ve,nS,nS,nS,nS]) h7 U U U U ⟨hq.s.al.one,U,hq.s.mr.one,hq.s.ed.one,U,U,U,U,Z⟩ λJ gz h7=>xe ?_
 have m7:O3 [] w3 J:=hY.O gz kk;have kn:=h7.lt;have m8:=hq.I m7;have hz3:=h6.size;refine Zi<|Zi<|QM ol ol ?_;refine Qb<|Yb U<|Qs U m8.B U U<|QL m8.ts.arr U<|Qb<|xe ?_;have m9:=(qZ (λa ha=>by
  rcases Lc.1 ha with ha|ha
  ·exact YR (Z5 hQ.ok).co a ha
  exact YR (Z5 hQ.ok).rq a ha) hQ.s)
 have ko:=m9.1;have pa:=m9.2;simp only[]at ko pa;have hZ:=Z5 hQ.ok;have hckc:=hZ.c8;have ga:q.c.V.co.length=q.c.co.length:=Lh ..;have z5:q.c.V.rq.length=q.c.rq.length:=Lh ..;have hcr:=hZ.cr;have hal:(O5 q.c.V.co++O5 q.c.V.rq).length=q.c.co.length+q.c.rq.length:=by rw[Lj];unfold O5;rw[Lh,Lh,ga,z5]
 refine Zk (q.ts.map (·.2)) λT hT=>?_;rw[hT]at ko pa;have hTn:q.ts.length=T.length:=by rw[<-hT,Lh]
 refine Z1<|qy (α:=Nat×(O0×O0×O0×O0)×List TV×List TV×LI) [(7,17),(37,99),(100,118)] (λz=>[(37,oF oG z.1)]) (λz ds W'=>z.1<=q.ts.length/\O3 [H] J W'/\UV J.heap.size W'.heap.size ds W'/\Q7 W'.heap H 180 [q.s.va,oF oG q.s.a.st,q.s.vm,q.s.ve,z.2.1.1,z.2.1.2.1,z.2.1.2.2.1,z.2.1.2.2.2] /\
  Kl J.heap.size W' z.2.1.1 z.2.1.2.1 z.2.1.2.2.1 z.2.1.2.2.2 z.2.2.1 z.2.2.2.1 z.2.2.2.2 (spF q.c.V q.p.a (q.qs.map (·.2)) (T.take z.1))/\z.2.2.1.map (·.2)=(T.take z.1).map (·.take q.c.co.length)/\z.2.2.2.1.map (·.2)=(T.take z.1).map (·.drop q.c.co.length)/\z.2.2.2.2=(T.take z.1).map (λt=>plx (q.qs.map (·.2)) (t.take q.c.co.length)))
  (λz=>q.ts.length - z.1) ol (0,(nS,nS,nS,nS),[],[],[]) La
  ⟨Ln _,O3.Z _ _,⟨MH,λD hD=>by cases hD⟩,h7,Kl.nil _ _,rfl,rfl,rfl⟩ ?_
 rintro⟨k,⟨v1,v2,v3,O⟩,cos,rqs,pls⟩ g ds w7 ⟨hk,kq,pc,kr,S,gj,gk,gl⟩;simp only[]at hk kr S gj gk gl;have gm:O3 [] w3 w7:=m7.O kq kk;have pd:=m5.D gm;have hz7:=kq.size;have g0:(T.take k).length=k:=by rw[Ly];omega
 have hcosl:cos.length=k:=by have:=OT oP gj;rw[Lh,Lh,g0]at this;exact this
 have hrqsl:rqs.length=k:=by have:=OT oP gk;rw[Lh,Lh,g0]at this;exact this
 have hplsl:pls.length=k:=by rw[gl,Lh,g0]
 have pf:=Qee q.c.V q.p.a (q.qs.map (·.2)) (T.take k);rw[g0]at pf;refine Zk (spF q.c.V q.p.a (q.qs.map (·.2)) (T.take k)) λfbs g2=>?_;rw[g2]at S pf;refine Zk (ob v1++(ob v2++(ob v3++ob O))) λav gn=>?_;have gb:∀x∈av,J.heap.size<=x/\x<w7.heap.size:=λx hx=>by
  rw[<-gn]at hx;rcases QbP hx with G|G|G|G
  ·exact Qi S.o1 x G
  ·exact Qi S.o2 x G
  ·exact Qi S.o3 x G
  exact Qi S.o4 x G
 have g3:H∉av:=λI=>ou (gb H I).1
 have kt:∀x∈av,x∈H::av:=λx hx=>Lk _ hx;have g4:JM (H::av) b w7.heap q:=(hq.up (λx hx=>.inr (by
  rcases Li.1 hx with rfl|hx
  ·exact kk
  have:=(gb x hx).1;omega))).I gm
 refine Zi<|QM ol ol ?_;refine QX rfl U<|xe<|Zi<|j5 U (λpg=>?_) (λpg=>?_)
 ·refine Vm ?_;rw[Ls oa]at gj gk gl g2;have hsp:=Qc3 hQ.p hQ.s;rw[hT,ga,<-gj,<-gk,<-gl,g2]at hsp;have ph:=h6.D gm;refine Zi<|QM ol ol ?_;refine Q2 kr U U<|Qa<|Qj (us:=[q.s.va,oF oG q.s.a.st,q.s.vm,q.s.ve,v1,v2,v3,O]) (gy.I ph) U U U U ⟨hq.s.al.one,U,hq.s.mr.one,hq.s.ed.one,Qt S.o1,Qt S.o2,Qt S.o3,Qt S.o4,Z⟩ λw8 g5 hB8=>Qc ?_;have hb2w:b2<J.heap.size:=oa
  have go:UV J.heap.size w7.heap.size ds w8:=pc.blk g5 (gy.I ph);have hb2d:b2∉ds:=λI=>ou (go.2 b2 I).1
  have hS8:=S.low g5 (λx hx=>by simp only[oI]at hx;subst hx;exact hb2w);refine Vl ⟨λD hD=>(go.2 D hD).2.2,go.1,[.agg #[q.s.va,oF oG q.s.a.st,q.s.vm,q.s.ve,v1,v2,v3,O],oF oG E],λW' hO=>?_⟩;have g6:Lg.XH [] w8 W':=Lg.XH.nonc hO (λD hD=>⟨_,(go.2 D hD).2.2,U⟩);have gc:=hO.size;have h8:=hS8.cst g6 gc;refine⟨⟨⟨_,U,Qn U ((hB8.J hO hb2d).at (L:=[]) oe).cells⟩,OT (Value.int .i64) m6.symm,Z⟩,(pd.O g5 oa).then hO (λD hD=>.inr (ou (go.2 D hD).1)),_,U,⟨_,U,U,hq.s.al.one,U,hq.s.mr.one,hq.s.ed.one,Qt S.o1,Qt S.o2,Qt S.o3,Qt S.o4,Z⟩,λ_=>?_⟩;have hl9:pls.length<=1099511627776:=oa
  have hl8:fbs.length<=1099511627776:=oa
  rw[hsp];refine⟨q.s.va,q.s.vm,q.s.ve,v1,v2,v3,O,cos,rqs,U,U,U,λL hL=>⟨?_,⟨QH h8.o1 oa (λx hx I=>?_),λp hp=>h8.e1 p hp L (λx hx=>?_)⟩,⟨QH h8.o2 oa (λx hx I=>?_),λp hp=>h8.e2 p hp L (λx hx=>?_)⟩,QH h8.o3 hl9 (λx hx I=>?_),QH h8.o4 hl8 (λx hx I=>?_)⟩⟩
  ·have G:=((z4 (b2::L) (λx hx=>by
    rcases Li.1 hx with rfl|hx
    ·exact ki
    have:=hL x hx;omega)).1.I gm).st (g5.mono (λx hx=>by simp only[oI]at hx;subst hx;exact Lt))
   have h2:=G.up (L':=L) (λx hx=>.inl (Lk _ hx));exact⟨h2.al.cst (g6.mono oe) gc,h2.mr.cst (g6.mono oe) gc,h2.ed.cst (g6.mono oe) gc⟩
  ·have:=(Qi h8.o1 x hx).1;have:=hL x I;omega
  ·exact .inl (ou (hL x hx))
  ·have:=(Qi h8.o2 x hx).1;have:=hL x I;omega
  ·exact .inl (ou (hL x hx))
  ·have:=(Qi h8.o3 x hx).1;have:=hL x I;omega
  have:=(Qi h8.o4 x hx).1;have:=hL x I;omega
 have gp:k<q.ts.length:=by have h39:(k:Int)<(q.ts.length:Int):=pg;omega
 have gq:k<T.length:=oa
 have pj:=Lm gp;have hTe:T[k]'gq=(q.ts[k]'gp).2:=by subst hT;simp
 have hr:=Qht (c:=q.c.V) (pl:=q.p.a) (ps:=q.qs.map (·.2)) gq;have gr:T.take (k+1)=T.take k++[T[k]'gq]:=Ll gq;have gg:=ko _ (Lm gq);rw[g2]at hr;rw[hTe]at hr gr gg;refine YH<|Qfy (α:=(O0×O0×O0×O0)×List TV×List TV×LI) [(7,17),(38,117)] (λz=>[(37,oF oG k)]) (λz hR W'=>O3 [H] J W'/\UV J.heap.size W'.heap.size hR W'/\Q7 W'.heap H 180 [q.s.va,oF oG q.s.a.st,q.s.vm,q.s.ve,z.1.1,z.1.2.1,z.1.2.2.1,z.1.2.2.2] /\
  Kl J.heap.size W' z.1.1 z.1.2.1 z.1.2.2.1 z.1.2.2.2 z.2.1 z.2.2.1 z.2.2.2 (spF q.c.V q.p.a (q.qs.map (·.2)) (T.take (k+1)))/\z.2.1.map (·.2)=(T.take (k+1)).map (·.take q.c.co.length)/\z.2.2.1.map (·.2)=(T.take (k+1)).map (·.drop q.c.co.length)/\z.2.2.2=(T.take (k+1)).map (λt=>plx (q.qs.map (·.2)) (t.take q.c.co.length))) ol ?_ ?_
 rotate_left
 ·rintro⟨⟨u1,u2,u3,u4⟩,cos',rqs',pls'⟩ g hR W ⟨hsW,hDW,hBW,hSW,G,h2,h3⟩;refine QM ol ol ?_;refine QN U U<|Qb<|xe ?_;exact⟨(k+1,(u1,u2,u3,u4),cos',rqs',pls'),oh,La,gp,hsW,hDW,hBW,hSW,G,h2,h3⟩
 refine Z1<|Zi<|QM ol ol ?_;refine Qb<|O6 (g:=YE) VU g4.ts.arr U U gp λa40 pm=>?_;refine Zk (q.ts[k]'gp) λt ht=>?_;rw[ht]at pm pj hr gr gg;have htI:=g4.ts.each t pj;have htl:t.2.length=q.c.co.length+q.c.rq.length:=by rw[gg.1,hal]
 refine x (QD pm U)<|Qa<|Qo (us:=[oF oG 0]) U λb7 w9 hs9 hb7 hB9=>Qa<|QA (j:=0) (u:=oF oG k) hB9 U U og U λw10 hs10 hB10 =>
  Qc ?_
 have ku:O3 [] w7 w10:=hs9.O hs10 hb7;refine Zi<|QM ol ol ?_;refine Qb<|Qb<|Qa<|xf<|(Qbk (g4.I ku) (htI.I ku) oa).mono ?_;rintro r11 pn ⟨po,v9,pp,rfl,hJ,hw⟩;refine Qb<|Q8 U U<|Q8 U U<|x Qk<|Qc ?_;have kv:=ku.D po;have kw:=g4.I kv;refine Zk (t.2.take q.c.co.length) λtc hU=>?_;refine Zk (t.2.drop q.c.co.length) λtr gs=>?_;rw[ga]at hr;rw[hU]at hJ hr;rw[gs]at hw;have htcl:tc.length=q.c.co.length:=by rw[<-hU,Ly];omega
 have htrl:tr.length=q.c.rq.length:=by rw[<-gs,LW];omega
 have hbdt:=gg.bd (m:=4096) (λa ha=>by
  rcases Lc.1 ha with ha|ha
  ·exact(YR hZ.co a ha).st1
  exact(YR hZ.rq a ha).st1)
 have pu:∀x∈tc,0<=x/\x<4096:=λx hx=>hbdt x (LR (by rw[hU];exact hx));refine Zi<|yB (O3 [] pn) [oD 0,oD 1,oD 2,oD 3,oD 4,oE 5,oD 6,oD 7] mixed ol ol od (O3.C _ _) ?_;refine p Qy<|p (YO U)<|p (QP U)<|pq (λ_ hc=>Qq (kw.B.I hc) U U)<|p Qy<|pk<|xf<|(QaV (hJ.I (O3.C _ _)) ((my.I (pd.D kv)).I (O3.C _ _)) pu oa).mono ?_;rintro r12 hf ⟨rfl,hs12⟩;have gh:=(O3.C [] pn).D hs12;refine⟨gh,?_⟩;have pw:(match O8 q.mm (KP tc)with|some u=>u|none=>oF oG 0)=oF oG (plx (q.qs.map (·.2)) tc):=by
  rw[hQ.m tc htcl (λx hx=>(pu x hx).1)];unfold plx;by_cases I:tc∈q.qs.map (·.2)
  ·rw[OS I,OS I]
  rw[OR I,OR I]
 refine Zk (plx (q.qs.map (·.2)) tc) λpi kx=>?_;rw[kx]at pw hr;refine pq (λ_ hc=>(Jr (k:=KP tc) (kw.m.I hc) U U).D (OT (λv=>Result.ok (Next.value v) _) pw))<|p ZH<|pe ?_;have gi:=kv.D gh;have hJ:=hJ.I gh;have hw:=hw.I gh;have h7:=kr.I gi;have gt:=S.I gi;have hS12d:=gt.I (O3.C [] hf);have hz712:=gi.size;have hzd:({ hf with drawn:=hf.drawn+1 }:OZ).heap.size=hf.heap.size:=rfl
 have hC0:O3 av hf { hf with drawn:=hf.drawn+1 }:=O3.C _ _
 have fin:∀{hg hh ho hi hj:O0} {wx wy:OZ},O3 av hf wx->Kl J.heap.size wx hg hh ho O (cos++[(hi,tc)]) (rqs++[(hj,tr)]) (pls++[pi]) fbs->O3 [H] wx wy->Q7 wy.heap H 180 [q.s.va,oF oG q.s.a.st,q.s.vm,q.s.ve,hg,hh,ho,O] ->
   O3 (H::av) hf wy/\Q7 wy.heap H 180 [q.s.va,oF oG q.s.a.st,q.s.vm,q.s.ve,hg,hh,ho,O]/\Kl J.heap.size wy hg hh ho O (cos++[(hi,tc)]) (rqs++[(hj,tr)]) (pls++[pi]) fbs:=λhC hP hs hB =>
  ⟨(hC.mono kt).Q (hs.mono (λx hx=>by simp only[oI]at hx;subst hx;exact Lt)),hB,hP.low hs (λx hx=>by simp only[oI]at hx;subst hx;exact kn)⟩
 have hkl:k<=4096:=oa
 have htr16:tr.length<=16:=oa
 have htc40:tc.length<=1099511627776:=oa
 have htr40:tr.length<=1099511627776:=oa
 have m2:cos.length+1<=1099511627776:=oa
 have ki:rqs.length+1<=1099511627776:=oa
 have hl3:pls.length+1<=1099511627776:=oa
 have gu:J.heap.size<=hf.heap.size:=oa
 refine Qfy (α:=O0×O0×O0×O0×O0) [(55,74)] (λ_=>[]) (λz hR w'=>hR=ds/\O3 (H::av) hf w'/\Q7 w'.heap H 180 [q.s.va,oF oG q.s.a.st,q.s.vm,q.s.ve,z.1,z.2.1,z.2.2.1,O]/\Kl J.heap.size w' z.1 z.2.1 z.2.2.1 O (cos++[(z.2.2.2.1,tc)]) (rqs++[(z.2.2.2.2,tr)]) (pls++[pi]) fbs) ol ?_ ?_
 ·refine Qkd (α:=O0×O0×O0×O0) (O3 av hf) [oD 0,oD 1,oD 2,oD 6,oD 7,oD 8,oD 12,oD 13,oD 14] [oE 3,oE 4,oE 5,oD 17,oE 9,oE 10,oE 11] 15 70
   [oE 16,oE 18,oD 19,oE 20,oD 21,oE 22] av [(55,74)] [(58,60),(64,66),(72,72)] (λz=>[(60,z.1),(66,z.2.1),(68,v3),(72,.pointer (some ⟨H,4,none⟩))]) (λz w'=>O3 av hf w'/\Kl J.heap.size w' z.1 z.2.1 v3 O (cos++[(z.2.2.1,tc)]) (rqs++[(z.2.2.2,tr)]) pls fbs)
   (λv w'=>∃b,v=.slice (some ⟨b,0,none⟩) 1 1/\Q7 w'.heap b 3 [oF oG pi]) mixed ol ol od ol U hC0 (λx hx=>LU (gb x hx).2 hz712) ?_ ?_ ?_ ?_
  ·rintro v own w w' ⟨b,rfl,hB⟩ hs hn;exact⟨b,U,hB.J hs (hn b ot)⟩
  ·rintro z w w' ⟨G,h2⟩ hs;exact⟨G.D hs,h2.I hs⟩
  ·rintro⟨hg,hh,hi,hj⟩ g wz v ⟨pz,hP⟩ _ ⟨b15,rfl,g7⟩;simp only[]at hP;have hcz:=pz.size;refine pk<|Za (news:=[oF oG pi]) (L:=[]) hP.o3 U U U (g7.at oe) (by simp[Value.oneCell']) hl3 (LJ gu hcz) λho y1 g8 hI hn1=>?_;have Q1:=Kl.a3 (q:=pi) hP (O3.Z [] _) g8 hI hn1;have kz:O3 av hf y1:=pz.Q (hI.mono (λb hb=>by rw[<-gn];exact z7 (.inr (.inr (.inl hb)))));refine⟨kz,?_⟩;refine pkl (hl:=by kernel_rfl)<|QA (j:=4) (u:=hg) (h7.J kz g3) U U oe (Qt Q1.o1) λy2 hF k0=>p (QP rfl) <|
    pkl (hl:=by kernel_rfl)<|QA (j:=5) (u:=hh) k0 U U oe (Qt Q1.o2) λy3 h6 hB3'=>p (QP rfl) <|
    pkl (hl:=by kernel_rfl)<|QA (j:=6) (u:=ho) hB3' U U oe (Qt Q1.o3) λy4 hN hB4'=>pe ?_
   exact⟨(hg,hh,ho,hi,hj),Z,U,fin kz Q1 ((hF.Q h6).Q hN) hB4'⟩
  refine p (QP U)<|pq (λ_ hc=>Qq (h7.J hc g3) U U)<|p Qy<|p (QP U)<|pq (λ_ hc=>Qq (h7.J hc g3) U U)<|p Qy <|
   p (QP rfl)<|pq (λ_ hc=>Qq (h7.J hc g3) U U)<|p Qy<|pe ⟨λg wf hCf=>QB (us:=[[oF oG pi]]) U U og oe ⟨rfl,rfl,Z⟩ λb wf' p0 hbf p7=>⟨p0,hCf.D p0,⟨b,rfl,p7⟩,λx hx=>?_⟩,?_⟩
  ·have hxe:x=b:=by
    have hx':x∈[b]:=hx;simpa using hx'
   subst hxe;exact⟨hbf,p7.lt⟩
  have p8:∀{X:LN},(∀x∈X,x∈ob v1\/x∈ob v2)->∀x∈X,x∈av:=λhX x hx=>by rw[<-gn];exact z7 ((hX x hx).imp id .inl)
  refine fk λx1 p1 c1=>xf<|(ZU (hJ.J c1 kt)).mono ?_;rintro hi y1 ⟨hI,g8⟩;have P1:=hS12d.I p1;have pb1:=LJ gu c1.size;refine⟨c1.D hI,av,hI.any,λb hb=>.inl hb,?_⟩;refine fk λx2 p2 c2=>QB (us:=[[hi]]) U U og oe ⟨xJ g8,rfl,Z⟩ λb2' y2 hF hb2' k0=>⟨c2.D hF,av,hF.any,λb hb=>.inl hb,?_⟩;refine fk λx3 p3 c3=>?_;have p9:=((hI.D p2).D hF).D p3;have qc:=Qp g8 ((p2.D hF).D p3);refine Za (news:=[hi]) (L:=[]) (Qp P1.o1 p9) U U U ((k0.I p3).at oe) (λu hu=>by rw[oI]at hu;subst hu;exact Qt qc) m2 (LJ gu c3.size) λhg y3 ho4 h6 hn3=>?_;have P2:=Kl.a1 (q:=(hi,tc)) P1 p9 qc htc40 (Lx _) pb1 ho4 h6 hn3;have qf:O3 av x3 y3:=h6.mono (p8 λx hx=>.inl hx);refine⟨c3.Q qf,av,qf,λb hb=>.inl hb,?_⟩;refine fp (QP U) ?_;refine fk λx4 p4 c4=>xf<|(ZU (hw.J c4 kt)).mono ?_;rintro hj y4 ⟨hN,ql⟩;have P3:=P2.I p4;have pb3:=LJ gu c4.size;refine⟨c4.D hN,av,hN.any,λb hb=>.inl hb,?_⟩;refine fk λx5 p5 c5=>QB (us:=[[hj]]) U U og oe ⟨xJ ql,rfl,Z⟩ λb5' y5 hY hb5' hB5'=>⟨c5.D hY,av,hY.any,λb hb=>.inl hb,?_⟩;refine fk λx6 p6 c6=>?_;have qo:=((hN.D p5).D hY).D p6;have qr:=Qp ql ((p5.D hY).D p6);refine Za (news:=[hj]) (L:=[]) (Qp P3.o2 qo) U U U ((hB5'.I p6).at oe) (λu hu=>by rw[oI]at hu;subst hu;exact Qt qr) ki (LJ gu c6.size) λhh y6 ho7 gz hn6=>?_;have P4:=Kl.a2 (q:=(hj,tr)) P3 qo qr htr40 (Lx _) pb3 ho7 gz hn6;have k4:O3 av x6 y6:=gz.mono (p8 λx hx=>.inr hx);refine⟨c6.Q k4,av,k4,λb hb=>.inl hb,?_⟩;exact fe ⟨(hg,hh,hi,hj),oC,c6.Q k4,P4⟩
 rintro⟨hg,hh,ho,hi,hj⟩ g hR k5 ⟨rfl,hK,q0,q1⟩;simp only[]at q0 q1;have hz13:=hK.size;have q2:=(kw.I gh).st hK;have hJ:=hJ.st hK;have hw:=hw.st hK;have g9:JM [] b k5.heap q:=q2.up oe;have hcell:∀x∈H::av,∃o:Obj,hf.heap[x]?=some o/\o.isCells=true:=λx hx=>by
  rcases Li.1 hx with rfl|hx
  ·exact h7.cells
  rw[<-gn]at hx;rcases QbP hx with G|G|G|G
  ·exact Go.Lg.QU gt.o1 x G
  ·exact Go.Lg.QU gt.o2 x G
  ·exact Go.Lg.QU gt.o3 x G
  exact Go.Lg.QU gt.o4 x G
 have hD13:UV J.heap.size w7.heap.size hR k5:=((pc.up (Lx _)).I gi).J hK hcell;have hb7n:b7∉H::av:=λI=>by
  rcases Li.1 I with G|G
  ·omega
  have:=(gb _ G).2;omega
 have hb1n:b1∉H::av:=λI=>by
  rcases Li.1 I with G|G
  ·omega
  have:=(gb _ G).1;omega
 have ka:=((hB10.I po).I gh).J hK hb7n;have k6:=((m3.I (h6.D gm)).I gi).J hK hb1n;have hs613:O3 [H] J k5:=(kq.D gi).then hK (λx hx=>by
  rcases Li.1 hx with G|G
  ·subst G;exact .inl Lt
  exact .inr (gb x G).1)
 have k7:(cos++[(hi,tc)]).map (·.2)=(T.take (k+1)).map (·.take q.c.co.length):=by rw[gr,Lp,Lp,gj,M9,M9,hU]
 have k8:(rqs++[(hj,tr)]).map (·.2)=(T.take (k+1)).map (·.drop q.c.co.length):=by rw[gr,Lp,Lp,gk,M9,M9,gs]
 have k9:pls++[pi]=(T.take (k+1)).map (λt=>plx (q.qs.map (·.2)) (t.take q.c.co.length)):=by rw[gr,Lp,gl,M9,hU,kx]
 have hVc:Vt (O5 q.c.V.co) tc:=by
  have G:=gg.take;rw[show(O5 q.c.V.co).length=q.c.co.length by unfold O5;rw[Lh];exact ga,hU]at G;exact G
 have hVr:Vt (O5 q.c.V.rq) tr:=by
  have G:=gg.drop;rw[show(O5 q.c.V.co).length=q.c.co.length by unfold O5;rw[Lh];exact ga,gs]at G;exact G
 have gv:=QbE hQ.ok hQ.p;have hpr:=QhU gv.2.2.1 tc;rw[kx,<-gv.2.1]at hpr;have hckp:cks q.p.a pi=0:=by
  unfold cks;rw[OR (by rw[(Z6 q.p.a).2 gv.1];decide),OR oa]
 have hvo:=qI g9.k1 g9.k2 g9.k3 (hJ.up (L':=[]) oe) (by rw[hQ.ex,hQ.cs];exact hZ.cd) hVc.tpOk;have h4:rsn q.c.V q.p.a pi k t.2=(match vio q.c.V tc with|some (kd,j)=>some ⟨k,kd,j,-1⟩|none=>match rfd q.c.V tr (Qgm q.p.a pi)with|some (j,v)=>some ⟨k,3,j,v⟩|none=>none):=by unfold rsn;rw[ga,hU,gs];rfl
 rw[Qg7]at h4;rw[hQ.ex,hQ.cs]at hvo;refine Zk (Uh q.c.V.ex q.c.V.cs tc) λV hV=>?_;rw[hV]at hvo h4;refine Zi<|Zi<|QM ol ol ?_;refine Qb<|Yb U<|Q0 U<|x (Zl (us:=[q.vs,q.vx,q.vk]) g9.B U U U)<|Qb<|Qa<|xf<|hvo.mono ?_;rintro r14 ma ⟨hA,rfl⟩;refine Qb<|Q8 U U<|Q8 U U<|Q8 U U<|Q8 U U<|x Qk<|x Qk<|x Qk<|Qc ?_;have kb:=q0.I hA;have hM:=q1.I hA;have q3:=hD13.I hA;have q4:=hs613.D hA;have hz14:=hA.size;have q5:fbs.length+1<=1099511627776:=oa
 have hb014:J.heap.size<=ma.heap.size:=oa
 have hz714:w7.heap.size<=ma.heap.size:=oa
 refine Zi<|QM ol ol ?_;refine Qb<|xe<|Uc rfl (λmf=>?_) (λmf=>?_)
 ·rw[OS mf]at h4;simp only[]at h4;rw[h4]at hr;refine Zi<|QM ol ol ?_;refine Qs U kb U U<|Y2 (ka.I hA) U U<|Qb<|Qb<|x (Qz ⟨U,U,U,U,Z⟩) <|
   Qa<|QB (us:=[ZT ⟨k,V.1,V.2.1,-1⟩]) U U og oe ⟨rfl,rfl,Z⟩ λb93 y1 hG hb93 mg=>?_
  have j1:=hG.size;refine Qa<|Za (m:=1) (news:=ZT ⟨k,V.1,V.2.1,-1⟩) (L:=[]) (Qp hM.o4 hG) U U U (mg.at oe) (by simp[Value.oneCell']) q5 (LJ hb014 j1) λu4 y2 gw gx mh=>?_;have mj:H∉ob O:=λI=>ou (Qi hM.o4 _ I).1
  refine Q0 U<|Qa<|QA (j:=7) (u:=u4) ((kb.I hG).J gx mj) U U oe (Qt gw) λy3 mo mq=>xe ?_;have h5:=Kl.add (q:=⟨k,V.1,V.2.1,-1⟩) kb hM kn hG gw gx mh mo;refine Vm<|⟨((hg,hh,ho,u4),cos++[(hi,tc)],rqs++[(hj,tr)],pls++[pi]),La,q4.then h5.1 (λx hx=>?_),((q3.J h5.1 h5.2.2).up (LJ hz714 h5.1.size)),mq,?_,k7,k8,k9⟩
  ·rcases Li.1 hx with G|G
   ·subst G;exact .inl Lt
   exact .inr (Qi hM.o4 x G).1
  simp only[];rw[hr];exact h5.2.1
 rw[OR (by rw[mf];decide)]at h4;simp only[]at h4;refine YH ?_;have hA14:=q2.I hA;have hw:=hw.I hA;refine Zi<|QM ol ol ?_;refine Qb<|Qb<|Qb<|Qa<|xf<|(qB (b:=b) (st:=pi) (vr:=pp) hw.cells).mono ?_;rintro r15 kc ⟨hH,c1,c2,c3,rfl,hc1,hc2,hc3,hR1,hR2,hR3⟩;refine xe ?_;have hz15:=hH.size;have g7:=kb.I hH;have j2:=hM.I hH;have j3:=q3.I hH;have za:=q4.D hH;have hA15:=hA14.I hH;have ka:=ka.I (hA.D hH);have k6:=k6.I (hA.D hH);have hw:=hw.I hH;refine Zk (wrf q.c.V.rq tr (enb q.p.a pi)) λfl ke=>?_;have zb:∀x∈H::ob O,x∈H::av:=λx hx=>by
  rcases Li.1 hx with rfl|hx
  ·exact Lt
  exact Lk _ (by rw[<-gn];exact z7 (.inr (.inr (.inr hx))))
 have ms:∀x∈H::ob O,x<ma.heap.size:=λx hx=>by
  rcases Li.1 hx with rfl|hx
  ·omega
  exact(Qi hM.o4 x hx).2
 have zv:JM (H::ob O) b kc.heap q:=hA15.up (λx hx=>.inl (zb x hx));have hIr15:QQ (H::ob O) kc.heap pp tr:=hw.up (λx hx=>.inl (zb x hx));have hEv:∀p∈fl,0<=p.1/\p.1<(q.c.ev.length:Int):=λp hp=>by
  rw[<-ke]at hp;have G:=(qY.1 hp).1;unfold enb at G;obtain⟨e,he,h2⟩:=LD.1 G;have h3:=gv.2.2.2 _ (gv.1.ed e (Yf he).1).2.2.1;rw[h2]at h3;exact h3
 refine Z1<|QcI (α:={ x:Int×Int // x∈fl }) (H::ob O) oa (capt:=[.pointer (some ⟨c1,0,none⟩),.pointer (some ⟨c2,0,none⟩),.pointer (some ⟨c3,0,none⟩)]) U (encs:=λx=>[oF oG x.1.1,oF oG x.1.2]) og (λ_=>U)
  (Um hR1 hR2 hR3 (λI=>ou (ms _ I)) (λI=>ou (ms _ I)) (λx hx=>ou (ms _ hx)) zv hIr15 (λx hx=>hZ.rq x.it (LK hx)) hVr hckp U ke)
  (λpre W=>(∀y∈pre,(q.c.V.ev.getD y.1.1.toNat ⟨.empty,false,false,false,0⟩).co=true)/\O3 [] kc W) (λpre=>(Yt.pure _).and (Yt.J (Lx _)))
  (λe pre W=>e=.exit 2/\(∃p y,pre=p++[y]/\(∀y∈p,(q.c.V.ev.getD y.1.1.toNat ⟨.empty,false,false,false,0⟩).co=true)/\(q.c.V.ev.getD y.1.1.toNat ⟨.empty,false,false,false,0⟩).co=false /\
   ∃u4,O3 (H::ob O) kc W/\Q7 W.heap H 180 [q.s.va,oF oG q.s.a.st,q.s.vm,q.s.ve,hg,hh,ho,u4]/\Kl J.heap.size W hg hh ho u4 (cos++[(hi,tc)]) (rqs++[(hj,tr)]) (pls++[pi]) (fbs++[⟨k,3,y.1.2,y.1.1⟩])/\UV J.heap.size w7.heap.size hR W))
  (λe pre=>(Yt.pure _).and (Yt.ex λp=>Yt.ex λy=>(Yt.pure _).and ((Yt.pure _).and ((Yt.pure _).and (Yt.ex λu4=>(Yt.J (Lx _)).and (Yt.blk.and ((Yt.cst λW W' h hc hz=>h.cst hc hz).and (UV.stb oa))))))))
  ⟨λy hy=>(by cases hy),O3.Z _ _⟩
  (λf x f' W=>f'=upd (upd (upd (upd f 100 (oF oG x.1.1)) 101 (oF oG x.1.2)) 16 (oF oG x.1.1)) 17 (oF oG x.1.2)) (λx f'=>Yt.pure _) ?_ ?_ ?_ ?_
 ·rintro l pre ⟨⟨e,i⟩,he⟩ W Y;refine Zi<|QM ol ol ?_;refine Qc<|QM ol ol ?_;refine Qc ?_;exact⟨U,KJ.refl _ _ _,Lg.XH.refl _ _,Y,U⟩
 ·rintro l pre ⟨⟨e,i⟩,he⟩ f' W ⟨kf,Y⟩ rfl _;have hee:=hEv _ he;simp only[]at hee;have hen:e=(e.toNat:Int):=oa
  have kg:e.toNat<q.c.ev.length:=oa
  have hAW:=zv.I Y;refine Z1<|Zi<|QM ol ol ?_;refine Qs U (k6.I Y) U U<|Qb<|O6 (g:=Zu) (i:=e.toNat) UE hAW.c.ev.arr U (OT (Value.int .i64) hen) kg λa105 z0=>?_;have hge:q.c.V.ev.getD e.toNat ⟨.empty,false,false,false,0⟩=q.c.ev[e.toNat]'kg:=by
   show q.c.ev.getD e.toNat _=_;simp[oQ,kg]
  refine Zk (q.c.ev[e.toNat]'kg) λv hv=>?_;rw[hv]at z0 hge;refine x (Zg U)<|x (QD (z0.fld 1 (.bool v.co) U) U)<|x (Zz U)<|xe<|Uc U (λmt=>?_) (λmt=>?_)
  ·have mu:v.co=false:=by simpa using mt
   have hS:=j2.I Y;have hB:=g7.I Y;have gc:=Y.size;refine Zi<|QM ol ol ?_;refine Qs U hB U U<|Y2 (ka.I Y) U U<|Qb<|Qb<|x (Qz ⟨U,U,U,U,Z⟩) <|
    Qa<|QB (us:=[ZT ⟨k,3,i,e⟩]) U U og oe ⟨rfl,rfl,Z⟩ λb93 y1 hG hb93 mg=>?_
   have j1:=hG.size;refine Qa<|Za (m:=1) (news:=ZT ⟨k,3,i,e⟩) (L:=[]) (Qp hS.o4 hG) U U U (mg.at oe) (by simp[Value.oneCell']) q5 oa λu4 y2 gw gx mh=>?_;have mj:H∉ob O:=λI=>ou (Qi hM.o4 _ I).1
   refine Q0 U<|Qa<|QA (j:=7) (u:=u4) ((hB.I hG).J gx mj) U U oe (Qt gw) λy3 mo mq=>xe ?_;have h5:=Kl.add (q:=⟨k,3,i,e⟩) hB hS kn hG gw gx mh mo;refine Vm ?_;exact⟨KJ.J h5.1 gc (λx hx=>⟨.inl hx,h5.2.2 x hx⟩),U,pre,_,U,kf,by simp only[];rw[hge];exact mu,u4,Y.any.Q h5.1,mq,h5.2.1,(j3.I Y).J h5.1 h5.2.2⟩
  have mu:v.co=true:=by simpa using mt
  refine YH<|⟨KJ.refl _ _ _,Lg.XH.refl _ _,λy hy=>?_,Y⟩;rcases Lc.1 hy with G|G
  ·exact kf y G
  simp only[oI]at G;subst G;simp only[];rw[hge];exact mu
 ·rintro D xs W hD hxs ⟨kf,Y⟩ mv;have mw:rfd q.c.V tr (Qgm q.p.a pi)=none:=zE λx hx=>by
   rw[show wrf q.c.V.rq tr (Qgm q.p.a pi)=fl from ke,<-hxs]at hx;obtain⟨y,hy,rfl⟩:=LD.1 hx;exact kf y hy
  rw[mw]at h4;rw[h4]at hr;refine⟨((hg,hh,ho,O),cos++[(hi,tc)],rqs++[(hj,tr)],pls++[pi]),La,za.D Y,(j3.I Y).cons oa oa mv,g7.I Y,?_,k7,k8,k9⟩;simp only[];rw[hr];have h9:=j2.I Y;simpa using h9
 rintro D e pre W hD hSp ⟨rfl,p,y,rfl,hp,hy,u4,hst,hBu,hSu,hDu⟩ mv _;have mw:rfd q.c.V tr (Qgm q.p.a pi)=some (y.1.2,y.1.1):=by
  obtain⟨rs,z1⟩:=hSp;rw[Lp]at z1;refine zD (x:=y.1) (t:=rs) (p:=p.map (·.1)) ?_ (λz hz=>?_) hy
  ·exact(show wrf q.c.V.rq tr (Qgm q.p.a pi)=fl from ke).D (z1.symm.D oe)
  obtain⟨z',hz',rfl⟩:=LD.1 hz;exact hp z' hz'
 rw[mw]at h4;simp only[]at h4;rw[h4]at hr;refine⟨((hg,hh,ho,u4),cos++[(hi,tc)],rqs++[(hj,tr)],pls++[pi]),La,za.then hst (λx hx=>?_),hDu.cons oa oa mv,hBu,?_,k7,k8,k9⟩
 ·rcases Li.1 hx with G|G
  ·subst G;exact .inl Lt
  exact .inr (Qi hM.o4 x G).1
 simp only[];rw[hr];exact hSu
theorem At.from {a:Addr}(h:At L H a us)(j:Nat):At L H (a.add j) (us.drop j):=
 ⟨λu E=>by rw[Yz];exact h.out u (L6 E),λu E=>by rw[Yz];exact h.lt u (L6 E),λi v G=>by
  rw[Addr.add_add];exact h.cell (j+i) v (by rw[<-MA];exact G)⟩
def lwB (l:LI)(n:Int):Nat:=(l.filter λx=>decide (x<n)).length
theorem QnJ {n:Int}(_:Y1 l)(hi:i<=l.length)(H:∀m (E:m<l.length),m<i->l[m]<n)(I:∀m (E:m<l.length),i<=m->n<=l[m]):lwB l n=i:=by
 unfold lwB;have e1:(l.take i).filter (λx=>decide (x<n))=l.take i:=NA.2 λx hx=>by
  obtain⟨m,E,rfl⟩:=LO hx;rw[Nd];have G:m<i/\m<l.length:=by rw[Ly]at E;omega
  exact OV (H m G.2 G.1)
 have e2:(l.drop i).filter (λx=>decide (x<n))=[]:=Nj.2 λx hx=>by
  obtain⟨m,E,rfl⟩:=LO hx;rw[List.getElem_drop];have G:i+m<l.length:=by rw[LW]at E;omega
  have:=I (i+m) G oa;simp;omega
 have J:l.filter (λx=>decide (x<n))=l.take i:=by
  conv=>lhs;rw[<-MB i l]
  rw[LZ,e1,e2,LS]
 rw[J,Ly];omega
theorem QeC:∀{l:LI}{n:Int},Y1 l->n∈l->lwB l n=l.idxOf n
 | [],_,_,h=>by cases h
 | a::l,n,hi,h=>by
  have E:=L3.1 hi;unfold lwB;by_cases e:a=n
  ·subst e;have e2:l.filter (λx=>decide (x<a))=[]:=Nj.2 λx hx=>by have:=E.1 x hx;simp;omega
   rw[Mc,OR oe,e2];simp
  have H:n∈l:=by
   rcases Li.1 h with G|G
   ·exact OU G.symm e
   exact G
  have ih:=QeC E.2 H;unfold lwB at ih;have I:=E.1 n H;rw[Mc,OS (OV I),LQ,ih,List.idxOf_cons];have:(a == n)=false:=by simpa using e
  rw[this];rfl
theorem QcA {v:O0}(h:QQ L w.heap v l)(hi:Y1 l)(n:Int):
  Q5 prog 174 [v,oF oG n] w λr w'=>w'=w/\r=.tuple #[oF oG (lwB l n),.bool (decide (n∈l))]:=by
 have hu:=h.le;refine Zs func174 ntmps174 results174 ?_;refine Qe<|x Qk<|Qc<|Qm<|QL h U<|Qc<|Qm<|x Qk<|Qc<|Qd<|Qg<|QC (α:=Nat×Nat) [(7,9),(13,30)] (λz=>[(7,oF oG z.1),(8,oF oG z.2)])
  (λz w'=>w'=w/\z.1<=z.2/\z.2<=l.length/\(∀m (E:m<l.length),m<z.1->l[m]<n)/\(∀m (E:m<l.length),z.2<=m->n<=l[m])) (λz=>z.2 - z.1) ol (0,l.length) oA
  ⟨U,Ln _,Lx _,λm _ O=>OU O (Nf m),λm h1 O=>OU h1 (by simp only[]at O;omega)⟩ ?_
 rintro⟨i,j⟩ g w1 ⟨rfl,hc,V,G,H⟩;simp only[]at hc V G H;refine Qd<|Qm<|Qb<|QX U U<|xe<|QG rfl (λhe=>?_) (λhe=>?_)
 ·have e:i=j:=oa
  subst e;refine Qx<|Q3 (α:=Bool) [(4,5),(31,53)] (λz=>[(4,oF oG i),(5,.bool z)]) (λz w'=>w'=w1/\z=decide (n∈l)) ol ?_ ?_
  ·refine Qw<|Qb<|Qb<|Qb<|xb (YJ U U) (λhf=>?_) (λhf=>?_)
   ·have I:i<l.length:=oa
    refine Qb<|Qb<|Qb<|xii h U U I λhv hg=>x (QD hg U)<|Qb<|xb (Q9 U U) (λS=>?_) (λS=>?_)
    ·refine Qb<|Qr<|Qr<|Qr<|Qr<|Qr<|Qr<|Qr<|Qr<|Qr<|QK U<|QK U<|x Qk<|Qc ?_;have:n∈l:=by rw[<-S];exact Lm I
     exact⟨true,oA,U,by simp[this]⟩
    refine Qb<|Qb<|Qb<|xii h U U I λhw hk=>x (QD hk U)<|Qa<|xf<|(QbW _).mono ?_;rintro r3 w3 ⟨rfl,rfl⟩;refine Qb<|Qr<|Qr<|QK U<|QK U<|QK U<|x Qk<|Qc<|⟨false,oA,U,?_⟩;have:n∉l:=by
     intro E;obtain⟨m,J,Y⟩:=LO E;by_cases hl:m<i
     ·have:=G m J hl;omega
     by_cases hn:m=i
     ·subst hn;exact S Y
     have:=Y1.get hi J (show i<m by omega);have:=H i I (Lx _);omega
    simp[this]
   refine Qb<|Qr<|Qr<|Qr<|Qr<|Qr<|Qr<|Qr<|Qr<|Qr<|Qr<|Qr<|Qr<|Qr<|Qr<|Qr<|Qr<|xs U <|
    QK rfl<|x Qk<|Qc<|⟨false,oA,U,?_⟩
   have:n∉l:=by
    intro E;obtain⟨m,J,Y⟩:=LO E;have:=G m J oa;omega
   simp[this]
  rintro z g w7 ⟨rfl,rfl⟩;exact Ql ⟨[oF oG i,.bool (decide (n∈l))],oA,U,by rw[QnJ hi (show i<=l.length by omega) G H];rfl⟩
 refine Qh<|Qg<|Qm<|Qb<|QN U U<|x (Ye U (by exact⟨oa,oa⟩))<|x (ji (n:=1) U U og)<|x (Ye U (by exact⟨oa,oa⟩))<|Qc ?_;have hh:(((i:Int)+(j:Int)) / 2 ^ 1)=(((i+j) / 2:Nat):Int):=oa
 rw[hh];generalize hq:(i+j) / 2=q;have ho:i<=q:=oa
 have hp:q<j:=oa
 have ha:q<l.length:=oa
 refine Qm<|Qb<|xii h U U ha λhy hr=>x (QD hr U)<|Qb<|Qa<|xf<|(QeG _ _).mono ?_;rintro r8 w8 ⟨rfl,rfl⟩;refine xe<|QG rfl (λhb=>?_) (λhb=>?_)
 ·refine Qw<|Qb<|Qc<|⟨(i,q),oh,oA,U,ho,oa,G,λm E hs=>?_⟩;by_cases e:q=m
  ·subst e;omega
  have:=Y1.get hi E (show q<m by simp only[]at hs;omega);omega
 refine Qw<|Qb<|QN U U<|Qc<|⟨(q+1,j),oh,oA,U,hp,V,λm E ht=>?_,H⟩;by_cases e:m=q
 ·subst e;exact hb
 have:=Y1.get hi ha (show m<q by simp only[]at ht;omega);omega
theorem KC {v:O0}{l:List Ed}(h:Zv L w.heap v l.length 3 (l.flatMap QF)):
  Q5 prog 107 [v] w λr w'=>O3 [] w w'/\w'.ownsRow w.heap.size 213 3 r l.length (l.flatMap QF):=by
 have hc:=h.le;refine Zs func107 ntmps107 results107 ?_;refine Qe<|Qc ?_;obtain⟨ao,cap,G⟩:=h.shape;refine Qd<|Qm<|x (Xu (show ev _ _=_ from G) U)<|xe<|QW rfl (λH=>?_) (λH=>?_)
 ·refine Qe<|Qc<|Ql ⟨[nS],La,O3.Z _ _,?_⟩;rcases h.2.2 with⟨E,I⟩|⟨a,c,E,_⟩
  ·have:l=[]:=Lq I;subst this;exact QJ _ _ _ _
  rw[E]at G;cases G;cases H
 rcases h.2.2 with⟨E,I⟩|⟨a,c,E,I,Y⟩
 ·rw[E]at G;injection G with e1;subst e1;cases H
 refine Qh<|Qe ?_;have ho:∀u∈l.flatMap QF,u.oneCell'=true:=by
  intro u hu;obtain⟨p,_,J⟩:=Mi.1 hu;simp only[QF,oK,oJ,or_false]at J;rcases J with rfl|rfl|rfl <;> rfl
 refine Qa<|XQ λb5 w1 O S V=>Qb<|Qa<|Za (base:=w.heap.size) (V.own (n:=0) (sz:=3) U oa S) U (show ev _ _=_ from E) h.1 (Y.I O) ho oa (ou V.lt) λv2 w2 ha hb he=>Qc<|Ql ⟨[v2],La,O.O hb S,?_⟩;simpa[tup]using ha
theorem V3 {v:O0}{l:List JY}(h:Zv L w.heap v l.length 5 (l.flatMap Zu)):
  Q5 prog 56 [v] w λr w'=>O3 [] w w'/\w'.ownsRow w.heap.size 146 5 r l.length (l.flatMap Zu):=by
 have hc:=h.le;refine Zs func56 ntmps56 results56 ?_;refine Qe<|Qc ?_;obtain⟨ao,cap,G⟩:=h.shape;refine Qd<|Qm<|x (Xu (show ev _ _=_ from G) U)<|xe<|QW rfl (λH=>?_) (λH=>?_)
 ·refine Qe<|Qc<|Ql ⟨[nS],La,O3.Z _ _,?_⟩;rcases h.2.2 with⟨E,I⟩|⟨a,c,E,_⟩
  ·have:l=[]:=Lq I;subst this;exact QJ _ _ _ _
  rw[E]at G;cases G;cases H
 rcases h.2.2 with⟨E,I⟩|⟨a,c,E,I,Y⟩
 ·rw[E]at G;injection G with e1;subst e1;cases H
 refine Qh<|Qe ?_;have ho:∀u∈l.flatMap Zu,u.oneCell'=true:=by
  intro u hu;obtain⟨p,_,J⟩:=Mi.1 hu;simp only[Zu,oK,oJ,or_false]at J;rcases J with rfl|rfl|rfl|rfl|rfl <;> rfl
 refine Qa<|XQ λb5 w1 O S V=>Qb<|Qa<|Za (base:=w.heap.size) (V.own (n:=0) (sz:=5) U oa S) U (show ev _ _=_ from E) h.1 (Y.I O) ho oa (ou V.lt) λv2 w2 ha hb he=>Qc<|Ql ⟨[v2],La,O.O hb S,?_⟩;simpa[tup]using ha
structure VH {α:Type}(g:α->LV)(sz T:Nat)(ps:α->List (O0×Nat×Nat×LV))(base:Nat)(w:OZ)(v:O0)(l:List α):Prop where
 own:w.ownsRow base T sz v l.length (l.flatMap g)
 each:∀q∈l,∀t∈ps q,YA base (ob v) w.heap t.1 t.2.1 t.2.2.1 t.2.2.2
section
variable {g:α->LV}{ps:α->List (O0×Nat×Nat×LV)}{base:Nat}{v:O0}{l:List α}
theorem VH.nil:VH g sz T ps base w (nS) []:=⟨QJ _ _ _ _,λq E=>by cases E⟩
theorem VH.I (h:VH g sz T ps base w v l)(E:O3 [] w w'):VH g sz T ps base w' v l:=⟨Qp h.own E,λq G t H=>(h.each q G t H).I E⟩
theorem VH.low {X:LN}(h:VH g sz T ps base w v l)(E:O3 X w w')(G:∀b∈X,b<base):VH g sz T ps base w' v l :=
 ⟨Qf h.own E (λb H I=>ov (Qi h.own b H).1 (G b I)),λq J t O=>(h.each q J t O).low E G⟩
theorem VH.app {E G:OZ}{H:O0}{q:α}(h:VH g sz T ps base w v l)(V:O3 [] w E)
  (Y:∀t∈ps q,∃N e,E.ownsRow N e t.2.2.1 t.1 t.2.1 t.2.2.2/\t.2.1<=1099511627776/\w.heap.size<=N) (I:base<=w.heap.size)
  (ho:G.ownsRow base T sz H (l.length+1) (l.flatMap g++g q)) (J:O3 (ob v) E G) (O:∀b∈ob H,b∈ob v\/E.heap.size<=b):VH g sz T ps base G H (l++[q]):=by
 have ha:=Zb h.own;refine⟨?_,λd hd t S=>?_⟩
 ·rw[Lj,LA];simpa using ho
 rcases Lc.1 hd with hd|hd
 ·exact((h.each d hd t S).I V).app J O
 simp only[oI]at hd;subst hd;obtain⟨N,e,h1,h2,h3⟩:=Y t S;exact(YA.of_own h1 h2 oa (λb I=>ou (ha b I))).app J O
end
abbrev Qf9 (q:IV):List (O0×Nat×Nat×LV):=[(q.p.va,q.p.a.al.length,1,q.p.a.al.map (.int .i64)),(q.p.vm,q.p.a.mr.length,1,q.p.a.mr.map (.int .i64)),(q.p.ve,q.p.a.ed.length,3,q.p.a.ed.flatMap QF)]
abbrev IvP (base:Nat)(w:OZ)(v:O0)(l:List IV):Prop:=VH QO 5 64 Qf9 base w v l
def QqW (N:Nat)(H:xx)(v:O0)(l:List XG):Prop:=∃qs:List IV,qs.map IV.it=l/\∀L:LN,(∀b∈L,b<N)->XD L H v qs
theorem IvP.itms {base:Nat}{v:O0}{l:List IV}(h:IvP base w v l)(I:l.length<=1099511627776)(J:∀q∈l,J6 q.nm)(G:∀b∈L,b<base):XD L w.heap v l :=
 ⟨QH h.own I (λb E hbL=>ov (Qi h.own b E).1 (G b hbL)),λq H=>⟨h.each q H (q.p.va,q.p.a.al.length,1,q.p.a.al.map (.int .i64)) oe L (λb E=>.inl (G b E)),h.each q H (q.p.vm,q.p.a.mr.length,1,q.p.a.mr.map (.int .i64)) oe L (λb E=>.inl (G b E)),h.each q H (q.p.ve,q.p.a.ed.length,3,q.p.a.ed.flatMap QF) oe L (λb E=>.inl (G b E))⟩,J⟩
instance:Bw prog 64 [.string .empty,nS,oF oG 0,nS,nS] [(0,1),(1,4)]:=⟨od,og⟩
theorem yq {v vi:O0}{ix:LI}(h0:XD L w.heap v qs)(hD:QQ L w.heap vi ix)(hb:∀i∈ix,0<=i/\i<(qs.length:Int)):
  Q5 prog 172 [v,vi] w λr w'=>O3 [] w w'/\QqW w.heap.size w'.heap r (chs (qs.map IV.it) ix)/\r.oneCell'=true:=by
 have h:XD [] w.heap v qs:=h0.up oe;have hi:QQ [] w.heap vi ix:=hD.up oe;have hT:=hi.le;refine Zs func172 ntmps172 results172 ?_;refine Qe<|Qc<|Qe<|Qc<|Qd<|Qm<|QL hi U<|Qb<|xe<|Qg<|QC (α:=Nat×O0×List IV) [(5,5),(7,8),(11,41)] (λz=>[(5,z.2.1),(11,oF oG z.1)]) (λz w'=>z.1<=ix.length/\O3 [] w w'/\IvP w.heap.size w' z.2.1 z.2.2/\z.2.2.map IV.it=chs (qs.map IV.it) (ix.take z.1)/\∀q∈z.2.2,J6 q.nm) (λz=>ix.length - z.1) ol (0,nS,[]) oA
  ⟨Ln _,O3.Z _ _,VH.nil,U,λq hq=>by cases hq⟩ ?_
 rintro⟨k,vo,qo⟩ g w1 ⟨hk,I,J,hf,hp⟩;simp only[]at hk J hf hp;have hU:qo.length=k:=by have:=OT oP hf;unfold chs at this;rw[Lh,Lh,Ly]at this;omega
 refine Qe<|QX U U<|xe<|Qd<|QG U (λhr=>?_) (λhr=>?_)
 ·refine Qx ?_;have hE:ix.length<=k:=by have hh:¬(k:Int)<(ix.length:Int):=hr;omega
  rw[Ls hE]at hf;refine Qm<|Qc ?_;exact Ql ⟨[_],La,I,⟨qo,hf,λL hL=>J.itms oa hp hL⟩,Qt J.own⟩
 refine Qh ?_;have O:k<ix.length:=by have hh:(k:Int)<(ix.length:Int):=hr;omega
 have hF:=hb _ (Lm O);have h6:ix.take (k+1)=ix.take k++[ix[k]'O]:=Ll O;refine Zk (ix[k]'O) λi h7=>?_;rw[h7]at hF h6;have h8:i=(i.toNat:Int):=oa
 have S:i.toNat<qs.length:=oa
 have hA:chs (qs.map IV.it) (ix.take (k+1))=chs (qs.map IV.it) (ix.take k)++[(qs[i.toNat]'S).it]:=by
  rw[h6];unfold chs;rw[Lp];simp[oQ,S]
 have h1:=h.I I;have hs:=Lm S;refine Zk (qs[i.toNat]'S) λq hq=>?_;rw[hq]at hA hs;have H:=h1.each q hs;have hG:=h1.nm q hs;refine Qd<|Qg<|Qe<|xii (i:=k) (hi.I I) U U O λhV hh=>?_;rw[h7]at hh;refine x (QD hh U)<|Qc<|Qm<|Qb<|O6 (g:=QO) (i:=i.toNat) Yj h1.arr U (OT (Value.int .i64) h8) S λhW hB=>?_;rw[hq]at hB;refine x (Zg U)<|x (Qv (us:=[q.p.va,oF oG q.p.a.st,q.p.vm,q.p.ve]) (hB.from 1) U U)<|Qa<|Qo (us:=[nS,oF oG 0,nS,nS]) U λb8 w2 hH hI V =>
  Qa<|Qj (us:=[q.p.va,oF oG q.p.a.st,q.p.vm,q.p.ve]) V U U U U ⟨H.al.one,U,H.mr.one,H.ed.one,Z⟩ λE hJ V=>xe ?_
 have hj:O3 [] w1 E:=hH.O hJ hI;have Y:O3 [] E { E with drawn:=E.drawn+1 }:=O3.C _ _
 have hX:=hj.size;have hY:=I.size;have hv:=Qi J.own;have h3:XD (ob vo) E.heap v qs:=(h.up (L':=ob vo) (λb hb=>.inr (hv b hb).1)).I (I.D hj);have hl:b8∉ob vo:=λhm=>ou (hv b8 hm).2
 have hw:=H.I hj;refine QR (O3 (ob vo) E) [oD 0,oD 1,oD 2,oD 3,oD 4,oD 5,oD 6,oD 7,oD 9,oD 10,oD 11,oD 12,oD 14,oD 15,oE 8,oE 13,oE 16,oD 17,oD 18,oE 19,oE 20,oD 21] mixed ol od (O3.C _ _) ?_;refine p Qy<|p Qy<|p Qy<|Go.Lg.pig (g:=QO) (i:=i.toNat) U Yj h3.arr U (OT (Value.int .i64) h8) S λhZ hC=>?_;rw[hq]at hC;refine p (λ_=>Zg U)<|pq (λ_ G=>QD ((hC.fld 0 (.string q.nm) U).st G) U)<|p (QP U)<|pq (λ_ G=>Qq (V.J G hl) U U)<|p (QP U) <|
  pq (λ_ G=>Qq (V.J G hl) U U)<|p (QP U)<|pq (λ_ G=>Qq (V.J G hl) U U) <|
  p (QP rfl)<|pq (λ_ G=>Qq (V.J G hl) U U)<|pk<|xf<|(ZU (hw.al.I Y)).mono ?_
 rintro r4 w4 ⟨ha,hy⟩;refine⟨(Y.D ha).any,?_⟩;refine pk<|xf<|(ZU ((hw.mr.I Y).I ha)).mono ?_;rintro r5 w5 ⟨hg,hz⟩;refine⟨((Y.D ha).D hg).any,?_⟩;refine pk<|xf<|(KC (((hw.ed.I Y).I ha).I hg)).mono ?_;rintro r6 w6 ⟨h2,h4⟩;have hn:=((Y.D ha).D hg).D h2;refine⟨hn.any,?_⟩;refine p (λ_=>Qz ⟨xJ hy,U,xJ hz,xJ h4,Z⟩)<|p (λ_=>Zt [(0,[.string q.nm]),(1,[r4,oF oG q.p.a.st,r5,r6])] ⟨U,U,U,U,Z⟩)<|pk<|QB (us:=[QO ⟨q.nm,⟨r4,r5,r6,q.p.a⟩⟩]) U U og oe ⟨rfl,rfl,Z⟩ λga w7 he gb hK=>⟨(hn.D he).any,?_⟩;have ho:=(hj.D hn).D he;have gc:=ho.size;have gg:({ E with drawn:=E.drawn+1 }:OZ).heap.size=E.heap.size:=rfl
 have gh:=ha.size;have gi:=hg.size;refine pk<|Za (m:=1) (news:=QO ⟨q.nm,⟨r4,r5,r6,q.p.a⟩⟩) (L:=[]) (Qp J.own ho) U U U (hK.at oe) (λu hu=>by
   simp only[oK,oJ,or_false]at hu;rcases hu with rfl|rfl|rfl|rfl|rfl
   ·rfl
   ·exact Qt hy
   ·rfl
   ·exact Qt hz
   exact Qt h4) oa oa λv8 w8 hM h5 hN=>⟨(hn.D he).any.Q h5,?_⟩
 refine p ZH<|pe ?_;have hO:=H.al.le;have hP:=H.mr.le;have hQ:=H.ed.le;have hR:IvP w.heap.size w8 v8 (qo++[⟨q.nm,⟨r4,r5,r6,q.p.a⟩⟩]):=J.app ho (λt ht=>by
  simp only[oK,oJ,or_false]at ht;rcases ht with rfl|rfl|rfl
  ·exact⟨_,_,Qp (Qp (Qp hy hg) h2) he,hO,oa⟩
  ·exact⟨_,_,Qp (Qp hz h2) he,hP,oa⟩
  exact⟨_,_,Qp h4 he,hQ,oa⟩) oa hM h5 hN
 refine Qw<|QN U U<|Qb<|xe<|⟨(k+1,v8,_),oh,oA,O,(I.D ho).then h5 (λb hb=>.inr (hv b hb).1),hR,?_,λq' hS=>?_⟩
 ·simp only[];rw[hA,Lp,hf];rfl
 rcases Lc.1 hS with h9|h9
 ·exact hp q' h9
 simp only[oI]at h9;subst h9;exact hG
theorem jg {bm:Nat}{H v1 v2 v3:O0}{co:LI}{mi:Bool}(I:Q7 w.heap bp 246 [H,v1,v2,v3])(E:Q7 w.heap bm 4 [.bool mi])(J:QQ L w.heap H co)(hi:Y1 co)(n:Int):
  Q5 prog 173 [oF oG n,.pointer (some ⟨bp,0,none⟩),.pointer (some ⟨bm,0,none⟩)] w λr w'=>O3 [bm] w w'/\r=oF oG (lwB co n)/\Q7 w'.heap bm 4 [.bool (mi || !decide (n∈co))]:=by
 refine Zs func173 ntmps173 results173 ?_;refine Qe<|Qc<|Qe<|Qs U I U U<|Qb<|Qa<|xf<|(QcA J hi n).mono ?_;rintro r1 O ⟨rfl,rfl⟩;refine Qb<|Q8 U U<|Q8 U U<|x Qk<|Qc<|Q3 (α:=Bool) [(14,18)] (λz=>[]) (λz w'=>O3 [bm] O w'/\Q7 w'.heap bm 4 [.bool (mi || !decide (n∈co))]) ol ?_ ?_
 ·refine Qw<|xB (Qq E U U) (λG=>?_) (λG=>?_)
  ·refine Qb<|Qr<|Qr<|QK U<|Qa<|QA (j:=0) (u:=.bool true) E U U oe rfl λw2 S V=>xe ?_;exact⟨true,Z,S,by rw[G];exact V⟩
  refine Qb<|Qb<|x (Zz U)<|QK U<|Qa<|QA (j:=0) (u:=.bool (!decide (n∈co))) E U U oe rfl λw3 Y ha=>xe ?_;exact⟨true,Z,Y,by rw[G];exact ha⟩
 rintro z g w4 ⟨hb,hc⟩;refine Qm<|Qc ?_;exact Ql ⟨[_],La,hb,U,hc⟩
theorem YA.of_lt {base:Nat}{v:O0}(h:∀L:LN,(∀b∈L,b<N)->Zv L H v n sz cs)(I:base<=N)(E:∀b∈av,b<N):YA base av H v n sz cs:=λL G =>
 h L (λb hbL=>(G b hbL).elim (λh=>oa) (E b))
theorem Kv (L:LN)(H:xx):QQ L H (nS) []:=Zv.nil L H 1
open Go.RowKit
def yu (P:O2)(all:xA)(C:xw)(K:LN->Fr->OZ->Prop):xp->LN->Fr->OZ->Prop
 | [],own,f,w=>K own f w
 | (j,true)::l,own,f,w=>Z4 all f (QV all j)=true/\∃v,(∀w',(U0 (QV all j)=true->C w')->(execOp (ev f) (QV all j)).run P w'=.ok (.value v) w')/\yu P all C K l own (QY f (QV all j).dst v) w
 | (j,false)::l,own,f,w=>Z4 all f (QV all j)=true/\∀w1,O3 [] w w1->C w1->XO P (QV all j) f w1 λE w'=>C w'/\∃own',O3 own w1 w'/\(∀b∈own',b∈own\/(w1.heap.size<=b/\b<w'.heap.size))/\yu P all C K l own' E w'
section
variable {all:xA}{C:xw}{KF:LN->Fr->OZ->Prop}
theorem yu.I (hK:∀own f w w',KF own f w->O3 [] w w'->KF own f w'):∀{l:xp}{own:LN}{f:Fr}{w w':OZ},yu P all C KF l own f w->O3 [] w w'->yu P all C KF l own f w'
 | [],_,_,_,_,h,E=>hK _ _ _ _ h E
 | (_,true)::_,_,_,_,_,h,E=>by
  obtain⟨G,v,H,hx⟩:=h;exact⟨G,v,H,yu.I hK hx E⟩
 | (_,false)::_,_,_,_,_,h,E=>⟨h.1,λI J O=>h.2 I (E.D J) O⟩
structure Fl2 (P:O2)(all:xA)(C:xw)(K:xu)(KF:LN->Fr->OZ->Prop)(i d:Nat)(rest:xp)(Φ:O0->OZ->Prop)(Dc:xq)(f1:Fr):Prop where
 stab:∀v (own:LN) w w',Φ v w->O3 own w w'->(∀b∈ow v,b∉own)->Φ v w'
 spec:∀f w,(∀t,Xd Dc t=false->f t=f1 t)->C w->XO P (QV all i) f w λf' w'=>O3 [] w w'/\C w'/\Φ (f' d) w'/\∀b∈ow (f' d),w.heap.size<=b/\b<w'.heap.size
 fin:∀own f w,KF own f w->∀v,C w->Φ v w->(∀b∈ow v,b∉own/\b<w.heap.size)->XP P all C K rest (QY f (some d) v) w
 mono:∀own f w w',KF own f w->O3 [] w w'->KF own f w'
attribute [local semireducible] XP in
theorem qu {i d:Nat}{rest:xp}{Φ:O0->OZ->Prop}{Dc:xq}{f1:Fr}(H:Fl2 P all C K KF i d rest Φ Dc f1)(O:Region.noSelect all.toArray=true){v:O0}:∀(l:xp) (own:LN) (f:Fr) (w:OZ),ZP all d l=true->yu P all C KF l own f w->C w->Φ v w ->
  (∀b∈ow v,b∉own/\b<w.heap.size)->XP P all C K (l++rest) (QY f (some d) v) w
 | [],own,f,w,_,h,I,J,E=>H.fin own f w h v I J E
 | (j,q)::l,own,f,w,hfr,h,I,J,E=>by
  simp only[ZP,oR,oL,Oi,List.contains_eq_mem,decide_eq_false_iff_not,beq_eq_false_iff_ne,ne_eq]at hfr;obtain⟨⟨S,T⟩,hfr⟩:=hfr;have V:ZP all d l=true:=by simpa[ZP]using hfr
  have ha:∀cs b,(QV all j).op≠.select cs b:=by
   intro cs b;cases Y:all[j]? with
   | none =>
    have:QV all j=default:=by
     clear h S T hfr V;have key:∀(l:xA) (j:Nat),l[j]?=none->QV l j=default:=by
      intro l;induction l with
      | nil=>intro j _;rfl
      | cons a l ih=>intro j hj;cases j with|zero=>simp at hj|succ j=>exact ih j (oz hj)
     exact key all j Y
    rw[this];intro e;cases e
   | some o=>rw[Zq Y];exact Region.noSelect_spec O j o cs b (oz Y)
  have hd:∀e,some d=some e->e∉(QV all j).looksAt all.toArray:=λe he=>by cases he;exact S
  cases q with
  | true =>
   obtain⟨hg,u,hu,hx⟩:=h;simp only[Ob,XP];rw[X3 (QV all j) f (some d) v hd,hg,cond_true,cond_true];refine⟨u,λw' hc=>?_,?_⟩
   ·rw[Xo (all:=all) ha f (some d) v hd];exact hu w' hc
   rw[J7 f v u (λe he=>by cases he;exact T)];exact qu H O l own _ w V hx I J E
  | false =>
   simp only[Ob,XP];rw[X3 (QV all j) f (some d) v hd,h.1,cond_true,cond_false];refine QaW (all:=all) ha S T (λu w' hx=>?_) (h.2 w (O3.Z _ _) I);obtain⟨hf,own',hh,hi,hx⟩:=hx;refine⟨.inr (.inr hf),qu H O l own' _ w' V hx hf (H.stab v own w w' J hh (λb G=>(E b G).1)) (λb G=>⟨λhm=>?_,LU (E b G).2 hh.size⟩)⟩;rcases hi b hm with h3|h3
   ·exact(E b G).1 h3
   exact Nl _ (LU (E b G).2 h3.1)
theorem QdQ {i d:Nat}{rest:xp}{Φ:O0->OZ->Prop}{Dc:xq}{f1:Fr}(J:Fl2 P all C K KF i d rest Φ Dc f1)(hs:Region.noSelect all.toArray=true)(hg:(QV all i).guard=none)(hd:(QV all i).dst=some d):∀(l:xp) (ls:Array Bool) (own:LN) (f:Fr) (w:OZ),ls.size=all.length->ZP all d l=true->ZV all Dc l=true->(∀t,Xd Dc t=false->f t=f1 t) ->
  yu P all C KF l own f w->C w->(∀b∈own,b<w.heap.size)->VZ all.toArray i rest l ls=true->XA P all C K (l.length+1+rest.length) ls f w
 | [],ls,own,f,w,hc,hfr,O,hk1,h,S,ha,E=>by
  simp only[VZ,oL,beq_iff_eq]at E;obtain⟨T,E⟩:=E;rw[show([]:xp).length+1+rest.length=rest.length+1 by simp;omega];refine XC (λh0=>(by rw[h0]at T;cases T)) ?_;rw[T];intro k hk o H;have hh:k=i:=by simpa using hk
  subst hh;have he:=Zq H;have hx:=J.spec f w hk1 S;rw[he]at hg hd hx;rw[JC hg,cond_true];refine hx.mono λv w' hx=>?_;rw[hd]at hx ⊢;obtain⟨h1,G,I,V⟩:=hx;simp only[QY,YI]at I V;refine⟨.inr (.inr G),ZN hs rest _ _ _ (oz hc) (.inl G) E (J.fin own f w' (J.mono own f w w' h h1) v G I (λb Y=>⟨λhm=>Nl _ (LU (ha b hm) (V b Y).1),(V b Y).2⟩))⟩
 | (j,true)::l,ls,own,f,w,hc,hfr,O,hk1,h,S,ha,E=>by
  simp only[VZ,oL]at E;obtain⟨⟨T,hf⟩,hi⟩:=E;have hq:j∈Region.ready .any all.toArray ls:=by simpa using T
  have e:(oP ((j,true)::l))+1+rest.length=(l.length+1+rest.length)+1:=by simp;omega
  rw[e];have hl:ZP all d l=true:=by simp only[ZP,oR,oL]at hfr;exact hfr.2
  simp only[ZV,oR,oL]at O;have hn:ZV all Dc l=true:=O.2;cases H:all[j]? with
  | none =>
   exfalso;obtain⟨_,o,hz,_⟩:=mem_ready.1 hq;simp[H]at hz
  | some o =>
   obtain⟨ht,v,hv,hx⟩:=h;rw[Zq H]at ht hv hx;have h5:∀(j:Nat) (o:Oper) cs b,all[j]?=some o->o.op≠.select cs b:=λj o cs b hj=>Region.noSelect_spec hs j o cs b (oz hj);have h6:=λk ok hk=>Region.free_spec (ops:=all.toArray) (md:=.any) (i:=j) (oi:=o) (listed:=ls) (oz H) hf k ok (oz hk);exact Xe (v:=v) (D:=λw=>U0 o=true->C w) H (λ_ h=>h) h5 _ ls f w (λ_=>S) h6 hq (.inl ⟨ht,hv⟩) (QdQ J hs hg hd l _ own _ w (oz hc) hl hn (by have:=JA (v:=v) O.1 hk1;rw[Zq H]at this;exact this) hx S ha hi)
 | (j,false)::l,ls,own,f,w,hc,hfr,O,hk1,h,S,ha,E=>by
  simp only[VZ,oL,Ol,Bool.or_eq_true,beq_iff_eq,Oi]at E;obtain⟨⟨⟨hu,T⟩,h7⟩,hi⟩:=E;have e:(oP ((j,false)::l))+1+rest.length=(l.length+1+rest.length)+1:=by simp;omega
  rw[e];have hl:ZP all d l=true:=by simp only[ZP,oR,oL]at hfr;exact hfr.2
  simp only[ZV,oR,oL]at O;have hn:ZV all Dc l=true:=O.2;refine XC (λh0=>(by rw[h0]at hu;cases hu)) ?_;intro k hk o H;have he:=Zq H;have hw:(ls.setIfInBounds k true).size=all.length:=by simpa using hc
  by_cases hh:k=i
  ·subst hh;have hx:=J.spec f w hk1 S;rw[he]at hg hd hx;rw[JC hg,cond_true];refine hx.mono λv w' hx=>?_;rw[hd]at hx ⊢;obtain⟨h1,G,I,V⟩:=hx;simp only[QY,YI]at I V;refine⟨.inr (.inr G),?_⟩;have hx:=qu J hs ((j,false)::l) own f w' hfr (yu.I J.mono h h1) G I (λb Y=>⟨λhm=>Nl _ (LU (ha b hm) (V b Y).1),(V b Y).2⟩);have:=ZN hs ((j,false)::(l++rest)) _ _ _ hw (.inl G) h7 hx;rw[show((j,false)::(l++rest)).length=l.length+1+rest.length by simp;omega]at this;exact this
  have h8:k=j:=(T k hk).resolve_right hh;subst h8;have h1:=h.1;have G:=h.2 w (O3.Z _ _) S;rw[he]at h1 G;rw[h1,cond_true];refine G.mono λv w' hx=>?_;obtain⟨hy,own',h9,hA,hx⟩:=hx;refine⟨.inr (.inr hy),QdQ J hs hg hd l _ own' _ w' hw hl hn (by have:=JA (v:=v) O.1 hk1;rw[he]at this;exact this) hx hy (λb Y=>?_) hi⟩;rcases hA b Y with I|I
  ·exact LU (ha b I) h9.size
  exact I.2
theorem yu.keeps {D:xq}{f0:Fr}:∀(l:xp) (own:LN) (f:Fr) (w:OZ),ZV all D l=true->(∀t,Xd D t=false->f t=f0 t)->yu P all C KF l own f w->yu P all C (λo G w'=>(∀t,Xd D t=false->G t=f0 t)/\KF o G w') l own f w
 | [],own,f,w,_,E,h=>⟨E,h⟩
 | (j,true)::l,own,f,w,hd,E,h=>by
  simp only[ZV,oR,oL]at hd;obtain⟨H,v,I,hx⟩:=h;exact⟨H,v,I,yu.keeps l own _ _ hd.2 (JA hd.1 E) hx⟩
 | (j,false)::l,own,f,w,hd,E,h=>by
  simp only[ZV,oR,oL]at hd;refine⟨h.1,λJ O S=>XO.mono (λv w' hx=>?_) (h.2 J O S)⟩;obtain⟨T,own',V,Y,hx⟩:=hx;exact⟨T,own',V,Y,yu.keeps l own' _ _ hd.2 (JA hd.1 E) hx⟩
theorem f2p {l:xp}{own:LN}{v:O0}(E:∀w',(execOp (ev f) (QV all j)).run P w'=.ok (.value v) w')(h:yu P all C KF l own (QY f (QV all j).dst v) w)
  (G:Z4 all f (QV all j)=true:=by rfl):yu P all C KF ((j,true)::l) own f w:=⟨G,v,λw' _=>E w',h⟩
theorem f2k {l:xp}{own:LN}(h:∀w1,O3 [] w w1->C w1->XO P (QV all j) f w1 λE w'=>C w'/\∃own',O3 own w1 w'/\(∀b∈own',b∈own\/(w1.heap.size<=b/\b<w'.heap.size))/\yu P all C KF l own' E w')
  (G:Z4 all f (QV all j)=true:=by rfl):yu P all C KF ((j,false)::l) own f w:=⟨G,h⟩
theorem f2e {own:LN}(h:KF own f w):yu P all C KF [] own f w:=h
theorem XS {Q:Exit->Fr->OZ->Prop}(C:xw)(pre l:xp)(i d:Nat)(rest:xp)(own:LN)(D Dc:xq)(S:α->List (Nat×O0))(I:α->LN->OZ->Prop)(Φ:O0->OZ->Prop)(hm:P.follows .mixedOrders=true)(hn:X4 n all=true)
  (T:Qdv all pre l i rest=true) (J:(ZV all D pre && ZV all D l && ZV all Dc l)=true) (hd:(QV all i).dst=some d) (V:C { w with drawn:=w.drawn+1 }) (ha:∀b∈own,b<w.heap.size)
  (stab:∀v (own:LN) w w',Φ v w->O3 own w w'->(∀b∈ow v,b∉own)->Φ v w') (mono:∀z own w w',I z own w->O3 [] w w'->I z own w')
  (fin:∀z g own w v,I z own w->C w->Φ v w->(∀b∈ow v,b∉own/\b<w.heap.size)->XP P all C (λf w=>Q .normal f w) rest (QY (qK (S z) (mix D f g)) (some d) v) w)
  (h:XP P all C (λf1 _=>(∀g w,C w->XO P (QV all i) (mix Dc f1 g) w λE w'=>O3 [] w w'/\C w'/\Φ (E d) w'/\∀b∈ow (E d),w.heap.size<=b/\b<w'.heap.size)/\yu P all C (λo E w'=>∃z,Xr E (S z)/\I z o w') l own f1 { w with drawn:=w.drawn+1 }) pre f { w with drawn:=w.drawn+1 }):W P n (.region id all.toArray true) Q f w:=by
 rw[Lv,Lv]at J;simp only[Qdv,oL,beq_iff_eq,Option.isNone_iff_eq_none]at T;obtain⟨⟨⟨⟨⟨G,hl⟩,hq⟩,hc⟩,hg⟩,hfr⟩:=T;rw[hd]at hfr;refine JG C hm hn ?_;have Y:=YC (K:=λf w=>Q .normal f w) (m:=l.length+1+rest.length) G pre (oW all.length false) f _ V hq
  (B:=λf1 _=>Fl2 P all C (λf w=>Q .normal f w) (λo E w'=>(∀t,Xd D t=false->E t=f t)/\∃z,Xr E (S z)/\I z o w') i d rest Φ Dc f1/\yu P all C (λo E w'=>(∀t,Xd D t=false->E t=f t)/\∃z,Xr E (S z)/\I z o w') l own f1 { w with drawn:=w.drawn+1 })
  (λf1 hB=>QdQ hB.1 G hg hd l (Z0 pre (oW all.length false)) own f1 _ (by rw[YG];simp) hfr J.2 (λ_ _=>rfl) hB.2 V ha hc)
  (XP.keeps_mono _ _ _ (XP.keeps pre f _ J.1.1 (λ_ _=>U) h) (λf1 w1 hx=>⟨⟨stab,?_,?_,?_⟩,yu.keeps l own _ _ J.1.2 hx.1 hx.2.2⟩))
 ·rw[hl]at Y;exact Y
 ·intro E w' H O;have:=hx.2.1 E w' O;rw[X7 H]at this;exact this
 ·rintro o E w' ⟨H,z,G,hi⟩ v O hv hb;have:=fin z E o w' v hi O hv hb;rw[X7 H,Y3 G]at this;exact this
 rintro o E w' hf ⟨H,z,G,hi⟩ he;exact⟨H,z,G,mono z o _ _ hi he⟩
end
attribute [irreducible] yu
abbrev ZY:LV:=[nS,nS,nS,nS,nS]
abbrev qa:LV:=[nS,oF oG 0,nS,nS]
theorem Xm {a:Array UInt8}(h:a.size<=100):(⟨a⟩:ByteArray).size<=9223372036854775807:=by
 show a.size<=_;omega
def US (N M:Nat):LN:=(oT M).filter λb=>decide (N<=b)
theorem ZE :b∈US N M↔N<=b/\b<M:=by
 unfold US;rw[L9,Np,decide_eq_true_iff];exact And.comm
def VN (co:LI)(ls:xt):xt:=ls.map λl=>((lwB co l.1:Int),l.2)
theorem QeL {co:LI}(hi:Y1 co){ls:xt}(h:mis co ls=false):VN co ls=ixP co ls:=by
 unfold VN ixP;refine NB λl hl=>?_;unfold mis at h;have E:=Nx.1 h l hl;have G:l.1∈co:=by simpa using E
 rw[QeC hi G]
abbrev exG (c:ZG)(i:Int):qz:=c.ex.getD i.toNat ⟨.empty,[]⟩
abbrev csG (c:ZG)(i:Int):xI:=c.cs.getD i.toNat ⟨.empty,[],0⟩
def exB (c:ZG)(co ix:LI):List qz:=ix.map λi=>⟨(exG c i).nm,VN co (exG c i).ls⟩
def csB (c:ZG)(co ix:LI):List xI:=ix.map λi=>⟨(csG c i).nm,VN co (csG c i).ts,(csG c i).bd⟩
def exM (c:ZG)(co ix:LI):Bool:=ix.any λi=>mis co (exG c i).ls
def csM (c:ZG)(co ix:LI):Bool:=ix.any λi=>mis co (csG c i).ts
theorem QkR (c:ZG)(p:Prt):Qpb c p=(exM c p.co p.ex || csM c p.co p.cs):=rfl
theorem QlP {p:Prt}(hi:Y1 p.co)(h:exM c p.co p.ex=false):exB c p.co p.ex=QkQ c p:=by
 unfold exB QkQ;refine NB λi E=>?_;rw[QeL hi (by have:=Nx.1 h i E;simpa using this)]
theorem Qma {p:Prt}(hi:Y1 p.co)(h:csM c p.co p.cs=false):csB c p.co p.cs=QkS c p:=by
 unfold csB QkS;refine NB λi E=>?_;rw[QeL hi (by have:=Nx.1 h i E;simpa using this)]
def ck4:List (O0×LI×Int)->Int
 | []=>0
 | (_,s,n)::l=>if Kf n none s≠0 then Kf n none s else ck4 l
abbrev skC (x:O0×LI×Int):LV:=[x.1,oF oG x.2.2]
theorem Qni (x:O0×LI×Int):(skC x).length=2:=rfl
theorem Qcs:∀{l:List (O0×LI×Int)},ck4 l=0->∀x∈l,Kf x.2.2 none x.2.1=0
 | [],_,x,hx=>by cases hx
 | (v,s,n)::l,h,x,hx=>by
  rw[ck4]at h;by_cases E:Kf n none s≠0
  ·rw[OS E]at h;exact OU h E
  rw[OR E]at h;rcases Li.1 hx with rfl|hx
  ·exact Lo.1 E
  exact Qcs h x hx
theorem Yu.app2 {g:α->LV}{p:α->O0×Nat×Nat×LV}{base e:Nat}{E G:OZ}{v H:O0}{l:List α}{q:α}(h:Yu g sz T p base E v l)
  (O:E.ownsRow N e (p q).2.2.1 (p q).1 (p q).2.1 (p q).2.2.2) (S:(p q).2.1<=1099511627776) (V:base<=N) (Y:∀b∈ob v,b<N)
  (ho:G.ownsRow base T sz H (l.length+1) (l.flatMap g++g q)) (I:O3 (ob v) E G) (J:∀b∈ob H,b∈ob v\/E.heap.size<=b):Yu g sz T p base G H (l++[q]):=by
 refine⟨?_,λd hd=>?_⟩
 ·rw[Lj,LA];simpa using ho
 rcases Lc.1 hd with hd|hd
 ·exact(h.each d hd).app I J
 simp only[oI]at hd;subst hd;exact(YA.of_own O S V Y).app I J
instance:Bw prog 44 [nS,nS,nS,nS,nS] [(0,1),(1,1),(2,1),(3,1),(4,1)]:=⟨od,og⟩
theorem jo {v:O0}(h:v.oneCell'=true):v.cells=#[v]:=by
 cases v <;> first|rfl|cases h
theorem QiF {v:O0}(h:∀L:LN,(∀b∈L,b<N)->XD L w'.heap v qs)(hM:w'.heap.size=M)(G:∀b∈L,b∉US N M):XD L w'.heap v qs:=by
 refine(h (L.filter λb=>decide (b<N)) (λb E=>by have:=(L9.1 E).2;exact OW this)).up (λb E=>?_);by_cases H:b<N
 ·exact .inl (L9.2 ⟨E,OV H⟩)
 refine .inr ?_;have:=G b E;rw[ZE]at this;omega
structure EiA (L:LN)(H:xx)(z:O0×O0×O0)(ev:List JY)(qc qr:List IV):Prop where
 ev:VI L H z.1 ev
 co:XD L H z.2.1 qc
 rq:XD L H z.2.2 qr
theorem EiA.I {L:LN}{w w':OZ}{z:O0×O0×O0}{ev:List JY}{qc qr:List IV}(h:EiA L w.heap z ev qc qr)(E:O3 [] w w'):EiA L w'.heap z ev qc qr:=⟨h.ev.I E,h.co.I E,h.rq.I E⟩
theorem EiA.st {L:LN}{w w':OZ}{z:O0×O0×O0}{ev:List JY}{qc qr:List IV}(h:EiA L w.heap z ev qc qr)(E:O3 L w w'):EiA L w'.heap z ev qc qr:=⟨h.ev.st E,h.co.st E,h.rq.st E⟩
theorem EiA.up {L L':LN}{H:xx}{z:O0×O0×O0}{ev:List JY}{qc qr:List IV}(h:EiA L H z ev qc qr)(E:∀b∈L',b∈L\/H.size<=b):EiA L' H z ev qc qr:=⟨h.ev.up E,h.co.up E,h.rq.up E⟩
theorem QdK {c:CL}{v0 v1 v2 v3:O0}{p:Prt}(V:ZF L w.heap c)(hc0:QQ L w.heap v0 p.co)(hr0:QQ L w.heap v1 p.rq)(hx0:QQ L w.heap v2 p.ex)(hk0:QQ L w.heap v3 p.cs):
  Q5 prog 116 [c.val,.agg #[v0,v1,v2,v3]] w λr w'=>O3 [] w w'/\∃us,r=.tuple #[.agg us.toArray,oF oG (Qaf c.V p)]/\us.length=5/\Zj us/\(Qaf c.V p≠0->us=ZY)/\(Qaf c.V p=0->Qd5 w.heap.size w'.heap (.agg us.toArray) (QfJ c.V p)):=by
 have h:=V.up (L':=[]) oe;have I:=hc0.up (L':=[]) oe;have hr:=hr0.up (L':=[]) oe;have hx:=hx0.up (L':=[]) oe;have hk:=hk0.up (L':=[]) oe;have Y:Qaf c.V p=if Zm c.V≠0 then Zm c.V else if ck4 [(v0,p.co,(c.co.length:Int)),(v1,p.rq,(c.rq.length:Int)),(v2,p.ex,(c.ex.length:Int)),(v3,p.cs,(c.cs.length:Int))]≠0 then ck4 [(v0,p.co,(c.co.length:Int)),(v1,p.rq,(c.rq.length:Int)),(v2,p.ex,(c.ex.length:Int)),(v3,p.cs,(c.cs.length:Int))]
   else if(exM c.V p.co p.ex || csM c.V p.co p.cs)=true then 13 else Zm (QfJ c.V p):=by
  have e1:c.V.co.length=c.co.length:=Lh ..;have e2:c.V.rq.length=c.rq.length:=Lh ..;have e3:c.V.ex.length=c.ex.length:=Lh ..;have e4:c.V.cs.length=c.cs.length:=Lh ..;unfold Qaf;rw[e1,e2,e3,e4,QkR];simp only[ck4];by_cases q0:Zm c.V≠0
  ·rw[OS q0,OS q0]
  rw[OR q0,OR q0];by_cases q1:Kf (c.co.length:Int) none p.co≠0
  ·simp only[OS q1]
  simp only[OR q1];by_cases q2:Kf (c.rq.length:Int) none p.rq≠0
  ·simp only[OS q2]
  simp only[OR q2];by_cases q3:Kf (c.ex.length:Int) none p.ex≠0
  ·simp only[OS q3]
  simp only[OR q3];by_cases q4:Kf (c.cs.length:Int) none p.cs≠0
  ·simp only[OS q4]
  simp only[OR q4];simp
 refine Zk (Qaf c.V p) λE hE=>?_;rw[hE]at Y ⊢;refine Zk [(v0,p.co,(c.co.length:Int)),(v1,p.rq,(c.rq.length:Int)),(v2,p.ex,(c.ex.length:Int)),(v3,p.cs,(c.cs.length:Int))] λS go=>?_;rw[go]at Y;have hl4n:S.length=4:=by rw[<-go];rfl
 have hl4i:∀x∈S,QQ [] w.heap x.1 x.2.1:=by
  rw[<-go];intro x O;simp only[oK,oJ,or_false]at O;rcases O with rfl|rfl|rfl|rfl
  ·exact I
  ·exact hr
  ·exact hx
  exact hk
 have hl4z:ck4 S=0->Kf (c.co.length:Int) none p.co=0/\Kf (c.rq.length:Int) none p.rq=0/\Kf (c.ex.length:Int) none p.ex=0/\Kf (c.cs.length:Int) none p.cs=0:=by
  intro V;have h1:=Qcs V;rw[<-go]at h1;exact⟨h1 (v0,p.co,_) oe,h1 (v1,p.rq,_) oe,h1 (v2,p.ex,_) oe,h1 (v3,p.cs,_) oe⟩
 have hxl:=hx.le;have hkl:=hk.le;refine Zs func116 ntmps116 results116 ?_;refine Qe<|Qa<|QS (us:=c.cells) U λb2 w1 hs1 hb2 m4=>Qa<|QS (us:=[v0,v1,v2,v3]) U λb3 w2 m5 hb3 hB3=>Qa<|Qo (us:=ZY) U λb4 w3 kj hb4 hB4=>Qc ?_;have hl2:=m4.lt;have hl3:=hB3.lt;have hl4':=hB4.lt;have hs03:=(hs1.D m5).D kj;refine Qd<|Qe<|Q2 ((m4.I m5).I kj) U U<|Qa<|xf<|(Y7 (h.I hs03)).mono ?_;rintro r4 w4 ⟨rfl,gp⟩;refine Qc ?_;have m6:=hs03.D gp;have hz4:=gp.size;have gq:=((m4.I m5).I kj).I gp;have gr:=(hB3.I kj).I gp;have m7:=hB4.I gp;refine Qm<|ZA U U<|xe<|QZ rfl (λkk=>?_) (λkk=>?_)
 ·rw[OS kk]at Y;subst Y;refine Qe<|x (Qz Z)<|Qb<|Qa<|Qj (us:=ZY) m7 U U U U ⟨U,U,U,U,U,Z⟩ λw5 hs5 hB45=>Qc ?_;exact Ql ⟨[.agg ZY.toArray,oF oG (Zm c.V)],⟨⟨_,U,Qn U (hB45.at (L:=[]) oe).cells⟩,rfl,Z⟩,m6.O hs5 oa,ZY,rfl,rfl,⟨rfl,rfl,rfl,rfl,rfl,Z⟩,λ_=>rfl,λV=>OU V kk⟩
 rw[OR kk]at Y;refine Qh ?_;have h4:=h.I m6;refine Qd<|Qe<|Qs U gr U U<|Qs U gq U U<|QL h4.co.arr U<|x (Qz ⟨I.cells,U,Z⟩) <|
  Qs rfl gr U U<|Qs U gq U U<|QL h4.rq.arr U<|x (Qz ⟨hr.cells,U,Z⟩) <|
  Qs rfl gr U U<|Qs U gq U U<|QL h4.ex.arr U<|x (Qz ⟨hx.cells,U,Z⟩) <|
  Qs rfl gr U U<|Qs U gq U U<|QL h4.cs.arr U<|x (Qz ⟨hk.cells,U,Z⟩) <|
  Qa<|QB (us:=[skC (v0,p.co,(c.co.length:Int)),skC (v1,p.rq,(c.rq.length:Int)),skC (v2,p.ex,(c.ex.length:Int)),skC (v3,p.cs,(c.cs.length:Int))]) U U og oe ⟨rfl,rfl,rfl,rfl,rfl,rfl,rfl,rfl,Z⟩ λb54 w6 hY hb54 hB54=>?_
 have hA54:Zv [] w6.heap (.slice (some ⟨b54,0,none⟩) 4 4) S.length 2 (S.flatMap skC):=by
  have:=hB54.arr (L:=[]) oe (n:=4) (cap:=4) (sz:=2) ol oa (Lx _);rw[hl4n,<-go];exact this
 refine QL hA54 U<|Qb<|xe ?_;have hs06:=m6.D hY;have hz6:=hY.size;refine Qg<|QC (α:=Nat) [(5,5),(8,9),(56,69)] (λz=>[(56,oF oG z)]) (λz w'=>z<=S.length/\O3 [] w6 w'/\ck4 (S.drop z)=ck4 S) (λz=>S.length - z) ol 0 La ⟨Ln _,O3.Z _ _,U⟩ ?_;rintro k g w7 ⟨hkl4,hD,hF⟩;have gs:=hs06.D hD;have hz7:=hD.size;refine Qe<|QX U U<|xe<|Qd<|QG U (λm8=>?_) (λm8=>?_)
 ·refine Qx ?_;have hke:S.length<=k:=by have hw:¬(k:Int)<(S.length:Int):=m8;omega
  rw[Lr hke]at hF;have hck0:ck4 S=0:=hF.symm;rw[OR (λV=>V hck0)]at Y;obtain⟨zco,zrq,zex,zcs⟩:=hl4z hck0;have gt:=(Xz _ _ _).1 zco;have hrq:=(Xz _ _ _).1 zrq;have hexz:=(Xz _ _ _).1 zex;have hcsz:=(Xz _ _ _).1 zcs;have h7:=h.I gs;have kn:Q7 w7.heap b2 44 c.cells:=(gq.I hY).I hD;have m9:Q7 w7.heap b3 246 [v0,v1,v2,v3]:=(gr.I hY).I hD;have hB47:Q7 w7.heap b4 44 ZY:=(m7.I hY).I hD;have hsd:O3 [] w7 { w7 with drawn:=w7.drawn+1 }:=O3.C _ _
  refine Q3 (α:=Nat×(O0×O0×O0)×List IV×List IV) [(70,83),(10,10)] (λz=>[(10,.pointer (some ⟨z.1,0,none⟩))]) (λz w'=>O3 [] w7 w'/\w7.heap.size<=z.1/\Q7 w'.heap z.1 44 [z.2.1.1,z.2.1.2.1,z.2.1.2.2,nS,nS] /\
   z.2.2.1.map IV.it=chs c.V.co p.co/\z.2.2.2.map IV.it=chs c.V.rq p.rq/\Zj [z.2.1.1,z.2.1.2.1,z.2.1.2.2]/\∀L:LN,(∀b∈L,b<w7.heap.size\/b=z.1)->EiA L w'.heap z.2.1 c.ev z.2.2.1 z.2.2.2) ol ?_ ?_
  ·refine XS (α:=(O0×O0×O0)×List IV×List IV) (O3 [] w7) [oD 0,oD 1,oD 3,oD 4,oD 5,oD 6,oD 8,oD 9,oD 10,oD 11] [oE 2,oE 7,oE 12,oD 13] 14 10 [oE 15] []
    [(70,83)] [(72,72),(77,77),(82,83)] (λz=>[(83,.agg #[z.1.1,z.1.2.1,z.1.2.2,nS,nS])])
    (λz own w'=>(∀b∈own,w7.heap.size<=b)/\z.2.1.map IV.it=chs c.V.co p.co/\z.2.2.map IV.it=chs c.V.rq p.rq/\Zj [z.1.1,z.1.2.1,z.1.2.2]/\∀L:LN,(∀b∈L,b∉own)->EiA L w'.heap z.1 c.ev z.2.1 z.2.2)
    (λv w'=>∃b,v=.pointer (some ⟨b,0,none⟩)/\w7.heap.size<=b/\Q7 w'.heap b 44 ZY) mixed ol od ol U hsd oe ?_ ?_ ?_ ?_
   ·rintro v own wa wb ⟨b,rfl,G,hB⟩ hs hn;exact⟨b,U,G,hB.J hs (hn b ot)⟩
   ·rintro z own wa wb ⟨h1,h2,h3,h4,h5⟩ hs;exact⟨h1,h2,h3,h4,λL hL=>(h5 L hL).I hs⟩
   ·rintro⟨zv,qc,qr⟩ g own wz v ⟨i1,i2,i3,i4,i5⟩ hCz ⟨J,rfl,ko,hB10⟩ hbo;simp only[]at i2 i3 i4 i5;have hb10o:=(hbo J ot).1;refine pkl (hl:=by kernel_rfl)<|Qj (us:=[zv.1,zv.2.1,zv.2.2,nS,nS]) hB10 U U U U ⟨i4.1,i4.2.1,i4.2.2.1,U,U,Z⟩ λw8 hZ hB108=>pe ?_;refine⟨(J,zv,qc,qr),La,hCz.O hZ ko,ko,hB108,i2,i3,i4,λL hL=>?_⟩;have h1:=i5 (J::L) (λb G=>by
     rcases Li.1 G with rfl|G
     ·exact hb10o
     rcases hL b G with h2|h2
     ·exact λh3=>ou (i1 b h3)
     subst h2;exact hb10o)
    exact(h1.st (hZ.mono oe)).up (λb G=>.inl (by simp[G]))
   refine Go.Lg.p (QP U)<|pq (λ_ I=>Qq (kn.I I) U U)<|Go.Lg.p (QP U)<|pq (λ_ I=>Qq (kn.I I) U U) <|
    Go.Lg.p (QP U)<|pq (λ_ I=>Qq (m9.I I) U U)<|Go.Lg.p (QP U)<|pq (λ_ I=>Qq (kn.I I) U U) <|
    Go.Lg.p (QP U)<|pq (λ_ I=>Qq (m9.I I) U U)<|pe ⟨λg wf hCf=>Qo (us:=ZY) U λb wf' hsf hbf hBf=>⟨hsf,hCf.D hsf,⟨b,U,LJ hCf.size hbf,hBf⟩,λx hx=>?_⟩,?_⟩
   ·have hxe:x=b:=by
     have hx':x∈[b]:=hx;simpa using hx'
    subst hxe;exact⟨hbf,hBf.lt⟩
   refine f2k λx1 p1 c1=>xf<|(V3 (h7.ev.I c1).arr).mono ?_;rintro pa y1 ⟨hs1',ga⟩;refine⟨c1.D hs1',US x1.heap.size y1.heap.size,hs1'.any,λb G=>.inr (ZE.1 G),?_⟩;refine f2k λx2 p2 c2=>xf<|(yq (h7.co.I c2) (I.I (gs.D c2)) (λi hi=>gt.1 i hi)).mono ?_;rintro r77 y2 ⟨pc,⟨qc,kq,hqcI⟩,kr⟩;refine⟨c2.D pc,US x1.heap.size y1.heap.size++US x2.heap.size y2.heap.size,pc.any,λb G=>(Lc.1 G).imp id λG=>ZE.1 G,?_⟩;refine f2k λx3 p3 c3=>xf<|(yq (h7.rq.I c3) (hr.I (gs.D c3)) (λi hi=>hrq.1 i hi)).mono ?_;rintro r82 y3 ⟨kt,⟨qr,ku,hqrI⟩,kv⟩;refine⟨c3.D kt,(US x1.heap.size y1.heap.size++US x2.heap.size y2.heap.size)++US x3.heap.size y3.heap.size,kt.any,λb G=>(Lc.1 G).imp id λG=>ZE.1 G,?_⟩;refine f2p (λ_=>Zt [(0,[pa]),(1,[r77]),(2,[r82])] ⟨xJ ga,U,jo kr,U,jo kv,U,Z⟩)<|f2e ?_;refine⟨((pa,r77,r82),qc,qr),La,λb G=>?_,kq,ku,⟨Qt ga,kr,kv,Z⟩,λL hL=>?_⟩
   ·have e1:=c1.size;have e2:=c2.size;have e3:=c3.size;rcases Lc.1 G with G|G
    ·rcases Lc.1 G with G|G
     ·have:=ZE.1 G;omega
     have:=ZE.1 G;omega
    have:=ZE.1 G;omega
   have hL1:∀b∈L,b∉US x1.heap.size y1.heap.size:=λb G O=>hL b G (by simp[O]);have hL2:∀b∈L,b∉US x2.heap.size y2.heap.size:=λb G O=>hL b G (by simp[O]);have hL3:∀b∈L,b∉US x3.heap.size y3.heap.size:=λb G O=>hL b G (by simp[O]);have hev1:VI L y1.heap pa c.ev:=⟨QH ga h.ev.arr.le (λb G O=>hL1 b O (ZE.2 (Qi ga b G))),h.ev.nm⟩;exact⟨(((hev1.I p2).I pc).I p3).I kt,((QiF hqcI U hL2).I p3).I kt,QiF hqrI U hL3⟩
  rintro⟨J,zv,qc,qr⟩ g wc ⟨hsc,ko,pd,kq,ku,kw,hEi⟩;simp only[]at ko pd kq ku kw hEi;have hl10:=pd.lt;refine Qe<|Qa<|Qo (us:=[.bool false]) U λH w8 hZ hb11 hB11=>Qa<|QA (j:=0) (u:=.bool false) hB11 U U oe rfl λw9 pf kz=>xe ?_;have k0:O3 [] wc w9:=hZ.O pf hb11;have hG:=hsc.D k0;have gu:=gs.D hG;have hz9:=k0.size;have hl11:=kz.lt;have hB109:=pd.I k0;have hB29:=kn.I hG;have hB39:=m9.I hG;have hB49:=hB47.I hG;have hn10:J≠H:=oa
  have hup:∀b∈[J,H],w.heap.size<=b:=λb G=>by simp only[oK,oJ,or_false]at G;omega
  have k4:∀b∈[J,H],b<w9.heap.size:=λb G=>by simp only[oK,oJ,or_false]at G;omega
  have hn2:b2∉[J,H]:=λG=>by simp only[oK,oJ,or_false]at G;omega
  have hn3:b3∉[J,H]:=λG=>by simp only[oK,oJ,or_false]at G;omega
  have hn4:b4∉[J,H]:=λG=>by simp only[oK,oJ,or_false]at G;omega
  have k5:∀b∈[J],b∈[J,H]:=λb G=>by simp only[oI]at G;simp[G]
  have k6:∀b∈[H],b∈[J,H]:=λb G=>by simp only[oI]at G;simp[G]
  have ga:=kw.1;have kr:=kw.2.1;have kv:=kw.2.2.1;refine Qe<|x (ZC (l:=[]) (l':=[_,_]))<|Qc<|Qd<|Qe<|Qs U hB39 U U<|QL (hx.I gu) U<|Qb<|xe<|Qg<|QC (α:=Nat×Bool×O0×List XV) [(14,15),(17,17),(88,129)] (λz=>[(88,oF oG z.1)]) (λz w'=>z.1<=p.ex.length/\O3 [J,H] w9 w'/\Q7 w'.heap J 44 [zv.1,zv.2.1,zv.2.2,z.2.2.1,nS]/\Q7 w'.heap H 4 [.bool z.2.1] /\
   XvN w9.heap.size w' z.2.2.1 z.2.2.2/\z.2.2.2.map (·.x)=exB c.V p.co (p.ex.take z.1)/\z.2.1=exM c.V p.co (p.ex.take z.1)/\∀q∈z.2.2.2,J6 q.nm) (λz=>p.ex.length - z.1) ol (0,false,nS,[]) La
   ⟨Ln _,O3.Z _ _,hB109,kz,Yu.nil,U,U,λq T=>by cases T⟩ ?_
  rintro⟨k,mi,vx,qx⟩ g he ⟨hk10,hM,pg,gv,k7,gw,k8,ph⟩;simp only[]at hk10 pg gv k7 gw k8 ph;have gx:O3 [] w he:=gu.then hM (λb G=>.inr (hup b G));have pj:=h.I gx;have pm:=hB29.J hM hn2;have pn:=hB39.J hM hn3;have po:=hB49.J hM hn4;have hz10:=hM.size;have hqxl:qx.length=k:=by have:=OT oP gw;unfold exB at this;rw[Lh,Lh,Ly]at this;omega
  refine Qe<|QX U U<|xe<|Qd<|QG U (λhN=>?_) (λhN=>?_)
  ·refine Qx ?_;have pp:p.ex.length<=k:=by have hw:¬(k:Int)<(p.ex.length:Int):=hN;omega
   rw[Ls pp]at gw k8;have hlt10:∀b∈[J,H],b<he.heap.size:=λb G=>ou (k4 b G)
   refine Qd<|Qe<|Qs U pn U U<|QL (hk.I gx) U<|Qb<|xe<|Qg<|QC (α:=Nat×Bool×O0×List KV) [(19,20),(22,22),(133,180)] (λz=>[(133,oF oG z.1)]) (λz w'=>z.1<=p.cs.length/\O3 [J,H] he w'/\Q7 w'.heap J 44 [zv.1,zv.2.1,zv.2.2,vx,z.2.2.1]/\Q7 w'.heap H 4 [.bool z.2.1] /\
    KvN he.heap.size w' z.2.2.1 z.2.2.2/\z.2.2.2.map (·.k)=csB c.V p.co (p.cs.take z.1)/\z.2.1=(mi || csM c.V p.co (p.cs.take z.1))/\∀q∈z.2.2.2,J6 q.nm) (λz=>p.cs.length - z.1) ol (0,mi,nS,[]) La
    ⟨Ln _,O3.Z _ _,pg,gv,Yu.nil,U,by simp[csM],λq T=>by cases T⟩ ?_
   rintro⟨k,mk,vk,kx⟩ g ht ⟨hkk10,hH,kB1010,kB1110,kX10,gy,k9,pu⟩;simp only[]at hkk10 kB1010 kB1110 kX10 gy k9 pu;have gz:O3 [] w ht:=gx.then hH (λb G=>.inr (hup b G));have ma:=h.I gz;have kB210:=pm.J hH hn2;have kB310:=pn.J hH hn3;have kB410:=po.J hH hn4;have kz10:=hH.size;have hkxl:kx.length=k:=by have:=OT oP gy;unfold csB at this;rw[Lh,Lh,Ly]at this;omega
   refine Qe<|QX U U<|xe<|Qd<|QG U (λhN=>?_) (λhN=>?_)
   ·refine Qx ?_;have pp:p.cs.length<=k:=by have hw:¬(k:Int)<(p.cs.length:Int):=hN;omega
    rw[Ls pp]at gy k9;have hmm:mk=(exM c.V p.co p.ex || csM c.V p.co p.cs):=by rw[k9,k8]
    rw[<-hmm]at Y;have kXu:XvN w9.heap.size ht vx qx:=Yu.low k7 hH k4;refine Qd<|Qe<|Y2 kB1110 U U<|xe<|QW U (λmf=>?_) (λmf=>?_)
    ·rw[OS mf]at Y;subst Y;refine Qe<|x (Qz Z)<|Qa<|Qj (us:=ZY) kB410 U U U U ⟨U,U,U,U,U,Z⟩ λu11 mg kB411=>Qc ?_;exact Ql ⟨[.agg ZY.toArray,oF oG 13],⟨⟨_,U,Qn U (kB411.at (L:=[]) oe).cells⟩,rfl,Z⟩,gz.O mg oa,ZY,rfl,rfl,⟨rfl,rfl,rfl,rfl,rfl,Z⟩,λ_=>rfl,λV=>OU V og⟩
    rw[OR (by rw[mf];simp)]at Y;refine Qh ?_;have hmf:(exM c.V p.co p.ex || csM c.V p.co p.cs)=false:=by rw[<-hmm];exact mf
    have hmf2:=MJ.1 hmf;have hE1:qx.map (·.x)=QkQ c.V p:=gw.D (QlP gt.2.1 hmf2.1);have hE2:kx.map (·.k)=QkS c.V p:=gy.D (Qma gt.2.1 hmf2.2);have hcel:(CL.mk zv.1 zv.2.1 zv.2.2 vx vk c.ev qc qr qx kx).V=QfJ c.V p:=by
     show ZG.mk c.ev (qc.map IV.it) (qr.map IV.it) (qx.map (·.x)) (kx.map (·.k))=ZG.mk c.V.ev _ _ _ _;rw[kq,ku,hE1,hE2];rfl
    have hCu:∀L:LN,(∀b∈L,b<w.heap.size)->ZF (b4::L) ht.heap (CL.mk zv.1 zv.2.1 zv.2.2 vx vk c.ev qc qr qx kx):=by
     intro L hL;have e1:=hEi (b4::J::L) (λb G=>by
      rcases Li.1 G with rfl|G
      ·exact .inl oa
      rcases Li.1 G with rfl|G
      ·exact .inr U
      have:=hL b G;exact .inl oa)
     have e2:EiA (H::b4::J::L) wc.heap zv c.ev qc qr:=e1.up (λb G=>by
      rcases Li.1 G with rfl|G
      ·exact .inr hb11
      exact .inl G)
     have hm2:∀b∈[J,H],b∈H::b4::J::L:=λb G=>by
      simp only[oK,oJ,or_false]at G;rcases G with rfl|rfl <;> simp
     have e3:=((e2.I k0).st (hM.mono hm2)).st (hH.mono hm2);have e4:EiA (b4::L) ht.heap zv c.ev qc qr:=e3.up (λb G=>by
      rcases Li.1 G with rfl|G
      ·exact .inl oe
      exact .inl (by simp[G]))
     have hqx40:qx.length<=1099511627776:=oa
     have hkx40:kx.length<=1099511627776:=oa
     have pw:∀b∈b4::L,b<w9.heap.size:=λb G=>by
      rcases Li.1 G with rfl|G
      ·omega
      have:=hL b G;omega
     have hLt10:∀b∈b4::L,b<he.heap.size:=λb G=>ou (pw b G)
     exact⟨e4.ev,e4.co,e4.rq,⟨Yu.arr kXu hqx40 pw,λq T=>kXu.each q T _ (λb G=>.inl (pw b G)),ph⟩,⟨Yu.arr kX10 hkx40 hLt10,λq T=>kX10.each q T _ (λb G=>.inl (hLt10 b G)),pu⟩⟩
    rw[<-hcel]at Y;subst Y;refine Qd<|Qe<|Q2 kB1010 U U<|Qa<|xf<|(Y7 (hCu [] oe)).mono ?_;rintro r12 hO ⟨rfl,gb⟩;refine Qc ?_;have g0:=gz.D gb;have kB412:=kB410.I gb;refine Qm<|ZA U U<|xe<|QZ U (λmh=>?_) (λmh=>?_)
    ·refine Qe<|x (Qz Z)<|Qb<|Qa<|Qj (us:=ZY) kB412 U U U U ⟨U,U,U,U,U,Z⟩ λhI mo kB413=>Qc ?_;exact Ql ⟨[.agg ZY.toArray,oF oG (Zm (CL.mk zv.1 zv.2.1 zv.2.2 vx vk c.ev qc qr qx kx).V)],⟨⟨_,U,Qn U (kB413.at (L:=[]) oe).cells⟩,rfl,Z⟩,g0.O mo oa,ZY,rfl,rfl,⟨rfl,rfl,rfl,rfl,rfl,Z⟩,λ_=>rfl,λV=>OU V mh⟩
    refine Qh ?_;have hone5:Zj [zv.1,zv.2.1,zv.2.2,vx,vk]:=⟨ga,kr,kv,Qt kXu.own,Qt kX10.own,Z⟩;refine Qe<|Q2 (kB1010.I gb) U U<|Qa<|Qj (us:=[zv.1,zv.2.1,zv.2.2,vx,vk]) kB412 U U U U hone5 λhI mo kB413=>Qc<|Ql ⟨[.agg #[zv.1,zv.2.1,zv.2.2,vx,vk],oF oG 0],⟨⟨_,U,Qn U (kB413.at (L:=[]) oe).cells⟩,rfl,Z⟩,g0.O mo oa,[zv.1,zv.2.1,zv.2.2,vx,vk],?_,rfl,hone5,λV=>OU V mh,λ_=>⟨(CL.mk zv.1 zv.2.1 zv.2.2 vx vk c.ev qc qr qx kx),rfl,hcel,λL hL=>?_⟩⟩
    ·have V:Zm (CL.mk zv.1 zv.2.1 zv.2.2 vx vk c.ev qc qr qx kx).V=0:=Lo.1 mh;rw[V];rfl
    exact((((hCu L hL).I gb).st (mo.mono oe))).up (λb G=>.inl (by simp[G]))
   refine Qh ?_;have hf:k<p.cs.length:=by have hw:(k:Int)<(p.cs.length:Int):=hN;omega
   have hP:p.cs.take (k+1)=p.cs.take k++[p.cs[k]'hf]:=Ll hf;have pz:=hcsz.1 _ (Lm hf);refine Zk (p.cs[k]'hf) λi g2=>?_;rw[g2]at hP pz;have gc:i=(i.toNat:Int):=oa
   have ha:i.toNat<c.cs.length:=oa
   have hy:=Lm ha;have hQ:csG c.V i=(c.cs[i.toNat]'ha).k:=by
    show(c.cs.map (·.k)).getD i.toNat ⟨.empty,[],0⟩=_;simp[oQ,ha]
   refine Zk (c.cs[i.toNat]'ha) λq T=>?_;rw[T]at hy hQ;have g3:=ma.cs.each q hy;have p0:=ma.cs.nm q hy;have hql:=g3.le;have hcsB:csB c.V p.co (p.cs.take (k+1))=csB c.V p.co (p.cs.take k)++[⟨q.nm,VN p.co q.ts,q.bd⟩]:=by
    rw[hP];unfold csB;rw[Lp,M9,hQ];rfl
   have hcsM:csM c.V p.co (p.cs.take (k+1))=(csM c.V p.co (p.cs.take k) || mis p.co q.ts):=by
    rw[hP];unfold csM;rw[List.any_append,List.any_cons,List.any_nil,Bool.or_false,hQ];rfl
   refine Qd<|Qg<|Qe<|xii (i:=k) (hk.I gz) U U hf λa90 g4=>?_;rw[g2]at g4;refine x (QD g4 U)<|Qc<|Qd<|QR (O3 [] ht) [oD 0,oD 1,oD 2,oD 3,oD 4,oD 5,oD 6,oD 7,oD 8,oD 9,oD 10,oD 11,oD 12,oE 13,oE 14] mixed ol od (O3.C _ _) ?_;refine Go.Lg.p (QP U)<|pq (λ_ I=>Qq (kB210.I I) U U)<|Go.Lg.p Qy<|Go.Lg.pig (g:=Zc) (i:=i.toNat) U Xb ma.cs.arr U (OT (Value.int .i64) gc) ha λa140 h140=>?_;rw[T]at h140;refine Go.Lg.p (λ_=>Zg U)<|pq (λ_ I=>QD ((h140.fld 0 (.string q.nm) U).st I) U)<|Go.Lg.p (QP U)<|pq (λ_ I=>Qq (kB210.I I) U U)<|Go.Lg.p Qy<|Go.Lg.pig (g:=Zc) (i:=i.toNat) U Xb ma.cs.arr U (OT (Value.int .i64) gc) ha λa146 h146=>?_;rw[T]at h146;refine Go.Lg.p (λ_=>Zg U)<|pq (λ_ I=>QD ((h146.fld 2 (oF oG q.bd) U).st I) U)<|Go.Lg.p (λ_=>Qz ⟨U,U,Z⟩)<|pk<|Qo (us:=[.string .empty,nS,oF oG 0]) U λhg u11 mg hz kB15=>⟨(O3.C [] ht).D mg,?_⟩;refine pkl (hl:=by kernel_rfl)<|Qj (us:=[.string q.nm,nS,oF oG q.bd]) kB15 U U U U oB λhO gb kB15=>pe ?_;have hz:ht.heap.size<=hg:=hz;have hJ:O3 [] ht hO:=((O3.C [] ht).D mg).O gb hz;have g0:=gz.D hJ;have k12:=h.I g0;have kB212:=kB210.I hJ;have kz12:=hJ.size;have hl15:=kB15.lt;have p4:=g3.I hJ;refine Qd<|Qe<|Qs U kB212 U U<|Qb<|O6 (g:=Zc) (i:=i.toNat) Xb k12.cs.arr U (OT (Value.int .i64) gc) ha λa102 g5=>?_;rw[T]at g5;refine x (Zg U)<|x (QD (g5.fld 1 q.v U) U)<|QL p4 U<|Qb<|xe ?_;have p5:∀b∈[hg,H],w.heap.size<=b:=λb G=>by simp only[oK,oJ,or_false]at G;omega
   have p6:b3∉[hg,H]:=λG=>by simp only[oK,oJ,or_false]at G;omega
   have hn1510:J∉[hg,H]:=λG=>by simp only[oK,oJ,or_false]at G;omega
   refine Qg<|QC (α:=Nat×Bool×O0) [(22,22),(157,173)] (λz=>[(157,oF oG z.1)]) (λz w'=>z.1<=q.ts.length/\O3 [hg,H] hO w'/\Q7 w'.heap hg 76 [.string q.nm,z.2.2,oF oG q.bd]/\Q7 w'.heap H 4 [.bool z.2.1] /\
    w'.ownsRow hO.heap.size 78 2 z.2.2 z.1 ((VN p.co (q.ts.take z.1)).flatMap QI)/\z.2.1=(mk || mis p.co (q.ts.take z.1))) (λz=>q.ts.length - z.1) ol (0,mk,nS) La
    ⟨Ln _,O3.Z _ _,kB15,kB1110.I hJ,QJ _ _ _ _,by simp[mis]⟩ ?_
   rintro⟨j,mj,vl⟩ g hI ⟨hj,gg,kB1513,kB1113,kO13,h6⟩;simp only[]at hj kB1513 kB1113 kO13 h6;have ks013:O3 [] w hI:=g0.then gg (λb G=>.inr (p5 b G));have kz13:=gg.size;have h8:=Qi kO13;refine Qe<|QX U U<|xe<|Qd<|QG U (λhR=>?_) (λhR=>?_)
   ·refine Qx ?_;have g6:j=q.ts.length:=by have hw:¬(j:Int)<(q.ts.length:Int):=hR;omega
    rw[g6,MZ]at kO13;rw[g6,MZ]at h6;have mq:O3 [H] ht hI:=(hJ.any (L:=[H])).then gg (λb G=>by
     simp only[oK,oJ,or_false]at G;rcases G with rfl|rfl
     ·exact .inr hz
     exact .inl oe)
    have kB1013:=kB1010.J mq (oz hn10);have kX13:KvN he.heap.size hI vk kx:=Yu.low kX10 mq (λb G=>hlt10 b (k6 b G));have kXge:=Qi kX10.own;have p7:(VN p.co q.ts).length=q.ts.length:=Lh ..;refine Qw<|Qs U kB1013 U U<|Q2 kB1513 U U<|Qa<|QB (us:=[Zc ⟨q.nm,vl,VN p.co q.ts,q.bd⟩]) U U og oe ⟨rfl,rfl,Z⟩ λb126 u14 h9 hb126 kB126 =>
     Qa<|Za (news:=Zc ⟨q.nm,vl,VN p.co q.ts,q.bd⟩) (L:=[]) (Qp kX13.own h9) U U U (kB126.at oe) (QeI (q:=⟨q.nm,vl,VN p.co q.ts,q.bd⟩) (Qt kO13)) oa (ou h9.size) λhS hh g7 gh p8=>?_
    have kX15:KvN he.heap.size hh hS (kx++[⟨q.nm,vl,VN p.co q.ts,q.bd⟩]):=Yu.app2 (N:=hO.heap.size) (kX13.I h9) (by show u14.ownsRow _ _ 2 vl (VN p.co q.ts).length _;rw[p7];exact Qp kO13 h9) (by show(VN p.co q.ts).length<=_;omega) oa (λb G=>ou (kXge b G)) g7 gh p8;have p9:J∉ob vk:=λO=>ou (kXge J O).1
    have qf:H∉ob vk:=λO=>ou (kXge H O).1
    have ks915:O3 [J,H] he hh:=((hH.Q (mq.mono k6)).D h9).then gh (λb G=>.inr (kXge b G).1);have kB1015:=(kB1013.I h9).J gh p9;have kB1115:=(kB1113.I h9).J gh qf;refine Q0 U<|Qa<|QA (j:=4) (u:=hS) kB1015 U U oe (Qt g7) λu16 g8 kB1016=>xe ?_;refine Qw<|QN U U<|Qb<|xe<|⟨(k+1,mj,hS,kx++[⟨q.nm,vl,VN p.co q.ts,q.bd⟩]),oh,La,hf,ks915.Q (g8.mono k5),kB1016,kB1115.J g8 om,Yu.low kX15 g8 (λb G=>hlt10 b (k5 b G)),?_,?_,?_⟩
    ·simp only[];rw[hcsB,Lp,gy];rfl
    ·simp only[];rw[hcsM,h6,k9,Bool.or_assoc]
    intro q' ql;rcases Lc.1 ql with hA|hA
    ·exact pu q' hA
    simp only[oI]at hA;subst hA;exact p0
   refine Qh ?_;have hv:j<q.ts.length:=by have hw:(j:Int)<(q.ts.length:Int):=hR;omega
   have hT:q.ts.take (j+1)=q.ts.take j++[q.ts[j]'hv]:=Ll hv;have mq:O3 [H] ht hI:=(hJ.any (L:=[H])).then gg (λb G=>by
    simp only[oK,oJ,or_false]at G;rcases G with rfl|rfl
    ·exact .inr hz
    exact .inl oe)
   have qo:yT [] hI.heap q.v q.ts:=(h.I ks013).cs.each q hy;refine Qd<|Qg<|Qe<|O6 (g:=QI) Yv qo U U hv λa108 g9=>?_;refine Zk (q.ts[j]'hv) λlc q5=>?_;rw[q5]at g9 hT;have j1:VN p.co (q.ts.take (j+1))=VN p.co (q.ts.take j)++[((lwB p.co lc.1:Int),lc.2)]:=by
    rw[hT];unfold VN;rw[Lp];rfl
   have j2:mis p.co (q.ts.take (j+1))=(mis p.co (q.ts.take j) || !decide (lc.1∈p.co)):=by
    rw[hT];unfold mis;rw[List.any_append];simp
   refine x (Qv g9 U U)<|Qa<|Qo (us:=[oF oG 0,oF oG 0]) U λb22 u14 h9 j3 kB17=>Qa<|Qj (us:=QI lc) kB17 U U U U oA λhh gh kB17=>xe ?_;have hU:O3 [] hI hh:=h9.O gh j3;have ks015:=ks013.D hU;have kz15:=hU.size;have kB1515:=kB1513.I hU;have kB1115:=kB1113.I hU;have kB315:Q7 hh.heap b3 246 [v0,v1,v2,v3]:=(((kB310.I hJ).J gg p6)).I hU;have ka:hg∉H::ob vl:=λG=>by
    rcases Li.1 G with rfl|G
    ·omega
    have:=(h8 hg G).1;omega
   have kb:b22∉H::ob vl:=λG=>by
    rcases Li.1 G with rfl|G
    ·omega
    have:=(h8 b22 G).2;omega
   have kc:H∉ob vl:=λG=>ou (h8 H G).1
   have za:hg∉ob vl:=λG=>ka (Lk _ G);refine QR (O3 (H::ob vl) hh) [oD 0,oD 1,oD 2,oD 3,oD 4,oD 6,oD 7,oE 5,oD 8,oE 9,oE 10,oD 11,oE 12] mixed ol od (O3.C _ _) ?_;have ms:O3 [] hh { hh with drawn:=hh.drawn+1 }:=O3.C _ _
   have hzd:({ hh with drawn:=hh.drawn+1 }:OZ).heap.size=hh.heap.size:=rfl
   refine Go.Lg.p (QP U)<|pq (λ_ I=>Qq (kB1515.J I ka) U U)<|Go.Lg.p Qy<|Go.Lg.p (QP U)<|pq (λ_ I=>Qq (kB17.J I kb) U U) <|
    Go.Lg.p (QP U)<|pq (λ_ I=>Qq (kB17.J I kb) U U)<|pk<|xc (first:=[]) (capt:=[.pointer (some ⟨b3,0,none⟩),.pointer (some ⟨H,0,none⟩)]) U<|(jg (kB315.I ms) (kB1115.I ms) (I.I (ks015.D ms)) gt.2.1 lc.1).mono ?_
   rintro r16 u16 ⟨g8,rfl,kB1116⟩;have zb:=ms.any.Q g8;have hV:∀b∈[H],b∈H::ob vl:=λb G=>by simp only[oI]at G;simp[G]
   refine⟨zb.mono hV,?_⟩;refine Go.Lg.p (λ_=>Qz ⟨U,U,Z⟩)<|pk<|QB (us:=[QI ((lwB p.co lc.1:Int),lc.2)]) U U og oe ⟨rfl,rfl,Z⟩ λb119 u17 z0 hb119 gv=>⟨(zb.D z0).mono hV,?_⟩;have ke:=zb.D z0;have kO17:u17.ownsRow hO.heap.size 78 2 vl j ((VN p.co (q.ts.take j)).flatMap QI):=Qf (Qp kO13 hU) ke (λb G O=>by simp only[oI]at O;subst O;exact kc G);have kz17:=ke.size;refine pk<|Za (news:=QI ((lwB p.co lc.1:Int),lc.2)) (L:=[]) kO17 U U U (gv.at oe) (λu hu=>by
    simp only[oK,oJ,or_false]at hu;rcases hu with rfl|rfl <;> rfl) oa oa λkf u18 hW mt hn18=>⟨(ke.mono hV).Q (mt.mono (λb G=>Lk _ G)),?_⟩
   have kB1518:=((kB1515.J ke om)).J mt za;have kB1118:=(kB1116.I z0).J mt kc;refine Go.Lg.p (QP U)<|pkl (hl:=by kernel_rfl)<|QA (j:=1) (u:=kf) kB1518 U U oe (Qt hW) λu19 z1 kB1519=>pe ?_;refine Qw<|QN U U<|Qb<|xe ?_;have z2:∀b∈[H],b∈[hg,H]:=λb G=>by simp only[oI]at G;simp[G]
   have z3:∀b∈[hg],b∈[hg,H]:=λb G=>by simp only[oI]at G;simp[G]
   have ks1218:O3 [hg,H] hO u18:=((gg.D hU).Q (ke.mono z2)).then mt (λb G=>.inr (h8 b G).1);refine⟨(j+1,mj || !decide (lc.1∈p.co),kf),oh,La,hv,ks1218.Q (z1.mono z3),kB1519,kB1118.J z1 om,?_,?_⟩
   ·simp only[];rw[j1,LA];have:=Qf hW z1 (λb G=>by
     simp only[oI];have:=(Qi hW b G).1;omega)
    simpa using this
   simp only[];rw[j2,h6,Bool.or_assoc]
  refine Qh ?_;have hf:k<p.ex.length:=by have hw:(k:Int)<(p.ex.length:Int):=hN;omega
  have hP:p.ex.take (k+1)=p.ex.take k++[p.ex[k]'hf]:=Ll hf;have pz:=hexz.1 _ (Lm hf);refine Zk (p.ex[k]'hf) λi g2=>?_;rw[g2]at hP pz;have gc:i=(i.toNat:Int):=oa
  have ha:i.toNat<c.ex.length:=oa
  have hy:=Lm ha;have hQ:exG c.V i=(c.ex[i.toNat]'ha).x:=by
   show(c.ex.map (·.x)).getD i.toNat ⟨.empty,[]⟩=_;simp[oQ,ha]
  refine Zk (c.ex[i.toNat]'ha) λq T=>?_;rw[T]at hy hQ;have g3:=pj.ex.each q hy;have p0:=pj.ex.nm q hy;have hql:=g3.le;have hexB:exB c.V p.co (p.ex.take (k+1))=exB c.V p.co (p.ex.take k)++[⟨q.nm,VN p.co q.ls⟩]:=by
   rw[hP];unfold exB;rw[Lp,M9,hQ];rfl
  have hexM:exM c.V p.co (p.ex.take (k+1))=(exM c.V p.co (p.ex.take k) || mis p.co q.ls):=by
   rw[hP];unfold exM;rw[List.any_append,List.any_cons,List.any_nil,Bool.or_false,hQ];rfl
  refine Qd<|Qg<|Qe<|xii (i:=k) (hx.I gx) U U hf λa90 g4=>?_;rw[g2]at g4;refine x (QD g4 U)<|Qc<|Qe<|Qs U pm U U<|Qb<|O6 (g:=Q6) (i:=i.toNat) Xi pj.ex.arr U (OT (Value.int .i64) gc) ha λa95 h95=>?_;rw[T]at h95;refine x (Zg U)<|x (QD (h95.fld 0 (.string q.nm) U) U)<|x (Qz ⟨U,Z⟩)<|Qa<|Qo (us:=[.string .empty,nS]) U λho w11 z4 hz mu =>
   Qa<|Qj (us:=[.string q.nm,nS]) mu U U U U oA λgi hs12 mu=>xe ?_
  have hK:O3 [] he gi:=z4.O hs12 hz;have hs012:=gx.D hK;have h12:=h.I hs012;have hB212:=pm.I hK;have hz12:=hK.size;have hl15:=mu.lt;have p4:=g3.I hK;refine Qd<|Qe<|Qs U hB212 U U<|Qb<|O6 (g:=Q6) (i:=i.toNat) Xi h12.ex.arr U (OT (Value.int .i64) gc) ha λa102 g5=>?_;rw[T]at g5;refine x (Zg U)<|x (QD (g5.fld 1 q.v U) U)<|QL p4 U<|Qb<|xe ?_;have p5:∀b∈[ho,H],w.heap.size<=b:=λb G=>by simp only[oK,oJ,or_false]at G;omega
  have p6:b3∉[ho,H]:=λG=>by simp only[oK,oJ,or_false]at G;omega
  have hn1510:J∉[ho,H]:=λG=>by simp only[oK,oJ,or_false]at G;omega
  refine Qg<|QC (α:=Nat×Bool×O0) [(17,17),(106,122)] (λz=>[(106,oF oG z.1)]) (λz w'=>z.1<=q.ls.length/\O3 [ho,H] gi w'/\Q7 w'.heap ho 71 [.string q.nm,z.2.2]/\Q7 w'.heap H 4 [.bool z.2.1] /\
   w'.ownsRow gi.heap.size 73 2 z.2.2 z.1 ((VN p.co (q.ls.take z.1)).flatMap QI)/\z.2.1=(mi || mis p.co (q.ls.take z.1))) (λz=>q.ls.length - z.1) ol (0,mi,nS) La
   ⟨Ln _,O3.Z _ _,mu,gv.I hK,QJ _ _ _ _,by simp[mis]⟩ ?_
  rintro⟨j,mj,vl⟩ g gj ⟨hj,gk,z5,hB1113,gl,h6⟩;simp only[]at hj z5 hB1113 gl h6;have hs013:O3 [] w gj:=hs012.then gk (λb G=>.inr (p5 b G));have hz13:=gk.size;have h8:=Qi gl;refine Qe<|QX U U<|xe<|Qd<|QG U (λhR=>?_) (λhR=>?_)
  ·refine Qx ?_;have g6:j=q.ls.length:=by have hw:¬(j:Int)<(q.ls.length:Int):=hR;omega
   rw[g6,MZ]at gl;rw[g6,MZ]at h6;have mv:O3 [H] he gj:=(hK.any (L:=[H])).then gk (λb G=>by
    simp only[oK,oJ,or_false]at G;rcases G with rfl|rfl
    ·exact .inr hz
    exact .inl oe)
   have hB1013:=pg.J mv (oz hn10);have hX13:XvN w9.heap.size gj vx qx:=Yu.low k7 mv (λb G=>k4 b (k6 b G));have mw:=Qi k7.own;have p7:(VN p.co q.ls).length=q.ls.length:=Lh ..;refine Qw<|Qs U hB1013 U U<|Q2 z5 U U<|Qa<|QB (us:=[Q6 ⟨q.nm,vl,VN p.co q.ls⟩]) U U og oe ⟨rfl,rfl,Z⟩ λb126 w14 hC hb126 hB126 =>
    Qa<|Za (news:=Q6 ⟨q.nm,vl,VN p.co q.ls⟩) (L:=[]) (Qp hX13.own hC) U U U (hB126.at oe) (j7 (q:=⟨q.nm,vl,VN p.co q.ls⟩) (Qt gl)) oa (ou hC.size) λhS hp g7 gm p8=>?_
   have hX15:XvN w9.heap.size hp hS (qx++[⟨q.nm,vl,VN p.co q.ls⟩]):=Yu.app2 (N:=gi.heap.size) (hX13.I hC) (by show w14.ownsRow _ _ 2 vl (VN p.co q.ls).length _;rw[p7];exact Qp gl hC) (by show(VN p.co q.ls).length<=_;omega) oa (λb G=>ou (mw b G)) g7 gm p8;have p9:J∉ob vx:=λO=>ou (mw J O).1
   have qf:H∉ob vx:=λO=>ou (mw H O).1
   have hs915:O3 [J,H] w9 hp:=((hM.Q (mv.mono k6)).D hC).then gm (λb G=>.inr (mw b G).1);have hB1015:=(hB1013.I hC).J gm p9;have hB1115:=(hB1113.I hC).J gm qf;refine Q0 U<|Qa<|QA (j:=3) (u:=hS) hB1015 U U oe (Qt g7) λw16 kg hB1016=>xe ?_;refine Qw<|QN U U<|Qb<|xe<|⟨(k+1,mj,hS,qx++[⟨q.nm,vl,VN p.co q.ls⟩]),oh,La,hf,hs915.Q (kg.mono k5),hB1016,hB1115.J kg om,Yu.low hX15 kg (λb G=>k4 b (k5 b G)),?_,?_,?_⟩
   ·simp only[];rw[hexB,Lp,gw];rfl
   ·simp only[];rw[hexM,h6,k8]
   intro q' ql;rcases Lc.1 ql with hA|hA
   ·exact ph q' hA
   simp only[oI]at hA;subst hA;exact p0
  refine Qh ?_;have hv:j<q.ls.length:=by have hw:(j:Int)<(q.ls.length:Int):=hR;omega
  have hT:q.ls.take (j+1)=q.ls.take j++[q.ls[j]'hv]:=Ll hv;have mv:O3 [H] he gj:=(hK.any (L:=[H])).then gk (λb G=>by
   simp only[oK,oJ,or_false]at G;rcases G with rfl|rfl
   ·exact .inr hz
   exact .inl oe)
  have qo:yT [] gj.heap q.v q.ls:=(h.I hs013).ex.each q hy;refine Qd<|Qg<|Qe<|O6 (g:=QI) Yv qo U U hv λa108 g9=>?_;refine Zk (q.ls[j]'hv) λlc q5=>?_;rw[q5]at g9 hT;have j1:VN p.co (q.ls.take (j+1))=VN p.co (q.ls.take j)++[((lwB p.co lc.1:Int),lc.2)]:=by
   rw[hT];unfold VN;rw[Lp];rfl
  have j2:mis p.co (q.ls.take (j+1))=(mis p.co (q.ls.take j) || !decide (lc.1∈p.co)):=by
   rw[hT];unfold mis;rw[List.any_append];simp
  refine x (Qv g9 U U)<|Qa<|Qo (us:=[oF oG 0,oF oG 0]) U λb17 w14 hC j3 my=>Qa<|Qj (us:=QI lc) my U U U U oA λhp gm my=>xe ?_;have hX:O3 [] gj hp:=hC.O gm j3;have hs015:=hs013.D hX;have hz15:=hX.size;have hB1515:=z5.I hX;have hB1115:=hB1113.I hX;have hB315:Q7 hp.heap b3 246 [v0,v1,v2,v3]:=(((pn.I hK).J gk p6)).I hX;have ka:ho∉H::ob vl:=λG=>by
   rcases Li.1 G with rfl|G
   ·omega
   have:=(h8 ho G).1;omega
  have kb:b17∉H::ob vl:=λG=>by
   rcases Li.1 G with rfl|G
   ·omega
   have:=(h8 b17 G).2;omega
  have kc:H∉ob vl:=λG=>ou (h8 H G).1
  have za:ho∉ob vl:=λG=>ka (Lk _ G);refine QR (O3 (H::ob vl) hp) [oD 0,oD 1,oD 2,oD 3,oD 4,oD 6,oD 7,oE 5,oD 8,oE 9,oE 10,oD 11,oE 12] mixed ol od (O3.C _ _) ?_;have mz:O3 [] hp { hp with drawn:=hp.drawn+1 }:=O3.C _ _
  have hzd:({ hp with drawn:=hp.drawn+1 }:OZ).heap.size=hp.heap.size:=rfl
  refine Go.Lg.p (QP U)<|pq (λ_ I=>Qq (hB1515.J I ka) U U)<|Go.Lg.p Qy<|Go.Lg.p (QP U)<|pq (λ_ I=>Qq (my.J I kb) U U) <|
   Go.Lg.p (QP U)<|pq (λ_ I=>Qq (my.J I kb) U U)<|pk<|xc (first:=[]) (capt:=[.pointer (some ⟨b3,0,none⟩),.pointer (some ⟨H,0,none⟩)]) U<|(jg (hB315.I mz) (hB1115.I mz) (I.I (hs015.D mz)) gt.2.1 lc.1).mono ?_
  rintro r16 w16 ⟨kg,rfl,hB1116⟩;have hs1516:=mz.any.Q kg;have hV:∀b∈[H],b∈H::ob vl:=λb G=>by simp only[oI]at G;simp[G]
  refine⟨hs1516.mono hV,?_⟩;refine Go.Lg.p (λ_=>Qz ⟨U,U,Z⟩)<|pk<|QB (us:=[QI ((lwB p.co lc.1:Int),lc.2)]) U U og oe ⟨rfl,rfl,Z⟩ λb119 w17 hs17 hb119 kz=>⟨(hs1516.D hs17).mono hV,?_⟩;have kh:=hs1516.D hs17;have hO17:w17.ownsRow gi.heap.size 73 2 vl j ((VN p.co (q.ls.take j)).flatMap QI):=Qf (Qp gl hX) kh (λb G O=>by simp only[oI]at O;subst O;exact kc G);have hz17:=kh.size;refine pk<|Za (news:=QI ((lwB p.co lc.1:Int),lc.2)) (L:=[]) hO17 U U U (kz.at oe) (λu hu=>by
   simp only[oK,oJ,or_false]at hu;rcases hu with rfl|rfl <;> rfl) oa oa λkf w18 hW m2 hn18=>⟨(kh.mono hV).Q (m2.mono (λb G=>Lk _ G)),?_⟩
  have hB1518:=((hB1515.J kh om)).J m2 za;have hB1118:=(hB1116.I hs17).J m2 kc;refine Go.Lg.p (QP U)<|pkl (hl:=by kernel_rfl)<|QA (j:=1) (u:=kf) hB1518 U U oe (Qt hW) λw19 hs19 hB1519=>pe ?_;refine Qw<|QN U U<|Qb<|xe ?_;have z2:∀b∈[H],b∈[ho,H]:=λb G=>by simp only[oI]at G;simp[G]
  have z3:∀b∈[ho],b∈[ho,H]:=λb G=>by simp only[oI]at G;simp[G]
  have hs1218:O3 [ho,H] gi w18:=((gk.D hX).Q (kh.mono z2)).then m2 (λb G=>.inr (h8 b G).1);refine⟨(j+1,mj || !decide (lc.1∈p.co),kf),oh,La,hv,hs1218.Q (hs19.mono z3),hB1519,hB1118.J hs19 om,?_,?_⟩
  ·simp only[];rw[j1,LA];have:=Qf hW hs19 (λb G=>by
    simp only[oI];have:=(Qi hW b G).1;omega)
   simpa using this
  simp only[];rw[j2,h6,Bool.or_assoc]
 refine Qh ?_;have gn:k<S.length:=by have hw:(k:Int)<(S.length:Int):=m8;omega
 have hmem:=Lm gn;have hdr:S.drop k=S[k]'gn::S.drop (k+1):=LE gn;refine Qd<|Qg<|Qe<|O6 (g:=skC) Qni (hA54.I hD) U U gn λa58 h58=>?_;refine Zk (S[k]'gn) λq T=>?_;rw[T]at h58 hmem hdr;have hqi:=hl4i q hmem;rw[hdr,show q=(q.1,q.2.1,q.2.2) from rfl,ck4]at hF;refine x (Qv h58 U U)<|Qa<|Qo (us:=[nS,oF oG 0]) U λb8 w8 hZ hb8 m3=>Qa<|Qj (us:=skC q) m3 U U U U ⟨hqi.one,U,Z⟩ λw9 pf m3=>xe ?_;have hG:O3 [] w7 w9:=hZ.O pf hb8;have gu:=gs.D hG;refine Qe<|Qs U m3 U U<|Qs U m3 U U<|Qa<|xf<|(QcM (hqi.I gu) q.2.2).mono ?_;rintro r10 he ⟨rfl,rfl⟩;refine Qc<|Qm<|ZA U U<|xe<|QZ rfl (λki=>?_) (λki=>?_)
 ·rw[OS ki]at hF;have hne:ck4 S≠0:=by rw[<-hF];exact ki
  rw[OS hne,<-hF]at Y;subst Y;have po:Q7 he.heap b4 44 ZY:=((m7.I hY).I hD).I hG;refine Qe<|x (Qz Z)<|Qb<|Qa<|Qj (us:=ZY) po U U U U ⟨U,U,U,U,U,Z⟩ λw11 z4 hB411=>Qc ?_;exact Ql ⟨[.agg ZY.toArray,oF oG (Kf q.2.2 none q.2.1)],⟨⟨_,U,Qn U (hB411.at (L:=[]) oe).cells⟩,rfl,Z⟩,gu.O z4 oa,ZY,rfl,rfl,⟨rfl,rfl,rfl,rfl,rfl,Z⟩,λ_=>rfl,λV=>OU V ki⟩
 rw[OR ki]at hF;refine Qh<|Qw<|QN U U<|Qb<|xe ?_;exact⟨k+1,oa,La,gn,hD.D hG,hF⟩
theorem Qeg (n:Nat):(1:Int)*(2:Int) ^ n=((1 <<< n:Nat):Int):=by
 rw[Nat.shiftLeft_eq,NN,Int.one_mul,Int.natCast_pow];rfl
theorem K0 (h:n<16):1 <<< n<65536:=by
 rw[Nat.shiftLeft_eq,NN];exact Nat.pow_lt_pow_right og h
theorem Qdc {k:Nat}(E:b<65536)(G:k<16):orB b k<65536:=Qep E (K0 G)
theorem Qn6 (h:n<16):inK .u16 ((1:Int)*(2:Int) ^ n):=by
 rw[Qeg];have E:=K0 h;generalize 1 <<< n=m at E;exact⟨oa,oa⟩
theorem QhC {x:XG}:∀(l:List XG) (k b:Nat),b<65536->k+l.length<=16->rqB x k b l<65536
 | [],_,_,E,_=>E
 | y::l,k,b,E,G=>by
  rw[rqB];refine QhC l _ _ ?_ (by simp at G;omega);by_cases h:(y.a.al.any λe=>decide (e∈x.a.al))=true
  ·rw[OS h];exact Qdc E (by simp at G;omega)
  rw[OR h];exact E
theorem QbD (ls:xt)(l:Int×Int):prB (ls++[l])=orB (prB ls) l.1.toNat:=by
 unfold prB;rw[Mz];rfl
theorem Qap:∀(ls:xt),(∀l∈ls,0<=l.1/\l.1<16)->prB ls<65536:=by
 intro ls;unfold prB;have key:∀(ls:xt) (b:Nat),b<65536->(∀l∈ls,0<=l.1/\l.1<16)->ls.foldl (λb l=>orB b l.1.toNat) b<65536:=by
  intro ls;induction ls with
  | nil=>intro b E _;exact E
  | cons l ls ih =>
   intro b E h;exact ih _ (Qdc E (ou (h l Lt))) (λl' hl=>h l' (Lk _ hl))
 exact key ls 0 og
theorem QeF (m:Nat)(S:m<65536)(w:OZ):Q5 prog 114 [.int .u16 m] w λr w'=>O3 [] w w'/\Qu 3 w.heap.size w' r (setK m 8):=by
 refine Zs func114 ntmps114 results114 ?_;refine Qe<|Qc<|Qe<|Qc<|Qd<|Qm<|xe<|Qg<|QC (α:=Nat×O0) [(3,17)] (λz=>[(3,z.2),(5,oF oG z.1)]) (λz w'=>z.1<=8/\O3 [] w w'/\Qu 3 w.heap.size w' z.2 (setK m z.1)) (λz=>8 - z.1) ol (0,nS) oA
  ⟨Ln _,O3.Z _ _,QJ _ _ _ _⟩ ?_
 rintro⟨k,v⟩ g w1 ⟨T,G,E⟩;simp only[]at T E;have hh:=Jw m k;have hi:=G.size;refine Qe<|QX U U<|xe<|Qd<|QG U (λV=>?_) (λV=>?_)
 ·refine Qx<|Qm<|Qc ?_;have Y:k=8:=oa
  rw[Y]at E;exact Ql ⟨[v],La,G,E⟩
 have J:k<8:=oa
 have ha:m / 2 ^ k<65536:=Nat.lt_of_le_of_lt (Nat.div_le_self _ _) S;have H:=UY m k;refine Qh<|Qd<|Qg<|Qm<|Qc<|Qm<|Qb<|x (ji (n:=k) U U (by show k<=16;omega))<|x (Qk2 (a:=m / 2 ^ k) (b:=1) (OT (Value.int .u16) (Qae m k)) U ha og)<|x (Q9 U U)<|xe<|QG rfl (λO=>?_) (λO=>?_)
 ·rw[OR (λe=>O (by rw[e];rfl))]at H;refine Qh<|Qw<|QN U U<|Qb<|xe ?_;exact⟨(k+1,v),oh,oA,J,G,by simp only[];rw[H];exact E⟩
 rw[OS oa]at H;refine Qw<|Qb<|Qb<|Qa<|QB (us:=[[oF oG k]]) U U og oe ⟨rfl,rfl,Z⟩ λhj w2 I hl hc=>?_;have he:=Qp E I;have hn:=I.size;refine Qa<|Za (news:=[oF oG k]) (L:=[]) he U U U (hc.at oe) (by simp[Value.oneCell']) oa oa λv3 w3 hf hg ho =>
  Qc ?_
 have hge:=Qi E;refine Qw<|QN U U<|Qb<|xe<|⟨(k+1,v3),oh,oA,J,(G.D I).then hg (λb hb=>.inr (hge b hb).1),?_⟩;simp only[];rw[H];exact Qu.snoc hf
theorem Qhr {c:CL}(J:Q7 w.heap b1 44 c.cells)(O:Q7 w.heap b2 3 [oF oG i])(E:ZF [] w.heap c){q:IV}(hi:c.rq[i]?=some q)(e:Int):
  Q5 prog 166 [oF oG e,.pointer (some ⟨b1,0,none⟩),.pointer (some ⟨b2,0,none⟩)] w λr w'=>r=.bool (decide (e∈q.p.a.al))/\O3 [] w w':=by
 obtain⟨G,H⟩:=L7.1 hi;have S:=E.rq.each q (H ▸ Lm G);refine Zs func166 ntmps166 results166 ?_;refine Qe<|Qc<|Qe<|Qs U J U U<|Y2 O U U<|O6 (g:=QO) (i:=i) Yj E.rq.arr U U G λT I=>?_;rw[H]at I;refine x (Zg U)<|x (Zg U)<|x (QD ((I.fld 1 q.p.va U)) U)<|Qb<|Qa<|xf<|(Ya S.al e).mono ?_;rintro V Y ⟨rfl,rfl⟩;refine Qc ?_;exact Ql ⟨[_],La,U,O3.Z _ _⟩
theorem QkI {c:CL}(hg:Q7 w.heap b1 44 c.cells)(T:ZF [] w.heap c)(h8:c.co.length<=8){q:IV}(hi:c.rq[i]?=some q):
  Q5 prog 165 [oF oG i,.pointer (some ⟨b1,0,none⟩)] w λr w'=>r=.int .u16 (rqB q.it 0 0 c.V.co)/\O3 [] w w':=by
 refine Zs func165 ntmps165 results165 ?_;refine Qe<|Qa<|QS (us:=[oF oG i]) U λb2 w1 V hw hn=>Qc<|Qe<|Qc<|Qd<|Qe<|Qs U (hg.I V) U U<|QL (T.I V).co.arr U<|Qb<|xe<|Qg<|QC (α:=Nat×Nat) [(4,6),(10,24)] (λz=>[(4,.int .u16 z.2),(10,oF oG z.1)]) (λz w'=>z.1<=c.co.length/\O3 [] w1 w'/\z.2<65536/\rqB q.it z.1 z.2 ((c.co.drop z.1).map (·.it))=rqB q.it 0 0 c.V.co) (λz=>c.co.length - z.1) ol (0,0) oA
  ⟨Ln _,O3.Z _ _,og,U⟩ ?_
 rintro⟨k,b⟩ g w2 ⟨hk,J,O,E⟩;simp only[]at hk O E;have Y:=V.D J;have h2:=T.I Y;refine Qe<|QX U U<|xe<|Qd<|QG U (λha=>?_) (λha=>?_)
 ·refine Qx ?_;have ho:c.co.length<=k:=by have hp:¬(k:Int)<(c.co.length:Int):=ha;omega
  rw[Lr ho]at E;have hq:b=rqB q.it 0 0 c.V.co:=E;refine Qm<|Qc ?_;exact Ql ⟨[.int .u16 b],La,by rw[hq];rfl,Y⟩
 have G:k<c.co.length:=by have hp:(k:Int)<(c.co.length:Int):=ha;omega
 have hh:=Lm G;rw[JT G,rqB]at E;refine Qh<|Qd<|Qg<|Qm<|O6 (g:=QO) (i:=k) Yj h2.co.arr U U G λhz hj=>?_;refine Zk (c.co[k]'G) λy hy=>?_;rw[hy]at hj hh E;have S:=h2.co.each y hh;refine x (Qv hj U U)<|Qa<|Qo (us:=[.string .empty,nS,oF oG 0,nS,nS]) U λb6 w3 hs ht he=>x Qk <|
  Qa<|Qj (us:=QO y) he U U U U ⟨U,S.al.one,U,S.mr.one,S.ed.one,Z⟩ λw4 hu he=>xe ?_
 have I:O3 [] w2 w4:=hs.O hu ht;have hl:=Y.D I;refine Qe<|Q0 U<|Qs U he U U<|x (ZC (l:=[]) (l':=[_,_]))<|Qa<|xf<|(Qfa (q:=λe=>decide (e∈q.p.a.al)) (cap:=[.pointer (some ⟨b1,0,none⟩),.pointer (some ⟨b2,0,none⟩)]) (S.al.I I)
  (λe w5 H=>Qhr ((hg.I hl).I H) ((hn.I (J.D I)).I H) ((T.I hl).I H) hi e)).mono ?_
 rintro r5 w5 ⟨rfl,H⟩;refine xe<|QW rfl (λhf=>?_) (λhf=>?_)
 ·rw[OS (by exact hf)]at E;refine Qw<|Qb<|Qb<|x (QhJ (n:=k) U U (by show k<=16;omega) (Qn6 oa))<|x (Qc9 (a:=b) (b:=1 <<< k) U (OT (Value.int .u16) (Qeg k)) O (K0 oa))<|Qc<|Qw<|QN U U<|Qb<|xe ?_;exact⟨(k+1,orB b k),oh,oA,G,(J.D I).D H,Qdc O oa,E⟩
 rw[OR (by intro h0;have hv:(y.p.a.al.any λe=>decide (e∈q.p.a.al))=false:=hf;have hm:(y.p.a.al.any λe=>decide (e∈q.p.a.al))=true:=h0;rw[hv]at hm;cases hm)]at E;refine Qh<|Qw<|QN U U<|Qb<|xe ?_;exact⟨(k+1,b),oh,oA,G,(J.D I).D H,O,E⟩
theorem QkH {c:CL}(hg:Q7 w.heap b1 44 c.cells)(T:ZF [] w.heap c){q:XV}(hi:c.ex[i]?=some q)(V:∀l∈q.ls,0<=l.1/\l.1<16):
  Q5 prog 167 [oF oG i,.pointer (some ⟨b1,0,none⟩)] w λr w'=>r=.int .u16 (prB q.ls)/\O3 [] w w':=by
 obtain⟨Y,hq⟩:=L7.1 hi;have I:=T.ex.each q (hq ▸ Lm Y);have hu:=I.le;refine Zs func167 ntmps167 results167 ?_;refine Qe<|Qc<|Qe<|Qc<|Qd<|Qe<|Qs U hg U U<|Qb<|O6 (g:=Q6) (i:=i) Xi T.ex.arr U U Y λhv ha=>?_;rw[hq]at ha;refine x (Zg U)<|x (QD (ha.fld 1 q.v U) U)<|QL I U<|Qb<|xe<|Qg<|QC (α:=Nat×Nat) [(4,4),(6,6),(14,23)] (λz=>[(4,.int .u16 z.2),(14,oF oG z.1)]) (λz w'=>z.1<=q.ls.length/\O3 [] w w'/\z.2=prB (q.ls.take z.1)) (λz=>q.ls.length - z.1) ol (0,0) oA
  ⟨Ln _,O3.Z _ _,U⟩ ?_
 rintro⟨k,b⟩ g w1 ⟨hk,J,G⟩;simp only[]at hk G;have hh:b<65536:=by rw[G];exact Qap _ (λl hl=>V l (LR hl))
 refine Qe<|QX U U<|xe<|Qd<|QG U (λO=>?_) (λO=>?_)
 ·refine Qx ?_;have hj:q.ls.length<=k:=by have H:¬(k:Int)<(q.ls.length:Int):=O;omega
  rw[Ls hj]at G;refine Qm<|Qc ?_;exact Ql ⟨[.int .u16 b],La,by rw[G];rfl,J⟩
 have E:k<q.ls.length:=by have H:(k:Int)<(q.ls.length:Int):=O;omega
 have he:q.ls.take (k+1)=q.ls.take k++[q.ls[k]'E]:=Ll E;have hn:=V _ (Lm E);refine Qh<|Qd<|Qg<|Qe<|O6 (g:=QI) Yv (I.I J) U U E λhw H=>?_;refine Zk (q.ls[k]'E) λl hl=>?_;rw[hl]at H he hn;have ho:l.1=(l.1.toNat:Int):=oa
 have hf:l.1.toNat<16:=oa
 refine x (Qv H U U)<|Qa<|Qo (us:=[oF oG 0,oF oG 0]) U λb6 w2 hp hr S=>Qa<|Qj (us:=QI l) S U U U U oA λw3 hs S =>
  xe ?_
 have ht:O3 [] w1 w3:=hp.O hs hr;refine Qw<|Qb<|Qs U S U U<|x (QhJ (n:=l.1.toNat) U (OT (Value.int .i64) ho) (by show l.1.toNat<=16;omega) (Qn6 hf))<|x (Qc9 (a:=b) (b:=1 <<< l.1.toNat) U (OT (Value.int .u16) (Qeg _)) hh (K0 hf))<|Qc<|Qw<|QN U U<|Qb<|xe ?_;exact⟨(k+1,orB b l.1.toNat),oh,oA,E,J.D ht,by simp only[];rw[he,QbD,G]⟩
theorem QkG {c:CL}(hg:Q7 w.heap b1 44 c.cells)(T:ZF [] w.heap c){q:KV}(hi:c.cs[i]?=some q)(V:∀l∈q.ts,0<=l.1/\l.1<16):
  Q5 prog 168 [oF oG i,.pointer (some ⟨b1,0,none⟩)] w λr w'=>r=.int .u16 (prB q.ts)/\O3 [] w w':=by
 obtain⟨Y,hq⟩:=L7.1 hi;have I:=T.cs.each q (hq ▸ Lm Y);have hu:=I.le;refine Zs func168 ntmps168 results168 ?_;refine Qe<|Qc<|Qe<|Qc<|Qd<|Qe<|Qs U hg U U<|Qb<|O6 (g:=Zc) (i:=i) Xb T.cs.arr U U Y λhv ha=>?_;rw[hq]at ha;refine x (Zg U)<|x (QD (ha.fld 1 q.v U) U)<|QL I U<|Qb<|xe<|Qg<|QC (α:=Nat×Nat) [(4,4),(6,6),(14,23)] (λz=>[(4,.int .u16 z.2),(14,oF oG z.1)]) (λz w'=>z.1<=q.ts.length/\O3 [] w w'/\z.2=prB (q.ts.take z.1)) (λz=>q.ts.length - z.1) ol (0,0) oA
  ⟨Ln _,O3.Z _ _,U⟩ ?_
 rintro⟨k,b⟩ g w1 ⟨hk,J,G⟩;simp only[]at hk G;have hh:b<65536:=by rw[G];exact Qap _ (λl hl=>V l (LR hl))
 refine Qe<|QX U U<|xe<|Qd<|QG U (λO=>?_) (λO=>?_)
 ·refine Qx ?_;have hj:q.ts.length<=k:=by have H:¬(k:Int)<(q.ts.length:Int):=O;omega
  rw[Ls hj]at G;refine Qm<|Qc ?_;exact Ql ⟨[.int .u16 b],La,by rw[G];rfl,J⟩
 have E:k<q.ts.length:=by have H:(k:Int)<(q.ts.length:Int):=O;omega
 have he:q.ts.take (k+1)=q.ts.take k++[q.ts[k]'E]:=Ll E;have hn:=V _ (Lm E);refine Qh<|Qd<|Qg<|Qe<|O6 (g:=QI) Yv (I.I J) U U E λhw H=>?_;refine Zk (q.ts[k]'E) λl hl=>?_;rw[hl]at H he hn;have ho:l.1=(l.1.toNat:Int):=oa
 have hf:l.1.toNat<16:=oa
 refine x (Qv H U U)<|Qa<|Qo (us:=[oF oG 0,oF oG 0]) U λb6 w2 hp hr S=>Qa<|Qj (us:=QI l) S U U U U oA λw3 hs S =>
  xe ?_
 have ht:O3 [] w1 w3:=hp.O hs hr;refine Qw<|Qb<|Qs U S U U<|x (QhJ (n:=l.1.toNat) U (OT (Value.int .i64) ho) (by show l.1.toNat<=16;omega) (Qn6 hf))<|x (Qc9 (a:=b) (b:=1 <<< l.1.toNat) U (OT (Value.int .u16) (Qeg _)) hh (K0 hf))<|Qc<|Qw<|QN U U<|Qb<|xe ?_;exact⟨(k+1,orB b l.1.toNat),oh,oA,E,J.D ht,by simp only[];rw[he,QbD,G]⟩
theorem xcG {pS:String}{x:O1}{l:List O1}{at_:Array Nat}
   {first:LV} (E:∃fn,Fu P g fn) (hx:ev f x=.func (.func g) first.toArray capt.toArray) (h:Q5 P g (first++l.map (ev f)++capt) w λv w'=>K (QY f d v) w'):
  XO P ⟨d,.call ⟨.value x,l.toArray,at_⟩,ty,pS,af,gd⟩ f w K:=by
 obtain⟨fn,G⟩:=E;exact xc (fn:=fn) hx h
def gK (m:Nat):Nat:=if m=0 then 165 else if m=1 then 167 else 168
theorem QmT (m:Nat):∃fn,Fu prog (gK m) fn:=by
 unfold gK;split
 ·exact⟨_,inferInstance⟩
 split
 ·exact⟨_,inferInstance⟩
 exact⟨_,inferInstance⟩
abbrev KW (c:ZG)(m:Nat):LN:=srK c ((m:Int)+1)
theorem QkL (c:ZG):KW c 0=srR c:=rfl
theorem QkK (c:ZG):KW c 1=srX c:=rfl
theorem QkJ (c:ZG):KW c 2=srC c:=rfl
structure yS (c:ZG):Prop where
 c8:c.co.length<=8
 r:c.rq.length<=32
 x:c.ex.length<=32
 k:c.cs.length<=32
 xl:∀e∈c.ex,∀l∈e.ls,0<=l.1/\l.1<16
 kl:∀e∈c.cs,∀l∈e.ts,0<=l.1/\l.1<16
theorem Qkg.sr (h:Qkg c):yS c:=by
 have E:=Vi h.cd;have I:(szs c.co).length=c.co.length:=Lh ..;have H:=h.c8;have J:=h.cr;refine⟨H,oa,E.xl,E.kl,λe G l hl=>?_,λe G l hl=>?_⟩
 ·have:=E.x e G l hl;omega
 have:=(E.k e G).1 l hl;omega
theorem Qac (h:yS c){m:Nat}(I:m<3):(KW c m).length<=32:=by
 have E:=h.r;have G:=h.x;have H:=h.k;rcases m with _|_|_|m
 ·rw[QkL];unfold srR;rw[Lh];exact E
 ·rw[QkK];unfold srX;rw[Lh];exact G
 ·rw[QkJ];unfold srC;rw[Lh];exact H
 omega
theorem Qhs (h:yS c){m:Nat}(G:m<3):∀b∈KW c m,b<65536:=by
 have H:=h.c8;rcases m with _|_|_|m
 ·rw[QkL];unfold srR;intro b E;obtain⟨x,_,rfl⟩:=LD.1 E;exact QhC _ _ _ og oa
 ·rw[QkK];unfold srX;intro b E;obtain⟨x,hx,rfl⟩:=LD.1 E;exact Qap _ (h.xl x hx)
 ·rw[QkJ];unfold srC;intro b E;obtain⟨x,hx,rfl⟩:=LD.1 E;exact Qap _ (h.kl x hx)
 omega
abbrev srV (b1:Nat)(c:ZG)(m:Nat):LV:=[oF oG ((m:Int)+1),oF oG (KW c m).length,.func (.func (gK m)) #[] #[.pointer (some ⟨b1,0,none⟩)]]
theorem Qab (b1:Nat)(c:ZG)(m:Nat):(srV b1 c m).length=3:=rfl
theorem Qhq {c:CL}{m:Nat}(G:Q7 w.heap b1 44 c.cells)(H:ZF [] w.heap c)(I:yS c.V)(O:m<3)(hi:i<(KW c.V m).length):
  Q5 prog (gK m) [oF oG i,.pointer (some ⟨b1,0,none⟩)] w λr w'=>r=.int .u16 ((KW c.V m)[i]'hi:Nat)/\O3 [] w w':=by
 rcases m with _|_|_|m
 ·have hl:(KW c.V 0).length=c.rq.length:=by rw[QkL];unfold srR;rw[Lh];exact Lh ..
  have E:i<c.rq.length:=Nat.lt_of_lt_of_eq hi hl;have e:(KW c.V 0)[i]'hi=rqB (c.rq[i]'E).it 0 0 c.V.co:=by
   show(srR c.V)[i]'_=_;simp[srR,CL.V]
  rw[e];have J:c.co.length<=8:=by have:=I.c8;rw[show c.V.co.length=c.co.length from Lh ..]at this;exact this
  exact QkI G H J (LF E)
 ·have hl:(KW c.V 1).length=c.ex.length:=by rw[QkK];unfold srX;rw[Lh];exact Lh ..
  have E:i<c.ex.length:=Nat.lt_of_lt_of_eq hi hl;have e:(KW c.V 1)[i]'hi=prB (c.ex[i]'E).ls:=by
   show(srX c.V)[i]'_=_;simp[srX,CL.V,XV.x]
  rw[e];exact QkH G H (LF E) (λl hl=>I.xl (c.ex[i]'E).x (LK (Lm E)) l hl)
 ·have hl:(KW c.V 2).length=c.cs.length:=by rw[QkJ];unfold srC;rw[Lh];exact Lh ..
  have E:i<c.cs.length:=Nat.lt_of_lt_of_eq hi hl;have e:(KW c.V 2)[i]'hi=prB (c.cs[i]'E).ts:=by
   show(srC c.V)[i]'_=_;simp[srC,CL.V,KV.k]
  rw[e];exact QkG G H (LF E) (λl hl=>I.kl (c.cs[i]'E).k (LK (Lm E)) l hl)
 omega
structure QqT (N:Nat)(w:OZ)(c:CL)(r:O0)(b1 b:Nat):Prop where
 r:r=.slice (some ⟨b,0,none⟩) 3 3
 n1:N<=b1
 n:N<=b
 B1:Q7 w.heap b1 44 c.cells
 B:Q7 w.heap b 241 ([0,1,2].flatMap (srV b1 c.V))
theorem zy {c:CL}(J:ZF L w.heap c):
  Q5 prog 113 [c.val] w λr w'=>O3 [] w w'/\∃b1 b,QqT w.heap.size w' c r b1 b:=by
 have h:=J.up (L':=[]) oe;have e0:(KW c.V 0).length=c.rq.length:=by rw[QkL];unfold srR;rw[Lh];exact Lh ..
 have e1:(KW c.V 1).length=c.ex.length:=by rw[QkK];unfold srX;rw[Lh];exact Lh ..
 have e2:(KW c.V 2).length=c.cs.length:=by rw[QkJ];unfold srC;rw[Lh];exact Lh ..
 refine Zs func113 ntmps113 results113 ?_;refine Qe<|Qa<|QS (us:=c.cells) U λb1 V G O E=>Qc ?_;have H:=h.I G;refine Qe<|Qs U E U U<|QL H.rq.arr U<|x (ZC (l:=[]) (l':=[_]))<|x (Qz ⟨U,U,U,Z⟩)<|x (K4 U) <|
  Y2 E rfl U<|QL H.ex.arr U<|x (ZC (l:=[]) (l':=[_]))<|x (Qz ⟨U,U,U,Z⟩)<|Q0 U<|x (Qq E U U) <|
  QL H.cs.arr U<|x (ZC (l:=[]) (l':=[_]))<|x (Qz ⟨U,U,U,Z⟩) <|
  Qa<|QB (us:=[[oF oG 1,oF oG c.rq.length,.func (.func 165) #[] #[.pointer (some ⟨b1,0,none⟩)]],[oF oG 2,oF oG c.ex.length,.func (.func 167) #[] #[.pointer (some ⟨b1,0,none⟩)]],[oF oG 3,oF oG c.cs.length,.func (.func 168) #[] #[.pointer (some ⟨b1,0,none⟩)]]]) U U og oe ⟨rfl,rfl,rfl,rfl,rfl,rfl,Z⟩ λS Y I ha T =>
  Qc ?_
 have hb:=G.size;refine Ql ⟨[_],La,G.D I,b1,S,U,O,oa,E.I I,?_⟩;have e:[0,1,2].flatMap (srV b1 c.V)=[oF oG 1,oF oG c.rq.length,.func (.func 165) #[] #[.pointer (some ⟨b1,0,none⟩)],oF oG 2,oF oG c.ex.length,.func (.func 167) #[] #[.pointer (some ⟨b1,0,none⟩)],oF oG 3,oF oG c.cs.length,.func (.func 168) #[] #[.pointer (some ⟨b1,0,none⟩)]]:=by
  simp only[Om,List.flatMap_nil,srV,e0,e1,e2];rfl
 rw[e];exact T
structure MV where
 kd:Int
 ix:Int
 v:O0
 co:LI
def MV.m (q:MV):UU:=⟨q.kd,q.ix,q.co⟩
abbrev Yh (q:MV):LV:=[oF oG q.kd,oF oG q.ix,q.v]
theorem Qdg (q:MV):(Yh q).length=3:=rfl
abbrev mvP (q:MV):O0×Nat×Nat×LV:=(q.v,q.co.length,1,q.co.map (.int .i64))
abbrev MvN (base:Nat)(w:OZ)(v:O0)(l:List MV):Prop:=Yu Yh 3 173 mvP base w v l
theorem Qlg {q:MV}(h:q.v.oneCell'=true):∀u∈Yh q,u.oneCell'=true:=by
 intro u E;simp only[Yh,oK,oJ,or_false]at E;rcases E with rfl|rfl|rfl
 ·rfl
 ·rfl
 exact h
theorem Uv (k:Int):∀(l:LN) (i:Nat),(VE k i l).length=l.length
 | [],_=>rfl
 | _::l,i=>by rw[VE,LQ,Uv k l,LQ]
theorem ju (k:Int):∀(l:LN) (i j:Nat) (h:j<l.length),(VE k i l).take (j+1)=(VE k i l).take j++[⟨k,((i+j:Nat):Int),setK (l[j]'h) 8⟩]
 | [],_,j,h=>OU h (Nf _)
 | b::l,i,0,h=>by rw[VE];rfl
 | b::l,i,j+1,h=>by
  rw[VE,ME,ME,ju k l (i+1) j (oz h),Mj];have e:((i+1+j:Nat):Int)=((i+(j+1):Nat):Int):=oa
  rw[e];rfl
abbrev mdG (c:ZG)(m:Nat):List UU:=VE ((m:Int)+1) 0 (KW c m)
def mdP (c:ZG):Nat->List UU
 | 0=>[]
 | m+1=>mdP c m++mdG c m
theorem QbQ (c:ZG):mdP c 3=O7 c:=by
 simp only[mdP,O7,Oj,o0];rfl
theorem Qay {c:ZG}(h:yS c):∀m,m<=3->(mdP c m).length<=32*m
 | 0,_=>Ln _
 | m+1,E=>by
  have G:=Qay h m oa;have H:=Qac h (show m<3 by omega);rw[mdP,Lj,Uv];omega
theorem yx {c:CL}(T:ZF L w.heap c):
  Q5 prog 62 [c.val] w λr w'=>O3 [] w w'/\∃v l,r=.tuple #[v,oF oG (Zm c.V)]/\MvN w.heap.size w' v l/\(Zm c.V≠0->v=nS/\l=[])/\(Zm c.V=0->l.map MV.m=O7 c.V):=by
 have h:=T.up (L':=[]) oe;refine Zk (Zm c.V) λE hE=>?_;rw[hE];refine Zs func62 ntmps62 results62 ?_;refine Qe<|Qa<|QS (us:=c.cells) U λb1 w1 h7 gh h8=>x Qk<|Qc<|Qd<|Qe<|Q2 h8 U U<|Qa<|xf<|(Y7 (h.I h7)).mono ?_;rintro rc wc ⟨hB,hC⟩;rw[hE]at hB;subst hB;have hJ:=h8.I hC;have ho:=h7.D hC;refine Qc<|Qm<|ZA U U<|xe<|QZ rfl (λI=>?_) (λI=>?_)
 ·refine Qm<|x Qk<|Qc ?_;exact Ql ⟨[nS,oF oG E],oA,ho,nS,[],U,Yu.nil,λ_=>⟨U,U⟩,λT=>OU T I⟩
 have hp:E=0:=Lo.1 I;have hh:yS c.V:=(Z5 (hE.D hp)).sr;refine Qh<|Qe<|Qc<|Qd<|Qe<|Q2 hJ U U<|Qa<|xf<|(zy (h.I ho)).mono ?_;rintro r2 J ⟨hK,c1,bs,hS⟩;have hM:=hS.r;subst hM;have hr:=ho.D hK;have hA:∀{w':OZ},O3 [] J w'->Zv [] w'.heap (.slice (some ⟨bs,0,none⟩) 3 3) [0,1,2].length 3 ([0,1,2].flatMap (srV c1 c.V)):=λhs =>
  (hS.B.I hs).arr oe (n:=3) (cap:=3) (sz:=3) ol oa (Lx _)
 refine QL (hA (O3.Z _ _)) U<|Qb<|xe<|Qg<|QC (α:=Nat×O0×List MV) [(5,5),(7,8),(17,39)] (λz=>[(5,z.2.1),(17,oF oG z.1)]) (λz w'=>z.1<=3/\O3 [] J w'/\MvN J.heap.size w' z.2.1 z.2.2/\z.2.2.map MV.m=mdP c.V z.1) (λz=>3 - z.1) ol (0,nS,[]) oA
  ⟨Ln _,O3.Z _ _,Yu.nil,U⟩ ?_
 rintro⟨m,v,l⟩ g w3 ⟨hm,hj,V,Y⟩;simp only[]at hm V Y;have gi:=Qay hh m hm;have gj:l.length=(mdP c.V m).length:=by rw[<-Y,Lh]
 refine Qe<|QX U U<|xe<|Qd<|QG U (λht=>?_) (λht=>?_)
 ·refine Qx ?_;have hN:m=3:=by have hu:¬(m:Int)<(3:Nat):=ht;omega
  rw[hN,QbQ]at Y;refine Qm<|x Qk<|Qc ?_;have hO:=hr.size;exact Ql ⟨[v,oF oG 0],oA,hr.D hj,v,l,by rw[hp];rfl,⟨Zy V.own hO,λq hq L hL=>V.each q hq L (λb G=>(hL b G).imp (λh=>oa) id)⟩,λT=>OU hp T,λ_=>Y⟩
 have O:m<3:=by have hu:(m:Int)<(3:Nat):=ht;omega
 have gk:=Qac hh O;refine Qh ?_;have gl:=hj.size;have hge:=Qi V.own;have hP:([0,1,2]:LN)[m]'O=m:=by rcases m with _|_|_|m <;> first|rfl|omega
 refine Qd<|Qg<|Qe<|O6 (g:=srV c1 c.V) (i:=m) (Qab c1 c.V) (hA hj) U U O λgm I=>?_;rw[hP]at I;refine x (Qv I U U)<|Qa<|Qo (us:=[oF oG 0,oF oG 0,.nilFunc]) U λb7 w4 hQ hR ha=>Qa<|Qj (us:=srV c1 c.V m) ha U U U U oB λw5 hT ha =>
  xe ?_
 have hv:O3 [] w3 w5:=hQ.O hT hR;have gn:=hv.size;refine Qe<|Qs U ha U U<|Qb<|xe<|Qg<|QC (α:=Nat×O0×List MV) [(5,5),(8,8),(23,38)] (λz=>[(5,z.2.1),(23,oF oG z.1)]) (λz w'=>z.1<=(KW c.V m).length/\O3 (ob v) w5 w'/\MvN J.heap.size w' z.2.1 z.2.2/\z.2.2.map MV.m=mdP c.V m++(mdG c.V m).take z.1/\∀b∈ob z.2.1,b∈ob v\/w5.heap.size<=b) (λz=>(KW c.V m).length - z.1) ol (0,v,l) oA
  ⟨Ln _,O3.Z _ _,V.I hv,by simp only[List.take_zero,List.append_nil];exact Y,λb G=>.inl G⟩ ?_
 rintro⟨i,vi,li⟩ g H ⟨hi,hk,he,hf,hl⟩;simp only[]at hi he hf hl;have go:=hk.size;have hU:=Qi he.own;have hn:O3 [] J H:=(hj.D hv).then hk (λb G=>.inr (hge b G).1);have hD:b7∉ob v:=λG=>ou (hge b7 G).2
 have hF:=ha.J hk hD;have h6:=h.I (hr.D hn);have hV:Q7 H.heap c1 44 c.cells:=hS.B1.I hn;have gp:li.length<=200:=by
  have e1:=OT oP hf;rw[Lh,Lj,Ly]at e1;have e2:(mdG c.V m).length=(KW c.V m).length:=Uv _ _ _;omega
 refine Qe<|QX U U<|xe<|Qd<|QG U (λhw=>?_) (λhw=>?_)
 ·refine Qx ?_;have hW:(KW c.V m).length<=i:=by have hu:¬(i:Int)<((KW c.V m).length:Int):=hw;omega
  rw[Ls (by rw[Uv];exact hW)]at hf;refine Qw<|QN U U<|Qb<|xe ?_;exact⟨(m+1,vi,li),oh,oA,O,hn,he,hf⟩
 have S:i<(KW c.V m).length:=by have hu:(i:Int)<((KW c.V m).length:Int):=hw;omega
 have hy:(mdG c.V m).take (i+1)=(mdG c.V m).take i++[⟨(m:Int)+1,((0+i:Nat):Int),setK ((KW c.V m)[i]'S) 8⟩]:=ju _ _ _ _ S;rw[LX]at hy;have hbl:=Qhs hh O _ (Lm S);refine Qh<|Qd<|Qg<|Qm<|Qc ?_;have hG:b7∉ob vi:=λG=>by
  rcases hl b7 G with h9|h9
  ·exact hD h9
  have:=ha.lt;omega
 have hz:O3 [] H { H with drawn:=H.drawn+1 }:=O3.C _ _
 have gq:({ H with drawn:=H.drawn+1 }:OZ).heap.size=H.heap.size:=rfl
 refine QR (O3 (ob vi) H) [oD 0,oD 1,oD 2,oD 3,oD 4,oD 5,oD 6,oE 7,oE 8,oD 9,oE 10,oE 11,oD 12] mixed ol od (O3.C _ _) ?_;refine p Qy<|p (QP U)<|pq (λ_ hc=>Qq (hF.J hc hG) U U)<|p Qy<|p (QP U) <|
  pq (λ_ hc=>Qq (hF.J hc hG) U U)<|p Qy<|pk<|xcG (first:=[]) (capt:=[.pointer (some ⟨c1,0,none⟩)]) (QmT m) U<|(Qhq (hV.I hz) (h6.I hz) hh O S).mono ?_
 rintro r8 w8 ⟨rfl,hX⟩;refine Zk ((KW c.V m)[i]'S) λbv hY=>?_;rw[hY]at hy hbl ⊢;have h1:=hz.D hX;refine⟨h1.any,?_⟩;refine pk<|xf<|(QeF bv hbl w8).mono ?_;rintro r9 w9 ⟨hZ,h2⟩;have h3:=h1.D hZ;have gr:=h1.size;refine⟨h3.any,?_⟩;refine p (λ_=>Qz ⟨U,U,xJ h2,Z⟩)<|pk<|QB (us:=[Yh ⟨(m:Int)+1,i,r9,setK bv 8⟩]) U U og oe ⟨rfl,rfl,Z⟩ λgs gt h4 gu ga=>⟨(h3.D h4).any,?_⟩;have hg:=h3.D h4;have gv:=hg.size;refine pk<|Za (news:=Yh ⟨(m:Int)+1,i,r9,setK bv 8⟩) (L:=[]) (Qp he.own hg) U U U (ga.at oe) (Qlg (q:=⟨(m:Int)+1,i,r9,setK bv 8⟩) (Qt h2)) oa oa λhH gb gc h5 hI=>⟨hg.any.Q h5,?_⟩;refine p ZH<|pe ?_;have gw:=Jw bv 8;have gg:MvN J.heap.size gb hH (li++[⟨(m:Int)+1,i,r9,setK bv 8⟩]):=Yu.app2 (N:=w8.heap.size) (he.I hg) (Qp h2 h4) (by show(setK bv 8).length<=_;omega) (ou hn.size) (λb G=>ou (hU b G)) gc h5 hI;refine Qw<|QN U U<|Qb<|xe<|⟨(i+1,hH,li++[⟨(m:Int)+1,i,r9,setK bv 8⟩]),oh,oA,S,(hk.D hg).then h5 hl,gg,?_,λb G=>?_⟩
 ·simp only[];rw[hy,Lp,hf,LB];rfl
 rcases hI b G with h9|h9
 ·exact hl b h9
 exact .inr oa
theorem Qlz {v:O0}{es:LN}[Fu prog g fn]{cap:LV}{q:Nat->Bool}(h:Zv L w.heap v es.length 3 (es.flatMap (srV b1 c)))
  (hk:∀(m:Nat) (G:OZ),O3 [] w G->Q5 prog g ([.agg (srV b1 c m).toArray]++cap) G λr w'=>r=.bool (q m)/\O3 [] G w'):
  Q5 prog 169 [v,.func (.func g) #[] cap.toArray] w λr w'=>O3 [] w w'/\∃i:Int,r=oF oG i/\((i=-1/\∀m∈es,q m=false)\/∃k:Nat,∃m,es[k]?=some m/\i=(k:Int)/\q m=true):=by
 have hf:=h.le;refine Zs func169 ntmps169 results169 ?_;refine Qe<|Qc<|Qd<|Qm<|QL h U<|Qb<|xe<|Qg<|QC (α:=Nat) [(4,5),(8,18)] (λz=>[(8,oF oG z)]) (λz w'=>z<=es.length/\O3 [] w w'/\∀m∈es.take z,q m=false) (λz=>es.length - z) ol 0 La ⟨Ln _,O3.Z _ _,λm O=>by simp at O⟩ ?_;rintro k g' G ⟨hg,H,S⟩;refine Qe<|QX U U<|xe<|Qd<|QG U (λT=>?_) (λT=>?_)
 ·refine Qx ?_;have he:es.length<=k:=by have I:¬(k:Int)<(es.length:Int):=T;omega
  rw[Ls he]at S;refine Qe<|Qc ?_;exact Ql ⟨[oF oG (-1)],La,H,-1,U,.inl ⟨U,S⟩⟩
 have E:k<es.length:=by have I:(k:Int)<(es.length:Int):=T;omega
 have V:es.take (k+1)=es.take k++[es[k]'E]:=Ll E;have Y:es[k]?=some (es[k]'E):=LF E;refine Qh<|Qd<|Qg<|Qm<|Qc<|Qm<|Qb<|Qb<|O6 (g:=srV b1 c) (i:=k) (Qab b1 c) (h.I H) U U E λhh ha=>?_;refine Zk (es[k]'E) λm O=>?_;rw[O]at ha V Y;refine x (Qv ha U U)<|Qa<|xc (first:=[]) (capt:=cap) U<|(hk m G H).mono ?_;rintro r2 w2 ⟨rfl,hb⟩;refine xe<|QW rfl (λI=>?_) (λI=>?_)
 ·refine Qm<|Qc ?_;exact Ql ⟨[oF oG k],La,H.D hb,k,U,.inr ⟨k,m,Y,U,I⟩⟩
 refine Qh<|Qw<|QN U U<|Qb<|xe<|⟨k+1,oa,La,E,H.D hb,λm' hc=>?_⟩;rw[V]at hc;rcases Lc.1 hc with J|J
 ·exact S m' J
 simp only[oI]at J;subst J;exact I
theorem Qmk {m:Nat}{q:MV}(H:Q7 w.heap E 173 (Yh q)):
  Q5 prog 170 [.agg (srV b1 c m).toArray,.pointer (some ⟨E,0,none⟩)] w λr w'=>r=.bool (decide ((m:Int)+1=q.kd))/\O3 [] w w':=by
 refine Zs func170 ntmps170 results170 ?_;refine Qe<|Qa<|QS (us:=srV b1 c m) U λb2 J G O I=>Qc<|Qe<|Qs U I U U<|Qs U (H.I G) U U<|x (Q9 U U)<|Qc ?_;exact Ql ⟨[_],La,U,G⟩
theorem Qf6 {c:CL}{q:MV}(h0:ZF L w.heap c)(hF:QQ L w.heap q.v q.co):
  Q5 prog 115 [c.val,.agg #[oF oG q.kd,oF oG q.ix,q.v]] w λr w'=>r=oF oG (mdE c.V q.m)/\O3 [] w w':=by
 have h:=h0.up (L':=[]) oe;have hm:=hF.up (L':=[]) oe;have G:mdE c.V q.m=if Zm c.V≠0 then Zm c.V else if q.kd<1\/3<q.kd then 11 else if q.ix<0\/((srK c.V q.kd).length:Int)<=q.ix then 10 else if q.co=setK ((srK c.V q.kd).getD q.ix.toNat 0) 8 then 0 else 13:=rfl
 refine Zk (mdE c.V q.m) λE hE=>?_;rw[hE]at G ⊢;refine Zs func115 ntmps115 results115 ?_;refine Qe<|Qa<|QS (us:=c.cells) U λb2 w1 hG gg hw=>Qa<|QS (us:=Yh q) U λb3 w2 hf gh hH=>Qc ?_;have hy:=hG.D hf;refine Qd<|Qe<|Q2 (hw.I hf) U U<|Qa<|xf<|(Y7 (h.I hy)).mono ?_;rintro r3 w3 ⟨rfl,hg⟩;refine Qc ?_;have hh:=hy.D hg;have hI:=(hw.I hf).I hg;have hJ:=hH.I hg;refine Qm<|ZA U U<|xe<|QZ rfl (λV=>?_) (λV=>?_)
 ·rw[OS V]at G;subst G;refine Qm<|Qc ?_;exact Ql ⟨[_],La,U,hh⟩
 rw[OR V]at G;have hj:yS c.V:=(Z5 (Lo.1 V)).sr;refine Qh<|Qe<|Q2 hI U U<|Qa<|xf<|(zy (h.I hh)).mono ?_;rintro r4 w4 ⟨h1,c1,bs,hS⟩;have hK:=hS.r;subst hK;refine Qc ?_;have hL:=hh.D h1;have h2:=hJ.I h1;have hA:Zv [] w4.heap (.slice (some ⟨bs,0,none⟩) 3 3) [0,1,2].length 3 ([0,1,2].flatMap (srV c1 c.V)):=hS.B.arr oe (n:=3) (cap:=3) (sz:=3) ol oa (Lx _);refine Qm<|x (ZC (l:=[]) (l':=[_]))<|Qa<|xf<|(Qlz (q:=λm=>decide ((m:Int)+1=q.kd)) (cap:=[.pointer (some ⟨b3,0,none⟩)]) hA (λm Y I=>Qmk (h2.I I))).mono ?_;rintro r5 Y ⟨I,i,rfl,hi⟩;refine Qc ?_;have h3:=hL.D I;have hl:=h2.I I;have h4:=hA.I I;have hM:Q7 Y.heap c1 44 c.cells:=hS.B1.I I;refine Qd<|Qg<|Qm<|QX U U<|Qc<|QZ U (λhn=>?_) (λhn=>?_)
 ·have ho:q.kd<1\/3<q.kd:=by
   rcases hi with⟨_,hi⟩|⟨k,m,_,hi,_⟩
   ·have e0:=OY (hi 0 oe);have e1:=OY (hi 1 oe);have e2:=OY (hi 2 oe);omega
   have gi:i<0:=hn;omega
  rw[OS ho]at G;subst G;refine Qe<|Qc ?_;exact Ql ⟨[_],La,U,h3⟩
 obtain⟨m,J,hN,ho⟩:∃m:Nat,m<3/\i=(m:Int)/\q.kd=(m:Int)+1:=by
  rcases hi with⟨hi,_⟩|⟨k,m,hk,hi,hq⟩
  ·exact OU (by rw[hi];decide:i<0) hn
  have gj:=OW hq;obtain⟨hO,hk⟩:=L7.1 hk;have hP:k<3:=hO;have gk:m=k:=by rcases k with _|_|_|k <;> first|exact hk.symm|omega
  exact⟨k,hP,hi,oa⟩
 subst hN;rw[OR oa,show srK c.V q.kd=KW c.V m by rw[ho]]at G;have gl:=Qac hj J;have h5:([0,1,2]:LN)[m]'J=m:=by rcases m with _|_|_|m <;> first|rfl|omega
 refine Q3 (α:=Bool) [(21,34)] (λz=>[(21,.bool z)]) (λz w'=>O3 [] Y w'/\z=decide (q.ix<0\/((KW c.V m).length:Int)<=q.ix)) ol ?_ ?_
 ·refine QR (O3 [] Y) [oD 0,oD 1,oD 2,oD 3,oD 4,oD 5,oD 6,oD 7,oD 8,oD 9,oD 10,oD 11,oD 12,oD 13] mixed ol od (O3.C _ _) ?_;refine p (QP U)<|pq (λ_ H=>Qq (hl.I H) U U)<|pb (λ_=>YJ U U) (λhp=>?_) (λhp=>?_)
  ·refine p Qy<|ps<|ps<|ps<|ps<|ps<|ps<|ps<|ps<|p (YS U)<|p ZH<|pe ?_;have ht:q.ix<0:=hp;exact⟨true,La,O3.C _ _,by rw[OV (.inl ht)]⟩
  refine p Qy<|p (QP U)<|pq (λ_ H=>Qq (hl.I H) U U)<|p Qy<|p Qy <|
   Go.Lg.pig (g:=srV c1 c.V) (i:=m) U (Qab c1 c.V) h4 U U J λgm h6=>?_
  rw[h5]at h6;refine p (λ_=>Zg U)<|pq (λ_ H=>QD ((h6.fld 1 (oF oG (KW c.V m).length) U).st H) U)<|p (λ_=>Yl U U) <|
   p (YS rfl)<|p ZH<|pe ?_
  have ht:¬q.ix<0:=hp;refine⟨decide (((KW c.V m).length:Int)<=q.ix),La,O3.C _ _,?_⟩;rw[decide_eq_decide];exact⟨.inr,λh=>h.resolve_left ht⟩
 rintro z g S ⟨ha,hz⟩;have hb:=h3.D ha;refine QW rfl (λhu=>?_) (λhu=>?_)
 ·rw[OS (OW (hz.symm.D hu))]at G;subst G;refine Qe<|Qc ?_;exact Ql ⟨[_],La,U,hb⟩
 have hQ:=OY (hz.symm.D hu);rw[OR hQ]at G;have hR:q.ix=(q.ix.toNat:Int):=oa
 have O:q.ix.toNat<(KW c.V m).length:=oa
 have hT:(KW c.V m).getD q.ix.toNat 0=(KW c.V m)[q.ix.toNat]'O:=by simp[oQ,O]
 have hbl:=Qhs hj J _ (Lm O);rw[hT]at G;have h7:=hl.I ha;have hU:=h4.I ha;have h8:O3 [] S { S with drawn:=S.drawn+1 }:=O3.C _ _
 have hV:∀{w':OZ},O3 [] S w'->Q5 prog (gK m) [oF oG q.ix,.pointer (some ⟨c1,0,none⟩)] w' λr hW=>r=.int .u16 ((KW c.V m)[q.ix.toNat]'O:Nat)/\O3 [] w' hW:=by
  intro w' hs;have:=Qhq ((hM.I ha).I hs) ((h.I hb).I hs) hj J O;rw[<-hR]at this;exact this
 refine Qd<|QR (O3 [] S) [oD 0,oD 1,oD 2,oD 3,oD 4,oD 5,oD 6,oD 7,oD 8,oE 9,oE 10,oE 11,oD 12,oD 13] mixed ol od (O3.C _ _) ?_;refine p (QP U)<|pq (λ_ H=>Qq (h7.I H) U U)<|p Qy<|p Qy<|Go.Lg.pig (g:=srV c1 c.V) (i:=m) U (Qab c1 c.V) hU U U J λgn h9=>?_;rw[h5]at h9;refine p (λ_=>Zg U)<|pq (λ_ H=>QD ((h9.fld 2 (.func (.func (gK m)) #[] #[.pointer (some ⟨c1,0,none⟩)]) U).st H) U)<|p (QP U)<|pq (λ_ H=>Qq (h7.I H) U U) <|
  pk<|xcG (first:=[]) (capt:=[.pointer (some ⟨c1,0,none⟩)]) (QmT m) U<|(hV h8).mono ?_
 rintro r7 w7 ⟨rfl,hX⟩;refine Zk ((KW c.V m)[q.ix.toNat]'O) λbv hY=>?_;rw[hY]at G hbl ⊢;have hB:=h8.D hX;refine⟨hB,?_⟩;refine pk<|xf<|(QeF bv hbl w7).mono ?_;rintro r8 w8 ⟨hZ,ga⟩;have he:=hB.D hZ;refine⟨he,?_⟩;have go:=Jw bv 8;refine pk<|xf<|(Jt (hm.I (hb.D he)) (Qu.ints (L:=[]) ga oa oe)).mono ?_;rintro r9 w9 ⟨rfl,hC⟩;refine⟨he.D hC,?_⟩;refine p (λ_=>Zz U)<|p ZH<|pe ?_;have hD:=(hb.D he).D hC;refine QW rfl (λhv=>?_) (λhv=>?_)
 ·have gb:¬q.co=setK bv 8:=by
   intro e;have T:(!decide (q.co=setK bv 8))=true:=hv;rw[OV e]at T;cases T
  rw[OR gb]at G;subst G;refine Qe<|Qc ?_;exact Ql ⟨[_],La,U,hD⟩
 have gc:q.co=setK bv 8:=by
  refine Decidable.byContradiction λe=>?_;have T:(!decide (q.co=setK bv 8))=false:=hv;rw[OX e]at T;cases T
 rw[OS gc]at G;subst G;refine Qh<|Qe<|Qc ?_;exact Ql ⟨[_],La,U,hD⟩
section
variable {pS:String}
abbrev i2 (p:Int×Int):LV:=[oF oG p.1,oF oG p.2]
abbrev i5 (a:ByteArray)(b c e:Bool)(i:Int):LV:=[.string a,.bool b,.bool c,.bool e,oF oG i]
end
end Go.Lg
namespace Go.Proofs
open Go.Proofs.Tryz
open Go.Shelf
def Tryz.sortEd_ren:Go.Shelf.Ren:=⟨λ|6=>139|15=>104|14=>210|28=>157|29=>158|20=>249|21=>250|22=>251|23=>252|24=>253|25=>254|26=>255|27=>256|46=>296|47=>218|48=>219|49=>297|50=>298|57=>317|n=>n,λ|22=>59|24=>213|25=>280|3=>3|39=>226|0=>0|53=>298|55=>300|4=>4|46=>291|45=>290|50=>235|5=>5|9=>9|66=>367|70=>371|76=>405|77=>357|n=>n,λ|n=>n⟩
theorem Tryz.sortEd:Go.Proofs.SlLaysF0.n6 prog Tryz.sortEd_ren:={
 mixed:=od
 f6:=⟨Tryz.f139.name,og,func139.D (OT some od)⟩
 f14:=⟨Tryz.f210.name,og,func210.D (OT some od)⟩
 f15:=func104.D (OT some od)
 f20:=⟨Tryz.f249.name,og,func249.D (OT some od)⟩
 f21:=⟨Tryz.f250.name,og,func250.D (OT some od)⟩
 f22:=⟨Tryz.f251.name,og,func251.D (OT some od)⟩
 f23:=⟨Tryz.f252.name,og,func252.D (OT some od)⟩
 f24:=⟨Tryz.f253.name,og,func253.D (OT some od)⟩
 f25:=⟨Tryz.f254.name,og,func254.D (OT some od)⟩
 f26:=⟨Tryz.f255.name,og,func255.D (OT some od)⟩
 f27:=⟨Tryz.f256.name,og,func256.D (OT some od)⟩
 f28:=func157.D (OT some od)
 f29:=func158.D (OT some od)
 f46:=⟨Tryz.f296.name,og,func296.D (OT some od)⟩
 f47:=func218.D (OT some od)
 f48:=func219.D (OT some od)
 f49:=⟨Tryz.f297.name,og,func297.D (OT some od)⟩
 f50:=⟨Tryz.f298.name,og,func298.D (OT some od)⟩
 f57:=⟨Tryz.f317.name,og,func317.D (OT some od)⟩
 t0:=underlying0
 a0:=Tryz.isAgg0
 z0:=Tryz.sizeOf0
 v0:=Tryz.zeroValue0
 t3:=underlying3
 a3:=Tryz.isAgg3
 z3:=Tryz.sizeOf3
 v3:=Tryz.zeroValue3
 t4:=underlying4
 a4:=Tryz.isAgg4
 z4:=Tryz.sizeOf4
 v4:=Tryz.zeroValue4
 t5:=underlying5
 a5:=Tryz.isAgg5
 z5:=Tryz.sizeOf5
 v5:=Tryz.zeroValue5
 t9:=underlying9
 a9:=Tryz.isAgg9
 z9:=Tryz.sizeOf9
 v9:=Tryz.zeroValue9
 t22:=underlying59
 a22:=Tryz.isAgg59
 z22:=Tryz.sizeOf59
 v22:=Tryz.zeroValue59
 t25:=underlying280
 a25:=Tryz.isAgg280
 z25:=Tryz.sizeOf280
 v25:=Tryz.zeroValue280
 t39:=underlying226
 a39:=Tryz.isAgg226
 z39:=Tryz.sizeOf226
 v39:=Tryz.zeroValue226
 t45:=underlying290
 a45:=Tryz.isAgg290
 z45:=Tryz.sizeOf290
 v45:=Tryz.zeroValue290
 t46:=underlying291
 a46:=Tryz.isAgg291
 z46:=Tryz.sizeOf291
 v46:=Tryz.zeroValue291
 t50:=underlying235
 a50:=Tryz.isAgg235
 z50:=Tryz.sizeOf235
 v50:=Tryz.zeroValue235
 t53:=underlying298
 a53:=Tryz.isAgg298
 z53:=Tryz.sizeOf298
 v53:=Tryz.zeroValue298
 t55:=underlying300
 a55:=Tryz.isAgg300
 z55:=Tryz.sizeOf300
 v55:=Tryz.zeroValue300
 t66:=underlying367
 a66:=Tryz.isAgg367
 z66:=Tryz.sizeOf367
 v66:=Tryz.zeroValue367
 t70:=underlying371
 a70:=Tryz.isAgg371
 z70:=Tryz.sizeOf371
 v70:=Tryz.zeroValue371
 t76:=underlying405
 a76:=Tryz.isAgg405
 z76:=Tryz.sizeOf405
 v76:=Tryz.zeroValue405
 t77:=underlying357
 a77:=Tryz.isAgg357
 z77:=Tryz.sizeOf357
 v77:=Tryz.zeroValue357 }
end Go.Proofs
namespace Go.Lg
open Go.Lg Go.Sort
abbrev Ez:={ x:Ed // (0<=x.1/\x.1<1099511627776)/\0<=x.2.1/\x.2.1<1099511627776 }
instance:Inhabited Ez:=⟨⟨(0,0,0),og⟩⟩
abbrev qP (x:Ez):LV:=[oF oG x.1.1,oF oG x.1.2.1,oF oG x.1.2.2]
abbrev EzO (base:Nat)(w:OZ)(v:O0)(l:List Ez):Prop:=w.ownsRow base 213 3 v l.length (l.flatMap qP)
def ecf (x y:Ez):Int:=if x.1.1=y.1.1 then x.1.2.1 - y.1.2.1 else x.1.1 - y.1.1
theorem QpR (x y:Ez)(W:OZ):Calls prog 260 #[.agg (qP x).toArray,.agg (qP y).toArray] W λe w'=>e=.returned (oF oG (ecf x y))/\∃q os',w'=grow (W.drewN q) os':=by
 have E:IntKind.i64.wrap (x.1.1 - y.1.1)=x.1.1 - y.1.1:=YD ⟨ov x.2 y.2,ov x.2 y.2⟩;have G:IntKind.i64.wrap (x.1.2.1 - y.1.2.1)=x.1.2.1 - y.1.2.1:=YD ⟨ov x.2 y.2,ov x.2 y.2⟩
 go_enter func260,ntmps260
 go_wp2
 ·go_ret;rename_i h;exact⟨by rw[ecf,OR (oz h)];rfl,0,_,by rw[alloc_eq_grow,alloc_eq_grow,grow_grow];rfl⟩
 go_ret;rename_i h;exact⟨by rw[ecf,OS (oz h)];rfl,0,_,by rw[alloc_eq_grow,alloc_eq_grow,grow_grow];rfl⟩
theorem QpS (x y:Ez)(W:OZ):Calls prog 140 #[.agg (qP x).toArray,.agg (qP y).toArray] W λe w'=>e=.returned (oF oG (ecf x y))/\∃q os',w'=grow (W.drewN q) os':=by
 have E:IntKind.i64.wrap (x.1.1 - y.1.1)=x.1.1 - y.1.1:=YD ⟨ov x.2 y.2,ov x.2 y.2⟩;have G:IntKind.i64.wrap (x.1.2.1 - y.1.2.1)=x.1.2.1 - y.1.2.1:=YD ⟨ov x.2 y.2,ov x.2 y.2⟩
 go_enter func140,ntmps140
 go_wp2
 ·go_ret;rename_i h;exact⟨by rw[ecf,OR (oz h)];rfl,0,_,by rw[alloc_eq_grow,alloc_eq_grow,grow_grow];rfl⟩
 go_ret;rename_i h;exact⟨by rw[ecf,OS (oz h)];rfl,0,_,by rw[alloc_eq_grow,alloc_eq_grow,grow_grow];rfl⟩
theorem QaN (x:Ez):(qP x).length=3:=rfl
theorem Qdx:∀l:List Ez,(l.flatMap qP).length=l.length*3
 | []=>rfl
 | x::l=>by rw[LM,Lj,Qdx l,QaN,LQ];omega
theorem QeV {l:List Ez}(I:j<l.length*3):(l.flatMap qP)[j]?=some ((flatK qP 3 l.toArray)[j]!):=by
 have E:j / 3<l.length:=Nat.div_lt_of_lt_mul oa;have G:j % 3<3:=OO _ og;rw[get_flatK _ _ _ _ (oz I)];have J:=Xx qP 3 QaN l (j / 3) E;have O:(l.flatMap qP)[j]?=(qP (l[j / 3]'E))[j % 3]?:=by
  rw[<-J,LT,OS G,MA];congr 1;omega
 rw[O];have S:(l.toArray)[j / 3]! = l[j / 3]'E:=by simp[E]
 rw[S];have H:j % 3<(qP (l[j / 3]'E)).length:=G;exact(LF H).D (OT some (getElem!_pos (qP (l[j / 3]'E)) (j % 3) H).symm)
theorem Qjg (x y:Ez):ltOf ecf x y=true↔x.1.1<y.1.1\/x.1.1=y.1.1/\x.1.2.1<y.1.2.1:=by
 unfold ltOf ecf;rw[decide_eq_true_iff];split <;> omega
theorem QaP (x y:Ez):ltOf ecf x y=false↔y.1.1<x.1.1\/y.1.1=x.1.1/\y.1.2.1<=x.1.2.1:=by
 rw[<-Bool.not_eq_true,Qjg];omega
theorem Qof:SWO (ltOf ecf) where
 irrefl x:=by rw[QaP];omega
 trans x y z h1 h2:=by rw[Qjg]at *;omega
 ntrans x y z h1 h2:=by rw[QaP]at *;omega
theorem Qel [Inhabited α]{lt:α->α->Bool}{d E:Array α}(H:PermIn 0 d.size d E)(I:SortedIn lt 0 d.size E):E.toList.Perm d.toList/\E.toList.Pairwise (λx y=>lt y x=false):=by
 obtain⟨J,_,G⟩:=H;have e1:E.extract 0 d.size=E:=by rw[<-J];exact Array.extract_size
 rw[e1,Array.extract_size]at G;refine⟨G,?_⟩;rw[MK];intro i j hi O S;have T:i<E.size:=by simpa using hi
 have V:j<E.size:=by simpa using O
 have:=I i j (Ln _) S oa;rw[getElem!_pos E j V,getElem!_pos E i T]at this;simpa using this
theorem Qc5 (eg:∀args w,(callFunc g args).run prog w=.ok (.enter g args) w)(hb:∀(x y:Ez) (W:OZ),Calls prog g #[.agg (qP x).toArray,.agg (qP y).toArray] W λe w'=>e=.returned (oF oG (ecf x y))/\∃q os',w'=grow (W.drewN q) os')
   {base:Nat} {v:O0} {l:List Ez} (h:EzO base w v l) (hl:l.length<=1099511627776):
  Q5 prog 139 [v,.func (.func g) #[] #[]] w λ_ w'=>O3 (ob v) w w'/\∃l':List Ez,l'.Perm l/\l'.Pairwise (λx y=>ltOf ecf y x=false)/\EzO base w' v l':=by
 unfold Q5;rcases h.2 with⟨rfl,h0⟩|⟨gb,cap,cur,rfl,hf,I,hh,hm,ho,hq⟩
 ·have hr:l=[]:=Lq h0;subst hr;have H:=AnyF.slices_SortFunc_none Tryz.sortEd none 0 (.func (.func g) #[] #[]) w;change Calls prog 139 _ _ _ at H;refine Calls.mono H λe w' J=>?_;obtain⟨rfl,rfl⟩:=J;exact⟨O3.Z _ _,[],List.Perm.refl _,List.Pairwise.nil,h⟩
 have T:gb<w.heap.size:=(LH.1 I).1;have hH:HoldsK qP 3 w gb 0 l.toArray:=by
  intro j E;rw[size_flatK,LP]at E;have V:=QeV E;rw[<-hq,LT,OS E]at V;constructor
  ·show(match w.heap[gb]? with|some (.cells c _ _)=>if(none:Option _).isSome then none else c[0+j]?|_=>none)=_
   rw[I];simp only[oY,OB,OC,if_false];rw[<-Mn,V];rfl
  show(match w.heap[gb]? with|some (.cells _ _ (lo,hi))=>decide (lo<=0+j) && decide (0+j<hi)|_=>false)=false
  rw[I];simp
 have H:=AnyQ.slices_SortFunc Tryz.sortEd 3 Tryz.isAgg213 Tryz.sizeOf213 qP QaN (λx v Y=>by simp at Y;rcases Y with rfl|rfl|rfl <;> rfl) ecf Qof g #[] gb 0 cap l.toArray w eg (λm os dk _ x y=>hb x y _) hH T (by simp;omega)
 change Calls prog 139 _ _ _ at H;rw[LP]at H;refine Calls.mono H λe w' J=>?_;obtain⟨rfl,G,n,os,hp,hs,rfl⟩:=J;have O:G.size=l.length:=by have:=hp.1;simpa using this
 have ha:=Qel (d:=l.toArray) (by rw[LP];exact hp) (by rw[LP];exact hs);have S:(sortWorldK qP 3 w gb 0 n G os).heap=w.heap.modify gb (onCells (putCells id 0 (flatK qP 3 G)))++os:=rfl;refine⟨⟨rfl,U,U,?_,λk hk hn=>?_⟩,G.toList,ha.1,ha.2,?_⟩
 ·rw[S,MM,Mb];omega
 ·rw[S,Me,Mb,OS hk,Mv,OR (λe=>hn (by simp[ob,e]))]
 refine⟨Qdx _,.inr ⟨gb,cap,putCells id 0 (flatK qP 3 G) cur,by simp[O],hf,?_,by simp[O];exact hh,hm,by simp[putCells,ho],?_⟩⟩
 ·rw[S,Me,Mb,OS T,Mv,OS rfl,I];rfl
 apply M0;intro j;rw[LT];by_cases E:j<G.toList.length*3
 ·rw[OS E,QeV E,Mn];have ht:j<cur.size:=by simp[O]at E;omega
  have hu:j<(flatK qP 3 G).size:=by simpa using E
  simp only[putCells,Ow,Oh ht,Ox,OP,oY,true_and,OS hu,OG,id]
 rw[OR E,ML];rw[Qdx];omega
theorem QiZ:∀l:List Ez,(l.map (·.1)).flatMap QF=l.flatMap qP
 | []=>rfl
 | x::l=>by rw[LG,LM,LM,QiZ l];rfl
theorem QeU:∀l:List Ed,(∀e∈l,(0<=e.1/\e.1<1099511627776)/\0<=e.2.1/\e.2.1<1099511627776)->∃zs:List Ez,zs.map (·.1)=l
 | [],_=>⟨[],U⟩
 | e::l,h=>by
  obtain⟨zs,E⟩:=QeU l (λd hd=>h d (Lk _ hd));exact⟨⟨e,h e Lt⟩::zs,by rw[LG,E]⟩
abbrev Qca (x y:Ed):Prop:=x.1<y.1\/x.1=y.1/\x.2.1<=y.2.1
theorem jd (eg:∀args w,(callFunc g args).run prog w=.ok (.enter g args) w)(E:∀(x y:Ez) (W:OZ),Calls prog g #[.agg (qP x).toArray,.agg (qP y).toArray] W λe w'=>e=.returned (oF oG (ecf x y))/\∃q os',w'=grow (W.drewN q) os')
   {base:Nat} {v:O0} {l:List Ed} (h:w.ownsRow base 213 3 v l.length (l.flatMap QF)) (hl:l.length<=1099511627776) (G:∀e∈l,(0<=e.1/\e.1<1099511627776)/\0<=e.2.1/\e.2.1<1099511627776):
  Q5 prog 139 [v,.func (.func g) #[] #[]] w λ_ w'=>O3 (ob v) w w'/\∃l':List Ed,l'.Perm l/\l'.Pairwise Qca/\w'.ownsRow base 213 3 v l'.length (l'.flatMap QF):=by
 obtain⟨zs,rfl⟩:=QeU l G;rw[Lh]at hl;rw[Lh,QiZ]at h;refine(Qc5 eg E h hl).mono λ_ _ ⟨H,l',I,J,O⟩=>⟨H,l'.map (·.1),I.map _,?_,by rw[Lh,QiZ];exact O⟩;rw[MW];refine J.imp λ{x y} S=>?_;have:=(QaP y x).1 S;exact this
theorem Qad {base:Nat}{v:O0}{l:List Ed}(h:w.ownsRow base 213 3 v l.length (l.flatMap QF))(hl:l.length<=1099511627776)(E:∀e∈l,(0<=e.1/\e.1<1099511627776)/\0<=e.2.1/\e.2.1<1099511627776):
  Q5 prog 216 [v] w λ_ w'=>O3 (ob v) w w'/\∃l':List Ed,l'.Perm l/\l'.Pairwise Qca/\w'.ownsRow base 213 3 v l'.length (l'.flatMap QF):=by
 refine Zs func216 ntmps216 results216 ?_;refine Qw<|Qb<|Qa<|xf<|(jd (enters_of func260 od U) QpR h hl E).mono ?_;rintro H I G;refine xe ?_;exact⟨[],Z,G⟩
theorem QfI {base:Nat}{v:O0}{l:List Ed}(h:w.ownsRow base 213 3 v l.length (l.flatMap QF))(hl:l.length<=1099511627776)(E:∀e∈l,(0<=e.1/\e.1<1099511627776)/\0<=e.2.1/\e.2.1<1099511627776):
  Q5 prog 139 [v,.func (.func 140) #[] #[]] w λ_ w'=>O3 (ob v) w w'/\∃l':List Ed,l'.Perm l/\l'.Pairwise Qca/\w'.ownsRow base 213 3 v l'.length (l'.flatMap QF):=
 jd (enters_of func140 od U) QpS h hl E
def cmF (c:ZG)(l:List (LI)):LI:=l.zipIdx.filterMap λp=>if(Uh c.ex c.cs p.1).2.2=true then some (p.2:Int)else none
theorem Qjt {l:List (LI)}{k:Nat}(h:k<l.length):cmF c (l.take (k+1))=cmF c (l.take k)++(if(Uh c.ex c.cs (l[k]'h)).2.2=true then[(k:Int)]else[]):=by
 unfold cmF;rw[Ll h,List.zipIdx_append,List.filterMap_append];have e:0+(l.take k).length=k:=by rw[Ly];omega
 rw[e];simp only[List.zipIdx_cons,List.zipIdx_nil,List.filterMap_cons,List.filterMap_nil];by_cases E:(Uh c.ex c.cs (l[k]'h)).2.2=true
 ·rw[OS E,OS E]
 rw[OR E,OR E]
theorem Qmi (c:ZG)(l:List (LI)):(cmF c l).length<=l.length:=by
 unfold cmF;refine LJ (List.length_filterMap_le _ _) ?_;rw[List.length_zipIdx];exact Lx _
def Qfc (c:ZG):Bool:=match xh (O5 c.co),xh (O5 c.co++O5 c.rq)with
 | some (pa,ps),some (_,ts)=>ts.all λt=>decide ((wrf c.rq (t.drop c.co.length) (enb pa (plx ps (t.take c.co.length)))).length<=1)
 | _,_=>false
def cmB (c:ZG):LI:=match xh (O5 c.co++O5 c.rq)with
 | some (sa,ts)=>cmF c (ts.map (·.take c.co.length))++[sa.st]
 | none=>[]
structure CmI (b2 base:Nat)(W:OZ)(xa:O0)(st:Int)(xm vb ve:O0)(bad:LI)(es:List Ed):Prop where
 B:Q7 W.heap b2 61 [xa,oF oG st,xm,ve]
 b:Qu 3 base W vb bad
 e:W.ownsRow base 213 3 ve es.length (es.flatMap QF)
 dj:Dj vb ve
 bd:∀e∈es,(0<=e.1/\e.1<1099511627776)/\0<=e.2.1/\e.2.1<1099511627776
theorem CmI.I {b2 base:Nat}{W W':OZ}{xa:O0}{st:Int}{xm vb ve:O0}{bad:LI}{es:List Ed}(h:CmI b2 base W xa st xm vb ve bad es)(E:O3 [] W W'):CmI b2 base W' xa st xm vb ve bad es :=
 ⟨h.B.I E,Qp h.b E,Qp h.e E,h.dj,h.bd⟩
theorem CmI.addB {base:Nat}{W:OZ}{xa:O0}{st:Int}{xm E:O0}{bad bad':LI}(h:CmI b2 base W xa st xm vb ve bad es)(G:b2<base)(H:O3 (ob vb) W W')(O:Qu 3 base W' E bad')(S:∀b∈ob E,b∈ob vb\/W.heap.size<=b):CmI b2 base W' xa st xm E ve bad' es :=
 ⟨h.B.J H (QT h.b G),O,Qf h.e H (λb G T=>h.dj b T G),λb V I=>(S b V).elim (λJ=>h.dj b J I) (λJ=>ou (Zb h.e b I)),h.bd⟩
theorem CmI.addE {base:Nat}{W W1:OZ}{xa:O0}{st:Int}{xm G:O0}{bad:LI}{e:Ed}(h:CmI b2 base W xa st xm vb ve bad es)(I:b2<base)(V:O3 (ob ve) W W1)(J:W1.ownsRow base 213 3 G (es.length+1) (es.flatMap QF++QF e))(Y:∀b∈ob G,b∈ob ve\/W.heap.size<=b)
  (O:O3 [b2] W1 W') (hB:Q7 W'.heap b2 61 [xa,oF oG st,xm,G]) (he:(0<=e.1/\e.1<1099511627776)/\0<=e.2.1/\e.2.1<1099511627776):CmI b2 base W' xa st xm vb G bad (es++[e]):=by
 have hge:=Qi J;refine⟨hB,Qf (Qf h.b V (λb I E=>h.dj b I E)) O (λb H E=>by have:=(Qi h.b b H).1;rw[Lb.1 E]at this;omega),?_,λb S ha=>(Y b ha).elim (λT=>h.dj b S T) (λT=>ou (Zb h.b b S)),λd hd=>?_⟩
 ·have h9:=Qf J O (λb H E=>by have:=(hge b H).1;rw[Lb.1 E]at this;omega);rw[Lj,LA];simpa using h9
 rcases Lc.1 hd with hd|hd
 ·exact h.bd d hd
 rw[Lb.1 hd];exact he
theorem CmI.stb {base:Nat}{xa:O0}{st:Int}{xm:O0}{bad:LI}:Yt B (λW=>CmI b2 base W xa st xm vb ve bad es):=
 λW W' X h E G=>⟨Yt.blk W W' X h.B E G,Yt.row W W' X h.b E G,Yt.row W W' X h.e E G,h.dj,h.bd⟩
theorem QcL {c:CL}(h0:ZF [] w.heap c)(kk:Kb w 4096)(kn:YN c.V=0)(Y:(spc c.V).a.st<4096)(h1:Qfc c.V=true):
  Q5 prog 99 [c.val] w λr w'=>O3 [] w w'/\∃xa xm xe vb,r=.tuple #[.agg #[xa,oF oG ((spc c.V).a.st+1),xm,xe],vb,oF oG 0]/\Zj [xa,xm,xe]/\Qu 3 w.heap.size w' vb (cmB c.V):=by
 refine Q5.of_G 20 func99 U ntmps99 results99 oe ?_;refine Zi<|QM ol ol ?_;refine Qa<|QS (us:=c.cells) U λb1 w1 pc hb1 ko=>Qa<|Qo (us:=qa) U λb2 w2 kq hb2 kr=>x Qk<|Qc ?_;have hM:=pc.D kq;have hl1:=ko.lt;have pd:=kr.lt;have pf:=ko.I kq;have kt:ZF [b2] w2.heap c:=(h0.up (L':=[b2]) (λb G=>.inr (by rw[Lb.1 G];omega))).I hM;refine Zi<|QM ol ol ?_;refine Q2 pf U U<|Qa<|xf<|(Qcx (h0.I hM) (kk.I hM)).mono ?_;rintro r3 w3 ⟨gn,vp,rfl,_,pg⟩;obtain⟨b,q,rfl,rfl,J,_,ph⟩:=pg kn;rw[kn];have hw:=hM.D gn;have ku:JM [b2] b w3.heap q:=(ph [b2] (λx hx=>by rw[Lb.1 hx];exact pd)).2 kt;have hsp:=Qc3 J.p J.s;have hst':q.s.a.st<4096:=by rw[hsp]at Y;exact Y
 have pj:cmB q.c.V=cmF q.c.V ((q.ts.map (·.2)).map (·.take q.c.V.co.length))++[q.s.a.st]:=by unfold cmB;rw[J.s]
 have pm:∀t∈q.ts.map (·.2),(wrf q.c.V.rq (t.drop q.c.V.co.length) (enb q.p.a (plx (q.qs.map (·.2)) (t.take q.c.V.co.length)))).length<=1:=λt ht=>by
  unfold Qfc at h1;rw[J.p,J.s]at h1;exact OW (Md.1 h1 t ht)
 have pn:(spc q.c.V).a.st=q.s.a.st:=by rw[hsp]
 rw[pn,pj];refine Qb<|Q8 U U<|Q8 U U<|x Qk<|Qc<|Zi<|Zi<|QM ol ol ?_;refine Qb<|ZA U U<|xe<|VD rfl<|YH ?_;refine Zi<|QM ol ol ?_;refine Qb<|Yb U<|Q0 U<|Qs U ku.B U U<|Qa<|Qo (us:=[oF oG 0]) U λb6 w4 po pp pu=>Qa<|QA (j:=0) (u:=oF oG q.s.a.st) pu U U oe rfl λE pw kv=>xe ?_;have hO:O3 [] w3 E:=po.O pw pp;have hn:=ku.I hO;have hz3:=gn.size;have kw:=kv.lt;have pz:Q7 E.heap b2 61 qa:=(kr.I gn).I hO;have hP:Q7 E.heap b6 3 [oF oG q.s.a.st]:=kv;have hst0:0<=q.s.a.st:=by
  have:=(Jp (λa T=>by
   rcases Lc.1 T with T|T
   ·exact YR (Z5 J.ok).co a T
   exact YR (Z5 J.ok).rq a T) J.s).1.st
  omega
 refine Zi<|Zi<|QM ol ol ?_;refine Y2 hP U U<|x (Yl U U)<|xe<|QmA U (λkx=>OU (show q.s.a.st≥4096 from kx) oa) (λkx=>?_);refine YH ?_;have go:O3 [] E { E with drawn:=E.drawn+1 }:=O3.C _ _
 refine Zi<|yB (O3 [] E) [oD 0,oD 1,oD 2,oD 3,oD 4,oD 6,oD 7,oD 8,oD 9,oD 10,oD 11,oD 12,oD 14,oD 15,oD 16,oD 17,oD 18,oE 5,oE 13,oE 19,oD 20,oE 21] mixed ol ol od go ?_;refine p Qy<|p (YO U)<|p (QP U)<|p (QP U)<|pq (λ_ S=>Qq (hn.B.I S) U U)<|pq (λ_ S=>Qq (hP.I S) U U)<|p (λ_=>XI U U ⟨oa,oa⟩)<|p Qy<|p (YO U)<|p (QP U)<|p (QP U) <|
  pq (λ_ S=>Qq (hn.B.I S) U U)<|p Qy<|p (YO U)<|p (QP U)<|p (QP U)<|pq (λ_ S=>Qq (hn.B.I S) U U)<|pk<|xf<|(ZU (hn.s.al.I go)).mono ?_
 rintro xa w6 ⟨p0,gp⟩;have gq:=go.D p0;refine⟨gq,?_⟩;refine pk<|xf<|(ZU (hn.s.mr.I gq)).mono ?_;rintro xm w7 ⟨p1,gr⟩;have hR:=gq.D p1;refine⟨hR,?_⟩;refine pk<|xf<|(KC (hn.s.ed.I hR)).mono ?_;rintro hS w8 ⟨p2,hT⟩;have gs:=hR.D p2;refine⟨gs,?_⟩;refine p (λ_=>Qz ⟨xJ gp,U,xJ gr,xJ hT,Z⟩)<|pkl (hl:=by kernel_rfl)<|Qj (us:=[xa,oF oG (q.s.a.st+1),xm,hS]) (pz.I gs) U U U U ⟨Qt gp,U,Qt gr,Qt hT,Z⟩ λw9 kz p3=>pe ?_;have k0:O3 [b2] E w9:=gs.any.Q kz;have hz7:=hR.size;have h8:b2<E.heap.size:=oa
 have k4:=hn.st k0;have hU:Zj [xa,xm]:=⟨Qt gp,Qt gr,Z⟩;have p4:w9.ownsRow E.heap.size 213 3 hS q.s.a.ed.length (q.s.a.ed.flatMap QF):=Qf (Zy hT oa) kz (λb G H=>by have:=(Qi hT b G).1;rw[Lb.1 H]at this;omega);have hy:=Z5 J.ok;have hA:∀a∈O5 q.c.V.co++O5 q.c.V.rq,ZJ a:=λa T=>by
  rcases Lc.1 T with T|T
  ·exact YR hy.co a T
  exact YR hy.rq a T
 have gt:=(Jp hA J.s).1.okay hA;have p5:∀e∈q.s.a.ed,(0<=e.1/\e.1<1099511627776)/\0<=e.2.1/\e.2.1<1099511627776:=λe he=>by
  have h1:=gt.ed e he;have h2:=gt.al _ h1.2.2.1;omega
 have p6:CmI b2 E.heap.size w9 xa (q.s.a.st+1) xm ZD hS [] q.s.a.ed:=⟨p3,QJ _ _ _ _,p4,λb G=>(by cases G),p5⟩;have p7:=gt.ed_le;have k5:=qZ hA J.s;have k6:=k5.1;have p8:=k5.2;simp only[]at k6 p8;have hckc:=hy.c8;have hX:q.c.V.co.length=q.c.co.length:=Lh ..;have p9:q.c.V.rq.length=q.c.rq.length:=Lh ..;have hcr:=hy.cr;have qc:(O5 q.c.V.co++O5 q.c.V.rq).length=q.c.co.length+q.c.rq.length:=by rw[Lj];unfold O5;rw[Lh,Lh,hX,p9]
 refine Zi<|Zi<|QM ol ol ?_;refine Qb<|Yb U<|Qs U k4.B U U<|QL k4.ts.arr U<|Qb<|xe<|Zk ((q.ts.map (·.2)).map (·.take q.c.V.co.length)) λtcs gu=>?_;rw[gu];have htcl:tcs.length=q.ts.length:=by rw[<-gu,Lh,Lh]
 have hTn:q.ts.length<=4096:=by have h2:=(Jp hA J.s).1.st;have h3:(q.ts.map (·.2)).length=q.ts.length:=Lh ..;omega
 refine Z1<|qy (α:=Nat×O0×O0×List Ed) [(3,3),(7,16),(60,109)] (λz=>[(3,z.2.1),(60,oF oG z.1)])
  (λz ds W'=>z.1<=q.ts.length/\O3 [b2] E W'/\UV E.heap.size W'.heap.size ds W'/\CmI b2 E.heap.size W' xa (q.s.a.st+1) xm z.2.1 z.2.2.1 (cmF q.c.V (tcs.take z.1)) z.2.2.2/\z.2.2.2.length<=131072+z.1)
  (λz=>q.ts.length - z.1) ol (0,ZD,hS,q.s.a.ed) oA ⟨Ln _,k0,⟨MH,λD hD=>by cases hD⟩,p6,p7⟩ ?_
 rintro⟨k,vb,ve,es⟩ g ds hz ⟨hk,hB,k7,I,qf⟩;simp only[]at hk I qf;have hz10:=hB.size;have hY:=Qmi q.c.V (tcs.take k);rw[Ly]at hY;refine Zi<|QM ol ol ?_;refine QX rfl U<|xe<|Zi<|j5 U (λk8=>?_) (λk8=>?_)
 ·refine Vm ?_;rw[Ls oa]at I hY;refine Zk (cmF q.c.V tcs) λbad hZ=>?_;rw[hZ]at I hY;have gv:b2∉ob ve:=QT I.e h8;have ql:b2∉ob vb:=QT I.b h8;have ga:b6∉[b2]:=om
  have qo:b6∉ob ve:=QT I.e kw;have qr:b6∉ob vb:=QT I.b kw;refine Zi<|QM ol ol ?_;refine Qs U I.B U U<|Qa<|xf<|(QfI I.e oa I.bd).mono ?_;rintro r11 h4 ⟨ho,hh,hp,_,ho11⟩;refine xe ?_;have gb:=I.B.J ho gv;have gw:=(hP.J hB ga).J ho qo;have gx:=Qf I.b ho (λb G H=>I.dj b G H);have hz11:=ho.size;have hs:=Qi I.e;have hC:=Qi gx;have q0:UV E.heap.size hz.heap.size ds h4:=k7.J ho (Go.Lg.QU I.e);refine Zi<|yB (λw'=>O3 (b2::ob vb) h4 w'/\Q7 w'.heap b2 61 [xa,oF oG (q.s.a.st+1),xm,ve]/\Q7 w'.heap b6 3 [oF oG q.s.a.st]) [oD 0,oD 1,oD 2,oE 3,oE 4,oE 5,oD 6,oD 7] mixed ol ol od ⟨O3.C _ _,gb.I (O3.C _ _),gw.I (O3.C _ _)⟩ ?_;refine pq (λ_ S=>Zx S.2.1 U U)<|p Qy<|pq (λ_ S=>Qq S.2.2 U U)<|pk<|QB (us:=[[oF oG q.s.a.st]]) U U og oe ⟨rfl,rfl,Z⟩ λb116 gy gz hb116 q1=>?_;have h5:=(O3.C [] h4).D gz;have hz12:=h5.size;refine⟨⟨h5.any,gb.I h5,gw.I h5⟩,?_⟩;refine pk<|Za (m:=1) (news:=[oF oG q.s.a.st]) (L:=[]) (Qp gx h5) U U U (q1.at oe) (by simp[Value.oneCell']) oa oa λk9 hE ma gc hn13=>?_;have gg:O3 (ob vb) h4 hE:=h5.any.Q gc;have mf:=gb.J gg ql;have mg:=gw.J gg qr;refine⟨⟨gg.mono (λb G=>Lk _ G),mf,mg⟩,?_⟩;refine pk<|Qj (us:=[xa,oF oG (q.s.a.st+1),xm,ve]) mf U U U U ⟨hU.1,U,hU.2.1,Qt I.e,Z⟩ λhf O mh=>?_;have g0:O3 (b2::ob vb) h4 hf:=(gg.mono (λb G=>Lk _ G)).Q (O.mono oe);refine⟨⟨g0,mh,mg.J O ga⟩,?_⟩;refine p ZH<|p ZH<|pe ?_;have q2:=Qf ma O (λb G H=>by have:=(Qi ma b G).1;rw[Lb.1 H]at this;omega);have hu:UV E.heap.size hz.heap.size ds hf:=q0.J g0 (λb G=>by
   rcases Li.1 G with rfl|G
   ·exact gb.cells
   exact Go.Lg.QU gx b G)
  have q3:b2∉ds:=λH=>ou (hu.2 b2 H).1
  have hG:O3 [] w hf:=(((hw.D hO).O hB oa).then ho (λb G=>.inr (ov (hs b G).1 hw.size))).then g0 (λb G=>.inr (by
   rcases Li.1 G with rfl|G
   ·omega
   have:=(hC b G).1;have:=hw.size;omega))
  refine Vl ⟨λD hD=>(hu.2 D hD).2.2,hu.1,[.agg #[xa,oF oG (q.s.a.st+1),xm,ve],k9,oF oG 0],λW' g4=>?_⟩;refine⟨⟨⟨_,U,Qn U ((mh.J g4 q3).at (L:=[]) oe).cells⟩,rfl,rfl,Z⟩,hG.then g4 (λD hD=>.inr (ov (hu.2 D hD).1 hw.size)),xa,xm,ve,k9,U,⟨hU.1,hU.2.1,Qt I.e,Z⟩,?_⟩;have h9:=Qu.snoc q2;have mj:=Qf h9 g4 (λb G H=>by
   obtain⟨o,g1,g2⟩:=Go.Lg.QU h9 b G;rw[(hu.2 b H).2.2]at g1;cases g1
   cases g2)
  rw[<-hZ]at mj;exact Zy mj (ou hw.size)
 have hH:k<q.ts.length:=by have h62:(k:Int)<(q.ts.length:Int):=k8;omega
 have mo:k<tcs.length:=oa
 have hg:=Qjt (c:=q.c.V) mo;have q4:tcs[k]'mo=(q.ts[k]'hH).2.take q.c.V.co.length:=by subst gu;simp
 have gh:=Lm hH;have hI:=k6 _ (LK (f:=(·.2)) gh);have hv:=pm _ (LK (f:=(·.2)) gh);rw[q4]at hg;refine Zk (cmF q.c.V (tcs.take k)) λbad hZ=>?_;rw[hZ]at I hY hg;refine Zk (ob vb++ob ve) λav g5=>?_;have hC:=Qi I.b;have hs:=Qi I.e;have q5:∀x∈av,E.heap.size<=x/\x<hz.heap.size:=λx hx=>by
  rw[<-g5]at hx;exact(Lc.1 hx).elim (hC x) (hs x)
 have j1:JM (b2::av) b E.heap q:=hn.up (λx hx=>by
  rcases Li.1 hx with rfl|hx
  ·exact .inl Lt
  exact .inr (q5 x hx).1)
 have gi:JM (b2::av) b hz.heap q:=j1.st (hB.mono oe);refine Zk (cmF q.c.V (tcs.take (k+1))) λg6 mq=>?_;rw[mq]at hg;refine YH<|Qfy (α:=O0×O0×List Ed) [(3,3),(7,16),(61,109)] (λz=>[(3,z.1),(60,oF oG k)]) (λz h6 W'=>O3 [b2] E W'/\UV E.heap.size W'.heap.size h6 W'/\CmI b2 E.heap.size W' xa (q.s.a.st+1) xm z.1 z.2.1 g6 z.2.2/\z.2.2.length<=131072+(k+1)) ol ?_ ?_
 rotate_left
 ·rintro⟨gj,hq,hh⟩ g h6 W ⟨j2,j3,za,zb⟩;refine QM ol ol ?_;refine QN U U<|Qb<|xe ?_;exact⟨(k+1,gj,hq,hh),oh,oA,hH,j2,j3,by simp only[];rw[mq];exact za,zb⟩
 refine Z1<|Zi<|QM ol ol ?_;refine Qb<|O6 (g:=YE) VU gi.ts.arr U U hH λa63 ms=>?_;refine Zk (q.ts[k]'hH) λt ht=>?_;rw[ht]at ms gh hI hv hg;have zv:=gi.ts.each t gh;have htl:t.2.length=q.c.co.length+q.c.rq.length:=by rw[hI.1,qc]
 refine x (QD ms U)<|Qa<|Qo (us:=[oF oG 0]) U λb7 h4 ho z0 z1=>Qa<|QA (j:=0) (u:=oF oG k) z1 U U oe rfl λgy gz z2=>Qc ?_;have g7:O3 [] hz gy:=ho.O gz z0;have z3:Q7 gy.heap b7 3 [oF oG k]:=z2;refine Zi<|QM ol ol ?_;refine Qb<|Qb<|Qa<|xf<|(Qbk (gi.I g7) (zv.I g7) oa).mono ?_;rintro r13 hE ⟨gc,v9,mt,rfl,g8,mu⟩;refine Qb<|Q8 U U<|Q8 U U<|x Qk<|Qc ?_;have hJ:=g7.D gc;have mv:=gi.I hJ;rw[hX]at hv hg;refine Zk (t.2.take q.c.co.length) λtc gk=>?_;refine Zk (t.2.drop q.c.co.length) λtr mw=>?_;rw[gk]at g8 hv hg;rw[mw]at mu hv;have z4:tc.length=q.c.co.length:=by rw[<-gk,Ly];omega
 have z5:=hI.bd (m:=4096) (λa T=>(hA a T).st1);have my:∀x∈tc,0<=x/\x<4096:=λx hx=>z5 x (LR (by rw[gk];exact hx));have hVc:Vt (O5 q.c.V.co) tc:=by
  have h1:=hI.take;rw[show(O5 q.c.V.co).length=q.c.co.length by unfold O5;rw[Lh];exact hX,gk]at h1;exact h1
 have hVr:Vt (O5 q.c.V.rq) tr:=by
  have h1:=hI.drop;rw[show(O5 q.c.V.co).length=q.c.co.length by unfold O5;rw[Lh];exact hX,mw]at h1;exact h1
 have gl:JM [] b hE.heap q:=mv.up oe;have hvo:=qI gl.k1 gl.k2 gl.k3 (g8.up (L':=[]) oe) (by rw[J.ex,J.cs];exact hy.cd) hVc.tpOk;rw[J.ex,J.cs]at hvo;refine Zk (Uh q.c.V.ex q.c.V.cs tc) λV hV=>?_;rw[hV]at hvo hg;have g9:=I.I hJ;have hz13:=hJ.size;have mz:=z3.I gc;refine Qfy (α:=O0) [(3,3),(11,14),(71,86)] (λz=>[(3,z)]) (λz h6 W=>h6=ds/\O3 (ob vb) hE W/\Qu 3 E.heap.size W z g6/\∀x∈ob z,x∈ob vb\/hE.heap.size<=x) ol ?_ ?_
 ·refine Zi<|QM ol ol ?_;refine Qb<|Yb U<|Q0 U<|x (Zl (us:=[q.vs,q.vx,q.vk]) gl.B U U U)<|Qb<|Qa<|xf<|hvo.mono ?_;rintro r14 hf ⟨O,rfl⟩;refine Qb<|Q8 U U<|Q8 U U<|Q8 U U<|Q8 U U<|x Qk<|x Qk<|x Qk<|Qc<|Zi<|QM ol ol ?_;refine Qb<|xe ?_;have m2:=Qp g9.b O;refine Uc U (λka=>?_) (λka=>?_)
  ·rw[OS ka]at hg;refine QM ol ol ?_;refine Qb<|Y2 (mz.I O) U U<|Qa<|QB (us:=[[oF oG k]]) U U og oe ⟨rfl,rfl,Z⟩ λb85 y1 hi hb85 hB85=>?_;have zy1:=hi.size;have hz14:=O.size;refine Qa<|Za (m:=1) (news:=[oF oG k]) (L:=[]) (Qp m2 hi) U U U (hB85.at oe) (by simp[Value.oneCell']) oa oa λz y2 gm hK kb=>Qc ?_;exact⟨z,La,U,(O.D hi).any.Q hK,by rw[hg];exact Qu.snoc gm,λx hx=>(kb x hx).imp id (λh=>oa)⟩
  rw[OR (by rw[ka];decide),LS]at hg;refine YH ?_;exact⟨vb,La,U,O.any,by rw[hg];exact m2,λx hx=>.inl hx⟩
 rintro gj g h6 hf ⟨rfl,O,hbO,hbn⟩;have hI14:=g9.addB h8 O hbO hbn;have hz14:=O.size;have kc:∀x∈ob vb,x∈b2::av:=λx hx=>Lk _ (by rw[<-g5];exact Lc.2 (.inl hx));have m3:∀x∈b2::ob ve,x∈b2::av:=λx hx=>by
  rcases Li.1 hx with rfl|hx
  ·exact Lt
  exact Lk _ (by rw[<-g5];exact Lc.2 (.inr hx))
 have ke:=mv.st (O.mono kc);have hI9a:=g8.st (O.mono kc);have m4:=mu.st (O.mono kc);have hG:O3 [b2] E hf:=(hB.D hJ.any).then O (λx hx=>.inr (hC x hx).1);have hs014:O3 [] w hf:=(hw.D hO).O hG oa;have hn7b:b7∉ob vb:=λH=>ou (hC b7 H).2
 have ga:b6∉[b2]:=om
 have hB714:=mz.J O hn7b;have hB614:=hP.J hG ga;have hu:UV E.heap.size hz.heap.size h6 hf:=(k7.I hJ).J O (Go.Lg.QU g9.b);refine Zi<|yB (O3 [] hf) [oD 0,oD 1,oD 2,oD 3,oD 4,oE 5,oD 6,oD 7] mixed ol ol od (O3.C _ _) ?_;refine p Qy<|p (YO U)<|p (QP U)<|pq (λ_ S=>Qq (ke.B.I S) U U)<|p Qy<|pk<|xf<|(QaV (hI9a.I (O3.C _ _)) ((kk.I hs014).I (O3.C _ _)) my oa).mono ?_;rintro r15 w15 ⟨rfl,hs15⟩;have kf:=(O3.C [] hf).D hs15;refine⟨kf,?_⟩;have m5:(match O8 q.mm (KP tc)with|some u=>u|none=>oF oG 0)=oF oG (plx (q.qs.map (·.2)) tc):=by
  rw[J.m tc z4 (λx hx=>(my x hx).1)];unfold plx;by_cases H:tc∈q.qs.map (·.2)
  ·rw[OS H,OS H]
  rw[OR H,OR H]
 have hL:=QbE J.ok J.p;have m6:=QhU hL.2.2.1 tc;refine Zk (plx (q.qs.map (·.2)) tc) λpi hpi=>?_;rw[hpi]at m5 hv m6;rw[<-hL.2.1]at m6;have hckp:cks q.p.a pi=0:=by
  unfold cks;rw[OR (by rw[(Z6 q.p.a).2 hL.1];decide),OR oa]
 refine pq (λ_ S=>(Jr (k:=KP tc) (ke.m.I S) U U).D (OT (λv=>Result.ok (Next.value v) _) m5))<|p ZH<|pe ?_;refine Zi<|QM ol ol ?_;refine Qb<|Qb<|Qb<|Qa<|xf<|(qB (b:=b) (st:=pi) (vr:=mt) m4.cells).mono ?_;rintro r16 h7 ⟨hs16,c1,c2,c3,rfl,hc1,kt,hc3,hR1,hR2,hR3⟩;refine xe ?_;have hr:=kf.D hs16;have hz1415:=kf.size;have hz16:=hr.size;have kg:=hI14.I hr;have hD16:=hu.I hr;have hB716:=hB714.I hr;have hB616:=hB614.I hr;have hs516:O3 [b2] E h7:=hG.D hr.any;refine Zk (wrf q.c.V.rq tr (enb q.p.a pi)) λfl kh=>?_;rw[kh]at hv;have ki:∀x∈b2::ob ve,x<hf.heap.size:=λx hx=>by
  rcases Li.1 hx with rfl|hx
  ·omega
  have:=(hs x hx).2;omega
 have hSt16:JM (b2::ob ve) b h7.heap q:=(ke.I hr).up (λx hx=>.inl (m3 x hx));have hIr16:QQ (b2::ob ve) h7.heap mt tr:=(m4.I hr).up (λx hx=>.inl (m3 x hx));have hEv:∀p∈fl,0<=p.1/\p.1<32:=λp hp=>by
  rw[<-kh]at hp;have g1:=(qY.1 hp).1;unfold enb at g1;obtain⟨e,he,g2⟩:=LD.1 g1;have g3:=hL.1.al _ (hL.1.ed e (Yf he).1).2.2.1;rw[g2]at g3;exact g3
 have hn7L:b7∉b2::ob ve:=λH=>by
  rcases Li.1 H with g1|g1
  ·omega
  have:=(hs b7 g1).2;omega
 have hn6L:b6∉b2::ob ve:=λH=>by
  rcases Li.1 H with g1|g1
  ·omega
  have:=(hs b6 g1).1;omega
 have gv:b2∉ob ve:=QT I.e h8;have hb016:E.heap.size<=h7.heap.size:=oa
 have hel2:es.length+1<=1099511627776:=oa
 have hkb2:(0:Int)<=(k:Int)/\(k:Int)<1099511627776:=oa
 refine Z1<|QcI (α:={ x:Int×Int // x∈fl }) (b2::ob ve) oa (capt:=[.pointer (some ⟨c1,0,none⟩),.pointer (some ⟨c2,0,none⟩),.pointer (some ⟨c3,0,none⟩)]) U (encs:=λx=>[oF oG x.1.1,oF oG x.1.2]) og (λ_=>U)
  (Um hR1 hR2 hR3 (λH=>ou (ki _ H)) (λH=>ou (ki _ H)) (λx hx=>ou (ki _ hx)) hSt16 hIr16 (λx hx=>hy.rq x.it (LK hx)) hVr hckp U kh)
  (λpre W=>∃hq hh,O3 (b2::ob ve) h7 W/\CmI b2 E.heap.size W xa (q.s.a.st+1) xm gj hq g6 hh/\(pre=[]->hq=ve/\hh=es)/\hh.length<=es.length+pre.length)
  (λpre=>Yt.ex λhq=>Yt.ex λhh=>(Yt.J (Lx _)).and (CmI.stb.and ((Yt.pure _).and (Yt.pure _))))
  (λ_ _ _=>False) (λ_ _=>Yt.pure _)
  ⟨ve,es,O3.Z _ _,kg,λ_=>⟨U,U⟩,Lx _⟩
  (λf x f' W=>f'=upd (upd (upd f 98 (oF oG x.1.1)) 99 (oF oG x.1.2)) 16 (oF oG x.1.1)) (λx f'=>Yt.pure _) ?_ ?_ ?_ ?_
 ·rintro l pre ⟨⟨e,i⟩,he⟩ W hW;refine QM ol ol ?_;refine Qc ?_;exact⟨U,KJ.refl _ _ _,Lg.XH.refl _ _,hW,U⟩
 ·rintro l pre ⟨⟨e,i⟩,he⟩ f' W ⟨hq,hh,Y,hj,m7,hlen⟩ rfl hN;have m8:pre=[]:=Lq (Nat.lt_one_iff.1 (LU hN hv));have hv1:=(m7 m8).1;have hv2:=(m7 m8).2;rw[hv1,hv2]at hj;have m9:=Y.size;have hee:=hEv _ he;simp only[]at hee;refine Z1<|QM ol ol ?_;refine Qs U hj.B U U<|Y2 (hB716.J Y hn7L) U U<|Qb<|Y2 (hB616.J Y hn6L) U U<|x (Qz ⟨U,U,U,Z⟩)<|Qa<|QB (us:=[QF ((k:Int),e,q.s.a.st)]) U U og (by exact(by decide:1*3<=1000000)) oA λb106 y1 hi hb106 hB106=>?_;have zy1:=hi.size;refine Qa<|Za (m:=1) (news:=QF ((k:Int),e,q.s.a.st)) (L:=[]) (Qp hj.e hi) U U U (hB106.at oe) (by simp[QF,Value.oneCell']) hel2 oa λu y2 gm hK kb=>?_;refine Q0 U<|Qa<|QA (u:=u) ((hj.B.I hi).J hK gv) U U oe (Qt gm) λy3 pa hB3=>xe ?_;have kj:O3 (b2::ob ve) W y3:=(hi.any.Q (hK.mono λx hx=>Lk _ hx)).Q (pa.mono oe);have hnw:∀x∈ob u,x∈ob ve\/W.heap.size<=x:=λx hx=>(kb x hx).imp id (λh=>oa);refine⟨KJ.J kj m9 (λx hx=>⟨.inl hx,?_⟩),Lg.XH.J kj,u,es++[((k:Int),e,q.s.a.st)],Y.Q kj,hj.addE h8 (hi.any.Q hK) gm hnw pa hB3 ⟨hkb2,oh⟩,λh=>OU h oe,by simp only[oM,oO];omega⟩;rcases Li.1 hx with rfl|hx
  ·exact hj.B.cells
  exact Go.Lg.QU hj.e x hx
 ·rintro D xs W hD hxs ⟨hq,hh,Y,hj,_,hlen⟩ hdD;have hxl:xs.length=fl.length:=by have g1:=OT oP hxs;rw[Lh]at g1;exact g1
  have m9:=Y.size;refine⟨(gj,hq,hh),oA,hs516.then Y (λx hx=>?_),((hD16.J Y (λx hx=>?_)).up oa).cons oa (show h7.heap.size<=D from hD) hdD,hj,oh⟩
  ·rcases Li.1 hx with rfl|hx
   ·exact .inl Lt
   exact .inr (hs x hx).1
  rcases Li.1 hx with rfl|hx
  ·exact kg.B.cells
  exact Go.Lg.QU kg.e x hx
 rintro D e pre W hD hSp hF;exact hF.elim
theorem Uj (m:Nat)(S:m<256)(w:OZ):Q5 prog 14 [.int .u8 m] w λr w'=>O3 [] w w'/\Qu 3 w.heap.size w' r (setK m 5):=by
 refine Zs func14 ntmps14 results14 ?_;refine Qe<|Qc<|Qe<|Qc<|Qd<|Qe<|Qc<|Qg<|QC (α:=Nat×O0) [(3,17)] (λz=>[(3,z.2),(4,oF oG z.1)]) (λz w'=>z.1<=5/\O3 [] w w'/\Qu 3 w.heap.size w' z.2 (setK m z.1)) (λz=>5 - z.1) ol (0,nS) oA
  ⟨Ln _,O3.Z _ _,QJ _ _ _ _⟩ ?_
 rintro⟨k,v⟩ g w1 ⟨T,G,E⟩;simp only[]at T E;have hh:=Jw m k;have hi:=G.size;refine Qd<|Qm<|QX U U<|xe<|QG rfl (λV=>?_) (λV=>?_)
 ·refine Qx<|Qm<|Qc ?_;have Y:k=5:=oa
  rw[Y]at E;exact Ql ⟨[v],La,G,E⟩
 have J:k<5:=oa
 have ha:m / 2 ^ k<256:=Nat.lt_of_le_of_lt (Nat.div_le_self _ _) S;have H:=UY m k;refine Qh<|Qd<|Qg<|Qm<|Qb<|x (ji (n:=k) U U (by show k<=8;omega))<|x (zJ (a:=m / 2 ^ k) (b:=1) (OT (Value.int .u8) (Qae m k)) U ha og)<|x (Q9 U U)<|xe<|QG rfl (λO=>?_) (λO=>?_)
 ·rw[OR (λe=>O (by rw[e];rfl))]at H;refine Qh<|Qw<|Qb<|QN U U<|Qc ?_;exact⟨(k+1,v),oh,oA,J,G,by simp only[];rw[H];exact E⟩
 rw[OS oa]at H;refine Qw<|Qb<|Qb<|Qa<|QB (us:=[[oF oG k]]) U U og oe ⟨rfl,rfl,Z⟩ λhj w2 I hl hc=>?_;have he:=Qp E I;have hn:=I.size;refine Qa<|Za (news:=[oF oG k]) (L:=[]) he U U U (hc.at oe) (by simp[Value.oneCell']) oa oa λv3 w3 hf hg ho =>
  Qc ?_
 have hge:=Qi E;refine Qw<|Qb<|QN U U<|Qc<|⟨(k+1,v3),oh,oA,J,(G.D I).then hg (λb hb=>.inr (hge b hb).1),?_⟩;simp only[];rw[H];exact Qu.snoc hf
section
variable {pS:String}
theorem Qnp {e bys:Nat}[h:Sl P t e 1 bys z][he:Ik P e .u8][hd:St P E]{x:O1}(G:Q7 w.heap b T [.int .u8 (n:Int)])(S:n<256)(hx:ev f x=.slice (some ⟨b,0,none⟩) 1 cap):
  (execOp (ev f) ⟨d,.convert t E x,ty,pS,af,gd⟩).run P w=.ok (.value (.string ⟨#[UInt8.ofNat n]⟩)) w:=by
 refine q9 hx ?_;refine run_convert_bytes_back (P:=P) w t E e ⟨b,0,none⟩ cap [UInt8.ofNat n] h.u he.u hd.u (λj H=>?_);have I:j=0:=by simp at H;omega
 subst I;rw[Kh];have J:(⟨b,0,none⟩:Addr).add 0=⟨b,0,none⟩:=rfl;rw[J,G.cell];have O:(UInt8.ofNat n).toNat=n:=by simp[UInt8.toNat_ofNat'];omega
 simp[O]
end
theorem Qb4 (e:JY):∀u∈Zu e,u.oneCell'=true:=by
 intro y E;simp only[Zu,oK,oJ,or_false]at E;rcases E with rfl|rfl|rfl|rfl|rfl <;> rfl
theorem QaH {q:IV}(G:q.p.va.oneCell'=true)(H:q.p.vm.oneCell'=true)(I:q.p.ve.oneCell'=true):∀u∈QO q,u.oneCell'=true:=by
 intro y E;simp only[QO,oK,oJ,or_false]at E;rcases E with rfl|rfl|rfl|rfl|rfl
 ·rfl
 ·exact G
 ·rfl
 ·exact H
 exact I
theorem zY {base:Nat}{q:IV}(h:∀L:LN,(∀b∈L,b<N)->ZK L H q.p.va q.p.vm q.p.ve q.p.a)(G:base<=N)(I:∀b∈av,b<N):∀t∈Qf9 q,YA base av H t.1 t.2.1 t.2.2.1 t.2.2.2:=by
 intro t J;simp only[oK,oJ,or_false]at J;rcases J with rfl|rfl|rfl
 ·exact YA.of_lt (λL E=>(h L E).al) G I
 ·exact YA.of_lt (λL E=>(h L E).mr) G I
 exact YA.of_lt (λL E=>(h L E).ed) G I
structure qU (base:Nat)(w:OZ)(vc va:O0)(co:List IV)(al:LI):Prop where
 c:w.ownsRow base 64 5 vc co.length (co.flatMap QO)
 a:Qu 3 base w va al
 dj:Dj vc va
 each:∀q∈co,∀t∈Qf9 q,YA base (ob vc++ob va) w.heap t.1 t.2.1 t.2.2.1 t.2.2.2
section
variable {base:Nat}{vc vc' va':O0}{co:List IV}
theorem qU.nil:qU base w (nS) (nS) [] []:=⟨QJ _ _ _ _,QJ _ _ _ _,Dj.nil _,λq E=>by cases E⟩
theorem qU.I (h:qU base w vc va co al)(E:O3 [] w w'):qU base w' vc va co al:=⟨Qp h.c E,Qp h.a E,h.dj,λq G t H=>(h.each q G t H).I E⟩
theorem qU.low {X:LN}(h:qU base w vc va co al)(E:O3 X w w')(G:∀b∈X,b<base):qU base w' vc va co al :=
 ⟨Qf h.c E (λb H I=>ov (Qi h.c b H).1 (G b I)),Qf h.a E (λb H I=>ov (Qi h.a b H).1 (G b I)),h.dj,λq J t O=>(h.each q J t O).low E G⟩
theorem qU.avlt (h:qU base w vc va co al):∀b∈ob vc++ob va,b<w.heap.size:=λb E=>(Lc.1 E).elim (Zb h.c b) (Zb h.a b)
theorem qU.setC {q:IV}(h:qU base w vc va co al)(V:∀t∈Qf9 q,YA base (ob vc++ob va) w.heap t.1 t.2.1 t.2.2.1 t.2.2.2)(Y:w'.ownsRow base 64 5 vc' (co.length+1) (co.flatMap QO++QO q))
  (G:O3 (ob vc) w w') (H:∀b∈ob vc',b∈ob vc\/w.heap.size<=b):qU base w' vc' va (co++[q]) al:=by
 have I:O3 (ob vc++ob va) w w':=G.mono (λb E=>Lc.2 (.inl E));have J:∀b∈ob vc'++ob va,b∈ob vc++ob va\/w.heap.size<=b:=λb E=>by
  rcases Lc.1 E with E|E
  ·exact(H b E).imp (λh=>Lc.2 (.inl h)) id
  exact .inl (Lc.2 (.inr E))
 refine⟨?_,Qf h.a G (λb E ha=>h.dj b ha E),λb E O=>?_,λd hd t S=>?_⟩
 ·rw[Lj,LA];simpa using Y
 ·rcases H b E with T|T
  ·exact h.dj b T O
  have:=Zb h.a b O;omega
 rcases Lc.1 hd with hd|hd
 ·exact(h.each d hd t S).app I J
 simp only[oI]at hd;subst hd;exact(V t S).app I J
theorem qU.setA {H:LI}(h:qU base w vc va co al)(S:Qu 3 base w' va' H)(I:O3 (ob va) w w')(J:∀b∈ob va',b∈ob va\/w.heap.size<=b):qU base w' vc va' co H:=by
 have T:O3 (ob vc++ob va) w w':=I.mono (λb E=>Lc.2 (.inr E));have V:∀b∈ob vc++ob va',b∈ob vc++ob va\/w.heap.size<=b:=λb E=>by
  rcases Lc.1 E with E|E
  ·exact .inl (Lc.2 (.inl E))
  exact(J b E).imp (λh=>Lc.2 (.inr h)) id
 refine⟨Qf h.c I (λb E G=>h.dj b E G),S,λb E G=>?_,λd hd t Y=>(h.each d hd t Y).app T V⟩;rcases J b G with O|O
 ·exact h.dj b E O
 have:=Zb h.c b E;omega
theorem qU.itms (h:qU base w vc va co al)(I:co.length<=1099511627776)(J:∀q∈co,J6 q.nm)(G:∀b∈L,b<base):XD L w.heap vc co :=
 ⟨QH h.c I (λb E hbL=>ov (Qi h.c b E).1 (G b hbL)),λq H=>⟨h.each q H (q.p.va,q.p.a.al.length,1,q.p.a.al.map (.int .i64)) oe L (λb E=>.inl (G b E)),h.each q H (q.p.vm,q.p.a.mr.length,1,q.p.a.mr.map (.int .i64)) oe L (λb E=>.inl (G b E)),h.each q H (q.p.ve,q.p.a.ed.length,3,q.p.a.ed.flatMap QF) oe L (λb E=>.inl (G b E))⟩,J⟩
end
theorem XB (ns:LN):(bys ns).length=ns.length:=by rw[bys,Lh]
def grN (ns:LN)(o:Nat):LN:=(ns.drop o).take 27
theorem QiK (h:o+27<=ns.length):(grN ns o).length=27:=by unfold grN;simp;omega
theorem QmS (h:∀n∈ns,n<256):∀n∈grN ns o,n<256:=Qmm h o 27
theorem QjM (ns:LN)(n:Nat):(bys ns).set 0 (.int .u8 (n:Int))=bys (ns.set 0 n):=by
 unfold bys;rw[ON]
theorem QkP (h:∀m∈ns,m<256)(E:n<256):∀m∈ns.set 0 n,m<256:=λm G=>by
 rcases MS G with H|rfl
 ·exact h m H
 exact E
theorem Qhy (h:0<ns.length):(ns.set 0 n).getD 0 0=n:=by simp[oQ,h]
structure GdA (a:Zd):Prop where
 ok:ZJ a
 p:0<a.st
 s:a.st<=3
 c:∃a0:Zd,ZJ a0/\0<a0.st/\a=Xc a0
theorem Qcu (G:ZJ a)(h:0<a.st):0<(Xc a).st:=by
 show 0<((xj a).length:Int);have E:(0:Int)∈xj a:=by
  have key:∀(f i:Nat) (out:LI),(0:Int)∈out->(0:Int)∈jG a f i out:=by
   intro f;induction f with
   | zero=>intro i out h;exact h
   | succ f ih =>
    intro i out h;rw[jG];split
    ·exact ih _ _ (QaM _ _ _ h)
    exact h
  refine key _ _ _ ?_;unfold fd0;rw[OS h];simp
 have:=List.length_pos_of_mem E;omega
theorem GdA.of {E:Zd}(G:ZJ E)(H:0<E.st)(O:E.st<=((1+n % 5:Nat):Int))(J:a=Xc E)(S:n<3):GdA a:=by
 have I:=QaU G;subst J;exact⟨I.1,Qcu G H,ou I.2.2,E,G,H,U⟩
def nmI (c k:Nat):ByteArray:=⟨#[UInt8.ofNat c]⟩++⟨#[UInt8.ofNat (48+k)]⟩
theorem U9 (c k:Nat):J6 (nmI c k):=by
 show(ByteArray.mk _++ByteArray.mk _).size<=_;rw[ByteArray.size_append];show 1+1<=_;omega
open Go.RowKit
section
variable {all:xA}{C:xw}
end
section
variable {all:xA}{C J:xw}
end
end Go.Lg
namespace Go.Proofs
open Go.Proofs.Tryz
open Go.Shelf
def Tryz.sortRm_ren:Go.Shelf.Ren:=⟨λ|6=>184|15=>104|14=>226|28=>157|29=>158|20=>262|21=>263|22=>264|23=>265|24=>266|25=>267|26=>268|27=>269|46=>302|47=>218|48=>219|49=>303|50=>304|57=>318|n=>n,λ|22=>115|24=>253|25=>324|3=>3|39=>226|0=>0|53=>298|55=>300|4=>4|46=>291|45=>290|50=>235|5=>5|9=>9|66=>367|70=>371|76=>405|77=>357|n=>n,λ|n=>n⟩
theorem Tryz.sortRm:Go.Proofs.SlLaysF0.n6 prog Tryz.sortRm_ren:={
 mixed:=od
 f6:=⟨Tryz.f184.name,og,func184.D (OT some od)⟩
 f14:=⟨Tryz.f226.name,og,func226.D (OT some od)⟩
 f15:=func104.D (OT some od)
 f20:=⟨Tryz.f262.name,og,func262.D (OT some od)⟩
 f21:=⟨Tryz.f263.name,og,func263.D (OT some od)⟩
 f22:=⟨Tryz.f264.name,og,func264.D (OT some od)⟩
 f23:=⟨Tryz.f265.name,og,func265.D (OT some od)⟩
 f24:=⟨Tryz.f266.name,og,func266.D (OT some od)⟩
 f25:=⟨Tryz.f267.name,og,func267.D (OT some od)⟩
 f26:=⟨Tryz.f268.name,og,func268.D (OT some od)⟩
 f27:=⟨Tryz.f269.name,og,func269.D (OT some od)⟩
 f28:=func157.D (OT some od)
 f29:=func158.D (OT some od)
 f46:=⟨Tryz.f302.name,og,func302.D (OT some od)⟩
 f47:=func218.D (OT some od)
 f48:=func219.D (OT some od)
 f49:=⟨Tryz.f303.name,og,func303.D (OT some od)⟩
 f50:=⟨Tryz.f304.name,og,func304.D (OT some od)⟩
 f57:=⟨Tryz.f318.name,og,func318.D (OT some od)⟩
 t0:=underlying0
 a0:=Tryz.isAgg0
 z0:=Tryz.sizeOf0
 v0:=Tryz.zeroValue0
 t3:=underlying3
 a3:=Tryz.isAgg3
 z3:=Tryz.sizeOf3
 v3:=Tryz.zeroValue3
 t4:=underlying4
 a4:=Tryz.isAgg4
 z4:=Tryz.sizeOf4
 v4:=Tryz.zeroValue4
 t5:=underlying5
 a5:=Tryz.isAgg5
 z5:=Tryz.sizeOf5
 v5:=Tryz.zeroValue5
 t9:=underlying9
 a9:=Tryz.isAgg9
 z9:=Tryz.sizeOf9
 v9:=Tryz.zeroValue9
 t22:=underlying115
 a22:=Tryz.isAgg115
 z22:=Tryz.sizeOf115
 v22:=Tryz.zeroValue115
 t25:=underlying324
 a25:=Tryz.isAgg324
 z25:=Tryz.sizeOf324
 v25:=Tryz.zeroValue324
 t39:=underlying226
 a39:=Tryz.isAgg226
 z39:=Tryz.sizeOf226
 v39:=Tryz.zeroValue226
 t45:=underlying290
 a45:=Tryz.isAgg290
 z45:=Tryz.sizeOf290
 v45:=Tryz.zeroValue290
 t46:=underlying291
 a46:=Tryz.isAgg291
 z46:=Tryz.sizeOf291
 v46:=Tryz.zeroValue291
 t50:=underlying235
 a50:=Tryz.isAgg235
 z50:=Tryz.sizeOf235
 v50:=Tryz.zeroValue235
 t53:=underlying298
 a53:=Tryz.isAgg298
 z53:=Tryz.sizeOf298
 v53:=Tryz.zeroValue298
 t55:=underlying300
 a55:=Tryz.isAgg300
 z55:=Tryz.sizeOf300
 v55:=Tryz.zeroValue300
 t66:=underlying367
 a66:=Tryz.isAgg367
 z66:=Tryz.sizeOf367
 v66:=Tryz.zeroValue367
 t70:=underlying371
 a70:=Tryz.isAgg371
 z70:=Tryz.sizeOf371
 v70:=Tryz.zeroValue371
 t76:=underlying405
 a76:=Tryz.isAgg405
 z76:=Tryz.sizeOf405
 v76:=Tryz.zeroValue405
 t77:=underlying357
 a77:=Tryz.isAgg357
 z77:=Tryz.sizeOf357
 v77:=Tryz.zeroValue357 }
end Go.Proofs
namespace Go.Lg
def fst (a:Zd):Int:=if a.st=0 then -1 else 0
def cdA (c:ZG):Zd:=j9 (tgA c) [] (unc c.ev)
def ccA (c:ZG):Zd:=syA [tgA c,cdA c]
def own (c:ZG)(k:Bool):Zd:=if k=true then ccA c else tgA c
section
variable {pS:String}
theorem zO [h1:XK P t]{x:O1}{l:List Bool}{u:Bool}(E:Q7 w.heap b T (l.map Value.bool))(hx:ev f x=.pointer (some ⟨b,0+i*1,none⟩))(G:ev f y=.bool u)(hi:i<l.length)
  (hK:∀w',O3 [b] w w'->Q7 w'.heap b T ((l.set i u).map Value.bool)->K (QY f d undef) w'):XO P ⟨d,.store t x y,ty,pS,af,gd⟩ f w K:=by
 refine QA E hx G (oz hi) rfl λw' H I=>hK w' H ?_;rw[ON];simpa using I
theorem JS [XK P t]{x:O1}{l:List Bool}(h:Q7 w.heap b T (l.map Value.bool))(hx:ev f x=.pointer (some ⟨b,0+i*1,none⟩))(hi:i<l.length):
  (execOp (ev f) ⟨d,.load t x,ty,pS,af,gd⟩).run P w=.ok (.value (.bool (l[i]'hi))) w:=Qq h hx (by simp[hi])
variable {C:xw}{pl:xp}
theorem pqB {b:Bool}(E:∀w',C w'->(execOp (ev f) (QV ops i)).run P w'=.ok (.value (.bool b)) w')(I:b=true->XP P ops C K pl (QY f (QV ops i).dst (.bool true)) w)(J:b=false->XP P ops C K pl (QY f (QV ops i).dst (.bool false)) w)
  (hd:U0 (QV ops i)=true:=by rfl) (H:Z4 ops f (QV ops i)=true:=by rfl):XP P ops C K ((i,true)::pl) f w:=by
 cases G:b with
 | true=>rw[G]at E;exact pq E (I G) hd H
 | false=>rw[G]at E;exact pq E (J G) hd H
end
def bA (n:Nat)(g:Nat->Bool):List Bool:=(oT n).map g
theorem QoJ (n:Nat)(g:Nat->Bool):(bA n g).length=n:=by simp[bA]
theorem QoI {g E:Nat->Bool}{u:Bool}(G:u=E i)(h:∀j,j<n->j≠i->E j=g j):(bA n g).set i u=bA n E:=by
 apply Mt
 ·simp[bA]
 intro k O H;rw[M6];have I:k<n:=by simpa[bA]using H
 by_cases e:i=k
 ·rw[OS e,G,e];simp[bA]
 rw[OR e];have:=h k I (λJ=>e J.symm);simp[bA,this]
theorem Qfp (n:Nat):(oN n (Value.bool false).cells.toList).flatten=(bA n (λi=>decide (i<0))).map Value.bool:=by
 apply Mt
 ·simp[Value.cells,bA]
 intro i E G;simp[Value.cells,bA]
theorem qb {l:Lf}(h:s.toNat<l.length):l[s.toNat]'h=lft l s:=by unfold lft;simp[oQ,h]
theorem Qln (n:Nat)(fb:LI):(lf0 n fb).length=n:=by unfold lf0;rw[yk];simp
instance:Bw prog 322 [nS,oF oG 0,nS,nS,nS,.map none,nS] [(0,4),(4,1),(5,1),(6,1)]:=⟨od,og⟩
structure Pz where
 va:O0
 vm:O0
 ve:O0
 a:Zd
 vu:O0
 unc:LI
 mb:Nat
 mm:List (Int×O0)
 bl:Nat
 n:Nat
 rv:Nat->O0
abbrev Pz.cells (p:Pz):LV:=[p.va,oF oG p.a.st,p.vm,p.ve,p.vu,.map (some p.mb),.slice (some ⟨p.bl,0,none⟩) p.n p.n]
structure PzA (L:LN)(H:xx)(bp:Nat)(p:Pz):Prop where
 B:Q7 H bp 322 p.cells
 bL:bp∉L
 a:ZK L H p.va p.vm p.ve p.a
 u:QQ L H p.vu p.unc
 M:Yd VY H p.mb p.mm
 mL:p.mb∉L
 g:∀s,s<p.n->(match O8 p.mm ((s:Nat):Int)with|some u=>u|none=>nS)=p.rv s
 R:∀s,s<p.n->QQ L H (p.rv s) (YY p.a.ed s)
theorem PzA.I {L:LN}{w w':OZ}{bp:Nat}{p:Pz}(h:PzA L w.heap bp p)(E:O3 [] w w'):PzA L w'.heap bp p:=⟨h.B.I E,h.bL,h.a.I E,h.u.I E,h.M.I E,h.mL,h.g,λs G=>(h.R s G).I E⟩
theorem PzA.st {L:LN}{w w':OZ}{bp:Nat}{p:Pz}(h:PzA L w.heap bp p)(E:O3 L w w'):PzA L w'.heap bp p:=⟨h.B.J E h.bL,h.bL,h.a.st E,h.u.st E,h.M.J E h.mL,h.mL,h.g,λs G=>(h.R s G).st E⟩
theorem PzA.up {L L':LN}{H:xx}{bp:Nat}{p:Pz}(h:PzA L H bp p)(E:∀b∈L',b∈L\/H.size<=b):PzA L' H bp p :=
 ⟨h.B,λI=>by rcases E _ I with G|G;exact h.bL G;have:=h.B.lt;omega,h.a.up E,h.u.up E,h.M,λI=>by rcases E _ I with G|G;exact h.mL G;have:=h.M.lt;omega,h.g,λs J=>(h.R s J).up E⟩
structure PzQ (p:Pz):Prop where
 ok:ZJ p.a
 n:p.a.st=(p.n:Int)
theorem Qhp {vr vu:O0}{rm unc:LI}(h:ZK [] w.heap va vm ve a)(h7:ZJ a)(hn:a.st=(n:Int))(hr:QQ [] w.heap vr rm)(gn:∀x∈rm,0<=x/\x<a.st)(hu:QQ [] w.heap vu unc):
  Q5 prog 182 [.agg #[va,oF oG a.st,vm,ve],vr,vu] w λr w'=>O3 [] w w'/\∃bp p,r=.pointer (some ⟨bp,0,none⟩)/\p.a=a/\p.unc=unc/\p.n=n/\w.heap.size<=p.bl/\PzA [p.bl] w'.heap bp p/\Q7 w'.heap p.bl 4 ((lf0 n rm).map Value.bool):=by
 have kj:=h7.st1;have go:=h7.ed;have kk:=h7.ed_le;have kn:=hr.le;refine Zs func182 ntmps182 results182 ?_;refine Qe<|Qa<|QS (us:=[va,oF oG a.st,vm,ve]) U λb3 H hh ko hz=>Qc ?_;have kq:=hz.lt;refine Q3 (α:=Nat×Nat×Nat) [(7,7),(13,20)] (λz=>[(7,.pointer (some ⟨z.1,0,none⟩))]) (λz w'=>O3 [] H w'/\Q7 w'.heap z.1 322 [va,oF oG a.st,vm,ve,vu,.map (some z.2.1),.slice (some ⟨z.2.2,0,none⟩) n n] /\
  Yd VY w'.heap z.2.1 []/\Q7 w'.heap z.2.2 4 ((bA n (λi=>decide (i<0))).map Value.bool)/\H.heap.size<=z.1/\H.heap.size<=z.2.1/\H.heap.size<=z.2.2/\z.1≠z.2.1/\z.1≠z.2.2/\z.2.1≠z.2.2) ol ?_ ?_
 ·have ha:O3 [] H { H with drawn:=H.drawn+1 }:=O3.C _ _
  refine Qmu (O3 [] H) [oD 0,oD 1,oD 3,oD 4] 2 5 [oE 5,oD 6,oE 7,oD 8] [oE 2,oD 6,oE 7,oD 8] mixed ol od (O3.C _ _) ?_;refine pq (λ_ I=>Zx (hz.I I) U U)<|p Qy<|p (QP U)<|pq (λ_ I=>Qq (hz.I I) U U)<|pe ⟨⟨U,?_⟩,U,?_⟩
  ·refine Yw VY λbm w2 T h8 hN=>⟨ha.D T,?_⟩;refine pk<|U6 (n:=n) (OT (Value.int .i64) hn) (OT (Value.int .i64) hn) oa λbl w3 V hbl hB=>⟨(ha.D T).D V,?_⟩;rw[Qfp]at hB;refine p (λ_=>Zt [(0,[va,oF oG a.st,vm,ve]),(1,[vu]),(2,[.map (some bm)]),(3,[.slice (some ⟨bl,0,none⟩) n n])] ⟨U,U,hu.cells,U,U,U,U,U,Z⟩)<|pk <|
    QS (us:=[va,oF oG a.st,vm,ve,vu,.map (some bm),.slice (some ⟨bl,0,none⟩) n n]) U λbp w4 G hA O=>⟨((ha.D T).D V).D G,?_⟩
   refine p ZH<|pe ?_;have gp:=hN.lt;have gq:=hB.lt;have gr:({ H with drawn:=H.drawn+1 }:OZ).heap.size=H.heap.size:=rfl
   exact⟨(bp,bm,bl),La,((ha.D T).D V).D G,O,(hN.I V).I G,hB.I G,oh,oh,oh,oh,oh,oh⟩
  refine U6 (n:=n) (OT (Value.int .i64) hn) (OT (Value.int .i64) hn) oa λbl w2 T hbl hB=>⟨ha.D T,?_⟩;rw[Qfp]at hB;refine pk<|Yw VY λbm w3 V h8 hO=>⟨(ha.D T).D V,?_⟩;refine p (λ_=>Zt [(0,[va,oF oG a.st,vm,ve]),(1,[vu]),(2,[.map (some bm)]),(3,[.slice (some ⟨bl,0,none⟩) n n])] ⟨U,U,hu.cells,U,U,U,U,U,Z⟩)<|pk <|
   QS (us:=[va,oF oG a.st,vm,ve,vu,.map (some bm),.slice (some ⟨bl,0,none⟩) n n]) U λbp w4 G hA O=>⟨((ha.D T).D V).D G,?_⟩
  refine p ZH<|pe ?_;have gp:=hO.lt;have gq:=hB.lt;have gr:({ H with drawn:=H.drawn+1 }:OZ).heap.size=H.heap.size:=rfl
  exact⟨(bp,bm,bl),La,((ha.D T).D V).D G,O,hO.I G,(hB.I V).I G,oh,oh,oh,oh,oh,oh⟩
 rintro⟨bp,bm,bl⟩ g w4 ⟨G,O,hC,hD,hA,h8,hbl,hP,hQ,hE⟩;simp only[]at O hC hD hA h8 hbl hP hQ hE;have kr:=O.lt;have kt:=hC.lt;have gs:=hh.D G;have hq:bp∉[bl]:=by simpa using hQ
 have hR:bm∉[bl]:=by simpa using hE
 refine Qd<|Qm<|Yb U<|Qs U O U U<|QL (L:=[]) (hD.arr oe (n:=n) (cap:=n) (sz:=1) (by simp[bA]) oa (Lx _)) rfl<|Qb<|xe<|Qg<|QC (α:=Nat) [(8,8),(26,35)] (λz=>[(26,oF oG z)]) (λz w'=>z<=n/\O3 [bl] w4 w'/\Q7 w'.heap bl 4 ((bA n (λi=>decide (i<z))).map Value.bool)) (λz=>n - z) ol 0 La ⟨Ln _,O3.Z _ _,hD⟩ ?_;rintro k g w5 ⟨hk,ht,hF⟩;refine Qe<|QX U U<|xe<|Qd<|QG U (λhS=>?_) (λhS=>?_)
 ·refine Qx ?_;have gt:bA n (λi=>decide (i<k))=(rm.take 0).foldl cut (oN n true):=by
   apply Mt
   ·simp[bA]
   intro i h1 h2;have:i<n:=by simpa[bA]using h1
   simp[bA];omega
  rw[gt]at hF;have hT:QQ [bl] H.heap vr rm:=(hr.I hh).up (λb E=>.inr (by simp only[oI]at E;omega));have gu:ZK [bl] H.heap va vm ve a:=(h.I hh).up (λb E=>.inr (by simp only[oI]at E;omega));have hU:=O.J ht hq;refine Qd<|Qm<|QL ((hT.I G).st ht) U<|Qb<|xe<|Qg<|QC (α:=Nat) [(10,10),(38,48)] (λz=>[(38,oF oG z)]) (λz w'=>z<=rm.length/\O3 [bl] w4 w'/\Q7 w'.heap bl 4 (((rm.take z).foldl cut (oN n true)).map Value.bool)) (λz=>rm.length - z) ol 0 La ⟨Ln _,ht,hF⟩ ?_;rintro j g w6 ⟨hj,J,hf⟩;refine Qe<|QX U U<|xe<|Qd<|QG U (λhG=>?_) (λhG=>?_)
  ·refine Qx ?_;have gv:rm.length<=j:=by have h0:¬(j:Int)<(rm.length:Int):=hG;omega
   rw[Ls gv]at hf;have hV:=O.J J hq;have gw:=hC.J J hR;have ku:=hf.lt;refine Qd<|Qe<|Qs U ((hz.I G).J J om) U U<|QL ((gu.I G).st J).ed U<|Qb<|xe ?_;have kv:=J.size;refine Qg<|QC (α:=Nat×(Nat->O0)×List (Int×O0)) [(12,12),(52,73)] (λz=>[(52,oF oG z.1)]) (λz w'=>z.1<=a.ed.length/\O3 [bm] w6 w'/\Yd VY w'.heap bm z.2.2/\VP w6.heap.size w' n z.2.1 (YY (a.ed.take z.1))/\∀s,s<n->(match O8 z.2.2 ((s:Nat):Int)with|some u=>u|none=>nS)=z.2.1 s) (λz=>a.ed.length - z.1) ol (0,λ_=>nS,[]) ⟨rfl,Z⟩
    ⟨Ln _,O3.Z _ _,gw,⟨λi _=>QJ _ _ _ _,λi j _ _ _=>Dj.nil _⟩,λs _=>U⟩ ?_
   rintro⟨i,rv,m⟩ g w7 ⟨hi,S,hH,hg,h3⟩;simp only[]at hi hH hg h3;have kw:=S.size;have hW:bp∉[bm]:=by simpa using hP
   have gx:bl∉[bm]:=by simpa using Ne.symm hE
   refine Qe<|QX U U<|xe<|Qd<|QG U (λhI=>?_) (λhI=>?_)
   ·refine Qx ?_;have gy:a.ed.length<=i:=by have h4:¬(i:Int)<(a.ed.length:Int):=hI;omega
    rw[Ls gy]at hg;refine Qm<|Qc<|Ql ⟨[_],La,(gs.O J oa).O S oa,bp,⟨va,vm,ve,a,vu,unc,bm,m,bl,n,rv⟩,U,U,U,U,oh,⟨hV.J S hW,hq,?_,?_,hH,hR,h3,λs hs=>QH (hg.own s hs) (LJ (qe a.ed s) oa) (λb E hm=>?_)⟩,hf.J S gx⟩
    ·have h9:ZK [bl,bm] w7.heap va vm ve a:=((((h.I hh).up (L':=[bl,bm]) (λb E=>.inr (by simp only[oK,oJ,or_false]at E;omega))).I G).st (J.mono oe)).st (S.mono oe);exact h9.up oe
    ·have h9:QQ [bl,bm] w7.heap vu unc:=((((hu.I hh).up (L':=[bl,bm]) (λb E=>.inr (by simp only[oK,oJ,or_false]at E;omega))).I G).st (J.mono oe)).st (S.mono oe);exact h9.up oe
    have:=(Qi (hg.own s hs) b E).1;simp only[oI]at hm;omega
   refine Qh ?_;have Y:i<a.ed.length:=by have h4:(i:Int)<(a.ed.length:Int):=hI;omega
   have hv:a.ed.take (i+1)=a.ed.take i++[a.ed[i]'Y]:=Ll Y;have hX:=go _ (Lm Y);refine Zk (a.ed[i]'Y) λe he=>?_;rw[he]at hv hX;have hY:e.2.2=(e.2.2.toNat:Int):=oa
   have hw:e.2.2.toNat<n:=oa
   have gz:=qe (a.ed.take i) e.2.2.toNat;rw[Ly]at gz;have hJ:=Qds (a.ed.take i) e hX.2.2.2.1;have g0:qX [bl,bm] w7.heap ve a.ed:=((((h.ed.I hh).up (L':=[bl,bm]) (λb E=>.inr (by simp only[oK,oJ,or_false]at E;omega))).I G).st (J.mono oe)).st (S.mono oe);refine Qd<|Qg<|Qe<|xie g0 U U Y λkx h4=>?_;rw[he]at h4;refine x (Qv h4 U U)<|Qa<|Qo (us:=[oF oG 0,oF oG 0,oF oG 0]) U λb12 w8 g2 g3 g4=>Qa<|Qj (us:=QF e) g4 U U U U oB λw9 g5 hK=>xe ?_;have hy:O3 [] w7 w9:=g2.O g5 g3;have kz:=hy.size;have hZ:=hg.I hy;have g6:=hZ.own _ hw;have h5:∀b∈ob (rv e.2.2.toNat),w6.heap.size<=b/\b<w7.heap.size:=λb E=>⟨(Qi (hg.own _ hw) b E).1,Zb (hg.own _ hw) b E⟩;have ga:bp∉ob (rv e.2.2.toNat):=λE=>ou (h5 _ E)
   have gb:bm∉ob (rv e.2.2.toNat):=λE=>ou (h5 _ E)
   have hL:b12∉ob (rv e.2.2.toNat):=λE=>ou (h5 _ E)
   have gc:=((hV.J S hW).I hy);have gg:=hH.I hy;have gh:=h3 e.2.2.toNat hw;rw[<-hY]at gh;refine QR (O3 (ob (rv e.2.2.toNat)) w9) [oD 0,oD 1,oD 2,oD 3,oD 4,oD 5,oD 6,oD 7,oD 8,oD 9,oD 10,oD 11,oD 12,oD 13,oD 14,oE 15,oE 16,oE 17] mixed ol od (O3.C _ _) ?_;refine p Qy<|p (YO U)<|p (QP U)<|pq (λ_ I=>Qq (gc.J I ga) U U) <|
    p (QP rfl)<|pq (λ_ I=>Qq (hK.J I hL) U U)<|p Qy<|p (YO U)<|p (QP U) <|
    pq (λ_ I=>Qq (gc.J I ga) U U)<|p (QP U)<|pq (λ_ I=>Qq (hK.J I hL) U U) <|
    pq (λ_ I=>(Jr (k:=e.2.2) (gg.J I gb) U U).D (OT (λv=>Result.ok (Next.value v) _) gh))<|p (QP U)<|pq (λ_ I=>Qq (hK.J I hL) U U) <|
    pk<|QB (us:=[[oF oG e.1]]) U U og oe ⟨rfl,rfl,Z⟩ λk0 g7 gi k4 g8=>⟨(O3.C _ _).D gi,?_⟩
   have ho:O3 [] w9 g7:=(O3.C _ _).D gi;have k5:=ho.size;refine pk<|Za (m:=1) (news:=[oF oG e.1]) (Qp g6 ho) U U U (g8.at (L:=[]) oe) (by simp[Value.oneCell']) oa oa λhM k6 g9 h6 ka=>⟨ho.any.Q h6,?_⟩;have kb:=(gg.I ho).J h6 gb;refine pkl (hl:=by kernel_rfl)<|Xw (k:=e.2.2) kb U U λk7 gj kc=>pe ?_;have ke:∀b∈ob hM,b∈ob (rv e.2.2.toNat)\/w9.heap.size<=b:=λb E=>(ka b E).imp id (λh=>oa);have gk:=hZ.app hw (Qu.snoc g9) (ho.any.Q h6) ke;have gl:=gk.J gj (λi hi b E=>by have:=(Qi (gk.own i hi) b E).1;simp only[oI];omega);have kf:VT (YY (a.ed.take i)) e.2.2.toNat (YY (a.ed.take i) e.2.2.toNat++[e.1])=YY (a.ed.take (i+1)):=by rw[hv];exact funext hJ
   rw[kf]at gl;refine Qw<|QN U U<|Qb<|xe<|⟨(i+1,VT rv e.2.2.toNat hM,O9 m e.2.2 hM),oh,La,Y,?_,kc,gl,λs hs=>?_⟩
   ·exact(((S.D hy).D ho).then h6 (λb E=>.inr (h5 b E).1)).Q gj
   simp only[];rw[Xn];by_cases gm:s=e.2.2.toNat
   ·subst gm;rw[OS hY,Yk]
   rw[OR oa,YP _ _ gm];exact h3 s hs
  refine Qh ?_;have hp:j<rm.length:=by have h0:(j:Int)<(rm.length:Int):=hG;omega
  have kg:=gn _ (Lm hp);have hv:rm.take (j+1)=rm.take j++[rm[j]'hp]:=Ll hp;refine Zk (rm[j]'hp) λs hs=>?_;rw[hs]at kg hv;have hJ:s=(s.toNat:Int):=oa
  have k8:((rm.take j).foldl cut (oN n true)).length=n:=by rw[yk];simp
  refine Qd<|Qg<|Qe<|xii (i:=j) ((hT.I G).st J) U U hp λk9 h0=>?_;rw[hs]at h0;refine x (QD h0 U)<|Qc<|Qw<|Qb<|Yb U<|Qs U (O.J J hq) U U<|Qb<|x (ZB (i:=s.toNat) U (OT (Value.int .i64) hJ) oa) <|
   Qa<|zO (i:=s.toNat) hf U U oa λw7 S kh=>xe ?_
  refine Qw<|QN U U<|Qb<|xe<|⟨j+1,oa,La,hp,J.Q S,?_⟩;rw[hv,Mz];exact kh
 refine Qh ?_;have Y:k<n:=by have ma:(k:Int)<(n:Int):=hS;omega
 have hU:=O.J ht hq;refine Qd<|Qg<|Qm<|Qc<|Qw<|Qb<|Yb U<|Qs U hU U U<|Qb<|x (ZB (i:=k) U U oa) <|
  Qa<|zO (i:=k) hF U U (by rw[QoJ];exact Y) λw6 J hf=>xe ?_
 have ki:(bA n (λi=>decide (i<k))).set k true=bA n (λi=>decide (i<k+1)):=QoI oe (λi _ hi=>by
  by_cases e:i<k
  ·simp[e];omega
  simp[e];omega)
 rw[ki]at hf;refine Qw<|QN U U<|Qb<|xe ?_;exact⟨k+1,oa,La,Y,ht.Q J,hf⟩
theorem yo {r:LI}(h:i<l.length):O4 (l++r) i=O4 l i:=by
 unfold O4;simp[oQ,List.getElem?_append_left h]
theorem UG {q:Pz}(hA:PzA [] w.heap bp q)(hq:PzQ q)(hB:Q7 w.heap q.bl 4 (lf.map Value.bool))(hl:lf.length=q.n):
  Q5 prog 186 [.pointer (some ⟨bp,0,none⟩)] w λr w'=>O3 [] w w'/\∃b,r=.slice (some ⟨b,0,none⟩) q.n q.n/\w.heap.size<=b/\Q7 w'.heap b 3 ((dsts q.a lf).map (Value.int .i64))/\(dsts q.a lf).length=q.n:=by
 have hn:=hq.n;have kr:=hq.ok.st1;have gb:=hq.ok.mr;have kt:=hq.ok.mr_le;have ku:=hq.ok.ed_le;have hM:q.a.st.toNat=q.n:=oa
 have gt:=Qon (lf:=lf) hq.ok hn;have gc:(dsL q.a.ed lf q.n 0 (ds0 q.a lf)).1=dsts q.a lf:=by unfold dsts;rw[hM]
 refine Zk (dsts q.a lf) λDD gu=>?_;rw[gu]at gc ⊢;refine Zs func186 ntmps186 results186 ?_;refine Qe<|Qc<|Qm<|Yb U<|Q0 U<|Qs U hA.B U U<|Qa<|U6 (n:=q.n) (OT (Value.int .i64) hn) (OT (Value.int .i64) hn) oa λbO w1 gg hC hN=>Qc ?_;rw[Qgb]at hN;refine Qd<|Qm<|QL (L:=[]) (hN.arr oe (n:=q.n) (cap:=q.n) (sz:=1) (by simp[gA]) oa (Lx _)) rfl<|Qb<|xe<|Qg<|QC (α:=Nat) [(4,4),(19,25)] (λz=>[(19,oF oG z)]) (λz w'=>z<=q.n/\O3 [] w w'/\Q7 w'.heap bO 3 ((gA q.n (λj=>if j<z then -1 else 0)).map (Value.int .i64))) (λz=>q.n - z) ol 0 La ⟨Ln _,gg,hN⟩ ?_
 rintro j g H ⟨hj,hh,h0⟩;refine Qe<|QX U U<|xe<|Qd<|QG U (λhO=>?_) (λhO=>?_)
 ·refine Qx ?_;have hP:j=q.n:=by have gv:¬(j:Int)<(q.n:Int):=hO;omega
  have gw:gA q.n (λi=>if i<j then -1 else 0)=((q.a.mr.take 0).foldl (ds1 lf) (oN q.n (-1),[])).1:=by
   apply Mt
   ·simp[gA]
   intro i h1 h2;have:i<q.n:=by simpa[gA]using h1
   simp[gA];omega
  rw[gw]at h0;refine Qe<|Qc<|Qd<|Qm<|Yb U<|Q0 U<|Qs U (hA.I hh).B U U<|QL (hA.I hh).a.mr U<|Qb<|xe<|Qg<|QC (α:=Nat×O0) [(5,5),(7,7),(32,50)] (λz=>[(5,z.2),(32,oF oG z.1)]) (λz w'=>z.1<=q.a.mr.length/\O3 [] w w'/\H.heap.size<=w'.heap.size/\Q7 w'.heap bO 3 (((q.a.mr.take z.1).foldl (ds1 lf) (oN q.n (-1),[])).1.map (Value.int .i64)) /\
   Qu 3 H.heap.size w' z.2 ((q.a.mr.take z.1).foldl (ds1 lf) (oN q.n (-1),[])).2) (λz=>q.a.mr.length - z.1) ol (0,nS) oA ⟨Ln _,hh,Lx _,h0,QJ _ _ _ _⟩ ?_
  rintro⟨k,vl⟩ g w3 ⟨hk,h3,gh,ho,ha⟩;simp only[]at hk ho ha;have gi:=Qcd (lf:=lf) (λx hx=>(gb x hx).1) k;rw[hM]at gi;refine Qe<|QX U U<|xe<|Qd<|QG U (λhQ=>?_) (λhQ=>?_)
  ·refine Qx ?_;have gx:q.a.mr.length<=k:=by have hD:¬(k:Int)<(q.a.mr.length:Int):=hQ;omega
   have e0:(q.a.mr.take k).foldl (ds1 lf) (oN q.n (-1),[])=ds0 q.a lf:=by rw[Ls gx];unfold ds0;rw[hM]
   rw[e0]at ho ha;have gy:bO<H.heap.size:=h0.lt;refine Qd<|Qe<|Qc<|Qg<|QC (α:=Nat×Nat×O0×LI×LI) [(5,5),(8,8),(10,10),(51,100)] (λz=>[(5,z.2.2.1),(8,oF oG z.2.1)])
    (λz w'=>O3 [] w w'/\H.heap.size<=w'.heap.size/\Q7 w'.heap bO 3 (z.2.2.2.1.map (Value.int .i64))/\Qu 3 H.heap.size w' z.2.2.1 z.2.2.2.2/\DsI q.n z.2.2.2/\z.1+z.2.1=q.n/\(dsL q.a.ed lf z.1 z.2.1 z.2.2.2).1=DD) (λz=>q.n - z.2.1) ol (q.n,0,vl,(ds0 q.a lf).1,(ds0 q.a lf).2) oA
    ⟨h3,gh,ho,ha,gt,U,gc⟩ ?_
   rintro⟨f,i,vl,o,l⟩ g w4 ⟨hf,hR,h4,O,hp,gz,S⟩;simp only[]at hR h4 O hp gz S;have g0:=hp.le;have gj:=hp.ok.len;simp only[]at g0 gj;have hF:=hA.I hf;refine Qd<|Qm<|Qb<|QL (L:=[]) (QH O oa oe) rfl<|QX rfl rfl<|xe<|QG U (λhS=>?_) (λhS=>?_)
   ·refine Qx ?_;have g2:¬i<l.length:=by have g3:¬(i:Int)<(l.length:Int):=hS;omega
    rw[Qjh g2]at S;simp only[]at S;subst S;refine Qm<|Qc ?_;exact Ql ⟨[.slice (some ⟨bO,0,none⟩) q.n q.n],La,hf,bO,U,hC,h4,gj⟩
   refine Qh ?_;have hr:i<l.length:=by have g3:(i:Int)<(l.length:Int):=hS;omega
   refine Exists.elim (Nat.exists_eq_succ_of_ne_zero (show f≠0 by omega)) λf' g4=>?_;subst g4;rw[dsL,OS hr]at S;have gk:=ZI hr;have hsr:=hp.ok.q _ (Kg hr);have hT:=hp.s0 _ (Kg hr);refine Zk (O4 l i) λs hs=>?_;rw[hs]at S hsr gk;simp only[]at hsr hT;rw[hs]at hT;have gl:s=(s.toNat:Int):=oa
   have gm:=hF.g s.toNat oa;rw[<-gl]at gm;have g5:=hF.R s.toNat oa;have kv:=qe q.a.ed s.toNat;refine Qd<|Qg<|Qd<|QR (O3 [] w4) [oD 0,oD 1,oD 2,oD 3,oD 4,oD 5,oD 6,oD 7,oD 8,oD 9,oD 10] mixed ol od (O3.C _ _) ?_;refine p Qy<|p (YO U)<|p (QP U)<|pq (λ_ T=>Qq (hF.B.I T) U U)<|p Qy<|p Qy <|
    pii (i:=i) U (QH (L:=[]) O oa oe) rfl rfl hr λkw gn=>?_
   rw[gk]at gn;refine pq (λ_ T=>QD (gn.I T) U)<|pq (λ_ T=>(Jr (k:=s) (hF.M.I T) U U).D (OT (λv=>Result.ok (Next.value v) _) gm))<|p (λ_=>Yo g5 U)<|p Qy<|pe ?_;have hG:O3 [] w4 { w4 with drawn:=w4.drawn+1 }:=O3.C _ _
   refine Qg<|QC (α:=Nat×O0×LI×LI) [(5,5),(10,10),(67,100)] (λz=>[(5,z.2.1),(67,oF oG z.1)])
    (λz w'=>z.1<=(YY q.a.ed s.toNat).length/\O3 [] w w'/\H.heap.size<=w'.heap.size/\Q7 w'.heap bO 3 (z.2.2.1.map (Value.int .i64))/\Qu 3 H.heap.size w' z.2.1 z.2.2.2/\DsI q.n z.2.2/\0<=O4 z.2.2.1 s.toNat/\i<z.2.2.2.length/\O4 z.2.2.2 i=s /\
     ((YY q.a.ed s.toNat).drop z.1).foldl (dsE lf s) z.2.2=(YY q.a.ed s.toNat).foldl (dsE lf s) (o,l)) (λz=>(YY q.a.ed s.toNat).length - z.1) ol (0,vl,o,l) oA
    ⟨Ln _,hf.D hG,LJ hR hG.size,h4.I hG,Qp O hG,hp,hT,hr,hs,U⟩ ?_
   rintro⟨m,hH,o2,l2⟩ g w5 ⟨hm,E,hI,ht,hu,hg,hU,h5,hJ,I⟩;simp only[]at hm hI ht hu hg hU h5 hJ I;have go:=hA.I E;have g6:=hg.le;have g7:=hg.ok.len;simp only[]at g6 g7;refine Qe<|QX U U<|xe<|Qd<|QG U (λhV=>?_) (λhV=>?_)
   ·refine Qx ?_;have g8:(YY q.a.ed s.toNat).length<=m:=by have hK:¬(m:Int)<((YY q.a.ed s.toNat).length:Int):=hV;omega
    rw[Lr g8]at I;simp only[List.foldl_nil]at I;rw[<-I]at S;refine Qw<|Qb<|QN U U<|Qc ?_;exact⟨(f',i+1,hH,o2,l2),oh,oA,E,hI,ht,hu,hg,oh,S⟩
   refine Qh ?_;have hv:m<(YY q.a.ed s.toNat).length:=by have hK:(m:Int)<((YY q.a.ed s.toNat).length:Int):=hV;omega
   have gp:=Qgc (Lm hv);have g9:=Zf hv;rw[g9,L4]at I;refine Zk ((YY q.a.ed s.toNat)[m]'hv) λy hy=>?_;rw[hy]at gp I;have ka:0<=y/\y<(q.n:Int):=by
    obtain⟨e,he,h1,_⟩:=gp;have:=hq.ok.ed e he;omega
   have hw:y=(y.toNat:Int):=oa
   have h6:y.toNat<o2.length:=oa
   have hW:s.toNat<o2.length:=oa
   have kb:=hg.ok.le _ (Kg hW);simp only[]at kb;have hE:=Qji (lf:=lf) hg hsr hU ka;have hX:=qb (l:=lf) (s:=y) oa;refine Qd<|Qg<|Qe<|xii (i:=m) ((go.R s.toNat oa)) U U hv λkx hK=>?_;rw[hy]at hK;refine x (QD hK U)<|Qc<|Q3 (α:=Bool) [(71,84)] (λz=>[(84,.bool z)]) (λz w'=>w'=w5/\z=(lft lf y && decide (O4 o2 y.toNat<0))) ol ?_ ?_
   ·refine Qw<|Qb<|Yb U<|Qs U go.B U U<|Qb<|x (ZB (i:=y.toNat) U (OT (Value.int .i64) hw) oa)<|x (JS (i:=y.toNat) (hB.I E) U oa)<|?_;rw[hX];cases lft lf y with
    | true =>
     refine Qb<|Qb<|Qb<|x (ZB (i:=y.toNat) U (OT (Value.int .i64) hw) oa)<|x (q8 (i:=y.toNat) ht U h6)<|QX U U<|QK U<|xe ?_;exact⟨_,La,U,by rw[ZI h6];rfl⟩
    | false =>
     refine Qb<|Qr<|Qr<|Qr<|Qr<|Qr<|QK U<|xe ?_;exact⟨_,La,U,U⟩
   rintro z g kz ⟨rfl,rfl⟩;refine QW U (λh7=>?_) (λh7=>?_)
   ·rw[Lv,decide_eq_true_eq]at h7;have hEq:dsE lf s (o2,l2) y=(o2.set y.toNat (O4 o2 s.toNat+1),l2++[y]):=by unfold dsE;rw[OS h7]
    rw[hEq]at I hE;have kc:=ZI hW;have gq:=ZI h5;rw[hJ]at gq;refine Qm<|Qb<|Qb<|Qb<|Qb<|xii (i:=i) (QH (L:=[]) hu oa oe) rfl rfl h5 λk0 gr=>?_;rw[gq]at gr;refine x (QD gr U)<|x (ZB (i:=s.toNat) U (OT (Value.int .i64) gl) oa)<|x (q8 (i:=s.toNat) ht U hW)<|x (XI U U ⟨oa,oa⟩) <|
     x (ZB (i:=y.toNat) U (OT (Value.int .i64) hw) oa)<|Qa<|J8 (i:=y.toNat) ht U U h6 λw6 J hL=>xe ?_
    rw[kc]at hL;have ke:=J.size;have kf:∀b∈ob hH,b∉[bO]:=λb G=>by have:=Qi hu b G;simp only[oI];omega
    have h8:Qu 3 H.heap.size w6 hH l2:=Qf hu J kf;have kg:O3 [] w w6:=E.O J hC;refine Qw<|Qb<|Qb<|Qa<|QB (us:=[[oF oG y]]) U U og oe ⟨rfl,rfl,Z⟩ λk4 w7 h9 k5 kh=>Qa<|Za (m:=1) (news:=[oF oG y]) (Qp h8 h9) rfl rfl rfl (kh.at (L:=[]) oe) (by simp[Value.oneCell']) oa (ou h9.size) λhY w8 ki hZ k6 =>
     Qc ?_
    have k7:=h9.size;have k8:=hZ.size;refine Qw<|QN U U<|Qb<|xe<|⟨(m+1,hY,_,l2++[y]),oh,oA,hv,(kg.D h9).then hZ (λb G=>.inr (oy (Qi h8 b G) gg.size hh.size)),oa,(hL.I h9).J hZ (λG=>ou (Qi h8 _ G)),Qu.snoc ki,hE.1,hE.2,by simp only[oM];omega,by rw[yo h5];exact hJ,I⟩
   have hEq:dsE lf s (o2,l2) y=(o2,l2):=by
    unfold dsE;rw[OR];intro T;rw[T.1,OV T.2]at h7;cases h7
   rw[hEq]at I;refine Qh<|Qw<|QN U U<|Qb<|xe ?_;exact⟨(m+1,hH,o2,l2),oh,oA,hv,E,hI,ht,hu,hg,hU,h5,hJ,I⟩
  refine Qh ?_;have V:k<q.a.mr.length:=by have hD:(k:Int)<(q.a.mr.length:Int):=hQ;omega
  have kj:=gb _ (Lm V);have kk:q.a.mr.take (k+1)=q.a.mr.take k++[q.a.mr[k]'V]:=Ll V;have Y:(q.a.mr.take (k+1)).foldl (ds1 lf) (oN q.n (-1),[])=ds1 lf ((q.a.mr.take k).foldl (ds1 lf) (oN q.n (-1),[])) (q.a.mr[k]'V):=by rw[kk,Mz];rfl
  have kn:((q.a.mr.take k).foldl (ds1 lf) (oN q.n (-1),[])).1.length=q.n/\((q.a.mr.take k).foldl (ds1 lf) (oN q.n (-1),[])).2.length<=q.a.mr.length:=by
   rw[gi];exact⟨UN _ _,LJ (Ma _ _) (by rw[Ly];omega)⟩
  refine Zk ((q.a.mr.take k).foldl (ds1 lf) (oN q.n (-1),[])) λz hz=>?_;rw[hz]at ho ha Y kn;refine Zk (q.a.mr[k]'V) λy hy=>?_;rw[hy]at kj Y;have hw:y=(y.toNat:Int):=oa
  have h6:y.toNat<z.1.length:=oa
  have hX:=qb (l:=lf) (s:=y) oa;have gs:=hA.I h3;refine Qd<|Qg<|Qe<|xii (i:=k) gs.a.mr U U V λk9 hD=>?_;rw[hy]at hD;refine x (QD hD U)<|Qc<|Qm<|Yb U<|Qs U gs.B U U<|Qb<|x (ZB (i:=y.toNat) U (OT (Value.int .i64) hw) oa)<|x (JS (i:=y.toNat) (hB.I h3) U oa)<|xe ?_;rw[hX];refine QW U (λga=>?_) (λga=>?_)
  ·have e1:ds1 lf z y=(z.1.set y.toNat 0,z.2++[y]):=by unfold ds1;rw[OS ga]
   rw[e1]at Y;refine Qm<|Qb<|x (ZB (i:=y.toNat) U (OT (Value.int .i64) hw) oa)<|Qa<|J8 (i:=y.toNat) ho U U h6 λw4 hf h4=>xe ?_;have hR:=hf.size;have gy:bO<H.heap.size:=h0.lt;have O:Qu 3 H.heap.size w4 vl z.2:=Qf ha hf (λb G=>by have:=Qi ha b G;simp only[oI];omega);refine Qw<|Qb<|Qb<|Qa<|QB (us:=[[oF oG y]]) U U og oe ⟨rfl,rfl,Z⟩ λma w5 E mf ko=>Qa<|Za (m:=1) (news:=[oF oG y]) (Qp O E) rfl rfl rfl (ko.at (L:=[]) oe) (by simp[Value.oneCell']) oa (ou E.size) λhY w6 h8 J mg =>
    Qc ?_
   have hI:=E.size;have ke:=J.size;refine Qw<|QN U U<|Qb<|xe<|⟨(k+1,hY),oh,oA,V,((h3.O hf hC).D E).then J (λb G=>.inr (ov (Qi O b G) hh.size)),oa,?_,?_⟩
   ·simp only[];rw[Y];exact(h4.I E).J J (λG=>ou (Qi O _ G))
   simp only[];rw[Y];exact Qu.snoc h8
  have e1:ds1 lf z y=z:=by unfold ds1;rw[OR (by rw[ga];decide)]
  rw[e1]at Y;refine Qh<|Qw<|QN U U<|Qb<|xe ?_;exact⟨(k+1,vl),oh,oA,V,h3,gh,by simp only[];rw[Y];exact ho,by simp only[];rw[Y];exact ha⟩
 refine Qh ?_;have hP:j<q.n:=by have gv:(j:Int)<(q.n:Int):=hO;omega
 refine Qd<|Qg<|Qm<|Qc<|Qw ?_;have kq:(gA q.n (λi=>if i<j then -1 else 0)).set j (-1)=gA q.n (λi=>if i<j+1 then -1 else 0):=Qn9 (by rw[OS oa]) (λi _ hi=>by
  by_cases e:i<j
  ·rw[OS e,OS oa]
  rw[OR e,OR oa])
 refine Qb<|Qb<|x (ZB (i:=j) U U oa)<|Qa<|Qh3 (i:=j) h0 U U hP kq λw6 J hL=>xe ?_;refine Qw<|QN U U<|Qb<|xe ?_;exact⟨j+1,oa,La,hP,hh.O J hC,hL⟩
abbrev rmC (rk rs:Int)(x:Int×Int):LV:=[oF oG x.1,oF oG rk,oF oG rs,oF oG x.2]
theorem Qej (rk rs:Int)(x:Int×Int):(rmC rk rs x).length=4:=rfl
abbrev RmO (base:Nat)(w:OZ)(v:O0)(rk rs:Int)(l:xt):Prop:=w.ownsRow base 253 4 v l.length (l.flatMap (rmC rk rs))
theorem RmO.snoc {base:Nat}{v:O0}{rk rs:Int}{l:xt}{x:Int×Int}(h:w.ownsRow base 253 4 v (l.length+1) (l.flatMap (rmC rk rs)++rmC rk rs x)):RmO base w v rk rs (l++[x]):=by
 unfold RmO;rw[Lj,LA];simpa using h
theorem Qin {k:Nat}(h:k<a.ed.length):(a.ed.take (k+1)).foldl (K8 ul lf) []=K8 ul lf ((a.ed.take k).foldl (K8 ul lf) []) (a.ed[k]'h):=by
 rw[Ll h,Mz];rfl
theorem QhY {q:Pz}(S:PzA [] w.heap bp q)(hq:PzQ q)(hB:Q7 w.heap q.bl 4 (lf.map Value.bool))(hl:lf.length=q.n)(rk:Int):
  Q5 prog 224 [.pointer (some ⟨bp,0,none⟩),oF oG rk] w λr w'=>O3 [] w w'/\RmO w.heap.size w' r rk 2 (lost q.a q.unc lf):=by
 have hn:=hq.n;have hT:=hq.ok.ed_le;refine Zs func224 ntmps224 results224 ?_;refine Qe<|Qc<|Qe<|Qc<|Qd<|Qm<|Yb U<|Q0 U<|Qs U S.B U U<|QL S.a.ed U<|Qb<|xe<|Qg<|QC (α:=Nat×O0) [(5,5),(7,8),(15,72)] (λz=>[(5,z.2),(15,oF oG z.1)]) (λz w'=>z.1<=q.a.ed.length/\O3 [] w w'/\RmO w.heap.size w' z.2 rk 2 ((q.a.ed.take z.1).foldl (K8 q.unc lf) [])) (λz=>q.a.ed.length - z.1) ol (0,nS) oA ⟨Ln _,O3.Z _ _,QJ _ _ _ _⟩ ?_;rintro⟨k,vo⟩ g w1 ⟨hk,hh,J⟩;simp only[]at hk J;have hi:=(zU (a:=q.a) (ul:=q.unc) (lf:=lf) (q.a.ed.take k) [] (λe T=>LR T) (λp hp=>by cases hp)).2;rw[Ly]at hi;refine Qe<|QX U U<|xe<|Qd<|QG U (λhj=>?_) (λhj=>?_)
 ·refine Qx ?_;have hC:q.a.ed.length<=k:=by have V:¬(k:Int)<(q.a.ed.length:Int):=hj;omega
  rw[Ls hC]at J;refine Qm<|Qc ?_;exact Ql ⟨[_],La,hh,J⟩
 refine Qh ?_;have H:k<q.a.ed.length:=by have V:(k:Int)<(q.a.ed.length:Int):=hj;omega
 have hD:=hq.ok.ed _ (Lm H);have G:=Qin (ul:=q.unc) (lf:=lf) H;refine Zk ((q.a.ed.take k).foldl (K8 q.unc lf) []) λout hout=>?_;rw[hout]at J G hi;refine Zk (q.a.ed[k]'H) λe T=>?_;rw[T]at hD G;simp only[OD]at hi;have hE:e.1=(e.1.toNat:Int):=oa
 have hF:e.2.2=(e.2.2.toNat:Int):=oa
 have hG:=qb (l:=lf) (s:=e.1) oa;have hH:=qb (l:=lf) (s:=e.2.2) oa;have hI:=S.I hh;refine Qd<|Qg<|Qe<|xie hI.a.ed U U H λhU V=>?_;rw[T]at V;refine x (Qv V U U)<|Qa<|Qo (us:=[oF oG 0,oF oG 0,oF oG 0]) U λb7 w2 hJ hK I=>Qa<|Qj (us:=QF e) I U U U U oB λw3 hL Y=>xe ?_;have h2:O3 [] w1 w3:=hJ.O hL hK;have hm:=hh.D h2;have ha:=S.I hm;have h3:=hB.I hm;have hM:=Qp J h2;refine Qd<|Q3 (α:=Bool) [(19,47)] (λz=>[(47,.bool z)]) (λz w'=>O3 [] w3 w'/\(z=true↔(lft lf e.1=false\/lft lf e.2.2=true\/e.2.1∉q.unc))) ol ?_ ?_
 ·refine QR (O3 [] w3) [oD 0,oD 1,oD 2,oD 3,oD 4,oD 5,oD 6,oD 7,oD 8,oD 9,oD 10,oD 11,oD 12,oD 13,oD 14,oD 15,oD 16,oD 17,oD 18,oD 19,oD 20,oD 21,oD 22,oD 23,oD 24,oD 25,oE 26,oD 27,oD 28] mixed ol od (O3.C _ _) ?_;refine p Qy<|p (YO U)<|p (QP U)<|pq (λ_ E=>Qq (ha.B.I E) U U)<|p (QP U)<|pq (λ_ E=>Qq (Y.I E) U U) <|
   p (λ_=>ZB (i:=e.1.toNat) U (OT (Value.int .i64) hE) oa)<|pq (v:=.bool (lft lf e.1)) (λ_ E=>(JS (i:=e.1.toNat) (h3.I E) U oa).D (by rw[hG]))<|pB (λ_=>Zz rfl) (λO=>?_) (λO=>?_)
  ·refine p Qy<|ps<|ps<|ps<|ps<|ps<|ps<|ps<|ps<|p (YS U)<|p Qy<|ps<|ps<|ps<|ps<|ps<|ps<|ps<|ps<|p (YS U)<|pe ?_;exact⟨_,La,O3.C _ _,by simp at O;simp[O]⟩
  refine p Qy<|p Qy<|p (YO U)<|p (QP U)<|pq (λ_ E=>Qq (ha.B.I E) U U)<|p (QP U)<|pq (λ_ E=>Qq (Y.I E) U U) <|
   p (λ_=>ZB (i:=e.2.2.toNat) U (OT (Value.int .i64) hF) oa)<|?_
  refine pqB (b:=lft lf e.2.2) (λ_ E=>(JS (i:=e.2.2.toNat) (h3.I E) U oa).D (by rw[hH])) (λho=>?_) (λho=>?_)
  ·refine p (YS U)<|p Qy<|ps<|ps<|ps<|ps<|ps<|ps<|ps<|ps<|p (YS U)<|pe ?_;exact⟨_,La,O3.C _ _,by simp[ho]⟩
  refine p (YS U)<|p Qy<|p Qy<|p (YO U)<|p (QP U)<|pq (λ_ E=>Qq (ha.B.I E) U U) <|
   p (QP rfl)<|pq (λ_ E=>Qq (Y.I E) U U)<|pk<|xf<|(Ya (ha.u.I (O3.C _ _)) e.2.1).mono ?_
  rintro r4 w4 ⟨rfl,rfl⟩;refine⟨O3.C _ _,?_⟩;refine p (λ_=>zI U)<|p (YS U)<|pe ?_;exact⟨_,La,O3.C _ _,by simp at O;simp[O,ho]⟩
 rintro z g w4 ⟨hr,hz⟩;have h4:=hm.D hr;have hs:=Qp hM hr;have I:=Y.I hr;refine QW rfl (λhf=>?_) (λhf=>?_)
 ·refine Qx ?_;have e1:K8 q.unc lf out e=out:=by unfold K8;rw[OS (hz.1 hf)]
  rw[e1]at G;refine Qw<|QN U U<|Qb<|xe ?_;exact⟨(k+1,vo),oh,oA,H,h4,by simp only[];rw[G];exact hs⟩
 refine Qh ?_;have h5:¬(lft lf e.1=false\/lft lf e.2.2=true\/e.2.1∉q.unc):=λh=>by rw[hz.2 h]at hf;cases hf
 have h6:Zv [] w4.heap vo out.length 4 (out.flatMap (rmC rk 2)):=QH hs oa oe;refine Qd<|Qm<|QL h6 U<|Qc<|Q3 (α:=Bool) [(50,62)] (λz=>[(62,.bool z)]) (λz w'=>O3 [] w4 w'/\(z=true↔out.getLast?.map (·.1)=some e.1)) ol ?_ ?_
 ·refine QR (O3 [] w4) [oD 0,oD 1,oD 2,oD 3,oD 4,oD 5,oD 6,oD 7,oD 8,oD 9,oD 10,oD 11,oD 12] mixed ol od (O3.C _ _) ?_;refine p Qy<|pb (λ_=>ZZ U U) (λht=>?_) (λht=>?_)
  ·have hV:0<out.length:=by have hN:(0:Int)<(out.length:Int):=ht;omega
   have h7:out.getLast?=some (out[out.length - 1]'oa):=by rw[List.getLast?_eq_getElem?,LF]
   refine Zk (out[out.length - 1]'oa) λy hy=>?_;rw[hy]at h7;refine p Qy<|p Qy<|p Qy<|p (λ_=>Jb U U ⟨oa,oa⟩)<|Go.Lg.pig (g:=rmC rk 2) (i:=out.length - 1) U (Qej rk 2) h6 U (OT (Value.int .i64) (show(out.length:Int) - 1=((out.length - 1:Nat):Int) by omega)) oa λhW h8=>?_;rw[hy]at h8;refine p (λ_=>Zg U)<|pq (λ_ E=>QD ((h8.fld 0 (oF oG y.1) U).I E) U)<|p (QP U)<|pq (λ_ E=>Qq (I.I E) U U) <|
    p (λ_=>Q9 U U)<|p (YS U)<|pe ?_
   exact⟨_,La,O3.C _ _,by rw[h7];simp⟩
  have h0:out=[]:=Lq (by have hN:¬(0:Int)<(out.length:Int):=ht;omega);refine p Qy<|ps<|ps<|ps<|ps<|ps<|ps<|ps<|ps<|ps<|p (YS U)<|pe ?_;exact⟨_,La,O3.C _ _,by simp[h0]⟩
 rintro z2 g w5 ⟨hu,h9⟩;have hv:=h4.D hu;have hw:=Qp hs hu;have I:=I.I hu;refine QW rfl (λhg=>?_) (λhg=>?_)
 ·refine Qx ?_;have e1:K8 q.unc lf out e=out:=by unfold K8;rw[OR h5,OS (h9.1 hg)]
  rw[e1]at G;refine Qw<|QN U U<|Qb<|xe ?_;exact⟨(k+1,vo),oh,oA,H,hv,by simp only[];rw[G];exact hw⟩
 refine Qh ?_;have hO:¬out.getLast?.map (·.1)=some e.1:=λh=>by rw[h9.2 h]at hg;cases hg
 have e1:K8 q.unc lf out e=out++[(e.1,e.2.1)]:=by unfold K8;rw[OR h5,OR hO]
 rw[e1]at G;refine Qw<|Qb<|Qs U I U U<|Qb<|Qs U I U U<|x (Qz ⟨U,U,U,U,Z⟩) <|
  Qa<|QB (us:=[rmC rk 2 (e.1,e.2.1)]) U U og oe ⟨rfl,rfl,Z⟩ λhX w6 h1 hY hP =>
  Qa<|Za (m:=1) (news:=rmC rk 2 (e.1,e.2.1)) (Qp hw h1) U U U (hP.at (L:=[]) oe) (by simp[Value.oneCell']) oa (ov hv.size h1.size) λhQ w7 hR hS hZ=>Qc<|Qw<|QN U U<|Qb<|xe ?_
 exact⟨(k+1,hQ),oh,oA,H,(hv.D h1).then hS (λb hb=>.inr (Qi hw b hb).1),by simp only[];rw[G];exact RmO.snoc hR⟩
theorem jV (lf:Lf)(d:Int):∀(l:LI) (i:Nat),VG lf i (l++[d])=VG lf i l++if lf.getD (i+l.length) false=true/\d<0 then[((i+l.length:Nat):Int)]else[]
 | [],i=>by
  simp only[Oj,VG,OD,Oz]
 | a::l,i=>by
  have ih:=jV lf d l (i+1);rw[show i+1+l.length=i+(a::l).length by simp;omega]at ih;simp only[Ob,VG,ih];by_cases h:lf.getD i false=true/\a<0
  ·rw[OS h,OS h,Mj]
  rw[OR h,OR h]
abbrev blP (l:LI):xt:=l.map λs=>(s,-1)
theorem QbG {q:Pz}(hA:PzA [] w.heap bp q)(O:PzQ q)(hB:Q7 w.heap q.bl 4 (lf.map Value.bool))(hl:lf.length=q.n)(rk:Int):
  Q5 prog 225 [.pointer (some ⟨bp,0,none⟩),oF oG rk] w λr w'=>O3 [] w w'/\RmO w.heap.size w' r rk 3 (blP (VG lf 0 (dsts q.a lf)))/\(VG lf 0 (dsts q.a lf)).length<=q.n:=by
 have hn:=O.n;have hw:=O.ok.st1;refine Zs func225 ntmps225 results225 ?_;refine Qe<|Qc<|Qe<|Qc<|Qd<|Qm<|Qa<|xf<|(UG hA O hB hl).mono ?_;rintro r1 S ⟨hf,b,rfl,hb,hg,T⟩;refine Zk (dsts q.a lf) λD hD=>?_;rw[hD]at hg T ⊢;have hh:QQ [] S.heap (.slice (some ⟨b,0,none⟩) q.n q.n) D:=by
  have h:=hg.arr (L:=[]) oe (n:=q.n) (cap:=q.n) (sz:=1) (by simp[T]) oa (Lx _);unfold QQ;rw[T];exact h
 refine QL hh U<|Qb<|xe<|Qg<|QC (α:=Nat×O0) [(5,7),(11,33)] (λz=>[(5,z.2),(11,oF oG z.1)]) (λz w'=>z.1<=D.length/\O3 [] S w'/\RmO S.heap.size w' z.2 rk 3 (blP (VG lf 0 (D.take z.1)))) (λz=>D.length - z.1) ol (0,nS) oA ⟨Ln _,O3.Z _ _,QJ _ _ _ _⟩ ?_;rintro⟨k,vo⟩ g w2 ⟨hk,I,E⟩;simp only[]at hk E;have hbl:=(UO lf (D.take k) 0).2;rw[Ly]at hbl;have V:=hf.D I;refine Qe<|QX U U<|xe<|Qd<|QG U (λY=>?_) (λY=>?_)
 ·refine Qx ?_;have hj:D.length<=k:=by have hm:¬(k:Int)<(D.length:Int):=Y;omega
  rw[Ls hj]at E;refine Qm<|Qc ?_;exact Ql ⟨[_],La,V,Zy E hf.size,ou (UO lf D 0).2⟩
 refine Qh ?_;have G:k<D.length:=by have hm:(k:Int)<(D.length:Int):=Y;omega
 have ho:D.take (k+1)=D.take k++[D[k]'G]:=Ll G;have H:=jV lf (D[k]'G) (D.take k) 0;rw[<-ho,Ly,LX,Mf oa]at H;refine Zk (D[k]'G) λd hd=>?_;rw[hd]at H;refine Zk (VG lf 0 (D.take k)) λout hout=>?_;rw[hout]at H E hbl;have ha:k<lf.length:=oa
 have hp:lf[k]'ha=lf.getD k false:=by simp[oQ,ha]
 have hr:=hA.I V;refine Qd<|Qg<|Qm<|xii (i:=k) (hh.I I) U U G λhy hi=>?_;rw[hd]at hi;refine x (QD hi U)<|x Qk<|Qc<|Q3 (α:=Bool) [(16,26)] (λz=>[(26,.bool z)]) (λz w'=>w'=w2/\(z=true↔lf.getD k false=true/\d<0)) ol ?_ ?_
 ·refine Qw<|Qb<|Yb U<|Qs U hr.B U U<|Qb<|x (ZB (i:=k) U U oa)<|xB (b:=lf.getD k false) ((JS (i:=k) (hB.I V) U ha).D (by rw[hp])) (λhc=>?_) (λhc=>?_)
  ·refine Qb<|Qb<|QX U U<|QK U<|xe ?_;exact⟨_,La,U,by rw[hc];simp⟩
  refine Qb<|Qr<|Qr<|QK U<|xe ?_;exact⟨_,La,U,by rw[hc];simp⟩
 rintro z g w3 ⟨rfl,hz⟩;refine QW rfl (λJ=>?_) (λJ=>?_)
 ·rw[OS (hz.1 J)]at H;refine Qw<|Qb<|Qb<|Qb<|x (Qz ⟨U,U,U,U,Z⟩)<|Qa<|QB (us:=[rmC rk 3 ((k:Int),-1)]) U U og oe ⟨rfl,rfl,Z⟩ λh0 w4 he h1 hs =>
   Qa<|Za (m:=1) (news:=rmC rk 3 ((k:Int),-1)) (Qp E he) U U U (hs.at (L:=[]) oe) (by simp[Value.oneCell']) (by rw[Lh];omega) (ov I.size he.size) λht w5 hu hv h2=>Qc<|Qw<|QN U U<|Qb<|xe ?_
  refine⟨(k+1,ht),oh,oA,G,(I.D he).then hv (λb hb=>.inr (Qi E b hb).1),?_⟩;simp only[];rw[H,show blP (out++[(k:Int)])=blP out++[((k:Int),-1)] by simp];exact RmO.snoc hu
 rw[OR (λh=>by rw[hz.2 h]at J;cases J),LS]at H;refine Qh<|Qw<|QN U U<|Qb<|xe ?_;exact⟨(k+1,vo),oh,oA,G,I,by simp only[];rw[H];exact E⟩
def nxR (a:Zd)(ul:LI)(lf:Lf):Int×xt:=if(lost a ul lf).length≠0 then(2,lost a ul lf)else(3,blP (VG lf 0 (dsts a lf)))
theorem Qlb (a:Zd)(ul:LI)(lf:Lf):(nxR a ul lf).2.map (·.1)=nxs a ul lf:=by
 unfold nxR nxs;split
 ·rfl
 rw[Mh];exact List.map_id _
theorem QhX {q:Pz}(S:PzA [] w.heap bp q)(G:PzQ q)(T:Q7 w.heap q.bl 4 (lf.map Value.bool))(hl:lf.length=q.n)(rk:Int):
  Q5 prog 183 [.pointer (some ⟨bp,0,none⟩),oF oG rk,.bool true] w λr w'=>O3 [] w w'/\RmO w.heap.size w' r rk (nxR q.a q.unc lf).1 (nxR q.a q.unc lf).2/\(nxR q.a q.unc lf).2.length<=1000000:=by
 have ha:=(Qaz q.a q.unc lf).2;have hg:=G.ok.ed_le;have hn:=G.n;have hh:=G.ok.st1;have E:nxR q.a q.unc lf=if(lost q.a q.unc lf).length≠0 then(2,lost q.a q.unc lf)else(3,blP (VG lf 0 (dsts q.a lf))):=rfl
 refine Zk (nxR q.a q.unc lf) λNR hb=>?_;rw[hb]at E ⊢;refine Zs func183 ntmps183 results183 ?_;refine Qe<|Qc<|Qd<|Qm<|Qb<|Qa<|xf<|(QhY S G T hl rk).mono ?_;rintro r1 w1 ⟨H,J⟩;refine Zk (lost q.a q.unc lf) λL hL=>?_;rw[hL]at J E ha;refine Qc<|Q3 (α:=Bool) [(11,17)] (λz=>[(17,.bool z)]) (λz w'=>w'=w1/\(z=true↔L.length≠0)) ol ?_ ?_
 ·refine Qw<|Qb<|QL (L:=[]) (QH J oa oe) rfl<|xb (ZZ rfl rfl) (λO=>?_) (λO=>?_)
  ·refine Qb<|Qr<|Qr<|QK U<|xe ?_;exact⟨_,La,U,by have V:(0:Int)<(L.length:Int):=O;simp;intro e;subst e;simp at V⟩
  refine Qb<|Qb<|x (Zz U)<|QK U<|xe ?_;have V:¬(0:Int)<(L.length:Int):=O;have hc:L.length=0:=oa
  exact⟨_,La,U,by rw[hc];simp⟩
 rintro z g w2 ⟨rfl,Y⟩;refine QW rfl (λI=>?_) (λI=>?_)
 ·rw[OS (Y.1 I)]at E;refine Qm<|Qc ?_;subst E;exact Ql ⟨[_],La,H,J,by show L.length<=_;omega⟩
 rw[OR (λh=>by rw[Y.2 h]at I;cases I)]at E;refine Qh<|Qm<|Qb<|Qa<|xf<|(QbG (S.I H) G (T.I H) hl rk).mono ?_;rintro r3 w3 ⟨he,hf,hbl⟩;refine Qc ?_;subst E;exact Ql ⟨[_],La,H.D he,Zy hf H.size,by show(blP _).length<=_;rw[Lh];omega⟩
end Go.Lg
