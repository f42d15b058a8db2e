/- Merged out of 19 texts. -/
import Derived.Test.YtleldcnoenokmaaGreatDoorNce
import Derived.Test.YtleldcnoenokmaaGreatDoorRows
import Derived.JoinedOf
import Derived.Test.YtleldcnoenokmaaGreatDoorCards
import Derived.SevenTiedAt
set_option maxHeartbeats 40000000
set_option maxRecDepth 100000
set_option linter.all false
open Go Go.Lg
open Go.Value renaming int->oF
open Go.IntKind renaming i64->oG
open _root_.List renaming mem_singleton->oI,not_mem_nil->oJ,mem_cons->oK,length_append->oM,length_singleton->oO,length->oP,getD->oQ,all_cons->oR,range->oT,map_cons->oX,cons_append->Ob,map_append->Og,all_eq_true->Ol,map_nil->OI
open _root_.Bool renaming and_eq_true->oL,not_eq_true'->Oi
open _root_.Array renaming replicate->oW
open _root_.Nat renaming le_succ->OL
open Go renaming World->OZ,Value->O0,Operand->O1,Program->O2
open Go.Proofs Go.Proofs.Tryz
open Go.Proofs.YtleldcnoenokmaaGreatDoor
variable {w w':OZ}{L L' X ds:LN}{n t i sz b T j E N g o id ty cap b1 B kt hi b2 G M gp:Nat}{cs us news capt:LV}{H:xx}{a:Zd}{α β:Type}{y:O1}{z va ve vm v' vs vl vb vx vk:O0}{l u out rs:LI}{f f1:Fr}{c:ZG}{P:O2}{fn:Func}{q:DV}{s:Int}{es:List Ed}{d:xC}{af:xz}{gd:xo}{K:xu}{bf:List xH}{qs:List IV}{ops:xA}{rest:xp}{Φ:O0→OZ→Prop}{Dc:xq}
namespace Go.Lg
theorem Qje {TS:Nat}{u:UnV}{v1 v2 v3 J O H m vr vu:O0}(S:Q7 w.heap b TS [v1,v2,v3,J,O,H,m,vr,vu])(E:UnA L w.heap u)(T:b∈L):
  Q5 prog 97 [pS b,pS u.b1,pS u.b2] w λ_ w'=>O3 [b] w w'/\Q7 w'.heap b TS [u.s.c.ve,u.s.c.vc,u.s.c.vr,u.s.c.vx,u.s.c.vk,u.s.vp,m,vr,vu]:=by
 refine Zs func97 ntmps97 results97 ?_;have hbL:∀x∈[b],x∈L:=λx hx=>by rw[Lb.1 hx];exact T
 have hd:O3 [] w { w with drawn:=w.drawn+1 }:=O3.C _ _
 refine QR (O3 [b] w) [oD 0,oD 1,oD 2,oD 3,oD 4,oD 5,oE 6,oD 7,oD 8,oE 9] mixed ol od (O3.C _ _) ?_;refine p Qy<|p Qy<|pq (λ_ G=>Qv (us:=u.s.c.cells) (E.a1.st (G.mono hbL)) U U)<|pq (λ_ G=>QD (u:=u.s.vp) (E.a2.st (G.mono hbL)) U)<|p (YO U)<|p (QP U) <|
  pk<|YM (us:=u.s.c.cells) (cs':=[u.s.c.ve,u.s.c.vc,u.s.c.vr,u.s.c.vx,u.s.c.vk,H,m,vr,vu]) (S.I hd) U U U (MD U) E.s.c.ones U λw1 I V=>⟨hd.any.Q I,?_⟩
 refine p (YO U)<|p (QP U)<|pkl (hl:=by kernel_rfl)<|QA (u:=u.s.vp) V U U (MD U) E.s.p.arr.one λw2 Y ha =>
  pe ?_
 exact⟨[],Z,(hd.any.Q I).Q Y,ha⟩
theorem QbH {e:Nat}{v:O0}{g:α->LV}(E:∀x,(g x).length=sz){l:List α}{y:α}(h:w.ownsRow 0 e sz v (l++[y]).length ((l++[y]).flatMap g)):
  ∃b cap,v=.slice (some ⟨b,0,none⟩) (l.length+1) cap/\l.length+1<=cap/\b<w.heap.size/\∀(X:LN) (w':OZ),O3 X w w'->b∉X->w'.ownsRow 0 e sz (.slice (some ⟨b,0,none⟩) l.length cap) l.length (l.flatMap g):=by
 have G:(l++[y]).length=l.length+1:=oe
 rw[G]at h;rcases h.2 with⟨e1,e2⟩|⟨b,cap,cur,e1,T,H,V,Y⟩
 ·omega
 subst e1;obtain⟨I,cur,H,hl,J⟩:=Kt h;refine⟨b,cap,U,I,H.lt,λX w' O G=>Up h (OL _) (H.J O G) hl ?_ (xD E l)⟩;have S:(cur.take ((l.length+1)*sz)).take (l.length*sz)=cur.take (l.length*sz):=by rw[M1,Mf (LY _ (OL _))]
 rw[<-S,J,LA,MT (by rw[xD E l];exact Lx _),Ls (by rw[xD E l];exact Lx _)]
theorem Qmv {s:KI}(h:VO L w s)(hp:s.rs.length=s.us.length)(h3:s.us.length<=64):
  Q5 prog 42 [pS s.b] w λr w'=>(s.us=[]->r=oF oG 12/\O3 [] w w') /\
   (s.us≠[]->r=oF oG 0/\∃s':KI,s'.b=s.b/\s'.sys=unS s.sys/\O3 s.own w w'/\VO L w' s'/\∀b∈s'.own,b∈s.own):=by
 obtain⟨TS,hB⟩:=h.blk;have hh:Zv [] w.heap s.vu s.us.length 1 (s.us.map KZ):=QH h.ru oa oe;refine Zs func42 ntmps42 results42 ?_;refine Qe<|Qc<|Qd<|Qm<|x (XX underlying46 U U)<|xe<|ZO rfl ?_;refine Qh<|Qm<|Yb U<|Qs U hB U U<|QL hh U<|Qc<|Qd<|Qm<|x (Q9 U U)<|xe<|QZ rfl (λha=>?_) (λha=>?_)
 ·have hz:s.us=[]:=List.length_eq_zero_iff.1 (by have h4:(s.us.length:Int)=0:=ha;omega);refine Qe<|Qc ?_;exact Ql ⟨[oF oG 12],La,λ_=>⟨U,O3.Z _ _⟩,λhn=>OU hz hn⟩
 have V:s.us≠[]:=λe=>ha (by rw[e];rfl);refine Qh ?_;have he:s.rs≠[]:=λe=>V (List.length_eq_zero_iff.1 (by rw[<-hp,e];rfl));have J:s.us=s.us.dropLast++[s.us.getLast V]:=(List.dropLast_concat_getLast V).symm;have Y:s.rs=s.rs.dropLast++[s.rs.getLast he]:=(List.dropLast_concat_getLast he).symm;refine Zk s.us.dropLast λG hq=>Zk (s.us.getLast V) λu hr=>Zk s.rs.dropLast λH hs=>Zk (s.rs.getLast he) λq ht=>?_;rw[hq,hr]at J;rw[hs,ht]at Y;have h5:s.us.length=G.length+1:=by rw[J];simp
 have h6:s.rs.length=H.length+1:=by rw[Y];simp
 have O:=QbH (g:=λu=>[KZ u]) (λ_=>U) (l:=G) (y:=u) (by rw[<-List.map_eq_flatMap,<-J];exact h.ru);have S:=QbH Qaj (l:=H) (y:=q) (by rw[<-Y];exact h.rr);refine Exists.elim O λgu O=>Exists.elim O λcu O=>Exists.elim S λgr S=>Exists.elim S λcr S=>?_;have evu:=O.1;have evr:=S.1;have hi:(s.us.length:Int) - 1=((G.length:Nat):Int):=oa
 have hu:(s.us.length:Int) - 1=((H.length:Nat):Int):=oa
 have eu:((s.us.map KZ).drop (G.length*1)).take 1=[KZ u]:=by rw[J];simp
 have mu:u∈s.us:=by rw[J];simp
 have msb:s.b∈s.own:=Lt;have mgu:gu∈ob s.vu:=by rw[evu];simp[ob]
 have mgr:gr∈ob s.vr:=by rw[evr];simp[ob]
 refine Qm<|Yb U<|Qs U hB U U<|Qb<|x (Jb U U ⟨oa,oa⟩)<|xi (i:=G.length) hh U (show Go.Lg.ev _ _=_ from OT (Value.int .i64) hi) oa λh7 hj=>?_;rw[eu]at hj;refine x (QD hj U)<|Qb<|Qa<|xc (first:=[]) (capt:=[pS u.b1,pS u.b2]) U<|(Qje hB (h.uA u mu) (h.sub _ msb)).mono ?_;rintro r1 w1 ⟨hv,hf⟩;refine xe<|Qd<|QR (O3 [] w1) [oD 0,oD 1,oD 2,oD 3,oD 4,oD 5,oD 6,oD 7,oD 8,oD 9,oD 10,oD 11,oD 12,oD 13,oD 14,oD 15,oD 16,oD 17,oE 18,oD 19,oD 20,oE 21] mixed ol od (O3.C _ _) ?_;have hd:O3 [] w1 { w1 with drawn:=w1.drawn+1 }:=O3.C _ _
 refine p Qy<|p Qy<|p Qy<|p (YO U)<|p (QP U)<|pq (λ_ hc=>Qq (hf.I hc) U U) <|
  p Qy<|p (λ_=>Jb U U ⟨oa,oa⟩)<|p (λ_=>Jq (n:=G.length+1) (b:=gu) (cap:=cu) (hi:=G.length) evu (show Go.Lg.ev _ _=_ from OT (Value.int .i64) hi) (ou O.2.1))<|p Qy<|p (YO U) <|
  p (QP rfl)<|pq (λ_ hc=>Qq (hf.I hc) U U)<|p Qy<|p (λ_=>Jb U U ⟨oa,oa⟩)<|p (λ_=>Jq (n:=H.length+1) (b:=gr) (cap:=cr) (hi:=H.length) evr (show Go.Lg.ev _ _=_ from OT (Value.int .i64) hu) (ou S.2.1)) <|
  p (YO rfl)<|p (QP U)<|pkl (hl:=by kernel_rfl)<|QA (u:=.slice (some ⟨gu,0,none⟩) G.length cu) (hf.I hd) U U (MD U) U λw2 hw hy=>p (YO U) <|
  p (QP rfl)<|pkl (hl:=by kernel_rfl)<|QA (u:=.slice (some ⟨gr,0,none⟩) H.length cr) hy U U (MD U) U λw3 h0 h1=>pe ?_
 refine Qe<|Qc ?_;have T:O3 [s.b] w w3:=((hv.D hd).Q hw).Q h0;have hk:gu∉[s.b]:=λI=>h.d2 (Lb.1 I ▸ mgu);have ho:gr∉[s.b]:=λI=>h.d1 (Lb.1 I ▸ mgr);have hg:∀b∈[s.b],b∈L:=λb E=>by rw[Lb.1 E];exact h.sub _ msb
 have h2:∀b∈[s.b],b∈s.own:=λb E=>by rw[Lb.1 E];exact msb
 have own':∀b∈(⟨s.b,u.s,s.made,.slice (some ⟨gr,0,none⟩) H.length cr,H,.slice (some ⟨gu,0,none⟩) G.length cu,G⟩:KI).own,b∈s.own:=λb E=>by
  rcases Li.1 E with rfl|E
  ·exact msb
  rcases Lc.1 E with E|E
  ·rw[Lb.1 (show b∈[gr] from E)];exact Lk _ (Lc.2 (.inl mgr))
  rw[Lb.1 (show b∈[gu] from E)];exact Lk _ (Lc.2 (.inr mgu))
 refine Ql ⟨[oF oG 0],La,λe=>OU e V,λ_=>⟨U,⟨s.b,u.s,s.made,.slice (some ⟨gr,0,none⟩) H.length cr,H,.slice (some ⟨gu,0,none⟩) G.length cu,G⟩,U,?_,T.mono h2,⟨⟨TS,h1⟩,S.2.2.2 _ _ T ho,?_,λI=>ho (Lb.2 (Lb.1 (show s.b∈[gr] from I)).symm),λI=>hk (Lb.2 (Lb.1 (show s.b∈[gu] from I)).symm),λb E I=>?_,λb E=>h.sub b (own' b E),Mm.st (h.uA u mu).s (T.mono hg),λd hd=>Mm.st (h.rA d (by rw[Y];exact Lc.2 (.inl hd))) (T.mono hg),λd hd=>Mm.st (h.uA d (by rw[J];exact Lc.2 (.inl hd))) (T.mono hg)⟩,own'⟩⟩
 ·show KI.sys _=_;unfold KI.sys unS;rw[J,Y];simp only[Og,oX,OI,List.dropLast_concat,List.getLastD_concat];rfl
 ·have:=O.2.2.2 _ _ T hk;rw[<-List.map_eq_flatMap]at this;exact this
 rw[Lb.1 (show b∈[gr] from E)]at I;exact h.d3 gr mgr (by rw[Lb.1 (show gr∈[gu] from I)];exact mgu)
structure Xq (k:Nat)(s:Sys):Prop where
 st:Qj1 s.c s.ps
 un:∀u∈s.un,Qj1 u.1 u.2
 ln:s.rs.length=s.un.length
 l64:s.un.length<=64
 m0:0<=s.made
 m1:s.made<=(k:Int)*1000
theorem jW {v:Int}(h:X9 c bf v=0):(Xs c bf v).made.length<=96:=by
 obtain⟨E,G⟩:=QjS h;have e:(Xs c bf v).made=((O7 c).filter λm=>!(Kj c bf v m).2.2).map (ZM c):=by unfold Xs;rw[Qfm G]
 rw[e,Lh];exact LJ (Ma _ _) (Uu (Z5 E).sr)
theorem QnF (h:K6 c=0):(YK c).1=0/\Zm c=0/\X9 c [] 0=0:=by
 unfold K6 at h;by_cases E:(YK c).1≠0
 ·rw[OS E]at h;exact OU h E
 rw[OR E]at h;by_cases G:Zm c≠0
 ·rw[OS G]at h;exact OU h G
 rw[OR G]at h;exact⟨Lo.1 E,Lo.1 G,h⟩
theorem Xq.new (h:K6 c=0):Xq 1 (Qdf c):=by
 have E:=(QnF h).2.2;have I:=jW E;exact⟨QjQ (λp G=>(by cases G)) E,λu H=>(by cases H),rfl,Ln _,(by show(0:Int)<=((Xs c [] 0).made.length:Int);omega),(by show((Xs c [] 0).made.length:Int)<=_;omega)⟩
theorem QpJ {s:Sys}{es:List (Bool×Ys)}(h:edE s es=0):es.length≠0/\s.un.length≠64/\(qF s.c es).1=0/\X9 (qF s.c es).2 s.ps ((s.un.length:Int)+1)=0:=by
 unfold edE at h;by_cases G:es.length=0
 ·rw[OS G]at h;cases h
 rw[OR G]at h;by_cases H:s.un.length=64
 ·rw[OS H]at h;cases h
 rw[OR H]at h;by_cases E:(qF s.c es).1≠0
 ·rw[OS E]at h;exact OU h E
 rw[OR E]at h;exact⟨G,H,Lo.1 E,h⟩
theorem Xq.edit {k:Nat}{s:Sys}{es:List (Bool×Ys)}(E:Xq k s)(h:edE s es=0):Xq (k+1) (edS s es):=by
 obtain⟨J,O,S,H⟩:=QpJ h;have T:=jW H;have hl:=E.l64;have I:=E.ln;have V:=E.m0;have a1:=E.m1;refine⟨QjQ E.st.ok H,λu G=>?_,?_,?_,?_,?_⟩
 ·rcases Lc.1 G with G|G
  ·exact E.un u G
  rw[Lb.1 G];exact E.st
 ·show(s.rs++[_]).length=(s.un++[_]).length;simp[I]
 ·show(s.un++[_]).length<=64;simp;omega
 ·show(0:Int)<=s.made+((Xs _ _ _).made.length:Int);omega
 show s.made+((Xs _ _ _).made.length:Int)<=_;omega
theorem Xq.undo {k:Nat}{s:Sys}(E:Xq k s)(h:s.un≠[]):Xq k (unS s):=by
 have e:s.un.getLastD (s.c,s.ps)=s.un.getLast h:=by
  conv=>lhs;rw[<-List.dropLast_concat_getLast h]
  exact List.getLastD_concat
 refine⟨?_,λu G=>E.un u (List.dropLast_subset _ G),?_,?_,E.m0,E.m1⟩
 ·show Qj1 (s.un.getLastD (s.c,s.ps)).1 (s.un.getLastD (s.c,s.ps)).2;rw[e];exact E.un _ (List.getLast_mem h)
 ·show s.rs.dropLast.length=s.un.dropLast.length;rw[List.length_dropLast,List.length_dropLast,E.ln]
 show s.un.dropLast.length<=64;rw[List.length_dropLast];have:=E.l64;omega
theorem Xq.len {k:Nat}{s:KI}(h:Xq k s.sys):s.rs.length=s.us.length/\s.us.length<=64/\s.s.ps.length<=1000:=by
 have e1:s.sys.rs.length=s.rs.length:=Lh _;have e2:s.sys.un.length=s.us.length:=Lh _;have G:s.sys.ps.length=s.s.ps.length:=Lh _;have E:=OT oP h.st.ky;rw[Lh,Lh]at E;have:=Uu (Z5 h.st.ck).sr;exact⟨by rw[<-e1,<-e2];exact h.ln,by rw[<-e2];exact h.l64,oa⟩
theorem Qbt {k:Nat}{L2:LN}{s:KI}{xs:List Xt}(h:VO L w s)(G:Xq k s.sys)(Y:k<=1000)(I:∀b∈L,b<w.heap.size)(hx:Qd3 L2 w.heap vl xs)(J:∀e∈xs.map Xt.e,ShI e.2)(O:Kb w 4096):
  Q5 prog 40 [pS s.b,vl] w λr w'=>∃qr:UQ,r=.tuple #[.agg (Zr qr).toArray,oF oG (edE s.sys (xs.map Xt.e))]/\(∀N:LN,(∀b∈N,b<w.heap.size)->KO N w'.heap qr)/\(edE s.sys (xs.map Xt.e)≠0->O3 [] w w'/\qr.rp=⟨[],[],[]⟩) /\
   (edE s.sys (xs.map Xt.e)=0->qr.rp=Xs (qF s.sys.c (xs.map Xt.e)).2 s.sys.ps ((s.sys.un.length:Int)+1)/\∃E:KI,E.b=s.b/\E.sys=edS s.sys (xs.map Xt.e)/\Xq (k+1) E.sys/\O3 s.own w w'/\VO (E.own++L) w' E/\∀b∈E.own,b∈s.own\/w.heap.size<=b):=by
 have hl:=G.len;have m0:0<=s.made:=G.m0;have m1:s.made<=(k:Int)*1000:=G.m1;refine(QmC h I hx J G.st hl.2.2 ⟨m0,oa⟩ oa hl.2.1 O).mono ?_;rintro r w' ⟨qr,e1,e2,S,T⟩;refine⟨qr,e1,e2,S,λH=>?_⟩;obtain⟨f1,E,f2,f3,f4,f5,f6⟩:=T H;have V:s.sys.un.length=s.us.length:=Lh _;exact⟨by rw[f1,V];rfl,E,f2,f3,by rw[f3];exact G.edit H,f4,f5,f6⟩
theorem Qbp {k:Nat}{s:KI}(h:VO L w s)(H:Xq k s.sys):
  Q5 prog 42 [pS s.b] w λr w'=>(s.sys.un=[]->r=oF oG 12/\O3 [] w w') /\
   (s.sys.un≠[]->r=oF oG 0/\∃E:KI,E.b=s.b/\E.sys=unS s.sys/\Xq k E.sys/\O3 s.own w w'/\VO L w' E/\∀b∈E.own,b∈s.own):=by
 have hl:=H.len;refine(Qmv h hl.1 hl.2.1).mono ?_;rintro r w' ⟨e1,e2⟩;refine⟨λG=>e1 (List.map_eq_nil_iff.1 G),λG=>?_⟩;obtain⟨f1,E,f2,f3,f4,f5,f6⟩:=e2 λe=>G (by show s.us.map _=[];rw[e];rfl);exact⟨f1,E,f2,f3,by rw[f3];exact H.undo G,f4,f5,f6⟩
theorem QkT {c:CL}(G:ZF L w.heap c)(H:CSz c.V)(I:Kb w 4096)(hE:K6 c.V=0):
  Q5 prog 7 [c.val] w λr w'=>O3 [] w w'/\∃s:KI,r=.tuple #[pS s.b,oF oG 0]/\s.sys=Qdf c.V/\Xq 1 s.sys/\(∀b∈s.own,w.heap.size<=b)/\VO (s.own++oT w.heap.size) w' s:=by
 refine(QdX G H I).mono ?_;rintro r w' ⟨J,vp,e1,_,O⟩;obtain⟨s,S,E,T,V⟩:=O hE;exact⟨J,s,by rw[e1,S,hE],E,by rw[E];exact Xq.new hE,T,V⟩
theorem QeH (k:Ky):(Xa k).length=2:=rfl
theorem XZ {v:O0}{l:List Ky}(h:Kys L w.heap v l)(J:Kys L' w.heap v' l):
  Q5 prog 41 [v,v'] w λr w'=>r=.bool true/\O3 [] w w':=by
 have hb:=h.le;refine Zs func41 ntmps41 results41 ?_;refine Qe<|Qc<|Qd<|Qm<|QL h U<|Qb<|QL J U<|ZA U U<|xe<|QZ rfl (λO=>OU U O) (λO=>?_);refine Qh<|Qd<|Qe<|Qc<|Qg<|QC (α:=Nat) [(4,5),(11,25)] (λk=>[(5,oF oG k)]) (λk w'=>O3 [] w w'/\k<=l.length) (λk=>l.length - k) ol 0 La ⟨O3.Z _ _,Ln _⟩ ?_;rintro k g G ⟨H,hk⟩;have S:Kys L G.heap v l:=h.I H;have V:Kys L' G.heap v' l:=J.I H;refine Qd<|Qm<|Qb<|QL S U<|QX U U<|xe<|QG rfl (λT=>?_) (λT=>?_)
 ·refine Qx<|Qe<|Qc ?_;exact Ql ⟨[.bool true],La,U,H⟩
 have E:k<l.length:=by have he:(k:Int)<(l.length:Int):=T;omega
 refine Qh<|Qd<|Qg<|Qd<|QR (O3 [] G) [oD 0,oD 1,oD 2,oD 3,oD 4,oD 5,oD 6,oD 7,oD 8] mixed ol od (O3.C _ _) ?_;refine p Qy<|p Qy<|Lg.pig (g:=Xa) (i:=k) U QeH S U U E λhf Y=>pq (λ_ I=>Qv (Y.I I) U U) <|
  p Qy<|p Qy<|Lg.pig (g:=Xa) (i:=k) U QeH V U U E λhg ha=>pq (λ_ I=>Qv (ha.I I) U U)<|p (λ_=>K2 (xs:=Xa (l[k]'E)) (ys:=Xa (l[k]'E)) U U U)<|pe ?_
 refine ZO (show Go.Lg.ev _ _=_ from OT (λb=>Value.bool (!b)) ((QaB (l[k]'E) (l[k]'E)).D (OV U))) ?_;refine Qh<|Qw<|Qb<|QN U U<|Qc ?_;exact⟨k+1,oa,La,H.D (O3.C [] G),oa⟩
theorem jh {v:O0}(h:QQ L w.heap v l)(I:QQ L' w.heap v' l):
  Q5 prog 122 [v,v'] w λr w'=>r=.bool true/\O3 [] w w':=by
 have he:=h.le;refine Zs func122 ntmps122 results122 ?_;refine Qe<|Qc<|Qd<|Qm<|QL h U<|Qb<|QL I U<|ZA U U<|xe<|QZ rfl (λJ=>OU U J) (λJ=>?_);refine Qh<|Qd<|Qe<|Qc<|Qg<|QC (α:=Nat) [(4,5),(11,25)] (λk=>[(5,oF oG k)]) (λk w'=>O3 [] w w'/\k<=l.length) (λk=>l.length - k) ol 0 La ⟨O3.Z _ _,Ln _⟩ ?_;rintro k g E ⟨G,hk⟩;have O:QQ L E.heap v l:=h.I G;have Y:QQ L' E.heap v' l:=I.I G;refine Qd<|Qm<|Qb<|QL O U<|QX U U<|xe<|QG rfl (λS=>?_) (λS=>?_)
 ·refine Qx<|Qe<|Qc ?_;exact Ql ⟨[.bool true],La,U,G⟩
 have T:k<l.length:=by have hf:(k:Int)<(l.length:Int):=S;omega
 refine Qh<|Qd<|Qg<|Qd<|QR (O3 [] E) [oD 0,oD 1,oD 2,oD 3,oD 4,oD 5,oD 6,oD 7,oD 8] mixed ol od (O3.C _ _) ?_;refine p Qy<|p Qy<|pii U O U U T λhg ha=>pq (λ_ H=>QD (ha.I H) U) <|
  p Qy<|p Qy<|pii U Y U U T λhh hb=>pq (λ_ H=>QD (hb.I H) U)<|p (λ_=>Jc U U)<|pe ?_
 refine QZ rfl (λV=>OU U V) (λV=>?_);refine Qh<|Qw<|Qb<|QN U U<|Qc ?_;exact⟨k+1,oa,La,G.D (O3.C [] E),oa⟩
theorem yF {a b:UQ}(h:KO L w.heap a)(I:KO L' w.heap b)(e:a.rp=b.rp):
  Q5 prog 33 [.agg (Zr a).toArray,.agg (Zr b).toArray] w λr w'=>r=.bool true/\O3 [] w w':=by
 obtain⟨a1,k1,a2,k2,a3,k3⟩:=a;obtain⟨b1,j1,b2,j2,V,j3⟩:=b;cases e
 refine Zs func33 ntmps33 results33 ?_;refine Qe<|Qa<|QS (us:=[a1,a2,a3]) U λhc w1 Y he ha=>Qa<|QS (us:=[b1,b2,V]) U λhf w2 T hg J=>Qc ?_;have E:=Y.D T;have O:=ha.I T;refine Q3 (α:=Unit) [(4,23)] (λz=>[(4,.bool true)]) (λz w'=>O3 [] w2 w') ol ?_ ?_
 ·refine Qw<|Qs U O U U<|Qs U J U U<|Qa<|xf<|(XZ (h.a1.I E) (I.a1.I E)).mono ?_;rintro r3 w3 ⟨rfl,G⟩;refine Qb<|Qs U (O.I G) U U<|Qs U (J.I G) U U<|Qa<|xf<|(XZ ((h.a2.I E).I G) ((I.a2.I E).I G)).mono ?_;rintro r4 w4 ⟨rfl,hb⟩;have H:=G.D hb;refine QK U<|Qb<|Qs U (O.I H) U U<|Qs U (J.I H) U U<|Qa<|xf<|(XZ ((h.a3.I E).I H) ((I.a3.I E).I H)).mono ?_;rintro r5 w5 ⟨rfl,S⟩;refine QK U<|Qc ?_;exact⟨(),La,H.D S⟩
 rintro⟨⟩ g5 w5 S;exact Ql ⟨[.bool true],La,U,E.D S⟩
abbrev Vx (q:EnV):LV:=[q.vk,q.vd,q.vm]
theorem Qbo {a b:EnV}(h:qW L w.heap a)(J:qW L' w.heap b)(e1:a.kp=b.kp)(e2:a.ds=b.ds)(e3:a.rm=b.rm):
  Q5 prog 80 [.agg (Vx a).toArray,.agg (Vx b).toArray] w λr w'=>r=.bool true/\O3 [] w w':=by
 have hk:=h.k;have hd:=h.d;have O:=h.r;rw[e1]at hk;rw[e2]at hd;rw[e3]at O;have hu:=O.le;refine Zs func80 ntmps80 results80 ?_;refine Qe<|Qa<|QS (us:=Vx a) U λb2 w1 hl hv hm=>Qa<|QS (us:=Vx b) U λb3 w2 hb hw S=>Qc ?_;have E:=hl.D hb;have T:=hm.I hb;refine Qd<|Q3 (α:=Unit) [(6,28)] (λz=>[(28,.bool false)]) (λz w'=>O3 [] w2 w') ol ?_ ?_
 ·refine Qw<|Qs U T U U<|Qs U S U U<|Qa<|xf<|(jh (hk.I E) (J.k.I E)).mono ?_;rintro r3 w3 ⟨rfl,H⟩;refine xB (Zz U) (λhe=>OU he oe) (λhe=>?_);refine Qb<|Qs U (T.I H) U U<|Qs U (S.I H) U U<|Qa<|xf<|(jh ((hd.I E).I H) ((J.d.I E).I H)).mono ?_;rintro r4 w4 ⟨rfl,hn⟩;have I:=H.D hn;refine xB (Zz U) (λhf=>OU hf oe) (λhf=>?_);refine QK U<|Qb<|Qs U (T.I I) U U<|QL ((O.I E).I I) U<|Q0 U<|x (Qq (S.I I) U U) <|
   QL ((J.r.I E).I I) U<|ZA U U<|QK U<|xe ?_
  exact⟨(),⟨OT Value.bool (OX λh=>h U),Z⟩,I⟩
 rintro⟨⟩ g5 w5 hg;refine ZO rfl ?_;refine Qh ?_;have ho:=E.D hg;refine Qd<|Qe<|Qc<|Qg<|QC (α:=Nat) [(4,5),(29,46)] (λk=>[(5,oF oG k)]) (λk w'=>O3 [] w5 w'/\k<=b.rm.length) (λk=>b.rm.length - k) ol 0 La ⟨O3.Z _ _,Ln _⟩ ?_;rintro k g w6 ⟨Y,hy⟩;have hh:=hg.D Y;have ha:=ho.D Y;have h1:=O.I ha;have hp:=J.r.I ha;have hi:=T.I hh;have hq:=S.I hh;refine Qd<|Qm<|Qs U hi U U<|QL h1 U<|QX U U<|xe<|QG rfl (λhj=>?_) (λhj=>?_)
 ·refine Qx<|Qe<|Qc ?_;exact Ql ⟨[.bool true],La,U,ha⟩
 have V:k<b.rm.length:=by have hz:(k:Int)<(b.rm.length:Int):=hj;omega
 refine Qh<|Qd<|Qg<|Qd<|QR (O3 [] w6) [oD 0,oD 1,oD 2,oD 3,oD 4,oD 5,oD 6,oD 7,oD 8,oD 9,oD 10] mixed ol od (O3.C _ _) ?_;refine p (QP U)<|pq (λ_ G=>Qq (hi.I G) U U)<|p Qy<|Lg.pig (g:=q4C) (i:=k) U QhS h1 U U V λh0 hs=>pq (λ_ G=>Qv (hs.I G) U U) <|
  p (QP rfl)<|pq (λ_ G=>Qq (hq.I G) U U)<|p Qy<|Lg.pig (g:=q4C) (i:=k) U QhS hp U U V λh2 ht=>pq (λ_ G=>Qv (ht.I G) U U)<|p (λ_=>K2 (xs:=q4C b.rm[k]) (ys:=q4C b.rm[k]) U U U)<|pe ?_
 refine ZO (show Go.Lg.ev _ _=_ from OT (λb=>Value.bool (!b)) ((Qns (b.rm[k]'V) (b.rm[k]'V)).D (OV U))) ?_;refine Qh<|Qw<|Qb<|QN U U<|Qc ?_;exact⟨k+1,oa,La,Y.D (O3.C [] w6),oa⟩
theorem Qag {a b:EnV}(h:qW L w.heap a)(J:qW L' w.heap b)(e:a.en=b.en):
  Q5 prog 32 [.agg (ZR a).toArray,.agg (ZR b).toArray] w λr w'=>r=.bool true/\O3 [] w w':=by
 have ek:a.ky=b.ky:=OT Ent.ky e;have es:a.p.a=b.p.a:=OT Ent.sp e;have O:=h.a;rw[es]at O;refine Zs func32 ntmps32 results32 ?_;refine Qe<|Qa<|QS (us:=ZR a) U λb2 w1 V hc Y=>Qa<|QS (us:=ZR b) U λb3 w2 S he H=>Qc ?_;have E:=V.D S;have I:=Y.I S;refine Q3 (α:=Unit) [(4,23)] (λz=>[(4,.bool true)]) (λz w'=>O3 [] w2 w') ol ?_ ?_
 ·refine Qw<|Q0 U<|x (Zl (us:=Xa a.ky) I U U U)<|Q0 U<|x (Zl (us:=Xa b.ky) H U U U)<|xB (QbB (xs:=Xa a.ky) (ys:=Xa b.ky) U U U) (λT=>?_) (λT=>OU T (by rw[QaB,OV ek];simp));refine Qb<|Q0 U<|x (Zl (us:=[a.p.va,oF oG a.p.a.st,a.p.vm,a.p.ve]) I U U U)<|Q0 U<|x (Zl (us:=[b.p.va,oF oG b.p.a.st,b.p.vm,b.p.ve]) H U U U)<|Qa<|xf ?_;rw[es];refine(Qd1 (O.I E) (J.a.I E)).mono ?_;rintro r3 w3 ⟨rfl,G⟩;refine QK U<|Qb<|Q0 U<|x (Zl (us:=Vx a) (I.I G) U U U)<|Q0 U<|x (Zl (us:=Vx b) (H.I G) U U U)<|Qa<|xf<|(Qbo ((h.I E).I G) ((J.I E).I G) (OT Ent.kp e) (OT Ent.ds e) (OT Ent.rm e)).mono ?_;rintro r4 w4 ⟨rfl,ha⟩;refine QK U<|Qc ?_;exact⟨(),La,G.D ha⟩
 rintro⟨⟩ g5 w5 hb;exact Ql ⟨[.bool true],La,U,E.D hb⟩
open Go.RowKit
def qT (P:O2)(all:xA)(K:LN->Fr->OZ->Prop):xp->xw->LN->Fr->OZ->Prop
 | [],_,own,f,w=>K own f w
 | (j,true)::l,C,own,f,w=>Z4 all f (QV all j)=true/\∃v,(∀w',(U0 (QV all j)=true->C w')->(execOp (ev f) (QV all j)).run P w'=.ok (.value v) w')/\qT P all K l C own (QY f (QV all j).dst v) w
 | (j,false)::l,C,own,f,w=>Z4 all f (QV all j)=true/\∀w1,O3 [] w w1->C w1->XO P (QV all j) f w1 λE w'=>∃C':xw,(∀x,C' x->C x)/\(∀x x',C' x->O3 [] x x'->C' x')/\C' w'/\∃own',O3 own w1 w'/\(∀b∈own',b∈own\/(w1.heap.size<=b/\b<w'.heap.size))/\qT P all K l C' own' E w'
section
variable {all:xA}{C C0:xw}{KF:LN->Fr->OZ->Prop}
theorem qT.I (hK:∀own f w w',KF own f w->O3 [] w w'->KF own f w'):∀{l:xp}{C:xw}{own:LN}{f:Fr}{w w':OZ},qT P all KF l C own f w->O3 [] w w'->qT P all KF l C own f w'
 | [],_,_,_,_,_,h,E=>hK _ _ _ _ h E
 | (_,true)::_,_,_,_,_,_,h,E=>by
  obtain⟨G,v,H,hx⟩:=h;exact⟨G,v,H,qT.I hK hx E⟩
 | (_,false)::_,_,_,_,_,_,h,E=>⟨h.1,λI J O=>h.2 I (E.D J) O⟩
attribute [local semireducible] XA XO in
theorem XA.sub {C':xw}(G:∀x,C' x->C x):∀(k:Nat) (ls:Array Bool) (f:Fr) (w:OZ),XA P all C' K k ls f w->XA P all C K k ls f w
 | 0,_,_,_,h=>h
 | k+1,ls,f,w,h=>by
  refine⟨h.1,λi hi o I=>?_⟩;have E:=h.2 i hi o I;cases H:Z4 all f o with
  | false=>rw[H]at E;exact XA.sub G k _ _ _ E
  | true =>
   rw[H]at E;exact XO.mono (λJ w' hx=>⟨hx.1.imp id (Or.imp id (G w')),XA.sub G k _ _ _ hx.2⟩) E
structure Fl3 (P:O2)(all:xA)(C0:xw)(K:xu)(KF:LN->Fr->OZ->Prop)(i d:Nat)(rest:xp)(Φ:O0->OZ->Prop)(Dc:xq)(f1:Fr):Prop where
 stab:∀v (own:LN) w w',Φ v w->O3 own w w'->(∀b∈ow v,b∉own)->Φ v w'
 spec:∀f w,(∀t,Xd Dc t=false->f t=f1 t)->C0 w->XO P (QV all i) f w λf' w'=>O3 [] w w'/\Φ (f' d) w'/\∀b∈ow (f' d),w.heap.size<=b/\b<w'.heap.size
 fin:∀own f w,KF own f w->∀v (C:xw),C w->(∀x,C x->C0 x)->Φ v w->(∀b∈ow v,b∉own/\b<w.heap.size)->XP P all C K rest (QY f (some d) v) w
 mono:∀own f w w',KF own f w->O3 [] w w'->KF own f w'
theorem jn:∀(l:xA) (j:Nat),l[j]?=none->QV l j=default
 | [],_,_=>rfl
 | _::l,0,h=>by simp at h
 | _::l,j+1,h=>jn l j (oz h)
theorem QbJ (G:Region.noSelect all.toArray=true)(j:Nat):∀cs b,(QV all j).op≠.select cs b:=by
 intro cs b;cases E:all[j]? with
 | none=>rw[jn all j E];intro e;cases e
 | some o=>rw[Zq E];exact Region.noSelect_spec G j o cs b (oz E)
theorem QdR {i d:Nat}{rest:xp}{Φ:O0->OZ->Prop}{Dc:xq}{f1:Fr}(hF:Fl3 P all C0 K KF i d rest Φ Dc f1)(J:Region.noSelect all.toArray=true){v:O0}:∀(l:xp) (C:xw) (own:LN) (ls:Array Bool) (f:Fr) (w:OZ),(∀x,C x->C0 x)->(∀x x',C x->O3 [] x x'->C x')->ls.size=all.length->ZP all d l=true->qT P all KF l C own f w->C w->Φ v w ->
  (∀b∈ow v,b∉own/\b<w.heap.size)->Y9 all.toArray (l++rest) ls=true->XA P all C K (l++rest).length ls (QY f (some d) v) w
 | [],C,own,ls,f,w,O,hh,S,_,h,H,T,E,I=>ZN J rest ls _ w S (.inl H) I (hF.fin own f w h v C H O T E)
 | (j,true)::l,C,own,ls,f,w,O,hh,S,hfr,h,H,T,E,I=>by
  simp only[ZP,oR,oL,Oi,List.contains_eq_mem,decide_eq_false_iff_not,beq_eq_false_iff_ne,ne_eq]at hfr;obtain⟨⟨h1,h2⟩,hfr⟩:=hfr;have hi:ZP all d l=true:=by simpa[ZP]using hfr
  have hd:∀e,some d=some e->e∉(QV all j).looksAt all.toArray:=λe V=>by cases V;exact h1
  simp only[Ob,Y9,oL]at I;obtain⟨⟨Y,hf⟩,hl⟩:=I;have hw:j∈Region.ready .any all.toArray ls:=by simpa using Y
  obtain⟨hg,u,hu,hx⟩:=h;cases G:all[j]? with
  | none =>
   exfalso;obtain⟨_,o,h6,_⟩:=mem_ready.1 hw;simp[G]at h6
  | some o =>
   have h7:∀(j:Nat) (o:Oper) cs b,all[j]?=some o->o.op≠.select cs b:=λj o cs b hj=>Region.noSelect_spec J j o cs b (oz hj);have h8:=λk ok hk=>Region.free_spec (ops:=all.toArray) (md:=.any) (i:=j) (oi:=o) (listed:=ls) (oz G) hf k ok (oz hk);have hn:Z4 all (QY f (some d) v) o=true:=by
    have:=X3 (QV all j) f (some d) v hd;rw[Zq G]at this hg;rw[this];exact hg
   have h9:∀w',(U0 o=true->C w')->(execOp (ev (QY f (some d) v)) o).run P w'=.ok (.value u) w':=λw' hc=>by
    have:=Xo (all:=all) (QbJ J j) f (some d) v hd;rw[Zq G]at this hu;rw[this];exact hu w' hc
   have hy:=QdR hF J l C own (ls.setIfInBounds j true) _ w O hh (oz S) hi hx H T E hl;rw[<-J7 f v u (λe V=>by cases V;exact h2),Zq G]at hy;exact Xe (v:=u) (D:=λw=>U0 o=true->C w) G (λ_ h=>h) h7 _ ls _ w (λ_=>H) h8 hw (.inl ⟨hn,h9⟩) hy
 | (j,false)::l,C,own,ls,f,w,O,hh,S,hfr,h,H,T,E,I=>by
  simp only[ZP,oR,oL,Oi,List.contains_eq_mem,decide_eq_false_iff_not,beq_eq_false_iff_ne,ne_eq]at hfr;obtain⟨⟨h1,h2⟩,hfr⟩:=hfr;have hi:ZP all d l=true:=by simpa[ZP]using hfr
  have hd:∀e,some d=some e->e∉(QV all j).looksAt all.toArray:=λe V=>by cases V;exact h1
  simp only[Ob,Y9,oL,beq_iff_eq]at I;obtain⟨Y,hl⟩:=I;show XA P all C K ((l++rest).length+1) ls _ w;refine XC (λh0=>(by rw[h0]at Y;cases Y)) ?_;rw[Y];intro k hk o G;have hA:k=j:=by simpa using hk
  subst hA;have hq:=Zq G;have hn:Z4 all (QY f (some d) v) o=true:=by
   have:=X3 (QV all k) f (some d) v hd;rw[hq]at this;rw[this,<-hq];exact h.1
  rw[hn,cond_true];have h3:=h.2 w (O3.Z _ _) H;have h4:XO P (QV all k) (QY f (some d) v) w λf' w'=>(VM all k=true\/w'=w\/C w')/\XA P all C K (l++rest).length (ls.setIfInBounds k true) f' w':=by
   refine QaW (all:=all) (QbJ J k) h1 h2 (λu w' hx=>?_) h3;obtain⟨C',ht,hB,hz,own',h5,hD,hx⟩:=hx;refine⟨.inr (.inr (ht _ hz)),XA.sub ht _ _ _ _ (QdR hF J l C' own' _ _ w' (λx hx=>O x (ht x hx)) hB (oz S) hi hx hz (hF.stab v own w w' T h5 (λb ha=>(E b ha).1)) (λb ha=>⟨λhm=>?_,LU (E b ha).2 h5.size⟩) hl)⟩;rcases hD b hm with h3|h3
   ·exact(E b ha).1 h3
   exact Nl _ (LU (E b ha).2 h3.1)
  rw[hq]at h4;exact h4
theorem QdP {i d:Nat}{rest:xp}{Φ:O0->OZ->Prop}{Dc:xq}{f1:Fr}(O:Fl3 P all C0 K KF i d rest Φ Dc f1)(hs:Region.noSelect all.toArray=true)(hg:(QV all i).guard=none)(hd:(QV all i).dst=some d):∀(l:xp) (C:xw) (ls:Array Bool) (own:LN) (f:Fr) (w:OZ),(∀x,C x->C0 x)->(∀x x',C x->O3 [] x x'->C x')->ls.size=all.length->ZP all d l=true->ZV all Dc l=true->(∀t,Xd Dc t=false->f t=f1 t) ->
  qT P all KF l C own f w->C w->(∀b∈own,b<w.heap.size)->VZ all.toArray i rest l ls=true->XA P all C K (l.length+1+rest.length) ls f w
 | [],C,ls,own,f,w,S,ha,he,hfr,T,hk1,h,G,hc,E=>by
  simp only[VZ,oL,beq_iff_eq]at E;obtain⟨Y,E⟩:=E;rw[show([]:xp).length+1+rest.length=rest.length+1 by simp;omega];refine XC (λh0=>(by rw[h0]at Y;cases Y)) ?_;rw[Y];intro k hk o H;have hi:k=i:=by simpa using hk
  subst hi;have hh:=Zq H;have hx:=O.spec f w hk1 (S _ G);rw[hh]at hg hd hx;rw[JC hg,cond_true];refine hx.mono λv w' hx=>?_;rw[hd]at hx ⊢;obtain⟨V,I,h4⟩:=hx;simp only[QY,YI]at I h4;have J:=ha _ _ G V;refine⟨.inr (.inr J),ZN hs rest _ _ _ (oz he) (.inl J) E (O.fin own f w' (O.mono own f w w' h V) v C J S I (λb hb=>⟨λhm=>Nl _ (LU (hc b hm) (h4 b hb).1),(h4 b hb).2⟩))⟩
 | (j,true)::l,C,ls,own,f,w,S,ha,he,hfr,T,hk1,h,G,hc,E=>by
  simp only[VZ,oL]at E;obtain⟨⟨Y,hf⟩,hl⟩:=E;have hu:j∈Region.ready .any all.toArray ls:=by simpa using Y
  have e:(oP ((j,true)::l))+1+rest.length=(l.length+1+rest.length)+1:=by simp;omega
  rw[e];have hn:ZP all d l=true:=by simp only[ZP,oR,oL]at hfr;exact hfr.2
  simp only[ZV,oR,oL]at T;have hq:ZV all Dc l=true:=T.2;cases H:all[j]? with
  | none =>
   exfalso;obtain⟨_,o,h6,_⟩:=mem_ready.1 hu;simp[H]at h6
  | some o =>
   obtain⟨hw,v,hv,hx⟩:=h;rw[Zq H]at hw hv hx;have h7:∀(j:Nat) (o:Oper) cs b,all[j]?=some o->o.op≠.select cs b:=λj o cs b hj=>Region.noSelect_spec hs j o cs b (oz hj);have h8:=λk ok hk=>Region.free_spec (ops:=all.toArray) (md:=.any) (i:=j) (oi:=o) (listed:=ls) (oz H) hf k ok (oz hk);exact Xe (v:=v) (D:=λw=>U0 o=true->C w) H (λ_ h=>h) h7 _ ls f w (λ_=>G) h8 hu (.inl ⟨hw,hv⟩) (QdP O hs hg hd l C _ own _ w S ha (oz he) hn hq (by have:=JA (v:=v) T.1 hk1;rw[Zq H]at this;exact this) hx G hc hl)
 | (j,false)::l,C,ls,own,f,w,S,ha,he,hfr,T,hk1,h,G,hc,E=>by
  simp only[VZ,oL,Ol,Bool.or_eq_true,beq_iff_eq,Oi]at E;obtain⟨⟨⟨hy,Y⟩,h9⟩,hl⟩:=E;have e:(oP ((j,false)::l))+1+rest.length=(l.length+1+rest.length)+1:=by simp;omega
  rw[e];have hn:ZP all d l=true:=by simp only[ZP,oR,oL]at hfr;exact hfr.2
  simp only[ZV,oR,oL]at T;have hq:ZV all Dc l=true:=T.2;refine XC (λh0=>(by rw[h0]at hy;cases hy)) ?_;intro k hk o H;have hh:=Zq H;have hz:(ls.setIfInBounds k true).size=all.length:=by simpa using he
  by_cases hi:k=i
  ·subst hi;have hx:=O.spec f w hk1 (S _ G);rw[hh]at hg hd hx;rw[JC hg,cond_true];refine hx.mono λv w' hx=>?_;rw[hd]at hx ⊢;obtain⟨V,I,h4⟩:=hx;simp only[QY,YI]at I h4;have J:=ha _ _ G V;refine⟨.inr (.inr J),?_⟩;have hx:=QdR O hs ((j,false)::l) C own (ls.setIfInBounds k true) f w' S ha hz hfr (qT.I O.mono h V) J I (λb hb=>⟨λhm=>Nl _ (LU (hc b hm) (h4 b hb).1),(h4 b hb).2⟩) h9;rw[show((j,false)::l++rest).length=l.length+1+rest.length by simp;omega]at hx;exact hx
  have hA:k=j:=(Y k hk).resolve_right hi;subst hA;have V:=h.1;have J:=h.2 w (O3.Z _ _) G;rw[hh]at V J;rw[V,cond_true];refine J.mono λv w' hx=>?_;obtain⟨C',ht,hB,h5,own',hD,hE,hx⟩:=hx;refine⟨.inr (.inr (ht _ h5)),XA.sub ht _ _ _ _ (QdP O hs hg hd l C' _ own' _ w' (λx hx=>S x (ht x hx)) hB hz hn hq (by have:=JA (v:=v) T.1 hk1;rw[hh]at this;exact this) hx h5 (λb hb=>?_) hl)⟩;rcases hE b hb with I|I
  ·exact LU (hc b I) hD.size
  exact I.2
theorem qT.keeps {D:xq}{f0:Fr}:∀(l:xp) (C:xw) (own:LN) (f:Fr) (w:OZ),ZV all D l=true->(∀t,Xd D t=false->f t=f0 t)->qT P all KF l C own f w->qT P all (λo G w'=>(∀t,Xd D t=false->G t=f0 t)/\KF o G w') l C own f w
 | [],C,own,f,w,_,E,h=>⟨E,h⟩
 | (j,true)::l,C,own,f,w,hd,E,h=>by
  simp only[ZV,oR,oL]at hd;obtain⟨H,v,I,hx⟩:=h;exact⟨H,v,I,qT.keeps l C own _ _ hd.2 (JA hd.1 E) hx⟩
 | (j,false)::l,C,own,f,w,hd,E,h=>by
  simp only[ZV,oR,oL]at hd;refine⟨h.1,λJ O S=>XO.mono (λv w' hx=>?_) (h.2 J O S)⟩;obtain⟨C',T,V,Y,own',ha,hb,hx⟩:=hx;exact⟨C',T,V,Y,own',ha,hb,qT.keeps l C' own' _ _ hd.2 (JA hd.1 E) hx⟩
theorem f3q {l:xp}{own:LN}{v:O0}(E:∀w',C w'->(execOp (ev f) (QV all j)).run P w'=.ok (.value v) w')(h:qT P all KF l C own (QY f (QV all j).dst v) w)
  (hd:U0 (QV all j)=true:=by rfl) (G:Z4 all f (QV all j)=true:=by rfl):qT P all KF ((j,true)::l) C own f w:=⟨G,v,λw' H=>E w' (H hd),h⟩
theorem f3p {l:xp}{own:LN}{v:O0}(E:∀w',(execOp (ev f) (QV all j)).run P w'=.ok (.value v) w')(h:qT P all KF l C own (QY f (QV all j).dst v) w)
  (G:Z4 all f (QV all j)=true:=by rfl):qT P all KF ((j,true)::l) C own f w:=⟨G,v,λw' _=>E w',h⟩
theorem f3k {l:xp}{own:LN}(h:∀w1,O3 [] w w1->C w1->XO P (QV all j) f w1 λE w'=>∃C':xw,(∀x,C' x->C x)/\(∀x x',C' x->O3 [] x x'->C' x')/\C' w'/\∃own',O3 own w1 w'/\(∀b∈own',b∈own\/(w1.heap.size<=b/\b<w'.heap.size))/\qT P all KF l C' own' E w')
  (G:Z4 all f (QV all j)=true:=by rfl):qT P all KF ((j,false)::l) C own f w:=⟨G,h⟩
theorem f3e {own:LN}(h:KF own f w):qT P all KF [] C own f w:=h
theorem QgJ {Q:Exit->Fr->OZ->Prop}(C:xw)(pre l:xp)(i d:Nat)(rest:xp)(own:LN)(D Dc:xq)(S:α->List (Nat×O0))(I:α->LN->OZ->Prop)(Φ:O0->OZ->Prop)(hm:P.follows .mixedOrders=true)(hn:X4 n all=true)
  (T:Qdv all pre l i rest=true) (J:(ZV all D pre && ZV all D l && ZV all Dc l)=true) (hd:(QV all i).dst=some d) (V:C { w with drawn:=w.drawn+1 }) (ha:∀x x',C x->O3 [] x x'->C x') (hc:∀b∈own,b<w.heap.size)
  (stab:∀v (own:LN) w w',Φ v w->O3 own w w'->(∀b∈ow v,b∉own)->Φ v w') (mono:∀z own w w',I z own w->O3 [] w w'->I z own w')
  (fin:∀z g own w v (C':xw),I z own w->C' w->(∀x,C' x->C x)->Φ v w->(∀b∈ow v,b∉own/\b<w.heap.size)->XP P all C' (λf w=>Q .normal f w) rest (QY (qK (S z) (mix D f g)) (some d) v) w)
  (h:XP P all C (λf1 _=>(∀g w,C w->XO P (QV all i) (mix Dc f1 g) w λE w'=>O3 [] w w'/\Φ (E d) w'/\∀b∈ow (E d),w.heap.size<=b/\b<w'.heap.size)/\qT P all (λo E w'=>∃z,Xr E (S z)/\I z o w') l C own f1 { w with drawn:=w.drawn+1 }) pre f { w with drawn:=w.drawn+1 }):W P n (.region id all.toArray true) Q f w:=by
 rw[Lv,Lv]at J;simp only[Qdv,oL,beq_iff_eq,Option.isNone_iff_eq_none]at T;obtain⟨⟨⟨⟨⟨G,hl⟩,hq⟩,he⟩,hg⟩,hfr⟩:=T;rw[hd]at hfr;refine JG C hm hn ?_;have Y:=YC (K:=λf w=>Q .normal f w) (m:=l.length+1+rest.length) G pre (oW all.length false) f _ V hq
  (B:=λf1 _=>Fl3 P all C (λf w=>Q .normal f w) (λo E w'=>(∀t,Xd D t=false->E t=f t)/\∃z,Xr E (S z)/\I z o w') i d rest Φ Dc f1/\qT P all (λo E w'=>(∀t,Xd D t=false->E t=f t)/\∃z,Xr E (S z)/\I z o w') l C own f1 { w with drawn:=w.drawn+1 })
  (λf1 hB=>QdP hB.1 G hg hd l C (Z0 pre (oW all.length false)) own f1 _ (λ_ h=>h) ha (by rw[YG];simp) hfr J.2 (λ_ _=>rfl) hB.2 V hc he)
  (XP.keeps_mono _ _ _ (XP.keeps pre f _ J.1.1 (λ_ _=>U) h) (λf1 w1 hx=>⟨⟨stab,?_,?_,?_⟩,qT.keeps l C own _ _ J.1.2 hx.1 hx.2.2⟩))
 ·rw[hl]at Y;exact Y
 ·intro E w' H O;have:=hx.2.1 E w' O;rw[X7 H]at this;exact this
 ·rintro o E w' ⟨H,z,G,hi⟩ v C' O hf hv hb;have:=fin z E o w' v C' hi O hf hv hb;rw[X7 H,Y3 G]at this;exact this
 rintro o E w' hj ⟨H,z,G,hi⟩ hh;exact⟨H,z,G,mono z o _ _ hi hh⟩
end
attribute [irreducible] qT
theorem Jm (w:OZ):Q5 prog 39 [] w λr w'=>O3 [] w w'/\Qd5 w.heap.size w'.heap r QaE:=by
 refine Zs func39 ntmps39 results39 ?_;refine Qe<|Qa<|Qo (us:=ZY) U λG w1 h0 hR ho=>xe ?_;refine Qe<|Qa<|xf<|(JX 3 og w1).mono ?_;rintro r2 w2 ⟨he,c1,rfl,h1,hf⟩;refine Qa<|Qo (us:=ZY) U λb1 w3 h3 hp h4=>Qa<|Qj (us:=c1.cells) h4 U U U U (hf [] oe).ones λY h5 hr=>xe ?_;have hg:O3 [] w2 Y:=h3.O h5 hp;have hS:=he.size;have h6:=ho.lt;have h7:=hr.lt;refine Qe<|Qa<|QB (us:=[[oF oG 1],[oF oG 2]]) U U og oe ⟨rfl,rfl,rfl,rfl,Z⟩ λO w5 hs hT h8=>Qa<|QB (us:=[[oF oG 0],[oF oG 1]]) rfl rfl og oe ⟨rfl,rfl,rfl,rfl,Z⟩ λS w6 hh hU hA =>
  x (Qz ⟨rfl,U,U,Z⟩)<|x (Qz ⟨U,U,U,Z⟩)<|Qa<|QB (us:=[QF (0,1,1),QF (1,2,0)]) U U og (by exact(by decide:2*3<=1000000)) oC λT w7 ha hV hB=>?_
 have hC:=(hs.D hh).D ha;refine x (Qz ⟨U,U,U,U,Z⟩)<|x (Zt [(0,[.string YU]),(1,[.slice (some ⟨O,0,none⟩) 2 2,oF oG 2,.slice (some ⟨S,0,none⟩) 2 2,.slice (some ⟨T,0,none⟩) 2 2])] ⟨U,U,U,U,Z⟩) <|
  Qa<|QB (us:=[[.string YU,.slice (some ⟨O,0,none⟩) 2 2,oF oG 2,.slice (some ⟨S,0,none⟩) 2 2,.slice (some ⟨T,0,none⟩) 2 2]]) U U og (by exact(by decide:1*5<=1000000)) oA λI w8 V hW hD=>?_
 have ht:=hC.D V;refine Q0 rfl<|Qa<|QA (j:=2) (u:=.slice (some ⟨I,0,none⟩) 1 1) (hr.I ht) U U oe rfl λw9 hi hE=>xe ?_;refine Qe<|x (Qz ⟨U,U,Z⟩)<|x (Qz ⟨U,U,Z⟩)<|Qa<|QB (us:=[QI (1,1),QI (2,1)]) U U og (by exact(by decide:2*2<=1000000)) oC λhc hY hu hZ hF=>x (Qz ⟨U,U,Z⟩) <|
  Qa<|QB (us:=[[.string YV,.slice (some ⟨hc,0,none⟩) 2 2]]) U U og (by exact(by decide:1*2<=1000000)) oA λJ hG hv ga hH=>?_
 have hj:=hu.D hv;refine Q0 rfl<|Qa<|QA (j:=3) (u:=.slice (some ⟨J,0,none⟩) 1 1) (hE.I hj) U U oe rfl λhw hk hJ=>xe ?_;have gb:=hs.size;have gc:=hh.size;have gg:=ha.size;have gh:=V.size;have gi:=hi.size;have gj:=hu.size;have hl:O3 [b1] Y hw:=((ht.any.Q hi).D hj.any).Q hk;have hK:G∉[b1]:=om
 have hM:=((ho.I he).I hg).J hl hK;have hN:Zj [c1.ve,c1.vc,.slice (some ⟨I,0,none⟩) 1 1,.slice (some ⟨J,0,none⟩) 1 1,c1.vk]:=by
  have h9:=(hf [] oe).ones;exact⟨h9.1,h9.2.1,U,U,h9.2.2.2.2.1,Z⟩
 refine Qe<|Q2 hJ U U<|Qa<|Qj (us:=[c1.ve,c1.vc,.slice (some ⟨I,0,none⟩) 1 1,.slice (some ⟨J,0,none⟩) 1 1,c1.vk]) hM U U U U hN λgk hy hO=>xe ?_;have H:=CL.cel_ex (CL.cel_rq h1 (.slice (some ⟨I,0,none⟩) 1 1) [⟨YU,⟨.slice (some ⟨O,0,none⟩) 2 2,.slice (some ⟨S,0,none⟩) 2 2,.slice (some ⟨T,0,none⟩) 2 2,Uy.a⟩⟩]) (.slice (some ⟨J,0,none⟩) 1 1) [⟨YV,.slice (some ⟨hc,0,none⟩) 2 2,[(1,1),(2,1)]⟩];refine Ql ⟨[.agg #[c1.ve,c1.vc,.slice (some ⟨I,0,none⟩) 1 1,.slice (some ⟨J,0,none⟩) 1 1,c1.vk]],⟨⟨_,U,Qn U (hO.at (L:=[]) oe).cells⟩,Z⟩,(((h0.D he).D hg).O hl oa).O hy oa,_,rfl,H,λL hL=>?_⟩;have hz:∀b∈G::L,b<w1.heap.size:=λb E=>by
  rcases Li.1 E with rfl|E
  ·exact h6
  have:=hL b E;omega
 have hP:∀b∈b1::G::L,b<Y.heap.size:=λb E=>by
  rcases Li.1 E with rfl|E
  ·exact h7
  have:=hz b E;omega
 have h2:=(hf (G::L) hz).up (L':=b1::G::L) (λb E=>by
  rcases Li.1 E with rfl|E
  ·exact .inr hp
  exact .inl E)
 have hn:=(h2.I hg).st (hl.mono oe);have nB:∀b,Y.heap.size<=b->b∉b1::G::L:=λb E hm=>ou (hP b hm)
 have hI:XD (b1::G::L) w8.heap (.slice (some ⟨I,0,none⟩) 1 1) [⟨YU,⟨.slice (some ⟨O,0,none⟩) 2 2,.slice (some ⟨S,0,none⟩) 2 2,.slice (some ⟨T,0,none⟩) 2 2,Uy.a⟩⟩]:=by
  refine⟨hD.arr (nB _ oa) (n:=1) (cap:=1) (sz:=5) U og (Lx _),λq H=>?_,λq H=>?_⟩
  ·rw[Lb.1 H];exact⟨(((h8.I hh).I ha).I V).arr (nB _ oa) (n:=2) (cap:=2) (sz:=1) U og (Lx _),((hA.I ha).I V).arr (nB _ oa) (n:=2) (cap:=2) (sz:=1) U og (Lx _),(hB.I V).arr (nB _ oa) (n:=2) (cap:=2) (sz:=3) U og (Lx _)⟩
  rw[Lb.1 H];exact Xm og
 have hX:yD (b1::G::L) hG.heap (.slice (some ⟨J,0,none⟩) 1 1) [⟨YV,.slice (some ⟨hc,0,none⟩) 2 2,[(1,1),(2,1)]⟩]:=by
  refine⟨hH.arr (nB _ oa) (n:=1) (cap:=1) (sz:=2) U og (Lx _),λq H=>?_,λq H=>?_⟩
  ·rw[Lb.1 H];exact(hF.I hv).arr (nB _ oa) (n:=2) (cap:=2) (sz:=2) U og (Lx _)
  rw[Lb.1 H];exact Xm og
 have hQ:ZF (b1::G::L) hw.heap (CL.mk c1.ve c1.vc (.slice (some ⟨I,0,none⟩) 1 1) (.slice (some ⟨J,0,none⟩) 1 1) c1.vk c1.ev c1.co [⟨YU,⟨.slice (some ⟨O,0,none⟩) 2 2,.slice (some ⟨S,0,none⟩) 2 2,.slice (some ⟨T,0,none⟩) 2 2,Uy.a⟩⟩] [⟨YV,.slice (some ⟨hc,0,none⟩) 2 2,[(1,1),(2,1)]⟩] c1.cs):=
  ⟨hn.ev,hn.co,((hI.st (hi.mono oe)).I hj).st (hk.mono oe),hX.st (hk.mono oe),hn.cs⟩
 exact(hQ.st (hy.mono oe)).up (λb E=>.inl (Lk _ (Lk _ E)))
abbrev QqF:XG:=⟨.empty,Uf⟩
def Ji (k:Nat):ByteArray:=(QaE.co.getD k QqF).nm
def Ux:List (Bool×Ys):=[(false,⟨3,YV,Uf,[(Ji 1,0),(Ji 2,1)],[],0⟩)]
def Qix:List (Bool×Ys):=[(true,⟨1,Ji 1,Uf,[],[],0⟩)]
def Kc:Sys:=Qdf QaE
def QeJ:Sys:=edS Kc Ux
theorem Qls:K6 QaE=0:=od
theorem QnQ:edE Kc Ux=0:=od
theorem QnM:(Xs (qF Kc.c Ux).2 Kc.ps 1).kept=[(1,YU)]:=od
theorem QnL:(Xs (qF Kc.c Ux).2 Kc.ps 1).made=[(2,YV)]:=od
theorem QnN:(Xs (qF Kc.c Ux).2 Kc.ps 1).gone=[]:=od
theorem QnP:edE QeJ Qix=9:=od
theorem Qiw:QeJ.made=3:=od
theorem jk {pS:String}{fs:Array Field}(ft o:Nat){x:O1}{v:O0}(E:P.underlying t=some (.struct fs))(G:(fs[j]?).map (λd=>(d.type,d.offset))=some (ft,o))[h1:XK P ft](hx:ev f x=.agg us.toArray)(H:us[o]?=some v):
  (execOp (ev f) ⟨d,.field t x j,ty,pS,af,gd⟩).run P w=.ok (.value v) w:=by
 obtain⟨fd,I,J⟩:=Mo.1 G;cases J
 simp[execOp,hx,Instr.field,run_underlying E,I,asAgg,part,jy (t:=fd.type),H]
theorem Qdn:QaE.co.length=3:=od
theorem Qaw {c:CL}(h:c.V=QaE){k:Nat}(E:k<c.co.length):(c.co[k]'E).nm=Ji k:=by
 have e:c.co.map (·.it)=QaE.co:=OT ZG.co h;unfold Ji;rw[<-e,List.getD_eq_getElem?_getD,Nc,LF E];rfl
theorem Qiv:J6 (Ji 1):=OW (p:=(Ji 1).size<=9223372036854775807) od
theorem QnO:J6 (Ji 2):=OW (p:=(Ji 2).size<=9223372036854775807) od
abbrev Qpa:List (ByteArray×Int):=[(Ji 1,0),(Ji 2,1)]
abbrev Qjf (b:Nat):Xt:=⟨false,⟨3,YV,⟨Zw,Zw,Zw,Uf⟩,.slice (some ⟨b,0,none⟩) 2 2,Qpa,Zw,[],0⟩⟩
abbrev Qjc:Xt:=⟨true,⟨1,Ji 1,⟨Zw,Zw,Zw,Uf⟩,Zw,[],Zw,[],0⟩⟩
abbrev Qqg:LV:=[.bool false,oF oG 0,.string .empty,nS,oF oG 0,nS,nS,nS,nS,oF oG 0]
instance:Bw prog 140 Qqg [(0,1),(1,9)]:=⟨od,og⟩
theorem QmG :ZK L H Zw Zw Zw Uf:=⟨Zv.nil _ _ _,Zv.nil _ _ _,Zv.nil _ _ _⟩
theorem Qoi {T1 T2:Nat}(G:Q7 H b1 T1 (Qpa.flatMap ZX))(I:Q7 H b2 T2 (Xy (Qjf b1)))(n1:J6 (Ji 1))(J:J6 (Ji 2)):Qd3 [] H (.slice (some ⟨b2,0,none⟩) 1 1) [Qjf b1]:=by
 refine⟨I.arr oe (n:=1) (cap:=1) (sz:=10) rfl og (Lx _),λq O=>?_⟩;rw[Lb.1 O];refine⟨Xm og,QmG,⟨G.arr oe (n:=2) (cap:=2) (sz:=2) rfl og (Lx _),λp E=>?_⟩,zp.nil⟩;rcases Li.1 E with rfl|E
 ·exact n1
 rw[Lb.1 E];exact J
theorem Qoj {T2:Nat}(E:Q7 H b2 T2 (Xy Qjc))(n1:J6 (Ji 1)):Qd3 [] H (.slice (some ⟨b2,0,none⟩) 1 1) [Qjc]:=by
 refine⟨E.arr oe (n:=1) (cap:=1) (sz:=10) rfl og (Lx _),λq G=>?_⟩;rw[Lb.1 G];exact⟨n1,QmG,zp.nil,zp.nil⟩
theorem je {x:Ys}(E:x.ls.length<=2)(G:x.ts.length<=2):ShI x:=⟨oa,oa⟩
theorem jl {E:OZ}{s:KI}(G:O3 [] w E)(h:∀b∈s.own,w.heap.size<=b)(H:O3 s.own E w'):O3 [] w w':=G.then H λb I=>.inr (h b I)
theorem Qdk (hr:Kb w 4096):
  Q5 prog 11 [] w λr w'=>r=.bool true/\O3 [] w w':=by
 refine Zs func11 ntmps11 results11 ?_;refine Qe<|Qc<|Qe<|Qa<|xf<|(Jm w).mono ?_;rintro _ w1 ⟨hi,c1,rfl,ht,gr⟩;have hN:=QkT (gr [] oe) (yp (by rw[ht];exact QnR)) (hr.I hi) (by rw[ht];exact Qls);rw[ht]at hN;refine Qa<|xf<|hN.mono ?_;rintro _ w2 ⟨gs,s,rfl,esys,gt,hE,hSy⟩;have hv:=hi.D gs;refine Qb<|Q8 U U<|Q8 U U<|x Qk<|Qc<|Qd<|Q3 (α:=Unit) [(14,19)] (λ_=>[(19,.bool false)]) (λ_ w'=>w'=w2) ol ?_ ?_
 ·refine Qw<|Qb<|xb (Jc U U) (λhF=>OU U hF) (λhF=>?_);refine Qb<|Qb<|x (XX underlying46 U U)<|QK U<|xe ?_;exact⟨(),La,U⟩
 rintro⟨⟩ g3 H rfl;refine ZO rfl ?_;refine Qh ?_;have hj:O3 [] H { H with drawn:=H.drawn+1 }:=O3.C _ _
 have hk:=hSy.lt;refine Q3 (α:=Nat×UQ×KI) [(20,40),(3,4)] (λz=>[(3,pS z.1),(4,oF oG 0)]) (λz w'=>O3 s.own H w'/\z.2.2.b=s.b/\z.2.2.sys=QeJ/\Xq 2 z.2.2.sys/\z.2.1.rp=Xs (qF Kc.c Ux).2 Kc.ps 1/\(∀b∈z.2.2.own,b∈s.own\/H.heap.size<=b)/\z.1∉z.2.2.own/\VO z.2.2.own w' z.2.2/\KO [] w'.heap z.2.1/\∃T,Q7 w'.heap z.1 T (Zr z.2.1)) ol ?_ ?_
 ·refine QgJ (α:=UQ×KI) (O3 s.own H) [oD 0] [oE 1,oD 2,oD 3,oD 4,oD 5,oD 6,oE 7,oD 8,oD 9,oD 10,oD 11,oD 12,oE 13,oD 14,oD 15,oE 16,oE 17,oD 18,oD 19,oD 20] 21 3 [oE 22,oD 23] s.own
   [(20,40)] [(20,20),(22,40)] (λz=>[(39,.agg (Zr z.1).toArray),(40,oF oG 0)])
   (λz own w'=>O3 s.own H w'/\z.2.b=s.b/\z.2.sys=QeJ/\Xq 2 z.2.sys/\z.1.rp=Xs (qF Kc.c Ux).2 Kc.ps 1/\(∀b∈z.2.own,b∈s.own\/H.heap.size<=b)/\∀J,H.heap.size<=J->J∉own->J∉z.2.own/\VO (J::z.2.own) w' z.2/\KO [J] w'.heap z.1)
   (λv w'=>∃b T,v=pS b/\H.heap.size<=b/\Q7 w'.heap b T Yx) mixed ol od ol U hj.any (λ_ _ h1 h2=>h1.D h2) hk ?_ ?_ ?_ ?_
  ·rintro v own wa wb ⟨b,T,rfl,E,hB⟩ G V;exact⟨b,T,U,E,hB.J G (V b ot)⟩
  ·rintro z own wa wb ⟨h1,h2,h3,h4,h5,h6,O⟩ G;exact⟨h1.D G,h2,h3,h4,h5,h6,λJ ha V=>⟨(O J ha V).1,(O J ha V).2.1.I G,(O J ha V).2.2.I G⟩⟩
  ·rintro⟨q,Y⟩ g own wz v C' ⟨h1,h2,h3,h4,h5,h6,O⟩ mv _ ⟨b,T,rfl,E,hB⟩ gu;simp only[]at h2 h3 h4 h5 h6 O;obtain⟨n1,n2,n3⟩:=O b E (gu b ot).1;refine pkl (hl:=by kernel_rfl)<|Qj (us:=Zr q) hB U U U U n3.ones λw8 hf hw=>p ZH<|pe ?_;exact⟨(b,q,Y),oA,h1.then hf (λc I=>by rw[Lb.1 I];exact .inr E),h2,h3,h4,h5,h6,n1,(n2.J hf (λc I=>.inl (by rw[Lb.1 I];exact Lt)) (λc I hm=>n1 (Lb.1 hm ▸ I))).up (λc I=>.inl (Lk _ I)) (λc I=>I),(n3.st (hf.mono λc I=>I)).up oe,T,hw⟩
  refine p Qy<|pe ⟨λg wf gv=>Qo (us:=Yx) U λb mw gw hG hH=>⟨gw,⟨b,_,U,LJ gv.size hG,hH⟩,λx hx=>?_⟩,?_⟩
  ·have gx:x=b:=by
    have gy:x∈[b]:=hx;simpa using gy
   subst gx;exact⟨hG,hH.lt⟩
  refine f3k λx1 p1 c1=>?_;refine xf<|(Jm x1).mono ?_;rintro _ y1 ⟨q1,e1,rfl,hI,gz⟩;have my:e1.co.length=3:=by rw[<-Qdn,<-hI];exact(Lh _).symm
  have g0:=gz s.own (λb E=>LU (hk b E) (LJ hj.size p1.size));refine⟨λx=>O3 s.own H x/\O3 s.own y1 x,λx hx=>hx.1,λx x' hx G=>⟨hx.1.D G,hx.2.D G⟩,⟨c1.D q1,O3.Z _ _⟩,s.own,q1.any,λb E=>.inl E,?_⟩;obtain⟨a1,mz,g2,hJ⟩:=Zv.at g0.co.arr (i:=1) oa;rw[Xx QO 5 Yj e1.co 1 oa]at hJ;have g6:(e1.co[1]'oa).nm=Ji 1:=Qaw hI oa;refine f3p (λ_=>jk 40 1 underlying44 U U U)<|f3p (λ_=>Xh (show Go.Lg.ev _ _=_ from g2) U og oa)<|f3p (λ_=>Zg U) <|
   f3q (λ_ I=>QD ((hJ.st I.2).fld 0 (.string (Ji 1)) (OT (λn=>some (Value.string n)) g6)) U)<|f3p (λ_=>Qz oA) ?_
  refine f3k λx2 p2 c2=>?_;refine xf<|(Jm x2).mono ?_;rintro _ y2 ⟨q2,e2,rfl,hK,g7⟩;have m2:e2.co.length=3:=by rw[<-Qdn,<-hK];exact(Lh _).symm
  have g8:=g7 s.own (λb E=>LU (hk b E) (LJ hj.size (LJ p1.size (LJ q1.size p2.size))));refine⟨λx=>(O3 s.own H x/\O3 s.own y1 x)/\O3 s.own y2 x,λx hx=>hx.1,λx x' hx G=>⟨⟨hx.1.1.D G,hx.1.2.D G⟩,hx.2.D G⟩,⟨⟨c2.1.D q2,c2.2.D q2⟩,O3.Z _ _⟩,s.own,q2.any,λb E=>.inl E,?_⟩;obtain⟨a2,m3,g9,hL⟩:=Zv.at g8.co.arr (i:=2) oa;rw[Xx QO 5 Yj e2.co 2 oa]at hL;have ka:(e2.co[2]'oa).nm=Ji 2:=Qaw hK oa;refine f3p (λ_=>jk 40 1 underlying44 U U U)<|f3p (λ_=>Xh (show Go.Lg.ev _ _=_ from g9) U og oa)<|f3p (λ_=>Zg U) <|
   f3q (λ_ I=>QD ((hL.st I.2).fld 0 (.string (Ji 2)) (OT (λn=>some (Value.string n)) ka)) U)<|f3p (λ_=>Qz oA) ?_
  refine f3k λx3 p3 c3=>QB (us:=[[.string (Ji 1),oF oG 0],[.string (Ji 2),oF oG 1]]) U U og (by exact(by decide:2*2<=1000000)) oC λb13 x4 p4 m4 kb=>?_;refine⟨λx=>(O3 s.own H x/\O3 s.own y1 x)/\O3 s.own y2 x,λx hx=>hx,λx x' hx G=>⟨⟨hx.1.1.D G,hx.1.2.D G⟩,hx.2.D G⟩,⟨⟨c3.1.1.D p4,c3.1.2.D p4⟩,c3.2.D p4⟩,s.own,p4.any,λb E=>.inl E,?_⟩;refine f3p (λ_=>Zt [(0,[oF oG 3]),(1,[.string YV]),(3,[.slice (some ⟨b13,0,none⟩) 2 2])] ⟨U,U,U,U,U,U,Z⟩)<|f3p (λ_=>Zt [(1,[oF oG 3,.string YV,Zw,oF oG 0,Zw,Zw,.slice (some ⟨b13,0,none⟩) 2 2,Zw,oF oG 0])] oA) ?_;refine f3k λx5 p5 c5=>QB (us:=[Xy (Qjf b13)]) U U og (by exact(by decide:1*10<=1000000)) oA λm5 x6 p6 m6 kc=>?_;refine⟨λx=>(O3 s.own H x/\O3 s.own y1 x)/\O3 s.own y2 x,λx hx=>hx,λx x' hx G=>⟨⟨hx.1.1.D G,hx.1.2.D G⟩,hx.2.D G⟩,⟨⟨c5.1.1.D p6,c5.1.2.D p6⟩,c5.2.D p6⟩,s.own,p6.any,λb E=>.inl E,?_⟩;refine f3k λx7 p7 c7=>?_;have hy:O3 [] H x7:=(((((((hj.D p1).D q1).D p2).D q2).D p3).D p4).D p5 |>.D p6).D p7;have hO:=hy.size;have ke:=Qoi (kb.I ((p5.D p6).D p7)) (kc.I p7) Qiv QnO;have kf:VO (US H.heap.size x7.heap.size++s.own) x7 s:=(hSy.up (λb E=>by
   rcases Lc.1 E with E|E
   ·exact .inr (ZE.1 E).1
   exact .inl (Lc.2 (.inl E))) (λb E=>Lc.2 (.inr E))).I hy
  have hR:=Qbt kf gt og (λb E=>by
   rcases Lc.1 E with E|E
   ·exact(ZE.1 E).2
   exact LU (hk b E) hO) ke (by
   intro e he;rw[show[Qjf b13].map Xt.e=Ux from rfl]at he;rw[Lb.1 he];exact je og og) (hr.I (hv.D hy))
  rw[show[Qjf b13].map Xt.e=Ux from rfl,esys,show Qdf QaE=Kc from rfl,QnQ]at hR;refine xf<|hR.mono ?_;rintro m7 x8 ⟨qr,rfl,hN,_,ho⟩;have ho:=ho U;refine Exists.elim ho.2 λY S=>?_;have kg:=S.2.2.2.2.1.lt;refine⟨λx=>(O3 s.own H x/\O3 s.own y1 x)/\O3 s.own y2 x,λx hx=>hx,λx x' hx G=>⟨⟨hx.1.1.D G,hx.1.2.D G⟩,hx.2.D G⟩,⟨⟨c7.1.1.Q S.2.2.2.1,c7.1.2.Q S.2.2.2.1⟩,c7.2.Q S.2.2.2.1⟩,Y.own++US x7.heap.size x8.heap.size,S.2.2.2.1,λb E=>?_,?_⟩
  ·rcases Lc.1 E with E|E
   ·exact(S.2.2.2.2.2 b E).imp id λh=>⟨h,kg b E⟩
   exact .inr (ZE.1 E)
  refine f3p Qy<|f3p (λ_=>Zp U U)<|f3p (λ_=>Zp U U)<|f3e ?_;refine⟨(qr,Y),oA,c7.1.1.Q S.2.2.2.1,S.1,S.2.1,S.2.2.1,ho.1,λb E=>?_,λJ ha V=>⟨λhm=>V (Lc.2 (.inl hm)),?_,?_⟩⟩
  ·exact(S.2.2.2.2.2 b E).imp id λh=>LJ hO h
  ·refine S.2.2.2.2.1.up (λb E=>?_) (λb E=>Lk _ E);rcases Li.1 E with rfl|E
   ·by_cases O:b<x7.heap.size
    ·exact .inl (Lc.2 (.inr (Lc.2 (.inl (ZE.2 ⟨ha,O⟩)))))
    by_cases h8:b<x8.heap.size
    ·exact OU (Lc.2 (.inr (ZE.2 ⟨Nn O,h8⟩))) V
    exact .inr (Nn h8)
   exact .inl (Lc.2 (.inl E))
  by_cases O:J<x7.heap.size
  ·exact hN [J] (λb E=>by rw[Lb.1 E];exact O)
  by_cases h8:J<x8.heap.size
  ·exact OU (Lc.2 (.inr (ZE.2 ⟨Nn O,h8⟩))) V
  exact(hN [] (λb E=>by cases E)).up λb E=>by rw[Lb.1 E];exact .inr (Nn h8)
 rintro⟨b3,qr,Y⟩ g4 w4 ⟨kh,e1,e2,hz,e3,hP,n1,h0,hQ,T3,hS⟩;simp only[]at e1 e2 hz e3 hP n1 h0 hQ hS;have hT:O3 [] w w4:=jl hv (λb E=>LJ hi.size (hE b E)) kh;have ki:qr.k1=[(1,YU)]:=(OT Rp.kept e3).D QnM;have kj:qr.k2=[(2,YV)]:=(OT Rp.made e3).D QnL;have kk:qr.k3=[]:=(OT Rp.gone e3).D QnN;have kn:Y.made=3:=(OT Sys.made e2).D Qiw;have ko:Y.sys.un≠[]:=by rw[e2];exact List.append_ne_nil_of_right_ne_nil _ (List.cons_ne_nil _ _)
 refine Qm<|Qa<|xf<|(Jm w4).mono ?_;rintro _ w5 ⟨h9,c5,rfl,hW,kq⟩;have m8:c5.co.length=3:=by rw[<-Qdn,<-hW];exact(Lh _).symm
 have kr:=kq [] oe;refine x (jk 40 1 underlying44 U U U)<|O6 (g:=QO) (i:=1) Yj kr.co.arr U U oa λm9 kt=>?_;have ku:=kt.fld 0 (.string (Ji 1)) (OT (λn=>some (Value.string n)) (Qaw hW oa));refine x (Zg U)<|x (QD ku U) <|
  x (Zt [(0,[oF oG 1]),(1,[.string (Ji 1)])] ⟨U,U,U,U,Z⟩)<|x (Zt [(0,[.bool true]),(1,[oF oG 1,.string (Ji 1),Zw,oF oG 0,Zw,Zw,Zw,Zw,oF oG 0])] ⟨U,U,U,U,Z⟩) <|
  Qa<|QB (us:=[Xy Qjc]) U U og (by exact(by decide:1*10<=1000000)) oA λpa w6 hA pc kv=>?_
 have hX:=(h0.I h9).I hA;have hR5:=Qbt hX hz og hX.lt (Qoj kv Qiv) (by
  intro e he;rw[show[Qjc].map Xt.e=Qix from rfl]at he;rw[Lb.1 he];exact je og og) (hr.I ((hT.D h9).D hA))
 rw[show[Qjc].map Xt.e=Qix from rfl,e2,QnP,e1]at hR5;refine Qa<|xf<|hR5.mono ?_;rintro r9 w7 ⟨kw,rfl,kx,kz,_⟩;have k0:=(kz og).1;refine Qb<|Q8 U U<|Q8 U U<|Qa<|Qo (us:=Yx) U λb5 w8 hf k4 k5=>Qa<|Qj (us:=Zr kw) k5 U U U U (kx [] oe).ones λw9 k6 pd=>Qc ?_;have k7:O3 [] w4 w9:=((h9.D hA).D k0).D (hf.O k6 k4);refine Qe<|x (Qz ⟨U,U,Z⟩)<|x (Qz ⟨U,U,Z⟩)<|Qa<|Qo (us:=[oF oG 0,.string .empty]) U λb7 pf k8 k9 hY=>Qa<|Qo (us:=[oF oG 0,.string .empty]) U λb8 pg hZ ph hw =>
  Qa<|Qj (us:=Xa (1,YU)) (hY.I hZ) U U U U oA λpj ga ma=>?_
 have pm:=hY.lt;refine Qa<|Qj (us:=Xa (2,YV)) (hw.J ga om) U U U U oA λgb gc mf=>xe ?_;have mg:O3 [] w9 gb:=((k8.D hZ).O ga k9).O gc oa;have hp:=k7.D mg;have mh:=ma.J gc om;have hC:=hS.I hp;have hD:=hQ.I hp;have gg:=h0.I hp;have gh:=hD.a1;have gi:=hD.a2;have gj:=hD.a3;rw[ki]at gh;rw[kj]at gi;rw[kk]at gj;refine Q3 (α:=Unit) [(0,0),(56,96)] (λ_=>[(0,.bool true)]) (λ_ w'=>O3 Y.own gb w') ol ?_ ?_
 ·refine Qw<|Qb<|xb (Q9 U U) (λgk=>?_) (λgk=>OU U gk);refine Qb<|Qs U hC U U<|Q2 mh U U<|Qa<|QB (us:=[Xa (1,YU)]) U U og (by exact(by decide:1*2<=1000000)) oA λpn po gl pp mj =>
   Qa<|xf<|(XZ (L:=[]) (L':=[]) (l:=[(1,YU)]) (gh.I gl) (mj.arr oe (n:=1) (cap:=1) (sz:=2) rfl og (Lx _))).mono ?_
  rintro _ pu ⟨rfl,mo⟩;have hq:=gl.D mo;refine QK U<|Qb<|Qs U (hC.I hq) U U<|Q2 (mf.I hq) U U<|Qa<|QB (us:=[Xa (2,YV)]) U U og (by exact(by decide:1*2<=1000000)) oA λpw pz gm p0 mq =>
   Qa<|xf<|(XZ (L:=[]) (L':=[]) (l:=[(2,YV)]) ((gi.I hq).I gm) (mq.arr oe (n:=1) (cap:=1) (sz:=2) rfl og (Lx _))).mono ?_
  rintro _ p8 ⟨rfl,ms⟩;have hh:=(hq.D gm).D ms;refine QK U<|Qb<|Qs U (hC.I hh) U U<|QL (gj.I hh) U<|xb (Q9 U U) (λgn=>?_) (λgn=>OU U gn);refine QK U<|Qb<|Qb<|xb (Q9 U U) (λgo=>?_) (λgo=>OU U go);have hM:=Qbr (gg.I hh);have hU:=Qbp (gg.I hh) hz;have hU:=hU.mono λr w' h=>h.2 ko;rw[e1]at hM hU;refine QK U<|Qb<|Qb<|Qa<|xf<|hM.mono ?_;rintro _ p9 ⟨rfl,rfl⟩;refine xb (Q9 U U) (λgp=>?_) (λgp=>OU kn gp);refine QK U<|Qb<|Qb<|Qa<|xf<|hU.mono ?_;rintro _ qc ⟨rfl,hu⟩;refine Exists.elim hu λs2 hu=>?_;have hV:=Qbp hu.2.2.2.2.1 hu.2.2.1;rw[hu.1]at hV;have hV:=hV.mono λr w' h=>h.1 (by rw[hu.2.1,e2];rfl);refine xb (Q9 U U) (λgq=>?_) (λgq=>OU U gq);refine QK U<|Qb<|Qb<|Qa<|xf<|hV.mono ?_;rintro _ qf ⟨rfl,mt⟩;refine x (Q9 U U)<|QK U<|Qc ?_;exact⟨(),La,(hh.any.Q hu.2.2.2.1).D mt⟩
 rintro _ g5 ql mu;refine Ql ⟨[.bool true],La,U,jl (hT.D hp) (λb E=>?_) mu⟩;rcases hP b E with h|h
 ·exact LJ hi.size (hE b h)
 exact LJ hv.size h
theorem At.pre {a:Addr}(h:At L H a us)(n:Nat):At L H a (us.take n):=
 ⟨λu E=>h.out u (LR E),λu E=>h.lt u (LR E),λj u E=>by
  rw[LT]at E;split at E
  ·exact h.cell j u E
  cases E⟩
instance:Bw prog 121 z15 [(0,10),(10,5)]:=⟨od,og⟩
theorem yy (E:Kb w 4096):Q5 prog 4 [] w λr w'=>r=.bool true/\O3 [] w w':=by
 refine Zs func4 ntmps4 results4 ?_;refine Qe<|Qc<|Q3 (α:=Unit) [(0,4)] (λz=>[(0,.bool true)]) (λz w'=>O3 [] w w') ol ?_ ?_
 ·refine Qw<|Qa<|xf<|(Qdk E).mono ?_;rintro J O ⟨rfl,G⟩;refine Qb<|Qa<|xf<|(QdZ (E.I G)).mono ?_;rintro r2 S ⟨rfl,H⟩;refine QK U<|Qc ?_;exact⟨(),La,G.D H⟩
 rintro z g T I;exact Ql ⟨[.bool true],La,U,I⟩
theorem Qiu {c:CL}{q:MV}(h0:ZF L w.heap c)(hu:0<=q.ix)(hk:q.kd=1\/q.kd=2\/q.kd=3)(hr:q.kd=1->q.ix<(c.rq.length:Int))(hx:q.kd=2->q.ix<(c.ex.length:Int))(hs:q.kd=3->q.ix<(c.cs.length:Int)):
  Q5 prog 66 [c.val,.agg #[oF oG q.kd,oF oG q.ix,q.v]] w λr w'=>r=.agg #[oF oG (ZM c.V q.m).1,.string (ZM c.V q.m).2]/\O3 [] w w':=by
 have h:=h0.up (L':=[]) oe;have hb:((q.ix.toNat:Nat):Int)=q.ix:=Int.toNat_of_nonneg hu;refine Zs func66 ntmps66 results66 ?_;refine Qe<|Qa<|QS (us:=c.cells) U λb2 w1 hl h6 hv=>Qa<|QS (us:=[oF oG q.kd,oF oG q.ix,q.v]) U λb3 w2 hc h7 hm=>Qa<|Qo (us:=[oF oG 0,.string .empty]) U λb4 w3 T h8 hn=>xe ?_;have hw:=(hl.D hc).D T;refine Qe<|Qs U (hm.I T) U U<|x (Qz ⟨U,Z⟩)<|Qa<|Qo (us:=[oF oG 0,.string .empty]) U λb5 w4 hy hz h1=>Qa<|Qj (us:=[oF oG q.kd,.string .empty]) h1 U U U U oA λw5 h2 he=>xe ?_;have V:O3 [] w3 w5:=hy.O h2 hz;have ho:=hw.D V;have hf:=((hv.I hc).I T).I V;have Y:=(hm.I T).I V;have hg:=hn.I V;have h9:=hn.lt;have hh:b4∉[b5]:=om
 have hA:=hl.size;have hB:=hc.size;have h5:=h.I ho;have fin:∀(nm:ByteArray) (I w8:OZ),(ZM c.V q.m)=(q.kd,nm)->O3 [b5] w5 I->Q7 I.heap b5 114 [oF oG q.kd,.string nm]->O3 [b4] I w8->(Value.agg #[oF oG q.kd,.string nm]=.agg #[oF oG (ZM c.V q.m).1,.string (ZM c.V q.m).2]/\O3 [] w w8):=λnm I w8 e h3 _ h4 =>
  ⟨by rw[e],(ho.O h3 oa).O h4 oa⟩
 refine Qd<|Qe<|Qs U Y U U<|xe<|Qg<|Qe<|x (Q9 U U)<|Qc<|QZ U (λhi=>?_) (λhi=>?_)
 ·have hk1:q.kd=1:=hi;have E:q.ix.toNat<c.rq.length:=by have:=hr hk1;omega
  refine Qw<|Qs U hf U U<|Qs U Y U U<|O6 (g:=QO) (i:=q.ix.toNat) Yj h5.rq.arr U (show Go.Lg.ev _ _=_ from OT (Value.int .i64) hb.symm) E λhp J =>
   x (Zg rfl)<|x (QD (J.fld 0 (.string (c.rq[q.ix.toNat]'E).nm) U) U)<|Q0 U<|Qa<|QA (j:=1) (u:=.string (c.rq[q.ix.toNat]'E).nm) he U U oe rfl λw6 G H=>xe ?_
  refine Qe<|Q2 H U U<|Qa<|Qj (us:=[oF oG q.kd,.string (c.rq[q.ix.toNat]'E).nm]) (hg.J G hh) U U U U oA λI O S=>xe ?_;refine Ql ⟨[.agg #[oF oG q.kd,.string (c.rq[q.ix.toNat]'E).nm]],⟨⟨_,U,Qn U (S.at (L:=[]) oe).cells⟩,Z⟩,fin _ _ _ ?_ G H O⟩;unfold ZM;rw[OS (show q.m.kd=1 from hk1)];refine Prod.ext U ?_;show((c.rq.map IV.it).getD q.ix.toNat ⟨.empty,Uf⟩).nm=_;simp[oQ,E,IV.it]
 have hk1:¬q.kd=1:=hi;refine Qe<|x (Q9 U U)<|Qc<|QZ U (λhj=>?_) (λhj=>?_)
 ·have ha:q.kd=2:=hj;have E:q.ix.toNat<c.ex.length:=by have:=hx ha;omega
  refine Qw<|Qs U hf U U<|Qs U Y U U<|O6 (g:=Q6) (i:=q.ix.toNat) Xi h5.ex.arr U (show Go.Lg.ev _ _=_ from OT (Value.int .i64) hb.symm) E λhp J =>
   x (Zg rfl)<|x (QD (J.fld 0 (.string (c.ex[q.ix.toNat]'E).nm) U) U)<|Q0 U<|Qa<|QA (j:=1) (u:=.string (c.ex[q.ix.toNat]'E).nm) he U U oe rfl λw6 G H=>xe ?_
  refine Qe<|Q2 H U U<|Qa<|Qj (us:=[oF oG q.kd,.string (c.ex[q.ix.toNat]'E).nm]) (hg.J G hh) U U U U oA λI O S=>xe ?_;refine Ql ⟨[.agg #[oF oG q.kd,.string (c.ex[q.ix.toNat]'E).nm]],⟨⟨_,U,Qn U (S.at (L:=[]) oe).cells⟩,Z⟩,fin _ _ _ ?_ G H O⟩;unfold ZM;rw[OR (show ¬q.m.kd=1 from hk1),OS (show q.m.kd=2 from ha)];refine Prod.ext U ?_;show((c.ex.map XV.x).getD q.ix.toNat ⟨.empty,[]⟩).nm=_;simp[oQ,E,XV.x]
 have ha:¬q.kd=2:=hj;have hq:q.kd=3:=oa
 have E:q.ix.toNat<c.cs.length:=by have:=hs hq;omega
 refine Qe<|x (Q9 U U)<|Qc<|QZ U (λht=>?_) (λht=>OU hq ht);refine Qw<|Qs U hf U U<|Qs U Y U U<|O6 (g:=Zc) (i:=q.ix.toNat) Xb h5.cs.arr U (show Go.Lg.ev _ _=_ from OT (Value.int .i64) hb.symm) E λhp J =>
  x (Zg rfl)<|x (QD (J.fld 0 (.string (c.cs[q.ix.toNat]'E).nm) U) U)<|Q0 U<|Qa<|QA (j:=1) (u:=.string (c.cs[q.ix.toNat]'E).nm) he U U oe rfl λw6 G H=>xe ?_
 refine Qe<|Q2 H U U<|Qa<|Qj (us:=[oF oG q.kd,.string (c.cs[q.ix.toNat]'E).nm]) (hg.J G hh) U U U U oA λI O S=>xe ?_;refine Ql ⟨[.agg #[oF oG q.kd,.string (c.cs[q.ix.toNat]'E).nm]],⟨⟨_,U,Qn U (S.at (L:=[]) oe).cells⟩,Z⟩,fin _ _ _ ?_ G H O⟩;unfold ZM;rw[OR (show ¬q.m.kd=1 from hk1),OR (show ¬q.m.kd=2 from ha)];refine Prod.ext U ?_;show((c.cs.map KV.k).getD q.ix.toNat ⟨.empty,[],0⟩).nm=_;simp[oQ,E,KV.k]
theorem Qk4 {l:List VA}{k:Ky}(hi:i<l.length)(h:Ks ((l.take i).map (·.pt)) k=none):
  ((l[i]'hi).e.ky=k->Ks (l.map (·.pt)) k=some (l[i]'hi).pt)/\((l[i]'hi).e.ky≠k->Ks ((l.take (i+1)).map (·.pt)) k=none):=by
 unfold Ks at h ⊢;refine⟨λe=>?_,λe=>?_⟩
 ·have hl:l=l.take i++(l[i]'hi)::l.drop (i+1):=by rw[<-LE hi,MB]
  have E:l.map (·.pt)=(l.take i).map (·.pt)++((l[i]'hi).pt::(l.drop (i+1)).map (·.pt)):=by
   rw[<-LG,<-Lp,<-hl]
  rw[E,List.find?_append,h,Option.none_or,List.find?_cons_of_pos];exact OV e
 rw[Ll hi,Lp,List.find?_append,h,Option.none_or,LG,List.find?_cons_of_neg]
 ·rfl
 exact λh=>e (OW h)
theorem jF {v:O0}{ps:List VA}{k:Ky}(h0:Pts L w.heap v ps):
  Q5 prog 67 [v,.agg (Xa k).toArray] w λr w'=>O3 [] w w'/\∃(us:LV) (is:Bool),r=.tuple #[.agg us.toArray,.bool is]/\us.length=15/\Zj us/\(is=true->∃q∈ps,us=Zn q/\Ks (ps.map (·.pt)) k=some q.pt)/\(is=false->Ks (ps.map (·.pt)) k=none):=by
 have h:Pts [] w.heap v ps:=h0.up oe;have hy:=h.arr.le;refine Zs func67 ntmps67 results67 ?_;refine Qe<|Qa<|QS (us:=Xa k) U λb3 w1 ha hz hj=>Qa<|Qo (us:=z15) U λb4 w2 hb h1 hl=>Qc ?_;have hm:=ha.D hb;refine Qd<|Qe<|Qc<|Qg<|QC (α:=Nat) [(5,24)] (λz=>[(6,oF oG z)]) (λz w'=>z<=ps.length/\O3 [] w2 w'/\Ks ((ps.take z).map (·.pt)) k=none) (λz=>ps.length - z) ol 0 La ⟨Ln _,O3.Z _ _,U⟩ ?_;rintro i g H ⟨hi,I,J⟩;have O:=hm.D I;have S:=Go.Lg.Ja.I h O;have he:=hl.I I;have hn:=(hj.I hb).I I;have h2:=ha.size;refine Qd<|Qm<|Qb<|QL S.arr U<|QX U U<|xe<|QG rfl (λT=>?_) (λT=>?_)
 ·refine Qx ?_;have ho:ps.length<=i:=by have hr:¬(i:Int)<(ps.length:Int):=T;omega
  rw[Ls ho]at J;refine Qe<|x (Zt [] Z)<|Qa<|Qj (us:=z15) he U U U U ⟨U,U,U,U,U,U,U,U,U,U,U,U,U,U,U,Z⟩ λw4 hs ht=>Qc ?_;exact Ql ⟨[.agg z15.toArray,.bool false],⟨⟨_,U,Qn U (ht.at (L:=[]) oe).cells⟩,rfl,Z⟩,O.O hs oa,z15,false,rfl,rfl,⟨rfl,rfl,rfl,rfl,rfl,rfl,rfl,rfl,rfl,rfl,rfl,rfl,rfl,rfl,rfl,Z⟩,(λe=>by cases e),λ_=>J⟩
 have E:i<ps.length:=by have hr:(i:Int)<(ps.length:Int):=T;omega
 have V:=Qk4 E J;have Y:=Lm E;refine Qh<|Qd<|Qg<|Qd<|QR (O3 [] H) [oD 0,oD 1,oD 2,oD 3,oD 4,oD 5,oD 6,oD 7] mixed ol od (O3.C _ _) ?_;refine p Qy<|p Qy<|Lg.pig (g:=Zn) (i:=i) U Kr S.arr U U E λh4 hf=>?_;refine Zk (ps[i]'E) λq hq=>?_;rw[hq]at hf V Y;have hg:=h.each q Y;refine p (λ_=>Zg U)<|p (λ_=>Zg U) <|
  pq (λ_ hc=>Qv (us:=Xa q.e.ky) ((((hf.from 0).from 0).pre 2).I hc) U U)<|pq (λ_ hc=>Zx (hn.I hc) U U)<|p (λ_=>QbB (xs:=Xa q.e.ky) (ys:=Xa k) U U U)<|pe ?_
 have hd:O3 [] H { H with drawn:=H.drawn+1 }:=O3.C _ _
 refine QW rfl (λG=>?_) (λG=>?_)
 ·rw[QaB]at G;have hk:q.e.ky=k:=OW G;have hp:=V.1 hk;refine Qe ?_;have hu:=Go.Lg.Ja.I S hd;refine Qb<|Qb<|O6 (g:=Zn) (i:=i) Kr hu.arr U U E λh5 hh=>?_;rw[hq]at hh;refine x (Qv hh U U)<|Qa<|Qj (us:=Zn q) (he.I hd) U U U U hg.ones λw5 hv hw=>Qc ?_;exact Ql ⟨[.agg (Zn q).toArray,.bool true],⟨⟨_,U,Qn U (hw.at (L:=[]) oe).cells⟩,rfl,Z⟩,(O.D hd).O hv oa,Zn q,true,rfl,rfl,hg.ones,λ_=>⟨q,Y,rfl,hp⟩,(λe=>by cases e)⟩
 rw[QaB]at G;have hk:q.e.ky≠k:=OY G;refine Qh<|Qw<|Qb<|QN U U<|Qc ?_;exact⟨i+1,oa,La,E,I.D hd,V.2 hk⟩
theorem Qau {m:MdV}{ss:List StV}{q:StV}(h:MdA L w m)(e:m.ss=ss++[q])(hl:m.ss.length<=1000):
  Q5 prog 30 [pS m.b] w λr w'=>r=.agg (JP q).toArray/\O3 [] w w':=by
 obtain⟨T,S⟩:=h.blk;have V:Zv [] w.heap m.vs m.ss.length 6 (m.ss.flatMap JP):=QH h.rs oa oe;have hg:m.ss.length=ss.length+1:=by rw[e];simp
 have H:ss.length<m.ss.length:=oa
 have Y:m.ss[ss.length]'H=q:=by
  have e2:m.ss[ss.length]?=some q:=by rw[e];simp
  exact(L7.1 e2).2
 have ha:=(h.sA q (by rw[e];simp)).ones;refine Zs func30 ntmps30 results30 ?_;refine Qe<|Qa<|Qo (us:=[Zw,Zw,Zw,Zw,Zw,Zw]) U λb2 w1 G hh hb=>xe ?_;have I:=S.I G;have J:=V.I G;have hi:(m.ss.length:Int) - 1=((ss.length:Nat):Int):=oa
 refine Qd<|QR (O3 [] w1) [oD 0,oD 1,oD 2,oD 3,oD 4,oD 5,oD 6,oD 7,oD 8,oD 9,oD 10,oD 11,oE 12] mixed ol od (O3.C _ _) ?_;refine p Qy<|p (YO U)<|p (QP U)<|pq (λ_ E=>Qq (I.I E) U U)<|p Qy<|p (YO U) <|
  p (QP rfl)<|pq (λ_ E=>Qq (I.I E) U U)<|p (λ_=>Yo J U)<|p (λ_=>Jb U U ⟨oa,oa⟩) <|
  Lg.pig (g:=JP) (i:=ss.length) U QkF J U (show Go.Lg.ev _ _=_ from OT (Value.int .i64) hi) H λhj O=>?_
 rw[Y]at O;refine pq (λ_ E=>Qv (O.I E) U U)<|pkl (hl:=by kernel_rfl)<|Qj (us:=JP q) (hb.I (O3.C _ _)) U U U U ha λw2 he hf =>
  pe ?_
 exact Ql ⟨[.agg (JP q).toArray],⟨⟨_,U,Qn U (hf.at (L:=[]) oe).cells⟩,Z⟩,rfl,(G.D (O3.C _ _)).O he oa⟩
abbrev z6:LV:=[Zw,Zw,Zw,Zw,Zw,Zw]
instance:Bw prog 97 z6 [(0,5),(5,1)]:=⟨od,og⟩
theorem VL {l:List VA}{k:Ky}:Ks (l.map (·.pt)) k=none↔k∉l.map (·.e.ky):=by
 unfold Ks;rw[List.find?_eq_none];refine⟨λh G=>?_,λh p H I=>?_⟩
 ·obtain⟨q,E,rfl⟩:=LD.1 G;exact h q.pt (LK E) (OV U)
 obtain⟨q,E,rfl⟩:=LD.1 H;exact h (LD.2 ⟨q,E,OW I⟩)
structure NxI (LL:LN)(B:Nat)(w':OZ)(z:BlS):Prop where
 o:Ub Zn 15 121 Vz (ob z.vk++(ob z.vm++LL)) B w' z.vo z.qs
 k:w'.ownsRow B 114 2 z.vk z.K.length (z.K.flatMap Xa)
 m:w'.ownsRow B 114 2 z.vm z.M.length (z.M.flatMap Xa)
 d1:∀b∈ob z.vo,b∉ob z.vk/\b∉ob z.vm
 d2:∀b∈ob z.vk,b∉ob z.vm
section
variable {LL:LN}{w8:OZ}{z:BlS}
theorem NxI.J {X:LN}(h:NxI LL B w z)(I:O3 X w w8)(H:∀b∈X,b∈LL/\b<B):NxI LL B w8 z:=by
 have ge:=Qi h.o.own;have gk:=Qi h.k;have gm:=Qi h.m;refine⟨h.o.J I λb E=>⟨.inl (Lc.2 (.inr (Lc.2 (.inr (H b E).1)))),λG=>?_⟩,Qf h.k I λb E G=>?_,Qf h.m I λb E G=>?_,h.d1,h.d2⟩
 ·have:=ge b G;have:=(H b E).2;omega
 ·have:=gk b E;have:=(H b G).2;omega
 have:=gm b E;have:=(H b G).2;omega
theorem NxI.I (h:NxI LL B w z)(E:O3 [] w w8):NxI LL B w8 z:=h.J E λ_ G=>by cases G
theorem NxI.part (h:NxI LL B w z){H:O0}{q:VA}(S:Vz (ob z.vo++(ob z.vk++(ob z.vm++LL))) w.heap q)(T:w8.ownsRow B 121 15 H (z.qs.length+1) (z.qs.flatMap Zn++Zn q))(I:O3 (ob z.vo) w w8)
  (J:∀b∈ob H,b∈ob z.vo\/w.heap.size<=b):NxI LL B w8 { z with vo:=H,qs:=z.qs++[q] }:=by
 have gk:=Qi h.k;have gm:=Qi h.m;refine⟨h.o.app S T I J,Qf h.k I (λb G E=>(h.d1 b E).1 G),Qf h.m I (λb G E=>(h.d1 b E).2 G),λb G=>?_,h.d2⟩;rcases J b G with O|O
 ·exact h.d1 b O
 exact⟨λE=>ou (gk b E),λE=>ou (gm b E)⟩
theorem NxI.kept (h:NxI LL B w z){H:O0}{k:Ky}(T:w8.ownsRow B 114 2 H (z.K.length+1) (z.K.flatMap Xa++Xa k))(O:O3 (ob z.vk) w w8)
  (S:∀b∈ob H,b∈ob z.vk\/w.heap.size<=b):NxI LL B w8 { z with vk:=H,K:=z.K++[k] }:=by
 have ge:=Qi h.o.own;have gm:=Qi h.m;have hd:∀b∈ob H,b∉ob z.vo/\b∉ob z.vm:=λb E=>by
  rcases S b E with I|I
  ·exact⟨λG=>(h.d1 b G).1 I,h.d2 b I⟩
  exact⟨λG=>ou (ge b G),λG=>ou (gm b G)⟩
 have V:w8.ownsRow B 114 2 H (z.K++[k]).length ((z.K++[k]).flatMap Xa):=by
  rw[Lj,LA];simpa using T
 refine⟨⟨Qf h.o.own O (λb E J=>(h.d1 b E).1 J),λq Y=>?_⟩,V,Qf h.m O (λb E J=>h.d2 b J E),λb E=>⟨λJ=>(hd b J).1 E,(h.d1 b E).2⟩,λb E=>(hd b E).2⟩;have I:Vz (ob H++(ob z.vo++(ob z.vk++(ob z.vm++LL)))) w.heap q:=Mm.up (h.o.each q Y) λb E=>by
  rcases Lc.1 E with E|E
  ·exact(S b E).imp (λh3=>Lc.2 (.inr (Lc.2 (.inl h3)))) id
  exact .inl E
 have G:=Mm.st I (O.mono λb E=>Lc.2 (.inr (Lc.2 (.inr (Lc.2 (.inl E))))));refine Mm.mono G λb E=>?_;rcases Lc.1 E with E|E
 ·exact Lc.2 (.inr (Lc.2 (.inl E)))
 rcases Lc.1 E with E|E
 ·exact Lc.2 (.inl E)
 exact Lc.2 (.inr (Lc.2 (.inr (Lc.2 (.inr E)))))
theorem NxI.mades (h:NxI LL B w z){I:O0}{k:Ky}(T:w8.ownsRow B 114 2 I (z.M.length+1) (z.M.flatMap Xa++Xa k))(O:O3 (ob z.vm) w w8)
  (S:∀b∈ob I,b∈ob z.vm\/w.heap.size<=b):NxI LL B w8 { z with vm:=I,M:=z.M++[k] }:=by
 have ge:=Qi h.o.own;have gk:=Qi h.k;have hd:∀b∈ob I,b∉ob z.vo/\b∉ob z.vk:=λb E=>by
  rcases S b E with J|J
  ·exact⟨λG=>(h.d1 b G).2 J,λG=>h.d2 b G J⟩
  exact⟨λG=>ou (ge b G),λG=>ou (gk b G)⟩
 have V:w8.ownsRow B 114 2 I (z.M++[k]).length ((z.M++[k]).flatMap Xa):=by
  rw[Lj,LA];simpa using T
 refine⟨⟨Qf h.o.own O (λb E H=>(h.d1 b E).2 H),λq Y=>?_⟩,Qf h.k O (λb E H=>h.d2 b E H),V,λb E=>⟨(h.d1 b E).1,λH=>(hd b H).1 E⟩,λb E H=>(hd b H).2 E⟩;have J:Vz (ob I++(ob z.vo++(ob z.vk++(ob z.vm++LL)))) w.heap q:=Mm.up (h.o.each q Y) λb E=>by
  rcases Lc.1 E with E|E
  ·exact(S b E).imp (λh3=>Lc.2 (.inr (Lc.2 (.inr (Lc.2 (.inl h3)))))) id
  exact .inl E
 have G:=Mm.st J (O.mono λb E=>Lc.2 (.inr (Lc.2 (.inr (Lc.2 (.inr (Lc.2 (.inl E))))))));refine Mm.mono G λb E=>?_;rcases Lc.1 E with E|E
 ·exact Lc.2 (.inr (Lc.2 (.inl E)))
 rcases Lc.1 E with E|E
 ·exact Lc.2 (.inr (Lc.2 (.inr (Lc.2 (.inl E)))))
 rcases Lc.1 E with E|E
 ·exact Lc.2 (.inl E)
 exact Lc.2 (.inr (Lc.2 (.inr (Lc.2 (.inr (Lc.2 (.inr E)))))))
theorem NxI.pts (h:NxI LL B w z)(hl:z.qs.length<=1099511627776)(G:∀b∈L,b∈LL/\b<B):Pts L w.heap z.vo z.qs:=by
 have ge:=Qi h.o.own;refine⟨QH h.o.own hl λb E H=>?_,λq I=>Mm.mono (h.o.each q I) λb E=>Lc.2 (.inr (Lc.2 (.inr (Lc.2 (.inr (G b E).1)))))⟩;have:=ge b E;have:=(G b H).2;omega
end
theorem Qf1 {c:CL}{ps:List VA}{v:Int}(h0:ZF L w.heap c)(hp:Pts L' w.heap vb ps)(pp:∀b∈L',b<w.heap.size)(hpl:ps.length<=1000)(hkb:Kb w 4096):
  Q5 prog 25 [c.val,vb,oF oG v] w λr w'=>O3 [] w w'/\∃us ur n,r=.tuple #[.agg us.toArray,.agg ur.toArray,oF oG n,oF oG (X9 c.V (ps.map (·.pt)) v)]/\us.length=6/\Zj us/\ur.length=3/\Zj ur /\
   (X9 c.V (ps.map (·.pt)) v=0->∃vo qs q,us=[c.ve,c.vc,c.vr,c.vx,c.vk,vo]/\ur=Zr q/\n=(q.k2.length:Int)/\qs.map (·.pt)=UP c.V (ps.map (·.pt)) v/\q.rp=Xs c.V (ps.map (·.pt)) v/\Pts L' w'.heap vo qs/\∀M:LN,(∀b∈M,b<w.heap.size)->KO M w'.heap q):=by
 have h:=h0.up (L':=[]) oe;have ke:Pts [] w.heap vb ps:=hp.up oe;refine Zk (ps.map (·.pt)) λbf hw=>?_;rw[hw];have hv:X9 c.V bf v=if Zm c.V≠0 then Zm c.V else(Ki c.V bf v).1:=rfl
 have pu:UP c.V bf v=(Ki c.V bf v).2.1:=rfl;have pw:Xs c.V bf v=⟨(Ki c.V bf v).2.2.1,(Ki c.V bf v).2.2.2,(bf.filter λp=>decide (p.ky∉(O7 c.V).map (ZM c.V))).map (·.ky)⟩:=rfl;have hbR:blL c.V bf v (O7 c.V) [] [] []=Ki c.V bf v:=rfl;refine Zk (X9 c.V bf v) λE hE=>?_;rw[hE]at hv ⊢;have hZ:∀u:O0,u.oneCell'=true->Zj [c.ve,c.vc,c.vr,c.vx,c.vk,u]:=λu hu=>⟨h.ev.arr.one,h.co.arr.one,h.rq.arr.one,h.ex.arr.one,h.cs.arr.one,hu,Z⟩;refine Zs func25 ntmps25 results25 ?_;refine Qe<|Qa<|QS (us:=c.cells) U λb3 w1 hs1 hb3 kf=>Qa<|Qo (us:=z6) U λb6 w2 hs2 hb6 pz=>Qa<|Qo (us:=Yx) U λb7 w3 p0 hb7 p2=>x Qk<|Qc ?_;have kg:=hs2.D p0;have hs03:=hs1.D kg;refine Qe<|Q2 (kf.I kg) U U<|x (Zt [(0,c.cells)] ⟨U,U,Z⟩)<|Qa<|Qo (us:=z6) U λS w4 hs4 hb10 p3=>Qa<|Qj (us:=[c.ve,c.vc,c.vr,c.vx,c.vk,Zw]) p3 U U U U (hZ Zw U) λw5 p4 hB105=>xe ?_;have hs35:O3 [] w3 w5:=hs4.O p4 hb10;refine Qe<|Qa<|Qo (us:=Yx) U λO w6 p5 hb11 p6=>xe ?_;have k9:=hs35.D p5;have p7:=hs03.D k9;have l3:=kf.lt;have l6:=pz.lt;have l7:=p2.lt;have l10:=p3.lt;have l11:=p6.lt;have hz5:=p4.size;refine Qe<|Q2 ((kf.I kg).I k9) U U<|Qa<|xf<|(yx (h.I p7)).mono ?_;rintro r7 w7 ⟨gj,vM,lM,rfl,hM,hMbad,hMgood⟩;have ma:=k9.D gj;have p8:=p7.D gj;have hz7:=gj.size;have h37:=(kf.I kg).I ma;have p9:=(pz.I p0).I ma;have qc:=p2.I ma;have qf:=hB105.I (p5.D gj);have ql:=p6.I gj;refine Qb<|Q8 U U<|Q8 U U<|x Qk<|Qc ?_;have n10:S∉[b6,b7]:=oq
 have gk:O∉[b6,b7]:=oq
 have kh:b6∉[b7]:=om
 have ki:b7∉[b6]:=om
 have s6:∀b∈[b6],b∈[b6,b7]:=oe
 have s7:∀b∈[b7],b∈[b6,b7]:=oe
 refine Qd<|Qm<|ZA U U<|xe<|QZ rfl (λgl=>?_) (λgl=>?_)
 ·rw[OS gl]at hv;have hd:O3 [] w7 { w7 with drawn:=w7.drawn+1 }:=O3.C _ _
  refine Qd<|QR (O3 [b6,b7] w7) [oD 0,oD 1,oD 2,oE 3,oE 4,oD 5,oD 6] mixed ol od (O3.C _ _) ?_;refine pq (λ_ J=>Zx (qf.J J n10) U U)<|pq (λ_ J=>Zx (ql.J J gk) U U)<|p Qy <|
   pk<|Qj (us:=[c.ve,c.vc,c.vr,c.vx,c.vk,Zw]) (p9.I hd) U U U U (hZ Zw U) λw8 ha gm=>⟨hd.any.Q (ha.mono s6),?_⟩
  refine pkl (hl:=by kernel_rfl)<|Qj (us:=Yx) ((qc.I hd).J ha ki) U U U U oB λV hh gn=>p ZH<|p ZH<|pe ?_;exact Ql ⟨[.agg #[c.ve,c.vc,c.vr,c.vx,c.vk,Zw],.agg Yx.toArray,oF oG 0,oF oG (Zm c.V)],⟨⟨_,U,Qn U ((gm.J hh kh).at (L:=[]) oe).cells⟩,⟨_,rfl,Qn rfl (gn.at (L:=[]) oe).cells⟩,rfl,rfl,Z⟩,((p8.D hd).O ha oa).O hh oa,_,Yx,0,by rw[hv];rfl,U,hZ Zw U,U,oB,λh0=>OU (hv.symm.D h0) gl⟩
 rw[OR gl]at hv;have qo:=Lo.1 gl;have hok:yS c.V:=(Z5 qo).sr;have kj:=hMgood qo;have hMl:lM.length<=96:=by have:=Uu hok;rw[<-kj,Lh]at this;exact this
 refine Qh ?_;have mf:∀b∈[S,O],b∈b6::b7::S::O::L'/\b<w7.heap.size:=λb H=>by
  simp only[oK,oJ,or_false]at H;rcases H with rfl|rfl
  ·exact⟨oe,oa⟩
  exact⟨oe,oa⟩
 have hX:∀b∈[S,O],b∈([]:LN)\/w.heap.size<=b:=λb H=>by simp only[oK,oJ,or_false]at H;exact .inr oa
 refine Qd<|Qe<|Qc<|Qg<|QC (α:=BlS) [(8,9),(14,21),(37,118)] (λz=>[(14,oF oG z.k)]) (λz w'=>z.k<=lM.length/\O3 [S,O] w7 w'/\NxI (b6::b7::S::O::L') w7.heap.size w' z/\(∃T,Q7 w'.heap S T [c.ve,c.vc,c.vr,c.vx,c.vk,z.vo])/\(∃T,Q7 w'.heap O T [z.vk,z.vm,Zw])/\blL c.V bf v ((lM.drop z.k).map MV.m) (z.qs.map (·.pt)) z.K z.M=Ki c.V bf v/\z.qs.map (·.e.ky)=(lM.take z.k).map (λq=>ZM c.V q.m)/\(z.qs.length=z.k/\z.K.length<=z.k/\z.M.length<=z.k))
  (λz=>lM.length - z.k) ol ⟨0,Zw,[],Zw,[],Zw,[]⟩ La ⟨Ln _,O3.Z _ _,⟨Ub.nil,QJ _ _ _ _,QJ _ _ _ _,λb H=>by simp[ob]at H,λb H=>by simp[ob]at H⟩,⟨_,qf⟩,⟨_,ql⟩,by rw[List.drop_zero,kj];exact hbR,U,U,Lx _,Lx _⟩ ?_
 rintro⟨k,vo,qs,vk,K,vm,M⟩ g V ⟨hk,hh,hI,⟨T10,kk⟩,⟨T11,kn⟩,hR,go,hql,hKl,hMl'⟩;simp only[]at hk hI hR hql hKl hMl' kk kn go;have ko:O3 [] w V:=p8.then hh (λb H=>.inr ((hX b H).resolve_left oe));have hz9:=hh.size;have h9:=h.I ko;have n3:b3∉[S,O]:=oq
 have qr:=h37.J hh n3;have q0:=p9.J hh oq;have q1:=qc.J hh oq;have q2:∀b∈[S,O],b<w6.heap.size:=λb H=>by simp only[oK,oJ,or_false]at H;omega
 have mg:Zv [] V.heap vM lM.length 3 (lM.flatMap Yh):=((hM.arr (L:=[S,O]) oa q2).st hh).up oe;refine Qd<|Qm<|Qb<|QL mg U<|QX U U<|xe<|QG rfl (λmh=>?_) (λmh=>?_)
 ·refine Qx ?_;have q3:lM.length<=k:=by have mj:¬(k:Int)<(lM.length:Int):=mh;omega
  rw[Ls q3]at go;rw[Lr q3]at hR;have hR0:Ki c.V bf v=(0,qs.map (·.pt),K,M):=hR.symm;rw[hR0]at hv pu pw;have hE0:E=0:=hv;have hks:qs.map (·.e.ky)=(O7 c.V).map (ZM c.V):=by rw[go,<-kj,Mh];rfl
  refine Qd<|Qe<|Qc<|Qg<|QC (α:=Nat×O0×List Ky) [(22,24),(119,149)] (λz=>[(22,oF oG z.1)]) (λz w'=>z.1<=ps.length/\O3 [O] V w'/\Q7 w'.heap O T11 [vk,vm,z.2.1]/\w'.ownsRow V.heap.size 114 2 z.2.1 z.2.2.length (z.2.2.flatMap Xa)/\z.2.2=((ps.take z.1).filter λp=>decide (p.e.ky∉(O7 c.V).map (ZM c.V))).map (·.e.ky))
   (λz=>ps.length - z.1) ol (0,Zw,[]) La ⟨Ln _,O3.Z _ _,kn,QJ _ _ _ _,U⟩ ?_
  rintro⟨i,vg,G⟩ g hy ⟨hi,hY,kq,hH,hG⟩;simp only[]at hi kq hH hG;have mo:O3 [] w hy:=ko.O hY oa;have hz10:=hY.size;have q4:=Go.Lg.Ja.I ke mo;have q5:=kk.J hY om;have h610:=q0.J hY om;have h710:=q1.J hY om;have mq:=hI.J hY (λb H=>mf b (Lk _ H));have hPq10:Pts [] hy.heap vo qs:=mq.pts oh (λb H=>by cases H);have hGl:G.length<=1000:=by
   rw[hG,Lh];refine LJ (Ma _ _) ?_;rw[Ly];omega
  have hd:O3 [] hy { hy with drawn:=hy.drawn+1 }:=O3.C _ _
  refine Qd<|Qm<|Qb<|QL q4.arr U<|QX U U<|xe<|QG U (λms=>?_) (λms=>?_)
  ·refine Qx ?_;have hie:ps.length<=i:=by have mj:¬(i:Int)<(ps.length:Int):=ms;omega
   rw[Ls hie]at hG;have j1:Zj [vk,vm,vg]:=⟨Qt hI.k,Qt hI.m,Qt hH,Z⟩;have hmA:Zv [] hy.heap vm M.length 2 (M.flatMap Xa):=QH mq.m (show M.length<=1099511627776 by omega) oe;refine Qd<|QR (O3 [b6,b7] hy) [oD 0,oD 1,oD 2,oD 3,oD 4,oE 5,oE 6,oD 7,oD 8] mixed ol od (O3.C _ _) ?_;refine pq (λ_ J=>Zx (q5.J J n10) U U)<|pq (λ_ J=>Zx (kq.J J gk) U U)<|p (QP U)<|pq (λ_ J=>Qq (kq.J J gk) U U)<|p (λ_=>Yo hmA U) <|
    pk<|Qj (us:=[c.ve,c.vc,c.vr,c.vx,c.vk,vo]) (h610.I hd) U U U U (hZ vo (Qt hI.o.own)) λh6 hD hB611=>⟨hd.any.Q (hD.mono s6),?_⟩
   have j2:O3 [b6,b7] hy h6:=hd.any.Q (hD.mono s6);refine pk<|Qj (us:=[vk,vm,vg]) ((h710.I hd).J hD ki) U U U U j1 λj3 mt hB712=>⟨j2.Q (mt.mono s7),?_⟩;have mu:O3 [b6,b7] hy j3:=j2.Q (mt.mono s7);refine p ZH<|p ZH<|pe ?_;have gp:=mq.J mu (λb H=>by
    simp only[oK,oJ,or_false]at H;rcases H with rfl|rfl
    ·exact⟨oe,oa⟩
    exact⟨oe,oa⟩)
   have za:=Qf hH mu (λb H Y=>by
    have:=(Qi hH b H).1;simp only[oK,oJ,or_false]at Y;omega)
   have hs012:O3 [] w j3:=mo.then mu (λb H=>by simp only[oK,oJ,or_false]at H;exact .inr oa);refine Ql ⟨[.agg #[c.ve,c.vc,c.vr,c.vx,c.vk,vo],.agg #[vk,vm,vg],oF oG (M.length:Int),oF oG 0],⟨⟨_,U,Qn U ((hB611.J mt kh).at (L:=[]) oe).cells⟩,⟨_,rfl,Qn rfl (hB712.at (L:=[]) oe).cells⟩,rfl,rfl,Z⟩,hs012,[c.ve,c.vc,c.vr,c.vx,c.vk,vo],[vk,vm,vg],(M.length:Int),by rw[hE0];rfl,U,hZ vo (Qt hI.o.own),U,j1,
    λ_=>⟨vo,qs,⟨vk,K,vm,M,vg,G⟩,U,U,U,pu.symm,?_,gp.pts oh (λb H=>⟨by simp[H],ou (pp b H)⟩),λN hN=>⟨QH gp.k (show K.length<=1099511627776 by omega) (λb H hbL=>ov (Qi gp.k b H).1 (hN b hbL)),QH gp.m (show M.length<=1099511627776 by omega) (λb H hbL=>ov (Qi gp.m b H).1 (hN b hbL)),QH za (show G.length<=1099511627776 by omega) (λb H hbL=>ov (Qi za b H).1 (hN b hbL))⟩⟩⟩
   rw[pw];show Rp.mk K M G=_;rw[hG,<-hw,List.filter_map,Mh];rfl
  have I:i<ps.length:=by have mj:(i:Int)<(ps.length:Int):=ms;omega
  have gq:ps.take (i+1)=ps.take i++[ps[i]'I]:=Ll I;have gr:=Lm I;refine Qh<|Qd<|Qg<|?_;refine Q3 (α:=Bool) [(125,136),(23,24)] (λz=>[(24,.bool z)]) (λz w'=>O3 [] hy w'/\(z=true↔(ps[i]'I).e.ky∈(O7 c.V).map (ZM c.V))) ol ?_ ?_
  ·refine XS (α:=LV×Bool) (O3 [] hy) [oD 0,oD 1,oD 2,oD 3,oD 4,oD 5,oD 6,oD 7] [oE 8,oD 9,oD 10,oD 11] 12 23 [oE 13,oD 14] []
    [(125,136)] [(125,125),(134,136)] (λz=>[(135,.agg z.1.toArray),(136,.bool z.2)]) (λz _ _=>z.1.length=15/\Zj z.1/\(z.2=true↔(ps[i]'I).e.ky∈(O7 c.V).map (ZM c.V)))
    (λv w'=>∃b,v=pS b/\hy.heap.size<=b/\Q7 w'.heap b 121 z15) mixed ol od ol U (O3.C _ _) oe ?_ ?_ ?_ ?_
   ·rintro v own wa wb ⟨b,rfl,H,hB⟩ hs hn;exact⟨b,U,H,hB.J hs (hn b ot)⟩
   ·intro z own wa wb hz hs;exact hz
   ·rintro z g5 own wz v5 ⟨z1,z2,z3⟩ gs ⟨b23,rfl,hb23,hB23⟩ _;refine pkl (hl:=by kernel_rfl)<|Qj (us:=z.1) hB23 U U z1 U z2 λw8 ha zv=>p ZH<|pe ?_;exact⟨z.2,La,gs.O ha hb23,z3⟩
   refine p (QP U)<|pq (λ_ J=>Qq (q5.I J) U U)<|p Qy<|p Qy<|Lg.pig (g:=Zn) (i:=i) U Kr q4.arr U U I λa130 h130=>?_;refine p (λ_=>Zg U)<|p (λ_=>Zg U)<|pq (λ_ J=>Qv (us:=Xa (ps[i]'I).e.ky) ((((h130.from 0).from 0).pre 2).I J) U U)<|pe ⟨λg6 wf hJ=>Qo (us:=z15) U λb z0 hL hw hO=>⟨hL,hJ.D hL,⟨b,U,LJ hJ.size hw,hO⟩,λx hx=>?_⟩,?_⟩
   ·have gt:x=b:=by
     have gu:x∈[b]:=hx;simpa using gu
    subst gt;exact⟨hw,hO.lt⟩
   refine f2k λx1 p1 c1=>xf<|(jF (k:=(ps[i]'I).e.ky) (Go.Lg.Ja.I hPq10 c1)).mono ?_;rintro r134 y1 ⟨hQ,us,is,rfl,hl,ho,ht,hf⟩;refine⟨c1.D hQ,[],hQ,(λb H=>by cases H),?_⟩;refine f2p Qy<|f2p (λ_=>Zp U U)<|f2p (λ_=>Zp U U)<|f2e ?_;refine⟨(us,is),oA,hl,ho,?_⟩;rw[<-hks];refine⟨λe=>?_,λY=>?_⟩
   ·obtain⟨q,_,_,hq⟩:=ht e;exact Lo.1 λhn=>by rw[VL.2 hn]at hq;cases hq
   cases is with
   | true=>rfl
   | false=>exact OU Y (VL.1 (hf U))
  rintro is g7 h6 ⟨hD,mv⟩;have z4:O3 [O] V h6:=hY.D hD;have hz11:=hD.size;have mw:=kq.I hD;have z5:=Qp hH hD;refine Zk (ps[i]'I) λq hq=>?_;rw[hq]at gq gr mv;refine Qm<|x (Zz U)<|xe<|QW U (λkr=>?_) (λkr=>?_)
  rotate_left
  ·have my:q.e.ky∈(O7 c.V).map (ZM c.V):=mv.1 (oz kr);refine Qh<|Qw<|Qb<|QN U U<|Qc<|⟨(i+1,vg,G),oh,La,I,z4,mw,z5,?_⟩;simp only[];rw[gq,LZ,Lp,<-hG,Mc,OR (oz my)];simp
  have my:q.e.ky∉(O7 c.V).map (ZM c.V):=λY=>by rw[mv.2 Y]at kr;cases kr
  have n11g:O∉ob vg:=λY=>ou (Qi hH O Y).1
  have hpG:Pts (ob vg) h6.heap vb ps:=Go.Lg.Ja.I (Go.Lg.Ja.up ke (L':=ob vg) (λb H=>.inr (ov (Qi hH b H).1 ko.size))) (mo.D hD);have hd1:O3 [] h6 { h6 with drawn:=h6.drawn+1 }:=O3.C _ _
  refine QR (O3 (ob vg) h6) [oD 0,oD 1,oD 2,oD 3,oD 4,oD 5,oD 6,oD 7,oE 8,oE 9,oD 10,oE 11] mixed ol od (O3.C _ _) ?_;refine p (QP U)<|pq (λ_ J=>Qq (mw.J J n11g) U U)<|p Qy<|p Qy<|Lg.pig (g:=Zn) (i:=i) U Kr hpG.arr U U I λa143 h143=>?_;rw[hq]at h143;refine p (λ_=>Zg U)<|p (λ_=>Zg U)<|pq (λ_ J=>Qv (us:=Xa q.e.ky) ((((h143.from 0).from 0).pre 2).st J) U U)<|pk<|QB (us:=[Xa q.e.ky]) U U og (by exact(by decide:1*2<=1000000)) oA λb147 w14 hs14 hb147 hB147=>⟨(hd1.D hs14).any,?_⟩;have gv:O3 [] h6 w14:=hd1.D hs14;have hz14:=gv.size;refine pk<|Za (m:=1) (news:=Xa q.e.ky) (L:=[]) (Qp z5 gv) U U U (by have:=hB147.at (L:=[]) oe;simpa using this) (by simp[Value.oneCell']) oa oa λmz w15 ho15 m2 hn15=>⟨gv.any.Q m2,?_⟩;refine p (QP U)<|pkl (hl:=by kernel_rfl)<|QA (j:=2) (u:=mz) ((mw.I gv).J m2 n11g) U U oe (Qt ho15) λh3 hr m3=>pe ?_;refine Qw<|Qb<|QN U U<|Qc ?_;have hs915:O3 [O] V w15:=(z4.D gv).then m2 (λb H=>.inr (Qi hH b H).1);refine⟨(i+1,mz,G++[q.e.ky]),oh,La,I,hs915.Q hr,m3,?_,?_⟩
  ·have h15:w15.ownsRow V.heap.size 114 2 mz (G++[q.e.ky]).length ((G++[q.e.ky]).flatMap Xa):=by
    rw[Lj,LA];simpa using ho15
   refine Qf h15 hr (λb H Y=>?_);have:=(Qi h15 b H).1;rw[Lb.1 Y]at this;omega
  simp only[];rw[gq,LZ,Lp,<-hG,Mc,OS (OV my)];rfl
 have I:k<lM.length:=by have mj:(k:Int)<(lM.length:Int):=mh;omega
 have gq:lM.take (k+1)=lM.take k++[lM[k]'I]:=Ll I;have gr:=Lm I;rw[LE I,LG,QcB]at hR;have hqI:QQ [] V.heap (lM[k]'I).v (lM[k]'I).co:=((hM.each _ gr [S,O] (λb H=>.inl (q2 b H))).st hh).up oe;have hqm:(lM[k]'I).m∈O7 c.V:=by rw[<-kj];exact LK gr
 have ga:=Qez hqm;have hfk:∀x,O3 [] V x->Q5 prog 64 [c.val,.agg #[oF oG (lM[k]'I).kd,oF oG (lM[k]'I).ix,(lM[k]'I).v]] x _:=λx hx=>jv (q:=lM[k]'I) (h9.I hx) (hqI.I hx);have hK:∀x,O3 [] V x->Q5 prog 66 [c.val,.agg #[oF oG (lM[k]'I).kd,oF oG (lM[k]'I).ix,(lM[k]'I).v]] x _:=λx hx=>Qiu (q:=lM[k]'I) (h9.I hx) ga.1 ga.2.1 (λe=>by have:=ga.2.2.1 e;rwa [show c.V.rq.length=c.rq.length from Lh ..]at this) (λe=>by have:=ga.2.2.2.1 e;rwa [show c.V.ex.length=c.ex.length from Lh ..]at this) (λe=>by have:=ga.2.2.2.2 e;rwa [show c.V.cs.length=c.cs.length from Lh ..]at this);have gw:=λp:xH=>jX (c:=c.V) (bf:=bf) (v:=v) (m:=(lM[k]'I).m) (p:=p);have gx:=Qfn (c:=c.V) (bf:=bf) (v:=v) (m:=(lM[k]'I).m);have hb0:=Qfo (c:=c.V) (bf:=bf) (v:=v) (m:=(lM[k]'I).m);have m4:KM c.V v (lM[k]'I).m=⟨ZM c.V (lM[k]'I).m,v,suA (X8 c.V (lM[k]'I).m),(KR (X8 c.V (lM[k]'I).m)).1,(KR (X8 c.V (lM[k]'I).m)).2.1,(KR (X8 c.V (lM[k]'I).m)).2.2,X8 c.V (lM[k]'I).m⟩:=rfl;have kt:(lM.take (k+1)).map (λq=>ZM c.V q.m)=(lM.take k).map (λq=>ZM c.V q.m)++[ZM c.V (lM[k]'I).m]:=by rw[gq,Lp];rfl
 have hi9:∀x:OZ,O3 [] V x->Zv [] x.heap vM lM.length 3 (lM.flatMap Yh):=λx hx=>mg.I hx;refine Qh<|Qd<|Qg<|?_;refine Q3 (α:=Nat×CL) [(43,51),(15,16)] (λz=>[(15,pS z.1),(16,oF oG (zi c.V (lM[k]'I).m))]) (λz w'=>O3 [] V w'/\V.heap.size<=z.1/\Zj z.2.cells/\Q7 w'.heap z.1 44 z.2.cells/\(zi c.V (lM[k]'I).m=0->z.2.V=X8 c.V (lM[k]'I).m/\∀N:LN,(∀b∈N,b<V.heap.size)->ZF N w'.heap z.2)) ol ?_ ?_
 ·refine XS (α:=CL) (O3 [] V) [oD 0,oD 1,oD 2,oD 3,oD 4] [oE 5,oD 6,oD 7,oD 8] 9 15 [oE 10,oD 11] []
   [(43,51)] [(43,43),(49,51)] (λz=>[(50,.agg z.cells.toArray),(51,oF oG (zi c.V (lM[k]'I).m))]) (λz own w'=>Zj z.cells/\(zi c.V (lM[k]'I).m=0->z.V=X8 c.V (lM[k]'I).m/\∀(N:LN) (b':Nat),(∀b∈N,b<V.heap.size)->V.heap.size<=b'->b'∉own->ZF (b'::N) w'.heap z))
   (λv w'=>∃b,v=pS b/\V.heap.size<=b/\Q7 w'.heap b 44 ZY) mixed ol od ol U (O3.C _ _) oe ?_ ?_ ?_ ?_
  ·rintro v own wa wb ⟨b,rfl,H,hB⟩ hs hn;exact⟨b,U,H,hB.J hs (hn b ot)⟩
  ·rintro z own wa wb ⟨z1,z2⟩ hs;exact⟨z1,λe=>⟨(z2 e).1,λN b' hN hb' hn=>((z2 e).2 N b' hN hb' hn).I hs⟩⟩
  ·rintro z g5 own wz v5 ⟨z1,z2⟩ gs ⟨ku,rfl,gy,kv⟩ hbo;have hbn:=(hbo ku ot).1;refine pkl (hl:=by kernel_rfl)<|Qj (us:=z.cells) kv U U U U z1 λw8 ha hB158=>p ZH<|pe ?_;refine⟨(ku,z),oA,gs.O ha gy,gy,z1,hB158,λe=>⟨(z2 e).1,λN hN=>?_⟩⟩;have h1:=(z2 e).2 N ku hN gy hbn;exact Mm.mono (Mm.st h1 (ha.mono λb H=>by rw[Lb.1 H];exact Lt)) λb H=>Lk _ H
  refine pq (λ_ J=>Zx (qr.I J) U U)<|p Qy<|p Qy<|Lg.pig (g:=Yh) (i:=k) U Qdg mg U U I λa47 h47=>?_;refine pq (λ_ J=>Qv (us:=Yh (lM[k]'I)) (h47.I J) U U)<|pe ⟨λg6 wf hJ=>Qo (us:=ZY) U λb z0 hL hw hO=>⟨hL,hJ.D hL,⟨b,U,LJ hJ.size hw,hO⟩,λx hx=>?_⟩,?_⟩
  ·have gt:x=b:=by
    have gu:x∈[b]:=hx;simpa using gu
   subst gt;exact⟨hw,hO.lt⟩
  refine f2k λx1 p1 c1=>xf<|(hfk x1 c1).mono ?_;rintro r49 y1 ⟨hQ,cm,rfl,ho,hg⟩;refine⟨c1.D hQ,US x1.heap.size y1.heap.size,hQ.any,(λb H=>.inr (ZE.1 H)),?_⟩;refine f2p Qy<|f2p (λ_=>Zp U U)<|f2p (λ_=>Zp U U)<|f2e ?_;refine⟨cm,oA,ho,λe=>⟨(hg e).1,λN b' hN hb' hn=>?_⟩⟩;have hNx:∀b∈N,b<x1.heap.size:=λb H=>LU (hN b H) c1.size;by_cases h7:b'<x1.heap.size
  ·exact(hg e).2 (b'::N) (λb H=>by
    rcases Li.1 H with rfl|H
    ·exact h7
    exact hNx b H)
  by_cases h8:b'<y1.heap.size
  ·exact OU (ZE.2 ⟨Nn h7,h8⟩) hn
  exact((hg e).2 N hNx).up λb H=>by
   rcases Li.1 H with rfl|H
   ·exact .inr (Nn h8)
   exact .inl H
 rintro⟨ku,cm⟩ g9 h3 ⟨hr,gy,ho5,kv,hgood⟩;simp only[]at gy ho5 kv hgood;have m5:=ko.D hr;have hz16:=hr.size;have hI16:=hI.I hr;have hB1016:=kk.I hr;have m3:=kn.I hr;have h616:=q0.I hr;have h716:=q1.I hr;have kw:Zj [vk,vm,Zw]:=⟨Qt hI.k,Qt hI.m,U,Z⟩;have kx:=hZ vo (Qt hI.o.own);refine Qd<|Qm<|ZA U U<|xe<|QZ rfl (λgz=>?_) (λgz=>?_)
 ·have he:=hb0 gz;rw[he,OS gz]at hR;rw[<-hR]at hv;have hd:O3 [] h3 { h3 with drawn:=h3.drawn+1 }:=O3.C _ _
  refine Qd<|QR (O3 [b6,b7] h3) [oD 0,oD 1,oD 2,oE 3,oE 4,oD 5,oD 6] mixed ol od (O3.C _ _) ?_;refine pq (λ_ J=>Zx (hB1016.J J n10) U U)<|pq (λ_ J=>Zx (m3.J J gk) U U)<|p Qy <|
   pk<|Qj (us:=[c.ve,c.vc,c.vr,c.vx,c.vk,vo]) (h616.I hd) U U U U kx λw8 ha gm=>⟨hd.any.Q (ha.mono s6),?_⟩
  refine pkl (hl:=by kernel_rfl)<|Qj (us:=[vk,vm,Zw]) ((h716.I hd).J ha ki) U U U U kw λV hh gn=>p ZH<|p ZH<|pe ?_;exact Ql ⟨[.agg #[c.ve,c.vc,c.vr,c.vx,c.vk,vo],.agg #[vk,vm,Zw],oF oG 0,oF oG (zi c.V (lM[k]'I).m)],⟨⟨_,U,Qn U ((gm.J hh kh).at (L:=[]) oe).cells⟩,⟨_,rfl,Qn rfl (gn.at (L:=[]) oe).cells⟩,rfl,rfl,Z⟩,((m5.D hd).O ha oa).O hh oa,_,[vk,vm,Zw],0,by rw[hv];rfl,U,kx,U,kw,λh0=>OU (hv.symm.D h0) gz⟩
 have m6:=Lo.1 gz;have gw:=λp=>gw p m6;have gx:=gx m6;have g0:=hgood m6;refine Zk (lM[k]'I) λq hq=>?_;rw[hq]at hR gw gx m4 kt gr hqI hqm ga hfk hK g0;refine Qh<|Zk (ZM c.V q.m) λky hky=>?_;rw[hky]at gw gx hK hR m4 kt;refine Q3 (α:=Nat) [(57,62),(17,17)] (λz=>[(17,pS z)]) (λz w'=>O3 [] h3 w'/\h3.heap.size<=z/\Q7 w'.heap z 114 (Xa ky)) ol ?_ ?_
 ·refine XS (α:=Unit) (O3 [] h3) [oD 0,oD 1,oD 2,oD 3,oD 4] [oE 5] 6 17 [oE 7] []
   [(57,62)] [(62,62)] (λ_=>[(62,.agg (Xa ky).toArray)]) (λ_ _ _=>True)
   (λv w'=>∃b,v=pS b/\h3.heap.size<=b/\Q7 w'.heap b 114 [oF oG 0,.string .empty]) mixed ol od ol U (O3.C _ _) oe ?_ ?_ ?_ ?_
  ·rintro v own wa wb ⟨b,rfl,H,hB⟩ hs hn;exact⟨b,U,H,hB.J hs (hn b ot)⟩
  ·intro z own wa wb hz hs;trivial
  ·rintro z g5 own wz v5 _ gs ⟨g2,rfl,m7,kz⟩ _;refine pkl (hl:=by kernel_rfl)<|Qj (us:=Xa ky) kz U U U U oA λw8 ha zv=>pe ?_;exact⟨g2,La,gs.O ha m7,m7,zv⟩
  refine pq (λ_ J=>Zx ((qr.I hr).I J) U U)<|p Qy<|p Qy<|Lg.pig (g:=Yh) (i:=k) U Qdg (hi9 h3 hr) U U I λa60 h60=>?_;rw[hq]at h60;refine pq (λ_ J=>Qv (us:=Yh q) (h60.I J) U U)<|pe ⟨λg6 wf hJ=>Qo (us:=[oF oG 0,.string .empty]) U λb z0 hL hw hO=>⟨hL,hJ.D hL,⟨b,U,LJ hJ.size hw,hO⟩,λx hx=>?_⟩,?_⟩
  ·have gt:x=b:=by
    have gu:x∈[b]:=hx;simpa using gu
   subst gt;exact⟨hw,hO.lt⟩
  refine f2k λx1 p1 c1=>xf<|(hK x1 (hr.D c1)).mono ?_;rintro _ y1 ⟨rfl,hQ⟩;refine⟨c1.D hQ,[],hQ,(λb H=>by cases H),?_⟩;exact f2e ⟨(),La,Z⟩
 rintro g2 g10 w17 ⟨hs17,m7,kz⟩;have hs017:=m5.D hs17;refine Qd<|Qm<|Q2 kz U U<|Qa<|xf<|(jF (k:=ky) (Go.Lg.Ja.I ke hs017)).mono ?_;rintro r19 w18 ⟨hs18,us,is,rfl,m8,huo,hut,huf⟩;rw[hw]at hut huf;refine Qb<|Q8 U U<|Q8 U U<|Qa<|Qo (us:=z15) U λb18 w19 hs19 hb18 hB18=>Qa<|Qj (us:=us) hB18 U U m8 U huo λgb hs20 hB1820=>Qc ?_;have hs1720:O3 [] w17 gb:=hs18.D (hs19.O hs20 hb18);have k0:=hs17.D hs1720;have hs020:=m5.D k0;have hB1520:=kv.I k0;have m9:∀N:LN,(∀b∈N,b<V.heap.size)->ZF N gb.heap cm:=λN hN=>(g0.2 N hN).I k0;refine Q3 (α:=Bool) [(69,75)] (λz=>[(75,.bool z)]) (λz w'=>O3 [] gb w'/\(z=true->∃p∈ps,us=Zn p/\p.e.ky=ky/\Kj c.V bf v q.m=(0,p.pt,true))/\(z=false->Kj c.V bf v q.m=(YN (X8 c.V q.m),KM c.V v q.m,false))) ol ?_ ?_
 ·refine Qw<|Qb<|xB J0 (λpa=>?_) (λpa=>?_)
  ·refine Exists.elim (hut pa) λp h4=>?_;have k4:Vz [] gb.heap p:=(Go.Lg.Ja.I ke hs020).each p h4.1;have k5:=h4.2.1;have hEq:Q5 prog 29 [p.c.val,cm.val] gb λr w'=>r=.bool (decide (p.c.V=X8 c.V q.m))/\O3 [] gb w':=by
    rw[<-g0.1];exact V9 k4.c (m9 [] oe)
   refine Q0 U<|x (Zl (us:=p.c.cells) hB1820 U U (by rw[k5];rfl))<|Q2 hB1520 U U<|Qa<|xf<|hEq.mono ?_;rintro _ w21 ⟨rfl,hF⟩;refine QK U<|xe ?_;have H:=gw p.pt h4.2.2;refine⟨decide (p.c.V=X8 c.V q.m),La,hF,λhz=>⟨p,h4.1,k5,(QbF h4.2.2).2,?_⟩,λhz=>?_⟩
   ·rw[H,OS (show p.pt.c=_ from OW hz)]
   rw[H,OR (show ¬p.pt.c=_ from OY hz)]
  refine Qr<|Qr<|Qr<|Qr<|QK U<|xe ?_;exact⟨false,La,O3.Z _ _,λhz=>OU hz og,λ_=>gx (huf pa)⟩
 rintro zb g11 w21 ⟨hF,hzt,hzf⟩;have pc:=k0.D hF;have pd:=hs020.D hF;have gc:=hr.D pc;have g3:=hI.I gc;have hz21:=gc.size;have pf:=kk.I gc;have hB1121:=kn.I gc;have hB1721:=kz.I (hs1720.D hF);have hB1521:=hB1520.I hF;have gvo:=Qi g3.o.own;have gvk:=Qi g3.k;have gvm:=Qi g3.m;have gvo9:=Qi hI.o.own;have gvk9:=Qi hI.k;have gvm9:=Qi hI.m;have n10o:S∉ob vo:=λY=>ou (gvo S Y).1
 have n10k:S∉ob vk:=λY=>ou (gvk S Y).1
 have n10m:S∉ob vm:=λY=>ou (gvm S Y).1
 have n11o:O∉ob vo:=λY=>ou (gvo O Y).1
 have n11k:O∉ob vk:=λY=>ou (gvk O Y).1
 have n11m:O∉ob vm:=λY=>ou (gvm O Y).1
 have n17o:g2∉ob vo:=λY=>ou (gvo9 g2 Y).2
 have n17k:g2∉[S]:=om
 have pg:∀b∈ob vo++(ob vk++(ob vm++(b6::b7::S::O::L'))),b<V.heap.size/\(b∈L'\/w.heap.size<=b):=λb H=>by
  rcases Lc.1 H with H|H
  ·have:=gvo9 b H;exact⟨this.2,.inr oa⟩
  rcases Lc.1 H with H|H
  ·have:=gvk9 b H;exact⟨this.2,.inr oa⟩
  rcases Lc.1 H with H|H
  ·have:=gvm9 b H;exact⟨this.2,.inr oa⟩
  simp only[oK]at H;rcases H with rfl|rfl|rfl|rfl|H
  ·exact⟨oa,.inr oa⟩
  ·exact⟨oa,.inr oa⟩
  ·exact⟨oa,.inr oa⟩
  ·exact⟨oa,.inr oa⟩
  exact⟨ou (pp b H),.inl H⟩
 have x10:∀b∈[S],b∈b6::b7::S::O::L'/\b<w7.heap.size:=λb H=>mf b (by rw[Lb.1 H];simp);have x11:∀b∈[O],b∈b6::b7::S::O::L'/\b<w7.heap.size:=λb H=>mf b (by rw[Lb.1 H];simp);refine QW rfl (λph=>?_) (λph=>?_)
 ·refine Exists.elim (hzt ph) λp h4=>?_;have k5:=h4.2.1;have H:=h4.2.2.2;rw[H,OR oe,OS rfl]at hR;have k4:Vz (ob vo++(ob vk++(ob vm++(b6::b7::S::O::L')))) w21.heap p:=((hp.each p h4.1).up λb H=>(pg b H).2).I pd;refine Qe<|Qs U pf U U<|Q2 (hB1820.I hF) U m8<|Qa<|QB (us:=[us]) U U og (by exact(by decide:1*15<=1000000)) ⟨U,m8,Z⟩ λb87 pj h5 hb87 hB87=>?_;have hA22:At [] pj.heap ⟨b87,0,none⟩ (Zn p):=by have:=hB87.at (L:=[]) oe;rw[k5]at this;simpa using this
  have hI22:=g3.I h5;refine Qa<|X6 (m:=1) (news:=Zn p) hI22.o.own U U U hA22 (Zj.all k4.ones) (show qs.length+1<=1073741824 by omega) (ou h5.size) λv23 w23 ho23 hS hn23=>?_;have hI23:=hI22.part (k4.I h5) ho23 hS hn23;refine Q0 U<|Qa<|QA (j:=5) (u:=v23) ((pf.I h5).J hS n10o) U U oe (Qt ho23) λw24 hT hB1024=>xe ?_;have hI24:=hI23.J hT x10;have hB1124:=((hB1121.I h5).J hS n11o).J hT om;have hB1724:=((hB1721.I h5).J hS n17o).J hT n17k;refine Qe<|Qs U hB1124 U U<|Q2 hB1724 U U<|Qa<|QB (us:=[Xa ky]) U U og (by exact(by decide:1*2<=1000000)) oA λb92 w25 hU hb92 hB92=>?_;have hI25:=hI24.I hU;have zz22:=h5.size;have zz23:=hS.size;have zz24:=hT.size;have zz25:=hU.size;refine Qa<|Za (m:=1) (news:=Xa ky) (L:=[]) hI25.k U U U (by have:=hB92.at (L:=[]) oe;simpa using this) (by simp[Value.oneCell']) (show K.length+1<=1099511627776 by omega) oa λv26 gg ho26 gh hn26=>?_;have pm:=hI25.kept ho26 gh hn26;refine Q0 U<|Qa<|QA (j:=0) (u:=v26) ((hB1124.I hU).J gh n11k) U U oe (Qt ho26) λk6 hj hB1127=>xe ?_;have hV:=pm.J hj x11;have hB1027:=((hB1024.I hU).J gh n10k).J hj om;refine Qx<|Qw<|Qb<|QN U U<|Qc ?_;have hs727:O3 [S,O] w7 k6:=((((((hh.D gc).D h5).then hS (λb H=>.inr (gvo b H).1)).Q (hT.mono oe)).D hU).then gh (λb H=>.inr (gvk b H).1)).Q (hj.mono oe);refine⟨⟨k+1,v23,qs++[p],v26,K++[ky],vm,M⟩,oh,La,I,hs727,⟨hV.o,hV.k,hV.m,hV.d1,hV.d2⟩,⟨_,hB1027⟩,⟨_,hB1127⟩,?_,?_,by simp only[oM,oO];omega⟩
  ·simp only[];rw[Lp];exact hR
  simp only[];rw[Lp,go,kt,<-h4.2.2.1];rfl
 have H:=hzf ph;rw[H]at hR;have hSy:=qA ((m9 [] oe).I hF) (hkb.I pd);rw[g0.1]at hSy;refine Qh<|Qe<|Q2 hB1521 U U<|Qa<|xf<|hSy.mono ?_;rintro r36 pj ⟨h5,us8,c0,c1,c2,c3,sa,st,sm,se,oo,rfl,hl8,ho8,hW,k7⟩;refine Qb<|Q8 U U<|Q8 U U<|Q8 U U<|Qa<|Qo (us:=[nS,oF oG 0,nS,nS,nS,nS,nS,nS]) U λb20 w23 hS hb20 hB20=>Qa<|Qo (us:=[nS,nS,nS,oF oG 0,nS,oF oG 0,nS,nS,nS]) U λb21 w24 hT hb21 hB21 =>
  Qa<|Qj (us:=us8) (hB20.I hT) U U hl8 U ho8 λw25 hU hB2025=>?_
 have hl20:=hB20.lt;have n2021:b21∉[b20]:=om
 refine Qa<|Qj (us:=[c0,c1,c2,c3,sa,oF oG st,sm,se,oo]) (hB21.J hU n2021) U U U U ⟨hW.1,hW.2.1,hW.2.2.1,hW.2.2.2.1,hW.2.2.2.2.1,U,hW.2.2.2.2.2.1,hW.2.2.2.2.2.2.1,hW.2.2.2.2.2.2.2.1,Z⟩ λgg gh hB2126=>Qc ?_;have g4:O3 [] pj gg:=(((hS.D hT).O hU oa).O gh oa);have h2:=h5.D g4;have hs026:=pd.D h2;have hz2126:=h2.size;have pm:=g3.I h2;have pn:=pf.I h2;have hB1126:=hB1121.I h2;refine Qd<|Qm<|ZA U U<|xe<|QZ rfl (λg8=>?_) (λg8=>?_)
 ·rw[OS g8]at hR;rw[<-hR]at hv;have h626:=h616.I (pc.D h2);have h726:=h716.I (pc.D h2);have hd:O3 [] gg { gg with drawn:=gg.drawn+1 }:=O3.C _ _
  refine Qd<|QR (O3 [b6,b7] gg) [oD 0,oD 1,oD 2,oE 3,oE 4,oD 5,oD 6] mixed ol od (O3.C _ _) ?_;refine pq (λ_ J=>Zx (pn.J J n10) U U)<|pq (λ_ J=>Zx (hB1126.J J gk) U U)<|p Qy <|
   pk<|Qj (us:=[c.ve,c.vc,c.vr,c.vx,c.vk,vo]) (h626.I hd) U U U U kx λw8 ha gm=>⟨hd.any.Q (ha.mono s6),?_⟩
  refine pkl (hl:=by kernel_rfl)<|Qj (us:=[vk,vm,Zw]) ((h726.I hd).J ha ki) U U U U kw λV hh gn=>p ZH<|p ZH<|pe ?_;exact Ql ⟨[.agg #[c.ve,c.vc,c.vr,c.vx,c.vk,vo],.agg #[vk,vm,Zw],oF oG 0,oF oG (YN (X8 c.V q.m))],⟨⟨_,U,Qn U ((gm.J hh kh).at (L:=[]) oe).cells⟩,⟨_,rfl,Qn rfl (gn.at (L:=[]) oe).cells⟩,rfl,rfl,Z⟩,((hs026.D hd).O ha oa).O hh oa,_,[vk,vm,Zw],0,by rw[hv];rfl,U,kx,U,kw,λh0=>OU (hv.symm.D h0) g8⟩
 rw[OR g8,OR oe]at hR;have k7:=k7 (Lo.1 g8);have hst:=k7.1;have hB1726:=hB1721.I h2;have hB1526:=hB1521.I h2;refine Qh<|Qe<|Zk (⟨⟨ky,v,⟨sa,sm,se,suA (X8 c.V q.m)⟩,c0,(KR (X8 c.V q.m)).1,c1,(KR (X8 c.V q.m)).2.1,c2,(KR (X8 c.V q.m)).2.2⟩,cm⟩:VA) λP hP=>?_;have hPc:[oF oG ky.1,.string ky.2,oF oG v,sa,oF oG st,sm,se,c0,c1,c2,cm.ve,cm.vc,cm.vr,cm.vx,cm.vk]=Zn P:=by rw[<-hP,hst]
 refine Qs rfl pn U U<|Q2 hB1726 U U<|Qb<|Q0 U<|x (Zl (us:=[sa,oF oG st,sm,se]) hB2126 U U U)<|Q0 U<|x (Zl (us:=[c0,c1,c2]) hB2126 U U U) <|
  x (Zt [(0,Xa ky),(1,[oF oG v]),(2,[sa,oF oG st,sm,se]),(3,[c0,c1,c2])] ⟨U,U,U,U,U,U,U,U,Z⟩)<|Q2 hB1526 U U<|x (Zt [(0,[oF oG ky.1,.string ky.2,oF oG v,sa,oF oG st,sm,se,c0,c1,c2]),(1,cm.cells)] ⟨U,U,U,U,Z⟩) <|
  Qa<|QB (us:=[[oF oG ky.1,.string ky.2,oF oG v,sa,oF oG st,sm,se,c0,c1,c2,cm.ve,cm.vc,cm.vr,cm.vx,cm.vk]]) U U og (by exact(by decide:1*15<=1000000)) oA λb115 k6 hj hb115 hB115=>?_
 have hA27:At [] k6.heap ⟨b115,0,none⟩ (Zn P):=by have:=hB115.at (L:=[]) oe;rw[<-hPc];simpa using this
 have hV:=pm.I hj;have hz27:=hj.size;have hPA:Vz (ob vo++(ob vk++(ob vm++(b6::b7::S::O::L')))) k6.heap P:=by
  obtain⟨hA,hC⟩:=k7.2 _ (λb H=>ou (pg b H).1);have hcmX:=((m9 _ (λb H=>(pg b H).1)).I hF).I h2;rw[<-hP];exact⟨⟨(hA.I g4).I hj,(hC.k.I g4).I hj,(hC.d.I g4).I hj,(hC.r.I g4).I hj⟩,hcmX.I hj⟩
 refine Qa<|X6 (m:=1) (news:=Zn P) hV.o.own U U U hA27 (Zj.all hPA.ones) (show qs.length+1<=1073741824 by omega) oa λv28 w28 ho28 gi hn28=>?_;have hI28:=hV.part hPA ho28 gi hn28;refine Q0 rfl<|Qa<|QA (j:=5) (u:=v28) ((pn.I hj).J gi n10o) U U oe (Qt ho28) λw29 ka hB1029=>xe ?_;have hI29:=hI28.J ka x10;have hB1129:=((hB1126.I hj).J gi n11o).J ka om;have hB1729:=((hB1726.I hj).J gi n17o).J ka n17k;have zz28:=gi.size;have zz29:=ka.size;refine Qw<|Qs U hB1129 U U<|Q2 hB1729 U U<|Qa<|QB (us:=[Xa ky]) U U og (by exact(by decide:1*2<=1000000)) oA λb120 w30 kb hb120 hB120=>?_;have hI30:=hI29.I kb;have zz30:=kb.size;refine Qa<|Za (m:=1) (news:=Xa ky) (L:=[]) hI30.m U U U (by have:=hB120.at (L:=[]) oe;simpa using this) (by simp[Value.oneCell']) (show M.length+1<=1099511627776 by omega) oa λv31 w31 ho31 k8 hn31=>?_;have hI31:=hI30.mades ho31 k8 hn31;refine Q0 rfl<|Qa<|QA (j:=1) (u:=v31) ((hB1129.I kb).J k8 n11m) U U oe (Qt ho31) λw32 po hB1132=>xe ?_;have kc:=hI31.J po x11;have hB1032:=((hB1029.I kb).J k8 n10m).J po om;refine Qw<|Qb<|QN U U<|Qc ?_;have hs732:O3 [S,O] w7 w32:=(((((((hh.D gc).D h2).D hj).then gi (λb H=>.inr (gvo b H).1)).Q (ka.mono oe)).D kb).then k8 (λb H=>.inr (gvm b H).1)).Q (po.mono oe);refine⟨⟨k+1,v28,qs++[P],vk,K,v31,M++[ky]⟩,oh,La,I,hs732,⟨kc.o,kc.k,kc.m,kc.d1,kc.d2⟩,⟨_,hB1032⟩,⟨_,hB1132⟩,?_,?_,by simp only[oM,oO];omega⟩
 ·simp only[];rw[Lp];have hPp:[P].map (·.pt)=[KM c.V v q.m]:=by
   rw[m4,<-hP];show[VA.pt _]=_;unfold VA.pt;rw[g0.1]
  rw[hPp];exact hR
 simp only[];rw[Lp,go,kt,<-hP];rfl
theorem Qnr {pS:String}{fs:Array Field}(ft o:Nat){x:O1}(vs:LV)(E:P.underlying t=some (.struct fs))(G:(fs[j]?).map (λd=>(d.type,d.offset))=some (ft,o))[h1:Ag P ft sz](hx:ev f x=.agg us.toArray)(H:us.toArray.extract o (o+sz)=vs.toArray):
  (execOp (ev f) ⟨d,.field t x j,ty,pS,af,gd⟩).run P w=.ok (.value (.agg vs.toArray)) w:=by
 obtain⟨fd,I,J⟩:=Mo.1 G;cases J
 rw[<-H];simp[execOp,hx,Instr.field,run_underlying E,I,asAgg,part,QbX (t:=fd.type),Vo (t:=fd.type)]
theorem Qc1 {c:CL}(J:ZF L w.heap c)(hL:∀b∈L,b<w.heap.size)(hz:CSz c.V)(h4:Kb w 4096):
  Q5 prog 8 [c.val] w λr w'=>O3 [] w w'/\∃vp,r=.tuple #[vp,oF oG (K6 c.V)]/\(K6 c.V≠0->vp=Us)/\(K6 c.V=0->∃m:MdV,vp=pS m.b/\m.is (Qdf c.V)/\(∀b∈m.own,w.heap.size<=b)/\MdA (m.own++L) w' m):=by
 have h:=J.up (L':=[]) oe;have G:K6 c.V=if(YK c.V).1≠0 then(YK c.V).1 else if Zm c.V≠0 then Zm c.V else X9 c.V [] 0:=rfl
 refine Zk (K6 c.V) λE hE=>?_;rw[hE]at G ⊢;refine Zs func8 ntmps8 results8 ?_;refine Qe<|Qa<|QS (us:=c.cells) U λb1 w1 hf hR hh=>x Qk<|Qc ?_;have hS:=hf.size;refine Qd<|Qe<|Q2 hh U U<|Qa<|xf<|(Qdo (h.I hf) hz).mono ?_;rintro r2 w2 ⟨V,v2,rfl,_,_⟩;have hi:=hf.D V;have hT:=V.size;refine Qb<|Q8 U U<|Q8 U U<|x Qk<|Qc<|Qm<|ZA U U<|xe<|QZ rfl (λY=>?_) (λY=>?_)
 ·rw[OS Y]at G;refine Qm<|x Qk<|Qc ?_;exact Ql ⟨[Us,oF oG (YK c.V).1],oA,hi,Us,by rw[G];rfl,λ_=>U,λJ=>OU (G.symm.D J) Y⟩
 rw[OR Y]at G;refine Qh<|Qd<|Qe<|Q2 (hh.I V) U U<|Qa<|xf<|(Y7 (h.I hi)).mono ?_;rintro r3 w3 ⟨rfl,hj⟩;have ha:=hi.D hj;have hU:=hj.size;refine Qc<|Qm<|ZA U U<|xe<|QZ rfl (λhc=>?_) (λhc=>?_)
 ·rw[OS hc]at G;refine Qm<|x Qk<|Qc ?_;exact Ql ⟨[Us,oF oG (Zm c.V)],oA,ha,Us,by rw[G];rfl,λ_=>U,λJ=>OU (G.symm.D J) hc⟩
 rw[OR hc]at G;refine Qh<|Qe ?_;have h5:Pts L w3.heap Zw []:=⟨Zv.nil _ _ _,λq T=>by cases T⟩;have hN:=Qf1 (L':=L) (v:=0) (h.I ha) h5 (λb H=>ou (hL b H)) (Ln _) (h4.I ha);rw[show([]:List VA).map (·.pt)=[] from rfl]at hN;refine Q2 ((hh.I V).I hj) U U<|Qa<|xf<|hN.mono ?_;rintro r4 w4 ⟨h6,us,ur,n,rfl,h7,h8,h9,hA,hp⟩;have he:=ha.D h6;refine Qb<|Q8 U U<|Q8 U U<|Q8 U U<|Q8 U U<|Qa<|Qo (us:=z6) U λb7 w5 hB hV hr =>
  Qa<|Qo (us:=Yx) U λb8 w6 hs hW hC=>Qa<|Qj (us:=us) (hr.I hs) U U h7 U h8 λw7 ht hD=>?_
 have hX:=hr.lt;refine Qa<|Qj (us:=ur) (hC.J ht om) U U h9 U hA λw8 hu hY=>x Qk<|Qc ?_;have hk:O3 [] w4 w8:=((hB.D hs).O ht oa).O hu oa;have hF:=he.D hk;have hv:=hD.J hu om;refine Qd<|Qm<|ZA U U<|xe<|QZ rfl (λhl=>?_) (λhl=>?_)
 ·refine Qm<|x Qk<|Qc ?_;exact Ql ⟨[Us,oF oG (X9 c.V [] 0)],oA,hF,Us,by rw[G];rfl,λ_=>U,λJ=>OU (G.symm.D J) hl⟩
 have hw:X9 c.V [] 0=0:=Lo.1 hl;have hy:E=0:=G.D hw;refine Qh<|Exists.elim (hp hw) λvo I=>Exists.elim I λqs I=>Exists.elim I λq I=>?_;have hG:=I.1;have hn:=I.2.2.1;have hH:=I.2.2.2.1;have hI:=I.2.2.2.2.1;have hJ:=I.2.2.2.2.2.1;clear I hp;rw[hG]at hv;refine Qe<|Q2 hv U U<|Qa<|QB (us:=[[c.ve,c.vc,c.vr,c.vx,c.vk,vo]]) U U og (by exact(by decide:1*6<=1000000)) oA λS w9 hK hZ h1=>Qb<|x (Qz ⟨U,U,Z⟩) <|
  Qa<|QS (us:=[.slice (some ⟨S,0,none⟩) 1 1,Zw,oF oG n]) U λO ga h2 gb hM=>x Qk<|Qc ?_
 have ho:=(hk.D hK).D h2;have hO:=he.D ho;have gc:=hk.size;have gg:=h1.lt;have gh:=he.size;have hP:=Qp (Q7.own h1 (n:=1) (sz:=6) U og (Ln _)) h2;refine Ql ⟨[pS O,oF oG 0],oA,hO,pS O,by rw[hy];rfl,λh=>OU hy h,λ_=>⟨⟨O,.slice (some ⟨S,0,none⟩) 1 1,[⟨c,vo,qs⟩],Zw,[],n⟩,U,⟨?_,U,?_,U⟩,λb H=>?_,⟨⟨_,hM⟩,hP,QJ _ _ _ _,?_,?_,?_,?_,?_,λq T=>by cases T⟩⟩⟩
 ·show[(c.V,qs.map (·.pt))]=[]++[(c.V,UP c.V [] 0)];rw[hH];rfl
 ·show n=((Xs c.V [] 0).made.length:Int);rw[hn,<-hI];rfl
 ·have hQ:b=O\/b=S:=by simpa[MdV.own,ob]using H
  omega
 ·show O∉[S];simp only[oI];omega
 ·show O∉[];simp
 ·intro b H hm;cases hm
 ·intro b H;exact Lc.2 (.inl H)
 intro q T;rw[Lb.1 T];have h3:∀b∈(⟨O,.slice (some ⟨S,0,none⟩) 1 1,[⟨c,vo,qs⟩],Zw,[],n⟩:MdV).own++L,b∈L\/w4.heap.size<=b:=λb H=>by
  rcases Lc.1 H with H|H
  ·have hQ:b=O\/b=S:=by simpa[MdV.own,ob]using H
   exact .inr oa
  exact .inl H
 exact⟨((J.I he).up h3).I ho,Go.Lg.Ja.I (Go.Lg.Ja.up hJ h3) ho⟩
theorem MdV.is.last {m:MdV}{s:Sys}(h:m.is s):∃ss q,m.ss=ss++[q]/\ss.map StV.st=s.un/\q.c.V=s.c/\q.ps.map (·.pt)=s.ps:=by
 obtain⟨G,l2,e1,e2,H⟩:=List.map_eq_append_iff.1 h.1;obtain⟨q,rfl,E⟩:=List.map_eq_singleton_iff.1 H;exact⟨G,q,e1,e2,OT Prod.fst E,OT Prod.snd E⟩
theorem Va {γ:Type}{f:α->γ}{g:β->γ}{l:List α}{l':List β}(h:l.map f=l'.map g){k:Nat}(E:k<l.length)(G:k<l'.length):f (l[k]'E)=g (l'[k]'G):=by
 have H:(l.map f)[k]'(oz E)=f (l[k]'E):=Mu ..;have I:(l'.map g)[k]'(oz G)=g (l'[k]'G):=Mu ..;rw[<-H,<-I];simp only[h]
theorem QgG {k:Nat}{L2:LN}{m:MdV}{s:KI}(hM:MdA L w m)(hS:VO L2 w s)(hk:Xq k s.sys)(ho:m.is s.sys):
  Q5 prog 9 [pS m.b,pS s.b] w λr w'=>r=.bool true/\O3 [] w w':=by
 have hz:CSz s.s.c.V:=yp hk.st.ck;have hl:=hk.len;obtain⟨ss,q,ess,eun,eqc,eqp⟩:=ho.last;have hb:m.ss.length<=1000:=by
  have H:ss.length=s.sys.un.length:=by rw[<-eun,Lh]
  have h2:=hk.l64;rw[ess];simp;omega
 have g7:q.ps.length=s.s.ps.length:=by
  have H:=OT oP eqp;rw[Lh]at H;rw[H];exact Lh _
 have hy:m.rs.map (·.rp)=s.rs.map (·.rp):=ho.2.1;have g8:m.rs.length=s.rs.length:=by have:=OT oP hy;simpa using this
 have hN:m.made=s.made:=ho.2.2.1;have hO:yR L w.heap q:=hM.sA q (by rw[ess];simp);have hP:yR [] w.heap q:=hO.up oe;have hQ:Zv [] w.heap m.vr m.rs.length 3 (m.rs.flatMap Zr):=QH hM.rr oa oe;have hT:∀a∈m.rs,KO [] w.heap a:=λa ha=>(hM.rA a ha).up oe;obtain⟨TM,hU⟩:=hM.blk;refine Zs func9 ntmps9 results9 ?_;refine Qe<|Qc<|Qm<|Qa<|xf<|(Qhz hS hz).mono ?_;rintro r1 w1 ⟨hV,cm,rfl,ecm,hW⟩;have S:=hW [] oe;refine Qb<|Q8 U U<|Q8 U U<|Qa<|Qo (us:=ZY) U λb5 w2 hX hY hZ=>Qa<|Qj (us:=cm.cells) hZ U U U U ⟨S.ev.arr.one,S.co.arr.one,S.rq.arr.one,S.ex.arr.one,S.cs.arr.one,Z⟩ λw3 ga gb =>
  Qc ?_
 have h0:O3 [] w1 w3:=hX.O ga hY;have h3:=hV.D h0;refine Qm<|Qa<|xf<|(Qbs (hS.I h3) hl.2.2).mono ?_;rintro r4 w4 ⟨hp,ve,es,rfl,ees,hE⟩;refine Qb<|Q8 U U<|Q8 U U<|x Qk<|Qc ?_;have h4:=h3.D hp;refine Qm<|Qa<|xf<|(Qbq (hS.I h4) oa).mono ?_;rintro vR J ⟨he,rs,ers,hR⟩;refine Qc ?_;have O:=h4.D he;have eel:es.length=q.ps.length:=by
  have H:=OT oP ees;rw[Lh,Lh]at H;omega
 have erl:rs.length=m.rs.length:=by
  have H:=OT oP ers;rw[Lh,Lh]at H;omega
 have gc:es.map EnV.en=q.ps.map (λp=>p.e.en):=by
  have H:s.s.ps.map (λq=>q.pt.en)=(s.s.ps.map (·.pt)).map xH.en:=by rw[Mh];rfl
  have h2:s.s.ps.map (·.pt)=q.ps.map (·.pt):=eqp.symm;rw[ees,H,h2,Mh];rfl
 have gg:rs.map UQ.rp=m.rs.map UQ.rp:=by rw[ers];exact hy.symm
 have h5:=Go.Lg.Ja.I (hE.lst (L:=[]) oa oe) he;have hR5:=hR.lst (L:=[]) oa oe;have hq:=hP.I O;have hr:=hM.I O;have gh:=hS.I O;have gi:=gb.I (hp.D he);have hs:=hU.I O;have h6:=hQ.I O;have gj:=S.I (h0.D (hp.D he));refine Qd<|Q3 (α:=Unit) [(24,65)] (λ_=>[(65,.bool false)]) (λ_ w'=>O3 [] J w') ol ?_ ?_
 ·have hd:O3 [] J { J with drawn:=J.drawn+1 }:=O3.C _ _
  refine QR (O3 [] J) [oD 0,oD 1,oD 2,oD 3,oD 4,oD 5,oD 6,oD 7,oD 8,oE 9,oD 10,oE 11,oD 12,oD 13,oD 14,oD 15,oD 16,oD 17,oE 18,oD 19,oD 20,oD 21,oD 22,oD 23,oD 24,oD 25,oD 26,oD 27,oD 28,oD 29,oD 30,oD 31,oD 32,oD 33,oD 34,oD 36,oD 37,oD 38,oD 39,oE 35,oD 40,oD 41] mixed ol od (O3.C _ _) ?_;refine p Qy<|pb (λ_=>Jc U U) (λh7=>OU U h7) (λh7=>?_);refine p Qy<|p Qy<|pb (λ_=>Jc U U) (λh8=>OU U h8) (λh8=>?_);refine p (YS U)<|p Qy<|pq (λ_ E=>Zx (gi.I E) U U)<|p Qy<|pk<|xf<|(Qau (hr.I hd) ess hb).mono ?_;rintro _ w6 ⟨rfl,gk⟩;have hf:=hd.D gk;refine⟨hf,?_⟩;have hEq:Q5 prog 29 [cm.val,q.c.val] w6 λr w'=>r=.bool true/\O3 [] w6 w':=by
   have H:=V9 (gj.I hf) (hq.c.I hf);rw[show decide (cm.V=q.c.V)=true from OV (by rw[ecm,eqc];rfl)]at H;exact H
  refine p (λ_=>Qnr 44 0 q.c.cells underlying97 U U U)<|pk<|xf<|hEq.mono ?_;rintro _ w8 ⟨rfl,gl⟩;have ht:=hf.D gl;refine⟨ht,?_⟩;refine pB (λ_=>Zz U) (λh9=>OU h9 oe) (λh9=>?_);refine p (YS U)<|p Qy<|p Qy<|p (λ_=>Yo h5.arr U)<|p Qy<|pk<|xf<|(Qau (hr.I ht) ess hb).mono ?_;rintro _ w9 ⟨rfl,gm⟩;have hg:=ht.D gm;refine⟨hg,?_⟩;refine p (λ_=>jk 95 5 underlying97 U U U)<|p (λ_=>Yo hq.p.arr U)<|pb (λ_=>Jc U U) (λhA=>OU (by rw[eel]) hA) (λhA=>?_);refine p (YS U)<|p Qy<|p Qy<|p (λ_=>Yo hR5.arr U)<|p Qy<|p (YO U) <|
   p (QP rfl)<|pq (λ_ E=>Qq (hs.I E) U U)<|p (λ_=>Yo h6 U)<|pb (λ_=>Jc U U) (λhB=>OU (by rw[erl]) hB) (λhB=>?_)
  have hMd:=Qbr (gh.I hg);rw[<-hN]at hMd;refine p (YS U)<|p Qy<|p Qy<|p Qy<|p (YO U)<|p (QP U) <|
   pq (λ_ E=>Qq (hs.I E) U U)<|pk<|xf<|hMd.mono ?_
  rintro _ g9 ⟨rfl,rfl⟩;refine⟨hg,?_⟩;refine pb (λ_=>Jc U U) (λhC=>OU U hC) (λhC=>?_);refine p (YS U)<|pe ?_;exact⟨(),La,hg⟩
 rintro _ g ka gn;refine ZO rfl ?_;refine Qh<|Qd<|Qe<|Qc<|Qg<|QC (α:=Nat) [(4,4),(10,10),(66,100)] (λz=>[(10,oF oG z)]) (λz w'=>z<=es.length/\O3 [] J w') (λz=>es.length - z) ol 0 La ⟨Ln _,gn⟩ ?_;rintro i g V ⟨hi,Y⟩;have hh:=Go.Lg.Ja.I h5 Y;refine Qd<|Qm<|Qb<|QL hh.arr U<|QX U U<|xe<|QG rfl (λhD=>?_) (λhD=>?_)
 ·refine Qx<|Qd<|Qe<|Qc<|Qg<|QC (α:=Nat) [(4,4),(11,11),(101,119)] (λz=>[(11,oF oG z)]) (λz w'=>z<=rs.length/\O3 [] J w') (λz=>rs.length - z) ol 0 La ⟨Ln _,Y⟩ ?_;rintro j g hm ⟨hj,T⟩;have hu:=Go.Lg.Ja.I hR5 T;refine Qd<|Qm<|Qb<|QL hu.arr U<|QX U U<|xe<|QG U (λhF=>?_) (λhF=>?_)
  ·refine Qx<|Qe<|Qc ?_;exact Ql ⟨[.bool true],La,U,O.D T⟩
  have G:j<rs.length:=by have go:(j:Int)<(rs.length:Int):=hF;omega
  have I:j<m.rs.length:=oa
  refine Qh ?_;have gp:=h6.I T;have gq:=hs.I T;have hd:O3 [] hm { hm with drawn:=hm.drawn+1 }:=O3.C _ _
  have gr:=(hu.each _ (Lm G)).I hd;have gs:=((hT _ (Lm I)).I (O.D T)).I hd;refine Qd<|Qg<|Qd<|QR (O3 [] hm) [oD 0,oD 1,oD 2,oD 3,oD 4,oD 5,oD 6,oD 7,oD 8,oD 9,oD 10,oE 11,oD 12] mixed ol od (O3.C _ _) ?_;refine p Qy<|p Qy<|Lg.pig (g:=Zr) (i:=j) U Qaj hu.arr U U G λkb gt=>pq (λ_ E=>Qv (us:=Zr (rs[j]'G)) (gt.I E) U U) <|
   p Qy<|p (YO U)<|p (QP U)<|pq (λ_ E=>Qq (gq.I E) U U)<|p Qy<|Lg.pig (g:=Zr) (i:=j) U Qaj gp U U I λkc gu =>
   pq (λ_ E=>Qv (us:=Zr (m.rs[j]'I)) (gu.I E) U U)<|pk<|xf<|(yF gr gs (Va gg G I)).mono ?_
  rintro _ ke ⟨rfl,hG⟩;refine⟨hd.D hG,?_⟩;refine p (λ_=>Zz U)<|pe ?_;refine ZO U ?_;refine Qh<|Qw<|Qb<|QN U U<|Qc ?_;exact⟨j+1,oa,La,G,(T.D hd).D hG⟩
 have G:i<es.length:=by have go:(i:Int)<(es.length:Int):=hD;omega
 have I:i<q.ps.length:=oa
 refine Qh ?_;have hv:=hq.I Y;have hH:=hr.I Y;have hI:=Va gc G I;have gv:(es[i]'G).vr=(q.ps[i]'I).e.vr:=OT Ent.vr hI;refine Qd<|Qg<|Q3 (α:=Unit) [(72,100)] (λ_=>[(100,.bool false)]) (λ_ w'=>O3 [] V w') ol ?_ ?_
 ·have hd:O3 [] V { V with drawn:=V.drawn+1 }:=O3.C _ _
  refine QR (O3 [] V) [oD 0,oD 1,oD 2,oD 3,oD 4,oD 7,oE 5,oD 6,oD 8,oD 9,oD 10,oE 11,oD 12,oD 13,oD 14,oD 15,oD 16,oD 17,oD 18,oD 19,oD 22,oE 20,oD 21,oD 23,oD 24,oD 25,oD 26,oD 27,oD 28] mixed ol od (O3.C _ _) ?_;refine p Qy<|p Qy<|Lg.pig (g:=ZR) (i:=i) U Qjb hh.arr U U G λkf gw=>pq (λ_ E=>Qv (us:=ZR (es[i]'G)) (gw.I E) U U) <|
   p Qy<|p Qy<|pk<|xf<|(Qau (hH.I hd) ess hb).mono ?_
  rintro _ kg ⟨rfl,gx⟩;have hn:=hd.D gx;refine⟨hn,?_⟩;have gy:=(hh.each _ (Lm G)).I hn;have gz:=(hv.p.each _ (Lm I)).e.I hn;refine p (λ_=>jk 95 5 underlying97 U U U)<|Lg.pig (g:=Zn) (i:=i) U Kr hv.p.arr U U I λkh g0=>p (λ_=>Zg U)<|pq (λ_ E=>Qv (us:=ZR (q.ps[i]'I).e) (((g0.from 0).pre 10).I E) U U) <|
   pk<|xf<|(Qag gy gz hI).mono ?_
  rintro _ ki ⟨rfl,g2⟩;have hw:=hn.D g2;refine⟨hw,?_⟩;refine pB (λ_=>Zz U) (λhJ=>OU hJ oe) (λhJ=>?_);refine p Qy<|p Qy<|p Qy<|Lg.pig (g:=ZR) (i:=i) U Qjb hh.arr U U G λkj g3=>p (λ_=>Zg U) <|
   pq (λ_ E=>QD ((g3.fld 2 (oF oG (es[i]'G).vr) U).I E) U)<|p Qy<|p Qy<|pk<|xf<|(Qau (hH.I hw) ess hb).mono ?_
  rintro _ kk ⟨rfl,g4⟩;have hK:=hw.D g4;refine⟨hK,?_⟩;refine p (λ_=>jk 95 5 underlying97 U U U)<|Lg.pig (g:=Zn) (i:=i) U Kr hv.p.arr U U I λkn g5=>p (λ_=>Zg U)<|p (λ_=>Zg U)<|pq (λ_ E=>QD (((g5.from 0).fld 2 (oF oG (q.ps[i]'I).e.vr) U).I E) U) <|
   pb (λ_=>Jc U U) (λhL=>OU gv hL) (λhL=>?_)
  refine p (YS U)<|pe ?_;exact⟨(),La,hK⟩
 rintro _ g ko g6;refine ZO rfl ?_;refine Qh<|Qw<|Qb<|QN U U<|Qc ?_;exact⟨i+1,oa,La,G,Y.D g6⟩
section
variable {pS:String}{l:xA}{t':Nat}{x:O1}{k:IntKind}{a b:Int}
theorem QhR (hx:ev f x=.int k a)(E:ev f y=.int k b)(h:a=b):(execOp (ev f) ⟨d,.binOp .eql t x y t',ty,pS,af,gd⟩).run P w=.ok (.value (.bool true)) w:=by
 rw[Q9 hx E,OV h]
end
theorem Qk0 {pS:String}{te:Nat}(G:P.underlying t=some (.pointer te)){x:O1}{a:Option Addr}(hx:ev f x=.pointer a)(H:ev f y=.pointer none):
  (execOp (ev f) ⟨d,.binOp .neq t x y E,ty,pS,af,gd⟩).run P w=.ok (.value (.bool (!a.isNone))) w:=by
 have I:(eqGuard .neq t x y (.pointer a) (.pointer none)).run P w=.ok () w:=by simp[eqGuard]
 have key:∀m,(Op.equalIn (m+1) t (.pointer a) (.pointer none)).run P w=.ok a.isNone w:=by
  intro m;unfold Op.equalIn;cases a <;> simp[run_underlying G]
 have J:(Op.equal t (.pointer a) (.pointer none)).run P w=.ok a.isNone w:=key 9999;simp only[execOp,hx,H,Sem.run_bind,I,Result.andThen_ok,binOp,J,Sem.run_pure]
def cl0:CL:=⟨Zw,Zw,Zw,Zw,Zw,[],[],[],[],[]⟩
theorem nomem {p:α->Prop}:∀q∈([]:List α),p q:=λ_ h=>by cases h
theorem QmW (L:LN)(H:xx):ZF L H cl0:=⟨⟨Zv.nil _ _ _,nomem⟩,⟨Zv.nil _ _ _,nomem,nomem⟩,⟨Zv.nil _ _ _,nomem,nomem⟩,⟨Zv.nil _ _ _,nomem,nomem⟩,⟨Zv.nil _ _ _,nomem,nomem⟩⟩
theorem Qmj:K6 cl0.V=Zm cl0.V:=od
theorem QpV:CSz cl0.V:=⟨Ln _,Ln _,Ln _,Ln _,nomem,nomem⟩
theorem QbR {l:PwV}(hl:PwA w l)(G:Kb w 4096):
  Q5 prog 3 [.agg (XY l).toArray] w λr w'=>r=.bool true/\O3 [] w w':=by
 refine Zs func3 ntmps3 results3 ?_;refine Qe<|Qa<|QS (us:=XY l) U λb1 w1 O hA hb=>Qc ?_;have hc:(XY l).length=152:=Qnv (l:=l.pl []) hl.n;refine Qd<|Q3 (α:=Unit) [(10,16)] (λz=>[(16,.bool (!decide (l.n<=4)))]) (λz w'=>O3 [] w1 w') ol ?_ ?_
 ·refine Qw<|Qa<|xf<|(yy (G.I O)).mono ?_;rintro r2 w2 ⟨rfl,E⟩;refine x (Zz U)<|Qb<|Q2 (hb.I E) U hc<|Qa<|xf<|(Qj2 (l:=l) ⟨hl.n,hl.b,hl.f0,hl.f1,hl.f2,hl.bd,λhn=>by
   obtain⟨rs,h1,h2⟩:=hl.r hn;exact⟨rs,h1,(h2.I O).I E⟩⟩).mono ?_
  rintro r3 S ⟨rfl,H⟩;refine x (Zz U)<|QK U<|xe ?_;exact⟨(),La,E.D H⟩
 rintro⟨⟩ g w2 E;have I:=O.D E;refine QW rfl (λhe=>?_) (λhe=>?_)
 ·refine Qe<|Qa<|xf<|(yy (G.I I)).mono ?_;rintro r3 S ⟨rfl,H⟩;refine Qc ?_;exact Ql ⟨[.bool true],La,U,I.D H⟩
 have hq:l.n<=4:=by simpa using he
 refine Qh<|Exists.elim (hl.pl I hq) λrs hr=>?_;refine Qe<|Q2 (hb.I E) U hc<|Qa<|xf<|(Qf5 hr.1).mono ?_;rintro r3 S ⟨H,_,⟨c,rfl,rfl,hC⟩,hD⟩;have hf:=hC [] oe;have ht:=hD.ck;refine Qa<|Qo (us:=ZY) U λb3 w4 hu hv hw=>Qa<|Qj (us:=c.cells) hw U U U U hf.ones λw5 hy hg=>xe ?_;have hh:O3 [] S w5:=hu.O hy hv;have hi:=(I.D H).D hh;have hj:=hf.I hh;have hz:=yp ht;refine Qe<|Q2 hg U U<|Qa<|xf<|(QdX hj hz (G.I hi)).mono ?_;rintro r6 w6 ⟨T,vp,rfl,h0,h3⟩;refine Qb<|Q8 U U<|Q8 U U<|x Qk<|Qc ?_;have hk:=hi.D T;refine Qe<|Q2 (hg.I T) U U<|Qa<|xf<|(Qc1 (hj.I T) oe hz (G.I hk)).mono ?_;rintro r7 w7 ⟨ho,vm,rfl,hB,h4⟩;refine Qb<|Q8 U U<|Q8 U U<|x Qk<|Qc ?_;have V:=hk.D ho;refine Qd<|Qm<|ZA U U<|xe<|QZ rfl (λY=>?_) (λY=>?_)
 ·have h5:=h0 Y;subst h5;refine Q3 (α:=Unit) [(2,2),(32,38)] (λ_=>[(2,.bool true)]) (λ_ w'=>w'=w7) ol ?_ ?_
  ·refine Qw<|Qb<|x (XX underlying46 U U)<|Qb<|Qb<|Qb<|x (QhR U U U)<|QK U<|Qc ?_;exact⟨(),La,U⟩
  rintro _ g8 w8 rfl;exact Ql ⟨[.bool true],La,U,V⟩
 have J:K6 c.V=0:=Lo.1 Y;refine Qh<|Exists.elim (h3 J) λs hs=>Exists.elim (h4 J) λm hm=>?_;have evp:=hs.1;have esy:=hs.2.1;have hSy:=hs.2.2.2;have evm:=hm.1;have h6:=hm.2.1;have hMd:=hm.2.2.2;refine Qe<|x (Qz Z)<|Qa<|xf<|(QdX (c:=cl0) (QmW [] _) QpV (G.I V)).mono ?_;rintro hE w8 ⟨ha,hF,rfl,_,_⟩;refine Qb<|Q8 U U<|Q8 U U<|x Qk<|Qc ?_;have hAg:=QgG (k:=1) (hMd.I ha) ((hSy.I ho).I ha) (by rw[esy];exact Xq.new J) (by rw[esy];exact h6);rw[<-evp,<-evm]at hAg;refine Q3 (α:=Unit) [(2,2),(44,60)] (λ_=>[(2,.bool true)]) (λ_ w'=>O3 [] w8 w') ol ?_ ?_
 ·refine Qw<|Qb<|xb (Q9 U U) (λhp=>?_) (λhp=>OU J hp);refine Qb<|Qb<|x (Qk0 underlying46 (show Go.Lg.ev _ _=.pointer (some ⟨s.b,0,none⟩) from evp) U)<|QK U<|Qb<|Qb<|Qb<|Qa<|xf<|hAg.mono ?_;rintro _ w9 ⟨rfl,h7⟩;refine QK U<|Qb<|Qb<|x (Qz Z)<|Qa<|xf<|(Y7 (c:=cl0) (QmW [] _)).mono ?_;rintro _ hG ⟨rfl,h8⟩;refine x (QhR U U Qmj)<|QK U<|Qc ?_;exact⟨(),La,h7.D h8⟩
 rintro _ g9 hH h9;exact Ql ⟨[.bool true],La,U,(V.D ha).D h9⟩
open Go.RowKit
theorem Xl {a b:Bool}(E:a=true)(G:b=true):(a && b)=true:=by rw[E,G];rfl
theorem QaF {f:FuncId}{s:ChangeSpec}{c:OpenClaim}(E:(c.wf (OpenSpec.ofChange s))=true)(G:(laidOutB P)=true)(H:(mapsRowed P)=true)(I:(fn.params.all (P.readableRec ·))=true)(J:(namedTie P c.named s.vars)=true)(O:((c.stops == []))=true)(S:((P.stops == []))=true)(T:((c.knobs == []))=true)(V:((P.stopKnobs == []))=true)(Y:((c.inPlace == P.inPlace f))=true)(ha:((c.unfollowed == P.unfollowed f))=true)(hb:((c.recurses == P.recurses f))=true)(hc:((c.named == P.varsNamed f))=true)(he:((c.maps == (fn.params.toList++s.plain.varTypes P).any (P.mapsRec ·)))=true)(hf:((c.ifaces == (fn.params.toList++s.plain.varTypes P).any (P.ifacesRec ·)))=true)(hg:((c.mapsOut == P.mapsAmong fn.resultTypes.toList))=true)(hh:((c.loops == (fn.params.toList++s.plain.varTypes P).any (P.loopsFrom ·)))=true)(hi:((c.wideKeys == (fn.params.toList++s.plain.varTypes P++fn.resultTypes.toList).any (P.wideKeysFrom ·)))=true)(hj:(s.vars.all (P.varReadable ·))=true)(hk:(fn.resultTypes.all (λt=>P.readableRec t && decide (t<P.types.size)))=true)(hl:((c.ifacesOut == fn.resultTypes.toList.any (P.ifacesRec ·)))=true)(hm:((c.loopsOut == fn.resultTypes.toList.any (P.loopsFrom ·)))=true)(hn:((c.plainKeys == P.plainKeys))=true)(ho:(c.shortTexts.isNone)=true)(hp:(P.stopsHeard)=true)(hq:(P.mayEnter)=true)(hr:((c.lifted == P.liftsFinal))=true)(hs:((P.make == some c.make))=true)(ht:((c.kinds == (if c.domain.isEmpty then[]else fn.params.toList.map λt=>match P.underlying t with|some (.int k)=>some k|_=>none)))=true)(hu:((c.pinned == c.pinnedBy))=true)(hv:((c.veiled == (fn.params.toList++s.plain.varTypes P++fn.resultTypes.toList).any (P.veiledRec ·)))=true)(hw:(c.veiledFits P fn.params.toList (fn.params.toList++s.plain.varTypes P++fn.resultTypes.toList))=true):joinedFacts P f fn s c=true:=by
 unfold joinedFacts;exact(Xl (Xl (Xl (Xl (Xl (Xl (Xl (Xl (Xl (Xl (Xl (Xl (Xl (Xl (Xl (Xl (Xl (Xl (Xl (Xl (Xl (Xl (Xl (Xl (Xl (Xl (Xl (Xl (Xl (Xl (Xl E G) H) I) J) O) S) T) V) Y) ha) hb) hc) he) hf) hg) hh) hi) hj) hk) hl) hm) hn) ho) hp) hq) hr) hs) ht) hu) hv) hw)
theorem zW:laidOutB prog=true:=od
theorem Qiy:mapsRowed prog=true:=od
theorem QiA:prog.stopsHeard=true:=od
theorem QiB:prog.mayEnter=true:=od
theorem Qiz:(false == prog.liftsFinal)=true:=od
theorem Qlu:(prog.make == some Make.cut)=true:=od
theorem Qly:(Rows.updateNewRow.inPlace == prog.inPlace 3)=true:=od
theorem Qlx:(Rows.updateNewRow.unfollowed == prog.unfollowed 3)=true:=od
theorem Qlw:(Rows.updateNewRow.recurses == prog.recurses 3)=true:=od
theorem Qlv:(Rows.updateNewRow.named == prog.varsNamed 3)=true:=od
theorem QnU:Rows.updateNewRow.wfByText (OpenSpec.ofChange Rows.updateNewSpec)=true:=od
theorem QnX:Tryz.pinned.checked.prog.mainIs=some (true, "aa84a71a7ba66a7493b7918971ef736ce7e002c23109246aee4004edaa624c6d".toList):=od
theorem QnW:prog.funcNamed "overseer/overseerlaw56.UpdateNew" = some 3:=od
theorem QnY:false=prog.looks []:=od
theorem QnV:([36].all λu=>!prog.wantsStandIn u)=true:=od
theorem QnZ:false=Rows.updateNewRow.goesBy Tryz.pinned.checked.prog:=od
end Go.Lg
