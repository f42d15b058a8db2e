/- Merged out of 40 texts. -/
import Derived.Test.YtnlnkchlcpfehaaGreatDoorNje
import Derived.Test.YtnlnkchlcpfehaaGreatDoorRows
import Derived.JoinedOf
import Derived.Test.YtnlnkchlcpfehaaGreatDoorCards
import Derived.SevenTiedAt
set_option maxHeartbeats 40000000
set_option maxRecDepth 100000
set_option linter.all false
open Go Go.Lg
open Go.Value renaming int->oG
open Go.IntKind renaming i64->oH
open _root_.List renaming mem_singleton->oJ,replicate->oK,not_mem_nil->oL,mem_cons->oM,length_append->oN,getD->oQ,length->oR,range->oT,length_map->o6,append_nil->Ol,map_nil->OD,getElem_map->OG,take_zero->ON
open _root_.Nat renaming le_of_not_lt->OQ,add_assoc->OT,le_refl->OX
open Go renaming World->O8,Value->O9,Operand->xd,Program->xh
open Go.Proofs Go.Proofs.Tryz
open Go.Proofs.Tryz renaming prog->sV
open Go.Proofs.YtnlnkchlcpfehaaGreatDoor
variable {w w':O8}{L L' ds ns:LN}{n t i sz b T j N E g ty id cap b1 kt hi b2 M gp:Nat}{a:QU}{cs us news:LV}{α β:Type}{y:xd}{c:Zy}{z va ve vm v' vl vx vb vk vu:O9}{l ul u al fb rs:LI}{f:Fr}{P:xh}{lf:Lf}{fn:Func}{s rk:Int}{q:DV}{o:Oper}{d:xL}{af:xJ}{gd:xC}{K:xG}{co:List Y0}{bf:List xR}{D:xE}{k':IntKind}{at_:Array Nat}{ks:List KV}
namespace Go.Lg
structure YD (k:Nat)(s:Sys):Prop where
 st:QcA s.c s.ps
 un:∀u∈s.un,QcA u.1 u.2
 ln:s.rs.length=s.un.length
 l64:s.un.length<=64
 m0:0<=s.made
 m1:s.made<=(k:Int)*1000
theorem Qbg {v:Int}(h:KX c bf v=0):(X0 c bf v).made.length<=96:=by
 obtain⟨E,H⟩:=Qmj h;have e:(X0 c bf v).made=((xq c).filter λm=>!(KK c bf v m).2.2).map (Ya c):=by unfold X0;rw[Qcy H]
 rw[e,Lj];exact LJ (Mt _ _) (UZ (ZO E).sr)
theorem YD.S {k k':Nat}{s:Sys}(h:YD k s)(hk:k<=k'):YD k' s:=⟨h.st,h.un,h.ln,h.l64,h.m0,ov h.m1⟩
theorem QqO (h:qQ c=0):(ZT c).1=0/\Zf c=0/\KX c [] 0=0:=by
 unfold qQ at h;by_cases E:(ZT c).1≠0
 .rw[O1 E]at h;exact O3 h E
 rw[O0 E]at h;by_cases H:Zf c≠0
 .rw[O1 H]at h;exact O3 h H
 rw[O0 H]at h;exact⟨Lq.1 E,Lq.1 H,h⟩
theorem YD.new (h:qQ c=0):YD 1 (jY c):=by
 have E:=(QqO h).2.2;have I:=Qbg E;exact⟨Qmh (λp H=>(by cases H)) E,λu hu=>(by cases hu),rfl,Lp _,(by show(0:Int)<=((X0 c [] 0).made.length:Int);omega),(by show((X0 c [] 0).made.length:Int)<=_;omega)⟩
theorem QsX {s:Sys}{es:List (Bool×Yd)}(h:edE s es=0):es.length≠0/\s.un.length≠64/\(q6 s.c es).1=0/\KX (q6 s.c es).2 s.ps ((s.un.length:Int)+1)=0:=by
 unfold edE at h;by_cases H:es.length=0
 .rw[O1 H]at h;cases h
 rw[O0 H]at h;by_cases I:s.un.length=64
 .rw[O1 I]at h;cases h
 rw[O0 I]at h;by_cases E:(q6 s.c es).1≠0
 .rw[O1 E]at h;exact O3 h E
 rw[O0 E]at h;exact⟨H,I,Lq.1 E,h⟩
theorem YD.edit {k:Nat}{s:Sys}{es:List (Bool×Yd)}(E:YD k s)(h:edE s es=0):YD (k+1) (edS s es):=by
 obtain⟨I,J,O,H⟩:=QsX h;have S:=Qbg H;have T:=E.l64;have V:=E.m0;have a1:=E.m1;refine⟨Qmh E.st.ok H,λu hu=>?_,?_,?_,?_,?_⟩
 .rcases Lh.1 hu with hu|hu
  .exact E.un u hu
  rw[Lc.1 hu];exact E.st
 .show(s.rs++[_]).length=(s.un++[_]).length;simp[E.ln]
 .show(s.un++[_]).length<=64;simp;omega
 .show(0:Int)<=s.made+((X0 _ _ _).made.length:Int);omega
 show s.made+((X0 _ _ _).made.length:Int)<=_;omega
theorem YD.undo {k:Nat}{s:Sys}(E:YD k s)(h:s.un≠[]):YD k (unS s):=by
 have e:s.un.getLastD (s.c,s.ps)=s.un.getLast h:=by
  conv=>lhs;rw[<-Nu h]
  exact List.getLastD_concat
 refine⟨?_,λu hu=>E.un u (List.dropLast_subset _ hu),?_,?_,E.m0,E.m1⟩
 .show QcA (s.un.getLastD (s.c,s.ps)).1 (s.un.getLastD (s.c,s.ps)).2;rw[e];exact E.un _ (List.getLast_mem h)
 .show s.rs.dropLast.length=s.un.dropLast.length;rw[List.length_dropLast,List.length_dropLast,E.ln]
 show s.un.dropLast.length<=64;rw[List.length_dropLast];have:=E.l64;omega
theorem YD.len {k:Nat}{s:Ke}(h:YD k s.sys):s.rs.length=s.us.length/\s.us.length<=64/\s.s.ps.length<=1000:=by
 have e1:s.sys.rs.length=s.rs.length:=Lj _;have e2:s.sys.un.length=s.us.length:=Lj _;have H:s.sys.ps.length=s.s.ps.length:=Lj _;have E:=O2 oR h.st.ky;rw[Lj,Lj]at E;have:=UZ (ZO h.st.ck).sr;exact⟨by rw[<-e1,<-e2];exact h.ln,by rw[<-e2];exact h.l64,oa⟩
theorem QhT {k:Nat}{L2:LN}{s:Ke}{xs:List Y4}(h:Vq L w s)(hk:YD k s.sys)(ha:k<=1000)(J:∀b∈L,b<↑w)(hx:Qad L2 ↑w vl xs)(O:∀e∈xs.map Y4.e,jH e.2)(S:Kb w 4096):
  QZ sV 12 [pS s.b,vl] w λr w'=>∃qr:RpV,r=.tuple #[sT (ZP qr),sS (edE s.sys (xs.map Y4.e))]/\(∀N:LN,(∀b∈N,b<↑w)->Ub N ↑w' qr)/\(edE s.sys (xs.map Y4.e)≠0->sW w w'/\qr.rp=⟨[],[],[]⟩) /\
   (edE s.sys (xs.map Y4.e)=0->qr.rp=X0 (q6 s.sys.c (xs.map Y4.e)).2 s.sys.ps ((s.sys.un.length:Int)+1)/\∃E:Ke,E.b=s.b/\E.sys=edS s.sys (xs.map Y4.e)/\YD (k+1) E.sys/\xj s.own w w'/\Vq (E.own++L) w' E/\(∀b∈E.own,b∈s.own\/↑w<=b)/\Ub E.own ↑w' qr):=by
 have H:=hk.len;have m0:0<=s.made:=hk.m0;have m1:s.made<=(k:Int)*1000:=hk.m1;refine(QpB h J hx O hk.st H.2.2 ⟨m0,oa⟩ oa H.2.1 S).S ?_;rintro r w' ⟨qr,e1,e2,T,V⟩;refine⟨qr,e1,e2,T,λI=>?_⟩;obtain⟨f1,E,f2,f3,f4,Y,Z⟩:=V I;have e5:s.sys.un.length=s.us.length:=Lj _;exact⟨by rw[f1,e5];rfl,E,f2,f3,by rw[f3];exact hk.edit I,f4,Y,Z⟩
theorem yC {k:Nat}{L2:LN}{s:Ke}{xs:List Y4}(h:Vq L w s)(hk:YD k s.sys)(H:k<=1000)(I:∀b∈L,b<↑w)(hx:Qad L2 ↑w vl xs)(J:∀e∈xs.map Y4.e,jH e.2)(O:Kb w 4096):
  QZ sV 12 [pS s.b,vl] w λr w'=>∃qr:RpV,r=.tuple #[sT (ZP qr),sS (edE s.sys (xs.map Y4.e))]/\(∀N:LN,(∀b∈N,b<↑w)->Ub N ↑w' qr)/\(edE s.sys (xs.map Y4.e)≠0->sW w w'/\qr.rp=⟨[],[],[]⟩) /\
   (edE s.sys (xs.map Y4.e)=0->qr.rp=X0 (q6 s.sys.c (xs.map Y4.e)).2 s.sys.ps ((s.sys.un.length:Int)+1)/\∃E:Ke,E.b=s.b/\E.sys=edS s.sys (xs.map Y4.e)/\YD (k+1) E.sys/\xj s.own w w'/\Vq (E.own++L) w' E/\∀b∈E.own,b∈s.own\/↑w<=b):=
 (QhT h hk H I hx J O).S λ_ _ ⟨qr,e1,e2,S,T⟩=>⟨qr,e1,e2,S,λV=>let⟨f1,E,f2,f3,f4,Y,Z,f7,_⟩:=T V;⟨f1,E,f2,f3,f4,Y,Z,f7⟩⟩
theorem Qc7 {k:Nat}{s:Ke}(h:Vq L w s)(hk:YD k s.sys):
  QZ sV 36 [pS s.b] w λr w'=>(s.sys.un=[]->r=sS 12/\sW w w') /\
   (s.sys.un≠[]->r=sS 0/\∃E:Ke,E.b=s.b/\E.sys=unS s.sys/\YD k E.sys/\xj s.own w w'/\Vq L w' E/\∀b∈E.own,b∈s.own):=by
 have I:=hk.len;refine(Qpw h I.1 I.2.1).S ?_;rintro r w' ⟨e1,e2⟩;refine⟨λH=>e1 (List.map_eq_nil_iff.1 H),λH=>?_⟩;obtain⟨f1,E,f2,f3,f4,J,O⟩:=e2 λe=>H (by show s.us.map _=[];rw[e];rfl);exact⟨f1,E,f2,f3,by rw[f3];exact hk.undo H,f4,J,O⟩
theorem Qgg {c:CL}(H:ZG L ↑w c)(I:CSz c.Z)(J:Kb w 4096)(hE:qQ c.Z=0):
  QZ sV 8 [c.val] w λr w'=>sW w w'/\∃s:Ke,r=.tuple #[pS s.b,sS 0]/\s.sys=jY c.Z/\YD 1 s.sys/\(∀b∈s.own,↑w<=b)/\Vq (s.own++oT ↑w) w' s:=by
 refine(QmA H I J).S ?_;rintro r w' ⟨O,vp,e1,_,S⟩;obtain⟨s,T,E,V,Y⟩:=S hE;exact⟨O,s,by rw[e1,T,hE],E,by rw[E];exact YD.new hE,V,Y⟩
abbrev Qt3:Y0:=⟨.empty,Vv⟩
theorem QjI :Yo c=0↔Zf c=0/\(UK (auts c.co)=0/\(xz (auts c.co)).isSome=true)/\UK (auts c.co++auts c.rq)=0/\(xz (auts c.co++auts c.rq)).isSome=true:=by
 unfold Yo;constructor
 .intro h;split at h
  .rename_i E;exact O3 h E
  rename_i E;split at h
  .rename_i H;exact O3 h H
  rename_i H;split at h
  .cases h
  rename_i z J;split at h
  .rename_i I;exact O3 h I
  rename_i I;split at h
  .cases h
  rename_i y O;exact⟨Lq.1 E,⟨Lq.1 H,by rw[J];rfl⟩,Lq.1 I,by rw[O];rfl⟩
 rintro⟨E,⟨H,I⟩,S,T⟩;obtain⟨z,J⟩:=NH.1 I;obtain⟨y,O⟩:=NH.1 T;rw[O0 (not_not_intro E),O0 (not_not_intro H),J];simp only[];rw[O0 (not_not_intro S),O]
theorem Qhp {s:List ByteArray}{n:ByteArray}(h:Js s n=0):YE n=true:=by
 unfold Js at h;split at h
 .exact O3 h oh
 rename_i E;simpa using E
theorem Qea {s:List ByteArray}{x:Y0}(h:Z1 n u s x=0):YE x.nm=true:=by
 unfold Z1 at h;split at h
 .exact O3 h oh
 rename_i E;simpa using E
theorem Qeg {n:Nat}{al:LI}:∀{l:List Y0}{s:List ByteArray}{u:LI},(Yr n al s u l).1=0->∀x∈l,YE x.nm=true
 | [],_,_,_,_,hx=>by cases hx
 | y::l,s,u,h,x,hx=>by
  rw[Kc]at h;by_cases E:Z1 n al s y≠0
  .rw[O1 E]at h;exact O3 h E
  rw[O0 E]at h;rcases Lk.1 hx with rfl|hx
  .exact Qea (Lq.1 E)
  exact Qeg h x hx
theorem Qd8 {n:Nat}{u:LI}:∀{l:List Y0}{s:List ByteArray},Jv n u s l=0->∀x∈l,YE x.nm=true
 | [],_,_,_,hx=>by cases hx
 | y::l,s,h,x,hx=>by
  rw[Vg]at h;by_cases E:Z1 n u s y≠0
  .rw[O1 E]at h;exact O3 h E
  rw[O0 E]at h;rcases Lk.1 hx with rfl|hx
  .exact Qea (Lq.1 E)
  exact Qd8 h x hx
theorem Qa5 {sz:LI}:∀{l:List Uf}{s:List ByteArray},Yc sz s l=0->∀x∈l,YE x.nm=true
 | [],_,_,_,hx=>by cases hx
 | y::l,s,h,x,hx=>by
  rw[Yc]at h;by_cases E:Js s y.nm≠0
  .rw[O1 E]at h;exact O3 h E
  rw[O0 E]at h;by_cases H:XR sz y.ls≠0
  .rw[O1 H]at h;exact O3 h H
  rw[O0 H]at h;rcases Lk.1 hx with rfl|hx
  .exact Qhp (Lq.1 E)
  exact Qa5 h x hx
theorem Qa6 {sz:LI}:∀{l:List xT}{s:List ByteArray},YQ sz s l=0->∀x∈l,YE x.nm=true
 | [],_,_,_,hx=>by cases hx
 | y::l,s,h,x,hx=>by
  rw[YQ]at h;by_cases E:Js s y.nm≠0
  .rw[O1 E]at h;exact O3 h E
  rw[O0 E]at h;by_cases H:Xd sz y≠0
  .rw[O1 H]at h;exact O3 h H
  rw[O0 H]at h;rcases Lk.1 hx with rfl|hx
  .exact Qhp (Lq.1 E)
  exact Qa6 h x hx
theorem QfB {co:List Y0}:∀(l:xF),(∀p∈l,0<=p.1/\p.1<(co.length:Int))->∃r,V6 co l=some r
 | [],_=>⟨[],U⟩
 | y::l,h=>by
  obtain⟨r,E⟩:=QfB l λp H=>h p (Ll _ H);have I:=h y Lr;have e:zO co y.1=some (co.getD y.1.toNat ⟨.empty,Vv⟩).nm:=by unfold zO;rw[O0 oa]
  exact⟨_,by rw[V6,e,E];rfl⟩
theorem Qha {co:List Y0}:∀(l:List Uf),(∀x∈l,∀p∈x.ls,0<=p.1/\p.1<(co.length:Int))->∃a,JI co l=some a/\a.map dky=l.map (λx=>((3:Int),x.nm))/\∀y∈a,yO y=true
 | [],_=>⟨[],U,U,λ_ h=>by cases h⟩
 | x::l,h=>by
  obtain⟨a,H,I,J⟩:=Qha l λp O=>h p (Ll _ O);obtain⟨r,S⟩:=QfB x.ls (h x Lr);refine⟨_,by rw[JI,S,H];rfl,by rw[LO,I];rfl,λy E=>?_⟩;rcases Lk.1 E with rfl|E
  .rfl
  exact J y E
theorem Qhc {co:List Y0}:∀(l:List xT),(∀x∈l,∀p∈x.ts,0<=p.1/\p.1<(co.length:Int))->∃a,J8 co l=some a/\a.map dky=l.map (λx=>((4:Int),x.nm))/\∀y∈a,yO y=true
 | [],_=>⟨[],U,U,λ_ h=>by cases h⟩
 | x::l,h=>by
  obtain⟨a,H,I,J⟩:=Qhc l λp O=>h p (Ll _ O);obtain⟨r,S⟩:=QfB x.ts (h x Lr);refine⟨_,by rw[J8,S,H];rfl,by rw[LO,I];rfl,λy E=>?_⟩;rcases Lk.1 E with rfl|E
  .rfl
  exact J y E
theorem QqV {ks:List Ky}(n:ks.length<=76)(kd:∀x∈ks,1<=x.1/\x.1<=4)(nm:∀x∈ks,YE x.2=true)(no:ks.Nodup)(or:ks.Pairwise λx y=>x.1<=y.1):KOk ks:=by
 refine⟨n,λk h=>kd _ (Lm h),λk h=>nm _ (Lm h),λk h E=>?_,λk h J=>Mq.1 or (k - 1) k oa h oa⟩;obtain⟨j,H,e⟩:=LM E;rw[Nj]at e;have I:j<k:=by simp at H;omega
 exact Mq.1 no j k oa h I e
theorem Ql3 {sz:LI}{ex:List Uf}{cs:List xT}(h:Ys sz ex cs=0):ex.length<=32/\cs.length<=32/\Yc sz [] ex=0/\YQ sz [] cs=0:=by
 unfold Ys at h;split at h
 .cases h
 split at h
 .cases h
 split at h
 .cases h
 rename_i H;split at h
 .rename_i E;exact O3 h E
 rename_i E;exact⟨oa,oa,Lq.1 E,h⟩
theorem QbJ (k:Int)(f:α->ByteArray)(l:List α):(l.map λx=>((k,f x):Ky)).Pairwise λx y=>x.1<=y.1 :=
 MC.2 (List.pairwise_of_forall λ_ _=>Ng k)
theorem Qo2 (h:Zf c=0):(ZT c).1=0:=by
 have I:=Qa7.1 h;have ho:=ZO h;obtain⟨n1,n2,J,O⟩:=Ql3 I.cd;have V:((szs c.co).length:Int)=(c.co.length:Int):=by unfold szs;rw[Lj]
 obtain⟨a,ha,ka,pa⟩:=Qha (co:=c.co) c.ex λx hx p S=>by
  have H:=Jo _ _ _ J x hx;unfold XR at H;split at H
  .cases H
  have:=(Vh _ _ _ H).1 p S;rw[V]at this;exact this
 obtain⟨b,hb,kb,pb⟩:=Qhc (co:=c.co) c.cs λx hx p S=>by
  have H:=Kw _ _ _ O x hx;unfold Xd at H;split at H
  .cases H
  split at H
  .rename_i T;exact O3 H T
  rename_i T;have:=(Vf _ _ _ (Lq.1 T)).1 p S;rw[V]at this;exact⟨this.1,this.2.1⟩
 have hk:(c.co.map (J7 1)++(c.rq.map (J7 2)++(a++b))).map dky=c.co.map (λx=>((1:Int),x.nm))++(c.rq.map (λx=>((2:Int),x.nm))++(c.ex.map (λx=>((3:Int),x.nm))++c.cs.map λx=>((4:Int),x.nm))):=by
  rw[Ls,Ls,Ls,ka,kb,L4,L4];rfl
 have hz:KE (c.co.map (J7 1)++(c.rq.map (J7 2)++(a++b)))=0:=by
  refine QoT.2 ⟨?_,λx hx=>?_⟩
  .rw[hk];have mm:∀{α:Type} {k:Int} {f:α->ByteArray} {l:List α} {y:Ky},y∈l.map (λx=>((k,f x):Ky))->∃x∈l,y=(k,f x):=λE=>by
    obtain⟨x,hx,e⟩:=Ly.1 E;exact⟨x,hx,e.symm⟩
   have Y:∀y∈c.co.map (λx=>(((1:Int),x.nm):Ky))++(c.rq.map (λx=>(((2:Int),x.nm):Ky))++(c.ex.map (λx=>(((3:Int),x.nm):Ky))++c.cs.map λx=>(((4:Int),x.nm):Ky))),(1<=y.1/\y.1<=4)/\YE y.2=true:=by
    intro y E;rcases Lh.1 E with E|E
    .obtain⟨x,hx,rfl⟩:=mm E;exact⟨by show(1:Int)<=1/\(1:Int)<=4;decide,Qeg I.co x hx⟩
    rcases Lh.1 E with E|E
    .obtain⟨x,hx,rfl⟩:=mm E;exact⟨by show(1:Int)<=2/\(2:Int)<=4;decide,Qd8 I.rq x hx⟩
    rcases Lh.1 E with E|E
    .obtain⟨x,hx,rfl⟩:=mm E;exact⟨by show(1:Int)<=3/\(3:Int)<=4;decide,Qa5 J x hx⟩
    obtain⟨x,hx,rfl⟩:=mm E;exact⟨by show(1:Int)<=4/\(4:Int)<=4;decide,Qa6 O x hx⟩
   have fs:∀{α β:Type} {j k:Int} {f:α->ByteArray} {g:β->ByteArray} {l:List α} {m:List β},j<k->∀x∈l.map (λx=>((j,f x):Ky)),∀y∈m.map (λx=>((k,g x):Ky)),x.1<y.1:=λhe x hx y E=>by
    obtain⟨_,_,rfl⟩:=mm hx;obtain⟨_,_,rfl⟩:=mm E;exact he
   have hg:=λx hx y E=>fs (f:=Y0.nm) (g:=Y0.nm) (l:=c.co) (m:=c.rq) (show(1:Int)<2 by decide) x hx y E;have hh:=λx hx y E=>fs (f:=Y0.nm) (g:=Uf.nm) (l:=c.co) (m:=c.ex) (show(1:Int)<3 by decide) x hx y E;have hi:=λx hx y E=>fs (f:=Y0.nm) (g:=xT.nm) (l:=c.co) (m:=c.cs) (show(1:Int)<4 by decide) x hx y E;have hj:=λx hx y E=>fs (f:=Y0.nm) (g:=Uf.nm) (l:=c.rq) (m:=c.ex) (show(2:Int)<3 by decide) x hx y E;have hl:=λx hx y E=>fs (f:=Y0.nm) (g:=xT.nm) (l:=c.rq) (m:=c.cs) (show(2:Int)<4 by decide) x hx y E;have Z:=λx hx y E=>fs (f:=Uf.nm) (g:=xT.nm) (l:=c.ex) (m:=c.cs) (show(3:Int)<4 by decide) x hx y E;have c1:∀x∈c.co.map (λx=>(((1:Int),x.nm):Ky)),∀y∈c.rq.map (λx=>(((2:Int),x.nm):Ky))++(c.ex.map (λx=>(((3:Int),x.nm):Ky))++c.cs.map λx=>(((4:Int),x.nm):Ky)),x.1<y.1:=λx hx y E=>by
    rcases Lh.1 E with E|E
    .exact hg x hx y E
    rcases Lh.1 E with E|E
    .exact hh x hx y E
    exact hi x hx y E
   have c2:∀x∈c.rq.map (λx=>(((2:Int),x.nm):Ky)),∀y∈c.ex.map (λx=>(((3:Int),x.nm):Ky))++c.cs.map λx=>(((4:Int),x.nm):Ky),x.1<y.1:=λx hx y E=>by
    rcases Lh.1 E with E|E
    .exact hj x hx y E
    exact hl x hx y E
   have ne:∀{x y:Ky},x.1<y.1->x≠y:=λh e=>by rw[e]at h;omega
   refine QqV ?_ (λy E=>(Y y E).1) (λy E=>(Y y E).2) ?_ ?_
   .have:=ho.cr;simp only[oN,o6];omega
   .exact Mi.2 ⟨X8 (Qef I.co).1,Mi.2 ⟨X8 (jv I.rq).1,Mi.2 ⟨X8 (zd J).1,X8 (ze O).1,λx hx y E=>ne (Z x hx y E)⟩,λx hx y E=>ne (c2 x hx y E)⟩,λx hx y E=>ne (c1 x hx y E)⟩
   exact Mj.2 ⟨QbJ _ _ _,Mj.2 ⟨QbJ _ _ _,Mj.2 ⟨QbJ _ _ _,QbJ _ _ _,λx hx y E=>Int.le_of_lt (Z x hx y E)⟩,λx hx y E=>Int.le_of_lt (c2 x hx y E)⟩,λx hx y E=>Int.le_of_lt (c1 x hx y E)⟩
  rcases Lh.1 hx with hx|hx
  .obtain⟨_,_,rfl⟩:=Ly.1 hx;rfl
  rcases Lh.1 hx with hx|hx
  .obtain⟨_,_,rfl⟩:=Ly.1 hx;rfl
  rcases Lh.1 hx with hx|hx
  .exact pa x hx
  exact pb x hx
 unfold ZT Qd3;rw[ha,hb];simp only[];rw[O0 (not_not_intro hz)]
theorem Qpn {m:Vw}(E:qR c m=0)(H:Yo (Jr c m)=0):KK c [] 0 m=(0,Vo c 0 m,false):=by
 have e:yS [] (Ya c m)=none:=rfl;unfold KK;rw[O0 (not_not_intro E),e,H]
abbrev ptX (p:xR):=(p.ky,p.sp,p.kp,p.ds,p.rm,p.c)
theorem QcA.nw {ps:List xR}(h:QcA c ps):qQ c=0/\(jY c).ps.map ptX=ps.map ptX/\∀p∈(jY c).ps,p.vr=0:=by
 have I:∀m∈xq c,KK c [] 0 m=(0,Vo c 0 m,false):=λm H=>Qpn (h.mc m H).1 (h.mc m H).2;have hR:=Qcy (c:=c) (bf:=[]) (v:=0) λm H=>by rw[I m H]
 have hE:KX c [] 0=0:=by unfold KX;rw[O0 (not_not_intro h.ck),hR]
 have J:(jY c).ps=(xq c).map (Vo c 0):=by
  show(qn c [] 0).2.1=_;rw[hR];exact MU λm H=>by rw[I m H]
 refine⟨?_,?_,λp E=>?_⟩
 .unfold qQ;rw[O0 (not_not_intro (Qo2 h.ck)),O0 (not_not_intro h.ck)];exact hE
 .rw[J,L4];have O:(xq c).length=ps.length:=by have:=O2 oR h.ky;rw[Lj,Lj]at this;exact this.symm
  refine Mh (by rw[Lj,Lj,O]) λi T S=>?_;have hi:i<ps.length:=by simpa using S
  have ek:=List.getElem_of_eq h.ky (i:=i) (by rw[Lj];exact hi);have ec:=List.getElem_of_eq h.cc (i:=i) (by rw[Lj];exact hi);have E:=h.ok _ (Lm hi);simp only[OG]at ek ec ⊢;show(Ya c _,suA (Jr c _),(UB (Jr c _)).1,(UB (Jr c _)).2.1,(UB (Jr c _)).2.2,Jr c _)=_;rw[<-ek,<-ec,<-E.sp,<-E.kp,<-E.ds,<-E.rm]
 rw[J]at E;obtain⟨m,_,rfl⟩:=Ly.1 E;rfl
theorem QcA.sv {ps:List xR}(h:QcA c ps):UO c=0/\jU c=Ug (zG c)/\zG c=ps.map (·.sp)++(rem c).map λi=>(c.co.getD i.toNat ⟨.empty,⟨[],0,[],[]⟩⟩).a:=by
 have E:msL c (xq c)=0:=by
  have key:∀l:List Vw,(∀m∈l,m∈xq c)->msL c l=0:=by
   intro l;induction l with
   | nil=>intro _;rfl
   | cons m l ih =>
    intro H;have I:=h.mc m (H m Lr);have e:msE c m=0:=by unfold msE;rw[O0 (not_not_intro I.1)];exact I.2
    rw[msL,O0 (not_not_intro e)];exact ih λm E=>H m (Ll _ E)
  exact key _ λ_ h=>h
 have J:UO c=0:=by unfold UO;rw[O0 (not_not_intro h.ck),E]
 refine⟨J,?_,?_⟩
 .unfold jU;rw[O0 (not_not_intro J)]
 unfold zG;congr 1;have e:ps.map (·.sp)=(ps.map (·.c)).map suA:=by
  rw[L4];exact MU λp O=>(h.ok p O).sp
 rw[e,h.cc,L4];rfl
theorem Qqr {pl:QU}{k:Int}{t:LI}{r:Rsn}(E:rsn c pl k i t=some r):r.st=(i:Int):=by
 unfold rsn at E;split at E
 .cases E;rfl
 split at E
 .cases E;rfl
 cases E
theorem Qnm (c:Zy)(pl:QU)(ps l:List (LI)):Yp ((spF c pl ps l).map (·.st)):=by
 have key:∀(l:List (LI)) (k:Nat),(∀r∈(l.zipIdx k).filterMap (λp=>rsn c pl (plx ps (p.1.take c.co.length)) p.2 p.1),(k:Int)<=r.st)/\Yp (((l.zipIdx k).filterMap λp=>rsn c pl (plx ps (p.1.take c.co.length)) p.2 p.1).map (·.st)):=by
  intro l;induction l with
  | nil=>intro k;exact⟨λr E=>(by cases E),.nil⟩
  | cons t l ih =>
   intro k;obtain⟨I,J⟩:=ih (k+1);rw[Nz,Mz];simp only[];cases E:rsn c pl (plx ps (t.take c.co.length)) k t with
   | none=>exact⟨λr E=>ov (I r E),J⟩
   | some r =>
    have hk:=Qqr E;refine⟨λq H=>?_,?_⟩
    .rcases Lk.1 H with rfl|H
     .omega
     have:=I q H;omega
    rw[LO];refine L6.2 ⟨λx hx=>?_,J⟩;obtain⟨q,H,rfl⟩:=Ly.1 hx;have:=I q H;omega
 exact(key l 0).2
theorem QoD (h:Yo c=0):Yp (fbs (spc c)):=by
 obtain⟨_,⟨_,E⟩,_,H⟩:=QjI.1 h;obtain⟨z,I⟩:=NH.1 E;obtain⟨y,J⟩:=NH.1 H;unfold fbs;rw[(Qbw (c:=c) (pl:=z.1) (ps:=z.2) (sa:=y.1) (ts:=y.2) I J)];exact Qnm _ _ _ _
theorem POk.ver {p:xR}(h:POk p):VrH (spc p.c).a (fbs (spc p.c)) (unc p.c.ev) p.kp p.ds p.rm:=by
 obtain⟨E,H,_⟩:=Qbv h.e;have I:=(ZO (QjI.1 h.e).1).ev;have:=Qo8 E (ul:=unc p.c.ev) ⟨λx hx=>by
  obtain⟨k,hk,e,_⟩:=(QbX _ _ _ _).1 hx;omega,Qb8 _ _ _⟩ ⟨H,QoD h.e⟩
 rw[h.kp,h.ds,h.rm];exact this
abbrev avZ:AV:=⟨Zn,Zn,Zn,⟨[],0,[],[]⟩⟩
def coV (c:CL)(i:Int):AV:=(c.co.map (·.p)).getD i.toNat avZ
theorem QfG {c:CL}{i:Int}(h:i.toNat<c.co.length):coV c i=(c.co[i.toNat]'h).p:=by simp[coV,oQ,h]
theorem Qs0 {c:CL}{i:Int}(h:i.toNat<c.co.length):(coV c i).a=(c.Z.co.getD i.toNat ⟨.empty,⟨[],0,[],[]⟩⟩).a:=by
 rw[QfG h];show _=((c.co.map IV.it).getD i.toNat _).a;simp[oQ,h,IV.it]
theorem QbA {k:Nat}{s:Ke}(h:Vq L w s)(hk:YD k s.sys)(hQ:Kb w 4096):
  QZ sV 14 [pS s.b] w λr w'=>sW w w'/\∃va,r=.tuple #[va,sS (jU s.sys.c)]/\(jU s.sys.c≠0->va=zA)/\(jU s.sys.c=0->Xi ↑w ↑w' va (tgA s.sys.c)):=by
 obtain⟨T,hB⟩:=h.blk;have hp:Pts [] ↑w s.s.vp s.s.ps:=h.st.p.up oe;have hc:ZG [] ↑w s.s.c:=h.st.c.up oe;have g4:=hk.len.2.2;have h5:Zf s.s.c.Z=0:=hk.st.ck;obtain⟨hS,hT,hU⟩:=hk.st.sv;have h6:=QcU hS;have g5:(rem s.s.c.Z).length<=8:=XH _ _;have hV:zG s.sys.c=(s.s.ps.map (·.e.p)++(rem s.s.c.Z).map (coV s.s.c)).map (·.a):=by
  rw[hU,Ls,L4,L4];show(s.s.ps.map (·.pt)).map (·.sp)++_=_;rw[L4];congr 1;refine MU λi hi=>?_;have hs:0<=i/\i<(s.s.c.Z.co.length:Int):=yK i hi;have h7:s.s.c.Z.co.length=s.s.c.co.length:=Lj ..;exact(Qs0 oa).symm
 show QZ _ _ _ _ λr w'=>sW w w'/\∃va,r=.tuple #[va,sS (jU s.sys.c)]/\(jU s.sys.c≠0->va=zA)/\(jU s.sys.c=0->Xi ↑w ↑w' va (syA (zG s.sys.c)));rw[hT];rw[hV]at h6 ⊢;refine Zt func14 ?_;refine Qc<|QL XD λb2 w1 ht hW h8=>Qb ?_;have g6:=h8.lt;refine Qd<|Qj<|x (Y8 underlying47 U U)<|xe<|Zl rfl<|Qe<|Qc<|Qb<|Qd<|Qj<|Z7 U<|Qm U (hB.J ht) U U<|QE (hp.arr.J ht) U<|Qa<|xe<|Q2 (α:=Nat×O9) [(4,4),(6,6),(19,29)] (λz=>[(4,z.2),(19,sS z.1)]) (λz w'=>z.1<=s.s.ps.length/\sW w1 w'/\w'.ownsRow ↑w1 66 4 z.2 z.1 (((s.s.ps.take z.1).map (·.e.p)).flatMap Zq)) (λz=>s.s.ps.length - z.1) (0,Zn) oB ⟨Lp _,xj.Y _ _,QI _ _ _ _⟩ ?_;rintro⟨k,v⟩ g w2 ⟨hX,hn,S⟩;simp only[]at hX S;have ho:=ht.I hn;have g7:=hn.size;refine Zi rfl U (λhv=>?_) (λhv=>?_)
 .refine Qt ?_;have hY:s.s.ps.length<=k:=by have hw:¬(k:Int)<(s.s.ps.length:Int):=hv;omega
  have hZ:k=s.s.ps.length:=oa
  rw[Lt hY]at S;refine Qj<|Z7 U<|QN U<|x (Q7 (us:=[s.s.c.ve,s.s.c.vc,s.s.c.vr,s.s.c.vx,s.s.c.vk]) (hB.J ho) U U U)<|Qx<|(qu (hc.J ho)).S ?_;rintro r4 V ⟨hg,vR,rfl,_,ga⟩;have hR:=ga h5;have gb:=ho.I hg;refine Qa<|QS U U<|QS U U<|x Qh<|Qb<|Qd<|Qj<|Zu U U<|xe<|QY U (λh9=>O3 h5 h9) (λh9=>?_);refine Qe ?_;have gc:QG [] ↑V vR (rem s.s.c.Z):=Qp.ints hR oa oe;refine Qd<|Qj<|QE gc U<|Qa<|xe ?_;have hy:=Qg S;refine Q2 (α:=Nat×O9) [(4,4),(10,10),(44,60)] (λz=>[(4,z.2),(44,sS z.1)]) (λz w'=>z.1<=(rem s.s.c.Z).length/\xj (ob v) V w'/\w'.ownsRow ↑w1 66 4 z.2 (s.s.ps.length+z.1) ((s.s.ps.map (·.e.p)++((rem s.s.c.Z).take z.1).map (coV s.s.c)).flatMap Zq)/\∀b∈ob z.2,b∈ob v\/↑V<=b) (λz=>(rem s.s.c.Z).length - z.1) (0,v) oB
   ⟨Lp _,xj.Y _ _,by simp only[ON,OD,Ol];rw[<-hZ];exact Ql S hg,λb E=>.inl E⟩ ?_
  rintro⟨j,vj⟩ g Y ⟨hj,H,hr,hz⟩;simp only[]at hj hr hz;have Z:sW w Y:=gb.G H λb E=>.inr (ov (hy b E).1);have h2:sW w1 Y:=(hn.I hg).G H λb E=>.inr (hy b E).1;have gg:QG [] ↑Y vR (rem s.s.c.Z):=(((Qp.ints hR oa (L:=ob v) (λb E=>ov (hy b E).2)).st H)).up oe;refine Zi U U (λh3=>?_) (λh3=>?_)
  .refine Qt ?_;have gh:(rem s.s.c.Z).length<=j:=by have hw:¬(j:Int)<((rem s.s.c.Z).length:Int):=h3;omega
   have gi:j=(rem s.s.c.Z).length:=oa
   rw[Lt gh,gi]at hr;have gj:JL [] ↑Y vj (s.s.ps.map (·.e.p)++(rem s.s.c.Z).map (coV s.s.c)):=by
    refine⟨?_,λp J=>?_⟩
    .rw[Ln,Lj,Lj];exact QC hr oa oe
    rcases Lh.1 J with J|J
    .obtain⟨q,hq,rfl⟩:=Ly.1 J;exact((hp.each q hq).e.a).J Z
    obtain⟨i,hi,rfl⟩:=Ly.1 J;have hs:=yK i hi;have h7:s.s.c.Z.co.length=s.s.c.co.length:=Lj ..;have O:i.toNat<s.s.c.co.length:=oa
    rw[QfG O];exact(hc.co.each _ (Lm O)).J Z
   have hC:=jP gj (λp J=>h6 p.a (LK J)) (hQ.J Z);refine Zd ((s.s.ps.map (·.e.p)++(rem s.s.c.Z).map (coV s.s.c)).map (·.a)) λA hA=>?_;rw[hA]at hC ⊢;refine Qj<|Qx<|hC.S ?_;rintro r7 w7 ⟨hh,va,rfl,hD,hE⟩;have gk:∃us,va=sT us/\us.length=4/\Zj us:=by
    by_cases h0:Ug A=0
    .exact Xw (hE h0)
    exact⟨XD,hD h0,U,U,U,U,U,La⟩
   obtain⟨us,hF,hG,gl⟩:=gk;have gm:=h2.size;refine QS U U<|QS U U<|Qo<|ZA (us:=us) (h8.J (h2.I hh)) U (show Go.Lg.ev _ _=_ from hF) hG U gl λw8 hH gn=>Qb<|Qi ⟨[sT us,sS (Ug A)],⟨⟨_,U,ZR hG (gn.at (L:=[]) oe).cells⟩,rfl,La⟩,(Z.I hh).Q hH hW,va,?_,hD,λh0=>?_⟩
   .show Value.tuple _=Value.tuple _;rw[hF]
   have g8:=hh.size;exact(XY (hE h0) oa hH).S oa
  have ha:j<(rem s.s.c.Z).length:=by have hw:(j:Int)<((rem s.s.c.Z).length:Int):=h3;omega
  have hI:(rem s.s.c.Z).take (j+1)=(rem s.s.c.Z).take j++[(rem s.s.c.Z)[j]'ha]:=Lo ha;have hs:=yK _ (Lm ha);refine Qe<|Qd<|Qn<|Qc<|xii (i:=j) gg U U ha λg9 hJ=>?_;refine Zd ((rem s.s.c.Z)[j]'ha) λi hi=>?_;rw[hi]at hJ hI hs;have h7:s.s.c.Z.co.length=s.s.c.co.length:=Lj ..;have go:i=(i.toNat:Int):=oa
  have O:i.toNat<s.s.c.co.length:=oa
  have hK:=QfG O;have hL:=hc.J Z;have hl:=Lm O;refine x (Qy hJ U)<|Qb<|Qq<|Qa<|Qa<|Z7 U<|QN U<|Qm U (hB.J Z) U U<|Qa<|xp (g:=QK) (i:=i.toNat) Yj hL.co.arr U (O2 sS go) O λka hM=>?_;refine Zd (s.s.c.co[i.toNat]'O) λq hq=>?_;rw[hq]at hM hl hK;have I:=hL.co.each q hl;refine x (Zp U)<|x (Qu (us:=Zq q.p) (hM.from 1) U U)<|Qo<|Zb [Zq q.p] λgp w6 hm kb gq=>?_;have gr:At [] ↑w6 ⟨gp,0,none⟩ (Zq q.p):=by have:=gq.at (L:=[]) oe;simpa using this
  have kc:=hm.size;have gm:=h2.size;refine Qo<|JZ (m:=1) (news:=Zq q.p) (Ql hr hm) U U U gr (Zj.all (us:=Zq q.p) ⟨I.al.one,U,I.mr.one,I.ed.one,La⟩) oa oa λv7 w7 gs hh gt=>Qb<|Qq<|QH U U<|Qa<|xe ?_;have gu:xj (ob v) V w7:=(H.I hm).G hh λb E=>by
   rcases hz b E with h1|h1
   .exact .inl h1
   exact .inr h1
  refine⟨(j+1,v7),by show(rem s.s.c.Z).length - (j+1)<(rem s.s.c.Z).length - j;omega,oB,ha,gu,?_,λb E=>?_⟩
  .simp only[];rw[hI,Ls,<-LD,LC,LO,M7,hK,<-OT];simpa using gs
  rcases gt b E with h1|h1
  .exact hz b h1
  have:=H.size;exact .inr oa
 have he:k<s.s.ps.length:=by have hw:(k:Int)<(s.s.ps.length:Int):=hv;omega
 have hN:s.s.ps.take (k+1)=s.s.ps.take k++[s.s.ps[k]'he]:=Lo he;have hl:=Lm he;have hO:Pts [] ↑w2 s.s.vp s.s.ps:=Go.Lg.K3.J hp ho;refine Qe<|Qd<|Qn<|Qc<|xp (g:=ZJ) (i:=k) yQ hO.arr U U he λke hP=>?_;refine Zd (s.s.ps[k]'he) λq hq=>?_;rw[hq]at hP hN hl;have I:qv [] ↑w2 q:=hO.each q hl;refine x (Qu hP U U)<|QL z15 λb6 w3 gv gw gx=>QJ (ZJ q) gx I.ones λV hg gy=>xe ?_;have h4:sW w2 V:=gv.Q hg gw;have kf:=h4.size;refine Qq<|Qa<|QN U<|QN U<|x (Q7 (us:=Zq q.e.p) gy U U U)<|Qo<|Zb [Zq q.e.p] λgz Y H kg g0=>?_;have g2:At [] ↑Y ⟨gz,0,none⟩ (Zq q.e.p):=by have:=g0.at (L:=[]) oe;simpa using this
 have kh:=H.size;refine Qo<|JZ (m:=1) (news:=Zq q.e.p) (Ql (Ql S h4) H) U U U g2 (Zj.all (us:=Zq q.e.p) ⟨I.e.a.al.one,U,I.e.a.mr.one,I.e.a.ed.one,La⟩) oa oa λv6 w6 g3 hm ki=>Qb<|Qq<|QH U U<|Qa<|xe<|⟨(k+1,v6),by show s.s.ps.length - (k+1)<s.s.ps.length - k;omega,oB,he,((hn.I h4).I H).G hm λb E=>.inr (Qg S b E).1,?_⟩;simp only[];rw[hN,Ls,LC,LO,M7];simpa using g3
theorem K9 {v:O9}{st:Int}(h:QG L ↑w v l)(T:st=(n:Int))(hn:n<=4096)(hl:∀s∈l,0<=s/\s<(n:Int)):
  QZ sV 112 [sS st,v] w λr w'=>sW w w'/\∃b,r=sL b n n/\↑w<=b/\QP ↑w' b 4 ((flg n l).map Value.bool):=by
 have hj:=h.le;refine Zt func112 ?_;refine Qc<|Qb<|Qj<|Qo<|KC (n:=n) (O2 sS T) (O2 sS T) oa λH w2 V Y ha=>Qb ?_;have hb:QP ↑w2 H 4 ((flg n (l.take 0)).map Value.bool):=by
  have e:(oK n (Value.bool false).cells.toList).flatten=(flg n (l.take 0)).map Value.bool:=by
   simp only[flg,ON,oL,decide_false,List.map_map];apply Mh
   .simp[Value.cells]
   intro i h1 h2;simp[Value.cells]
  rw[<-e];exact ha
 refine Qd<|Qj<|QE (h.J V) U<|Qa<|xe<|Q2 (α:=Nat) [(7,7),(12,19)] (λz=>[(12,sS z)]) (λz w'=>z<=l.length/\sW w w'/\QP ↑w' H 4 ((flg n (l.take z)).map Value.bool)) (λz=>l.length - z) 0 Lb ⟨Lp _,V,hb⟩ ?_;rintro k g w3 ⟨hk,J,O⟩;refine Zi rfl U (λS=>?_) (λS=>?_)
 .refine Qt ?_;have hc:l.length<=k:=by have I:¬(k:Int)<(l.length:Int):=S;omega
  rw[Lt hc]at O;refine Qj<|Qb<|Qi ⟨[sL H n n],Lb,J,H,U,Y,O⟩
 have E:k<l.length:=by have I:(k:Int)<(l.length:Int):=S;omega
 have hx:=hl _ (Lm E);have Z:l.take (k+1)=l.take k++[l[k]'E]:=Lo E;refine Zd (l[k]'E) λs hs=>?_;rw[hs]at hx Z;have he:s=(s.toNat:Int):=oa
 refine Qe<|Qd<|Qn<|Qc<|xii (i:=k) (h.J J) U U E λhm I=>?_;rw[hs]at I;refine x (Qy I U)<|Qb<|Qq<|Qa<|Qa<|x (QO (i:=s.toNat) U (O2 sS he) oa)<|Qo<|Qw (j:=0+s.toNat*1) (u:=.bool true) O U U (by rw[Lj,V0];omega) U λw4 hg hh=>xe ?_;have hi:QP ↑w4 H 4 ((flg n (l.take (k+1))).map Value.bool):=by
  rw[Z,<-(Qoz (n:=n) (l:=l.take k) hx.1),NT];simpa using hh
 refine Qq<|QH U U<|Qa<|xe ?_;exact⟨k+1,oa,Lb,E,J.Q hg Y,hi⟩
abbrev XM (va vm ve vu vf:O9)(a:QU):LV:=[va,sS a.st,vm,ve,vu,vf]
theorem Qh9 {vf:O9}(hu:QG L ↑w vu ul)(H:∀s∈ul,0<=s/\s<32):
  QZ sV 113 [sT (XM va vm ve vu vf a)] w λr w'=>sW w w'/\∃b,r=sL b 32 32/\↑w<=b/\QP ↑w' b 4 ((flg 32 ul).map Value.bool):=by
 refine Zt func113 ?_;refine Qc<|Zg (XM va vm ve vu vf a) λb1 S E T I=>Qb ?_;have V:=E.size;refine Qc<|Qm U I U U<|Qx<|(K9 (n:=32) (hu.J E) U oh H).S ?_;rintro r2 Y ⟨J,b,rfl,Z,O⟩;refine Qb<|Qi ⟨[_],Lb,E.I J,b,U,oa,O⟩
theorem Qfc {vf:O9}(h:ZE L ↑w va vm ve a)(hu:QG L ↑w vu ul)(hf:QG L ↑w vf fb)(O:Jt a=0)(S:Kv 32 none ul=0)(T:Kv a.st none fb=0):
  QZ sV 110 [sT (XM va vm ve vu vf a)] w λr w'=>r=sS 0/\sW w w':=by
 refine Zt func110 ?_;refine Qc<|Zg (XM va vm ve vu vf a) λb1 V J Y E=>Qb ?_;have hA:=XS (h.J J);rw[O]at hA;refine Qd<|Qc<|QN U<|x (Q7 (us:=[va,sS a.st,vm,ve]) E U U U)<|Qx<|hA.S ?_;rintro r2 Z ⟨rfl,H⟩;have I:=J.I H;refine Qb<|Qj<|Zu U U<|xe<|Zl rfl<|Qe ?_;have hU:=KA (hu.J I) 32;rw[S]at hU;refine Qd<|Qc<|Qm U (E.J H) U U<|Qx<|hU.S ?_;rintro r3 w3 ⟨rfl,rfl⟩;refine Qb<|Qj<|Zu U U<|xe<|Zl rfl<|Qe ?_;have hF:=KA (hf.J I) a.st;rw[T]at hF;refine Qc<|Qm U (E.J H) U U<|QN U<|Qm U (E.J H) U U<|Qx<|hF.S ?_;rintro r4 w4 ⟨rfl,rfl⟩;refine Qb<|Qi ⟨[_],Lb,U,I⟩
theorem Qia {vf c0 c1 c2:O9}{kp ds:LI}{rm:List Q4}(hk:QG L ↑w c0 kp)(hd:QG L ↑w c1 ds)(O:Zk L ↑w c2 rm.length 4 (rm.flatMap KM))
  (h2:Kv a.st none kp=0) (h3:ds.length=kp.length) (h4:∀q∈rm,0<=q.1/\q.1<a.st) (h5:Yp (rm.map (·.1))) (h6:∀q∈rm,q.2.2.1=1\/q.2.2.1=2\/q.2.2.1=3):
  QZ sV 111 [sT (XM va vm ve vu vf a),.agg #[c0,c1,c2]] w λr w'=>r=sS 0/\sW w w':=by
 have h9:=O.le;refine Zt func111 ?_;refine Qc<|Zg (XM va vm ve vu vf a) λb2 w1 hl hA hn=>Zg [c0,c1,c2] λb3 w2 ha hB H=>Qb ?_;have E:=hl.I ha;have hC:=H.lt;refine Qc<|QN U<|Qm U (hn.J ha) U U<|Qb ?_;have hK:=KA (hk.J E) a.st;rw[h2]at hK;refine Qd<|Qc<|Qm U H U U<|Qa<|Qx<|hK.S ?_;rintro r3 w3 ⟨rfl,rfl⟩;refine Qb<|Qj<|Zu U U<|xe<|Zl rfl<|Qe<|Qd<|Qc<|Qm U H U U<|QE (hd.J E) U<|Qm U H U U<|QE (hk.J E) U<|Zu U U<|xe<|QY rfl (λhb=>O3 (O2 (λn:Nat=>(n:Int)) h3) hb) (λhb=>?_);refine Qe<|Qd<|Qc<|Qm U H U U<|QE (O.J E) U<|Qa<|xe<|Q2 (α:=Nat) [(4,4),(7,8),(29,73)] (λz=>[(29,sS z)]) (λz w'=>z<=rm.length/\sW w3 w') (λz=>rm.length - z) 0 Lb ⟨Lp _,xj.Y _ _⟩ ?_;rintro k g w4 ⟨hD,I⟩;refine Zi rfl U (λhe=>?_) (λhe=>?_)
 .refine Qt<|Qc<|Qb<|Qi ⟨[_],Lb,U,E.I I⟩
 have S:k<rm.length:=by have hE:(k:Int)<(rm.length:Int):=he;omega
 have hm:=Lm S;have ho:=h4 _ hm;have hp:=h6 _ hm;refine Qe<|Qd<|Qn<|Qj<|xp (g:=KM) (i:=k) JX ((O.J E).J I) U U S λhF hg=>?_;refine Zd (rm[k]'S) λq hq=>?_;rw[hq]at hg ho hp;refine x (Qu (us:=KM q) hg U U)<|QL [sS 0,sS 0,sS 0,sS 0] λb8 w5 hs ht hv=>x Qh<|QJ (KM q) hv oD λw6 hw T=>xe ?_;have V:sW w4 w6:=hs.Q hw ht;have hy:=(H.J I).J V;refine Qn<|QX (α:=Unit) [(34,43)] (λ_=>[(34,.bool false)]) (λ_ w'=>w'=w6) om ?_ ?_
 .refine Qq<|Qm U T U U<|xb (YA U U) (λhh=>O3 hh oa) (λhh=>?_);refine Qa<|Qm U T U U<|Qa<|x (YI U U)<|QB U<|Qb<|⟨(),⟨O2 Value.bool (O6 oa),La⟩,U⟩
 rintro _ g7 w7 rfl;refine Zl rfl<|QX (α:=Unit) [(44,58)] (λ_=>[(44,.bool false)]) (λ_ w'=>sW w7 w') om ?_ ?_
 .refine ZH [] (Xf 0 15 [])<|p QA<|pb (λ_=>ZX U U) (λhi=>?_) (λhi=>?_)
  .have hG:0<k:=by have hH:(0:Int)<(k:Int):=hi;omega
   have Y:k - 1<rm.length:=oa
   have hz:((k:Int) - 1)=((k - 1:Nat):Int):=oa
   have hI:(rm[k - 1]'Y).1<q.1:=by
    have h7:=Mq.1 h5 (k - 1) k (by rw[Lj];omega) (by rw[Lj];omega) oa;rw[LW,LW,hq]at h7;exact h7
   refine p QA<|p (QF U)<|pq (λ_ J=>Qk (T.J J) U U)<|p (QF U)<|pq (λ_ J=>Qk (hy.J J) U U) <|
    p QA<|p (λ_=>X1 (a:=(k:Int)) (b:=1) U U ⟨oa,oa⟩)<|Lg.pig (g:=KM) (i:=k - 1) U JX (((O.J E).J I).J V) U (show Go.Lg.ev _ _=_ from O2 sS hz) Y λhJ h0=>p (λ_=>Zp U) <|
    pq (λ_ J=>Qy (u:=sS (rm[k - 1]'Y).1) ((h0.fld 0 _ U).J J) U)<|p (λ_=>KL U U)<|p (Z9 U)<|p ZL<|pe ?_
   exact⟨(),⟨O2 Value.bool (O6 oa),La⟩,xj.X _ _⟩
  refine p QA<|ps<|ps<|ps<|ps<|ps<|ps<|ps<|ps<|ps<|ps<|p (Z9 U)<|p ZL<|pe ?_;exact⟨(),Lb,xj.X _ _⟩
 rintro _ g8 w8 hj;have Z:=T.J hj;refine Zl rfl<|QX (α:=Unit) [(59,72)] (λ_=>[(59,.bool false)]) (λ_ w'=>w'=w8) om ?_ ?_
 .refine Qq<|Qm U Z U U<|xb (YS U U) (λh1=>?_) (λh1=>?_)
  .refine Qa<|Qm U Z U U<|xb (YS U U) (λh8=>?_) (λh8=>?_)
   .refine QB U<|Qa<|Qm U Z U U<|Zu U U<|QB U<|Qb<|⟨(),⟨O2 Value.bool (O6 oa),La⟩,U⟩
   refine QB U<|Qa<|Zm<|QB U<|Qb<|⟨(),Lb,U⟩
  refine Qa<|Zm<|QB U<|Qa<|Zm<|QB U<|Qb<|⟨(),Lb,U⟩
 rintro _ g9 w9 rfl;refine Zl rfl<|Qe<|Qq<|QH U U<|Qa<|xe ?_;exact⟨k+1,oa,Lb,S,(I.I V).I hj⟩
section
variable {pS:String}
theorem QbH [XZ P t]{x:xd}(s:Int)(h:QP ↑w b T (l.map (Value.int .i64)))(hx:ev f x=.pointer (some ⟨b,0+s.toNat*1,none⟩))(hi:s.toNat<l.length):
  sR P f w d (.load t x) ty pS af gd (sS (l.getD s.toNat 0)):=Qk h hx (by simp[hi,oQ])
end
theorem Yu {pS:String}[XZ P t]{x:xd}{l:List Bool}(s:Int)(h:QP ↑w b T (l.map Value.bool))(hx:ev f x=.pointer (some ⟨b,0+s.toNat*1,none⟩))(hi:s.toNat<l.length):
  sR P f w d (.load t x) ty pS af gd (.bool (lft l s)):=Qk h hx (by simp[hi,oQ,lft])
structure FcV where
 va:O9
 vm:O9
 ve:O9
 a:QU
 n:Nat
 bk:Nat
 K:List Bool
 bd:Nat
 D:LI
 br:Nat
 R:List Q4
 bm:Nat
 M:List Bool
 bf:Nat
 F:List Bool
 bc:Nat
 C:List Bool
abbrev Ul (b n:Nat):O9:=sL b n n
abbrev ym (f:FcV):LV:=[f.va,sS f.a.st,f.vm,f.ve,Ul f.bk f.n,Ul f.bd f.n,Ul f.br f.n,Ul f.bm f.n,Ul f.bf f.n,Ul f.bc 32]
structure FcA (H:xI)(f:FcV):Prop where
 ok:Zo f.a
 n:f.a.st=(f.n:Int)
 a:ZE [] H f.va f.vm f.ve f.a
 k:QP H f.bk 4 (f.K.map Value.bool)
 d:QP H f.bd 3 (f.D.map (Value.int .i64))
 r:QP H f.br 261 (f.R.flatMap KM)
 m:QP H f.bm 4 (f.M.map Value.bool)
 fo:QP H f.bf 4 (f.F.map Value.bool)
 c:QP H f.bc 4 (f.C.map Value.bool)
 lk:f.K.length=f.n
 ld:f.D.length=f.n
 lr:f.R.length=f.n
 lm:f.M.length=f.n
 lf:f.F.length=f.n
 lc:f.C.length=32
theorem FcA.J {w w':O8}{f:FcV}(h:FcA ↑w f)(E:sW w w'):FcA ↑w' f :=
 ⟨h.ok,h.n,h.a.J E,h.k.J E,h.d.J E,h.r.J E,h.m.J E,h.fo.J E,h.c.J E,h.lk,h.ld,h.lr,h.lm,h.lf,h.lc⟩
theorem FcA.kA {f:FcV}(h:FcA ↑w f):Zk [] ↑w (Ul f.bk f.n) f.n 1 (f.K.map Value.bool):=
 h.k.arr oe (by rw[o6,h.lk];omega) (oy h.ok.st1 h.n) (Lu _)
theorem FcA.rA {f:FcV}(h:FcA ↑w f):Zk [] ↑w (Ul f.br f.n) f.R.length 4 (f.R.flatMap KM):=by
 have:=h.r.arr (L:=[]) oe (n:=f.R.length) (cap:=f.n) (sz:=4) (by rw[xN JX]) (oz h.ok.st1 h.n h.lr) (ov h.lr);rw[h.lr]at this ⊢;exact this
theorem QpF (n:Nat):(oK n (Value.bool false).cells.toList).flatten=(oK n false).map Value.bool:=by
 apply Mh
 .simp[Value.cells]
 intro i E H;simp[Value.cells]
theorem Qfb {f:FcV}(h:FcA ↑w f)(hp:KpH f.a f.K f.D f.M f.F f.C):
  QZ sV 114 [sT (ym f)] w λr w'=>r=.bool true/\sW w w':=by
 have hn:=h.n;have gh:=h.ok.st1;have gi:=h.ok.ed_le;have hM:f.a.st.toNat=f.n:=oa
 have hv:=hp.k2;rw[hM]at hv;refine Zt func114 ?_;refine Qc<|Zg (ym f) λb1 w1 h5 gj hw=>Qb<|Qc<|QN U<|Qm U hw U U<|Qo<|KC (n:=f.n) (O2 sS hn) (O2 sS hn) oa λb12 w2 hy h6 h8=>Qb ?_;rw[QpF]at h8;have hN:=h5.I hy;refine Qd<|Qc<|QN U<|Qm U (hw.J hy) U U<|QE (h.a.J hN).ed U<|Qa<|xe<|Q2 (α:=Nat) [(2,2),(5,5),(17,65)] (λz=>[(17,sS z)]) (λz w'=>z<=f.a.ed.length/\sW w1 w'/\QP ↑w' b12 4 (((f.a.ed.take z).foldl (VX (flC f.K) (flB f.D)) (oK f.n false)).map Value.bool)) (λz=>f.a.ed.length - z) 0 Lb ⟨Lp _,hy,h8⟩ ?_;rintro k g w3 ⟨hk,hz,T⟩;have h9:=h5.I hz;have I:=h.J h9;have Y:=hw.J hz;refine Zi rfl U (λh0=>?_) (λh0=>?_)
 .refine Qt ?_;have hO:f.a.ed.length<=k:=by have hP:¬(k:Int)<(f.a.ed.length:Int):=h0;omega
  rw[Lt hO]at T;have hj:(f.a.ed.foldl (VX (flC f.K) (flB f.D)) (oK f.n false)).length=f.n:=by rw[UV,ME]
  refine Zd (f.a.ed.foldl (VX (flC f.K) (flB f.D)) (oK f.n false)) λZ hZ=>?_;rw[hZ]at T hj hv;refine Qd<|Qc<|Qm U Y U U<|QE I.kA U<|Qa<|xe<|Q2 (α:=Nat) [(2,2),(6,8),(69,113)] (λz=>[(69,sS z)]) (λz w'=>z<=f.n/\w'=w3) (λz=>f.n - z) 0 Lb ⟨Lp _,U⟩ ?_;rintro s g w4 ⟨hs,rfl⟩;refine Zi U U (λhA=>?_) (λhA=>?_)
  .refine Qt<|Qc<|Qb<|Qi ⟨[_],Lb,U,h9⟩
  have H:s<f.n:=by have gk:(s:Int)<(f.n:Int):=hA;omega
  refine Qe<|Qd<|Qn<|Qj<|x (QO (i:=s) U U H)<|x (Yu (s:Int) I.k U (by rw[I.lk];exact H))<|x Qh<|Qb<|Qd<|Qj<|x (Zr U)<|xe<|Q6 U (λh1=>?_) (λh1=>?_)
  .refine Qt<|Qq<|QH U U<|Qa<|xe ?_;exact⟨s+1,oa,Lb,H,U⟩
  have hQ:lft f.K (s:Int)=true:=by cases e:lft f.K (s:Int)with|true=>rfl|false=>rw[e]at h1;cases h1
  obtain⟨q1,q2,q3,q4⟩:=hv s oa hQ;have hR:f.D.getD (s:Int).toNat 0=xo f.D s:=rfl;refine Qe<|Qc<|Qm U Y U U<|Qa<|x (QO (i:=s) U U H)<|x (QbH (s:Int) I.d U (by rw[I.ld];exact H))<|Qb ?_;rw[hR];generalize xo f.D s=ds at *;refine QX (α:=Unit) [(81,112)] (λ_=>[(112,.bool false)]) (λ_ w'=>w'=w4) om ?_ ?_
  .refine Qq<|Qm U Y U U<|Qa<|x (QO (i:=s) U U H)<|xB (Yu (s:Int) I.fo U (by rw[I.lf];exact H)) (λhB=>O3 hB (by rw[q1];decide)) (λhB=>?_);refine Qa<|Qa<|xb (YA U U) (λhC=>O3 hC oa) (λhC=>?_);refine QB U<|Qa<|Qa<|xb (QW U U) (λhD=>?_) (λhD=>?_)
   .have hm:=q3 hD;refine Qa<|Qm U Y U U<|Qa<|x (QO (i:=s) U U H)<|x (Yu (s:Int) I.m U (by rw[I.lm];exact H))<|xB (Zr U) (λhE=>O3 hE (by rw[hm];decide)) (λhE=>?_);refine QB U<|QB U<|Qa<|Qa<|xb (ZX U U) (λha=>O3 ha oa) (λha=>?_);refine Qa<|Zm<|Z6<|QB U<|QB U<|xe ?_;exact⟨(),Lb,U⟩
   have hf:=q4 oa;refine Qa<|Zm<|Zm<|QB U<|QB U<|Qa<|Qa<|xb (ZX U U) (λha=>?_) (λha=>O3 (show(0:Int)<ds by omega) ha);refine Qa<|Qa<|Qa<|x (QO (i:=s) U U H)<|x (Yu (s:Int) T U (by rw[hj];exact H))<|x (Zr U)<|QB U<|QB U<|xe ?_;exact⟨(),⟨O2 (λb=>Value.bool (!b)) hf,La⟩,U⟩
  rintro _ g5 w5 rfl;refine Zl U<|Qe<|Qq<|QH U U<|Qa<|xe ?_;exact⟨s+1,oa,Lb,H,U⟩
 have H:k<f.a.ed.length:=by have hP:(k:Int)<(f.a.ed.length:Int):=h0;omega
 have hm:=Lm H;have hF:=h.ok.ed _ hm;have hS:=h.ok.al;have hk1:=hp.k1 _ hm;have hl:(f.a.ed.take (k+1)).foldl (VX (flC f.K) (flB f.D)) (oK f.n false)=VX (flC f.K) (flB f.D) ((f.a.ed.take k).foldl (VX (flC f.K) (flB f.D)) (oK f.n false)) (f.a.ed[k]'H):=by
  rw[Lo H,Mk];rfl
 have hj:((f.a.ed.take k).foldl (VX (flC f.K) (flB f.D)) (oK f.n false)).length=f.n:=by rw[UV,ME]
 refine Zd ((f.a.ed.take k).foldl (VX (flC f.K) (flB f.D)) (oK f.n false)) λZ hZ=>?_;rw[hZ]at T hl hj;refine Zd (f.a.ed[k]'H) λe he=>?_;rw[he]at hF hk1 hl;have gl:=hS _ hF.2.2.1;have hb:e.1=(e.1.toNat:Int):=oa
 have hG:e.2.2=(e.2.2.toNat:Int):=oa
 have hT:e.2.1=(e.2.1.toNat:Int):=oa
 have O:e.1.toNat<f.n:=oa
 have ho:e.2.2.toNat<f.n:=oa
 have hH:∀(b:Bool),flC f.K e=false->QP ↑w3 b12 4 (((f.a.ed.take (k+1)).foldl (VX (flC f.K) (flB f.D)) (oK f.n false)).map Value.bool):=λ_ E=>by
  rw[hl];unfold VX;rw[O0 (by rw[E];decide)];exact T
 refine Qe<|Qd<|Qn<|Qc<|xie I.a.ed U U H λgm hI=>?_;rw[he]at hI;refine x (Qu hI U U)<|QL [sS 0,sS 0,sS 0] λb5 w6 hU hV hW=>QJ (Qz e) hW oC λw7 hX S=>xe ?_;have V:sW w3 w7:=hU.Q hX hV;have J:=I.J V;have hg:=Y.J V;have h2:=T.J V;have hq:=hz.I V;refine Qd<|Qc<|Qm U hg U U<|Qm U S U U<|x (QO (i:=e.1.toNat) U (O2 sS hb) O)<|x (Yu e.1 J.k U (by rw[J.lk];exact O))<|x (Zr U)<|xe<|Q6 rfl (λhh=>?_) (λhh=>?_)
 .refine Qt<|Qq<|QH U U<|Qa<|xe<|⟨k+1,oa,Lb,H,hq,(hH true ?_).J V⟩;cases E:lft f.K e.1 with
  | true=>rw[E]at hh;cases hh
  | false=>show(lft f.K e.1 && _)=false;rw[E];rfl
 have hJ:lft f.K e.1=true:=by cases E:lft f.K e.1 with|true=>rfl|false=>rw[E]at hh;cases hh
 refine Qe<|Qd<|Qc<|Qm U hg U U<|Qm U S U U<|x (QO (i:=e.2.2.toNat) U (O2 sS hG) ho)<|x (Yu e.2.2 J.k U (by rw[J.lk];exact ho))<|x (Zr U)<|xe<|Q6 rfl (λhi=>?_) (λhi=>?_)
 .have hr:lft f.K e.2.2=false:=by cases E:lft f.K e.2.2 with|false=>rfl|true=>rw[E]at hi;cases hi
  have hY:=hk1 hJ hr;refine Qd<|Qc<|Qm U hg U U<|Qm U S U U<|x (QO (i:=e.2.1.toNat) U (O2 sS hT) oa)<|x (Yu e.2.1 J.c U (by rw[J.lc];omega))<|xe<|Q6 U (λhK=>O3 hK (by rw[hY];decide)) (λhK=>?_);refine Qe<|Qt ?_;refine Qq<|QH U U<|Qa<|xe<|⟨k+1,oa,Lb,H,hq,(hH true ?_).J V⟩;show(lft f.K e.1 && lft f.K e.2.2)=false;rw[hr,Bool.and_false]
 have hr:lft f.K e.2.2=true:=by cases E:lft f.K e.2.2 with|true=>rfl|false=>rw[E]at hi;cases hi
 have hL:(f.a.ed.take (k+1)).foldl (VX (flC f.K) (flB f.D)) (oK f.n false)=Z.set e.1.toNat (lft Z e.1 || flB f.D e):=by
  rw[hl];unfold VX;rw[O1 (show(lft f.K e.1 && lft f.K e.2.2)=true by rw[hJ,hr];rfl)]
 refine Qe ?_;have ht:sW w7 { w7 with drawn:=w7.drawn+1 }:=xj.X _ _
 refine ZH [] (Xf 0 25 [24])<|p QA<|p (QF U)<|pq (λ_ E=>Qk (S.J E) U U)<|p QA<|p (QF U) <|
  pq (λ_ E=>Qk (S.J E) U U)<|p (λ_=>QO (i:=e.1.toNat) U (O2 sS hb) O)<|pqB (b:=lft Z e.1) (λ_ E=>Yu e.1 (h2.J E) U oa) (λh4=>?_) (λh4=>?_)
 .refine p QA<|ps<|ps<|ps<|ps<|ps<|ps<|ps<|ps<|ps<|ps<|ps<|ps<|ps<|p (Z9 U)<|p (λ_=>QO (i:=e.1.toNat) U (O2 sS hb) O) <|
   pkk<|Xk (i:=e.1.toNat) (h2.J ht) U U oa λw8 ga gb=>pe ?_
  refine Qq<|QH U U<|Qa<|xe<|⟨k+1,oa,Lb,H,(hq.I ht).Q ga h6,?_⟩;rw[hL,h4];exact gb
 refine p QA<|p (QF U)<|pq (λ_ E=>Qk (hg.J E) U U)<|p (QF U)<|pq (λ_ E=>Qk (S.J E) U U) <|
  p (λ_=>QO (i:=e.2.2.toNat) U (O2 sS hG) ho)<|pq (λ_ E=>QbH e.2.2 (J.J E).d U (by rw[J.ld];exact ho))<|p (QF U)<|pq (λ_ E=>Qk (hg.J E) U U) <|
  p (QF rfl)<|pq (λ_ E=>Qk (S.J E) U U)<|p (λ_=>QO (i:=e.1.toNat) U (O2 sS hb) O)<|pq (λ_ E=>QbH e.1 (J.J E).d U (by rw[J.ld];exact O)) <|
  p (λ_=>YA U U)<|p (Z9 U)<|p (λ_=>QO (i:=e.1.toNat) U (O2 sS hb) O)<|pkk<|Xk (i:=e.1.toNat) (u:=flB f.D e) (h2.J ht) U U oa λw9 gc gg=>pe ?_
 refine Qq<|QH U U<|Qa<|xe<|⟨k+1,oa,Lb,H,(hq.I ht).Q gc h6,?_⟩;rw[hL,h4];exact gg
abbrev z4:LV:=[sS 0,sS 0,sS 0,sS 0]
def rmP (base:Nat)(_:Nat)(v:O9)(w:O8):Prop:=∃b,v=sP b/\base<=b/\QP ↑w b 261 z4
theorem QnA {base:Nat}{v:O9}(h:rmP base i v w)(E:sW w w'):rmP base i v w':=let⟨b,H,I,J⟩:=h;⟨b,H,I,J.J E⟩
theorem QbV {f:FcV}(h:FcA ↑w f)(hp:RmH f.a f.K f.R f.M f.F f.C):
  QZ sV 115 [sT (ym f)] w λr w'=>r=.bool true/\sW w w':=by
 have hn:=h.n;have my:=h.ok.st1;have mz:=h.ok.ed_le;have kh:f.a.st.toNat=f.n:=oa
 have hQ:=hp.r2;rw[kh]at hQ;refine Zt func115 ?_;refine Qc<|Zg (ym f) λb1 w1 go m2 hR=>Qb<|Qc<|QN U<|Qm U hR U U<|Qo<|KC (n:=f.n) (O2 sS hn) (O2 sS hn) oa λb12 w2 hS hw gp=>Qb ?_;rw[QpF]at gp;have ki:=go.I hS;refine Qd<|Qc<|QN U<|Qm U (hR.J hS) U U<|QE (h.a.J ki).ed U<|Qa<|xe<|Q2 (α:=Nat) [(2,2),(5,7),(18,114)] (λz=>[(18,sS z)]) (λz w'=>z<=f.a.ed.length/\sW w1 w'/\QP ↑w' b12 4 (((f.a.ed.take z).foldl (VX (rsC f.K f.R) (rsB f.K f.C f.R)) (oK f.n false)).map Value.bool)) (λz=>f.a.ed.length - z) 0 Lb ⟨Lp _,hS,gp⟩ ?_;rintro k g w3 ⟨hk,hT,hi⟩;have gq:=go.I hT;have h3:=h.J gq;have hU:=hR.J hT;refine Zi rfl U (λhj=>?_) (λhj=>?_)
 .refine Qt ?_;have kj:f.a.ed.length<=k:=by have kk:¬(k:Int)<(f.a.ed.length:Int):=hj;omega
  rw[Lt kj]at hi;have hF:(f.a.ed.foldl (VX (rsC f.K f.R) (rsB f.K f.C f.R)) (oK f.n false)).length=f.n:=by rw[UV,ME]
  refine Zd (f.a.ed.foldl (VX (rsC f.K f.R) (rsB f.K f.C f.R)) (oK f.n false)) λZ hZ=>?_;rw[hZ]at hi hF hQ;have m3:=h3.lr;refine Qd<|Qc<|Qm U hU U U<|QE h3.rA U<|Qa<|xe<|Q2 (α:=Nat) [(2,2),(8,9),(118,181)] (λz=>[(118,sS z)]) (λz w'=>z<=f.R.length/\sW w3 w') (λz=>f.R.length - z) 0 Lb ⟨Lp _,xj.Y _ _⟩ ?_;rintro s g w4 ⟨hs,hV⟩;refine Zi U U (λgr=>?_) (λgr=>?_)
  .refine Qt<|Qc<|Qb<|Qi ⟨[_],Lb,U,gq.I hV⟩
  have hl:s<f.R.length:=by have gs:(s:Int)<(f.R.length:Int):=gr;omega
  have H:s<f.n:=oa
  have h4:=h3.J hV;have kn:xM f.R (s:Int)=f.R[s]'hl:=by unfold xM;simp[oQ,hl]
  have hW:=hQ s oa;rw[kn]at hW;refine Qe<|Qd<|Qn<|Qj<|xp (g:=KM) (i:=s) JX h4.rA U U hl λm4 gt=>?_;refine Zd (f.R[s]'hl) λr hr=>?_;rw[hr]at gt hW;refine x (Qu (us:=KM r) gt U U)<|QL z4 λb9 w5 hy ko kq=>x Qh<|QJ (KM r) kq oD λw6 hX ha=>xe ?_;have gu:sW w4 w6:=hy.Q hX ko;have hG:=hV.I gu;have h6:=h4.J gu;have hz:=hU.J hG;have J:=hi.J hG;refine Qd<|Qc<|Qm U hz U U<|Qa<|x (QO (i:=s) U U H)<|x (Yu (s:Int) h6.k U (by rw[h6.lk];exact H))<|xe<|Q6 U (λgv=>?_) (λgv=>?_)
  .refine Qt<|Qq<|QH U U<|Qa<|xe ?_;exact⟨s+1,oa,Lb,hl,hG⟩
  obtain⟨q1,q2,q3,q4,q5⟩:=hW gv;refine Qe<|Qn<|QX (α:=Unit) [(128,136)] (λ_=>[(128,.bool false)]) (λ_ w'=>w'=w6) om ?_ ?_
  .refine Qq<|Qm U ha U U<|xb (YA U U) (λgw=>O3 gw oa) (λgw=>?_);refine Qa<|Qm U ha U U<|x (ZX U U)<|QB U<|Qb<|⟨(),⟨O2 Value.bool (O6 oa),La⟩,U⟩
  rintro _ g7 O rfl;refine Zl U<|QX (α:=Unit) [(137,153)] (λ_=>[(137,.bool false)]) (λ_ w'=>w'=O) om ?_ ?_
  .refine Qq<|Qm U ha U U<|xb (QW U U) (λgx=>?_) (λgx=>?_)
   .obtain⟨u1,u2⟩:=q3 gx;refine Qa<|Qm U ha U U<|xb (YS U U) (λgy=>O3 u1 gy) (λgy=>?_);refine Qa<|Qm U hz U U<|Qa<|x (QO (i:=s) U U H)<|x (Yu (s:Int) h6.fo U (by rw[h6.lf];exact H)) <|
     x (Zr rfl)<|QB U<|QB U<|Qb<|⟨(),⟨O2 (λb=>Value.bool (!b)) u2,La⟩,U⟩
   refine Qa<|Zm<|Zm<|Zm<|Z6<|QB U<|Qb<|⟨(),Lb,U⟩
  rintro _ g8 w8 rfl;refine Zl U<|QX (α:=Unit) [(154,164)] (λ_=>[(154,.bool false)]) (λ_ w'=>w'=w8) om ?_ ?_
  .refine Qq<|Qm U ha U U<|xb (QW U U) (λgz=>?_) (λgz=>?_)
   .have u1:=q4 gz;refine Qa<|Qa<|Qa<|x (QO (i:=s) U U H)<|x (Yu (s:Int) J U (by rw[hF];exact H))<|x (Zr U)<|QB U<|Qb<|⟨(),⟨O2 (λb=>Value.bool (!b)) u1,La⟩,U⟩
   refine Qa<|Zm<|Z6<|QB U<|Qb<|⟨(),Lb,U⟩
  rintro _ g9 w9 rfl;refine Zl U<|QX (α:=Unit) [(165,180)] (λ_=>[(165,.bool false)]) (λ_ w'=>w'=w9) om ?_ ?_
  .refine Qq<|Qm U ha U U<|xb (QW U U) (λg0=>?_) (λg0=>?_)
   .obtain⟨u1,u2⟩:=q5 g0;refine Qa<|Qm U ha U U<|xb (YS U U) (λg2=>O3 u1 g2) (λg2=>?_);refine Qa<|Qm U hz U U<|Qa<|x (QO (i:=s) U U H)<|x (Yu (s:Int) h6.m U (by rw[h6.lm];exact H)) <|
     QB rfl<|QB U<|Qb<|⟨(),⟨O2 Value.bool u2,La⟩,U⟩
   refine Qa<|Zm<|Zm<|Zm<|K4<|QB U<|Qb<|⟨(),Lb,U⟩
  rintro _ m5 hg rfl;refine Zl U<|Qe<|Qq<|QH U U<|Qa<|xe ?_;exact⟨s+1,oa,Lb,hl,hG⟩
 have H:k<f.a.ed.length:=by have kk:(k:Int)<(f.a.ed.length:Int):=hj;omega
 have hm:=Lm H;have g3:=h.ok.ed _ hm;have kr:=h.ok.al;have hY:=hp.r1 _ hm;have h0:(f.a.ed.take (k+1)).foldl (VX (rsC f.K f.R) (rsB f.K f.C f.R)) (oK f.n false)=VX (rsC f.K f.R) (rsB f.K f.C f.R) ((f.a.ed.take k).foldl (VX (rsC f.K f.R) (rsB f.K f.C f.R)) (oK f.n false)) (f.a.ed[k]'H):=by
  rw[Lo H,Mk];rfl
 have hF:((f.a.ed.take k).foldl (VX (rsC f.K f.R) (rsB f.K f.C f.R)) (oK f.n false)).length=f.n:=by rw[UV,ME]
 refine Zd ((f.a.ed.take k).foldl (VX (rsC f.K f.R) (rsB f.K f.C f.R)) (oK f.n false)) λZ hZ=>?_;rw[hZ]at hi h0 hF;refine Zd (f.a.ed[k]'H) λe he=>?_;rw[he]at g3 hY h0;have m6:=kr _ g3.2.2.1;have S:e.1=(e.1.toNat:Int):=oa
 have ga:e.2.2=(e.2.2.toNat:Int):=oa
 have kt:e.2.1=(e.2.1.toNat:Int):=oa
 have T:e.1.toNat<f.n:=oa
 have hH:e.2.2.toNat<f.n:=oa
 have hI:e.1.toNat<f.R.length:=by have:=h.lr;omega
 have hJ:e.2.2.toNat<f.R.length:=by have:=h.lr;omega
 have gb:rsC f.K f.R e=false->QP ↑w3 b12 4 (((f.a.ed.take (k+1)).foldl (VX (rsC f.K f.R) (rsB f.K f.C f.R)) (oK f.n false)).map Value.bool):=λE=>by
  rw[h0];unfold VX;rw[O0 (by rw[E];decide)];exact hi
 have h5:rsC f.K f.R e=true->(f.a.ed.take (k+1)).foldl (VX (rsC f.K f.R) (rsB f.K f.C f.R)) (oK f.n false)=Z.set e.1.toNat (lft Z e.1 || rsB f.K f.C f.R e):=λE=>by
  rw[h0];unfold VX;rw[O1 E]
 clear h0;have hK:xM f.R e.1=f.R[e.1.toNat]'hI:=by unfold xM;simp[oQ,hI]
 have gc:xM f.R e.2.2=f.R[e.2.2.toNat]'hJ:=by unfold xM;simp[oQ,hJ]
 refine Qe<|Qd<|Qn<|Qc<|xie h3.a.ed U U H λm7 hj=>?_;rw[he]at hj;refine x (Qu hj U U)<|QL [sS 0,sS 0,sS 0] λb5 w6 hX ku kv=>QJ (Qz e) kv oC λO kw gg=>xe ?_;have h8:sW w3 O:=hX.Q kw ku;have h7:=h3.J h8;have h9:=hU.J h8;have kx:=hi.J h8;have gh:=hT.I h8;refine Zd (f.R[e.1.toNat]'hI) λr hr=>?_;refine Zd (f.R[e.2.2.toNat]'hJ) λt ht=>?_;rw[hr]at hK;rw[ht]at gc;rw[hK,gc]at hY;have kz:rsC f.K f.R e=(!lft f.K e.1 && decide (r.2.2.1=2)):=by show(!lft f.K e.1 && decide ((xM f.R e.1).2.2.1=2))=_;rw[hK]
 have k0:rsB f.K f.C f.R e=(decide (e.2.1=r.2.2.2) && (lft f.C e.2.1 && (!lft f.K e.2.2 && decide (t.2.1<r.2.1)))):=by
  show(decide (e.2.1=(xM f.R e.1).2.2.2) && (lft f.C e.2.1 && (!lft f.K e.2.2 && decide ((xM f.R e.2.2).2.1<(xM f.R e.1).2.1))))=_;rw[hK,gc]
 rw[kz]at gb h5;rw[k0]at h5;refine Qd<|qq (α:=Nat×Nat) (sW O) [oE 0,oE 1,oE 2,oE 3,oE 4,oE 5,oE 6,oE 7,oE 8,oE 9,oE 10,oE 11] (λ_=>[]) [12,13] [oF 14,oF 15] [(6,7)] (rmP ↑O)
  (λz=>[(6,.pointer (some ⟨z.1,0,none⟩)),(7,.pointer (some ⟨z.2,0,none⟩))]) (λz w'=>QP ↑w' z.1 261 z4/\QP ↑w' z.2 261 z4/\z.1≠z.2/\↑O<=z.1/\↑O<=z.2)
  mixed om od (xj.X _ _) (λ_ _ h1 h2=>h1.I h2) (λ_ _ _ _ h hs=>QnA h hs) ?_ ?_
 .rintro g w' ⟨⟨b6,e1,k4,k5⟩,⟨b7,e2,gs,k6⟩,_⟩ k7;have d1:=k7 12 oe 13 oe oh;rw[e1,e2]at d1;simp only[ow,oJ,forall_eq]at d1;exact⟨(b6,b7),⟨e1,e2,La⟩,k5,k6,d1,k4,gs⟩
 refine p (QF U)<|pq (λ_ E=>Qk (h9.J E) U U)<|p (QF U)<|pq (λ_ E=>Qk (gg.J E) U U)<|Lg.pig (g:=KM) (i:=e.1.toNat) U JX h7.rA U (show Go.Lg.ev _ _=_ from O2 sS S) hI λm8 g4=>?_;rw[hr]at g4;refine pq (λ_ E=>Qu (us:=KM r) (g4.J E) U U)<|p (QF U)<|pq (λ_ E=>Qk (h9.J E) U U)<|p (QF U)<|pq (λ_ E=>Qk (gg.J E) U U)<|Lg.pig (g:=KM) (i:=e.2.2.toNat) U JX h7.rA U (show Go.Lg.ev _ _=_ from O2 sS ga) hJ λm9 g5=>?_;rw[ht]at g5;refine pq (λ_ E=>Qu (us:=KM t) (g5.J E) U U)<|pe ⟨⟨?_,?_,La⟩,?_⟩
 .intro g w' E _;exact Jh (us:=z4) U λb w5 hy hb hB=>⟨hy,⟨b,U,LJ E.size hb,hB⟩,λc gi=>by rw[Lc.1 (show c∈[b] from gi)];exact⟨hb,hB.lt⟩⟩
 .intro g w' E _;exact Jh (us:=z4) U λb w5 hy hb hB=>⟨hy,⟨b,U,LJ E.size hb,hB⟩,λc gi=>by rw[Lc.1 (show c∈[b] from gi)];exact⟨hb,hB.lt⟩⟩
 rintro⟨b6,b7⟩ g w8 gj ⟨g6,ka,k8,hL,gk⟩;simp only[]at g6 ka k8 hL gk;refine pk<|Ux (KM r) g6 oD λw9 hM k9=>⟨gj.Q hM hL,?_⟩;refine pk<|Ux (KM t) (ka.O hM ol) oD λhg gl hN=>⟨(gj.Q hM hL).Q gl gk,pe ?_⟩;have ho:sW O hg:=(gj.Q hM hL).Q gl gk;have hq:=k9.O gl ol;have V:=h7.J ho;have hO:=h9.J ho;have hh:=gg.J ho;have J:=kx.J ho;have Y:=gh.I ho;have kb:=h8.I ho;refine Qn<|Qc<|Qm U hO U U<|Qm U hh U U<|x (QO (i:=e.1.toNat) U (O2 sS S) T)<|x (Yu e.1 V.k U (by rw[V.lk];exact T))<|Qb<|Q6 U (λhA=>?_) (λhA=>?_)
 .refine Qe<|Qq<|QH U U<|Qa<|xe ?_;exact⟨k+1,oa,Lb,H,Y,(gb (by rw[hA];rfl)).J kb⟩
 refine Qc<|Qm U hq U U<|x (QW U U)<|Qb<|ZI U (λgm=>?_) (λgm=>?_)
 .have hD:QP ↑hg b12 4 (((f.a.ed.take (k+1)).foldl (VX (rsC f.K f.R) (rsB f.K f.C f.R)) (oK f.n false)).map Value.bool):=(gb (by rw[hA,O6 gm];rfl)).J kb;refine Qc<|Qm U hq U U<|x (QW U U)<|Qb<|ZI U (λkc=>?_) (λkc=>?_)
  .refine Qe<|Qq<|QH U U<|Qa<|xe ?_;exact⟨k+1,oa,Lb,H,Y,hD⟩
  obtain⟨u1,u2,u3⟩:=hY hA kc;refine QX (α:=Unit) [(89,113)] (λ_=>[(113,.bool false)]) (λ_ w'=>w'=hg) om ?_ ?_
  .refine Qq<|Qm U hO U U<|Qm U hh U U<|x (QO (i:=e.2.2.toNat) U (O2 sS ga) hH)<|xB (Yu e.2.2 V.k U (by rw[V.lk];exact hH)) (λke=>O3 ke (by rw[u1];decide)) (λke=>?_);refine Qa<|Qm U hN U U<|Qm U hq U U<|xb (ZX U U) (λkf=>O3 kf oa) (λkf=>?_);refine QB U<|Qa<|Qm U hN U U<|Qm U hq U U<|xb (QW U U) (λkg=>?_) (λkg=>?_)
   .refine Qa<|Qm U hN U U<|Zu U U<|QB U<|QB U<|xe ?_;exact⟨(),⟨O2 Value.bool (O6 (not_not_intro (u3 kg))),La⟩,U⟩
   refine Qa<|Zm<|QB U<|QB U<|xe ?_;exact⟨(),Lb,U⟩
  rintro _ pa pc rfl;refine Zl U<|Qe<|Qq<|QH U U<|Qa<|xe ?_;exact⟨k+1,oa,Lb,H,Y,hD⟩
 have h5:=h5 (by rw[hA,O4 gm];rfl);have hC:∀(u:Bool) (w':O8),u=(lft Z e.1 || (decide (e.2.1=r.2.2.2) && (lft f.C e.2.1 && (!lft f.K e.2.2 && decide (t.2.1<r.2.1)))))->QP ↑w' b12 4 ((Z.set e.1.toNat u).map Value.bool)->QP ↑w' b12 4 (((f.a.ed.take (k+1)).foldl (VX (rsC f.K f.R) (rsB f.K f.C f.R)) (oK f.n false)).map Value.bool):=λu w' hu hB=>by
  rw[h5,<-hu];exact hB
 have I:sW hg { hg with drawn:=hg.drawn+1 }:=xj.X _ _
 refine ZH [] (Xf 0 41 [40])<|p QA<|p (QF U)<|pq (λ_ E=>Qk (hh.J E) U U)<|p QA<|p (QF U) <|
  pq (λ_ E=>Qk (hh.J E) U U)<|p (λ_=>QO (i:=e.1.toNat) U (O2 sS S) T)<|pqB (b:=lft Z e.1) (λ_ E=>Yu e.1 (J.J E) U oa) (λhv=>?_) (λhv=>?_)
 .refine p QA<|ps<|ps<|ps<|ps<|ps<|ps<|ps<|ps<|ps<|ps<|ps<|ps<|ps<|ps<|ps<|ps<|ps<|ps<|ps<|ps<|ps<|ps<|ps<|ps<|ps<|ps<|ps<|ps<|ps<|p (Z9 U) <|
   p (λ_=>QO (i:=e.1.toNat) U (O2 sS S) T)<|pkk<|Xk (i:=e.1.toNat) (J.J I) U U oa λma mf mg=>pe ?_
  refine Qq<|QH U U<|Qa<|xe ?_;exact⟨k+1,oa,Lb,H,(Y.I I).Q mf hw,hC true ma (by rw[hv];rfl) mg⟩
 refine p QA<|p (QF U)<|pq (λ_ E=>Qk (hh.J E) U U)<|p (QF U)<|pq (λ_ E=>Qk (hq.J E) U U) <|
  pb (λ_=>QW U U) (λhE=>?_) (λhE=>?_)
 .refine p QA<|p (QF U)<|pq (λ_ E=>Qk (hO.J E) U U)<|p (QF U)<|pq (λ_ E=>Qk (hh.J E) U U) <|
   p (λ_=>QO (i:=e.2.1.toNat) U (O2 sS kt) oa)<|pqB (b:=lft f.C e.2.1) (λ_ E=>Yu e.2.1 (V.J E).c U (by rw[V.lc];omega)) (λhP=>?_) (λhP=>?_)
  .refine p (Z9 U)<|p QA<|p (QF U)<|pq (λ_ E=>Qk (hO.J E) U U)<|p (QF U) <|
    pq (λ_ E=>Qk (hh.J E) U U)<|p (λ_=>QO (i:=e.2.2.toNat) U (O2 sS ga) hH)<|pq (λ_ E=>Yu e.2.2 (V.J E).k U (by rw[V.lk];exact hH)) <|
    pB (λ_=>Zr U) (λgn=>?_) (λgn=>?_)
   .refine p (Z9 U)<|p QA<|p (QF U)<|pq (λ_ E=>Qk (hN.J E) U U)<|p (QF U) <|
     pq (λ_ E=>Qk (hq.J E) U U)<|p (λ_=>YA U U)<|p (Z9 U)<|p (Z9 U)<|p (λ_=>QO (i:=e.1.toNat) U (O2 sS S) T) <|
     pkk<|Xk (i:=e.1.toNat) (u:=decide (t.2.1<r.2.1)) (J.J I) U U oa λmh mj mo=>pe ?_
    refine Qq<|QH U U<|Qa<|xe ?_;exact⟨k+1,oa,Lb,H,(Y.I I).Q mj hw,hC _ mh (by rw[hv,O4 hE,hP,gn];rfl) mo⟩
   refine p (Z9 U)<|p QA<|ps<|ps<|ps<|ps<|ps<|p (Z9 U)<|p (Z9 U)<|p (λ_=>QO (i:=e.1.toNat) U (O2 sS S) T) <|
    pkk<|Xk (i:=e.1.toNat) (u:=false) (J.J I) U U oa λmq ms hz=>pe ?_
   refine Qq<|QH U U<|Qa<|xe ?_;exact⟨k+1,oa,Lb,H,(Y.I I).Q ms hw,hC _ mq (by rw[hv,gn,O4 hE,hP];rfl) hz⟩
  refine p (Z9 U)<|p QA<|ps<|ps<|ps<|ps<|ps<|ps<|ps<|p (Z9 U)<|p QA<|ps<|ps<|ps<|ps<|ps<|p (Z9 U) <|
   p (Z9 rfl)<|p (λ_=>QO (i:=e.1.toNat) U (O2 sS S) T)<|pkk<|Xk (i:=e.1.toNat) (u:=false) (J.J I) U U oa λmt gh h9=>pe ?_
  refine Qq<|QH U U<|Qa<|xe ?_;exact⟨k+1,oa,Lb,H,(Y.I I).Q gh hw,hC _ mt (by rw[hv,hP,O4 hE];rfl) h9⟩
 refine p QA<|ps<|ps<|ps<|ps<|ps<|ps<|p (Z9 U)<|p QA<|ps<|ps<|ps<|ps<|ps<|ps<|ps<|p (Z9 U) <|
  p QA<|ps<|ps<|ps<|ps<|ps<|p (Z9 U)<|p (Z9 U)<|p (λ_=>QO (i:=e.1.toNat) U (O2 sS S) T) <|
  pkk<|Xk (i:=e.1.toNat) (u:=false) (J.J I) U U oa λmu mv mw=>pe ?_
 refine Qq<|QH U U<|Qa<|xe ?_;exact⟨k+1,oa,Lb,H,(Y.I I).Q mv hw,hC _ mu (by rw[hv,O6 hE];rfl) mw⟩
instance:Bw sV 259 [nS,sS 0,nS,nS,nS,nS,nS,nS,nS,nS] [(0,4),(4,1),(5,1),(6,1),(7,1),(8,1),(9,1)]:={}
def fxB (base:Nat)(v:Nat->O9)(T:Nat)(cs:LV)(x:O9)(w:O8):Prop:=∃b,x=v b/\base<=b/\QP ↑w b T cs
theorem QP.ne {H:xI}{a T':Nat}{cs':LV}(h:QP H a T cs)(E:QP H b T' cs')(I:T≠T'):a≠b:=λe=>by
 subst e;unfold QP at h E;rw[h]at E;injection E with h1
 injection h1 with h2 h3
 exact I h3
abbrev QpY:LV:=[nS,sS 0,nS,nS,nS,nS,nS,nS,nS,nS]
structure FxZ where
 bk:Nat
 bd:Nat
 br:Nat
 bm:Nat
 bf:Nat
 bc:Nat
abbrev Qcb (va vm ve:O9)(a:QU)(n:Nat)(z:FxZ):LV:=[va,sS a.st,vm,ve,Ul z.bk n,Ul z.bd n,Ul z.br n,Ul z.bm n,Ul z.bf n,Ul z.bc 32]
structure FxI (base n:Nat)(kp mr fb ul:LI)(z:FxZ)(w:O8):Prop where
 k:QP ↑w z.bk 4 ((flg n kp).map Value.bool)
 d:QP ↑w z.bd 3 ((oK n 0).map (Value.int .i64))
 r:QP ↑w z.br 261 ((oK n q40).flatMap KM)
 m:QP ↑w z.bm 4 ((flg n mr).map Value.bool)
 f:QP ↑w z.bf 4 ((flg n fb).map Value.bool)
 c:QP ↑w z.bc 4 ((flg 32 ul).map Value.bool)
 ld:base<=z.bd
 lr:base<=z.br
theorem FxI.J {base n:Nat}{kp mr fb ul:LI}{z:FxZ}{w w':O8}(h:FxI base n kp mr fb ul z w)(E:sW w w'):FxI base n kp mr fb ul z w' :=
 ⟨h.k.J E,h.d.J E,h.r.J E,h.m.J E,h.f.J E,h.c.J E,h.ld,h.lr⟩
def fxP (va vm ve:O9)(a:QU)(base n:Nat)(kp fb ul:LI)(i:Nat):O9->O8->Prop :=
 if i=5 then fxB base (λb=>Ul b n) 4 ((flg n kp).map Value.bool)else if i=8 then fxB base (λb=>Ul b n) 3 ((oK n 0).map (Value.int .i64))else
 if i=11 then fxB base (λb=>Ul b n) 261 ((oK n q40).flatMap KM)else if i=16 then fxB base (λb=>Ul b n) 4 ((flg n a.mr).map Value.bool)else
 if i=21 then fxB base (λb=>Ul b n) 4 ((flg n fb).map Value.bool)else if i=23 then fxB base (λb=>Ul b 32) 4 ((flg 32 ul).map Value.bool)else
 if i=24 then λv w=>∃z:FxZ,v=sT (Qcb va vm ve a n z)/\FxI base n kp a.mr fb ul z w else
 fxB base (λb=>sP b) 259 QpY
theorem Qow {base:Nat}{f:Nat->O9}{v:O9}(h:fxB base f T cs v w)(E:sW w w'):fxB base f T cs v w':=let⟨b,H,I,J⟩:=h;⟨b,H,I,J.J E⟩
theorem Qov {base:Nat}{kp:LI}{v:O9}(h:fxP va vm ve a base n kp fb ul i v w)(E:sW w w'):fxP va vm ve a base n kp fb ul i v w':=by
 unfold fxP at *
 repeat' split at h
 all_goals simp_all only[if_true,if_false]
 all_goals first
  | exact Qow h E
  | exact(let⟨z,H,I⟩:=h;⟨z,H,I.J E⟩)
abbrev fxF (va vm ve:O9)(a:QU)(n:Nat)(fb ul kp:LI)(z:FxZ)(D:LI)(R:List Q4):FcV:=⟨va,vm,ve,a,n,z.bk,flg n kp,z.bd,D,z.br,R,z.bm,flg n a.mr,z.bf,flg n fb,z.bc,flg 32 ul⟩
theorem Qla (n:Nat):(oK n [sS 0,sS 0,sS 0,sS 0]).flatten=(oK n q40).flatMap KM:=by
 rw[List.flatMap_def,List.map_replicate]
theorem QnC (n:Nat):(oK n [sS 0]).flatten=(oK n (0:Int)).map (Value.int .i64):=by
 rw[List.map_replicate];induction n with
 | zero=>rfl
 | succ n ih=>rw[List.replicate_succ,List.flatten_cons,ih];rfl
theorem Qcn (n:Nat)(kp ds:LI):∀k,(dsA n kp ds k).length=n
 | 0=>by unfold dsA;simp
 | k+1=>by
  have:=Qcn n kp ds k;unfold dsA at *;rw[Nl,Mk];simpa using this
theorem QbF (n:Nat)(rm:List Q4):(rmQ n rm).length=n:=by
 have e:rmQ n rm=(rm.map λr=>(r.1.toNat,r)).foldl stF (oK n q40):=by unfold rmQ;rw[List.foldl_map]
 rw[e,Qga,ME]
theorem Qdr {vf c0 c1 c2:O9}{kp ds:LI}{rm:List Q4}(h:ZE [] ↑w va vm ve a)(hu:QG [] ↑w vu ul)(hf:QG [] ↑w vf fb)(hk:QG [] ↑w c0 kp)(hd:QG [] ↑w c1 ds)(hr:Zk [] ↑w c2 rm.length 4 (rm.flatMap KM))(J:VrH a fb ul kp ds rm):
  QZ sV 54 [sT (XM va vm ve vu vf a),.agg #[c0,c1,c2]] w λr w'=>r=sS 0/\sW w w':=by
 have ht:=J.ok;have m5:=ht.st0;have m6:=ht.st1;obtain⟨n,Z⟩:∃n:Nat,a.st=n:=⟨a.st.toNat,oa⟩;have g4:a.st.toNat=n:=oa
 have g5:=J.rg;have hC:=J.hk.1;have hV:=J.nk;have hK:=J.k;have hR:=J.r;rw[Z]at hC;rw[g4]at hV hK hR;have hW:=ht.mr;have hX:=J.hf.1;rw[Z]at hW hX;have g6:=J.n;refine Zt func54 ?_;refine Qc<|Zg (XM va vm ve vu vf a) λb2 w1 g7 m7 g8=>Zg [c0,c1,c2] λb3 w2 hY m8 hZ=>Qb ?_;have h0:=g7.I hY;have hE:=g8.J hY;refine Qd<|Qc<|QV hE U U<|Qx<|(Qfc (h.J h0) (hu.J h0) (hf.J h0) ((Z0 a).2 ht) ((YW _ _ _).2 ⟨J.hu.1,J.hu.2,λ_ e=>by cases e⟩) ((YW _ _ _).2 ⟨J.hf.1,J.hf.2,λ_ e=>by cases e⟩)).S ?_;rintro r3 w3 ⟨rfl,hw⟩;have h3:=h0.I hw;refine Qb<|Qj<|Zu U U<|xe<|Zl rfl<|Qe<|Qd<|Qc<|QV (hE.J hw) U U<|QV (hZ.J hw) U U<|Qx<|(Qia (hk.J h3) (hd.J h3) (hr.J h3) ((YW _ _ _).2 ⟨J.hk.1,J.hk.2,λ_ e=>by cases e⟩) J.ln J.rg J.ri J.rk).S ?_;rintro r4 w4 ⟨rfl,hF⟩;have g9:=h3.I hF;have ga:=(hE.J hw).J hF;have ka:=(hZ.J hw).J hF;refine Qb<|Qj<|Zu U U<|xe<|Zl rfl<|Qe<|Qc<|QN U<|x (Q7 (us:=[va,sS a.st,vm,ve]) ga U U U)<|QL XD λb7 w5 T kb kc=>QJ [va,sS a.st,vm,ve] kc ⟨h.al.one,U,h.mr.one,h.ed.one,La⟩ λw6 ke ha=>xe ?_;have hG:sW w4 w6:=T.Q ke kb;have he:=g9.I hG;have gb:=ga.J hG;have hH:=ka.J hG;have h6:=h.J he;have gc:=hk.J he;refine Qd<|qq (α:=FxZ×Nat) (sW w6) [oE 0,oE 1,oE 2,oE 3,oE 4,oE 6,oE 7,oE 9,oE 10,oE 12,oE 13,oE 14,oE 15,oE 17,oE 18,oE 19,oE 20,oE 22] (λi=>if i=24 then[5,8,11,16,21,23]else[]) [5,8,11,16,21,23,24,25] [oF 26] [(31,31),(34,34),(37,37),(42,42),(47,47),(49,50),(8,8)] (fxP va vm ve a ↑w6 n kp fb ul)
  (λz=>[(50,sT (Qcb va vm ve a n z.1)),(8,.pointer (some ⟨z.2,0,none⟩))]) (λz w'=>FxI ↑w6 n kp a.mr fb ul z.1 w'/\QP ↑w' z.2 259 QpY/\↑w6<=z.2)
  mixed om od (xj.X _ _) (λ_ _ h1 h2=>h1.I h2) (λ_ _ _ _ h S=>Qov h S) ?_ ?_
 .rintro g w' ⟨_,_,_,_,_,_,⟨z,kf,k⟩,⟨b8,kg,kh,k7⟩,_⟩ _;exact⟨(z,b8),⟨kf,kg,La⟩,k,k7,kh⟩
 refine pq (λ_ E=>ZN (ha.J E) U U)<|p (QF U)<|pq (λ_ E=>Qk (ha.J E) U U)<|p (QF U)<|pq (λ_ E=>Qk (hH.J E) U U) <|
  p (QF rfl)<|pq (λ_ E=>Qk (ha.J E) U U)<|p (QF U)<|pq (λ_ E=>Qk (ha.J E) U U)<|p (QF U)<|pq (λ_ E=>Qk (ha.J E) U U) <|
  p (QF rfl)<|pq (λ_ E=>Qk (ha.J E) U U)<|p (QF U)<|pq (λ_ E=>Qk (ha.J E) U U) <|
  p (QF rfl)<|pq (λ_ E=>Qk (gb.J E) U U)<|pq (λ_ E=>ZN (gb.J E) U U)<|pe ⟨⟨?_,?_,?_,?_,?_,?_,?_,?_,La⟩,?_⟩
 .intro g w' E _;refine xg<|(K9 (gc.J E) Z oa hC).S ?_;rintro r w5 ⟨T,b,rfl,H,O⟩;exact⟨T,⟨b,U,LJ E.size H,O⟩,λc V=>by rw[Lc.1 (show c∈[b] from V)];exact⟨H,O.lt⟩⟩
 .intro g w' E _;refine KC (n:=n) (O2 sS Z) (O2 sS Z) oa λb w5 T H O=>⟨T,⟨b,U,LJ E.size H,?_⟩,λc V=>by rw[Lc.1 (show c∈[b] from V)];exact⟨H,O.lt⟩⟩;rw[<-QnC];exact O
 .intro g w' E _;refine KC (n:=n) (O2 sS Z) (O2 sS Z) oa λb w5 T H O=>⟨T,⟨b,U,LJ E.size H,?_⟩,λc V=>by rw[Lc.1 (show c∈[b] from V)];exact⟨H,O.lt⟩⟩;rw[<-Qla];exact O
 .intro g w' E _;refine xg<|(K9 ((h6.J E).mr) Z oa hW).S ?_;rintro r w5 ⟨T,b,rfl,H,O⟩;exact⟨T,⟨b,U,LJ E.size H,O⟩,λc V=>by rw[Lc.1 (show c∈[b] from V)];exact⟨H,O.lt⟩⟩
 .intro g w' E _;refine xg<|(K9 ((hf.J he).J E) Z oa hX).S ?_;rintro r w5 ⟨T,b,rfl,H,O⟩;exact⟨T,⟨b,U,LJ E.size H,O⟩,λc V=>by rw[Lc.1 (show c∈[b] from V)];exact⟨H,O.lt⟩⟩
 .intro g w' E _;refine xg<|(Qh9 ((hu.J he).J E) J.hu.1).S ?_;rintro r w5 ⟨T,b,rfl,H,O⟩;exact⟨T,⟨b,U,LJ E.size H,O⟩,λc V=>by rw[Lc.1 (show c∈[b] from V)];exact⟨H,O.lt⟩⟩
 .rintro g w' E ⟨⟨bk,e5,_,k1⟩,⟨bd,e8,l8,k2⟩,⟨br,ki,kj,k3⟩,⟨bm,kk,_,k4⟩,⟨bf,kn,_,k5⟩,⟨bc,ko,_,k6⟩,_⟩;refine xv (Q8 [(0,[va,sS a.st,vm,ve]),(1,[Ul bk n]),(2,[Ul bd n]),(3,[Ul br n]),(4,[Ul bm n]),(5,[Ul bf n]),(6,[Ul bc 32])] ⟨U,U,O2 Value.cells e5,U,O2 Value.cells e8,U,O2 Value.cells ki,U,O2 Value.cells kk,U,O2 Value.cells kn,U,O2 Value.cells ko,U,La⟩) ?_;exact⟨xj.Y _ _,⟨⟨bk,bd,br,bm,bf,bc⟩,U,k1,k2,k3,k4,k5,k6,l8,kj⟩,λc V=>by cases V⟩
 .intro g w' E _;exact Jh (us:=[nS,sS 0,nS,nS,nS,nS,nS,nS,nS,nS]) U λb w5 T H O=>⟨T,⟨b,U,LJ E.size H,O⟩,λc V=>by rw[Lc.1 (show c∈[b] from V)];exact⟨H,O.lt⟩⟩
 rintro⟨z,b8⟩ g w7 gg ⟨I,hg,hJ⟩;simp only[]at I hg hJ;refine pk<|Ux (Qcb va vm ve a n z) hg ⟨h.al.one,U,h.mr.one,h.ed.one,U,U,U,U,U,U,La⟩ λw8 hh kq=>⟨gg.Q hh hJ,pe ?_⟩;have ndk:=QP.ne I.d I.k oh;have ndr:=QP.ne I.d I.r oh;have ndm:=QP.ne I.d I.m oh;have ndf:=QP.ne I.d I.f oh;have ndc:=QP.ne I.d I.c oh;have gh:=QP.ne I.d hg oh;have nrk:=QP.ne I.r I.k oh;have nrm:=QP.ne I.r I.m oh;have nrf:=QP.ne I.r I.f oh;have nrc:=QP.ne I.r I.c oh;have gi:=QP.ne I.r hg oh;have nek:=QP.ne hg I.k oh;have nem:=QP.ne hg I.m oh;have nef:=QP.ne hg I.f oh;have nec:=QP.ne hg I.c oh;have hi:sW w6 w8:=gg.Q hh hJ;have h4:=he.I hi;have h5:=hH.J hi;have ns:∀{x y:Nat},x≠y->y∉[x]:=λkr hm=>kr (Lc.1 hm).symm;have kt:=I.k.O hh (ns nek);have ku:=I.d.O hh (ns gh.symm);have kv:=I.r.O hh (ns gi.symm);have kw:=I.m.O hh (ns nem);have kx:=I.f.O hh (ns nef);have kz:=I.c.O hh (ns nec);have k0:=he.size;have k8:=I.ld;have k9:=I.lr;have m9:=hH.lt;have n2:∀{y:Nat},z.bd≠y->z.br≠y->y∉[z.bd,z.br]:=λh1 h2 hm=>by
  simp only[oM,oL,or_false]at hm;rcases hm with e|e
  .exact h1 e.symm
  exact h2 e.symm
 have ho:∀b∈[z.bd,z.br],↑w6<=b:=λb H=>by
  simp only[oM,oL,or_false]at H;rcases H with e|e
  .rw[e];exact k8
  rw[e];exact k9
 have ma:∀{w':O8} {D:LI} {R:List Q4},xj [z.bd,z.br] w8 w'->QP ↑w' z.bd 3 (D.map (Value.int .i64))->QP ↑w' z.br 261 (R.flatMap KM)->D.length=n->R.length=n->FcA ↑w' (fxF va vm ve a n fb ul kp z D R):=by
  intro w' D R S hD mf lD lR;have hA:ZE [] ↑w' va vm ve a:=(((h6.up (L':=[z.bd,z.br]) (λb H=>.inr (ho b H))).J hi).st S).up oe;exact⟨ht,Z,hA,kt.O S (n2 ndk nrk),hD,mf,kw.O S (n2 ndm nrm),kx.O S (n2 ndf nrf),kz.O S (n2 ndc nrc),V0 _ _,lD,lR,V0 _ _,V0 _ _,V0 _ _⟩
 have gj:∀{w':O8},xj [z.bd,z.br] w8 w'->QG [] ↑w' c0 kp/\QG [] ↑w' c1 ds/\Zk [] ↑w' c2 rm.length 4 (rm.flatMap KM)/\QP ↑w' b3 _ [c0,c1,c2]/\QP ↑w' b8 _ [va,sS a.st,vm,ve,Ul z.bk n,Ul z.bd n,Ul z.br n,Ul z.bm n,Ul z.bf n,Ul z.bc 32]:=λS =>
  ⟨(((gc.up (L':=[z.bd,z.br]) (λb H=>.inr (ho b H))).J hi).st S).up oe,((((hd.J he).up (L':=[z.bd,z.br]) (λb H=>.inr (ho b H))).J hi).st S).up oe,
   ((((hr.J he).up (L':=[z.bd,z.br]) (λb H=>.inr (ho b H))).J hi).st S).up oe,h5.O S (λhm=>ov (ho _ hm)),kq.O S (n2 gh gi)⟩
 have mg:∀{w':O8},xj [z.bd,z.br] w8 w'->sW w w':=λS=>h4.G S λb H=>.inr (LJ k0 (ho b H));have pa:=hk.le;have pc:=hr.le;refine Qd<|Qc<|Qm U h5 U U<|QE (hk.J h4) U<|Qm U h5 U U<|QE (hr.J h4) U<|QH U U<|Qm U (ha.J hi) U U<|Zu U U<|xe<|QY rfl (λgk=>O3 g6 gk) (λgk=>?_);refine Qe<|Qd<|Qc<|Qm U h5 U U<|QE (hk.J h4) U<|Qa<|xe<|Q2 (α:=Nat) [(9,10),(64,78)] (λk=>[(64,sS k)]) (λk w'=>k<=kp.length/\xj [z.bd] w8 w'/\QP ↑w' z.bd 3 ((dsA n kp ds k).map (Value.int .i64))) (λk=>kp.length - k) 0 Lb ⟨Lp _,xj.Y _ _,ku⟩ ?_;rintro k g w9 ⟨pd,hL,gl⟩;have gm:xj [z.bd,z.br] w8 w9:=hL.S oe;obtain⟨mh,mj,hM,gn,mo⟩:=gj gm;refine Zi rfl U (λhN=>?_) (λhN=>?_)
 .refine Qt ?_;have mq:k=kp.length:=by have hO:¬(k:Int)<(kp.length:Int):=hN;omega
  subst mq;refine Qd<|Qc<|Qm U gn U U<|QE hM U<|Qa<|xe<|Q2 (α:=Nat) [(4,4),(12,12),(82,98)] (λj=>[(82,sS j)]) (λj w'=>j<=rm.length/\xj [z.bd,z.br] w8 w'/\QP ↑w' z.bd 3 ((dsA n kp ds kp.length).map (Value.int .i64))/\QP ↑w' z.br 261 ((rmQ n (rm.take j)).flatMap KM)) (λj=>rm.length - j) 0 Lb ⟨Lp _,gm,gl,kv.O hL (ns ndr)⟩ ?_;rintro j g hP ⟨hj,hp,go,gp⟩;obtain⟨_,_,hM,pf,hQ⟩:=gj hp;have h7:=ma hp go gp (Qcn _ _ _ _) (QbF _ _);refine Zi U U (λhS=>?_) (λhS=>?_)
  .refine Qt ?_;have ms:rm.length<=j:=by have hO:¬(j:Int)<(rm.length:Int):=hS;omega
   rw[Lt ms]at h7;refine Qd<|QX (α:=Unit) [(99,106)] (λ_=>[(106,.bool false)]) (λ_ w'=>sW hP w') om ?_ ?_
   .refine Qq<|QV hQ U U<|Qx<|(Qfb h7 hK).S ?_;rintro pg gq ⟨rfl,hl⟩;refine xB (Zr U) (λgr=>O3 gr oh) (λgr=>?_);refine Qa<|QV (hQ.J hl) U U<|Qx<|(QbV (h7.J hl) hR).S ?_;rintro ph gs ⟨rfl,hT⟩;refine x (Zr U)<|QB U<|xe ?_;exact⟨(),Lb,hl.I hT⟩
   rintro _ pj gq hl;refine Zl U<|Qe<|Qc<|Qb<|Qi ⟨[_],Lb,U,(mg hp).I hl⟩
  have Y:j<rm.length:=by have hO:(j:Int)<(rm.length:Int):=hS;omega
  have gt:=Lm Y;have mt:=g5 _ gt;have gu:=hV _ gt;have hy:rmQ n (rm.take (j+1))=(rmQ n (rm.take j)).set (rm[j]'Y).1.toNat (rm[j]'Y):=by
   unfold rmQ;rw[Lo Y,Mk];rfl
  refine Qe<|Qd<|Qn<|Qc<|xp (g:=KM) (i:=j) JX hM U U Y λpm gv=>?_;refine Zd (rm[j]'Y) λq hq=>?_;rw[hq]at gv mt gu hy;have gw:q.1=(q.1.toNat:Int):=oa
  have h8:q.1.toNat<n:=oa
  refine x (Qu (us:=KM q) gv U U)<|QL z4 λb12 gq hl mu mv=>QJ (KM q) mv oD λgs hT hU=>xe ?_;have hz:sW hP gs:=hl.Q hT mu;have gx:=h7.J hz;have gy:=hQ.J hz;refine Qd<|Qc<|Qm U gy U U<|Qm U hU U U<|x (QO (i:=q.1.toNat) U (O2 sS gw) h8)<|x (Yu q.1 gx.k U (by rw[gx.lk];exact h8))<|xe<|Q6 U (λgz=>O3 gz (by rw[gu];decide)) (λgz=>?_);refine Qe<|Qq<|Qm U gy U U<|Qm U hU U U<|QV hU U U<|x (QO (i:=q.1.toNat) U (O2 sS gw) h8) <|
   Qo<|Yy (us:=KM q) (cs':=(rmQ n (rm.take (j+1))).flatMap KM) (gp.J hz) U U U (by rw[xN JX,QbF];show 0+q.1.toNat*4+4<=n*4;omega) oD (by rw[hy,Go.Lg.J3 JX _ _ _ (by rw[QbF];exact h8),LS];rfl) λpn g0 mw=>xe ?_
  refine Qq<|QH U U<|Qa<|xe ?_;exact⟨j+1,oa,Lb,Y,(hp.I hz).V (g0.S oe),(go.J hz).O g0 (ns ndr.symm),mw⟩
 have Y:k<kp.length:=by have hO:(k:Int)<(kp.length:Int):=hN;omega
 have po:=J.ln;have h9:k<ds.length:=oa
 have my:=hC _ (Lm Y);have hy:dsA n kp ds (k+1)=(dsA n kp ds k).set (kp[k]'Y).toNat (ds[k]'h9):=by
  unfold dsA;rw[Nl,Mk,Zx Y,Zx h9];rfl
 refine Qe<|Qd<|Qn<|Qj<|xii (i:=k) mh U U Y λpp g2=>?_;refine Zd (kp[k]'Y) λs S=>?_;rw[S]at g2 my hy;have mz:s=(s.toNat:Int):=oa
 have m2:s.toNat<n:=oa
 refine x (Qy g2 U)<|x Qh<|Qb ?_;have g3:sW w9 { w9 with drawn:=w9.drawn+1 }:=xj.X _ _
 refine ZH [] (Xf 0 10 [9])<|p (QF U)<|pq (λ_ E=>Qk (mo.J E) U U)<|p QA<|p (QF U)<|pq (λ_ E=>Qk (gn.J E) U U)<|p QA <|
  Lg.pii (i:=k) U mj U U h9 λpu m3=>pq (λ_ E=>Qy (m3.J E) U)<|p (λ_=>QO (i:=s.toNat) U (O2 sS mz) m2) <|
  pkk<|Qw (j:=0+s.toNat*1) (u:=sS (ds[k]'h9)) (gl.J g3) U U (by rw[Lj,Qcn];omega) U λhP hp m4=>pe ?_
 refine Qq<|QH U U<|Qa<|xe<|⟨k+1,oa,Lb,Y,(hL.I g3).V hp,?_⟩;rw[hy,NT];simpa using m4
abbrev QsD:LV:=[nS,sS 0,nS,nS,nS,nS]
instance:Bw sV 167 QsD [(0,4),(4,1),(5,1)]:={}
theorem QeW {k:Nat}{s:Ke}(h:Vq L w s)(hk:YD k s.sys)(gn:Kb w 4096):
  QZ sV 17 [pS s.b] w λr w'=>r=sS 0/\sW w w':=by
 obtain⟨T,hB⟩:=h.blk;have hp:Pts [] ↑w s.s.vp s.s.ps:=h.st.p.up oe;have ma:=hk.len.2.2;have go:∀q∈s.s.ps,POk q.pt:=λq hq=>hk.st.ok _ (LK hq);refine Zt func17 ?_;refine Qc<|Qb<|Qd<|Qj<|x (Y8 underlying47 U U)<|xe<|Zl rfl<|Qe<|Qd<|Qj<|Z7 U<|Qm U hB U U<|QE hp.arr U<|Qa<|xe<|Q2 (α:=Nat) [(2,2),(4,9),(11,11),(19,75)] (λz=>[(19,sS z)]) (λz w'=>z<=s.s.ps.length/\sW w w') (λz=>s.s.ps.length - z) 0 Lb ⟨Lp _,xj.Y _ _⟩ ?_;rintro k g w1 ⟨hk1,hz⟩;refine Zi rfl U (λhM=>?_) (λhM=>?_)
 .refine Qt<|Qc<|Qb<|Qi ⟨[_],Lb,U,hz⟩
 have hj:k<s.s.ps.length:=by have hl:(k:Int)<(s.s.ps.length:Int):=hM;omega
 have h0:=Lm hj;have hN:Pts [] ↑w1 s.s.vp s.s.ps:=Go.Lg.K3.J hp hz;refine Qe<|Qd<|Qn<|Qc<|xp (g:=ZJ) (i:=k) yQ hN.arr U U hj λmf hO=>?_;refine Zd (s.s.ps[k]'hj) λq hq=>?_;rw[hq]at hO h0;have ha:qv [] ↑w1 q:=hN.each q h0;have hP:=go q h0;have hE:Yo q.c.Z=0:=hP.e;have hQ:VrH (spc q.c.Z).a (fbs (spc q.c.Z)) (unc q.c.ev) q.e.kp q.e.ds q.e.rm:=hP.ver;have gp:=(Qbv hE).2.2.2.1;have gq:=ha.c.ev.arr.le;refine x (Qu hO U U)<|QL z15 λb4 w2 gr gs gt=>QJ (ZJ q) gt ha.ones λw3 gu h2=>xe ?_;have Z:sW w1 w3:=gr.Q gu gs;have hR:=hz.I Z;have hS:=UG (ha.c.J Z) (gn.J hR);rw[hE]at hS;refine Zd (spc q.c.Z) λS gv=>?_;rw[gv]at hS hQ gp;refine Qc<|QN U<|x (Q7 (us:=[q.c.ve,q.c.vc,q.c.vr,q.c.vx,q.c.vk]) h2 U U U)<|Qx<|hS.S ?_;rintro r4 w4 ⟨gw,v,rfl,⟨us,rfl,mg,gx⟩,hF⟩;refine Exists.elim (hF U) λva hF=>Exists.elim hF λvm hF=>Exists.elim hF λve hF=>Exists.elim hF λv1 hF=>Exists.elim hF λv2 hF=>Exists.elim hF λv3 hF=>Exists.elim hF λv4 hF=>Exists.elim hF λcos hF=>Exists.elim hF λrqs hF=>?_;have gy:us=[va,sS S.a.st,vm,ve,v1,v2,v3,v4]:=by
  have h1:=O2 (λv=>match v with|Value.agg a=>a.toList|_=>[]) hF.1
  simpa using h1
 subst gy;have hT:=hF.2.2.2 [] oe;refine Qa<|QS U U<|QS U U<|QL [nS,sS 0,nS,nS,nS,nS,nS,nS] λb5 w5 gz g0 g2=>QJ [va,sS S.a.st,vm,ve,v1,v2,v3,v4] g2 gx λw6 g3 hU=>Qb ?_;have h3:sW w4 w6:=gz.Q g3 g0;have hc:=gw.I h3;have g4:=hR.I hc;have hn:=hT.1.J h3;have hV:=hT.2.2.2.2.J h3;refine Qd<|Qj<|Zu U U<|xe<|QY rfl (λhW=>O3 U hW) (λhW=>?_);refine Qe<|Qc<|QN U<|x (Q7 (us:=[va,sS S.a.st,vm,ve]) hU U U U)<|x (Q8 [(0,[va,sS S.a.st,vm,ve])] ⟨U,U,La⟩)<|QL QsD λE w7 g5 h4 g6=>QJ (XM va vm ve Zn Zn S.a) g6 ⟨hn.al.one,U,hn.mr.one,hn.ed.one,U,U,La⟩ λw8 g7 hX=>xe ?_;have h5:sW w6 w8:=g5.Q g7 h4;have g8:=hX.lt;have hY:=(ha.c.ev.J (Z.I hc));refine Qd<|Qc<|QN U<|Qm U ((h2.J hc).J h5) U U<|QE (hY.arr.J h5) U<|Qa<|xe<|Q2 (α:=Nat×O9) [(8,9),(39,53)] (λz=>[(39,sS z.1)]) (λz w'=>z.1<=q.c.ev.length/\xj [E] w8 w'/\QP ↑w' E 167 (XM va vm ve z.2 Zn S.a)/\Qp 3 ↑w8 w' z.2 (ixs (λe=>!e.co) 0 (q.c.ev.take z.1))) (λz=>q.c.ev.length - z.1) (0,Zn) Lb ⟨Lp _,xj.Y _ _,hX,QI _ _ _ _⟩ ?_;rintro⟨i,vu⟩ g w9 ⟨g9,ho,h6,O⟩;simp only[]at g9 h6 O;have hs:sW w6 w9:=h5.Q ho h4;have mh:=ho.size;have hZ:=Qg O;have ka:=hU.J hs;have kb:=hY.J hs;refine Zi rfl U (λh7=>?_) (λh7=>?_)
 .refine Qt ?_;have kc:q.c.ev.length<=i:=by have hl:¬(i:Int)<(q.c.ev.length:Int):=h7;omega
  rw[Lt kc]at O;have O:Qp 3 ↑w8 w9 vu (unc q.c.ev):=O;have ke:(unc q.c.ev).length<=1099511627776:=LJ (U3 _ q.c.ev 0) gq;refine Qd<|Qc<|Qm U ka U U<|QE (hV.J hs) U<|Qa<|xe<|Q2 (α:=Nat×O9) [(11,11),(57,68)] (λz=>[(57,sS z.1)]) (λz w'=>z.1<=S.fb.length/\xj [E] w9 w'/\QP ↑w' E 167 (XM va vm ve vu z.2 S.a)/\Qp 3 ↑w9 w' z.2 ((S.fb.take z.1).map (·.st))) (λz=>S.fb.length - z.1) (0,Zn) Lb ⟨Lp _,xj.Y _ _,h6,QI _ _ _ _⟩ ?_;rintro⟨j,vf⟩ g hg ⟨kf,ht,h8,V⟩;simp only[]at kf h8 V;have hh:sW w6 hg:=hs.Q ht h4;have kg:=g4.I hh;have mj:=ht.size;have ga:=Qg V;refine Zi U U (λh9=>?_) (λh9=>?_)
  .refine Qt ?_;have kh:S.fb.length<=j:=by have hl:¬(j:Int)<(S.fb.length:Int):=h9;omega
   rw[Lt kh]at V;have V:Qp 3 ↑w9 hg vf (fbs S):=V;have ki:(fbs S).length<=1099511627776:=by unfold fbs;rw[Lj];omega
   have kj:QG [] ↑hg vu (unc q.c.ev):=((Qp.ints (L:=[E]) O ke (λb I=>by rw[Lc.1 I];exact g8)).st ht).up oe;have kk:QG [] ↑hg vf (fbs S):=Qp.ints V ki oe;have hA:=ha.e.J ((Z.I hc).I hh);refine Qc<|QV h8 U U<|QN U<|QN U<|x (Q7 (us:=[q.e.vk,q.e.vd,q.e.vm]) ((h2.J hc).J hh) U U U)<|Qx<|(Qdr (hn.J hh) kj kk hA.k hA.d hA.r hQ).S ?_;rintro mo mq ⟨rfl,kn⟩;refine Zu U U<|xe<|QY U (λgb=>O3 U gb) (λgb=>?_);refine Qe<|Qq<|QH U U<|Qa<|xe ?_;exact⟨k+1,oa,Lb,hj,kg.I kn⟩
  have H:j<S.fb.length:=by have hl:(j:Int)<(S.fb.length:Int):=h9;omega
  have J:S.fb.take (j+1)=S.fb.take j++[S.fb[j]'H]:=Lo H;have ms:((S.fb.take j).map (·.st)).length=j:=by rw[Lj,LB];omega
  refine Qe<|Qd<|Qn<|Qc<|xp (g:=ZV) (i:=j) st4 (hV.J hh) U U H λmt gc=>?_;refine Zd (S.fb[j]'H) λr hr=>?_;rw[hr]at gc J;refine x (Qu gc U U)<|QL [sS 0,sS 0,sS 0,sS 0] λmu mv ko kq kr=>QJ (ZV r) kr oD λkt Z ku=>xe ?_;have hv:sW hg kt:=ko.Q Z kq;have gg:=h8.J hv;have kv:=Ql V hv;have mw:=hv.size;refine Qq<|Qm U gg U U<|Qm U ku U U<|Qo<|Zb [[sS r.st]] λmy mz hw m2 kw =>
   Qo<|Q9 (m:=1) (news:=[sS r.st]) (L:=[]) (Ql kv hw) U U U (kw.at oe) oq oa (ov hw.size) λhC m3 hD gh m4=>?_
  have hG:E∉ob vf:=λY=>ov (ga E Y).1
  refine QN U<|Qo<|Qw (u:=hC) ((gg.J hw).O gh hG) U U (Mb U) (Qr hD) λm5 gi kx=>xe ?_;refine Qq<|QH U U<|Qa<|xe ?_;have hH:∀b∈ob hC,b∉[E]:=λb I Y=>by
   have:=(Qg hD b I).1;rw[Lc.1 Y]at this;omega
  refine⟨(j+1,hC),by show S.fb.length - (j+1)<S.fb.length - j;omega,Lb,H,(((ht.I hv).I hw).G gh λb I=>.inr (ga b I).1).V gi,kx,?_⟩;simp only[];rw[J,Ls];exact Qp.snoc (Qf hD gi hH)
 have H:i<q.c.ev.length:=by have hl:(i:Int)<(q.c.ev.length:Int):=h7;omega
 have J:=QdD (λe:Kf=>!e.co) H;have m6:=U3 (λe:Kf=>!e.co) (q.c.ev.take i) 0;have m7:(q.c.ev.take i).length=i:=by rw[LB];omega
 refine Qe<|Qd<|Qn<|Qj<|xp (g:=Zs) (i:=i) V2 kb.arr U U H λm8 gj=>?_;refine Zd (q.c.ev[i]'H) λe he=>?_;rw[he]at gj J;refine x (Qu gj U U)<|QL [.string .empty,.bool false,.bool false,.bool false,sS 0] λb9 m9 kz k0 k4=>x Qh <|
  QJ (Zs e) k4 ⟨U,U,U,U,U,La⟩ λk5 k6 k7=>xe ?_
 have hi:sW w9 k5:=kz.Q k6 k0;have pa:=hi.size;have hI:=h6.J hi;have gk:=Ql O hi;refine Qc<|Qm U k7 U U<|x (Zr U)<|xe<|Q6 rfl (λhJ=>?_) (λhJ=>?_)
 .rw[O1 hJ]at J;refine Qq<|Qm U hI U U<|Qa<|Qo<|Zb [[sS i]] λpc pd hy pf k8 =>
   Qo<|Q9 (m:=1) (news:=[sS i]) (L:=[]) (Ql gk hy) U U U (k8.at oe) oq oa (ov hy.size) λhK pg hL gl ph=>?_
  have hG:E∉ob vu:=λY=>ov (hZ E Y).1
  refine QN U<|Qo<|Qw (u:=hK) ((hI.J hy).O gl hG) U U (Mb U) (Qr hL) λpj gm k9=>xe ?_;refine Qq<|QH U U<|Qa<|xe ?_;have hH:∀b∈ob hK,b∉[E]:=λb I Y=>by
   have:=(Qg hL b I).1;rw[Lc.1 Y]at this;omega
  refine⟨(i+1,hK),by show q.c.ev.length - (i+1)<q.c.ev.length - i;omega,Lb,H,(((ho.I hi).I hy).G gl λb I=>.inr (hZ b I).1).V gm,k9,?_⟩;simp only[];rw[J];exact Qp.snoc (Qf hL gm hH)
 rw[O0 (by rw[hJ];decide),LT]at J;refine Qe<|Qq<|QH U U<|Qa<|xe ?_;exact⟨(i+1,vu),by show q.c.ev.length - (i+1)<q.c.ev.length - i;omega,Lb,H,ho.I hi,hI,by simp only[];rw[J];exact gk⟩
theorem QgM (k:Ky):(Vb k).length=2:=rfl
theorem zo {v:O9}{l:List Ky}(h:Kys L ↑w v l)(O:Kys L' ↑w v' l):
  QZ sV 58 [v,v'] w λr w'=>r=.bool true/\sW w w':=by
 have hb:=h.le;refine Zt func58 ?_;refine Qc<|Qb<|Qd<|Qj<|QE h U<|Qa<|QE O U<|Zu U U<|xe<|QY rfl (λS=>O3 U S) (λS=>?_);refine Qe<|Qd<|Qc<|Qb<|Q2 (α:=Nat) [(4,5),(11,25)] (λk=>[(5,sS k)]) (λk w'=>sW w w'/\k<=l.length) (λk=>l.length - k) 0 Lb ⟨xj.Y _ _,Lp _⟩ ?_;rintro k g I ⟨H,hk⟩;have T:Kys L ↑I v l:=h.J H;have Y:Kys L' ↑I v' l:=O.J H;refine Qd<|Qj<|Qa<|QE T U<|Ye U U<|xe<|ZI rfl (λV=>?_) (λV=>?_)
 .refine Qt<|Qc<|Qb<|Qi ⟨[.bool true],Lb,U,H⟩
 have E:k<l.length:=by have he:(k:Int)<(l.length:Int):=V;omega
 refine Qe<|Qd<|Qn<|Qd<|ZH [] (Xf 0 9 [])<|p QA<|p QA<|Lg.pig (g:=Vb) (i:=k) U QgM T U U E λhg Z=>pq (λ_ J=>Qu (Z.J J) U U) <|
  p QA<|p QA<|Lg.pig (g:=Vb) (i:=k) U QgM Y U U E λhh ha=>pq (λ_ J=>Qu (ha.J J) U U)<|p (λ_=>JW (xs:=Vb (l[k]'E)) (ys:=Vb (l[k]'E)) U U U)<|pe ?_
 refine Zl (show Go.Lg.ev _ _=_ from O2 (λb=>Value.bool (!b)) ((QkD (l[k]'E) (l[k]'E)).I (O4 U))) ?_;refine Qe<|Qq<|Qa<|QH U U<|Qb<|⟨k+1,oa,Lb,H.I (xj.X [] I),oa⟩
theorem Qau {v:O9}(h:QG L ↑w v l)(J:QG L' ↑w v' l):
  QZ sV 117 [v,v'] w λr w'=>r=.bool true/\sW w w':=by
 have he:=h.le;refine Zt func117 ?_;refine Qc<|Qb<|Qd<|Qj<|QE h U<|Qa<|QE J U<|Zu U U<|xe<|QY rfl (λO=>O3 U O) (λO=>?_);refine Qe<|Qd<|Qc<|Qb<|Q2 (α:=Nat) [(4,5),(11,25)] (λk=>[(5,sS k)]) (λk w'=>sW w w'/\k<=l.length) (λk=>l.length - k) 0 Lb ⟨xj.Y _ _,Lp _⟩ ?_;rintro k g H ⟨E,hk⟩;have S:QG L ↑H v l:=h.J E;have Z:QG L' ↑H v' l:=J.J E;refine Qd<|Qj<|Qa<|QE S U<|Ye U U<|xe<|ZI rfl (λT=>?_) (λT=>?_)
 .refine Qt<|Qc<|Qb<|Qi ⟨[.bool true],Lb,U,E⟩
 have V:k<l.length:=by have hg:(k:Int)<(l.length:Int):=T;omega
 refine Qe<|Qd<|Qn<|Qd<|ZH [] (Xf 0 9 [])<|p QA<|p QA<|pii U S U U V λhh ha=>pq (λ_ I=>Qy (ha.J I) U) <|
  p QA<|p QA<|pii U Z U U V λhi hb=>pq (λ_ I=>Qy (hb.J I) U)<|p (λ_=>YS U U)<|pe ?_
 refine QY rfl (λY=>O3 U Y) (λY=>?_);refine Qe<|Qq<|Qa<|QH U U<|Qb<|⟨k+1,oa,Lb,E.I (xj.X [] H),oa⟩
abbrev V7 (q:zB):LV:=[q.vk,q.vd,q.vm]
theorem Qc6 {a b:zB}(h:zV L ↑w a)(O:zV L' ↑w b)(e1:a.kp=b.kp)(e2:a.ds=b.ds)(e3:a.rm=b.rm):
  QZ sV 56 [sT (V7 a),sT (V7 b)] w λr w'=>r=.bool true/\sW w w':=by
 have hk:=h.k;have hd:=h.d;have S:=h.r;rw[e1]at hk;rw[e2]at hd;rw[e3]at S;have hs:=S.le;refine Zt func56 ?_;refine Qc<|Zg (V7 a) λb2 w1 hm ht hn=>Zg (V7 b) λb3 w2 hb hv T=>Qb ?_;have E:=hm.I hb;have V:=hn.J hb;refine Qd<|QX (α:=Unit) [(6,28)] (λz=>[(28,.bool false)]) (λz w'=>sW w2 w') om ?_ ?_
 .refine Qq<|Qm U V U U<|Qm U T U U<|Qx<|(Qau (hk.J E) (O.k.J E)).S ?_;rintro r3 w3 ⟨rfl,I⟩;refine xB (Zr U) (λhe=>O3 he oe) (λhe=>?_);refine Qa<|Qm U (V.J I) U U<|Qm U (T.J I) U U<|Qx<|(Qau ((hd.J E).J I) ((O.d.J E).J I)).S ?_;rintro r4 w4 ⟨rfl,ho⟩;have J:=I.I ho;refine xB (Zr U) (λhg=>O3 hg oe) (λhg=>?_);refine QB U<|Qa<|Qm U (V.J J) U U<|QE ((S.J E).J J) U<|QN U<|x (Qk (T.J J) U U) <|
   QE ((O.r.J E).J J) U<|Zu U U<|QB U<|xe ?_
  exact⟨(),⟨O2 Value.bool (O6 λh=>h U),La⟩,J⟩
 rintro⟨⟩ g5 w5 hh;refine Zl rfl<|Qe<|Qd<|Qc<|Qb<|Q2 (α:=Nat) [(4,5),(29,46)] (λk=>[(5,sS k)]) (λk w'=>sW w5 w'/\k<=b.rm.length) (λk=>b.rm.length - k) 0 Lb ⟨xj.Y _ _,Lp _⟩ ?_;rintro k g w6 ⟨Z,hw⟩;have hi:=hh.I Z;have ha:=(E.I hh).I Z;have h1:=S.J ha;have hj:=V.J hi;refine Qd<|Qj<|Qm U hj U U<|QE h1 U<|Ye U U<|xe<|ZI rfl (λhl=>?_) (λhl=>?_)
 .refine Qt<|Qc<|Qb<|Qi ⟨[.bool true],Lb,U,ha⟩
 have Y:k<b.rm.length:=by have hy:(k:Int)<(b.rm.length:Int):=hl;omega
 refine Qe<|Qd<|Qn<|Qd<|ZH [] (Xf 0 11 [])<|p (QF U)<|pq (λ_ H=>Qk (hj.J H) U U)<|p QA<|Lg.pig (g:=KM) (i:=k) U JX h1 U U Y λhz hp=>pq (λ_ H=>Qu (hp.J H) U U) <|
  p (QF rfl)<|pq (λ_ H=>Qk ((T.J hi).J H) U U)<|p QA<|Lg.pig (g:=KM) (i:=k) U JX (O.r.J ha) U U Y λh0 hq=>pq (λ_ H=>Qu (hq.J H) U U)<|p (λ_=>JW (xs:=KM b.rm[k]) (ys:=KM b.rm[k]) U U U)<|pe ?_
 refine Zl (show Go.Lg.ev _ _=_ from O2 (λb=>Value.bool (!b)) ((QqB (b.rm[k]'Y) (b.rm[k]'Y)).I (O4 U))) ?_;refine Qe<|Qq<|Qa<|QH U U<|Qb<|⟨k+1,oa,Lb,Z.I (xj.X [] w6),oa⟩
theorem QeV {a b:zB}(h:zV L ↑w a)(O:zV L' ↑w b)(e:{ a.en with vr:=0 }={ b.en with vr:=0 }):
  QZ sV 19 [sT (ZW a),sT (ZW b)] w λr w'=>r=.bool true/\sW w w':=by
 have ek:a.ky=b.ky:=O2 Ent.ky e;have es:a.p.a=b.p.a:=O2 Ent.sp e;have hA:=h.a;rw[es]at hA;refine Zt func19 ?_;refine Qc<|Zg (ZW a) λb2 w1 V hc Y=>Zg (ZW b) λb3 Z S he I=>Qb ?_;have E:=V.I S;have J:=Y.J S;refine QX (α:=Unit) [(4,23)] (λz=>[(4,.bool true)]) (λz w'=>sW Z w') om ?_ ?_
 .refine Qq<|QN U<|x (Q7 (us:=Vb a.ky) J U U U)<|QN U<|x (Q7 (us:=Vb b.ky) I U U U)<|xB (Qj4 (xs:=Vb a.ky) (ys:=Vb b.ky) U U U) (λT=>?_) (λT=>O3 T (by rw[QkD,O4 ek];simp));refine Qa<|QN U<|x (Q7 (us:=[a.p.va,sS a.p.a.st,a.p.vm,a.p.ve]) J U U U)<|QN U<|x (Q7 (us:=[b.p.va,sS b.p.a.st,b.p.vm,b.p.ve]) I U U U)<|Qo<|xf ?_;rw[es];refine(jO (hA.J E) (O.a.J E)).S ?_;rintro r3 w3 ⟨rfl,H⟩;refine QB U<|Qa<|QN U<|x (Q7 (us:=V7 a) (J.J H) U U U)<|QN U<|x (Q7 (us:=V7 b) (I.J H) U U U)<|Qbo<|(Qc6 ((h.J E).J H) ((O.J E).J H) (O2 Ent.kp e) (O2 Ent.ds e) (O2 Ent.rm e)).S ?_;rintro r4 w4 ⟨rfl,ha⟩;refine QB U<|Qb<|⟨(),Lb,H.I ha⟩
 rintro⟨⟩ g5 w5 hb;exact Qi ⟨[.bool true],Lb,U,E.I hb⟩
theorem JH (w:O8):QZ sV 57 [] w λr w'=>sW w w'/\Qf3 ↑w ↑w' r Qb6:=by
 refine Zt func57 ?_;refine Qc<|QL Z3 λH w1 h4 hU hr=>xe ?_;refine Qc<|Qx<|(Kz 3 oh w1).S ?_;rintro r2 w2 ⟨he,c1,rfl,h5,hg⟩;refine QL Z3 λb1 w3 h6 hs h7=>QJ c1.cells h7 (hg [] oe).ones λZ h8 ht=>xe ?_;have hh:sW w2 Z:=h6.Q h8 hs;have hV:=he.size;have hA:=hr.lt;have hB:=ht.lt;refine Qc<|Qo<|Zb [[sS 1],[sS 2]] λS w5 hv hW hC=>Qo<|Zb [[sS 0],[sS 1]] λT w6 hi hY hD =>
  x (Qv ⟨rfl,U,U,La⟩)<|x (Qv ⟨U,U,U,La⟩)<|Qo<|Zb [Qz (0,1,1),Qz (1,2,0)] λV w7 ha hZ hE=>?_
 have hF:=(hv.I hi).I ha;refine x (Qv ⟨U,U,U,U,La⟩)<|x (Q8 [(0,[.string Y6]),(1,[sL S 2 2,sS 2,sL T 2 2,sL V 2 2])] ⟨U,U,U,U,La⟩) <|
  Qo<|Zb [[.string Y6,sL S 2 2,sS 2,sL T 2 2,sL V 2 2]] λJ w8 Y ga hG=>?_
 have hw:=hF.I Y;refine QN rfl<|Qo<|Qw (j:=2) (u:=sL J 1 1) (ht.J hw) U U oe rfl λw9 hj hH=>xe ?_;refine Qc<|x (Qv ⟨U,U,La⟩)<|x (Qv ⟨U,U,La⟩)<|Qo<|Zb [QD (1,1),QD (2,1)] λhc gb hy gc hJ=>x (Qv ⟨U,U,La⟩) <|
  Qo<|Zb [[.string Y7,sL hc 2 2]] λO hK hz gg hM=>?_
 have hl:=hy.I hz;refine QN rfl<|Qo<|Qw (j:=3) (u:=sL O 1 1) (hH.J hl) U U oe rfl λh0 hn hN=>xe ?_;have gh:=hv.size;have gi:=hi.size;have gj:=ha.size;have gk:=Y.size;have gl:=hj.size;have gm:=hy.size;have ho:xj [b1] Z h0:=((hw.any.V hj).I hl.any).V hn;have hO:H∉[b1]:=ol
 have hP:=((hr.J he).J hh).O ho hO;have hQ:Zj [c1.ve,c1.vc,sL J 1 1,sL O 1 1,c1.vk]:=by
  have h9:=(hg [] oe).ones;exact⟨h9.1,h9.2.1,U,U,h9.2.2.2.2.1,La⟩
 refine Qc<|QV hN U U<|QJ [c1.ve,c1.vc,sL J 1 1,sL O 1 1,c1.vk] hP hQ λgn h1 hR=>xe ?_;have I:=CL.cel_ex (CL.cel_rq h5 (sL J 1 1) [⟨Y6,⟨sL S 2 2,sL T 2 2,sL V 2 2,U4.a⟩⟩]) (sL O 1 1) [⟨Y7,sL hc 2 2,[(1,1),(2,1)]⟩];refine Qi ⟨[.agg #[c1.ve,c1.vc,sL J 1 1,sL O 1 1,c1.vk]],⟨YO hR,La⟩,(((h4.I he).I hh).Q ho oa).Q h1 oa,_,U,I,λL hL=>?_⟩;have h3:∀b∈H::L,b<w1.heap.size:=λb E=>by
  rcases Lk.1 E with rfl|E
  .exact hA
  have:=hL b E;omega
 have hS:∀b∈b1::H::L,b<Z.heap.size:=λb E=>by
  rcases Lk.1 E with rfl|E
  .exact hB
  have:=h3 b E;omega
 have h2:=(hg (H::L) h3).up (L':=b1::H::L) (λb E=>by
  rcases Lk.1 E with rfl|E
  .exact .inr hs
  exact .inl E)
 have hp:=(h2.J hh).st (ho.S oe);have nB:∀b,↑Z<=b->b∉b1::H::L:=λb E hm=>ov (hS b hm)
 have hI:XX (b1::H::L) ↑w8 (sL J 1 1) [⟨Y6,⟨sL S 2 2,sL T 2 2,sL V 2 2,U4.a⟩⟩]:=by
  refine⟨hG.arr (nB _ oa) (n:=1) (cap:=1) (sz:=5) U oh (Lu _),λq I=>?_,λq I=>?_⟩
  .rw[Lc.1 I];exact⟨(((hC.J hi).J ha).J Y).arr (nB _ oa) (n:=2) (cap:=2) (sz:=1) U oh (Lu _),((hD.J ha).J Y).arr (nB _ oa) (n:=2) (cap:=2) (sz:=1) U oh (Lu _),(hE.J Y).arr (nB _ oa) (n:=2) (cap:=2) (sz:=3) U oh (Lu _)⟩
  rw[Lc.1 I];exact Xx oh
 have hX:jT (b1::H::L) ↑hK (sL O 1 1) [⟨Y7,sL hc 2 2,[(1,1),(2,1)]⟩]:=by
  refine⟨hM.arr (nB _ oa) (n:=1) (cap:=1) (sz:=2) U oh (Lu _),λq I=>?_,λq I=>?_⟩
  .rw[Lc.1 I];exact(hJ.J hz).arr (nB _ oa) (n:=2) (cap:=2) (sz:=2) U oh (Lu _)
  rw[Lc.1 I];exact Xx oh
 have hT:ZG (b1::H::L) ↑h0 (CL.mk c1.ve c1.vc (sL J 1 1) (sL O 1 1) c1.vk c1.ev c1.co [⟨Y6,⟨sL S 2 2,sL T 2 2,sL V 2 2,U4.a⟩⟩] [⟨Y7,sL hc 2 2,[(1,1),(2,1)]⟩] c1.cs):=
  ⟨hp.ev,hp.co,((hI.st (hj.S oe)).J hl).st (hn.S oe),hX.st (hn.S oe),hp.cs⟩
 exact(hT.st (h1.S oe)).up (λb E=>.inl (Ll _ (Ll _ E)))
def JD (k:Nat):ByteArray:=(Qb6.co.getD k Qt3).nm
def U2:List (Bool×Yd):=[(false,⟨3,Y7,Vv,[(JD 1,0),(JD 2,1)],[],0⟩)]
def QkL:List (Bool×Yd):=[(true,⟨1,JD 1,Vv,[],[],0⟩)]
def KQ:Sys:=jY Qb6
def QgO:Sys:=edS KQ U2
theorem Qob:qQ Qb6=0:=od
theorem Qq1:edE KQ U2=0:=od
theorem QqX:(X0 (q6 KQ.c U2).2 KQ.ps 1).kept=[(1,Y6)]:=od
theorem QqW:(X0 (q6 KQ.c U2).2 KQ.ps 1).made=[(2,Y7)]:=od
theorem QqY:(X0 (q6 KQ.c U2).2 KQ.ps 1).gone=[]:=od
theorem Qq0:edE QgO QkL=9:=od
theorem QkK:QgO.made=3:=od
theorem Qj2 {pS:String}{fs:Array Field}(ft o:Nat){x:xd}{v:O9}(hu:P.underlying t=some (.struct fs))(E:(fs[j]?).map (λd=>(d.type,d.offset))=some (ft,o))[h1:XZ P ft](hx:ev f x=sT us)(H:us[o]?=some v):
  sR P f w d (.field t x j) ty pS af gd v:=by
 unfold sR
 obtain⟨fd,I,J⟩:=MH.1 E;cases J
 simp[execOp,hx,Instr.field,run_underlying hu,I,asAgg,part,QaO (t:=fd.type),H]
theorem Qfk:Qb6.co.length=3:=od
theorem QbU {c:CL}(h:c.Z=Qb6){k:Nat}(hk:k<c.co.length):(c.co[k]'hk).nm=JD k:=by
 have e:c.co.map (·.it)=Qb6.co:=O2 Zy.co h;unfold JD;rw[<-e,LR,Nr,LE hk];rfl
theorem QkJ:JE (JD 1):=O5 (p:=(JD 1).size<=9223372036854775807) od
theorem QqZ:JE (JD 2):=O5 (p:=(JD 2).size<=9223372036854775807) od
abbrev Qsp:List (ByteArray×Int):=[(JD 1,0),(JD 2,1)]
abbrev QlA (b:Nat):Y4:=⟨false,⟨3,Y7,⟨Zn,Zn,Zn,Vv⟩,sL b 2 2,Qsp,Zn,[],0⟩⟩
abbrev Qlw:Y4:=⟨true,⟨1,JD 1,⟨Zn,Zn,Zn,Vv⟩,Zn,[],Zn,[],0⟩⟩
abbrev Qsg:LV:=[.bool false,sS 0,.string .empty,nS,sS 0,nS,nS,nS,nS,sS 0]
instance:Bw sV 72 Qsg [(0,1),(1,9)]:={}
theorem QpG {H:xI}:ZE L H Zn Zn Zn Vv:=⟨Zk.nil _ _ _,Zk.nil _ _ _,Zk.nil _ _ _⟩
theorem Qro {H:xI}{T1 T2:Nat}(I:QP H b1 T1 (Qsp.flatMap ZK))(J:QP H b2 T2 (ZS (QlA b1)))(n1:JE (JD 1))(O:JE (JD 2)):Qad [] H (sL b2 1 1) [QlA b1]:=by
 refine⟨J.arr oe (n:=1) (cap:=1) (sz:=10) rfl oh (Lu _),λq S=>?_⟩;rw[Lc.1 S];refine⟨Xx oh,QpG,⟨I.arr oe (n:=2) (cap:=2) (sz:=2) rfl oh (Lu _),λp E=>?_⟩,Ua.nil⟩;rcases Lk.1 E with rfl|E
 .exact n1
 rw[Lc.1 E];exact O
theorem Qrp {H:xI}{T2:Nat}(E:QP H b2 T2 (ZS Qlw))(n1:JE (JD 1)):Qad [] H (sL b2 1 1) [Qlw]:=by
 refine⟨E.arr oe (n:=1) (cap:=1) (sz:=10) rfl oh (Lu _),λq I=>?_⟩;rw[Lc.1 I];exact⟨n1,QpG,Ua.nil,Ua.nil⟩
theorem Qar {x:Yd}(E:x.ls.length<=2)(H:x.ts.length<=2):jH x:=⟨oa,oa⟩
theorem Qay {E:O8}{s:Ke}(H:sW w E)(h:∀b∈s.own,↑w<=b)(I:xj s.own E w'):sW w w':=H.G I λb J=>.inr (h b J)
theorem Qfh (ht:Kb w 4096):
  QZ sV 20 [] w λr w'=>r=.bool true/\sW w w':=by
 refine Zt func20 ?_;refine Qc<|Qb<|Qc<|Qx<|(JH w).S ?_;rintro _ w1 ⟨hj,c1,rfl,hv,gr⟩;have hN:=Qgg (gr [] oe) (Vj (by rw[hv];exact Qq2)) (ht.J hj) (by rw[hv];exact Qob);rw[hv]at hN;refine Qx<|hN.S ?_;rintro _ w2 ⟨gs,s,rfl,esys,gt,hD,hSy⟩;have hw:=hj.I gs;refine Qa<|QS U U<|QS U U<|x Qh<|Qb<|Qd<|QX (α:=Unit) [(14,19)] (λ_=>[(19,.bool false)]) (λ_ w'=>w'=w2) om ?_ ?_
 .refine Qq<|Qa<|xb (YS U U) (λhE=>O3 U hE) (λhE=>?_);refine Qa<|Qa<|x (Y8 underlying47 U U)<|QB U<|xe ?_;exact⟨(),Lb,U⟩
 rintro⟨⟩ g3 I rfl;refine Zl rfl<|Qe ?_;have hl:sW I { I with drawn:=I.drawn+1 }:=xj.X _ _
 have ho:=hSy.lt;refine QX (α:=Nat×RpV×Ke) [(20,40),(3,4)] (λz=>[(3,pS z.1),(4,sS 0)]) (λz w'=>xj s.own I w'/\z.2.2.b=s.b/\z.2.2.sys=QgO/\YD 2 z.2.2.sys/\z.2.1.rp=X0 (q6 KQ.c U2).2 KQ.ps 1/\(∀b∈z.2.2.own,b∈s.own\/↑I<=b)/\z.1∉z.2.2.own/\Vq z.2.2.own w' z.2.2/\Ub [] ↑w' z.2.1/\∃T,QP ↑w' z.1 T (ZP z.2.1)) om ?_ ?_
 .refine Xv _ mixed om (jD (α:=RpV×Ke) (xj s.own I) [oE 0] [oF 1,oE 2,oE 3,oE 4,oE 5,oE 6,oF 7,oE 8,oE 9,oE 10,oE 11,oE 12,oF 13,oE 14,oE 15,oF 16,oF 17,oE 18,oE 19,oE 20] 21 3 [oF 22,oE 23] s.own
   [(20,40)] [(20,20),(22,40)] (λz=>[(39,sT (ZP z.1)),(40,sS 0)])
   (λz _ own w'=>xj s.own I w'/\z.2.b=s.b/\z.2.sys=QgO/\YD 2 z.2.sys/\z.1.rp=X0 (q6 KQ.c U2).2 KQ.ps 1/\(∀b∈z.2.own,b∈s.own\/↑I<=b)/\∀O,↑I<=O->O∉own->O∉z.2.own/\Vq (O::z.2.own) w' z.2/\Ub [O] ↑w' z.1)
   (λv w'=>∃b T,v=pS b/\↑I<=b/\QP ↑w' b T Xb) od om U hl.any (λ_ _ h1 h2=>h1.I h2) ho ?_ ?_ ?_ ?_)
  .rintro v own wa wb ⟨b,T,rfl,E,hB⟩ H Y;exact⟨b,T,U,E,hB.O H (Y b ou)⟩
  .rintro z _ own wa wb ⟨h1,h2,h3,h4,h5,h6,V⟩ H;exact⟨h1.I H,h2,h3,h4,h5,h6,λO ha Y=>⟨(V O ha Y).1,(V O ha Y).2.1.J H,(V O ha Y).2.2.J H⟩⟩
  .rintro⟨q,Z⟩ g own wz v C' ⟨h1,h2,h3,h4,h5,h6,V⟩ mo _ ⟨b,T,rfl,E,hB⟩ gu;obtain⟨n1,n2,n3⟩:=V b E (gu b ou).1;refine pkk<|Ux (ZP q) hB n3.ones λw8 hh hy=>p ZL<|pe ?_;exact⟨(b,q,Z),oB,h1.G hh (λc J=>by rw[Lc.1 J];exact .inr E),h2,h3,h4,h5,h6,n1,(n2.O hh (λc J=>.inl (by rw[Lc.1 J];exact Lr)) (λc J hm=>n1 (Lc.1 hm ▸ J))).up (λc J=>.inl (Ll _ J)) (λc J=>J),(n3.st (hh.S λc J=>J)).up oe,T,hy⟩
  refine p QA<|pe ⟨λg wf hF=>Jh (us:=Xb) U λb mq hG hH hI=>⟨hG,hF.I hG,⟨b,_,U,LJ hF.size hH,hI⟩,λx hx=>?_⟩,?_⟩
  .have gv:x=b:=by
    have gw:x∈[b]:=hx;simpa using gw
   subst gv;exact⟨hH,hI.lt⟩
  refine f3k λx1 p1 c1=>?_;refine xg<|(JH x1).S ?_;rintro _ y1 ⟨q1,e1,rfl,hJ,gx⟩;have ms:e1.co.length=3:=by rw[<-Qfk,<-hJ];exact(Lj _).symm
  have gy:=gx s.own (λb E=>Mw (ho b E) (LJ hl.size p1.size));refine⟨λx=>xj s.own I x/\xj s.own y1 x,λx hx=>hx.1,λx x' hx H=>⟨hx.1.I H,hx.2.I H⟩,⟨c1.I q1,xj.Y _ _⟩,s.own,q1.any,λb E=>.inl E,?_⟩;obtain⟨a1,mt,gz,hK⟩:=Zk.at gy.co.arr (i:=1) oa;rw[Xo QK 5 Yj e1.co 1 oa]at hK;have g0:(e1.co[1]'oa).nm=JD 1:=QbU hJ oa;refine j3 (λ_=>Qj2 41 1 underlying45 U U U)<|j3 (λ_=>Xn (show Go.Lg.ev _ _=_ from gz) U oh oa)<|j3 (λ_=>Zp U) <|
   f3q (λ_ J=>Qy ((hK.st J.2).fld 0 (.string (JD 1)) (O2 (λn=>some (Value.string n)) g0)) U)<|j3 (λ_=>Qv oB) ?_
  refine f3k λx2 p2 c2=>?_;refine xg<|(JH x2).S ?_;rintro _ y2 ⟨q2,e2,rfl,hL,g2⟩;have mu:e2.co.length=3:=by rw[<-Qfk,<-hL];exact(Lj _).symm
  have g6:=g2 s.own (λb E=>Mw (ho b E) (LJ hl.size (LJ p1.size (LJ q1.size p2.size))));refine⟨λx=>(xj s.own I x/\xj s.own y1 x)/\xj s.own y2 x,λx hx=>hx.1,λx x' hx H=>⟨⟨hx.1.1.I H,hx.1.2.I H⟩,hx.2.I H⟩,⟨⟨c2.1.I q2,c2.2.I q2⟩,xj.Y _ _⟩,s.own,q2.any,λb E=>.inl E,?_⟩;obtain⟨a2,mv,g7,hO⟩:=Zk.at g6.co.arr (i:=2) oa;rw[Xo QK 5 Yj e2.co 2 oa]at hO;have g8:(e2.co[2]'oa).nm=JD 2:=QbU hL oa;refine j3 (λ_=>Qj2 41 1 underlying45 U U U)<|j3 (λ_=>Xn (show Go.Lg.ev _ _=_ from g7) U oh oa)<|j3 (λ_=>Zp U) <|
   f3q (λ_ J=>Qy ((hO.st J.2).fld 0 (.string (JD 2)) (O2 (λn=>some (Value.string n)) g8)) U)<|j3 (λ_=>Qv oB) ?_
  refine f3k λx3 p3 c3=>Zb [[.string (JD 1),sS 0],[.string (JD 2),sS 1]] λb13 x4 p4 mw g9=>?_;refine⟨λx=>(xj s.own I x/\xj s.own y1 x)/\xj s.own y2 x,λx hx=>hx,λx x' hx H=>⟨⟨hx.1.1.I H,hx.1.2.I H⟩,hx.2.I H⟩,⟨⟨c3.1.1.I p4,c3.1.2.I p4⟩,c3.2.I p4⟩,s.own,p4.any,λb E=>.inl E,?_⟩;refine j3 (λ_=>Q8 [(0,[sS 3]),(1,[.string Y7]),(3,[sL b13 2 2])] ⟨U,U,U,U,U,U,La⟩)<|j3 (λ_=>Q8 [(1,[sS 3,.string Y7,Zn,sS 0,Zn,Zn,sL b13 2 2,Zn,sS 0])] oB) ?_;refine f3k λx5 p5 c5=>Zb [ZS (QlA b13)] λmy x6 p6 mz ka=>?_;refine⟨λx=>(xj s.own I x/\xj s.own y1 x)/\xj s.own y2 x,λx hx=>hx,λx x' hx H=>⟨⟨hx.1.1.I H,hx.1.2.I H⟩,hx.2.I H⟩,⟨⟨c5.1.1.I p6,c5.1.2.I p6⟩,c5.2.I p6⟩,s.own,p6.any,λb E=>.inl E,?_⟩;refine f3k λx7 p7 c7=>?_;have hz:sW I x7:=(((((((hl.I p1).I q1).I p2).I q2).I p3).I p4).I p5 |>.I p6).I p7;have hP:=hz.size;have kb:Vq (qE ↑I ↑x7++s.own) x7 s:=(hSy.up (λb E=>by
   rcases Lh.1 E with E|E
   .exact .inr (ZF.1 E).1
   exact .inl (Lh.2 (.inl E))) (λb E=>Lh.2 (.inr E))).J hz
  have hR:=yC kb gt oh (λb E=>by
   rcases Lh.1 E with E|E
   .exact(ZF.1 E).2
   exact Mw (ho b E) hP) (Qro (g9.J ((p5.I p6).I p7)) (ka.J p7) QkJ QqZ) (by
   intro e he;rw[show[QlA b13].map Y4.e=U2 from rfl]at he;rw[Lc.1 he];exact Qar oh oh) (ht.J (hw.I hz))
  rw[show[QlA b13].map Y4.e=U2 from rfl,esys,show jY Qb6=KQ from rfl,Qq1]at hR;refine xg<|hR.S ?_;rintro m2 x8 ⟨qr,rfl,hN,_,hp⟩;have hp:=hp U;refine Exists.elim hp.2 λZ S=>?_;refine⟨λx=>(xj s.own I x/\xj s.own y1 x)/\xj s.own y2 x,λx hx=>hx,λx x' hx H=>⟨⟨hx.1.1.I H,hx.1.2.I H⟩,hx.2.I H⟩,⟨⟨c7.1.1.V S.2.2.2.1,c7.1.2.V S.2.2.2.1⟩,c7.2.V S.2.2.2.1⟩,Z.own++qE ↑x7 ↑x8,S.2.2.2.1,λb E=>?_,?_⟩
  .rcases Lh.1 E with E|E
   .exact(S.2.2.2.2.2 b E).imp id λh=>⟨h,S.2.2.2.2.1.lt b E⟩
   exact .inr (ZF.1 E)
  refine j3 QA<|j3 (λ_=>Zw U U)<|j3 (λ_=>Zw U U)<|f3e ?_;refine⟨(qr,Z),oB,c7.1.1.V S.2.2.2.1,S.1,S.2.1,S.2.2.1,hp.1,λb E=>?_,λO ha Y=>⟨λhm=>Y (Lh.2 (.inl hm)),?_,?_⟩⟩
  .exact(S.2.2.2.2.2 b E).imp id λh=>LJ hP h
  .refine S.2.2.2.2.1.up (λb E=>?_) (λb E=>Ll _ E);rcases Lk.1 E with rfl|E
   .by_cases V:b<↑x7
    .exact .inl (Lh.2 (.inr (Lh.2 (.inl (ZF.2 ⟨ha,V⟩)))))
    by_cases h8:b<↑x8
    .exact O3 (Lh.2 (.inr (ZF.2 ⟨OQ V,h8⟩))) Y
    exact .inr (OQ h8)
   exact .inl (Lh.2 (.inl E))
  by_cases V:O<↑x7
  .exact hN [O] (λb E=>by rw[Lc.1 E];exact V)
  by_cases h8:O<↑x8
  .exact O3 (Lh.2 (.inr (ZF.2 ⟨OQ V,h8⟩))) Y
  exact(hN [] (λb E=>by cases E)).up λb E=>by rw[Lc.1 E];exact .inr (OQ h8)
 rintro⟨b3,qr,Z⟩ g4 w4 ⟨kc,e1,e2,hQ,e3,ke,n1,hS,kf,T3,kg⟩;have hT:sW w w4:=Qay hw (λb E=>LJ hj.size (hD b E)) kc;have kh:qr.k1=[(1,Y6)]:=(O2 Rp.kept e3).I QqX;have ki:qr.k2=[(2,Y7)]:=(O2 Rp.made e3).I QqW;have kj:qr.k3=[]:=(O2 Rp.gone e3).I QqY;have kk:Z.made=3:=(O2 Sys.made e2).I QkK;have kn:Z.sys.un≠[]:=by rw[e2];exact List.append_ne_nil_of_right_ne_nil _ (List.cons_ne_nil _ _)
 refine Qj<|Qx<|(JH w4).S ?_;rintro _ w5 ⟨h0,c5,rfl,hW,ko⟩;have m3:c5.co.length=3:=by rw[<-Qfk,<-hW];exact(Lj _).symm
 refine x (Qj2 41 1 underlying45 U U U)<|xp (g:=QK) (i:=1) Yj (ko [] oe).co.arr rfl rfl oa λm4 kq=>?_;refine x (Zp U)<|x (Qy (kq.fld 0 (.string (JD 1)) (O2 (λn=>some (Value.string n)) (QbU hW oa))) U) <|
  x (Q8 [(0,[sS 1]),(1,[.string (JD 1)])] ⟨U,U,U,U,La⟩)<|x (Q8 [(0,[.bool true]),(1,[sS 1,.string (JD 1),Zn,sS 0,Zn,Zn,Zn,Zn,sS 0])] ⟨U,U,U,U,La⟩) <|
  Qo<|Zb [ZS Qlw] λm5 w6 h9 m6 kr=>?_
 have hX:=(hS.J h0).J h9;have hR5:=yC hX hQ oh hX.lt (Qrp kr QkJ) (by
  intro e he;rw[show[Qlw].map Y4.e=QkL from rfl]at he;rw[Lc.1 he];exact Qar oh oh) (ht.J ((hT.I h0).I h9))
 rw[show[Qlw].map Y4.e=QkL from rfl,e2,Qq0,e1]at hR5;refine Qx<|hR5.S ?_;rintro r9 w7 ⟨kt,rfl,ku,kv,_⟩;refine Qa<|QS U U<|QS U U<|QL Xb λb5 w8 hh kw kx=>QJ (ZP kt) kx (ku [] oe).ones λw9 kz m7=>Qb ?_;have k0:sW w4 w9:=((h0.I h9).I ((kv oh).1)).I (hh.Q kz kw);refine Qc<|x (Qv ⟨U,U,La⟩)<|x (Qv ⟨U,U,La⟩)<|QL [sS 0,.string .empty] λb7 m8 k4 k5 hY=>QL [sS 0,.string .empty] λb8 m9 hZ pa hy =>
  QJ (Vb (1,Y6)) (hY.J hZ) oB λpc ga k6=>?_
 have pd:=hY.lt;refine QJ (Vb (2,Y7)) (hy.O ga ol) oB λgb gc k7=>xe ?_;have k8:sW w9 gb:=((k4.I hZ).Q ga k5).Q gc oa;have hq:=k0.I k8;have hA:=kg.J hq;have hC:=kf.J hq;have gg:=hS.J hq;have gh:=hC.a1;have gi:=hC.a2;have gj:=hC.a3;rw[kh]at gh;rw[ki]at gi;rw[kj]at gj;refine QX (α:=Unit) [(0,0),(56,96)] (λ_=>[(0,.bool true)]) (λ_ w'=>xj Z.own gb w') om ?_ ?_
 .refine Qq<|Qa<|xb (QW U U) (λgk=>?_) (λgk=>O3 U gk);refine Qa<|Qm U hA U U<|QV (k6.O gc ol) U U<|Qo<|Zb [Vb (1,Y6)] λpf pg gl ph k9 =>
   Qx<|(zo (L:=[]) (L':=[]) (l:=[(1,Y6)]) (gh.J gl) (k9.arr oe (n:=1) (cap:=1) (sz:=2) rfl oh (Lu _))).S ?_
  rintro _ pj ⟨rfl,ma⟩;have hr:=gl.I ma;refine QB U<|Qa<|Qm U (hA.J hr) U U<|QV (k7.J hr) U U<|Qo<|Zb [Vb (2,Y7)] λpm pn gm po mf =>
   Qx<|(zo (L:=[]) (L':=[]) (l:=[(2,Y7)]) ((gi.J hr).J gm) (mf.arr oe (n:=1) (cap:=1) (sz:=2) rfl oh (Lu _))).S ?_
  rintro _ pp ⟨rfl,mg⟩;have hi:=(hr.I gm).I mg;refine QB U<|Qa<|Qm U (hA.J hi) U U<|QE (gj.J hi) U<|xb (QW U U) (λgn=>?_) (λgn=>O3 U gn);refine QB U<|Qa<|Qa<|xb (QW U U) (λgo=>?_) (λgo=>O3 U go);have hM:=QjO (gg.J hi);have hU:=Qc7 (gg.J hi) hQ;have hU:=hU.S λr w' h=>h.2 kn;rw[e1]at hM hU;refine QB U<|Qa<|Qa<|Qx<|hM.S ?_;rintro _ pu ⟨rfl,rfl⟩;refine xb (QW U U) (λgp=>?_) (λgp=>O3 kk gp);refine QB U<|Qa<|Qa<|Qx<|hU.S ?_;rintro _ pw ⟨rfl,hu⟩;refine Exists.elim hu λs2 hu=>?_;have hV:=Qc7 hu.2.2.2.2.1 hu.2.2.1;rw[hu.1]at hV;refine xb (QW U U) (λgq=>?_) (λgq=>O3 U gq);refine QB U<|Qa<|Qa<|Qx<|(hV.S λr w' h=>h.1 (by rw[hu.2.1,e2];rfl)).S ?_;rintro _ pz ⟨rfl,mh⟩;refine x (QW U U)<|QB U<|Qb<|⟨(),Lb,(hi.any.V hu.2.2.2.1).I mh⟩
 rintro _ g5 p0 mj;refine Qi ⟨[.bool true],Lb,U,Qay (hT.I hq) (λb E=>?_) mj⟩;rcases ke b E with h|h
 .exact LJ hj.size (hD b h)
 exact LJ hw.size h
theorem Qa1 (h0:ZE L ↑w va vm ve a):
  QZ sV 47 [.agg #[va,sS a.st,vm,ve]] w λr w'=>sW w w'/\∃ua ub uc ud,r=.tuple #[.agg #[ua,ub,uc,ud],sS (Jt a)]/\Zj [ua,ub,uc,ud] /\
   (Jt a=0->ub=sS (qi (Yg a)).st/\∀L:LN,(∀b∈L,b<↑w)->ZE L ↑w' ua uc ud (qi (Yg a))):=by
 have h:=h0.up (L':=[]) oe;refine Zt func47 ?_;refine Qc<|Zg [va,sS a.st,vm,ve] λb1 w1 hp hO hq=>QL XD λb2 w2 ha hP hc=>Qb ?_;have hr:=hp.I ha;have hQ:=hp.size;refine Qd<|Qc<|QV (hq.J ha) U U<|Qx<|(XS (h.J hr)).S ?_;rintro r3 w3 ⟨rfl,O⟩;refine Qb ?_;have he:=hr.I O;refine Qj<|Zu U U<|xe<|QY rfl (λhg=>?_) (λhg=>?_)
 .refine Qc<|x (Qv La)<|Qa<|QJ XD (hc.J O) oD λw4 h8 hh=>Qb<|Qi ⟨[sT XD,sS (Jt a)],⟨YO hh,U,La⟩,he.Q h8 oa,_,_,_,_,U,oD,λe=>O3 e hg⟩
 have hs:Jt a=0:=Lq.1 hg;have ht:=(Z0 a).1 hs;have hv:=Qbc ht;have hR:=hv.st1;refine Qe<|Qc<|QV ((hq.J ha).J O) U U<|Qx<|(JJ (h.J he) ht).S ?_;rintro r5 w5 ⟨hj,ra,rm,re,rfl,hA⟩;have J:=hA [] oe;have hS:=O.size;have hT:=hj.size;refine QL XD λH w6 h9 hw hy=>QJ [ra,sS (Yg a).st,rm,re] hy ⟨J.al.one,U,J.mr.one,J.ed.one,La⟩ λw7 hB hC=>xe ?_;refine Qc<|QN U<|Qo<|Qw (j:=2) (u:=Zn) hC U U oe rfl λV hD hl=>xe ?_;have hn:sW w5 V:=(h9.Q hB hw).Q hD oa;have hU:=hy.lt;have hV:=hl.lt;have hW:=hc.lt;refine Qd<|Qc<|Qm U hl U U<|Qa<|xe<|Q2 (α:=Nat×O9) [(6,6),(18,27)] (λz=>[(18,sS z.1)]) (λz w'=>(z.1:Int)<=(Yg a).st/\xj [H] V w'/\(∃T,QP ↑w' H T [ra,sS (Yg a).st,z.2,re])/\Qp 3 ↑V w' z.2 (Vs z.1)) (λz=>(Yg a).st.toNat - z.1) (0,Zn) Lb ⟨hv.st0,xj.Y _ _,⟨_,hl⟩,QI _ _ _ _⟩ ?_;rintro⟨i,v⟩ g w9 ⟨hi,Y,⟨T5,ho⟩,S⟩;have hY:=Y.size;refine Zi rfl U (λhz=>?_) (λhz=>?_)
 .refine Qt ?_;have hE:(Yg a).st.toNat=i:=by have hZ:¬(i:Int)<(Yg a).st:=hz;omega
  have h1:=Qr S;refine Qc<|QV ho U U<|QJ [ra,sS (Yg a).st,v,re] (((hc.J O).J (hj.I hn)).O Y ol) ⟨J.al.one,U,h1,J.ed.one,La⟩ λZ I hF=>Qb ?_;have hG:sW w Z:=(((he.I hj).I hn).Q Y oa).Q I oa;refine Qi ⟨[.agg #[ra,sS (Yg a).st,v,re],sS 0],⟨YO hF,U,La⟩,hG,ra,_,v,re,by rw[hs];rfl,⟨J.al.one,U,h1,J.ed.one,La⟩,λ_=>⟨U,λN hN=>?_⟩⟩;have hH:xj [H,b2] w5 Z:=((hn.any (L:=[H,b2])).V (Y.S oe)).V (I.S oe);have hX:∀b∈N,b<w.heap.size:=hN;have hI:ZE (H::b2::N) ↑w5 ra rm re (Yg a):=by
   refine(hA (b2::N) (λb E=>?_)).up λb E=>?_
   .rcases Lk.1 E with rfl|E
    .have:=O.size;omega
    have:=hX b E;omega
   rcases Lk.1 E with rfl|E
   .exact .inr hw
   exact .inl E
  have h2:=(hI.st (hH.S oe)).up (L':=N) λb E=>.inl (by simp[E]);have hJ:Qp 3 ↑V Z v (Vs i):=Qf S I (λb E hm=>by have:=(Qg S b E).1;rw[Lc.1 hm]at this;omega);refine⟨h2.al,?_,h2.ed⟩;show QG N ↑Z v (Vs (Yg a).st.toNat);rw[hE];exact Qp.ints hJ (by rw[Qbq];omega) (λb E=>ov (hX b E))
 refine Qe<|Qd<|Qn<|Qj<|Qb ?_;have n5:H∉ob v:=λhm=>ov (Qg S H hm).1
 refine Qq<|Qm U ho U U<|Qa<|Qo<|Zb [[sS i]] λga Z I gb hh=>?_;have gc:=I.size;refine Qo<|Q9 (news:=[sS i]) (L:=[]) (Ql S I) U U U (hh.at oe) oq (by rw[Qbq];omega) oa λh3 hK h4 h5 gg=>?_;refine QN rfl<|Qo<|Qw (j:=2) (u:=h3) ((ho.J I).O h5 n5) U U oe (Qr h4) λgh h6 hL=>xe ?_;refine Qq<|QH U U<|Qa<|xe ?_;have hM:xj [H] V hK:=(Y.I I).G h5 (λb E=>.inr (Qg S b E).1);refine⟨(i+1,h3),og,Lb,og,hM.V h6,⟨T5,hL⟩,?_⟩;simp only[];rw[QcO];have h7:=Qp.snoc h4;exact Qf h7 h6 (λb E hm=>by have:=(Qg h7 b E).1;rw[Lc.1 hm]at this;omega)
theorem jJ (E:Kb w 4096):QZ sV 5 [] w λr w'=>r=.bool true/\sW w w':=by
 refine Zt func5 ?_;refine Qc<|Qb<|QX (α:=Unit) [(0,4)] (λz=>[(0,.bool true)]) (λz w'=>sW w w') om ?_ ?_
 .refine Qq<|Qx<|(Qfh E).S ?_;rintro r1 O ⟨rfl,H⟩;refine Qa<|Qx<|(QfZ (E.J H)).S ?_;rintro r2 S ⟨rfl,I⟩;refine QB U<|Qb<|⟨(),Lb,H.I I⟩
 rintro z g T J;exact Qi ⟨[.bool true],Lb,U,J⟩
section
variable {pS:String}{l:xK}{t':Nat}{x:xd}{k:IntKind}{a b:Int}
end
theorem QsW {H:xI}{e:Y4}(h:QP H b T (ZS e))(E:Ji [] H e.q):Qad [] H (sL b 1 1) [e]:=
 ⟨h.arr oe (n:=1) (cap:=1) (sz:=10) rfl oh (OX _),λq I=>by rw[List.mem_singleton.1 I];exact E⟩
def js (y:Yd)(k:Nat):Yd :=
 if y.kd=3 then{ y with ls:=y.ls.set (k % y.ls.length) ((y.ls.getD (k % y.ls.length) (.empty,0)).1,((k % 3:Nat):Int)) }
 else if y.kd=4 then{ y with bd:=((k % 7:Nat):Int) - 3 }
 else if Jt y.a=0/\k % 2=0 then{ y with a:=qi (Yg y.a) }else{ y with a:={ y.a with mr:=[] } }
theorem QfK (h0:Ji L ↑w q){k:Nat}(hk:k<256)(gh:q.kd=3->0<q.ls.length)(ka:q.ls.length<=1000000)(hL:∀b∈L,b<↑w):
  QZ sV 46 [sT (Qs q),sS (k:Int)] w λr w'=>sW w w'/\∃q':DV,r=sT (Qs q')/\q'.it=js q.it k/\Ji L ↑w' q':=by
 have h:=h0;have H:=h.ones;refine Zt func46 ?_;refine Qc<|Zg (Qs q) λb2 w1 hI hl hy=>QL (Qs ⟨0,.empty,⟨Zn,Zn,Zn,⟨[],0,[],[]⟩⟩,Zn,[],Zn,[],0⟩) λb4 w2 hq kb hi=>xe ?_;have V:=hI.I hq;have Z:=hy.J hq;have kc:=hI.size;have hr:b2≠b4:=by have:=hy.lt;omega
 refine Qd<|Qc<|Qm U Z U U<|xe<|Qn<|Qc<|x (QW U U)<|Qb<|QY U (λhz=>?_) (λhz=>?_)
 .have hs:q.kd=3:=hz;have hn:=gh hs;have gi:(q.ls.flatMap ZK).length=q.ls.length*2:=h.ls.arr.1;rcases h.ls.arr.2.2 with⟨_,e2⟩|⟨a,c,h1,h2,h3⟩
  .omega
  refine Qc<|Qo<|QbP λhJ w3 Y gj hK=>Qm U (Z.J Y) U U<|Qo<|Q9 (base:=↑w) (hK.own (n:=0) (sz:=2) U oa (ov V.size)) U (show Go.Lg.ev _ _=_ from h1) h.ls.arr.1 (h3.J (V.I Y)) (by
   intro u hu;obtain⟨p,_,S⟩:=Mr.1 hu;rcases Lk.1 S with rfl|S
   .rfl
   rw[Lc.1 S];rfl) oa (oy hK.lt V.size) λv4 w4 T h6 hM=>Qb ?_
  have h9:sW w2 w4:=Y.Q h6 gj;have ht:=V.I h9;have I:k % q.ls.length<q.ls.length:=NF _ hn;have hN:q.ls.getD (k % q.ls.length) (.empty,0)=q.ls[k % q.ls.length]'I:=by simp[oQ,I]
  have T:w4.ownsRow ↑w 145 2 v4 q.ls.length (q.ls.flatMap ZK):=by
   have E:=T;rw[LS,Md]at E;exact E
  refine Exists.elim (X7 T hn) λg hg=>Exists.elim hg λcap ha=>?_;rw[ha]at T;refine Exists.elim (JC T).2 λcur hc=>?_;have ke:=(JC T).1;have hv:=hc.2.1;have gk:↑w<=g:=(Qg T g (by simp[ob])).1;refine Qj<|Qa<|Qa<|QE (QC (L:=[]) T oa oe) (show Go.Lg.ev _ _=_ from ha)<|x (JV (a:=(k:Int)) (b:=(q.ls.length:Int)) rfl rfl oa oa)<|Qa<|x (JV (a:=(k:Int)) (b:=3) rfl rfl oa oa) <|
   x (QO (i:=k % q.ls.length) (show Go.Lg.ev _ _=_ from ha) (show Go.Lg.ev _ _=_ from O2 sS (Int.natCast_emod ..).symm) I)<|QN U<|Qo<|Qw (j:=0+k % q.ls.length*2+1) (u:=sS ((k % 3:Nat):Int)) hc.1 U (show Go.Lg.ev _ _=_ from O2 sS (Int.natCast_emod k 3).symm) oa U λw5 hA hO=>xe ?_
  rw[LS]at hO;refine Zd (q.ls.set (k % q.ls.length) ((q.ls.getD (k % q.ls.length) (.empty,0)).1,((k % 3:Nat):Int))) λhe hw=>?_;have hP:(q.ls.flatMap ZK).set (k % q.ls.length*2+1) (sS ((k % 3:Nat):Int))=he.flatMap ZK:=by
   rw[<-hw];refine xP ZK 2 QeT q.ls _ 1 I _ _ oh ?_;rw[hN];rfl
  have gl:he.length=q.ls.length:=by rw[<-hw,L9]
  have gm:w5.ownsRow ↑w 145 2 (sL g q.ls.length cap) q.ls.length (he.flatMap ZK):=by
   refine VW T (Lu _) hO (by rw[L9];exact hv) ?_ (by rw[<-hP,L9];exact gi);rw[<-hP,<-hc.2.2,List.take_set]
  have gn:g∉L:=λI=>ov (hL g I)
  have n2g:b2≠g:=λe=>by
   have E:=hy.lt;rcases hM g (by rw[ha];simp[ob])with O|O
   .have h8:g=hJ:=by simpa[ob]using O
    have:=hq.size;omega
   have:=hq.size;have:=Y.size;omega
  have n4g:b4≠g:=λe=>by
   have E:=hi.lt;rcases hM g (by rw[ha];simp[ob])with O|O
   .have h8:g=hJ:=by simpa[ob]using O
    omega
   have:=Y.size;omega
  have go:=QC (L:=b2::b4::L) gm oa (λb J I=>by
   rw[Lc.1 (show b∈[g] from J)]at I;rcases Lk.1 I with E|I
   .exact n2g E.symm
   rcases Lk.1 I with E|I
   .exact n4g E.symm
   exact gn I)
  refine Qq<|Qa<|QN U<|Qo<|Qw (u:=sL g q.ls.length cap) ((Z.J h9).O hA (oA n2g)) rfl (show Go.Lg.ev _ _=_ from ha) (Mb rfl) rfl λw6 hB gp=>xe ?_;refine Qc<|QV gp U U<|QJ (Qs { q with vl:=sL g q.ls.length cap,ls:=he }) (((hi.J h9).O hA (oA n4g)).O hB (oA hr.symm)) ⟨rfl,rfl,H.2.2.1,rfl,H.2.2.2.2.1,H.2.2.2.2.2.1,rfl,H.2.2.2.2.2.2.2.1,rfl,La⟩ λw7 hQ gq=>xe ?_
  have gr:↑w<=b4:=oa
  have hR:=((ht.Q hA gk).Q hB hl).Q hQ gr;refine Qi ⟨[_],⟨YO gq,La⟩,hR,{ q with vl:=sL g q.ls.length cap,ls:=he },U,?_,?_⟩
  .show({ q.it with ls:=he }:Yd)=js q.it k
   unfold js;rw[O1 (show q.it.kd=3 from hs),<-hw];rfl
  have O:=h.J hR;refine⟨O.nm,O.a,⟨by rw[gl];exact(((go.st (hB.S oe)).st (hQ.S oe)).up (L':=L) (λb J=>.inl (Ll _ (Ll _ J)))),λp S=>?_⟩,O.ts⟩;rw[<-hw]at S;rcases M1 S with S|S
  .exact O.ls.nm p S
  have h8:=O.ls.nm _ (Lm I);rw[S,hN];exact h8
 have hC:¬q.kd=3:=hz;refine Qc<|x (QW U U)<|Qb<|QY U (λhD=>?_) (λhD=>?_)
 .have hs:q.kd=4:=hD;have gs:(k:Int) % 7 - 3=((k % 7:Nat):Int) - 3:=oa
  refine Qq<|Qa<|x (JV (a:=(k:Int)) (b:=7) U U oa oa)<|x (X1 U U ⟨oa,oa⟩)<|QN U<|Qo<|Qw (u:=sS (((k % 7:Nat):Int) - 3)) Z U (show Go.Lg.ev _ _=_ from O2 sS gs) (Mb U) U λw3 Y gt=>xe ?_;refine Qc<|QV gt U U<|QJ (Qs { q with bd:=((k % 7:Nat):Int) - 3 }) (hi.O Y (oA hr.symm)) ⟨rfl,rfl,H.2.2.1,rfl,H.2.2.2.2.1,H.2.2.2.2.2.1,H.2.2.2.2.2.2.1,H.2.2.2.2.2.2.2.1,rfl,La⟩ λw4 h6 gu=>xe ?_
  have ht:=(V.Q Y hl).Q h6 oa;refine Qi ⟨[_],⟨YO gu,La⟩,ht,{ q with bd:=((k % 7:Nat):Int) - 3 },U,?_,?_⟩
  .show({ q.it with bd:=((k % 7:Nat):Int) - 3 }:Yd)=js q.it k
   unfold js;rw[O0 (show ¬q.it.kd=3 from hC),O1 (show q.it.kd=4 from hs)]
  have h4:=h.J ht;exact⟨h4.nm,h4.a,h4.ls,h4.ts⟩
 have hS:¬q.kd=4:=hD;refine Qc<|QN U<|x (Q7 (us:=[q.p.va,sS q.p.a.st,q.p.vm,q.p.ve]) Z U U U)<|Qx<|(Qa1 (h.a.J V)).S ?_;rintro kf gv ⟨gw,ua,ub,uc,ud,rfl,hh,hv⟩;refine Qa<|QS U U<|QS U U<|QL XD λb6 kg gx gy gz=>QJ [ua,ub,uc,ud] gz hh λhT g0 hE=>Qb ?_;have hU:sW gv hT:=gx.Q g0 gy;have hF:=gw.I hU;have hV:=V.I hF;have hW:=Z.J hF;have hX:=hi.J hF;refine QX (α:=Unit) [(16,22)] (λ_=>[(22,.bool (decide (Jt q.p.a=0/\k % 2=0)))]) (λ_ w'=>w'=hT) om ?_ ?_
 .refine Qq<|Qa<|xb (QW U U) (λhG=>?_) (λhG=>?_)
  .have hd:decide ((k:Int) % 2=0)=decide (Jt q.p.a=0/\k % 2=0):=by
    refine decide_eq_decide.2 ⟨λE=>⟨hG,oa⟩,λE=>oa⟩
   refine Qa<|Qa<|x (JV (a:=(k:Int)) (b:=2) U U oa oa)<|x (QW U U)<|QB U<|xe ?_;exact⟨(),⟨O2 Value.bool hd,La⟩,U⟩
  refine Qa<|Zm<|QB U<|xe ?_;exact⟨(),⟨O2 Value.bool (O6 λE=>hG E.1).symm,La⟩,U⟩
 rintro _ g hY rfl;refine QY rfl (λhj=>?_) (λhj=>?_)
 .have hZ:=(hv hj.1).1;rw[hZ]at hh;have hE:QP ↑hY b6 66 [ua,sS (qi (Yg q.p.a)).st,uc,ud]:=by rw[<-hZ];exact hE
  refine Qq<|QV hE U U<|QN U<|Qo<|Yy (us:=[ua,sS (qi (Yg q.p.a)).st,uc,ud]) (cs':=Qs { q with p:=⟨ua,uc,ud,qi (Yg q.p.a)⟩ }) hW U U U (Mb U) hh U λkh hH g2=>xe ?_
  refine Qc<|QV g2 U U<|QJ (Qs { q with p:=⟨ua,uc,ud,qi (Yg q.p.a)⟩ }) (hX.O hH (oA hr.symm)) ⟨rfl,rfl,hh.1,rfl,hh.2.2.1,hh.2.2.2.1,H.2.2.2.2.2.2.1,H.2.2.2.2.2.2.2.1,rfl,La⟩ λg3 ga g4=>xe ?_
  have gb:=(hV.Q hH hl).Q ga oa;refine Qi ⟨[_],⟨YO g4,La⟩,gb,{ q with p:=⟨ua,uc,ud,qi (Yg q.p.a)⟩ },U,?_,?_⟩
  .show({ q.it with a:=qi (Yg q.p.a) }:Yd)=js q.it k
   unfold js;rw[O0 (show ¬q.it.kd=3 from hC),O0 (show ¬q.it.kd=4 from hS),O1 (show Jt q.it.a=0/\k % 2=0 from hj)];rfl
  have E:=h.J gb;have ki:=V.size;have g5:=(hv hj.1).2 ([b2,b4]++L) (by
   intro b J;rcases Lh.1 J with J|J
   .rcases Lk.1 J with rfl|J
    .exact Z.lt
    rw[Lc.1 J];exact hi.lt
   have:=hL b J;omega)
  have g6:xj ([b2,b4]++L) hY g3:=(hH.S oe).V (ga.S oe);exact⟨E.nm,((g5.J hU).st g6).up (λb J=>.inl (Lh.2 (.inr J))),E.ls,E.ts⟩
 refine Qq<|QN U<|QN U<|Qo<|Qw (u:=Zn) hW U U (Mb U) U λkj gc g7=>xe ?_;refine Qc<|QV g7 U U<|QJ (Qs { q with p:=⟨q.p.va,Zn,q.p.ve,{ q.p.a with mr:=[] }⟩ }) (hX.O gc (oA hr.symm)) ⟨rfl,rfl,H.2.2.1,rfl,rfl,H.2.2.2.2.2.1,H.2.2.2.2.2.2.1,H.2.2.2.2.2.2.2.1,rfl,La⟩ λkk g8 g9=>xe ?_
 have gg:=(hV.Q gc hl).Q g8 oa;refine Qi ⟨[_],⟨YO g9,La⟩,gg,{ q with p:=⟨q.p.va,Zn,q.p.ve,{ q.p.a with mr:=[] }⟩ },U,?_,?_⟩
 .show({ q.it with a:={ q.it.a with mr:=[] } }:Yd)=js q.it k
  unfold js;rw[O0 (show ¬q.it.kd=3 from hC),O0 (show ¬q.it.kd=4 from hS),O0 (show ¬(Jt q.it.a=0/\k % 2=0) from hj)]
 have E:=h.J gg;exact⟨E.nm,⟨E.a.al,Zk.nil _ _ _,E.a.ed⟩,E.ls,E.ts⟩
def JQ:ByteArray:=⟨#[102,117,114,116,104,101,114]⟩
def QaE:ByteArray:=⟨#[110,101,118,101,114]⟩
def QaF:ByteArray:=⟨#[102,101,119]⟩
def JP:ByteArray:=⟨#[110,111,116,104,105,110,103]⟩
def qO:ByteArray:=⟨#[109,111,114,101]⟩
def Uz (n:ByteArray)(y:Yd)(wh b:Nat):Bool×Yd :=
 if wh % 8=0 then(true,⟨y.kd,y.nm,Vv,[],[],0⟩)
 else if wh % 8=1 then(false,js y b)
 else if wh % 8=2/\y.kd=1 then(false,⟨2,JQ,qi (Yg y.a),[],[],0⟩)
 else if wh % 8=3 then(false,⟨3,QaE,Vv,[(n,((b % 3:Nat):Int))],[],0⟩)
 else if wh % 8=4 then(false,⟨4,QaF,Vv,[],[(n,1)],((b % 3:Nat):Int)⟩)
 else if wh % 8=5 then(true,⟨1,JP,Vv,[],[],0⟩)
 else if wh % 8=6/\y.kd=1 then(false,{ y with nm:=qO })
 else(false,y)
abbrev QiB:Yd:=⟨0,.empty,Vv,[],[],0⟩
def dMk (c:Zy)(wh a b:Nat):Bool×Yd :=
 if(ZT c).1=0/\(ZT c).2≠[]then Uz ((c.co.map (·.nm)).headD .empty) ((ZT c).2.getD (a % (ZT c).2.length) QiB) wh b else(true,QiB)
abbrev qp:AV:=⟨Zn,Zn,Zn,Vv⟩
theorem Qic {N:LN}{c:CL}(hN:∀b∈N,b<↑w)(h0:ZG L ↑w c)(hz:CSz c.Z)(h6:0<c.co.length)(gt:∀y∈(ZT c.Z).2,(y.kd=3->0<y.ls.length)/\y.ls.length<=1000000/\(y.kd=1->Jt y.a=0)){wh at_ bY:Nat}(kv:wh<256)(kw:at_<256)(gu:bY<256):
  QZ sV 13 [c.val,.agg #[.int .u8 (wh:Int),.int .u8 (at_:Int),.int .u8 (bY:Int)]] w λr w'=>sW w w'/\∃e:Y4,r=sT (ZS e)/\e.e=dMk c.Z wh at_ bY/\Ji N ↑w' e.q:=by
 have h:=h0.up (L':=[]) oe;refine Zt func13 ?_;refine Qc<|Zg c.cells λb2 w1 hB kx gv=>Zg [.int .u8 (wh:Int),.int .u8 (at_:Int),.int .u8 (bY:Int)] λb3 w2 h7 kz gw=>QL Qsg λO w3 hC k0 hD=>xe ?_;have hE:=(hB.I h7).I hC;have hY:=gv.J (h7.I hC);have hZ:=gw.J hC;refine Qc<|QV hY U U<|Qx<|(Qfl (h.J hE) hz).S ?_;rintro r4 w4 ⟨hg,v5,rfl,_,gx⟩;have ga:=hE.I hg;by_cases hj:(ZT c.Z).1=0
 rotate_left
 .have V:dMk c.Z wh at_ bY=(true,QiB):=by unfold dMk;rw[O0 λe=>hj e.1]
  refine Qa<|QS U U<|QS U U<|x Qh<|Qb<|Qd<|QX (α:=Unit) [(16,22)] (λ_=>[(22,.bool true)]) (λ_ w'=>w'=w4) om ?_ ?_
  .refine Qq<|Qa<|xb (YS U U) (λhr=>?_) (λhr=>O3 hr (λe=>e hj));refine Qa<|Zm<|QB U<|xe ?_;exact⟨(),Lb,U⟩
  rintro _ g5 w5 rfl;refine Q6 U (λ_=>?_) (λgy=>by cases gy);have gz:=(hB.I h7).size;refine Qc<|x (Q8 [(0,[.bool true])] ⟨U,U,La⟩)<|QJ (ZS ⟨true,⟨0,.empty,qp,Zn,[],Zn,[],0⟩⟩) (hD.J hg) ⟨U,U,U,U,U,U,U,U,U,U,La⟩ λw6 g0 g2=>xe ?_;exact Qi ⟨[_],⟨YO g2,La⟩,ga.Q g0 oa,⟨true,⟨0,.empty,qp,Zn,[],Zn,[],0⟩⟩,U,V.symm,⟨by show JE .empty;decide,⟨Zk.nil _ _ _,Zk.nil _ _ _,Zk.nil _ _ _⟩,Ua.nil,Ua.nil⟩⟩
 refine Exists.elim (gx hj) λE hn=>?_;have gb:E.length=(ZT c.Z).2.length:=by have Y:=O2 oR hn.2;rwa [Lj]at Y
 have gc:0<E.length/\E.length<=100000:=by
  obtain⟨a,b,_,_,e,hk⟩:=(Qcp hj);have Y:=VO hk;have h2:(ZT c.Z).2.length=_:=O2 oR e;rw[Ln,Lj]at h2;have h3:c.Z.co.length=c.co.length:=Lj _;omega
 have h8:K2 [] ↑w4 v5 E:=JK.dits hn.1 oa oe;refine Qa<|QS U U<|QS U U<|x Qh<|Qb<|Qd<|QX (α:=Unit) [(16,22)] (λ_=>[(22,.bool false)]) (λ_ w'=>w'=w4) om ?_ ?_
 .refine Qq<|Qa<|xb (YS U U) (λhr=>O3 hj hr) (λhr=>?_);refine Qa<|Qa<|QE h8.arr U<|xb (QW U U) (λgg=>O3 gg oa) (λgg=>?_);refine QB U<|xe ?_;exact⟨(),Lb,U⟩
 rintro _ g5 w5 rfl;refine Zl rfl<|Qe ?_;have g3:((at_:Int) % (E.length:Int))=((at_ % E.length:Nat):Int):=(Int.natCast_emod ..).symm;have ho:at_ % E.length<E.length:=NF _ gc.1;refine Qj<|Qm U (hZ.J hg) U U<|x (Z8 (k':=.i64) U ⟨oa,oa⟩)<|Qa<|QE h8.arr U<|x (JV (a:=(at_:Int)) (b:=(E.length:Int)) U U oa oa) <|
  xp (g:=Qs) (i:=at_ % E.length) ZZ h8.arr U (show Go.Lg.ev _ _=_ from O2 sS g3) ho λk4 gh=>?_
 have hs:=Lm ho;have gi:(ZT c.Z).2.getD (at_ % (ZT c.Z).2.length) QiB=(E[at_ % E.length]'ho).it:=by
  have Y:at_ % (ZT c.Z).2.length<(ZT c.Z).2.length:=by rw[<-gb];exact ho
  rw[show(ZT c.Z).2.getD (at_ % (ZT c.Z).2.length) QiB=(ZT c.Z).2[at_ % (ZT c.Z).2.length]'Y from by simp[oQ,Y]];have h2:=hn.2;have h3:∀(l:List Yd) (hl:at_ % l.length<l.length),E.map DV.it=l->l[at_ % l.length]'hl=(E[at_ % E.length]'ho).it:=by
   intro l hl e;subst e;rw[LW];congr 2;rw[Lj]
  exact h3 _ Y h2
 refine Zd (E[at_ % E.length]'ho) λq hq=>?_;rw[hq]at gh hs gi;have hF:=h8.each q hs;have hy:=gt q.it (by rw[<-hn.2];exact LK hs);have hG:=hF.ones;refine x (Qu gh U U)<|QL [sS 0,.string .empty,Zn,sS 0,Zn,Zn,Zn,Zn,sS 0] λb7 w7 g4 gj g6=>QJ (Qs q) g6 hG λw8 g7 ha=>xe ?_;have hc:sW w5 w8:=g4.Q g7 gj;have T:=ga.I hc;have k5:=hF.J hc;refine Zd ((c.co[0]'h6).nm) λfn hH=>?_;have V:dMk c.Z wh at_ bY=Uz fn q.it wh bY:=by
  unfold dMk;rw[O1 ⟨hj,λe=>by have h5:=gc.1;rw[gb,e]at h5;exact O3 h5 oh⟩,gi];congr 1;rw[<-hH];have hh:∀(l:List IV) (hl:0<l.length),((l.map IV.it).map Y0.nm).headD .empty=(l[0]'hl).nm:=λl hl=>by
   cases l with
   | nil=>exact O3 hl oh
   | cons a t=>rfl
  exact hh c.co h6
 have gk:JE fn:=by rw[<-hH];exact h.co.nm _ (Lm h6)
 refine Qc<|Qm U (hY.J (hg.I hc)) U U<|xp (g:=QK) (i:=0) Yj (h.J T).co.arr U U h6 λk6 g8=>x (Zp U)<|x (Qy (g8.fld 0 (.string fn) (O2 (λb=>some (Value.string b)) hH)) U) <|
  Qb ?_
 have h9:=hZ.J (hg.I hc);have Z:=(hD.J hg).J hc;have k7:=hg.size;have k8:=hc.size;have gz:=(hB.I h7).size;have he:↑w<=O:=oa
 have ka:=hD.lt;have k9:=Z.lt;have kb:b7≠O:=oa
 have H:∀k:Nat,((wh:Int) % 8=(k:Int))↔wh % 8=k:=λk=>oa
 have hJ:∀b∈O::N,b<w3.heap.size:=λb S=>by
  rcases Lk.1 S with rfl|S
  .exact ka
  have:=hN b S;have:=hE.size;omega
 have hA:∀b∈[O],b∈O::N:=oe
 have gl:∀b∈O::N,b<w8.heap.size:=λb S=>ov (hJ b S)
 have hK:Ji (O::N) ↑w8 q:=by
  have Y:K2 (O::N) ↑w5 v5 E:=JK.dits hn.1 oa hJ;exact(Y.each q hs).J hc
 refine QX (α:=Unit) [(9,10),(38,104)] (λ_=>[]) (λ_ w'=>w'=w8/\Uz fn q.it wh bY=(false,q.it)) om ?_ ?_
 .refine Qc<|Qm U h9 U U<|x (JV (a:=(wh:Int)) (b:=8) U U oa oh)<|xe<|Qn<|Qc<|x (QW U U)<|Qb<|QY U (λhL=>?_) (λhL=>?_)
  .have e0:wh % 8=0:=(H 0).1 hL;refine Qc<|Qm U ha U U<|Qm U ha U U<|x (Q8 [(0,[sS q.kd]),(1,[.string q.nm])] ⟨U,U,U,U,La⟩)<|x (Q8 [(0,[.bool true]),(1,Qs ⟨q.kd,q.nm,qp,Zn,[],Zn,[],0⟩)] ⟨U,U,U,U,La⟩) <|
    QJ (ZS ⟨true,⟨q.kd,q.nm,qp,Zn,[],Zn,[],0⟩⟩) Z ⟨U,U,U,U,U,U,U,U,U,U,La⟩ λw9 I hM=>xe ?_
   refine Qi ⟨[_],⟨YO hM,La⟩,T.Q I he,⟨true,⟨q.kd,q.nm,qp,Zn,[],Zn,[],0⟩⟩,U,?_,⟨hF.nm,⟨Zk.nil _ _ _,Zk.nil _ _ _,Zk.nil _ _ _⟩,Ua.nil,Ua.nil⟩⟩;rw[V];unfold Uz;rw[O1 e0];rfl
  have n0:¬wh % 8=0:=λe=>hL ((H 0).2 e);refine Qc<|x (QW U U)<|Qb<|QY U (λhO=>?_) (λhO=>?_)
  .have e1:wh % 8=1:=(H 1).1 hO;refine Qc<|QV ha U U<|Qm U h9 U U<|x (Z8 (k':=.i64) U ⟨oa,oa⟩)<|Qx<|(QfK hK gu hy.1 hy.2.1 gl).S ?_;rintro ma ht ⟨J,q',rfl,kc,gm⟩;refine x (Q8 [(1,Qs q')] ⟨U,U,La⟩)<|QJ (ZS ⟨false,q'⟩) (Z.J J) ⟨U,gm.ones⟩ λmf gn ke=>xe ?_;refine Qi ⟨[_],⟨YO ke,La⟩,(T.I J).Q gn he,⟨false,q'⟩,U,?_,?_⟩
   .rw[V];unfold Uz;rw[O0 n0,O1 e1];exact O2 (Prod.mk false) kc
   exact(gm.st (gn.S hA)).up (λb S=>.inl (Ll _ S))
  have n1:¬wh % 8=1:=λe=>hO ((H 1).2 e);refine Qc<|x (QW U U)<|Qb<|QY U (λhP=>?_) (λhP=>?_)
  .have e2:wh % 8=2:=(H 2).1 hP;refine Qc<|Qm U ha U U<|x (QW U U)<|xe<|QY U (λhQ=>?_) (λhQ=>?_)
   .have hk1:q.kd=1:=hQ;have go:=hy.2.2 hk1;refine Qc<|QN U<|x (Q7 (us:=[q.p.va,sS q.p.a.st,q.p.vm,q.p.ve]) ha U U U)<|Qx<|(Qa1 hK.a).S ?_;rintro mg kf ⟨gp,ua,ub,uc,ud,rfl,hv,gq⟩;have kg:=(gq go).2 (O::N) gl;refine Qa<|QS U U<|QS U U<|QL XD λb9 mh kh ki kj=>QJ [ua,ub,uc,ud] kj hv λkk kn gr=>Qb ?_;have hR:sW kf kk:=kh.Q kn ki;rw[((gq go).1)]at hv gr;refine Qc<|QV gr U U<|x (Q8 [(0,[sS 2]),(1,[.string JQ]),(2,[ua,sS (qi (Yg q.p.a)).st,uc,ud])] ⟨U,U,U,U,U,U,La⟩)<|x (Q8 [(1,Qs ⟨2,JQ,⟨ua,uc,ud,qi (Yg q.p.a)⟩,Zn,[],Zn,[],0⟩)] ⟨U,U,La⟩) <|
     QJ (ZS ⟨false,⟨2,JQ,⟨ua,uc,ud,qi (Yg q.p.a)⟩,Zn,[],Zn,[],0⟩⟩) ((Z.J gp).J hR) ⟨U,U,U,hv.1,U,hv.2.2.1,hv.2.2.2.1,U,U,U,La⟩ λmj gs ko=>xe ?_
    refine Qi ⟨[_],⟨YO ko,La⟩,((T.I gp).I hR).Q gs he,⟨false,⟨2,JQ,⟨ua,uc,ud,qi (Yg q.p.a)⟩,Zn,[],Zn,[],0⟩⟩,U,?_,⟨by show JE JQ;decide,((kg.J hR).st (gs.S hA)).up (λb S=>.inl (Ll _ S)),Ua.nil,Ua.nil⟩⟩;rw[V];unfold Uz;rw[O0 n0,O0 n1,O1 ⟨e2,hk1⟩];rfl
   have hk1:¬q.kd=1:=hQ;refine Qe<|⟨(),La,U,?_⟩;unfold Uz;rw[O0 n0,O0 n1,O0 (λe=>hk1 e.2),O0 oa,O0 oa,O0 oa,O0 (λe=>oa)]
  have n2:¬wh % 8=2:=λe=>hP ((H 2).2 e);refine Qc<|x (QW U U)<|Qb<|QY U (λhS=>?_) (λhS=>?_)
  .have e3:wh % 8=3:=(H 3).1 hS;refine Qj<|Qm U h9 U U<|x (JV (a:=(bY:Int)) (b:=3) U U oa oh)<|x (Z8 (k':=.i64) U ⟨oa,oa⟩)<|x (Qv ⟨U,U,La⟩) <|
    Qo<|Zb [ZK (fn,((bY % 3:Nat):Int))] λhw w9 I mo hT=>x (Q8 [(0,[sS 3]),(1,[.string QaE]),(3,[sL hw 1 1])] ⟨U,U,U,U,U,U,La⟩) <|
    x (Q8 [(1,Qs ⟨3,QaE,qp,sL hw 1 1,[(fn,((bY % 3:Nat):Int))],Zn,[],0⟩)] ⟨U,U,La⟩)<|QJ (ZS ⟨false,⟨3,QaE,qp,sL hw 1 1,[(fn,((bY % 3:Nat):Int))],Zn,[],0⟩⟩) (Z.J I) ⟨U,U,U,U,U,U,U,U,U,U,La⟩ λht J hi=>xe ?_
   have kq:hw≠O:=oa
   refine Qi ⟨[_],⟨YO hi,La⟩,(T.I I).Q J he,⟨false,⟨3,QaE,qp,sL hw 1 1,[(fn,((bY % 3:Nat):Int))],Zn,[],0⟩⟩,U,?_,⟨by show JE QaE;decide,⟨Zk.nil _ _ _,Zk.nil _ _ _,Zk.nil _ _ _⟩,⟨?_,λp hp=>by rw[Lc.1 hp];exact gk⟩,Ua.nil⟩⟩
   .rw[V];unfold Uz;rw[O0 n0,O0 n1,O0 (λe=>n2 e.1),O1 e3];rfl
   exact(hT.O J (oA kq)).arr (λhm=>oy (hN _ hm) T.size) (n:=1) (cap:=1) (sz:=2) U oh (Lu _)
  have n3:¬wh % 8=3:=λe=>hS ((H 3).2 e);refine Qc<|x (QW U U)<|Qb<|QY U (λhU=>?_) (λhU=>?_)
  .have e4:wh % 8=4:=(H 4).1 hU;refine Qj<|x (Qv ⟨U,U,La⟩)<|Qo<|Zb [ZK (fn,1)] λh4 w9 I mq kr =>
    Qm rfl (h9.J I) U U<|x (JV (a:=(bY:Int)) (b:=3) U U oa oh)<|x (Z8 (k':=.i64) U ⟨oa,oa⟩)<|x (Q8 [(0,[sS 4]),(1,[.string QaF]),(4,[sL h4 1 1]),(5,[sS ((bY % 3:Nat):Int)])] ⟨U,U,U,U,U,U,U,U,La⟩) <|
    x (Q8 [(1,Qs ⟨4,QaF,qp,Zn,[],sL h4 1 1,[(fn,1)],((bY % 3:Nat):Int)⟩)] ⟨U,U,La⟩)<|QJ (ZS ⟨false,⟨4,QaF,qp,Zn,[],sL h4 1 1,[(fn,1)],((bY % 3:Nat):Int)⟩⟩) (Z.J I) ⟨U,U,U,U,U,U,U,U,U,U,La⟩ λht J hi=>xe ?_
   have kt:h4≠O:=oa
   refine Qi ⟨[_],⟨YO hi,La⟩,(T.I I).Q J he,⟨false,⟨4,QaF,qp,Zn,[],sL h4 1 1,[(fn,1)],((bY % 3:Nat):Int)⟩⟩,U,?_,⟨by show JE QaF;decide,⟨Zk.nil _ _ _,Zk.nil _ _ _,Zk.nil _ _ _⟩,Ua.nil,⟨?_,λp hp=>by rw[Lc.1 hp];exact gk⟩⟩⟩
   .rw[V];unfold Uz;rw[O0 n0,O0 n1,O0 (λe=>n2 e.1),O0 n3,O1 e4];rfl
   exact(kr.O J (oA kt)).arr (λhm=>oy (hN _ hm) T.size) (n:=1) (cap:=1) (sz:=2) U oh (Lu _)
  have n4:¬wh % 8=4:=λe=>hU ((H 4).2 e);refine Qc<|x (QW U U)<|Qb<|QY U (λhV=>?_) (λhV=>?_)
  .have e5:wh % 8=5:=(H 5).1 hV;refine Qc<|x (Q8 [(0,[sS 1]),(1,[.string JP])] ⟨U,U,U,U,La⟩)<|x (Q8 [(0,[.bool true]),(1,Qs ⟨1,JP,qp,Zn,[],Zn,[],0⟩)] ⟨U,U,U,U,La⟩) <|
    QJ (ZS ⟨true,⟨1,JP,qp,Zn,[],Zn,[],0⟩⟩) Z ⟨U,U,U,U,U,U,U,U,U,U,La⟩ λw9 I hM=>xe ?_
   refine Qi ⟨[_],⟨YO hM,La⟩,T.Q I he,⟨true,⟨1,JP,qp,Zn,[],Zn,[],0⟩⟩,U,?_,⟨by show JE JP;decide,⟨Zk.nil _ _ _,Zk.nil _ _ _,Zk.nil _ _ _⟩,Ua.nil,Ua.nil⟩⟩;rw[V];unfold Uz;rw[O0 n0,O0 n1,O0 (λe=>n2 e.1),O0 n3,O0 n4,O1 e5];rfl
  have n5:¬wh % 8=5:=λe=>hV ((H 5).2 e);refine Qc<|x (QW U U)<|Qb<|ZI U (λhW=>?_) (λhW=>?_)
  .have n6:¬wh % 8=6:=λe=>hW ((H 6).2 e);refine Qe<|⟨(),La,U,?_⟩;unfold Uz;rw[O0 n0,O0 n1,O0 (λe=>n2 e.1),O0 n3,O0 n4,O0 n5,O0 (λe=>n6 e.1)]
  have e6:wh % 8=6:=(H 6).1 hW;refine Qc<|Qm U ha U U<|x (QW U U)<|xe<|QY U (λhX=>?_) (λhX=>?_)
  .have hk1:q.kd=1:=hX;refine Qc<|QN U<|Qo<|Qw (u:=.string qO) ha U U (Mb U) U λw9 I hT=>xe ?_;refine Qc<|QV hT U U<|x (Q8 [(1,Qs { q with nm:=qO })] ⟨U,U,La⟩)<|QJ (ZS ⟨false,{ q with nm:=qO }⟩) (Z.O I (oA kb.symm)) ⟨rfl,rfl,rfl,hG.2.2⟩ λht J hi=>xe ?_
   have ku:xj (O::N) w5 ht:=((hc.Q I gj).S oe).V (J.S hA);refine Qi ⟨[_],⟨YO hi,La⟩,(T.Q I oa).Q J he,⟨false,{ q with nm:=qO }⟩,U,?_,?_⟩
   .rw[V];unfold Uz;rw[O0 n0,O0 n1,O0 (λe=>n2 e.1),O0 n3,O0 n4,O0 n5,O1 ⟨e6,hk1⟩];rfl
   have Y:K2 (O::N) ↑w5 v5 E:=JK.dits hn.1 oa hJ;have h2:=((Y.each q hs).st ku).up (L':=N) (λb S=>.inl (Ll _ S));exact⟨by show JE qO;decide,h2.a,h2.ls,h2.ts⟩
  have hk1:¬q.kd=1:=hX;refine Qe<|⟨(),La,U,?_⟩;unfold Uz;rw[O0 n0,O0 n1,O0 (λe=>n2 e.1),O0 n3,O0 n4,O0 n5,O0 (λe=>hk1 e.2)]
 rintro _ g9 w9 ⟨rfl,hI⟩;refine Qc<|QV ha U U<|x (Q8 [(1,Qs q)] ⟨U,U,La⟩)<|QJ (ZS ⟨false,q⟩) Z ⟨U,hG⟩ λht J hi=>xe ?_;refine Qi ⟨[_],⟨YO hi,La⟩,T.Q J he,⟨false,q⟩,U,?_,(hK.st (J.S hA)).up (λb S=>.inl (Ll _ S))⟩;rw[V,hI];rfl
theorem QlH (h:(ZT c).1≠0):(ZT c).2=[]:=by
 unfold ZT at *;split
 .rfl
 rename_i l E;rw[E]at h;simp only[]at h;split
 .rfl
 rename_i H;rw[O0 H]at h;exact O3 U h
theorem Qo1 {l:xF}{r:List (ByteArray×Int)}(h:V6 co l=some r)(E:l≠[]):0<r.length:=by
 rw[yp h];exact List.length_pos_iff.2 E
theorem QlJ {co:List Y0}:∀{l:List Uf}{a:List Yd},JI co l=some a->(∀q∈l,q.ls≠[])->∀x∈a,x.kd=3/\0<x.ls.length
 | [],a,h,_=>by
  rw[JI]at h;cases h
  exact λx hx=>by cases hx
 | x::l,a,h,I=>by
  rw[JI]at h;cases hx:V6 co x.ls with
  | none=>rw[hx]at h;cases h
  | some n =>
   rw[hx]at h;cases E:JI co l with
   | none=>rw[E]at h;cases h
   | some r =>
    rw[E]at h;cases h
    intro y H;rcases Lk.1 H with rfl|H
    .exact⟨U,Qo1 hx (I x Lr)⟩
    exact QlJ E (λq J=>I q (Ll _ J)) y H
theorem QlK {co:List Y0}:∀{l:List xT}{a:List Yd},J8 co l=some a->∀x∈a,x.kd=4
 | [],a,h=>by
  rw[J8]at h;cases h
  exact λx hx=>by cases hx
 | x::l,a,h=>by
  rw[J8]at h;cases hx:V6 co x.ts with
  | none=>rw[hx]at h;cases h
  | some n =>
   rw[hx]at h;cases E:J8 co l with
   | none=>rw[E]at h;cases h
   | some r =>
    rw[E]at h;cases h
    intro y H;rcases Lk.1 H with rfl|H
    .rfl
    exact QlK E y H
theorem Qrw (S:Zf c=0):∀y∈(ZT c).2,(y.kd=3->0<y.ls.length)/\y.ls.length<=1000000/\(y.kd=1->Jt y.a=0):=by
 intro y E;by_cases h:(ZT c).1=0
 rotate_left
 .rw[QlH h]at E;cases E
 refine⟨?_,LJ (Qcq (Vj S) h y E).1 oh,?_⟩
 all_goals
  have T:=ZO S;have he:∀x∈c.ex,x.ls≠[]:=by
   have H:=T.cd;unfold Ys at H;by_cases V:8<(szs c.co).length
   .rw[O1 V]at H;cases H
   rw[O0 V]at H;by_cases Y:(szs c.co).any KY=true
   .rw[O1 Y]at H;cases H
   rw[O0 Y]at H;by_cases Z:32<c.ex.length\/32<c.cs.length
   .rw[O1 Z]at H;cases H
   rw[O0 Z]at H;by_cases J:Yc (szs c.co) [] c.ex≠0
   .rw[O1 J]at H;exact O3 H J
   intro x hx e;have O:=Jo _ _ _ (Lq.1 J) x hx;unfold XR at O;rw[e]at O;cases O
  obtain⟨a,b,ha,hb,e,_⟩:=Qcp h;rw[e]at E;intro hk;rcases Lh.1 E with E|E
  .obtain⟨z,hz,rfl⟩:=Ly.1 E
   first
   | exact O3 (show(1:Int)=3 from hk) oh
   | exact(Z0 _).2 (T.co z hz)
  rcases Lh.1 E with E|E
  .obtain⟨z,_,rfl⟩:=Ly.1 E
   first
   | exact O3 (show(2:Int)=3 from hk) oh
   | exact O3 (show(2:Int)=1 from hk) oh
  rcases Lh.1 E with E|E
  .have I:=QlJ ha he y E
   first
   | exact I.2
   | exact O3 (I.1.symm.I hk) oh
  have I:=QlK hb y E;exact O3 (I.symm.I hk) oh
theorem Qo0 {n:ByteArray}{y:Yd}(h:jH y)(wh b:Nat):jH (Uz n y wh b).2:=by
 unfold Uz
 repeat' split
 all_goals first
  | exact h
  | exact⟨h.1,h.2⟩
  | exact⟨Lp _,Lp _⟩
  | exact⟨(by decide:1<=100000),Lp _⟩
  | exact⟨Lp _,(by decide:1<=100000)⟩
  | (unfold js;repeat' split) <;> first
   | exact⟨by show(List.set _ _ _).length<=_;rw[L9];exact h.1,h.2⟩
   | exact⟨h.1,h.2⟩
theorem Qru (H:Zf c=0)(wh a b:Nat):jH (dMk c wh a b).2:=by
 unfold dMk;split
 .rename_i h;refine Qo0 ?_ _ _;have E:a % (ZT c).2.length<(ZT c).2.length:=NF _ (List.length_pos_iff.2 h.2);rw[show(ZT c).2.getD (a % (ZT c).2.length) QiB=(ZT c).2[a % (ZT c).2.length]'E from by simp[oQ,E]];exact Qcq (Vj H) h.1 _ (Lm E)
 exact⟨Lp _,Lp _⟩
abbrev z6:LV:=[Zn,Zn,Zn,Zn,Zn,Zn]
section
variable {LL:LN}{w8:O8}{z:BlS}
end
theorem jg {γ:Type}{f:α->γ}{g:β->γ}{l:List α}{l':List β}(h:l.map f=l'.map g){k:Nat}(hk:k<l.length)(E:k<l'.length):f (l[k]'hk)=g (l'[k]'E):=by
 have H:(l.map f)[k]'(oA hk)=f (l[k]'hk):=LW ..;have I:(l'.map g)[k]'(oA E)=g (l'[k]'E):=LW ..;rw[<-H,<-I];simp only[h]
theorem QhS {k:Nat}{L2:LN}{s:Ke}{xs:List Y4}(h:Vq L w s)(hk:YD k s.sys)(O:k<=1000)(S:∀b∈L,b<↑w)(hx:Qad L2 ↑w vl xs)(T:∀e∈xs.map Y4.e,jH e.2)(V:Kb w 4096):
  QZ sV 12 [pS s.b,vl] w λ_ w'=>∃E:Ke,E.b=s.b/\YD (k+1) E.sys/\xj s.own w w'/\Vq (E.own++L) w' E/\∀b∈E.own,b∈s.own\/↑w<=b :=
 (yC h hk O S hx T V).S λ_ w' ⟨qr,_,_,Y,Z⟩=>by
  by_cases I:edE s.sys (xs.map Y4.e)=0
  .obtain⟨_,E,f2,f3,f4,f5,f6,f7⟩:=Z I;exact⟨E,f2,f4,f5,f6,f7⟩
  have J:=(Y I).1;exact⟨s,U,hk.S (NW _),J.any,(h.J J).up (λb H=>(Lh.1 H).elim (λH=>.inl (h.sub b H)) .inl) (λb H=>Lh.2 (.inl H)),λb H=>.inl H⟩
theorem QdO {s:Ke}{es:List zB}(h:es.map zB.en=s.s.ps.map (λq=>q.pt.en)):es.map zB.en=s.sys.ps.map xR.en:=by
 rw[h];show _=(s.s.ps.map (·.pt)).map xR.en;rw[L4];rfl
open Go.RowKit
section
variable {all:xK}{C:xH}{KF:xH->LN->Fr->O8->Prop}
end
abbrev mvC (x:Nat×Nat×Nat):LV:=[.int .u8 (x.1:Int),.int .u8 (x.2.1:Int),.int .u8 (x.2.2:Int)]
theorem QgF (x:Nat×Nat×Nat):(mvC x).length=3:=rfl
open Go.ChangeShapes Go.WideShapes Go.RowKit
def zX (H:xI)(v:O9)(n sz:Nat)(cs:LV):Prop :=
 cs.length=n*sz/\n<=9223372036854775807/\((v=nS/\n=0)\/∃a cap,v=.slice (some a) n cap/\n<=cap/\At [] H a cs)
theorem zX.arr {H:xI}{v:O9}(h:zX H v n sz cs)(E:n<=1099511627776):Zk [] H v n sz cs:=⟨h.1,E,h.2.2⟩
theorem zX.J {w w':O8}{v:O9}{n sz:Nat}{cs:LV}(h:zX ↑w v n sz cs)(E:sW w w'):zX ↑w' v n sz cs :=
 ⟨h.1,h.2.1,h.2.2.imp id λ⟨a,cap,I,J,O⟩=>⟨a,cap,I,J,O.J E⟩⟩
theorem zX.shape {H:xI}{v:O9}(h:zX H v n sz cs):∃a cap,v=.slice a n cap:=by
 rcases h.2.2 with⟨E,I⟩|⟨a,cap,E,_⟩
 .exact⟨none,0,by rw[E,I]⟩
 exact⟨some a,cap,E⟩
section
variable {pS:String}{l:xK}
theorem QqA {x:xd}{e bys:Nat}[Sl P t e E bys z]{v:O9}{H:xI}(h:zX H v n sz cs)(I:ev f x=v):
  sR P f w d (.call ⟨.builtin .len,#[x],#[t]⟩) ty pS af gd (sS n):=by
 unfold sR
 obtain⟨a,cap,J⟩:=h.shape;exact Un (I.I J)
end
section
variable {H:Type}{enc:TypeId×O9->H}{W:O8}{b0:Nat}{sp:Nat->Bool}{held:Bool}
theorem Qjp {g:α->LV}{Q:α->Prop}{t e:TypeId}{c:O9}{fuel:Nat}{x:DataW H×List MemPlace}(O:∀d,(g d).length=sz)(hh:0<sz)(ht:P.underlying t=some (.slice e))(hc:P.cellsOf e=sz)
  (hm:∀m cs y,cs.length=sz->DataW.trod enc P W b0 sp held m e cs=some y->∃d,cs=g d/\Q d)
  (hn:DataW.trod enc P W b0 sp held fuel t [c]=some x):∃ds:List α,zX ↑W c ds.length sz (ds.flatMap g)/\∀d∈ds,Q d:=by
 rcases DataW.trod_slice ht hn with⟨E,_⟩|⟨a,len,cap,elems,rest,m,_,E,_,_,hl,ho,hz,hp,_,_⟩
 .simp at E;subst E;exact⟨[],⟨oe,oe,.inl ⟨rfl,rfl⟩⟩,λd hd=>by cases hd⟩
 simp at E;subst E;have each:∀i,i<len->∃d:α,(∀r v,(g d)[r]?=some v->W.cell? (a.add (i*sz+r))=some v)/\Q d:=by
  intro i hi;have T:=hp i hi;rw[hc,LE (show i<elems.length by omega)]at T;obtain⟨cs,E,hs⟩:=MZ.1 T;unfold World.cells? at E;split at E
  .have hw:cs.length=sz:=by simpa using(VH E).1
   obtain⟨d,rfl,hq⟩:=hm m cs _ hw hs;refine⟨d,λr v I=>?_,hq⟩;have hy:r<sz:=by have:=(Me.1 I).1;rw[O]at this;exact this
   have V:=(VH E).2 r r (by simp[hy]);rw[Lg.Addr.add_add,I]at V;exact V
  cases E
 obtain⟨u,Y,hu⟩:=Qfg len each;have Z:(u.flatMap g).length=u.length*sz:=Go.Lg.YC g sz O u;have ha:∀j v,(u.flatMap g)[j]?=some v->cel ↑W (a.add j)=some v:=λj v I=>by
  have S:j<u.length*sz:=by
   rw[<-Z];exact(Me.1 I).1
  have hi:j / sz<u.length:=Nat.div_lt_of_lt_mul (by rw[Nat.mul_comm];exact S);have he:j / sz*sz+j % sz=j:=Nat.div_add_mod' j sz;have h3:(g (u[j / sz]'hi))[j % sz]?=some v:=by
   rw[<-(Xo g sz O u (j / sz) hi),L3,O1 (NF _ hh),MF,he];exact I
  rw[<-JT];have:=(hu (j / sz) hi).1 (j % sz) v h3;rw[he]at this;exact this
 refine⟨u,⟨Z,?_,.inr ⟨a,cap,by rw[Y],oa,λ_ _=>oe,λv I=>?_,ha⟩⟩,λd hd=>?_⟩
 .rw[Y];simp only[maxLen]at ho;omega
 .obtain⟨j,S,e⟩:=LM I;have J:=ha j v (by rw[LE S,e]);unfold cel at J;rw[Yz]at J;cases hb:W.heap[a.block]? with
  | none=>rw[hb]at J;cases J
  | some o=>exact(LP.1 hb).1
 obtain⟨i,hi,rfl⟩:=LM hd;exact(hu i hi).2
end
section
variable {H:Type}{enc:TypeId×O9->H}{W:O8}{b0:Nat}{sp:Nat->Bool}{held:Bool}
end
theorem QiS {H:Type}{enc:TypeId×O9->H}{W:O8}{base I:Nat}{sp:Nat->Bool}{J:Bool}{v:O9}{d:DataW H}{ps:List MemPlace}{t e:TypeId}(hu:P.underlying t=some (.slice e))(E:P.cellsOf e=3)(hk:kT P .u8 5 e=true)
  (O:Value.okWide P W .any base t v) (h:DataW.Trod enc P W I sp J t v d ps):∃mv:List (Nat×Nat×Nat),zX ↑W v mv.length 3 (mv.flatMap mvC)/\∀x∈mv,x.1<256/\x.2.1<256/\x.2.2<256:=by
 obtain⟨fuel,hf⟩:=h;obtain⟨ad,n,cap,rfl⟩:=QnN hu O;exact Qjp (sz:=3) (g:=mvC) QgF oa hu E (λm cs y S h=>by
  have hk:=VK 5 hk h
  match cs,S with
  | [u,v,z],_ =>
   obtain⟨a,rfl,T⟩:=yv (hk u oe);obtain⟨b,rfl,V⟩:=yv (hk v oe);obtain⟨c,rfl,E⟩:=yv (hk z oe);exact⟨(a,b,c),U,T,V,E⟩) hf
theorem Qte {H:Type}{enc:TypeId×O9->H}{W:O8}{base:Nat}{sp:Nat->Bool}{I:Bool}{v:O9}{d:DataW H}{ps:List MemPlace}(J:Value.okWide sV W .any base 37 v)(h:DataW.Trod enc sV W E sp I 37 v d ps):
  ∃mv:List (Nat×Nat×Nat),zX ↑W v mv.length 3 (mv.flatMap mvC)/\∀x∈mv,x.1<256/\x.2.1<256/\x.2.2<256 :=
 QiS underlying37 od od J h
abbrev Qm8:QU:=⟨[],0,[],[]⟩
theorem QpI {H:xI}(E:jU c≠0->va=zA)(I:jU c=0->Xi N H va (tgA c)):Xi N H va (if jU c=0 then tgA c else Qm8):=by
 by_cases h:jU c=0
 .rw[O1 h];exact I h
 rw[O0 h];exact⟨Zn,Zn,Zn,E h,λL _=>⟨Zk.nil _ _ _,Zk.nil _ _ _,Zk.nil _ _ _⟩⟩
structure ScI (k:Nat)(w0 w:O8)(b:Nat)(s:Ke):Prop where
 b:s.b=b
 ok:YD k s.sys
 st:sW w0 w
 sy:Vq s.own w s
 own:∀b∈s.own,↑w0<=b
theorem ScI.J {k:Nat}{E w w':O8}{b:Nat}{s:Ke}(h:ScI k E w b s)(H:sW w w'):ScI k E w' b s:=⟨h.b,h.ok,h.st.I H,h.sy.J H,h.own⟩
theorem Qrm {es E:List zB}{ps H:List xR}(h:es.map zB.en=ps.map xR.en)(I:E.map zB.en=H.map xR.en)(J:H.map ptX=ps.map ptX):
  es.map (λe=>{ e.en with vr:=0 })=E.map (λe=>{ e.en with vr:=0 }):=by
 have key:∀(es:List zB) (ps:List xR),es.map zB.en=ps.map xR.en->es.map (λe=>{ e.en with vr:=0 })=(ps.map ptX).map λz=>(⟨z.1,0,z.2.1,z.2.2.1,z.2.2.2.1,z.2.2.2.2.1⟩:Ent):=by
  intro es ps h;have:=O2 (List.map λe:Ent=>{ e with vr:=0 }) h
  rw[L4,L4]at this;rw[L4];exact this
 rw[key _ _ h,key _ _ I,J]
theorem j1 {l:PwV}{lv:O9}{mv:List (Nat×Nat×Nat)}(kf:∀x∈mv,x.1<256/\x.2.1<256/\x.2.2<256)(hQ:zX ↑w lv mv.length 3 (mv.flatMap mvC))(O:PwA w l)(T:Kb w 4096):
  QZ sV 4 [sT (Jg l),lv] w λr w'=>r=.bool true/\sW w w':=by
 refine Zt func4 ?_;refine Qc<|Zg (Jg l) λb1 w1 hw p6 hR=>Qb ?_;have hS:(Jg l).length=152:=QqE (l:=l.pl []) O.n;refine Qd<|QX (α:=Bool) [(23,34)] (λz=>[(34,.bool z)]) (λz w'=>sW w1 w'/\(z=false->l.n<=4/\mv.length<=3)) om ?_ ?_
 .refine Qq<|Qx<|(jJ (T.J hw)).S ?_;rintro r2 w2 ⟨rfl,V⟩;refine xB (Zr U) (λh=>O3 h oe) (λ_=>?_);refine Qa<|QV (hR.J V) U hS<|Qx<|(Qmt (l:=l) ⟨O.n,O.b,O.f0,O.f1,O.f2,O.bd,λhn=>by
   obtain⟨rs,I,Z⟩:=O.r hn;exact⟨rs,I,(Z.J hw).J V⟩⟩).S ?_
  rintro r3 w3 ⟨rfl,ha⟩;refine xB (Zr U) (λhT=>?_) (λhT=>?_)
  .refine QB U<|Qa<|Zm<|QB U<|xe ?_;exact⟨true,Lb,V.I ha,λh=>by cases h⟩
  refine QB U<|Qa<|Qa<|x (QqA (((hQ.J hw).J V).J ha) U)<|x (ZX U U)<|QB U<|xe ?_;exact⟨decide ((3:Int)<(mv.length:Int)),Lb,V.I ha,λh=>⟨oA hT,ov (O7 h)⟩⟩
 rintro z g w2 ⟨V,hU⟩;have hy:=hw.I V;refine Q6 rfl (λhH=>?_) (λhH=>?_)
 .refine Qc<|Qx<|(jJ (T.J hy)).S ?_;rintro r3 w3 ⟨rfl,ha⟩;refine Qb<|Qi ⟨[.bool true],Lb,U,hy.I ha⟩
 have p7:=(hU hH).2;refine Qe<|Exists.elim (O.pl hy ((hU hH).1)) λrs kg=>?_;refine Qc<|QV (hR.J V) U hS<|Qx<|(Qie kg.1).S ?_;rintro r3 w3 ⟨ha,_,⟨c,rfl,rfl,hC⟩,hD⟩;have hJ:=hy.I ha;refine Qx<|(QmA (hC [] oe) (Vj hD.ck) (T.J hJ)).S ?_;rintro r6 w6 ⟨kh,vp,rfl,ki,kj⟩;refine Qa<|QS U U<|QS U U<|x Qh<|Qb ?_;have hW:=hJ.I kh;by_cases hj:qQ c.Z=0
 rotate_left
 .have kk:=ki hj;subst kk;refine Qd<|QX (α:=Unit) [(42,47)] (λ_=>[(47,.bool true)]) (λ_ w'=>w'=w6) om ?_ ?_
  .refine Qq<|Qa<|xb (YS U U) (λY=>?_) (λY=>O3 hj Y);refine Qa<|Z6<|QB U<|xe ?_;exact⟨(),Lb,U⟩
  rintro _ g7 w7 rfl;refine Q6 U (λ_=>?_) (λkn=>by cases kn);refine QX (α:=Unit) [(4,4),(48,53)] (λ_=>[(4,.bool true)]) (λ_ w'=>w'=w7) om ?_ ?_
  .refine Qq<|Qa<|xb (YS U U) (λY=>?_) (λY=>O3 hj Y);refine Qa<|Qa<|x (Y8 underlying47 U U)<|QB U<|Qb<|⟨(),Lb,U⟩
  rintro _ g8 w8 rfl;exact Qi ⟨[.bool true],Lb,U,hW⟩
 refine Exists.elim (kj hj) λs hs=>?_;have evp:=hs.1;have ko:ScI 1 w w6 s.b s:=⟨U,by rw[hs.2.1];exact YD.new hj,hW,hs.2.2.2.up (λb H=>.inl (Lh.2 (.inl H))) (λb H=>H),λb H=>LJ hJ.size (hs.2.2.1 b H)⟩;refine Qd<|QX (α:=Unit) [(42,47)] (λ_=>[(47,.bool false)]) (λ_ w'=>w'=w6) om ?_ ?_
 .refine Qq<|Qa<|xb (YS U U) (λY=>O3 hj Y) (λY=>?_);refine Qa<|Qa<|x (Y8 underlying47 (show Go.Lg.ev _ _=.pointer (some ⟨s.b,0,none⟩) from evp) U)<|QB U<|xe ?_;exact⟨(),Lb,U⟩
 rintro _ g7 w7 rfl;refine Zl rfl<|Qe<|Qd<|Qc<|Qb<|Q2 (α:=Nat×Ke) [(4,4),(7,9),(54,81)] (λz=>[(7,sS z.1)]) (λz w'=>z.1<=mv.length/\ScI (z.1+1) w w' s.b z.2) (λz=>mv.length - z.1) (0,s) Lb ⟨Lp _,ko⟩ ?_;rintro⟨i,s1⟩ g w8 ⟨hi,E⟩;have hY:Zk s1.own ↑w8 lv mv.length 3 (mv.flatMap mvC):=((hQ.arr oa).up (L':=s1.own) (λb H=>.inr (E.own b H))).J E.st;have hCl:=QjP E.sy (Vj E.ok.st.ck);rw[E.b,<-evp]at hCl;refine Qd<|Qj<|Qa<|QE hY U<|Ye U U<|xe<|ZI rfl (λhZ=>?_) (λhZ=>?_)
 .refine Qt<|Qj<|Qx<|hCl.S ?_;rintro p8 kq ⟨kr,cm,rfl,ecm,hK⟩;have ga:=hK [] oe;refine Qa<|QS U U<|QS U U<|QL Z3 λp9 qc kt ku kv=>QJ cm.cells kv ga.ones λkw kx gc=>Qb ?_;have gg:sW kq kw:=kt.Q kx ku;have gh:=E.J (kr.I gg);have gi:=ga.J gg;have ecm':cm.Z=s1.sys.c:=ecm;have hL:=E.ok.st;rw[<-ecm']at hL;obtain⟨kz,k0,k4⟩:=hL.nw;have ho:=hL.ck;refine Qc<|QV gc U U<|Qx<|(Qgg gi (Vj ho) (T.J gh.st) kz).S ?_;rintro qf ql ⟨hM,t,rfl,ets,k5,qo,k6⟩;refine Qa<|QS U U<|QS U U<|x Qh<|Qb ?_;have hz:=gh.J hM;have hT1:=QbA hz.sy hz.ok (T.J hz.st);rw[<-ecm',E.b,<-evp]at hT1;refine Qj<|Qx<|hT1.S ?_;rintro qr k7 ⟨k8,va,rfl,k9,ma⟩;refine Exists.elim (QpI k9 ma) λa1 hq=>Exists.elim hq λa2 hq=>Exists.elim hq λa3 hq=>?_;have h0:=hq.2 [] oe;refine Qa<|QS U U<|QS U U<|QL XD λq0 q1 mf mg mh=>Qo<|ZA (us:=[a1,sS (if jU cm.Z=0 then tgA cm.Z else Qm8).st,a2,a3]) mh U (show Go.Lg.ev _ _=_ from hq.1) U U ⟨h0.al.one,U,h0.mr.one,h0.ed.one,La⟩ λmj mo gj=>Qb ?_
  have gk:sW k7 mj:=mf.Q mo mg;have h5:=k8.I gk;have gl:=hz.J h5;refine Qc<|QV ((gc.J hM).J h5) U U<|Qx<|(Qeu ((gi.J hM).J h5) (T.J gl.st)).S ?_;rintro q2 mq ⟨ms,vb,rfl,mt,mu⟩;refine Exists.elim (QpI mt mu) λmw hr=>Exists.elim hr λmy hr=>Exists.elim hr λmz hr=>?_;have h6:=hr.2 [] oe;refine Qa<|QS U U<|QS U U<|QL XD λq3 q4 m3 m4 m5=>Qo<|ZA (us:=[mw,sS (if jU cm.Z=0 then tgA cm.Z else Qm8).st,my,mz]) m5 U (show Go.Lg.ev _ _=_ from hr.1) U U ⟨h6.al.one,U,h6.mr.one,h6.ed.one,La⟩ λgm m6 gn=>Qb ?_
  have go:sW mq gm:=m3.Q m6 m4;have h7:=ms.I go;have gp:=gl.J h7;have gq:=(h0.J gk).J h7;have gr:=h6.J go;refine Zd (if jU cm.Z=0 then tgA cm.Z else Qm8) λA hA=>?_
  rw[hA]at gq gr gj gn;refine Qd<|QX (α:=Unit) [(102,127)] (λ_=>[(127,.bool false)]) (λ_ w'=>sW gm w') om ?_ ?_
  .refine Qq<|Qa<|xb (YS U U) (λh=>O3 U h) (λ_=>?_);refine Qa<|Qa<|xb (YS U U) (λh=>O3 U h) (λ_=>?_);refine QB U<|Qa<|Qa<|xB (Y8 underlying47 (show Go.Lg.ev _ _=.pointer (some ⟨t.b,0,none⟩) from U) U) (λh=>O3 h oe) (λ_=>?_);refine QB U<|Qa<|Qa<|Qa<|xb (YS U U) (λh=>O3 U h) (λ_=>?_);refine QB U<|Qa<|QV (gj.J h7) U U<|QV gn U U<|Qx<|(jO gq gr).S ?_;rintro _ q5 ⟨rfl,gs⟩;have hN:=gp.J gs;have hV:=QeW hN.sy hN.ok (T.J hN.st);rw[E.b,<-evp]at hV;refine xB (Zr U) (λh=>O3 h oe) (λ_=>?_);refine QB U<|Qa<|Qa<|Qx<|hV.S ?_;rintro _ za ⟨rfl,m7⟩;refine Zu U U<|QB U<|xe ?_;exact⟨(),Lb,gs.I m7⟩
  rintro _ zb zv gt;refine Zl U<|Qe ?_;have gu:=gp.J gt;have hE1:=zq gu.sy E.ok.len.2.2;rw[E.b,<-evp]at hE1;refine Qj<|Qx<|hE1.S ?_;rintro z1 z2 ⟨gv,v1,hg,rfl,gw,m8⟩;refine Qa<|QS U U<|QS U U<|x Qh<|Qb<|Qj<|Qx<|(zq (k6.J (((h5.I h7).I gt).I gv)) k5.len.2.2).S ?_;rintro z3 m9 ⟨gx,v2,hv,rfl,pa,pc⟩;refine Qa<|QS U U<|QS U U<|x Qh<|Qb ?_;have m2:=QdO pa;rw[ets]at m2;have gy:=Qrm (QdO gw) m2 k0;have k1:hg.length<=1000:=by have I:=O2 oR gw;rw[Lj,Lj]at I;have:=E.ok.len.2.2;omega
  have k2:hg.length=hv.length:=by have I:=O2 oR gy;rwa [Lj,Lj]at I
  have F1:=(m8.lst (L:=[]) oa oe).J gx;have F2:=pc.lst (L:=[]) oa oe;have pd:∀e∈hv,e.vr=0:=λe he=>by
   have I:e.en∈(jY cm.Z).ps.map xR.en:=by rw[<-m2];exact LK he
   obtain⟨p,hp,Z⟩:=Ly.1 I;have h3:=k4 p hp;have h4:p.vr=e.vr:=O2 Ent.vr Z;omega
  refine Qd<|QX (α:=Unit) [(138,150)] (λ_=>[(150,.bool false)]) (λ_ w'=>w'=m9) om ?_ ?_
  .refine Qq<|Qa<|xb (YS U U) (λh=>O3 U h) (λ_=>?_);refine Qa<|Qa<|xb (YS U U) (λh=>O3 U h) (λ_=>?_);refine QB U<|Qa<|Qa<|QE F1.arr U<|Qa<|QE F2.arr U<|Zu U U<|QB U<|xe ?_;exact⟨(),⟨O2 Value.bool (O6 (by rw[k2];simp)),La⟩,rfl⟩
  rintro _ z5 pf rfl;refine Zl U<|Qe<|Qd<|Qc<|Qb<|Q2 (α:=Nat) [(4,4),(22,22),(151,174)] (λz=>[(22,sS z)]) (λz w'=>z<=hg.length/\sW pf w') (λz=>hg.length - z) 0 Lb ⟨Lp _,xj.Y _ _⟩ ?_;rintro n g27 h8 ⟨hn,h9⟩;have F1b:=F1.J h9;have F2b:=F2.J h9;refine Qd<|Qj<|Qa<|QE F1b.arr U<|Ye U U<|xe<|ZI U (λgz=>?_) (λgz=>?_)
  .refine Qt<|Qc<|Qb<|Qi ⟨[.bool true],Lb,U,((gu.st.I gv).I gx).I h9⟩
  have J:n<hg.length:=by have pg:(n:Int)<(hg.length:Int):=gz;omega
  have hh:n<hv.length:=oa
  refine Qe<|Qd<|Qn<|QX (α:=Unit) [(157,174)] (λ_=>[(174,.bool false)]) (λ_ w'=>sW h8 w') om ?_ ?_
  .have hd:sW h8 { h8 with drawn:=h8.drawn+1 }:=xj.X _ _
   refine ZH [] (Xf 0 18 [8])<|p QA<|p QA<|Lg.pig (g:=ZW) (i:=n) U Qfy F1b.arr U U J λa1 I=>pq (λ_ S=>Qu (us:=ZW (hg[n]'J)) (I.J S) U U) <|
    p QA<|p QA<|Lg.pig (g:=ZW) (i:=n) U Qfy F2b.arr U U hh λa2 Z=>pq (λ_ S=>Qu (us:=ZW (hv[n]'hh)) (Z.J S) U U) <|
    pk<|xg<|(QeV ((F1b.each _ (Lm J)).J hd) ((F2b.each _ (Lm hh)).J hd) (jg gy J hh)).S ?_
   rintro _ wa ⟨rfl,ph⟩;have hB:=hd.I ph;refine⟨hB,?_⟩;refine pB (λ_=>Zr U) (λg0=>O3 g0 oe) (λg0=>?_);refine p QA<|p QA<|p QA<|Lg.pig (g:=ZW) (i:=n) U Qfy F2b.arr U U hh λa3 h3=>p (λ_=>Zp U) <|
    pq (λ_ S=>Qy ((h3.fld 2 (sS (hv[n]'hh).vr) U).J S) U)<|p (λ_=>YS U U)<|p (Z9 U)<|pe ?_
   exact⟨(),⟨O2 Value.bool (O6 (not_not_intro (pd _ (Lm hh)))),La⟩,hB⟩
  rintro _ gb wb hB;refine Zl U<|Qe<|Qq<|Qa<|QH U U<|Qb<|⟨n+1,oa,Lb,J,h9.I hB⟩
 have J:i<mv.length:=by have pg:(i:Int)<(mv.length:Int):=hZ;omega
 have hF:=kf _ (Lm J);refine Qe<|Qd<|Qn<|Qj<|Qx<|hCl.S ?_;rintro r30 pj ⟨g2,cm,rfl,ecm,hK⟩;have g3:=hK [] oe;refine Qa<|QS U U<|QS U U<|QL Z3 λb8 w31 pm pn po=>QJ cm.cells po g3.ones λg4 pp g5=>Qb ?_;have g6:sW pj g4:=pm.Q pp pn;have g9:=g2.I g6;have ka:=g3.J g6;have ho:Zf cm.Z=0:=by rw[ecm];exact E.ok.st.ck
 have pu:0<cm.co.length:=by
  have I:=(ZO ho).c0;have Z:cm.Z.co.length=cm.co.length:=Lj _;omega
 refine Qd<|QX (α:=Unit) [(65,72)] (λ_=>[(72,.bool false)]) (λ_ w'=>w'=g4) om ?_ ?_
 .refine Qq<|Qa<|xb (YS U U) (λh=>O3 U h) (λ_=>?_);refine Qa<|Qm U g5 U U<|QE ka.co.arr U<|x (QW U U)<|QB U<|xe ?_;exact⟨(),⟨O2 Value.bool (O6 oa),La⟩,U⟩
 rintro _ g33 hG rfl;refine Zl rfl<|Qe ?_;have pw:b8∉s1.own:=λhm=>by have I:=E.sy.lt b8 hm;have Z:=g2.size;omega
 have hd:sW hG { hG with drawn:=hG.drawn+1 }:=xj.X _ _
 refine UF (xj s1.own hG) [oE 0,oE 1,oE 2,oE 3,oE 4,oE 5,oF 6,oF 7,oF 8] mixed om od (xj.X _ _) ?_;refine p QA<|pq (λ_ S=>ZN (g5.O S pw) U U)<|p QA<|p QA<|Lg.pig (g:=mvC) (i:=i) U QgF (hY.J g9) U U J λa77 kb=>?_;refine Zd (mv[i]'J) λX hX=>?_;rw[hX]at kb hF;refine pq (λ_ S=>Qu (us:=mvC X) (kb.st S) U U)<|pk<|xg<|(Qic (N:=[]) oe (ka.J hd) (Vj ho) pu (Qrw ho) hF.1 hF.2.1 hF.2.2).S ?_;rintro _ w34 ⟨pz,e2,rfl,p0,p1⟩;have hO:=hd.I pz;refine⟨hO.any,?_⟩;refine pk<|Zb [ZS e2] λb80 w35 hP hb80 p2=>⟨(hO.I hP).any,?_⟩;have kc:=hO.I hP;have ht:=(E.J g9).J kc;have hE:=QhS ht.sy ht.ok oa ht.sy.lt (QsW p2 (p1.J hP)) (by
  intro e he;rw[Lc.1 he,p0];exact Qru ho _ _ _) (T.J ht.st)
 rw[E.b,<-evp]at hE;refine pk<|xg<|hE.S ?_;rintro _ w36 ⟨s2,e2b,p3,ke,p4,p5⟩;refine⟨kc.any.V ke,pe ?_⟩;refine Qq<|Qa<|QH U U<|Qb<|⟨(i+1,s2),by show mv.length - (i+1)<mv.length - i;omega,Lb,J,e2b,p3,ht.st.G ke (λb H=>.inr (E.own b H)),p4.up (λb H=>.inl (Lh.2 (.inl H))) (λb H=>H),λb H=>(p5 b H).elim (E.own b) (λh=>LJ ht.st.size h)⟩
theorem Xu {a b:Bool}(E:a=true)(H:b=true):(a && b)=true:=by rw[E,H];rfl
theorem Qb7 {f:FuncId}{s:ChangeSpec}{c:OpenClaim}(E:(c.wf (OpenSpec.ofChange s))=true)(H:(laidOutB P)=true)(I:(mapsRowed P)=true)(J:(fn.params.all (P.readableRec ·))=true)(O:(namedTie P c.named s.vars)=true)(S:((c.stops == []))=true)(T:((P.stops == []))=true)(V:((c.knobs == []))=true)(Y:((P.stopKnobs == []))=true)(Z:((c.inPlace == P.inPlace f))=true)(ha:((c.unfollowed == P.unfollowed f))=true)(hb:((c.recurses == P.recurses f))=true)(hc:((c.named == P.varsNamed f))=true)(he:((c.maps == (fn.params.toList++s.plain.varTypes P).any (P.mapsRec ·)))=true)(hg:((c.ifaces == (fn.params.toList++s.plain.varTypes P).any (P.ifacesRec ·)))=true)(hh:((c.mapsOut == P.mapsAmong fn.resultTypes.toList))=true)(hi:((c.loops == (fn.params.toList++s.plain.varTypes P).any (P.loopsFrom ·)))=true)(hj:((c.wideKeys == (fn.params.toList++s.plain.varTypes P++fn.resultTypes.toList).any (P.wideKeysFrom ·)))=true)(hl:(s.vars.all (P.varReadable ·))=true)(hm:(fn.resultTypes.all (λt=>P.readableRec t && decide (t<P.types.size)))=true)(hn:((c.ifacesOut == fn.resultTypes.toList.any (P.ifacesRec ·)))=true)(ho:((c.loopsOut == fn.resultTypes.toList.any (P.loopsFrom ·)))=true)(hp:((c.plainKeys == P.plainKeys))=true)(hq:(c.shortTexts.isNone)=true)(hr:(P.stopsHeard)=true)(hs:(P.mayEnter)=true)(ht:((c.lifted == P.liftsFinal))=true)(hv:((P.make == some c.make))=true)(hw:((c.kinds == (if c.domain.isEmpty then[]else fn.params.toList.map λt=>match P.underlying t with|some (.int k)=>some k|_=>none)))=true)(hy:((c.pinned == c.pinnedBy))=true)(hz:((c.veiled == (fn.params.toList++s.plain.varTypes P++fn.resultTypes.toList).any (P.veiledRec ·)))=true)(h0:(c.veiledFits P fn.params.toList (fn.params.toList++s.plain.varTypes P++fn.resultTypes.toList))=true):joinedFacts P f fn s c=true:=by
 unfold joinedFacts;exact(Xu (Xu (Xu (Xu (Xu (Xu (Xu (Xu (Xu (Xu (Xu (Xu (Xu (Xu (Xu (Xu (Xu (Xu (Xu (Xu (Xu (Xu (Xu (Xu (Xu (Xu (Xu (Xu (Xu (Xu (Xu E H) I) J) O) S) T) V) Y) Z) ha) hb) hc) he) hg) hh) hi) hj) hl) hm) hn) ho) hp) hq) hr) hs) ht) hv) hw) hy) hz) h0)
theorem ja:laidOutB sV=true:=od
theorem QkM:mapsRowed sV=true:=od
theorem QkO:sV.stopsHeard=true:=od
theorem QkP:sV.mayEnter=true:=od
theorem QkN:(false == sV.liftsFinal)=true:=od
theorem Qod:(sV.make == some Make.cut)=true:=od
theorem QkT:(Rows.updateScratchRow.inPlace == sV.inPlace 4)=true:=od
theorem QkS:(Rows.updateScratchRow.unfollowed == sV.unfollowed 4)=true:=od
theorem QkR:(Rows.updateScratchRow.recurses == sV.recurses 4)=true:=od
theorem QkQ:(Rows.updateScratchRow.named == sV.varsNamed 4)=true:=od
theorem Qoe:Rows.updateScratchRow.wfByText (OpenSpec.ofChange Rows.updateScratchSpec)=true:=od
theorem Qoh:Tryz.pinned.checked.prog.mainIs=some (true, "e995ae75cd4cf4b754d7f901a88cdfcf3d7684c5795a6bc3a5d780dc25555f9f".toList):=od
theorem Qog:sV.funcNamed "overseer/overseerlaw56.UpdateScratch" = some 4:=od
theorem Qoi:false=sV.looks []:=od
theorem Qof:([36,37].all λu=>!sV.wantsStandIn u)=true:=od
theorem Qoj:false=Rows.updateScratchRow.goesBy Tryz.pinned.checked.prog:=od
end Go.Lg
