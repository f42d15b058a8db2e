/- Merged out of 20 texts. -/
import Derived.Test.YtpfnhheoeaiomaaGreatDoorPge
import Derived.Test.YtpfnhheoeaiomaaGreatDoorRows
import Derived.JoinedOf
import Derived.Test.YtpfnhheoeaiomaaGreatDoorCards
import Derived.SevenTiedAt
set_option maxHeartbeats 40000000
set_option maxRecDepth 100000
set_option linter.all false
open Go Go.Lg
open Go.Value renaming int->oB
open Go.IntKind renaming i64->oC
open _root_.List renaming replicate->oG,getD->oN,length->oV
open _root_.Array renaming toList->OP
open _root_.Nat renaming mod_lt->OQ
open Go renaming World->O2,Value->O3,Operand->O4,Program->O5
open Go.Proofs Go.Proofs.Tryz
open Go.Proofs.Tryz renaming prog->sV
open Go.Proofs.YtpfnhheoeaiomaaGreatDoor
variable {w w':O2}{L ds:LN}{n i t base T j N E m g kt G U:Nat}{a A:Qz}{l o u un hi r est q rs:LI}{cs us cap:LV}{α:Type}{y:O4}{va ve vm z vt vr vo vh:O3}{f:Fr}{aa:List Qz}{P:O5}{s:Int}{c:CL}{fn:Func}{es ed:List Ed}{d:xF}{k':IntKind}
namespace Go.Lg
section
variable (k:α->Int)
end
abbrev Ky:=Int×ByteArray
structure xL where
 ky:Ky
 vr:Int
 sp:Qz
 kp:LI
 ds:LI
 rm:List Q4
 c:ZS
theorem QeT (h:QS a)(E:0<=s)(G:s<a.st):cks a s=0:=by
 unfold cks;rw[OU (by rw[(Zz a).2 h];decide),OU oa]
theorem QfA (h:QS a){v:Int}(E:(i:Int)<a.st)(G:nxt a.ed i v=(t:Int)):stp a i v=((t:Int),true,0):=by
 have I:(xo a.ed i v).isSome=true:=(V0 h _ _).1 oa;obtain⟨u,J⟩:=Nm.1 I;have T:v∈a.al:=(h.ed _ (YS J)).2.2.1;unfold stp;rw[OU (by rw[QeT h oa E];decide),OU (ou T),OV oa,G]
theorem Qan (E:QS a)(x:Int):(enb a x).length<=32:=by
 rw[QeK E];exact Lz (LK _ _) E.al_le
theorem QoY {H:xC}{c:ZS}{e:Int}(h:D25 c)(E:qX N H c va vt e):e=0/\Xb N H va (J7 (O8 c.co))/\∃l,QdB N H vt l:=by
 obtain⟨pl,ps,sa,ts,e1,e2,_⟩:=Qgv h;have G:=UU h;have U:=h.c3;have I:=(Ve (aa:=O8 c.co) (λa J=>G a (LG _ J)) (by rw[YD];omega)).1;unfold qX at E;rw[OU (not_not_intro h.ck)]at E;unfold Yy at E;rw[OU (not_not_intro I),e1]at E;have T:J7 (O8 c.co)=pl:=by unfold J7;rw[e1]
 rw[T];exact⟨E.1,E.2.1,_,E.2.2⟩
def hU (F:Int)(S:Qz):Qz:=if F=0 then S else⟨[],0,[],[]⟩
theorem auF {H:xC}(h:Xb N H (sT us) A):∃va vm ve,us=[va,sS A.st,vm,ve]/\∀L:LN,(∀b∈L,b<N)->Zr L H va vm ve A:=by
 obtain⟨va,vm,ve,E,G⟩:=h;exact⟨va,vm,ve,OW OP (Value.agg.inj E),G⟩
theorem Qea (hC:U5 c.C hi)(h:Ya [] ↑w c)(I:Kb w 4096):
  QU sV 14 [c.val] w λr w'=>sW w w'/\∃pa pm pe vt,r=.tuple #[.agg #[pa,sS (YF c.C).st,pm,pe],vt,sS 0]/\ZL [pa,sS (YF c.C).st,pm,pe]/\vt.oneCell'=true/\∀L:LN,(∀b∈L,b<↑w)->Zr L ↑w' pa pm pe (YF c.C):=by
 refine(jj h I).S ?_;rintro r w' ⟨J,va,vt,e,rfl,G⟩;obtain⟨_,_,_,_,_,_,_,_,T,_⟩:=G.shape;obtain⟨rfl,⟨pa,pm,pe,rfl,hA⟩,_⟩:=QoY hC.d G;have E:=hA [] od;exact⟨J,pa,pm,pe,vt,O,⟨E.al.one,O,E.mr.one,E.ed.one,Z⟩,T,hA⟩
section
variable {c:ZS}
end
structure HC (c:ZS)(hi:LI):Prop where
 b:X6 c
 t:X6 (ZC c hi)
 r:∀x∈c.rq,∀e∈x.a.al,e∈hi
structure Std (c:ZS)(hi:LI)(s:LI)(i:Nat)(est:LI):Prop where
 m:s∈X8 c
 p:Pr (Xe c) hi (unc c.ev) ((X8 c).idxOf s:Int) est
 lt:i<(Ux (Xe c) hi).length
 e:(Ux (Xe c) hi).getD i []=est
section
variable {c:ZS}(h:HC c hi)
include h
theorem HC.pj:PjP (Xe c) hi (Ux (Xe c) hi):=yc (oo h.b.sy.2.2.2.1)
theorem HC.evT {v:Int}:v∈evs (O8 (ZC c hi).co)↔v∈kpt (Xe c) hi:=by
 rw[Jn (λa G=>(h.t.ok a (LG _ G)).1)];constructor
 ·rintro⟨a,G,E⟩;rw[Lb.1 (show a∈[ZO (YF c) hi] from G)]at E;exact E
 intro E;exact⟨ZO (YF c) hi,Lb.2 O,E⟩
theorem HC.evk {v:Int}:v∈kpt (Xe c) hi↔v∈evs (O8 c.co)/\v∈hi:=by
 unfold kpt;rw[LJ,decide_eq_true_iff,show(Xe c).al=evs (O8 c.co) from h.b.sy.2.1.al]
theorem HC.rql {v:Int}(E:v∉hi)(G:r.length=(O8 c.rq).length):QZ v (O8 c.rq) r=some r:=zU G λa I J=>by
 obtain⟨x,hx,rfl⟩:=Lx.1 I;exact E (h.r x hx v J)
theorem HC.sl {s:LI}(E:s∈X8 c):s.length=(O8 c.co).length:=(h.b.sy.2.1.v s E).1
theorem HC.plTo {s E:LI}{v:Int}(T:s∈X8 c)(G:v∈evs (O8 c.co))(I:QZ v (O8 c.co) s=some E):E∈X8 c/\(((X8 c).idxOf s:Int),v,((X8 c).idxOf E:Int))∈(Xe c).ed:=by
 have hi:=Uv T;have hc:=h.b.sy.2.1.cl _ hi.1 v G E (by rw[hi.2];exact I);have J:=h.b.sy.2.1.J hi.1 v;rw[OV G,hi.2,I]at J;exact⟨hc,YS J⟩
theorem HC.plFrom {s:LI}{v u:Int}(J:s∈X8 c)(U:(((X8 c).idxOf s:Int),v,u)∈(Xe c).ed):v∈evs (O8 c.co)/\∃E,QZ v (O8 c.co) s=some E/\E∈X8 c/\u=((X8 c).idxOf E:Int):=by
 have hi:=Uv J;have G:=US h.b.pok.edi U;rw[h.b.sy.2.1.J hi.1 v]at G;split at G
 ·rename_i T;obtain⟨E,I,e⟩:=Md.1 G;rw[hi.2]at I;exact⟨T,E,I,(h.plTo J T I).1,e.symm⟩
 cases G
theorem HC.cst {s:LI}{v:Int}(E:s∈X8 c):QZ v (O8 c.co++O8 c.rq) (s++r)=(QZ v (O8 c.co) s).bind λG=>(QZ v (O8 c.rq) r).map (G++·):=jM v _ _ s r (h.sl E)
omit h in
theorem QqN {v:Int}(E:v∈kpt (Xe c) hi):QZ v (O8 (ZC c hi).co++O8 (ZC c hi).rq) ((i:Int)::r)=(xo (ZO (Xe c) hi).ed i v).bind λG=>(QZ v (O8 c.rq) r).map (G::·):=by
 show QZ v (ZO (YF c) hi::O8 c.rq) ((i:Int)::r)=_;rw[Y0];unfold pst;rw[OV (show v∈(ZO (YF c) hi).al from E)]
theorem HC.lo {s E est:LI}{i:Nat}{v:Int}(hS:Std c hi s i est)(G:v∈evs (O8 c.co))(I:QZ v (O8 c.co) s=some E)(J:v∉hi):Std c hi E i est:=by
 obtain⟨T,U⟩:=h.plTo hS.m G I;exact⟨T,hS.p.lo U J,hS.lt,hS.e⟩
theorem HC.pjs (hi':i<(Ux (Xe c) hi).length)(U:(Ux (Xe c) hi).getD i []=est){v:Int}(T:v∈kpt (Xe c) hi):(∃I:Nat,xo (ZO (Xe c) hi).ed i v=some (I:Int)/\I<(Ux (Xe c) hi).length/\(Ux (Xe c) hi).getD I []=vnx (Xe c) hi (unc c.ev) est v/\(vnx (Xe c) hi (unc c.ev) est v).length≠0)\/xo (ZO (Xe c) hi).ed i v=none/\(vnx (Xe c) hi (unc c.ev) est v).length=0:=by
 have G:=h.pj.J hi' v;have V:=Qmk (o:=hi) (un:=unc c.ev) h.b.pok est v;have J:=h.pj.to (j:=i) hi' T;rw[U,V]at G J;by_cases E:(vnx (Xe c) hi (unc c.ev) est v).length=0
 ·rw[OU (λe=>e.2 E)]at G;exact .inr ⟨G,E⟩
 rw[OV ⟨T,E⟩]at G;exact .inl ⟨_,G,(J E).1,(J E).2,E⟩
theorem HC.hgh {s G:LI}{v:Int}(hS:Std c hi s i est)(I:v∈evs (O8 c.co))(V:QZ v (O8 c.co) s=some G)(J:v∈hi):∃E:Nat,xo (ZO (Xe c) hi).ed i v=some (E:Int)/\Std c hi G E (vnx (Xe c) hi (unc c.ev) est v):=by
 obtain⟨Y,T⟩:=h.plTo hS.m I V;have U:((X8 c).idxOf G:Int)∈vnx (Xe c) hi (unc c.ev) est v:=(QaG h.b.pok).2 ⟨_,(hS.p.ok h.b.pok h.b.sy.2.2.2.1).m,_,T,.z⟩;rcases h.pjs hS.lt hS.e (h.evk.2 ⟨I,J⟩) with⟨E,e1,e2,e3,_⟩|⟨_,e2⟩
 ·exact⟨E,e1,Y,hS.p.hi T J,e2,e3⟩
 rw[Ls e2]at U;cases U
theorem HC.td {s:LI}(E:s∈X8 c):(s++r).take c.co.length=s/\(s++r).drop c.co.length=r:=by
 have hl:=h.sl E;rw[YD]at hl;exact⟨by rw[<-hl,List.take_left],by rw[<-hl,List.drop_left]⟩
theorem HC.cin {s E r':LI}{v:Int}(G:s∈X8 c)(I:QZ v (O8 c.co) s=some E)(J:QZ v (O8 c.rq) r=some r'):QZ v (O8 c.co++O8 c.rq) (s++r)=some (E++r'):=by
 rw[h.cst G,I,J];rfl
omit h in
theorem QqP {E:Int}{r':LI}{v:Int}(G:v∈kpt (Xe c) hi)(I:xo (ZO (Xe c) hi).ed i v=some E)(J:QZ v (O8 c.rq) r=some r'):QZ v (O8 (ZC c hi).co++O8 (ZC c hi).rq) ((i:Int)::r)=some (E::r'):=by
 rw[QqN G,I,J];rfl
theorem HC.tto {I:LI}{v:Int}(hi':i<(Ux (Xe c) hi).length)(U:(Ux (Xe c) hi).getD i []=est)(V:r.length=(O8 c.rq).length)(J:v∈kpt (Xe c) hi)(E:QZ v (O8 (ZC c hi).co++O8 (ZC c hi).rq) ((i:Int)::r)=some I):
  ∃(G:Nat) (r':LI),I=(G:Int)::r'/\xo (ZO (Xe c) hi).ed i v=some (G:Int)/\QZ v (O8 c.rq) r=some r'/\r'.length=(O8 c.rq).length/\(vnx (Xe c) hi (unc c.ev) est v).length≠0:=by
 rw[QqN J]at E;rcases h.pjs hi' U J with⟨G,e1,e2,e3,e5⟩|⟨e1,_⟩
 ·rw[e1]at E;obtain⟨r',T,Y⟩:=Md.1 (show(QZ v (O8 c.rq) r).map ((G:Int)::·)=some _ from E);exact⟨G,r',Y.symm,e1,T,jL V T,e5⟩
 rw[e1]at E;cases E
theorem HC.std0:Std c hi (oG (O8 c.co).length 0) 0 (vcl (Xe c) hi (unc c.ev) [0] false):=by
 have G:=h.b.sy.2.1;have E:0<(X8 c).length:=by have:=G.st;have:=h.b.sy.2.2.2.1;omega
 have J:=G.hd E;have T:oG (O8 c.co).length (0:Int)∈X8 c:=by rw[<-J];exact(Yk E).2
 have I:=Uv T;have e:(X8 c).idxOf (oG (O8 c.co).length (0:Int))=0:=by
  refine Qf4 G.nd I.1 E ?_;rw[<-(Yk I.1).1,<-(Yk E).1,I.2];exact J.symm
 refine⟨T,by rw[e];exact Pr.z,h.pj.hd.2,?_⟩;rw[h.pj.hd.1];exact QfM h.b.pok λx hx=>by rw[Lb.1 hx];exact⟨MC _,h.b.sy.2.2.2.1⟩
omit h in
theorem QqV (c:ZS)(hi:LI):oG (O8 c.co++O8 c.rq).length (0:Int)=oG (O8 c.co).length 0++oG (O8 c.rq).length 0/\oG (O8 (ZC c hi).co++O8 (ZC c hi).rq).length (0:Int)=((0:Nat):Int)::oG (O8 c.rq).length 0:=by
 refine⟨by rw[Lc,List.replicate_append_replicate],?_⟩;show oG (ZO (YF c) hi::O8 c.rq).length (0:Int)=_;rw[LP,List.replicate_succ];rfl
end
abbrev htQ (c:ZS)(hi:LI):List (LI):=syQ [YF c,X2 (ZC c hi)]
structure HtS (c:ZS)(hi:LI)(k:Nat)(s:LI)(i:Nat)(est r:LI)(y:Int):Prop where
 lt:k<(htQ c hi).length
 q:(htQ c hi).getD k []=[((X8 c).idxOf s:Int),y]
 st:Std c hi s i est
 rl:r.length=(O8 c.rq).length
 v:Vq (ZC c hi) ((i:Int)::r) y
section
variable {c:ZS}(h:HC c hi)(hE:UJ c hi=0)
include h hE
theorem HC.ht:SyP [YF c,X2 (ZC c hi)] (Vw c hi) (htQ c hi)/\((htQ c hi).length=0↔(X2 (ZC c hi)).st=0)/\QS (Vw c hi)/\QS (X2 (ZC c hi)):=by
 unfold UJ at hE;by_cases G:suE (ZC c hi)≠0
 ·rw[OV G]at hE;exact OX hE G
 rw[OU G]at hE;have I:=K3 (Lt.1 G);have J:∀a∈[YF c,X2 (ZC c hi)],QS a:=λa E=>by
  rcases Lk.1 E with rfl|E
  ·exact h.b.pok
  rw[Lb.1 E];exact I
 obtain⟨U,_⟩:=Ql1 hE;obtain⟨T,V⟩:=Yz J U;refine⟨T,?_,T.okay J,I⟩;rw[V];have Y:0<(Xe c).st:=h.b.sy.2.2.2.1;constructor
 ·rintro⟨a,E,e⟩;rcases Lk.1 E with rfl|E
  ·exact OX e (by show(Xe c).st≠0;omega)
  rw[Lb.1 E]at e;exact e
 intro e;exact⟨_,od,e⟩
theorem HC.hev (J:(X2 (ZC c hi)).st≠0){v:Int}:v∈evs [YF c,X2 (ZC c hi)]↔v∈evs (O8 c.co):=by
 rw[Jn (λa E=>by
  rcases Lk.1 E with rfl|E
  ·exact h.b.pok
  rw[Lb.1 E];exact(h.ht hE).2.2.2)]
 have I:(YF c).al=evs (O8 c.co):=h.b.sy.2.1.al;constructor
 ·rintro⟨a,E,G⟩;rcases Lk.1 E with rfl|E
  ·rwa [I]at G
  rw[Lb.1 E]at G;exact(h.evk.1 (h.evT.1 (((h.t.suE J).2.2 v).1 G))).1
 intro G;exact⟨YF c,od,by rw[I];exact G⟩
omit h hE in
theorem zS (v:Int)(a b:Qz)(x y:Int):QZ v [a,b] [x,y]=(pst v a x).bind λE=>(pst v b y).map λG=>[E,G]:=by
 rw[Y0,Y0];cases pst v a x with
 | none=>rfl
 | some E=>cases pst v b y <;> rfl
theorem HC.hto {k i:Nat}{s est r:LI}{y v u:Int}(hS:HtS c hi k s i est r y)(he:xo (Vw c hi).ed k v=some u):
  v∈evs (O8 c.co)/\∃(k':Nat) (G:LI) (i':Nat) (est' r':LI) (I:Int),u=(k':Int)/\QZ v (O8 c.co++O8 c.rq) (s++r)=some (G++r')/\HtS c hi k' G i' est' r' I:=by
 obtain⟨h1,h2,h3,h4⟩:=h.ht hE;have U:(X2 (ZC c hi)).st≠0:=λe=>oq (h2.2 e) hS.lt
 have V:=h1.J hS.lt v;rw[he]at V;split at V
 ·rename_i hv;have J:=(h.hev hE U).1 hv;obtain⟨t,ht,e⟩:=Md.1 V.symm;have hto:=h1.to hS.lt hv ht;rw[hS.q,zS]at ht;obtain⟨x',hx,ha⟩:=Ml.1 ht;obtain⟨I,E,hf⟩:=Md.1 ha;subst hf;have hg:(YF c).al=evs (O8 c.co):=h.b.sy.2.1.al;unfold pst at hx;rw[OV (by rw[hg];exact J)]at hx;obtain⟨_,G,Y,_,e2⟩:=h.plFrom hS.st.m (YS (show xo (Xe c).ed _ v=some x' from hx));subst e2;refine⟨J,?_⟩;by_cases T:v∈hi
  ·have hk:=h.evk.2 ⟨J,T⟩;unfold pst at E;rw[OV (((h.t.suE U).2.2 v).2 (h.evT.2 hk))]at E;obtain⟨_,q',hh,hj⟩:=h.t.vst U hS.v E;obtain⟨i',r',rfl,e1,e2,ho,_⟩:=h.tto hS.st.lt hS.st.e hS.rl hk hh;obtain⟨i2,e3,hq⟩:=h.hgh hS.st J Y T;have ei:i2=i':=by
    rw[e1]at e3;have:=Option.some.inj e3;omega
   subst ei;exact⟨_,G,i2,_,r',I,e.symm,h.cin hS.st.m Y e2,hto.1,hto.2,hq,ho,hj⟩
  have hr:I=y:=by
   unfold pst at E;rw[OU (λhm=>T (h.evk.1 (h.evT.1 (((h.t.suE U).2.2 v).1 hm))).2)]at E;exact(Option.some.inj E).symm
  subst hr;exact⟨_,G,i,est,r,I,e.symm,h.cin hS.st.m Y (h.rql T hS.rl),hto.1,hto.2,h.lo hS.st J Y T,hS.rl,hS.v⟩
 cases V
theorem HC.hgo {k:Nat}{s I r':LI}{y v:Int}(hS:HtS c hi k s i est r y)(J:v∈evs (O8 c.co))(he:QZ v (O8 c.co) s=some I)(U:QZ v (O8 c.rq) r=some r')(hl:∀E:Nat,v∈hi->xo (ZO (Xe c) hi).ed i v=some (E:Int)->Std c hi I E (vnx (Xe c) hi (unc c.ev) est v)->Lq (ZC c hi) ((E:Int)::r')):
  ∃(k' E:Nat) (est':LI) (G:Int),xo (Vw c hi).ed k v=some (k':Int)/\HtS c hi k' I E est' r' G:=by
 obtain⟨h1,h2,h3,h4⟩:=h.ht hE;have V:(X2 (ZC c hi)).st≠0:=λe=>oq (h2.2 e) hS.lt
 have hg:=(h.hev hE V).2 J;have h5:=h1.J hS.lt v;rw[OV hg,hS.q,zS]at h5;have hh:(YF c).al=evs (O8 c.co):=h.b.sy.2.1.al;have hx:pst v (YF c) ((X8 c).idxOf s:Int)=some ((X8 c).idxOf I:Int):=by
  unfold pst;rw[OV (by rw[hh];exact J)];exact US h.b.pok.edi (h.plTo hS.st.m J he).2
 have fin:∀(E:Nat) (est':LI) (G:Int),pst v (X2 (ZC c hi)) y=some G->Std c hi I E est'->r'.length=(O8 c.rq).length->Vq (ZC c hi) ((E:Int)::r') G->∃(k' E:Nat) (est':LI) (G:Int),xo (Vw c hi).ed k v=some (k':Int)/\HtS c hi k' I E est' r' G:=λE est' G Y ha hj hf=>by
  rw[hx,Y]at h5;have hto:=h1.to hS.lt hg (u:=[((X8 c).idxOf I:Int),G]) (by rw[hS.q,zS,hx,Y];rfl);exact⟨_,E,est',G,h5,hto.1,hto.2,ha,hj,hf⟩
 by_cases T:v∈hi
 ·obtain⟨E,e1,ha⟩:=h.hgh hS.st J he T;have hk:=h.evk.2 ⟨J,T⟩;obtain⟨G,Y,hf⟩:=h.t.vgo V hS.v (h.evT.2 hk) (QqP hk e1 U) (hl E T e1 ha);exact fin E _ G (by unfold pst;rw[OV (((h.t.suE V).2.2 v).2 (h.evT.2 hk))];exact Y) ha (jL hS.rl U) hf
 have e2:r'=r:=by rw[h.rql T hS.rl]at U;exact(Option.some.inj U).symm
 subst e2;exact fin i est y (by unfold pst;rw[OU (λhm=>T (h.evk.1 (h.evT.1 (((h.t.suE V).2.2 v).1 hm))).2)]) (h.lo hS.st J he T) hS.rl hS.v
theorem HC.hs0 (J:(X2 (ZC c hi)).st≠0):HtS c hi 0 (oG (O8 c.co).length 0) 0 (vcl (Xe c) hi (unc c.ev) [0] false) (oG (O8 c.rq).length 0) 0:=by
 obtain⟨V,Y,h3,h4⟩:=h.ht hE;have T:0<(htQ c hi).length:=Nat.pos_of_ne_zero λe=>J (Y.1 e);have U:=h.t.v0 J;rw[(QqV c hi).2]at U;refine⟨T,?_,h.std0,List.length_replicate,U⟩;rw[V.hd T];have E:=h.std0.m;have e:(X8 c).idxOf (oG (O8 c.co).length (0:Int))=0:=by
  have G:=h.b.sy.2.1;have I:0<(X8 c).length:=by have:=G.st;have:=h.b.sy.2.2.2.1;omega
  have h5:=G.hd I;have E:=Uv E;refine Qf4 G.nd E.1 I ?_;rw[<-(Yk E.1).1,<-(Yk I).1,E.2];exact h5.symm
 rw[e];rfl
theorem HC.keeps {k:Nat}{s s':LI}{y v:Int}(hS:HtS c hi k s i est r y)(I:v∈evs (O8 c.co))(J:QZ v (O8 c.co) s=some s')(T:v∈unc c.ev):(xo (Vw c hi).ed k v).isSome=true:=by
 have U:=h.t.vl hS.v;have hr:∃r',QZ v (O8 c.rq) r=some r':=by
  by_cases E:v∈hi
  ·obtain⟨V,e1,_⟩:=h.hgh hS.st I J E;have G:=h.evk.2 ⟨I,E⟩;refine Nm.1 (h.t.lfr U v T (h.evT.2 G) ?_);show(QZ v [ZO (YF c) hi] [(i:Int)]).isSome=true;rw[Y0];unfold pst;rw[OV (show v∈(ZO (YF c) hi).al from G),show xo (ZO (YF c) hi).ed i v=some (V:Int) from e1];rfl
  exact⟨r,h.rql E hS.rl⟩
 obtain⟨r',Y⟩:=hr;obtain⟨k',_,_,_,he,_⟩:=h.hgo hE hS I J Y λV E e1 ha=>by
  have G:=h.evk.2 ⟨I,E⟩;exact h.t.lunc U (h.evT.2 G) T (QqP G e1 Y)
 rw[he];rfl
end
section
variable {un':LI}
end
theorem U5.hc {c:ZS}(h:U5 c hi)(E:Ue c.co<=9)(hE:UJ c hi=0):HC c hi:=by
 have e:suE (ZC c hi)=0:=by
  unfold UJ at hE;by_cases e:suE (ZC c hi)=0
  ·exact e
  rw[OV e]at hE;exact OX hE e
 exact⟨h.celB,h.celT E e,h.r⟩
open Go.ChangeShapes Go.WideShapes Go.RowKit
def u8c (b:Nat):LV:=[.int .u8 (b:Int)]
theorem QoD (b:Nat):(u8c b).length=1:=rfl
theorem Qfr:∀bs:LN,bs.flatMap u8c=bs.map λb:Nat=>Value.int .u8 (b:Int)
 | []=>rfl
 | b::bs=>by rw[LM,LS,Qfr bs];rfl
def B8 (H:xC)(v:O3)(n:Nat):Prop:=n<=8->∃bs:LN,bs.length=n/\(∀b∈bs,b<256)/\Zu [] H v bs.length 1 (bs.flatMap u8c)
theorem QrL {H:Type}{enc:TypeId×O3->H}{W:O2}{sp:Nat->Bool}{V:Bool}{t e:TypeId}{c:O3}{d:DataW H}{ps:List MemPlace}(ht:P.underlying t=some (.slice e))(Y:P.underlying e=some (.int .u8))(hc:P.cellsOf e=1)
  (hok:Value.okWide P W .any base t c) (ha:DataW.Trod enc P W U sp V t c d ps):∃a n cp,c=.slice a n cp/\B8 ↑W (.slice a n cp) n:=by
 obtain⟨ad,nb,cb,rfl⟩:=okWide_slice ht hok;refine⟨ad,nb,cb,O,λh8=>?_⟩;obtain⟨fuel,hf⟩:=ha;rcases open_ints ht Y hc hf with⟨G,_⟩|⟨a,len,cap,zs,G,_,hl,_,hz,_,hg,T⟩
 ·simp[Value.cells]at G;obtain⟨rfl,rfl,rfl⟩:=G;exact⟨[],O,od,Zu.nil _ _ _⟩
 simp[Value.cells]at G;obtain⟨rfl,rfl,rfl⟩:=G;have hq:nb<=zs.length:=by rw[hz];split <;> omega
 have hh:∀k,k<nb->∃n:Nat,zs.getD k 0=(n:Int)/\n<256:=λk hk=>QdQ (T _ (by simp[oN,show k<zs.length by omega]));have J:((zs.take nb).map Int.toNat).length=nb:=by simp;omega
 refine⟨(zs.take nb).map Int.toNat,J,λn I=>?_,?_⟩
 ·obtain⟨z,hm,rfl⟩:=Lx.1 I;obtain⟨n,rfl,ho⟩:=QdQ (T z (L2 hm));simpa using ho
 have hp:Cell.okWide P W .any base t (.slice (some a) nb cb):=by simpa only[Value.okWide,ht]using hok
 rw[Qfr];refine⟨by rw[Ln,J];omega,oa,.inr ⟨a,cb,by rw[J],oa,λ_ _=>od,λ_ _=>QfE ht hp,λj v E=>?_⟩⟩;rw[My,My,LZ]at E;split at E
 ·rename_i hj;obtain⟨n,I,_⟩:=hh j hj;have h1:=hg j oa;have h2:zs[j]?=some (zs.getD j 0):=by simp[oN,show j<zs.length by omega]
  rw[h2,I]at E;simp at E;rw[<-Ju,h1,I,<-E]
 cases E
def KpW (c:ZS)(hi:LI)(k s:Nat):Prop:=∃(st:LI) (i:Nat) (est r:LI) (y:Int),HtS c hi k st i est r y/\s<(Jz c).length/\(Jz c).getD s []=st++r
structure KpF (c:ZS)(hi:LI)(k s:Nat):Prop where
 ta:QS (Vw c hi)
 tp:QS (YF c)
 a:cks (Vw c hi) k=0
 pl:s<(spc c).pl.length
 p:cks (YF c) (O7 (spc c).pl s)=0
 ev:∀v∈enb (YF c) (O7 (spc c).pl s),0<=v/\v.toNat<c.ev.length
 un:∀v∈enb (YF c) (O7 (spc c).pl s),(c.ev.getD v.toNat ⟨.empty,false,false,false,0⟩).co=false->v∈enb (Vw c hi) k
 nx:∀v∈enb (Vw c hi) k,∃k' s':Nat,stp (Vw c hi) k v=((k':Int),true,0)/\stp (spc c).a s v=((s':Int),true,0)/\KpW c hi k' s'
section
variable {c:ZS}(h:HC c hi)(hE:UJ c hi=0)
include h hE
theorem KpW.init (G:(Vw c hi).st≠0):KpW c hi 0 0:=by
 obtain⟨I,J,_,_⟩:=h.ht hE;have T:(X2 (ZC c hi)).st≠0:=λe=>G (by rw[I.st,J.2 e];rfl);have E:=Uv h.b.q0.1;rw[h.b.q0.2]at E;exact⟨_,_,_,_,_,h.hs0 hE T,E.1,by rw[E.2];exact(QqV c hi).1⟩
theorem KpW.facts {k s:Nat}(hw:KpW c hi k s):KpF c hi k s:=by
 obtain⟨st,i,est,r,y,hS,J,U⟩:=hw;obtain⟨h1,_,hto,_⟩:=h.ht hE;have hf:st++r∈Jz c:=by rw[<-U];exact(Yk J).2
 have hm:=Uv hS.st.m;have V:(spc c).pl=(Jz c).map (λt=>plx (X8 c) (t.take c.co.length)):=by rw[h.b.sy.2.2.2.2]
 have Y:O7 (spc c).pl s=((X8 c).idxOf st:Int):=by
  rw[V,QrF J,<-(Yk J).1,U,(h.td hS.st.m).1];unfold plx;rw[OV hS.st.m]
 have hg:(YF c).st=((X8 c).length:Int):=h.b.sy.2.1.st;have hn:(Vw c hi).st=((htQ c hi).length:Int):=h1.st;have hev:∀v∈enb (YF c) (O7 (spc c).pl s),v∈evs (O8 c.co)/\∃G,QZ v (O8 c.co) st=some G:=λv E=>by
  rw[Y]at E;obtain⟨u,T⟩:=Nm.1 ((Qbx h.b.pok _ v).1 E);obtain⟨g1,G,I,_⟩:=h.plFrom hS.st.m (YS T);exact⟨g1,G,I⟩
 have hb:∀v∈enb (YF c) (O7 (spc c).pl s),0<=v/\v<(c.ev.length:Int):=λv E=>h.b.evb (hev v E).1;refine⟨hto,h.b.pok,QeT hto oa (oo hS.lt),by rw[V,Ln];exact J,?_,λv E=>oo (hb v E),λv E hh=>?_,λv E=>?_⟩
 ·rw[Y];exact QeT h.b.pok oa (by rw[show(Xe c).st=_ from hg];omega)
 ·obtain⟨g1,G,I⟩:=hev v E;exact(Qbx hto _ v).2 (h.keeps hE hS g1 I ((QeQ (hb v E)).2 hh))
 obtain⟨u,T⟩:=Nm.1 ((Qbx hto _ v).1 E);obtain⟨g1,k',G,i',est',r',y',rfl,I,hj⟩:=h.hto hE hS T;have hk:=h.b.nxQ hf g1 I;have ha:=Uv hk;have he:=h.b.sy.1.J J v;rw[OV (h.b.evc.2 g1),U,I]at he;have hsp:(spc c).a.st=((Jz c).length:Int):=h.b.sy.1.st;exact⟨k',(Jz c).idxOf (G++r'),QfA hto (oo hS.lt) (by rw[K8,T]),QfA h.b.sok oa (by rw[K8,he];rfl),G,i',est',r',y',hj,ha.1,ha.2⟩
end
theorem QgY (hC:U5 c.C hi)(h:Ya [] ↑w c)(V:Kb w 4096):
  QU sV 31 [c.val] w λr w'=>sW w w'/\∃sa sm se G I E J,r=.tuple #[.agg #[sa,sS (spc c.C).a.st,sm,se,G,I,E,J],sS 0]/\ZL [sa,sS (spc c.C).a.st,sm,se,G,I,E,J]/\Zr [] ↑w' sa sm se (spc c.C).a/\Qu [] ↑w' E (spc c.C).pl:=by
 have hs0:YQ c.C=0:=hC.su0;refine(Ua h V).S ?_;rintro r w' ⟨Y,v,rfl,⟨us,e1,_,T⟩,hg⟩;obtain⟨sa,sm,se,G,I,E,J,cos,rqs,e2,_,_,ha⟩:=hg hs0;have e3:us=[sa,sS (spc c.C).a.st,sm,se,G,I,E,J]:=OW OP (Value.agg.inj (e1.symm.D e2));rw[e3]at T;have U:=ha [] od;refine⟨Y,sa,sm,se,G,I,E,J,?_,T,U.1,U.2.2.2.1⟩;rw[hs0,e2]
theorem Qbc {l:PwV}{hb:Nat}{va:Option Addr}{cp:Nat}(hl:PwA w l)(kw:hb<256)(h6:Kb w 4096)(kx:B8 ↑w (.slice va n cp) n):
  QU sV 7 [.agg (Z6 l++[Value.int .u8 (hb:Int)]).toArray,.slice va n cp] w λr w'=>r=.bool true/\sW w w':=by
 refine Zm func7 ?_;refine Qc<|Zf (Z6 l++[Value.int .u8 (hb:Int)]) λb1 w1 h7 hb1 gg=>Qb<|Qd<|QW (α:=Bool) [(30,42)] (λz=>[(42,.bool z)]) (λz w'=>sW w1 w'/\(z=false->l.n<=4/\n<=8)) oh ?_ ?_
 ·refine Qr<|Qw<|(jl (h6.I h7)).S ?_;rintro r2 w2 ⟨rfl,T⟩;refine x (Zj O)<|Qa<|Q9 O<|x (ZR (us:=Z6 l) (gg.I T) O (QaY (l:=l.pl []) hl.n) (Qmp hl.n))<|Qw<|(Qlq (l:=l) ((hl.I h7).I T)).S ?_;rintro r3 w3 ⟨rfl,hf⟩;refine xB (Zj O) (λgh=>?_) (λgh=>?_)
  ·refine QC O<|Qa<|ZA<|QC O<|xe ?_;exact⟨true,La,T.D hf,λh=>by cases h⟩
  have kz:l.n<=4:=by simpa using gh
  refine QC O<|Qa<|Qa<|x (Ut O)<|x (Z8 O O)<|QC O<|xe ?_;exact⟨decide ((n:Int) > 8),La,T.D hf,λh=>⟨kz,oo (O1 h)⟩⟩
 rintro z g w2 ⟨T,hz⟩;have hu:=h7.D T;refine Q6 rfl (λgi=>?_) (λgi=>?_)
 ·refine Qc<|Qw<|(jl (h6.I hu)).S ?_;rintro r3 w3 ⟨rfl,hf⟩;refine Qb<|Qj ⟨[.bool true],La,O,hu.D hf⟩
 refine Qf ?_;have gj:=hz gi;refine Exists.elim (kx gj.2) λbs gk=>?_;have k0:=gk.2.1;have k4:=gk.2.2;refine Exists.elim (hl.pl hu gj.1) λrs k5=>?_;refine Qc<|Q3 (gg.I T) O (Qo1 hl.n)<|Qw<|(Qho k5.1 kw).S ?_;rintro _ w3 ⟨hf,c,vh,hi,rfl,k6,k9,hC⟩;have gl:=k6 [] od;have ma:Qu [] ↑w3 vh hi:=Qh.ints k9 (oo hC.hl) od;obtain⟨gn,gq,mc⟩:=CL.co3 hC;refine Qa<|QO O O<|QO O O<|QT K9 λb3 w4 mf mg mh=>Q5 c.cells mh gl.ones λw5 mj gr =>
  Qb ?_
 have h8:sW w3 w5:=mf.Q mj mg;have hA:=(hu.D hf).D h8;have gs:=gl.I h8;have mo:=ma.I h8;refine Qd<|Qc<|Q3 gr O O<|Qw<|(QlD gs gn gq).S ?_;rintro _ w6 ⟨rfl,hg⟩;refine x (Zj O)<|xe<|Q6 rfl (λgt=>?_) (λgt=>?_)
 ·refine Qc<|Qb<|Qj ⟨[.bool true],La,O,hA.D hg⟩
 have U:Ue c.C.co<=9:=by simpa using gt
 have hO:hck c.C hi=0->HOk c.C hi:=λ_=>hC.hok U;have hX:=hC.htX U;have hgE:=hC.hgE;have hev5':c.C.ev.length=5:=mc;have mq:QS (YF c.C):=(hC.pl9 U).ok;have hB:=λ(e:UJ c.C hi=0) {k s:Nat} (hw:KpW c.C hi k s)=>KpW.facts (hC.hc U e) e hw;have hD:=λ(e:UJ c.C hi=0) (e2:(Vw c.C hi).st≠0)=>KpW.init (hC.hc U e) e e2;have cT:=λ{w:O2} (a:Ya [] ↑w c) (b:Qu [] ↑w vh hi) (k:Kb w 4096)=>Qng a b k hO;have cL:=λ{w:O2} (a:Ya [] ↑w c) (k:Kb w 4096)=>Qea hC a k;rw[hgE]at cT;refine Zd (UJ c.C hi) λE hE=>?_;rw[hE]at hX cT hB hD;have hG:=h6.I (hA.D hg);have hh:=gs.I hg;have ms:=mo.I hg;have hj:=gr.I hg;refine Qf<|Qc<|Q3 hj O O<|Qa<|Qw<|(cT hh ms hG).S ?_;rintro _ w7 ⟨mt,ut,rfl,mu,mv,mw,gu⟩;refine Qa<|QO O O<|QO O O<|QT Xf λb7 w8 my mz m0=>Qo<|Zx (us:=ut) m0 O O mu O mv λw9 m1 gv =>
  Qb ?_
 have gx:sW w7 w9:=my.Q m1 mz;have hy:=mt.D gx;refine Qc<|Q3 (hj.I hy) O O<|Qw<|(QgY hC (hh.I hy) (hG.I hy)).S ?_;rintro _ m2 ⟨m3,sa,sm,se,s1,s2,s3,s4,rfl,m4,m5,m6⟩;refine Qa<|QO O O<|QO O O<|QT [nS,sS 0,nS,nS,nS,nS,nS,nS] λb9 w11 m7 m8 m9=>Q5 [sa,sS (spc c.C).a.st,sm,se,s1,s2,s3,s4] m9 m4 λpc pd pf =>
  Qb ?_
 have hH:sW m2 pc:=m7.Q pd m8;have gy:=m3.D hH;have h0:=hy.D gy;refine Qc<|Q3 (hj.I h0) O O<|Qw<|(cL (hh.I h0) (hG.I h0)).S ?_;rintro _ pg ⟨ph,ga,gm,ge,vt,rfl,pn,hvt,po⟩;refine Qa<|QO O O<|QO O O<|QO O O<|QT Xf λb11 w14 pp pt pu=>Q5 [ga,sS (YF c.C).st,gm,ge] pu pn λpw pz p0 =>
  x Qe<|Qb ?_
 have gz:sW pg pw:=pp.Q pz pt;have hn:=ph.D gz;have hI:=h0.D hn;refine Qd<|Qc<|Q3 (hj.I hI) O O<|Qa<|Qo<|Q8 [[sS E]] λb71 w16 g0 hb71 p4=>Qw<|(QbM (es:=[E]) ((hh.I hI).I g0) (QsL p4) gn gq).S ?_;rintro _ p5 ⟨rfl,p6⟩;have V:=g0.D p6;have hJ:=hI.D V;have h2:=(hA.D hg).D hJ;refine xe<|Q6 rfl (λg2=>?_) (λg2=>?_)
 ·refine Qc<|Qb<|Qj ⟨[.bool true],La,O,h2⟩
 have ho:E=0:=Qsq hX od g2;have p7:UJ c.C hi=0:=hE.D ho;refine Qf<|Qd<|QW (α:=Bool) [(73,82)] (λz=>[(82,.bool z)]) (λz w'=>w'=p5/\z=false) oh ?_ ?_
 ·refine Qr<|Qa<|xb (Jd O O) (λp8=>OX ho p8) (λ_=>?_);refine Qa<|Qa<|xb (Jd O O) (λp9=>OX O p9) (λ_=>?_);refine QC O<|Qa<|Qa<|ZN O O<|QC O<|xe ?_;exact⟨false,La,O,O⟩
 rintro z g qf ⟨rfl,qj⟩;refine Q6 rfl (λql=>OX (qj.symm.D ql) og) (λ_=>?_);refine Qf<|Exists.elim (auF (gu ho)) λxa Y=>Exists.elim Y λxm Y=>Exists.elim Y λxe' Y=>?_;have q4:=(Y.2 [] od).I gx;have q5:=Y.1;rw[q5]at gv;clear gu Y mw;have g3:=gy.D (hn.D V);have j1:=hj.I hJ;have hK:=gv.I g3;have j2:=pf.I (hn.D V);have j3:=p0.I V;have g4:=q4.I g3;have j4:=((po [] od).I gz).I V;have za:=(m5.I hH).I (hn.D V);have z0:=(m6.I hH).I (hn.D V);have z1:=k4.I h2;have z2:=hh.I hJ;have z3:=λ{k s:Nat} (hw:KpW c.C hi k s)=>hB ho hw;have g5:=hD ho;clear hB hD hX;refine Zd (Vw c.C hi) λTA hL=>?_;have z4:QS TA:=by rw[<-hL];exact QcT (hC.pl9 U) p7
 rw[hL]at hK g4 g5;refine Qd<|Qc<|Qs O hK O O<|x (Zc O O)<|xe<|Zg rfl (λg6=>?_) (λg6=>?_)
 ·refine Qc<|Qb<|Qj ⟨[.bool true],La,O,h2⟩
 have z5:TA.st≠0:=g6;refine Qf<|Qc<|x Qe<|Qb<|Qd<|Qc<|Qb<|QX (α:=Nat×Nat×Nat) [(4,4),(14,20),(22,29),(86,191)] (λz=>[(14,sS (z.1:Int)),(15,sS (z.2.1:Int)),(16,sS (z.2.2:Int))]) (λz w'=>KpW c.C hi z.1 z.2.1/\z.2.2<=n/\sW qf w') (λz=>n - z.2.2) (0,0,0) ox ⟨g5 z5,Lo _,O6.Y _ _⟩ ?_;rintro⟨i,s,k⟩ g w19 ⟨hW,hk,G⟩
 replace hW:KpW c.C hi i s:=hW
 replace hk:k<=n:=hk;have I:=z3 hW;have fa:=I.a;have fu:=I.un;have fn:=I.nx;rw[hL]at fa fu fn;have hs019:=h2.D G;have hB5f:=j1.I G;have g7:=hK.I G;have hM:=j2.I G;have hB10f:=j3.I G;have hC18:=z2.I G;have g8:=g4.I G;have hG18:=j4.I G;have hSA18:=za.I G;have g9:=z0.I G;have hBy18:=z1.I G;refine Qd<|Ql<|Qa<|x (Ut O)<|x (X3 O O)<|xe<|Zp rfl (λka=>OX (show(k:Int)<=(n:Int) by omega) ka) (λka=>?_);refine Qf<|Qd<|Qn<|Qd<|Ql<|Qs O hM O O<|QG g9 O<|x (Yf O O)<|xe<|Zg rfl (λh96=>OX (show(s:Int)≥((spc c.C).pl.length:Int) from h96) (oo I.pl)) (λ_=>?_);refine Qf<|Qc<|Q3 g7 O O<|Qa<|Qw<|(Uc g8 i).S ?_;rintro r20 hp ⟨hr,vo,rfl,_,hon⟩;have hN:Qu [] ↑hp vo (enb TA i):=(hon fa).ints (oo (Qan z4 i)) od;refine Qa<|QO O O<|QO O O<|x Qe<|Qb ?_;have hP:sW hp { hp with drawn:=hp.drawn+1 }:=O6.X _ _
 refine Qd<|ZK [] (Xj 0 12 [6])<|pq (λ_ hc=>Zi ((hB10f.I hr).I hc) O O)<|p (QH O)<|pq (λ_ hc=>Qk ((hM.I hr).I hc) O O) <|
  p Qy<|pic O (g9.I hr) O O I.pl λa137 h137=>pq (λ_ hc=>Qq (h137.I hc) O)<|pk<|xg<|(Uc ((hG18.I hr).I hP) (O7 (spc c.C).pl s)).S ?_
 rintro r21 hQ ⟨kb,vc,rfl,_,hcan⟩;have h3:Qu [] ↑hQ vc (enb (YF c.C) (O7 (spc c.C).pl s)):=(hcan I.p).ints (oo (Qan mq (O7 (spc c.C).pl s))) od;refine⟨hP.D kb,p Qy<|p (λ_=>Q0 O O)<|p (λ_=>Q0 O O)<|p ZI<|p ZI<|pe ?_⟩;have hR:sW hp hQ:=hP.D kb;have ha:=hr.D hR;have hs021:=hs019.D ha;have hPk:=I.p;have kc:=I.ev;refine Zd (enb (YF c.C) (O7 (spc c.C).pl s)) λEP hEP=>?_;rw[hEP]at h3 kc fu;refine Zd (cks (YF c.C) (O7 (spc c.C).pl s)) λKP hKP=>?_;rw[hKP]at hPk;refine Zd (enb TA i) λET hET=>?_;rw[hET]at hN fu fn;refine Qd<|QW (α:=Unit) [(113,118)] (λz=>[(118,.bool false)]) (λz w'=>w'=hQ) oh ?_ ?_
 ·refine Qr<|Qa<|xb (Jd O O) (λke=>OX fa ke) (λke=>?_);refine Qa<|Qa<|ZN O O<|QC O<|xe ?_;exact⟨(),⟨OW Value.bool (O0 (not_not_intro I.p)),Z⟩,O⟩
 rintro⟨⟩ g w22 rfl;refine Zw rfl<|Qf ?_;have hcl:=Zu.le h3;refine Qd<|Ql<|QG h3 O<|Qa<|xe<|QX (α:=Nat) [(4,4),(22,22),(121,138)] (λz=>[(121,sS z)]) (λz w'=>z<=EP.length/\w'=w22) (λz=>EP.length - z) 0 La ⟨Lo _,O⟩ ?_;rintro m g kf ⟨hm,rfl⟩;refine Zk rfl O (λkg=>?_) (λkg=>?_)
 ·refine Qt ?_;have hS:=hN.I hR;refine Qd<|QW (α:=Bool) [(139,147)] (λz=>[(147,.bool z)]) (λz w'=>w'=kf/\(z=false->k≠n/\ET.length≠0)) oh ?_ ?_
  ·refine Qr<|Qa<|Qa<|x (Ut O)<|xb (Zc O O) (λkh=>?_) (λkh=>?_)
   ·refine Qa<|ZA<|QC O<|xe ?_;exact⟨true,La,O,λh=>by cases h⟩
   refine Qa<|Qa<|QG hS O<|x (Zc O O)<|QC O<|xe ?_;exact⟨decide ((ET.length:Int)=0),La,O,λh=>⟨λe=>kh (OW (λm:Nat=>(m:Int)) e),λe=>O1 h (OW (λm:Nat=>(m:Int)) e)⟩⟩
  rintro z g ki ⟨rfl,hz⟩;refine Q6 O (λkj=>?_) (λkj=>?_)
  ·refine Qt<|Qc<|Qb<|Qj ⟨[.bool true],La,O,hs021⟩
  have kk:=hz kj;have hT:k<bs.length:=by have:=kk.1;omega
  have hOl:0<ET.length:=Nat.pos_of_ne_zero kk.2;refine Qf<|Qc<|Zd (bs[k]'hT) λbk kn=>?_;have hbk2:bk<256:=by rw[<-kn];exact k0 _ (Lm hT)
  refine Qa<|Qa<|Qa<|O9 (g:=u8c) QoD (hBy18.I ha) O O hT λa184 ko=>?_;rw[kn]at ko;have hU:bk % ET.length<ET.length:=OQ _ hOl;refine x (Qq ko O)<|x (Yc (k':=.i64) O ⟨oa,oa⟩)<|Qa<|QG hS O<|x (qO (a:=(bk:Int)) (b:=(ET.length:Int)) O O oa oa) <|
   xic (i:=bk % ET.length) hS O (OW sS (Int.natCast_emod bk ET.length).symm) hU λa190 h190=>x (Qq h190 O)<|Qb ?_
  have hs:O7 ET (bk % ET.length)∈ET:=by rw[<-Zo hU];exact Lm hU
  refine Zd (O7 ET (bk % ET.length)) λv hv=>?_;rw[hv]at hs;refine Exists.elim (fn v hs) λi' hi'=>Exists.elim hi' λs' hV=>?_;refine Qc<|Q3 ((g7.I ha)) O O<|Qa<|Qa<|Qw<|(jc (g8.I ha) i _).S ?_;rintro r25 w25 ⟨kq,hs25⟩;rw[hv,hV.1]at kq;subst kq;refine Qa<|QO O O<|QO O O<|QO O O<|x Qe<|x Qe<|Qb ?_;have hY:=ha.D hs25;refine Qc<|Q9 O<|x (ZR (us:=[sa,sS (spc c.C).a.st,sm,se]) (hM.I hY) O O O)<|Qa<|Qa<|Qw<|(jc (hSA18.I hY) s _).S ?_;rintro r26 w26 ⟨kr,hs26⟩;rw[hv,hV.2.1]at kr;subst kr;refine Qa<|QO O O<|QO O O<|QO O O<|x Qe<|x Qe<|Qb ?_;have hs1926:=hY.D hs26;refine Qd<|QW (α:=Unit) [(176,189)] (λz=>[(189,.bool false)]) (λz w'=>w'=w26) oh ?_ ?_
  ·refine Qr<|Qa<|xb (Jd O O) (λh=>OX O h) (λh210=>?_);refine Qa<|Qa<|xb (Jd O O) (λh=>OX O h) (λh213=>?_);refine QC O<|Qa<|Qa<|xB (Zj O) (λkt=>OX (show false=true from kt) og) (λkt=>?_);refine QC O<|Qa<|Qa<|x (Zj O)<|QC O<|xe ?_;exact⟨(),La,O⟩
  rintro⟨⟩ g w27 rfl;refine Zw O<|Qf<|Qr<|Qa<|Qa<|x Qe<|Qb<|Qr<|Qa<|QB O O<|Qb<|⟨(i',s',k+1),by show n - (k+1)<n - k;omega,ox,hV.2.2,by show k+1<=n;omega,G.D hs1926⟩
 have h4:m<EP.length:=by have U:(m:Int)<(EP.length:Int):=kg;omega
 refine Qf ?_;have hs:O7 EP m∈EP:=by rw[<-Zo h4];exact Lm h4
 have h5:=kc _ hs;have J:=fu _ hs;refine Qd<|Qn<|Qc<|xic h3 O O h4 λa152 hZ=>?_;refine Zd (O7 EP m) λv hv=>?_;rw[hv]at hZ h5 J;refine Zd v.toNat λq hq=>?_;have hvq:v=(q:Int):=by have:=h5.1;omega
 rw[hq]at h5 J;rw[hvq]at hZ J;refine x (Qq hZ O)<|Qb ?_;have hC23:=hC18.I ha;refine QW (α:=Unit) [(125,137)] (λz=>[(137,.bool false)]) (λz w'=>w'=kf) oh ?_ ?_
 ·refine Qr ?_;have gb:q<c.ev.length:=h5.2;refine Qs O (hB5f.I ha) O O<|Qa<|O9 zK hC23.ev.arr O O gb λa160 ku=>?_
  replace J:(c.ev.getD q ⟨.empty,false,false,false,0⟩).co=false->(q:Int)∈ET:=J;rw[Qol gb]at J;refine Zd (c.ev[q]'gb) λe he=>?_;rw[he]at ku J;refine x (ZF O)<|x (Qq (ku.fld 1 (.bool e.co) O) O)<|xB (Zj O) (λkv=>?_) (λkv=>?_)
  ·have hin:(q:Int)∈ET:=J (ou kv);refine Qa<|Qa<|Qa<|Qw<|(QcV (hN.I hR) (q:Int)).S ?_;rintro r24 ki ⟨gc,hw24⟩
   replace gc:r24=.bool true:=gc.D (OW Value.bool (OY hin));subst gc;subst hw24;refine x (Zj O)<|QC O<|xe ?_;exact⟨(),La,O⟩
  refine Qa<|ZA<|Kd<|QC O<|xe ?_;exact⟨(),La,O⟩
 rintro⟨⟩ g ki rfl;refine Zw rfl<|Qf<|Qr<|QB O O<|Qa<|xe ?_;exact⟨m+1,by show EP.length - (m+1)<EP.length - m;omega,La,h4,O⟩
theorem Xr {a b:Bool}(E:a=true)(G:b=true):(a && b)=true:=by rw[E,G];rfl
theorem Qbg {f:FuncId}{s:ChangeSpec}{c:OpenClaim}(E:(c.wf (OpenSpec.ofChange s))=true)(G:(laidOutB P)=true)(I:(mapsRowed P)=true)(J:(fn.params.all (P.readableRec ·))=true)(T:(namedTie P c.named s.vars)=true)(U:((c.stops == []))=true)(V:((P.stops == []))=true)(Y:((c.knobs == []))=true)(h9:((P.stopKnobs == []))=true)(ha:((c.inPlace == P.inPlace f))=true)(he:((c.unfollowed == P.unfollowed f))=true)(hf:((c.recurses == P.recurses f))=true)(hg:((c.named == P.varsNamed f))=true)(hh:((c.maps == (fn.params.toList++s.plain.varTypes P).any (P.mapsRec ·)))=true)(hj:((c.ifaces == (fn.params.toList++s.plain.varTypes P).any (P.ifacesRec ·)))=true)(hk:((c.mapsOut == P.mapsAmong fn.resultTypes.toList))=true)(hm:((c.loops == (fn.params.toList++s.plain.varTypes P).any (P.loopsFrom ·)))=true)(hn:((c.wideKeys == (fn.params.toList++s.plain.varTypes P++fn.resultTypes.toList).any (P.wideKeysFrom ·)))=true)(ho:(s.vars.all (P.varReadable ·))=true)(hp:(fn.resultTypes.all (λt=>P.readableRec t && decide (t<P.types.size)))=true)(hq:((c.ifacesOut == fn.resultTypes.toList.any (P.ifacesRec ·)))=true)(hr:((c.loopsOut == fn.resultTypes.toList.any (P.loopsFrom ·)))=true)(hs:((c.plainKeys == P.plainKeys))=true)(hu:(c.shortTexts.isNone)=true)(hv:(P.stopsHeard)=true)(hw:(P.mayEnter)=true)(hy:((c.lifted == P.liftsFinal))=true)(hz:((P.make == some c.make))=true)(h0:((c.kinds == (if c.domain.isEmpty then[]else fn.params.toList.map λt=>match P.underlying t with|some (.int k)=>some k|_=>none)))=true)(hA:((c.pinned == c.pinnedBy))=true)(hB:((c.veiled == (fn.params.toList++s.plain.varTypes P++fn.resultTypes.toList).any (P.veiledRec ·)))=true)(hC:(c.veiledFits P fn.params.toList (fn.params.toList++s.plain.varTypes P++fn.resultTypes.toList))=true):joinedFacts P f fn s c=true:=by
 unfold joinedFacts;exact(Xr (Xr (Xr (Xr (Xr (Xr (Xr (Xr (Xr (Xr (Xr (Xr (Xr (Xr (Xr (Xr (Xr (Xr (Xr (Xr (Xr (Xr (Xr (Xr (Xr (Xr (Xr (Xr (Xr (Xr (Xr E G) I) J) T) U) V) Y) h9) ha) he) hf) hg) hh) hj) hk) hm) hn) ho) hp) hq) hr) hs) hu) hv) hw) hy) hz) h0) hA) hB) hC)
theorem yv:laidOutB sV=true:=oc
theorem QjX:mapsRowed sV=true:=oc
theorem QjZ:sV.stopsHeard=true:=oc
theorem Qj0:sV.mayEnter=true:=oc
theorem QjY:(false == sV.liftsFinal)=true:=oc
theorem Qm3:(sV.make == some Make.cut)=true:=oc
theorem Qm7:(Rows.hierarchyKeepsRow.inPlace == sV.inPlace 7)=true:=oc
theorem Qm6:(Rows.hierarchyKeepsRow.unfollowed == sV.unfollowed 7)=true:=oc
theorem Qm5:(Rows.hierarchyKeepsRow.recurses == sV.recurses 7)=true:=oc
theorem Qm4:(Rows.hierarchyKeepsRow.named == sV.varsNamed 7)=true:=oc
theorem Qpv:Rows.hierarchyKeepsRow.wfByText (OpenSpec.ofChange Rows.hierarchyKeepsSpec)=true:=oc
theorem Qpy:Tryz.pinned.checked.prog.mainIs=some (true, "7e6c111e63cd6b879c1f82077465bee9620edb040a7287706e5c7dbd129b5c95".toList):=oc
theorem Qpx:sV.funcNamed "overseer/overseerlaw36.HierarchyKeeps" = some 7:=oc
theorem Qpz:false=sV.looks []:=oc
theorem Qpw:([38,86].all λu=>!sV.wantsStandIn u)=true:=oc
theorem QpA:false=Rows.hierarchyKeepsRow.goesBy Tryz.pinned.checked.prog:=oc
section
variable {H:Type}{enc:TypeId×O3->H}{W:O2}{b0:Nat}{sp:Nat->Bool}{held:Bool}
theorem QhP {v:O3}{d:DataW H}{ps:List MemPlace}{t tq:TypeId}{fs hg:Array Field}{E g1:Field}(G:P.underlying t=some (.struct fs))(hh:P.underlying tq=some (.struct hg))(hc:P.cellsOf t=153)(I:P.cellsOf tq=152)
  (J:(P.cellTypes P.depth t).map oV=some 153) (T:(P.cellTypes P.depth t).map (·.take 152)=P.cellTypes P.depth tq) (f0:fs[0]?=some E) (f1:fs[1]?=some g1) (t0:E.type=tq) (o0:E.offset=0) (o1:g1.offset=152) (c1:P.cellsOf g1.type=1) (k1:kT P .u8 5 g1.type=true)
  (U:Value.okWide P W .any base t v) (h:DataW.Trod enc P W b0 sp held t v d ps):∃(l:LV) (hb:Nat),v=.agg (l++[Value.int .u8 (hb:Int)]).toArray/\hb<256/\Value.okWide P W .any base tq (sT l)/\∃d' ps',DataW.Trod enc P W b0 sp held tq (sT l) d' ps':=by
 simp only[Value.okWide,G]at U;obtain⟨cs,rfl,V,ts,hj,hw,hk⟩:=U;rw[hc]at V;obtain⟨l⟩:=cs;have hl:l.length=153:=V;obtain⟨fuel,hf⟩:=h;obtain⟨xs,m,_,_,_,hm,hn⟩:=DataW.trod_struct G hf;have Y:∀(i:Nat) (f:Field),fs[i]?=some f->DataW.trod enc P W b0 sp held m f.type ((l.drop f.offset).take (P.cellsOf f.type))=xs[i]?:=hn;have hy:0<fs.size:=(LO.1 f0).1;obtain⟨z,hz⟩:∃z,xs[0]?=some z:=⟨xs[0]'oa,LD oa⟩;have e0:=Y 0 E f0;rw[t0,o0,I,NK,hz]at e0;obtain⟨c,ha⟩:∃c,l[152]?=some c:=⟨l[152]'oa,LD oa⟩;obtain⟨hb,rfl,ho⟩:=QdW (Vy hm Y f1 k1 oa oa ha);have hp:l=l.take 152++[Value.int .u8 (hb:Int)]:=by
  have h1:l.drop 152=[Value.int .u8 (hb:Int)]:=by
   apply Nr;intro i;rw[MN]
   match i with
   | 0=>exact ha
   | i+1=>rw[Mv oa];rfl
  rw[<-h1,MH]
 refine⟨l.take 152,hb,by show Value.agg l.toArray=_;rw[<-hp],ho,?_,z.1,z.2,m,e0⟩;rw[hj]at T J;have hq:ts.length=153:=Option.some.inj J;simp only[Value.okWide,hh];refine⟨(l.take 152).toArray,O,by rw[I];simp;omega,ts.take 152,T.symm,⟨1,by simp;omega⟩,λi v hv=>?_⟩;have hi:i<152:=by
  have:=(LO.1 hv).1;simp at this;omega
 have hr:l[i]?=some v:=by
  have h2:(l.take 152)[i]?=some v:=by simpa using hv
  rwa [LZ,OV hi]at h2
 obtain⟨u,he,hs⟩:=hk i v (ou hr);rw[hq,NL (show i<153 by omega)]at he;refine⟨u,?_,hs⟩;rw[show(ts.take 152).length=152 by simp;omega,NL hi,LZ,OV hi];exact he
end
theorem QrK {H:Type}{enc:TypeId×O3->H}{W:O2}{b0:Nat}{sp:Nat->Bool}{held:Bool}{v:O3}{d:DataW H}{ps:List MemPlace}(E:Value.okWide sV W .any base 38 v)(h:DataW.Trod enc sV W b0 sp held 38 v d ps):
  ∃(l:PwV) (hb:Nat),v=.agg (Z6 l++[Value.int .u8 (hb:Int)]).toArray/\hb<256/\PwA W l:=by
 obtain⟨cs,hb,rfl,G,I,U,V,ht⟩:=QhP (tq:=36) underlying38 underlying36 oc oc oc oc O O O O O oc oc E h;obtain⟨l,J,T⟩:=QrJ I ht;refine⟨l,hb,?_,G,T⟩;have:=OW OP (Value.agg.inj J);rw[show cs=Z6 l from this]
end Go.Lg
