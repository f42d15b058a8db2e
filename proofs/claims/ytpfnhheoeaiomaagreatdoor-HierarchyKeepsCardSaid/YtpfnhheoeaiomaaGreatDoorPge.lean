/- Merged out of 62 texts. -/
import Derived.Test.YtpfnhheoeaiomaaGreatDoorPgd
import Derived.ChangeSame
import Derived.Carry
import Derived.OpenShut
import Derived.RowKit
import Derived.ChangeSlices
import Derived.WideShapes
import Derived.ProofKit
import Derived.ChangeArms
import Derived.Lib.LaidTab
import Derived.Stop.LaidErr
import Derived.MakeChecks
set_option maxHeartbeats 40000000
set_option maxRecDepth 100000
set_option linter.all false
open Go Go.Lg
open Go.Value renaming int->oB
open Go.IntKind renaming i64->oC
open _root_.List renaming mem_singleton->oF,replicate->oG,not_mem_nil->oH,range->oJ,mem_cons->oK,length_singleton->oL,length_append->oM,getD->oN,range'->oO,length_cons->oQ,map_cons->oS,getElem?_eq_getElem->oU,length->oV,getElem?_append_left->Oa,all_cons->Ob,size_toArray->Od,append_assoc->Of,mem_range'_1->Oh,mem_filter->Oj,mem_map->Om,nil_append->Oo,getElem_replicate->Oq,getElem_cons_zero->Ot,length_map->Ow,filter_cons->OA,map_nil->OC,length_drop->OF,length_take->OG,take_length->OI
open _root_.Bool renaming and_eq_true->oI,true_and->OK
open _root_.Nat renaming zero_add->oX,add_mul->Ou,add_zero->Ox,le_refl->OE,pow_succ->OH,lt_or_ge->OM,succ_mul->OO,mod_lt->OQ
open _root_.Int renaming toNat_natCast->Oy
open _root_.Array renaming toList->OP
open Go renaming World->O2,Value->O3,Operand->O4,Program->O5
open Go.Proofs Go.Proofs.Tryz
open Go.Proofs.Tryz renaming prog->sV
variable {w w' W':O2}{L L' ds ns:LN}{n i t sz base T j N E m g id B kt ty G et gp U off:Nat}{a A:Qz}{l o u ul un hi r est q rs out:LI}{cs us cap capt:LV}{α β:Type}{y:O4}{va ve vm z vt vs vk vx v' vb vr vo vu vh vz:O3}{f:Fr}{aa:List Qz}{P:O5}{s:Int}{c:CL}{fn:Func}{lf:Lf}{es ed:List Ed}{K:xz}{d:xF}{pS:String}{af:xD}{gd:xt}{k':IntKind}{at_:Array Nat}{ops:xE}{qx:List XV}{ks:List KV}
namespace Go.Lg
theorem QmD {e bys:Nat}[h:Sl P t e sz bys z](he:∀u∈z.cells,u.oneCell'=true){s:O4}{b o c:Nat}(J:QK ↑w b T cs)(G:∃E,ev f s=.slice (some ⟨b,E,none⟩) m c/\(0<m->E=o/\o+m*sz<=cs.length))
  (hK:∀w' cs',O6 [b] w w'->QK ↑w' b T cs'->cs'.length=cs.length->cs'.take o=cs.take o->K (QP f d (.tuple #[])) w'):XO P ⟨d,.call ⟨.builtin .clear,#[s],#[t]⟩,ty,pS,af,gd⟩ f w K:=by
 obtain⟨E,G,hm⟩:=G;obtain⟨i,hi,hz,hh,_⟩:=Sl.info h;have hf:=h.zs;rcases Nat.eq_zero_or_pos m with rfl|hmp
 ·have U:(execOp (ev f) ⟨d,.call ⟨.builtin .clear,#[s],#[t]⟩,ty,pS,af,gd⟩).run P w=.ok (.value (.tuple #[])) w:=by
   simp[execOp,resolve,invoke,builtin,G,Builtin.clear_,run_underlying h.u]
  exact xv U (hK w cs (O6.Y _ _) J O O)
 obtain⟨rfl,hk⟩:=hm hmp;have hg:(Builtin.zeroCells z.cells m).toList.length=m*sz:=by simp[Builtin.zeroCells,hf]
 have V:=run_storeCells_at P b E T (Builtin.zeroCells z.cells m).toList 0 cs.toArray w J (by simp only[Od];omega) (λu Y=>by
  simp only[Builtin.zeroCells,Array.toList_map,Om]at Y;obtain⟨j,hj,rfl⟩:=Y;have hn:=h.pos;have ha:j % z.cells.size<z.cells.size:=OQ _ oa;rw[getElem!_pos z.cells _ ha];exact he _ (Array.getElem_mem ha))
 simp only[Ox]at V;obtain⟨I,rfl⟩:∃I,m=I+1:=⟨m - 1,oa⟩;have U:(execOp (ev f) ⟨d,.call ⟨.builtin .clear,#[s],#[t]⟩,ty,pS,af,gd⟩).run P w=.ok (.value (.tuple #[])) (w.setRow b ((cs.take E++(Builtin.zeroCells z.cells (I+1)).toList++cs.drop (E+(Builtin.zeroCells z.cells (I+1)).toList.length))).toArray):=by
  simp[execOp,resolve,invoke,builtin,G,Builtin.clear_,run_underlying h.u,zeroValue,typeInfo,hi,hz]at V ⊢;simp[V]
 refine xv U (hK _ _ (O6.setRow _ _ _) (JA J) ?_ ?_)
 ·simp only[oM,OG,OF,hg];omega
 rw[LA,List.take_append_of_le_length (by simp;omega),List.take_take,Nat.min_self]
theorem Vf {α:Type}{sz:Nat}{g:α->LV}(E:∀x,(g x).length=sz):∀(l:List α) (i:Nat) (u:α),i<l.length->(l.set i u).flatMap g=(l.flatMap g).take (i*sz)++g u++(l.flatMap g).drop (i*sz+sz)
 | [],i,u,h=>OX h od
 | a::l,0,u,h=>by
  rw[List.set_cons_zero,LM,LM,Nat.zero_mul,NF,Mz,LW,List.drop_append_of_le_length (by rw[E a];exact Lp _),Lu (by rw[E a];exact Lp _),Mz]
 | a::l,i+1,u,h=>by
  have G:(i+1)*sz=(g a).length+i*sz:=by rw[E a,OO];omega
  have I:(i+1)*sz+sz=(g a).length+(i*sz+sz):=oa
  have J:∀(F:LV) k,(g a++F).take ((g a).length+k)=g a++F.take k:=λF k=>by rw[NG,Lr (l:=g a) oa,M5]
  have T:∀(F:LV) k,(g a++F).drop ((g a).length+k)=F.drop k:=λF k=>by rw[List.drop_append,Lu (l:=g a) oa,Mz,M5]
  rw[List.set_cons_succ,LM,LM,I,G,J,T,Vf E l i u (ou h)];simp only[Of]
theorem Qhh [h1:Ag P t sz]{g:α->LV}(E:∀x,(g x).length=sz){x:O4}{e b cap:Nat}{l:List α}{u:α}(h:w.ownsRow base e sz (sL b l.length cap) l.length (l.flatMap g))(hx:ev f x=.pointer (some ⟨b,i*sz,none⟩))(J:ev f y=sT (g u))(hi:i<l.length)(T:ZL (g u))
  (hK:∀w',O6 [b] w w'->w'.ownsRow base e sz (sL b l.length cap) l.length ((l.set i u).flatMap g)->K (QP f d undef) w'):XO P ⟨d,.store t x y,ty,pS,af,gd⟩ f w K:=by
 rcases h.2 with⟨e1,_⟩|⟨g',cap',cur,e1,U,V,G,Y,ha,he⟩
 ·cases e1
 cases e1
 have hB:QK ↑w b e cur.toList:=V;have hj:l.length*sz<=cap*sz:=MT _ G;have hf:(i+1)*sz<=l.length*sz:=MT _ hi;rw[OO]at hf;have I:cur.toList.length=cap*sz:=by rw[Array.length_toList];exact ha
 refine Kj hB hx J (E u) oa T O λw' hs hh=>hK w' hs ⟨?_,.inr ⟨b,cap,_,O,U,hh,G,Y,?_,?_⟩⟩
 ·rw[Vf E l i u hi];simp only[oM,OG,OF,E u,h.1];omega
 ·simp only[Od,oM,OG,OF,E u,I];omega
 have hX:(cur.toList.take (i*sz)++g u).length=i*sz+sz:=by simp only[oM,OG,E u,I];omega
 rw[Vf E l i u hi,<-he];show(cur.toList.take (i*sz)++g u++cur.toList.drop (i*sz+sz)).take (l.length*sz)=_;rw[NG,Lr oa,hX,List.take_take,M2 oa,List.drop_take]
theorem QjF (p:Int×Int)(w:O2):QU sV 88 [sT (Zh p)] w λr w'=>r=.bool (decide (p.2=0))/\sW w w':=by
 refine Zm func88 ?_;refine Qc<|Zf (Zh p) λI J E T G=>Qb<|Qc<|Qs O G O O<|x (Zc O O)<|Qb<|Qj ⟨[_],La,O,E⟩
theorem Qm9 [Fu sV gp fn]{q:(Int×Int)->Bool}{v:O3}{l:xx}(h:Zu L ↑w v l.length 2 (l.flatMap Zh))
  (G:∀e∈l,∀(E:O2),sW w E->QU sV gp ([sT (Zh e)]++cap) E λr w'=>r=.bool (q e)/\sW E w'):
  QU sV 163 [v,.func (.func gp) #[] cap.toArray] w λr w'=>r=sS (fix q 0 l)/\sW w w' :=
 ixG ⟨_,O,func163⟩ X9 (ldA X9) h G
theorem Qg7 {e bys:Nat}[h:Sl P t e sz bys z]{x E:O4}{b cap:Nat}{k:IntKind}{lo:Nat}(hx:ev f x=sL b n cap)(hl:ev f E=.int k lo)(J:lo<=n):
  (execOp (ev f) ⟨d,.slice t x (some E) none none,ty,pS,af,gd⟩).run P w=.ok (.value (.slice (some ⟨b,if cap=lo then 0 else lo*sz,none⟩) (n - lo) (cap - lo))) w:=by
 obtain⟨i,hi',_,G,_⟩:=Sl.info h;have e2:(Instr.sliceBound (.int k lo) n .sliceB).run P w=.ok lo w:=YA J;by_cases I:cap=lo
 ·simp[execOp,hx,hl,Instr.sliceAt,Instr.slice,run_underlying h.u,Instr.sliceBounds,e2,sizeOf,typeInfo,hi',G,I]
 simp[execOp,hx,hl,Instr.sliceAt,Instr.slice,run_underlying h.u,Instr.sliceBounds,e2,sizeOf,typeInfo,hi',G,I,Addr.add];exact λe=>e.symm
theorem Qg8 {e bys:Nat}[h:Sl P t e sz bys z]{x E:O4}{b cap:Nat}{k:IntKind}{hi:Nat}(hx:ev f x=sL b n cap)(G:ev f E=.int k hi)(I:hi<=cap):
  (execOp (ev f) ⟨d,.slice t x none (some E) none,ty,pS,af,gd⟩).run P w=.ok (.value (sL b hi cap)) w:=by
 obtain⟨i,hi',_,J,_⟩:=Sl.info h;have e2:(Instr.sliceBound (.int k hi) cap .sliceAcap).run P w=.ok hi w:=YA I;simp[execOp,hx,G,Instr.sliceAt,Instr.slice,run_underlying h.u,Instr.sliceBounds,e2,sizeOf,typeInfo,hi',Addr.add]
theorem Qal {α:Type}(q:α->Bool):∀(l:List α) (i:Nat),(fix q i l=-1/\∀x∈l,q x=false)\/∃k,k<l.length/\fix q i l=((i+k:Nat):Int)/\l.take k=(l.take (k+1)).filter λx=>!q x
 | [],i=>.inl ⟨O,λx h=>by cases h⟩
 | a::l,i=>by
  rw[YC];by_cases h:q a=true
  ·rw[OV h];exact .inr ⟨0,od,od,by simp[h]⟩
  rw[OU h];have I:q a=false:=by simpa using h
  rcases Qal q l (i+1) with⟨E,G⟩|⟨k,E,G,J⟩
  ·exact .inl ⟨E,λx hx=>by rcases Lk.1 hx with rfl|hx;exact I;exact G x hx⟩
  exact .inr ⟨k+1,ou E,by rw[G];congr 1;omega,by rw[Ng,Ng,L4,OV (by simp[I]),<-J]⟩
theorem QfW {e b cap:Nat}(h:w.ownsRow base e sz (sL b n cap) n cs):n<=cap/\∃cur:LV,QK ↑w b e cur/\cur.length=cap*sz/\cur.take (n*sz)=cs:=by
 rcases h.2 with⟨e1,_⟩|⟨g',cap',cur,e1,T,E,G,U,I,J⟩
 ·cases e1
 cases e1
 exact⟨G,cur.toList,E,by rw[Array.length_toList];exact I,J⟩
theorem Qms {e b cap k:Nat}{E cur:LV}(h:w.ownsRow base e sz (sL b n cap) n cs)(T:k<=n)(G:QK ↑w' b e cur)(hl:cur.length=cap*sz)(ht:cur.take (k*sz)=E)(hc:E.length=k*sz):
  w'.ownsRow base e sz (sL b k cap) k E:=by
 rcases h.2 with⟨e1,_⟩|⟨g',cap',cur',e1,I,U,V,J,Y,ha⟩
 ·cases e1
 cases e1
 exact⟨hc,.inr ⟨b,cap,cur.toArray,O,I,G,oa,J,by rw[LY];exact hl,ht⟩⟩
theorem xH {α:Type}{sz:Nat}{g:α->LV}(E:∀x,(g x).length=sz):∀l:List α,(l.flatMap g).length=l.length*sz
 | []=>od
 | a::l=>by rw[LM,Lc,xH E l,E a,LP,OO];omega
theorem QfU:∀(l:xx) (k:Nat),(l.flatMap Zh).take (k*2)=(l.take k).flatMap Zh
 | [],k=>od
 | a::l,0=>od
 | a::l,k+1=>by
  rw[show(k+1)*2=k*2+2 by omega,LM,Ng,LM,<-QfU l k];rfl
abbrev nzT (l:xx):xx:=l.filter λp=>!decide (p.2=0)
theorem Qny {v:O3}{l:xx}(h:w.ownsRow base 193 2 v l.length (l.flatMap Zh))(hl:l.length<=1000):
  QU sV 87 [v,.func (.func 88) #[] #[]] w λr w'=>O6 (ob v) w w'/\w'.ownsRow base 193 2 r (nzT l).length ((nzT l).flatMap Zh):=by
 have hix:=Qm9 (cap:=[]) (q:=λp=>decide (p.2=0)) (QN (L:=[]) h oa od) (λe _ Y _=>QjF e Y);have hs:=Qal (λp:Int×Int=>decide (p.2=0)) l 0;rcases h.2 with⟨rfl,h0⟩|⟨g,cap,cur,rfl,hT,_⟩
 ·have hB:l=[]:=Ls h0;subst hB;refine Zm func87 ?_;refine Qc<|Qb<|Ql<|Qa<|Qw<|hix.S ?_;rintro r1 Y ⟨rfl,G⟩;refine Qb<|Qd<|Ql<|x (Zc O O)<|xe<|Zg O (λ_=>?_) (λh8=>OX O h8);refine Ql<|Qb<|Qj ⟨[nS],La,G,Qm h G⟩
 obtain⟨hU,_⟩:=QfW h;refine Zm func87 ?_;refine Qc<|Qb<|Ql<|Qa<|Qw<|hix.S ?_;rintro r1 Y ⟨rfl,G⟩;refine Qb<|Qd<|Ql<|x (Zc O O)<|xe<|Zg rfl (λha=>?_) (λha=>?_)
 ·have hC:nzT l=l:=NE.2 λp hp=>by
   rcases hs with⟨_,h2⟩|⟨k,_,h2,_⟩
   ·have:=h2 p hp;simpa using this
   have hV:fix (λp:Int×Int=>decide (p.2=0)) 0 l=-1:=ha;omega
  refine Ql<|Qb<|Qj ⟨[sL g l.length cap],La,G.any,?_⟩;rw[hC];exact Qm h G
 refine Exists.elim (hs.resolve_left λa=>ha a.1) λU hf=>?_;have hv:fix (λp:Int×Int=>decide (p.2=0)) 0 l=(U:Int):=by have:=hf.2.1;omega
 refine Qf<|Qd<|Ql<|x (Xt (a:=(U:Int)) (b:=1) (OW sS hv) O ⟨oa,oa⟩)<|Qb<|QX (α:=Nat×Nat×xx) [(5,7),(16,35)] (λz=>[(5,sS z.1),(6,sS z.2.1)])
  (λz w'=>z.1<z.2.1/\z.2.1<=l.length/\z.2.2.length=l.length/\z.2.2.take z.1=nzT (l.take z.2.1)/\z.2.2.drop z.2.1=l.drop z.2.1/\O6 [g] w w'/\w'.ownsRow base 193 2 (sL g z.2.2.length cap) z.2.2.length (z.2.2.flatMap Zh))
  (λz=>l.length - z.2.1) (U,U+1,l) ⟨OW sS hv,O,Z⟩
  ⟨Nat.lt_succ_self _,hf.1,O,hf.2.2,O,G.any,Qm h G⟩ ?_
 rintro⟨i,j,ts⟩ g2 w2 ⟨hD,hj,hg,I,hh,hw,J⟩;simp only[]at hD hj hg I hh J;refine Qd<|Ql<|Qa<|x (Ut O)<|ZW O O<|xe<|Zp rfl (λhk=>?_) (λhk=>?_)
 ·refine Qt ?_;have hE:j=l.length:=by have hF:¬(j:Int)<(l.length:Int):=hk;omega
  rw[hE,OI]at I;have hy:(nzT l).length=i:=by rw[<-I,LC];omega
  refine Exists.elim (QfW J).2 λhW hz=>?_;have hG:=hz.1;have hH:=hz.2.2;refine Ql<|Qa<|x (Qg7 (lo:=i) O O oa)<|Qo<|QmD (m:=l.length - i) (o:=i*2) (λu hu=>by simp[Value.cells]at hu;rw[hu];rfl) hG ⟨_,O,λh=>⟨by rw[OU oa],oa⟩⟩ λw3 hX hm hI hY hJ=>xe ?_;refine Ql<|Qa<|x (Qg8 (hi:=i) O O oa)<|Qb<|Qj ⟨[sL g i cap],La,hw.V hm,?_⟩;rw[hy];refine Qms J oa hI oa ?_ ?_
  ·rw[hJ,<-I,<-QfU,<-hH,List.take_take,M2 oa]
  rw[xH X9,hy]
 have E:j<l.length:=by have hF:(j:Int)<(l.length:Int):=hk;omega
 have hn:j<ts.length:=oa
 have hK:ts[j]'hn=l[j]'E:=by
  have V:=OW (λz=>z[0]?) hh;simp only[List.getElem?_drop,Ox,oU hn,oU E]at V;exact Option.some.inj V
 have h3:ts.drop (j+1)=l.drop (j+1):=by
  have V:=OW (List.drop 1) hh
  rwa [List.drop_drop,List.drop_drop]at V
 have T:nzT (l.take (j+1))=nzT (l.take j)++(if(l[j]'E).2=0 then[]else[l[j]'E]):=by
  unfold nzT;rw[Ll E,LT];by_cases h0:(l[j]'E).2=0 <;> simp[h0]
 have hA:=QN (L:=[]) J oa od;rw[show sL g ts.length cap=sL g l.length cap from by rw[hg]]at hA;refine Qf<|Qd<|Qn<|Ql<|Qa<|O9 X9 hA O O hn λhZ ho=>?_;rw[hK]at ho;refine Zd (l[j]'E) λe he=>?_;rw[he]at ho T;refine x (QF ho O O)<|QT [sS 0,sS 0] λb7 w3 hm hL hM=>Q5 (Zh e) hM ov λw4 hN h4=>xe ?_;have hO:sW w2 w4:=hm.Q hN hL;refine Ql<|Q3 h4 O O<|Qo<|xc (first:=[]) (capt:=[]) O<|(QjF e w4).S ?_;rintro r5 w5 ⟨rfl,h5⟩;refine x (Zj O)<|xe ?_;have h6:=hO.D h5;have h7:=Qm J h6;have h9:O6 [g] w w5:=hw.D h6.any;refine Q6 rfl (λhq=>?_) (λhq=>?_)
 ·have hr:¬e.2=0:=by simpa using hq
  rw[OU hr]at T;have hP:w5.ownsRow base 193 2 (sL g ts.length cap) ts.length (ts.flatMap Zh):=h7;refine Ql<|Qa<|Q3 (h4.I h5) O O<|x (QE (i:=i) O O oa)<|Qo<|Qhh (u:=e) X9 hP (OW (λn=>Value.pointer (some ⟨g,n,none⟩)) (LW (i*2))) O oa ov λw6 hQ hR =>
   xe ?_
  refine Qr<|Qa<|QB O O<|Qb<|Qr<|Qa<|QB O O<|Qb ?_;have hS:(ts.set i e).length=ts.length:=M0;refine⟨(i+1,j+1,ts.set i e),oe,ov,oe,E,oe,?_,?_,h9.V hQ,?_⟩
  ·simp only[];rw[T,<-I,List.set_eq_take_append_cons_drop,OV oa,NG,Lr (by rw[LC];omega),LC,M2 oa,M5,Ng,NF]
  ·simp only[];rw[List.drop_set_of_lt oa,h3]
  simp only[];rw[hS];exact hR
 have hr:e.2=0:=by simpa using hq
 rw[OV hr,LH]at T;refine Qf<|Qr<|Qa<|QB O O<|Qb<|⟨(i,j+1,ts),oe,ov,oe,E,hg,by rw[T];exact I,h3,h9,h7⟩
instance ayAz1:Ay sV 25 3 24 1:=⟨oc,oc⟩
instance ayAz2:Ay sV 30 2 24 1:=⟨oc,oc⟩
instance ayAz3:Ay sV 31 2 28 27:=⟨oc,oc⟩
instance ayAz4:Ay sV 34 3 33 1:=⟨oc,oc⟩
abbrev X4V:={r:LN // r.length=4/\∀n∈r,n<256}
abbrev Xm (r:X4V):LV:=bys r.1
theorem zP (r:X4V):(Xm r).length=4:=by show(bys r.1).length=4;unfold bys;rw[Ln,r.2.1]
structure PlV where
 ns:LN
 vx:O3
 xs:List X4V
 f0:Int
 f1:Int
 f2:Int
 bd:Int
abbrev Xd (l:PlV):LV:=bys l.ns++[l.vx,.int .i8 l.f0,.int .i8 l.f1,.int .i8 l.f2,.int .i8 l.bd]
abbrev i8R (n:Int):Prop:=-128<=n/\n<=127
structure PlA (L:LN)(H:xC)(l:PlV):Prop where
 n:l.ns.length=147
 b:∀n∈l.ns,n<256
 x:Zu L H l.vx l.xs.length 4 (l.xs.flatMap Xm)
 f0:i8R l.f0
 f1:i8R l.f1
 f2:i8R l.f2
 bd:i8R l.bd
theorem QaY {l:PlV}(h:l.ns.length=147):(Xd l).length=152:=by rw[Xd,Lc,Xz,h];rfl
theorem Qi6 {l:PlV}(h:l.ns.length=147)(j:Nat):(Xd l)[147+j]?=([l.vx,.int .i8 l.f0,.int .i8 l.f1,.int .i8 l.f2,.int .i8 l.bd]:LV)[j]?:=by
 rw[Xd,Mu (by rw[Xz];omega),Xz,h,M5]
theorem QfQ {l:PlV}(h:l.ns.length=147)(E:j<147):(Xd l)[j]?=some (.int .u8 ((l.ns.getD j 0:Nat):Int)):=by
 rw[Xd,LX (by rw[Xz];omega)];exact qG oa
theorem Qeb {l:PlV}{o:Nat}(j:Nat)(u:O3)(h:(bys ((l.ns.drop o).take m))[j]?=some u):(Xd l)[o+j]?=some u:=by
 have E:=QnL (ns:=l.ns) (o:=o) (n:=m) j u h;have G:=(Mm.1 E).1;rw[Xd,LX G];exact E
theorem QgC {sz:LI}:∀(ls:xx) (pr:Option Int),(∀b,pr=some b->∀p∈ls,b<p.1)->ls.Pairwise (λp q=>p.1<q.1)->(∀p∈ls,0<=p.1/\p.1<(sz.length:Int)/\0<=p.2/\p.2<O7 sz p.1.toNat)->XC sz pr ls=0
 | [],_,_,_,_=>rfl
 | p::ls,pr,G,I,hb=>by
  obtain⟨T,U,V,Y⟩:=hb p Lh;obtain⟨k1,k2⟩:=L5.1 I;have hl:yq pr p.1=false:=by
   cases pr with
   | none=>rfl
   | some b=>have:=G b O p Lh;unfold yq;exact O0 oa
  rw[XC,OU oa,OU (by rw[hl];decide),OU oa];exact QgC ls (some p.1) (λb J q E=>by cases J;exact k1 q E) k2 (λq E=>hb q (Lj _ E))
theorem QgB {sz:LI}:∀(ls:xx) (pr:Option Int),(∀b,pr=some b->∀p∈ls,b<p.1)->ls.Pairwise (λp q=>p.1<q.1)->(∀p∈ls,0<=p.1/\p.1<(sz.length:Int)/\p.2≠0/\-65536<=p.2/\p.2<=65536)->JZ sz pr ls=0
 | [],_,_,_,_=>rfl
 | p::ls,pr,G,I,hb=>by
  obtain⟨V,Y,J,h4,h5⟩:=hb p Lh;obtain⟨k1,k2⟩:=L5.1 I;have hl:yq pr p.1=false:=by
   cases pr with
   | none=>rfl
   | some b=>have:=G b O p Lh;unfold yq;exact O0 oa
  have T:grt p.2=false:=by unfold grt;rw[O0 oa,O0 oa];rfl
  rw[JZ,OU oa,OU (by rw[hl];decide),OU (by rw[T];simpa using J)];exact QgB ls (some p.1) (λb U q E=>by cases U;exact k1 q E) k2 (λq E=>hb q (Lj _ E))
theorem Qfs (a:Int){b:Int}(h:0<b):-b<a.tmod b/\a.tmod b<b:=⟨Int.lt_tmod_of_pos a h,Int.tmod_lt_of_pos a h⟩
structure ItG (c:Nat)(k:Nat)(q:IV):Prop where
 nm:q.nm=⟨#[UInt8.ofNat c]⟩++⟨#[UInt8.ofNat (48+k)]⟩
 g:GdA q.p.a
 e:∀e∈q.p.a.al,e<5
theorem QjA (k:Nat)(h:k<3):Xp (nmI 99 k)=true/\Xp (nmI 114 k)=true/\Xp (nmI 101 k)=true:=by
 match k,h with
 | 0,_=>decide
 | 1,_=>decide
 | 2,_=>decide
theorem Qhj:∀n,n<4->∀m,m<3->((oJ n).map (nmI 99)++(oJ m).map (nmI 114)).Nodup:=og
theorem Qad {c:Nat}{co:List IV}(h:∀k (E:k<co.length),ItG c k (co[k]'E)):(co.map IV.it).map (·.nm)=(oJ co.length).map (nmI c):=by
 apply L3
 ·simp
 intro i G I;simp only[List.getElem_map,List.getElem_range];exact(h i (ou G)).nm
theorem QpX {co rq:List IV}{al:LI}(h1:1<=co.length)(h3:co.length<=3)(J:∀k (E:k<co.length),ItG 99 k (co[k]'E))(V:∀e,e∈al↔∃q∈co,e∈q.p.a.al)(hh:rq.length<=2)
  (T:∀k (E:k<rq.length),ItG 114 k (rq[k]'E)/\∀e∈(rq[k]'E).p.a.al,e∈al) (hj:qx.length<=2) (Y:(qx.map (·.nm)).Nodup) (ha:∀q∈qx,(∃k,k<2/\q.nm=⟨#[101]⟩++⟨#[UInt8.ofNat (48+k)]⟩)/\q.ls≠[]/\q.ls.length<=3/\XC (co.map (·.p.a.st)) none q.ls=0)
  (hm:ks.length<=1) (hf:∀q∈ks,q.nm=⟨#[107]⟩/\XD (co.map (·.p.a.st)) q.k=0):D25 ⟨JI ns 5,co.map IV.it,rq.map IV.it,qx.map XV.x,ks.map KV.k⟩:=by
 have U:szs (co.map IV.it)=co.map (·.p.a.st):=by unfold szs;rw[MB];rfl
 refine⟨⟨VA ns 5,Qkz ns⟩,by simp only[Ow];omega,by simp only[Ow];omega,by simp only[Ow];omega,λx hx=>?_,λx hx=>?_,?_,by simp only[Ow];omega,λx hx=>?_,?_,by simp only[Ow];omega,λx hx=>?_⟩
 ·obtain⟨q,G,rfl⟩:=Lx.1 hx;obtain⟨k,E,rfl⟩:=LR G;have g:=J k E;exact⟨by show Xp (co[k]'E).nm=true;rw[g.nm];exact(QjA k oa).1,g.g,g.e⟩
 ·obtain⟨q,G,rfl⟩:=Lx.1 hx;obtain⟨k,E,rfl⟩:=LR G;have g:=T k E;refine⟨by show Xp (rq[k]'E).nm=true;rw[g.1.nm];exact(QjA k oa).2.1,g.1.g,λe he=>?_⟩;obtain⟨y,hy,hg⟩:=(V e).1 (g.2 e he);exact⟨y.it,LL hy,hg⟩
 ·show((co.map IV.it).map (·.nm)++(rq.map IV.it).map (·.nm)).Nodup;rw[Qad J,Qad (λk E=>(T k E).1)];exact Qhj _ oa _ oa
 ·obtain⟨q,G,rfl⟩:=Lx.1 hx;obtain⟨⟨k,k1,k2⟩,I,_,g4⟩:=ha q G;refine⟨by show Xp q.nm=true;rw[k2];exact(QjA k oa).2.2,I,?_⟩;show XC (szs (co.map IV.it)) none q.ls=0;rw[U];exact g4
 ·show((qx.map XV.x).map (·.nm)).Nodup;rw[MB];exact Y
 obtain⟨q,G,rfl⟩:=Lx.1 hx;obtain⟨g1,I⟩:=hf q G;refine⟨by show Xp q.nm=true;rw[g1];decide,?_⟩;show XD (szs (co.map IV.it)) q.k=0;rw[U];exact I
def flk (l:PlV)(i:Nat):Int:=[l.f0,l.f1,l.f2].getD i 0
theorem Qq2 {l:PlV}(h:l.ns.length=147)(hi:i<3):(Xd l)[0+148+i*1]?=some (.int .i8 (flk l i)):=by
 rw[show 0+148+i*1=147+(1+i) by omega,Qi6 h]
 match i,hi with
 | 0,_=>rfl
 | 1,_=>rfl
 | 2,_=>rfl
theorem Qq1 {H:xC}{l:PlV}(h:PlA L H l)(i:Nat)(hi:i<3):i8R (flk l i):=by
 match i,hi with
 | 0,_=>exact h.f0
 | 1,_=>exact h.f1
 | 2,_=>exact h.f2
theorem Qky (ns:LN):∀e∈JI ns 5,jp e.nm:=λe E=>by
 unfold JI at E;obtain⟨k,_,rfl⟩:=Lx.1 E;unfold KH;split <;> exact Js od
theorem Qhp {l:PlV}(h:PlA [] ↑w l):
  QU sV 34 [sT (Xd l)] w λr w'=>sW w w'/\∃k,Qn6 ↑w ↑w' r k/\D25 k:=by
 refine Zd (1+l.ns.getD 5 0 % 3) λn hn=>?_;have hn3:1<=n/\n<=3:=oa
 refine Zm func34 ?_;refine Qc<|Zf (Xd l) λb1 w1 hs1 hb1 po=>QT K9 λb2 w2 k6 hb2 pp=>xe ?_;have pt:=hs1.D k6;have hl1:=po.lt;have hl2:=pp.lt;have g0:=po.I k6;have pu:((l.ns.drop 0).take 5).length=5:=by rw[LC,Mo,h.n];rfl
 have hflt:∀n∈(l.ns.drop 0).take 5,n<256:=λn hn=>h.b n (MU (L2 hn));refine Qc<|Q9 O<|x (qi (us:=bys ((l.ns.drop 0).take 5)) g0 O (by rw[Xz];exact pu) (λj u hu=>Qeb (l:=l) (o:=0) (m:=5) j u hu))<|Qw<|(QdG (ns:=(l.ns.drop 0).take 5) pu hflt).S ?_;rintro ve w3 ⟨pw,gq⟩;refine Zd (JI ((l.ns.drop 0).take 5) 5) λev hev=>?_;rw[hev]at gq;refine x (QD ⟨xN gq,Z⟩)<|QT K9 λG w4 hs4 hb3 hB3=>Q5 [ve,Zq,Zq,Zq,Zq] hB3 ⟨QA gq,O,O,O,O,Z⟩ λw5 hs5 pz =>
  xe ?_
 have p0:sW w3 w5:=hs4.Q hs5 hb3;refine Qc<|QT [Zq] λb4 w6 p4 hb4 p5=>xe ?_;have p6:=p0.D p4;have g2:=pw.D p6;have V:=k6.D g2;have hz3:=pw.size;have hz35:=p0.size;have hl3:=pz.lt;have hl4:=p5.lt;have k9:=g0.I g2;have hB36:=pz.I p4;have q5:=QfQ (l:=l) h.n (j:=5) oa;have q5l:=Jk h.b 5;refine Zd (l.ns.getD 5 0) λcn hcn=>?_;rw[hcn]at q5 q5l hn;refine Qc<|Qs O k9 O q5<|x (qO (a:=(cn:Int)) (b:=3) O O oa oa)<|x (Yc (k':=.i64) O ⟨oa,oa⟩)<|QB O O<|Qb<|QW (α:=O3×List IV×O3×LI) [(6,7),(26,55)] (λ_=>[]) (λz w'=>O6 [G,b4] w6 w'/\QK ↑w' G 46 [ve,z.1,Zq,Zq,Zq]/\QK ↑w' b4 47 [z.2.2.1]/\zm ↑w6 w' z.1 z.2.2.1 z.2.1 z.2.2.2/\z.2.1.length=n/\(∀k (T:k<z.2.1.length),ItG 99 k (z.2.1[k]'T))/\z.2.2.2.length<=5*n/\∀e,e∈z.2.2.2↔∃q∈z.2.1,e∈q.p.a.al) oh ?_ ?_
 ·refine Ql<|Qa<|xe<|QX (α:=Nat×O3×List IV×O3×LI) [(6,7),(27,55)] (λz=>[(27,sS z.1)])
   (λz w'=>z.1<=n/\O6 [G,b4] w6 w'/\QK ↑w' G 46 [ve,z.2.1,Zq,Zq,Zq]/\QK ↑w' b4 47 [z.2.2.2.1]/\zm ↑w6 w' z.2.1 z.2.2.2.1 z.2.2.1 z.2.2.2.2/\z.2.2.1.length=z.1/\(∀k (T:k<z.2.2.1.length),ItG 99 k (z.2.2.1[k]'T))/\z.2.2.2.2.length<=5*z.1/\∀e,e∈z.2.2.2.2↔∃q∈z.2.2.1,e∈q.p.a.al)
   (λz=>n - z.1) (0,Zq,[],Zq,[]) La
   ⟨Lo _,O6.Y _ _,hB36,p5,zm.nil,O,λk T=>OX T od,od,od⟩ ?_
  rintro⟨i,vc,co,va,al⟩ g7 w7 ⟨hi,hE,gs,ge,hw,g3,hW,ma,gt⟩;simp only[]at hi gs ge hw g3 hW ma gt;refine Zk O O (λmc=>?_) (λmc=>?_)
  ·refine Qt ?_;have mf:i=n:=by have h29:¬(i:Int)<1+(cn:Int) % 3:=mc;omega
   exact⟨(vc,co,va,al),Z,hE,gs,ge,hw,oe,hW,oe,gt⟩
  have h6:i<n:=by have h29:(i:Int)<1+(cn:Int) % 3:=mc;omega
  have mg:b1∉[G,b4]:=by simp only[oK,oH,or_false];omega
  have hX:=k9.J hE mg;have qs:=QfQ (l:=l) h.n (j:=0+6+i*1) oa;have qsl:=Jk h.b (0+6+i*1);refine Zd (l.ns.getD (0+6+i*1) 0) λm hm=>?_;rw[hm]at qs qsl;have mh:=Ul m 5;have g4:=Qcj m 5;have gg:=QfF m 5;refine Zd (setK m 5) λsk g5=>?_;rw[g5]at mh g4 gg;refine Qf<|Qd<|Qn<|Ql<|Qb<|Ql<|Q9 O<|x (ZV (i:=i) O O oa)<|ZD hX O qs<|Qw<|(Um m qsl _).S ?_;rintro vs w8 ⟨hh,kq⟩;rw[g5]at kq;refine Qb ?_;have p7:=hh.size;have hH:=hw.I hh;have hI8:=Qh.ints (L:=[]) hH.a oa od;have hJ8:=Qh.ints (L:=[]) kq oa od;refine Qc<|ZD (ge.I hh) O O<|Qa<|Qw<|(QdV hI8 hJ8 oa).S ?_;rintro p8 w9 ⟨Y,p9,hal2,qj,gh⟩;have kr:=hh.D Y;have mj:=Y.size;have hz7:=hE.size;refine Qo<|Qv (ge.I kr) O O od (QA gh) λhj hy hB410=>xe ?_;have hl36:G<w6.heap.size:=oa
  have h8:zm ↑w6 w9 vc p8 co p9:=hH.setA (Za gh oa) Y.any (λb hb=>.inr (Qi gh b hb).1);have hz:=h8.low hy (λb hb=>by rw[Lb.1 hb];omega);have g6:QK ↑hj G 46 [ve,vc,Zq,Zq,Zq]:=(gs.I kr).J hy ol;have mo:=(hX.I kr).J hy ol;have mq:Qu [] ↑hj vs sk:=Qh.ints (L:=[]) (Qg (Qm kq Y) hy (λb hb hm=>by have:=(Qi kq b hb).1;rw[Lb.1 hm]at this;omega)) oa od;have hz10:=hy.size;have n3v:G∉ob vc:=QJ hz.c oa;have n1v:b1∉ob vc:=QJ hz.c oa;have gi:=Qkc (ns:=l.ns) (o:=0+9+i*27) (oo h.n);have ka:=Qok (o:=0+9+i*27) h.b;have kb:=λj u=>Qeb (l:=l) (o:=0+9+i*27) (m:=27) j u;refine Zd (grN l.ns (0+9+i*27)) λgr hB=>?_;have ms:∀j u,(bys gr)[j]?=some u->(Xd l)[0+9+i*27+j]?=some u:=by rw[<-hB];exact kb
  rw[hB]at gi ka;have kc:sW hj { hj with drawn:=hj.drawn+1 }:=O6.X _ _
  have ke:(48:Int)+(i:Int)=((48+i:Nat):Int):=oa
  refine Zd (⟨#[99]⟩++⟨#[UInt8.ofNat (48+i)]⟩:ByteArray) λnm hI=>?_;refine ZK (ob vc) (Xj 0 18 [12,14,15,17])<|p (QH O)<|pq (λ_ hc=>Qk (g6.J hc n3v) O O)<|p Qy<|p (λ_=>Xt O O ⟨oa,oa⟩)<|p (λ_=>Yc (k':=.i32) O ⟨oa,oa⟩)<|p (λ_=>qe (n:=48+i) (OW (Value.int .i32) ke) oa) <|
   p (λ_=>YL (a:=⟨#[99]⟩) (b:=⟨#[UInt8.ofNat (48+i)]⟩) O O (by show 1+1<=1000000000;omega))<|p Qy<|p Qy<|p (QH O)<|p (λ_=>ZV (i:=i) O O oa)<|pq (λ_ hc=>qi (us:=bys gr) (mo.J hc n1v) O (by rw[Xz];exact gi) ms)<|?_
  refine pk<|xg<|(yC (mq.I kc) (λe U=>oo (gg e U)) g4 gi ka).S ?_;rintro r11 hv ⟨gj,a,⟨xa,xm,h7,rfl,hA⟩,hG,gu⟩;have hJ:=kc.D gj;have ql:=hJ.size;have gk:=hA [] od;refine⟨hJ.any,?_⟩;refine p (λ_=>ZB [(0,[.string nm]),(1,[xa,sS a.st,xm,h7])] ⟨OW (λb=>(Value.string b).cells) hI,O,O,O,Z⟩)<|pk<|Q8 [Zn ⟨nm,⟨xa,xm,h7,a⟩⟩] λb14 gl hg hb14 mt=>⟨(hJ.D hg).any,?_⟩;have h0:=hJ.D hg;have kf:=hz.I h0;refine pk<|Q2 (news:=Zn ⟨nm,⟨xa,xm,h7,a⟩⟩) (L:=[]) kf.c O O O (mt.at od) (Qbj gk.al.one gk.mr.one gk.ed.one) oa (oo h0.size) λmu hK kg J mv=>⟨(h0.any (L:=ob vc)).V J,?_⟩;have mw:=kf.setC (yw (q:=⟨nm,⟨xa,xm,h7,a⟩⟩) (N:=↑hj) (λL hL=>(hA L hL).I hg) oa hz.avlt) kg J mv;refine p (QH O)<|pkk<|Qv ((g6.I h0).J J n3v) O O od (QA kg) λhM V hY=>pe ?_;have hge:=Qi hz.c;have n4v:b4∉ob vc:=QJ hz.c oa;have hB416:=((hB410.I h0).J J n4v).J V ol;have hs710:O6 [b4] w7 hj:=kr.any.V hy;have hs615:O6 [G,b4] w6 hK:=((hE.V (hs710.S od)).D h0.any).O J (λb hb=>.inr (hge b hb).1);refine Qr<|QB O O<|Qa<|xe<|⟨(i+1,mu,co++[⟨nm,⟨xa,xm,h7,a⟩⟩],p8,p9),oe,La,h6,hs615.V (V.S od),hY,hB416,mw.low V (λb hb=>by rw[List.mem_singleton.1 hb];omega),by simp only[oM,oL];omega,λk T=>?_,oe,λe=>?_⟩
  ·simp only[]at T ⊢;by_cases ho:k<co.length
   ·rw[Ms ho];exact hW k ho
   have kh:k=i:=by simp only[oM,oL]at T;omega
   subst kh;rw[Ni oa];simp only[g3,Nat.sub_self,Ot];exact⟨hI.symm,hG,λe U=>by rw[gu]at U;exact(gg e U).2⟩
  simp only[]at qj ⊢;rw[qj,gt];constructor
  ·rintro(⟨q,E,U⟩|U)
   ·exact⟨q,LG _ E,U⟩
   exact⟨_,MS _ (Lb.2 O),by rw[gu];exact U⟩
  rintro⟨q,E,U⟩;rcases Le.1 E with E|E
  ·exact .inl ⟨q,E,U⟩
  rw[Lb.1 E,gu]at U;exact .inr U
 rintro⟨vc,co,va,al⟩ g7 w7 ⟨hE,gs,ge,hw,g3,hW,ma,gt⟩;simp only[]at gs ge hw g3 hW ma gt;have hz7:=hE.size;have mg:b1∉[G,b4]:=by simp only[oK,oH,or_false];omega
 have hX:=k9.J hE mg;have my:b1∉[G]:=ol
 have n43:b4∉[G]:=ol
 have q4:=QfQ (l:=l) h.n (j:=90) oa;have q90l:=Jk h.b 90;refine Zd (l.ns.getD 90 0) λrn hrn=>?_;rw[hrn]at q4 q90l;refine Zd (rn % 3) λr hr=>?_;refine QW (α:=O3×List IV) [(8,9),(56,87)] (λ_=>[]) (λz w'=>O6 [G] w7 w'/\QK ↑w' G 46 [ve,vc,z.1,Zq,Zq]/\zm ↑w7 w' z.1 Zq z.2 []/\z.2.length=r/\∀k (T:k<z.2.length),ItG 114 k (z.2[k]'T)/\∀e∈(z.2[k]'T).p.a.al,e∈al) oh ?_ ?_
 ·refine Qc<|Qs O hX O q4<|x (qO (a:=(rn:Int)) (b:=3) O O oa oa)<|x (Yc (k':=.i64) O ⟨oa,oa⟩)<|Qa<|xe<|QX (α:=Nat×O3×List IV) [(8,9),(60,87)] (λz=>[(60,sS z.1)])
   (λz w'=>z.1<=r/\O6 [G] w7 w'/\QK ↑w' G 46 [ve,vc,z.2.1,Zq,Zq]/\zm ↑w7 w' z.2.1 Zq z.2.2 []/\z.2.2.length=z.1/\∀k (T:k<z.2.2.length),ItG 114 k (z.2.2[k]'T)/\∀e∈(z.2.2[k]'T).p.a.al,e∈al)
   (λz=>r - z.1) (0,Zq,[]) La
   ⟨Lo _,O6.Y _ _,gs,zm.nil,O,λk T=>OX T od⟩ ?_
  rintro⟨i,vr,rq⟩ g8 w8 ⟨hi,hh,gv,hH,kt,hB⟩;simp only[]at hi gv hH kt hB;refine Zk O O (λmz=>?_) (λmz=>?_)
  ·refine Qt ?_;have mf:i=r:=by have h62:¬(i:Int)<(rn:Int) % 3:=mz;omega
   exact⟨(vr,rq),Z,hh,gv,hH,oe,hB⟩
  have h6:i<r:=by have h62:(i:Int)<(rn:Int) % 3:=mz;omega
  have ki:=hX.J hh my;have hB48:=ge.J hh n43;have qs:=QfQ (l:=l) h.n (j:=0+91+i*1) oa;have qsl:=Jk h.b (0+91+i*1);refine Zd (l.ns.getD (0+91+i*1) 0) λm hm=>?_;rw[hm]at qs qsl;have mh:=Ul m 5;have g4:=Qcj m 5;have gg:=QfF m 5;refine Zd (setK m 5) λsk g5=>?_;rw[g5]at mh g4 gg;refine Qf<|Qd<|Qn<|Ql<|Qb<|Ql<|Q9 O<|x (ZV (i:=i) O O oa)<|ZD ki O qs<|Qw<|(Um m qsl _).S ?_;rintro vs w9 ⟨Y,gh⟩;rw[g5]at gh;have p7:=hh.size;have mj:=Y.size;have hva8:=Qm (Qg hw.a hh (λb hb hm=>by rw[Lb.1 hm]at hb;exact QJ hw.a oa hb)) Y;have kb:=Qi gh;have hlv:=QV hw.a;have hD:=Qnz gh oa (hB48.I Y) (λhm=>oo (kb b4 hm).1) (QN hva8 oa (λb hb hbs=>oq (kb b hbs).1 (hlv b hb)));refine x (Zl (l:=[]) (l':=[_]))<|Qw<|hD.S ?_;rintro vd hj ⟨hy,j1⟩;have j2:Ys (sk.filter λx=>decide (x∈al)):=List.Pairwise.filter _ g4;have hFL:=LK (λx=>decide (x∈al)) sk;have ku:∀e∈sk.filter λx=>decide (x∈al),e∈sk/\e∈al:=λe U=>by
   have:=LJ.1 U;exact⟨this.1,OZ this.2⟩
  refine Zd (sk.filter λx=>decide (x∈al)) λF hF=>?_;rw[hF]at j1 j2 hFL ku;refine Qb ?_;have kj:sW w8 hj:=Y.O hy (λb hb=>.inr (kb b hb).1);have hz10:=kj.size;have hz:=hH.I kj;have g6:=gv.I kj;have mo:=ki.I kj;have mq:Qu [] ↑hj vd F:=Qh.ints (L:=[]) j1 oa od;have n3v:G∉ob vr:=QJ hz.c oa;have n1v:b1∉ob vr:=QJ hz.c oa;have gi:=Qkc (ns:=l.ns) (o:=0+93+i*27) (oo h.n);have ka:=Qok (o:=0+93+i*27) h.b;have ms:=λj u=>Qeb (l:=l) (o:=0+93+i*27) (m:=27) j u;refine Zd (grN l.ns (0+93+i*27)) λgr j3=>?_;have hgs2:∀j u,(bys gr)[j]?=some u->(Xd l)[0+93+i*27+j]?=some u:=by rw[<-j3];exact ms
  rw[j3]at gi ka;have kc:sW hj { hj with drawn:=hj.drawn+1 }:=O6.X _ _
  have ke:(48:Int)+(i:Int)=((48+i:Nat):Int):=oa
  refine Zd (⟨#[114]⟩++⟨#[UInt8.ofNat (48+i)]⟩:ByteArray) λnm hI=>?_;refine ZK (ob vr) (Xj 0 18 [12,14,15,17])<|p (QH O)<|pq (λ_ hc=>Qk (g6.J hc n3v) O O)<|p Qy<|p (λ_=>Xt O O ⟨oa,oa⟩)<|p (λ_=>Yc (k':=.i32) O ⟨oa,oa⟩)<|p (λ_=>qe (n:=48+i) (OW (Value.int .i32) ke) oa) <|
   p (λ_=>YL (a:=⟨#[114]⟩) (b:=⟨#[UInt8.ofNat (48+i)]⟩) O O (by show 1+1<=1000000000;omega))<|p Qy<|p Qy<|p (QH O)<|p (λ_=>ZV (i:=i) O O oa)<|pq (λ_ hc=>qi (us:=bys gr) (mo.J hc n1v) O (by rw[Xz];exact gi) hgs2)<|?_
  refine pk<|xg<|(yC (mq.I kc) (λe U=>oo (gg e (ku e U).1)) j2 gi ka).S ?_;rintro r11 hv ⟨gj,a,⟨xa,xm,h7,rfl,hA⟩,hG,gu⟩;have hJ:=kc.D gj;have ql:=hJ.size;have gk:=hA [] od;refine⟨hJ.any,?_⟩;refine p (λ_=>ZB [(0,[.string nm]),(1,[xa,sS a.st,xm,h7])] ⟨OW (λb=>(Value.string b).cells) hI,O,O,O,Z⟩)<|pk<|Q8 [Zn ⟨nm,⟨xa,xm,h7,a⟩⟩] λb14 gl hg hb14 mt=>⟨(hJ.D hg).any,?_⟩;have h0:=hJ.D hg;have kf:=hz.I h0;refine pk<|Q2 (news:=Zn ⟨nm,⟨xa,xm,h7,a⟩⟩) (L:=[]) kf.c O O O (mt.at od) (Qbj gk.al.one gk.mr.one gk.ed.one) oa (oo h0.size) λmu hK kg J mv=>⟨(h0.any (L:=ob vr)).V J,?_⟩;have mw:=kf.setC (yw (q:=⟨nm,⟨xa,xm,h7,a⟩⟩) (N:=↑hj) (λL hL=>(hA L hL).I hg) oa hz.avlt) kg J mv;refine p (QH O)<|pkk<|Qv ((g6.I h0).J J n3v) O O od (QA kg) λhM V hY=>pe ?_;have hge:=Qi hz.c;have hs715:O6 [G] w7 hK:=((hh.D kj.any).D h0.any).O J (λb hb=>.inr (hge b hb).1);refine Qr<|QB O O<|Qa<|xe<|⟨(i+1,mu,rq++[⟨nm,⟨xa,xm,h7,a⟩⟩]),oe,La,h6,hs715.V V,hY,mw.low V (λb hb=>by rw[Lb.1 hb];omega),by simp only[oM,oL];omega,λk T=>?_⟩;simp only[]at T ⊢;by_cases ho:k<rq.length
  ·rw[Ms ho];exact hB k ho
  have kh:k=i:=by simp only[oM,oL]at T;omega
  subst kh;rw[Ni oa];simp only[kt,Nat.sub_self,Ot];exact⟨⟨hI.symm,hG,λe U=>by rw[gu]at U;exact(gg e (ku e U).1).2⟩,λe U=>by rw[gu]at U;exact(ku e U).2⟩
 rintro⟨vr,rq⟩ g8 w8 ⟨hh,gv,hH,kt,hB⟩;simp only[]at gv hH kt hB;have p7:=hh.size;have ki:=hX.J hh my;have g147:=Qi6 (l:=l) h.n 0;have hX6:Zu [G,b4] ↑w6 l.vx l.xs.length 4 (l.xs.flatMap Xm):=((h.x.up (L':=[G,b4]) (λb hb=>.inr (by simp only[oK,oH,or_false]at hb;omega))).I pt).I g2;have j4:Zu [G] ↑w8 l.vx l.xs.length 4 (l.xs.flatMap Xm):=((hX6.st hE).up (L':=[G]) (λb hb=>.inl (by simp only[oF]at hb;simp[hb]))).st hh;refine QW (α:=O3×List XV) [(10,14),(88,151)] (λ_=>[]) (λz w'=>O6 [G] w8 w'/\QK ↑w' G 46 [ve,vc,vr,z.1,Zq]/\Vm Z4 2 186 (λq=>[(q.v,q.ls.length,2,q.ls.flatMap Zh)]) ↑w8 w' z.1 z.2/\z.2.length<=2/\(z.2.map (·.nm)).Nodup/\∀q∈z.2,(∃k,k<2/\q.nm=⟨#[101]⟩++⟨#[UInt8.ofNat (48+k)]⟩)/\q.ls≠[]/\q.ls.length<=3/\XC (co.map (·.p.a.st)) none q.ls=0) oh ?_ ?_
 ·refine Qc<|Qs O ki O g147<|QG j4 O<|Qa<|xe<|QX (α:=Nat×O3×List XV) [(10,14),(91,151)] (λz=>[(91,sS z.1)])
   (λz w'=>z.1<=l.xs.length/\z.1<=2/\O6 [G] w8 w'/\QK ↑w' G 46 [ve,vc,vr,z.2.1,Zq]/\Vm Z4 2 186 (λq=>[(q.v,q.ls.length,2,q.ls.flatMap Zh)]) ↑w8 w' z.2.1 z.2.2/\z.2.2.length<=z.1/\(z.2.2.map (·.nm)).Nodup/\∀q∈z.2.2,(∃k,k<z.1/\q.nm=⟨#[101]⟩++⟨#[UInt8.ofNat (48+k)]⟩)/\q.ls≠[]/\q.ls.length<=3/\XC (co.map (·.p.a.st)) none q.ls=0)
   (λz=>l.xs.length - z.1) (0,Zq,[]) La
   ⟨Lo _,Lo _,O6.Y _ _,gv,Vm.nil,Lp _,List.Pairwise.nil,λq E=>by cases E⟩ ?_
  rintro⟨i,vx,qx⟩ g9 w9 ⟨hi,hi2,Y,hZ,h8,kv,ga,hN⟩;simp only[]at hi hi2 hZ h8 kv ga hN;have za:(∀q∈qx,(∃k,k<2/\q.nm=⟨#[101]⟩++⟨#[UInt8.ofNat (48+k)]⟩)/\q.ls≠[]/\q.ls.length<=3/\XC (co.map (·.p.a.st)) none q.ls=0):=λq E=>by
   obtain⟨⟨k,k1,k2⟩,h2⟩:=hN q E;exact⟨⟨k,oa,k2⟩,h2⟩
  refine Zk O O (λz0=>?_) (λz0=>?_)
  ·refine Qt ?_;exact⟨(vx,qx),Z,Y,hZ,h8,oe,ga,za⟩
  have h6:i<l.xs.length:=by have h93:(i:Int)<(l.xs.length:Int):=z0;omega
  have hX9:=j4.st Y;refine Qf<|Qd<|Qn<|Ql<|O9 zP hX9 O O h6 λa94 z1=>?_;refine Zd (l.xs[i]'h6) λxr hxr=>?_;rw[hxr]at z1;refine x (QF z1 O (zP xr))<|QT [.int .u8 0,.int .u8 0,.int .u8 0,.int .u8 0] λb11 hj hy hb11 hB11=>x Qe<|Qo<|Zx (us:=Xm xr) hB11 O O (zP xr) O (Qds xr.1) λhv gj z2=>xe ?_;have hC:sW w9 hv:=hy.Q gj hb11;refine Qd<|Ql<|x (Zc O O)<|xe<|Zg O (λz3=>?_) (λz3=>?_)
  ·refine Qt ?_;exact⟨(vx,qx),Z,Y.D hC.any,hZ.I hC,h8.I hC,oe,ga,za⟩
  have hi3:i<2:=by have h98:¬(i:Int)=2:=z3;omega
  have ke:(48:Int)+(i:Int)=((48+i:Nat):Int):=oa
  have ql:=hC.size;have hl11:=z2.lt;refine Zd (⟨#[101]⟩++⟨#[UInt8.ofNat (48+i)]⟩:ByteArray) λnm hI=>?_;refine Qf<|Ql<|QB O O<|x (Yc (k':=.i32) O ⟨oa,oa⟩)<|x (qe (n:=48+i) (OW (Value.int .i32) ke) oa)<|x (YL (a:=⟨#[101]⟩) (b:=⟨#[UInt8.ofNat (48+i)]⟩) O O (by show 1+1<=1000000000;omega))<|x (QD La) <|
   QT [.string .empty,Zq] λhO gl hg z4 g0=>Qo<|Zx (us:=[.string nm,Zq]) g0 O (show Go.Lg.ev _ _=_ from OW (λs=>Value.agg #[.string s,Zq]) hI) O O ov λhP hQ hB1213=>xe ?_
  have kw:sW hv hP:=hg.Q hQ z4;have m0:=hC.D kw;have hz1113:=kw.size;have mj:=Y.size;have hltC:=QV hw.c;have nc3:G∉ob vc:=QJ hw.c oa;have z5:∀b∈ob vc,b∉[G]:=λb hb hm=>by rw[Lb.1 hm]at hb;exact nc3 hb
  have hC13:=Qm (Qg (Qg hw.c hh z5) Y z5) m0;have m1:=hZ.I m0;have hB1113:=z2.I kw;have hl12:=g0.lt;have n312:G∉[hO]:=ol
  have n1112:b11∉[hO]:=ol
  have hAC13:=QN (L:=[hO]) hC13 oa (λb hb hm=>by rw[Lb.1 hm]at hb;have:=hltC hO hb;omega);refine QW (α:=O3×xx) [(13,14),(104,140)] (λ_=>[]) (λz w'=>O6 [hO] hP w'/\QK ↑w' hO 186 [.string nm,z.1]/\w'.ownsRow ↑hP 188 2 z.1 z.2.length (z.2.flatMap Zh)/\z.2.length<=co.length/\z.2.Pairwise (λp q=>p.1<q.1)/\∀p∈z.2,0<=p.1/\p.1<(co.length:Int)/\0<=p.2/\p.2<O7 (co.map (·.p.a.st)) p.1.toNat) oh ?_ ?_
  ·refine Qc<|Qs O m1 O O<|QG hAC13 O<|Qa<|xe<|QX (α:=Nat×O3×xx) [(13,14),(107,140)] (λz=>[(107,sS z.1)])
    (λz w'=>z.1<=co.length/\O6 [hO] hP w'/\QK ↑w' hO 186 [.string nm,z.2.1]/\w'.ownsRow ↑hP 188 2 z.2.1 z.2.2.length (z.2.2.flatMap Zh)/\z.2.2.length<=z.1/\z.2.2.Pairwise (λp q=>p.1<q.1)/\∀p∈z.2.2,0<=p.1/\p.1<(z.1:Int)/\0<=p.2/\p.2<O7 (co.map (·.p.a.st)) p.1.toNat)
    (λz=>co.length - z.1) (0,Zq,[]) La
    ⟨Lo _,O6.Y _ _,hB1213,QL _ _ _ _,Lp _,List.Pairwise.nil,λp I=>by cases I⟩ ?_
   rintro⟨k,vl,ls⟩ g14 hR ⟨T,ha,hS,hf,m2,gm,hT⟩;simp only[]at T hS hf m2 gm hT;refine Zk O O (λm3=>?_) (λm3=>?_)
   ·refine Qt ?_;have kh:k=co.length:=by have h109:¬(k:Int)<(co.length:Int):=m3;omega
    rw[kh]at hT;exact⟨(vl,ls),Z,ha,hS,hf,oe,gm,hT⟩
   have ho:k<co.length:=by have h109:(k:Int)<(co.length:Int):=m3;omega
   have hAC14:=hAC13.st ha;have gb:=m1.J ha n312;have hB1114:=hB1113.J ha n1112;refine Qf<|Qd<|Qn<|Ql<|Qb<|Qc<|Qs O gb O O<|Qa<|O9 qu hAC14 O O ho λa113 h113=>?_;refine Zd (co[k]'ho) λq E=>?_;rw[E]at h113;refine x (ZF O)<|x (ZF O)<|x (Qq ((h113.from 1).fld 1 (sS q.p.a.st) O) O)<|Qb ?_;have m4:=(hW k ho).g;rw[E]at m4;have hqp:=m4.p;have hqs:=m4.s;have m5:=qG (ns:=xr.1) (j:=0+k*1) (by rw[xr.2.1];omega);have qx0l:=Jk xr.2.2 (0+k*1);refine Zd (xr.1.getD (0+k*1) 0) λxk hxk=>?_;rw[hxk]at m5 qx0l;have hmod:0<=(xk:Int) % (q.p.a.st+2):=Int.emod_nonneg _ oa;refine Ql<|x (ZV (i:=k) O O oa)<|ZD hB1114 O m5<|x (Yc (k':=.i64) O ⟨oa,oa⟩)<|Qa<|QB O O<|x (qO (a:=(xk:Int)) (b:=q.p.a.st+2) O O oa oa)<|Qa<|ZW O O<|xe ?_;have hgeL:=Qi hf;have hz14:=ha.size;have hz13:=hQ.size;have hn12v:hO∉ob vl:=QJ hf oa;have hn11v:b11∉ob vl:=QJ hf oa;have hcget:O7 (co.map (·.p.a.st)) k=q.p.a.st:=by
    unfold O7;simp[oN,List.getElem?_map,oU ho,E]
   refine Zp O (λh125=>?_) (λh125=>?_)
   ·refine Qf<|Qr<|QB O O<|Qa<|xe ?_;exact⟨(k+1,vl,ls),oe,La,ho,ha,hS,hf,oe,gm,λp I=>by have:=hT p I;simp only[];omega⟩
   have hd14:sW hR { hR with drawn:=hR.drawn+1 }:=O6.X _ _
   refine Zd ((xk:Int) % (q.p.a.st+2)) λst hst=>?_;refine ZK (ob vl) (Xj 0 15 [11,12,14])<|p (QH O)<|pq (λ_ hc=>Qk (hS.J hc hn12v) O O)<|p Qy<|p Qy<|p (λ_=>ZV (i:=k) O O oa)<|pq (λ_ hc=>Qk (hB1114.J hc hn11v) O m5)<|p (λ_=>Yc (k':=.i64) O ⟨oa,oa⟩)<|p Qy<|p (λ_=>Xt O O ⟨oa,oa⟩) <|
    p (λ_=>qO (a:=(xk:Int)) (b:=q.p.a.st+2) O O oa oa)<|p (λ_=>QD ⟨O,O,Z⟩)<|pk<|Q8 [Zh ((k:Int),(xk:Int) % (q.p.a.st+2))] λb137 hK J hb137 hB137=>?_
   have gx:=hd14.D J;have hz1415:=gx.size;refine⟨gx.any,?_⟩;refine pk<|Q2 (news:=Zh ((k:Int),(xk:Int) % (q.p.a.st+2))) (L:=[]) (Qm hf gx) O O O (hB137.at od) (QfV _) oa oa λkx hM gy V hn16=>⟨(gx.any (L:=ob vl)).V V,?_⟩;have hge16:∀b∈ob kx,↑hP<=b:=λb hb=>(Qi gy b hb).1;refine p (QH O)<|pkk<|Qv ((hS.I gx).J V hn12v) O O od (QA gy) λm6 h4 hX=>pe ?_;refine Qr<|QB O O<|Qa<|xe<|⟨(k+1,kx,ls++[((k:Int),(xk:Int) % (q.p.a.st+2))]),oe,La,ho,((ha.D gx.any).O V (λb hb=>.inr (hgeL b hb).1)).V h4,hX,?_,by simp only[oM,oL];omega,?_,λp I=>?_⟩
   ·have h9:=Qg gy h4 (λb hb=>by have:=hge16 b hb;simp only[oF];omega);simp only[oM,List.flatMap_append];simpa using h9
   ·simp only[];rw[Mk];exact⟨gm,M7 _ _,λp I p' m7=>by rw[Lb.1 m7];have:=hT p I;simp only[];omega⟩
   simp only[]at I ⊢;rcases Le.1 I with I|I
   ·have:=hT p I;omega
   rw[Lb.1 I];simp only[Oy];rw[hcget];omega
  rintro⟨vl,ls⟩ g14 hR ⟨ha,hS,hf,m2,gm,hT⟩;simp only[]at hS hf m2 gm hT;have hz14:=ha.size;have hz13:=hQ.size;have gc:sW w9 hR:=m0.Q ha oa;have gb:=m1.J ha n312;have kz:=h8.I gc;refine Qc<|Qs O hS O O<|QG (QN (L:=[]) hf oa od) rfl<|x (Z8 rfl rfl)<|xe<|Zp O (λh144=>?_) (λh144=>?_)
  ·refine Qf<|Qr<|QB O O<|Qa<|xe<|⟨(i+1,vx,qx),oe,La,h6,oe,Y.D gc.any,gb,kz,oe,ga,λq E=>?_⟩;obtain⟨⟨k,k1,k2⟩,h2⟩:=hN q E;exact⟨⟨k,oe,k2⟩,h2⟩
  have h145:(0:Int)<(ls.length:Int):=h144;have hxx:=QA hf;refine Qr<|Qs O gb O O<|Q3 hS O O<|Qo<|Q8 [Z4 ⟨nm,vl,ls⟩] λb148 hK J hb148 hB148=>?_;refine Qo<|Q2 (news:=Z4 ⟨nm,vl,ls⟩) (L:=[]) (Qm kz.own J) O O O (hB148.at od) (Qfk hxx) oa (oq gc.size J.size) λkx hM gy V hn16=>?_;have hs1115:sW hv hK:=(kw.Q ha z4).D J;have hM16:=(h8.I hC).app hs1115 (q:=⟨nm,vl,ls⟩) (λt ht=>by rw[Lb.1 ht];exact⟨↑hP,188,Qm hf J,by show ls.length<=_;omega,hz1113⟩) oa gy V hn16;have hgeX:=Qi kz.own;have n3x:G∉ob vx:=QJ kz.own oa;refine Q9 O<|Qo<|Qv ((gb.I J).J V n3x) O O od (QA gy) λm6 h4 hB317=>xe ?_;refine Qr<|QB O O<|Qa<|xe ?_;have k0:O6 [G] w8 hM:=((Y.D gc.any).D J.any).O V (λb hb=>.inr (hgeX b hb).1);refine⟨(i+1,kx,qx++[⟨nm,vl,ls⟩]),oe,La,h6,oe,k0.V h4,hB317,hM16.low h4 (λb hb=>by rw[Lb.1 hb];omega),by simp only[oM,oL];omega,?_,λq E=>?_⟩
  ·simp only[List.map_append,oS,OC];rw[Mf];refine⟨ga,od,λs hs s' hs' e=>?_⟩;obtain⟨q,E,rfl⟩:=Lx.1 hs;obtain⟨⟨k,k1,k2⟩,_⟩:=hN q E;have hk0:k=0:=oa
   have hi1:i=1:=oa
   rw[Lb.1 hs',k2,<-hI,hk0,hi1]at e;exact OX e og
  rcases Le.1 E with E|E
  ·obtain⟨⟨k,k1,k2⟩,h2⟩:=hN q E;exact⟨⟨k,oe,k2⟩,h2⟩
  rw[Lb.1 E];refine⟨⟨i,Nat.lt_succ_self _,hI.symm⟩,λe=>by rw[show ls=[] from e]at h145;exact OX h145 og,by show ls.length<=3;omega,QgC ls none (λb hb=>by cases hb) gm (λp I=>?_)⟩;rw[Ln];exact hT p I
 rintro⟨vx,qx⟩ g9 w9 ⟨Y,hZ,h8,kv,ga,hN⟩;simp only[]at hZ h8 kv ga hN;have mj:=Y.size;have hB19:=ki.J Y my;have g151:=Qi6 (l:=l) h.n 4;have hbd:=h.bd;have hbdb:=Qfs l.bd (b:=8) og;refine Zd (l.bd.tmod 8) λbd hbde=>?_;rw[hbde]at hbdb;refine Qc<|Qs O hB19 O g151<|x (Yc (k':=.i64) O ⟨oa,oa⟩)<|x (QiV O O og)<|x (QD ⟨O,O,Z⟩)<|QT [.string .empty,Zq,sS 0] λb15 hj hy m8 m9 =>
  Qo<|Zx (us:=[.string ⟨#[107]⟩,Zq,sS bd]) m9 O (show Go.Lg.ev _ _=_ from OW (λn=>Value.agg #[.string ⟨#[107]⟩,Zq,sS n]) hbde) O O ox λhv gj hB1511=>xe ?_
 have hC:sW w9 hv:=hy.Q gj m8;have hB111:=hB19.I hC;have hB311:=hZ.I hC;have n115:b1∉[b15]:=ol
 have n315:G∉[b15]:=ol
 have hl15:=hB1511.lt;refine QW (α:=O3×xx) [(16,16),(157,179)] (λ_=>[]) (λz w'=>O6 [b15] hv w'/\QK ↑w' b15 191 [.string ⟨#[107]⟩,z.1,sS bd]/\w'.ownsRow ↑hv 193 2 z.1 z.2.length (z.2.flatMap Zh)/\z.2.length<=n/\z.2.Pairwise (λp q=>p.1<q.1)/\∀p∈z.2,0<=p.1/\p.1<(n:Int)/\-4<p.2/\p.2<4) oh ?_ ?_
 ·refine Ql<|Qa<|xe<|QX (α:=Nat×O3×xx) [(16,16),(158,179)] (λz=>[(158,sS z.1)])
   (λz w'=>z.1<=n/\O6 [b15] hv w'/\QK ↑w' b15 191 [.string ⟨#[107]⟩,z.2.1,sS bd]/\w'.ownsRow ↑hv 193 2 z.2.1 z.2.2.length (z.2.2.flatMap Zh)/\z.2.2.length<=z.1/\z.2.2.Pairwise (λp q=>p.1<q.1)/\∀p∈z.2.2,0<=p.1/\p.1<(z.1:Int)/\-4<p.2/\p.2<4)
   (λz=>n - z.1) (0,Zq,[]) La
   ⟨Lo _,O6.Y _ _,hB1511,QL _ _ _ _,Lp _,List.Pairwise.nil,λp I=>by cases I⟩ ?_
  rintro⟨i,vt,ts⟩ g12 gl ⟨hi,hg,hU,h5,kk,gn,hV⟩;simp only[]at hi hU h5 kk gn hV;refine Zk O O (λpc=>?_) (λpc=>?_)
  ·refine Qt ?_;have mf:i=n:=by have h160:¬(i:Int)<1+(cn:Int) % 3:=pc;omega
   rw[mf]at kk hV;exact⟨(vt,ts),Z,hg,hU,h5,kk,gn,hV⟩
  have h6:i<n:=by have h160:(i:Int)<1+(cn:Int) % 3:=pc;omega
  have hB112:=hB111.J hg n115;have qf:=Qq2 (l:=l) h.n (i:=i) oa;have qfb:=Qq1 h i oa;refine Zd (flk l i) λfk hfk=>?_;rw[hfk]at qf qfb;refine Qf<|Qd<|Qn<|Ql<|Qb<|Ql<|Q9 O<|x (ZV (i:=i) O O oa)<|ZD hB112 O qf<|ZN O O<|xe<|Zp O (λh165=>?_) (λh165=>?_)
  ·refine Qf<|Qr<|QB O O<|Qa<|xe ?_;exact⟨(i+1,vt,ts),oe,La,h6,hg,hU,h5,oe,gn,λp I=>by have:=hV p I;simp only[];omega⟩
  have hmd:=Qfs fk (b:=4) og;have hd12:sW gl { gl with drawn:=gl.drawn+1 }:=O6.X _ _
  have hz12:=hg.size;have hgeT:=Qi h5;have hn15v:b15∉ob vt:=QJ h5 oa;have hn1v:b1∉ob vt:=QJ h5 oa;refine ZK (ob vt) (Xj 0 14 [10,11,13])<|p (QH O)<|pq (λ_ hc=>Qk (hU.J hc hn15v) O O)<|p Qy<|p Qy<|p (QH O)<|p (λ_=>ZV (i:=i) O O oa)<|pq (λ_ hc=>Qk (hB112.J hc hn1v) O qf)<|p (λ_=>Yc (k':=.i64) O ⟨oa,oa⟩) <|
   p (λ_=>QiV O O og)<|p (λ_=>QD ⟨O,O,Z⟩)<|pk<|Q8 [Zh ((i:Int),fk.tmod 4)] λb176 hP hQ hb176 hB176=>?_
  have gz:=hd12.D hQ;have hz1213:=gz.size;refine⟨gz.any,?_⟩;refine pk<|Q2 (news:=Zh ((i:Int),fk.tmod 4)) (L:=[]) (Qm h5 gz) O O O (hB176.at od) (QfV _) oa oa λv14 hR hf ha hn14=>⟨(gz.any (L:=ob vt)).V ha,?_⟩;have hge14:∀b∈ob v14,↑hv<=b:=λb hb=>(Qi hf b hb).1;refine p (QH O)<|pkk<|Qv ((hU.I gz).J ha hn15v) O O od (QA hf) λhK J m9=>pe ?_;refine Qr<|QB O O<|Qa<|xe<|⟨(i+1,v14,ts++[((i:Int),fk.tmod 4)]),oe,La,h6,((hg.D gz.any).O ha (λb hb=>.inr (hgeT b hb).1)).V J,m9,?_,by simp only[oM,oL];omega,?_,λp I=>?_⟩
  ·have h9:=Qg hf J (λb hb=>by have:=hge14 b hb;simp only[oF];omega);simp only[oM,List.flatMap_append];simpa using h9
  ·simp only[];rw[Mk];exact⟨gn,M7 _ _,λp I p' m7=>by rw[Lb.1 m7];have:=hV p I;simp only[];omega⟩
  simp only[]at I ⊢;rcases Le.1 I with I|I
  ·have:=hV p I;omega
  rw[Lb.1 I];simp only[];omega
 rintro⟨vt,ts⟩ g12 gl ⟨hg,hU,h5,kk,gn,hV⟩;simp only[]at hU h5 kk gn hV;have hz12:=hg.size;have hgT:=Qi h5;refine Qc<|Qs O hU O O<|Qw<|(Qny h5 oa).S ?_;rintro vu hP ⟨hQ,k4⟩;have hup:(nzT ts).Pairwise (λp q=>p.1<q.1):=List.Pairwise.filter _ gn;have hul:=LK (λp:Int×Int=>!decide (p.2=0)) ts;have hub:∀p∈nzT ts,0<=p.1/\p.1<(n:Int)/\p.2≠0/\-65536<=p.2/\p.2<=65536:=λp I=>by
  have h1:=LJ.1 I;have h2:=hV p h1.1;have h3:¬p.2=0:=by simpa using h1.2
  omega
 refine Zd (nzT ts) λus hus=>?_;have hul':us.length<=3:=by rw[<-hus];exact Lz hul oa
 rw[hus]at k4 hup hub;have n15t:b15∉ob vt:=QJ h5 oa;refine Q9 rfl<|Qo<|Qv (hU.J hQ n15t) O O od (QA k4) λhR ha hB1514=>xe ?_;have gc:sW w9 hR:=(((hC.Q hg m8).O hQ (λb hb=>.inr (oo (hgT b hb).1)))).Q ha m8;have hz13:=hQ.size;have hz14:=ha.size;have hgU:=Qi k4;have hf:=Qg k4 ha (λb hb=>by have:=(hgU b hb).1;simp only[oF];omega);have gb:=hZ.I gc;refine QW (α:=O3×List KV) [(184,190)] (λ_=>[]) (λz w'=>O6 [G] hR w'/\QK ↑w' G 46 [ve,vc,vr,vx,z.1]/\z.2.length<=1/\(∀q∈z.2,q.nm=⟨#[107]⟩/\XD (co.map (·.p.a.st)) q.k=0)/\∀L:LN,(∀b∈L,b<↑w6)->jm L ↑w' z.1 z.2) oh ?_ ?_
 ·refine Qc<|Qs O hB1514 O O<|QG (QN (L:=[]) hf oa od) rfl<|x (Z8 rfl rfl)<|xe<|Zp O (λh187=>?_) (λh187=>?_)
  ·refine Qf ?_;exact⟨(Zq,[]),Z,O6.Y _ _,gb,og,λq E=>(by cases E),λL _=>⟨Zu.nil _ _ 3,λq E=>(by cases E),λq E=>(by cases E)⟩⟩
  refine Qr<|Q3 hB1514 O O<|Qo<|Q8 [Yj ⟨⟨#[107]⟩,vu,us,bd⟩] λb189 hK J hb189 hB189=>?_;refine Q9 O<|Qo<|Qv (gb.I J) O O od rfl λhM V hY=>xe ?_;refine⟨(_,[⟨⟨#[107]⟩,vu,us,bd⟩]),Z,J.any.V V,hY,Lp _,λq E=>?_,λL hL=>?_⟩
  ·rw[Lb.1 E];refine⟨rfl,?_⟩;have hgr0:grt bd=false:=by unfold grt;rw[O0 oa,O0 oa];rfl
   have hct:=QgB (sz:=co.map (·.p.a.st)) us none (λb hb=>by cases hb) hup (λp I=>by rw[Ln,g3];exact hub p I);show XD _ ⟨_,us,bd⟩=0;unfold XD;rw[OU oe,OU (by rw[hct];decide),OU (by simp only[];rw[hgr0];decide)]
  have k5:∀b∈G::L,b<hv.heap.size:=λb hb=>by
   rcases Lk.1 hb with rfl|hb
   ·omega
   have:=hL b hb;omega
  have h1:jm (G::L) ↑hK (sL b189 1 1) [⟨⟨#[107]⟩,vu,us,bd⟩]:=by
   refine⟨hB189.arr (λhb=>oo (k5 _ hb)) O og (Lp _),λq E=>?_,λq E=>?_⟩
   ·rw[Lb.1 E];exact(QN (L:=G::L) hf oa (λb hb kn=>oq (hgU b hb).1 (k5 b kn))).I J
   rw[Lb.1 E];exact Js og
  exact(h1.st (V.S od)).up (λb hb=>.inl (Lj _ hb))
 rintro⟨vk,ks⟩ g16 hM ⟨V,hY,ho,hgk,pd⟩;simp only[]at hY ho hgk pd;have hge3:=Qi gq;have hlt3:=QV gq;have k0:O6 [G] w8 hM:=(Y.D gc.any).V V;have hs716:O6 [G] w7 hM:=hh.V k0;have pf:O6 [G,b4] w6 hM:=hE.V (hs716.S od);have pg:∀b∈[G],b<w6.heap.size:=λb hb=>by rw[Lb.1 hb];omega
 have hE16:=Qg (Qm gq p6) pf (λb hb hm=>by have:=hlt3 b hb;simp only[oK,oH,or_false]at hm;omega);have hC16:=hw.low hs716 pg;have hR16:=hH.low k0 (λb hb=>oo (pg b hb));have hX16:=(h8.I gc).low V (λb hb=>oo (pg b hb));have n23:b2∉[G]:=ol
 have n234:b2∉[G,b4]:=by simp only[oK,oH,or_false];omega
 have hB216:=(pp.I g2).J pf n234;refine Qc<|Q3 hY O O<|Q5 [ve,vc,vr,vx,vk] hB216 ⟨QA hE16,QA hC16.c,QA hR16.c,QA hX16.own,(pd [] od).arr.one,Z⟩ λm6 h4 hB217=>xe ?_;have ph:∀b∈[b2],b<w6.heap.size:=λb hb=>by rw[Lb.1 hb];omega
 have lo2':∀b∈[b2],b<w2.heap.size:=λb hb=>by rw[Lb.1 hb];omega
 have hE17:=Qg hE16 h4 (λb hb hm=>oq (hge3 b hb).1 (lo2' b hm));have hC17:=hC16.low h4 ph;have hR17:=hR16.low h4 (λb hb=>oo (ph b hb));have pn:=hX16.low h4 (λb hb=>oo (ph b hb));have hs017:sW w m6:=((pt.D g2).O pf (λb hb=>.inr (by simp only[oK,oH,or_false]at hb;omega))).Q h4 oa;have hcon:∀q∈co,jp q.nm:=λq E=>by
  obtain⟨k,T,rfl⟩:=LR E;rw[(hW k T).nm];exact qq 99 k
 have hrqn:∀q∈rq,jp q.nm:=λq E=>by
  obtain⟨k,T,rfl⟩:=LR E;rw[(hB k T).1.nm];exact qq 114 k
 have hxnm:∀q∈qx,jp q.nm:=λq E=>by
  obtain⟨⟨k,_,k2⟩,_⟩:=hN q E;rw[k2];exact qq 101 k
 have hevn:∀e∈ev,jp e.nm:=λe U=>Qky _ e (by rw[hev];exact U);have hevl:ev.length=5:=by rw[<-hev];exact VA _ _
 refine Qj ⟨[.agg #[ve,vc,vr,vx,vk]],⟨JN hB217,Z⟩,hs017,⟨ev,co.map IV.it,rq.map IV.it,qx.map XV.x,ks.map KV.k⟩,⟨⟨ve,vc,vr,vx,vk,ev,co,rq,qx,ks⟩,O,O,λL hL=>?_⟩,?_⟩
 ·have k5:∀b∈L,b<w2.heap.size:=λb hb=>oo (hL b hb)
  have hLn:b2∉L:=λhm=>oo (hL b2 hm)
  have ko:∀b∈b2::L,b<w6.heap.size:=λb hb=>by
   rcases Lk.1 hb with rfl|hb
   ·omega
   have:=hL b hb;omega
  refine⟨⟨QN hE17 (by show ev.length<=_;omega) (λb hb kn=>oq (hge3 b hb).1 (k5 b kn)),hevn⟩,hC17.itms oa hcon (λb hb=>oo (ko b (Lj _ hb))),hR17.itms oa hrqn (λb hb=>oo (ko b (Lj _ hb))),⟨QN pn.own (by show qx.length<=_;omega) (λb hb kn=>oq (Qi pn.own b hb).1 (ko b (Lj _ kn))),λq E=>?_,hxnm⟩,?_⟩
  ·exact pn.each q E _ (Lb.2 O) L (λb hb=>.inl (oo (ko b (Lj _ hb))))
  exact((pd (b2::L) ko).st (h4.S od)).up (λb hb=>.inl (Lj _ hb))
 rw[<-hev];exact QpX oa oa hW gt oa hB kv ga hN ho hgk
structure jz (base:Nat)(w:O2)(vc va:O3)(co:List IV)(al:List VE):Prop where
 c:w.ownsRow base 81 5 vc co.length (co.flatMap Zn)
 a:w.ownsRow base 94 5 va al.length (al.flatMap Zy)
 dj:Dj vc va
 each:∀q∈co,∀t∈Qhs q,YH base (ob vc++ob va) ↑w t.1 t.2.1 t.2.2.1 t.2.2.2
section
variable {vc vc' va':O3}{co:List IV}{al:List VE}
theorem jz.nil:jz base w (nS) (nS) [] []:=⟨QL _ _ _ _,QL _ _ _ _,Dj.nil _,λq E=>by cases E⟩
theorem jz.I (h:jz base w vc va co al)(E:sW w w'):jz base w' vc va co al:=⟨Qm h.c E,Qm h.a E,h.dj,λq G t ht=>(h.each q G t ht).I E⟩
theorem jz.low {X:LN}(h:jz base w vc va co al)(E:O6 X w w')(hX:∀b∈X,b<base):jz base w' vc va co al :=
 ⟨Qg h.c E (λb hb G=>oq (Qi h.c b hb).1 (hX b G)),Qg h.a E (λb hb G=>oq (Qi h.a b hb).1 (hX b G)),h.dj,λq I t ht=>(h.each q I t ht).low E hX⟩
theorem jz.avlt (h:jz base w vc va co al):∀b∈ob vc++ob va,b<w.heap.size:=λb hb=>(Le.1 hb).elim (QV h.c b) (QV h.a b)
theorem jz.setC {q:IV}(h:jz base w vc va co al)(V:∀t∈Qhs q,YH base (ob vc++ob va) ↑w t.1 t.2.1 t.2.2.1 t.2.2.2)(Y:w'.ownsRow base 81 5 vc' (co.length+1) (co.flatMap Zn++Zn q))
  (E:O6 (ob vc) w w') (G:∀b∈ob vc',b∈ob vc\/↑w<=b):jz base w' vc' va (co++[q]) al:=by
 have I:O6 (ob vc++ob va) w w':=E.S (λb hb=>Le.2 (.inl hb));have J:∀b∈ob vc'++ob va,b∈ob vc++ob va\/↑w<=b:=λb hb=>by
  rcases Le.1 hb with hb|hb
  ·exact(G b hb).imp (λh=>Le.2 (.inl h)) id
  exact .inl (Le.2 (.inr hb))
 refine⟨?_,Qg h.a E (λb hb ha=>h.dj b ha hb),λb hb T=>?_,λd hd t ht=>?_⟩
 ·rw[Lc,LF];simpa using Y
 ·rcases G b hb with U|U
  ·exact h.dj b U T
  have:=QV h.a b T;omega
 rcases Le.1 hd with hd|hd
 ·exact(h.each d hd t ht).app I J
 simp only[oF]at hd;subst hd;exact(V t ht).app I J
theorem jz.setA {E:List VE}(h:jz base w vc va co al)(U:w'.ownsRow base 94 5 va' E.length (E.flatMap Zy))(I:O6 (ob va) w w')(J:∀b∈ob va',b∈ob va\/↑w<=b):jz base w' vc va' co E:=by
 have V:O6 (ob vc++ob va) w w':=I.S (λb hb=>Le.2 (.inr hb));have Y:∀b∈ob vc++ob va',b∈ob vc++ob va\/↑w<=b:=λb hb=>by
  rcases Le.1 hb with hb|hb
  ·exact .inl (Le.2 (.inl hb))
  exact(J b hb).imp (λh=>Le.2 (.inr h)) id
 refine⟨Qg h.c I (λb hb G=>h.dj b hb G),U,λb hb G=>?_,λd hd t ht=>(h.each d hd t ht).app V Y⟩;rcases J b G with T|T
 ·exact h.dj b hb T
 have:=QV h.c b hb;omega
theorem jz.itms (h:jz base w vc va co al)(I:co.length<=1099511627776)(J:∀q∈co,jp q.nm)(E:∀b∈L,b<base):Vo L ↑w vc co :=
 ⟨QN h.c I (λb hb T=>oq (Qi h.c b hb).1 (E b T)),λq G=>⟨h.each q G (q.p.va,q.p.a.al.length,1,q.p.a.al.map (.int .i64)) od L (λb hb=>.inl (E b hb)),h.each q G (q.p.vm,q.p.a.mr.length,1,q.p.a.mr.map (.int .i64)) od L (λb hb=>.inl (E b hb)),h.each q G (q.p.ve,q.p.a.ed.length,3,q.p.a.ed.flatMap Qp) od L (λb hb=>.inl (E b hb))⟩,J⟩
end
def mzA (s f:Int):Qz:=⟨[s,f],2,[0],[(0,s,1),(1,f,0)]⟩
theorem Qfe (nm:ByteArray)(s f:Int)(w:O2):QU sV 243 [.string nm,sS s,sS f] w λr w'=>sW w w'/\∃xa xm xe,r=.agg #[.string nm,xa,sS 2,xm,xe]/\ZL [xa,xm,xe]/\∀L:LN,(∀b∈L,b<↑w)->Zr L ↑w' xa xm xe (mzA s f):=by
 refine Zm func243 ?_;refine Qc<|QT [.string .empty,nS,sS 0,nS,nS] λb6 w1 he hf J=>xe ?_;have hg:=J.lt;refine Ql<|Qa<|Qo<|Q8 [[sS s],[sS f]] λb10 w2 T hv hh=>Qo<|Q8 [[sS 0]] λb11 w3 E hw hj =>
  Qa<|x (QD ⟨O,O,O,Z⟩)<|Qa<|x (QD ⟨O,O,O,Z⟩)<|Qo<|Q8 [Qp (0,s,1),Qp (1,f,0)] λb16 U G hy hk=>?_
 have V:=(T.D E).D G;have hm:=he.D V;have hz:=T.size;have h0:=E.size;have hF:Xb ↑w1 ↑U (.agg #[sL b10 2 2,sS 2,sL b11 1 1,sL b16 2 2]) (mzA s f):=
  QaD (a:=mzA s f) ((hh.I E).I G) (hj.I G) hk oa oa oa O O O og og og
 refine x (QD ⟨O,O,O,O,Z⟩)<|QT ze λb7 w5 hn ho hp=>Q5 [sL b10 2 2,sS 2,sL b11 1 1,sL b16 2 2] hp oy λw6 hq hr=>xe ?_;have I:sW U w6:=hn.Q hq ho;refine Ql<|Q3 hr O O<|x (ZB [(0,[.string nm]),(1,[sL b10 2 2,sS 2,sL b11 1 1,sL b16 2 2])] ⟨O,O,O,O,Z⟩) <|
  Q5 [.string nm,sL b10 2 2,sS 2,sL b11 1 1,sL b16 2 2] ((J.I V).I I) ⟨O,O,O,O,O,Z⟩ λw7 Y hs=>xe ?_
 obtain⟨xa,xm,h2,hu,hA⟩:=hF;have ha:=OW (λv=>match v with|Value.agg cs=>cs.toList|_=>[]) hu
 simp only[List.cons.injEq,and_true]at ha;obtain⟨rfl,_,rfl,rfl⟩:=ha;refine Qj ⟨[.agg #[.string nm,sL b10 2 2,sS 2,sL b11 1 1,sL b16 2 2]],⟨JN hs,Z⟩,(hm.D I).Q Y hf,_,_,_,O,ox,λL hL=>?_⟩;have h1:=(hA (b6::L) (λb hb=>by
  rcases Lk.1 hb with rfl|hb
  ·exact hg
  have:=hL b hb;omega)).I I
 exact(h1.st (Y.S od)).up (λb hb=>.inl (Lj _ hb))
def nmZ (p:Array UInt8)(i:Nat):ByteArray:=⟨p⟩++⟨#[UInt8.ofNat (97+i)]⟩
abbrev Qjg:Array UInt8:=#[115,116,97,114,116]
abbrev QfT:Array UInt8:=#[102,105,110,105,115,104]
abbrev JE:Array UInt8:=#[109,97,99,104,105,110,101]
def QcI (i:Nat):List VE:=[⟨nmZ Qjg i,true,true,false,0⟩,⟨nmZ QfT i,false,true,false,0⟩]
def mzE (c:Nat):List VE:=(oJ c).flatMap QcI
def Qrd (i:Nat):Jp:=⟨nmZ JE i,mzA (2*(i:Int)) (2*(i:Int)+1)⟩
def mzC (c:Nat):ZS:=⟨mzE c,(oJ c).map Qrd,[],[],[]⟩
theorem qp (p:Array UInt8)(i:Nat)(h:p.size<=10):jp (nmZ p i):=by
 show(ByteArray.mk _++ByteArray.mk _).size<=_;rw[ByteArray.size_append];show p.size+1<=_;omega
theorem Qpd (c:Nat):∀e∈mzE c,jp e.nm:=λe E=>by
 unfold mzE at E;obtain⟨i,_,hi⟩:=Mc.1 E;simp only[QcI,oK,oH,or_false]at hi;rcases hi with rfl|rfl
 ·exact qp _ _ og
 exact qp _ _ og
theorem QcJ (c:Nat):mzE (c+1)=mzE c++QcI c:=by unfold mzE;rw[Nh,LF];simp
theorem Qf6:∀c,(mzE c).length=2*c
 | 0=>rfl
 | c+1=>by rw[QcJ,Lc,Qf6 c];show 2*c+2=_;omega
theorem Qhl (i:Nat):∀u∈(QcI i).flatMap Zy,u.oneCell'=true:=λu E=>by
 obtain⟨e,_,G⟩:=Mc.1 E;exact Qc6 e u G
theorem J3 (c:Nat)(hX:c<=4)(w:O2):QU sV 182 [sS c] w λr w'=>sW w w'/\Qn6 ↑w ↑w' r (mzC c):=by
 refine Zm func182 ?_;refine Qc<|QT K9 λb2 w1 hF hY hw=>xe ?_;refine Qc<|QT K9 λJ T hy hZ hz=>xe ?_;have ga:=hw.lt;have hj:=hz.lt;refine Qd<|Ql<|Qa<|xe<|QX (α:=Nat×O3×List VE×O3×List IV) [(4,4),(6,42)] (λz=>[(6,sS z.1)])
  (λz w'=>z.1<=c/\O6 [J] T w'/\QK ↑w' J 46 [z.2.1,z.2.2.2.1,Zq,Zq,Zq]/\jz ↑T w' z.2.2.2.1 z.2.1 z.2.2.2.2 z.2.2.1/\z.2.2.1=mzE z.1/\z.2.2.2.2.map IV.it=(oJ z.1).map Qrd/\∀q∈z.2.2.2.2,jp q.nm)
  (λz=>c - z.1) (0,Zq,[],Zq,[]) La ⟨Lo _,O6.Y _ _,hz,jz.nil,O,O,λq E=>by cases E⟩ ?_
 rintro⟨i,ve,ev,vc,co⟩ g3 w3 ⟨hi,ha,hf,G,hev,U,hk⟩;simp only[]at hi hf G hev U hk;have gb:=ha.size;have gc:ev.length=2*i:=by rw[hev];exact Qf6 i
 have ge:co.length=i:=by have:=OW oV U;simpa using this
 refine Zk rfl O (λh7=>?_) (λh7=>?_)
 ·refine Qt ?_;have hG:i=c:=by have h8:¬(i:Int)<(c:Int):=h7;omega
  rw[hG]at hev U;have hH:b2∉[J]:=ol
  have hm:=(hw.I hy).J ha hH;refine Qc<|Q3 hf O O<|Q5 [ve,vc,Zq,Zq,Zq] hm ⟨QA G.a,QA G.c,O,O,O,Z⟩ λw4 I hI=>xe ?_;have hJ:∀b∈[b2],b<T.heap.size:=λb hb=>by rw[Lb.1 hb];omega
  have hn:=G.low I hJ;refine Qj ⟨[.agg #[ve,vc,Zq,Zq,Zq]],⟨JN hI,Z⟩,((hF.D hy).Q ha oa).Q I oa,⟨ve,vc,Zq,Zq,Zq,ev,co,[],[],[]⟩,O,?_,λL hL=>?_⟩
  ·show(⟨ev,co.map IV.it,[],[],[]⟩:ZS)=mzC c;rw[hev,U];rfl
  have h0:∀b∈L,b<T.heap.size:=λb hb=>oo (hL b hb)
  exact⟨⟨QN hn.a (by show ev.length<=_;omega) (λb hb hK=>oq (Qi hn.a b hb).1 (h0 b hK)),λe he=>Qpd c e (by rw[<-hev];exact he)⟩,hn.itms oa hk h0,⟨Zu.nil _ _ 5,λq E=>(by cases E),λq E=>(by cases E)⟩,⟨Zu.nil _ _ 2,λq E=>(by cases E),λq E=>(by cases E)⟩,⟨Zu.nil _ _ 3,λq E=>(by cases E),λq E=>(by cases E)⟩⟩
 have hM:i<c:=by have h8:(i:Int)<(c:Int):=h7;omega
 have hu:(97:Int)+(i:Int)=((97+i:Nat):Int):=oa
 refine Qf<|Qd<|Qn<|Ql<|Qb<|Qc<|Qs O hf O O<|Qa<|QB O O<|x (Yc (k':=.i32) O ⟨oa,oa⟩)<|x (qe (n:=97+i) (OW (Value.int .i32) hu) oa)<|x (YL (a:=⟨Qjg⟩) (b:=⟨#[UInt8.ofNat (97+i)]⟩) O O (by show 5+1<=1000000000;omega))<|x (QD ⟨O,O,O,Z⟩) <|
  Qa<|QB rfl O<|x (Yc (k':=.i32) O ⟨oa,oa⟩)<|x (qe (n:=97+i) (OW (Value.int .i32) hu) oa)<|x (YL (a:=⟨QfT⟩) (b:=⟨#[UInt8.ofNat (97+i)]⟩) O O (by show 6+1<=1000000000;omega))<|x (QD ⟨O,O,Z⟩) <|
  Qo<|Q8 ((QcI i).map Zy) λgg w4 I gh hm=>?_
 have gi:=I.size;have hN:J∉ob ve:=QJ G.a hj;have h1:J∉ob vc:=QJ G.c hj;have hO:=Qi G.c;refine Qo<|Q2 (m:=2) (news:=(QcI i).flatMap Zy) (L:=[]) (Qm G.a I) O O O (hm.at od) (Qhl i) oa oa λho w5 h2 hp hP=>?_;refine Q9 rfl<|Qo<|Qv (j:=0) (u:=ho) ((hf.I I).J hp hN) O O od (QA h2) λV h3 h4=>xe ?_;have hQ:jz ↑T w5 vc ho co (ev++QcI i):=(G.I I).setA (by rw[Lc,LF];exact h2) hp hP;have h5:∀b∈[J],b<T.heap.size:=λb hb=>by rw[Lb.1 hb];exact hj
 have h6:=hQ.low h3 h5;have h9:O6 [J] T V:=((ha.D I.any).O hp (λb hb=>.inr ((Qi G.a) b hb).1)).V h3;have gj:=h9.size;have hR:sW V { V with drawn:=V.drawn+1 }:=O6.X _ _
 refine ZK (ob vc) (Xj 0 17 [12,13,14,16])<|p (QH O)<|pq (λ_ hc=>Qk (h4.J hc h1) O O)<|p Qy<|p (λ_=>Xt O O ⟨oa,oa⟩)<|p (λ_=>Yc (k':=.i32) O ⟨oa,oa⟩)<|p (λ_=>qe (n:=97+i) (OW (Value.int .i32) hu) oa) <|
  p (λ_=>YL (a:=⟨JE⟩) (b:=⟨#[UInt8.ofNat (97+i)]⟩) O O (by show 7+1<=1000000000;omega))<|p Qy<|p (λ_=>QfO O O ⟨oa,oa⟩)<|p Qy<|p (λ_=>QfO O O ⟨oa,oa⟩)<|p (λ_=>Xt O O ⟨oa,oa⟩) <|
  pk<|xg<|(Qfe (nmZ JE i) (2*(i:Int)) (2*(i:Int)+1) _).S ?_
 rintro r7 w7 ⟨hS,xa,xm,hg,rfl,hr,hA⟩;have hs:=hR.D hS;refine⟨hs.any,?_⟩;refine pk<|Q8 [Zn ⟨nmZ JE i,⟨xa,xm,hg,mzA (2*(i:Int)) (2*(i:Int)+1)⟩⟩] λgk w8 hv gl hT=>⟨(hs.D hv).any,?_⟩;have Y:=hs.D hv;have hB:=h6.I Y;refine pk<|Q2 (news:=Zn ⟨nmZ JE i,⟨xa,xm,hg,mzA (2*(i:Int)) (2*(i:Int)+1)⟩⟩) (L:=[]) hB.c O O O (hT.at od) (Qbj hr.1 hr.2.1 hr.2.2.1) oa (oo Y.size) λhC w9 hD hh hU=>⟨(Y.any (L:=ob vc)).V hh,?_⟩;have hV:=hB.setC (yw (q:=⟨nmZ JE i,⟨xa,xm,hg,mzA (2*(i:Int)) (2*(i:Int)+1)⟩⟩) (N:=↑V) (λL hL=>(hA L hL).I hv) oa h6.avlt) hD hh hU;refine p (QH O)<|pkk<|Qv (j:=1) (u:=hC) ((h4.I Y).J hh h1) O O od (QA hD) λgm hE hW=>pe ?_;refine Qr<|QB O O<|Qa<|xe<|⟨(i+1,ho,ev++QcI i,hC,co++[⟨nmZ JE i,⟨xa,xm,hg,mzA (2*(i:Int)) (2*(i:Int)+1)⟩⟩]),oe,La,hM,((h9.D Y.any).O hh (λb hb=>.inr (hO b hb).1)).V hE,hW,hV.low hE h5,?_,?_,λq E=>?_⟩
 ·simp only[];rw[QcJ,hev]
 ·simp only[];rw[Ly,U,Nh,Ly];rfl
 rcases Le.1 E with E|E
 ·exact hk q E
 rw[Lb.1 E];exact qp _ _ og
instance skRsn:Sk sV 173 [0,0,0,0]:=⟨⟨_,underlying173,.int og O underlying3<|.int og O underlying3<|.int og O underlying3<|.int og O underlying3 .nil⟩,oc,oc⟩
theorem qw {v:O3}{l:List Rsn}(h:Zu L ↑w v l.length 4 (l.flatMap Z5))(E:Zu L' ↑w v' l.length 4 (l.flatMap Z5)):
  QU sV 184 [v,v'] w λr w'=>r=.bool true/\sW w w':=by
 haveI:DecidableEq Rsn:=λ_ _=>Classical.propDecidable _;exact(eqG ⟨_,O,func184⟩ QiN (ldA QiN) h E λ{_ _ _ _ _ _ _ _ _ a b} _ _ hx G=>(Qcs (xs:=Z5 a) (ys:=Z5 b) O hx G).D (by cases a;cases b;simp[yN,eqV];rfl)).S λ_ _ ⟨I,J⟩=>⟨by rw[I];simp,J⟩
def UA:ByteArray:=⟨#[110,101,118,101,114]⟩
def Qa7:ByteArray:=⟨#[98,111,116,104]⟩
def Qa6:ByteArray:=⟨#[109,111,115,116]⟩
def Qbl:Jp:=⟨UA,⟨[1],1,[0],[]⟩⟩
def QpN (i j:Int):Exc:=⟨Qa7,[(i,1),(j,1)]⟩
def QpZ:xM:=⟨Qa6,[(0,1),(1,1)],1⟩
def k1C:ZS:={ mzC 1 with rq:=[Qbl] }
def k2C:ZS:={ mzC 2 with ex:=[QpN 0 1] }
def k3C:ZS:={ mzC 2 with cs:=[QpZ] }
theorem Qro:YQ k1C=0:=oc
theorem Qrn:(spc k1C).fb=[⟨1,3,0,1⟩]:=oc
theorem Qoj:(spc k1C).a.st=2:=oc
theorem Qpt:QgA k1C=true:=oc
theorem Qpu:cmB k1C=[2]:=oc
theorem QsO:YQ k2C=0:=oc
theorem Qrl:(spc k2C).fb=[⟨3,1,0,-1⟩]:=oc
theorem Qrk:(spc k2C).a.st=4:=oc
theorem QsN:YQ k3C=0:=oc
theorem Qri:(spc k3C).fb=[⟨3,2,0,-1⟩]:=oc
theorem QgU {v:O3}(E:v.cells=#[v]):QU sV 282 [v] w λr w'=>sW w w'/\∃b,r=.func (.func 309) #[] #[sP b]/\↑w<=b/\QK ↑w' b 47 [v]:=by
 refine Zm func282 ?_;refine Qc<|Qo<|qP (us:=[v]) E λG U I J T=>Qb<|Qc<|x Zl<|Qb<|Qj ⟨[_],La,I,G,O,J,T⟩
theorem Qb0 {v:O3}{es:LI}(hg:QK ↑w T 47 [v])(hE:Qu L ↑w v es):
  SeqStopsK (fen none) m sV 309 #[sP T] (λx:Int=>#[sS x]) (Lw ↑w L) (λys=>ys=es) (λ_=>True) (es.length+1) w:=by
 intro l J Jx W hh hJ hm hY h0;have Y:sW w W:=O6.of_below hh;have hq:=hE.le;have ab:∀{ys:LI} {W1 W2:O2},J ys W1->sW W1 W2->J ys W2:=λ{ys W1 W2} hj U=>hJ ys W1 W2 none hj ⟨U.os,U.tape,U.output,U.size,λk V _=>U.block k V od⟩ (λr e=>by cases e);have key:QU sV 309 [.func (.yield l) #[] #[],sP T] W (λ_ W'=>(∃ys,ys=es/\J ys W')\/(∃pre,True/\Jx pre W')):=by
  refine QU.of_G m func309 O ntmps309 results309 od ?_;refine QQ<|Qx oh oh<|ZD (hg.I Y) O O<|QG (hE.I Y) O<|Qa<|xe<|ZM<|KL (α:=Nat) [(4,4),(7,15)] (λk=>[(7,sS k)]) (λk ds W'=>ds=[]/\k<=es.length/\O6 L w W'/\J (es.take k) W') (λk=>es.length - k) oh 0 La
   ⟨O,Lo _,Y.any,h0⟩ ?_
  rintro k g ds w1 ⟨rfl,V,hf,ha⟩;refine QQ<|Qx oh oh<|ZW O O<|xe<|QQ<|U3 O (λh8=>?_) (λh8=>?_)
  ·refine JL ?_;have hn:es.length<=k:=by have h9:¬(k:Int)<(es.length:Int):=h8;omega
   rw[Lr hn]at ha;exact⟨λ_ h=>(by cases h),Mx,[],λW' E=>⟨Z,.inl ⟨es,rfl,ab ha E⟩⟩⟩
  refine Yb ?_;have G:k<es.length:=by have h9:(k:Int)<(es.length:Int):=h8;omega
  have ho:es.take (k+1)=es.take k++[es[k]'G]:=Ll G;have hr:(es.take k).length=k:=by rw[LC];omega
  refine QQ<|ZM<|QQ<|Qx oh oh<|xii (i:=k) (hE.st hf) O O G λa9 h9=>x (Qq h9 O)<|Qb<|QQ<|Kz oh ?_;refine Jv.pre2 ?_;refine Qa<|Qa<|xe<|xy (l:=l) O (hY (es.take k) (es[k]'G) w1 ha oa) λen W3 hp=>Or.elim hp (λI=>⟨.bool true,I.1,?_⟩) (λI=>⟨.bool false,I.1,?_⟩)
  ·refine Jv.of_XL<|x (Zj O)<|xe<|J5 O<|Yb ?_;refine Qx oh oh<|QB O O<|Qa<|xe ?_;exact⟨k+1,oa,La,O,G,hf.lw I.2.2,by rw[ho];exact I.2.1⟩
  refine Jv.of_XL<|x (Zj O)<|xe<|jn O ?_;refine J4 ⟨λ_ h=>(by cases h),Mx,[],λW' E=>⟨Z,.inr ⟨es.take k++[es[k]'G],Z,?_⟩⟩⟩;exact hm _ W3 W' none I.2 ⟨E.os,E.tape,E.output,E.size,λk V _=>E.block k V od⟩ (λr e=>by cases e)
 refine(callsIn_wide (n:=m)).2 ?_;have ea:(#[.func (.yield l) #[] #[]]++[sP T].toArray:Array O3)=#[.func (.yield l) #[] #[],sP T]:=od
 rw[ea];unfold QU at key;refine Calls.mono key λe w' he=>?_;cases e with
 | returned v=>exact⟨⟨v,O⟩,he⟩
 | panicked c=>exact he.elim
 | outgrown=>exact he.elim
theorem QhQ {Y:Nat}{v:O3}{es:LI}(hn:QK ↑w Y 47 [v])(hE:Qu [] ↑w v es)(hl:es.length<=1000):
  QU sV 321 [Zq,.func (.func 309) #[] #[sP Y]] w λr w'=>sW w w'/\Qh 3 ↑w w' r es:=by
 refine QU.of_G 20 func321 O ntmps321 results321 od ?_;refine QQ<|Qx oh oh<|Zf [Zq] λT w1 V hf hg=>Qb ?_;have hs:=V.size;have hu:=hg.lt;refine QQ<|QQ<|Qx oh oh<|Qa<|xe<|ZM<|QgS (α:=Int) [T] oa (capt:=[sP Y]) O (enc:=λx=>sS x) og
  (Qb0 (hn.I V) ((hE.up (L':=[T]) (λb hb=>.inr (by rw[Lb.1 hb];exact hf))).I V))
  (λpre W=>∃vo,O6 [T] w1 W/\QK ↑W T 47 [vo]/\Qh 3 ↑w1 W vo pre)
  (λpre=>Ye.ex λvo=>(Ye.J (Lp _)).and (Ye.blk.and Ye.row))
  ⟨Zq,O6.Y _ _,hg,QL _ _ _ _⟩
  (λf x f' W=>f'=upd (upd f 7 (sS x)) 5 (sS x)) (λx f'=>Ye.pure _) ?_ ?_ ?_
 ·rintro l pre e W ⟨vo,J,I,E⟩;refine Qx oh oh<|Qb<|⟨O,X0.refl _ _ _,⟨vo,J,I,E⟩,O⟩
 ·rintro l pre e f' W ⟨vo,J,I,E⟩ rfl hN;have hh:T∉ob vo:=QJ E oa;have hge:=Qi E;have ho:=J.size;refine ZM<|Qx oh oh<|ZD I O O<|Qa<|Qo<|Q8 [[sS e]] λb10 w2 G hv hp=>?_;refine Qo<|Q2 (m:=1) (news:=[sS e]) (Qm E G) O O O (hp.at (L:=[]) od) om oa (oo G.size) λv3 w3 ha U hw=>?_;refine Qo<|Qv (u:=v3) ((I.I G).J U hh) O O od (QA ha) λw4 he hq=>xe ?_;have hy:=G.size;refine⟨((X0.I G ho).D (X0.J U oa (λb hb=>⟨.inr (hge b hb).1,Go.Lg.Q7 (Qm E G) b hb⟩))).D (X0.blk he (oo U.size) ((I.I G).J U hh) (.inl Lh)),v3,((J.D G.any).O U (λb hb=>.inr (hge b hb).1)).V he,hq,?_⟩;exact Qh.snoc (Qg ha he (λb hb=>by have:=(Qi ha b hb).1;simp only[oF];omega))
 rintro D xs W hD rfl ⟨vo,J,I,E⟩ hj;refine QQ<|Qx oh oh<|ZD I O O<|Qb<|J4 ⟨λD' hr=>by rw[Lb.1 hr];exact hj,M7 _ _,[vo],λW' hk=>⟨La,(V.Q J hf).O hk (λb hb=>.inr (by rw[Lb.1 hb];omega)),?_⟩⟩;refine Za (Qg E hk (λb hb hm=>?_)) oa;rw[Lb.1 hm]at hb;obtain⟨o,h1,h2⟩:=Go.Lg.Q7 E _ hb;rw[hj]at h1;cases h1
 cases h2
theorem QeP {v:O3}{es:LI}(G:QK ↑w E 47 [v])(hE:Qu [] ↑w v es)(hl:es.length<=1000):
  QU sV 308 [.func (.func 309) #[] #[sP E]] w λr w'=>sW w w'/\Qh 3 ↑w w' r es:=by
 refine Zm func308 ?_;refine Qc<|Qb<|Ql<|Qw<|(QhQ G hE hl).S ?_;rintro I U ⟨J,T⟩;refine Qb<|Qj ⟨[I],La,J,T⟩
theorem QgZ {v:O3}{es:LI}(I:QK ↑w E 47 [v])(hE:Qu [] ↑w v es)(hl:es.length<=1000):
  QU sV 281 [.func (.func 309) #[] #[sP E]] w λr w'=>sW w w'/\Qh 3 ↑w w' r (es.mergeSort λx y=>decide (x<=y)):=by
 refine Zm func281 ?_;refine Qc<|Qb<|Ql<|Qw<|(QeP I hE hl).S ?_;rintro J Y ⟨T,G⟩;refine Qb<|Ql<|Qw<|(Kf G oa).S ?_;rintro r2 w2 ⟨U,V⟩;refine xe<|Ql<|Qb<|Qj ⟨[J],La,T.O U (λb hb=>.inr (Qi G b hb).1),V⟩
theorem Qgi {n:Int}:∀{l:LI}(i:Nat),n∈l->fix (λe=>decide (n=e)) i l=((i+l.idxOf n:Nat):Int)
 | a::l,i,h=>by
  rw[YC,List.idxOf_cons];by_cases e:n=a
  ·simp[e]
  rw[OU (ou e),show(a == n)=false by simpa using Ne.symm e,Qgi (i+1) ((Lk.1 h).resolve_left e)];simp only[cond_false];omega
theorem QpE {v:O3}(h:Qu L ↑w v l){n:Int}(E:n∈l):
  QU sV 139 [v,sS n] w λr w'=>w'=w/\r=sS (l.idxOf n:Nat):=
 (Qaf h n).S λ_ _ ⟨G,I⟩=>⟨G,by rw[I,Qgi 0 E,LW]⟩
def rlE (a:Qz)(to:LI):List Ed:=a.ed.map λe=>(e.1,O7 to (a.al.idxOf e.2.1),e.2.2)
theorem Qe7 {to sa:LI}{se:List Ed}(h:Zr [] ↑w va vm ve a)(hck:Jc a=0)(ho:QS a)(ht:Qu [] ↑w vt to)(hD:to.length=a.al.length)(hM:∀e∈to,0<=e/\e<32)(gz:to.Nodup)
  (hN:to.mergeSort (λx y=>decide (x<=y))=sa) (g0:∀l',l'.Perm (rlE a to)->l'.Pairwise Qdb->l'=se) (hok:QS ⟨sa,a.st,a.mr,se⟩):
  QU sV 250 [.agg #[va,sS a.st,vm,ve],vt] w λr w'=>sW w w'/\∃v,r=.tuple #[v,sS 0]/\Xb ↑w ↑w' v (YG ⟨sa,a.st,a.mr,se⟩):=by
 have ma:=ho.st0;have mc:=ho.st1;have mf:=ho.al_le;refine Zm func250 ?_;refine Qc<|Zf [va,sS a.st,vm,ve] λb2 w1 hO mg g2=>QT ze λb4 w2 hP mh hQ=>Qb ?_;have hR:=hO.D hP;have mj:=hO.size;have mo:=hQ.lt;have hS:=g2.I hP;refine Qd<|Qc<|Q3 hS O O<|Qw<|(Y8 (h.I hR)).S ?_;rintro r3 w3 ⟨hT,hz⟩;rw[hck]at hT;subst hT;have hE:=hR.D hz;have mq:=hz.size;have hf:=hS.I hz;refine Qb<|Ql<|ZN O O<|xe<|Zw rfl<|Qf ?_;have h0:=h.I hE;have Y:=ht.I hE;refine Qd<|Ql<|QG Y O<|Qs O hf O O<|QG h0.al O<|ZN O O<|xe<|Zg rfl (λhU=>OX (OW (λm:Nat=>(m:Int)) hD) hU) (λhU=>?_);refine Qf<|QW (α:=Unit) [(5,5),(7,8),(25,47)] (λ_=>[]) (λ_ w'=>w'=w3) oh ?_ ?_
 ·refine Ql<|QG Y O<|Qa<|xe<|QX (α:=Nat) [(5,5),(7,8),(27,47)] (λk=>[(27,sS k)]) (λk w'=>w'=w3/\k<=to.length) (λk=>to.length - k) 0 La ⟨O,Lo _⟩ ?_;rintro k g w' ⟨rfl,hk⟩;refine Zk O O (λhV=>?_) (λhV=>?_)
  ·refine Qt ?_;exact⟨(),Z,O⟩
  have I:k<to.length:=by have ms:(k:Int)<(to.length:Int):=hV;omega
  have g3:=hM _ (Lm I);have hW:(to[k]'I)∉to.take k:=λhm=>by
   obtain⟨j,hj,hX⟩:=LR hm;rw[M9]at hX;have g4:j<k:=by rw[LC]at hj;omega
   have:=(Mg.1 gz) j k oa I g4;exact this hX
  refine Zd (to[k]'I) λe V=>?_;rw[V]at g3 hW;refine Qf<|Qd<|Qn<|Ql<|xii Y O O I λmt hY=>?_;rw[V]at hY;refine x (Qq hY O)<|x Qe<|Qb<|Qn<|Ql<|xb (YB O O) (λhZ=>OX (show e<0 from hZ) oa) (λhZ=>?_);refine Qa<|Qa<|x (Yf O O)<|QC O<|Qb<|Zg O (λga=>OX (show e≥32 from ga) oa) (λga=>?_);refine Ql<|Qa<|QoB Y O O oa λg5 g6=>?_;have g7:Qu [] ↑w' g5 (to.take k):=by
   unfold Qu;have g8:(to.take k).length=k:=by rw[LC];omega
   rw[g8,List.map_take];simpa using g6
  refine Qa<|Qw<|(ZH g7 e).S ?_;rintro mu w' ⟨rfl,rfl⟩;refine Qb<|Zg O (λgb=>OX gb hW) (λgb=>?_);refine Qf<|Qr<|QB O O<|Qa<|xe ?_;exact⟨k+1,oa,La,O,I⟩
 rintro⟨⟩ g w' rfl;have g9:sW w' { w' with drawn:=w'.drawn+1 }:=O6.X _ _
 refine QW (α:=Nat×O3) [(9,9),(48,55)] (λz=>[(9,.pointer (some ⟨z.1,0,none⟩))]) (λz G=>sW w' G/\↑w'<=z.1/\QK ↑G z.1 53 [z.2,sS a.st,vm,nS]/\z.2.oneCell'=true/\∀L:LN,(∀b∈L,b<↑w'\/b=z.1)->Qu L ↑G z.2 sa) oh ?_ ?_
 ·refine JJ _ mixed oh (V8 (α:=O3) (sW w') [oz 0,oz 3,oz 4,oz 5,oz 6] [oA 1,oA 2,oz 7] 8 9 [oA 9] [] [(48,55)] [(49,50),(55,55)] (λz=>[(55,.agg #[z,sS a.st,vm,nS])])
   (λz own G=>(∀b∈own,↑w'<=b)/\z.oneCell'=true/\∀L:LN,(∀b∈L,b∉own)->Qu L ↑G z sa)
   (λv G=>∃b,v=sP b/\↑w'<=b/\QK ↑G b 53 ze) oc oh O g9 od ?_ ?_ ?_ ?_)
  ·rintro v own wa wb ⟨b,rfl,hb,hB⟩ hs hn;exact⟨b,O,hb,hB.J hs (hn b (by simp[ow]))⟩
  ·rintro z own wa wb ⟨h1,h2,h3⟩ hs;exact⟨h1,h2,λL hL=>(h3 L hL).I hs⟩
  ·rintro z g own wz v ⟨i1,i2,i3⟩ ka ⟨E,rfl,hg,h5⟩ kb;have gc:=(kb E (by simp[ow])).1;refine pkk<|qo [z,sS a.st,vm,nS] h5 ⟨i2,O,h0.mr.one,O,Z⟩ λG ha kc=>pe ?_;refine⟨(E,z),La,ka.Q ha hg,hg,kc,i2,λL hL=>?_⟩;have h1:=i3 (E::L) (λb hb=>by
    rcases Lk.1 hb with rfl|hb
    ·exact gc
    rcases hL b hb with h2|h2
    ·exact λh3=>oo (i1 b h3)
    subst h2;exact gc)
   exact(h1.st (ha.S od)).up (λb hb=>.inl (by simp[hb]))
  refine Go.Lg.p Qy<|Go.Lg.p (QH O)<|pq (λ_ hc=>Qk (hf.I hc) O O)<|Go.Lg.p (QH O)<|pq (λ_ hc=>Qk (hf.I hc) O O) <|
   pe ⟨λg wf ke=>flA ze ke,?_⟩
  refine f2k λx1 p1 c1=>xg<|(QgU Y.cells).S ?_;rintro mv y1 ⟨ge,mw,rfl,my,hG⟩;refine⟨c1.D ge,rgB ↑x1 ↑y1,ge.any,λb hb=>.inr (UC.1 hb),?_⟩;refine f2k λx2 p2 c2=>xg<|(QgZ (hG.I p2) (Y.I c2) oa).S ?_;rintro kf y2 ⟨gg,hh⟩;rw[hN]at hh;refine⟨c2.D gg,rgB ↑x1 ↑y1++rgB ↑x2 ↑y2,gg.any,λb hb=>(Le.1 hb).imp id λhb=>UC.1 hb,?_⟩;refine f3p (λ_=>QD ⟨xN hh,O,h0.mr.cells,Z⟩)<|f2e ?_;refine⟨kf,La,λb hb=>?_,QA hh,λL hL=>?_⟩
  ·have e1:=c1.size;have e2:=c2.size;rcases Le.1 hb with hb|hb
   ·have:=UC.1 hb;omega
   have:=UC.1 hb;omega
  exact QN hh (by rw[<-hN,(Nf to _).length_eq];omega) (λb hb hm=>hL b hm (Le.2 (.inr (UC.2 (Qi hh b hb)))))
 rintro⟨E,vs⟩ g G ⟨ha,hg,h5,hvo,kg⟩;have gh:=h5.lt;have gi:=hf.I ha;have gj:∀b∈[E],b∈([]:LN)\/↑w'<=b:=λb hb=>.inr (by rw[Lb.1 hb];exact hg);have hq:Zr [E] ↑G va vm ve a:=(h0.up gj).I ha;have kh:Qu [E] ↑G vt to:=(Y.up gj).I ha;have mz:=hq.ed.le;have ki:b2∉[E]:=by have:=hf.lt;simp only[oF];omega
 have m0:b4∉[E]:=ol
 have kj:(rlE a to).length=a.ed.length:=by unfold rlE;rw[Ln]
 have kk:∀e∈rlE a to,(0<=e.1/\e.1<1099511627776)/\0<=e.2.1/\e.2.1<1099511627776:=λe V=>by
  unfold rlE at V;obtain⟨d,hd,rfl⟩:=Lx.1 V;have h1:=ho.ed d hd;have h2:a.al.idxOf d.2.1<to.length:=by rw[hD];exact L7 h1.2.2.1
  have h3:=hM _ (Lm h2);have h4:=Zo h2;simp only[];omega
 refine QW (α:=O3) [(11,11),(56,78)] (λ_=>[]) (λz J=>O6 [E] G J/\QK ↑J E 53 [vs,sS a.st,vm,z]/\J.ownsRow ↑G 179 3 z (rlE a to).length ((rlE a to).flatMap Qp)) oh ?_ ?_
 ·refine Qc<|Qs O gi O O<|QG hq.ed O<|Qa<|xe<|QX (α:=Nat×O3) [(11,11),(59,78)] (λz=>[(59,sS z.1)]) (λz J=>z.1<=a.ed.length/\O6 [E] G J/\QK ↑J E 53 [vs,sS a.st,vm,z.2]/\J.ownsRow ↑G 179 3 z.2 z.1 (((rlE a to).take z.1).flatMap Qp)) (λz=>a.ed.length - z.1) (0,Zq) La ⟨Lo _,O6.Y _ _,h5,QL _ _ _ _⟩ ?_;rintro⟨k,vr⟩ g J ⟨hk,T,hr,U⟩;refine Zk O O (λhH=>?_) (λhH=>?_)
  ·refine Qt ?_;have kn:k=a.ed.length:=by have h6:¬(k:Int)<(a.ed.length:Int):=hH;omega
   rw[Lr oa,kn,<-kj]at U;exact⟨vr,Z,T,hr,U⟩
  have I:k<a.ed.length:=by have h6:(k:Int)<(a.ed.length:Int):=hH;omega
  have hI:=ho.ed _ (Lm I);have ko:(rlE a to)[k]'oa=((a.ed[k]'I).1,O7 to (a.al.idxOf (a.ed[k]'I).2.1),(a.ed[k]'I).2.2):=by unfold rlE;rw[MQ]
  have hu:(rlE a to).take (k+1)=(rlE a to).take k++[(rlE a to)[k]'oa]:=Ll oa;rw[ko]at hu;refine Zd (a.ed[k]'I) λe V=>?_;rw[V]at hI hu;have hix:a.al.idxOf e.2.1<to.length:=by rw[hD];exact L7 hI.2.2.1
  rw[<-Zo hix]at hu;refine Zd (to[a.al.idxOf e.2.1]'hix) λy hy=>?_;rw[hy]at hu;refine Qf<|Qd<|Qn<|Qc<|xie (i:=k) (hq.ed.st T) O O I λm1 h6=>?_;rw[V]at h6;refine x (QF h6 O O)<|QT [sS 0,sS 0,sS 0] λb11 w7 hw gk kq=>Q5 (Qp e) kq ox λw8 h7 gl=>xe ?_;have h8:sW J w8:=hw.Q h7 gk;have kr:=T.size;refine Ql<|Qs O ((gi.J T ki).I h8) O O<|Qs O gl O O<|Qw<|(QpE ((hq.al.st T).I h8) hI.2.2.1).S ?_;rintro m2 w8 ⟨rfl,rfl⟩;refine xii ((kh.st T).I h8) O O hix λm3 gm=>?_;rw[hy]at gm;refine x (Qq gm O)<|Q9 O<|Qo<|Qv (u:=sS y) gl O O (by simp[Qp]) rfl λw9 h9 kt=>xe ?_;have ku:QK ↑w9 b11 179 (Qp (e.1,y,e.2.2)):=kt;have hA:sW J w9:=h8.Q h9 gk;have gn:=hr.I hA;have n9v:E∉ob vr:=QJ U gh;have m4:=hA.size;refine Qr<|Qs O gn O O<|Q3 ku O O<|Qo<|Q8 [Qp (e.1,y,e.2.2)] λm5 m6 hC m7 kv=>?_;refine Qo<|Q2 (m:=1) (news:=Qp (e.1,y,e.2.2)) (L:=[]) (Qm (Qm U hA) hC) O O O (kv.at od) (by simp[Qp,Value.oneCell']) oa (oo hC.size) λgq m8 hJ gr m9=>?_;refine Q9 O<|Qo<|Qv (u:=gq) ((gn.I hC).J gr n9v) O O od (QA hJ) λpc gs kw=>xe ?_;refine Qr<|QB O O<|Qa<|xe<|⟨(k+1,gq),oe,La,I,(((T.D hA.any).D hC.any).O gr (λb hb=>.inr ((Qi U) b hb).1)).V gs,kw,?_⟩;simp only[];rw[hu,LF];simpa using(Qg hJ gs (λb hb=>by have:=(Qi hJ b hb).1;simp only[oF];omega))
 rintro vr g J ⟨T,hr,U⟩;have n9r:E∉ob vr:=QJ U gh;have kr:=T.size;have gt:=Qi U;refine Qc<|Qs O hr O O<|Qw<|(QaL U oa kk).S ?_;rintro r7 w7 ⟨hw,l',hp,kx,kz⟩;have k0:=g0 l' hp kx;subst k0;refine xe ?_;have k4:∀b∈E::ob vr,b∈[E]\/↑G<=b:=λb hb=>by
  rcases Lk.1 hb with rfl|hb
  ·exact .inl Lh
  exact .inr (gt b hb).1
 have gu:∀{v:O3} {l:LI},Qu [E] ↑G v l->Qu [] ↑w7 v l:=λhv=>(((hv.up k4).st (T.S od)).st (hw.S (λb hb=>Lj _ hb))).up (λb hb=>by cases hb);have k5:U4 [] ↑w7 vr l':=QN kz (oo hp.length_eq) od;have k6:Zr [] ↑w7 vs vm vr ⟨sa,a.st,a.mr,l'⟩:=⟨gu (kg [E] (λb hb=>.inr (Lb.1 hb))),gu hq.mr,k5⟩;have hK:sW w' w7:=(ha.Q T hg).O hw (λb hb=>.inr (oo (gt b hb).1));have pd:=hK.size;refine Qc<|Q3 (hr.J hw n9r) O O<|Qw<|(KJ k6 hok).S ?_;rintro v w8 ⟨h7,hF⟩;obtain⟨us,gv,gx,k9⟩:=XW hF;refine Qo<|Zx (us:=us) (((hQ.I hz).I hK).I h7) O gv gx O k9 λw9 h9 hG=>Qb ?_;have gy:=hE.D hK;refine Qj ⟨[sT us,sS 0],⟨⟨_,O,ZQ gx (hG.at (L:=[]) od).cells⟩,rfl,Z⟩,(gy.D h7).Q h9 oa,v,by rw[gv];rfl,?_⟩;exact(Xl hF oa h9).S (oo gy.size)
theorem QoS {motive:LI->Prop}(nil:motive [])(append_singleton:∀u v,motive u->motive (u++[v]))(u:LI):motive u:=by
 have key:∀r:LI,motive r.reverse:=by
  intro r;induction r with
  | nil=>exact nil
  | cons v r ih=>rw[List.reverse_cons];exact append_singleton _ _ ih
 have:=key u.reverse;rw[List.reverse_reverse]at this;exact this
def enc (u:LI):Int:=u.foldl (λn e=>n*33+(e+1)) 0
theorem Vh (u:LI)(v:Int):enc (u++[v])=enc u*33+(v+1):=by unfold enc;rw[Mn];rfl
def QhW (u:LI):Prop:=∀e∈u,0<=e/\e<32
theorem QhW.snoc {v:Int}(h:QhW (u++[v])):QhW u/\0<=v/\v<32:=⟨λe E=>h e (LG _ E),h v od⟩
theorem QpO (h:QhW u):0<=enc u:=by
 induction u using QoS with
 | nil=>exact MC _
 | append_singleton u v ih=>rw[Vh];have:=ih h.snoc.1;have:=h.snoc.2;omega
def rn (a:Qz)(x:Int)(u:LI):Int:=u.foldl (λs v=>nxt a.ed s v) x
theorem Qmd (a:Qz)(x:Int)(u:LI)(v:Int):rn a x (u++[v])=nxt a.ed (rn a x u) v:=by unfold rn;rw[Mn];rfl
def x0 (a:Qz):Int:=if 0<a.st then 0 else -1
structure Fw where
 u:LI
 s:Int
def qQ:Fw:=⟨[],0⟩
def wdN (e:Fw)(d:Ed):Fw:=⟨e.u++[d.2.1],d.2.2⟩
def wdR (a:Qz)(e:Fw):List Fw:=(QM a.ed e.s).map (wdN e)
def wdL (a:Qz)(most:Nat):Nat->Nat->List Fw->Option (List Fw)
 | 0,_,L=>some L
 | f+1,i,L=>if i<L.length then(if(L.getD i qQ).u.length=most then some L else if 1024<(L++wdR a (L.getD i qQ)).length then none else wdL a most f (i+1) (L++wdR a (L.getD i qQ))) else some L
def wds (a:Qz)(most:Nat):Option (List Fw):=wdL a most 1025 0 [qQ]
structure WdI (a:Qz)(most i:Nat)(L:List Fw):Prop where
 ne:0<L.length
 le:i<=L.length
 mx:L.length<=1024
 rx:∀e∈L,e.s=rn a 0 e.u/\0<=e.s/\e.s<a.st/\(∀v∈e.u,v∈a.al)/\e.u.length<=most
 so:L.Pairwise λp q=>enc p.u<enc q.u
 hd:(L.getD 0 qQ).u=[]
 pr:∀e∈L,e.u=[]\/∃j v,j<i/\e.u=(L.getD j qQ).u++[v]
 ch:∀j v,j<i->0<=nxt a.ed (L.getD j qQ).s v->∃e∈L,e.u=(L.getD j qQ).u++[v]
theorem Qkm {L:List Fw}(h:i<L.length):L.getD i qQ∈L:=by simp[oN,h]
theorem Qkn {L r:List Fw}(h:i<L.length):(L++r).getD i qQ=L.getD i qQ:=by simp[oN,Oa h]
theorem WdI.J (U:QS a){most:Nat}{L:List Fw}(h:WdI a most i L)(hi:i<L.length)(hl:(L.getD i qQ).u.length≠most)(hm:¬1024<(L++wdR a (L.getD i qQ)).length):WdI a most (i+1) (L++wdR a (L.getD i qQ)):=by
 have Y:QhW a.al:=U.al;have hSm:∀e∈L,QhW e.u:=λe E u I=>Y u ((h.rx e E).2.2.2.1 u I);have hh:=Qkm hi;obtain⟨r1,r2,r3,r4,r5⟩:=h.rx _ hh;generalize ha:L.getD i qQ=ei at *;have hf:∀e∈wdR a ei,∃d∈QM a.ed ei.s,e=wdN ei d/\d.2.1∈a.al/\0<=d.2.2/\d.2.2<a.st/\nxt a.ed ei.s d.2.1=d.2.2:=λe E=>by
  unfold wdR at E;obtain⟨d,hd,rfl⟩:=Lx.1 E;obtain⟨hr,h0⟩:=Zt hd;have hg:=U.ed d hr;refine⟨d,hd,O,hg.2.2.1,hg.2.2.2.1,hg.2.2.2.2,?_⟩;rw[Qf0];obtain⟨k,hk,rfl⟩:=LR hd;refine Qek _ ei.s _ k hk (λe E=>(Zt E).2) O (λm hs e=>?_);have J:(QM a.ed ei.s).Pairwise λx y:Ed=>x.1<y.1\/(x.1=y.1/\x.2.1<y.2.1):=List.Pairwise.sublist MD U.edi;have:=Mg.1 J m k oa hk hs;have e1:=(Zt (Lm (l:=QM a.ed ei.s) (show m<(QM a.ed ei.s).length by omega))).2;have e2:=(Zt (Lm hk)).2;omega
 have h5:=QpO (hSm _ hh);have hw:∀e∈L,∀v,v∈a.al->enc e.u<enc (ei.u++[v]):=λe E v hv=>by
  have h6:=Y v hv;rw[Vh];rcases h.pr e E with G|⟨j,u,T,G⟩
  ·rw[G];show(0:Int)<_;omega
  rw[G,Vh];have h7:enc (L.getD j qQ).u<enc ei.u:=by
   have:=Mg.1 h.so j i oa hi T;rw[<-ha];simpa[oN,show j<L.length by omega,hi]using this
  have h8:u<32:=by
   have:=(h.rx e E).2.2.2.1 u (by rw[G];simp);exact(Y u this).2
  omega
 have keepD:∀r:List Fw,∀j,j<L.length->(L++r).getD j qQ=L.getD j qQ:=λr j T=>Qkn T;refine⟨by simp;have:=h.ne;omega,by simp;omega,oa,λe E=>?_,?_,by rw[keepD _ 0 h.ne];exact h.hd,λe E=>?_,λj v T V=>?_⟩
 ·rcases Le.1 E with E|E
  ·exact h.rx e E
  obtain⟨d,_,rfl,G,h2,h3,h4⟩:=hf e E;refine⟨?_,h2,h3,λu I=>?_,?_⟩
  ·show d.2.2=rn a 0 (ei.u++[d.2.1]);rw[Qmd,<-r1,h4]
  ·rcases Le.1 (show u∈ei.u++[d.2.1] from I) with I|I
   ·exact r4 u I
   simp only[oF]at I;subst I;exact G
  show(ei.u++[d.2.1]).length<=most;rw[Lc,Lv];omega
 ·rw[Mk];refine⟨h.so,?_,λp J q hq=>?_⟩
  ·unfold wdR;rw[L9];have J:(QM a.ed ei.s).Pairwise λx y:Ed=>x.1<y.1\/(x.1=y.1/\x.2.1<y.2.1):=List.Pairwise.sublist MD U.edi;refine List.Pairwise.imp_of_mem (λ{x y} hx hy h9=>?_) J;have e1:=(Zt hx).2;have e2:=(Zt hy).2;show enc (ei.u++[x.2.1])<enc (ei.u++[y.2.1]);rw[Vh,Vh];omega
  obtain⟨d,_,rfl,G,_⟩:=hf q hq;exact hw p J _ G
 ·rcases Le.1 E with E|E
  ·rcases h.pr e E with G|⟨j,u,T,G⟩
   ·exact .inl G
   exact .inr ⟨j,u,oa,by rw[keepD _ j oa];exact G⟩
  obtain⟨d,_,rfl,_⟩:=hf e E;exact .inr ⟨i,d.2.1,oa,by rw[keepD _ i hi,ha];rfl⟩
 rw[keepD _ j oa]at V ⊢;by_cases e:j=i
 ·subst e;rw[ha]at V ⊢;refine⟨wdN ei (ei.s,v,nxt a.ed ei.s v),MS _ ?_,O⟩;unfold wdR;exact LL (by unfold QM;exact LJ.2 ⟨(zB V),od⟩)
 obtain⟨e',hz,G⟩:=h.ch j v oa V;exact⟨e',LG _ hz,G⟩
theorem QqL (G:0<a.st)(most:Nat):WdI a most 0 [qQ]:=by
 refine⟨od,Nat.zero_le _,od,λe E=>?_,od,by simp[oN,qQ],λe E=>?_,λj v I=>oa⟩
 ·simp only[oF]at E;subst E;exact⟨O,MC _,G,by simp[qQ],by simp[qQ]⟩
 simp only[oF]at E;subst E;exact .inl O
theorem q9 {e:Nat}{bys:Nat}[h:Sl P t e sz bys z]{v:O3}(E:w.ownsRow base e sz v n cs)
  {a:Addr} {c:Nat} {news:LV} (hl:news.length=m*sz) (V:∀j u,news[j]?=some u->w.cell? (a.add j)=some u) (h1:∀u∈news,u.oneCell'=true)
  (hb:n+m<=1099511627776) (hu:bys<=128) (hf:base<=↑w):
  ∃v' w',(Builtin.append_ #[t,t] ty #[v,.slice (some a) m c]).run P w=.ok v' w'/\w'.ownsRow base e sz v' (n+m) (cs++news)/\O6 (ob v) w w'/\(∀b∈ob v',b∈ob v\/↑w<=b)/\w'.ownsRow base e sz v n cs:=by
 obtain⟨i,hi,hz,J,ha⟩:=Sl.info h;have he:(n+m)*bys<=140737488355328:=Lz (Nc hb hu) oa;have hh:n+m<=maxLen:=by simp only[maxLen];omega
 by_cases hg:∃g cap cur,v=sL g n cap/\w.heap[g]?=some (.cells cur e (0,0))/\n+m<=cap
 ·obtain⟨v',w',U,ho,hv,_⟩:=run_append_own (P:=P) w base t ty e i z sz bys h.u hi hz J ha h.zs h.pos v n cs E a m c news hl V h1 hh he hf;have hw:O6 (ob v) w w':=by rw[Qa3];exact O6.of_grown hv
  refine⟨v',w',U,ho,hw,?_⟩;obtain⟨g,cap,cur,rfl,hj,T⟩:=hg;rcases E.2 with⟨h2,_⟩|⟨g2,cap2,hp,h2,h3,h4,h5,h6,h7,h8⟩
  ·cases h2
  cases h2
  have hy:n*i.size+news.length<=hp.size:=by rw[hl,h7,J,<-ME];exact MT _ T
  rw[(run_append_room (P:=P) w t ty e i h.u hi g n cap hp h4 a m c news (by rw[J];exact hl) V h1 T hy)]at U;cases U
  refine⟨λb I=>.inl I,E.1,?_⟩;have hD:=E.1;rcases ho.2 with⟨e1,_⟩|⟨g3,cap3,cur3,e1,k3,k4,k5,k6,k7,k8⟩
  ·cases e1
  cases e1
  refine .inr ⟨g,cap,cur3,O,k3,k4,h5,k6,k7,?_⟩;have:=OW (List.take (n*sz)) k8;rw[List.take_take,M2 (MT _ (Nat.le_add_right n m)),List.take_append_of_le_length oa,Lr (l:=cs) oa]at this;exact this
 have new:∀(old:Nat),old<n+m->∀G,G=(Obj.cells (cs.toArray++news.toArray++Builtin.zeroCells z.cells (grownCap w (n+m) old e - (n+m))) e) ->
   (w.drew.alloc G).ownsRow base e sz (.slice (some ⟨↑w,0,none⟩) (n+m) (grownCap w (n+m) old e)) (n+m) (cs++news):=by
  intro old ho G h0;subst h0;have hge:=grownCap_ge w (n+m) old e;have hq:grownCap w (n+m) old e<=maxLen:=grownCap_le_maxLen w (n+m) old e hh;have hs:(cs++news).length=(n+m)*sz:=by rw[Lc,E.1,hl,ME]
  refine⟨hs,.inr ⟨↑w,_,_,O,hf,Vk w.drew _,hge,hq,?_,?_⟩⟩
  ·simp only[Array.size_append,Od,size_zeroCells,h.zs,E.1,hl,<-Ou];congr 1;omega
  simp only[Array.toList_append,Of];rw[<-LA,<-hs];exact List.take_left
 have stp:∀G,O6 (ob v) w (w.drew.alloc G):=λG=>⟨O,O,O,by rw[zM];exact Nat.le_succ _,λk hk _=>QbK w.drew G k hk⟩;have h9:∀G,sW w (w.drew.alloc G):=λG=>⟨O,O,O,by rw[zM];exact Nat.le_succ _,λk hk _=>QbK w.drew G k hk⟩;have fin:∀(b:Nat),b∈ob (.slice (some ⟨↑w,0,none⟩) (n+m) 0)->b∈ob v\/↑w<=b:=λb I=>by simp[ob]at I;omega
 rcases E.2 with⟨rfl,rfl⟩|⟨g,cap,cur,rfl,hE,hj,hF,hq,hG,hH⟩
 ·have hx:cs=[]:=Ls (ou E.1);subst hx;by_cases hm:m=0
  ·subst hm;have Y:news=[]:=Ls (ou hl);subst Y;refine⟨nS,w,?_,QL _ _ _ _,O6.Y _ _,λb I=>by simp[ob]at I,QL _ _ _ _⟩;simp[Builtin.append_,run_underlying h.u,sizeOf,typeInfo,hi,Builtin.lenOf,Builtin.firstCells,loadCells,loadCellsFrom]
  have U:=run_append_nil (P:=P) w t ty e i z h.u hi hz a m c news (by rw[J];exact hl) V oa oa (by rw[ha];have hA:=he;simp only[oX]at hA;omega);have Y:=new 0 oa _ O;simp only[oX,Oo,Array.empty_append]at Y ⊢;exact⟨_,_,U,Y,stp _,λb I=>fin b I,QL _ _ _ _⟩
 have T:cap<n+m:=by
  rcases OM cap (n+m) with hB|hge
  ·exact hB
  exact OX ⟨g,cap,cur,O,hj,hge⟩ hg
 have hC:∀j u,cs[j]?=some u->w.cell? ((⟨g,0,none⟩:Addr).add j)=some u:=E.cells (g:=g) O;exact⟨_,_,(run_append_grow (P:=P) w t ty e i z h.u hi hz ⟨g,0,none⟩ n cap cs (by rw[J];exact E.1) hC a m c news (by rw[J];exact hl) V T oa (growslice_fits T (by rw[ha];exact he))),new cap T _ O,stp _,λb I=>fin b I,Qm E (h9 _)⟩
theorem Qjq {e bys:Nat}[h:Sl P t e sz bys z]{s:O4}{v:O3}(E:w.ownsRow base e sz v n cs)(G:ev f s=v)
  {a:Addr} {c:Nat} {news:LV} (I:ev f y=.slice (some a) m c) (hl:news.length=m*sz)  (J:At L ↑w a news) (T:∀u∈news,u.oneCell'=true)
  (hb:n+m<=1099511627776) (U:base<=↑w)
  (hK:∀v' w',w'.ownsRow base e sz v' (n+m) (cs++news)->O6 (ob v) w w'->(∀b∈ob v',b∈ob v\/↑w<=b)->w'.ownsRow base e sz v n cs->K (QP f d v') w') (V:bys<=128:=by decide):
  XO P ⟨d,.call ⟨.builtin .append,#[s,y],#[t,t]⟩,ty,pS,af,gd⟩ f w K:=by
 obtain⟨v',w',Y,h2,h3,h4,h5⟩:=q9 (P:=P) (t:=t) (ty:=ty) E hl J.cells T hb V U (c:=c);have ha:(execOp (ev f) ⟨d,.call ⟨.builtin .append,#[s,y],#[t,t]⟩,ty,pS,af,gd⟩).run P w=.ok (.value v') w':=by
  simp[execOp,resolve,invoke,builtin,G,I,Y]
 exact xv ha (hK v' w' h2 h3 h4 h5)
section
variable {C:xA}{pl:xu}{i0:Nat}
theorem QsF {g:α->LV}{x:O4}{e bys:Nat}[Sl P t e sz bys z](G:QR ops i0=⟨d,.indexAddr t x y,ty,pS,af,gd⟩)(T:∀x,(g x).length=sz){es:List α}{v:O3}{I:O2}{k:IntKind}
  (h:∀w',C w'->Zu L ↑w' v es.length sz (es.flatMap g)) (U:C I) (V:ev f x=v) (Y:ev f y=.int k i) (hi:i<es.length)
  (hK:∀a,(∀w',C w'->At L ↑w' a (g es[i]))->XP P ops C K pl (QP f d (.pointer (some a))) w) (hg:Z9 ops f (QR ops i0)=true:=by rfl):
  XP P ops C K ((i0,true)::pl) f w:=by
 obtain⟨a,cap,E,_⟩:=Zu.at (h I U) hi;refine Lg.p (λw'=>by rw[G];exact XZ (V.D E) Y oa oa) ?_ hg;rw[G];refine hK _ λw' hc=>?_;obtain⟨a',cap',ha,J⟩:=Zu.at (h w' hc) hi;rw[ha]at E;cases E
 rw[Jl g sz T es i hi]at J;simpa using J
end
theorem QrG (b:Bool):b=true\/b=false:=by cases b;exact .inr O;exact .inl O
structure FV where
 v:O3
 f:Fw
abbrev Yl (p:FV):LV:=[p.v,sS p.f.s]
theorem Qbp (p:FV):(Yl p).length=2:=rfl
structure WdM (wB:O2)(vL:O3)(es:List FV)(w:O2):Prop where
 st:sW wB w
 l:w.ownsRow ↑wB 382 2 vL es.length (es.flatMap Yl)
 each:∀p∈es,Qu (ob vL) ↑w p.v p.f.u
theorem WdM.I {wB w w':O2}{vL:O3}{es:List FV}(h:WdM wB vL es w)(E:sW w w'):WdM wB vL es w':=⟨h.st.D E,Qm h.l E,λp G=>(h.each p G).I E⟩
theorem WdM.add {wB:O2}{vL vL':O3}{es:List FV}{p:FV}(h:WdM wB vL es w)(G:O6 (ob vL) w w')(hl:w'.ownsRow ↑wB 382 2 vL' (es.length+1) (es.flatMap Yl++Yl p))(I:∀b∈ob vL',b∈ob vL\/↑w<=b)(J:Qu (ob vL) ↑w p.v p.f.u):WdM wB vL' (es++[p]) w':=by
 refine⟨h.st.O G (λb hb=>.inr (Qi h.l b hb).1),by rw[Lc,LF];simpa using hl,λq E=>?_⟩;rcases Le.1 E with E|E
 ·exact(h.each q E).grow G (λb hb=>hb) I
 simp only[oF]at E;subst E;exact J.grow G (λb hb=>hb) I
theorem Qkf {es:List FV}(h:i<es.length):(es.map (·.f)).getD i qQ=(es[i]'h).f:=by simp[oN,h]
theorem Qmt (E:QS a)(s:Int):(QM a.ed s).length<=32:=by
 have G:(QM a.ed s).Pairwise λx y:Ed=>x.1<y.1\/(x.1=y.1/\x.2.1<y.2.1):=List.Pairwise.sublist MD E.edi;have hi:Ys ((QM a.ed s).map λe=>e.2.1):=by
  unfold Ys;rw[L9];refine List.Pairwise.imp_of_mem (λ{x y} hx I U=>?_) G;have e1:=(Zt hx).2;have e2:=(Zt I).2;omega
 have:=XK _ 0 32 hi (λv J=>by
  obtain⟨e,T,rfl⟩:=Lx.1 J;exact E.al _ (E.ed e (Zt T).1).2.2.1)
 rw[Ln]at this;omega
def Qia (a:Qz)(most:Nat)(mk:Bool):Option (List (LI)):=if a.st=0 then some []else(wds a most).map λL=>(L.filter λf=>!mk || decide (f.s∈a.mr)).map (·.u)
def QrO (o:Option (List (LI)))(r:O3)(H:xC):Prop:=(o=none/\r=.tuple #[Zq,sS 3])\/∃l v ps,o=some l/\r=.tuple #[v,sS 0]/\JQ [] H v ps/\ps.map (·.2)=l
theorem QhR (h:Zr [] ↑w va vm ve a)(hck:Jc a=0)(ho:QS a)(most:Nat)(z4:most<=4096)(mk:Bool):
  QU sV 249 [.agg #[va,sS a.st,vm,ve],sS most,.bool mk] w λr w'=>sW w w'/\QrO (Qia a most mk) r ↑w':=by
 have z5:=ho.st0;have hst1:=ho.st1;refine Zm func249 ?_;refine Qc<|Zf [va,sS a.st,vm,ve] λb3 w1 g5 hb3 g7=>x Qe<|Qb<|Qd<|Qc<|Q3 g7 O O<|Qw<|(Y8 (h.I g5)).S ?_;rintro r2 w2 ⟨g8,g9⟩;rw[hck]at g8;subst g8;have J:=g5.D g9;refine Qb<|Ql<|ZN O O<|xe<|Zw rfl<|Qf<|Qd<|Ql<|xb (YB O O) (λka=>OX (show(most:Int)<0 from ka) oa) (λka=>?_);refine Qa<|Qa<|x (Z8 O O)<|QC O<|xe<|Zg rfl (λkb=>OX (show(most:Int) > 4096 from kb) oa) (λkb=>?_);refine Qf ?_;have hO:=g7.I g9;refine Qd<|Qc<|Qs O hO O O<|x (Zc O O)<|xe<|Zg rfl (λhP=>?_) (λhP=>?_)
 ·refine Qc<|x Qe<|Qb<|Qj ⟨[Zq,sS 0],ov,J,.inr ⟨[],Zq,[],by unfold Qia;rw[OV hP],rfl,⟨Zu.nil _ _ _,λp E=>by cases E⟩,rfl⟩⟩
 have mu:0<a.st:=by have h30:¬a.st=0:=hP;omega
 have hW:Qia a most mk=(wds a most).map λL=>(L.filter λf=>!mk || decide (f.s∈a.mr)).map (·.u):=by unfold Qia;rw[OU oa]
 refine Zd (wds a most) λR hR=>?_;rw[hR]at hW;refine Qf<|Qc<|x (QD Z)<|Qo<|Q8 [Yl ⟨nS,qQ⟩] λkc w3 mv mw my=>Qb ?_;have mz:WdM w2 (sL kc 1 1) [⟨nS,qQ⟩] w3:=by
  refine⟨mv,my.own (n:=1) O oa mw,λp E=>?_⟩;simp only[oF]at E;subst E;exact Zu.nil _ _ _
 have m0:∀e∈a.ed,0<=e.1/\e.1<=1099511627776:=λe he=>oo (ho.ed e he)
 refine QW (α:=O3×List FV) [(6,7),(9,10),(12,12),(32,77)] (λz=>[(9,z.1)]) (λz w'=>WdM w2 z.1 z.2 w'/\R=some (z.2.map (·.f))/\z.2.length<=1024) oh ?_ ?_
 ·refine Qc<|Qb<|QX (α:=Nat×O3×List FV) [(6,7),(9,10),(12,12),(32,77)] (λz=>[(9,z.2.1),(10,sS z.1)])
   (λz w'=>z.1<=1025/\WdM w2 z.2.1 z.2.2 w'/\WdI a most z.1 (z.2.2.map (·.f))/\wdL a most (1025 - z.1) z.1 (z.2.2.map (·.f))=R) (λz=>1025 - z.1) (0,sL kc 1 1,[⟨nS,qQ⟩]) ov
   ⟨Lo _,mz,QqL mu most,hR⟩ ?_
  rintro⟨i,vL,es⟩ g4 w4 ⟨m1,hg,h6,G⟩;simp only[]at m1 hg h6 G;have hQ:=h6.mx;have m2:=h6.le;rw[Ln]at hQ m2;have h0:Zu [] ↑w4 vL es.length 2 (es.flatMap Yl):=QN hg.l oa (λb _=>od);refine Qd<|Ql<|Qa<|QG h0 O<|ZW O O<|xe<|Zp O (λhS=>?_) (λhS=>?_)
  ·refine Qt ?_;have m3:¬i<(es.map (·.f)).length:=by rw[Ln];have m4:¬(i:Int)<(es.length:Int):=hS;omega
   refine⟨(vL,es),La,hg,?_,hQ⟩;rw[<-G];generalize 1025 - i=f;cases f with
   | zero=>rfl
   | succ f=>rw[wdL,OU m3]
  have hi:i<es.length:=by have m4:(i:Int)<(es.length:Int):=hS;omega
  rw[show 1025 - i=(1025 - (i+1))+1 by omega,wdL,OV (by rw[Ln];exact hi),Qkf hi]at G;have ke:=hg.each _ (Lm hi);have hU:=h6.rx _ (LL (f:=λq:FV=>q.f) (Lm hi));have hV:=λhl hm=>h6.J ho (by rw[Ln];exact hi) hl hm;rw[Qkf hi]at hV;refine Zd (es[i]'hi) λei hG=>?_;rw[hG]at G ke hU hV;have kf:=hg.st;refine Qf<|Qd<|Qn<|Qd<|Ql<|Qa<|O9 (g:=Yl) (i:=i) Qbp h0 O O hi λa40 kg=>?_;rw[hG]at kg;refine x (ZF O)<|x (Qq (kg.fld 0 _ O) O)<|QG (ke.up (L':=[]) (λb hb=>by cases hb)) rfl<|Qa<|x (Zc rfl rfl)<|xe<|Zg O (λhX=>?_) (λhX=>?_)
  ·refine Qt ?_;have hH:ei.f.u.length=most:=by have m5:(ei.f.u.length:Int)=(most:Int):=hX;omega
   rw[OV hH]at G;exact⟨(vL,es),La,hg,G.symm,hQ⟩
  have hH:ei.f.u.length≠most:=by have m5:¬(ei.f.u.length:Int)=(most:Int):=hX;omega
  rw[OU hH]at G;have hY:=hV hH;refine Qf ?_;have m6:Zr (ob vL) ↑w4 va vm ve a:=((h.I J).up (L':=ob vL) (λb hb=>.inr (Qi hg.l b hb).1)).I kf;have m7:=Qmt ho ei.f.s;have hout:=Qa1 (va:=va) (vm:=vm) (st:=a.st) (m6.ed.I (O6.X [] w4)) ho.eds m0 ei.f.s hU.2.1 oa;refine Zd (QM a.ed ei.f.s) λos kh=>?_;rw[kh]at m7 hout;have m8:wdR a ei.f=os.map (wdN ei.f):=by unfold wdR;rw[kh]
  rw[m8]at G hY;refine Qd<|Qd<|ZK [] [oz 0,oz 1,oz 2,oz 3,oz 4,oz 5,oz 8,oA 6,oz 7]<|pq (λ_ hc=>Zi ((hO.I kf).I hc) O O)<|p Qy<|p Qy<|Lg.pig (g:=Yl) (i:=i) O Qbp h0 O O hi λa49 ki=>?_;rw[hG]at ki;refine p (λ_=>ZF O)<|pq (λ_ hc=>Qq ((ki.fld 1 _ O).I hc) O)<|p Qy<|pk<|xg<|hout.S ?_;rintro ro w5 ⟨m9,kj⟩;have kk:=(O6.X [] w4).D m9;refine⟨kk,?_⟩;refine p (λ_=>Y1 kj O)<|pe ?_;refine Zd (es.map (·.f)++os.map (wdN ei.f)) λL1 kn=>?_;rw[kn]at G hY;refine QX (α:=Nat×O3×List FV) [(9,9),(12,12),(54,74)] (λz=>[(9,z.2.1),(54,sS z.1)])
   (λz w'=>z.1<=os.length/\WdM w2 z.2.1 z.2.2 w'/\U4 (ob z.2.1) ↑w' ro os/\z.2.2.length=es.length+z.1/\(∃h:i<z.2.2.length,z.2.2[i]'h=ei)/\z.2.2.map (·.f)++(os.drop z.1).map (wdN ei.f)=L1) (λz=>os.length - z.1) (0,vL,es) ov
   ⟨Lo _,(hg.I kk),kj,O,⟨hi,hG⟩,kn⟩ ?_
  rintro⟨k,vL2,fs⟩ g6 w6 ⟨hk,hn,hZ,pc,ko,hh⟩;simp only[]at hk hn hZ pc ko hh;refine Zk O O (λga=>?_) (λga=>?_)
  ·refine Qt ?_;have gb:os.length<=k:=by have hI:¬(k:Int)<(os.length:Int):=ga;omega
   rw[Lu gb,Nl,LH]at hh;have pd:Zu [] ↑w6 vL2 fs.length 2 (fs.flatMap Yl):=QN hn.l oa (λb _=>od);have hl1:L1.length=fs.length:=by rw[<-hh,Ln]
   refine Ql<|QG pd O<|x (Z8 O O)<|xe<|Zg O (λgc=>?_) (λgc=>?_)
   ·have hJ:1024<L1.length:=by have pf:(fs.length:Int) > 1024:=gc;omega
    rw[OV hJ]at G;refine Qc<|x Qe<|Qb<|Qj ⟨[Zq,sS 3],ov,J.D hn.st,.inl ⟨by rw[hW,<-G];rfl,O⟩⟩
   have hJ:¬1024<L1.length:=by have pf:¬(fs.length:Int) > 1024:=gc;omega
   rw[OU hJ,<-hh]at G;have kq:=hY hJ;rw[<-hh]at kq;refine Qf<|Qr<|Qa<|QB O O<|Qb<|⟨(i+1,vL2,fs),oe,ov,oe,hn,kq,G⟩
  have T:k<os.length:=by have hI:(k:Int)<(os.length:Int):=ga;omega
  rw[QY T,LS]at hh;refine Zd (os[k]'T) λd hd=>?_;rw[hd]at hh;refine Qf<|Exists.elim ko λge gg=>?_;have kr:=hn.each _ (Lm ge);rw[gg]at kr;refine QW (α:=O3×O3) [(9,9),(12,12),(56,73)] (λz=>[(9,z.1)]) (λz w'=>WdM w2 z.1 (fs++[⟨z.2,wdN ei.f d⟩]) w'/\U4 (ob z.1) ↑w' ro os) oh ?_ ?_
  ·refine Qn<|Qc<|xie (i:=k) hZ O O T λa56 hI=>?_;rw[hd]at hI;refine x (QF hI O O)<|QT [sS 0,sS 0,sS 0] λkt w7 pg ph pn=>Q5 (Qp d) pn ox λI po ku=>xe ?_;have gh:sW w6 I:=pg.Q po ph;have h7:=hn.I gh;have kv:=hZ.I gh;have pp:=kr.I gh;have kw:=pp.up (L':=[]) (λb hb=>by cases hb);have h2:sW I { I with drawn:=I.drawn+1 }:=O6.X [] I
   have hz0:=h2.size;have kx:=hU.2.2.2.2;have V:∀w',sW I w'->O6 (ob vL2) I w'/\w'.ownsRow ↑w2 382 2 vL2 fs.length (fs.flatMap Yl):=λw' hs=>⟨hs.S od,Qm h7.l hs⟩;have kz:kt∉ob vL2:=λhb=>oo (QV hn.l kt hb)
   refine QgL (λw'=>O6 (ob vL2) I w'/\w'.ownsRow ↑w2 382 2 vL2 fs.length (fs.flatMap Yl)) (.f2 [oz 0,oz 1,oz 2,oz 3,oz 4,oz 5,oz 7,oz 8,oz 11,oz 12] 6 9 (.pl [oA 9,oA 10,oz 13,oA 14,oA 15,oz 16]) (.pl [oA 6,oA 10,oz 13,oA 14,oA 15,oz 16])) mixed oh oc (V _ h2) ?_;refine u2<|p Qy<|p Qy<|p Qy<|QsF (g:=Yl) (i:=i) (L:=[]) O Qbp (λw' hc=>QN hc.2 oa (λb _=>od)) (V _ h2) rfl rfl ge λa61 k0=>?_;rw[gg]at k0;refine p (λ_=>ZF O)<|pq (λw' hc=>Qq ((k0 w' hc).fld 0 _ O) O)<|p (QH O)<|pq (λ_ hc=>Qk (ku.J hc.1 kz) O O)<|p (QH O)<|pq (λ_ hc=>Qk (ku.J hc.1 kz) O O)<|pe ⟨?_,?_⟩
   ·refine ue<|xg<|(Z0 (kw.I h2)).S ?_;rintro vk w9 ⟨h8,hok⟩;have h3:=h2.D h8;have pt:=h8.size;have pu:=Qi hok;refine⟨V _ h3,?_⟩;refine uP<|pk<|Q8 [[sS d.2.1]] λbl pw hq pz gi=>?_;have h9:=h3.D hq;have p0:=hq.size;refine⟨V _ h9,?_⟩;refine pk<|Q2 (news:=[sS d.2.1]) (L:=[]) (Qm hok hq) O O O (gi.at od) om oa oa λU gj gk gl p4=>?_;have hA:sW I gj:=h9.O gl (λb hb=>.inr (oo (pu b hb).1));have hr:=Qh.snoc (Za gk (show ↑I<=_ by omega));refine⟨V _ hA,?_⟩;have gm:=(Qh.ints (L:=[]) hr (by simp;omega) od).one;have gn:=(Qh.ints (L:=[]) hr (by simp;omega) od).cells;refine p (λ_=>QD ⟨gn,O,Z⟩)<|pk<|Q8 [Yl ⟨U,wdN ei.f d⟩] λbm gq J p5 hB=>?_;have ha:=hA.D J;refine⟨V _ ha,?_⟩;have hv:=h7.I ha;have gr:=hv.st.size;refine pk<|Qjq (news:=Yl ⟨U,wdN ei.f d⟩) (L:=[]) (m:=1) hv.l O O O (hB.at od) (by intro u hu;simp only[oK,oH,or_false]at hu;rcases hu with rfl|rfl;exact gm;rfl) oa gr λvz p6 gs hw hC gt=>⟨⟨(ha.S od).V hw,gt⟩,p ZI<|pe ?_⟩
    have gu:Qu (ob vL2) ↑gq U (wdN ei.f d).u:=Qh.ints (Qm hr J) (by show(ei.f.u++[d.2.1]).length<=_;rw[Lc,Lv];omega) (λb hb=>QV h7.l b hb);exact⟨(vz,U),La,hv.add hw gs hC gu,(kv.I ha).grow hw (λb hb=>hb) hC⟩
   refine ue<|Q8 [[sS d.2.1]] λbl w9 h8 pz gi=>?_;have h3:=h2.D h8;have pt:=h8.size;refine⟨V _ h3,?_⟩;refine uP<|pk<|xg<|(Z0 (kw.I h3)).S ?_;rintro vk pw ⟨hq,hok⟩;have h9:=h3.D hq;have p0:=hq.size;refine⟨V _ h9,?_⟩;refine pk<|Q2 (news:=[sS d.2.1]) (L:=[]) hok O O O ((gi.I hq).at od) om oa oa λU gj gk gl p4=>?_;have hA:sW I gj:=h9.O gl (λb hb=>.inr (oo ((Qi hok) b hb).1));have hr:=Qh.snoc (Za gk (show ↑I<=_ by omega));refine⟨V _ hA,?_⟩;have gm:=(Qh.ints (L:=[]) hr (by simp;omega) od).one;have gn:=(Qh.ints (L:=[]) hr (by simp;omega) od).cells;refine p (λ_=>QD ⟨gn,O,Z⟩)<|pk<|Q8 [Yl ⟨U,wdN ei.f d⟩] λbm gq J p5 hB=>?_;have ha:=hA.D J;refine⟨V _ ha,?_⟩;have hv:=h7.I ha;have gr:=hv.st.size;refine pk<|Qjq (news:=Yl ⟨U,wdN ei.f d⟩) (L:=[]) (m:=1) hv.l O O O (hB.at od) (by intro u hu;simp only[oK,oH,or_false]at hu;rcases hu with rfl|rfl;exact gm;rfl) oa gr λvz p6 gs hw hC gt=>⟨⟨(ha.S od).V hw,gt⟩,p ZI<|pe ?_⟩
   have gu:Qu (ob vL2) ↑gq U (wdN ei.f d).u:=Qh.ints (Qm hr J) (by show(ei.f.u++[d.2.1]).length<=_;rw[Lc,Lv];omega) (λb hb=>QV h7.l b hb);exact⟨(vz,U),La,hv.add hw gs hC gu,(kv.I ha).grow hw (λb hb=>hb) hC⟩
  rintro⟨vz,U⟩ g14 w14 ⟨k4,k5⟩;simp only[]at k4 k5;refine Qr<|QB O O<|Qa<|xe ?_;exact⟨(k+1,vz,fs++[⟨U,wdN ei.f d⟩]),oe,ov,T,k4,k5,by simp;omega,⟨by simp;omega,by simp only[];rw[Ms ge];exact gg⟩,by simp only[];rw[Ly,LA];exact hh⟩
 rintro⟨vL,es⟩ g20 hD ⟨h4,k6,p7⟩;simp only[]at h4 k6 p7;rw[k6]at hW;have p8:=J.D h4.st;have h0:Zu [] ↑hD vL es.length 2 (es.flatMap Yl):=QN h4.l oa (λb _=>od);refine Qc<|Qb<|Qd<|Ql<|QG h0 O<|Qa<|xe<|QX (α:=Nat×O3×List TV) [(13,13),(15,15),(80,100)] (λz=>[(13,z.2.1),(80,sS z.1)])
  (λz w'=>z.1<=es.length/\sW hD w'/\zk 47 ↑hD w' z.2.1 z.2.2/\z.2.2.map (·.2)=((es.take z.1).filter λp=>!mk || decide (p.f.s∈a.mr)).map (λp=>p.f.u)/\∀p∈z.2.2,Qu (ob z.2.1) ↑w' p.1 p.2) (λz=>es.length - z.1) (0,nS,[]) ov
  ⟨Lo _,O6.Y _ _,QL _ _ _ _,O,λp E=>by cases E⟩ ?_
 rintro⟨k,vT,ps⟩ g21 k9 ⟨hk,hf,hT,hE,hK⟩;simp only[]at hk hf hT hE hK;have hpl:ps.length<=k:=by
  have h1:=OW oV hE;rw[Ln,Ln]at h1;rw[h1];refine Lz (LK _ _) ?_;rw[LC];omega
 refine Zk rfl O (λgv=>?_) (λgv=>?_)
 ·refine Qt ?_;have gb:es.length<=k:=by have hL:¬(k:Int)<(es.length:Int):=gv;omega
  refine Ql<|x Qe<|Qb<|Qj ⟨[vT,sS 0],ov,p8.D hf,.inr ⟨_,vT,ps,hW,O,⟨QN hT oa (λb _=>od),λp E=>(hK p E).up (λb hb=>by cases hb)⟩,?_⟩⟩;rw[hE,Lr gb];show _=((es.map (λp:FV=>p.f)).filter λf=>!mk || decide (f.s∈a.mr)).map (λx:Fw=>x.u);rw[List.filter_map,MB];rfl
 have T:k<es.length:=by have hL:(k:Int)<(es.length:Int):=gv;omega
 have ma:=h4.each _ (Lm T);refine Zd (es[k]'T) λek gx=>?_;rw[gx]at ma;have mc:Qu (ob vT) ↑k9 ek.v ek.f.u:=((ma.up (L':=[]) (λb hb=>by cases hb)).up (λb hb=>.inr (Qi hT b hb).1)).I hf;refine Qf<|Qd<|Qn<|Qc<|O9 (g:=Yl) (i:=k) Qbp (h0.I hf) O O T λa82 hL=>?_;rw[gx]at hL;refine x (QF hL O O)<|QT [nS,sS 0] λb15 w22 p9 qf qj=>Q5 (Yl ek) qj ⟨mc.one,O,Z⟩ λhj ql mf=>xe ?_;have Y:sW k9 hj:=p9.Q ql qf;have hB:=((hO.I h4.st).I hf).I Y;have q4:Qu [] ↑hj vm a.mr:=(((h.I J).mr.I h4.st).I hf).I Y;have hF:(es.take (k+1)).filter (λp=>!mk || decide (p.f.s∈a.mr))=(es.take k).filter (λp=>!mk || decide (p.f.s∈a.mr))++(if(!mk || decide (ek.f.s∈a.mr))=true then[ek]else[]):=by
  rw[Ll T,LT,gx,L4,MP]
 refine QW (α:=Bool) [(84,92)] (λz=>[(92,.bool z)]) (λz w'=>w'=hj/\z=(!mk || decide (ek.f.s∈a.mr))) oh ?_ ?_
 ·refine Or.elim (QrG mk) (λgy=>?_) (λgy=>?_)
  ·subst gy;refine Qr<|Qa<|x (Zj O)<|Qa<|Qs O hB O O<|Qs O mf O O<|Qw<|(ZH q4 ek.f.s).S ?_;rintro r91 hj ⟨rfl,rfl⟩;refine QC O<|xe ?_;exact⟨_,La,O,O⟩
  subst gy;refine Qr<|Qa<|x (Zj O)<|Qa<|ZA<|YP<|QC O<|xe ?_;exact⟨true,La,O,O⟩
 rintro z g23 hj ⟨rfl,hz⟩;rw[<-hz]at hF;refine Q6 rfl (λgz=>?_) (λgz=>?_)
 rotate_left
 ·rw[OU (by rw[gz];decide),LH]at hF;refine Qf<|Qr<|QB O O<|Qa<|xe ?_;exact⟨(k+1,vT,ps),oe,ov,T,hf.D Y,Qm hT Y,by simp only[];rw[hF];exact hE,λp E=>(hK p E).I Y⟩
 rw[OV gz]at hF;have mg:=mc.I Y;have mh:=Qm hT Y;have kx:=mg.le;refine Qr<|Qa<|Qo<|Qej λb94 w24 hM mj q5=>Q9 O<|x (Qk (mf.I hM) O O) <|
  Qo<|Qa5 (base:=↑hj) (q5.own (n:=0) (sz:=1) O oa mj) O (mg.I hM) O (Uy ek.f.u) oa (oo hM.size) λh5 g0 j1 j2 hn25=>?_
 have j3:sW hj g0:=hM.Q j2 mj;have j4:Qh 3 ↑hj g0 h5 ek.f.u:=by simpa[tup]using j1
 have g2:Qu (ob vT) ↑g0 h5 ek.f.u:=Qh.ints j4 kx (λb hb=>QV mh b hb);refine Qo<|Yo (us:=[[h5]]) O O og od ⟨g2.cells,rfl,Z⟩ λb98 w26 mo hb98 za=>?_;have hN:=j3.D mo;have z0:=Qm mh hN;refine Qo<|Q2 (news:=[h5]) (L:=[]) z0 O O O (za.at od) (λy hy=>by simp only[oF]at hy;subst hy;exact g2.one) oa (ot hf.size Y.size hN.size) λmq ms z1 g3 mt=>Qb ?_;have z2:sW hD ms:=((hf.D Y).D hN).O g3 (λb hb=>.inr (Qi hT b hb).1);have z3:zk 47 ↑hD ms mq (ps++[(h5,ek.f.u)]):=zk.snoc z1;refine Qr<|QB O O<|Qa<|xe<|⟨(k+1,mq,ps++[(h5,ek.f.u)]),oe,ov,T,z2,z3,?_,λp E=>?_⟩
 ·simp only[];rw[Ly,hE,hF,Ly];rfl
 rcases Le.1 E with E|E
 ·exact(((hK p E).I Y).I hN).grow g3 (λb hb=>hb) mt
 simp only[oF]at E;subst E;exact(g2.I mo).grow g3 (λb hb=>hb) mt
theorem Un {v:O3}{l':LI}(h:Qu L ↑w v l)(E:Qu L' ↑w v' l'):QU sV 252 [v,v'] w λr w'=>r=.bool (decide (l=l'))/\sW w w':=by
 have hj:=h.le;refine Zm func252 ?_;refine Qc<|Qb<|Qd<|Ql<|QG h O<|Qa<|QG E O<|ZN O O<|xe<|Zg rfl (λY=>?_) (λY=>?_)
 ·refine Qc<|Qb<|Qj ⟨[.bool false],La,?_,O6.Y _ _⟩;have I:l≠l':=λe=>Y (by rw[e]);simp[tup,I]
 refine Qf<|Qd<|Qc<|Qb<|QX (α:=Nat) [(4,5),(11,25)] (λk=>[(5,sS k)]) (λk w'=>sW w w'/\k<=l.length/\(l=l'↔l.drop k=l'.drop k)) (λk=>l.length - k) 0 La ⟨O6.Y _ _,Lo _,od⟩ ?_;rintro k g w1 ⟨G,hk,J⟩
 replace h:=h.I G
 replace E:=E.I G;refine Qd<|Ql<|Qa<|QG h O<|ZW O O<|xe<|Zp rfl (λhf=>?_) (λhf=>?_)
 ·refine Qt<|Qc<|Qb<|Qj ⟨[.bool true],La,?_,G⟩;rw[Lu oa,Lu oa]at J;simp[tup,J]
 have T:k<l.length:=oa
 have U:k<l'.length:=oa
 refine Qf<|Qd<|Qn<|Qd<|ZK [] (Xj 0 9 [])<|p Qy<|p Qy<|pii (i:=k) O h O O T λhn hg=>pq (λ_ hc=>Qq (hg.I hc) O)<|p Qy<|p Qy<|pii (i:=k) O E O O U λho hh=>pq (λ_ hc=>Qq (hh.I hc) O)<|p (λ_=>Jd O O)<|pe ?_;have ha:=G.D (O6.X [] w1);refine Zg rfl (λV=>?_) (λV=>?_)
 ·refine Qc<|Qb<|Qj ⟨[.bool false],La,?_,ha⟩;have I:l≠l':=λe=>V (by simp[e]);simp[tup,I]
 refine Qf<|Qr<|Qa<|QB O O<|Qb<|⟨k+1,oa,La,ha,oa,?_⟩;have he:l[k]'T=l'[k]'U:=Lt.1 V;rw[J,QY T,QY U,he];exact⟨λh=>(List.cons.inj h).2,λh=>by rw[h]⟩
theorem Qlr {ua um ue:O3}(h:Zr L ↑w va vm ve a)(h':Zr L' ↑w ua um ue a):QU sV 251 [.agg #[va,sS a.st,vm,ve],.agg #[ua,sS a.st,um,ue]] w λr w'=>r=.bool true/\sW w w':=by
 have hv:=h.ed.le;refine Zm func251 ?_;refine Qc<|Zf [va,sS a.st,vm,ve] λb2 w1 hp hw hq=>Zf [ua,sS a.st,um,ue] λb3 w2 hf hy I=>Qb ?_;have U:=hp.D hf;have J:=hq.I hf;have V:=h.I U;have Y:=h'.I U;refine Qd<|QW (α:=Unit) [(6,35)] (λ_=>[(35,.bool false)]) (λ_ w'=>sW w2 w') oh ?_ ?_
 ·refine Qr<|Qs O J O O<|Qs O I O O<|Qw<|(Un V.al Y.al).S ?_;rintro r3 w3 ⟨hg,E⟩;rw[OY rfl]at hg;subst hg;refine x (Zj O)<|Qa<|Qs O (J.I E) O O<|Qs O (I.I E) O O<|xb (Jd O O) (λhh=>OX O hh) (λhh=>?_);refine QC O<|Qa<|Qs O (J.I E) O O<|Qs O (I.I E) O O<|Qw<|(Un (V.mr.I E) (Y.mr.I E)).S ?_;rintro r4 w4 ⟨hj,G⟩;rw[OY rfl]at hj;subst hj;have T:=E.D G;refine x (Zj O)<|QC O<|Qa<|Qs O (J.I T) O O<|QG (V.ed.I T) O<|Qs O (I.I T) O O<|QG (Y.ed.I T) O<|xb (Jd O O) (λhm=>OX O hm) (λhm=>?_);refine QC O<|xe ?_;exact⟨(),La,T⟩
 rintro⟨⟩ g w3 E;have ha:=U.D E;refine Zw rfl<|Qf<|Qd<|Qc<|Qb<|QX (α:=Nat) [(4,5),(36,53)] (λk=>[(5,sS k)]) (λk w'=>sW w3 w'/\k<=a.ed.length) (λk=>a.ed.length - k) 0 La ⟨O6.Y _ _,Lo _⟩ ?_;rintro k g w4 ⟨G,hk⟩;have h4:=(h.I ha).ed.I G;have hn:=(J.I E).I G;refine Qd<|Ql<|Qs O hn O O<|QG h4 O<|ZW O O<|xe<|Zp rfl (λhr=>?_) (λhr=>?_)
 ·refine Qt<|Qc<|Qb<|Qj ⟨[.bool true],La,O,ha.D G⟩
 have he:k<a.ed.length:=oa
 refine Qf<|Qd<|Qn<|Qd<|ZK [] (Xj 0 11 [])<|p (QH O)<|pq (λ_ hc=>Qk (hn.I hc) O O)<|p Qy<|pie (i:=k) O h4 O O he λhz hs=>pq (λ_ hc=>QF (hs.I hc) O O)<|p (QH O)<|pq (λ_ hc=>Qk (((I.I E).I G).I hc) O O)<|p Qy <|
  pie (i:=k) O ((h'.I ha).ed.I G) O O he λh0 hu=>pq (λ_ hc=>QF (hu.I hc) O O)<|p (λ_=>Ur O O)<|pe ?_
 refine Zg rfl (λho=>OX O ho) (λho=>?_);refine Qf<|Qr<|Qa<|QB O O<|Qb<|⟨k+1,oa,La,G.D (O6.X _ _),he⟩
theorem QaS [h:S3 P t]{x:O4}{p q:Ed}(hx:ev f x=sT (Qp p))(G:ev f y=sT (Qp q)):
  (execOp (ev f) ⟨d,.binOp .eql t x y E,ty,pS,af,gd⟩).run P w=.ok (.value (.bool (decide (p=q)))) w:=by
 have I:(eqGuard .eql t x y (sT (Qp p)) (sT (Qp q))).run P w=.ok () w:=by simp[eqGuard,h.g]
 simp only[execOp,hx,G,Sem.run_bind,I,Result.andThen_ok,binOp,QaP,Sem.run_pure]
def ex3:Qz:=⟨[0,2],3,[2],[(0,0,2),(0,2,0),(2,2,0)]⟩
def cn3:Qz:=⟨[0,2],2,[1],[(0,0,1),(0,2,0),(1,2,0)]⟩
def se3:List Ed:=[(0,1,0),(0,3,1),(1,1,0)]
theorem Qkw:Jc ex3=0:=oc
theorem Qnt:YG ex3=cn3:=oc
theorem QbD:Jc cn3=0:=oc
theorem QnE:Qma cn3 0 [0,0]=0:=oc
theorem QnF:flw cn3 0 [0,0]=(1,1):=oc
theorem QnD:Qia cn3 2 true=some [[0],[2,0]]:=oc
theorem QoU:Jc ⟨[1,3],2,[1],se3⟩=0:=oc
theorem QoT:(YG ⟨[1,3],2,[1],se3⟩).ed=se3:=oc
theorem Qp1:rlE cn3 [3,1]=[(0,3,1),(0,1,0),(1,1,0)]:=oc
theorem Qsr:([3,1]:LI).mergeSort (λx y=>decide (x<=y))=[1,3]:=by
 refine List.Perm.eq_of_pairwise (le:=λx y:Int=>x<=y) (λa b _ _ E G=>oa) ?_ og ((Nf _ _).D (List.Perm.swap _ _ _));refine(List.pairwise_mergeSort (le:=λx y:Int=>decide (x<=y)) (λa b c E G=>by simp at *;omega) (λa b=>by simp;omega) [3,1]).imp λh=>ou h
theorem QoP (l':List Ed)(E:l'.Perm (rlE cn3 [3,1]))(T:l'.Pairwise Qdb):l'=se3:=by
 rw[Qp1]at E;refine List.Perm.eq_of_pairwise (le:=Qdb) (λa b U hb G I=>?_) T (by unfold se3 Qdb;decide) (E.D (List.Perm.swap _ _ _));have J:=E.mem_iff.1 U;simp only[oK,oH,or_false]at J;simp only[se3,oK,oH,or_false]at hb;unfold Qdb at G I;rcases J with rfl|rfl|rfl <;> rcases hb with rfl|rfl|rfl <;> first|rfl|(exfalso;simp only[]at G I;omega)
theorem Qc5 (w:O2):QU sV 247 [] w λr w'=>sW w w'/\Xb ↑w ↑w' r ex3:=by
 refine Zm func247 ?_;refine Qc<|QT ze λb0 w1 U hf V=>xe ?_;refine Qc<|Qo<|Q8 [[sS 0],[sS 2]] λE w2 Y hm hg=>Qo<|Q8 [[sS 2]] λG w3 I hn hh =>
  x (QD ⟨rfl,O,O,Z⟩)<|x (QD ⟨O,O,O,Z⟩)<|x (QD ⟨O,O,O,Z⟩)<|Qo<|Yo (us:=[Qp (0,0,2),Qp (0,2,0),Qp (2,2,0)]) O O og (by exact(by decide:3*3<=1000000)) ⟨O,O,O,O,O,O,Z⟩ λJ w4 T ho hj=>?_
 have ha:=(Y.D I).D T;have hp:=Y.size;have hq:=I.size;have hF:Xb ↑w1 ↑w4 (.agg #[sL E 2 2,sS 3,sL G 1 1,sL J 3 3]) ex3 :=
  QaD (a:=ex3) ((hg.I I).I T) (hh.I T) hj oa oa oa O O O og og og
 refine x (QD ⟨O,O,O,O,Z⟩)<|Q5 [sL E 2 2,sS 3,sL G 1 1,sL J 3 3] (V.I ha) oy λw5 he hk=>xe ?_;refine Qj ⟨[.agg #[sL E 2 2,sS 3,sL G 1 1,sL J 3 3]],⟨JN hk,Z⟩,(U.D ha).Q he hf,?_⟩;exact(Xl hF V.lt he).S U.size
theorem Qhq (w:O2):QU sV 185 [] w λr w'=>r=.bool true/\sW w w':=by
 refine Zm func185 ?_;refine Qc<|Qb<|Qc<|Qw<|(Qc5 w).S ?_;rintro r1 w1 ⟨hI,va,vm,ve,rfl,hJ⟩;refine Qw<|(QbR (hJ [] od)).S ?_;rintro r2 w2 ⟨hK,v2,rfl,_,hM⟩;have hh:=hM Qkw;rw[Qnt]at hh;obtain⟨ca,cm,ce,rfl,hN⟩:=hh;have hC:=hN [] od;refine Qa<|QO O O<|QO O O<|QT ze λb1 w3 hO hP hQ=>Q5 [ca,sS 2,cm,ce] hQ ⟨hC.al.one,O,hC.mr.one,hC.ed.one,Z⟩ λw4 hS J=>Qb ?_;have hj:sW w2 w4:=hO.Q hS hP;have T:=hC.I hj;refine Qc<|Q3 J O O<|Qo<|Q8 [[sS 0],[sS 0]] λg7 w5 hk g8 hT=>Qw<|(Qqk (u:=[0,0]) (T.I hk) (hT.arr (L:=[]) od (n:=2) (cap:=2) (sz:=1) rfl oa (Lp _)) 0).S ?_;rintro r6 w6 ⟨hU,hm⟩;rw[OU (by rw[QnE];decide),QnF]at hm;subst hm;refine Qa<|QO O O<|QO O O<|QO O O<|x Qe<|x Qe<|Qb ?_;have V:=hk.D hU;refine Qc<|Q3 (J.I V) O O<|Qw<|(QhR (T.I V) QbD ((Zz _).1 QbD) 2 og true).S ?_;rintro r7 w7 ⟨hV,hn⟩;rw[QnD]at hn;have hW:∃I G p1,r7=.tuple #[I,sS 0]/\JQ [] ↑w7 I [G,p1]/\G.2=[0]/\p1.2=[2,0]:=by
  rcases hn with⟨h,_⟩|⟨l,I,ps,hl,h2,Y,E⟩
  ·cases h
  cases hl
  match ps,Y,E with
  | [G,p1],Y,E =>
   simp only[oS,OC,List.cons.injEq,and_true]at E;exact⟨I,G,p1,h2,Y,E.1,E.2⟩
  | [],_,E=>simp at E
  | [_],_,E=>simp at E
  | _::_::_::_,_,E=>simp at E
 obtain⟨I,G,p1,rfl,hX,hY,hZ⟩:=hW;refine Qa<|QO O O<|QO O O<|x Qe<|Qb ?_;have ha:=V.D hV;refine Qc<|Q3 (J.I ha) O O<|Qo<|Q8 [[sS 3],[sS 1]] λg9 w8 ho ka ga =>
  Qw<|(Qe7 (to:=[3,1]) ((T.I ha).I ho) QbD ((Zz _).1 QbD) (ga.arr (L:=[]) od (n:=2) (cap:=2) (sz:=1) rfl oa (Lp _)) rfl og og Qsr QoP ((Zz _).1 QoU)).S ?_
 rintro r9 w9 ⟨gb,v9,rfl,gc⟩;obtain⟨ra,rm,re,rfl,ge⟩:=gc;have hR:=ge [] od;have gg:U4 [] ↑w9 re se3:=by
  have h:=hR.ed;rw[show(YG ⟨[1,3],cn3.st,cn3.mr,se3⟩).ed=se3 from QoT]at h;exact h
 refine Qa<|QO O O<|QO O O<|QT ze λb8 kb gh gi gj=>Qo<|Zx (us:=[ra,sS (YG ⟨[1,3],cn3.st,cn3.mr,se3⟩).st,rm,re]) gj O O O O ⟨hR.al.one,O,hR.mr.one,hR.ed.one,Z⟩ λhp gk gl=>Qb ?_;have hq:sW w9 hp:=gh.Q gk gi;have hr:=(ho.D gb).D hq;have he:=ha.D hr;refine QW (α:=Unit) [(0,0),(33,98)] (λz=>[(0,.bool true)]) (λz w'=>sW hp w') oh ?_ ?_
 ·refine Qr<|Qa<|xb (Zc O O) (λhs=>?_) (λhs=>OX Qkw hs);refine Qa<|Q3 (J.I he) O O<|Qo<|Q8 [[sS 0],[sS 2]] λgm kc gn ke gq=>Qo<|Q8 [[sS 1]] λgr kf hu kg gs =>
   x (QD ⟨O,O,O,Z⟩)<|x (QD ⟨O,O,O,Z⟩)<|x (QD ⟨O,O,O,Z⟩)<|Qo<|Yo (us:=[Qp (0,0,1),Qp (0,2,0),Qp (1,2,0)]) O O og (by exact(by decide:3*3<=1000000)) ⟨O,O,O,O,O,O,Z⟩ λgt gu hf kh gv=>?_
  have hv:=(gn.D hu).D hf;have hL:Zr [] ↑gu (sL gm 2 2) (sL gr 1 1) (sL gt 3 3) cn3 :=
   ⟨((gq.I hu).I hf).arr (L:=[]) od (n:=2) (cap:=2) (sz:=1) rfl oa (OE _),(gs.I hf).arr (L:=[]) od (n:=1) (cap:=1) (sz:=1) rfl oa (OE _),gv.arr (L:=[]) od (n:=3) (cap:=3) (sz:=3) rfl oa (Lp _)⟩
  refine x (QD ⟨O,O,O,O,Z⟩)<|Qw<|(Qlr (a:=cn3) ((T.I he).I hv) hL).S ?_;rintro ki kj ⟨rfl,gx⟩;have hw:=hv.D gx;have U:=(hX.I hr).I hw;refine QC O<|Qa<|Qa<|xb (Zc O O) (λhy=>?_) (λhy=>OX O hy);refine QC O<|Qa<|Qa<|xb (Zc O O) (λhz=>?_) (λhz=>OX O hz);refine QC O<|Qa<|Qa<|xb (Zc O O) (λh0=>?_) (λh0=>OX O h0);refine QC O<|Qa<|Qa<|xb (Zc O O) (λh1=>?_) (λh1=>OX O h1);refine QC O<|Qa<|Qa<|QG U.arr O<|xb (Zc O O) (λh5=>?_) (λh5=>OX O h5);refine QC O<|Qa<|Qa<|O9 (g:=YK) (i:=0) KB U.arr O O od λkk gy=>x (Qq gy rfl)<|Qo<|Q8 [[sS 0]] λkn ko h6 kq gz =>
   Qw<|(Un (l:=G.2) (l':=[0]) ((U.each G od).I h6) (gz.arr (L:=[]) od (n:=1) (cap:=1) (sz:=1) rfl oa (Lp _))).S ?_
  rintro kr kt ⟨h7,g0⟩;rw[hY,OY rfl]at h7;subst h7;have h8:=h6.D g0;have h9:=U.I h8;refine QC O<|Qa<|Qa<|O9 (g:=YK) (i:=1) KB h9.arr O O od λku g2=>x (Qq g2 rfl)<|Qo<|Q8 [[sS 2],[sS 0]] λkv kw hA kx g3 =>
   Qw<|(Un (l:=p1.2) (l':=[2,0]) ((h9.each p1 od).I hA) (g3.arr (L:=[]) od (n:=2) (cap:=2) (sz:=1) rfl oa (Lp _))).S ?_
  rintro kz k0 ⟨hB,g4⟩;rw[hZ,OY rfl]at hB;subst hB;have hg:=(hw.D h8).D (hA.D g4);have hD:=gl.I hg;have hE:=(gg.I hq).I hg;refine QC O<|Qa<|Qa<|xb (Zc O O) (λhF=>?_) (λhF=>OX O hF);refine QC O<|Qa<|Qs O hD O O<|QG hE O<|xb (Zc O O) (λhG=>?_) (λhG=>OX O hG);refine QC O<|Qa<|Qs O hD O O<|xie (i:=1) hE O O og λk4 g5=>x (QF g5 O O)<|x (QD ⟨O,O,O,Z⟩)<|xb (QaS (p:=(0,3,1)) (q:=(0,3,1)) O O) (λhH=>?_) (λhH=>OX O hH);refine QC O<|Qb<|⟨(),La,hg⟩
 rintro z g k5 g6;exact Qj ⟨[.bool true],La,O,(((hI.D hK).D hj).D he).D g6⟩
theorem QhX (w:O2):QU sV 116 [] w λr w'=>r=.bool true/\sW w w':=by
 refine Zm func116 ?_;refine Qc<|Qb<|Qc<|Qw<|(Qhq w).S ?_;rintro G I ⟨rfl,E⟩;refine Qb<|Qj ⟨[.bool true],La,O,E⟩
theorem CL.cel_rq {k:ZS}(h:c.C=k)(v:O3)(qs:List IV):(CL.mk c.ve c.vc v c.vx c.vk c.ev c.co qs c.ex c.cs).C={ k with rq:=qs.map IV.it }:=by rw[<-h];rfl
theorem CL.cel_ex {k:ZS}(h:c.C=k)(v:O3)(qs:List XV):(CL.mk c.ve c.vc c.vr v c.vk c.ev c.co c.rq qs c.cs).C={ k with ex:=qs.map XV.x }:=by rw[<-h];rfl
theorem CL.cel_cs {k:ZS}(h:c.C=k)(v:O3)(qs:List KV):(CL.mk c.ve c.vc c.vr c.vx v c.ev c.co c.rq c.ex qs).C={ k with cs:=qs.map KV.k }:=by rw[<-h];rfl
theorem Qd3 {k:ZS}(h:Ya [] ↑w c)(hc:c.C=k)(T:YQ k=0)(Y:Kb w 4096):
  QU sV 31 [c.val] w λr w'=>sW w w'/\∃va vm ve G I J E,r=.tuple #[.agg #[va,sS (spc k).a.st,vm,ve,G,I,J,E],sS 0]/\ZL [va,sS (spc k).a.st,vm,ve,G,I,J,E]/\Zu [] ↑w' E (spc k).fb.length 4 ((spc k).fb.flatMap Z5):=by
 refine(Ua h Y).S ?_;rintro r w' ⟨hs,v,rfl,⟨us,hv,_,U⟩,V⟩;rw[hc]at V ⊢;obtain⟨va,vm,ve,G,I,J,E,cos,rqs,rfl,_,_,hA⟩:=V T;have ha:us=[va,sS (spc k).a.st,vm,ve,G,I,J,E]:=by
  simpa using(OW (λv=>match v with|Value.agg cs=>cs.toList|_=>[]) hv).symm
 rw[ha]at U;exact⟨hs,va,vm,ve,G,I,J,E,by rw[T],U,(hA [] od).2.2.2.2⟩
theorem Qp2 {k:ZS}(h:Ya [] ↑w c)(hc:c.C=k)(E:YQ k=0)(G:(spc k).a.st<4096)(I:QgA k=true)(J:Kb w 4096):
  QU sV 183 [c.val] w λr w'=>sW w w'/\∃xa xm xe vb,r=.tuple #[.agg #[xa,sS ((spc k).a.st+1),xm,xe],vb,sS 0]/\ZL [xa,xm,xe]/\Qh 3 ↑w w' vb (cmB k):=by
 subst hc;exact QdH h J E G I
abbrev Qpb:LV:=[nS,sS 0,nS,nS,nS,nS,nS,nS]
theorem QrM {P:Prop}{a b:Int}(e:a=b)(h:¬a=b):P:=OX e h
theorem Qer (hj:Kb w 4096):QU sV 115 [] w λr w'=>r=.bool true/\sW w w':=by
 refine Zm func115 ?_;refine Qc<|Qb<|Qc<|Qw<|(J3 1 og w).S ?_;rintro r1 w1 ⟨hL,U,rfl,g7,g8⟩;refine Qw<|(J3 2 og w1).S ?_;rintro r2 w2 ⟨h5,V,rfl,g9,ka⟩;refine Qw<|(J3 2 og w2).S ?_;rintro r3 w3 ⟨hk,c3,rfl,kb,kc⟩;have hM:=((g8 [] od).I h5).I hk;have hN:=(ka [] od).I hk;have hO:=kc [] od;refine QT K9 λE w4 ke ql hP=>QT K9 λG w5 hQ q4 hR=>QT K9 λI w6 h6 q5 Y=>?_;have j1:=hP.lt;have j2:=hR.lt;have j3:=Y.lt;refine Q5 U.cells ((hP.I hQ).I h6) hM.ones λw7 hn kf=>Q5 V.cells ((hR.I h6).J hn ol) hN.ones λw8 ho kg =>
  Q5 c3.cells ((Y.J hn ol).J ho ol) hO.ones λw9 hp kh=>xe ?_
 have hr:sW w3 w9:=((((ke.D hQ).D h6).Q hn oa).Q ho oa).Q hp oa;have Y:∀b∈[E,G,I],↑w3<=b/\b<w6.heap.size:=λb hb=>by
  simp only[oK,oH,or_false]at hb;rcases hb with rfl|rfl|rfl <;> omega
 have m1:∀b∈[E],b∈[E,G,I]:=od
 have m2:∀b∈[G],b∈[E,G,I]:=od
 have m3:∀b∈[I],b∈[E,G,I]:=od
 have j4:w6.heap.size<=w9.heap.size:=by have:=hn.size;have:=ho.size;have:=hp.size;omega
 have nB:∀b,↑w9<=b->b∉[E,G,I]:=λb hb hm=>oo (Y b hm).2
 refine Qc<|Qo<|Q8 [[sS 1]] λb16 za hS z0 ki=>Qo<|Q8 [[sS 0]] λhs z1 h7 z2 kj=>x (QD ⟨O,O,O,Z⟩) <|
  x (ZB [(0,[.string UA]),(1,[sL b16 1 1,sS 1,sL hs 1 1,nS])] ⟨O,O,O,O,Z⟩) <|
  Qo<|Q8 [[.string UA,sL b16 1 1,sS 1,sL hs 1 1,nS]] λh8 kk hA z3 kn=>?_
 have hu:=(hS.D h7).D hA;refine Q9 rfl<|Qo<|Qv (j:=2) (u:=sL h8 1 1) (((kf.J ho ol).J hp ol).I hu) O O od rfl λhB hv ko=>xe ?_;have z4:=hS.size;have z5:=h7.size;have hg:O6 [E,G,I] w9 hB:=hu.any.V (hv.S m1);have kq:Ya [E,G,I] ↑hB (CL.mk U.ve U.vc (sL h8 1 1) U.vx U.vk U.ev U.co [⟨UA,⟨sL b16 1 1,sL hs 1 1,nS,Qbl.a⟩⟩] U.ex U.cs):=by
  have J:=((hM.up (L':=[E,G,I]) (λb hb=>.inr (Y b hb).1)).I hr).st hg;refine⟨J.ev,J.co,Vo.st (w:=kk) ⟨kn.arr (nB _ oa) (n:=1) (cap:=1) (sz:=5) O og (Lp _),λq T=>?_,λq T=>?_⟩ (hv.S m1),J.ex,J.cs⟩
  ·rw[Lb.1 T];exact⟨((ki.I h7).I hA).arr (nB _ oa) (n:=1) (cap:=1) (sz:=1) O og (Lp _),(kj.I hA).arr (nB _ oa) (n:=1) (cap:=1) (sz:=1) O og (Lp _),Zu.nil _ _ 3⟩
  rw[Lb.1 T];exact Js og
 refine Qc<|x (QD ⟨O,O,Z⟩)<|x (QD ⟨O,O,Z⟩)<|Qo<|Q8 [Zh (0,1),Zh (1,1)] λhC w14 hT hb24 kr=>x (QD ⟨O,O,Z⟩) <|
  Qo<|Q8 [[.string Qa7,sL hC 2 2]] λhD kt hU hb26 ku=>?_
 have hw:=hT.D hU;refine Q9 rfl<|Qo<|Qv (j:=3) (u:=sL hD 1 1) (((kg.J hp ol).J (hu.any.V hv) ol).I hw) O O od rfl λhE hy kv=>xe ?_;have hz14:=hT.size;have hh:O6 [E,G,I] hB hE:=hw.any.V (hy.S m2);have hz16:=hh.size;have hz913:=hg.size;have kw:Ya [E,G,I] ↑hE (CL.mk V.ve V.vc V.vr (sL hD 1 1) V.vk V.ev V.co V.rq [⟨Qa7,sL hC 2 2,[(0,1),(1,1)]⟩] V.cs):=by
  have J:=((hN.up (L':=[E,G,I]) (λb hb=>.inr (Y b hb).1)).I hr).st (hg.V hh);refine⟨J.ev,J.co,J.rq,jy.st (w:=kt) ⟨ku.arr (nB _ oa) (n:=1) (cap:=1) (sz:=2) O og (Lp _),λq T=>?_,λq T=>?_⟩ (hy.S m2),J.cs⟩
  ·rw[Lb.1 T];exact(kr.I hU).arr (nB _ oa) (n:=2) (cap:=2) (sz:=2) O og (Lp _)
  rw[Lb.1 T];exact Js og
 refine Qc<|x (QD ⟨O,O,Z⟩)<|x (QD ⟨O,O,Z⟩)<|Qo<|Q8 [Zh (0,1),Zh (1,1)] λhF w17 hV hb30 kx=>x (QD ⟨O,O,O,Z⟩) <|
  Qo<|Q8 [[.string Qa6,sL hF 2 2,sS 1]] λhG kz hW hb32 k0=>?_
 have hz:=hV.D hW;refine Q9 rfl<|Qo<|Qv (j:=4) (u:=sL hG 1 1) (((kh.J (hu.any.V hv) ol).J (hw.any.V hy) ol).I hz) O O od rfl λhe h0 k4=>xe ?_;have hz17:=hV.size;have h1:O6 [E,G,I] hE he:=hz.any.V (h0.S m3);have k5:Ya [E,G,I] ↑he (CL.mk c3.ve c3.vc c3.vr c3.vx (sL hG 1 1) c3.ev c3.co c3.rq c3.ex [⟨Qa6,sL hF 2 2,[(0,1),(1,1)],1⟩]):=by
  have J:=((hO.up (L':=[E,G,I]) (λb hb=>.inr (Y b hb).1)).I hr).st ((hg.V hh).V h1);refine⟨J.ev,J.co,J.rq,J.ex,jm.st (w:=kz) ⟨k0.arr (nB _ oa) (n:=1) (cap:=1) (sz:=3) O og (Lp _),λq T=>?_,λq T=>?_⟩ (h0.S m3)⟩
  ·rw[Lb.1 T];exact(kx.I hW).arr (nB _ oa) (n:=2) (cap:=2) (sz:=2) O og (Lp _)
  rw[Lb.1 T];exact Js og
 have hX:Ya [] ↑he _:=((kq.st hh).st h1).up (L':=[]) od;have k6:Ya [] ↑he _:=(kw.st h1).up (L':=[]) od;have k9:Ya [] ↑he _:=k5.up (L':=[]) od;have hY:=(ko.J (hw.any.V hy) ol).J (hz.any.V h0) ol;have hZ:sW w he:=(((hL.D h5).D hk).D hr).O ((hg.V hh).V h1) (λb hb=>.inr (oq (Y b hb).1 ((hL.D h5).D hk).size));have ga:=CL.cel_rq g7 (sL h8 1 1) [⟨UA,⟨sL b16 1 1,sL hs 1 1,nS,Qbl.a⟩⟩];refine Qc<|Q3 hY O O<|Qw<|(Qd3 (k:=k1C) hX ga Qro (hj.I hZ)).S ?_;rintro r20 ma ⟨mc,sa,sm,se,s1,s2,s3,s4,rfl,mf,gb⟩;rw[Qrn]at gb;refine Qa<|QO O O<|QO O O<|QT Qpb λb4 w21 mg mh mj=>Q5 [sa,sS (spc k1C).a.st,sm,se,s1,s2,s3,s4] mj mf λmo mq ms=>Qb ?_;have gc:sW ma mo:=mg.Q mq mh;have h2:=mc.D gc;have ge:=hZ.D h2;refine Qc<|Q3 (hY.I h2) O O<|Qw<|(Qp2 (k:=k1C) (hX.I h2) ga Qro (by rw[Qoj];decide) Qpt (hj.I ge)).S ?_;rintro r23 gg ⟨mt,xa,xm,mu,vb,rfl,hH,gh⟩;rw[Qpu]at gh;have mv:Qu [] ↑gg vb [2]:=Qh.ints (L:=[]) gh od od;refine Qa<|QO O O<|QO O O<|QO O O<|QT ze λb6 w24 mw my mz=>Q5 [xa,sS ((spc k1C).a.st+1),xm,mu] mz ⟨hH.1,O,hH.2.1,hH.2.2.1,Z⟩ λm0 m4 m5=>x Qe<|Qb ?_;have gi:sW gg m0:=mw.Q m4 my;have h3:=mt.D gi;have hI:=h2.D h3;have gj:=ge.D h3;refine Qc<|x (Zi ((kv.J (hz.any.V h0) ol).I hI) O O)<|Qw<|(Qd3 (k:=k2C) (k6.I hI) (CL.cel_ex g9 (sL hD 1 1) [⟨Qa7,sL hC 2 2,[(0,1),(1,1)]⟩]) QsO (hj.I gj)).S ?_;rintro r26 m6 ⟨m7,ta,tm,te,t1,t2,t3,t4,rfl,hto,gk⟩;rw[Qrl]at gk;refine Qa<|QO O O<|QO O O<|QT Qpb λb9 w27 m8 m9 pc=>Q5 [ta,sS (spc k2C).a.st,tm,te,t1,t2,t3,t4] pc hto λpd pf pg=>Qb ?_;have gl:sW m6 pd:=m8.Q pf m9;have hf:=m7.D gl;have gm:=hI.D hf;have gn:=gj.D hf;refine Qc<|Q3 (k4.I gm) O O<|Qw<|(Qd3 (k:=k3C) (k9.I gm) (CL.cel_cs kb (sL hG 1 1) [⟨Qa6,sL hF 2 2,[(0,1),(1,1)],1⟩]) QsN (hj.I gn)).S ?_;rintro r29 ph ⟨pn,ua,um,ue,u1,u2,u3,u4,rfl,po,gq⟩;rw[Qri]at gq;refine Qa<|QO O O<|QO O O<|QT Qpb λb11 w30 pp pt pu=>Q5 [ua,sS (spc k3C).a.st,um,ue,u1,u2,u3,u4] pu po λgr pw pz=>Qb ?_;have gs:sW ph gr:=pp.Q pw pt;have ha:=pn.D gs;have gt:=pg.I ha;refine QW (α:=Unit) [(0,0),(55,105)] (λz=>[(0,.bool true)]) (λz w'=>sW gr w') oh ?_ ?_
 ·refine Qr<|Qa<|xb (Zc O O) (λgu=>?_) (λgu=>OX O gu);refine Qa<|Qa<|xb (Zc O O) (λgv=>?_) (λgv=>OX O gv);refine QC O<|Qa<|Qa<|xb (Zc O O) (λgx=>?_) (λgx=>OX O gx);refine QC O<|Qa<|Qa<|xb (Zc O O) (λgy=>?_) (λgy=>OX O gy);refine QC O<|Qa<|Q9 O<|x (Qk (((ms.I h3).I hf).I ha) O O)<|x (QD ⟨O,O,O,O,Z⟩)<|Qo<|Q8 [Z5 ⟨1,3,0,1⟩] λb73 w32 gz hb73 p0 =>
   Qw<|(qw (l:=[⟨1,3,0,1⟩]) ((((((gb.I gc).I h3).I hf).I ha)).I gz) (p0.arr (L:=[]) od (n:=1) (cap:=1) (sz:=4) rfl og (Lp _))).S ?_
  rintro r74 w33 ⟨rfl,p4⟩;have hJ:=gz.D p4;refine QC O<|Qa<|Q9 O<|x (Qk (((m5.I hf).I ha).I hJ) O O)<|xb (Zc O O) (λg0=>?_) (λg0=>QrM (by rw[Qoj];rfl) g0);refine QC O<|Qa<|Qa<|Qo<|Q8 [[sS 2]] λb83 w34 g2 hb83 p5 =>
   Qw<|(qy (l:=[2]) (l':=[2]) (((((mv.I gi).I hf).I ha).I hJ).I g2) (p5.arr (L:=[]) od (n:=1) (cap:=1) (sz:=1) rfl oa (Lp _))).S ?_
  rintro r84 w35 ⟨g3,p6⟩;rw[OY rfl]at g3;subst g3;have h4:=hJ.D (g2.D p6);refine QC O<|Qa<|Q9 O<|Qs O (gt.I h4) O O<|xb (Zc O O) (λg4=>?_) (λg4=>QrM Qrk g4);refine QC O<|Qa<|Qs O (gt.I h4) O O<|x (QD ⟨O,O,O,O,Z⟩)<|Qo<|Q8 [Z5 ⟨3,1,0,-1⟩] λb96 w36 g5 hb96 p7 =>
   Qw<|(qw (l:=[⟨3,1,0,-1⟩]) ((((gk.I gl).I ha).I h4).I g5) (p7.arr (L:=[]) od (n:=1) (cap:=1) (sz:=4) rfl og (Lp _))).S ?_
  rintro r97 w37 ⟨rfl,p8⟩;have hK:=h4.D (g5.D p8);refine QC O<|Qa<|Qs O (pz.I hK) O O<|x (QD ⟨O,O,O,O,Z⟩)<|Qo<|Q8 [Z5 ⟨3,2,0,-1⟩] λb103 w38 g6 hb103 p9 =>
   Qw<|(qw (l:=[⟨3,2,0,-1⟩]) (((gq.I gs).I hK).I g6) (p9.arr (L:=[]) od (n:=1) (cap:=1) (sz:=4) rfl og (Lp _))).S ?_
  rintro r104 w39 ⟨rfl,qf⟩;refine QC O<|Qb<|⟨(),La,hK.D (g6.D qf)⟩
 rintro z g w40 qj;exact Qj ⟨[.bool true],La,O,(gn.D ha).D qj⟩
theorem Qff (E:Kb w 4096):QU sV 47 [] w λr w'=>r=.bool true/\sW w w':=by
 refine Zm func47 ?_;refine Qc<|Qb<|QW (α:=Unit) [(0,4)] (λz=>[(0,.bool true)]) (λz w'=>sW w w') oh ?_ ?_
 ·refine Qr<|Qw<|(Qer E).S ?_;rintro U G ⟨rfl,I⟩;refine Qa<|Qw<|(QhX G).S ?_;rintro r2 V ⟨rfl,J⟩;refine QC O<|Qb<|⟨(),La,I.D J⟩
 rintro z g Y T;exact Qj ⟨[.bool true],La,O,T⟩
def Kl:ByteArray:=⟨#[98,117,102,102,101,114]⟩
def UG:Jp:=⟨Kl,⟨[1,2],2,[0,1],[(0,1,1),(1,2,0)]⟩⟩
theorem zD {α:Type}(q:α->Bool)(x:Int):∀(l:List α) (i:Nat),x∈ixs q i l↔∃k,∃h:k<l.length,x=((i+k:Nat):Int)/\q (l[k]'h)=true
 | [],i=>by simp[ixs]
 | y::l,i=>by
  rw[ixs];have ih:=zD q x l (i+1);constructor
  ·intro h;by_cases J:q y=true
   ·rw[OV J]at h;rcases Lk.1 h with h|h
    ·exact⟨0,od,by rw[h];simp,J⟩
    obtain⟨k,T,E,G⟩:=ih.1 h;exact⟨k+1,by simp;omega,by rw[E];congr 1;omega,G⟩
   rw[OU J]at h;obtain⟨k,T,E,G⟩:=ih.1 h;exact⟨k+1,by simp;omega,by rw[E];congr 1;omega,G⟩
  rintro⟨k,T,E,G⟩;cases k with
  | zero =>
   have I:q y=true:=G;rw[OV I];exact Lk.2 (.inl (by rw[E];simp))
  | succ k =>
   have I:=ih.2 ⟨k,ou T,by rw[E];congr 1;omega,G⟩;split
   ·exact Lj _ I
   exact I
theorem Qbi {α:Type}(q:α->Bool):∀(l:List α) (i:Nat),Ys (ixs q i l)
 | [],_=>List.Pairwise.nil
 | y::l,i=>by
  rw[ixs];split
  ·refine L5.2 ⟨λx hx=>?_,Qbi q l (i+1)⟩;obtain⟨k,_,E,_⟩:=(zD q x l (i+1)).1 hx;omega
  exact Qbi q l (i+1)
theorem yZ {c:ZS}(h:Z2 c=0):XQ c.ev=0:=by
 unfold Z2 at h;by_cases E:XQ c.ev≠0
 ·rw[OV E]at h;exact OX h E
 exact Lt.1 E
theorem yY {l:List VE}(h:XQ l=0):l.length<=32:=by
 unfold XQ at h;by_cases E:32<l.length
 ·rw[OV E]at h;cases h
 omega
theorem Qip {l:List VE}(h:XQ l=0):Yh (unc l):=by
 refine⟨λx hx=>?_,Qbi _ _ _⟩;obtain⟨k,E,e,_⟩:=(zD _ _ _ _).1 hx;have:=yY h;omega
theorem QlW {l:List VE}(h:XQ l=0):(unc l).length<=32:=(Qip h).len
def hck (c:ZS)(hi:LI):Int :=
 if Z2 c≠0 then Z2 c else if 0<c.ex.length+c.cs.length then 13 else if J9 (c.ev.length:Int) none hi≠0 then J9 (c.ev.length:Int) none hi else
 if(c.rq.all λr=>decide (mrg (λp q=>p && !q) r.a.al hi=[]))=true then 0 else 9
theorem Qlm {p:α->Bool}{l:List α}{k:Nat}(h:k<l.length):(l.drop k).all p=(p (l[k]'h) && (l.drop (k+1)).all p):=by rw[QY h,ML]
theorem Qhy (h:Ya [] ↑w c)(hH:Qu [] ↑w vh hi):
  QU sV 36 [c.val,vh] w λr w'=>r=sS (hck c.C hi)/\sW w w':=by
 have hB:=h.ex.arr.le;have hC:=h.cs.arr.le;have hD:=h.rq.arr.le;have h3:=hH.le;have E:hck c.C hi=if Z2 c.C≠0 then Z2 c.C else if 0<c.ex.length+c.cs.length then 13 else if J9 (c.ev.length:Int) none hi≠0 then J9 (c.ev.length:Int) none hi else
   if(c.rq.all λr=>decide (mrg (λp q=>p && !q) r.p.a.al hi=[]))=true then 0 else 9:=by
  unfold hck;rw[show c.C.ex.length=c.ex.length from Ln ..,show c.C.cs.length=c.cs.length from Ln ..,show c.C.rq=c.rq.map (·.it) from rfl,List.all_map];rfl
 refine Zd (hck c.C hi) λR hR=>?_;rw[hR]at E ⊢;refine Zm func36 ?_;refine Qc<|Zf c.cells λb2 w1 hv hE hw=>Qb<|Qd<|Qc<|Q3 hw O O<|Qw<|(Qat (h.I hv)).S ?_;rintro _ w2 ⟨rfl,hy⟩;refine Qb ?_;have G:=hv.D hy;have U:=hw.I hy;refine Ql<|ZN O O<|xe<|Zg rfl (λhf=>?_) (λhf=>?_)
 ·have J:Z2 c.C≠0:=hf;rw[OV J]at E;refine Ql<|Qb<|Qj ⟨[_],La,by rw[E];rfl,G⟩
 have J:¬Z2 c.C≠0:=hf;rw[OU J]at E;refine Qf<|Qd<|Qc<|Qs O U O O<|QG (h.ex.arr.I G) O<|Qs O U O O<|QG (h.cs.arr.I G) O<|QB O O<|x (Z8 O O)<|xe<|Zg rfl (λhg=>?_) (λhg=>?_)
 ·have hh:0<c.ex.length+c.cs.length:=by have hj:(c.ex.length:Int)+(c.cs.length:Int) > 0:=hg;omega
  rw[OV hh]at E;refine Qc<|Qb<|Qj ⟨[_],La,by rw[E];rfl,G⟩
 have hh:¬0<c.ex.length+c.cs.length:=by have hj:¬(c.ex.length:Int)+(c.cs.length:Int) > 0:=hg;omega
 rw[OU hh]at E;refine Qf<|Qd<|Ql<|Qs O U O O<|QG (h.ev.arr.I G) O<|Qw<|(qY (hH.I G) _).S ?_;rintro _ w3 ⟨rfl,rfl⟩;refine Qb<|Ql<|ZN O O<|xe<|Zg rfl (λhm=>?_) (λhm=>?_)
 ·have V:J9 (c.ev.length:Int) none hi≠0:=hm;rw[OV V]at E;refine Ql<|Qb<|Qj ⟨[_],La,by rw[E];rfl,G⟩
 have V:¬J9 (c.ev.length:Int) none hi≠0:=hm;rw[OU V]at E;have h4:=YT (Lt.1 J);have hF:c.ev.length<=32:=yY (yZ (Lt.1 J));have hz:=(Xk _ _ _).1 (Lt.1 V);have h3:hi.length<=c.ev.length:=xI c.ev.length hi (hz.2.1.imp λhG e=>oa) hz.1;refine Qf ?_;have h0:=h.rq.arr.I G;refine Qd<|Qc<|Qs O U O O<|QG h0 O<|Qa<|xe<|QX (α:=Nat) [(4,4),(8,8),(33,43)] (λz=>[(33,sS z)]) (λz w'=>z<=c.rq.length/\sW w3 w'/\R=if((c.rq.drop z).all λr=>decide (mrg (λp q=>p && !q) r.p.a.al hi=[]))=true then 0 else 9) (λz=>c.rq.length - z) 0 La ⟨Lo _,O6.Y _ _,by rw[NK];exact E⟩ ?_
 rintro k g w4 ⟨hk,hn,I⟩;have Y:=G.D hn;refine Zk rfl O (λho=>?_) (λho=>?_)
 ·refine Qt ?_;have h5:c.rq.length<=k:=by have hj:¬(k:Int)<(c.rq.length:Int):=ho;omega
  rw[Lu h5,List.all_nil,OV rfl]at I;refine Qc<|Qb<|Qj ⟨[_],La,by rw[I];rfl,Y⟩
 have T:k<c.rq.length:=by have hj:(k:Int)<(c.rq.length:Int):=ho;omega
 have hp:=Lm T;rw[Qlm T]at I;refine Zd (c.rq[k]'T) λq hq=>?_;rw[hq]at hp I;have ha:=(h.rq.each q hp).I Y;have hI:q.p.a.al.length<=32:=(h4.rq q.it (LL hp)).al_le;refine Qf<|Qd<|Qn<|Qc<|O9 (g:=Zn) (i:=k) (λ_=>O) (h0.I hn) O O T λhJ h1=>?_;rw[hq]at h1;refine x (QF (us:=Zn q) h1 O O)<|QT [.string .empty,nS,sS 0,nS,nS] λb8 w5 h6 h7 h8=>Q5 (Zn q) h8 ⟨O,ha.al.one,O,ha.mr.one,ha.ed.one,Z⟩ λw6 h9 hA=>xe ?_;have he:sW w4 w6:=h6.Q h9 h7;refine Qc<|Q9 O<|Qs O hA O O<|Qa<|Qw<|(Qay (ha.al.I he) (hH.I (Y.D he)) oa).S ?_;rintro _ w7 ⟨h2,rfl⟩;refine x (Zj O)<|xe<|Q6 rfl (λhs=>?_) (λhs=>?_)
 ·have hu:=Vu hs;rw[O0 hu,Bool.false_and,OU MV]at I;refine Qc<|Qb<|Qj ⟨[_],La,by rw[I];rfl,Y.D (he.D h2)⟩
 have hu:=Km hs;rw[OY hu,OK]at I;refine Qf<|Qr<|QB O O<|Qa<|xe ?_;exact⟨k+1,by show c.rq.length - (k+1)<c.rq.length - k;omega,La,T,(hn.D he).D h2,I⟩
structure LvV where
 c:CL
 pa:O3
 pm:O3
 pe:O3
 p:Qz
 vh:O3
 vu:O3
 hi:LI
 un:LI
abbrev Yi (V:LvV):LV:=[V.c.ve,V.c.vc,V.c.vr,V.c.vx,V.c.vk,V.pa,sS V.p.st,V.pm,V.pe,V.vh,V.vu]
structure LvA (H:xC)(V:LvV):Prop where
 c:Ya [] H V.c
 a:Zr [] H V.pa V.pm V.pe V.p
 h:Qu [] H V.vh V.hi
 u:Qu [] H V.vu V.un
theorem LvA.I {w w':O2}{V:LvV}(h:LvA ↑w V)(E:sW w w'):LvA ↑w' V:=⟨h.c.I E,h.a.I E,h.h.I E,h.u.I E⟩
theorem LvA.ones {H:xC}{V:LvV}(h:LvA H V):ZL (Yi V):=⟨h.c.ev.arr.one,h.c.co.arr.one,h.c.rq.arr.one,h.c.ex.arr.one,h.c.cs.arr.one,h.a.al.one,O,h.a.mr.one,h.a.ed.one,h.h.one,h.u.one,Z⟩
abbrev Va:LV:=[ZX,ZX,ZX,ZX,ZX,ZX,sS 0,ZX,ZX,ZX,ZX]
instance:Bw sV 113 Va [(0,5),(5,4),(9,1),(10,1)]:={}
structure LvK (k:CL)(hi:LI)(V:LvV):Prop where
 c:V.c=k
 p:V.p=J7 (O8 k.C.co)
 h:V.hi=hi
 u:V.un=unc k.C.ev
theorem Vj (h:Ya [] ↑w c)(hH:Qu [] ↑w vh hi)(hz:Kb w 4096)(hp:hck c.C hi=0->plE c.C=0):
  QU sV 51 [c.val,vh] w λr w'=>sW w w'/\∃us,r=.tuple #[sT us,sS (hck c.C hi)]/\us.length=11/\ZL us/\(hck c.C hi=0->∃V:LvV,us=Yi V/\LvA ↑w' V/\LvK c hi V):=by
 refine Zm func51 ?_;refine Qc<|Zf c.cells λb2 w1 hq hO h0=>QT Va λb4 w2 hr hQ ha=>Qb ?_;have hf:=hq.D hr;have hR:=hq.size;have hg:=h0.I hr;refine Qd<|Qc<|Q3 hg O O<|Qa<|Qw<|(Qhy (h.I hf) (hH.I hf)).S ?_;rintro _ w3 ⟨rfl,G⟩;refine Zd (hck c.C hi) λE hE=>?_;rw[hE]at hp ⊢;refine Qb ?_;have T:=hf.D G;refine Ql<|ZN O O<|xe<|Zg rfl (λhh=>?_) (λhh=>?_)
 ·have U:E≠0:=hh;refine Qc<|x (ZB [] Z)<|Qa<|Q5 Va (ha.I G) ⟨O,O,O,O,O,O,O,O,O,O,O,Z⟩ λw4 h1 h2=>Qb<|Qj ⟨[sT Va,sS E],⟨JN h2,O,Z⟩,T.Q h1 oa,Va,O,O,⟨O,O,O,O,O,O,O,O,O,O,O,Z⟩,λe=>OX e U⟩
 have U:E=0:=Lt.1 hh;have h3:=hp U;refine Qf<|Qc<|Q3 (hg.I G) O O<|Qw<|(jj (h.I T) (hz.I T)).S ?_;rintro _ w5 ⟨Y,va,vt,e,rfl,hP⟩;obtain⟨he,A,pa,pm,pe,qs,rfl,h4,hT,hok⟩:=hP.shape;rw[h3]at he;subst he;obtain⟨h5,h6,hU,hs⟩:=hok O;have h7:=(hs [] od).1;have h8:A=J7 (O8 c.C.co):=by unfold J7;rw[h6]
 have h9:=T.D Y;refine Qa<|QO O O<|QO O O<|QO O O<|QT Xf λb7 w6 hA hB hC=>Q5 [pa,sS A.st,pm,pe] hC h4 λw7 hD hF=>x Qe<|Qb ?_;have I:sW w5 w7:=hA.Q hD hB;have hu:=h9.D I;refine Qd<|Ql<|ZN O O<|xe<|Zw rfl<|Qf ?_;have hv:=(hg.I G).I (Y.D I);have hS:=Qaz (h.ev.I hu);have hev:XQ c.ev=0:=yZ h5;rw[hev,OV rfl]at hS;refine Qc<|Qs O hv O O<|Qw<|hS.S ?_;rintro _ w9 ⟨J,vu,rfl,hj⟩;have hG:(unc c.ev).length<=32:=QlW hev;have hw:Qu [] ↑w9 vu (unc c.ev):=Qh.ints hj oa od;refine Qa<|QO O O<|QO O O<|x Qe<|Qb ?_;have hk:=hu.D J;have hI:sW w3 w9:=(Y.D I).D J;have hL:LvA ↑w9 ⟨c,pa,pm,pe,A,vh,vu,hi,unc c.ev⟩:=⟨h.I hk,h7.I (I.D J),hH.I hk,hw⟩;refine Qc<|Q3 (hv.I J) O O<|Q3 (hF.I J) O O<|Qa<|Qa<|x (ZB [(0,c.cells),(1,[pa,sS A.st,pm,pe]),(2,[vh]),(3,[vu])] ⟨O,O,O,O,hH.cells,O,hw.cells,O,Z⟩)<|x VX <|
  Q5 (Yi ⟨c,pa,pm,pe,A,vh,vu,hi,unc c.ev⟩) ((ha.I G).I hI) hL.ones λhy hn hJ=>Qb ?_
 have ho:sW w hy:=hk.Q hn oa;refine Qj ⟨[sT (Yi ⟨c,pa,pm,pe,A,vh,vu,hi,unc c.ev⟩),sS 0],⟨JN hJ,O,Z⟩,ho,_,by rw[U];rfl,O,hL.ones,λ_=>⟨⟨c,pa,pm,pe,A,vh,vu,hi,unc c.ev⟩,O,?_,⟨O,h8,O,O⟩⟩⟩;have hK:∀L:LN,(∀b∈L,b<↑w3)->Zr L ↑w5 pa pm pe A:=λL hL=>(hs L hL).1;have hM:b4<w3.heap.size:=(ha.I G).lt;have hN:Zr [] ↑hy pa pm pe A:=(((hK [b4] (λb hb=>by rw[Lb.1 hb];exact hM)).I (I.D J)).st hn).up λb hb=>by cases hb
 exact⟨h.I ho,hN,hH.I ho,Qh.ints (Qg hj hn λb hb hm=>by have:=(Qi hj b hb).1;rw[Lb.1 hm]at this;have:=(Y.D I).size;omega) (Lz hG og) od⟩
theorem xcH {x:O4}{l:List O4}
   {first:LV} (E:∃fn,Fu P g fn) (hx:ev f x=.func (.func g) first.toArray capt.toArray) (h:QU P g (first++l.map (ev f)++capt) w λv w'=>K (QP f d v) w'):
  XO P ⟨d,.call ⟨.value x,l.toArray,at_⟩,ty,pS,af,gd⟩ f w K:=by
 obtain⟨fn,G⟩:=E;exact xc (fn:=fn) hx h
structure RpV where
 t:Bool
 vs:O3
 o:Bool
 vw:O3
 vo:O3
 c:Bool
 vp:O3
 ev:Int
abbrev ZE (R:RpV):LV:=[.bool R.t,R.vs,.bool R.o,R.vw,R.vo,.bool R.c,R.vp,sS R.ev]
abbrev rp8:RpV:=⟨false,nS,false,nS,nS,false,nS,0⟩
structure jq (L:LN)(H:xC)(V:LvV)(i:Nat)(R:RpV):Prop where
 ones:ZL (ZE R)
 p1:0<i->R.t=(nbl V.p).2/\Qu L H R.vs (nbl V.p).1
 p2:1<i->R.o=(obs V.p V.hi []).isNone/\Qu L H R.vw ((obs V.p V.hi []).elim [] (·.1))/\Qu L H R.vo ((obs V.p V.hi []).elim [] (·.2))
 p3:2<i->R.c=(cns V.p V.hi V.un).isNone/\R.ev=(cns V.p V.hi V.un).elim (-1) (·.2)/\Qu L H R.vp ((cns V.p V.hi V.un).elim [] (·.1))
theorem Qu.sb {b:Nat}{v:O3}(h:Qu L ↑w v l)(hb:b∈L)(E:O6 [b] w w'):Qu L ↑w' v l:=Zu.J h E λx hx=>by rw[Lb.1 hx];exact hb
theorem Yr.b {N b:Nat}{L:LN}{w w':O2}{v:O3}{l:LI}(h:Yr N ↑w v l)(hL:∀x∈L,x<N)(hb:b∈L)(E:O6 [b] w w'):Qu L ↑w' v l:=Qu.sb (h L hL) hb E
theorem jq.J {b:Nat}{V:LvV}{R:RpV}(h:jq L ↑w V i R)(hb:b∈L)(E:O6 [b] w w'):jq L ↑w' V i R :=
 ⟨h.ones,λhi=>⟨(h.p1 hi).1,Qu.sb (h.p1 hi).2 hb E⟩,λhi=>⟨(h.p2 hi).1,Qu.sb (h.p2 hi).2.1 hb E,Qu.sb (h.p2 hi).2.2 hb E⟩,λhi=>⟨(h.p3 hi).1,(h.p3 hi).2.1,Qu.sb (h.p3 hi).2.2 hb E⟩⟩
theorem upN {H:xC}{v:O3}(h:Qu L H v l):Qu [] H v l:=h.up λb hb=>by cases hb
theorem jq.nil {H:xC}{V:LvV}{R:RpV}(h:jq L H V i R):jq [] H V i R :=
 ⟨h.ones,(λhi=>⟨(h.p1 hi).1,upN (h.p1 hi).2⟩),(λhi=>⟨(h.p2 hi).1,upN (h.p2 hi).2.1,upN (h.p2 hi).2.2⟩),(λhi=>⟨(h.p3 hi).1,(h.p3 hi).2.1,upN (h.p3 hi).2.2⟩)⟩
theorem jq.I {L:LN}{i:Nat}{w w':O2}{V:LvV}{R:RpV}(h:jq L ↑w V i R)(E:sW w w'):jq L ↑w' V i R :=
 ⟨h.ones,λhi=>⟨(h.p1 hi).1,(h.p1 hi).2.I E⟩,λhi=>⟨(h.p2 hi).1,(h.p2 hi).2.1.I E,(h.p2 hi).2.2.I E⟩,λhi=>⟨(h.p3 hi).1,(h.p3 hi).2.1,(h.p3 hi).2.2.I E⟩⟩
section
variable {w0:O2}{V:LvV}{b:Nat}{R:RpV}(hbL:b∈L)(hlt:∀x∈L,x<↑w)(hw:sW w0 w)(hL:LvA ↑w0 V)(hp:Pl9 V.p)(hB:QK ↑w b 118 (ZE R++Yi V))
include hbL hlt hw hL hp hB
theorem QlZ (hR:jq L ↑w V 0 R):
  QU sV 124 [sP b] w λr w'=>r=sS 0/\O6 [b] w w'/\∃R',QK ↑w' b 118 (ZE R'++Yi V)/\jq L ↑w' V 1 R':=by
 have h:=hL.I hw;refine Zm func124 ?_;refine Qc<|Qb<|Ql<|Qa<|Qa<|Z7 O<|Q9 O<|Q9 O<|x (ZR (us:=[V.pa,sS V.p.st,V.pm,V.pe]) hB O O O)<|Qo<|Q8 [[V.pa,sS V.p.st,V.pm,V.pe]] λb11 U E hh Y =>
  Qw<|(jk (q:=⟨V.pa,V.pm,V.pe,V.p⟩) ⟨Y.arr od (n:=1) (cap:=1) (sz:=4) rfl og (OE _),λp hp=>by rw[List.mem_singleton.1 hp];exact h.a.I E⟩ hp.ok (Int.le_trans hp.s9 og)).S ?_
 rintro _ w2 ⟨ha,v,rfl,G⟩;have I:=E.D ha;refine Qa<|QO O O<|QO O O<|QO O O<|Z7 O<|Q9 O<|Q9 O<|Qo<|Qv (u:=v) (hB.I I) O O (L6 O) G.ints.one λw3 J he =>
  Z7 rfl<|Q9 O<|Q9 O<|Qo<|Qv (u:=.bool (nbl V.p).2) he O O (L6 O) O λw4 T hf=>Qb ?_
 have hg:∀x∈L,x<U.heap.size:=λx hx=>LU (hlt x hx) E.size;refine Ql<|Qb<|Qj ⟨[_],La,O,(I.any.V J).V T,⟨(nbl V.p).2,v,R.o,R.vw,R.vo,R.c,R.vp,R.ev⟩,hf,⟨?_,λ_=>⟨O,Qu.sb (Yr.b G hg hbL J) hbL T⟩,λh=>OX h og,λh=>OX h og⟩⟩;obtain⟨_,_,o3⟩:=hR.ones;exact⟨O,G.ints.one,o3⟩
theorem QlY (hi:Yh V.hi)(hR:jq L ↑w V 1 R):
  QU sV 125 [sP b] w λr w'=>r=sS 0/\O6 [b] w w'/\∃R',QK ↑w' b 118 (ZE R'++Yi V)/\jq L ↑w' V 2 R':=by
 have h:=hL.I hw;have hd:sW w { w with drawn:=w.drawn+1 }:=O6.X _ _
 refine Zm func125 ?_;refine Qc<|Qb<|Qd<|ZK [] (Xj 0 32 [13,22,26,30])<|p Qy<|p Qy<|p Qy<|p Qy<|p (YN O)<|p (QH O)<|p (QH O)<|pq (λ_ hc=>ZR (us:=[V.pa,sS V.p.st,V.pm,V.pe]) (hB.I hc) O O O) <|
  p Qy<|p (YN O)<|p (QH O)<|p (QH O)<|pq (λ_ hc=>Qk (hB.I hc) O O)<|pkk<|xg<|(QdD (w:={ w with drawn:=w.drawn+1 }) (h.a.I hd) (h.h.I hd) hp hi).S ?_
 rintro _ w2 ⟨ha,Y,v2,rfl,J,T⟩;have U:=hd.D ha;refine p Qy<|p (λ_=>Q0 O O)<|p (λ_=>Q0 O O)<|p (λ_=>Q0 O O)<|p (λ_=>Q0 O O) <|
  p (YN rfl)<|p (QH O)<|p (QH O)<|pkk<|Qv (u:=Y) (hB.I U) O O (L6 O) J.ints.one λw3 E he=>p (YN O) <|
  p (QH rfl)<|p (QH O)<|pkk<|Qv (u:=v2) he O O (L6 O) T.ints.one λw4 G hf=>p (YN O)<|p (QH O) <|
  p (QH rfl)<|pkk<|Qv (u:=.bool (obs V.p V.hi []).isNone) hf O O (L6 O) O λw5 I hg=>p ZI<|pe ?_
 refine Ql<|Qb ?_;have hh:jq L ↑w5 V 1 R:=⟨hR.ones,λh=>⟨(hR.p1 h).1,Qu.sb (Qu.sb (Qu.sb ((hR.p1 h).2.I U) hbL E) hbL G) hbL I⟩,λh=>OX h og,λh=>OX h og⟩;refine Qj ⟨[_],La,O,((U.any.V E).V G).V I,⟨R.t,R.vs,(obs V.p V.hi []).isNone,Y,v2,R.c,R.vp,R.ev⟩,hg,⟨?_,λ_=>hh.p1 og,λ_=>⟨O,Qu.sb (Qu.sb (Yr.b J hlt hbL E) hbL G) hbL I,Qu.sb (Qu.sb (Yr.b T hlt hbL E) hbL G) hbL I⟩,λh=>OX h og⟩⟩;obtain⟨_,o2,_,_,_,o6⟩:=hR.ones;exact⟨O,o2,O,J.ints.one,T.ints.one,o6⟩
theorem QlX (hi:Yh V.hi)(Y:Yh V.un)(hR:jq L ↑w V 2 R):
  QU sV 126 [sP b] w λr w'=>r=sS 0/\O6 [b] w w'/\∃R',QK ↑w' b 118 (ZE R'++Yi V)/\jq L ↑w' V 3 R':=by
 have h:=hL.I hw;have hd:sW w { w with drawn:=w.drawn+1 }:=O6.X _ _
 refine Zm func126 ?_;refine Qc<|Qb<|Qd<|ZK [] (Xj 0 37 [18,27,31,35])<|p Qy<|p Qy<|p Qy<|p Qy<|p (YN O)<|p (QH O)<|p (QH O)<|pq (λ_ hc=>ZR (us:=[V.pa,sS V.p.st,V.pm,V.pe]) (hB.I hc) O O O) <|
  p Qy<|p (YN O)<|p (QH O)<|p (QH O)<|pq (λ_ hc=>Qk (hB.I hc) O O)<|p Qy<|p (YN O)<|p (QH O)<|p (QH O)<|pq (λ_ hc=>Qk (hB.I hc) O O) <|
  pkk<|xg<|(zo (w:={ w with drawn:=w.drawn+1 }) (h.a.I hd) (h.h.I hd) (h.u.I hd) hp hi Y).S ?_
 rintro _ w2 ⟨ha,U,rfl,E⟩;have G:=hd.D ha;refine p Qy<|p (λ_=>Q0 O O)<|p (λ_=>Q0 O O)<|p (λ_=>Q0 O O)<|p (λ_=>Q0 O O) <|
  p (YN rfl)<|p (QH O)<|p (QH O)<|pkk<|Qv (u:=U) (hB.I G) O O (L6 O) E.ints.one λw3 I he=>p (YN O) <|
  p (QH rfl)<|p (QH O)<|pkk<|Qv (u:=sS ((cns V.p V.hi V.un).elim (-1) (·.2))) he O O (L6 O) O λw4 J hf=>p (YN O)<|p (QH O) <|
  p (QH rfl)<|pkk<|Qv (u:=.bool (cns V.p V.hi V.un).isNone) hf O O (L6 O) O λw5 T hg=>p ZI<|pe ?_
 refine Ql<|Qb ?_;have s:∀{v:O3} {l:LI},Qu L ↑w v l->Qu L ↑w5 v l:=λhv=>Qu.sb (Qu.sb (Qu.sb (hv.I G) hbL I) hbL J) hbL T;refine Qj ⟨[_],La,O,((G.any.V I).V J).V T,⟨R.t,R.vs,R.o,R.vw,R.vo,(cns V.p V.hi V.un).isNone,U,(cns V.p V.hi V.un).elim (-1) (·.2)⟩,hg,⟨?_,λ_=>⟨(hR.p1 og).1,s (hR.p1 og).2⟩,λ_=>⟨(hR.p2 og).1,s (hR.p2 og).2.1,s (hR.p2 og).2.2⟩,λ_=>⟨O,O,Qu.sb (Qu.sb (Yr.b E hlt hbL I) hbL J) hbL T⟩⟩⟩;obtain⟨o1,o2,o3,o4,o5,_⟩:=hR.ones;exact⟨o1,o2,o3,o4,o5,O,E.ints.one,O,Z⟩
end
def gT (i:Nat):Nat:=if i=0 then 124 else if i=1 then 125 else 126
theorem Qru (i:Nat):∃fn,Fu sV (gT i) fn:=by
 unfold gT;by_cases E:i=0
 ·rw[OV E];exact⟨_,inferInstance⟩
 rw[OU E];by_cases G:i=1
 ·rw[OV G];exact⟨_,inferInstance⟩
 rw[OU G];exact⟨_,inferInstance⟩
theorem QoG {w0:O2}{V:LvV}{b:Nat}{R:RpV}(hbL:b∈L)(hlt:∀x∈L,x<↑w)(hw:sW w0 w)(hL:LvA ↑w0 V)(hp:Pl9 V.p)(hi:Yh V.hi)(E:Yh V.un)(hB:QK ↑w b 118 (ZE R++Yi V))(hR:jq L ↑w V i R)(I:i<3):
  QU sV (gT i) [sP b] w λr w'=>r=sS 0/\O6 [b] w w'/\∃R',QK ↑w' b 118 (ZE R'++Yi V)/\jq L ↑w' V (i+1) R':=by
 have G:i=0\/i=1\/i=2:=oa
 rcases G with rfl|rfl|rfl
 ·exact QlZ hbL hlt hw hL hp hB hR
 ·exact QlY hbL hlt hw hL hp hB hi hR
 exact QlX hbL hlt hw hL hp hB hi E hR
abbrev tsN (i:Nat):ByteArray:=if i=0 then⟨#[116,114,105,109]⟩else if i=1 then⟨#[111,98,115,101,114,118,101,114]⟩else⟨#[99,111,110,115,105,115,116,101,110,116]⟩
abbrev tsC (i:Nat):LV:=[.string (tsN i),.func (.func (gT i)) #[] #[]]
theorem Qiq :QU sV 52 [] w λr w'=>sW w w'/\∀L:LN,(∀b∈L,b<↑w)->Zu L ↑w' r 3 2 ([0,1,2].flatMap tsC):=by
 refine Zm func52 ?_;refine Qc<|Qb<|Qc<|x (QD ⟨O,O,Z⟩)<|x (QD ⟨O,O,Z⟩)<|x (QD ⟨O,O,Z⟩)<|Qo<|Yo (us:=[tsC 0,tsC 1,tsC 2]) O O og od ⟨rfl,rfl,rfl,rfl,rfl,rfl,Z⟩ λE T G U I=>Qb<|Qj ⟨[_],⟨rfl,Z⟩,G,λL hL=>I.arr (λJ=>OX (hL E J) oa) (n:=3) (cap:=3) (sz:=2) rfl og (Lp _)⟩
abbrev Qrc:LV:=ZE rp8++Va
instance:Bw sV 118 Qrc [(0,8),(8,11)]:={}
instance:Bw sV 59 (ZE rp8) [(0,1),(1,1),(2,1),(3,1),(4,1),(5,1),(6,1),(7,1)]:={}
structure HOk (k:ZS)(hi:LI):Prop where
 e:plE k=0
 p:Pl9 (J7 (O8 k.co))
theorem yA {k:ZS}(h:hck k hi=0):Yh hi/\Yh (unc k.ev):=by
 unfold hck at h;by_cases E:Z2 k≠0
 ·rw[OV E]at h;exact OX h E
 rw[OU E]at h;have hev:=yZ (Lt.1 E);by_cases I:0<k.ex.length+k.cs.length
 ·rw[OV I]at h;cases h
 rw[OU I]at h;by_cases G:J9 (k.ev.length:Int) none hi≠0
 ·rw[OV G]at h;exact OX h G
 have J:=(Xk _ _ _).1 (Lt.1 G);have hl:=yY hev;exact⟨⟨λx hx=>oo (J.1 x hx),J.2.1⟩,Qip hev⟩
theorem QgM (h:Ya [] ↑w c)(hH:Qu [] ↑w vh hi)(h5:Kb w 4096)(hO:hck c.C hi=0->HOk c.C hi):
  QU sV 15 [c.val,vh] w λr w'=>sW w w'/\∃R:RpV,r=.tuple #[sT (ZE R),sS (hck c.C hi)]/\ZL (ZE R)/\(hck c.C hi≠0->R=rp8)/\(hck c.C hi=0->∃V:LvV,LvK c hi V/\jq [] ↑w' V 3 R):=by
 refine Zm func15 ?_;refine Qc<|Zf c.cells λb2 w1 hr gl h6=>QT (ZE rp8) λJ w2 hs gm hu=>Qb ?_;have U:=hr.D hs;have gn:=hr.size;refine Qc<|Q3 (h6.I hs) O O<|Qa<|Qw<|(Vj (h.I U) (hH.I U) (h5.I U) λe=>(hO e).e).S ?_;rintro _ w3 ⟨hv,us,rfl,h7,h8,hV⟩;have ha:=yA (k:=c.C) (hi:=hi);refine Zd (hck c.C hi) λE hE=>?_;rw[hE]at hO hV ha ⊢;refine Qa<|QO O O<|QO O O<|QT Va λb6 w4 h9 hA hB=>Qo<|Zx (us:=us) hB O O h7 O h8 λw5 hC hD=>Qb ?_;have he:sW w3 w5:=h9.Q hC hA;have hF:=U.D hv;have hw:=hF.D he;have hf:=(hu.I hv).I he;refine Qd<|Ql<|ZN O O<|xe<|Zg rfl (λhg=>?_) (λhg=>?_)
 ·have I:E≠0:=hg;refine Qc<|x (ZB [] Z)<|Qa<|Q5 (ZE rp8) hf ⟨O,O,O,O,O,O,O,O,Z⟩ λw6 hG hI=>Qb<|Qj ⟨[sT (ZE rp8),sS E],⟨JN hI,O,Z⟩,hw.Q hG oa,rp8,O,⟨O,O,O,O,O,O,O,O,Z⟩,λ_=>O,λe=>OX e I⟩
 have I:E=0:=Lt.1 hg;obtain⟨V,rfl,hL,hK⟩:=hV I;have hp:Pl9 V.p:=by rw[hK.p];exact(hO I).p
 have hJ:Yh V.hi:=by rw[hK.h];exact(ha I).1
 have hM:Yh V.un:=by rw[hK.u];exact(ha I).2
 have hN:=hL.I he;refine Qf<|Qc<|Q3 hD O O<|x (ZB [(1,Yi V)] ⟨O,O,Z⟩)<|Zf (ZE rp8++Yi V) λG w7 hP hQ hy=>Qb ?_;have gq:=hu.lt;refine Qd<|Qc<|Qw<|Qiq.S ?_;rintro v8 w8 ⟨hz,hR⟩;have hS:=hy.lt;have h0:Zu [G] ↑w8 v8 3 2 ([0,1,2].flatMap tsC):=hR [G] λb hb=>by rw[Lb.1 hb];exact hS
 refine QG h0 O<|Qa<|xe ?_;have hT:=hP.D hz;have hU:jq [J,G] ↑w8 V 0 rp8:=⟨⟨O,O,O,O,O,O,O,O,Z⟩,(λh=>OX h og),(λh=>OX h og),(λh=>OX h og)⟩;refine QX (α:=Nat×RpV) [(5,5),(10,11),(27,39)] (λz=>[(27,sS z.1)]) (λz w'=>z.1<=3/\O6 [G] w8 w'/\QK ↑w' G 118 (ZE z.2++Yi V)/\jq [J,G] ↑w' V z.1 z.2) (λz=>3 - z.1) (0,rp8) La ⟨Lo _,O6.Y _ _,hy.I hz,hU⟩ ?_;rintro⟨k,R⟩ g w9 ⟨hk,hh,hj,T⟩;simp only[]at hk hj T;have hm:sW w5 w9:=hT.Q hh hQ;have hW:=hw.D hm;refine Zk rfl O (λhn=>?_) (λhn=>?_)
 ·refine Qt ?_;have hX:k=3:=by have ho:¬(k:Int)<(3:Nat):=hn;omega
  subst hX;refine Ql<|Z7 O<|Q9 O<|x (ZR (us:=ZE R) hj O O O)<|Q5 (ZE R) (hf.I hm) T.ones λgr h1 hq=>Qb<|Qj ⟨[sT (ZE R),sS 0],⟨JN hq,O,Z⟩,hW.Q h1 oa,R,by rw[I];rfl,T.ones,λe=>OX I e,λ_=>⟨V,hK,?_⟩⟩;have hY:=T.J (b:=J) od h1;exact hY.nil
 have hlt:k<[0,1,2].length:=by have ho:(k:Int)<(3:Nat):=hn;show k<3;omega
 have hZ:([0,1,2]:LN)[k]'hlt=k:=by
  have ga:k=0\/k=1\/k=2:=by have ho:k<3:=hlt;omega
  rcases ga with rfl|rfl|rfl <;> rfl
 refine Qf<|Qd<|Qn<|Qc<|O9 (g:=tsC) (es:=[0,1,2]) (i:=k) (λ_=>O) (h0.st hh) O O hlt λgs h2=>?_;rw[hZ]at h2;refine x (QF (us:=tsC k) h2 O O)<|QT [.string .empty,.nilFunc] λb10 gt gb gc hq=>Q5 (tsC k) hq ov λh3 ge gg=>xe ?_;have Y:sW w9 h3:=gb.Q ge gc;have h4:=hj.I Y;have gh:∀x∈[J,G],x<h3.heap.size:=λx hx=>by
  simp only[oK,oH,or_false]at hx;have:=hf.lt;have:=h4.lt;rcases hx with rfl|rfl <;> omega
 refine Qc<|Qs O gg O O<|Qa<|Qo<|xcH (first:=[]) (capt:=[]) (Qru k) O<|(QoG (b:=G) (L:=[J,G]) od gh (hm.D Y) hN hp hJ hM h4 (T.I Y) hlt).S ?_;rintro _ gu ⟨rfl,gi,R',gj,gk⟩;refine Qb<|Ql<|ZN O O<|xe<|Zw rfl<|Qf<|Qr<|QB O O<|Qa<|xe ?_;exact⟨(k+1,R'),by show 3 - (k+1)<3 - k;have ho:k<3:=hlt;omega,La,hlt,(hh.V Y.any).V gi,gj,gk⟩
theorem Qmr {V e1 e2 Y s2 n1 n2:Nat}{E G:O3}{c1 c2:LV}(h1:w.ownsRow U e1 Y E n1 c1)(h2:w.ownsRow V e2 s2 G n2 c2)(he:e1≠e2):∀b∈ob E,b∉ob G:=by
 intro b hb I;rcases h1.2 with⟨rfl,_⟩|⟨g,cap,cur,rfl,_,J,_⟩
 ·cases hb
 rcases h2.2 with⟨rfl,_⟩|⟨g',cap',cur',rfl,_,T,_⟩
 ·cases I
 have ha:b=g:=Lb.1 hb;have hf:b=g':=Lb.1 I;rw[<-ha]at J;rw[<-hf,J]at T;injection T with h3
 injection h3 with h4 h5
 exact he h5
theorem Qhx (h:Zr [] ↑w va vm ve a):
  QU sV 166 [.agg #[va,sS a.st,vm,ve]] w λr w'=>sW w w'/\∃va' vm' ve',r=.agg #[va',sS a.st,vm',ve']/\Qh 3 ↑w w' va' a.al/\Qh 3 ↑w w' vm' a.mr/\w'.ownsRow ↑w 179 3 ve' a.ed.length (a.ed.flatMap Qp):=by
 refine Zm func166 ?_;refine Qc<|Zf [va,sS a.st,vm,ve] λb1 w1 hj hz hr=>QT Xf λb2 E hk h0 hn=>xe ?_;have G:=hj.D hk;have h1:=hj.size;have I:=hr.I hk;have U:sW E { E with drawn:=E.drawn+1 }:=O6.X _ _
 refine Qd<|ZK [] [oz 0,oz 1,oz 3,oz 4,oz 5,oz 6,oz 8,oz 9,oA 2,oA 7,oA 10,oz 11,oA 12]<|p (QH O)<|pq (λ_ hc=>Qk (I.I hc) O O)<|p (QH O)<|pq (λ_ hc=>Qk (I.I hc) O O)<|p (QH O)<|pq (λ_ hc=>Qk (I.I hc) O O)<|p (QH O)<|pq (λ_ hc=>Qk (I.I hc) O O) <|
  pk<|xg<|(Z0 (w:={ E with drawn:=E.drawn+1 }) ((h.al.I G).I U)).S ?_
 rintro V w3 ⟨hs,hu⟩;have J:=U.D hs;refine⟨J,?_⟩;refine pk<|xg<|(Z0 (h.mr.I (G.D J))).S ?_;rintro Y w4 ⟨hp,hv⟩;have T:=J.D hp;refine⟨T,?_⟩;refine pk<|xg<|(yT (h.ed.I (G.D T))).S ?_;rintro v5 w5 ⟨ha,he⟩;have hf:=T.D ha;refine⟨hf,?_⟩;have hg:=Qm hu (hp.D ha);have hh:=Qm hv ha;have hw:=hn.I hf;refine p (λ_=>QD ⟨xN hg,O,xN hh,xN he,Z⟩)<|pkk<|qo [V,sS a.st,Y,v5] hw ⟨QA hg,O,QA hh,QA he,Z⟩ λw6 hq hy=>pe ?_;have h2:=G.size;have k:∀{e sz n N:Nat} {v:O3} {cs:LV},w5.ownsRow N e sz v n cs->↑E<=N->w6.ownsRow ↑w e sz v n cs:=λho hN=>Za (Qg ho hq λb hb hm=>by have:=(Qi ho b hb).1;rw[Lb.1 hm]at this;have:=hn.lt;omega) oa;exact Qj ⟨[.agg #[V,sS a.st,Y,v5]],⟨JN hy,Z⟩,(G.D hf).Q hq oa,V,Y,v5,O,k hg U.size,k hh J.size,k he T.size⟩
def jr (c:ZS)(A:Qz):ZS:=⟨c.ev,[⟨(c.co.map (·.nm)).headD .empty,A⟩],c.rq,[],[]⟩
def coP (N:Nat)(ev:List VE)(q:IV)(i:Nat)(v:O3)(w:O2):Prop :=
 if i=3 then w.ownsRow N 94 5 v ev.length (ev.flatMap Zy) else
 if i=12 then ∃b,v=sL b 1 1/\N<=b/\QK ↑w b 81 (Zn q) else
 if i=13 then ∃ve b,v=.agg #[ve,sL b 1 1,ZX,ZX,ZX]/\w.ownsRow N 94 5 ve ev.length (ev.flatMap Zy)/\N<=b/\QK ↑w b 81 (Zn q) else
 ∃b,v=sP b/\N<=b/\QK ↑w b 46 K9
theorem QkR {ev:List VE}{q:IV}(i:Nat)(v:O3)(w w':O2)(h:coP N ev q i v w)(E:sW w w'):coP N ev q i v w':=by
 unfold coP at *;by_cases e1:i=3
 ·rw[OV e1]at *;exact Qm h E
 rw[OU e1]at *;by_cases e2:i=12
 ·rw[OV e2]at *;obtain⟨b,G,I,J⟩:=h;exact⟨b,G,I,J.I E⟩
 rw[OU e2]at *;by_cases e3:i=13
 ·rw[OV e3]at *;obtain⟨ve,b,G,I,J,T⟩:=h;exact⟨ve,b,G,Qm I E,J,T.I E⟩
 rw[OU e3]at *;obtain⟨b,G,I,J⟩:=h;exact⟨b,G,I,J.I E⟩
theorem QhI {V:LvV}(h:LvA ↑w V)(hp:Pl9 V.p)(hi:Yh V.hi)(hr:0<V.c.co.length):
  QU sV 91 [sT (Yi V)] w λr w'=>sW w w'/\∃us,r=.tuple #[sT us,sS 0]/\us.length=5/\ZL us/\Qn6 ↑w ↑w' (sT us) (jr V.c.C (ZO V.p V.hi)):=by
 refine Zm func91 ?_;refine Qc<|Zf (Yi V) λb1 w1 gg ph ka=>QT K9 λb2 w2 gh pn gi=>Qb ?_;have hC:=gg.D gh;have po:=gg.size;have hQ:=ka.I gh;refine Qc<|Q9 O<|x (ZR (us:=[V.pa,sS V.p.st,V.pm,V.pe]) hQ O O O)<|Qs O hQ O O<|Qw<|(ji (h.a.I hC) (h.h.I hC) hp.ok hi.b hi.i hp.s9 hp.e).S ?_;rintro _ w3 ⟨hD,_,vt,rfl,pp,U,Y,ha,rfl,hR⟩;have hE:=hR [] od;have kb:=hC.D hD;have kc:=hC.size;refine Qa<|QO O O<|QO O O<|QO O O<|QT Xf λb4 w4 ke kf kg=>Q5 [U,sS (ZO V.p V.hi).st,Y,ha] kg ⟨hE.al.one,O,hE.mr.one,hE.ed.one,Z⟩ λG kh gj=>x Qe<|Qb<|Zd (ZO V.p V.hi) λA hA=>?_;rw[hA]at hR hE gj;have hu:sW w3 G:=ke.Q kh kf;have hv:=kb.D hu;refine Qd<|Ql<|ZN O O<|xe<|Zw rfl<|Qf ?_;have hS:=(hQ.I hD).I hu;obtain⟨q0,hF⟩:∃q0,V.c.co[0]'hr=q0:=⟨_,O⟩;have ki:q0∈V.c.co:=hF ▸ Lm hr;have kj:=h.c.co.arr.I hv;have kk:=h.c.ev.arr.I hv;refine Qd<|Vl (α:=O3×Nat×Nat) (sW G) [oz 0,oz 1,oz 2,oz 4,oz 5,oz 6,oz 7,oz 8,oz 9,oz 10,oz 11] (λi=>if i=13 then[3,12]else[]) [3,12,13,14] [oA 15] [(26,26),(35,36),(7,7)] (coP ↑G V.c.ev ⟨q0.nm,⟨U,Y,ha,A⟩⟩)
  (λz=>[(36,.agg #[z.1,.slice (some ⟨z.2.1,0,none⟩) 1 1,ZX,ZX,ZX]),(7,.pointer (some ⟨z.2.2,0,none⟩))]) (λz w'=>w'.ownsRow ↑G 94 5 z.1 V.c.ev.length (V.c.ev.flatMap Zy)/\↑G<=z.2.1/\QK ↑w' z.2.1 81 (Zn ⟨q0.nm,⟨U,Y,ha,A⟩⟩)/\↑G<=z.2.2/\QK ↑w' z.2.2 46 K9)
  mixed oh oc (O6.X _ _) (λ_ _ h1 h2=>h1.D h2) QkR ?_ ?_
 ·rintro g w' ⟨_,_,⟨he,hG,kn,h1,h2,h3⟩,⟨ko,kq,h4,h5⟩,_⟩ _;exact⟨(he,hG,ko),⟨kn,kq,Z⟩,h1,h2,h3,h4,h5⟩
 refine p (QH O)<|p (QH O)<|pq (λ_ hc=>Qk (hS.I hc) O O)<|p (QH O)<|p (QH O)<|pq (λ_ hc=>Qk (hS.I hc) O O)<|Lg.pig (g:=Zn) (i:=0) O (λ_=>O) kj O O hr λpt gk=>?_;rw[hF]at gk;refine p (λ_=>ZF O)<|pq (λ_ hc=>Qq ((gk.fld 0 (.string q0.nm) O).I hc) O)<|pq (λ_ hc=>Zi (gj.I hc) O O)<|p (λ_=>ZB [(0,[.string q0.nm]),(1,[U,sS A.st,Y,ha])] ⟨O,O,O,O,Z⟩) <|
  pe ⟨⟨?_,?_,?_,?_,Z⟩,?_⟩
 ·rintro g w' hc _;exact xg<|(QeS (kk.I hc)).S λr gl ⟨hs,ho⟩=>⟨hs,Za ho hc.size,Ja ho⟩
 ·rintro g w' hc _;exact Q8 [Zn ⟨q0.nm,⟨U,Y,ha,A⟩⟩] λb gl hs hb hB=>⟨hs,⟨b,O,Lz hc.size hb,ou hB⟩,λc hw=>by rw[List.mem_singleton.1 (show c∈[b] from hw)];exact⟨hb,hB.lt⟩⟩
 ·rintro g w' hc ⟨h3,⟨hG,kr,kt,ku⟩,_⟩;refine xv (ZB [(0,[_]),(1,[sL hG 1 1])] ⟨xN (show w'.ownsRow _ _ _ _ _ _ from h3),O,OW Value.cells kr,O,Z⟩) ?_;exact⟨O6.Y _ _,⟨_,hG,O,h3,kt,ku⟩,λc hw=>by cases hw⟩
 ·rintro g w' hc _;exact YW (us:=K9) O λb gl hs hb hB=>⟨hs,⟨b,O,Lz hc.size hb,hB⟩,λc hw=>by rw[Lb.1 (show c∈[b] from hw)];exact⟨hb,hB.lt⟩⟩
 rintro⟨he,J,b7⟩ g w6 gm ⟨hH,gn,hT,hI,hJ⟩;simp only[]at hH gn hT hI hJ;refine pk<|qo [he,sL J 1 1,ZX,ZX,ZX] hJ ⟨QA hH,O,O,O,O,Z⟩ λw7 hK gq=>⟨gm.Q hK hI,pe ?_⟩;have hM:sW G w7:=gm.Q hK hI;have kv:=Qg hH hK λb hb I=>VZ hH hJ og (Lb.1 I ▸ hb);have gr:J≠b7:=QK.ne hT hJ og;have gs:=hT.J hK (by simp only[oF];exact gr);have kw:=hv.D hM;have kx:=hS.I hM;have kz:=hM.size;have pu:=h.c.rq.arr.le;have k0:=h.c.rq.arr.I kw;refine Qd<|Qc<|Q9 O<|Qs O kx O O<|QG k0 O<|Qa<|xe<|QX (α:=Nat×O3×List IV) [(9,9),(41,56)] (λz=>[(41,sS z.1)]) (λz w'=>z.1<=V.c.rq.length/\sW G w'/\w'.ownsRow ↑G 94 5 he V.c.ev.length (V.c.ev.flatMap Zy)/\QK ↑w' J 81 (Zn ⟨q0.nm,⟨U,Y,ha,A⟩⟩)/\J∉ob z.2.1/\QK ↑w' b7 46 [he,sL J 1 1,z.2.1,ZX,ZX]/\IvP ↑w7 w' z.2.1 z.2.2/\w7.heap.size<=↑w'/\z.2.2.length=z.1/\z.2.2.map IV.it=(V.c.rq.take z.1).map IV.it) (λz=>V.c.rq.length - z.1) (0,ZX,[]) La
  ⟨Lo _,hM,kv,gs,(λI=>by cases I),gq,Vm.nil,Lp _,rfl,rfl⟩ ?_
 rintro⟨k,vr,qs⟩ g w8 ⟨hk,hy,hz,gt,gu,hN,T,k4,gv,h0⟩;simp only[]at hk gu hN T gv h0;have hU:=hv.D hy;have hV:b7∉ob vr:=VZ T.own hN og;refine Zk rfl O (λhW=>?_) (λhW=>?_)
 ·refine Qt ?_;have k5:V.c.rq.length<=k:=by have k6:¬(k:Int)<(V.c.rq.length:Int):=hW;omega
  rw[Lr k5]at h0;have k9:=(gi.I (hD.D hu)).I hy;have ma:=gi.lt;have pw:=hD.size;have pz:=hu.size;refine Qc<|Q3 hN O O<|Q5 [he,sL J 1 1,vr,ZX,ZX] k9 ⟨QA hz,O,QA T.own,O,O,Z⟩ λw9 hf mc=>Qb ?_;have n2:∀{b:Nat},↑G<=b->b∉[b2]:=λhb I=>by rw[Lb.1 I]at hb;omega
  have hX:=Qg hz hf λb hb=>n2 (Qi hz b hb).1;have gx:IvP ↑w7 w9 vr qs:=T.low hf λb hb=>by rw[Lb.1 hb];omega
  have mf:=gt.J hf (n2 gn);have p0:O6 [b2] G w9:=hy.any.V hf;have mg:=h.c.ev.arr.le;refine Qj ⟨[.agg #[he,sL J 1 1,vr,ZX,ZX],sS 0],⟨JN mc,O,Z⟩,hU.Q hf oa,_,O,O,⟨QA hX,O,QA gx.own,O,O,Z⟩,
   ⟨he,sL J 1 1,vr,ZX,ZX,V.c.ev,[⟨q0.nm,⟨U,Y,ha,A⟩⟩],qs,[],[]⟩,O,?_,λL hL=>?_⟩
  ·rw[hA];unfold jr;have mh:(V.c.C.co.map (·.nm)).headD .empty=q0.nm:=by
    show((V.c.co.map IV.it).map (·.nm)).headD .empty=_;cases gy:V.c.co with
    | nil=>rw[gy]at hr;cases hr
    | cons z zs=>simp only[gy]at hF;rw[<-hF];rfl
   rw[mh];show(⟨V.c.ev,[⟨q0.nm,A⟩],qs.map IV.it,[],[]⟩:ZS)=_;rw[h0];rfl
  have hY:∀b∈L,b<G.heap.size:=λb hb=>LU (hL b hb) hv.size;have mj:∀b∈b2::L,b<w2.heap.size:=λb hb=>by
   rcases Lk.1 hb with rfl|hb
   ·exact ma
   exact LU (hL b hb) kc
  have mo:Zr L ↑w9 U Y ha A:=(((hR (b2::L) mj).I (hu.D hy)).st (hf.S λb hb=>by rw[Lb.1 hb];exact Lh)).up λb hb=>.inl (Lj _ hb);refine⟨⟨QN hX mg λb hb mq=>oq (Qi hX b hb).1 (hY b mq),h.c.ev.nm⟩,⟨?_,λq E=>by rw[Lb.1 E];exact mo,λq E=>by rw[Lb.1 E];exact h.c.co.nm q0 ki⟩,gx.itms oa (λq E=>?_) (λb hb=>LU (hY b hb) kz),⟨Zu.nil _ _ _,(λq E=>by cases E),(λq E=>by cases E)⟩,⟨Zu.nil _ _ _,(λq E=>by cases E),(λq E=>by cases E)⟩⟩
  ·exact mf.arr (λI=>oo (hY J I)) (n:=1) (cap:=1) (sz:=5) O og (Lp _)
  have:q.it∈V.c.rq.map IV.it:=h0 ▸ LL E;obtain⟨q',ms,e⟩:=Lx.1 this;have e':q'.nm=q.nm:=OW Jp.nm e;rw[<-e'];exact h.c.rq.nm q' ms
 have hj:k<V.c.rq.length:=by have k6:(k:Int)<(V.c.rq.length:Int):=hW;omega
 have gz:=Lm hj;have g0:V.c.rq.take (k+1)=V.c.rq.take k++[V.c.rq[k]'hj]:=Ll hj;refine Zd (V.c.rq[k]'hj) λq E=>?_;rw[E]at gz g0;have hh:=(h.c.rq.each q gz).I hU;refine Qf<|Qd<|Qn<|Qc<|O9 (g:=Zn) (i:=k) (λ_=>O) (h.c.rq.arr.I hU) O O hj λp4 g2=>?_;rw[E]at g2;refine x (QF (us:=Zn q) g2 O O)<|QT [.string .empty,nS,sS 0,nS,nS] λb9 w9 hf mt mu=>Q5 (Zn q) mu ⟨O,hh.al.one,O,hh.mr.one,hh.ed.one,Z⟩ λhn mv g3=>xe ?_;have hO:sW w8 hn:=hf.Q mv mt;have hZ:=hN.I hO;have ga:=hO.size;have g4:b9∉ob vr:=λI=>oo (QV T.own b9 I)
 have g5:sW hn { hn with drawn:=hn.drawn+1 }:=O6.X _ _
 refine ZK (ob vr) (Xj 0 12 [6,8,9,11])<|p (QH O)<|pq (λ_ hc=>Qk (hZ.J hc hV) O O)<|p (QH O)<|pq (λ_ hc=>Qk (g3.J hc g4) O O)<|p (QH O)<|pq (λ_ hc=>ZR (us:=[q.p.va,sS q.p.a.st,q.p.vm,q.p.ve]) (g3.J hc g4) O O O) <|
  pk<|xg<|(Qhx (w:={ hn with drawn:=hn.drawn+1 }) ((hh.I hO).I g5)).S ?_
 rintro _ p5 ⟨mw,ca,cm,ce,rfl,my,mz,m0⟩;have gb:=g5.D mw;refine⟨gb.any,?_⟩;refine p (λ_=>ZB [(0,[.string q.nm]),(1,[ca,sS q.p.a.st,cm,ce])] ⟨O,O,O,O,Z⟩)<|pk<|Q8 [Zn ⟨q.nm,⟨ca,cm,ce,q.p.a⟩⟩] λp6 p7 h6 p8 m1=>⟨(gb.D h6).any,?_⟩;have h7:=gb.D h6;have h8:=hO.D h7;have p9:=h7.size;have g6:=Qm my h6;have g7:=Qm mz h6;have g8:=Qm m0 h6;refine pk<|Q2 (m:=1) (news:=Zn ⟨q.nm,⟨ca,cm,ce,q.p.a⟩⟩) (L:=[]) (Qm T.own h8) O O O (by have:=m1.at (L:=[]) od;simpa using this) (ZL.all (us:=Zn ⟨q.nm,⟨ca,cm,ce,q.p.a⟩⟩) ⟨rfl,QA g6,rfl,QA g7,QA g8,Z⟩) oa oa λhP m2 gc hg m3=>⟨h7.any.V hg,?_⟩;refine p (QH O)<|pkk<|Qv (u:=hP) ((hZ.I h7).J hg hV) O O (L6 O) (QA gc) λge h9 m4=>pe ?_;refine Qr<|QB O O<|Qa<|xe ?_;have m5:=hh.al.le;have m6:=hh.mr.le;have m7:=hh.ed.le;have m8:IvP ↑w7 m2 hP (qs++[⟨q.nm,⟨ca,cm,ce,q.p.a⟩⟩]):=Vm.app T h8 (λt ht=>by
  simp only[oK,oH,or_false]at ht;rcases ht with rfl|rfl|rfl
  ·exact⟨_,_,g6,m5,ga⟩
  ·exact⟨_,_,g7,m6,ga⟩
  exact⟨_,_,g8,m7,ga⟩) k4 gc hg m3
 have m9:=gq.lt;have pc:=gs.lt;have pd:IvP ↑w7 ge hP (qs++[⟨q.nm,⟨ca,cm,ce,q.p.a⟩⟩]):=m8.low h9 λb hb=>by rw[Lb.1 hb];exact m9
 have qf:=hg.size;have qj:=h9.size;have g9:=Qg (Qm hz h8) hg λb hb=>Qmr hz T.own og b hb;have pf:=Qg g9 h9 λb hb I=>VZ g9 ((hZ.I h7).J hg hV) og (Lb.1 I ▸ hb);have pg:sW G ge:=((hy.D h8).O hg λb hb=>.inr (oo (Qi T.own b hb).1)).Q h9 hI;refine⟨(k+1,hP,qs++[⟨q.nm,⟨ca,cm,ce,q.p.a⟩⟩]),by show V.c.rq.length - (k+1)<V.c.rq.length - k;omega,La,hj,pg,pf,((gt.I h8).J hg gu).J h9 (by simp only[oF];exact gr),QJ gc pc,m4,pd,by show w7.heap.size<=↑ge;omega,by show(qs++[_]).length=k+1;rw[Lc,gv];rfl,?_⟩;simp only[];rw[g0,Ly,Ly,h0];rfl
theorem Qfj {vl:O3}{ps:List AV}(h:X7 [] ↑w vl ps)(ho:∀p∈ps,QS p.a)(ha:Kb w 4096):
  QU sV 43 [vl] w λr w'=>sW w w'/\∃va,r=.tuple #[va,sS (KC (ps.map (·.a)))]/\(KC (ps.map (·.a))≠0->va=zA)/\(KC (ps.map (·.a))=0->Xb ↑w ↑w' va (J7 (ps.map (·.a)))):=by
 refine Zm func43 ?_;refine Qc<|QT ze λb2 w1 E he J=>Qb<|Ql<|Qw<|(U1 (km:=4096) (h.I E) (ha.I E) og (Qa2 ho)).S ?_;rintro r2 w2 ⟨hf,vA,vt,c,rfl,hR⟩;have hc:=hR.e;obtain⟨a,xa,xm,G,qs,rfl,T,hp,_⟩:=hR.shape;refine Qa<|QO O O<|QO O O<|QO O O<|QT ze λb4 w3 hg hh hj=>Q5 [xa,sS a.st,xm,G] hj T λw4 hk hm =>
  x Qe<|Qb ?_
 have U:sW w2 w4:=hg.Q hk hh;have V:=hf.D U;refine Qc<|Q3 hm O O<|Qa<|Q5 [xa,sS a.st,xm,G] (J.I V) T λw5 Y hn=>Qb<|Qj ⟨[.agg #[xa,sS a.st,xm,G],sS c],⟨JN hn,O,Z⟩,(E.D V).Q Y he,.agg #[xa,sS a.st,xm,G],?_,λI=>?_,λI=>?_⟩
 ·show Value.tuple _=Value.tuple _;rw[hc]
 ·exact(hR.bad (by rw[hc];exact I)).1
 have h1:=(hR.good (by rw[hc];exact I)).1;exact(Xl (h1.I U) J.lt Y).S E.size
def lgP (N:Nat)(a b:Qz)(i:Nat)(v:O3)(w:O2):Prop :=
 if i=1 then ∃b1 m1 m2,v=sP b1/\N<=b1/\N<=m1/\N<=m2/\Mch ↑w b1 m1 m2 a
 else if i=3 then ∃b1 m1 m2,v=sP b1/\N<=b1/\N<=m1/\N<=m2/\Mch ↑w b1 m1 m2 b
 else ∃bb,v=sP bb/\N<=bb/\QK ↑w bb 152 [.pointer none]
theorem QmQ {b:Qz}:∀i v w w',lgP N a b i v w->sW w w'->lgP N a b i v w':=by
 intro i v w w' h G;unfold lgP at h ⊢;split
 ·rename_i I;rw[OV I]at h;obtain⟨J,T,U,e,E,V,Y,hM⟩:=h;exact⟨J,T,U,e,E,V,Y,hM.I G⟩
 rename_i I;rw[OU I]at h;split
 ·rename_i h2;rw[OV h2]at h;obtain⟨J,T,U,e,E,V,Y,hM⟩:=h;exact⟨J,T,U,e,E,V,Y,hM.I G⟩
 rename_i h2;rw[OU h2]at h;obtain⟨bb,e,E,hB⟩:=h;exact⟨bb,e,E,hB.I G⟩
theorem Y3 {κ:Type}{enc:κ->O3}{H:xC}{b:Nat}{m:List (κ×O3)}(h:ZU enc H b m)(E:QK H G T cs):b≠G:=by
 intro e;subst e;obtain⟨es,c,I,_⟩:=h;unfold QK at E;rw[I]at E;cases E
structure LgZ where
 p1:Nat
 p2:Nat
 p3:Nat
 q1:Nat
 q2:Nat
 q3:Nat
 b10:Nat
 b11:Nat
theorem Qen {wa wm we:O3}{b:Qz}(hA:Zr [] ↑w va vm ve a)(V:Zr [] ↑w wa wm we b)(kd:Int):
  QU sV 30 [.agg #[va,sS a.st,vm,ve],.agg #[wa,sS b.st,wm,we],sS kd] w λr w'=>sW w w'/\∃v e,r=.tuple #[v,.bool e,sS (lgE a b kd)] /\
   (lgE a b kd=0->match lgq a b kd with|none=>v=Zq/\e=true|some u=>e=false/\Qh 3 ↑w w' v u):=by
 refine Zd (lgE a b kd) λE hE=>?_;refine Zd (lgq a b kd) λR hR=>?_;rw[hE,hR];refine Zm func30 ?_;refine Qc<|Zf [va,sS a.st,vm,ve] λb3 w1 hK gg hL=>Zf [wa,sS b.st,wm,we] λb4 w2 h5 gh hN=>Zf [sS kd] λb5 w3 hu gi h6=>x Qe <|
  x Qe<|Qb ?_
 have hO:=(hK.D h5).D hu;have h7:=(hL.I h5).I hu;have h8:=hN.I hu;refine Qd<|Qc<|ZD h6 O O<|Q3 h7 O O<|Q3 h8 O O<|Qo<|Q8 [[va,sS a.st,vm,ve],[wa,sS b.st,wm,we]] λhP w4 h9 gj hQ=>?_;have hv:=hO.D h9;have hT:X7 [] ↑w4 (sL hP 2 2) [⟨va,vm,ve,a⟩,⟨wa,wm,we,b⟩]:=⟨hQ.arr od (n:=2) (cap:=2) (sz:=4) rfl oa (Lp _),λp hp=>by
  simp only[oK,oH,or_false]at hp;rcases hp with rfl|rfl
  ·exact hA.I hv
  exact V.I hv⟩
 have hck:=Qeo hT kd;rw[show[(⟨va,vm,ve,a⟩:AV),⟨wa,wm,we,b⟩].map (·.a)=[a,b] from rfl,QrE,hE]at hck;refine Qw<|hck.S ?_;rintro r5 w5 ⟨rfl,hk⟩;refine Qb ?_;have hq:=hv.D hk;have hw:=h9.D hk;refine Ql<|ZN O O<|xe<|Zg rfl (λhy=>?_) (λhy=>?_)
 ·refine Ql<|x Qe<|x Qe<|Qb<|Qj ⟨[Zq,.bool false,sS E],ox,hq,Zq,false,O,λh0=>OX h0 hy⟩
 have hC:E=0:=Lt.1 hy;have hok:QS a/\QS b:=by
  have Y:lgE a b kd=0:=hE.D hC;unfold lgE at Y;by_cases h2:Jc a≠0
  ·rw[OV h2]at Y;exact OX Y h2
  rw[OU h2]at Y;by_cases h3:Jc b≠0
  ·rw[OV h3]at Y;exact OX Y h3
  exact⟨(Zz a).1 (Lt.1 h2),(Zz b).1 (Lt.1 h3)⟩
 refine Qf ?_;have hD:=h7.I hw;have hF:=h8.I hw;have hU:=h6.I hw;have hV:=hA.I hq;have hW:=V.I hq;refine QW (α:=LgZ) [(22,25),(10,11)] (λz=>[(10,.pointer (some ⟨z.b10,0,none⟩)),(11,.pointer (some ⟨z.b11,0,none⟩))]) (λz w'=>sW w5 w'/\Mch ↑w' z.p1 z.p2 z.p3 a/\Mch ↑w' z.q1 z.q2 z.q3 b/\QK ↑w' z.b10 152 [.pointer (some ⟨z.p1,0,none⟩)]/\QK ↑w' z.b11 152 [.pointer (some ⟨z.q1,0,none⟩)]) oh ?_ ?_
 ·refine Vl (α:=LgZ) (sW w5) [oz 0,oz 2] (λ_=>[]) [1,3,4,5] [oA 6,oA 7] [(23,23),(25,25),(10,11)] (lgP ↑w5 a b)
   (λz=>[(23,.pointer (some ⟨z.p1,0,none⟩)),(25,.pointer (some ⟨z.q1,0,none⟩)),(10,.pointer (some ⟨z.b10,0,none⟩)),(11,.pointer (some ⟨z.b11,0,none⟩))])
   (λz w'=>Mch ↑w' z.p1 z.p2 z.p3 a/\Mch ↑w' z.q1 z.q2 z.q3 b/\QK ↑w' z.b10 152 [.pointer none]/\QK ↑w' z.b11 152 [.pointer none]/\(z.b10≠z.b11/\z.p1≠z.b10/\z.p1≠z.b11/\z.q1≠z.b10/\z.q1≠z.b11)/\↑w5<=z.b10/\↑w5<=z.b11)
   mixed oh oc (O6.X _ _) (λ_ _ Y h2=>Y.D h2) QmQ ?_ ?_
  ·rintro g w' ⟨⟨p1,p2,p3,e1,_,_,_,G⟩,⟨q1,q2,q3,e2,_,_,_,I⟩,⟨b10,e3,hn,J⟩,⟨b11,e4,hr,T⟩,_⟩ ho;refine⟨⟨p1,p2,p3,q1,q2,q3,b10,b11⟩,⟨e1,e2,e3,e4,Z⟩,G,I,J,T,?_,hn,hr⟩;have d1:=ho 4 od 5 od og;have d2:=ho 1 od 4 od og;have d3:=ho 1 od 5 od og;have d4:=ho 3 od 4 od og;have d5:=ho 3 od 5 od og;rw[e3,e4]at d1;rw[e1,e3]at d2;rw[e1,e4]at d3;rw[e2,e3]at d4;rw[e2,e4]at d5;simp only[ow,oF,forall_eq]at d1 d2 d3 d4 d5;exact⟨d1,d2,d3,d4,d5⟩
  refine pq (λ_ hc=>Zi (hD.I hc) O O)<|pq (λ_ hc=>Zi (hF.I hc) O O)<|pe ⟨⟨?_,?_,?_,?_,Z⟩,?_⟩
  ·intro g w' hc _;refine xg<|(Qaa (hV.I hc) hok.1).S ?_;rintro r5 w6 ⟨hf,b1,m1,m2,rfl,n1,n2,n3,hM⟩;have hz:=hc.size;exact⟨hf,⟨b1,m1,m2,O,Lz hz n1,Lz hz n2,Lz hz n3,hM⟩,λc hg=>by rw[Lb.1 (show c∈[b1] from hg)];exact⟨n1,hM.B.lt⟩⟩
  ·intro g w' hc _;refine xg<|(Qaa (hW.I hc) hok.2).S ?_;rintro r5 w6 ⟨hf,b1,m1,m2,rfl,n1,n2,n3,hM⟩;have hz:=hc.size;exact⟨hf,⟨b1,m1,m2,O,Lz hz n1,Lz hz n2,Lz hz n3,hM⟩,λc hg=>by rw[Lb.1 (show c∈[b1] from hg)];exact⟨n1,hM.B.lt⟩⟩
  ·intro g w' hc _;exact YW (us:=[.pointer none]) O λb w5 hk hb V=>⟨hk,⟨b,O,Lz hc.size hb,V⟩,λc hg=>by rw[Lb.1 (show c∈[b] from hg)];exact⟨hb,V.lt⟩⟩
  ·intro g w' hc _;exact YW (us:=[.pointer none]) O λb w5 hk hb V=>⟨hk,⟨b,O,Lz hc.size hb,V⟩,λc hg=>by rw[Lb.1 (show c∈[b] from hg)];exact⟨hb,V.lt⟩⟩
  rintro⟨p1,p2,p3,q1,q2,q3,b10,b11⟩ g w6 hG ⟨G,I,J,T,hh,hn,hr⟩;simp only[]at G I J T hh hn hr;have k1:=Y3 G.e J;have k2:=Y3 G.m J;have k3:=Y3 I.e J;have k4:=Y3 I.m J;have j1:=Y3 G.e T;have j2:=Y3 G.m T;have j3:=Y3 I.e T;have j4:=Y3 I.m T;refine pk<|Qv (u:=sP p1) J O O od rfl λw7 hj hX=>⟨hG.Q hj hn,?_⟩;refine pkk<|Qv (u:=sP q1) (T.J hj (by simp only[oF];exact λe=>hh.1 e.symm)) O O od rfl λw8 U hY=>pe ?_;have s1:∀{x:Nat},x≠b10->x∉[b10]:=λh hm=>h (Lb.1 hm);have s2:∀{x:Nat},x≠b11->x∉[b11]:=λh hm=>h (Lb.1 hm);exact⟨⟨p1,p2,p3,q1,q2,q3,b10,b11⟩,ov,(hG.Q hj hn).Q U hr,(G.J hj (s1 hh.2.1) (s1 k1) (s1 k2)).J U (s2 hh.2.2.1) (s2 j1) (s2 j2),(I.J hj (s1 hh.2.2.2.1) (s1 k3) (s1 k4)).J U (s2 hh.2.2.2.2) (s2 j3) (s2 j4),hX.J U (s2 hh.1),hY⟩
 rintro⟨p1,p2,p3,q1,q2,q3,b10,b11⟩ g w6 ⟨hf,G,I,J,T⟩;simp only[]at G I J T;have hs:=hq.D hf;have gk:=hs.size;have hZ:=hD.I hf;have ga:=hF.I hf;have gb:=hU.I hf;have h4:sW w6 { w6 with drawn:=w6.drawn+1 }:=O6.X _ _
 have gl:=hA.al.le;have gm:=V.al.le;have gn:=hok.1.al_le;have gq:=hok.2.al_le;refine Qd<|ZK [] [oz 0,oz 1,oz 2,oz 3,oz 5,oz 6,oz 7,oA 4,oA 8,oz 9,oz 10,oz 11,oz 12,oz 13]<|p (QH O)<|pq (λ_ hc=>Qk (hZ.I hc) O O)<|p (QH O)<|pq (λ_ hc=>Qk (ga.I hc) O O) <|
  pq (λ_ hc=>Qk (J.I hc) O O)<|pq (λ_ hc=>Qk (T.I hc) O O)<|p (λ_=>Zl (l:=[]) (l':=[_,_,_])) <|
  pk<|xg<|(jf ((hA.al.I hs).I h4) ((V.al.I hs).I h4) oa).S ?_
 rintro r7 w7 ⟨hj,gc⟩;have ha:=h4.D hj;have gr:=ha.size;refine⟨ha,?_⟩;have gs:(mrg (· || ·) a.al b.al).length<=64:=by
  have:=zC (· || ·) a.al b.al;omega
 have hS:=Qg2 (kd:=kd) (g:=72) (cap:=[sP b10,sP b5,sP b11]) (Qh.ints (L:=[]) gc oa od) (G.I ha) (I.I ha) hok.1 hok.2
  (λs t w8 U=>QjN ((J.I ha).I U) ((T.I ha).I U) ((gb.I ha).I U) ((G.I ha).I U) ((I.I ha).I U) s t)
 have ge:lgL a b kd (mrg (· || ·) a.al b.al) ((a.st.toNat+1)*(b.st.toNat+1)+1) 0 [⟨fst a,fst b,-1,0⟩]=R:=hR;rw[ge]at hS;refine pk<|xg<|hS.S ?_;rintro r8 w8 ⟨U,hH⟩;have hI:=ha.D U;refine⟨hI,?_⟩;have he:∃v e,r8=.tuple #[v,.bool e]/\(match R with|none=>v=Zq/\(!e)=true|some u=>(!e)=false/\Qh 3 ↑w7 w8 v u):=by
  cases R with
  | none=>exact⟨Zq,false,hH,O,O⟩
  | some u=>obtain⟨v,Y,h2⟩:=hH;exact⟨v,true,Y,O,h2⟩
 refine Exists.elim he λv he=>Exists.elim he λe he=>And.elim (λhJ he=>?_) he;refine p Qy<|p (λ_=>Q0 (show ev _ _=_ from hJ) O)<|p (λ_=>Q0 (show ev _ _=_ from hJ) O)<|p ZI<|p ZI<|pe ?_;refine Ql<|Qa<|x (Zj O)<|x Qe<|x Qe<|Qb<|Qj ⟨[v,.bool (!e),sS 0],ox,hs.D hI,v,!e,by rw[hC];rfl,λ_=>?_⟩;cases R with
 | none=>exact he
 | some u=>exact⟨he.1,Za he.2 oa⟩
abbrev YF (c:ZS):Qz:=J7 (O8 c.co)
abbrev ZC (c:ZS)(hi:LI):ZS:=jr c (ZO (YF c) hi)
def UJ (c:ZS)(hi:LI):Int:=if suE (ZC c hi)≠0 then suE (ZC c hi) else KC [YF c,X2 (ZC c hi)]
def Vw (c:ZS)(hi:LI):Qz:=J7 [YF c,X2 (ZC c hi)]
def hsE (c:ZS)(hi:LI):Int:=if hck c hi≠0 then hck c hi else suE (ZC c hi)
def hgE (c:ZS)(hi:LI):Int:=if hck c hi≠0 then hck c hi else UJ c hi
def hcE (c:ZS)(hi:LI):Int:=if UJ c hi≠0 then UJ c hi else suE c
def hcR (c:ZS)(hi:LI):Option (LI):=match lgq (Vw c hi) (X2 c) 1 with|some u=>some u|none=>lgq (Vw c hi) (X2 c) 2
theorem QiC {l:List Qz}(I:∀a∈l,QS a)(h:KC l=0):QS (J7 l):=by
 unfold KC at h;by_cases E:KT l≠0
 ·rw[OV E]at h;exact OX h E
 rw[OU E]at h;cases G:xp l with
 | none=>rw[G]at h;cases h
 | some z =>
  have e:J7 l=z.1:=by unfold J7;rw[G]
  rw[e];exact(Yz I (A:=z.1) (Q:=z.2) G).1.okay I
theorem QjO {b:Qz}(E:QS a)(hb:QS b){kd:Int}(G:kd=1\/kd=2):lgE a b kd=0:=by
 unfold lgE;rw[OU (by rw[(Zz a).2 E];simp),OU (by rw[(Zz b).2 hb];simp),OU oa]
theorem Qnf (c:ZS)(hi:LI):ZC c hi=⟨c.ev,[⟨(c.co.map (·.nm)).headD .empty,ZO (YF c) hi⟩],c.rq,[],[]⟩:=rfl
instance:Bw sV 53 Xf [(0,1),(1,1),(2,1),(3,1)]:={}
theorem XI:ZL Xf:=oy
theorem Qpg {E G I:O3}{J:Qz}{b:Nat}(U:QK ↑w b 53 ([ZJ ⟨va,vm,ve,a⟩,ZJ ⟨E,G,I,J⟩]:List (LV)).flatten)(h:Zr [] ↑w va vm ve a)(V:Zr [] ↑w E G I J):
  X7 [] ↑w (sL b 2 2) [⟨va,vm,ve,a⟩,⟨E,G,I,J⟩]:=
 ⟨U.arr od rfl oa (Lp 2),λp T=>by
  rcases Lk.1 T with rfl|T
  ·exact h
  rw[Lb.1 T];exact V⟩
theorem QcO {V:LvV}(h:LvA ↑w V)(hn:Kb w 4096)(hp:Pl9 V.p)(hi:Yh V.hi)(ho:0<V.c.co.length):
  QU sV 92 [sT (Yi V)] w λr w'=>sW w w'/\∃us,r=.tuple #[sT us,sS (suE (jr V.c.C (ZO V.p V.hi)))]/\us.length=4/\ZL us/\(suE (jr V.c.C (ZO V.p V.hi))≠0->us=Xf)/\(suE (jr V.c.C (ZO V.p V.hi))=0->Xb ↑w ↑w' (sT us) (X2 (jr V.c.C (ZO V.p V.hi)))):=by
 refine Zm func92 ?_;refine Qc<|Zf (Yi V) λb1 w1 Y h8 hq=>QT Xf λb2 w2 ha h9 he=>Qb ?_;have hf:=Y.D ha;have hA:=Y.size;refine Qc<|Q3 (hq.I ha) O O<|Qw<|(QhI (h.I hf) hp hi ho).S ?_;rintro _ w3 ⟨I,us,rfl,hg,hr,k,hk,hh,hs⟩;refine Zd (jr V.c.C (ZO V.p V.hi)) λT hT=>?_;rw[hT]at hh ⊢;refine Qa<|QO O O<|QO O O<|QT K9 λb4 w4 hu hv hw=>Qo<|Zx (us:=us) hw O O hg O hr λw5 hy hz=>Qb ?_;have G:sW w3 w5:=hu.Q hy hv;have J:=(hf.D I).D G;have h0:=J.size;refine Qd<|Ql<|ZN O O<|xe<|Zw rfl<|Qf ?_;have h2:Ya [] ↑w5 k:=(hs [] od).I G;have hS:=VM h2 (hn.I J);rw[<-hk,hh]at hS;refine Qc<|Q3 hz O hg<|Qw<|hS.S ?_;rintro _ w7 ⟨hj,sa,sm,se,rfl,E,h3,h4⟩;have h5:=((he.I I).I G).I hj;have h6:=he.lt;refine QO rfl O<|QO O O<|Q5 [sa,sS (if YQ T=0 then(X2 T).st else 0),sm,se] h5 ⟨E.1,O,E.2.1,E.2.2.1,Z⟩ λw8 hm h7=>Qb<|Qj ⟨[.agg #[sa,sS (if YQ T=0 then(X2 T).st else 0),sm,se],sS (suE T)],⟨JN h7,O,Z⟩,(J.D hj).Q hm oa,_,O,O,⟨E.1,O,E.2.1,E.2.2.1,Z⟩,λhE=>?_,λhE=>?_⟩
 ·obtain⟨e1,e2,e3⟩:=h3 hE;have U:¬YQ T=0:=hE;rw[e1,e2,e3,OU U]
 have U:YQ T=0:=hE;rw[OV U];refine⟨sa,sm,se,O,λL hL=>?_⟩;have h1:=h4 hE (b2::L) λb hb=>by
  rcases Lk.1 hb with rfl|hb
  ·exact LU h6 (Lz I.size G.size)
  exact LU (hL b hb) h0
 exact(h1.st (hm.S λb hb=>by rw[Lb.1 hb];exact Lh)).up λb hb=>.inl (Lj _ hb)
theorem QcN {V:LvV}{c:ZS}{hi':LI}(h:LvA ↑w V)(hn:Kb w 4096)(hp:Pl9 V.p)(hi:Yh V.hi)(h2:0<V.c.co.length)(hc:V.c.C=c)(ha:V.p=YF c)(h3:V.hi=hi'):
  QU sV 66 [sT (Yi V)] w λr w'=>sW w w'/\∃us,r=.tuple #[sT us,sS (UJ c hi')]/\us.length=4/\ZL us/\(UJ c hi'≠0->us=Xf)/\(UJ c hi'=0->Xb ↑w ↑w' (sT us) (Vw c hi')):=by
 have hT:jr V.c.C (ZO V.p V.hi)=ZC c hi':=by rw[hc,ha,h3]
 have G:UJ c hi'=if suE (ZC c hi')≠0 then suE (ZC c hi') else KC [V.p,X2 (ZC c hi')]:=by unfold UJ;rw[ha]
 have ho:Vw c hi'=J7 [V.p,X2 (ZC c hi')]:=by unfold Vw;rw[ha]
 refine Zd (UJ c hi') λE hE=>?_;rw[hE]at G ⊢;refine Zm func66 ?_;refine Qc<|Zf (Yi V) λb1 w1 hr hP hs=>QT Xf λb2 w2 he hQ h4=>Qb ?_;have hf:=hr.D he;have hR:=hr.size;have hS:=QcO (h.I hf) (hn.I hf) hp hi h2;rw[hT]at hS;refine Qc<|Q3 (hs.I he) O O<|Qw<|hS.S ?_;rintro _ w3 ⟨hg,us,rfl,h5,h6,h7,hh⟩;refine Zd (suE (ZC c hi')) λF hF=>?_;have hu:F=0->QS (X2 (ZC c hi')):=λe=>K3 (hF.D e);rw[hF]at G h7 hh;refine Zd (X2 (ZC c hi')) λS h8=>?_;rw[h8]at G ho hh hu;refine Qa<|QO O O<|x (Q0 O (OW (λi=>some (sS i)) hF))<|QT Xf λb4 w4 h9 hA hB=>Qo<|Zx (us:=us) hB O O h5 O h6 λw5 hD hG=>Qb ?_;have T:sW w3 w5:=h9.Q hD hA;have hw:=(hf.D hg).D T;have hj:=(h4.I hg).I T;refine Qd<|Ql<|ZN O O<|xe<|Zg rfl (λhk=>?_) (λhk=>?_)
 ·have I:F≠0:=hk;rw[OV I]at G;refine Qc<|x (ZB [] Z)<|Qa<|Q5 Xf hj XI λw6 hH hI=>Qb<|Qj ⟨[sT Xf,sS F],⟨JN hI,O,Z⟩,hw.Q hH oa,Xf,by rw[G];rfl,O,XI,λ_=>O,λe=>OX (G.symm.D e) I⟩
 have I:F=0:=Lt.1 hk;rw[OU (λe=>e I)]at G;refine Qf ?_;obtain⟨sa,sm,se,hJ,hK⟩:=hh I;have hL:us=[sa,sS S.st,sm,se]:=by
  have:=Value.agg.inj hJ;exact OW OP this
 subst hL;have hM:=hK [] od;refine Qc<|Q9 O<|x (ZR (us:=[V.pa,sS V.p.st,V.pm,V.pe]) (((hs.I he).I hg).I T) O O O)<|Q3 hG O O<|Qo<|Q8 [ZJ ⟨V.pa,V.pm,V.pe,V.p⟩,ZJ ⟨sa,sm,se,S⟩] λhU w7 U hV hN=>?_;have Y:=hw.D U;have hC:=Qfj (Qpg hN (h.a.I Y) (hM.I (T.D U))) (λq hq=>by
  rcases Lk.1 hq with rfl|hq
  ·exact hp.ok
  rw[Lb.1 hq];exact hu I) (hn.I Y)
 simp only[oS,OC]at hC;rw[<-G,<-ho]at hC;refine Qw<|hC.S ?_;rintro r8 w8 ⟨hy,va,rfl,hz,h0⟩;obtain⟨vs,hv,hm,hvo⟩:∃vs,va=sT vs/\vs.length=4/\ZL vs:=by
  by_cases J:E=0
  ·exact XW (h0 J)
  exact⟨Xf,hz J,O,XI⟩
 subst hv;have hW:=U.size;refine QO rfl O<|QO O O<|Qo<|Zx (us:=vs) (hj.I (U.D hy)) O O hm O hvo λw9 h1 hO=>Qb<|Qj ⟨[sT vs,sS E],⟨⟨_,O,ZQ hm (hO.at (L:=[]) od).cells⟩,rfl,Z⟩,(Y.D hy).Q h1 oa,vs,rfl,hm,hvo,λJ=>?_,λJ=>?_⟩
 ·have:=Value.agg.inj (hz J);exact OW OP this
 have hX:=hj.lt;exact(Xl (h0 J) oa h1).S Y.size
theorem Qez {k:ZS}(h:hck k hi=0):0<k.co.length:=by
 unfold hck at h;by_cases E:Z2 k≠0
 ·rw[OV E]at h;exact OX h E
 exact Nat.pos_of_ne_zero (YT (Lt.1 E)).c0
theorem QeA (h:Ya [] ↑w c)(hH:Qu [] ↑w vh hi)(hh:Kb w 4096)(T:hck c.C hi=0->HOk c.C hi):
  QU sV 21 [c.val,vh] w λr w'=>sW w w'/\∃vw,r=.tuple #[vw,sS (hck c.C hi)]/\vw.oneCell'=true/\(hck c.C hi≠0->vw=ZX)/\(hck c.C hi=0->Qh 3 ↑w w' vw (QeG (YF c.C) hi (unc c.C.ev))/\Yh (QeG (YF c.C) hi (unc c.C.ev))):=by
 refine Zm func21 ?_;refine Qc<|Zf c.cells λb2 w1 hj h0 hk=>x Qe<|Qb ?_;have I:=hj;refine Qc<|Q3 hk O O<|Qa<|Qw<|(Vj (h.I I) (hH.I I) (hh.I I) λe=>(T e).e).S ?_;rintro _ w3 ⟨hm,us,rfl,hn,ho,hV⟩;have U:=yA (k:=c.C) (hi:=hi);refine Zd (hck c.C hi) λE hE=>?_;rw[hE]at T hV U ⊢;refine Qa<|QO O O<|QO O O<|QT Va λb6 w4 hq hr hs=>Qo<|Zx (us:=us) hs O O hn O ho λw5 hu he=>Qb ?_;have hf:sW w3 w5:=hq.Q hu hr;have hv:=I.D hm;have J:=hv.D hf;refine Qd<|Ql<|ZN O O<|xe<|Zg rfl (λY=>?_) (λY=>?_)
 ·have G:E≠0:=Y;refine Ql<|x Qe<|Qb<|Qj ⟨[ZX,sS E],ov,J,ZX,O,O,λ_=>O,λe=>OX e G⟩
 have G:E=0:=Lt.1 Y;obtain⟨V,rfl,hL,hK⟩:=hV G;have hp:Pl9 V.p:=by rw[hK.p];exact(T G).p
 have hw:Yh V.hi:=by rw[hK.h];exact(U G).1
 have hy:Yh V.un:=by rw[hK.u];exact(U G).2
 have hg:=hL.I hf;refine Qf<|Qc<|Q9 O<|x (ZR (us:=[V.pa,sS V.p.st,V.pm,V.pe]) he O O O)<|Qa<|Qs O he O O<|Qw<|(QhY hg.a (hH.I J) hg.u hp (by rw[<-hK.h];exact hw) hy).S ?_;rintro _ w6 ⟨hz,vw,rfl,hI,ha⟩;refine QO rfl O<|QO O O<|x Qe<|Qb ?_;rw[hK.p,hK.u]at hI ha;refine Qj ⟨[vw,sS 0],ov,J.D hz,vw,by rw[G];rfl,(Qh.ints (L:=[]) hI (oo ha.len) od:Qu [] ↑w6 vw _).one,λe=>OX G e,λ_=>⟨?_,ha⟩⟩;exact⟨hI.1,hI.2.imp id λ⟨g,cap,cur,e1,e2,r⟩=>⟨g,cap,cur,e1,Lz J.size e2,r⟩⟩
theorem Qsb (h:Ya [] ↑w c)(hH:Qu [] ↑w vh hi)(hg:Kb w 4096)(Y:hck c.C hi=0->HOk c.C hi):
  QU sV 39 [c.val,vh] w λr w'=>sW w w'/\∃us,r=.tuple #[sT us,sS (hsE c.C hi)]/\us.length=4/\ZL us/\(hsE c.C hi≠0->us=Xf)/\(hsE c.C hi=0->Xb ↑w ↑w' (sT us) (X2 (ZC c.C hi))):=by
 have I:hsE c.C hi=if hck c.C hi≠0 then hck c.C hi else suE (ZC c.C hi):=rfl
 refine Zd (hsE c.C hi) λS hS=>?_;rw[hS]at I ⊢;refine Zm func39 ?_;refine Qc<|Zf c.cells λb2 w1 hh hD hu=>QT Xf λb4 w2 hj hF hk=>Qb ?_;have J:=hh.D hj;have hG:=hh.size;refine Qc<|Q3 (hu.I hj) O O<|Qa<|Qw<|(Vj (h.I J) (hH.I J) (hg.I J) λe=>(Y e).e).S ?_;rintro _ w3 ⟨ha,us,rfl,hv,hw,hV⟩;have hm:=yA (k:=c.C) (hi:=hi);have ho:=Qez (k:=c.C) (hi:=hi);refine Zd (hck c.C hi) λE hE=>?_;rw[hE]at Y hV hm ho I ⊢;refine Qa<|QO O O<|QO O O<|QT Va λb6 w4 hy hz h0=>Qo<|Zx (us:=us) h0 O O hv O hw λw5 h1 h2=>Qb ?_;have T:sW w3 w5:=hy.Q h1 hz;have h3:=J.D ha;have U:=h3.D T;have hq:=(hk.I ha).I T;have hI:=hk.lt;have hJ:=ha.size;have hM:=T.size;refine Qd<|Ql<|ZN O O<|xe<|Zg rfl (λhe=>?_) (λhe=>?_)
 ·have G:E≠0:=he;refine Qc<|x (ZB [] Z)<|Qa<|Q5 Xf hq XI λw6 h4 h5=>Qb<|Qj ⟨[sT (Xf),sS E],⟨JN h5,O,Z⟩,U.Q h4 oa,Xf,by rw[I,OV G];rfl,O,XI,λ_=>O,λe=>OX (by rw[I,OV G]at e;exact e) G⟩
 have G:E=0:=Lt.1 he;obtain⟨V,rfl,hL,hK⟩:=hV G;have hp:Pl9 V.p:=by rw[hK.p];exact(Y G).p
 have h6:Yh V.hi:=by rw[hK.h];exact(hm G).1
 have h7:0<V.c.co.length:=by rw[hK.c];have e0:=ho G;rw[show c.C.co.length=c.co.length from Ln _]at e0;exact e0
 have h8:=hL.I T;have h9:=hg.I U;refine Qf ?_;rw[OU (λe=>e G)]at I;have hT:jr V.c.C (ZO V.p V.hi)=ZC c.C hi:=by rw[hK.c,hK.p,hK.h]
 have hC:=QcO h8 h9 hp h6 h7;rw[hT,<-I]at hC;refine Qc<|Q3 h2 O O<|Qw<|hC.S ?_;rintro _ w7 ⟨hr,vs,rfl,hf,hvo,hn,hA⟩;refine QO rfl O<|QO O O<|Qo<|Zx (us:=vs) (hq.I hr) O O hf O hvo λw8 hs hB=>Qb<|Qj ⟨[sT vs,sS S],⟨⟨_,O,ZQ hf (hB.at (L:=[]) od).cells⟩,rfl,Z⟩,(U.D hr).Q hs oa,vs,rfl,hf,hvo,hn,λe=>?_⟩;exact(Xl (hA e) oa hs).S U.size
theorem Qng (h:Ya [] ↑w c)(hH:Qu [] ↑w vh hi)(hg:Kb w 4096)(Y:hck c.C hi=0->HOk c.C hi):
  QU sV 28 [c.val,vh] w λr w'=>sW w w'/\∃us,r=.tuple #[sT us,sS (hgE c.C hi)]/\us.length=4/\ZL us/\(hgE c.C hi≠0->us=Xf)/\(hgE c.C hi=0->Xb ↑w ↑w' (sT us) (Vw c.C hi)):=by
 have I:hgE c.C hi=if hck c.C hi≠0 then hck c.C hi else UJ c.C hi:=rfl
 refine Zd (hgE c.C hi) λS hS=>?_;rw[hS]at I ⊢;refine Zm func28 ?_;refine Qc<|Zf c.cells λb2 w1 hh hD hu=>QT Xf λb4 w2 hj hF hk=>Qb ?_;have J:=hh.D hj;have hG:=hh.size;refine Qc<|Q3 (hu.I hj) O O<|Qa<|Qw<|(Vj (h.I J) (hH.I J) (hg.I J) λe=>(Y e).e).S ?_;rintro _ w3 ⟨ha,us,rfl,hv,hw,hV⟩;have hm:=yA (k:=c.C) (hi:=hi);have ho:=Qez (k:=c.C) (hi:=hi);refine Zd (hck c.C hi) λE hE=>?_;rw[hE]at Y hV hm ho I ⊢;refine Qa<|QO O O<|QO O O<|QT Va λb6 w4 hy hz h0=>Qo<|Zx (us:=us) h0 O O hv O hw λw5 h1 h2=>Qb ?_;have T:sW w3 w5:=hy.Q h1 hz;have h3:=J.D ha;have U:=h3.D T;have hq:=(hk.I ha).I T;have hI:=hk.lt;have hJ:=ha.size;have hM:=T.size;refine Qd<|Ql<|ZN O O<|xe<|Zg rfl (λhe=>?_) (λhe=>?_)
 ·have G:E≠0:=he;refine Qc<|x (ZB [] Z)<|Qa<|Q5 Xf hq XI λw6 h4 h5=>Qb<|Qj ⟨[sT (Xf),sS E],⟨JN h5,O,Z⟩,U.Q h4 oa,Xf,by rw[I,OV G];rfl,O,XI,λ_=>O,λe=>OX (by rw[I,OV G]at e;exact e) G⟩
 have G:E=0:=Lt.1 he;obtain⟨V,rfl,hL,hK⟩:=hV G;have hp:Pl9 V.p:=by rw[hK.p];exact(Y G).p
 have h6:Yh V.hi:=by rw[hK.h];exact(hm G).1
 have h7:0<V.c.co.length:=by rw[hK.c];have e0:=ho G;rw[show c.C.co.length=c.co.length from Ln _]at e0;exact e0
 have h8:=hL.I T;have h9:=hg.I U;refine Qf ?_;rw[OU (λe=>e G)]at I;have hC:=QcN (c:=c.C) (hi':=hi) h8 h9 hp h6 h7 (by rw[hK.c]) hK.p hK.h;rw[<-I]at hC;refine Qc<|Q3 h2 O O<|Qw<|hC.S ?_;rintro _ w7 ⟨hr,vs,rfl,hf,hvo,hn,hA⟩;refine QO rfl O<|QO O O<|Qo<|Zx (us:=vs) (hq.I hr) O O hf O hvo λw8 hs hB=>Qb<|Qj ⟨[sT vs,sS S],⟨⟨_,O,ZQ hf (hB.at (L:=[]) od).cells⟩,rfl,Z⟩,(U.D hr).Q hs oa,vs,rfl,hf,hvo,hn,λe=>?_⟩;exact(Xl (hA e) oa hs).S U.size
instance:Ay sV 143 2 3 1:=⟨oc,oc⟩
def hcX (c:ZS)(hi:LI):Int:=if hck c hi≠0 then hck c hi else hcE c hi
theorem QcT {c:ZS}(I:Pl9 (YF c))(h:UJ c hi=0):QS (Vw c hi):=by
 unfold UJ at h;by_cases E:suE (ZC c hi)≠0
 ·rw[OV E]at h;exact OX h E
 rw[OU E]at h;exact QiC (λa G=>by
  rcases Lk.1 G with rfl|G
  ·exact I.ok
  rw[Lb.1 G];exact K3 (Lt.1 E)) h
theorem Qnh (h:Ya [] ↑w c)(hH:Qu [] ↑w vh hi)(ho:Kb w 4096)(hO:hck c.C hi=0->HOk c.C hi):
  QU sV 25 [c.val,vh] w λr w'=>sW w w'/\∃v e,r=.tuple #[v,.bool e,sS (hcX c.C hi)]/\(hcX c.C hi≠0->v=ZX/\e=false) /\
   (hcX c.C hi=0->match hcR c.C hi with|none=>v=ZX/\e=true|some u=>e=false/\Qh 3 ↑w w' v u):=by
 have I:hcX c.C hi=if hck c.C hi≠0 then hck c.C hi else if UJ c.C hi≠0 then UJ c.C hi else suE c.C:=rfl
 have hr:UJ c.C hi=0->Pl9 (YF c.C)->QS (Vw c.C hi):=λe hp=>QcT hp e;have hs:suE c.C=0->QS (X2 c.C):=K3;have J:hcR c.C hi=match lgq (Vw c.C hi) (X2 c.C) 1 with|some u=>some u|none=>lgq (Vw c.C hi) (X2 c.C) 2:=rfl
 refine Zd (hcX c.C hi) λX hX=>?_;refine Zd (hcR c.C hi) λR hR=>?_;rw[hX]at I;rw[hR]at J;rw[hX,hR];refine Zm func25 ?_;refine Qc<|Zf c.cells λb2 w1 hY kk h6=>x Qe<|x Qe<|Qb ?_;have hh:=hY;refine Qc<|Q3 h6 O O<|Qa<|Qw<|(Vj (h.I hh) (hH.I hh) (ho.I hh) λe=>(hO e).e).S ?_;rintro _ w3 ⟨h7,us,rfl,hZ,ga,hV⟩;have h8:=yA (k:=c.C) (hi:=hi);have h9:=Qez (k:=c.C) (hi:=hi);refine Zd (hck c.C hi) λE hE=>?_;rw[hE]at hO hV h8 h9 I ⊢;refine Qa<|QO O O<|QO O O<|QT Va λb6 w4 gb gc ge=>Qo<|Zx (us:=us) ge O O hZ O ga λw5 gg gh=>Qb ?_;have hu:sW w3 w5:=gb.Q gg gc;have gi:=hh.D h7;have hw:=gi.D hu;refine Qd<|Ql<|ZN O O<|xe<|Zg rfl (λhy=>?_) (λhy=>?_)
 ·have T:E≠0:=hy;rw[OV T]at I;refine Ql<|x Qe<|x Qe<|Qb<|Qj ⟨[ZX,.bool false,sS E],ox,hw,ZX,false,by rw[I];rfl,λ_=>⟨O,O⟩,λe=>OX (I.symm.D e) T⟩
 have T:E=0:=Lt.1 hy;rw[OU (λe=>e T)]at I;obtain⟨V,rfl,hL,hK⟩:=hV T;have hp:Pl9 V.p:=by rw[hK.p];exact(hO T).p
 have gj:Yh V.hi:=by rw[hK.h];exact(h8 T).1
 have gk:0<V.c.co.length:=by rw[hK.c];have e0:=h9 T;rw[show c.C.co.length=c.co.length from Ln _]at e0;exact e0
 have gl:=hL.I hu;have gm:=ho.I hw;have hT:=QcN (c:=c.C) (hi':=hi) gl gm hp gj gk (by rw[hK.c]) hK.p hK.h;have gn:Pl9 (YF c.C):=(hO T).p;refine Zd (UJ c.C hi) λF hF=>?_;rw[hF]at I hr hT;refine Zd (Vw c.C hi) λTA gq=>?_;rw[gq]at hr hT J;refine Qf<|Qc<|Q3 gh O O<|Qw<|hT.S ?_;rintro _ w6 ⟨hB,vs,rfl,gr,hvo,_,hA⟩;refine Qa<|QO O O<|QO O O<|QT Xf λb8 w7 gs gt gu=>Qo<|Zx (us:=vs) gu O O gr O hvo λw8 gv gx=>Qb ?_;have hz:sW w6 w8:=gs.Q gv gt;have hj:=(hw.D hB).D hz;refine Qd<|Ql<|ZN O O<|xe<|Zg rfl (λh0=>?_) (λh0=>?_)
 ·have ha:F≠0:=h0;rw[OV ha]at I;refine Ql<|x Qe<|x Qe<|Qb<|Qj ⟨[ZX,.bool false,sS F],ox,hj,ZX,false,by rw[I];rfl,λ_=>⟨O,O⟩,λe=>OX (I.symm.D e) ha⟩
 have ha:F=0:=Lt.1 h0;rw[OU (λe=>e ha)]at I;refine Qf ?_;have gy:=hr ha gn;obtain⟨ta,tm,te,gz,g0⟩:=hA ha;have g2:vs=[ta,sS TA.st,tm,te]:=OW OP (Value.agg.inj gz);subst g2;have g3:=g0 [] od;have hS:=VM (h.I hj) (ho.I hj);refine Zd (suE c.C) λG hG=>?_;have hsp:YQ c.C=G:=hG;rw[hG]at I hs hS;rw[hsp]at hS;refine Zd (X2 c.C) λSA g4=>?_;rw[g4]at hs hS J;refine Qc<|x (Zi (((h6.I h7).I hu).I (hB.D hz)) O O)<|Qw<|hS.S ?_;rintro _ w9 ⟨g5,sa,sm,se,rfl,h1,_,g6⟩;refine Qa<|QO O O<|QO O O<|QT Xf λb9 kn g7 g8 g9=>Q5 [sa,sS (if G=0 then SA.st else 0),sm,se] g9 ⟨h1.1,O,h1.2.1,h1.2.2.1,Z⟩ λhC ka hD=>Qb ?_
 have hI:sW w9 hC:=g7.Q ka g8;have h2:=g5.D hI;have hJ:=hj.D h2;refine Qd<|Ql<|ZN O O<|xe<|Zg rfl (λh3=>?_) (λh3=>?_)
 ·have hf:G≠0:=h3;refine Ql<|x Qe<|x Qe<|Qb<|Qj ⟨[ZX,.bool false,sS G],ox,hJ,ZX,false,by rw[I];rfl,λ_=>⟨O,O⟩,λe=>OX (I.symm.D e) hf⟩
 have hf:G=0:=Lt.1 h3;rw[OV hf]at hD;have kb:=hs hf;have kc:=g6 hf [] od;have hm:X=0:=I.D hf;have ke:=gx.I h2;refine Qf<|Qd<|Qc<|x (QD ⟨O,O,Z⟩)<|Qa<|xe<|QX (α:=Nat) [(4,6),(11,11),(38,58)] (λz=>[(38,sS z)]) (λz w'=>z<=2/\sW hC w'/\(0<z->lgq TA SA 1=none)/\(1<z->lgq TA SA 2=none)) (λz=>2 - z) 0 La ⟨oa,O6.Y _ _,λe=>OX e oa,λe=>OX e oa⟩ ?_;rintro k g ko ⟨hk,hg,hk1,kf⟩;have h4:=hJ.D hg;refine Zk rfl O (λhM=>?_) (λhM=>?_)
 ·refine Qt ?_;rw[hk1 oa]at J;have hN:R=lgq TA SA 2:=J;rw[kf oa]at hN;refine Qc<|x Qe<|x Qe<|Qb<|Qj ⟨[ZX,.bool true,sS 0],ox,h4,ZX,true,by rw[hm];rfl,λe=>OX hm e,λ_=>?_⟩;rw[hN];exact⟨O,O⟩
 have kq:(k:Int)<(2:Nat):=hM;have hP:k<2:=oa
 refine Qf<|Qd<|Qn<|Qc<|x (Qcu (i:=k) (cs:=[sS 1,sS 2]) (u:=sS ((k:Int)+1)) O O hP (by rcases(by omega:k=0\/k=1) with rfl|rfl <;> rfl))<|Qb ?_
 have hq:=Qen (g3.I ((hz.D h2).D hg)) (kc.I (hI.D hg)) ((k:Int)+1);rw[QjO gy kb oa]at hq;refine Zd (lgq TA SA ((k:Int)+1)) λQ Y=>?_;rw[Y]at hq;refine Qc<|Q3 (ke.I hg) O O<|Q3 (hD.I hg) O O<|Qa<|Qw<|hq.S ?_;rintro _ kg ⟨hU,v,e,rfl,U⟩;have U:=U O;refine Qa<|QO O O<|QO O O<|QO O O<|x Qe<|x Qe<|Qb ?_;have kh:=h4.D hU;refine QW (α:=Bool) [(49,54)] (λz=>[(54,.bool z)]) (λz w'=>w'=kg/\z=!e) oh ?_ ?_
 ·refine Qr<|Qa<|xb (Jd O O) (λhW=>?_) (λhW=>?_)
  ·exact OX O hW
  refine Qa<|Qa<|x (Zj O)<|QC O<|xe ?_;exact⟨!e,La,O,O⟩
 rintro z g kr ⟨rfl,rfl⟩;refine Q6 rfl (λh5=>?_) (λh5=>?_)
 ·have he:e=false:=by cases e;rfl;cases h5
  refine Ql<|Qa<|Qa<|x Qe<|x Qe<|Qb<|Qj ⟨[v,.bool e,sS 0],ox,kh,v,e,by rw[hm];rfl,λe=>OX hm e,λ_=>?_⟩;cases hn:Q with
  | none =>
   rw[hn]at U;exact OX (he.symm.D U.2) og
  | some u =>
   rw[hn]at U Y;have ki:R=some u:=by
    rcases(by omega:k=0\/k=1) with rfl|rfl
    ·rw[show lgq TA SA 1=some u from Y]at J;exact J
    rw[hk1 oa]at J;exact J.D Y
   rw[ki];exact⟨he,U.2.1,U.2.2.imp id λ⟨g,cap,cur,e1,e2,r⟩=>⟨g,cap,cur,e1,Lz h4.size e2,r⟩⟩
 have he:e=true:=by cases e;cases h5;rfl
 have kj:Q=none:=by
  cases hn:Q with
  | none=>rfl
  | some u=>rw[hn]at U;exact OX (U.1.symm.D he) og
 rw[kj]at Y;refine Qf<|Qr<|QB O O<|Qa<|xe<|⟨k+1,oa,La,hP,hg.D hU,λ_=>?_,λkt=>?_⟩
 ·rcases(by omega:k=0\/k=1) with rfl|rfl
  ·exact Y
  exact hk1 oa
 have e1:k=1:=oa
 subst e1;exact Y
def JP:ZS:={ mzC 2 with rq:=[UG] }
theorem QjW:hck JP [1,2]=0:=oc
theorem Qpo:hck JP [0,1,2]=0:=oc
theorem Qpl:plE JP=0:=oc
theorem Qpm:Jc (YF JP)=0:=oc
theorem Qpj:(YF JP).st=4:=oc
theorem Qpk:(YF JP).ed.length=8:=oc
theorem QjV:(nbl (YF JP)).2=true:=oc
theorem Qps:cns (YF JP) [1,2] (unc JP.ev)=some ([],1):=oc
theorem Qpr:cns (YF JP) [0,1,2] (unc JP.ev)=none:=oc
theorem Qpn:obs (YF JP) [0,1,2] []=none:=oc
theorem Qrj:QeG (YF JP) [1,2] (unc JP.ev)=[0,1,2]:=oc
theorem Qpq:hcX JP [0,1,2]=0:=oc
theorem Qpp:hcR JP [0,1,2]=none:=oc
theorem Qg3 {v:O3}{l':LI}(h:Qu L ↑w v l)(E:Qu L' ↑w v' l'):QU sV 23 [v,v'] w λr w'=>r=.bool (decide (l=l'))/\sW w w':=by
 have hj:=h.le;refine Zm func23 ?_;refine Qc<|Qb<|Qd<|Ql<|QG h O<|Qa<|QG E O<|ZN O O<|xe<|Zg rfl (λY=>?_) (λY=>?_)
 ·refine Qc<|Qb<|Qj ⟨[.bool false],La,?_,O6.Y _ _⟩;have I:l≠l':=λe=>Y (by rw[e]);simp[tup,I]
 refine Qf<|Qd<|Qc<|Qb<|QX (α:=Nat) [(4,5),(11,25)] (λk=>[(5,sS k)]) (λk w'=>sW w w'/\k<=l.length/\(l=l'↔l.drop k=l'.drop k)) (λk=>l.length - k) 0 La ⟨O6.Y _ _,Lo _,od⟩ ?_;rintro k g w1 ⟨G,hk,J⟩
 replace h:=h.I G
 replace E:=E.I G;refine Qd<|Ql<|Qa<|QG h O<|ZW O O<|xe<|Zp rfl (λhf=>?_) (λhf=>?_)
 ·refine Qt<|Qc<|Qb<|Qj ⟨[.bool true],La,?_,G⟩;rw[Lu oa,Lu oa]at J;simp[tup,J]
 have T:k<l.length:=oa
 have U:k<l'.length:=oa
 refine Qf<|Qd<|Qn<|Qd<|ZK [] (Xj 0 9 [])<|p Qy<|p Qy<|pii (i:=k) O h O O T λhn hg=>pq (λ_ hc=>Qq (hg.I hc) O)<|p Qy<|p Qy<|pii (i:=k) O E O O U λho hh=>pq (λ_ hc=>Qq (hh.I hc) O)<|p (λ_=>Jd O O)<|pe ?_;have ha:=G.D (O6.X [] w1);refine Zg rfl (λV=>?_) (λV=>?_)
 ·refine Qc<|Qb<|Qj ⟨[.bool false],La,?_,ha⟩;have I:l≠l':=λe=>V (by simp[e]);simp[tup,I]
 refine Qf<|Qr<|Qa<|QB O O<|Qb<|⟨k+1,oa,La,ha,oa,?_⟩;have he:l[k]'T=l'[k]'U:=Lt.1 V;rw[J,QY T,QY U,he];exact⟨λh=>(List.cons.inj h).2,λh=>by rw[h]⟩
theorem QcV {v:O3}(h:Qu L ↑w v l)(x:Int):
  QU sV 27 [v,sS x] w λr w'=>r=.bool (decide (x∈l))/\w'=w:=by
 have U:=h.le;refine Zm func27 ?_;refine Qc<|Lg.Qb<|Qd<|Qc<|Lg.Qb<|QX (α:=Nat) [(4,17)] (λk=>[(5,sS k)]) (λk w'=>w'=w/\k<=l.length/\(x∈l↔x∈l.drop k)) (λk=>l.length - k) 0 La ⟨O,Lo _,od⟩ ?_;rintro k g w' ⟨rfl,V,E⟩;refine Qd<|Qc<|Lg.Qa<|Lg.Qa<|Lg.x (Y1 h O)<|Lg.ZW O O<|xe<|Zp rfl (λJ=>?_) (λJ=>?_)
 ·refine Qt<|Qc<|Lg.Qb<|Qj ⟨[.bool false],La,?_,O⟩;rw[Lu oa]at E;simp[tup,E]
 have I:k<l.length:=oa
 have hd:=QY I;refine Qf<|Qd<|Qn<|Qc<|Lg.Qa<|Lg.Qa<|xii h O O I λY T=>Lg.x (Qq T O)<|Lg.Qa<|Lg.x (Zc O O)<|xe<|Zg rfl (λG=>?_) (λG=>?_)
 ·refine Qc<|Lg.Qb<|Qj ⟨[.bool true],La,?_,O⟩;have:x∈l:=by rw[E,hd,G];exact Lh
  simp[tup,this]
 refine Qf<|Qr<|Lg.Qa<|Lg.QB O O<|Lg.Qb<|⟨k+1,oa,La,O,oa,?_⟩;rw[E,hd,Lk];exact⟨λh=>h.resolve_left (λe=>G e.symm),.inr⟩
theorem QlB {R:RpV}  : QU sV 24 [sT (ZE R)] w λr w'=>r=.bool (R.t && R.o && R.c)/\sW w w':=by
 refine Zm func24 ?_;refine Qc<|Zf (ZE R) λU J T V G=>Qb<|QW (α:=Bool) [(2,12)] (λz=>[(2,.bool z)]) (λz w'=>w'=J/\z=(R.t && R.o && R.c)) oh ?_ ?_
 ·refine Qr<|Q9 O<|xB (Qk (u:=.bool R.t) G O O) (λE=>?_) (λE=>?_)
  ·refine Qa<|Q9 O<|xB (Qk (u:=.bool R.o) G O O) (λI=>?_) (λI=>?_)
   ·refine QC O<|Qa<|Qs O (u:=.bool R.c) G O O<|QC O<|Qb<|⟨R.c,La,O,by rw[E,I];rfl⟩
   refine QC O<|Qa<|YP<|QC O<|Qb<|⟨false,La,O,by rw[E,I];rfl⟩
  refine Qa<|YP<|QC O<|Qa<|YP<|QC O<|Qb<|⟨false,La,O,by rw[E];rfl⟩
 rintro z g Y ⟨rfl,rfl⟩;exact Qj ⟨[.bool (R.t && R.o && R.c)],La,O,T⟩
theorem Jm (w:O2):QU sV 114 [] w λr w'=>sW w w'/\Qn6 ↑w ↑w' r JP:=by
 refine Zm func114 ?_;refine Qc<|QT K9 λG w1 hz hG hh=>xe ?_;refine Qc<|Qw<|(J3 2 og w1).S ?_;rintro r2 w2 ⟨hj,E,rfl,h0,hk⟩;refine QT K9 λI w3 h1 hp h3=>Q5 E.cells h3 (hk [] od).ones λY h4 hr=>xe ?_;have ha:sW w2 Y:=h1.Q h4 hp;have hH:=hj.size;refine Qc<|Qo<|Q8 [[sS 1],[sS 2]] λJ w5 hs hJ h5=>Qo<|Q8 [[sS 0],[sS 1]] λT w6 hn hK h6 =>
  x (QD ⟨rfl,O,O,Z⟩)<|x (QD ⟨O,O,O,Z⟩)<|Qo<|Q8 [Qp (0,1,1),Qp (1,2,0)] λU w7 he hM h7=>?_
 refine x (QD ⟨O,O,O,O,Z⟩)<|x (ZB [(0,[.string Kl]),(1,[sL J 2 2,sS 2,sL T 2 2,sL U 2 2])] ⟨O,O,O,O,Z⟩) <|
  Qo<|Q8 [[.string Kl,sL J 2 2,sS 2,sL T 2 2,sL U 2 2]] λb10 w8 hf hN h8=>?_
 have hu:=((hs.D hn).D he).D hf;refine Q9 rfl<|Qo<|Qv (j:=2) (u:=sL b10 1 1) (hr.I hu) O O od rfl λw9 hv hA=>xe ?_;have hO:=hh.lt;have hP:=ha.size;have hQ:=hs.size;have hR:=hn.size;have hS:=he.size;have ho:O6 [I] Y w9:=hu.any.V hv;have hB:G∉[I]:=ol
 have hC:ZL [E.ve,E.vc,sL b10 1 1,E.vx,E.vk]:=by
  have h9:=(hk [] od).ones;exact⟨h9.1,h9.2.1,O,h9.2.2.2.1,h9.2.2.2.2.1,Z⟩
 refine Qc<|Q3 hA O O<|Q5 [E.ve,E.vc,sL b10 1 1,E.vx,E.vk] (((hh.I hj).I ha).J ho hB) hC λhT hw hD=>xe ?_;have V:=(CL.cel_rq h0 (sL b10 1 1) [⟨Kl,⟨sL J 2 2,sL T 2 2,sL U 2 2,UG.a⟩⟩]);refine Qj ⟨[.agg #[E.ve,E.vc,sL b10 1 1,E.vx,E.vk]],⟨JN hD,Z⟩,(((hz.D hj).D ha).Q ho oa).Q hw oa,_,O,V,λL hL=>?_⟩;have hy:∀b∈G::L,b<w1.heap.size:=λb hb=>by
  rcases Lk.1 hb with rfl|hb
  ·exact hh.lt
  have:=hL b hb;omega
 have hE:∀b∈I::G::L,b<Y.heap.size:=λb hb=>by
  rcases Lk.1 hb with rfl|hb
  ·exact hr.lt
  have:=hy b hb;omega
 have h2:=(hk (G::L) hy).up (L':=I::G::L) (λb hb=>by
  rcases Lk.1 hb with rfl|hb
  ·exact .inr hp
  exact .inl hb)
 have hg:=(h2.I ha).st (ho.S od);have nB:∀b,↑Y<=b->b∉I::G::L:=λb hb hm=>oo (hE b hm)
 have hI:Vo (I::G::L) ↑w8 (sL b10 1 1) [⟨Kl,⟨sL J 2 2,sL T 2 2,sL U 2 2,UG.a⟩⟩]:=by
  refine⟨h8.arr (nB _ oa) (n:=1) (cap:=1) (sz:=5) O og (Lp _),λq V=>?_,λq V=>?_⟩
  ·rw[Lb.1 V];exact⟨(((h5.I hn).I he).I hf).arr (nB _ oa) (n:=2) (cap:=2) (sz:=1) O og (Lp _),((h6.I he).I hf).arr (nB _ oa) (n:=2) (cap:=2) (sz:=1) O og (Lp _),(h7.I hf).arr (nB _ oa) (n:=2) (cap:=2) (sz:=3) O og (Lp _)⟩
  rw[Lb.1 V];exact Js og
 have hF:Ya (I::G::L) ↑w9 (CL.mk E.ve E.vc (sL b10 1 1) E.vx E.vk E.ev E.co [⟨Kl,⟨sL J 2 2,sL T 2 2,sL U 2 2,UG.a⟩⟩] E.ex E.cs):=
  ⟨hg.ev,hg.co,hI.st (hv.S od),hg.ex,hg.cs⟩
 exact(hF.st (hw.S od)).up (λb hb=>.inl (Lj _ (Lj _ hb)))
theorem zE (hi:LI):HOk JP hi:=⟨Qpl,⟨(Zz _).1 Qpm,by rw[show(J7 (O8 JP.co)).st=4 from Qpj];decide,by rw[show(J7 (O8 JP.co)).ed.length=8 from Qpk];decide⟩⟩
theorem Qob {k:ZS}{V:LvV}{H:xC}{R:RpV}(E:LvK c hi V)(hc:c.C=k)(h:jq [] H V 3 R):
  (R.t=(nbl (YF k)).2/\Qu [] H R.vs (nbl (YF k)).1)/\(R.o=(obs (YF k) hi []).isNone/\Qu [] H R.vw ((obs (YF k) hi []).elim [] (·.1))/\Qu [] H R.vo ((obs (YF k) hi []).elim [] (·.2))) /\
   R.c=(cns (YF k) hi (unc k.ev)).isNone/\R.ev=(cns (YF k) hi (unc k.ev)).elim (-1) (·.2)/\Qu [] H R.vp ((cns (YF k) hi (unc k.ev)).elim [] (·.1)):=by
 subst hc;have G:=h.p1 og;have I:=h.p2 og;have J:=h.p3 og;have eu:V.un=unc c.C.ev:=E.u;rw[E.p]at G;rw[E.p,E.h]at I;rw[E.p,E.h,eu]at J;exact⟨G,I,J⟩
theorem Qrr {H:xC}:Qu L H ZX []:=⟨O,og,.inl ⟨O,O⟩⟩
theorem Qrf {H:xC}{b:Nat}{m n:Int}(h:QK H b T [sS m,sS n]):Qu [] H (sL b 2 2) [m,n]:=h.arr od (n:=2) (cap:=2) (sz:=1) rfl oa (Lp _)
theorem Qph {H:xC}{b:Nat}{m n o:Int}(h:QK H b T [sS m,sS n,sS o]):Qu [] H (sL b 3 3) [m,n,o]:=h.arr od (n:=3) (cap:=3) (sz:=1) rfl oa (Lp _)
theorem Qeq (E:Kb w 4096):QU sV 46 [] w λr w'=>r=.bool true/\sW w w':=by
 refine Zm func46 ?_;refine Qc<|Qb<|Qc<|Qw<|(Jm w).S ?_;rintro r1 w1 ⟨h7,⟨c1,rfl,G,h8⟩⟩;refine Qo<|Q8 [[sS 1],[sS 2]] λgx w2 V gy h9=>?_;have Y:=h7.D V;have hT:=QgM ((h8 [] od).I V) (Qrf h9) (E.I Y) λ_=>by rw[G];exact zE _
 rw[G,QjW]at hT;refine Qw<|hT.S ?_;rintro _ w3 ⟨hA,R1,rfl,hB,_,hC⟩;obtain⟨V1,hD,hE⟩:=hC O;obtain⟨⟨t1,_⟩,_,ha,e1,_⟩:=Qob hD G hE;rw[QjV]at t1;rw[Qps]at ha e1;refine Qa<|QO O O<|QO O O<|QT (ZE rp8) λb1 w4 hF hG hI=>Q5 (ZE R1) hI hB λw5 hJ hK=>Qb ?_;have hL:sW w3 w5:=hF.Q hJ hG;have he:=(Y.D hA).D hL;refine Qc<|Qw<|(Jm w5).S ?_;rintro r6 w6 ⟨hM,⟨c6,rfl,I,hN⟩⟩;refine Qo<|Yo (us:=[[sS 0],[sS 1],[sS 2]]) O O og od ⟨rfl,rfl,rfl,rfl,rfl,rfl,Z⟩ λgz w7 hf g0 hO=>?_;have hg:=hM.D hf;have hT:=QgM ((hN [] od).I hf) (Qph hO) (E.I (he.D hg)) λ_=>by rw[I];exact zE _
 rw[I,Qpo]at hT;refine Qw<|hT.S ?_;rintro _ w8 ⟨hP,R2,rfl,hQ,_,hR⟩;obtain⟨V2,hS,hU⟩:=hR O;obtain⟨⟨t2,_⟩,⟨o2,_⟩,hh,_⟩:=Qob hS I hU;rw[QjV]at t2;rw[Qpn]at o2;rw[Qpr]at hh;refine Qa<|QO O O<|QO O O<|QT (ZE rp8) λb3 w9 hV hW hY=>Q5 (ZE R2) hY hQ λhj hZ ga=>Qb ?_;have gb:sW w8 hj:=hV.Q hZ hW;have hk:=(hg.D hP).D gb;have J:=he.D hk;refine Qc<|Qw<|(Jm hj).S ?_;rintro g2 g3 ⟨gc,⟨g4,rfl,hm,ge⟩⟩;refine Qo<|Q8 [[sS 1],[sS 2]] λg5 g6 hn g7 gg=>?_;have ho:=gc.D hn;have hX:=QeA ((ge [] od).I hn) (Qrf gg) (E.I (J.D ho)) λ_=>by rw[hm];exact zE _
 rw[hm,QjW]at hX;rw[show YF JP=YF JP from rfl,Qrj]at hX;refine Qw<|hX.S ?_;rintro _ hp ⟨gh,vx,rfl,_,_,hx⟩;have gi:Qu [] ↑hp vx [0,1,2]:=Qh.ints (hx O).1 og od;refine Qa<|QO O O<|QO O O<|x Qe<|Qb ?_;have hq:=ho.D gh;refine Qc<|Qw<|(Jm hp).S ?_;rintro g8 g9 ⟨gj,⟨ka,rfl,hr,gk⟩⟩;refine Qo<|Yo (us:=[[sS 0],[sS 1],[sS 2]]) O O og od ⟨rfl,rfl,rfl,rfl,rfl,rfl,Z⟩ λkb kc hs ke gl=>?_;have hu:=gj.D hs;have hX:=Qnh ((gk [] od).I hs) (Qph gl) (E.I ((J.D hq).D hu)) λ_=>by rw[hr];exact zE _
 rw[hr,Qpq,Qpp]at hX;refine Qw<|hX.S ?_;rintro _ hv ⟨gm,vc,ec,rfl,_,hc⟩;obtain⟨rfl,rfl⟩:=hc O;refine Qa<|QO O O<|QO O O<|QO O O<|x Qe<|x Qe<|Qb ?_;have hw:=hu.D gm;have T:=hq.D hw;have U:=(hK.I hk).I T;have gn:=ga.I T;have gq:=gi.I hw;have hH:=QlB (R:=R2) (w:=hv);rw[show(R2.t && R2.o && R2.c)=true by rw[t2,o2,hh];rfl]at hH;have et:R1.t=true:=t1;have gr:R1.c=false:=ha;have eev:R1.ev=1:=e1;refine QW (α:=Unit) [(0,0),(35,79)] (λz=>[(0,.bool true)]) (λz w'=>sW hv w') oh ?_ ?_
 ·refine Qr<|Qa<|xb (Zc O O) (λhy=>?_) (λhy=>OX O hy);refine Qa<|Q9 O<|xB (Qk (u:=.bool R1.t) U O O) (λhz=>?_) (λhz=>OX (et.symm.D hz) og);refine QC O<|Qa<|Qs O (u:=.bool R1.c) U O O<|xB (Zj (b:=R1.c) O) (λh0=>?_) (λh0=>OX h0 (by rw[gr];decide));refine QC O<|Qa<|Qs O (u:=sS R1.ev) U O O<|xb (Zc O O) (λh1=>?_) (λh1=>OX eev h1);refine QC O<|Qa<|Qa<|xb (Zc O O) (λh2=>?_) (λh2=>OX O h2);refine QC O<|Qa<|Q3 gn O O<|Qw<|hH.S ?_;rintro kf kg ⟨rfl,h3⟩;refine QC O<|Qa<|Qa<|xb (Zc O O) (λh4=>?_) (λh4=>OX O h4);refine QC O<|Qa<|Qa<|Qo<|Yo (us:=[[sS 0],[sS 1],[sS 2]]) O O og od ⟨rfl,rfl,rfl,rfl,rfl,rfl,Z⟩ λkh ki h5 kj gs=>?_;have hSm:=Qg3 ((gq.I h3).I h5) (Qph gs);rw[show decide (([0,1,2]:LI)=[0,1,2])=true from by decide]at hSm;refine Qw<|hSm.S ?_;rintro kk gt ⟨rfl,gu⟩;refine QC O<|Qa<|Qa<|xb (Zc O O) (λh6=>?_) (λh6=>OX O h6);refine QC O<|Qa<|Qa<|QC O<|Qa<|Qa<|QG (Qrr (L:=[]) (H:=↑gt)) O<|x (Zc O O)<|QC O<|Qb<|⟨(),La,(h3.D h5).D gu⟩
 rintro z g kn gv;exact Qj ⟨[.bool true],La,O,(J.D T).D gv⟩
theorem jl (E:Kb w 4096):QU sV 10 [] w λr w'=>r=.bool true/\sW w w':=by
 refine Zm func10 ?_;refine Qc<|Qb<|QW (α:=Unit) [(0,4)] (λz=>[(0,.bool true)]) (λz w'=>sW w w') oh ?_ ?_
 ·refine Qr<|Qw<|(Qeq E).S ?_;rintro T U ⟨rfl,G⟩;refine Qa<|Qw<|(Qff (E.I G)).S ?_;rintro r2 V ⟨rfl,I⟩;refine QC O<|Qb<|⟨(),La,G.D I⟩
 rintro z g Y J;exact Qj ⟨[.bool true],La,O,J⟩
def Ue (l:List Jp):Int:=l.foldl (λn x=>n*max 1 x.a.st) 1
theorem QiE (l:List Jp)(x:Jp):Ue (l++[x])=Ue l*max 1 x.a.st:=by unfold Ue;rw[Mn];rfl
theorem stF:∀(l:List Jp) (n:Int),1<=n->(∀x∈l,x.a.st<=3)->1<=l.foldl (λn x=>n*max 1 x.a.st) n/\l.foldl (λn x=>n*max 1 x.a.st) n<=n*3 ^ l.length
 | [],n,h,_=>⟨h,od⟩
 | x::l,n,h,E=>by
  have T:=E x Lh;have G:1<=max 1 x.a.st/\max 1 x.a.st<=3:=oa
  have U:1*1<=n*max 1 x.a.st:=Int.mul_le_mul h G.1 og oa;obtain⟨I,i2⟩:=stF l (n*max 1 x.a.st) oa λy J=>E y (Lj _ J);refine⟨I,Int.le_trans i2 ?_⟩;rw[LP,Int.pow_succ,Int.mul_comm (3 ^ l.length) 3,<-Int.mul_assoc];exact Int.mul_le_mul_of_nonneg_right (Int.mul_le_mul_of_nonneg_left G.2 oa) (Int.pow_nonneg og)
theorem Ql5 {l:List Jp}(h:∀x∈l,x.a.st<=3):1<=Ue l/\Ue l<=3 ^ l.length:=by
 have:=stF l 1 og h;rw[Int.one_mul]at this;exact this
theorem qM (h:Ya [] ↑w c)(hl:c.co.length<=3)(J:∀x∈c.C.co,x.a.st<=3):
  QU sV 48 [c.val] w λr w'=>r=sS (Ue c.C.co)/\sW w w':=by
 refine Zm func48 ?_;refine Qc<|Zf c.cells λb1 w1 T hj U=>Qb<|Qc<|Qb<|Qd<|Qc<|Qb ?_;have V:=h.co.arr.I T;refine QX (α:=Nat) [(3,21)] (λz=>[(3,sS (Ue ((c.co.take z).map (·.it)))),(4,sS z)]) (λz w'=>z<=c.co.length/\w'=w1) (λz=>c.co.length - z) 0 ov ⟨Lo _,O⟩ ?_;rintro k g w2 ⟨hk,rfl⟩;refine Qd<|Ql<|Qs O U O O<|QG V O<|ZW O O<|xe<|Zp rfl (λI=>?_) (λI=>?_)
 ·refine Qt ?_;have he:c.co.length<=k:=by have hf:¬(k:Int)<(c.co.length:Int):=I;omega
  refine Ql<|Qb<|Qj ⟨[_],La,by rw[Lr he];rfl,T⟩
 have E:k<c.co.length:=by have hf:(k:Int)<(c.co.length:Int):=I;omega
 have hg:(c.co[k]'E).p.a.st<=3:=J (c.co[k]'E).it (LL (Lm E));have ht:(c.co.take (k+1)).map (·.it)=(c.co.take k).map (·.it)++[(c.co[k]'E).it]:=by rw[Ll E,Ly];rfl
 have hb:=Ql5 (l:=(c.co.take k).map (·.it)) λy hy=>by
  obtain⟨q,G,rfl⟩:=Lx.1 hy;exact J q.it (LL (L2 G))
 have hh:Ue ((c.co.take k).map (·.it))<=27:=Int.le_trans hb.2 (by
  rw[Ln,LC,M2 hk];have:k=0\/k=1\/k=2:=oa
  rcases this with rfl|rfl|rfl <;> decide)
 have Y:Ue ((c.co.take (k+1)).map (·.it))=Ue ((c.co.take k).map (·.it))*max 1 (c.co[k]'E).p.a.st:=by rw[ht,QiE];rfl
 refine Zd (c.co[k]'E) λq G=>?_;rw[G]at hg Y;have hm:1<=max 1 q.p.a.st/\max 1 q.p.a.st<=3:=oa
 have hn:(0:Int)<=Ue ((c.co.take k).map (·.it))*max 1 q.p.a.st:=Int.mul_nonneg oa oa;have ho:Ue ((c.co.take k).map (·.it))*max 1 q.p.a.st<=27*3:=Int.mul_le_mul hh hm.2 oa og;refine Qf<|Qd<|Qn<|Qr<|Qa<|Qs O U O O<|Qa<|O9 (g:=Zn) (i:=k) (λ_=>O) V O O E λhp ha=>?_;rw[G]at ha;refine x (ZF O)<|x (ZF O)<|x (Qq (ha.fld 2 _ O) O)<|x (QqX O O)<|x (QfO O O ⟨oa,oa⟩)<|Qb<|Qr<|Qa<|QB O O<|Qb<|⟨k+1,by show c.co.length - (k+1)<c.co.length - k;omega,⟨OW sS Y.symm,O,Z⟩,E,O⟩
theorem QlD (h:Ya [] ↑w c)(hl:c.co.length<=3)(G:∀x∈c.C.co,x.a.st<=3):
  QU sV 13 [c.val] w λr w'=>r=.bool (decide (Ue c.C.co<=9))/\sW w w':=by
 refine Zm func13 ?_;refine Qc<|Zf c.cells λT U E V I=>Qb<|Qc<|Q3 I O O<|Qw<|(qM (h.I E) hl G).S ?_;rintro r2 Y ⟨rfl,J⟩;refine x (X3 O O)<|Qb<|Qj ⟨[_],La,O,E.D J⟩
def jG:List Qz->List (LI)
 | []=>[[]]
 | a::l=>(Yt a.st.toNat).flatMap λs=>(jG l).map (s::·)
theorem QjP {α β:Type}(f:α->List β)(n:Nat):∀(l:List α),(∀a∈l,(f a).length=n)->(l.flatMap f).length=l.length*n
 | [],_=>od
 | a::l,h=>by rw[LM,Lc,h a Lh,QjP f n l λb hb=>h b (Lj _ hb),LP,OO,MY]
theorem jF:∀l:List Qz,(jG l).length=(l.map (·.st.toNat)).foldr (·*·) 1
 | []=>rfl
 | a::l=>by
  rw[jG,QjP _ (jG l).length _ λs _=>Ln _,jF l];have:(Yt a.st.toNat).length=a.st.toNat:=by simp[Yt]
  rw[this];rfl
theorem QjD:∀(l m:List (LI)),l.Nodup->(∀x∈l,x∈m)->l.length<=m.length
 | [],_,_,_=>Lo _
 | x::l,m,J,E=>by
  have G:=List.nodup_cons.1 J;have hx:=E x Lh;have:=QjD l (m.erase x) G.2 λy I=>(List.mem_erase_of_ne (a:=y) (b:=x) (λe=>G.1 (by rw[<-e];exact I))).2 (E y (Lj _ I));rw[List.length_erase_of_mem hx]at this;have T:0<m.length:=List.length_pos_of_mem hx;rw[LP];omega
theorem Qig:∀(aa:List Qz) (t:LI),Vt aa t->t∈jG aa
 | [],t,h=>by
  have:t=[]:=Ls h.1;rw[this];exact Lb.2 O
 | a::l,[],h=>by have:=h.1;simp at this
 | a::l,s::u,h=>by
  have E:=h.2 0 od od;have G:Vt l u:=⟨by have:=h.1;simpa using this,λi hi I=>by
   have:=h.2 (i+1) (ou hi) (ou I);simpa using this⟩
  have J:0<=s/\s<a.st:=by simpa using E
  rw[jG];exact Mc.2 ⟨s,(Kn _ _).2 ⟨J.1,oa⟩,Lx.2 ⟨u,Qig l u G,O⟩⟩
theorem QaF {Q:List (LI)}(E:Q.Nodup)(G:∀t∈Q,Vt aa t):Q.length<=(aa.map (·.st.toNat)).foldr (·*·) 1:=by
 rw[<-jF];exact QjD Q _ E λt ht=>Qig aa t (G t ht)
theorem US:∀{es:List Ed},(es.Pairwise λx y=>x.1<y.1\/(x.1=y.1/\x.2.1<y.2.1))->∀{s v t:Int},(s,v,t)∈es->xo es s v=some t
 | [],_,_,_,_,h=>by cases h
 | e::es,G,s,v,t,h=>by
  obtain⟨I,J⟩:=L5.1 G;rw[xo];rcases Lk.1 h with h|h
  ·subst h;rw[OV ⟨rfl,rfl⟩]
  have T:=I _ h;rw[OU (λE=>by have a1:e.1=s:=E.1;have a2:e.2.1=v:=E.2;simp only[]at T;omega)];exact US J h
abbrev QeR (a:Qz):Cs:=Xg a a.st.toNat 0 (Z3 a)
theorem cn0 (T:0<a.st):CnG a 0 (Z3 a):=by
 have G:0<a.st.toNat:=oa
 refine⟨⟨by simp[Z3],λs E=>by simp[Z3]at E;subst E;omega,by simp[Z3],λk U k1=>?_⟩,Lo _,⟨by simp[Z3,ZZ],by simp[Z3]⟩,by simp[Z3],by simp[Z3],λj V=>oa⟩;by_cases ek:k=0
 ·subst ek;rw[OV (by simp[Z3])];unfold ZZ Z3;simp[oN,G]
 rw[OU (by simpa[Z3]using ek)];unfold Z3;have I:0≠k.toNat:=oa
 have J:k.toNat<a.st.toNat:=oa
 unfold ZZ;rw[MA,MW I];simp[J]
theorem QkV (I:QS a)(J:0<a.st):CnP a (QeR a).ord/\YG a=⟨a.al,((QeR a).ord.length:Int),(QeR a).mk',(QeR a).ed⟩/\(QeR a).ord.length<=a.st.toNat:=by
 obtain⟨T,E,V⟩:=qF I a.st.toNat 0 (Z3 a) (cn0 J);have U:(Xg a a.st.toNat 0 (Z3 a)).ord.length<=a.st.toNat:=xI _ _ E.nu.nd (λx hx=>oo (E.nu.bd x hx));have hi':T=(Xg a a.st.toNat 0 (Z3 a)).ord.length:=by have:=E.le;omega
 subst hi';have G:YG a=⟨a.al,((Xg a a.st.toNat 0 (Z3 a)).ord.length:Int),(Xg a a.st.toNat 0 (Z3 a)).mk',(Xg a a.st.toNat 0 (Z3 a)).ed⟩:=by unfold YG;rw[OU oa]
 refine⟨⟨E.nu.nd,E.nu.bd,E.hd,by rw[G],by rw[G],?_,?_,E.cl⟩,G,U⟩
 ·rw[G];exact E.mk2
 rw[G];exact E.ed
theorem Qoa {a:Qz}{ul:LI}:∀(f:Nat) (lf:Lf),VH lf<f->(nxs a ul (VU a ul f lf)).length=0
 | 0,_,h=>oa
 | f+1,lf,h=>by
  by_cases E:(nxs a ul lf).length=0
  ·rw[VU,OV E];exact E
  rw[jT E];have:=QcG E;exact Qoa f _ oa
theorem QoR (a:Qz)(fb ul:LI):(nxs a ul (JM a fb ul)).length=0:=by
 refine Qoa _ _ ?_;have h:=Qgz (lf0 a.st.toNat fb);have:(lf0 a.st.toNat fb).length=a.st.toNat:=by unfold lf0;rw[UV,List.length_replicate]
 omega
theorem QmT {l:Lf}{x:Int}(h:lft (cut l x) s=true):lft l s=true/\x.toNat≠s.toNat:=by
 unfold lft cut at *;rw[MA,List.getElem?_set]at h;by_cases e:x.toNat=s.toNat
 ·rw[OV e]at h;split at h <;> simp at h
 rw[OU e,<-MA]at h;exact⟨h,e⟩
theorem yo {s:Int}:∀(xs:LI) (l:Lf),lft (xs.foldl cut l) s=true->lft l s=true/\∀x∈xs,x.toNat≠s.toNat
 | [],l,h=>⟨h,λx hx=>(by cases hx)⟩
 | x::xs,l,h=>by
  obtain⟨G,I⟩:=yo xs (cut l x) h;obtain⟨J,T⟩:=QmT G;refine⟨J,λy E=>?_⟩;rcases Lk.1 E with e|E
  ·rw[e];exact T
  exact I y E
theorem Qgb {a:Qz}{ul:LI}{s:Int}:∀(f:Nat) (l:Lf),lft (VU a ul f l) s=true->lft l s=true
 | 0,l,h=>h
 | f+1,l,h=>by
  rw[VU]at h;split at h
  ·exact h
  exact(yo _ _ (Qgb f _ h)).1
theorem Qpi {fb:LI}(h:lft (JM a fb ul) s=true):∀x∈fb,x.toNat≠s.toNat:=(yo fb _ (Qgb _ _ h)).2
theorem QmP {e:Ed}{out:xx}(h:out≠[]):JO ul lf out e≠[]:=by
 unfold JO;split
 ·exact h
 split
 ·exact h
 simp
theorem QcP {ul:LI}{lf:Lf}:∀(l:List Ed) {out:xx},out≠[]->l.foldl (JO ul lf) out≠[]
 | [],_,h=>h
 | _::l,_,h=>QcP l (QmP h)
theorem QcQ {ul:LI}{lf:Lf}{e:Ed}(E:lft lf e.1=true)(G:lft lf e.2.2=false)(I:e.2.1∈ul):∀(l:List Ed) (out:xx),e∈l->l.foldl (JO ul lf) out≠[]
 | x::l,out,h=>by
  rcases Lk.1 h with e1|h
  ·subst e1;refine QcP l ?_;unfold JO;rw[OU (by rw[E,G];simp[I])];split
   ·rename_i J;intro T;rw[T]at J;cases J
   simp
  exact QcQ E G I l _ h
theorem QmW {fb:LI}{e:Ed}(I:e∈a.ed)(J:lft (JM a fb ul) e.1=true)(T:e.2.1∈ul):lft (JM a fb ul) e.2.2=true:=by
 have E:=QoR a fb ul;cases U:lft (JM a fb ul) e.2.2 with
 | true=>rfl
 | false =>
  have V:lost a ul (JM a fb ul)≠[]:=QcQ J U T a.ed [] I;have G:(lost a ul (JM a fb ul)).length≠0:=λh=>V (Ls h);unfold nxs at E;rw[OV G,Ln]at E;exact OX E G
def pst (v:Int)(a:Qz)(x:Int):Option Int:=if v∈a.al then xo a.ed x v else some x
theorem Y0 (v:Int)(a:Qz)(aa:List Qz)(x:Int)(t:LI):QZ v (a::aa) (x::t)=(pst v a x).bind λy=>(QZ v aa t).map (y::·):=by
 rw[QZ];unfold pst;by_cases h:v∈a.al
 ·rw[OU (not_not_intro h),OV h];cases xo a.ed x v <;> rfl
 rw[OV h,OU h];rfl
theorem XH (v:Int):∀(aa:List Qz) (t u:LI),t.length=aa.length->(QZ v aa t=some u↔u.length=aa.length/\∀i (h:i<aa.length),pst v (aa[i]'h) (O7 t i)=some (O7 u i))
 | [],[],u,_=>by
  show some []=some u↔_;constructor
  ·intro h;rw[<-Option.some.inj h];exact⟨O,λi h=>OX h (Nz i)⟩
  rintro⟨h,_⟩;rw[Ls h]
 | a::aa,x::t,u,hl=>by
  have U:t.length=aa.length:=by simpa using hl
  rw[Y0];constructor
  ·intro h;obtain⟨y,E,G⟩:=Ml.1 h;obtain⟨I,V,J⟩:=Md.1 G;subst J;obtain⟨T,Y⟩:=(XH v aa t I U).1 V;refine⟨by simp[T],λi hi=>?_⟩;cases i with
   | zero=>exact E
   | succ i=>exact Y i (ou hi)
  rintro⟨E,G⟩;cases u with
  | nil=>simp at E
  | cons y I =>
   have J:QZ v aa t=some I:=(XH v aa t I U).2 ⟨ou E,λi hi=>G (i+1) (ou hi)⟩;have T:pst v a x=some y:=(G 0 od);rw[T,J];rfl
def nx (v:Int)(A:Nat->Qz)(x:Nat->Int)(i:Nat):Int:=(pst v (A i) (x i)).getD 0
theorem QrF {l:List α}{f:α->Int}(h:i<l.length):O7 (l.map f) i=f (l[i]'h):=by
 unfold O7;simp[oN,h]
theorem zU {v:Int}{t:LI}(hl:t.length=aa.length)(E:∀a∈aa,v∉a.al):QZ v aa t=some t:=by
 refine(XH v _ _ _ hl).2 ⟨hl,λk G=>?_⟩;unfold pst;rw[OU (E _ (Lm G))]
theorem Yk {l:List (LI)}{s:Nat}(h:s<l.length):l.getD s []=l[s]'h/\l.getD s []∈l:=by
 have e:l.getD s []=l[s]'h:=by simp[oN,h]
 exact⟨e,by rw[e];exact Lm h⟩
theorem Qf4 {l:List α}(I:l.Nodup)(hi:i<l.length)(G:j<l.length)(e:l[i]'hi=l[j]'G):i=j:=by
 have h:=Mg.1 I;rcases Nat.lt_trichotomy i j with E|E|E
 ·exact OX e (h i j hi G E)
 ·exact E
 exact OX e.symm (h j i G hi E)
def sord (B:Qz)(lf:Lf):LI:=(QeR (rstr B lf)).ord
def SvR (B:Qz)(Q:List (LI))(lf:Lf)(q:LI)(y:Int):Prop :=
 ∃j s:Nat,y=(j:Int)/\j<(sord B lf).length/\ZZ (sord B lf) j=(s:Int)/\s<Q.length/\lft lf s=true/\Q.getD s []=q
theorem QaH {B:Qz}(E:QS B)(G:0<B.st)(lf:Lf):CnP (rstr B lf) (sord B lf):=(QkV (Kg E lf) G).1
theorem SvR.J {aa:List Qz}{B:Qz}{Q:List (LI)}{lf:Lf}(ha:∀a∈aa,QS a)(hS:SyP aa B Q)(ho:QS B)(hp:0<B.st){q:LI}{y y' v:Int}(h:SvR B Q lf q y)(G:pst v (YG (rstr B lf)) y=some y'):
  ∃E,QZ v aa q=some E/\SvR B Q lf E y':=by
 obtain⟨j,s,e0,V,Y,I,h4,J⟩:=h;have hC:=QaH ho hp lf;have he:(YG (rstr B lf)).al=evs aa:=hC.al.D hS.al;unfold pst at G;by_cases T:v∈(YG (rstr B lf)).al
 ·have hf:v∈evs aa:=by rw[<-he];exact T
  rw[OV T,e0,hC.J V v,Y]at G;obtain⟨u,hu,e1⟩:=Md.1 G;have hg:=YS hu;obtain⟨hk,hn⟩:=LJ.1 (show((s:Int),v,u)∈B.ed.filter λe=>lft lf e.2.2 from hg);have hh:=hS.J I v;rw[US ho.edi hk,OV hf,J]at hh;obtain⟨E,U,e2⟩:=Md.1 hh.symm;have hto:=hS.to I hf (u:=E) (by rw[J];exact U);have hr:u∈sord B lf:=hC.cl j V ((s:Int),v,u) (by
   rw[Y];unfold QM;exact LJ.2 ⟨hg,OY O⟩)
  have hj:=L7 hr;refine⟨E,U,(sord B lf).idxOf u,Q.idxOf E,e1.symm,hj,?_,hto.1,by rw[e2];exact hn,hto.2⟩;rw[e2];show O7 (sord B lf) ((sord B lf).idxOf u)=u;rw[<-Zo hj,List.getElem_idxOf]
 rw[OU T]at G;have U:q∈Q:=by rw[<-J];exact(Yk I).2
 exact⟨q,zU (hS.v q U).1 (λa hs hw=>T (by rw[he];exact(Jn ha v).2 ⟨a,hs,hw⟩)),j,s,by rw[<-e0];exact(Option.some.inj G).symm,V,Y,I,h4,J⟩
theorem SvR.init {B:Qz}{Q:List (LI)}(hS:SyP aa B Q)(G:QS B)(I:0<B.st)(J:lft lf 0=true):SvR B Q lf (oG aa.length 0) 0:=by
 have hC:=QaH G I lf;have E:0<Q.length:=by have:=hS.st;omega
 exact⟨0,0,O,hC.hd.2,hC.hd.1,E,J,hS.hd E⟩
theorem Qb4 {B:Qz}{fb:LI}(h:(Uj B fb ul).st≠0):B.st≠0/\lft (JM B fb ul) 0=true/\Uj B fb ul=YG (rstr B (JM B fb ul)):=by
 unfold Uj QaI at *;split at h
 ·exact OX O h
 rename_i hc;rw[OU hc];refine⟨λe=>hc (.inl e),?_,O⟩;cases hl:lft (JM B fb ul) 0 with
 | true=>rfl
 | false=>exact OX (.inr hl) hc
theorem Ql2 {P:LI->Prop}{t:LI}{v:Int}{z I:Sy}(h:syE aa i t z v=some I)(E:∀t∈z.tup,P t)(J:∀u,QZ v aa t=some u->P u):∀t∈I.tup,P t:=by
 unfold syE at h;cases G:QZ v aa t with
 | none=>rw[G]at h;rw[<-Option.some.inj h];exact E
 | some u =>
  rw[G]at h;simp only[]at h;split at h
  ·rw[<-Option.some.inj h];exact E
  split at h
  ·cases h
  rw[<-Option.some.inj h];intro t ht;rcases Le.1 ht with ht|ht
  ·exact E t ht
  rw[Lb.1 ht];exact J u G
theorem Qb8 {P:LI->Prop}{aa:List Qz}{i:Nat}{t:LI}:∀(vs:LI) (z E:Sy),VS aa i t vs z=some E->(∀t∈z.tup,P t)->(∀v∈vs,∀u,QZ v aa t=some u->P u)->∀t∈E.tup,P t
 | [],z,E,h,G,_=>by rw[<-Option.some.inj (show some z=some E from h)];exact G
 | v::vs,z,E,h,G,I=>by
  rw[VS]at h;obtain⟨J,T,U⟩:=Ml.1 h;exact Qb8 vs J E U (Ql2 T G (I v Lh)) (λw V=>I w (Lj _ V))
theorem Qfv {P:LI->Prop}{aa:List Qz}(I:∀t,P t->∀v∈evs aa,∀u,QZ v aa t=some u->P u):∀(f i:Nat) (z E:Sy),syL aa f i z=some E->(∀t∈z.tup,P t)->∀t∈E.tup,P t
 | 0,_,z,E,h,G=>by rw[<-Option.some.inj (show some z=some E from h)];exact G
 | f+1,i,z,E,h,G=>by
  rw[syL]at h;split at h
  ·rename_i hi;obtain⟨J,T,U⟩:=Ml.1 h;have V:(ZY aa i (Jq z i) z).tup=z.tup:=by unfold ZY;split <;> rfl
   have Y:P (Jq z i):=G _ (Yk hi).2;exact Qfv I f (i+1) J E U (Qb8 _ _ _ T (by rw[V];exact G) (I _ Y))
  rw[<-Option.some.inj h];exact G
theorem Qir {P:LI->Prop}{z:Qz×List (LI)}(h:xp aa=some z)(E:P (oG aa.length 0))(G:∀t,P t->∀v∈evs aa,∀u,QZ v aa t=some u->P u):∀t∈z.2,P t:=by
 unfold xp at h;split at h
 ·rw[<-Option.some.inj h];intro t ht;cases ht
 obtain⟨s,I,J⟩:=Md.1 h;rw[<-J];exact Qfv G _ _ _ _ I (λt ht=>by rw[Lb.1 ht];exact E)
abbrev i2 (p:Int×Int):LV:=[sS p.1,sS p.2]
abbrev i5 (a:ByteArray)(b c e:Bool)(i:Int):LV:=[.string a,.bool b,.bool c,.bool e,sS i]
open Go.ChangeShapes Go.WideShapes Go.RowKit
section
variable {H:Type}{enc:TypeId×O3->H}
theorem Qap (hl:laidOutB P=true){W W':O2}(hS:sW W W'){sp:Nat->Bool}:∀{ts:List TypeId}{vs:LV}{ds:List (DataW H)}{ps:List MemPlace},
  (ts.all λt=>P.readableRec t && decide (t<P.types.size))=true->DataW.TrodAll enc P W 0 (λ_=>true) true ts vs ds ps->(∀x∈ps,x.block<↑W)->(∀x∈ps,sp x.block=true)->DataW.TrodAll enc P W' 0 sp true ts vs ds ps
 | [],vs,ds,ps,_,h,_,_=>by
  obtain⟨rfl,rfl,rfl⟩:=trodAll_nil h;exact trodAll_mk0
 | t::ts,vs,ds,ps,E,h,G,hsp=>by
  obtain⟨v,T,d,ds1,a,b,rfl,rfl,rfl,I,J⟩:=trodAll_cons h;simp only[Ob,oI,decide_eq_true_eq]at E;have hb:Below ↑W W W':=hS.below;refine trodAll_cons_mk (WideElems.Trod_stays hl E.1.1 E.1.2 I (λx hx=>hb.same (G x (LG _ hx))) (λx hx=>hsp x (LG _ hx))) ?_;exact Qap hl hS (ou E.2) J (λx hx=>G x (MS _ hx)) (λx hx=>hsp x (MS _ hx))
theorem QjQ {f:Func}{s:ChangeSpec}{apart fresh handsOn again:Bool}{W:O2}{args:Array O3}{ds gs:List (DataW H)}{before:List MemPlace}{tb:TypeId}
  (hl:laidOutB P=true) (hh:(f.params.toList.all λt=>P.readableRec t && decide (t<P.types.size))=true) (J:f.resultTypes=#[tb]) (T:P.underlying tb=some .bool) (U:s.vars=[])
  (E:s.fn H (ds++gs)={ results:=[.lit (.bool true)],args:=ds })
  (G:DataW.Whole enc P f.params.toList s.vars apart W args.toList ds gs before) (hS:sW W W'):s.post enc P f apart fresh handsOn again W args (.bool true) W':=by
 have I:=G.lt;have hj:=G;obtain⟨p,q,hA,V,rfl,hz,hn⟩:=G;rw[U]at V;obtain⟨rfl,rfl⟩:=trodVars_none V;rw[LH]at *;have Y:∀sp:Nat->Bool,(∀x∈p,sp x.block=true)->DataW.TrodAll enc P W' 0 sp true f.params.toList args.toList ds p:=λsp hsp=>Qap hl hS hh hA I hsp;have he:∀(b:Nat) (sp:Nat->Bool) (hd:Bool),DataW.TrodAll enc P W' b sp hd f.resultTypes.toList ((Value.bool true).resultList f.resultTypes.size) [.lit (.bool true)] []:=λb sp hd=>by
  rw[J];exact trodAll_mk1 (shut_bool T true)
 have hb:Below ↑W W W':=hS.below;have hf:∀sp:Nat->Bool,DataW.TrodVars enc P W' sp s.vars ([]:List (DataW H)) []:=λsp=>by rw[U];rfl
 have hk:(s.fn H ds).results=[.lit (.bool true)]:=by rw[E]
 have hm:(s.fn H ds).args=ds:=by rw[E]
 have ho:(s.fn H ds).vars=[]:=by rw[E]
 have hok:∀(j:Nat) (t:TypeId) (r:O3),f.resultTypes[j]?=some t->((Value.bool true).resultList f.resultTypes.size)[j]?=some r->Value.okWide P W' .any 0 t r:=ok_one J O (okWide_bool_mk T true);refine⟨ds,[],p,[],p,[],hj,?_,?_,?_,?_,λ_=>⟨hok,[.lit (.bool true)]++ds,[],([]++p)++[],⟨[]++p,[],?_,?_,O,?_,?_⟩,?_⟩⟩
 ·rw[LH,hk];exact he _ _ _
 ·rw[LH,hm];exact Y _ (λx hx=>ou (I x hx))
 ·rw[LH,ho];exact hf _
 ·exact World.keptBut_mono (λ_ f=>f.elim) (hb.frame (λ_=>False))
 ·exact trodAll_append (Y _ (λ_ _=>O)) (he _ _ _)
 ·exact hf _
 ·intro b off hp;have hg:MemPlace.cell b off∈p:=by simpa using hp
  rw[hb.frozen (p:=⟨b,off,none⟩) (I _ hg)];exact hz b off hg
 ·intro ha;have:=hn ha;simpa using this
 intro x hx _;simpa using hx
end
open Go.ChangeShapes Go.WideShapes Go.RowKit Go.Lg
theorem QeY:∀(l:LV),(∀v∈l,∃n:Nat,v=.int .u8 (n:Int)/\n<256)->∃ns:LN,l=bys ns/\ns.length=l.length/\∀n∈ns,n<256
 | [],_=>⟨[],O,O,od⟩
 | v::l,h=>by
  obtain⟨n,rfl,G⟩:=h v Lh;obtain⟨ns,I,J,T⟩:=QeY l (λv U=>h v (Lj _ U));refine⟨n::ns,by rw[I];rfl,by simp[J],λm E=>?_⟩;rcases Lk.1 E with rfl|E
  ·exact G
  exact T m E
theorem QdQ {n:Int}(h:(Lit.int .u8 n).wf=true):∃m:Nat,n=m/\m<256:=by
 simp only[Lit.wf,oI,decide_eq_true_eq]at h;rw[show IntKind.u8.min=0 from rfl,show IntKind.u8.max=255 from rfl]at h;exact⟨n.toNat,oa,oa⟩
theorem QoN {b:Nat}{s:TypeId×Nat}(h:w.shape? b=some s):b<w.heap.size:=by
 unfold World.shape? at h;cases hb:w.heap[b]? with
 | none=>simp[hb]at h
 | some o=>exact(LO.1 hb).1
theorem Qne {a:Addr}{e:TypeId}(h:w.has P .any base a e n):a.block<w.heap.size:=by
 obtain⟨_,_,row,cells,E,_⟩:=h;exact QoN E
theorem QfE {t e:TypeId}{a:Addr}{c:Nat}(ht:P.underlying t=some (.slice e))(h:Cell.okWide P w .any base t (.slice (some a) n c)):a.block<w.heap.size:=by
 simp only[Cell.okWide,Cell.ok,ht]at h;exact Qne h.2.2
theorem QjJ {α:Type}{p:Nat->α->Prop}:∀(n:Nat),(∀i,i<n->∃e,p i e)->∃l:List α,l.length=n/\∀i (h:i<l.length),p i (l[i]'h)
 | 0,_=>⟨[],O,λi h=>by simp at h⟩
 | n+1,h=>by
  obtain⟨l,E,I⟩:=QjJ n (λi hi=>h i oa);obtain⟨e,J⟩:=h n oa;refine⟨l++[e],by simp[E],λi hi=>?_⟩;by_cases G:i<l.length
  ·rw[Ms G];exact I i G
  have:i=n:=by simp at hi;omega
  subst this;rw[Ni oa];simpa[E]using J
theorem yl {α:Type}{f:α->Option O3}:∀{L:List α}{l:LV},L.mapM f=some l->l.length=L.length/\∀(i:Nat) (a:α),L[i]?=some a->f a=l[i]?
 | [],l,h=>by
  simp at h;subst h;exact⟨O,λi a h=>by simp at h⟩
 | x::L,l,h=>by
  simp only[List.mapM_cons,Option.bind_eq_bind,Option.pure_def,Option.bind_eq_some_iff]at h;obtain⟨v,E,U,G,I⟩:=h;cases I
  obtain⟨J,T⟩:=yl G;refine⟨by simp[J],λi a hi=>?_⟩;cases i with
  | zero=>simp at hi;subst hi;simpa using E
  | succ i=>simpa using T i a (ou hi)
def kT (P:O5)(k:IntKind):Nat->TypeId->Bool
 | 0,_=>false
 | m+1,t=>match P.underlying t with
  | some (.int k')=>k' == k
  | some (.array n e)=>kT P k m e && decide (0<P.cellsOf e) && decide (P.cellsOf t=n*P.cellsOf e)
  | some (.struct fs)=>(oJ (P.cellsOf t)).all λj=>fs.toList.any λf=>kT P k m f.type && decide (f.offset<=j/\j<f.offset+P.cellsOf f.type)
  | _=>false
theorem QbA {o:Nat}{c:O3}(h:cs[j]?=some c)(E:o<=j)(G:j<o+n):c∈(cs.drop o).take n:=by
 refine Mt (i:=j - o) ?_;rw[LZ,OV oa,MN,show o+(j - o)=j by omega];exact h
section
variable {H:Type}{enc:TypeId×O3->H}{W:O2}{b0:Nat}{sp:Nat->Bool}{held:Bool}
theorem UF {k:IntKind}:∀(m:Nat) {t:TypeId}{cs:LV}{fuel:Nat}{x:DataW H×List MemPlace},kT P k m t=true->DataW.trod enc P W b0 sp held fuel t cs=some x->∀c∈cs,∃n,c=.int k n/\(Lit.int k n).wf=true
 | 0,_,_,_,_,h,_,_,_=>by cases h
 | m+1,t,cs,fuel,x,h,J,c,hc=>by
  unfold kT at h;obtain⟨j,V,Y⟩:=LR hc;have U:cs[j]?=some c:=by rw[LD V,Y]
  split at h
  ·rename_i k' G;have hk:k'=k:=by simpa using h
   subst hk;obtain⟨n,T,_,E⟩:=DataW.trod_int G J;rw[T]at hc;exact⟨n,Lb.1 hc,E⟩
  ·rename_i n e G;simp only[oI,decide_eq_true_eq]at h;obtain⟨⟨T,E⟩,h3⟩:=h;obtain⟨xs,m',_,_,hl,ha,hx⟩:=DataW.trod_array G J;have he:=Nat.div_add_mod j (P.cellsOf e);have ho:=OQ j E;have hi:j / P.cellsOf e<n:=by
    refine(Nat.div_lt_iff_lt_mul E).2 ?_;omega
   have I:=hx (j / P.cellsOf e) hi;rw[LD (show j / P.cellsOf e<xs.length by omega)]at I;rw[Nat.mul_comm]at he;exact UF m T I c (QbA U oa oa)
  ·rename_i fs G;obtain⟨xs,m',_,_,hl,ha,hx⟩:=DataW.trod_struct G J;obtain⟨f,hg,E⟩:=Nk.1 (Mh.1 h j (MI.2 oa));simp only[oI,decide_eq_true_eq]at E;obtain⟨i,hi,hh⟩:=LR hg;have hm:i<fs.size:=by simpa using hi
   have hn:fs[i]?=some f:=by rw[MM hm,<-hh];simp
   have I:=hx i f hn;rw[LD (show i<xs.length by omega)]at I;exact UF m E.1 I c (QbA U E.2.1 E.2.2)
  cases h
theorem Vy {k:IntKind}{fs:Array Field}{xs:List (DataW H×List MemPlace)}{I:Nat}(V:xs.length=fs.size)
  (hx:∀(i:Nat) (f:Field),fs[i]?=some f->DataW.trod enc P W b0 sp held I f.type ((cs.drop f.offset).take (P.cellsOf f.type))=xs[i]?)  {f:Field} {c:O3} (E:fs[i]?=some f) (J:kT P k m f.type=true) (T:f.offset<=j) (U:j<f.offset+P.cellsOf f.type) (hc:cs[j]?=some c):
  ∃n,c=.int k n/\(Lit.int k n).wf=true:=by
 have G:=hx i f E;have hi:i<fs.size:=(LO.1 E).1;rw[LD (show i<xs.length by omega)]at G;exact UF m J G c (QbA hc T U)
theorem QdW {c:O3}(h:∃n,c=.int .u8 n/\(Lit.int .u8 n).wf=true):∃n:Nat,c=.int .u8 (n:Int)/\n<256:=by
 obtain⟨n,rfl,E⟩:=h;obtain⟨m,rfl,G⟩:=QdQ E;exact⟨m,O,G⟩
end
theorem Qq8 {W:O2}{ts:List TypeId}{cs:Array O3}(h:∀(i:Nat) (v:O3),cs[i]?=some v->∃u,ts[i % ts.length]?=some u/\Cell.okWide P W .any base u v)(i:Nat)(t:TypeId)(v:O3)(G:cs[i]?=some v)(ht:ts[i % ts.length]?=some t):Cell.okWide P W .any base t v:=by
 obtain⟨u,E,k⟩:=h i v G;rw[ht]at E;cases E
 exact k
theorem QpJ {H:Type}{enc:TypeId×O3->H}{W:O2}{b0:Nat}{sp:Nat->Bool}{held:Bool}{fs:Array Field}{xs:List (DataW H×List MemPlace)}
  (h:∀(i:Nat) (f:Field),fs[i]?=some f->DataW.trod enc P W b0 sp held m f.type ((cs.drop f.offset).take (P.cellsOf f.type))=xs[i]?) (i:Nat) {f:Field} {o:Nat} {c:O3} (E:fs[i]?=some f) (ht:f.type=t) (G:f.offset=o) (hc:P.cellsOf t=1) (I:(cs.drop o).take 1=[c]) (hi:i<xs.length):
  DataW.trod enc P W b0 sp held m t [c]=some (xs[i]'hi):=by
 have e:=h i f E;rw[ht,G,hc,I]at e;rw[e];simp[hi]
theorem QqQ {W:O2}{l:List (String×DataW Unit)}{a b:String×DataW Unit}(hl:l=[a,b,("internal/strconv.uint64pow10",Lib.tabData .u64 Lib.pow10Tab)]) (h:laidMetH sV l W) (E:(l.all λx=>x.2.handleName?.isNone)=true):Tb W:=by
 rw[Go.MakeChecks.laidMetH_plain _ _ _ E,hl]at h;exact Lib.tabIs_of_head (n:=20) (g:=0) oc (t:=410) oc oc (e:=319) oc oc oc h.tail.tail
structure PwV where
 ns:LN
 ad:Option Addr
 n:Nat
 cp:Nat
 f0:Int
 f1:Int
 f2:Int
 bd:Int
def PwV.pl (l:PwV)(rs:List X4V):PlV:=⟨l.ns,.slice l.ad l.n l.cp,rs,l.f0,l.f1,l.f2,l.bd⟩
abbrev Z6 (l:PwV):LV:=bys l.ns++[.slice l.ad l.n l.cp,.int .i8 l.f0,.int .i8 l.f1,.int .i8 l.f2,.int .i8 l.bd]
structure PwA (w:O2)(l:PwV):Prop where
 n:l.ns.length=147
 b:∀n∈l.ns,n<256
 f0:i8R l.f0
 f1:i8R l.f1
 f2:i8R l.f2
 bd:i8R l.bd
 r:l.n<=4->∃rs:List X4V,rs.length=l.n/\Zu [] ↑w (.slice l.ad l.n l.cp) l.n 4 (rs.flatMap Xm)
theorem PwA.pl {w w':O2}{l:PwV}(h:PwA w l)(G:sW w w')(I:l.n<=4):∃rs,PlA [] ↑w' (l.pl rs)/\rs.length=l.n:=by
 obtain⟨rs,E,J⟩:=h.r I;exact⟨rs,⟨h.n,h.b,by show Zu _ _ _ rs.length 4 _;rw[E];exact J.I G,h.f0,h.f1,h.f2,h.bd⟩,E⟩
theorem QqY {l:PwV}(h:l.ns.length=147):(Z6 l)[147]?=some (.slice l.ad l.n l.cp):=by
 show(Z6 l)[147+0]?=_;rw[Z6,Mu (by rw[Xz];omega),Xz,h,M5];rfl
theorem Qge {c:O3}(h:∃n,c=.int .i8 n/\(Lit.int .i8 n).wf=true):∃n:Int,c=.int .i8 n/\i8R n:=by
 obtain⟨n,rfl,h⟩:=h;simp only[Lit.wf,oI,decide_eq_true_eq]at h;rw[show IntKind.i8.min=-128 from rfl,show IntKind.i8.max=127 from rfl]at h;exact⟨n,O,oa⟩
def Qop (P:O5)(fs:Array Field)(n:Nat):Bool:=(oJ n).all λj=>fs.toList.any λf=>kT P .u8 5 f.type && decide (f.offset<=j/\j<f.offset+P.cellsOf f.type)
section
variable {H:Type}{enc:TypeId×O3->H}{W:O2}{b0:Nat}{sp:Nat->Bool}{held:Bool}
theorem Qlc {fs:Array Field}{xs:List (DataW H×List MemPlace)}(h:Qop P fs n=true)(G:xs.length=fs.size)
  (hx:∀(i:Nat) (f:Field),fs[i]?=some f->DataW.trod enc P W b0 sp held m f.type ((cs.drop f.offset).take (P.cellsOf f.type))=xs[i]?)  {c:O3} (I:j<n) (hc:cs[j]?=some c):∃k:Nat,c=.int .u8 (k:Int)/\k<256:=by
 obtain⟨f,J,E⟩:=Nk.1 (Mh.1 h j (MI.2 I));simp only[oI,decide_eq_true_eq]at E;obtain⟨i,hi,T⟩:=LR J;have U:i<fs.size:=by simpa using hi
 have V:fs[i]?=some f:=by rw[MM U,<-T];simp
 exact QdW (Vy G hx V E.1 E.2.1 E.2.2 hc)
theorem QrI {t e:TypeId}{c:O3}{fuel:Nat}{x:DataW H×List MemPlace}(ht:P.underlying t=some (.slice e))(he:kT P .u8 5 e=true)(hc:P.cellsOf e=4)
  (hok:Cell.okWide P W .any base t c) (hf:DataW.trod enc P W b0 sp held fuel t [c]=some x):∃a n cp,c=.slice a n cp/\(n<=12->∃u:List X4V,u.length=n/\Zu [] ↑W (.slice a n cp) n 4 (u.flatMap Xm)):=by
 rcases DataW.trod_slice ht hf with⟨E,_⟩|⟨a,len,cap,elems,rest,m,_,E,_,_,hl,_,hm,hg,_,_⟩
 ·simp at E;subst E;exact⟨none,0,0,O,λ_=>⟨[],O,Zu.nil _ _ _⟩⟩
 simp at E;subst E;refine⟨some a,len,cap,O,λhn=>?_⟩;have each:∀i,i<len->∃d:X4V,∀r v,(Xm d)[r]?=some v->W.cell? (a.add (i*4+r))=some v:=by
  intro i hi;have J:=hg i hi;rw[hc,LD (show i<elems.length by omega)]at J;obtain⟨cs,E,hh⟩:=Ml.1 J;obtain⟨ns,h1,h2,I⟩:=QeY cs (λv G=>QdW ((UF 5 he hh) v G));unfold World.cells? at E;split at E
  ·have ho:cs.length=4:=by
    simpa using(yl E).1
   refine⟨⟨ns,oa,I⟩,λr v G=>?_⟩;have T:cs[r]?=some v:=by rw[h1];exact G
   have hk:r<4:=by have:=(Mm.1 T).1;omega
   have U:=(yl E).2 r r (by simp[hk]);rw[Lg.Addr.add_add,T]at U;exact U
  cases E
 obtain⟨u,V,hu⟩:=QjJ len each;refine⟨u,V,?_⟩;have Y:(u.flatMap Xm).length=u.length*4:=Go.Lg.Vg Xm 4 zP u;refine⟨by rw[Y,V],oa,.inr ⟨a,cap,rfl,oa,λ_ _=>od,λ_ _=>QfE ht hok,λj v G=>?_⟩⟩;have hj:j<u.length*4:=by
  rw[<-Y];exact(Mm.1 G).1
 have hi:j / 4<u.length:=oa
 have ha:j=j / 4*4+j % 4:=oa
 have I:(Xm (u[j / 4]'hi))[j % 4]?=some v:=by
  rw[<-(Jl Xm 4 zP u (j / 4) hi),LZ,OV (OQ _ oa),MN,<-ha];exact G
 rw[<-Ju];have:=hu (j / 4) hi (j % 4) v I;rw[<-ha]at this;exact this
theorem QhO {v:O3}{d:DataW H}{ps:List MemPlace}{tp te:Nat}{fs:Array Field}{f7 J T:Field}(Y:P.underlying t=some (.struct fs))(ha:(P.cellTypes P.depth t).map (λts=>(ts.length,ts[147]?))=some (152,some tp))(hc:P.cellsOf t=152)
  (g7:fs[7]?=some f7) (U:fs[8]?=some J) (g9:fs[9]?=some T) (hn:f7.type=tp) (o7:f7.offset=147) (o8:J.offset=148) (o9:T.offset=151) (c7:P.cellsOf tp=1) (c8:P.cellsOf J.type=3) (c9:P.cellsOf T.type=1)
  (kb:Qop P fs 147=true) (k8:kT P .i8 5 J.type=true) (k9:kT P .i8 5 T.type=true) (ho:P.underlying tp=some (.slice te)) (hp:kT P .u8 5 te=true) (hq:P.cellsOf te=4)
  (he:Value.okWide P W .any base t v) (h:DataW.Trod enc P W b0 sp held t v d ps):∃l:PwV,v=sT (Z6 l)/\PwA W l:=by
 simp only[Value.okWide,Y]at he;obtain⟨cs,rfl,hg,ts,hr,_,hs⟩:=he;rw[hr]at ha;have hh:=Option.some.inj ha;have hv:ts.length=152:=OW Prod.fst hh;have hw:ts[147]?=some tp:=OW Prod.snd hh;rw[hc]at hg;obtain⟨l⟩:=cs;have hl:l.length=152:=hg;obtain⟨fuel,hf⟩:=h;obtain⟨xs,m,_,_,_,G,hy⟩:=DataW.trod_struct Y hf;have E:∀(i:Nat) (f:Field),fs[i]?=some f->DataW.trod enc P W b0 sp held m f.type ((l.drop f.offset).take (P.cellsOf f.type))=xs[i]?:=hy;have h2:7<fs.size:=(LO.1 g7).1;have g0:∀c∈l.take 147,∃n:Nat,c=.int .u8 (n:Int)/\n<256:=λc hm=>by
  obtain⟨j,hj,hk⟩:=LR hm;have hz:j<147:=by simp at hj;omega
  have h0:l[j]?=some c:=by
   rw[M9]at hk;rw[LD oa,hk]
  exact Qlc kb G E hz h0
 obtain⟨ns,e1,e2,e3⟩:=QeY _ g0;have h1:ns.length=147:=by rw[e2];simp;omega
 have I:∀j,j<152->∃c,l[j]?=some c:=λj hj=>⟨l[j]'oa,LD oa⟩;obtain⟨V,q1⟩:=I 147 oa;obtain⟨x2,q2⟩:=I 148 oa;obtain⟨x3,q3⟩:=I 149 oa;obtain⟨x4,q4⟩:=I 150 oa;obtain⟨x5,q5⟩:=I 151 oa;have hld:l.drop 147=[V,x2,x3,x4,x5]:=by
  apply Nr;intro i;rw[MN]
  match i with
  | 0=>exact q1
  | 1=>exact q2
  | 2=>exact q3
  | 3=>exact q4
  | 4=>exact q5
  | i+5=>rw[Mv oa];rfl
 obtain⟨y2,rfl,z2⟩:=Qge (Vy G E U k8 oa oa q2);obtain⟨y3,rfl,z3⟩:=Qge (Vy G E U k8 oa oa q3);obtain⟨y4,rfl,z4⟩:=Qge (Vy G E U k8 oa oa q4);obtain⟨y5,rfl,z5⟩:=Qge (Vy G E g9 k9 oa oa q5);obtain⟨a,n,cp,rfl,hP⟩:=QrI ho hp hq (Qq8 hs 147 tp V (ou q1) (by rw[hv];exact hw)) (QpJ (c:=V) E 7 g7 hn o7 c7 (by rw[hld];rfl) oa);refine⟨⟨ns,a,n,cp,y2,y3,y4,y5⟩,?_,h1,e3,z2,z3,z4,z5,λh3=>hP (by have h4:n<=4:=h3;omega)⟩;show Value.agg l.toArray=sT (bys ns++_);rw[<-e1,<-hld,MH]
end
theorem QrJ {H:Type}{enc:TypeId×O3->H}{W:O2}{b0:Nat}{sp:Nat->Bool}{held:Bool}{v:O3}{d:DataW H}{ps:List MemPlace}(E:Value.okWide sV W .any base 36 v)(h:DataW.Trod enc sV W b0 sp held 36 v d ps):
  ∃l:PwV,v=sT (Z6 l)/\PwA W l :=
 QhO underlying36 (tp:=32) oc oc O O O O O O O oc oc oc oc oc oc underlying32 oc oc E h
theorem Qlq {l:PwV}(h:PwA w l):QU sV 11 [sT (Z6 l)] w λr w'=>r=.bool (decide (l.n<=4))/\sW w w':=by
 refine Zm func11 ?_;refine Qc<|Zf (Z6 l) λI J E T G=>Qb<|Qc<|Qs O G O (QqY h.n)<|x (Ut O)<|x (X3 O O)<|Qb<|Qj ⟨[_],La,?_,E⟩;exact OW Value.bool (decide_eq_decide.2 oa)
theorem Qol {l:List α}{k:Nat}(h:k<l.length)(d:α):l.getD k d=l[k]'h:=by simp[oN,h]
theorem Qew (h:Ys l):l.Nodup:=List.Pairwise.imp (λh=>oa) h
theorem UU {c:ZS}(h:D25 c):(∀a∈O8 c.co++O8 c.rq,GdA a):=λa E=>by
 rcases Le.1 E with E|E
 ·obtain⟨x,hx,rfl⟩:=Lx.1 E;exact(h.co x hx).2.1
 obtain⟨x,hx,rfl⟩:=Lx.1 E;exact(h.rq x hx).2.1
theorem YD (l:List Jp):(O8 l).length=l.length:=by unfold O8;rw[Ln]
theorem Ve (h:∀a∈aa,GdA a)(hl:aa.length<=5):KT aa=0/\∃z,xp aa=some z:=by
 refine⟨?_,Qb3 (k:=3) (λa E=>(h a E).ok) (λa E=>(h a E).s) ?_⟩
 ·unfold KT;rw[OU oa];exact(UW _).2 λa E=>(h a E).ok
 exact Lz (Nn oa hl) og
theorem Qgv {c:ZS}(h:D25 c):∃pl ps sa ts,xp (O8 c.co)=some (pl,ps)/\xp (O8 c.co++O8 c.rq)=some (sa,ts)/\YQ c=0:=by
 have I:=h.c3;have J:=h.r2;have E:=UU h;obtain⟨k1,⟨pl,ps⟩,e1⟩:=Ve (aa:=O8 c.co) (λa G=>E a (LG _ G)) (by rw[YD];omega);obtain⟨k2,⟨sa,ts⟩,e2⟩:=Ve (aa:=O8 c.co++O8 c.rq) E (by rw[Lc,YD,YD];omega);refine⟨pl,ps,sa,ts,e1,e2,?_⟩;unfold YQ;rw[OU (not_not_intro h.ck),OU (not_not_intro k1),e1];simp only[];rw[OU (not_not_intro k2),e2]
def gNm (c:ZS):Nat:=c.co.length+c.rq.length
abbrev mB (c:ZS)(m:Mdl):Qz:=(spc (mcC c m)).a
abbrev mL (c:ZS)(m:Mdl):Lf:=JM (mB c m) (fbs (spc (mcC c m))) (unc c.ev)
theorem Qd0 {v:Int}{bb:List Qz}{t:LI}(hl:t.length=(aa++bb).length)(h:QZ v (aa++bb) t=some u):QZ v aa (t.take aa.length)=some (u.take aa.length):=by
 obtain⟨J,T⟩:=(XH v _ _ u hl).1 h;rw[Lc]at J hl;have G:∀(l:LI) k,k<aa.length->O7 (l.take aa.length) k=O7 l k:=λl k E=>by
  unfold O7;rw[MA,List.getElem?_take_of_lt E,<-MA]
 refine(XH v _ _ _ (by rw[LC];omega)).2 ⟨by rw[LC];omega,λk E=>?_⟩;have I:=T k (by rw[Lc];omega);rw[Ms E]at I;rw[G t k E,G u k E];exact I
theorem Qbx (E:QS a)(x v:Int):v∈enb a x↔(xo a.ed x v).isSome=true:=by rw[Qgr E,V0 E]
theorem QiM {c:ZS}{pl:Qz}{k:Int}{t:LI}{r:Rsn}(h:rsn c pl k i t=some r):r.st=(i:Int)/\(r.kd≠3->(vio c (t.take c.co.length)).isSome=true):=by
 unfold rsn at h;split at h
 ·rename_i e;cases h;exact⟨O,λ_=>by rw[e];rfl⟩
 split at h
 ·cases h;exact⟨O,λe=>OX O e⟩
 cases h
theorem QfL {c:ZS}{rs:LI}{v:Int}(E:0<=rfr v 0 c.rq rs)(hc:(c.ev.getD v.toNat ⟨.empty,false,false,false,0⟩).co=false):∀l:LI,v∈l->(rfd c rs l).isSome=true
 | w::l,h=>by
  rw[rfd];split
  ·rfl
  rename_i G;rcases Lk.1 h with e|h
  ·subst e;exact OX ⟨E,hc⟩ G
  exact QfL E hc l h
section
variable {c:ZS}(h:D25 c)
abbrev Xe (c:ZS):Qz:=J7 (O8 c.co)
abbrev X8 (c:ZS):List (LI):=syQ (O8 c.co)
abbrev Jz (c:ZS):List (LI):=syQ (O8 c.co++O8 c.rq)
abbrev suL (c:ZS):Lf:=JM (spc c).a (fbs (spc c)) (unc c.ev)
end
theorem SvR.go {B:Qz}{Q:List (LI)}(ha:∀a∈aa,QS a)(hS:SyP aa B Q)(J:QS B)(T:0<B.st){G:LI}{y v:Int}(h:SvR B Q lf q y)(U:QZ v aa q=some G)(hl:lft lf (Q.idxOf G)=true):
  ∃E,pst v (YG (rstr B lf)) y=some E/\SvR B Q lf G E:=by
 have h0:=h;obtain⟨j,s,e0,h1,h2,h3,h4,h5⟩:=h;have hC:=QaH J T lf;have hg:(YG (rstr B lf)).al=evs aa:=hC.al.D hS.al;have hh:∃E,pst v (YG (rstr B lf)) y=some E:=by
  unfold pst;by_cases I:v∈(YG (rstr B lf)).al
  ·rw[OV I];rw[hg]at I;have V:=hS.J h3 v;rw[OV I,h5,U]at V;have he:=YS (show xo B.ed (s:Int) v=some (Q.idxOf G:Int) from V);have hr:((s:Int),v,(Q.idxOf G:Int))∈(rstr B lf).ed:=LJ.2 ⟨he,hl⟩;rw[e0,hC.J h1 v,h2,US (Kg J _).edi hr];exact⟨_,O⟩
  rw[OU I];exact⟨_,O⟩
 obtain⟨E,Y⟩:=hh;obtain⟨q2,hf,hj⟩:=SvR.J ha hS J T h0 Y;rw[U]at hf;rw[Option.some.inj hf];exact⟨E,Y,hj⟩
theorem QfK {c:ZS}{rs:LI}:∀{l:LI},(rfd c rs l).isSome=true->∃v∈l,0<=rfr v 0 c.rq rs/\(c.ev.getD v.toNat ⟨.empty,false,false,false,0⟩).co=false
 | [],h=>by cases h
 | w::l,h=>by
  rw[rfd]at h;split at h
  ·rename_i hc;exact⟨w,Lh,hc⟩
  obtain⟨v,E,G⟩:=QfK (l:=l) h;exact⟨v,Lj _ E,G⟩
section
variable {c:ZS}
end
section
variable {c:ZS}
end
section
variable {c:ZS}
theorem Uv {Q:List (LI)}{t:LI}(ht:t∈Q):Q.idxOf t<Q.length/\Q.getD (Q.idxOf t) []=t:=by
 have E:=L7 ht;exact⟨E,by rw[(Yk E).1,List.getElem_idxOf]⟩
end
structure X6 (c:ZS):Prop where
 x:c.ex=[]
 k:c.cs=[]
 ok:∀a∈O8 c.co++O8 c.rq,QS a/\0<a.st
 eco:∀x∈c.rq,∀e∈x.a.al,∃y∈c.co,e∈y.a.al
 ev:∀x∈c.co,∀e∈x.a.al,e<(c.ev.length:Int)
 f1:∃z,xp (O8 c.co)=some z
 f2:∃z,xp (O8 c.co++O8 c.rq)=some z
theorem Qhb {x v u:Int}(E:v∈a.al)(h:pst v a x=some u):xo a.ed x v=some u:=by
 unfold pst at h
 rwa [OV E]at h
theorem jL {v:Int}{t:LI}(hl:t.length=aa.length)(h:QZ v aa t=some u):u.length=aa.length:=((XH v _ _ u hl).1 h).1
theorem jM (v:Int):∀(aa bb:List Qz) (s r:LI),s.length=aa.length->QZ v (aa++bb) (s++r)=(QZ v aa s).bind λE=>(QZ v bb r).map (E++·)
 | [],bb,[],r,_=>by
  show QZ v bb r=(QZ v bb r).map ([]++·);simp
 | a::aa,bb,x::s,r,hl=>by
  rw[Mq,Mq,Y0,Y0,jM v aa bb s r (ou hl)];cases pst v a x with
  | none=>rfl
  | some y =>
   show((QZ v aa s).bind λE=>(QZ v bb r).map (E++·)).map (y::·)=((QZ v aa s).map (y::·)).bind λE=>(QZ v bb r).map (E++·);cases QZ v aa s with
   | none=>rfl
   | some E =>
    show((QZ v bb r).map (E++·)).map (y::·)=(QZ v bb r).map ((y::E)++·);rw[Option.map_map];rfl
theorem z7 {v:Int}:∀{l:List Jp}{rs:LI}{i:Nat},rs.length=l.length->(0<=rfr v i l rs↔(QZ v (O8 l) rs).isSome=false)
 | [],[],_,_=>⟨λh=>OX (show(0:Int)<=-1 from h) og,λh=>by cases h⟩
 | y::l,s::ss,i,hl=>by
  rw[Qcn,show O8 (y::l)=y.a::O8 l from rfl,Y0];have ih:=z7 (v:=v) (l:=l) (rs:=ss) (i:=i+1) (ou hl);unfold pst;by_cases E:v∈y.a.al
  ·rw[OV E];cases G:xo y.a.ed s v with
   | none=>rw[OV ⟨E,rfl⟩];exact⟨λ_=>O,λ_=>oa⟩
   | some u =>
    rw[OU (λh=>by cases h.2),ih];show _↔((QZ v (O8 l) ss).map (u::·)).isSome=false;rw[Option.isSome_map]
  rw[OU E,OU (λh=>E h.1),ih];show _↔((QZ v (O8 l) ss).map (s::·)).isSome=false;rw[Option.isSome_map]
section
variable {c:ZS}(h:X6 c)
include h
theorem X6.sy:SyP (O8 c.co++O8 c.rq) (spc c).a (Jz c)/\SyP (O8 c.co) (Xe c) (X8 c)/\0<(spc c).a.st/\0<(Xe c).st /\
  spc c=⟨(spc c).a,(Jz c).map (·.take c.co.length),(Jz c).map (·.drop c.co.length),(Jz c).map (λt=>plx (X8 c) (t.take c.co.length)),spF c (Xe c) (X8 c) (Jz c)⟩:=by
 obtain⟨⟨pl,ps⟩,e1⟩:=h.f1;obtain⟨⟨sa,ts⟩,e2⟩:=h.f2;have U:=QaK e1 e2;have G:=h.ok;have a1:Xe c=pl:=by unfold Xe J7;rw[e1]
 have a2:X8 c=ps:=by unfold X8 syQ;rw[e1]
 have a4:Jz c=ts:=by unfold Jz syQ;rw[e2]
 have I:(spc c).a=sa:=by rw[U]
 have J:=Yz (λa E=>(G a E).1) e2;have T:=Yz (λa E=>(G a (LG _ E)).1) e1;have p1:ts.length≠0:=λe=>by
  obtain⟨a,E,e0⟩:=J.2.1 e;have:=(G a E).2;omega
 have p2:ps.length≠0:=λe=>by
  obtain⟨a,E,e0⟩:=T.2.1 e;have:=(G a (LG _ E)).2;omega
 have q1:=J.1.st;have q2:=T.1.st;refine⟨by rw[I,a4];exact J.1,by rw[a1,a2];exact T.1,by rw[I];omega,by rw[a1];omega,?_⟩;rw[a1,a2,a4,I];exact U
theorem X6.pok:QS (Xe c):=h.sy.2.1.okay λa E=>(h.ok a (LG _ E)).1
theorem X6.sok:QS (spc c).a:=h.sy.1.okay λa E=>(h.ok a E).1
theorem X6.evc {v:Int}:v∈evs (O8 c.co++O8 c.rq)↔v∈evs (O8 c.co):=by
 have I:=h.ok;have J:∀a∈O8 c.co,QS a:=λa E=>(I a (LG _ E)).1;rw[Jn (λa E=>(I a E).1),Jn J];constructor
 ·rintro⟨a,E,G⟩;rcases Le.1 E with E|E
  ·exact⟨a,E,G⟩
  obtain⟨x,hx,rfl⟩:=Lx.1 E;obtain⟨y,T,U⟩:=h.eco x hx v G;exact⟨y.a,Lx.2 ⟨y,T,O⟩,U⟩
 rintro⟨a,E,G⟩;exact⟨a,LG _ E,G⟩
theorem X6.inQ:∀t∈Jz c,t.length=gNm c/\t.take c.co.length∈X8 c:=by
 obtain⟨⟨pl,ps⟩,e1⟩:=h.f1;obtain⟨⟨sa,ts⟩,e2⟩:=h.f2;have I:=h.sy;have a4:Jz c=ts:=by unfold Jz syQ;rw[e2]
 have G:(O8 c.co++O8 c.rq).length=gNm c:=by rw[Lc,YD,YD];rfl
 have J:(O8 c.co).length=c.co.length:=YD _;have ha:=I.2.1.st;have T:0<(X8 c).length:=oa
 have key:=Qir (P:=λt=>t.length=gNm c/\t.take c.co.length∈X8 c) e2 (by
  refine⟨by rw[List.length_replicate,G],?_⟩;rw[List.take_replicate,G,show min c.co.length (gNm c)=c.co.length by unfold gNm;omega];have E:=I.2.1.hd T;rw[J]at E;rw[<-E];exact(Yk T).2) (λt ht v hv u U=>by
  have E:t.length=(O8 c.co++O8 c.rq).length:=by rw[ht.1,G]
  refine⟨by rw[((XH v _ _ u E).1 U).1,G],?_⟩;have V:=Qd0 E U;rw[J]at V;have Y:=Uv ht.2;exact I.2.1.cl _ Y.1 v (h.evc.1 hv) _ (by rw[Y.2];exact V))
 intro t ht;rw[a4]at ht;exact key t ht
def xG (c:ZS)(t:LI):Prop:=∀v∈unc c.ev,v∈evs (O8 c.co)->(QZ v (O8 c.co) (t.take c.co.length)).isSome=true->(QZ v (O8 c.rq) (t.drop c.co.length)).isSome=true
omit h in
theorem QeQ {c:ZS}{v:Int}(hb:0<=v/\v<(c.ev.length:Int)):v∈unc c.ev↔(c.ev.getD v.toNat ⟨.empty,false,false,false,0⟩).co=false:=by
 have hl:v.toNat<c.ev.length:=oa
 unfold unc;rw[zD,Qol hl];constructor
 ·rintro⟨k,G,e,E⟩;have:k=v.toNat:=oa
  subst this;simpa using E
 intro E;exact⟨v.toNat,hl,oa,by rw[E];rfl⟩
theorem X6.evb {v:Int}(I:v∈evs (O8 c.co)):0<=v/\v<(c.ev.length:Int):=by
 obtain⟨a,E,G⟩:=(Jn (λa E=>(h.ok a (LG _ E)).1) v).1 I;have J:=((h.ok a (LG _ E)).1.al v G).1;obtain⟨x,hx,rfl⟩:=Lx.1 E;exact⟨J,h.ev x hx v G⟩
theorem X6.plx {t:LI}(ht:t∈X8 c){v:Int}:v∈yL (Xe c) (plx (X8 c) t)↔v∈evs (O8 c.co)/\(QZ v (O8 c.co) t).isSome=true:=by
 have G:=Uv ht;have e:Lg.plx (X8 c) t=((X8 c).idxOf t:Int):=by unfold Lg.plx;rw[OV ht]
 rw[e];show v∈enb (Xe c) _↔_;rw[Qbx h.pok,h.sy.2.1.J G.1 v,G.2];by_cases E:v∈evs (O8 c.co)
 ·rw[OV E,Option.isSome_map];exact⟨λe=>⟨E,e⟩,λe=>e.2⟩
 rw[OU E];exact⟨λe=>(by cases e),λe=>OX e.1 E⟩
theorem X6.rfd {t:LI}(ht:t∈Jz c):(rfd c (t.drop c.co.length) (yL (Xe c) (Lg.plx (X8 c) (t.take c.co.length)))).isSome=false↔xG c t:=by
 obtain⟨V,J⟩:=h.inQ t ht;have hl:(t.drop c.co.length).length=c.rq.length:=by rw[Mo,V];unfold gNm;omega
 constructor
 ·intro I v Y E hs;cases hx:(QZ v (O8 c.rq) (t.drop c.co.length)).isSome with
  | true=>rfl
  | false =>
   have G:=QfL (c:=c) ((z7 hl).2 hx) ((QeQ (h.evb E)).1 Y) _ ((h.plx J).2 ⟨E,hs⟩);rw[I]at G;cases G
 intro hf;cases I:(Lg.rfd c (t.drop c.co.length) (yL (Xe c) (Lg.plx (X8 c) (t.take c.co.length)))).isSome with
 | false=>rfl
 | true =>
  obtain⟨v,E,G,h4⟩:=QfK I;obtain⟨T,h6⟩:=(h.plx J).1 E;have U:=hf v ((QeQ (h.evb T)).2 h4) T h6;rw[(z7 hl).1 G]at U;cases U
theorem X6.vio (t:LI):vio c t=none:=by
 unfold Lg.vio;rw[h.x,h.k];rfl
theorem X6.fb {s:Nat}(I:s<(Jz c).length):(∀x∈fbs (spc c),x.toNat≠s)↔xG c ((Jz c).getD s []):=by
 have U:=(Yk I).2;have V:(rsn c (Xe c) (Lg.plx (X8 c) (((Jz c).getD s []).take c.co.length)) s ((Jz c).getD s [])).isSome=(Lg.rfd c (((Jz c).getD s []).drop c.co.length) (yL (Xe c) (Lg.plx (X8 c) (((Jz c).getD s []).take c.co.length)))).isSome:=by
  unfold rsn;rw[h.vio];simp only[];cases Lg.rfd c (((Jz c).getD s []).drop c.co.length) (yL (Xe c) (Lg.plx (X8 c) (((Jz c).getD s []).take c.co.length))) with
  | none=>rfl
  | some p=>rfl
 rw[<-h.rfd U,<-V];have Y:fbs (spc c)=(spF c (Xe c) (X8 c) (Jz c)).map (·.st):=by unfold fbs;rw[h.sy.2.2.2.2]
 rw[Y];constructor
 ·intro E;cases G:rsn c (Xe c) (Lg.plx (X8 c) (((Jz c).getD s []).take c.co.length)) s ((Jz c).getD s []) with
  | none=>rfl
  | some r =>
   exfalso;have J:=QiM G;refine E r.st (Lx.2 ⟨r,?_,O⟩) (by rw[J.1];omega);unfold spF;refine MF.2 ⟨((Jz c).getD s [],s),?_,G⟩;rw[List.mem_zipIdx_iff_getElem?,(Yk I).1];exact LD I
 intro E x hx e;obtain⟨r,G,rfl⟩:=Lx.1 hx;unfold spF at G;obtain⟨⟨t,j⟩,hp,T⟩:=MF.1 G;have h2:=List.mem_zipIdx_iff_getElem?.1 hp;have J:=QiM T;have ej:j=s:=by
  omega
 subst ej;have et:(Jz c).getD j []=t:=by
  have h4:(Jz c)[j]?=some t:=h2;rw[MA,h4];rfl
 rw[et]at E;have h5:rsn c (Xe c) (Lg.plx (X8 c) (t.take c.co.length)) j t=some r:=T;rw[h5]at E;cases E
end
def Lq (c:ZS)(q:LI):Prop:=q∈Jz c/\lft (suL c) ((Jz c).idxOf q)=true
abbrev Vq (c:ZS)(q:LI)(y:Int):Prop:=SvR (spc c).a (Jz c) (suL c) q y
section
variable {c:ZS}(h:X6 c)
include h
theorem X6.nxQ {E:LI}{v:Int}(G:q∈Jz c)(I:v∈evs (O8 c.co))(J:QZ v (O8 c.co++O8 c.rq) q=some E):E∈Jz c:=by
 have hi:=Uv G;exact h.sy.1.cl _ hi.1 v (h.evc.2 I) _ (by rw[hi.2];exact J)
theorem X6.q0:oG (O8 c.co++O8 c.rq).length 0∈Jz c/\(Jz c).idxOf (oG (O8 c.co++O8 c.rq).length (0:Int))=0:=by
 have E:=h.sy;have U:(spc c).a.st=((Jz c).length:Int):=E.1.st;have G:0<(Jz c).length:=by have:=E.2.2.1;omega
 have J:=E.1.hd G;have T:oG (O8 c.co++O8 c.rq).length (0:Int)∈Jz c:=by rw[<-J];exact(Yk G).2
 have I:=Uv T;refine⟨T,Qf4 E.1.nd I.1 G ?_⟩;rw[<-(Yk I.1).1,<-(Yk G).1,I.2];exact J.symm
theorem X6.edge {E:LI}{v:Int}(I:q∈Jz c)(J:v∈evs (O8 c.co))(T:QZ v (O8 c.co++O8 c.rq) q=some E):(((Jz c).idxOf q:Int),v,((Jz c).idxOf E:Int))∈(spc c).a.ed:=by
 have hi:=Uv I;have G:=h.sy.1.J hi.1 v;rw[OV (h.evc.2 J),hi.2,T]at G;exact YS G
theorem X6.lunc {G:LI}{v:Int}(E:Lq c q)(I:v∈evs (O8 c.co))(T:v∈unc c.ev)(J:QZ v (O8 c.co++O8 c.rq) q=some G):Lq c G :=
 ⟨h.nxQ E.1 I J,QmW (h.edge E.1 I J) E.2 T⟩
theorem X6.lfr (E:Lq c q):xG c q:=by
 have hi:=Uv E.1;have G:=(h.fb hi.1).1 λx hx=>by
  have:=Qpi E.2 x hx
  rwa [MK]at this
 rwa [hi.2]at G
theorem X6.vl {y:Int}(J:Vq c q y):Lq c q:=by
 obtain⟨j,s,_,_,_,E,T,G⟩:=J;have I:q∈Jz c:=by rw[<-G];exact(Yk E).2
 have hi:=Uv I;have e:(Jz c).idxOf q=s:=by
  refine Qf4 h.sy.1.nd hi.1 E ?_;rw[<-(Yk hi.1).1,<-(Yk E).1,hi.2,G]
 exact⟨I,by rw[e];exact T⟩
theorem X6.suE (G:(X2 c).st≠0):X2 c=YG (rstr (spc c).a (suL c))/\QS (X2 c)/\∀v,v∈(X2 c).al↔v∈evs (O8 c.co):=by
 obtain⟨_,_,hA⟩:=Qb4 (B:=(spc c).a) (fb:=fbs (spc c)) (ul:=unc c.ev) G;have E:X2 c=YG (rstr (spc c).a (suL c)):=hA;refine⟨E,jK h.sok _,λv=>?_⟩;rw[E,(QaH h.sok h.sy.2.2.1 (suL c)).al.D h.sy.1.al];exact h.evc
theorem X6.v0 (E:(X2 c).st≠0):Vq c (oG (O8 c.co++O8 c.rq).length 0) 0:=by
 obtain⟨_,hl,_⟩:=Qb4 (B:=(spc c).a) (fb:=fbs (spc c)) (ul:=unc c.ev) E;exact SvR.init h.sy.1 h.sok h.sy.2.2.1 hl
theorem X6.vgo (J:(X2 c).st≠0){G:LI}{y v:Int}(T:Vq c q y)(U:v∈evs (O8 c.co))(V:QZ v (O8 c.co++O8 c.rq) q=some G)(hl:Lq c G):∃E,xo (X2 c).ed y v=some E/\Vq c G E:=by
 obtain⟨hA,ho,Y⟩:=h.suE J;obtain⟨E,I,h2⟩:=SvR.go (λa ha=>(h.ok a ha).1) h.sy.1 h.sok h.sy.2.2.1 T V hl.2;rw[<-hA]at I;exact⟨E,Qhb ((Y v).2 U) I,h2⟩
theorem X6.vst (J:(X2 c).st≠0){y v E:Int}(T:Vq c q y)(G:xo (X2 c).ed y v=some E):v∈evs (O8 c.co)/\∃q',QZ v (O8 c.co++O8 c.rq) q=some q'/\Vq c q' E:=by
 obtain⟨hA,U,V⟩:=h.suE J;have I:=(U.ed _ (YS G)).2.2.1;refine⟨(V v).1 I,SvR.J (λa Y=>(h.ok a Y).1) h.sy.1 h.sok h.sy.2.2.1 T ?_⟩;rw[<-hA];unfold pst;rw[OV I];exact G
end
def pjF (a:Qz)(er:LI)(tup:List (LI))(j:Nat)(v:Int):Option Ed:=if(pnx a er (tup.getD j []) v).length=0 then none else some ((j:Int),v,(tup.idxOf (pnx a er (tup.getD j []) v):Int))
def QdC (a:Qz)(er:LI)(tup:List (LI))(j:Nat)(vs:LI):Prop:=∀v∈vs,(pnx a er (tup.getD j []) v).length≠0->pnx a er (tup.getD j []) v∈tup
theorem Qjc (a:Qz)(er:LI)(tup:List (LI)):qK (pjF a er tup):=by
 intro j v e h;unfold pjF at h;split at h
 ·cases h
 cases h;exact⟨O,O⟩
section
variable {er:LI}
theorem QdC.pre {tup r:List (LI)}{vs:LI}(E:j<tup.length)(hc:QdC a er tup j vs):QdC a er (tup++r) j vs:=by
 intro v G h;rw[Y5 E]at h ⊢;exact LG _ (hc v G h)
theorem QfR {tup r:List (LI)}{vs:LI}(E:j<tup.length)(hc:QdC a er tup j vs):vs.filterMap (pjF a er (tup++r) j)=vs.filterMap (pjF a er tup j):=by
 refine UO λv G=>?_;unfold pjF;rw[Y5 E];by_cases h:(pnx a er (tup.getD j []) v).length=0
 ·rw[OV h,OV h]
 rw[OU h,OU h,Ma,OV (hc v G h)]
theorem Qo0 (z:Sy)(u:LI):∃r,(K7 z u).tup=z.tup++r:=by
 unfold K7;split
 ·exact⟨[],od⟩
 exact⟨[u],O⟩
theorem Qje (i:Nat)(t:LI)(z:Sy)(v:Int):∃r,(JD a er i t z v).tup=z.tup++r:=by
 unfold JD;split
 ·exact⟨[],od⟩
 exact Qo0 _ _
theorem zy (i:Nat)(t:LI):∀(vs:LI) (z:Sy),∃r,(vs.foldl (JD a er i t) z).tup=z.tup++r
 | [],z=>⟨[],od⟩
 | v::vs,z=>by
  obtain⟨E,G⟩:=Qje (a:=a) (er:=er) i t z v;obtain⟨r2,I⟩:=zy i t vs (JD a er i t z v);exact⟨E++r2,by rw[LQ,I,G,LA]⟩
theorem VY (i:Nat)(t:LI)(z:Sy):(zc a i t z).tup=z.tup:=(QaZ a i t z).1
theorem Qjb {kp:LI}:∀(f i:Nat) (z:Sy),∃r,(ju a kp er f i z).tup=z.tup++r
 | 0,i,z=>⟨[],by simp[ju]⟩
 | f+1,i,z=>by
  rw[ju];split
  ·obtain⟨E,G⟩:=zy (a:=a) (er:=er) i (Jq z i) kp (zc a i (Jq z i) z);obtain⟨r2,I⟩:=Qjb (kp:=kp) f (i+1) (kp.foldl (JD a er i (Jq z i)) (zc a i (Jq z i) z));exact⟨E++r2,by rw[I,G,VY,LA]⟩
  exact⟨[],od⟩
theorem jW {i:Nat}{t:LI}:∀(vs:LI) (z:Sy),i<z.tup.length->z.tup.Nodup->z.tup.getD i []=t ->
  ∃r,(vs.foldl (JD a er i t) z).tup=z.tup++r/\(vs.foldl (JD a er i t) z).mk'=z.mk'/\(vs.foldl (JD a er i t) z).ed=z.ed++vs.filterMap (pjF a er (vs.foldl (JD a er i t) z).tup i)/\QdC a er (vs.foldl (JD a er i t) z).tup i vs/\(vs.foldl (JD a er i t) z).tup.Nodup
 | [],z,_,hd,_=>⟨[],od,rfl,od,λv Y=>(by cases Y),hd⟩
 | v::vs,z,hi,hd,ht=>by
  have key:∃J,(JD a er i t z v).tup=z.tup++J/\(JD a er i t z v).mk'=z.mk'/\(JD a er i t z v).ed=z.ed++[v].filterMap (pjF a er (JD a er i t z v).tup i)/\QdC a er (JD a er i t z v).tup i [v]/\(JD a er i t z v).tup.Nodup:=by
   by_cases G:(pnx a er t v).length=0
   ·have e:JD a er i t z v=z:=by unfold JD;rw[OV G]
    rw[e];refine⟨[],od,rfl,?_,λw E h=>?_,hd⟩
    ·rw[Qgh (by unfold pjF;rw[ht,OV G]),LH]
    rw[Lb.1 E,ht]at h;exact OX G h
   by_cases I:pnx a er t v∈z.tup
   ·have e:JD a er i t z v=⟨z.tup,z.mk',z.ed++[((i:Int),v,(z.tup.idxOf (pnx a er t v):Int))]⟩:=by unfold JD K7;rw[OU G,OV I]
    rw[e];refine⟨[],od,rfl,?_,λw E h=>?_,hd⟩
    ·rw[Qbr (by unfold pjF;rw[ht,OU G])]
    rw[Lb.1 E];show pnx a er (z.tup.getD i []) v∈z.tup;rw[ht];exact I
   have e:JD a er i t z v=⟨z.tup++[pnx a er t v],z.mk',z.ed++[((i:Int),v,((z.tup++[pnx a er t v]).idxOf (pnx a er t v):Int))]⟩:=by unfold JD K7;rw[OU G,OU I]
   rw[e];have U:(z.tup++[pnx a er t v]).getD i []=t:=by rw[Y5 hi,ht]
   refine⟨[pnx a er t v],O,O,?_,λw E h=>?_,JF hd I⟩
   ·rw[Qbr (by unfold pjF;rw[U,OU G])]
   rw[Lb.1 E];show pnx a er ((z.tup++[pnx a er t v]).getD i []) v∈z.tup++[pnx a er t v];rw[U];simp
  obtain⟨J,k1,k2,k3,V,k5⟩:=key;have T:i<(JD a er i t z v).tup.length:=by rw[k1];simp;omega
  obtain⟨r2,g1,g2,g3,g4,g5⟩:=jW vs (JD a er i t z v) T k5 (by rw[k1,Y5 hi,ht]);rw[LQ];refine⟨J++r2,by rw[g1,k1,LA],g2.D k2,?_,?_,g5⟩
  ·rw[g3,k3,LA];congr 1;rw[show v::vs=[v]++vs from rfl,List.filterMap_append];congr 1;rw[g1];exact(QfR T V).symm
  intro w E h;rcases Lk.1 E with rfl|E
  ·have:=V.pre (r:=r2) T;rw[<-g1]at this;exact this w Lh h
  exact g4 w E h
end
structure PjG (a:Qz)(o:LI)(i:Nat)(s:Sy):Prop where
 nd:s.tup.Nodup
 le:i<=s.tup.length
 hd:s.tup.getD 0 []=rch a [0] (ers a o)/\0<s.tup.length
 mk2:s.mk'=((oO 0 i).filter λj=>mkd a (s.tup.getD j [])).map λj:Nat=>(j:Int)
 ed:s.ed=grid (pjF a (ers a o) s.tup) (kpt a o) i
 cl:∀j,j<i->QdC a (ers a o) s.tup j (kpt a o)
theorem PjG.next {s:Sy}(h:PjG a o i s)(hi:i<s.tup.length):PjG a o (i+1) ((kpt a o).foldl (JD a (ers a o) i (Jq s i)) (zc a i (Jq s i) s)):=by
 have ht:=VY (a:=a) i (Jq s i) s;have U:(zc a i (Jq s i) s).ed=s.ed:=(QaZ a i (Jq s i) s).2.1;obtain⟨r,g1,V,T,Y,g5⟩:=jW (a:=a) (er:=ers a o) (kpt a o) (zc a i (Jq s i) s) (i:=i) (t:=Jq s i) (by rw[ht];exact hi) (by rw[ht];exact h.nd) (by rw[ht];rfl);generalize (kpt a o).foldl (JD a (ers a o) i (Jq s i)) (zc a i (Jq s i) s)=G at *;rw[ht]at g1;rw[U]at T;have pre:∀j,j<=i->G.tup.getD j []=s.tup.getD j []:=λj E=>by rw[g1];exact Y5 oa
 refine⟨g5,by rw[g1];simp;omega,⟨by rw[pre 0 oa];exact h.hd.1,by rw[g1];simp;omega⟩,?_,?_,λj E=>?_⟩
 ·rw[V,Mj,LT,Ly,LW];have e1:((oO 0 i).filter λj=>mkd a (G.tup.getD j []))=(oO 0 i).filter λj=>mkd a (s.tup.getD j []):=by
   refine NB λj E=>?_;rw[L8]at E;rw[pre j oa]
  rw[e1];unfold zc;by_cases I:mkd a (Jq s i)=true
  ·rw[OV I];have J:mkd a (G.tup.getD i [])=true:=by rw[pre i (Lp _)];exact I
   simp only[OA,J,if_true,List.filter_nil,oS,OC];rw[h.mk2]
  rw[OU I];have J:mkd a (G.tup.getD i [])=false:=by rw[pre i (Lp _)];exact eq_false_of_ne_true I
  rw[L4,OU (by rw[J];simp),MP,h.mk2];simp
 ·rw[T,Kq,h.ed];congr 1;unfold grid;refine Y6 λj E=>?_;rw[L8]at E;rw[g1];exact(QfR oa (h.cl j oa)).symm
 by_cases e2:j=i
 ·subst e2;exact Y
 have:=(h.cl j oa).pre (r:=r) oa;rw[<-g1]at this;exact this
theorem QcA {a:Qz}{o:LI}:∀(f i:Nat) (s:Sy),PjG a o i s->∃E,PjG a o E (ju a (kpt a o) (ers a o) f i s)/\((ju a (kpt a o) (ers a o) f i s).tup.length=E\/E=i+f)
 | 0,i,s,h=>⟨i,h,.inr O⟩
 | f+1,i,s,h=>by
  rw[ju];split
  ·rename_i hi;obtain⟨E,G,I⟩:=QcA f (i+1) _ (h.next hi);exact⟨E,G,oa⟩
  exact⟨i,h,.inl (oo h.le)⟩
theorem Qjd {a:Qz}{er:LI}{n:Nat}(E:a.st.toNat=n)(i:Nat)(t:LI):∀(vs:LI) (z:Sy),PjO n z->PjO n (vs.foldl (JD a er i t) z)
 | [],_,h=>h
 | v::vs,z,h=>by
  refine Qjd E i t vs _ ?_;unfold JD;split
  ·exact h
  have:=h.add (u:=pnx a er t v) (by unfold pnx rch cls;rw[E];exact qa _ _);exact⟨this.v,this.d⟩
theorem Qod {a:Qz}{kp er:LI}{n:Nat}(E:a.st.toNat=n):∀(f i:Nat) (z:Sy),PjO n z->PjO n (ju a kp er f i z)
 | 0,_,_,h=>h
 | f+1,i,z,h=>by
  rw[ju];split
  ·refine Qod E f (i+1) _ (Qjd E _ _ _ _ ⟨?_,?_⟩)
   ·rw[VY];exact h.v
   rw[VY];exact h.d
  exact h
structure PjP (a:Qz)(o:LI)(Q:List (LI)):Prop where
 st:(ZO a o).st=(Q.length:Int)
 nd:Q.Nodup
 v:∀t∈Q,Ss a.st.toNat t
 le:Q.length<=2 ^ a.st.toNat
 hd:Q.getD 0 []=rch a [0] (ers a o)/\0<Q.length
 mk2:(ZO a o).mr=((oO 0 Q.length).filter λj=>mkd a (Q.getD j [])).map λj:Nat=>(j:Int)
 ed:(ZO a o).ed=grid (pjF a (ers a o) Q) (kpt a o) Q.length
 cl:∀j,j<Q.length->QdC a (ers a o) Q j (kpt a o)
abbrev Ux (a:Qz)(o:LI):List (LI):=(prj a o).tup
theorem Qq4 (a:Qz)(o:LI):PjG a o 0 (pj0 a (ers a o)):=⟨by simp[pj0],od,⟨by simp[pj0],by simp[pj0]⟩,by simp[pj0],by simp[pj0,grid],λj E=>oa⟩
theorem Qq3 (a:Qz)(er:LI):PjO a.st.toNat (pj0 a er):=⟨λt ht=>by
 rw[show(pj0 a er).tup=[rch a [0] er] from rfl,Lb]at ht;rw[ht];unfold rch cls;exact qa _ _,by simp[pj0]⟩
theorem yc (I:a.st≠0):PjP a o (Ux a o):=by
 have e:prj a o=ju a (kpt a o) (ers a o) (2 ^ a.st.toNat) 0 (pj0 a (ers a o)):=by unfold prj;rw[OU I]
 obtain⟨J,E,T⟩:=QcA (2 ^ a.st.toNat) 0 _ (Qq4 a o);have G:=Qod (kp:=kpt a o) (er:=ers a o) (n:=a.st.toNat) O (2 ^ a.st.toNat) 0 _ (Qq3 a (ers a o));rw[<-e]at E T G;have hl:J=(prj a o).tup.length:=by
  have U:=E.le;have V:=G.le;omega
 subst hl;exact⟨O,E.nd,G.v,G.le,E.hd,E.mk2,E.ed,E.cl⟩
theorem PjP.J {Q:List (LI)}(h:PjP a o Q)(I:j<Q.length)(v:Int):
  xo (ZO a o).ed j v=if v∈kpt a o/\(pnx a (ers a o) (Q.getD j []) v).length≠0 then some (Q.idxOf (pnx a (ers a o) (Q.getD j []) v):Int) else none:=by
 rw[h.ed,qA (Qjc a _ Q)];by_cases E:v∈kpt a o
 ·rw[OV ⟨I,E⟩];unfold pjF;by_cases G:(pnx a (ers a o) (Q.getD j []) v).length=0
  ·rw[OV G,OU (λe=>e.2 G)];rfl
  rw[OU G,OV ⟨E,G⟩];rfl
 rw[OU (λe=>E e.2),OU (λe=>E e.1)]
theorem PjP.to {Q:List (LI)}(h:PjP a o Q)(E:j<Q.length){v:Int}(G:v∈kpt a o)(I:(pnx a (ers a o) (Q.getD j []) v).length≠0):Q.idxOf (pnx a (ers a o) (Q.getD j []) v)<Q.length/\Q.getD (Q.idxOf (pnx a (ers a o) (Q.getD j []) v)) []=pnx a (ers a o) (Q.getD j []) v:=by
 have hl:=L7 (h.cl j E v G I);generalize pnx a (ers a o) (Q.getD j []) v=u at *;refine⟨hl,?_⟩;simp[oN,hl]
theorem Qgc (E:QS a)(o:LI):Ys (kpt a o):=E.ali.filter _
theorem PjP.okay (I:QS a){Q:List (LI)}(h:PjP a o Q)(Y:Q.length<=4096):QS (ZO a o):=by
 refine⟨λe E=>I.al e (LJ.1 E).1,Qgc I o,by rw[h.st];omega,by rw[h.st];omega,λs J=>?_,?_,λe E=>?_,by rw[h.ed];exact Qbo (Qjc a _ Q) (Qgc I o) _⟩
 ·rw[h.mk2]at J;simp only[Om,Oj,Oh]at J;obtain⟨i,⟨hi,_⟩,rfl⟩:=J;rw[h.st];omega
 ·rw[h.mk2];unfold Ys;rw[L9];refine List.Pairwise.sublist MD ?_;exact(M8 (s:=0) (n:=Q.length)).imp (λh=>oa)
 rw[h.ed]at E;obtain⟨j,v,U,T,G⟩:=yB E;unfold pjF at G;split at G
 ·cases G
 rename_i V;cases G
 have:=(h.to U T V).1;rw[h.st];exact⟨oe,oe,T,oe,oe⟩
theorem PjP.mr {a:Qz}{o:LI}{Q:List (LI)}(h:PjP a o Q){j:Nat}(G:j<Q.length):(j:Int)∈(ZO a o).mr↔mkd a (Q.getD j [])=true:=by
 rw[h.mk2];simp only[Om,Oj,Oh];constructor
 ·rintro⟨k,⟨_,E⟩,I⟩;have:k=j:=oa
  subst this;exact E
 intro E;exact⟨j,⟨oa,E⟩,O⟩
theorem PjP.nxt {a:Qz}{o:LI}{Q:List (LI)}(h:PjP a o Q){j:Nat}(G:j<Q.length){v:Int}(I:v∈kpt a o):nxt (ZO a o).ed j v=if(pnx a (ers a o) (Q.getD j []) v).length=0 then -1 else(Q.idxOf (pnx a (ers a o) (Q.getD j []) v):Int):=by
 rw[K8,h.J G v];by_cases E:(pnx a (ers a o) (Q.getD j []) v).length=0
 ·rw[OU (λe=>e.2 E),OV E]
 rw[OV ⟨I,E⟩,OU E]
theorem Qi8 {a:Qz}{o:LI}{Q:List (LI)}(h:PjP a o Q){i:Nat}:∀(vs:LI) (z:Sy),(∀v∈vs,v∈kpt a o)->i<z.tup.length->(∃r,Q=(vs.foldl (JD a (ers a o) i (Q.getD i [])) z).tup++r) ->
  vs.foldl (VF (ZO a o) i) (Yt z.tup.length)=Yt (vs.foldl (JD a (ers a o) i (Q.getD i [])) z).tup.length
 | [],_,_,_,_=>rfl
 | v::vs,z,U,hi,E=>by
  rw[LQ]at E ⊢;rw[LQ];obtain⟨r,E⟩:=E;obtain⟨r2,Y⟩:=zy (a:=a) (er:=ers a o) i (Q.getD i []) vs (JD a (ers a o) i (Q.getD i []) z v);obtain⟨r3,V⟩:=Qje (a:=a) (er:=ers a o) i (Q.getD i []) z v;have G:Q=(JD a (ers a o) i (Q.getD i []) z v).tup++(r2++r):=by rw[<-LA,<-Y];exact E
  have he:z.tup.length<=Q.length:=by
   have:=OW oV G;rw[V]at this;simp only[oM]at this;omega
  have hn:=h.nxt (j:=i) oa (U v Lh);have ha:VF (ZO a o) i (Yt z.tup.length) v=Yt (JD a (ers a o) i (Q.getD i []) z v).tup.length:=by
   unfold VF;rw[hn];by_cases I:(pnx a (ers a o) (Q.getD i []) v).length=0
   ·have e:JD a (ers a o) i (Q.getD i []) z v=z:=by unfold JD;rw[OV I]
    rw[OV I,e,OU (λh=>OX h.1 og)]
   rw[OU I];by_cases J:pnx a (ers a o) (Q.getD i []) v∈z.tup
   ·have e:(JD a (ers a o) i (Q.getD i []) z v).tup=z.tup:=by unfold JD K7;rw[OU I,OV J]
    rw[e]at G ⊢;have hx:Q.idxOf (pnx a (ers a o) (Q.getD i []) v)=z.tup.idxOf (pnx a (ers a o) (Q.getD i []) v):=by
     generalize pnx a (ers a o) (Q.getD i []) v=u at *;rw[G,Ma,OV J]
    have:=L7 J;rw[hx,OU];intro T;exact T.2 ((Kn _ _).2 ⟨oa,oa⟩)
   have e:(JD a (ers a o) i (Q.getD i []) z v).tup=z.tup++[pnx a (ers a o) (Q.getD i []) v]:=by unfold JD K7;rw[OU I,OU J]
   rw[e]at G ⊢;have hx:Q.idxOf (pnx a (ers a o) (Q.getD i []) v)=z.tup.length:=by
    generalize pnx a (ers a o) (Q.getD i []) v=u at *;rw[G,LA,Ma,OU J];simp
   rw[hx,OV ⟨oa,λT=>oo ((Kn _ _).1 T)⟩,Lc,Lv,qr]
  rw[ha];exact Qi8 h vs _ (λw hw=>U w (Lj _ hw)) (by rw[V];simp;omega) ⟨r,E⟩
theorem Qcz {a:Qz}{o:LI}{Q:List (LI)}(h:PjP a o Q):∀(f g i:Nat) (z:Sy),(ju a (kpt a o) (ers a o) f i z).tup=Q->Q.length<=i+f->Q.length<=i+g->zI (ZO a o) g i (Yt z.tup.length)=Yt Q.length
 | 0,g,i,z,E,U,V=>by
  have e:z.tup=Q:=E;rw[e];cases g with
  | zero=>rfl
  | succ g=>rw[zI,OU (by rw[JG];omega)]
 | f+1,g,i,z,E,U,V=>by
  rw[ju]at E;by_cases hi:i<z.tup.length
  ·rw[OV hi]at E;obtain⟨I,G⟩:=Qjb (a:=a) (er:=ers a o) (kp:=kpt a o) f (i+1) ((kpt a o).foldl (JD a (ers a o) i (Jq z i)) (zc a i (Jq z i) z));obtain⟨r2,Y⟩:=zy (a:=a) (er:=ers a o) i (Jq z i) (kpt a o) (zc a i (Jq z i) z);rw[E]at G;have J:Q=z.tup++(r2++I):=by rw[G,Y,VY,LA]
   have hT:Jq z i=Q.getD i []:=by rw[J,Y5 hi];rfl
   have he:i<Q.length:=by rw[J,Lc];omega
   obtain⟨g,rfl⟩:∃g',g=g'+1:=⟨g - 1,oa⟩;rw[zI,OV (by rw[JG];exact hi)];have ha:O7 (Yt z.tup.length) i=(i:Int):=by unfold O7 Yt;simp[oN,hi]
   have T:=Qi8 h (kpt a o) (zc a i (Jq z i) z) (λv hv=>hv) (by rw[VY];exact hi) ⟨I,by rw[<-hT];exact G⟩;rw[VY,<-hT]at T;rw[ha];unfold fdR;rw[show(ZO a o).al=kpt a o from rfl,T];exact Qcz h f g (i+1) _ E oa oa
  rw[OU hi]at E;rw[E]at hi ⊢;cases g with
  | zero=>rfl
  | succ g=>rw[zI,OU (by rw[JG];exact hi)]
theorem Qi3 (I:a.st≠0):Y9 (ZO a o)=ZO a o:=by
 have h:=yc (o:=o) I;have hp:=h.hd.2;have V:xq (ZO a o)=Yt (Ux a o).length:=by
  unfold xq fd0;rw[OV (by rw[h.st];omega)];have e:prj a o=ju a (kpt a o) (ers a o) (2 ^ a.st.toNat) 0 (pj0 a (ers a o)):=by unfold prj;rw[OU I]
  refine Qcz h (2 ^ a.st.toNat) _ 0 (pj0 a (ers a o)) (by rw[<-e]) (oo h.le) (by rw[h.st];omega)
 have J:∀i,i<(Ux a o).length->O7 (Yt (Ux a o).length) i=(i:Int):=λi hi=>by unfold O7 Yt;simp[oN,hi]
 have Y:YY (ZO a o) (Yt (Ux a o).length) (Ux a o).length=(ZO a o).mr:=by
  unfold YY;rw[h.mk2];congr 1;refine NB λi hi=>?_;rw[L8]at hi;rw[J i oa];have T:=h.mr (j:=i) oa;rw[<-h.mk2];cases E:mkd a ((Ux a o).getD i []) with
  | true=>exact OY (T.2 E)
  | false=>exact O0 λh2=>by rw[T.1 h2]at E;cases E
 have hE:Xh (ZO a o) (Yt (Ux a o).length) (Ux a o).length=(ZO a o).ed:=by
  unfold Xh;rw[show(ZO a o).al=kpt a o from rfl];refine Eq.D ?_ h.ed.symm;unfold grid;refine Y6 λi hi=>?_;rw[L8]at hi;refine UO λv U=>?_;have hi':i<(Ux a o).length:=oa
  unfold Kt pjF;rw[J i hi',h.nxt hi' U];by_cases G:(pnx a (ers a o) ((Ux a o).getD i []) v).length=0
  ·rw[OV G,OV G,OU og]
  have hl:=(h.to hi' U G).1;rw[OU G,OU G,OV oa];have e:zf (Yt (Ux a o).length) ((Ux a o).idxOf (pnx a (ers a o) ((Ux a o).getD i []) v):Int)=((Ux a o).idxOf (pnx a (ers a o) ((Ux a o).getD i []) v):Int):=by
   generalize (Ux a o).idxOf (pnx a (ers a o) ((Ux a o).getD i []) v)=k at *;have E:(k:Int)∈Yt (Ux a o).length:=(Kn _ _).2 ⟨oa,oa⟩;unfold zf;rw[OV E];have hx:=L7 E;have e1:=List.getElem_idxOf hx;unfold Yt at e1 hx ⊢;rw[MQ,Mw]at e1;exact e1
  rw[e]
 unfold Y9;rw[V,JG,Y,hE,<-h.st]
theorem Qmj (J:QS a)(E:a.st≠0)(T:a.st<=12):Kp (ZO a o)=true/\QS (ZO a o)/\0<(ZO a o).st/\(ZO a o).st<=2 ^ a.st.toNat:=by
 have h:=yc (o:=o) E;have hl:(Ux a o).length<=4096:=Lz h.le (Lz (Nn og (show a.st.toNat<=12 by omega)) og);have hok:=h.okay J hl;have G:0<(ZO a o).st:=by rw[h.st];have:=h.hd.2;omega
 have I:=yx hok G;rw[Qi3 E]at I;refine⟨I,hok,G,?_⟩;rw[h.st]
 exact_mod_cast h.le
inductive LoR (ok:Ed->Bool) (a:Qz):Int->Int->Prop
 | z {x:Int}:LoR ok a x x
 | st {x y z v:Int}:(x,v,y)∈a.ed->ok (x,v,y)=true->LoR ok a y z->LoR ok a x z
theorem LoR.snoc {ok:Ed->Bool}{x y z v:Int}(h:LoR ok a x y)(E:(y,v,z)∈a.ed)(G:ok (y,v,z)=true):LoR ok a x z:=by
 induction h with
 | z=>exact .st E G .z
 | st I J _ ih=>exact .st I J (ih E G)
theorem LoR.imp {ok E:Ed->Bool}(hi:∀e∈a.ed,ok e=true->E e=true){x y:Int}(h:LoR ok a x y):LoR E a x y:=by
 induction h with
 | z=>exact .z
 | st G I _ ih=>exact .st G (hi _ G I) ih
theorem LoR.to {ok:Ed->Bool}{S:Int->Prop}(hS:∀e∈a.ed,S e.1->ok e=true->S e.2.2){x y:Int}(h:LoR ok a x y)(hx:S x):S y:=by
 induction h with
 | z=>exact hx
 | st E G _ ih=>exact ih (hS _ E hx G)
theorem Qc2 {α γ κ:Type}{st:List α->γ->List α}{key:α->κ}{g:γ->κ->Prop}(G:∀l v,∃r,st l v=l++r)(I:∀l v k,g v k->k∈(st l v).map key):∀(vs:List γ) (l:List α),(∃r,vs.foldl st l=l++r)/\∀v∈vs,∀k,g v k->k∈(vs.foldl st l).map key
 | [],l=>⟨⟨[],od⟩,λv U=>by cases U⟩
 | v::vs,l=>by
  obtain⟨V,Y⟩:=G l v;obtain⟨⟨r2,J⟩,h3⟩:=Qc2 G I vs (st l v);rw[LQ];refine⟨⟨V++r2,by rw[J,Y,LA]⟩,λw E k T=>?_⟩;rcases Lk.1 E with rfl|E
  ·rw[J,Ly];exact LG _ (I l w k T)
  exact h3 w E k T
theorem Qc1 {α γ:Type}{st:List α->γ->List α}{Inv:List α->Prop}:∀(vs:List γ) (l:List α),(∀l v,v∈vs->Inv l->Inv (st l v))->Inv l->Inv (vs.foldl st l)
 | [],_,_,h=>h
 | v::vs,l,E,h=>Qc1 vs (st l v) (λl w G=>E l w (Lj _ G)) (E l v Lh h)
theorem Qll (ok:Ed->Bool)(es:List Ed)(l:LI):(∃r,es.foldl (jb ok) l=l++r)/\∀e∈es,∀k,(ok e=true/\k=e.2.2)->k∈(es.foldl (jb ok) l).map _root_.id :=
 Qc2 (g:=λ(e:Ed) k=>ok e=true/\k=e.2.2) (key:=_root_.id) (λl e=>by
  unfold jb;split
  ·exact⟨_,O⟩
  ·exact⟨[],od⟩) (λl e k E=>by
  rw[List.map_id,E.2];unfold jb;by_cases h:e.2.2∈l
  ·rw[OU (λG=>G.2 h)];exact h
  rw[OV ⟨E.1,h⟩];simp) es l
theorem Qlj {ok:Ed->Bool}{a:Qz}{P:Int->Prop}(E:∀e∈a.ed,P e.1->ok e=true->P e.2.2):∀(f i:Nat) (l:LI),(∀x∈l,P x)->∀x∈bfs ok a.ed f i l,P x
 | 0,_,_,h=>h
 | f+1,i,l,h=>by
  rw[bfs];split
  ·rename_i hi;refine Qlj E f (i+1) _ ?_;have hc:P (O7 l i):=h _ (by rw[<-Zo hi];exact Lm hi);refine Qc1 (Inv:=λl=>∀x∈l,P x) _ _ (λl e G hl x hx=>?_) h;unfold jb at hx;split at hx
   ·rename_i I;rcases Le.1 hx with hx|hx
    ·exact hl x hx
    rw[Lb.1 hx];obtain⟨J,T⟩:=LJ.1 G;exact E e J (by rw[OZ T];exact hc) I.1
   exact hl x hx
  exact h
theorem Qlk {ok:Ed->Bool}{a:Qz}{n:Nat}(ht:∀e∈a.ed,0<=e.2.2/\e.2.2<(n:Int)){U:LI}:∀(f i:Nat) (l:LI),Ug n U l->U.length+n<=i+f->(∀k,k<i->∀e∈a.ed,l[k]?=some e.1->ok e=true->e.2.2∈l) ->
  Ug n U (bfs ok a.ed f i l)/\(∃r,bfs ok a.ed f i l=l++r)/\∀e∈a.ed,e.1∈bfs ok a.ed f i l->ok e=true->e.2.2∈bfs ok a.ed f i l
 | 0,i,l,G,hf,hc=>⟨G,⟨[],by simp[bfs]⟩,λe E V I=>by
  obtain⟨k,Y,e1⟩:=LR (show e.1∈l from V);have:=G.len;exact hc k oa e E (by rw[LD Y,e1]) I⟩
 | f+1,i,l,G,hf,hc=>by
  rw[bfs];split
  ·rename_i hi;obtain⟨⟨r,J⟩,hh⟩:=Qll ok (QM a.ed (O7 l i)) l;have ha:=G.edges ok (QM a.ed (O7 l i)) λe E=>ht e (LJ.1 E).1;obtain⟨g1,⟨r2,g2⟩,g3⟩:=Qlk ht f (i+1) _ ha oa λk I e E T hok=>by
    by_cases hj:k=i
    ·subst hj;rw[J,LX hi,LD hi,Zo hi]at T;have:=hh e (LJ.2 ⟨E,OY (Option.some.inj T).symm⟩) e.2.2 ⟨hok,O⟩
     rwa [List.map_id]at this
    rw[J,LX oa]at T;rw[J];exact LG _ (hc k oa e E T hok)
   exact⟨g1,⟨r++r2,by rw[g2,J,LA]⟩,g3⟩
  rename_i hi;refine⟨G,⟨[],od⟩,λe E V I=>?_⟩;obtain⟨k,Y,e1⟩:=LR (show e.1∈l from V);exact hc k oa e E (by rw[LD Y,e1]) I
theorem QbF (ho:QS a){ok:Ed->Bool}(hl:∀x∈l,0<=x/\x<a.st){y:Int}:y∈cls ok a l↔∃x∈l,LoR ok a x y:=by
 have Y:a.st=(a.st.toNat:Int):=by have:=ho.st0;omega
 have ht:∀e∈a.ed,0<=e.2.2/\e.2.2<(a.st.toNat:Int):=λe E=>oo (ho.ed e E).2.2.2
 unfold cls;rw[zr];obtain⟨g1,⟨r,T⟩,U⟩:=Qlk (ok:=ok) ht (l.length+a.st.toNat) 0 l (Ug.zero _ _) oa λk G=>oa
 constructor
 ·rintro⟨_,J⟩;exact Qlj (P:=λz=>∃x∈l,LoR ok a x z) (λe E ⟨x,hx,I⟩ G=>⟨x,hx,I.snoc E G⟩) _ _ _ (λx hx=>⟨x,hx,.z⟩) y J
 rintro⟨x,hx,J⟩;have I:y∈bfs ok a.ed (l.length+a.st.toNat) 0 l:=J.to (S:=λz=>z∈bfs ok a.ed (l.length+a.st.toNat) 0 l) (λe E V G=>U e E V G) (by rw[T];exact LG _ hx);exact⟨g1.all (λx hx=>oo (hl x hx)) y I,I⟩
theorem Qbz (l:LI)(x:Int):x∈ddp l↔x∈l:=by
 unfold ddp;have key:∀(l m:LI),x∈l.foldl yQ m↔x∈m\/x∈l:=by
  intro l;induction l with
  | nil=>intro m;simp
  | cons y l ih =>
   intro m;rw[LQ,ih];unfold yQ;split
   ·rw[Le,Lb,Lk,or_assoc]
   rename_i h;have G:y∈m:=Lt.1 h;rw[Lk];constructor
   ·rintro(E|E)
    ·exact .inl E
    exact .inr (.inr E)
   rintro(E|E|E)
   ·exact .inl E
   ·exact .inl (E ▸ G)
   exact .inr E
 rw[key];simp
theorem Qbm {v x:Int}:x∈hop ed l v↔∃s∈l,(s,v,x)∈ed:=by
 unfold hop;rw[Mc];constructor
 ·rintro⟨s,E,hx⟩;obtain⟨⟨p,q,r⟩,G,rfl⟩:=Lx.1 hx;obtain⟨I,J⟩:=LJ.1 G;obtain⟨T,U⟩:=LJ.1 I;have e1:q=v:=OZ J;have e2:p=s:=OZ U;subst e1 e2;exact⟨p,E,T⟩
 rintro⟨s,E,G⟩;exact⟨s,E,Lx.2 ⟨(s,v,x),LJ.2 ⟨LJ.2 ⟨G,OY O⟩,OY O⟩,O⟩⟩
section
variable (ho:QS a)
include ho
theorem Qey {v:Int}:∀x∈hop a.ed l v,0<=x/\x<a.st:=λx hx=>by
 obtain⟨s,_,E⟩:=Qbm.1 hx;exact(ho.ed _ E).2.2.2
theorem Qf8:∀e∈a.ed,okR (ers a o) e=zd o un false e:=λe E=>by
 have G:=(ho.ed e E).2.2.1;unfold okR zd ers;by_cases h:e.2.1∈o
 ·simp[h]
 simp[h,G]
theorem QfM (hl:∀x∈l,0<=x/\x<a.st):rch a l (ers a o)=vcl a o un l false:=by
 unfold rch vcl;refine UH (Uk _ _) (Uk _ _) λx=>?_;show x∈cls _ a _↔x∈cls _ a _;rw[QbF ho (λy E=>hl y ((Qbz l y).1 E)),QbF ho hl];constructor
 ·rintro⟨y,E,h⟩;exact⟨y,(Qbz l y).1 E,h.imp λe G I=>by rw[<-Qf8 ho e G];exact I⟩
 rintro⟨y,E,h⟩;exact⟨y,(Qbz l y).2 E,h.imp λe G I=>by rw[Qf8 (un:=un) ho e G];exact I⟩
theorem Qmk (est:LI)(v:Int):pnx a (ers a o) est v=vnx a o un est v:=QfM ho (Qey ho)
theorem Ui (hl:∀x∈l,0<=x/\x<a.st){b:Bool}{y:Int}:y∈vcl a o un l b↔∃x∈l,LoR (zd o un b) a x y:=QbF ho hl
theorem QaG {v y:Int}:y∈vnx a o un est v↔∃x∈est,∃z,(x,v,z)∈a.ed/\LoR (zd o un false) a z y:=by
 unfold vnx;rw[Ui ho (Qey ho)];constructor
 ·rintro⟨z,G,h⟩;obtain⟨x,hx,E⟩:=Qbm.1 G;exact⟨x,hx,z,E,h⟩
 rintro⟨x,hx,z,E,h⟩;exact⟨z,Qbm.2 ⟨x,hx,E⟩,h⟩
end
theorem Qmx {e:Ed}:zd o un false e=true↔e.2.1∉o:=by unfold zd;simp
section
variable (ho:QS a)
include ho
def Lcl (a:Qz)(o:LI)(est:LI):Prop:=∀x v y,x∈est->(x,v,y)∈a.ed->v∉o->y∈est
theorem Qik (hl:∀x∈l,0<=x/\x<a.st):Lcl a o (vcl a o un l false):=λx v y hx E G=>by
 obtain⟨z,I,h⟩:=(Ui ho hl).1 hx;exact(Ui ho hl).2 ⟨z,I,h.snoc E (Qmx.2 G)⟩
end
inductive Pr (a:Qz) (o un:LI):Int->LI->Prop
 | z:Pr a o un 0 (vcl a o un [0] false)
 | lo {x v y:Int} {est:LI}:Pr a o un x est->(x,v,y)∈a.ed->v∉o->Pr a o un y est
 | hi {x v y:Int} {est:LI}:Pr a o un x est->(x,v,y)∈a.ed->v∈o->Pr a o un y (vnx a o un est v)
structure Qs1 (a:Qz)(o:LI)(x:Int)(est:LI):Prop where
 m:x∈est
 c:Lcl a o est
 s:Ss a.st.toNat est
 r:∀y∈est,LoR (λ_=>true) a 0 y
theorem Pr.ok (ho:QS a)(Y:0<a.st){x:Int}(h:Pr a o un x est):Qs1 a o x est:=by
 have I:∀x∈[(0:Int)],0<=x/\x<a.st:=λx hx=>by rw[Lb.1 hx];omega
 have tr:∀{x y:Int},LoR (λ_=>true) a 0 x->LoR (zd o un false) a x y->LoR (λ_=>true) a 0 y:=λ{x y} E G=>by
  induction G with
  | z=>exact E
  | st T _ _ ih=>exact ih (E.snoc T O)
 induction h with
 | z=>exact⟨(Ui ho I).2 ⟨0,od,.z⟩,Qik ho I,zR _ _ _ _ _,λy J=>by
   obtain⟨z,U,E⟩:=(Ui ho I).1 J;rw[Lb.1 U]at E;exact tr .z E⟩
 | lo _ E G ih=>exact⟨ih.c _ _ _ ih.m E G,ih.c,ih.s,ih.r⟩
 | hi _ E G ih=>exact⟨(QaG ho).2 ⟨_,ih.m,_,E,.z⟩,Qik ho (Qey ho),QdT _ _ _ _ _,λy J=>by
   obtain⟨x,hx,z,V,hl⟩:=(QaG ho).1 J;exact tr ((ih.r x hx).snoc V O) hl⟩
structure U5 (c:ZS)(hi:LI):Prop where
 d:D25 c
 x:c.ex=[]
 k:c.cs=[]
 i:Ys hi
 b:∀v∈hi,0<=v/\v<5
 r:∀x∈c.rq,∀e∈x.a.al,e∈hi
theorem D25.bare {c:ZS}(h:D25 c):D25 ⟨c.ev,c.co,c.rq,[],[]⟩:=⟨h.ev,h.c0,h.c3,h.r2,h.co,h.rq,h.nd,Lo _,nofun,Mx,Lo _,nofun⟩
section
variable {c:ZS}(h:U5 c hi)
include h
theorem U5.hck:hck c hi=0:=by
 have E:J9 (c.ev.length:Int) none hi=0:=QbG (λv G=>by rw[h.d.ev.1];exact h.b v G) h.i;unfold Lg.hck;rw[OU (not_not_intro h.d.ck),h.x,h.k,OU og,OU (not_not_intro E),OV];rw[Mh];intro x hx;refine OY (Ls (Qba (h.d.rq x hx).2.1.ok.ali h.i (h.r x hx)))
theorem U5.pl0:plE c=0/\∃z,xp (O8 c.co)=some z:=by
 have E:=UU h.d;have I:=h.d.c3;obtain⟨k1,z,e1⟩:=Ve (aa:=O8 c.co) (λa G=>E a (LG _ G)) (by rw[YD];omega);refine⟨?_,z,e1⟩;unfold plE KC;rw[OU (not_not_intro h.d.ck),OU (not_not_intro k1),e1]
theorem U5.celB:X6 c:=by
 have E:=UU h.d;have J:=h.d.c3;have T:=h.d.r2;obtain⟨_,z,e2⟩:=Ve (aa:=O8 c.co++O8 c.rq) E (by rw[Lc,YD,YD];omega);refine⟨h.x,h.k,λa G=>⟨(E a G).ok,(E a G).p⟩,λx hx=>(h.d.rq x hx).2.2,λx hx e I=>?_,h.pl0.2,z,e2⟩;rw[h.d.ev.1];exact(h.d.co x hx).2.2 e I
theorem U5.su0:suE c=0:=by
 obtain⟨_,_,_,_,_,_,E⟩:=Qgv h.d;exact E
omit h in
theorem Qcd:∀(l:List Jp) (n:Int),(∀x∈l,0<x.a.st)->l.foldl (λn x=>n*max 1 x.a.st) n=n*(((O8 l).map (·.st.toNat)).foldr (·*·) 1:Nat)
 | [],n,_=>by simp[O8]
 | x::l,n,hx=>by
  have G:=hx x Lh;rw[LQ,Qcd l _ λy E=>hx y (Lj _ E)];have e:max 1 x.a.st=(x.a.st.toNat:Int):=oa
  rw[e,Int.mul_assoc];show n*((x.a.st.toNat:Int)*(((O8 l).map (·.st.toNat)).foldr (·*·) 1:Nat))=n*((x.a.st.toNat*((O8 l).map (·.st.toNat)).foldr (·*·) 1:Nat):Int);rw[Int.natCast_mul]
theorem U5.pst:0<(Xe c).st/\(Xe c).st<=Ue c.co:=by
 have E:=h.celB.sy;refine⟨E.2.2.2.1,?_⟩;have I:=QaF E.2.1.nd E.2.1.v;have G:=Qcd c.co 1 λx hx=>(h.d.co x hx).2.1.p;rw[Int.one_mul]at G;rw[E.2.1.st];unfold Ue;rw[G]
 exact_mod_cast I
omit h in
theorem Qkh {α β:Type}(f:α->Option β):∀l:List α,(l.filterMap f).length<=l.length
 | []=>Lp _
 | x::l=>by
  rw[Mr];have:=Qkh f l;cases f x with
  | none=>simp only[oQ];omega
  | some y=>simp only[oQ];omega
omit h in
theorem Qgg (g:Nat->Int->Option Ed)(vs:LI):∀n,(grid g vs n).length<=n*vs.length
 | 0=>by simp[grid]
 | n+1=>by
  rw[Kq,Lc,OO];have:=Qgg g vs n;have:=Qkh (g n) vs;omega
theorem U5.evs5:∀v∈evs (O8 c.co),0<=v/\v<5:=λv E=>by
 have:=h.celB.evb E;rw[h.d.ev.1]at this;exact this
theorem U5.al:(Xe c).al=evs (O8 c.co):=h.celB.sy.2.1.al
theorem U5.pl9 (T:Ue c.co<=9):Pl9 (Xe c):=by
 have E:=h.celB.sy;have U:=h.pst;refine⟨h.celB.pok,oa,?_⟩;rw[E.2.1.ed];have V:=Qgg (syF (O8 c.co) (X8 c)) (evs (O8 c.co)) (X8 c).length;have G:(X8 c).length<=9:=by have:=E.2.1.st;omega
 have I:(evs (O8 c.co)).length<=5:=xI 5 _ (Qew (Qbw λa J=>(h.celB.ok a (LG _ J)).1)) h.evs5;have Y:(X8 c).length*(evs (O8 c.co)).length<=9*5:=Nc G I;omega
theorem U5.hok (E:Ue c.co<=9):HOk c hi:=⟨h.pl0.1,h.pl9 E⟩
theorem U5.prj (E:Ue c.co<=9):Kp (ZO (YF c) hi)=true/\QS (ZO (YF c) hi)/\0<(ZO (YF c) hi).st/\(ZO (YF c) hi).st<=2 ^ (YF c).st.toNat:=by
 have G:=h.pst;exact Qmj h.celB.pok (o:=hi) (show(Xe c).st≠0 by omega) (show(Xe c).st<=12 by omega)
theorem U5.rkp:∀x∈c.rq,∀e∈x.a.al,e∈kpt (YF c) hi:=λx hx e E=>by
 refine LJ.2 ⟨?_,OY (h.r x hx e E)⟩;show e∈(Xe c).al;rw[h.al];obtain⟨y,G,I⟩:=h.celB.eco x hx e E;exact(Jn (λa J=>(h.celB.ok a (LG _ J)).1) e).2 ⟨y.a,Lx.2 ⟨y,G,O⟩,I⟩
theorem U5.kp5:∀e∈kpt (YF c) hi,0<=e/\e<5:=λe E=>h.b e (OZ (LJ.1 E).2)
theorem U5.top (V:Ue c.co<=9):Z2 (ZC c hi)=0:=by
 obtain⟨p1,p2,p3,p4⟩:=h.prj V;have hf:c.ev.length=5:=h.d.ev.1;have hs:=h.d.r2;have hg:(ZO (YF c) hi).st<=4096:=p2.st1;generalize ZO (YF c) hi=A at p1 p2 p3 hg;obtain⟨x0,l0,I⟩:∃x l,c.co=x::l:=by
  cases e:c.co with
  | nil=>exact OX (by rw[e];rfl) h.d.c0
  | cons x l=>exact⟨x,l,O⟩
 have hT:ZC c hi=⟨c.ev,[⟨x0.nm,ZO (YF c) hi⟩],c.rq,[],[]⟩:=by rw[Qnf,I];rfl
 have hh:=h.d.co x0 (by rw[I];exact Lh);have Y:=h.d.nd;rw[I,LS,Mq]at Y;obtain⟨n1,n2⟩:=List.nodup_cons.1 Y;have n3:(x0.nm::c.rq.map (·.nm)).Nodup:=List.nodup_cons.2 ⟨λhm=>n1 (MS _ hm),(Mf.1 n2).2.1⟩;obtain⟨q1,q2,q3,q4⟩:=h.prj V;have G:∀e∈(ZO (YF c) hi).al,0<=e/\e<5:=h.kp5;have ha:∀x∈c.rq,∀e∈x.a.al,e∈(ZO (YF c) hi).al:=h.rkp;rw[hT];generalize ZO (YF c) hi=B at q1 q2 q3 G ha;have hv:B.st<=4096:=q2.st1;have hj:∀e∈B.al,e∈VJ c.ev.length:=λe J=>by
  have:=G e J;rw[hf,Qfp];exact⟨this.1,this.2⟩
 have hk:Yw c.ev.length (VJ c.ev.length) [] ⟨x0.nm,B⟩=0:=by
  unfold Yw;rw[OU (by rw[hh.1];decide),OU od,OU (not_not_intro ((Zz B).2 q2)),OU (by rw[q1];decide),OU (by show ¬B.st=0;omega),OU,OU (not_not_intro (Qba q2.ali (Qfq _) hj))];intro hn;obtain⟨e,E,T⟩:=Nk.1 hn;have U:=G e E;have:=OZ T;omega
 have ho:Yx c.ev.length (VJ c.ev.length) [] [] [⟨x0.nm,B⟩]=(0,[x0.nm],mrg (· || ·) [] B.al):=by
  rw[Yx,OU (not_not_intro hk)];rfl
 have hu:∀e,e∈mrg (· || ·) [] B.al↔e∈B.al:=λe=>by
  rw[UD List.Pairwise.nil q2.ali];constructor
  ·rintro⟨E|E,_⟩
   ·cases E
   exact E
  intro E;exact⟨.inr E,by simp[E]⟩
 have hp:=QbH (nev:=c.ev.length) (u:=mrg (· || ·) [] B.al) (Qa9 _ _ _ _ (Lp _) List.Pairwise.nil q2.ali) c.rq [x0.nm] (λx hx=>by
  obtain⟨E,T,_⟩:=h.d.rq x hx;refine⟨E,T,λe J=>?_⟩;have U:=ha x hx e J;have h4:=G e U;exact⟨oa,(hu e).2 U⟩) n3
 unfold Z2;rw[OU (not_not_intro h.d.ev.2),OU od,OU (by simp only[oL];omega),ho];simp only[];rw[OU (not_not_intro rfl),OU (not_not_intro hp)];have hq:Jf B.st=false:=by unfold Jf;rw[O0 oa,O0 oa];rfl
 have hr:¬(szs [⟨x0.nm,B⟩]).any Jf=true:=by
  show ¬(Jf B.st || false)=true;rw[hq];decide
 unfold Y7;rw[OU (show ¬8<(szs [⟨x0.nm,B⟩]).length by simp[szs]),OU hr,OU od];rfl
omit h in
theorem Qb2 (E:QS a):∃z,xp [a]=some z:=by
 obtain⟨Q,G,_⟩:=QcE E;exact⟨_,G⟩
omit h in
theorem Qk2 {l:List Qz}(E:∀a∈l,QS a)(hl:l.length<=12):KT l=0:=by
 unfold KT;rw[OU oa];exact(UW _).2 E
theorem U5.okT (G:Ue c.co<=9):∀a∈O8 (ZC c hi).co++O8 (ZC c hi).rq,QS a/\0<a.st:=λa E=>by
 obtain⟨_,p2,p3,_⟩:=h.prj G;rcases Le.1 E with E|E
 ·rw[Lb.1 (show a∈[ZO (YF c) hi] from E)];exact⟨p2,p3⟩
 exact h.celB.ok a (MS _ E)
theorem U5.suT (E:Ue c.co<=9):suE (ZC c hi)=match xp (O8 (ZC c hi).co++O8 (ZC c hi).rq) with|none=>3|some _=>0:=by
 have I:=h.okT E;have U:=h.d.r2;obtain⟨z,J⟩:=Qb2 (h.prj E).2.1;have T:xp (O8 (ZC c hi).co)=some z:=J;show YQ (ZC c hi)=_;unfold YQ;have k1:=Qk2 (l:=O8 (ZC c hi).co) (λa G=>(I a (LG _ G)).1) (show 1<=12 by decide);have k2:=Qk2 (l:=O8 (ZC c hi).co++O8 (ZC c hi).rq) (λa G=>(I a G).1) (by rw[Lc,YD,YD];show 1+c.rq.length<=12;omega);rw[OU (not_not_intro (h.top E)),OU (not_not_intro k1),T];simp only[];rw[OU (not_not_intro k2)];cases xp (O8 (ZC c hi).co++O8 (ZC c hi).rq) <;> rfl
theorem U5.celT (G:Ue c.co<=9)(I:suE (ZC c hi)=0):X6 (ZC c hi):=by
 refine⟨O,O,h.okT G,λx hx e E=>⟨_,Lb.2 O,h.rkp x hx e E⟩,λx hx e E=>?_,Qb2 (h.prj G).2.1,?_⟩
 ·rw[Lb.1 hx]at E;have:=h.kp5 e E;show e<(c.ev.length:Int);rw[h.d.ev.1];exact this.2
 rw[h.suT G]at I;cases e:xp (O8 (ZC c hi).co++O8 (ZC c hi).rq) with
 | none=>rw[e]at I;cases I
 | some z=>exact⟨z,O⟩
omit h in
theorem jH (E:∀a∈aa,QS a)(I:(aa.map (·.st.toNat)).foldr (·*·) 1<=4096):∃z,xp aa=some z :=
 Qft (P:=Vt aa) I (λl J T=>QaF J T) (λU=>⟨od,λi hi G=>by
  have Y:=U _ (Lm G);have h2:=(E _ (Lm G)).st0;simp only[Oq];omega⟩) λt ht v _ u V=>Xs E ht V
omit h in
theorem Qmi (l:List Jp)(E:∀x∈l,x.a.st<=3):((O8 l).map (·.st.toNat)).foldr (·*·) 1<=3 ^ l.length:=by
 induction l with
 | nil=>exact Lp _
 | cons x l ih =>
  have I:=E x Lh;show x.a.st.toNat*_<=_;rw[LP,OH,Nat.mul_comm];exact Nc (ih λy G=>E y (Lj _ G)) oa
theorem U5.spT (J:Ue c.co<=6):((O8 (ZC c hi).co++O8 (ZC c hi).rq).map (·.st.toNat)).foldr (·*·) 1<=576:=by
 have T:=h.pst;have U:=(h.prj oa).2.2.2;have V:(2:Int) ^ (YF c).st.toNat<=2 ^ 6:=by
  have:2 ^ (YF c).st.toNat<=2 ^ 6:=Nn og (by show(Xe c).st.toNat<=6;omega)
  exact_mod_cast this
 have E:(ZO (YF c) hi).st.toNat<=64:=oa
 have G:=Qmi c.rq λx hx=>(h.d.rq x hx).2.1.s;have I:3 ^ c.rq.length<=3 ^ 2:=Nn og h.d.r2;show(ZO (YF c) hi).st.toNat*((O8 c.rq).map (·.st.toNat)).foldr (·*·) 1<=576;exact Lz (Nc E (Lz G I)) og
theorem U5.suX (E:Ue c.co<=9):suE (ZC c hi)=0\/suE (ZC c hi)=3/\6<Ue c.co:=by
 rw[h.suT E];cases e:xp (O8 (ZC c hi).co++O8 (ZC c hi).rq) with
 | some z=>exact .inl O
 | none =>
  refine .inr ⟨O,Decidable.byContradiction λJ=>?_⟩;obtain⟨z,G⟩:=jH (aa:=O8 (ZC c hi).co++O8 (ZC c hi).rq) (λa I=>(h.okT E a I).1) (Lz (h.spT oa) og);rw[G]at e;cases e
omit h in
theorem Ql0 {B:Qz}(E:QS B)(fb ul:LI):(Uj B fb ul).st<=B.st:=by
 have I:=E.st0;unfold Uj QaI;split
 ·exact I
 rename_i hc;have J:0<B.st:=by
  have:B.st≠0:=λe=>hc (.inl e);omega
 have G:=QkV (Kg E (JM B fb ul)) J;rw[G.2.1];show((QeR (rstr B (JM B fb ul))).ord.length:Int)<=B.st;have:=G.2.2;have e:(rstr B (JM B fb ul)).st=B.st:=rfl;omega
theorem U5.htX (G:Ue c.co<=9):UJ c hi=0\/UJ c hi=3/\6<Ue c.co:=by
 unfold UJ;rcases h.suX G with e|⟨e,e2⟩
 ·rw[OU (not_not_intro e)];have hT:=h.celT G e;have J:=K3 e;have I:∀a∈[YF c,X2 (ZC c hi)],QS a:=λa E=>by
   rcases Lk.1 E with rfl|E
   ·exact h.celB.pok
   rw[Lb.1 E];exact J
  unfold KC;rw[OU (not_not_intro (Qk2 I (by show 2<=12;decide)))];cases e3:xp [YF c,X2 (ZC c hi)]with
  | some z=>exact .inl O
  | none =>
   refine .inr ⟨O,Decidable.byContradiction λU=>?_⟩;have V:=h.pst;have Y:(X2 (ZC c hi)).st<=(spc (ZC c hi)).a.st:=Ql0 hT.sok _ _;have h3:((Jz (ZC c hi)).length:Nat)<=576:=Lz (QaF hT.sy.1.nd hT.sy.1.v) (h.spT oa);have h4:=hT.sy.1.st;obtain⟨z,T⟩:=jH (aa:=[YF c,X2 (ZC c hi)]) I (by
    show(Xe c).st.toNat*((X2 (ZC c hi)).st.toNat*1)<=4096;exact Lz (Nc (show(Xe c).st.toNat<=6 by omega) (show(X2 (ZC c hi)).st.toNat*1<=576 by omega)) og)
   rw[T]at e3;cases e3
 rw[OV oa];exact .inr ⟨e,e2⟩
theorem U5.hgE:hgE c hi=UJ c hi:=by unfold Lg.hgE;rw[OU (not_not_intro h.hck)]
end
theorem Ya.bare {H:xC}(h:Ya L H c):Ya L H { c with vx:=ZX,vk:=ZX,ex:=[],cs:=[] }:=
 ⟨h.ev,h.co,h.rq,⟨⟨O,Lo _,.inl ⟨O,O⟩⟩,(λq E=>by cases E),λq E=>by cases E⟩,⟨⟨rfl,Lo _,.inl ⟨rfl,rfl⟩⟩,(λq E=>by cases E),λq E=>by cases E⟩⟩
theorem QbM {v:O3}{es:LI}(h:Ya [] ↑w c)(hE:Qu [] ↑w v es)(hl:c.co.length<=3)(V:∀x∈c.C.co,x.a.st<=3):
  QU sV 20 [c.val,v] w λr w'=>r=.bool (decide (3∈es) && decide (6<Ue c.C.co))/\sW w w':=by
 have hg:=hE.le;refine Zm func20 ?_;refine Qc<|Zf c.cells λb2 Y G hh ha=>Qb ?_
 replace hE:=hE.I G;refine Qd<|Qc<|Qb<|QX (α:=Nat) [(4,19)] (λz=>[(5,sS z)]) (λz w'=>w'=Y/\z<=es.length/\(3∈es↔3∈es.drop z)) (λz=>es.length - z) 0 La ⟨O,Lo _,od⟩ ?_;rintro k g w2 ⟨rfl,hk,I⟩;refine Qd<|Ql<|Qa<|QG hE O<|ZW O O<|xe<|Zp rfl (λh9=>?_) (λh9=>?_)
 ·refine Qt ?_;rw[Lu oa]at I;refine Qc<|Qb<|Qj ⟨[.bool false],La,?_,G⟩;have J:¬(3:Int)∈es:=λh=>by have:=I.1 h;cases this
  rw[O0 J];rfl
 have E:k<es.length:=oa
 have hd:=QY E;refine Qf<|Qd<|Qn<|Ql<|Qa<|xii (i:=k) hE O O E λhj he=>x (Qq he O)<|x (Zc O O)<|xe<|Zg rfl (λT=>?_) (λT=>?_)
 ·have U:es[k]'E=3:=T;refine Qc<|Q3 ha O O<|Qw<|(qM (h.I G) hl V).S ?_;rintro r3 w3 ⟨rfl,hf⟩;refine x (Z8 O O)<|Qb<|Qj ⟨[_],La,?_,G.D hf⟩;have J:(3:Int)∈es:=by rw[<-U];exact Lm E
  rw[OY J];rfl
 have U:¬es[k]'E=3:=T;refine Qf<|Qr<|Qa<|QB O O<|Qb<|⟨k+1,oa,La,O,oa,?_⟩;rw[I,hd,Lk];exact⟨λh=>h.resolve_left λe=>U e.symm,.inr⟩
theorem PlA.I {L:LN}{w w':O2}{l:PlV}(h:PlA L ↑w l)(E:sW w w'):PlA L ↑w' l:=⟨h.n,h.b,h.x.I E,h.f0,h.f1,h.f2,h.bd⟩
theorem Qho {l:PwV}{rs:List X4V}{hb:Nat}(hE:PlA [] ↑w (l.pl rs))(hX:hb<256):
  QU sV 12 [.agg (Z6 l++[Value.int .u8 (hb:Int)]).toArray] w λr w'=>sW w w'/\∃(c:CL) (vh:O3) (hi:LI),r=.tuple #[c.val,vh]/\(∀L:LN,(∀b∈L,b<↑w)->Ya L ↑w' c)/\Qh 3 ↑w w' vh hi/\U5 c.C hi:=by
 have hw:(Z6 l).length=152:=QaY (l:=l.pl rs) hE.n;have hY:(Z6 l++[Value.int .u8 (hb:Int)])[152]?=some (.int .u8 (hb:Int)):=by rw[Mu oa,hw];rfl
 refine Zm func12 ?_;refine Qc<|Zf (Z6 l++[Value.int .u8 (hb:Int)]) λb1 w1 hF g9 hZ=>QT K9 λb2 w2 hG ka hH=>Qb ?_;have hz:=hF.D hG;have kb:=hF.size;have ga:=hz.size;have hI:=hZ.I hG;refine Qc<|Q9 O<|x (ZR (us:=Z6 l) hI O hw (by rw[NK,<-hw];exact List.take_left))<|Qw<|(Qhp (l:=l.pl rs) (hE.I hz)).S ?_;rintro r3 w3 ⟨ho,_,⟨c0,rfl,rfl,hJ⟩,gb⟩;have gc:=hJ [] od;refine QT K9 λb4 w4 ge h6 gg=>Q5 c0.cells gg gc.ones λw5 gh gi=>xe ?_;refine Qc<|Q9 O<|Qo<|Qv (j:=3) (u:=ZX) gi O O od rfl λw6 gj gk=>Q9 rfl<|Qo<|Qv (j:=4) (u:=ZX) gk rfl rfl od rfl λV gl gm=>xe ?_;obtain⟨c,hc⟩:∃c:CL,c={ c0 with vx:=ZX,vk:=ZX,ex:=[],cs:=[] }:=⟨_,O⟩
 have hf:sW w3 V:=((ge.Q gh h6).Q gj h6).Q gl h6;have hK:=(hz.D ho).D hf;have kc:=ho.size;have ke:=hf.size;have gn:=(hH.I ho).I hf;have gq:=(hI.I ho).I hf;have gr:=hH.lt;have hM:∀L:LN,(∀b∈L,b<↑w2)->Ya L ↑V c:=λL hL=>by rw[hc];exact((hJ L hL).I hf).bare
 have hN:c.cells=[c0.ve,c0.vc,c0.vr,ZX,ZX]:=by rw[hc]
 have gs:QK ↑V b4 46 c.cells:=by rw[hN];exact gm
 have h7:c.C=⟨c0.C.ev,c0.C.co,c0.C.rq,[],[]⟩:=by rw[hc];rfl
 have hD:D25 c.C:=by rw[h7];exact gb.bare
 have hO:c.C.ex=[]/\c.C.cs=[]:=by rw[h7];exact⟨O,O⟩
 clear h7 hN hc;have kf:c.ev.length=5:=hD.ev.1;have hp:=hM [] od;have kg:c.rq.length<=2:=by have G:=hD.r2;rw[show c.C.rq.length=c.rq.length from Ln ..]at G;exact G
 refine Qc<|Qb<|Qd<|Qc<|Qb<|QX (α:=Nat×O3×LI) [(5,8),(14,54)] (λz=>[(5,z.2.1),(6,sS z.1)]) (λz w'=>z.1<=5/\sW V w'/\Qh 3 ↑V w' z.2.1 z.2.2/\Ys z.2.2/\(∀v∈z.2.2,0<=v/\v<(z.1:Int))/\∀q∈c.rq,∀e∈q.p.a.al,e<(z.1:Int)->e∈z.2.2) (λz=>5 - z.1) (0,ZX,[]) ov
  ⟨Lo _,O6.Y _ _,QL _ _ _ _,List.Pairwise.nil,nofun,λq T e J hr=>by
   have:=((hD.rq q.it (LL T)).2.1.ok.al e J).1;have h2:e<0:=hr;omega⟩ ?_
 rintro⟨k,vo,m⟩ g w8 ⟨hk,I,gt,hs,hg,h8⟩;have hh:Qh 3 ↑V w8 vo m:=gt;have gu:k<=5:=hk;have kh:=I.size;have ki:m.length<=5:=Lz (xI k m (Qew hs) hg) gu;have hu:=gs.I I;refine Qd<|Ql<|Qs O hu O O<|QG (hp.ev.arr.I I) O<|ZW O O<|xe<|Zp rfl (λh9=>?_) (λh9=>?_)
 ·refine Qt ?_;have gv:k=5:=by have gx:¬(k:Int)<(c.ev.length:Int):=h9;omega
  subst gv;refine Qc<|Q3 hu O O<|Qa<|Q5 c.cells (gn.I I) hp.ones λw9 hA gy=>Qb ?_;have gz:sW w w9:=(hK.D I).Q hA oa;refine Qj ⟨[sT c.cells,vo],⟨JN gy,O,Z⟩,gz,c,vo,m,O,λL hL=>?_,?_,hD,hO.1,hO.2,hs,hg,λx hx e J=>?_⟩
  ·have G:=(hM (b2::L) λb hb=>by
    rcases Lk.1 hb with rfl|hb
    ·exact gr
    exact LU (hL b hb) ga).I I
   exact(G.st (hA.S λb hb=>by rw[Lb.1 hb];exact Lh)).up λb hb=>.inl (Lj _ hb)
  ·have hP:=Qg hh hA (λb hb hm=>by have:=(Qi hh b hb).1;rw[Lb.1 hm]at this;omega);exact⟨hP.1,hP.2.imp id λ⟨g,cap,cur,e1,e2,r⟩=>⟨g,cap,cur,e1,Lz hK.size e2,r⟩⟩
  obtain⟨q,T,rfl⟩:=Lx.1 hx;obtain⟨y,hy,h4⟩:=(hD.rq q.it hx).2.2 e J;exact h8 q T e J ((hD.co y hy).2.2 e h4)
 have hr:k<5:=by have gx:(k:Int)<(c.ev.length:Int):=h9;omega
 have g0:hb / 2 ^ k<256:=Nat.lt_of_le_of_lt (Nat.div_le_self _ _) hX;refine Qf<|Qd<|Qn<|QW (α:=Bool) [(7,7),(21,30)] (λz=>[(7,.bool z)]) (λz w'=>w'=w8) oh ?_ ?_
 ·refine Qr<|Qa<|xb (YB O O) (λhQ=>?_) (λhQ=>OX (show(k:Int)<8 by omega) hQ);refine Qa<|Qs O (gq.I I) O hY<|Qa<|x (Qcr (n:=k) O O (by show k<=8;omega))<|x (qk (a:=hb / 2 ^ k) (b:=1) (OW (Value.int .u8) (QaM hb k)) O g0 og)<|x (Zc O O)<|x (VV O) <|
   Qb<|⟨_,⟨rfl,Z⟩,O⟩
 rintro z0 g g2 rfl;refine Qd<|Qc<|Qb ?_;have hR:=hp.rq.arr.I I;refine QX (α:=Bool×Nat) [(7,8),(31,49)] (λz=>[(7,.bool z.1),(8,sS z.2)]) (λz w'=>sW g2 w'/\z.2<=c.rq.length/\∀j (hj:j<c.rq.length),j<z.2->(k:Int)∈(c.rq[j]'hj).p.a.al->z.1=true) (λz=>c.rq.length - z.2) (z0,0) ov ⟨O6.Y _ _,Lo _,λj hj h0=>OX h0 (Nz j)⟩ ?_;rintro⟨q0,j⟩ g kj ⟨E,hj,hS⟩;have hT:=I.D E;refine Qd<|Ql<|Qs O (hu.I E) O O<|QG (hR.I E) O<|ZW O O<|xe<|Zp rfl (λhU=>?_) (λhU=>?_)
 ·refine Qt<|Ql<|xe<|Q6 O (λhV=>?_) (λhV=>?_)
  rotate_left
  ·refine Qf<|Qr<|Qa<|QB O O<|Qb<|⟨(k+1,vo,m),by show 5 - (k+1)<5 - k;omega,ov,hr,hT,Qm hh E,hs,λv U=>?_,λq T e J hB=>?_⟩
   ·have G:=hg v U;have h2:v<(k:Int):=G.2;exact⟨G.1,by show v<((k+1:Nat):Int);omega⟩
   have h2:e<((k+1:Nat):Int):=hB;by_cases e1:e=(k:Int)
   ·obtain⟨i,hi,e2⟩:=LR T;have h3:=hS i hi (by show i<j;omega) (by rw[e2,<-e1];exact J);have h4:q0=true:=h3;have h5:q0=false:=hV;rw[h4]at h5;cases h5
   exact h8 q T e J (by show e<(k:Int);omega)
  refine Qr<|Qa<|Qa<|Qo<|Q8 [[sS k]] λkk kn hC ko g3=>Qo<|Q2 (news:=[sS k]) (L:=[]) (Qm (Qm hh E) hC) O O O (g3.at od) om oa (oq E.size hC.size) λg4 kq g5 g6 kr =>
   Qb<|Qr<|Qa<|QB O O<|Qb<|⟨(k+1,g4,m++[(k:Int)]),by show 5 - (k+1)<5 - k;omega,ov,hr,(hT.D hC).O g6 λb hb=>.inr (Qi hh b hb).1,Qh.snoc g5,?_,λv U=>?_,λq T e J hB=>?_⟩
  ·refine Mk.2 ⟨hs,M7 _ _,λa ha b hb=>?_⟩;rw[Lb.1 hb];exact(hg a ha).2
  ·show 0<=v/\v<((k+1:Nat):Int);rcases Le.1 U with U|U
   ·have G:=hg v U;have h2:v<(k:Int):=G.2;exact⟨G.1,oa⟩
   rw[Lb.1 U];omega
  have h2:e<((k+1:Nat):Int):=hB;by_cases e1:e=(k:Int)
  ·rw[e1];exact MS _ (Lb.2 O)
  exact LG _ (h8 q T e J (by show e<(k:Int);omega))
 have Y:j<c.rq.length:=by have kt:(j:Int)<(c.rq.length:Int):=hU;omega
 have g7:=Lm Y;refine Qf<|Qd<|Qn<|Qr<|xB VX (λhn=>?_) (λhn=>?_)
 ·refine Qa<|ZA<|ZA<|ZA<|QC O<|Qb<|Qr<|Qa<|QB O O<|Qb<|⟨(q0,j+1),by show c.rq.length - (j+1)<c.rq.length - j;omega,⟨OW Value.bool hn.symm,O,Z⟩,E,Y,λi hi hW hm=>hn⟩
 refine Qa<|Qs O (hu.I E) O O<|Qa<|O9 (g:=Zn) (i:=j) (λ_=>O) (hR.I E) O O Y λku g8=>x (ZF O)<|x (ZF O) <|
  x (Qq (g8.fld 1 _ O) O)<|Qa<|Qw<|(QcV (((hp.rq.each (c.rq[j]'Y) g7).al.I I).I E) (k:Int)).S ?_
 rintro kv kw ⟨rfl,rfl⟩;refine QC rfl<|Qb<|Qr<|Qa<|QB O O<|Qb<|⟨(decide ((k:Int)∈(c.rq[j]'Y).p.a.al),j+1),by show c.rq.length - (j+1)<c.rq.length - j;omega,ov,E,Y,λi hi hW hm=>?_⟩;have kx:i<j+1:=hW;by_cases e:i=j
 ·subst e;exact OY hm
 have h4:q0=true:=hS i hi (by show i<j;omega) hm;rw[h4]at hn;cases hn
theorem Qo1 {l:PwV}{hb:Int}(h:l.ns.length=147):(Z6 l++[Value.int .u8 hb]).length=153:=by rw[Lc,show(Z6 l).length=152 from QaY (l:=l.pl []) h];rfl
theorem Qmp {l:PwV}{hb:Int}(h:l.ns.length=147):((Z6 l++[Value.int .u8 hb]).drop 0).take 152=Z6 l:=by rw[NK,<-show(Z6 l).length=152 from QaY (l:=l.pl []) h];exact List.take_left
theorem PwA.I {w w':O2}{l:PwV}(h:PwA w l)(E:sW w w'):PwA w' l:=⟨h.n,h.b,h.f0,h.f1,h.f2,h.bd,λG=>let⟨rs,I,J⟩:=h.r G;⟨rs,I,J.I E⟩⟩
theorem CL.co3 (h:U5 c.C hi):c.co.length<=3/\(∀x∈c.C.co,x.a.st<=3)/\c.ev.length=5:=by
 have E:=h.d.c3;rw[show c.C.co.length=c.co.length from Ln ..]at E;exact⟨E,λx hx=>(h.d.co x hx).2.1.s,h.d.ev.1⟩
theorem U5.hl {c:ZS}(h:U5 c hi):hi.length<=5:=xI 5 hi (Qew h.i) h.b
theorem QsL {H:xC}{b:Nat}{m:Int}(h:QK H b T [sS m]):Qu [] H (sL b 1 1) [m]:=h.arr od (n:=1) (cap:=1) (sz:=1) rfl oa (Lp _)
theorem Qsq {E n:Int}(h:E=0\/E=3/\6<n)(G:E∈l)(I:(decide (3∈l) && decide (6<n))=false):E=0:=by
 rcases h with h|⟨h,J⟩
 ·exact h
 rw[h]at G;rw[OY G,OY J]at I;cases I
end Go.Lg
