/- Merged out of 58 texts. -/
import Derived.Test.YtpfnhheoeaiomaaGreatDoorPfd
import Derived.ChangeSame
import Derived.Carry
import Derived.OpenShut
import Derived.RowKit
import Derived.ChangeSlices
import Derived.WideShapes
import Derived.ProofKit
import Derived.ChangeArms
import Derived.Lib.LaidTab
import Derived.Stop.LaidErr
import Derived.MakeChecks
set_option maxHeartbeats 40000000
set_option maxRecDepth 100000
set_option linter.all false
open Go Go.Lg
open Go.Value renaming int->oD
open Go.IntKind renaming i64->oE
open _root_.List renaming mem_singleton->oH,replicate->oI,not_mem_nil->oJ,length_singleton->oL,range->oM,mem_cons->oN,length_append->oO,range'->oP,getD->oQ,map_cons->oU,getElem?_eq_getElem->oX,length->oY,getElem?_append_left->Oa,mem_range'_1->Od,mem_filter->Of,all_cons->Oh,mem_map->Oj,size_toArray->Ok,append_assoc->Om,getElem_cons_zero->On,nil_append->Ox,length_map->OB,filter_cons->OF,map_nil->OI,length_drop->OK,length_take->OL,take_length->ON
open _root_.Bool renaming and_eq_true->oK,true_and->OP
open _root_.Decidable renaming byContradiction->oW
open _root_.Nat renaming zero_add->Ob,add_mul->Oz,add_zero->OC,le_refl->OG,lt_or_ge->OR,sub_self->OT,succ_mul->OU
open _root_.Int renaming toNat_natCast->OD
open Go renaming World->O6,Value->O7,Operand->O8,Program->O9
open Go.Proofs Go.Proofs.Tryz
open Go.Proofs.Tryz renaming prog->sV
variable {w w' W':O6}{L L' X ds ns:LN}{n i t sz base j T N G m g id B kt ty et gp off U:Nat}{a A:Qz}{cs us cap capt:LV}{α β:Type}{y:O8}{ve va vm z vt vs vk vx v' vb vr vo vu vh vz:O7}{aa:List Qz}{f:Fr}{P:O9}{lf:Lf}{o un ul u hi r q rs out:LI}{s kd:Int}{c:ZO}{fn:Func}{es ed:List Ed}{K:xE}{d:xJ}{pS:String}{af:xH}{gd:xz}{k':IntKind}{at_:Array Nat}{ops:xI}{pm:Ed→Bool}{qx:List XV}{ks:List KV}
namespace Go.Lg
structure D25 (c:ZO):Prop where
 ev:c.ev.length=5/\XZ c.ev=0
 c0:c.co.length≠0
 c3:c.co.length<=3
 r2:c.rq.length<=2
 co:∀x∈c.co,Xq x.nm=true/\GdA x.a/\∀e∈x.a.al,e<5
 rq:∀x∈c.rq,Xq x.nm=true/\GdA x.a/\∀e∈x.a.al,∃y∈c.co,e∈y.a.al
 nd:(c.co.map (·.nm)++c.rq.map (·.nm)).Nodup
 x2:c.ex.length<=2
 ex:∀x∈c.ex,Xq x.nm=true/\x.ls≠[]/\XM (szs c.co) none x.ls=0
 xn:(c.ex.map (·.nm)).Nodup
 k1:c.cs.length<=1
 cs:∀x∈c.cs,Xq x.nm=true/\XN (szs c.co) x=0
theorem Qf2 (n:Nat)(x:Int):x∈V3 n↔0<=x/\x<(n:Int):=Kx n x
theorem Qf3 (n:Nat):YD (V3 n):=Qkw n
theorem QbM {a b:LI}(ia:YD a)(ib:YD b)(h:∀e∈a,e∈b):(mns a b).length=0:=by
 refine Nat.eq_zero_of_not_pos λG=>?_;obtain⟨x,hx⟩:=M6 G;have:=(UU ia ib x).1 hx;by_cases h1:x∈a
 ·simp[h1,h x h1]at this
 simp[h1]at this
theorem Qho {nev:Nat}{amg:LI}{seen:List ByteArray}{x:Jz}(I:Xq x.nm=true)(J:x.nm∉seen)(G:GdA x.a)(O:∀e∈x.a.al,e<(nev:Int))(hi:YD amg)(U:∀e∈x.a.al,e∈amg):YA nev amg seen x=0:=by
 have V:=G.p;unfold YA;rw[OY (by rw[I];decide),OY J,OY (by simpa using(ZA _).2 G.ok),OY (by rw[G.can];decide),OY oa,OY,OY (ox (QbM G.ok.ali hi U))];intro h;obtain⟨e,h1,h2⟩:=MH.1 h;have:=O e h1;have:=O3 h2;omega
theorem Qhp {nev:Nat}{al:LI}(ha:YD al):∀(l:List Jz) (s:List ByteArray) (u:LI),YD u->(∀x∈l,Xq x.nm=true/\GdA x.a/\∀e∈x.a.al,e<(nev:Int)/\e∈al)->(s++l.map (·.nm)).Nodup ->
  ∃J,YC nev al s u l=(0,s++l.map (·.nm),J)/\YD J/\∀e,e∈J↔e∈u\/∃y∈l,e∈y.a.al
 | [],s,u,U,_,_=>⟨u,by simp[YC],U,oe⟩
 | x::l,s,u,U,hx,V=>by
  obtain⟨h1,h2,h3⟩:=hx x Lj;have hf:x.nm∉s:=by
   intro hm;rw[L2,Ml]at V;exact V.2.2 _ hm _ Lj Z
  obtain⟨J,k1,k2,k3⟩:=Qhp ha l (s++[x.nm]) (mrg (· || ·) u x.a.al) (QbL _ _ _ _ (Lr _) U h2.ok.ali) (λy G=>hx y (Lh _ G)) (ox V);refine⟨J,?_,k2,λe=>?_⟩
  ·rw[YC,OY (by simpa using(Qho h1 hf h2 (λe Y=>(h3 e Y).1) ha (λe Y=>(h3 e Y).2))),k1];simp
  rw[k3,UU U h2.ok.ali];constructor
  ·rintro(⟨I|I,_⟩|⟨y,G,O⟩)
   ·exact .inl I
   ·exact .inr ⟨x,Lj,I⟩
   exact .inr ⟨y,Lh _ G,O⟩
  rintro(I|⟨y,G,O⟩)
  ·exact .inl ⟨.inl I,by simp[I]⟩
  rcases Ll.1 G with rfl|G
  ·exact .inl ⟨.inr O,by simp[O]⟩
  exact .inr ⟨y,G,O⟩
theorem Qcl {nev:Nat}{u:LI}(J:YD u):∀(l:List Jz) (s:List ByteArray),(∀x∈l,Xq x.nm=true/\GdA x.a/\∀e∈x.a.al,e<(nev:Int)/\e∈u)->(s++l.map (·.nm)).Nodup->KE nev u s l=0
 | [],s,_,_=>rfl
 | x::l,s,hx,G=>by
  obtain⟨h1,h2,O⟩:=hx x Lj;have U:x.nm∉s:=by
   intro V;rw[L2,Ml]at G;exact G.2.2 _ V _ Lj Z
  rw[KE,OY (by simpa using(Qho h1 U h2 (λe I=>(O e I).1) J (λe I=>(O e I).2)))];exact Qcl J l (s++[x.nm]) (λy Y=>hx y (Lh _ Y)) (ox G)
theorem QaZ {sz:LI}:∀(l:List Exc) (s:List ByteArray),(∀x∈l,Xq x.nm=true/\x.ls≠[]/\XM sz none x.ls=0)->(s++l.map (·.nm)).Nodup->YU sz s l=0
 | [],s,_,_=>rfl
 | x::l,s,hx,G=>by
  obtain⟨h1,h2,I⟩:=hx x Lj;have J:x.nm∉s:=by
   intro O;rw[L2,Ml]at G;exact G.2.2 _ O _ Lj Z
  have U:VA s x.nm=0:=by unfold VA;rw[OY (by rw[h1];decide),OY J]
  have hl:x.ls.length≠0:=λh=>h2 (Lu h);have V:J5 sz x.ls=0:=by unfold J5;rw[OY hl];exact I
  rw[YU,OY (ox U),OY (ox V)];exact QaZ l (s++[x.nm]) (λy Y=>hx y (Lh _ Y)) (ox G)
theorem Qkt:∀{k:Nat},k<5->Xq (nm1 97 k)=true
 | 0,_=>oh
 | 1,_=>oh
 | 2,_=>oh
 | 3,_=>oh
 | 4,_=>oh
theorem U8 {seen:List ByteArray}{k:Nat}(G:k<5)(I:nm1 97 k∉seen):Jm seen (KX k n)=0:=by
 have J:(KX k n).nm=nm1 97 k:=by unfold KX;split <;> rfl
 unfold Jm;rw[J,OY (by rw[Qkt G];decide),OY I];unfold KX;by_cases h:48<=n/\n<52
 ·rw[OZ h];simp only[];rw[OY oa,OY oe]
 rw[OY h];simp only[];rw[OY oa,OY oe]
theorem Qly (ns:LN):XZ (JM ns 5)=0:=by
 have e:JM ns 5=[KX 0 (ns.getD 0 0),KX 1 (ns.getD 1 0),KX 2 (ns.getD 2 0),KX 3 (ns.getD 3 0),KX 4 (ns.getD 4 0)]:=rfl;have G:∀k n,(KX k n).nm=nm1 97 k:=λk n=>by unfold KX;split <;> rfl
 unfold XZ;rw[OY (by rw[VQ];decide),e];simp only[zl,G];rw[U8 oh oh,U8 oh oh,U8 oh oh,U8 oh oh,U8 oh oh];simp
theorem D25.ck (h:D25 c):Z2 c=0:=by
 have hf:=h.c3;have hg:=h.r2;have V:c.ev.length=5:=h.ev.1;obtain⟨u',k1,k2,k3⟩:=Qhp (nev:=c.ev.length) (al:=V3 c.ev.length) (Qf3 _) c.co [] [] List.Pairwise.nil (λx hx=>by
  obtain⟨h1,h2,G⟩:=h.co x hx;refine⟨h1,h2,λe I=>?_⟩;have:=G e I;have:=(h2.ok.al e I).1;rw[V,Qf2];exact⟨oa,oa,oa⟩) (by
  have:=h.nd;rw[Ml]at this;simpa using this.1)
 have Y:=Qcl (nev:=c.ev.length) k2 c.rq (c.co.map (·.nm)) (λx hx=>by
  obtain⟨h1,h2,G⟩:=h.rq x hx;refine⟨h1,h2,λe I=>?_⟩;obtain⟨y,O,J⟩:=G e I;have:=(h.co y O).2.2 e J;exact⟨oa,(k3 e).2 (.inr ⟨y,O,J⟩)⟩) h.nd
 unfold Z2;rw[OY (not_not_intro h.ev.2),OY h.c0,OY oa,k1];simp only[Ox];rw[OY oe,OY (ox Y)];unfold Xa;have hh:(szs c.co).length=c.co.length:=by unfold szs;simp
 have hj:=h.x2;have hk1:=h.k1;have ha:¬(szs c.co).any Jn=true:=by
  intro hb;obtain⟨n,h1,h2⟩:=MH.1 hb;unfold szs at h1;obtain⟨x,hx,rfl⟩:=Lt.1 h1;have:=(h.co x hx).2.1;have G:=this.p;have J:=this.s;unfold Jn at h2;simp at h2;omega
 rw[OY oa,OY ha,OY oa,OY (by simpa using QaZ c.ex [] h.ex (ox h.xn))];rcases U:c.cs with _|⟨x,l⟩
 ·rfl
 have hl:l=[]:=Lu (by rw[U,LS]at hk1;omega);obtain⟨h1,h2⟩:=h.cs x (by rw[U];exact Lj);have hz:VA [] x.nm=0:=by unfold VA;rw[OY (by rw[h1];decide),OY oe]
 rw[hl,Xr,OY (ox hz),OY (ox h2)];rfl
theorem qC {k:IntKind}[h:Ik P t k][h':St P G]{x:O8}{I:IntKind}(hx:ev f x=.int I n)(J:n<128):
  (execOp (ev f) ⟨d,.convert t G x,ty,pS,af,gd⟩).run P w=.ok (.value (.string ⟨#[UInt8.ofNat n]⟩)) w:=by
 refine zT hx ?_;rw[run_convert_int_string w t G I n (by rw[h.u];rfl) h'.u];have O:Utf8.valid (n:Int)=true:=by
  unfold Utf8.valid;simp;omega
 unfold Utf8.encode;simp only[O,if_true,OD,J]
theorem QjM {x:O8}{k:IntKind}{a b:Int}(hx:ev f x=.int k a)(I:ev f y=.int k b)(hb:b≠0):
  (execOp (ev f) ⟨d,.binOp .rem t x y G,ty,pS,af,gd⟩).run P w=.ok (.value (.int k (a.tmod b))) w:=by
 refine Kq hx I ?_;simp[binOp,Op.intDiv,hb]
theorem QnN {e bys:Nat}[h:Sl P t e sz bys z](he:∀u∈z.cells,u.oneCell'=true){s:O8}{b o c:Nat}(O:QN ↑w b T cs)(I:∃G,ev f s=.slice (some ⟨b,G,none⟩) m c/\(0<m->G=o/\o+m*sz<=cs.length))
  (hK:∀w' cs',xd [b] w w'->QN ↑w' b T cs'->cs'.length=cs.length->cs'.take o=cs.take o->K (QP f d (.tuple #[])) w'):XO P ⟨d,.call ⟨.builtin .clear,#[s],#[t]⟩,ty,pS,af,gd⟩ f w K:=by
 obtain⟨G,I,hm⟩:=I;obtain⟨i,hi,hz,hh,_⟩:=Sl.info h;have hf:=h.zs;rcases Nat.eq_zero_or_pos m with rfl|hmp
 ·have U:(execOp (ev f) ⟨d,.call ⟨.builtin .clear,#[s],#[t]⟩,ty,pS,af,gd⟩).run P w=.ok (.value (.tuple #[])) w:=by
   simp[execOp,resolve,invoke,builtin,I,Builtin.clear_,run_underlying h.u]
  exact xv U (hK w cs (xd.C _ _) O Z Z)
 obtain⟨rfl,hk⟩:=hm hmp;have hg:(Builtin.zeroCells z.cells m).toList.length=m*sz:=by simp[Builtin.zeroCells,hf]
 have V:=run_storeCells_at P b G T (Builtin.zeroCells z.cells m).toList 0 cs.toArray w O (by simp only[Ok];omega) (λu Y=>by
  simp only[Builtin.zeroCells,Array.toList_map,Oj]at Y;obtain⟨j,hj,rfl⟩:=Y;have hn:=h.pos;have ha:j % z.cells.size<z.cells.size:=Nat.mod_lt _ oa;rw[getElem!_pos z.cells _ ha];exact he _ (Array.getElem_mem ha))
 simp only[OC]at V;obtain⟨J,rfl⟩:∃J,m=J+1:=⟨m - 1,oa⟩;have U:(execOp (ev f) ⟨d,.call ⟨.builtin .clear,#[s],#[t]⟩,ty,pS,af,gd⟩).run P w=.ok (.value (.tuple #[])) (w.setRow b ((cs.take G++(Builtin.zeroCells z.cells (J+1)).toList++cs.drop (G+(Builtin.zeroCells z.cells (J+1)).toList.length))).toArray):=by
  simp[execOp,resolve,invoke,builtin,I,Builtin.clear_,run_underlying h.u,zeroValue,typeInfo,hi,hz]at V ⊢;simp[V]
 refine xv U (hK _ _ (xd.setRow _ _ _) (JG O) ?_ ?_)
 ·simp only[oO,OL,OK,hg];omega
 rw[LC,List.take_append_of_le_length (by simp;omega),List.take_take,Nat.min_self]
theorem Vx {α:Type}{sz:Nat}{g:α->LV}(G:∀x,(g x).length=sz):∀(l:List α) (i:Nat) (u:α),i<l.length->(l.set i u).flatMap g=(l.flatMap g).take (i*sz)++g u++(l.flatMap g).drop (i*sz+sz)
 | [],i,u,h=>O1 h oe
 | a::l,0,u,h=>by
  rw[List.set_cons_zero,LR,LR,Nat.zero_mul,NL,MC,LY,List.drop_append_of_le_length (by rw[G a];exact Lr _),Lx (by rw[G a];exact Lr _),MC]
 | a::l,i+1,u,h=>by
  have h1:(i+1)*sz=(g a).length+i*sz:=by rw[G a,OU];omega
  have h2:(i+1)*sz+sz=(g a).length+(i*sz+sz):=oa
  have I:∀(F:LV) k,(g a++F).take ((g a).length+k)=g a++F.take k:=λF k=>by rw[NM,Ls (l:=g a) oa,Nb]
  have J:∀(F:LV) k,(g a++F).drop ((g a).length+k)=F.drop k:=λF k=>by rw[List.drop_append,Lx (l:=g a) oa,MC,Nb]
  rw[List.set_cons_succ,LR,LR,h2,h1,I,J,Vx G l i u (ox h)];simp only[Om]
theorem Qh5 [h1:Ag P t sz]{g:α->LV}(G:∀x,(g x).length=sz){x:O8}{e b cap:Nat}{l:List α}{u:α}(h:w.ownsRow base e sz (sL b l.length cap) l.length (l.flatMap g))(hx:ev f x=.pointer (some ⟨b,i*sz,none⟩))(O:ev f y=sT (g u))(hi:i<l.length)(U:ZN (g u))
  (hK:∀w',xd [b] w w'->w'.ownsRow base e sz (sL b l.length cap) l.length ((l.set i u).flatMap g)->K (QP f d undef) w'):XO P ⟨d,.store t x y,ty,pS,af,gd⟩ f w K:=by
 rcases h.2 with⟨e1,_⟩|⟨g',cap',cur,e1,V,Y,I,ha,he,hf⟩
 ·cases e1
 cases e1
 have hB:QN ↑w b e cur.toList:=Y;have hk:l.length*sz<=cap*sz:=MY _ I;have hh:(i+1)*sz<=l.length*sz:=MY _ hi;rw[OU]at hh;have J:cur.toList.length=cap*sz:=by rw[Array.length_toList];exact he
 refine Ks hB hx O (G u) oa U Z λw' hs hj=>hK w' hs ⟨?_,.inr ⟨b,cap,_,Z,V,hj,I,ha,?_,?_⟩⟩
 ·rw[Vx G l i u hi];simp only[oO,OL,OK,G u,h.1];omega
 ·simp only[Ok,oO,OL,OK,G u,J];omega
 have hX:(cur.toList.take (i*sz)++g u).length=i*sz+sz:=by simp only[oO,OL,G u,J];omega
 rw[Vx G l i u hi,<-hf];show(cur.toList.take (i*sz)++g u++cur.toList.drop (i*sz+sz)).take (l.length*sz)=_;rw[NM,Ls oa,hX,List.take_take,M9 oa,List.drop_take]
theorem Qkx (p:Int×Int)(w:O6):QT sV 88 [sT (Zf p)] w λr w'=>r=.bool (decide (p.2=0))/\sW w w':=by
 refine Zn func88 ?_;refine Qc<|Zd (Zf p) λJ O G U I=>Qb<|Qc<|Qs Z I Z Z<|x (Zc Z Z)<|Qb<|Qk ⟨[_],Lb,Z,G⟩
theorem Qon [Fu sV gp fn]{q:(Int×Int)->Bool}{v:O7}{l:xD}(h:Zw L ↑w v l.length 2 (l.flatMap Zf))
  (I:∀e∈l,∀(G:O6),sW w G->QT sV gp ([sT (Zf e)]++cap) G λr w'=>r=.bool (q e)/\sW G w'):
  QT sV 163 [v,.func (.func gp) #[] cap.toArray] w λr w'=>r=sS (fix q 0 l)/\sW w w' :=
 ixG ⟨_,Z,func163⟩ Jg (ldA Jg) h I
theorem QhU {e bys:Nat}[h:Sl P t e sz bys z]{x G:O8}{b cap:Nat}{k:IntKind}{lo:Nat}(hx:ev f x=sL b n cap)(hl:ev f G=.int k lo)(h1:lo<=n):
  (execOp (ev f) ⟨d,.slice t x (some G) none none,ty,pS,af,gd⟩).run P w=.ok (.value (.slice (some ⟨b,if cap=lo then 0 else lo*sz,none⟩) (n - lo) (cap - lo))) w:=by
 obtain⟨i,hi',_,I,_⟩:=Sl.info h;have e2:(Instr.sliceBound (.int k lo) n .sliceB).run P w=.ok lo w:=YE h1;by_cases J:cap=lo
 ·simp[execOp,hx,hl,Instr.sliceAt,Instr.slice,run_underlying h.u,Instr.sliceBounds,e2,sizeOf,typeInfo,hi',I,J]
 simp[execOp,hx,hl,Instr.sliceAt,Instr.slice,run_underlying h.u,Instr.sliceBounds,e2,sizeOf,typeInfo,hi',I,J,Addr.add];exact λe=>e.symm
theorem QhV {e bys:Nat}[h:Sl P t e sz bys z]{x G:O8}{b cap:Nat}{k:IntKind}{hi:Nat}(hx:ev f x=sL b n cap)(I:ev f G=.int k hi)(h1:hi<=cap):
  (execOp (ev f) ⟨d,.slice t x none (some G) none,ty,pS,af,gd⟩).run P w=.ok (.value (sL b hi cap)) w:=by
 obtain⟨i,hi',_,J,_⟩:=Sl.info h;have e2:(Instr.sliceBound (.int k hi) cap .sliceAcap).run P w=.ok hi w:=YE h1;simp[execOp,hx,I,Instr.sliceAt,Instr.slice,run_underlying h.u,Instr.sliceBounds,e2,sizeOf,typeInfo,hi',Addr.add]
theorem QaW {α:Type}(q:α->Bool):∀(l:List α) (i:Nat),(fix q i l=-1/\∀x∈l,q x=false)\/∃k,k<l.length/\fix q i l=((i+k:Nat):Int)/\l.take k=(l.take (k+1)).filter λx=>!q x
 | [],i=>.inl ⟨Z,λx h=>by cases h⟩
 | a::l,i=>by
  rw[YH];by_cases h:q a=true
  ·rw[OZ h];exact .inr ⟨0,oe,oe,by simp[h]⟩
  rw[OY h];have G:q a=false:=by simpa using h
  rcases QaW q l (i+1) with⟨h1,h2⟩|⟨k,h1,h2,I⟩
  ·exact .inl ⟨h1,λx hx=>by rcases Ll.1 hx with rfl|hx;exact G;exact h2 x hx⟩
  exact .inr ⟨k+1,ox h1,by rw[h2];congr 1;omega,by rw[Nm,Nm,L9,OZ (by simp[G]),<-I]⟩
theorem Qgy {e b cap:Nat}(h:w.ownsRow base e sz (sL b n cap) n cs):n<=cap/\∃cur:LV,QN ↑w b e cur/\cur.length=cap*sz/\cur.take (n*sz)=cs:=by
 rcases h.2 with⟨e1,_⟩|⟨g',cap',cur,e1,U,G,I,V,J,O⟩
 ·cases e1
 cases e1
 exact⟨I,cur.toList,G,by rw[Array.length_toList];exact J,O⟩
theorem QnD {e b cap k:Nat}{G cur:LV}(h:w.ownsRow base e sz (sL b n cap) n cs)(U:k<=n)(I:QN ↑w' b e cur)(hl:cur.length=cap*sz)(ht:cur.take (k*sz)=G)(hc:G.length=k*sz):
  w'.ownsRow base e sz (sL b k cap) k G:=by
 rcases h.2 with⟨e1,_⟩|⟨g',cap',cur',e1,J,V,Y,O,ha,he⟩
 ·cases e1
 cases e1
 exact⟨hc,.inr ⟨b,cap,cur.toArray,Z,J,I,oa,O,by rw[L3];exact hl,ht⟩⟩
theorem xL {α:Type}{sz:Nat}{g:α->LV}(G:∀x,(g x).length=sz):∀l:List α,(l.flatMap g).length=l.length*sz
 | []=>oe
 | a::l=>by rw[LR,Le,xL G l,G a,LS,OU];omega
theorem Qgw:∀(l:xD) (k:Nat),(l.flatMap Zf).take (k*2)=(l.take k).flatMap Zf
 | [],k=>oe
 | a::l,0=>oe
 | a::l,k+1=>by
  rw[show(k+1)*2=k*2+2 by omega,LR,Nm,LR,<-Qgw l k];rfl
abbrev nzT (l:xD):xD:=l.filter λp=>!decide (p.2=0)
theorem QoL {v:O7}{l:xD}(h:w.ownsRow base 193 2 v l.length (l.flatMap Zf))(hl:l.length<=1000):
  QT sV 87 [v,.func (.func 88) #[] #[]] w λr w'=>xd (ob v) w w'/\w'.ownsRow base 193 2 r (nzT l).length ((nzT l).flatMap Zf):=by
 have hix:=Qon (cap:=[]) (q:=λp=>decide (p.2=0)) (QO (L:=[]) h oa oe) (λe _ Y _=>Qkx e Y);have hs:=QaW (λp:Int×Int=>decide (p.2=0)) l 0;rcases h.2 with⟨rfl,h0⟩|⟨g,cap,cur,rfl,hT,_⟩
 ·have hB:l=[]:=Lu h0;subst hB;refine Zn func87 ?_;refine Qc<|Qb<|Ql<|Qa<|Qw<|hix.S ?_;rintro r1 Y ⟨rfl,I⟩;refine Qb<|Qd<|Ql<|x (Zc Z Z)<|xe<|Zh Z (λ_=>?_) (λh8=>O1 Z h8);refine Ql<|Qb<|Qk ⟨[nS],Lb,I,Qm h I⟩
 obtain⟨hU,_⟩:=Qgy h;refine Zn func87 ?_;refine Qc<|Qb<|Ql<|Qa<|Qw<|hix.S ?_;rintro r1 Y ⟨rfl,I⟩;refine Qb<|Qd<|Ql<|x (Zc Z Z)<|xe<|Zh rfl (λha=>?_) (λha=>?_)
 ·have hC:nzT l=l:=NK.2 λp hp=>by
   rcases hs with⟨_,h2⟩|⟨k,_,h2,_⟩
   ·have:=h2 p hp;simpa using this
   have hV:fix (λp:Int×Int=>decide (p.2=0)) 0 l=-1:=ha;omega
  refine Ql<|Qb<|Qk ⟨[sL g l.length cap],Lb,I.any,?_⟩;rw[hC];exact Qm h I
 refine Exists.elim (hs.resolve_left λa=>ha a.1) λV hf=>?_;have hv:fix (λp:Int×Int=>decide (p.2=0)) 0 l=(V:Int):=by have:=hf.2.1;omega
 refine Qf<|Qd<|Ql<|x (Xy (a:=(V:Int)) (b:=1) (O0 sS hv) Z ⟨oa,oa⟩)<|Qb<|QY (α:=Nat×Nat×xD) [(5,7),(16,35)] (λz=>[(5,sS z.1),(6,sS z.2.1)])
  (λz w'=>z.1<z.2.1/\z.2.1<=l.length/\z.2.2.length=l.length/\z.2.2.take z.1=nzT (l.take z.2.1)/\z.2.2.drop z.2.1=l.drop z.2.1/\xd [g] w w'/\w'.ownsRow base 193 2 (sL g z.2.2.length cap) z.2.2.length (z.2.2.flatMap Zf))
  (λz=>l.length - z.2.1) (V,V+1,l) ⟨O0 sS hv,Z,La⟩
  ⟨Nat.lt_succ_self _,hf.1,Z,hf.2.2,Z,I.any,Qm h I⟩ ?_
 rintro⟨i,j,ts⟩ g2 w2 ⟨hD,hj,hg,J,hh,hw,O⟩;simp only[]at hD hj hg J hh O;refine Qd<|Ql<|Qa<|x (Qaz Z)<|ZT Z Z<|xe<|Zp rfl (λhk=>?_) (λhk=>?_)
 ·refine Qt ?_;have hE:j=l.length:=by have hF:¬(j:Int)<(l.length:Int):=hk;omega
  rw[hE,ON]at J;have hy:(nzT l).length=i:=by rw[<-J,LH];omega
  refine Exists.elim (Qgy O).2 λhW hz=>?_;have hG:=hz.1;have hH:=hz.2.2;refine Ql<|Qa<|x (QhU (lo:=i) Z Z oa)<|Qo<|QnN (m:=l.length - i) (o:=i*2) (λu hu=>by simp[Value.cells]at hu;rw[hu];rfl) hG ⟨_,Z,λh=>⟨by rw[OY oa],oa⟩⟩ λw3 hX hm hI hY hJ=>xe ?_;refine Ql<|Qa<|x (QhV (hi:=i) Z Z oa)<|Qb<|Qk ⟨[sL g i cap],Lb,hw.Q hm,?_⟩;rw[hy];refine QnD O oa hI oa ?_ ?_
  ·rw[hJ,<-J,<-Qgw,<-hH,List.take_take,M9 oa]
  rw[xL Jg,hy]
 have G:j<l.length:=by have hF:(j:Int)<(l.length:Int):=hk;omega
 have hn:j<ts.length:=oa
 have hK:ts[j]'hn=l[j]'G:=by
  have h1:=O0 (λz=>z[0]?) hh;simp only[List.getElem?_drop,OC,oX hn,oX G]at h1;exact Option.some.inj h1
 have h3:ts.drop (j+1)=l.drop (j+1):=by
  have h1:=O0 (List.drop 1) hh
  rwa [List.drop_drop,List.drop_drop]at h1
 have U:nzT (l.take (j+1))=nzT (l.take j)++(if(l[j]'G).2=0 then[]else[l[j]'G]):=by
  unfold nzT;rw[Ln G,LW];by_cases h0:(l[j]'G).2=0 <;> simp[h0]
 have hA:=QO (L:=[]) O oa oe;rw[show sL g ts.length cap=sL g l.length cap from by rw[hg]]at hA;refine Qf<|Qd<|Qn<|Ql<|Qa<|xo Jg hA Z Z hn λhZ ho=>?_;rw[hK]at ho;refine Zg (l[j]'G) λe he=>?_;rw[he]at ho U;refine x (QF ho Z Z)<|QV [sS 0,sS 0] λb7 w3 hm hL hM=>Q6 (Zf e) hM oy λw4 hN h4=>xe ?_;have hO:sW w2 w4:=hm.O hN hL;refine Ql<|Q7 h4 Z Z<|Qo<|xc (first:=[]) (capt:=[]) Z<|(Qkx e w4).S ?_;rintro r5 w5 ⟨rfl,h5⟩;refine x (Zi Z)<|xe ?_;have h6:=hO.D h5;have h7:=Qm O h6;have h9:xd [g] w w5:=hw.D h6.any;refine Q5 rfl (λhq=>?_) (λhq=>?_)
 ·have hr:¬e.2=0:=by simpa using hq
  rw[OY hr]at U;have hP:w5.ownsRow base 193 2 (sL g ts.length cap) ts.length (ts.flatMap Zf):=h7;refine Ql<|Qa<|Q7 (h4.I h5) Z Z<|x (QE (i:=i) Z Z oa)<|Qo<|Qh5 (u:=e) Jg hP (O0 (λn=>Value.pointer (some ⟨g,n,none⟩)) (LY (i*2))) Z oa oy λw6 hQ hR =>
   xe ?_
  refine Qr<|Qa<|QC Z Z<|Qb<|Qr<|Qa<|QC Z Z<|Qb ?_;have hS:(ts.set i e).length=ts.length:=M2;refine⟨(i+1,j+1,ts.set i e),og,oy,og,G,og,?_,?_,h9.Q hQ,?_⟩
  ·simp only[];rw[U,<-J,List.set_eq_take_append_cons_drop,OZ oa,NM,Ls (by rw[LH];omega),LH,M9 oa,Nb,Nm,NL]
  ·simp only[];rw[List.drop_set_of_lt oa,h3]
  simp only[];rw[hS];exact hR
 have hr:e.2=0:=by simpa using hq
 rw[OZ hr,LK]at U;refine Qf<|Qr<|Qa<|QC Z Z<|Qb<|⟨(i,j+1,ts),og,oy,og,G,hg,by rw[U];exact J,h3,h9,h7⟩
instance ayAz1:Ay sV 25 3 24 1:=⟨od,od⟩
instance ayAz2:Ay sV 30 2 24 1:=⟨od,od⟩
instance ayAz3:Ay sV 31 2 28 27:=⟨od,od⟩
instance ayAz4:Ay sV 34 3 33 1:=⟨od,od⟩
abbrev X4V:={r:LN // r.length=4/\∀n∈r,n<256}
abbrev Xm (r:X4V):LV:=bys r.1
theorem yg (r:X4V):(Xm r).length=4:=by show(bys r.1).length=4;unfold bys;rw[Lo,r.2.1]
structure PlV where
 ns:LN
 vx:O7
 xs:List X4V
 f0:Int
 f1:Int
 f2:Int
 bd:Int
abbrev Xf (l:PlV):LV:=bys l.ns++[l.vx,.int .i8 l.f0,.int .i8 l.f1,.int .i8 l.f2,.int .i8 l.bd]
abbrev i8R (n:Int):Prop:=-128<=n/\n<=127
structure PlA (L:LN)(H:xG)(l:PlV):Prop where
 n:l.ns.length=147
 b:∀n∈l.ns,n<256
 x:Zw L H l.vx l.xs.length 4 (l.xs.flatMap Xm)
 f0:i8R l.f0
 f1:i8R l.f1
 f2:i8R l.f2
 bd:i8R l.bd
theorem Qbz {l:PlV}(h:l.ns.length=147):(Xf l).length=152:=by rw[Xf,Le,XI,h];rfl
theorem QjY {l:PlV}(h:l.ns.length=147)(j:Nat):(Xf l)[147+j]?=([l.vx,.int .i8 l.f0,.int .i8 l.f1,.int .i8 l.f2,.int .i8 l.bd]:LV)[j]?:=by
 rw[Xf,MA (by rw[XI];omega),XI,h,Nb]
theorem Qgs {l:PlV}(h:l.ns.length=147)(G:j<147):(Xf l)[j]?=some (.int .u8 ((l.ns.getD j 0:Nat):Int)):=by
 rw[Xf,LT (by rw[XI];omega)];exact qZ oa
theorem QeU {l:PlV}{o:Nat}(j:Nat)(u:O7)(h:(bys ((l.ns.drop o).take m))[j]?=some u):(Xf l)[o+j]?=some u:=by
 have h1:=QoZ (ns:=l.ns) (o:=o) (n:=m) j u h;have h2:=(Mm.1 h1).1;rw[Xf,LT h2];exact h1
theorem Qhn {sz:LI}:∀(ls:xD) (pr:Option Int),(∀b,pr=some b->∀p∈ls,b<p.1)->ls.Pairwise (λp q=>p.1<q.1)->(∀p∈ls,0<=p.1/\p.1<(sz.length:Int)/\0<=p.2/\p.2<xh sz p.1.toNat)->XM sz pr ls=0
 | [],_,_,_,_=>rfl
 | p::ls,pr,I,J,hb=>by
  obtain⟨h1,h2,U,V⟩:=hb p Lj;obtain⟨k1,k2⟩:=Mb.1 J;have hl:yR pr p.1=false:=by
   cases pr with
   | none=>rfl
   | some b=>have:=I b Z p Lj;unfold yR;exact O4 oa
  rw[XM,OY oa,OY (by rw[hl];decide),OY oa];exact Qhn ls (some p.1) (λb O q G=>by cases O;exact k1 q G) k2 (λq G=>hb q (Lh _ G))
theorem Qhm {sz:LI}:∀(ls:xD) (pr:Option Int),(∀b,pr=some b->∀p∈ls,b<p.1)->ls.Pairwise (λp q=>p.1<q.1)->(∀p∈ls,0<=p.1/\p.1<(sz.length:Int)/\p.2≠0/\-65536<=p.2/\p.2<=65536)->J4 sz pr ls=0
 | [],_,_,_,_=>rfl
 | p::ls,pr,I,J,hb=>by
  obtain⟨h1,h2,O,Y,h5⟩:=hb p Lj;obtain⟨k1,k2⟩:=Mb.1 J;have hl:yR pr p.1=false:=by
   cases pr with
   | none=>rfl
   | some b=>have:=I b Z p Lj;unfold yR;exact O4 oa
  have U:grt p.2=false:=by unfold grt;rw[O4 oa,O4 oa];rfl
  rw[J4,OY oa,OY (by rw[hl];decide),OY (by rw[U];simpa using O)];exact Qhm ls (some p.1) (λb V q G=>by cases V;exact k1 q G) k2 (λq G=>hb q (Lh _ G))
theorem Qf4 (a:Int){b:Int}(h:0<b):-b<a.tmod b/\a.tmod b<b:=⟨Int.lt_tmod_of_pos a h,Int.tmod_lt_of_pos a h⟩
structure ItG (c:Nat)(k:Nat)(q:IV):Prop where
 nm:q.nm=⟨#[UInt8.ofNat c]⟩++⟨#[UInt8.ofNat (48+k)]⟩
 g:GdA q.p.a
 e:∀e∈q.p.a.al,e<5
theorem Qks (k:Nat)(h:k<3):Xq (nmI 99 k)=true/\Xq (nmI 114 k)=true/\Xq (nmI 101 k)=true:=by
 match k,h with
 | 0,_=>decide
 | 1,_=>decide
 | 2,_=>decide
theorem Qh7:∀n,n<4->∀m,m<3->((oM n).map (nmI 99)++(oM m).map (nmI 114)).Nodup:=oh
theorem QaO {c:Nat}{co:List IV}(h:∀k (G:k<co.length),ItG c k (co[k]'G)):(co.map IV.it).map (·.nm)=(oM co.length).map (nmI c):=by
 apply L5
 ·simp
 intro i h1 h2;simp only[List.getElem_map,List.getElem_range];exact(h i (ox h1)).nm
theorem Qq3 {co rq:List IV}{al:LI}(h1:1<=co.length)(h3:co.length<=3)(O:∀k (G:k<co.length),ItG 99 k (co[k]'G))(Y:∀e,e∈al↔∃q∈co,e∈q.p.a.al)(hj:rq.length<=2)
  (U:∀k (G:k<rq.length),ItG 114 k (rq[k]'G)/\∀e∈(rq[k]'G).p.a.al,e∈al) (hm:qx.length<=2) (ha:(qx.map (·.nm)).Nodup) (hf:∀q∈qx,(∃k,k<2/\q.nm=⟨#[101]⟩++⟨#[UInt8.ofNat (48+k)]⟩)/\q.ls≠[]/\q.ls.length<=3/\XM (co.map (·.p.a.st)) none q.ls=0)
  (hn:ks.length<=1) (hg:∀q∈ks,q.nm=⟨#[107]⟩/\XN (co.map (·.p.a.st)) q.k=0):D25 ⟨JM ns 5,co.map IV.it,rq.map IV.it,qx.map XV.x,ks.map KV.k⟩:=by
 have V:szs (co.map IV.it)=co.map (·.p.a.st):=by unfold szs;rw[MF];rfl
 refine⟨⟨VQ ns 5,Qly ns⟩,by simp only[OB];omega,by simp only[OB];omega,by simp only[OB];omega,λx hx=>?_,λx hx=>?_,?_,by simp only[OB];omega,λx hx=>?_,?_,by simp only[OB];omega,λx hx=>?_⟩
 ·obtain⟨q,I,rfl⟩:=Lt.1 hx;obtain⟨k,G,rfl⟩:=LQ I;have g:=O k G;exact⟨by show Xq (co[k]'G).nm=true;rw[g.nm];exact(Qks k oa).1,g.g,g.e⟩
 ·obtain⟨q,I,rfl⟩:=Lt.1 hx;obtain⟨k,G,rfl⟩:=LQ I;have g:=U k G;refine⟨by show Xq (rq[k]'G).nm=true;rw[g.1.nm];exact(Qks k oa).2.1,g.1.g,λe he=>?_⟩;obtain⟨y,hy,hh⟩:=(Y e).1 (g.2 e he);exact⟨y.it,LL hy,hh⟩
 ·show((co.map IV.it).map (·.nm)++(rq.map IV.it).map (·.nm)).Nodup;rw[QaO O,QaO (λk G=>(U k G).1)];exact Qh7 _ oa _ oa
 ·obtain⟨q,I,rfl⟩:=Lt.1 hx;obtain⟨⟨k,k1,k2⟩,J,_,g4⟩:=hf q I;refine⟨by show Xq q.nm=true;rw[k2];exact(Qks k oa).2.2,J,?_⟩;show XM (szs (co.map IV.it)) none q.ls=0;rw[V];exact g4
 ·show((qx.map XV.x).map (·.nm)).Nodup;rw[MF];exact ha
 obtain⟨q,I,rfl⟩:=Lt.1 hx;obtain⟨g1,J⟩:=hg q I;refine⟨by show Xq q.nm=true;rw[g1];decide,?_⟩;show XN (szs (co.map IV.it)) q.k=0;rw[V];exact J
def flk (l:PlV)(i:Nat):Int:=[l.f0,l.f1,l.f2].getD i 0
theorem Qr7 {l:PlV}(h:l.ns.length=147)(hi:i<3):(Xf l)[0+148+i*1]?=some (.int .i8 (flk l i)):=by
 rw[show 0+148+i*1=147+(1+i) by omega,QjY h]
 match i,hi with
 | 0,_=>rfl
 | 1,_=>rfl
 | 2,_=>rfl
theorem Qr6 {H:xG}{l:PlV}(h:PlA L H l)(i:Nat)(hi:i<3):i8R (flk l i):=by
 match i,hi with
 | 0,_=>exact h.f0
 | 1,_=>exact h.f1
 | 2,_=>exact h.f2
theorem Qlx (ns:LN):∀e∈JM ns 5,jW e.nm:=λe G=>by
 unfold JM at G;obtain⟨k,_,rfl⟩:=Lt.1 G;unfold KX;split <;> exact JB oe
theorem Qid {l:PlV}(h:PlA [] ↑w l):
  QT sV 34 [sT (Xf l)] w λr w'=>sW w w'/\∃k,Qpj ↑w ↑w' r k/\D25 k:=by
 refine Zg (1+l.ns.getD 5 0 % 3) λn hn=>?_;have hn3:1<=n/\n<=3:=oa
 refine Zn func34 ?_;refine Qc<|Zd (Xf l) λb1 w1 hs1 hb1 pp=>QV Vo λb2 w2 k9 hb2 pt=>xe ?_;have pu:=hs1.D k9;have hl1:=pp.lt;have hl2:=pt.lt;have g2:=pp.I k9;have pw:((l.ns.drop 0).take 5).length=5:=by rw[LH,My,h.n];rfl
 have hflt:∀n∈(l.ns.drop 0).take 5,n<256:=λn hn=>h.b n (MZ (Ma hn));refine Qc<|Q9 Z<|x (qF (us:=bys ((l.ns.drop 0).take 5)) g2 Z (by rw[XI];exact pw) (λj u hu=>QeU (l:=l) (o:=0) (m:=5) j u hu))<|Qw<|(Qep (ns:=(l.ns.drop 0).take 5) pw hflt).S ?_;rintro ve w3 ⟨pz,gs⟩;refine Zg (JM ((l.ns.drop 0).take 5) 5) λev hev=>?_;rw[hev]at gs;refine x (QD ⟨xR gs,La⟩)<|QV Vo λI w4 hs4 hb3 hB3=>Q6 [ve,Zq,Zq,Zq,Zq] hB3 ⟨QA gs,Z,Z,Z,Z,La⟩ λw5 hs5 p0 =>
  xe ?_
 have p4:sW w3 w5:=hs4.O hs5 hb3;refine Qc<|QV [Zq] λb4 w6 p5 hb4 p6=>xe ?_;have p7:=p4.D p5;have g3:=pz.D p7;have Y:=k9.D g3;have hz3:=pz.size;have hz35:=p4.size;have hl3:=p0.lt;have hl4:=p6.lt;have ma:=g2.I g3;have hB36:=p0.I p5;have q5:=Qgs (l:=l) h.n (j:=5) oa;have q5l:=Ju h.b 5;refine Zg (l.ns.getD 5 0) λcn hcn=>?_;rw[hcn]at q5 q5l hn;refine Qc<|Qs Z ma Z q5<|x (yx (a:=(cn:Int)) (b:=3) Z Z oa oa)<|x (Yi (k':=.i64) Z ⟨oa,oa⟩)<|QC Z Z<|Qb<|QX (α:=O7×List IV×O7×LI) [(6,7),(26,55)] (λ_=>[]) (λz w'=>xd [I,b4] w6 w'/\QN ↑w' I 46 [ve,z.1,Zq,Zq,Zq]/\QN ↑w' b4 47 [z.2.2.1]/\zI ↑w6 w' z.1 z.2.2.1 z.2.1 z.2.2.2/\z.2.1.length=n/\(∀k (U:k<z.2.1.length),ItG 99 k (z.2.1[k]'U))/\z.2.2.2.length<=5*n/\∀e,e∈z.2.2.2↔∃q∈z.2.1,e∈q.p.a.al) ol ?_ ?_
 ·refine Ql<|Qa<|xe<|QY (α:=Nat×O7×List IV×O7×LI) [(6,7),(27,55)] (λz=>[(27,sS z.1)])
   (λz w'=>z.1<=n/\xd [I,b4] w6 w'/\QN ↑w' I 46 [ve,z.2.1,Zq,Zq,Zq]/\QN ↑w' b4 47 [z.2.2.2.1]/\zI ↑w6 w' z.2.1 z.2.2.2.1 z.2.2.1 z.2.2.2.2/\z.2.2.1.length=z.1/\(∀k (U:k<z.2.2.1.length),ItG 99 k (z.2.2.1[k]'U))/\z.2.2.2.2.length<=5*z.1/\∀e,e∈z.2.2.2.2↔∃q∈z.2.2.1,e∈q.p.a.al)
   (λz=>n - z.1) (0,Zq,[],Zq,[]) Lb
   ⟨Lp _,xd.C _ _,hB36,p6,zI.nil,Z,λk U=>O1 U oe,oe,oe⟩ ?_
  rintro⟨i,vc,co,va,al⟩ g7 w7 ⟨hi,hH,gt,gg,hy,g4,hX,mc,gu⟩;simp only[]at hi gt gg hy g4 hX mc gu;refine Zk Z Z (λmf=>?_) (λmf=>?_)
  ·refine Qt ?_;have mg:i=n:=by have h29:¬(i:Int)<1+(cn:Int) % 3:=mf;omega
   exact⟨(vc,co,va,al),La,hH,gt,gg,hy,og,hX,og,gu⟩
  have h7:i<n:=by have h29:(i:Int)<1+(cn:Int) % 3:=mf;omega
  have mh:b1∉[I,b4]:=by simp only[oN,oJ,or_false];omega
  have hY:=ma.J hH mh;have qs:=Qgs (l:=l) h.n (j:=0+6+i*1) oa;have qsl:=Ju h.b (0+6+i*1);refine Zg (l.ns.getD (0+6+i*1) 0) λm hm=>?_;rw[hm]at qs qsl;have mj:=UB m 5;have g5:=QcZ m 5;have gh:=Qgf m 5;refine Zg (setK m 5) λsk g6=>?_;rw[g6]at mj g5 gh;refine Qf<|Qd<|Qn<|Ql<|Qb<|Ql<|Q9 Z<|x (ZX (i:=i) Z Z oa)<|ZD hY Z qs<|Qw<|(UC m qsl _).S ?_;rintro vs w8 ⟨hj,kr⟩;rw[g6]at kr;refine Qb ?_;have p8:=hj.size;have hI:=hy.I hj;have hI8:=Qh.ints (L:=[]) hI.a oa oe;have hJ8:=Qh.ints (L:=[]) kr oa oe;refine Qc<|ZD (gg.I hj) Z Z<|Qa<|Qw<|(QeD hI8 hJ8 oa).S ?_;rintro p9 w9 ⟨ha,qj,hal2,ql,gi⟩;have kt:=hj.D ha;have mo:=ha.size;have hz7:=hH.size;refine Qo<|Qv (gg.I kt) Z Z oe (QA gi) λho hz hB410=>xe ?_;have hl36:I<w6.heap.size:=oa
  have hB:zI ↑w6 w9 vc p9 co qj:=hI.setA (Za gi oa) ha.any (λb hb=>.inr (Qi gi b hb).1);have h0:=hB.low hz (λb hb=>by rw[Lc.1 hb];omega);have ka:QN ↑ho I 46 [ve,vc,Zq,Zq,Zq]:=(gt.I kt).J hz om;have mq:=(hY.I kt).J hz om;have ms:Qu [] ↑ho vs sk:=Qh.ints (L:=[]) (Qg (Qm kr ha) hz (λb hb hm=>by have:=(Qi kr b hb).1;rw[Lc.1 hm]at this;omega)) oa oe;have hz10:=hz.size;have n3v:I∉ob vc:=QJ h0.c oa;have n1v:b1∉ob vc:=QJ h0.c oa;have gj:=Qlb (ns:=l.ns) (o:=0+9+i*27) (oq h.n);have kb:=Qpv (o:=0+9+i*27) h.b;have kc:=λj u=>QeU (l:=l) (o:=0+9+i*27) (m:=27) j u;refine Zg (grN l.ns (0+9+i*27)) λgr hC=>?_;have mt:∀j u,(bys gr)[j]?=some u->(Xf l)[0+9+i*27+j]?=some u:=by rw[<-hC];exact kc
  rw[hC]at gj kb;have ke:sW ho { ho with drawn:=ho.drawn+1 }:=xd.Y _ _
  have kf:(48:Int)+(i:Int)=((48+i:Nat):Int):=oa
  refine Zg (⟨#[99]⟩++⟨#[UInt8.ofNat (48+i)]⟩:ByteArray) λnm hJ=>?_;refine ZK (ob vc) (Xj 0 18 [12,14,15,17])<|p (QH Z)<|pq (λ_ hc=>Qj (ka.J hc n3v) Z Z)<|p Qx<|p (λ_=>Xy Z Z ⟨oa,oa⟩)<|p (λ_=>Yi (k':=.i32) Z ⟨oa,oa⟩)<|p (λ_=>qC (n:=48+i) (O0 (Value.int .i32) kf) oa) <|
   p (λ_=>YQ (a:=⟨#[99]⟩) (b:=⟨#[UInt8.ofNat (48+i)]⟩) Z Z (by show 1+1<=1000000000;omega))<|p Qx<|p Qx<|p (QH Z)<|p (λ_=>ZX (i:=i) Z Z oa)<|pq (λ_ hc=>qF (us:=bys gr) (mq.J hc n1v) Z (by rw[XI];exact gj) mt)<|?_
  refine pk<|xg<|(jb (ms.I ke) (λe V=>oq (gh e V)) g5 gj kb).S ?_;rintro r11 hw ⟨gk,a,⟨xa,xm,h8,rfl,hA⟩,hG,gv⟩;have hK:=ke.D gk;have q4:=hK.size;have gl:=hA [] oe;refine⟨hK.any,?_⟩;refine p (λ_=>ZE [(0,[.string nm]),(1,[xa,sS a.st,xm,h8])] ⟨O0 (λb=>(Value.string b).cells) hJ,Z,Z,Z,La⟩)<|pk<|Q3 [Zm ⟨nm,⟨xa,xm,h8,a⟩⟩] λb14 gm hh hb14 mu=>⟨(hK.D hh).any,?_⟩;have h4:=hK.D hh;have kg:=h0.I h4;refine pk<|Q0 (news:=Zm ⟨nm,⟨xa,xm,h8,a⟩⟩) (L:=[]) kg.c Z Z Z (mu.at oe) (QbV gl.al.one gl.mr.one gl.ed.one) oa (oq h4.size) λmv hM kh O mw=>⟨(h4.any (L:=ob vc)).Q O,?_⟩;have my:=kg.setC (yW (q:=⟨nm,⟨xa,xm,h8,a⟩⟩) (N:=↑ho) (λL hL=>(hA L hL).I hh) oa h0.avlt) kh O mw;refine p (QH Z)<|pkk<|Qv ((ka.I h4).J O n3v) Z Z oe (QA kh) λhN Y hZ=>pe ?_;have hge:=Qi h0.c;have n4v:b4∉ob vc:=QJ h0.c oa;have hB416:=((hB410.I h4).J O n4v).J Y om;have hs710:xd [b4] w7 ho:=kt.any.Q hz;have hs615:xd [I,b4] w6 hM:=((hH.Q (hs710.S oe)).D h4.any).Z O (λb hb=>.inr (hge b hb).1);refine Qr<|QC Z Z<|Qa<|xe<|⟨(i+1,mv,co++[⟨nm,⟨xa,xm,h8,a⟩⟩],p9,qj),og,Lb,h7,hs615.Q (Y.S oe),hZ,hB416,my.low Y (λb hb=>by rw[List.mem_singleton.1 hb];omega),by simp only[oO,oL];omega,λk U=>?_,og,λe=>?_⟩
  ·simp only[]at U ⊢;by_cases hv:k<co.length
   ·rw[L8 hv];exact hX k hv
   have ki:k=i:=by simp only[oO,oL]at U;omega
   subst ki;rw[M5 oa];simp only[g4,OT,On];exact⟨hJ.symm,hG,λe V=>by rw[gv]at V;exact(gh e V).2⟩
  simp only[]at ql ⊢;rw[ql,gu];constructor
  ·rintro(⟨q,G,V⟩|V)
   ·exact⟨q,LG _ G,V⟩
   exact⟨_,Mv _ (Lc.2 Z),by rw[gv];exact V⟩
  rintro⟨q,G,V⟩;rcases Lk.1 G with G|G
  ·exact .inl ⟨q,G,V⟩
  rw[Lc.1 G,gv]at V;exact .inr V
 rintro⟨vc,co,va,al⟩ g7 w7 ⟨hH,gt,gg,hy,g4,hX,mc,gu⟩;simp only[]at gt gg hy g4 hX mc gu;have hz7:=hH.size;have mh:b1∉[I,b4]:=by simp only[oN,oJ,or_false];omega
 have hY:=ma.J hH mh;have mz:b1∉[I]:=om
 have n43:b4∉[I]:=om
 have j1:=Qgs (l:=l) h.n (j:=90) oa;have q90l:=Ju h.b 90;refine Zg (l.ns.getD 90 0) λrn hrn=>?_;rw[hrn]at j1 q90l;refine Zg (rn % 3) λr hr=>?_;refine QX (α:=O7×List IV) [(8,9),(56,87)] (λ_=>[]) (λz w'=>xd [I] w7 w'/\QN ↑w' I 46 [ve,vc,z.1,Zq,Zq]/\zI ↑w7 w' z.1 Zq z.2 []/\z.2.length=r/\∀k (U:k<z.2.length),ItG 114 k (z.2[k]'U)/\∀e∈(z.2[k]'U).p.a.al,e∈al) ol ?_ ?_
 ·refine Qc<|Qs Z hY Z j1<|x (yx (a:=(rn:Int)) (b:=3) Z Z oa oa)<|x (Yi (k':=.i64) Z ⟨oa,oa⟩)<|Qa<|xe<|QY (α:=Nat×O7×List IV) [(8,9),(60,87)] (λz=>[(60,sS z.1)])
   (λz w'=>z.1<=r/\xd [I] w7 w'/\QN ↑w' I 46 [ve,vc,z.2.1,Zq,Zq]/\zI ↑w7 w' z.2.1 Zq z.2.2 []/\z.2.2.length=z.1/\∀k (U:k<z.2.2.length),ItG 114 k (z.2.2[k]'U)/\∀e∈(z.2.2[k]'U).p.a.al,e∈al)
   (λz=>r - z.1) (0,Zq,[]) Lb
   ⟨Lp _,xd.C _ _,gt,zI.nil,Z,λk U=>O1 U oe⟩ ?_
  rintro⟨i,vr,rq⟩ g8 w8 ⟨hi,hj,gx,hI,ku,hC⟩;simp only[]at hi gx hI ku hC;refine Zk Z Z (λm0=>?_) (λm0=>?_)
  ·refine Qt ?_;have mg:i=r:=by have h62:¬(i:Int)<(rn:Int) % 3:=m0;omega
   exact⟨(vr,rq),La,hj,gx,hI,og,hC⟩
  have h7:i<r:=by have h62:(i:Int)<(rn:Int) % 3:=m0;omega
  have kj:=hY.J hj mz;have hB48:=gg.J hj n43;have qs:=Qgs (l:=l) h.n (j:=0+91+i*1) oa;have qsl:=Ju h.b (0+91+i*1);refine Zg (l.ns.getD (0+91+i*1) 0) λm hm=>?_;rw[hm]at qs qsl;have mj:=UB m 5;have g5:=QcZ m 5;have gh:=Qgf m 5;refine Zg (setK m 5) λsk g6=>?_;rw[g6]at mj g5 gh;refine Qf<|Qd<|Qn<|Ql<|Qb<|Ql<|Q9 Z<|x (ZX (i:=i) Z Z oa)<|ZD kj Z qs<|Qw<|(UC m qsl _).S ?_;rintro vs w9 ⟨ha,gi⟩;rw[g6]at gi;have p8:=hj.size;have mo:=ha.size;have hva8:=Qm (Qg hy.a hj (λb hb hm=>by rw[Lc.1 hm]at hb;exact QJ hy.a oa hb)) ha;have kc:=Qi gi;have hlv:=QW hy.a;have hD:=QoM gi oa (hB48.I ha) (λhm=>oq (kc b4 hm).1) (QO hva8 oa (λb hb hbs=>ou (kc b hbs).1 (hlv b hb)));refine x (Zl (l:=[]) (l':=[_]))<|Qw<|hD.S ?_;rintro vd ho ⟨hz,j2⟩;have j3:YD (sk.filter λx=>decide (x∈al)):=List.Pairwise.filter _ g5;have hFL:=LO (λx=>decide (x∈al)) sk;have kv:∀e∈sk.filter λx=>decide (x∈al),e∈sk/\e∈al:=λe V=>by
   have:=LB.1 V;exact⟨this.1,O3 this.2⟩
  refine Zg (sk.filter λx=>decide (x∈al)) λF hF=>?_;rw[hF]at j2 j3 hFL kv;refine Qb ?_;have kk:sW w8 ho:=ha.Z hz (λb hb=>.inr (kc b hb).1);have hz10:=kk.size;have h0:=hI.I kk;have ka:=gx.I kk;have mq:=kj.I kk;have ms:Qu [] ↑ho vd F:=Qh.ints (L:=[]) j2 oa oe;have n3v:I∉ob vr:=QJ h0.c oa;have n1v:b1∉ob vr:=QJ h0.c oa;have gj:=Qlb (ns:=l.ns) (o:=0+93+i*27) (oq h.n);have kb:=Qpv (o:=0+93+i*27) h.b;have mt:=λj u=>QeU (l:=l) (o:=0+93+i*27) (m:=27) j u;refine Zg (grN l.ns (0+93+i*27)) λgr j4=>?_;have hgs2:∀j u,(bys gr)[j]?=some u->(Xf l)[0+93+i*27+j]?=some u:=by rw[<-j4];exact mt
  rw[j4]at gj kb;have ke:sW ho { ho with drawn:=ho.drawn+1 }:=xd.Y _ _
  have kf:(48:Int)+(i:Int)=((48+i:Nat):Int):=oa
  refine Zg (⟨#[114]⟩++⟨#[UInt8.ofNat (48+i)]⟩:ByteArray) λnm hJ=>?_;refine ZK (ob vr) (Xj 0 18 [12,14,15,17])<|p (QH Z)<|pq (λ_ hc=>Qj (ka.J hc n3v) Z Z)<|p Qx<|p (λ_=>Xy Z Z ⟨oa,oa⟩)<|p (λ_=>Yi (k':=.i32) Z ⟨oa,oa⟩)<|p (λ_=>qC (n:=48+i) (O0 (Value.int .i32) kf) oa) <|
   p (λ_=>YQ (a:=⟨#[114]⟩) (b:=⟨#[UInt8.ofNat (48+i)]⟩) Z Z (by show 1+1<=1000000000;omega))<|p Qx<|p Qx<|p (QH Z)<|p (λ_=>ZX (i:=i) Z Z oa)<|pq (λ_ hc=>qF (us:=bys gr) (mq.J hc n1v) Z (by rw[XI];exact gj) hgs2)<|?_
  refine pk<|xg<|(jb (ms.I ke) (λe V=>oq (gh e (kv e V).1)) j3 gj kb).S ?_;rintro r11 hw ⟨gk,a,⟨xa,xm,h8,rfl,hA⟩,hG,gv⟩;have hK:=ke.D gk;have q4:=hK.size;have gl:=hA [] oe;refine⟨hK.any,?_⟩;refine p (λ_=>ZE [(0,[.string nm]),(1,[xa,sS a.st,xm,h8])] ⟨O0 (λb=>(Value.string b).cells) hJ,Z,Z,Z,La⟩)<|pk<|Q3 [Zm ⟨nm,⟨xa,xm,h8,a⟩⟩] λb14 gm hh hb14 mu=>⟨(hK.D hh).any,?_⟩;have h4:=hK.D hh;have kg:=h0.I h4;refine pk<|Q0 (news:=Zm ⟨nm,⟨xa,xm,h8,a⟩⟩) (L:=[]) kg.c Z Z Z (mu.at oe) (QbV gl.al.one gl.mr.one gl.ed.one) oa (oq h4.size) λmv hM kh O mw=>⟨(h4.any (L:=ob vr)).Q O,?_⟩;have my:=kg.setC (yW (q:=⟨nm,⟨xa,xm,h8,a⟩⟩) (N:=↑ho) (λL hL=>(hA L hL).I hh) oa h0.avlt) kh O mw;refine p (QH Z)<|pkk<|Qv ((ka.I h4).J O n3v) Z Z oe (QA kh) λhN Y hZ=>pe ?_;have hge:=Qi h0.c;have hs715:xd [I] w7 hM:=((hj.D kk.any).D h4.any).Z O (λb hb=>.inr (hge b hb).1);refine Qr<|QC Z Z<|Qa<|xe<|⟨(i+1,mv,rq++[⟨nm,⟨xa,xm,h8,a⟩⟩]),og,Lb,h7,hs715.Q Y,hZ,my.low Y (λb hb=>by rw[Lc.1 hb];omega),by simp only[oO,oL];omega,λk U=>?_⟩;simp only[]at U ⊢;by_cases hv:k<rq.length
  ·rw[L8 hv];exact hC k hv
  have ki:k=i:=by simp only[oO,oL]at U;omega
  subst ki;rw[M5 oa];simp only[ku,OT,On];exact⟨⟨hJ.symm,hG,λe V=>by rw[gv]at V;exact(gh e (kv e V).1).2⟩,λe V=>by rw[gv]at V;exact(kv e V).2⟩
 rintro⟨vr,rq⟩ g8 w8 ⟨hj,gx,hI,ku,hC⟩;simp only[]at gx hI ku hC;have p8:=hj.size;have kj:=hY.J hj mz;have g147:=QjY (l:=l) h.n 0;have hX6:Zw [I,b4] ↑w6 l.vx l.xs.length 4 (l.xs.flatMap Xm):=((h.x.up (L':=[I,b4]) (λb hb=>.inr (by simp only[oN,oJ,or_false]at hb;omega))).I pu).I g3;have za:Zw [I] ↑w8 l.vx l.xs.length 4 (l.xs.flatMap Xm):=((hX6.st hH).up (L':=[I]) (λb hb=>.inl (by simp only[oH]at hb;simp[hb]))).st hj;refine QX (α:=O7×List XV) [(10,14),(88,151)] (λ_=>[]) (λz w'=>xd [I] w8 w'/\QN ↑w' I 46 [ve,vc,vr,z.1,Zq]/\VD Z4 2 186 (λq=>[(q.v,q.ls.length,2,q.ls.flatMap Zf)]) ↑w8 w' z.1 z.2/\z.2.length<=2/\(z.2.map (·.nm)).Nodup/\∀q∈z.2,(∃k,k<2/\q.nm=⟨#[101]⟩++⟨#[UInt8.ofNat (48+k)]⟩)/\q.ls≠[]/\q.ls.length<=3/\XM (co.map (·.p.a.st)) none q.ls=0) ol ?_ ?_
 ·refine Qc<|Qs Z kj Z g147<|QG za Z<|Qa<|xe<|QY (α:=Nat×O7×List XV) [(10,14),(91,151)] (λz=>[(91,sS z.1)])
   (λz w'=>z.1<=l.xs.length/\z.1<=2/\xd [I] w8 w'/\QN ↑w' I 46 [ve,vc,vr,z.2.1,Zq]/\VD Z4 2 186 (λq=>[(q.v,q.ls.length,2,q.ls.flatMap Zf)]) ↑w8 w' z.2.1 z.2.2/\z.2.2.length<=z.1/\(z.2.2.map (·.nm)).Nodup/\∀q∈z.2.2,(∃k,k<z.1/\q.nm=⟨#[101]⟩++⟨#[UInt8.ofNat (48+k)]⟩)/\q.ls≠[]/\q.ls.length<=3/\XM (co.map (·.p.a.st)) none q.ls=0)
   (λz=>l.xs.length - z.1) (0,Zq,[]) Lb
   ⟨Lp _,Lp _,xd.C _ _,gx,VD.nil,Lr _,List.Pairwise.nil,λq G=>by cases G⟩ ?_
  rintro⟨i,vx,qx⟩ g9 w9 ⟨hi,hi2,ha,ga,hB,kw,gb,hO⟩;simp only[]at hi hi2 ga hB kw gb hO;have z0:(∀q∈qx,(∃k,k<2/\q.nm=⟨#[101]⟩++⟨#[UInt8.ofNat (48+k)]⟩)/\q.ls≠[]/\q.ls.length<=3/\XM (co.map (·.p.a.st)) none q.ls=0):=λq G=>by
   obtain⟨⟨k,k1,k2⟩,h2⟩:=hO q G;exact⟨⟨k,oa,k2⟩,h2⟩
  refine Zk Z Z (λz1=>?_) (λz1=>?_)
  ·refine Qt ?_;exact⟨(vx,qx),La,ha,ga,hB,og,gb,z0⟩
  have h7:i<l.xs.length:=by have h93:(i:Int)<(l.xs.length:Int):=z1;omega
  have hX9:=za.st ha;refine Qf<|Qd<|Qn<|Ql<|xo yg hX9 Z Z h7 λa94 z2=>?_;refine Zg (l.xs[i]'h7) λxr hxr=>?_;rw[hxr]at z2;refine x (QF z2 Z (yg xr))<|QV [.int .u8 0,.int .u8 0,.int .u8 0,.int .u8 0] λb11 ho hz hb11 hB11=>x Qe<|Qo<|ZM (us:=Xm xr) hB11 Z Z (yg xr) Z (Qea xr.1) λhw gk z3=>xe ?_;have hE:sW w9 hw:=hz.O gk hb11;refine Qd<|Ql<|x (Zc Z Z)<|xe<|Zh Z (λz4=>?_) (λz4=>?_)
  ·refine Qt ?_;exact⟨(vx,qx),La,ha.D hE.any,ga.I hE,hB.I hE,og,gb,z0⟩
  have hi3:i<2:=by have h98:¬(i:Int)=2:=z4;omega
  have kf:(48:Int)+(i:Int)=((48+i:Nat):Int):=oa
  have q4:=hE.size;have hl11:=z3.lt;refine Zg (⟨#[101]⟩++⟨#[UInt8.ofNat (48+i)]⟩:ByteArray) λnm hJ=>?_;refine Qf<|Ql<|QC Z Z<|x (Yi (k':=.i32) Z ⟨oa,oa⟩)<|x (qC (n:=48+i) (O0 (Value.int .i32) kf) oa)<|x (YQ (a:=⟨#[101]⟩) (b:=⟨#[UInt8.ofNat (48+i)]⟩) Z Z (by show 1+1<=1000000000;omega))<|x (QD Lb) <|
   QV [.string .empty,Zq] λhP gm hh z5 g2=>Qo<|ZM (us:=[.string nm,Zq]) g2 Z (show Go.Lg.ev _ _=_ from O0 (λs=>Value.agg #[.string s,Zq]) hJ) Z Z oy λhQ hR hB1213=>xe ?_
  have kx:sW hw hQ:=hh.O hR z5;have m1:=hE.D kx;have hz1113:=kx.size;have mo:=ha.size;have hltC:=QW hy.c;have nc3:I∉ob vc:=QJ hy.c oa;have hno3:∀b∈ob vc,b∉[I]:=λb hb hm=>by rw[Lc.1 hm]at hb;exact nc3 hb
  have hC13:=Qm (Qg (Qg hy.c hj hno3) ha hno3) m1;have m2:=ga.I m1;have hB1113:=z3.I kx;have hl12:=g2.lt;have n312:I∉[hP]:=om
  have n1112:b11∉[hP]:=om
  have hAC13:=QO (L:=[hP]) hC13 oa (λb hb hm=>by rw[Lc.1 hm]at hb;have:=hltC hP hb;omega);refine QX (α:=O7×xD) [(13,14),(104,140)] (λ_=>[]) (λz w'=>xd [hP] hQ w'/\QN ↑w' hP 186 [.string nm,z.1]/\w'.ownsRow ↑hQ 188 2 z.1 z.2.length (z.2.flatMap Zf)/\z.2.length<=co.length/\z.2.Pairwise (λp q=>p.1<q.1)/\∀p∈z.2,0<=p.1/\p.1<(co.length:Int)/\0<=p.2/\p.2<xh (co.map (·.p.a.st)) p.1.toNat) ol ?_ ?_
  ·refine Qc<|Qs Z m2 Z Z<|QG hAC13 Z<|Qa<|xe<|QY (α:=Nat×O7×xD) [(13,14),(107,140)] (λz=>[(107,sS z.1)])
    (λz w'=>z.1<=co.length/\xd [hP] hQ w'/\QN ↑w' hP 186 [.string nm,z.2.1]/\w'.ownsRow ↑hQ 188 2 z.2.1 z.2.2.length (z.2.2.flatMap Zf)/\z.2.2.length<=z.1/\z.2.2.Pairwise (λp q=>p.1<q.1)/\∀p∈z.2.2,0<=p.1/\p.1<(z.1:Int)/\0<=p.2/\p.2<xh (co.map (·.p.a.st)) p.1.toNat)
    (λz=>co.length - z.1) (0,Zq,[]) Lb
    ⟨Lp _,xd.C _ _,hB1213,QM _ _ _ _,Lr _,List.Pairwise.nil,λp J=>by cases J⟩ ?_
   rintro⟨k,vl,ls⟩ g14 hS ⟨U,hf,hT,hg,m3,gn,hU⟩;simp only[]at U hT hg m3 gn hU;refine Zk Z Z (λm4=>?_) (λm4=>?_)
   ·refine Qt ?_;have ki:k=co.length:=by have h109:¬(k:Int)<(co.length:Int):=m4;omega
    rw[ki]at hU;exact⟨(vl,ls),La,hf,hT,hg,og,gn,hU⟩
   have hv:k<co.length:=by have h109:(k:Int)<(co.length:Int):=m4;omega
   have hAC14:=hAC13.st hf;have gc:=m2.J hf n312;have hB1114:=hB1113.J hf n1112;refine Qf<|Qd<|Qn<|Ql<|Qb<|Qc<|Qs Z gc Z Z<|Qa<|xo qO hAC14 Z Z hv λa113 h113=>?_;refine Zg (co[k]'hv) λq G=>?_;rw[G]at h113;refine x (ZB Z)<|x (ZB Z)<|x (Qq ((h113.from 1).fld 1 (sS q.p.a.st) Z) Z)<|Qb ?_;have m5:=(hX k hv).g;rw[G]at m5;have hqp:=m5.p;have hqs:=m5.s;have m6:=qZ (ns:=xr.1) (j:=0+k*1) (by rw[xr.2.1];omega);have qx0l:=Ju xr.2.2 (0+k*1);refine Zg (xr.1.getD (0+k*1) 0) λxk hxk=>?_;rw[hxk]at m6 qx0l;have hmod:0<=(xk:Int) % (q.p.a.st+2):=Int.emod_nonneg _ oa;refine Ql<|x (ZX (i:=k) Z Z oa)<|ZD hB1114 Z m6<|x (Yi (k':=.i64) Z ⟨oa,oa⟩)<|Qa<|QC Z Z<|x (yx (a:=(xk:Int)) (b:=q.p.a.st+2) Z Z oa oa)<|Qa<|ZT Z Z<|xe ?_;have hgeL:=Qi hg;have hz14:=hf.size;have hz13:=hR.size;have hn12v:hP∉ob vl:=QJ hg oa;have hn11v:b11∉ob vl:=QJ hg oa;have hcget:xh (co.map (·.p.a.st)) k=q.p.a.st:=by
    unfold xh;simp[oQ,List.getElem?_map,oX hv,G]
   refine Zp Z (λh125=>?_) (λh125=>?_)
   ·refine Qf<|Qr<|QC Z Z<|Qa<|xe ?_;exact⟨(k+1,vl,ls),og,Lb,hv,hf,hT,hg,og,gn,λp J=>by have:=hU p J;simp only[];omega⟩
   have hd14:sW hS { hS with drawn:=hS.drawn+1 }:=xd.Y _ _
   refine Zg ((xk:Int) % (q.p.a.st+2)) λst hst=>?_;refine ZK (ob vl) (Xj 0 15 [11,12,14])<|p (QH Z)<|pq (λ_ hc=>Qj (hT.J hc hn12v) Z Z)<|p Qx<|p Qx<|p (λ_=>ZX (i:=k) Z Z oa)<|pq (λ_ hc=>Qj (hB1114.J hc hn11v) Z m6)<|p (λ_=>Yi (k':=.i64) Z ⟨oa,oa⟩)<|p Qx<|p (λ_=>Xy Z Z ⟨oa,oa⟩) <|
    p (λ_=>yx (a:=(xk:Int)) (b:=q.p.a.st+2) Z Z oa oa)<|p (λ_=>QD ⟨Z,Z,La⟩)<|pk<|Q3 [Zf ((k:Int),(xk:Int) % (q.p.a.st+2))] λb137 hM O hb137 hB137=>?_
   have gy:=hd14.D O;have hz1415:=gy.size;refine⟨gy.any,?_⟩;refine pk<|Q0 (news:=Zf ((k:Int),(xk:Int) % (q.p.a.st+2))) (L:=[]) (Qm hg gy) Z Z Z (hB137.at oe) (Qgx _) oa oa λkz hN gz Y hn16=>⟨(gy.any (L:=ob vl)).Q Y,?_⟩;have hge16:∀b∈ob kz,↑hQ<=b:=λb hb=>(Qi gz b hb).1;refine p (QH Z)<|pkk<|Qv ((hT.I gy).J Y hn12v) Z Z oe (QA gz) λm7 h5 hY=>pe ?_;refine Qr<|QC Z Z<|Qa<|xe<|⟨(k+1,kz,ls++[((k:Int),(xk:Int) % (q.p.a.st+2))]),og,Lb,hv,((hf.D gy.any).Z Y (λb hb=>.inr (hgeL b hb).1)).Q h5,hY,?_,by simp only[oO,oL];omega,?_,λp J=>?_⟩
   ·have h9:=Qg gz h5 (λb hb=>by have:=hge16 b hb;simp only[oH];omega);simp only[oO,List.flatMap_append];simpa using h9
   ·simp only[];rw[Mu];exact⟨gn,MN _ _,λp J p' m8=>by rw[Lc.1 m8];have:=hU p J;simp only[];omega⟩
   simp only[]at J ⊢;rcases Lk.1 J with J|J
   ·have:=hU p J;omega
   rw[Lc.1 J];simp only[OD];rw[hcget];omega
  rintro⟨vl,ls⟩ g14 hS ⟨hf,hT,hg,m3,gn,hU⟩;simp only[]at hT hg m3 gn hU;have hz14:=hf.size;have hz13:=hR.size;have ge:sW w9 hS:=m1.O hf oa;have gc:=m2.J hf n312;have k0:=hB.I ge;refine Qc<|Qs Z hT Z Z<|QG (QO (L:=[]) hg oa oe) rfl<|x (Ya rfl rfl)<|xe<|Zp Z (λh144=>?_) (λh144=>?_)
  ·refine Qf<|Qr<|QC Z Z<|Qa<|xe<|⟨(i+1,vx,qx),og,Lb,h7,og,ha.D ge.any,gc,k0,og,gb,λq G=>?_⟩;obtain⟨⟨k,k1,k2⟩,h2⟩:=hO q G;exact⟨⟨k,og,k2⟩,h2⟩
  have h145:(0:Int)<(ls.length:Int):=h144;have hxx:=QA hg;refine Qr<|Qs Z gc Z Z<|Q7 hT Z Z<|Qo<|Q3 [Z4 ⟨nm,vl,ls⟩] λb148 hM O hb148 hB148=>?_;refine Qo<|Q0 (news:=Z4 ⟨nm,vl,ls⟩) (L:=[]) (Qm k0.own O) Z Z Z (hB148.at oe) (QfX hxx) oa (ou ge.size O.size) λkz hN gz Y hn16=>?_;have hs1115:sW hw hM:=(kx.O hf z5).D O;have hM16:=(hB.I hE).app hs1115 (q:=⟨nm,vl,ls⟩) (λt ht=>by rw[Lc.1 ht];exact⟨↑hQ,188,Qm hg O,by show ls.length<=_;omega,hz1113⟩) oa gz Y hn16;have hgeX:=Qi k0.own;have n3x:I∉ob vx:=QJ k0.own oa;refine Q9 Z<|Qo<|Qv ((gc.I O).J Y n3x) Z Z oe (QA gz) λm7 h5 hB317=>xe ?_;refine Qr<|QC Z Z<|Qa<|xe ?_;have k4:xd [I] w8 hN:=((ha.D ge.any).D O.any).Z Y (λb hb=>.inr (hgeX b hb).1);refine⟨(i+1,kz,qx++[⟨nm,vl,ls⟩]),og,Lb,h7,og,k4.Q h5,hB317,hM16.low h5 (λb hb=>by rw[Lc.1 hb];omega),by simp only[oO,oL];omega,?_,λq G=>?_⟩
  ·simp only[List.map_append,oU,OI];rw[Ml];refine⟨gb,oe,λs hs s' hs' e=>?_⟩;obtain⟨q,G,rfl⟩:=Lt.1 hs;obtain⟨⟨k,k1,k2⟩,_⟩:=hO q G;have hk0:k=0:=oa
   have hi1:i=1:=oa
   rw[Lc.1 hs',k2,<-hJ,hk0,hi1]at e;exact O1 e oh
  rcases Lk.1 G with G|G
  ·obtain⟨⟨k,k1,k2⟩,h2⟩:=hO q G;exact⟨⟨k,og,k2⟩,h2⟩
  rw[Lc.1 G];refine⟨⟨i,Nat.lt_succ_self _,hJ.symm⟩,λe=>by rw[show ls=[] from e]at h145;exact O1 h145 oh,by show ls.length<=3;omega,Qhn ls none (λb hb=>by cases hb) gn (λp J=>?_)⟩;rw[Lo];exact hU p J
 rintro⟨vx,qx⟩ g9 w9 ⟨ha,ga,hB,kw,gb,hO⟩;simp only[]at ga hB kw gb hO;have mo:=ha.size;have hB19:=kj.J ha mz;have g151:=QjY (l:=l) h.n 4;have hbd:=h.bd;have hbdb:=Qf4 l.bd (b:=8) oh;refine Zg (l.bd.tmod 8) λbd hbde=>?_;rw[hbde]at hbdb;refine Qc<|Qs Z hB19 Z g151<|x (Yi (k':=.i64) Z ⟨oa,oa⟩)<|x (QjM Z Z oh)<|x (QD ⟨Z,Z,La⟩)<|QV [.string .empty,Zq,sS 0] λb15 ho hz m9 pc =>
  Qo<|ZM (us:=[.string ⟨#[107]⟩,Zq,sS bd]) pc Z (show Go.Lg.ev _ _=_ from O0 (λn=>Value.agg #[.string ⟨#[107]⟩,Zq,sS n]) hbde) Z Z oz λhw gk hB1511=>xe ?_
 have hE:sW w9 hw:=hz.O gk m9;have hB111:=hB19.I hE;have hB311:=ga.I hE;have n115:b1∉[b15]:=om
 have n315:I∉[b15]:=om
 have hl15:=hB1511.lt;refine QX (α:=O7×xD) [(16,16),(157,179)] (λ_=>[]) (λz w'=>xd [b15] hw w'/\QN ↑w' b15 191 [.string ⟨#[107]⟩,z.1,sS bd]/\w'.ownsRow ↑hw 193 2 z.1 z.2.length (z.2.flatMap Zf)/\z.2.length<=n/\z.2.Pairwise (λp q=>p.1<q.1)/\∀p∈z.2,0<=p.1/\p.1<(n:Int)/\-4<p.2/\p.2<4) ol ?_ ?_
 ·refine Ql<|Qa<|xe<|QY (α:=Nat×O7×xD) [(16,16),(158,179)] (λz=>[(158,sS z.1)])
   (λz w'=>z.1<=n/\xd [b15] hw w'/\QN ↑w' b15 191 [.string ⟨#[107]⟩,z.2.1,sS bd]/\w'.ownsRow ↑hw 193 2 z.2.1 z.2.2.length (z.2.2.flatMap Zf)/\z.2.2.length<=z.1/\z.2.2.Pairwise (λp q=>p.1<q.1)/\∀p∈z.2.2,0<=p.1/\p.1<(z.1:Int)/\-4<p.2/\p.2<4)
   (λz=>n - z.1) (0,Zq,[]) Lb
   ⟨Lp _,xd.C _ _,hB1511,QM _ _ _ _,Lr _,List.Pairwise.nil,λp J=>by cases J⟩ ?_
  rintro⟨i,vt,ts⟩ g12 gm ⟨hi,hh,hV,h6,kn,gq,hW⟩;simp only[]at hi hV h6 kn gq hW;refine Zk Z Z (λpd=>?_) (λpd=>?_)
  ·refine Qt ?_;have mg:i=n:=by have h160:¬(i:Int)<1+(cn:Int) % 3:=pd;omega
   rw[mg]at kn hW;exact⟨(vt,ts),La,hh,hV,h6,kn,gq,hW⟩
  have h7:i<n:=by have h160:(i:Int)<1+(cn:Int) % 3:=pd;omega
  have hB112:=hB111.J hh n115;have qf:=Qr7 (l:=l) h.n (i:=i) oa;have qfb:=Qr6 h i oa;refine Zg (flk l i) λfk hfk=>?_;rw[hfk]at qf qfb;refine Qf<|Qd<|Qn<|Ql<|Qb<|Ql<|Q9 Z<|x (ZX (i:=i) Z Z oa)<|ZD hB112 Z qf<|ZS Z Z<|xe<|Zp Z (λh165=>?_) (λh165=>?_)
  ·refine Qf<|Qr<|QC Z Z<|Qa<|xe ?_;exact⟨(i+1,vt,ts),og,Lb,h7,hh,hV,h6,og,gq,λp J=>by have:=hW p J;simp only[];omega⟩
  have hmd:=Qf4 fk (b:=4) oh;have hd12:sW gm { gm with drawn:=gm.drawn+1 }:=xd.Y _ _
  have hz12:=hh.size;have hgeT:=Qi h6;have hn15v:b15∉ob vt:=QJ h6 oa;have hn1v:b1∉ob vt:=QJ h6 oa;refine ZK (ob vt) (Xj 0 14 [10,11,13])<|p (QH Z)<|pq (λ_ hc=>Qj (hV.J hc hn15v) Z Z)<|p Qx<|p Qx<|p (QH Z)<|p (λ_=>ZX (i:=i) Z Z oa)<|pq (λ_ hc=>Qj (hB112.J hc hn1v) Z qf)<|p (λ_=>Yi (k':=.i64) Z ⟨oa,oa⟩) <|
   p (λ_=>QjM Z Z oh)<|p (λ_=>QD ⟨Z,Z,La⟩)<|pk<|Q3 [Zf ((i:Int),fk.tmod 4)] λb176 hQ hR hb176 hB176=>?_
  have g0:=hd12.D hR;have hz1213:=g0.size;refine⟨g0.any,?_⟩;refine pk<|Q0 (news:=Zf ((i:Int),fk.tmod 4)) (L:=[]) (Qm h6 g0) Z Z Z (hB176.at oe) (Qgx _) oa oa λv14 hS hg hf hn14=>⟨(g0.any (L:=ob vt)).Q hf,?_⟩;have hge14:∀b∈ob v14,↑hw<=b:=λb hb=>(Qi hg b hb).1;refine p (QH Z)<|pkk<|Qv ((hV.I g0).J hf hn15v) Z Z oe (QA hg) λhM O pc=>pe ?_;refine Qr<|QC Z Z<|Qa<|xe<|⟨(i+1,v14,ts++[((i:Int),fk.tmod 4)]),og,Lb,h7,((hh.D g0.any).Z hf (λb hb=>.inr (hgeT b hb).1)).Q O,pc,?_,by simp only[oO,oL];omega,?_,λp J=>?_⟩
  ·have h9:=Qg hg O (λb hb=>by have:=hge14 b hb;simp only[oH];omega);simp only[oO,List.flatMap_append];simpa using h9
  ·simp only[];rw[Mu];exact⟨gq,MN _ _,λp J p' m8=>by rw[Lc.1 m8];have:=hW p J;simp only[];omega⟩
  simp only[]at J ⊢;rcases Lk.1 J with J|J
  ·have:=hW p J;omega
  rw[Lc.1 J];simp only[];omega
 rintro⟨vt,ts⟩ g12 gm ⟨hh,hV,h6,kn,gq,hW⟩;simp only[]at hV h6 kn gq hW;have hz12:=hh.size;have hgT:=Qi h6;refine Qc<|Qs Z hV Z Z<|Qw<|(QoL h6 oa).S ?_;rintro vu hQ ⟨hR,k5⟩;have hup:(nzT ts).Pairwise (λp q=>p.1<q.1):=List.Pairwise.filter _ gq;have hul:=LO (λp:Int×Int=>!decide (p.2=0)) ts;have hub:∀p∈nzT ts,0<=p.1/\p.1<(n:Int)/\p.2≠0/\-65536<=p.2/\p.2<=65536:=λp J=>by
  have h1:=LB.1 J;have h2:=hW p h1.1;have h3:¬p.2=0:=by simpa using h1.2
  omega
 refine Zg (nzT ts) λus hus=>?_;have hul':us.length<=3:=by rw[<-hus];exact LA hul oa
 rw[hus]at k5 hup hub;have n15t:b15∉ob vt:=QJ h6 oa;refine Q9 rfl<|Qo<|Qv (hV.J hR n15t) Z Z oe (QA k5) λhS hf hB1514=>xe ?_;have ge:sW w9 hS:=(((hE.O hh m9).Z hR (λb hb=>.inr (oq (hgT b hb).1)))).O hf m9;have hz13:=hR.size;have hz14:=hf.size;have hgU:=Qi k5;have hg:=Qg k5 hf (λb hb=>by have:=(hgU b hb).1;simp only[oH];omega);have gc:=ga.I ge;refine QX (α:=O7×List KV) [(184,190)] (λ_=>[]) (λz w'=>xd [I] hS w'/\QN ↑w' I 46 [ve,vc,vr,vx,z.1]/\z.2.length<=1/\(∀q∈z.2,q.nm=⟨#[107]⟩/\XN (co.map (·.p.a.st)) q.k=0)/\∀L:LN,(∀b∈L,b<↑w6)->jT L ↑w' z.1 z.2) ol ?_ ?_
 ·refine Qc<|Qs Z hB1514 Z Z<|QG (QO (L:=[]) hg oa oe) rfl<|x (Ya rfl rfl)<|xe<|Zp Z (λh187=>?_) (λh187=>?_)
  ·refine Qf ?_;exact⟨(Zq,[]),La,xd.C _ _,gc,oh,λq G=>(by cases G),λL _=>⟨Zw.nil _ _ 3,λq G=>(by cases G),λq G=>(by cases G)⟩⟩
  refine Qr<|Q7 hB1514 Z Z<|Qo<|Q3 [Yl ⟨⟨#[107]⟩,vu,us,bd⟩] λb189 hM O hb189 hB189=>?_;refine Q9 Z<|Qo<|Qv (gc.I O) Z Z oe rfl λhN Y hZ=>xe ?_;refine⟨(_,[⟨⟨#[107]⟩,vu,us,bd⟩]),La,O.any.Q Y,hZ,Lr _,λq G=>?_,λL hL=>?_⟩
  ·rw[Lc.1 G];refine⟨rfl,?_⟩;have hgr0:grt bd=false:=by unfold grt;rw[O4 oa,O4 oa];rfl
   have hct:=Qhm (sz:=co.map (·.p.a.st)) us none (λb hb=>by cases hb) hup (λp J=>by rw[Lo,g4];exact hub p J);show XN _ ⟨_,us,bd⟩=0;unfold XN;rw[OY og,OY (by rw[hct];decide),OY (by simp only[];rw[hgr0];decide)]
  have k6:∀b∈I::L,b<hw.heap.size:=λb hb=>by
   rcases Ll.1 hb with rfl|hb
   ·omega
   have:=hL b hb;omega
  have h1:jT (I::L) ↑hM (sL b189 1 1) [⟨⟨#[107]⟩,vu,us,bd⟩]:=by
   refine⟨hB189.arr (λhb=>oq (k6 _ hb)) Z oh (Lr _),λq G=>?_,λq G=>?_⟩
   ·rw[Lc.1 G];exact(QO (L:=I::L) hg oa (λb hb ko=>ou (hgU b hb).1 (k6 b ko))).I O
   rw[Lc.1 G];exact JB oh
  exact(h1.st (Y.S oe)).up (λb hb=>.inl (Lh _ hb))
 rintro⟨vk,ks⟩ g16 hN ⟨Y,hZ,hv,hgk,pf⟩;simp only[]at hZ hv hgk pf;have hge3:=Qi gs;have hlt3:=QW gs;have k4:xd [I] w8 hN:=(ha.D ge.any).Q Y;have hs716:xd [I] w7 hN:=hj.Q k4;have pg:xd [I,b4] w6 hN:=hH.Q (hs716.S oe);have ph:∀b∈[I],b<w6.heap.size:=λb hb=>by rw[Lc.1 hb];omega
 have hE16:=Qg (Qm gs p7) pg (λb hb hm=>by have:=hlt3 b hb;simp only[oN,oJ,or_false]at hm;omega);have hC16:=hy.low hs716 ph;have hR16:=hI.low k4 (λb hb=>oq (ph b hb));have hX16:=(hB.I ge).low Y (λb hb=>oq (ph b hb));have n23:b2∉[I]:=om
 have n234:b2∉[I,b4]:=by simp only[oN,oJ,or_false];omega
 have hB216:=(pt.I g3).J pg n234;refine Qc<|Q7 hZ Z Z<|Q6 [ve,vc,vr,vx,vk] hB216 ⟨QA hE16,QA hC16.c,QA hR16.c,QA hX16.own,(pf [] oe).arr.one,La⟩ λm7 h5 hB217=>xe ?_;have pn:∀b∈[b2],b<w6.heap.size:=λb hb=>by rw[Lc.1 hb];omega
 have lo2':∀b∈[b2],b<w2.heap.size:=λb hb=>by rw[Lc.1 hb];omega
 have hE17:=Qg hE16 h5 (λb hb hm=>ou (hge3 b hb).1 (lo2' b hm));have hC17:=hC16.low h5 pn;have hR17:=hR16.low h5 (λb hb=>oq (pn b hb));have po:=hX16.low h5 (λb hb=>oq (pn b hb));have hs017:sW w m7:=((pu.D g3).Z pg (λb hb=>.inr (by simp only[oN,oJ,or_false]at hb;omega))).O h5 oa;have hcon:∀q∈co,jW q.nm:=λq G=>by
  obtain⟨k,U,rfl⟩:=LQ G;rw[(hX k U).nm];exact qK 99 k
 have hrqn:∀q∈rq,jW q.nm:=λq G=>by
  obtain⟨k,U,rfl⟩:=LQ G;rw[(hC k U).1.nm];exact qK 114 k
 have hxnm:∀q∈qx,jW q.nm:=λq G=>by
  obtain⟨⟨k,_,k2⟩,_⟩:=hO q G;rw[k2];exact qK 101 k
 have hevn:∀e∈ev,jW e.nm:=λe V=>Qlx _ e (by rw[hev];exact V);have hevl:ev.length=5:=by rw[<-hev];exact VQ _ _
 refine Qk ⟨[.agg #[ve,vc,vr,vx,vk]],⟨Kh hB217,La⟩,hs017,⟨ev,co.map IV.it,rq.map IV.it,qx.map XV.x,ks.map KV.k⟩,⟨⟨ve,vc,vr,vx,vk,ev,co,rq,qx,ks⟩,Z,Z,λL hL=>?_⟩,?_⟩
 ·have k6:∀b∈L,b<w2.heap.size:=λb hb=>oq (hL b hb)
  have hLn:b2∉L:=λhm=>oq (hL b2 hm)
  have kq:∀b∈b2::L,b<w6.heap.size:=λb hb=>by
   rcases Ll.1 hb with rfl|hb
   ·omega
   have:=hL b hb;omega
  refine⟨⟨QO hE17 (by show ev.length<=_;omega) (λb hb ko=>ou (hge3 b hb).1 (k6 b ko)),hevn⟩,hC17.itms oa hcon (λb hb=>oq (kq b (Lh _ hb))),hR17.itms oa hrqn (λb hb=>oq (kq b (Lh _ hb))),⟨QO po.own (by show qx.length<=_;omega) (λb hb ko=>ou (Qi po.own b hb).1 (kq b (Lh _ ko))),λq G=>?_,hxnm⟩,?_⟩
  ·exact po.each q G _ (Lc.2 Z) L (λb hb=>.inl (oq (kq b (Lh _ hb))))
  exact((pf (b2::L) kq).st (h5.S oe)).up (λb hb=>.inl (Lh _ hb))
 rw[<-hev];exact Qq3 oa oa hX gu oa hC kw gb hO hv hgk
structure MeI (base:Nat)(w:O6)(vc va:O7)(co:List IV)(al:List VU):Prop where
 c:w.ownsRow base 81 5 vc co.length (co.flatMap Zm)
 a:w.ownsRow base 94 5 va al.length (al.flatMap Zz)
 dj:Dj vc va
 each:∀q∈co,∀t∈Qig q,YL base (ob vc++ob va) ↑w t.1 t.2.1 t.2.2.1 t.2.2.2
section
variable {vc vc' va':O7}{co:List IV}{al:List VU}
theorem MeI.nil:MeI base w (nS) (nS) [] []:=⟨QM _ _ _ _,QM _ _ _ _,Dj.nil _,λq G=>by cases G⟩
theorem MeI.I (h:MeI base w vc va co al)(G:sW w w'):MeI base w' vc va co al:=⟨Qm h.c G,Qm h.a G,h.dj,λq I t ht=>(h.each q I t ht).I G⟩
theorem MeI.low {X:LN}(h:MeI base w vc va co al)(G:xd X w w')(hX:∀b∈X,b<base):MeI base w' vc va co al :=
 ⟨Qg h.c G (λb hb I=>ou (Qi h.c b hb).1 (hX b I)),Qg h.a G (λb hb I=>ou (Qi h.a b hb).1 (hX b I)),h.dj,λq J t ht=>(h.each q J t ht).low G hX⟩
theorem MeI.avlt (h:MeI base w vc va co al):∀b∈ob vc++ob va,b<w.heap.size:=λb hb=>(Lk.1 hb).elim (QW h.c b) (QW h.a b)
theorem MeI.setC {q:IV}(h:MeI base w vc va co al)(V:∀t∈Qig q,YL base (ob vc++ob va) ↑w t.1 t.2.1 t.2.2.1 t.2.2.2)(Y:w'.ownsRow base 81 5 vc' (co.length+1) (co.flatMap Zm++Zm q))
  (G:xd (ob vc) w w') (I:∀b∈ob vc',b∈ob vc\/↑w<=b):MeI base w' vc' va (co++[q]) al:=by
 have J:xd (ob vc++ob va) w w':=G.S (λb hb=>Lk.2 (.inl hb));have O:∀b∈ob vc'++ob va,b∈ob vc++ob va\/↑w<=b:=λb hb=>by
  rcases Lk.1 hb with hb|hb
  ·exact(I b hb).imp (λh=>Lk.2 (.inl h)) id
  exact .inl (Lk.2 (.inr hb))
 refine⟨?_,Qg h.a G (λb hb ha=>h.dj b ha hb),λb hb U=>?_,λd hd t ht=>?_⟩
 ·rw[Le,LJ];simpa using Y
 ·rcases I b hb with h1|h1
  ·exact h.dj b h1 U
  have:=QW h.a b U;omega
 rcases Lk.1 hd with hd|hd
 ·exact(h.each d hd t ht).app J O
 simp only[oH]at hd;subst hd;exact(V t ht).app J O
theorem MeI.setA {G:List VU}(h:MeI base w vc va co al)(U:w'.ownsRow base 94 5 va' G.length (G.flatMap Zz))(J:xd (ob va) w w')(O:∀b∈ob va',b∈ob va\/↑w<=b):MeI base w' vc va' co G:=by
 have V:xd (ob vc++ob va) w w':=J.S (λb hb=>Lk.2 (.inr hb));have Y:∀b∈ob vc++ob va',b∈ob vc++ob va\/↑w<=b:=λb hb=>by
  rcases Lk.1 hb with hb|hb
  ·exact .inl (Lk.2 (.inl hb))
  exact(O b hb).imp (λh=>Lk.2 (.inr h)) id
 refine⟨Qg h.c J (λb hb I=>h.dj b hb I),U,λb hb I=>?_,λd hd t ht=>(h.each d hd t ht).app V Y⟩;rcases O b I with h1|h1
 ·exact h.dj b hb h1
 have:=QW h.c b hb;omega
theorem MeI.itms (h:MeI base w vc va co al)(J:co.length<=1099511627776)(O:∀q∈co,jW q.nm)(G:∀b∈L,b<base):VF L ↑w vc co :=
 ⟨QO h.c J (λb hb U=>ou (Qi h.c b hb).1 (G b U)),λq I=>⟨h.each q I (q.p.va,q.p.a.al.length,1,q.p.a.al.map (.int .i64)) oe L (λb hb=>.inl (G b hb)),h.each q I (q.p.vm,q.p.a.mr.length,1,q.p.a.mr.map (.int .i64)) oe L (λb hb=>.inl (G b hb)),h.each q I (q.p.ve,q.p.a.ed.length,3,q.p.a.ed.flatMap Qp) oe L (λb hb=>.inl (G b hb))⟩,O⟩
end
def mzA (s f:Int):Qz:=⟨[s,f],2,[0],[(0,s,1),(1,f,0)]⟩
theorem QfQ (nm:ByteArray)(s f:Int)(w:O6):QT sV 243 [.string nm,sS s,sS f] w λr w'=>sW w w'/\∃xa xm xe,r=.agg #[.string nm,xa,sS 2,xm,xe]/\ZN [xa,xm,xe]/\∀L:LN,(∀b∈L,b<↑w)->Zv L ↑w' xa xm xe (mzA s f):=by
 refine Zn func243 ?_;refine Qc<|QV [.string .empty,nS,sS 0,nS,nS] λb6 w1 hf hg O=>xe ?_;have hh:=O.lt;refine Ql<|Qa<|Qo<|Q3 [[sS s],[sS f]] λb10 w2 U hw hj=>Qo<|Q3 [[sS 0]] λb11 w3 G hy hk =>
  Qa<|x (QD ⟨Z,Z,Z,La⟩)<|Qa<|x (QD ⟨Z,Z,Z,La⟩)<|Qo<|Q3 [Qp (0,s,1),Qp (1,f,0)] λb16 V I hz hm=>?_
 have Y:=(U.D G).D I;have hn:=hf.D Y;have h0:=U.size;have h3:=G.size;have hF:Xu ↑w1 ↑V (.agg #[sL b10 2 2,sS 2,sL b11 1 1,sL b16 2 2]) (mzA s f):=
  Qbf (a:=mzA s f) ((hj.I G).I I) (hk.I I) hm oa oa oa Z Z Z oh oh oh
 refine x (QD ⟨Z,Z,Z,Z,La⟩)<|QV zB λb7 w5 ho hp hq=>Q6 [sL b10 2 2,sS 2,sL b11 1 1,sL b16 2 2] hq oA λw6 hr hs=>xe ?_;have J:sW V w6:=ho.O hr hp;refine Ql<|Q7 hs Z Z<|x (ZE [(0,[.string nm]),(1,[sL b10 2 2,sS 2,sL b11 1 1,sL b16 2 2])] ⟨Z,Z,Z,Z,La⟩) <|
  Q6 [.string nm,sL b10 2 2,sS 2,sL b11 1 1,sL b16 2 2] ((O.I Y).I J) ⟨Z,Z,Z,Z,Z,La⟩ λw7 ha hu=>xe ?_
 obtain⟨xa,xm,h4,hv,hA⟩:=hF;have he:=O0 (λv=>match v with|Value.agg cs=>cs.toList|_=>[]) hv
 simp only[List.cons.injEq,and_true]at he;obtain⟨rfl,_,rfl,rfl⟩:=he;refine Qk ⟨[.agg #[.string nm,sL b10 2 2,sS 2,sL b11 1 1,sL b16 2 2]],⟨Kh hu,La⟩,(hn.D J).O ha hg,_,_,_,Z,oz,λL hL=>?_⟩;have h1:=(hA (b6::L) (λb hb=>by
  rcases Ll.1 hb with rfl|hb
  ·exact hh
  have:=hL b hb;omega)).I J
 exact(h1.st (ha.S oe)).up (λb hb=>.inl (Lh _ hb))
def nmZ (p:Array UInt8)(i:Nat):ByteArray:=⟨p⟩++⟨#[UInt8.ofNat (97+i)]⟩
abbrev Qj7:Array UInt8:=#[115,116,97,114,116]
abbrev Qgv:Array UInt8:=#[102,105,110,105,115,104]
abbrev JK:Array UInt8:=#[109,97,99,104,105,110,101]
def Qdm (i:Nat):List VU:=[⟨nmZ Qj7 i,true,true,false,0⟩,⟨nmZ Qgv i,false,true,false,0⟩]
def mzE (c:Nat):List VU:=(oM c).flatMap Qdm
def Qsi (i:Nat):Jz:=⟨nmZ JK i,mzA (2*(i:Int)) (2*(i:Int)+1)⟩
def mzC (c:Nat):ZO:=⟨mzE c,(oM c).map Qsi,[],[],[]⟩
theorem qJ (p:Array UInt8)(i:Nat)(h:p.size<=10):jW (nmZ p i):=by
 show(ByteArray.mk _++ByteArray.mk _).size<=_;rw[ByteArray.size_append];show p.size+1<=_;omega
theorem Qqm (c:Nat):∀e∈mzE c,jW e.nm:=λe G=>by
 unfold mzE at G;obtain⟨i,_,hi⟩:=Mh.1 G;simp only[Qdm,oN,oJ,or_false]at hi;rcases hi with rfl|rfl
 ·exact qJ _ _ oh
 exact qJ _ _ oh
theorem Qdn (c:Nat):mzE (c+1)=mzE c++Qdm c:=by unfold mzE;rw[Nn,LJ];simp
theorem QgL:∀c,(mzE c).length=2*c
 | 0=>rfl
 | c+1=>by rw[Qdn,Le,QgL c];show 2*c+2=_;omega
theorem Qh9 (i:Nat):∀u∈(Qdm i).flatMap Zz,u.oneCell'=true:=λu G=>by
 obtain⟨e,_,I⟩:=Mh.1 G;exact QdF e u I
theorem J9 (c:Nat)(ga:c<=4)(w:O6):QT sV 182 [sS c] w λr w'=>sW w w'/\Qpj ↑w ↑w' r (mzC c):=by
 refine Zn func182 ?_;refine Qc<|QV Vo λb2 w1 hI gb hy=>xe ?_;refine Qc<|QV Vo λO U hz gc h0=>xe ?_;have ge:=hy.lt;have hk:=h0.lt;refine Qd<|Ql<|Qa<|xe<|QY (α:=Nat×O7×List VU×O7×List IV) [(4,4),(6,42)] (λz=>[(6,sS z.1)])
  (λz w'=>z.1<=c/\xd [O] U w'/\QN ↑w' O 46 [z.2.1,z.2.2.2.1,Zq,Zq,Zq]/\MeI ↑U w' z.2.2.2.1 z.2.1 z.2.2.2.2 z.2.2.1/\z.2.2.1=mzE z.1/\z.2.2.2.2.map IV.it=(oM z.1).map Qsi/\∀q∈z.2.2.2.2,jW q.nm)
  (λz=>c - z.1) (0,Zq,[],Zq,[]) Lb ⟨Lp _,xd.C _ _,h0,MeI.nil,Z,Z,λq G=>by cases G⟩ ?_
 rintro⟨i,ve,ev,vc,co⟩ g3 w3 ⟨hi,hf,hg,I,hev,V,hm⟩;simp only[]at hi hg I hev V hm;have gg:=hf.size;have gh:ev.length=2*i:=by rw[hev];exact QgL i
 have gi:co.length=i:=by have:=O0 oY V;simpa using this
 refine Zk rfl Z (λh7=>?_) (λh7=>?_)
 ·refine Qt ?_;have hJ:i=c:=by have h8:¬(i:Int)<(c:Int):=h7;omega
  rw[hJ]at hev V;have hK:b2∉[O]:=om
  have hn:=(hy.I hz).J hf hK;refine Qc<|Q7 hg Z Z<|Q6 [ve,vc,Zq,Zq,Zq] hn ⟨QA I.a,QA I.c,Z,Z,Z,La⟩ λw4 J hM=>xe ?_;have hN:∀b∈[b2],b<U.heap.size:=λb hb=>by rw[Lc.1 hb];omega
  have ho:=I.low J hN;refine Qk ⟨[.agg #[ve,vc,Zq,Zq,Zq]],⟨Kh hM,La⟩,((hI.D hz).O hf oa).O J oa,⟨ve,vc,Zq,Zq,Zq,ev,co,[],[],[]⟩,Z,?_,λL hL=>?_⟩
  ·show(⟨ev,co.map IV.it,[],[],[]⟩:ZO)=mzC c;rw[hev,V];rfl
  have h3:∀b∈L,b<U.heap.size:=λb hb=>oq (hL b hb)
  exact⟨⟨QO ho.a (by show ev.length<=_;omega) (λb hb hO=>ou (Qi ho.a b hb).1 (h3 b hO)),λe he=>Qqm c e (by rw[<-hev];exact he)⟩,ho.itms oa hm h3,⟨Zw.nil _ _ 5,λq G=>(by cases G),λq G=>(by cases G)⟩,⟨Zw.nil _ _ 2,λq G=>(by cases G),λq G=>(by cases G)⟩,⟨Zw.nil _ _ 3,λq G=>(by cases G),λq G=>(by cases G)⟩⟩
 have hP:i<c:=by have h8:(i:Int)<(c:Int):=h7;omega
 have hu:(97:Int)+(i:Int)=((97+i:Nat):Int):=oa
 refine Qf<|Qd<|Qn<|Ql<|Qb<|Qc<|Qs Z hg Z Z<|Qa<|QC Z Z<|x (Yi (k':=.i32) Z ⟨oa,oa⟩)<|x (qC (n:=97+i) (O0 (Value.int .i32) hu) oa)<|x (YQ (a:=⟨Qj7⟩) (b:=⟨#[UInt8.ofNat (97+i)]⟩) Z Z (by show 5+1<=1000000000;omega))<|x (QD ⟨Z,Z,Z,La⟩) <|
  Qa<|QC rfl Z<|x (Yi (k':=.i32) Z ⟨oa,oa⟩)<|x (qC (n:=97+i) (O0 (Value.int .i32) hu) oa)<|x (YQ (a:=⟨Qgv⟩) (b:=⟨#[UInt8.ofNat (97+i)]⟩) Z Z (by show 6+1<=1000000000;omega))<|x (QD ⟨Z,Z,La⟩) <|
  Qo<|Q3 ((Qdm i).map Zz) λgj w4 J gk hn=>?_
 have gl:=J.size;have hQ:O∉ob ve:=QJ I.a hk;have h4:O∉ob vc:=QJ I.c hk;have hR:=Qi I.c;refine Qo<|Q0 (m:=2) (news:=(Qdm i).flatMap Zz) (L:=[]) (Qm I.a J) Z Z Z (hn.at oe) (Qh9 i) oa oa λhp w5 h5 hr hS=>?_;refine Q9 rfl<|Qo<|Qv (j:=0) (u:=hp) ((hg.I J).J hr hQ) Z Z oe (QA h5) λY h6 h9=>xe ?_;have hT:MeI ↑U w5 vc hp co (ev++Qdm i):=(I.I J).setA (by rw[Le,LJ];exact h5) hr hS;have hB:∀b∈[O],b<U.heap.size:=λb hb=>by rw[Lc.1 hb];exact hk
 have hC:=hT.low h6 hB;have hD:xd [O] U Y:=((hf.D J.any).Z hr (λb hb=>.inr ((Qi I.a) b hb).1)).Q h6;have gm:=hD.size;have hU:sW Y { Y with drawn:=Y.drawn+1 }:=xd.Y _ _
 refine ZK (ob vc) (Xj 0 17 [12,13,14,16])<|p (QH Z)<|pq (λ_ hc=>Qj (h9.J hc h4) Z Z)<|p Qx<|p (λ_=>Xy Z Z ⟨oa,oa⟩)<|p (λ_=>Yi (k':=.i32) Z ⟨oa,oa⟩)<|p (λ_=>qC (n:=97+i) (O0 (Value.int .i32) hu) oa) <|
  p (λ_=>YQ (a:=⟨JK⟩) (b:=⟨#[UInt8.ofNat (97+i)]⟩) Z Z (by show 7+1<=1000000000;omega))<|p Qx<|p (λ_=>Qgp Z Z ⟨oa,oa⟩)<|p Qx<|p (λ_=>Qgp Z Z ⟨oa,oa⟩)<|p (λ_=>Xy Z Z ⟨oa,oa⟩) <|
  pk<|xg<|(QfQ (nmZ JK i) (2*(i:Int)) (2*(i:Int)+1) _).S ?_
 rintro r7 w7 ⟨hV,xa,xm,hh,rfl,hs,hA⟩;have hv:=hU.D hV;refine⟨hv.any,?_⟩;refine pk<|Q3 [Zm ⟨nmZ JK i,⟨xa,xm,hh,mzA (2*(i:Int)) (2*(i:Int)+1)⟩⟩] λgn w8 hw gq hW=>⟨(hv.D hw).any,?_⟩;have ha:=hv.D hw;have hE:=hC.I ha;refine pk<|Q0 (news:=Zm ⟨nmZ JK i,⟨xa,xm,hh,mzA (2*(i:Int)) (2*(i:Int)+1)⟩⟩) (L:=[]) hE.c Z Z Z (hW.at oe) (QbV hs.1 hs.2.1 hs.2.2.1) oa (oq ha.size) λhF w9 hG hj hX=>⟨(ha.any (L:=ob vc)).Q hj,?_⟩;have hY:=hE.setC (yW (q:=⟨nmZ JK i,⟨xa,xm,hh,mzA (2*(i:Int)) (2*(i:Int)+1)⟩⟩) (N:=↑Y) (λL hL=>(hA L hL).I hw) oa hC.avlt) hG hj hX;refine p (QH Z)<|pkk<|Qv (j:=1) (u:=hF) ((h9.I ha).J hj h4) Z Z oe (QA hG) λgr hH hZ=>pe ?_;refine Qr<|QC Z Z<|Qa<|xe<|⟨(i+1,hp,ev++Qdm i,hF,co++[⟨nmZ JK i,⟨xa,xm,hh,mzA (2*(i:Int)) (2*(i:Int)+1)⟩⟩]),og,Lb,hP,((hD.D ha.any).Z hj (λb hb=>.inr (hR b hb).1)).Q hH,hZ,hY.low hH hB,?_,?_,λq G=>?_⟩
 ·simp only[];rw[Qdn,hev]
 ·simp only[];rw[Lv,V,Nn,Lv];rfl
 rcases Lk.1 G with G|G
 ·exact hm q G
 rw[Lc.1 G];exact qJ _ _ oh
instance skRsn:Sk sV 173 [0,0,0,0]:=⟨⟨_,underlying173,.int oh Z underlying3<|.int oh Z underlying3<|.int oh Z underlying3<|.int oh Z underlying3 .nil⟩,od,od⟩
theorem qQ {v:O7}{l:List Rsn}(h:Zw L ↑w v l.length 4 (l.flatMap Z5))(G:Zw L' ↑w v' l.length 4 (l.flatMap Z5)):
  QT sV 184 [v,v'] w λr w'=>r=.bool true/\sW w w':=by
 haveI:DecidableEq Rsn:=λ_ _=>Classical.propDecidable _;exact(eqG ⟨_,Z,func184⟩ QjB (ldA QjB) h G λ{_ _ _ _ _ _ _ _ _ a b} _ _ hx I=>(Qc6 (xs:=Z5 a) (ys:=Z5 b) Z hx I).D (by cases a;cases b;simp[jm,eqV];rfl)).S λ_ _ ⟨h1,h2⟩=>⟨by rw[h1];simp,h2⟩
def UP:ByteArray:=⟨#[110,101,118,101,114]⟩
def QbJ:ByteArray:=⟨#[98,111,116,104]⟩
def QbI:ByteArray:=⟨#[109,111,115,116]⟩
def QbX:Jz:=⟨UP,⟨[1],1,[0],[]⟩⟩
def QqX (i j:Int):Exc:=⟨QbJ,[(i,1),(j,1)]⟩
def Qq5:xQ:=⟨QbI,[(0,1),(1,1)],1⟩
def k1C:ZO:={ mzC 1 with rq:=[QbX] }
def k2C:ZO:={ mzC 2 with ex:=[QqX 0 1] }
def k3C:ZO:={ mzC 2 with cs:=[Qq5] }
theorem Qst:YY k1C=0:=od
theorem Qss:(spc k1C).fb=[⟨1,3,0,1⟩]:=od
theorem Qpt:(spc k1C).a.st=2:=od
theorem QqC:Qhl k1C=true:=od
theorem QqD:cmB k1C=[2]:=od
theorem QtJ:YY k2C=0:=od
theorem Qsq:(spc k2C).fb=[⟨3,1,0,-1⟩]:=od
theorem Qsp:(spc k2C).a.st=4:=od
theorem QtI:YY k3C=0:=od
theorem Qsn:(spc k3C).fb=[⟨3,2,0,-1⟩]:=od
theorem QhI {v:O7}(G:v.cells=#[v]):QT sV 282 [v] w λr w'=>sW w w'/\∃b,r=.func (.func 309) #[] #[sP b]/\↑w<=b/\QN ↑w' b 47 [v]:=by
 refine Zn func282 ?_;refine Qc<|Qo<|zg (us:=[v]) G λI V J O U=>Qb<|Qc<|x Zl<|Qb<|Qk ⟨[_],Lb,J,I,Z,O,U⟩
theorem QcG {O:Nat}{v:O7}{es:LI}(hg:QN ↑w O 47 [v])(hE:Qu L ↑w v es):
  SeqStopsK (fen none) m sV 309 #[sP O] (λx:Int=>#[sS x]) (Lw ↑w L) (λys=>ys=es) (λ_=>True) (es.length+1) w:=by
 intro l J Jx W hh hJ hm hY h0;have Y:sW w W:=xd.of_below hh;have hq:=hE.le;have ab:∀{ys:LI} {W1 W2:O6},J ys W1->sW W1 W2->J ys W2:=λ{ys W1 W2} hj U=>hJ ys W1 W2 none hj ⟨U.os,U.tape,U.output,U.size,λk V _=>U.block k V oe⟩ (λr e=>by cases e);have key:QT sV 309 [.func (.yield l) #[] #[],sP O] W (λ_ W'=>(∃ys,ys=es/\J ys W')\/(∃pre,True/\Jx pre W')):=by
  refine QT.of_G m func309 Z ntmps309 results309 oe ?_;refine QQ<|Qy ol ol<|ZD (hg.I Y) Z Z<|QG (hE.I Y) Z<|Qa<|xe<|ZL<|K3 (α:=Nat) [(4,4),(7,15)] (λk=>[(7,sS k)]) (λk ds W'=>ds=[]/\k<=es.length/\xd L w W'/\J (es.take k) W') (λk=>es.length - k) ol 0 Lb
   ⟨Z,Lp _,Y.any,h0⟩ ?_
  rintro k g ds w1 ⟨rfl,V,hf,ha⟩;refine QQ<|Qy ol ol<|ZT Z Z<|xe<|QQ<|qm Z (λh8=>?_) (λh8=>?_)
  ·refine JQ ?_;have hn:es.length<=k:=by have h9:¬(k:Int)<(es.length:Int):=h8;omega
   rw[Ls hn]at ha;exact⟨λ_ h=>(by cases h),MB,[],λW' G=>⟨La,.inl ⟨es,rfl,ab ha G⟩⟩⟩
  refine Yd ?_;have I:k<es.length:=by have h9:(k:Int)<(es.length:Int):=h8;omega
  have ho:es.take (k+1)=es.take k++[es[k]'I]:=Ln I;have hr:(es.take k).length=k:=by rw[LH];omega
  refine QQ<|ZL<|QQ<|Qy ol ol<|xii (i:=k) (hE.st hf) Z Z I λa9 h9=>x (Qq h9 Z)<|Qb<|QQ<|KM ol ?_;refine JD.pre2 ?_;refine Qa<|Qa<|xe<|xy (l:=l) Z (hY (es.take k) (es[k]'I) w1 ha oa) λen W3 hp=>Or.elim hp (λh1=>⟨.bool true,h1.1,?_⟩) (λh1=>⟨.bool false,h1.1,?_⟩)
  ·refine JD.of_XL<|x (Zi Z)<|xe<|Kc Z<|Yd ?_;refine Qy ol ol<|QC Z Z<|Qa<|xe ?_;exact⟨k+1,oa,Lb,Z,I,hf.lw h1.2.2,by rw[ho];exact h1.2.1⟩
  refine JD.of_XL<|x (Zi Z)<|xe<|jU Z ?_;refine Ka ⟨λ_ h=>(by cases h),MB,[],λW' G=>⟨La,.inr ⟨es.take k++[es[k]'I],La,?_⟩⟩⟩;exact hm _ W3 W' none h1.2 ⟨G.os,G.tape,G.output,G.size,λk V _=>G.block k V oe⟩ (λr e=>by cases e)
 refine(callsIn_wide (n:=m)).2 ?_;have ea:(#[.func (.yield l) #[] #[]]++[sP O].toArray:Array O7)=#[.func (.yield l) #[] #[],sP O]:=oe
 rw[ea];unfold QT at key;refine Calls.mono key λe w' he=>?_;cases e with
 | returned v=>exact⟨⟨v,Z⟩,he⟩
 | panicked c=>exact he.elim
 | outgrown=>exact he.elim
theorem QiF {b1:Nat}{v:O7}{es:LI}(hn:QN ↑w b1 47 [v])(hE:Qu [] ↑w v es)(hl:es.length<=1000):
  QT sV 321 [Zq,.func (.func 309) #[] #[sP b1]] w λr w'=>sW w w'/\Qh 3 ↑w w' r es:=by
 refine QT.of_G 20 func321 Z ntmps321 results321 oe ?_;refine QQ<|Qy ol ol<|Zd [Zq] λU w1 Y hf hg=>Qb ?_;have hs:=Y.size;have hu:=hg.lt;refine QQ<|QQ<|Qy ol ol<|Qa<|xe<|ZL<|QhF (α:=Int) [U] oa (capt:=[sP b1]) Z (enc:=λx=>sS x) oh
  (QcG (hn.I Y) ((hE.up (L':=[U]) (λb hb=>.inr (by rw[Lc.1 hb];exact hf))).I Y))
  (λpre W=>∃vo,xd [U] w1 W/\QN ↑W U 47 [vo]/\Qh 3 ↑w1 W vo pre)
  (λpre=>Yf.ex λvo=>(Yf.J (Lr _)).and (Yf.blk.and Yf.row))
  ⟨Zq,xd.C _ _,hg,QM _ _ _ _⟩
  (λf x f' W=>f'=upd (upd f 7 (sS x)) 5 (sS x)) (λx f'=>Yf.pure _) ?_ ?_ ?_
 ·rintro l pre e W ⟨vo,O,J,G⟩;refine Qy ol ol<|Qb<|⟨Z,X9.refl _ _ _,⟨vo,O,J,G⟩,Z⟩
 ·rintro l pre e f' W ⟨vo,O,J,G⟩ rfl hN;have hh:U∉ob vo:=QJ G oa;have hge:=Qi G;have ho:=O.size;refine ZL<|Qy ol ol<|ZD J Z Z<|Qa<|Qo<|Q3 [[sS e]] λb10 w2 I hv hp=>?_;refine Qo<|Q0 (m:=1) (news:=[sS e]) (Qm G I) Z Z Z (hp.at (L:=[]) oe) oo oa (oq I.size) λv3 w3 ha V hw=>?_;refine Qo<|Qv (u:=v3) ((J.I I).J V hh) Z Z oe (QA ha) λw4 he hq=>xe ?_;have hy:=I.size;refine⟨((X9.I I ho).D (X9.J V oa (λb hb=>⟨.inr (hge b hb).1,Go.Lg.Q8 (Qm G I) b hb⟩))).D (X9.blk he (oq V.size) ((J.I I).J V hh) (.inl Lj)),v3,((O.D I.any).Z V (λb hb=>.inr (hge b hb).1)).Q he,hq,?_⟩;exact Qh.snoc (Qg ha he (λb hb=>by have:=(Qi ha b hb).1;simp only[oH];omega))
 rintro D xs W hD rfl ⟨vo,O,J,G⟩ hj;refine QQ<|Qy ol ol<|ZD J Z Z<|Qb<|Ka ⟨λD' hr=>by rw[Lc.1 hr];exact hj,MN _ _,[vo],λW' hk=>⟨Lb,(Y.O O hf).Z hk (λb hb=>.inr (by rw[Lc.1 hb];omega)),?_⟩⟩;refine Za (Qg G hk (λb hb hm=>?_)) oa;rw[Lc.1 hm]at hb;obtain⟨o,h1,h2⟩:=Go.Lg.Q8 G _ hb;rw[hj]at h1;cases h1
 cases h2
theorem Qft {v:O7}{es:LI}(I:QN ↑w G 47 [v])(hE:Qu [] ↑w v es)(hl:es.length<=1000):
  QT sV 308 [.func (.func 309) #[] #[sP G]] w λr w'=>sW w w'/\Qh 3 ↑w w' r es:=by
 refine Zn func308 ?_;refine Qc<|Qb<|Ql<|Qw<|(QiF I hE hl).S ?_;rintro J V ⟨O,U⟩;refine Qb<|Qk ⟨[J],Lb,O,U⟩
theorem QhM {v:O7}{es:LI}(J:QN ↑w G 47 [v])(hE:Qu [] ↑w v es)(hl:es.length<=1000):
  QT sV 281 [.func (.func 309) #[] #[sP G]] w λr w'=>sW w w'/\Qh 3 ↑w w' r (es.mergeSort λx y=>decide (x<=y)):=by
 refine Zn func281 ?_;refine Qc<|Qb<|Ql<|Qw<|(Qft J hE hl).S ?_;rintro O w1 ⟨U,I⟩;refine Qb<|Ql<|Qw<|(Kn I oa).S ?_;rintro r2 w2 ⟨V,Y⟩;refine xe<|Ql<|Qb<|Qk ⟨[O],Lb,U.Z V (λb hb=>.inr (Qi I b hb).1),Y⟩
theorem Qg0 {n:Int}:∀{l:LI}(i:Nat),n∈l->fix (λe=>decide (n=e)) i l=((i+l.idxOf n:Nat):Int)
 | a::l,i,h=>by
  rw[YH,List.idxOf_cons];by_cases e:n=a
  ·simp[e]
  rw[OY (ox e),show(a == n)=false by simpa using Ne.symm e,Qg0 (i+1) ((Ll.1 h).resolve_left e)];simp only[cond_false];omega
theorem QqN {v:O7}{l:LI}(h:Qu L ↑w v l){n:Int}(G:n∈l):
  QT sV 139 [v,sS n] w λr w'=>w'=w/\r=sS (l.idxOf n:Nat):=
 (QaQ h n).S λ_ _ ⟨h1,h2⟩=>⟨h1,by rw[h2,Qg0 0 G,LY]⟩
def rlE (a:Qz)(to:LI):List Ed:=a.ed.map λe=>(e.1,xh to (a.al.idxOf e.2.1),e.2.2)
theorem QfL {to sa:LI}{se:List Ed}(h:Zv [] ↑w va vm ve a)(hck:Jj a=0)(ho:QL a)(ht:Qu [] ↑w vt to)(hE:to.length=a.al.length)(hN:∀e∈to,0<=e/\e<32)(g0:to.Nodup)
  (hO:to.mergeSort (λx y=>decide (x<=y))=sa) (g2:∀l',l'.Perm (rlE a to)->l'.Pairwise QdK->l'=se) (hok:QL ⟨sa,a.st,a.mr,se⟩):
  QT sV 250 [.agg #[va,sS a.st,vm,ve],vt] w λr w'=>sW w w'/\∃v,r=.tuple #[v,sS 0]/\Xu ↑w ↑w' v (YB ⟨sa,a.st,a.mr,se⟩):=by
 have mc:=ho.st0;have mf:=ho.st1;have mg:=ho.al_le;refine Zn func250 ?_;refine Qc<|Zd [va,sS a.st,vm,ve] λb2 w1 hP mh g3=>QV zB λb4 w2 hQ mj hR=>Qb ?_;have hS:=hP.D hQ;have mo:=hP.size;have mq:=hR.lt;have hT:=g3.I hQ;refine Qd<|Qc<|Q7 hT Z Z<|Qw<|(Xb (h.I hS)).S ?_;rintro r3 w3 ⟨hU,h0⟩;rw[hck]at hU;subst hU;have hG:=hS.D h0;have ms:=h0.size;have hg:=hT.I h0;refine Qb<|Ql<|ZS Z Z<|xe<|ZC rfl<|Qf ?_;have h5:=h.I hG;have ha:=ht.I hG;refine Qd<|Ql<|QG ha Z<|Qs Z hg Z Z<|QG h5.al Z<|ZS Z Z<|xe<|Zh rfl (λhV=>O1 (O0 (λm:Nat=>(m:Int)) hE) hV) (λhV=>?_);refine Qf<|QX (α:=Unit) [(5,5),(7,8),(25,47)] (λ_=>[]) (λ_ w'=>w'=w3) ol ?_ ?_
 ·refine Ql<|QG ha Z<|Qa<|xe<|QY (α:=Nat) [(5,5),(7,8),(27,47)] (λk=>[(27,sS k)]) (λk w'=>w'=w3/\k<=to.length) (λk=>to.length - k) 0 Lb ⟨Z,Lp _⟩ ?_;rintro k g w' ⟨rfl,hk⟩;refine Zk Z Z (λhW=>?_) (λhW=>?_)
  ·refine Qt ?_;exact⟨(),La,Z⟩
  have J:k<to.length:=by have mt:(k:Int)<(to.length:Int):=hW;omega
  have g4:=hN _ (Lm J);have hX:(to[k]'J)∉to.take k:=λhm=>by
   obtain⟨j,hj,hY⟩:=LQ hm;rw[Ng]at hY;have g5:j<k:=by rw[LH]at hj;omega
   have:=(Mn.1 g0) j k oa J g5;exact this hY
  refine Zg (to[k]'J) λe Y=>?_;rw[Y]at g4 hX;refine Qf<|Qd<|Qn<|Ql<|xii ha Z Z J λmu hZ=>?_;rw[Y]at hZ;refine x (Qq hZ Z)<|x Qe<|Qb<|Qn<|Ql<|xb (YF Z Z) (λga=>O1 (show e<0 from ga) oa) (λga=>?_);refine Qa<|Qa<|x (Yn Z Z)<|QB Z<|Qb<|Zh Z (λgb=>O1 (show e≥32 from gb) oa) (λgb=>?_);refine Ql<|Qa<|QpM ha Z Z oa λg6 g7=>?_;have g8:Qu [] ↑w' g6 (to.take k):=by
   unfold Qu;have g9:(to.take k).length=k:=by rw[LH];omega
   rw[g9,List.map_take];simpa using g7
  refine Qa<|Qw<|(ZG g8 e).S ?_;rintro mv w' ⟨rfl,rfl⟩;refine Qb<|Zh Z (λgc=>O1 gc hX) (λgc=>?_);refine Qf<|Qr<|QC Z Z<|Qa<|xe ?_;exact⟨k+1,oa,Lb,Z,J⟩
 rintro⟨⟩ g w' rfl;have ka:sW w' { w' with drawn:=w'.drawn+1 }:=xd.Y _ _
 refine QX (α:=Nat×O7) [(9,9),(48,55)] (λz=>[(9,.pointer (some ⟨z.1,0,none⟩))]) (λz I=>sW w' I/\↑w'<=z.1/\QN ↑I z.1 53 [z.2,sS a.st,vm,nS]/\z.2.oneCell'=true/\∀L:LN,(∀b∈L,b<↑w'\/b=z.1)->Qu L ↑I z.2 sa) ol ?_ ?_
 ·refine JO _ mixed ol (Uq (α:=O7) (sW w') [oB 0,oB 3,oB 4,oB 5,oB 6] [oC 1,oC 2,oB 7] 8 9 [oC 9] [] [(48,55)] [(49,50),(55,55)] (λz=>[(55,.agg #[z,sS a.st,vm,nS])])
   (λz own I=>(∀b∈own,↑w'<=b)/\z.oneCell'=true/\∀L:LN,(∀b∈L,b∉own)->Qu L ↑I z sa)
   (λv I=>∃b,v=sP b/\↑w'<=b/\QN ↑I b 53 zB) od ol Z ka oe ?_ ?_ ?_ ?_)
  ·rintro v own wa wb ⟨b,rfl,hb,hB⟩ hs hn;exact⟨b,Z,hb,hB.J hs (hn b (by simp[ow]))⟩
  ·rintro z own wa wb ⟨h1,h2,h3⟩ hs;exact⟨h1,h2,λL hL=>(h3 L hL).I hs⟩
  ·rintro z g own wz v ⟨i1,i2,i3⟩ kb ⟨G,rfl,hh,h6⟩ kc;have ge:=(kc G (by simp[ow])).1;refine pkk<|qI [z,sS a.st,vm,nS] h6 ⟨i2,Z,h5.mr.one,Z,La⟩ λI hf ke=>pe ?_;refine⟨(G,z),Lb,kb.O hf hh,hh,ke,i2,λL hL=>?_⟩;have h1:=i3 (G::L) (λb hb=>by
    rcases Ll.1 hb with rfl|hb
    ·exact ge
    rcases hL b hb with h2|h2
    ·exact λh3=>oq (i1 b h3)
    subst h2;exact ge)
   exact(h1.st (hf.S oe)).up (λb hb=>.inl (by simp[hb]))
  refine Go.Lg.p Qx<|Go.Lg.p (QH Z)<|pq (λ_ hc=>Qj (hg.I hc) Z Z)<|Go.Lg.p (QH Z)<|pq (λ_ hc=>Qj (hg.I hc) Z Z) <|
   pe ⟨λg wf kf=>flA zB kf,?_⟩
  refine f2k λx1 p1 c1=>xg<|(QhI ha.cells).S ?_;rintro mw y1 ⟨gg,my,rfl,mz,hH⟩;refine⟨c1.D gg,rgB ↑x1 ↑y1,gg.any,λb hb=>.inr (UT.1 hb),?_⟩;refine f2k λx2 p2 c2=>xg<|(QhM (hH.I p2) (ha.I c2) oa).S ?_;rintro kg y2 ⟨gh,hq⟩;rw[hO]at hq;refine⟨c2.D gh,rgB ↑x1 ↑y1++rgB ↑x2 ↑y2,gh.any,λb hb=>(Lk.1 hb).imp id λhb=>UT.1 hb,?_⟩;refine f3p (λ_=>QD ⟨xR hq,Z,h5.mr.cells,La⟩)<|f2e ?_;refine⟨kg,Lb,λb hb=>?_,QA hq,λL hL=>?_⟩
  ·have e1:=c1.size;have e2:=c2.size;rcases Lk.1 hb with hb|hb
   ·have:=UT.1 hb;omega
   have:=UT.1 hb;omega
  exact QO hq (by rw[<-hO,(Nl to _).length_eq];omega) (λb hb hm=>hL b hm (Lk.2 (.inr (UT.2 (Qi hq b hb)))))
 rintro⟨G,vs⟩ g I ⟨hf,hh,h6,hvo,kh⟩;have gi:=h6.lt;have gj:=hg.I hf;have gk:∀b∈[G],b∈([]:LN)\/↑w'<=b:=λb hb=>.inr (by rw[Lc.1 hb];exact hh);have hr:Zv [G] ↑I va vm ve a:=(h5.up gk).I hf;have ki:Qu [G] ↑I vt to:=(ha.up gk).I hf;have m0:=hr.ed.le;have kj:b2∉[G]:=by have:=hg.lt;simp only[oH];omega
 have m1:b4∉[G]:=om
 have kk:(rlE a to).length=a.ed.length:=by unfold rlE;rw[Lo]
 have kn:∀e∈rlE a to,(0<=e.1/\e.1<1099511627776)/\0<=e.2.1/\e.2.1<1099511627776:=λe Y=>by
  unfold rlE at Y;obtain⟨d,hd,rfl⟩:=Lt.1 Y;have h1:=ho.ed d hd;have h2:a.al.idxOf d.2.1<to.length:=by rw[hE];exact Md h1.2.2.1
  have h3:=hN _ (Lm h2);have h4:=Zo h2;simp only[];omega
 refine QX (α:=O7) [(11,11),(56,78)] (λ_=>[]) (λz O=>xd [G] I O/\QN ↑O G 53 [vs,sS a.st,vm,z]/\O.ownsRow ↑I 179 3 z (rlE a to).length ((rlE a to).flatMap Qp)) ol ?_ ?_
 ·refine Qc<|Qs Z gj Z Z<|QG hr.ed Z<|Qa<|xe<|QY (α:=Nat×O7) [(11,11),(59,78)] (λz=>[(59,sS z.1)]) (λz O=>z.1<=a.ed.length/\xd [G] I O/\QN ↑O G 53 [vs,sS a.st,vm,z.2]/\O.ownsRow ↑I 179 3 z.2 z.1 (((rlE a to).take z.1).flatMap Qp)) (λz=>a.ed.length - z.1) (0,Zq) Lb ⟨Lp _,xd.C _ _,h6,QM _ _ _ _⟩ ?_;rintro⟨k,vr⟩ g O ⟨hk,U,hu,V⟩;refine Zk Z Z (λhI=>?_) (λhI=>?_)
  ·refine Qt ?_;have ko:k=a.ed.length:=by have h7:¬(k:Int)<(a.ed.length:Int):=hI;omega
   rw[Ls oa,ko,<-kk]at V;exact⟨vr,La,U,hu,V⟩
  have J:k<a.ed.length:=by have h7:(k:Int)<(a.ed.length:Int):=hI;omega
  have hJ:=ho.ed _ (Lm J);have kq:(rlE a to)[k]'oa=((a.ed[k]'J).1,xh to (a.al.idxOf (a.ed[k]'J).2.1),(a.ed[k]'J).2.2):=by unfold rlE;rw[MM]
  have hw:(rlE a to).take (k+1)=(rlE a to).take k++[(rlE a to)[k]'oa]:=Ln oa;rw[kq]at hw;refine Zg (a.ed[k]'J) λe Y=>?_;rw[Y]at hJ hw;have hix:a.al.idxOf e.2.1<to.length:=by rw[hE];exact Md hJ.2.2.1
  rw[<-Zo hix]at hw;refine Zg (to[a.al.idxOf e.2.1]'hix) λy hy=>?_;rw[hy]at hw;refine Qf<|Qd<|Qn<|Qc<|xie (i:=k) (hr.ed.st U) Z Z J λm2 h7=>?_;rw[Y]at h7;refine x (QF h7 Z Z)<|QV [sS 0,sS 0,sS 0] λb11 w7 hz gl kr=>Q6 (Qp e) kr oz λw8 h8 gm=>xe ?_;have h9:sW O w8:=hz.O h8 gl;have kt:=U.size;refine Ql<|Qs Z ((gj.J U kj).I h9) Z Z<|Qs Z gm Z Z<|Qw<|(QqN ((hr.al.st U).I h9) hJ.2.2.1).S ?_;rintro m3 w8 ⟨rfl,rfl⟩;refine xii ((ki.st U).I h9) Z Z hix λm4 gn=>?_;rw[hy]at gn;refine x (Qq gn Z)<|Q9 Z<|Qo<|Qv (u:=sS y) gm Z Z (by simp[Qp]) rfl λw9 hA ku=>xe ?_;have kv:QN ↑w9 b11 179 (Qp (e.1,y,e.2.2)):=ku;have hC:sW O w9:=h9.O hA gl;have gq:=hu.I hC;have n9v:G∉ob vr:=QJ V gi;have m5:=hC.size;refine Qr<|Qs Z gq Z Z<|Q7 kv Z Z<|Qo<|Q3 [Qp (e.1,y,e.2.2)] λm6 m7 hD m8 kw=>?_;refine Qo<|Q0 (m:=1) (news:=Qp (e.1,y,e.2.2)) (L:=[]) (Qm (Qm V hC) hD) Z Z Z (kw.at oe) (by simp[Qp,Value.oneCell']) oa (oq hD.size) λgr m9 hK gs pc=>?_;refine Q9 Z<|Qo<|Qv (u:=gr) ((gq.I hD).J gs n9v) Z Z oe (QA hK) λpd gt kx=>xe ?_;refine Qr<|QC Z Z<|Qa<|xe<|⟨(k+1,gr),og,Lb,J,(((U.D hC.any).D hD.any).Z gs (λb hb=>.inr ((Qi V) b hb).1)).Q gt,kx,?_⟩;simp only[];rw[hw,LJ];simpa using(Qg hK gt (λb hb=>by have:=(Qi hK b hb).1;simp only[oH];omega))
 rintro vr g O ⟨U,hu,V⟩;have n9r:G∉ob vr:=QJ V gi;have kt:=U.size;have gu:=Qi V;refine Qc<|Qs Z hu Z Z<|Qw<|(Qbo V oa kn).S ?_;rintro r7 w7 ⟨hz,l',hp,kz,k0⟩;have k4:=g2 l' hp kz;subst k4;refine xe ?_;have k5:∀b∈G::ob vr,b∈[G]\/↑I<=b:=λb hb=>by
  rcases Ll.1 hb with rfl|hb
  ·exact .inl Lj
  exact .inr (gu b hb).1
 have gv:∀{v:O7} {l:LI},Qu [G] ↑I v l->Qu [] ↑w7 v l:=λhv=>(((hv.up k5).st (U.S oe)).st (hz.S (λb hb=>Lh _ hb))).up (λb hb=>by cases hb);have k6:qn [] ↑w7 vr l':=QO k0 (oq hp.length_eq) oe;have k9:Zv [] ↑w7 vs vm vr ⟨sa,a.st,a.mr,l'⟩:=⟨gv (kh [G] (λb hb=>.inr (Lc.1 hb))),gv hr.mr,k6⟩;have hM:sW w' w7:=(hf.O U hh).Z hz (λb hb=>.inr (oq (gu b hb).1));have pf:=hM.size;refine Qc<|Q7 (hu.J hz n9r) Z Z<|Qw<|(KZ k9 hok).S ?_;rintro v w8 ⟨h8,hF⟩;obtain⟨us,gx,gy,ma⟩:=X3 hF;refine Qo<|ZM (us:=us) (((hR.I h0).I hM).I h8) Z gx gy Z ma λw9 hA hH=>Qb ?_;have gz:=hG.D hM;refine Qk ⟨[sT us,sS 0],⟨⟨_,Z,Yc gy (hH.at (L:=[]) oe).cells⟩,rfl,La⟩,(gz.D h8).O hA oa,v,by rw[gx];rfl,?_⟩;exact(Je hF oa hA).S (oq gz.size)
theorem Qp4 {motive:LI->Prop}(nil:motive [])(append_singleton:∀u v,motive u->motive (u++[v]))(u:LI):motive u:=by
 have key:∀r:LI,motive r.reverse:=by
  intro r;induction r with
  | nil=>exact nil
  | cons v r ih=>rw[List.reverse_cons];exact append_singleton _ _ ih
 have:=key u.reverse;rw[List.reverse_reverse]at this;exact this
def enc (u:LI):Int:=u.foldl (λn e=>n*33+(e+1)) 0
theorem Vz (u:LI)(v:Int):enc (u++[v])=enc u*33+(v+1):=by unfold enc;rw[Mw];rfl
def QiJ (u:LI):Prop:=∀e∈u,0<=e/\e<32
theorem QiJ.snoc {v:Int}(h:QiJ (u++[v])):QiJ u/\0<=v/\v<32:=⟨λe G=>h e (LG _ G),h v oe⟩
theorem QqY (h:QiJ u):0<=enc u:=by
 induction u using Qp4 with
 | nil=>exact Ms _
 | append_singleton u v ih=>rw[Vz];have:=ih h.snoc.1;have:=h.snoc.2;omega
def rn (a:Qz)(x:Int)(u:LI):Int:=u.foldl (λs v=>nxt a.ed s v) x
theorem Qnm (a:Qz)(x:Int)(u:LI)(v:Int):rn a x (u++[v])=nxt a.ed (rn a x u) v:=by unfold rn;rw[Mw];rfl
theorem QgG (G:QL a)(v:Int):nxt a.ed (-1) v=-1:=by
 rw[Ku];cases I:xu a.ed (-1) v with
 | none=>rfl
 | some u=>have:=(G.ed _ (YI I)).1;simp only[]at this;omega
def x0 (a:Qz):Int:=if 0<a.st then 0 else -1
structure Fw where
 u:LI
 s:Int
def zi:Fw:=⟨[],0⟩
def wdN (e:Fw)(d:Ed):Fw:=⟨e.u++[d.2.1],d.2.2⟩
def wdR (a:Qz)(e:Fw):List Fw:=(QK a.ed e.s).map (wdN e)
def wdL (a:Qz)(most:Nat):Nat->Nat->List Fw->Option (List Fw)
 | 0,_,L=>some L
 | f+1,i,L=>if i<L.length then(if(L.getD i zi).u.length=most then some L else if 1024<(L++wdR a (L.getD i zi)).length then none else wdL a most f (i+1) (L++wdR a (L.getD i zi))) else some L
def wds (a:Qz)(most:Nat):Option (List Fw):=wdL a most 1025 0 [zi]
structure WdI (a:Qz)(most i:Nat)(L:List Fw):Prop where
 ne:0<L.length
 le:i<=L.length
 mx:L.length<=1024
 rx:∀e∈L,e.s=rn a 0 e.u/\0<=e.s/\e.s<a.st/\(∀v∈e.u,v∈a.al)/\e.u.length<=most
 so:L.Pairwise λp q=>enc p.u<enc q.u
 hd:(L.getD 0 zi).u=[]
 pr:∀e∈L,e.u=[]\/∃j v,j<i/\e.u=(L.getD j zi).u++[v]
 ch:∀j v,j<i->0<=nxt a.ed (L.getD j zi).s v->∃e∈L,e.u=(L.getD j zi).u++[v]
theorem Qll {L:List Fw}(h:i<L.length):L.getD i zi∈L:=by simp[oQ,h]
theorem Qlm {L r:List Fw}(h:i<L.length):(L++r).getD i zi=L.getD i zi:=by simp[oQ,Oa h]
theorem WdI.J (U:QL a){most:Nat}{L:List Fw}(h:WdI a most i L)(hi:i<L.length)(hl:(L.getD i zi).u.length≠most)(hm:¬1024<(L++wdR a (L.getD i zi)).length):WdI a most (i+1) (L++wdR a (L.getD i zi)):=by
 have Y:QiJ a.al:=U.al;have hSm:∀e∈L,QiJ e.u:=λe G u I=>Y u ((h.rx e G).2.2.2.1 u I);have hh:=Qll hi;obtain⟨r1,r2,r3,r4,r5⟩:=h.rx _ hh;generalize ha:L.getD i zi=ei at *;have hf:∀e∈wdR a ei,∃d∈QK a.ed ei.s,e=wdN ei d/\d.2.1∈a.al/\0<=d.2.2/\d.2.2<a.st/\nxt a.ed ei.s d.2.1=d.2.2:=λe G=>by
  unfold wdR at G;obtain⟨d,hd,rfl⟩:=Lt.1 G;obtain⟨hr,h0⟩:=Zy hd;have hg:=U.ed d hr;refine⟨d,hd,Z,hg.2.2.1,hg.2.2.2.1,hg.2.2.2.2,?_⟩;rw[QgF];obtain⟨k,hk,rfl⟩:=LQ hd;refine Qe4 _ ei.s _ k hk (λe G=>(Zy G).2) Z (λm hs e=>?_);have J:(QK a.ed ei.s).Pairwise λx y:Ed=>x.1<y.1\/(x.1=y.1/\x.2.1<y.2.1):=List.Pairwise.sublist MW U.edi;have:=Mn.1 J m k oa hk hs;have e1:=(Zy (Lm (l:=QK a.ed ei.s) (show m<(QK a.ed ei.s).length by omega))).2;have e2:=(Zy (Lm hk)).2;omega
 have h5:=QqY (hSm _ hh);have hw:∀e∈L,∀v,v∈a.al->enc e.u<enc (ei.u++[v]):=λe G v hv=>by
  have h6:=Y v hv;rw[Vz];rcases h.pr e G with h1|⟨j,u,O,h1⟩
  ·rw[h1];show(0:Int)<_;omega
  rw[h1,Vz];have h7:enc (L.getD j zi).u<enc ei.u:=by
   have:=Mn.1 h.so j i oa hi O;rw[<-ha];simpa[oQ,show j<L.length by omega,hi]using this
  have h8:u<32:=by
   have:=(h.rx e G).2.2.2.1 u (by rw[h1];simp);exact(Y u this).2
  omega
 have keepD:∀r:List Fw,∀j,j<L.length->(L++r).getD j zi=L.getD j zi:=λr j O=>Qlm O;refine⟨by simp;have:=h.ne;omega,by simp;omega,oa,λe G=>?_,?_,by rw[keepD _ 0 h.ne];exact h.hd,λe G=>?_,λj v O V=>?_⟩
 ·rcases Lk.1 G with G|G
  ·exact h.rx e G
  obtain⟨d,_,rfl,h1,h2,h3,h4⟩:=hf e G;refine⟨?_,h2,h3,λu I=>?_,?_⟩
  ·show d.2.2=rn a 0 (ei.u++[d.2.1]);rw[Qnm,<-r1,h4]
  ·rcases Lk.1 (show u∈ei.u++[d.2.1] from I) with I|I
   ·exact r4 u I
   simp only[oH]at I;subst I;exact h1
  show(ei.u++[d.2.1]).length<=most;rw[Le,Lz];omega
 ·rw[Mu];refine⟨h.so,?_,λp J q hq=>?_⟩
  ·unfold wdR;rw[Mj];have J:(QK a.ed ei.s).Pairwise λx y:Ed=>x.1<y.1\/(x.1=y.1/\x.2.1<y.2.1):=List.Pairwise.sublist MW U.edi;refine List.Pairwise.imp_of_mem (λ{x y} hx hy h9=>?_) J;have e1:=(Zy hx).2;have e2:=(Zy hy).2;show enc (ei.u++[x.2.1])<enc (ei.u++[y.2.1]);rw[Vz,Vz];omega
  obtain⟨d,_,rfl,h1,_⟩:=hf q hq;exact hw p J _ h1
 ·rcases Lk.1 G with G|G
  ·rcases h.pr e G with h1|⟨j,u,O,h1⟩
   ·exact .inl h1
   exact .inr ⟨j,u,oa,by rw[keepD _ j oa];exact h1⟩
  obtain⟨d,_,rfl,_⟩:=hf e G;exact .inr ⟨i,d.2.1,oa,by rw[keepD _ i hi,ha];rfl⟩
 rw[keepD _ j oa]at V ⊢;by_cases e:j=i
 ·subst e;rw[ha]at V ⊢;refine⟨wdN ei (ei.s,v,nxt a.ed ei.s v),Mv _ ?_,Z⟩;unfold wdR;exact LL (by unfold QK;exact LB.2 ⟨(QbH V),oe⟩)
 obtain⟨e',hz,h1⟩:=h.ch j v oa V;exact⟨e',LG _ hz,h1⟩
theorem QrS (I:0<a.st)(most:Nat):WdI a most 0 [zi]:=by
 refine⟨oe,Nat.zero_le _,oe,λe G=>?_,oe,by simp[oQ,zi],λe G=>?_,λj v J=>oa⟩
 ·simp only[oH]at G;subst G;exact⟨Z,Ms _,I,by simp[zi],by simp[zi]⟩
 simp only[oH]at G;subst G;exact .inl Z
theorem zx {e:Nat}{bys:Nat}[h:Sl P t e sz bys z]{v:O7}(G:w.ownsRow base e sz v n cs)
  {a:Addr} {c:Nat} {news:LV} (hl:news.length=m*sz) (Y:∀j u,news[j]?=some u->w.cell? (a.add j)=some u) (h1:∀u∈news,u.oneCell'=true)
  (hb:n+m<=1099511627776) (hu:bys<=128) (hf:base<=↑w):
  ∃v' w',(Builtin.append_ #[t,t] ty #[v,.slice (some a) m c]).run P w=.ok v' w'/\w'.ownsRow base e sz v' (n+m) (cs++news)/\xd (ob v) w w'/\(∀b∈ob v',b∈ob v\/↑w<=b)/\w'.ownsRow base e sz v n cs:=by
 obtain⟨i,hi,hz,O,ha⟩:=Sl.info h;have he:(n+m)*bys<=140737488355328:=LA (Nj hb hu) oa;have hh:n+m<=maxLen:=by simp only[maxLen];omega
 by_cases hg:∃g cap cur,v=sL g n cap/\w.heap[g]?=some (.cells cur e (0,0))/\n+m<=cap
 ·obtain⟨v',w',V,ho,hv,_⟩:=run_append_own (P:=P) w base t ty e i z sz bys h.u hi hz O ha h.zs h.pos v n cs G a m c news hl Y h1 hh he hf;have hw:xd (ob v) w w':=by rw[QbE];exact xd.of_grown hv
  refine⟨v',w',V,ho,hw,?_⟩;obtain⟨g,cap,cur,rfl,hj,U⟩:=hg;rcases G.2 with⟨h2,_⟩|⟨g2,cap2,hp,h2,h3,h4,h5,h6,h7,h8⟩
  ·cases h2
  cases h2
  have hy:n*i.size+news.length<=hp.size:=by rw[hl,h7,O,<-MI];exact MY _ U
  rw[(run_append_room (P:=P) w t ty e i h.u hi g n cap hp h4 a m c news (by rw[O];exact hl) Y h1 U hy)]at V;cases V
  refine⟨λb J=>.inl J,G.1,?_⟩;have hD:=G.1;rcases ho.2 with⟨e1,_⟩|⟨g3,cap3,cur3,e1,k3,k4,k5,k6,k7,k8⟩
  ·cases e1
  cases e1
  refine .inr ⟨g,cap,cur3,Z,k3,k4,h5,k6,k7,?_⟩;have:=O0 (List.take (n*sz)) k8;rw[List.take_take,M9 (MY _ (Nat.le_add_right n m)),List.take_append_of_le_length oa,Ls (l:=cs) oa]at this;exact this
 have new:∀(old:Nat),old<n+m->∀I,I=(Obj.cells (cs.toArray++news.toArray++Builtin.zeroCells z.cells (grownCap w (n+m) old e - (n+m))) e) ->
   (w.drew.alloc I).ownsRow base e sz (.slice (some ⟨↑w,0,none⟩) (n+m) (grownCap w (n+m) old e)) (n+m) (cs++news):=by
  intro old ho I h0;subst h0;have hge:=grownCap_ge w (n+m) old e;have hq:grownCap w (n+m) old e<=maxLen:=grownCap_le_maxLen w (n+m) old e hh;have hs:(cs++news).length=(n+m)*sz:=by rw[Le,G.1,hl,MI]
  refine⟨hs,.inr ⟨↑w,_,_,Z,hf,VB w.drew _,hge,hq,?_,?_⟩⟩
  ·simp only[Array.size_append,Ok,size_zeroCells,h.zs,G.1,hl,<-Oz];congr 1;omega
  simp only[Array.toList_append,Om];rw[<-LC,<-hs];exact List.take_left
 have stp:∀I,xd (ob v) w (w.drew.alloc I):=λI=>⟨Z,Z,Z,by rw[yc];exact Nat.le_succ _,λk hk _=>Qco w.drew I k hk⟩;have h9:∀I,sW w (w.drew.alloc I):=λI=>⟨Z,Z,Z,by rw[yc];exact Nat.le_succ _,λk hk _=>Qco w.drew I k hk⟩;have fin:∀(b:Nat),b∈ob (.slice (some ⟨↑w,0,none⟩) (n+m) 0)->b∈ob v\/↑w<=b:=λb J=>by simp[ob]at J;omega
 rcases G.2 with⟨rfl,rfl⟩|⟨g,cap,cur,rfl,hE,hj,hF,hq,hG,hH⟩
 ·have hx:cs=[]:=Lu (ox G.1);subst hx;by_cases hm:m=0
  ·subst hm;have hn:news=[]:=Lu (ox hl);subst hn;refine⟨nS,w,?_,QM _ _ _ _,xd.C _ _,λb J=>by simp[ob]at J,QM _ _ _ _⟩;simp[Builtin.append_,run_underlying h.u,sizeOf,typeInfo,hi,Builtin.lenOf,Builtin.firstCells,loadCells,loadCellsFrom]
  have V:=run_append_nil (P:=P) w t ty e i z h.u hi hz a m c news (by rw[O];exact hl) Y oa oa (by rw[ha];have hA:=he;simp only[Ob]at hA;omega);have hn:=new 0 oa _ Z;simp only[Ob,Ox,Array.empty_append]at hn ⊢;exact⟨_,_,V,hn,stp _,λb J=>fin b J,QM _ _ _ _⟩
 have U:cap<n+m:=by
  rcases OR cap (n+m) with hB|hge
  ·exact hB
  exact O1 ⟨g,cap,cur,Z,hj,hge⟩ hg
 have hC:∀j u,cs[j]?=some u->w.cell? ((⟨g,0,none⟩:Addr).add j)=some u:=G.cells (g:=g) Z;exact⟨_,_,(run_append_grow (P:=P) w t ty e i z h.u hi hz ⟨g,0,none⟩ n cap cs (by rw[O];exact G.1) hC a m c news (by rw[O];exact hl) Y U oa (growslice_fits U (by rw[ha];exact he))),new cap U _ Z,stp _,λb J=>fin b J,Qm G (h9 _)⟩
theorem Qki {e bys:Nat}[h:Sl P t e sz bys z]{s:O8}{v:O7}(G:w.ownsRow base e sz v n cs)(I:ev f s=v)
  {a:Addr} {c:Nat} {news:LV} (J:ev f y=.slice (some a) m c) (hl:news.length=m*sz)  (O:At L ↑w a news) (h1:∀u∈news,u.oneCell'=true)
  (hb:n+m<=1099511627776) (U:base<=↑w)
  (hK:∀v' w',w'.ownsRow base e sz v' (n+m) (cs++news)->xd (ob v) w w'->(∀b∈ob v',b∈ob v\/↑w<=b)->w'.ownsRow base e sz v n cs->K (QP f d v') w') (V:bys<=128:=by decide):
  XO P ⟨d,.call ⟨.builtin .append,#[s,y],#[t,t]⟩,ty,pS,af,gd⟩ f w K:=by
 obtain⟨v',w',Y,h2,h3,h4,h5⟩:=zx (P:=P) (t:=t) (ty:=ty) G hl O.cells h1 hb V U (c:=c);have ha:(execOp (ev f) ⟨d,.call ⟨.builtin .append,#[s,y],#[t,t]⟩,ty,pS,af,gd⟩).run P w=.ok (.value v') w':=by
  simp[execOp,resolve,invoke,builtin,I,J,Y]
 exact xv ha (hK v' w' h2 h3 h4 h5)
section
variable {C:xF}{pl:xA}{i0:Nat}
theorem QtB {g:α->LV}{x:O8}{e bys:Nat}[Sl P t e sz bys z](G:QR ops i0=⟨d,.indexAddr t x y,ty,pS,af,gd⟩)(J:∀x,(g x).length=sz){es:List α}{v:O7}{I:O6}{k:IntKind}
  (h:∀w',C w'->Zw L ↑w' v es.length sz (es.flatMap g)) (O:C I) (U:ev f x=v) (V:ev f y=.int k i) (hi:i<es.length)
  (hK:∀a,(∀w',C w'->At L ↑w' a (g es[i]))->XP P ops C K pl (QP f d (.pointer (some a))) w) (Y:Yb ops f (QR ops i0)=true:=by rfl):
  XP P ops C K ((i0,true)::pl) f w:=by
 obtain⟨a,cap,h1,_⟩:=Zw.at (h I O) hi;refine Lg.p (λw'=>by rw[G];exact X7 (U.D h1) V oa oa) ?_ Y;rw[G];refine hK _ λw' hc=>?_;obtain⟨a',cap',ha,h2⟩:=Zw.at (h w' hc) hi;rw[ha]at h1;cases h1
 rw[Jv g sz J es i hi]at h2;simpa using h2
end
theorem QsK (b:Bool):b=true\/b=false:=by cases b;exact .inr Z;exact .inl Z
structure FV where
 v:O7
 f:Fw
abbrev Ym (p:FV):LV:=[p.v,sS p.f.s]
theorem Qb1 (p:FV):(Ym p).length=2:=rfl
structure WdM (wB:O6)(vL:O7)(es:List FV)(w:O6):Prop where
 st:sW wB w
 l:w.ownsRow ↑wB 382 2 vL es.length (es.flatMap Ym)
 each:∀p∈es,Qu (ob vL) ↑w p.v p.f.u
theorem WdM.I {wB w w':O6}{vL:O7}{es:List FV}(h:WdM wB vL es w)(G:sW w w'):WdM wB vL es w':=⟨h.st.D G,Qm h.l G,λp I=>(h.each p I).I G⟩
theorem WdM.add {wB:O6}{vL vL':O7}{es:List FV}{p:FV}(h:WdM wB vL es w)(I:xd (ob vL) w w')(hl:w'.ownsRow ↑wB 382 2 vL' (es.length+1) (es.flatMap Ym++Ym p))(J:∀b∈ob vL',b∈ob vL\/↑w<=b)(O:Qu (ob vL) ↑w p.v p.f.u):WdM wB vL' (es++[p]) w':=by
 refine⟨h.st.Z I (λb hb=>.inr (Qi h.l b hb).1),by rw[Le,LJ];simpa using hl,λq G=>?_⟩;rcases Lk.1 G with G|G
 ·exact(h.each q G).grow I (λb hb=>hb) J
 simp only[oH]at G;subst G;exact O.grow I (λb hb=>hb) J
theorem Qle {es:List FV}(h:i<es.length):(es.map (·.f)).getD i zi=(es[i]'h).f:=by simp[oQ,h]
theorem QnE (G:QL a)(s:Int):(QK a.ed s).length<=32:=by
 have I:(QK a.ed s).Pairwise λx y:Ed=>x.1<y.1\/(x.1=y.1/\x.2.1<y.2.1):=List.Pairwise.sublist MW G.edi;have hi:YD ((QK a.ed s).map λe=>e.2.1):=by
  unfold YD;rw[Mj];refine List.Pairwise.imp_of_mem (λ{x y} hx J V=>?_) I;have e1:=(Zy hx).2;have e2:=(Zy J).2;omega
 have:=XW _ 0 32 hi (λv O=>by
  obtain⟨e,U,rfl⟩:=Lt.1 O;exact G.al _ (G.ed e (Zy U).1).2.2.1)
 rw[Lo]at this;omega
def QiV (a:Qz)(most:Nat)(mk:Bool):Option (List (LI)):=if a.st=0 then some []else(wds a most).map λL=>(L.filter λf=>!mk || decide (f.s∈a.mr)).map (·.u)
def QsR (o:Option (List (LI)))(r:O7)(H:xG):Prop:=(o=none/\r=.tuple #[Zq,sS 3])\/∃l v ps,o=some l/\r=.tuple #[v,sS 0]/\JS [] H v ps/\ps.map (·.2)=l
theorem QiG (h:Zv [] ↑w va vm ve a)(hck:Jj a=0)(ho:QL a)(most:Nat)(hmo:most<=4096)(mk:Bool):
  QT sV 249 [.agg #[va,sS a.st,vm,ve],sS most,.bool mk] w λr w'=>sW w w'/\QsR (QiV a most mk) r ↑w':=by
 have hst0:=ho.st0;have hst1:=ho.st1;refine Zn func249 ?_;refine Qc<|Zd [va,sS a.st,vm,ve] λb3 w1 g8 hb3 g9=>x Qe<|Qb<|Qd<|Qc<|Q7 g9 Z Z<|Qw<|(Xb (h.I g8)).S ?_;rintro r2 w2 ⟨ka,kb⟩;rw[hck]at ka;subst ka;have O:=g8.D kb;refine Qb<|Ql<|ZS Z Z<|xe<|ZC rfl<|Qf<|Qd<|Ql<|xb (YF Z Z) (λkc=>O1 (show(most:Int)<0 from kc) oa) (λkc=>?_);refine Qa<|Qa<|x (Ya Z Z)<|QB Z<|xe<|Zh rfl (λke=>O1 (show(most:Int) > 4096 from ke) oa) (λke=>?_);refine Qf ?_;have hQ:=g9.I kb;refine Qd<|Qc<|Qs Z hQ Z Z<|x (Zc Z Z)<|xe<|Zh rfl (λhS=>?_) (λhS=>?_)
 ·refine Qc<|x Qe<|Qb<|Qk ⟨[Zq,sS 0],oy,O,.inr ⟨[],Zq,[],by unfold QiV;rw[OZ hS],rfl,⟨Zw.nil _ _ _,λp G=>by cases G⟩,rfl⟩⟩
 have mw:0<a.st:=by have h30:¬a.st=0:=hS;omega
 have hW:QiV a most mk=(wds a most).map λL=>(L.filter λf=>!mk || decide (f.s∈a.mr)).map (·.u):=by unfold QiV;rw[OY oa]
 refine Zg (wds a most) λR hR=>?_;rw[hR]at hW;refine Qf<|Qc<|x (QD La)<|Qo<|Q3 [Ym ⟨nS,zi⟩] λkf w3 my mz m0=>Qb ?_;have m1:WdM w2 (sL kf 1 1) [⟨nS,zi⟩] w3:=by
  refine⟨my,m0.own (n:=1) Z oa mz,λp G=>?_⟩;simp only[oH]at G;subst G;exact Zw.nil _ _ _
 have m2:∀e∈a.ed,0<=e.1/\e.1<=1099511627776:=λe he=>oq (ho.ed e he)
 refine QX (α:=O7×List FV) [(6,7),(9,10),(12,12),(32,77)] (λz=>[(9,z.1)]) (λz w'=>WdM w2 z.1 z.2 w'/\R=some (z.2.map (·.f))/\z.2.length<=1024) ol ?_ ?_
 ·refine Qc<|Qb<|QY (α:=Nat×O7×List FV) [(6,7),(9,10),(12,12),(32,77)] (λz=>[(9,z.2.1),(10,sS z.1)])
   (λz w'=>z.1<=1025/\WdM w2 z.2.1 z.2.2 w'/\WdI a most z.1 (z.2.2.map (·.f))/\wdL a most (1025 - z.1) z.1 (z.2.2.map (·.f))=R) (λz=>1025 - z.1) (0,sL kf 1 1,[⟨nS,zi⟩]) oy
   ⟨Lp _,m1,QrS mw most,hR⟩ ?_
  rintro⟨i,vL,es⟩ g4 w4 ⟨m3,hh,h8,I⟩;simp only[]at m3 hh h8 I;have hU:=h8.mx;have m4:=h8.le;rw[Lo]at hU m4;have h3:Zw [] ↑w4 vL es.length 2 (es.flatMap Ym):=QO hh.l oa (λb _=>oe);refine Qd<|Ql<|Qa<|QG h3 Z<|ZT Z Z<|xe<|Zp Z (λhV=>?_) (λhV=>?_)
  ·refine Qt ?_;have m5:¬i<(es.map (·.f)).length:=by rw[Lo];have m6:¬(i:Int)<(es.length:Int):=hV;omega
   refine⟨(vL,es),Lb,hh,?_,hU⟩;rw[<-I];generalize 1025 - i=f;cases f with
   | zero=>rfl
   | succ f=>rw[wdL,OY m5]
  have hi:i<es.length:=by have m6:(i:Int)<(es.length:Int):=hV;omega
  rw[show 1025 - i=(1025 - (i+1))+1 by omega,wdL,OZ (by rw[Lo];exact hi),Qle hi]at I;have kg:=hh.each _ (Lm hi);have hX:=h8.rx _ (LL (f:=λq:FV=>q.f) (Lm hi));have hY:=λhl hm=>h8.J ho (by rw[Lo];exact hi) hl hm;rw[Qle hi]at hY;refine Zg (es[i]'hi) λei hI=>?_;rw[hI]at I kg hX hY;have kh:=hh.st;refine Qf<|Qd<|Qn<|Qd<|Ql<|Qa<|xo (g:=Ym) (i:=i) Qb1 h3 Z Z hi λa40 ki=>?_;rw[hI]at ki;refine x (ZB Z)<|x (Qq (ki.fld 0 _ Z) Z)<|QG (kg.up (L':=[]) (λb hb=>by cases hb)) rfl<|Qa<|x (Zc rfl rfl)<|xe<|Zh Z (λhZ=>?_) (λhZ=>?_)
  ·refine Qt ?_;have hJ:ei.f.u.length=most:=by have m7:(ei.f.u.length:Int)=(most:Int):=hZ;omega
   rw[OZ hJ]at I;exact⟨(vL,es),Lb,hh,I.symm,hU⟩
  have hJ:ei.f.u.length≠most:=by have m7:¬(ei.f.u.length:Int)=(most:Int):=hZ;omega
  rw[OY hJ]at I;have ga:=hY hJ;refine Qf ?_;have m8:Zv (ob vL) ↑w4 va vm ve a:=((h.I O).up (L':=ob vL) (λb hb=>.inr (Qi hh.l b hb).1)).I kh;have m9:=QnE ho ei.f.s;have hout:=QbC (va:=va) (vm:=vm) (st:=a.st) (m8.ed.I (xd.Y [] w4)) ho.eds m2 ei.f.s hX.2.1 oa;refine Zg (QK a.ed ei.f.s) λos kj=>?_;rw[kj]at m9 hout;have pc:wdR a ei.f=os.map (wdN ei.f):=by unfold wdR;rw[kj]
  rw[pc]at I ga;refine Qd<|Qd<|ZK [] [oB 0,oB 1,oB 2,oB 3,oB 4,oB 5,oB 8,oC 6,oB 7]<|pq (λ_ hc=>Zj ((hQ.I kh).I hc) Z Z)<|p Qx<|p Qx<|Lg.pig (g:=Ym) (i:=i) Z Qb1 h3 Z Z hi λa49 kk=>?_;rw[hI]at kk;refine p (λ_=>ZB Z)<|pq (λ_ hc=>Qq ((kk.fld 1 _ Z).I hc) Z)<|p Qx<|pk<|xg<|hout.S ?_;rintro ro w5 ⟨pd,kn⟩;have ko:=(xd.Y [] w4).D pd;refine⟨ko,?_⟩;refine p (λ_=>Y4 kn Z)<|pe ?_;refine Zg (es.map (·.f)++os.map (wdN ei.f)) λL1 kq=>?_;rw[kq]at I ga;refine QY (α:=Nat×O7×List FV) [(9,9),(12,12),(54,74)] (λz=>[(9,z.2.1),(54,sS z.1)])
   (λz w'=>z.1<=os.length/\WdM w2 z.2.1 z.2.2 w'/\qn (ob z.2.1) ↑w' ro os/\z.2.2.length=es.length+z.1/\(∃h:i<z.2.2.length,z.2.2[i]'h=ei)/\z.2.2.map (·.f)++(os.drop z.1).map (wdN ei.f)=L1) (λz=>os.length - z.1) (0,vL,es) oy
   ⟨Lp _,(hh.I ko),kn,Z,⟨hi,hI⟩,kq⟩ ?_
  rintro⟨k,vL2,fs⟩ g6 w6 ⟨hk,hq,gb,pf,kr,hj⟩;simp only[]at hk hq gb pf kr hj;refine Zk Z Z (λgc=>?_) (λgc=>?_)
  ·refine Qt ?_;have ge:os.length<=k:=by have hK:¬(k:Int)<(os.length:Int):=gc;omega
   rw[Lx ge,Ns,LK]at hj;have pg:Zw [] ↑w6 vL2 fs.length 2 (fs.flatMap Ym):=QO hq.l oa (λb _=>oe);have hl1:L1.length=fs.length:=by rw[<-hj,Lo]
   refine Ql<|QG pg Z<|x (Ya Z Z)<|xe<|Zh Z (λgg=>?_) (λgg=>?_)
   ·have hL:1024<L1.length:=by have ph:(fs.length:Int) > 1024:=gg;omega
    rw[OZ hL]at I;refine Qc<|x Qe<|Qb<|Qk ⟨[Zq,sS 3],oy,O.D hq.st,.inl ⟨by rw[hW,<-I];rfl,Z⟩⟩
   have hL:¬1024<L1.length:=by have ph:¬(fs.length:Int) > 1024:=gg;omega
   rw[OY hL,<-hj]at I;have kt:=ga hL;rw[<-hj]at kt;refine Qf<|Qr<|Qa<|QC Z Z<|Qb<|⟨(i+1,vL2,fs),og,oy,og,hq,kt,I⟩
  have U:k<os.length:=by have hK:(k:Int)<(os.length:Int):=gc;omega
  rw[QZ U,L2]at hj;refine Zg (os[k]'U) λd hd=>?_;rw[hd]at hj;refine Qf<|Exists.elim kr λgh gi=>?_;have ku:=hq.each _ (Lm gh);rw[gi]at ku;refine QX (α:=O7×O7) [(9,9),(12,12),(56,73)] (λz=>[(9,z.1)]) (λz w'=>WdM w2 z.1 (fs++[⟨z.2,wdN ei.f d⟩]) w'/\qn (ob z.1) ↑w' ro os) ol ?_ ?_
  ·refine Qn<|Qc<|xie (i:=k) gb Z Z U λa56 hK=>?_;rw[hd]at hK;refine x (QF hK Z Z)<|QV [sS 0,sS 0,sS 0] λkv w7 pn po pp=>Q6 (Qp d) pp oz λJ pt kw=>xe ?_;have gj:sW w6 J:=pn.O pt po;have h9:=hq.I gj;have kx:=gb.I gj;have pu:=ku.I gj;have kz:=pu.up (L':=[]) (λb hb=>by cases hb);have h4:sW J { J with drawn:=J.drawn+1 }:=xd.Y [] J
   have hz0:=h4.size;have k0:=hX.2.2.2.2;have Y:∀w',sW J w'->xd (ob vL2) J w'/\w'.ownsRow ↑w2 382 2 vL2 fs.length (fs.flatMap Ym):=λw' hs=>⟨hs.S oe,Qm h9.l hs⟩;have k4:kv∉ob vL2:=λhb=>oq (QW hq.l kv hb)
   refine Qhz (λw'=>xd (ob vL2) J w'/\w'.ownsRow ↑w2 382 2 vL2 fs.length (fs.flatMap Ym)) (.f2 [oB 0,oB 1,oB 2,oB 3,oB 4,oB 5,oB 7,oB 8,oB 11,oB 12] 6 9 (.pl [oC 9,oC 10,oB 13,oC 14,oC 15,oB 16]) (.pl [oC 6,oC 10,oB 13,oC 14,oC 15,oB 16])) mixed ol od (Y _ h4) ?_;refine u2<|p Qx<|p Qx<|p Qx<|QtB (g:=Ym) (i:=i) (L:=[]) Z Qb1 (λw' hc=>QO hc.2 oa (λb _=>oe)) (Y _ h4) rfl rfl gh λa61 k5=>?_;rw[gi]at k5;refine p (λ_=>ZB Z)<|pq (λw' hc=>Qq ((k5 w' hc).fld 0 _ Z) Z)<|p (QH Z)<|pq (λ_ hc=>Qj (kw.J hc.1 k4) Z Z)<|p (QH Z)<|pq (λ_ hc=>Qj (kw.J hc.1 k4) Z Z)<|pe ⟨?_,?_⟩
   ·refine ue<|xg<|(Z0 (kz.I h4)).S ?_;rintro vk w9 ⟨hA,hok⟩;have h5:=h4.D hA;have pw:=hA.size;have pz:=Qi hok;refine⟨Y _ h5,?_⟩;refine uP<|pk<|Q3 [[sS d.2.1]] λbl p0 hr p4 gk=>?_;have hB:=h5.D hr;have p5:=hr.size;refine⟨Y _ hB,?_⟩;refine pk<|Q0 (news:=[sS d.2.1]) (L:=[]) (Qm hok hr) Z Z Z (gk.at oe) oo oa oa λV gl gm gn p6=>?_;have hC:sW J gl:=hB.Z gn (λb hb=>.inr (oq (pz b hb).1));have hv:=Qh.snoc (Za gm (show ↑J<=_ by omega));refine⟨Y _ hC,?_⟩;have gq:=(Qh.ints (L:=[]) hv (by simp;omega) oe).one;have gr:=(Qh.ints (L:=[]) hv (by simp;omega) oe).cells;refine p (λ_=>QD ⟨gr,Z,La⟩)<|pk<|Q3 [Ym ⟨V,wdN ei.f d⟩] λbm gs O p7 hD=>?_;have hf:=hC.D O;refine⟨Y _ hf,?_⟩;have hw:=h9.I hf;have gt:=hw.st.size;refine pk<|Qki (news:=Ym ⟨V,wdN ei.f d⟩) (L:=[]) (m:=1) hw.l Z Z Z (hD.at oe) (by intro u hu;simp only[oN,oJ,or_false]at hu;rcases hu with rfl|rfl;exact gq;rfl) oa gt λvz p8 gu h0 hE gv=>⟨⟨(hf.S oe).Q h0,gv⟩,p ZH<|pe ?_⟩
    have gx:Qu (ob vL2) ↑gs V (wdN ei.f d).u:=Qh.ints (Qm hv O) (by show(ei.f.u++[d.2.1]).length<=_;rw[Le,Lz];omega) (λb hb=>QW h9.l b hb);exact⟨(vz,V),Lb,hw.add h0 gu hE gx,(kx.I hf).grow h0 (λb hb=>hb) hE⟩
   refine ue<|Q3 [[sS d.2.1]] λbl w9 hA p4 gk=>?_;have h5:=h4.D hA;have pw:=hA.size;refine⟨Y _ h5,?_⟩;refine uP<|pk<|xg<|(Z0 (kz.I h5)).S ?_;rintro vk p0 ⟨hr,hok⟩;have hB:=h5.D hr;have p5:=hr.size;refine⟨Y _ hB,?_⟩;refine pk<|Q0 (news:=[sS d.2.1]) (L:=[]) hok Z Z Z ((gk.I hr).at oe) oo oa oa λV gl gm gn p6=>?_;have hC:sW J gl:=hB.Z gn (λb hb=>.inr (oq ((Qi hok) b hb).1));have hv:=Qh.snoc (Za gm (show ↑J<=_ by omega));refine⟨Y _ hC,?_⟩;have gq:=(Qh.ints (L:=[]) hv (by simp;omega) oe).one;have gr:=(Qh.ints (L:=[]) hv (by simp;omega) oe).cells;refine p (λ_=>QD ⟨gr,Z,La⟩)<|pk<|Q3 [Ym ⟨V,wdN ei.f d⟩] λbm gs O p7 hD=>?_;have hf:=hC.D O;refine⟨Y _ hf,?_⟩;have hw:=h9.I hf;have gt:=hw.st.size;refine pk<|Qki (news:=Ym ⟨V,wdN ei.f d⟩) (L:=[]) (m:=1) hw.l Z Z Z (hD.at oe) (by intro u hu;simp only[oN,oJ,or_false]at hu;rcases hu with rfl|rfl;exact gq;rfl) oa gt λvz p8 gu h0 hE gv=>⟨⟨(hf.S oe).Q h0,gv⟩,p ZH<|pe ?_⟩
   have gx:Qu (ob vL2) ↑gs V (wdN ei.f d).u:=Qh.ints (Qm hv O) (by show(ei.f.u++[d.2.1]).length<=_;rw[Le,Lz];omega) (λb hb=>QW h9.l b hb);exact⟨(vz,V),Lb,hw.add h0 gu hE gx,(kx.I hf).grow h0 (λb hb=>hb) hE⟩
  rintro⟨vz,V⟩ g14 w14 ⟨k6,k9⟩;simp only[]at k6 k9;refine Qr<|QC Z Z<|Qa<|xe ?_;exact⟨(k+1,vz,fs++[⟨V,wdN ei.f d⟩]),og,oy,U,k6,k9,by simp;omega,⟨by simp;omega,by simp only[];rw[L8 gh];exact gi⟩,by simp only[];rw[Lv,LC];exact hj⟩
 rintro⟨vL,es⟩ g20 hF ⟨h6,ma,p9⟩;simp only[]at h6 ma p9;rw[ma]at hW;have qf:=O.D h6.st;have h3:Zw [] ↑hF vL es.length 2 (es.flatMap Ym):=QO h6.l oa (λb _=>oe);refine Qc<|Qb<|Qd<|Ql<|QG h3 Z<|Qa<|xe<|QY (α:=Nat×O7×List TV) [(13,13),(15,15),(80,100)] (λz=>[(13,z.2.1),(80,sS z.1)])
  (λz w'=>z.1<=es.length/\sW hF w'/\zG 47 ↑hF w' z.2.1 z.2.2/\z.2.2.map (·.2)=((es.take z.1).filter λp=>!mk || decide (p.f.s∈a.mr)).map (λp=>p.f.u)/\∀p∈z.2.2,Qu (ob z.2.1) ↑w' p.1 p.2) (λz=>es.length - z.1) (0,nS,[]) oy
  ⟨Lp _,xd.C _ _,QM _ _ _ _,Z,λp G=>by cases G⟩ ?_
 rintro⟨k,vT,ps⟩ g21 mc ⟨hk,hg,hT,hG,hM⟩;simp only[]at hk hg hT hG hM;have hpl:ps.length<=k:=by
  have h1:=O0 oY hG;rw[Lo,Lo]at h1;rw[h1];refine LA (LO _ _) ?_;rw[LH];omega
 refine Zk rfl Z (λgy=>?_) (λgy=>?_)
 ·refine Qt ?_;have ge:es.length<=k:=by have hN:¬(k:Int)<(es.length:Int):=gy;omega
  refine Ql<|x Qe<|Qb<|Qk ⟨[vT,sS 0],oy,qf.D hg,.inr ⟨_,vT,ps,hW,Z,⟨QO hT oa (λb _=>oe),λp G=>(hM p G).up (λb hb=>by cases hb)⟩,?_⟩⟩;rw[hG,Ls ge];show _=((es.map (λp:FV=>p.f)).filter λf=>!mk || decide (f.s∈a.mr)).map (λx:Fw=>x.u);rw[List.filter_map,MF];rfl
 have U:k<es.length:=by have hN:(k:Int)<(es.length:Int):=gy;omega
 have mf:=h6.each _ (Lm U);refine Zg (es[k]'U) λek gz=>?_;rw[gz]at mf;have mg:Qu (ob vT) ↑mc ek.v ek.f.u:=((mf.up (L':=[]) (λb hb=>by cases hb)).up (λb hb=>.inr (Qi hT b hb).1)).I hg;refine Qf<|Qd<|Qn<|Qc<|xo (g:=Ym) (i:=k) Qb1 (h3.I hg) Z Z U λa82 hN=>?_;rw[gz]at hN;refine x (QF hN Z Z)<|QV [nS,sS 0] λb15 w22 qj ql q4=>Q6 (Ym ek) q4 ⟨mg.one,Z,La⟩ λhn q5 mh=>xe ?_;have ha:sW mc hn:=qj.O q5 ql;have hD:=((hQ.I h6.st).I hg).I ha;have j1:Qu [] ↑hn vm a.mr:=(((h.I O).mr.I h6.st).I hg).I ha;have hH:(es.take (k+1)).filter (λp=>!mk || decide (p.f.s∈a.mr))=(es.take k).filter (λp=>!mk || decide (p.f.s∈a.mr))++(if(!mk || decide (ek.f.s∈a.mr))=true then[ek]else[]):=by
  rw[Ln U,LW,gz,L9,MV]
 refine QX (α:=Bool) [(84,92)] (λz=>[(92,.bool z)]) (λz w'=>w'=hn/\z=(!mk || decide (ek.f.s∈a.mr))) ol ?_ ?_
 ·refine Or.elim (QsK mk) (λg0=>?_) (λg0=>?_)
  ·subst g0;refine Qr<|Qa<|x (Zi Z)<|Qa<|Qs Z hD Z Z<|Qs Z mh Z Z<|Qw<|(ZG j1 ek.f.s).S ?_;rintro r91 hn ⟨rfl,rfl⟩;refine QB Z<|xe ?_;exact⟨_,Lb,Z,Z⟩
  subst g0;refine Qr<|Qa<|x (Zi Z)<|Qa<|Zs<|YN<|QB Z<|xe ?_;exact⟨true,Lb,Z,Z⟩
 rintro z g23 hn ⟨rfl,hz⟩;rw[<-hz]at hH;refine Q5 rfl (λg2=>?_) (λg2=>?_)
 rotate_left
 ·rw[OY (by rw[g2];decide),LK]at hH;refine Qf<|Qr<|QC Z Z<|Qa<|xe ?_;exact⟨(k+1,vT,ps),og,oy,U,hg.D ha,Qm hT ha,by simp only[];rw[hH];exact hG,λp G=>(hM p G).I ha⟩
 rw[OZ g2]at hH;have mj:=mg.I ha;have mo:=Qm hT ha;have k0:=mj.le;refine Qr<|Qa<|Qo<|Qe3 λb94 w24 hO mq j2=>Q9 Z<|x (Qj (mh.I hO) Z Z) <|
  Qo<|QbG (base:=↑hn) (j2.own (n:=0) (sz:=1) Z oa mq) Z (mj.I hO) Z (UL ek.f.u) oa (oq hO.size) λh7 g3 j3 j4 hn25=>?_
 have za:sW hn g3:=hO.O j4 mq;have z0:Qh 3 ↑hn g3 h7 ek.f.u:=by simpa[tup]using j3
 have g5:Qu (ob vT) ↑g3 h7 ek.f.u:=Qh.ints z0 k0 (λb hb=>QW mo b hb);refine Qo<|Yj (us:=[[h7]]) Z Z oh oe ⟨g5.cells,rfl,La⟩ λb98 w26 ms hb98 z1=>?_;have hP:=za.D ms;have z2:=Qm mo hP;refine Qo<|Q0 (news:=[h7]) (L:=[]) z2 Z Z Z (z1.at oe) (λy hy=>by simp only[oH]at hy;subst hy;exact g5.one) oa (ov hg.size ha.size hP.size) λmt mu z3 g7 mv=>Qb ?_;have z4:sW hF mu:=((hg.D ha).D hP).Z g7 (λb hb=>.inr (Qi hT b hb).1);have z5:zG 47 ↑hF mu mt (ps++[(h7,ek.f.u)]):=zG.snoc z3;refine Qr<|QC Z Z<|Qa<|xe<|⟨(k+1,mt,ps++[(h7,ek.f.u)]),og,oy,U,z4,z5,?_,λp G=>?_⟩
 ·simp only[];rw[Lv,hG,hH,Lv];rfl
 rcases Lk.1 G with G|G
 ·exact(((hM p G).I ha).I hP).grow g7 (λb hb=>hb) mv
 simp only[oH]at G;subst G;exact(g5.I ms).grow g7 (λb hb=>hb) mv
theorem UD {v:O7}{l l':LI}(h:Qu L ↑w v l)(G:Qu L' ↑w v' l'):QT sV 252 [v,v'] w λr w'=>r=.bool (decide (l=l'))/\sW w w':=by
 have hn:=h.le;refine Zn func252 ?_;refine Qc<|Qb<|Qd<|Ql<|QG h Z<|Qa<|QG G Z<|ZS Z Z<|xe<|Zh rfl (λha=>?_) (λha=>?_)
 ·refine Qc<|Qb<|Qk ⟨[.bool false],Lb,?_,xd.C _ _⟩;have J:l≠l':=λe=>ha (by rw[e]);simp[tup,J]
 refine Qf<|Qd<|Qc<|Qb<|QY (α:=Nat) [(4,5),(11,25)] (λk=>[(5,sS k)]) (λk w'=>sW w w'/\k<=l.length/\(l=l'↔l.drop k=l'.drop k)) (λk=>l.length - k) 0 Lb ⟨xd.C _ _,Lp _,oe⟩ ?_;rintro k g w1 ⟨I,hk,O⟩
 replace h:=h.I I
 replace G:=G.I I;refine Qd<|Ql<|Qa<|QG h Z<|ZT Z Z<|xe<|Zp rfl (λhg=>?_) (λhg=>?_)
 ·refine Qt<|Qc<|Qb<|Qk ⟨[.bool true],Lb,?_,I⟩;rw[Lx oa,Lx oa]at O;simp[tup,O]
 have U:k<l.length:=oa
 have V:k<l'.length:=oa
 refine Qf<|Qd<|Qn<|Qd<|ZK [] (Xj 0 9 [])<|p Qx<|p Qx<|pii (i:=k) Z h Z Z U λho hh=>pq (λ_ hc=>Qq (hh.I hc) Z)<|p Qx<|p Qx<|pii (i:=k) Z G Z Z V λhp hj=>pq (λ_ hc=>Qq (hj.I hc) Z)<|p (λ_=>J0 Z Z)<|pe ?_;have hf:=I.D (xd.Y [] w1);refine Zh rfl (λY=>?_) (λY=>?_)
 ·refine Qc<|Qb<|Qk ⟨[.bool false],Lb,?_,hf⟩;have J:l≠l':=λe=>Y (by simp[e]);simp[tup,J]
 refine Qf<|Qr<|Qa<|QC Z Z<|Qb<|⟨k+1,oa,Lb,hf,oa,?_⟩;have he:l[k]'U=l'[k]'V:=Ly.1 Y;rw[O,QZ U,QZ V,he];exact⟨λh=>(List.cons.inj h).2,λh=>by rw[h]⟩
theorem Qmv {ua um ue:O7}(h:Zv L ↑w va vm ve a)(h':Zv L' ↑w ua um ue a):QT sV 251 [.agg #[va,sS a.st,vm,ve],.agg #[ua,sS a.st,um,ue]] w λr w'=>r=.bool true/\sW w w':=by
 have hv:=h.ed.le;refine Zn func251 ?_;refine Qc<|Zd [va,sS a.st,vm,ve] λb2 w1 hp hw hq=>Zd [ua,sS a.st,um,ue] λb3 w2 hf hy J=>Qb ?_;have V:=hp.D hf;have O:=hq.I hf;have h2:=h.I V;have Y:=h'.I V;refine Qd<|QX (α:=Unit) [(6,35)] (λ_=>[(35,.bool false)]) (λ_ w'=>sW w2 w') ol ?_ ?_
 ·refine Qr<|Qs Z O Z Z<|Qs Z J Z Z<|Qw<|(UD h2.al Y.al).S ?_;rintro r3 w3 ⟨hg,G⟩;rw[O2 rfl]at hg;subst hg;refine x (Zi Z)<|Qa<|Qs Z (O.I G) Z Z<|Qs Z (J.I G) Z Z<|xb (J0 Z Z) (λhh=>O1 Z hh) (λhh=>?_);refine QB Z<|Qa<|Qs Z (O.I G) Z Z<|Qs Z (J.I G) Z Z<|Qw<|(UD (h2.mr.I G) (Y.mr.I G)).S ?_;rintro r4 w4 ⟨hj,I⟩;rw[O2 rfl]at hj;subst hj;have U:=G.D I;refine x (Zi Z)<|QB Z<|Qa<|Qs Z (O.I U) Z Z<|QG (h2.ed.I U) Z<|Qs Z (J.I U) Z Z<|QG (Y.ed.I U) Z<|xb (J0 Z Z) (λhm=>O1 Z hm) (λhm=>?_);refine QB Z<|xe ?_;exact⟨(),Lb,U⟩
 rintro⟨⟩ g w3 G;have ha:=V.D G;refine ZC rfl<|Qf<|Qd<|Qc<|Qb<|QY (α:=Nat) [(4,5),(36,53)] (λk=>[(5,sS k)]) (λk w'=>sW w3 w'/\k<=a.ed.length) (λk=>a.ed.length - k) 0 Lb ⟨xd.C _ _,Lp _⟩ ?_;rintro k g w4 ⟨I,hk⟩;have h4:=(h.I ha).ed.I I;have hn:=(O.I G).I I;refine Qd<|Ql<|Qs Z hn Z Z<|QG h4 Z<|ZT Z Z<|xe<|Zp rfl (λhr=>?_) (λhr=>?_)
 ·refine Qt<|Qc<|Qb<|Qk ⟨[.bool true],Lb,Z,ha.D I⟩
 have he:k<a.ed.length:=oa
 refine Qf<|Qd<|Qn<|Qd<|ZK [] (Xj 0 11 [])<|p (QH Z)<|pq (λ_ hc=>Qj (hn.I hc) Z Z)<|p Qx<|pie (i:=k) Z h4 Z Z he λhz hs=>pq (λ_ hc=>QF (hs.I hc) Z Z)<|p (QH Z)<|pq (λ_ hc=>Qj (((J.I G).I I).I hc) Z Z)<|p Qx <|
  pie (i:=k) Z ((h'.I ha).ed.I I) Z Z he λh0 hu=>pq (λ_ hc=>QF (hu.I hc) Z Z)<|p (λ_=>UH Z Z)<|pe ?_
 refine Zh rfl (λho=>O1 Z ho) (λho=>?_);refine Qf<|Qr<|Qa<|QC Z Z<|Qb<|⟨k+1,oa,Lb,I.D (xd.Y _ _),he⟩
theorem Qbu [h:S3 P t]{x:O8}{p q:Ed}(hx:ev f x=sT (Qp p))(I:ev f y=sT (Qp q)):
  (execOp (ev f) ⟨d,.binOp .eql t x y G,ty,pS,af,gd⟩).run P w=.ok (.value (.bool (decide (p=q)))) w:=by
 have J:(eqGuard .eql t x y (sT (Qp p)) (sT (Qp q))).run P w=.ok () w:=by simp[eqGuard,h.g]
 simp only[execOp,hx,I,Sem.run_bind,J,Result.andThen_ok,binOp,Qbr,Sem.run_pure]
def ex3:Qz:=⟨[0,2],3,[2],[(0,0,2),(0,2,0),(2,2,0)]⟩
def cn3:Qz:=⟨[0,2],2,[1],[(0,0,1),(0,2,0),(1,2,0)]⟩
def se3:List Ed:=[(0,1,0),(0,3,1),(1,1,0)]
theorem Qlv:Jj ex3=0:=od
theorem QoG:YB ex3=cn3:=od
theorem Qch:Jj cn3=0:=od
theorem QoS:Qnj cn3 0 [0,0]=0:=od
theorem QoT:flw cn3 0 [0,0]=(1,1):=od
theorem QoR:QiV cn3 2 true=some [[0],[2,0]]:=od
theorem Qp6:Jj ⟨[1,3],2,[1],se3⟩=0:=od
theorem Qp5:(YB ⟨[1,3],2,[1],se3⟩).ed=se3:=od
theorem Qq6:rlE cn3 [3,1]=[(0,3,1),(0,1,0),(1,1,0)]:=od
theorem Qtn:([3,1]:LI).mergeSort (λx y=>decide (x<=y))=[1,3]:=by
 refine List.Perm.eq_of_pairwise (le:=λx y:Int=>x<=y) (λa b _ _ h1 h2=>oa) ?_ oh ((Nl _ _).D (List.Perm.swap _ _ _));refine(List.pairwise_mergeSort (le:=λx y:Int=>decide (x<=y)) (λa b c h1 h2=>by simp at *;omega) (λa b=>by simp;omega) [3,1]).imp λh=>ox h
theorem Qp2 (l':List Ed)(G:l'.Perm (rlE cn3 [3,1]))(J:l'.Pairwise QdK):l'=se3:=by
 rw[Qq6]at G;refine List.Perm.eq_of_pairwise (le:=QdK) (λa b O hb h1 h2=>?_) J (by unfold se3 QdK;decide) (G.D (List.Perm.swap _ _ _));have I:=G.mem_iff.1 O;simp only[oN,oJ,or_false]at I;simp only[se3,oN,oJ,or_false]at hb;unfold QdK at h1 h2;rcases I with rfl|rfl|rfl <;> rcases hb with rfl|rfl|rfl <;> first|rfl|(exfalso;simp only[]at h1 h2;omega)
theorem QdE (w:O6):QT sV 247 [] w λr w'=>sW w w'/\Xu ↑w ↑w' r ex3:=by
 refine Zn func247 ?_;refine Qc<|QV zB λb0 w1 V hg Y=>xe ?_;refine Qc<|Qo<|Q3 [[sS 0],[sS 2]] λG w2 ha hn hh=>Qo<|Q3 [[sS 2]] λI w3 J ho hj =>
  x (QD ⟨rfl,Z,Z,La⟩)<|x (QD ⟨Z,Z,Z,La⟩)<|x (QD ⟨Z,Z,Z,La⟩)<|Qo<|Yj (us:=[Qp (0,0,2),Qp (0,2,0),Qp (2,2,0)]) Z Z oh (by exact(by decide:3*3<=1000000)) ⟨Z,Z,Z,Z,Z,Z,La⟩ λO w4 U hp hk=>?_
 have he:=(ha.D J).D U;have hq:=ha.size;have hr:=J.size;have hF:Xu ↑w1 ↑w4 (.agg #[sL G 2 2,sS 3,sL I 1 1,sL O 3 3]) ex3 :=
  Qbf (a:=ex3) ((hh.I J).I U) (hj.I U) hk oa oa oa Z Z Z oh oh oh
 refine x (QD ⟨Z,Z,Z,Z,La⟩)<|Q6 [sL G 2 2,sS 3,sL I 1 1,sL O 3 3] (Y.I he) oA λw5 hf hm=>xe ?_;refine Qk ⟨[.agg #[sL G 2 2,sS 3,sL I 1 1,sL O 3 3]],⟨Kh hm,La⟩,(V.D he).O hf hg,?_⟩;exact(Je hF Y.lt hf).S V.size
theorem Qie (w:O6):QT sV 185 [] w λr w'=>r=.bool true/\sW w w':=by
 refine Zn func185 ?_;refine Qc<|Qb<|Qc<|Qw<|(QdE w).S ?_;rintro r1 w1 ⟨hJ,va,vm,ve,rfl,hK⟩;refine Qw<|(Qcv (hK [] oe)).S ?_;rintro r2 w2 ⟨hM,v2,rfl,_,hN⟩;have hh:=hN Qlv;rw[QoG]at hh;obtain⟨ca,cm,ce,rfl,hO⟩:=hh;have hC:=hO [] oe;refine Qa<|QS Z Z<|QS Z Z<|QV zB λb1 w3 hP hQ hS=>Q6 [ca,sS 2,cm,ce] hS ⟨hC.al.one,Z,hC.mr.one,hC.ed.one,La⟩ λw4 hT O=>Qb ?_;have hj:sW w2 w4:=hP.O hT hQ;have U:=hC.I hj;refine Qc<|Q7 O Z Z<|Qo<|Q3 [[sS 0],[sS 0]] λg8 w5 hk g9 hU=>Qw<|(Qrp (u:=[0,0]) (U.I hk) (hU.arr (L:=[]) oe (n:=2) (cap:=2) (sz:=1) rfl oa (Lr _)) 0).S ?_;rintro r6 w6 ⟨hV,hm⟩;rw[OY (by rw[QoS];decide),QoT]at hm;subst hm;refine Qa<|QS Z Z<|QS Z Z<|QS Z Z<|x Qe<|x Qe<|Qb ?_;have Y:=hk.D hV;refine Qc<|Q7 (O.I Y) Z Z<|Qw<|(QiG (U.I Y) Qch ((ZA _).1 Qch) 2 oh true).S ?_;rintro r7 w7 ⟨hW,hn⟩;rw[QoR]at hn;have hX:∃J I p1,r7=.tuple #[J,sS 0]/\JS [] ↑w7 J [I,p1]/\I.2=[0]/\p1.2=[2,0]:=by
  rcases hn with⟨h,_⟩|⟨l,J,ps,hl,h2,h3,G⟩
  ·cases h
  cases hl
  match ps,h3,G with
  | [I,p1],h3,G =>
   simp only[oU,OI,List.cons.injEq,and_true]at G;exact⟨J,I,p1,h2,h3,G.1,G.2⟩
  | [],_,G=>simp at G
  | [_],_,G=>simp at G
  | _::_::_::_,_,G=>simp at G
 obtain⟨J,I,p1,rfl,hY,hZ,ga⟩:=hX;refine Qa<|QS Z Z<|QS Z Z<|x Qe<|Qb ?_;have ha:=Y.D hW;refine Qc<|Q7 (O.I ha) Z Z<|Qo<|Q3 [[sS 3],[sS 1]] λka w8 ho kb gb =>
  Qw<|(QfL (to:=[3,1]) ((U.I ha).I ho) Qch ((ZA _).1 Qch) (gb.arr (L:=[]) oe (n:=2) (cap:=2) (sz:=1) rfl oa (Lr _)) rfl oh oh Qtn Qp2 ((ZA _).1 Qp6)).S ?_
 rintro r9 w9 ⟨gc,v9,rfl,ge⟩;obtain⟨ra,rm,re,rfl,gg⟩:=ge;have hR:=gg [] oe;have gh:qn [] ↑w9 re se3:=by
  have h:=hR.ed;rw[show(YB ⟨[1,3],cn3.st,cn3.mr,se3⟩).ed=se3 from Qp5]at h;exact h
 refine Qa<|QS Z Z<|QS Z Z<|QV zB λb8 kc gi gj gk=>Qo<|ZM (us:=[ra,sS (YB ⟨[1,3],cn3.st,cn3.mr,se3⟩).st,rm,re]) gk Z Z Z Z ⟨hR.al.one,Z,hR.mr.one,hR.ed.one,La⟩ λhp gl gm=>Qb ?_;have hq:sW w9 hp:=gi.O gl gj;have hr:=(ho.D gc).D hq;have he:=ha.D hr;refine QX (α:=Unit) [(0,0),(33,98)] (λz=>[(0,.bool true)]) (λz w'=>sW hp w') ol ?_ ?_
 ·refine Qr<|Qa<|xb (Zc Z Z) (λhs=>?_) (λhs=>O1 Qlv hs);refine Qa<|Q7 (O.I he) Z Z<|Qo<|Q3 [[sS 0],[sS 2]] λgn ke gq kf gr=>Qo<|Q3 [[sS 1]] λgs kg hu kh gt =>
   x (QD ⟨Z,Z,Z,La⟩)<|x (QD ⟨Z,Z,Z,La⟩)<|x (QD ⟨Z,Z,Z,La⟩)<|Qo<|Yj (us:=[Qp (0,0,1),Qp (0,2,0),Qp (1,2,0)]) Z Z oh (by exact(by decide:3*3<=1000000)) ⟨Z,Z,Z,Z,Z,Z,La⟩ λgu gv hf ki gx=>?_
  have hv:=(gq.D hu).D hf;have hL:Zv [] ↑gv (sL gn 2 2) (sL gs 1 1) (sL gu 3 3) cn3 :=
   ⟨((gr.I hu).I hf).arr (L:=[]) oe (n:=2) (cap:=2) (sz:=1) rfl oa (OG _),(gt.I hf).arr (L:=[]) oe (n:=1) (cap:=1) (sz:=1) rfl oa (OG _),gx.arr (L:=[]) oe (n:=3) (cap:=3) (sz:=3) rfl oa (Lr _)⟩
  refine x (QD ⟨Z,Z,Z,Z,La⟩)<|Qw<|(Qmv (a:=cn3) ((U.I he).I hv) hL).S ?_;rintro kj kk ⟨rfl,gy⟩;have hw:=hv.D gy;have V:=(hY.I hr).I hw;refine QB Z<|Qa<|Qa<|xb (Zc Z Z) (λhy=>?_) (λhy=>O1 Z hy);refine QB Z<|Qa<|Qa<|xb (Zc Z Z) (λhz=>?_) (λhz=>O1 Z hz);refine QB Z<|Qa<|Qa<|xb (Zc Z Z) (λh0=>?_) (λh0=>O1 Z h0);refine QB Z<|Qa<|Qa<|xb (Zc Z Z) (λh5=>?_) (λh5=>O1 Z h5);refine QB Z<|Qa<|Qa<|QG V.arr Z<|xb (Zc Z Z) (λh6=>?_) (λh6=>O1 Z h6);refine QB Z<|Qa<|Qa<|xo (g:=YP) (i:=0) KO V.arr Z Z oe λkn gz=>x (Qq gz rfl)<|Qo<|Q3 [[sS 0]] λko kq h7 kr g0 =>
   Qw<|(UD (l:=I.2) (l':=[0]) ((V.each I oe).I h7) (g0.arr (L:=[]) oe (n:=1) (cap:=1) (sz:=1) rfl oa (Lr _))).S ?_
  rintro kt ku ⟨h8,g2⟩;rw[hZ,O2 rfl]at h8;subst h8;have h9:=h7.D g2;have hA:=V.I h9;refine QB Z<|Qa<|Qa<|xo (g:=YP) (i:=1) KO hA.arr Z Z oe λkv g3=>x (Qq g3 rfl)<|Qo<|Q3 [[sS 2],[sS 0]] λkw kx hB kz g4 =>
   Qw<|(UD (l:=p1.2) (l':=[2,0]) ((hA.each p1 oe).I hB) (g4.arr (L:=[]) oe (n:=2) (cap:=2) (sz:=1) rfl oa (Lr _))).S ?_
  rintro k0 k4 ⟨hD,g5⟩;rw[ga,O2 rfl]at hD;subst hD;have hg:=(hw.D h9).D (hB.D g5);have hE:=gm.I hg;have hF:=(gh.I hq).I hg;refine QB Z<|Qa<|Qa<|xb (Zc Z Z) (λhG=>?_) (λhG=>O1 Z hG);refine QB Z<|Qa<|Qs Z hE Z Z<|QG hF Z<|xb (Zc Z Z) (λhH=>?_) (λhH=>O1 Z hH);refine QB Z<|Qa<|Qs Z hE Z Z<|xie (i:=1) hF Z Z oh λk5 g6=>x (QF g6 Z Z)<|x (QD ⟨Z,Z,Z,La⟩)<|xb (Qbu (p:=(0,3,1)) (q:=(0,3,1)) Z Z) (λhI=>?_) (λhI=>O1 Z hI);refine QB Z<|Qb<|⟨(),Lb,hg⟩
 rintro z g k6 g7;exact Qk ⟨[.bool true],Lb,Z,(((hJ.D hM).D hj).D he).D g7⟩
theorem QiK (w:O6):QT sV 116 [] w λr w'=>r=.bool true/\sW w w':=by
 refine Zn func116 ?_;refine Qc<|Qb<|Qc<|Qw<|(Qie w).S ?_;rintro I J ⟨rfl,G⟩;refine Qb<|Qk ⟨[.bool true],Lb,Z,G⟩
theorem CL.cel_rq {c:CL}{k:ZO}(h:c.V=k)(v:O7)(qs:List IV):(CL.mk c.ve c.vc v c.vx c.vk c.ev c.co qs c.ex c.cs).V={ k with rq:=qs.map IV.it }:=by rw[<-h];rfl
theorem CL.cel_ex {c:CL}{k:ZO}(h:c.V=k)(v:O7)(qs:List XV):(CL.mk c.ve c.vc c.vr v c.vk c.ev c.co c.rq qs c.cs).V={ k with ex:=qs.map XV.x }:=by rw[<-h];rfl
theorem CL.cel_cs {c:CL}{k:ZO}(h:c.V=k)(v:O7)(qs:List KV):(CL.mk c.ve c.vc c.vr c.vx v c.ev c.co c.rq c.ex qs).V={ k with cs:=qs.map KV.k }:=by rw[<-h];rfl
theorem QeL {c:CL}{k:ZO}(h:Z9 [] ↑w c)(hc:c.V=k)(U:YY k=0)(ha:Kb w 4096):
  QT sV 31 [c.val] w λr w'=>sW w w'/\∃va vm ve I J O G,r=.tuple #[.agg #[va,sS (spc k).a.st,vm,ve,I,J,O,G],sS 0]/\ZN [va,sS (spc k).a.st,vm,ve,I,J,O,G]/\Zw [] ↑w' G (spc k).fb.length 4 ((spc k).fb.flatMap Z5):=by
 refine(jM h ha).S ?_;rintro r w' ⟨hs,v,rfl,⟨us,hv,_,V⟩,Y⟩;rw[hc]at Y ⊢;obtain⟨va,vm,ve,I,J,O,G,cos,rqs,rfl,_,_,hA⟩:=Y U;have hf:us=[va,sS (spc k).a.st,vm,ve,I,J,O,G]:=by
  simpa using(O0 (λv=>match v with|Value.agg cs=>cs.toList|_=>[]) hv).symm
 rw[hf]at V;exact⟨hs,va,vm,ve,I,J,O,G,by rw[U],V,(hA [] oe).2.2.2.2⟩
theorem Qq7 {c:CL}{k:ZO}(h:Z9 [] ↑w c)(hc:c.V=k)(G:YY k=0)(I:(spc k).a.st<4096)(h1:Qhl k=true)(J:Kb w 4096):
  QT sV 183 [c.val] w λr w'=>sW w w'/\∃xa xm xe vb,r=.tuple #[.agg #[xa,sS ((spc k).a.st+1),xm,xe],vb,sS 0]/\ZN [xa,xm,xe]/\Qh 3 ↑w w' vb (cmB k):=by
 subst hc;exact Qeq h J G I h1
abbrev Qqk:LV:=[nS,sS 0,nS,nS,nS,nS,nS,nS]
theorem QsP {P:Prop}{a b:Int}(e:a=b)(h:¬a=b):P:=O1 e h
theorem Qfc (hk:Kb w 4096):QT sV 115 [] w λr w'=>r=.bool true/\sW w w':=by
 refine Zn func115 ?_;refine Qc<|Qb<|Qc<|Qw<|(J9 1 oh w).S ?_;rintro r1 w1 ⟨hO,V,rfl,ka,kb⟩;refine Qw<|(J9 2 oh w1).S ?_;rintro r2 w2 ⟨h8,Y,rfl,kc,ke⟩;refine Qw<|(J9 2 oh w2).S ?_;rintro r3 w3 ⟨hn,c3,rfl,kf,kg⟩;have hP:=((kb [] oe).I h8).I hn;have hQ:=(ke [] oe).I hn;have hR:=kg [] oe;refine QV Vo λG w4 kh j1 hS=>QV Vo λI w5 hT j2 hU=>QV Vo λJ w6 hA j3 ha=>?_;have j4:=hS.lt;have za:=hU.lt;have z0:=ha.lt;refine Q6 V.cells ((hS.I hT).I hA) hP.ones λw7 ho ki=>Q6 Y.cells ((hU.I hA).J ho om) hQ.ones λw8 hp kj =>
  Q6 c3.cells ((ha.J ho om).J hp om) hR.ones λw9 hr kk=>xe ?_
 have hs:sW w3 w9:=((((kh.D hT).D hA).O ho oa).O hp oa).O hr oa;have ha:∀b∈[G,I,J],↑w3<=b/\b<w6.heap.size:=λb hb=>by
  simp only[oN,oJ,or_false]at hb;rcases hb with rfl|rfl|rfl <;> omega
 have m1:∀b∈[G],b∈[G,I,J]:=oe
 have m2:∀b∈[I],b∈[G,I,J]:=oe
 have m3:∀b∈[J],b∈[G,I,J]:=oe
 have z1:w6.heap.size<=w9.heap.size:=by have:=ho.size;have:=hp.size;have:=hr.size;omega
 have nB:∀b,↑w9<=b->b∉[G,I,J]:=λb hb hm=>oq (ha b hm).2
 refine Qc<|Qo<|Q3 [[sS 1]] λb16 z2 hV z3 kn=>Qo<|Q3 [[sS 0]] λhu z4 hB z5 ko=>x (QD ⟨Z,Z,Z,La⟩) <|
  x (ZE [(0,[.string UP]),(1,[sL b16 1 1,sS 1,sL hu 1 1,nS])] ⟨Z,Z,Z,Z,La⟩) <|
  Qo<|Q3 [[.string UP,sL b16 1 1,sS 1,sL hu 1 1,nS]] λhC kq hD hb20 kr=>?_
 have hv:=(hV.D hB).D hD;refine Q9 rfl<|Qo<|Qv (j:=2) (u:=sL hC 1 1) (((ki.J hp om).J hr om).I hv) Z Z oe rfl λhE hw kt=>xe ?_;have hz10:=hV.size;have hz11:=hB.size;have hh:xd [G,I,J] w9 hE:=hv.any.Q (hw.S m1);have ku:Z9 [G,I,J] ↑hE (CL.mk V.ve V.vc (sL hC 1 1) V.vx V.vk V.ev V.co [⟨UP,⟨sL b16 1 1,sL hu 1 1,nS,QbX.a⟩⟩] V.ex V.cs):=by
  have O:=((hP.up (L':=[G,I,J]) (λb hb=>.inr (ha b hb).1)).I hs).st hh;refine⟨O.ev,O.co,VF.st (w:=kq) ⟨kr.arr (nB _ oa) (n:=1) (cap:=1) (sz:=5) Z oh (Lr _),λq U=>?_,λq U=>?_⟩ (hw.S m1),O.ex,O.cs⟩
  ·rw[Lc.1 U];exact⟨((kn.I hB).I hD).arr (nB _ oa) (n:=1) (cap:=1) (sz:=1) Z oh (Lr _),(ko.I hD).arr (nB _ oa) (n:=1) (cap:=1) (sz:=1) Z oh (Lr _),Zw.nil _ _ 3⟩
  rw[Lc.1 U];exact JB oh
 refine Qc<|x (QD ⟨Z,Z,La⟩)<|x (QD ⟨Z,Z,La⟩)<|Qo<|Q3 [Zf (0,1),Zf (1,1)] λhF w14 hW hb24 kv=>x (QD ⟨Z,Z,La⟩) <|
  Qo<|Q3 [[.string QbJ,sL hF 2 2]] λhG kw hX hb26 kx=>?_
 have hy:=hW.D hX;refine Q9 rfl<|Qo<|Qv (j:=3) (u:=sL hG 1 1) (((kj.J hr om).J (hv.any.Q hw) om).I hy) Z Z oe rfl λhH hz kz=>xe ?_;have hz14:=hW.size;have hj:xd [G,I,J] hE hH:=hy.any.Q (hz.S m2);have hz16:=hj.size;have hz913:=hh.size;have k0:Z9 [G,I,J] ↑hH (CL.mk Y.ve Y.vc Y.vr (sL hG 1 1) Y.vk Y.ev Y.co Y.rq [⟨QbJ,sL hF 2 2,[(0,1),(1,1)]⟩] Y.cs):=by
  have O:=((hQ.up (L':=[G,I,J]) (λb hb=>.inr (ha b hb).1)).I hs).st (hh.Q hj);refine⟨O.ev,O.co,O.rq,Xcs.st (w:=kw) ⟨kx.arr (nB _ oa) (n:=1) (cap:=1) (sz:=2) Z oh (Lr _),λq U=>?_,λq U=>?_⟩ (hz.S m2),O.cs⟩
  ·rw[Lc.1 U];exact(kv.I hX).arr (nB _ oa) (n:=2) (cap:=2) (sz:=2) Z oh (Lr _)
  rw[Lc.1 U];exact JB oh
 refine Qc<|x (QD ⟨Z,Z,La⟩)<|x (QD ⟨Z,Z,La⟩)<|Qo<|Q3 [Zf (0,1),Zf (1,1)] λhI w17 hY hb30 k4=>x (QD ⟨Z,Z,Z,La⟩) <|
  Qo<|Q3 [[.string QbI,sL hI 2 2,sS 1]] λhJ k5 hZ hb32 k6=>?_
 have h0:=hY.D hZ;refine Q9 rfl<|Qo<|Qv (j:=4) (u:=sL hJ 1 1) (((kk.J (hv.any.Q hw) om).J (hy.any.Q hz) om).I h0) Z Z oe rfl λhf h3 k9=>xe ?_;have hz17:=hY.size;have h4:xd [G,I,J] hH hf:=h0.any.Q (h3.S m3);have ma:Z9 [G,I,J] ↑hf (CL.mk c3.ve c3.vc c3.vr c3.vx (sL hJ 1 1) c3.ev c3.co c3.rq c3.ex [⟨QbI,sL hI 2 2,[(0,1),(1,1)],1⟩]):=by
  have O:=((hR.up (L':=[G,I,J]) (λb hb=>.inr (ha b hb).1)).I hs).st ((hh.Q hj).Q h4);refine⟨O.ev,O.co,O.rq,O.ex,jT.st (w:=k5) ⟨k6.arr (nB _ oa) (n:=1) (cap:=1) (sz:=3) Z oh (Lr _),λq U=>?_,λq U=>?_⟩ (h3.S m3)⟩
  ·rw[Lc.1 U];exact(k4.I hZ).arr (nB _ oa) (n:=2) (cap:=2) (sz:=2) Z oh (Lr _)
  rw[Lc.1 U];exact JB oh
 have ga:Z9 [] ↑hf _:=((ku.st hj).st h4).up (L':=[]) oe;have mc:Z9 [] ↑hf _:=(k0.st h4).up (L':=[]) oe;have mf:Z9 [] ↑hf _:=ma.up (L':=[]) oe;have gb:=(kt.J (hy.any.Q hz) om).J (h0.any.Q h3) om;have gc:sW w hf:=(((hO.D h8).D hn).D hs).Z ((hh.Q hj).Q h4) (λb hb=>.inr (ou (ha b hb).1 ((hO.D h8).D hn).size));have ge:=CL.cel_rq ka (sL hC 1 1) [⟨UP,⟨sL b16 1 1,sL hu 1 1,nS,QbX.a⟩⟩];refine Qc<|Q7 gb Z Z<|Qw<|(QeL (k:=k1C) ga ge Qst (hk.I gc)).S ?_;rintro r20 mg ⟨mh,sa,sm,se,s1,s2,s3,s4,rfl,mj,gg⟩;rw[Qss]at gg;refine Qa<|QS Z Z<|QS Z Z<|QV Qqk λb4 w21 mo mq ms=>Q6 [sa,sS (spc k1C).a.st,sm,se,s1,s2,s3,s4] ms mj λmt mu mv=>Qb ?_;have gh:sW mg mt:=mo.O mu mq;have h5:=mh.D gh;have gi:=gc.D h5;refine Qc<|Q7 (gb.I h5) Z Z<|Qw<|(Qq7 (k:=k1C) (ga.I h5) ge Qst (by rw[Qpt];decide) QqC (hk.I gi)).S ?_;rintro r23 gj ⟨mw,xa,xm,my,vb,rfl,hK,gk⟩;rw[QqD]at gk;have mz:Qu [] ↑gj vb [2]:=Qh.ints (L:=[]) gk oe oe;refine Qa<|QS Z Z<|QS Z Z<|QS Z Z<|QV zB λb6 w24 m0 m4 m5=>Q6 [xa,sS ((spc k1C).a.st+1),xm,my] m5 ⟨hK.1,Z,hK.2.1,hK.2.2.1,La⟩ λm6 m7 m8=>x Qe<|Qb ?_;have gl:sW gj m6:=m0.O m7 m4;have h6:=mw.D gl;have hL:=h5.D h6;have gm:=gi.D h6;refine Qc<|x (Zj ((kz.J (h0.any.Q h3) om).I hL) Z Z)<|Qw<|(QeL (k:=k2C) (mc.I hL) (CL.cel_ex kc (sL hG 1 1) [⟨QbJ,sL hF 2 2,[(0,1),(1,1)]⟩]) QtJ (hk.I gm)).S ?_;rintro r26 m9 ⟨pc,ta,tm,te,t1,t2,t3,t4,rfl,hto,gn⟩;rw[Qsq]at gn;refine Qa<|QS Z Z<|QS Z Z<|QV Qqk λb9 w27 pd pf pg=>Q6 [ta,sS (spc k2C).a.st,tm,te,t1,t2,t3,t4] pg hto λph pn po=>Qb ?_;have gq:sW m9 ph:=pd.O pn pf;have hg:=pc.D gq;have gr:=hL.D hg;have gs:=gm.D hg;refine Qc<|Q7 (k9.I gr) Z Z<|Qw<|(QeL (k:=k3C) (mf.I gr) (CL.cel_cs kf (sL hJ 1 1) [⟨QbI,sL hI 2 2,[(0,1),(1,1)],1⟩]) QtI (hk.I gs)).S ?_;rintro r29 pp ⟨pt,ua,um,ue,u1,u2,u3,u4,rfl,pu,gt⟩;rw[Qsn]at gt;refine Qa<|QS Z Z<|QS Z Z<|QV Qqk λb11 w30 pw pz p0=>Q6 [ua,sS (spc k3C).a.st,um,ue,u1,u2,u3,u4] p0 pu λgu p4 p5=>Qb ?_;have gv:sW pp gu:=pw.O p4 pz;have he:=pt.D gv;have gx:=po.I he;refine QX (α:=Unit) [(0,0),(55,105)] (λz=>[(0,.bool true)]) (λz w'=>sW gu w') ol ?_ ?_
 ·refine Qr<|Qa<|xb (Zc Z Z) (λgy=>?_) (λgy=>O1 Z gy);refine Qa<|Qa<|xb (Zc Z Z) (λgz=>?_) (λgz=>O1 Z gz);refine QB Z<|Qa<|Qa<|xb (Zc Z Z) (λg0=>?_) (λg0=>O1 Z g0);refine QB Z<|Qa<|Qa<|xb (Zc Z Z) (λg2=>?_) (λg2=>O1 Z g2);refine QB Z<|Qa<|Q9 Z<|x (Qj (((mv.I h6).I hg).I he) Z Z)<|x (QD ⟨Z,Z,Z,Z,La⟩)<|Qo<|Q3 [Z5 ⟨1,3,0,1⟩] λb73 w32 g3 hb73 p6 =>
   Qw<|(qQ (l:=[⟨1,3,0,1⟩]) ((((((gg.I gh).I h6).I hg).I he)).I g3) (p6.arr (L:=[]) oe (n:=1) (cap:=1) (sz:=4) rfl oh (Lr _))).S ?_
  rintro r74 w33 ⟨rfl,p7⟩;have hM:=g3.D p7;refine QB Z<|Qa<|Q9 Z<|x (Qj (((m8.I hg).I he).I hM) Z Z)<|xb (Zc Z Z) (λg4=>?_) (λg4=>QsP (by rw[Qpt];rfl) g4);refine QB Z<|Qa<|Qa<|Qo<|Q3 [[sS 2]] λb83 w34 g5 hb83 p8 =>
   Qw<|(qR (l:=[2]) (l':=[2]) (((((mz.I gl).I hg).I he).I hM).I g5) (p8.arr (L:=[]) oe (n:=1) (cap:=1) (sz:=1) rfl oa (Lr _))).S ?_
  rintro r84 w35 ⟨g6,p9⟩;rw[O2 rfl]at g6;subst g6;have h7:=hM.D (g5.D p9);refine QB Z<|Qa<|Q9 Z<|Qs Z (gx.I h7) Z Z<|xb (Zc Z Z) (λg7=>?_) (λg7=>QsP Qsp g7);refine QB Z<|Qa<|Qs Z (gx.I h7) Z Z<|x (QD ⟨Z,Z,Z,Z,La⟩)<|Qo<|Q3 [Z5 ⟨3,1,0,-1⟩] λb96 w36 g8 hb96 qf =>
   Qw<|(qQ (l:=[⟨3,1,0,-1⟩]) ((((gn.I gq).I he).I h7).I g8) (qf.arr (L:=[]) oe (n:=1) (cap:=1) (sz:=4) rfl oh (Lr _))).S ?_
  rintro r97 w37 ⟨rfl,qj⟩;have hN:=h7.D (g8.D qj);refine QB Z<|Qa<|Qs Z (p5.I hN) Z Z<|x (QD ⟨Z,Z,Z,Z,La⟩)<|Qo<|Q3 [Z5 ⟨3,2,0,-1⟩] λb103 w38 g9 hb103 ql =>
   Qw<|(qQ (l:=[⟨3,2,0,-1⟩]) (((gt.I gv).I hN).I g9) (ql.arr (L:=[]) oe (n:=1) (cap:=1) (sz:=4) rfl oh (Lr _))).S ?_
  rintro r104 w39 ⟨rfl,q4⟩;refine QB Z<|Qb<|⟨(),Lb,hN.D (g9.D q4)⟩
 rintro z g w40 q5;exact Qk ⟨[.bool true],Lb,Z,(gs.D he).D q5⟩
theorem QfR (G:Kb w 4096):QT sV 47 [] w λr w'=>r=.bool true/\sW w w':=by
 refine Zn func47 ?_;refine Qc<|Qb<|QX (α:=Unit) [(0,4)] (λz=>[(0,.bool true)]) (λz w'=>sW w w') ol ?_ ?_
 ·refine Qr<|Qw<|(Qfc G).S ?_;rintro V I ⟨rfl,J⟩;refine Qa<|Qw<|(QiK I).S ?_;rintro r2 Y ⟨rfl,O⟩;refine QB Z<|Qb<|⟨(),Lb,J.D O⟩
 rintro z g w3 U;exact Qk ⟨[.bool true],Lb,Z,U⟩
def Kv:ByteArray:=⟨#[98,117,102,102,101,114]⟩
def UY:Jz:=⟨Kv,⟨[1,2],2,[0,1],[(0,1,1),(1,2,0)]⟩⟩
theorem zX {α:Type}(q:α->Bool)(x:Int):∀(l:List α) (i:Nat),x∈ixs q i l↔∃k,∃h:k<l.length,x=((i+k:Nat):Int)/\q (l[k]'h)=true
 | [],i=>by simp[ixs]
 | y::l,i=>by
  rw[ixs];have ih:=zX q x l (i+1);constructor
  ·intro h;by_cases I:q y=true
   ·rw[OZ I]at h;rcases Ll.1 h with h|h
    ·exact⟨0,oe,by rw[h];simp,I⟩
    obtain⟨k,J,h1,h2⟩:=ih.1 h;exact⟨k+1,by simp;omega,by rw[h1];congr 1;omega,h2⟩
   rw[OY I]at h;obtain⟨k,J,h1,h2⟩:=ih.1 h;exact⟨k+1,by simp;omega,by rw[h1];congr 1;omega,h2⟩
  rintro⟨k,J,h1,h2⟩;cases k with
  | zero =>
   have G:q y=true:=h2;rw[OZ G];exact Ll.2 (.inl (by rw[h1];simp))
  | succ k =>
   have G:=ih.2 ⟨k,ox J,by rw[h1];congr 1;omega,h2⟩;split
   ·exact Lh _ G
   exact G
theorem QbU {α:Type}(q:α->Bool):∀(l:List α) (i:Nat),YD (ixs q i l)
 | [],_=>List.Pairwise.nil
 | y::l,i=>by
  rw[ixs];split
  ·refine Mb.2 ⟨λx hx=>?_,QbU q l (i+1)⟩;obtain⟨k,_,h1,_⟩:=(zX q x l (i+1)).1 hx;omega
  exact QbU q l (i+1)
theorem jB (h:Z2 c=0):XZ c.ev=0:=by
 unfold Z2 at h;by_cases h1:XZ c.ev≠0
 ·rw[OZ h1]at h;exact O1 h h1
 exact Ly.1 h1
theorem jA {l:List VU}(h:XZ l=0):l.length<=32:=by
 unfold XZ at h;by_cases h1:32<l.length
 ·rw[OZ h1]at h;cases h
 omega
theorem Qja {l:List VU}(h:XZ l=0):Z7 (unc l):=by
 refine⟨λx hx=>?_,QbU _ _ _⟩;obtain⟨k,G,e,_⟩:=(zX _ _ _ _).1 hx;have:=jA h;omega
theorem Qm2 {l:List VU}(h:XZ l=0):(unc l).length<=32:=(Qja h).len
def hck (c:ZO)(hi:LI):Int :=
 if Z2 c≠0 then Z2 c else if 0<c.ex.length+c.cs.length then 13 else if Ki (c.ev.length:Int) none hi≠0 then Ki (c.ev.length:Int) none hi else
 if(c.rq.all λr=>decide (mrg (λp q=>p && !q) r.a.al hi=[]))=true then 0 else 9
theorem Qmo {p:α->Bool}{l:List α}{k:Nat}(h:k<l.length):(l.drop k).all p=(p (l[k]'h) && (l.drop (k+1)).all p):=by rw[QZ h,MQ]
theorem Qil {c:CL}(h:Z9 [] ↑w c)(hH:Qu [] ↑w vh hi):
  QT sV 36 [c.val,vh] w λr w'=>r=sS (hck c.V hi)/\sW w w':=by
 have hE:=h.ex.arr.le;have hF:=h.cs.arr.le;have hG:=h.rq.arr.le;have h6:=hH.le;have G:hck c.V hi=if Z2 c.V≠0 then Z2 c.V else if 0<c.ex.length+c.cs.length then 13 else if Ki (c.ev.length:Int) none hi≠0 then Ki (c.ev.length:Int) none hi else
   if(c.rq.all λr=>decide (mrg (λp q=>p && !q) r.p.a.al hi=[]))=true then 0 else 9:=by
  unfold hck;rw[show c.V.ex.length=c.ex.length from Lo ..,show c.V.cs.length=c.cs.length from Lo ..,show c.V.rq=c.rq.map (·.it) from rfl,List.all_map];rfl
 refine Zg (hck c.V hi) λR hR=>?_;rw[hR]at G ⊢;refine Zn func36 ?_;refine Qc<|Zd c.cells λb2 w1 hw hI hy=>Qb<|Qd<|Qc<|Q7 hy Z Z<|Qw<|(Qa4 (h.I hw)).S ?_;rintro _ w2 ⟨rfl,hz⟩;refine Qb ?_;have I:=hw.D hz;have V:=hy.I hz;refine Ql<|ZS Z Z<|xe<|Zh rfl (λhg=>?_) (λhg=>?_)
 ·have O:Z2 c.V≠0:=hg;rw[OZ O]at G;refine Ql<|Qb<|Qk ⟨[_],Lb,by rw[G];rfl,I⟩
 have O:¬Z2 c.V≠0:=hg;rw[OY O]at G;refine Qf<|Qd<|Qc<|Qs Z V Z Z<|QG (h.ex.arr.I I) Z<|Qs Z V Z Z<|QG (h.cs.arr.I I) Z<|QC Z Z<|x (Ya Z Z)<|xe<|Zh rfl (λhh=>?_) (λhh=>?_)
 ·have hj:0<c.ex.length+c.cs.length:=by have hm:(c.ex.length:Int)+(c.cs.length:Int) > 0:=hh;omega
  rw[OZ hj]at G;refine Qc<|Qb<|Qk ⟨[_],Lb,by rw[G];rfl,I⟩
 have hj:¬0<c.ex.length+c.cs.length:=by have hm:¬(c.ex.length:Int)+(c.cs.length:Int) > 0:=hh;omega
 rw[OY hj]at G;refine Qf<|Qd<|Ql<|Qs Z V Z Z<|QG (h.ev.arr.I I) Z<|Qw<|(zq (hH.I I) _).S ?_;rintro _ w3 ⟨rfl,rfl⟩;refine Qb<|Ql<|ZS Z Z<|xe<|Zh rfl (λhn=>?_) (λhn=>?_)
 ·have Y:Ki (c.ev.length:Int) none hi≠0:=hn;rw[OZ Y]at G;refine Ql<|Qb<|Qk ⟨[_],Lb,by rw[G];rfl,I⟩
 have Y:¬Ki (c.ev.length:Int) none hi≠0:=hn;rw[OY Y]at G;have h7:=YW (Ly.1 O);have hJ:c.ev.length<=32:=jA (jB (Ly.1 O));have h0:=(Xl _ _ _).1 (Ly.1 Y);have h6:hi.length<=c.ev.length:=xM c.ev.length hi (h0.2.1.imp λhK e=>oa) h0.1;refine Qf ?_;have h3:=h.rq.arr.I I;refine Qd<|Qc<|Qs Z V Z Z<|QG h3 Z<|Qa<|xe<|QY (α:=Nat) [(4,4),(8,8),(33,43)] (λz=>[(33,sS z)]) (λz w'=>z<=c.rq.length/\sW w3 w'/\R=if((c.rq.drop z).all λr=>decide (mrg (λp q=>p && !q) r.p.a.al hi=[]))=true then 0 else 9) (λz=>c.rq.length - z) 0 Lb ⟨Lp _,xd.C _ _,by rw[NQ];exact G⟩ ?_
 rintro k g w4 ⟨hk,ho,J⟩;have ha:=I.D ho;refine Zk rfl Z (λhp=>?_) (λhp=>?_)
 ·refine Qt ?_;have h8:c.rq.length<=k:=by have hm:¬(k:Int)<(c.rq.length:Int):=hp;omega
  rw[Lx h8,List.all_nil,OZ rfl]at J;refine Qc<|Qb<|Qk ⟨[_],Lb,by rw[J];rfl,ha⟩
 have U:k<c.rq.length:=by have hm:(k:Int)<(c.rq.length:Int):=hp;omega
 have hs:=Lm U;rw[Qmo U]at J;refine Zg (c.rq[k]'U) λq hq=>?_;rw[hq]at hs J;have he:=(h.rq.each q hs).I ha;have hL:q.p.a.al.length<=32:=(h7.rq q.it (LL hs)).al_le;refine Qf<|Qd<|Qn<|Qc<|xo (g:=Zm) (i:=k) (λ_=>Z) (h3.I ho) Z Z U λhM h4=>?_;rw[hq]at h4;refine x (QF (us:=Zm q) h4 Z Z)<|QV [.string .empty,nS,sS 0,nS,nS] λb8 w5 h9 hA hB=>Q6 (Zm q) hB ⟨Z,he.al.one,Z,he.mr.one,he.ed.one,La⟩ λw6 hC hD=>xe ?_;have hf:sW w4 w6:=h9.O hC hA;refine Qc<|Q9 Z<|Qs Z hD Z Z<|Qa<|Qw<|(Qba (he.al.I hf) (hH.I (ha.D hf)) oa).S ?_;rintro _ w7 ⟨h5,rfl⟩;refine x (Zi Z)<|xe<|Q5 rfl (λhu=>?_) (λhu=>?_)
 ·have hv:=VK hu;rw[O4 hv,Bool.false_and,OY M0]at J;refine Qc<|Qb<|Qk ⟨[_],Lb,by rw[J];rfl,ha.D (hf.D h5)⟩
 have hv:=Kw hu;rw[O2 hv,OP]at J;refine Qf<|Qr<|QC Z Z<|Qa<|xe ?_;exact⟨k+1,by show c.rq.length - (k+1)<c.rq.length - k;omega,Lb,U,(ho.D hf).D h5,J⟩
structure LvV where
 c:CL
 pa:O7
 pm:O7
 pe:O7
 p:Qz
 vh:O7
 vu:O7
 hi:LI
 un:LI
abbrev Yk (V:LvV):LV:=[V.c.ve,V.c.vc,V.c.vr,V.c.vx,V.c.vk,V.pa,sS V.p.st,V.pm,V.pe,V.vh,V.vu]
structure LvA (H:xG)(V:LvV):Prop where
 c:Z9 [] H V.c
 a:Zv [] H V.pa V.pm V.pe V.p
 h:Qu [] H V.vh V.hi
 u:Qu [] H V.vu V.un
theorem LvA.I {w w':O6}{V:LvV}(h:LvA ↑w V)(G:sW w w'):LvA ↑w' V:=⟨h.c.I G,h.a.I G,h.h.I G,h.u.I G⟩
theorem LvA.ones {H:xG}{V:LvV}(h:LvA H V):ZN (Yk V):=⟨h.c.ev.arr.one,h.c.co.arr.one,h.c.rq.arr.one,h.c.ex.arr.one,h.c.cs.arr.one,h.a.al.one,Z,h.a.mr.one,h.a.ed.one,h.h.one,h.u.one,La⟩
abbrev UQ:LV:=[ZY,ZY,ZY,ZY,ZY,ZY,sS 0,ZY,ZY,ZY,ZY]
instance:Bw sV 113 UQ [(0,5),(5,4),(9,1),(10,1)]:={}
structure LvK (k:CL)(hi:LI)(V:LvV):Prop where
 c:V.c=k
 p:V.p=Jf (xj k.V.co)
 h:V.hi=hi
 u:V.un=unc k.V.ev
theorem jH {c:CL}(h:Z9 [] ↑w c)(hH:Qu [] ↑w vh hi)(hz:Kb w 4096)(hp:hck c.V hi=0->plE c.V=0):
  QT sV 51 [c.val,vh] w λr w'=>sW w w'/\∃us,r=.tuple #[sT us,sS (hck c.V hi)]/\us.length=11/\ZN us/\(hck c.V hi=0->∃V:LvV,us=Yk V/\LvA ↑w' V/\LvK c hi V):=by
 refine Zn func51 ?_;refine Qc<|Zd c.cells λb2 w1 hq hR h0=>QV UQ λb4 w2 hr hT ha=>Qb ?_;have hf:=hq.D hr;have hU:=hq.size;have hg:=h0.I hr;refine Qd<|Qc<|Q7 hg Z Z<|Qa<|Qw<|(Qil (h.I hf) (hH.I hf)).S ?_;rintro _ w3 ⟨rfl,G⟩;refine Zg (hck c.V hi) λE hE=>?_;rw[hE]at hp ⊢;refine Qb ?_;have O:=hf.D G;refine Ql<|ZS Z Z<|xe<|Zh rfl (λhh=>?_) (λhh=>?_)
 ·have U:E≠0:=hh;refine Qc<|x (ZE [] La)<|Qa<|Q6 UQ (ha.I G) ⟨Z,Z,Z,Z,Z,Z,Z,Z,Z,Z,Z,La⟩ λw4 h3 h4=>Qb<|Qk ⟨[sT UQ,sS E],⟨Kh h4,Z,La⟩,O.O h3 oa,UQ,Z,Z,⟨Z,Z,Z,Z,Z,Z,Z,Z,Z,Z,Z,La⟩,λe=>O1 e U⟩
 have U:E=0:=Ly.1 hh;have h5:=hp U;refine Qf<|Qc<|Q7 (hg.I G) Z Z<|Qw<|(Qek (h.I O) (hz.I O)).S ?_;rintro _ w5 ⟨Y,va,vt,e,rfl,hP⟩;obtain⟨he,A,pa,pm,pe,qs,rfl,h6,hV,hok⟩:=hP.shape;rw[h5]at he;subst he;obtain⟨h7,h8,hW,hs⟩:=hok Z;have h9:=(hs [] oe).1;have hA:A=Jf (xj c.V.co):=by unfold Jf;rw[h8]
 have hB:=O.D Y;refine Qa<|QS Z Z<|QS Z Z<|QS Z Z<|QV Kf λb7 w6 hC hD hF=>Q6 [pa,sS A.st,pm,pe] hF h6 λw7 hG hI=>x Qe<|Qb ?_;have I:sW w5 w7:=hC.O hG hD;have hu:=hB.D I;refine Qd<|Ql<|ZS Z Z<|xe<|ZC rfl<|Qf ?_;have hv:=(hg.I G).I (Y.D I);have hS:=Qbb (h.ev.I hu);have hev:XZ c.ev=0:=jB h7;rw[hev,OZ rfl]at hS;refine Qc<|Qs Z hv Z Z<|Qw<|hS.S ?_;rintro _ w9 ⟨J,vu,rfl,hj⟩;have hJ:(unc c.ev).length<=32:=Qm2 hev;have hw:Qu [] ↑w9 vu (unc c.ev):=Qh.ints hj oa oe;refine Qa<|QS Z Z<|QS Z Z<|x Qe<|Qb ?_;have hk:=hu.D J;have hK:sW w3 w9:=(Y.D I).D J;have hL:LvA ↑w9 ⟨c,pa,pm,pe,A,vh,vu,hi,unc c.ev⟩:=⟨h.I hk,h9.I (I.D J),hH.I hk,hw⟩;refine Qc<|Q7 (hv.I J) Z Z<|Q7 (hI.I J) Z Z<|Qa<|Qa<|x (ZE [(0,c.cells),(1,[pa,sS A.st,pm,pe]),(2,[vh]),(3,[vu])] ⟨Z,Z,Z,Z,hH.cells,Z,hw.cells,Z,La⟩)<|x Vk <|
  Q6 (Yk ⟨c,pa,pm,pe,A,vh,vu,hi,unc c.ev⟩) ((ha.I G).I hK) hL.ones λhy hn hM=>Qb ?_
 have ho:sW w hy:=hk.O hn oa;refine Qk ⟨[sT (Yk ⟨c,pa,pm,pe,A,vh,vu,hi,unc c.ev⟩),sS 0],⟨Kh hM,Z,La⟩,ho,_,by rw[U];rfl,Z,hL.ones,λ_=>⟨⟨c,pa,pm,pe,A,vh,vu,hi,unc c.ev⟩,Z,?_,⟨Z,hA,Z,Z⟩⟩⟩;have hN:∀L:LN,(∀b∈L,b<↑w3)->Zv L ↑w5 pa pm pe A:=λL hL=>(hs L hL).1;have hO:b4<w3.heap.size:=(ha.I G).lt;have hQ:Zv [] ↑hy pa pm pe A:=(((hN [b4] (λb hb=>by rw[Lc.1 hb];exact hO)).I (I.D J)).st hn).up λb hb=>by cases hb
 exact⟨h.I ho,hQ,hH.I ho,Qh.ints (Qg hj hn λb hb hm=>by have:=(Qi hj b hb).1;rw[Lc.1 hm]at this;have:=(Y.D I).size;omega) (LA hJ oh) oe⟩
theorem xcH {x:O8}{l:List O8}
   {first:LV} (G:∃fn,Fu P g fn) (hx:ev f x=.func (.func g) first.toArray capt.toArray) (h:QT P g (first++l.map (ev f)++capt) w λv w'=>K (QP f d v) w'):
  XO P ⟨d,.call ⟨.value x,l.toArray,at_⟩,ty,pS,af,gd⟩ f w K:=by
 obtain⟨fn,I⟩:=G;exact xc (fn:=fn) hx h
structure RpV where
 t:Bool
 vs:O7
 o:Bool
 vw:O7
 vo:O7
 c:Bool
 vp:O7
 ev:Int
abbrev Zt (R:RpV):LV:=[.bool R.t,R.vs,.bool R.o,R.vw,R.vo,.bool R.c,R.vp,sS R.ev]
abbrev rp8:RpV:=⟨false,nS,false,nS,nS,false,nS,0⟩
structure jY (L:LN)(H:xG)(V:LvV)(i:Nat)(R:RpV):Prop where
 ones:ZN (Zt R)
 p1:0<i->R.t=(nbl V.p).2/\Qu L H R.vs (nbl V.p).1
 p2:1<i->R.o=(obs V.p V.hi []).isNone/\Qu L H R.vw ((obs V.p V.hi []).elim [] (·.1))/\Qu L H R.vo ((obs V.p V.hi []).elim [] (·.2))
 p3:2<i->R.c=(cns V.p V.hi V.un).isNone/\R.ev=(cns V.p V.hi V.un).elim (-1) (·.2)/\Qu L H R.vp ((cns V.p V.hi V.un).elim [] (·.1))
theorem Qu.sb {b:Nat}{v:O7}{l:LI}(h:Qu L ↑w v l)(hb:b∈L)(G:xd [b] w w'):Qu L ↑w' v l:=Zw.J h G λx hx=>by rw[Lc.1 hx];exact hb
theorem Yu.b {N b:Nat}{L:LN}{w w':O6}{v:O7}{l:LI}(h:Yu N ↑w v l)(hL:∀x∈L,x<N)(hb:b∈L)(G:xd [b] w w'):Qu L ↑w' v l:=Qu.sb (h L hL) hb G
theorem jY.J {b:Nat}{V:LvV}{R:RpV}(h:jY L ↑w V i R)(hb:b∈L)(G:xd [b] w w'):jY L ↑w' V i R :=
 ⟨h.ones,λhi=>⟨(h.p1 hi).1,Qu.sb (h.p1 hi).2 hb G⟩,λhi=>⟨(h.p2 hi).1,Qu.sb (h.p2 hi).2.1 hb G,Qu.sb (h.p2 hi).2.2 hb G⟩,λhi=>⟨(h.p3 hi).1,(h.p3 hi).2.1,Qu.sb (h.p3 hi).2.2 hb G⟩⟩
theorem upN {H:xG}{v:O7}{l:LI}(h:Qu L H v l):Qu [] H v l:=h.up λb hb=>by cases hb
theorem jY.nil {H:xG}{V:LvV}{R:RpV}(h:jY L H V i R):jY [] H V i R :=
 ⟨h.ones,(λhi=>⟨(h.p1 hi).1,upN (h.p1 hi).2⟩),(λhi=>⟨(h.p2 hi).1,upN (h.p2 hi).2.1,upN (h.p2 hi).2.2⟩),(λhi=>⟨(h.p3 hi).1,(h.p3 hi).2.1,upN (h.p3 hi).2.2⟩)⟩
theorem jY.I {L:LN}{i:Nat}{w w':O6}{V:LvV}{R:RpV}(h:jY L ↑w V i R)(G:sW w w'):jY L ↑w' V i R :=
 ⟨h.ones,λhi=>⟨(h.p1 hi).1,(h.p1 hi).2.I G⟩,λhi=>⟨(h.p2 hi).1,(h.p2 hi).2.1.I G,(h.p2 hi).2.2.I G⟩,λhi=>⟨(h.p3 hi).1,(h.p3 hi).2.1,(h.p3 hi).2.2.I G⟩⟩
section
variable {w0:O6}{V:LvV}{b:Nat}{R:RpV}(hbL:b∈L)(hlt:∀x∈L,x<↑w)(hw:sW w0 w)(hL:LvA ↑w0 V)(hp:Pl9 V.p)(hB:QN ↑w b 118 (Zt R++Yk V))
include hbL hlt hw hL hp hB
theorem Qm5 (hR:jY L ↑w V 0 R):
  QT sV 124 [sP b] w λr w'=>r=sS 0/\xd [b] w w'/\∃R',QN ↑w' b 118 (Zt R'++Yk V)/\jY L ↑w' V 1 R':=by
 have h:=hL.I hw;refine Zn func124 ?_;refine Qc<|Qb<|Ql<|Qa<|Qa<|Z8 Z<|Q9 Z<|Q9 Z<|x (ZW (us:=[V.pa,sS V.p.st,V.pm,V.pe]) hB Z Z Z)<|Qo<|Q3 [[V.pa,sS V.p.st,V.pm,V.pe]] λb11 Y G hj ha =>
  Qw<|(jR (q:=⟨V.pa,V.pm,V.pe,V.p⟩) ⟨ha.arr oe (n:=1) (cap:=1) (sz:=4) rfl oh (OG _),λp hp=>by rw[List.mem_singleton.1 hp];exact h.a.I G⟩ hp.ok (Int.le_trans hp.s9 oh)).S ?_
 rintro _ w2 ⟨he,v,rfl,I⟩;have J:=G.D he;refine Qa<|QS Z Z<|QS Z Z<|QS Z Z<|Z8 Z<|Q9 Z<|Q9 Z<|Qo<|Qv (u:=v) (hB.I J) Z Z (Mc Z) I.ints.one λw3 O hf =>
  Z8 rfl<|Q9 Z<|Q9 Z<|Qo<|Qv (u:=.bool (nbl V.p).2) hf Z Z (Mc Z) Z λw4 U hg=>Qb ?_
 have hh:∀x∈L,x<Y.heap.size:=λx hx=>LX (hlt x hx) G.size;refine Ql<|Qb<|Qk ⟨[_],Lb,Z,(J.any.Q O).Q U,⟨(nbl V.p).2,v,R.o,R.vw,R.vo,R.c,R.vp,R.ev⟩,hg,⟨?_,λ_=>⟨Z,Qu.sb (Yu.b I hh hbL O) hbL U⟩,λh=>O1 h oh,λh=>O1 h oh⟩⟩;obtain⟨_,_,o3⟩:=hR.ones;exact⟨Z,I.ints.one,o3⟩
theorem Qm4 (hi:Z7 V.hi)(hR:jY L ↑w V 1 R):
  QT sV 125 [sP b] w λr w'=>r=sS 0/\xd [b] w w'/\∃R',QN ↑w' b 118 (Zt R'++Yk V)/\jY L ↑w' V 2 R':=by
 have h:=hL.I hw;have hd:sW w { w with drawn:=w.drawn+1 }:=xd.Y _ _
 refine Zn func125 ?_;refine Qc<|Qb<|Qd<|ZK [] (Xj 0 32 [13,22,26,30])<|p Qx<|p Qx<|p Qx<|p Qx<|p (YT Z)<|p (QH Z)<|p (QH Z)<|pq (λ_ hc=>ZW (us:=[V.pa,sS V.p.st,V.pm,V.pe]) (hB.I hc) Z Z Z) <|
  p Qx<|p (YT Z)<|p (QH Z)<|p (QH Z)<|pq (λ_ hc=>Qj (hB.I hc) Z Z)<|pkk<|xg<|(Qem (w:={ w with drawn:=w.drawn+1 }) (h.a.I hd) (h.h.I hd) hp hi).S ?_
 rintro _ w2 ⟨ha,v1,v2,rfl,O,U⟩;have Y:=hd.D ha;refine p Qx<|p (λ_=>Q2 Z Z)<|p (λ_=>Q2 Z Z)<|p (λ_=>Q2 Z Z)<|p (λ_=>Q2 Z Z) <|
  p (YT rfl)<|p (QH Z)<|p (QH Z)<|pkk<|Qv (u:=v1) (hB.I Y) Z Z (Mc Z) O.ints.one λw3 G he=>p (YT Z) <|
  p (QH rfl)<|p (QH Z)<|pkk<|Qv (u:=v2) he Z Z (Mc Z) U.ints.one λw4 I hf=>p (YT Z)<|p (QH Z) <|
  p (QH rfl)<|pkk<|Qv (u:=.bool (obs V.p V.hi []).isNone) hf Z Z (Mc Z) Z λw5 J hg=>p ZH<|pe ?_
 refine Ql<|Qb ?_;have hh:jY L ↑w5 V 1 R:=⟨hR.ones,λh=>⟨(hR.p1 h).1,Qu.sb (Qu.sb (Qu.sb ((hR.p1 h).2.I Y) hbL G) hbL I) hbL J⟩,λh=>O1 h oh,λh=>O1 h oh⟩;refine Qk ⟨[_],Lb,Z,((Y.any.Q G).Q I).Q J,⟨R.t,R.vs,(obs V.p V.hi []).isNone,v1,v2,R.c,R.vp,R.ev⟩,hg,⟨?_,λ_=>hh.p1 oh,λ_=>⟨Z,Qu.sb (Qu.sb (Yu.b O hlt hbL G) hbL I) hbL J,Qu.sb (Qu.sb (Yu.b U hlt hbL G) hbL I) hbL J⟩,λh=>O1 h oh⟩⟩;obtain⟨_,o2,_,_,_,o6⟩:=hR.ones;exact⟨Z,o2,Z,O.ints.one,U.ints.one,o6⟩
theorem Qm3 (hi:Z7 V.hi)(hu:Z7 V.un)(hR:jY L ↑w V 2 R):
  QT sV 126 [sP b] w λr w'=>r=sS 0/\xd [b] w w'/\∃R',QN ↑w' b 118 (Zt R'++Yk V)/\jY L ↑w' V 3 R':=by
 have h:=hL.I hw;have hd:sW w { w with drawn:=w.drawn+1 }:=xd.Y _ _
 refine Zn func126 ?_;refine Qc<|Qb<|Qd<|ZK [] (Xj 0 37 [18,27,31,35])<|p Qx<|p Qx<|p Qx<|p Qx<|p (YT Z)<|p (QH Z)<|p (QH Z)<|pq (λ_ hc=>ZW (us:=[V.pa,sS V.p.st,V.pm,V.pe]) (hB.I hc) Z Z Z) <|
  p Qx<|p (YT Z)<|p (QH Z)<|p (QH Z)<|pq (λ_ hc=>Qj (hB.I hc) Z Z)<|p Qx<|p (YT Z)<|p (QH Z)<|p (QH Z)<|pq (λ_ hc=>Qj (hB.I hc) Z Z) <|
  pkk<|xg<|(zK (w:={ w with drawn:=w.drawn+1 }) (h.a.I hd) (h.h.I hd) (h.u.I hd) hp hi hu).S ?_
 rintro _ w2 ⟨ha,Y,rfl,G⟩;have I:=hd.D ha;refine p Qx<|p (λ_=>Q2 Z Z)<|p (λ_=>Q2 Z Z)<|p (λ_=>Q2 Z Z)<|p (λ_=>Q2 Z Z) <|
  p (YT rfl)<|p (QH Z)<|p (QH Z)<|pkk<|Qv (u:=Y) (hB.I I) Z Z (Mc Z) G.ints.one λw3 J he=>p (YT Z) <|
  p (QH rfl)<|p (QH Z)<|pkk<|Qv (u:=sS ((cns V.p V.hi V.un).elim (-1) (·.2))) he Z Z (Mc Z) Z λw4 O hf=>p (YT Z)<|p (QH Z) <|
  p (QH rfl)<|pkk<|Qv (u:=.bool (cns V.p V.hi V.un).isNone) hf Z Z (Mc Z) Z λw5 U hg=>p ZH<|pe ?_
 refine Ql<|Qb ?_;have s:∀{v:O7} {l:LI},Qu L ↑w v l->Qu L ↑w5 v l:=λhv=>Qu.sb (Qu.sb (Qu.sb (hv.I I) hbL J) hbL O) hbL U;refine Qk ⟨[_],Lb,Z,((I.any.Q J).Q O).Q U,⟨R.t,R.vs,R.o,R.vw,R.vo,(cns V.p V.hi V.un).isNone,Y,(cns V.p V.hi V.un).elim (-1) (·.2)⟩,hg,⟨?_,λ_=>⟨(hR.p1 oh).1,s (hR.p1 oh).2⟩,λ_=>⟨(hR.p2 oh).1,s (hR.p2 oh).2.1,s (hR.p2 oh).2.2⟩,λ_=>⟨Z,Z,Qu.sb (Qu.sb (Yu.b G hlt hbL J) hbL O) hbL U⟩⟩⟩;obtain⟨o1,o2,o3,o4,o5,_⟩:=hR.ones;exact⟨o1,o2,o3,o4,o5,Z,G.ints.one,Z,La⟩
end
def gT (i:Nat):Nat:=if i=0 then 124 else if i=1 then 125 else 126
theorem Qsz (i:Nat):∃fn,Fu sV (gT i) fn:=by
 unfold gT;by_cases G:i=0
 ·rw[OZ G];exact⟨_,inferInstance⟩
 rw[OY G];by_cases h1:i=1
 ·rw[OZ h1];exact⟨_,inferInstance⟩
 rw[OY h1];exact⟨_,inferInstance⟩
theorem QpS {w0:O6}{V:LvV}{b:Nat}{R:RpV}(hbL:b∈L)(hlt:∀x∈L,x<↑w)(hw:sW w0 w)(hL:LvA ↑w0 V)(hp:Pl9 V.p)(hi:Z7 V.hi)(G:Z7 V.un)(hB:QN ↑w b 118 (Zt R++Yk V))(hR:jY L ↑w V i R)(J:i<3):
  QT sV (gT i) [sP b] w λr w'=>r=sS 0/\xd [b] w w'/\∃R',QN ↑w' b 118 (Zt R'++Yk V)/\jY L ↑w' V (i+1) R':=by
 have I:i=0\/i=1\/i=2:=oa
 rcases I with rfl|rfl|rfl
 ·exact Qm5 hbL hlt hw hL hp hB hR
 ·exact Qm4 hbL hlt hw hL hp hB hi hR
 exact Qm3 hbL hlt hw hL hp hB hi G hR
abbrev tsN (i:Nat):ByteArray:=if i=0 then⟨#[116,114,105,109]⟩else if i=1 then⟨#[111,98,115,101,114,118,101,114]⟩else⟨#[99,111,110,115,105,115,116,101,110,116]⟩
abbrev tsC (i:Nat):LV:=[.string (tsN i),.func (.func (gT i)) #[] #[]]
theorem Qjb :QT sV 52 [] w λr w'=>sW w w'/\∀L:LN,(∀b∈L,b<↑w)->Zw L ↑w' r 3 2 ([0,1,2].flatMap tsC):=by
 refine Zn func52 ?_;refine Qc<|Qb<|Qc<|x (QD ⟨Z,Z,La⟩)<|x (QD ⟨Z,Z,La⟩)<|x (QD ⟨Z,Z,La⟩)<|Qo<|Yj (us:=[tsC 0,tsC 1,tsC 2]) Z Z oh oe ⟨rfl,rfl,rfl,rfl,rfl,rfl,La⟩ λG U I Y J=>Qb<|Qk ⟨[_],⟨rfl,La⟩,I,λL hL=>J.arr (λO=>O1 (hL G O) oa) (n:=3) (cap:=3) (sz:=2) rfl oh (Lr _)⟩
abbrev Qsh:LV:=Zt rp8++UQ
instance:Bw sV 118 Qsh [(0,8),(8,11)]:={}
instance:Bw sV 59 (Zt rp8) [(0,1),(1,1),(2,1),(3,1),(4,1),(5,1),(6,1),(7,1)]:={}
structure HOk (k:ZO)(hi:LI):Prop where
 e:plE k=0
 p:Pl9 (Jf (xj k.co))
theorem Qfi {k:ZO}(h:hck k hi=0):Z7 hi/\Z7 (unc k.ev):=by
 unfold hck at h;by_cases h1:Z2 k≠0
 ·rw[OZ h1]at h;exact O1 h h1
 rw[OY h1]at h;have hev:=jB (Ly.1 h1);by_cases h2:0<k.ex.length+k.cs.length
 ·rw[OZ h2]at h;cases h
 rw[OY h2]at h;by_cases G:Ki (k.ev.length:Int) none hi≠0
 ·rw[OZ G]at h;exact O1 h G
 have I:=(Xl _ _ _).1 (Ly.1 G);have hl:=jA hev;exact⟨⟨λx hx=>oq (I.1 x hx),I.2.1⟩,Qja hev⟩
theorem Qcq {c:CL}(h:Z9 [] ↑w c)(hH:Qu [] ↑w vh hi)(h7:Kb w 4096)(hO:hck c.V hi=0->HOk c.V hi):
  QT sV 15 [c.val,vh] w λr w'=>sW w w'/\∃R:RpV,r=.tuple #[sT (Zt R),sS (hck c.V hi)]/\ZN (Zt R)/\(hck c.V hi≠0->R=rp8)/\(hck c.V hi=0->∃V:LvV,LvK c hi V/\jY [] ↑w' V 3 R):=by
 refine Zn func15 ?_;refine Qc<|Zd c.cells λb2 w1 hr gn h8=>QV (Zt rp8) λJ w2 hs gq hu=>Qb ?_;have U:=hr.D hs;have gr:=hr.size;refine Qc<|Q7 (h8.I hs) Z Z<|Qa<|Qw<|(jH (h.I U) (hH.I U) (h7.I U) λe=>(hO e).e).S ?_;rintro _ w3 ⟨hv,us,rfl,h9,hA,hV⟩;have ha:=Qfi (k:=c.V) (hi:=hi);refine Zg (hck c.V hi) λE hE=>?_;rw[hE]at hO hV ha ⊢;refine Qa<|QS Z Z<|QS Z Z<|QV UQ λb6 w4 hB hC hD=>Qo<|ZM (us:=us) hD Z Z h9 Z hA λw5 hF hG=>Qb ?_;have he:sW w3 w5:=hB.O hF hC;have hI:=U.D hv;have hw:=hI.D he;have hf:=(hu.I hv).I he;refine Qd<|Ql<|ZS Z Z<|xe<|Zh rfl (λhg=>?_) (λhg=>?_)
 ·have I:E≠0:=hg;refine Qc<|x (ZE [] La)<|Qa<|Q6 (Zt rp8) hf ⟨Z,Z,Z,Z,Z,Z,Z,Z,La⟩ λw6 hJ hM=>Qb<|Qk ⟨[sT (Zt rp8),sS E],⟨Kh hM,Z,La⟩,hw.O hJ oa,rp8,Z,⟨Z,Z,Z,Z,Z,Z,Z,Z,La⟩,λ_=>Z,λe=>O1 e I⟩
 have I:E=0:=Ly.1 hg;obtain⟨V,rfl,hL,hK⟩:=hV I;have hp:Pl9 V.p:=by rw[hK.p];exact(hO I).p
 have hN:Z7 V.hi:=by rw[hK.h];exact(ha I).1
 have hP:Z7 V.un:=by rw[hK.u];exact(ha I).2
 have hQ:=hL.I he;refine Qf<|Qc<|Q7 hG Z Z<|x (ZE [(1,Yk V)] ⟨Z,Z,La⟩)<|Zd (Zt rp8++Yk V) λG w7 hR hS hy=>Qb ?_;have gs:=hu.lt;refine Qd<|Qc<|Qw<|Qjb.S ?_;rintro v8 w8 ⟨hz,hT⟩;have hU:=hy.lt;have h0:Zw [G] ↑w8 v8 3 2 ([0,1,2].flatMap tsC):=hT [G] λb hb=>by rw[Lc.1 hb];exact hU
 refine QG h0 Z<|Qa<|xe ?_;have hW:=hR.D hz;have hX:jY [J,G] ↑w8 V 0 rp8:=⟨⟨Z,Z,Z,Z,Z,Z,Z,Z,La⟩,(λh=>O1 h oh),(λh=>O1 h oh),(λh=>O1 h oh)⟩;refine QY (α:=Nat×RpV) [(5,5),(10,11),(27,39)] (λz=>[(27,sS z.1)]) (λz w'=>z.1<=3/\xd [G] w8 w'/\QN ↑w' G 118 (Zt z.2++Yk V)/\jY [J,G] ↑w' V z.1 z.2) (λz=>3 - z.1) (0,rp8) Lb ⟨Lp _,xd.C _ _,hy.I hz,hX⟩ ?_;rintro⟨k,R⟩ g w9 ⟨hk,hh,hj,O⟩;simp only[]at hk hj O;have hm:sW w5 w9:=hW.O hh hS;have hY:=hw.D hm;refine Zk rfl Z (λhn=>?_) (λhn=>?_)
 ·refine Qt ?_;have hZ:k=3:=by have ho:¬(k:Int)<(3:Nat):=hn;omega
  subst hZ;refine Ql<|Z8 Z<|Q9 Z<|x (ZW (us:=Zt R) hj Z Z Z)<|Q6 (Zt R) (hf.I hm) O.ones λgt h3 hq=>Qb<|Qk ⟨[sT (Zt R),sS 0],⟨Kh hq,Z,La⟩,hY.O h3 oa,R,by rw[I];rfl,O.ones,λe=>O1 I e,λ_=>⟨V,hK,?_⟩⟩;have ga:=O.J (b:=J) oe h3;exact ga.nil
 have hlt:k<[0,1,2].length:=by have ho:(k:Int)<(3:Nat):=hn;show k<3;omega
 have gb:([0,1,2]:LN)[k]'hlt=k:=by
  have gc:k=0\/k=1\/k=2:=by have ho:k<3:=hlt;omega
  rcases gc with rfl|rfl|rfl <;> rfl
 refine Qf<|Qd<|Qn<|Qc<|xo (g:=tsC) (es:=[0,1,2]) (i:=k) (λ_=>Z) (h0.st hh) Z Z hlt λgu h4=>?_;rw[gb]at h4;refine x (QF (us:=tsC k) h4 Z Z)<|QV [.string .empty,.nilFunc] λb10 gv ge gg hq=>Q6 (tsC k) hq oy λh5 gh gi=>xe ?_;have Y:sW w9 h5:=ge.O gh gg;have h6:=hj.I Y;have gj:∀x∈[J,G],x<h5.heap.size:=λx hx=>by
  simp only[oN,oJ,or_false]at hx;have:=hf.lt;have:=h6.lt;rcases hx with rfl|rfl <;> omega
 refine Qc<|Qs Z gi Z Z<|Qa<|Qo<|xcH (first:=[]) (capt:=[]) (Qsz k) Z<|(QpS (b:=G) (L:=[J,G]) oe gj (hm.D Y) hQ hp hN hP h6 (O.I Y) hlt).S ?_;rintro _ gx ⟨rfl,gk,R',gl,gm⟩;refine Qb<|Ql<|ZS Z Z<|xe<|ZC rfl<|Qf<|Qr<|QC Z Z<|Qa<|xe ?_;exact⟨(k+1,R'),by show 3 - (k+1)<3 - k;have ho:k<3:=hlt;omega,Lb,hlt,(hh.Q Y.any).Q gk,gl,gm⟩
theorem QnC {V Y e1 e2 s1 s2 n1 n2:Nat}{G I:O7}{c1 c2:LV}(h1:w.ownsRow V e1 s1 G n1 c1)(h2:w.ownsRow Y e2 s2 I n2 c2)(he:e1≠e2):∀b∈ob G,b∉ob I:=by
 intro b hb J;rcases h1.2 with⟨rfl,_⟩|⟨g,cap,cur,rfl,_,O,_⟩
 ·cases hb
 rcases h2.2 with⟨rfl,_⟩|⟨g',cap',cur',rfl,_,U,_⟩
 ·cases J
 have ha:b=g:=Lc.1 hb;have hf:b=g':=Lc.1 J;rw[<-ha]at O;rw[<-hf,O]at U;injection U with h3
 injection h3 with h4 h5
 exact he h5
theorem Qik (h:Zv [] ↑w va vm ve a):
  QT sV 166 [.agg #[va,sS a.st,vm,ve]] w λr w'=>sW w w'/\∃va' vm' ve',r=.agg #[va',sS a.st,vm',ve']/\Qh 3 ↑w w' va' a.al/\Qh 3 ↑w w' vm' a.mr/\w'.ownsRow ↑w 179 3 ve' a.ed.length (a.ed.flatMap Qp):=by
 refine Zn func166 ?_;refine Qc<|Zd [va,sS a.st,vm,ve] λb1 w1 hj hz hr=>QV Kf λb2 G hk h0 hn=>xe ?_;have I:=hj.D hk;have h3:=hj.size;have J:=hr.I hk;have V:sW G { G with drawn:=G.drawn+1 }:=xd.Y _ _
 refine Qd<|ZK [] [oB 0,oB 1,oB 3,oB 4,oB 5,oB 6,oB 8,oB 9,oC 2,oC 7,oC 10,oB 11,oC 12]<|p (QH Z)<|pq (λ_ hc=>Qj (J.I hc) Z Z)<|p (QH Z)<|pq (λ_ hc=>Qj (J.I hc) Z Z)<|p (QH Z)<|pq (λ_ hc=>Qj (J.I hc) Z Z)<|p (QH Z)<|pq (λ_ hc=>Qj (J.I hc) Z Z) <|
  pk<|xg<|(Z0 (w:={ G with drawn:=G.drawn+1 }) ((h.al.I I).I V)).S ?_
 rintro Y w3 ⟨hs,hu⟩;have O:=V.D hs;refine⟨O,?_⟩;refine pk<|xg<|(Z0 (h.mr.I (I.D O))).S ?_;rintro v4 w4 ⟨hp,hv⟩;have U:=O.D hp;refine⟨U,?_⟩;refine pk<|xg<|(jv (h.ed.I (I.D U))).S ?_;rintro v5 w5 ⟨ha,he⟩;have hf:=U.D ha;refine⟨hf,?_⟩;have hg:=Qm hu (hp.D ha);have hh:=Qm hv ha;have hw:=hn.I hf;refine p (λ_=>QD ⟨xR hg,Z,xR hh,xR he,La⟩)<|pkk<|qI [Y,sS a.st,v4,v5] hw ⟨QA hg,Z,QA hh,QA he,La⟩ λw6 hq hy=>pe ?_;have h4:=I.size;have k:∀{e sz n N:Nat} {v:O7} {cs:LV},w5.ownsRow N e sz v n cs->↑G<=N->w6.ownsRow ↑w e sz v n cs:=λho hN=>Za (Qg ho hq λb hb hm=>by have:=(Qi ho b hb).1;rw[Lc.1 hm]at this;have:=hn.lt;omega) oa;exact Qk ⟨[.agg #[Y,sS a.st,v4,v5]],⟨Kh hy,La⟩,(I.D hf).O hq oa,Y,v4,v5,Z,k hg V.size,k hh O.size,k he U.size⟩
def Qbj (c:ZO)(A:Qz):ZO:=⟨c.ev,[⟨(c.co.map (·.nm)).headD .empty,A⟩],c.rq,[],[]⟩
def coP (N:Nat)(ev:List VU)(q:IV)(i:Nat)(v:O7)(w:O6):Prop :=
 if i=3 then w.ownsRow N 94 5 v ev.length (ev.flatMap Zz) else
 if i=12 then ∃b,v=sL b 1 1/\N<=b/\QN ↑w b 81 (Zm q) else
 if i=13 then ∃ve b,v=.agg #[ve,sL b 1 1,ZY,ZY,ZY]/\w.ownsRow N 94 5 ve ev.length (ev.flatMap Zz)/\N<=b/\QN ↑w b 81 (Zm q) else
 ∃b,v=sP b/\N<=b/\QN ↑w b 46 Vo
theorem QlS {ev:List VU}{q:IV}(i:Nat)(v:O7)(w w':O6)(h:coP N ev q i v w)(G:sW w w'):coP N ev q i v w':=by
 unfold coP at *;by_cases e1:i=3
 ·rw[OZ e1]at *;exact Qm h G
 rw[OY e1]at *;by_cases e2:i=12
 ·rw[OZ e2]at *;obtain⟨b,h1,h2,I⟩:=h;exact⟨b,h1,h2,I.I G⟩
 rw[OY e2]at *;by_cases e3:i=13
 ·rw[OZ e3]at *;obtain⟨ve,b,h1,h2,I,J⟩:=h;exact⟨ve,b,h1,Qm h2 G,I,J.I G⟩
 rw[OY e3]at *;obtain⟨b,h1,h2,I⟩:=h;exact⟨b,h1,h2,I.I G⟩
theorem Qiw {V:LvV}(h:LvA ↑w V)(hp:Pl9 V.p)(hi:Z7 V.hi)(hu:0<V.c.co.length):
  QT sV 91 [sT (Yk V)] w λr w'=>sW w w'/\∃us,r=.tuple #[sT us,sS 0]/\us.length=5/\ZN us/\Qpj ↑w ↑w' (sT us) (Qbj V.c.V (ZI V.p V.hi)):=by
 refine Zn func91 ?_;refine Qc<|Zd (Yk V) λb1 w1 gh pn kb=>QV Vo λb2 w2 gi po gj=>Qb ?_;have hD:=gh.D gi;have pp:=gh.size;have hR:=kb.I gi;refine Qc<|Q9 Z<|x (ZW (us:=[V.pa,sS V.p.st,V.pm,V.pe]) hR Z Z Z)<|Qs Z hR Z Z<|Qw<|(jP (h.a.I hD) (h.h.I hD) hp.ok hi.b hi.i hp.s9 hp.e).S ?_;rintro _ w3 ⟨hE,_,vt,rfl,pt,Y,ha,he,rfl,hS⟩;have hF:=hS [] oe;have kc:=hD.D hE;have ke:=hD.size;refine Qa<|QS Z Z<|QS Z Z<|QS Z Z<|QV Kf λb4 w4 kf kg kh=>Q6 [Y,sS (ZI V.p V.hi).st,ha,he] kh ⟨hF.al.one,Z,hF.mr.one,hF.ed.one,La⟩ λI ki gk=>x Qe<|Qb<|Zg (ZI V.p V.hi) λA hA=>?_;rw[hA]at hS hF gk;have hv:sW w3 I:=kf.O ki kg;have hw:=kc.D hv;refine Qd<|Ql<|ZS Z Z<|xe<|ZC rfl<|Qf ?_;have hT:=(hR.I hE).I hv;obtain⟨q0,hG⟩:∃q0,V.c.co[0]'hu=q0:=⟨_,Z⟩;have kj:q0∈V.c.co:=hG ▸ Lm hu;have kk:=h.c.co.arr.I hw;have kn:=h.c.ev.arr.I hw;refine Qd<|VC (α:=O7×Nat×Nat) (sW I) [oB 0,oB 1,oB 2,oB 4,oB 5,oB 6,oB 7,oB 8,oB 9,oB 10,oB 11] (λi=>if i=13 then[3,12]else[]) [3,12,13,14] [oC 15] [(26,26),(35,36),(7,7)] (coP ↑I V.c.ev ⟨q0.nm,⟨Y,ha,he,A⟩⟩)
  (λz=>[(36,.agg #[z.1,.slice (some ⟨z.2.1,0,none⟩) 1 1,ZY,ZY,ZY]),(7,.pointer (some ⟨z.2.2,0,none⟩))]) (λz w'=>w'.ownsRow ↑I 94 5 z.1 V.c.ev.length (V.c.ev.flatMap Zz)/\↑I<=z.2.1/\QN ↑w' z.2.1 81 (Zm ⟨q0.nm,⟨Y,ha,he,A⟩⟩)/\↑I<=z.2.2/\QN ↑w' z.2.2 46 Vo)
  mixed ol od (xd.Y _ _) (λ_ _ h1 h2=>h1.D h2) QlS ?_ ?_
 ·rintro g w' ⟨_,_,⟨hf,hH,ko,h1,h2,h3⟩,⟨kq,kr,h4,h5⟩,_⟩ _;exact⟨(hf,hH,kq),⟨ko,kr,La⟩,h1,h2,h3,h4,h5⟩
 refine p (QH Z)<|p (QH Z)<|pq (λ_ hc=>Qj (hT.I hc) Z Z)<|p (QH Z)<|p (QH Z)<|pq (λ_ hc=>Qj (hT.I hc) Z Z)<|Lg.pig (g:=Zm) (i:=0) Z (λ_=>Z) kk Z Z hu λpu gl=>?_;rw[hG]at gl;refine p (λ_=>ZB Z)<|pq (λ_ hc=>Qq ((gl.fld 0 (.string q0.nm) Z).I hc) Z)<|pq (λ_ hc=>Zj (gk.I hc) Z Z)<|p (λ_=>ZE [(0,[.string q0.nm]),(1,[Y,sS A.st,ha,he])] ⟨Z,Z,Z,Z,La⟩) <|
  pe ⟨⟨?_,?_,?_,?_,La⟩,?_⟩
 ·rintro g w' hc _;exact xg<|(Qfv (kn.I hc)).S λr gm ⟨hs,ho⟩=>⟨hs,Za ho hc.size,Jh ho⟩
 ·rintro g w' hc _;exact Q3 [Zm ⟨q0.nm,⟨Y,ha,he,A⟩⟩] λb gm hs hb hB=>⟨hs,⟨b,Z,LA hc.size hb,ox hB⟩,λc hy=>by rw[List.mem_singleton.1 (show c∈[b] from hy)];exact⟨hb,hB.lt⟩⟩
 ·rintro g w' hc ⟨h3,⟨hH,kt,ku,kv⟩,_⟩;refine xv (ZE [(0,[_]),(1,[sL hH 1 1])] ⟨xR (show w'.ownsRow _ _ _ _ _ _ from h3),Z,O0 Value.cells kt,Z,La⟩) ?_;exact⟨xd.C _ _,⟨_,hH,Z,h3,ku,kv⟩,λc hy=>by cases hy⟩
 ·rintro g w' hc _;exact Y0 (us:=Vo) Z λb gm hs hb hB=>⟨hs,⟨b,Z,LA hc.size hb,hB⟩,λc hy=>by rw[Lc.1 (show c∈[b] from hy)];exact⟨hb,hB.lt⟩⟩
 rintro⟨hf,O,b7⟩ g w6 gn ⟨hI,gq,hU,hJ,hK⟩;simp only[]at hI gq hU hJ hK;refine pk<|qI [hf,sL O 1 1,ZY,ZY,ZY] hK ⟨QA hI,Z,Z,Z,Z,La⟩ λw7 hM gr=>⟨gn.O hM hJ,pe ?_⟩;have hN:sW I w7:=gn.O hM hJ;have kw:=Qg hI hM λb hb J=>Uj hI hK oh (Lc.1 J ▸ hb);have gs:O≠b7:=QN.ne hU hK oh;have gt:=hU.J hM (by simp only[oH];exact gs);have kx:=hw.D hN;have kz:=hT.I hN;have k0:=hN.size;have pw:=h.c.rq.arr.le;have k4:=h.c.rq.arr.I kx;refine Qd<|Qc<|Q9 Z<|Qs Z kz Z Z<|QG k4 Z<|Qa<|xe<|QY (α:=Nat×O7×List IV) [(9,9),(41,56)] (λz=>[(41,sS z.1)]) (λz w'=>z.1<=V.c.rq.length/\sW I w'/\w'.ownsRow ↑I 94 5 hf V.c.ev.length (V.c.ev.flatMap Zz)/\QN ↑w' O 81 (Zm ⟨q0.nm,⟨Y,ha,he,A⟩⟩)/\O∉ob z.2.1/\QN ↑w' b7 46 [hf,sL O 1 1,z.2.1,ZY,ZY]/\IvP ↑w7 w' z.2.1 z.2.2/\w7.heap.size<=↑w'/\z.2.2.length=z.1/\z.2.2.map IV.it=(V.c.rq.take z.1).map IV.it) (λz=>V.c.rq.length - z.1) (0,ZY,[]) Lb
  ⟨Lp _,hN,kw,gt,(λJ=>by cases J),gr,VD.nil,Lr _,rfl,rfl⟩ ?_
 rintro⟨k,vr,qs⟩ g w8 ⟨hk,hz,h0,gu,gv,hO,U,k5,gx,h6⟩;simp only[]at hk gv hO U gx h6;have hV:=hw.D hz;have hW:b7∉ob vr:=Uj U.own hO oh;refine Zk rfl Z (λhX=>?_) (λhX=>?_)
 ·refine Qt ?_;have k6:V.c.rq.length<=k:=by have k9:¬(k:Int)<(V.c.rq.length:Int):=hX;omega
  rw[Ls k6]at h6;have ma:=(gj.I (hE.D hv)).I hz;have mc:=gj.lt;have pz:=hE.size;have p0:=hv.size;refine Qc<|Q7 hO Z Z<|Q6 [hf,sL O 1 1,vr,ZY,ZY] ma ⟨QA h0,Z,QA U.own,Z,Z,La⟩ λw9 hg mf=>Qb ?_;have n2:∀{b:Nat},↑I<=b->b∉[b2]:=λhb J=>by rw[Lc.1 J]at hb;omega
  have hY:=Qg h0 hg λb hb=>n2 (Qi h0 b hb).1;have gy:IvP ↑w7 w9 vr qs:=U.low hg λb hb=>by rw[Lc.1 hb];omega
  have mg:=gu.J hg (n2 gq);have p4:xd [b2] I w9:=hz.any.Q hg;have mh:=h.c.ev.arr.le;refine Qk ⟨[.agg #[hf,sL O 1 1,vr,ZY,ZY],sS 0],⟨Kh mf,Z,La⟩,hV.O hg oa,_,Z,Z,⟨QA hY,Z,QA gy.own,Z,Z,La⟩,
   ⟨hf,sL O 1 1,vr,ZY,ZY,V.c.ev,[⟨q0.nm,⟨Y,ha,he,A⟩⟩],qs,[],[]⟩,Z,?_,λL hL=>?_⟩
  ·rw[hA];unfold Qbj;have mj:(V.c.V.co.map (·.nm)).headD .empty=q0.nm:=by
    show((V.c.co.map IV.it).map (·.nm)).headD .empty=_;cases gz:V.c.co with
    | nil=>rw[gz]at hu;cases hu
    | cons z zs=>simp only[gz]at hG;rw[<-hG];rfl
   rw[mj];show(⟨V.c.ev,[⟨q0.nm,A⟩],qs.map IV.it,[],[]⟩:ZO)=_;rw[h6];rfl
  have hZ:∀b∈L,b<I.heap.size:=λb hb=>LX (hL b hb) hw.size;have mo:∀b∈b2::L,b<w2.heap.size:=λb hb=>by
   rcases Ll.1 hb with rfl|hb
   ·exact mc
   exact LX (hL b hb) ke
  have mq:Zv L ↑w9 Y ha he A:=(((hS (b2::L) mo).I (hv.D hz)).st (hg.S λb hb=>by rw[Lc.1 hb];exact Lj)).up λb hb=>.inl (Lh _ hb);refine⟨⟨QO hY mh λb hb ms=>ou (Qi hY b hb).1 (hZ b ms),h.c.ev.nm⟩,⟨?_,λq G=>by rw[Lc.1 G];exact mq,λq G=>by rw[Lc.1 G];exact h.c.co.nm q0 kj⟩,gy.itms oa (λq G=>?_) (λb hb=>LX (hZ b hb) k0),⟨Zw.nil _ _ _,(λq G=>by cases G),(λq G=>by cases G)⟩,⟨Zw.nil _ _ _,(λq G=>by cases G),(λq G=>by cases G)⟩⟩
  ·exact mg.arr (λJ=>oq (hZ O J)) (n:=1) (cap:=1) (sz:=5) Z oh (Lr _)
  have:q.it∈V.c.rq.map IV.it:=h6 ▸ LL G;obtain⟨q',mt,e⟩:=Lt.1 this;have e':q'.nm=q.nm:=O0 Jz.nm e;rw[<-e'];exact h.c.rq.nm q' mt
 have hn:k<V.c.rq.length:=by have k9:(k:Int)<(V.c.rq.length:Int):=hX;omega
 have g0:=Lm hn;have g2:V.c.rq.take (k+1)=V.c.rq.take k++[V.c.rq[k]'hn]:=Ln hn;refine Zg (V.c.rq[k]'hn) λq G=>?_;rw[G]at g0 g2;have hj:=(h.c.rq.each q g0).I hV;refine Qf<|Qd<|Qn<|Qc<|xo (g:=Zm) (i:=k) (λ_=>Z) (h.c.rq.arr.I hV) Z Z hn λp5 g3=>?_;rw[G]at g3;refine x (QF (us:=Zm q) g3 Z Z)<|QV [.string .empty,nS,sS 0,nS,nS] λb9 w9 hg mu mv=>Q6 (Zm q) mv ⟨Z,hj.al.one,Z,hj.mr.one,hj.ed.one,La⟩ λhr mw g4=>xe ?_;have hP:sW w8 hr:=hg.O mw mu;have ga:=hO.I hP;have gb:=hP.size;have g5:b9∉ob vr:=λJ=>oq (QW U.own b9 J)
 have g6:sW hr { hr with drawn:=hr.drawn+1 }:=xd.Y _ _
 refine ZK (ob vr) (Xj 0 12 [6,8,9,11])<|p (QH Z)<|pq (λ_ hc=>Qj (ga.J hc hW) Z Z)<|p (QH Z)<|pq (λ_ hc=>Qj (g4.J hc g5) Z Z)<|p (QH Z)<|pq (λ_ hc=>ZW (us:=[q.p.va,sS q.p.a.st,q.p.vm,q.p.ve]) (g4.J hc g5) Z Z Z) <|
  pk<|xg<|(Qik (w:={ hr with drawn:=hr.drawn+1 }) ((hj.I hP).I g6)).S ?_
 rintro _ p6 ⟨my,ca,cm,ce,rfl,mz,m0,m1⟩;have gc:=g6.D my;refine⟨gc.any,?_⟩;refine p (λ_=>ZE [(0,[.string q.nm]),(1,[ca,sS q.p.a.st,cm,ce])] ⟨Z,Z,Z,Z,La⟩)<|pk<|Q3 [Zm ⟨q.nm,⟨ca,cm,ce,q.p.a⟩⟩] λp7 p8 h7 p9 m2=>⟨(gc.D h7).any,?_⟩;have h8:=gc.D h7;have h9:=hP.D h8;have qf:=h8.size;have g7:=Qm mz h7;have g8:=Qm m0 h7;have g9:=Qm m1 h7;refine pk<|Q0 (m:=1) (news:=Zm ⟨q.nm,⟨ca,cm,ce,q.p.a⟩⟩) (L:=[]) (Qm U.own h9) Z Z Z (by have:=m2.at (L:=[]) oe;simpa using this) (ZN.all (us:=Zm ⟨q.nm,⟨ca,cm,ce,q.p.a⟩⟩) ⟨rfl,QA g7,rfl,QA g8,QA g9,La⟩) oa oa λhQ m3 ge hh m4=>⟨h8.any.Q hh,?_⟩;refine p (QH Z)<|pkk<|Qv (u:=hQ) ((ga.I h8).J hh hW) Z Z (Mc Z) (QA ge) λgg hC m5=>pe ?_;refine Qr<|QC Z Z<|Qa<|xe ?_;have m6:=hj.al.le;have m7:=hj.mr.le;have m8:=hj.ed.le;have m9:IvP ↑w7 m3 hQ (qs++[⟨q.nm,⟨ca,cm,ce,q.p.a⟩⟩]):=VD.app U h9 (λt ht=>by
  simp only[oN,oJ,or_false]at ht;rcases ht with rfl|rfl|rfl
  ·exact⟨_,_,g7,m6,gb⟩
  ·exact⟨_,_,g8,m7,gb⟩
  exact⟨_,_,g9,m8,gb⟩) k5 ge hh m4
 have pc:=gr.lt;have pd:=gt.lt;have pf:IvP ↑w7 gg hQ (qs++[⟨q.nm,⟨ca,cm,ce,q.p.a⟩⟩]):=m9.low hC λb hb=>by rw[Lc.1 hb];exact pc
 have qj:=hh.size;have ql:=hC.size;have ka:=Qg (Qm h0 h9) hh λb hb=>QnC h0 U.own oh b hb;have pg:=Qg ka hC λb hb J=>Uj ka ((ga.I h8).J hh hW) oh (Lc.1 J ▸ hb);have ph:sW I gg:=((hz.D h9).Z hh λb hb=>.inr (oq (Qi U.own b hb).1)).O hC hJ;refine⟨(k+1,hQ,qs++[⟨q.nm,⟨ca,cm,ce,q.p.a⟩⟩]),by show V.c.rq.length - (k+1)<V.c.rq.length - k;omega,Lb,hn,ph,pg,((gu.I h9).J hh gv).J hC (by simp only[oH];exact gs),QJ ge pd,m5,pf,by show w7.heap.size<=↑gg;omega,by show(qs++[_]).length=k+1;rw[Le,gx];rfl,?_⟩;simp only[];rw[g2,Lv,Lv,h6];rfl
theorem QfW {vl:O7}{ps:List AV}(h:Jd [] ↑w vl ps)(ho:∀p∈ps,QL p.a)(he:Kb w 4096):
  QT sV 43 [vl] w λr w'=>sW w w'/\∃va,r=.tuple #[va,sS (KP (ps.map (·.a)))]/\(KP (ps.map (·.a))≠0->va=zA)/\(KP (ps.map (·.a))=0->Xu ↑w ↑w' va (Jf (ps.map (·.a)))):=by
 refine Zn func43 ?_;refine Qc<|QV zB λb2 w1 G hf O=>Qb<|Ql<|Qw<|(qh (km:=4096) (h.I G) (he.I G) oh (QbD ho)).S ?_;rintro r2 w2 ⟨hg,vA,vt,c,rfl,hR⟩;have hc:=hR.e;obtain⟨a,xa,xm,I,qs,rfl,U,hq,_⟩:=hR.shape;refine Qa<|QS Z Z<|QS Z Z<|QS Z Z<|QV zB λb4 w3 hh hj hk=>Q6 [xa,sS a.st,xm,I] hk U λw4 hm hn =>
  x Qe<|Qb ?_
 have V:sW w2 w4:=hh.O hm hj;have Y:=hg.D V;refine Qc<|Q7 hn Z Z<|Qa<|Q6 [xa,sS a.st,xm,I] (O.I Y) U λw5 ha hp=>Qb<|Qk ⟨[.agg #[xa,sS a.st,xm,I],sS c],⟨Kh hp,Z,La⟩,(G.D Y).O ha hf,.agg #[xa,sS a.st,xm,I],?_,λJ=>?_,λJ=>?_⟩
 ·show Value.tuple _=Value.tuple _;rw[hc]
 ·exact(hR.bad (by rw[hc];exact J)).1
 have h1:=(hR.good (by rw[hc];exact J)).1;exact(Je (h1.I V) O.lt ha).S G.size
def lgP (N:Nat)(a b:Qz)(i:Nat)(v:O7)(w:O6):Prop :=
 if i=1 then ∃b1 m1 m2,v=sP b1/\N<=b1/\N<=m1/\N<=m2/\Mch ↑w b1 m1 m2 a
 else if i=3 then ∃b1 m1 m2,v=sP b1/\N<=b1/\N<=m1/\N<=m2/\Mch ↑w b1 m1 m2 b
 else ∃bb,v=sP bb/\N<=bb/\QN ↑w bb 152 [.pointer none]
theorem Qn5 {b:Qz}:∀i v w w',lgP N a b i v w->sW w w'->lgP N a b i v w':=by
 intro i v w w' h I;unfold lgP at h ⊢;split
 ·rename_i h1;rw[OZ h1]at h;obtain⟨J,O,U,e,G,V,Y,hM⟩:=h;exact⟨J,O,U,e,G,V,Y,hM.I I⟩
 rename_i h1;rw[OY h1]at h;split
 ·rename_i h2;rw[OZ h2]at h;obtain⟨J,O,U,e,G,V,Y,hM⟩:=h;exact⟨J,O,U,e,G,V,Y,hM.I I⟩
 rename_i h2;rw[OY h2]at h;obtain⟨bb,e,G,hB⟩:=h;exact⟨bb,e,G,hB.I I⟩
theorem Y7 {κ:Type}{enc:κ->O7}{H:xG}{b I:Nat}{m:List (κ×O7)}(h:ZV enc H b m)(G:QN H I T cs):b≠I:=by
 intro e;subst e;obtain⟨es,c,h1,_⟩:=h;unfold QN at G;rw[h1]at G;cases G
structure LgZ where
 p1:Nat
 p2:Nat
 p3:Nat
 q1:Nat
 q2:Nat
 q3:Nat
 b10:Nat
 b11:Nat
theorem Qe7 {wa wm we:O7}{b:Qz}(hA:Zv [] ↑w va vm ve a)(V:Zv [] ↑w wa wm we b)(kd:Int):
  QT sV 30 [.agg #[va,sS a.st,vm,ve],.agg #[wa,sS b.st,wm,we],sS kd] w λr w'=>sW w w'/\∃v e,r=.tuple #[v,.bool e,sS (lgE a b kd)] /\
   (lgE a b kd=0->match lgq a b kd with|none=>v=Zq/\e=true|some u=>e=false/\Qh 3 ↑w w' v u):=by
 refine Zg (lgE a b kd) λE hE=>?_;refine Zg (lgq a b kd) λR hR=>?_;rw[hE,hR];refine Zn func30 ?_;refine Qc<|Zd [va,sS a.st,vm,ve] λb3 w1 hJ ge hK=>Zd [wa,sS b.st,wm,we] λb4 w2 h4 gg hL=>Zd [sS kd] λb5 w3 hs gh h5=>x Qe <|
  x Qe<|Qb ?_
 have hN:=(hJ.D h4).D hs;have h6:=(hK.I h4).I hs;have h7:=hL.I hs;refine Qd<|Qc<|ZD h5 Z Z<|Q7 h6 Z Z<|Q7 h7 Z Z<|Qo<|Q3 [[va,sS a.st,vm,ve],[wa,sS b.st,wm,we]] λhO w4 h8 gi hP=>?_;have hu:=hN.D h8;have hQ:Jd [] ↑w4 (sL hO 2 2) [⟨va,vm,ve,a⟩,⟨wa,wm,we,b⟩]:=⟨hP.arr oe (n:=2) (cap:=2) (sz:=4) rfl oa (Lr _),λp hp=>by
  simp only[oN,oJ,or_false]at hp;rcases hp with rfl|rfl
  ·exact hA.I hu
  exact V.I hu⟩
 have hck:=Qe8 hQ kd;rw[show[(⟨va,vm,ve,a⟩:AV),⟨wa,wm,we,b⟩].map (·.a)=[a,b] from rfl,QsJ,hE]at hck;refine Qw<|hck.S ?_;rintro r5 w5 ⟨rfl,hj⟩;refine Qb ?_;have ho:=hu.D hj;have hv:=h8.D hj;refine Ql<|ZS Z Z<|xe<|Zh rfl (λhw=>?_) (λhw=>?_)
 ·refine Ql<|x Qe<|x Qe<|Qb<|Qk ⟨[Zq,.bool false,sS E],oz,ho,Zq,false,Z,λh0=>O1 h0 hw⟩
 have h9:E=0:=Ly.1 hw;have hok:QL a/\QL b:=by
  have h1:lgE a b kd=0:=hE.D h9;unfold lgE at h1;by_cases h2:Jj a≠0
  ·rw[OZ h2]at h1;exact O1 h1 h2
  rw[OY h2]at h1;by_cases h3:Jj b≠0
  ·rw[OZ h3]at h1;exact O1 h1 h3
  exact⟨(ZA a).1 (Ly.1 h2),(ZA b).1 (Ly.1 h3)⟩
 refine Qf ?_;have hC:=h6.I hv;have hD:=h7.I hv;have hT:=h5.I hv;have hU:=hA.I ho;have hV:=V.I ho;refine QX (α:=LgZ) [(22,25),(10,11)] (λz=>[(10,.pointer (some ⟨z.b10,0,none⟩)),(11,.pointer (some ⟨z.b11,0,none⟩))]) (λz w'=>sW w5 w'/\Mch ↑w' z.p1 z.p2 z.p3 a/\Mch ↑w' z.q1 z.q2 z.q3 b/\QN ↑w' z.b10 152 [.pointer (some ⟨z.p1,0,none⟩)]/\QN ↑w' z.b11 152 [.pointer (some ⟨z.q1,0,none⟩)]) ol ?_ ?_
 ·refine VC (α:=LgZ) (sW w5) [oB 0,oB 2] (λ_=>[]) [1,3,4,5] [oC 6,oC 7] [(23,23),(25,25),(10,11)] (lgP ↑w5 a b)
   (λz=>[(23,.pointer (some ⟨z.p1,0,none⟩)),(25,.pointer (some ⟨z.q1,0,none⟩)),(10,.pointer (some ⟨z.b10,0,none⟩)),(11,.pointer (some ⟨z.b11,0,none⟩))])
   (λz w'=>Mch ↑w' z.p1 z.p2 z.p3 a/\Mch ↑w' z.q1 z.q2 z.q3 b/\QN ↑w' z.b10 152 [.pointer none]/\QN ↑w' z.b11 152 [.pointer none]/\(z.b10≠z.b11/\z.p1≠z.b10/\z.p1≠z.b11/\z.q1≠z.b10/\z.q1≠z.b11)/\↑w5<=z.b10/\↑w5<=z.b11)
   mixed ol od (xd.Y _ _) (λ_ _ h1 h2=>h1.D h2) Qn5 ?_ ?_
  ·rintro g w' ⟨⟨p1,p2,p3,e1,_,_,_,G⟩,⟨q1,q2,q3,e2,_,_,_,I⟩,⟨b10,e3,hk,J⟩,⟨b11,e4,hq,O⟩,_⟩ hn;refine⟨⟨p1,p2,p3,q1,q2,q3,b10,b11⟩,⟨e1,e2,e3,e4,La⟩,G,I,J,O,?_,hk,hq⟩;have d1:=hn 4 oe 5 oe oh;have d2:=hn 1 oe 4 oe oh;have d3:=hn 1 oe 5 oe oh;have d4:=hn 3 oe 4 oe oh;have d5:=hn 3 oe 5 oe oh;rw[e3,e4]at d1;rw[e1,e3]at d2;rw[e1,e4]at d3;rw[e2,e3]at d4;rw[e2,e4]at d5;simp only[ow,oH,forall_eq]at d1 d2 d3 d4 d5;exact⟨d1,d2,d3,d4,d5⟩
  refine pq (λ_ hc=>Zj (hC.I hc) Z Z)<|pq (λ_ hc=>Zj (hD.I hc) Z Z)<|pe ⟨⟨?_,?_,?_,?_,La⟩,?_⟩
  ·intro g w' hc _;refine xg<|(QaM (hU.I hc) hok.1).S ?_;rintro r5 w6 ⟨he,b1,m1,m2,rfl,n1,n2,n3,hM⟩;have hz:=hc.size;exact⟨he,⟨b1,m1,m2,Z,LA hz n1,LA hz n2,LA hz n3,hM⟩,λc hf=>by rw[Lc.1 (show c∈[b1] from hf)];exact⟨n1,hM.B.lt⟩⟩
  ·intro g w' hc _;refine xg<|(QaM (hV.I hc) hok.2).S ?_;rintro r5 w6 ⟨he,b1,m1,m2,rfl,n1,n2,n3,hM⟩;have hz:=hc.size;exact⟨he,⟨b1,m1,m2,Z,LA hz n1,LA hz n2,LA hz n3,hM⟩,λc hf=>by rw[Lc.1 (show c∈[b1] from hf)];exact⟨n1,hM.B.lt⟩⟩
  ·intro g w' hc _;exact Y0 (us:=[.pointer none]) Z λb w5 hj hb V=>⟨hj,⟨b,Z,LA hc.size hb,V⟩,λc hf=>by rw[Lc.1 (show c∈[b] from hf)];exact⟨hb,V.lt⟩⟩
  ·intro g w' hc _;exact Y0 (us:=[.pointer none]) Z λb w5 hj hb V=>⟨hj,⟨b,Z,LA hc.size hb,V⟩,λc hf=>by rw[Lc.1 (show c∈[b] from hf)];exact⟨hb,V.lt⟩⟩
  rintro⟨p1,p2,p3,q1,q2,q3,b10,b11⟩ g w6 hF ⟨G,I,J,O,hg,hk,hq⟩;simp only[]at G I J O hg hk hq;have k1:=Y7 G.e J;have k2:=Y7 G.m J;have k3:=Y7 I.e J;have k4:=Y7 I.m J;have j1:=Y7 G.e O;have j2:=Y7 G.m O;have j3:=Y7 I.e O;have j4:=Y7 I.m O;refine pk<|Qv (u:=sP p1) J Z Z oe rfl λw7 hh hW=>⟨hF.O hh hk,?_⟩;refine pkk<|Qv (u:=sP q1) (O.J hh (by simp only[oH];exact λe=>hg.1 e.symm)) Z Z oe rfl λw8 U hX=>pe ?_;have s1:∀{x:Nat},x≠b10->x∉[b10]:=λh hm=>h (Lc.1 hm);have s2:∀{x:Nat},x≠b11->x∉[b11]:=λh hm=>h (Lc.1 hm);exact⟨⟨p1,p2,p3,q1,q2,q3,b10,b11⟩,oy,(hF.O hh hk).O U hq,(G.J hh (s1 hg.2.1) (s1 k1) (s1 k2)).J U (s2 hg.2.2.1) (s2 j1) (s2 j2),(I.J hh (s1 hg.2.2.2.1) (s1 k3) (s1 k4)).J U (s2 hg.2.2.2.2) (s2 j3) (s2 j4),hW.J U (s2 hg.1),hX⟩
 rintro⟨p1,p2,p3,q1,q2,q3,b10,b11⟩ g w6 ⟨he,G,I,J,O⟩;simp only[]at G I J O;have hr:=ho.D he;have gj:=hr.size;have hY:=hC.I he;have hZ:=hD.I he;have ga:=hT.I he;have hy:sW w6 { w6 with drawn:=w6.drawn+1 }:=xd.Y _ _
 have gk:=hA.al.le;have gl:=V.al.le;have gm:=hok.1.al_le;have gn:=hok.2.al_le;refine Qd<|ZK [] [oB 0,oB 1,oB 2,oB 3,oB 5,oB 6,oB 7,oC 4,oC 8,oB 9,oB 10,oB 11,oB 12,oB 13]<|p (QH Z)<|pq (λ_ hc=>Qj (hY.I hc) Z Z)<|p (QH Z)<|pq (λ_ hc=>Qj (hZ.I hc) Z Z) <|
  pq (λ_ hc=>Qj (J.I hc) Z Z)<|pq (λ_ hc=>Qj (O.I hc) Z Z)<|p (λ_=>Zl (l:=[]) (l':=[_,_,_])) <|
  pk<|xg<|(jK ((hA.al.I hr).I hy) ((V.al.I hr).I hy) oa).S ?_
 rintro r7 w7 ⟨hh,gb⟩;have Y:=hy.D hh;have gq:=Y.size;refine⟨Y,?_⟩;have gr:(mrg (· || ·) a.al b.al).length<=64:=by
  have:=zW (· || ·) a.al b.al;omega
 have hS:=QhP (kd:=kd) (g:=72) (cap:=[sP b10,sP b5,sP b11]) (Qh.ints (L:=[]) gb oa oe) (G.I Y) (I.I Y) hok.1 hok.2
  (λs t w8 U=>QkH ((J.I Y).I U) ((O.I Y).I U) ((ga.I Y).I U) ((G.I Y).I U) ((I.I Y).I U) s t)
 have gc:lgL a b kd (mrg (· || ·) a.al b.al) ((a.st.toNat+1)*(b.st.toNat+1)+1) 0 [⟨fst a,fst b,-1,0⟩]=R:=hR;rw[gc]at hS;refine pk<|xg<|hS.S ?_;rintro r8 w8 ⟨U,hG⟩;have hH:=Y.D U;refine⟨hH,?_⟩;have ha:∃v e,r8=.tuple #[v,.bool e]/\(match R with|none=>v=Zq/\(!e)=true|some u=>(!e)=false/\Qh 3 ↑w7 w8 v u):=by
  cases R with
  | none=>exact⟨Zq,false,hG,Z,Z⟩
  | some u=>obtain⟨v,h1,h2⟩:=hG;exact⟨v,true,h1,Z,h2⟩
 refine Exists.elim ha λv ha=>Exists.elim ha λe ha=>And.elim (λhI ha=>?_) ha;refine p Qx<|p (λ_=>Q2 (show ev _ _=_ from hI) Z)<|p (λ_=>Q2 (show ev _ _=_ from hI) Z)<|p ZH<|p ZH<|pe ?_;refine Ql<|Qa<|x (Zi Z)<|x Qe<|x Qe<|Qb<|Qk ⟨[v,.bool (!e),sS 0],oz,hr.D hH,v,!e,by rw[h9];rfl,λ_=>?_⟩;cases R with
 | none=>exact ha
 | some u=>exact⟨ha.1,Za ha.2 oa⟩
abbrev Yp (c:ZO):Qz:=Jf (xj c.co)
abbrev Zr (c:ZO)(hi:LI):ZO:=Qbj c (ZI (Yp c) hi)
def Uk (c:ZO)(hi:LI):Int:=if suE (Zr c hi)≠0 then suE (Zr c hi) else KP [Yp c,Xv (Zr c hi)]
def zh (c:ZO)(hi:LI):Qz:=Jf [Yp c,Xv (Zr c hi)]
def hsE (c:ZO)(hi:LI):Int:=if hck c hi≠0 then hck c hi else suE (Zr c hi)
def hcE (c:ZO)(hi:LI):Int:=if Uk c hi≠0 then Uk c hi else suE c
def hcR (c:ZO)(hi:LI):Option (LI):=match lgq (zh c hi) (Xv c) 1 with|some u=>some u|none=>lgq (zh c hi) (Xv c) 2
theorem Qjo {l:List Qz}(I:∀a∈l,QL a)(h:KP l=0):QL (Jf l):=by
 unfold KP at h;by_cases h1:K9 l≠0
 ·rw[OZ h1]at h;exact O1 h h1
 rw[OY h1]at h;cases G:xw l with
 | none=>rw[G]at h;cases h
 | some z =>
  have e:Jf l=z.1:=by unfold Jf;rw[G]
  rw[e];exact(Yx I (A:=z.1) (Q:=z.2) G).1.okay I
theorem QkI {b:Qz}(G:QL a)(hb:QL b)(I:kd=1\/kd=2):lgE a b kd=0:=by
 unfold lgE;rw[OY (by rw[(ZA a).2 G];simp),OY (by rw[(ZA b).2 hb];simp),OY oa]
theorem Qou (c:ZO)(hi:LI):Zr c hi=⟨c.ev,[⟨(c.co.map (·.nm)).headD .empty,ZI (Yp c) hi⟩],c.rq,[],[]⟩:=rfl
instance:Bw sV 53 Kf [(0,1),(1,1),(2,1),(3,1)]:={}
theorem qL:ZN Kf:=oA
theorem Qqp {G I J:O7}{O:Qz}{b:Nat}(V:QN ↑w b 53 ([ZJ ⟨va,vm,ve,a⟩,ZJ ⟨G,I,J,O⟩]:List (LV)).flatten)(h:Zv [] ↑w va vm ve a)(Y:Zv [] ↑w G I J O):
  Jd [] ↑w (sL b 2 2) [⟨va,vm,ve,a⟩,⟨G,I,J,O⟩]:=
 ⟨V.arr oe rfl oa (Lr 2),λp U=>by
  rcases Ll.1 U with rfl|U
  ·exact h
  rw[Lc.1 U];exact Y⟩
theorem QkC {V:LvV}(h:LvA ↑w V)(hn:Kb w 4096)(hp:Pl9 V.p)(hi:Z7 V.hi)(ho:0<V.c.co.length):
  QT sV 92 [sT (Yk V)] w λr w'=>sW w w'/\∃us,r=.tuple #[sT us,sS (suE (Qbj V.c.V (ZI V.p V.hi)))]/\us.length=4/\ZN us/\(suE (Qbj V.c.V (ZI V.p V.hi))≠0->us=Kf)/\(suE (Qbj V.c.V (ZI V.p V.hi))=0->Xu ↑w ↑w' (sT us) (Xv (Qbj V.c.V (ZI V.p V.hi)))):=by
 refine Zn func92 ?_;refine Qc<|Zd (Yk V) λb1 w1 Y h9 hq=>QV Kf λb2 w2 ha hA he=>Qb ?_;have hf:=Y.D ha;have hB:=Y.size;refine Qc<|Q7 (hq.I ha) Z Z<|Qw<|(Qiw (h.I hf) hp hi ho).S ?_;rintro _ w3 ⟨J,us,rfl,hg,hr,k,hk,hh,hs⟩;refine Zg (Qbj V.c.V (ZI V.p V.hi)) λT hT=>?_;rw[hT]at hh ⊢;refine Qa<|QS Z Z<|QS Z Z<|QV Vo λb4 w4 hu hv hw=>Qo<|ZM (us:=us) hw Z Z hg Z hr λw5 hy hz=>Qb ?_;have I:sW w3 w5:=hu.O hy hv;have O:=(hf.D J).D I;have h0:=O.size;refine Qd<|Ql<|ZS Z Z<|xe<|ZC rfl<|Qf ?_;have h3:Z9 [] ↑w5 k:=(hs [] oe).I I;have hS:=V6 h3 (hn.I O);rw[<-hk,hh]at hS;refine Qc<|Q7 hz Z hg<|Qw<|hS.S ?_;rintro _ w7 ⟨hj,sa,sm,se,rfl,G,h4,h5⟩;have h6:=((he.I J).I I).I hj;have h7:=he.lt;refine QS rfl Z<|QS Z Z<|Q6 [sa,sS (if YY T=0 then(Xv T).st else 0),sm,se] h6 ⟨G.1,Z,G.2.1,G.2.2.1,La⟩ λw8 hm h8=>Qb<|Qk ⟨[.agg #[sa,sS (if YY T=0 then(Xv T).st else 0),sm,se],sS (suE T)],⟨Kh h8,Z,La⟩,(O.D hj).O hm oa,_,Z,Z,⟨G.1,Z,G.2.1,G.2.2.1,La⟩,λhE=>?_,λhE=>?_⟩
 ·obtain⟨e1,e2,e3⟩:=h4 hE;have U:¬YY T=0:=hE;rw[e1,e2,e3,OY U]
 have U:YY T=0:=hE;rw[OZ U];refine⟨sa,sm,se,Z,λL hL=>?_⟩;have h1:=h5 hE (b2::L) λb hb=>by
  rcases Ll.1 hb with rfl|hb
  ·exact LX h7 (LA J.size I.size)
  exact LX (hL b hb) h0
 exact(h1.st (hm.S λb hb=>by rw[Lc.1 hb];exact Lj)).up λb hb=>.inl (Lh _ hb)
theorem QkB {V:LvV}{hi':LI}(h:LvA ↑w V)(hn:Kb w 4096)(hp:Pl9 V.p)(hi:Z7 V.hi)(h4:0<V.c.co.length)(hc:V.c.V=c)(ha:V.p=Yp c)(h5:V.hi=hi'):
  QT sV 66 [sT (Yk V)] w λr w'=>sW w w'/\∃us,r=.tuple #[sT us,sS (Uk c hi')]/\us.length=4/\ZN us/\(Uk c hi'≠0->us=Kf)/\(Uk c hi'=0->Xu ↑w ↑w' (sT us) (zh c hi')):=by
 have hT:Qbj V.c.V (ZI V.p V.hi)=Zr c hi':=by rw[hc,ha,h5]
 have G:Uk c hi'=if suE (Zr c hi')≠0 then suE (Zr c hi') else KP [V.p,Xv (Zr c hi')]:=by unfold Uk;rw[ha]
 have ho:zh c hi'=Jf [V.p,Xv (Zr c hi')]:=by unfold zh;rw[ha]
 refine Zg (Uk c hi') λE hE=>?_;rw[hE]at G ⊢;refine Zn func66 ?_;refine Qc<|Zd (Yk V) λb1 w1 hr hR hs=>QV Kf λb2 w2 he hU h6=>Qb ?_;have hf:=hr.D he;have hV:=hr.size;have hS:=QkC (h.I hf) (hn.I hf) hp hi h4;rw[hT]at hS;refine Qc<|Q7 (hs.I he) Z Z<|Qw<|hS.S ?_;rintro _ w3 ⟨hg,us,rfl,h7,h8,h9,hh⟩;refine Zg (suE (Zr c hi')) λF hF=>?_;have hu:F=0->QL (Xv (Zr c hi')):=λe=>Km (hF.D e);rw[hF]at G h9 hh;refine Zg (Xv (Zr c hi')) λS hA=>?_;rw[hA]at G ho hh hu;refine Qa<|QS Z Z<|x (Q2 Z (O0 (λi=>some (sS i)) hF))<|QV Kf λb4 w4 hB hD hG=>Qo<|ZM (us:=us) hG Z Z h7 Z h8 λw5 hH hI=>Qb ?_;have O:sW w3 w5:=hB.O hH hD;have hw:=(hf.D hg).D O;have hj:=(h6.I hg).I O;refine Qd<|Ql<|ZS Z Z<|xe<|Zh rfl (λhk=>?_) (λhk=>?_)
 ·have I:F≠0:=hk;rw[OZ I]at G;refine Qc<|x (ZE [] La)<|Qa<|Q6 Kf hj qL λw6 hJ hK=>Qb<|Qk ⟨[sT Kf,sS F],⟨Kh hK,Z,La⟩,hw.O hJ oa,Kf,by rw[G];rfl,Z,qL,λ_=>Z,λe=>O1 (G.symm.D e) I⟩
 have I:F=0:=Ly.1 hk;rw[OY (λe=>e I)]at G;refine Qf ?_;obtain⟨sa,sm,se,hL,hM⟩:=hh I;have hN:us=[sa,sS S.st,sm,se]:=by
  have:=Value.agg.inj hL;exact O0 Array.toList this
 subst hN;have hO:=hM [] oe;refine Qc<|Q9 Z<|x (ZW (us:=[V.pa,sS V.p.st,V.pm,V.pe]) (((hs.I he).I hg).I O) Z Z Z)<|Q7 hI Z Z<|Qo<|Q3 [ZJ ⟨V.pa,V.pm,V.pe,V.p⟩,ZJ ⟨sa,sm,se,S⟩] λhW w7 U hX hP=>?_;have Y:=hw.D U;have hC:=QfW (Qqp hP (h.a.I Y) (hO.I (O.D U))) (λq hq=>by
  rcases Ll.1 hq with rfl|hq
  ·exact hp.ok
  rw[Lc.1 hq];exact hu I) (hn.I Y)
 simp only[oU,OI]at hC;rw[<-G,<-ho]at hC;refine Qw<|hC.S ?_;rintro r8 w8 ⟨hy,va,rfl,hz,h0⟩;obtain⟨vs,hv,hm,hvo⟩:∃vs,va=sT vs/\vs.length=4/\ZN vs:=by
  by_cases J:E=0
  ·exact X3 (h0 J)
  exact⟨Kf,hz J,Z,qL⟩
 subst hv;have hY:=U.size;refine QS rfl Z<|QS Z Z<|Qo<|ZM (us:=vs) (hj.I (U.D hy)) Z Z hm Z hvo λw9 h3 hQ=>Qb<|Qk ⟨[sT vs,sS E],⟨⟨_,Z,Yc hm (hQ.at (L:=[]) oe).cells⟩,rfl,La⟩,(Y.D hy).O h3 oa,vs,rfl,hm,hvo,λJ=>?_,λJ=>?_⟩
 ·have:=Value.agg.inj (hz J);exact O0 Array.toList this
 have hZ:=hj.lt;exact(Je (h0 J) oa h3).S Y.size
theorem QqP {k:ZO}(h:hck k hi=0):0<k.co.length:=by
 unfold hck at h;by_cases h1:Z2 k≠0
 ·rw[OZ h1]at h;exact O1 h h1
 exact Nr (YW (Ly.1 h1)).c0
theorem y9 {c:CL}(h:Z9 [] ↑w c)(hH:Qu [] ↑w vh hi)(hh:Kb w 4096)(O:hck c.V hi=0->HOk c.V hi):
  QT sV 21 [c.val,vh] w λr w'=>sW w w'/\∃vw,r=.tuple #[vw,sS (hck c.V hi)]/\vw.oneCell'=true/\(hck c.V hi≠0->vw=ZY)/\(hck c.V hi=0->Qh 3 ↑w w' vw (KC (Yp c.V) hi (unc c.V.ev))/\Z7 (KC (Yp c.V) hi (unc c.V.ev))):=by
 refine Zn func21 ?_;refine Qc<|Zd c.cells λb2 w1 hj h0 hk=>x Qe<|Qb ?_;have I:=hj;refine Qc<|Q7 hk Z Z<|Qa<|Qw<|(jH (h.I I) (hH.I I) (hh.I I) λe=>(O e).e).S ?_;rintro _ w3 ⟨hm,us,rfl,hn,ho,hV⟩;have U:=Qfi (k:=c.V) (hi:=hi);refine Zg (hck c.V hi) λE hE=>?_;rw[hE]at O hV U ⊢;refine Qa<|QS Z Z<|QS Z Z<|QV UQ λb6 w4 hq hr hs=>Qo<|ZM (us:=us) hs Z Z hn Z ho λw5 hu he=>Qb ?_;have hf:sW w3 w5:=hq.O hu hr;have hv:=I.D hm;have J:=hv.D hf;refine Qd<|Ql<|ZS Z Z<|xe<|Zh rfl (λY=>?_) (λY=>?_)
 ·have G:E≠0:=Y;refine Ql<|x Qe<|Qb<|Qk ⟨[ZY,sS E],oy,J,ZY,Z,Z,λ_=>Z,λe=>O1 e G⟩
 have G:E=0:=Ly.1 Y;obtain⟨V,rfl,hL,hK⟩:=hV G;have hp:Pl9 V.p:=by rw[hK.p];exact(O G).p
 have hw:Z7 V.hi:=by rw[hK.h];exact(U G).1
 have hy:Z7 V.un:=by rw[hK.u];exact(U G).2
 have hg:=hL.I hf;refine Qf<|Qc<|Q9 Z<|x (ZW (us:=[V.pa,sS V.p.st,V.pm,V.pe]) he Z Z Z)<|Qa<|Qs Z he Z Z<|Qw<|(QiL hg.a (hH.I J) hg.u hp (by rw[<-hK.h];exact hw) hy).S ?_;rintro _ w6 ⟨hz,vw,rfl,hI,ha⟩;refine QS rfl Z<|QS Z Z<|x Qe<|Qb ?_;rw[hK.p,hK.u]at hI ha;refine Qk ⟨[vw,sS 0],oy,J.D hz,vw,by rw[G];rfl,(Qh.ints (L:=[]) hI (oq ha.len) oe:Qu [] ↑w6 vw _).one,λe=>O1 G e,λ_=>⟨?_,ha⟩⟩;exact⟨hI.1,hI.2.imp id λ⟨g,cap,cur,e1,e2,r⟩=>⟨g,cap,cur,e1,LA J.size e2,r⟩⟩
instance:Ay sV 143 2 3 1:=⟨od,od⟩
def hcX (c:ZO)(hi:LI):Int:=if hck c hi≠0 then hck c hi else hcE c hi
theorem Qk9 (I:Pl9 (Yp c))(h:Uk c hi=0):QL (zh c hi):=by
 unfold Uk at h;by_cases h1:suE (Zr c hi)≠0
 ·rw[OZ h1]at h;exact O1 h h1
 rw[OY h1]at h;exact Qjo (λa G=>by
  rcases Ll.1 G with rfl|G
  ·exact I.ok
  rw[Lc.1 G];exact Km (Ly.1 h1)) h
theorem QgW {c:CL}(h:Z9 [] ↑w c)(hH:Qu [] ↑w vh hi)(ho:Kb w 4096)(hO:hck c.V hi=0->HOk c.V hi):
  QT sV 25 [c.val,vh] w λr w'=>sW w w'/\∃v e,r=.tuple #[v,.bool e,sS (hcX c.V hi)]/\(hcX c.V hi≠0->v=ZY/\e=false) /\
   (hcX c.V hi=0->match hcR c.V hi with|none=>v=ZY/\e=true|some u=>e=false/\Qh 3 ↑w w' v u):=by
 have I:hcX c.V hi=if hck c.V hi≠0 then hck c.V hi else if Uk c.V hi≠0 then Uk c.V hi else suE c.V:=rfl
 have hr:Uk c.V hi=0->Pl9 (Yp c.V)->QL (zh c.V hi):=λe hp=>Qk9 hp e;have hs:suE c.V=0->QL (Xv c.V):=Km;have J:hcR c.V hi=match lgq (zh c.V hi) (Xv c.V) 1 with|some u=>some u|none=>lgq (zh c.V hi) (Xv c.V) 2:=rfl
 refine Zg (hcX c.V hi) λX hX=>?_;refine Zg (hcR c.V hi) λR hR=>?_;rw[hX]at I;rw[hR]at J;rw[hX,hR];refine Zn func25 ?_;refine Qc<|Zd c.cells λb2 w1 ga ko h8=>x Qe<|x Qe<|Qb ?_;have hh:=ga;refine Qc<|Q7 h8 Z Z<|Qa<|Qw<|(jH (h.I hh) (hH.I hh) (ho.I hh) λe=>(hO e).e).S ?_;rintro _ w3 ⟨h9,us,rfl,gb,gc,hV⟩;have hB:=Qfi (k:=c.V) (hi:=hi);have hC:=QqP (k:=c.V) (hi:=hi);refine Zg (hck c.V hi) λE hE=>?_;rw[hE]at hO hV hB hC I ⊢;refine Qa<|QS Z Z<|QS Z Z<|QV UQ λb6 w4 ge gg gh=>Qo<|ZM (us:=us) gh Z Z gb Z gc λw5 gi gj=>Qb ?_;have hu:sW w3 w5:=ge.O gi gg;have gk:=hh.D h9;have hw:=gk.D hu;refine Qd<|Ql<|ZS Z Z<|xe<|Zh rfl (λhy=>?_) (λhy=>?_)
 ·have O:E≠0:=hy;rw[OZ O]at I;refine Ql<|x Qe<|x Qe<|Qb<|Qk ⟨[ZY,.bool false,sS E],oz,hw,ZY,false,by rw[I];rfl,λ_=>⟨Z,Z⟩,λe=>O1 (I.symm.D e) O⟩
 have O:E=0:=Ly.1 hy;rw[OY (λe=>e O)]at I;obtain⟨V,rfl,hL,hK⟩:=hV O;have hp:Pl9 V.p:=by rw[hK.p];exact(hO O).p
 have gl:Z7 V.hi:=by rw[hK.h];exact(hB O).1
 have gm:0<V.c.co.length:=by rw[hK.c];have e0:=hC O;rw[show c.V.co.length=c.co.length from Lo _]at e0;exact e0
 have gn:=hL.I hu;have gq:=ho.I hw;have hT:=QkB (c:=c.V) (hi':=hi) gn gq hp gl gm (by rw[hK.c]) hK.p hK.h;have gr:Pl9 (Yp c.V):=(hO O).p;refine Zg (Uk c.V hi) λF hF=>?_;rw[hF]at I hr hT;refine Zg (zh c.V hi) λTA gs=>?_;rw[gs]at hr hT J;refine Qf<|Qc<|Q7 gj Z Z<|Qw<|hT.S ?_;rintro _ w6 ⟨hD,vs,rfl,gt,hvo,_,hA⟩;refine Qa<|QS Z Z<|QS Z Z<|QV Kf λb8 w7 gu gv gx=>Qo<|ZM (us:=vs) gx Z Z gt Z hvo λw8 gy gz=>Qb ?_;have hz:sW w6 w8:=gu.O gy gv;have hj:=(hw.D hD).D hz;refine Qd<|Ql<|ZS Z Z<|xe<|Zh rfl (λh0=>?_) (λh0=>?_)
 ·have ha:F≠0:=h0;rw[OZ ha]at I;refine Ql<|x Qe<|x Qe<|Qb<|Qk ⟨[ZY,.bool false,sS F],oz,hj,ZY,false,by rw[I];rfl,λ_=>⟨Z,Z⟩,λe=>O1 (I.symm.D e) ha⟩
 have ha:F=0:=Ly.1 h0;rw[OY (λe=>e ha)]at I;refine Qf ?_;have g0:=hr ha gr;obtain⟨ta,tm,te,g2,g3⟩:=hA ha;have g4:vs=[ta,sS TA.st,tm,te]:=O0 Array.toList (Value.agg.inj g2);subst g4;have g5:=g3 [] oe;have hS:=V6 (h.I hj) (ho.I hj);refine Zg (suE c.V) λG hG=>?_;have hsp:YY c.V=G:=hG;rw[hG]at I hs hS;rw[hsp]at hS;refine Zg (Xv c.V) λSA g6=>?_;rw[g6]at hs hS J;refine Qc<|x (Zj (((h8.I h9).I hu).I (hD.D hz)) Z Z)<|Qw<|hS.S ?_;rintro _ w9 ⟨g7,sa,sm,se,rfl,h3,_,g8⟩;refine Qa<|QS Z Z<|QS Z Z<|QV Kf λb9 kq g9 ka kb=>Q6 [sa,sS (if G=0 then SA.st else 0),sm,se] kb ⟨h3.1,Z,h3.2.1,h3.2.2.1,La⟩ λhI kc hJ=>Qb ?_
 have hM:sW w9 hI:=g9.O kc ka;have h4:=g7.D hM;have hN:=hj.D h4;refine Qd<|Ql<|ZS Z Z<|xe<|Zh rfl (λh5=>?_) (λh5=>?_)
 ·have hf:G≠0:=h5;refine Ql<|x Qe<|x Qe<|Qb<|Qk ⟨[ZY,.bool false,sS G],oz,hN,ZY,false,by rw[I];rfl,λ_=>⟨Z,Z⟩,λe=>O1 (I.symm.D e) hf⟩
 have hf:G=0:=Ly.1 h5;rw[OZ hf]at hJ;have ke:=hs hf;have kf:=g8 hf [] oe;have hm:X=0:=I.D hf;have kg:=gz.I h4;refine Qf<|Qd<|Qc<|x (QD ⟨Z,Z,La⟩)<|Qa<|xe<|QY (α:=Nat) [(4,6),(11,11),(38,58)] (λz=>[(38,sS z)]) (λz w'=>z<=2/\sW hI w'/\(0<z->lgq TA SA 1=none)/\(1<z->lgq TA SA 2=none)) (λz=>2 - z) 0 Lb ⟨oa,xd.C _ _,λe=>O1 e oa,λe=>O1 e oa⟩ ?_;rintro k g kr ⟨hk,hg,hk1,kh⟩;have h6:=hN.D hg;refine Zk rfl Z (λhP=>?_) (λhP=>?_)
 ·refine Qt ?_;rw[hk1 oa]at J;have hU:R=lgq TA SA 2:=J;rw[kh oa]at hU;refine Qc<|x Qe<|x Qe<|Qb<|Qk ⟨[ZY,.bool true,sS 0],oz,h6,ZY,true,by rw[hm];rfl,λe=>O1 hm e,λ_=>?_⟩;rw[hU];exact⟨Z,Z⟩
 have kt:(k:Int)<(2:Nat):=hP;have hW:k<2:=oa
 refine Qf<|Qd<|Qn<|Qc<|x (Qc8 (i:=k) (cs:=[sS 1,sS 2]) (u:=sS ((k:Int)+1)) Z Z hW (by rcases(by omega:k=0\/k=1) with rfl|rfl <;> rfl))<|Qb ?_
 have hq:=Qe7 (g5.I ((hz.D h4).D hg)) (kf.I (hM.D hg)) ((k:Int)+1);rw[QkI g0 ke oa]at hq;refine Zg (lgq TA SA ((k:Int)+1)) λQ Y=>?_;rw[Y]at hq;refine Qc<|Q7 (kg.I hg) Z Z<|Q7 (hJ.I hg) Z Z<|Qa<|Qw<|hq.S ?_;rintro _ ki ⟨hY,v,e,rfl,U⟩;have U:=U Z;refine Qa<|QS Z Z<|QS Z Z<|QS Z Z<|x Qe<|x Qe<|Qb ?_;have kj:=h6.D hY;refine QX (α:=Bool) [(49,54)] (λz=>[(54,.bool z)]) (λz w'=>w'=ki/\z=!e) ol ?_ ?_
 ·refine Qr<|Qa<|xb (J0 Z Z) (λhZ=>?_) (λhZ=>?_)
  ·exact O1 Z hZ
  refine Qa<|Qa<|x (Zi Z)<|QB Z<|xe ?_;exact⟨!e,Lb,Z,Z⟩
 rintro z g ku ⟨rfl,rfl⟩;refine Q5 rfl (λh7=>?_) (λh7=>?_)
 ·have he:e=false:=by cases e;rfl;cases h7
  refine Ql<|Qa<|Qa<|x Qe<|x Qe<|Qb<|Qk ⟨[v,.bool e,sS 0],oz,kj,v,e,by rw[hm];rfl,λe=>O1 hm e,λ_=>?_⟩;cases hn:Q with
  | none =>
   rw[hn]at U;exact O1 (he.symm.D U.2) oh
  | some u =>
   rw[hn]at U Y;have kk:R=some u:=by
    rcases(by omega:k=0\/k=1) with rfl|rfl
    ·rw[show lgq TA SA 1=some u from Y]at J;exact J
    rw[hk1 oa]at J;exact J.D Y
   rw[kk];exact⟨he,U.2.1,U.2.2.imp id λ⟨g,cap,cur,e1,e2,r⟩=>⟨g,cap,cur,e1,LA h6.size e2,r⟩⟩
 have he:e=true:=by cases e;cases h7;rfl
 have kn:Q=none:=by
  cases hn:Q with
  | none=>rfl
  | some u=>rw[hn]at U;exact O1 (U.1.symm.D he) oh
 rw[kn]at Y;refine Qf<|Qr<|QC Z Z<|Qa<|xe<|⟨k+1,oa,Lb,hW,hg.D hY,λ_=>?_,λkv=>?_⟩
 ·rcases(by omega:k=0\/k=1) with rfl|rfl
  ·exact Y
  exact hk1 oa
 have e1:k=1:=oa
 subst e1;exact Y
def JR:ZO:={ mzC 2 with rq:=[UY] }
theorem QkT:hck JR [1,2]=0:=od
theorem Qqx:hck JR [0,1,2]=0:=od
theorem Qqu:plE JR=0:=od
theorem Qqv:Jj (Yp JR)=0:=od
theorem Qqs:(Yp JR).st=4:=od
theorem Qqt:(Yp JR).ed.length=8:=od
theorem QkS:(nbl (Yp JR)).2=true:=od
theorem QqB:cns (Yp JR) [1,2] (unc JR.ev)=some ([],1):=od
theorem QqA:cns (Yp JR) [0,1,2] (unc JR.ev)=none:=od
theorem Qqw:obs (Yp JR) [0,1,2] []=none:=od
theorem Qso:KC (Yp JR) [1,2] (unc JR.ev)=[0,1,2]:=od
theorem Qqz:hcX JR [0,1,2]=0:=od
theorem Qqy:hcR JR [0,1,2]=none:=od
theorem QhQ {v:O7}{l l':LI}(h:Qu L ↑w v l)(G:Qu L' ↑w v' l'):QT sV 23 [v,v'] w λr w'=>r=.bool (decide (l=l'))/\sW w w':=by
 have hn:=h.le;refine Zn func23 ?_;refine Qc<|Qb<|Qd<|Ql<|QG h Z<|Qa<|QG G Z<|ZS Z Z<|xe<|Zh rfl (λha=>?_) (λha=>?_)
 ·refine Qc<|Qb<|Qk ⟨[.bool false],Lb,?_,xd.C _ _⟩;have J:l≠l':=λe=>ha (by rw[e]);simp[tup,J]
 refine Qf<|Qd<|Qc<|Qb<|QY (α:=Nat) [(4,5),(11,25)] (λk=>[(5,sS k)]) (λk w'=>sW w w'/\k<=l.length/\(l=l'↔l.drop k=l'.drop k)) (λk=>l.length - k) 0 Lb ⟨xd.C _ _,Lp _,oe⟩ ?_;rintro k g w1 ⟨I,hk,O⟩
 replace h:=h.I I
 replace G:=G.I I;refine Qd<|Ql<|Qa<|QG h Z<|ZT Z Z<|xe<|Zp rfl (λhg=>?_) (λhg=>?_)
 ·refine Qt<|Qc<|Qb<|Qk ⟨[.bool true],Lb,?_,I⟩;rw[Lx oa,Lx oa]at O;simp[tup,O]
 have U:k<l.length:=oa
 have V:k<l'.length:=oa
 refine Qf<|Qd<|Qn<|Qd<|ZK [] (Xj 0 9 [])<|p Qx<|p Qx<|pii (i:=k) Z h Z Z U λho hh=>pq (λ_ hc=>Qq (hh.I hc) Z)<|p Qx<|p Qx<|pii (i:=k) Z G Z Z V λhp hj=>pq (λ_ hc=>Qq (hj.I hc) Z)<|p (λ_=>J0 Z Z)<|pe ?_;have hf:=I.D (xd.Y [] w1);refine Zh rfl (λY=>?_) (λY=>?_)
 ·refine Qc<|Qb<|Qk ⟨[.bool false],Lb,?_,hf⟩;have J:l≠l':=λe=>Y (by simp[e]);simp[tup,J]
 refine Qf<|Qr<|Qa<|QC Z Z<|Qb<|⟨k+1,oa,Lb,hf,oa,?_⟩;have he:l[k]'U=l'[k]'V:=Ly.1 Y;rw[O,QZ U,QZ V,he];exact⟨λh=>(List.cons.inj h).2,λh=>by rw[h]⟩
theorem y8 {v:O7}{l:LI}(h:Qu L ↑w v l)(x:Int):
  QT sV 27 [v,sS x] w λr w'=>r=.bool (decide (x∈l))/\w'=w:=by
 have V:=h.le;refine Zn func27 ?_;refine Qc<|Lg.Qb<|Qd<|Qc<|Lg.Qb<|QY (α:=Nat) [(4,17)] (λk=>[(5,sS k)]) (λk w'=>w'=w/\k<=l.length/\(x∈l↔x∈l.drop k)) (λk=>l.length - k) 0 Lb ⟨Z,Lp _,oe⟩ ?_;rintro k g w' ⟨rfl,Y,G⟩;refine Qd<|Qc<|Lg.Qa<|Lg.Qa<|Lg.x (Y4 h Z)<|Lg.ZT Z Z<|xe<|Zp rfl (λO=>?_) (λO=>?_)
 ·refine Qt<|Qc<|Lg.Qb<|Qk ⟨[.bool false],Lb,?_,Z⟩;rw[Lx oa]at G;simp[tup,G]
 have J:k<l.length:=oa
 have hd:=QZ J;refine Qf<|Qd<|Qn<|Qc<|Lg.Qa<|Lg.Qa<|xii h Z Z J λha U=>Lg.x (Qq U Z)<|Lg.Qa<|Lg.x (Zc Z Z)<|xe<|Zh rfl (λI=>?_) (λI=>?_)
 ·refine Qc<|Lg.Qb<|Qk ⟨[.bool true],Lb,?_,Z⟩;have:x∈l:=by rw[G,hd,I];exact Lj
  simp[tup,this]
 refine Qf<|Qr<|Lg.Qa<|Lg.QC Z Z<|Lg.Qb<|⟨k+1,oa,Lb,Z,oa,?_⟩;rw[G,hd,Ll];exact⟨λh=>h.resolve_left (λe=>I e.symm),.inr⟩
theorem QmE {R:RpV}  : QT sV 24 [sT (Zt R)] w λr w'=>r=.bool (R.t && R.o && R.c)/\sW w w':=by
 refine Zn func24 ?_;refine Qc<|Zd (Zt R) λV O U Y I=>Qb<|QX (α:=Bool) [(2,12)] (λz=>[(2,.bool z)]) (λz w'=>w'=O/\z=(R.t && R.o && R.c)) ol ?_ ?_
 ·refine Qr<|Q9 Z<|xB (Qj (u:=.bool R.t) I Z Z) (λG=>?_) (λG=>?_)
  ·refine Qa<|Q9 Z<|xB (Qj (u:=.bool R.o) I Z Z) (λJ=>?_) (λJ=>?_)
   ·refine QB Z<|Qa<|Qs Z (u:=.bool R.c) I Z Z<|QB Z<|Qb<|⟨R.c,Lb,Z,by rw[G,J];rfl⟩
   refine QB Z<|Qa<|YN<|QB Z<|Qb<|⟨false,Lb,Z,by rw[G,J];rfl⟩
  refine Qa<|YN<|QB Z<|Qa<|YN<|QB Z<|Qb<|⟨false,Lb,Z,by rw[G];rfl⟩
 rintro z g w2 ⟨rfl,rfl⟩;exact Qk ⟨[.bool (R.t && R.o && R.c)],Lb,Z,U⟩
theorem Jw (w:O6):QT sV 114 [] w λr w'=>sW w w'/\Qpj ↑w ↑w' r JR:=by
 refine Zn func114 ?_;refine Qc<|QV Vo λI w1 hz hH hh=>xe ?_;refine Qc<|Qw<|(J9 2 oh w1).S ?_;rintro r2 w2 ⟨hj,G,rfl,h0,hk⟩;refine QV Vo λJ w3 h3 hp h4=>Q6 G.cells h4 (hk [] oe).ones λw4 h5 hr=>xe ?_;have ha:sW w2 w4:=h3.O h5 hp;have hJ:=hj.size;refine Qc<|Qo<|Q3 [[sS 1],[sS 2]] λO w5 hs hK h6=>Qo<|Q3 [[sS 0],[sS 1]] λU w6 hn hM h7 =>
  x (QD ⟨rfl,Z,Z,La⟩)<|x (QD ⟨Z,Z,Z,La⟩)<|Qo<|Q3 [Qp (0,1,1),Qp (1,2,0)] λV w7 he hN h8=>?_
 refine x (QD ⟨Z,Z,Z,Z,La⟩)<|x (ZE [(0,[.string Kv]),(1,[sL O 2 2,sS 2,sL U 2 2,sL V 2 2])] ⟨Z,Z,Z,Z,La⟩) <|
  Qo<|Q3 [[.string Kv,sL O 2 2,sS 2,sL U 2 2,sL V 2 2]] λb10 w8 hf hO hA=>?_
 have hu:=((hs.D hn).D he).D hf;refine Q9 rfl<|Qo<|Qv (j:=2) (u:=sL b10 1 1) (hr.I hu) Z Z oe rfl λw9 hv hB=>xe ?_;have hP:=hh.lt;have hQ:=ha.size;have hR:=hs.size;have hS:=hn.size;have hT:=he.size;have ho:xd [J] w4 w9:=hu.any.Q hv;have hC:I∉[J]:=om
 have hD:ZN [G.ve,G.vc,sL b10 1 1,G.vx,G.vk]:=by
  have h9:=(hk [] oe).ones;exact⟨h9.1,h9.2.1,Z,h9.2.2.2.1,h9.2.2.2.2.1,La⟩
 refine Qc<|Q7 hB Z Z<|Q6 [G.ve,G.vc,sL b10 1 1,G.vx,G.vk] (((hh.I hj).I ha).J ho hC) hD λhU hw hE=>xe ?_;have Y:=(CL.cel_rq h0 (sL b10 1 1) [⟨Kv,⟨sL O 2 2,sL U 2 2,sL V 2 2,UY.a⟩⟩]);refine Qk ⟨[.agg #[G.ve,G.vc,sL b10 1 1,G.vx,G.vk]],⟨Kh hE,La⟩,(((hz.D hj).D ha).O ho oa).O hw oa,_,Z,Y,λL hL=>?_⟩;have hy:∀b∈I::L,b<w1.heap.size:=λb hb=>by
  rcases Ll.1 hb with rfl|hb
  ·exact hh.lt
  have:=hL b hb;omega
 have hF:∀b∈J::I::L,b<w4.heap.size:=λb hb=>by
  rcases Ll.1 hb with rfl|hb
  ·exact hr.lt
  have:=hy b hb;omega
 have h2:=(hk (I::L) hy).up (L':=J::I::L) (λb hb=>by
  rcases Ll.1 hb with rfl|hb
  ·exact .inr hp
  exact .inl hb)
 have hg:=(h2.I ha).st (ho.S oe);have nB:∀b,↑w4<=b->b∉J::I::L:=λb hb hm=>oq (hF b hm)
 have hI:VF (J::I::L) ↑w8 (sL b10 1 1) [⟨Kv,⟨sL O 2 2,sL U 2 2,sL V 2 2,UY.a⟩⟩]:=by
  refine⟨hA.arr (nB _ oa) (n:=1) (cap:=1) (sz:=5) Z oh (Lr _),λq Y=>?_,λq Y=>?_⟩
  ·rw[Lc.1 Y];exact⟨(((h6.I hn).I he).I hf).arr (nB _ oa) (n:=2) (cap:=2) (sz:=1) Z oh (Lr _),((h7.I he).I hf).arr (nB _ oa) (n:=2) (cap:=2) (sz:=1) Z oh (Lr _),(h8.I hf).arr (nB _ oa) (n:=2) (cap:=2) (sz:=3) Z oh (Lr _)⟩
  rw[Lc.1 Y];exact JB oh
 have hG:Z9 (J::I::L) ↑w9 (CL.mk G.ve G.vc (sL b10 1 1) G.vx G.vk G.ev G.co [⟨Kv,⟨sL O 2 2,sL U 2 2,sL V 2 2,UY.a⟩⟩] G.ex G.cs):=
  ⟨hg.ev,hg.co,hI.st (hv.S oe),hg.ex,hg.cs⟩
 exact(hG.st (hw.S oe)).up (λb hb=>.inl (Lh _ (Lh _ hb)))
theorem zY (hi:LI):HOk JR hi:=⟨Qqu,⟨(ZA _).1 Qqv,by rw[show(Jf (xj JR.co)).st=4 from Qqs];decide,by rw[show(Jf (xj JR.co)).ed.length=8 from Qqt];decide⟩⟩
theorem QjH {c:CL}{k:ZO}{V:LvV}{H:xG}{R:RpV}(G:LvK c hi V)(hc:c.V=k)(h:jY [] H V 3 R):
  (R.t=(nbl (Yp k)).2/\Qu [] H R.vs (nbl (Yp k)).1)/\(R.o=(obs (Yp k) hi []).isNone/\Qu [] H R.vw ((obs (Yp k) hi []).elim [] (·.1))/\Qu [] H R.vo ((obs (Yp k) hi []).elim [] (·.2))) /\
   R.c=(cns (Yp k) hi (unc k.ev)).isNone/\R.ev=(cns (Yp k) hi (unc k.ev)).elim (-1) (·.2)/\Qu [] H R.vp ((cns (Yp k) hi (unc k.ev)).elim [] (·.1)):=by
 subst hc;have h1:=h.p1 oh;have h2:=h.p2 oh;have I:=h.p3 oh;have eu:V.un=unc c.V.ev:=G.u;rw[G.p]at h1;rw[G.p,G.h]at h2;rw[G.p,G.h,eu]at I;exact⟨h1,h2,I⟩
theorem Qpu {H:xG}:Qu L H ZY []:=⟨Z,oh,.inl ⟨Z,Z⟩⟩
theorem Qqq {H:xG}{b:Nat}{m n:Int}(h:QN H b T [sS m,sS n]):Qu [] H (sL b 2 2) [m,n]:=h.arr oe (n:=2) (cap:=2) (sz:=1) rfl oa (Lr _)
theorem Qn2 {H:xG}{b:Nat}{m n o:Int}(h:QN H b T [sS m,sS n,sS o]):Qu [] H (sL b 3 3) [m,n,o]:=h.arr oe (n:=3) (cap:=3) (sz:=1) rfl oa (Lr _)
theorem Qfb (G:Kb w 4096):QT sV 46 [] w λr w'=>r=.bool true/\sW w w':=by
 refine Zn func46 ?_;refine Qc<|Qb<|Qc<|Qw<|(Jw w).S ?_;rintro r1 w1 ⟨hA,⟨c1,rfl,I,hB⟩⟩;refine Qo<|Q3 [[sS 1],[sS 2]] λg0 w2 Y g2 hC=>?_;have ha:=hA.D Y;have hT:=Qcq ((hB [] oe).I Y) (Qqq hC) (G.I ha) λ_=>by rw[I];exact zY _
 rw[I,QkT]at hT;refine Qw<|hT.S ?_;rintro _ w3 ⟨hD,R1,rfl,hE,_,hF⟩;obtain⟨V1,hG,hI⟩:=hF Z;obtain⟨⟨t1,_⟩,_,he,e1,_⟩:=QjH hG I hI;rw[QkS]at t1;rw[QqB]at he e1;refine Qa<|QS Z Z<|QS Z Z<|QV (Zt rp8) λb1 w4 hJ hK hL=>Q6 (Zt R1) hL hE λw5 hM hN=>Qb ?_;have hO:sW w3 w5:=hJ.O hM hK;have hf:=(ha.D hD).D hO;refine Qc<|Qw<|(Jw w5).S ?_;rintro r6 w6 ⟨hP,⟨c6,rfl,J,hQ⟩⟩;refine Qo<|Yj (us:=[[sS 0],[sS 1],[sS 2]]) Z Z oh oe ⟨rfl,rfl,rfl,rfl,rfl,rfl,La⟩ λg3 w7 hg g4 hR=>?_;have hh:=hP.D hg;have hT:=Qcq ((hQ [] oe).I hg) (Qn2 hR) (G.I (hf.D hh)) λ_=>by rw[J];exact zY _
 rw[J,Qqx]at hT;refine Qw<|hT.S ?_;rintro _ w8 ⟨hS,R2,rfl,hU,_,hV⟩;obtain⟨V2,hW,hY⟩:=hV Z;obtain⟨⟨t2,_⟩,⟨o2,_⟩,hj,_⟩:=QjH hW J hY;rw[QkS]at t2;rw[Qqw]at o2;rw[QqA]at hj;refine Qa<|QS Z Z<|QS Z Z<|QV (Zt rp8) λb3 w9 hZ ga gb=>Q6 (Zt R2) gb hU λhk gc ge=>Qb ?_;have gg:sW w8 hk:=hZ.O gc ga;have hm:=(hh.D hS).D gg;have O:=hf.D hm;refine Qc<|Qw<|(Jw hk).S ?_;rintro g5 g6 ⟨gh,⟨g7,rfl,hn,gi⟩⟩;refine Qo<|Q3 [[sS 1],[sS 2]] λg8 g9 ho ka gj=>?_;have hp:=gh.D ho;have hX:=y9 ((gi [] oe).I ho) (Qqq gj) (G.I (O.D hp)) λ_=>by rw[hn];exact zY _
 rw[hn,QkT]at hX;rw[show Yp JR=Yp JR from rfl,Qso]at hX;refine Qw<|hX.S ?_;rintro _ hq ⟨gk,vx,rfl,_,_,hx⟩;have gl:Qu [] ↑hq vx [0,1,2]:=Qh.ints (hx Z).1 oh oe;refine Qa<|QS Z Z<|QS Z Z<|x Qe<|Qb ?_;have hr:=hp.D gk;refine Qc<|Qw<|(Jw hq).S ?_;rintro kb kc ⟨gm,⟨ke,rfl,hs,gn⟩⟩;refine Qo<|Yj (us:=[[sS 0],[sS 1],[sS 2]]) Z Z oh oe ⟨rfl,rfl,rfl,rfl,rfl,rfl,La⟩ λkf kg hu kh gq=>?_;have hv:=gm.D hu;have hX:=QgW ((gn [] oe).I hu) (Qn2 gq) (G.I ((O.D hr).D hv)) λ_=>by rw[hs];exact zY _
 rw[hs,Qqz,Qqy]at hX;refine Qw<|hX.S ?_;rintro _ hw ⟨gr,vc,ec,rfl,_,hc⟩;obtain⟨rfl,rfl⟩:=hc Z;refine Qa<|QS Z Z<|QS Z Z<|QS Z Z<|x Qe<|x Qe<|Qb ?_;have hy:=hv.D gr;have U:=hr.D hy;have V:=(hN.I hm).I U;have gs:=ge.I U;have gt:=gl.I hy;have hH:=QmE (R:=R2) (w:=hw);rw[show(R2.t && R2.o && R2.c)=true by rw[t2,o2,hj];rfl]at hH;have et:R1.t=true:=t1;have gu:R1.c=false:=he;have eev:R1.ev=1:=e1;refine QX (α:=Unit) [(0,0),(35,79)] (λz=>[(0,.bool true)]) (λz w'=>sW hw w') ol ?_ ?_
 ·refine Qr<|Qa<|xb (Zc Z Z) (λhz=>?_) (λhz=>O1 Z hz);refine Qa<|Q9 Z<|xB (Qj (u:=.bool R1.t) V Z Z) (λh0=>?_) (λh0=>O1 (et.symm.D h0) oh);refine QB Z<|Qa<|Qs Z (u:=.bool R1.c) V Z Z<|xB (Zi (b:=R1.c) Z) (λh3=>?_) (λh3=>O1 h3 (by rw[gu];decide));refine QB Z<|Qa<|Qs Z (u:=sS R1.ev) V Z Z<|xb (Zc Z Z) (λh4=>?_) (λh4=>O1 eev h4);refine QB Z<|Qa<|Qa<|xb (Zc Z Z) (λh5=>?_) (λh5=>O1 Z h5);refine QB Z<|Qa<|Q7 gs Z Z<|Qw<|hH.S ?_;rintro ki kj ⟨rfl,h6⟩;refine QB Z<|Qa<|Qa<|xb (Zc Z Z) (λh7=>?_) (λh7=>O1 Z h7);refine QB Z<|Qa<|Qa<|Qo<|Yj (us:=[[sS 0],[sS 1],[sS 2]]) Z Z oh oe ⟨rfl,rfl,rfl,rfl,rfl,rfl,La⟩ λkk kn h8 ko gv=>?_;have hSm:=QhQ ((gt.I h6).I h8) (Qn2 gv);rw[show decide (([0,1,2]:LI)=[0,1,2])=true from by decide]at hSm;refine Qw<|hSm.S ?_;rintro kq gx ⟨rfl,gy⟩;refine QB Z<|Qa<|Qa<|xb (Zc Z Z) (λh9=>?_) (λh9=>O1 Z h9);refine QB Z<|Qa<|Qa<|QB Z<|Qa<|Qa<|QG (Qpu (L:=[]) (H:=↑gx)) Z<|x (Zc Z Z)<|QB Z<|Qb<|⟨(),Lb,(h6.D h8).D gy⟩
 rintro z g kr gz;exact Qk ⟨[.bool true],Lb,Z,(O.D U).D gz⟩
theorem jS (G:Kb w 4096):QT sV 10 [] w λr w'=>r=.bool true/\sW w w':=by
 refine Zn func10 ?_;refine Qc<|Qb<|QX (α:=Unit) [(0,4)] (λz=>[(0,.bool true)]) (λz w'=>sW w w') ol ?_ ?_
 ·refine Qr<|Qw<|(Qfb G).S ?_;rintro U V ⟨rfl,I⟩;refine Qa<|Qw<|(QfR (G.I I)).S ?_;rintro r2 Y ⟨rfl,J⟩;refine QB Z<|Qb<|⟨(),Lb,I.D J⟩
 rintro z g w3 O;exact Qk ⟨[.bool true],Lb,Z,O⟩
def Vg (l:List Jz):Int:=l.foldl (λn x=>n*max 1 x.a.st) 1
theorem Qjr (l:List Jz)(x:Jz):Vg (l++[x])=Vg l*max 1 x.a.st:=by unfold Vg;rw[Mw];rfl
theorem stF:∀(l:List Jz) (n:Int),1<=n->(∀x∈l,x.a.st<=3)->1<=l.foldl (λn x=>n*max 1 x.a.st) n/\l.foldl (λn x=>n*max 1 x.a.st) n<=n*3 ^ l.length
 | [],n,h,_=>⟨h,oe⟩
 | x::l,n,h,G=>by
  have U:=G x Lj;have I:1<=max 1 x.a.st/\max 1 x.a.st<=3:=oa
  have h1:1*1<=n*max 1 x.a.st:=Int.mul_le_mul h I.1 oh oa;obtain⟨J,i2⟩:=stF l (n*max 1 x.a.st) oa λy O=>G y (Lh _ O);refine⟨J,Int.le_trans i2 ?_⟩;rw[LS,Int.pow_succ,Int.mul_comm (3 ^ l.length) 3,<-Int.mul_assoc];exact Int.mul_le_mul_of_nonneg_right (Int.mul_le_mul_of_nonneg_left I.2 oa) (Int.pow_nonneg oh)
theorem Qnd {l:List Jz}(h:∀x∈l,x.a.st<=3):1<=Vg l/\Vg l<=3 ^ l.length:=by
 have:=stF l 1 oh h;rw[Int.one_mul]at this;exact this
theorem ze {c:CL}(h:Z9 [] ↑w c)(hl:c.co.length<=3)(O:∀x∈c.V.co,x.a.st<=3):
  QT sV 48 [c.val] w λr w'=>r=sS (Vg c.V.co)/\sW w w':=by
 refine Zn func48 ?_;refine Qc<|Zd c.cells λb1 w1 U hn V=>Qb<|Qc<|Qb<|Qd<|Qc<|Qb ?_;have Y:=h.co.arr.I U;refine QY (α:=Nat) [(3,21)] (λz=>[(3,sS (Vg ((c.co.take z).map (·.it)))),(4,sS z)]) (λz w'=>z<=c.co.length/\w'=w1) (λz=>c.co.length - z) 0 oy ⟨Lp _,Z⟩ ?_;rintro k g w2 ⟨hk,rfl⟩;refine Qd<|Ql<|Qs Z V Z Z<|QG Y Z<|ZT Z Z<|xe<|Zp rfl (λJ=>?_) (λJ=>?_)
 ·refine Qt ?_;have hf:c.co.length<=k:=by have hg:¬(k:Int)<(c.co.length:Int):=J;omega
  refine Ql<|Qb<|Qk ⟨[_],Lb,by rw[Ls hf];rfl,U⟩
 have G:k<c.co.length:=by have hg:(k:Int)<(c.co.length:Int):=J;omega
 have hh:(c.co[k]'G).p.a.st<=3:=O (c.co[k]'G).it (LL (Lm G));have ht:(c.co.take (k+1)).map (·.it)=(c.co.take k).map (·.it)++[(c.co[k]'G).it]:=by rw[Ln G,Lv];rfl
 have hb:=Qnd (l:=(c.co.take k).map (·.it)) λy hy=>by
  obtain⟨q,I,rfl⟩:=Lt.1 hy;exact O q.it (LL (Ma I))
 have hj:Vg ((c.co.take k).map (·.it))<=27:=Int.le_trans hb.2 (by
  rw[Lo,LH,M9 hk];have:k=0\/k=1\/k=2:=oa
  rcases this with rfl|rfl|rfl <;> decide)
 have ha:Vg ((c.co.take (k+1)).map (·.it))=Vg ((c.co.take k).map (·.it))*max 1 (c.co[k]'G).p.a.st:=by rw[ht,Qjr];rfl
 refine Zg (c.co[k]'G) λq I=>?_;rw[I]at hh ha;have hm:1<=max 1 q.p.a.st/\max 1 q.p.a.st<=3:=oa
 have ho:(0:Int)<=Vg ((c.co.take k).map (·.it))*max 1 q.p.a.st:=Int.mul_nonneg oa oa;have hp:Vg ((c.co.take k).map (·.it))*max 1 q.p.a.st<=27*3:=Int.mul_le_mul hj hm.2 oa oh;refine Qf<|Qd<|Qn<|Qr<|Qa<|Qs Z V Z Z<|Qa<|xo (g:=Zm) (i:=k) (λ_=>Z) Y Z Z G λhr he=>?_;rw[I]at he;refine x (ZB Z)<|x (ZB Z)<|x (Qq (he.fld 2 _ Z) Z)<|x (Qr2 Z Z)<|x (Qgp Z Z ⟨oa,oa⟩)<|Qb<|Qr<|Qa<|QC Z Z<|Qb<|⟨k+1,by show c.co.length - (k+1)<c.co.length - k;omega,⟨O0 sS ha.symm,Z,La⟩,G,Z⟩
theorem QmG {c:CL}(h:Z9 [] ↑w c)(hl:c.co.length<=3)(I:∀x∈c.V.co,x.a.st<=3):
  QT sV 13 [c.val] w λr w'=>r=.bool (decide (Vg c.V.co<=9))/\sW w w':=by
 refine Zn func13 ?_;refine Qc<|Zd c.cells λU V G Y J=>Qb<|Qc<|Q7 J Z Z<|Qw<|(ze (h.I G) hl I).S ?_;rintro r2 w2 ⟨rfl,O⟩;refine x (Jl Z Z)<|Qb<|Qk ⟨[_],Lb,Z,G.D O⟩
def Qai:List Qz->List (LI)
 | []=>[[]]
 | a::l=>(Yw a.st.toNat).flatMap λs=>(Qai l).map (s::·)
theorem QkK {α β:Type}(f:α->List β)(n:Nat):∀(l:List α),(∀a∈l,(f a).length=n)->(l.flatMap f).length=l.length*n
 | [],_=>oe
 | a::l,h=>by rw[LR,Le,h a Lj,QkK f n l λb hb=>h b (Lh _ hb),LS,OU,M4]
theorem Qah:∀l:List Qz,(Qai l).length=(l.map (·.st.toNat)).foldr (·*·) 1
 | []=>rfl
 | a::l=>by
  rw[Qai,QkK _ (Qai l).length _ λs _=>Lo _,Qah l];have:(Yw a.st.toNat).length=a.st.toNat:=by simp[Yw]
  rw[this];rfl
theorem Qkv:∀(l m:List (LI)),l.Nodup->(∀x∈l,x∈m)->l.length<=m.length
 | [],_,_,_=>Lp _
 | x::l,m,J,G=>by
  have h1:=List.nodup_cons.1 J;have hx:=G x Lj;have:=Qkv l (m.erase x) h1.2 λy I=>(List.mem_erase_of_ne (a:=y) (b:=x) (λe=>h1.1 (by rw[<-e];exact I))).2 (G y (Lh _ I));rw[List.length_erase_of_mem hx]at this;have O:0<m.length:=List.length_pos_of_mem hx;rw[LS];omega
theorem Qi1:∀(aa:List Qz) (t:LI),Vt aa t->t∈Qai aa
 | [],t,h=>by
  have:t=[]:=Lu h.1;rw[this];exact Lc.2 Z
 | a::l,[],h=>by have:=h.1;simp at this
 | a::l,s::u,h=>by
  have G:=h.2 0 oe oe;have I:Vt l u:=⟨by have:=h.1;simpa using this,λi hi J=>by
   have:=h.2 (i+1) (ox hi) (ox J);simpa using this⟩
  have O:0<=s/\s<a.st:=by simpa using G
  rw[Qai];exact Mh.2 ⟨s,(Kx _ _).2 ⟨O.1,oa⟩,Lt.2 ⟨u,Qi1 l u I,Z⟩⟩
theorem Qbh {Q:List (LI)}(G:Q.Nodup)(I:∀t∈Q,Vt aa t):Q.length<=(aa.map (·.st.toNat)).foldr (·*·) 1:=by
 rw[<-Qah];exact Qkv Q _ G λt ht=>Qi1 aa t (I t ht)
theorem X8:∀{es:List Ed},(es.Pairwise λx y=>x.1<y.1\/(x.1=y.1/\x.2.1<y.2.1))->∀{s v t:Int},(s,v,t)∈es->xu es s v=some t
 | [],_,_,_,_,h=>by cases h
 | e::es,I,s,v,t,h=>by
  obtain⟨h1,h2⟩:=Mb.1 I;rw[xu];rcases Ll.1 h with h|h
  ·subst h;rw[OZ ⟨rfl,rfl⟩]
  have J:=h1 _ h;rw[OY (λG=>by have a1:e.1=s:=G.1;have a2:e.2.1=v:=G.2;simp only[]at J;omega)];exact X8 h2 h
abbrev Qfu (a:Qz):Cs:=Xg a a.st.toNat 0 (Z3 a)
theorem cn0 (U:0<a.st):CnG a 0 (Z3 a):=by
 have I:0<a.st.toNat:=oa
 refine⟨⟨by simp[Z3],λs G=>by simp[Z3]at G;subst G;omega,by simp[Z3],λk V k1=>?_⟩,Lp _,⟨by simp[Z3,ZZ],by simp[Z3]⟩,by simp[Z3],by simp[Z3],λj Y=>oa⟩;by_cases ek:k=0
 ·subst ek;rw[OZ (by simp[Z3])];unfold ZZ Z3;simp[oQ,I]
 rw[OY (by simpa[Z3]using ek)];unfold Z3;have J:0≠k.toNat:=oa
 have O:k.toNat<a.st.toNat:=oa
 unfold ZZ;rw[LU,MR J];simp[O]
theorem QlX (I:QL a)(J:0<a.st):CnP a (Qfu a).ord/\YB a=⟨a.al,((Qfu a).ord.length:Int),(Qfu a).mk',(Qfu a).ed⟩/\(Qfu a).ord.length<=a.st.toNat:=by
 obtain⟨O,h1,h2⟩:=qY I a.st.toNat 0 (Z3 a) (cn0 J);have U:(Xg a a.st.toNat 0 (Z3 a)).ord.length<=a.st.toNat:=xM _ _ h1.nu.nd (λx hx=>oq (h1.nu.bd x hx));have hi':O=(Xg a a.st.toNat 0 (Z3 a)).ord.length:=by have:=h1.le;omega
 subst hi';have G:YB a=⟨a.al,((Xg a a.st.toNat 0 (Z3 a)).ord.length:Int),(Xg a a.st.toNat 0 (Z3 a)).mk',(Xg a a.st.toNat 0 (Z3 a)).ed⟩:=by unfold YB;rw[OY oa]
 refine⟨⟨h1.nu.nd,h1.nu.bd,h1.hd,by rw[G],by rw[G],?_,?_,h1.cl⟩,G,U⟩
 ·rw[G];exact h1.mk2
 rw[G];exact h1.ed
theorem Qpn {a:Qz}{ul:LI}:∀(f:Nat) (lf:Lf),V0 lf<f->(nxs a ul (Vj a ul f lf)).length=0
 | 0,_,h=>oa
 | f+1,lf,h=>by
  by_cases h1:(nxs a ul lf).length=0
  ·rw[Vj,OZ h1];exact h1
  rw[Qav h1];have:=Qdk h1;exact Qpn f _ oa
theorem QjC (a:Qz)(fb ul:LI):(nxs a ul (Xk a fb ul)).length=0:=by
 refine Qpn _ _ ?_;have h:=Qhj (lf0 a.st.toNat fb);have:(lf0 a.st.toNat fb).length=a.st.toNat:=by unfold lf0;rw[qb,Np]
 omega
theorem Qn7 {l:Lf}{x:Int}(h:lft (cut l x) s=true):lft l s=true/\x.toNat≠s.toNat:=by
 unfold lft cut at *;rw[LU,List.getElem?_set]at h;by_cases e:x.toNat=s.toNat
 ·rw[OZ e]at h;split at h <;> simp at h
 rw[OY e,<-LU]at h;exact⟨h,e⟩
theorem yP {s:Int}:∀(xs:LI) (l:Lf),lft (xs.foldl cut l) s=true->lft l s=true/\∀x∈xs,x.toNat≠s.toNat
 | [],l,h=>⟨h,λx hx=>(by cases hx)⟩
 | x::xs,l,h=>by
  obtain⟨h1,h2⟩:=yP xs (cut l x) h;obtain⟨I,J⟩:=Qn7 h1;refine⟨I,λy G=>?_⟩;rcases Ll.1 G with e|G
  ·rw[e];exact J
  exact h2 y G
theorem QgQ {a:Qz}{ul:LI}{s:Int}:∀(f:Nat) (l:Lf),lft (Vj a ul f l) s=true->lft l s=true
 | 0,l,h=>h
 | f+1,l,h=>by
  rw[Vj]at h;split at h
  ·exact h
  exact(yP _ _ (QgQ f _ h)).1
theorem Qqr {fb:LI}(h:lft (Xk a fb ul) s=true):∀x∈fb,x.toNat≠s.toNat:=(yP fb _ (QgQ _ _ h)).2
theorem Qn1 {e:Ed}{out:xD}(h:out≠[]):Js ul lf out e≠[]:=by
 unfold Js;split
 ·exact h
 split
 ·exact h
 simp
theorem Qdr {ul:LI}{lf:Lf}:∀(l:List Ed) {out:xD},out≠[]->l.foldl (Js ul lf) out≠[]
 | [],_,h=>h
 | _::l,_,h=>Qdr l (Qn1 h)
theorem Qds {ul:LI}{lf:Lf}{e:Ed}(h1:lft lf e.1=true)(h2:lft lf e.2.2=false)(G:e.2.1∈ul):∀(l:List Ed) (out:xD),e∈l->l.foldl (Js ul lf) out≠[]
 | x::l,out,h=>by
  rcases Ll.1 h with e1|h
  ·subst e1;refine Qdr l ?_;unfold Js;rw[OY (by rw[h1,h2];simp[G])];split
   ·rename_i I;intro J;rw[J]at I;cases I
   simp
  exact Qds h1 h2 G l _ h
theorem Qoa {fb:LI}{e:Ed}(J:e∈a.ed)(h1:lft (Xk a fb ul) e.1=true)(O:e.2.1∈ul):lft (Xk a fb ul) e.2.2=true:=by
 have G:=QjC a fb ul;cases h2:lft (Xk a fb ul) e.2.2 with
 | true=>rfl
 | false =>
  have U:lost a ul (Xk a fb ul)≠[]:=Qds h1 h2 O a.ed [] J;have I:(lost a ul (Xk a fb ul)).length≠0:=λh=>U (Lu h);unfold nxs at G;rw[OZ I,Lo]at G;exact O1 G I
def pst (v:Int)(a:Qz)(x:Int):Option Int:=if v∈a.al then xu a.ed x v else some x
theorem Yr (v:Int)(a:Qz)(aa:List Qz)(x:Int)(t:LI):QU v (a::aa) (x::t)=(pst v a x).bind λy=>(QU v aa t).map (y::·):=by
 rw[QU];unfold pst;by_cases h:v∈a.al
 ·rw[OY (not_not_intro h),OZ h];cases xu a.ed x v <;> rfl
 rw[OZ h,OY h];rfl
theorem XR (v:Int):∀(aa:List Qz) (t u:LI),t.length=aa.length->(QU v aa t=some u↔u.length=aa.length/\∀i (h:i<aa.length),pst v (aa[i]'h) (xh t i)=some (xh u i))
 | [],[],u,_=>by
  show some []=some u↔_;constructor
  ·intro h;rw[<-Option.some.inj h];exact⟨Z,λi h=>O1 h (NF i)⟩
  rintro⟨h,_⟩;rw[Lu h]
 | a::aa,x::t,u,hl=>by
  have O:t.length=aa.length:=by simpa using hl
  rw[Yr];constructor
  ·intro h;obtain⟨y,h1,h2⟩:=L7.1 h;obtain⟨G,U,I⟩:=LZ.1 h2;subst I;obtain⟨J,V⟩:=(XR v aa t G O).1 U;refine⟨by simp[J],λi hi=>?_⟩;cases i with
   | zero=>exact h1
   | succ i=>exact V i (ox hi)
  rintro⟨h1,h2⟩;cases u with
  | nil=>simp at h1
  | cons y G =>
   have I:QU v aa t=some G:=(XR v aa t G O).2 ⟨ox h1,λi hi=>h2 (i+1) (ox hi)⟩;have J:pst v a x=some y:=(h2 0 oe);rw[J,I];rfl
def nx (v:Int)(A:Nat->Qz)(x:Nat->Int)(i:Nat):Int:=(pst v (A i) (x i)).getD 0
theorem yj {v:Int}{t:LI}(hl:t.length=aa.length)(G:∀a∈aa,v∉a.al):QU v aa t=some t:=by
 refine(XR v _ _ _ hl).2 ⟨hl,λk I=>?_⟩;unfold pst;rw[OY (G _ (Lm I))]
theorem ZR {l:List (LI)}{s:Nat}(h:s<l.length):l.getD s []=l[s]'h/\l.getD s []∈l:=by
 have e:l.getD s []=l[s]'h:=by simp[oQ,h]
 exact⟨e,by rw[e];exact Lm h⟩
theorem QaF {l:List α}(I:l.Nodup)(hi:i<l.length)(G:j<l.length)(e:l[i]'hi=l[j]'G):i=j:=by
 have h:=Mn.1 I;rcases Nat.lt_trichotomy i j with h1|h1|h1
 ·exact O1 e (h i j hi G h1)
 ·exact h1
 exact O1 e.symm (h j i G hi h1)
def sord (B:Qz)(lf:Lf):LI:=(Qfu (rstr B lf)).ord
def SvR (B:Qz)(Q:List (LI))(lf:Lf)(q:LI)(y:Int):Prop :=
 ∃j s:Nat,y=(j:Int)/\j<(sord B lf).length/\ZZ (sord B lf) j=(s:Int)/\s<Q.length/\lft lf s=true/\Q.getD s []=q
theorem qu {B:Qz}(G:QL B)(I:0<B.st)(lf:Lf):CnP (rstr B lf) (sord B lf):=(QlX (Kp G lf) I).1
theorem SvR.J {aa:List Qz}{B:Qz}{Q:List (LI)}{lf:Lf}(ha:∀a∈aa,QL a)(hS:SyP aa B Q)(Y:QL B)(hp:0<B.st){q:LI}{y y' v:Int}(h:SvR B Q lf q y)(I:pst v (YB (rstr B lf)) y=some y'):
  ∃G,QU v aa q=some G/\SvR B Q lf G y':=by
 obtain⟨j,s,e0,h1,h2,J,h4,O⟩:=h;have hC:=qu Y hp lf;have he:(YB (rstr B lf)).al=evs aa:=hC.al.D hS.al;unfold pst at I;by_cases U:v∈(YB (rstr B lf)).al
 ·have hf:v∈evs aa:=by rw[<-he];exact U
  rw[OZ U,e0,hC.J h1 v,h2]at I;obtain⟨u,hu,e1⟩:=LZ.1 I;have hg:=YI hu;obtain⟨hk,hn⟩:=LB.1 (show((s:Int),v,u)∈B.ed.filter λe=>lft lf e.2.2 from hg);have hh:=hS.J J v;rw[X8 Y.edi hk,OZ hf,O]at hh;obtain⟨G,V,e2⟩:=LZ.1 hh.symm;have hto:=hS.to J hf (u:=G) (by rw[O];exact V);have hr:u∈sord B lf:=hC.cl j h1 ((s:Int),v,u) (by
   rw[h2];unfold QK;exact LB.2 ⟨hg,O2 Z⟩)
  have hj:=Md hr;refine⟨G,V,(sord B lf).idxOf u,Q.idxOf G,e1.symm,hj,?_,hto.1,by rw[e2];exact hn,hto.2⟩;rw[e2];show xh (sord B lf) ((sord B lf).idxOf u)=u;rw[<-Zo hj,List.getElem_idxOf]
 rw[OY U]at I;have V:q∈Q:=by rw[<-O];exact(ZR J).2
 exact⟨q,yj (hS.v q V).1 (λa hs hw=>U (by rw[he];exact(Xo ha v).2 ⟨a,hs,hw⟩)),j,s,by rw[<-e0];exact(Option.some.inj I).symm,h1,h2,J,h4,O⟩
theorem SvR.init {B:Qz}{Q:List (LI)}(hS:SyP aa B Q)(I:QL B)(J:0<B.st)(O:lft lf 0=true):SvR B Q lf (oI aa.length 0) 0:=by
 have hC:=qu I J lf;have G:0<Q.length:=by have:=hS.st;omega
 exact⟨0,0,Z,hC.hd.2,hC.hd.1,G,O,hS.hd G⟩
theorem QcK {B:Qz}{fb:LI}(h:(Ud B fb ul).st≠0):B.st≠0/\lft (Xk B fb ul) 0=true/\Ud B fb ul=YB (rstr B (Xk B fb ul)):=by
 unfold Ud jZ at *;split at h
 ·exact O1 Z h
 rename_i hc;rw[OY hc];refine⟨λe=>hc (.inl e),?_,Z⟩;cases hl:lft (Xk B fb ul) 0 with
 | true=>rfl
 | false=>exact O1 (.inr hl) hc
theorem Qna {P:LI->Prop}{t:LI}{v:Int}{z J:Sy}(h:syE aa i t z v=some J)(G:∀t∈z.tup,P t)(O:∀u,QU v aa t=some u->P u):∀t∈J.tup,P t:=by
 unfold syE at h;cases I:QU v aa t with
 | none=>rw[I]at h;rw[<-Option.some.inj h];exact G
 | some u =>
  rw[I]at h;simp only[]at h;split at h
  ·rw[<-Option.some.inj h];exact G
  split at h
  ·cases h
  rw[<-Option.some.inj h];intro t ht;rcases Lk.1 ht with ht|ht
  ·exact G t ht
  rw[Lc.1 ht];exact O u I
theorem QcO {P:LI->Prop}{aa:List Qz}{i:Nat}{t:LI}:∀(vs:LI) (z G:Sy),Vf aa i t vs z=some G->(∀t∈z.tup,P t)->(∀v∈vs,∀u,QU v aa t=some u->P u)->∀t∈G.tup,P t
 | [],z,G,h,I,_=>by rw[<-Option.some.inj (show some z=some G from h)];exact I
 | v::vs,z,G,h,I,J=>by
  rw[Vf]at h;obtain⟨O,h1,h2⟩:=L7.1 h;exact QcO vs O G h2 (Qna h1 I (J v Lj)) (λw U=>J w (Lh _ U))
theorem Qf8 {P:LI->Prop}{aa:List Qz}(J:∀t,P t->∀v∈evs aa,∀u,QU v aa t=some u->P u):∀(f i:Nat) (z G:Sy),syL aa f i z=some G->(∀t∈z.tup,P t)->∀t∈G.tup,P t
 | 0,_,z,G,h,I=>by rw[<-Option.some.inj (show some z=some G from h)];exact I
 | f+1,i,z,G,h,I=>by
  rw[syL]at h;split at h
  ·rename_i hi;obtain⟨O,h1,h2⟩:=L7.1 h;have U:(ZP aa i (Jk z i) z).tup=z.tup:=by unfold ZP;split <;> rfl
   have V:P (Jk z i):=I _ (ZR hi).2;exact Qf8 J f (i+1) O G h2 (QcO _ _ _ h1 (by rw[U];exact I) (J _ V))
  rw[<-Option.some.inj h];exact I
theorem Qjd {P:LI->Prop}{z:Qz×List (LI)}(h:xw aa=some z)(G:P (oI aa.length 0))(I:∀t,P t->∀v∈evs aa,∀u,QU v aa t=some u->P u):∀t∈z.2,P t:=by
 unfold xw at h;split at h
 ·rw[<-Option.some.inj h];intro t ht;cases ht
 obtain⟨s,h1,h2⟩:=LZ.1 h;rw[<-h2];exact Qf8 I _ _ _ _ h1 (λt ht=>by rw[Lc.1 ht];exact G)
abbrev i2 (p:Int×Int):LV:=[sS p.1,sS p.2]
abbrev i5 (a:ByteArray)(b c e:Bool)(i:Int):LV:=[.string a,.bool b,.bool c,.bool e,sS i]
open Go.ChangeShapes Go.WideShapes Go.RowKit
section
variable {H:Type}{enc:TypeId×O7->H}
theorem Qa0 (hl:laidOutB P=true){W W':O6}(hS:sW W W'){sp:Nat->Bool}:∀{ts:List TypeId}{vs:LV}{ds:List (DataW H)}{ps:List MemPlace},
  (ts.all λt=>P.readableRec t && decide (t<P.types.size))=true->DataW.TrodAll enc P W 0 (λ_=>true) true ts vs ds ps->(∀x∈ps,x.block<↑W)->(∀x∈ps,sp x.block=true)->DataW.TrodAll enc P W' 0 sp true ts vs ds ps
 | [],vs,ds,ps,_,h,_,_=>by
  obtain⟨rfl,rfl,rfl⟩:=trodAll_nil h;exact trodAll_mk0
 | t::ts,vs,ds,ps,G,h,I,hsp=>by
  obtain⟨v,J,d,ds1,a,b,rfl,rfl,rfl,h1,h2⟩:=trodAll_cons h;simp only[Oh,oK,decide_eq_true_eq]at G;have hb:Below ↑W W W':=hS.below;refine trodAll_cons_mk (WideElems.Trod_stays hl G.1.1 G.1.2 h1 (λx hx=>hb.same (I x (LG _ hx))) (λx hx=>hsp x (LG _ hx))) ?_;exact Qa0 hl hS (ox G.2) h2 (λx hx=>I x (Mv _ hx)) (λx hx=>hsp x (Mv _ hx))
theorem QkN {f:Func}{s:ChangeSpec}{apart fresh handsOn again:Bool}{W:O6}{args:Array O7}{ds gs:List (DataW H)}{before:List MemPlace}{tb:TypeId}
  (hl:laidOutB P=true) (hj:(f.params.toList.all λt=>P.readableRec t && decide (t<P.types.size))=true) (O:f.resultTypes=#[tb]) (U:P.underlying tb=some .bool) (V:s.vars=[])
  (G:s.fn H (ds++gs)={ results:=[.lit (.bool true)],args:=ds })
  (I:DataW.Whole enc P f.params.toList s.vars apart W args.toList ds gs before) (hS:sW W W'):s.post enc P f apart fresh handsOn again W args (.bool true) W':=by
 have J:=I.lt;have hk:=I;obtain⟨p,q,hA,Y,rfl,hz,hn⟩:=I;rw[V]at Y;obtain⟨rfl,rfl⟩:=trodVars_none Y;rw[LK]at *;have he:∀sp:Nat->Bool,(∀x∈p,sp x.block=true)->DataW.TrodAll enc P W' 0 sp true f.params.toList args.toList ds p:=λsp hsp=>Qa0 hl hS hj hA J hsp;have hf:∀(b:Nat) (sp:Nat->Bool) (hd:Bool),DataW.TrodAll enc P W' b sp hd f.resultTypes.toList ((Value.bool true).resultList f.resultTypes.size) [.lit (.bool true)] []:=λb sp hd=>by
  rw[O];exact trodAll_mk1 (shut_bool U true)
 have hb:Below ↑W W W':=hS.below;have hg:∀sp:Nat->Bool,DataW.TrodVars enc P W' sp s.vars ([]:List (DataW H)) []:=λsp=>by rw[V];rfl
 have hm:(s.fn H ds).results=[.lit (.bool true)]:=by rw[G]
 have ho:(s.fn H ds).args=ds:=by rw[G]
 have hq:(s.fn H ds).vars=[]:=by rw[G]
 have hok:∀(j:Nat) (t:TypeId) (r:O7),f.resultTypes[j]?=some t->((Value.bool true).resultList f.resultTypes.size)[j]?=some r->Value.okWide P W' .any 0 t r:=ok_one O Z (okWide_bool_mk U true);refine⟨ds,[],p,[],p,[],hk,?_,?_,?_,?_,λ_=>⟨hok,[.lit (.bool true)]++ds,[],([]++p)++[],⟨[]++p,[],?_,?_,Z,?_,?_⟩,?_⟩⟩
 ·rw[LK,hm];exact hf _ _ _
 ·rw[LK,ho];exact he _ (λx hx=>ox (J x hx))
 ·rw[LK,hq];exact hg _
 ·exact World.keptBut_mono (λ_ f=>f.elim) (hb.frame (λ_=>False))
 ·exact trodAll_append (he _ (λ_ _=>Z)) (hf _ _ _)
 ·exact hg _
 ·intro b off hp;have hh:MemPlace.cell b off∈p:=by simpa using hp
  rw[hb.frozen (p:=⟨b,off,none⟩) (J _ hh)];exact hz b off hh
 ·intro ha;have:=hn ha;simpa using this
 intro x hx _;simpa using hx
end
open Go.ChangeShapes Go.WideShapes Go.RowKit Go.Lg
theorem QfA:∀(l:LV),(∀v∈l,∃n:Nat,v=.int .u8 (n:Int)/\n<256)->∃ns:LN,l=bys ns/\ns.length=l.length/\∀n∈ns,n<256
 | [],_=>⟨[],Z,Z,oe⟩
 | v::l,h=>by
  obtain⟨n,rfl,I⟩:=h v Lj;obtain⟨ns,h1,h2,J⟩:=QfA l (λv O=>h v (Lh _ O));refine⟨n::ns,by rw[h1];rfl,by simp[h2],λm G=>?_⟩;rcases Ll.1 G with rfl|G
  ·exact I
  exact J m G
theorem QpO {n:Int}(h:(Lit.int .u8 n).wf=true):∃m:Nat,n=m/\m<256:=by
 simp only[Lit.wf,oK,decide_eq_true_eq]at h;rw[show IntKind.u8.min=0 from rfl,show IntKind.u8.max=255 from rfl]at h;exact⟨n.toNat,oa,oa⟩
theorem Qp0 {b:Nat}{s:TypeId×Nat}(h:w.shape? b=some s):b<w.heap.size:=by
 unfold World.shape? at h;cases hb:w.heap[b]? with
 | none=>simp[hb]at h
 | some o=>exact(LM.1 hb).1
theorem Qot {a:Addr}{e:TypeId}(h:w.has P .any base a e n):a.block<w.heap.size:=by
 obtain⟨_,_,row,cells,h1,_⟩:=h;exact Qp0 h1
theorem Qng {t e:TypeId}{a:Addr}{c:Nat}(ht:P.underlying t=some (.slice e))(h:Cell.okWide P w .any base t (.slice (some a) n c)):a.block<w.heap.size:=by
 simp only[Cell.okWide,Cell.ok,ht]at h;exact Qot h.2.2
theorem QkD {α:Type}{p:Nat->α->Prop}:∀(n:Nat),(∀i,i<n->∃e,p i e)->∃l:List α,l.length=n/\∀i (h:i<l.length),p i (l[i]'h)
 | 0,_=>⟨[],Z,λi h=>by simp at h⟩
 | n+1,h=>by
  obtain⟨l,h1,h2⟩:=QkD n (λi hi=>h i oa);obtain⟨e,I⟩:=h n oa;refine⟨l++[e],by simp[h1],λi hi=>?_⟩;by_cases G:i<l.length
  ·rw[L8 G];exact h2 i G
  have:i=n:=by simp at hi;omega
  subst this;rw[M5 oa];simpa[h1]using I
theorem yM {α:Type}{f:α->Option O7}:∀{L:List α}{l:LV},L.mapM f=some l->l.length=L.length/\∀(i:Nat) (a:α),L[i]?=some a->f a=l[i]?
 | [],l,h=>by
  simp at h;subst h;exact⟨Z,λi a h=>by simp at h⟩
 | x::L,l,h=>by
  simp only[List.mapM_cons,Option.bind_eq_bind,Option.pure_def,Option.bind_eq_some_iff]at h;obtain⟨v,G,O,h1,h2⟩:=h;cases h2
  obtain⟨I,J⟩:=yM h1;refine⟨by simp[I],λi a hi=>?_⟩;cases i with
  | zero=>simp at hi;subst hi;simpa using G
  | succ i=>simpa using J i a (ox hi)
def kT (P:O9)(k:IntKind):Nat->TypeId->Bool
 | 0,_=>false
 | m+1,t=>match P.underlying t with
  | some (.int k')=>k' == k
  | some (.array n e)=>kT P k m e && decide (0<P.cellsOf e) && decide (P.cellsOf t=n*P.cellsOf e)
  | some (.struct fs)=>(oM (P.cellsOf t)).all λj=>fs.toList.any λf=>kT P k m f.type && decide (f.offset<=j/\j<f.offset+P.cellsOf f.type)
  | _=>false
theorem Qce {o:Nat}{c:O7}(h:cs[j]?=some c)(h1:o<=j)(h2:j<o+n):c∈(cs.drop o).take n:=by
 refine Me (i:=j - o) ?_;rw[L6,OZ oa,MT,show o+(j - o)=j by omega];exact h
section
variable {H:Type}{enc:TypeId×O7->H}{W:O6}{b0:Nat}{sp:Nat->Bool}{held:Bool}
theorem UX {k:IntKind}:∀(m:Nat) {t:TypeId}{cs:LV}{fuel:Nat}{x:DataW H×List MemPlace},kT P k m t=true->DataW.trod enc P W b0 sp held fuel t cs=some x->∀c∈cs,∃n,c=.int k n/\(Lit.int k n).wf=true
 | 0,_,_,_,_,h,_,_,_=>by cases h
 | m+1,t,cs,fuel,x,h,J,c,hc=>by
  unfold kT at h;obtain⟨j,U,V⟩:=LQ hc;have O:cs[j]?=some c:=by rw[LE U,V]
  split at h
  ·rename_i k' G;have Y:k'=k:=by simpa using h
   subst Y;obtain⟨n,h1,_,h2⟩:=DataW.trod_int G J;rw[h1]at hc;exact⟨n,Lc.1 hc,h2⟩
  ·rename_i n e G;simp only[oK,decide_eq_true_eq]at h;obtain⟨⟨h1,h2⟩,h3⟩:=h;obtain⟨xs,m',_,_,hl,ha,hx⟩:=DataW.trod_array G J;have he:=Nat.div_add_mod j (P.cellsOf e);have ho:=Nat.mod_lt j h2;have hi:j / P.cellsOf e<n:=by
    refine(Nat.div_lt_iff_lt_mul h2).2 ?_;omega
   have I:=hx (j / P.cellsOf e) hi;rw[LE (show j / P.cellsOf e<xs.length by omega)]at I;rw[Nat.mul_comm]at he;exact UX m h1 I c (Qce O oa oa)
  ·rename_i fs G;obtain⟨xs,m',_,_,hl,ha,hx⟩:=DataW.trod_struct G J;obtain⟨f,hg,h2⟩:=MH.1 (Mo.1 h j (ME.2 oa));simp only[oK,decide_eq_true_eq]at h2;obtain⟨i,hi,hh⟩:=LQ hg;have hm:i<fs.size:=by simpa using hi
   have hn:fs[i]?=some f:=by rw[MS hm,<-hh];simp
   have I:=hx i f hn;rw[LE (show i<xs.length by omega)]at I;exact UX m h2.1 I c (Qce O h2.2.1 h2.2.2)
  cases h
theorem VO {k:IntKind}{fs:Array Field}{xs:List (DataW H×List MemPlace)}{J:Nat}(U:xs.length=fs.size)
  (hx:∀(i:Nat) (f:Field),fs[i]?=some f->DataW.trod enc P W b0 sp held J f.type ((cs.drop f.offset).take (P.cellsOf f.type))=xs[i]?)  {f:Field} {c:O7} (G:fs[i]?=some f) (O:kT P k m f.type=true) (h1:f.offset<=j) (h2:j<f.offset+P.cellsOf f.type) (hc:cs[j]?=some c):
  ∃n,c=.int k n/\(Lit.int k n).wf=true:=by
 have I:=hx i f G;have hi:i<fs.size:=(LM.1 G).1;rw[LE (show i<xs.length by omega)]at I;exact UX m O I c (Qce hc h1 h2)
theorem QeE {c:O7}(h:∃n,c=.int .u8 n/\(Lit.int .u8 n).wf=true):∃n:Nat,c=.int .u8 (n:Int)/\n<256:=by
 obtain⟨n,rfl,h1⟩:=h;obtain⟨m,rfl,h2⟩:=QpO h1;exact⟨m,Z,h2⟩
end
theorem Qsd {W:O6}{ts:List TypeId}{cs:Array O7}(h:∀(i:Nat) (v:O7),cs[i]?=some v->∃u,ts[i % ts.length]?=some u/\Cell.okWide P W .any base u v)(i:Nat)(t:TypeId)(v:O7)(I:cs[i]?=some v)(ht:ts[i % ts.length]?=some t):Cell.okWide P W .any base t v:=by
 obtain⟨u,G,k⟩:=h i v I;rw[ht]at G;cases G
 exact k
theorem QqT {H:Type}{enc:TypeId×O7->H}{W:O6}{b0:Nat}{sp:Nat->Bool}{held:Bool}{fs:Array Field}{xs:List (DataW H×List MemPlace)}
  (h:∀(i:Nat) (f:Field),fs[i]?=some f->DataW.trod enc P W b0 sp held m f.type ((cs.drop f.offset).take (P.cellsOf f.type))=xs[i]?) (i:Nat) {f:Field} {o:Nat} {c:O7} (G:fs[i]?=some f) (ht:f.type=t) (I:f.offset=o) (hc:P.cellsOf t=1) (J:(cs.drop o).take 1=[c]) (hi:i<xs.length):
  DataW.trod enc P W b0 sp held m t [c]=some (xs[i]'hi):=by
 have e:=h i f G;rw[ht,I,hc,J]at e;rw[e];simp[hi]
theorem QrV {W:O6}{l:List (String×DataW Unit)}{a b:String×DataW Unit}(hl:l=[a,b,("internal/strconv.uint64pow10",Lib.tabData .u64 Lib.pow10Tab)]) (h:laidMetH sV l W) (G:(l.all λx=>x.2.handleName?.isNone)=true):Tb W:=by
 rw[Go.MakeChecks.laidMetH_plain _ _ _ G,hl]at h;exact Lib.tabIs_of_head (n:=20) (g:=0) od (t:=410) od od (e:=319) od od od h.tail.tail
structure PwV where
 ns:LN
 ad:Option Addr
 n:Nat
 cp:Nat
 f0:Int
 f1:Int
 f2:Int
 bd:Int
def PwV.pl (l:PwV)(rs:List X4V):PlV:=⟨l.ns,.slice l.ad l.n l.cp,rs,l.f0,l.f1,l.f2,l.bd⟩
abbrev Z6 (l:PwV):LV:=bys l.ns++[.slice l.ad l.n l.cp,.int .i8 l.f0,.int .i8 l.f1,.int .i8 l.f2,.int .i8 l.bd]
structure PwA (w:O6)(l:PwV):Prop where
 n:l.ns.length=147
 b:∀n∈l.ns,n<256
 f0:i8R l.f0
 f1:i8R l.f1
 f2:i8R l.f2
 bd:i8R l.bd
 r:l.n<=4->∃rs:List X4V,rs.length=l.n/\Zw [] ↑w (.slice l.ad l.n l.cp) l.n 4 (rs.flatMap Xm)
theorem PwA.pl {w w':O6}{l:PwV}(h:PwA w l)(G:sW w w')(I:l.n<=4):∃rs,PlA [] ↑w' (l.pl rs)/\rs.length=l.n:=by
 obtain⟨rs,h1,h2⟩:=h.r I;exact⟨rs,⟨h.n,h.b,by show Zw _ _ _ rs.length 4 _;rw[h1];exact h2.I G,h.f0,h.f1,h.f2,h.bd⟩,h1⟩
theorem Qr3 {l:PwV}(h:l.ns.length=147):(Z6 l)[147]?=some (.slice l.ad l.n l.cp):=by
 show(Z6 l)[147+0]?=_;rw[Z6,MA (by rw[XI];omega),XI,h,Nb];rfl
theorem QgT {c:O7}(h:∃n,c=.int .i8 n/\(Lit.int .i8 n).wf=true):∃n:Int,c=.int .i8 n/\i8R n:=by
 obtain⟨n,rfl,h⟩:=h;simp only[Lit.wf,oK,decide_eq_true_eq]at h;rw[show IntKind.i8.min=-128 from rfl,show IntKind.i8.max=127 from rfl]at h;exact⟨n,Z,oa⟩
def QpA (P:O9)(fs:Array Field)(n:Nat):Bool:=(oM n).all λj=>fs.toList.any λf=>kT P .u8 5 f.type && decide (f.offset<=j/\j<f.offset+P.cellsOf f.type)
section
variable {H:Type}{enc:TypeId×O7->H}{W:O6}{b0:Nat}{sp:Nat->Bool}{held:Bool}
theorem Qme {fs:Array Field}{xs:List (DataW H×List MemPlace)}(h:QpA P fs n=true)(G:xs.length=fs.size)
  (hx:∀(i:Nat) (f:Field),fs[i]?=some f->DataW.trod enc P W b0 sp held m f.type ((cs.drop f.offset).take (P.cellsOf f.type))=xs[i]?)  {c:O7} (I:j<n) (hc:cs[j]?=some c):∃k:Nat,c=.int .u8 (k:Int)/\k<256:=by
 obtain⟨f,J,h2⟩:=MH.1 (Mo.1 h j (ME.2 I));simp only[oK,decide_eq_true_eq]at h2;obtain⟨i,hi,O⟩:=LQ J;have U:i<fs.size:=by simpa using hi
 have V:fs[i]?=some f:=by rw[MS U,<-O];simp
 exact QeE (VO G hx V h2.1 h2.2.1 h2.2.2 hc)
theorem QsM {t e:TypeId}{c:O7}{fuel:Nat}{x:DataW H×List MemPlace}(ht:P.underlying t=some (.slice e))(he:kT P .u8 5 e=true)(hc:P.cellsOf e=4)
  (hok:Cell.okWide P W .any base t c) (hg:DataW.trod enc P W b0 sp held fuel t [c]=some x):∃a n cp,c=.slice a n cp/\(n<=12->∃u:List X4V,u.length=n/\Zw [] ↑W (.slice a n cp) n 4 (u.flatMap Xm)):=by
 rcases DataW.trod_slice ht hg with⟨G,_⟩|⟨a,len,cap,elems,rest,m,_,G,_,_,hl,_,hn,hh,_,_⟩
 ·simp at G;subst G;exact⟨none,0,0,Z,λ_=>⟨[],Z,Zw.nil _ _ _⟩⟩
 simp at G;subst G;refine⟨some a,len,cap,Z,λho=>?_⟩;have each:∀i,i<len->∃d:X4V,∀r v,(Xm d)[r]?=some v->W.cell? (a.add (i*4+r))=some v:=by
  intro i hi;have O:=hh i hi;rw[hc,LE (show i<elems.length by omega)]at O;obtain⟨cs,G,hk⟩:=L7.1 O;obtain⟨ns,h1,h2,J⟩:=QfA cs (λv I=>QeE ((UX 5 he hk) v I));unfold World.cells? at G;split at G
  ·have hp:cs.length=4:=by
    simpa using(yM G).1
   refine⟨⟨ns,oa,J⟩,λr v I=>?_⟩;have U:cs[r]?=some v:=by rw[h1];exact I
   have hm:r<4:=by have:=(Mm.1 U).1;omega
   have V:=(yM G).2 r r (by simp[hm]);rw[Lg.Addr.add_add,U]at V;exact V
  cases G
 obtain⟨u,Y,hu⟩:=QkD len each;refine⟨u,Y,?_⟩;have ha:(u.flatMap Xm).length=u.length*4:=Go.Lg.Vy Xm 4 yg u;refine⟨by rw[ha,Y],oa,.inr ⟨a,cap,rfl,oa,λ_ _=>oe,λ_ _=>Qng ht hok,λj v I=>?_⟩⟩;have hj:j<u.length*4:=by
  rw[<-ha];exact(Mm.1 I).1
 have hi:j / 4<u.length:=oa
 have hf:j=j / 4*4+j % 4:=oa
 have J:(Xm (u[j / 4]'hi))[j % 4]?=some v:=by
  rw[<-(Jv Xm 4 yg u (j / 4) hi),L6,OZ (Nat.mod_lt _ oa),MT,<-hf];exact I
 rw[<-KG];have:=hu (j / 4) hi (j % 4) v J;rw[<-hf]at this;exact this
theorem QiD {v:O7}{d:DataW H}{ps:List MemPlace}{tp te:Nat}{fs:Array Field}{V O U:Field}(hu:P.underlying t=some (.struct fs))(ha:(P.cellTypes P.depth t).map (λts=>(ts.length,ts[147]?))=some (152,some tp))(hc:P.cellsOf t=152)
  (g7:fs[7]?=some V) (Y:fs[8]?=some O) (g9:fs[9]?=some U) (hn:V.type=tp) (o7:V.offset=147) (o8:O.offset=148) (o9:U.offset=151) (c7:P.cellsOf tp=1) (c8:P.cellsOf O.type=3) (c9:P.cellsOf U.type=1)
  (kb:QpA P fs 147=true) (k8:kT P .i8 5 O.type=true) (k9:kT P .i8 5 U.type=true) (ho:P.underlying tp=some (.slice te)) (hp:kT P .u8 5 te=true) (hq:P.cellsOf te=4)
  (he:Value.okWide P W .any base t v) (h:DataW.Trod enc P W b0 sp held t v d ps):∃l:PwV,v=sT (Z6 l)/\PwA W l:=by
 simp only[Value.okWide,hu]at he;obtain⟨cs,rfl,hg,ts,hr,_,hs⟩:=he;rw[hr]at ha;have hh:=Option.some.inj ha;have hv:ts.length=152:=O0 Prod.fst hh;have hw:ts[147]?=some tp:=O0 Prod.snd hh;rw[hc]at hg;obtain⟨l⟩:=cs;have hl:l.length=152:=hg;obtain⟨fuel,hf⟩:=h;obtain⟨xs,m,_,_,_,I,hy⟩:=DataW.trod_struct hu hf;have G:∀(i:Nat) (f:Field),fs[i]?=some f->DataW.trod enc P W b0 sp held m f.type ((l.drop f.offset).take (P.cellsOf f.type))=xs[i]?:=hy;have h6:7<fs.size:=(LM.1 g7).1;have g0:∀c∈l.take 147,∃n:Nat,c=.int .u8 (n:Int)/\n<256:=λc hm=>by
  obtain⟨j,hj,hk⟩:=LQ hm;have hz:j<147:=by simp at hj;omega
  have h0:l[j]?=some c:=by
   rw[Ng]at hk;rw[LE oa,hk]
  exact Qme kb I G hz h0
 obtain⟨ns,e1,e2,e3⟩:=QfA _ g0;have h5:ns.length=147:=by rw[e2];simp;omega
 have J:∀j,j<152->∃c,l[j]?=some c:=λj hj=>⟨l[j]'oa,LE oa⟩;obtain⟨x1,q1⟩:=J 147 oa;obtain⟨x2,q2⟩:=J 148 oa;obtain⟨x3,q3⟩:=J 149 oa;obtain⟨x4,q4⟩:=J 150 oa;obtain⟨x5,q5⟩:=J 151 oa;have hld:l.drop 147=[x1,x2,x3,x4,x5]:=by
  apply Nw;intro i;rw[MT]
  match i with
  | 0=>exact q1
  | 1=>exact q2
  | 2=>exact q3
  | 3=>exact q4
  | 4=>exact q5
  | i+5=>rw[Mk oa];rfl
 obtain⟨y2,rfl,z2⟩:=QgT (VO I G Y k8 oa oa q2);obtain⟨y3,rfl,z3⟩:=QgT (VO I G Y k8 oa oa q3);obtain⟨y4,rfl,z4⟩:=QgT (VO I G Y k8 oa oa q4);obtain⟨y5,rfl,z5⟩:=QgT (VO I G g9 k9 oa oa q5);obtain⟨a,n,cp,rfl,hP⟩:=QsM ho hp hq (Qsd hs 147 tp x1 (ox q1) (by rw[hv];exact hw)) (QqT (c:=x1) G 7 g7 hn o7 c7 (by rw[hld];rfl) oa);refine⟨⟨ns,a,n,cp,y2,y3,y4,y5⟩,?_,h5,e3,z2,z3,z4,z5,λh3=>hP (by have h4:n<=4:=h3;omega)⟩;show Value.agg l.toArray=sT (bys ns++_);rw[<-e1,<-hld,ML]
end
theorem QsN {H:Type}{enc:TypeId×O7->H}{W:O6}{b0:Nat}{sp:Nat->Bool}{held:Bool}{v:O7}{d:DataW H}{ps:List MemPlace}(G:Value.okWide sV W .any base 36 v)(h:DataW.Trod enc sV W b0 sp held 36 v d ps):
  ∃l:PwV,v=sT (Z6 l)/\PwA W l :=
 QiD underlying36 (tp:=32) od od Z Z Z Z Z Z Z od od od od od od underlying32 od od G h
theorem Qmu {l:PwV}(h:PwA w l):QT sV 11 [sT (Z6 l)] w λr w'=>r=.bool (decide (l.n<=4))/\sW w w':=by
 refine Zn func11 ?_;refine Qc<|Zd (Z6 l) λJ O G U I=>Qb<|Qc<|Qs Z I Z (Qr3 h.n)<|x (Qaz Z)<|x (Jl Z Z)<|Qb<|Qk ⟨[_],Lb,?_,G⟩;exact O0 Value.bool (decide_eq_decide.2 oa)
theorem Qpw {l:List α}{k:Nat}(h:k<l.length)(d:α):l.getD k d=l[k]'h:=by simp[oQ,h]
theorem Qfh {l:LI}(h:YD l):l.Nodup:=List.Pairwise.imp (λh=>oa) h
theorem jr (h:D25 c):(∀a∈xj c.co++xj c.rq,GdA a):=λa G=>by
 rcases Lk.1 G with G|G
 ·obtain⟨x,hx,rfl⟩:=Lt.1 G;exact(h.co x hx).2.1
 obtain⟨x,hx,rfl⟩:=Lt.1 G;exact(h.rq x hx).2.1
theorem YX (l:List Jz):(xj l).length=l.length:=by unfold xj;rw[Lo]
theorem U1 (h:∀a∈aa,GdA a)(hl:aa.length<=5):K9 aa=0/\∃z,xw aa=some z:=by
 refine⟨?_,QcJ (k:=3) (λa G=>(h a G).ok) (λa G=>(h a G).s) ?_⟩
 ·unfold K9;rw[OY oa];exact(qc _).2 λa G=>(h a G).ok
 exact LA (Nt oa hl) oh
theorem QoN (h:D25 c):∃pl ps sa ts,xw (xj c.co)=some (pl,ps)/\xw (xj c.co++xj c.rq)=some (sa,ts)/\YY c=0:=by
 have J:=h.c3;have h2:=h.r2;have G:=jr h;obtain⟨k1,⟨pl,ps⟩,e1⟩:=U1 (aa:=xj c.co) (λa I=>G a (LG _ I)) (by rw[YX];omega);obtain⟨k2,⟨sa,ts⟩,e2⟩:=U1 (aa:=xj c.co++xj c.rq) G (by rw[Le,YX,YX];omega);refine⟨pl,ps,sa,ts,e1,e2,?_⟩;unfold YY;rw[OY (not_not_intro h.ck),OY (not_not_intro k1),e1];simp only[];rw[OY (not_not_intro k2),e2]
def gNm (c:ZO):Nat:=c.co.length+c.rq.length
abbrev mB (c:ZO)(m:Mdl):Qz:=(spc (mcC c m)).a
abbrev mL (c:ZO)(m:Mdl):Lf:=Xk (mB c m) (fbs (spc (mcC c m))) (unc c.ev)
theorem QeI {v:Int}{bb:List Qz}{t:LI}(hl:t.length=(aa++bb).length)(h:QU v (aa++bb) t=some u):QU v aa (t.take aa.length)=some (u.take aa.length):=by
 obtain⟨h1,h2⟩:=(XR v _ _ u hl).1 h;rw[Le]at h1 hl;have I:∀(l:LI) k,k<aa.length->xh (l.take aa.length) k=xh l k:=λl k G=>by
  unfold xh;rw[LU,List.getElem?_take_of_lt G,<-LU]
 refine(XR v _ _ _ (by rw[LH];omega)).2 ⟨by rw[LH];omega,λk G=>?_⟩;have J:=h2 k (by rw[Le];omega);rw[L8 G]at J;rw[I t k G,I u k G];exact J
theorem QqZ (G:QL a)(x v:Int):v∈enb a x↔(xu a.ed x v).isSome=true:=by rw[QoI G,yJ G]
theorem QjA {pl:Qz}{k:Int}{t:LI}{r:Rsn}(h:rsn c pl k i t=some r):r.st=(i:Int)/\(r.kd≠3->(vio c (t.take c.co.length)).isSome=true):=by
 unfold rsn at h;split at h
 ·rename_i e;cases h;exact⟨Z,λ_=>by rw[e];rfl⟩
 split at h
 ·cases h;exact⟨Z,λe=>O1 Z e⟩
 cases h
theorem Qgm {c:ZO}{rs:LI}{v:Int}(G:0<=rfr v 0 c.rq rs)(hc:(c.ev.getD v.toNat ⟨.empty,false,false,false,0⟩).co=false):∀l:LI,v∈l->(rfd c rs l).isSome=true
 | w::l,h=>by
  rw[rfd];split
  ·rfl
  rename_i h1;rcases Ll.1 h with e|h
  ·subst e;exact O1 ⟨G,hc⟩ h1
  exact Qgm G hc l h
theorem Qk4 {e:Ed}{s:Nat}(G:e∈es)(h:e.2.2=(s:Int)):e.1∈YG es s:=by
 unfold YG;exact Lt.2 ⟨e,LB.2 ⟨G,O2 h⟩,Z⟩
theorem Qht {lf:Lf}:∀(l:LI) (i k:Nat),k<l.length->lf.getD (i+k) false=true->xh l k<0->((i+k:Nat):Int)∈JN lf i l
 | [],_,k,h,_,_=>by simp at h
 | d::l,i,0,_,h1,h2=>by
  have G:d<0:=h2;rw[JN,OZ ⟨ox h1,G⟩];simp
 | d::l,i,k+1,h,h1,h2=>by
  have G:=Qht l (i+1) k (ox h) (by rw[show i+1+k=i+(k+1) by omega];exact h1) h2;rw[show i+1+k=i+(k+1) by omega]at G;rw[JN];split
  ·exact Lh _ G
  exact G
structure DsQ (a:Qz)(lf:Lf)(z:LI×LI):Prop where
 q:∀k,(h:k<z.2.length)->lft lf (z.2[k]'h)=true/\(z.2[k]'h∈a.mr\/∃j,∃hj:j<z.2.length,j<k/\∃v,(z.2[k]'h,v,z.2[j]'hj)∈a.ed)
 r:∀i:Nat,0<=xh z.1 i->i<z.1.length->(i:Int)∈z.2
theorem DsQ.add {z:LI×LI}{x y:Int}(h:DsQ a lf z)(hi:i<z.2.length)(hx:z.2[i]'hi=x)(hy:0<=y)(V:∃v,(y,v,x)∈a.ed):
  DsQ a lf (VZ lf x z y)/\∃hi':i<(VZ lf x z y).2.length,(VZ lf x z y).2[i]'(hi')=x:=by
 unfold VZ;by_cases hc:lft lf y=true/\xh z.1 y.toNat<0
 ·rw[OZ hc];refine⟨⟨λk Y=>?_,λj G O=>?_⟩,by simp;omega,by simp only[];rw[L8 hi];exact hx⟩
  ·simp only[oO,oL]at Y;by_cases e:k=z.2.length
   ·subst e;simp only[List.getElem_append_right (OG _),OT,On];refine⟨hc.1,.inr ⟨i,by simp;omega,hi,?_⟩⟩;obtain⟨v,I⟩:=V;exact⟨v,by rw[L8 hi,hx];exact I⟩
   have U:k<z.2.length:=oa
   simp only[List.getElem_append_left U];obtain⟨h1,h2⟩:=h.q k U;refine⟨h1,h2.imp id ?_⟩;rintro⟨j,G,ha,v,I⟩;exact⟨j,by simp;omega,ha,v,by rw[L8 G];exact I⟩
  simp only[List.length_set]at O;by_cases e:j=y.toNat
  ·refine Mv _ ?_;rw[Lc];omega
  refine LG _ (h.r j ?_ O);have J:0<=xh (z.1.set y.toNat (xh z.1 x.toNat+1)) j:=G;unfold xh at J ⊢;rw[LU,MR (Ne.symm e),<-LU]at J;exact J
 rw[OY hc];exact⟨h,hi,hx⟩
theorem DsQ.adds {a:Qz}{lf:Lf}{x:Int}{i:Nat}:∀(ys:LI) (z:LI×LI),DsQ a lf z->(hi:i<z.2.length)->z.2[i]'hi=x->(∀y∈ys,0<=y/\∃v,(y,v,x)∈a.ed)->DsQ a lf (ys.foldl (VZ lf x) z)
 | [],_,h,_,_,_=>h
 | y::ys,z,h,hi,hx,G=>by
  obtain⟨h2,hi',I⟩:=(h.add hi hx (G y Lj).1 (G y Lj).2);exact DsQ.adds ys _ h2 hi' I (λq J=>G q (Lh _ J))
theorem QlH {a:Qz}(O:QL a){lf:Lf}:∀(f i:Nat) (z:LI×LI),DsQ a lf z->(∀x∈z.2,0<=x)->DsQ a lf (dsL a.ed lf f i z)
 | 0,_,z,h,_=>h
 | f+1,i,z,h,U=>by
  rw[dsL];split
  ·rename_i hi;have hx:z.2[i]'hi=xh z.2 i:=Zo hi;have V:=U _ (Lm hi);rw[hx]at V;refine QlH O f (i+1) _ (h.adds (i:=i) _ _ hi hx (λy G=>?_)) (λx Y=>?_)
   ·obtain⟨e,J,h1,h2⟩:=VM G;have ha:=O.ed e J;rw[show(((xh z.2 i).toNat:Nat):Int)=xh z.2 i by omega]at h2;exact⟨oa,e.2.1,by rw[<-h1,<-h2];exact J⟩
   have key:∀(ys:LI) (z:LI×LI),(∀y∈ys,0<=y)->(∀x∈z.2,0<=x)->∀x∈(ys.foldl (VZ lf (xh z.2 i)) z).2,0<=x:=by
    intro ys z;generalize xh z.2 i=x0;intro G I;have k2:∀(ys:LI) (z:LI×LI),(∀y∈ys,0<=y)->(∀x∈z.2,0<=x)->∀x∈(ys.foldl (VZ lf x0) z).2,0<=x:=by
     intro ys;induction ys with
     | nil=>intro z _ I;exact I
     | cons y ys ih =>
      intro z G I;rw[LP];refine ih _ (λq hq=>G q (Lh _ hq)) (λx hx=>?_);unfold VZ at hx;split at hx
      ·rcases Lk.1 hx with hx|hx
       ·exact I x hx
       rw[Lc.1 hx];exact G y Lj
      exact I x hx
    exact k2 ys z G I
   exact key _ z (λy G=>by
    obtain⟨e,J,h1,_⟩:=VM G;have:=(O.ed e J).1;omega) U x Y
  exact h
theorem Qpz (I:QL a)(lf:Lf):DsQ a lf (ds0 a lf)/\∀x∈(ds0 a lf).2,0<=x:=by
 rw[jp (λx hx=>(I.mr x hx).1)];refine⟨⟨λk J=>?_,λi hi G=>?_⟩,λx hx=>(I.mr x (LB.1 hx).1).1⟩
 ·have:=LB.1 (Lm J);exact⟨this.2,.inl this.1⟩
 simp only[]at hi G;rw[<-Zo G]at hi;rw[J6]at G;simp only[zo,List.getElem_map,List.getElem_range]at hi;split at hi
 ·assumption
 omega
inductive Rch (a:Qz):Int->Prop
 | mk {x:Int} (h:x∈a.mr):Rch a x
 | step {x y v:Int} (h:(x,v,y)∈a.ed) (k:Rch a y):Rch a x
theorem Qcc {es:List Ed}{lf:Lf}:∀(f i:Nat) (z:LI×LI),(dsL es lf f i z).1.length=z.1.length
 | 0,_,_=>rfl
 | f+1,i,z=>by
  rw[dsL];split
  ·rw[Qcc f];have k2:∀(x:Int) (ys:LI) (z:LI×LI),(ys.foldl (VZ lf x) z).1.length=z.1.length:=by
    intro x ys;induction ys with
    | nil=>intro z;rfl
    | cons y ys ih2 =>
     intro z;rw[LP,ih2];unfold VZ;split
     ·simp
     rfl
   exact k2 _ _ _
  rfl
theorem QkM (O:QL a){fb:LI}{T:Nat->Prop}(hm:∀s:Nat,lft (Xk a fb ul) s=true->(s:Int)∈a.mr->T s)(he:∀(s u:Nat) (v:Int),lft (Xk a fb ul) s=true->lft (Xk a fb ul) u=true->((s:Int),v,(u:Int))∈a.ed->T u->T s):
  ∀s:Nat,(s:Int)<a.st->lft (Xk a fb ul) s=true->T s:=by
 have I:=QjC a fb ul;have hb:(JN (Xk a fb ul) 0 (dsts a (Xk a fb ul))).length=0:=by
  unfold nxs at I;by_cases h1:(lost a ul (Xk a fb ul)).length≠0
  ·rw[OZ h1,Lo]at I;exact O1 I h1
  rw[OY h1]at I;exact I
 generalize Xk a fb ul=lf at *;have hd:=Qpz O lf;have U:DsQ a lf (dsL a.ed lf a.st.toNat 0 (ds0 a lf)):=QlH O _ _ _ hd.1 hd.2;have hf:(dsts a lf).length=a.st.toNat:=by
  unfold dsts;rw[Qcc,jp (λx hx=>(O.mr x hx).1)];exact J6 _ _
 have Y:dsts a lf=(dsL a.ed lf a.st.toNat 0 (ds0 a lf)).1:=rfl;generalize dsL a.ed lf a.st.toNat 0 (ds0 a lf)=z at U Y;have hgo:∀n k,k<n->(J:k<z.2.length)->∀s:Nat,z.2[k]'J=(s:Int)->T s:=by
  intro n;induction n with
  | zero=>intro k h;omega
  | succ n ih =>
   intro k hh J s hs;obtain⟨h1,h2⟩:=U.q k J;rw[hs]at h1 h2;rcases h2 with h2|⟨j,G,hp,v,V⟩
   ·exact hm s h1 h2
   have hu:=(O.ed _ V).2.2.2;have hr:0<=z.2[j]'G/\z.2[j]'G<a.st:=hu;have eu:z.2[j]'G=((z.2[j]'G).toNat:Int):=oa
   have hl:=(U.q j G).1;rw[eu]at V hl;exact he s _ v h1 hl V (ih j oa G _ eu)
 intro s hs hl;have ha:0<=xh (dsts a lf) s:=by
  refine oW λhn=>?_;have:=Qht (lf:=lf) (dsts a lf) 0 s oa (by rw[LY];exact hl) oa;have:=List.length_pos_of_mem this;omega
 rw[Y]at ha hf;obtain⟨k,J,hg⟩:=LQ (U.r s ha oa);exact hgo (k+1) k oa J s hg
theorem CnP.mem_mr {ord:LI}(h:CnP a ord)(G:j<ord.length):(j:Int)∈(YB a).mr↔ZZ ord j∈a.mr:=by
 rw[h.mk2];simp only[Oj,Of,Od,decide_eq_true_eq];constructor
 ·rintro⟨i,⟨_,h2⟩,e⟩;have:i=j:=oa
  rw[<-this];exact h2
 intro h2;exact⟨j,⟨oa,h2⟩,Z⟩
section
variable (h:D25 c)
abbrev Yv (c:ZO):Qz:=Jf (xj c.co)
abbrev XK (c:ZO):List (LI):=syQ (xj c.co)
abbrev Xx (c:ZO):List (LI):=syQ (xj c.co++xj c.rq)
abbrev suL (c:ZO):Lf:=Xk (spc c).a (fbs (spc c)) (unc c.ev)
end
theorem QdN {x y:Int}{z:LI×LI}(G:0<=xh z.1 x.toNat)(h:0<=xh z.1 j):0<=xh (VZ lf x z y).1 j:=by
 unfold VZ;split
 ·show 0<=xh (z.1.set y.toNat (xh z.1 x.toNat+1)) j;unfold xh at *;rw[LU,List.getElem?_set];split
  ·split
   ·show 0<=z.1.getD x.toNat 0+1;omega
   exact Ms _
  rw[<-LU];exact h
 exact h
theorem QoK {x y:Int}{z:LI×LI}(I:0<=xh z.1 x.toNat)(hl:lft lf y=true):0<=xh (VZ lf x z y).1 y.toNat:=by
 by_cases hc:xh z.1 y.toNat<0
 ·have G:y.toNat<z.1.length:=oW λJ=>by
   unfold xh at hc;rw[LU,Mk oa]at hc;exact O1 hc oh
  unfold VZ;rw[OZ ⟨hl,hc⟩];show 0<=xh (z.1.set y.toNat (xh z.1 x.toNat+1)) y.toNat;unfold xh at *;rw[LU,List.getElem?_set,OZ rfl,OZ G];show 0<=z.1.getD x.toNat 0+1;omega
 unfold VZ;rw[OY λh=>hc h.2];omega
theorem QdM {lf:Lf}{x:Int}:∀(l:LI) (z:LI×LI),0<=xh z.1 x.toNat->(∀j,0<=xh z.1 j->0<=xh (l.foldl (VZ lf x) z).1 j)/\∀y∈l,lft lf y=true->0<=xh (l.foldl (VZ lf x) z).1 y.toNat
 | [],_,_=>⟨λ_ h=>h,λy J=>by cases J⟩
 | y::l,z,G=>by
  have ih:=QdM (lf:=lf) l (VZ lf x z y) (QdN G G);refine⟨λj O=>ih.1 j (QdN G O),λu I hl=>?_⟩;rcases Ll.1 I with rfl|I
  ·exact ih.1 _ (QoK G hl)
  exact ih.2 u I hl
theorem QlJ {a:Qz}(Y:QL a){n:Nat}(hn:a.st=(n:Int)){lf:Lf}:∀(f i:Nat) (z:LI×LI),DsI n z->n<=i+f->(∀e∈a.ed,lft lf e.1=true->∀k,k<i->z.2[k]?=some e.2.2->0<=xh z.1 e.1.toNat) ->
  (∀j,0<=xh z.1 j->0<=xh (dsL a.ed lf f i z).1 j)/\∀e∈a.ed,lft lf e.1=true->e.2.2∈(dsL a.ed lf f i z).2->0<=xh (dsL a.ed lf f i z).1 e.1.toNat
 | 0,i,z,I,hf,hc=>⟨λ_ h=>h,λe G hl U=>by
  obtain⟨k,J,e1⟩:=LQ (show e.2.2∈z.2 from U);have:=I.le;exact hc e G hl k oa (by rw[LE J,e1])⟩
 | f+1,i,z,I,hf,hc=>by
  rw[dsL];split
  ·rename_i hi;have hx:xh z.2 i=z.2[i]'hi:=(Zo hi).symm;have ha:=Lm hi;have hp:=I.ok.q _ ha;have hh:=I.s0 _ ha;rw[hx];generalize hq:z.2[i]'hi=x at *;have hr:∀y∈YG a.ed x.toNat,0<=y/\y<(n:Int):=λy hy=>by
    obtain⟨e,G,h1,_⟩:=VM hy;have:=(Y.ed e G);rw[<-hn,<-h1];exact⟨this.1,this.2.1⟩
   obtain⟨h1,r,h2⟩:=Qg9 (lf:=lf) hp _ z I hh hr;have V:=QdM (lf:=lf) (x:=x) (YG a.ed x.toNat) z hh;have ih:=QlJ Y hn (lf:=lf) f (i+1) _ h1 oa (λe G hl k J O=>by
    rw[h2,LT oa]at O;by_cases hs:k=i
    ·subst hs;rw[LE hi,hq]at O;have hu:=Option.some.inj O;exact V.2 e.1 (Qk4 G (by rw[<-hu];omega)) hl
    exact V.1 _ (hc e G hl k oa O))
   exact⟨λj hj=>ih.1 j (V.1 j hj),ih.2⟩
  rename_i hi;refine⟨λ_ h=>h,λe G hl U=>?_⟩;obtain⟨k,J,e1⟩:=LQ U;exact hc e G hl k oa (by rw[LE J,e1])
inductive WR (a:Qz) (G:Nat->Prop):Nat->Prop
 | mk {s:Nat}:(s:Int)∈a.mr->WR a G s
 | st {s u:Nat} {v:Int}:((s:Int),v,(u:Int))∈a.ed->G u->WR a G u->WR a G s
theorem QpN (I:QL a)(hp:0<=a.st){G:Nat->Prop}(Y:∀s,G s->lft lf s=true){s:Nat}(h:WR a G s)(O:lft lf s=true):0<=xh (dsts a lf) s:=by
 have U:a.st=((a.st.toNat:Nat):Int):=oa
 have hd:=QlL (lf:=lf) I U;have V:=Qpz I lf;have hq:DsQ a lf (dsL a.ed lf a.st.toNat 0 (ds0 a lf)):=QlH I _ _ _ V.1 V.2;have hc:=QlJ I U (lf:=lf) a.st.toNat 0 (ds0 a lf) hd oa (λe J hl k hk=>oa);have ha:(dsL a.ed lf a.st.toNat 0 (ds0 a lf)).1.length=a.st.toNat:=by
  rw[Qcc,jp (λx hx=>(I.mr x hx).1)];exact J6 _ _
 unfold dsts;induction h with
 | @mk s hm =>
  refine hc.1 _ ?_;have:(s:Int)∈(ds0 a lf).2:=by
   rw[jp (λx hx=>(I.mr x hx).1)];exact LB.2 ⟨hm,O⟩
  have:=hd.s0 _ this;simpa using this
 | @st s u v J hu _ ih =>
  have h1:=ih (Y u hu);have h2:=(I.ed _ J).2.2.2;have hf:0<=(u:Int)/\(u:Int)<a.st:=h2;have h3:=hq.r u h1 oa;have h4:=hc.2 _ J O h3;simpa using h4
theorem QnZ {p:Int×Int}(G:p∈lost a ul lf):∃e∈a.ed,e.1=p.1/\lft lf e.2.2=false/\e.2.1∈ul:=by
 have key:∀(l:List Ed) (out:xD),(∀e∈l,e∈a.ed)->(∀p∈out,∃e∈a.ed,e.1=p.1/\lft lf e.2.2=false/\e.2.1∈ul)->∀p∈l.foldl (Js ul lf) out,∃e∈a.ed,e.1=p.1/\lft lf e.2.2=false/\e.2.1∈ul:=by
  intro l;induction l with
  | nil=>intro out _ h;exact h
  | cons e l ih =>
   intro out hl h;refine ih _ (λe I=>hl e (Lh _ I)) λp G=>?_;unfold Js at G;split at G
   ·exact h p G
   rename_i hc;split at G
   ·exact h p G
   rcases Lk.1 G with G|G
   ·exact h p G
   rw[Lc.1 G];refine⟨e,hl e Lj,Z,?_,?_⟩
   ·cases hb:lft lf e.2.2 with
    | false=>rfl
    | true=>exact O1 (.inr (.inl hb)) hc
   exact oW λJ=>hc (.inr (.inr J))
 exact key a.ed [] (λ_ h=>h) (λp G=>by cases G) p G
theorem Qhs {lf:Lf}{x:Int}:∀(l:LI) (i:Nat),x∈JN lf i l->∃k,x=((i+k:Nat):Int)/\k<l.length/\xh l k<0
 | [],_,h=>by cases h
 | d::l,i,h=>by
  have go:x∈JN lf (i+1) l->∃k,x=((i+k:Nat):Int)/\k<(d::l).length/\xh (d::l) k<0:=λh=>by
   obtain⟨k,h1,h2,G⟩:=Qhs l (i+1) h;exact⟨k+1,by rw[h1];congr 1;omega,ox h2,G⟩
  rw[JN]at h;split at h
  ·rename_i hc;rcases Ll.1 h with h|h
   ·exact⟨0,h,oe,hc.2⟩
   exact go h
  exact go h
theorem yO {s:Nat}:∀(xs:LI) (l:Lf),lft l s=true->(∀x∈xs,x.toNat≠s)->lft (xs.foldl cut l) s=true
 | [],_,h,_=>h
 | x::xs,l,h,G=>by
  refine yO xs (cut l x) ?_ λy I=>G y (Lh _ I);unfold lft cut at *;rw[LU,List.getElem?_set,OY (oq (G x Lj)),<-LU];exact h
theorem QkL (J:QL a){fb:LI}{G:Nat->Prop}(O:∀s,G s->(s:Int)<a.st)(ha:∀s,G s->∀x∈fb,x.toNat≠s)
  (he:∀(s:Nat) (v u:Int),G s->((s:Int),v,u)∈a.ed->v∈ul->G u.toNat) (hw:∀s,G s->WR a G s):∀s,G s->lft (Xk a fb ul) s=true:=by
 have step:∀lf:Lf,(∀s,G s->lft lf s=true)->∀s,G s->∀x∈nxs a ul lf,x.toNat≠s:=λlf hI s I x hx e=>by
  unfold nxs at hx;split at hx
  ·obtain⟨p,hp,e1⟩:=Lt.1 hx;obtain⟨d,hd,h1,h2,U⟩:=QnZ hp;have V:=(J.ed d hd);have e2:d=((s:Int),d.2.1,d.2.2):=by
    have:d.1=(s:Int):=by rw[h1,e1];have:=V.1;rw[h1,e1]at this;omega
    rw[<-this]
   rw[e2]at hd;have Y:=hI _ (he s _ _ I hd U);have h5:((d.2.2.toNat:Nat):Int)=d.2.2:=by have:=V.2.2.2.1;omega
   rw[h5,h2]at Y;cases Y
  obtain⟨k,h1,h2,U⟩:=Qhs _ 0 hx;have hk:k=s:=oa
  subst hk;have:=QpN J (oq (O k I)) hI (hw k I) (hI k I);omega
 have main:∀(f:Nat) (lf:Lf),(∀s,G s->lft lf s=true)->∀s,G s->lft (Vj a ul f lf) s=true:=by
  intro f;induction f with
  | zero=>intro lf h;exact h
  | succ f ih =>
   intro lf h;rw[Vj];split
   ·exact h
   exact ih _ λs I=>yO _ _ (h s I) (step lf h s I)
 refine main _ _ λs I=>yO _ _ ?_ (ha s I);have:=O s I;unfold lft;have h2:s<a.st.toNat:=oa
 simp[oQ,h2]
theorem SvR.go {B:Qz}{Q:List (LI)}(ha:∀a∈aa,QL a)(hS:SyP aa B Q)(O:QL B)(U:0<B.st){I:LI}{y v:Int}(h:SvR B Q lf q y)(V:QU v aa q=some I)(hl:lft lf (Q.idxOf I)=true):
  ∃G,pst v (YB (rstr B lf)) y=some G/\SvR B Q lf I G:=by
 have h0:=h;obtain⟨j,s,e0,h1,h2,h3,h4,h5⟩:=h;have hC:=qu O U lf;have hg:(YB (rstr B lf)).al=evs aa:=hC.al.D hS.al;have hh:∃G,pst v (YB (rstr B lf)) y=some G:=by
  unfold pst;by_cases J:v∈(YB (rstr B lf)).al
  ·rw[OZ J];rw[hg]at J;have Y:=hS.J h3 v;rw[OZ J,h5,V]at Y;have he:=YI (show xu B.ed (s:Int) v=some (Q.idxOf I:Int) from Y);have hr:((s:Int),v,(Q.idxOf I:Int))∈(rstr B lf).ed:=LB.2 ⟨he,hl⟩;rw[e0,hC.J h1 v,h2,X8 (Kp O _).edi hr];exact⟨_,Z⟩
  rw[OY J];exact⟨_,Z⟩
 obtain⟨G,hy⟩:=hh;obtain⟨q2,hf,hj⟩:=SvR.J ha hS O U h0 hy;rw[V]at hf;rw[Option.some.inj hf];exact⟨G,hy,hj⟩
theorem Qgl {c:ZO}{rs:LI}:∀{l:LI},(rfd c rs l).isSome=true->∃v∈l,0<=rfr v 0 c.rq rs/\(c.ev.getD v.toNat ⟨.empty,false,false,false,0⟩).co=false
 | [],h=>by cases h
 | w::l,h=>by
  rw[rfd]at h;split at h
  ·rename_i hc;exact⟨w,Lj,hc⟩
  obtain⟨v,G,h1⟩:=Qgl (l:=l) h;exact⟨v,Lh _ G,h1⟩
theorem Qal {Q:List (LI)}(hS:SyP aa A Q){s:Nat}(G:s<Q.length):(s:Int)∈A.mr↔Yh aa (Q.getD s [])=true:=by
 rw[hS.mk2];simp only[Oj,Of,Od];constructor
 ·rintro⟨j,⟨_,h2⟩,e⟩;have:j=s:=oa
  rw[<-this];exact h2
 intro h2;exact⟨s,⟨oa,h2⟩,Z⟩
theorem SvR.mr {aa:List Qz}{B:Qz}{Q:List (LI)}{lf:Lf}(hS:SyP aa B Q)(I:QL B)(J:0<B.st){q:LI}{y:Int}(h:SvR B Q lf q y):y∈(YB (rstr B lf)).mr↔Yh aa q=true:=by
 obtain⟨j,s,e0,h1,h2,O,V,U⟩:=h;have hC:=qu I J lf;have G:=Qal hS O;rw[U]at G;rw[e0,hC.mem_mr h1,h2];exact G
theorem KR {Q:List (LI)}{t:LI}(ht:t∈Q):Q.idxOf t<Q.length/\Q.getD (Q.idxOf t) []=t:=by
 have G:=Md ht;exact⟨G,by rw[(ZR G).1,List.getElem_idxOf]⟩
structure Xt (c:ZO):Prop where
 x:c.ex=[]
 k:c.cs=[]
 ok:∀a∈xj c.co++xj c.rq,QL a/\0<a.st
 eco:∀x∈c.rq,∀e∈x.a.al,∃y∈c.co,e∈y.a.al
 ev:∀x∈c.co,∀e∈x.a.al,e<(c.ev.length:Int)
 f1:∃z,xw (xj c.co)=some z
 f2:∃z,xw (xj c.co++xj c.rq)=some z
theorem QhZ {x v u:Int}(G:v∈a.al)(h:pst v a x=some u):xu a.ed x v=some u:=by
 unfold pst at h
 rwa [OZ G]at h
theorem qv {v:Int}{t:LI}(hl:t.length=aa.length)(h:QU v aa t=some u):u.length=aa.length:=((XR v _ _ u hl).1 h).1
theorem Qap (v:Int):∀(aa bb:List Qz) (s r:LI),s.length=aa.length->QU v (aa++bb) (s++r)=(QU v aa s).bind λG=>(QU v bb r).map (G++·)
 | [],bb,[],r,_=>by
  show QU v bb r=(QU v bb r).map ([]++·);simp
 | a::aa,bb,x::s,r,hl=>by
  rw[Mq,Mq,Yr,Yr,Qap v aa bb s r (ox hl)];cases pst v a x with
  | none=>rfl
  | some y =>
   show((QU v aa s).bind λG=>(QU v bb r).map (G++·)).map (y::·)=((QU v aa s).map (y::·)).bind λG=>(QU v bb r).map (G++·);cases QU v aa s with
   | none=>rfl
   | some G =>
    show((QU v bb r).map (G++·)).map (y::·)=(QU v bb r).map ((y::G)++·);rw[Option.map_map];rfl
theorem QaJ:∀(aa bb:List Qz) (s r:LI),s.length=aa.length->Yh (aa++bb) (s++r)=(Yh aa s && Yh bb r)
 | [],bb,[],r,_=>by simp[Yh]
 | a::aa,bb,x::s,r,hl=>by
  rw[Mq,Mq,Yh,Yh,QaJ aa bb s r (ox hl),Bool.and_assoc]
theorem yr {v:Int}:∀{l:List Jz}{rs:LI}{i:Nat},rs.length=l.length->(0<=rfr v i l rs↔(QU v (xj l) rs).isSome=false)
 | [],[],_,_=>⟨λh=>O1 (show(0:Int)<=-1 from h) oh,λh=>by cases h⟩
 | y::l,s::ss,i,hl=>by
  rw[Qc2,show xj (y::l)=y.a::xj l from rfl,Yr];have ih:=yr (v:=v) (l:=l) (rs:=ss) (i:=i+1) (ox hl);unfold pst;by_cases G:v∈y.a.al
  ·rw[OZ G];cases I:xu y.a.ed s v with
   | none=>rw[OZ ⟨G,rfl⟩];exact⟨λ_=>Z,λ_=>oa⟩
   | some u =>
    rw[OY (λh=>by cases h.2),ih];show _↔((QU v (xj l) ss).map (u::·)).isSome=false;rw[Option.isSome_map]
  rw[OY G,OY (λh=>G h.1),ih];show _↔((QU v (xj l) ss).map (s::·)).isSome=false;rw[Option.isSome_map]
section
variable (h:Xt c)
include h
theorem Xt.sy:SyP (xj c.co++xj c.rq) (spc c).a (Xx c)/\SyP (xj c.co) (Yv c) (XK c)/\0<(spc c).a.st/\0<(Yv c).st /\
  spc c=⟨(spc c).a,(Xx c).map (·.take c.co.length),(Xx c).map (·.drop c.co.length),(Xx c).map (λt=>plx (XK c) (t.take c.co.length)),spF c (Yv c) (XK c) (Xx c)⟩:=by
 obtain⟨⟨pl,ps⟩,e1⟩:=h.f1;obtain⟨⟨sa,ts⟩,e2⟩:=h.f2;have V:=Qbn e1 e2;have I:=h.ok;have a1:Yv c=pl:=by unfold Yv Jf;rw[e1]
 have a2:XK c=ps:=by unfold XK syQ;rw[e1]
 have a4:Xx c=ts:=by unfold Xx syQ;rw[e2]
 have J:(spc c).a=sa:=by rw[V]
 have O:=Yx (λa G=>(I a G).1) e2;have U:=Yx (λa G=>(I a (LG _ G)).1) e1;have p1:ts.length≠0:=λe=>by
  obtain⟨a,G,e0⟩:=O.2.1 e;have:=(I a G).2;omega
 have p2:ps.length≠0:=λe=>by
  obtain⟨a,G,e0⟩:=U.2.1 e;have:=(I a (LG _ G)).2;omega
 have q1:=O.1.st;have q2:=U.1.st;refine⟨by rw[J,a4];exact O.1,by rw[a1,a2];exact U.1,by rw[J];omega,by rw[a1];omega,?_⟩;rw[a1,a2,a4,J];exact V
theorem Xt.pok:QL (Yv c):=h.sy.2.1.okay λa G=>(h.ok a (LG _ G)).1
theorem Xt.sok:QL (spc c).a:=h.sy.1.okay λa G=>(h.ok a G).1
theorem Xt.evc {v:Int}:v∈evs (xj c.co++xj c.rq)↔v∈evs (xj c.co):=by
 have J:=h.ok;have O:∀a∈xj c.co,QL a:=λa G=>(J a (LG _ G)).1;rw[Xo (λa G=>(J a G).1),Xo O];constructor
 ·rintro⟨a,G,I⟩;rcases Lk.1 G with G|G
  ·exact⟨a,G,I⟩
  obtain⟨x,hx,rfl⟩:=Lt.1 G;obtain⟨y,U,V⟩:=h.eco x hx v I;exact⟨y.a,Lt.2 ⟨y,U,Z⟩,V⟩
 rintro⟨a,G,I⟩;exact⟨a,LG _ G,I⟩
theorem Xt.inQ:∀t∈Xx c,t.length=gNm c/\t.take c.co.length∈XK c:=by
 obtain⟨⟨pl,ps⟩,e1⟩:=h.f1;obtain⟨⟨sa,ts⟩,e2⟩:=h.f2;have I:=h.sy;have a4:Xx c=ts:=by unfold Xx syQ;rw[e2]
 have G:(xj c.co++xj c.rq).length=gNm c:=by rw[Le,YX,YX];rfl
 have J:(xj c.co).length=c.co.length:=YX _;have ha:=I.2.1.st;have O:0<(XK c).length:=oa
 have key:=Qjd (P:=λt=>t.length=gNm c/\t.take c.co.length∈XK c) e2 (by
  refine⟨by rw[Np,G],?_⟩;rw[List.take_replicate,G,show min c.co.length (gNm c)=c.co.length by unfold gNm;omega];have h1:=I.2.1.hd O;rw[J]at h1;rw[<-h1];exact(ZR O).2) (λt ht v Y u U=>by
  have h1:t.length=(xj c.co++xj c.rq).length:=by rw[ht.1,G]
  refine⟨by rw[((XR v _ _ u h1).1 U).1,G],?_⟩;have h2:=QeI h1 U;rw[J]at h2;have V:=KR ht.2;exact I.2.1.cl _ V.1 v (h.evc.1 Y) _ (by rw[V.2];exact h2))
 intro t ht;rw[a4]at ht;exact key t ht
def xK (c:ZO)(t:LI):Prop:=∀v∈unc c.ev,v∈evs (xj c.co)->(QU v (xj c.co) (t.take c.co.length)).isSome=true->(QU v (xj c.rq) (t.drop c.co.length)).isSome=true
omit h in
theorem QlR {v:Int}(hb:0<=v/\v<(c.ev.length:Int)):v∈unc c.ev↔(c.ev.getD v.toNat ⟨.empty,false,false,false,0⟩).co=false:=by
 have hl:v.toNat<c.ev.length:=oa
 unfold unc;rw[zX,Qpw hl];constructor
 ·rintro⟨k,G,e,h1⟩;have:k=v.toNat:=oa
  subst this;simpa using h1
 intro h1;exact⟨v.toNat,hl,oa,by rw[h1];rfl⟩
theorem Xt.evb {v:Int}(J:v∈evs (xj c.co)):0<=v/\v<(c.ev.length:Int):=by
 obtain⟨a,G,I⟩:=(Xo (λa G=>(h.ok a (LG _ G)).1) v).1 J;have h1:=((h.ok a (LG _ G)).1.al v I).1;obtain⟨x,hx,rfl⟩:=Lt.1 G;exact⟨h1,h.ev x hx v I⟩
theorem Xt.plx {t:LI}(ht:t∈XK c){v:Int}:v∈jk (Yv c) (plx (XK c) t)↔v∈evs (xj c.co)/\(QU v (xj c.co) t).isSome=true:=by
 have I:=KR ht;have e:Lg.plx (XK c) t=((XK c).idxOf t:Int):=by unfold Lg.plx;rw[OZ ht]
 rw[e];show v∈enb (Yv c) _↔_;rw[QqZ h.pok,h.sy.2.1.J I.1 v,I.2];by_cases G:v∈evs (xj c.co)
 ·rw[OZ G,Option.isSome_map];exact⟨λe=>⟨G,e⟩,λe=>e.2⟩
 rw[OY G];exact⟨λe=>(by cases e),λe=>O1 e.1 G⟩
theorem Xt.rfd {t:LI}(ht:t∈Xx c):(rfd c (t.drop c.co.length) (jk (Yv c) (Lg.plx (XK c) (t.take c.co.length)))).isSome=false↔xK c t:=by
 obtain⟨h1,h2⟩:=h.inQ t ht;have hl:(t.drop c.co.length).length=c.rq.length:=by rw[My,h1];unfold gNm;omega
 constructor
 ·intro J v V G Y;cases hx:(QU v (xj c.rq) (t.drop c.co.length)).isSome with
  | true=>rfl
  | false =>
   have I:=Qgm (c:=c) ((yr hl).2 hx) ((QlR (h.evb G)).1 V) _ ((h.plx h2).2 ⟨G,Y⟩);rw[J]at I;cases I
 intro hf;cases J:(Lg.rfd c (t.drop c.co.length) (jk (Yv c) (Lg.plx (XK c) (t.take c.co.length)))).isSome with
 | false=>rfl
 | true =>
  obtain⟨v,G,I,h4⟩:=Qgl J;obtain⟨O,h6⟩:=(h.plx h2).1 G;have U:=hf v ((QlR (h.evb O)).2 h4) O h6;rw[(yr hl).1 I]at U;cases U
theorem Xt.vio (t:LI):vio c t=none:=by
 unfold Lg.vio;rw[h.x,h.k];rfl
theorem Xt.fb {s:Nat}(J:s<(Xx c).length):(∀x∈fbs (spc c),x.toNat≠s)↔xK c ((Xx c).getD s []):=by
 have U:=(ZR J).2;have V:(rsn c (Yv c) (Lg.plx (XK c) (((Xx c).getD s []).take c.co.length)) s ((Xx c).getD s [])).isSome=(Lg.rfd c (((Xx c).getD s []).drop c.co.length) (jk (Yv c) (Lg.plx (XK c) (((Xx c).getD s []).take c.co.length)))).isSome:=by
  unfold rsn;rw[h.vio];simp only[];cases Lg.rfd c (((Xx c).getD s []).drop c.co.length) (jk (Yv c) (Lg.plx (XK c) (((Xx c).getD s []).take c.co.length))) with
  | none=>rfl
  | some p=>rfl
 rw[<-h.rfd U,<-V];have Y:fbs (spc c)=(spF c (Yv c) (XK c) (Xx c)).map (·.st):=by unfold fbs;rw[h.sy.2.2.2.2]
 rw[Y];constructor
 ·intro G;cases I:rsn c (Yv c) (Lg.plx (XK c) (((Xx c).getD s []).take c.co.length)) s ((Xx c).getD s []) with
  | none=>rfl
  | some r =>
   exfalso;have h1:=QjA I;refine G r.st (Lt.2 ⟨r,?_,Z⟩) (by rw[h1.1];omega);unfold spF;refine MJ.2 ⟨((Xx c).getD s [],s),?_,I⟩;rw[List.mem_zipIdx_iff_getElem?,(ZR J).1];exact LE J
 intro G x hx e;obtain⟨r,I,rfl⟩:=Lt.1 hx;unfold spF at I;obtain⟨⟨t,j⟩,hp,O⟩:=MJ.1 I;have h2:=List.mem_zipIdx_iff_getElem?.1 hp;have h1:=QjA O;have ej:j=s:=by
  omega
 subst ej;have et:(Xx c).getD j []=t:=by
  have h4:(Xx c)[j]?=some t:=h2;rw[LU,h4];rfl
 rw[et]at G;have h5:rsn c (Yv c) (Lg.plx (XK c) (t.take c.co.length)) j t=some r:=O;rw[h5]at G;cases G
end
def Lq (c:ZO)(q:LI):Prop:=q∈Xx c/\lft (suL c) ((Xx c).idxOf q)=true
abbrev Vq (c:ZO)(q:LI)(y:Int):Prop:=SvR (spc c).a (Xx c) (suL c) q y
inductive WQ (c:ZO) (O:LI->Prop):LI->Prop
 | mk {q:LI}:Yh (xj c.co++xj c.rq) q=true->WQ c O q
 | st {q q':LI} {v:Int}:v∈evs (xj c.co)->QU v (xj c.co++xj c.rq) q=some q'->O q'->WQ c O q'->WQ c O q
section
variable (h:Xt c)
include h
theorem Xt.nxQ {G:LI}{v:Int}(I:q∈Xx c)(J:v∈evs (xj c.co))(O:QU v (xj c.co++xj c.rq) q=some G):G∈Xx c:=by
 have hi:=KR I;exact h.sy.1.cl _ hi.1 v (h.evc.2 J) _ (by rw[hi.2];exact O)
theorem Xt.q0:oI (xj c.co++xj c.rq).length 0∈Xx c/\(Xx c).idxOf (oI (xj c.co++xj c.rq).length (0:Int))=0:=by
 have G:=h.sy;have U:(spc c).a.st=((Xx c).length:Int):=G.1.st;have I:0<(Xx c).length:=by have:=G.2.2.1;omega
 have h1:=G.1.hd I;have O:oI (xj c.co++xj c.rq).length (0:Int)∈Xx c:=by rw[<-h1];exact(ZR I).2
 have J:=KR O;refine⟨O,QaF G.1.nd J.1 I ?_⟩;rw[<-(ZR J.1).1,<-(ZR I).1,J.2];exact h1.symm
theorem Xt.edge {G:LI}{v:Int}(J:q∈Xx c)(O:v∈evs (xj c.co))(U:QU v (xj c.co++xj c.rq) q=some G):(((Xx c).idxOf q:Int),v,((Xx c).idxOf G:Int))∈(spc c).a.ed:=by
 have hi:=KR J;have I:=h.sy.1.J hi.1 v;rw[OZ (h.evc.2 O),hi.2,U]at I;exact YI I
theorem Xt.edgeI {s:Nat}{v u:Int}(J:s<(Xx c).length)(V:((s:Int),v,u)∈(spc c).a.ed):v∈evs (xj c.co)/\∃G,QU v (xj c.co++xj c.rq) ((Xx c).getD s [])=some G/\G∈Xx c/\u=((Xx c).idxOf G:Int):=by
 have I:=X8 h.sok.edi V;rw[h.sy.1.J J v]at I;split at I
 ·rename_i O;obtain⟨G,U,e⟩:=LZ.1 I;exact⟨h.evc.1 O,G,U,h.sy.1.cl s J v O _ U,e.symm⟩
 cases I
theorem Xt.lunc {I:LI}{v:Int}(G:Lq c q)(J:v∈evs (xj c.co))(U:v∈unc c.ev)(O:QU v (xj c.co++xj c.rq) q=some I):Lq c I :=
 ⟨h.nxQ G.1 J O,Qoa (h.edge G.1 J O) G.2 U⟩
theorem Xt.lfr (G:Lq c q):xK c q:=by
 have hi:=KR G.1;have h1:=(h.fb hi.1).1 λx hx=>by
  have:=Qqr G.2 x hx
  rwa [MD]at this
 rwa [hi.2]at h1
theorem Xt.lind {T:LI->Prop}(hm:∀q,Lq c q->Yh (xj c.co++xj c.rq) q=true->T q)(ha:∀q J v,Lq c q->Lq c J->v∈evs (xj c.co)->QU v (xj c.co++xj c.rq) q=some J->T J->T q):∀q,Lq c q->T q:=by
 have O:=h.sy;have h9:(spc c).a.st=((Xx c).length:Int):=O.1.st;have hx:∀s:Nat,s<(Xx c).length->(Xx c).idxOf ((Xx c).getD s [])=s:=λs U=>by
  have G:=KR (ZR U).2;refine QaF O.1.nd G.1 U ?_;rw[<-(ZR G.1).1,<-(ZR U).1,G.2]
 have key:=QkM h.sok (fb:=fbs (spc c)) (ul:=unc c.ev) (T:=λs=>s<(Xx c).length->T ((Xx c).getD s [])) (λs hl hf I=>hm _ ⟨(ZR I).2,by rw[hx s I];exact hl⟩ ((Qal O.1 I).1 hf)) (λs u v hl hg he hT I=>by
  obtain⟨hv,J,G,V,e⟩:=h.edgeI I he;have Y:=KR V;have eu:u=(Xx c).idxOf J:=oa
  subst eu;have h2:=hT Y.1;rw[Y.2]at h2;exact ha _ J v ⟨(ZR I).2,by rw[hx s I];exact hl⟩ ⟨V,hg⟩ hv G h2)
 intro q G;have hi:=KR G.1;have:=key _ oa G.2 hi.1
 rwa [hi.2]at this
theorem Xt.lmax {O:LI->Prop}(o1:∀q,O q->q∈Xx c)(o2:∀q,O q->xK c q)(o3:∀q U v,O q->v∈evs (xj c.co)->v∈unc c.ev->QU v (xj c.co++xj c.rq) q=some U->O U)(o4:∀q,O q->WQ c O q):∀q,O q->Lq c q:=by
 have Y:=h.sy;have h9:(spc c).a.st=((Xx c).length:Int):=Y.1.st;have hj:∀s:Nat,(s<(Xx c).length/\O ((Xx c).getD s []))->lft (suL c) s=true:=by
  refine QkL h.sok (λs G=>oq G.1) (λs G=>(h.fb G.1).2 (o2 _ G.2)) (λs v u G V hu=>?_) (λs G=>?_)
  ·obtain⟨hv,U,I,ha,e⟩:=h.edgeI G.1 V;have hg:=KR ha;rw[e,MD];exact⟨hg.1,by rw[hg.2];exact o3 _ _ v G.2 hv hu I⟩
  have hw:=o4 _ G.2;obtain⟨J,hO⟩:=G;generalize I:(Xx c).getD s []=q at *;clear hO;induction hw generalizing s with
  | @mk q hm=>exact WR.mk ((Qal Y.1 J).2 (by rw[I];exact hm))
  | @st q U v hv hk hh _ ih =>
   have ha:=o1 _ hh;have hi:=KR ha;have V:=h.edge (q:=q) (by rw[<-I];exact(ZR J).2) hv hk;have e:(Xx c).idxOf q=s:=by
    have hf:=KR (show q∈Xx c by rw[<-I];exact(ZR J).2);refine QaF Y.1.nd hf.1 J ?_;rw[<-(ZR hf.1).1,<-(ZR J).1,hf.2,I]
   rw[e]at V;exact WR.st V ⟨hi.1,by rw[hi.2];exact hh⟩ (ih _ hi.1 hi.2)
 intro q I;have hi:=KR (o1 q I);exact⟨o1 q I,hj _ ⟨hi.1,by rw[hi.2];exact I⟩⟩
theorem Xt.vl {y:Int}(O:Vq c q y):Lq c q:=by
 obtain⟨j,s,_,_,_,G,U,I⟩:=O;have J:q∈Xx c:=by rw[<-I];exact(ZR G).2
 have hi:=KR J;have e:(Xx c).idxOf q=s:=by
  refine QaF h.sy.1.nd hi.1 G ?_;rw[<-(ZR hi.1).1,<-(ZR G).1,hi.2,I]
 exact⟨J,by rw[e];exact U⟩
theorem Xt.suE (I:(Xv c).st≠0):Xv c=YB (rstr (spc c).a (suL c))/\QL (Xv c)/\∀v,v∈(Xv c).al↔v∈evs (xj c.co):=by
 obtain⟨_,_,hA⟩:=QcK (B:=(spc c).a) (fb:=fbs (spc c)) (ul:=unc c.ev) I;have G:Xv c=YB (rstr (spc c).a (suL c)):=hA;refine⟨G,Qao h.sok _,λv=>?_⟩;rw[G,(qu h.sok h.sy.2.2.1 (suL c)).al.D h.sy.1.al];exact h.evc
theorem Xt.v0 (G:(Xv c).st≠0):Vq c (oI (xj c.co++xj c.rq).length 0) 0:=by
 obtain⟨_,hl,_⟩:=QcK (B:=(spc c).a) (fb:=fbs (spc c)) (ul:=unc c.ev) G;exact SvR.init h.sy.1 h.sok h.sy.2.2.1 hl
theorem Xt.pos (hl:Lq c (oI (xj c.co++xj c.rq).length 0)):(Xv c).st≠0:=by
 have hl:=hl.2;rw[h.q0.2]at hl;have G:=h.sy;have hC:=qu h.sok G.2.2.1 (suL c);have I:(YB (rstr (spc c).a (suL c))).st=((sord (spc c).a (suL c)).length:Int):=hC.st;have J:0<(sord (spc c).a (suL c)).length:=hC.hd.2;unfold Xv Ud jZ;rw[OY (λe1=>e1.elim (λe2=>oa) (λe2=>by rw[show lft (Xk (spc c).a (fbs (spc c)) (unc c.ev)) 0=true from hl]at e2;cases e2))];show(YB (rstr (spc c).a (suL c))).st≠0;omega
theorem Xt.vgo (J:(Xv c).st≠0){I:LI}{y v:Int}(O:Vq c q y)(U:v∈evs (xj c.co))(V:QU v (xj c.co++xj c.rq) q=some I)(hl:Lq c I):∃G,xu (Xv c).ed y v=some G/\Vq c I G:=by
 obtain⟨hA,ho,Y⟩:=h.suE J;obtain⟨G,h1,h2⟩:=SvR.go (λa ha=>(h.ok a ha).1) h.sy.1 h.sok h.sy.2.2.1 O V hl.2;rw[<-hA]at h1;exact⟨G,QhZ ((Y v).2 U) h1,h2⟩
theorem Xt.vst (O:(Xv c).st≠0){y v G:Int}(U:Vq c q y)(I:xu (Xv c).ed y v=some G):v∈evs (xj c.co)/\∃q',QU v (xj c.co++xj c.rq) q=some q'/\Vq c q' G:=by
 obtain⟨hA,V,Y⟩:=h.suE O;have J:=(V.ed _ (YI I)).2.2.1;refine⟨(Y v).1 J,SvR.J (λa ha=>(h.ok a ha).1) h.sy.1 h.sok h.sy.2.2.1 U ?_⟩;rw[<-hA];unfold pst;rw[OZ J];exact I
theorem Xt.vmr (G:(Xv c).st≠0){y:Int}(I:Vq c q y):y∈(Xv c).mr↔Yh (xj c.co++xj c.rq) q=true:=by
 rw[(h.suE G).1];exact SvR.mr h.sy.1 h.sok h.sy.2.2.1 I
end
def pjF (a:Qz)(er:LI)(tup:List (LI))(j:Nat)(v:Int):Option Ed:=if(pnx a er (tup.getD j []) v).length=0 then none else some ((j:Int),v,(tup.idxOf (pnx a er (tup.getD j []) v):Int))
def Qel (a:Qz)(er:LI)(tup:List (LI))(j:Nat)(vs:LI):Prop:=∀v∈vs,(pnx a er (tup.getD j []) v).length≠0->pnx a er (tup.getD j []) v∈tup
theorem Qj4 (a:Qz)(er:LI)(tup:List (LI)):zc (pjF a er tup):=by
 intro j v e h;unfold pjF at h;split at h
 ·cases h
 cases h;exact⟨Z,Z⟩
section
variable {er:LI}
theorem Qel.pre {tup r:List (LI)}{vs:LI}(G:j<tup.length)(hc:Qel a er tup j vs):Qel a er (tup++r) j vs:=by
 intro v I h;rw[Y8 G]at h ⊢;exact LG _ (hc v I h)
theorem Qgt {tup r:List (LI)}{vs:LI}(G:j<tup.length)(hc:Qel a er tup j vs):vs.filterMap (pjF a er (tup++r) j)=vs.filterMap (pjF a er tup j):=by
 refine U5 λv I=>?_;unfold pjF;rw[Y8 G];by_cases h:(pnx a er (tup.getD j []) v).length=0
 ·rw[OZ h,OZ h]
 rw[OY h,OY h,Mf,OZ (hc v I h)]
theorem Qqa (z:Sy)(u:LI):∃r,(Vm z u).tup=z.tup++r:=by
 unfold Vm;split
 ·exact⟨[],oe⟩
 exact⟨[u],Z⟩
theorem Qj6 (i:Nat)(t:LI)(z:Sy)(v:Int):∃r,(JJ a er i t z v).tup=z.tup++r:=by
 unfold JJ;split
 ·exact⟨[],oe⟩
 exact Qqa _ _
theorem zU (i:Nat)(t:LI):∀(vs:LI) (z:Sy),∃r,(vs.foldl (JJ a er i t) z).tup=z.tup++r
 | [],z=>⟨[],oe⟩
 | v::vs,z=>by
  obtain⟨G,h1⟩:=Qj6 (a:=a) (er:=er) i t z v;obtain⟨r2,h2⟩:=zU i t vs (JJ a er i t z v);exact⟨G++r2,by rw[LP,h2,h1,LC]⟩
theorem Ui (i:Nat)(t:LI)(z:Sy):(zz a i t z).tup=z.tup:=(QbA a i t z).1
theorem Qj3 {kp:LI}:∀(f i:Nat) (z:Sy),∃r,(j6 a kp er f i z).tup=z.tup++r
 | 0,i,z=>⟨[],by simp[j6]⟩
 | f+1,i,z=>by
  rw[j6];split
  ·obtain⟨G,h1⟩:=zU (a:=a) (er:=er) i (Jk z i) kp (zz a i (Jk z i) z);obtain⟨r2,h2⟩:=Qj3 (kp:=kp) f (i+1) (kp.foldl (JJ a er i (Jk z i)) (zz a i (Jk z i) z));exact⟨G++r2,by rw[h2,h1,Ui,LC]⟩
  exact⟨[],oe⟩
theorem QaA {i:Nat}{t:LI}:∀(vs:LI) (z:Sy),i<z.tup.length->z.tup.Nodup->z.tup.getD i []=t ->
  ∃r,(vs.foldl (JJ a er i t) z).tup=z.tup++r/\(vs.foldl (JJ a er i t) z).mk'=z.mk'/\(vs.foldl (JJ a er i t) z).ed=z.ed++vs.filterMap (pjF a er (vs.foldl (JJ a er i t) z).tup i)/\Qel a er (vs.foldl (JJ a er i t) z).tup i vs/\(vs.foldl (JJ a er i t) z).tup.Nodup
 | [],z,_,hd,_=>⟨[],oe,rfl,oe,λv hv=>(by cases hv),hd⟩
 | v::vs,z,hi,hd,ht=>by
  have key:∃O,(JJ a er i t z v).tup=z.tup++O/\(JJ a er i t z v).mk'=z.mk'/\(JJ a er i t z v).ed=z.ed++[v].filterMap (pjF a er (JJ a er i t z v).tup i)/\Qel a er (JJ a er i t z v).tup i [v]/\(JJ a er i t z v).tup.Nodup:=by
   by_cases I:(pnx a er t v).length=0
   ·have e:JJ a er i t z v=z:=by unfold JJ;rw[OZ I]
    rw[e];refine⟨[],oe,rfl,?_,λw G h=>?_,hd⟩
    ·rw[QgZ (by unfold pjF;rw[ht,OZ I]),LK]
    rw[Lc.1 G,ht]at h;exact O1 I h
   by_cases J:pnx a er t v∈z.tup
   ·have e:JJ a er i t z v=⟨z.tup,z.mk',z.ed++[((i:Int),v,(z.tup.idxOf (pnx a er t v):Int))]⟩:=by unfold JJ Vm;rw[OY I,OZ J]
    rw[e];refine⟨[],oe,rfl,?_,λw G h=>?_,hd⟩
    ·rw[Qb3 (by unfold pjF;rw[ht,OY I])]
    rw[Lc.1 G];show pnx a er (z.tup.getD i []) v∈z.tup;rw[ht];exact J
   have e:JJ a er i t z v=⟨z.tup++[pnx a er t v],z.mk',z.ed++[((i:Int),v,((z.tup++[pnx a er t v]).idxOf (pnx a er t v):Int))]⟩:=by unfold JJ Vm;rw[OY I,OY J]
   rw[e];have V:(z.tup++[pnx a er t v]).getD i []=t:=by rw[Y8 hi,ht]
   refine⟨[pnx a er t v],Z,Z,?_,λw G h=>?_,Y6 hd J⟩
   ·rw[Qb3 (by unfold pjF;rw[V,OY I])]
   rw[Lc.1 G];show pnx a er ((z.tup++[pnx a er t v]).getD i []) v∈z.tup++[pnx a er t v];rw[V];simp
  obtain⟨O,k1,k2,k3,Y,k5⟩:=key;have U:i<(JJ a er i t z v).tup.length:=by rw[k1];simp;omega
  obtain⟨r2,g1,g2,g3,g4,g5⟩:=QaA vs (JJ a er i t z v) U k5 (by rw[k1,Y8 hi,ht]);rw[LP];refine⟨O++r2,by rw[g1,k1,LC],g2.D k2,?_,?_,g5⟩
  ·rw[g3,k3,LC];congr 1;rw[show v::vs=[v]++vs from rfl,List.filterMap_append];congr 1;rw[g1];exact(Qgt U Y).symm
  intro w G h;rcases Ll.1 G with rfl|G
  ·have:=Y.pre (r:=r2) U;rw[<-g1]at this;exact this w Lj h
  exact g4 w G h
end
structure PjG (a:Qz)(o:LI)(i:Nat)(s:Sy):Prop where
 nd:s.tup.Nodup
 le:i<=s.tup.length
 hd:s.tup.getD 0 []=rch a [0] (ers a o)/\0<s.tup.length
 mk2:s.mk'=((oP 0 i).filter λj=>mkd a (s.tup.getD j [])).map λj:Nat=>(j:Int)
 ed:s.ed=grid (pjF a (ers a o) s.tup) (kpt a o) i
 cl:∀j,j<i->Qel a (ers a o) s.tup j (kpt a o)
theorem PjG.next {s:Sy}(h:PjG a o i s)(hi:i<s.tup.length):PjG a o (i+1) ((kpt a o).foldl (JJ a (ers a o) i (Jk s i)) (zz a i (Jk s i) s)):=by
 have ht:=Ui (a:=a) i (Jk s i) s;have V:(zz a i (Jk s i) s).ed=s.ed:=(QbA a i (Jk s i) s).2.1;obtain⟨r,g1,Y,U,g4,g5⟩:=QaA (a:=a) (er:=ers a o) (kpt a o) (zz a i (Jk s i) s) (i:=i) (t:=Jk s i) (by rw[ht];exact hi) (by rw[ht];exact h.nd) (by rw[ht];rfl);generalize (kpt a o).foldl (JJ a (ers a o) i (Jk s i)) (zz a i (Jk s i) s)=I at *;rw[ht]at g1;rw[V]at U;have pre:∀j,j<=i->I.tup.getD j []=s.tup.getD j []:=λj G=>by rw[g1];exact Y8 oa
 refine⟨g5,by rw[g1];simp;omega,⟨by rw[pre 0 oa];exact h.hd.1,by rw[g1];simp;omega⟩,?_,?_,λj G=>?_⟩
 ·rw[Y,Mt,LW,Lv,LY];have e1:((oP 0 i).filter λj=>mkd a (I.tup.getD j []))=(oP 0 i).filter λj=>mkd a (s.tup.getD j []):=by
   refine NH λj G=>?_;rw[L4]at G;rw[pre j oa]
  rw[e1];unfold zz;by_cases J:mkd a (Jk s i)=true
  ·rw[OZ J];have O:mkd a (I.tup.getD i [])=true:=by rw[pre i (Lr _)];exact J
   simp only[OF,O,if_true,List.filter_nil,oU,OI];rw[h.mk2]
  rw[OY J];have O:mkd a (I.tup.getD i [])=false:=by rw[pre i (Lr _)];exact eq_false_of_ne_true J
  rw[L9,OY (by rw[O];simp),MV,h.mk2];simp
 ·rw[U,KB,h.ed];congr 1;unfold grid;refine Y9 λj G=>?_;rw[L4]at G;rw[g1];exact(Qgt oa (h.cl j oa)).symm
 by_cases e2:j=i
 ·subst e2;exact g4
 have:=(h.cl j oa).pre (r:=r) oa;rw[<-g1]at this;exact this
theorem Qde {a:Qz}{o:LI}:∀(f i:Nat) (s:Sy),PjG a o i s->∃G,PjG a o G (j6 a (kpt a o) (ers a o) f i s)/\((j6 a (kpt a o) (ers a o) f i s).tup.length=G\/G=i+f)
 | 0,i,s,h=>⟨i,h,.inr Z⟩
 | f+1,i,s,h=>by
  rw[j6];split
  ·rename_i hi;obtain⟨G,I,J⟩:=Qde f (i+1) _ (h.next hi);exact⟨G,I,oa⟩
  exact⟨i,h,.inl (oq h.le)⟩
theorem Qj5 {a:Qz}{er:LI}{n:Nat}(G:a.st.toNat=n)(i:Nat)(t:LI):∀(vs:LI) (z:Sy),PjO n z->PjO n (vs.foldl (JJ a er i t) z)
 | [],_,h=>h
 | v::vs,z,h=>by
  refine Qj5 G i t vs _ ?_;unfold JJ;split
  ·exact h
  have:=h.add (u:=pnx a er t v) (by unfold pnx rch cls;rw[G];exact qw _ _);exact⟨this.v,this.d⟩
theorem Qpp {a:Qz}{kp er:LI}{n:Nat}(G:a.st.toNat=n):∀(f i:Nat) (z:Sy),PjO n z->PjO n (j6 a kp er f i z)
 | 0,_,_,h=>h
 | f+1,i,z,h=>by
  rw[j6];split
  ·refine Qpp G f (i+1) _ (Qj5 G _ _ _ _ ⟨?_,?_⟩)
   ·rw[Ui];exact h.v
   rw[Ui];exact h.d
  exact h
structure PjP (a:Qz)(o:LI)(Q:List (LI)):Prop where
 st:(ZI a o).st=(Q.length:Int)
 nd:Q.Nodup
 v:∀t∈Q,Ss a.st.toNat t
 le:Q.length<=2 ^ a.st.toNat
 hd:Q.getD 0 []=rch a [0] (ers a o)/\0<Q.length
 mk2:(ZI a o).mr=((oP 0 Q.length).filter λj=>mkd a (Q.getD j [])).map λj:Nat=>(j:Int)
 ed:(ZI a o).ed=grid (pjF a (ers a o) Q) (kpt a o) Q.length
 cl:∀j,j<Q.length->Qel a (ers a o) Q j (kpt a o)
abbrev VV (a:Qz)(o:LI):List (LI):=(prj a o).tup
theorem Qr9 (a:Qz)(o:LI):PjG a o 0 (pj0 a (ers a o)):=⟨by simp[pj0],oe,⟨by simp[pj0],by simp[pj0]⟩,by simp[pj0],by simp[pj0,grid],λj G=>oa⟩
theorem Qr8 (a:Qz)(er:LI):PjO a.st.toNat (pj0 a er):=⟨λt ht=>by
 rw[show(pj0 a er).tup=[rch a [0] er] from rfl,Lc]at ht;rw[ht];unfold rch cls;exact qw _ _,by simp[pj0]⟩
theorem yA (J:a.st≠0):PjP a o (VV a o):=by
 have e:prj a o=j6 a (kpt a o) (ers a o) (2 ^ a.st.toNat) 0 (pj0 a (ers a o)):=by unfold prj;rw[OY J]
 obtain⟨O,G,U⟩:=Qde (2 ^ a.st.toNat) 0 _ (Qr9 a o);have I:=Qpp (kp:=kpt a o) (er:=ers a o) (n:=a.st.toNat) Z (2 ^ a.st.toNat) 0 _ (Qr8 a (ers a o));rw[<-e]at G U I;have hl:O=(prj a o).tup.length:=by
  have V:=G.le;have Y:=I.le;omega
 subst hl;exact⟨Z,G.nd,I.v,I.le,G.hd,G.mk2,G.ed,G.cl⟩
theorem PjP.J {Q:List (LI)}(h:PjP a o Q)(J:j<Q.length)(v:Int):
  xu (ZI a o).ed j v=if v∈kpt a o/\(pnx a (ers a o) (Q.getD j []) v).length≠0 then some (Q.idxOf (pnx a (ers a o) (Q.getD j []) v):Int) else none:=by
 rw[h.ed,qT (Qj4 a _ Q)];by_cases G:v∈kpt a o
 ·rw[OZ ⟨J,G⟩];unfold pjF;by_cases I:(pnx a (ers a o) (Q.getD j []) v).length=0
  ·rw[OZ I,OY (λe=>e.2 I)];rfl
  rw[OY I,OZ ⟨G,I⟩];rfl
 rw[OY (λe=>G e.2),OY (λe=>G e.1)]
theorem PjP.to {Q:List (LI)}(h:PjP a o Q)(G:j<Q.length){v:Int}(I:v∈kpt a o)(J:(pnx a (ers a o) (Q.getD j []) v).length≠0):Q.idxOf (pnx a (ers a o) (Q.getD j []) v)<Q.length/\Q.getD (Q.idxOf (pnx a (ers a o) (Q.getD j []) v)) []=pnx a (ers a o) (Q.getD j []) v:=by
 have hl:=Md (h.cl j G v I J);generalize pnx a (ers a o) (Q.getD j []) v=u at *;refine⟨hl,?_⟩;simp[oQ,hl]
theorem QgR (G:QL a)(o:LI):YD (kpt a o):=G.ali.filter _
theorem PjP.okay (J:QL a){Q:List (LI)}(h:PjP a o Q)(h9:Q.length<=4096):QL (ZI a o):=by
 refine⟨λe G=>J.al e (LB.1 G).1,QgR J o,by rw[h.st];omega,by rw[h.st];omega,λs O=>?_,?_,λe G=>?_,by rw[h.ed];exact Qb0 (Qj4 a _ Q) (QgR J o) _⟩
 ·rw[h.mk2]at O;simp only[Oj,Of,Od]at O;obtain⟨i,⟨hi,_⟩,rfl⟩:=O;rw[h.st];omega
 ·rw[h.mk2];unfold YD;rw[Mj];refine List.Pairwise.sublist MW ?_;exact(Nd (s:=0) (n:=Q.length)).imp (λh=>oa)
 rw[h.ed]at G;obtain⟨j,v,V,U,I⟩:=ja G;unfold pjF at I;split at I
 ·cases I
 rename_i Y;cases I
 have:=(h.to V U Y).1;rw[h.st];exact⟨og,og,U,og,og⟩
theorem PjP.mr {a:Qz}{o:LI}{Q:List (LI)}(h:PjP a o Q){j:Nat}(G:j<Q.length):(j:Int)∈(ZI a o).mr↔mkd a (Q.getD j [])=true:=by
 rw[h.mk2];simp only[Oj,Of,Od];constructor
 ·rintro⟨k,⟨_,h2⟩,I⟩;have:k=j:=oa
  subst this;exact h2
 intro h2;exact⟨j,⟨oa,h2⟩,Z⟩
theorem PjP.nxt {a:Qz}{o:LI}{Q:List (LI)}(h:PjP a o Q){j:Nat}(I:j<Q.length){v:Int}(J:v∈kpt a o):nxt (ZI a o).ed j v=if(pnx a (ers a o) (Q.getD j []) v).length=0 then -1 else(Q.idxOf (pnx a (ers a o) (Q.getD j []) v):Int):=by
 rw[Ku,h.J I v];by_cases G:(pnx a (ers a o) (Q.getD j []) v).length=0
 ·rw[OY (λe=>e.2 G),OZ G]
 rw[OZ ⟨J,G⟩,OY G]
theorem Qj0 {a:Qz}{o:LI}{Q:List (LI)}(h:PjP a o Q){i:Nat}:∀(vs:LI) (z:Sy),(∀v∈vs,v∈kpt a o)->i<z.tup.length->(∃r,Q=(vs.foldl (JJ a (ers a o) i (Q.getD i [])) z).tup++r) ->
  vs.foldl (VX (ZI a o) i) (Yw z.tup.length)=Yw (vs.foldl (JJ a (ers a o) i (Q.getD i [])) z).tup.length
 | [],_,_,_,_=>rfl
 | v::vs,z,U,hi,G=>by
  rw[LP]at G ⊢;rw[LP];obtain⟨r,G⟩:=G;obtain⟨r2,Y⟩:=zU (a:=a) (er:=ers a o) i (Q.getD i []) vs (JJ a (ers a o) i (Q.getD i []) z v);obtain⟨r3,V⟩:=Qj6 (a:=a) (er:=ers a o) i (Q.getD i []) z v;have I:Q=(JJ a (ers a o) i (Q.getD i []) z v).tup++(r2++r):=by rw[<-LC,<-Y];exact G
  have he:z.tup.length<=Q.length:=by
   have:=O0 oY I;rw[V]at this;simp only[oO]at this;omega
  have hn:=h.nxt (j:=i) oa (U v Lj);have ha:VX (ZI a o) i (Yw z.tup.length) v=Yw (JJ a (ers a o) i (Q.getD i []) z v).tup.length:=by
   unfold VX;rw[hn];by_cases J:(pnx a (ers a o) (Q.getD i []) v).length=0
   ·have e:JJ a (ers a o) i (Q.getD i []) z v=z:=by unfold JJ;rw[OZ J]
    rw[OZ J,e,OY (λh=>O1 h.1 oh)]
   rw[OY J];by_cases O:pnx a (ers a o) (Q.getD i []) v∈z.tup
   ·have e:(JJ a (ers a o) i (Q.getD i []) z v).tup=z.tup:=by unfold JJ Vm;rw[OY J,OZ O]
    rw[e]at I ⊢;have hx:Q.idxOf (pnx a (ers a o) (Q.getD i []) v)=z.tup.idxOf (pnx a (ers a o) (Q.getD i []) v):=by
     generalize pnx a (ers a o) (Q.getD i []) v=u at *;rw[I,Mf,OZ O]
    have:=Md O;rw[hx,OY];intro h1;exact h1.2 ((Kx _ _).2 ⟨oa,oa⟩)
   have e:(JJ a (ers a o) i (Q.getD i []) z v).tup=z.tup++[pnx a (ers a o) (Q.getD i []) v]:=by unfold JJ Vm;rw[OY J,OY O]
   rw[e]at I ⊢;have hx:Q.idxOf (pnx a (ers a o) (Q.getD i []) v)=z.tup.length:=by
    generalize pnx a (ers a o) (Q.getD i []) v=u at *;rw[I,LC,Mf,OY O];simp
   rw[hx,OZ ⟨oa,λh1=>oq ((Kx _ _).1 h1)⟩,Le,Lz,qM]
  rw[ha];exact Qj0 h vs _ (λw hw=>U w (Lh _ hw)) (by rw[V];simp;omega) ⟨r,G⟩
theorem Qdd {a:Qz}{o:LI}{Q:List (LI)}(h:PjP a o Q):∀(f g i:Nat) (z:Sy),(j6 a (kpt a o) (ers a o) f i z).tup=Q->Q.length<=i+f->Q.length<=i+g->z8 (ZI a o) g i (Yw z.tup.length)=Yw Q.length
 | 0,g,i,z,G,U,V=>by
  have e:z.tup=Q:=G;rw[e];cases g with
  | zero=>rfl
  | succ g=>rw[z8,OY (by rw[JL];omega)]
 | f+1,g,i,z,G,U,V=>by
  rw[j6]at G;by_cases hi:i<z.tup.length
  ·rw[OZ hi]at G;obtain⟨I,h1⟩:=Qj3 (a:=a) (er:=ers a o) (kp:=kpt a o) f (i+1) ((kpt a o).foldl (JJ a (ers a o) i (Jk z i)) (zz a i (Jk z i) z));obtain⟨r2,h2⟩:=zU (a:=a) (er:=ers a o) i (Jk z i) (kpt a o) (zz a i (Jk z i) z);rw[G]at h1;have J:Q=z.tup++(r2++I):=by rw[h1,h2,Ui,LC]
   have hT:Jk z i=Q.getD i []:=by rw[J,Y8 hi];rfl
   have he:i<Q.length:=by rw[J,Le];omega
   obtain⟨g,rfl⟩:∃Y,g=Y+1:=⟨g - 1,oa⟩;rw[z8,OZ (by rw[JL];exact hi)];have ha:xh (Yw z.tup.length) i=(i:Int):=by unfold xh Yw;simp[oQ,hi]
   have O:=Qj0 h (kpt a o) (zz a i (Jk z i) z) (λv hv=>hv) (by rw[Ui];exact hi) ⟨I,by rw[<-hT];exact h1⟩;rw[Ui,<-hT]at O;rw[ha];unfold fdR;rw[show(ZI a o).al=kpt a o from rfl,O];exact Qdd h f g (i+1) _ G oa oa
  rw[OY hi]at G;rw[G]at hi ⊢;cases g with
  | zero=>rfl
  | succ g=>rw[z8,OY (by rw[JL];exact hi)]
theorem QjV (J:a.st≠0):Xc (ZI a o)=ZI a o:=by
 have h:=yA (o:=o) J;have hp:=h.hd.2;have V:xx (ZI a o)=Yw (VV a o).length:=by
  unfold xx fd0;rw[OZ (by rw[h.st];omega)];have e:prj a o=j6 a (kpt a o) (ers a o) (2 ^ a.st.toNat) 0 (pj0 a (ers a o)):=by unfold prj;rw[OY J]
  refine Qdd h (2 ^ a.st.toNat) _ 0 (pj0 a (ers a o)) (by rw[<-e]) (oq h.le) (by rw[h.st];omega)
 have O:∀i,i<(VV a o).length->xh (Yw (VV a o).length) i=(i:Int):=λi hi=>by unfold xh Yw;simp[oQ,hi]
 have Y:Y2 (ZI a o) (Yw (VV a o).length) (VV a o).length=(ZI a o).mr:=by
  unfold Y2;rw[h.mk2];congr 1;refine NH λi hi=>?_;rw[L4]at hi;rw[O i oa];have h1:=h.mr (j:=i) oa;rw[<-h.mk2];cases G:mkd a ((VV a o).getD i []) with
  | true=>exact O2 (h1.2 G)
  | false=>exact O4 λh2=>by rw[h1.1 h2]at G;cases G
 have hE:Xh (ZI a o) (Yw (VV a o).length) (VV a o).length=(ZI a o).ed:=by
  unfold Xh;rw[show(ZI a o).al=kpt a o from rfl];refine Eq.D ?_ h.ed.symm;unfold grid;refine Y9 λi hi=>?_;rw[L4]at hi;refine U5 λv U=>?_;have hi':i<(VV a o).length:=oa
  unfold KH pjF;rw[O i hi',h.nxt hi' U];by_cases I:(pnx a (ers a o) ((VV a o).getD i []) v).length=0
  ·rw[OZ I,OZ I,OY oh]
  have hl:=(h.to hi' U I).1;rw[OY I,OY I,OZ oa];have e:zC (Yw (VV a o).length) ((VV a o).idxOf (pnx a (ers a o) ((VV a o).getD i []) v):Int)=((VV a o).idxOf (pnx a (ers a o) ((VV a o).getD i []) v):Int):=by
   generalize (VV a o).idxOf (pnx a (ers a o) ((VV a o).getD i []) v)=k at *;have G:(k:Int)∈Yw (VV a o).length:=(Kx _ _).2 ⟨oa,oa⟩;unfold zC;rw[OZ G];have hx:=Md G;have e1:=List.getElem_idxOf hx;unfold Yw at e1 hx ⊢;rw[MM,Mx]at e1;exact e1
  rw[e]
 unfold Xc;rw[V,JL,Y,hE,<-h.st]
theorem Qnt (J:QL a)(G:a.st≠0)(O:a.st<=12):KA (ZI a o)=true/\QL (ZI a o)/\0<(ZI a o).st/\(ZI a o).st<=2 ^ a.st.toNat:=by
 have h:=yA (o:=o) G;have hl:(VV a o).length<=4096:=LA h.le (LA (Nt oh (show a.st.toNat<=12 by omega)) oh);have hok:=h.okay J hl;have I:0<(ZI a o).st:=by rw[h.st];have:=h.hd.2;omega
 have h1:=yX hok I;rw[QjV G]at h1;refine⟨h1,hok,I,?_⟩;rw[h.st]
 exact_mod_cast h.le
end Go.Lg
