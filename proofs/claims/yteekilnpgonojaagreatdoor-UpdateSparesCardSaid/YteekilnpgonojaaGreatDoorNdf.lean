/- Merged out of 14 texts. -/
import Derived.Test.YteekilnpgonojaaGreatDoorNde
import Derived.Test.YteekilnpgonojaaGreatDoorRows
import Derived.JoinedOf
import Derived.Test.YteekilnpgonojaaGreatDoorCards
import Derived.SevenTiedAt
set_option maxHeartbeats 40000000
set_option maxRecDepth 100000
set_option linter.all false
open Go Go.Lg
open Go.Value renaming int->oF
open Go.IntKind renaming i64->oG
open _root_.List renaming mem_singleton->oI,length->oP,getD->oQ,range->oT
open _root_.Nat renaming le_of_not_lt->OJ
open Go renaming World->O1,Value->O2,Operand->O3,Program->O4
open Go.Proofs Go.Proofs.Tryz
open Go.Proofs.YteekilnpgonojaaGreatDoor
variable {w w':O1}{L L':LN}{n t i sz b j T E g N id o ty cap b1 kt hi b2 G gp:Nat}{cs us news:LV}{a:Q0}{H:xC}{α β:Type}{y:O3}{c:Zt}{z va ve vm vk:O2}{l u al rs:LI}{f f1:Fr}{P:O4}{fn:Func}{q:DV}{s:Int}{es:List Ed}{d:xF}{af:xD}{gd:xt}{co:List YV}{k':IntKind}{at_:Array Nat}{ls:xx}{qx:List XV}
namespace Go.Lg
theorem Js (w:O1):Q6 prog 25 [] w λr w'=>O5 [] w w'/\Qei w.heap.size w'.heap r QaZ:=by
 refine Zo func25 ?_;refine Qc<|Qe<|Qo (us:=Yf) U λG w1 h0 hR ho=>xe ?_;refine Qc<|QN<|(J9 3 og w1).mono ?_;rintro r2 w2 ⟨he,c1,rfl,h1,hf⟩;refine Qe<|Qo (us:=Yf) U λb1 w3 h3 hp h4=>Qe<|Qj (us:=c1.cells) h4 U U U U (hf [] oe).ones λY h5 hr=>xe ?_;have hg:O5 [] w2 Y:=h3.O h5 hp;have hS:=he.size;have h6:=ho.lt;have h7:=hr.lt;refine Qc<|Qe<|QA (us:=[[oF oG 1],[oF oG 2]]) U U og oe ⟨rfl,rfl,rfl,rfl,Z⟩ λO w5 hs hT h8=>Qe<|QA (us:=[[oF oG 0],[oF oG 1]]) rfl rfl og oe ⟨rfl,rfl,rfl,rfl,Z⟩ λS w6 hh hU hA =>
  x (Qx ⟨rfl,U,U,Z⟩)<|x (Qx ⟨U,U,U,Z⟩)<|Qe<|QA (us:=[QE (0,1,1),QE (1,2,0)]) U U og (by exact(by decide:2*3<=1000000)) oC λT w7 ha hV hB=>?_
 have hC:=(hs.D hh).D ha;refine x (Qx ⟨U,U,U,U,Z⟩)<|x (Zn [(0,[.string Y4]),(1,[.slice (some ⟨O,0,none⟩) 2 2,oF oG 2,.slice (some ⟨S,0,none⟩) 2 2,.slice (some ⟨T,0,none⟩) 2 2])] ⟨U,U,U,U,Z⟩) <|
  Qe<|QA (us:=[[.string Y4,.slice (some ⟨O,0,none⟩) 2 2,oF oG 2,.slice (some ⟨S,0,none⟩) 2 2,.slice (some ⟨T,0,none⟩) 2 2]]) U U og (by exact(by decide:1*5<=1000000)) oA λI w8 V hW hD=>?_
 have ht:=hC.D V;refine Zc rfl<|Qe<|QB (j:=2) (u:=.slice (some ⟨I,0,none⟩) 1 1) (hr.I ht) U U oe rfl λw9 hi hE=>xe ?_;refine Qc<|x (Qx ⟨U,U,Z⟩)<|x (Qx ⟨U,U,Z⟩)<|Qe<|QA (us:=[QG (1,1),QG (2,1)]) U U og (by exact(by decide:2*2<=1000000)) oC λhc hY hu hZ hF=>x (Qx ⟨U,U,Z⟩) <|
  Qe<|QA (us:=[[.string Y5,.slice (some ⟨hc,0,none⟩) 2 2]]) U U og (by exact(by decide:1*2<=1000000)) oA λJ hG hv ga hH=>?_
 have hj:=hu.D hv;refine Zc rfl<|Qe<|QB (j:=3) (u:=.slice (some ⟨J,0,none⟩) 1 1) (hE.I hj) U U oe rfl λhw hk hJ=>xe ?_;have gb:=hs.size;have gc:=hh.size;have gg:=ha.size;have gh:=V.size;have gi:=hi.size;have gj:=hu.size;have hl:O5 [b1] Y hw:=((ht.any.Q hi).D hj.any).Q hk;have hK:G∉[b1]:=om
 have hM:=((ho.I he).I hg).J hl hK;have hN:Zm [c1.ve,c1.vc,.slice (some ⟨I,0,none⟩) 1 1,.slice (some ⟨J,0,none⟩) 1 1,c1.vk]:=by
  have h9:=(hf [] oe).ones;exact⟨h9.1,h9.2.1,U,U,h9.2.2.2.2.1,Z⟩
 refine Qc<|Q9 hJ U U<|Qe<|Qj (us:=[c1.ve,c1.vc,.slice (some ⟨I,0,none⟩) 1 1,.slice (some ⟨J,0,none⟩) 1 1,c1.vk]) hM U U U U hN λgk hy hO=>xe ?_;have H:=CL.cel_ex (CL.cel_rq h1 (.slice (some ⟨I,0,none⟩) 1 1) [⟨Y4,⟨.slice (some ⟨O,0,none⟩) 2 2,.slice (some ⟨S,0,none⟩) 2 2,.slice (some ⟨T,0,none⟩) 2 2,UG.a⟩⟩]) (.slice (some ⟨J,0,none⟩) 1 1) [⟨Y5,.slice (some ⟨hc,0,none⟩) 2 2,[(1,1),(2,1)]⟩];refine Qk ⟨[.agg #[c1.ve,c1.vc,.slice (some ⟨I,0,none⟩) 1 1,.slice (some ⟨J,0,none⟩) 1 1,c1.vk]],⟨⟨_,U,Qp U (hO.at (L:=[]) oe).cells⟩,Z⟩,(((h0.D he).D hg).O hl oa).O hy oa,_,rfl,H,λL hL=>?_⟩;have hz:∀b∈G::L,b<w1.heap.size:=λb E=>by
  rcases Li.1 E with rfl|E
  ·exact h6
  have:=hL b E;omega
 have hP:∀b∈b1::G::L,b<Y.heap.size:=λb E=>by
  rcases Li.1 E with rfl|E
  ·exact h7
  have:=hz b E;omega
 have h2:=(hf (G::L) hz).up (L':=b1::G::L) (λb E=>by
  rcases Li.1 E with rfl|E
  ·exact .inr hp
  exact .inl E)
 have hn:=(h2.I hg).st (hl.mono oe);have nB:∀b,Y.heap.size<=b->b∉b1::G::L:=λb E hm=>ou (hP b hm)
 have hI:XW (b1::G::L) w8.heap (.slice (some ⟨I,0,none⟩) 1 1) [⟨Y4,⟨.slice (some ⟨O,0,none⟩) 2 2,.slice (some ⟨S,0,none⟩) 2 2,.slice (some ⟨T,0,none⟩) 2 2,UG.a⟩⟩]:=by
  refine⟨hD.arr (nB _ oa) (n:=1) (cap:=1) (sz:=5) U og (Lx _),λq H=>?_,λq H=>?_⟩
  ·rw[Lb.1 H];exact⟨(((h8.I hh).I ha).I V).arr (nB _ oa) (n:=2) (cap:=2) (sz:=1) U og (Lx _),((hA.I ha).I V).arr (nB _ oa) (n:=2) (cap:=2) (sz:=1) U og (Lx _),(hB.I V).arr (nB _ oa) (n:=2) (cap:=2) (sz:=3) U og (Lx _)⟩
  rw[Lb.1 H];exact Xw og
 have hX:jg (b1::G::L) hG.heap (.slice (some ⟨J,0,none⟩) 1 1) [⟨Y5,.slice (some ⟨hc,0,none⟩) 2 2,[(1,1),(2,1)]⟩]:=by
  refine⟨hH.arr (nB _ oa) (n:=1) (cap:=1) (sz:=2) U og (Lx _),λq H=>?_,λq H=>?_⟩
  ·rw[Lb.1 H];exact(hF.I hv).arr (nB _ oa) (n:=2) (cap:=2) (sz:=2) U og (Lx _)
  rw[Lb.1 H];exact Xw og
 have hQ:ZH (b1::G::L) hw.heap (CL.mk c1.ve c1.vc (.slice (some ⟨I,0,none⟩) 1 1) (.slice (some ⟨J,0,none⟩) 1 1) c1.vk c1.ev c1.co [⟨Y4,⟨.slice (some ⟨O,0,none⟩) 2 2,.slice (some ⟨S,0,none⟩) 2 2,.slice (some ⟨T,0,none⟩) 2 2,UG.a⟩⟩] [⟨Y5,.slice (some ⟨hc,0,none⟩) 2 2,[(1,1),(2,1)]⟩] c1.cs):=
  ⟨hn.ev,hn.co,((hI.st (hi.mono oe)).I hj).st (hk.mono oe),hX.st (hk.mono oe),hn.cs⟩
 exact(hQ.st (hy.mono oe)).up (λb E=>.inl (Lj _ (Lj _ E)))
abbrev XK:YV:=⟨.empty,V9⟩
def Ju (x:YV):YV:=⟨x.nm,KN x.a⟩
def Yq (c:Zt)(j:Nat):Zt:={ c with rq:=c.rq.set j (Ju (c.rq.getD j XK)) }
theorem Vy {l:List α}(h:j<l.length)(d:α):l.getD j d=l[j]'h:=by rw[Mq,LD h];rfl
theorem KH {f:α->β}{l:List α}(E:j<l.length){y:α}(h:f y=f (l[j]'E)):(l.set j y).map f=l.map f:=by
 rw[NE,h];have:f (l[j]'E)=(l.map f)[j]'(by rw[Lh];exact E):=by rw[LO]
 rw[this,List.set_getElem_self]
theorem QgX {s:List ByteArray}{x:YV}(h:ZW n u s x=0):ZW n u s (Ju x)=0:=by
 unfold ZW at h;split at h
 ·cases h
 rename_i H;split at h
 ·cases h
 rename_i I;split at h
 ·rename_i E;exact OW h E
 rename_i E;split at h
 ·cases h
 rename_i J;split at h
 ·cases h
 rename_i G;split at h
 ·cases h
 rename_i O;split at h
 ·cases h
 rename_i S;obtain⟨a1,a2⟩:=Qgw (a:=x.a) (oz J) G;have e:ZW n u s (Ju x)=if Y1 x.nm=false then 7 else if x.nm∈s then 8 else if JD (KN x.a)≠0 then JD (KN x.a)else if Jl (KN x.a)=false then 6 else if x.a.st=0 then 12 else
  if(x.a.al.any λe=>decide ((n:Int)<=e))=true then 2 else if(mns x.a.al u).length≠0 then 9 else 0:=rfl
 rw[e,OT H,OT I,OT (not_not_intro a2),OT (by rw[a1];decide),OT G,OT O,OT S]
theorem Qab {n:Nat}{u:LI}:∀{l:List YV}{s:List ByteArray}{j:Nat}(G:j<l.length),XQ n u s l=0->XQ n u s (l.set j (Ju (l[j]'G)))=0
 | [],_,_,G,_=>by simp at G
 | x::l,s,j,G,h=>by
  rw[X6]at h;split at h
  ·rename_i E;exact OW h E
  rename_i E;have E:=Lo.1 E;cases j with
  | zero =>
   rw[NQ,X6];show(if ZW n u s (Ju x)≠0 then _ else XQ n u (s++[x.nm]) l)=0
   rw[OT (not_not_intro (QgX E))];exact h
  | succ j =>
   rw[Nw,X6,OT (not_not_intro E)];exact Qab (oz G) h
theorem zL (G:j<c.rq.length)(h:Zi c=0):Zi (Yq c j)=0:=by
 have E:=VG.1 h;refine VG.2 ⟨E.ev,E.ne,E.n8,?_,E.co,?_,E.cd⟩
 ·show c.co.length+(c.rq.set j _).length<=12;rw[Mc];exact E.n12
 show XQ _ _ _ (c.rq.set j (Ju (c.rq.getD j XK)))=0;rw[Vy G];exact Qab G E.rq
theorem Qey (x:YV):∀(l:List YV) (k b:Nat),rqB (Ju x) k b l=rqB x k b l
 | [],_,_=>rfl
 | y::l,k,b=>by rw[rqB,rqB,Qey x l];rfl
theorem QcD (E:j<c.rq.length):srR (Yq c j)=srR c:=by
 show(c.rq.set j (Ju (c.rq.getD j XK))).map (λx=>rqB x 0 0 c.co)=c.rq.map λx=>rqB x 0 0 c.co;rw[Vy E];exact KH E (Qey _ _ _ _)
theorem Qj5 (E:j<c.rq.length)(k:Int):srK (Yq c j) k=srK c k:=by
 unfold srK;rw[QcD E];rfl
theorem QgW (E:j<c.rq.length):O9 (Yq c j)=O9 c:=by
 unfold O9;rw[QcD E];rfl
theorem Qm2 (E:j<c.rq.length)(i:Nat):((Yq c j).rq.getD i XK).nm=(c.rq.getD i XK).nm:=by
 have h:(c.rq.set j (Ju (c.rq.getD j XK))).map (·.nm)=c.rq.map (·.nm):=by rw[Vy E];exact KH E U
 have e:∀l:List YV,(l.getD i XK).nm=(l.map (·.nm)).getD i .empty:=λl=>by
  rw[Mq,Mq,M2];cases l[i]? <;> rfl
 show((c.rq.set j (Ju (c.rq.getD j XK))).getD i XK).nm=_;rw[e,e,h]
theorem Qm4 (E:j<c.rq.length)(m:VW):ZN (Yq c j) m=ZN c m:=by
 unfold ZN;have:=Qm2 E m.ix.toNat;unfold XK at this;rw[this];rfl
theorem QfA (J:j<c.rq.length)(m:VW):XJ (Yq c j) m=XJ c m\/(m.kd=1/\m.ix.toNat=j/\XJ (Yq c j) m=Yq (XJ c m) 0/\(XJ c m).rq.length=1):=by
 have e:∀r:List YV,r=chs (Yq c j).rq (prt m).rq->XJ (Yq c j) m={ XJ c m with rq:=r }:=λr h=>by subst h;rfl
 by_cases I:m.kd=1
 ·have E:(prt m).rq=[m.ix]:=by unfold prt;simp[I]
  have G:(XJ c m).rq=[c.rq.getD m.ix.toNat XK]:=by show chs c.rq (prt m).rq=_;rw[E];rfl
  by_cases H:m.ix.toNat=j
  ·refine .inr ⟨I,H,?_,by rw[G];rfl⟩;rw[e [Ju (c.rq.getD j XK)] (by rw[E];show _=[(c.rq.set j (Ju (c.rq.getD j XK))).getD m.ix.toNat XK];rw[H,Vy (l:=c.rq.set j _) (by rw[Mc];exact J),List.getElem_set_self])];unfold Yq;rw[G,H];rfl
  refine .inl ?_;rw[e [c.rq.getD m.ix.toNat XK] (by
   rw[E];show _=[(c.rq.set j (Ju (c.rq.getD j XK))).getD m.ix.toNat XK];rw[Mq,Mq,M9 (λe=>H e.symm)]),<-G]
 refine .inl ?_;have E:(prt m).rq=[]:=by unfold prt;simp[I]
 rw[e [] (by rw[E];rfl)];have G:(XJ c m).rq=[]:=by show chs c.rq (prt m).rq=_;rw[E];rfl
 rw[<-G]
theorem Qdl :Yy c=0↔Zi c=0/\(Ud (O7 c.co)=0/\(xp (O7 c.co)).isSome=true)/\Ud (O7 c.co++O7 c.rq)=0/\(xp (O7 c.co++O7 c.rq)).isSome=true:=by
 unfold Yy;constructor
 ·intro h;split at h
  ·rename_i E;exact OW h E
  rename_i E;split at h
  ·rename_i G;exact OW h G
  rename_i G;split at h
  ·cases h
  rename_i z I;split at h
  ·rename_i H;exact OW h H
  rename_i H;split at h
  ·cases h
  rename_i y J;exact⟨Lo.1 E,⟨Lo.1 G,by rw[I];rfl⟩,Lo.1 H,by rw[J];rfl⟩
 rintro⟨E,⟨G,H⟩,O,S⟩;obtain⟨z,I⟩:=Option.isSome_iff_exists.1 H;obtain⟨y,J⟩:=Option.isSome_iff_exists.1 S;rw[OT (not_not_intro E),OT (not_not_intro G),I];simp only[];rw[OT (not_not_intro O),J]
theorem Qj6 (H:j<c.rq.length)(h:Yy c=0):Yy (Yq c j)=0:=by
 obtain⟨O,S,G,T⟩:=Qdl.1 h;have I:=zL H O;have J:(O7 c.co++O7 (Yq c j).rq).map kaA=(O7 c.co++O7 c.rq).map kaA:=by
  rw[Ls,Ls];congr 1;show((c.rq.set j (Ju (c.rq.getD j XK))).map (·.a)).map kaA=(c.rq.map (·.a)).map kaA;rw[Ms,Ms,Vy H];exact KH H U
 refine Qdl.2 ⟨I,S,?_,?_⟩
 ·have hl:(O7 c.co++O7 (Yq c j).rq).length=(O7 c.co++O7 c.rq).length:=by have:=OV oP J;rwa [Lh,Lh]at this
  unfold Ud at G ⊢;split at G
  ·cases G
  rename_i V;rw[OT (by show ¬12<(O7 c.co++O7 (Yq c j).rq).length;rw[hl];exact V)];have Y:=Yi I;refine(UT _).2 λa E=>?_;rcases Lc.1 E with E|E
  ·exact(UT _).1 G a (Lc.2 (.inl E))
  obtain⟨x,hx,rfl⟩:=LC.1 E;exact Y.rq x hx
 show(xp (O7 c.co++O7 (Yq c j).rq)).isSome=true;rw[Qli J];exact T
theorem Qm3 (G:j<c.rq.length)(h:Zi c=0){m:VW}(E:yq c m=0)(T:Yy (XJ c m)=0):yq (Yq c j) m=0/\Yy (XJ (Yq c j) m)=0:=by
 have V:=zL G h;have Y:Yy (XJ (Yq c j) m)=0:=by
  rcases QfA G m with e|⟨_,_,e,e1⟩
  ·rw[e];exact T
  rw[e];exact Qj6 oa T
 have ha:=(Qdl.1 Y).1;refine⟨?_,Y⟩;have hb:mdE (Yq c j) m=mdE c m:=by
  unfold mdE;rw[Qj5 G,h,V]
 have hl:(Yq c j).rq.length=c.rq.length:=Mc ..;unfold yq at E ⊢;rw[hb];split at E
 ·rename_i H;exact OW E H
 rename_i H;rw[OT H];unfold ji at E ⊢;rw[OT (not_not_intro h)]at E;rw[OT (not_not_intro V),hl];split at E
 ·rename_i I;exact OW E I
 rename_i I;rw[OT (show ¬J8 (Yq c j).co.length none (prt m).co≠0 from I)];split at E
 ·rename_i J;exact OW E J
 rename_i J;rw[OT J];split at E
 ·rename_i O;exact OW E O
 rename_i O;rw[OT (show ¬J8 (Yq c j).ex.length none (prt m).ex≠0 from O)];split at E
 ·rename_i S;exact OW E S
 rename_i S;rw[OT (show ¬J8 (Yq c j).cs.length none (prt m).cs≠0 from S)];split at E
 ·cases E
 rename_i h8;rw[OT (show ¬Qn8 (Yq c j) (prt m)=true from h8)];exact ha
theorem QjM (h:Zi c=0)(hd:(ZP c).1=0){x:Z4}(hx:x∈(ZP c).2):VD c [(false,x)]=(0,c):=by
 obtain⟨_,_,_,_,_,E⟩:=qz hd;have e1:j6 c [(false,x)]=(0,(ZP c).2):=by
  unfold j6 ze;rw[OT (not_not_intro hd),OT (not_not_intro E)];have e:zf (ZP c).2 (false,x)=(0,(ZP c).2):=QgN E hx;rw[qA,e,OT oe,qA]
 unfold VD;rw[e1,OT oe,QcB h hd,OT oe,OT (not_not_intro h)]
theorem QmD (h:Zi c=0)(hd:(ZP c).1=0)(E:j<c.rq.length):VD c [(false,Yh 2 (Ju (c.rq.getD j XK)))]=(0,Yq c j)/\(ZP (Yq c j)).1=0:=by
 obtain⟨a,b,T,V,e,H⟩:=qz hd;have I:=zL E h;have hl:c.co.length+j<(ZP c).2.length:=by rw[e,Lk,Lk,Lh,Lh];omega
 have Y:(ZP c).2[c.co.length+j]'hl=Yh 2 (c.rq[j]'E):=by
  have G:(ZP c).2[c.co.length+j]?=some (Yh 2 (c.rq[j]'E)):=by
   rw[e,MI (by rw[Lh];omega),Lh,show c.co.length+j - c.co.length=j by omega,Mh (by rw[Lh];exact E),M2,LD E];rfl
  rw[LD hl]at G;exact Option.some.inj G
 obtain⟨p1,p2⟩:=Qfj H hl (y:=Yh 2 (Ju (c.rq.getD j XK))) (by rw[Y,Vy E];rfl) ol;have es:(ZP c).2.set (c.co.length+j) (Yh 2 (Ju (c.rq.getD j XK)))=c.co.map (Yh 1)++((Yq c j).rq.map (Yh 2)++(a++b)):=by
  rw[e,NA _ _ (by rw[Lh];omega),Lh,show c.co.length+j - c.co.length=j by omega,List.set_append_left _ _ (by rw[Lh];exact E)];congr 2;exact(NE ..).symm
 have J:ZP (Yq c j)=(0,(ZP c).2.set (c.co.length+j) (Yh 2 (Ju (c.rq.getD j XK)))):=by
  have G:yP (Yq c j)=some ((ZP c).2.set (c.co.length+j) (Yh 2 (Ju (c.rq.getD j XK)))):=by
   unfold yP;rw[show JU (Yq c j).co (Yq c j).ex=some a from T,show Kd (Yq c j).co (Yq c j).cs=some b from V,es];rfl
  have e2:ZP (Yq c j)=(match yP (Yq c j)with|none=>(2,[])|some l=>if Jt l≠0 then(Jt l,[])else(0,l)):=rfl
  rw[e2,G];simp only[];rw[OT (not_not_intro p2)]
 have e1:j6 c [(false,Yh 2 (Ju (c.rq.getD j XK)))]=(0,(ZP (Yq c j)).2):=by
  unfold j6 ze;rw[OT (not_not_intro hd),OT (not_not_intro H)];have e:zf (ZP c).2 (false,Yh 2 (Ju (c.rq.getD j XK)))=(0,(ZP (Yq c j)).2):=by rw[J];exact p1
  rw[qA,e,OT oe,qA]
 have O:(ZP (Yq c j)).1=0:=by rw[J]
 refine⟨?_,O⟩;have S:=QcB I O;have hc:(Yq c j).ev=c.ev:=rfl;rw[hc]at S;unfold VD;rw[e1,OT oe,S,OT oe,OT (not_not_intro I)]
theorem Qks {ps:List xK}(h:y8 c ps)(v:Int):JQ c ps v=0/\(YS c ps v).made=[]/\(YS c ps v).gone=[]:=by
 obtain⟨E,G,H⟩:=QcU h U (λ_=>U) h.ck h.mc v;refine⟨E,?_,H⟩;rw[G,MT.2]
 ·rfl
 intro m _;simp
theorem yI {α:Type}{q:α->Bool}:∀{l:List α},l.Nodup->(∀x∈l,∀y∈l,q x=true->q y=true->x=y)->(l.filter q).length<=1
 | [],_,_=>oe
 | x::l,G,h=>by
  obtain⟨n1,H⟩:=M6.1 G;rw[Me];split
  ·rename_i hx;rw[MT.2]
   ·simp
   intro y E I;exact n1 (h x Lp y (Lj _ E) hx I ▸ E)
  exact yI H λa J b O=>h a (Lj _ J) b (Lj _ O)
theorem Qna {ps:List xK}(h:y8 c ps)(G:j<c.rq.length)(v:Int):JQ (Yq c j) ps v=0/\(YS (Yq c j) ps v).made.length<=1/\(∀k∈(YS (Yq c j) ps v).made,k=(1,(c.rq.getD j XK).nm))/\(YS (Yq c j) ps v).gone=[]:=by
 obtain⟨S,I,T⟩:=QcU h (QgW G) (Qm4 G) (zL G h.ck) (λm E=>Qm3 G h.ck (h.mc m E).1 (h.mc m E).2) v;have H:∀m,(!decide (XJ c m=XJ (Yq c j) m))=true->ZN c m=(1,(c.rq.getD j XK).nm):=λm E=>by
  rcases QfA G m with e|⟨e1,e2,_⟩
  ·rw[e]at E;simp at E
  unfold ZN;rw[e1,OU rfl,e2]
 have J:((O9 c).map (ZN c)).Nodup:=UD h.ck;refine⟨S,?_,λk O=>?_,T⟩
 ·rw[I,Lh];refine yI (List.Pairwise.of_map (ZN c) (λa b V e=>V (by rw[e])) J) λx hx y Y qx qy=>?_;have e:=(H x qx).D (H y qy).symm;obtain⟨i,hi,rfl⟩:=LG hx;obtain⟨i',ha,rfl⟩:=LG Y;have h5:i<((O9 c).map (ZN c)).length:=by rw[Lh];exact hi
  have h6:i'<((O9 c).map (ZN c)).length:=by rw[Lh];exact ha
  have:=(List.getElem_inj (h₀:=h5) (h₁:=h6) J).1 (by rw[LO,LO];exact e);subst this;rfl
 rw[I]at O;obtain⟨m,E,rfl⟩:=LC.1 O;exact H m (L8.1 E).2
def Jp (k:Nat):ByteArray:=(QaZ.co.getD k XK).nm
def UF:List (Bool×Z4):=[(false,⟨3,Y5,V9,[(Jp 1,0),(Jp 2,1)],[],0⟩)]
def Qi4:List (Bool×Z4):=[(true,⟨1,Jp 1,V9,[],[],0⟩)]
def Kq:Sys:=Qgl QaZ
def QeY:Sys:=edS Kq UF
theorem Ql7:yn QaZ=0:=od
theorem QoG:jn Kq UF=0:=od
theorem QoC:(YS (VD Kq.c UF).2 Kq.ps 1).kept=[(1,Y4)]:=od
theorem QoB:(YS (VD Kq.c UF).2 Kq.ps 1).made=[(2,Y5)]:=od
theorem QoD:(YS (VD Kq.c UF).2 Kq.ps 1).gone=[]:=od
theorem QoF:jn QeY Qi4=9:=od
theorem Qi3:QeY.made=3:=od
theorem Qii {pS:String}{fs:Array Field}(ft o:Nat){x:O3}{v:O2}(E:P.underlying t=some (.struct fs))(G:(fs[j]?).map (λd=>(d.type,d.offset))=some (ft,o))[h1:Ja P ft](hx:ev f x=.agg us.toArray)(H:us[o]?=some v):
  (execOp (ev f) ⟨d,.field t x j,ty,pS,af,gd⟩).run P w=.ok (.value v) w:=by
 obtain⟨fd,I,J⟩:=L7.1 G;cases J
 simp[execOp,hx,Instr.field,run_underlying E,I,asAgg,part,jW (t:=fd.type),H]
theorem QdD:QaZ.co.length=3:=od
theorem QaO {c:CL}(h:c.V=QaZ){k:Nat}(E:k<c.co.length):(c.co[k]'E).nm=Jp k:=by
 have e:c.co.map (·.it)=QaZ.co:=OV Zt.co h;unfold Jp;rw[<-e,Mq,M2,LD E];rfl
theorem Qi2:Kl (Jp 1):=OY (p:=(Jp 1).size<=9223372036854775807) od
theorem QoE:Kl (Jp 2):=OY (p:=(Jp 2).size<=9223372036854775807) od
abbrev Qp5:List (ByteArray×Int):=[(Jp 1,0),(Jp 2,1)]
abbrev QjN (b:Nat):Y2:=⟨false,⟨3,Y5,⟨Zz,Zz,Zz,V9⟩,.slice (some ⟨b,0,none⟩) 2 2,Qp5,Zz,[],0⟩⟩
abbrev QjJ:Y2:=⟨true,⟨1,Jp 1,⟨Zz,Zz,Zz,V9⟩,Zz,[],Zz,[],0⟩⟩
abbrev QpX:LV:=[.bool false,oF oG 0,.string .empty,nS,oF oG 0,nS,nS,nS,nS,oF oG 0]
instance:Bw prog 65 QpX [(0,1),(1,9)]:=⟨od,og⟩
theorem Qnu :ZG L H Zz Zz Zz V9:=⟨Zp.nil _ _ _,Zp.nil _ _ _,Zp.nil _ _ _⟩
theorem Qo9 {T1 T2:Nat}(G:Q7 H b1 T1 (Qp5.flatMap Z7))(I:Q7 H b2 T2 (Yg (QjN b1)))(n1:Kl (Jp 1))(J:Kl (Jp 2)):Qbo [] H (.slice (some ⟨b2,0,none⟩) 1 1) [QjN b1]:=by
 refine⟨I.arr oe (n:=1) (cap:=1) (sz:=10) rfl og (Lx _),λq O=>?_⟩;rw[Lb.1 O];refine⟨Xw og,Qnu,⟨G.arr oe (n:=2) (cap:=2) (sz:=2) rfl og (Lx _),λp E=>?_⟩,qU.nil⟩;rcases Li.1 E with rfl|E
 ·exact n1
 rw[Lb.1 E];exact J
theorem Qpa {T2:Nat}(E:Q7 H b2 T2 (Yg QjJ))(n1:Kl (Jp 1)):Qbo [] H (.slice (some ⟨b2,0,none⟩) 1 1) [QjJ]:=by
 refine⟨E.arr oe (n:=1) (cap:=1) (sz:=10) rfl og (Lx _),λq G=>?_⟩;rw[Lb.1 G];exact⟨n1,Qnu,qU.nil,qU.nil⟩
theorem jG {x:Z4}(E:x.ls.length<=2)(G:x.ts.length<=2):ShI x:=⟨oa,oa⟩
theorem Vv {E:O1}{s:KZ}(G:O5 [] w E)(h:∀b∈s.own,w.heap.size<=b)(H:O5 s.own E w'):O5 [] w w':=G.then H λb I=>.inr (h b I)
theorem QdA (hr:Kb w 4096):
  Q6 prog 31 [] w λr w'=>r=.bool true/\O5 [] w w':=by
 refine Zo func31 ?_;refine Qc<|Qb<|Qc<|QN<|(Js w).mono ?_;rintro _ w1 ⟨hi,c1,rfl,ht,gr⟩;have hN:=Qlz (gr [] oe) (Qbh (by rw[ht];exact QoH)) (hr.I hi) (by rw[ht];exact Ql7);rw[ht]at hN;refine QN<|hN.mono ?_;rintro _ w2 ⟨gs,s,rfl,esys,gt,hE,hSy⟩;have hv:=hi.D gs;refine Qa<|Zd U U<|Zd U U<|x Ql<|Qb<|Qd<|Q3 (α:=Unit) [(14,19)] (λ_=>[(19,.bool false)]) (λ_ w'=>w'=w2) ol ?_ ?_
 ·refine Qv<|Qa<|xb (XZ U U) (λhF=>OW U hF) (λhF=>?_);refine Qa<|Qa<|x (J3 underlying46 U U)<|QJ U<|xe ?_;exact⟨(),La,U⟩
 rintro⟨⟩ g3 H rfl;refine Z0 rfl<|Qh ?_;have hj:O5 [] H { H with drawn:=H.drawn+1 }:=O5.C _ _
 have hk:=hSy.lt;refine Q3 (α:=Nat×jr×KZ) [(20,40),(3,4)] (λz=>[(3,pS z.1),(4,oF oG 0)]) (λz w'=>O5 s.own H w'/\z.2.2.b=s.b/\z.2.2.sys=QeY/\Xa 2 z.2.2.sys/\z.2.1.rp=YS (VD Kq.c UF).2 Kq.ps 1/\(∀b∈z.2.2.own,b∈s.own\/H.heap.size<=b)/\z.1∉z.2.2.own/\Ul z.2.2.own w' z.2.2/\VJ [] w'.heap z.2.1/\∃T,Q7 w'.heap z.1 T (ZJ z.2.1)) ol ?_ ?_
 ·refine Qg9 (α:=jr×KZ) (O5 s.own H) [oD 0] [oE 1,oD 2,oD 3,oD 4,oD 5,oD 6,oE 7,oD 8,oD 9,oD 10,oD 11,oD 12,oE 13,oD 14,oD 15,oE 16,oE 17,oD 18,oD 19,oD 20] 21 3 [oE 22,oD 23] s.own
   [(20,40)] [(20,20),(22,40)] (λz=>[(39,.agg (ZJ z.1).toArray),(40,oF oG 0)])
   (λz own w'=>O5 s.own H w'/\z.2.b=s.b/\z.2.sys=QeY/\Xa 2 z.2.sys/\z.1.rp=YS (VD Kq.c UF).2 Kq.ps 1/\(∀b∈z.2.own,b∈s.own\/H.heap.size<=b)/\∀J,H.heap.size<=J->J∉own->J∉z.2.own/\Ul (J::z.2.own) w' z.2/\VJ [J] w'.heap z.1)
   (λv w'=>∃b T,v=pS b/\H.heap.size<=b/\Q7 w'.heap b T Y6) mixed ol od ol U hj.any (λ_ _ h1 h2=>h1.D h2) hk ?_ ?_ ?_ ?_
  ·rintro v own wa wb ⟨b,T,rfl,E,hB⟩ G V;exact⟨b,T,U,E,hB.J G (V b ot)⟩
  ·rintro z own wa wb ⟨h1,h2,h3,h4,h5,h6,O⟩ G;exact⟨h1.D G,h2,h3,h4,h5,h6,λJ ha V=>⟨(O J ha V).1,(O J ha V).2.1.I G,(O J ha V).2.2.I G⟩⟩
  ·rintro⟨q,Y⟩ g own wz v C' ⟨h1,h2,h3,h4,h5,h6,O⟩ mv _ ⟨b,T,rfl,E,hB⟩ gu;simp only[]at h2 h3 h4 h5 h6 O;obtain⟨n1,n2,n3⟩:=O b E (gu b ot).1;refine pkl (hl:=by kernel_rfl)<|Qj (us:=ZJ q) hB U U U U n3.ones λw8 hf hw=>p ZI<|pe ?_;exact⟨(b,q,Y),oA,h1.then hf (λc I=>by rw[Lb.1 I];exact .inr E),h2,h3,h4,h5,h6,n1,(n2.J hf (λc I=>.inl (by rw[Lb.1 I];exact Lp)) (λc I hm=>n1 (Lb.1 hm ▸ I))).up (λc I=>.inl (Lj _ I)) (λc I=>I),(n3.st (hf.mono λc I=>I)).up oe,T,hw⟩
  refine p QF<|pe ⟨λg wf gv=>Qo (us:=Y6) U λb mw gw hG hH=>⟨gw,⟨b,_,U,LP gv.size hG,hH⟩,λx hx=>?_⟩,?_⟩
  ·have gx:x=b:=by
    have gy:x∈[b]:=hx;simpa using gy
   subst gx;exact⟨hG,hH.lt⟩
  refine f3k λx1 p1 c1=>?_;refine xg<|(Js x1).mono ?_;rintro _ y1 ⟨q1,e1,rfl,hI,gz⟩;have my:e1.co.length=3:=by rw[<-QdD,<-hI];exact(Lh _).symm
  have g0:=gz s.own (λb E=>LX (hk b E) (LP hj.size p1.size));refine⟨λx=>O5 s.own H x/\O5 s.own y1 x,λx hx=>hx.1,λx x' hx G=>⟨hx.1.D G,hx.2.D G⟩,⟨c1.D q1,O5.Z _ _⟩,s.own,q1.any,λb E=>.inl E,?_⟩;obtain⟨a1,mz,g2,hJ⟩:=Zp.at g0.co.arr (i:=1) oa;rw[XM QM 5 Yn e1.co 1 oa]at hJ;have g6:(e1.co[1]'oa).nm=Jp 1:=QaO hI oa;refine f3p (λ_=>Qii 40 1 underlying44 U U U)<|f3p (λ_=>Xq (show Go.Lg.ev _ _=_ from g2) U og oa)<|f3p (λ_=>Zs U) <|
   f3q (λ_ I=>QD ((hJ.st I.2).fld 0 (.string (Jp 1)) (OV (λn=>some (Value.string n)) g6)) U)<|f3p (λ_=>Qx oA) ?_
  refine f3k λx2 p2 c2=>?_;refine xg<|(Js x2).mono ?_;rintro _ y2 ⟨q2,e2,rfl,hK,g7⟩;have m2:e2.co.length=3:=by rw[<-QdD,<-hK];exact(Lh _).symm
  have g8:=g7 s.own (λb E=>LX (hk b E) (LP hj.size (LP p1.size (LP q1.size p2.size))));refine⟨λx=>(O5 s.own H x/\O5 s.own y1 x)/\O5 s.own y2 x,λx hx=>hx.1,λx x' hx G=>⟨⟨hx.1.1.D G,hx.1.2.D G⟩,hx.2.D G⟩,⟨⟨c2.1.D q2,c2.2.D q2⟩,O5.Z _ _⟩,s.own,q2.any,λb E=>.inl E,?_⟩;obtain⟨a2,m3,g9,hL⟩:=Zp.at g8.co.arr (i:=2) oa;rw[XM QM 5 Yn e2.co 2 oa]at hL;have ka:(e2.co[2]'oa).nm=Jp 2:=QaO hK oa;refine f3p (λ_=>Qii 40 1 underlying44 U U U)<|f3p (λ_=>Xq (show Go.Lg.ev _ _=_ from g9) U og oa)<|f3p (λ_=>Zs U) <|
   f3q (λ_ I=>QD ((hL.st I.2).fld 0 (.string (Jp 2)) (OV (λn=>some (Value.string n)) ka)) U)<|f3p (λ_=>Qx oA) ?_
  refine f3k λx3 p3 c3=>QA (us:=[[.string (Jp 1),oF oG 0],[.string (Jp 2),oF oG 1]]) U U og (by exact(by decide:2*2<=1000000)) oC λb13 x4 p4 m4 kb=>?_;refine⟨λx=>(O5 s.own H x/\O5 s.own y1 x)/\O5 s.own y2 x,λx hx=>hx,λx x' hx G=>⟨⟨hx.1.1.D G,hx.1.2.D G⟩,hx.2.D G⟩,⟨⟨c3.1.1.D p4,c3.1.2.D p4⟩,c3.2.D p4⟩,s.own,p4.any,λb E=>.inl E,?_⟩;refine f3p (λ_=>Zn [(0,[oF oG 3]),(1,[.string Y5]),(3,[.slice (some ⟨b13,0,none⟩) 2 2])] ⟨U,U,U,U,U,U,Z⟩)<|f3p (λ_=>Zn [(1,[oF oG 3,.string Y5,Zz,oF oG 0,Zz,Zz,.slice (some ⟨b13,0,none⟩) 2 2,Zz,oF oG 0])] oA) ?_;refine f3k λx5 p5 c5=>QA (us:=[Yg (QjN b13)]) U U og (by exact(by decide:1*10<=1000000)) oA λm5 x6 p6 m6 kc=>?_;refine⟨λx=>(O5 s.own H x/\O5 s.own y1 x)/\O5 s.own y2 x,λx hx=>hx,λx x' hx G=>⟨⟨hx.1.1.D G,hx.1.2.D G⟩,hx.2.D G⟩,⟨⟨c5.1.1.D p6,c5.1.2.D p6⟩,c5.2.D p6⟩,s.own,p6.any,λb E=>.inl E,?_⟩;refine f3k λx7 p7 c7=>?_;have hy:O5 [] H x7:=(((((((hj.D p1).D q1).D p2).D q2).D p3).D p4).D p5 |>.D p6).D p7;have hO:=hy.size;have ke:=Qo9 (kb.I ((p5.D p6).D p7)) (kc.I p7) Qi2 QoE;have kf:Ul (U6 H.heap.size x7.heap.size++s.own) x7 s:=(hSy.up (λb E=>by
   rcases Lc.1 E with E|E
   ·exact .inr (ZC.1 E).1
   exact .inl (Lc.2 (.inl E))) (λb E=>Lc.2 (.inr E))).I hy
  have hR:=Ur kf gt og (λb E=>by
   rcases Lc.1 E with E|E
   ·exact(ZC.1 E).2
   exact LX (hk b E) hO) ke (by
   intro e he;rw[show[QjN b13].map Y2.e=UF from rfl]at he;rw[Lb.1 he];exact jG og og) (hr.I (hv.D hy))
  rw[show[QjN b13].map Y2.e=UF from rfl,esys,show Qgl QaZ=Kq from rfl,QoG]at hR;refine xg<|hR.mono ?_;rintro m7 x8 ⟨qr,rfl,hN,_,ho⟩;have ho:=ho U;refine Exists.elim ho.2 λY S=>?_;have kg:=S.2.2.2.2.1.lt;refine⟨λx=>(O5 s.own H x/\O5 s.own y1 x)/\O5 s.own y2 x,λx hx=>hx,λx x' hx G=>⟨⟨hx.1.1.D G,hx.1.2.D G⟩,hx.2.D G⟩,⟨⟨c7.1.1.Q S.2.2.2.1,c7.1.2.Q S.2.2.2.1⟩,c7.2.Q S.2.2.2.1⟩,Y.own++U6 x7.heap.size x8.heap.size,S.2.2.2.1,λb E=>?_,?_⟩
  ·rcases Lc.1 E with E|E
   ·exact(S.2.2.2.2.2 b E).imp id λh=>⟨h,kg b E⟩
   exact .inr (ZC.1 E)
  refine f3p QF<|f3p (λ_=>Zr U U)<|f3p (λ_=>Zr U U)<|f3e ?_;refine⟨(qr,Y),oA,c7.1.1.Q S.2.2.2.1,S.1,S.2.1,S.2.2.1,ho.1,λb E=>?_,λJ ha V=>⟨λhm=>V (Lc.2 (.inl hm)),?_,?_⟩⟩
  ·exact(S.2.2.2.2.2 b E).imp id λh=>LP hO h
  ·refine S.2.2.2.2.1.up (λb E=>?_) (λb E=>Lj _ E);rcases Li.1 E with rfl|E
   ·by_cases O:b<x7.heap.size
    ·exact .inl (Lc.2 (.inr (Lc.2 (.inl (ZC.2 ⟨ha,O⟩)))))
    by_cases h8:b<x8.heap.size
    ·exact OW (Lc.2 (.inr (ZC.2 ⟨OJ O,h8⟩))) V
    exact .inr (OJ h8)
   exact .inl (Lc.2 (.inl E))
  by_cases O:J<x7.heap.size
  ·exact hN [J] (λb E=>by rw[Lb.1 E];exact O)
  by_cases h8:J<x8.heap.size
  ·exact OW (Lc.2 (.inr (ZC.2 ⟨OJ O,h8⟩))) V
  exact(hN [] (λb E=>by cases E)).up λb E=>by rw[Lb.1 E];exact .inr (OJ h8)
 rintro⟨b3,qr,Y⟩ g4 w4 ⟨kh,e1,e2,hz,e3,hP,n1,h0,hQ,T3,hS⟩;simp only[]at e1 e2 hz e3 hP n1 h0 hQ hS;have hT:O5 [] w w4:=Vv hv (λb E=>LP hi.size (hE b E)) kh;have ki:qr.k1=[(1,Y4)]:=(OV Rp.kept e3).D QoC;have kj:qr.k2=[(2,Y5)]:=(OV Rp.made e3).D QoB;have kk:qr.k3=[]:=(OV Rp.gone e3).D QoD;have kn:Y.made=3:=(OV Sys.made e2).D Qi3;have ko:Y.sys.un≠[]:=by rw[e2];exact List.append_ne_nil_of_right_ne_nil _ (List.cons_ne_nil _ _)
 refine Qm<|QN<|(Js w4).mono ?_;rintro _ w5 ⟨h9,c5,rfl,hW,kq⟩;have m8:c5.co.length=3:=by rw[<-QdD,<-hW];exact(Lh _).symm
 have kr:=kq [] oe;refine x (Qii 40 1 underlying44 U U U)<|O8 (g:=QM) (i:=1) Yn kr.co.arr U U oa λm9 kt=>?_;have ku:=kt.fld 0 (.string (Jp 1)) (OV (λn=>some (Value.string n)) (QaO hW oa));refine x (Zs U)<|x (QD ku U) <|
  x (Zn [(0,[oF oG 1]),(1,[.string (Jp 1)])] ⟨U,U,U,U,Z⟩)<|x (Zn [(0,[.bool true]),(1,[oF oG 1,.string (Jp 1),Zz,oF oG 0,Zz,Zz,Zz,Zz,oF oG 0])] ⟨U,U,U,U,Z⟩) <|
  Qe<|QA (us:=[Yg QjJ]) U U og (by exact(by decide:1*10<=1000000)) oA λpa w6 hA pc kv=>?_
 have hX:=(h0.I h9).I hA;have hR5:=Ur hX hz og hX.lt (Qpa kv Qi2) (by
  intro e he;rw[show[QjJ].map Y2.e=Qi4 from rfl]at he;rw[Lb.1 he];exact jG og og) (hr.I ((hT.D h9).D hA))
 rw[show[QjJ].map Y2.e=Qi4 from rfl,e2,QoF,e1]at hR5;refine QN<|hR5.mono ?_;rintro r9 w7 ⟨kw,rfl,kx,kz,_⟩;have k0:=(kz og).1;refine Qa<|Zd U U<|Zd U U<|Qe<|Qo (us:=Y6) U λb5 w8 hf k4 k5=>Qe<|Qj (us:=ZJ kw) k5 U U U U (kx [] oe).ones λw9 k6 pd=>Qb ?_;have k7:O5 [] w4 w9:=((h9.D hA).D k0).D (hf.O k6 k4);refine Qc<|x (Qx ⟨U,U,Z⟩)<|x (Qx ⟨U,U,Z⟩)<|Qe<|Qo (us:=[oF oG 0,.string .empty]) U λb7 pf k8 k9 hY=>Qe<|Qo (us:=[oF oG 0,.string .empty]) U λb8 pg hZ ph hw =>
  Qe<|Qj (us:=KI (1,Y4)) (hY.I hZ) U U U U oA λpj ga ma=>?_
 have pm:=hY.lt;refine Qe<|Qj (us:=KI (2,Y5)) (hw.J ga om) U U U U oA λgb gc mf=>xe ?_;have mg:O5 [] w9 gb:=((k8.D hZ).O ga k9).O gc oa;have hp:=k7.D mg;have mh:=ma.J gc om;have hC:=hS.I hp;have hD:=hQ.I hp;have gg:=h0.I hp;have gh:=hD.a1;have gi:=hD.a2;have gj:=hD.a3;rw[ki]at gh;rw[kj]at gi;rw[kk]at gj;refine Q3 (α:=Unit) [(0,0),(56,96)] (λ_=>[(0,.bool true)]) (λ_ w'=>O5 Y.own gb w') ol ?_ ?_
 ·refine Qv<|Qa<|xb (Q2 U U) (λgk=>?_) (λgk=>OW U gk);refine Qa<|Qs U hC U U<|Q9 mh U U<|Qe<|QA (us:=[KI (1,Y4)]) U U og (by exact(by decide:1*2<=1000000)) oA λpn po gl pp mj =>
   QN<|(qM (L:=[]) (L':=[]) (l:=[(1,Y4)]) (gh.I gl) (mj.arr oe (n:=1) (cap:=1) (sz:=2) rfl og (Lx _))).mono ?_
  rintro _ pu ⟨rfl,mo⟩;have hq:=gl.D mo;refine QJ U<|Qa<|Qs U (hC.I hq) U U<|Q9 (mf.I hq) U U<|Qe<|QA (us:=[KI (2,Y5)]) U U og (by exact(by decide:1*2<=1000000)) oA λpw pz gm p0 mq =>
   QN<|(qM (L:=[]) (L':=[]) (l:=[(2,Y5)]) ((gi.I hq).I gm) (mq.arr oe (n:=1) (cap:=1) (sz:=2) rfl og (Lx _))).mono ?_
  rintro _ p8 ⟨rfl,ms⟩;have hh:=(hq.D gm).D ms;refine QJ U<|Qa<|Qs U (hC.I hh) U U<|QL (gj.I hh) U<|xb (Q2 U U) (λgn=>?_) (λgn=>OW U gn);refine QJ U<|Qa<|Qa<|xb (Q2 U U) (λgo=>?_) (λgo=>OW U go);have hM:=zW (gg.I hh);have hU:=QbP (gg.I hh) hz;have hU:=hU.mono λr w' h=>h.2 ko;rw[e1]at hM hU;refine QJ U<|Qa<|Qa<|QN<|hM.mono ?_;rintro _ p9 ⟨rfl,rfl⟩;refine xb (Q2 U U) (λgp=>?_) (λgp=>OW kn gp);refine QJ U<|Qa<|Qa<|QN<|hU.mono ?_;rintro _ qc ⟨rfl,hu⟩;refine Exists.elim hu λs2 hu=>?_;have hV:=QbP hu.2.2.2.2.1 hu.2.2.1;rw[hu.1]at hV;have hV:=hV.mono λr w' h=>h.1 (by rw[hu.2.1,e2];rfl);refine xb (Q2 U U) (λgq=>?_) (λgq=>OW U gq);refine QJ U<|Qa<|Qa<|QN<|hV.mono ?_;rintro _ qf ⟨rfl,mt⟩;refine x (Q2 U U)<|QJ U<|Qb<|⟨(),La,(hh.any.Q hu.2.2.2.1).D mt⟩
 rintro _ g5 ql mu;refine Qk ⟨[.bool true],La,U,Vv (hT.D hp) (λb E=>?_) mu⟩;rcases hP b E with h|h
 ·exact LP hi.size (hE b h)
 exact LP hv.size h
theorem QiP {c:CL}(h0:ZH L w.heap c)(hz:CSz c.V)(V:(ZP c.V).1=0)(he:0<c.co.length){at_ bY:Nat}(hI:at_<256):
  Q6 prog 14 [c.val,.agg #[.int .u8 7,.int .u8 (at_:Int),.int .u8 (bY:Int)]] w λr w'=>O5 [] w w'/\∃q:DV,r=.agg (Yg ⟨false,q⟩).toArray/\q.it∈(ZP c.V).2/\Jg [] w'.heap q:=by
 have h:=h0.up (L':=[]) oe;refine Zo func14 ?_;refine Qc<|Qe<|QV (us:=c.cells) U λb2 w1 hf hJ ht=>Qe<|QV (us:=[.int .u8 7,.int .u8 (at_:Int),.int .u8 (bY:Int)]) U λb3 w2 Y hK hu=>Qe<|Qo (us:=QpX) U λb4 w3 ha hL hg=>xe ?_;have hh:=(hf.D Y).D ha;have hi:=ht.I (Y.D ha);have hj:=hu.I ha;refine Qc<|Q9 hi U U<|QN<|(QdE (h.I hh) hz).mono ?_;rintro r4 w4 ⟨H,v5,rfl,_,hv⟩;have hw:=hh.D H;refine Exists.elim (hv V) λG J=>?_;have hy:=qz V;have hM:G.length=(ZP c.V).2.length:=by have O:=OV oP J.2;rwa [Lh]at O
 have h4:0<G.length/\G.length<=100000:=by
  obtain⟨a,b,_,_,e,hk⟩:=hy;have O:=Vj hk;have h2:(ZP c.V).2.length=_:=OV oP e;rw[Lk,Lh]at h2;have h3:c.V.co.length=c.co.length:=Lh _;omega
 have S:KR [] w4.heap v5 G:=JE.dits J.1 oa oe;refine Qa<|Zd U U<|Zd U U<|x Ql<|Qb<|Qd<|Q3 (α:=Unit) [(16,22)] (λ_=>[(22,.bool false)]) (λ_ w'=>w'=w4) ol ?_ ?_
 ·refine Qv<|Qa<|xb (XZ U U) (λhl=>OW V hl) (λhl=>?_);refine Qa<|Qa<|QL S.arr U<|xb (Q2 U U) (λhm=>OW hm oa) (λhm=>?_);refine QJ U<|xe ?_;exact⟨(),La,U⟩
 rintro _ g5 w5 rfl;refine Z0 rfl<|Qh ?_;have h5:((at_:Int) % (G.length:Int))=((at_ % G.length:Nat):Int):=(Int.natCast_emod ..).symm;have hc:at_ % G.length<G.length:=NS _ h4.1;refine Qm<|Qs U (hj.I H) U U<|x (Yc (k':=.i64) U ⟨oa,oa⟩)<|Qa<|QL S.arr U<|x (VS (a:=(at_:Int)) (b:=(G.length:Int)) U U oa oa) <|
  O8 (g:=Qy) (i:=at_ % G.length) ZX S.arr U (show Go.Lg.ev _ _=_ from OV (Value.int .i64) h5) hc λhN hn=>?_
 have T:=Ll hc;refine Zj (G[at_ % G.length]'hc) λq hq=>?_;rw[hq]at hn T;have ho:=S.each q T;refine x (Qw hn U U)<|Qe<|Qo (us:=[oF oG 0,.string .empty,Zz,oF oG 0,Zz,Zz,Zz,Zz,oF oG 0]) U λb7 w7 h6 h7 h9=>Qe<|Qj (us:=Qy q) h9 U U U U ho.ones λw8 hA hB=>xe ?_;have I:O5 [] w5 w8:=h6.O hA h7;have hp:=hw.D I;have h8:=h.I hp;refine Qc<|Qs U (hi.I (H.D I)) U U<|O8 (g:=QM) (i:=0) Yn h8.co.arr U U he λhO hC=>x (Zs U)<|x (QD (hC.fld 0 (.string (c.co[0]'he).nm) U) U) <|
  Qb ?_
 have hD:=hj.I (H.D I);refine Qd<|Qc<|Qs U hD U U<|x (VS (a:=7) (b:=8) U U og og)<|xe<|Qg<|Qc<|x (Q2 U U)<|Qb<|QZ U (λE=>OW E og) (λE=>?_);refine Qc<|x (Q2 U U)<|Qb<|QZ U (λE=>OW E og) (λE=>?_);refine Qc<|x (Q2 U U)<|Qb<|QZ U (λE=>OW E og) (λE=>?_);refine Qc<|x (Q2 U U)<|Qb<|QZ U (λE=>OW E og) (λE=>?_);refine Qc<|x (Q2 U U)<|Qb<|QZ U (λE=>OW E og) (λE=>?_);refine Qc<|x (Q2 U U)<|Qb<|QZ U (λE=>OW E og) (λE=>?_);refine Qc<|x (Q2 U U)<|Qb<|QH U (λhr=>?_) (λhr=>OW hr og);refine Qh<|Qc ?_;have hE:=hg.lt;have hF:=ho.ones;refine Q9 hB U U<|x (Zn [(1,Qy q)] ⟨U,U,Z⟩)<|Qe<|Qj (us:=Yg ⟨false,q⟩) ((hg.I H).I I) U U U U ⟨U,hF⟩ λw9 hs hG=>xe ?_;have hP:=(hf.D Y).size;have hH:w.heap.size<=b4:=oa
 refine Qk ⟨[.agg (Yg ⟨false,q⟩).toArray],⟨⟨_,U,Qp U (hG.at (L:=[]) oe).cells⟩,Z⟩,hp.O hs hH,q,rfl,?_,?_⟩
 ·rw[<-J.2];exact LJ T
 have O:KR (b4::[]) w5.heap v5 G:=JE.dits J.1 oa (by intro b hb;rw[Lb.1 hb];exact hE);exact(((O.each q T).I I).st (hs.mono oe)).up oe
theorem QgV (h0:ZG L w.heap va vm ve a):
  Q6 prog 15 [.agg #[va,oF oG a.st,vm,ve]] w λr w'=>O5 [] w w'/\∃ua ub uc ud,r=.tuple #[.agg #[ua,ub,uc,ud],oF oG (JD a)]/\Zm [ua,ub,uc,ud] /\
   (JD a=0->ub=oF oG (KN (Yr a)).st/\∀L:LN,(∀b∈L,b<w.heap.size)->ZG L w'.heap ua uc ud (KN (Yr a))):=by
 have h:=h0.up (L':=[]) oe;refine Zo func15 ?_;refine Qc<|Qe<|QV (us:=[va,oF oG a.st,vm,ve]) U λb1 w1 hn hM ho=>Qe<|Qo (us:=KW) U λb2 w2 hc hO he=>Qb ?_;have hp:=hn.D hc;have hP:=hn.size;refine Qd<|Qc<|Q9 (ho.I hc) U U<|QN<|(Jf (h.I hp)).mono ?_;rintro r3 w3 ⟨rfl,O⟩;refine Qb ?_;have hf:=hp.D O;refine Qm<|ZD U U<|xe<|QZ rfl (λhg=>?_) (λhg=>?_)
 ·refine Qc<|x (Qx Z)<|Qa<|Qe<|Qj (us:=KW) (he.I O) U U U U oC λw4 h5 hh=>Qb<|Qk ⟨[.agg KW.toArray,oF oG (JD a)],⟨⟨_,U,Qp U (hh.at (L:=[]) oe).cells⟩,rfl,Z⟩,hf.O h5 oa,_,_,_,_,rfl,⟨rfl,rfl,rfl,rfl,Z⟩,λe=>OW e hg⟩
 have hq:JD a=0:=Lo.1 hg;have hr:=(ZQ a).1 hq;have hs:=Qg1 hr;have h6:=hs.st0;have hQ:=hs.st1;refine Qh<|Qc<|Q9 ((ho.I hc).I O) U U<|QN<|(Jv (h.I hf) hr).mono ?_;rintro r5 w5 ⟨hj,ra,rm,re,rfl,hA⟩;have I:=hA [] oe;have hR:=O.size;have hS:=hj.size;refine Qe<|Qo (us:=KW) U λG w6 h7 ht hu=>Qe<|Qj (us:=[ra,oF oG (Yr a).st,rm,re]) hu U U U U ⟨I.al.one,U,I.mr.one,I.ed.one,Z⟩ λw7 h8 h9=>xe ?_;refine Qc<|Zc U<|Qe<|QB (j:=2) (u:=Zz) h9 U U oe rfl λS hB hk=>xe ?_;have hl:O5 [] w5 S:=(h7.O h8 ht).O hB oa;have hC:=(hf.D hj).D hl;have hT:=hu.lt;have hU:=hk.lt;have hV:=he.lt;refine Qd<|Qc<|Qs U hk U U<|Qa<|xe<|Qg<|QC (α:=Nat×O2) [(6,6),(18,27)] (λz=>[(18,oF oG z.1)]) (λz w'=>(z.1:Int)<=(Yr a).st/\O5 [G] S w'/\(∃T,Q7 w'.heap G T [ra,oF oG (Yr a).st,z.2,re])/\Qu 3 S.heap.size w' z.2 (Kk z.1)) (λz=>(Yr a).st.toNat - z.1) ol (0,Zz) La ⟨h6,O5.Z _ _,⟨_,hk⟩,QI _ _ _ _⟩ ?_;rintro⟨i,v⟩ g w9 ⟨hi,V,⟨T5,ha⟩,J⟩;simp only[]at hi ha J;have hW:=V.size;refine Qc<|QY U U<|xe<|Qd<|QH U (λhv=>?_) (λhv=>?_)
 ·refine Qz ?_;have hD:(Yr a).st.toNat=i:=by have hY:¬(i:Int)<(Yr a).st:=hv;omega
  have hw:=Qt J;refine Qc<|Q9 ha U U<|Qe<|Qj (us:=[ra,oF oG (Yr a).st,v,re]) (((he.I O).I (hj.D hl)).J V om) U U U U ⟨I.al.one,U,hw,I.ed.one,Z⟩ λY H hE=>Qb ?_;have hF:O5 [] w Y:=(hC.O V oa).O H oa;refine Qk ⟨[.agg #[ra,oF oG (Yr a).st,v,re],oF oG 0],⟨⟨_,U,Qp U (hE.at (L:=[]) oe).cells⟩,rfl,Z⟩,hF,ra,_,v,re,by rw[hq];rfl,⟨I.al.one,U,hw,I.ed.one,Z⟩,λ_=>⟨U,λN hN=>?_⟩⟩;have hG:O5 [G,b2] w5 Y:=((hl.any (L:=[G,b2])).Q (V.mono oe)).Q (H.mono oe);have hX:∀b∈N,b<w.heap.size:=hN;have hH:ZG (G::b2::N) w5.heap ra rm re (Yr a):=by
   refine(hA (b2::N) (λb E=>?_)).up λb E=>?_
   ·rcases Li.1 E with rfl|E
    ·have:=O.size;omega
    have:=hX b E;omega
   rcases Li.1 E with rfl|E
   ·exact .inr ht
   exact .inl E
  have hy:=(hH.st (hG.mono oe)).up (L':=N) λb E=>.inl (by simp[E]);have hI:Qu 3 S.heap.size Y v (Kk i):=Qf J H (λb E hm=>by have:=(Qi J b E).1;rw[Lb.1 hm]at this;omega);refine⟨hy.al,?_,hy.ed⟩;show QR N Y.heap v (Kk (Yr a).st.toNat);rw[hD];exact Qu.ints hI (by rw[Qav];omega) (λb E=>ou (hX b E))
 refine Qh<|Qd<|Qg<|Qm<|Qb ?_;have n5:G∉ob v:=λhm=>ou (Qi J G hm).1
 refine Qv<|Qs U ha U U<|Qa<|Qe<|QA (us:=[[oF oG i]]) U U og oe ⟨rfl,rfl,Z⟩ λhZ Y H ga hh=>?_;have gb:=H.size;refine Qe<|Q8 (news:=[oF oG i]) (L:=[]) (Qn J H) U U U (hh.at oe) (by simp[Value.oneCell']) (by rw[Qav];omega) oa λhz hJ h1 h2 gc=>?_;refine Zc rfl<|Qe<|QB (j:=2) (u:=hz) ((ha.I H).J h2 n5) U U oe (Qt h1) λgg h3 hK=>xe ?_;refine Qv<|QP U U<|Qa<|xe ?_;have hL:O5 [G] S hJ:=(V.D H).then h2 (λb E=>.inr (Qi J b E).1);refine⟨(i+1,hz),oh,La,oh,hL.Q h3,⟨T5,hK⟩,?_⟩;simp only[];rw[Qbz];have h4:=Qu.snoc h1;exact Qf h4 h3 (λb E hm=>by have:=(Qi h4 b E).1;rw[Lb.1 hm]at this;omega)
theorem ja (E:Kb w 4096):Q6 prog 8 [] w λr w'=>r=.bool true/\O5 [] w w':=by
 refine Zo func8 ?_;refine Qc<|Qb<|Q3 (α:=Unit) [(0,4)] (λz=>[(0,.bool true)]) (λz w'=>O5 [] w w') ol ?_ ?_
 ·refine Qv<|QN<|(QdA E).mono ?_;rintro J O ⟨rfl,G⟩;refine Qa<|QN<|(Qee (E.I G)).mono ?_;rintro r2 S ⟨rfl,H⟩;refine QJ U<|Qb<|⟨(),La,G.D H⟩
 rintro z g T I;exact Qk ⟨[.bool true],La,U,I⟩
section
variable {pS:String}{l:xE}{t':Nat}{x:O3}{k:IntKind}{a b:Int}
end
theorem Qfh {s:Sys}{k:Nat}(_hs:Xa k s)(H:s.un.length<64){x:Z4}{E:Zt}(h:VD s.c [(false,x)]=(0,E))(G:JQ E s.ps ((s.un.length:Int)+1)=0):jn s [(false,x)]=0:=by
 unfold jn;rw[OT oe,OT oa,h,OT oe];exact G
theorem QnI {e:Y2}(h:Q7 H b T (Yg e))(E:Jg [] H e.q):Qbo [] H (.slice (some ⟨b,0,none⟩) 1 1) [e]:=
 ⟨h.arr oe (n:=1) (cap:=1) (sz:=10) rfl og (Nat.le_refl _),λq G=>by rw[List.mem_singleton.1 G];exact E⟩
theorem QaT {l:PwV}{at_:Nat}(kv:at_<256)(hl:PwA w l)(ho:Kb w 4096):
  Q6 prog 3 [.agg (X9 l).toArray,.int .u8 (at_:Int)] w λr w'=>r=.bool true/\O5 [] w w':=by
 refine Zo func3 ?_;refine Qc<|Qe<|QV (us:=X9 l) U λb1 w1 hF z0 gk=>Qb ?_;have gl:(X9 l).length=152:=Qoj (l:=l.pl []) hl.n;refine Qd<|Q3 (α:=Unit) [(15,21)] (λz=>[(21,.bool (!decide (l.n<=4)))]) (λz w'=>O5 [] w1 w') ol ?_ ?_
 ·refine Qv<|QN<|(ja (ho.I hF)).mono ?_;rintro r2 w2 ⟨rfl,hf⟩;refine x (ZB U)<|Qa<|Q9 (gk.I hf) U gl<|QN<|(QkE (l:=l) ⟨hl.n,hl.b,hl.f0,hl.f1,hl.f2,hl.bd,λhn=>by
   obtain⟨rs,E,h2⟩:=hl.r hn;exact⟨rs,E,(h2.I hF).I hf⟩⟩).mono ?_
  rintro r3 w3 ⟨rfl,hp⟩;refine x (ZB U)<|QJ U<|xe ?_;exact⟨(),La,hf.D hp⟩
 rintro⟨⟩ g w2 hf;have h4:=hF.D hf;refine QX rfl (λgm=>?_) (λgm=>?_)
 ·refine Qc<|QN<|(ja (ho.I h4)).mono ?_;rintro r3 w3 ⟨rfl,hp⟩;refine Qb<|Qk ⟨[.bool true],La,U,h4.D hp⟩
 have kw:l.n<=4:=by simpa using gm
 refine Qh<|Exists.elim (hl.pl h4 kw) λrs kx=>?_;refine Qc<|Q9 (gk.I hf) U gl<|QN<|(Qgp kx.1).mono ?_;rintro r3 w3 ⟨hp,_,⟨c,rfl,rfl,hC⟩,hD⟩;have gn:=hC [] oe;have hG:=hD.ck;refine Qe<|Qo (us:=Yf) U λb3 w4 kz k0 k4=>Qe<|Qj (us:=c.cells) k4 U U U U gn.ones λw5 k5 h5=>xe ?_;have go:O5 [] w3 w5:=kz.O k5 k0;have hH:=(h4.D hp).D go;have hI:=gn.I go;have hz:=Qbh hG;refine Qc<|Q9 h5 U U<|QN<|(QkK hI hz (ho.I hH)).mono ?_;rintro r6 w6 ⟨hh,vp,rfl,k6,k7⟩;refine Qa<|Zd U U<|Zd U U<|x Ql<|Qb ?_;have hJ:=hH.D hh;by_cases Y:yn c.V=0
 rotate_left
 ·have k8:=k6 Y;subst k8;refine Qd<|Q3 (α:=Unit) [(30,35)] (λ_=>[(35,.bool true)]) (λ_ w'=>w'=w6) ol ?_ ?_
  ·refine Qv<|Qa<|xb (XZ U U) (λS=>?_) (λS=>OW Y S);refine Qa<|Qr<|Qr<|QJ U<|xe ?_;exact⟨(),La,U⟩
  rintro _ g7 w7 rfl;refine QX U (λ_=>?_) (λk9=>by cases k9);refine Q3 (α:=Unit) [(4,4),(36,41)] (λ_=>[(4,.bool true)]) (λ_ w'=>w'=w7) ol ?_ ?_
  ·refine Qv<|Qa<|xb (XZ U U) (λS=>?_) (λS=>OW Y S);refine Qa<|Qa<|x (J3 underlying46 U U)<|QJ U<|Qb<|⟨(),La,U⟩
  rintro _ g8 w8 rfl;exact Qk ⟨[.bool true],La,U,hJ⟩
 refine Exists.elim (k7 Y) λs hs=>?_;have evp:=hs.1;have esy:=hs.2.1;have hK:=hs.2.2.1;have hSy:=hs.2.2.2;have hL:Xa 1 s.sys:=by rw[esy];exact Xa.new Y
 have gp:s.sys.c=c.V:=by rw[esy];rfl
 have gq:s.sys.un=[]:=by rw[esy];rfl
 have h6:=(QiI Y).1;refine Qd<|Q3 (α:=Unit) [(30,35)] (λ_=>[(35,.bool false)]) (λ_ w'=>w'=w6) ol ?_ ?_
 ·refine Qv<|Qa<|xb (XZ U U) (λS=>OW Y S) (λS=>?_);refine Qa<|Qa<|x (J3 underlying46 (show Go.Lg.ev _ _=.pointer (some ⟨s.b,0,none⟩) from evp) U)<|QJ U<|xe ?_;exact⟨(),La,U⟩
 rintro _ g7 w7 rfl;refine Z0 rfl<|Qh ?_;have hM:=zW hSy;rw[<-evp]at hM;refine Qm<|QN<|hM.mono ?_;rintro z1 w8 ⟨rfl,rfl⟩;refine Qb ?_;have ma:0<c.co.length:=by
  have E:=hD.c0;have h2:c.V.co.length=c.co.length:=Lh _;omega
 refine Qm<|Q9 (h5.I hh) U U<|Qa<|x (Qx ⟨U,U,Z⟩)<|QN<|(QiP (bY:=0) (hI.I hh) hz h6 ma kv).mono ?_;rintro z2 w9 ⟨mf,q,rfl,hq,mg⟩;refine Qe<|QA (us:=[Yg ⟨false,q⟩]) U U og (by exact(by decide:1*10<=1000000)) oA λz3 mh gr z4 mj=>?_;have hr:=mf.D gr;have gs:=hSy.I hr;have z5:=hh.size;have z6:=hr.size;have gt:∀b∈s.own++oT w5.heap.size,b<mh.heap.size:=λb G=>by
  rcases Lc.1 G with G|G
  ·exact gs.lt b G
  have:=M5.1 G;omega
 have ht:=QjM hG h6 hq;rw[<-gp]at ht;have h7:=Qks hL.st ((s.sys.un.length:Int)+1);have mo:jn s.sys [(false,q.it)]=0:=Qfh hL (by rw[gq];decide) ht h7.1;have hR:=Ur gs hL og gt (QnI (e:=⟨false,q⟩) mj (mg.I gr)) (by
  intro e he;rw[Lb.1 he];exact Qfl hz h6 q.it hq) (ho.I (hJ.D hr))
 rw[show[(⟨false,q⟩:Y2)].map Y2.e=[(false,q.it)] from rfl,mo,ht,<-evp]at hR;refine QN<|hR.mono ?_;rintro r15 gu ⟨qr,rfl,hN,_,I⟩;have I:=I U;have gv:=I.1;refine Exists.elim I.2 λJ I=>?_;have e1:=I.1;have e2:=I.2.1;have hO:=I.2.2.1;have hP:=I.2.2.2.1;have h8:=I.2.2.2.2.1;have mq:=I.2.2.2.2.2;have hQ:=hN [] oe;refine Qa<|Zd U U<|Zd U U<|Qe<|Qo (us:=Y6) U λb9 w12 ms gw mt=>Qe<|Qj (us:=ZJ qr) mt U U U U hQ.ones λgx mu hu=>Qb ?_;have ha:O5 [] gu gx:=ms.O mu gw;have mv:qr.k2=[]:=(OV Rp.made gv).D h7.2.1;have mw:qr.k3=[]:=(OV Rp.gone gv).D h7.2.2;have hi:=(hQ.I ha).a2;have hv:=(hQ.I ha).a3;rw[mv]at hi;rw[mw]at hv;have my:J.made=s.made:=by
  have E:J.made=s.sys.made+((YS (VD s.sys.c [(false,q.it)]).2 s.sys.ps ((s.sys.un.length:Int)+1)).made.length:Int):=OV Sys.made e2;rw[ht,h7.2.1]at E;rw[E];exact Int.add_zero _
 have hS:J.sys.c=c.V:=by
  rw[e2];show(VD s.sys.c [(false,q.it)]).2=_;rw[ht];exact gp
 have mz:J.sys.un.length=1:=by
  rw[e2];show(s.sys.un++[_]).length=1;rw[gq];rfl
 have hM1:=zW (h8.I ha);rw[e1,<-evp,my]at hM1;have gy:∀b∈s.own,w.heap.size<=b:=λb G=>LP hH.size (hK b G);have gz:=hJ.D hr;have h9:O5 [] w gu:=Vv gz gy hP;refine Qd<|Q3 (α:=Unit) [(54,71)] (λ_=>[(71,.bool false)]) (λ_ w'=>w'=gx) ol ?_ ?_
 ·refine Qv<|Qa<|xb (XZ U U) (λg0=>OW U g0) (λg0=>?_);refine Qa<|Qs U hu U U<|QL hi U<|Qs U hu U U<|x (YX hv U) <|
   x (XH rfl U ⟨og,og⟩)<|xb (XZ U U) (λg2=>OW U g2) (λg2=>?_)
  refine QJ U<|Qa<|Qa<|QN<|hM1.mono ?_;rintro _ T ⟨rfl,rfl⟩;refine Qa<|xb (XZ U U) (λg3=>OW U g3) (λg3=>?_);refine QJ U<|xe ?_;exact⟨(),La,U⟩
 rintro _ g14 T rfl;refine Z0 rfl<|Qh ?_;have m2:=h9.D ha;have hX:O5 s.own w8 T:=(hr.any.Q hP).D ha;have hT:Q7 T.heap b3 _ c.cells:=(h5.I hh).J hX (λhm=>ov (hK b3 hm) h5.lt);have hj:ZH [] T.heap c:=(((hI.up (L':=s.own) (λb G=>.inr (hK b G))).I hh).st hX).up oe;have g4:c.V.rq.length=c.rq.length:=Lh _;refine Qd<|Qc<|Qs U hT U U<|QL hj.rq.arr U<|x (Q2 U U)<|xe<|QZ rfl (λg5=>?_) (λg5=>?_)
 ·refine Qc<|Qb<|Qk ⟨[.bool true],La,U,m2⟩
 have m3:0<c.rq.length:=by have h76:¬(c.rq.length:Int)=0:=g5;omega
 have hrle:=hj.rq.arr.le;have m4:((at_:Int) % (c.rq.length:Int))=((at_ % c.rq.length:Nat):Int):=(Int.natCast_emod ..).symm;have O:at_ % c.rq.length<c.rq.length:=NS _ m3;refine Qh ?_;have hd:O5 [] T { T with drawn:=T.drawn+1 }:=O5.C _ _
 refine Qd<|ZF [] (Xi 0 12 [10,11])<|p (QQ U)<|pq (λ_ H=>Qq (hT.I H) U U)<|p QF<|p (λ_=>Yc (k':=.i64) U ⟨oa,oa⟩)<|p (QQ U) <|
  pq (λ_ H=>Qq (hT.I H) U U)<|p (λ_=>YX hj.rq.arr U)<|p (λ_=>VS (a:=(at_:Int)) (b:=(c.rq.length:Int)) U U oa oa) <|
  Lg.pig (g:=QM) (i:=at_ % c.rq.length) U Yn hj.rq.arr U (show Go.Lg.ev _ _=_ from OV (Value.int .i64) m4) O λa84 g6=>?_
 have hU:(c.V.rq.getD (at_ % c.rq.length) XK)=(c.rq[at_ % c.rq.length]'O).it:=by
  show(c.rq.map IV.it).getD _ _=_;simp[oQ,O]
 have g9:(c.rq[at_ % c.rq.length]'O).it∈c.V.rq:=LJ (Ll O);have hw:=(hj.rq.each _ (Ll O));refine Zj (c.rq[at_ % c.rq.length]'O) λiv ka=>?_;rw[ka]at g6 hU g9 hw;have kb:=(hD.rq _ g9).2.1;have kc:JD iv.p.a=0:=(ZQ _).2 kb.ok;have m5:Yr iv.p.a=iv.p.a:=(Qa4.1 kb.can).2;have m6:Zm (QM iv):=⟨U,hw.al.one,U,hw.mr.one,hw.ed.one,Z⟩;refine pq (λ_ H=>Qw (us:=QM iv) (g6.I H) U U)<|pk<|Qo (us:=[.string .empty,Zz,oF oG 0,Zz,Zz]) U λhV w15 ke m7 m8=>⟨hd.D ke,?_⟩;refine pkl (hl:=by kernel_rfl)<|Qj (us:=QM iv) m8 U U U U m6 λm9 pa hW=>pe ?_;have kf:O5 [] T m9:=hd.D (ke.O pa m7);refine Qc<|Zc U<|x (Zv (us:=[iv.p.va,oF oG iv.p.a.st,iv.p.vm,iv.p.ve]) hW U U U)<|QN<|(QgV (hw.I kf)).mono ?_;rintro r22 pc ⟨pd,ua,ub,uc,ud,rfl,pf,hy⟩;have hy:=hy kc;rw[m5]at hy;refine Qa<|Zd U U<|Zd U U<|Qe<|Qo (us:=KW) U λb12 w18 pg ph pj=>Qe<|Qj (us:=[ua,ub,uc,ud]) pj U U U U pf λpm pn po=>Qb ?_;have kg:O5 [] pc pm:=pg.O pn ph;have hY:=pd.D kg;have pp:=kf.D hY;refine Zj (⟨false,⟨2,iv.nm,⟨ua,uc,ud,KN iv.p.a⟩,Zz,[],Zz,[],0⟩⟩:Y2) λee hZ=>?_;have pu:[.bool false,oF oG 2,.string iv.nm,ua,ub,uc,ud,Zz,Zz,oF oG 0]=Yg ee:=by rw[<-hZ,hy.1]
 have kh:ee.e=(false,Yh 2 (Ju iv.it)):=by rw[<-hZ];rfl
 refine Qm<|Qs U (hW.I hY) U U<|Q9 po U U<|x (Zn [(0,[oF oG 2]),(1,[.string iv.nm]),(2,[ua,ub,uc,ud])] ⟨U,U,U,U,U,U,Z⟩) <|
  x (Zn [(1,[oF oG 2,.string iv.nm,ua,ub,uc,ud,Zz,Zz,oF oG 0])] ⟨U,U,Z⟩) <|
  Qe<|QA (us:=[[.bool false,oF oG 2,.string iv.nm,ua,ub,uc,ud,Zz,Zz,oF oG 0]]) U U og (by exact(by decide:1*10<=1000000)) oA λpw ga gb hb99 pz=>?_
 have gc:=pp.D gb;have hA:=ha.D gc;have ki:=h8.I hA;have p0:∀b∈J.own++(s.own++oT w5.heap.size),b<ga.heap.size:=λb G=>by
  have hz1120:=hA.size;have hz1:=hP.size;rcases Lc.1 G with G|G
  ·exact ki.lt b G
  have:=gt b G;omega
 have p1:Q7 ga.heap pw 65 (Yg ee):=by rw[<-pu];exact pz
 have p2:=((hy.2 [] oe).I kg).I gb;have p3:=hj.rq.nm iv (by rw[<-ka];exact Ll O);have p4:Jg [] ga.heap ee.q:=by
  rw[<-hZ];exact⟨p3,p2,qU.nil,qU.nil⟩
 have gg:=QmD hG h6 (j:=at_ % c.rq.length) (by rw[g4];exact O);rw[hU,<-hS]at gg;have p5:y8 c.V J.sys.ps:=by have:=hO.st;rw[hS]at this;exact this
 have h0:=Qna p5 (j:=at_ % c.rq.length) (by rw[g4];exact O) ((J.sys.un.length:Int)+1);rw[hU,<-hS]at h0;have p6:jn J.sys [(false,Yh 2 (Ju iv.it))]=0:=Qfh hO (by rw[mz];decide) gg.1 h0.1;have hR2:=Ur ki hO og p0 (QnI (e:=ee) p1 p4) (by
  intro e he;rw[Lb.1 he,kh];exact⟨by simp[Yh],by simp[Yh]⟩) (ho.I (h9.D hA))
 rw[show[ee].map Y2.e=[(false,Yh 2 (Ju iv.it))] from by rw[LH,kh];rfl,p6,gg.1,e1,<-evp]at hR2;refine QN<|hR2.mono ?_;rintro r26 p7 ⟨V,rfl,p8,_,hk⟩;have hk:=hk U;have gh:=hk.1;refine Exists.elim hk.2 λs2 hk=>?_;have gi:=hk.2.2.2.1;have kj:=p8 [b9] (λb G=>by have E:=hu.lt;have h2:=gc.size;rw[Lb.1 G];omega);have n9:b9∉J.own:=λhm=>by have E:=h8.lt b9 hm;omega
 have p9:hV∉J.own:=λhm=>by have E:=h8.lt hV hm;have h2:=ha.size;have h3:=hd.size;omega
 have qc:=(hu.I gc).J gi n9;have qf:=(hW.I (hY.D gb)).J gi p9;refine Qa<|Zd U U<|Zd U U<|Qe<|Qj (us:=ZJ V) qc U U U U kj.ones λkk gj hB=>Qb ?_;have kn:=(kj.st gj).up (L':=[]) oe;have ql:hV∉[b9]:=by
  have E:=hu.lt;have h3:=hd.size;simp only[oI];omega
 have qo:=qf.J gj ql;have hmade2:V.k2.length<=1:=by have E:=h0.2.1;rw[<-OV Rp.made gh]at E;exact E
 have qy:∀k∈V.k2,k=((1:Int),iv.nm):=by have E:=h0.2.2.1;rw[<-OV Rp.made gh]at E;exact E
 have q0:V.k3=[]:=(OV Rp.gone gh).D h0.2.2.2;have hi:=kn.a2;have hv:=kn.a3;rw[q0]at hv;have q1:∀b∈J.own,w.heap.size<=b:=λb G=>by
  rcases mq b G with E|E
  ·exact gy b E
  exact LP gz.size E
 have q2:O5 [] w p7:=Vv (h9.D hA) q1 gi;have q3:w.heap.size<=b9:=LP h9.size gw;have q4:O5 [] w kk:=q2.O gj q3;refine Qd<|Q3 (α:=Unit) [(103,120)] (λ_=>[(120,.bool false)]) (λ_ w'=>w'=kk) ol ?_ ?_
 ·refine Qv<|Qa<|xb (XZ U U) (λko=>OW kc ko) (λko=>?_);refine Qa<|Qa<|xb (XZ U U) (λkq=>OW U kq) (λkq=>?_);refine QJ U<|Qa<|Qs U hB U U<|QL hi U<|xb (Z6 U U) (λkr=>OW kr oa) (λkr=>?_);refine QJ U<|Qa<|Qs U hB U U<|QL hv U<|xb (Z6 U U) (λkt=>OW kt og) (λkt=>?_);refine QJ U<|xe ?_;exact⟨(),La,U⟩
 rintro _ g23 q5 rfl;refine Z0 rfl<|Qh<|Q3 (α:=Unit) [(4,4),(121,134)] (λ_=>[(4,.bool true)]) (λ_ w'=>O5 [] q5 w') ol ?_ ?_
 ·refine ZF [] (Xi 0 15 [])<|p (QQ U)<|pq (λ_ H=>Qq (hB.I H) U U)<|p (λ_=>YX hi U)<|pb (λ_=>Q2 U U) (λku=>?_) (λku=>?_)
  ·refine p QF<|ps<|ps<|ps<|ps<|ps<|ps<|ps<|ps<|p (Xk U)<|p ZI<|pe ?_;exact⟨(),La,O5.C _ _⟩
  have hE:0<V.k2.length:=by have h125:¬(V.k2.length:Int)=0:=ku;omega
  have za:=qy _ (Ll hE);refine p QF<|p (QQ U)<|pq (λ_ H=>Qq (hB.I H) U U)<|Lg.pig (g:=KI) (i:=0) U QaV hi U U hE λa128 zb =>
   pq (λ_ H=>Qw (us:=KI (V.k2[0]'hE)) (zb.I H) U U)<|p (QQ U)<|pq (λ_ H=>Qq (qo.I H) U U)<|p (λ_=>Qx ⟨U,U,Z⟩) <|
   p (λ_=>Qik (xs:=KI (V.k2[0]'hE)) (ys:=KI ((1:Int),iv.nm)) U U U)<|p (Xk U)<|p ZI<|pe ?_
  exact⟨(),⟨OV Value.bool ((QiX _ _).D (OX za)),Z⟩,O5.C _ _⟩
 rintro _ g24 w24 zv;exact Qk ⟨[.bool true],La,U,q4.D zv⟩
open Go.RowKit
theorem Xv {a b:Bool}(E:a=true)(G:b=true):(a && b)=true:=by rw[E,G];rfl
theorem Qa0 {f:FuncId}{s:ChangeSpec}{c:OpenClaim}(E:(c.wf (OpenSpec.ofChange s))=true)(G:(laidOutB P)=true)(H:(mapsRowed P)=true)(I:(fn.params.all (P.readableRec ·))=true)(J:(namedTie P c.named s.vars)=true)(O:((c.stops == []))=true)(S:((P.stops == []))=true)(T:((c.knobs == []))=true)(V:((P.stopKnobs == []))=true)(Y:((c.inPlace == P.inPlace f))=true)(ha:((c.unfollowed == P.unfollowed f))=true)(hb:((c.recurses == P.recurses f))=true)(hc:((c.named == P.varsNamed f))=true)(he:((c.maps == (fn.params.toList++s.plain.varTypes P).any (P.mapsRec ·)))=true)(hf:((c.ifaces == (fn.params.toList++s.plain.varTypes P).any (P.ifacesRec ·)))=true)(hg:((c.mapsOut == P.mapsAmong fn.resultTypes.toList))=true)(hh:((c.loops == (fn.params.toList++s.plain.varTypes P).any (P.loopsFrom ·)))=true)(hi:((c.wideKeys == (fn.params.toList++s.plain.varTypes P++fn.resultTypes.toList).any (P.wideKeysFrom ·)))=true)(hj:(s.vars.all (P.varReadable ·))=true)(hk:(fn.resultTypes.all (λt=>P.readableRec t && decide (t<P.types.size)))=true)(hl:((c.ifacesOut == fn.resultTypes.toList.any (P.ifacesRec ·)))=true)(hm:((c.loopsOut == fn.resultTypes.toList.any (P.loopsFrom ·)))=true)(hn:((c.plainKeys == P.plainKeys))=true)(ho:(c.shortTexts.isNone)=true)(hp:(P.stopsHeard)=true)(hq:(P.mayEnter)=true)(hr:((c.lifted == P.liftsFinal))=true)(hs:((P.make == some c.make))=true)(ht:((c.kinds == (if c.domain.isEmpty then[]else fn.params.toList.map λt=>match P.underlying t with|some (.int k)=>some k|_=>none)))=true)(hu:((c.pinned == c.pinnedBy))=true)(hv:((c.veiled == (fn.params.toList++s.plain.varTypes P++fn.resultTypes.toList).any (P.veiledRec ·)))=true)(hw:(c.veiledFits P fn.params.toList (fn.params.toList++s.plain.varTypes P++fn.resultTypes.toList))=true):joinedFacts P f fn s c=true:=by
 unfold joinedFacts;exact(Xv (Xv (Xv (Xv (Xv (Xv (Xv (Xv (Xv (Xv (Xv (Xv (Xv (Xv (Xv (Xv (Xv (Xv (Xv (Xv (Xv (Xv (Xv (Xv (Xv (Xv (Xv (Xv (Xv (Xv (Xv E G) H) I) J) O) S) T) V) Y) ha) hb) hc) he) hf) hg) hh) hi) hj) hk) hl) hm) hn) ho) hp) hq) hr) hs) ht) hu) hv) hw)
theorem yy:laidOutB prog=true:=od
theorem Qi5:mapsRowed prog=true:=od
theorem Qi7:prog.stopsHeard=true:=od
theorem Qi8:prog.mayEnter=true:=od
theorem Qi6:(false == prog.liftsFinal)=true:=od
theorem Ql9:(prog.make == some Make.cut)=true:=od
theorem Qmd:(Rows.updateSparesRow.inPlace == prog.inPlace 3)=true:=od
theorem Qmc:(Rows.updateSparesRow.unfollowed == prog.unfollowed 3)=true:=od
theorem Qmb:(Rows.updateSparesRow.recurses == prog.recurses 3)=true:=od
theorem Qma:(Rows.updateSparesRow.named == prog.varsNamed 3)=true:=od
theorem QoK:Rows.updateSparesRow.wfByText (OpenSpec.ofChange Rows.updateSparesSpec)=true:=od
theorem QoN:Tryz.pinned.checked.prog.mainIs=some (true, "2f54040c77bc06dd918a3bf4dde98a2bf5c7559f2e0a75d1941ed6a489a72ca6".toList):=od
theorem QoM:prog.funcNamed "overseer/overseerlaw56.UpdateSpares" = some 3:=od
theorem QoO:false=prog.looks []:=od
theorem QoL:([36,5].all λu=>!prog.wantsStandIn u)=true:=od
theorem QoP:false=Rows.updateSparesRow.goesBy Tryz.pinned.checked.prog:=od
open Go.ChangeShapes Go.WideShapes
theorem Qok {W:O1}{base:Nat}{v:O2}(E:P.underlying t=some (.int .u8))(h:Value.okWide P W .any base t v):∃n:Nat,v=.int .u8 (n:Int)/\n<256:=by
 obtain⟨n,rfl⟩:=okWide_int E h;simp only[Value.okWide,E,Cell.okWide,Cell.ok,IntKind.has,true_and]at h;rw[show IntKind.u8.min=0 from rfl,show IntKind.u8.max=255 from rfl]at h;exact⟨n.toNat,OV (Value.int .u8) oa,oa⟩
end Go.Lg
