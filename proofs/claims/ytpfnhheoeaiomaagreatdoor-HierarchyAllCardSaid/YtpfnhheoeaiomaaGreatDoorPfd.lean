/- Merged out of 59 texts. -/
import Derived.Test.YtpfnhheoeaiomaaGreatDoorPfc
import Derived.Laws.IdiomStrings
import Derived.Shelf.SlSortCmp.NoneTotal
import Derived.Ground.SlsfProg
import Derived.Tactics
import Derived.ArgAppend
import Derived.Sort.Grow
import Derived.Deep.Draws
import Derived.Sort.Statements
import Derived.Shelf.Lay
import Derived.Tactics2
set_option maxHeartbeats 40000000
set_option maxRecDepth 100000
set_option linter.all false
open Go Go.Lg
open Go.Value renaming int->oD
open Go.IntKind renaming i64->oE
open _root_.List renaming mem_singleton->oH,replicate->oI,not_mem_nil->oJ,length_singleton->oL,range->oM,mem_cons->oN,length_append->oO,range'->oP,getD->oQ,length_cons->oS,map_cons->oU,flatMap_cons->oV,length->oY,getElem?_append_left->Oa,mem_range'_1->Od,mem_filter->Of,cons_append->Og,mem_map->Oj,append_assoc->Om,append_nil->Oq,getElem_replicate->Oy,singleton_append->OA,filter_cons->OF,map_nil->OI,flatMap_nil->OO,map->OX
open _root_.Bool renaming and_eq_true->oK,false_eq_true->Ov,true_and->OP
open _root_.Array renaming replicate->oR
open _root_.Decidable renaming byContradiction->oW
open _root_.Nat renaming zero_add->Ob,add_zero->OC,le_refl->OG,pow_succ->OM,lt_or_ge->OR,sub_zero->OS,mul_one->OV
open _root_.Int renaming toNat_natCast->OD
open _root_.Option renaming map_some->OJ
open Go renaming World->O6,Value->O7,Operand->O8,Program->O9
open Go.Proofs Go.Proofs.Tryz
open Go.Proofs.Tryz renaming prog->sV
variable {w w' W':O6}{L L' X ds ns av:LN}{n i t sz base j T N G m g id B kt ty et gp bp off U:Nat}{a A:Qz}{cs us cap capt:LV}{α:Type}{y:O8}{ve va vm z vt vs vk vx v' vb vr vo vu:O7}{aa:List Qz}{f:Fr}{P:O9}{lf:Lf}{o un ul u hi r est q rs out:LI}{s kd:Int}{c:ZO}{fn:Func}{es ed:List Ed}{K:xE}{d:xJ}{pS:String}{af:xH}{gd:xz}{k':IntKind}{ks:List KV}
namespace Go.Lg
theorem UC (m:Nat)(Y:m<256)(w:O6):QT sV 83 [.int .u8 m] w λr w'=>sW w w'/\Qh 3 ↑w w' r (setK m 5):=by
 refine Zn func83 ?_;refine Qc<|Qb<|Qc<|Qb<|Qd<|Qc<|Qb<|QY (α:=Nat×O7) [(3,17)] (λz=>[(3,z.2),(4,sS z.1)]) (λz w'=>z.1<=5/\sW w w'/\Qh 3 ↑w w' z.2 (setK m z.1)) (λz=>5 - z.1) (0,nS) oy
  ⟨Lp _,xd.C _ _,QM _ _ _ _⟩ ?_
 rintro⟨k,v⟩ g w1 ⟨hk,I,G⟩;simp only[]at hk G;have hn:=UB m k;have ho:=I.size;refine Qd<|Ql<|ZT Z Z<|xe<|Zp rfl (λh6=>?_) (λh6=>?_)
 ·refine Qt<|Ql<|Qb ?_;have ha:k=5:=oa
  rw[ha]at G;exact Qk ⟨[v],Lb,I,G⟩
 have U:k<5:=oa
 have he:m / 2 ^ k<256:=Nat.lt_of_le_of_lt (Nat.div_le_self _ _) Y;have J:=qz m k;refine Qf<|Qd<|Qn<|Ql<|Qa<|x (Qax (n:=k) Z Z (by show k<=8;omega))<|x (Uh (a:=m / 2 ^ k) (b:=1) (O0 (Value.int .u8) (zO m k)) Z he oh)<|x (Zc Z Z)<|xe<|Zp rfl (λV=>?_) (λV=>?_)
 ·rw[OY (λe=>V (by rw[e];rfl))]at J;refine Qf<|Qr<|Qa<|QC Z Z<|Qb<|⟨(k+1,v),og,oy,U,I,by simp only[];rw[J];exact G⟩
 rw[OZ oa]at J;refine Qr<|Qa<|Qa<|Qo<|Q3 [[sS k]] λb15 w2 O hp hf=>?_;have hg:=Qm G O;have hq:=O.size;refine Qo<|Q0 (news:=[sS k]) (L:=[]) hg Z Z Z (hf.at oe) oo oa oa λv3 w3 hh hj hr =>
  Qb<|Qr<|Qa<|QC Z Z<|Qb<|⟨(k+1,v3),og,oy,U,(I.D O).Z hj (λb hb=>.inr ((Qi G) b hb).1),?_⟩
 simp only[];rw[J];exact Qh.snoc hh
theorem At.from {H:xG}{a:Addr}(h:At L H a us)(j:Nat):At L H (a.add j) (us.drop j):=
 ⟨λu G=>by rw[YJ];exact h.out u (MZ G),λu G=>by rw[YJ];exact h.lt u (MZ G),λi v I=>by
  rw[Addr.add_add];exact h.cell (j+i) v (by rw[<-MT];exact I)⟩
theorem jv {v:O7}{l:List Ed}(h:Zw L ↑w v l.length 3 (l.flatMap Qp)):
  QT sV 238 [v] w λr w'=>sW w w'/\w'.ownsRow ↑w 179 3 r l.length (l.flatMap Qp):=
 ju ⟨_,Z,func238⟩ h (QgA (c:=Qp) (λ_=>oz) l)
theorem Qfv {v:O7}{l:List VU}(h:Zw L ↑w v l.length 5 (l.flatMap Zz)):
  QT sV 165 [v] w λr w'=>sW w w'/\w'.ownsRow ↑w 94 5 r l.length (l.flatMap Zz):=
 ju ⟨_,Z,func165⟩ h (QgA (c:=Zz) (λ_=>⟨Z,Z,Z,Z,Z,La⟩) l)
structure VD {α:Type}(g:α->LV)(sz T:Nat)(ps:α->List (O7×Nat×Nat×LV))(base:Nat)(w:O6)(v:O7)(l:List α):Prop where
 own:w.ownsRow base T sz v l.length (l.flatMap g)
 each:∀q∈l,∀t∈ps q,YL base (ob v) ↑w t.1 t.2.1 t.2.2.1 t.2.2.2
section
variable {g:α->LV}{ps:α->List (O7×Nat×Nat×LV)}{v:O7}{l:List α}
theorem VD.nil:VD g sz T ps base w (nS) []:=⟨QM _ _ _ _,λq G=>by cases G⟩
theorem VD.I (h:VD g sz T ps base w v l)(G:sW w w'):VD g sz T ps base w' v l:=⟨Qm h.own G,λq I t ht=>(h.each q I t ht).I G⟩
theorem VD.low {X:LN}(h:VD g sz T ps base w v l)(G:xd X w w')(hX:∀b∈X,b<base):VD g sz T ps base w' v l :=
 ⟨Qg h.own G (λb hb I=>ou (Qi h.own b hb).1 (hX b I)),λq J t ht=>(h.each q J t ht).low G hX⟩
theorem VD.app {G I:O6}{J:O7}{q:α}(h:VD g sz T ps base w v l)(V:sW w G)
  (Y:∀t∈ps q,∃N e,G.ownsRow N e t.2.2.1 t.1 t.2.1 t.2.2.2/\t.2.1<=1099511627776/\↑w<=N) (hb:base<=↑w)
  (ho:I.ownsRow base T sz J (l.length+1) (l.flatMap g++g q)) (O:xd (ob v) G I) (U:∀b∈ob J,b∈ob v\/↑G<=b):VD g sz T ps base I J (l++[q]):=by
 refine⟨?_,λd hd t ht=>?_⟩
 ·rw[Le,LJ];simpa using ho
 rcases Lk.1 hd with hd|hd
 ·exact((h.each d hd t ht).I V).app O U
 simp only[oH]at hd;subst hd;obtain⟨N,e,h1,h2,h3⟩:=Y t ht;exact(YL.of_own h1 h2 oa (λb hb=>oq ((QW h.own) b hb))).app O U
end
abbrev Qig (q:IV):List (O7×Nat×Nat×LV):=[(q.p.va,q.p.a.al.length,1,q.p.a.al.map (.int .i64)),(q.p.vm,q.p.a.mr.length,1,q.p.a.mr.map (.int .i64)),(q.p.ve,q.p.a.ed.length,3,q.p.a.ed.flatMap Qp)]
abbrev IvP (base:Nat)(w:O6)(v:O7)(l:List IV):Prop:=VD Zm 5 81 Qig base w v l
theorem IvP.itms {v:O7}{l:List IV}(h:IvP base w v l)(J:l.length<=1099511627776)(O:∀q∈l,jW q.nm)(G:∀b∈L,b<base):VF L ↑w v l :=
 ⟨QO h.own J (λb hb U=>ou (Qi h.own b hb).1 (G b U)),λq I=>⟨h.each q I (q.p.va,q.p.a.al.length,1,q.p.a.al.map (.int .i64)) oe L (λb hb=>.inl (G b hb)),h.each q I (q.p.vm,q.p.a.mr.length,1,q.p.a.mr.map (.int .i64)) oe L (λb hb=>.inl (G b hb)),h.each q I (q.p.ve,q.p.a.ed.length,3,q.p.a.ed.flatMap Qp) oe L (λb hb=>.inl (G b hb))⟩,O⟩
instance:Bw sV 81 [.string .empty,nS,sS 0,nS,nS] [(0,1),(1,4)]:={}
theorem YL.of_lt {H:xG}{v:O7}(h:∀L:LN,(∀b∈L,b<N)->Zw L H v n sz cs)(hb:base<=N)(G:∀b∈av,b<N):YL base av H v n sz cs:=λL I =>
 h L (λb J=>(I b J).elim (λh=>oa) (G b))
theorem QbK (L:LN)(H:xG):Qu L H (nS) []:=Zw.nil L H 1
theorem Qp7 {e bys:Nat}[h:Sl P t e 1 bys z][he:Ik P e .u8][hd:St P G]{x:O8}{b cap:Nat}(I:QN ↑w b T [.int .u8 (n:Int)])(U:n<256)(hx:ev f x=sL b 1 cap):
  (execOp (ev f) ⟨d,.convert t G x,ty,pS,af,gd⟩).run P w=.ok (.value (.string ⟨#[UInt8.ofNat n]⟩)) w:=by
 refine zT hx ?_;refine run_convert_bytes_back (P:=P) w t G e ⟨b,0,none⟩ cap [UInt8.ofNat n] h.u he.u hd.u (λj J=>?_);have O:j=0:=by simp at J;omega
 subst O;rw[KG];have h1:(⟨b,0,none⟩:Addr).add 0=⟨b,0,none⟩:=rfl;rw[h1,I.cell];have h2:(UInt8.ofNat n).toNat=n:=by simp[UInt8.toNat_ofNat'];omega
 simp[h2]
theorem QdF (e:VU):∀u∈Zz e,u.oneCell'=true:=by
 intro y G;simp only[Zz,oN,oJ,or_false]at G;rcases G with rfl|rfl|rfl|rfl|rfl <;> rfl
theorem QbV {q:IV}(h1:q.p.va.oneCell'=true)(h2:q.p.vm.oneCell'=true)(I:q.p.ve.oneCell'=true):∀u∈Zm q,u.oneCell'=true:=by
 intro y G;simp only[Zm,oN,oJ,or_false]at G;rcases G with rfl|rfl|rfl|rfl|rfl
 ·rfl
 ·exact h1
 ·rfl
 ·exact h2
 exact I
theorem yW {H:xG}{q:IV}(h:∀L:LN,(∀b∈L,b<N)->Zv L H q.p.va q.p.vm q.p.ve q.p.a)(hb:base<=N)(I:∀b∈av,b<N):∀t∈Qig q,YL base av H t.1 t.2.1 t.2.2.1 t.2.2.2:=by
 intro t ht;simp only[oN,oJ,or_false]at ht;rcases ht with rfl|rfl|rfl
 ·exact YL.of_lt (λL G=>(h L G).al) hb I
 ·exact YL.of_lt (λL G=>(h L G).mr) hb I
 exact YL.of_lt (λL G=>(h L G).ed) hb I
structure zI (base:Nat)(w:O6)(vc va:O7)(co:List IV)(al:LI):Prop where
 c:w.ownsRow base 81 5 vc co.length (co.flatMap Zm)
 a:Qh 3 base w va al
 dj:Dj vc va
 each:∀q∈co,∀t∈Qig q,YL base (ob vc++ob va) ↑w t.1 t.2.1 t.2.2.1 t.2.2.2
section
variable {vc vc' va':O7}{co:List IV}{al:LI}
theorem zI.nil:zI base w (nS) (nS) [] []:=⟨QM _ _ _ _,QM _ _ _ _,Dj.nil _,λq G=>by cases G⟩
theorem zI.I (h:zI base w vc va co al)(G:sW w w'):zI base w' vc va co al:=⟨Qm h.c G,Qm h.a G,h.dj,λq I t ht=>(h.each q I t ht).I G⟩
theorem zI.low {X:LN}(h:zI base w vc va co al)(G:xd X w w')(hX:∀b∈X,b<base):zI base w' vc va co al :=
 ⟨Qg h.c G (λb hb I=>ou (Qi h.c b hb).1 (hX b I)),Qg h.a G (λb hb I=>ou (Qi h.a b hb).1 (hX b I)),h.dj,λq J t ht=>(h.each q J t ht).low G hX⟩
theorem zI.avlt (h:zI base w vc va co al):∀b∈ob vc++ob va,b<w.heap.size:=λb hb=>(Lk.1 hb).elim (QW h.c b) (QW h.a b)
theorem zI.setC {q:IV}(h:zI base w vc va co al)(V:∀t∈Qig q,YL base (ob vc++ob va) ↑w t.1 t.2.1 t.2.2.1 t.2.2.2)(Y:w'.ownsRow base 81 5 vc' (co.length+1) (co.flatMap Zm++Zm q))
  (G:xd (ob vc) w w') (I:∀b∈ob vc',b∈ob vc\/↑w<=b):zI base w' vc' va (co++[q]) al:=by
 have J:xd (ob vc++ob va) w w':=G.S (λb hb=>Lk.2 (.inl hb));have O:∀b∈ob vc'++ob va,b∈ob vc++ob va\/↑w<=b:=λb hb=>by
  rcases Lk.1 hb with hb|hb
  ·exact(I b hb).imp (λh=>Lk.2 (.inl h)) id
  exact .inl (Lk.2 (.inr hb))
 refine⟨?_,Qg h.a G (λb hb ha=>h.dj b ha hb),λb hb U=>?_,λd hd t ht=>?_⟩
 ·rw[Le,LJ];simpa using Y
 ·rcases I b hb with h1|h1
  ·exact h.dj b h1 U
  have:=QW h.a b U;omega
 rcases Lk.1 hd with hd|hd
 ·exact(h.each d hd t ht).app J O
 simp only[oH]at hd;subst hd;exact(V t ht).app J O
theorem zI.setA {I:LI}(h:zI base w vc va co al)(U:Qh 3 base w' va' I)(J:xd (ob va) w w')(O:∀b∈ob va',b∈ob va\/↑w<=b):zI base w' vc va' co I:=by
 have V:xd (ob vc++ob va) w w':=J.S (λb hb=>Lk.2 (.inr hb));have Y:∀b∈ob vc++ob va',b∈ob vc++ob va\/↑w<=b:=λb hb=>by
  rcases Lk.1 hb with hb|hb
  ·exact .inl (Lk.2 (.inl hb))
  exact(O b hb).imp (λh=>Lk.2 (.inr h)) id
 refine⟨Qg h.c J (λb hb G=>h.dj b hb G),U,λb hb G=>?_,λd hd t ht=>(h.each d hd t ht).app V Y⟩;rcases O b G with h1|h1
 ·exact h.dj b hb h1
 have:=QW h.c b hb;omega
theorem zI.itms (h:zI base w vc va co al)(J:co.length<=1099511627776)(O:∀q∈co,jW q.nm)(G:∀b∈L,b<base):VF L ↑w vc co :=
 ⟨QO h.c J (λb hb U=>ou (Qi h.c b hb).1 (G b U)),λq I=>⟨h.each q I (q.p.va,q.p.a.al.length,1,q.p.a.al.map (.int .i64)) oe L (λb hb=>.inl (G b hb)),h.each q I (q.p.vm,q.p.a.mr.length,1,q.p.a.mr.map (.int .i64)) oe L (λb hb=>.inl (G b hb)),h.each q I (q.p.ve,q.p.a.ed.length,3,q.p.a.ed.flatMap Qp) oe L (λb hb=>.inl (G b hb))⟩,O⟩
end
theorem XI (ns:LN):(bys ns).length=ns.length:=by rw[bys,Lo]
def grN (ns:LN)(o:Nat):LN:=(ns.drop o).take 27
theorem Qlb {o:Nat}(h:o+27<=ns.length):(grN ns o).length=27:=by unfold grN;simp;omega
theorem Qpv {o:Nat}(h:∀n∈ns,n<256):∀n∈grN ns o,n<256:=Qo0 h o 27
theorem Qmf (ns:LN)(n:Nat):(bys ns).set 0 (.int .u8 (n:Int))=bys (ns.set 0 n):=by
 unfold bys;rw[NI]
theorem Qnh (h:∀m∈ns,m<256)(G:n<256):∀m∈ns.set 0 n,m<256:=λm I=>by
 rcases ND I with h1|rfl
 ·exact h m h1
 exact G
theorem Qjy (h:0<ns.length):(ns.set 0 n).getD 0 0=n:=by simp[oQ,h]
structure GdA (a:Qz):Prop where
 ok:QL a
 p:0<a.st
 s:a.st<=3
 c:∃a0:Qz,QL a0/\0<a0.st/\a=Xc a0
theorem Qd6 (I:QL a)(h:0<a.st):0<(Xc a).st:=by
 show 0<((xx a).length:Int);have G:(0:Int)∈xx a:=by
  have key:∀(f i:Nat) (out:LI),(0:Int)∈out->(0:Int)∈z8 a f i out:=by
   intro f;induction f with
   | zero=>intro i out h;exact h
   | succ f ih =>
    intro i out h;rw[z8];split
    ·exact ih _ _ (Qb5 _ _ _ h)
    exact h
  refine key _ _ _ ?_;unfold fd0;rw[OZ h];simp
 have:=List.length_pos_of_mem G;omega
theorem GdA.of {G:Qz}(I:QL G)(h1:0<G.st)(h2:G.st<=((1+n % 5:Nat):Int))(O:a=Xc G)(U:n<3):GdA a:=by
 have J:=Qcm I;subst O;exact⟨J.1,Qd6 I h1,oq J.2.2,G,I,h1,Z⟩
def nmI (c k:Nat):ByteArray:=⟨#[UInt8.ofNat c]⟩++⟨#[UInt8.ofNat (48+k)]⟩
theorem qK (c k:Nat):jW (nmI c k):=by
 show(ByteArray.mk _++ByteArray.mk _).size<=_;rw[ByteArray.size_append];show 1+1<=_;omega
theorem QeD {a b:LI}(V:Qu [] ↑w va a)(hb:Qu [] ↑w vb b)(hl:a.length+b.length<=1000):
  QT sV 84 [va,vb] w λr w'=>sW w w'/\∃l,l.length<=a.length+b.length/\(∀x,x∈l↔x∈a\/x∈b)/\Qh 3 ↑w w' r l:=by
 refine Zn func84 ?_;refine Qc<|Qb<|Ql<|Qw<|(Z0 V).S ?_;rintro v1 w1 ⟨G,I⟩;have hp:=G.size;refine Qa<|Qo<|QbG I Z (hb.I G) Z (UL b) oa oa λY J he hf hq=>Qb ?_;have O:Qh 3 ↑w J Y (a++b):=by
  unfold Qh;rw[Le,Lv];exact he
 have hg:sW w J:=G.Z hf (λc hc=>.inr (Qi I c hc).1);have hr:(a++b).length=a.length+b.length:=Le;refine Ql<|Qw<|(Qjw O oa).S ?_;rintro r3 w3 ⟨hh,l3,hs,hj,U⟩;have hk:sW w w3:=hg.Z hh (λc hc=>.inr (Qi O c hc).1);refine xe<|Ql<|Qw<|(QoV U oa).S ?_;rintro r4 w4 ⟨hm,l4,hu,hn,ho⟩;refine Qb<|Qk ⟨[_],Lb,hk.Z hm (λc hc=>.inr (Qi U c hc).1),l4,oa,λx=>by rw[hn,hj,Lk],ho⟩
theorem jb {v:O7}{al:LI}(h:Qu [] ↑w v al)(hb:∀e∈al,0<=e/\e<32)(hi:YD al)(hn:ns.length=27)(U:∀n∈ns,n<256):
  QT sV 85 [v,sT (bys ns),sS 3] w λr w'=>sW w w'/\∃a:Qz,Xu ↑w ↑w' r a/\GdA a/\a.al=al:=by
 refine Zn func85 ?_;refine Qc<|Zd (bys ns) λb4 w1 hk hm G=>QV [nS,sS 0,nS,nS] λb6 w2 I hs V=>xe ?_;obtain⟨s0,hs0⟩:∃s0,ns.getD 0 0=s0:=⟨_,Z⟩;have Y:ns[0]?=some s0:=by
  rw[<-hs0,LU,LE oa];rfl
 have hu:s0<256:=U s0 (Me Y);have q0:(bys ns)[0]?=some (.int .u8 (s0:Int)):=by
  unfold bys;rw[MO,Y];rfl
 have hw:=G.lt;have hy:=V.lt;refine Qc<|Qs Z (G.I I) Z q0<|Qa<|x (Yi (k':=.u8) Z ⟨oa,oa⟩)<|x (yx (a:=(s0:Int)) (b:=3) Z Z oa oa)<|Q9 Z<|Qo<|Qv (u:=.int .u8 ((s0 % 3:Nat):Int)) (G.I I) Z (O0 (Value.int .u8) (by omega:(s0:Int) % 3=((s0 % 3:Nat):Int))) (by rw[XI];omega) Z λw3 J ha =>
  xe ?_
 have O:sW w w3:=(hk.D I).O J hm;rw[Qmf]at ha;have he:(ns.set 0 (s0 % 3)).length=27:=by rw[M2];exact hn
 have hf:(ns.set 0 (s0 % 3)).getD 0 0=s0 % 3:=Qjy oa;refine Ql<|Q7 ha Z (by rw[XI];exact he)<|Qw<|(Qib (h.I O) hb hi he (Qnh U oa)).S ?_;rintro r4 w4 ⟨hg,a,hA,hok,_,ho,hc⟩;obtain⟨a0,k0,k1,k2,k3⟩:=hc (by rw[hf];omega);rw[hf]at k2;obtain⟨us,hv,hh,hp⟩:=X3 hA;have hq:QN ↑w4 b6 53 [nS,sS 0,nS,nS]:=(V.J J om).I hg;have hz:=J.size;refine Qo<|ZM (us:=us) hq Z (show Go.Lg.ev _ _=_ from hv) hh Z hp λw5 hj hr=>xe ?_;refine Qk ⟨[sT us],⟨⟨_,Z,Yc hh (hr.at (L:=[]) oe).cells⟩,La⟩,(O.D hg).O hj oa,a,?_,GdA.of k0 k1 k2 k3 (Nat.mod_lt _ oh),ho⟩;show Xu _ _ (sT us) _;rw[<-hv];exact(Je hA oa hj).S O.size
open Go.Sort
theorem Qqn {b:Nat}{al:LI}(e:Int)(w:O6)(G:QN ↑w b T [va])(hA:Qu L ↑w va al):
  QT sV 86 ([sS e]++[sP b]) w λr w'=>r=.bool (decide (e∉al))/\w'=w:=by
 refine Zn func86 ?_;refine Qc<|Qb<|Qc<|ZD G Z Z<|Qa<|Qw<|(ZG hA e).S ?_;rintro I J ⟨rfl,rfl⟩;refine x (Zi Z)<|Qb<|Qk ⟨[_],Lb,?_,Z⟩;show Value.bool (!decide (e∈al))=_;rw[decide_not]
theorem QaH {b:Nat}{al:LI}(e:Int)(w:O6)(I:QN ↑w b T [va])(hA:Qu L ↑w va al):
  FnGives sV 86 #[sP b] #[iC e] (.bool (decide (e∉al))) w:=by
 have h:=Qqn e w I hA;unfold QT at h;unfold FnGives;refine Calls.mono h λe' w' G=>?_;cases e' with
 | returned v =>
  obtain⟨rfl,rfl⟩:=G;exact⟨Z,0,Z⟩
 | _=>exact G.elim
theorem QjR {os:xG}{d:Array Int}:xd [g] w (grow (putRow iC (Sort.ahead w n) g 0 d) os):=by
 have G:(grow (putRow iC (Sort.ahead w n) g 0 d) os).heap=w.heap.modify g (onCells (putCells iC 0 d))++os:=rfl;refine⟨Z,Z,Z,?_,λi hi I=>?_⟩
 ·rw[G,NG,MP];omega
 rw[G,MK,MP,OZ hi,M7,OY (λe=>I (by simp[e]))]
theorem QoM {b:Nat}{v:O7}{l al:LI}(h:Qh 3 base w v l)(hl:l.length<=1099511627776)(J:QN ↑w b T [va])(hb:b∉ob v)(hA:Qu (ob v) ↑w va al):
  QT sV 63 [v,.func (.func 86) #[] #[sP b]] w λr w'=>xd (ob v) w w'/\Qh 3 base w' r (l.filter λx=>decide (x∈al)):=by
 have eg:∀args w,(callFunc 86 args).run sV w=.ok (.enter 86 args) w:=enters_of func86 od Z;rcases h.2 with⟨rfl,h0⟩|⟨g,cap,cur,rfl,ha,O,hh,hj,hm,hn⟩
 ·have ho:l=[]:=Lu h0;subst ho;refine Zn func63 ?_;refine Qc<|Qb<|Ql<|Qa<|Qw<|(Qfd (cap:=[sP b]) (q:=λ_=>true) (Qu.fl (QbK [] ↑w)) (λe I=>by cases I)).S ?_;rintro r1 w1 ⟨rfl,U⟩;refine Qb<|Qd<|Ql<|x (Zc Z Z)<|xe<|Zh Z (λ_=>?_) (λh8=>O1 Z h8);refine Ql<|Qb<|Qk ⟨[nS],Lb,U,Qm h U⟩
 unfold QT;have V:=λ(n:Nat) (os:xG) (d:Array Int)=>QjR (w:=w) (g:=g) (n:=n) (os:=os) (d:=d);have hp:b∉[g]:=hb;have hq:Qu [g] ↑w va al:=hA;have hc:=AnyE.slices_DeleteFunc Tryz.delI iC (λ_=>Z) (λx=>decide (x∉al)) 86 #[sP b] eg 0 (λw=>od) g 0 cap l.toArray w
  (λW x G=>by
   have Y:sW w W:=⟨G.os,G.tape,G.output,G.size,λk hk _=>G.block k hk⟩;exact QaH x W (J.I Y) (hA.I Y))
  (λn os dk x _=>QaH x _ (J.J (V n os dk) hp) (hq.st (V n os dk)))
  (Kr O hn) (by simp;omega) (ox hh)
 change Calls sV 63 _ _ _ at hc;rw[L3]at hc;refine Calls.mono hc λe w' I=>?_;obtain⟨rfl,q,rfl⟩:=I;have hf:(l.toArray.toList.filter λx=>!decide (x∉al))=l.filter λx=>decide (x∈al):=by
  refine NH λx _=>?_;by_cases hx:x∈al <;> simp[hx]
 rw[hf];have hr:=LO (λx=>decide (x∈al)) l;generalize (l.filter λx=>decide (x∈al))=u at *;have:=UK (e:=3) (n:=q) (k:=u.length) (os:=#[]) (d:=(u++oI (l.length - u.length) 0).toArray) ha O (by simp;omega) hj hm oe;rw[grow_empty]at this;refine⟨this.1,?_⟩;have h2:=this.2;have h3:(u++oI (l.length - u.length) 0).toArray.toList.take u.length=u:=oe
 rw[h3]at h2;exact h2
theorem Qdy {e:Int}{q:Bool}(h:QT sV gp ([sS e]++cap) w λr w'=>r=.bool q/\w'=w):FnGives sV gp cap.toArray #[iC e] (.bool q) w:=by
 unfold QT at h;unfold FnGives;have e0:#[iC e]++cap.toArray=([iC e]++cap).toArray:=oe
 rw[e0];refine Calls.mono h λe' w' G=>?_;cases e' with
 | returned v =>
  obtain⟨rfl,rfl⟩:=G;exact⟨Z,0,Z⟩
 | _=>exact G.elim
theorem Qhe [Fu sV gp fn]{p:Int->Bool}{v:O7}{l:LI}(eg:∀args w,(callFunc gp args).run sV w=.ok (.enter gp args) w)(h:Qh 3 base w v l)(hl:l.length<=1099511627776)
  (I:∀(e:Int) (W:O6),xd (ob v) w W->QT sV gp ([sS e]++cap) W λr w'=>r=.bool (p e)/\w'=W):
  QT sV 63 [v,.func (.func gp) #[] cap.toArray] w λr w'=>xd (ob v) w w'/\Qh 3 base w' r (l.filter λx=>!p x):=by
 rcases h.2 with⟨rfl,Y⟩|⟨g,cp,cur,rfl,ha,O,hh,hj,hm,hn⟩
 ·have ho:l=[]:=Lu Y;subst ho;refine Zn func63 ?_;refine Qc<|Qb<|Ql<|Qa<|Vc<|(Qfd (cap:=cap) (q:=λ_=>true) (Qu.fl (QbK [] ↑w)) (λe J=>by cases J)).S ?_;rintro r1 w1 ⟨rfl,U⟩;refine Qb<|Qd<|Ql<|x (Zc Z Z)<|xe<|Zh Z (λ_=>?_) (λh8=>O1 Z h8);refine Ql<|Qb<|Qk ⟨[nS],Lb,U,Qm h U⟩
 unfold QT;have hp:=λ(n:Nat) (os:xG) (d:Array Int)=>QjR (w:=w) (g:=g) (n:=n) (os:=os) (d:=d);have V:∀(e:Int) (W:O6),xd [g] w W->QT sV gp ([sS e]++cap) W λr w'=>r=.bool (p e)/\w'=W:=I;have hc:=AnyE.slices_DeleteFunc Tryz.delI iC (λ_=>Z) p gp cap.toArray eg 0 (λw=>od) g 0 cp l.toArray w
  (λW x G=>Qdy (V x W ⟨G.os,G.tape,G.output,G.size,λk I _=>G.block k I⟩))
  (λn os dk x _=>Qdy (V x _ (hp n os dk)))
  (Kr O hn) (by simp;omega) (ox hh)
 change Calls sV 63 _ _ _ at hc;rw[L3]at hc;refine Calls.mono hc λe w' J=>?_;obtain⟨rfl,q,rfl⟩:=J;have hf:(l.toArray.toList.filter λx=>!p x)=l.filter λx=>!p x:=rfl;rw[hf];have hq:=LO (λx=>!p x) l;generalize (l.filter λx=>!p x)=u at *;have:=UK (e:=3) (n:=q) (k:=u.length) (os:=#[]) (d:=(u++oI (l.length - u.length) 0).toArray) ha O (by simp;omega) hj hm oe;rw[grow_empty]at this;refine⟨this.1,?_⟩;have h2:=this.2;have h3:(u++oI (l.length - u.length) 0).toArray.toList.take u.length=u:=oe
 rw[h3]at h2;exact h2
theorem Qag {V:VwV}(h:VwA ↑w V):
  QT sV 60 [.pointer (some ⟨V.b,0,none⟩)] w λr w'=>sW w w'/\Qh 3 ↑w w' r (kpt V.a V.o):=by
 refine Zn func60 ?_;refine Qc<|Zd [.pointer (some ⟨V.b,0,none⟩)] λb1 w1 G he I=>Qb ?_;have h1:=h.I G;refine Qc<|ZD I Z Z<|Z8 Z<|Q9 Z<|Qs Z h1.blk Z Z<|Qw<|(Z0 h1.a.al).S ?_;rintro v2 w2 ⟨J,O⟩;have hge:=Qi O;refine x (Zl (l:=[]) (l':=[.tmp 1]))<|Qw<|(Qhe (gp:=138) (cap:=[sP b1]) (p:=λe=>!decide (e∈V.o)) (enters_of func138 od Z) O h1.a.al.le
  (λe W hW=>have U:=J.Z hW λb hb=>.inr (hge b hb).1;QeB (h1.I U) (I.I U) e)).S ?_
 rintro v3 w3 ⟨ha,Y⟩;refine Qb ?_;have e:(V.a.al.filter λx=>!!decide (x∈V.o))=kpt V.a V.o:=by unfold kpt;simp
 rw[e]at Y;exact Qk ⟨[_],Lb,G.D (J.Z ha λb hb=>.inr (hge b hb).1),Za Y G.size⟩
theorem QiX {b:Nat}{v:Int}(I:QN ↑w b 3 [sS v])(e:Ed):
  QT sV 210 [sT (Qp e),sP b] w λr w'=>r=.bool (decide (e.2.1=v))/\sW w w':=by
 refine Zn func210 ?_;refine Qc<|Zd (Qp e) λO U G V J=>Qb<|Qc<|Qs Z J Z Z<|ZD (I.I G) Z Z<|x (Zc Z Z)<|Qb<|Qk ⟨[_],Lb,Z,G⟩
theorem Qra [Fu sV gp fn]{q:Ed->Bool}{v:O7}{l:List Ed}(h:qn L ↑w v l)
  (I:∀(e:Ed) (G:O6),sW w G->QT sV gp ([sT (Qp e)]++cap) G λr w'=>r=.bool (q e)/\sW G w'):
  QT sV 209 [v,.func (.func gp) #[] cap.toArray] w λr w'=>r=.bool (l.any q)/\sW w w':=by
 refine Zn func209 ?_;refine Qc<|Qb<|Ql<|Qa<|Vc<|(ixG (c:=Qp) ⟨_,Z,func159⟩ (λ_=>Z) (ldA λ_=>Z) h λe _=>I e).S ?_;rintro O G ⟨rfl,J⟩;refine x (Yn Z Z)<|Qb<|Qk ⟨[_],Lb,O0 Value.bool (U7 q l 0),J⟩
theorem QiY {V:VwV}{b c:Nat}{v:Int}(h:VwA ↑w V)(U:QN ↑w c 128 [.pointer (some ⟨V.b,0,none⟩)])(Y:QN ↑w b 3 [sS v])(s:Int)(h0:0<=s)(h1:s<V.a.st):
  QT sV 208 [sS s,sP c,sP b] w λr w'=>r=.bool ((QK V.a.ed s).any λe=>decide (e.2.1=v))/\sW w w':=by
 obtain⟨rv,hA,hE⟩:=h.r;have I:s=(s.toNat:Int):=oa
 have G:s.toNat<(oM V.a.st.toNat).length:=by rw[Mg];omega
 have J:=hE s.toNat (by rw[Mg]at G;exact G);rw[<-I]at J;refine Zn func208 ?_;refine Qc<|Qb<|Qc<|ZD U Z Z<|Z8 Z<|Qs Z h.blk Z Z<|Qa<|xo (g:=λj:Nat=>[rv j]) (i:=s.toNat) (λ_=>Z) hA Z (show Go.Lg.ev _ _=_ from O0 sS I) G λhe O=>?_;rw[Mx]at O;refine x (Qq O Z)<|x (Zl (l:=[]) (l':=[.tmp 2]))<|Qw<|(Qra (q:=λe=>decide (e.2.1=v)) (cap:=[sP b]) J (λe w1 hs=>QiX (Y.I hs) e)).S ?_;rintro r2 w2 ⟨rfl,ha⟩;refine Qb<|Qk ⟨[_],Lb,Z,ha⟩
theorem QcC {V:VwV}{b c:Nat}{v:Int}{vl:O7}{l:LI}(h:VwA ↑w V)(I:QN ↑w c 128 [.pointer (some ⟨V.b,0,none⟩)])(J:QN ↑w b 3 [sS v])(hl:Qu [] ↑w vl l)(hb:∀s∈l,0<=s/\s<V.a.st):
  QT sV 207 [vl,sP c,sP b] w λr w'=>r=.bool (psb V.a v l)/\sW w w':=by
 refine Zn func207 ?_;refine Qc<|Qb<|Ql<|x (Zl (l:=[]) (l':=[.tmp 1,.tmp 2]))<|Qw<|(Qfz (q:=λs=>(QK V.a.ed s).any λe=>decide (e.2.1=v)) (cap:=[sP c,sP b]) (Qu.fl hl) (λs G U h1=>QiY (h.I h1) (I.I h1) (J.I h1) s (hb s G).1 (hb s G).2)).S ?_;rintro r2 Y ⟨rfl,O⟩;refine Qb<|Qk ⟨[_],Lb,Z,O⟩
theorem Qi0 {V:VwV}{c:Nat}{vy:O7}{X Y:LI}(h:VwA ↑w V)(J:QN ↑w c 128 [.pointer (some ⟨V.b,0,none⟩)])(hx:Qu [] ↑w vx X)(O:Qu [] ↑w vy Y):
  QT sV 205 [vx,vy,sP c] w λr w'=>r=.bool (yv V.a X Y)/\sW w w':=by
 refine Zn func205 ?_;refine Qc<|Qb<|QX (α:=Unit) [(5,14)] (λ_=>[(5,.bool (yv V.a X Y))]) (λ_ w'=>sW w w') ol ?_ ?_
 ·refine Qr<|ZD J Z Z<|Qa<|Qw<|(Qaf h hx).S ?_;rintro r1 w1 ⟨I,G⟩;unfold yv;cases hb:mkd V.a X with
  | true =>
   rw[hb]at I;subst I;refine Qa<|ZD (J.I G) Z Z<|Qa<|Qw<|(Qaf (h.I G) (O.I G)).S ?_;rintro r2 w2 ⟨rfl,U⟩;refine x (Zi Z)<|QB Z<|Qb<|⟨(),Lb,G.D U⟩
  | false =>
   rw[hb]at I;subst I;refine Qa<|Zs<|Kd<|QB Z<|Qb<|⟨(),Lb,G⟩
 rintro _ g w3 ha;exact Qk ⟨[_],Lb,Z,ha⟩
instance:Bw sV 46 [nS,nS,nS,nS,nS] [(0,1),(1,1),(2,1),(3,1),(4,1)]:={}
end Go.Lg
namespace Go.Proofs
open Go.Proofs.Tryz
open Go.Shelf
def Tryz.sortRm_ren:Go.Shelf.Ren:=⟨λ|6=>224|15=>141|14=>265|28=>220|29=>221|20=>287|21=>288|22=>289|23=>290|24=>291|25=>292|26=>293|27=>294|46=>311|47=>258|48=>259|49=>312|50=>313|57=>322|n=>n,λ|22=>144|24=>323|25=>329|3=>3|39=>246|0=>0|53=>317|55=>319|4=>4|46=>311|45=>310|50=>205|5=>5|9=>9|66=>363|70=>367|76=>389|77=>379|n=>n,λ|n=>n⟩
theorem Tryz.sortRm:Go.Proofs.SlLaysF0.n6 sV Tryz.sortRm_ren:=lyS
end Go.Proofs
namespace Go.Lg
open Go.Lg Go.Sort
abbrev Rz:={ x:Int×Int×Int×Int // 0<=x.1/\x.1<4096 }
instance:Inhabited Rz:=⟨⟨(0,0,0,0),oh⟩⟩
abbrev zv (x:Rz):LV:=[sS x.1.1,sS x.1.2.1,sS x.1.2.2.1,sS x.1.2.2.2]
abbrev RzO (base:Nat)(w:O6)(v:O7)(l:List Rz):Prop:=w.ownsRow base 323 4 v l.length (l.flatMap zv)
theorem QsE (x y:Rz)(W:O6):Calls sV 225 #[sT (zv x),sT (zv y)] W λe w'=>e=.returned (sS (x.1.1 - y.1.1))/\∃q os',w'=grow (W.drewN q) os':=by
 have G:IntKind.i64.wrap (x.1.1 - y.1.1)=x.1.1 - y.1.1:=X4 ⟨ou x.2 y.2,ou x.2 y.2⟩
 go_enter func225,ntmps225
 go_wp2
 go_ret;exact⟨by rw[<-G];rfl,0,_,by rw[alloc_eq_grow,alloc_eq_grow,grow_grow];rfl⟩
theorem Qbq (x:Rz):(zv x).length=4:=rfl
theorem Qbp:∀l:List Rz,(l.flatMap zv).length=l.length*4
 | []=>rfl
 | x::l=>by rw[LR,Le,Qbp l,Qbq,LS];omega
theorem Qgi {l:List Rz}(I:j<l.length*4):(l.flatMap zv)[j]?=some ((flatK zv 4 l.toArray)[j]!):=by
 have h1:j / 4<l.length:=Nat.div_lt_of_lt_mul oa;have h2:j % 4<4:=Nat.mod_lt _ oh;rw[get_flatK _ _ _ _ (ox I)];have J:(l.flatMap zv)[j]?=(zv (l[j / 4]'h1))[j % 4]?:=by
  rw[<-(Jv zv 4 Qbq l (j / 4) h1),L6,OZ h2,MT];congr 1;omega
 rw[J];have O:(l.toArray)[j / 4]! = l[j / 4]'h1:=by simp[h1]
 rw[O];have G:j % 4<(zv (l[j / 4]'h1)).length:=h2;exact(LE G).D (O0 some (getElem!_pos (zv (l[j / 4]'h1)) (j % 4) G).symm)
theorem Qjz:SWO (ltOf λx y:Rz=>x.1.1 - y.1.1) where
 irrefl x:=by unfold ltOf;simp
 trans x y z h1 h2:=by unfold ltOf at *;simp at *;omega
 ntrans x y z h1 h2:=by unfold ltOf at *;simp at *;omega
def zu (l:List Rz):List Rz:=(pdq (ltOf λx y:Rz=>x.1.1 - y.1.1) l.toArray 0 l.toArray.size (Go.Lib.bitLen l.toArray.size) true true).toList
theorem ym (l:List Rz):(zu l).length=l.length:=by
 unfold zu;simpa using((pdq_sorts (ltOf λx y:Rz=>x.1.1 - y.1.1) Qjz l.toArray 0 l.toArray.size (Go.Lib.bitLen l.toArray.size) true true (Lp _) (Lr _) (Or.inl rfl)).1.1)
theorem QhN {v:O7}{l:List Rz}(h:RzO base w v l)(hl:l.length<=1099511627776):
  QT sV 224 [v,.func (.func 225) #[] #[]] w λ_ w'=>xd (ob v) w w'/\RzO base w' v (zu l):=by
 unfold QT;rcases h.2 with⟨rfl,h0⟩|⟨g,cap,cur,rfl,hh,J,hm,ho,hp,hq⟩
 ·have hr:l=[]:=Lu h0;subst hr;have hc:=AnyF.slices_SortFunc_none Tryz.sortRm none 0 (.func (.func 225) #[] #[]) w;change Calls sV 224 _ _ _ at hc;refine Calls.mono hc λe w' O=>?_;obtain⟨rfl,rfl⟩:=O;rw[show zu []=[] from Lu (ym [])];exact⟨xd.C _ _,h⟩
 have ha:g<w.heap.size:=(LM.1 J).1;have hH:HoldsK zv 4 w g 0 l.toArray:=by
  intro j G;rw[size_flatK,L3]at G;have h1:=Qgi G;rw[<-hq,L6,OZ G]at h1;constructor
  ·show(match w.heap[g]? with|some (.cells c _ _)=>if(none:Option _).isSome then none else c[0+j]?|_=>none)=_
   rw[J];simp only[Ob,Option.isSome_none,Ov,if_false];rw[<-MX,h1];rfl
  show(match w.heap[g]? with|some (.cells _ _ (lo,hi))=>decide (lo<=0+j) && decide (0+j<hi)|_=>false)=false
  rw[J];simp
 have eg:∀args w,(callFunc 225 args).run sV w=.ok (.enter 225 args) w:=enters_of func225 od Z;have hc:=AnyQ.slices_SortFunc_eq Tryz.sortRm 4 isAgg323 sizeOf323 zv Qbq (λx v hv=>by simp at hv;rcases hv with rfl|rfl|rfl|rfl <;> rfl) (λx y=>x.1.1 - y.1.1) Qjz 225 #[] g 0 cap l.toArray w eg (λm os dk _ x y=>QsE x y _) hH ha (by simp;omega)
 change Calls sV 224 _ _ _ at hc;rw[L3]at hc;refine Calls.mono hc λe w' O=>?_;obtain⟨rfl,n,os,rfl⟩:=O;refine Zg (zu l).toArray λI U=>?_;have V:I.size=l.length:=by rw[<-U];simpa using ym l
 have hs:zu l=I.toList:=by rw[<-U]
 have hf:pdq (ltOf λx y:Rz=>x.1.1 - y.1.1) l.toArray 0 l.toArray.size (Go.Lib.bitLen l.toArray.size) true true=I:=by rw[<-U];unfold zu;simp
 rw[L3]at hf;rw[hf,hs];have Y:(sortWorldK zv 4 w g 0 n I os).heap=w.heap.modify g (onCells (putCells id 0 (flatK zv 4 I)))++os:=rfl;refine⟨⟨rfl,Z,Z,?_,λk hk hn=>?_⟩,?_⟩
 ·rw[Y,NG,MP];omega
 ·rw[Y,MK,MP,OZ hk,M7,OY (λe=>hn (by simp[ob,e]))]
 refine⟨Qbp _,.inr ⟨g,cap,putCells id 0 (flatK zv 4 I) cur,by simp[V],hh,?_,by simp[V];exact hm,ho,by simp[putCells,hp],?_⟩⟩
 ·rw[Y,MK,MP,OZ ha,M7,OZ rfl,J];rfl
 apply Nw;intro j;rw[L6];by_cases G:j<I.toList.length*4
 ·rw[OZ G,Qgi G,MX];have hu:j<cur.size:=by simp[V]at G;omega
  have hw:j<(flatK zv 4 I).size:=by simpa using G
  simp only[putCells,Array.getElem?_mapIdx,Array.getElem?_eq_getElem hu,OJ,Nat.zero_le,Ob,true_and,OZ hw,OS,id]
 rw[OY G,Mk];rw[Qbp];omega
theorem Qqg (G:QL a)(O:a.st=(n:Int))(hl:lf.length=n):∀x∈nxs a ul lf,0<=x/\x<(n:Int):=λx hx=>by
 have h1:=Qkq x hx;have h2:x.toNat<n:=by
  refine oW λh=>?_;unfold lft at h1;simp[oQ,List.getElem?_eq_none (show lf.length<=x.toNat by omega)]at h1
 unfold nxs at hx;split at hx
 ·obtain⟨p,I,rfl⟩:=Lt.1 hx;obtain⟨_,e,J,U,_⟩:=(QbO a ul lf).1 p I;have:=G.ed e J;omega
 have:=((qg lf (dsts a lf) 0).1 x hx).2;omega
abbrev Q4:=Int×Int×Int×Int
abbrev q4C (x:Q4):LV:=[sS x.1,sS x.2.1,sS x.2.2.1,sS x.2.2.2]
def QpU (x:Q4):Rz:=if h:0<=x.1/\x.1<4096 then⟨x,h⟩else default
theorem QcH:∀l:List Rz,(l.map (·.1)).map QpU=l
 | []=>rfl
 | x::l=>by
  rw[L2,L2,QcH l];congr 1;unfold QpU;rw[dif_pos x.2]
theorem Qox (l:List Rz):(l.map (·.1)).flatMap q4C=l.flatMap zv:=by rw[List.flatMap_map]
def rmR (rk:Int)(r:Int×xD):List Q4:=r.2.map λp=>(p.1,rk,r.1,p.2)
def rmL (a:Qz)(ul:LI):Nat->Int->Lf->List Q4
 | 0,_,_=>[]
 | f+1,rk,lf=>if(nxs a ul lf).length=0 then[]else rmR rk (nxR a ul lf)++rmL a ul f (rk+1) ((nxs a ul lf).foldl cut lf)
theorem QjF {f:Nat}{rk:Int}(h:(nxs a ul lf).length=0):rmL a ul f rk lf=[]:=by
 cases f with
 | zero=>rfl
 | succ f=>rw[rmL,OZ h]
theorem QjE {f:Nat}{rk:Int}(h:(nxs a ul lf).length≠0):rmL a ul (f+1) rk lf=rmR rk (nxR a ul lf)++rmL a ul f (rk+1) ((nxs a ul lf).foldl cut lf):=by rw[rmL,OY h]
def rmF (fb:LI):List Q4:=fb.map λy=>(y,1,1,-1)
def rmA (a:Qz)(fb ul:LI):List Q4:=rmF fb++rmL a ul (a.st.toNat+1) 2 (lf0 a.st.toNat fb)
def rmS (a:Qz)(fb ul:LI):List Q4:=(zu ((rmA a fb ul).map QpU)).map (·.1)
def kpI (lf:Lf)(n:Nat):LN:=(oM n).filter λi=>lf.getD i false
def kpK (lf:Lf)(n:Nat):LI:=(kpI lf n).map λi:Nat=>(i:Int)
def kpD (lf:Lf)(D:LI)(n:Nat):LI:=(kpI lf n).map λi=>xh D i
theorem Qsl (h:lf.getD n false=true):kpI lf (n+1)=kpI lf n++[n]:=by
 unfold kpI;rw[Nn,LW,L9,OZ h];rfl
theorem Qsm (h:lf.getD n false=false):kpI lf (n+1)=kpI lf n:=by
 unfold kpI;rw[Nn,LW,L9,OY (by rw[h];decide)];exact LK _
structure Qcu (L:LN)(H:xG)(c0 c1 c2:O7)(a:Qz)(fb ul:LI):Prop where
 k:Qu L H c0 (kpK (Xk a fb ul) a.st.toNat)
 d:Qu L H c1 (kpD (Xk a fb ul) (dsts a (Xk a fb ul)) a.st.toNat)
 r:Zw L H c2 (rmS a fb ul).length 4 ((rmS a fb ul).flatMap q4C)
theorem Qcu.st {L:LN}{w w':O6}{c0 I J:O7}{a:Qz}{fb ul:LI}(h:Qcu L ↑w c0 I J a fb ul)(G:xd L w w'):Qcu L ↑w' c0 I J a fb ul:=⟨h.k.st G,h.d.st G,h.r.st G⟩
theorem Qcu.up {L L':LN}{H:xG}{c0 I J:O7}{a:Qz}{fb ul:LI}(h:Qcu L H c0 I J a fb ul)(G:∀b∈L',b∈L\/H.size<=b):Qcu L' H c0 I J a fb ul:=⟨h.k.up G,h.d.up G,h.r.up G⟩
theorem Qpm {rk rs:Int}:∀(l:xD),(∀x∈l.map (·.1),0<=x/\x<4096)->∃lz:List Rz,lz.flatMap zv=l.flatMap (rmC rk rs)/\lz.length=l.length/\lz.map (·.1)=rmR rk (rs,l)
 | [],_=>⟨[],Z,Z,Z⟩
 | x::l,h=>by
  obtain⟨lz,h1,h2,G⟩:=Qpm (rk:=rk) (rs:=rs) l (λy I=>h y (Lh _ I));exact⟨⟨(x.1,rk,rs,x.2),h x.1 Lj⟩::lz,by rw[LR,LR,h1],by simp[h2],by rw[L2,G];rfl⟩
theorem Qgz:∀l:List Rz,∀u∈l.flatMap zv,u.oneCell'=true
 | [],u,h=>by cases h
 | x::l,u,h=>by
  rw[LR,Lk]at h;rcases h with h|h
  ·simp only[zv,oN,oJ,or_false]at h;rcases h with rfl|rfl|rfl|rfl <;> rfl
  exact Qgz l u h
theorem RzO.snoc {v:O7}{l m:List Rz}(h:w.ownsRow base 323 4 v (l.length+m.length) (l.flatMap zv++m.flatMap zv)):RzO base w v (l++m):=by
 unfold RzO;rw[Le,LJ];exact h
abbrev K7 (k d r:O7)(n:Int):LV:=[k,d,r,sS n,nS,sS 0,nS,nS,nS]
structure ReI (b10:Nat)(q:Pz)(wB:O6)(lf:Lf)(rn:Int)(vr:O7)(lz:List Rz)(w:O6):Prop where
 st:xd [b10,q.bl] wB w
 B10:QN ↑w b10 148 (K7 (nS) (nS) vr rn)
 R:RzO ↑wB w vr lz
 F:QN ↑w q.bl 4 (lf.map Value.bool)
 n:lf.length=q.n
section
variable {b10:Nat}{q:Pz}{wB w'':O6}{rn:Int}{lz:List Rz}
theorem ReI.I (h:ReI b10 q wB lf rn vr lz w)(G:sW w w'):ReI b10 q wB lf rn vr lz w':=⟨h.st.D G,h.B10.I G,Qm h.R G,h.F.I G,h.n⟩
theorem ReI.cut (h:ReI b10 q wB lf rn vr lz w)(l:q.bl<↑wB)(ne:b10≠q.bl)(G:xd [q.bl] w w'){I:Lf}(J:QN ↑w' q.bl 4 (I.map Value.bool))(O:I.length=q.n):ReI b10 q wB I rn vr lz w' :=
 ⟨h.st.Z G (λb hb=>.inl (by simp only[oH]at hb;simp[hb])),h.B10.J G (ox ne),Qg h.R G (λb hb=>by have:=(Qi h.R b hb).1;simp only[oH];omega),J,O⟩
theorem ReI.app (h:ReI b10 q wB lf rn vr lz w)(l:q.bl<↑wB)(Y:b10<wB.heap.size)(ne:b10≠q.bl){G:O7}{J:List Rz}{O:Int}(U:xd (ob vr) w w')(hR:RzO ↑wB w' G J)(I:xd [b10] w' w'')
  (V:QN ↑w'' b10 148 (K7 (nS) (nS) G O)):ReI b10 q wB lf O G J w'':=by
 have hge:=Qi h.R;exact⟨(h.st.Z U (λb hb=>.inr (hge b hb).1)).Z I (λb hb=>.inl (by simp only[oH]at hb;simp[hb])),V,Qg hR I (λb hb=>by have:=(Qi hR b hb).1;simp only[oH];omega),
  (h.F.J U (λhb=>oq (hge _ hb).1)).J I (ox ne.symm),h.n⟩
theorem ReI.rounds (h:ReI b10 q wB lf rn vr lz w)(O:b10<wB.heap.size)(ne:b10≠q.bl){I:Int}(G:xd [b10] w w')(J:QN ↑w' b10 148 (K7 (nS) (nS) vr I)):ReI b10 q wB lf I vr lz w' :=
 ⟨h.st.Z G (λb hb=>.inl (by simp only[oH]at hb;simp[hb])),J,Qg h.R G (λb hb=>by have:=(Qi h.R b hb).1;simp only[oH];omega),h.F.J G (ox ne.symm),h.n⟩
end
theorem QhS {vf:O7}{forb unc:LI}(h:Zv [] ↑w va vm ve a)(hok:QL a)(hf:Qu [] ↑w vf forb)(kh:∀x∈forb,0<=x/\x<a.st)(hfl:forb.length<=4096)(hu:Qu [] ↑w vu unc):
  QT sV 143 [.agg #[va,sS a.st,vm,ve],vf,vu,.bool true] w λr w'=>sW w w'/\∃c0 c1 c2 c3 sa sm se o,r=.agg #[c0,c1,c2,c3,sa,sS (Ud a forb unc).st,sm,se,o] /\
   ZN [c0,c1,c2,c3,o]/\∀L:LN,(∀b∈L,b<↑w)->Zv L ↑w' sa sm se (Ud a forb unc)/\Qcu L ↑w' c0 c1 c2 a forb unc:=by
 have hst0:=hok.st0;have hst1:=hok.st1;obtain⟨n,hn⟩:∃n:Nat,a.st=n:=⟨a.st.toNat,oa⟩;have h8:a.st.toNat=n:=oa
 have hS:Ud a forb unc=jZ a (Vj a unc (n+1) (lf0 n forb)):=by unfold Ud Xk;rw[h8]
 have mz:rmA a forb unc=rmF forb++rmL a unc (n+1) 2 (lf0 n forb):=by unfold rmA;rw[h8]
 have gl:Xk a forb unc=Vj a unc (n+1) (lf0 n forb):=by unfold Xk;rw[h8]
 refine Zg (Ud a forb unc) λSA m0=>?_;rw[m0]at hS ⊢;refine Zn func143 ?_;refine Qc<|Zd [va,sS a.st,vm,ve] λb4 w1 ki hb4 m1=>QV (K7 (nS) (nS) (nS) 0) λb8 w2 kj hb8 kk=>xe ?_;have hT:=ki.D kj;have hl8:=kk.lt;have hz1:=ki.size;refine Qc<|Q7 (m1.I kj) Z Z<|Qa<|Qa<|Qw<|(Qjq (h.I hT) hok hn (hf.I hT) kh (hu.I hT)).S ?_;rintro r3 w3 ⟨kn,bp,q,rfl,m2,m3,m4,hbl,hP,hF⟩;refine Qb ?_;subst m2 m3 m4;have hq:PzQ q:=⟨hok,hn⟩;have m5:=hT.D kn;have hlF:=hF.lt;refine Qc<|QV (K7 (nS) (nS) (nS) 0) λb10 O h9 m6 ko=>xe ?_;have gm:=m5.D h9;have hz4:=h9.size;have hU:=ko.lt;have hv:b10≠q.bl:=oa
 have gn:q.bl<O.heap.size:=oa
 have m7:PzA [b10,q.bl] ↑O bp q:=(hP.up (λb hb=>by
  simp only[oN,oJ,or_false]at hb;rcases hb with rfl|rfl
  ·exact .inr m6
  exact .inl oe)).I h9
 have m8:=Qn8 q.n forb;have hA:∀{w'},xd [b10,q.bl] O w'->PzA [] ↑w' bp q:=λhs=>(m7.st hs).up oe;refine Qd<|Ql<|QG (hf.I gm) Z<|Qa<|xe<|QY (α:=Nat×Int×O7×List Rz) [(12,12),(25,39)] (λz=>[(25,sS z.1)]) (λz w'=>z.1<=forb.length/\ReI b10 q O (lf0 q.n forb) z.2.1 z.2.2.1 z.2.2.2 w'/\z.2.2.2.length=z.1/\(z.2.1=0\/z.2.1=1)/\z.2.2.2.map (·.1)=rmF (forb.take z.1)) (λz=>forb.length - z.1) (0,0,nS,[]) Lb
  ⟨Lp _,⟨xd.C _ _,ko,QM _ _ _ _,hF.I h9,m8⟩,Z,.inl Z,Z⟩ ?_
 rintro⟨k,rn,vr,lz⟩ g w5 ⟨hk,hI,gq,hV,hW⟩;simp only[]at hk hI gq hV hW;have m9:Qu [] ↑w5 vf forb:=((hf.up (L':=[b10,q.bl]) (λb hb=>by
  simp only[oN,oJ,or_false]at hb;exact .inr oa)).I gm |>.st hI.st).up oe
 refine Zk rfl Z (λgr=>?_) (λgr=>?_)
 ·refine Qt ?_;have hcl:=Qhj (lf0 q.n forb);have pc:forb.length<=k:=by have hX:¬(k:Int)<(forb.length:Int):=gr;omega
  rw[Ls pc]at hW;refine Qd<|Qc<|Qb<|QY (α:=Nat×Nat×Int×O7×List Rz×Lf) [(13,14),(16,16),(40,71)] (λz=>[(13,sS z.2.1)])
   (λz w'=>ReI b10 q O z.2.2.2.2.2 z.2.2.1 z.2.2.2.1 z.2.2.2.2.1 w'/\z.2.1+z.1=q.n+3/\z.2.2.2.2.1.length<=4096+z.2.1*1000000/\Vj q.a q.unc z.1 z.2.2.2.2.2=Vj q.a q.unc (q.n+1) (lf0 q.n forb)/\V0 z.2.2.2.2.2+1<=z.1/\z.2.2.2.2.1.map (·.1)++rmL q.a q.unc z.1 (z.2.1:Int) z.2.2.2.2.2=rmA q.a forb q.unc) (λz=>z.1) (q.n+1,2,rn,vr,lz,lf0 q.n forb) Lb ⟨hI,og,og,Z,og,by rw[mz];simp only[hW];rfl⟩ ?_
  rintro⟨f,rank,rn,vr,lz,lf⟩ g w6 ⟨hI,pd,gq,hB,pf,hC⟩;simp only[]at hI pd gq hB pf hC;refine Qd<|Qn<|Ql<|Qa<|Qa<|Qw<|(Qj8 (hA hI.st) hq hI.F hI.n rank).S ?_;rintro r7 w7 ⟨hY,hE,kq⟩;have hh:=QnO q.a q.unc lf;have kr:=λ(f:Nat) (h:(nxs q.a q.unc lf).length≠0)=>QjE (a:=q.a) (ul:=q.unc) (f:=f) (rk:=(rank:Int)) (lf:=lf) h;refine Zg (nxR q.a q.unc lf) λNR pg=>?_;rw[pg]at hE kq hh kr;obtain⟨rs,l⟩:=NR;simp only[]at hE kq hh;refine Qb ?_;have U:=hI.I hY;have kt:Zw [] ↑w7 r7 l.length 4 (l.flatMap (rmC rank rs)):=QO hE oa oe;have gs:(nxs q.a q.unc lf).length=l.length:=by rw[<-hh,Lo]
  have gt:=Qqg (ul:=q.unc) hok hn hI.n;rw[<-hh]at gt;refine Qd<|Ql<|QG kt Z<|x (Zc Z Z)<|xe<|Zh Z (λgu=>?_) (λgu=>?_)
  ·refine Qt ?_;have hG:l.length=0:=by have h49:(l.length:Int)=0:=gu;omega
   rw[QhT (by rw[gs];exact hG)]at hB;rw[QjF (by rw[gs];exact hG),LK]at hC;rw[<-hB]at hS gl;refine Qc<|Q9 Z<|Qs Z U.B10 Z Z<|Qw<|(QhN U.R oa).S ?_;rintro r8 V ⟨he,gv⟩;have ph:rmS q.a forb q.unc=(zu lz).map (·.1):=by unfold rmS;rw[<-hC,QcH]
   refine xe ?_;have hge:=Qi U.R;have gx:xd [b10,q.bl] O V:=U.st.Z he (λb hb=>.inr (hge b hb).1);have gy:QN ↑V b10 148 (K7 (nS) (nS) vr rn):=U.B10.J he (λhb=>oq (hge _ hb).1);have ku:QN ↑V q.bl 4 (lf.map Value.bool):=U.F.J he (λhb=>oq (hge _ hb).1);have kv:=QA gv;have hz8:=gx.size;refine Qd<|Ql<|Qw<|(U9 (hA gx) hq ku U.n).S ?_;rintro r9 I ⟨Y,bD,rfl,hbD,kw,hZ⟩;refine Zg (dsts q.a lf) λD hD=>?_;rw[hD]at kw hZ;have kx:Qu [b10] ↑I (sL bD q.n q.n) D:=by
    have h1:=kw.arr (L:=[b10]) om (n:=q.n) (cap:=q.n) (sz:=1) (by simp[hZ]) oa (Lr _);unfold Qu;rw[hZ];exact h1
   have pn:=gx.D Y;have hz9:=Y.size;have po:=ku.I Y;refine QG kx Z<|Qa<|xe<|QY (α:=Nat×O7×O7×LI×LI) [(17,18),(79,107)] (λz=>[(79,sS z.1)])
    (λz w'=>z.1<=D.length/\xd [b10] I w'/\QN ↑w' b10 148 (K7 z.2.1 z.2.2.1 vr rn)/\Qh 3 ↑I w' z.2.1 z.2.2.2.1/\Qh 3 ↑I w' z.2.2.1 z.2.2.2.2/\Dj z.2.1 z.2.2.1/\z.2.2.2.1.length<=z.1/\z.2.2.2.2.length<=z.1/\z.2.2.2.1=kpK lf z.1/\z.2.2.2.2=kpD lf D z.1) (λz=>D.length - z.1) (0,nS,nS,[],[]) Lb
    ⟨Lp _,xd.C _ _,gy.I Y,QM _ _ _ _,QM _ _ _ _,Dj.nil' _,Lr _,Lr _,Z,Z⟩ ?_
   rintro⟨i,vk,vd,lk,ld⟩ g hH ⟨hi,ha,hJ,hK,hp,ga,pp,hld,gb,gc⟩;simp only[]at hi hJ hK hp ga pp hld gb gc;have hz10:=ha.size;have ge:xd [b10,q.bl] O hH:=pn.Z ha (λb hb=>.inl (by simp only[oH]at hb;simp[hb]));have kz:QN ↑hH q.bl 4 (lf.map Value.bool):=po.J ha (ox hv.symm);refine Zk Z Z (λgz=>?_) (λgz=>?_)
   ·refine Qt<|Ql<|Qw<|(yD (hA ge) hq kz U.n).S ?_;rintro r11 pt ⟨hr,_,o,rfl,⟨sa,sm,se,rfl,g0⟩,g2⟩;rw[<-hS]at g0;have hw:=g0 [] oe;refine Qa<|QS Z Z<|QS Z Z<|Q9 Z<|Qo<|Ks (us:=[sa,sS SA.st,sm,se]) (hJ.I hr) Z (by rw[<-hS];rfl) Z oe ⟨hw.al.one,rfl,hw.mr.one,hw.ed.one,La⟩ rfl λw12 gg pu =>
     Q9 rfl<|Qo<|Qv (j:=8) (u:=o) pu Z Z oe g2 λw13 gh pw=>xe ?_
    have pz:b8∉[b10,q.bl]:=by simp only[oN,oJ,or_false];omega
    have k0:b8∉[b10]:=om
    have p0:=(((((kk.I (kn.D h9)).J ge pz).I hr).J gg k0).J gh k0);refine Qc<|Q7 pw Z Z<|Q6 [vk,vd,vr,sS rn,sa,sS SA.st,sm,se,o] p0 ⟨QA hK,QA hp,kv,Z,hw.al.one,Z,hw.mr.one,hw.ed.one,g2,La⟩ λp4 g3 p5=>xe ?_;have p6:∀b∈[b10,q.bl],↑w<=b:=λb hb=>by simp only[oN,oJ,or_false]at hb;omega
    have p7:sW w p4:=((((gm.Z ge (λb hb=>.inr (p6 b hb))).D hr).O gg oa).O gh oa).O g3 oa;refine Qk ⟨[.agg #[vk,vd,vr,sS rn,sa,sS SA.st,sm,se,o]],⟨Kh p5,La⟩,p7,vk,vd,vr,sS rn,sa,sm,se,o,Z,⟨QA hK,QA hp,kv,Z,g2,La⟩,λL hL=>?_⟩;have gi:∀N,↑O<=N->∀b∈b10::b8::L,b<N:=λN hN b hb=>by
     simp only[oN]at hb;rcases hb with rfl|rfl|hb
     ·omega
     ·omega
     have:=hL b hb;omega
    have h1:=g0 (b10::b8::L) (gi _ oa);have h2:=((h1.st (gg.S oe)).st (gh.S oe)).st (g3.S oe);have p8:i=q.n:=by have p9:¬(i:Int)<(D.length:Int):=gz;omega
    subst p8;have hrl:(zu lz).length=lz.length:=ym lz;have h3:Qcu (b10::b8::L) ↑hH vk vd vr q.a forb q.unc:=by
     refine⟨?_,?_,?_⟩
     ·rw[gl,h8,<-gb];exact Qh.ints hK oa (gi _ oa)
     ·rw[gl,h8,hD,<-gc];exact Qh.ints hp oa (gi _ oa)
     rw[ph,Lo,Qox];have qf:=Qi gv;refine(((QO gv oa (λb hb qj=>ou (qf b hb).1 (gi _ (Lr _) b qj)):Zw (b10::b8::L) ↑V vr (zu lz).length 4 ((zu lz).flatMap zv)).I Y).st (ha.S oe))
    have h4:=((((h3.st (hr.any)).st (gg.S oe)).st (gh.S oe)).st (g3.S oe)).up (L':=L) (λb hb=>.inl (by simp[hb]));exact⟨h2.up (λb hb=>.inl (by simp[hb])),h4⟩
   refine Qf ?_;have hz:i<D.length:=by have p9:(i:Int)<(D.length:Int):=gz;omega
   have g4:i<lf.length:=by rw[U.n,<-hZ];exact hz
   have ql:lf[i]'g4=lf.getD i false:=by simp[oQ,g4]
   refine Qd<|Qn<|Ql<|xii (i:=i) (kx.st ha) Z Z hz λa82 k4=>?_;refine Zg (D[i]'hz) λd hd=>?_;rw[hd]at k4;refine x (Qq k4 Z)<|x Qe<|Qb<|Ql<|Z8 Z<|Qs Z (hA ge).B Z Z<|Qa<|x (QE (i:=i) Z Z oa)<|x (v:=.bool (lf.getD i false)) ((J1 (i:=i) kz Z g4).D (by rw[ql]))<|xe<|Q5 Z (λg5=>?_) (λg5=>?_)
   ·have hM:∀{v:O7} {l:LI} {w':O6},Qh 3 ↑I w' v l->b10∉ob v:=λho G=>oq (Qi ho b10 G).1
    refine Qc<|Q9 Z<|Qs Z hJ Z Z<|Qa<|Qo<|Q3 [[sS i]] λb95 y1 h5 hb95 q4=>Qo<|Q0 (m:=1) (news:=[sS i]) (L:=[]) (Qm hK h5) Z Z Z (q4.at oe) oo oa (oq h5.size) λhO y2 k5 gj q5 =>
     Q9 rfl<|Q9 Z<|Qo<|Qv (j:=0) (u:=hO) ((hJ.I h5).J gj (hM hK)) Z Z oe (QA k5) λy3 g6 k6=>xe ?_
    have j1:Qh 3 ↑I y2 hO (lk++[(i:Int)]):=Qh.snoc k5;have hzy1:=h5.size;have hzy2:=gj.size;have hzy3:=g6.size;have j2:Qh 3 ↑I y2 vd ld:=Qg (Qm hp h5) gj (λb hb G=>ga b G hb);have k9:Dj hO vd:=λb hb G=>by
     rcases q5 b hb with h1|h1
     ·exact ga b h1 G
     have:=QW hp b G;omega
    have ma:∀{v:O7} {l:LI},Qh 3 ↑I y2 v l->Qh 3 ↑I y3 v l:=λho=>Qg ho g6 (λb hb G=>by simp only[oH]at G;subst G;exact hM ho hb);have mc:=ma j1;have g7:=ma j2;have j3:xd [b10] I y3:=(((ha.D h5).Z gj (λb hb=>.inr (Qi hK b hb).1))).Q g6;refine Qr<|Q9 Z<|Qs Z k6 Z Z<|Qa<|Qo<|Q3 [[sS d]] λb103 y4 h6 hb103 j4=>Qo<|Q0 (m:=1) (news:=[sS d]) (L:=[]) (Qm g7 h6) Z Z Z (j4.at oe) oo oa (oq h6.size) λg8 y5 mf g9 za =>
     Q9 rfl<|Q9 Z<|Qo<|Qv (j:=1) (u:=g8) ((k6.I h6).J g9 (hM g7)) Z Z oe (QA mf) λy6 ka z0=>xe ?_
    have mg:Qh 3 ↑I y5 g8 (ld++[d]):=Qh.snoc mf;have mh:=Qsl (lf:=lf) (n:=i) g5;have z1:xh D i=d:=by unfold xh;simp[oQ,hz,hd]
    have mj:Qh 3 ↑I y5 hO (lk++[(i:Int)]):=Qg (Qm mc h6) g9 (λb hb G=>k9 b hb G);have hzy4:=h6.size;refine Qr<|QC Z Z<|Qa<|xe<|⟨(i+1,hO,g8,_,_),og,Lb,hz,(((j3.D h6).Z g9 (λb hb=>.inr (Qi g7 b hb).1))).Q ka,z0,Qg mj ka (λb hb G=>by simp only[oH]at G;subst G;exact hM mj hb),Qg mg ka (λb hb G=>by simp only[oH]at G;subst G;exact hM mg hb),λb hb G=>?_,by simp only[oO,oL];omega,by simp only[oO,oL];omega,by simp only[];unfold kpK;rw[mh,Lv,gb];rfl,by simp only[];unfold kpD;rw[mh,Lv,gc,<-z1];rfl⟩;rcases za b G with h1|h1
    ·exact k9 b hb h1
    have:=QW mc b hb;omega
   refine Qf<|Qr<|QC Z Z<|Qa<|xe ?_;have mo:=Qsm (lf:=lf) (n:=i) g5;exact⟨(i+1,vk,vd,lk,ld),og,Lb,hz,ha,hJ,hK,hp,ga,og,og,by unfold kpK;rw[mo];exact gb,by unfold kpD;rw[mo];exact gc⟩
  refine Qf ?_;have hG:¬l.length=0:=λe=>gu (by show(l.length:Int)=0;omega);have kb:(nxs q.a q.unc lf).length≠0:=by rw[gs];exact hG
  have z2:=Qdk kb;refine Exists.elim (Nu (show f≠0 by omega)) λf' z3=>?_;subst z3;rw[Qav kb,<-hh]at hB;rw[kr f' kb,<-hh]at hC;rw[<-hh]at z2;refine Exists.elim (Qpm (rk:=(rank:Int)) (rs:=rs) l (λx hx=>oq (gt x hx))) λln h7=>?_;refine Qd<|Ql<|QG kt Z<|Qa<|xe<|QY (α:=Nat) [(16,16),(51,62)] (λz=>[(51,sS z)]) (λz w'=>z<=l.length/\xd [q.bl] w7 w'/\ReI b10 q O (((l.take z).map (·.1)).foldl cut lf) rn vr lz w') (λz=>l.length - z) 0 Lb ⟨Lp _,xd.C _ _,U⟩ ?_;rintro j g V ⟨hj,he,J⟩;have hV:∀b∈ob r7,b≠q.bl:=λb hb e=>ou (Qi hE b hb).1 hI.st.size
  have z4:RmO ↑w6 V r7 rank rs l:=Qg hE he (λb hb G=>hV b hb (ox G));have mq:Zw [q.bl] ↑V r7 l.length 4 (l.flatMap (rmC rank rs)):=QO z4 oa (λb hb G=>hV b hb (ox G));refine Zk Z Z (λkc=>?_) (λkc=>?_)
  ·refine Qt ?_;have z5:l.length<=j:=by have gk:¬(j:Int)<(l.length:Int):=kc;omega
   rw[Ls z5]at J;obtain⟨ad,cap7,hr7,_,hAt7⟩:∃ad cap,r7=.slice (some ad) l.length cap/\l.length<=cap/\At [q.bl] ↑V ad (l.flatMap (rmC rank rs)):=by
    rcases mq.2.2 with⟨_,h0⟩|h1
    ·exact O1 h0 hG
    exact h1
   refine Qc<|Q9 Z<|Qs Z J.B10 Z Z<|Qa<|Qo<|Q0 (m:=l.length) (news:=l.flatMap (rmC rank rs)) (L:=[q.bl]) J.R Z hr7 (by rw[<-h7.1,Qbp,h7.2.1]) hAt7 (by rw[<-h7.1];exact Qgz ln) oa J.st.size λke w22 ms mt hn22 =>
    Q9 rfl<|Q9 Z<|Qo<|Qv (j:=2) (u:=ke) (J.B10.J mt (λhb=>oq (Qi J.R _ hb).1)) Z Z oe (QA ms) λw23 hs23 hB23=>xe ?_
   have hR22:RzO ↑O w22 ke (lz++ln):=RzO.snoc (by rw[h7.1,h7.2.1];exact ms);have mu:=J.app gn hU hv mt hR22 hs23 hB23;refine Qr<|Qa<|Q9 Z<|Qo<|Qv (j:=3) (u:=sS rank) mu.B10 Z Z oe rfl λw24 hs24 hB24=>xe ?_;have hI24:=mu.rounds hU hv hs24 hB24;have hra:(-9223372036854775808:Int)<=(rank:Int)+1:=oa
   have hrb:(rank:Int)+1<=9223372036854775807:=oa
   refine Qr<|Qa<|x (Xy Z Z ⟨hra,hrb⟩)<|Qb<|⟨(f',rank+1,(rank:Int),ke,lz++ln,(l.map (·.1)).foldl cut lf),og,Lb,hI24,og,by simp only[oO];omega,hB,og,by simp only[List.map_append,h7.2.2];rw[LC];exact hC⟩
  refine Qf ?_;have hg:j<l.length:=by have gk:(j:Int)<(l.length:Int):=kc;omega
  have htk:l.take (j+1)=l.take j++[l[j]'hg]:=Ln hg;have mv:((l.take (j+1)).map (·.1)).foldl cut lf=cut (((l.take j).map (·.1)).foldl cut lf) (l[j]'hg).1:=by rw[htk,Lv,Mw];rfl
  have hxr:=gt (l[j]'hg).1 (LL (Lm hg));refine Zg (l[j]'hg) λy hy=>?_;rw[hy]at mv hxr;have hyn:y.1=(y.1.toNat:Int):=oa
  refine Qd<|Qn<|Qc<|xo (g:=rmC rank rs) (i:=j) (Qgk rank rs) mq Z Z hg λa53 gk=>?_;rw[hy]at gk;refine x (QF gk Z Z)<|QV [sS 0,sS 0,sS 0,sS 0] λb16 I Y hb16 kf=>Q6 (rmC rank rs y) kf oA λhH ha kf=>xe ?_;have mw:sW V hH:=Y.O ha hb16;have kg:=J.I mw;have hnn:=J.n;refine ZK [] (Xj 0 8 [7])<|p Qx<|p (YT Z)<|p (QH Z)<|pq (λ_ hc=>Qj ((hA kg.st).B.I hc) Z Z)<|p (QH Z)<|pq (λ_ hc=>Qj (kf.I hc) Z Z) <|
   p (λ_=>QE (i:=y.1.toNat) Z (O0 sS hyn) oa)<|pkk<|yG (i:=y.1.toNat) (kg.F.I (xd.Y _ _)) Z Z oa λpt hr hF11=>pe ?_
  refine Qr<|QC Z Z<|Qa<|xe<|⟨j+1,oa,Lb,hg,((he.D mw).D (xd.Y _ _)).Q hr,?_⟩;rw[mv];exact(kg.I (xd.Y _ _)).cut gn hv hr hF11 (by rw[Qhf];exact hnn)
 refine Qf ?_;have hQ:k<forb.length:=by have hX:(k:Int)<(forb.length:Int):=gr;omega
 have hxk:=kh _ (Lm hQ);refine Zg (forb[k]'hQ) λy hy=>?_;rw[hy]at hxk;refine Qd<|Qn<|Qc<|xii (i:=k) m9 Z Z hQ λa27 hX=>?_;rw[hy]at hX;refine x (Qq hX Z)<|Qb<|Qc<|Q9 Z<|Qs Z hI.B10 Z Z<|Qa<|x (QD ⟨Z,Z,Z,Z,La⟩)<|Qo<|Q3 [[sS y,sS 1,sS 1,sS (-1)]] λb34 w6 hs6 hb34 hB34=>?_;have hR:=hI.I hs6;refine Qo<|Q0 (m:=1) (news:=[sS y,sS 1,sS 1,sS (-1)]) (L:=[]) hR.R Z Z Z (hB34.at oe) oo oa hR.st.size λv7 w7 my hY hn7 =>
  Q9 rfl<|Q9 Z<|Qo<|Qv (j:=2) (u:=v7) (hR.B10.J hY (λhb=>oq (Qi hR.R _ hb).1)) Z Z oe (QA my) λV he gy=>xe ?_
 have hR7:RzO ↑O w7 v7 (lz++[⟨(y,1,1,-1),og⟩]):=RzO.snoc my;have hfk:rmF (forb.take (k+1))=rmF (forb.take k)++[(y,1,1,-1)]:=by unfold rmF;rw[Ln hQ,Lv,hy];rfl
 have J:=hR.app gn hU hv hY hR7 he gy;refine Qr<|Q9 Z<|Qo<|Qv (j:=3) (u:=sS 1) J.B10 Z Z oe rfl λI Y hB9=>xe ?_;have hI9:=J.rounds hU hv Y hB9;refine Qr<|QC Z Z<|Qa<|xe ?_;exact⟨(k+1,1,v7,_),og,Lb,hQ,hI9,by simp only[oO,oL];omega,.inr Z,by simp only[List.map_append,hW,hfk];rfl⟩
instance:Bw sV 148 (K7 (nS) (nS) (nS) 0) [(0,3),(3,1),(4,4),(8,1)]:={}
theorem QpZ {pl:Qz}{ps:List (LI)}{l:List (LI)}:∀r∈spF c pl ps l,0<=r.st/\r.st<(l.length:Int):=λr G=>by
 unfold spF at G;obtain⟨⟨t,i⟩,I,h1⟩:=MJ.1 G;have hi:=List.snd_lt_add_of_mem_zipIdx I;simp only[Ob]at hi;have h2:r.st=(i:Int):=by
  unfold rsn at h1;split at h1
  ·cases h1;rfl
  split at h1
  ·cases h1;rfl
  cases h1
 omega
theorem Qju (h:YY c=0):QL (spc c).a/\(∀x∈fbs (spc c),0<=x/\x<(spc c).a.st)/\(fbs (spc c)).length<=4096/\(spc c).fb.length<=4096/\XZ c.ev=0:=by
 unfold YY at h;by_cases h1:Z2 c≠0
 ·rw[OZ h1]at h;exact O1 h h1
 rw[OY h1]at h;have hck:Z2 c=0:=Ly.1 h1;have hok:=YW hck;by_cases h2:K9 (xj c.co)≠0
 ·rw[OZ h2]at h;exact O1 h h2
 rw[OY h2]at h;cases I:xw (xj c.co) with
 | none=>rw[I]at h;cases h
 | some z =>
  rw[I]at h;by_cases J:K9 (xj c.co++xj c.rq)≠0
  ·rw[OZ J]at h;exact O1 h J
  rw[OY J]at h;cases O:xw (xj c.co++xj c.rq) with
  | none=>rw[O]at h;cases h
  | some y =>
   have U:∀a∈xj c.co++xj c.rq,QL a:=λa G=>by
    rcases Lk.1 G with G|G
    ·exact Y1 hok.co a G
    exact Y1 hok.rq a G
   have hsp:=(Yx U (A:=y.1) (Q:=y.2) O).1;have hl:=Qge c z.1 z.2 y.2;have Y:=hsp.le;rw[(Qbn (c:=c) (pl:=z.1) (ps:=z.2) (sa:=y.1) (ts:=y.2) I O)];unfold fbs;refine⟨hsp.okay U,λx hx=>?_,by rw[Lo];simp only[];omega,og,hok.e0⟩;obtain⟨r,V,rfl⟩:=Lt.1 hx;have:=QpZ r V;rw[hsp.st];exact this
theorem st4 (r:Rsn):(Z5 r).length=4:=rfl
theorem QeG {c:CL}(h0:Z9 L ↑w c)(hT:Kb w 4096):
  QT sV 67 [c.val] w λr w'=>sW w w'/\∃us c0 J O c3 sa sm se o,r=.tuple #[sT us,.agg #[c0,J,O,c3,sa,sS (if YY c.V=0 then(Xv c.V).st else 0),sm,se,o],sS (YY c.V)]/\us.length=8/\ZN us/\ZN [c0,J,O,c3,sa,sm,se,o] /\
   (YY c.V≠0->sa=nS/\sm=nS/\se=nS)/\(YY c.V=0->∀L:LN,(∀b∈L,b<↑w)->Zv L ↑w' sa sm se (Xv c.V)/\Qcu L ↑w' c0 J O (spc c.V).a (fbs (spc c.V)) (unc c.V.ev)):=by
 have h:=h0.up (L':=[]) oe;have ho:Xv c.V=Ud (spc c.V).a (fbs (spc c.V)) (unc c.V.ev):=rfl;have hev:c.V.ev=c.ev:=rfl;have hp:=Qju (c:=c.V);refine Zg (Xv c.V) λSA hV=>?_;rw[hV]at ho ⊢;refine Zg (YY c.V) λE hE=>?_;rw[hE]at hp ⊢;refine Zg (spc c.V) λS hS=>?_;rw[hS]at hp ho ⊢;rw[hev]at hp ho ⊢;refine Zn func67 ?_;refine Qc<|Zd c.cells λb1 w1 hG g0 hH=>QV [nS,sS 0,nS,nS,nS,nS,nS,nS] λb2 w2 h5 g2 hq=>QV (K7 (nS) (nS) (nS) 0) λb3 w3 hs g3 hu=>Qb ?_;have h6:=(hG.D h5).D hs;have g4:=hG.size;have g5:=hq.lt;have g6:=hu.lt;have hsp:=jM (h.I h6) (hT.I h6);rw[hE,hS]at hsp;refine Qc<|Q7 ((hH.I h5).I hs) Z Z<|Qw<|hsp.S ?_;rintro r4 w4 ⟨hg,v,rfl,⟨us,rfl,h7,h8⟩,hF⟩;have g7:=hg.size;refine Qa<|QS Z Z<|QS Z Z<|QV [nS,sS 0,nS,nS,nS,nS,nS,nS] λb5 w5 hW hX hh=>Qo<|ZM (us:=us) hh Z Z h7 Z h8 λw6 hY hh=>Qb ?_;have Y:sW w4 w6:=hW.O hY hX;have h9:=(h6.D hg).D Y;have hI:=(hq.I (hs.D hg)).I Y;have hJ:=(hu.I hg).I Y;have g8:=hh.lt;refine Qd<|Ql<|ZS Z Z<|xe<|Zh rfl (λhv=>?_) (λhv=>?_)
 ·refine Qc<|x (ZE [] La)<|x (ZE [] La)<|Qa<|Q6 [nS,sS 0,nS,nS,nS,nS,nS,nS] hI ⟨Z,Z,Z,Z,Z,Z,Z,Z,La⟩ λw7 G hZ =>
   Q6 (K7 (nS) (nS) (nS) 0) (hJ.J G om) ⟨Z,Z,Z,Z,Z,Z,Z,Z,Z,La⟩ λw8 hw ga=>Qb<|Qk ⟨[.agg #[nS,sS 0,nS,nS,nS,nS,nS,nS],.agg (K7 (nS) (nS) (nS) 0).toArray,sS E],⟨Kh (hZ.J hw om),Kh ga,Z,La⟩,(h9.O G oa).O hw oa,[nS,sS 0,nS,nS,nS,nS,nS,nS],nS,nS,nS,sS 0,nS,nS,nS,nS,by rw[OY hv];rfl,Z,⟨Z,Z,Z,Z,Z,Z,Z,Z,La⟩,⟨Z,Z,Z,Z,Z,Z,Z,Z,La⟩,λ_=>⟨Z,Z,Z⟩,λe=>O1 e hv⟩
 have hy:E=0:=Ly.1 hv;obtain⟨gb,gc,ge,g9,hK⟩:=hp hy;obtain⟨va,vm,ve,v1,v2,v3,v4,cos,rqs,gg,_,_,gh⟩:=hF hy;have gi:us=[va,sS S.a.st,vm,ve,v1,v2,v3,v4]:=by
  have h1:=O0 (λv=>match v with|Value.agg a=>a.toList|_=>[]) gg
  simpa using h1
 subst gi;have hM:=(gh [] oe);have gj:=hM.1.I Y;have hN:=hM.2.2.2.2.I Y;refine Qf<|Qc<|Qb<|Qd<|Qc<|Qs Z hh Z Z<|QG hN Z<|Qa<|xe<|QY (α:=Nat×O7) [(7,7),(9,9),(24,33)] (λz=>[(7,z.2),(24,sS z.1)]) (λz w'=>z.1<=S.fb.length/\sW w6 w'/\Qh 3 ↑w6 w' z.2 ((S.fb.take z.1).map (·.st))) (λz=>S.fb.length - z.1) (0,nS) oy ⟨Lp _,xd.C _ _,QM _ _ _ _⟩ ?_;rintro⟨k,vf⟩ g w7 ⟨hk,G,U⟩;simp only[]at hk U;refine Zk rfl Z (λhA=>?_) (λhA=>?_)
 ·refine Qt ?_;have gk:S.fb.length<=k:=by have hz:¬(k:Int)<(S.fb.length:Int):=hA;omega
  rw[Ls gk]at U;have U:Qh 3 ↑w6 w7 vf (fbs S):=U;have gl:=h9.D G;have gm:=G.size;refine Qc<|Q9 Z<|x (Qj ((hH.I (h5.D hs)).I ((hg.D Y).D G)) Z Z)<|Qw<|(Qbb (h.ev.I gl)).S ?_;rintro ka V ⟨ha,vu,rfl,hU⟩;rw[OZ hK]at hU;refine Qa<|QS Z Z<|QS Z Z<|x Qe<|Qb<|Qd<|Ql<|ZS Z Z<|xe<|Zh Z (λgn=>O1 hK gn) (λ_=>?_);refine Qf ?_;have h7:(unc c.ev).length<=1099511627776:=LA (QbT _ c.ev 0) h.ev.arr.le;have he:=G.D ha;have gq:=gj.I he;have h3:sW V { V with drawn:=V.drawn+1 }:=xd.Y _ _
  have hO:=hh.I he;have hP:b5∉[b2]:=om
  have kb:=he.size;refine Qd<|ZK [b2] (Xj 0 9 [5,6,7])<|pq (λ_ hc=>Zj (hO.J hc hP) Z Z)<|p (QH Z)<|pq (λ_ hc=>ZW (us:=[va,sS S.a.st,vm,ve]) (hO.J hc hP) Z Z Z) <|
   p Qx<|p Qx<|pk<|xg<|(QhS (gq.I h3) gb (((Qh.ints (L:=[]) U oa oe).I ha).I h3) gc ge ((Qh.ints (L:=[]) hU h7 oe).I h3)).S ?_
  rintro kc ke ⟨gr,c0,J,O,c3,sa,sm,se,o,rfl,I,hB⟩;have hj:=h3.D gr;refine⟨hj.any,?_⟩;have hQ:Ud S.a (fbs S) (unc c.ev)=SA:=ho.symm;rw[hQ]at hB;have hf:=(hB [] oe).1;refine pk<|qI [va,sS S.a.st,vm,ve,v1,v2,v3,v4] ((hI.I he).I hj) h8 λkf hm hq=>⟨hj.any.Q hm,?_⟩;refine pkk<|ZM (us:=[c0,J,O,c3,sa,sS SA.st,sm,se,o]) (((hJ.I he).I hj).J hm om) Z (by rw[<-hQ];rfl) Z Z ⟨I.1,I.2.1,I.2.2.1,I.2.2.2.1,hf.al.one,Z,hf.mr.one,hf.ed.one,I.2.2.2.2.1,La⟩ λkg h4 hu=>p ZH<|pe ?_;have gs:b2∉[b3]:=om
  refine Qk ⟨[.agg #[va,sS S.a.st,vm,ve,v1,v2,v3,v4],.agg #[c0,J,O,c3,sa,sS SA.st,sm,se,o],sS 0],⟨Kh (hq.J h4 gs),Kh hu,Z,La⟩,
   (((h9.D he).D hj).O hm oa).O h4 oa,_,c0,J,O,c3,sa,sm,se,o,by rw[hy,OZ rfl];rfl,Z,h8,⟨I.1,I.2.1,I.2.2.1,I.2.2.2.1,hf.al.one,hf.mr.one,hf.ed.one,I.2.2.2.2.1,La⟩,λe=>O1 hy e,λ_ L hL=>?_⟩
  have h1:=hB (b2::b3::L) (λb hb=>by
   have kh:({ V with drawn:=V.drawn+1 }:O6).heap.size=V.heap.size:=rfl
   simp only[oN]at hb;rcases hb with rfl|rfl|hb
   ·omega
   ·omega
   have:=hL b hb;omega)
  exact⟨((h1.1.st (hm.S oe)).st (h4.S oe)).up (λb hb=>.inl (by simp[hb])),((h1.2.st (hm.S oe)).st (h4.S oe)).up (λb hb=>.inl (by simp[hb]))⟩
 refine Qf ?_;have hn:k<S.fb.length:=by have hz:(k:Int)<(S.fb.length:Int):=hA;omega
 have hR:S.fb.take (k+1)=S.fb.take k++[S.fb[k]'hn]:=Ln hn;have ki:((S.fb.take k).map (·.st)).length=k:=by rw[Lo,LH];omega
 refine Zg (S.fb[k]'hn) λr hr=>?_;rw[hr]at hR;refine Qd<|Qn<|Qc<|xo (g:=Z5) (i:=k) st4 (hN.I G) Z Z hn λkj hz=>?_;rw[hr]at hz;refine x (QF hz Z Z)<|QV [sS 0,sS 0,sS 0,sS 0] λb9 w8 hw gt hC=>Q6 (Z5 r) hC oA λw9 gu hC=>xe ?_;have hD:sW w7 w9:=hw.O gu gt;have kk:=hD.size;have gm:=G.size;refine Qr<|Qa<|Qs Z hC Z Z<|Qo<|Q3 [[sS r.st]] λkn V ha ko gv =>
  Qo<|Q0 (m:=1) (news:=[sS r.st]) (L:=[]) (Qm U (hD.D ha)) Z Z Z (gv.at oe) oo oa (oq ha.size) λgx kq gy gz kr=>Qb<|Qr<|QC Z Z<|Qa<|xe ?_
 refine⟨(k+1,gx),og,oy,hn,((G.D hD).D ha).Z gz (λb hb=>.inr (Qi U b hb).1),?_⟩;simp only[];rw[hR,Lv];exact Qh.snoc gy
theorem V6 {c:CL}(h0:Z9 L ↑w c)(hh:Kb w 4096):
  QT sV 29 [c.val] w λr w'=>sW w w'/\∃sa sm se,r=.tuple #[.agg #[sa,sS (if YY c.V=0 then(Xv c.V).st else 0),sm,se],sS (suE c.V)]/\ZN [sa,sm,se] /\
   (suE c.V≠0->sa=nS/\sm=nS/\se=nS)/\(suE c.V=0->∀L:LN,(∀b∈L,b<↑w)->Zv L ↑w' sa sm se (Xv c.V)):=by
 have hj:suE c.V=YY c.V:=rfl;rw[hj];refine Zn func29 ?_;refine Qc<|Zd c.cells λb1 w1 V hv hk=>QV [nS,sS 0,nS,nS] λb2 w2 Y hw I=>Qb ?_;have J:=V.D Y;have hy:=V.size;have hz:=I.lt;refine Qc<|Q7 (hk.I Y) Z Z<|Qw<|(QeG ((h0.up (L':=[]) oe).I J) (hh.I J)).S ?_;rintro r3 w3 ⟨ha,us,c0,c1,c2,c3,sa,sm,se,o,rfl,hm,hn,G,ho,hp⟩;refine Zg (if YY c.V=0 then(Xv c.V).st else 0) λN hN=>?_
 rw[hN];refine Qa<|QS Z Z<|QS Z Z<|QS Z Z<|QV [nS,sS 0,nS,nS,nS,nS,nS,nS] λb4 w4 hq h3 O=>QV (K7 (nS) (nS) (nS) 0) λb5 w5 he h4 hr =>
  Qo<|ZM (us:=us) (O.I he) Z Z hm Z hn λw6 hf h5=>Q6 [c0,c1,c2,c3,sa,sS N,sm,se,o] (hr.J hf (by have:=O.lt;simp only[oH];omega)) ⟨G.1,G.2.1,G.2.2.1,G.2.2.2.1,G.2.2.2.2.1,Z,G.2.2.2.2.2.1,G.2.2.2.2.2.2.1,G.2.2.2.2.2.2.2.1,La⟩ λw7 hs hu=>Qb ?_
 have h6:=O.lt;have U:sW w3 w7:=((hq.D he).O hf oa).O hs oa;refine Qc<|Q9 Z<|x (ZW (us:=[sa,sS N,sm,se]) hu Z Z Z)<|Qa<|Q6 [sa,sS N,sm,se] ((I.I ha).I U) ⟨G.2.2.2.2.1,Z,G.2.2.2.2.2.1,G.2.2.2.2.2.2.1,La⟩ λw8 hg I=>Qb<|Qk ⟨[.agg #[sa,sS N,sm,se],sS (YY c.V)],⟨Kh I,Z,La⟩,((J.D ha).D U).O hg oa,sa,sm,se,Z,⟨G.2.2.2.2.1,G.2.2.2.2.2.1,G.2.2.2.2.2.2.1,La⟩,ho,λe L hL=>?_⟩;have h1:=hp e (b2::L) (λb hb=>by
  simp only[oN]at hb;rcases hb with rfl|hb
  ·omega
  have:=hL b hb;omega)
 exact((h1.1.I U).st (hg.S oe)).up (λb hb=>.inl (by simp[hb]))
section
variable {s:Qz}{l:List Uw}
end
section
variable {s:Qz}{l:List Uw}
end
section
variable {s:Qz}{l:List Uw}
end
section
variable {p s:Qz}{pairs:List (LI)}
end
section
variable {s:Qz}{l:List Uw}
end
section
variable {s:Qz}{l:List Uw}{nm:LI}
end
def cnF (ord:LI)(j:Nat)(e:Ed):Ed:=((j:Int),e.2.1,(ord.idxOf e.2.2:Int))
def cnR (a:Qz)(ord:LI)(j:Nat):List Ed:=(QK a.ed (ZZ ord j)).map (cnF ord j)
theorem Qdz {l:LI}(h:j<l.length):ZZ (l++r) j=ZZ l j:=by unfold ZZ;rw[MD];exact jD h
structure NuI (st:Int)(ord num:LI):Prop where
 nd:ord.Nodup
 bd:∀s∈ord,0<=s/\s<st
 nl:num.length=st.toNat
 nu:∀k,0<=k->k<st->ZZ num k=if k∈ord then(ord.idxOf k:Int) else -1
theorem QeK {st:Int}{c:Cs}(h:NuI st c.ord c.num){e:Ed}(U:0<=e.2.2)(h1:e.2.2<st):NuI st (Zu i c e).ord (Zu i c e).num/\(∃r,(Zu i c e).ord=c.ord++r)/\(Zu i c e).mk'=c.mk'/\(Zu i c e).ed=c.ed++[cnF (Zu i c e).ord i e]/\e.2.2∈(Zu i c e).ord:=by
 have I:=h.nu e.2.2 U h1;have Y:e.2.2.toNat<c.num.length:=by rw[h.nl];omega
 unfold Zu;by_cases J:e.2.2∈c.ord
 ·rw[OZ J]at I;rw[OY (by rw[I];omega)];refine⟨h,⟨[],oe⟩,rfl,?_,J⟩;simp only[cnF];rw[I]
 rw[OY J]at I;rw[OZ (by rw[I];decide)];have V:(c.ord++[e.2.2]).idxOf e.2.2=c.ord.length:=by rw[Mf,OY J];simp
 refine⟨⟨Y6 h.nd J,λs G=>?_,by simp[h.nl],λk k0 k1=>?_⟩,⟨[e.2.2],rfl⟩,rfl,?_,oe⟩
 ·rcases Lk.1 G with G|G
  ·exact h.bd s G
  simp only[oH]at G;subst G;exact⟨U,h1⟩
 ·simp only[];by_cases ek:k=e.2.2
  ·subst ek;rw[OZ oe,V];unfold ZZ;simp[oQ,List.getElem?_set_self Y]
  have ha:e.2.2.toNat≠k.toNat:=oa
  have e1:ZZ (c.num.set e.2.2.toNat c.ord.length) k=ZZ c.num k:=by unfold ZZ;simp[oQ,List.getElem?_set_ne ha]
  rw[e1,h.nu k k0 k1];by_cases O:k∈c.ord
  ·rw[OZ O,OZ (LG _ O),Mf,OZ O]
  rw[OY O,OY (λhe=>by
   rcases Lk.1 he with h2|h2
   ·exact O h2
   simp only[oH]at h2;exact ek h2)]
 simp only[cnF];rw[V]
theorem yl {st:Int}{i:Nat}:∀(es:List Ed) (c:Cs),NuI st c.ord c.num->(∀e∈es,0<=e.2.2/\e.2.2<st)->NuI st (es.foldl (Zu i) c).ord (es.foldl (Zu i) c).num/\(∃r,(es.foldl (Zu i) c).ord=c.ord++r)/\(es.foldl (Zu i) c).mk'=c.mk' /\
  (es.foldl (Zu i) c).ed=c.ed++es.map (cnF (es.foldl (Zu i) c).ord i)/\∀e∈es,e.2.2∈(es.foldl (Zu i) c).ord
 | [],c,h,_=>⟨h,⟨[],oe⟩,rfl,oe,λe I=>by cases I⟩
 | e::es,c,h,hb=>by
  obtain⟨J,O⟩:=hb e Lj;obtain⟨h1,⟨U,h2⟩,V,Y,G⟩:=QeK (i:=i) h J O;obtain⟨k1,⟨r2,k2⟩,k3,k4,k5⟩:=yl (i:=i) es (Zu i c e) h1 (λd hd=>hb d (Lh _ hd));rw[LP];refine⟨k1,⟨U++r2,by rw[k2,h2,LC]⟩,k3.D V,?_,λd hd=>?_⟩
  ·rw[k4,Y,LC,L2];have:cnF (Zu i c e).ord i e=cnF (es.foldl (Zu i) (Zu i c e)).ord i e:=by
    unfold cnF;rw[k2,Mf,OZ G]
   rw[this];rfl
  rcases Ll.1 hd with rfl|hd
  ·rw[k2];exact LG _ G
  exact k5 d hd
structure CnG (a:Qz)(i:Nat)(c:Cs):Prop where
 nu:NuI a.st c.ord c.num
 le:i<=c.ord.length
 hd:ZZ c.ord 0=0/\0<c.ord.length
 mk2:c.mk'=((oP 0 i).filter λj:Nat=>decide (ZZ c.ord j∈a.mr)).map λj:Nat=>(j:Int)
 ed:c.ed=(oP 0 i).flatMap (cnR a c.ord)
 cl:∀j,j<i->∀e∈QK a.ed (ZZ c.ord j),e.2.2∈c.ord
theorem QoQ {ord:LI}(G:j<ord.length)(hc:∀e∈QK a.ed (ZZ ord j),e.2.2∈ord):cnR a (ord++r) j=cnR a ord j:=by
 unfold cnR;rw[Qdz G];refine List.map_congr_left λe I=>?_;unfold cnF;rw[Mf,OZ (hc e I)]
theorem CnG.next (Y:QL a){c:Cs}(h:CnG a i c)(hi:i<c.ord.length):CnG a (i+1) (zy a i c):=by
 unfold zy;have O:(Yo a i c).ord=c.ord:=by unfold Yo;split <;> rfl
 have ha:(Yo a i c).num=c.num:=by unfold Yo;split <;> rfl
 have hf:(Yo a i c).ed=c.ed:=by unfold Yo;split <;> rfl
 obtain⟨k1,⟨r,k2⟩,k3,J,U⟩:=yl (st:=a.st) (i:=i) (QK a.ed (ZZ c.ord i)) (Yo a i c) (by rw[O,ha];exact h.nu) (λe he=>(Y.ed e (Zy he).1).2.2.2);generalize (QK a.ed (ZZ c.ord i)).foldl (Zu i) (Yo a i c)=d at k1 k2 k3 J U;rw[O]at k2;rw[hf]at J;have pre:∀j:Nat,j<=i->ZZ d.ord j=ZZ c.ord j:=λj G=>by rw[k2];exact Qdz oa
 refine⟨k1,by rw[k2];simp;omega,⟨by have:=pre 0 oa;rw[show((0:Nat):Int)=0 from rfl]at this;rw[this];exact h.hd.1,by rw[k2];simp;omega⟩,?_,?_,λj G=>?_⟩
 ·rw[k3,Mt,LW,Lv,LY];have e1:((oP 0 i).filter λj:Nat=>decide (ZZ d.ord j∈a.mr))=(oP 0 i).filter λj:Nat=>decide (ZZ c.ord j∈a.mr):=by
   refine NH λj G=>?_;rw[L4]at G;rw[pre j oa]
  rw[e1];unfold Yo;by_cases I:ZZ c.ord i∈a.mr
  ·rw[OZ I];simp only[];rw[L9,OZ (by rw[pre i (Lr _)];exact O2 I),MV,h.mk2];rfl
  rw[OY I];rw[L9,OY (by rw[pre i (Lr _),O4 I];simp),MV,h.mk2];simp
 ·rw[J,Mt,LJ,LY,h.ed];congr 1
  ·refine Y9 λj G=>?_;rw[L4]at G;rw[k2];exact(QoQ oa (h.cl j oa)).symm
  simp only[oV,OO,Oq];unfold cnR;rw[pre i (Lr _)]
 by_cases e:j=i
 ·subst e;rw[pre j (Lr _)];exact U
 intro d' V;rw[pre j oa]at V;rw[k2];exact LG _ (h.cl j oa d' V)
theorem qY {a:Qz}(I:QL a):∀(f i:Nat) (c:Cs),CnG a i c->∃G,CnG a G (Xg a f i c)/\((Xg a f i c).ord.length=G\/G=i+f)
 | 0,i,c,h=>⟨i,h,.inr Z⟩
 | f+1,i,c,h=>by
  rw[Xg];split
  ·rename_i hi;obtain⟨G,h1,h2⟩:=qY I f (i+1) _ (h.next I hi);exact⟨G,h1,oa⟩
  exact⟨i,h,.inl (oq h.le)⟩
structure CnP (a:Qz)(ord:LI):Prop where
 nd:ord.Nodup
 bd:∀s∈ord,0<=s/\s<a.st
 hd:ZZ ord 0=0/\0<ord.length
 al:(YB a).al=a.al
 st:(YB a).st=(ord.length:Int)
 mk2:(YB a).mr=((oP 0 ord.length).filter λj:Nat=>decide (ZZ ord j∈a.mr)).map λj:Nat=>(j:Int)
 ed:(YB a).ed=(oP 0 ord.length).flatMap (cnR a ord)
 cl:∀j,j<ord.length->∀e∈QK a.ed (ZZ ord j),e.2.2∈ord
theorem Qiy (J:QL a)(h0:0<a.st):∃ord,CnP a ord:=by
 have O:0<a.st.toNat:=oa
 have hI:CnG a 0 (Z3 a):=by
  refine⟨⟨by simp[Z3],λs I=>by simp[Z3]at I;subst I;omega,by simp[Z3],λk k0 k1=>?_⟩,Lp _,⟨by simp[Z3,ZZ],by simp[Z3]⟩,by simp[Z3],by simp[Z3],λj hj=>oa⟩;by_cases ek:k=0
  ·subst ek;rw[OZ (by simp[Z3])];unfold ZZ Z3;simp[oQ,O]
  rw[OY (by simpa[Z3]using ek)];unfold Z3;have U:0≠k.toNat:=oa
  have V:k.toNat<a.st.toNat:=oa
  unfold ZZ;rw[LU,MR U];simp[V]
 obtain⟨Y,h1,h2⟩:=qY J a.st.toNat 0 (Z3 a) hI;have ha:(Xg a a.st.toNat 0 (Z3 a)).ord.length<=a.st.toNat:=xM _ _ h1.nu.nd (λx hx=>oq (h1.nu.bd x hx));have hi':Y=(Xg a a.st.toNat 0 (Z3 a)).ord.length:=by have:=h1.le;omega
 subst hi';have G:YB a=⟨a.al,((Xg a a.st.toNat 0 (Z3 a)).ord.length:Int),(Xg a a.st.toNat 0 (Z3 a)).mk',(Xg a a.st.toNat 0 (Z3 a)).ed⟩:=by unfold YB;rw[OY oa]
 refine⟨(Xg a a.st.toNat 0 (Z3 a)).ord,h1.nu.nd,h1.nu.bd,h1.hd,by rw[G],by rw[G],?_,?_,h1.cl⟩
 ·rw[G];exact h1.mk2
 rw[G];exact h1.ed
theorem QlB (es:List Ed)(s v:Int):xu es s v=xu (QK es s) s v:=by
 induction es with
 | nil=>rfl
 | cons e es ih =>
  unfold QK at *;rw[L9];by_cases h:e.1=s
  ·rw[OZ (ox h),xu,xu,ih]
  rw[OY (ox h),xu,OY (λc=>h c.1),ih]
theorem QlD {ord:LI}(v:Int):xu (cnR a ord j) j v=(xu a.ed (ZZ ord j) v).map λu=>(ord.idxOf u:Int):=by
 rw[QlB a.ed];unfold cnR;have key:∀(l:List Ed),(∀e∈l,e.1=ZZ ord j)->xu (l.map (cnF ord j)) j v=(xu l (ZZ ord j) v).map λu=>(ord.idxOf u:Int):=by
  intro l;induction l with
  | nil=>intro _;rfl
  | cons e l ih =>
   intro hl;rw[L2,xu,xu];have I:=hl e Lj;by_cases G:e.2.1=v
   ·rw[OZ ⟨rfl,G⟩,OZ ⟨I,G⟩];rfl
   rw[OY (λc=>G c.2),OY (λc=>G c.2)];exact ih (λd hd=>hl d (Lh _ hd))
 exact key _ (λe I=>(Zy I).2)
theorem Qfq {ord:LI}(h:j≠i)(v:Int):xu (cnR a ord j) i v=none:=by
 refine VR λe G h2=>?_;unfold cnR at G;obtain⟨d,_,rfl⟩:=Lt.1 G;have:(j:Int)=i:=h2.1;omega
theorem CnP.J {ord:LI}(h:CnP a ord)(I:j<ord.length)(v:Int):xu (YB a).ed j v=(xu a.ed (ZZ ord j) v).map λu=>(ord.idxOf u:Int):=by
 rw[h.ed];have key:∀n,j<n->xu ((oP 0 n).flatMap (cnR a ord)) j v=xu (cnR a ord j) j v:=by
  intro n;induction n with
  | zero=>intro h;omega
  | succ n ih =>
   intro O;rw[Mt,LJ,LY,zj];simp only[oV,OO,Oq];by_cases e:j=n
   ·subst e;have:xu ((oP 0 j).flatMap (cnR a ord)) j v=none:=VR λd hd h2=>by
     obtain⟨k,J,G⟩:=Mh.1 hd;rw[L4]at J;unfold cnR at G;obtain⟨U,_,rfl⟩:=Lt.1 G;have:(k:Int)=j:=h2.1;omega
    rw[this]
   rw[ih oa,Qfq (Ne.symm e)];cases xu (cnR a ord j) j v <;> rfl
 rw[key _ I];exact QlD v
section
variable {p s:Qz}{pn xn v:Int}
end
section
variable {s:Qz}{l:List Uw}
end
theorem Qiz (G:QL a):QL (YB a):=by
 have h0:=G.st0;have h1:=G.st1;by_cases hz:a.st=0
 ·unfold YB;rw[OZ hz];exact⟨G.al,G.ali,oe,oe,oe,oe,oe,oe⟩
 obtain⟨ord,h⟩:=Qiy G oa;have hl:ord.length<=a.st.toNat:=xM _ _ h.nd (λx hx=>oq (h.bd x hx));refine⟨by rw[h.al];exact G.al,by rw[h.al];exact G.ali,by rw[h.st];omega,by rw[h.st];omega,λs J=>?_,?_,λe U=>?_,?_⟩
 ·rw[h.mk2]at J;simp only[Oj,Of,Od]at J;obtain⟨i,⟨hi,_⟩,rfl⟩:=J;rw[h.st];omega
 ·rw[h.mk2];unfold YD;rw[Mj];refine List.Pairwise.sublist MW ?_;exact(Nd (s:=0) (n:=ord.length)).imp (λh=>oa)
 ·rw[h.ed]at U;obtain⟨j,O,hd⟩:=Mh.1 U;rw[L4]at O;unfold cnR at hd;obtain⟨d,V,rfl⟩:=Lt.1 hd;have:=Md (h.cl j oa d V);rw[h.st,h.al];unfold cnF;exact⟨og,og,((G.ed d (Zy V).1).2.2.1),og,og⟩
 rw[h.ed];have key:∀n,((oP 0 n).flatMap (cnR a ord)).Pairwise λx y:Ed=>x.1<y.1\/(x.1=y.1/\x.2.1<y.2.1):=by
  intro n;induction n with
  | zero=>simp
  | succ n ih =>
   rw[Mt,LJ,LY,Mu];refine⟨ih,?_,λx hx y I=>?_⟩
   ·simp only[oV,OO,Oq];unfold cnR;rw[Mj];have h2:(QK a.ed (ZZ ord n)).Pairwise λx y:Ed=>x.1<y.1\/(x.1=y.1/\x.2.1<y.2.1):=List.Pairwise.sublist MW G.edi;refine List.Pairwise.imp_of_mem (λ{x y} hx I ha=>?_) h2;have e1:=(Zy hx).2;have e2:=(Zy I).2;right;exact⟨Z,by show x.2.1<y.2.1;omega⟩
   obtain⟨j,O,Y⟩:=Mh.1 hx;rw[L4]at O;simp only[oV,OO,Oq]at I;unfold cnR at Y I;obtain⟨d,_,rfl⟩:=Lt.1 Y;obtain⟨d',_,rfl⟩:=Lt.1 I;left;show(j:Int)<(n:Int);omega
 exact key _
theorem Qh8 (G:QL a):QL ⟨a.al,0,[],[]⟩:=
 ⟨G.al,G.ali,Ms _,(by decide:(0:Int)<=4096),(λs I=>by cases I),List.Pairwise.nil,(λe J=>by cases J),List.Pairwise.nil⟩
theorem Qao (G:QL a)(lf:Lf):QL (jZ a lf):=by
 unfold jZ;split
 ·exact Qh8 G
 exact Qiz (Kp G lf)
theorem Km (h:suE c=0):QL (Xv c):=Qao (Qju h).1 _
theorem Qm8 {l:List Qz}(h:KP l=0):xw l=some (Jf l,syQ l)/\K9 l=0:=by
 unfold KP at h;by_cases h1:K9 l≠0
 ·rw[OZ h1]at h;exact O1 h h1
 rw[OY h1]at h;refine⟨?_,Ly.1 h1⟩;unfold Jf syQ;cases G:xw l with
 | none=>rw[G]at h;cases h
 | some z=>rfl
theorem QcV {κ:Type}[DecidableEq κ]{l:List κ}{s:κ}(h:s∉l):xt (l.map λs=>(s,Value.bool true)) s (.bool true)=(l++[s]).map λs=>(s,Value.bool true):=by
 induction l with
 | nil=>rfl
 | cons a l ih =>
  have h1:a≠s:=λe=>h (by subst e;exact Lj);show(if a=s then(a,Value.bool true)::(l.map λs=>(s,Value.bool true)) else(a,Value.bool true)::xt (l.map λs=>(s,Value.bool true)) s (.bool true))=_
  rw[OY h1,ih (λG=>h (Lh _ G))];rfl
theorem Qjx {κ:Type}[DecidableEq κ](l:List κ)(s:κ):xq (l.map λs=>(s,Value.bool true)) s=if s∈l then some (.bool true) else none:=by
 induction l with
 | nil=>rfl
 | cons a l ih =>
  show(if a=s then some (Value.bool true) else xq (l.map λs=>(s,Value.bool true)) s)=_
  rw[ih];by_cases h:a=s
  ·subst h;simp
  rw[OY h];have G:¬s=a:=λe=>h e.symm;simp[G]
section
variable {κ:Type}[DecidableEq κ]
theorem qE [hm:Mp P t kt et (.bool false)]{enc:κ->O7}[hk:Key P kt enc]{x:O8}{b:Nat}{l:List κ}{s:κ}(h:ZV enc ↑w b (l.map λs=>(s,Value.bool true)))(hx:ev f x=.map (some b))(G:ev f y=enc s):
  (execOp (ev f) ⟨d,.lookup t x y false,ty,pS,af,gd⟩).run P w=.ok (.value (.bool (decide (s∈l)))) w:=by
 rw[JA h hx G,Qjx];by_cases I:s∈l <;> simp[I]
end
section
variable {κ:Type}{enc:κ->O7}
abbrev setM (K:List κ):List (κ×O7):=K.map λs=>(s,Value.bool true)
def X1 (enc:κ->O7)(H:xG)(b:Nat)(l:List κ):Prop:=∃K:List κ,ZV enc H b (setM K)/\∀x,x∈K↔x∈l
theorem X1.lt {H:xG}{b:Nat}{l:List κ}(h:X1 enc H b l):b<H.size:=let⟨_,h1,_⟩:=h;h1.lt
theorem X1.J {X:LN}{w w':O6}{b:Nat}{l:List κ}(h:X1 enc ↑w b l)(G:xd X w w')(hb:b∉X):X1 enc ↑w' b l:=let⟨K,h1,h2⟩:=h;⟨K,h1.J G hb,h2⟩
theorem X1.I {b:Nat}{l:List κ}(h:X1 enc ↑w b l)(G:sW w w'):X1 enc ↑w' b l:=h.J G oe
theorem X1.zero {H:xG}{b:Nat}(h:ZV enc H b []):X1 enc H b []:=⟨[],h,λ_=>Iff.rfl⟩
theorem QcW [DecidableEq κ]{k:κ}:∀{K:List κ},k∈K->xt (setM K) k (.bool true)=setM K
 | [],h=>by cases h
 | a::K,h=>by
  show(if a=k then(a,Value.bool true)::setM K else(a,Value.bool true)::xt (setM K) k (.bool true))=_
  by_cases e:a=k
  ·rw[OZ e];rfl
  rw[OY e,QcW ((Ll.1 h).resolve_left (λh=>e h.symm))];rfl
theorem X1.put [DecidableEq κ]{H:xG}{b:Nat}{l K:List κ}{k:κ}(h:ZV enc H b (xt (setM K) k (.bool true)))(h2:∀x,x∈K↔x∈l):X1 enc H b (l++[k]):=by
 by_cases G:k∈K
 ·rw[QcW G]at h;refine⟨K,h,λx=>?_⟩;rw[Lk,Lc,<-h2 x];exact⟨.inl,λhx=>hx.elim id λe=>e ▸ G⟩
 refine⟨K++[k],?_,λx=>by rw[Lk,Lk,h2 x]⟩;rw[QcV G]at h;exact h
end
section
variable {κ:Type}[DecidableEq κ]{enc:κ->O7}{x:O8}{b:Nat}{l:List κ}{k:κ}
theorem Qbt [hm:Mp P t kt et (.bool false)][hk:Key P kt enc](h:X1 enc ↑w b l)(hx:ev f x=.map (some b))(G:ev f y=enc k):(execOp (ev f) ⟨d,.lookup t x y false,ty,pS,af,gd⟩).run P w=.ok (.value (.bool (decide (k∈l)))) w:=by
 obtain⟨K,h1,h2⟩:=h;rw[qE h1 hx G,bD (h2 k)]
theorem yI [hm:Mp P t kt et (.bool false)][hk:Key P kt enc]{v:O8}(h:X1 enc ↑w b l)(hx:ev f x=.map (some b))(I:ev f y=enc k)(J:ev f v=.bool true)
  (hK:∀w',xd [b] w w'->X1 enc ↑w' b (l++[k])->K (QP f d undef) w'):XO P ⟨d,.mapUpdate t x y v,ty,pS,af,gd⟩ f w K:=by
 obtain⟨K,h1,h2⟩:=h;exact YV h1 hx I λw' O G=>hK w' O (X1.put (by rw[J]at G;exact G) h2)
theorem QbF [hm:Mp P t kt et (.bool false)][hk:Key P kt enc]{v:O8}(h:X1 enc ↑w b l)(hx:ev f x=.map (some b))(I:ev f y=enc k)(J:ev f v=.bool true)
  (hK:∀w',xd [b] w w'->X1 enc ↑w' b (l++[k])->K (QP f d undef) w'):XO P ⟨d,.insert t x y v,ty,pS,af,gd⟩ f w K:=by
 obtain⟨K,h1,h2⟩:=h;exact Yy h1 hx I λw' O G=>hK w' O (X1.put (by rw[J]at G;exact G) h2)
end
instance ayYv1:Ay sV 156 2 3 1:=⟨od,od⟩
def qX:List Qz->Int
 | []=>0
 | a::l=>if Jj a≠0 then Jj a else qX l
def Ql5 (kd:Int)(l:List Qz):Int:=if qX l≠0 then qX l else if kd≠1/\kd≠2 then 11 else 0
theorem QsJ (a b:Qz)(kd:Int):Ql5 kd [a,b]=lgE a b kd:=by
 unfold Ql5 lgE qX;by_cases h1:Jj a≠0
 ·simp only[OZ h1]
 rw[OY h1,OY h1];unfold qX;by_cases h2:Jj b≠0
 ·simp only[OZ h2]
 rw[OY h2,OY h2];unfold qX;simp
theorem Qe8 {v:O7}{ps:List AV}(h0:Jd L ↑w v ps)(kd:Int):
  QT sV 68 [sS kd,v] w λr w'=>r=sS (Ql5 kd (ps.map (·.a)))/\sW w w':=by
 have h:=h0.up (L':=[]) oe;have h4:=h.arr.le;have G:Ql5 kd (ps.map (·.a))=if qX (ps.map (·.a))≠0 then qX (ps.map (·.a)) else if kd≠1/\kd≠2 then 11 else 0:=rfl
 refine Zg (Ql5 kd (ps.map (·.a))) λE hE=>?_;rw[hE]at G ⊢;refine Zn func68 ?_;refine Qc<|Qb<|Qd<|Ql<|QG h.arr Z<|Qa<|xe<|QY (α:=Nat) [(4,4),(6,7),(10,19)] (λz=>[(10,sS z)]) (λz w'=>z<=ps.length/\sW w w'/\qX ((ps.drop z).map (·.a))=qX (ps.map (·.a))) (λz=>ps.length - z) 0 Lb ⟨Lp _,xd.C _ _,Z⟩ ?_;rintro k g w1 ⟨hk,I,hk1⟩;refine Zk rfl Z (λV=>?_) (λV=>?_)
 ·refine Qt ?_;have hn:ps.length<=k:=by have ho:¬(k:Int)<(ps.length:Int):=V;omega
  rw[Lx hn]at hk1;have hz:qX (ps.map (·.a))=0:=hk1.symm;rw[OY (ox hz)]at G;refine Qd<|QX (α:=Bool) [(20,25)] (λz=>[(25,.bool z)]) (λz w'=>w'=w1/\z=decide (kd≠1/\kd≠2)) ol ?_ ?_
  ·refine Qr<|Qa<|xb (J0 Z Z) (λY=>?_) (λY=>?_)
   ·refine Qa<|Qa<|ZS Z Z<|QB Z<|xe ?_;have ha:¬kd=1:=Y;exact⟨decide (¬kd=2),Lb,Z,by simp[ha]⟩
   refine Qa<|YN<|QB Z<|xe ?_;have ha:kd=1:=Ly.1 Y;exact⟨false,Lb,Z,by simp[ha]⟩
  rintro z g w2 ⟨rfl,hf⟩;refine Q5 Z (λhe=>?_) (λhe=>?_)
  ·rw[OZ (O3 (hf.symm.D he))]at G;subst G;refine Qc<|Qb<|Qk ⟨[_],Lb,Z,I⟩
  rw[OY (O5 (hf.symm.D he))]at G;subst G;refine Qf<|Qc<|Qb<|Qk ⟨[_],Lb,Z,I⟩
 have J:k<ps.length:=by have ho:(k:Int)<(ps.length:Int):=V;omega
 have hg:=Lm J;rw[Mi J,L2,qX]at hk1;refine Qf<|Qd<|Qn<|Qc<|xo (g:=ZJ) (i:=k) Uo (h.I I).arr Z Z J λh5 hh=>?_;refine Zg (ps[k]'J) λq hq=>?_;rw[hq]at hh hg hk1;have O:=(h.I I).each q hg;refine x (QF hh Z Z)<|QV [nS,sS 0,nS,nS] λb6 w3 hp hs hu=>Q6 (ZJ q) hu ⟨O.al.one,Z,O.mr.one,O.ed.one,La⟩ λw4 hv hw =>
  xe ?_
 have hj:sW w1 w4:=hp.O hv hs;refine Qc<|Q7 hw Z Z<|Qw<|(Xb (O.I hj)).S ?_;rintro r5 w5 ⟨rfl,hy⟩;refine Qb ?_;have hm:=(I.D hj).D hy;refine Ql<|ZS Z Z<|xe<|Zh rfl (λU=>?_) (λU=>?_)
 ·rw[OZ U]at hk1;have h3:qX (ps.map (·.a))≠0:=by rw[<-hk1];exact U
  rw[OZ h3,<-hk1]at G;subst G;refine Ql<|Qb<|Qk ⟨[_],Lb,Z,hm⟩
 rw[OY U]at hk1;refine Qf<|Qr<|QC Z Z<|Qa<|xe ?_;exact⟨k+1,oa,Lb,J,hm,hk1⟩
abbrev stI (l:LI):List (Int×O7):=l.map λs=>(s,Value.bool true)
structure Mch (H:xG)(b m1 m2:Nat)(a:Qz):Prop where
 B:QN H b 251 [.map (some m1),.map (some m2),sS (fst a)]
 e:ZV Ys H m1 (K8 [] a.ed)
 m:ZV XS H m2 (stI a.mr)
theorem Mch.J {X:LN}{w w':O6}{b G I:Nat}{a:Qz}(h:Mch ↑w b G I a)(J:xd X w w')(O:b∉X)(h1:G∉X)(h2:I∉X):Mch ↑w' b G I a:=⟨h.B.J J O,h.e.J J h1,h.m.J J h2⟩
theorem Mch.I {b I:Nat}(h:Mch ↑w b G I a)(J:sW w w'):Mch ↑w' b G I a:=h.J J oe oe oe
theorem QaL {b J O:Nat}(h:Mch ↑w b J O a)(U:QL a)(s v:Int):
  QT sV 145 [sP b,sS s,sS v] w λr w'=>r=sS (nxt a.ed s v)/\sW w w':=by
 have G:nxt a.ed s v=(if(xu a.ed s v).isSome=true then(xu a.ed s v).getD 0 else -1):=by rw[Ku];cases xu a.ed s v <;> rfl
 refine Zn func145 ?_;refine Qc<|Qb<|Qd<|Ql<|Z8 Z<|Qs Z h.B Z Z<|Qa<|Qa<|x (QD ⟨Z,Z,La⟩)<|x (Qnp (s:=a) (q:=s) (v:=v) h.e U.edi Z Z) <|
  Qa<|QS rfl Z<|QS Z Z<|x Qe<|Qb<|Ql<|xe ?_
 refine Zh rfl (λI=>?_) (λI=>?_)
 ·rw[OZ I]at G;refine Ql<|Qb<|Qk ⟨[_],Lb,by rw[G];rfl,xd.C _ _⟩
 rw[OY I]at G;refine Qf<|Qc<|Qb<|Qk ⟨[_],Lb,by rw[G];rfl,xd.C _ _⟩
theorem QgP {b V:Nat}(h:Mch ↑w b U V a)(s kd:Int):
  QT sV 73 [sP b,sS s,sS kd] w λr w'=>r=.bool (UV a kd s)/\sW w w':=by
 refine Zn func73 ?_;refine Qc<|Qb<|QX (α:=Bool) [(6,20)] (λz=>[(6,.bool z)]) (λz w'=>w'=w/\z=UV a kd s) ol ?_ ?_
 ·refine Qr<|Qa<|xb (Yn Z Z) (λG=>?_) (λG=>?_)
  ·have I:0<=s:=G;refine Qa<|Qa<|xb (Zc Z Z) (λJ=>?_) (λJ=>?_)
   ·refine Qa<|Zs<|Zs<|QB Z<|QB Z<|Qb ?_;have O:kd=1:=J;exact⟨true,Lb,Z,by simp[UV,I,O]⟩
   have O:¬kd=1:=J;refine Qa<|Qa<|Z8 Z<|Qs Z h.B Z Z<|Qa<|x (qE (s:=s) h.m Z Z)<|QB Z<|x (Uf Z) <|
    Qb<|⟨decide (s∈a.mr),Lb,Z,by simp[UV,I,O]⟩
  have I:¬0<=s:=G;refine Qa<|Zs<|Zs<|Zs<|Kd<|QB Z<|x Qe <|
   xe ?_
  exact⟨false,Lb,Z,by simp[UV];omega⟩
 rintro z g Y ⟨rfl,rfl⟩;exact Qk ⟨[_],Lb,Z,xd.C _ _⟩
theorem QkH {b10 O b11 hg hh V hj hk:Nat}{b:Qz}(hm:QN ↑w b10 152 [sP U])(hn:QN ↑w b11 152 [sP V])
  (Y:QN ↑w O 3 [sS kd]) (ha:Mch ↑w U hg hh a) (hb:Mch ↑w V hj hk b) (s t:Int):
  QT sV 72 [.agg #[sS s,sS t],sP b10,sP O,sP b11] w λr w'=>r=.bool (!(UV a kd s == UV b kd t))/\sW w w':=by
 refine Zn func72 ?_;refine Qc<|Zd [sS s,sS t] λb4 J G ho he=>Qb ?_;have hd:sW J { J with drawn:=J.drawn+1 }:=xd.Y _ _
 refine Qd<|ZK [] [oB 0,oB 1,oB 2,oB 3,oB 5,oB 6,oB 7,oB 8,oC 4,oC 9,oB 10,oB 11]<|pq (λ_ hc=>Qj ((hm.I G).I hc) Z Z)<|p (λ_=>ZX (i:=0) Z Z oh)<|pq (λ_ hc=>Qj (he.I hc) Z Z)<|pq (λ_ hc=>Qj ((Y.I G).I hc) Z Z)<|pq (λ_ hc=>Qj ((hn.I G).I hc) Z Z) <|
  p (λ_=>ZX (i:=1) Z Z oh)<|pq (λ_ hc=>Qj (he.I hc) Z Z)<|pq (λ_ hc=>Qj ((Y.I G).I hc) Z Z)<|pk<|xg<|(QgP ((ha.I G).I hd) s kd).S ?_
 rintro r2 w2 ⟨rfl,I⟩;refine⟨hd.D I,?_⟩;refine pk<|xg<|(QgP (((hb.I G).I hd).I I) t kd).S ?_;rintro r3 w3 ⟨rfl,hf⟩;refine⟨(hd.D I).D hf,?_⟩;refine p (λ_=>QeP Z Z)<|p ZH<|pe ?_;exact Qk ⟨[_],Lb,Z,((G.D hd).D I).D hf⟩
theorem QaM (h:Zv [] ↑w va vm ve a)(ho:QL a):
  QT sV 69 [.agg #[va,sS a.st,vm,ve]] w λr w'=>sW w w'/\∃b G I,r=sP b/\↑w<=b/\↑w<=G/\↑w<=I/\Mch ↑w' b G I a:=by
 have gu:=h.ed.le;have gv:=h.mr.le;refine Zn func69 ?_;refine Qc<|Zd [va,sS a.st,vm,ve] λb1 w1 h9 gx hB=>Qb<|Qc<|Qo<|Z1 Ys λG w2 hQ gy hC=>Qo<|Z1 XS λI w3 hD gz hE=>x (QD ⟨Z,Z,Z,La⟩)<|Zd [.map (some G),.map (some I),sS 0] λb11 O hg g0 hF =>
  Qb ?_
 have g2:=hC.lt;have g3:=hE.lt;have hh:=(hQ.D hD).D hg;have hn:=hB.I hh;have g4:=hB.lt;have hR:ZV Ys ↑O G []:=((hC.J hD oe).J hg oe);have hS:ZV XS ↑O I []:=hE.J hg oe;have hp:∀{b:Nat},b∈[b11,G,I]->↑w1<=b:=λhb=>by simp only[oN,oJ,or_false]at hb;omega
 have hG:b1∉[b11,G,I]:=λhb=>oq (hp hb)
 have hT:∀b∈[b11,G,I],↑w<=b:=λb hb=>oq (hp hb)
 have hA:∀{w':O6},xd [b11,G,I] O w'->Zv [] ↑w' va vm ve a:=λhs =>
  ((((h.I h9).up (L':=[b11,G,I]) (λb hb=>.inr (hp hb))).I hh).st hs).up oe
 have hU:∀b∈[b11],b∈[b11,G,I]:=λb hb=>by simp only[oH]at hb;simp[hb]
 have k1:∀b∈[G],b∈[b11,G,I]:=λb hb=>by simp only[oH]at hb;simp[hb]
 have k2:∀b∈[I],b∈[b11,G,I]:=λb hb=>by simp only[oH]at hb;simp[hb]
 refine QX (α:=Unit) [(12,17)] (λz=>[]) (λz w'=>xd [b11] O w'/\QN ↑w' b11 251 [.map (some G),.map (some I),sS (fst a)]) ol ?_ ?_
 ·refine Qc<|Qs Z hn Z Z<|x (Zc Z Z)<|xe<|Zh Z (λhq=>?_) (λhq=>?_)
  ·have hf:fst a=-1:=by unfold fst;rw[OZ hq]
   refine Qr<|Qa<|Z8 Z<|Q9 Z<|Qo<|Qv (j:=2) (u:=sS (-1)) hF Z Z oe rfl λw5 hV hW=>xe ?_;exact⟨(),La,hV,by rw[hf];exact hW⟩
  have hf:fst a=0:=by unfold fst;rw[OY hq]
  refine Qf ?_;exact⟨(),La,xd.C _ _,by rw[hf];exact hF⟩
 rintro z g w6 ⟨hr,hX⟩;have hu:=hr.S hU;have hY:ZV Ys ↑w6 G []:=hR.J hr om;have hZ:ZV XS ↑w6 I []:=hS.J hr om;have ga:=hn.J hu hG;have h6:=hA hu;refine Qd<|Qc<|Qs Z ga Z Z<|QG h6.ed Z<|Qa<|xe<|QY (α:=Nat) [(5,5),(21,36)] (λz=>[(21,sS z)]) (λz w'=>z<=a.ed.length/\xd [G] w6 w'/\ZV Ys ↑w' G (K8 [] (a.ed.take z))) (λz=>a.ed.length - z) 0 Lb
  ⟨Lp _,xd.C _ _,hY⟩ ?_
 rintro k g w7 ⟨hk,U,hv⟩;have hw:xd [b11,G,I] O w7:=hu.Q (U.S k1);have h7:=hA hw;have hH:=hX.J U om;have gb:=hZ.J U om;have gc:=hn.J hw hG;refine Zk rfl Z (λhy=>?_) (λhy=>?_)
 ·refine Qt ?_;have ge:a.ed.length<=k:=by have hz:¬(k:Int)<(a.ed.length:Int):=hy;omega
  rw[Ls ge]at hv;refine Qd<|Qc<|Qs Z gc Z Z<|QG h7.mr Z<|Qa<|xe<|QY (α:=Nat) [(7,7),(40,49)] (λz=>[(40,sS z)]) (λz w'=>z<=a.mr.length/\xd [I] w7 w'/\ZV XS ↑w' I (stI (a.mr.take z))) (λz=>a.mr.length - z) 0 Lb
   ⟨Lp _,xd.C _ _,gb⟩ ?_
  rintro j g w8 ⟨hj,V,h0⟩;have hI:xd [b11,G,I] O w8:=hw.Q (V.S k2);have h8:=hA hI;have hJ:=hH.J V om;have gg:=hv.J V om;refine Zk Z Z (λh3=>?_) (λh3=>?_)
  ·refine Qt ?_;have gh:a.mr.length<=j:=by have hz:¬(j:Int)<(a.mr.length:Int):=h3;omega
   rw[Ls gh]at h0;refine Ql<|Qb<|Qk ⟨[sP b11],Lb,(h9.D hh).Z hI (λb hb=>.inr (hT b hb)),b11,G,I,Z,oa,oa,oa,hJ,gg,h0⟩
  have J:j<a.mr.length:=by have hz:(j:Int)<(a.mr.length:Int):=h3;omega
  have hK:a.mr.take (j+1)=a.mr.take j++[a.mr[j]'J]:=Ln J;have hL:(a.mr[j]'J)∉a.mr.take j:=by
   intro hm;obtain⟨i,hi,e⟩:=LQ hm;rw[Ng]at e;have hi':i<j:=by rw[LH]at hi;omega
   have:=YD.get ho.mri J hi';omega
  refine Qf<|Qd<|Qn<|Qc<|xii (i:=j) h8.mr Z Z J λg5 hM=>?_;refine Zg (a.mr[j]'J) λs hs=>?_;rw[hs]at hM hK hL;refine x (Qq hM Z)<|Qb<|Qr<|Qa<|Z8 Z<|Qs Z hJ Z Z<|Qa<|Qo<|YV (k:=s) h0 Z Z λw9 gi gj=>xe ?_;refine Qr<|QC Z Z<|Qa<|xe<|⟨j+1,oa,Lb,J,V.Q gi,?_⟩;rw[hK];have hN:ZV XS ↑w9 I (xt ((a.mr.take j).map λs=>(s,Value.bool true)) s (.bool true)):=gj;rw[QcV hL]at hN;exact hN
 have Y:k<a.ed.length:=by have hz:(k:Int)<(a.ed.length:Int):=hy;omega
 have hO:=jo (m:=[]) Y;refine Qf<|Qd<|Qn<|Qc<|xie (i:=k) h7.ed Z Z Y λg6 hP=>?_;refine Zg (a.ed[k]'Y) λe he=>?_;rw[he]at hP hO;refine x (QF hP Z Z)<|QV [sS 0,sS 0,sS 0] λb5 g7 gk gl gm=>Q6 (Qp e) gm oz λha gn h4 =>
  xe ?_
 have h5:sW w7 ha:=gk.O gn gl;have gq:=hH.I h5;have gr:ZV Ys ↑ha G (K8 [] (a.ed.take k)):=hv.J h5 oe;refine ZK [] (Xj 0 12 [11])<|p Qx<|p (YT Z)<|p (QH Z)<|pq (λ_ hc=>Qj (gq.I hc) Z Z) <|
  p (QH rfl)<|pq (λ_ hc=>Qj (h4.I hc) Z Z)<|p (QH Z)<|pq (λ_ hc=>Qj (h4.I hc) Z Z) <|
  p (λ_=>QD ⟨Z,Z,La⟩)<|p (QH Z)<|pq (λ_ hc=>Qj (h4.I hc) Z Z)<|pkk<|YV (k:=(e.1,e.2.1)) (gr.J (xd.Y [] ha) oe) rfl rfl λg8 gs gt =>
  pe ?_
 refine Qr<|QC Z Z<|Qa<|xe<|⟨k+1,oa,Lb,Y,((U.D h5).D (xd.Y [] ha)).Q gs,?_⟩;rw[hO];exact gt
section
variable {all:xI}
def QrY (all:xI)(pre:xA)(k:Nat)(t:Pt):Bool :=
 Region.noSelect all.toArray && (pre.length+(t.len+1) == all.length) && Jq all.toArray pre (oR all.length false) && (Region.ready .any all.toArray (ZU pre (oR all.length false)) == [k]) && QjS all.toArray t ((ZU pre (oR all.length false)).setIfInBounds k true)
theorem Qpb {Q:Exit->Fr->O6->Prop}(C:xF)(pre:xA)(k:Nat)(t:Pt)(Y:P.follows .mixedOrders=true)(hn:XG n all=true)(U:QrY all pre k t=true)
  (hC:C { w with drawn:=w.drawn+1 }) (h:XP P all C (λf1 G=>Yb all f1 (QR all k)=true/\XO P (QR all k) f1 G λI w'=>C w'/\XT P all C (λf w=>Q .normal f w) t I w') pre f { w with drawn:=w.drawn+1 }):W P n (.region id all.toArray true) Q f w:=by
 simp only[QrY,oK,beq_iff_eq]at U;obtain⟨⟨⟨⟨V,hl⟩,hq⟩,J⟩,ht⟩:=U;refine JO C Y hn ?_;have h1:=YM (K:=λf w=>Q .normal f w) (m:=t.len+1) V pre (oR all.length false) f _ hC hq
  (B:=λf1 G=>Yb all f1 (QR all k)=true/\XO P (QR all k) f1 G λI w'=>C w'/\XT P all C (λf w=>Q .normal f w) t I w')
  (λf1 O=>by
   refine J8 (λh0=>(by rw[h0]at J;cases J)) ?_;rw[J];intro j hj o ho;have ha:j=k:=by simpa using hj
   subst ha;rw[ZF ho]at O;rw[O.1,cond_true];exact O.2.S λv w' hx=>⟨.inr (.inr hx.1),Up V t _ _ _ (by simp[YR]) hx.1 ht hx.2⟩) h
 rw[hl]at h1;exact h1
end
theorem At.sub {H:xG}{a:Addr}(h:At L H a us)(n:Nat):At L H a (us.take n):=
 ⟨λu G=>h.out u (Ma G),λu G=>h.lt u (Ma G),λj u G=>by
  rw[L6]at G;split at G
  ·exact h.cell j u G
  cases G⟩
abbrev YO (p:Vs):LV:=[sS p.x,sS p.y,sS p.b,sS p.v]
theorem yh (p:Vs):(YO p).length=4:=rfl
theorem Qkp:∀(es:List Ed) (s v:Int),(∀e∈es,0<=e.2.2)->-1<=nxt es s v
 | [],_,_,_=>Ms _
 | e::es,s,v,h=>by
  rw[nxt];split
  ·have:=h e Lj;omega
  exact Qkp es s v (λx hx=>h x (Lh _ hx))
theorem Qkl (G:QL a)(s v:Int):-1<=nxt a.ed s v/\(nxt a.ed s v<a.st\/nxt a.ed s v=-1):=by
 have h1:=Qkp a.ed s v (λe I=>(G.ed e I).2.2.2.1);refine⟨h1,?_⟩;by_cases h:nxt a.ed s v<0
 ·right;omega
 left;exact Qkn G h
structure VsI (a b:Qz)(V:List Vs):Prop where
 nd:(V.map Vs.ky).Nodup
 rg:∀p∈V,-1<=p.x/\(p.x<a.st\/p.x=-1)/\-1<=p.y/\(p.y<b.st\/p.y=-1)
 bk:∀(k:Nat) (h:k<V.length),V[k].b<(k:Int)
def cdV (m:Nat)(p:Int×Int):Int:=(p.1+1)*(m+1)+(p.2+1)
theorem Qrc {x y:Int}(hx:-1<=x/\(x<n\/x=-1))(O:-1<=y/\(y<m\/y=-1)):0<=cdV m (x,y)/\cdV m (x,y)<(((n+1)*(m+1):Nat):Int):=by
 unfold cdV;obtain⟨u,G⟩:∃u:Nat,x+1=u:=⟨(x+1).toNat,oa⟩;obtain⟨v,I⟩:∃v:Nat,y+1=v:=⟨(y+1).toNat,oa⟩;have J:u<=n:=oa
 have U:v<=m:=oa
 show 0<=(x+1)*((m:Int)+1)+(y+1)/\(x+1)*((m:Int)+1)+(y+1)<_;rw[G,I];have h1:u*(m+1)+v<(n+1)*(m+1):=by
  have h2:u*(m+1)<=n*(m+1):=MY _ J;have V:(n+1)*(m+1)=n*(m+1)+(m+1):=by rw[MI,NT]
  omega
 have e:((u:Int)*((m:Int)+1)+(v:Int))=((u*(m+1)+v:Nat):Int):=by push_cast;rfl
 rw[e];constructor <;> omega
theorem QoX {x y I G:Int}(hx:-1<=x)(hg:-1<=I)(hy:-1<=y/\(y<m\/y=-1))(hh:-1<=G/\(G<m\/G=-1))(h:cdV m (x,y)=cdV m (I,G)):(x,y)=(I,G):=by
 unfold cdV at h;have O:(x+1)*((m:Int)+1)+(y+1)=(I+1)*((m:Int)+1)+(G+1):=h;obtain⟨u,U⟩:∃u:Nat,x+1=u:=⟨(x+1).toNat,oa⟩;obtain⟨J,V⟩:∃J:Nat,I+1=J:=⟨(I+1).toNat,oa⟩;obtain⟨v,Y⟩:∃v:Nat,y+1=v:=⟨(y+1).toNat,oa⟩;obtain⟨v',ha⟩:∃v':Nat,G+1=v':=⟨(G+1).toNat,oa⟩;rw[U,V,Y,ha]at O;have h1:u*(m+1)+v=J*(m+1)+v':=by exact_mod_cast O
 have he:v<m+1:=oa
 have hf:v'<m+1:=oa
 have e1:u=J:=by
  have a1:(u*(m+1)+v) / (m+1)=u:=by rw[Nat.mul_comm,Nat.mul_add_div oa,Nat.div_eq_of_lt he,M8]
  have a2:(J*(m+1)+v') / (m+1)=J:=by rw[Nat.mul_comm,Nat.mul_add_div oa,Nat.div_eq_of_lt hf,M8]
  rw[<-a1,<-a2,h1]
 subst e1;have:x=I/\y=G:=⟨oa,oa⟩;rw[this.1,this.2]
theorem VsI.len {b:Qz}(J:QL a)(hb:QL b){V:List Vs}(h:VsI a b V):V.length<=(a.st.toNat+1)*(b.st.toNat+1):=by
 have hg:=J.st0;have hh:=hb.st0;have h1:=xM ((a.st.toNat+1)*(b.st.toNat+1)) ((V.map Vs.ky).map (cdV b.st.toNat)) (by
  unfold List.Nodup;rw[Mj];refine(List.Pairwise.imp_of_mem ?_ h.nd);intro p q I O U e;obtain⟨Y,he,rfl⟩:=Lt.1 I;obtain⟨q',hf,rfl⟩:=Lt.1 O;have G:=h.rg Y he;have r2:=h.rg q' hf;exact U (QoX G.1 r2.1 ⟨G.2.2.1,oa⟩ ⟨r2.2.2.1,oa⟩ e)) (λx hx=>by
  obtain⟨k,hk,rfl⟩:=Lt.1 hx;obtain⟨p,I,rfl⟩:=Lt.1 hk;have G:=h.rg p I;exact Qrc ⟨G.1,oa⟩ ⟨G.2.2.1,oa⟩)
 simpa using h1
theorem QqQ {V W:List Vs}(h:i<V.length):gV (V++W) i=gV V i:=by unfold gV;simp[oQ,Oa h]
theorem Qfj {V:List Vs}(h:i<V.length):gV V i=V[i]'h:=by unfold gV;simp[oQ,h]
theorem Qlf (G:QL a):-1<=fst a/\(fst a<a.st\/fst a=-1):=by
 have:=G.st0;unfold fst;split
 ·exact⟨oa,.inr Z⟩
 exact⟨oa,.inl oa⟩
theorem VsI.one {b:Qz}(I:QL a)(hb:QL b):VsI a b [⟨fst a,fst b,-1,0⟩]:=by
 have h1:=Qlf I;have h2:=Qlf hb;refine⟨oe,λp G=>?_,λk h=>?_⟩
 ·simp only[oH]at G;subst G;exact⟨h1.1,h1.2,h2.1,h2.2⟩
 have J:k=0:=by simpa using h
 subst J;exact(by decide:(-1:Int)<0)
theorem VsI.add {b:Qz}(O:QL a)(hb:QL b){V:List Vs}(h:VsI a b V)(hi:i<V.length){p:Vs}{v:Int}(U:(jX a b i p v).ky∉V.map Vs.ky):VsI a b (V++[jX a b i p v]):=by
 refine⟨?_,λq G=>?_,λk Y=>?_⟩
 ·rw[Lv,Ml];refine⟨h.nd,oe,λx hx y I e=>?_⟩;simp only[oU,OI,oH]at I;subst I;subst e;exact U hx
 ·rcases Lk.1 G with G|G
  ·exact h.rg q G
  simp only[oH]at G;subst G;have J:=Qkl O p.x v;have r2:=Qkl hb p.y v;exact⟨J.1,J.2,r2.1,r2.2⟩
 rw[List.getElem_append];split
 ·rename_i h1;exact h.bk k h1
 have:V.length<=k:=oa
 simp only[List.getElem_singleton,jX];omega
theorem QkG (V:List Vs)(f k:Nat):lgW V (f+1) k=if 0<=(gV V k).b then(gV V k).v::lgW V f (gV V k).b.toNat else[]:=rfl
instance:Bw sV 253 [sS 0,sS 0,sS 0,sS 0] [(0,2),(2,1),(3,1)]:={}
abbrev VsO (base:Nat)(w:O6)(v:O7)(l:List Vs):Prop:=w.ownsRow base 253 4 v l.length (l.flatMap YO)
theorem VsO.snoc {v:O7}{l:List Vs}{p:Vs}(h:w.ownsRow base 253 4 v (l.length+1) (l.flatMap YO++YO p)):VsO base w v (l++[p]):=by
 unfold VsO;rw[Le,LJ];simpa using h
theorem VK {p:Prop}{i:Decidable p}(h:(!@decide p i)=true):¬p:=by
 cases i with
 | isTrue G=>cases h
 | isFalse G=>exact G
theorem Kw {p:Prop}{i:Decidable p}(h:(!@decide p i)=false):p:=by
 cases i with
 | isTrue G=>exact G
 | isFalse G=>cases h
structure Qbc (H:xG)(m:Nat)(V:List Vs):Prop where
 h:∃K:xD,ZV Ys H m (setM K)/\∀k,k∈K↔k=(-1,-1)\/k∈V.map Vs.ky
theorem Vh {H:xG}{K:xD}{k:Int×Int}(h:ZV Ys H m (xt (setM K) k (.bool true))):∃K',ZV Ys H m (setM K')/\∀x,x∈K'↔x=k\/x∈K :=
 let⟨K',a,b⟩:=X1.put h (λ_=>Iff.rfl)
 ⟨K',a,λx=>(b x).D (by rw[Lk,Lc];exact Or.comm)⟩
theorem Qbc.I {V:List Vs}(h:Qbc ↑w m V)(G:sW w w'):Qbc ↑w' m V:=let⟨K,h1,h2⟩:=h.h;⟨K,h1.J G oe,h2⟩
theorem QaN (a b:Qz)(i:Nat)(p:Vs)(V:List Vs)(v:Int):((jX a b i p v).ky≠(-1,-1)/\(jX a b i p v).ky∉V.map Vs.ky/\lgA a b i p V v=V++[jX a b i p v])\/(((jX a b i p v).ky=(-1,-1)\/(jX a b i p v).ky∈V.map Vs.ky)/\lgA a b i p V v=V):=by
 unfold lgA;by_cases h:(jX a b i p v).ky≠(-1,-1)/\(jX a b i p v).ky∉V.map Vs.ky
 ·exact .inl ⟨h.1,h.2,OZ h⟩
 refine .inr ⟨?_,OY h⟩;by_cases h1:(jX a b i p v).ky=(-1,-1)
 ·exact .inl h1
 exact .inr (Ly.1 λh2=>h ⟨h1,h2⟩)
theorem QhP {vl:O7}{al:LI}{kf mu mv kg mw my:Nat}{b:Qz}[Fu sV g fn](hV:Qu [] ↑w vl al)(kh:Mch ↑w kf mu mv a)(ki:Mch ↑w kg mw my b)(hq:QL a)(hr:QL b)
  (hk:∀(s t:Int) (w1:O6),sW w w1->QT sV g ([.agg #[sS s,sS t]]++cap) w1 λr w'=>r=.bool (!(UV a kd s == UV b kd t))/\sW w1 w'):
  QT sV 70 [vl,sP kf,sP kg,.func (.func g) #[] cap.toArray] w λr w'=>sW w w' /\
   match lgL a b kd al ((a.st.toNat+1)*(b.st.toNat+1)+1) 0 [⟨fst a,fst b,-1,0⟩]with|none=>r=.tuple #[Zq,.bool false]|some u=>∃v,r=.tuple #[v,.bool true]/\Qh 3 ↑w w' v u:=by
 have hall:=hV.le;have ha1:=hq.st1;have hb1:=hr.st1;have mz:(a.st.toNat+1)*(b.st.toNat+1)<=4097*4097:=Nj oa oa;refine Zg ((a.st.toNat+1)*(b.st.toNat+1)) λN hN=>?_;rw[hN]at mz ⊢;refine Zg (lgL a b kd al (N+1) 0 [⟨fst a,fst b,-1,0⟩]) λR hR=>?_;rw[hR];refine Zn func70 ?_;refine Qc<|x Qe<|Qb<|Qd<|ZK [] (Xj 0 11 [9,10])<|p Qx<|p (YT Z)<|p (QH Z)<|pq (λ_ hc=>Qj (kh.B.I hc) Z Z)<|p Qx<|p (YT Z) <|
  p (QH rfl)<|pq (λ_ hc=>Qj (ki.B.I hc) Z Z)<|p (λ_=>QD ⟨Z,Z,La⟩)<|pk<|Y0 (us:=[sS 0,sS 0]) Z λb10 w1 kj m0 m1=>⟨(xd.Y [] w).D kj,?_⟩
 refine pkk<|qI [sS (fst a),sS (fst b)] m1 oy λw2 m2 hW=>pe ?_;have m3:↑w<=b10:=m0;have m4:sW w w2:=((xd.Y [] w).D kj).O m2 m3;have hl10:=hW.lt;refine Qc<|Q7 hW Z Z<|x (ZE [(0,[sS (fst a),sS (fst b)]),(1,[sS (-1)]),(2,[sS 0])] ⟨Z,Z,Z,Z,Z,Z,La⟩)<|Qo<|Q3 [YO ⟨fst a,fst b,-1,0⟩] λhE O kk hb29 kn =>
  Qb ?_
 have m5:=m4.D kk;have hl29:=kn.lt;have m6:=hW.I kk;have m7:VsO ↑w O (sL hE 1 1) [⟨fst a,fst b,-1,0⟩]:=kn.own (n:=1) (sz:=4) Z oa oa;refine QX (α:=Nat) [(30,33),(12,12)] (λz=>[(12,.map (some z))]) (λz w'=>sW O w'/\↑O<=z/\Qbc ↑w' z [⟨fst a,fst b,-1,0⟩]) ol ?_ ?_
 ·have hX:sW O { O with drawn:=O.drawn+1 }:=xd.Y _ _
  have ko:∀(k:Int×Int),k∈[⟨fst a,fst b,-1,0⟩].map Vs.ky↔k=(fst a,fst b):=λk=>by simp[Vs.ky]
  refine Qpb (sW O) [oB 1,oB 3] 0 (.fk [] 2 4 (.pl [oC 4,oB 5,oB 6]) (.pl [oC 2,oB 5,oB 6])) mixed ol od (xd.Y _ _) ?_;refine pq (λ_ hc=>Zj (m6.I hc) Z Z)<|p (λ_=>QD ⟨Z,Z,La⟩)<|pe ⟨Z,Z1 Ys λm w4 hw hm hM=>⟨hX.D hw,tf<|pe ⟨⟨Z,?_⟩,Z,?_⟩⟩⟩
  ·have Y:↑O<=m:=hm;refine Yy (k:=(fst a,fst b)) hM Z Z λw5 hg hY=>?_;have hh:=(hX.D hw).O hg Y;obtain⟨K1,hZ,ga⟩:=Vh (K:=[]) hY;refine⟨hh,?_⟩;refine tp<|pk<|Yy (k:=(-1,-1)) hZ Z Z λw6 I gb=>⟨hh.O I Y,?_⟩;refine p Qx<|p ZH<|pe ?_;obtain⟨K2,gc,ge⟩:=Vh gb;exact⟨m,Lb,hh.O I Y,Y,⟨K2,gc,λk=>by rw[ge,ga,ko];simp⟩⟩
  have Y:↑O<=m:=hm;refine Yy (k:=(-1,-1)) hM Z Z λw5 hg hY=>?_;have hh:=(hX.D hw).O hg Y;obtain⟨K1,hZ,ga⟩:=Vh (K:=[]) hY;refine⟨hh,?_⟩;refine tp<|pk<|Yy (k:=(fst a,fst b)) hZ Z Z λw6 I gb=>⟨hh.O I Y,?_⟩;refine p Qx<|p ZH<|pe ?_;obtain⟨K2,gc,ge⟩:=Vh gb;exact⟨m,Lb,hh.O I Y,Y,⟨K2,gc,λk=>by rw[ge,ga,ko];simp[or_comm]⟩⟩
 rintro m g0 w4 ⟨hw,hm4,m8⟩;have m9:=m5.D hw;have pc:↑w<=m:=oa
 have pd:m∉ob (sL hE 1 1):=by
  intro h;have h':m∈[hE]:=h;simp only[oH]at h';omega
 refine Qd<|Qc<|Qb<|QY (α:=Nat×O7×List Vs×Nat) [(8,9),(11,11),(13,14),(16,17),(34,108)] (λz=>[(8,Zq),(11,z.2.1),(13,sS z.1)]) (λz w'=>z.1<=z.2.2.1.length/\sW w w'/\VsO ↑w w' z.2.1 z.2.2.1/\Qbc ↑w' m z.2.2.1/\m∉ob z.2.1/\VsI a b z.2.2.1/\z.2.2.2+z.1=N+1/\lgL a b kd al z.2.2.2 z.1 z.2.2.1=R) (λz=>z.2.2.2) (0,sL hE 1 1,[⟨fst a,fst b,-1,0⟩],N+1) oz
  ⟨Lp _,m9,Qm m7 hw,m8,pd,VsI.one hq hr,Z,hR⟩ ?_
 rintro⟨i,vV,V,f⟩ g1 w5 ⟨hi,hg,gg,kq,kr,hF,hf,J⟩;simp only[]at hi gg kq kr hF hf J;have hVlen:V.length<=N:=by rw[<-hN];exact VsI.len hq hr hF
 have gh:Zw [] ↑w5 vV V.length 4 (V.flatMap YO):=QO gg oa oe;refine Qd<|Ql<|Qa<|QG gh Z<|ZT Z Z<|xe<|Zp rfl (λgi=>?_) (λgi=>?_)
 ·refine Qt ?_;have pf:¬i<V.length:=by have gj:¬(i:Int)<(V.length:Int):=gi;omega
  have pg:R=none:=by
   rw[<-J];cases f with
   | zero=>rfl
   | succ f=>rw[lgL,OY pf]
  rw[pg];refine Qc<|x Qe<|Qb<|Qk ⟨[Zq,.bool false],oy,hg,Z⟩
 have h6:i<V.length:=by have gj:(i:Int)<(V.length:Int):=gi;omega
 refine Exists.elim (show ∃f',f=f'+1 from⟨f - 1,oa⟩) λf' ph=>?_;rw[ph]at J;rw[lgL,OZ h6]at J;have pn:=Qfj h6;refine Qf<|Qd<|Qn<|Qd<|Ql<|Qa<|Qa<|xo (g:=YO) (i:=i) yh gh Z Z h6 λa43 gk=>?_;rw[<-pn]at gk;refine Zg (gV V i) λpi kt=>?_;rw[kt]at gk J;refine x (ZB Z)<|x (QF (us:=[sS pi.x,sS pi.y]) (At.sub (gk.from 0) 2) Z Z) <|
  Qo<|xc (first:=[]) (capt:=cap) Z<|(hk pi.x pi.y w5 hg).S ?_
 rintro r6 w6 ⟨rfl,I⟩;refine xe ?_;have hG:=hg.D I;have po:=Qm gg I;have ku:=gh.I I;refine Q5 rfl (λgl=>?_) (λgl=>?_)
 ·have hc:lgC a b kd pi=true:=gl;rw[OZ hc]at J;rw[<-J];refine Qd<|Ql<|Qb<|QY (α:=Nat×Nat×O7×LI) [(8,8),(14,14),(48,66)] (λz=>[(8,z.2.2.1),(14,sS z.2.1)]) (λz w'=>z.2.1<V.length/\sW w6 w'/\Qh 3 ↑w6 w' z.2.2.1 z.2.2.2/\z.2.2.2++lgW V z.1 z.2.1=lgW V (i+1) i/\z.2.1+1<=z.1/\z.2.2.2.length+z.1=i+1) (λz=>z.1) (i+1,i,Zq,[]) oy
   ⟨h6,xd.C _ _,QM _ _ _ _,Z,Lr _,oe⟩ ?_
  rintro⟨fu,k,vo,wd⟩ g2 w7 ⟨hy,hH,hI,ha,pp,pt⟩;simp only[]at hy hI ha pp pt;have kv:=ku.I hH;have gm:=Qfj hy;have kw:=hF.bk k hy;have kx:=Qi hI;have hz7:=hH.size;refine Exists.elim (show ∃gn,fu=gn+1 from⟨fu - 1,oa⟩) λgn pu=>?_;rw[pu]at ha;rw[QkG]at ha;refine Qd<|Ql<|Qa<|xo (g:=YO) (i:=k) yh kv Z Z hy λa50 gq=>?_;rw[<-gm]at gq kw;refine Zg (gV V k) λG gr=>?_;rw[gr]at gq kw ha;refine x (ZB Z)<|x (Qq (gq.fld 2 (sS G.b) Z) Z)<|x (Yn Z Z)<|xe<|Zp Z (λgs=>?_) (λgs=>?_)
  ·refine Qt ?_;have gt:¬0<=G.b:=gs;rw[OY gt,LK]at ha;refine Ql<|Vc<|(jN hI oa).S ?_;rintro r8 w8 ⟨kz,gu⟩;refine xe<|Ql<|x Qe<|Qb ?_;rw[ha]at kz;have pw:=hG.size;exact Qk ⟨[vo,.bool true],oy,(hG.D hH).Z gu (λb hb=>.inr (oq (kx b hb).1)),vo,Z,Za kz pw⟩
  have gt:0<=G.b:=gs;rw[OZ gt]at ha;have pz:G.b=(G.b.toNat:Int):=oa
  refine Qf<|Qd<|Qn<|Qr<|Qa<|Qa<|Qa<|xo (g:=YO) (i:=k) yh kv Z Z hy λa62 k0=>?_;rw[<-gm,gr]at k0;refine x (ZB Z)<|x (Qq (k0.fld 3 (sS G.v) Z) Z) <|
   Qo<|Q3 [[sS G.v]] λb65 w9 gv hb65 p0=>?_
  have hz9:=gv.size;refine Qo<|Q0 (news:=[sS G.v]) (L:=[]) (Qm hI gv) Z Z Z (p0.at oe) oo oa oa λp4 p5 p6 p7 hn10 =>
   Qb ?_
  have k4:sW w6 p5:=(hH.D gv).Z p7 (λb hb=>.inr (kx b hb).1);have p8:=ku.I k4;refine Qr<|Qa<|Qa<|xo (g:=YO) (i:=k) yh p8 Z Z hy λa56 k5=>?_;rw[<-gm,gr]at k5;refine x (ZB Z)<|x (Qq (k5.fld 2 (sS G.b) Z) Z)<|x Qe <|
   xe ?_
  refine⟨(gn,G.b.toNat,p4,wd++[G.v]),og,⟨Z,O0 sS pz,La⟩,og,k4,Qh.snoc p6,?_,og,by simp only[oO,oL];omega⟩;simp only[];rw[LC];exact ha
 have hc:¬lgC a b kd pi=true:=by
  intro h;have p9:lgC a b kd pi=false:=gl;rw[p9]at h;cases h
 rw[OY hc]at J;refine Qf<|Ql<|QG (hV.I hG) Z<|Qa<|xe<|QY (α:=Nat×O7×List Vs) [(11,11),(16,17),(72,108)] (λz=>[(11,z.2.1),(72,sS z.1)]) (λz w'=>z.1<=al.length/\sW w w'/\VsO ↑w w' z.2.1 z.2.2/\Qbc ↑w' m z.2.2/\m∉ob z.2.1/\VsI a b z.2.2/\z.2.2=(al.take z.1).foldl (lgA a b i pi) V/\∃W,z.2.2=V++W) (λz=>al.length - z.1) (0,vV,V) oy
  ⟨Lp _,hG,po,kq.I I,kr,hF,Z,[],oe⟩ ?_
 rintro⟨j,vU,U⟩ g3 he ⟨hj,hz,ho,h7,hJ,h8,hO,⟨W,hA⟩⟩;simp only[]at hj ho h7 hJ h8 hO hA;have hUlen:U.length<=N:=by rw[<-hN];exact VsI.len hq hr h8
 have hUl:V.length<=U.length:=by rw[hA,Le];omega
 have hp:i<U.length:=oa
 have k6:=Qi ho;refine Zk rfl Z (λgx=>?_) (λgx=>?_)
 ·refine Qt ?_;have qf:al.length<=j:=by have gj:¬(j:Int)<(al.length:Int):=gx;omega
  rw[Ls qf]at hO;rw[<-hO]at J;refine Qr<|Qa<|QC Z Z<|Qb<|⟨(i+1,vU,U,f'),og,oz,hp,hz,ho,h7,hJ,h8,og,J⟩
 have h0:j<al.length:=by have gj:(j:Int)<(al.length:Int):=gx;omega
 have k9:al.take (j+1)=al.take j++[al[j]'h0]:=Ln h0;have qj:gV U i=pi:=by rw[hA,QqQ h6];exact kt
 refine Qf<|Qd<|Qn<|Qc<|xii (i:=j) (hV.I hz) Z Z h0 λa74 ma=>?_;refine Zg (al[j]'h0) λv hv=>?_;rw[hv]at ma k9;have hP:(al.take (j+1)).foldl (lgA a b i pi) V=lgA a b i pi U v:=by rw[k9,Mw,<-hO];rfl
 refine x (Qq ma Z)<|Qb<|Exists.elim (qH ho oa) λg9 ql=>Exists.elim ql λcap9 gy=>?_;have q4:Zw [] ↑he vU U.length 4 (U.flatMap YO):=QO ho oa oe;have mc:At [] ↑he ⟨g9,0+i*4,none⟩ (YO pi):=by
  obtain⟨a9,c9,e1,e2⟩:=Zw.at q4 hp;rw[Jv YO 4 yh U i hp,<-Qfj hp,qj]at e2;rw[gy]at e1;have e3:(⟨g9,0,none⟩:Addr)=a9:=by
   have:=Value.slice.inj e1;exact Option.some.inj this.1
  rw[<-e3,Jc]at e2;exact e2
 have q5:At [] ↑he ⟨g9,0+i*4+0+0*1,none⟩ [sS pi.x]:=by
  have:=mc.fld 0 (sS pi.x) Z;rw[Jc]at this;exact this
 have j1:At [] ↑he ⟨g9,0+i*4+0+1*1,none⟩ [sS pi.y]:=by
  have:=mc.fld 1 (sS pi.y) Z;rw[Jc]at this;exact this
 have j2:=kh.I hz;have j3:=ki.I hz;refine QX (α:=Nat) [(76,94),(17,17)] (λz=>[(17,sP z)]) (λz w'=>sW he w'/\↑he<=z/\QN ↑w' z 156 [sS (nxt a.ed pi.x v),sS (nxt b.ed pi.y v)]) ol ?_ ?_
 ·refine QiH (α:=Unit) (sW he) [oB 0,oB 1,oB 2,oB 3,oB 4,oB 5,oB 6,oB 7,oB 9,oB 10,oB 11,oB 12,oB 13,oB 14,oB 15,oB 16] [oC 8,oC 17,oB 18] 19 17 [oC 20] []
   [(76,94)] [(84,84),(93,94)] (λ_=>[(94,.agg #[sS (nxt a.ed pi.x v),sS (nxt b.ed pi.y v)])]) (λ_ _ _=>True)
   (λv w'=>∃b,v=sP b/\↑he<=b/\QN ↑w' b 156 [sS 0,sS 0]) mixed ol od ol Z (xd.Y _ _) oe ?_ ?_ ?_ ?_
  ·rintro v own wa wb ⟨b,rfl,hb,hB⟩ hs hn;exact⟨b,Z,hb,hB.J hs (hn b (by simp[ow]))⟩
  ·intro z own wa wb h hs;trivial
  ·rintro z g5 own wz v5 _ j4 ⟨hQ,rfl,gz,hC⟩ _;refine pkk<|qI [sS (nxt a.ed pi.x v),sS (nxt b.ed pi.y v)] hC oy λw8 gu za=>pe ?_;exact⟨hQ,Lb,j4.O gu gz,gz,za⟩
  refine p Qx<|p Qx<|p Qx<|p (λ_=>QE (show ev _ _=_ from gy) Z hp)<|p (QH Z) <|
   p (λ_=>ZX (i:=0) Z Z oh)<|pq (λ_ hc=>Qq (q5.st hc) Z)<|p Qx<|p Qx<|p Qx<|p Qx <|
   p (λ_=>QE (show ev _ _=_ from gy) Z hp)<|p (QH Z)<|p (λ_=>ZX (i:=1) Z Z oh)<|pq (λ_ hc=>Qq (j1.st hc) Z) <|
   p Qx<|pe ⟨λg6 wf z0=>flA [sS 0,sS 0] z0,?_⟩
  refine f2k λx1 p1 c1=>xf<|(QaL (j2.I c1) hq pi.x v).S ?_;rintro r84 y1 ⟨rfl,mf⟩;refine⟨c1.D mf,[],mf,(λb hb=>by cases hb),?_⟩;refine f2k λx2 p2 c2=>xf<|(QaL (j3.I c2) hr pi.y v).S ?_;rintro r93 y2 ⟨rfl,mg⟩;refine⟨c2.D mg,[],mg,(λb hb=>by cases hb),?_⟩;refine f3p (λ_=>QD ⟨Z,Z,La⟩)<|f2e ?_;exact⟨(),Lb,La⟩
 rintro hQ g7 hS ⟨hD,gz,hC⟩;have z1:=hz.D hD;refine Exists.elim (h7.I hD).h λK z2=>And.elim (λg4 g8=>?_) z2;have hT:(jX a b i pi v).ky=(nxt a.ed pi.x v,nxt b.ed pi.y v):=rfl;refine Ql<|Q7 hC Z Z<|x (qE (s:=(nxt a.ed pi.x v,nxt b.ed pi.y v)) g4 Z Z)<|x (Zi Z)<|xe<|Q5 rfl (λka=>?_) (λka=>?_)
 ·have z3:(nxt a.ed pi.x v,nxt b.ed pi.y v)∉K:=VK ka;have h3:=λh=>z3 ((g8 _).2 h);rw[<-hT]at h3;have kb:lgA a b i pi U v=U++[jX a b i pi v]:=by
   rcases QaN a b i pi U v with⟨_,_,h⟩|⟨h,_⟩
   ·exact h
   exact O1 h h3
  rw[kb]at hP;have mh:m∉ob vU:=hJ;have mj:hQ∉m::ob vU:=λhb=>by
   rcases Ll.1 hb with rfl|hb
   ·obtain⟨K0,z4,_⟩:=h7.h;have:=z4.lt;omega
   have:=(k6 hQ hb).2;omega
  have z5:m<hS.heap.size:=g4.lt;have h4:sW hS { hS with drawn:=hS.drawn+1 }:=xd.Y _ _
  refine ZK (m::ob vU) (Xj 0 11 [7,8,9])<|p Qx<|pq (λ_ hc=>Zj (hC.J hc mj) Z Z)<|p Qx<|pq (λ_ hc=>Zj (hC.J hc mj) Z Z) <|
   p Qx<|p Qx<|p (λ_=>ZE [(0,[sS (nxt a.ed pi.x v),sS (nxt b.ed pi.y v)]),(1,[sS i]),(2,[sS v])] ⟨Z,Z,Z,Z,Z,Z,La⟩)<|pk<|Q3 [YO (jX a b i pi v)] λb106 w13 h5 hb106 hB106=>⟨(h4.D h5).any,?_⟩
  have kc:=hD.D (h4.D h5);have hz13:=(h4.D h5).size;refine pk<|Q0 (news:=YO (jX a b i pi v)) (L:=[]) (Qm ho kc) Z Z Z (hB106.at oe) (λu hu=>by
   simp only[oN,oJ,or_false]at hu;rcases hu with rfl|rfl|rfl|rfl <;> rfl) oa (oq kc.size) λmo mq ho14 hU hn14=>⟨(h4.D h5).any.Q (hU.S (λb hb=>Lh _ hb)),?_⟩
  have hM14:ZV Ys ↑mq m (setM K):=(g4.J (h4.D h5) oe).J hU mh;refine pk<|YV (k:=(nxt a.ed pi.x v,nxt b.ed pi.y v)) hM14 Z Z λw15 ke hM15=>⟨((h4.D h5).any.Q (hU.S (λb hb=>Lh _ hb))).Q (ke.S oe),?_⟩;refine p ZH<|pe ?_;refine Exists.elim (Vh hM15) λK' hKKK'=>And.elim (λhM15' hKK'=>?_) hKKK';have ms:m∉ob mo:=λhb=>by
   rcases hn14 m hb with h9|h9
   ·exact mh h9
   have:=z5;omega
  refine Qr<|QC Z Z<|Qa<|xe ?_;have hs014:sW w mq:=(hz.D kc).Z hU (λb hb=>.inr (k6 b hb).1);refine⟨(j+1,mo,U++[jX a b i pi v]),og,oy,h0,hs014.O ke pc,Qg (VsO.snoc ho14) ke (λb hb mt=>by simp only[oH]at mt;subst mt;exact ms hb),⟨K',hM15',λk=>?_⟩,ms,VsI.add hq hr h8 hp (λh=>h3 (.inr h)),hP.symm,W++[jX a b i pi v],by rw[hA,LC]⟩;rw[hKK',g8,Lv,Lk];constructor
  ·rintro(h|h|h)
   ·exact .inr (.inr (by rw[h];simp[hT]))
   ·exact .inl h
   exact .inr (.inl h)
  rintro(h|h|h)
  ·exact .inr (.inl h)
  ·exact .inr (.inr h)
  exact .inl (by simpa[hT]using h)
 have hK:(nxt a.ed pi.x v,nxt b.ed pi.y v)∈K:=Kw ka;have h3:=(g8 _).1 hK;rw[<-hT]at h3;have kb:lgA a b i pi U v=U:=by
  rcases QaN a b i pi U v with⟨h1,h2,_⟩|⟨_,h⟩
  ·exact O1 h3 (λh=>h.elim h1 h2)
  exact h
 rw[kb]at hP;refine Qf<|Qr<|QC Z Z<|Qa<|xe ?_;exact⟨(j+1,vU,U),og,oy,h0,z1,Qm ho hD,h7.I hD,hJ,h8,hP.symm,W,hA⟩
theorem Qqd {only:Bool}{e:Ed}(h:(!decide (e.2.1∈o))=false):VW o un only e=false:=by unfold VW;rw[h];rfl
theorem Qqc {only:Bool}{e:Ed}(h:(!decide (e.2.1∈o))=true)(h1:(!only)=true):VW o un only e=true:=by unfold VW;rw[h,h1];rfl
theorem Qkc {only:Bool}{e:Ed}(h:(!decide (e.2.1∈o))=true)(h1:(!only)=false):VW o un only e=decide (e.2.1∈un):=by unfold VW;rw[h,h1];rfl
structure VcI (bm:Nat)(w0:O6)(vl:O7)(l:LI)(w:O6):Prop where
 st:sW w0 w
 m:X1 XS ↑w bm l
 o:Qh 3 ↑w0 w vl l
 nm:bm∉ob vl
theorem VcI.I {bm:Nat}{I w w':O6}{vl:O7}{l:LI}(h:VcI bm I vl l w)(G:sW w w'):VcI bm I vl l w':=⟨h.st.D G,h.m.I G,Qm h.o G,h.nm⟩
theorem Ve {V:VwV}{vl:O7}{l:LI}{only:Bool}(h:VwA ↑w V)(hl:Qu [] ↑w vl l)(hb:∀x∈l,0<=x/\x<V.a.st)(ko:l.length<=1000000):
  QT sV 132 [.pointer (some ⟨V.b,0,none⟩),vl,.bool only] w λr w'=>sW w w'/\Qh 3 ↑w w' r (vcl V.a V.o V.un l only):=by
 have hok:=h.ok;have kq:=hok.st0;have kr:=hok.st1;obtain⟨n,hn⟩:∃n:Nat,V.a.st.toNat=n:=⟨_,Z⟩;have gk:V.a.st=(n:Int):=oa
 have kt:=hok.ed_le;obtain⟨rv,hJ,hK⟩:=h.r;rw[hn]at hJ hK;have gl:vcl V.a V.o V.un l only=srt n (bfs (VW V.o V.un only) V.a.ed (l.length+n) 0 l):=by unfold vcl cls;rw[hn]
 rw[gl];have gm:=hok.ed;rw[gk]at hb;refine Zg (bfs (VW V.o V.un only) V.a.ed (l.length+n) 0 l) λR hR=>?_;rw[hR];refine Zn func132 ?_;refine Qc<|Qb<|Ql<|Qw<|(Z0 hl).S ?_;rintro v1 w1 ⟨hL,h4⟩;refine Qb<|Qc<|Qo<|Z1 XS λbm w2 h5 ku gn=>Qb ?_;have gq:=hL.D h5;have kv:=hL.size;have hM:bm∉ob v1:=λI=>oq (QW h4 _ I)
 have gr:Qu [] ↑w2 v1 l:=Qh.ints (Qm h4 h5) oa oe;refine Qd<|Ql<|QG gr Z<|Qa<|xe<|QY (α:=Nat) [(10,10),(19,25)] (λz=>[(19,sS z)]) (λz w'=>z<=l.length/\xd [bm] w2 w'/\X1 XS ↑w' bm (l.take z)) (λz=>l.length - z) 0 Lb ⟨Lp _,xd.C _ _,.zero gn⟩ ?_;rintro k g w3 ⟨hk,h6,h8⟩;have gs:sW w w3:=gq.O h6 oa;have hN:=Qg (Qm h4 h5) h6 λb hb I=>hM (Lc.1 I ▸ hb);have gt:Qu [] ↑w3 v1 l:=Qh.ints hN oa oe;refine Zk rfl Z (λh9=>?_) (λh9=>?_)
 ·refine Qt ?_;have gu:l.length<=k:=by have hh:¬(k:Int)<(l.length:Int):=h9;omega
  rw[Ls gu]at h8;refine Qd<|Qc<|Qb<|QY (α:=Nat×O7×LI) [(7,7),(11,11),(13,13),(26,80)] (λz=>[(7,z.2.1),(11,sS z.1)]) (λz w'=>z.1<=z.2.2.length/\VcI bm w z.2.1 z.2.2 w'/\Ux n l z.2.2/\bfs (VW V.o V.un only) V.a.ed (l.length+n - z.1) z.1 z.2.2=R) (λz=>l.length+n+1 - z.1) (0,v1,l) oy ⟨Lp _,⟨gs,h8,hN,hM⟩,Ux.zero _ _,hR⟩ ?_;rintro⟨i,vi,m⟩ g w4 ⟨hi,U,hv,hf⟩;simp only[]at hi U hv hf;have kw:=hv.len;have hO:=hv.all hb;have hP:Qu [] ↑w4 vi m:=Qh.ints U.o oa oe;refine Qd<|Ql<|Qa<|QG hP Z<|ZT Z Z<|xe<|Zp Z (λhA=>?_) (λhA=>?_)
  ·refine Qt ?_;have gv:¬i<m.length:=by have hh:¬(i:Int)<(m.length:Int):=hA;omega
   rw[Qec gv]at hf;have hw:=Qi U.o;refine Ql<|Qw<|(Kn U.o oa).S ?_;rintro _ w5 ⟨gx,gy⟩;refine xe<|Ql<|Qw<|(QoU gy (by rw[List.length_mergeSort];omega) (Qdp m)).S ?_;rintro v6 w6 ⟨hB,l',gz,g0,g2⟩;refine Qb<|Qk ⟨[v6],Lb,(U.st.Z gx λb hb=>.inr (hw b hb).1).Z hB λb hb=>.inr (hw b hb).1,?_⟩;rw[<-hf,<-Qjs gz (λx=>(g0 x).D (Nl m _).mem_iff) hO];exact g2
  have G:i<m.length:=by have hh:(i:Int)<(m.length:Int):=hA;omega
  have hy:=hO _ (XH G);have g3:l.length+n - i=(l.length+n - (i+1))+1:=oa
  rw[g3,bfs,OZ G]at hf;have hQ:=Zo G;refine Zg (xh m i) λs hs=>?_;rw[hs]at hy hf hQ;have hS:s=(s.toNat:Int):=oa
  have hT:s.toNat<n:=oa
  have hE:=hK s.toNat hT;have kx:=Yg V.a.ed s;have g4:QK V.a.ed (s.toNat:Nat)=QK V.a.ed s:=by rw[<-hS]
  rw[g4]at hE;have g5:s.toNat<(oM n).length:=by rw[Mg];exact hT
  refine Qf<|Qd<|Qn<|Qd<|ZK [] (Xj 0 12 [])<|p Qx<|p (YT Z)<|p (QH Z)<|pq (λ_ hc=>Qj ((h.blk.I U.st).I hc) Z Z)<|p Qx<|p Qx<|Lg.pii (i:=i) Z hP Z Z G λkz hU=>?_;rw[hQ]at hU;refine pq (λ_ hc=>Qq (hU.I hc) Z)<|Lg.pig (g:=λj:Nat=>[rv j]) (i:=s.toNat) Z (λ_=>Z) (hJ.I U.st) Z (show Go.Lg.ev _ _=_ from O0 sS hS) g5 λk0 hV=>?_;rw[Mx]at hV;refine pq (λ_ hc=>Qq (u:=rv s.toNat) (hV.I hc) Z)<|p (λ_=>Y4 hE Z)<|p Qx<|pe ?_;have g6:sW w4 { w4 with drawn:=w4.drawn+1 }:=xd.Y _ _
  refine QY (α:=Nat×O7×LI) [(7,7),(13,13),(43,80)] (λz=>[(7,z.2.1),(43,sS z.1)]) (λz w'=>z.1<=(QK V.a.ed s).length/\VcI bm w z.2.1 z.2.2 w'/\Ux n l z.2.2/\m.length<=z.2.2.length/\((QK V.a.ed s).drop z.1).foldl (jG (VW V.o V.un only)) z.2.2=(QK V.a.ed s).foldl (jG (VW V.o V.un only)) m) (λz=>(QK V.a.ed s).length - z.1) (0,vi,m) oy ⟨Lp _,U.I g6,hv,Lr _,Z⟩ ?_;rintro⟨j,vj,lj⟩ g w5 ⟨hj,ho,hp,hC,J⟩;simp only[]at hj ho hp hC J;have k4:=hp.len;refine Zk Z Z (λhD=>?_) (λhD=>?_)
  ·refine Qt ?_;have g7:(QK V.a.ed s).length<=j:=by have hh:¬(j:Int)<((QK V.a.ed s).length:Int):=hD;omega
   rw[Lx g7]at J;have g8:lj=(QK V.a.ed s).foldl (jG (VW V.o V.un only)) m:=J;rw[<-g8]at hf;refine Qr<|Qa<|QC Z Z<|Qb<|⟨(i+1,vj,lj),by show l.length+n+1 - (i+1)<l.length+n+1 - i;omega,oy,by show i+1<=lj.length;omega,ho,hp,hf⟩
  have hg:j<(QK V.a.ed s).length:=by have hh:(j:Int)<((QK V.a.ed s).length:Int):=hD;omega
  have g9:=Zy (Lm hg);have hW:=gm _ g9.1;rw[QZ hg,LP]at J;refine Zg ((QK V.a.ed s)[j]'hg) λe he=>?_;rw[he]at hW J;refine Qf<|Qd<|Qn<|Qc<|xie (hE.I ho.st) Z Z hg λk5 hX=>?_;rw[he]at hX;refine x (QF hX Z Z)<|QV [sS 0,sS 0,sS 0] λka w6 hB hY kb=>Q6 (Qp e) kb oz λO kc hz=>xe ?_;have ke:sW w5 O:=hB.O kc hY;have hF:=ho.I ke;have h7:=h.I hF.st;refine QX (α:=Unit) [(47,71)] (λ_=>[(71,.bool (decide (VW V.o V.un only e=true/\e.2.2∉lj)))]) (λ_ w'=>sW O w') ol ?_ ?_
  ·refine ZK [] (Xj 0 25 [3,22]) ?_;have Y:sW O { O with drawn:=O.drawn+1 }:=xd.Y _ _
   refine p Qx<|p (QH Z)<|pq (λ_ hc=>Qj (hz.I hc) Z Z)<|pk<|xg<|(zZ (w:={ O with drawn:=O.drawn+1 }) (h7.I Y) e.2.1).S ?_
   rintro _ w8 ⟨rfl,rfl⟩;refine⟨Y,?_⟩;refine pB (λ_=>Zi Z) (λhq=>?_) (λhq=>?_)
   ·refine p Qx<|p Qx<|p (QH Z)<|pq (λ_ hc=>Qj (hz.I hc) Z Z)<|pq (λ_ hc=>Qbt (hF.m.I hc) Z Z)<|pB (λ_=>Zi Z) (λhG=>?_) (λhG=>?_)
    ·have hZ:=VK hG;refine p (YS Z)<|p Qx<|p Qx<|pB (λ_=>Zi Z) (λh0=>?_) (λh0=>?_)
     ·refine p Qx<|ps<|ps<|ps<|ps<|ps<|ps<|ps<|p (YS Z)<|p (YS Z)<|pe ?_;exact⟨(),⟨O0 Value.bool (bT ⟨Qqc hq h0,hZ⟩),La⟩,Y⟩
     refine p Qx<|p Qx<|p (YT Z)<|p (QH Z)<|pq (λ_ hc=>Qj (h7.blk.I hc) Z Z)<|p (QH Z) <|
      pq (λ_ hc=>Qj (hz.I hc) Z Z)<|pk<|xg<|(ZG (w:={ O with drawn:=O.drawn+1 }) (h7.u.I Y) e.2.1).S ?_
     rintro _ w9 ⟨rfl,rfl⟩;refine⟨Y,?_⟩;refine p (YS Z)<|p (YS Z)<|pe ?_;exact⟨(),⟨O0 Value.bool (bD ⟨λhu=>⟨(Qkc hq h0).D (O2 hu),hZ⟩,λhu=>O3 ((Qkc hq h0).symm.D hu.1)⟩),La⟩,Y⟩
    refine p (YS Z)<|p Qx<|ps<|ps<|ps<|ps<|ps<|ps<|ps<|ps<|ps<|ps<|ps<|p (YS Z)<|pe ?_;exact⟨(),⟨O0 Value.bool (bF λhu=>hu.2 (Kw hG)),La⟩,Y⟩
   refine p Qx<|ps<|ps<|ps<|ps<|ps<|p (YS Z)<|p Qx<|ps<|ps<|ps<|ps<|ps<|ps<|ps<|ps<|ps<|ps<|ps<|p (YS Z)<|pe ?_;exact⟨(),⟨O0 Value.bool (bF λhu=>M0 ((Qqd hq).symm.D hu.1)),La⟩,Y⟩
  rintro _ g w8 ga;have ha:=hF.I ga;have gb:=hp.edge (VW V.o V.un only) (e:=e) ⟨hW.2.2.2.1,oa⟩;have gc:lj.length<=(jG (VW V.o V.un only) lj e).length:=by unfold jG;split <;> simp
  have h3:jG (VW V.o V.un only) lj e=if VW V.o V.un only e=true/\e.2.2∉lj then lj++[e.2.2]else lj:=rfl
  refine Zp Z (λhH=>?_) (λhH=>?_)
  ·rw[OY hH]at h3;rw[h3]at J;refine Qf<|Qr<|QC Z Z<|Qa<|xe ?_;exact⟨(j+1,vj,lj),by show(QK V.a.ed s).length - (j+1)<(QK V.a.ed s).length - j;omega,oy,hg,ha,hp,hC,J⟩
  rw[OZ hH]at h3;rw[h3]at J gb gc;have ge:=hz.I ga;have hw:=Qi ha.o;refine Ql<|Qs Z ge Z Z<|Qo<|yI (k:=e.2.2) ha.m Z Z Z λw9 hI gg=>xe ?_;have kf:ka∉[bm]:=λI=>by
   have:=ho.m.lt;rw[Lc.1 I]at hY;omega
  have kg:=Qg ha.o hI λb hb I=>ha.nm (Lc.1 I ▸ hb);have gh:sW w w9:=ha.st.O hI oa;refine Qr<|Qa<|Qs Z (ge.J hI kf) Z Z<|Qo<|Q3 [[sS e.2.2]] λk6 wa hr k9 kh =>
   Qo<|Q0 (m:=1) (news:=[sS e.2.2]) (L:=[]) (Qm kg hr) Z Z Z (kh.at oe) oo oa (ou hr.size gh.size) λvb wb ki hy kj=>Qb ?_
  have ma:=hr.size;have mc:=gg.lt;refine Qr<|QC Z Z<|Qa<|xe<|⟨(j+1,vb,lj++[e.2.2]),by show(QK V.a.ed s).length - (j+1)<(QK V.a.ed s).length - j;omega,oy,hg,⟨(gh.D hr).Z hy λb hb=>.inr (hw b hb).1,(gg.I hr).J hy ha.nm,Qh.snoc ki,λI=>?_⟩,gb,LA hC gc,J⟩;rcases kj _ I with h1|h1
  ·exact ha.nm h1
  omega
 have G:k<l.length:=by have hh:(k:Int)<(l.length:Int):=h9;omega
 have gi:l.take (k+1)=l.take k++[l[k]'G]:=Ln G;refine Qf<|Qd<|Qn<|Qc<|xii (i:=k) gt Z Z G λmf gj=>?_;refine Zg (l[k]'G) λs hs=>?_;rw[hs]at gj gi;refine x (Qq gj Z)<|Qb<|Qr<|Qa<|Qa<|Qo<|yI (k:=s) h8 Z Z Z λw4 kk kn=>xe ?_;refine Qr<|QC Z Z<|Qa<|xe ?_;exact⟨k+1,by show l.length - (k+1)<l.length - k;omega,Lb,G,h6.Q kk,by rw[gi];exact kn⟩
theorem qp {V:VwV}(h:VwA ↑w V)(hE:Qu [] ↑w ve est)(h5:∀x∈est,0<=x/\x<V.a.st)(hP:est.length<=9)(h6:V.a.ed.length<=1000)(v:Int):
  QT sV 136 [.pointer (some ⟨V.b,0,none⟩),ve,sS v] w λr w'=>sW w w'/\Qh 3 ↑w w' r (vnx V.a V.o V.un est v):=by
 have hok:=h.ok;have hQ:=hok.st0;obtain⟨n,hn⟩:∃n:Nat,V.a.st.toNat=n:=⟨_,Z⟩;have hR:V.a.st=(n:Int):=oa
 obtain⟨rv,hr,hu⟩:=h.r;rw[hn]at hr hu;have h7:∀k,k<=est.length->(hop V.a.ed (est.take k) v).length<=9000:=λk hk=>by
  have h1:=QbZ V.a.ed v (est.take k);have h2:(est.take k).length<=9:=by rw[LH];omega
  have h3:(est.take k).length*V.a.ed.length<=9*1000:=Nj h2 h6;omega
 refine Zn func136 ?_;refine Qc<|Qb<|Qc<|Qb<|Qd<|Ql<|QG hE Z<|Qa<|xe<|QY (α:=Nat×O7) [(7,7),(9,9),(11,11),(14,40)] (λz=>[(7,z.2),(14,sS z.1)]) (λz w'=>z.1<=est.length/\sW w w'/\Qh 3 ↑w w' z.2 (hop V.a.ed (est.take z.1) v)) (λz=>est.length - z.1) (0,ZY) oy ⟨Lp _,xd.C _ _,QM _ _ _ _⟩ ?_;rintro⟨k,vl⟩ g w2 ⟨hk,G,hf⟩;simp only[]at hk hf;have h8:=h7 k hk;refine Zk rfl Z (λhg=>?_) (λhg=>?_)
 ·refine Qt ?_;have h9:est.length<=k:=by have hh:¬(k:Int)<(est.length:Int):=hg;omega
  rw[Ls h9]at hf h8;have hL:=Qh.ints (L:=[]) hf oa oe;refine Ql<|Qa<|Qw<|(Ve (only:=false) (h.I G) hL (Qla hok est v) oa).S ?_;rintro r3 w3 ⟨hA,hB⟩;refine Qb<|Qk ⟨[_],Lb,G.D hA,Za hB G.size⟩
 have J:k<est.length:=by have hh:(k:Int)<(est.length:Int):=hg;omega
 have hv:=Qdw (ed:=V.a.ed) v J;have hC:=h5 _ (Lm J);refine Qf<|Qd<|Qn<|Qc<|xii (i:=k) (hE.I G) Z Z J λhS hw=>?_;refine Zg (est[k]'J) λs hs=>?_;rw[hs]at hw hv hC;have hD:s=(s.toNat:Int):=oa
 have hy:s.toNat<n:=oa
 have hm:=hu s.toNat hy;rw[show((s.toNat:Nat):Int)=s by omega]at hm;have hF:s.toNat<(oM n).length:=by rw[Mg];exact hy
 have hT:=Yg V.a.ed s;refine x (Qq hw Z)<|Qb<|Ql<|Z8 Z<|Qs Z (h.blk.I G) Z Z<|Qa<|xo (g:=λj:Nat=>[rv j]) (i:=s.toNat) (λ_=>Z) (hr.I G) Z (O0 sS hD) hF λhU hz=>?_;rw[Mx]at hz;refine x (Qq (u:=rv s.toNat) hz Z)<|QG hm Z<|Qa<|xe<|QY (α:=Nat×O7) [(7,7),(11,11),(26,39)] (λz=>[(7,z.2),(26,sS z.1)]) (λz w'=>z.1<=(QK V.a.ed s).length/\sW w w'/\Qh 3 ↑w w' z.2 (hop V.a.ed (est.take k) v++(((QK V.a.ed s).take z.1).filter λe=>decide (e.2.1=v)).map (·.2.2))) (λz=>(QK V.a.ed s).length - z.1) (0,vl) oy ⟨Lp _,G,by simp only[List.take_zero,List.filter_nil,OI,Oq];exact hf⟩ ?_;rintro⟨j,vj⟩ g w4 ⟨hj,O,I⟩;simp only[]at hj I;refine Zk rfl Z (λho=>?_) (λho=>?_)
 ·refine Qt ?_;have hG:(QK V.a.ed s).length<=j:=by have hh:¬(j:Int)<((QK V.a.ed s).length:Int):=ho;omega
  rw[Ls hG,<-hv]at I;refine Qr<|QC Z Z<|Qa<|xe ?_;exact⟨(k+1,vj),by show est.length - (k+1)<est.length - k;omega,oy,J,O,I⟩
 have U:j<(QK V.a.ed s).length:=by have hh:(j:Int)<((QK V.a.ed s).length:Int):=ho;omega
 have Y:=QaR v U;have hV:(hop V.a.ed (est.take k) v++(((QK V.a.ed s).take j).filter λe=>decide (e.2.1=v)).map (·.2.2)).length<=10000:=by
  rw[Le,Lo];have h1:=LO (λe:Ed=>decide (e.2.1=v)) ((QK V.a.ed s).take j);rw[LH]at h1;omega
 refine Zg ((QK V.a.ed s)[j]'U) λe he=>?_;rw[he]at Y;refine Qf<|Qd<|Qn<|Qc<|xie (hm.I O) Z Z U λhW h0=>?_;rw[he]at h0;refine x (QF h0 Z Z)<|QV [sS 0,sS 0,sS 0] λb11 w5 hH hI hJ=>Q6 (Qp e) hJ oz λw6 hK h4=>xe ?_;have ha:sW w4 w6:=hH.O hK hI;have hX:=O.size;have hY:=ha.size;refine Qc<|Qs Z h4 Z Z<|Qa<|x (Zc Z Z)<|xe<|Zp rfl (λhp=>?_) (λhp=>?_)
 ·rw[OY hp,LK]at Y;refine Qf<|Qr<|QC Z Z<|Qa<|xe ?_;exact⟨(j+1,vj),by show(QK V.a.ed s).length - (j+1)<(QK V.a.ed s).length - j;omega,oy,U,O.D ha,by simp only[];rw[Y];exact Qm I ha⟩
 rw[OZ hp]at Y;refine Qr<|Qa<|Qs Z h4 Z Z<|Qo<|Q3 [[sS e.2.2]] λhZ w7 hq ga hM =>
  Qo<|Q0 (m:=1) (news:=[sS e.2.2]) (L:=[]) (Qm I (ha.D hq)) Z Z Z (hM.at oe) oo oa (oq hq.size) λv8 w8 hN hO gb=>Qb<|Qr<|QC Z Z<|Qa<|xe ?_
 refine⟨(j+1,v8),by show(QK V.a.ed s).length - (j+1)<(QK V.a.ed s).length - j;omega,oy,U,((O.D ha).D hq).Z hO λb hb=>.inr (Qi I b hb).1,?_⟩;simp only[];rw[Y,<-LC];exact Qh.snoc hN
def QkP (x y:LI):List UInt8:=(YZ x++[59])++(YZ y++[59])
abbrev koA (x y:LI):ByteArray:=⟨(QkP x y).toArray⟩
theorem QlP (u:Nat):(59:UInt8)∉Lib.decDigits u:=by
 induction u using Nat.strongRecOn with
 | _ u ih =>
  unfold Lib.decDigits;split
  ·intro h;simp only[oH]at h;have:=O0 UInt8.toNat h;rw[XC oa]at this;have G:(59:UInt8).toNat=59:=rfl;omega
  intro h;rcases Lk.1 h with h|h
  ·exact ih _ oa h
  simp only[oH]at h;have:=O0 UInt8.toNat h;rw[XC oa]at this;have G:(59:UInt8).toNat=59:=rfl;omega
theorem VL (l:LI):(59:UInt8)∉YZ l:=by
 intro h;obtain⟨n,_,h⟩:=Mh.1 h;rcases Lk.1 h with h|h
 ·exact QlP _ h
 exact O1 (Lc.1 h) oh
theorem Qbm:∀{a b r r':List UInt8},(59:UInt8)∉a->(59:UInt8)∉b->a++59::r=b++59::r'->a=b/\r=r'
 | [],[],_,_,_,_,h=>ox h
 | [],y::b,_,_,_,hb,h=>by simp at h;exact O1 h.1 (by intro e;exact hb (by simp[e]))
 | x::a,[],_,_,G,_,h=>by simp at h;exact O1 h.1 (by intro e;exact G (by simp[e]))
 | x::a,y::b,_,_,G,hb,h=>by
  simp only[Og,List.cons.injEq]at h;have:=Qbm (λe=>G (Lh _ e)) (λe=>hb (Lh _ e)) h.2;exact⟨by rw[h.1,this.1],this.2⟩
theorem Qod {x y G I:LI}(h1:∀n∈x,0<=n)(h2:∀n∈y,0<=n)(J:∀n∈G,0<=n)(O:∀n∈I,0<=n)(h:koA x y=koA G I):x=G/\y=I:=by
 have e:QkP x y=QkP G I:=by
  have:=O0 (λb:ByteArray=>b.data.toList) h;simpa using this
 unfold QkP at e;rw[LC,LC]at e;obtain⟨e1,e2⟩:=Qbm (VL x) (VL G) (ox e);obtain⟨U,_⟩:=Qbm (r:=[]) (r':=[]) (VL y) (VL I) e2;exact⟨UW h1 J e1,UW h2 O U⟩
def kO (lf:Nat->LI)(n:Nat):List UInt8:=(oM n).flatMap λi=>YZ (lf i)++[59]
theorem QbR (lf:Nat->LI)(n:Nat):kO lf (n+1)=kO lf n++(YZ (lf n)++[59]):=by
 unfold kO;rw[Nn,LJ,Nh]
theorem QkQ {m:Int}(I:m<=1000000){l:LI}(hb:∀n∈l,0<=n/\n<m):(YZ l).length<=8*l.length:=by
 induction l with
 | nil=>simp[YZ]
 | cons x l ih =>
  have h1:=ih λn G=>hb n (Lh _ G);have h2:=hb x Lj;have J:=KD 7 x.toNat oa;unfold YZ at *;rw[LR,Le,Le];simp only[oS,List.length_nil];omega
theorem Qif {l:LI}{k:Nat}(h:k<l.length):YZ (l.take (k+1))=YZ (l.take k)++Lib.decDigits (l[k]'h).toNat++[32]:=by
 rw[Ln h];unfold YZ;rw[LJ,Nh,LC]
theorem Qkj {v:O7}{rv:Nat->O7}{lf:Nat->LI}{m:Int}(hA:Zw [] ↑w v (oM n).length 1 ((oM n).flatMap λi=>[rv i]))(hE:∀i,Qu [] ↑w (rv i) (lf i))(hu:Kb w m)(hb:∀i,∀x∈lf i,0<=x/\x<m)(hl:∀i,(lf i).length<=1000)(hn:n<=1000):
  QT sV 133 [v] w λr w'=>r=.string ⟨(kO lf n).toArray⟩/\sW w w':=by
 have hm:=hu.le;refine Zn func133 ?_;refine Qc<|Qb<|Qc<|QV [.pointer none,nS] λG w1 hz O h0=>xe ?_;refine Qd<|Ql<|QG hA Z<|Qa<|xe<|QY (α:=Nat×O7) [(5,5),(7,7),(10,26)] (λz=>[(10,sS z.1)]) (λz w'=>z.1<=n/\sW w w'/\(z.2=.pointer none\/z.2=me G)/\Bl z.2 G (kO lf z.1) w'/\(kO lf z.1).length<=8001*z.1) (λz=>n - z.1) (0,.pointer none) Lb
  ⟨Lp _,hz,.inl Z,⟨_,h0,QM _ _ _ _⟩,Lr _⟩ ?_
 rintro⟨k,p⟩ g w2 ⟨hk,ha,hp,U,h3⟩;simp only[]at hk hp U h3;refine Zk rfl Z (λhe=>?_) (λhe=>?_)
 ·refine Qt<|Qc ?_;have h4:k=n:=by have I:¬(k:Int)<((oM n).length:Int):=he;rw[Mg]at I;omega
  rw[h4]at U;refine Qw<|(VG ha O hp U).S ?_;rintro r3 w3 ⟨rfl,h5⟩;refine Qb<|Qk ⟨[_],Lb,Z,h5⟩
 have hf:k<(oM n).length:=by have I:(k:Int)<((oM n).length:Int):=he;omega
 have h6:k<n:=by rw[Mg]at hf;exact hf
 have hg:=QbR lf k;have h7:=QkQ hm (hb k);have h8:=hl k;have hh:=hE k;have hv:=hb k;refine Zg (lf k) λl h9=>?_;rw[h9]at hg h7 h8 hh hv;refine Qf<|Qd<|Qn<|Qc<|xo (g:=λj:Nat=>[rv j]) (i:=k) (λ_=>Z) (hA.I ha) Z Z hf λhN hw=>?_;rw[Mx]at hw;refine x (Qq (u:=rv k) hw Z)<|Qb<|Qd<|Ql<|QG hh Z<|Qa<|xe<|QY (α:=Nat×O7) [(7,7),(16,24)] (λz=>[(16,sS z.1)]) (λz w'=>z.1<=l.length/\sW w w'/\(z.2=.pointer none\/z.2=me G)/\Bl z.2 G (kO lf k++YZ (l.take z.1)) w'/\(YZ (l.take z.1)).length<=8*z.1) (λz=>l.length - z.1) (0,p) Lb
  ⟨Lp _,ha,hp,by show Bl p G (kO lf k++YZ []) w2;rw[show YZ []=[] from rfl,LK];exact U,Lr _⟩ ?_
 rintro⟨j,q⟩ g w4 ⟨hj,V,hq,Y,hB⟩;simp only[]at hj hq Y hB;refine Zk rfl Z (λho=>?_) (λho=>?_)
 ·refine Qt ?_;have hC:l.length<=j:=by have I:¬(j:Int)<(l.length:Int):=ho;omega
  rw[Ls hC]at Y;refine Qr<|Qw<|(KN V O hq Y 59 (by rw[Le];omega)).S ?_;rintro r5 w5 ⟨hD,hF⟩;refine xe<|Qr<|QC Z Z<|Qa<|xe<|⟨(k+1,me G),by show n - (k+1)<n - k;omega,Lb,h6,hD,.inr Z,?_,?_⟩
  ·simp only[];rw[hg,<-LC];exact hF
  simp only[];rw[hg,Le,Le,Lz];omega
 have J:j<l.length:=by have I:(j:Int)<(l.length:Int):=ho;omega
 have hG:=hv _ (Lm J);have hr:=Qif J;refine Qf<|Qd<|Qn<|Qc<|xii (i:=j) (hh.I V) Z Z J λhO I=>?_;refine Zg (l[j]'J) λs hs=>?_;rw[hs]at I hr hG;have hH:s=(s.toNat:Int):=oa
 have hP:=KD 7 s.toNat oa;refine x (Qq I Z)<|Qb<|Qc ?_;have hI:=QbW s.toNat oa w4 (hu.I V);rw[<-hH]at hI;refine Qa<|Qw<|hI.S ?_;rintro r6 w6 ⟨rfl,hy⟩;refine Qw<|(JF (V.D hy) O hq (Y.I hy) (⟨(Lib.decDigits s.toNat).toArray⟩:ByteArray) (by show _+(Lib.decDigits s.toNat).toArray.size<=_;rw[Le,L3];omega)).S ?_;rintro r7 w7 ⟨hJ,hK⟩;refine xe<|Qr<|Qw<|(KN hJ O (.inr Z) hK 32 (by rw[Le,Le];show _+_+(Lib.decDigits s.toNat).length+1<=_;omega)).S ?_;rintro r8 w8 ⟨hL,hM⟩;refine xe<|Qr<|QC Z Z<|Qa<|xe<|⟨(j+1,me G),by show l.length - (j+1)<l.length - j;omega,Lb,J,hL,.inr Z,?_,?_⟩
 ·simp only[];rw[hr,<-LC,<-LC];exact hM
 simp only[];rw[hr,Le,Le,Lz];omega
theorem kO2 (x y:LI):kO (λi=>if i=0 then x else y) 2=QkP x y:=by
 rw[QbR,QbR];rfl
theorem UO {v vy:O7}{x y:LI}{m:Int}(hA:Zw [] ↑w v 2 1 [vx,vy])(hx:Qu [] ↑w vx x)(I:Qu [] ↑w vy y)(G:Kb w m)(J:∀n∈x,0<=n/\n<m)(O:∀n∈y,0<=n/\n<m)(U:x.length<=1000)(V:y.length<=1000):
  QT sV 133 [v] w λr w'=>r=.string (koA x y)/\sW w w':=by
 have:=Qkj (n:=2) (rv:=λi=>if i=0 then vx else vy) (lf:=λi=>if i=0 then x else y) (w:=w) (v:=v) hA (λi=>by by_cases e:i=0 <;> simp only[e,if_true,if_false] <;> assumption) G (λi=>by by_cases e:i=0 <;> simp only[e,if_true,if_false] <;> assumption) (λi=>by by_cases e:i=0 <;> simp only[e,if_true,if_false] <;> assumption) oa
 rw[kO2]at this;exact this
theorem yF {v:O7}{b:Nat}(h:b∈ob v):b∈ow v:=by
 cases v with
 | slice a _ _=>cases a <;> exact h
 | _=>cases h
theorem Qe0 {e:Nat}{v:O7}(h:w.ownsRow base e sz v n cs){b:Nat}(hb:b∈ow v):b∈ob v:=by
 rcases h.2 with⟨rfl,_⟩|⟨g,cp,cur,rfl,_⟩
 ·cases hb
 exact hb
theorem Jh {e:Nat}{v:O7}(h:w.ownsRow base e sz v n cs)(b:Nat)(hb:b∈ow v):base<=b/\b<w.heap.size:=Qi h b (Qe0 h hb)
theorem Uj {e b:Nat}{v:O7}(h:w.ownsRow base e sz v n cs)(G:QN ↑w b T us)(hT:T≠e):b∉ob v:=by
 intro I;rcases h.2 with⟨rfl,_⟩|⟨g,cap,cur,rfl,_,J,_⟩
 ·cases I
 have e1:b=g:=Lc.1 I;subst e1;unfold QN at G;rw[G]at J;injection J with h1
 injection h1 with h2 h3
 exact hT h3
def Pts (L:LN)(H:xG):List (O7×LI)->Prop
 | []=>True
 | r::l=>Qu L H r.1 r.2/\Pts L H l
theorem Pts.I {L:LN}{w w':O6}(G:sW w w'):∀{l:List (O7×LI)},Pts L ↑w l->Pts L ↑w' l
 | [],_=>trivial
 | _::_,h=>⟨h.1.I G,Pts.I G h.2⟩
theorem Pts.J {L X:LN}{w w':O6}(G:xd X w w')(hX:∀b∈X,b∈L):∀{l:List (O7×LI)},Pts L ↑w l->Pts L ↑w' l
 | [],_=>trivial
 | _::_,h=>⟨Zw.J h.1 G hX,Pts.J G hX h.2⟩
theorem Pts.grow {X X' Y:LN}{w w':O6}(G:xd Y w w')(I:∀b∈Y,b∈X)(hX:∀b∈X',b∈X\/↑w<=b):∀{l:List (O7×LI)},Pts X ↑w l->Pts X' ↑w' l
 | [],_=>trivial
 | _::_,h=>⟨Zw.grow h.1 G I hX,Pts.grow G I hX h.2⟩
abbrev Yu (N:Nat)(H:xG)(v:O7)(l:LI):Prop:=∀L:LN,(∀b∈L,b<N)->Qu L H v l
theorem Yu.nil (N:Nat)(H:xG):Yu N H (nS) []:=λ_ _=>Zw.nil _ _ _
theorem Yu.S {M:Nat}{H:xG}{v:O7}{l:LI}(h:Yu N H v l)(G:M<=N):Yu M H v l:=λL I=>h L λb hb=>LX (I b hb) G
theorem Yu.ints {H:xG}{v:O7}{l:LI}(h:Yu N H v l):Qu [] H v l:=h [] λ_ hb=>by cases hb
structure QI {α κ:Type}(T sz:Nat)(cel:α->LV)(enc:κ->O7)(key:α->κ)(pts ptn:α->List (O7×LI))(bm:Nat)(w0:O6)(vl:O7)(q:List α)(w:O6):Prop where
 st:sW w0 w
 o:w.ownsRow ↑w0 T sz vl q.length (q.flatMap cel)
 e:∀p∈q,Pts (bm::ob vl) ↑w (pts p)/\∀L:LN,(∀b∈L,b<↑w0)->Pts (L++bm::ob vl) ↑w (ptn p)
 m:X1 enc ↑w bm (q.map key)
 nm:bm∉ob vl
 hb:↑w0<=bm
section
variable {κ:Type}{cel:α->LV}{enc:κ->O7}{key:α->κ}{pts ptn:α->List (O7×LI)}{bm:Nat}{w0 w1 w2 w3:O6}{vl vl':O7}{q:List α}{p:α}
theorem QI.I (h:QI T sz cel enc key pts ptn bm w0 vl q w)(G:sW w w'):QI T sz cel enc key pts ptn bm w0 vl q w' :=
 ⟨h.st.D G,Qm h.o G,λp I=>⟨(h.e p I).1.I G,λL J=>((h.e p I).2 L J).I G⟩,h.m.I G,h.nm,h.hb⟩
theorem QI.lt (h:QI T sz cel enc key pts ptn bm w0 vl q w):∀b∈bm::ob vl,b<w.heap.size:=λb hb=>by
 rcases Ll.1 hb with rfl|hb
 ·exact h.m.lt
 exact QW h.o b hb
theorem Qbx {vl vl':O7}(G:∀b∈ob vl',b∈ob vl\/N<=b):∀b∈bm::ob vl',b∈bm::ob vl\/N<=b:=λb hb=>by
 rcases Ll.1 hb with rfl|hb
 ·exact .inl Lj
 exact(G b hb).imp (Lh _) id
theorem Qbw (L:LN){vl vl':O7}(G:∀b∈ob vl',b∈ob vl\/N<=b):∀b∈L++bm::ob vl',b∈L++bm::ob vl\/N<=b:=λb hb=>by
 rcases Lk.1 hb with hb|hb
 ·exact .inl (Lk.2 (.inl hb))
 exact(Qbx G b hb).imp (λh=>Lk.2 (.inr h)) id
theorem QI.add (h:QI T sz cel enc key pts ptn bm w0 vl q w)(J:xd [bm] w w1)(hm:X1 enc ↑w1 bm (q.map key++[key p]))(I:sW w1 w2)(O:xd (ob vl) w2 w3)(ho:w3.ownsRow ↑w0 T sz vl' (q.length+1) (q.flatMap cel++cel p))
  (V:∀b∈ob vl',b∈ob vl\/↑w2<=b) (Y:Pts (bm::ob vl) ↑w (pts p)/\∀L:LN,(∀b∈L,b<↑w0)->Pts (L++bm::ob vl) ↑w (ptn p)):QI T sz cel enc key pts ptn bm w0 vl' (q++[p]) w3:=by
 have he:=J.size;have hf:=I.size;have hg:=h.m.lt;have k:∀(L:LN) {l:List (O7×LI)},Pts (L++bm::ob vl) ↑w l->Pts (L++bm::ob vl') ↑w3 l:=λL {l} hv =>
  ((hv.J J λb hb=>Lk.2 (.inr (Ll.2 (.inl (Lc.1 hb))))).I I).grow O (λb hb=>Lk.2 (.inr (Lh _ hb))) (Qbw L V)
 refine⟨((h.st.Z J λb hb=>.inr (by rw[Lc.1 hb];exact h.hb)).D I).Z O λb hb=>.inr (Qi h.o b hb).1,?_,λp' G=>?_,?_,λha=>?_,h.hb⟩
 ·rw[LJ,Nh,Le,Lz];exact ho
 ·rcases Lk.1 G with G|G
  ·exact⟨k [] (h.e p' G).1,λL U=>k L ((h.e p' G).2 L U)⟩
  rw[Lc.1 G];exact⟨k [] Y.1,λL U=>k L (Y.2 L U)⟩
 ·rw[Lv];exact(hm.I I).J O h.nm
 rcases V _ ha with h1|h1
 ·exact h.nm h1
 omega
end
theorem yC (L:List (LI×LI))(hd:L.Nodup)(h:∀p∈L,Ss n p.1/\Ss n p.2):L.length<=2 ^ (n+n):=by
 have fil:∀r∈L,∀x,x∈r.1↔x∈(r.1++r.2.map (·+(n:Int)))/\x<(n:Int):=λr I x=>by
  constructor
  ·intro hx;exact⟨Lk.2 (.inl hx),((h r I).1.2 x hx).2⟩
  rintro⟨hx,hf⟩;rcases Lk.1 hx with hx|hx
  ·exact hx
  obtain⟨y,J,rfl⟩:=Lt.1 hx;have:=(h r I).2.2 y J;omega
 have fir:∀r∈L,∀x,x∈r.2↔0<=x/\x+(n:Int)∈(r.1++r.2.map (·+(n:Int))):=λr I x=>by
  constructor
  ·intro hx;exact⟨((h r I).2.2 x hx).1,Lk.2 (.inr (Lt.2 ⟨x,hx,Z⟩))⟩
  rintro⟨h0,hx⟩;rcases Lk.1 hx with hx|hx
  ·have:=(h r I).1.2 _ hx;omega
  obtain⟨y,J,e⟩:=Lt.1 hx;have:y=x:=oa
  exact this ▸ J
 have Y:∀p∈L,∀q∈L,p.1++p.2.map (·+(n:Int))=q.1++q.2.map (·+(n:Int))->p=q:=λp G q O e=>by
  have e1:p.1=q.1:=KW (h p G).1.1 (h q O).1.1 λx=>by rw[fil p G,fil q O,e]
  have e2:p.2=q.2:=KW (h p G).2.1 (h q O).2.1 λx=>by rw[fir p G,fir q O,e]
  exact Prod.ext e1 e2
 have:=zP (n+n) (L.map λp=>p.1++p.2.map (·+(n:Int))) (by
  unfold List.Nodup;rw[Mj];exact hd.imp_of_mem λ{a b} ha hb he e=>he (Y a ha b hb e)) λl hl=>by
  obtain⟨p,G,rfl⟩:=Lt.1 hl;obtain⟨⟨h1,h2⟩,h3,V⟩:=h p G;refine⟨?_,λx hx=>?_⟩
  ·unfold YD at *;rw[Mu];refine⟨h1,?_,λx hx y J=>?_⟩
   ·rw[Mj];exact h3.imp λh=>oa
   obtain⟨z,U,rfl⟩:=Lt.1 J;have:=h2 x hx;have:=V z U;omega
  rcases Lk.1 hx with hx|hx
  ·have:=h2 x hx;omega
  obtain⟨z,U,rfl⟩:=Lt.1 hx;have:=V z U;omega
 rwa [Lo]at this
theorem Vv:∀n:Nat,4 ^ n=2 ^ (n+n)
 | 0=>rfl
 | n+1=>by rw[OM,Vv n,show n+1+(n+1)=n+n+1+1 by omega,OM,OM];omega
theorem Qpo (h:n<=9):2 ^ (n+n)<=262144:=LA (Nt oh (show n+n<=18 by omega)) oh
theorem Ss.len {l:LI}(h:Ss n l):l.length<=n:=xM n l (h.1.imp λG e=>oa) h.2
structure DqP (n:Nat)(l:List Dq):Prop where
 s:∀d∈l,Ss n d.1/\Ss n d.2.1
 w:∀d∈l,d.2.2.length<=l.length
 d:(l.map λd=>(d.1,d.2.1)).Nodup
theorem DqP.le {l:List Dq}(h:DqP n l):l.length<=2 ^ (n+n):=by
 have:=yC _ h.d λp G=>by
  obtain⟨d,hd,rfl⟩:=Lt.1 G;exact h.s d hd
 rwa [Lo]at this
theorem VI {l:List Dq}{x y:LI}:Ko l x y=true↔(x,y)∈l.map λd=>(d.1,d.2.1):=by
 unfold Ko;rw[MH,Lt];exact⟨λ⟨d,h1,h2⟩=>⟨d,h1,by have:=O3 h2;rw[this.1,this.2]⟩,λ⟨d,h1,h2⟩=>⟨d,h1,O2 (by cases h2;exact⟨Z,Z⟩)⟩⟩
theorem DqP.add {l:List Dq}(h:DqP n l){x y w:LI}(hx:Ss n x)(G:Ss n y)(I:w.length<=l.length+1)(J:Ko l x y=false):DqP n (l++[(x,y,w)]):=by
 refine⟨λd hd=>?_,λd hd=>?_,?_⟩
 ·rcases Lk.1 hd with hd|hd
  ·exact h.s d hd
  rw[Lc.1 hd];exact⟨hx,G⟩
 ·rw[Le,Lz];rcases Lk.1 hd with hd|hd
  ·have:=h.w d hd;omega
  rw[Lc.1 hd];exact I
 rw[Lv,Ml];refine⟨h.d,oe,λa O b hb e=>?_⟩;rw[NA,Lc]at hb;have:=VI.2 (hb ▸ e ▸ O);rw[J]at this;cases this
theorem DqP.one {x y:LI}(hx:Ss n x)(G:Ss n y):DqP n [(x,y,[])]:=
 ⟨λd hd=>by rw[Lc.1 hd];exact⟨hx,G⟩,λd hd=>by rw[Lc.1 hd];exact Lp _,oe⟩
theorem qq (a:Qz)(o un l:LI)(v:Int):Ss a.st.toNat (vnx a o un l v):=qw _ _
theorem qa {bad:LI->LI->Bool}{f:Nat}{l:List Dq}(h:l.length<=i):dfL a o un bad f i l=none:=by
 cases f with
 | zero=>rfl
 | succ f=>rw[dfL,Mk h]
theorem jq {bad:LI->LI->Bool}{f:Nat}{l:List Dq}{x:Dq}(h:l[i]?=some x):dfL a o un bad (f+1) i l=if bad x.1 x.2.1=true then some x.2.2 else dfL a o un bad f (i+1) ((kpt a o).foldl (dfE a o un x) l):=by
 rw[dfL,h]
abbrev DqV:=Dq×O7×O7×O7
abbrev dqC (q:DqV):LV:=[q.2.1,q.2.2.1,q.2.2.2]
abbrev dqL (q:List DqV):List Dq:=q.map (·.1)
theorem Qgg {f:α->Dq}{q:List α}(h:DqP n (q.map f)){x y:LI}(hx:Ss n x)(O:Ss n y){i:Decidable (koA x y∈q.map λp=>koA (f p).1 (f p).2.1)}:(!@decide _ i)=!Ko (q.map f) x y:=by
 congr 1;have hi:(koA x y∈q.map λp=>koA (f p).1 (f p).2.1)↔Ko (q.map f) x y=true:=by
  rw[VI,MF,Lt,Lt];constructor
  ·rintro⟨p,I,e⟩;have J:=h.s (f p) (LL I);obtain⟨e1,e2⟩:=Qod (λz G=>(J.1.2 z G).1) (λz G=>(J.2.2 z G).1) (λz G=>(hx.2 z G).1) (λz G=>(O.2 z G).1) e;exact⟨p,I,by show((f p).1,(f p).2.1)=_;rw[e1,e2]⟩
  rintro⟨p,I,e⟩;have e':((f p).1,(f p).2.1)=(x,y):=e;injection e' with e1 e2
  exact⟨p,I,by rw[e1,e2]⟩
 cases hb:Ko (q.map f) x y with
 | true=>exact O2 (hi.2 hb)
 | false=>exact O4 λU=>by rw[hi.1 U]at hb;cases hb
abbrev dqP (p:DqV):List (O7×LI):=[(p.2.1,p.1.1),(p.2.2.1,p.1.2.1)]
abbrev dqN (p:DqV):List (O7×LI):=[(p.2.2.2,p.1.2.2)]
abbrev DqI:=QI 361 3 dqC XJ (λp:DqV=>koA p.1.1 p.1.2.1) dqP dqN
abbrev QgJ:LV:=[nS,nS,nS]
def dfP (N:Nat)(A B W:LI)(e:Int)(i:Nat)(v:O7)(w:O6):Prop :=
 if i=4 then Qh 3 N w v A else
 if i=9 then Qh 3 N w v B else
 if i=12 then Qh 3 N w v W else
 if i=14 then ∃b,v=sL b 1 1/\N<=b/\QN ↑w b 3 [sS e]else
 if i=15 then Qh 3 N w v (W++[e]) else
 if i=16 then ∃va vb vw,v=.agg #[va,vb,vw]/\Qh 3 N w va A/\Qh 3 N w vb B/\Qh 3 N w vw (W++[e]) else
 ∃b,v=sP b/\N<=b/\QN ↑w b 361 QgJ
theorem QlN {A B W:LI}{e:Int}(i:Nat)(v:O7)(own:LN)(w w':O6)(h:dfP N A B W e i v w)(G:xd own w w')(hb:∀b∈ow v,b∉own)(I:i∈[16]->own=[]):dfP N A B W e i v w':=by
 have k:∀{l:LI},Qh 3 N w v l->Qh 3 N w' v l:=λJ=>Qg J G λb O=>hb b (yF O);unfold dfP at *;by_cases e4:i=4
 ·rw[OZ e4]at *;exact k h
 rw[OY e4]at *;by_cases e9:i=9
 ·rw[OZ e9]at *;exact k h
 rw[OY e9]at *;by_cases e12:i=12
 ·rw[OZ e12]at *;exact k h
 rw[OY e12]at *;by_cases e14:i=14
 ·rw[OZ e14]at *;obtain⟨b,rfl,h1,h2⟩:=h;exact⟨b,rfl,h1,h2.J G (hb b Lj)⟩
 rw[OY e14]at *;by_cases e15:i=15
 ·rw[OZ e15]at *;exact k h
 rw[OY e15]at *;by_cases e16:i=16
 ·rw[OZ e16]at *;obtain⟨va,vb,vw,rfl,h1,h2,U⟩:=h;have:=I (by rw[e16];exact Lj);subst this;exact⟨va,vb,vw,Z,Qm h1 G,Qm h2 G,Qm U G⟩
 rw[OY e16]at *;obtain⟨b,rfl,h1,h2⟩:=h;exact⟨b,Z,h1,h2.J G (hb b Lj)⟩
theorem Qiq [Fu sV gp fn]{bad:LI->LI->Bool}{V:VwV}{A B:LI}(h:VwA ↑w V)(hA:Qu [] ↑w va A)(U:Qu [] ↑w vb B)(hV:Ss V.a.st.toNat A)(hX:Ss V.a.st.toNat B)(h9:V.a.st<=9)(ka:V.a.ed.length<=1000)
  (hk:∀(X Y:LI) (vx vy:O7) (W:O6),sW w W->Qu [] ↑W vx X->Qu [] ↑W vy Y->QT sV gp ([vx,vy]++cap) W λr w'=>r=.bool (bad X Y)/\sW W w'):
  QT sV 204 [.pointer (some ⟨V.b,0,none⟩),va,vb,.func (.func gp) #[] cap.toArray] w λr w'=>sW w w'/\∃vw,r=.tuple #[vw,.bool (dff V.a V.o V.un A B bad).isSome]/\Yu ↑w ↑w' vw ((dff V.a V.o V.un A B bad).getD []):=by
 have hok:=h.ok;have hst0:=hok.st0;obtain⟨n,hn⟩:∃n:Nat,V.a.st.toNat=n:=⟨_,Z⟩;have mj:n<=9:=oa
 have hna:V.a.st=(n:Int):=oa
 rw[hn]at hV hX;have hp18:=Qpo mj;have mo:dff V.a V.o V.un A B bad=dfL V.a V.o V.un bad (2 ^ (n+n)+1) 0 [(A,B,[])]:=by unfold dff;rw[hn,Vv]
 rw[mo];refine Zg (dfL V.a V.o V.un bad (2 ^ (n+n)+1) 0 [(A,B,[])]) λR hR=>?_;rw[hR];have hAl:=hV.len;have hBl:=hX.len;refine Zn func204 ?_;refine Qc<|x Qe<|Qb<|Ql<|Qa<|x (QD ⟨hA.cells,U.cells,La⟩)<|Qo<|Q3 [[va,vb,ZY]] λhY w1 mq ms kb=>Qb<|Qc<|Qo<|Z1 XJ λbm w2 mt hbm kc=>Qa<|Qa<|Qo<|Yj (us:=[[va],[vb]]) Z Z oh oe ⟨hA.cells,rfl,U.cells,rfl,La⟩ λb24 w3 ke hb24 mu=>?_;have h6:=mt.D ke;have gm:=mq.D h6;have hl20:=kb.lt;have hlm:=kc.lt;refine Vc<|(UO (m:=100) (mu.arr oe (n:=2) (cap:=2) (sz:=1) rfl oh (Lr _)) (hA.I gm) (U.I gm) (.inl (Ms _)) (λz hz=>oq (hV.2 z hz)) (λz hz=>oq (hX.2 z hz)) oa oa).S ?_;rintro _ w4 ⟨rfl,gn⟩;refine Qo<|QbF (k:=koA A B) (X1.zero ((kc.I ke).I gn)) Z Z Z λw5 kf mv=>Qa<|Qb ?_;have mw:=gm.D gn;have kg:sW w w5:=mw.O kf oa;have kh:∀{L:LN} {v:O7} {l:LI},(∀b∈L,↑w<=b)->Qu [] ↑w v l->Qu L ↑w5 v l:=λhL hv=>(hv.up λb hb=>.inr (hL b hb)).I kg;have my:DqI bm w (sL hY 1 1) [((A,B,[]),va,vb,ZY)] w5:=by
  have hL:∀b∈bm::ob (sL hY 1 1),↑w<=b:=λb hb=>by
   rcases Ll.1 hb with rfl|hb
   ·omega
   rw[Lc.1 hb];exact ms
  have ki:hY≠bm:=oa
  refine⟨kg,(((kb.I h6).I gn).J kf (by simp only[oH];exact ki)).own (n:=1) (sz:=3) Z oa oa,λp hp=>?_,mv,λI=>ki (Lc.1 I).symm,oa⟩;rw[Lc.1 hp];exact⟨⟨kh hL hA,kh hL U,La⟩,λ_ _=>⟨Zw.nil _ _ _,La⟩⟩
 refine Qd<|Qc<|Qb<|QY (α:=Nat×O7×List DqV) [(8,10),(12,13),(15,16),(27,99)] (λz=>[(10,z.2.1),(12,sS z.1)]) (λz w'=>z.1<=z.2.2.length/\DqI bm w z.2.1 z.2.2 w'/\DqP n (dqL z.2.2)/\dfL V.a V.o V.un bad (2 ^ (n+n)+1 - z.1) z.1 (dqL z.2.2)=R) (λz=>2 ^ (n+n)+1 - z.1) (0,sL hY 1 1,[((A,B,[]),va,vb,ZY)]) oy ⟨Lp _,my,DqP.one hV hX,hR⟩ ?_;rintro⟨i,vl,q⟩ g w6 ⟨hi,h7,hK,ha⟩;simp only[]at hi h7 hK ha;have hql:q.length<=2 ^ (n+n):=by have:=hK.le;rwa [Lo]at this
 have kj:Zw [] ↑w6 vl q.length 3 (q.flatMap dqC):=QO h7.o oa oe;refine Qd<|Ql<|Qa<|QG kj Z<|ZT Z Z<|xe<|Zp rfl (λgq=>?_) (λgq=>?_)
 ·refine Qt ?_;have mz:q.length<=i:=by have hM:¬(i:Int)<(q.length:Int):=gq;omega
  rw[qa (by rw[Lo];exact mz)]at ha;refine Qc<|x Qe<|Qb<|Qk ⟨[ZY,.bool false],oy,h7.st,ZY,?_,?_⟩
  ·rw[<-ha];rfl
  rw[<-ha];exact Yu.nil _ _
 have hN:i<q.length:=by have hM:(i:Int)<(q.length:Int):=gq;omega
 have m0:2 ^ (n+n)+1 - i=(2 ^ (n+n)+1 - (i+1))+1:=oa
 have hO:=Lm hN;have kk:(dqL q)[i]?=some (q[i]'hN).1:=by rw[MO,LE hN];rfl
 refine Zg (q[i]'hN) λd hp=>?_;rw[hp]at hO kk;rw[m0,jq kk]at ha;obtain⟨⟨kn,ko,_⟩,kq⟩:=h7.e d hO;have m1:=(kq [] (λ_ hb=>by cases hb)).1;have hZ:=hK.s d.1 (LL hO);have m2:=hK.w d.1 (LL hO);rw[Lo]at m2;have hl1:=hZ.1.len;have hl2:=hZ.2.len;have hr:∀{v:O7} {l:LI} {L:LN} {H:xG},Qu L H v l->Qu [] H v l:=λhv=>hv.up λb hb=>by cases hb
 refine Qf<|Qd<|Qn<|Ql<|Qa<|xo (g:=dqC) (i:=i) (λ_=>Z) kj Z Z hN λa35 kr=>?_;rw[hp]at kr;refine x (QF (us:=dqC d) kr Z Z)<|QV QgJ λga w7 m3 m4 m5=>Q6 (dqC d) m5 ⟨kn.one,ko.one,m1.one,La⟩ λw8 m6 gr=>xe ?_;have gb:sW w6 w8:=m3.O m6 m4;have kt:=h7.I gb;refine Qd<|Ql<|Qs Z gr Z Z<|Qs Z gr Z Z<|Qo<|xc (first:=[]) (capt:=cap) Z<|(hk d.1.1 d.1.2.1 _ _ w8 kt.st (hr (kn.I gb)) (hr (ko.I gb))).S ?_;rintro _ w9 ⟨rfl,gs⟩;refine xe ?_;have gc:=kt.I gs;have ku:=gr.I gs;have m7:=gb.D gs;refine Q5 rfl (λgt=>?_) (λgt=>?_)
 ·rw[OZ gt]at ha;refine Qc<|Qs Z ku Z Z<|x Qe<|Qb<|Qk ⟨[d.2.2.2,.bool true],oy,gc.st,d.2.2.2,?_,?_⟩
  ·rw[<-ha];rfl
  rw[<-ha];exact λL hL=>((kq L hL).1.I m7).up λb hb=>.inl (Lk.2 (.inl hb))
 rw[OY (λh:bad d.1.1 d.1.2.1=true=>M0 (gt.symm.D h))]at ha;refine Qf<|Ql<|Vc<|(Qag (h.I gc.st)).S ?_;rintro kv m8 ⟨kw,m9⟩;have hal:=hok.al_le;have pc:(kpt V.a V.o).length<=V.a.al.length:=LO _ _;have pd:=gc.lt;have gu:Qu (bm::ob vl) ↑m8 kv (kpt V.a V.o):=Qh.ints m9 oa pd;refine Zg (kpt V.a V.o) λks pf=>?_;rw[pf]at ha gu pc;refine QG gu Z<|Qa<|xe ?_;have pg:=h7.lt;have ph:ga∉bm::ob vl:=λI=>oq (pg _ I)
 refine QY (α:=Nat×O7×List DqV) [(10,10),(15,16),(48,99)] (λz=>[(10,z.2.1),(48,sS z.1)]) (λz w'=>z.1<=ks.length/\DqI bm w z.2.1 z.2.2 w'/\DqP n (dqL z.2.2)/\d∈z.2.2/\q.length<=z.2.2.length/\QN ↑w' ga 361 (dqC d)/\ga∉bm::ob z.2.1/\Qu (bm::ob z.2.1) ↑w' kv ks/\(ks.drop z.1).foldl (dfE V.a V.o V.un d.1) (dqL z.2.2)=ks.foldl (dfE V.a V.o V.un d.1) (dqL q)) (λz=>ks.length - z.1) (0,vl,q) oy
  ⟨Lp _,gc.I kw,hK,hO,Lr _,ku.I kw,ph,gu,Z⟩ ?_
 rintro⟨j,vj,qj⟩ g J ⟨hj,hw,h8,ge,kx,hC,hD,gg,hg⟩;simp only[]at hj hw h8 ge kx hD gg hg;have hqjl:qj.length<=2 ^ (n+n):=by have:=h8.le;rwa [Lo]at this
 refine Zk rfl Z (λgv=>?_) (λgv=>?_)
 ·refine Qt ?_;have pn:ks.length<=j:=by have hM:¬(j:Int)<(ks.length:Int):=gv;omega
  rw[Lx pn]at hg;have po:dqL qj=ks.foldl (dfE V.a V.o V.un d.1) (dqL q):=hg;rw[<-po]at ha;refine Qr<|Qa<|QC Z Z<|Qb<|⟨(i+1,vj,qj),by show 2 ^ (n+n)+1 - (i+1)<2 ^ (n+n)+1 - i;omega,oy,by show i+1<=qj.length;omega,hw,h8,ha⟩
 have hP:j<ks.length:=by have hM:(j:Int)<(ks.length:Int):=gv;omega
 rw[QZ hP,LP]at hg;refine Qf<|Qd<|Qn<|Qc<|xii (i:=j) gg Z Z hP λa50 kz=>?_;refine Zg (ks[j]'hP) λv hv=>?_;rw[hv]at kz hg;refine x (Qq kz Z)<|Qb ?_;obtain⟨⟨pp,pt,_⟩,pu⟩:=hw.e d ge;have pw:=(pu [] (λ_ hb=>by cases hb)).1;have k0:∀l:LI,Ss n (vnx V.a V.o V.un l v):=λl=>by rw[<-hn];exact qq _ _ _ _ _
 have hE:=k0 d.1.1;have hF:=k0 d.1.2.1;have k4:dfE V.a V.o V.un d.1 (dqL qj) v=if(vnx V.a V.o V.un d.1.1 v).length+(vnx V.a V.o V.un d.1.2.1 v).length > 0/\Ko (dqL qj) (vnx V.a V.o V.un d.1.1 v) (vnx V.a V.o V.un d.1.2.1 v)=false then dqL qj++[(vnx V.a V.o V.un d.1.1 v,vnx V.a V.o V.un d.1.2.1 v,d.1.2.2++[v])]else dqL qj:=rfl
 have pz:∀z∈d.1.1,0<=z/\z<V.a.st:=λz hz=>oq (hZ.1.2 z hz)
 have p0:∀z∈d.1.2.1,0<=z/\z<V.a.st:=λz hz=>oq (hZ.2.2 z hz)
 have k5:∀W:O6,sW J W->QT sV 136 [.pointer (some ⟨V.b,0,none⟩),d.2.1,sS v] W λr w'=>sW W w'/\Qh 3 ↑W w' r (vnx V.a V.o V.un d.1.1 v):=λW hW=>qp (est:=d.1.1) (h.I (hw.st.D hW)) (hr (pp.I hW)) pz oa ka v;have k6:∀W:O6,sW J W->QT sV 136 [.pointer (some ⟨V.b,0,none⟩),d.2.2.1,sS v] W λr w'=>sW W w'/\Qh 3 ↑W w' r (vnx V.a V.o V.un d.1.2.1 v):=λW hW=>qp (est:=d.1.2.1) (h.I (hw.st.D hW)) (hr (pt.I hW)) p0 oa ka v;refine Zg (vnx V.a V.o V.un d.1.1 v) λA' gx=>?_;refine Zg (vnx V.a V.o V.un d.1.2.1 v) λB' gy=>?_;rw[gx,gy]at k4;rw[gx]at hE;rw[gy]at hF;simp only[gx]at k5;simp only[gy]at k6;rw[k4]at hg;have hAl':=hE.len;have hBl':=hF.len;have p4:=hw.st.size;refine Qd<|jJ (α:=O7×O7×O7×Nat) (sW J) (sW J) ↑J [oB 0,oB 1,oB 2,oB 3,oB 5,oB 6,oB 7,oB 8,oB 10,oB 11,oB 13] (λi=>if i=9 then[4]else if i=12 then[9]else if i=15 then[12,14]else if i=16 then[4,9,15]else[]) (λi=>if i=15 then[12]else[]) [4,9,12,14,15,16,17] [16,17] [16] [oC 18] [(56,56),(61,61),(64,64),(66,68),(16,16)] (dfP ↑J A' B' d.1.2.2 v)
  (λz=>[(68,.agg #[z.1,z.2.1,z.2.2.1]),(16,.pointer (some ⟨z.2.2.2,0,none⟩))]) (λz w'=>Qh 3 ↑J w' z.1 A'/\Qh 3 ↑J w' z.2.1 B'/\Qh 3 ↑J w' z.2.2.1 (d.1.2.2++[v])/\↑J<=z.2.2.2/\QN ↑w' z.2.2.2 361 QgJ)
  mixed ol od (xd.Y _ _) (λ_ h=>h) (λ_ _ _ _ _ hc O hb _=>hc.Z O λb p5=>.inr (hb b p5)) (λ_ hc=>hc.size) (λi _=>QlN i) ?_ ?_
 ·rintro g w' ⟨⟨he,hf,hh,p6,h1,h2,h3⟩,⟨b,p7,hb,U⟩,_⟩ _ _;exact⟨(he,hf,hh,b),⟨p6,p7,La⟩,h1,h2,h3,hb,U⟩
 refine p Qx<|p (QH Z)<|pq (λ_ hc=>Qj (hC.I hc) Z Z)<|p Qx<|p Qx<|p (QH Z)<|pq (λ_ hc=>Qj (hC.I hc) Z Z)<|p Qx <|
  p (QH rfl)<|pq (λ_ hc=>Qj (hC.I hc) Z Z)<|p Qx<|pe ⟨⟨?_,?_,?_,?_,?_,?_,?_,La⟩,?_⟩
 ·rintro g w' hc _ _;exact xf<|(k5 w' hc).S λr hQ ⟨O,G⟩=>⟨O,Za G hc.size,λb hb=>⟨.inl (Jh G b hb).1,(Jh G b hb).2⟩⟩
 ·rintro g w' hc _ _;exact xf<|(k6 w' hc).S λr hQ ⟨O,G⟩=>⟨O,Za G hc.size,λb hb=>⟨.inl (Jh G b hb).1,(Jh G b hb).2⟩⟩
 ·rintro g w' hc _ _;exact xf<|(Z0 (pw.I hc)).S λr hQ ⟨O,G⟩=>⟨O,Za G hc.size,λb hb=>⟨.inl (Jh G b hb).1,(Jh G b hb).2⟩⟩
 ·rintro g w' hc _ _;exact Q3 [[sS v]] λb hQ O hb U=>⟨O,⟨b,Z,LA hc.size hb,U⟩,λc hS=>by rw[Lc.1 (show c∈[b] from hS)];exact⟨.inl hb,U.lt⟩⟩
 ·rintro g w' hc ⟨p8,⟨b,p9,hb14,qf⟩,_⟩ _;refine Q0 (m:=1) (news:=[sS v]) (L:=[]) (show Qh _ _ _ _ _ from p8) Z p9 Z (qf.at oe) oo oa hc.size λr hQ G O hn=>⟨O.S λb hb=>Mh.2 ⟨12,Lj,yF hb⟩,Qh.snoc G,λb hb=>⟨?_,(Jh G b hb).2⟩⟩;exact(hn b (Qe0 G hb)).symm.imp id λh=>Mh.2 ⟨12,Lj,yF h⟩
 ·rintro g w' hc ⟨h4,h9,k9,_⟩ _;refine xv (QD ⟨xR (show Qh _ _ _ _ _ from h4),xR (show Qh _ _ _ _ _ from h9),xR (show Qh _ _ _ _ _ from k9),La⟩) ?_;exact⟨xd.C _ _,⟨_,_,_,Z,h4,h9,k9⟩,λc hS=>by cases hS⟩
 ·rintro g w' hc _ _;exact Y0 (us:=QgJ) Z λb hQ O hb U=>⟨O,⟨b,Z,LA hc.size hb,U⟩,λc hS=>by rw[Lc.1 (show c∈[b] from hS)];exact⟨.inl hb,U.lt⟩⟩
 rintro⟨he,hf,hh,b16⟩ g ql ma ⟨gz,g0,g2,gh,g3⟩;simp only[]at gz g0 g2 gh g3;refine pk<|qI [he,hf,hh] g3 ⟨QA gz,QA g0,QA g2,La⟩ λhG h6 hH=>⟨ma.O h6 gh,pe ?_⟩;have hT:sW J hG:=ma.O h6 gh;have g4:∀{u:O7} {l:LI},Qh 3 ↑J ql u l->Qh 3 ↑J hG u l:=λG=>Qg G h6 λb hb I=>Uj G g3 oh (Lc.1 I ▸ hb);have q4:=g4 gz;have q5:=g4 g0;have mc:=g4 g2;have j1:(d.1.2.2++[v]).length<=qj.length+1:=by rw[Le,Lz];omega
 have g5:=hw.I hT;have hU:=hw.lt;have h0:Qu (bm::ob vj) ↑hG he A':=Qh.ints q4 oa hU;have h5:Qu (bm::ob vj) ↑hG hf B':=Qh.ints q5 oa hU;have j2:Qu (bm::ob vj) ↑hG hh (d.1.2.2++[v]):=Qh.ints mc oa hU;have gi:∀{l:LI},Ss n l->∀z∈l,0<=z/\z<(100:Int):=λhl z hz=>oq (hl.2 z hz)
 refine QX (α:=Unit) [(69,87)] (λ_=>[(87,.bool (decide (A'.length+B'.length > 0/\Ko (dqL qj) A' B'=false)))]) (λ_ w'=>sW hG w') ol ?_ ?_
 ·refine Qr<|Qs Z hH Z Z<|QG h0 Z<|Qs Z hH Z Z<|QG h5 Z<|QC Z Z<|xb (Ya Z Z) (λg6=>?_) (λg6=>?_)
  ·refine Qa<|Qa<|Qs Z hH Z Z<|Qs Z hH Z Z<|Qo<|Yj (us:=[[he],[hf]]) Z Z oh oe ⟨h0.cells,rfl,h5.cells,rfl,La⟩ λb83 j3 hq hb83 j4=>?_;refine Vc<|(UO (m:=100) (j4.arr oe (n:=2) (cap:=2) (sz:=1) rfl oh (Lr _)) (hr (h0.I hq)) (hr (h5.I hq)) (.inl (Ms _)) (gi hE) (gi hF) oa oa).S ?_;rintro _ za ⟨rfl,gj⟩;refine x (Qbt (k:=koA A' B') ((g5.m.I hq).I gj) Z Z)<|x (Zi Z)<|QB Z<|xe<|⟨(),⟨O0 Value.bool ?_,La⟩,hq.D gj⟩;refine(Qgg (f:=Prod.fst) h8 hE hF).D ?_;have z0:A'.length+B'.length > 0:=by have hM:(A'.length:Int)+(B'.length:Int) > 0:=g6;omega
   cases hse:Ko (dqL qj) A' B' with
   | true=>exact bF λh=>by cases h.2
   | false=>exact bT ⟨z0,Z⟩
  refine Qa<|Zs<|Zs<|Zs<|QB Z<|xe ?_;exact⟨(),⟨O0 Value.bool (bF λh=>by have hM:¬(A'.length:Int)+(B'.length:Int) > 0:=g6;have:=h.1;omega),La⟩,xd.C _ _⟩
 rintro _ g j3 hq;have mf:=hT.D hq;have z1:=g5.I hq;refine Zp rfl (λgk=>?_) (λgk=>?_)
 ·rw[OY gk]at hg;refine Qf<|Qr<|QC Z Z<|Qa<|xe ?_;exact⟨(j+1,vj,qj),by show ks.length - (j+1)<ks.length - j;omega,oy,hP,z1,h8,ge,kx,hC.I mf,hD,gg.I mf,hg⟩
 rw[OZ gk]at hg;have mg:=hH.I hq;refine Ql<|Qs Z mg Z Z<|Qs Z mg Z Z<|Qo<|Yj (us:=[[he],[hf]]) Z Z oh oe ⟨h0.cells,rfl,h5.cells,rfl,La⟩ λb93 za gj hb93 z2=>?_;have g7:=hq.D gj;refine Vc<|(UO (m:=100) (z2.arr oe (n:=2) (cap:=2) (sz:=1) rfl oh (Lr _)) (hr (h0.I g7)) (hr (h5.I g7)) (.inl (Ms _)) (gi hE) (gi hF) oa oa).S ?_;rintro _ w16 ⟨rfl,z3⟩;have hy:=g7.D z3;have gl:=g5.I hy;refine Qo<|yI (k:=koA A' B') gl.m Z Z Z λw17 hI z4=>xe ?_;have z5:b16∉[bm]:=λI=>by have:=hU bm Lj;rw[Lc.1 I]at gh;omega
 have hB1617:=(hH.I hy).J hI z5;have hz13:=hT.size;have hz16:=hy.size;have hz17:=hI.size;refine Qr<|Qa<|Q7 hB1617 Z Z<|Qo<|Q3 [[he,hf,hh]] λb97 w18 hJ hb97 hB97 =>
  Qo<|Q0 (m:=1) (news:=[he,hf,hh]) (L:=[]) (Qm (Qg gl.o hI λb hb I=>gl.nm (Lc.1 I ▸ hb)) hJ) Z Z Z (hB97.at oe) (λu hu=>ZN.all (us:=[he,hf,hh]) ⟨h0.one,h5.one,j2.one,La⟩ u hu) oa (oq hJ.size) λvr w19 ho19 g8 g9=>Qb<|Qr<|QC Z Z<|Qa<|xe ?_
 have hz18:=hJ.size;have hnew:=gl.add (p:=((A',B',d.1.2.2++[v]),he,hf,hh)) hI z4 hJ g8 ho19 g9 ⟨⟨h0.I hy,h5.I hy,La⟩,λL hL=>⟨(Qh.ints mc oa λb hb=>(Lk.1 hb).elim (λh=>LX (hL b h) p4) (hU b)).I hy,La⟩⟩;have h13w:ga<J.heap.size:=hC.lt;have mh:∀b∈[bm],b∈bm::ob vj:=λb hb=>by rw[Lc.1 hb];exact Lj
 refine⟨(j+1,vr,qj++[((A',B',d.1.2.2++[v]),he,hf,hh)]),by show ks.length - (j+1)<ks.length - j;omega,oy,hP,hnew,?_,Lk.2 (.inl ge),by rw[Le];omega,?_,λI=>?_,?_,?_⟩
 ·show DqP n (OX _ (qj++[_]));rw[Lv];exact h8.add hE hF (by rw[Lo];exact j1) gk.2
 ·exact((((hC.I hT).I hy).J hI λI=>hD (mh _ I)).I hJ).J g8 λI=>hD (Lh _ I)
 ·rcases Ll.1 I with e|I
  ·exact hD (e ▸ Lj)
  rcases g9 _ I with h1|h1
  ·exact hD (Lh _ h1)
  omega
 ·exact Zw.grow ((((gg.I hT).I hy).J hI mh).I hJ) g8 (λb hb=>Lh _ hb) (Qbx g9)
 show(ks.drop (j+1)).foldl (dfE V.a V.o V.un d.1) (OX _ (qj++[_]))=_;rw[Lv];exact hg
theorem Qse {b:Bool}(h:(!b)=true):b=false:=by cases b <;> first|rfl|cases h
theorem Qsf {b:Bool}(h:(!b)=false):b=true:=by cases b <;> first|rfl|cases h
theorem Ub (a:Qz)(o un l:LI)(b:Bool):Ss a.st.toNat (vcl a o un l b):=qw _ _
theorem QiW {V:VwV}(h:VwA ↑w V)(hE:Qu [] ↑w ve est)(hs:Ss V.a.st.toNat est)(h0:0<=s)(h1:s<V.a.st)(h9:V.a.st<=9)(hg:V.a.ed.length<=1000):
  QT sV 134 [.pointer (some ⟨V.b,0,none⟩),ve,sS s] w λr w'=>sW w w'/\∃vw,r=.tuple #[vw,.bool (rft V.a V.o V.un est s).isSome]/\Yu ↑w ↑w' vw ((rft V.a V.o V.un est s).getD []):=by
 have hn:=h.ok.st0;have O:=Ub V.a V.o V.un [s] false;have ho:=O.len;refine Zn func134 ?_;refine Qc<|Zd [.pointer (some ⟨V.b,0,none⟩)] λb3 w1 U hp J=>x Qe<|Qb<|Qd<|ZK [] [oB 0,oB 1,oB 2,oB 3,oB 6,oC 4,oC 5,oC 7,oB 8,oB 9,oB 10,oB 11]<|pq (λ_ hc=>Qj (J.I hc) Z Z)<|p Qx<|pq (λ_ hc=>Qj (J.I hc) Z Z)<|p Qx <|
  p (λ_=>Zl (l:=[]) (l':=[.tmp 3]))<|pk<|Q3 [[sS s]] λhq w2 ha hr hh=>⟨(xd.Y _ _).D ha,?_⟩
 have he:sW w1 w2:=(xd.Y _ _).D ha;have hj:=U.D he;refine pk<|xg<|(Ve (only:=false) (l:=[s]) (h.I hj) (hh.arr oe (n:=1) (cap:=1) (sz:=1) rfl oh (OG _)) (λz hz=>by rw[List.mem_singleton.1 hz];exact⟨h0,h1⟩) oe).S ?_;rintro v3 w3 ⟨hk,hm⟩;have I:=he.D hk;have G:=U.D I;refine⟨I,?_⟩;refine pk<|xg<|(Qiq (cap:=[sP b3]) (bad:=yv V.a) (h.I G) (hE.I G) (Qh.ints hm oa oe) hs O h9 hg
  (λX Y vx vy W hW hx hy=>Qi0 (h.I (G.D hW)) ((J.I I).I hW) hx hy)).S ?_
 rintro r4 w4 ⟨hf,vw,rfl,hw⟩;refine⟨I.D hf,?_⟩;refine p (λ_=>Q2 Z Z)<|p (λ_=>Q2 Z Z)<|p ZH<|p ZH<|pe ?_;exact Qk ⟨[vw,_],oy,G.D hf,vw,Z,hw.S G.size⟩
theorem QiZ {V:VwV}{v:Int}(h:VwA ↑w V)(h0:0<=s)(h1:s<V.a.st)(h9:V.a.st<=9):
  QT sV 137 [.pointer (some ⟨V.b,0,none⟩),sS s,sS v] w λr w'=>r=.bool (ctd V.a V.o V.un s v)/\sW w w':=by
 have hE:=h.ok.st0;have hp:=Ub V.a V.o V.un [s] false;have hq:=Ub V.a V.o V.un [s] true;have hF:=hp.len;have hG:=hq.len;have hr:∀z∈[s],0<=z/\z<V.a.st:=λz J=>by rw[Lc.1 J];exact⟨h0,h1⟩
 refine Zn func137 ?_;refine Qc<|Zd [.pointer (some ⟨V.b,0,none⟩)] λb3 w1 hy hH h4=>Zd [sS v] λb5 G hs hI hj=>Qb ?_;have U:=hy.D hs;have O:=h4.I hs;have I:sW G { G with drawn:=G.drawn+1 }:=xd.Y _ _
 refine Qd<|QX (α:=Unit) [(8,20)] (λ_=>[(20,.bool (!(decide (v∈V.o) && decide (v∈V.un))))]) (λ_ w'=>sW G w') ol ?_ ?_
 ·refine ZK [] (Xj 0 13 [2,10])<|pq (λ_ hc=>Qj (O.I hc) Z Z)<|pq (λ_ hc=>Qj (hj.I hc) Z Z)<|pk<|xg<|(zZ (w:={ G with drawn:=G.drawn+1 }) ((h.I U).I I) v).S ?_
  rintro _ w3 ⟨rfl,rfl⟩;refine⟨I,?_⟩;refine pB (λ_=>Zi Z) (λhk=>?_) (λhk=>?_)
  ·refine p Qx<|ps<|ps<|ps<|ps<|ps<|ps<|ps<|p (YS Z)<|pe ?_;exact⟨(),⟨O0 Value.bool (by rw[O4 (VK hk)];rfl),La⟩,I⟩
  refine p Qx<|pq (λ_ hc=>Qj (O.I hc) Z Z)<|p (YT Z)<|p (QH Z)<|pq (λ_ hc=>Qj ((h.blk.I U).I hc) Z Z) <|
   pq (λ_ hc=>Qj (hj.I hc) Z Z)<|pk<|xg<|(ZG (w:={ G with drawn:=G.drawn+1 }) ((h.u.I U).I I) v).S ?_
  rintro _ w4 ⟨rfl,rfl⟩;refine⟨I,?_⟩;refine p (λ_=>Zi Z)<|p (YS Z)<|pe ?_;exact⟨(),⟨O0 Value.bool (by rw[O2 (Kw hk),OP]),La⟩,I⟩
 rintro _ g w3 hm;have Y:=U.D hm;have hct:ctd V.a V.o V.un s v=((decide (v∈V.o) && decide (v∈V.un)) && (psb V.a v (vcl V.a V.o V.un [s] false) && !psb V.a v (vcl V.a V.o V.un [s] true))):=(Bool.and_assoc _ _ _).symm;refine Q5 rfl (λhn=>?_) (λhn=>?_)
 ·refine Qc<|Qb<|Qk ⟨[.bool false],Lb,O0 Value.bool ?_,Y⟩;rw[hct,Qse hn];rfl
 rw[Qsf hn,OP]at hct;rw[hct];refine Qf<|Qc<|x (Zl (l:=[]) (l':=[.tmp 3,.tmp 5]))<|Qb ?_;have ha:=O.I hm;have hu:=hj.I hm;have h3:=h.I Y;refine QX (α:=Unit) [(6,6),(22,36)] (λ_=>[(6,.bool (psb V.a v (vcl V.a V.o V.un [s] false) && !psb V.a v (vcl V.a V.o V.un [s] true)))]) (λ_ w'=>sW w w') ol ?_ ?_
 ·refine Qr<|Qa<|ZD ha Z Z<|Qa<|Qo<|Q3 [[sS s]] λhJ w6 hv hK h5 =>
   Qw<|(Ve (only:=false) (l:=[s]) (h3.I hv) (h5.arr oe (n:=1) (cap:=1) (sz:=1) rfl oh (Lr _)) hr oe).S ?_
  rintro v7 w7 ⟨h6,h7⟩;have he:=hv.D h6;refine Qo<|xc (first:=[]) (capt:=[sP b3,sP b5]) Z<|(QcC (h3.I he) (ha.I he) (hu.I he) (Qh.ints h7 oa oe) (λz J=>oq (hp.2 z J))).S ?_;rintro r8 w8 ⟨hf,h8⟩;have hg:=he.D h8;refine Qb7 (psb V.a v (vcl V.a V.o V.un [s] false)) (λho=>?_) (λho=>?_)
  ·rw[ho]at hf ⊢;subst hf;refine Qa<|Qa<|ZD (ha.I hg) Z Z<|Qa<|Qo<|Q3 [[sS s]] λhL w9 hw hM O =>
    Qw<|(Ve (only:=true) (l:=[s]) ((h3.I hg).I hw) (O.arr oe (n:=1) (cap:=1) (sz:=1) rfl oh (Lr _)) hr oe).S ?_
   rintro hN hO ⟨hA,hB⟩;have hh:=(hg.D hw).D hA;refine Qo<|xc (first:=[]) (capt:=[sP b3,sP b5]) Z<|(QcC (h3.I hh) (ha.I hh) (hu.I hh) (Qh.ints hB oa oe) (λz J=>oq (hq.2 z J))).S ?_;rintro _ hP ⟨rfl,hC⟩;refine x (Zi Z)<|QB Z<|Qb<|⟨(),Lb,Y.D (hh.D hC)⟩
  rw[ho]at hf ⊢;subst hf;refine Qa<|Zs<|Zs<|Kd<|QB Z<|Qb<|⟨(),Lb,Y.D hg⟩
 rintro _ g hQ hD;exact Qk ⟨[_],Lb,Z,hD⟩
abbrev QfO:=jQ×O7×O7
abbrev pcC (q:QfO):LV:=[sS q.1.1,q.2.1,q.2.2]
abbrev pcD (z:jQ):Dq:=([z.1],z.2.1,z.2.2)
abbrev pcF (p:QfO):Dq:=pcD p.1
abbrev pcK (p:QfO):ByteArray:=koA [p.1.1] p.1.2.1
abbrev pcP (p:QfO):List (O7×LI):=[(p.2.1,p.1.2.1)]
abbrev pcN (p:QfO):List (O7×LI):=[(p.2.2,p.1.2.2)]
abbrev PcI:=QI 239 3 pcC XJ pcK pcP pcN
theorem Qgh (l:List jQ)(s:Int)(t:LI):yo l s t=Ko (l.map pcD) [s] t:=by
 unfold yo Ko;rw[List.any_map];congr 1;funext z;exact decide_eq_decide.2 ⟨λh=>⟨by show[z.1]=_;rw[h.1],h.2⟩,λh=>⟨(List.cons.inj h.1).1,h.2⟩⟩
theorem Ss.one (G:0<=s)(h1:s<(n:Int)):Ss n [s]:=⟨MN _ _,λx hx=>by rw[Lc.1 hx];exact⟨G,h1⟩⟩
theorem UN {f:Nat}{l:List jQ}(h:l.length<=i):obL a o un f i l=none:=by
 cases f with
 | zero=>rfl
 | succ f=>rw[obL,Mk h]
theorem UM {f:Nat}{l:List jQ}{z:jQ}{t:LI}(h:l[i]?=some z)(ht:rft a o un z.2.1 z.1=some t):obL a o un (f+1) i l=some (z.2.2,t):=by
 rw[obL,h];simp only[ht]
theorem Vn {f:Nat}{l:List jQ}{z:jQ}(h:l[i]?=some z)(ht:rft a o un z.2.1 z.1=none):obL a o un (f+1) i l=obL a o un f (i+1) ((QK a.ed z.1).foldl (obE a o un z) l):=by
 rw[obL,h];simp only[ht]
def QnL (N:Nat)(W:LI)(e s:Int)(ve:O7)(i:Nat)(v:O7)(w:O6):Prop :=
 if i=6 then Qh 3 N w v W else
 if i=9 then ∃b,v=sL b 1 1/\N<=b/\QN ↑w b 3 [sS e]else
 if i=10 then Qh 3 N w v (W++[e]) else
 if i=11 then ∃vw,v=.agg #[sS s,ve,vw]/\Qh 3 N w vw (W++[e]) else
 ∃b,v=sP b/\N<=b/\QN ↑w b 239 [sS 0,ZY,ZY]
theorem Qh4 {W:LI}{e:Int}(i:Nat)(v:O7)(own:LN)(w w':O6)(h:QnL N W e s ve i v w)(G:xd own w w')(hb:∀b∈ow v,b∉own)(I:i∈[11]->own=[]):QnL N W e s ve i v w':=by
 have k:∀{l:LI},Qh 3 N w v l->Qh 3 N w' v l:=λJ=>Qg J G λb O=>hb b (yF O);unfold QnL at *;by_cases e6:i=6
 ·rw[OZ e6]at *;exact k h
 rw[OY e6]at *;by_cases e9:i=9
 ·rw[OZ e9]at *;obtain⟨b,rfl,h1,h2⟩:=h;exact⟨b,rfl,h1,h2.J G (hb b Lj)⟩
 rw[OY e9]at *;by_cases e10:i=10
 ·rw[OZ e10]at *;exact k h
 rw[OY e10]at *;by_cases e11:i=11
 ·rw[OZ e11]at *;obtain⟨vw,rfl,h1⟩:=h;have:=I (by rw[e11];exact Lj);subst this;exact⟨vw,Z,Qm h1 G⟩
 rw[OY e11]at *;obtain⟨b,rfl,h1,h2⟩:=h;exact⟨b,Z,h1,h2.J G (hb b Lj)⟩
theorem Qkb {o:Option α}(h:¬o.isSome=true):o=none:=by cases o with|none=>rfl|some x=>exact O1 rfl h
theorem Qka {o:Option α}(h:o.isSome=true):∃x,o=some x:=by cases o with|none=>cases h|some x=>exact⟨x,rfl⟩
theorem QcD {V:VwV}(h:VwA ↑w V)(h9:V.a.st<=9)(kc:V.a.ed.length<=1000):
  QT sV 57 [.pointer (some ⟨V.b,0,none⟩)] w λr w'=>sW w w'/\∃vw vo,r=.tuple #[vw,vo,.bool (obs V.a V.o V.un).isNone]/\Yu ↑w ↑w' vw ((obs V.a V.o V.un).elim [] (·.1))/\Yu ↑w ↑w' vo ((obs V.a V.o V.un).elim [] (·.2)):=by
 have hok:=h.ok;have hst0:=hok.st0;obtain⟨n,hn⟩:∃n:Nat,V.a.st.toNat=n:=⟨_,Z⟩;have pd:n<=9:=oa
 have hna:V.a.st=(n:Int):=oa
 have hp18:=Qpo pd;have pf:=hok.ed;obtain⟨rv,ke,kf⟩:=h.r;rw[hn]at ke kf;have hg:obs V.a V.o V.un=if V.a.st=0 then none else obL V.a V.o V.un (2 ^ (n+n)+1) 0 [(0,vcl V.a V.o V.un [0] false,[])]:=by unfold obs;rw[hn,Vv]
 refine Zg (obs V.a V.o V.un) λR hR=>?_;rw[hR]at hg ⊢;refine Zn func57 ?_;refine Qc<|x Qe<|x Qe<|Qb<|Qd<|Ql<|Z8 Z<|Q9 Z<|Qs Z h.blk Z Z<|x (Zc Z Z)<|xe<|Zh rfl (λgb=>?_) (λgb=>?_)
 ·have gc:V.a.st=0:=gb;rw[OZ gc]at hg;rw[hg];refine Qc<|x Qe<|x Qe<|Qb<|Qk ⟨[ZY,ZY,.bool true],oz,xd.C _ _,ZY,ZY,Z,Yu.nil _ _,Yu.nil _ _⟩
 have gc:¬V.a.st=0:=gb;rw[OY gc]at hg;have hn0:0<n:=oa
 refine Qf<|Qc ?_;have hy:=Ub V.a V.o V.un [0] false;rw[hn]at hy;have pg:=hy.len;refine Qa<|Qo<|Q3 [[sS 0]] λb22 w1 kg hb22 ph=>Qw<|(Ve (only:=false) (l:=[0]) (h.I kg) (ph.arr oe (n:=1) (cap:=1) (sz:=1) rfl oh (OG _)) (λz hz=>by rw[List.mem_singleton.1 hz];omega) oe).S ?_;rintro v2 w2 ⟨pn,kh⟩;refine Zg (vcl V.a V.o V.un [0] false) λe0 po=>?_;rw[po]at kh hy pg hg;have ge:Qu [] ↑w2 v2 e0:=Qh.ints kh oa oe;refine x (QD ⟨ge.cells,La⟩)<|Qo<|Q3 [[sS 0,v2,ZY]] λhM w3 hN pp gg=>Qb ?_;have ki:=kg.D pn;have pt:=ki.D hN;refine Qc<|Qo<|Z1 XJ λbm w4 kj kk kn=>Qo<|Q3 [[sS 0]] λpu w5 ko hb27 pw=>?_;have kq:=kj.D ko;have pz:Zw [] ↑w5 (sL hM 1 1) 1 3 [sS 0,v2,ZY]:=(gg.I kq).arr oe (n:=1) (cap:=1) (sz:=3) rfl oh (Lr _);have kr:=(ge.I hN).I kq;refine Qa<|xo (g:=λ_:Nat=>[sS 0,v2,ZY]) (es:=[0]) (i:=0) (λ_=>Z) pz Z Z oh λa29 p0=>x (ZB Z)<|x (Qq (u:=v2) (p0.fld 1 _ Z) Z)<|Qo<|Yj (us:=[[sL pu 1 1],[v2]]) Z Z oh oe ⟨rfl,rfl,kr.cells,rfl,La⟩ λb32 w6 gh hb32 p4=>?_;have hO:∀{l:LI},Ss n l->∀z∈l,0<=z/\z<(100:Int):=λhl z hz=>oq (hl.2 z hz)
 have kt:Ss n [(0:Int)]:=Ss.one (Ms _) oa;refine Qw<|(UO (m:=100) (p4.arr oe (n:=2) (cap:=2) (sz:=1) rfl oh (OG _)) (show Qu [] ↑w6 _ [0] from(pw.I gh).arr oe (n:=1) (cap:=1) (sz:=1) rfl oh (Lr _)) (kr.I gh) (.inl (Ms _)) (hO kt) (hO hy) oe oa).S ?_;rintro _ w7 ⟨rfl,p5⟩;have ku:=(ko.D gh).D p5;refine Qo<|QbF (k:=koA [0] e0) (X1.zero (kn.I ku)) Z Z Z λw8 kv p6=>Qa<|Qb ?_;have hz02:=ki.size;have hlm:=kn.lt;have hl25:=gg.lt;have kw:=kj.D ku;have kx:sW w3 w8:=kw.O kv kk;have p7:PcI bm w (sL hM 1 1) [((0,e0,[]),v2,ZY)] w8:=by
  have kz:hM≠bm:=oa
  refine⟨pt.D kx,((gg.I kw).J kv (by simp only[oH];exact kz)).own (n:=1) (sz:=3) Z oa oa,λp hp=>?_,p6,λG=>kz (Lc.1 G).symm,oa⟩;rw[Lc.1 hp];refine⟨⟨(ge.up λb hb=>.inr ?_).I (hN.D kx),La⟩,λ_ _=>⟨Zw.nil _ _ _,La⟩⟩;rcases Ll.1 hb with rfl|hb
  ·exact LA hN.size kk
  rw[Lc.1 hb];exact pp
 refine Qd<|Qc<|Qb<|QY (α:=Nat×O7×List QfO) [(2,5),(7,10),(12,14),(35,111)] (λz=>[(5,z.2.1),(7,sS z.1)]) (λz w'=>z.1<=z.2.2.length/\PcI bm w z.2.1 z.2.2 w'/\DqP n (z.2.2.map pcF)/\R=obL V.a V.o V.un (2 ^ (n+n)+1 - z.1) z.1 (z.2.2.map Prod.fst)) (λz=>2 ^ (n+n)+1 - z.1) (0,sL hM 1 1,[((0,e0,[]),v2,ZY)]) oy ⟨Lp _,p7,DqP.one kt hy,hg⟩ ?_;rintro⟨i,vl,q⟩ g w9 ⟨hi,hh,h0,O⟩;simp only[]at hi hh h0 O;have hql:q.length<=2 ^ (n+n):=by have:=h0.le;rwa [Lo]at this
 have k0:Zw [] ↑w9 vl q.length 3 (q.flatMap pcC):=QO hh.o oa oe;refine Qd<|Ql<|Qa<|QG k0 Z<|ZT Z Z<|xe<|Zp rfl (λgi=>?_) (λgi=>?_)
 ·refine Qt ?_;have p8:q.length<=i:=by have gj:¬(i:Int)<(q.length:Int):=gi;omega
  rw[UN (by rw[Lo];exact p8)]at O;rw[O];refine Qc<|x Qe<|x Qe<|Qb<|Qk ⟨[ZY,ZY,.bool true],oz,hh.st,ZY,ZY,Z,Yu.nil _ _,Yu.nil _ _⟩
 have h3:i<q.length:=by have gj:(i:Int)<(q.length:Int):=gi;omega
 have p9:2 ^ (n+n)+1 - i=(2 ^ (n+n)+1 - (i+1))+1:=oa
 have h4:=Lm h3;have gk:(q.map Prod.fst)[i]?=some (q[i]'h3).1:=by rw[MO,LE h3];rfl
 refine Zg (q[i]'h3) λd hp=>?_;rw[hp]at h4 gk;rw[p9]at O;obtain⟨⟨k4,_⟩,k5⟩:=hh.e d h4;have qf:=(k5 [] (λ_ hb=>by cases hb)).1;have k6:=h0.s (pcF d) (LL h4);have k9:=h0.w (pcF d) (LL h4);rw[Lo]at k9;have ma:=k6.1.2 d.1.1 Lj;have hP:Ss n d.1.2.1:=k6.2;have hl2:=hP.len;have hQ:∀{v:O7} {l:LI} {L:LN} {H:xG},Qu L H v l->Qu [] H v l:=λhv=>hv.up λb hb=>by cases hb
 refine Qf<|Qd<|Qn<|Ql<|Qa<|xo (g:=pcC) (i:=i) (λ_=>Z) k0 Z Z h3 λa43 mc=>?_;rw[hp]at mc;refine x (QF (us:=pcC d) mc Z Z)<|QV [sS 0,ZY,ZY] λb8 w10 ql q4 q5=>Q6 (pcC d) q5 ⟨Z,k4.one,qf.one,La⟩ λj1 j2 gl=>xe ?_;have gm:sW w9 j1:=ql.O j2 q4;have gn:=hh.I gm;refine Qd<|Ql<|Qs Z gl Z Z<|Qs Z gl Z Z<|Qw<|(QiW (est:=d.1.2.1) (h.I gn.st) (hQ (k4.I gm)) (by rw[hn];exact hP) ma.1 oa h9 kc).S ?_;rintro _ gq ⟨gr,vt,rfl,mf⟩;refine Qa<|QS Z Z<|QS Z Z<|x Qe<|Qb ?_;have h5:=gn.I gr;have gs:=gl.I gr;have j3:=gm.D gr;refine Ql<|xe<|Q5 rfl (λgt=>?_) (λgt=>?_)
 ·refine Exists.elim (Qka gt) λt ht=>?_;rw[UM gk ht]at O;rw[ht]at mf;rw[O];refine Qc<|Qs Z gs Z Z<|Qa<|x Qe<|x Qe<|Qb<|Qk ⟨[d.2.2,vt,.bool false],oz,h5.st,d.2.2,vt,Z,λL hL=>((k5 L hL).1.I j3).up λb hb=>.inl (Lk.2 (.inl hb)),mf.S gn.st.size⟩
 rw[Vn gk (Qkb λh=>M0 (gt.symm.D h))]at O;refine Qf ?_;have gu:=h.I h5.st;obtain⟨s,J⟩:∃s,d.1.1=s:=⟨_,Z⟩;rw[J]at ma O;have mg:s=(s.toNat:Int):=oa
 have mh:s.toNat<n:=oa
 have hE:=kf s.toNat mh;rw[<-mg]at hE;have hol:=Yg V.a.ed s;have j4:s.toNat<(oM n).length:=by rw[Mg];exact mh
 have za:(sS d.1.1)=sS (s.toNat:Int):=by rw[J];exact O0 _ mg
 refine Qd<|ZK [] (Xj 0 10 [])<|p Qx<|p (YT Z)<|p (QH Z)<|pq (λ_ hc=>Qj (gu.blk.I hc) Z Z)<|p (QH Z)<|pq (λ_ hc=>Qj (gs.I hc) Z Z) <|
  Lg.pig (g:=λj:Nat=>[rv j]) (i:=s.toNat) Z (λ_=>Z) (ke.I h5.st) Z (show Go.Lg.ev _ _=_ from za) j4 λa64 mj=>?_
 rw[Mx]at mj;refine pq (λ_ hc=>Qq (u:=rv s.toNat) (mj.I hc) Z)<|p (λ_=>Y4 (hE.I h5.st) Z)<|p Qx<|pe ?_;have mo:sW gq { gq with drawn:=gq.drawn+1 }:=xd.Y _ _
 have z0:b8∉bm::ob vl:=λG=>oq (hh.lt _ G)
 refine QY (α:=Nat×O7×List QfO) [(5,5),(12,14),(67,111)] (λz=>[(5,z.2.1),(67,sS z.1)]) (λz w'=>z.1<=(QK V.a.ed s).length/\PcI bm w z.2.1 z.2.2 w'/\DqP n (z.2.2.map pcF)/\d∈z.2.2/\q.length<=z.2.2.length/\QN ↑w' b8 239 (pcC d)/\b8∉bm::ob z.2.1/\((QK V.a.ed s).drop z.1).foldl (obE V.a V.o V.un d.1) (z.2.2.map Prod.fst)=(QK V.a.ed s).foldl (obE V.a V.o V.un d.1) (q.map Prod.fst)) (λz=>(QK V.a.ed s).length - z.1) (0,vl,q) oy
  ⟨Lp _,h5.I mo,h0,h4,Lr _,gs.I mo,z0,Z⟩ ?_
 rintro⟨j,vj,qj⟩ g z1 ⟨hj,hS,hk,hT,mq,hU,h6,U⟩;simp only[]at hj hS hk hT mq h6 U;have hqjl:qj.length<=2 ^ (n+n):=by have:=hk.le;rwa [Lo]at this
 refine Zk rfl Z (λgv=>?_) (λgv=>?_)
 ·refine Qt ?_;have z2:(QK V.a.ed s).length<=j:=by have gj:¬(j:Int)<((QK V.a.ed s).length:Int):=gv;omega
  rw[Lx z2]at U;have z3:qj.map Prod.fst=(QK V.a.ed s).foldl (obE V.a V.o V.un d.1) (q.map Prod.fst):=U;rw[<-z3]at O;refine Qr<|Qa<|QC Z Z<|Qb<|⟨(i+1,vj,qj),by show 2 ^ (n+n)+1 - (i+1)<2 ^ (n+n)+1 - i;omega,oy,by show i+1<=qj.length;omega,hS,hk,O⟩
 have hq:j<(QK V.a.ed s).length:=by have gj:(j:Int)<((QK V.a.ed s).length:Int):=gv;omega
 have z4:=Zy (Lm hq);have ms:=pf _ z4.1;rw[QZ hq,LP]at U;refine Zg ((QK V.a.ed s)[j]'hq) λe he=>?_;rw[he]at ms U;refine Qf<|Qd<|Qn<|Qc<|xie (hE.I hS.st) Z Z hq λa69 mt=>?_;rw[he]at mt;refine x (QF mt Z Z)<|QV [sS 0,sS 0,sS 0] λb12 w14 z5 hb12 hB12=>Q6 (Qp e) hB12 oz λY hs15 gx=>xe ?_;have gy:sW z1 Y:=z5.O hs15 hb12;have ha:=hS.I gy;have gz:=hU.I gy;obtain⟨⟨g0,_⟩,he15N⟩:=ha.e d hT;have he15W:=(he15N [] (λ_ hb=>by cases hb)).1;have mu:(d.1.2.2++[e.2.1]).length<=qj.length+1:=by rw[Le,Lz];have:d.1.2.2.length<=q.length:=k9;omega
 refine Qd<|jJ (α:=O7×Nat) (sW Y) (sW Y) ↑Y [oB 0,oB 1,oB 2,oB 3,oB 4,oB 5,oB 7,oB 8] (λi=>if i=10 then[6,9]else if i=11 then[10]else[]) (λi=>if i=10 then[6]else[]) [6,9,10,11,12] [11,12] [11] [oC 13] [(77,77),(80,82),(13,13)] (QnL ↑Y d.1.2.2 e.2.1 e.2.2 d.2.1)
  (λz=>[(82,.agg #[sS e.2.2,d.2.1,z.1]),(13,.pointer (some ⟨z.2,0,none⟩))]) (λz w'=>Qh 3 ↑Y w' z.1 (d.1.2.2++[e.2.1])/\↑Y<=z.2/\QN ↑w' z.2 239 [sS 0,ZY,ZY])
  mixed ol od (xd.Y _ _) (λ_ h=>h) (λ_ _ _ _ _ hc J hb _=>hc.Z J λb hb'=>.inr (hb b hb')) (λ_ hc=>hc.size) (λi _=>Qh4 i) ?_ ?_
 ·rintro g w' ⟨⟨I,e16,h1⟩,⟨b,e17,hb,hB⟩,_⟩ _ _;exact⟨(I,b),⟨e16,e17,La⟩,h1,hb,hB⟩
 refine p (QH Z)<|pq (λ_ hc=>Qj (gx.I hc) Z Z)<|p (QH Z)<|pq (λ_ hc=>Qj (gz.I hc) Z Z)<|p (QH Z)<|pq (λ_ hc=>Qj (gz.I hc) Z Z) <|
  p (QH rfl)<|pq (λ_ hc=>Qj (gx.I hc) Z Z)<|pe ⟨⟨?_,?_,?_,?_,?_,La⟩,?_⟩
 ·rintro g w' hc _ _;exact xg<|(Z0 ((hQ he15W).I hc)).S λr g2 ⟨J,ho⟩=>⟨J,Za ho hc.size,λb hb=>⟨.inl (Jh ho b hb).1,(Jh ho b hb).2⟩⟩
 ·rintro g w' hc _ _;exact Q3 [[sS e.2.1]] λb g2 J hb hB=>⟨J,⟨b,Z,LA hc.size hb,hB⟩,λc h7=>by rw[Lc.1 (show c∈[b] from h7)];exact⟨.inl hb,hB.lt⟩⟩
 ·rintro g w' hc ⟨gu,⟨b,e14,hb14,hB14⟩,_⟩ _;rw[Le,Lz]at mu;refine Q0 (m:=1) (news:=[sS e.2.1]) (L:=[]) (show Qh _ _ _ _ _ from gu) Z e14 Z (hB14.at oe) oo oa hc.size λr g2 ho J hn=>⟨J.S λb hb=>Mh.2 ⟨6,Lj,yF hb⟩,Qh.snoc ho,λb hb=>⟨?_,(Jh ho b hb).2⟩⟩;exact(hn b (Qe0 ho hb)).symm.imp id λh=>Mh.2 ⟨6,Lj,yF h⟩
 ·rintro g w' hc ⟨mv,_⟩ _;refine xv (QD ⟨Z,g0.cells,xR (show Qh _ _ _ _ _ from mv),La⟩) ?_;exact⟨xd.C _ _,⟨_,Z,mv⟩,λc h7=>by cases h7⟩
 ·rintro g w' hc _ _;exact Y0 (us:=[sS 0,ZY,ZY]) Z λb g2 J hb hB=>⟨J,⟨b,Z,LA hc.size hb,hB⟩,λc h7=>by rw[Lc.1 (show c∈[b] from h7)];exact⟨.inl hb,hB.lt⟩⟩
 rintro⟨I,hV⟩ g w16 mw ⟨h8,hW,hX⟩;simp only[]at h8 hW hX;refine pk<|qI [sS e.2.2,d.2.1,I] hX ⟨Z,g0.one,QA h8,La⟩ λhA g3 g4=>⟨mw.O g3 hW,pe ?_⟩;have hC:sW Y hA:=mw.O g3 hW;have my:Qh 3 ↑Y hA I (d.1.2.2++[e.2.1]):=Qg h8 g3 λb hb G=>Uj h8 hX oh (Lc.1 G ▸ hb);have hD:=ha.I hC;have hW7:Qu (bm::ob vj) ↑hA I (d.1.2.2++[e.2.1]):=Qh.ints my oa ha.lt;have mz:Qu (bm::ob vj) ↑hA d.2.1 d.1.2.1:=g0.I hC;have hB817:=gz.I hC;have m0:=gx.I hC;have h13b:∀b∈bm::ob vj,b≠hV:=λb hb=>oq (ha.lt b hb)
 have h13w:hV∉ob I:=Uj h8 hX oh;have hr:(obN V.a V.o V.un d.1 e).2.1=if e.2.1∈V.o then vnx V.a V.o V.un d.1.2.1 e.2.1 else d.1.2.1:=rfl
 have hF:Ss n (obN V.a V.o V.un d.1 e).2.1:=by
  rw[hr];split
  ·rw[<-hn];exact qq _ _ _ _ _
  exact hP
 have m1:obE V.a V.o V.un d.1 (qj.map Prod.fst) e=if yo (qj.map Prod.fst) e.2.2 (obN V.a V.o V.un d.1 e).2.1=true then qj.map Prod.fst else qj.map Prod.fst++[(e.2.2,(obN V.a V.o V.un d.1 e).2.1,d.1.2.2++[e.2.1])]:=rfl
 refine Zg (obN V.a V.o V.un d.1 e).2.1 λest hest=>?_;rw[hest]at hr hF m1;rw[m1]at U;have hesl:=hF.len;have hz17:=hD.st.size;refine QX (α:=O7) [(83,93)] (λ_=>[]) (λz w'=>xd [hV] hA w'/\QN ↑w' hV 239 [sS e.2.2,z,I]/\Qu (bm::ob vj) ↑w' z est) ol ?_ ?_
 ·refine Ql<|Qs Z m0 Z Z<|Qw<|(zZ (h.I hD.st) e.2.1).S ?_;rintro _ hY ⟨rfl,rfl⟩;refine xe<|Zp Z (λg5=>?_) (λg5=>?_)
  ·rw[OY g5]at hr;refine Qf ?_;exact⟨d.2.1,La,xd.C _ _,g4,by rw[hr];exact mz⟩
  rw[OZ g5]at hr;refine Qr<|Qa<|Qs Z hB817 Z Z<|Qs Z m0 Z Z<|Qw<|(qp (est:=d.1.2.1) (h.I hD.st) (hQ mz) (λz hz=>oq (hP.2 z hz)) oa kc e.2.1).S ?_;rintro g6 w19 ⟨g7,hZ⟩;rw[<-hr]at hZ;have hA19:Qu (bm::ob vj) ↑w19 g6 est:=Qh.ints hZ oa hD.lt;refine Q9 Z<|Qo<|Qv (u:=g6) (g4.I g7) Z Z (Mc Z) hA19.one λw20 hG hB1320=>xe ?_;exact⟨g6,La,(g7.S λb hb=>by cases hb).Q hG,hB1320,Qh.ints (Qg hZ hG λb hb G=>Uj hZ (g4.I g7) oh (Lc.1 G ▸ hb)) oa hD.lt⟩
 rintro hw g hY ⟨m2,g8,ga⟩;have m3:sW Y hY:=hC.O m2 hW;have hI18:PcI bm w vj qj hY:=ha.I m3;have m4:=Qg my m2 λb hb G=>h13w (Lc.1 G ▸ hb);have hW18:Qu (bm::ob vj) ↑hY I (d.1.2.2++[e.2.1]):=Qh.ints m4 oa ha.lt;have g9:Ss n [e.2.2]:=Ss.one ms.2.2.2.1 oa;refine Qc<|Qs Z g8 Z Z<|Qo<|Q3 [[sS e.2.2]] λb96 w20 hG hb96 hB96 =>
  Qs rfl (g8.I hG) Z Z<|Qo<|Yj (us:=[[sL b96 1 1],[hw]]) Z Z oh oe ⟨rfl,rfl,ga.cells,rfl,La⟩ λb99 w21 m5 hb99 hB99=>?_
 have m6:=hG.D m5;refine Qw<|(UO (m:=100) (hB99.arr oe (n:=2) (cap:=2) (sz:=1) rfl oh (OG _)) (show Qu [] ↑w21 _ [e.2.2] from(hB96.I m5).arr oe (n:=1) (cap:=1) (sz:=1) rfl oh (Lr _)) (hQ (ga.I m6)) (.inl (Ms _)) (hO g9) (hO hF) oe oa).S ?_;rintro _ w22 ⟨rfl,hs22⟩;refine Qb ?_;have hH:=m6.D hs22;have hf:=hI18.I hH;have ka:=(gy.D m3).D hH;refine Ql<|Qa<|x (Qbt (k:=koA [e.2.2] est) hf.m Z Z)<|x (Zi Z)<|xe ?_;have m7:∀{i:Decidable (koA [e.2.2] est∈qj.map pcK)},(!@decide _ i)=!yo (qj.map Prod.fst) e.2.2 est:=by
  intro i;rw[Qgh,MF];exact Qgg (f:=pcF) hk g9 hF
 refine Q5 rfl (λkb=>?_) (λkb=>?_)
 ·have hI:=Qse (m7.symm.D kb);rw[OY (by rw[hI];exact M0)]at U;refine Ql<|Qa<|Qo<|yI (k:=koA [e.2.2] est) hf.m Z Z Z λw23 hJ hM23=>xe ?_;have m8:∀b∈[bm],b∈bm::ob vj:=λb hb=>by rw[Lc.1 hb];exact Lj
  have hB1323:=(g8.I hH).J hJ λG=>h13b _ (m8 _ G) Z;have hz23:=hJ.size;have hz22:=hf.st.size;refine Qr<|Qa<|Q7 hB1323 Z Z<|Qo<|Q3 [[sS e.2.2,hw,I]] λb109 w24 hK hb109 hB109 =>
   Qo<|Q0 (m:=1) (news:=[sS e.2.2,hw,I]) (L:=[]) (Qm (Qg hf.o hJ λb hb G=>hf.nm (Lc.1 G ▸ hb)) hK) Z Z Z (hB109.at oe) (λu hu=>ZN.all (us:=[sS e.2.2,hw,I]) ⟨rfl,ga.one,hW18.one,La⟩ u hu) oa (oq hK.size) λvr w25 ho25 m9 pc=>Qb<|Qr<|QC Z Z<|Qa<|xe ?_
  have hz24:=hK.size;have hz13:=ka.size;have h8w:=hU.lt;have hnew:=hf.add (p:=((e.2.2,est,d.1.2.2++[e.2.1]),hw,I)) hJ hM23 hK m9 ho25 pc ⟨⟨ga.I hH,La⟩,λL hL=>⟨(Qh.ints m4 oa λb hb=>(Lk.1 hb).elim (λh=>LX (hL b h) ha.st.size) (ha.lt b)).I hH,La⟩⟩;refine⟨(j+1,vr,qj++[((e.2.2,est,d.1.2.2++[e.2.1]),hw,I)]),by show(QK V.a.ed s).length - (j+1)<(QK V.a.ed s).length - j;omega,oy,hq,hnew,?_,Lk.2 (.inl hT),by rw[Le];omega,?_,λG=>?_,?_⟩
  ·show DqP n (OX _ (qj++[_]));rw[Lv];refine hk.add g9 hF (by rw[Lo];exact mu) ?_;rw[Qgh,MF]at hI;exact hI
  ·exact(((hU.I ka).J hJ λG=>h6 (m8 _ G)).I hK).J m9 λG=>h6 (Lh _ G)
  ·rcases Qbx pc _ G with h1|h1
   ·exact h6 h1
   omega
  show((QK V.a.ed s).drop (j+1)).foldl (obE V.a V.o V.un d.1) (OX _ (qj++[_]))=_;rw[Lv];exact U
 have hI:=Qsf (m7.symm.D kb);rw[OZ hI]at U;refine Qf<|Qr<|QC Z Z<|Qa<|xe ?_;exact⟨(j+1,vj,qj),by show(QK V.a.ed s).length - (j+1)<(QK V.a.ed s).length - j;omega,oy,hq,hf,hk,hT,mq,hU.I ka,h6,U⟩
abbrev CqV:=Cq×O7
abbrev cqC (q:CqV):LV:=[sS q.1.1,ZY,q.2]
abbrev cqK (p:CqV):Int:=p.1.1
abbrev cqN (p:CqV):List (O7×LI):=[(p.2,p.1.2)]
abbrev CqI:=QI 239 3 cqC XS cqK (λ_=>[]) cqN
structure CqO (n:Nat)(l:List Cq):Prop where
 s:∀d∈l,0<=d.1/\d.1<(n:Int)
 w:∀d∈l,d.2.length<=l.length
 d:(l.map (·.1)).Nodup
theorem CqO.le {l:List Cq}(h:CqO n l):l.length<=n:=by
 have:=xM n _ h.d λx hx=>by
  obtain⟨d,hd,rfl⟩:=Lt.1 hx;exact h.s d hd
 rwa [Lo]at this
theorem CqO.add {l:List Cq}(h:CqO n l){w:LI}(G:0<=s)(h1:s<(n:Int))(I:w.length<=l.length+1)(J:s∉l.map (·.1)):CqO n (l++[(s,w)]):=by
 refine⟨λd hd=>?_,λd hd=>?_,?_⟩
 ·rcases Lk.1 hd with hd|hd
  ·exact h.s d hd
  rw[Lc.1 hd];exact⟨G,h1⟩
 ·rw[Le,Lz];rcases Lk.1 hd with hd|hd
  ·have:=h.w d hd;omega
  rw[Lc.1 hd];exact I
 rw[Lv,Ml];exact⟨h.d,oe,λa O b hb e=>J ((show b=s by simpa using hb) ▸ e ▸ O)⟩
theorem QdU {f:Nat}{l:List Cq}(h:l.length<=i):csL a o un f i l=none:=by
 cases f with
 | zero=>rfl
 | succ f=>rw[csL,Mk h]
theorem QdT {f:Nat}{l:List Cq}{z:Cq}{v:Int}(h:l[i]?=some z)(ht:a.al.find? (ctd a o un z.1)=some v):csL a o un (f+1) i l=some (z.2,v):=by
 rw[csL,h];simp only[ht]
theorem jt {f:Nat}{l:List Cq}{z:Cq}(h:l[i]?=some z)(ht:a.al.find? (ctd a o un z.1)=none):csL a o un (f+1) i l=csL a o un f (i+1) ((QK a.ed z.1).foldl (csE z) l):=by
 rw[csL,h];simp only[ht]
theorem QoA {p:Int->Bool}{l:LI}{k:Nat}(h:k<l.length):(l.drop k).find? p=if p (l[k]'h)=true then some (l[k]'h) else(l.drop (k+1)).find? p:=by
 rw[QZ h,List.find?_cons];cases G:p (l[k]'h) with
 | true=>rw[OZ rfl]
 | false=>rw[OY M0]
def cnP (N:Nat)(W:LI)(e:Int)(i:Nat)(v:O7)(w:O6):Prop :=
 if i=5 then Qh 3 N w v W else
 ∃b,v=sL b 1 1/\N<=b/\QN ↑w b 3 [sS e]
theorem QlY {W:LI}{e:Int}(i:Nat)(v:O7)(w w':O6)(h:cnP N W e i v w)(G:sW w w'):cnP N W e i v w':=by
 unfold cnP at *;by_cases e5:i=5
 ·rw[OZ e5]at *;exact Qm h G
 rw[OY e5]at *;obtain⟨b,I,h1,h2⟩:=h;exact⟨b,I,h1,h2.I G⟩
theorem QcE {V:VwV}(h:VwA ↑w V)(h9:V.a.st<=9)(pn:V.a.ed.length<=1000):
  QT sV 58 [.pointer (some ⟨V.b,0,none⟩)] w λr w'=>sW w w'/\∃vw,r=.tuple #[vw,sS ((cns V.a V.o V.un).elim (-1) (·.2)),.bool (cns V.a V.o V.un).isNone]/\Yu ↑w ↑w' vw ((cns V.a V.o V.un).elim [] (·.1)):=by
 have hok:=h.ok;have po:=hok.st0;have pp:=hok.al_le;obtain⟨n,hn⟩:∃n:Nat,V.a.st.toNat=n:=⟨_,Z⟩;have pt:n<=9:=oa
 have pu:V.a.st=(n:Int):=oa
 have ko:=hok.ed;obtain⟨rv,gh,gi⟩:=h.r;rw[hn]at gh gi;have h4:cns V.a V.o V.un=if V.a.st=0 then none else csL V.a V.o V.un (n+1) 0 [(0,[])]:=by unfold cns;rw[hn]
 refine Zg (cns V.a V.o V.un) λR hR=>?_;rw[hR]at h4 ⊢;refine Zn func58 ?_;refine Qc<|x Qe<|x Qe<|Qb<|Qd<|Ql<|Z8 Z<|Q9 Z<|Qs Z h.blk Z Z<|x (Zc Z Z)<|xe<|Zh rfl (λU=>?_) (λU=>?_)
 ·have hM:V.a.st=0:=U;rw[OZ hM]at h4;rw[h4];refine Qc<|x Qe<|x Qe<|Qb<|Qk ⟨[ZY,sS (-1),.bool true],oz,xd.C _ _,ZY,Z,Yu.nil _ _⟩
 have hM:¬V.a.st=0:=U;rw[OY hM]at h4;have pw:0<n:=oa
 refine Qf<|Qc<|x (QD La)<|Qo<|Q3 [[sS 0,ZY,ZY]] λhN w1 gj pz gk=>Qb<|Qc<|Qo<|Z1 XS λbm w2 gl p0 kq=>Qo<|QbF (k:=(0:Int)) (X1.zero kq) Z Z Z λw3 gm kr=>Qa<|Qb ?_;have p4:=gj.size;have kt:sW w w3:=(gj.D gl).O gm oa;have ku:CqI bm w (sL hN 1 1) [((0,[]),ZY)] w3:=by
  have p5:=gk.lt;have gn:hN≠bm:=oa
  refine⟨kt,((gk.I gl).J gm (by simp only[oH];exact gn)).own (n:=1) (sz:=3) Z oa oa,λp hp=>?_,kr,λG=>gn (Lc.1 G).symm,oa⟩;rw[Lc.1 hp];exact⟨La,λ_ _=>⟨Zw.nil _ _ _,La⟩⟩
 have kv:CqO n [((0:Int),([]:LI))]:=⟨λd hd=>by rw[Lc.1 hd];exact⟨Ms _,by show(0:Int)<n;omega⟩,λd hd=>by rw[Lc.1 hd];exact Lp _,oe⟩;refine Qd<|Qc<|Qb<|QY (α:=Nat×O7×List CqV) [(2,5),(7,8),(10,10),(12,12),(23,86)] (λz=>[(5,z.2.1),(7,sS z.1)]) (λz w'=>z.1<=z.2.2.length/\CqI bm w z.2.1 z.2.2 w'/\CqO n (z.2.2.map Prod.fst)/\R=csL V.a V.o V.un (n+1 - z.1) z.1 (z.2.2.map Prod.fst)) (λz=>n+1 - z.1) (0,sL hN 1 1,[((0,[]),ZY)]) oy ⟨Lp _,ku,kv,h4⟩ ?_;rintro⟨i,vl,q⟩ g w4 ⟨hi,hw,h6,Y⟩;simp only[]at hi hw h6 Y;have p6:q.length<=n:=by have:=h6.le;rwa [Lo]at this
 have gq:Zw [] ↑w4 vl q.length 3 (q.flatMap cqC):=QO hw.o oa oe;refine Qd<|Ql<|Qa<|QG gq Z<|ZT Z Z<|xe<|Zp rfl (λhO=>?_) (λhO=>?_)
 ·refine Qt ?_;have kw:q.length<=i:=by have U:¬(i:Int)<(q.length:Int):=hO;omega
  rw[QdU (by rw[Lo];exact kw)]at Y;rw[Y];refine Qc<|x Qe<|x Qe<|Qb<|Qk ⟨[ZY,sS (-1),.bool true],oz,hw.st,ZY,Z,Yu.nil _ _⟩
 have h7:i<q.length:=by have U:(i:Int)<(q.length:Int):=hO;omega
 have kx:n+1 - i=(n+1 - (i+1))+1:=oa
 have h8:=Lm h7;have hP:(q.map Prod.fst)[i]?=some (q[i]'h7).1:=by rw[MO,LE h7];rfl
 refine Zg (q[i]'h7) λd hp=>?_;rw[hp]at h8 hP;rw[kx]at Y;have gr:=(hw.e d h8).2;have kz:=(gr [] (λ_ hb=>by cases hb)).1;have gs:=h6.s d.1 (LL h8);have hQ:=h6.w d.1 (LL h8);rw[Lo]at hQ;have k0:∀{v:O7} {l:LI} {L:LN} {H:xG},Qu L H v l->Qu [] H v l:=λhv=>hv.up λb hb=>by cases hb
 refine Qf<|Qd<|Qn<|Ql<|Qa<|xo (g:=cqC) (i:=i) (λ_=>Z) gq Z Z h7 λp7 gt=>?_;rw[hp]at gt;refine x (QF (us:=cqC d) gt Z Z)<|QV [sS 0,ZY,ZY] λb8 w5 k4 k5 k6=>Q6 (cqC d) k6 ⟨Z,Z,kz.one,La⟩ λw6 k9 ma=>xe ?_;have gu:sW w4 w6:=k4.O k9 k5;have hS:=hw.I gu;have gv:=(h.I hS.st).a.al;refine Qd<|Ql<|Z8 Z<|Q9 Z<|Qs Z (h.blk.I hS.st) Z Z<|QG gv Z<|Qa<|xe ?_;obtain⟨s,I⟩:∃s,d.1.1=s:=⟨_,Z⟩;rw[I]at gs;have mc:(V.a.al.drop 0).find? (ctd V.a V.o V.un s)=V.a.al.find? (ctd V.a V.o V.un d.1.1):=by rw[I,NQ]
 refine QY (α:=Nat) [(2,4),(10,10),(39,51)] (λz=>[(39,sS z)]) (λz w'=>z<=V.a.al.length/\sW w6 w'/\(V.a.al.drop z).find? (ctd V.a V.o V.un s)=V.a.al.find? (ctd V.a V.o V.un d.1.1)) (λz=>V.a.al.length - z) 0 Lb ⟨Lp _,xd.C _ _,mc⟩ ?_;rintro k g w7 ⟨hk,hA,ha⟩;have hy:=hS.I hA;have hF:=ma.I hA;have mf:=gu.D hA;refine Zk rfl Z (λhT=>?_) (λhT=>?_)
 ·refine Qt ?_;have mg:V.a.al.length<=k:=by have U:¬(k:Int)<(V.a.al.length:Int):=hT;omega
  rw[Lx mg]at ha;rw[jt hP ha.symm,I]at Y;have gx:s=(s.toNat:Int):=oa
  have gy:s.toNat<n:=oa
  have hE:=gi s.toNat gy;rw[<-gx]at hE;have p8:=Yg V.a.ed s;have mh:s.toNat<(oM n).length:=by rw[Mg];exact gy
  have mj:(sS d.1.1)=sS (s.toNat:Int):=by rw[I];exact O0 _ gx
  refine Qd<|ZK [] (Xj 0 10 [])<|p Qx<|p (YT Z)<|p (QH Z)<|pq (λ_ hc=>Qj ((h.blk.I hy.st).I hc) Z Z)<|p (QH Z)<|pq (λ_ hc=>Qj (hF.I hc) Z Z) <|
   Lg.pig (g:=λj:Nat=>[rv j]) (i:=s.toNat) Z (λ_=>Z) (gh.I hy.st) Z (show Go.Lg.ev _ _=_ from mj) mh λp9 gz=>?_
  rw[Mx]at gz;refine pq (λ_ hc=>Qq (u:=rv s.toNat) (gz.I hc) Z)<|p (λ_=>Y4 (hE.I hy.st) Z)<|p Qx<|pe ?_;have g0:sW w7 { w7 with drawn:=w7.drawn+1 }:=xd.Y _ _
  have mo:b8∉bm::ob vl:=λG=>oq (hw.lt _ G)
  refine QY (α:=Nat×O7×List CqV) [(5,5),(12,12),(61,86)] (λz=>[(5,z.2.1),(61,sS z.1)]) (λz w'=>z.1<=(QK V.a.ed s).length/\CqI bm w z.2.1 z.2.2 w'/\CqO n (z.2.2.map Prod.fst)/\d∈z.2.2/\q.length<=z.2.2.length/\QN ↑w' b8 239 (cqC d)/\b8∉bm::ob z.2.1/\((QK V.a.ed s).drop z.1).foldl (csE d.1) (z.2.2.map Prod.fst)=(QK V.a.ed s).foldl (csE d.1) (q.map Prod.fst)) (λz=>(QK V.a.ed s).length - z.1) (0,vl,q) oy
   ⟨Lp _,hy.I g0,h6,h8,Lr _,hF.I g0,mo,Z⟩ ?_
  rintro⟨j,vj,qj⟩ g w8 ⟨hj,hh,hC,hG,g2,g3,hz,O⟩;simp only[]at hj hh hC hG g2 hz O;have qf:qj.length<=n:=by have:=hC.le;rwa [Lo]at this
  refine Zk Z Z (λhU=>?_) (λhU=>?_)
  ·refine Qt ?_;have mq:(QK V.a.ed s).length<=j:=by have U:¬(j:Int)<((QK V.a.ed s).length:Int):=hU;omega
   rw[Lx mq]at O;have ms:qj.map Prod.fst=(QK V.a.ed s).foldl (csE d.1) (q.map Prod.fst):=O;rw[<-ms]at Y;refine Qr<|Qa<|QC Z Z<|Qb<|⟨(i+1,vj,qj),by show n+1 - (i+1)<n+1 - i;omega,oy,by show i+1<=qj.length;omega,hh,hC,Y⟩
  have h0:j<(QK V.a.ed s).length:=by have U:(j:Int)<((QK V.a.ed s).length:Int):=hU;omega
  have mt:=Zy (Lm h0);have g4:=ko _ mt.1;rw[QZ h0,LP]at O;refine Zg ((QK V.a.ed s)[j]'h0) λe he=>?_;rw[he]at g4 O;refine Qf<|Qd<|Qn<|Qc<|xie (hE.I hh.st) Z Z h0 λql g5=>?_;rw[he]at g5;refine x (QF g5 Z Z)<|QV [sS 0,sS 0,sS 0] λhV w9 mu g6 mv=>Q6 (Qp e) mv oz λmw my hW=>xe ?_;have hX:sW w8 mw:=mu.O my g6;have J:=hh.I hX;have g7:=g3.I hX;have g8:csE d.1 (qj.map Prod.fst) e=if e.2.2∈(qj.map Prod.fst).map Prod.fst then qj.map Prod.fst else qj.map Prod.fst++[(e.2.2,d.1.2++[e.2.1])]:=rfl
  have g9:(qj.map Prod.fst).map Prod.fst=qj.map cqK:=MF;rw[g9]at g8;rw[g8]at O;refine Ql<|Qs Z hW Z Z<|x (Qbt (k:=e.2.2) J.m Z Z)<|x (Zi Z)<|xe<|Q5 Z (λhY=>?_) (λhY=>?_)
  ·have hH:=VK hY;rw[OY hH]at O;refine Ql<|Qs Z hW Z Z<|Qo<|yI (k:=e.2.2) J.m Z Z Z λhf hq mz=>xe ?_;have hZ:∀b∈[bm],b∈bm::ob vj:=λb hb=>by rw[Lc.1 hb];exact Lj
   have m0:hV∉[bm]:=λG=>by have:=hh.lt bm Lj;rw[Lc.1 G]at g6;omega
   have ka:=hW.J hq m0;have kb:=g7.J hq λG=>hz (hZ _ G);have m1:=((J.e d hG).2 [] (λ_ hb=>by cases hb)).1;have m2:Qu [] ↑hf d.2 d.1.2:=k0 (m1.J hq hZ);have q4:=J.st.size;have q5:=hq.size;have m3:=Qg J.o hq λb hb G=>J.nm (Lc.1 G ▸ hb);refine Qej (α:=O7×Nat) (xd (ob vj) hf) (sW hf) [oB 0,oB 1,oB 2,oB 3,oB 4,oB 6,oB 7] (λ_=>[]) [5,8] [oC 9,oB 10,oC 11,oC 12,oB 13] [(78,78),(81,81)] (cnP ↑hf d.1.2 e.2.1)
    (λz=>[(78,z.1),(81,.slice (some ⟨z.2,0,none⟩) 1 1)]) (λz w'=>Qh 3 ↑hf w' z.1 d.1.2/\z.2∉ob z.1/\QN ↑w' z.2 3 [sS e.2.1])
    mixed ol od (xd.Y _ _) (λ_ h=>h.any) (λ_ _ hc I=>hc.D I) QlY ?_ ?_
   ·rintro g w' ⟨h5,⟨b,e8,hb,hB⟩,_⟩ m4;refine⟨(_,b),⟨Z,e8,La⟩,h5,λG=>?_,hB⟩;have:=m4 5 oe 8 oe oh b (yF G);rw[e8]at this;exact this Lj
   refine p Qx<|p (QH Z)<|pq (λ_ hc=>Qj (ka.J hc ?_) Z Z)<|p (QH Z)<|pq (λ_ hc=>Qj (kb.J hc λG=>hz (Lh _ G)) Z Z) <|
    p (QH rfl)<|pq (λ_ hc=>Qj (ka.J hc ?_) Z Z)<|pe ⟨⟨?_,?_,La⟩,?_⟩
   ·exact λG=>oq (hh.lt hV (Lh _ G))
   ·exact λG=>oq (hh.lt hV (Lh _ G))
   ·rintro g w' hc _;exact xg<|(Z0 (m2.I hc)).S λr m5 ⟨I,ho⟩=>⟨I,Za ho hc.size,Jh ho⟩
   ·rintro g w' hc _;exact Q3 [[sS e.2.1]] λb m5 I hb hB=>⟨I,⟨b,Z,LA hc.size hb,hB⟩,λc m6=>by rw[Lc.1 (show c∈[b] from m6)];exact⟨hb,hB.lt⟩⟩
   rintro⟨vc,j1⟩ g m7 ga ⟨gb,m8,kc⟩;simp only[]at gb m8 kc;have ke:=Qi gb;have j2:d.1.2.length<=9:=by have:d.1.2.length<=q.length:=hQ;omega
   refine pk<|Q0 (m:=1) (news:=[sS e.2.1]) (L:=[]) gb Z Z Z (kc.at oe) oo oa ga.size λhr kf m9 kg j3=>⟨(ga.Z kg λb hb=>.inr (ke b hb).1).any,?_⟩;have kh:sW hf kf:=ga.Z kg λb hb=>.inr (ke b hb).1;have gc:Qh 3 ↑hf kf hr (d.1.2++[e.2.1]):=Qh.snoc m9;refine p (λ_=>QD ⟨Z,xR gc,La⟩)<|pk<|Q3 [[sS e.2.2,ZY,hr]] λj4 za ge z0 pc=>⟨(kh.D ge).any,?_⟩;have hg:=kh.D ge;refine pk<|Q0 (m:=1) (news:=[sS e.2.2,ZY,hr]) (L:=[]) (Qm m3 hg) Z Z Z (pc.at oe) (λu hu=>ZN.all (us:=[sS e.2.2,ZY,hr]) ⟨rfl,rfl,QA gc,La⟩ u hu) oa (oq hg.size) λvr ki pd h3 hI=>⟨hg.any.Q h3,?_⟩;refine p ZH<|pe ?_;refine Qr<|QC Z Z<|Qa<|xe ?_;have z1:=hg.size;have z2:=hX.size;have z3:=g3.lt;have kj:=J.nm;have kk:∀b∈bm::ob vj,b<hf.heap.size:=λb hb=>oq (J.lt b hb)
   have pf:∀L:LN,(∀b∈L,b<↑w)->Qu (L++bm::ob vr) ↑ki hr (d.1.2++[e.2.1]):=λL hL=>Zw.grow ((Qh.ints gc (by rw[Le,Lz];omega) λb hb=>(Lk.1 hb).elim (λh=>oq (hL b h)) (kk b)).I ge) h3 (λb hb=>Lk.2 (.inr (Lh _ hb))) (Qbw L hI);have pg:CqI bm w vr (qj++[((e.2.2,d.1.2++[e.2.1]),hr)]) ki:=by
    refine⟨((J.st.Z hq λb hb=>.inr (by rw[Lc.1 hb];exact J.hb)).D hg).Z h3 λb hb=>.inr (Qi J.o b hb).1,?_,λp' hD=>?_,?_,λph=>?_,J.hb⟩
    ·rw[LJ,Nh,Le,Lz];exact pd
    ·rcases Lk.1 hD with hD|hD
     ·exact⟨La,λL hL=>((((J.e p' hD).2 L hL).J hq λb hb=>Lk.2 (.inr (hZ b hb))).I hg).grow h3 (λb hb=>Lk.2 (.inr (Lh _ hb))) (Qbw L hI)⟩
     rw[Lc.1 hD];exact⟨La,λL hL=>⟨pf L hL,La⟩⟩
    ·rw[Lv];exact(mz.I hg).J h3 kj
    rcases hI _ ph with h1|h1
    ·exact kj h1
    have:=kk bm Lj;omega
   refine⟨(j+1,vr,qj++[((e.2.2,d.1.2++[e.2.1]),hr)]),by show(QK V.a.ed s).length - (j+1)<(QK V.a.ed s).length - j;omega,oy,h0,pg,?_,Lk.2 (.inl hG),by rw[Le];omega,?_,λG=>?_,?_⟩
   ·show CqO n (OX _ (qj++[_]));rw[Lv];refine hC.add g4.2.2.2.1 oa (by rw[Le,Lz,Lo];have:d.1.2.length<=q.length:=hQ;omega) ?_;rw[g9];exact hH
   ·exact(kb.I hg).J h3 λG=>hz (Lh _ G)
   ·rcases Qbx hI _ G with h1|h1
    ·exact hz h1
    omega
   show((QK V.a.ed s).drop (j+1)).foldl (csE d.1) (OX _ (qj++[_]))=_;rw[Lv];exact O
  have hH:=Kw hY;rw[OZ hH]at O;refine Qf<|Qr<|QC Z Z<|Qa<|xe ?_;exact⟨(j+1,vj,qj),by show(QK V.a.ed s).length - (j+1)<(QK V.a.ed s).length - j;omega,oy,h0,J,hC,hG,g2,g7,hz,O⟩
 have hJ:k<V.a.al.length:=by have U:(k:Int)<(V.a.al.length:Int):=hT;omega
 rw[QoA hJ]at ha;refine Qf<|Qd<|Qn<|Qc<|xii (i:=k) (gv.I hA) Z Z hJ λz4 kn=>?_;refine Zg (V.a.al[k]'hJ) λv hv=>?_;rw[hv]at kn ha;refine x (Qq kn Z)<|Qb ?_;have hct:=QiZ (v:=v) (h.I hy.st) gs.1 oa h9;rw[<-I]at hct;refine Ql<|Qs Z hF Z Z<|Qa<|Qw<|hct.S ?_;rintro _ m7 ⟨rfl,hK⟩;refine xe ?_;rw[<-I]at ha;refine Q5 rfl (λgg=>?_) (λgg=>?_)
 ·rw[OZ gg]at ha;rw[QdT hP ha.symm]at Y;rw[Y];refine Qc<|Qs Z (hF.I hK) Z Z<|Qa<|x Qe<|x Qe<|Qb<|Qk ⟨[d.2,sS v,.bool false],oz,hy.st.D hK,d.2,Z,λL hL=>((gr L hL).1.I (mf.D hK)).up λb hb=>.inl (Lk.2 (.inl hb))⟩
 rw[OY (λh=>M0 (gg.symm.D h)),I]at ha;refine Qf<|Qr<|QC Z Z<|Qa<|xe ?_;exact⟨k+1,by show V.a.al.length - (k+1)<V.a.al.length - k;omega,Lb,hJ,hA.D hK,by rw[I];exact ha⟩
structure Z7 (l:LI):Prop where
 b:∀x∈l,0<=x/\x<32
 i:YD l
theorem Z7.ck {l:LI}(h:Z7 l):Ki 32 none l=0:=Qck h.b h.i
theorem Z7.nil:Z7 []:=⟨(λ_ h=>by cases h),List.Pairwise.nil⟩
structure Pl9 (a:Qz):Prop where
 ok:QL a
 s9:a.st<=9
 e:a.ed.length<=1000
theorem VJ (h:Zv [] ↑w va vm ve a)(J:Qu [] ↑w vo o)(hU:Qu [] ↑w vu un)(G:Pl9 a)(ho:Z7 o)(hu:Z7 un):
  QT sV 56 [.agg #[va,sS a.st,vm,ve],vo,vu] w λr w'=>sW w w'/\∃V:VwV,r=.tuple #[.pointer (some ⟨V.b,0,none⟩),sS 0]/\VwA ↑w' V/\V.a=a/\V.o=o/\V.un=un:=by
 refine Zn func56 ?_;refine Qc<|Zd [va,sS a.st,vm,ve] λb3 w1 he hG hf=>x Qe<|Qb ?_;have hA:=Xb (h.I he);rw[(ZA a).2 G.ok]at hA;refine Qd<|Qc<|Q7 hf Z Z<|Qw<|hA.S ?_;rintro _ w2 ⟨rfl,hg⟩;refine Qb<|Ql<|ZS Z Z<|xe<|ZC rfl<|Qf ?_;have hr:=he.D hg;refine Qd<|Ql<|Qa<|Qo<|Yj (us:=[[vo],[vu]]) Z Z oh oe ⟨J.cells,rfl,hU.cells,rfl,La⟩ λhs w3 hh hH hw=>?_;have hj:Zw [] ↑w3 (sL hs 2 2) 2 1 [vo,vu]:=hw.arr oe (n:=2) (cap:=2) (sz:=1) rfl oh (Lr _);have hy:=hr.D hh;refine QG hj Z<|Qa<|xe<|QY (α:=Nat) [(6,7),(10,11),(24,33)] (λz=>[(24,sS z)]) (λz w'=>z<=2/\sW w3 w') (λz=>2 - z) 0 Lb ⟨Lp _,xd.C _ _⟩ ?_;rintro i g w4 ⟨hi,O⟩;have I:=hy.D O;have hk:=((hf.I hg).I hh).I O;refine Zk rfl Z (λhm=>?_) (λhm=>?_)
 ·refine Qt<|Qd<|Qc<|Q7 hk Z Z<|Qa<|Qw<|(jP (h.I I) (J.I I) G.ok ho.b ho.i G.s9 G.e).S ?_;rintro _ w5 ⟨hz,_,vt,rfl,hI,h0,h3,h4,rfl,h5⟩;have ha:=h5 [] (λ_ h=>by cases h);refine Qa<|QS Z Z<|QS Z Z<|QS Z Z<|QV Kf λhJ w6 h6 h7 h8=>Q6 [h0,sS (ZI a o).st,h3,h4] h8 ⟨ha.al.one,Z,ha.mr.one,ha.ed.one,La⟩ λw7 h9 hK=>x Qe<|Qb ?_;have hB:sW w5 w7:=h6.O h9 h7;have hn:=hz.D hB;have U:=I.D hn;refine Ql<|ZS Z Z<|xe<|ZC Z<|Qf<|Qc<|Q7 (hk.I hn) Z Z<|Qa<|Qa<|Qw<|(Qp1 (h.I U) (J.I U) (hU.I U) G.ok).S ?_;rintro _ w8 ⟨hD,V,rfl,hV,e1,e2,e3⟩;refine x Qe<|Qb<|Qk ⟨[_,sS 0],oy,U.D hD,V,Z,hV,e1,e2,e3⟩
 have Y:i<2:=by have hL:(i:Int)<(2:Nat):=hm;omega
 have hE:∃l,Qu [] ↑w4 ([vo,vu][i]'Y) l/\Ki 32 none l=0:=by
  have hF:i=0\/i=1:=oa
  rcases hF with rfl|rfl
  ·exact⟨o,J.I I,ho.ck⟩
  exact⟨un,hU.I I,hu.ck⟩
 obtain⟨l,hl,hck⟩:=hE;refine Qf<|Qd<|Qn<|Qc<|xo (g:=λv:O7=>[v]) (es:=[vo,vu]) (i:=i) (λ_=>Z) (hj.I O) Z Z Y λhM hq=>?_;refine Zg ([vo,vu][i]'Y) λv hv=>?_;rw[hv]at hl hq;refine x (Qq (u:=v) hq Z)<|Qb ?_;have hC:=zq hl 32;rw[hck]at hC;refine Ql<|Qw<|hC.S ?_;rintro _ w9 ⟨rfl,rfl⟩;refine Qb<|Ql<|ZS Z Z<|xe<|ZC rfl<|Qf<|Qr<|QC Z Z<|Qa<|xe ?_;exact⟨i+1,by show 2 - (i+1)<2 - i;omega,Lb,Y,O⟩
theorem Qem (h:Zv [] ↑w va vm ve a)(O:Qu [] ↑w vo o)(I:Pl9 a)(U:Z7 o):
  QT sV 17 [.agg #[va,sS a.st,vm,ve],vo] w λr w'=>sW w w'/\∃vw vt,r=.tuple #[vw,vt,.bool (obs a o []).isNone,sS 0]/\Yu ↑w ↑w' vw ((obs a o []).elim [] (·.1))/\Yu ↑w ↑w' vt ((obs a o []).elim [] (·.2)):=by
 refine Zn func17 ?_;refine Qc<|Zd [va,sS a.st,vm,ve] λb2 Y G hf ha=>x Qe<|x Qe<|x Qe<|Qb<|Qc<|Q7 ha Z Z<|Qa<|Qw<|(VJ (h.I G) (O.I G) (QbK [] ↑Y) I U Z7.nil).S ?_;rintro _ w2 ⟨J,V,rfl,hV,rfl,rfl,e3⟩;refine Qa<|QS Z Z<|QS Z Z<|x Qe<|Qb<|Qd<|Ql<|ZS Z Z<|xe<|ZC rfl<|Qf ?_;have hR:=QcD hV I.s9 I.e;rw[e3]at hR;refine Ql<|Qw<|hR.S ?_;rintro _ w3 ⟨he,vw,vt,rfl,hw,ht⟩;refine Qa<|QS Z Z<|QS Z Z<|QS Z Z<|x Qe<|x Qe<|Qb<|Ql<|Qa<|Qa<|x Qe<|x Qe<|x Qe<|Qb<|Qk ⟨[vw,vt,_,sS 0],oA,(G.D J).D he,vw,vt,Z,hw.S (G.D J).size,ht.S (G.D J).size⟩
theorem zK (h:Zv [] ↑w va vm ve a)(O:Qu [] ↑w vo o)(hU:Qu [] ↑w vu un)(I:Pl9 a)(U:Z7 o)(Y:Z7 un):
  QT sV 18 [.agg #[va,sS a.st,vm,ve],vo,vu] w λr w'=>sW w w'/\∃vw,r=.tuple #[vw,sS ((cns a o un).elim (-1) (·.2)),.bool (cns a o un).isNone,sS 0]/\Yu ↑w ↑w' vw ((cns a o un).elim [] (·.1)):=by
 refine Zn func18 ?_;refine Qc<|Zd [va,sS a.st,vm,ve] λb3 w1 G hf ha=>x Qe<|x Qe<|x Qe<|Qb<|Qc<|Q7 ha Z Z<|Qa<|Qa<|Qw<|(VJ (h.I G) (O.I G) (hU.I G) I U Y).S ?_;rintro _ w2 ⟨J,V,rfl,hV,rfl,rfl,rfl⟩;refine Qa<|QS Z Z<|QS Z Z<|x Qe<|Qb<|Qd<|Ql<|ZS Z Z<|xe<|ZC rfl<|Qf<|Ql<|Qw<|(QcE hV I.s9 I.e).S ?_;rintro _ w3 ⟨he,vw,rfl,hw⟩;refine Qa<|QS Z Z<|QS Z Z<|QS Z Z<|x Qe<|x Qe<|Qb<|Ql<|Qa<|Qa<|x Qe<|x Qe<|x Qe<|Qb<|Qk ⟨[vw,_,_,sS 0],oA,(G.D J).D he,vw,Z,hw.S (G.D J).size⟩
theorem Z7.len {l:LI}(h:Z7 l):l.length<=32:=xM 32 l (h.i.imp λG e=>oa) h.b
theorem Z7.fil {l:LI}(h:Z7 l)(p:Int->Bool):Z7 (l.filter p):=⟨λx hx=>h.b x (LB.1 hx).1,h.i.filter p⟩
theorem Z7.ins {l:LI}(v:Int):Z7 (ins l v):=⟨λ_ hx=>(UA.1 hx).1,KQ 32 _⟩
theorem Qk5 {l:LI}{v:Int}(h:Z7 l)(G:v∉l)(I:0<=v)(h1:v<32):((l++[v]).mergeSort λx y=>decide (x<=y))=ins l v:=by
 refine QaI ?_ λx hx=>?_
 ·rw[Ml];exact⟨h.i.imp λO e=>oa,oe,λa J b hb e=>G ((Lc.1 hb) ▸ e ▸ J)⟩
 rcases Lk.1 hx with hx|hx
 ·exact h.b x hx
 rw[Lc.1 hx];exact⟨I,h1⟩
theorem QqO {W:O6}{J O:Nat}{set:LI}(h:Zv [] ↑W va vm ve a)(ha:QN ↑W J 53 [va,sS a.st,vm,ve])(he:QN ↑W O 47 [vu])(hU:Qu [] ↑W vu un)(hS:Qu [] ↑W vs set)(G:Pl9 a)(ho:Z7 set)(hu:Z7 un):
  QT sV 59 [vs,sP J,sP O] W λr w'=>r=.tuple #[.bool (hld a un set),sS 0]/\sW W w':=by
 refine Zn func59 ?_;refine Qc<|x Qe<|Qb<|Qc<|Q7 ha Z Z<|Qa<|ZD he Z Z<|Qw<|(VJ h hS hU G ho hu).S ?_;rintro _ w1 ⟨hf,V,rfl,U,rfl,rfl,rfl⟩;refine Qa<|QS Z Z<|QS Z Z<|x Qe<|Qb<|Qd<|Ql<|ZS Z Z<|xe<|ZC rfl<|Qf<|Ql<|Qw<|(QcD U G.s9 G.e).S ?_;rintro _ w2 ⟨Y,vw,vt,rfl,_,_⟩;refine Qa<|QS Z Z<|QS Z Z<|QS Z Z<|x Qe<|x Qe<|Qb<|Ql<|Qw<|(QcE (U.I Y) G.s9 G.e).S ?_;rintro _ w3 ⟨hg,hj,rfl,_⟩;refine Qa<|QS Z Z<|QS Z Z<|QS Z Z<|x Qe<|x Qe<|Qb ?_;have hh:=(hf.D Y).D hg;refine QX (α:=Unit) [(4,5),(36,39)] (λ_=>[(4,.bool (hld V.a V.un V.o)),(5,sS 0)]) (λ_ w'=>w'=w3) ol ?_ ?_
 ·refine Qr<|xB Vk (λI=>?_) (λI=>?_)
  ·refine Qa<|Qa<|QB Z<|x Qe<|Qb<|⟨(),⟨O0 Value.bool (by unfold hld;rw[I];rfl),Z,La⟩,Z⟩
  refine Qa<|Kd<|QB Z<|x Qe<|Qb<|⟨(),⟨O0 Value.bool (by unfold hld;rw[I];rfl),Z,La⟩,Z⟩
 rintro _ g _ rfl;exact Qk ⟨[_,_],oy,Z,hh⟩
theorem QoD {W:O6}{b:Nat}{v:Int}(G:QN ↑W b 3 [sS v])(e:Int):
  QT sV 65 [sS e,sP b] W λr w'=>r=.bool (decide (e=v))/\w'=W:=by
 refine Zn func65 ?_;refine Qc<|Qb<|Ql<|ZD G Z Z<|x (Zc Z Z)<|Qb<|Qk ⟨[_],Lb,Z,Z⟩
theorem QcA {l:LI}{z:LI×LI}(h:hld a un z.1=true):zL a un l z=z:=by
 cases l with
 | nil=>rfl
 | cons v l=>rw[zL,OZ h]
theorem QpL {l:LI}{z:LI×LI}{k:Nat}(G:k<l.length)(h:hld a un z.1=false):zL a un (l.drop k) z=zL a un (l.drop (k+1)) (if l[k]'G∈z.1 then z else(ins z.1 (l[k]'G),z.2++[l[k]'G])):=by
 rw[QZ G,zL,OY (by rw[h];exact M0)]
theorem QiL (h:Zv [] ↑w va vm ve a)(hO:Qu [] ↑w vo o)(hU:Qu [] ↑w vu un)(hp:Pl9 a)(ho:Z7 o)(hu:Z7 un):
  QT sV 22 [.agg #[va,sS a.st,vm,ve],vo,vu] w λr w'=>sW w w'/\∃vw,r=.tuple #[vw,sS 0]/\Qh 3 ↑w w' vw (KC a o un)/\Z7 (KC a o un):=by
 have hok:=hp.ok;have k6:=hok.al_le;have hX:Z7 a.al:=⟨hok.al,hok.ali⟩;refine Zg (KC a o un) λE hE=>?_;refine Zn func22 ?_;refine Qc<|Zd [va,sS a.st,vm,ve] λb3 w1 gx k9 gy=>Qo<|zg (us:=[vu]) hU.cells λb5 w2 hY ma hZ=>x Qe<|Qb ?_;have h0:=gx.D hY;have h9:=gy.I hY;refine Qc<|Q7 h9 Z Z<|Qa<|ZD hZ Z Z<|Qw<|(VJ (h.I h0) (hO.I h0) (hU.I h0) hp ho hu).S ?_;rintro _ G ⟨h3,V,rfl,hV,gz,g0,mc⟩;have hq:=h0.D h3;have g2:=hq.size;refine Qa<|QS Z Z<|QS Z Z<|x Qe<|Qb<|Qd<|Ql<|ZS Z Z<|xe<|ZC rfl<|Qf<|Qc<|x (Zl (l:=[]) (l':=[.tmp 3,.tmp 5]))<|Qb ?_;have hK:=Qag hV;rw[gz,g0]at hK;refine Ql<|Qw<|hK.S ?_;rintro v4 w4 ⟨hA,g3⟩;refine Qb ?_;have g4:=hq.D hA;have g5:=(h9.I h3).I hA;have g6:Z7 (kpt a o):=hX.fil _;refine Qc<|Qb ?_;have g7:=hA;have g8:=h9.I h3;have g9:=hZ.I h3;have ga:∀{W:O6} {vs:O7} {set:LI},sW G W->Qh 3 ↑G W vs set->Z7 set->QT sV 59 [vs,sP b3,sP b5] W λr w'=>r=.tuple #[.bool (hld a un set),sS 0]/\sW W w' :=
  λhW hS hs=>QqO (h.I (hq.D hW)) (g8.I hW) (g9.I hW) (hU.I (hq.D hW)) (Qh.ints hS (oq hs.len) oe) hp hs hu
 have hB:KC a o un=(zL a un a.al (kpt a o,[])).2.foldl (xtD a un) (zL a un a.al (kpt a o,[])).1:=rfl;rw[hE]at hB ⊢;have gb:zL a un (a.al.drop 0) (kpt a o,[])=zL a un a.al (kpt a o,[]):=by rw[NQ]
 refine Zg (zL a un a.al (kpt a o,[])) λR hR=>?_;rw[hR]at hB gb;refine QX (α:=O7×O7) [(6,7),(11,12),(14,16),(32,66)] (λz=>[(11,z.1),(12,z.2)]) (λz w'=>sW G w'/\Qh 3 ↑G w' z.1 R.1/\Qh 3 ↑G w' z.2 R.2/\Z7 R.1/\R.2.length<=32) ol ?_ ?_
 ·refine Qc<|Qs Z g5 Z Z<|QG (h.al.I g4) Z<|Qa<|xe<|QY (α:=Nat×O7×O7×LI×LI) [(6,7),(11,12),(14,16),(38,66)] (λz=>[(11,z.2.1),(12,z.2.2.1),(38,sS z.1)]) (λz w'=>z.1<=a.al.length/\sW G w'/\Qh 3 ↑G w' z.2.1 z.2.2.2.1/\Qh 3 ↑G w' z.2.2.1 z.2.2.2.2/\Dj z.2.1 z.2.2.1/\Z7 z.2.2.2.1/\z.2.2.2.2.length<=z.1/\zL a un (a.al.drop z.1) (z.2.2.2.1,z.2.2.2.2)=R) (λz=>a.al.length - z.1) (0,v4,ZY,kpt a o,[]) oz
   ⟨Lp _,g7,g3,QM _ _ _ _,Dj.nil' _,g6,Lr _,gb⟩ ?_
  rintro⟨k,vs,vd,set,add⟩ g w5 ⟨hk,hr,O,he,h4,hsE,ka,Y⟩;simp only[]at hk O he h4 hsE ka Y;have kb:=hsE.len;refine Zk Z Z (λhC=>?_) (λhC=>?_)
  ·refine Qt ?_;have hD:a.al.length<=k:=by have hF:¬(k:Int)<(a.al.length:Int):=hC;omega
   rw[Lx hD]at Y;have hf:R=(set,add):=Y.symm;exact⟨(vs,vd),oy,hr,by rw[hf];exact O,by rw[hf];exact he,by rw[hf];exact hsE,by rw[hf];show add.length<=32;omega⟩
  have U:k<a.al.length:=by have hF:(k:Int)<(a.al.length:Int):=hC;omega
  have hG:=hX.b _ (Lm U);refine Qf<|Qd<|Qn<|Qc<|xii (i:=k) (h.al.I (hq.D hr)) Z Z U λmf gc=>?_;have hgo:=QpL (a:=a) (un:=un) (z:=(set,add)) U;refine Zg (a.al[k]'U) λv hv=>?_;rw[hv]at gc hgo hG;refine x (Qq gc Z)<|Qb<|Ql<|Qa<|Qo<|xc (first:=[]) (capt:=[sP b3,sP b5]) Z<|(ga hr O hsE).S ?_;rintro _ w6 ⟨rfl,I⟩;refine Qa<|QS Z Z<|QS Z Z<|x Qe<|Qb ?_;have hg:=hr.D I;refine Qd<|Ql<|ZS Z Z<|xe<|ZC Z<|Qf<|Qd<|Ql<|xe<|Q5 Z (λhH=>?_) (λhH=>?_)
  ·refine Qt ?_;have hI:hld a un (set,add).1=true:=hH;rw[QcA hI]at Y;have hf:R=(set,add):=Y.symm;exact⟨(vs,vd),oy,hg,by rw[hf];exact Qm O I,by rw[hf];exact Qm he I,by rw[hf];exact hsE,by rw[hf];show add.length<=32;omega⟩
  have hI:hld a un (set,add).1=false:=hH;rw[hgo hI]at Y;refine Qf<|Ql<|Qa<|Qw<|(ZG (Qh.ints (L:=[]) (Qm O I) oa oe) v).S ?_;rintro _ w7 ⟨rfl,rfl⟩;refine x (Zi Z)<|xe<|Q5 Z (λhJ=>?_) (λhJ=>?_)
  ·have ge:=VK hJ;rw[OY ge]at Y;have hL:=Qi O;have kc:=Qi he;have mg:=I.size;have mh:=hg.size;refine Ql<|Qa<|Qo<|Q3 [[sS v]] λmj w8 hh mo ke =>
    Qo<|Q0 (m:=1) (news:=[sS v]) (L:=[]) (Qm he (I.D hh)) Z Z Z (ke.at oe) oo oa (oq hh.size) λv9 w9 h5 hy kf=>Qb ?_
   have mq:=hh.size;have gg:sW G w9:=(hg.D hh).Z hy λb hb=>.inr (kc b hb).1;have ms:=gg.size;have kg:=Qg (Qm O (I.D hh)) hy λb hb J=>h4 b hb J;have gh:Dj v9 vs:=λb hb J=>by
    rcases kf b hb with h1|h1
    ·exact h4 b J h1
    have:=(hL b J).2;omega
   have gi:Qh 3 ↑G w9 v9 (add++[v]):=Qh.snoc h5;refine Ql<|Qa<|Qo<|Q3 [[sS v]] λmt hM hj mu kh =>
    Qo<|Q0 (m:=1) (news:=[sS v]) (L:=[]) (Qm kg hj) Z Z Z (kh.at oe) oo oa (oq hj.size) λhN hP ki hn kj=>Qb ?_
   have kk:sW G hP:=(gg.D hj).Z hn λb hb=>.inr (hL b hb).1;have gj:Qh 3 ↑G hP hN (set++[v]):=Qh.snoc ki;have kn:=Qg (Qm gi hj) hn λb hb J=>gh b hb J;have gk:Dj hN v9:=λb hb J=>by
    rcases kj b hb with h1|h1
    ·exact gh b J h1
    have:=(Qi gi b J).2;have:=hj.size;omega
   refine Qr<|Qa<|Qw<|(Kn gj (by rw[Le,Lz];omega)).S ?_;rintro _ mv ⟨gl,gm⟩;rw[Qk5 hsE ge hG.1 hG.2]at gm;refine xe<|Qr<|QC Z Z<|Qa<|xe ?_;exact⟨(k+1,hN,v9,ins set v,add++[v]),by show a.al.length - (k+1)<a.al.length - k;omega,oz,U,kk.Z gl λb hb=>.inr (Qi gj b hb).1,gm,Qg kn gl λb hb J=>gk b J hb,gk,Z7.ins v,by show(add++[v]).length<=k+1;rw[Le,Lz];omega,Y⟩
  have ko:=Kw hJ;rw[OZ ko]at Y;refine Qf<|Qr<|QC Z Z<|Qa<|xe ?_;exact⟨(k+1,vs,vd,set,add),by show a.al.length - (k+1)<a.al.length - k;omega,oz,U,hg,Qm O I,Qm he I,h4,hsE,by show add.length<=k+1;omega,Y⟩
 rintro⟨vs,vd⟩ g w5 ⟨hr,O,he,hsE,mw⟩;simp only[]at O he;have gn:Qu [] ↑w5 vd R.2:=Qh.ints he oa oe;have hL:=Qi O;refine Qd<|Ql<|QG gn Z<|Qa<|xe<|QY (α:=Nat×O7×LI) [(6,7),(11,11),(18,21),(69,88)] (λz=>[(11,z.2.1),(69,sS z.1)]) (λz w'=>z.1<=R.2.length/\sW w5 w'/\Qh 3 ↑G w' z.2.1 z.2.2/\Z7 z.2.2/\(R.2.drop z.1).foldl (xtD a un) z.2.2=E) (λz=>R.2.length - z.1) (0,vs,R.1) oy ⟨Lp _,xd.C _ _,O,hsE,hB.symm⟩ ?_;rintro⟨k,h6,set⟩ g w6 ⟨hk,I,hz,hw,ha⟩;simp only[]at hk hz hw ha;have hg:=hr.D I;have kb:=hw.len;have kq:Qu [] ↑w6 h6 set:=Qh.ints hz oa oe;refine Zk rfl Z (λhQ=>?_) (λhQ=>?_)
 ·refine Qt ?_;have hD:R.2.length<=k:=by have hF:¬(k:Int)<(R.2.length:Int):=hQ;omega
  rw[Lx hD]at ha;have kr:set=E:=ha;rw[kr]at hz hw;refine Ql<|x Qe<|Qb<|Qk ⟨[h6,sS 0],oy,hq.D hg,h6,Z,Za hz g2,hw⟩
 have U:k<R.2.length:=by have hF:(k:Int)<(R.2.length:Int):=hQ;omega
 rw[QZ U,LP]at ha;refine Qf<|Qd<|Qn<|Qc<|xii (i:=k) (gn.I I) Z Z U λmy gq=>?_;refine Zg (R.2[k]'U) λv hv=>?_;rw[hv]at gq ha;refine x (Qq gq Z)<|QV [sS 0] λkt w7 ku kv kw=>Qo<|Qv (u:=sS v) kw Z Z (Mc Z) Z λw8 hh gr=>xe ?_;have h7:sW w6 w8:=ku.O hh kv;refine Ql<|Qw<|(Z0 (kq.I h7)).S ?_;rintro v9 w9 ⟨hy,h5⟩;have gs:=Qi h5;have kx:=gr.I hy;have mz:=gr.lt;refine x (Zl (l:=[]) (l':=[.tmp 18]))<|Qw<|(Qhe (gp:=65) (cap:=[sP kt]) (p:=λe=>decide (e=v)) (enters_of func65 od Z) h5 oa
  (λe W hW=>QoD (kx.J hW λJ=>oq (gs _ J).1) e)).S ?_
 rintro gt hM ⟨hj,kz⟩;refine Qb ?_;have k0:=h7.D hy;have h8:sW w6 hM:=k0.Z hj λb hb=>.inr (ou (gs b hb).1 h7.size);have k4:=hg.D h8;have gu:Z7 (set.filter λe=>!decide (e=v)):=hw.fil _;have gv:Qh 3 ↑G hM gt (set.filter λe=>!decide (e=v)):=Za kz (hg.D h7).size;have k5:xtD a un set v=if hld a un (set.filter λe=>!decide (e=v))=true then set.filter λe=>!decide (e=v) else set:=rfl
 rw[k5]at ha;refine Ql<|Qa<|Qo<|xc (first:=[]) (capt:=[sP b3,sP b5]) Z<|(ga k4 gv gu).S ?_;rintro _ hP ⟨rfl,hn⟩;refine Qa<|QS Z Z<|QS Z Z<|x Qe<|Qb<|Qd<|Ql<|ZS Z Z<|xe<|ZC rfl<|Qf<|Ql<|xe<|Q5 rfl (λhT=>?_) (λhT=>?_)
 ·rw[OZ hT]at ha;refine Qr<|Qa<|Qb<|Qr<|QC Z Z<|Qa<|xe ?_;exact⟨(k+1,gt,set.filter λe=>!decide (e=v)),by show R.2.length - (k+1)<R.2.length - k;omega,oy,U,(I.D h8).D hn,Qm gv hn,gu,ha⟩
 rw[OY (λh=>M0 (hT.symm.D h))]at ha;refine Qf<|Qr<|QC Z Z<|Qa<|xe ?_;exact⟨(k+1,h6,set),by show R.2.length - (k+1)<R.2.length - k;omega,oy,U,(I.D h8).D hn,Qm hz (h8.D hn),hw,ha⟩
open Go.RowKit
section
variable {e bys:Nat}
theorem QjI [h:Sl P t e 1 bys z]{x G I J:O8}{b cap lo hi:Nat}{k0 k1 k2:IntKind}(hx:ev f x=sL b n cap)(O:ev f G=.int k0 lo)(h1:ev f I=.int k1 lo)(h2:ev f J=.int k2 hi)(ha:lo<=hi)(hf:hi<=cap)(w:O6):
  (execOp (ev f) ⟨d,.slice t x (some G) (some I) (some J),ty,pS,af,gd⟩).run P w=.ok (.value (.slice (some ⟨b,if hi=lo then 0 else lo,none⟩) 0 (hi - lo))) w:=by
 obtain⟨ii,U,_,hs,_⟩:=Sl.info h;by_cases V:hi=lo
 ·subst V;simp[execOp,hx,O,h1,h2,Instr.sliceAt,Instr.slice,Instr.sliceBounds,Instr.sliceBound,asIntOf,run_underlying h.u,sizeOf,typeInfo,U];intro Y;omega
 simp[execOp,hx,O,h1,h2,Instr.sliceAt,Instr.slice,Instr.sliceBounds,Instr.sliceBound,asIntOf,run_underlying h.u,sizeOf,typeInfo,U,hs,ha,hf,V,Addr.add];intro Y;exact Y.symm
theorem Qqf [h:Sl P t e 1 bys z]{s:O8}{b cap:Nat}{u:O7}{a:Addr}{c:Nat}(I:QN ↑w b e us)(U:ev f s=.slice (some ⟨b,off,none⟩) n cap)(V:ev f y=.slice (some a) 1 c)(Y:At [] ↑w a [u])(h1:u.oneCell'=true)(ha:n+1<=cap)(he:off+n<us.length)
  (hK:∀w',xd [b] w w'->QN ↑w' b e (us.set (off+n) u)->K (QP f d (.slice (some ⟨b,off,none⟩) (n+1) cap)) w'):XO P ⟨d,.call ⟨.builtin .append,#[s,y],#[t,t]⟩,ty,pS,af,gd⟩ f w K:=by
 obtain⟨ii,hf,_,G,_⟩:=Sl.info h;have J:=run_firstCells_some (P:=P) w ii.size 1 a 1 c [u] (by rw[G];rfl) Y.cells;rw[G]at J;have O:=run_storeCells_at P b (off+n) e [u] 0 us.toArray w I (by simp;omega) (by simp[h1]);simp only[OC,oL,V4 us (off+n) u he]at O;refine xv (v:=.slice (some ⟨b,off,none⟩) (n+1) cap) (w':=w.setRow b (us.set (off+n) u).toArray) ?_ (hK _ (xd.setRow _ _ _) (JG I));have hg:(Builtin.append_ #[t,t] ty #[.slice (some ⟨b,off,none⟩) n cap,.slice (some a) 1 c]).run P w=.ok (.slice (some ⟨b,off,none⟩) (n+1) cap) (w.setRow b (us.set (off+n) u).toArray):=by
  simp[Builtin.append_,run_underlying h.u,sizeOf,typeInfo,hf,Builtin.lenOf,ha,J,Addr.add_lit,G,O]
 simp[execOp,resolve,invoke,builtin,U,V,hg]
end
abbrev cstv (n:Nat)(f:Nat->Int):LV:=(oM n).map λi=>sS (f i)
theorem Jy {f:Nat->Int}(hi:i<n):(cstv n f)[0+i*1]?=some (sS (f i)):=by simp[hi]
theorem VT {f:Nat->Int}{v:Int}:(cstv n f).set (0+i*1) (sS v)=cstv n (XB f i v):=by
 rw[LY,OV];exact Kl (λv=>sS v) n f i v
def pre (ed:List Ed)(s:Nat):LI:=(ed.filter λe=>decide (e.2.2=(s:Int))).map (·.1)
def pos (ed:List Ed)(s:Nat):Nat:=(ed.filter λe=>decide (e.2.2<(s:Int))).length
def num (ed:List Ed)(s:Nat):Nat:=(pre ed s).length
theorem JI (s:Nat):∀ed:List Ed,pos ed (s+1)=pos ed s+num ed s
 | []=>rfl
 | e::ed=>by
  have ih:=JI s ed;unfold pos num pre at *;rw[Lo]at *;simp only[OF,decide_eq_true_eq];by_cases h1:e.2.2<(s:Int)
  ·rw[OZ h1,OZ (show e.2.2<((s+1:Nat):Int) by omega),OY (show ¬e.2.2=(s:Int) by omega),LS,LS];omega
  by_cases G:e.2.2=(s:Int)
  ·rw[OY h1,OZ (show e.2.2<((s+1:Nat):Int) by omega),OZ G,LS,LS];omega
  rw[OY h1,OY (show ¬e.2.2<((s+1:Nat):Int) by omega),OY G];exact ih
theorem Qdb (ed:List Ed){s:Nat}(h:s<=t):pos ed s<=pos ed t:=by
 induction t with
 | zero=>rw[Nat.le_zero.1 h];exact Lr _
 | succ t ih =>
  rcases OR t s with h1|h1
  ·rw[show s=t+1 by omega];exact Lr _
  have:=ih h1;have:=JI t ed;omega
theorem QjW (h:∀e∈ed,0<=e.2.2):pos ed 0=0:=by
 unfold pos;rw[List.length_eq_zero_iff,MU];intro e G hd;have:=O3 hd;have:=h e G;omega
theorem QeT (ed:List Ed)(s:Nat):pos ed s<=ed.length:=LO _ _
theorem Qda {k:Nat}(h:k<ed.length)(s:Nat):pre (ed.take (k+1)) s=pre (ed.take k) s++if(ed[k]'h).2.2=(s:Int) then[(ed[k]'h).1]else[]:=by
 unfold pre;rw[Ln h,LW,Lv];congr 1;by_cases e:(ed[k]'h).2.2=(s:Int) <;> simp[e]
theorem yK {k:Nat}(s:Nat):num (ed.take k) s<=num ed s:=by
 unfold num pre;rw[Lo,Lo];exact((List.take_sublist k ed).filter _).length_le
def offs (ed:List Ed)(s:Nat):Nat:=if num ed s=0 then 0 else pos ed s
theorem QnJ {s:Nat}(h:j<num ed s):offs ed s+j<ed.length:=by
 unfold offs;rw[OY oa];have:=JI s ed;have:=QeT ed (s+1);omega
theorem QnI {s:Nat}(G:s≠t)(hi:i<num ed s)(I:j<num ed t):offs ed s+i≠offs ed t+j:=by
 unfold offs;rw[OY oa,OY oa];have h1:=JI s ed;have h2:=JI t ed;rcases Nat.lt_or_gt_of_ne G with h|h
 ·have:=Qdb ed (show s+1<=t by omega);omega
 have:=Qdb ed (show t+1<=s by omega);omega
def cnb (ed:List Ed):Nat->Int
 | 0=>0
 | i+1=>(num ed i:Int)
theorem QlW {k:Nat}(h:k<ed.length)(ht:(ed[k]'h).2.2=(t:Int))(i:Nat):cnb (ed.take (k+1)) i=if i=t+1 then cnb (ed.take k) i+1 else cnb (ed.take k) i:=by
 cases i with
 | zero=>rw[OY oa];rfl
 | succ i =>
  show((num (ed.take (k+1)) i:Nat):Int)=_;unfold num;rw[Qda h i];by_cases e:i=t
  ·subst e;rw[OZ ht,OZ rfl,Le];rfl
  rw[OY (by rw[ht];omega),LK,OY oa];rfl
theorem Qop (h:Zv [] ↑w va vm ve a)(hok:QL a)(hn:a.st=(n:Int)):
  QT sV 129 [.agg #[va,sS a.st,vm,ve]] w λr w'=>sW w w'/\∃rv:Nat->O7,Zw [] ↑w' r (oM n).length 1 ((oM n).flatMap λi=>[rv i])/\∀i,i<n->Qu [] ↑w' (rv i) (pre a.ed i):=by
 have pg:=hok.st1;have ka:=hok.ed_le;have hC:=hok.ed;have kb:∀e∈a.ed,0<=e.2.2:=λe J=>(hC e J).2.2.2.1;refine Zn func129 ?_;refine Qc<|Zd [va,sS a.st,vm,ve] λb1 w1 kc ph hD=>Qb ?_;have pn:=hD.lt;refine Qc ?_;have ga:(sS (a.st+1))=sS ((n+1:Nat):Int):=O0 _ oa;refine Qs rfl hD Z Z<|QC Z Z<|Qo<|Y5 (n:=n+1) ga ga oa λbC w2 gb po gc=>Qb ?_;have pp:=gc.lt;have ke:QN ↑w2 bC 3 (cstv (n+1) λ_=>0):=by
  have e:(oI (n+1) (sS 0).cells.toList).flatten=cstv (n+1) λ_=>0:=by
   apply L5
   ·simp[Value.cells]
   intro i h1 h2;simp[Value.cells]
  rw[<-e];exact gc
 have hE:=kc.D gb;have hF:=hD.I gb;refine Qd<|Qc<|Qs Z hF Z Z<|QG (h.ed.I hE) Z<|Qa<|xe<|QY (α:=Nat×(Nat->Int)) [(5,5),(19,31)] (λz=>[(19,sS z.1)]) (λz w'=>z.1<=a.ed.length/\xd [bC] w2 w'/\QN ↑w' bC 3 (cstv (n+1) z.2)/\∀i,z.2 i=cnb (a.ed.take z.1) i) (λz=>a.ed.length - z.1) (0,λ_=>0) Lb
  ⟨Lp _,xd.C _ _,ke,λi=>by cases i <;> rfl⟩ ?_
 rintro⟨k,fc⟩ g w3 ⟨hk,h0,h4,U⟩;simp only[]at hk h4 U;have kf:sW w w3:=hE.O h0 oa;have ge:b1∉[bC]:=om
 have kg:=hF.J h0 ge;refine Zk rfl Z (λhG=>?_) (λhG=>?_)
 ·refine Qt ?_;have kh:a.ed.length<=k:=by have O:¬(k:Int)<(a.ed.length:Int):=hG;omega
  rw[Ls kh]at U;refine Qd<|Qc<|Qs Z kg Z Z<|Qa<|xe<|QY (α:=Nat×(Nat->Int)) [(6,6),(34,48)] (λz=>[(34,sS z.1)]) (λz w'=>z.1<=n/\xd [bC] w2 w'/\QN ↑w' bC 3 (cstv (n+1) z.2)/\∀i,i<=n->z.2 i=if i<=z.1 then(pos a.ed i:Int) else cnb a.ed i) (λz=>n - z.1) (0,fc) Lb
   ⟨Lp _,h0,h4,λi _=>by
    show fc i=if i<=0 then(pos a.ed i:Int) else cnb a.ed i
    rw[U i];cases i with
    | zero=>rw[OZ (Lr 0),QjW kb];rfl
    | succ i=>rw[OY oa]⟩ ?_
  rintro⟨s,I⟩ g w4 ⟨hs,h5,ha,hf⟩;simp only[]at hs ha hf;have gg:sW w w4:=hE.O h5 oa;have hg:=hF.J h5 ge;refine Qc<|x (YF (b:=a.st) Z Z)<|xe<|Qd<|Zp Z (λhH=>?_) (λhH=>?_)
  ·refine Qt ?_;have ki:s=n:=by have O:¬(s:Int)<a.st:=hH;omega
   subst ki;have gh:∀i,i<=s->I i=(pos a.ed i:Int):=λi hi=>by rw[hf i hi,OZ hi]
   have pt:=h5.size;refine Qc<|Qs Z hg Z Z<|QG (h.ed.I gg) Z<|Qo<|Y5 (n:=a.ed.length) Z Z oa λbA w5 gi pu gj=>Qb<|Qc ?_;have gk:(sS a.st)=sS (s:Int):=O0 _ hn;refine Qs Z (hg.I gi) Z Z<|Qo<|Y5 (n:=s) gk gk oa λbO w6 gl pw hI=>Qb ?_;rw[UF]at hI;have pz:=gj.lt;have hJ:=gi.D gl;have kj:=gg.D hJ;have kk:=ha.I hJ;have kn:=hg.I hJ;have hK:bA≠bO:=oa
   have ko:bC≠bO:=oa
   have kq:b1≠bO:=oa
   have kr:Zw [] ↑w6 (sL bO s s) s 1 ((oM s).map λ_=>nS):=hI.arr oe (n:=s) (cap:=s) (sz:=1) oe oa (Lr _);refine Qd<|Ql<|QG kr Z<|Qa<|xe<|QY (α:=Nat×(Nat->O7)) [(9,9),(58,79)] (λz=>[(58,sS z.1)]) (λz w'=>z.1<=s/\xd [bO] w6 w'/\QN ↑w' bO 47 ((oM s).map z.2)/\∀i,i<z.1->z.2 i=.slice (some ⟨bA,offs a.ed i,none⟩) 0 (num a.ed i)) (λz=>s - z.1) (0,λ_=>nS) Lb
    ⟨Lp _,xd.C _ _,hI,λi hi=>O1 hi (NF _)⟩ ?_
   rintro⟨r,rv⟩ g V ⟨hr,hh,hL,hM⟩;simp only[]at hr hL hM;have gm:sW w V:=kj.O hh oa;have gn:=kn.J hh (by simp only[oH];exact kq);have hN:=kk.J hh (by simp only[oH];exact ko);refine Zk Z Z (λhO=>?_) (λhO=>?_)
   ·refine Qt ?_;have kt:r=s:=by have O:¬(r:Int)<(s:Int):=hO;omega
    subst kt;have ku:=((gj.I gl).J hh (by simp only[oH];exact hK));refine Qd<|Qc<|Qs Z gn Z Z<|QG (h.ed.I gm) Z<|Qa<|xe<|QY (α:=Nat×(Nat->O7)×LV) [(11,11),(83,100)] (λz=>[(83,sS z.1)]) (λz w'=>z.1<=a.ed.length/\xd [bA,bO] V w'/\QN ↑w' bO 47 ((oM r).map z.2.1)/\QN ↑w' bA 3 z.2.2/\z.2.2.length=a.ed.length/\(∀i,i<r->z.2.1 i=.slice (some ⟨bA,offs a.ed i,none⟩) (num (a.ed.take z.1) i) (num a.ed i))/\∀i j u,i<r->(pre (a.ed.take z.1) i)[j]?=some u->z.2.2[offs a.ed i+j]?=some (sS u)) (λz=>a.ed.length - z.1) (0,rv,_) Lb
     ⟨Lp _,xd.C _ _,hL,ku,by simp[Value.cells],λi hi=>hM i hi,λi j u _ G=>by simp[pre]at G⟩ ?_
    rintro⟨m,Y,cs⟩ g w8 ⟨hm,hP,hQ,hj,h6,ho,hp⟩;simp only[]at hm hQ hj h6 ho hp;have gq:sW w w8:=gm.Z hP λb hb=>.inr (by simp only[oN,oJ,or_false]at hb;omega);have hR:=gn.J hP (by simp only[oN,oJ,or_false];omega);refine Zk Z Z (λhS=>?_) (λhS=>?_)
    ·refine Qt ?_;have kv:a.ed.length<=m:=by have O:¬(m:Int)<(a.ed.length:Int):=hS;omega
     rw[Ls kv]at ho hp;refine Ql<|Qb<|Qk ⟨[_],Lb,gq,Y,?_,λi hi=>?_⟩
     ·rw[yw];have:=hQ.arr (L:=[]) oe (n:=(oM r).length) (cap:=r) (sz:=1) oe (by simp;omega) oe;rw[Mg]at this ⊢;exact this
     rw[ho i hi];have h7:num a.ed i<=1000000:=by unfold num pre;rw[Lo];exact LA (LO _ _) (LA ka oh)
     refine⟨oe,LA h7 oh,.inr ⟨_,_,rfl,Lr _,(λu _=>oe),(λu _=>hj.lt),λj u G=>?_⟩⟩;rw[MO]at G;cases hq:(pre a.ed i)[j]? with
     | none=>rw[hq]at G;cases G
     | some v =>
      rw[hq]at G;cases G
      rw[Addr.add_lit,hj.cell];exact hp i j v hi hq
    have hv:m<a.ed.length:=by have O:(m:Int)<(a.ed.length:Int):=hS;omega
    have hT:=hC _ (Lm hv);have h8:=Qda hv;refine Zg (a.ed[m]'hv) λe J=>?_;rw[J]at hT;simp only[J]at h8;obtain⟨t,ht⟩:∃t:Nat,e.2.2=(t:Int):=⟨e.2.2.toNat,oa⟩;have h9:t<r:=oa
    have kw:num (a.ed.take (m+1)) t=num (a.ed.take m) t+1:=by unfold num;rw[h8,OZ ht,Le];rfl
    have h7:num (a.ed.take m) t<num a.ed t:=by have:=yK (ed:=a.ed) (k:=m+1) t;omega
    have gr:=QnJ h7;have kx:=ho t h9;refine Qf<|Qd<|Qn<|Qc<|xie (h.ed.I gq) Z Z hv λp0 gs=>?_;rw[J]at gs;refine x (QF gs Z Z)<|QV [sS 0,sS 0,sS 0] λb11 w9 kz k0 k4=>Q6 (Qp e) k4 oz λhw k5 hU=>xe ?_;have hV:sW w8 hw:=kz.O k5 k0;have gt:=hQ.I hV;have k6:=hj.I hV;have k9:=hj.lt;have ma:∀{b:Nat},b<↑w8->b11≠b:=λhb=>oa
    have hy:(sS e.2.2)=sS (t:Int):=O0 _ ht;refine ZK [bA] (Xj 0 14 [10,11,13]) ?_;have hW:b11∉[bA]:=by simp only[oH];exact ma k9
    have gu:bO∉[bA]:=by simp only[oH];exact λh=>hK h.symm
    have gv:sW hw { hw with drawn:=hw.drawn+1 }:=xd.Y _ _
    refine p Qx<|p (QH Z)<|pq (λ_ hc=>Qj (hU.J hc hW) Z Z)<|p Qx<|p (QH Z)<|pq (λ_ hc=>Qj (hU.J hc hW) Z Z) <|
     p (λ_=>QE (i:=t) Z (show Go.Lg.ev _ _=_ from hy) h9)<|pq (λ_ hc=>Qj (u:=Y t) (gt.J hc gu) Z (Vi h9))<|p (QH Z)<|pq (λ_ hc=>Qj (hU.J hc hW) Z Z) <|
     pk<|Q3 [[sS e.1]] λp4 hX gx p5 mc=>⟨(gv.D gx).any,?_⟩
    have hA:sW hw hX:=gv.D gx;refine pk<|Qqf (u:=sS e.1) (k6.I hA) (show Go.Lg.ev _ _=_ from kx) Z (mc.at oe) rfl oa (by rw[h6];exact gr) λgy hY mf=>⟨hA.any.Q hY,?_⟩;have mg:((oM r).map Y).length=r:=oe
    refine p (λ_=>QE (i:=t) Z (show Go.Lg.ev _ _=_ from hy) h9)<|pkk<|Qv (j:=0+t*1) (u:=.slice (some ⟨bA,offs a.ed t,none⟩) (num (a.ed.take m) t+1) (num a.ed t)) ((gt.I hA).J hY gu) Z Z (by rw[mg];omega) Z λgz g0 mh=>pe ?_;have mj:QN ↑gz bO 47 ((oM r).map (XB Y t (.slice (some ⟨bA,offs a.ed t,none⟩) (num (a.ed.take m) t+1) (num a.ed t)))):=by
     have e1:=Kl id r Y t (.slice (some ⟨bA,offs a.ed t,none⟩) (num (a.ed.take m) t+1) (num a.ed t));simp only[id]at e1;rw[<-e1];simpa using mh
    refine Qr<|QC Z Z<|Qa<|xe<|⟨(m+1,XB Y t (.slice (some ⟨bA,offs a.ed t,none⟩) (num (a.ed.take m) t+1) (num a.ed t)),cs.set (offs a.ed t+num (a.ed.take m) t) (sS e.1)),by show a.ed.length - (m+1)<a.ed.length - m;omega,Lb,hv,?_,mj,mf.J g0 (by simp only[oH];exact hK),by simp only[];rw[M2];exact h6,λi hi=>?_,λi j u hi G=>?_⟩
    ·have g2:∀b,b=bA\/b=bO->b∈[bA,bO]:=λb hb=>by simp only[oN,oJ,or_false];exact hb
     have k1:xd [bA,bO] V hX:=hP.Q ((hV.D hA).S λb hb=>by cases hb);have k2:xd [bA,bO] hX gy:=hY.S λb hb=>g2 b (.inl (Lc.1 hb));have k3:xd [bA,bO] gy gz:=g0.S λb hb=>g2 b (.inr (Lc.1 hb));exact(k1.Q k2).Q k3
    ·simp only[];by_cases e1:i=t
     ·subst e1;rw[Zx,kw]
     rw[ZQ _ _ e1,ho i hi];congr 1;unfold num;rw[h8,OY (by rw[ht];omega),LK]
    simp only[]at G ⊢;rw[h8]at G;by_cases e1:i=t
    ·subst e1;rw[OZ ht]at G;rcases OR j (num (a.ed.take m) i) with h2|h2
     ·rw[LT h2]at G;rw[MR oa];exact hp i j u hi G
     rw[MA h2]at G;have mo:j - num (a.ed.take m) i=0:=by
      rcases Nat.eq_zero_or_pos (j - num (a.ed.take m) i) with h3|h3
      ·exact h3
      rw[Mk (by simp only[oL];exact h3)]at G;cases G
     have mq:j=num (a.ed.take m) i:=oa
     have ms:u=e.1:=by
      have:(pre (a.ed.take m) i).length=num (a.ed.take m) i:=rfl;rw[this,mo]at G;exact(Option.some.inj G).symm
     rw[mq,ms,List.getElem?_set_self (by rw[h6];exact gr)]
    rw[OY (by rw[ht];omega),LK]at G;have mt:j<num a.ed i:=LX (Mm.1 G).1 (yK i);rw[MR (QnI (λh=>e1 h.symm) h7 mt)];exact hp i j u hi G
   have g3:r<s:=by have O:(r:Int)<(s:Int):=hO;omega
   refine Qf<|Qd<|Qn<|Ql<|Qb ?_;have mu:=JI r a.ed;have g4:=QeT a.ed (r+1);have hfr:I r=(pos a.ed r:Int):=gh r oa;have mv:I (r+1)=(pos a.ed (r+1):Int):=gh (r+1) oa;have g5:(sS (I r))=sS (pos a.ed r:Int):=O0 _ hfr;have mw:(sS (I (r+1)))=sS (pos a.ed (r+1):Int):=O0 _ mv;have hB:(sS ((r:Int)+1))=sS ((r+1:Nat):Int):=rfl;refine ZK [] (Xj 0 19 [18])<|p Qx<|p Qx<|p Qx<|p Qx<|p Qx<|p (λ_=>QE (i:=r) Z Z oa) <|
    pq (λ_ hc=>Qj (hN.I hc) Z (Jy oa))<|p Qx<|p Qx<|p (λ_=>QE (i:=r) Z Z oa)<|pq (λ_ hc=>Qj (hN.I hc) Z (Jy oa)) <|
    p Qx<|p Qx<|p (λ_=>Xy Z Z ⟨oa,oa⟩)<|p (λ_=>QE (i:=r+1) Z (show Go.Lg.ev _ _=_ from hB) oa) <|
    pq (λ_ hc=>Qj (hN.I hc) Z (Jy oa))<|p (QjI Z (show Go.Lg.ev _ _=_ from g5) (show Go.Lg.ev _ _=_ from g5) (show Go.Lg.ev _ _=_ from mw) oa g4)<|p (λ_=>QE (i:=r) Z Z g3)<|pkk<|Qv (j:=0+r*1) (u:=.slice (some ⟨bA,if pos a.ed (r+1)=pos a.ed r then 0 else pos a.ed r,none⟩) 0 (pos a.ed (r+1) - pos a.ed r)) (hL.I (xd.Y _ _)) Z Z (by simp;omega) Z λmy mz hg=>pe ?_
   have m0:sW V { V with drawn:=V.drawn+1 }:=xd.Y _ _
   have m1:(Value.slice (some ⟨bA,if pos a.ed (r+1)=pos a.ed r then 0 else pos a.ed r,none⟩) 0 (pos a.ed (r+1) - pos a.ed r))=.slice (some ⟨bA,offs a.ed r,none⟩) 0 (num a.ed r):=by
    have e1:pos a.ed (r+1) - pos a.ed r=num a.ed r:=oa
    have e2:(if pos a.ed (r+1)=pos a.ed r then 0 else pos a.ed r)=offs a.ed r:=by
     unfold offs;by_cases e3:num a.ed r=0
     ·rw[OZ e3,OZ oa]
     rw[OY e3,OY oa]
    rw[e1,e2]
   have m2:QN ↑my bO 47 ((oM s).map (XB rv r (.slice (some ⟨bA,offs a.ed r,none⟩) 0 (num a.ed r)))):=by
    have e1:=Kl id s rv r (.slice (some ⟨bA,offs a.ed r,none⟩) 0 (num a.ed r));simp only[id]at e1;rw[<-e1,<-m1];simpa using hg
   refine Qr<|QC Z Z<|Qa<|xe<|⟨(r+1,XB rv r (.slice (some ⟨bA,offs a.ed r,none⟩) 0 (num a.ed r))),by show s - (r+1)<s - r;omega,Lb,g3,(hh.Q (m0.S λb hb=>by cases hb)).Q mz,m2,λi hi=>?_⟩;simp only[];by_cases e1:i=r
   ·subst e1;rw[Zx]
   rw[ZQ _ _ e1];exact hM i (by have O:i<r+1:=hi;omega)
  have m3:s<n:=by have O:(s:Int)<a.st:=hH;omega
  refine Qf<|Qd<|Qn<|Ql<|Qb ?_;have mu:=JI s a.ed;have g4:=QeT a.ed (s+1);have p6:I s=(pos a.ed s:Int):=by rw[hf s oa,OZ (Lr _)]
  have p7:I (s+1)=(num a.ed s:Int):=by rw[hf (s+1) oa,OY oa];rfl
  have hB:(sS ((s:Int)+1))=sS ((s+1:Nat):Int):=rfl;refine ZK [] (Xj 0 12 [11])<|p Qx<|p Qx<|p (λ_=>Xy Z Z ⟨oa,oa⟩)<|p (λ_=>QE (i:=s+1) Z (show Go.Lg.ev _ _=_ from hB) oa) <|
   pq (λ_ hc=>Qj (ha.I hc) Z (Jy oa))<|p Qx<|p Qx<|p (λ_=>QE (i:=s) Z Z oa)<|pq (λ_ hc=>Qj (ha.I hc) Z (Jy oa)) <|
   p (λ_=>Xy Z Z ⟨oa,oa⟩)<|p (λ_=>QE (i:=s+1) Z (show Go.Lg.ev _ _=_ from hB) oa)<|pkk<|Qv (j:=0+(s+1)*1) (u:=sS (I (s+1)+I s)) (ha.I (xd.Y _ _)) Z Z (by simp;omega) Z λp8 m4 g6=>pe ?_
  rw[VT]at g6;have m5:sW w4 { w4 with drawn:=w4.drawn+1 }:=xd.Y _ _
  refine Qr<|QC Z Z<|Qa<|xe<|⟨(s+1,XB I (s+1) (I (s+1)+I s)),by show n - (s+1)<n - s;omega,Lb,m3,(h5.Q (m5.S λb hb=>by cases hb)).Q m4,g6,λi hi=>?_⟩;simp only[];by_cases e1:i=s+1
  ·subst e1;rw[Zx,OZ (Lr _)];omega
  rw[ZQ _ _ e1,hf i hi];by_cases e2:i<=s
  ·rw[OZ e2,OZ oa]
  rw[OY e2,OY oa]
 have hz:k<a.ed.length:=by have O:(k:Int)<(a.ed.length:Int):=hG;omega
 have hT:=hC _ (Lm hz);have g7:=λt ht=>QlW (t:=t) hz ht;refine Zg (a.ed[k]'hz) λe J=>?_;rw[J]at hT;simp only[J]at g7;obtain⟨t,ht⟩:∃t:Nat,e.2.2=(t:Int):=⟨e.2.2.toNat,oa⟩;have p9:t<n:=oa
 refine Qf<|Qd<|Qn<|Qc<|xie (h.ed.I kf) Z Z hz λqf g9=>?_;rw[J]at g9;refine x (QF g9 Z Z)<|QV [sS 0,sS 0,sS 0] λb5 qj m6 m7 m8=>Q6 (Qp e) m8 oz λm9 pc pd=>xe ?_;have hZ:sW w3 m9:=m6.O pc m7;have hy:(sS (e.2.2+1))=sS ((t+1:Nat):Int):=O0 _ oa;have ql:0<=fc (t+1)/\fc (t+1)<=1000000:=by
  rw[U];have h1:=yK (ed:=a.ed) (k:=k) t;have h2:num a.ed t<=a.ed.length:=by unfold num pre;rw[Lo];exact LO _ _
  show 0<=((num (a.ed.take k) t:Nat):Int)/\((num (a.ed.take k) t:Nat):Int)<=1000000;omega
 refine Qr<|Qa<|Qs Z pd Z Z<|QC Z Z<|x (QE (i:=t+1) Z (show Go.Lg.ev _ _=_ from hy) oa) <|
  ZD (h4.I hZ) Z (Jy oa)<|QC Z Z<|x (QE (i:=t+1) Z (show Go.Lg.ev _ _=_ from hy) oa)<|Qo<|Qv (j:=0+(t+1)*1) (u:=sS (fc (t+1)+1)) (h4.I hZ) Z Z (by simp;omega) Z λq4 pf hR=>xe ?_
 rw[VT]at hR;refine Qr<|QC Z Z<|Qa<|xe<|⟨(k+1,XB fc (t+1) (fc (t+1)+1)),by show a.ed.length - (k+1)<a.ed.length - k;omega,Lb,hz,(h0.Q (hZ.S λb hb=>by cases hb)).Q pf,hR,λi=>?_⟩;simp only[];rw[g7 t ht i];by_cases e1:i=t+1
 ·subst e1;rw[Zx,OZ rfl,U]
 rw[ZQ _ _ e1,OY e1,U]
def bq (ed:List Ed):Nat->Nat->LI->LI
 | 0,_,l=>l
 | f+1,i,l=>if i<l.length then bq ed f (i+1) ((pre ed (xh l i).toNat).foldl ya l) else l
theorem Qo2 {f:Nat}{l:LI}(h:¬i<l.length):bq ed f i l=l:=by
 cases f with
 | zero=>rfl
 | succ f=>rw[bq,OY h]
def crq (a:Qz)(tg:LI):LI:=bq a.ed (tg.length+a.st.toNat) 0 tg
def blkd (a:Qz)(tg:LI):LI:=((oM a.st.toNat).filter λi:Nat=>decide ((i:Int)∉crq a tg)).map λi:Nat=>(i:Int)
structure RkI (n:Nat)(l:LI)(f:Nat->Int):Prop where
 s:∀i:Nat,i<n->(f i<0↔(i:Int)∉l)
 lo:∀i:Nat,i<n->-1<=f i
 hi:∀i:Nat,i<n->f i<=(l.length:Int)
theorem QhL {tg:LI}(h:Zv [] ↑w va vm ve a)(hok:QL a)(hn:a.st=(n:Int))(hT:Qu [] ↑w vt tg)(hP:∀x∈tg,0<=x/\x<(n:Int))(mg:tg.length<=1000000):
  QT sV 55 [.agg #[va,sS a.st,vm,ve],vt] w λr w'=>sW w w'/\∃b f,r=sL b n n/\↑w<=b/\QN ↑w' b 3 (cstv n f)/\∀i:Nat,i<n->(f i<0↔(i:Int)∉crq a tg):=by
 have mh:=hok.st1;have gz:=hok.ed_le;have g0:=hok.ed;refine Zg (crq a tg) λR hR=>?_;have g2:bq a.ed (tg.length+n) 0 tg=R:=by rw[<-hR];unfold crq;rw[hn];rfl
 rw[hR];refine Zn func55 ?_;refine Qc<|Zd [va,sS a.st,vm,ve] λb2 w1 hQ mj hS=>Qb<|Qc<|Q7 hS Z Z<|Qw<|(Qop (h.I hQ) hok hn).S ?_;rintro vr w2 ⟨hU,rv,g3,g4⟩;refine Qb ?_;have h7:=hQ.D hU;have hV:(sS a.st)=sS (n:Int):=O0 _ hn;refine Qc<|Qs Z (hS.I hU) Z Z<|Qo<|Y5 (n:=n) hV hV oa λbO w3 hW hX g5=>Qb ?_;have hY:QN ↑w3 bO 3 (cstv n λ_=>0):=by
  have e:(oI n (sS 0).cells.toList).flatten=cstv n λ_=>0:=by
   apply L5
   ·simp[Value.cells]
   intro i h1 h2;simp[Value.cells]
  rw[<-e];exact g5
 have g6:=h7.D hW;have mo:=h7.size;have g7:Zw [] ↑w3 (sL bO n n) n 1 (cstv n λ_=>0):=hY.arr oe (n:=n) (cap:=n) (sz:=1) oe oa (Lr _);refine Qd<|Ql<|QG g7 Z<|Qa<|xe<|QY (α:=Nat×(Nat->Int)) [(7,7),(21,27)] (λz=>[(21,sS z.1)]) (λz w'=>z.1<=n/\xd [bO] w3 w'/\QN ↑w' bO 3 (cstv n z.2)/\∀i,i<z.1->z.2 i=-1) (λz=>n - z.1) (0,λ_=>0) Lb ⟨Lp _,xd.C _ _,hY,λi hi=>O1 hi (NF _)⟩ ?_;rintro⟨k,f4⟩ g w4 ⟨hk,h8,h0,hv⟩;simp only[]at hk h0 hv;refine Zk rfl Z (λh9=>?_) (λh9=>?_)
 ·refine Qt ?_;have g8:k=n:=by have U:¬(k:Int)<(n:Int):=h9;omega
  subst g8;have g9:sW w w4:=g6.O h8 oa;have hZ:sW w2 w4:=hW.O h8 hX;have ka:=hZ.size;refine Ql<|Qw<|(Z0 (hT.I g9)).S ?_;rintro v5 w5 ⟨ga,hA⟩;refine Qb ?_;have kb:Qu [] ↑w5 v5 tg:=Qh.ints hA oa oe;have gb:bO∉ob v5:=λhm=>ou (Qi hA _ hm).1 h0.lt
  have kc:=hZ.D ga;refine Qd<|Ql<|QG kb Z<|Qa<|xe<|QY (α:=Nat×(Nat->Int)) [(10,10),(32,39)] (λz=>[(32,sS z.1)]) (λz w'=>z.1<=tg.length/\xd [bO] w5 w'/\QN ↑w' bO 3 (cstv k z.2)/\RkI k (tg.take z.1) z.2) (λz=>tg.length - z.1) (0,f4) Lb
   ⟨Lp _,xd.C _ _,h0.I ga,⟨λi hi=>by show f4 i<0↔_;rw[hv i hi];simp,λi hi=>by show -1<=f4 i;rw[hv i hi];omega,λi hi=>by show f4 i<=_;rw[hv i hi];omega⟩⟩ ?_
  rintro⟨j,f6⟩ g w6 ⟨hj,hB,hC,hf⟩;simp only[]at hj hC hf;have gc:=Qg hA hB λb hb hm=>gb (Lc.1 hm ▸ hb);have ke:Qu [] ↑w6 v5 tg:=Qh.ints gc oa oe;refine Zk Z Z (λhD=>?_) (λhD=>?_)
  ·refine Qt ?_;have kf:tg.length<=j:=by have U:¬(j:Int)<(tg.length:Int):=hD;omega
   rw[Ls kf]at hf;have kg:sW w2 w6:=kc.O hB hX;refine Qd<|Qc<|Qb<|QY (α:=Nat×O7×LI×(Nat->Int)) [(8,8),(11,11),(13,13),(40,78)] (λz=>[(8,z.2.1),(11,sS z.1)]) (λz w'=>z.1<=z.2.2.1.length/\sW w2 w'/\Qh 3 ↑w2 w' z.2.1 z.2.2.1/\bO∉ob z.2.1/\QN ↑w' bO 3 (cstv k z.2.2.2)/\RkI k z.2.2.1 z.2.2.2/\Ux k tg z.2.2.1/\bq a.ed (tg.length+k - z.1) z.1 z.2.2.1=R) (λz=>tg.length+k+1 - z.1) (0,v5,tg,f6) oy
    ⟨Lp _,kg,Za gc ka,gb,hC,hf,Ux.zero _ _,g2⟩ ?_
   rintro⟨i,vq,l,f7⟩ g w7 ⟨hi,h4,hF,ge,hG,hH,h5,V⟩;simp only[]at hi hF ge hG hH h5 V;have mq:=h5.len;have kh:=h5.all hP;have gg:Qu [] ↑w7 vq l:=Qh.ints hF oa oe;refine Qd<|Ql<|Qa<|QG gg Z<|ZT Z Z<|xe<|Zp Z (λhI=>?_) (λhI=>?_)
   ·refine Qt ?_;have ki:¬i<l.length:=by have U:¬(i:Int)<(l.length:Int):=hI;omega
    rw[Qo2 ki]at V;refine Ql<|Qb<|Qk ⟨[_],Lb,h7.D h4,bO,f7,Z,oa,hG,λi hi=>by rw[<-V];exact hH.s i hi⟩
   have I:i<l.length:=by have U:(i:Int)<(l.length:Int):=hI;omega
   have kj:=kh _ (XH I);have kk:tg.length+k - i=(tg.length+k - (i+1))+1:=oa
   rw[kk,bq,OZ I]at V;have hJ:=Zo I;refine Zg (xh l i) λs hs=>?_;rw[hs]at kj V hJ;have gh:s=(s.toNat:Int):=oa
   have hg:s.toNat<k:=oa
   have hE:=g4 s.toNat hg;have kn:(pre a.ed s.toNat).length<=131072:=by unfold pre;rw[Lo];exact LA (LO _ _) gz
   have gi:∀x∈pre a.ed s.toNat,0<=x/\x<(k:Int):=λx hx=>by
    obtain⟨e,he,rfl⟩:=Lt.1 hx;have:=g0 e (LB.1 he).1;omega
   have gj:(sS s)=sS (s.toNat:Int):=O0 _ gh;have ko:s.toNat<(oM k).length:=by rw[Mg];exact hg
   refine Zg (pre a.ed s.toNat) λps kq=>?_;rw[kq]at hE kn gi V;refine Qf<|Qd<|Qn<|Ql<|Qa<|Qa<|xii (i:=i) gg Z Z I λms gk=>?_;rw[hJ]at gk;refine x (Qq gk Z)<|xo (g:=λj:Nat=>[rv j]) (i:=s.toNat) (λ_=>Z) (g3.I h4) Z (show Go.Lg.ev _ _=_ from gj) ko λmt gl=>?_;rw[Mx]at gl;refine x (Qq (u:=rv s.toNat) gl Z)<|QG (hE.I h4) Z<|Qa<|xe<|QY (α:=Nat×O7×LI×(Nat->Int)) [(8,8),(13,13),(54,78)] (λz=>[(8,z.2.1),(54,sS z.1)]) (λz w'=>z.1<=ps.length/\sW w2 w'/\Qh 3 ↑w2 w' z.2.1 z.2.2.1/\bO∉ob z.2.1/\QN ↑w' bO 3 (cstv k z.2.2.2)/\RkI k z.2.2.1 z.2.2.2/\Ux k tg z.2.2.1/\z.2.2.1[i]?=some s/\(ps.drop z.1).foldl ya z.2.2.1=ps.foldl ya l) (λz=>ps.length - z.1) (0,vq,l,f7) oy
    ⟨Lp _,h4,hF,ge,hG,hH,h5,by rw[LE I,hJ],rfl⟩ ?_
   rintro⟨m,hK,lm,f8⟩ g w8 ⟨hm,hh,ho,hp,ha,J,hw,hy,O⟩;simp only[]at hm ho hp ha J hw hy O;have mu:=hw.len;have hr:i<lm.length:=(Mm.1 hy).1;have gm:lm[i]'hr=s:=by have:=hy;rw[LE hr]at this;exact Option.some.inj this
   have kr:Qu [] ↑w8 hK lm:=Qh.ints ho oa oe;refine Zk Z Z (λhL=>?_) (λhL=>?_)
   ·refine Qt ?_;have kt:ps.length<=m:=by have U:¬(m:Int)<(ps.length:Int):=hL;omega
    rw[Lx kt]at O;have ku:lm=ps.foldl ya l:=O;rw[<-ku]at V;refine Qr<|Qa<|QC Z Z<|Qb<|⟨(i+1,hK,lm,f8),by show tg.length+k+1 - (i+1)<tg.length+k+1 - i;omega,oy,hr,hh,ho,hp,ha,J,hw,V⟩
   have hu:m<ps.length:=by have U:(m:Int)<(ps.length:Int):=hL;omega
   have gn:=gi _ (Lm hu);rw[QZ hu,LP]at O;refine Zg (ps[m]'hu) λq hq=>?_;rw[hq]at gn O;obtain⟨t,ht⟩:∃t:Nat,q=(t:Int):=⟨q.toNat,oa⟩;have Y:t<k:=oa
   have h6:(sS q)=sS (t:Int):=O0 _ ht;refine Qf<|Qd<|Qn<|Qc<|xii (i:=m) (hE.I hh) Z Z hu λmv gq=>?_;rw[hq]at gq;refine x (Qq gq Z)<|Qb<|Ql<|Qa<|x (QE (i:=t) Z (show Go.Lg.ev _ _=_ from h6) Y)<|ZD ha Z (Jy Y)<|x (YF (a:=f8 t) (b:=0) Z Z)<|xe<|Zp Z (λhM=>?_) (λhM=>?_)
   ·have kv:q∈lm:=by rw[ht];exact Classical.byContradiction λhn=>hM ((J.s t Y).2 hn)
    have hN:ya lm q=lm:=by unfold ya;rw[OY (not_not_intro kv)]
    rw[hN]at O;refine Qf<|Qr<|QC Z Z<|Qa<|xe ?_;exact⟨(m+1,hK,lm,f8),by show ps.length - (m+1)<ps.length - m;omega,oy,hu,hh,ho,hp,ha,J,hw,hy,O⟩
   have gr:q∉lm:=by rw[ht];exact(J.s t Y).1 hM
   have hN:ya lm q=lm++[q]:=by unfold ya;rw[OZ gr]
   rw[hN]at O;have mw:=J.hi s.toNat hg;have my:¬f8 s.toNat<0:=λh=>(J.s s.toNat hg).1 h (by rw[<-gh,<-gm];exact Lm hr);have kw:=Qi ho;have mz:=hh.size;refine Ql<|Qa<|Qa<|Qa<|Qa<|xii (i:=i) kr Z Z hr λm0 gs=>?_;rw[gm]at gs;refine x (Qq gs Z)<|x (QE (i:=s.toNat) Z (show Go.Lg.ev _ _=_ from gj) hg)<|ZD ha Z (Jy hg)<|QC Z Z<|x (QE (i:=t) Z (show Go.Lg.ev _ _=_ from h6) Y) <|
    Qo<|Qv (j:=0+t*1) (u:=sS (f8 s.toNat+1)) ha Z Z (by simp;omega) Z λw9 hO gt=>xe ?_
   rw[VT]at gt;have kx:=Qg ho hO λb hb hm=>hp (Lc.1 hm ▸ hb);have m1:=hO.size;refine Qr<|Qa<|Qa<|Qo<|Q3 [[sS q]] λm2 m3 hz m4 kz=>Qo<|Q0 (m:=1) (news:=[sS q]) (L:=[]) (Qm kx hz) Z Z Z (kz.at oe) oo oa (ou hz.size hh.size) λk0 m5 k4 gu k5=>Qb<|Qr<|QC Z Z<|Qa<|xe ?_;have m6:=hz.size;refine⟨(m+1,k0,lm++[q],XB f8 t (f8 s.toNat+1)),by show ps.length - (m+1)<ps.length - m;omega,oy,hu,((hh.O hO oa).D hz).Z gu λb hb=>.inr (oq (kw b hb).1),Qh.snoc k4,λk6=>?_,(gt.I hz).J gu hp,⟨λG hi'=>?_,λG hi'=>?_,λG hi'=>?_⟩,hw.add gn gr,?_,O⟩
   ·rcases k5 _ k6 with h1|h1
    ·exact hp h1
    have:=ha.lt;omega
   ·simp only[];rw[Lk,Lc];by_cases e1:G=t
    ·subst e1;rw[Zx];exact⟨λh=>O1 h oa,λh=>O1 (Or.inr ht.symm) h⟩
    rw[ZQ _ _ e1,J.s G hi'];exact⟨λh h2=>h2.elim h λh3=>e1 oa,λh h2=>h (.inl h2)⟩
   ·simp only[];by_cases e1:G=t
    ·subst e1;rw[Zx];omega
    rw[ZQ _ _ e1];exact J.lo G hi'
   ·simp only[];rw[Le,Lz];by_cases e1:G=t
    ·subst e1;rw[Zx];omega
    rw[ZQ _ _ e1];have:=J.hi G hi';omega
   simp only[];rw[LT hr];exact hy
  have I:j<tg.length:=by have U:(j:Int)<(tg.length:Int):=hD;omega
  have Y:tg.take (j+1)=tg.take j++[tg[j]'I]:=Ln I;have k9:=hP _ (Lm I);refine Qf<|Qd<|Qn<|Qc<|xii (i:=j) ke Z Z I λm7 gv=>?_;refine Zg (tg[j]'I) λq hq=>?_;rw[hq]at gv Y k9;obtain⟨t,ht⟩:∃t:Nat,q=(t:Int):=⟨q.toNat,oa⟩;have ma:t<k:=oa
  have h6:(sS q)=sS (t:Int):=O0 _ ht;refine x (Qq gv Z)<|Qb<|Qr<|Qa<|Qa<|x (QE (i:=t) Z (show Go.Lg.ev _ _=_ from h6) ma)<|Qo<|Qv (j:=0+t*1) (u:=sS 0) hC Z Z (by simp;omega) Z λm8 mc gx=>xe ?_;rw[VT]at gx;refine Qr<|QC Z Z<|Qa<|xe<|⟨(j+1,XB f6 t 0),by show tg.length - (j+1)<tg.length - j;omega,Lb,I,hB.Q mc,gx,?_⟩;simp only[];rw[Y];refine⟨λG hi'=>?_,λG hi'=>?_,λG hi'=>?_⟩
  ·rw[Lk,Lc];by_cases e1:G=t
   ·subst e1;rw[Zx];exact⟨λh=>O1 h oa,λh=>O1 (Or.inr ht.symm) h⟩
   rw[ZQ _ _ e1,hf.s G hi'];exact⟨λh h2=>h2.elim h λh3=>e1 oa,λh h2=>h (.inl h2)⟩
  ·by_cases e1:G=t
   ·subst e1;rw[Zx];omega
   rw[ZQ _ _ e1];exact hf.lo G hi'
  rw[Le,Lz];by_cases e1:G=t
  ·subst e1;rw[Zx];omega
  rw[ZQ _ _ e1];have:=hf.hi G hi';omega
 have I:k<n:=by have U:(k:Int)<(n:Int):=h9;omega
 refine Qf<|Qd<|Qn<|Ql<|Qb<|Qr<|Qa<|Qa<|x (QE (i:=k) Z Z I)<|Qo<|Qv (j:=0+k*1) (u:=sS (-1)) h0 Z Z (by simp;omega) Z λm9 mf gy=>xe ?_;rw[VT]at gy;refine Qr<|QC Z Z<|Qa<|xe<|⟨(k+1,XB f4 k (-1)),by show n - (k+1)<n - k;omega,Lb,I,h8.Q mf,gy,λi hi=>?_⟩;simp only[];by_cases e1:i=k
 ·subst e1;rw[Zx]
 rw[ZQ _ _ e1];exact hv i (by have U:i<k+1:=hi;omega)
theorem QiB (f:Nat->Int)(k:Nat):(((oM (k+1)).filter λi=>decide (f i<0)).map λi:Nat=>(i:Int))=((oM k).filter λi=>decide (f i<0)).map (λi:Nat=>(i:Int))++if f k<0 then[(k:Int)]else[]:=by
 rw[Nn,LW,Lv];congr 1;by_cases e:f k<0 <;> simp[e]
theorem QfD {b:Nat}{f:Nat->Int}(hB:QN ↑w b 3 (cstv n f))(hn:n<=4096):
  QT sV 54 [sL b n n] w λr w'=>sW w w'/\Qh 3 ↑w w' r (((oM n).filter λi=>decide (f i<0)).map λi:Nat=>(i:Int)):=by
 have hA:Zw [] ↑w (sL b n n) n 1 (cstv n f):=hB.arr oe (n:=n) (cap:=n) (sz:=1) oe oa (Lr _);refine Zn func54 ?_;refine Qc<|Qb<|Qc<|Qb<|Qd<|Ql<|QG hA Z<|Qa<|xe<|QY (α:=Nat×O7) [(3,5),(8,19)] (λz=>[(3,z.2),(8,sS z.1)]) (λz w'=>z.1<=n/\sW w w'/\Qh 3 ↑w w' z.2 (((oM z.1).filter λi=>decide (f i<0)).map λi:Nat=>(i:Int))) (λz=>n - z.1) (0,ZY) oy ⟨Lp _,xd.C _ _,QM _ _ _ _⟩ ?_;rintro⟨k,vo⟩ g w1 ⟨hk,I,G⟩;simp only[]at hk G;refine Zk rfl Z (λU=>?_) (λU=>?_)
 ·refine Qt ?_;have ha:k=n:=by have he:¬(k:Int)<(n:Int):=U;omega
  rw[ha]at G;refine Ql<|Qb<|Qk ⟨[_],Lb,I,G⟩
 have J:k<n:=by have he:(k:Int)<(n:Int):=U;omega
 have O:=QiB f k;have hj:(((oM k).filter λi=>decide (f i<0)).map λi:Nat=>(i:Int)).length<=4096:=by
  rw[Lo];exact LA (LO _ _) (by rw[Mg];omega)
 refine Qf<|Qd<|Qn<|Ql<|x (QE (i:=k) Z Z J)<|ZD (hB.I I) Z (Jy J)<|x Qe<|Qb<|Ql<|x (YF (a:=f k) (b:=0) Z Z)<|xe<|Zp rfl (λV=>?_) (λV=>?_)
 ·rw[OY V,LK]at O;refine Qf<|Qr<|QC Z Z<|Qa<|xe ?_;exact⟨(k+1,vo),by show n - (k+1)<n - k;omega,oy,J,I,by simp only[];rw[O];exact G⟩
 rw[OZ V]at O;refine Qr<|Qa<|Qa<|Qo<|Q3 [[sS k]] λhm w2 Y ho hf=>Qo<|Q0 (m:=1) (news:=[sS k]) (L:=[]) (Qm G Y) Z Z Z (hf.at oe) oo oa (ou I.size Y.size) λv3 w3 hg hh hp=>Qb<|Qr<|QC Z Z<|Qa<|xe ?_;exact⟨(k+1,v3),by show n - (k+1)<n - k;omega,oy,J,(I.D Y).Z hh λb hb=>.inr (Qi G b hb).1,by simp only[];rw[O];exact Qh.snoc hg⟩
def zE (n:Nat):LI:=(oM n).map λi:Nat=>(i:Int)
theorem Qrl {st:Int}(hn:st=(n:Int))(hl:n<=4096):
  QT sV 128 [.agg #[va,sS st,vm,ve]] w λr w'=>sW w w'/\Qh 3 ↑w w' r (zE n):=by
 refine Zn func128 ?_;refine Qc<|Zd [va,sS st,vm,ve] λb1 w1 U hs hj=>Qb ?_;have V:(sS st)=sS (n:Int):=O0 _ hn;refine Qc<|Qs Z hj Z Z<|Qo<|Y5 (n:=n) V V oa λbO I hm hu ho=>Qb ?_;have Y:QN ↑I bO 3 (cstv n λ_=>0):=by
  have e:(oI n (sS 0).cells.toList).flatten=cstv n λ_=>0:=by
   apply L5
   ·simp[Value.cells]
   intro i h1 h2;simp[Value.cells]
  rw[<-e];exact ho
 have hv:=U.size;have hp:Zw [] ↑I (sL bO n n) n 1 (cstv n λ_=>0):=Y.arr oe (n:=n) (cap:=n) (sz:=1) oe oa (Lr _);refine Qd<|Ql<|QG hp Z<|Qa<|xe<|QY (α:=Nat×(Nat->Int)) [(4,4),(10,17)] (λz=>[(10,sS z.1)]) (λz w'=>z.1<=n/\xd [bO] I w'/\QN ↑w' bO 3 (cstv n z.2)/\∀i,i<z.1->z.2 i=(i:Int)) (λz=>n - z.1) (0,λ_=>0) Lb ⟨Lp _,xd.C _ _,Y,λi hi=>O1 hi (NF _)⟩ ?_;rintro⟨k,f3⟩ g w3 ⟨hk,ha,G,J⟩;simp only[]at hk G J;refine Zk rfl Z (λO=>?_) (λO=>?_)
 ·refine Qt ?_;have hq:k=n:=by have he:¬(k:Int)<(n:Int):=O;omega
  subst hq;refine Ql<|Qb<|Qk ⟨[_],Lb,(U.D hm).O ha oa,?_⟩;have e:cstv k f3=(zE k).map (Value.int .i64):=by
   unfold cstv zE;rw[MF];exact List.map_congr_left λi hi=>O0 _ (J i (ME.1 hi))
  rw[e]at G;have hf:(zE k).length=k:=by simp[zE]
  have:=G.own (n:=k) (sz:=1) (by rw[Lo,hf,OV]) oa (base:=↑w) oa;show w3.ownsRow _ _ 1 _ (zE k).length _;rw[hf];exact this
 have hg:k<n:=by have he:(k:Int)<(n:Int):=O;omega
 refine Qf<|Qd<|Qn<|Ql<|Qb<|Qr<|Qa<|Qa<|Qa<|x (QE (i:=k) Z Z hg)<|Qo<|Qv (j:=0+k*1) (u:=sS (k:Int)) G Z Z (by simp;omega) Z λw4 hr hh=>xe ?_;rw[VT]at hh;refine Qr<|QC Z Z<|Qa<|xe<|⟨(k+1,XB f3 k (k:Int)),by show n - (k+1)<n - k;omega,Lb,hg,ha.Q hr,hh,λi hi=>?_⟩;simp only[];by_cases e1:i=k
 ·subst e1;rw[Zx]
 rw[ZQ _ _ e1];exact J i (by have he:i<k+1:=hi;omega)
section
variable {P:LI->Prop}
structure SyB (P:LI->Prop)(s:Sy):Prop where
 nd:s.tup.Nodup
 p:∀t∈s.tup,P t
theorem QpV (hB:B<=4096)(U:∀l:List (LI),l.Nodup->(∀t∈l,P t)->l.length<=B){t:LI}{v:Int}{z:Sy}(G:SyB P z)(V:∀u,QU v aa t=some u->P u):
  ∃z',syE aa i t z v=some z'/\SyB P z':=by
 unfold syE;cases Y:QU v aa t with
 | none=>exact⟨z,Z,G⟩
 | some u =>
  simp only[];by_cases I:u∈z.tup
  ·rw[OZ I];exact⟨_,Z,G.nd,G.p⟩
  have J:(z.tup++[u]).Nodup:=Y6 G.nd I;have O:∀t∈z.tup++[u],P t:=λt ht=>by
   rcases Lk.1 ht with ht|ht
   ·exact G.p t ht
   rw[Lc.1 ht];exact V u Y
  have hc:=U _ J O;rw[Le,Lz]at hc;rw[OY I,OY oa];exact⟨_,Z,J,O⟩
theorem Qgb (I:B<=4096)(J:∀l:List (LI),l.Nodup->(∀t∈l,P t)->l.length<=B){i:Nat}{t:LI}:∀(vs:LI) (z:Sy),SyB P z->(∀v∈vs,∀u,QU v aa t=some u->P u)->∃z',Vf aa i t vs z=some z'/\SyB P z'
 | [],z,G,_=>⟨z,Z,G⟩
 | v::vs,z,G,O=>by
  obtain⟨U,h1,h2⟩:=QpV (i:=i) I J G (O v Lj);obtain⟨V,Y,h4⟩:=Qgb I J vs U h2 (λw hw=>O w (Lh _ hw));exact⟨V,by rw[Vf,h1];exact Y,h4⟩
theorem Qjf (I:B<=4096)(J:∀l:List (LI),l.Nodup->(∀t∈l,P t)->l.length<=B)(O:∀t,P t->∀v∈evs aa,∀u,QU v aa t=some u->P u):∀(f i:Nat) (z:Sy),SyB P z->∃z',syL aa f i z=some z'
 | 0,_,z,_=>⟨z,Z⟩
 | f+1,i,z,G=>by
  rw[syL];split
  ·rename_i hi;have V:P (Jk z i):=G.p _ (by unfold Jk;simp[oQ,hi]);have U:(ZP aa i (Jk z i) z).tup=z.tup:=by unfold ZP;split <;> rfl
   obtain⟨Y,h1,h2⟩:=Qgb (i:=i) I J (evs aa) (ZP aa i (Jk z i) z) ⟨by rw[U];exact G.nd,by rw[U];exact G.p⟩ (O _ V);obtain⟨s2,h3⟩:=Qjf I J O f (i+1) Y h2;exact⟨s2,by rw[h1];exact h3⟩
  exact⟨z,Z⟩
theorem Qf5 (G:B<=4096)(I:∀l:List (LI),l.Nodup->(∀t∈l,P t)->l.length<=B)(J:(∀a∈aa,a.st≠0)->P (oI aa.length 0))(O:∀t,P t->∀v∈evs aa,∀u,QU v aa t=some u->P u):
  ∃z,xw aa=some z:=by
 unfold xw;split
 ·exact⟨_,rfl⟩
 rename_i U;have h1:P (oI aa.length 0):=J (λa V e=>U ⟨a,V,e⟩);obtain⟨z,h2⟩:=Qjf G I O 4096 0 (zt aa) ⟨by simp[zt],λt ht=>by simp[zt]at ht;subst ht;exact h1⟩;exact⟨_,by rw[h2];rfl⟩
end
def VY (k:Nat):LI->Int
 | []=>0
 | x::t=>x+(k:Int)*VY k t
theorem Qg8 {k:Nat}:∀{t:LI},(∀x∈t,0<=x/\x<(k:Int))->0<=VY k t/\VY k t<((k ^ t.length:Nat):Int)
 | [],_=>by simp[VY]
 | x::t,h=>by
  have hx:=h x Lj;obtain⟨h1,h2⟩:=Qg8 (t:=t) (λy G=>h y (Lh _ G));have O:(0:Int)<(k:Int):=oa
  rw[VY,LS,OM];have I:(k:Int)*VY k t<=(k:Int)*(((k ^ t.length:Nat):Int) - 1):=Int.mul_le_mul_of_nonneg_left oa oa;have U:0<=(k:Int)*VY k t:=Int.mul_nonneg oa h1;rw[Int.mul_sub,Int.mul_one]at I;have J:((k ^ t.length*k:Nat):Int)=(k:Int)*((k ^ t.length:Nat):Int):=by rw[Int.natCast_mul,Int.mul_comm]
  rw[J];exact⟨oa,oa⟩
theorem QdH {k:Nat}:∀{t u:LI},t.length=u.length->(∀x∈t,0<=x/\x<(k:Int))->(∀x∈u,0<=x/\x<(k:Int))->VY k t=VY k u->t=u
 | [],[],_,_,_,_=>rfl
 | [],_::_,h,_,_,_=>by cases h
 | _::_,[],h,_,_,_=>by cases h
 | x::t,y::u,hl,ht,I,J=>by
  have hx:=ht x Lj;have O:=I y Lj;rw[VY,VY]at J;have U:(x+(k:Int)*VY k t) % (k:Int)=x:=by rw[Int.add_mul_emod_self_left];exact Int.emod_eq_of_lt hx.1 hx.2
  have m2:(y+(k:Int)*VY k u) % (k:Int)=y:=by rw[Int.add_mul_emod_self_left];exact Int.emod_eq_of_lt O.1 O.2
  rw[J]at U;have V:x=y:=oa
  subst V;have Y:(k:Int)*VY k t=(k:Int)*VY k u:=oa
  have hk:(k:Int)≠0:=oa
  rw[QdH (ox hl) (λz G=>ht z (Lh _ G)) (λz G=>I z (Lh _ G)) (Int.eq_of_mul_eq_mul_left hk Y)]
theorem QcJ {k:Nat}(O:∀a∈aa,QL a)(hk:∀a∈aa,a.st<=(k:Int))(hB:k ^ aa.length<=4096):∃z,xw aa=some z:=by
 have I:∀t,Vt aa t->∀x∈t,0<=x/\x<(k:Int):=λt ht x hx=>by
  obtain⟨i,hi,e⟩:=LQ hx;have U:i<aa.length:=by rw[<-ht.1];exact hi
  have h1:=ht.2 i hi U;have h2:=hk _ (Lm U);rw[e]at h1;omega
 refine Qf5 (P:=Vt aa) hB (λl hn G=>?_) (λhz=>?_) (λt ht v _ u J=>Xw O ht J)
 ·have h1:(l.map (VY k)).Nodup:=by
   unfold List.Nodup;rw[Mj];refine List.Pairwise.imp_of_mem (λ{a b} V hb he e=>he ?_) hn;exact QdH (by rw[(G a V).1,(G b hb).1]) (I a (G a V)) (I b (G b hb)) e
  have h2:=xM (k ^ aa.length) _ h1 (λu J=>by
   obtain⟨t,ht,rfl⟩:=Lt.1 J;have Y:=Qg8 (I t (G t ht));rw[(G t ht).1]at Y;exact Y)
  rw[Lo]at h2;exact h2
 refine⟨oe,λi h h'=>?_⟩;have h1:=hz _ (Lm h');have h2:=(O _ (Lm h')).st0;simp only[Oy];omega
def bpt (a:Qz)(tg:LI):LI×Bool:=if a.st=0 then([],false) else ptR a a.st.toNat 0 tg (zE a.st.toNat)
theorem Qo9 {m:Int}(G:(n:Int)<=m):Ki m none (zE n)=0:=by
 refine Qck (λx hx=>?_) ?_
 ·obtain⟨i,hi,rfl⟩:=Lt.1 hx;have:=ME.1 hi;omega
 unfold zE YD;rw[Mj];exact List.pairwise_lt_range.imp λh=>oa
theorem Qmj {tg:LI}(h:Zv [] ↑w va vm ve a)(hok:QL a)(hT:Qu [] ↑w vt tg)(hh:Ki a.st none tg=0):
  QT sV 53 [.agg #[va,sS a.st,vm,ve],sS 0,vt] w λr w'=>sW w w'/\∃v,r=.tuple #[v,.bool (bpt a tg).2]/\Yu ↑w ↑w' v (bpt a tg).1:=by
 have hq:=hok.st0;have hr:=hok.st1;obtain⟨n,hn⟩:∃n:Nat,a.st=n:=⟨a.st.toNat,oa⟩;have hj:a.st.toNat=n:=oa
 have G:bpt a tg=if a.st=0 then([],false) else ptR a n 0 tg (zE n):=by unfold bpt;rw[hj]
 refine Zg (bpt a tg) λR hR=>?_;rw[hR]at G ⊢;refine Zn func53 ?_;refine Qc<|Zd [va,sS a.st,vm,ve] λb3 I he hs O=>x Qe<|Qb<|Qd<|Ql<|Qs Z O Z Z<|x (Yn (a:=0) (b:=a.st) Z Z)<|xe<|Zh rfl (λU=>?_) (λU=>?_)
 ·have V:a.st=0:=by have hk:(0:Int)≥a.st:=U;omega
  rw[OZ V]at G;rw[G];refine Qc<|x Qe<|Qb<|Qk ⟨[ZY,.bool false],oy,he,ZY,Z,Yu.nil _ _⟩
 have V:¬a.st=0:=by have hk:¬(0:Int)≥a.st:=U;omega
 rw[OY V]at G;have hf:0<n:=oa
 refine Qf<|Qd<|ZK [] (Xj 0 13 [4,5]) ?_;have hm:sW I { I with drawn:=I.drawn+1 }:=xd.Y _ _
 refine pq (λ_ hc=>Zj (O.I hc) Z Z)<|p Qx<|p Qx<|pq (λ_ hc=>Zj (O.I hc) Z Z)<|pk<|xg<|(Qrl (w:={ I with drawn:=I.drawn+1 }) hn oa).S ?_
 rintro v2 w2 ⟨ho,hp⟩;have Y:=hm.D ho;have J:=he.D Y;have hu:(zE n).length<=4096:=by simp[zE];omega
 refine⟨Y,?_⟩;refine pk<|xg<|(Qpd (n:=n) (from0:=0) (h.I J) ((ZA a).2 hok) hn hf (hT.I J) (Qh.ints hp oa oe) hh (Qo9 oa) (Lt.2 ⟨0,ME.2 hf,rfl⟩)).S ?_;rintro _ w3 ⟨hg,v,rfl,ha⟩;rw[<-G]at ha ⊢;refine⟨Y.D hg,?_⟩;refine p Qx<|p (λ_=>Q2 Z Z)<|p (λ_=>Q2 Z Z)<|p (λ_=>Q2 Z Z)<|p ZH<|p ZH<|p ZH<|pe ?_;refine Ql<|Qa<|x Qe<|Qb<|Qk ⟨[v,_],oy,J.D hg,v,Z,?_⟩;rw[G]at ha ⊢;exact λL hL=>Qh.ints ha (LA (Qnr a n tg _) oa) λb hb=>LX (hL b hb) J.size
def nbl (a:Qz):LI×Bool:=((bpt (Jf [a]) (blkd (Jf [a]) (Jf [a]).mr)).1,!(bpt (Jf [a]) (blkd (Jf [a]) (Jf [a]).mr)).2)
theorem Qo3 (a:Qz)(h:0<=a.st)(tg:LI):Ki a.st none (blkd a tg)=0:=by
 refine Qck (λx hx=>?_) ?_
 ·obtain⟨i,hi,rfl⟩:=Lt.1 hx;have:=ME.1 (LB.1 hi).1;omega
 unfold blkd YD;rw[Mj];exact(List.pairwise_lt_range.filter _).imp λh=>oa
theorem yE (hok:QL a):∃Q,xw [a]=some (Jf [a],Q)/\QL (Jf [a]):=by
 have I:=hok.st0;obtain⟨z,G⟩:=QcJ (aa:=[a]) (k:=a.st.toNat) (λb hb=>by rw[Lc.1 hb];exact hok) (λb hb=>by rw[Lc.1 hb];omega) (by have:=hok.st1;simp only[oL,Nat.pow_one];omega);have e:Jf [a]=z.1:=by unfold Jf;rw[G]
 rw[e];exact⟨z.2,G,(Yx (λb hb=>by rw[Lc.1 hb];exact hok) (A:=z.1) (Q:=z.2) G).1.okay (λb hb=>by rw[Lc.1 hb];exact hok)⟩
theorem jR {vl:O7}{q:AV}(h:Jd [] ↑w vl [q])(hok:QL q.a)(h9:q.a.st<=100):
  QT sV 16 [vl] w λr w'=>sW w w'/\∃v,r=.tuple #[v,.bool (nbl q.a).2,sS 0]/\Yu ↑w ↑w' v (nbl q.a).1:=by
 obtain⟨Q,hz,G⟩:=yE hok;have Y:=G.st0;have hk:=G.st1;have ho:(Jf [q.a]).mr.length<=4096:=by
  have:=xM (Jf [q.a]).st.toNat _ (G.mri.imp λhE e=>oa) λx hx=>oq (G.mr x hx)
  omega
 refine Zn func16 ?_;refine Qc<|x Qe<|x Qe<|Qb<|Ql<|Qw<|(jL h λp hp=>by rw[Lc.1 hp];exact h9).S ?_;rintro _ w1 ⟨hq,va,vt,c,rfl,hR⟩;have hc:c=0/\Xu ↑w ↑w1 va (Jf [q.a]):=by
  unfold YK at hR;have hck:K9 ([q].map (·.a))=0:=by
   show K9 [q.a]=0;unfold K9 ckL;rw[OY oe,OY (by rw[(ZA _).2 hok];simp)];rfl
  rw[OY (by rw[hck];simp)]at hR;have hm:[q].map (·.a)=[q.a]:=rfl;rw[hm,hz]at hR;exact⟨hR.1,hR.2.1⟩
 obtain⟨rfl,hr,hs,hu,rfl,hw⟩:=hc;have I:=hw [] oe;refine Zg (Jf [q.a]) λS hS=>?_;have hy:nbl q.a=((bpt S (blkd S S.mr)).1,!(bpt S (blkd S S.mr)).2):=by unfold nbl;rw[hS]
 rw[hS]at I G Y hk ho;obtain⟨n,hn⟩:∃n:Nat,S.st=n:=⟨S.st.toNat,oa⟩;have h0:S.st.toNat=n:=oa
 have h3:∀x∈S.mr,0<=x/\x<(n:Int):=λx hx=>oq (G.mr x hx)
 rw[hy,hS];refine Qa<|QS Z Z<|QS Z Z<|QS Z Z<|QV Kf λb5 w2 h4 h5 h6=>Q6 [hr,sS S.st,hs,hu] h6 ⟨I.al.one,Z,I.mr.one,I.ed.one,La⟩ λJ h7 U=>x Qe<|Qb ?_;have V:sW w1 J:=h4.O h7 h5;have ha:=hq.D V;refine Qd<|Ql<|ZS Z Z<|xe<|ZC rfl<|Qf<|Qd<|ZK [] (Xj 0 12 [4,5,6]) ?_;have he:sW J { J with drawn:=J.drawn+1 }:=xd.Y _ _
 have hf:=V.D he;refine pq (λ_ hc=>Zj (U.I hc) Z Z)<|pq (λ_ hc=>Zj (U.I hc) Z Z)<|p (QH Z)<|pq (λ_ hc=>Qj (U.I hc) Z Z)<|pk<|xg<|(QhL (w:={ J with drawn:=J.drawn+1 }) (I.I hf) G hn (I.mr.I hf) h3 oa).S ?_
 rintro _ w4 ⟨h8,b,f,rfl,hb,hA,hB⟩;have hg:=he.D h8;refine⟨hg,?_⟩;refine pk<|xg<|(QfD hA oa).S ?_;rintro v5 w5 ⟨hC,hh⟩;have hD:(((oM n).filter λi=>decide (f i<0)).map λi:Nat=>(i:Int))=blkd S S.mr:=by
  unfold blkd;rw[h0];congr 1;exact NH λi hi=>bD (hB i (ME.1 hi))
 rw[hD]at hh;have O:=hg.D hC;refine⟨O,?_⟩;have hF:(blkd S S.mr).length<=4096:=by
  unfold blkd;rw[Lo];exact LA (LO _ _) (by rw[Mg];omega)
 refine pk<|xg<|(Qmj (I.I (V.D O)) G (Qh.ints hh oa oe) (Qo3 S Y _)).S ?_;rintro _ w6 ⟨hj,v,rfl,hv⟩;refine⟨O.D hj,?_⟩;refine p Qx<|p (λ_=>Q2 Z Z)<|p (λ_=>Q2 Z Z)<|p ZH<|p ZH<|pe ?_;refine Ql<|Qa<|x (Zi Z)<|x Qe<|x Qe<|Qb<|Qk ⟨[v,_,sS 0],oz,(ha.D O).D hj,v,Z,hv.S (ha.D O).size⟩
end Go.Lg
namespace Go.Proofs
open Go.Proofs.Tryz
open Go.Shelf
def Tryz.sortEd_ren:Go.Shelf.Ren:=⟨λ|6=>244|15=>141|14=>278|28=>220|29=>221|20=>300|21=>301|22=>302|23=>303|24=>304|25=>305|26=>306|27=>307|46=>318|47=>258|48=>259|49=>319|50=>320|57=>325|n=>n,λ|22=>51|24=>179|25=>345|3=>3|39=>246|0=>0|53=>317|55=>319|4=>4|46=>311|45=>310|50=>205|5=>5|9=>9|66=>363|70=>367|76=>389|77=>379|n=>n,λ|n=>n⟩
theorem Tryz.sortEd:Go.Proofs.SlLaysF0.n6 sV Tryz.sortEd_ren:=lyS
end Go.Proofs
namespace Go.Lg
open Go.Lg Go.Sort
abbrev Ez:={ x:Ed // (0<=x.1/\x.1<1099511627776)/\0<=x.2.1/\x.2.1<1099511627776 }
instance:Inhabited Ez:=⟨⟨(0,0,0),oh⟩⟩
abbrev zD (x:Ez):LV:=[sS x.1.1,sS x.1.2.1,sS x.1.2.2]
abbrev EzO (base:Nat)(w:O6)(v:O7)(l:List Ez):Prop:=w.ownsRow base 179 3 v l.length (l.flatMap zD)
def ecf (x y:Ez):Int:=if x.1.1=y.1.1 then x.1.2.1 - y.1.2.1 else x.1.1 - y.1.1
theorem QsF (x y:Ez)(W:O6):Calls sV 310 #[sT (zD x),sT (zD y)] W λe w'=>e=.returned (sS (ecf x y))/\∃q os',w'=grow (W.drewN q) os':=by
 have G:IntKind.i64.wrap (x.1.1 - y.1.1)=x.1.1 - y.1.1:=X4 ⟨ou x.2 y.2,ou x.2 y.2⟩;have I:IntKind.i64.wrap (x.1.2.1 - y.1.2.1)=x.1.2.1 - y.1.2.1:=X4 ⟨ou x.2 y.2,ou x.2 y.2⟩
 go_enter func310,ntmps310
 go_wp2
 ·go_ret;rename_i h;exact⟨by rw[ecf,OY (ox h)];rfl,0,_,by rw[alloc_eq_grow,alloc_eq_grow,grow_grow];rfl⟩
 go_ret;rename_i h;exact⟨by rw[ecf,OZ (ox h)];rfl,0,_,by rw[alloc_eq_grow,alloc_eq_grow,grow_grow];rfl⟩
theorem QsG (x y:Ez)(W:O6):Calls sV 245 #[sT (zD x),sT (zD y)] W λe w'=>e=.returned (sS (ecf x y))/\∃q os',w'=grow (W.drewN q) os':=by
 have G:IntKind.i64.wrap (x.1.1 - y.1.1)=x.1.1 - y.1.1:=X4 ⟨ou x.2 y.2,ou x.2 y.2⟩;have I:IntKind.i64.wrap (x.1.2.1 - y.1.2.1)=x.1.2.1 - y.1.2.1:=X4 ⟨ou x.2 y.2,ou x.2 y.2⟩
 go_enter func245,ntmps245
 go_wp2
 ·go_ret;rename_i h;exact⟨by rw[ecf,OY (ox h)];rfl,0,_,by rw[alloc_eq_grow,alloc_eq_grow,grow_grow];rfl⟩
 go_ret;rename_i h;exact⟨by rw[ecf,OZ (ox h)];rfl,0,_,by rw[alloc_eq_grow,alloc_eq_grow,grow_grow];rfl⟩
theorem Qb6 (x:Ez):(zD x).length=3:=rfl
theorem Qfn:∀l:List Ez,(l.flatMap zD).length=l.length*3
 | []=>rfl
 | x::l=>by rw[LR,Le,Qfn l,Qb6,LS];omega
theorem Qg7 {l:List Ez}(I:j<l.length*3):(l.flatMap zD)[j]?=some ((flatK zD 3 l.toArray)[j]!):=by
 have h1:j / 3<l.length:=Nat.div_lt_of_lt_mul oa;have h2:j % 3<3:=Nat.mod_lt _ oh;rw[get_flatK _ _ _ _ (ox I)];have J:(l.flatMap zD)[j]?=(zD (l[j / 3]'h1))[j % 3]?:=by
  rw[<-(Jv zD 3 Qb6 l (j / 3) h1),L6,OZ h2,MT];congr 1;omega
 rw[J];have O:(l.toArray)[j / 3]! = l[j / 3]'h1:=by simp[h1]
 rw[O];have G:j % 3<(zD (l[j / 3]'h1)).length:=h2;exact(LE G).D (O0 some (getElem!_pos (zD (l[j / 3]'h1)) (j % 3) G).symm)
theorem QlG (x y:Ez):ltOf ecf x y=true↔x.1.1<y.1.1\/x.1.1=y.1.1/\x.1.2.1<y.1.2.1:=by
 unfold ltOf ecf;rw[decide_eq_true_iff];split <;> omega
theorem Qcb (x y:Ez):ltOf ecf x y=false↔y.1.1<x.1.1\/y.1.1=x.1.1/\y.1.2.1<=x.1.2.1:=by
 rw[<-Bool.not_eq_true,QlG];omega
theorem QqW:SWO (ltOf ecf) where
 irrefl x:=by rw[Qcb];omega
 trans x y z h1 h2:=by rw[QlG]at *;omega
 ntrans x y z h1 h2:=by rw[Qcb]at *;omega
theorem Qny [Inhabited α]{lt:α->α->Bool}{d G:Array α}(J:PermIn 0 d.size d G)(O:SortedIn lt 0 d.size G):G.toList.Perm d.toList/\G.toList.Pairwise (λx y=>lt y x=false):=by
 obtain⟨U,_,I⟩:=J;have e1:G.extract 0 d.size=G:=by rw[<-U];exact Array.extract_size
 rw[e1,Array.extract_size]at I;refine⟨I,?_⟩;rw[Mn];intro i j hi V Y;have hi':i<G.size:=by simpa using hi
 have ha:j<G.size:=by simpa using V
 have:=O i j (Lp _) Y oa;rw[getElem!_pos G j ha,getElem!_pos G i hi']at this;simpa using this
theorem QeM (eg:∀args w,(callFunc g args).run sV w=.ok (.enter g args) w)(hf:∀(x y:Ez) (W:O6),Calls sV g #[sT (zD x),sT (zD y)] W λe w'=>e=.returned (sS (ecf x y))/\∃q os',w'=grow (W.drewN q) os')
    {v:O7} {l:List Ez} (h:EzO base w v l) (hl:l.length<=1099511627776):
  QT sV 244 [v,.func (.func g) #[] #[]] w λ_ w'=>xd (ob v) w w'/\∃l':List Ez,l'.Perm l/\l'.Pairwise (λx y=>ltOf ecf y x=false)/\EzO base w' v l':=by
 unfold QT;rcases h.2 with⟨rfl,h0⟩|⟨gb,cap,cur,rfl,hh,J,hm,ho,hq,hr⟩
 ·have hs:l=[]:=Lu h0;subst hs;have hc:=AnyF.slices_SortFunc_none Tryz.sortEd none 0 (.func (.func g) #[] #[]) w;change Calls sV 244 _ _ _ at hc;refine Calls.mono hc λe w' O=>?_;obtain⟨rfl,rfl⟩:=O;exact⟨xd.C _ _,[],List.Perm.refl _,List.Pairwise.nil,h⟩
 have Y:gb<w.heap.size:=(LM.1 J).1;have hH:HoldsK zD 3 w gb 0 l.toArray:=by
  intro j G;rw[size_flatK,L3]at G;have h1:=Qg7 G;rw[<-hr,L6,OZ G]at h1;constructor
  ·show(match w.heap[gb]? with|some (.cells c _ _)=>if(none:Option _).isSome then none else c[0+j]?|_=>none)=_
   rw[J];simp only[Ob,Option.isSome_none,Ov,if_false];rw[<-MX,h1];rfl
  show(match w.heap[gb]? with|some (.cells _ _ (lo,hi))=>decide (lo<=0+j) && decide (0+j<hi)|_=>false)=false
  rw[J];simp
 have hc:=AnyQ.slices_SortFunc Tryz.sortEd 3 isAgg179 sizeOf179 zD Qb6 (λx v hv=>by simp at hv;rcases hv with rfl|rfl|rfl <;> rfl) ecf QqW g #[] gb 0 cap l.toArray w eg (λm os dk _ x y=>hf x y _) hH Y (by simp;omega)
 change Calls sV 244 _ _ _ at hc;rw[L3]at hc;refine Calls.mono hc λe w' O=>?_;obtain⟨rfl,I,n,os,hp,hu,rfl⟩:=O;have U:I.size=l.length:=by have:=hp.1;simpa using this
 have ha:=Qny (d:=l.toArray) (by rw[L3];exact hp) (by rw[L3];exact hu);have V:(sortWorldK zD 3 w gb 0 n I os).heap=w.heap.modify gb (onCells (putCells id 0 (flatK zD 3 I)))++os:=rfl;refine⟨⟨rfl,Z,Z,?_,λk hk hn=>?_⟩,I.toList,ha.1,ha.2,?_⟩
 ·rw[V,NG,MP];omega
 ·rw[V,MK,MP,OZ hk,M7,OY (λe=>hn (by simp[ob,e]))]
 refine⟨Qfn _,.inr ⟨gb,cap,putCells id 0 (flatK zD 3 I) cur,by simp[U],hh,?_,by simp[U];exact hm,ho,by simp[putCells,hq],?_⟩⟩
 ·rw[V,MK,MP,OZ Y,M7,OZ rfl,J];rfl
 apply Nw;intro j;rw[L6];by_cases G:j<I.toList.length*3
 ·rw[OZ G,Qg7 G,MX];have hw:j<cur.size:=by simp[U]at G;omega
  have hy:j<(flatK zD 3 I).size:=by simpa using G
  simp only[putCells,Array.getElem?_mapIdx,Array.getElem?_eq_getElem hw,OJ,Nat.zero_le,Ob,true_and,OZ hy,OS,id]
 rw[OY G,Mk];rw[Qfn];omega
theorem Qls:∀l:List Ez,(l.map (·.1)).flatMap Qp=l.flatMap zD
 | []=>rfl
 | x::l=>by rw[L2,LR,LR,Qls l];rfl
theorem Qg6:∀l:List Ed,(∀e∈l,(0<=e.1/\e.1<1099511627776)/\0<=e.2.1/\e.2.1<1099511627776)->∃zs:List Ez,zs.map (·.1)=l
 | [],_=>⟨[],Z⟩
 | e::l,h=>by
  obtain⟨zs,h1⟩:=Qg6 l (λd hd=>h d (Lh _ hd));exact⟨⟨e,h e Lj⟩::zs,by rw[L2,h1]⟩
abbrev QdK (x y:Ed):Prop:=x.1<y.1\/x.1=y.1/\x.2.1<=y.2.1
theorem Qas (eg:∀args w,(callFunc g args).run sV w=.ok (.enter g args) w)(G:∀(x y:Ez) (W:O6),Calls sV g #[sT (zD x),sT (zD y)] W λe w'=>e=.returned (sS (ecf x y))/\∃q os',w'=grow (W.drewN q) os')
    {v:O7} {l:List Ed} (h:w.ownsRow base 179 3 v l.length (l.flatMap Qp)) (hl:l.length<=1099511627776) (hb:∀e∈l,(0<=e.1/\e.1<1099511627776)/\0<=e.2.1/\e.2.1<1099511627776):
  QT sV 244 [v,.func (.func g) #[] #[]] w λ_ w'=>xd (ob v) w w'/\∃l':List Ed,l'.Perm l/\l'.Pairwise QdK/\w'.ownsRow base 179 3 v l'.length (l'.flatMap Qp):=by
 obtain⟨zs,rfl⟩:=Qg6 l hb;rw[Lo]at hl;rw[Lo,Qls]at h;refine(QeM eg G h hl).S λ_ _ ⟨h1,l',h2,I,J⟩=>⟨h1,l'.map (·.1),h2.map _,?_,by rw[Lo,Qls];exact J⟩;rw[Mj];refine I.imp λ{x y} O=>?_;have:=(Qcb y x).1 O;exact this
theorem Qbo {v:O7}{l:List Ed}(h:w.ownsRow base 179 3 v l.length (l.flatMap Qp))(hl:l.length<=1099511627776)(hb:∀e∈l,(0<=e.1/\e.1<1099511627776)/\0<=e.2.1/\e.2.1<1099511627776):
  QT sV 283 [v] w λ_ w'=>xd (ob v) w w'/\∃l':List Ed,l'.Perm l/\l'.Pairwise QdK/\w'.ownsRow base 179 3 v l'.length (l'.flatMap Qp):=by
 refine Zn func283 ?_;refine Qr<|Qa<|Qw<|(Qas (enters_of func310 od Z) QsF h hl hb).S ?_;rintro G I h1;refine xe ?_;exact⟨[],La,h1⟩
theorem QhO {v:O7}{l:List Ed}(h:w.ownsRow base 179 3 v l.length (l.flatMap Qp))(hl:l.length<=1099511627776)(hb:∀e∈l,(0<=e.1/\e.1<1099511627776)/\0<=e.2.1/\e.2.1<1099511627776):
  QT sV 244 [v,.func (.func 245) #[] #[]] w λ_ w'=>xd (ob v) w w'/\∃l':List Ed,l'.Perm l/\l'.Pairwise QdK/\w'.ownsRow base 179 3 v l'.length (l'.flatMap Qp):=
 Qas (enters_of func245 od Z) QsG h hl hb
def cmF (c:ZO)(l:List (LI)):LI:=l.zipIdx.filterMap λp=>if(Uy c.ex c.cs p.1).2.2=true then some (p.2:Int) else none
theorem Ql0 {l:List (LI)}{k:Nat}(h:k<l.length):cmF c (l.take (k+1))=cmF c (l.take k)++(if(Uy c.ex c.cs (l[k]'h)).2.2=true then[(k:Int)]else[]):=by
 unfold cmF;rw[Ln h,List.zipIdx_append,List.filterMap_append];have e:0+(l.take k).length=k:=by rw[LH];omega
 rw[e];simp only[List.zipIdx_cons,List.zipIdx_nil,List.filterMap_cons,List.filterMap_nil];by_cases G:(Uy c.ex c.cs (l[k]'h)).2.2=true
 ·rw[OZ G,OZ G]
 rw[OY G,OY G]
theorem QoW (c:ZO)(l:List (LI)):(cmF c l).length<=l.length:=by
 unfold cmF;refine LA (List.length_filterMap_le _ _) ?_;rw[List.length_zipIdx];exact Lr _
def Qhl (c:ZO):Bool:=match xw (xj c.co),xw (xj c.co++xj c.rq) with
 | some (pa,ps),some (_,ts)=>ts.all λt=>decide ((wrf c.rq (t.drop c.co.length) (enb pa (plx ps (t.take c.co.length)))).length<=1)
 | _,_=>false
def cmB (c:ZO):LI:=match xw (xj c.co++xj c.rq) with
 | some (sa,ts)=>cmF c (ts.map (·.take c.co.length))++[sa.st]
 | none=>[]
structure CmI (b2 base:Nat)(W:O6)(xa:O7)(st:Int)(xm vb ve:O7)(bad:LI)(es:List Ed):Prop where
 B:QN ↑W b2 53 [xa,sS st,xm,ve]
 b:Qh 3 base W vb bad
 e:W.ownsRow base 179 3 ve es.length (es.flatMap Qp)
 dj:Dj vb ve
 bd:∀e∈es,(0<=e.1/\e.1<1099511627776)/\0<=e.2.1/\e.2.1<1099511627776
theorem CmI.I {I base:Nat}{W W':O6}{xa:O7}{st:Int}{xm vb ve:O7}{bad:LI}{es:List Ed}(h:CmI I base W xa st xm vb ve bad es)(G:sW W W'):CmI I base W' xa st xm vb ve bad es :=
 ⟨h.B.I G,Qm h.b G,Qm h.e G,h.dj,h.bd⟩
theorem CmI.addB {W:O6}{xa:O7}{st:Int}{xm I:O7}{bad bad':LI}(h:CmI G base W xa st xm vb ve bad es)(hb:G<base)(J:xd (ob vb) W W')(U:Qh 3 base W' I bad')(V:∀b∈ob I,b∈ob vb\/↑W<=b):CmI G base W' xa st xm I ve bad' es :=
 ⟨h.B.J J (QJ h.b hb),U,Qg h.e J (λb hb Y=>h.dj b Y hb),λb ha O=>(V b ha).elim (λh1=>h.dj b h1 O) (λh1=>oq (QW h.e b O)),h.bd⟩
theorem CmI.addE {W W1:O6}{xa:O7}{st:Int}{xm J:O7}{bad:LI}{e:Ed}(h:CmI G base W xa st xm vb ve bad es)(hb:G<base)(hs:xd (ob ve) W W1)(U:W1.ownsRow base 179 3 J (es.length+1) (es.flatMap Qp++Qp e))(hn:∀b∈ob J,b∈ob ve\/↑W<=b)
  (V:xd [G] W1 W') (hB:QN ↑W' G 53 [xa,sS st,xm,J]) (he:(0<=e.1/\e.1<1099511627776)/\0<=e.2.1/\e.2.1<1099511627776):CmI G base W' xa st xm vb J bad (es++[e]):=by
 refine⟨hB,Qg (Qg h.b hs (λb hb I=>h.dj b hb I)) V (λb O I=>by have:=(Qi h.b b O).1;rw[Lc.1 I]at this;omega),?_,λb Y ha=>(hn b ha).elim (λh1=>h.dj b Y h1) (λh1=>oq (QW h.b b Y)),λd hd=>?_⟩
 ·have h9:=Qg U V (λb O I=>by have:=((Qi U) b O).1;rw[Lc.1 I]at this;omega);rw[Le,LJ];simpa using h9
 rcases Lk.1 hd with hd|hd
 ·exact h.bd d hd
 rw[Lc.1 hd];exact he
theorem CmI.stb {I:Nat}{xa:O7}{st:Int}{xm:O7}{bad:LI}:Yf B (λW=>CmI I base W xa st xm vb ve bad es):=
 λW W' X h G hX=>⟨Yf.blk W W' X h.B G hX,Yf.row W W' X h.b G hX,Yf.row W W' X h.e G hX,h.dj,h.bd⟩
theorem Qeq {c:CL}(h0:Z9 [] ↑w c)(kq:Kb w 4096)(kr:YY c.V=0)(hf:(spc c.V).a.st<4096)(h1:Qhl c.V=true):
  QT sV 183 [c.val] w λr w'=>sW w w'/\∃xa xm xe vb,r=.tuple #[.agg #[xa,sS ((spc c.V).a.st+1),xm,xe],vb,sS 0]/\ZN [xa,xm,xe]/\Qh 3 ↑w w' vb (cmB c.V):=by
 refine QT.of_G 20 func183 Z ntmps183 results183 oe ?_;refine QQ<|Qy ol ol<|Zd c.cells λb1 w1 pg hb1 kt=>QV zB λG w2 ku hb2 kv=>x Qe<|Qb ?_;have hO:=pg.D ku;have hl1:=kt.lt;have ph:=kv.lt;have pn:=kt.I ku;have kw:Z9 [G] ↑w2 c:=(h0.up (L':=[G]) (λb hb=>.inr (by rw[Lc.1 hb];omega))).I hO;refine QQ<|Qy ol ol<|Q7 pn Z Z<|Qw<|(Qd9 (h0.I hO) (kq.I hO)).S ?_;rintro r3 w3 ⟨gn,vp,rfl,_,po⟩;obtain⟨b,q,rfl,rfl,U,_,pp⟩:=po kr;rw[kr];have hz:=hO.D gn;have kx:JT [G] b ↑w3 q:=(pp [G] (λx hx=>by rw[Lc.1 hx];exact ph)).2 kw;have hsp:=Qbn U.p U.s;have hst':q.s.a.st<4096:=by rw[hsp]at hf;exact hf
 have pt:cmB q.c.V=cmF q.c.V ((q.ts.map (·.2)).map (·.take q.c.V.co.length))++[q.s.a.st]:=by unfold cmB;rw[U.s]
 have pu:∀t∈q.ts.map (·.2),(wrf q.c.V.rq (t.drop q.c.V.co.length) (enb q.p.a (plx (q.qs.map (·.2)) (t.take q.c.V.co.length)))).length<=1:=λt ht=>by
  unfold Qhl at h1;rw[U.p,U.s]at h1;exact O3 (Mo.1 h1 t ht)
 have pw:(spc q.c.V).a.st=q.s.a.st:=by rw[hsp]
 rw[pw,pt];refine Qa<|QS Z Z<|QS Z Z<|x Qe<|Qb<|QQ<|QQ<|Qy ol ol<|Qa<|ZS Z Z<|xe<|Kc rfl<|Yd ?_;refine QQ<|Qy ol ol<|Qa<|Z8 Z<|Q9 Z<|Qs Z kx.B Z Z<|QV [sS 0] λb6 w4 pz p0 p4=>Qo<|Qv (j:=0) (u:=sS q.s.a.st) p4 Z Z oe rfl λI p5 kz=>xe ?_;have hP:sW w3 I:=pz.O p5 p0;have hq:=kx.I hP;have hz3:=gn.size;have k0:=kz.lt;have p6:QN ↑I G 53 zB:=(kv.I gn).I hP;have hR:QN ↑I b6 3 [sS q.s.a.st]:=kz;have hst0:0<=q.s.a.st:=by
  have:=(Yx (λa ha=>by
   rcases Lk.1 ha with ha|ha
   ·exact Y1 (YW U.ok).co a ha
   exact Y1 (YW U.ok).rq a ha) U.s).1.st
  omega
 refine QQ<|QQ<|Qy ol ol<|ZD hR Z Z<|x (Yn Z Z)<|xe<|Qpg Z (λk4=>O1 (show q.s.a.st≥4096 from k4) oa) (λk4=>?_);refine Yd ?_;have gq:sW I { I with drawn:=I.drawn+1 }:=xd.Y _ _
 refine QQ<|Ut (sW I) [oB 0,oB 1,oB 2,oB 3,oB 4,oB 6,oB 7,oB 8,oB 9,oB 10,oB 11,oB 12,oB 14,oB 15,oB 16,oB 17,oB 18,oC 5,oC 13,oC 19,oB 20,oC 21] mixed ol ol od gq ?_;refine p Qx<|p (YT Z)<|p (QH Z)<|p (QH Z)<|pq (λ_ hc=>Qj (hq.B.I hc) Z Z)<|pq (λ_ hc=>Qj (hR.I hc) Z Z)<|p (λ_=>Xy Z Z ⟨oa,oa⟩)<|p Qx<|p (YT Z)<|p (QH Z)<|p (QH Z) <|
  pq (λ_ hc=>Qj (hq.B.I hc) Z Z)<|p Qx<|p (YT Z)<|p (QH Z)<|p (QH Z)<|pq (λ_ hc=>Qj (hq.B.I hc) Z Z)<|pk<|xg<|(Z0 (hq.s.al.I gq)).S ?_
 rintro xa w6 ⟨p7,gr⟩;have gs:=gq.D p7;refine⟨gs,?_⟩;refine pk<|xg<|(Z0 (hq.s.mr.I gs)).S ?_;rintro xm w7 ⟨p8,gt⟩;have hS:=gs.D p8;refine⟨hS,?_⟩;refine pk<|xg<|(jv (hq.s.ed.I hS)).S ?_;rintro hT w8 ⟨p9,hU⟩;have gu:=hS.D p9;refine⟨gu,?_⟩;refine p (λ_=>QD ⟨xR gr,Z,xR gt,xR hU,La⟩)<|pkk<|qI [xa,sS (q.s.a.st+1),xm,hT] (p6.I gu) ⟨QA gr,Z,QA gt,QA hU,La⟩ λw9 k5 qf=>pe ?_;have k6:xd [G] I w9:=gu.any.Q k5;have hz7:=hS.size;have hA:G<I.heap.size:=oa
 have k9:=hq.st k6;have hX:ZN [xa,xm]:=⟨QA gr,QA gt,La⟩;have qj:w9.ownsRow ↑I 179 3 hT q.s.a.ed.length (q.s.a.ed.flatMap Qp):=Qg (Za hU oa) k5 (λb hb J=>by have:=(Qi hU b hb).1;rw[Lc.1 J]at this;omega);have hok:=YW U.ok;have hB:∀a∈xj q.c.V.co++xj q.c.V.rq,QL a:=λa ha=>by
  rcases Lk.1 ha with ha|ha
  ·exact Y1 hok.co a ha
  exact Y1 hok.rq a ha
 have gv:=(Yx hB U.s).1.okay hB;have ql:∀e∈q.s.a.ed,(0<=e.1/\e.1<1099511627776)/\0<=e.2.1/\e.2.1<1099511627776:=λe he=>by
  have h1:=gv.ed e he;have h2:=gv.al _ h1.2.2.1;omega
 have q4:CmI G ↑I w9 xa (q.s.a.st+1) xm Zq hT [] q.s.a.ed:=⟨qf,QM _ _ _ _,qj,λb hb=>(by cases hb),ql⟩;have ma:=zN hB U.s;have mc:=ma.1;have q5:=ma.2;simp only[]at mc q5;have hckc:=hok.c8;have hY:q.c.V.co.length=q.c.co.length:=Lo ..;have j1:q.c.V.rq.length=q.c.rq.length:=Lo ..;have hcr:=hok.cr;have j2:(xj q.c.V.co++xj q.c.V.rq).length=q.c.co.length+q.c.rq.length:=by rw[Le];unfold xj;rw[Lo,Lo,hY,j1]
 refine QQ<|QQ<|Qy ol ol<|Qa<|Z8 Z<|Qs Z k9.B Z Z<|QG k9.ts.arr Z<|Qa<|xe<|Zg ((q.ts.map (·.2)).map (·.take q.c.V.co.length)) λtcs gx=>?_;rw[gx];have htcl:tcs.length=q.ts.length:=by rw[<-gx,Lo,Lo]
 have hTn:q.ts.length<=4096:=by have h2:=(Yx hB U.s).1.st;have h3:(q.ts.map (·.2)).length=q.ts.length:=Lo ..;omega
 refine ZL<|K3 (α:=Nat×O7×O7×List Ed) [(3,3),(7,16),(60,109)] (λz=>[(3,z.2.1),(60,sS z.1)])
  (λz ds W'=>z.1<=q.ts.length/\xd [G] I W'/\K5 ↑I ↑W' ds W'/\CmI G ↑I W' xa (q.s.a.st+1) xm z.2.1 z.2.2.1 (cmF q.c.V (tcs.take z.1)) z.2.2.2/\z.2.2.2.length<=131072+z.1)
  (λz=>q.ts.length - z.1) ol (0,Zq,hT,q.s.a.ed) oy ⟨Lp _,k6,⟨MB,λD hD=>by cases hD⟩,q4,gv.ed_le⟩ ?_
 rintro⟨k,vb,ve,es⟩ g ds h4 ⟨hk,hC,mf,O,j3⟩;simp only[]at hk O j3;have hz10:=hC.size;have hZ:=QoW q.c.V (tcs.take k);rw[LH]at hZ;refine QQ<|Qy ol ol<|ZT Z Z<|xe<|QQ<|qm Z (λmg=>?_) (λmg=>?_)
 ·refine JQ ?_;rw[Ls oa]at O hZ;refine Zg (cmF q.c.V tcs) λbad ga=>?_;rw[ga]at O hZ;have gy:G∉ob ve:=QJ O.e hA;have j4:G∉ob vb:=QJ O.b hA;have gb:b6∉[G]:=om
  have za:b6∉ob ve:=QJ O.e k0;have z0:b6∉ob vb:=QJ O.b k0;refine QQ<|Qy ol ol<|Qs Z O.B Z Z<|Qw<|(QhO O.e oa O.bd).S ?_;rintro r11 h5 ⟨hr,hj,hp,_,ho11⟩;refine xe ?_;have gc:=O.B.J hr gy;have gz:=(hR.J hC gb).J hr za;have g0:=Qg O.b hr (λb hb J=>O.dj b hb J);have hz11:=hr.size;have hv:=Qi O.e;have hE:=Qi g0;have z1:K5 ↑I ↑h4 ds h5:=mf.J hr (Go.Lg.Q8 O.e);refine QQ<|Ut (λw'=>xd (G::ob vb) h5 w'/\QN ↑w' G 53 [xa,sS (q.s.a.st+1),xm,ve]/\QN ↑w' b6 3 [sS q.s.a.st]) [oB 0,oB 1,oB 2,oC 3,oC 4,oC 5,oB 6,oB 7] mixed ol ol od ⟨xd.Y _ _,gc.I (xd.Y _ _),gz.I (xd.Y _ _)⟩ ?_;refine pq (λ_ hc=>Zj hc.2.1 Z Z)<|p Qx<|pq (λ_ hc=>Qj hc.2.2 Z Z)<|pk<|Q3 [[sS q.s.a.st]] λb116 g4 g5 hb116 z2=>?_;have h6:=(xd.Y [] h5).D g5;have hz12:=h6.size;refine⟨⟨h6.any,gc.I h6,gz.I h6⟩,?_⟩;refine pk<|Q0 (m:=1) (news:=[sS q.s.a.st]) (L:=[]) (Qm g0 h6) Z Z Z (z2.at oe) oo oa oa λmh hG mj ge hn13=>?_;have gg:xd (ob vb) h5 hG:=h6.any.Q ge;have mo:=gc.J gg j4;have mq:=gz.J gg z0;refine⟨⟨gg.S (λb hb=>Lh _ hb),mo,mq⟩,?_⟩;refine pk<|qI [xa,sS (q.s.a.st+1),xm,ve] mo ⟨hX.1,Z,hX.2.1,QA O.e,La⟩ λhg Y ms=>?_;have g6:xd (G::ob vb) h5 hg:=(gg.S (λb hb=>Lh _ hb)).Q (Y.S oe);refine⟨⟨g6,ms,mq.J Y gb⟩,?_⟩;refine p ZH<|p ZH<|pe ?_;have hw:K5 ↑I ↑h4 ds hg:=z1.J g6 (λb hb=>by
   rcases Ll.1 hb with rfl|hb
   ·exact gc.cells
   exact Go.Lg.Q8 g0 b hb)
  have z3:G∉ds:=λJ=>oq (hw.2 G J).1
  have hH:sW w hg:=(((hz.D hP).O hC oa).Z hr (λb hb=>.inr (ou (hv b hb).1 hz.size))).Z g6 (λb hb=>.inr (by
   rcases Ll.1 hb with rfl|hb
   ·omega
   have:=(hE b hb).1;have:=hz.size;omega))
  refine Ka ⟨λD hD=>(hw.2 D hD).2.2,hw.1,[.agg #[xa,sS (q.s.a.st+1),xm,ve],mh,sS 0],λW' g7=>?_⟩;refine⟨⟨Kh (ms.J g7 z3),Z,Z,La⟩,hH.Z g7 (λD hD=>.inr (ou (hw.2 D hD).1 hz.size)),xa,xm,ve,mh,Z,⟨hX.1,hX.2.1,QA O.e,La⟩,?_⟩;have h9:=Qh.snoc (Qg mj Y (λb hb J=>by have:=(Qi mj b hb).1;rw[Lc.1 J]at this;omega));have mt:=Qg h9 g7 (λb hb J=>by
   obtain⟨o,g1,g2⟩:=Go.Lg.Q8 h9 b hb;rw[(hw.2 b J).2.2]at g1;cases g1
   cases g2)
  rw[<-ga]at mt;exact Za mt (oq hz.size)
 have hI:k<q.ts.length:=by have h62:(k:Int)<(q.ts.length:Int):=mg;omega
 have mu:k<tcs.length:=oa
 have hh:=Ql0 (c:=q.c.V) mu;have z4:tcs[k]'mu=(q.ts[k]'hI).2.take q.c.V.co.length:=by subst gx;simp
 have gh:=Lm hI;have hJ:=mc _ (LL (f:=(·.2)) gh);have hy:=pu _ (LL (f:=(·.2)) gh);rw[z4]at hh;refine Zg (cmF q.c.V (tcs.take k)) λbad ga=>?_;rw[ga]at O hZ hh;refine Zg (ob vb++ob ve) λav g8=>?_;have hE:=Qi O.b;have hv:=Qi O.e;have z5:∀x∈av,↑I<=x/\x<h4.heap.size:=λx hx=>by
  rw[<-g8]at hx;exact(Lk.1 hx).elim (hE x) (hv x)
 have hAv:JT (G::av) b ↑I q:=hq.up (λx hx=>by
  rcases Ll.1 hx with rfl|hx
  ·exact .inl Lj
  exact .inr (z5 x hx).1)
 have gi:JT (G::av) b ↑h4 q:=hAv.st (hC.S oe);refine Zg (cmF q.c.V (tcs.take (k+1))) λg9 mv=>?_;rw[mv]at hh;refine Yd<|QhG (α:=O7×O7×List Ed) [(3,3),(7,16),(61,109)] (λz=>[(3,z.1),(60,sS k)]) (λz h7 W'=>xd [G] I W'/\K5 ↑I ↑W' h7 W'/\CmI G ↑I W' xa (q.s.a.st+1) xm z.1 z.2.1 g9 z.2.2/\z.2.2.length<=131072+(k+1)) ol ?_ ?_
 rotate_left
 ·rintro⟨gj,hs,hj⟩ g h7 W ⟨hsW,hDW,hIW,hlW⟩;refine Qy ol ol<|QC Z Z<|Qa<|xe ?_;exact⟨(k+1,gj,hs,hj),og,oy,hI,hsW,hDW,by simp only[];rw[mv];exact hIW,hlW⟩
 refine ZL<|QQ<|Qy ol ol<|Qa<|xo (g:=YP) KO gi.ts.arr Z Z hI λa63 mw=>?_;refine Zg (q.ts[k]'hI) λt ht=>?_;rw[ht]at mw gh hJ hy hh;have htl:t.2.length=q.c.co.length+q.c.rq.length:=by rw[hJ.1,j2]
 refine x (Qq mw Z)<|QV [sS 0] λb7 h5 hr hb7 hB7=>Qo<|Qv (j:=0) (u:=sS k) hB7 Z Z oe rfl λg4 g5 hB712=>Qb ?_;have ka:sW h4 g4:=hr.O g5 hb7;have hB712':QN ↑g4 b7 3 [sS k]:=hB712;refine QQ<|Qy ol ol<|Qa<|Qa<|Qw<|(QcU (gi.I ka) ((gi.ts.each t gh).I ka) oa).S ?_;rintro r13 hG ⟨ge,v9,my,rfl,kb,mz⟩;refine Qa<|QS Z Z<|QS Z Z<|x Qe<|Qb ?_;have hK:=ka.D ge;have m0:=gi.I hK;rw[hY]at hy hh;refine Zg (t.2.take q.c.co.length) λtc gk=>?_;refine Zg (t.2.drop q.c.co.length) λtr m1=>?_;rw[gk]at kb hy hh;rw[m1]at mz hy;have htcl2:tc.length=q.c.co.length:=by rw[<-gk,LH];omega
 have m2:∀x∈tc,0<=x/\x<4096:=λx hx=>(hJ.bd (m:=4096) (λa ha=>(hB a ha).st1)) x (Ma (by rw[gk];exact hx));have hVc:Vt (xj q.c.V.co) tc:=by
  have h1:=hJ.take;rw[show(xj q.c.V.co).length=q.c.co.length by unfold xj;rw[Lo];exact hY,gk]at h1;exact h1
 have hVr:Vt (xj q.c.V.rq) tr:=by
  have h1:=hJ.drop;rw[show(xj q.c.V.co).length=q.c.co.length by unfold xj;rw[Lo];exact hY,m1]at h1;exact h1
 have gl:JT [] b ↑hG q:=m0.up oe;have hvo:=zp gl.k1 gl.k2 gl.k3 (kb.up (L':=[]) oe) (by rw[U.ex,U.cs];exact hok.cd) hVc.tpOk;rw[U.ex,U.cs]at hvo;refine Zg (Uy q.c.V.ex q.c.V.cs tc) λV hV=>?_;rw[hV]at hvo hh;have kc:=O.I hK;have hz13:=hK.size;have m3:=hB712'.I ge;refine QhG (α:=O7) [(3,3),(11,14),(71,86)] (λz=>[(3,z)]) (λz h7 W=>h7=ds/\xd (ob vb) hG W/\Qh 3 ↑I W z g9/\∀x∈ob z,x∈ob vb\/↑hG<=x) ol ?_ ?_
 ·refine QQ<|Qy ol ol<|Qa<|Z8 Z<|Q9 Z<|x (ZW (us:=[q.vs,q.vx,q.vk]) gl.B Z Z Z)<|Qa<|Qw<|hvo.S ?_;rintro r14 hg ⟨Y,rfl⟩;refine Qa<|QS Z Z<|QS Z Z<|QS Z Z<|QS Z Z<|x Qe<|x Qe<|x Qe<|Qb<|QQ<|Qy ol ol<|Qa<|xe ?_;have m4:=Qm kc.b Y;refine K4 Z (λke=>?_) (λke=>?_)
  ·rw[OZ ke]at hh;refine Qy ol ol<|Qa<|ZD (m3.I Y) Z Z<|Qo<|Q3 [[sS k]] λb85 y1 hn hb85 hB85=>?_;have zy1:=hn.size;have hz14:=Y.size;refine Qo<|Q0 (m:=1) (news:=[sS k]) (L:=[]) (Qm m4 hn) Z Z Z (hB85.at oe) oo oa oa λz y2 gm hL kf=>Qb<|⟨z,⟨rfl,La⟩,rfl,(Y.D hn).any.Q hL,by rw[hh];exact Qh.snoc gm,λx hx=>(kf x hx).imp id (λh=>oa)⟩
  rw[OY (by rw[ke];decide),LK]at hh;refine Yd ?_;exact⟨vb,Lb,Z,Y.any,by rw[hh];exact m4,λx hx=>.inl hx⟩
 rintro gj g h7 hg ⟨rfl,Y,hbO,hbn⟩;have hI14:=kc.addB hA Y hbO hbn;have hz14:=Y.size;have kg:∀x∈ob vb,x∈G::av:=λx hx=>Lh _ (by rw[<-g8];exact Lk.2 (.inl hx));have m5:∀x∈G::ob ve,x∈G::av:=λx hx=>by
  rcases Ll.1 hx with rfl|hx
  ·exact Lj
  exact Lh _ (by rw[<-g8];exact Lk.2 (.inr hx))
 have kh:=m0.st (Y.S kg);have hI9a:=kb.st (Y.S kg);have m6:=mz.st (Y.S kg);have hH:xd [G] I hg:=(hC.D hK.any).Z Y (λx hx=>.inr (hE x hx).1);have hs014:sW w hg:=(hz.D hP).O hH oa;have hn7b:b7∉ob vb:=λJ=>oq (hE b7 J).2
 have gb:b6∉[G]:=om
 have hw:K5 ↑I ↑h4 h7 hg:=(mf.I hK).J Y (Go.Lg.Q8 kc.b);refine QQ<|Ut (sW hg) [oB 0,oB 1,oB 2,oB 3,oB 4,oC 5,oB 6,oB 7] mixed ol ol od (xd.Y _ _) ?_;refine p Qx<|p (YT Z)<|p (QH Z)<|pq (λ_ hc=>Qj (kh.B.I hc) Z Z)<|p Qx<|pk<|xg<|(Qcn (hI9a.I (xd.Y _ _)) ((kq.I hs014).I (xd.Y _ _)) m2 oa).S ?_;rintro r15 w15 ⟨rfl,hs15⟩;have ki:=(xd.Y [] hg).D hs15;refine⟨ki,?_⟩;have m7:(match xq q.mm (Va tc) with|some u=>u|none=>sS 0)=sS (plx (q.qs.map (·.2)) tc):=by
  rw[U.m tc htcl2 (λx hx=>(m2 x hx).1)];unfold plx;by_cases J:tc∈q.qs.map (·.2)
  ·rw[OZ J,OZ J]
  rw[OY J,OY J]
 have hM:=Qdc U.ok U.p;have m8:=QjX hM.2.2.1 tc;refine Zg (plx (q.qs.map (·.2)) tc) λpi hpi=>?_;rw[hpi]at m7 hy m8;rw[<-hM.2.1]at m8;have hckp:cks q.p.a pi=0:=by
  unfold cks;rw[OY (by rw[(ZA q.p.a).2 hM.1];decide),OY oa]
 refine pq (λ_ hc=>(JA (k:=Va tc) (kh.m.I hc) Z Z).D (O0 (λv=>Result.ok (Next.value v) _) m7))<|p ZH<|pe ?_;refine QQ<|Qy ol ol<|Qa<|Qa<|Qa<|Qw<|(zf (b:=b) (st:=pi) (vr:=my) m6.cells).S ?_;rintro r16 h8 ⟨hs16,c1,c2,c3,rfl,hc1,kw,hc3,hR1,hR2,hR3⟩;refine xe ?_;have hu:=ki.D hs16;have hz1415:=ki.size;have hz16:=hu.size;have kj:=hI14.I hu;have hD16:=hw.I hu;have hB716:=(m3.J Y hn7b).I hu;have hB616:=(hR.J hH gb).I hu;have hs516:xd [G] I h8:=hH.D hu.any;refine Zg (wrf q.c.V.rq tr (enb q.p.a pi)) λfl kk=>?_;rw[kk]at hy;have kn:∀x∈G::ob ve,x<hg.heap.size:=λx hx=>by
  rcases Ll.1 hx with rfl|hx
  ·omega
  have:=(hv x hx).2;omega
 have hSt16:JT (G::ob ve) b ↑h8 q:=(kh.I hu).up (λx hx=>.inl (m5 x hx));have hIr16:Qu (G::ob ve) ↑h8 my tr:=(m6.I hu).up (λx hx=>.inl (m5 x hx));have hEv:∀p∈fl,0<=p.1/\p.1<32:=λp hp=>by
  rw[<-kk]at hp;have g1:=(zM.1 hp).1;unfold enb at g1;obtain⟨e,he,g2⟩:=Lt.1 g1;have g3:=hM.1.al _ (hM.1.ed e (Zy he).1).2.2.1;rw[g2]at g3;exact g3
 have hn7L:b7∉G::ob ve:=λJ=>by
  rcases Ll.1 J with g1|g1
  ·omega
  have:=(hv b7 g1).2;omega
 have hn6L:b6∉G::ob ve:=λJ=>by
  rcases Ll.1 J with g1|g1
  ·omega
  have:=(hv b6 g1).1;omega
 have gy:G∉ob ve:=QJ O.e hA;have hb016:I.heap.size<=h8.heap.size:=oa
 have hel2:es.length+1<=1099511627776:=oa
 have hkb2:(0:Int)<=(k:Int)/\(k:Int)<1099511627776:=oa
 refine ZL<|Qeo (α:={ x:Int×Int // x∈fl }) (G::ob ve) oa (capt:=[sP c1,sP c2,sP c3]) Z (encs:=λx=>[sS x.1.1,sS x.1.2]) oh (λ_=>Z)
  (UG hR1 hR2 hR3 (λJ=>oq (kn _ J)) (λJ=>oq (kn _ J)) (λx hx=>oq (kn _ hx)) hSt16 hIr16 (λx hx=>hok.rq x.it (LL hx)) hVr hckp Z kk)
  (λpre W=>∃hs hj,xd (G::ob ve) h8 W/\CmI G ↑I W xa (q.s.a.st+1) xm gj hs g9 hj/\(pre=[]->hs=ve/\hj=es)/\hj.length<=es.length+pre.length)
  (λpre=>Yf.ex λhs=>Yf.ex λhj=>(Yf.J (Lr _)).and (CmI.stb.and ((Yf.pure _).and (Yf.pure _))))
  (λ_ _ _=>False) (λ_ _=>Yf.pure _)
  ⟨ve,es,xd.C _ _,kj,λ_=>⟨Z,Z⟩,Lr _⟩
  (λf x f' W=>f'=upd (upd (upd f 98 (sS x.1.1)) 99 (sS x.1.2)) 16 (sS x.1.1)) (λx f'=>Yf.pure _) ?_ ?_ ?_ ?_
 ·rintro l pre ⟨⟨e,i⟩,he⟩ W hW;refine Qy ol ol<|Qb<|⟨Z,X9.refl _ _ _,Lg.JU.refl _ _,hW,Z⟩
 ·rintro l pre ⟨⟨e,i⟩,he⟩ f' W ⟨hs,hj,hf,ho,m9,hlen⟩ rfl hN;have pc:pre=[]:=Lu (Nat.lt_one_iff.1 (LX hN hy));rw[((m9 pc).1),((m9 pc).2)]at ho;have pd:=hf.size;have hee:=hEv _ he;refine ZL<|Qy ol ol<|Qs Z ho.B Z Z<|ZD (hB716.J hf hn7L) Z Z<|Qa<|ZD (hB616.J hf hn6L) Z Z<|x (QD ⟨Z,Z,Z,La⟩)<|Qo<|Q3 [Qp ((k:Int),e,q.s.a.st)] λb106 y1 hn hb106 hB106=>?_;have zy1:=hn.size;refine Qo<|Q0 (m:=1) (news:=Qp ((k:Int),e,q.s.a.st)) (L:=[]) (Qm ho.e hn) Z Z Z (hB106.at oe) (by simp[Qp,Value.oneCell']) hel2 oa λu y2 gm hL kf=>?_;refine Q9 Z<|Qo<|Qv (u:=u) ((ho.B.I hn).J hL gy) Z Z oe (QA gm) λy3 pf hB3=>xe ?_;have ko:xd (G::ob ve) W y3:=(hn.any.Q (hL.S λx hx=>Lh _ hx)).Q (pf.S oe);have hnw:∀x∈ob u,x∈ob ve\/↑W<=x:=λx hx=>(kf x hx).imp id (λh=>oa);refine⟨X9.J ko pd (λx hx=>⟨.inl hx,?_⟩),Lg.JU.J ko,u,es++[((k:Int),e,q.s.a.st)],hf.Q ko,ho.addE hA (hn.any.Q hL) gm hnw pf hB3 ⟨hkb2,og⟩,λh=>O1 h oe,by simp only[oO,oL];omega⟩;rcases Ll.1 hx with rfl|hx
  ·exact ho.B.cells
  exact Go.Lg.Q8 ho.e x hx
 ·rintro D xs W hD hxs ⟨hs,hj,hf,ho,_,hlen⟩ hdD;have hxl:xs.length=fl.length:=by have g1:=O0 oY hxs;rw[Lo]at g1;exact g1
  have pd:=hf.size;refine⟨(gj,hs,hj),oy,hs516.Z hf (λx hx=>?_),((hD16.J hf (λx hx=>?_)).up oa).cons oa (show ↑h8<=D from hD) hdD,ho,og⟩
  ·rcases Ll.1 hx with rfl|hx
   ·exact .inl Lj
   exact .inr (hv x hx).1
  rcases Ll.1 hx with rfl|hx
  ·exact kj.B.cells
  exact Go.Lg.Q8 kj.e x hx
 rintro D e pre W hD hSp hF;exact hF.elim
instance ayZi1:Ay sV 29 3 28 27:=⟨od,od⟩
theorem Qgx (p:Int×Int):∀u∈Zf p,u.oneCell'=true:=by
 intro y G;simp only[Zf,oN,oJ,or_false]at G;rcases G with rfl|rfl <;> rfl
instance ayAv1:Ay sV 23 5 5 1:=⟨underlying23,od⟩
def nm1 (c k:Nat):ByteArray:=⟨#[UInt8.ofNat (c+k)]⟩
def KX (k n:Nat):VU:=if 48<=n/\n<52 then⟨nm1 97 k,false,false,false,(n:Int) - 47⟩else
 ⟨nm1 97 k,decide (((n &&& 1:Nat):Int)=1),decide (((n &&& 2:Nat):Int)=2),decide (((n &&& 4:Nat):Int)=4),0⟩
def JM (ns:LN)(i:Nat):List VU:=(oM i).map λk=>KX k (ns.getD k 0)
theorem Qfp (ns:LN)(i:Nat):JM ns (i+1)=JM ns i++[KX i (ns.getD i 0)]:=by
 unfold JM;rw[Nn,Lv];rfl
theorem VQ (ns:LN)(i:Nat):(JM ns i).length=i:=by unfold JM;simp
theorem Qep (hn:ns.length=5)(hb:∀n∈ns,n<256):
  QT sV 82 [sT (bys ns)] w λr w'=>sW w w'/\w'.ownsRow ↑w 94 5 r (JM ns 5).length ((JM ns 5).flatMap Zz):=by
 refine Zn func82 ?_;refine Qc<|Zd (bys ns) λb1 w1 hp hO hq=>Qb<|Qc<|Qb<|Qd<|Qc<|Qb<|QY (α:=Nat×O7) [(3,53)] (λz=>[(3,z.2),(4,sS z.1)]) (λz w'=>z.1<=5/\sW w1 w'/\w'.ownsRow ↑w1 94 5 z.2 (JM ns z.1).length ((JM ns z.1).flatMap Zz)) (λz=>5 - z.1) (0,Zq) oy
  ⟨Lp _,xd.C _ _,QM _ _ _ _⟩ ?_
 rintro⟨k,v⟩ g w2 ⟨hk,Y,O⟩;simp only[]at hk O;refine Qd<|Ql<|ZT Z Z<|xe<|Zp rfl (λh7=>?_) (λh7=>?_)
 ·refine Qt ?_;have hw:k=5:=by have h8:¬(k:Int)<5:=h7;omega
  rw[hw]at O;refine Ql<|Qb<|Qk ⟨[v],Lb,hp.D Y,Za O hp.size⟩
 have G:k<5:=by have h8:(k:Int)<5:=h7;omega
 have q:=qZ (ns:=ns) (j:=0+k*1) oa;have ql:=Ju hb (0+k*1);have hy:ns.getD (0+k*1) 0=ns.getD k 0:=by rw[show 0+k*1=k by omega]
 rw[hy]at q ql;have hr:=Qfp ns k;have hP:=VQ ns k;refine Zg (ns.getD k 0) λn h0=>?_;rw[h0]at q ql hr;have h3:=hq.I Y;refine Qf<|Qd<|Qn<|Ql<|x (Yi (k':=.u8) Z ⟨oa,oa⟩)<|QC Z Z<|Qo<|Q3 [[.int .u8 ((97:Int)+(k:Int))]] λh4 w3 hf hQ h5=>?_;have h6:((97:Int)+(k:Int))=((97+k:Nat):Int):=oa
 have h9:QN ↑w3 h4 5 [.int .u8 ((97+k:Nat):Int)]:=by rw[<-h6];exact h5
 refine x (Qp7 (n:=97+k) h9 oa Z)<|x (QD ⟨Z,La⟩)<|Qo<|Y0 (us:=[.string ⟨#[]⟩,.bool false,.bool false,.bool false,sS 0]) Z λI w4 hA hR hB=>Q6 (Zz ⟨nm1 97 k,false,false,false,0⟩) hB ⟨Z,Z,Z,Z,Z,La⟩ λw5 hC hs =>
  xe ?_
 have hg:sW w2 w5:=(hf.D hA).O hC (oq hf.size);have J:=h3.I hg;have hS:=hg.size;have hT:=hf.size;have hU:=hq.lt;have hV:=Y.size;have hh:b1∉[I]:=om
 refine QX (α:=Unit) [(16,49)] (λ_=>[]) (λ_ w'=>xd [I] w5 w'/\QN ↑w' I 94 (Zz (KX k n))) ol ?_ ?_
 ·refine QX (α:=Bool) [(16,25)] (λz=>[(25,.bool z)]) (λz w'=>w'=w5/\(z=true↔48<=n/\n<52)) ol ?_ ?_
  ·refine Qr<|Qa<|x (ZX (i:=k) Z Z G)<|ZD J Z q<|xb (Yn Z Z) (λhj=>?_) (λhj=>?_)
   ·have hu:(48:Int)<=(n:Int):=hj;refine Qa<|Qa<|x (ZX (i:=k) Z Z G)<|ZD J Z q<|ZT Z Z<|QB Z<|xe<|⟨decide ((n:Int)<52),Lb,Z,?_⟩;rw[decide_eq_true_eq];omega
   have hu:¬(48:Int)<=(n:Int):=hj;refine Qa<|Zs<|Kd<|QB Z<|xe ?_;exact⟨false,Lb,Z,⟨λh=>(by cases h),λh=>O1 oa hu⟩⟩
  rintro z g6 U ⟨rfl,hz⟩;refine Q5 Z (λha=>?_) (λha=>?_)
  ·have hc:=hz.1 ha;refine Qr<|Qa<|x (ZX (i:=k) Z Z G)<|ZD J Z q<|x (Yi (k':=.i64) Z ⟨oa,oa⟩)<|x (JH Z Z ⟨oa,oa⟩)<|Q9 Z<|Qo<|Qv hs Z Z oe rfl λw7 V hm =>
    xe ?_
   refine⟨(),La,V,?_⟩;unfold KX;rw[OZ hc];exact hm
  have hc:¬(48<=n/\n<52):=λh=>by have:=hz.2 h;rw[this]at ha;cases ha
  have he:sW U { U with drawn:=U.drawn+1 }:=xd.Y _ _
  refine ZK [I] (Xj 0 21 [16,18,20])<|p Qx<|p (λ_=>ZX (i:=k) Z Z G)<|pq (λ_ hc=>Qj (J.J hc hh) Z q)<|p (λ_=>Uh (a:=n) (b:=1) Z Z ql oh)<|p (λ_=>Zc Z Z) <|
   p Qx<|p (λ_=>ZX (i:=k) Z Z G)<|pq (λ_ hc=>Qj (J.J hc hh) Z q)<|p (λ_=>Uh (a:=n) (b:=2) Z Z ql oh)<|p (λ_=>Zc Z Z) <|
   p Qx<|p (λ_=>ZX (i:=k) Z Z G)<|pq (λ_ hc=>Qj (J.J hc hh) Z q)<|p (λ_=>Uh (a:=n) (b:=4) Z Z ql oh)<|p (λ_=>Zc Z Z)<|?_
  refine p (QH Z)<|pk<|Qv (hs.I he) Z Z oe rfl λw7 V hm=>⟨(he.any (L:=[I])).Q V,?_⟩;refine p (QH Z)<|pk<|Qv hm Z Z oe rfl λw8 hv hD=>⟨((he.any (L:=[I])).Q V).Q hv,?_⟩;refine p (QH Z)<|pkk<|Qv hD Z Z oe rfl λw9 hE hF=>pe ?_;refine⟨(),La,(((he.any (L:=[I])).Q V).Q hv).Q hE,?_⟩;unfold KX;rw[OY hc];exact hF
 rintro _ g6 U ⟨hG,hH⟩;have hI:sW w2 U:=hg.O hG oa;refine Qr<|Qa<|Q7 hH Z Z<|Qo<|Q3 [Zz (KX k n)] λhW hX hJ hY hK=>?_;have ho:=hI.D hJ;have hZ:=ho.size;refine Qo<|Q0 (news:=Zz (KX k n)) (L:=[]) (Qm O ho) Z Z Z (hK.at oe) (QdF _) oa oa λhL ga hM hN gb =>
  Qb<|Qr<|Qa<|QC Z Z<|Qb<|⟨(k+1,hL),og,oy,G,(Y.D ho).Z hN (λc hc=>.inr (Qi O c hc).1),?_⟩
 simp only[];rw[hr,Le,LJ];simpa using hM
def Jb (n m:Nat):LI:=(oM n).map λk:Nat=>if k<m then(k:Int) else -1
theorem QaT {k:Nat}(h:k<m):ZZ (Yw m) (k:Int)=k:=by
 unfold ZZ Yw;simp[oQ,h]
theorem Qsv {fd R:LI}{t:Int}(I:fd=out++R)(G:t∈out):zC fd t=(out.idxOf t:Nat):=by
 subst I;unfold zC;rw[OZ (LG _ G),Mf,OZ G]
theorem QqK {fd R:LI}{t:Int}(G:fd=out++[t]++R)(I:t∉out):zC fd t=(out.length:Nat):=by
 subst G;unfold zC;rw[OZ oe,LC,Mf,OY I];simp
theorem QaS {k:Nat}(h:k<n):ZZ (Jb n m) (k:Int)=if k<m then(k:Int) else -1:=by
 unfold ZZ Jb;simp[oQ,h]
theorem Qkr :(Jb n m).set m (m:Int)=Jb n (m+1):=by
 apply L5
 ·simp[Jb]
 intro k h1 h2;have I:k<n:=by simpa[Jb]using h2
 rw[Nc];by_cases e:m=k
 ·subst e;simp[Jb]
 rw[OY e];simp only[Jb,List.getElem_map,List.getElem_range];by_cases G:k<m
 ·rw[OZ G,OZ oa]
 rw[OY G,OY oa]
theorem QaB {R:Nat->List Ed}(hR:∀i,∀e∈R i,e.1=(i:Int))(j:Nat):∀n,QK ((oP 0 n).flatMap R) j=if j<n then R j else[]
 | 0=>by simp[QK]
 | n+1=>by
  have G:QK (R n) j=if n=j then R n else[]:=by
   unfold QK;by_cases e:n=j
   ·rw[OZ e];exact NK.2 λx hx=>O2 (by rw[hR n x hx,e])
   rw[OY e];exact MU.2 λx hx=>by rw[decide_eq_true_eq,hR n x hx];omega
  rw[Mt,LJ,LY];unfold QK at G ⊢;rw[LW];have ih:=QaB hR j n;unfold QK at ih;rw[ih];simp only[oV,OO,Oq];rw[G];by_cases h1:j<n
  ·rw[OZ h1,OY oa,OZ oa,LK]
  rw[OY h1];by_cases h2:n=j
  ·subst h2;rw[OZ rfl,OZ oa,MC]
  rw[OY h2,OY oa];rfl
theorem z9 {s:Int}:∀(vs:LI) (out:LI),∃r,vs.foldl (VX a s) out=out++r
 | [],out=>⟨[],oe⟩
 | v::vs,out=>by
  rw[LP];obtain⟨r,G⟩:=z9 vs (VX a s out v);rw[G];unfold VX;split
  ·exact⟨[nxt a.ed s v]++r,by rw[LC]⟩
  exact⟨r,Z⟩
theorem z7:∀(f i:Nat) (out:LI),∃r,z8 a f i out=out++r
 | 0,i,out=>⟨[],by simp[z8]⟩
 | f+1,i,out=>by
  rw[z8];split
  ·obtain⟨r,G⟩:=z7 f (i+1) (fdR a out (xh out i));obtain⟨r',I⟩:=z9 (a:=a) (s:=xh out i) a.al out;refine⟨r'++r,?_⟩;rw[G];unfold fdR;rw[I,LC]
  exact⟨[],oe⟩
theorem zQ {fd:LI}{i:Nat}:∀(vs out:LI) (c:Cs),(∃r,fd=vs.foldl (VX a (xh fd i)) out++r)->c.ord=Yw out.length->c.num=Jb fd.length out.length ->
  (vs.filterMap (KH a fd i)).foldl (Zu i) c=⟨Yw (vs.foldl (VX a (xh fd i)) out).length,Jb fd.length (vs.foldl (VX a (xh fd i)) out).length,c.mk',c.ed++vs.filterMap (KH a fd i)⟩
 | [],out,c,_,h1,h2=>by
  obtain⟨o,n,m,e⟩:=c;subst h1 h2;simp
 | v::vs,out,c,G,h1,h2=>by
  rw[LP]at G ⊢;obtain⟨r,G⟩:=G;obtain⟨r2,he⟩:=z9 (a:=a) (s:=xh fd i) vs (VX a (xh fd i) out v);have I:fd=VX a (xh fd i) out v++(r2++r):=by rw[<-LC,<-he];exact G
  by_cases U:0<=nxt a.ed (xh fd i) v
  ·have V:KH a fd i v=some ((i:Int),v,zC fd (nxt a.ed (xh fd i) v)):=by unfold KH;rw[OZ U]
   rw[Mz,V];simp only[];rw[LP];by_cases J:nxt a.ed (xh fd i) v∈out
   ·have O:VX a (xh fd i) out v=out:=by unfold VX;rw[OY (λh=>h.2 J)]
    rw[O]at G I ⊢;have hix:zC fd (nxt a.ed (xh fd i) v)=(out.idxOf (nxt a.ed (xh fd i) v):Nat):=Qsv I J;have hf:=Md J;have ha:out.length<=fd.length:=by rw[I];simp
    have Y:Zu i c ((i:Int),v,zC fd (nxt a.ed (xh fd i) v))=⟨c.ord,c.num,c.mk',c.ed++[((i:Int),v,zC fd (nxt a.ed (xh fd i) v))]⟩:=by
     unfold Zu;simp only[];rw[h2,hix,QaS oa,OZ hf,OY oa]
    rw[Y,zQ vs out ⟨c.ord,c.num,c.mk',c.ed++[((i:Int),v,zC fd (nxt a.ed (xh fd i) v))]⟩ ⟨r,G⟩ h1 h2];simp only[Om,OA]
   have O:VX a (xh fd i) out v=out++[nxt a.ed (xh fd i) v]:=by unfold VX;rw[OZ ⟨U,J⟩]
   rw[O]at G I ⊢;have hix:zC fd (nxt a.ed (xh fd i) v)=(out.length:Nat):=QqK I J;have ha:out.length<fd.length:=by rw[I];simp
   have Y:Zu i c ((i:Int),v,zC fd (nxt a.ed (xh fd i) v))=⟨Yw (out.length+1),Jb fd.length (out.length+1),c.mk',c.ed++[((i:Int),v,zC fd (nxt a.ed (xh fd i) v))]⟩:=by
    unfold Zu;simp only[];rw[h1,h2,hix,QaS ha,OY (Nat.lt_irrefl _),OZ oa,JL,qM];simp only[OD];rw[Qkr]
   rw[Y,zQ vs (out++[nxt a.ed (xh fd i) v]) _ ⟨r,G⟩ oe oe];simp only[Om,OA]
  have V:KH a fd i v=none:=by unfold KH;rw[OY U]
  have O:VX a (xh fd i) out v=out:=by unfold VX;rw[OY (λh=>U h.1)]
  rw[O]at G ⊢;rw[Mz,V];exact zQ vs out c ⟨r,G⟩ h1 h2
theorem Qmb (fd:LI)(i:Nat):Y2 a fd (i+1)=Y2 a fd i++(if xh fd i∈a.mr then[(i:Int)]else[]):=by
 unfold Y2;rw[Mt,LW,Lv,LY];by_cases h:xh fd i∈a.mr <;> simp[h]
theorem Qmd (fd:LI)(i:Nat):Xh a fd (i+1)=Xh a fd i++a.al.filterMap (KH a fd i):=by
 unfold Xh;rw[Mt,LJ,LY];simp
theorem Qd7 {fd:LI}(h:i<n):(i:Int)∈Y2 a fd n↔xh fd i∈a.mr:=by
 unfold Y2;simp only[Oj,Of,Od,decide_eq_true_eq];constructor
 ·rintro⟨k,⟨_,h2⟩,G⟩;have:k=i:=oa
  subst this;exact h2
 intro h2;exact⟨i,⟨oa,h2⟩,Z⟩
theorem Qmc {fd:LI}(U:fd=xx a)(ho:fd.length<=a.st.toNat):∀(f g i:Nat) (out:LI),i<=out.length->z8 a g i out=fd->i+g=a.st.toNat->fd.length<=i+f ->
  Xg (Xc a) f i ⟨Yw out.length,Jb fd.length out.length,Y2 a fd i,Xh a fd i⟩=⟨Yw fd.length,Jb fd.length fd.length,Y2 a fd fd.length,Xh a fd fd.length⟩:=by
 have ha:(Xc a).ed=Xh a fd fd.length:=by rw[U];rfl
 have hf:(Xc a).mr=Y2 a fd fd.length:=by rw[U];rfl
 have done:∀(i:Nat) (out:LI),i<=out.length->out=fd->¬i<out.length->(⟨Yw out.length,Jb fd.length out.length,Y2 a fd i,Xh a fd i⟩:Cs)=⟨Yw fd.length,Jb fd.length fd.length,Y2 a fd fd.length,Xh a fd fd.length⟩:=by
  intro i out h1 h2 V;have:i=fd.length:=by rw[<-h2];omega
  rw[this,h2]
 intro f;induction f with
 | zero =>
  intro g i out h1 h2 V h4;obtain⟨r,G⟩:=z7 (a:=a) g i out;rw[h2]at G;have hl:fd.length=out.length+r.length:=by rw[G,Le]
  have hg:r=[]:=Lu oa;rw[Xg];exact done i out h1 (by rw[G,hg,LK]) oa
 | succ f ih =>
  intro g i out h1 h2 V h4;obtain⟨r,G⟩:=z7 (a:=a) g i out;rw[h2]at G;have hl:fd.length=out.length+r.length:=by rw[G,Le]
  rw[Xg];simp only[JL];by_cases hi:i<out.length
  ·rw[OZ hi];obtain⟨I,rfl⟩:∃I,g=I+1:=⟨g - 1,oa⟩;rw[z8,OZ hi]at h2;have hh:xh out i=xh fd i:=by
    rw[G];unfold xh;simp[oQ,Oa hi]
   rw[hh]at h2;have O:i<fd.length:=oa
   have hj:QK (Xc a).ed (i:Int)=a.al.filterMap (KH a fd i):=by
    rw[ha];unfold Xh;rw[QaB (λj e he=>by
     obtain⟨v,_,J⟩:=MJ.1 he;unfold KH at J;split at J
     ·cases J;rfl
     cases J),OZ O]
   have hk:Yo (Xc a) i ⟨Yw out.length,Jb fd.length out.length,Y2 a fd i,Xh a fd i⟩=⟨Yw out.length,Jb fd.length out.length,Y2 a fd (i+1),Xh a fd i⟩:=by
    unfold Yo;simp only[];rw[QaT hi,hf,Qmb];by_cases hc:xh fd i∈a.mr
    ·rw[OZ ((Qd7 O).2 hc),OZ hc]
    rw[OY (λh=>hc ((Qd7 O).1 h)),OY hc];simp
   have hm:zy (Xc a) i ⟨Yw out.length,Jb fd.length out.length,Y2 a fd i,Xh a fd i⟩=⟨Yw (fdR a out (xh fd i)).length,Jb fd.length (fdR a out (xh fd i)).length,Y2 a fd (i+1),Xh a fd (i+1)⟩:=by
    unfold zy;rw[hk];simp only[];rw[QaT hi,hj];obtain⟨r3,Y⟩:=z7 (a:=a) I (i+1) (fdR a out (xh fd i));rw[h2]at Y;rw[zQ a.al out ⟨Yw out.length,Jb fd.length out.length,Y2 a fd (i+1),Xh a fd i⟩ ⟨r3,Y⟩ rfl rfl,Qmd];rfl
   rw[hm];obtain⟨r4,hn⟩:=z9 (a:=a) (s:=xh fd i) a.al out;exact ih I (i+1) _ (by unfold fdR;rw[hn,Le];omega) h2 oa oa
  rw[OY hi];have h5:z8 a g i out=out:=by
   cases g with
   | zero=>rfl
   | succ g=>rw[z8,OY hi]
  exact done i out h1 (h5.symm.D h2) hi
theorem Qma (G:QL a)(I:0<a.st):YB (Xc a)=Xc a:=by
 have Y:=Qd6 G I;have ha:(Xc a).st=((xx a).length:Int):=rfl;have J:(Xc a).st.toNat=(xx a).length:=oa
 have h:=Qmc (a:=a) Z ((jd G).1.len G.st0) (xx a).length a.st.toNat 0 (fd0 a) (Lp _) Z oa oa;have O:fd0 a=[0]:=by unfold fd0;rw[OZ I]
 rw[O]at h;have U:Z3 (Xc a)=⟨Yw 1,Jb (xx a).length 1,Y2 a (xx a) 0,Xh a (xx a) 0⟩:=by
  unfold Z3;rw[J];have e:(oI (xx a).length (-1:Int)).set 0 0=Jb (xx a).length 1:=by
   apply L5
   ·simp[Jb]
   intro k h1 h2;rw[Nc];simp only[Jb,List.getElem_map,List.getElem_range,Oy];by_cases e:k=0
   ·subst e;simp
   rw[OY oa,OY oa]
  rw[e];simp[Yw,Y2,Xh]
 unfold YB;rw[OY oa];simp only[];rw[U,J];have V:Xg (Xc a) (xx a).length 0 ⟨Yw 1,Jb (xx a).length 1,Y2 a (xx a) 0,Xh a (xx a) 0⟩=⟨Yw (xx a).length,Jb (xx a).length (xx a).length,Y2 a (xx a) (xx a).length,Xh a (xx a) (xx a).length⟩:=h;rw[V];simp only[JL];rfl
theorem yX (G:QL a)(I:0<a.st):KA (Xc a)=true:=by
 unfold KA;rw[Qma G I];simp[(ZA _).2 (Qcm G).1]
theorem GdA.can (h:GdA a):KA a=true:=by
 obtain⟨G,h1,h2,rfl⟩:=h.c;exact yX h1 h2
end Go.Lg
