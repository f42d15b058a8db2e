/- Merged out of 59 texts. -/
import Derived.Test.YtpfnhheoeaiomaaGreatDoorPec
import Derived.Laws.IdiomStrings
import Derived.Shelf.SlSortCmp.NoneTotal
import Derived.Ground.SlsfProg
import Derived.Tactics
import Derived.ArgAppend
import Derived.Sort.Grow
import Derived.Deep.Draws
import Derived.Sort.Statements
import Derived.Shelf.Lay
import Derived.Tactics2
set_option maxHeartbeats 40000000
set_option maxRecDepth 100000
set_option linter.all false
open Go Go.Lg
open Go.Value renaming int->oD
open Go.IntKind renaming i64->oE
open _root_.List renaming mem_singleton->oH,replicate->oI,not_mem_nil->oJ,length_singleton->oL,range->oM,mem_cons->oN,length_append->oO,range'->oP,getD->oQ,length_cons->oS,map_cons->oU,flatMap_cons->oV,length->oY,getElem?_append_left->Oa,mem_range'_1->Od,mem_filter->Of,cons_append->Og,mem_map->Oj,append_assoc->Om,append_nil->Oq,getElem_replicate->Oy,singleton_append->OA,filter_cons->OG,map_nil->OJ,flatMap_nil->OP,map->OY
open _root_.Bool renaming and_eq_true->oK,false_eq_true->Ov,true_and->OQ
open _root_.Array renaming replicate->oR
open _root_.Decidable renaming byContradiction->oW
open _root_.Nat renaming zero_add->Ob,add_zero->OD,le_refl->OH,pow_succ->ON,lt_or_ge->OS,sub_zero->OT,mul_one->OW
open _root_.Int renaming toNat_natCast->OE
open _root_.Option renaming map_some->OK
open Go renaming World->O7,Value->O8,Operand->O9,Program->xd
open Go.Proofs Go.Proofs.Tryz
open Go.Proofs.Tryz renaming prog->sV
variable {w w' W':O7}{L L' X ds ns av:LN}{n i t sz base j T N G m g id B kt ty et gp bp off U:Nat}{a A:Qz}{cs us cap capt:LV}{α:Type}{y:O9}{ve va vm z vt vs vk vx v' vb vr vo vu:O8}{aa:List Qz}{f:Fr}{P:xd}{lf:Lf}{o ul un u r hi est q rs out:LI}{s kd:Int}{fn:Func}{c:CL}{es ed:List Ed}{K:xF}{d:xK}{pS:String}{af:xI}{gd:xA}{k':IntKind}{ks:List KV}
namespace Go.Lg
theorem Uv (m:Nat)(Y:m<256)(w:O7):QT sV 83 [.int .u8 m] w λr w'=>sW w w'/\Qh 3 ↑w w' r (setK m 5):=by
 refine Zo func83 ?_;refine Qc<|Qb<|Qc<|Qb<|Qe<|Qc<|Qb<|QZ (α:=Nat×O8) [(3,17)] (λz=>[(3,z.2),(4,sS z.1)]) (λz w'=>z.1<=5/\sW w w'/\Qh 3 ↑w w' z.2 (setK m z.1)) (λz=>5 - z.1) (0,nS) oy
  ⟨Lp _,xh.C _ _,QM _ _ _ _⟩ ?_
 rintro⟨k,v⟩ g w1 ⟨hk,I,G⟩;simp only[]at hk G;have hn:=Uu m k;have ho:=I.size;refine Qe<|Ql<|ZY Z Z<|xe<|Zp rfl (λh6=>?_) (λh6=>?_)
 ·refine Qt<|Ql<|Qb ?_;have ha:k=5:=oa
  rw[ha]at G;exact Qk ⟨[v],Lb,I,G⟩
 have U:k<5:=oa
 have he:m / 2 ^ k<256:=Nat.lt_of_le_of_lt (Nat.div_le_self _ _) Y;have J:=Qaf m k;refine Qf<|Qe<|Qn<|Ql<|Qa<|x (QcU (n:=k) Z Z (by show k<=8;omega))<|x (qy (a:=m / 2 ^ k) (b:=1) (O1 (Value.int .u8) (Qbb m k)) Z he oh)<|x (Zc Z Z)<|xe<|Zp rfl (λV=>?_) (λV=>?_)
 ·rw[OZ (λe=>V (by rw[e];rfl))]at J;refine Qf<|Qr<|Qa<|QB Z Z<|Qb<|⟨(k+1,v),og,oy,U,I,by simp only[];rw[J];exact G⟩
 rw[O0 oa]at J;refine Qr<|Qa<|Qa<|Qo<|Q5 [[sS k]] λb15 w2 O hp hf=>?_;have hg:=Qm G O;have hq:=O.size;refine Qo<|Q2 (news:=[sS k]) (L:=[]) hg Z Z Z (hf.at oe) oo oa oa λv3 w3 hh hj hr =>
  Qb<|Qr<|Qa<|QB Z Z<|Qb<|⟨(k+1,v3),og,oy,U,(I.D O).Z hj (λb hb=>.inr ((Qi G) b hb).1),?_⟩
 simp only[];rw[J];exact Qh.snoc hh
theorem At.from {H:xH}{a:Addr}(h:At L H a us)(j:Nat):At L H (a.add j) (us.drop j):=
 ⟨λu G=>by rw[YJ];exact h.out u (MX G),λu G=>by rw[YJ];exact h.lt u (MX G),λi v I=>by
  rw[Addr.add_add];exact h.cell (j+i) v (by rw[<-MR];exact I)⟩
theorem jh {v:O8}{l:List Ed}(h:Zu L ↑w v l.length 3 (l.flatMap Qp)):
  QT sV 238 [v] w λr w'=>sW w w'/\w'.ownsRow ↑w 179 3 r l.length (l.flatMap Qp):=
 jg ⟨_,Z,func238⟩ h (Qgn (c:=Qp) (λ_=>oz) l)
theorem Qfj {v:O8}{l:List VP}(h:Zu L ↑w v l.length 5 (l.flatMap Zy)):
  QT sV 165 [v] w λr w'=>sW w w'/\w'.ownsRow ↑w 94 5 r l.length (l.flatMap Zy):=
 jg ⟨_,Z,func165⟩ h (Qgn (c:=Zy) (λ_=>⟨Z,Z,Z,Z,Z,La⟩) l)
structure Vy {α:Type}(g:α->LV)(sz T:Nat)(ps:α->List (O8×Nat×Nat×LV))(base:Nat)(w:O7)(v:O8)(l:List α):Prop where
 own:w.ownsRow base T sz v l.length (l.flatMap g)
 each:∀q∈l,∀t∈ps q,YL base (ob v) ↑w t.1 t.2.1 t.2.2.1 t.2.2.2
section
variable {g:α->LV}{ps:α->List (O8×Nat×Nat×LV)}{v:O8}{l:List α}
theorem Vy.nil:Vy g sz T ps base w (nS) []:=⟨QM _ _ _ _,λq G=>by cases G⟩
theorem Vy.I (h:Vy g sz T ps base w v l)(G:sW w w'):Vy g sz T ps base w' v l:=⟨Qm h.own G,λq I t ht=>(h.each q I t ht).I G⟩
theorem Vy.low {X:LN}(h:Vy g sz T ps base w v l)(G:xh X w w')(hX:∀b∈X,b<base):Vy g sz T ps base w' v l :=
 ⟨Qg h.own G (λb hb I=>ou (Qi h.own b hb).1 (hX b I)),λq J t ht=>(h.each q J t ht).low G hX⟩
theorem Vy.app {G I:O7}{J:O8}{q:α}(h:Vy g sz T ps base w v l)(V:sW w G)
  (Y:∀t∈ps q,∃N e,G.ownsRow N e t.2.2.1 t.1 t.2.1 t.2.2.2/\t.2.1<=1099511627776/\↑w<=N) (hb:base<=↑w)
  (ho:I.ownsRow base T sz J (l.length+1) (l.flatMap g++g q)) (O:xh (ob v) G I) (U:∀b∈ob J,b∈ob v\/↑G<=b):Vy g sz T ps base I J (l++[q]):=by
 refine⟨?_,λd hd t ht=>?_⟩
 ·rw[Le,LJ];simpa using ho
 rcases Lk.1 hd with hd|hd
 ·exact((h.each d hd t ht).I V).app O U
 simp only[oH]at hd;subst hd;obtain⟨N,e,h1,h2,h3⟩:=Y t ht;exact(YL.of_own h1 h2 oa (λb hb=>oq ((QW h.own) b hb))).app O U
end
abbrev Qh0 (q:IV):List (O8×Nat×Nat×LV):=[(q.p.va,q.p.a.al.length,1,q.p.a.al.map (.int .i64)),(q.p.vm,q.p.a.mr.length,1,q.p.a.mr.map (.int .i64)),(q.p.ve,q.p.a.ed.length,3,q.p.a.ed.flatMap Qp)]
abbrev IvP (base:Nat)(w:O7)(v:O8)(l:List IV):Prop:=Vy Zm 5 81 Qh0 base w v l
theorem IvP.itms {v:O8}{l:List IV}(h:IvP base w v l)(J:l.length<=1099511627776)(O:∀q∈l,jH q.nm)(G:∀b∈L,b<base):VA L ↑w v l :=
 ⟨QN h.own J (λb hb U=>ou (Qi h.own b hb).1 (G b U)),λq I=>⟨h.each q I (q.p.va,q.p.a.al.length,1,q.p.a.al.map (.int .i64)) oe L (λb hb=>.inl (G b hb)),h.each q I (q.p.vm,q.p.a.mr.length,1,q.p.a.mr.map (.int .i64)) oe L (λb hb=>.inl (G b hb)),h.each q I (q.p.ve,q.p.a.ed.length,3,q.p.a.ed.flatMap Qp) oe L (λb hb=>.inl (G b hb))⟩,O⟩
instance:Bw sV 81 [.string .empty,nS,sS 0,nS,nS] [(0,1),(1,4)]:={}
theorem YL.of_lt {H:xH}{v:O8}(h:∀L:LN,(∀b∈L,b<N)->Zu L H v n sz cs)(hb:base<=N)(G:∀b∈av,b<N):YL base av H v n sz cs:=λL I =>
 h L (λb J=>(I b J).elim (λh=>oa) (G b))
theorem Qbx (L:LN)(H:xH):Qu L H (nS) []:=Zu.nil L H 1
theorem QpS {e bys:Nat}[h:Sl P t e 1 bys z][he:Ik P e .u8][hd:St P G]{x:O9}{b cap:Nat}(I:QL ↑w b T [.int .u8 (n:Int)])(U:n<256)(hx:ev f x=sL b 1 cap):
  (execOp (ev f) ⟨d,.convert t G x,ty,pS,af,gd⟩).run P w=.ok (.value (.string ⟨#[UInt8.ofNat n]⟩)) w:=by
 refine zK hx ?_;refine run_convert_bytes_back (P:=P) w t G e ⟨b,0,none⟩ cap [UInt8.ofNat n] h.u he.u hd.u (λj J=>?_);have O:j=0:=by simp at J;omega
 subst O;rw[KB];have h1:(⟨b,0,none⟩:Addr).add 0=⟨b,0,none⟩:=rfl;rw[h1,I.cell];have h2:(UInt8.ofNat n).toNat=n:=by simp[UInt8.toNat_ofNat'];omega
 simp[h2]
theorem Qdv (e:VP):∀u∈Zy e,u.oneCell'=true:=by
 intro y G;simp only[Zy,oN,oJ,or_false]at G;rcases G with rfl|rfl|rfl|rfl|rfl <;> rfl
theorem QbH {q:IV}(h1:q.p.va.oneCell'=true)(h2:q.p.vm.oneCell'=true)(I:q.p.ve.oneCell'=true):∀u∈Zm q,u.oneCell'=true:=by
 intro y G;simp only[Zm,oN,oJ,or_false]at G;rcases G with rfl|rfl|rfl|rfl|rfl
 ·rfl
 ·exact h1
 ·rfl
 ·exact h2
 exact I
theorem yM {H:xH}{q:IV}(h:∀L:LN,(∀b∈L,b<N)->Zt L H q.p.va q.p.vm q.p.ve q.p.a)(hb:base<=N)(I:∀b∈av,b<N):∀t∈Qh0 q,YL base av H t.1 t.2.1 t.2.2.1 t.2.2.2:=by
 intro t ht;simp only[oN,oJ,or_false]at ht;rcases ht with rfl|rfl|rfl
 ·exact YL.of_lt (λL G=>(h L G).al) hb I
 ·exact YL.of_lt (λL G=>(h L G).mr) hb I
 exact YL.of_lt (λL G=>(h L G).ed) hb I
structure zz (base:Nat)(w:O7)(vc va:O8)(co:List IV)(al:LI):Prop where
 c:w.ownsRow base 81 5 vc co.length (co.flatMap Zm)
 a:Qh 3 base w va al
 dj:Dj vc va
 each:∀q∈co,∀t∈Qh0 q,YL base (ob vc++ob va) ↑w t.1 t.2.1 t.2.2.1 t.2.2.2
section
variable {vc vc' va':O8}{co:List IV}{al:LI}
theorem zz.nil:zz base w (nS) (nS) [] []:=⟨QM _ _ _ _,QM _ _ _ _,Dj.nil _,λq G=>by cases G⟩
theorem zz.I (h:zz base w vc va co al)(G:sW w w'):zz base w' vc va co al:=⟨Qm h.c G,Qm h.a G,h.dj,λq I t ht=>(h.each q I t ht).I G⟩
theorem zz.low {X:LN}(h:zz base w vc va co al)(G:xh X w w')(hX:∀b∈X,b<base):zz base w' vc va co al :=
 ⟨Qg h.c G (λb hb I=>ou (Qi h.c b hb).1 (hX b I)),Qg h.a G (λb hb I=>ou (Qi h.a b hb).1 (hX b I)),h.dj,λq J t ht=>(h.each q J t ht).low G hX⟩
theorem zz.avlt (h:zz base w vc va co al):∀b∈ob vc++ob va,b<w.heap.size:=λb hb=>(Lk.1 hb).elim (QW h.c b) (QW h.a b)
theorem zz.setC {q:IV}(h:zz base w vc va co al)(V:∀t∈Qh0 q,YL base (ob vc++ob va) ↑w t.1 t.2.1 t.2.2.1 t.2.2.2)(Y:w'.ownsRow base 81 5 vc' (co.length+1) (co.flatMap Zm++Zm q))
  (G:xh (ob vc) w w') (I:∀b∈ob vc',b∈ob vc\/↑w<=b):zz base w' vc' va (co++[q]) al:=by
 have J:xh (ob vc++ob va) w w':=G.S (λb hb=>Lk.2 (.inl hb));have O:∀b∈ob vc'++ob va,b∈ob vc++ob va\/↑w<=b:=λb hb=>by
  rcases Lk.1 hb with hb|hb
  ·exact(I b hb).imp (λh=>Lk.2 (.inl h)) id
  exact .inl (Lk.2 (.inr hb))
 refine⟨?_,Qg h.a G (λb hb ha=>h.dj b ha hb),λb hb U=>?_,λd hd t ht=>?_⟩
 ·rw[Le,LJ];simpa using Y
 ·rcases I b hb with h1|h1
  ·exact h.dj b h1 U
  have:=QW h.a b U;omega
 rcases Lk.1 hd with hd|hd
 ·exact(h.each d hd t ht).app J O
 simp only[oH]at hd;subst hd;exact(V t ht).app J O
theorem zz.setA {I:LI}(h:zz base w vc va co al)(U:Qh 3 base w' va' I)(J:xh (ob va) w w')(O:∀b∈ob va',b∈ob va\/↑w<=b):zz base w' vc va' co I:=by
 have V:xh (ob vc++ob va) w w':=J.S (λb hb=>Lk.2 (.inr hb));have Y:∀b∈ob vc++ob va',b∈ob vc++ob va\/↑w<=b:=λb hb=>by
  rcases Lk.1 hb with hb|hb
  ·exact .inl (Lk.2 (.inl hb))
  exact(O b hb).imp (λh=>Lk.2 (.inr h)) id
 refine⟨Qg h.c J (λb hb G=>h.dj b hb G),U,λb hb G=>?_,λd hd t ht=>(h.each d hd t ht).app V Y⟩;rcases O b G with h1|h1
 ·exact h.dj b hb h1
 have:=QW h.c b hb;omega
theorem zz.itms (h:zz base w vc va co al)(J:co.length<=1099511627776)(O:∀q∈co,jH q.nm)(G:∀b∈L,b<base):VA L ↑w vc co :=
 ⟨QN h.c J (λb hb U=>ou (Qi h.c b hb).1 (G b U)),λq I=>⟨h.each q I (q.p.va,q.p.a.al.length,1,q.p.a.al.map (.int .i64)) oe L (λb hb=>.inl (G b hb)),h.each q I (q.p.vm,q.p.a.mr.length,1,q.p.a.mr.map (.int .i64)) oe L (λb hb=>.inl (G b hb)),h.each q I (q.p.ve,q.p.a.ed.length,3,q.p.a.ed.flatMap Qp) oe L (λb hb=>.inl (G b hb))⟩,O⟩
end
theorem XH (ns:LN):(bys ns).length=ns.length:=by rw[bys,Lo]
def grN (ns:LN)(o:Nat):LN:=(ns.drop o).take 27
theorem QkY {o:Nat}(h:o+27<=ns.length):(grN ns o).length=27:=by unfold grN;simp;omega
theorem Qpg {o:Nat}(h:∀n∈ns,n<256):∀n∈grN ns o,n<256:=QoK h o 27
theorem Ql3 (ns:LN)(n:Nat):(bys ns).set 0 (.int .u8 (n:Int))=bys (ns.set 0 n):=by
 unfold bys;rw[NI]
theorem Qm3 (h:∀m∈ns,m<256)(G:n<256):∀m∈ns.set 0 n,m<256:=λm I=>by
 rcases ND I with h1|rfl
 ·exact h m h1
 exact G
theorem Qjl (h:0<ns.length):(ns.set 0 n).getD 0 0=n:=by simp[oQ,h]
structure GdA (a:Qz):Prop where
 ok:QO a
 p:0<a.st
 s:a.st<=3
 c:∃a0:Qz,QO a0/\0<a0.st/\a=Xc a0
theorem QdU (I:QO a)(h:0<a.st):0<(Xc a).st:=by
 show 0<((xz a).length:Int);have G:(0:Int)∈xz a:=by
  have key:∀(f i:Nat) (out:LI),(0:Int)∈out->(0:Int)∈zT a f i out:=by
   intro f;induction f with
   | zero=>intro i out h;exact h
   | succ f ih =>
    intro i out h;rw[zT];split
    ·exact ih _ _ (QbR _ _ _ h)
    exact h
  refine key _ _ _ ?_;unfold fd0;rw[O0 h];simp
 have:=List.length_pos_of_mem G;omega
theorem GdA.of {G:Qz}(I:QO G)(h1:0<G.st)(h2:G.st<=((1+n % 5:Nat):Int))(O:a=Xc G)(U:n<3):GdA a:=by
 have J:=Qb9 I;subst O;exact⟨J.1,QdU I h1,oq J.2.2,G,I,h1,Z⟩
def nmI (c k:Nat):ByteArray:=⟨#[UInt8.ofNat c]⟩++⟨#[UInt8.ofNat (48+k)]⟩
theorem qD (c k:Nat):jH (nmI c k):=by
 show(ByteArray.mk _++ByteArray.mk _).size<=_;rw[ByteArray.size_append];show 1+1<=_;omega
theorem Qes {a b:LI}(V:Qu [] ↑w va a)(hb:Qu [] ↑w vb b)(hl:a.length+b.length<=1000):
  QT sV 84 [va,vb] w λr w'=>sW w w'/\∃l,l.length<=a.length+b.length/\(∀x,x∈l↔x∈a\/x∈b)/\Qh 3 ↑w w' r l:=by
 refine Zo func84 ?_;refine Qc<|Qb<|Ql<|Qx<|(Z0 V).S ?_;rintro v1 w1 ⟨G,I⟩;have hp:=G.size;refine Qa<|Qo<|Qbt I Z (hb.I G) Z (UE b) oa oa λY J he hf hq=>Qb ?_;have O:Qh 3 ↑w J Y (a++b):=by
  unfold Qh;rw[Le,Lv];exact he
 have hg:sW w J:=G.Z hf (λc hc=>.inr (Qi I c hc).1);have hr:(a++b).length=a.length+b.length:=Le;refine Ql<|Qx<|(Qjj O oa).S ?_;rintro r3 w3 ⟨hh,l3,hs,hj,U⟩;have hk:sW w w3:=hg.Z hh (λc hc=>.inr (Qi O c hc).1);refine xe<|Ql<|Qx<|(QoF U oa).S ?_;rintro r4 w4 ⟨hm,l4,hu,hn,ho⟩;refine Qb<|Qk ⟨[_],Lb,hk.Z hm (λc hc=>.inr (Qi U c hc).1),l4,oa,λx=>by rw[hn,hj,Lk],ho⟩
theorem yS {v:O8}{al:LI}(h:Qu [] ↑w v al)(hb:∀e∈al,0<=e/\e<32)(hi:YD al)(hn:ns.length=27)(U:∀n∈ns,n<256):
  QT sV 85 [v,sT (bys ns),sS 3] w λr w'=>sW w w'/\∃a:Qz,Xt ↑w ↑w' r a/\GdA a/\a.al=al:=by
 refine Zo func85 ?_;refine Qc<|Zd (bys ns) λb4 w1 hk hm G=>QV [nS,sS 0,nS,nS] λb6 w2 I hs V=>xe ?_;obtain⟨s0,hs0⟩:∃s0,ns.getD 0 0=s0:=⟨_,Z⟩;have Y:ns[0]?=some s0:=by
  rw[<-hs0,LU,LE oa];rfl
 have hu:s0<256:=U s0 (Mr Y);have q0:(bys ns)[0]?=some (.int .u8 (s0:Int)):=by
  unfold bys;rw[MM,Y];rfl
 have hw:=G.lt;have hy:=V.lt;refine Qc<|Qs Z (G.I I) Z q0<|Qa<|x (Yh (k':=.u8) Z ⟨oa,oa⟩)<|x (yl (a:=(s0:Int)) (b:=3) Z Z oa oa)<|Q9 Z<|Qo<|Qv (u:=.int .u8 ((s0 % 3:Nat):Int)) (G.I I) Z (O1 (Value.int .u8) (by omega:(s0:Int) % 3=((s0 % 3:Nat):Int))) (by rw[XH];omega) Z λw3 J ha =>
  xe ?_
 have O:sW w w3:=(hk.D I).O J hm;rw[Ql3]at ha;have he:(ns.set 0 (s0 % 3)).length=27:=by rw[M0];exact hn
 have hf:(ns.set 0 (s0 % 3)).getD 0 0=s0 % 3:=Qjl oa;refine Ql<|Q7 ha Z (by rw[XH];exact he)<|Qx<|(QhV (h.I O) hb hi he (Qm3 U oa)).S ?_;rintro r4 w4 ⟨hg,a,hA,hok,_,ho,hc⟩;obtain⟨a0,k0,k1,k2,k3⟩:=hc (by rw[hf];omega);rw[hf]at k2;obtain⟨us,hv,hh,hp⟩:=X2 hA;have hq:QL ↑w4 b6 53 [nS,sS 0,nS,nS]:=(V.J J om).I hg;have hz:=J.size;refine Qo<|ZM (us:=us) hq Z (show Go.Lg.ev _ _=_ from hv) hh Z hp λw5 hj hr=>xe ?_;refine Qk ⟨[sT us],⟨⟨_,Z,Z9 hh (hr.at (L:=[]) oe).cells⟩,La⟩,(O.D hg).O hj oa,a,?_,GdA.of k0 k1 k2 k3 (Nat.mod_lt _ oh),ho⟩;show Xt _ _ (sT us) _;rw[<-hv];exact(Jb hA oa hj).S O.size
open Go.Sort
theorem Qp9 {b:Nat}{al:LI}(e:Int)(w:O7)(G:QL ↑w b T [va])(hA:Qu L ↑w va al):
  QT sV 86 ([sS e]++[sP b]) w λr w'=>r=.bool (decide (e∉al))/\w'=w:=by
 refine Zo func86 ?_;refine Qc<|Qb<|Qc<|ZC G Z Z<|Qa<|Qx<|(ZF hA e).S ?_;rintro I J ⟨rfl,rfl⟩;refine x (Zl Z)<|Qb<|Qk ⟨[_],Lb,?_,Z⟩;show Value.bool (!decide (e∈al))=_;rw[decide_not]
theorem Qat {b:Nat}{al:LI}(e:Int)(w:O7)(I:QL ↑w b T [va])(hA:Qu L ↑w va al):
  FnGives sV 86 #[sP b] #[iC e] (.bool (decide (e∉al))) w:=by
 have h:=Qp9 e w I hA;unfold QT at h;unfold FnGives;refine Calls.mono h λe' w' G=>?_;cases e' with
 | returned v =>
  obtain⟨rfl,rfl⟩:=G;exact⟨Z,0,Z⟩
 | _=>exact G.elim
theorem QjE {os:xH}{d:Array Int}:xh [g] w (grow (putRow iC (Sort.ahead w n) g 0 d) os):=by
 have G:(grow (putRow iC (Sort.ahead w n) g 0 d) os).heap=w.heap.modify g (onCells (putCells iC 0 d))++os:=rfl;refine⟨Z,Z,Z,?_,λi hi I=>?_⟩
 ·rw[G,NG,MN];omega
 rw[G,MJ,MN,O0 hi,M4,OZ (λe=>I (by simp[e]))]
theorem Qow {b:Nat}{v:O8}{l al:LI}(h:Qh 3 base w v l)(hl:l.length<=1099511627776)(J:QL ↑w b T [va])(hb:b∉ob v)(hA:Qu (ob v) ↑w va al):
  QT sV 63 [v,.func (.func 86) #[] #[sP b]] w λr w'=>xh (ob v) w w'/\Qh 3 base w' r (l.filter λx=>decide (x∈al)):=by
 have eg:∀args w,(callFunc 86 args).run sV w=.ok (.enter 86 args) w:=enters_of func86 od Z;rcases h.2 with⟨rfl,h0⟩|⟨g,cap,cur,rfl,ha,O,hh,hj,hm,hn⟩
 ·have ho:l=[]:=Lt h0;subst ho;refine Zo func63 ?_;refine Qc<|Qb<|Ql<|Qa<|Qx<|(QeZ (cap:=[sP b]) (q:=λ_=>true) (Qu.fl (Qbx [] ↑w)) (λe I=>by cases I)).S ?_;rintro r1 w1 ⟨rfl,U⟩;refine Qb<|Qe<|Ql<|x (Zc Z Z)<|xe<|Zg Z (λ_=>?_) (λh8=>O2 Z h8);refine Ql<|Qb<|Qk ⟨[nS],Lb,U,Qm h U⟩
 unfold QT;have V:=λ(n:Nat) (os:xH) (d:Array Int)=>QjE (w:=w) (g:=g) (n:=n) (os:=os) (d:=d);have hp:b∉[g]:=hb;have hq:Qu [g] ↑w va al:=hA;have hc:=AnyE.slices_DeleteFunc Tryz.delI iC (λ_=>Z) (λx=>decide (x∉al)) 86 #[sP b] eg 0 (λw=>od) g 0 cap l.toArray w
  (λW x G=>by
   have Y:sW w W:=⟨G.os,G.tape,G.output,G.size,λk hk _=>G.block k hk⟩;exact Qat x W (J.I Y) (hA.I Y))
  (λn os dk x _=>Qat x _ (J.J (V n os dk) hp) (hq.st (V n os dk)))
  (Kn O hn) (by simp;omega) (ox hh)
 change Calls sV 63 _ _ _ at hc;rw[L3]at hc;refine Calls.mono hc λe w' I=>?_;obtain⟨rfl,q,rfl⟩:=I;have hf:(l.toArray.toList.filter λx=>!decide (x∉al))=l.filter λx=>decide (x∈al):=by
  refine NH λx _=>?_;by_cases hx:x∈al <;> simp[hx]
 rw[hf];have hr:=LO (λx=>decide (x∈al)) l;generalize (l.filter λx=>decide (x∈al))=u at *;have:=UD (e:=3) (n:=q) (k:=u.length) (os:=#[]) (d:=(u++oI (l.length - u.length) 0).toArray) ha O (by simp;omega) hj hm oe;rw[grow_empty]at this;refine⟨this.1,?_⟩;have h2:=this.2;have h3:(u++oI (l.length - u.length) 0).toArray.toList.take u.length=u:=oe
 rw[h3]at h2;exact h2
theorem Qdo {e:Int}{q:Bool}(h:QT sV gp ([sS e]++cap) w λr w'=>r=.bool q/\w'=w):FnGives sV gp cap.toArray #[iC e] (.bool q) w:=by
 unfold QT at h;unfold FnGives;have e0:#[iC e]++cap.toArray=([iC e]++cap).toArray:=oe
 rw[e0];refine Calls.mono h λe' w' G=>?_;cases e' with
 | returned v =>
  obtain⟨rfl,rfl⟩:=G;exact⟨Z,0,Z⟩
 | _=>exact G.elim
theorem QgY [Fu sV gp fn]{p:Int->Bool}{v:O8}{l:LI}(eg:∀args w,(callFunc gp args).run sV w=.ok (.enter gp args) w)(h:Qh 3 base w v l)(hl:l.length<=1099511627776)
  (I:∀(e:Int) (W:O7),xh (ob v) w W->QT sV gp ([sS e]++cap) W λr w'=>r=.bool (p e)/\w'=W):
  QT sV 63 [v,.func (.func gp) #[] cap.toArray] w λr w'=>xh (ob v) w w'/\Qh 3 base w' r (l.filter λx=>!p x):=by
 rcases h.2 with⟨rfl,Y⟩|⟨g,cp,cur,rfl,ha,O,hh,hj,hm,hn⟩
 ·have ho:l=[]:=Lt Y;subst ho;refine Zo func63 ?_;refine Qc<|Qb<|Ql<|Qa<|K7<|(QeZ (cap:=cap) (q:=λ_=>true) (Qu.fl (Qbx [] ↑w)) (λe J=>by cases J)).S ?_;rintro r1 w1 ⟨rfl,U⟩;refine Qb<|Qe<|Ql<|x (Zc Z Z)<|xe<|Zg Z (λ_=>?_) (λh8=>O2 Z h8);refine Ql<|Qb<|Qk ⟨[nS],Lb,U,Qm h U⟩
 unfold QT;have hp:=λ(n:Nat) (os:xH) (d:Array Int)=>QjE (w:=w) (g:=g) (n:=n) (os:=os) (d:=d);have V:∀(e:Int) (W:O7),xh [g] w W->QT sV gp ([sS e]++cap) W λr w'=>r=.bool (p e)/\w'=W:=I;have hc:=AnyE.slices_DeleteFunc Tryz.delI iC (λ_=>Z) p gp cap.toArray eg 0 (λw=>od) g 0 cp l.toArray w
  (λW x G=>Qdo (V x W ⟨G.os,G.tape,G.output,G.size,λk I _=>G.block k I⟩))
  (λn os dk x _=>Qdo (V x _ (hp n os dk)))
  (Kn O hn) (by simp;omega) (ox hh)
 change Calls sV 63 _ _ _ at hc;rw[L3]at hc;refine Calls.mono hc λe w' J=>?_;obtain⟨rfl,q,rfl⟩:=J;have hf:(l.toArray.toList.filter λx=>!p x)=l.filter λx=>!p x:=rfl;rw[hf];have hq:=LO (λx=>!p x) l;generalize (l.filter λx=>!p x)=u at *;have:=UD (e:=3) (n:=q) (k:=u.length) (os:=#[]) (d:=(u++oI (l.length - u.length) 0).toArray) ha O (by simp;omega) hj hm oe;rw[grow_empty]at this;refine⟨this.1,?_⟩;have h2:=this.2;have h3:(u++oI (l.length - u.length) 0).toArray.toList.take u.length=u:=oe
 rw[h3]at h2;exact h2
theorem jY {V:VwV}(h:VwA ↑w V):
  QT sV 60 [.pointer (some ⟨V.b,0,none⟩)] w λr w'=>sW w w'/\Qh 3 ↑w w' r (kpt V.a V.o):=by
 refine Zo func60 ?_;refine Qc<|Zd [.pointer (some ⟨V.b,0,none⟩)] λb1 w1 G he I=>Qb ?_;have h1:=h.I G;refine Qc<|ZC I Z Z<|Z7 Z<|Q9 Z<|Qs Z h1.blk Z Z<|Qx<|(Z0 h1.a.al).S ?_;rintro v2 w2 ⟨J,O⟩;have hge:=Qi O;refine x (Zk (l:=[]) (l':=[.tmp 1]))<|Qx<|(QgY (gp:=138) (cap:=[sP b1]) (p:=λe=>!decide (e∈V.o)) (enters_of func138 od Z) O h1.a.al.le
  (λe W hW=>have U:=J.Z hW λb hb=>.inr (hge b hb).1;Qeq (h1.I U) (I.I U) e)).S ?_
 rintro v3 w3 ⟨ha,Y⟩;refine Qb ?_;have e:(V.a.al.filter λx=>!!decide (x∈V.o))=kpt V.a V.o:=by unfold kpt;simp
 rw[e]at Y;exact Qk ⟨[_],Lb,G.D (J.Z ha λb hb=>.inr (hge b hb).1),Za Y G.size⟩
theorem QiK {b:Nat}{v:Int}(I:QL ↑w b 3 [sS v])(e:Ed):
  QT sV 210 [sT (Qp e),sP b] w λr w'=>r=.bool (decide (e.2.1=v))/\sW w w':=by
 refine Zo func210 ?_;refine Qc<|Zd (Qp e) λO U G V J=>Qb<|Qc<|Qs Z J Z Z<|ZC (I.I G) Z Z<|x (Zc Z Z)<|Qb<|Qk ⟨[_],Lb,Z,G⟩
theorem QqW [Fu sV gp fn]{q:Ed->Bool}{v:O8}{l:List Ed}(h:qd L ↑w v l)
  (I:∀(e:Ed) (G:O7),sW w G->QT sV gp ([sT (Qp e)]++cap) G λr w'=>r=.bool (q e)/\sW G w'):
  QT sV 209 [v,.func (.func gp) #[] cap.toArray] w λr w'=>r=.bool (l.any q)/\sW w w':=by
 refine Zo func209 ?_;refine Qc<|Qb<|Ql<|Qa<|K7<|(ixG (c:=Qp) ⟨_,Z,func159⟩ (λ_=>Z) (ldA λ_=>Z) h λe _=>I e).S ?_;rintro O G ⟨rfl,J⟩;refine x (Yl Z Z)<|Qb<|Qk ⟨[_],Lb,O1 Value.bool (U2 q l 0),J⟩
theorem QiL {V:VwV}{b c:Nat}{v:Int}(h:VwA ↑w V)(U:QL ↑w c 128 [.pointer (some ⟨V.b,0,none⟩)])(Y:QL ↑w b 3 [sS v])(s:Int)(h0:0<=s)(h1:s<V.a.st):
  QT sV 208 [sS s,sP c,sP b] w λr w'=>r=.bool ((QK V.a.ed s).any λe=>decide (e.2.1=v))/\sW w w':=by
 obtain⟨rv,hA,hE⟩:=h.r;have I:s=(s.toNat:Int):=oa
 have G:s.toNat<(oM V.a.st.toNat).length:=by rw[Mf];omega
 have J:=hE s.toNat (by rw[Mf]at G;exact G);rw[<-I]at J;refine Zo func208 ?_;refine Qc<|Qb<|Qc<|ZC U Z Z<|Z7 Z<|Qs Z h.blk Z Z<|Qa<|xp (g:=λj:Nat=>[rv j]) (i:=s.toNat) (λ_=>Z) hA Z (show Go.Lg.ev _ _=_ from O1 sS I) G λhe O=>?_;rw[Mw]at O;refine x (Qq O Z)<|x (Zk (l:=[]) (l':=[.tmp 2]))<|Qx<|(QqW (q:=λe=>decide (e.2.1=v)) (cap:=[sP b]) J (λe w1 hs=>QiK (Y.I hs) e)).S ?_;rintro r2 w2 ⟨rfl,ha⟩;refine Qb<|Qk ⟨[_],Lb,Z,ha⟩
theorem Qcq {V:VwV}{b c:Nat}{v:Int}{vl:O8}{l:LI}(h:VwA ↑w V)(I:QL ↑w c 128 [.pointer (some ⟨V.b,0,none⟩)])(J:QL ↑w b 3 [sS v])(hl:Qu [] ↑w vl l)(hb:∀s∈l,0<=s/\s<V.a.st):
  QT sV 207 [vl,sP c,sP b] w λr w'=>r=.bool (psb V.a v l)/\sW w w':=by
 refine Zo func207 ?_;refine Qc<|Qb<|Ql<|x (Zk (l:=[]) (l':=[.tmp 1,.tmp 2]))<|Qx<|(Qfn (q:=λs=>(QK V.a.ed s).any λe=>decide (e.2.1=v)) (cap:=[sP c,sP b]) (Qu.fl hl) (λs G U h1=>QiL (h.I h1) (I.I h1) (J.I h1) s (hb s G).1 (hb s G).2)).S ?_;rintro r2 Y ⟨rfl,O⟩;refine Qb<|Qk ⟨[_],Lb,Z,O⟩
theorem QiN {V:VwV}{c:Nat}{vy:O8}{X Y:LI}(h:VwA ↑w V)(J:QL ↑w c 128 [.pointer (some ⟨V.b,0,none⟩)])(hx:Qu [] ↑w vx X)(O:Qu [] ↑w vy Y):
  QT sV 205 [vx,vy,sP c] w λr w'=>r=.bool (Qah V.a X Y)/\sW w w':=by
 refine Zo func205 ?_;refine Qc<|Qb<|QY (α:=Unit) [(5,14)] (λ_=>[(5,.bool (Qah V.a X Y))]) (λ_ w'=>sW w w') ol ?_ ?_
 ·refine Qr<|ZC J Z Z<|Qa<|Qx<|(jX h hx).S ?_;rintro r1 w1 ⟨I,G⟩;unfold Qah;cases hb:mkd V.a X with
  | true =>
   rw[hb]at I;subst I;refine Qa<|ZC (J.I G) Z Z<|Qa<|Qx<|(jX (h.I G) (O.I G)).S ?_;rintro r2 w2 ⟨rfl,U⟩;refine x (Zl Z)<|QE Z<|Qb<|⟨(),Lb,G.D U⟩
  | false =>
   rw[hb]at I;subst I;refine Qa<|Zz<|Kg<|QE Z<|Qb<|⟨(),Lb,G⟩
 rintro _ g w3 ha;exact Qk ⟨[_],Lb,Z,ha⟩
instance:Bw sV 46 [nS,nS,nS,nS,nS] [(0,1),(1,1),(2,1),(3,1),(4,1)]:={}
end Go.Lg
namespace Go.Proofs
open Go.Proofs.Tryz
open Go.Shelf
def Tryz.sortRm_ren:Go.Shelf.Ren:=⟨λ|6=>224|15=>141|14=>265|28=>220|29=>221|20=>287|21=>288|22=>289|23=>290|24=>291|25=>292|26=>293|27=>294|46=>311|47=>258|48=>259|49=>312|50=>313|57=>322|n=>n,λ|22=>144|24=>323|25=>329|3=>3|39=>246|0=>0|53=>317|55=>319|4=>4|46=>311|45=>310|50=>205|5=>5|9=>9|66=>363|70=>367|76=>389|77=>379|n=>n,λ|n=>n⟩
theorem Tryz.sortRm:Go.Proofs.SlLaysF0.n6 sV Tryz.sortRm_ren:=lyS
end Go.Proofs
namespace Go.Lg
open Go.Lg Go.Sort
abbrev Rz:={ x:Int×Int×Int×Int // 0<=x.1/\x.1<4096 }
instance:Inhabited Rz:=⟨⟨(0,0,0,0),oh⟩⟩
abbrev zm (x:Rz):LV:=[sS x.1.1,sS x.1.2.1,sS x.1.2.2.1,sS x.1.2.2.2]
abbrev RzO (base:Nat)(w:O7)(v:O8)(l:List Rz):Prop:=w.ownsRow base 323 4 v l.length (l.flatMap zm)
theorem Qso (x y:Rz)(W:O7):Calls sV 225 #[sT (zm x),sT (zm y)] W λe w'=>e=.returned (sS (x.1.1 - y.1.1))/\∃q os',w'=grow (W.drewN q) os':=by
 have G:IntKind.i64.wrap (x.1.1 - y.1.1)=x.1.1 - y.1.1:=X3 ⟨ou x.2 y.2,ou x.2 y.2⟩
 go_enter func225,ntmps225
 go_wp2
 go_ret;exact⟨by rw[<-G];rfl,0,_,by rw[alloc_eq_grow,alloc_eq_grow,grow_grow];rfl⟩
theorem Qbd (x:Rz):(zm x).length=4:=rfl
theorem Qbc:∀l:List Rz,(l.flatMap zm).length=l.length*4
 | []=>rfl
 | x::l=>by rw[LR,Le,Qbc l,Qbd,LS];omega
theorem Qf6 {l:List Rz}(I:j<l.length*4):(l.flatMap zm)[j]?=some ((flatK zm 4 l.toArray)[j]!):=by
 have h1:j / 4<l.length:=Nat.div_lt_of_lt_mul oa;have h2:j % 4<4:=Nat.mod_lt _ oh;rw[get_flatK _ _ _ _ (ox I)];have J:(l.flatMap zm)[j]?=(zm (l[j / 4]'h1))[j % 4]?:=by
  rw[<-(Js zm 4 Qbd l (j / 4) h1),L6,O0 h2,MR];congr 1;omega
 rw[J];have O:(l.toArray)[j / 4]! = l[j / 4]'h1:=by simp[h1]
 rw[O];have G:j % 4<(zm (l[j / 4]'h1)).length:=h2;exact(LE G).D (O1 some (getElem!_pos (zm (l[j / 4]'h1)) (j % 4) G).symm)
theorem Qjm:SWO (ltOf λx y:Rz=>x.1.1 - y.1.1) where
 irrefl x:=by unfold ltOf;simp
 trans x y z h1 h2:=by unfold ltOf at *;simp at *;omega
 ntrans x y z h1 h2:=by unfold ltOf at *;simp at *;omega
def zl (l:List Rz):List Rz:=(pdq (ltOf λx y:Rz=>x.1.1 - y.1.1) l.toArray 0 l.toArray.size (Go.Lib.bitLen l.toArray.size) true true).toList
theorem yc (l:List Rz):(zl l).length=l.length:=by
 unfold zl;simpa using((pdq_sorts (ltOf λx y:Rz=>x.1.1 - y.1.1) Qjm l.toArray 0 l.toArray.size (Go.Lib.bitLen l.toArray.size) true true (Lp _) (Lr _) (Or.inl rfl)).1.1)
theorem Qhv {v:O8}{l:List Rz}(h:RzO base w v l)(hl:l.length<=1099511627776):
  QT sV 224 [v,.func (.func 225) #[] #[]] w λ_ w'=>xh (ob v) w w'/\RzO base w' v (zl l):=by
 unfold QT;rcases h.2 with⟨rfl,h0⟩|⟨g,cap,cur,rfl,hh,J,hm,ho,hp,hq⟩
 ·have hr:l=[]:=Lt h0;subst hr;have hc:=AnyF.slices_SortFunc_none Tryz.sortRm none 0 (.func (.func 225) #[] #[]) w;change Calls sV 224 _ _ _ at hc;refine Calls.mono hc λe w' O=>?_;obtain⟨rfl,rfl⟩:=O;rw[show zl []=[] from Lt (yc [])];exact⟨xh.C _ _,h⟩
 have ha:g<w.heap.size:=(LM.1 J).1;have hH:HoldsK zm 4 w g 0 l.toArray:=by
  intro j G;rw[size_flatK,L3]at G;have h1:=Qf6 G;rw[<-hq,L6,O0 G]at h1;constructor
  ·show(match w.heap[g]? with|some (.cells c _ _)=>if(none:Option _).isSome then none else c[0+j]?|_=>none)=_
   rw[J];simp only[Ob,Option.isSome_none,Ov,if_false];rw[<-MV,h1];rfl
  show(match w.heap[g]? with|some (.cells _ _ (lo,hi))=>decide (lo<=0+j) && decide (0+j<hi)|_=>false)=false
  rw[J];simp
 have eg:∀args w,(callFunc 225 args).run sV w=.ok (.enter 225 args) w:=enters_of func225 od Z;have hc:=AnyQ.slices_SortFunc_eq Tryz.sortRm 4 isAgg323 sizeOf323 zm Qbd (λx v hv=>by simp at hv;rcases hv with rfl|rfl|rfl|rfl <;> rfl) (λx y=>x.1.1 - y.1.1) Qjm 225 #[] g 0 cap l.toArray w eg (λm os dk _ x y=>Qso x y _) hH ha (by simp;omega)
 change Calls sV 224 _ _ _ at hc;rw[L3]at hc;refine Calls.mono hc λe w' O=>?_;obtain⟨rfl,n,os,rfl⟩:=O;refine Zh (zl l).toArray λI U=>?_;have V:I.size=l.length:=by rw[<-U];simpa using yc l
 have hs:zl l=I.toList:=by rw[<-U]
 have hf:pdq (ltOf λx y:Rz=>x.1.1 - y.1.1) l.toArray 0 l.toArray.size (Go.Lib.bitLen l.toArray.size) true true=I:=by rw[<-U];unfold zl;simp
 rw[L3]at hf;rw[hf,hs];have Y:(sortWorldK zm 4 w g 0 n I os).heap=w.heap.modify g (onCells (putCells id 0 (flatK zm 4 I)))++os:=rfl;refine⟨⟨rfl,Z,Z,?_,λk hk hn=>?_⟩,?_⟩
 ·rw[Y,NG,MN];omega
 ·rw[Y,MJ,MN,O0 hk,M4,OZ (λe=>hn (by simp[ob,e]))]
 refine⟨Qbc _,.inr ⟨g,cap,putCells id 0 (flatK zm 4 I) cur,by simp[V],hh,?_,by simp[V];exact hm,ho,by simp[putCells,hp],?_⟩⟩
 ·rw[Y,MJ,MN,O0 ha,M4,O0 rfl,J];rfl
 apply Nv;intro j;rw[L6];by_cases G:j<I.toList.length*4
 ·rw[O0 G,Qf6 G,MV];have hu:j<cur.size:=by simp[V]at G;omega
  have hw:j<(flatK zm 4 I).size:=by simpa using G
  simp only[putCells,Array.getElem?_mapIdx,Array.getElem?_eq_getElem hu,OK,Nat.zero_le,Ob,true_and,O0 hw,OT,id]
 rw[OZ G,Mj];rw[Qbc];omega
theorem Qp2 (G:QO a)(O:a.st=(n:Int))(hl:lf.length=n):∀x∈nxs a ul lf,0<=x/\x<(n:Int):=λx hx=>by
 have h1:=Qkc x hx;have h2:x.toNat<n:=by
  refine oW λh=>?_;unfold lft at h1;simp[oQ,List.getElem?_eq_none (show lf.length<=x.toNat by omega)]at h1
 unfold nxs at hx;split at hx
 ·obtain⟨p,I,rfl⟩:=Lu.1 hx;obtain⟨_,e,J,U,_⟩:=(QbA a ul lf).1 p I;have:=G.ed e J;omega
 have:=((U9 lf (dsts a lf) 0).1 x hx).2;omega
abbrev Q4:=Int×Int×Int×Int
abbrev q4C (x:Q4):LV:=[sS x.1,sS x.2.1,sS x.2.2.1,sS x.2.2.2]
def QpF (x:Q4):Rz:=if h:0<=x.1/\x.1<4096 then⟨x,h⟩else default
theorem Qcv:∀l:List Rz,(l.map (·.1)).map QpF=l
 | []=>rfl
 | x::l=>by
  rw[L2,L2,Qcv l];congr 1;unfold QpF;rw[dif_pos x.2]
theorem Qoh (l:List Rz):(l.map (·.1)).flatMap q4C=l.flatMap zm:=by rw[List.flatMap_map]
def rmR (rk:Int)(r:Int×xE):List Q4:=r.2.map λp=>(p.1,rk,r.1,p.2)
def rmL (a:Qz)(ul:LI):Nat->Int->Lf->List Q4
 | 0,_,_=>[]
 | f+1,rk,lf=>if(nxs a ul lf).length=0 then[]else rmR rk (nxR a ul lf)++rmL a ul f (rk+1) ((nxs a ul lf).foldl cut lf)
theorem Qjs {f:Nat}{rk:Int}(h:(nxs a ul lf).length=0):rmL a ul f rk lf=[]:=by
 cases f with
 | zero=>rfl
 | succ f=>rw[rmL,O0 h]
theorem Qjr {f:Nat}{rk:Int}(h:(nxs a ul lf).length≠0):rmL a ul (f+1) rk lf=rmR rk (nxR a ul lf)++rmL a ul f (rk+1) ((nxs a ul lf).foldl cut lf):=by rw[rmL,OZ h]
def rmF (fb:LI):List Q4:=fb.map λy=>(y,1,1,-1)
def rmA (a:Qz)(fb ul:LI):List Q4:=rmF fb++rmL a ul (a.st.toNat+1) 2 (lf0 a.st.toNat fb)
def rmS (a:Qz)(fb ul:LI):List Q4:=(zl ((rmA a fb ul).map QpF)).map (·.1)
def kpI (lf:Lf)(n:Nat):LN:=(oM n).filter λi=>lf.getD i false
def kpK (lf:Lf)(n:Nat):LI:=(kpI lf n).map λi:Nat=>(i:Int)
def kpD (lf:Lf)(D:LI)(n:Nat):LI:=(kpI lf n).map λi=>xj D i
theorem Qr5 (h:lf.getD n false=true):kpI lf (n+1)=kpI lf n++[n]:=by
 unfold kpI;rw[Nl,LW,L9,O0 h];rfl
theorem Qr6 (h:lf.getD n false=false):kpI lf (n+1)=kpI lf n:=by
 unfold kpI;rw[Nl,LW,L9,OZ (by rw[h];decide)];exact LK _
structure Qcj (L:LN)(H:xH)(c0 c1 c2:O8)(a:Qz)(fb ul:LI):Prop where
 k:Qu L H c0 (kpK (Xj a fb ul) a.st.toNat)
 d:Qu L H c1 (kpD (Xj a fb ul) (dsts a (Xj a fb ul)) a.st.toNat)
 r:Zu L H c2 (rmS a fb ul).length 4 ((rmS a fb ul).flatMap q4C)
theorem Qcj.st {L:LN}{w w':O7}{c0 I J:O8}{a:Qz}{fb ul:LI}(h:Qcj L ↑w c0 I J a fb ul)(G:xh L w w'):Qcj L ↑w' c0 I J a fb ul:=⟨h.k.st G,h.d.st G,h.r.st G⟩
theorem Qcj.up {L L':LN}{H:xH}{c0 I J:O8}{a:Qz}{fb ul:LI}(h:Qcj L H c0 I J a fb ul)(G:∀b∈L',b∈L\/H.size<=b):Qcj L' H c0 I J a fb ul:=⟨h.k.up G,h.d.up G,h.r.up G⟩
theorem Qo6 {rk rs:Int}:∀(l:xE),(∀x∈l.map (·.1),0<=x/\x<4096)->∃lz:List Rz,lz.flatMap zm=l.flatMap (rmC rk rs)/\lz.length=l.length/\lz.map (·.1)=rmR rk (rs,l)
 | [],_=>⟨[],Z,Z,Z⟩
 | x::l,h=>by
  obtain⟨lz,h1,h2,G⟩:=Qo6 (rk:=rk) (rs:=rs) l (λy I=>h y (Lj _ I));exact⟨⟨(x.1,rk,rs,x.2),h x.1 Lh⟩::lz,by rw[LR,LR,h1],by simp[h2],by rw[L2,G];rfl⟩
theorem Qgm:∀l:List Rz,∀u∈l.flatMap zm,u.oneCell'=true
 | [],u,h=>by cases h
 | x::l,u,h=>by
  rw[LR,Lk]at h;rcases h with h|h
  ·simp only[zm,oN,oJ,or_false]at h;rcases h with rfl|rfl|rfl|rfl <;> rfl
  exact Qgm l u h
theorem RzO.snoc {v:O8}{l m:List Rz}(h:w.ownsRow base 323 4 v (l.length+m.length) (l.flatMap zm++m.flatMap zm)):RzO base w v (l++m):=by
 unfold RzO;rw[Le,LJ];exact h
abbrev KZ (k d r:O8)(n:Int):LV:=[k,d,r,sS n,nS,sS 0,nS,nS,nS]
structure ReI (b10:Nat)(q:Pz)(wB:O7)(lf:Lf)(rn:Int)(vr:O8)(lz:List Rz)(w:O7):Prop where
 st:xh [b10,q.bl] wB w
 B10:QL ↑w b10 148 (KZ (nS) (nS) vr rn)
 R:RzO ↑wB w vr lz
 F:QL ↑w q.bl 4 (lf.map Value.bool)
 n:lf.length=q.n
section
variable {b10:Nat}{q:Pz}{wB w'':O7}{rn:Int}{lz:List Rz}
theorem ReI.I (h:ReI b10 q wB lf rn vr lz w)(G:sW w w'):ReI b10 q wB lf rn vr lz w':=⟨h.st.D G,h.B10.I G,Qm h.R G,h.F.I G,h.n⟩
theorem ReI.cut (h:ReI b10 q wB lf rn vr lz w)(l:q.bl<↑wB)(ne:b10≠q.bl)(G:xh [q.bl] w w'){I:Lf}(J:QL ↑w' q.bl 4 (I.map Value.bool))(O:I.length=q.n):ReI b10 q wB I rn vr lz w' :=
 ⟨h.st.Z G (λb hb=>.inl (by simp only[oH]at hb;simp[hb])),h.B10.J G (ox ne),Qg h.R G (λb hb=>by have:=(Qi h.R b hb).1;simp only[oH];omega),J,O⟩
theorem ReI.app (h:ReI b10 q wB lf rn vr lz w)(l:q.bl<↑wB)(Y:b10<wB.heap.size)(ne:b10≠q.bl){G:O8}{J:List Rz}{O:Int}(U:xh (ob vr) w w')(hR:RzO ↑wB w' G J)(I:xh [b10] w' w'')
  (V:QL ↑w'' b10 148 (KZ (nS) (nS) G O)):ReI b10 q wB lf O G J w'':=by
 have hge:=Qi h.R;exact⟨(h.st.Z U (λb hb=>.inr (hge b hb).1)).Z I (λb hb=>.inl (by simp only[oH]at hb;simp[hb])),V,Qg hR I (λb hb=>by have:=(Qi hR b hb).1;simp only[oH];omega),
  (h.F.J U (λhb=>oq (hge _ hb).1)).J I (ox ne.symm),h.n⟩
theorem ReI.rounds (h:ReI b10 q wB lf rn vr lz w)(O:b10<wB.heap.size)(ne:b10≠q.bl){I:Int}(G:xh [b10] w w')(J:QL ↑w' b10 148 (KZ (nS) (nS) vr I)):ReI b10 q wB lf I vr lz w' :=
 ⟨h.st.Z G (λb hb=>.inl (by simp only[oH]at hb;simp[hb])),J,Qg h.R G (λb hb=>by have:=(Qi h.R b hb).1;simp only[oH];omega),h.F.J G (ox ne.symm),h.n⟩
end
theorem QhB {vf:O8}{forb unc:LI}(h:Zt [] ↑w va vm ve a)(hok:QO a)(hf:Qu [] ↑w vf forb)(kh:∀x∈forb,0<=x/\x<a.st)(hfl:forb.length<=4096)(hu:Qu [] ↑w vu unc):
  QT sV 143 [.agg #[va,sS a.st,vm,ve],vf,vu,.bool true] w λr w'=>sW w w'/\∃c0 c1 c2 c3 sa sm se o,r=.agg #[c0,c1,c2,c3,sa,sS (V8 a forb unc).st,sm,se,o] /\
   ZN [c0,c1,c2,c3,o]/\∀L:LN,(∀b∈L,b<↑w)->Zt L ↑w' sa sm se (V8 a forb unc)/\Qcj L ↑w' c0 c1 c2 a forb unc:=by
 have hst0:=hok.st0;have hst1:=hok.st1;obtain⟨n,hn⟩:∃n:Nat,a.st=n:=⟨a.st.toNat,oa⟩;have h8:a.st.toNat=n:=oa
 have hS:V8 a forb unc=jK a (Ve a unc (n+1) (lf0 n forb)):=by unfold V8 Xj;rw[h8]
 have mz:rmA a forb unc=rmF forb++rmL a unc (n+1) 2 (lf0 n forb):=by unfold rmA;rw[h8]
 have gl:Xj a forb unc=Ve a unc (n+1) (lf0 n forb):=by unfold Xj;rw[h8]
 refine Zh (V8 a forb unc) λSA m0=>?_;rw[m0]at hS ⊢;refine Zo func143 ?_;refine Qc<|Zd [va,sS a.st,vm,ve] λb4 w1 ki hb4 m1=>QV (KZ (nS) (nS) (nS) 0) λb8 w2 kj hb8 kk=>xe ?_;have hT:=ki.D kj;have hl8:=kk.lt;have hz1:=ki.size;refine Qc<|Q7 (m1.I kj) Z Z<|Qa<|Qa<|Qx<|(Qjd (h.I hT) hok hn (hf.I hT) kh (hu.I hT)).S ?_;rintro r3 w3 ⟨kn,bp,q,rfl,m2,m3,m4,hbl,hP,hF⟩;refine Qb ?_;subst m2 m3 m4;have hq:PzQ q:=⟨hok,hn⟩;have m5:=hT.D kn;have hlF:=hF.lt;refine Qc<|QV (KZ (nS) (nS) (nS) 0) λb10 O h9 m6 ko=>xe ?_;have gm:=m5.D h9;have hz4:=h9.size;have hU:=ko.lt;have hv:b10≠q.bl:=oa
 have gn:q.bl<O.heap.size:=oa
 have m7:PzA [b10,q.bl] ↑O bp q:=(hP.up (λb hb=>by
  simp only[oN,oJ,or_false]at hb;rcases hb with rfl|rfl
  ·exact .inr m6
  exact .inl oe)).I h9
 have m8:=QnT q.n forb;have hA:∀{w'},xh [b10,q.bl] O w'->PzA [] ↑w' bp q:=λhs=>(m7.st hs).up oe;refine Qe<|Ql<|QG (hf.I gm) Z<|Qa<|xe<|QZ (α:=Nat×Int×O8×List Rz) [(12,12),(25,39)] (λz=>[(25,sS z.1)]) (λz w'=>z.1<=forb.length/\ReI b10 q O (lf0 q.n forb) z.2.1 z.2.2.1 z.2.2.2 w'/\z.2.2.2.length=z.1/\(z.2.1=0\/z.2.1=1)/\z.2.2.2.map (·.1)=rmF (forb.take z.1)) (λz=>forb.length - z.1) (0,0,nS,[]) Lb
  ⟨Lp _,⟨xh.C _ _,ko,QM _ _ _ _,hF.I h9,m8⟩,Z,.inl Z,Z⟩ ?_
 rintro⟨k,rn,vr,lz⟩ g w5 ⟨hk,hI,gq,hV,hW⟩;simp only[]at hk hI gq hV hW;have m9:Qu [] ↑w5 vf forb:=((hf.up (L':=[b10,q.bl]) (λb hb=>by
  simp only[oN,oJ,or_false]at hb;exact .inr oa)).I gm |>.st hI.st).up oe
 refine Zj rfl Z (λgr=>?_) (λgr=>?_)
 ·refine Qt ?_;have hcl:=Qg2 (lf0 q.n forb);have pc:forb.length<=k:=by have hX:¬(k:Int)<(forb.length:Int):=gr;omega
  rw[Ls pc]at hW;refine Qe<|Qc<|Qb<|QZ (α:=Nat×Nat×Int×O8×List Rz×Lf) [(13,14),(16,16),(40,71)] (λz=>[(13,sS z.2.1)])
   (λz w'=>ReI b10 q O z.2.2.2.2.2 z.2.2.1 z.2.2.2.1 z.2.2.2.2.1 w'/\z.2.1+z.1=q.n+3/\z.2.2.2.2.1.length<=4096+z.2.1*1000000/\Ve q.a q.unc z.1 z.2.2.2.2.2=Ve q.a q.unc (q.n+1) (lf0 q.n forb)/\VU z.2.2.2.2.2+1<=z.1/\z.2.2.2.2.1.map (·.1)++rmL q.a q.unc z.1 (z.2.1:Int) z.2.2.2.2.2=rmA q.a forb q.unc) (λz=>z.1) (q.n+1,2,rn,vr,lz,lf0 q.n forb) Lb ⟨hI,og,og,Z,og,by rw[mz];simp only[hW];rfl⟩ ?_
  rintro⟨f,rank,rn,vr,lz,lf⟩ g w6 ⟨hI,pd,gq,hB,pf,hC⟩;simp only[]at hI pd gq hB pf hC;refine Qe<|Qn<|Ql<|Qa<|Qa<|Qx<|(QjV (hA hI.st) hq hI.F hI.n rank).S ?_;rintro r7 w7 ⟨hY,hE,kq⟩;have hh:=QnA q.a q.unc lf;have kr:=λ(f:Nat) (h:(nxs q.a q.unc lf).length≠0)=>Qjr (a:=q.a) (ul:=q.unc) (f:=f) (rk:=(rank:Int)) (lf:=lf) h;refine Zh (nxR q.a q.unc lf) λNR pg=>?_;rw[pg]at hE kq hh kr;obtain⟨rs,l⟩:=NR;simp only[]at hE kq hh;refine Qb ?_;have U:=hI.I hY;have kt:Zu [] ↑w7 r7 l.length 4 (l.flatMap (rmC rank rs)):=QN hE oa oe;have gs:(nxs q.a q.unc lf).length=l.length:=by rw[<-hh,Lo]
  have gt:=Qp2 (ul:=q.unc) hok hn hI.n;rw[<-hh]at gt;refine Qe<|Ql<|QG kt Z<|x (Zc Z Z)<|xe<|Zg Z (λgu=>?_) (λgu=>?_)
  ·refine Qt ?_;have hG:l.length=0:=by have h49:(l.length:Int)=0:=gu;omega
   rw[QhC (by rw[gs];exact hG)]at hB;rw[Qjs (by rw[gs];exact hG),LK]at hC;rw[<-hB]at hS gl;refine Qc<|Q9 Z<|Qs Z U.B10 Z Z<|Qx<|(Qhv U.R oa).S ?_;rintro r8 V ⟨he,gv⟩;have ph:rmS q.a forb q.unc=(zl lz).map (·.1):=by unfold rmS;rw[<-hC,Qcv]
   refine xe ?_;have hge:=Qi U.R;have gx:xh [b10,q.bl] O V:=U.st.Z he (λb hb=>.inr (hge b hb).1);have gy:QL ↑V b10 148 (KZ (nS) (nS) vr rn):=U.B10.J he (λhb=>oq (hge _ hb).1);have ku:QL ↑V q.bl 4 (lf.map Value.bool):=U.F.J he (λhb=>oq (hge _ hb).1);have kv:=QA gv;have hz8:=gx.size;refine Qe<|Ql<|Qx<|(U4 (hA gx) hq ku U.n).S ?_;rintro r9 I ⟨Y,bD,rfl,hbD,kw,hZ⟩;refine Zh (dsts q.a lf) λD hD=>?_;rw[hD]at kw hZ;have kx:Qu [b10] ↑I (sL bD q.n q.n) D:=by
    have h1:=kw.arr (L:=[b10]) om (n:=q.n) (cap:=q.n) (sz:=1) (by simp[hZ]) oa (Lr _);unfold Qu;rw[hZ];exact h1
   have pn:=gx.D Y;have hz9:=Y.size;have po:=ku.I Y;refine QG kx Z<|Qa<|xe<|QZ (α:=Nat×O8×O8×LI×LI) [(17,18),(79,107)] (λz=>[(79,sS z.1)])
    (λz w'=>z.1<=D.length/\xh [b10] I w'/\QL ↑w' b10 148 (KZ z.2.1 z.2.2.1 vr rn)/\Qh 3 ↑I w' z.2.1 z.2.2.2.1/\Qh 3 ↑I w' z.2.2.1 z.2.2.2.2/\Dj z.2.1 z.2.2.1/\z.2.2.2.1.length<=z.1/\z.2.2.2.2.length<=z.1/\z.2.2.2.1=kpK lf z.1/\z.2.2.2.2=kpD lf D z.1) (λz=>D.length - z.1) (0,nS,nS,[],[]) Lb
    ⟨Lp _,xh.C _ _,gy.I Y,QM _ _ _ _,QM _ _ _ _,Dj.nil' _,Lr _,Lr _,Z,Z⟩ ?_
   rintro⟨i,vk,vd,lk,ld⟩ g hH ⟨hi,ha,hJ,hK,hp,ga,pp,hld,gb,gc⟩;simp only[]at hi hJ hK hp ga pp hld gb gc;have hz10:=ha.size;have ge:xh [b10,q.bl] O hH:=pn.Z ha (λb hb=>.inl (by simp only[oH]at hb;simp[hb]));have kz:QL ↑hH q.bl 4 (lf.map Value.bool):=po.J ha (ox hv.symm);refine Zj Z Z (λgz=>?_) (λgz=>?_)
   ·refine Qt<|Ql<|Qx<|(yr (hA ge) hq kz U.n).S ?_;rintro r11 pt ⟨hr,_,o,rfl,⟨sa,sm,se,rfl,g0⟩,g2⟩;rw[<-hS]at g0;have hw:=g0 [] oe;refine Qa<|QU Z Z<|QU Z Z<|Q9 Z<|Qo<|Ko (us:=[sa,sS SA.st,sm,se]) (hJ.I hr) Z (by rw[<-hS];rfl) Z oe ⟨hw.al.one,rfl,hw.mr.one,hw.ed.one,La⟩ rfl λw12 gg pu =>
     Q9 rfl<|Qo<|Qv (j:=8) (u:=o) pu Z Z oe g2 λw13 gh pw=>xe ?_
    have pz:b8∉[b10,q.bl]:=by simp only[oN,oJ,or_false];omega
    have k0:b8∉[b10]:=om
    have p0:=(((((kk.I (kn.D h9)).J ge pz).I hr).J gg k0).J gh k0);refine Qc<|Q7 pw Z Z<|Q6 [vk,vd,vr,sS rn,sa,sS SA.st,sm,se,o] p0 ⟨QA hK,QA hp,kv,Z,hw.al.one,Z,hw.mr.one,hw.ed.one,g2,La⟩ λp4 g3 p5=>xe ?_;have p6:∀b∈[b10,q.bl],↑w<=b:=λb hb=>by simp only[oN,oJ,or_false]at hb;omega
    have p7:sW w p4:=((((gm.Z ge (λb hb=>.inr (p6 b hb))).D hr).O gg oa).O gh oa).O g3 oa;refine Qk ⟨[.agg #[vk,vd,vr,sS rn,sa,sS SA.st,sm,se,o]],⟨Kc p5,La⟩,p7,vk,vd,vr,sS rn,sa,sm,se,o,Z,⟨QA hK,QA hp,kv,Z,g2,La⟩,λL hL=>?_⟩;have gi:∀N,↑O<=N->∀b∈b10::b8::L,b<N:=λN hN b hb=>by
     simp only[oN]at hb;rcases hb with rfl|rfl|hb
     ·omega
     ·omega
     have:=hL b hb;omega
    have h1:=g0 (b10::b8::L) (gi _ oa);have h2:=((h1.st (gg.S oe)).st (gh.S oe)).st (g3.S oe);have p8:i=q.n:=by have p9:¬(i:Int)<(D.length:Int):=gz;omega
    subst p8;have hrl:(zl lz).length=lz.length:=yc lz;have h3:Qcj (b10::b8::L) ↑hH vk vd vr q.a forb q.unc:=by
     refine⟨?_,?_,?_⟩
     ·rw[gl,h8,<-gb];exact Qh.ints hK oa (gi _ oa)
     ·rw[gl,h8,hD,<-gc];exact Qh.ints hp oa (gi _ oa)
     rw[ph,Lo,Qoh];have qf:=Qi gv;refine(((QN gv oa (λb hb qj=>ou (qf b hb).1 (gi _ (Lr _) b qj)):Zu (b10::b8::L) ↑V vr (zl lz).length 4 ((zl lz).flatMap zm)).I Y).st (ha.S oe))
    have h4:=((((h3.st (hr.any)).st (gg.S oe)).st (gh.S oe)).st (g3.S oe)).up (L':=L) (λb hb=>.inl (by simp[hb]));exact⟨h2.up (λb hb=>.inl (by simp[hb])),h4⟩
   refine Qf ?_;have hz:i<D.length:=by have p9:(i:Int)<(D.length:Int):=gz;omega
   have g4:i<lf.length:=by rw[U.n,<-hZ];exact hz
   have ql:lf[i]'g4=lf.getD i false:=by simp[oQ,g4]
   refine Qe<|Qn<|Ql<|xii (i:=i) (kx.st ha) Z Z hz λa82 k4=>?_;refine Zh (D[i]'hz) λd hd=>?_;rw[hd]at k4;refine x (Qq k4 Z)<|x Qd<|Qb<|Ql<|Z7 Z<|Qs Z (hA ge).B Z Z<|Qa<|x (QD (i:=i) Z Z oa)<|x (v:=.bool (lf.getD i false)) ((JW (i:=i) kz Z g4).D (by rw[ql]))<|xe<|Q8 Z (λg5=>?_) (λg5=>?_)
   ·have hM:∀{v:O8} {l:LI} {w':O7},Qh 3 ↑I w' v l->b10∉ob v:=λho G=>oq (Qi ho b10 G).1
    refine Qc<|Q9 Z<|Qs Z hJ Z Z<|Qa<|Qo<|Q5 [[sS i]] λb95 y1 h5 hb95 q4=>Qo<|Q2 (m:=1) (news:=[sS i]) (L:=[]) (Qm hK h5) Z Z Z (q4.at oe) oo oa (oq h5.size) λhO y2 k5 gj q5 =>
     Q9 rfl<|Q9 Z<|Qo<|Qv (j:=0) (u:=hO) ((hJ.I h5).J gj (hM hK)) Z Z oe (QA k5) λy3 g6 k6=>xe ?_
    have j1:Qh 3 ↑I y2 hO (lk++[(i:Int)]):=Qh.snoc k5;have hzy1:=h5.size;have hzy2:=gj.size;have hzy3:=g6.size;have j2:Qh 3 ↑I y2 vd ld:=Qg (Qm hp h5) gj (λb hb G=>ga b G hb);have k9:Dj hO vd:=λb hb G=>by
     rcases q5 b hb with h1|h1
     ·exact ga b h1 G
     have:=QW hp b G;omega
    have ma:∀{v:O8} {l:LI},Qh 3 ↑I y2 v l->Qh 3 ↑I y3 v l:=λho=>Qg ho g6 (λb hb G=>by simp only[oH]at G;subst G;exact hM ho hb);have mc:=ma j1;have g7:=ma j2;have j3:xh [b10] I y3:=(((ha.D h5).Z gj (λb hb=>.inr (Qi hK b hb).1))).Q g6;refine Qr<|Q9 Z<|Qs Z k6 Z Z<|Qa<|Qo<|Q5 [[sS d]] λb103 y4 h6 hb103 j4=>Qo<|Q2 (m:=1) (news:=[sS d]) (L:=[]) (Qm g7 h6) Z Z Z (j4.at oe) oo oa (oq h6.size) λg8 y5 mf g9 za =>
     Q9 rfl<|Q9 Z<|Qo<|Qv (j:=1) (u:=g8) ((k6.I h6).J g9 (hM g7)) Z Z oe (QA mf) λy6 ka z0=>xe ?_
    have mg:Qh 3 ↑I y5 g8 (ld++[d]):=Qh.snoc mf;have mh:=Qr5 (lf:=lf) (n:=i) g5;have z1:xj D i=d:=by unfold xj;simp[oQ,hz,hd]
    have mj:Qh 3 ↑I y5 hO (lk++[(i:Int)]):=Qg (Qm mc h6) g9 (λb hb G=>k9 b hb G);have hzy4:=h6.size;refine Qr<|QB Z Z<|Qa<|xe<|⟨(i+1,hO,g8,_,_),og,Lb,hz,(((j3.D h6).Z g9 (λb hb=>.inr (Qi g7 b hb).1))).Q ka,z0,Qg mj ka (λb hb G=>by simp only[oH]at G;subst G;exact hM mj hb),Qg mg ka (λb hb G=>by simp only[oH]at G;subst G;exact hM mg hb),λb hb G=>?_,by simp only[oO,oL];omega,by simp only[oO,oL];omega,by simp only[];unfold kpK;rw[mh,Lv,gb];rfl,by simp only[];unfold kpD;rw[mh,Lv,gc,<-z1];rfl⟩;rcases za b G with h1|h1
    ·exact k9 b hb h1
    have:=QW mc b hb;omega
   refine Qf<|Qr<|QB Z Z<|Qa<|xe ?_;have mo:=Qr6 (lf:=lf) (n:=i) g5;exact⟨(i+1,vk,vd,lk,ld),og,Lb,hz,ha,hJ,hK,hp,ga,og,og,by unfold kpK;rw[mo];exact gb,by unfold kpD;rw[mo];exact gc⟩
  refine Qf ?_;have hG:¬l.length=0:=λe=>gu (by show(l.length:Int)=0;omega);have kb:(nxs q.a q.unc lf).length≠0:=by rw[gs];exact hG
  have z2:=Qc9 kb;refine Exists.elim (Nt (show f≠0 by omega)) λf' z3=>?_;subst z3;rw[Qai kb,<-hh]at hB;rw[kr f' kb,<-hh]at hC;rw[<-hh]at z2;refine Exists.elim (Qo6 (rk:=(rank:Int)) (rs:=rs) l (λx hx=>oq (gt x hx))) λln h7=>?_;refine Qe<|Ql<|QG kt Z<|Qa<|xe<|QZ (α:=Nat) [(16,16),(51,62)] (λz=>[(51,sS z)]) (λz w'=>z<=l.length/\xh [q.bl] w7 w'/\ReI b10 q O (((l.take z).map (·.1)).foldl cut lf) rn vr lz w') (λz=>l.length - z) 0 Lb ⟨Lp _,xh.C _ _,U⟩ ?_;rintro j g V ⟨hj,he,J⟩;have hV:∀b∈ob r7,b≠q.bl:=λb hb e=>ou (Qi hE b hb).1 hI.st.size
  have z4:RmO ↑w6 V r7 rank rs l:=Qg hE he (λb hb G=>hV b hb (ox G));have mq:Zu [q.bl] ↑V r7 l.length 4 (l.flatMap (rmC rank rs)):=QN z4 oa (λb hb G=>hV b hb (ox G));refine Zj Z Z (λkc=>?_) (λkc=>?_)
  ·refine Qt ?_;have z5:l.length<=j:=by have gk:¬(j:Int)<(l.length:Int):=kc;omega
   rw[Ls z5]at J;obtain⟨ad,cap7,hr7,_,hAt7⟩:∃ad cap,r7=.slice (some ad) l.length cap/\l.length<=cap/\At [q.bl] ↑V ad (l.flatMap (rmC rank rs)):=by
    rcases mq.2.2 with⟨_,h0⟩|h1
    ·exact O2 h0 hG
    exact h1
   refine Qc<|Q9 Z<|Qs Z J.B10 Z Z<|Qa<|Qo<|Q2 (m:=l.length) (news:=l.flatMap (rmC rank rs)) (L:=[q.bl]) J.R Z hr7 (by rw[<-h7.1,Qbc,h7.2.1]) hAt7 (by rw[<-h7.1];exact Qgm ln) oa J.st.size λke w22 ms mt hn22 =>
    Q9 rfl<|Q9 Z<|Qo<|Qv (j:=2) (u:=ke) (J.B10.J mt (λhb=>oq (Qi J.R _ hb).1)) Z Z oe (QA ms) λw23 hs23 hB23=>xe ?_
   have hR22:RzO ↑O w22 ke (lz++ln):=RzO.snoc (by rw[h7.1,h7.2.1];exact ms);have mu:=J.app gn hU hv mt hR22 hs23 hB23;refine Qr<|Qa<|Q9 Z<|Qo<|Qv (j:=3) (u:=sS rank) mu.B10 Z Z oe rfl λw24 hs24 hB24=>xe ?_;have hI24:=mu.rounds hU hv hs24 hB24;have hra:(-9223372036854775808:Int)<=(rank:Int)+1:=oa
   have hrb:(rank:Int)+1<=9223372036854775807:=oa
   refine Qr<|Qa<|x (Xx Z Z ⟨hra,hrb⟩)<|Qb<|⟨(f',rank+1,(rank:Int),ke,lz++ln,(l.map (·.1)).foldl cut lf),og,Lb,hI24,og,by simp only[oO];omega,hB,og,by simp only[List.map_append,h7.2.2];rw[LB];exact hC⟩
  refine Qf ?_;have hg:j<l.length:=by have gk:(j:Int)<(l.length:Int):=kc;omega
  have htk:l.take (j+1)=l.take j++[l[j]'hg]:=Ln hg;have mv:((l.take (j+1)).map (·.1)).foldl cut lf=cut (((l.take j).map (·.1)).foldl cut lf) (l[j]'hg).1:=by rw[htk,Lv,Mv];rfl
  have hxr:=gt (l[j]'hg).1 (LL (Lm hg));refine Zh (l[j]'hg) λy hy=>?_;rw[hy]at mv hxr;have hyn:y.1=(y.1.toNat:Int):=oa
  refine Qe<|Qn<|Qc<|xp (g:=rmC rank rs) (i:=j) (Qf7 rank rs) mq Z Z hg λa53 gk=>?_;rw[hy]at gk;refine x (QF gk Z Z)<|QV [sS 0,sS 0,sS 0,sS 0] λb16 I Y hb16 kf=>Q6 (rmC rank rs y) kf oA λhH ha kf=>xe ?_;have mw:sW V hH:=Y.O ha hb16;have kg:=J.I mw;have hnn:=J.n;refine ZJ [] (Xk 0 8 [7])<|p Qy<|p (YR Z)<|p (QH Z)<|pq (λ_ hc=>Qj ((hA kg.st).B.I hc) Z Z)<|p (QH Z)<|pq (λ_ hc=>Qj (kf.I hc) Z Z) <|
   p (λ_=>QD (i:=y.1.toNat) Z (O1 sS hyn) oa)<|pkk<|yw (i:=y.1.toNat) (kg.F.I (xh.Y _ _)) Z Z oa λpt hr hF11=>pe ?_
  refine Qr<|QB Z Z<|Qa<|xe<|⟨j+1,oa,Lb,hg,((he.D mw).D (xh.Y _ _)).Q hr,?_⟩;rw[mv];exact(kg.I (xh.Y _ _)).cut gn hv hr hF11 (by rw[QgZ];exact hnn)
 refine Qf ?_;have hQ:k<forb.length:=by have hX:(k:Int)<(forb.length:Int):=gr;omega
 have hxk:=kh _ (Lm hQ);refine Zh (forb[k]'hQ) λy hy=>?_;rw[hy]at hxk;refine Qe<|Qn<|Qc<|xii (i:=k) m9 Z Z hQ λa27 hX=>?_;rw[hy]at hX;refine x (Qq hX Z)<|Qb<|Qc<|Q9 Z<|Qs Z hI.B10 Z Z<|Qa<|x (QC ⟨Z,Z,Z,Z,La⟩)<|Qo<|Q5 [[sS y,sS 1,sS 1,sS (-1)]] λb34 w6 hs6 hb34 hB34=>?_;have hR:=hI.I hs6;refine Qo<|Q2 (m:=1) (news:=[sS y,sS 1,sS 1,sS (-1)]) (L:=[]) hR.R Z Z Z (hB34.at oe) oo oa hR.st.size λv7 w7 my hY hn7 =>
  Q9 rfl<|Q9 Z<|Qo<|Qv (j:=2) (u:=v7) (hR.B10.J hY (λhb=>oq (Qi hR.R _ hb).1)) Z Z oe (QA my) λV he gy=>xe ?_
 have hR7:RzO ↑O w7 v7 (lz++[⟨(y,1,1,-1),og⟩]):=RzO.snoc my;have hfk:rmF (forb.take (k+1))=rmF (forb.take k)++[(y,1,1,-1)]:=by unfold rmF;rw[Ln hQ,Lv,hy];rfl
 have J:=hR.app gn hU hv hY hR7 he gy;refine Qr<|Q9 Z<|Qo<|Qv (j:=3) (u:=sS 1) J.B10 Z Z oe rfl λI Y hB9=>xe ?_;have hI9:=J.rounds hU hv Y hB9;refine Qr<|QB Z Z<|Qa<|xe ?_;exact⟨(k+1,1,v7,_),og,Lb,hQ,hI9,by simp only[oO,oL];omega,.inr Z,by simp only[List.map_append,hW,hfk];rfl⟩
instance:Bw sV 148 (KZ (nS) (nS) (nS) 0) [(0,3),(3,1),(4,4),(8,1)]:={}
theorem QpK {c:ZS}{pl:Qz}{ps:List (LI)}{l:List (LI)}:∀r∈spF c pl ps l,0<=r.st/\r.st<(l.length:Int):=λr G=>by
 unfold spF at G;obtain⟨⟨t,i⟩,I,h1⟩:=MI.1 G;have hi:=List.snd_lt_add_of_mem_zipIdx I;simp only[Ob]at hi;have h2:r.st=(i:Int):=by
  unfold rsn at h1;split at h1
  ·cases h1;rfl
  split at h1
  ·cases h1;rfl
  cases h1
 omega
theorem Qjh {c:ZS}(h:YX c=0):QO (spc c).a/\(∀x∈fbs (spc c),0<=x/\x<(spc c).a.st)/\(fbs (spc c)).length<=4096/\(spc c).fb.length<=4096/\XY c.ev=0:=by
 unfold YX at h;by_cases h1:Z2 c≠0
 ·rw[O0 h1]at h;exact O2 h h1
 rw[OZ h1]at h;have hck:Z2 c=0:=Ly.1 h1;have hok:=YV hck;by_cases h2:K4 (xo c.co)≠0
 ·rw[O0 h2]at h;exact O2 h h2
 rw[OZ h2]at h;cases I:xx (xo c.co) with
 | none=>rw[I]at h;cases h
 | some z =>
  rw[I]at h;by_cases J:K4 (xo c.co++xo c.rq)≠0
  ·rw[O0 J]at h;exact O2 h J
  rw[OZ J]at h;cases O:xx (xo c.co++xo c.rq) with
  | none=>rw[O]at h;cases h
  | some y =>
   have U:∀a∈xo c.co++xo c.rq,QO a:=λa G=>by
    rcases Lk.1 G with G|G
    ·exact Y1 hok.co a G
    exact Y1 hok.rq a G
   have hsp:=(Yv U (A:=y.1) (Q:=y.2) O).1;have hl:=Qf2 c z.1 z.2 y.2;have Y:=hsp.le;rw[(Qa9 (c:=c) (pl:=z.1) (ps:=z.2) (sa:=y.1) (ts:=y.2) I O)];unfold fbs;refine⟨hsp.okay U,λx hx=>?_,by rw[Lo];simp only[];omega,og,hok.e0⟩;obtain⟨r,V,rfl⟩:=Lu.1 hx;have:=QpK r V;rw[hsp.st];exact this
theorem st4 (r:Rsn):(Z5 r).length=4:=rfl
theorem Qev (h0:Yc L ↑w c)(hT:Kb w 4096):
  QT sV 67 [c.val] w λr w'=>sW w w'/\∃us c0 J O c3 sa sm se o,r=.tuple #[sT us,.agg #[c0,J,O,c3,sa,sS (if YX c.V=0 then(Xu c.V).st else 0),sm,se,o],sS (YX c.V)]/\us.length=8/\ZN us/\ZN [c0,J,O,c3,sa,sm,se,o] /\
   (YX c.V≠0->sa=nS/\sm=nS/\se=nS)/\(YX c.V=0->∀L:LN,(∀b∈L,b<↑w)->Zt L ↑w' sa sm se (Xu c.V)/\Qcj L ↑w' c0 J O (spc c.V).a (fbs (spc c.V)) (unc c.V.ev)):=by
 have h:=h0.up (L':=[]) oe;have ho:Xu c.V=V8 (spc c.V).a (fbs (spc c.V)) (unc c.V.ev):=rfl;have hev:c.V.ev=c.ev:=rfl;have hp:=Qjh (c:=c.V);refine Zh (Xu c.V) λSA hV=>?_;rw[hV]at ho ⊢;refine Zh (YX c.V) λE hE=>?_;rw[hE]at hp ⊢;refine Zh (spc c.V) λS hS=>?_;rw[hS]at hp ho ⊢;rw[hev]at hp ho ⊢;refine Zo func67 ?_;refine Qc<|Zd c.cells λb1 w1 hG g0 hH=>QV [nS,sS 0,nS,nS,nS,nS,nS,nS] λb2 w2 h5 g2 hq=>QV (KZ (nS) (nS) (nS) 0) λb3 w3 hs g3 hu=>Qb ?_;have h6:=(hG.D h5).D hs;have g4:=hG.size;have g5:=hq.lt;have g6:=hu.lt;have hsp:=jy (h.I h6) (hT.I h6);rw[hE,hS]at hsp;refine Qc<|Q7 ((hH.I h5).I hs) Z Z<|Qx<|hsp.S ?_;rintro r4 w4 ⟨hg,v,rfl,⟨us,rfl,h7,h8⟩,hF⟩;have g7:=hg.size;refine Qa<|QU Z Z<|QU Z Z<|QV [nS,sS 0,nS,nS,nS,nS,nS,nS] λb5 w5 hW hX hh=>Qo<|ZM (us:=us) hh Z Z h7 Z h8 λw6 hY hh=>Qb ?_;have Y:sW w4 w6:=hW.O hY hX;have h9:=(h6.D hg).D Y;have hI:=(hq.I (hs.D hg)).I Y;have hJ:=(hu.I hg).I Y;have g8:=hh.lt;refine Qe<|Ql<|ZO Z Z<|xe<|Zg rfl (λhv=>?_) (λhv=>?_)
 ·refine Qc<|x (ZD [] La)<|x (ZD [] La)<|Qa<|Q6 [nS,sS 0,nS,nS,nS,nS,nS,nS] hI ⟨Z,Z,Z,Z,Z,Z,Z,Z,La⟩ λw7 G hZ =>
   Q6 (KZ (nS) (nS) (nS) 0) (hJ.J G om) ⟨Z,Z,Z,Z,Z,Z,Z,Z,Z,La⟩ λw8 hw ga=>Qb<|Qk ⟨[.agg #[nS,sS 0,nS,nS,nS,nS,nS,nS],.agg (KZ (nS) (nS) (nS) 0).toArray,sS E],⟨Kc (hZ.J hw om),Kc ga,Z,La⟩,(h9.O G oa).O hw oa,[nS,sS 0,nS,nS,nS,nS,nS,nS],nS,nS,nS,sS 0,nS,nS,nS,nS,by rw[OZ hv];rfl,Z,⟨Z,Z,Z,Z,Z,Z,Z,Z,La⟩,⟨Z,Z,Z,Z,Z,Z,Z,Z,La⟩,λ_=>⟨Z,Z,Z⟩,λe=>O2 e hv⟩
 have hy:E=0:=Ly.1 hv;obtain⟨gb,gc,ge,g9,hK⟩:=hp hy;obtain⟨va,vm,ve,v1,v2,v3,v4,cos,rqs,gg,_,_,gh⟩:=hF hy;have gi:us=[va,sS S.a.st,vm,ve,v1,v2,v3,v4]:=by
  have h1:=O1 (λv=>match v with|Value.agg a=>a.toList|_=>[]) gg
  simpa using h1
 subst gi;have hM:=(gh [] oe);have gj:=hM.1.I Y;have hN:=hM.2.2.2.2.I Y;refine Qf<|Qc<|Qb<|Qe<|Qc<|Qs Z hh Z Z<|QG hN Z<|Qa<|xe<|QZ (α:=Nat×O8) [(7,7),(9,9),(24,33)] (λz=>[(7,z.2),(24,sS z.1)]) (λz w'=>z.1<=S.fb.length/\sW w6 w'/\Qh 3 ↑w6 w' z.2 ((S.fb.take z.1).map (·.st))) (λz=>S.fb.length - z.1) (0,nS) oy ⟨Lp _,xh.C _ _,QM _ _ _ _⟩ ?_;rintro⟨k,vf⟩ g w7 ⟨hk,G,U⟩;simp only[]at hk U;refine Zj rfl Z (λhA=>?_) (λhA=>?_)
 ·refine Qt ?_;have gk:S.fb.length<=k:=by have hz:¬(k:Int)<(S.fb.length:Int):=hA;omega
  rw[Ls gk]at U;have U:Qh 3 ↑w6 w7 vf (fbs S):=U;have gl:=h9.D G;have gm:=G.size;refine Qc<|Q9 Z<|x (Qj ((hH.I (h5.D hs)).I ((hg.D Y).D G)) Z Z)<|Qx<|(QaX (h.ev.I gl)).S ?_;rintro ka V ⟨ha,vu,rfl,hU⟩;rw[O0 hK]at hU;refine Qa<|QU Z Z<|QU Z Z<|x Qd<|Qb<|Qe<|Ql<|ZO Z Z<|xe<|Zg Z (λgn=>O2 hK gn) (λ_=>?_);refine Qf ?_;have h7:(unc c.ev).length<=1099511627776:=LA (QbF _ c.ev 0) h.ev.arr.le;have he:=G.D ha;have gq:=gj.I he;have h3:sW V { V with drawn:=V.drawn+1 }:=xh.Y _ _
  have hO:=hh.I he;have hP:b5∉[b2]:=om
  have kb:=he.size;refine Qe<|ZJ [b2] (Xk 0 9 [5,6,7])<|pq (λ_ hc=>Zi (hO.J hc hP) Z Z)<|p (QH Z)<|pq (λ_ hc=>ZV (us:=[va,sS S.a.st,vm,ve]) (hO.J hc hP) Z Z Z) <|
   p Qy<|p Qy<|pk<|xg<|(QhB (gq.I h3) gb (((Qh.ints (L:=[]) U oa oe).I ha).I h3) gc ge ((Qh.ints (L:=[]) hU h7 oe).I h3)).S ?_
  rintro kc ke ⟨gr,c0,J,O,c3,sa,sm,se,o,rfl,I,hB⟩;have hj:=h3.D gr;refine⟨hj.any,?_⟩;have hQ:V8 S.a (fbs S) (unc c.ev)=SA:=ho.symm;rw[hQ]at hB;have hf:=(hB [] oe).1;refine pk<|qB [va,sS S.a.st,vm,ve,v1,v2,v3,v4] ((hI.I he).I hj) h8 λkf hm hq=>⟨hj.any.Q hm,?_⟩;refine pkk<|ZM (us:=[c0,J,O,c3,sa,sS SA.st,sm,se,o]) (((hJ.I he).I hj).J hm om) Z (by rw[<-hQ];rfl) Z Z ⟨I.1,I.2.1,I.2.2.1,I.2.2.2.1,hf.al.one,Z,hf.mr.one,hf.ed.one,I.2.2.2.2.1,La⟩ λkg h4 hu=>p ZK<|pe ?_;have gs:b2∉[b3]:=om
  refine Qk ⟨[.agg #[va,sS S.a.st,vm,ve,v1,v2,v3,v4],.agg #[c0,J,O,c3,sa,sS SA.st,sm,se,o],sS 0],⟨Kc (hq.J h4 gs),Kc hu,Z,La⟩,
   (((h9.D he).D hj).O hm oa).O h4 oa,_,c0,J,O,c3,sa,sm,se,o,by rw[hy,O0 rfl];rfl,Z,h8,⟨I.1,I.2.1,I.2.2.1,I.2.2.2.1,hf.al.one,hf.mr.one,hf.ed.one,I.2.2.2.2.1,La⟩,λe=>O2 hy e,λ_ L hL=>?_⟩
  have h1:=hB (b2::b3::L) (λb hb=>by
   have kh:({ V with drawn:=V.drawn+1 }:O7).heap.size=V.heap.size:=rfl
   simp only[oN]at hb;rcases hb with rfl|rfl|hb
   ·omega
   ·omega
   have:=hL b hb;omega)
  exact⟨((h1.1.st (hm.S oe)).st (h4.S oe)).up (λb hb=>.inl (by simp[hb])),((h1.2.st (hm.S oe)).st (h4.S oe)).up (λb hb=>.inl (by simp[hb]))⟩
 refine Qf ?_;have hn:k<S.fb.length:=by have hz:(k:Int)<(S.fb.length:Int):=hA;omega
 have hR:S.fb.take (k+1)=S.fb.take k++[S.fb[k]'hn]:=Ln hn;have ki:((S.fb.take k).map (·.st)).length=k:=by rw[Lo,LG];omega
 refine Zh (S.fb[k]'hn) λr hr=>?_;rw[hr]at hR;refine Qe<|Qn<|Qc<|xp (g:=Z5) (i:=k) st4 (hN.I G) Z Z hn λkj hz=>?_;rw[hr]at hz;refine x (QF hz Z Z)<|QV [sS 0,sS 0,sS 0,sS 0] λb9 w8 hw gt hC=>Q6 (Z5 r) hC oA λw9 gu hC=>xe ?_;have hD:sW w7 w9:=hw.O gu gt;have kk:=hD.size;have gm:=G.size;refine Qr<|Qa<|Qs Z hC Z Z<|Qo<|Q5 [[sS r.st]] λkn V ha ko gv =>
  Qo<|Q2 (m:=1) (news:=[sS r.st]) (L:=[]) (Qm U (hD.D ha)) Z Z Z (gv.at oe) oo oa (oq ha.size) λgx kq gy gz kr=>Qb<|Qr<|QB Z Z<|Qa<|xe ?_
 refine⟨(k+1,gx),og,oy,hn,((G.D hD).D ha).Z gz (λb hb=>.inr (Qi U b hb).1),?_⟩;simp only[];rw[hR,Lv];exact Qh.snoc gy
theorem VZ (h0:Yc L ↑w c)(hh:Kb w 4096):
  QT sV 29 [c.val] w λr w'=>sW w w'/\∃sa sm se,r=.tuple #[.agg #[sa,sS (if YX c.V=0 then(Xu c.V).st else 0),sm,se],sS (suE c.V)]/\ZN [sa,sm,se] /\
   (suE c.V≠0->sa=nS/\sm=nS/\se=nS)/\(suE c.V=0->∀L:LN,(∀b∈L,b<↑w)->Zt L ↑w' sa sm se (Xu c.V)):=by
 have hj:suE c.V=YX c.V:=rfl;rw[hj];refine Zo func29 ?_;refine Qc<|Zd c.cells λb1 w1 V hv hk=>QV [nS,sS 0,nS,nS] λb2 w2 Y hw I=>Qb ?_;have J:=V.D Y;have hy:=V.size;have hz:=I.lt;refine Qc<|Q7 (hk.I Y) Z Z<|Qx<|(Qev ((h0.up (L':=[]) oe).I J) (hh.I J)).S ?_;rintro r3 w3 ⟨ha,us,c0,c1,c2,c3,sa,sm,se,o,rfl,hm,hn,G,ho,hp⟩;refine Zh (if YX c.V=0 then(Xu c.V).st else 0) λN hN=>?_
 rw[hN];refine Qa<|QU Z Z<|QU Z Z<|QU Z Z<|QV [nS,sS 0,nS,nS,nS,nS,nS,nS] λb4 w4 hq h3 O=>QV (KZ (nS) (nS) (nS) 0) λb5 w5 he h4 hr =>
  Qo<|ZM (us:=us) (O.I he) Z Z hm Z hn λw6 hf h5=>Q6 [c0,c1,c2,c3,sa,sS N,sm,se,o] (hr.J hf (by have:=O.lt;simp only[oH];omega)) ⟨G.1,G.2.1,G.2.2.1,G.2.2.2.1,G.2.2.2.2.1,Z,G.2.2.2.2.2.1,G.2.2.2.2.2.2.1,G.2.2.2.2.2.2.2.1,La⟩ λw7 hs hu=>Qb ?_
 have h6:=O.lt;have U:sW w3 w7:=((hq.D he).O hf oa).O hs oa;refine Qc<|Q9 Z<|x (ZV (us:=[sa,sS N,sm,se]) hu Z Z Z)<|Qa<|Q6 [sa,sS N,sm,se] ((I.I ha).I U) ⟨G.2.2.2.2.1,Z,G.2.2.2.2.2.1,G.2.2.2.2.2.2.1,La⟩ λw8 hg I=>Qb<|Qk ⟨[.agg #[sa,sS N,sm,se],sS (YX c.V)],⟨Kc I,Z,La⟩,((J.D ha).D U).O hg oa,sa,sm,se,Z,⟨G.2.2.2.2.1,G.2.2.2.2.2.1,G.2.2.2.2.2.2.1,La⟩,ho,λe L hL=>?_⟩;have h1:=hp e (b2::L) (λb hb=>by
  simp only[oN]at hb;rcases hb with rfl|hb
  ·omega
  have:=hL b hb;omega)
 exact((h1.1.I U).st (hg.S oe)).up (λb hb=>.inl (by simp[hb]))
section
variable {s:Qz}{l:List Uq}
end
section
variable {s:Qz}{l:List Uq}
end
section
variable {s:Qz}{l:List Uq}
end
section
variable {p s:Qz}{pairs:List (LI)}
end
section
variable {s:Qz}{l:List Uq}
end
section
variable {s:Qz}{l:List Uq}{nm:LI}
end
def cnF (ord:LI)(j:Nat)(e:Ed):Ed:=((j:Int),e.2.1,(ord.idxOf e.2.2:Int))
def cnR (a:Qz)(ord:LI)(j:Nat):List Ed:=(QK a.ed (ZZ ord j)).map (cnF ord j)
theorem Qdp {l:LI}(h:j<l.length):ZZ (l++r) j=ZZ l j:=by unfold ZZ;rw[MD];exact jp h
structure NuI (st:Int)(ord num:LI):Prop where
 nd:ord.Nodup
 bd:∀s∈ord,0<=s/\s<st
 nl:num.length=st.toNat
 nu:∀k,0<=k->k<st->ZZ num k=if k∈ord then(ord.idxOf k:Int) else -1
theorem Qez {st:Int}{c:Cs}(h:NuI st c.ord c.num){e:Ed}(U:0<=e.2.2)(h1:e.2.2<st):NuI st (Zs i c e).ord (Zs i c e).num/\(∃r,(Zs i c e).ord=c.ord++r)/\(Zs i c e).mk'=c.mk'/\(Zs i c e).ed=c.ed++[cnF (Zs i c e).ord i e]/\e.2.2∈(Zs i c e).ord:=by
 have I:=h.nu e.2.2 U h1;have Y:e.2.2.toNat<c.num.length:=by rw[h.nl];omega
 unfold Zs;by_cases J:e.2.2∈c.ord
 ·rw[O0 J]at I;rw[OZ (by rw[I];omega)];refine⟨h,⟨[],oe⟩,rfl,?_,J⟩;simp only[cnF];rw[I]
 rw[OZ J]at I;rw[O0 (by rw[I];decide)];have V:(c.ord++[e.2.2]).idxOf e.2.2=c.ord.length:=by rw[Me,OZ J];simp
 refine⟨⟨Y6 h.nd J,λs G=>?_,by simp[h.nl],λk k0 k1=>?_⟩,⟨[e.2.2],rfl⟩,rfl,?_,oe⟩
 ·rcases Lk.1 G with G|G
  ·exact h.bd s G
  simp only[oH]at G;subst G;exact⟨U,h1⟩
 ·simp only[];by_cases ek:k=e.2.2
  ·subst ek;rw[O0 oe,V];unfold ZZ;simp[oQ,List.getElem?_set_self Y]
  have ha:e.2.2.toNat≠k.toNat:=oa
  have e1:ZZ (c.num.set e.2.2.toNat c.ord.length) k=ZZ c.num k:=by unfold ZZ;simp[oQ,List.getElem?_set_ne ha]
  rw[e1,h.nu k k0 k1];by_cases O:k∈c.ord
  ·rw[O0 O,O0 (LH _ O),Me,O0 O]
  rw[OZ O,OZ (λhe=>by
   rcases Lk.1 he with h2|h2
   ·exact O h2
   simp only[oH]at h2;exact ek h2)]
 simp only[cnF];rw[V]
theorem yb {st:Int}{i:Nat}:∀(es:List Ed) (c:Cs),NuI st c.ord c.num->(∀e∈es,0<=e.2.2/\e.2.2<st)->NuI st (es.foldl (Zs i) c).ord (es.foldl (Zs i) c).num/\(∃r,(es.foldl (Zs i) c).ord=c.ord++r)/\(es.foldl (Zs i) c).mk'=c.mk' /\
  (es.foldl (Zs i) c).ed=c.ed++es.map (cnF (es.foldl (Zs i) c).ord i)/\∀e∈es,e.2.2∈(es.foldl (Zs i) c).ord
 | [],c,h,_=>⟨h,⟨[],oe⟩,rfl,oe,λe I=>by cases I⟩
 | e::es,c,h,hb=>by
  obtain⟨J,O⟩:=hb e Lh;obtain⟨h1,⟨U,h2⟩,V,Y,G⟩:=Qez (i:=i) h J O;obtain⟨k1,⟨r2,k2⟩,k3,k4,k5⟩:=yb (i:=i) es (Zs i c e) h1 (λd hd=>hb d (Lj _ hd));rw[LP];refine⟨k1,⟨U++r2,by rw[k2,h2,LB]⟩,k3.D V,?_,λd hd=>?_⟩
  ·rw[k4,Y,LB,L2];have:cnF (Zs i c e).ord i e=cnF (es.foldl (Zs i) (Zs i c e)).ord i e:=by
    unfold cnF;rw[k2,Me,O0 G]
   rw[this];rfl
  rcases Ll.1 hd with rfl|hd
  ·rw[k2];exact LH _ G
  exact k5 d hd
structure CnG (a:Qz)(i:Nat)(c:Cs):Prop where
 nu:NuI a.st c.ord c.num
 le:i<=c.ord.length
 hd:ZZ c.ord 0=0/\0<c.ord.length
 mk2:c.mk'=((oP 0 i).filter λj:Nat=>decide (ZZ c.ord j∈a.mr)).map λj:Nat=>(j:Int)
 ed:c.ed=(oP 0 i).flatMap (cnR a c.ord)
 cl:∀j,j<i->∀e∈QK a.ed (ZZ c.ord j),e.2.2∈c.ord
theorem QoA {ord:LI}(G:j<ord.length)(hc:∀e∈QK a.ed (ZZ ord j),e.2.2∈ord):cnR a (ord++r) j=cnR a ord j:=by
 unfold cnR;rw[Qdp G];refine List.map_congr_left λe I=>?_;unfold cnF;rw[Me,O0 (hc e I)]
theorem CnG.next (Y:QO a){c:Cs}(h:CnG a i c)(hi:i<c.ord.length):CnG a (i+1) (zp a i c):=by
 unfold zp;have O:(Ym a i c).ord=c.ord:=by unfold Ym;split <;> rfl
 have ha:(Ym a i c).num=c.num:=by unfold Ym;split <;> rfl
 have hf:(Ym a i c).ed=c.ed:=by unfold Ym;split <;> rfl
 obtain⟨k1,⟨r,k2⟩,k3,J,U⟩:=yb (st:=a.st) (i:=i) (QK a.ed (ZZ c.ord i)) (Ym a i c) (by rw[O,ha];exact h.nu) (λe he=>(Y.ed e (Zx he).1).2.2.2);generalize (QK a.ed (ZZ c.ord i)).foldl (Zs i) (Ym a i c)=d at k1 k2 k3 J U;rw[O]at k2;rw[hf]at J;have pre:∀j:Nat,j<=i->ZZ d.ord j=ZZ c.ord j:=λj G=>by rw[k2];exact Qdp oa
 refine⟨k1,by rw[k2];simp;omega,⟨by have:=pre 0 oa;rw[show((0:Nat):Int)=0 from rfl]at this;rw[this];exact h.hd.1,by rw[k2];simp;omega⟩,?_,?_,λj G=>?_⟩
 ·rw[k3,Ms,LW,Lv,LY];have e1:((oP 0 i).filter λj:Nat=>decide (ZZ d.ord j∈a.mr))=(oP 0 i).filter λj:Nat=>decide (ZZ c.ord j∈a.mr):=by
   refine NH λj G=>?_;rw[L4]at G;rw[pre j oa]
  rw[e1];unfold Ym;by_cases I:ZZ c.ord i∈a.mr
  ·rw[O0 I];simp only[];rw[L9,O0 (by rw[pre i (Lr _)];exact O3 I),MT,h.mk2];rfl
  rw[OZ I];rw[L9,OZ (by rw[pre i (Lr _),O5 I];simp),MT,h.mk2];simp
 ·rw[J,Ms,LJ,LY,h.ed];congr 1
  ·refine Y9 λj G=>?_;rw[L4]at G;rw[k2];exact(QoA oa (h.cl j oa)).symm
  simp only[oV,OP,Oq];unfold cnR;rw[pre i (Lr _)]
 by_cases e:j=i
 ·subst e;rw[pre j (Lr _)];exact U
 intro d' V;rw[pre j oa]at V;rw[k2];exact LH _ (h.cl j oa d' V)
theorem qR {a:Qz}(I:QO a):∀(f i:Nat) (c:Cs),CnG a i c->∃G,CnG a G (Xg a f i c)/\((Xg a f i c).ord.length=G\/G=i+f)
 | 0,i,c,h=>⟨i,h,.inr Z⟩
 | f+1,i,c,h=>by
  rw[Xg];split
  ·rename_i hi;obtain⟨G,h1,h2⟩:=qR I f (i+1) _ (h.next I hi);exact⟨G,h1,oa⟩
  exact⟨i,h,.inl (oq h.le)⟩
structure CnP (a:Qz)(ord:LI):Prop where
 nd:ord.Nodup
 bd:∀s∈ord,0<=s/\s<a.st
 hd:ZZ ord 0=0/\0<ord.length
 al:(Yz a).al=a.al
 st:(Yz a).st=(ord.length:Int)
 mk2:(Yz a).mr=((oP 0 ord.length).filter λj:Nat=>decide (ZZ ord j∈a.mr)).map λj:Nat=>(j:Int)
 ed:(Yz a).ed=(oP 0 ord.length).flatMap (cnR a ord)
 cl:∀j,j<ord.length->∀e∈QK a.ed (ZZ ord j),e.2.2∈ord
theorem Qik (J:QO a)(h0:0<a.st):∃ord,CnP a ord:=by
 have O:0<a.st.toNat:=oa
 have hI:CnG a 0 (Z3 a):=by
  refine⟨⟨by simp[Z3],λs I=>by simp[Z3]at I;subst I;omega,by simp[Z3],λk k0 k1=>?_⟩,Lp _,⟨by simp[Z3,ZZ],by simp[Z3]⟩,by simp[Z3],by simp[Z3],λj hj=>oa⟩;by_cases ek:k=0
  ·subst ek;rw[O0 (by simp[Z3])];unfold ZZ Z3;simp[oQ,O]
  rw[OZ (by simpa[Z3]using ek)];unfold Z3;have U:0≠k.toNat:=oa
  have V:k.toNat<a.st.toNat:=oa
  unfold ZZ;rw[LU,MP U];simp[V]
 obtain⟨Y,h1,h2⟩:=qR J a.st.toNat 0 (Z3 a) hI;have ha:(Xg a a.st.toNat 0 (Z3 a)).ord.length<=a.st.toNat:=xN _ _ h1.nu.nd (λx hx=>oq (h1.nu.bd x hx));have hi':Y=(Xg a a.st.toNat 0 (Z3 a)).ord.length:=by have:=h1.le;omega
 subst hi';have G:Yz a=⟨a.al,((Xg a a.st.toNat 0 (Z3 a)).ord.length:Int),(Xg a a.st.toNat 0 (Z3 a)).mk',(Xg a a.st.toNat 0 (Z3 a)).ed⟩:=by unfold Yz;rw[OZ oa]
 refine⟨(Xg a a.st.toNat 0 (Z3 a)).ord,h1.nu.nd,h1.nu.bd,h1.hd,by rw[G],by rw[G],?_,?_,h1.cl⟩
 ·rw[G];exact h1.mk2
 rw[G];exact h1.ed
theorem Qlo (es:List Ed)(s v:Int):xw es s v=xw (QK es s) s v:=by
 induction es with
 | nil=>rfl
 | cons e es ih =>
  unfold QK at *;rw[L9];by_cases h:e.1=s
  ·rw[O0 (ox h),xw,xw,ih]
  rw[OZ (ox h),xw,OZ (λc=>h c.1),ih]
theorem Qlp {ord:LI}(v:Int):xw (cnR a ord j) j v=(xw a.ed (ZZ ord j) v).map λu=>(ord.idxOf u:Int):=by
 rw[Qlo a.ed];unfold cnR;have key:∀(l:List Ed),(∀e∈l,e.1=ZZ ord j)->xw (l.map (cnF ord j)) j v=(xw l (ZZ ord j) v).map λu=>(ord.idxOf u:Int):=by
  intro l;induction l with
  | nil=>intro _;rfl
  | cons e l ih =>
   intro hl;rw[L2,xw,xw];have I:=hl e Lh;by_cases G:e.2.1=v
   ·rw[O0 ⟨rfl,G⟩,O0 ⟨I,G⟩];rfl
   rw[OZ (λc=>G c.2),OZ (λc=>G c.2)];exact ih (λd hd=>hl d (Lj _ hd))
 exact key _ (λe I=>(Zx I).2)
theorem Qfe {ord:LI}(h:j≠i)(v:Int):xw (cnR a ord j) i v=none:=by
 refine VM λe G h2=>?_;unfold cnR at G;obtain⟨d,_,rfl⟩:=Lu.1 G;have:(j:Int)=i:=h2.1;omega
theorem CnP.J {ord:LI}(h:CnP a ord)(I:j<ord.length)(v:Int):xw (Yz a).ed j v=(xw a.ed (ZZ ord j) v).map λu=>(ord.idxOf u:Int):=by
 rw[h.ed];have key:∀n,j<n->xw ((oP 0 n).flatMap (cnR a ord)) j v=xw (cnR a ord j) j v:=by
  intro n;induction n with
  | zero=>intro h;omega
  | succ n ih =>
   intro O;rw[Ms,LJ,LY,zb];simp only[oV,OP,Oq];by_cases e:j=n
   ·subst e;have:xw ((oP 0 j).flatMap (cnR a ord)) j v=none:=VM λd hd h2=>by
     obtain⟨k,J,G⟩:=Mg.1 hd;rw[L4]at J;unfold cnR at G;obtain⟨U,_,rfl⟩:=Lu.1 G;have:(k:Int)=j:=h2.1;omega
    rw[this]
   rw[ih oa,Qfe (Ne.symm e)];cases xw (cnR a ord j) j v <;> rfl
 rw[key _ I];exact Qlp v
section
variable {p s:Qz}{pn xn v:Int}
end
section
variable {s:Qz}{l:List Uq}
end
theorem Qil (G:QO a):QO (Yz a):=by
 have h0:=G.st0;have h1:=G.st1;by_cases hz:a.st=0
 ·unfold Yz;rw[O0 hz];exact⟨G.al,G.ali,oe,oe,oe,oe,oe,oe⟩
 obtain⟨ord,h⟩:=Qik G oa;have hl:ord.length<=a.st.toNat:=xN _ _ h.nd (λx hx=>oq (h.bd x hx));refine⟨by rw[h.al];exact G.al,by rw[h.al];exact G.ali,by rw[h.st];omega,by rw[h.st];omega,λs J=>?_,?_,λe U=>?_,?_⟩
 ·rw[h.mk2]at J;simp only[Oj,Of,Od]at J;obtain⟨i,⟨hi,_⟩,rfl⟩:=J;rw[h.st];omega
 ·rw[h.mk2];unfold YD;rw[Mi];refine List.Pairwise.sublist MU ?_;exact(Nb (s:=0) (n:=ord.length)).imp (λh=>oa)
 ·rw[h.ed]at U;obtain⟨j,O,hd⟩:=Mg.1 U;rw[L4]at O;unfold cnR at hd;obtain⟨d,V,rfl⟩:=Lu.1 hd;have:=Md (h.cl j oa d V);rw[h.st,h.al];unfold cnF;exact⟨og,og,((G.ed d (Zx V).1).2.2.1),og,og⟩
 rw[h.ed];have key:∀n,((oP 0 n).flatMap (cnR a ord)).Pairwise λx y:Ed=>x.1<y.1\/(x.1=y.1/\x.2.1<y.2.1):=by
  intro n;induction n with
  | zero=>simp
  | succ n ih =>
   rw[Ms,LJ,LY,Mt];refine⟨ih,?_,λx hx y I=>?_⟩
   ·simp only[oV,OP,Oq];unfold cnR;rw[Mi];have h2:(QK a.ed (ZZ ord n)).Pairwise λx y:Ed=>x.1<y.1\/(x.1=y.1/\x.2.1<y.2.1):=List.Pairwise.sublist MU G.edi;refine List.Pairwise.imp_of_mem (λ{x y} hx I ha=>?_) h2;have e1:=(Zx hx).2;have e2:=(Zx I).2;right;exact⟨Z,by show x.2.1<y.2.1;omega⟩
   obtain⟨j,O,Y⟩:=Mg.1 hx;rw[L4]at O;simp only[oV,OP,Oq]at I;unfold cnR at Y I;obtain⟨d,_,rfl⟩:=Lu.1 Y;obtain⟨d',_,rfl⟩:=Lu.1 I;left;show(j:Int)<(n:Int);omega
 exact key _
theorem QhS (G:QO a):QO ⟨a.al,0,[],[]⟩:=
 ⟨G.al,G.ali,MA _,(by decide:(0:Int)<=4096),(λs I=>by cases I),List.Pairwise.nil,(λe J=>by cases J),List.Pairwise.nil⟩
theorem j9 (G:QO a)(lf:Lf):QO (jK a lf):=by
 unfold jK;split
 ·exact QhS G
 exact Qil (Kl G lf)
theorem Ki {c:ZS}(h:suE c=0):QO (Xu c):=j9 (Qjh h).1 _
theorem QmU {l:List Qz}(h:KM l=0):xx l=some (Jc l,syQ l)/\K4 l=0:=by
 unfold KM at h;by_cases h1:K4 l≠0
 ·rw[O0 h1]at h;exact O2 h h1
 rw[OZ h1]at h;refine⟨?_,Ly.1 h1⟩;unfold Jc syQ;cases G:xx l with
 | none=>rw[G]at h;cases h
 | some z=>rfl
theorem QcJ {κ:Type}[DecidableEq κ]{l:List κ}{s:κ}(h:s∉l):xu (l.map λs=>(s,Value.bool true)) s (.bool true)=(l++[s]).map λs=>(s,Value.bool true):=by
 induction l with
 | nil=>rfl
 | cons a l ih =>
  have h1:a≠s:=λe=>h (by subst e;exact Lh);show(if a=s then(a,Value.bool true)::(l.map λs=>(s,Value.bool true)) else(a,Value.bool true)::xu (l.map λs=>(s,Value.bool true)) s (.bool true))=_
  rw[OZ h1,ih (λG=>h (Lj _ G))];rfl
theorem Qjk {κ:Type}[DecidableEq κ](l:List κ)(s:κ):xt (l.map λs=>(s,Value.bool true)) s=if s∈l then some (.bool true) else none:=by
 induction l with
 | nil=>rfl
 | cons a l ih =>
  show(if a=s then some (Value.bool true) else xt (l.map λs=>(s,Value.bool true)) s)=_
  rw[ih];by_cases h:a=s
  ·subst h;simp
  rw[OZ h];have G:¬s=a:=λe=>h e.symm;simp[G]
section
variable {κ:Type}[DecidableEq κ]
theorem qv [hm:Mp P t kt et (.bool false)]{enc:κ->O8}[hk:Key P kt enc]{x:O9}{b:Nat}{l:List κ}{s:κ}(h:ZU enc ↑w b (l.map λs=>(s,Value.bool true)))(hx:ev f x=.map (some b))(G:ev f y=enc s):
  (execOp (ev f) ⟨d,.lookup t x y false,ty,pS,af,gd⟩).run P w=.ok (.value (.bool (decide (s∈l)))) w:=by
 rw[Jw h hx G,Qjk];by_cases I:s∈l <;> simp[I]
end
section
variable {κ:Type}{enc:κ->O8}
abbrev setM (K:List κ):List (κ×O8):=K.map λs=>(s,Value.bool true)
def X0 (enc:κ->O8)(H:xH)(b:Nat)(l:List κ):Prop:=∃K:List κ,ZU enc H b (setM K)/\∀x,x∈K↔x∈l
theorem X0.lt {H:xH}{b:Nat}{l:List κ}(h:X0 enc H b l):b<H.size:=let⟨_,h1,_⟩:=h;h1.lt
theorem X0.J {X:LN}{w w':O7}{b:Nat}{l:List κ}(h:X0 enc ↑w b l)(G:xh X w w')(hb:b∉X):X0 enc ↑w' b l:=let⟨K,h1,h2⟩:=h;⟨K,h1.J G hb,h2⟩
theorem X0.I {b:Nat}{l:List κ}(h:X0 enc ↑w b l)(G:sW w w'):X0 enc ↑w' b l:=h.J G oe
theorem X0.zero {H:xH}{b:Nat}(h:ZU enc H b []):X0 enc H b []:=⟨[],h,λ_=>Iff.rfl⟩
theorem QcK [DecidableEq κ]{k:κ}:∀{K:List κ},k∈K->xu (setM K) k (.bool true)=setM K
 | [],h=>by cases h
 | a::K,h=>by
  show(if a=k then(a,Value.bool true)::setM K else(a,Value.bool true)::xu (setM K) k (.bool true))=_
  by_cases e:a=k
  ·rw[O0 e];rfl
  rw[OZ e,QcK ((Ll.1 h).resolve_left (λh=>e h.symm))];rfl
theorem X0.put [DecidableEq κ]{H:xH}{b:Nat}{l K:List κ}{k:κ}(h:ZU enc H b (xu (setM K) k (.bool true)))(h2:∀x,x∈K↔x∈l):X0 enc H b (l++[k]):=by
 by_cases G:k∈K
 ·rw[QcK G]at h;refine⟨K,h,λx=>?_⟩;rw[Lk,Lc,<-h2 x];exact⟨.inl,λhx=>hx.elim id λe=>e ▸ G⟩
 refine⟨K++[k],?_,λx=>by rw[Lk,Lk,h2 x]⟩;rw[QcJ G]at h;exact h
end
section
variable {κ:Type}[DecidableEq κ]{enc:κ->O8}{x:O9}{b:Nat}{l:List κ}{k:κ}
theorem Qbg [hm:Mp P t kt et (.bool false)][hk:Key P kt enc](h:X0 enc ↑w b l)(hx:ev f x=.map (some b))(G:ev f y=enc k):(execOp (ev f) ⟨d,.lookup t x y false,ty,pS,af,gd⟩).run P w=.ok (.value (.bool (decide (k∈l)))) w:=by
 obtain⟨K,h1,h2⟩:=h;rw[qv h1 hx G,bD (h2 k)]
theorem yy [hm:Mp P t kt et (.bool false)][hk:Key P kt enc]{v:O9}(h:X0 enc ↑w b l)(hx:ev f x=.map (some b))(I:ev f y=enc k)(J:ev f v=.bool true)
  (hK:∀w',xh [b] w w'->X0 enc ↑w' b (l++[k])->K (QP f d undef) w'):XO P ⟨d,.mapUpdate t x y v,ty,pS,af,gd⟩ f w K:=by
 obtain⟨K,h1,h2⟩:=h;exact YU h1 hx I λw' O G=>hK w' O (X0.put (by rw[J]at G;exact G) h2)
theorem Qbs [hm:Mp P t kt et (.bool false)][hk:Key P kt enc]{v:O9}(h:X0 enc ↑w b l)(hx:ev f x=.map (some b))(I:ev f y=enc k)(J:ev f v=.bool true)
  (hK:∀w',xh [b] w w'->X0 enc ↑w' b (l++[k])->K (QP f d undef) w'):XO P ⟨d,.insert t x y v,ty,pS,af,gd⟩ f w K:=by
 obtain⟨K,h1,h2⟩:=h;exact Yw h1 hx I λw' O G=>hK w' O (X0.put (by rw[J]at G;exact G) h2)
end
instance ayYv1:Ay sV 156 2 3 1:=⟨od,od⟩
def qQ:List Qz->Int
 | []=>0
 | a::l=>if Jg a≠0 then Jg a else qQ l
def QlT (kd:Int)(l:List Qz):Int:=if qQ l≠0 then qQ l else if kd≠1/\kd≠2 then 11 else 0
theorem Qst (a b:Qz)(kd:Int):QlT kd [a,b]=lgE a b kd:=by
 unfold QlT lgE qQ;by_cases h1:Jg a≠0
 ·simp only[O0 h1]
 rw[OZ h1,OZ h1];unfold qQ;by_cases h2:Jg b≠0
 ·simp only[O0 h2]
 rw[OZ h2,OZ h2];unfold qQ;simp
theorem QeV {v:O8}{ps:List AV}(h0:Ja L ↑w v ps)(kd:Int):
  QT sV 68 [sS kd,v] w λr w'=>r=sS (QlT kd (ps.map (·.a)))/\sW w w':=by
 have h:=h0.up (L':=[]) oe;have h4:=h.arr.le;have G:QlT kd (ps.map (·.a))=if qQ (ps.map (·.a))≠0 then qQ (ps.map (·.a)) else if kd≠1/\kd≠2 then 11 else 0:=rfl
 refine Zh (QlT kd (ps.map (·.a))) λE hE=>?_;rw[hE]at G ⊢;refine Zo func68 ?_;refine Qc<|Qb<|Qe<|Ql<|QG h.arr Z<|Qa<|xe<|QZ (α:=Nat) [(4,4),(6,7),(10,19)] (λz=>[(10,sS z)]) (λz w'=>z<=ps.length/\sW w w'/\qQ ((ps.drop z).map (·.a))=qQ (ps.map (·.a))) (λz=>ps.length - z) 0 Lb ⟨Lp _,xh.C _ _,Z⟩ ?_;rintro k g w1 ⟨hk,I,hk1⟩;refine Zj rfl Z (λV=>?_) (λV=>?_)
 ·refine Qt ?_;have hn:ps.length<=k:=by have ho:¬(k:Int)<(ps.length:Int):=V;omega
  rw[Lx hn]at hk1;have hz:qQ (ps.map (·.a))=0:=hk1.symm;rw[OZ (ox hz)]at G;refine Qe<|QY (α:=Bool) [(20,25)] (λz=>[(25,.bool z)]) (λz w'=>w'=w1/\z=decide (kd≠1/\kd≠2)) ol ?_ ?_
  ·refine Qr<|Qa<|xb (Vf Z Z) (λY=>?_) (λY=>?_)
   ·refine Qa<|Qa<|ZO Z Z<|QE Z<|xe ?_;have ha:¬kd=1:=Y;exact⟨decide (¬kd=2),Lb,Z,by simp[ha]⟩
   refine Qa<|YT<|QE Z<|xe ?_;have ha:kd=1:=Ly.1 Y;exact⟨false,Lb,Z,by simp[ha]⟩
  rintro z g w2 ⟨rfl,hf⟩;refine Q8 Z (λhe=>?_) (λhe=>?_)
  ·rw[O0 (O4 (hf.symm.D he))]at G;subst G;refine Qc<|Qb<|Qk ⟨[_],Lb,Z,I⟩
  rw[OZ (O6 (hf.symm.D he))]at G;subst G;refine Qf<|Qc<|Qb<|Qk ⟨[_],Lb,Z,I⟩
 have J:k<ps.length:=by have ho:(k:Int)<(ps.length:Int):=V;omega
 have hg:=Lm J;rw[Mh J,L2,qQ]at hk1;refine Qf<|Qe<|Qn<|Qc<|xp (g:=ZI) (i:=k) Ui (h.I I).arr Z Z J λh5 hh=>?_;refine Zh (ps[k]'J) λq hq=>?_;rw[hq]at hh hg hk1;have O:=(h.I I).each q hg;refine x (QF hh Z Z)<|QV [nS,sS 0,nS,nS] λb6 w3 hp hs hu=>Q6 (ZI q) hu ⟨O.al.one,Z,O.mr.one,O.ed.one,La⟩ λw4 hv hw =>
  xe ?_
 have hj:sW w1 w4:=hp.O hv hs;refine Qc<|Q7 hw Z Z<|Qx<|(Xb (O.I hj)).S ?_;rintro r5 w5 ⟨rfl,hy⟩;refine Qb ?_;have hm:=(I.D hj).D hy;refine Ql<|ZO Z Z<|xe<|Zg rfl (λU=>?_) (λU=>?_)
 ·rw[O0 U]at hk1;have h3:qQ (ps.map (·.a))≠0:=by rw[<-hk1];exact U
  rw[O0 h3,<-hk1]at G;subst G;refine Ql<|Qb<|Qk ⟨[_],Lb,Z,hm⟩
 rw[OZ U]at hk1;refine Qf<|Qr<|QB Z Z<|Qa<|xe ?_;exact⟨k+1,oa,Lb,J,hm,hk1⟩
abbrev stI (l:LI):List (Int×O8):=l.map λs=>(s,Value.bool true)
structure Mch (H:xH)(b m1 m2:Nat)(a:Qz):Prop where
 B:QL H b 251 [.map (some m1),.map (some m2),sS (fst a)]
 e:ZU Yr H m1 (K3 [] a.ed)
 m:ZU XR H m2 (stI a.mr)
theorem Mch.J {X:LN}{w w':O7}{b G I:Nat}{a:Qz}(h:Mch ↑w b G I a)(J:xh X w w')(O:b∉X)(h1:G∉X)(h2:I∉X):Mch ↑w' b G I a:=⟨h.B.J J O,h.e.J J h1,h.m.J J h2⟩
theorem Mch.I {b I:Nat}(h:Mch ↑w b G I a)(J:sW w w'):Mch ↑w' b G I a:=h.J J oe oe oe
theorem Qax {b J O:Nat}(h:Mch ↑w b J O a)(U:QO a)(s v:Int):
  QT sV 145 [sP b,sS s,sS v] w λr w'=>r=sS (nxt a.ed s v)/\sW w w':=by
 have G:nxt a.ed s v=(if(xw a.ed s v).isSome=true then(xw a.ed s v).getD 0 else -1):=by rw[Kq];cases xw a.ed s v <;> rfl
 refine Zo func145 ?_;refine Qc<|Qb<|Qe<|Ql<|Z7 Z<|Qs Z h.B Z Z<|Qa<|Qa<|x (QC ⟨Z,Z,La⟩)<|x (Qnb (s:=a) (q:=s) (v:=v) h.e U.edi Z Z) <|
  Qa<|QU rfl Z<|QU Z Z<|x Qd<|Qb<|Ql<|xe ?_
 refine Zg rfl (λI=>?_) (λI=>?_)
 ·rw[O0 I]at G;refine Ql<|Qb<|Qk ⟨[_],Lb,by rw[G];rfl,xh.C _ _⟩
 rw[OZ I]at G;refine Qf<|Qc<|Qb<|Qk ⟨[_],Lb,by rw[G];rfl,xh.C _ _⟩
theorem QgC {b V:Nat}(h:Mch ↑w b U V a)(s kd:Int):
  QT sV 73 [sP b,sS s,sS kd] w λr w'=>r=.bool (UO a kd s)/\sW w w':=by
 refine Zo func73 ?_;refine Qc<|Qb<|QY (α:=Bool) [(6,20)] (λz=>[(6,.bool z)]) (λz w'=>w'=w/\z=UO a kd s) ol ?_ ?_
 ·refine Qr<|Qa<|xb (Yl Z Z) (λG=>?_) (λG=>?_)
  ·have I:0<=s:=G;refine Qa<|Qa<|xb (Zc Z Z) (λJ=>?_) (λJ=>?_)
   ·refine Qa<|Zz<|Zz<|QE Z<|QE Z<|Qb ?_;have O:kd=1:=J;exact⟨true,Lb,Z,by simp[UO,I,O]⟩
   have O:¬kd=1:=J;refine Qa<|Qa<|Z7 Z<|Qs Z h.B Z Z<|Qa<|x (qv (s:=s) h.m Z Z)<|QE Z<|x (Ua Z) <|
    Qb<|⟨decide (s∈a.mr),Lb,Z,by simp[UO,I,O]⟩
  have I:¬0<=s:=G;refine Qa<|Zz<|Zz<|Zz<|Kg<|QE Z<|x Qd <|
   xe ?_
  exact⟨false,Lb,Z,by simp[UO];omega⟩
 rintro z g Y ⟨rfl,rfl⟩;exact Qk ⟨[_],Lb,Z,xh.C _ _⟩
theorem Qkt {b10 O b11 hg hh V hj hk:Nat}{b:Qz}(hm:QL ↑w b10 152 [sP U])(hn:QL ↑w b11 152 [sP V])
  (Y:QL ↑w O 3 [sS kd]) (ha:Mch ↑w U hg hh a) (hb:Mch ↑w V hj hk b) (s t:Int):
  QT sV 72 [.agg #[sS s,sS t],sP b10,sP O,sP b11] w λr w'=>r=.bool (!(UO a kd s == UO b kd t))/\sW w w':=by
 refine Zo func72 ?_;refine Qc<|Zd [sS s,sS t] λb4 J G ho he=>Qb ?_;have hd:sW J { J with drawn:=J.drawn+1 }:=xh.Y _ _
 refine Qe<|ZJ [] [oB 0,oB 1,oB 2,oB 3,oB 5,oB 6,oB 7,oB 8,oC 4,oC 9,oB 10,oB 11]<|pq (λ_ hc=>Qj ((hm.I G).I hc) Z Z)<|p (λ_=>ZW (i:=0) Z Z oh)<|pq (λ_ hc=>Qj (he.I hc) Z Z)<|pq (λ_ hc=>Qj ((Y.I G).I hc) Z Z)<|pq (λ_ hc=>Qj ((hn.I G).I hc) Z Z) <|
  p (λ_=>ZW (i:=1) Z Z oh)<|pq (λ_ hc=>Qj (he.I hc) Z Z)<|pq (λ_ hc=>Qj ((Y.I G).I hc) Z Z)<|pk<|xg<|(QgC ((ha.I G).I hd) s kd).S ?_
 rintro r2 w2 ⟨rfl,I⟩;refine⟨hd.D I,?_⟩;refine pk<|xg<|(QgC (((hb.I G).I hd).I I) t kd).S ?_;rintro r3 w3 ⟨rfl,hf⟩;refine⟨(hd.D I).D hf,?_⟩;refine p (λ_=>QeE Z Z)<|p ZK<|pe ?_;exact Qk ⟨[_],Lb,Z,((G.D hd).D I).D hf⟩
theorem Qay (h:Zt [] ↑w va vm ve a)(ho:QO a):
  QT sV 69 [.agg #[va,sS a.st,vm,ve]] w λr w'=>sW w w'/\∃b G I,r=sP b/\↑w<=b/\↑w<=G/\↑w<=I/\Mch ↑w' b G I a:=by
 have gu:=h.ed.le;have gv:=h.mr.le;refine Zo func69 ?_;refine Qc<|Zd [va,sS a.st,vm,ve] λb1 w1 h9 gx hB=>Qb<|Qc<|Qo<|Z1 Yr λG w2 hQ gy hC=>Qo<|Z1 XR λI w3 hD gz hE=>x (QC ⟨Z,Z,Z,La⟩)<|Zd [.map (some G),.map (some I),sS 0] λb11 O hg g0 hF =>
  Qb ?_
 have g2:=hC.lt;have g3:=hE.lt;have hh:=(hQ.D hD).D hg;have hn:=hB.I hh;have g4:=hB.lt;have hR:ZU Yr ↑O G []:=((hC.J hD oe).J hg oe);have hS:ZU XR ↑O I []:=hE.J hg oe;have hp:∀{b:Nat},b∈[b11,G,I]->↑w1<=b:=λhb=>by simp only[oN,oJ,or_false]at hb;omega
 have hG:b1∉[b11,G,I]:=λhb=>oq (hp hb)
 have hT:∀b∈[b11,G,I],↑w<=b:=λb hb=>oq (hp hb)
 have hA:∀{w':O7},xh [b11,G,I] O w'->Zt [] ↑w' va vm ve a:=λhs =>
  ((((h.I h9).up (L':=[b11,G,I]) (λb hb=>.inr (hp hb))).I hh).st hs).up oe
 have hU:∀b∈[b11],b∈[b11,G,I]:=λb hb=>by simp only[oH]at hb;simp[hb]
 have k1:∀b∈[G],b∈[b11,G,I]:=λb hb=>by simp only[oH]at hb;simp[hb]
 have k2:∀b∈[I],b∈[b11,G,I]:=λb hb=>by simp only[oH]at hb;simp[hb]
 refine QY (α:=Unit) [(12,17)] (λz=>[]) (λz w'=>xh [b11] O w'/\QL ↑w' b11 251 [.map (some G),.map (some I),sS (fst a)]) ol ?_ ?_
 ·refine Qc<|Qs Z hn Z Z<|x (Zc Z Z)<|xe<|Zg Z (λhq=>?_) (λhq=>?_)
  ·have hf:fst a=-1:=by unfold fst;rw[O0 hq]
   refine Qr<|Qa<|Z7 Z<|Q9 Z<|Qo<|Qv (j:=2) (u:=sS (-1)) hF Z Z oe rfl λw5 hV hW=>xe ?_;exact⟨(),La,hV,by rw[hf];exact hW⟩
  have hf:fst a=0:=by unfold fst;rw[OZ hq]
  refine Qf ?_;exact⟨(),La,xh.C _ _,by rw[hf];exact hF⟩
 rintro z g w6 ⟨hr,hX⟩;have hu:=hr.S hU;have hY:ZU Yr ↑w6 G []:=hR.J hr om;have hZ:ZU XR ↑w6 I []:=hS.J hr om;have ga:=hn.J hu hG;have h6:=hA hu;refine Qe<|Qc<|Qs Z ga Z Z<|QG h6.ed Z<|Qa<|xe<|QZ (α:=Nat) [(5,5),(21,36)] (λz=>[(21,sS z)]) (λz w'=>z<=a.ed.length/\xh [G] w6 w'/\ZU Yr ↑w' G (K3 [] (a.ed.take z))) (λz=>a.ed.length - z) 0 Lb
  ⟨Lp _,xh.C _ _,hY⟩ ?_
 rintro k g w7 ⟨hk,U,hv⟩;have hw:xh [b11,G,I] O w7:=hu.Q (U.S k1);have h7:=hA hw;have hH:=hX.J U om;have gb:=hZ.J U om;have gc:=hn.J hw hG;refine Zj rfl Z (λhy=>?_) (λhy=>?_)
 ·refine Qt ?_;have ge:a.ed.length<=k:=by have hz:¬(k:Int)<(a.ed.length:Int):=hy;omega
  rw[Ls ge]at hv;refine Qe<|Qc<|Qs Z gc Z Z<|QG h7.mr Z<|Qa<|xe<|QZ (α:=Nat) [(7,7),(40,49)] (λz=>[(40,sS z)]) (λz w'=>z<=a.mr.length/\xh [I] w7 w'/\ZU XR ↑w' I (stI (a.mr.take z))) (λz=>a.mr.length - z) 0 Lb
   ⟨Lp _,xh.C _ _,gb⟩ ?_
  rintro j g w8 ⟨hj,V,h0⟩;have hI:xh [b11,G,I] O w8:=hw.Q (V.S k2);have h8:=hA hI;have hJ:=hH.J V om;have gg:=hv.J V om;refine Zj Z Z (λh3=>?_) (λh3=>?_)
  ·refine Qt ?_;have gh:a.mr.length<=j:=by have hz:¬(j:Int)<(a.mr.length:Int):=h3;omega
   rw[Ls gh]at h0;refine Ql<|Qb<|Qk ⟨[sP b11],Lb,(h9.D hh).Z hI (λb hb=>.inr (hT b hb)),b11,G,I,Z,oa,oa,oa,hJ,gg,h0⟩
  have J:j<a.mr.length:=by have hz:(j:Int)<(a.mr.length:Int):=h3;omega
  have hK:a.mr.take (j+1)=a.mr.take j++[a.mr[j]'J]:=Ln J;have hL:(a.mr[j]'J)∉a.mr.take j:=by
   intro hm;obtain⟨i,hi,e⟩:=LQ hm;rw[Nd]at e;have hi':i<j:=by rw[LG]at hi;omega
   have:=YD.get ho.mri J hi';omega
  refine Qf<|Qe<|Qn<|Qc<|xii (i:=j) h8.mr Z Z J λg5 hM=>?_;refine Zh (a.mr[j]'J) λs hs=>?_;rw[hs]at hM hK hL;refine x (Qq hM Z)<|Qb<|Qr<|Qa<|Z7 Z<|Qs Z hJ Z Z<|Qa<|Qo<|YU (k:=s) h0 Z Z λw9 gi gj=>xe ?_;refine Qr<|QB Z Z<|Qa<|xe<|⟨j+1,oa,Lb,J,V.Q gi,?_⟩;rw[hK];have hN:ZU XR ↑w9 I (xu ((a.mr.take j).map λs=>(s,Value.bool true)) s (.bool true)):=gj;rw[QcJ hL]at hN;exact hN
 have Y:k<a.ed.length:=by have hz:(k:Int)<(a.ed.length:Int):=hy;omega
 have hO:=jb (m:=[]) Y;refine Qf<|Qe<|Qn<|Qc<|xie (i:=k) h7.ed Z Z Y λg6 hP=>?_;refine Zh (a.ed[k]'Y) λe he=>?_;rw[he]at hP hO;refine x (QF hP Z Z)<|QV [sS 0,sS 0,sS 0] λb5 g7 gk gl gm=>Q6 (Qp e) gm oz λha gn h4 =>
  xe ?_
 have h5:sW w7 ha:=gk.O gn gl;have gq:=hH.I h5;have gr:ZU Yr ↑ha G (K3 [] (a.ed.take k)):=hv.J h5 oe;refine ZJ [] (Xk 0 12 [11])<|p Qy<|p (YR Z)<|p (QH Z)<|pq (λ_ hc=>Qj (gq.I hc) Z Z) <|
  p (QH rfl)<|pq (λ_ hc=>Qj (h4.I hc) Z Z)<|p (QH Z)<|pq (λ_ hc=>Qj (h4.I hc) Z Z) <|
  p (λ_=>QC ⟨Z,Z,La⟩)<|p (QH Z)<|pq (λ_ hc=>Qj (h4.I hc) Z Z)<|pkk<|YU (k:=(e.1,e.2.1)) (gr.J (xh.Y [] ha) oe) rfl rfl λg8 gs gt =>
  pe ?_
 refine Qr<|QB Z Z<|Qa<|xe<|⟨k+1,oa,Lb,Y,((U.D h5).D (xh.Y [] ha)).Q gs,?_⟩;rw[hO];exact gt
section
variable {all:xJ}
def QrI (all:xJ)(pre:xC)(k:Nat)(t:Pt):Bool :=
 Region.noSelect all.toArray && (pre.length+(t.len+1) == all.length) && Jn all.toArray pre (oR all.length false) && (Region.ready .any all.toArray (ZT pre (oR all.length false)) == [k]) && QjF all.toArray t ((ZT pre (oR all.length false)).setIfInBounds k true)
theorem QoV {Q:Exit->Fr->O7->Prop}(C:xG)(pre:xC)(k:Nat)(t:Pt)(Y:P.follows .mixedOrders=true)(hn:XD n all=true)(U:QrI all pre k t=true)
  (hC:C { w with drawn:=w.drawn+1 }) (h:XP P all C (λf1 G=>Z8 all f1 (QR all k)=true/\XO P (QR all k) f1 G λI w'=>C w'/\XT P all C (λf w=>Q .normal f w) t I w') pre f { w with drawn:=w.drawn+1 }):W P n (.region id all.toArray true) Q f w:=by
 simp only[QrI,oK,beq_iff_eq]at U;obtain⟨⟨⟨⟨V,hl⟩,hq⟩,J⟩,ht⟩:=U;refine JL C Y hn ?_;have h1:=YM (K:=λf w=>Q .normal f w) (m:=t.len+1) V pre (oR all.length false) f _ hC hq
  (B:=λf1 G=>Z8 all f1 (QR all k)=true/\XO P (QR all k) f1 G λI w'=>C w'/\XT P all C (λf w=>Q .normal f w) t I w')
  (λf1 O=>by
   refine J4 (λh0=>(by rw[h0]at J;cases J)) ?_;rw[J];intro j hj o ho;have ha:j=k:=by simpa using hj
   subst ha;rw[ZE ho]at O;rw[O.1,cond_true];exact O.2.S λv w' hx=>⟨.inr (.inr hx.1),Uj V t _ _ _ (by simp[YQ]) hx.1 ht hx.2⟩) h
 rw[hl]at h1;exact h1
end
theorem At.sub {H:xH}{a:Addr}(h:At L H a us)(n:Nat):At L H a (us.take n):=
 ⟨λu G=>h.out u (Ma G),λu G=>h.lt u (Ma G),λj u G=>by
  rw[L6]at G;split at G
  ·exact h.cell j u G
  cases G⟩
abbrev YN (p:Vs):LV:=[sS p.x,sS p.y,sS p.b,sS p.v]
theorem z7 (p:Vs):(YN p).length=4:=rfl
theorem Qkb:∀(es:List Ed) (s v:Int),(∀e∈es,0<=e.2.2)->-1<=nxt es s v
 | [],_,_,_=>MA _
 | e::es,s,v,h=>by
  rw[nxt];split
  ·have:=h e Lh;omega
  exact Qkb es s v (λx hx=>h x (Lj _ hx))
theorem Qj7 (G:QO a)(s v:Int):-1<=nxt a.ed s v/\(nxt a.ed s v<a.st\/nxt a.ed s v=-1):=by
 have h1:=Qkb a.ed s v (λe I=>(G.ed e I).2.2.2.1);refine⟨h1,?_⟩;by_cases h:nxt a.ed s v<0
 ·right;omega
 left;exact Qj9 G h
structure VsI (a b:Qz)(V:List Vs):Prop where
 nd:(V.map Vs.ky).Nodup
 rg:∀p∈V,-1<=p.x/\(p.x<a.st\/p.x=-1)/\-1<=p.y/\(p.y<b.st\/p.y=-1)
 bk:∀(k:Nat) (h:k<V.length),V[k].b<(k:Int)
def cdV (m:Nat)(p:Int×Int):Int:=(p.1+1)*(m+1)+(p.2+1)
theorem QqY {x y:Int}(hx:-1<=x/\(x<n\/x=-1))(O:-1<=y/\(y<m\/y=-1)):0<=cdV m (x,y)/\cdV m (x,y)<(((n+1)*(m+1):Nat):Int):=by
 unfold cdV;obtain⟨u,G⟩:∃u:Nat,x+1=u:=⟨(x+1).toNat,oa⟩;obtain⟨v,I⟩:∃v:Nat,y+1=v:=⟨(y+1).toNat,oa⟩;have J:u<=n:=oa
 have U:v<=m:=oa
 show 0<=(x+1)*((m:Int)+1)+(y+1)/\(x+1)*((m:Int)+1)+(y+1)<_;rw[G,I];have h1:u*(m+1)+v<(n+1)*(m+1):=by
  have h2:u*(m+1)<=n*(m+1):=MW _ J;have V:(n+1)*(m+1)=n*(m+1)+(m+1):=by rw[MH,NT]
  omega
 have e:((u:Int)*((m:Int)+1)+(v:Int))=((u*(m+1)+v:Nat):Int):=by push_cast;rfl
 rw[e];constructor <;> omega
theorem QoH {x y I G:Int}(hx:-1<=x)(hg:-1<=I)(hy:-1<=y/\(y<m\/y=-1))(hh:-1<=G/\(G<m\/G=-1))(h:cdV m (x,y)=cdV m (I,G)):(x,y)=(I,G):=by
 unfold cdV at h;have O:(x+1)*((m:Int)+1)+(y+1)=(I+1)*((m:Int)+1)+(G+1):=h;obtain⟨u,U⟩:∃u:Nat,x+1=u:=⟨(x+1).toNat,oa⟩;obtain⟨J,V⟩:∃J:Nat,I+1=J:=⟨(I+1).toNat,oa⟩;obtain⟨v,Y⟩:∃v:Nat,y+1=v:=⟨(y+1).toNat,oa⟩;obtain⟨v',ha⟩:∃v':Nat,G+1=v':=⟨(G+1).toNat,oa⟩;rw[U,V,Y,ha]at O;have h1:u*(m+1)+v=J*(m+1)+v':=by exact_mod_cast O
 have he:v<m+1:=oa
 have hf:v'<m+1:=oa
 have e1:u=J:=by
  have a1:(u*(m+1)+v) / (m+1)=u:=by rw[Nat.mul_comm,Nat.mul_add_div oa,Nat.div_eq_of_lt he,M5]
  have a2:(J*(m+1)+v') / (m+1)=J:=by rw[Nat.mul_comm,Nat.mul_add_div oa,Nat.div_eq_of_lt hf,M5]
  rw[<-a1,<-a2,h1]
 subst e1;have:x=I/\y=G:=⟨oa,oa⟩;rw[this.1,this.2]
theorem VsI.len {b:Qz}(J:QO a)(hb:QO b){V:List Vs}(h:VsI a b V):V.length<=(a.st.toNat+1)*(b.st.toNat+1):=by
 have hg:=J.st0;have hh:=hb.st0;have h1:=xN ((a.st.toNat+1)*(b.st.toNat+1)) ((V.map Vs.ky).map (cdV b.st.toNat)) (by
  unfold List.Nodup;rw[Mi];refine(List.Pairwise.imp_of_mem ?_ h.nd);intro p q I O U e;obtain⟨Y,he,rfl⟩:=Lu.1 I;obtain⟨q',hf,rfl⟩:=Lu.1 O;have G:=h.rg Y he;have r2:=h.rg q' hf;exact U (QoH G.1 r2.1 ⟨G.2.2.1,oa⟩ ⟨r2.2.2.1,oa⟩ e)) (λx hx=>by
  obtain⟨k,hk,rfl⟩:=Lu.1 hx;obtain⟨p,I,rfl⟩:=Lu.1 hk;have G:=h.rg p I;exact QqY ⟨G.1,oa⟩ ⟨G.2.2.1,oa⟩)
 simpa using h1
theorem QqC {V W:List Vs}(h:i<V.length):gV (V++W) i=gV V i:=by unfold gV;simp[oQ,Oa h]
theorem Qe6 {V:List Vs}(h:i<V.length):gV V i=V[i]'h:=by unfold gV;simp[oQ,h]
theorem Qk2 (G:QO a):-1<=fst a/\(fst a<a.st\/fst a=-1):=by
 have:=G.st0;unfold fst;split
 ·exact⟨oa,.inr Z⟩
 exact⟨oa,.inl oa⟩
theorem VsI.one {b:Qz}(I:QO a)(hb:QO b):VsI a b [⟨fst a,fst b,-1,0⟩]:=by
 have h1:=Qk2 I;have h2:=Qk2 hb;refine⟨oe,λp G=>?_,λk h=>?_⟩
 ·simp only[oH]at G;subst G;exact⟨h1.1,h1.2,h2.1,h2.2⟩
 have J:k=0:=by simpa using h
 subst J;exact(by decide:(-1:Int)<0)
theorem VsI.add {b:Qz}(O:QO a)(hb:QO b){V:List Vs}(h:VsI a b V)(hi:i<V.length){p:Vs}{v:Int}(U:(jI a b i p v).ky∉V.map Vs.ky):VsI a b (V++[jI a b i p v]):=by
 refine⟨?_,λq G=>?_,λk Y=>?_⟩
 ·rw[Lv,Mk];refine⟨h.nd,oe,λx hx y I e=>?_⟩;simp only[oU,OJ,oH]at I;subst I;subst e;exact U hx
 ·rcases Lk.1 G with G|G
  ·exact h.rg q G
  simp only[oH]at G;subst G;have J:=Qj7 O p.x v;have r2:=Qj7 hb p.y v;exact⟨J.1,J.2,r2.1,r2.2⟩
 rw[List.getElem_append];split
 ·rename_i h1;exact h.bk k h1
 have:V.length<=k:=oa
 simp only[List.getElem_singleton,jI];omega
theorem Qks (V:List Vs)(f k:Nat):lgW V (f+1) k=if 0<=(gV V k).b then(gV V k).v::lgW V f (gV V k).b.toNat else[]:=rfl
instance:Bw sV 253 [sS 0,sS 0,sS 0,sS 0] [(0,2),(2,1),(3,1)]:={}
abbrev VsO (base:Nat)(w:O7)(v:O8)(l:List Vs):Prop:=w.ownsRow base 253 4 v l.length (l.flatMap YN)
theorem VsO.snoc {v:O8}{l:List Vs}{p:Vs}(h:w.ownsRow base 253 4 v (l.length+1) (l.flatMap YN++YN p)):VsO base w v (l++[p]):=by
 unfold VsO;rw[Le,LJ];simpa using h
theorem VF {p:Prop}{i:Decidable p}(h:(!@decide p i)=true):¬p:=by
 cases i with
 | isTrue G=>cases h
 | isFalse G=>exact G
theorem Ks {p:Prop}{i:Decidable p}(h:(!@decide p i)=false):p:=by
 cases i with
 | isTrue G=>exact G
 | isFalse G=>cases h
structure QaY (H:xH)(m:Nat)(V:List Vs):Prop where
 h:∃K:xE,ZU Yr H m (setM K)/\∀k,k∈K↔k=(-1,-1)\/k∈V.map Vs.ky
theorem Vc {H:xH}{K:xE}{k:Int×Int}(h:ZU Yr H m (xu (setM K) k (.bool true))):∃K',ZU Yr H m (setM K')/\∀x,x∈K'↔x=k\/x∈K :=
 let⟨K',a,b⟩:=X0.put h (λ_=>Iff.rfl)
 ⟨K',a,λx=>(b x).D (by rw[Lk,Lc];exact Or.comm)⟩
theorem QaY.I {V:List Vs}(h:QaY ↑w m V)(G:sW w w'):QaY ↑w' m V:=let⟨K,h1,h2⟩:=h.h;⟨K,h1.J G oe,h2⟩
theorem Qaz (a b:Qz)(i:Nat)(p:Vs)(V:List Vs)(v:Int):((jI a b i p v).ky≠(-1,-1)/\(jI a b i p v).ky∉V.map Vs.ky/\lgA a b i p V v=V++[jI a b i p v])\/(((jI a b i p v).ky=(-1,-1)\/(jI a b i p v).ky∈V.map Vs.ky)/\lgA a b i p V v=V):=by
 unfold lgA;by_cases h:(jI a b i p v).ky≠(-1,-1)/\(jI a b i p v).ky∉V.map Vs.ky
 ·exact .inl ⟨h.1,h.2,O0 h⟩
 refine .inr ⟨?_,OZ h⟩;by_cases h1:(jI a b i p v).ky=(-1,-1)
 ·exact .inl h1
 exact .inr (Ly.1 λh2=>h ⟨h1,h2⟩)
theorem Qhx {vl:O8}{al:LI}{kf mu mv kg mw my:Nat}{b:Qz}[Fu sV g fn](hV:Qu [] ↑w vl al)(kh:Mch ↑w kf mu mv a)(ki:Mch ↑w kg mw my b)(hq:QO a)(hr:QO b)
  (hk:∀(s t:Int) (w1:O7),sW w w1->QT sV g ([.agg #[sS s,sS t]]++cap) w1 λr w'=>r=.bool (!(UO a kd s == UO b kd t))/\sW w1 w'):
  QT sV 70 [vl,sP kf,sP kg,.func (.func g) #[] cap.toArray] w λr w'=>sW w w' /\
   match lgL a b kd al ((a.st.toNat+1)*(b.st.toNat+1)+1) 0 [⟨fst a,fst b,-1,0⟩]with|none=>r=.tuple #[Zq,.bool false]|some u=>∃v,r=.tuple #[v,.bool true]/\Qh 3 ↑w w' v u:=by
 have hall:=hV.le;have ha1:=hq.st1;have hb1:=hr.st1;have mz:(a.st.toNat+1)*(b.st.toNat+1)<=4097*4097:=Nh oa oa;refine Zh ((a.st.toNat+1)*(b.st.toNat+1)) λN hN=>?_;rw[hN]at mz ⊢;refine Zh (lgL a b kd al (N+1) 0 [⟨fst a,fst b,-1,0⟩]) λR hR=>?_;rw[hR];refine Zo func70 ?_;refine Qc<|x Qd<|Qb<|Qe<|ZJ [] (Xk 0 11 [9,10])<|p Qy<|p (YR Z)<|p (QH Z)<|pq (λ_ hc=>Qj (kh.B.I hc) Z Z)<|p Qy<|p (YR Z) <|
  p (QH rfl)<|pq (λ_ hc=>Qj (ki.B.I hc) Z Z)<|p (λ_=>QC ⟨Z,Z,La⟩)<|pk<|Y0 (us:=[sS 0,sS 0]) Z λb10 w1 kj m0 m1=>⟨(xh.Y [] w).D kj,?_⟩
 refine pkk<|qB [sS (fst a),sS (fst b)] m1 oy λw2 m2 hW=>pe ?_;have m3:↑w<=b10:=m0;have m4:sW w w2:=((xh.Y [] w).D kj).O m2 m3;have hl10:=hW.lt;refine Qc<|Q7 hW Z Z<|x (ZD [(0,[sS (fst a),sS (fst b)]),(1,[sS (-1)]),(2,[sS 0])] ⟨Z,Z,Z,Z,Z,Z,La⟩)<|Qo<|Q5 [YN ⟨fst a,fst b,-1,0⟩] λhE O kk hb29 kn =>
  Qb ?_
 have m5:=m4.D kk;have hl29:=kn.lt;have m6:=hW.I kk;have m7:VsO ↑w O (sL hE 1 1) [⟨fst a,fst b,-1,0⟩]:=kn.own (n:=1) (sz:=4) Z oa oa;refine QY (α:=Nat) [(30,33),(12,12)] (λz=>[(12,.map (some z))]) (λz w'=>sW O w'/\↑O<=z/\QaY ↑w' z [⟨fst a,fst b,-1,0⟩]) ol ?_ ?_
 ·have hX:sW O { O with drawn:=O.drawn+1 }:=xh.Y _ _
  have ko:∀(k:Int×Int),k∈[⟨fst a,fst b,-1,0⟩].map Vs.ky↔k=(fst a,fst b):=λk=>by simp[Vs.ky]
  refine QoV (sW O) [oB 1,oB 3] 0 (.fk [] 2 4 (.pl [oC 4,oB 5,oB 6]) (.pl [oC 2,oB 5,oB 6])) mixed ol od (xh.Y _ _) ?_;refine pq (λ_ hc=>Zi (m6.I hc) Z Z)<|p (λ_=>QC ⟨Z,Z,La⟩)<|pe ⟨Z,Z1 Yr λm w4 hw hm hM=>⟨hX.D hw,tf<|pe ⟨⟨Z,?_⟩,Z,?_⟩⟩⟩
  ·have Y:↑O<=m:=hm;refine Yw (k:=(fst a,fst b)) hM Z Z λw5 hg hY=>?_;have hh:=(hX.D hw).O hg Y;obtain⟨K1,hZ,ga⟩:=Vc (K:=[]) hY;refine⟨hh,?_⟩;refine tp<|pk<|Yw (k:=(-1,-1)) hZ Z Z λw6 I gb=>⟨hh.O I Y,?_⟩;refine p Qy<|p ZK<|pe ?_;obtain⟨K2,gc,ge⟩:=Vc gb;exact⟨m,Lb,hh.O I Y,Y,⟨K2,gc,λk=>by rw[ge,ga,ko];simp⟩⟩
  have Y:↑O<=m:=hm;refine Yw (k:=(-1,-1)) hM Z Z λw5 hg hY=>?_;have hh:=(hX.D hw).O hg Y;obtain⟨K1,hZ,ga⟩:=Vc (K:=[]) hY;refine⟨hh,?_⟩;refine tp<|pk<|Yw (k:=(fst a,fst b)) hZ Z Z λw6 I gb=>⟨hh.O I Y,?_⟩;refine p Qy<|p ZK<|pe ?_;obtain⟨K2,gc,ge⟩:=Vc gb;exact⟨m,Lb,hh.O I Y,Y,⟨K2,gc,λk=>by rw[ge,ga,ko];simp[or_comm]⟩⟩
 rintro m g0 w4 ⟨hw,hm4,m8⟩;have m9:=m5.D hw;have pc:↑w<=m:=oa
 have pd:m∉ob (sL hE 1 1):=by
  intro h;have h':m∈[hE]:=h;simp only[oH]at h';omega
 refine Qe<|Qc<|Qb<|QZ (α:=Nat×O8×List Vs×Nat) [(8,9),(11,11),(13,14),(16,17),(34,108)] (λz=>[(8,Zq),(11,z.2.1),(13,sS z.1)]) (λz w'=>z.1<=z.2.2.1.length/\sW w w'/\VsO ↑w w' z.2.1 z.2.2.1/\QaY ↑w' m z.2.2.1/\m∉ob z.2.1/\VsI a b z.2.2.1/\z.2.2.2+z.1=N+1/\lgL a b kd al z.2.2.2 z.1 z.2.2.1=R) (λz=>z.2.2.2) (0,sL hE 1 1,[⟨fst a,fst b,-1,0⟩],N+1) oz
  ⟨Lp _,m9,Qm m7 hw,m8,pd,VsI.one hq hr,Z,hR⟩ ?_
 rintro⟨i,vV,V,f⟩ g1 w5 ⟨hi,hg,gg,kq,kr,hF,hf,J⟩;simp only[]at hi gg kq kr hF hf J;have hVlen:V.length<=N:=by rw[<-hN];exact VsI.len hq hr hF
 have gh:Zu [] ↑w5 vV V.length 4 (V.flatMap YN):=QN gg oa oe;refine Qe<|Ql<|Qa<|QG gh Z<|ZY Z Z<|xe<|Zp rfl (λgi=>?_) (λgi=>?_)
 ·refine Qt ?_;have pf:¬i<V.length:=by have gj:¬(i:Int)<(V.length:Int):=gi;omega
  have pg:R=none:=by
   rw[<-J];cases f with
   | zero=>rfl
   | succ f=>rw[lgL,OZ pf]
  rw[pg];refine Qc<|x Qd<|Qb<|Qk ⟨[Zq,.bool false],oy,hg,Z⟩
 have h6:i<V.length:=by have gj:(i:Int)<(V.length:Int):=gi;omega
 refine Exists.elim (show ∃f',f=f'+1 from⟨f - 1,oa⟩) λf' ph=>?_;rw[ph]at J;rw[lgL,O0 h6]at J;have pn:=Qe6 h6;refine Qf<|Qe<|Qn<|Qe<|Ql<|Qa<|Qa<|xp (g:=YN) (i:=i) z7 gh Z Z h6 λa43 gk=>?_;rw[<-pn]at gk;refine Zh (gV V i) λpi kt=>?_;rw[kt]at gk J;refine x (ZG Z)<|x (QF (us:=[sS pi.x,sS pi.y]) (At.sub (gk.from 0) 2) Z Z) <|
  Qo<|xc (first:=[]) (capt:=cap) Z<|(hk pi.x pi.y w5 hg).S ?_
 rintro r6 w6 ⟨rfl,I⟩;refine xe ?_;have hG:=hg.D I;have po:=Qm gg I;have ku:=gh.I I;refine Q8 rfl (λgl=>?_) (λgl=>?_)
 ·have hc:lgC a b kd pi=true:=gl;rw[O0 hc]at J;rw[<-J];refine Qe<|Ql<|Qb<|QZ (α:=Nat×Nat×O8×LI) [(8,8),(14,14),(48,66)] (λz=>[(8,z.2.2.1),(14,sS z.2.1)]) (λz w'=>z.2.1<V.length/\sW w6 w'/\Qh 3 ↑w6 w' z.2.2.1 z.2.2.2/\z.2.2.2++lgW V z.1 z.2.1=lgW V (i+1) i/\z.2.1+1<=z.1/\z.2.2.2.length+z.1=i+1) (λz=>z.1) (i+1,i,Zq,[]) oy
   ⟨h6,xh.C _ _,QM _ _ _ _,Z,Lr _,oe⟩ ?_
  rintro⟨fu,k,vo,wd⟩ g2 w7 ⟨hy,hH,hI,ha,pp,pt⟩;simp only[]at hy hI ha pp pt;have kv:=ku.I hH;have gm:=Qe6 hy;have kw:=hF.bk k hy;have kx:=Qi hI;have hz7:=hH.size;refine Exists.elim (show ∃gn,fu=gn+1 from⟨fu - 1,oa⟩) λgn pu=>?_;rw[pu]at ha;rw[Qks]at ha;refine Qe<|Ql<|Qa<|xp (g:=YN) (i:=k) z7 kv Z Z hy λa50 gq=>?_;rw[<-gm]at gq kw;refine Zh (gV V k) λG gr=>?_;rw[gr]at gq kw ha;refine x (ZG Z)<|x (Qq (gq.fld 2 (sS G.b) Z) Z)<|x (Yl Z Z)<|xe<|Zp Z (λgs=>?_) (λgs=>?_)
  ·refine Qt ?_;have gt:¬0<=G.b:=gs;rw[OZ gt,LK]at ha;refine Ql<|K7<|(jz hI oa).S ?_;rintro r8 w8 ⟨kz,gu⟩;refine xe<|Ql<|x Qd<|Qb ?_;rw[ha]at kz;have pw:=hG.size;exact Qk ⟨[vo,.bool true],oy,(hG.D hH).Z gu (λb hb=>.inr (oq (kx b hb).1)),vo,Z,Za kz pw⟩
  have gt:0<=G.b:=gs;rw[O0 gt]at ha;have pz:G.b=(G.b.toNat:Int):=oa
  refine Qf<|Qe<|Qn<|Qr<|Qa<|Qa<|Qa<|xp (g:=YN) (i:=k) z7 kv Z Z hy λa62 k0=>?_;rw[<-gm,gr]at k0;refine x (ZG Z)<|x (Qq (k0.fld 3 (sS G.v) Z) Z) <|
   Qo<|Q5 [[sS G.v]] λb65 w9 gv hb65 p0=>?_
  have hz9:=gv.size;refine Qo<|Q2 (news:=[sS G.v]) (L:=[]) (Qm hI gv) Z Z Z (p0.at oe) oo oa oa λp4 p5 p6 p7 hn10 =>
   Qb ?_
  have k4:sW w6 p5:=(hH.D gv).Z p7 (λb hb=>.inr (kx b hb).1);have p8:=ku.I k4;refine Qr<|Qa<|Qa<|xp (g:=YN) (i:=k) z7 p8 Z Z hy λa56 k5=>?_;rw[<-gm,gr]at k5;refine x (ZG Z)<|x (Qq (k5.fld 2 (sS G.b) Z) Z)<|x Qd <|
   xe ?_
  refine⟨(gn,G.b.toNat,p4,wd++[G.v]),og,⟨Z,O1 sS pz,La⟩,og,k4,Qh.snoc p6,?_,og,by simp only[oO,oL];omega⟩;simp only[];rw[LB];exact ha
 have hc:¬lgC a b kd pi=true:=by
  intro h;have p9:lgC a b kd pi=false:=gl;rw[p9]at h;cases h
 rw[OZ hc]at J;refine Qf<|Ql<|QG (hV.I hG) Z<|Qa<|xe<|QZ (α:=Nat×O8×List Vs) [(11,11),(16,17),(72,108)] (λz=>[(11,z.2.1),(72,sS z.1)]) (λz w'=>z.1<=al.length/\sW w w'/\VsO ↑w w' z.2.1 z.2.2/\QaY ↑w' m z.2.2/\m∉ob z.2.1/\VsI a b z.2.2/\z.2.2=(al.take z.1).foldl (lgA a b i pi) V/\∃W,z.2.2=V++W) (λz=>al.length - z.1) (0,vV,V) oy
  ⟨Lp _,hG,po,kq.I I,kr,hF,Z,[],oe⟩ ?_
 rintro⟨j,vU,U⟩ g3 he ⟨hj,hz,ho,h7,hJ,h8,hO,⟨W,hA⟩⟩;simp only[]at hj ho h7 hJ h8 hO hA;have hUlen:U.length<=N:=by rw[<-hN];exact VsI.len hq hr h8
 have hUl:V.length<=U.length:=by rw[hA,Le];omega
 have hp:i<U.length:=oa
 have k6:=Qi ho;refine Zj rfl Z (λgx=>?_) (λgx=>?_)
 ·refine Qt ?_;have qf:al.length<=j:=by have gj:¬(j:Int)<(al.length:Int):=gx;omega
  rw[Ls qf]at hO;rw[<-hO]at J;refine Qr<|Qa<|QB Z Z<|Qb<|⟨(i+1,vU,U,f'),og,oz,hp,hz,ho,h7,hJ,h8,og,J⟩
 have h0:j<al.length:=by have gj:(j:Int)<(al.length:Int):=gx;omega
 have k9:al.take (j+1)=al.take j++[al[j]'h0]:=Ln h0;have qj:gV U i=pi:=by rw[hA,QqC h6];exact kt
 refine Qf<|Qe<|Qn<|Qc<|xii (i:=j) (hV.I hz) Z Z h0 λa74 ma=>?_;refine Zh (al[j]'h0) λv hv=>?_;rw[hv]at ma k9;have hP:(al.take (j+1)).foldl (lgA a b i pi) V=lgA a b i pi U v:=by rw[k9,Mv,<-hO];rfl
 refine x (Qq ma Z)<|Qb<|Exists.elim (qA ho oa) λg9 ql=>Exists.elim ql λcap9 gy=>?_;have q4:Zu [] ↑he vU U.length 4 (U.flatMap YN):=QN ho oa oe;have mc:At [] ↑he ⟨g9,0+i*4,none⟩ (YN pi):=by
  obtain⟨a9,c9,e1,e2⟩:=Zu.at q4 hp;rw[Js YN 4 z7 U i hp,<-Qe6 hp,qj]at e2;rw[gy]at e1;have e3:(⟨g9,0,none⟩:Addr)=a9:=by
   have:=Value.slice.inj e1;exact Option.some.inj this.1
  rw[<-e3,X9]at e2;exact e2
 have q5:At [] ↑he ⟨g9,0+i*4+0+0*1,none⟩ [sS pi.x]:=by
  have:=mc.fld 0 (sS pi.x) Z;rw[X9]at this;exact this
 have j1:At [] ↑he ⟨g9,0+i*4+0+1*1,none⟩ [sS pi.y]:=by
  have:=mc.fld 1 (sS pi.y) Z;rw[X9]at this;exact this
 have j2:=kh.I hz;have j3:=ki.I hz;refine QY (α:=Nat) [(76,94),(17,17)] (λz=>[(17,sP z)]) (λz w'=>sW he w'/\↑he<=z/\QL ↑w' z 156 [sS (nxt a.ed pi.x v),sS (nxt b.ed pi.y v)]) ol ?_ ?_
 ·refine Qis (α:=Unit) (sW he) [oB 0,oB 1,oB 2,oB 3,oB 4,oB 5,oB 6,oB 7,oB 9,oB 10,oB 11,oB 12,oB 13,oB 14,oB 15,oB 16] [oC 8,oC 17,oB 18] 19 17 [oC 20] []
   [(76,94)] [(84,84),(93,94)] (λ_=>[(94,.agg #[sS (nxt a.ed pi.x v),sS (nxt b.ed pi.y v)])]) (λ_ _ _=>True)
   (λv w'=>∃b,v=sP b/\↑he<=b/\QL ↑w' b 156 [sS 0,sS 0]) mixed ol od ol Z (xh.Y _ _) oe ?_ ?_ ?_ ?_
  ·rintro v own wa wb ⟨b,rfl,hb,hB⟩ hs hn;exact⟨b,Z,hb,hB.J hs (hn b (by simp[ow]))⟩
  ·intro z own wa wb h hs;trivial
  ·rintro z g5 own wz v5 _ j4 ⟨hQ,rfl,gz,hC⟩ _;refine pkk<|qB [sS (nxt a.ed pi.x v),sS (nxt b.ed pi.y v)] hC oy λw8 gu za=>pe ?_;exact⟨hQ,Lb,j4.O gu gz,gz,za⟩
  refine p Qy<|p Qy<|p Qy<|p (λ_=>QD (show ev _ _=_ from gy) Z hp)<|p (QH Z) <|
   p (λ_=>ZW (i:=0) Z Z oh)<|pq (λ_ hc=>Qq (q5.st hc) Z)<|p Qy<|p Qy<|p Qy<|p Qy <|
   p (λ_=>QD (show ev _ _=_ from gy) Z hp)<|p (QH Z)<|p (λ_=>ZW (i:=1) Z Z oh)<|pq (λ_ hc=>Qq (j1.st hc) Z) <|
   p Qy<|pe ⟨λg6 wf z0=>flA [sS 0,sS 0] z0,?_⟩
  refine f2k λx1 p1 c1=>xf<|(Qax (j2.I c1) hq pi.x v).S ?_;rintro r84 y1 ⟨rfl,mf⟩;refine⟨c1.D mf,[],mf,(λb hb=>by cases hb),?_⟩;refine f2k λx2 p2 c2=>xf<|(Qax (j3.I c2) hr pi.y v).S ?_;rintro r93 y2 ⟨rfl,mg⟩;refine⟨c2.D mg,[],mg,(λb hb=>by cases hb),?_⟩;refine f3p (λ_=>QC ⟨Z,Z,La⟩)<|f2e ?_;exact⟨(),Lb,La⟩
 rintro hQ g7 hS ⟨hD,gz,hC⟩;have z1:=hz.D hD;refine Exists.elim (h7.I hD).h λK z2=>And.elim (λg4 g8=>?_) z2;have hT:(jI a b i pi v).ky=(nxt a.ed pi.x v,nxt b.ed pi.y v):=rfl;refine Ql<|Q7 hC Z Z<|x (qv (s:=(nxt a.ed pi.x v,nxt b.ed pi.y v)) g4 Z Z)<|x (Zl Z)<|xe<|Q8 rfl (λka=>?_) (λka=>?_)
 ·have z3:(nxt a.ed pi.x v,nxt b.ed pi.y v)∉K:=VF ka;have h3:=λh=>z3 ((g8 _).2 h);rw[<-hT]at h3;have kb:lgA a b i pi U v=U++[jI a b i pi v]:=by
   rcases Qaz a b i pi U v with⟨_,_,h⟩|⟨h,_⟩
   ·exact h
   exact O2 h h3
  rw[kb]at hP;have mh:m∉ob vU:=hJ;have mj:hQ∉m::ob vU:=λhb=>by
   rcases Ll.1 hb with rfl|hb
   ·obtain⟨K0,z4,_⟩:=h7.h;have:=z4.lt;omega
   have:=(k6 hQ hb).2;omega
  have z5:m<hS.heap.size:=g4.lt;have h4:sW hS { hS with drawn:=hS.drawn+1 }:=xh.Y _ _
  refine ZJ (m::ob vU) (Xk 0 11 [7,8,9])<|p Qy<|pq (λ_ hc=>Zi (hC.J hc mj) Z Z)<|p Qy<|pq (λ_ hc=>Zi (hC.J hc mj) Z Z) <|
   p Qy<|p Qy<|p (λ_=>ZD [(0,[sS (nxt a.ed pi.x v),sS (nxt b.ed pi.y v)]),(1,[sS i]),(2,[sS v])] ⟨Z,Z,Z,Z,Z,Z,La⟩)<|pk<|Q5 [YN (jI a b i pi v)] λb106 w13 h5 hb106 hB106=>⟨(h4.D h5).any,?_⟩
  have kc:=hD.D (h4.D h5);have hz13:=(h4.D h5).size;refine pk<|Q2 (news:=YN (jI a b i pi v)) (L:=[]) (Qm ho kc) Z Z Z (hB106.at oe) (λu hu=>by
   simp only[oN,oJ,or_false]at hu;rcases hu with rfl|rfl|rfl|rfl <;> rfl) oa (oq kc.size) λmo mq ho14 hU hn14=>⟨(h4.D h5).any.Q (hU.S (λb hb=>Lj _ hb)),?_⟩
  have hM14:ZU Yr ↑mq m (setM K):=(g4.J (h4.D h5) oe).J hU mh;refine pk<|YU (k:=(nxt a.ed pi.x v,nxt b.ed pi.y v)) hM14 Z Z λw15 ke hM15=>⟨((h4.D h5).any.Q (hU.S (λb hb=>Lj _ hb))).Q (ke.S oe),?_⟩;refine p ZK<|pe ?_;refine Exists.elim (Vc hM15) λK' hKKK'=>And.elim (λhM15' hKK'=>?_) hKKK';have ms:m∉ob mo:=λhb=>by
   rcases hn14 m hb with h9|h9
   ·exact mh h9
   have:=z5;omega
  refine Qr<|QB Z Z<|Qa<|xe ?_;have hs014:sW w mq:=(hz.D kc).Z hU (λb hb=>.inr (k6 b hb).1);refine⟨(j+1,mo,U++[jI a b i pi v]),og,oy,h0,hs014.O ke pc,Qg (VsO.snoc ho14) ke (λb hb mt=>by simp only[oH]at mt;subst mt;exact ms hb),⟨K',hM15',λk=>?_⟩,ms,VsI.add hq hr h8 hp (λh=>h3 (.inr h)),hP.symm,W++[jI a b i pi v],by rw[hA,LB]⟩;rw[hKK',g8,Lv,Lk];constructor
  ·rintro(h|h|h)
   ·exact .inr (.inr (by rw[h];simp[hT]))
   ·exact .inl h
   exact .inr (.inl h)
  rintro(h|h|h)
  ·exact .inr (.inl h)
  ·exact .inr (.inr h)
  exact .inl (by simpa[hT]using h)
 have hK:(nxt a.ed pi.x v,nxt b.ed pi.y v)∈K:=Ks ka;have h3:=(g8 _).1 hK;rw[<-hT]at h3;have kb:lgA a b i pi U v=U:=by
  rcases Qaz a b i pi U v with⟨h1,h2,_⟩|⟨_,h⟩
  ·exact O2 h3 (λh=>h.elim h1 h2)
  exact h
 rw[kb]at hP;refine Qf<|Qr<|QB Z Z<|Qa<|xe ?_;exact⟨(j+1,vU,U),og,oy,h0,z1,Qm ho hD,h7.I hD,hJ,h8,hP.symm,W,hA⟩
theorem QpY {only:Bool}{e:Ed}(h:(!decide (e.2.1∈o))=false):Ue o un only e=false:=by unfold Ue;rw[h];rfl
theorem QpX {only:Bool}{e:Ed}(h:(!decide (e.2.1∈o))=true)(h1:(!only)=true):Ue o un only e=true:=by unfold Ue;rw[h,h1];rfl
theorem QjZ {only:Bool}{e:Ed}(h:(!decide (e.2.1∈o))=true)(h1:(!only)=false):Ue o un only e=decide (e.2.1∈un):=by unfold Ue;rw[h,h1];rfl
structure VcI (bm:Nat)(w0:O7)(vl:O8)(l:LI)(w:O7):Prop where
 st:sW w0 w
 m:X0 XR ↑w bm l
 o:Qh 3 ↑w0 w vl l
 nm:bm∉ob vl
theorem VcI.I {bm:Nat}{I w w':O7}{vl:O8}{l:LI}(h:VcI bm I vl l w)(G:sW w w'):VcI bm I vl l w':=⟨h.st.D G,h.m.I G,Qm h.o G,h.nm⟩
theorem K9 {V:VwV}{vl:O8}{l:LI}{only:Bool}(h:VwA ↑w V)(hl:Qu [] ↑w vl l)(hb:∀x∈l,0<=x/\x<V.a.st)(ko:l.length<=1000000):
  QT sV 132 [.pointer (some ⟨V.b,0,none⟩),vl,.bool only] w λr w'=>sW w w'/\Qh 3 ↑w w' r (vcl V.a V.o V.un l only):=by
 have hok:=h.ok;have kq:=hok.st0;have kr:=hok.st1;obtain⟨n,hn⟩:∃n:Nat,V.a.st.toNat=n:=⟨_,Z⟩;have gk:V.a.st=(n:Int):=oa
 have kt:=hok.ed_le;obtain⟨rv,hJ,hK⟩:=h.r;rw[hn]at hJ hK;have gl:vcl V.a V.o V.un l only=srt n (bfs (Ue V.o V.un only) V.a.ed (l.length+n) 0 l):=by unfold vcl cls;rw[hn]
 rw[gl];have gm:=hok.ed;rw[gk]at hb;refine Zh (bfs (Ue V.o V.un only) V.a.ed (l.length+n) 0 l) λR hR=>?_;rw[hR];refine Zo func132 ?_;refine Qc<|Qb<|Ql<|Qx<|(Z0 hl).S ?_;rintro v1 w1 ⟨hL,h4⟩;refine Qb<|Qc<|Qo<|Z1 XR λbm w2 h5 ku gn=>Qb ?_;have gq:=hL.D h5;have kv:=hL.size;have hM:bm∉ob v1:=λI=>oq (QW h4 _ I)
 have gr:Qu [] ↑w2 v1 l:=Qh.ints (Qm h4 h5) oa oe;refine Qe<|Ql<|QG gr Z<|Qa<|xe<|QZ (α:=Nat) [(10,10),(19,25)] (λz=>[(19,sS z)]) (λz w'=>z<=l.length/\xh [bm] w2 w'/\X0 XR ↑w' bm (l.take z)) (λz=>l.length - z) 0 Lb ⟨Lp _,xh.C _ _,.zero gn⟩ ?_;rintro k g w3 ⟨hk,h6,h8⟩;have gs:sW w w3:=gq.O h6 oa;have hN:=Qg (Qm h4 h5) h6 λb hb I=>hM (Lc.1 I ▸ hb);have gt:Qu [] ↑w3 v1 l:=Qh.ints hN oa oe;refine Zj rfl Z (λh9=>?_) (λh9=>?_)
 ·refine Qt ?_;have gu:l.length<=k:=by have hh:¬(k:Int)<(l.length:Int):=h9;omega
  rw[Ls gu]at h8;refine Qe<|Qc<|Qb<|QZ (α:=Nat×O8×LI) [(7,7),(11,11),(13,13),(26,80)] (λz=>[(7,z.2.1),(11,sS z.1)]) (λz w'=>z.1<=z.2.2.length/\VcI bm w z.2.1 z.2.2 w'/\Ur n l z.2.2/\bfs (Ue V.o V.un only) V.a.ed (l.length+n - z.1) z.1 z.2.2=R) (λz=>l.length+n+1 - z.1) (0,v1,l) oy ⟨Lp _,⟨gs,h8,hN,hM⟩,Ur.zero _ _,hR⟩ ?_;rintro⟨i,vi,m⟩ g w4 ⟨hi,U,hv,hf⟩;simp only[]at hi U hv hf;have kw:=hv.len;have hO:=hv.all hb;have hP:Qu [] ↑w4 vi m:=Qh.ints U.o oa oe;refine Qe<|Ql<|Qa<|QG hP Z<|ZY Z Z<|xe<|Zp Z (λhA=>?_) (λhA=>?_)
  ·refine Qt ?_;have gv:¬i<m.length:=by have hh:¬(i:Int)<(m.length:Int):=hA;omega
   rw[Qd0 gv]at hf;have hw:=Qi U.o;refine Ql<|Qx<|(Kj U.o oa).S ?_;rintro _ w5 ⟨gx,gy⟩;refine xe<|Ql<|Qx<|(QoE gy (by rw[List.length_mergeSort];omega) (Qde m)).S ?_;rintro v6 w6 ⟨hB,l',gz,g0,g2⟩;refine Qb<|Qk ⟨[v6],Lb,(U.st.Z gx λb hb=>.inr (hw b hb).1).Z hB λb hb=>.inr (hw b hb).1,?_⟩;rw[<-hf,<-Qjf gz (λx=>(g0 x).D (Nj m _).mem_iff) hO];exact g2
  have G:i<m.length:=by have hh:(i:Int)<(m.length:Int):=hA;omega
  have hy:=hO _ (XG G);have g3:l.length+n - i=(l.length+n - (i+1))+1:=oa
  rw[g3,bfs,O0 G]at hf;have hQ:=Zn G;refine Zh (xj m i) λs hs=>?_;rw[hs]at hy hf hQ;have hS:s=(s.toNat:Int):=oa
  have hT:s.toNat<n:=oa
  have hE:=hK s.toNat hT;have kx:=Yf V.a.ed s;have g4:QK V.a.ed (s.toNat:Nat)=QK V.a.ed s:=by rw[<-hS]
  rw[g4]at hE;have g5:s.toNat<(oM n).length:=by rw[Mf];exact hT
  refine Qf<|Qe<|Qn<|Qe<|ZJ [] (Xk 0 12 [])<|p Qy<|p (YR Z)<|p (QH Z)<|pq (λ_ hc=>Qj ((h.blk.I U.st).I hc) Z Z)<|p Qy<|p Qy<|Lg.pii (i:=i) Z hP Z Z G λkz hU=>?_;rw[hQ]at hU;refine pq (λ_ hc=>Qq (hU.I hc) Z)<|Lg.pig (g:=λj:Nat=>[rv j]) (i:=s.toNat) Z (λ_=>Z) (hJ.I U.st) Z (show Go.Lg.ev _ _=_ from O1 sS hS) g5 λk0 hV=>?_;rw[Mw]at hV;refine pq (λ_ hc=>Qq (u:=rv s.toNat) (hV.I hc) Z)<|p (λ_=>Y4 hE Z)<|p Qy<|pe ?_;have g6:sW w4 { w4 with drawn:=w4.drawn+1 }:=xh.Y _ _
  refine QZ (α:=Nat×O8×LI) [(7,7),(13,13),(43,80)] (λz=>[(7,z.2.1),(43,sS z.1)]) (λz w'=>z.1<=(QK V.a.ed s).length/\VcI bm w z.2.1 z.2.2 w'/\Ur n l z.2.2/\m.length<=z.2.2.length/\((QK V.a.ed s).drop z.1).foldl (js (Ue V.o V.un only)) z.2.2=(QK V.a.ed s).foldl (js (Ue V.o V.un only)) m) (λz=>(QK V.a.ed s).length - z.1) (0,vi,m) oy ⟨Lp _,U.I g6,hv,Lr _,Z⟩ ?_;rintro⟨j,vj,lj⟩ g w5 ⟨hj,ho,hp,hC,J⟩;simp only[]at hj ho hp hC J;have k4:=hp.len;refine Zj Z Z (λhD=>?_) (λhD=>?_)
  ·refine Qt ?_;have g7:(QK V.a.ed s).length<=j:=by have hh:¬(j:Int)<((QK V.a.ed s).length:Int):=hD;omega
   rw[Lx g7]at J;have g8:lj=(QK V.a.ed s).foldl (js (Ue V.o V.un only)) m:=J;rw[<-g8]at hf;refine Qr<|Qa<|QB Z Z<|Qb<|⟨(i+1,vj,lj),by show l.length+n+1 - (i+1)<l.length+n+1 - i;omega,oy,by show i+1<=lj.length;omega,ho,hp,hf⟩
  have hg:j<(QK V.a.ed s).length:=by have hh:(j:Int)<((QK V.a.ed s).length:Int):=hD;omega
  have g9:=Zx (Lm hg);have hW:=gm _ g9.1;rw[QX hg,LP]at J;refine Zh ((QK V.a.ed s)[j]'hg) λe he=>?_;rw[he]at hW J;refine Qf<|Qe<|Qn<|Qc<|xie (hE.I ho.st) Z Z hg λk5 hX=>?_;rw[he]at hX;refine x (QF hX Z Z)<|QV [sS 0,sS 0,sS 0] λka w6 hB hY kb=>Q6 (Qp e) kb oz λO kc hz=>xe ?_;have ke:sW w5 O:=hB.O kc hY;have hF:=ho.I ke;have h7:=h.I hF.st;refine QY (α:=Unit) [(47,71)] (λ_=>[(71,.bool (decide (Ue V.o V.un only e=true/\e.2.2∉lj)))]) (λ_ w'=>sW O w') ol ?_ ?_
  ·refine ZJ [] (Xk 0 25 [3,22]) ?_;have Y:sW O { O with drawn:=O.drawn+1 }:=xh.Y _ _
   refine p Qy<|p (QH Z)<|pq (λ_ hc=>Qj (hz.I hc) Z Z)<|pk<|xg<|(zQ (w:={ O with drawn:=O.drawn+1 }) (h7.I Y) e.2.1).S ?_
   rintro _ w8 ⟨rfl,rfl⟩;refine⟨Y,?_⟩;refine pB (λ_=>Zl Z) (λhq=>?_) (λhq=>?_)
   ·refine p Qy<|p Qy<|p (QH Z)<|pq (λ_ hc=>Qj (hz.I hc) Z Z)<|pq (λ_ hc=>Qbg (hF.m.I hc) Z Z)<|pB (λ_=>Zl Z) (λhG=>?_) (λhG=>?_)
    ·have hZ:=VF hG;refine p (YY Z)<|p Qy<|p Qy<|pB (λ_=>Zl Z) (λh0=>?_) (λh0=>?_)
     ·refine p Qy<|ps<|ps<|ps<|ps<|ps<|ps<|ps<|p (YY Z)<|p (YY Z)<|pe ?_;exact⟨(),⟨O1 Value.bool (bT ⟨QpX hq h0,hZ⟩),La⟩,Y⟩
     refine p Qy<|p Qy<|p (YR Z)<|p (QH Z)<|pq (λ_ hc=>Qj (h7.blk.I hc) Z Z)<|p (QH Z) <|
      pq (λ_ hc=>Qj (hz.I hc) Z Z)<|pk<|xg<|(ZF (w:={ O with drawn:=O.drawn+1 }) (h7.u.I Y) e.2.1).S ?_
     rintro _ w9 ⟨rfl,rfl⟩;refine⟨Y,?_⟩;refine p (YY Z)<|p (YY Z)<|pe ?_;exact⟨(),⟨O1 Value.bool (bD ⟨λhu=>⟨(QjZ hq h0).D (O3 hu),hZ⟩,λhu=>O4 ((QjZ hq h0).symm.D hu.1)⟩),La⟩,Y⟩
    refine p (YY Z)<|p Qy<|ps<|ps<|ps<|ps<|ps<|ps<|ps<|ps<|ps<|ps<|ps<|p (YY Z)<|pe ?_;exact⟨(),⟨O1 Value.bool (bF λhu=>hu.2 (Ks hG)),La⟩,Y⟩
   refine p Qy<|ps<|ps<|ps<|ps<|ps<|p (YY Z)<|p Qy<|ps<|ps<|ps<|ps<|ps<|ps<|ps<|ps<|ps<|ps<|ps<|p (YY Z)<|pe ?_;exact⟨(),⟨O1 Value.bool (bF λhu=>MY ((QpY hq).symm.D hu.1)),La⟩,Y⟩
  rintro _ g w8 ga;have ha:=hF.I ga;have gb:=hp.edge (Ue V.o V.un only) (e:=e) ⟨hW.2.2.2.1,oa⟩;have gc:lj.length<=(js (Ue V.o V.un only) lj e).length:=by unfold js;split <;> simp
  have h3:js (Ue V.o V.un only) lj e=if Ue V.o V.un only e=true/\e.2.2∉lj then lj++[e.2.2]else lj:=rfl
  refine Zp Z (λhH=>?_) (λhH=>?_)
  ·rw[OZ hH]at h3;rw[h3]at J;refine Qf<|Qr<|QB Z Z<|Qa<|xe ?_;exact⟨(j+1,vj,lj),by show(QK V.a.ed s).length - (j+1)<(QK V.a.ed s).length - j;omega,oy,hg,ha,hp,hC,J⟩
  rw[O0 hH]at h3;rw[h3]at J gb gc;have ge:=hz.I ga;have hw:=Qi ha.o;refine Ql<|Qs Z ge Z Z<|Qo<|yy (k:=e.2.2) ha.m Z Z Z λw9 hI gg=>xe ?_;have kf:ka∉[bm]:=λI=>by
   have:=ho.m.lt;rw[Lc.1 I]at hY;omega
  have kg:=Qg ha.o hI λb hb I=>ha.nm (Lc.1 I ▸ hb);have gh:sW w w9:=ha.st.O hI oa;refine Qr<|Qa<|Qs Z (ge.J hI kf) Z Z<|Qo<|Q5 [[sS e.2.2]] λk6 wa hr k9 kh =>
   Qo<|Q2 (m:=1) (news:=[sS e.2.2]) (L:=[]) (Qm kg hr) Z Z Z (kh.at oe) oo oa (ou hr.size gh.size) λvb wb ki hy kj=>Qb ?_
  have ma:=hr.size;have mc:=gg.lt;refine Qr<|QB Z Z<|Qa<|xe<|⟨(j+1,vb,lj++[e.2.2]),by show(QK V.a.ed s).length - (j+1)<(QK V.a.ed s).length - j;omega,oy,hg,⟨(gh.D hr).Z hy λb hb=>.inr (hw b hb).1,(gg.I hr).J hy ha.nm,Qh.snoc ki,λI=>?_⟩,gb,LA hC gc,J⟩;rcases kj _ I with h1|h1
  ·exact ha.nm h1
  omega
 have G:k<l.length:=by have hh:(k:Int)<(l.length:Int):=h9;omega
 have gi:l.take (k+1)=l.take k++[l[k]'G]:=Ln G;refine Qf<|Qe<|Qn<|Qc<|xii (i:=k) gt Z Z G λmf gj=>?_;refine Zh (l[k]'G) λs hs=>?_;rw[hs]at gj gi;refine x (Qq gj Z)<|Qb<|Qr<|Qa<|Qa<|Qo<|yy (k:=s) h8 Z Z Z λw4 kk kn=>xe ?_;refine Qr<|QB Z Z<|Qa<|xe ?_;exact⟨k+1,by show l.length - (k+1)<l.length - k;omega,Lb,G,h6.Q kk,by rw[gi];exact kn⟩
theorem qg {V:VwV}(h:VwA ↑w V)(hE:Qu [] ↑w ve est)(h5:∀x∈est,0<=x/\x<V.a.st)(hP:est.length<=9)(h6:V.a.ed.length<=1000)(v:Int):
  QT sV 136 [.pointer (some ⟨V.b,0,none⟩),ve,sS v] w λr w'=>sW w w'/\Qh 3 ↑w w' r (vnx V.a V.o V.un est v):=by
 have hok:=h.ok;have hQ:=hok.st0;obtain⟨n,hn⟩:∃n:Nat,V.a.st.toNat=n:=⟨_,Z⟩;have hR:V.a.st=(n:Int):=oa
 obtain⟨rv,hr,hu⟩:=h.r;rw[hn]at hr hu;have h7:∀k,k<=est.length->(hop V.a.ed (est.take k) v).length<=9000:=λk hk=>by
  have h1:=QbL V.a.ed v (est.take k);have h2:(est.take k).length<=9:=by rw[LG];omega
  have h3:(est.take k).length*V.a.ed.length<=9*1000:=Nh h2 h6;omega
 refine Zo func136 ?_;refine Qc<|Qb<|Qc<|Qb<|Qe<|Ql<|QG hE Z<|Qa<|xe<|QZ (α:=Nat×O8) [(7,7),(9,9),(11,11),(14,40)] (λz=>[(7,z.2),(14,sS z.1)]) (λz w'=>z.1<=est.length/\sW w w'/\Qh 3 ↑w w' z.2 (hop V.a.ed (est.take z.1) v)) (λz=>est.length - z.1) (0,ZX) oy ⟨Lp _,xh.C _ _,QM _ _ _ _⟩ ?_;rintro⟨k,vl⟩ g w2 ⟨hk,G,hf⟩;simp only[]at hk hf;have h8:=h7 k hk;refine Zj rfl Z (λhg=>?_) (λhg=>?_)
 ·refine Qt ?_;have h9:est.length<=k:=by have hh:¬(k:Int)<(est.length:Int):=hg;omega
  rw[Ls h9]at hf h8;have hL:=Qh.ints (L:=[]) hf oa oe;refine Ql<|Qa<|Qx<|(K9 (only:=false) (h.I G) hL (QkW hok est v) oa).S ?_;rintro r3 w3 ⟨hA,hB⟩;refine Qb<|Qk ⟨[_],Lb,G.D hA,Za hB G.size⟩
 have J:k<est.length:=by have hh:(k:Int)<(est.length:Int):=hg;omega
 have hv:=Qdm (ed:=V.a.ed) v J;have hC:=h5 _ (Lm J);refine Qf<|Qe<|Qn<|Qc<|xii (i:=k) (hE.I G) Z Z J λhS hw=>?_;refine Zh (est[k]'J) λs hs=>?_;rw[hs]at hw hv hC;have hD:s=(s.toNat:Int):=oa
 have hy:s.toNat<n:=oa
 have hm:=hu s.toNat hy;rw[show((s.toNat:Nat):Int)=s by omega]at hm;have hF:s.toNat<(oM n).length:=by rw[Mf];exact hy
 have hT:=Yf V.a.ed s;refine x (Qq hw Z)<|Qb<|Ql<|Z7 Z<|Qs Z (h.blk.I G) Z Z<|Qa<|xp (g:=λj:Nat=>[rv j]) (i:=s.toNat) (λ_=>Z) (hr.I G) Z (O1 sS hD) hF λhU hz=>?_;rw[Mw]at hz;refine x (Qq (u:=rv s.toNat) hz Z)<|QG hm Z<|Qa<|xe<|QZ (α:=Nat×O8) [(7,7),(11,11),(26,39)] (λz=>[(7,z.2),(26,sS z.1)]) (λz w'=>z.1<=(QK V.a.ed s).length/\sW w w'/\Qh 3 ↑w w' z.2 (hop V.a.ed (est.take k) v++(((QK V.a.ed s).take z.1).filter λe=>decide (e.2.1=v)).map (·.2.2))) (λz=>(QK V.a.ed s).length - z.1) (0,vl) oy ⟨Lp _,G,by simp only[List.take_zero,List.filter_nil,OJ,Oq];exact hf⟩ ?_;rintro⟨j,vj⟩ g w4 ⟨hj,O,I⟩;simp only[]at hj I;refine Zj rfl Z (λho=>?_) (λho=>?_)
 ·refine Qt ?_;have hG:(QK V.a.ed s).length<=j:=by have hh:¬(j:Int)<((QK V.a.ed s).length:Int):=ho;omega
  rw[Ls hG,<-hv]at I;refine Qr<|QB Z Z<|Qa<|xe ?_;exact⟨(k+1,vj),by show est.length - (k+1)<est.length - k;omega,oy,J,O,I⟩
 have U:j<(QK V.a.ed s).length:=by have hh:(j:Int)<((QK V.a.ed s).length:Int):=ho;omega
 have Y:=QaD v U;have hV:(hop V.a.ed (est.take k) v++(((QK V.a.ed s).take j).filter λe=>decide (e.2.1=v)).map (·.2.2)).length<=10000:=by
  rw[Le,Lo];have h1:=LO (λe:Ed=>decide (e.2.1=v)) ((QK V.a.ed s).take j);rw[LG]at h1;omega
 refine Zh ((QK V.a.ed s)[j]'U) λe he=>?_;rw[he]at Y;refine Qf<|Qe<|Qn<|Qc<|xie (hm.I O) Z Z U λhW h0=>?_;rw[he]at h0;refine x (QF h0 Z Z)<|QV [sS 0,sS 0,sS 0] λb11 w5 hH hI hJ=>Q6 (Qp e) hJ oz λw6 hK h4=>xe ?_;have ha:sW w4 w6:=hH.O hK hI;have hX:=O.size;have hY:=ha.size;refine Qc<|Qs Z h4 Z Z<|Qa<|x (Zc Z Z)<|xe<|Zp rfl (λhp=>?_) (λhp=>?_)
 ·rw[OZ hp,LK]at Y;refine Qf<|Qr<|QB Z Z<|Qa<|xe ?_;exact⟨(j+1,vj),by show(QK V.a.ed s).length - (j+1)<(QK V.a.ed s).length - j;omega,oy,U,O.D ha,by simp only[];rw[Y];exact Qm I ha⟩
 rw[O0 hp]at Y;refine Qr<|Qa<|Qs Z h4 Z Z<|Qo<|Q5 [[sS e.2.2]] λhZ w7 hq ga hM =>
  Qo<|Q2 (m:=1) (news:=[sS e.2.2]) (L:=[]) (Qm I (ha.D hq)) Z Z Z (hM.at oe) oo oa (oq hq.size) λv8 w8 hN hO gb=>Qb<|Qr<|QB Z Z<|Qa<|xe ?_
 refine⟨(j+1,v8),by show(QK V.a.ed s).length - (j+1)<(QK V.a.ed s).length - j;omega,oy,U,((O.D ha).D hq).Z hO λb hb=>.inr (Qi I b hb).1,?_⟩;simp only[];rw[Y,<-LB];exact Qh.snoc hN
def QkB (x y:LI):List UInt8:=(YZ x++[59])++(YZ y++[59])
abbrev koA (x y:LI):ByteArray:=⟨(QkB x y).toArray⟩
theorem QlB (u:Nat):(59:UInt8)∉Lib.decDigits u:=by
 induction u using Nat.strongRecOn with
 | _ u ih =>
  unfold Lib.decDigits;split
  ·intro h;simp only[oH]at h;have:=O1 UInt8.toNat h;rw[XB oa]at this;have G:(59:UInt8).toNat=59:=rfl;omega
  intro h;rcases Lk.1 h with h|h
  ·exact ih _ oa h
  simp only[oH]at h;have:=O1 UInt8.toNat h;rw[XB oa]at this;have G:(59:UInt8).toNat=59:=rfl;omega
theorem VG (l:LI):(59:UInt8)∉YZ l:=by
 intro h;obtain⟨n,_,h⟩:=Mg.1 h;rcases Lk.1 h with h|h
 ·exact QlB _ h
 exact O2 (Lc.1 h) oh
theorem Qa8:∀{a b r r':List UInt8},(59:UInt8)∉a->(59:UInt8)∉b->a++59::r=b++59::r'->a=b/\r=r'
 | [],[],_,_,_,_,h=>ox h
 | [],y::b,_,_,_,hb,h=>by simp at h;exact O2 h.1 (by intro e;exact hb (by simp[e]))
 | x::a,[],_,_,G,_,h=>by simp at h;exact O2 h.1 (by intro e;exact G (by simp[e]))
 | x::a,y::b,_,_,G,hb,h=>by
  simp only[Og,List.cons.injEq]at h;have:=Qa8 (λe=>G (Lj _ e)) (λe=>hb (Lj _ e)) h.2;exact⟨by rw[h.1,this.1],this.2⟩
theorem QnY {x y G I:LI}(h1:∀n∈x,0<=n)(h2:∀n∈y,0<=n)(J:∀n∈G,0<=n)(O:∀n∈I,0<=n)(h:koA x y=koA G I):x=G/\y=I:=by
 have e:QkB x y=QkB G I:=by
  have:=O1 (λb:ByteArray=>b.data.toList) h;simpa using this
 unfold QkB at e;rw[LB,LB]at e;obtain⟨e1,e2⟩:=Qa8 (VG x) (VG G) (ox e);obtain⟨U,_⟩:=Qa8 (r:=[]) (r':=[]) (VG y) (VG I) e2;exact⟨UP h1 J e1,UP h2 O U⟩
def kO (lf:Nat->LI)(n:Nat):List UInt8:=(oM n).flatMap λi=>YZ (lf i)++[59]
theorem QbD (lf:Nat->LI)(n:Nat):kO lf (n+1)=kO lf n++(YZ (lf n)++[59]):=by
 unfold kO;rw[Nl,LJ,Nf]
theorem QkC {m:Int}(I:m<=1000000){l:LI}(hb:∀n∈l,0<=n/\n<m):(YZ l).length<=8*l.length:=by
 induction l with
 | nil=>simp[YZ]
 | cons x l ih =>
  have h1:=ih λn G=>hb n (Lj _ G);have h2:=hb x Lh;have J:=Kz 7 x.toNat oa;unfold YZ at *;rw[LR,Le,Le];simp only[oS,List.length_nil];omega
theorem QhZ {l:LI}{k:Nat}(h:k<l.length):YZ (l.take (k+1))=YZ (l.take k)++Lib.decDigits (l[k]'h).toNat++[32]:=by
 rw[Ln h];unfold YZ;rw[LJ,Nf,LB]
theorem Qj5 {v:O8}{rv:Nat->O8}{lf:Nat->LI}{m:Int}(hA:Zu [] ↑w v (oM n).length 1 ((oM n).flatMap λi=>[rv i]))(hE:∀i,Qu [] ↑w (rv i) (lf i))(hu:Kb w m)(hb:∀i,∀x∈lf i,0<=x/\x<m)(hl:∀i,(lf i).length<=1000)(hn:n<=1000):
  QT sV 133 [v] w λr w'=>r=.string ⟨(kO lf n).toArray⟩/\sW w w':=by
 have hm:=hu.le;refine Zo func133 ?_;refine Qc<|Qb<|Qc<|QV [.pointer none,nS] λG w1 hz O h0=>xe ?_;refine Qe<|Ql<|QG hA Z<|Qa<|xe<|QZ (α:=Nat×O8) [(5,5),(7,7),(10,26)] (λz=>[(10,sS z.1)]) (λz w'=>z.1<=n/\sW w w'/\(z.2=.pointer none\/z.2=me G)/\Bl z.2 G (kO lf z.1) w'/\(kO lf z.1).length<=8001*z.1) (λz=>n - z.1) (0,.pointer none) Lb
  ⟨Lp _,hz,.inl Z,⟨_,h0,QM _ _ _ _⟩,Lr _⟩ ?_
 rintro⟨k,p⟩ g w2 ⟨hk,ha,hp,U,h3⟩;simp only[]at hk hp U h3;refine Zj rfl Z (λhe=>?_) (λhe=>?_)
 ·refine Qt<|Qc ?_;have h4:k=n:=by have I:¬(k:Int)<((oM n).length:Int):=he;rw[Mf]at I;omega
  rw[h4]at U;refine Qx<|(VB ha O hp U).S ?_;rintro r3 w3 ⟨rfl,h5⟩;refine Qb<|Qk ⟨[_],Lb,Z,h5⟩
 have hf:k<(oM n).length:=by have I:(k:Int)<((oM n).length:Int):=he;omega
 have h6:k<n:=by rw[Mf]at hf;exact hf
 have hg:=QbD lf k;have h7:=QkC hm (hb k);have h8:=hl k;have hh:=hE k;have hv:=hb k;refine Zh (lf k) λl h9=>?_;rw[h9]at hg h7 h8 hh hv;refine Qf<|Qe<|Qn<|Qc<|xp (g:=λj:Nat=>[rv j]) (i:=k) (λ_=>Z) (hA.I ha) Z Z hf λhN hw=>?_;rw[Mw]at hw;refine x (Qq (u:=rv k) hw Z)<|Qb<|Qe<|Ql<|QG hh Z<|Qa<|xe<|QZ (α:=Nat×O8) [(7,7),(16,24)] (λz=>[(16,sS z.1)]) (λz w'=>z.1<=l.length/\sW w w'/\(z.2=.pointer none\/z.2=me G)/\Bl z.2 G (kO lf k++YZ (l.take z.1)) w'/\(YZ (l.take z.1)).length<=8*z.1) (λz=>l.length - z.1) (0,p) Lb
  ⟨Lp _,ha,hp,by show Bl p G (kO lf k++YZ []) w2;rw[show YZ []=[] from rfl,LK];exact U,Lr _⟩ ?_
 rintro⟨j,q⟩ g w4 ⟨hj,V,hq,Y,hB⟩;simp only[]at hj hq Y hB;refine Zj rfl Z (λho=>?_) (λho=>?_)
 ·refine Qt ?_;have hC:l.length<=j:=by have I:¬(j:Int)<(l.length:Int):=ho;omega
  rw[Ls hC]at Y;refine Qr<|Qx<|(KJ V O hq Y 59 (by rw[Le];omega)).S ?_;rintro r5 w5 ⟨hD,hF⟩;refine xe<|Qr<|QB Z Z<|Qa<|xe<|⟨(k+1,me G),by show n - (k+1)<n - k;omega,Lb,h6,hD,.inr Z,?_,?_⟩
  ·simp only[];rw[hg,<-LB];exact hF
  simp only[];rw[hg,Le,Le,Lz];omega
 have J:j<l.length:=by have I:(j:Int)<(l.length:Int):=ho;omega
 have hG:=hv _ (Lm J);have hr:=QhZ J;refine Qf<|Qe<|Qn<|Qc<|xii (i:=j) (hh.I V) Z Z J λhO I=>?_;refine Zh (l[j]'J) λs hs=>?_;rw[hs]at I hr hG;have hH:s=(s.toNat:Int):=oa
 have hP:=Kz 7 s.toNat oa;refine x (Qq I Z)<|Qb<|Qc ?_;have hI:=QbI s.toNat oa w4 (hu.I V);rw[<-hH]at hI;refine Qa<|Qx<|hI.S ?_;rintro r6 w6 ⟨rfl,hy⟩;refine Qx<|(JC (V.D hy) O hq (Y.I hy) (⟨(Lib.decDigits s.toNat).toArray⟩:ByteArray) (by show _+(Lib.decDigits s.toNat).toArray.size<=_;rw[Le,L3];omega)).S ?_;rintro r7 w7 ⟨hJ,hK⟩;refine xe<|Qr<|Qx<|(KJ hJ O (.inr Z) hK 32 (by rw[Le,Le];show _+_+(Lib.decDigits s.toNat).length+1<=_;omega)).S ?_;rintro r8 w8 ⟨hL,hM⟩;refine xe<|Qr<|QB Z Z<|Qa<|xe<|⟨(j+1,me G),by show l.length - (j+1)<l.length - j;omega,Lb,J,hL,.inr Z,?_,?_⟩
 ·simp only[];rw[hr,<-LB,<-LB];exact hM
 simp only[];rw[hr,Le,Le,Lz];omega
theorem kO2 (x y:LI):kO (λi=>if i=0 then x else y) 2=QkB x y:=by
 rw[QbD,QbD];rfl
theorem UH {v vy:O8}{x y:LI}{m:Int}(hA:Zu [] ↑w v 2 1 [vx,vy])(hx:Qu [] ↑w vx x)(I:Qu [] ↑w vy y)(G:Kb w m)(J:∀n∈x,0<=n/\n<m)(O:∀n∈y,0<=n/\n<m)(U:x.length<=1000)(V:y.length<=1000):
  QT sV 133 [v] w λr w'=>r=.string (koA x y)/\sW w w':=by
 have:=Qj5 (n:=2) (rv:=λi=>if i=0 then vx else vy) (lf:=λi=>if i=0 then x else y) (w:=w) (v:=v) hA (λi=>by by_cases e:i=0 <;> simp only[e,if_true,if_false] <;> assumption) G (λi=>by by_cases e:i=0 <;> simp only[e,if_true,if_false] <;> assumption) (λi=>by by_cases e:i=0 <;> simp only[e,if_true,if_false] <;> assumption) oa
 rw[kO2]at this;exact this
theorem yu {v:O8}{b:Nat}(h:b∈ob v):b∈ow v:=by
 cases v with
 | slice a _ _=>cases a <;> exact h
 | _=>cases h
theorem QeO {e:Nat}{v:O8}(h:w.ownsRow base e sz v n cs){b:Nat}(hb:b∈ow v):b∈ob v:=by
 rcases h.2 with⟨rfl,_⟩|⟨g,cp,cur,rfl,_⟩
 ·cases hb
 exact hb
theorem Je {e:Nat}{v:O8}(h:w.ownsRow base e sz v n cs)(b:Nat)(hb:b∈ow v):base<=b/\b<w.heap.size:=Qi h b (QeO h hb)
theorem Ud {e b:Nat}{v:O8}(h:w.ownsRow base e sz v n cs)(G:QL ↑w b T us)(hT:T≠e):b∉ob v:=by
 intro I;rcases h.2 with⟨rfl,_⟩|⟨g,cap,cur,rfl,_,J,_⟩
 ·cases I
 have e1:b=g:=Lc.1 I;subst e1;unfold QL at G;rw[G]at J;injection J with h1
 injection h1 with h2 h3
 exact hT h3
def Pts (L:LN)(H:xH):List (O8×LI)->Prop
 | []=>True
 | r::l=>Qu L H r.1 r.2/\Pts L H l
theorem Pts.I {L:LN}{w w':O7}(G:sW w w'):∀{l:List (O8×LI)},Pts L ↑w l->Pts L ↑w' l
 | [],_=>trivial
 | _::_,h=>⟨h.1.I G,Pts.I G h.2⟩
theorem Pts.J {L X:LN}{w w':O7}(G:xh X w w')(hX:∀b∈X,b∈L):∀{l:List (O8×LI)},Pts L ↑w l->Pts L ↑w' l
 | [],_=>trivial
 | _::_,h=>⟨Zu.J h.1 G hX,Pts.J G hX h.2⟩
theorem Pts.grow {X X' Y:LN}{w w':O7}(G:xh Y w w')(I:∀b∈Y,b∈X)(hX:∀b∈X',b∈X\/↑w<=b):∀{l:List (O8×LI)},Pts X ↑w l->Pts X' ↑w' l
 | [],_=>trivial
 | _::_,h=>⟨Zu.grow h.1 G I hX,Pts.grow G I hX h.2⟩
abbrev Yt (N:Nat)(H:xH)(v:O8)(l:LI):Prop:=∀L:LN,(∀b∈L,b<N)->Qu L H v l
theorem Yt.nil (N:Nat)(H:xH):Yt N H (nS) []:=λ_ _=>Zu.nil _ _ _
theorem Yt.S {M:Nat}{H:xH}{v:O8}{l:LI}(h:Yt N H v l)(G:M<=N):Yt M H v l:=λL I=>h L λb hb=>LX (I b hb) G
theorem Yt.ints {H:xH}{v:O8}{l:LI}(h:Yt N H v l):Qu [] H v l:=h [] λ_ hb=>by cases hb
structure QI {α κ:Type}(T sz:Nat)(cel:α->LV)(enc:κ->O8)(key:α->κ)(pts ptn:α->List (O8×LI))(bm:Nat)(w0:O7)(vl:O8)(q:List α)(w:O7):Prop where
 st:sW w0 w
 o:w.ownsRow ↑w0 T sz vl q.length (q.flatMap cel)
 e:∀p∈q,Pts (bm::ob vl) ↑w (pts p)/\∀L:LN,(∀b∈L,b<↑w0)->Pts (L++bm::ob vl) ↑w (ptn p)
 m:X0 enc ↑w bm (q.map key)
 nm:bm∉ob vl
 hb:↑w0<=bm
section
variable {κ:Type}{cel:α->LV}{enc:κ->O8}{key:α->κ}{pts ptn:α->List (O8×LI)}{bm:Nat}{w0 w1 w2 w3:O7}{vl vl':O8}{q:List α}{p:α}
theorem QI.I (h:QI T sz cel enc key pts ptn bm w0 vl q w)(G:sW w w'):QI T sz cel enc key pts ptn bm w0 vl q w' :=
 ⟨h.st.D G,Qm h.o G,λp I=>⟨(h.e p I).1.I G,λL J=>((h.e p I).2 L J).I G⟩,h.m.I G,h.nm,h.hb⟩
theorem QI.lt (h:QI T sz cel enc key pts ptn bm w0 vl q w):∀b∈bm::ob vl,b<w.heap.size:=λb hb=>by
 rcases Ll.1 hb with rfl|hb
 ·exact h.m.lt
 exact QW h.o b hb
theorem Qbk {vl vl':O8}(G:∀b∈ob vl',b∈ob vl\/N<=b):∀b∈bm::ob vl',b∈bm::ob vl\/N<=b:=λb hb=>by
 rcases Ll.1 hb with rfl|hb
 ·exact .inl Lh
 exact(G b hb).imp (Lj _) id
theorem Qbj (L:LN){vl vl':O8}(G:∀b∈ob vl',b∈ob vl\/N<=b):∀b∈L++bm::ob vl',b∈L++bm::ob vl\/N<=b:=λb hb=>by
 rcases Lk.1 hb with hb|hb
 ·exact .inl (Lk.2 (.inl hb))
 exact(Qbk G b hb).imp (λh=>Lk.2 (.inr h)) id
theorem QI.add (h:QI T sz cel enc key pts ptn bm w0 vl q w)(J:xh [bm] w w1)(hm:X0 enc ↑w1 bm (q.map key++[key p]))(I:sW w1 w2)(O:xh (ob vl) w2 w3)(ho:w3.ownsRow ↑w0 T sz vl' (q.length+1) (q.flatMap cel++cel p))
  (V:∀b∈ob vl',b∈ob vl\/↑w2<=b) (Y:Pts (bm::ob vl) ↑w (pts p)/\∀L:LN,(∀b∈L,b<↑w0)->Pts (L++bm::ob vl) ↑w (ptn p)):QI T sz cel enc key pts ptn bm w0 vl' (q++[p]) w3:=by
 have he:=J.size;have hf:=I.size;have hg:=h.m.lt;have k:∀(L:LN) {l:List (O8×LI)},Pts (L++bm::ob vl) ↑w l->Pts (L++bm::ob vl') ↑w3 l:=λL {l} hv =>
  ((hv.J J λb hb=>Lk.2 (.inr (Ll.2 (.inl (Lc.1 hb))))).I I).grow O (λb hb=>Lk.2 (.inr (Lj _ hb))) (Qbj L V)
 refine⟨((h.st.Z J λb hb=>.inr (by rw[Lc.1 hb];exact h.hb)).D I).Z O λb hb=>.inr (Qi h.o b hb).1,?_,λp' G=>?_,?_,λha=>?_,h.hb⟩
 ·rw[LJ,Nf,Le,Lz];exact ho
 ·rcases Lk.1 G with G|G
  ·exact⟨k [] (h.e p' G).1,λL U=>k L ((h.e p' G).2 L U)⟩
  rw[Lc.1 G];exact⟨k [] Y.1,λL U=>k L (Y.2 L U)⟩
 ·rw[Lv];exact(hm.I I).J O h.nm
 rcases V _ ha with h1|h1
 ·exact h.nm h1
 omega
end
theorem yq (L:List (LI×LI))(hd:L.Nodup)(h:∀p∈L,Ss n p.1/\Ss n p.2):L.length<=2 ^ (n+n):=by
 have fil:∀r∈L,∀x,x∈r.1↔x∈(r.1++r.2.map (·+(n:Int)))/\x<(n:Int):=λr I x=>by
  constructor
  ·intro hx;exact⟨Lk.2 (.inl hx),((h r I).1.2 x hx).2⟩
  rintro⟨hx,hf⟩;rcases Lk.1 hx with hx|hx
  ·exact hx
  obtain⟨y,J,rfl⟩:=Lu.1 hx;have:=(h r I).2.2 y J;omega
 have fir:∀r∈L,∀x,x∈r.2↔0<=x/\x+(n:Int)∈(r.1++r.2.map (·+(n:Int))):=λr I x=>by
  constructor
  ·intro hx;exact⟨((h r I).2.2 x hx).1,Lk.2 (.inr (Lu.2 ⟨x,hx,Z⟩))⟩
  rintro⟨h0,hx⟩;rcases Lk.1 hx with hx|hx
  ·have:=(h r I).1.2 _ hx;omega
  obtain⟨y,J,e⟩:=Lu.1 hx;have:y=x:=oa
  exact this ▸ J
 have Y:∀p∈L,∀q∈L,p.1++p.2.map (·+(n:Int))=q.1++q.2.map (·+(n:Int))->p=q:=λp G q O e=>by
  have e1:p.1=q.1:=US (h p G).1.1 (h q O).1.1 λx=>by rw[fil p G,fil q O,e]
  have e2:p.2=q.2:=US (h p G).2.1 (h q O).2.1 λx=>by rw[fir p G,fir q O,e]
  exact Prod.ext e1 e2
 have:=zG (n+n) (L.map λp=>p.1++p.2.map (·+(n:Int))) (by
  unfold List.Nodup;rw[Mi];exact hd.imp_of_mem λ{a b} ha hb he e=>he (Y a ha b hb e)) λl hl=>by
  obtain⟨p,G,rfl⟩:=Lu.1 hl;obtain⟨⟨h1,h2⟩,h3,V⟩:=h p G;refine⟨?_,λx hx=>?_⟩
  ·unfold YD at *;rw[Mt];refine⟨h1,?_,λx hx y J=>?_⟩
   ·rw[Mi];exact h3.imp λh=>oa
   obtain⟨z,U,rfl⟩:=Lu.1 J;have:=h2 x hx;have:=V z U;omega
  rcases Lk.1 hx with hx|hx
  ·have:=h2 x hx;omega
  obtain⟨z,U,rfl⟩:=Lu.1 hx;have:=V z U;omega
 rwa [Lo]at this
theorem Vn:∀n:Nat,4 ^ n=2 ^ (n+n)
 | 0=>rfl
 | n+1=>by rw[ON,Vn n,show n+1+(n+1)=n+n+1+1 by omega,ON,ON];omega
theorem Qo8 (h:n<=9):2 ^ (n+n)<=262144:=LA (Ns oh (show n+n<=18 by omega)) oh
theorem Ss.len {l:LI}(h:Ss n l):l.length<=n:=xN n l (h.1.imp λG e=>oa) h.2
structure DqP (n:Nat)(l:List Dq):Prop where
 s:∀d∈l,Ss n d.1/\Ss n d.2.1
 w:∀d∈l,d.2.2.length<=l.length
 d:(l.map λd=>(d.1,d.2.1)).Nodup
theorem DqP.le {l:List Dq}(h:DqP n l):l.length<=2 ^ (n+n):=by
 have:=yq _ h.d λp G=>by
  obtain⟨d,hd,rfl⟩:=Lu.1 G;exact h.s d hd
 rwa [Lo]at this
theorem VD {l:List Dq}{x y:LI}:Kk l x y=true↔(x,y)∈l.map λd=>(d.1,d.2.1):=by
 unfold Kk;rw[MG,Lu];exact⟨λ⟨d,h1,h2⟩=>⟨d,h1,by have:=O4 h2;rw[this.1,this.2]⟩,λ⟨d,h1,h2⟩=>⟨d,h1,O3 (by cases h2;exact⟨Z,Z⟩)⟩⟩
theorem DqP.add {l:List Dq}(h:DqP n l){x y w:LI}(hx:Ss n x)(G:Ss n y)(I:w.length<=l.length+1)(J:Kk l x y=false):DqP n (l++[(x,y,w)]):=by
 refine⟨λd hd=>?_,λd hd=>?_,?_⟩
 ·rcases Lk.1 hd with hd|hd
  ·exact h.s d hd
  rw[Lc.1 hd];exact⟨hx,G⟩
 ·rw[Le,Lz];rcases Lk.1 hd with hd|hd
  ·have:=h.w d hd;omega
  rw[Lc.1 hd];exact I
 rw[Lv,Mk];refine⟨h.d,oe,λa O b hb e=>?_⟩;rw[NA,Lc]at hb;have:=VD.2 (hb ▸ e ▸ O);rw[J]at this;cases this
theorem DqP.one {x y:LI}(hx:Ss n x)(G:Ss n y):DqP n [(x,y,[])]:=
 ⟨λd hd=>by rw[Lc.1 hd];exact⟨hx,G⟩,λd hd=>by rw[Lc.1 hd];exact Lp _,oe⟩
theorem qh (a:Qz)(o un l:LI)(v:Int):Ss a.st.toNat (vnx a o un l v):=qo _ _
theorem jd {bad:LI->LI->Bool}{f:Nat}{l:List Dq}(h:l.length<=i):dfL a o un bad f i l=none:=by
 cases f with
 | zero=>rfl
 | succ f=>rw[dfL,Mj h]
theorem QbZ {bad:LI->LI->Bool}{f:Nat}{l:List Dq}{x:Dq}(h:l[i]?=some x):dfL a o un bad (f+1) i l=if bad x.1 x.2.1=true then some x.2.2 else dfL a o un bad f (i+1) ((kpt a o).foldl (dfE a o un x) l):=by
 rw[dfL,h]
abbrev DqV:=Dq×O8×O8×O8
abbrev dqC (q:DqV):LV:=[q.2.1,q.2.2.1,q.2.2.2]
abbrev dqL (q:List DqV):List Dq:=q.map (·.1)
theorem Qf4 {f:α->Dq}{q:List α}(h:DqP n (q.map f)){x y:LI}(hx:Ss n x)(O:Ss n y){i:Decidable (koA x y∈q.map λp=>koA (f p).1 (f p).2.1)}:(!@decide _ i)=!Kk (q.map f) x y:=by
 congr 1;have hi:(koA x y∈q.map λp=>koA (f p).1 (f p).2.1)↔Kk (q.map f) x y=true:=by
  rw[VD,MF,Lu,Lu];constructor
  ·rintro⟨p,I,e⟩;have J:=h.s (f p) (LL I);obtain⟨e1,e2⟩:=QnY (λz G=>(J.1.2 z G).1) (λz G=>(J.2.2 z G).1) (λz G=>(hx.2 z G).1) (λz G=>(O.2 z G).1) e;exact⟨p,I,by show((f p).1,(f p).2.1)=_;rw[e1,e2]⟩
  rintro⟨p,I,e⟩;have e':((f p).1,(f p).2.1)=(x,y):=e;injection e' with e1 e2
  exact⟨p,I,by rw[e1,e2]⟩
 cases hb:Kk (q.map f) x y with
 | true=>exact O3 (hi.2 hb)
 | false=>exact O5 λU=>by rw[hi.1 U]at hb;cases hb
abbrev dqP (p:DqV):List (O8×LI):=[(p.2.1,p.1.1),(p.2.2.1,p.1.2.1)]
abbrev dqN (p:DqV):List (O8×LI):=[(p.2.2.2,p.1.2.2)]
abbrev DqI:=QI 361 3 dqC XI (λp:DqV=>koA p.1.1 p.1.2.1) dqP dqN
abbrev Qgv:LV:=[nS,nS,nS]
def dfP (N:Nat)(A B W:LI)(e:Int)(i:Nat)(v:O8)(w:O7):Prop :=
 if i=4 then Qh 3 N w v A else
 if i=9 then Qh 3 N w v B else
 if i=12 then Qh 3 N w v W else
 if i=14 then ∃b,v=sL b 1 1/\N<=b/\QL ↑w b 3 [sS e]else
 if i=15 then Qh 3 N w v (W++[e]) else
 if i=16 then ∃va vb vw,v=.agg #[va,vb,vw]/\Qh 3 N w va A/\Qh 3 N w vb B/\Qh 3 N w vw (W++[e]) else
 ∃b,v=sP b/\N<=b/\QL ↑w b 361 Qgv
theorem Qlz {A B W:LI}{e:Int}(i:Nat)(v:O8)(own:LN)(w w':O7)(h:dfP N A B W e i v w)(G:xh own w w')(hb:∀b∈ow v,b∉own)(I:i∈[16]->own=[]):dfP N A B W e i v w':=by
 have k:∀{l:LI},Qh 3 N w v l->Qh 3 N w' v l:=λJ=>Qg J G λb O=>hb b (yu O);unfold dfP at *;by_cases e4:i=4
 ·rw[O0 e4]at *;exact k h
 rw[OZ e4]at *;by_cases e9:i=9
 ·rw[O0 e9]at *;exact k h
 rw[OZ e9]at *;by_cases e12:i=12
 ·rw[O0 e12]at *;exact k h
 rw[OZ e12]at *;by_cases e14:i=14
 ·rw[O0 e14]at *;obtain⟨b,rfl,h1,h2⟩:=h;exact⟨b,rfl,h1,h2.J G (hb b Lh)⟩
 rw[OZ e14]at *;by_cases e15:i=15
 ·rw[O0 e15]at *;exact k h
 rw[OZ e15]at *;by_cases e16:i=16
 ·rw[O0 e16]at *;obtain⟨va,vb,vw,rfl,h1,h2,U⟩:=h;have:=I (by rw[e16];exact Lh);subst this;exact⟨va,vb,vw,Z,Qm h1 G,Qm h2 G,Qm U G⟩
 rw[OZ e16]at *;obtain⟨b,rfl,h1,h2⟩:=h;exact⟨b,Z,h1,h2.J G (hb b Lh)⟩
theorem Qia [Fu sV gp fn]{bad:LI->LI->Bool}{V:VwV}{A B:LI}(h:VwA ↑w V)(hA:Qu [] ↑w va A)(U:Qu [] ↑w vb B)(hV:Ss V.a.st.toNat A)(hX:Ss V.a.st.toNat B)(h9:V.a.st<=9)(ka:V.a.ed.length<=1000)
  (hk:∀(X Y:LI) (vx vy:O8) (W:O7),sW w W->Qu [] ↑W vx X->Qu [] ↑W vy Y->QT sV gp ([vx,vy]++cap) W λr w'=>r=.bool (bad X Y)/\sW W w'):
  QT sV 204 [.pointer (some ⟨V.b,0,none⟩),va,vb,.func (.func gp) #[] cap.toArray] w λr w'=>sW w w'/\∃vw,r=.tuple #[vw,.bool (dff V.a V.o V.un A B bad).isSome]/\Yt ↑w ↑w' vw ((dff V.a V.o V.un A B bad).getD []):=by
 have hok:=h.ok;have hst0:=hok.st0;obtain⟨n,hn⟩:∃n:Nat,V.a.st.toNat=n:=⟨_,Z⟩;have mj:n<=9:=oa
 have hna:V.a.st=(n:Int):=oa
 rw[hn]at hV hX;have hp18:=Qo8 mj;have mo:dff V.a V.o V.un A B bad=dfL V.a V.o V.un bad (2 ^ (n+n)+1) 0 [(A,B,[])]:=by unfold dff;rw[hn,Vn]
 rw[mo];refine Zh (dfL V.a V.o V.un bad (2 ^ (n+n)+1) 0 [(A,B,[])]) λR hR=>?_;rw[hR];have hAl:=hV.len;have hBl:=hX.len;refine Zo func204 ?_;refine Qc<|x Qd<|Qb<|Ql<|Qa<|x (QC ⟨hA.cells,U.cells,La⟩)<|Qo<|Q5 [[va,vb,ZX]] λhY w1 mq ms kb=>Qb<|Qc<|Qo<|Z1 XI λbm w2 mt hbm kc=>Qa<|Qa<|Qo<|Yq (us:=[[va],[vb]]) Z Z oh oe ⟨hA.cells,rfl,U.cells,rfl,La⟩ λb24 w3 ke hb24 mu=>?_;have h6:=mt.D ke;have gm:=mq.D h6;have hl20:=kb.lt;have hlm:=kc.lt;refine K7<|(UH (m:=100) (mu.arr oe (n:=2) (cap:=2) (sz:=1) rfl oh (Lr _)) (hA.I gm) (U.I gm) (.inl (MA _)) (λz hz=>oq (hV.2 z hz)) (λz hz=>oq (hX.2 z hz)) oa oa).S ?_;rintro _ w4 ⟨rfl,gn⟩;refine Qo<|Qbs (k:=koA A B) (X0.zero ((kc.I ke).I gn)) Z Z Z λw5 kf mv=>Qa<|Qb ?_;have mw:=gm.D gn;have kg:sW w w5:=mw.O kf oa;have kh:∀{L:LN} {v:O8} {l:LI},(∀b∈L,↑w<=b)->Qu [] ↑w v l->Qu L ↑w5 v l:=λhL hv=>(hv.up λb hb=>.inr (hL b hb)).I kg;have my:DqI bm w (sL hY 1 1) [((A,B,[]),va,vb,ZX)] w5:=by
  have hL:∀b∈bm::ob (sL hY 1 1),↑w<=b:=λb hb=>by
   rcases Ll.1 hb with rfl|hb
   ·omega
   rw[Lc.1 hb];exact ms
  have ki:hY≠bm:=oa
  refine⟨kg,(((kb.I h6).I gn).J kf (by simp only[oH];exact ki)).own (n:=1) (sz:=3) Z oa oa,λp hp=>?_,mv,λI=>ki (Lc.1 I).symm,oa⟩;rw[Lc.1 hp];exact⟨⟨kh hL hA,kh hL U,La⟩,λ_ _=>⟨Zu.nil _ _ _,La⟩⟩
 refine Qe<|Qc<|Qb<|QZ (α:=Nat×O8×List DqV) [(8,10),(12,13),(15,16),(27,99)] (λz=>[(10,z.2.1),(12,sS z.1)]) (λz w'=>z.1<=z.2.2.length/\DqI bm w z.2.1 z.2.2 w'/\DqP n (dqL z.2.2)/\dfL V.a V.o V.un bad (2 ^ (n+n)+1 - z.1) z.1 (dqL z.2.2)=R) (λz=>2 ^ (n+n)+1 - z.1) (0,sL hY 1 1,[((A,B,[]),va,vb,ZX)]) oy ⟨Lp _,my,DqP.one hV hX,hR⟩ ?_;rintro⟨i,vl,q⟩ g w6 ⟨hi,h7,hK,ha⟩;simp only[]at hi h7 hK ha;have hql:q.length<=2 ^ (n+n):=by have:=hK.le;rwa [Lo]at this
 have kj:Zu [] ↑w6 vl q.length 3 (q.flatMap dqC):=QN h7.o oa oe;refine Qe<|Ql<|Qa<|QG kj Z<|ZY Z Z<|xe<|Zp rfl (λgq=>?_) (λgq=>?_)
 ·refine Qt ?_;have mz:q.length<=i:=by have hM:¬(i:Int)<(q.length:Int):=gq;omega
  rw[jd (by rw[Lo];exact mz)]at ha;refine Qc<|x Qd<|Qb<|Qk ⟨[ZX,.bool false],oy,h7.st,ZX,?_,?_⟩
  ·rw[<-ha];rfl
  rw[<-ha];exact Yt.nil _ _
 have hN:i<q.length:=by have hM:(i:Int)<(q.length:Int):=gq;omega
 have m0:2 ^ (n+n)+1 - i=(2 ^ (n+n)+1 - (i+1))+1:=oa
 have hO:=Lm hN;have kk:(dqL q)[i]?=some (q[i]'hN).1:=by rw[MM,LE hN];rfl
 refine Zh (q[i]'hN) λd hp=>?_;rw[hp]at hO kk;rw[m0,QbZ kk]at ha;obtain⟨⟨kn,ko,_⟩,kq⟩:=h7.e d hO;have m1:=(kq [] (λ_ hb=>by cases hb)).1;have hZ:=hK.s d.1 (LL hO);have m2:=hK.w d.1 (LL hO);rw[Lo]at m2;have hl1:=hZ.1.len;have hl2:=hZ.2.len;have hr:∀{v:O8} {l:LI} {L:LN} {H:xH},Qu L H v l->Qu [] H v l:=λhv=>hv.up λb hb=>by cases hb
 refine Qf<|Qe<|Qn<|Ql<|Qa<|xp (g:=dqC) (i:=i) (λ_=>Z) kj Z Z hN λa35 kr=>?_;rw[hp]at kr;refine x (QF (us:=dqC d) kr Z Z)<|QV Qgv λga w7 m3 m4 m5=>Q6 (dqC d) m5 ⟨kn.one,ko.one,m1.one,La⟩ λw8 m6 gr=>xe ?_;have gb:sW w6 w8:=m3.O m6 m4;have kt:=h7.I gb;refine Qe<|Ql<|Qs Z gr Z Z<|Qs Z gr Z Z<|Qo<|xc (first:=[]) (capt:=cap) Z<|(hk d.1.1 d.1.2.1 _ _ w8 kt.st (hr (kn.I gb)) (hr (ko.I gb))).S ?_;rintro _ w9 ⟨rfl,gs⟩;refine xe ?_;have gc:=kt.I gs;have ku:=gr.I gs;have m7:=gb.D gs;refine Q8 rfl (λgt=>?_) (λgt=>?_)
 ·rw[O0 gt]at ha;refine Qc<|Qs Z ku Z Z<|x Qd<|Qb<|Qk ⟨[d.2.2.2,.bool true],oy,gc.st,d.2.2.2,?_,?_⟩
  ·rw[<-ha];rfl
  rw[<-ha];exact λL hL=>((kq L hL).1.I m7).up λb hb=>.inl (Lk.2 (.inl hb))
 rw[OZ (λh:bad d.1.1 d.1.2.1=true=>MY (gt.symm.D h))]at ha;refine Qf<|Ql<|K7<|(jY (h.I gc.st)).S ?_;rintro kv m8 ⟨kw,m9⟩;have hal:=hok.al_le;have pc:(kpt V.a V.o).length<=V.a.al.length:=LO _ _;have pd:=gc.lt;have gu:Qu (bm::ob vl) ↑m8 kv (kpt V.a V.o):=Qh.ints m9 oa pd;refine Zh (kpt V.a V.o) λks pf=>?_;rw[pf]at ha gu pc;refine QG gu Z<|Qa<|xe ?_;have pg:=h7.lt;have ph:ga∉bm::ob vl:=λI=>oq (pg _ I)
 refine QZ (α:=Nat×O8×List DqV) [(10,10),(15,16),(48,99)] (λz=>[(10,z.2.1),(48,sS z.1)]) (λz w'=>z.1<=ks.length/\DqI bm w z.2.1 z.2.2 w'/\DqP n (dqL z.2.2)/\d∈z.2.2/\q.length<=z.2.2.length/\QL ↑w' ga 361 (dqC d)/\ga∉bm::ob z.2.1/\Qu (bm::ob z.2.1) ↑w' kv ks/\(ks.drop z.1).foldl (dfE V.a V.o V.un d.1) (dqL z.2.2)=ks.foldl (dfE V.a V.o V.un d.1) (dqL q)) (λz=>ks.length - z.1) (0,vl,q) oy
  ⟨Lp _,gc.I kw,hK,hO,Lr _,ku.I kw,ph,gu,Z⟩ ?_
 rintro⟨j,vj,qj⟩ g J ⟨hj,hw,h8,ge,kx,hC,hD,gg,hg⟩;simp only[]at hj hw h8 ge kx hD gg hg;have hqjl:qj.length<=2 ^ (n+n):=by have:=h8.le;rwa [Lo]at this
 refine Zj rfl Z (λgv=>?_) (λgv=>?_)
 ·refine Qt ?_;have pn:ks.length<=j:=by have hM:¬(j:Int)<(ks.length:Int):=gv;omega
  rw[Lx pn]at hg;have po:dqL qj=ks.foldl (dfE V.a V.o V.un d.1) (dqL q):=hg;rw[<-po]at ha;refine Qr<|Qa<|QB Z Z<|Qb<|⟨(i+1,vj,qj),by show 2 ^ (n+n)+1 - (i+1)<2 ^ (n+n)+1 - i;omega,oy,by show i+1<=qj.length;omega,hw,h8,ha⟩
 have hP:j<ks.length:=by have hM:(j:Int)<(ks.length:Int):=gv;omega
 rw[QX hP,LP]at hg;refine Qf<|Qe<|Qn<|Qc<|xii (i:=j) gg Z Z hP λa50 kz=>?_;refine Zh (ks[j]'hP) λv hv=>?_;rw[hv]at kz hg;refine x (Qq kz Z)<|Qb ?_;obtain⟨⟨pp,pt,_⟩,pu⟩:=hw.e d ge;have pw:=(pu [] (λ_ hb=>by cases hb)).1;have k0:∀l:LI,Ss n (vnx V.a V.o V.un l v):=λl=>by rw[<-hn];exact qh _ _ _ _ _
 have hE:=k0 d.1.1;have hF:=k0 d.1.2.1;have k4:dfE V.a V.o V.un d.1 (dqL qj) v=if(vnx V.a V.o V.un d.1.1 v).length+(vnx V.a V.o V.un d.1.2.1 v).length > 0/\Kk (dqL qj) (vnx V.a V.o V.un d.1.1 v) (vnx V.a V.o V.un d.1.2.1 v)=false then dqL qj++[(vnx V.a V.o V.un d.1.1 v,vnx V.a V.o V.un d.1.2.1 v,d.1.2.2++[v])]else dqL qj:=rfl
 have pz:∀z∈d.1.1,0<=z/\z<V.a.st:=λz hz=>oq (hZ.1.2 z hz)
 have p0:∀z∈d.1.2.1,0<=z/\z<V.a.st:=λz hz=>oq (hZ.2.2 z hz)
 have k5:∀W:O7,sW J W->QT sV 136 [.pointer (some ⟨V.b,0,none⟩),d.2.1,sS v] W λr w'=>sW W w'/\Qh 3 ↑W w' r (vnx V.a V.o V.un d.1.1 v):=λW hW=>qg (est:=d.1.1) (h.I (hw.st.D hW)) (hr (pp.I hW)) pz oa ka v;have k6:∀W:O7,sW J W->QT sV 136 [.pointer (some ⟨V.b,0,none⟩),d.2.2.1,sS v] W λr w'=>sW W w'/\Qh 3 ↑W w' r (vnx V.a V.o V.un d.1.2.1 v):=λW hW=>qg (est:=d.1.2.1) (h.I (hw.st.D hW)) (hr (pt.I hW)) p0 oa ka v;refine Zh (vnx V.a V.o V.un d.1.1 v) λA' gx=>?_;refine Zh (vnx V.a V.o V.un d.1.2.1 v) λB' gy=>?_;rw[gx,gy]at k4;rw[gx]at hE;rw[gy]at hF;simp only[gx]at k5;simp only[gy]at k6;rw[k4]at hg;have hAl':=hE.len;have hBl':=hF.len;have p4:=hw.st.size;refine Qe<|jv (α:=O8×O8×O8×Nat) (sW J) (sW J) ↑J [oB 0,oB 1,oB 2,oB 3,oB 5,oB 6,oB 7,oB 8,oB 10,oB 11,oB 13] (λi=>if i=9 then[4]else if i=12 then[9]else if i=15 then[12,14]else if i=16 then[4,9,15]else[]) (λi=>if i=15 then[12]else[]) [4,9,12,14,15,16,17] [16,17] [16] [oC 18] [(56,56),(61,61),(64,64),(66,68),(16,16)] (dfP ↑J A' B' d.1.2.2 v)
  (λz=>[(68,.agg #[z.1,z.2.1,z.2.2.1]),(16,.pointer (some ⟨z.2.2.2,0,none⟩))]) (λz w'=>Qh 3 ↑J w' z.1 A'/\Qh 3 ↑J w' z.2.1 B'/\Qh 3 ↑J w' z.2.2.1 (d.1.2.2++[v])/\↑J<=z.2.2.2/\QL ↑w' z.2.2.2 361 Qgv)
  mixed ol od (xh.Y _ _) (λ_ h=>h) (λ_ _ _ _ _ hc O hb _=>hc.Z O λb p5=>.inr (hb b p5)) (λ_ hc=>hc.size) (λi _=>Qlz i) ?_ ?_
 ·rintro g w' ⟨⟨he,hf,hh,p6,h1,h2,h3⟩,⟨b,p7,hb,U⟩,_⟩ _ _;exact⟨(he,hf,hh,b),⟨p6,p7,La⟩,h1,h2,h3,hb,U⟩
 refine p Qy<|p (QH Z)<|pq (λ_ hc=>Qj (hC.I hc) Z Z)<|p Qy<|p Qy<|p (QH Z)<|pq (λ_ hc=>Qj (hC.I hc) Z Z)<|p Qy <|
  p (QH rfl)<|pq (λ_ hc=>Qj (hC.I hc) Z Z)<|p Qy<|pe ⟨⟨?_,?_,?_,?_,?_,?_,?_,La⟩,?_⟩
 ·rintro g w' hc _ _;exact xf<|(k5 w' hc).S λr hQ ⟨O,G⟩=>⟨O,Za G hc.size,λb hb=>⟨.inl (Je G b hb).1,(Je G b hb).2⟩⟩
 ·rintro g w' hc _ _;exact xf<|(k6 w' hc).S λr hQ ⟨O,G⟩=>⟨O,Za G hc.size,λb hb=>⟨.inl (Je G b hb).1,(Je G b hb).2⟩⟩
 ·rintro g w' hc _ _;exact xf<|(Z0 (pw.I hc)).S λr hQ ⟨O,G⟩=>⟨O,Za G hc.size,λb hb=>⟨.inl (Je G b hb).1,(Je G b hb).2⟩⟩
 ·rintro g w' hc _ _;exact Q5 [[sS v]] λb hQ O hb U=>⟨O,⟨b,Z,LA hc.size hb,U⟩,λc hS=>by rw[Lc.1 (show c∈[b] from hS)];exact⟨.inl hb,U.lt⟩⟩
 ·rintro g w' hc ⟨p8,⟨b,p9,hb14,qf⟩,_⟩ _;refine Q2 (m:=1) (news:=[sS v]) (L:=[]) (show Qh _ _ _ _ _ from p8) Z p9 Z (qf.at oe) oo oa hc.size λr hQ G O hn=>⟨O.S λb hb=>Mg.2 ⟨12,Lh,yu hb⟩,Qh.snoc G,λb hb=>⟨?_,(Je G b hb).2⟩⟩;exact(hn b (QeO G hb)).symm.imp id λh=>Mg.2 ⟨12,Lh,yu h⟩
 ·rintro g w' hc ⟨h4,h9,k9,_⟩ _;refine xv (QC ⟨xS (show Qh _ _ _ _ _ from h4),xS (show Qh _ _ _ _ _ from h9),xS (show Qh _ _ _ _ _ from k9),La⟩) ?_;exact⟨xh.C _ _,⟨_,_,_,Z,h4,h9,k9⟩,λc hS=>by cases hS⟩
 ·rintro g w' hc _ _;exact Y0 (us:=Qgv) Z λb hQ O hb U=>⟨O,⟨b,Z,LA hc.size hb,U⟩,λc hS=>by rw[Lc.1 (show c∈[b] from hS)];exact⟨.inl hb,U.lt⟩⟩
 rintro⟨he,hf,hh,b16⟩ g ql ma ⟨gz,g0,g2,gh,g3⟩;simp only[]at gz g0 g2 gh g3;refine pk<|qB [he,hf,hh] g3 ⟨QA gz,QA g0,QA g2,La⟩ λhG h6 hH=>⟨ma.O h6 gh,pe ?_⟩;have hT:sW J hG:=ma.O h6 gh;have g4:∀{u:O8} {l:LI},Qh 3 ↑J ql u l->Qh 3 ↑J hG u l:=λG=>Qg G h6 λb hb I=>Ud G g3 oh (Lc.1 I ▸ hb);have q4:=g4 gz;have q5:=g4 g0;have mc:=g4 g2;have j1:(d.1.2.2++[v]).length<=qj.length+1:=by rw[Le,Lz];omega
 have g5:=hw.I hT;have hU:=hw.lt;have h0:Qu (bm::ob vj) ↑hG he A':=Qh.ints q4 oa hU;have h5:Qu (bm::ob vj) ↑hG hf B':=Qh.ints q5 oa hU;have j2:Qu (bm::ob vj) ↑hG hh (d.1.2.2++[v]):=Qh.ints mc oa hU;have gi:∀{l:LI},Ss n l->∀z∈l,0<=z/\z<(100:Int):=λhl z hz=>oq (hl.2 z hz)
 refine QY (α:=Unit) [(69,87)] (λ_=>[(87,.bool (decide (A'.length+B'.length > 0/\Kk (dqL qj) A' B'=false)))]) (λ_ w'=>sW hG w') ol ?_ ?_
 ·refine Qr<|Qs Z hH Z Z<|QG h0 Z<|Qs Z hH Z Z<|QG h5 Z<|QB Z Z<|xb (Ya Z Z) (λg6=>?_) (λg6=>?_)
  ·refine Qa<|Qa<|Qs Z hH Z Z<|Qs Z hH Z Z<|Qo<|Yq (us:=[[he],[hf]]) Z Z oh oe ⟨h0.cells,rfl,h5.cells,rfl,La⟩ λb83 j3 hq hb83 j4=>?_;refine K7<|(UH (m:=100) (j4.arr oe (n:=2) (cap:=2) (sz:=1) rfl oh (Lr _)) (hr (h0.I hq)) (hr (h5.I hq)) (.inl (MA _)) (gi hE) (gi hF) oa oa).S ?_;rintro _ za ⟨rfl,gj⟩;refine x (Qbg (k:=koA A' B') ((g5.m.I hq).I gj) Z Z)<|x (Zl Z)<|QE Z<|xe<|⟨(),⟨O1 Value.bool ?_,La⟩,hq.D gj⟩;refine(Qf4 (f:=Prod.fst) h8 hE hF).D ?_;have z0:A'.length+B'.length > 0:=by have hM:(A'.length:Int)+(B'.length:Int) > 0:=g6;omega
   cases hse:Kk (dqL qj) A' B' with
   | true=>exact bF λh=>by cases h.2
   | false=>exact bT ⟨z0,Z⟩
  refine Qa<|Zz<|Zz<|Zz<|QE Z<|xe ?_;exact⟨(),⟨O1 Value.bool (bF λh=>by have hM:¬(A'.length:Int)+(B'.length:Int) > 0:=g6;have:=h.1;omega),La⟩,xh.C _ _⟩
 rintro _ g j3 hq;have mf:=hT.D hq;have z1:=g5.I hq;refine Zp rfl (λgk=>?_) (λgk=>?_)
 ·rw[OZ gk]at hg;refine Qf<|Qr<|QB Z Z<|Qa<|xe ?_;exact⟨(j+1,vj,qj),by show ks.length - (j+1)<ks.length - j;omega,oy,hP,z1,h8,ge,kx,hC.I mf,hD,gg.I mf,hg⟩
 rw[O0 gk]at hg;have mg:=hH.I hq;refine Ql<|Qs Z mg Z Z<|Qs Z mg Z Z<|Qo<|Yq (us:=[[he],[hf]]) Z Z oh oe ⟨h0.cells,rfl,h5.cells,rfl,La⟩ λb93 za gj hb93 z2=>?_;have g7:=hq.D gj;refine K7<|(UH (m:=100) (z2.arr oe (n:=2) (cap:=2) (sz:=1) rfl oh (Lr _)) (hr (h0.I g7)) (hr (h5.I g7)) (.inl (MA _)) (gi hE) (gi hF) oa oa).S ?_;rintro _ w16 ⟨rfl,z3⟩;have hy:=g7.D z3;have gl:=g5.I hy;refine Qo<|yy (k:=koA A' B') gl.m Z Z Z λw17 hI z4=>xe ?_;have z5:b16∉[bm]:=λI=>by have:=hU bm Lh;rw[Lc.1 I]at gh;omega
 have hB1617:=(hH.I hy).J hI z5;have hz13:=hT.size;have hz16:=hy.size;have hz17:=hI.size;refine Qr<|Qa<|Q7 hB1617 Z Z<|Qo<|Q5 [[he,hf,hh]] λb97 w18 hJ hb97 hB97 =>
  Qo<|Q2 (m:=1) (news:=[he,hf,hh]) (L:=[]) (Qm (Qg gl.o hI λb hb I=>gl.nm (Lc.1 I ▸ hb)) hJ) Z Z Z (hB97.at oe) (λu hu=>ZN.all (us:=[he,hf,hh]) ⟨h0.one,h5.one,j2.one,La⟩ u hu) oa (oq hJ.size) λvr w19 ho19 g8 g9=>Qb<|Qr<|QB Z Z<|Qa<|xe ?_
 have hz18:=hJ.size;have hnew:=gl.add (p:=((A',B',d.1.2.2++[v]),he,hf,hh)) hI z4 hJ g8 ho19 g9 ⟨⟨h0.I hy,h5.I hy,La⟩,λL hL=>⟨(Qh.ints mc oa λb hb=>(Lk.1 hb).elim (λh=>LX (hL b h) p4) (hU b)).I hy,La⟩⟩;have h13w:ga<J.heap.size:=hC.lt;have mh:∀b∈[bm],b∈bm::ob vj:=λb hb=>by rw[Lc.1 hb];exact Lh
 refine⟨(j+1,vr,qj++[((A',B',d.1.2.2++[v]),he,hf,hh)]),by show ks.length - (j+1)<ks.length - j;omega,oy,hP,hnew,?_,Lk.2 (.inl ge),by rw[Le];omega,?_,λI=>?_,?_,?_⟩
 ·show DqP n (OY _ (qj++[_]));rw[Lv];exact h8.add hE hF (by rw[Lo];exact j1) gk.2
 ·exact((((hC.I hT).I hy).J hI λI=>hD (mh _ I)).I hJ).J g8 λI=>hD (Lj _ I)
 ·rcases Ll.1 I with e|I
  ·exact hD (e ▸ Lh)
  rcases g9 _ I with h1|h1
  ·exact hD (Lj _ h1)
  omega
 ·exact Zu.grow ((((gg.I hT).I hy).J hI mh).I hJ) g8 (λb hb=>Lj _ hb) (Qbk g9)
 show(ks.drop (j+1)).foldl (dfE V.a V.o V.un d.1) (OY _ (qj++[_]))=_;rw[Lv];exact hg
theorem QrX {b:Bool}(h:(!b)=true):b=false:=by cases b <;> first|rfl|cases h
theorem QrY {b:Bool}(h:(!b)=false):b=true:=by cases b <;> first|rfl|cases h
theorem V6 (a:Qz)(o un l:LI)(b:Bool):Ss a.st.toNat (vcl a o un l b):=qo _ _
theorem QiJ {V:VwV}(h:VwA ↑w V)(hE:Qu [] ↑w ve est)(hs:Ss V.a.st.toNat est)(h0:0<=s)(h1:s<V.a.st)(h9:V.a.st<=9)(hg:V.a.ed.length<=1000):
  QT sV 134 [.pointer (some ⟨V.b,0,none⟩),ve,sS s] w λr w'=>sW w w'/\∃vw,r=.tuple #[vw,.bool (rft V.a V.o V.un est s).isSome]/\Yt ↑w ↑w' vw ((rft V.a V.o V.un est s).getD []):=by
 have hn:=h.ok.st0;have O:=V6 V.a V.o V.un [s] false;have ho:=O.len;refine Zo func134 ?_;refine Qc<|Zd [.pointer (some ⟨V.b,0,none⟩)] λb3 w1 U hp J=>x Qd<|Qb<|Qe<|ZJ [] [oB 0,oB 1,oB 2,oB 3,oB 6,oC 4,oC 5,oC 7,oB 8,oB 9,oB 10,oB 11]<|pq (λ_ hc=>Qj (J.I hc) Z Z)<|p Qy<|pq (λ_ hc=>Qj (J.I hc) Z Z)<|p Qy <|
  p (λ_=>Zk (l:=[]) (l':=[.tmp 3]))<|pk<|Q5 [[sS s]] λhq w2 ha hr hh=>⟨(xh.Y _ _).D ha,?_⟩
 have he:sW w1 w2:=(xh.Y _ _).D ha;have hj:=U.D he;refine pk<|xg<|(K9 (only:=false) (l:=[s]) (h.I hj) (hh.arr oe (n:=1) (cap:=1) (sz:=1) rfl oh (OH _)) (λz hz=>by rw[List.mem_singleton.1 hz];exact⟨h0,h1⟩) oe).S ?_;rintro v3 w3 ⟨hk,hm⟩;have I:=he.D hk;have G:=U.D I;refine⟨I,?_⟩;refine pk<|xg<|(Qia (cap:=[sP b3]) (bad:=Qah V.a) (h.I G) (hE.I G) (Qh.ints hm oa oe) hs O h9 hg
  (λX Y vx vy W hW hx hy=>QiN (h.I (G.D hW)) ((J.I I).I hW) hx hy)).S ?_
 rintro r4 w4 ⟨hf,vw,rfl,hw⟩;refine⟨I.D hf,?_⟩;refine p (λ_=>Q0 Z Z)<|p (λ_=>Q0 Z Z)<|p ZK<|p ZK<|pe ?_;exact Qk ⟨[vw,_],oy,G.D hf,vw,Z,hw.S G.size⟩
theorem QiM {V:VwV}{v:Int}(h:VwA ↑w V)(h0:0<=s)(h1:s<V.a.st)(h9:V.a.st<=9):
  QT sV 137 [.pointer (some ⟨V.b,0,none⟩),sS s,sS v] w λr w'=>r=.bool (ctd V.a V.o V.un s v)/\sW w w':=by
 have hE:=h.ok.st0;have hp:=V6 V.a V.o V.un [s] false;have hq:=V6 V.a V.o V.un [s] true;have hF:=hp.len;have hG:=hq.len;have hr:∀z∈[s],0<=z/\z<V.a.st:=λz J=>by rw[Lc.1 J];exact⟨h0,h1⟩
 refine Zo func137 ?_;refine Qc<|Zd [.pointer (some ⟨V.b,0,none⟩)] λb3 w1 hy hH h4=>Zd [sS v] λb5 G hs hI hj=>Qb ?_;have U:=hy.D hs;have O:=h4.I hs;have I:sW G { G with drawn:=G.drawn+1 }:=xh.Y _ _
 refine Qe<|QY (α:=Unit) [(8,20)] (λ_=>[(20,.bool (!(decide (v∈V.o) && decide (v∈V.un))))]) (λ_ w'=>sW G w') ol ?_ ?_
 ·refine ZJ [] (Xk 0 13 [2,10])<|pq (λ_ hc=>Qj (O.I hc) Z Z)<|pq (λ_ hc=>Qj (hj.I hc) Z Z)<|pk<|xg<|(zQ (w:={ G with drawn:=G.drawn+1 }) ((h.I U).I I) v).S ?_
  rintro _ w3 ⟨rfl,rfl⟩;refine⟨I,?_⟩;refine pB (λ_=>Zl Z) (λhk=>?_) (λhk=>?_)
  ·refine p Qy<|ps<|ps<|ps<|ps<|ps<|ps<|ps<|p (YY Z)<|pe ?_;exact⟨(),⟨O1 Value.bool (by rw[O5 (VF hk)];rfl),La⟩,I⟩
  refine p Qy<|pq (λ_ hc=>Qj (O.I hc) Z Z)<|p (YR Z)<|p (QH Z)<|pq (λ_ hc=>Qj ((h.blk.I U).I hc) Z Z) <|
   pq (λ_ hc=>Qj (hj.I hc) Z Z)<|pk<|xg<|(ZF (w:={ G with drawn:=G.drawn+1 }) ((h.u.I U).I I) v).S ?_
  rintro _ w4 ⟨rfl,rfl⟩;refine⟨I,?_⟩;refine p (λ_=>Zl Z)<|p (YY Z)<|pe ?_;exact⟨(),⟨O1 Value.bool (by rw[O3 (Ks hk),OQ]),La⟩,I⟩
 rintro _ g w3 hm;have Y:=U.D hm;have hct:ctd V.a V.o V.un s v=((decide (v∈V.o) && decide (v∈V.un)) && (psb V.a v (vcl V.a V.o V.un [s] false) && !psb V.a v (vcl V.a V.o V.un [s] true))):=(Bool.and_assoc _ _ _).symm;refine Q8 rfl (λhn=>?_) (λhn=>?_)
 ·refine Qc<|Qb<|Qk ⟨[.bool false],Lb,O1 Value.bool ?_,Y⟩;rw[hct,QrX hn];rfl
 rw[QrY hn,OQ]at hct;rw[hct];refine Qf<|Qc<|x (Zk (l:=[]) (l':=[.tmp 3,.tmp 5]))<|Qb ?_;have ha:=O.I hm;have hu:=hj.I hm;have h3:=h.I Y;refine QY (α:=Unit) [(6,6),(22,36)] (λ_=>[(6,.bool (psb V.a v (vcl V.a V.o V.un [s] false) && !psb V.a v (vcl V.a V.o V.un [s] true)))]) (λ_ w'=>sW w w') ol ?_ ?_
 ·refine Qr<|Qa<|ZC ha Z Z<|Qa<|Qo<|Q5 [[sS s]] λhJ w6 hv hK h5 =>
   Qx<|(K9 (only:=false) (l:=[s]) (h3.I hv) (h5.arr oe (n:=1) (cap:=1) (sz:=1) rfl oh (Lr _)) hr oe).S ?_
  rintro v7 w7 ⟨h6,h7⟩;have he:=hv.D h6;refine Qo<|xc (first:=[]) (capt:=[sP b3,sP b5]) Z<|(Qcq (h3.I he) (ha.I he) (hu.I he) (Qh.ints h7 oa oe) (λz J=>oq (hp.2 z J))).S ?_;rintro r8 w8 ⟨hf,h8⟩;have hg:=he.D h8;refine QbT (psb V.a v (vcl V.a V.o V.un [s] false)) (λho=>?_) (λho=>?_)
  ·rw[ho]at hf ⊢;subst hf;refine Qa<|Qa<|ZC (ha.I hg) Z Z<|Qa<|Qo<|Q5 [[sS s]] λhL w9 hw hM O =>
    Qx<|(K9 (only:=true) (l:=[s]) ((h3.I hg).I hw) (O.arr oe (n:=1) (cap:=1) (sz:=1) rfl oh (Lr _)) hr oe).S ?_
   rintro hN hO ⟨hA,hB⟩;have hh:=(hg.D hw).D hA;refine Qo<|xc (first:=[]) (capt:=[sP b3,sP b5]) Z<|(Qcq (h3.I hh) (ha.I hh) (hu.I hh) (Qh.ints hB oa oe) (λz J=>oq (hq.2 z J))).S ?_;rintro _ hP ⟨rfl,hC⟩;refine x (Zl Z)<|QE Z<|Qb<|⟨(),Lb,Y.D (hh.D hC)⟩
  rw[ho]at hf ⊢;subst hf;refine Qa<|Zz<|Zz<|Kg<|QE Z<|Qb<|⟨(),Lb,Y.D hg⟩
 rintro _ g hQ hD;exact Qk ⟨[_],Lb,Z,hD⟩
abbrev QfC:=jS×O8×O8
abbrev pcC (q:QfC):LV:=[sS q.1.1,q.2.1,q.2.2]
abbrev pcD (z:jS):Dq:=([z.1],z.2.1,z.2.2)
abbrev pcF (p:QfC):Dq:=pcD p.1
abbrev pcK (p:QfC):ByteArray:=koA [p.1.1] p.1.2.1
abbrev pcP (p:QfC):List (O8×LI):=[(p.2.1,p.1.2.1)]
abbrev pcN (p:QfC):List (O8×LI):=[(p.2.2,p.1.2.2)]
abbrev PcI:=QI 239 3 pcC XI pcK pcP pcN
theorem Qf5 (l:List jS)(s:Int)(t:LI):ye l s t=Kk (l.map pcD) [s] t:=by
 unfold ye Kk;rw[List.any_map];congr 1;funext z;exact decide_eq_decide.2 ⟨λh=>⟨by show[z.1]=_;rw[h.1],h.2⟩,λh=>⟨(List.cons.inj h.1).1,h.2⟩⟩
theorem Ss.one (G:0<=s)(h1:s<(n:Int)):Ss n [s]:=⟨Na _ _,λx hx=>by rw[Lc.1 hx];exact⟨G,h1⟩⟩
theorem yv {f:Nat}{l:List jS}(h:l.length<=i):obL a o un f i l=none:=by
 cases f with
 | zero=>rfl
 | succ f=>rw[obL,Mj h]
theorem UF {f:Nat}{l:List jS}{z:jS}{t:LI}(h:l[i]?=some z)(ht:rft a o un z.2.1 z.1=some t):obL a o un (f+1) i l=some (z.2.2,t):=by
 rw[obL,h];simp only[ht]
theorem UG {f:Nat}{l:List jS}{z:jS}(h:l[i]?=some z)(ht:rft a o un z.2.1 z.1=none):obL a o un (f+1) i l=obL a o un f (i+1) ((QK a.ed z.1).foldl (obE a o un z) l):=by
 rw[obL,h];simp only[ht]
def Qnx (N:Nat)(W:LI)(e s:Int)(ve:O8)(i:Nat)(v:O8)(w:O7):Prop :=
 if i=6 then Qh 3 N w v W else
 if i=9 then ∃b,v=sL b 1 1/\N<=b/\QL ↑w b 3 [sS e]else
 if i=10 then Qh 3 N w v (W++[e]) else
 if i=11 then ∃vw,v=.agg #[sS s,ve,vw]/\Qh 3 N w vw (W++[e]) else
 ∃b,v=sP b/\N<=b/\QL ↑w b 239 [sS 0,ZX,ZX]
theorem QhN {W:LI}{e:Int}(i:Nat)(v:O8)(own:LN)(w w':O7)(h:Qnx N W e s ve i v w)(G:xh own w w')(hb:∀b∈ow v,b∉own)(I:i∈[11]->own=[]):Qnx N W e s ve i v w':=by
 have k:∀{l:LI},Qh 3 N w v l->Qh 3 N w' v l:=λJ=>Qg J G λb O=>hb b (yu O);unfold Qnx at *;by_cases e6:i=6
 ·rw[O0 e6]at *;exact k h
 rw[OZ e6]at *;by_cases e9:i=9
 ·rw[O0 e9]at *;obtain⟨b,rfl,h1,h2⟩:=h;exact⟨b,rfl,h1,h2.J G (hb b Lh)⟩
 rw[OZ e9]at *;by_cases e10:i=10
 ·rw[O0 e10]at *;exact k h
 rw[OZ e10]at *;by_cases e11:i=11
 ·rw[O0 e11]at *;obtain⟨vw,rfl,h1⟩:=h;have:=I (by rw[e11];exact Lh);subst this;exact⟨vw,Z,Qm h1 G⟩
 rw[OZ e11]at *;obtain⟨b,rfl,h1,h2⟩:=h;exact⟨b,Z,h1,h2.J G (hb b Lh)⟩
theorem QjY {o:Option α}(h:¬o.isSome=true):o=none:=by cases o with|none=>rfl|some x=>exact O2 rfl h
theorem QjX {o:Option α}(h:o.isSome=true):∃x,o=some x:=by cases o with|none=>cases h|some x=>exact⟨x,rfl⟩
theorem Qcr {V:VwV}(h:VwA ↑w V)(h9:V.a.st<=9)(kc:V.a.ed.length<=1000):
  QT sV 57 [.pointer (some ⟨V.b,0,none⟩)] w λr w'=>sW w w'/\∃vw vo,r=.tuple #[vw,vo,.bool (obs V.a V.o V.un).isNone]/\Yt ↑w ↑w' vw ((obs V.a V.o V.un).elim [] (·.1))/\Yt ↑w ↑w' vo ((obs V.a V.o V.un).elim [] (·.2)):=by
 have hok:=h.ok;have hst0:=hok.st0;obtain⟨n,hn⟩:∃n:Nat,V.a.st.toNat=n:=⟨_,Z⟩;have pd:n<=9:=oa
 have hna:V.a.st=(n:Int):=oa
 have hp18:=Qo8 pd;have pf:=hok.ed;obtain⟨rv,ke,kf⟩:=h.r;rw[hn]at ke kf;have hg:obs V.a V.o V.un=if V.a.st=0 then none else obL V.a V.o V.un (2 ^ (n+n)+1) 0 [(0,vcl V.a V.o V.un [0] false,[])]:=by unfold obs;rw[hn,Vn]
 refine Zh (obs V.a V.o V.un) λR hR=>?_;rw[hR]at hg ⊢;refine Zo func57 ?_;refine Qc<|x Qd<|x Qd<|Qb<|Qe<|Ql<|Z7 Z<|Q9 Z<|Qs Z h.blk Z Z<|x (Zc Z Z)<|xe<|Zg rfl (λgb=>?_) (λgb=>?_)
 ·have gc:V.a.st=0:=gb;rw[O0 gc]at hg;rw[hg];refine Qc<|x Qd<|x Qd<|Qb<|Qk ⟨[ZX,ZX,.bool true],oz,xh.C _ _,ZX,ZX,Z,Yt.nil _ _,Yt.nil _ _⟩
 have gc:¬V.a.st=0:=gb;rw[OZ gc]at hg;have hn0:0<n:=oa
 refine Qf<|Qc ?_;have hy:=V6 V.a V.o V.un [0] false;rw[hn]at hy;have pg:=hy.len;refine Qa<|Qo<|Q5 [[sS 0]] λb22 w1 kg hb22 ph=>Qx<|(K9 (only:=false) (l:=[0]) (h.I kg) (ph.arr oe (n:=1) (cap:=1) (sz:=1) rfl oh (OH _)) (λz hz=>by rw[List.mem_singleton.1 hz];omega) oe).S ?_;rintro v2 w2 ⟨pn,kh⟩;refine Zh (vcl V.a V.o V.un [0] false) λe0 po=>?_;rw[po]at kh hy pg hg;have ge:Qu [] ↑w2 v2 e0:=Qh.ints kh oa oe;refine x (QC ⟨ge.cells,La⟩)<|Qo<|Q5 [[sS 0,v2,ZX]] λhM w3 hN pp gg=>Qb ?_;have ki:=kg.D pn;have pt:=ki.D hN;refine Qc<|Qo<|Z1 XI λbm w4 kj kk kn=>Qo<|Q5 [[sS 0]] λpu w5 ko hb27 pw=>?_;have kq:=kj.D ko;have pz:Zu [] ↑w5 (sL hM 1 1) 1 3 [sS 0,v2,ZX]:=(gg.I kq).arr oe (n:=1) (cap:=1) (sz:=3) rfl oh (Lr _);have kr:=(ge.I hN).I kq;refine Qa<|xp (g:=λ_:Nat=>[sS 0,v2,ZX]) (es:=[0]) (i:=0) (λ_=>Z) pz Z Z oh λa29 p0=>x (ZG Z)<|x (Qq (u:=v2) (p0.fld 1 _ Z) Z)<|Qo<|Yq (us:=[[sL pu 1 1],[v2]]) Z Z oh oe ⟨rfl,rfl,kr.cells,rfl,La⟩ λb32 w6 gh hb32 p4=>?_;have hO:∀{l:LI},Ss n l->∀z∈l,0<=z/\z<(100:Int):=λhl z hz=>oq (hl.2 z hz)
 have kt:Ss n [(0:Int)]:=Ss.one (MA _) oa;refine Qx<|(UH (m:=100) (p4.arr oe (n:=2) (cap:=2) (sz:=1) rfl oh (OH _)) (show Qu [] ↑w6 _ [0] from(pw.I gh).arr oe (n:=1) (cap:=1) (sz:=1) rfl oh (Lr _)) (kr.I gh) (.inl (MA _)) (hO kt) (hO hy) oe oa).S ?_;rintro _ w7 ⟨rfl,p5⟩;have ku:=(ko.D gh).D p5;refine Qo<|Qbs (k:=koA [0] e0) (X0.zero (kn.I ku)) Z Z Z λw8 kv p6=>Qa<|Qb ?_;have hz02:=ki.size;have hlm:=kn.lt;have hl25:=gg.lt;have kw:=kj.D ku;have kx:sW w3 w8:=kw.O kv kk;have p7:PcI bm w (sL hM 1 1) [((0,e0,[]),v2,ZX)] w8:=by
  have kz:hM≠bm:=oa
  refine⟨pt.D kx,((gg.I kw).J kv (by simp only[oH];exact kz)).own (n:=1) (sz:=3) Z oa oa,λp hp=>?_,p6,λG=>kz (Lc.1 G).symm,oa⟩;rw[Lc.1 hp];refine⟨⟨(ge.up λb hb=>.inr ?_).I (hN.D kx),La⟩,λ_ _=>⟨Zu.nil _ _ _,La⟩⟩;rcases Ll.1 hb with rfl|hb
  ·exact LA hN.size kk
  rw[Lc.1 hb];exact pp
 refine Qe<|Qc<|Qb<|QZ (α:=Nat×O8×List QfC) [(2,5),(7,10),(12,14),(35,111)] (λz=>[(5,z.2.1),(7,sS z.1)]) (λz w'=>z.1<=z.2.2.length/\PcI bm w z.2.1 z.2.2 w'/\DqP n (z.2.2.map pcF)/\R=obL V.a V.o V.un (2 ^ (n+n)+1 - z.1) z.1 (z.2.2.map Prod.fst)) (λz=>2 ^ (n+n)+1 - z.1) (0,sL hM 1 1,[((0,e0,[]),v2,ZX)]) oy ⟨Lp _,p7,DqP.one kt hy,hg⟩ ?_;rintro⟨i,vl,q⟩ g w9 ⟨hi,hh,h0,O⟩;simp only[]at hi hh h0 O;have hql:q.length<=2 ^ (n+n):=by have:=h0.le;rwa [Lo]at this
 have k0:Zu [] ↑w9 vl q.length 3 (q.flatMap pcC):=QN hh.o oa oe;refine Qe<|Ql<|Qa<|QG k0 Z<|ZY Z Z<|xe<|Zp rfl (λgi=>?_) (λgi=>?_)
 ·refine Qt ?_;have p8:q.length<=i:=by have gj:¬(i:Int)<(q.length:Int):=gi;omega
  rw[yv (by rw[Lo];exact p8)]at O;rw[O];refine Qc<|x Qd<|x Qd<|Qb<|Qk ⟨[ZX,ZX,.bool true],oz,hh.st,ZX,ZX,Z,Yt.nil _ _,Yt.nil _ _⟩
 have h3:i<q.length:=by have gj:(i:Int)<(q.length:Int):=gi;omega
 have p9:2 ^ (n+n)+1 - i=(2 ^ (n+n)+1 - (i+1))+1:=oa
 have h4:=Lm h3;have gk:(q.map Prod.fst)[i]?=some (q[i]'h3).1:=by rw[MM,LE h3];rfl
 refine Zh (q[i]'h3) λd hp=>?_;rw[hp]at h4 gk;rw[p9]at O;obtain⟨⟨k4,_⟩,k5⟩:=hh.e d h4;have qf:=(k5 [] (λ_ hb=>by cases hb)).1;have k6:=h0.s (pcF d) (LL h4);have k9:=h0.w (pcF d) (LL h4);rw[Lo]at k9;have ma:=k6.1.2 d.1.1 Lh;have hP:Ss n d.1.2.1:=k6.2;have hl2:=hP.len;have hQ:∀{v:O8} {l:LI} {L:LN} {H:xH},Qu L H v l->Qu [] H v l:=λhv=>hv.up λb hb=>by cases hb
 refine Qf<|Qe<|Qn<|Ql<|Qa<|xp (g:=pcC) (i:=i) (λ_=>Z) k0 Z Z h3 λa43 mc=>?_;rw[hp]at mc;refine x (QF (us:=pcC d) mc Z Z)<|QV [sS 0,ZX,ZX] λb8 w10 ql q4 q5=>Q6 (pcC d) q5 ⟨Z,k4.one,qf.one,La⟩ λj1 j2 gl=>xe ?_;have gm:sW w9 j1:=ql.O j2 q4;have gn:=hh.I gm;refine Qe<|Ql<|Qs Z gl Z Z<|Qs Z gl Z Z<|Qx<|(QiJ (est:=d.1.2.1) (h.I gn.st) (hQ (k4.I gm)) (by rw[hn];exact hP) ma.1 oa h9 kc).S ?_;rintro _ gq ⟨gr,vt,rfl,mf⟩;refine Qa<|QU Z Z<|QU Z Z<|x Qd<|Qb ?_;have h5:=gn.I gr;have gs:=gl.I gr;have j3:=gm.D gr;refine Ql<|xe<|Q8 rfl (λgt=>?_) (λgt=>?_)
 ·refine Exists.elim (QjX gt) λt ht=>?_;rw[UF gk ht]at O;rw[ht]at mf;rw[O];refine Qc<|Qs Z gs Z Z<|Qa<|x Qd<|x Qd<|Qb<|Qk ⟨[d.2.2,vt,.bool false],oz,h5.st,d.2.2,vt,Z,λL hL=>((k5 L hL).1.I j3).up λb hb=>.inl (Lk.2 (.inl hb)),mf.S gn.st.size⟩
 rw[UG gk (QjY λh=>MY (gt.symm.D h))]at O;refine Qf ?_;have gu:=h.I h5.st;obtain⟨s,J⟩:∃s,d.1.1=s:=⟨_,Z⟩;rw[J]at ma O;have mg:s=(s.toNat:Int):=oa
 have mh:s.toNat<n:=oa
 have hE:=kf s.toNat mh;rw[<-mg]at hE;have hol:=Yf V.a.ed s;have j4:s.toNat<(oM n).length:=by rw[Mf];exact mh
 have za:(sS d.1.1)=sS (s.toNat:Int):=by rw[J];exact O1 _ mg
 refine Qe<|ZJ [] (Xk 0 10 [])<|p Qy<|p (YR Z)<|p (QH Z)<|pq (λ_ hc=>Qj (gu.blk.I hc) Z Z)<|p (QH Z)<|pq (λ_ hc=>Qj (gs.I hc) Z Z) <|
  Lg.pig (g:=λj:Nat=>[rv j]) (i:=s.toNat) Z (λ_=>Z) (ke.I h5.st) Z (show Go.Lg.ev _ _=_ from za) j4 λa64 mj=>?_
 rw[Mw]at mj;refine pq (λ_ hc=>Qq (u:=rv s.toNat) (mj.I hc) Z)<|p (λ_=>Y4 (hE.I h5.st) Z)<|p Qy<|pe ?_;have mo:sW gq { gq with drawn:=gq.drawn+1 }:=xh.Y _ _
 have z0:b8∉bm::ob vl:=λG=>oq (hh.lt _ G)
 refine QZ (α:=Nat×O8×List QfC) [(5,5),(12,14),(67,111)] (λz=>[(5,z.2.1),(67,sS z.1)]) (λz w'=>z.1<=(QK V.a.ed s).length/\PcI bm w z.2.1 z.2.2 w'/\DqP n (z.2.2.map pcF)/\d∈z.2.2/\q.length<=z.2.2.length/\QL ↑w' b8 239 (pcC d)/\b8∉bm::ob z.2.1/\((QK V.a.ed s).drop z.1).foldl (obE V.a V.o V.un d.1) (z.2.2.map Prod.fst)=(QK V.a.ed s).foldl (obE V.a V.o V.un d.1) (q.map Prod.fst)) (λz=>(QK V.a.ed s).length - z.1) (0,vl,q) oy
  ⟨Lp _,h5.I mo,h0,h4,Lr _,gs.I mo,z0,Z⟩ ?_
 rintro⟨j,vj,qj⟩ g z1 ⟨hj,hS,hk,hT,mq,hU,h6,U⟩;simp only[]at hj hS hk hT mq h6 U;have hqjl:qj.length<=2 ^ (n+n):=by have:=hk.le;rwa [Lo]at this
 refine Zj rfl Z (λgv=>?_) (λgv=>?_)
 ·refine Qt ?_;have z2:(QK V.a.ed s).length<=j:=by have gj:¬(j:Int)<((QK V.a.ed s).length:Int):=gv;omega
  rw[Lx z2]at U;have z3:qj.map Prod.fst=(QK V.a.ed s).foldl (obE V.a V.o V.un d.1) (q.map Prod.fst):=U;rw[<-z3]at O;refine Qr<|Qa<|QB Z Z<|Qb<|⟨(i+1,vj,qj),by show 2 ^ (n+n)+1 - (i+1)<2 ^ (n+n)+1 - i;omega,oy,by show i+1<=qj.length;omega,hS,hk,O⟩
 have hq:j<(QK V.a.ed s).length:=by have gj:(j:Int)<((QK V.a.ed s).length:Int):=gv;omega
 have z4:=Zx (Lm hq);have ms:=pf _ z4.1;rw[QX hq,LP]at U;refine Zh ((QK V.a.ed s)[j]'hq) λe he=>?_;rw[he]at ms U;refine Qf<|Qe<|Qn<|Qc<|xie (hE.I hS.st) Z Z hq λa69 mt=>?_;rw[he]at mt;refine x (QF mt Z Z)<|QV [sS 0,sS 0,sS 0] λb12 w14 z5 hb12 hB12=>Q6 (Qp e) hB12 oz λY hs15 gx=>xe ?_;have gy:sW z1 Y:=z5.O hs15 hb12;have ha:=hS.I gy;have gz:=hU.I gy;obtain⟨⟨g0,_⟩,he15N⟩:=ha.e d hT;have he15W:=(he15N [] (λ_ hb=>by cases hb)).1;have mu:(d.1.2.2++[e.2.1]).length<=qj.length+1:=by rw[Le,Lz];have:d.1.2.2.length<=q.length:=k9;omega
 refine Qe<|jv (α:=O8×Nat) (sW Y) (sW Y) ↑Y [oB 0,oB 1,oB 2,oB 3,oB 4,oB 5,oB 7,oB 8] (λi=>if i=10 then[6,9]else if i=11 then[10]else[]) (λi=>if i=10 then[6]else[]) [6,9,10,11,12] [11,12] [11] [oC 13] [(77,77),(80,82),(13,13)] (Qnx ↑Y d.1.2.2 e.2.1 e.2.2 d.2.1)
  (λz=>[(82,.agg #[sS e.2.2,d.2.1,z.1]),(13,.pointer (some ⟨z.2,0,none⟩))]) (λz w'=>Qh 3 ↑Y w' z.1 (d.1.2.2++[e.2.1])/\↑Y<=z.2/\QL ↑w' z.2 239 [sS 0,ZX,ZX])
  mixed ol od (xh.Y _ _) (λ_ h=>h) (λ_ _ _ _ _ hc J hb _=>hc.Z J λb hb'=>.inr (hb b hb')) (λ_ hc=>hc.size) (λi _=>QhN i) ?_ ?_
 ·rintro g w' ⟨⟨I,e16,h1⟩,⟨b,e17,hb,hB⟩,_⟩ _ _;exact⟨(I,b),⟨e16,e17,La⟩,h1,hb,hB⟩
 refine p (QH Z)<|pq (λ_ hc=>Qj (gx.I hc) Z Z)<|p (QH Z)<|pq (λ_ hc=>Qj (gz.I hc) Z Z)<|p (QH Z)<|pq (λ_ hc=>Qj (gz.I hc) Z Z) <|
  p (QH rfl)<|pq (λ_ hc=>Qj (gx.I hc) Z Z)<|pe ⟨⟨?_,?_,?_,?_,?_,La⟩,?_⟩
 ·rintro g w' hc _ _;exact xg<|(Z0 ((hQ he15W).I hc)).S λr g2 ⟨J,ho⟩=>⟨J,Za ho hc.size,λb hb=>⟨.inl (Je ho b hb).1,(Je ho b hb).2⟩⟩
 ·rintro g w' hc _ _;exact Q5 [[sS e.2.1]] λb g2 J hb hB=>⟨J,⟨b,Z,LA hc.size hb,hB⟩,λc h7=>by rw[Lc.1 (show c∈[b] from h7)];exact⟨.inl hb,hB.lt⟩⟩
 ·rintro g w' hc ⟨gu,⟨b,e14,hb14,hB14⟩,_⟩ _;rw[Le,Lz]at mu;refine Q2 (m:=1) (news:=[sS e.2.1]) (L:=[]) (show Qh _ _ _ _ _ from gu) Z e14 Z (hB14.at oe) oo oa hc.size λr g2 ho J hn=>⟨J.S λb hb=>Mg.2 ⟨6,Lh,yu hb⟩,Qh.snoc ho,λb hb=>⟨?_,(Je ho b hb).2⟩⟩;exact(hn b (QeO ho hb)).symm.imp id λh=>Mg.2 ⟨6,Lh,yu h⟩
 ·rintro g w' hc ⟨mv,_⟩ _;refine xv (QC ⟨Z,g0.cells,xS (show Qh _ _ _ _ _ from mv),La⟩) ?_;exact⟨xh.C _ _,⟨_,Z,mv⟩,λc h7=>by cases h7⟩
 ·rintro g w' hc _ _;exact Y0 (us:=[sS 0,ZX,ZX]) Z λb g2 J hb hB=>⟨J,⟨b,Z,LA hc.size hb,hB⟩,λc h7=>by rw[Lc.1 (show c∈[b] from h7)];exact⟨.inl hb,hB.lt⟩⟩
 rintro⟨I,hV⟩ g w16 mw ⟨h8,hW,hX⟩;simp only[]at h8 hW hX;refine pk<|qB [sS e.2.2,d.2.1,I] hX ⟨Z,g0.one,QA h8,La⟩ λhA g3 g4=>⟨mw.O g3 hW,pe ?_⟩;have hC:sW Y hA:=mw.O g3 hW;have my:Qh 3 ↑Y hA I (d.1.2.2++[e.2.1]):=Qg h8 g3 λb hb G=>Ud h8 hX oh (Lc.1 G ▸ hb);have hD:=ha.I hC;have hW7:Qu (bm::ob vj) ↑hA I (d.1.2.2++[e.2.1]):=Qh.ints my oa ha.lt;have mz:Qu (bm::ob vj) ↑hA d.2.1 d.1.2.1:=g0.I hC;have hB817:=gz.I hC;have m0:=gx.I hC;have h13b:∀b∈bm::ob vj,b≠hV:=λb hb=>oq (ha.lt b hb)
 have h13w:hV∉ob I:=Ud h8 hX oh;have hr:(obN V.a V.o V.un d.1 e).2.1=if e.2.1∈V.o then vnx V.a V.o V.un d.1.2.1 e.2.1 else d.1.2.1:=rfl
 have hF:Ss n (obN V.a V.o V.un d.1 e).2.1:=by
  rw[hr];split
  ·rw[<-hn];exact qh _ _ _ _ _
  exact hP
 have m1:obE V.a V.o V.un d.1 (qj.map Prod.fst) e=if ye (qj.map Prod.fst) e.2.2 (obN V.a V.o V.un d.1 e).2.1=true then qj.map Prod.fst else qj.map Prod.fst++[(e.2.2,(obN V.a V.o V.un d.1 e).2.1,d.1.2.2++[e.2.1])]:=rfl
 refine Zh (obN V.a V.o V.un d.1 e).2.1 λest hest=>?_;rw[hest]at hr hF m1;rw[m1]at U;have hesl:=hF.len;have hz17:=hD.st.size;refine QY (α:=O8) [(83,93)] (λ_=>[]) (λz w'=>xh [hV] hA w'/\QL ↑w' hV 239 [sS e.2.2,z,I]/\Qu (bm::ob vj) ↑w' z est) ol ?_ ?_
 ·refine Ql<|Qs Z m0 Z Z<|Qx<|(zQ (h.I hD.st) e.2.1).S ?_;rintro _ hY ⟨rfl,rfl⟩;refine xe<|Zp Z (λg5=>?_) (λg5=>?_)
  ·rw[OZ g5]at hr;refine Qf ?_;exact⟨d.2.1,La,xh.C _ _,g4,by rw[hr];exact mz⟩
  rw[O0 g5]at hr;refine Qr<|Qa<|Qs Z hB817 Z Z<|Qs Z m0 Z Z<|Qx<|(qg (est:=d.1.2.1) (h.I hD.st) (hQ mz) (λz hz=>oq (hP.2 z hz)) oa kc e.2.1).S ?_;rintro g6 w19 ⟨g7,hZ⟩;rw[<-hr]at hZ;have hA19:Qu (bm::ob vj) ↑w19 g6 est:=Qh.ints hZ oa hD.lt;refine Q9 Z<|Qo<|Qv (u:=g6) (g4.I g7) Z Z (Mc Z) hA19.one λw20 hG hB1320=>xe ?_;exact⟨g6,La,(g7.S λb hb=>by cases hb).Q hG,hB1320,Qh.ints (Qg hZ hG λb hb G=>Ud hZ (g4.I g7) oh (Lc.1 G ▸ hb)) oa hD.lt⟩
 rintro hw g hY ⟨m2,g8,ga⟩;have m3:sW Y hY:=hC.O m2 hW;have hI18:PcI bm w vj qj hY:=ha.I m3;have m4:=Qg my m2 λb hb G=>h13w (Lc.1 G ▸ hb);have hW18:Qu (bm::ob vj) ↑hY I (d.1.2.2++[e.2.1]):=Qh.ints m4 oa ha.lt;have g9:Ss n [e.2.2]:=Ss.one ms.2.2.2.1 oa;refine Qc<|Qs Z g8 Z Z<|Qo<|Q5 [[sS e.2.2]] λb96 w20 hG hb96 hB96 =>
  Qs rfl (g8.I hG) Z Z<|Qo<|Yq (us:=[[sL b96 1 1],[hw]]) Z Z oh oe ⟨rfl,rfl,ga.cells,rfl,La⟩ λb99 w21 m5 hb99 hB99=>?_
 have m6:=hG.D m5;refine Qx<|(UH (m:=100) (hB99.arr oe (n:=2) (cap:=2) (sz:=1) rfl oh (OH _)) (show Qu [] ↑w21 _ [e.2.2] from(hB96.I m5).arr oe (n:=1) (cap:=1) (sz:=1) rfl oh (Lr _)) (hQ (ga.I m6)) (.inl (MA _)) (hO g9) (hO hF) oe oa).S ?_;rintro _ w22 ⟨rfl,hs22⟩;refine Qb ?_;have hH:=m6.D hs22;have hf:=hI18.I hH;have ka:=(gy.D m3).D hH;refine Ql<|Qa<|x (Qbg (k:=koA [e.2.2] est) hf.m Z Z)<|x (Zl Z)<|xe ?_;have m7:∀{i:Decidable (koA [e.2.2] est∈qj.map pcK)},(!@decide _ i)=!ye (qj.map Prod.fst) e.2.2 est:=by
  intro i;rw[Qf5,MF];exact Qf4 (f:=pcF) hk g9 hF
 refine Q8 rfl (λkb=>?_) (λkb=>?_)
 ·have hI:=QrX (m7.symm.D kb);rw[OZ (by rw[hI];exact MY)]at U;refine Ql<|Qa<|Qo<|yy (k:=koA [e.2.2] est) hf.m Z Z Z λw23 hJ hM23=>xe ?_;have m8:∀b∈[bm],b∈bm::ob vj:=λb hb=>by rw[Lc.1 hb];exact Lh
  have hB1323:=(g8.I hH).J hJ λG=>h13b _ (m8 _ G) Z;have hz23:=hJ.size;have hz22:=hf.st.size;refine Qr<|Qa<|Q7 hB1323 Z Z<|Qo<|Q5 [[sS e.2.2,hw,I]] λb109 w24 hK hb109 hB109 =>
   Qo<|Q2 (m:=1) (news:=[sS e.2.2,hw,I]) (L:=[]) (Qm (Qg hf.o hJ λb hb G=>hf.nm (Lc.1 G ▸ hb)) hK) Z Z Z (hB109.at oe) (λu hu=>ZN.all (us:=[sS e.2.2,hw,I]) ⟨rfl,ga.one,hW18.one,La⟩ u hu) oa (oq hK.size) λvr w25 ho25 m9 pc=>Qb<|Qr<|QB Z Z<|Qa<|xe ?_
  have hz24:=hK.size;have hz13:=ka.size;have h8w:=hU.lt;have hnew:=hf.add (p:=((e.2.2,est,d.1.2.2++[e.2.1]),hw,I)) hJ hM23 hK m9 ho25 pc ⟨⟨ga.I hH,La⟩,λL hL=>⟨(Qh.ints m4 oa λb hb=>(Lk.1 hb).elim (λh=>LX (hL b h) ha.st.size) (ha.lt b)).I hH,La⟩⟩;refine⟨(j+1,vr,qj++[((e.2.2,est,d.1.2.2++[e.2.1]),hw,I)]),by show(QK V.a.ed s).length - (j+1)<(QK V.a.ed s).length - j;omega,oy,hq,hnew,?_,Lk.2 (.inl hT),by rw[Le];omega,?_,λG=>?_,?_⟩
  ·show DqP n (OY _ (qj++[_]));rw[Lv];refine hk.add g9 hF (by rw[Lo];exact mu) ?_;rw[Qf5,MF]at hI;exact hI
  ·exact(((hU.I ka).J hJ λG=>h6 (m8 _ G)).I hK).J m9 λG=>h6 (Lj _ G)
  ·rcases Qbk pc _ G with h1|h1
   ·exact h6 h1
   omega
  show((QK V.a.ed s).drop (j+1)).foldl (obE V.a V.o V.un d.1) (OY _ (qj++[_]))=_;rw[Lv];exact U
 have hI:=QrY (m7.symm.D kb);rw[O0 hI]at U;refine Qf<|Qr<|QB Z Z<|Qa<|xe ?_;exact⟨(j+1,vj,qj),by show(QK V.a.ed s).length - (j+1)<(QK V.a.ed s).length - j;omega,oy,hq,hf,hk,hT,mq,hU.I ka,h6,U⟩
abbrev CqV:=Cq×O8
abbrev cqC (q:CqV):LV:=[sS q.1.1,ZX,q.2]
abbrev cqK (p:CqV):Int:=p.1.1
abbrev cqN (p:CqV):List (O8×LI):=[(p.2,p.1.2)]
abbrev CqI:=QI 239 3 cqC XR cqK (λ_=>[]) cqN
structure CqO (n:Nat)(l:List Cq):Prop where
 s:∀d∈l,0<=d.1/\d.1<(n:Int)
 w:∀d∈l,d.2.length<=l.length
 d:(l.map (·.1)).Nodup
theorem CqO.le {l:List Cq}(h:CqO n l):l.length<=n:=by
 have:=xN n _ h.d λx hx=>by
  obtain⟨d,hd,rfl⟩:=Lu.1 hx;exact h.s d hd
 rwa [Lo]at this
theorem CqO.add {l:List Cq}(h:CqO n l){w:LI}(G:0<=s)(h1:s<(n:Int))(I:w.length<=l.length+1)(J:s∉l.map (·.1)):CqO n (l++[(s,w)]):=by
 refine⟨λd hd=>?_,λd hd=>?_,?_⟩
 ·rcases Lk.1 hd with hd|hd
  ·exact h.s d hd
  rw[Lc.1 hd];exact⟨G,h1⟩
 ·rw[Le,Lz];rcases Lk.1 hd with hd|hd
  ·have:=h.w d hd;omega
  rw[Lc.1 hd];exact I
 rw[Lv,Mk];exact⟨h.d,oe,λa O b hb e=>J ((show b=s by simpa using hb) ▸ e ▸ O)⟩
theorem QlC {f:Nat}{l:List Cq}(h:l.length<=i):csL a o un f i l=none:=by
 cases f with
 | zero=>rfl
 | succ f=>rw[csL,Mj h]
theorem QdI {f:Nat}{l:List Cq}{z:Cq}{v:Int}(h:l[i]?=some z)(ht:a.al.find? (ctd a o un z.1)=some v):csL a o un (f+1) i l=some (z.2,v):=by
 rw[csL,h];simp only[ht]
theorem QdJ {f:Nat}{l:List Cq}{z:Cq}(h:l[i]?=some z)(ht:a.al.find? (ctd a o un z.1)=none):csL a o un (f+1) i l=csL a o un f (i+1) ((QK a.ed z.1).foldl (csE z) l):=by
 rw[csL,h];simp only[ht]
theorem Qok {p:Int->Bool}{l:LI}{k:Nat}(h:k<l.length):(l.drop k).find? p=if p (l[k]'h)=true then some (l[k]'h) else(l.drop (k+1)).find? p:=by
 rw[QX h,List.find?_cons];cases G:p (l[k]'h) with
 | true=>rw[O0 rfl]
 | false=>rw[OZ MY]
def cnP (N:Nat)(W:LI)(e:Int)(i:Nat)(v:O8)(w:O7):Prop :=
 if i=5 then Qh 3 N w v W else
 ∃b,v=sL b 1 1/\N<=b/\QL ↑w b 3 [sS e]
theorem QlL {W:LI}{e:Int}(i:Nat)(v:O8)(w w':O7)(h:cnP N W e i v w)(G:sW w w'):cnP N W e i v w':=by
 unfold cnP at *;by_cases e5:i=5
 ·rw[O0 e5]at *;exact Qm h G
 rw[OZ e5]at *;obtain⟨b,I,h1,h2⟩:=h;exact⟨b,I,h1,h2.I G⟩
theorem Qcs {V:VwV}(h:VwA ↑w V)(h9:V.a.st<=9)(pn:V.a.ed.length<=1000):
  QT sV 58 [.pointer (some ⟨V.b,0,none⟩)] w λr w'=>sW w w'/\∃vw,r=.tuple #[vw,sS ((cns V.a V.o V.un).elim (-1) (·.2)),.bool (cns V.a V.o V.un).isNone]/\Yt ↑w ↑w' vw ((cns V.a V.o V.un).elim [] (·.1)):=by
 have hok:=h.ok;have po:=hok.st0;have pp:=hok.al_le;obtain⟨n,hn⟩:∃n:Nat,V.a.st.toNat=n:=⟨_,Z⟩;have pt:n<=9:=oa
 have pu:V.a.st=(n:Int):=oa
 have ko:=hok.ed;obtain⟨rv,gh,gi⟩:=h.r;rw[hn]at gh gi;have h4:cns V.a V.o V.un=if V.a.st=0 then none else csL V.a V.o V.un (n+1) 0 [(0,[])]:=by unfold cns;rw[hn]
 refine Zh (cns V.a V.o V.un) λR hR=>?_;rw[hR]at h4 ⊢;refine Zo func58 ?_;refine Qc<|x Qd<|x Qd<|Qb<|Qe<|Ql<|Z7 Z<|Q9 Z<|Qs Z h.blk Z Z<|x (Zc Z Z)<|xe<|Zg rfl (λU=>?_) (λU=>?_)
 ·have hM:V.a.st=0:=U;rw[O0 hM]at h4;rw[h4];refine Qc<|x Qd<|x Qd<|Qb<|Qk ⟨[ZX,sS (-1),.bool true],oz,xh.C _ _,ZX,Z,Yt.nil _ _⟩
 have hM:¬V.a.st=0:=U;rw[OZ hM]at h4;have pw:0<n:=oa
 refine Qf<|Qc<|x (QC La)<|Qo<|Q5 [[sS 0,ZX,ZX]] λhN w1 gj pz gk=>Qb<|Qc<|Qo<|Z1 XR λbm w2 gl p0 kq=>Qo<|Qbs (k:=(0:Int)) (X0.zero kq) Z Z Z λw3 gm kr=>Qa<|Qb ?_;have p4:=gj.size;have kt:sW w w3:=(gj.D gl).O gm oa;have ku:CqI bm w (sL hN 1 1) [((0,[]),ZX)] w3:=by
  have p5:=gk.lt;have gn:hN≠bm:=oa
  refine⟨kt,((gk.I gl).J gm (by simp only[oH];exact gn)).own (n:=1) (sz:=3) Z oa oa,λp hp=>?_,kr,λG=>gn (Lc.1 G).symm,oa⟩;rw[Lc.1 hp];exact⟨La,λ_ _=>⟨Zu.nil _ _ _,La⟩⟩
 have kv:CqO n [((0:Int),([]:LI))]:=⟨λd hd=>by rw[Lc.1 hd];exact⟨MA _,by show(0:Int)<n;omega⟩,λd hd=>by rw[Lc.1 hd];exact Lp _,oe⟩;refine Qe<|Qc<|Qb<|QZ (α:=Nat×O8×List CqV) [(2,5),(7,8),(10,10),(12,12),(23,86)] (λz=>[(5,z.2.1),(7,sS z.1)]) (λz w'=>z.1<=z.2.2.length/\CqI bm w z.2.1 z.2.2 w'/\CqO n (z.2.2.map Prod.fst)/\R=csL V.a V.o V.un (n+1 - z.1) z.1 (z.2.2.map Prod.fst)) (λz=>n+1 - z.1) (0,sL hN 1 1,[((0,[]),ZX)]) oy ⟨Lp _,ku,kv,h4⟩ ?_;rintro⟨i,vl,q⟩ g w4 ⟨hi,hw,h6,Y⟩;simp only[]at hi hw h6 Y;have p6:q.length<=n:=by have:=h6.le;rwa [Lo]at this
 have gq:Zu [] ↑w4 vl q.length 3 (q.flatMap cqC):=QN hw.o oa oe;refine Qe<|Ql<|Qa<|QG gq Z<|ZY Z Z<|xe<|Zp rfl (λhO=>?_) (λhO=>?_)
 ·refine Qt ?_;have kw:q.length<=i:=by have U:¬(i:Int)<(q.length:Int):=hO;omega
  rw[QlC (by rw[Lo];exact kw)]at Y;rw[Y];refine Qc<|x Qd<|x Qd<|Qb<|Qk ⟨[ZX,sS (-1),.bool true],oz,hw.st,ZX,Z,Yt.nil _ _⟩
 have h7:i<q.length:=by have U:(i:Int)<(q.length:Int):=hO;omega
 have kx:n+1 - i=(n+1 - (i+1))+1:=oa
 have h8:=Lm h7;have hP:(q.map Prod.fst)[i]?=some (q[i]'h7).1:=by rw[MM,LE h7];rfl
 refine Zh (q[i]'h7) λd hp=>?_;rw[hp]at h8 hP;rw[kx]at Y;have gr:=(hw.e d h8).2;have kz:=(gr [] (λ_ hb=>by cases hb)).1;have gs:=h6.s d.1 (LL h8);have hQ:=h6.w d.1 (LL h8);rw[Lo]at hQ;have k0:∀{v:O8} {l:LI} {L:LN} {H:xH},Qu L H v l->Qu [] H v l:=λhv=>hv.up λb hb=>by cases hb
 refine Qf<|Qe<|Qn<|Ql<|Qa<|xp (g:=cqC) (i:=i) (λ_=>Z) gq Z Z h7 λp7 gt=>?_;rw[hp]at gt;refine x (QF (us:=cqC d) gt Z Z)<|QV [sS 0,ZX,ZX] λb8 w5 k4 k5 k6=>Q6 (cqC d) k6 ⟨Z,Z,kz.one,La⟩ λw6 k9 ma=>xe ?_;have gu:sW w4 w6:=k4.O k9 k5;have hS:=hw.I gu;have gv:=(h.I hS.st).a.al;refine Qe<|Ql<|Z7 Z<|Q9 Z<|Qs Z (h.blk.I hS.st) Z Z<|QG gv Z<|Qa<|xe ?_;obtain⟨s,I⟩:∃s,d.1.1=s:=⟨_,Z⟩;rw[I]at gs;have mc:(V.a.al.drop 0).find? (ctd V.a V.o V.un s)=V.a.al.find? (ctd V.a V.o V.un d.1.1):=by rw[I,NQ]
 refine QZ (α:=Nat) [(2,4),(10,10),(39,51)] (λz=>[(39,sS z)]) (λz w'=>z<=V.a.al.length/\sW w6 w'/\(V.a.al.drop z).find? (ctd V.a V.o V.un s)=V.a.al.find? (ctd V.a V.o V.un d.1.1)) (λz=>V.a.al.length - z) 0 Lb ⟨Lp _,xh.C _ _,mc⟩ ?_;rintro k g w7 ⟨hk,hA,ha⟩;have hy:=hS.I hA;have hF:=ma.I hA;have mf:=gu.D hA;refine Zj rfl Z (λhT=>?_) (λhT=>?_)
 ·refine Qt ?_;have mg:V.a.al.length<=k:=by have U:¬(k:Int)<(V.a.al.length:Int):=hT;omega
  rw[Lx mg]at ha;rw[QdJ hP ha.symm,I]at Y;have gx:s=(s.toNat:Int):=oa
  have gy:s.toNat<n:=oa
  have hE:=gi s.toNat gy;rw[<-gx]at hE;have p8:=Yf V.a.ed s;have mh:s.toNat<(oM n).length:=by rw[Mf];exact gy
  have mj:(sS d.1.1)=sS (s.toNat:Int):=by rw[I];exact O1 _ gx
  refine Qe<|ZJ [] (Xk 0 10 [])<|p Qy<|p (YR Z)<|p (QH Z)<|pq (λ_ hc=>Qj ((h.blk.I hy.st).I hc) Z Z)<|p (QH Z)<|pq (λ_ hc=>Qj (hF.I hc) Z Z) <|
   Lg.pig (g:=λj:Nat=>[rv j]) (i:=s.toNat) Z (λ_=>Z) (gh.I hy.st) Z (show Go.Lg.ev _ _=_ from mj) mh λp9 gz=>?_
  rw[Mw]at gz;refine pq (λ_ hc=>Qq (u:=rv s.toNat) (gz.I hc) Z)<|p (λ_=>Y4 (hE.I hy.st) Z)<|p Qy<|pe ?_;have g0:sW w7 { w7 with drawn:=w7.drawn+1 }:=xh.Y _ _
  have mo:b8∉bm::ob vl:=λG=>oq (hw.lt _ G)
  refine QZ (α:=Nat×O8×List CqV) [(5,5),(12,12),(61,86)] (λz=>[(5,z.2.1),(61,sS z.1)]) (λz w'=>z.1<=(QK V.a.ed s).length/\CqI bm w z.2.1 z.2.2 w'/\CqO n (z.2.2.map Prod.fst)/\d∈z.2.2/\q.length<=z.2.2.length/\QL ↑w' b8 239 (cqC d)/\b8∉bm::ob z.2.1/\((QK V.a.ed s).drop z.1).foldl (csE d.1) (z.2.2.map Prod.fst)=(QK V.a.ed s).foldl (csE d.1) (q.map Prod.fst)) (λz=>(QK V.a.ed s).length - z.1) (0,vl,q) oy
   ⟨Lp _,hy.I g0,h6,h8,Lr _,hF.I g0,mo,Z⟩ ?_
  rintro⟨j,vj,qj⟩ g w8 ⟨hj,hh,hC,hG,g2,g3,hz,O⟩;simp only[]at hj hh hC hG g2 hz O;have qf:qj.length<=n:=by have:=hC.le;rwa [Lo]at this
  refine Zj Z Z (λhU=>?_) (λhU=>?_)
  ·refine Qt ?_;have mq:(QK V.a.ed s).length<=j:=by have U:¬(j:Int)<((QK V.a.ed s).length:Int):=hU;omega
   rw[Lx mq]at O;have ms:qj.map Prod.fst=(QK V.a.ed s).foldl (csE d.1) (q.map Prod.fst):=O;rw[<-ms]at Y;refine Qr<|Qa<|QB Z Z<|Qb<|⟨(i+1,vj,qj),by show n+1 - (i+1)<n+1 - i;omega,oy,by show i+1<=qj.length;omega,hh,hC,Y⟩
  have h0:j<(QK V.a.ed s).length:=by have U:(j:Int)<((QK V.a.ed s).length:Int):=hU;omega
  have mt:=Zx (Lm h0);have g4:=ko _ mt.1;rw[QX h0,LP]at O;refine Zh ((QK V.a.ed s)[j]'h0) λe he=>?_;rw[he]at g4 O;refine Qf<|Qe<|Qn<|Qc<|xie (hE.I hh.st) Z Z h0 λql g5=>?_;rw[he]at g5;refine x (QF g5 Z Z)<|QV [sS 0,sS 0,sS 0] λhV w9 mu g6 mv=>Q6 (Qp e) mv oz λmw my hW=>xe ?_;have hX:sW w8 mw:=mu.O my g6;have J:=hh.I hX;have g7:=g3.I hX;have g8:csE d.1 (qj.map Prod.fst) e=if e.2.2∈(qj.map Prod.fst).map Prod.fst then qj.map Prod.fst else qj.map Prod.fst++[(e.2.2,d.1.2++[e.2.1])]:=rfl
  have g9:(qj.map Prod.fst).map Prod.fst=qj.map cqK:=MF;rw[g9]at g8;rw[g8]at O;refine Ql<|Qs Z hW Z Z<|x (Qbg (k:=e.2.2) J.m Z Z)<|x (Zl Z)<|xe<|Q8 Z (λhY=>?_) (λhY=>?_)
  ·have hH:=VF hY;rw[OZ hH]at O;refine Ql<|Qs Z hW Z Z<|Qo<|yy (k:=e.2.2) J.m Z Z Z λhf hq mz=>xe ?_;have hZ:∀b∈[bm],b∈bm::ob vj:=λb hb=>by rw[Lc.1 hb];exact Lh
   have m0:hV∉[bm]:=λG=>by have:=hh.lt bm Lh;rw[Lc.1 G]at g6;omega
   have ka:=hW.J hq m0;have kb:=g7.J hq λG=>hz (hZ _ G);have m1:=((J.e d hG).2 [] (λ_ hb=>by cases hb)).1;have m2:Qu [] ↑hf d.2 d.1.2:=k0 (m1.J hq hZ);have q4:=J.st.size;have q5:=hq.size;have m3:=Qg J.o hq λb hb G=>J.nm (Lc.1 G ▸ hb);refine Qd7 (α:=O8×Nat) (xh (ob vj) hf) (sW hf) [oB 0,oB 1,oB 2,oB 3,oB 4,oB 6,oB 7] (λ_=>[]) [5,8] [oC 9,oB 10,oC 11,oC 12,oB 13] [(78,78),(81,81)] (cnP ↑hf d.1.2 e.2.1)
    (λz=>[(78,z.1),(81,.slice (some ⟨z.2,0,none⟩) 1 1)]) (λz w'=>Qh 3 ↑hf w' z.1 d.1.2/\z.2∉ob z.1/\QL ↑w' z.2 3 [sS e.2.1])
    mixed ol od (xh.Y _ _) (λ_ h=>h.any) (λ_ _ hc I=>hc.D I) QlL ?_ ?_
   ·rintro g w' ⟨h5,⟨b,e8,hb,hB⟩,_⟩ m4;refine⟨(_,b),⟨Z,e8,La⟩,h5,λG=>?_,hB⟩;have:=m4 5 oe 8 oe oh b (yu G);rw[e8]at this;exact this Lh
   refine p Qy<|p (QH Z)<|pq (λ_ hc=>Qj (ka.J hc ?_) Z Z)<|p (QH Z)<|pq (λ_ hc=>Qj (kb.J hc λG=>hz (Lj _ G)) Z Z) <|
    p (QH rfl)<|pq (λ_ hc=>Qj (ka.J hc ?_) Z Z)<|pe ⟨⟨?_,?_,La⟩,?_⟩
   ·exact λG=>oq (hh.lt hV (Lj _ G))
   ·exact λG=>oq (hh.lt hV (Lj _ G))
   ·rintro g w' hc _;exact xg<|(Z0 (m2.I hc)).S λr m5 ⟨I,ho⟩=>⟨I,Za ho hc.size,Je ho⟩
   ·rintro g w' hc _;exact Q5 [[sS e.2.1]] λb m5 I hb hB=>⟨I,⟨b,Z,LA hc.size hb,hB⟩,λc m6=>by rw[Lc.1 (show c∈[b] from m6)];exact⟨hb,hB.lt⟩⟩
   rintro⟨vc,j1⟩ g m7 ga ⟨gb,m8,kc⟩;simp only[]at gb m8 kc;have ke:=Qi gb;have j2:d.1.2.length<=9:=by have:d.1.2.length<=q.length:=hQ;omega
   refine pk<|Q2 (m:=1) (news:=[sS e.2.1]) (L:=[]) gb Z Z Z (kc.at oe) oo oa ga.size λhr kf m9 kg j3=>⟨(ga.Z kg λb hb=>.inr (ke b hb).1).any,?_⟩;have kh:sW hf kf:=ga.Z kg λb hb=>.inr (ke b hb).1;have gc:Qh 3 ↑hf kf hr (d.1.2++[e.2.1]):=Qh.snoc m9;refine p (λ_=>QC ⟨Z,xS gc,La⟩)<|pk<|Q5 [[sS e.2.2,ZX,hr]] λj4 za ge z0 pc=>⟨(kh.D ge).any,?_⟩;have hg:=kh.D ge;refine pk<|Q2 (m:=1) (news:=[sS e.2.2,ZX,hr]) (L:=[]) (Qm m3 hg) Z Z Z (pc.at oe) (λu hu=>ZN.all (us:=[sS e.2.2,ZX,hr]) ⟨rfl,rfl,QA gc,La⟩ u hu) oa (oq hg.size) λvr ki pd h3 hI=>⟨hg.any.Q h3,?_⟩;refine p ZK<|pe ?_;refine Qr<|QB Z Z<|Qa<|xe ?_;have z1:=hg.size;have z2:=hX.size;have z3:=g3.lt;have kj:=J.nm;have kk:∀b∈bm::ob vj,b<hf.heap.size:=λb hb=>oq (J.lt b hb)
   have pf:∀L:LN,(∀b∈L,b<↑w)->Qu (L++bm::ob vr) ↑ki hr (d.1.2++[e.2.1]):=λL hL=>Zu.grow ((Qh.ints gc (by rw[Le,Lz];omega) λb hb=>(Lk.1 hb).elim (λh=>oq (hL b h)) (kk b)).I ge) h3 (λb hb=>Lk.2 (.inr (Lj _ hb))) (Qbj L hI);have pg:CqI bm w vr (qj++[((e.2.2,d.1.2++[e.2.1]),hr)]) ki:=by
    refine⟨((J.st.Z hq λb hb=>.inr (by rw[Lc.1 hb];exact J.hb)).D hg).Z h3 λb hb=>.inr (Qi J.o b hb).1,?_,λp' hD=>?_,?_,λph=>?_,J.hb⟩
    ·rw[LJ,Nf,Le,Lz];exact pd
    ·rcases Lk.1 hD with hD|hD
     ·exact⟨La,λL hL=>((((J.e p' hD).2 L hL).J hq λb hb=>Lk.2 (.inr (hZ b hb))).I hg).grow h3 (λb hb=>Lk.2 (.inr (Lj _ hb))) (Qbj L hI)⟩
     rw[Lc.1 hD];exact⟨La,λL hL=>⟨pf L hL,La⟩⟩
    ·rw[Lv];exact(mz.I hg).J h3 kj
    rcases hI _ ph with h1|h1
    ·exact kj h1
    have:=kk bm Lh;omega
   refine⟨(j+1,vr,qj++[((e.2.2,d.1.2++[e.2.1]),hr)]),by show(QK V.a.ed s).length - (j+1)<(QK V.a.ed s).length - j;omega,oy,h0,pg,?_,Lk.2 (.inl hG),by rw[Le];omega,?_,λG=>?_,?_⟩
   ·show CqO n (OY _ (qj++[_]));rw[Lv];refine hC.add g4.2.2.2.1 oa (by rw[Le,Lz,Lo];have:d.1.2.length<=q.length:=hQ;omega) ?_;rw[g9];exact hH
   ·exact(kb.I hg).J h3 λG=>hz (Lj _ G)
   ·rcases Qbk hI _ G with h1|h1
    ·exact hz h1
    omega
   show((QK V.a.ed s).drop (j+1)).foldl (csE d.1) (OY _ (qj++[_]))=_;rw[Lv];exact O
  have hH:=Ks hY;rw[O0 hH]at O;refine Qf<|Qr<|QB Z Z<|Qa<|xe ?_;exact⟨(j+1,vj,qj),by show(QK V.a.ed s).length - (j+1)<(QK V.a.ed s).length - j;omega,oy,h0,J,hC,hG,g2,g7,hz,O⟩
 have hJ:k<V.a.al.length:=by have U:(k:Int)<(V.a.al.length:Int):=hT;omega
 rw[Qok hJ]at ha;refine Qf<|Qe<|Qn<|Qc<|xii (i:=k) (gv.I hA) Z Z hJ λz4 kn=>?_;refine Zh (V.a.al[k]'hJ) λv hv=>?_;rw[hv]at kn ha;refine x (Qq kn Z)<|Qb ?_;have hct:=QiM (v:=v) (h.I hy.st) gs.1 oa h9;rw[<-I]at hct;refine Ql<|Qs Z hF Z Z<|Qa<|Qx<|hct.S ?_;rintro _ m7 ⟨rfl,hK⟩;refine xe ?_;rw[<-I]at ha;refine Q8 rfl (λgg=>?_) (λgg=>?_)
 ·rw[O0 gg]at ha;rw[QdI hP ha.symm]at Y;rw[Y];refine Qc<|Qs Z (hF.I hK) Z Z<|Qa<|x Qd<|x Qd<|Qb<|Qk ⟨[d.2,sS v,.bool false],oz,hy.st.D hK,d.2,Z,λL hL=>((gr L hL).1.I (mf.D hK)).up λb hb=>.inl (Lk.2 (.inl hb))⟩
 rw[OZ (λh=>MY (gg.symm.D h)),I]at ha;refine Qf<|Qr<|QB Z Z<|Qa<|xe ?_;exact⟨k+1,by show V.a.al.length - (k+1)<V.a.al.length - k;omega,Lb,hJ,hA.D hK,by rw[I];exact ha⟩
structure Yn (l:LI):Prop where
 b:∀x∈l,0<=x/\x<32
 i:YD l
theorem Yn.ck {l:LI}(h:Yn l):Kd 32 none l=0:=Qb7 h.b h.i
theorem Yn.nil:Yn []:=⟨(λ_ h=>by cases h),List.Pairwise.nil⟩
structure Pl9 (a:Qz):Prop where
 ok:QO a
 s9:a.st<=9
 e:a.ed.length<=1000
theorem VE (h:Zt [] ↑w va vm ve a)(J:Qu [] ↑w vo o)(hU:Qu [] ↑w vu un)(G:Pl9 a)(ho:Yn o)(hu:Yn un):
  QT sV 56 [.agg #[va,sS a.st,vm,ve],vo,vu] w λr w'=>sW w w'/\∃V:VwV,r=.tuple #[.pointer (some ⟨V.b,0,none⟩),sS 0]/\VwA ↑w' V/\V.a=a/\V.o=o/\V.un=un:=by
 refine Zo func56 ?_;refine Qc<|Zd [va,sS a.st,vm,ve] λb3 w1 he hG hf=>x Qd<|Qb ?_;have hA:=Xb (h.I he);rw[(ZA a).2 G.ok]at hA;refine Qe<|Qc<|Q7 hf Z Z<|Qx<|hA.S ?_;rintro _ w2 ⟨rfl,hg⟩;refine Qb<|Ql<|ZO Z Z<|xe<|ZB rfl<|Qf ?_;have hr:=he.D hg;refine Qe<|Ql<|Qa<|Qo<|Yq (us:=[[vo],[vu]]) Z Z oh oe ⟨J.cells,rfl,hU.cells,rfl,La⟩ λhs w3 hh hH hw=>?_;have hj:Zu [] ↑w3 (sL hs 2 2) 2 1 [vo,vu]:=hw.arr oe (n:=2) (cap:=2) (sz:=1) rfl oh (Lr _);have hy:=hr.D hh;refine QG hj Z<|Qa<|xe<|QZ (α:=Nat) [(6,7),(10,11),(24,33)] (λz=>[(24,sS z)]) (λz w'=>z<=2/\sW w3 w') (λz=>2 - z) 0 Lb ⟨Lp _,xh.C _ _⟩ ?_;rintro i g w4 ⟨hi,O⟩;have I:=hy.D O;have hk:=((hf.I hg).I hh).I O;refine Zj rfl Z (λhm=>?_) (λhm=>?_)
 ·refine Qt<|Qe<|Qc<|Q7 hk Z Z<|Qa<|Qx<|(jB (h.I I) (J.I I) G.ok ho.b ho.i G.s9 G.e).S ?_;rintro _ w5 ⟨hz,_,vt,rfl,hI,h0,h3,h4,rfl,h5⟩;have ha:=h5 [] (λ_ h=>by cases h);refine Qa<|QU Z Z<|QU Z Z<|QU Z Z<|QV J9 λhJ w6 h6 h7 h8=>Q6 [h0,sS (ZH a o).st,h3,h4] h8 ⟨ha.al.one,Z,ha.mr.one,ha.ed.one,La⟩ λw7 h9 hK=>x Qd<|Qb ?_;have hB:sW w5 w7:=h6.O h9 h7;have hn:=hz.D hB;have U:=I.D hn;refine Ql<|ZO Z Z<|xe<|ZB Z<|Qf<|Qc<|Q7 (hk.I hn) Z Z<|Qa<|Qa<|Qx<|(QpM (h.I U) (J.I U) (hU.I U) G.ok).S ?_;rintro _ w8 ⟨hD,V,rfl,hV,e1,e2,e3⟩;refine x Qd<|Qb<|Qk ⟨[_,sS 0],oy,U.D hD,V,Z,hV,e1,e2,e3⟩
 have Y:i<2:=by have hL:(i:Int)<(2:Nat):=hm;omega
 have hE:∃l,Qu [] ↑w4 ([vo,vu][i]'Y) l/\Kd 32 none l=0:=by
  have hF:i=0\/i=1:=oa
  rcases hF with rfl|rfl
  ·exact⟨o,J.I I,ho.ck⟩
  exact⟨un,hU.I I,hu.ck⟩
 obtain⟨l,hl,hck⟩:=hE;refine Qf<|Qe<|Qn<|Qc<|xp (g:=λv:O8=>[v]) (es:=[vo,vu]) (i:=i) (λ_=>Z) (hj.I O) Z Z Y λhM hq=>?_;refine Zh ([vo,vu][i]'Y) λv hv=>?_;rw[hv]at hl hq;refine x (Qq (u:=v) hq Z)<|Qb ?_;have hC:=zi hl 32;rw[hck]at hC;refine Ql<|Qx<|hC.S ?_;rintro _ w9 ⟨rfl,rfl⟩;refine Qb<|Ql<|ZO Z Z<|xe<|ZB rfl<|Qf<|Qr<|QB Z Z<|Qa<|xe ?_;exact⟨i+1,by show 2 - (i+1)<2 - i;omega,Lb,Y,O⟩
theorem Qea (h:Zt [] ↑w va vm ve a)(O:Qu [] ↑w vo o)(I:Pl9 a)(U:Yn o):
  QT sV 17 [.agg #[va,sS a.st,vm,ve],vo] w λr w'=>sW w w'/\∃vw vt,r=.tuple #[vw,vt,.bool (obs a o []).isNone,sS 0]/\Yt ↑w ↑w' vw ((obs a o []).elim [] (·.1))/\Yt ↑w ↑w' vt ((obs a o []).elim [] (·.2)):=by
 refine Zo func17 ?_;refine Qc<|Zd [va,sS a.st,vm,ve] λb2 Y G hf ha=>x Qd<|x Qd<|x Qd<|Qb<|Qc<|Q7 ha Z Z<|Qa<|Qx<|(VE (h.I G) (O.I G) (Qbx [] ↑Y) I U Yn.nil).S ?_;rintro _ w2 ⟨J,V,rfl,hV,rfl,rfl,e3⟩;refine Qa<|QU Z Z<|QU Z Z<|x Qd<|Qb<|Qe<|Ql<|ZO Z Z<|xe<|ZB rfl<|Qf ?_;have hR:=Qcr hV I.s9 I.e;rw[e3]at hR;refine Ql<|Qx<|hR.S ?_;rintro _ w3 ⟨he,vw,vt,rfl,hw,ht⟩;refine Qa<|QU Z Z<|QU Z Z<|QU Z Z<|x Qd<|x Qd<|Qb<|Ql<|Qa<|Qa<|x Qd<|x Qd<|x Qd<|Qb<|Qk ⟨[vw,vt,_,sS 0],oA,(G.D J).D he,vw,vt,Z,hw.S (G.D J).size,ht.S (G.D J).size⟩
theorem zC (h:Zt [] ↑w va vm ve a)(O:Qu [] ↑w vo o)(hU:Qu [] ↑w vu un)(I:Pl9 a)(U:Yn o)(Y:Yn un):
  QT sV 18 [.agg #[va,sS a.st,vm,ve],vo,vu] w λr w'=>sW w w'/\∃vw,r=.tuple #[vw,sS ((cns a o un).elim (-1) (·.2)),.bool (cns a o un).isNone,sS 0]/\Yt ↑w ↑w' vw ((cns a o un).elim [] (·.1)):=by
 refine Zo func18 ?_;refine Qc<|Zd [va,sS a.st,vm,ve] λb3 w1 G hf ha=>x Qd<|x Qd<|x Qd<|Qb<|Qc<|Q7 ha Z Z<|Qa<|Qa<|Qx<|(VE (h.I G) (O.I G) (hU.I G) I U Y).S ?_;rintro _ w2 ⟨J,V,rfl,hV,rfl,rfl,rfl⟩;refine Qa<|QU Z Z<|QU Z Z<|x Qd<|Qb<|Qe<|Ql<|ZO Z Z<|xe<|ZB rfl<|Qf<|Ql<|Qx<|(Qcs hV I.s9 I.e).S ?_;rintro _ w3 ⟨he,vw,rfl,hw⟩;refine Qa<|QU Z Z<|QU Z Z<|QU Z Z<|x Qd<|x Qd<|Qb<|Ql<|Qa<|Qa<|x Qd<|x Qd<|x Qd<|Qb<|Qk ⟨[vw,_,_,sS 0],oA,(G.D J).D he,vw,Z,hw.S (G.D J).size⟩
theorem Yn.len {l:LI}(h:Yn l):l.length<=32:=xN 32 l (h.i.imp λG e=>oa) h.b
theorem Yn.fil {l:LI}(h:Yn l)(p:Int->Bool):Yn (l.filter p):=⟨λx hx=>h.b x (LD.1 hx).1,h.i.filter p⟩
theorem Yn.ins {l:LI}(v:Int):Yn (ins l v):=⟨λ_ hx=>(zF.1 hx).1,Ut 32 _⟩
theorem QkR {l:LI}{v:Int}(h:Yn l)(G:v∉l)(I:0<=v)(h1:v<32):((l++[v]).mergeSort λx y=>decide (x<=y))=ins l v:=by
 refine Qau ?_ λx hx=>?_
 ·rw[Mk];exact⟨h.i.imp λO e=>oa,oe,λa J b hb e=>G ((Lc.1 hb) ▸ e ▸ J)⟩
 rcases Lk.1 hx with hx|hx
 ·exact h.b x hx
 rw[Lc.1 hx];exact⟨I,h1⟩
theorem QqA {W:O7}{J O:Nat}{set:LI}(h:Zt [] ↑W va vm ve a)(ha:QL ↑W J 53 [va,sS a.st,vm,ve])(he:QL ↑W O 47 [vu])(hU:Qu [] ↑W vu un)(hS:Qu [] ↑W vs set)(G:Pl9 a)(ho:Yn set)(hu:Yn un):
  QT sV 59 [vs,sP J,sP O] W λr w'=>r=.tuple #[.bool (hld a un set),sS 0]/\sW W w':=by
 refine Zo func59 ?_;refine Qc<|x Qd<|Qb<|Qc<|Q7 ha Z Z<|Qa<|ZC he Z Z<|Qx<|(VE h hS hU G ho hu).S ?_;rintro _ w1 ⟨hf,V,rfl,U,rfl,rfl,rfl⟩;refine Qa<|QU Z Z<|QU Z Z<|x Qd<|Qb<|Qe<|Ql<|ZO Z Z<|xe<|ZB rfl<|Qf<|Ql<|Qx<|(Qcr U G.s9 G.e).S ?_;rintro _ w2 ⟨Y,vw,vt,rfl,_,_⟩;refine Qa<|QU Z Z<|QU Z Z<|QU Z Z<|x Qd<|x Qd<|Qb<|Ql<|Qx<|(Qcs (U.I Y) G.s9 G.e).S ?_;rintro _ w3 ⟨hg,hj,rfl,_⟩;refine Qa<|QU Z Z<|QU Z Z<|QU Z Z<|x Qd<|x Qd<|Qb ?_;have hh:=(hf.D Y).D hg;refine QY (α:=Unit) [(4,5),(36,39)] (λ_=>[(4,.bool (hld V.a V.un V.o)),(5,sS 0)]) (λ_ w'=>w'=w3) ol ?_ ?_
 ·refine Qr<|xB Vg (λI=>?_) (λI=>?_)
  ·refine Qa<|Qa<|QE Z<|x Qd<|Qb<|⟨(),⟨O1 Value.bool (by unfold hld;rw[I];rfl),Z,La⟩,Z⟩
  refine Qa<|Kg<|QE Z<|x Qd<|Qb<|⟨(),⟨O1 Value.bool (by unfold hld;rw[I];rfl),Z,La⟩,Z⟩
 rintro _ g _ rfl;exact Qk ⟨[_,_],oy,Z,hh⟩
theorem Qon {W:O7}{b:Nat}{v:Int}(G:QL ↑W b 3 [sS v])(e:Int):
  QT sV 65 [sS e,sP b] W λr w'=>r=.bool (decide (e=v))/\w'=W:=by
 refine Zo func65 ?_;refine Qc<|Qb<|Ql<|ZC G Z Z<|x (Zc Z Z)<|Qb<|Qk ⟨[_],Lb,Z,Z⟩
theorem QiG {l:LI}{z:LI×LI}(h:hld a un z.1=true):xtA a un l z=z:=by
 cases l with
 | nil=>rfl
 | cons v l=>rw[xtA,O0 h]
theorem Qpw {l:LI}{z:LI×LI}{k:Nat}(G:k<l.length)(h:hld a un z.1=false):xtA a un (l.drop k) z=xtA a un (l.drop (k+1)) (if l[k]'G∈z.1 then z else(ins z.1 (l[k]'G),z.2++[l[k]'G])):=by
 rw[QX G,xtA,OZ (by rw[h];exact MY)]
theorem Qiw (h:Zt [] ↑w va vm ve a)(hO:Qu [] ↑w vo o)(hU:Qu [] ↑w vu un)(hp:Pl9 a)(ho:Yn o)(hu:Yn un):
  QT sV 22 [.agg #[va,sS a.st,vm,ve],vo,vu] w λr w'=>sW w w'/\∃vw,r=.tuple #[vw,sS 0]/\Qh 3 ↑w w' vw (Qfb a o un)/\Yn (Qfb a o un):=by
 have hok:=hp.ok;have k6:=hok.al_le;have hX:Yn a.al:=⟨hok.al,hok.ali⟩;refine Zh (Qfb a o un) λE hE=>?_;refine Zo func22 ?_;refine Qc<|Zd [va,sS a.st,vm,ve] λb3 w1 gx k9 gy=>Qo<|q7 (us:=[vu]) hU.cells λb5 w2 hY ma hZ=>x Qd<|Qb ?_;have h0:=gx.D hY;have h9:=gy.I hY;refine Qc<|Q7 h9 Z Z<|Qa<|ZC hZ Z Z<|Qx<|(VE (h.I h0) (hO.I h0) (hU.I h0) hp ho hu).S ?_;rintro _ G ⟨h3,V,rfl,hV,gz,g0,mc⟩;have hq:=h0.D h3;have g2:=hq.size;refine Qa<|QU Z Z<|QU Z Z<|x Qd<|Qb<|Qe<|Ql<|ZO Z Z<|xe<|ZB rfl<|Qf<|Qc<|x (Zk (l:=[]) (l':=[.tmp 3,.tmp 5]))<|Qb ?_;have hK:=jY hV;rw[gz,g0]at hK;refine Ql<|Qx<|hK.S ?_;rintro v4 w4 ⟨hA,g3⟩;refine Qb ?_;have g4:=hq.D hA;have g5:=(h9.I h3).I hA;have g6:Yn (kpt a o):=hX.fil _;refine Qc<|Qb ?_;have g7:=hA;have g8:=h9.I h3;have g9:=hZ.I h3;have ga:∀{W:O7} {vs:O8} {set:LI},sW G W->Qh 3 ↑G W vs set->Yn set->QT sV 59 [vs,sP b3,sP b5] W λr w'=>r=.tuple #[.bool (hld a un set),sS 0]/\sW W w' :=
  λhW hS hs=>QqA (h.I (hq.D hW)) (g8.I hW) (g9.I hW) (hU.I (hq.D hW)) (Qh.ints hS (oq hs.len) oe) hp hs hu
 have hB:Qfb a o un=(xtA a un a.al (kpt a o,[])).2.foldl (xtD a un) (xtA a un a.al (kpt a o,[])).1:=rfl;rw[hE]at hB ⊢;have gb:xtA a un (a.al.drop 0) (kpt a o,[])=xtA a un a.al (kpt a o,[]):=by rw[NQ]
 refine Zh (xtA a un a.al (kpt a o,[])) λR hR=>?_;rw[hR]at hB gb;refine QY (α:=O8×O8) [(6,7),(11,12),(14,16),(32,66)] (λz=>[(11,z.1),(12,z.2)]) (λz w'=>sW G w'/\Qh 3 ↑G w' z.1 R.1/\Qh 3 ↑G w' z.2 R.2/\Yn R.1/\R.2.length<=32) ol ?_ ?_
 ·refine Qc<|Qs Z g5 Z Z<|QG (h.al.I g4) Z<|Qa<|xe<|QZ (α:=Nat×O8×O8×LI×LI) [(6,7),(11,12),(14,16),(38,66)] (λz=>[(11,z.2.1),(12,z.2.2.1),(38,sS z.1)]) (λz w'=>z.1<=a.al.length/\sW G w'/\Qh 3 ↑G w' z.2.1 z.2.2.2.1/\Qh 3 ↑G w' z.2.2.1 z.2.2.2.2/\Dj z.2.1 z.2.2.1/\Yn z.2.2.2.1/\z.2.2.2.2.length<=z.1/\xtA a un (a.al.drop z.1) (z.2.2.2.1,z.2.2.2.2)=R) (λz=>a.al.length - z.1) (0,v4,ZX,kpt a o,[]) oz
   ⟨Lp _,g7,g3,QM _ _ _ _,Dj.nil' _,g6,Lr _,gb⟩ ?_
  rintro⟨k,vs,vd,set,add⟩ g w5 ⟨hk,hr,O,he,h4,hsE,ka,Y⟩;simp only[]at hk O he h4 hsE ka Y;have kb:=hsE.len;refine Zj Z Z (λhC=>?_) (λhC=>?_)
  ·refine Qt ?_;have hD:a.al.length<=k:=by have hF:¬(k:Int)<(a.al.length:Int):=hC;omega
   rw[Lx hD]at Y;have hf:R=(set,add):=Y.symm;exact⟨(vs,vd),oy,hr,by rw[hf];exact O,by rw[hf];exact he,by rw[hf];exact hsE,by rw[hf];show add.length<=32;omega⟩
  have U:k<a.al.length:=by have hF:(k:Int)<(a.al.length:Int):=hC;omega
  have hG:=hX.b _ (Lm U);refine Qf<|Qe<|Qn<|Qc<|xii (i:=k) (h.al.I (hq.D hr)) Z Z U λmf gc=>?_;have hgo:=Qpw (a:=a) (un:=un) (z:=(set,add)) U;refine Zh (a.al[k]'U) λv hv=>?_;rw[hv]at gc hgo hG;refine x (Qq gc Z)<|Qb<|Ql<|Qa<|Qo<|xc (first:=[]) (capt:=[sP b3,sP b5]) Z<|(ga hr O hsE).S ?_;rintro _ w6 ⟨rfl,I⟩;refine Qa<|QU Z Z<|QU Z Z<|x Qd<|Qb ?_;have hg:=hr.D I;refine Qe<|Ql<|ZO Z Z<|xe<|ZB Z<|Qf<|Qe<|Ql<|xe<|Q8 Z (λhH=>?_) (λhH=>?_)
  ·refine Qt ?_;have hI:hld a un (set,add).1=true:=hH;rw[QiG hI]at Y;have hf:R=(set,add):=Y.symm;exact⟨(vs,vd),oy,hg,by rw[hf];exact Qm O I,by rw[hf];exact Qm he I,by rw[hf];exact hsE,by rw[hf];show add.length<=32;omega⟩
  have hI:hld a un (set,add).1=false:=hH;rw[hgo hI]at Y;refine Qf<|Ql<|Qa<|Qx<|(ZF (Qh.ints (L:=[]) (Qm O I) oa oe) v).S ?_;rintro _ w7 ⟨rfl,rfl⟩;refine x (Zl Z)<|xe<|Q8 Z (λhJ=>?_) (λhJ=>?_)
  ·have ge:=VF hJ;rw[OZ ge]at Y;have hL:=Qi O;have kc:=Qi he;have mg:=I.size;have mh:=hg.size;refine Ql<|Qa<|Qo<|Q5 [[sS v]] λmj w8 hh mo ke =>
    Qo<|Q2 (m:=1) (news:=[sS v]) (L:=[]) (Qm he (I.D hh)) Z Z Z (ke.at oe) oo oa (oq hh.size) λv9 w9 h5 hy kf=>Qb ?_
   have mq:=hh.size;have gg:sW G w9:=(hg.D hh).Z hy λb hb=>.inr (kc b hb).1;have ms:=gg.size;have kg:=Qg (Qm O (I.D hh)) hy λb hb J=>h4 b hb J;have gh:Dj v9 vs:=λb hb J=>by
    rcases kf b hb with h1|h1
    ·exact h4 b J h1
    have:=(hL b J).2;omega
   have gi:Qh 3 ↑G w9 v9 (add++[v]):=Qh.snoc h5;refine Ql<|Qa<|Qo<|Q5 [[sS v]] λmt hM hj mu kh =>
    Qo<|Q2 (m:=1) (news:=[sS v]) (L:=[]) (Qm kg hj) Z Z Z (kh.at oe) oo oa (oq hj.size) λhN hP ki hn kj=>Qb ?_
   have kk:sW G hP:=(gg.D hj).Z hn λb hb=>.inr (hL b hb).1;have gj:Qh 3 ↑G hP hN (set++[v]):=Qh.snoc ki;have kn:=Qg (Qm gi hj) hn λb hb J=>gh b hb J;have gk:Dj hN v9:=λb hb J=>by
    rcases kj b hb with h1|h1
    ·exact gh b J h1
    have:=(Qi gi b J).2;have:=hj.size;omega
   refine Qr<|Qa<|Qx<|(Kj gj (by rw[Le,Lz];omega)).S ?_;rintro _ mv ⟨gl,gm⟩;rw[QkR hsE ge hG.1 hG.2]at gm;refine xe<|Qr<|QB Z Z<|Qa<|xe ?_;exact⟨(k+1,hN,v9,ins set v,add++[v]),by show a.al.length - (k+1)<a.al.length - k;omega,oz,U,kk.Z gl λb hb=>.inr (Qi gj b hb).1,gm,Qg kn gl λb hb J=>gk b J hb,gk,Yn.ins v,by show(add++[v]).length<=k+1;rw[Le,Lz];omega,Y⟩
  have ko:=Ks hJ;rw[O0 ko]at Y;refine Qf<|Qr<|QB Z Z<|Qa<|xe ?_;exact⟨(k+1,vs,vd,set,add),by show a.al.length - (k+1)<a.al.length - k;omega,oz,U,hg,Qm O I,Qm he I,h4,hsE,by show add.length<=k+1;omega,Y⟩
 rintro⟨vs,vd⟩ g w5 ⟨hr,O,he,hsE,mw⟩;simp only[]at O he;have gn:Qu [] ↑w5 vd R.2:=Qh.ints he oa oe;have hL:=Qi O;refine Qe<|Ql<|QG gn Z<|Qa<|xe<|QZ (α:=Nat×O8×LI) [(6,7),(11,11),(18,21),(69,88)] (λz=>[(11,z.2.1),(69,sS z.1)]) (λz w'=>z.1<=R.2.length/\sW w5 w'/\Qh 3 ↑G w' z.2.1 z.2.2/\Yn z.2.2/\(R.2.drop z.1).foldl (xtD a un) z.2.2=E) (λz=>R.2.length - z.1) (0,vs,R.1) oy ⟨Lp _,xh.C _ _,O,hsE,hB.symm⟩ ?_;rintro⟨k,h6,set⟩ g w6 ⟨hk,I,hz,hw,ha⟩;simp only[]at hk hz hw ha;have hg:=hr.D I;have kb:=hw.len;have kq:Qu [] ↑w6 h6 set:=Qh.ints hz oa oe;refine Zj rfl Z (λhQ=>?_) (λhQ=>?_)
 ·refine Qt ?_;have hD:R.2.length<=k:=by have hF:¬(k:Int)<(R.2.length:Int):=hQ;omega
  rw[Lx hD]at ha;have kr:set=E:=ha;rw[kr]at hz hw;refine Ql<|x Qd<|Qb<|Qk ⟨[h6,sS 0],oy,hq.D hg,h6,Z,Za hz g2,hw⟩
 have U:k<R.2.length:=by have hF:(k:Int)<(R.2.length:Int):=hQ;omega
 rw[QX U,LP]at ha;refine Qf<|Qe<|Qn<|Qc<|xii (i:=k) (gn.I I) Z Z U λmy gq=>?_;refine Zh (R.2[k]'U) λv hv=>?_;rw[hv]at gq ha;refine x (Qq gq Z)<|QV [sS 0] λkt w7 ku kv kw=>Qo<|Qv (u:=sS v) kw Z Z (Mc Z) Z λw8 hh gr=>xe ?_;have h7:sW w6 w8:=ku.O hh kv;refine Ql<|Qx<|(Z0 (kq.I h7)).S ?_;rintro v9 w9 ⟨hy,h5⟩;have gs:=Qi h5;have kx:=gr.I hy;have mz:=gr.lt;refine x (Zk (l:=[]) (l':=[.tmp 18]))<|Qx<|(QgY (gp:=65) (cap:=[sP kt]) (p:=λe=>decide (e=v)) (enters_of func65 od Z) h5 oa
  (λe W hW=>Qon (kx.J hW λJ=>oq (gs _ J).1) e)).S ?_
 rintro gt hM ⟨hj,kz⟩;refine Qb ?_;have k0:=h7.D hy;have h8:sW w6 hM:=k0.Z hj λb hb=>.inr (ou (gs b hb).1 h7.size);have k4:=hg.D h8;have gu:Yn (set.filter λe=>!decide (e=v)):=hw.fil _;have gv:Qh 3 ↑G hM gt (set.filter λe=>!decide (e=v)):=Za kz (hg.D h7).size;have k5:xtD a un set v=if hld a un (set.filter λe=>!decide (e=v))=true then set.filter λe=>!decide (e=v) else set:=rfl
 rw[k5]at ha;refine Ql<|Qa<|Qo<|xc (first:=[]) (capt:=[sP b3,sP b5]) Z<|(ga k4 gv gu).S ?_;rintro _ hP ⟨rfl,hn⟩;refine Qa<|QU Z Z<|QU Z Z<|x Qd<|Qb<|Qe<|Ql<|ZO Z Z<|xe<|ZB rfl<|Qf<|Ql<|xe<|Q8 rfl (λhT=>?_) (λhT=>?_)
 ·rw[O0 hT]at ha;refine Qr<|Qa<|Qb<|Qr<|QB Z Z<|Qa<|xe ?_;exact⟨(k+1,gt,set.filter λe=>!decide (e=v)),by show R.2.length - (k+1)<R.2.length - k;omega,oy,U,(I.D h8).D hn,Qm gv hn,gu,ha⟩
 rw[OZ (λh=>MY (hT.symm.D h))]at ha;refine Qf<|Qr<|QB Z Z<|Qa<|xe ?_;exact⟨(k+1,h6,set),by show R.2.length - (k+1)<R.2.length - k;omega,oy,U,(I.D h8).D hn,Qm hz (h8.D hn),hw,ha⟩
open Go.RowKit
section
variable {e bys:Nat}
theorem Qjv [h:Sl P t e 1 bys z]{x G I J:O9}{b cap lo hi:Nat}{k0 k1 k2:IntKind}(hx:ev f x=sL b n cap)(O:ev f G=.int k0 lo)(h1:ev f I=.int k1 lo)(h2:ev f J=.int k2 hi)(ha:lo<=hi)(hf:hi<=cap)(w:O7):
  (execOp (ev f) ⟨d,.slice t x (some G) (some I) (some J),ty,pS,af,gd⟩).run P w=.ok (.value (.slice (some ⟨b,if hi=lo then 0 else lo,none⟩) 0 (hi - lo))) w:=by
 obtain⟨ii,U,_,hs,_⟩:=Sl.info h;by_cases V:hi=lo
 ·subst V;simp[execOp,hx,O,h1,h2,Instr.sliceAt,Instr.slice,Instr.sliceBounds,Instr.sliceBound,asIntOf,run_underlying h.u,sizeOf,typeInfo,U];intro Y;omega
 simp[execOp,hx,O,h1,h2,Instr.sliceAt,Instr.slice,Instr.sliceBounds,Instr.sliceBound,asIntOf,run_underlying h.u,sizeOf,typeInfo,U,hs,ha,hf,V,Addr.add];intro Y;exact Y.symm
theorem Qp1 [h:Sl P t e 1 bys z]{s:O9}{b cap:Nat}{u:O8}{a:Addr}{c:Nat}(I:QL ↑w b e us)(U:ev f s=.slice (some ⟨b,off,none⟩) n cap)(V:ev f y=.slice (some a) 1 c)(Y:At [] ↑w a [u])(h1:u.oneCell'=true)(ha:n+1<=cap)(he:off+n<us.length)
  (hK:∀w',xh [b] w w'->QL ↑w' b e (us.set (off+n) u)->K (QP f d (.slice (some ⟨b,off,none⟩) (n+1) cap)) w'):XO P ⟨d,.call ⟨.builtin .append,#[s,y],#[t,t]⟩,ty,pS,af,gd⟩ f w K:=by
 obtain⟨ii,hf,_,G,_⟩:=Sl.info h;have J:=run_firstCells_some (P:=P) w ii.size 1 a 1 c [u] (by rw[G];rfl) Y.cells;rw[G]at J;have O:=run_storeCells_at P b (off+n) e [u] 0 us.toArray w I (by simp;omega) (by simp[h1]);simp only[OD,oL,VX us (off+n) u he]at O;refine xv (v:=.slice (some ⟨b,off,none⟩) (n+1) cap) (w':=w.setRow b (us.set (off+n) u).toArray) ?_ (hK _ (xh.setRow _ _ _) (JD I));have hg:(Builtin.append_ #[t,t] ty #[.slice (some ⟨b,off,none⟩) n cap,.slice (some a) 1 c]).run P w=.ok (.slice (some ⟨b,off,none⟩) (n+1) cap) (w.setRow b (us.set (off+n) u).toArray):=by
  simp[Builtin.append_,run_underlying h.u,sizeOf,typeInfo,hf,Builtin.lenOf,ha,J,Addr.add_lit,G,O]
 simp[execOp,resolve,invoke,builtin,U,V,hg]
end
abbrev cstv (n:Nat)(f:Nat->Int):LV:=(oM n).map λi=>sS (f i)
theorem Ju {f:Nat->Int}(hi:i<n):(cstv n f)[0+i*1]?=some (sS (f i)):=by simp[hi]
theorem VO {f:Nat->Int}{v:Int}:(cstv n f).set (0+i*1) (sS v)=cstv n (Xz f i v):=by
 rw[LY,OW];exact Kh (λv=>sS v) n f i v
def pre (ed:List Ed)(s:Nat):LI:=(ed.filter λe=>decide (e.2.2=(s:Int))).map (·.1)
def pos (ed:List Ed)(s:Nat):Nat:=(ed.filter λe=>decide (e.2.2<(s:Int))).length
def num (ed:List Ed)(s:Nat):Nat:=(pre ed s).length
theorem JF (s:Nat):∀ed:List Ed,pos ed (s+1)=pos ed s+num ed s
 | []=>rfl
 | e::ed=>by
  have ih:=JF s ed;unfold pos num pre at *;rw[Lo]at *;simp only[OG,decide_eq_true_eq];by_cases h1:e.2.2<(s:Int)
  ·rw[O0 h1,O0 (show e.2.2<((s+1:Nat):Int) by omega),OZ (show ¬e.2.2=(s:Int) by omega),LS,LS];omega
  by_cases G:e.2.2=(s:Int)
  ·rw[OZ h1,O0 (show e.2.2<((s+1:Nat):Int) by omega),O0 G,LS,LS];omega
  rw[OZ h1,OZ (show ¬e.2.2<((s+1:Nat):Int) by omega),OZ G];exact ih
theorem Qc0 (ed:List Ed){s:Nat}(h:s<=t):pos ed s<=pos ed t:=by
 induction t with
 | zero=>rw[Nat.le_zero.1 h];exact Lr _
 | succ t ih =>
  rcases OS t s with h1|h1
  ·rw[show s=t+1 by omega];exact Lr _
  have:=ih h1;have:=JF t ed;omega
theorem QjJ (h:∀e∈ed,0<=e.2.2):pos ed 0=0:=by
 unfold pos;rw[List.length_eq_zero_iff,MS];intro e G hd;have:=O4 hd;have:=h e G;omega
theorem QeH (ed:List Ed)(s:Nat):pos ed s<=ed.length:=LO _ _
theorem QcZ {k:Nat}(h:k<ed.length)(s:Nat):pre (ed.take (k+1)) s=pre (ed.take k) s++if(ed[k]'h).2.2=(s:Int) then[(ed[k]'h).1]else[]:=by
 unfold pre;rw[Ln h,LW,Lv];congr 1;by_cases e:(ed[k]'h).2.2=(s:Int) <;> simp[e]
theorem yA {k:Nat}(s:Nat):num (ed.take k) s<=num ed s:=by
 unfold num pre;rw[Lo,Lo];exact((List.take_sublist k ed).filter _).length_le
def offs (ed:List Ed)(s:Nat):Nat:=if num ed s=0 then 0 else pos ed s
theorem Qnv {s:Nat}(h:j<num ed s):offs ed s+j<ed.length:=by
 unfold offs;rw[OZ oa];have:=JF s ed;have:=QeH ed (s+1);omega
theorem Qnu {s:Nat}(G:s≠t)(hi:i<num ed s)(I:j<num ed t):offs ed s+i≠offs ed t+j:=by
 unfold offs;rw[OZ oa,OZ oa];have h1:=JF s ed;have h2:=JF t ed;rcases Nat.lt_or_gt_of_ne G with h|h
 ·have:=Qc0 ed (show s+1<=t by omega);omega
 have:=Qc0 ed (show t+1<=s by omega);omega
def cnb (ed:List Ed):Nat->Int
 | 0=>0
 | i+1=>(num ed i:Int)
theorem QlJ {k:Nat}(h:k<ed.length)(ht:(ed[k]'h).2.2=(t:Int))(i:Nat):cnb (ed.take (k+1)) i=if i=t+1 then cnb (ed.take k) i+1 else cnb (ed.take k) i:=by
 cases i with
 | zero=>rw[OZ oa];rfl
 | succ i =>
  show((num (ed.take (k+1)) i:Nat):Int)=_;unfold num;rw[QcZ h i];by_cases e:i=t
  ·subst e;rw[O0 ht,O0 rfl,Le];rfl
  rw[OZ (by rw[ht];omega),LK,OZ oa];rfl
theorem Qoa (h:Zt [] ↑w va vm ve a)(hok:QO a)(hn:a.st=(n:Int)):
  QT sV 129 [.agg #[va,sS a.st,vm,ve]] w λr w'=>sW w w'/\∃rv:Nat->O8,Zu [] ↑w' r (oM n).length 1 ((oM n).flatMap λi=>[rv i])/\∀i,i<n->Qu [] ↑w' (rv i) (pre a.ed i):=by
 have pf:=hok.st1;have g9:=hok.ed_le;have hB:=hok.ed;have ka:∀e∈a.ed,0<=e.2.2:=λe I=>(hB e I).2.2.2.1;refine Zo func129 ?_;refine Qc<|Zd [va,sS a.st,vm,ve] λb1 w1 kb pg hC=>Qb ?_;have ph:=hC.lt;refine Qc ?_;have hZ:(sS (a.st+1))=sS ((n+1:Nat):Int):=O1 _ oa;refine Qs rfl hC Z Z<|QB Z Z<|Qo<|Y5 (n:=n+1) hZ hZ oa λbC w2 ga pn gb=>Qb ?_;have po:=gb.lt;have kc:QL ↑w2 bC 3 (cstv (n+1) λ_=>0):=by
  have e:(oI (n+1) (sS 0).cells.toList).flatten=cstv (n+1) λ_=>0:=by
   apply L5
   ·simp[Value.cells]
   intro i h1 h2;simp[Value.cells]
  rw[<-e];exact gb
 have hD:=kb.D ga;have hE:=hC.I ga;refine Qe<|Qc<|Qs Z hE Z Z<|QG (h.ed.I hD) Z<|Qa<|xe<|QZ (α:=Nat×(Nat->Int)) [(5,5),(19,31)] (λz=>[(19,sS z.1)]) (λz w'=>z.1<=a.ed.length/\xh [bC] w2 w'/\QL ↑w' bC 3 (cstv (n+1) z.2)/\∀i,z.2 i=cnb (a.ed.take z.1) i) (λz=>a.ed.length - z.1) (0,λ_=>0) Lb
  ⟨Lp _,xh.C _ _,kc,λi=>by cases i <;> rfl⟩ ?_
 rintro⟨k,fc⟩ g w3 ⟨hk,hz,h0,O⟩;simp only[]at hk h0 O;have ke:sW w w3:=hD.O hz oa;have gc:b1∉[bC]:=om
 have kf:=hE.J hz gc;refine Zj rfl Z (λhF=>?_) (λhF=>?_)
 ·refine Qt ?_;have kg:a.ed.length<=k:=by have J:¬(k:Int)<(a.ed.length:Int):=hF;omega
  rw[Ls kg]at O;refine Qe<|Qc<|Qs Z kf Z Z<|Qa<|xe<|QZ (α:=Nat×(Nat->Int)) [(6,6),(34,48)] (λz=>[(34,sS z.1)]) (λz w'=>z.1<=n/\xh [bC] w2 w'/\QL ↑w' bC 3 (cstv (n+1) z.2)/\∀i,i<=n->z.2 i=if i<=z.1 then(pos a.ed i:Int) else cnb a.ed i) (λz=>n - z.1) (0,fc) Lb
   ⟨Lp _,hz,h0,λi _=>by
    show fc i=if i<=0 then(pos a.ed i:Int) else cnb a.ed i
    rw[O i];cases i with
    | zero=>rw[O0 (Lr 0),QjJ ka];rfl
    | succ i=>rw[OZ oa]⟩ ?_
  rintro⟨s,f4⟩ g w4 ⟨hs,h4,Y,ha⟩;simp only[]at hs Y ha;have ge:sW w w4:=hD.O h4 oa;have hf:=hE.J h4 gc;refine Qc<|x (YF (b:=a.st) Z Z)<|xe<|Qe<|Zp Z (λhG=>?_) (λhG=>?_)
  ·refine Qt ?_;have kh:s=n:=by have J:¬(s:Int)<a.st:=hG;omega
   subst kh;have gg:∀i,i<=s->f4 i=(pos a.ed i:Int):=λi hi=>by rw[ha i hi,O0 hi]
   have pp:=h4.size;refine Qc<|Qs Z hf Z Z<|QG (h.ed.I ge) Z<|Qo<|Y5 (n:=a.ed.length) Z Z oa λbA w5 gh pt gi=>Qb<|Qc ?_;have gj:(sS a.st)=sS (s:Int):=O1 _ hn;refine Qs Z (hf.I gh) Z Z<|Qo<|Y5 (n:=s) gj gj oa λbO w6 gk pu hH=>Qb ?_;rw[Uy]at hH;have pw:=gi.lt;have hI:=gh.D gk;have ki:=ge.D hI;have kj:=Y.I hI;have kk:=hf.I hI;have hJ:bA≠bO:=oa
   have kn:bC≠bO:=oa
   have ko:b1≠bO:=oa
   have kq:Zu [] ↑w6 (sL bO s s) s 1 ((oM s).map λ_=>nS):=hH.arr oe (n:=s) (cap:=s) (sz:=1) oe oa (Lr _);refine Qe<|Ql<|QG kq Z<|Qa<|xe<|QZ (α:=Nat×(Nat->O8)) [(9,9),(58,79)] (λz=>[(58,sS z.1)]) (λz w'=>z.1<=s/\xh [bO] w6 w'/\QL ↑w' bO 47 ((oM s).map z.2)/\∀i,i<z.1->z.2 i=.slice (some ⟨bA,offs a.ed i,none⟩) 0 (num a.ed i)) (λz=>s - z.1) (0,λ_=>nS) Lb
    ⟨Lp _,xh.C _ _,hH,λi hi=>O2 hi (NF _)⟩ ?_
   rintro⟨r,rv⟩ g U ⟨hr,hg,hK,hL⟩;simp only[]at hr hK hL;have gl:sW w U:=ki.O hg oa;have gm:=kk.J hg (by simp only[oH];exact ko);have hM:=kj.J hg (by simp only[oH];exact kn);refine Zj Z Z (λhN=>?_) (λhN=>?_)
   ·refine Qt ?_;have kr:r=s:=by have J:¬(r:Int)<(s:Int):=hN;omega
    subst kr;have kt:=((gi.I gk).J hg (by simp only[oH];exact hJ));refine Qe<|Qc<|Qs Z gm Z Z<|QG (h.ed.I gl) Z<|Qa<|xe<|QZ (α:=Nat×(Nat->O8)×LV) [(11,11),(83,100)] (λz=>[(83,sS z.1)]) (λz w'=>z.1<=a.ed.length/\xh [bA,bO] U w'/\QL ↑w' bO 47 ((oM r).map z.2.1)/\QL ↑w' bA 3 z.2.2/\z.2.2.length=a.ed.length/\(∀i,i<r->z.2.1 i=.slice (some ⟨bA,offs a.ed i,none⟩) (num (a.ed.take z.1) i) (num a.ed i))/\∀i j u,i<r->(pre (a.ed.take z.1) i)[j]?=some u->z.2.2[offs a.ed i+j]?=some (sS u)) (λz=>a.ed.length - z.1) (0,rv,_) Lb
     ⟨Lp _,xh.C _ _,hK,kt,by simp[Value.cells],λi hi=>hL i hi,λi j u _ G=>by simp[pre]at G⟩ ?_
    rintro⟨m,V,cs⟩ g w8 ⟨hm,hO,hP,hh,h5,hj,ho⟩;simp only[]at hm hP hh h5 hj ho;have gn:sW w w8:=gl.Z hO λb hb=>.inr (by simp only[oN,oJ,or_false]at hb;omega);have hQ:=gm.J hO (by simp only[oN,oJ,or_false];omega);refine Zj Z Z (λhR=>?_) (λhR=>?_)
    ·refine Qt ?_;have ku:a.ed.length<=m:=by have J:¬(m:Int)<(a.ed.length:Int):=hR;omega
     rw[Ls ku]at hj ho;refine Ql<|Qb<|Qk ⟨[_],Lb,gn,V,?_,λi hi=>?_⟩
     ·rw[yk];have:=hP.arr (L:=[]) oe (n:=(oM r).length) (cap:=r) (sz:=1) oe (by simp;omega) oe;rw[Mf]at this ⊢;exact this
     rw[hj i hi];have h6:num a.ed i<=1000000:=by unfold num pre;rw[Lo];exact LA (LO _ _) (LA g9 oh)
     refine⟨oe,LA h6 oh,.inr ⟨_,_,rfl,Lr _,(λu _=>oe),(λu _=>hh.lt),λj u G=>?_⟩⟩;rw[MM]at G;cases hq:(pre a.ed i)[j]? with
     | none=>rw[hq]at G;cases G
     | some v =>
      rw[hq]at G;cases G
      rw[Addr.add_lit,hh.cell];exact ho i j v hi hq
    have hp:m<a.ed.length:=by have J:(m:Int)<(a.ed.length:Int):=hR;omega
    have hS:=hB _ (Lm hp);have h7:=QcZ hp;refine Zh (a.ed[m]'hp) λe I=>?_;rw[I]at hS;simp only[I]at h7;obtain⟨t,ht⟩:∃t:Nat,e.2.2=(t:Int):=⟨e.2.2.toNat,oa⟩;have h8:t<r:=oa
    have kv:num (a.ed.take (m+1)) t=num (a.ed.take m) t+1:=by unfold num;rw[h7,O0 ht,Le];rfl
    have h6:num (a.ed.take m) t<num a.ed t:=by have:=yA (ed:=a.ed) (k:=m+1) t;omega
    have gq:=Qnv h6;have kw:=hj t h8;refine Qf<|Qe<|Qn<|Qc<|xie (h.ed.I gn) Z Z hp λpz gr=>?_;rw[I]at gr;refine x (QF gr Z Z)<|QV [sS 0,sS 0,sS 0] λb11 w9 kx kz k0=>Q6 (Qp e) k0 oz λhv k4 hT=>xe ?_;have hU:sW w8 hv:=kx.O k4 kz;have gs:=hP.I hU;have k5:=hh.I hU;have k6:=hh.lt;have k9:∀{b:Nat},b<↑w8->b11≠b:=λhb=>oa
    have hw:(sS e.2.2)=sS (t:Int):=O1 _ ht;refine ZJ [bA] (Xk 0 14 [10,11,13]) ?_;have hV:b11∉[bA]:=by simp only[oH];exact k9 k6
    have gt:bO∉[bA]:=by simp only[oH];exact λh=>hJ h.symm
    have gu:sW hv { hv with drawn:=hv.drawn+1 }:=xh.Y _ _
    refine p Qy<|p (QH Z)<|pq (λ_ hc=>Qj (hT.J hc hV) Z Z)<|p Qy<|p (QH Z)<|pq (λ_ hc=>Qj (hT.J hc hV) Z Z) <|
     p (λ_=>QD (i:=t) Z (show Go.Lg.ev _ _=_ from hw) h8)<|pq (λ_ hc=>Qj (u:=V t) (gs.J hc gt) Z (Vd h8))<|p (QH Z)<|pq (λ_ hc=>Qj (hT.J hc hV) Z Z) <|
     pk<|Q5 [[sS e.1]] λp0 hW gv p4 ma=>⟨(gu.D gv).any,?_⟩
    have h9:sW hv hW:=gu.D gv;refine pk<|Qp1 (u:=sS e.1) (k5.I h9) (show Go.Lg.ev _ _=_ from kw) Z (ma.at oe) rfl oa (by rw[h5];exact gq) λgx hX mc=>⟨h9.any.Q hX,?_⟩;have mf:((oM r).map V).length=r:=oe
    refine p (λ_=>QD (i:=t) Z (show Go.Lg.ev _ _=_ from hw) h8)<|pkk<|Qv (j:=0+t*1) (u:=.slice (some ⟨bA,offs a.ed t,none⟩) (num (a.ed.take m) t+1) (num a.ed t)) ((gs.I h9).J hX gt) Z Z (by rw[mf];omega) Z λgy gz mg=>pe ?_;have mh:QL ↑gy bO 47 ((oM r).map (Xz V t (.slice (some ⟨bA,offs a.ed t,none⟩) (num (a.ed.take m) t+1) (num a.ed t)))):=by
     have e1:=Kh id r V t (.slice (some ⟨bA,offs a.ed t,none⟩) (num (a.ed.take m) t+1) (num a.ed t));simp only[id]at e1;rw[<-e1];simpa using mg
    refine Qr<|QB Z Z<|Qa<|xe<|⟨(m+1,Xz V t (.slice (some ⟨bA,offs a.ed t,none⟩) (num (a.ed.take m) t+1) (num a.ed t)),cs.set (offs a.ed t+num (a.ed.take m) t) (sS e.1)),by show a.ed.length - (m+1)<a.ed.length - m;omega,Lb,hp,?_,mh,mc.J gz (by simp only[oH];exact hJ),by simp only[];rw[M0];exact h5,λi hi=>?_,λi j u hi G=>?_⟩
    ·have g0:∀b,b=bA\/b=bO->b∈[bA,bO]:=λb hb=>by simp only[oN,oJ,or_false];exact hb
     have k1:xh [bA,bO] U hW:=hO.Q ((hU.D h9).S λb hb=>by cases hb);have k2:xh [bA,bO] hW gx:=hX.S λb hb=>g0 b (.inl (Lc.1 hb));have k3:xh [bA,bO] gx gy:=gz.S λb hb=>g0 b (.inr (Lc.1 hb));exact(k1.Q k2).Q k3
    ·simp only[];by_cases e1:i=t
     ·subst e1;rw[Zv,kv]
     rw[ZQ _ _ e1,hj i hi];congr 1;unfold num;rw[h7,OZ (by rw[ht];omega),LK]
    simp only[]at G ⊢;rw[h7]at G;by_cases e1:i=t
    ·subst e1;rw[O0 ht]at G;rcases OS j (num (a.ed.take m) i) with h2|h2
     ·rw[LT h2]at G;rw[MP oa];exact ho i j u hi G
     rw[Mz h2]at G;have mj:j - num (a.ed.take m) i=0:=by
      rcases Nat.eq_zero_or_pos (j - num (a.ed.take m) i) with h3|h3
      ·exact h3
      rw[Mj (by simp only[oL];exact h3)]at G;cases G
     have mo:j=num (a.ed.take m) i:=oa
     have mq:u=e.1:=by
      have:(pre (a.ed.take m) i).length=num (a.ed.take m) i:=rfl;rw[this,mj]at G;exact(Option.some.inj G).symm
     rw[mo,mq,List.getElem?_set_self (by rw[h5];exact gq)]
    rw[OZ (by rw[ht];omega),LK]at G;have ms:j<num a.ed i:=LX (Ml.1 G).1 (yA i);rw[MP (Qnu (λh=>e1 h.symm) h6 ms)];exact ho i j u hi G
   have g2:r<s:=by have J:(r:Int)<(s:Int):=hN;omega
   refine Qf<|Qe<|Qn<|Ql<|Qb ?_;have mt:=JF r a.ed;have g3:=QeH a.ed (r+1);have hfr:f4 r=(pos a.ed r:Int):=gg r oa;have mu:f4 (r+1)=(pos a.ed (r+1):Int):=gg (r+1) oa;have g4:(sS (f4 r))=sS (pos a.ed r:Int):=O1 _ hfr;have mv:(sS (f4 (r+1)))=sS (pos a.ed (r+1):Int):=O1 _ mu;have hA:(sS ((r:Int)+1))=sS ((r+1:Nat):Int):=rfl;refine ZJ [] (Xk 0 19 [18])<|p Qy<|p Qy<|p Qy<|p Qy<|p Qy<|p (λ_=>QD (i:=r) Z Z oa) <|
    pq (λ_ hc=>Qj (hM.I hc) Z (Ju oa))<|p Qy<|p Qy<|p (λ_=>QD (i:=r) Z Z oa)<|pq (λ_ hc=>Qj (hM.I hc) Z (Ju oa)) <|
    p Qy<|p Qy<|p (λ_=>Xx Z Z ⟨oa,oa⟩)<|p (λ_=>QD (i:=r+1) Z (show Go.Lg.ev _ _=_ from hA) oa) <|
    pq (λ_ hc=>Qj (hM.I hc) Z (Ju oa))<|p (Qjv Z (show Go.Lg.ev _ _=_ from g4) (show Go.Lg.ev _ _=_ from g4) (show Go.Lg.ev _ _=_ from mv) oa g3)<|p (λ_=>QD (i:=r) Z Z g2)<|pkk<|Qv (j:=0+r*1) (u:=.slice (some ⟨bA,if pos a.ed (r+1)=pos a.ed r then 0 else pos a.ed r,none⟩) 0 (pos a.ed (r+1) - pos a.ed r)) (hK.I (xh.Y _ _)) Z Z (by simp;omega) Z λmw my hf=>pe ?_
   have mz:sW U { U with drawn:=U.drawn+1 }:=xh.Y _ _
   have m0:(Value.slice (some ⟨bA,if pos a.ed (r+1)=pos a.ed r then 0 else pos a.ed r,none⟩) 0 (pos a.ed (r+1) - pos a.ed r))=.slice (some ⟨bA,offs a.ed r,none⟩) 0 (num a.ed r):=by
    have e1:pos a.ed (r+1) - pos a.ed r=num a.ed r:=oa
    have e2:(if pos a.ed (r+1)=pos a.ed r then 0 else pos a.ed r)=offs a.ed r:=by
     unfold offs;by_cases e3:num a.ed r=0
     ·rw[O0 e3,O0 oa]
     rw[OZ e3,OZ oa]
    rw[e1,e2]
   have m1:QL ↑mw bO 47 ((oM s).map (Xz rv r (.slice (some ⟨bA,offs a.ed r,none⟩) 0 (num a.ed r)))):=by
    have e1:=Kh id s rv r (.slice (some ⟨bA,offs a.ed r,none⟩) 0 (num a.ed r));simp only[id]at e1;rw[<-e1,<-m0];simpa using hf
   refine Qr<|QB Z Z<|Qa<|xe<|⟨(r+1,Xz rv r (.slice (some ⟨bA,offs a.ed r,none⟩) 0 (num a.ed r))),by show s - (r+1)<s - r;omega,Lb,g2,(hg.Q (mz.S λb hb=>by cases hb)).Q my,m1,λi hi=>?_⟩;simp only[];by_cases e1:i=r
   ·subst e1;rw[Zv]
   rw[ZQ _ _ e1];exact hL i (by have J:i<r+1:=hi;omega)
  have m2:s<n:=by have J:(s:Int)<a.st:=hG;omega
  refine Qf<|Qe<|Qn<|Ql<|Qb ?_;have mt:=JF s a.ed;have g3:=QeH a.ed (s+1);have p5:f4 s=(pos a.ed s:Int):=by rw[ha s oa,O0 (Lr _)]
  have p6:f4 (s+1)=(num a.ed s:Int):=by rw[ha (s+1) oa,OZ oa];rfl
  have hA:(sS ((s:Int)+1))=sS ((s+1:Nat):Int):=rfl;refine ZJ [] (Xk 0 12 [11])<|p Qy<|p Qy<|p (λ_=>Xx Z Z ⟨oa,oa⟩)<|p (λ_=>QD (i:=s+1) Z (show Go.Lg.ev _ _=_ from hA) oa) <|
   pq (λ_ hc=>Qj (Y.I hc) Z (Ju oa))<|p Qy<|p Qy<|p (λ_=>QD (i:=s) Z Z oa)<|pq (λ_ hc=>Qj (Y.I hc) Z (Ju oa)) <|
   p (λ_=>Xx Z Z ⟨oa,oa⟩)<|p (λ_=>QD (i:=s+1) Z (show Go.Lg.ev _ _=_ from hA) oa)<|pkk<|Qv (j:=0+(s+1)*1) (u:=sS (f4 (s+1)+f4 s)) (Y.I (xh.Y _ _)) Z Z (by simp;omega) Z λp7 m3 g5=>pe ?_
  rw[VO]at g5;have m4:sW w4 { w4 with drawn:=w4.drawn+1 }:=xh.Y _ _
  refine Qr<|QB Z Z<|Qa<|xe<|⟨(s+1,Xz f4 (s+1) (f4 (s+1)+f4 s)),by show n - (s+1)<n - s;omega,Lb,m2,(h4.Q (m4.S λb hb=>by cases hb)).Q m3,g5,λi hi=>?_⟩;simp only[];by_cases e1:i=s+1
  ·subst e1;rw[Zv,O0 (Lr _)];omega
  rw[ZQ _ _ e1,ha i hi];by_cases e2:i<=s
  ·rw[O0 e2,O0 oa]
  rw[OZ e2,OZ oa]
 have hy:k<a.ed.length:=by have J:(k:Int)<(a.ed.length:Int):=hF;omega
 have hS:=hB _ (Lm hy);have g6:=λt ht=>QlJ (t:=t) hy ht;refine Zh (a.ed[k]'hy) λe I=>?_;rw[I]at hS;simp only[I]at g6;obtain⟨t,ht⟩:∃t:Nat,e.2.2=(t:Int):=⟨e.2.2.toNat,oa⟩;have p8:t<n:=oa
 refine Qf<|Qe<|Qn<|Qc<|xie (h.ed.I ke) Z Z hy λp9 g7=>?_;rw[I]at g7;refine x (QF g7 Z Z)<|QV [sS 0,sS 0,sS 0] λb5 qf m5 m6 m7=>Q6 (Qp e) m7 oz λm8 m9 pc=>xe ?_;have hY:sW w3 m8:=m5.O m9 m6;have hw:(sS (e.2.2+1))=sS ((t+1:Nat):Int):=O1 _ oa;have qj:0<=fc (t+1)/\fc (t+1)<=1000000:=by
  rw[O];have h1:=yA (ed:=a.ed) (k:=k) t;have h2:num a.ed t<=a.ed.length:=by unfold num pre;rw[Lo];exact LO _ _
  show 0<=((num (a.ed.take k) t:Nat):Int)/\((num (a.ed.take k) t:Nat):Int)<=1000000;omega
 refine Qr<|Qa<|Qs Z pc Z Z<|QB Z Z<|x (QD (i:=t+1) Z (show Go.Lg.ev _ _=_ from hw) oa) <|
  ZC (h0.I hY) Z (Ju oa)<|QB Z Z<|x (QD (i:=t+1) Z (show Go.Lg.ev _ _=_ from hw) oa)<|Qo<|Qv (j:=0+(t+1)*1) (u:=sS (fc (t+1)+1)) (h0.I hY) Z Z (by simp;omega) Z λql pd hQ=>xe ?_
 rw[VO]at hQ;refine Qr<|QB Z Z<|Qa<|xe<|⟨(k+1,Xz fc (t+1) (fc (t+1)+1)),by show a.ed.length - (k+1)<a.ed.length - k;omega,Lb,hy,(hz.Q (hY.S λb hb=>by cases hb)).Q pd,hQ,λi=>?_⟩;simp only[];rw[g6 t ht i];by_cases e1:i=t+1
 ·subst e1;rw[Zv,O0 rfl,O]
 rw[ZQ _ _ e1,OZ e1,O]
def bq (ed:List Ed):Nat->Nat->LI->LI
 | 0,_,l=>l
 | f+1,i,l=>if i<l.length then bq ed f (i+1) ((pre ed (xj l i).toNat).foldl zV l) else l
theorem QoM {f:Nat}{l:LI}(h:¬i<l.length):bq ed f i l=l:=by
 cases f with
 | zero=>rfl
 | succ f=>rw[bq,OZ h]
def crq (a:Qz)(tg:LI):LI:=bq a.ed (tg.length+a.st.toNat) 0 tg
def blkd (a:Qz)(tg:LI):LI:=((oM a.st.toNat).filter λi:Nat=>decide ((i:Int)∉crq a tg)).map λi:Nat=>(i:Int)
structure RkI (n:Nat)(l:LI)(f:Nat->Int):Prop where
 s:∀i:Nat,i<n->(f i<0↔(i:Int)∉l)
 lo:∀i:Nat,i<n->-1<=f i
 hi:∀i:Nat,i<n->f i<=(l.length:Int)
theorem Qht {tg:LI}(h:Zt [] ↑w va vm ve a)(hok:QO a)(hn:a.st=(n:Int))(hT:Qu [] ↑w vt tg)(hP:∀x∈tg,0<=x/\x<(n:Int))(mg:tg.length<=1000000):
  QT sV 55 [.agg #[va,sS a.st,vm,ve],vt] w λr w'=>sW w w'/\∃b f,r=sL b n n/\↑w<=b/\QL ↑w' b 3 (cstv n f)/\∀i:Nat,i<n->(f i<0↔(i:Int)∉crq a tg):=by
 have mh:=hok.st1;have gz:=hok.ed_le;have g0:=hok.ed;refine Zh (crq a tg) λR hR=>?_;have g2:bq a.ed (tg.length+n) 0 tg=R:=by rw[<-hR];unfold crq;rw[hn];rfl
 rw[hR];refine Zo func55 ?_;refine Qc<|Zd [va,sS a.st,vm,ve] λb2 w1 hQ mj hS=>Qb<|Qc<|Q7 hS Z Z<|Qx<|(Qoa (h.I hQ) hok hn).S ?_;rintro vr w2 ⟨hU,rv,g3,g4⟩;refine Qb ?_;have h7:=hQ.D hU;have hV:(sS a.st)=sS (n:Int):=O1 _ hn;refine Qc<|Qs Z (hS.I hU) Z Z<|Qo<|Y5 (n:=n) hV hV oa λbO w3 hW hX g5=>Qb ?_;have hY:QL ↑w3 bO 3 (cstv n λ_=>0):=by
  have e:(oI n (sS 0).cells.toList).flatten=cstv n λ_=>0:=by
   apply L5
   ·simp[Value.cells]
   intro i h1 h2;simp[Value.cells]
  rw[<-e];exact g5
 have g6:=h7.D hW;have mo:=h7.size;have g7:Zu [] ↑w3 (sL bO n n) n 1 (cstv n λ_=>0):=hY.arr oe (n:=n) (cap:=n) (sz:=1) oe oa (Lr _);refine Qe<|Ql<|QG g7 Z<|Qa<|xe<|QZ (α:=Nat×(Nat->Int)) [(7,7),(21,27)] (λz=>[(21,sS z.1)]) (λz w'=>z.1<=n/\xh [bO] w3 w'/\QL ↑w' bO 3 (cstv n z.2)/\∀i,i<z.1->z.2 i=-1) (λz=>n - z.1) (0,λ_=>0) Lb ⟨Lp _,xh.C _ _,hY,λi hi=>O2 hi (NF _)⟩ ?_;rintro⟨k,f4⟩ g w4 ⟨hk,h8,h0,hv⟩;simp only[]at hk h0 hv;refine Zj rfl Z (λh9=>?_) (λh9=>?_)
 ·refine Qt ?_;have g8:k=n:=by have U:¬(k:Int)<(n:Int):=h9;omega
  subst g8;have g9:sW w w4:=g6.O h8 oa;have hZ:sW w2 w4:=hW.O h8 hX;have ka:=hZ.size;refine Ql<|Qx<|(Z0 (hT.I g9)).S ?_;rintro v5 w5 ⟨ga,hA⟩;refine Qb ?_;have kb:Qu [] ↑w5 v5 tg:=Qh.ints hA oa oe;have gb:bO∉ob v5:=λhm=>ou (Qi hA _ hm).1 h0.lt
  have kc:=hZ.D ga;refine Qe<|Ql<|QG kb Z<|Qa<|xe<|QZ (α:=Nat×(Nat->Int)) [(10,10),(32,39)] (λz=>[(32,sS z.1)]) (λz w'=>z.1<=tg.length/\xh [bO] w5 w'/\QL ↑w' bO 3 (cstv k z.2)/\RkI k (tg.take z.1) z.2) (λz=>tg.length - z.1) (0,f4) Lb
   ⟨Lp _,xh.C _ _,h0.I ga,⟨λi hi=>by show f4 i<0↔_;rw[hv i hi];simp,λi hi=>by show -1<=f4 i;rw[hv i hi];omega,λi hi=>by show f4 i<=_;rw[hv i hi];omega⟩⟩ ?_
  rintro⟨j,f6⟩ g w6 ⟨hj,hB,hC,hf⟩;simp only[]at hj hC hf;have gc:=Qg hA hB λb hb hm=>gb (Lc.1 hm ▸ hb);have ke:Qu [] ↑w6 v5 tg:=Qh.ints gc oa oe;refine Zj Z Z (λhD=>?_) (λhD=>?_)
  ·refine Qt ?_;have kf:tg.length<=j:=by have U:¬(j:Int)<(tg.length:Int):=hD;omega
   rw[Ls kf]at hf;have kg:sW w2 w6:=kc.O hB hX;refine Qe<|Qc<|Qb<|QZ (α:=Nat×O8×LI×(Nat->Int)) [(8,8),(11,11),(13,13),(40,78)] (λz=>[(8,z.2.1),(11,sS z.1)]) (λz w'=>z.1<=z.2.2.1.length/\sW w2 w'/\Qh 3 ↑w2 w' z.2.1 z.2.2.1/\bO∉ob z.2.1/\QL ↑w' bO 3 (cstv k z.2.2.2)/\RkI k z.2.2.1 z.2.2.2/\Ur k tg z.2.2.1/\bq a.ed (tg.length+k - z.1) z.1 z.2.2.1=R) (λz=>tg.length+k+1 - z.1) (0,v5,tg,f6) oy
    ⟨Lp _,kg,Za gc ka,gb,hC,hf,Ur.zero _ _,g2⟩ ?_
   rintro⟨i,vq,l,f7⟩ g w7 ⟨hi,h4,hF,ge,hG,hH,h5,V⟩;simp only[]at hi hF ge hG hH h5 V;have mq:=h5.len;have kh:=h5.all hP;have gg:Qu [] ↑w7 vq l:=Qh.ints hF oa oe;refine Qe<|Ql<|Qa<|QG gg Z<|ZY Z Z<|xe<|Zp Z (λhI=>?_) (λhI=>?_)
   ·refine Qt ?_;have ki:¬i<l.length:=by have U:¬(i:Int)<(l.length:Int):=hI;omega
    rw[QoM ki]at V;refine Ql<|Qb<|Qk ⟨[_],Lb,h7.D h4,bO,f7,Z,oa,hG,λi hi=>by rw[<-V];exact hH.s i hi⟩
   have I:i<l.length:=by have U:(i:Int)<(l.length:Int):=hI;omega
   have kj:=kh _ (XG I);have kk:tg.length+k - i=(tg.length+k - (i+1))+1:=oa
   rw[kk,bq,O0 I]at V;have hJ:=Zn I;refine Zh (xj l i) λs hs=>?_;rw[hs]at kj V hJ;have gh:s=(s.toNat:Int):=oa
   have hg:s.toNat<k:=oa
   have hE:=g4 s.toNat hg;have kn:(pre a.ed s.toNat).length<=131072:=by unfold pre;rw[Lo];exact LA (LO _ _) gz
   have gi:∀x∈pre a.ed s.toNat,0<=x/\x<(k:Int):=λx hx=>by
    obtain⟨e,he,rfl⟩:=Lu.1 hx;have:=g0 e (LD.1 he).1;omega
   have gj:(sS s)=sS (s.toNat:Int):=O1 _ gh;have ko:s.toNat<(oM k).length:=by rw[Mf];exact hg
   refine Zh (pre a.ed s.toNat) λps kq=>?_;rw[kq]at hE kn gi V;refine Qf<|Qe<|Qn<|Ql<|Qa<|Qa<|xii (i:=i) gg Z Z I λms gk=>?_;rw[hJ]at gk;refine x (Qq gk Z)<|xp (g:=λj:Nat=>[rv j]) (i:=s.toNat) (λ_=>Z) (g3.I h4) Z (show Go.Lg.ev _ _=_ from gj) ko λmt gl=>?_;rw[Mw]at gl;refine x (Qq (u:=rv s.toNat) gl Z)<|QG (hE.I h4) Z<|Qa<|xe<|QZ (α:=Nat×O8×LI×(Nat->Int)) [(8,8),(13,13),(54,78)] (λz=>[(8,z.2.1),(54,sS z.1)]) (λz w'=>z.1<=ps.length/\sW w2 w'/\Qh 3 ↑w2 w' z.2.1 z.2.2.1/\bO∉ob z.2.1/\QL ↑w' bO 3 (cstv k z.2.2.2)/\RkI k z.2.2.1 z.2.2.2/\Ur k tg z.2.2.1/\z.2.2.1[i]?=some s/\(ps.drop z.1).foldl zV z.2.2.1=ps.foldl zV l) (λz=>ps.length - z.1) (0,vq,l,f7) oy
    ⟨Lp _,h4,hF,ge,hG,hH,h5,by rw[LE I,hJ],rfl⟩ ?_
   rintro⟨m,hK,lm,f8⟩ g w8 ⟨hm,hh,ho,hp,ha,J,hw,hy,O⟩;simp only[]at hm ho hp ha J hw hy O;have mu:=hw.len;have hr:i<lm.length:=(Ml.1 hy).1;have gm:lm[i]'hr=s:=by have:=hy;rw[LE hr]at this;exact Option.some.inj this
   have kr:Qu [] ↑w8 hK lm:=Qh.ints ho oa oe;refine Zj Z Z (λhL=>?_) (λhL=>?_)
   ·refine Qt ?_;have kt:ps.length<=m:=by have U:¬(m:Int)<(ps.length:Int):=hL;omega
    rw[Lx kt]at O;have ku:lm=ps.foldl zV l:=O;rw[<-ku]at V;refine Qr<|Qa<|QB Z Z<|Qb<|⟨(i+1,hK,lm,f8),by show tg.length+k+1 - (i+1)<tg.length+k+1 - i;omega,oy,hr,hh,ho,hp,ha,J,hw,V⟩
   have hu:m<ps.length:=by have U:(m:Int)<(ps.length:Int):=hL;omega
   have gn:=gi _ (Lm hu);rw[QX hu,LP]at O;refine Zh (ps[m]'hu) λq hq=>?_;rw[hq]at gn O;obtain⟨t,ht⟩:∃t:Nat,q=(t:Int):=⟨q.toNat,oa⟩;have Y:t<k:=oa
   have h6:(sS q)=sS (t:Int):=O1 _ ht;refine Qf<|Qe<|Qn<|Qc<|xii (i:=m) (hE.I hh) Z Z hu λmv gq=>?_;rw[hq]at gq;refine x (Qq gq Z)<|Qb<|Ql<|Qa<|x (QD (i:=t) Z (show Go.Lg.ev _ _=_ from h6) Y)<|ZC ha Z (Ju Y)<|x (YF (a:=f8 t) (b:=0) Z Z)<|xe<|Zp Z (λhM=>?_) (λhM=>?_)
   ·have kv:q∈lm:=by rw[ht];exact Classical.byContradiction λhn=>hM ((J.s t Y).2 hn)
    have hN:zV lm q=lm:=by unfold zV;rw[OZ (not_not_intro kv)]
    rw[hN]at O;refine Qf<|Qr<|QB Z Z<|Qa<|xe ?_;exact⟨(m+1,hK,lm,f8),by show ps.length - (m+1)<ps.length - m;omega,oy,hu,hh,ho,hp,ha,J,hw,hy,O⟩
   have gr:q∉lm:=by rw[ht];exact(J.s t Y).1 hM
   have hN:zV lm q=lm++[q]:=by unfold zV;rw[O0 gr]
   rw[hN]at O;have mw:=J.hi s.toNat hg;have my:¬f8 s.toNat<0:=λh=>(J.s s.toNat hg).1 h (by rw[<-gh,<-gm];exact Lm hr);have kw:=Qi ho;have mz:=hh.size;refine Ql<|Qa<|Qa<|Qa<|Qa<|xii (i:=i) kr Z Z hr λm0 gs=>?_;rw[gm]at gs;refine x (Qq gs Z)<|x (QD (i:=s.toNat) Z (show Go.Lg.ev _ _=_ from gj) hg)<|ZC ha Z (Ju hg)<|QB Z Z<|x (QD (i:=t) Z (show Go.Lg.ev _ _=_ from h6) Y) <|
    Qo<|Qv (j:=0+t*1) (u:=sS (f8 s.toNat+1)) ha Z Z (by simp;omega) Z λw9 hO gt=>xe ?_
   rw[VO]at gt;have kx:=Qg ho hO λb hb hm=>hp (Lc.1 hm ▸ hb);have m1:=hO.size;refine Qr<|Qa<|Qa<|Qo<|Q5 [[sS q]] λm2 m3 hz m4 kz=>Qo<|Q2 (m:=1) (news:=[sS q]) (L:=[]) (Qm kx hz) Z Z Z (kz.at oe) oo oa (ou hz.size hh.size) λk0 m5 k4 gu k5=>Qb<|Qr<|QB Z Z<|Qa<|xe ?_;have m6:=hz.size;refine⟨(m+1,k0,lm++[q],Xz f8 t (f8 s.toNat+1)),by show ps.length - (m+1)<ps.length - m;omega,oy,hu,((hh.O hO oa).D hz).Z gu λb hb=>.inr (oq (kw b hb).1),Qh.snoc k4,λk6=>?_,(gt.I hz).J gu hp,⟨λG hi'=>?_,λG hi'=>?_,λG hi'=>?_⟩,hw.add gn gr,?_,O⟩
   ·rcases k5 _ k6 with h1|h1
    ·exact hp h1
    have:=ha.lt;omega
   ·simp only[];rw[Lk,Lc];by_cases e1:G=t
    ·subst e1;rw[Zv];exact⟨λh=>O2 h oa,λh=>O2 (Or.inr ht.symm) h⟩
    rw[ZQ _ _ e1,J.s G hi'];exact⟨λh h2=>h2.elim h λh3=>e1 oa,λh h2=>h (.inl h2)⟩
   ·simp only[];by_cases e1:G=t
    ·subst e1;rw[Zv];omega
    rw[ZQ _ _ e1];exact J.lo G hi'
   ·simp only[];rw[Le,Lz];by_cases e1:G=t
    ·subst e1;rw[Zv];omega
    rw[ZQ _ _ e1];have:=J.hi G hi';omega
   simp only[];rw[LT hr];exact hy
  have I:j<tg.length:=by have U:(j:Int)<(tg.length:Int):=hD;omega
  have Y:tg.take (j+1)=tg.take j++[tg[j]'I]:=Ln I;have k9:=hP _ (Lm I);refine Qf<|Qe<|Qn<|Qc<|xii (i:=j) ke Z Z I λm7 gv=>?_;refine Zh (tg[j]'I) λq hq=>?_;rw[hq]at gv Y k9;obtain⟨t,ht⟩:∃t:Nat,q=(t:Int):=⟨q.toNat,oa⟩;have ma:t<k:=oa
  have h6:(sS q)=sS (t:Int):=O1 _ ht;refine x (Qq gv Z)<|Qb<|Qr<|Qa<|Qa<|x (QD (i:=t) Z (show Go.Lg.ev _ _=_ from h6) ma)<|Qo<|Qv (j:=0+t*1) (u:=sS 0) hC Z Z (by simp;omega) Z λm8 mc gx=>xe ?_;rw[VO]at gx;refine Qr<|QB Z Z<|Qa<|xe<|⟨(j+1,Xz f6 t 0),by show tg.length - (j+1)<tg.length - j;omega,Lb,I,hB.Q mc,gx,?_⟩;simp only[];rw[Y];refine⟨λG hi'=>?_,λG hi'=>?_,λG hi'=>?_⟩
  ·rw[Lk,Lc];by_cases e1:G=t
   ·subst e1;rw[Zv];exact⟨λh=>O2 h oa,λh=>O2 (Or.inr ht.symm) h⟩
   rw[ZQ _ _ e1,hf.s G hi'];exact⟨λh h2=>h2.elim h λh3=>e1 oa,λh h2=>h (.inl h2)⟩
  ·by_cases e1:G=t
   ·subst e1;rw[Zv];omega
   rw[ZQ _ _ e1];exact hf.lo G hi'
  rw[Le,Lz];by_cases e1:G=t
  ·subst e1;rw[Zv];omega
  rw[ZQ _ _ e1];have:=hf.hi G hi';omega
 have I:k<n:=by have U:(k:Int)<(n:Int):=h9;omega
 refine Qf<|Qe<|Qn<|Ql<|Qb<|Qr<|Qa<|Qa<|x (QD (i:=k) Z Z I)<|Qo<|Qv (j:=0+k*1) (u:=sS (-1)) h0 Z Z (by simp;omega) Z λm9 mf gy=>xe ?_;rw[VO]at gy;refine Qr<|QB Z Z<|Qa<|xe<|⟨(k+1,Xz f4 k (-1)),by show n - (k+1)<n - k;omega,Lb,I,h8.Q mf,gy,λi hi=>?_⟩;simp only[];by_cases e1:i=k
 ·subst e1;rw[Zv]
 rw[ZQ _ _ e1];exact hv i (by have U:i<k+1:=hi;omega)
theorem Qin (f:Nat->Int)(k:Nat):(((oM (k+1)).filter λi=>decide (f i<0)).map λi:Nat=>(i:Int))=((oM k).filter λi=>decide (f i<0)).map (λi:Nat=>(i:Int))++if f k<0 then[(k:Int)]else[]:=by
 rw[Nl,LW,Lv];congr 1;by_cases e:f k<0 <;> simp[e]
theorem Qfr {b:Nat}{f:Nat->Int}(hB:QL ↑w b 3 (cstv n f))(hn:n<=4096):
  QT sV 54 [sL b n n] w λr w'=>sW w w'/\Qh 3 ↑w w' r (((oM n).filter λi=>decide (f i<0)).map λi:Nat=>(i:Int)):=by
 have hA:Zu [] ↑w (sL b n n) n 1 (cstv n f):=hB.arr oe (n:=n) (cap:=n) (sz:=1) oe oa (Lr _);refine Zo func54 ?_;refine Qc<|Qb<|Qc<|Qb<|Qe<|Ql<|QG hA Z<|Qa<|xe<|QZ (α:=Nat×O8) [(3,5),(8,19)] (λz=>[(3,z.2),(8,sS z.1)]) (λz w'=>z.1<=n/\sW w w'/\Qh 3 ↑w w' z.2 (((oM z.1).filter λi=>decide (f i<0)).map λi:Nat=>(i:Int))) (λz=>n - z.1) (0,ZX) oy ⟨Lp _,xh.C _ _,QM _ _ _ _⟩ ?_;rintro⟨k,vo⟩ g w1 ⟨hk,I,G⟩;simp only[]at hk G;refine Zj rfl Z (λU=>?_) (λU=>?_)
 ·refine Qt ?_;have ha:k=n:=by have he:¬(k:Int)<(n:Int):=U;omega
  rw[ha]at G;refine Ql<|Qb<|Qk ⟨[_],Lb,I,G⟩
 have J:k<n:=by have he:(k:Int)<(n:Int):=U;omega
 have O:=Qin f k;have hj:(((oM k).filter λi=>decide (f i<0)).map λi:Nat=>(i:Int)).length<=4096:=by
  rw[Lo];exact LA (LO _ _) (by rw[Mf];omega)
 refine Qf<|Qe<|Qn<|Ql<|x (QD (i:=k) Z Z J)<|ZC (hB.I I) Z (Ju J)<|x Qd<|Qb<|Ql<|x (YF (a:=f k) (b:=0) Z Z)<|xe<|Zp rfl (λV=>?_) (λV=>?_)
 ·rw[OZ V,LK]at O;refine Qf<|Qr<|QB Z Z<|Qa<|xe ?_;exact⟨(k+1,vo),by show n - (k+1)<n - k;omega,oy,J,I,by simp only[];rw[O];exact G⟩
 rw[O0 V]at O;refine Qr<|Qa<|Qa<|Qo<|Q5 [[sS k]] λhm w2 Y ho hf=>Qo<|Q2 (m:=1) (news:=[sS k]) (L:=[]) (Qm G Y) Z Z Z (hf.at oe) oo oa (ou I.size Y.size) λv3 w3 hg hh hp=>Qb<|Qr<|QB Z Z<|Qa<|xe ?_;exact⟨(k+1,v3),by show n - (k+1)<n - k;omega,oy,J,(I.D Y).Z hh λb hb=>.inr (Qi G b hb).1,by simp only[];rw[O];exact Qh.snoc hg⟩
def zv (n:Nat):LI:=(oM n).map λi:Nat=>(i:Int)
theorem Qq7 {st:Int}(hn:st=(n:Int))(hl:n<=4096):
  QT sV 128 [.agg #[va,sS st,vm,ve]] w λr w'=>sW w w'/\Qh 3 ↑w w' r (zv n):=by
 refine Zo func128 ?_;refine Qc<|Zd [va,sS st,vm,ve] λb1 w1 U hs hj=>Qb ?_;have V:(sS st)=sS (n:Int):=O1 _ hn;refine Qc<|Qs Z hj Z Z<|Qo<|Y5 (n:=n) V V oa λbO I hm hu ho=>Qb ?_;have Y:QL ↑I bO 3 (cstv n λ_=>0):=by
  have e:(oI n (sS 0).cells.toList).flatten=cstv n λ_=>0:=by
   apply L5
   ·simp[Value.cells]
   intro i h1 h2;simp[Value.cells]
  rw[<-e];exact ho
 have hv:=U.size;have hp:Zu [] ↑I (sL bO n n) n 1 (cstv n λ_=>0):=Y.arr oe (n:=n) (cap:=n) (sz:=1) oe oa (Lr _);refine Qe<|Ql<|QG hp Z<|Qa<|xe<|QZ (α:=Nat×(Nat->Int)) [(4,4),(10,17)] (λz=>[(10,sS z.1)]) (λz w'=>z.1<=n/\xh [bO] I w'/\QL ↑w' bO 3 (cstv n z.2)/\∀i,i<z.1->z.2 i=(i:Int)) (λz=>n - z.1) (0,λ_=>0) Lb ⟨Lp _,xh.C _ _,Y,λi hi=>O2 hi (NF _)⟩ ?_;rintro⟨k,f3⟩ g w3 ⟨hk,ha,G,J⟩;simp only[]at hk G J;refine Zj rfl Z (λO=>?_) (λO=>?_)
 ·refine Qt ?_;have hq:k=n:=by have he:¬(k:Int)<(n:Int):=O;omega
  subst hq;refine Ql<|Qb<|Qk ⟨[_],Lb,(U.D hm).O ha oa,?_⟩;have e:cstv k f3=(zv k).map (Value.int .i64):=by
   unfold cstv zv;rw[MF];exact List.map_congr_left λi hi=>O1 _ (J i (ME.1 hi))
  rw[e]at G;have hf:(zv k).length=k:=by simp[zv]
  have:=G.own (n:=k) (sz:=1) (by rw[Lo,hf,OW]) oa (base:=↑w) oa;show w3.ownsRow _ _ 1 _ (zv k).length _;rw[hf];exact this
 have hg:k<n:=by have he:(k:Int)<(n:Int):=O;omega
 refine Qf<|Qe<|Qn<|Ql<|Qb<|Qr<|Qa<|Qa<|Qa<|x (QD (i:=k) Z Z hg)<|Qo<|Qv (j:=0+k*1) (u:=sS (k:Int)) G Z Z (by simp;omega) Z λw4 hr hh=>xe ?_;rw[VO]at hh;refine Qr<|QB Z Z<|Qa<|xe<|⟨(k+1,Xz f3 k (k:Int)),by show n - (k+1)<n - k;omega,Lb,hg,ha.Q hr,hh,λi hi=>?_⟩;simp only[];by_cases e1:i=k
 ·subst e1;rw[Zv]
 rw[ZQ _ _ e1];exact J i (by have he:i<k+1:=hi;omega)
section
variable {P:LI->Prop}
structure SyB (P:LI->Prop)(s:Sy):Prop where
 nd:s.tup.Nodup
 p:∀t∈s.tup,P t
theorem QpG (hB:B<=4096)(U:∀l:List (LI),l.Nodup->(∀t∈l,P t)->l.length<=B){t:LI}{v:Int}{z:Sy}(G:SyB P z)(V:∀u,QS v aa t=some u->P u):
  ∃z',syE aa i t z v=some z'/\SyB P z':=by
 unfold syE;cases Y:QS v aa t with
 | none=>exact⟨z,Z,G⟩
 | some u =>
  simp only[];by_cases I:u∈z.tup
  ·rw[O0 I];exact⟨_,Z,G.nd,G.p⟩
  have J:(z.tup++[u]).Nodup:=Y6 G.nd I;have O:∀t∈z.tup++[u],P t:=λt ht=>by
   rcases Lk.1 ht with ht|ht
   ·exact G.p t ht
   rw[Lc.1 ht];exact V u Y
  have hc:=U _ J O;rw[Le,Lz]at hc;rw[OZ I,OZ oa];exact⟨_,Z,J,O⟩
theorem QfZ (I:B<=4096)(J:∀l:List (LI),l.Nodup->(∀t∈l,P t)->l.length<=B){i:Nat}{t:LI}:∀(vs:LI) (z:Sy),SyB P z->(∀v∈vs,∀u,QS v aa t=some u->P u)->∃z',Va aa i t vs z=some z'/\SyB P z'
 | [],z,G,_=>⟨z,Z,G⟩
 | v::vs,z,G,O=>by
  obtain⟨U,h1,h2⟩:=QpG (i:=i) I J G (O v Lh);obtain⟨V,Y,h4⟩:=QfZ I J vs U h2 (λw hw=>O w (Lj _ hw));exact⟨V,by rw[Va,h1];exact Y,h4⟩
theorem Qi2 (I:B<=4096)(J:∀l:List (LI),l.Nodup->(∀t∈l,P t)->l.length<=B)(O:∀t,P t->∀v∈evs aa,∀u,QS v aa t=some u->P u):∀(f i:Nat) (z:Sy),SyB P z->∃z',syL aa f i z=some z'
 | 0,_,z,_=>⟨z,Z⟩
 | f+1,i,z,G=>by
  rw[syL];split
  ·rename_i hi;have V:P (Jh z i):=G.p _ (by unfold Jh;simp[oQ,hi]);have U:(ZP aa i (Jh z i) z).tup=z.tup:=by unfold ZP;split <;> rfl
   obtain⟨Y,h1,h2⟩:=QfZ (i:=i) I J (evs aa) (ZP aa i (Jh z i) z) ⟨by rw[U];exact G.nd,by rw[U];exact G.p⟩ (O _ V);obtain⟨s2,h3⟩:=Qi2 I J O f (i+1) Y h2;exact⟨s2,by rw[h1];exact h3⟩
  exact⟨z,Z⟩
theorem QfT (G:B<=4096)(I:∀l:List (LI),l.Nodup->(∀t∈l,P t)->l.length<=B)(J:(∀a∈aa,a.st≠0)->P (oI aa.length 0))(O:∀t,P t->∀v∈evs aa,∀u,QS v aa t=some u->P u):
  ∃z,xx aa=some z:=by
 unfold xx;split
 ·exact⟨_,rfl⟩
 rename_i U;have h1:P (oI aa.length 0):=J (λa V e=>U ⟨a,V,e⟩);obtain⟨z,h2⟩:=Qi2 G I O 4096 0 (zk aa) ⟨by simp[zk],λt ht=>by simp[zk]at ht;subst ht;exact h1⟩;exact⟨_,by rw[h2];rfl⟩
end
def VS (k:Nat):LI->Int
 | []=>0
 | x::t=>x+(k:Int)*VS k t
theorem QgU {k:Nat}:∀{t:LI},(∀x∈t,0<=x/\x<(k:Int))->0<=VS k t/\VS k t<((k ^ t.length:Nat):Int)
 | [],_=>by simp[VS]
 | x::t,h=>by
  have hx:=h x Lh;obtain⟨h1,h2⟩:=QgU (t:=t) (λy G=>h y (Lj _ G));have O:(0:Int)<(k:Int):=oa
  rw[VS,LS,ON];have I:(k:Int)*VS k t<=(k:Int)*(((k ^ t.length:Nat):Int) - 1):=Int.mul_le_mul_of_nonneg_left oa oa;have U:0<=(k:Int)*VS k t:=Int.mul_nonneg oa h1;rw[Int.mul_sub,Int.mul_one]at I;have J:((k ^ t.length*k:Nat):Int)=(k:Int)*((k ^ t.length:Nat):Int):=by rw[Int.natCast_mul,Int.mul_comm]
  rw[J];exact⟨oa,oa⟩
theorem Qdx {k:Nat}:∀{t u:LI},t.length=u.length->(∀x∈t,0<=x/\x<(k:Int))->(∀x∈u,0<=x/\x<(k:Int))->VS k t=VS k u->t=u
 | [],[],_,_,_,_=>rfl
 | [],_::_,h,_,_,_=>by cases h
 | _::_,[],h,_,_,_=>by cases h
 | x::t,y::u,hl,ht,I,J=>by
  have hx:=ht x Lh;have O:=I y Lh;rw[VS,VS]at J;have U:(x+(k:Int)*VS k t) % (k:Int)=x:=by rw[Int.add_mul_emod_self_left];exact Int.emod_eq_of_lt hx.1 hx.2
  have m2:(y+(k:Int)*VS k u) % (k:Int)=y:=by rw[Int.add_mul_emod_self_left];exact Int.emod_eq_of_lt O.1 O.2
  rw[J]at U;have V:x=y:=oa
  subst V;have Y:(k:Int)*VS k t=(k:Int)*VS k u:=oa
  have hk:(k:Int)≠0:=oa
  rw[Qdx (ox hl) (λz G=>ht z (Lj _ G)) (λz G=>I z (Lj _ G)) (Int.eq_of_mul_eq_mul_left hk Y)]
theorem Qcx {k:Nat}(O:∀a∈aa,QO a)(hk:∀a∈aa,a.st<=(k:Int))(hB:k ^ aa.length<=4096):∃z,xx aa=some z:=by
 have I:∀t,Vt aa t->∀x∈t,0<=x/\x<(k:Int):=λt ht x hx=>by
  obtain⟨i,hi,e⟩:=LQ hx;have U:i<aa.length:=by rw[<-ht.1];exact hi
  have h1:=ht.2 i hi U;have h2:=hk _ (Lm U);rw[e]at h1;omega
 refine QfT (P:=Vt aa) hB (λl hn G=>?_) (λhz=>?_) (λt ht v _ u J=>Xv O ht J)
 ·have h1:(l.map (VS k)).Nodup:=by
   unfold List.Nodup;rw[Mi];refine List.Pairwise.imp_of_mem (λ{a b} V hb he e=>he ?_) hn;exact Qdx (by rw[(G a V).1,(G b hb).1]) (I a (G a V)) (I b (G b hb)) e
  have h2:=xN (k ^ aa.length) _ h1 (λu J=>by
   obtain⟨t,ht,rfl⟩:=Lu.1 J;have Y:=QgU (I t (G t ht));rw[(G t ht).1]at Y;exact Y)
  rw[Lo]at h2;exact h2
 refine⟨oe,λi h h'=>?_⟩;have h1:=hz _ (Lm h');have h2:=(O _ (Lm h')).st0;simp only[Oy];omega
def bpt (a:Qz)(tg:LI):LI×Bool:=if a.st=0 then([],false) else ptR a a.st.toNat 0 tg (zv a.st.toNat)
theorem QoT {m:Int}(G:(n:Int)<=m):Kd m none (zv n)=0:=by
 refine Qb7 (λx hx=>?_) ?_
 ·obtain⟨i,hi,rfl⟩:=Lu.1 hx;have:=ME.1 hi;omega
 unfold zv YD;rw[Mi];exact List.pairwise_lt_range.imp λh=>oa
theorem Ql7 {tg:LI}(h:Zt [] ↑w va vm ve a)(hok:QO a)(hT:Qu [] ↑w vt tg)(hh:Kd a.st none tg=0):
  QT sV 53 [.agg #[va,sS a.st,vm,ve],sS 0,vt] w λr w'=>sW w w'/\∃v,r=.tuple #[v,.bool (bpt a tg).2]/\Yt ↑w ↑w' v (bpt a tg).1:=by
 have hq:=hok.st0;have hr:=hok.st1;obtain⟨n,hn⟩:∃n:Nat,a.st=n:=⟨a.st.toNat,oa⟩;have hj:a.st.toNat=n:=oa
 have G:bpt a tg=if a.st=0 then([],false) else ptR a n 0 tg (zv n):=by unfold bpt;rw[hj]
 refine Zh (bpt a tg) λR hR=>?_;rw[hR]at G ⊢;refine Zo func53 ?_;refine Qc<|Zd [va,sS a.st,vm,ve] λb3 I he hs O=>x Qd<|Qb<|Qe<|Ql<|Qs Z O Z Z<|x (Yl (a:=0) (b:=a.st) Z Z)<|xe<|Zg rfl (λU=>?_) (λU=>?_)
 ·have V:a.st=0:=by have hk:(0:Int)≥a.st:=U;omega
  rw[O0 V]at G;rw[G];refine Qc<|x Qd<|Qb<|Qk ⟨[ZX,.bool false],oy,he,ZX,Z,Yt.nil _ _⟩
 have V:¬a.st=0:=by have hk:¬(0:Int)≥a.st:=U;omega
 rw[OZ V]at G;have hf:0<n:=oa
 refine Qf<|Qe<|ZJ [] (Xk 0 13 [4,5]) ?_;have hm:sW I { I with drawn:=I.drawn+1 }:=xh.Y _ _
 refine pq (λ_ hc=>Zi (O.I hc) Z Z)<|p Qy<|p Qy<|pq (λ_ hc=>Zi (O.I hc) Z Z)<|pk<|xg<|(Qq7 (w:={ I with drawn:=I.drawn+1 }) hn oa).S ?_
 rintro v2 w2 ⟨ho,hp⟩;have Y:=hm.D ho;have J:=he.D Y;have hu:(zv n).length<=4096:=by simp[zv];omega
 refine⟨Y,?_⟩;refine pk<|xg<|(QoX (n:=n) (from0:=0) (h.I J) ((ZA a).2 hok) hn hf (hT.I J) (Qh.ints hp oa oe) hh (QoT oa) (Lu.2 ⟨0,ME.2 hf,rfl⟩)).S ?_;rintro _ w3 ⟨hg,v,rfl,ha⟩;rw[<-G]at ha ⊢;refine⟨Y.D hg,?_⟩;refine p Qy<|p (λ_=>Q0 Z Z)<|p (λ_=>Q0 Z Z)<|p (λ_=>Q0 Z Z)<|p ZK<|p ZK<|p ZK<|pe ?_;refine Ql<|Qa<|x Qd<|Qb<|Qk ⟨[v,_],oy,J.D hg,v,Z,?_⟩;rw[G]at ha ⊢;exact λL hL=>Qh.ints ha (LA (Qnd a n tg _) oa) λb hb=>LX (hL b hb) J.size
def nbl (a:Qz):LI×Bool:=((bpt (Jc [a]) (blkd (Jc [a]) (Jc [a]).mr)).1,!(bpt (Jc [a]) (blkd (Jc [a]) (Jc [a]).mr)).2)
theorem QoN (a:Qz)(h:0<=a.st)(tg:LI):Kd a.st none (blkd a tg)=0:=by
 refine Qb7 (λx hx=>?_) ?_
 ·obtain⟨i,hi,rfl⟩:=Lu.1 hx;have:=ME.1 (LD.1 hi).1;omega
 unfold blkd YD;rw[Mi];exact(List.pairwise_lt_range.filter _).imp λh=>oa
theorem yt (hok:QO a):∃Q,xx [a]=some (Jc [a],Q)/\QO (Jc [a]):=by
 have I:=hok.st0;obtain⟨z,G⟩:=Qcx (aa:=[a]) (k:=a.st.toNat) (λb hb=>by rw[Lc.1 hb];exact hok) (λb hb=>by rw[Lc.1 hb];omega) (by have:=hok.st1;simp only[oL,Nat.pow_one];omega);have e:Jc [a]=z.1:=by unfold Jc;rw[G]
 rw[e];exact⟨z.2,G,(Yv (λb hb=>by rw[Lc.1 hb];exact hok) (A:=z.1) (Q:=z.2) G).1.okay (λb hb=>by rw[Lc.1 hb];exact hok)⟩
theorem jC {vl:O8}{q:AV}(h:Ja [] ↑w vl [q])(hok:QO q.a)(h9:q.a.st<=100):
  QT sV 16 [vl] w λr w'=>sW w w'/\∃v,r=.tuple #[v,.bool (nbl q.a).2,sS 0]/\Yt ↑w ↑w' v (nbl q.a).1:=by
 obtain⟨Q,hz,G⟩:=yt hok;have Y:=G.st0;have hk:=G.st1;have ho:(Jc [q.a]).mr.length<=4096:=by
  have:=xN (Jc [q.a]).st.toNat _ (G.mri.imp λhE e=>oa) λx hx=>oq (G.mr x hx)
  omega
 refine Zo func16 ?_;refine Qc<|x Qd<|x Qd<|Qb<|Ql<|Qx<|(jx h λp hp=>by rw[Lc.1 hp];exact h9).S ?_;rintro _ w1 ⟨hq,va,vt,c,rfl,hR⟩;have hc:c=0/\Xt ↑w ↑w1 va (Jc [q.a]):=by
  unfold YK at hR;have hck:K4 ([q].map (·.a))=0:=by
   show K4 [q.a]=0;unfold K4 ckL;rw[OZ oe,OZ (by rw[(ZA _).2 hok];simp)];rfl
  rw[OZ (by rw[hck];simp)]at hR;have hm:[q].map (·.a)=[q.a]:=rfl;rw[hm,hz]at hR;exact⟨hR.1,hR.2.1⟩
 obtain⟨rfl,hr,hs,hu,rfl,hw⟩:=hc;have I:=hw [] oe;refine Zh (Jc [q.a]) λS hS=>?_;have hy:nbl q.a=((bpt S (blkd S S.mr)).1,!(bpt S (blkd S S.mr)).2):=by unfold nbl;rw[hS]
 rw[hS]at I G Y hk ho;obtain⟨n,hn⟩:∃n:Nat,S.st=n:=⟨S.st.toNat,oa⟩;have h0:S.st.toNat=n:=oa
 have h3:∀x∈S.mr,0<=x/\x<(n:Int):=λx hx=>oq (G.mr x hx)
 rw[hy,hS];refine Qa<|QU Z Z<|QU Z Z<|QU Z Z<|QV J9 λb5 w2 h4 h5 h6=>Q6 [hr,sS S.st,hs,hu] h6 ⟨I.al.one,Z,I.mr.one,I.ed.one,La⟩ λJ h7 U=>x Qd<|Qb ?_;have V:sW w1 J:=h4.O h7 h5;have ha:=hq.D V;refine Qe<|Ql<|ZO Z Z<|xe<|ZB rfl<|Qf<|Qe<|ZJ [] (Xk 0 12 [4,5,6]) ?_;have he:sW J { J with drawn:=J.drawn+1 }:=xh.Y _ _
 have hf:=V.D he;refine pq (λ_ hc=>Zi (U.I hc) Z Z)<|pq (λ_ hc=>Zi (U.I hc) Z Z)<|p (QH Z)<|pq (λ_ hc=>Qj (U.I hc) Z Z)<|pk<|xg<|(Qht (w:={ J with drawn:=J.drawn+1 }) (I.I hf) G hn (I.mr.I hf) h3 oa).S ?_
 rintro _ w4 ⟨h8,b,f,rfl,hb,hA,hB⟩;have hg:=he.D h8;refine⟨hg,?_⟩;refine pk<|xg<|(Qfr hA oa).S ?_;rintro v5 w5 ⟨hC,hh⟩;have hD:(((oM n).filter λi=>decide (f i<0)).map λi:Nat=>(i:Int))=blkd S S.mr:=by
  unfold blkd;rw[h0];congr 1;exact NH λi hi=>bD (hB i (ME.1 hi))
 rw[hD]at hh;have O:=hg.D hC;refine⟨O,?_⟩;have hF:(blkd S S.mr).length<=4096:=by
  unfold blkd;rw[Lo];exact LA (LO _ _) (by rw[Mf];omega)
 refine pk<|xg<|(Ql7 (I.I (V.D O)) G (Qh.ints hh oa oe) (QoN S Y _)).S ?_;rintro _ w6 ⟨hj,v,rfl,hv⟩;refine⟨O.D hj,?_⟩;refine p Qy<|p (λ_=>Q0 Z Z)<|p (λ_=>Q0 Z Z)<|p ZK<|p ZK<|pe ?_;refine Ql<|Qa<|x (Zl Z)<|x Qd<|x Qd<|Qb<|Qk ⟨[v,_,sS 0],oz,(ha.D O).D hj,v,Z,hv.S (ha.D O).size⟩
end Go.Lg
namespace Go.Proofs
open Go.Proofs.Tryz
open Go.Shelf
def Tryz.sortEd_ren:Go.Shelf.Ren:=⟨λ|6=>244|15=>141|14=>278|28=>220|29=>221|20=>300|21=>301|22=>302|23=>303|24=>304|25=>305|26=>306|27=>307|46=>318|47=>258|48=>259|49=>319|50=>320|57=>325|n=>n,λ|22=>51|24=>179|25=>345|3=>3|39=>246|0=>0|53=>317|55=>319|4=>4|46=>311|45=>310|50=>205|5=>5|9=>9|66=>363|70=>367|76=>389|77=>379|n=>n,λ|n=>n⟩
theorem Tryz.sortEd:Go.Proofs.SlLaysF0.n6 sV Tryz.sortEd_ren:=lyS
end Go.Proofs
namespace Go.Lg
open Go.Lg Go.Sort
abbrev Ez:={ x:Ed // (0<=x.1/\x.1<1099511627776)/\0<=x.2.1/\x.2.1<1099511627776 }
instance:Inhabited Ez:=⟨⟨(0,0,0),oh⟩⟩
abbrev zu (x:Ez):LV:=[sS x.1.1,sS x.1.2.1,sS x.1.2.2]
abbrev EzO (base:Nat)(w:O7)(v:O8)(l:List Ez):Prop:=w.ownsRow base 179 3 v l.length (l.flatMap zu)
def ecf (x y:Ez):Int:=if x.1.1=y.1.1 then x.1.2.1 - y.1.2.1 else x.1.1 - y.1.1
theorem Qsp (x y:Ez)(W:O7):Calls sV 310 #[sT (zu x),sT (zu y)] W λe w'=>e=.returned (sS (ecf x y))/\∃q os',w'=grow (W.drewN q) os':=by
 have G:IntKind.i64.wrap (x.1.1 - y.1.1)=x.1.1 - y.1.1:=X3 ⟨ou x.2 y.2,ou x.2 y.2⟩;have I:IntKind.i64.wrap (x.1.2.1 - y.1.2.1)=x.1.2.1 - y.1.2.1:=X3 ⟨ou x.2 y.2,ou x.2 y.2⟩
 go_enter func310,ntmps310
 go_wp2
 ·go_ret;rename_i h;exact⟨by rw[ecf,OZ (ox h)];rfl,0,_,by rw[alloc_eq_grow,alloc_eq_grow,grow_grow];rfl⟩
 go_ret;rename_i h;exact⟨by rw[ecf,O0 (ox h)];rfl,0,_,by rw[alloc_eq_grow,alloc_eq_grow,grow_grow];rfl⟩
theorem Qsq (x y:Ez)(W:O7):Calls sV 245 #[sT (zu x),sT (zu y)] W λe w'=>e=.returned (sS (ecf x y))/\∃q os',w'=grow (W.drewN q) os':=by
 have G:IntKind.i64.wrap (x.1.1 - y.1.1)=x.1.1 - y.1.1:=X3 ⟨ou x.2 y.2,ou x.2 y.2⟩;have I:IntKind.i64.wrap (x.1.2.1 - y.1.2.1)=x.1.2.1 - y.1.2.1:=X3 ⟨ou x.2 y.2,ou x.2 y.2⟩
 go_enter func245,ntmps245
 go_wp2
 ·go_ret;rename_i h;exact⟨by rw[ecf,OZ (ox h)];rfl,0,_,by rw[alloc_eq_grow,alloc_eq_grow,grow_grow];rfl⟩
 go_ret;rename_i h;exact⟨by rw[ecf,O0 (ox h)];rfl,0,_,by rw[alloc_eq_grow,alloc_eq_grow,grow_grow];rfl⟩
theorem QbS (x:Ez):(zu x).length=3:=rfl
theorem Qfa:∀l:List Ez,(l.flatMap zu).length=l.length*3
 | []=>rfl
 | x::l=>by rw[LR,Le,Qfa l,QbS,LS];omega
theorem QgT {l:List Ez}(I:j<l.length*3):(l.flatMap zu)[j]?=some ((flatK zu 3 l.toArray)[j]!):=by
 have h1:j / 3<l.length:=Nat.div_lt_of_lt_mul oa;have h2:j % 3<3:=Nat.mod_lt _ oh;rw[get_flatK _ _ _ _ (ox I)];have J:(l.flatMap zu)[j]?=(zu (l[j / 3]'h1))[j % 3]?:=by
  rw[<-(Js zu 3 QbS l (j / 3) h1),L6,O0 h2,MR];congr 1;omega
 rw[J];have O:(l.toArray)[j / 3]! = l[j / 3]'h1:=by simp[h1]
 rw[O];have G:j % 3<(zu (l[j / 3]'h1)).length:=h2;exact(LE G).D (O1 some (getElem!_pos (zu (l[j / 3]'h1)) (j % 3) G).symm)
theorem Qls (x y:Ez):ltOf ecf x y=true↔x.1.1<y.1.1\/x.1.1=y.1.1/\x.1.2.1<y.1.2.1:=by
 unfold ltOf ecf;rw[decide_eq_true_iff];split <;> omega
theorem QbX (x y:Ez):ltOf ecf x y=false↔y.1.1<x.1.1\/y.1.1=x.1.1/\y.1.2.1<=x.1.2.1:=by
 rw[<-Bool.not_eq_true,Qls];omega
theorem QqI:SWO (ltOf ecf) where
 irrefl x:=by rw[QbX];omega
 trans x y z h1 h2:=by rw[Qls]at *;omega
 ntrans x y z h1 h2:=by rw[QbX]at *;omega
theorem Qnk [Inhabited α]{lt:α->α->Bool}{d G:Array α}(J:PermIn 0 d.size d G)(O:SortedIn lt 0 d.size G):G.toList.Perm d.toList/\G.toList.Pairwise (λx y=>lt y x=false):=by
 obtain⟨U,_,I⟩:=J;have e1:G.extract 0 d.size=G:=by rw[<-U];exact Array.extract_size
 rw[e1,Array.extract_size]at I;refine⟨I,?_⟩;rw[Mm];intro i j hi V Y;have hi':i<G.size:=by simpa using hi
 have ha:j<G.size:=by simpa using V
 have:=O i j (Lp _) Y oa;rw[getElem!_pos G j ha,getElem!_pos G i hi']at this;simpa using this
theorem QeB (eg:∀args w,(callFunc g args).run sV w=.ok (.enter g args) w)(hf:∀(x y:Ez) (W:O7),Calls sV g #[sT (zu x),sT (zu y)] W λe w'=>e=.returned (sS (ecf x y))/\∃q os',w'=grow (W.drewN q) os')
    {v:O8} {l:List Ez} (h:EzO base w v l) (hl:l.length<=1099511627776):
  QT sV 244 [v,.func (.func g) #[] #[]] w λ_ w'=>xh (ob v) w w'/\∃l':List Ez,l'.Perm l/\l'.Pairwise (λx y=>ltOf ecf y x=false)/\EzO base w' v l':=by
 unfold QT;rcases h.2 with⟨rfl,h0⟩|⟨gb,cap,cur,rfl,hh,J,hm,ho,hq,hr⟩
 ·have hs:l=[]:=Lt h0;subst hs;have hc:=AnyF.slices_SortFunc_none Tryz.sortEd none 0 (.func (.func g) #[] #[]) w;change Calls sV 244 _ _ _ at hc;refine Calls.mono hc λe w' O=>?_;obtain⟨rfl,rfl⟩:=O;exact⟨xh.C _ _,[],List.Perm.refl _,List.Pairwise.nil,h⟩
 have Y:gb<w.heap.size:=(LM.1 J).1;have hH:HoldsK zu 3 w gb 0 l.toArray:=by
  intro j G;rw[size_flatK,L3]at G;have h1:=QgT G;rw[<-hr,L6,O0 G]at h1;constructor
  ·show(match w.heap[gb]? with|some (.cells c _ _)=>if(none:Option _).isSome then none else c[0+j]?|_=>none)=_
   rw[J];simp only[Ob,Option.isSome_none,Ov,if_false];rw[<-MV,h1];rfl
  show(match w.heap[gb]? with|some (.cells _ _ (lo,hi))=>decide (lo<=0+j) && decide (0+j<hi)|_=>false)=false
  rw[J];simp
 have hc:=AnyQ.slices_SortFunc Tryz.sortEd 3 isAgg179 sizeOf179 zu QbS (λx v hv=>by simp at hv;rcases hv with rfl|rfl|rfl <;> rfl) ecf QqI g #[] gb 0 cap l.toArray w eg (λm os dk _ x y=>hf x y _) hH Y (by simp;omega)
 change Calls sV 244 _ _ _ at hc;rw[L3]at hc;refine Calls.mono hc λe w' O=>?_;obtain⟨rfl,I,n,os,hp,hu,rfl⟩:=O;have U:I.size=l.length:=by have:=hp.1;simpa using this
 have ha:=Qnk (d:=l.toArray) (by rw[L3];exact hp) (by rw[L3];exact hu);have V:(sortWorldK zu 3 w gb 0 n I os).heap=w.heap.modify gb (onCells (putCells id 0 (flatK zu 3 I)))++os:=rfl;refine⟨⟨rfl,Z,Z,?_,λk hk hn=>?_⟩,I.toList,ha.1,ha.2,?_⟩
 ·rw[V,NG,MN];omega
 ·rw[V,MJ,MN,O0 hk,M4,OZ (λe=>hn (by simp[ob,e]))]
 refine⟨Qfa _,.inr ⟨gb,cap,putCells id 0 (flatK zu 3 I) cur,by simp[U],hh,?_,by simp[U];exact hm,ho,by simp[putCells,hq],?_⟩⟩
 ·rw[V,MJ,MN,O0 Y,M4,O0 rfl,J];rfl
 apply Nv;intro j;rw[L6];by_cases G:j<I.toList.length*3
 ·rw[O0 G,QgT G,MV];have hw:j<cur.size:=by simp[U]at G;omega
  have hy:j<(flatK zu 3 I).size:=by simpa using G
  simp only[putCells,Array.getElem?_mapIdx,Array.getElem?_eq_getElem hw,OK,Nat.zero_le,Ob,true_and,O0 hy,OT,id]
 rw[OZ G,Mj];rw[Qfa];omega
theorem Qlf:∀l:List Ez,(l.map (·.1)).flatMap Qp=l.flatMap zu
 | []=>rfl
 | x::l=>by rw[L2,LR,LR,Qlf l];rfl
theorem QgS:∀l:List Ed,(∀e∈l,(0<=e.1/\e.1<1099511627776)/\0<=e.2.1/\e.2.1<1099511627776)->∃zs:List Ez,zs.map (·.1)=l
 | [],_=>⟨[],Z⟩
 | e::l,h=>by
  obtain⟨zs,h1⟩:=QgS l (λd hd=>h d (Lj _ hd));exact⟨⟨e,h e Lh⟩::zs,by rw[L2,h1]⟩
abbrev QdA (x y:Ed):Prop:=x.1<y.1\/x.1=y.1/\x.2.1<=y.2.1
theorem Qad (eg:∀args w,(callFunc g args).run sV w=.ok (.enter g args) w)(G:∀(x y:Ez) (W:O7),Calls sV g #[sT (zu x),sT (zu y)] W λe w'=>e=.returned (sS (ecf x y))/\∃q os',w'=grow (W.drewN q) os')
    {v:O8} {l:List Ed} (h:w.ownsRow base 179 3 v l.length (l.flatMap Qp)) (hl:l.length<=1099511627776) (hb:∀e∈l,(0<=e.1/\e.1<1099511627776)/\0<=e.2.1/\e.2.1<1099511627776):
  QT sV 244 [v,.func (.func g) #[] #[]] w λ_ w'=>xh (ob v) w w'/\∃l':List Ed,l'.Perm l/\l'.Pairwise QdA/\w'.ownsRow base 179 3 v l'.length (l'.flatMap Qp):=by
 obtain⟨zs,rfl⟩:=QgS l hb;rw[Lo]at hl;rw[Lo,Qlf]at h;refine(QeB eg G h hl).S λ_ _ ⟨h1,l',h2,I,J⟩=>⟨h1,l'.map (·.1),h2.map _,?_,by rw[Lo,Qlf];exact J⟩;rw[Mi];refine I.imp λ{x y} O=>?_;have:=(QbX y x).1 O;exact this
theorem Qba {v:O8}{l:List Ed}(h:w.ownsRow base 179 3 v l.length (l.flatMap Qp))(hl:l.length<=1099511627776)(hb:∀e∈l,(0<=e.1/\e.1<1099511627776)/\0<=e.2.1/\e.2.1<1099511627776):
  QT sV 283 [v] w λ_ w'=>xh (ob v) w w'/\∃l':List Ed,l'.Perm l/\l'.Pairwise QdA/\w'.ownsRow base 179 3 v l'.length (l'.flatMap Qp):=by
 refine Zo func283 ?_;refine Qr<|Qa<|Qx<|(Qad (enters_of func310 od Z) Qsp h hl hb).S ?_;rintro G I h1;refine xe ?_;exact⟨[],La,h1⟩
theorem Qhw {v:O8}{l:List Ed}(h:w.ownsRow base 179 3 v l.length (l.flatMap Qp))(hl:l.length<=1099511627776)(hb:∀e∈l,(0<=e.1/\e.1<1099511627776)/\0<=e.2.1/\e.2.1<1099511627776):
  QT sV 244 [v,.func (.func 245) #[] #[]] w λ_ w'=>xh (ob v) w w'/\∃l':List Ed,l'.Perm l/\l'.Pairwise QdA/\w'.ownsRow base 179 3 v l'.length (l'.flatMap Qp):=
 Qad (enters_of func245 od Z) Qsq h hl hb
def cmF (c:ZS)(l:List (LI)):LI:=l.zipIdx.filterMap λp=>if(Us c.ex c.cs p.1).2.2=true then some (p.2:Int) else none
theorem QlO {c:ZS}{l:List (LI)}{k:Nat}(h:k<l.length):cmF c (l.take (k+1))=cmF c (l.take k)++(if(Us c.ex c.cs (l[k]'h)).2.2=true then[(k:Int)]else[]):=by
 unfold cmF;rw[Ln h,List.zipIdx_append,List.filterMap_append];have e:0+(l.take k).length=k:=by rw[LG];omega
 rw[e];simp only[List.zipIdx_cons,List.zipIdx_nil,List.filterMap_cons,List.filterMap_nil];by_cases G:(Us c.ex c.cs (l[k]'h)).2.2=true
 ·rw[O0 G,O0 G]
 rw[OZ G,OZ G]
theorem QoG (c:ZS)(l:List (LI)):(cmF c l).length<=l.length:=by
 unfold cmF;refine LA (List.length_filterMap_le _ _) ?_;rw[List.length_zipIdx];exact Lr _
def Qg3 (c:ZS):Bool:=match xx (xo c.co),xx (xo c.co++xo c.rq) with
 | some (pa,ps),some (_,ts)=>ts.all λt=>decide ((wrf c.rq (t.drop c.co.length) (enb pa (plx ps (t.take c.co.length)))).length<=1)
 | _,_=>false
def cmB (c:ZS):LI:=match xx (xo c.co++xo c.rq) with
 | some (sa,ts)=>cmF c (ts.map (·.take c.co.length))++[sa.st]
 | none=>[]
structure CmI (b2 base:Nat)(W:O7)(xa:O8)(st:Int)(xm vb ve:O8)(bad:LI)(es:List Ed):Prop where
 B:QL ↑W b2 53 [xa,sS st,xm,ve]
 b:Qh 3 base W vb bad
 e:W.ownsRow base 179 3 ve es.length (es.flatMap Qp)
 dj:Dj vb ve
 bd:∀e∈es,(0<=e.1/\e.1<1099511627776)/\0<=e.2.1/\e.2.1<1099511627776
theorem CmI.I {I base:Nat}{W W':O7}{xa:O8}{st:Int}{xm vb ve:O8}{bad:LI}{es:List Ed}(h:CmI I base W xa st xm vb ve bad es)(G:sW W W'):CmI I base W' xa st xm vb ve bad es :=
 ⟨h.B.I G,Qm h.b G,Qm h.e G,h.dj,h.bd⟩
theorem CmI.addB {W:O7}{xa:O8}{st:Int}{xm I:O8}{bad bad':LI}(h:CmI G base W xa st xm vb ve bad es)(hb:G<base)(J:xh (ob vb) W W')(U:Qh 3 base W' I bad')(V:∀b∈ob I,b∈ob vb\/↑W<=b):CmI G base W' xa st xm I ve bad' es :=
 ⟨h.B.J J (QJ h.b hb),U,Qg h.e J (λb hb Y=>h.dj b Y hb),λb ha O=>(V b ha).elim (λh1=>h.dj b h1 O) (λh1=>oq (QW h.e b O)),h.bd⟩
theorem CmI.addE {W W1:O7}{xa:O8}{st:Int}{xm J:O8}{bad:LI}{e:Ed}(h:CmI G base W xa st xm vb ve bad es)(hb:G<base)(hs:xh (ob ve) W W1)(U:W1.ownsRow base 179 3 J (es.length+1) (es.flatMap Qp++Qp e))(hn:∀b∈ob J,b∈ob ve\/↑W<=b)
  (V:xh [G] W1 W') (hB:QL ↑W' G 53 [xa,sS st,xm,J]) (he:(0<=e.1/\e.1<1099511627776)/\0<=e.2.1/\e.2.1<1099511627776):CmI G base W' xa st xm vb J bad (es++[e]):=by
 refine⟨hB,Qg (Qg h.b hs (λb hb I=>h.dj b hb I)) V (λb O I=>by have:=(Qi h.b b O).1;rw[Lc.1 I]at this;omega),?_,λb Y ha=>(hn b ha).elim (λh1=>h.dj b Y h1) (λh1=>oq (QW h.b b Y)),λd hd=>?_⟩
 ·have h9:=Qg U V (λb O I=>by have:=((Qi U) b O).1;rw[Lc.1 I]at this;omega);rw[Le,LJ];simpa using h9
 rcases Lk.1 hd with hd|hd
 ·exact h.bd d hd
 rw[Lc.1 hd];exact he
theorem CmI.stb {I:Nat}{xa:O8}{st:Int}{xm:O8}{bad:LI}:Ye B (λW=>CmI I base W xa st xm vb ve bad es):=
 λW W' X h G hX=>⟨Ye.blk W W' X h.B G hX,Ye.row W W' X h.b G hX,Ye.row W W' X h.e G hX,h.dj,h.bd⟩
theorem Qef (h0:Yc [] ↑w c)(kq:Kb w 4096)(kr:YX c.V=0)(hf:(spc c.V).a.st<4096)(h1:Qg3 c.V=true):
  QT sV 183 [c.val] w λr w'=>sW w w'/\∃xa xm xe vb,r=.tuple #[.agg #[xa,sS ((spc c.V).a.st+1),xm,xe],vb,sS 0]/\ZN [xa,xm,xe]/\Qh 3 ↑w w' vb (cmB c.V):=by
 refine QT.of_G 20 func183 Z ntmps183 results183 oe ?_;refine QQ<|Qw ol ol<|Zd c.cells λb1 w1 pg hb1 kt=>QV zr λG w2 ku hb2 kv=>x Qd<|Qb ?_;have hO:=pg.D ku;have hl1:=kt.lt;have ph:=kv.lt;have pn:=kt.I ku;have kw:Yc [G] ↑w2 c:=(h0.up (L':=[G]) (λb hb=>.inr (by rw[Lc.1 hb];omega))).I hO;refine QQ<|Qw ol ol<|Q7 pn Z Z<|Qx<|(QdX (h0.I hO) (kq.I hO)).S ?_;rintro r3 w3 ⟨gn,vp,rfl,_,po⟩;obtain⟨b,q,rfl,rfl,U,_,pp⟩:=po kr;rw[kr];have hz:=hO.D gn;have kx:JQ [G] b ↑w3 q:=(pp [G] (λx hx=>by rw[Lc.1 hx];exact ph)).2 kw;have hsp:=Qa9 U.p U.s;have hst':q.s.a.st<4096:=by rw[hsp]at hf;exact hf
 have pt:cmB q.c.V=cmF q.c.V ((q.ts.map (·.2)).map (·.take q.c.V.co.length))++[q.s.a.st]:=by unfold cmB;rw[U.s]
 have pu:∀t∈q.ts.map (·.2),(wrf q.c.V.rq (t.drop q.c.V.co.length) (enb q.p.a (plx (q.qs.map (·.2)) (t.take q.c.V.co.length)))).length<=1:=λt ht=>by
  unfold Qg3 at h1;rw[U.p,U.s]at h1;exact O4 (Mn.1 h1 t ht)
 have pw:(spc q.c.V).a.st=q.s.a.st:=by rw[hsp]
 rw[pw,pt];refine Qa<|QU Z Z<|QU Z Z<|x Qd<|Qb<|QQ<|QQ<|Qw ol ol<|Qa<|ZO Z Z<|xe<|J7 rfl<|Yb ?_;refine QQ<|Qw ol ol<|Qa<|Z7 Z<|Q9 Z<|Qs Z kx.B Z Z<|QV [sS 0] λb6 w4 pz p0 p4=>Qo<|Qv (j:=0) (u:=sS q.s.a.st) p4 Z Z oe rfl λI p5 kz=>xe ?_;have hP:sW w3 I:=pz.O p5 p0;have hq:=kx.I hP;have hz3:=gn.size;have k0:=kz.lt;have p6:QL ↑I G 53 zr:=(kv.I gn).I hP;have hR:QL ↑I b6 3 [sS q.s.a.st]:=kz;have hst0:0<=q.s.a.st:=by
  have:=(Yv (λa ha=>by
   rcases Lk.1 ha with ha|ha
   ·exact Y1 (YV U.ok).co a ha
   exact Y1 (YV U.ok).rq a ha) U.s).1.st
  omega
 refine QQ<|QQ<|Qw ol ol<|ZC hR Z Z<|x (Yl Z Z)<|xe<|Qo0 Z (λk4=>O2 (show q.s.a.st≥4096 from k4) oa) (λk4=>?_);refine Yb ?_;have gq:sW I { I with drawn:=I.drawn+1 }:=xh.Y _ _
 refine QQ<|Un (sW I) [oB 0,oB 1,oB 2,oB 3,oB 4,oB 6,oB 7,oB 8,oB 9,oB 10,oB 11,oB 12,oB 14,oB 15,oB 16,oB 17,oB 18,oC 5,oC 13,oC 19,oB 20,oC 21] mixed ol ol od gq ?_;refine p Qy<|p (YR Z)<|p (QH Z)<|p (QH Z)<|pq (λ_ hc=>Qj (hq.B.I hc) Z Z)<|pq (λ_ hc=>Qj (hR.I hc) Z Z)<|p (λ_=>Xx Z Z ⟨oa,oa⟩)<|p Qy<|p (YR Z)<|p (QH Z)<|p (QH Z) <|
  pq (λ_ hc=>Qj (hq.B.I hc) Z Z)<|p Qy<|p (YR Z)<|p (QH Z)<|p (QH Z)<|pq (λ_ hc=>Qj (hq.B.I hc) Z Z)<|pk<|xg<|(Z0 (hq.s.al.I gq)).S ?_
 rintro xa w6 ⟨p7,gr⟩;have gs:=gq.D p7;refine⟨gs,?_⟩;refine pk<|xg<|(Z0 (hq.s.mr.I gs)).S ?_;rintro xm w7 ⟨p8,gt⟩;have hS:=gs.D p8;refine⟨hS,?_⟩;refine pk<|xg<|(jh (hq.s.ed.I hS)).S ?_;rintro hT w8 ⟨p9,hU⟩;have gu:=hS.D p9;refine⟨gu,?_⟩;refine p (λ_=>QC ⟨xS gr,Z,xS gt,xS hU,La⟩)<|pkk<|qB [xa,sS (q.s.a.st+1),xm,hT] (p6.I gu) ⟨QA gr,Z,QA gt,QA hU,La⟩ λw9 k5 qf=>pe ?_;have k6:xh [G] I w9:=gu.any.Q k5;have hz7:=hS.size;have hA:G<I.heap.size:=oa
 have k9:=hq.st k6;have hX:ZN [xa,xm]:=⟨QA gr,QA gt,La⟩;have qj:w9.ownsRow ↑I 179 3 hT q.s.a.ed.length (q.s.a.ed.flatMap Qp):=Qg (Za hU oa) k5 (λb hb J=>by have:=(Qi hU b hb).1;rw[Lc.1 J]at this;omega);have hok:=YV U.ok;have hB:∀a∈xo q.c.V.co++xo q.c.V.rq,QO a:=λa ha=>by
  rcases Lk.1 ha with ha|ha
  ·exact Y1 hok.co a ha
  exact Y1 hok.rq a ha
 have gv:=(Yv hB U.s).1.okay hB;have ql:∀e∈q.s.a.ed,(0<=e.1/\e.1<1099511627776)/\0<=e.2.1/\e.2.1<1099511627776:=λe he=>by
  have h1:=gv.ed e he;have h2:=gv.al _ h1.2.2.1;omega
 have q4:CmI G ↑I w9 xa (q.s.a.st+1) xm Zq hT [] q.s.a.ed:=⟨qf,QM _ _ _ _,qj,λb hb=>(by cases hb),ql⟩;have ma:=zE hB U.s;have mc:=ma.1;have q5:=ma.2;simp only[]at mc q5;have hckc:=hok.c8;have hY:q.c.V.co.length=q.c.co.length:=Lo ..;have j1:q.c.V.rq.length=q.c.rq.length:=Lo ..;have hcr:=hok.cr;have j2:(xo q.c.V.co++xo q.c.V.rq).length=q.c.co.length+q.c.rq.length:=by rw[Le];unfold xo;rw[Lo,Lo,hY,j1]
 refine QQ<|QQ<|Qw ol ol<|Qa<|Z7 Z<|Qs Z k9.B Z Z<|QG k9.ts.arr Z<|Qa<|xe<|Zh ((q.ts.map (·.2)).map (·.take q.c.V.co.length)) λtcs gx=>?_;rw[gx];have htcl:tcs.length=q.ts.length:=by rw[<-gx,Lo,Lo]
 have hTn:q.ts.length<=4096:=by have h2:=(Yv hB U.s).1.st;have h3:(q.ts.map (·.2)).length=q.ts.length:=Lo ..;omega
 refine ZL<|KU (α:=Nat×O8×O8×List Ed) [(3,3),(7,16),(60,109)] (λz=>[(3,z.2.1),(60,sS z.1)])
  (λz ds W'=>z.1<=q.ts.length/\xh [G] I W'/\KX ↑I ↑W' ds W'/\CmI G ↑I W' xa (q.s.a.st+1) xm z.2.1 z.2.2.1 (cmF q.c.V (tcs.take z.1)) z.2.2.2/\z.2.2.2.length<=131072+z.1)
  (λz=>q.ts.length - z.1) ol (0,Zq,hT,q.s.a.ed) oy ⟨Lp _,k6,⟨MB,λD hD=>by cases hD⟩,q4,gv.ed_le⟩ ?_
 rintro⟨k,vb,ve,es⟩ g ds h4 ⟨hk,hC,mf,O,j3⟩;simp only[]at hk O j3;have hz10:=hC.size;have hZ:=QoG q.c.V (tcs.take k);rw[LG]at hZ;refine QQ<|Qw ol ol<|ZY Z Z<|xe<|QQ<|qc Z (λmg=>?_) (λmg=>?_)
 ·refine JN ?_;rw[Ls oa]at O hZ;refine Zh (cmF q.c.V tcs) λbad ga=>?_;rw[ga]at O hZ;have gy:G∉ob ve:=QJ O.e hA;have j4:G∉ob vb:=QJ O.b hA;have gb:b6∉[G]:=om
  have za:b6∉ob ve:=QJ O.e k0;have z0:b6∉ob vb:=QJ O.b k0;refine QQ<|Qw ol ol<|Qs Z O.B Z Z<|Qx<|(Qhw O.e oa O.bd).S ?_;rintro r11 h5 ⟨hr,hj,hp,_,ho11⟩;refine xe ?_;have gc:=O.B.J hr gy;have gz:=(hR.J hC gb).J hr za;have g0:=Qg O.b hr (λb hb J=>O.dj b hb J);have hz11:=hr.size;have hv:=Qi O.e;have hE:=Qi g0;have z1:KX ↑I ↑h4 ds h5:=mf.J hr (Go.Lg.Q3 O.e);refine QQ<|Un (λw'=>xh (G::ob vb) h5 w'/\QL ↑w' G 53 [xa,sS (q.s.a.st+1),xm,ve]/\QL ↑w' b6 3 [sS q.s.a.st]) [oB 0,oB 1,oB 2,oC 3,oC 4,oC 5,oB 6,oB 7] mixed ol ol od ⟨xh.Y _ _,gc.I (xh.Y _ _),gz.I (xh.Y _ _)⟩ ?_;refine pq (λ_ hc=>Zi hc.2.1 Z Z)<|p Qy<|pq (λ_ hc=>Qj hc.2.2 Z Z)<|pk<|Q5 [[sS q.s.a.st]] λb116 g4 g5 hb116 z2=>?_;have h6:=(xh.Y [] h5).D g5;have hz12:=h6.size;refine⟨⟨h6.any,gc.I h6,gz.I h6⟩,?_⟩;refine pk<|Q2 (m:=1) (news:=[sS q.s.a.st]) (L:=[]) (Qm g0 h6) Z Z Z (z2.at oe) oo oa oa λmh hG mj ge hn13=>?_;have gg:xh (ob vb) h5 hG:=h6.any.Q ge;have mo:=gc.J gg j4;have mq:=gz.J gg z0;refine⟨⟨gg.S (λb hb=>Lj _ hb),mo,mq⟩,?_⟩;refine pk<|qB [xa,sS (q.s.a.st+1),xm,ve] mo ⟨hX.1,Z,hX.2.1,QA O.e,La⟩ λhg Y ms=>?_;have g6:xh (G::ob vb) h5 hg:=(gg.S (λb hb=>Lj _ hb)).Q (Y.S oe);refine⟨⟨g6,ms,mq.J Y gb⟩,?_⟩;refine p ZK<|p ZK<|pe ?_;have hw:KX ↑I ↑h4 ds hg:=z1.J g6 (λb hb=>by
   rcases Ll.1 hb with rfl|hb
   ·exact gc.cells
   exact Go.Lg.Q3 g0 b hb)
  have z3:G∉ds:=λJ=>oq (hw.2 G J).1
  have hH:sW w hg:=(((hz.D hP).O hC oa).Z hr (λb hb=>.inr (ou (hv b hb).1 hz.size))).Z g6 (λb hb=>.inr (by
   rcases Ll.1 hb with rfl|hb
   ·omega
   have:=(hE b hb).1;have:=hz.size;omega))
  refine J6 ⟨λD hD=>(hw.2 D hD).2.2,hw.1,[.agg #[xa,sS (q.s.a.st+1),xm,ve],mh,sS 0],λW' g7=>?_⟩;refine⟨⟨Kc (ms.J g7 z3),Z,Z,La⟩,hH.Z g7 (λD hD=>.inr (ou (hw.2 D hD).1 hz.size)),xa,xm,ve,mh,Z,⟨hX.1,hX.2.1,QA O.e,La⟩,?_⟩;have h9:=Qh.snoc (Qg mj Y (λb hb J=>by have:=(Qi mj b hb).1;rw[Lc.1 J]at this;omega));have mt:=Qg h9 g7 (λb hb J=>by
   obtain⟨o,g1,g2⟩:=Go.Lg.Q3 h9 b hb;rw[(hw.2 b J).2.2]at g1;cases g1
   cases g2)
  rw[<-ga]at mt;exact Za mt (oq hz.size)
 have hI:k<q.ts.length:=by have h62:(k:Int)<(q.ts.length:Int):=mg;omega
 have mu:k<tcs.length:=oa
 have hh:=QlO (c:=q.c.V) mu;have z4:tcs[k]'mu=(q.ts[k]'hI).2.take q.c.V.co.length:=by subst gx;simp
 have gh:=Lm hI;have hJ:=mc _ (LL (f:=(·.2)) gh);have hy:=pu _ (LL (f:=(·.2)) gh);rw[z4]at hh;refine Zh (cmF q.c.V (tcs.take k)) λbad ga=>?_;rw[ga]at O hZ hh;refine Zh (ob vb++ob ve) λav g8=>?_;have hE:=Qi O.b;have hv:=Qi O.e;have z5:∀x∈av,↑I<=x/\x<h4.heap.size:=λx hx=>by
  rw[<-g8]at hx;exact(Lk.1 hx).elim (hE x) (hv x)
 have hAv:JQ (G::av) b ↑I q:=hq.up (λx hx=>by
  rcases Ll.1 hx with rfl|hx
  ·exact .inl Lh
  exact .inr (z5 x hx).1)
 have gi:JQ (G::av) b ↑h4 q:=hAv.st (hC.S oe);refine Zh (cmF q.c.V (tcs.take (k+1))) λg9 mv=>?_;rw[mv]at hh;refine Yb<|Qho (α:=O8×O8×List Ed) [(3,3),(7,16),(61,109)] (λz=>[(3,z.1),(60,sS k)]) (λz h7 W'=>xh [G] I W'/\KX ↑I ↑W' h7 W'/\CmI G ↑I W' xa (q.s.a.st+1) xm z.1 z.2.1 g9 z.2.2/\z.2.2.length<=131072+(k+1)) ol ?_ ?_
 rotate_left
 ·rintro⟨gj,hs,hj⟩ g h7 W ⟨hsW,hDW,hIW,hlW⟩;refine Qw ol ol<|QB Z Z<|Qa<|xe ?_;exact⟨(k+1,gj,hs,hj),og,oy,hI,hsW,hDW,by simp only[];rw[mv];exact hIW,hlW⟩
 refine ZL<|QQ<|Qw ol ol<|Qa<|xp (g:=YO) KL gi.ts.arr Z Z hI λa63 mw=>?_;refine Zh (q.ts[k]'hI) λt ht=>?_;rw[ht]at mw gh hJ hy hh;have htl:t.2.length=q.c.co.length+q.c.rq.length:=by rw[hJ.1,j2]
 refine x (Qq mw Z)<|QV [sS 0] λb7 h5 hr hb7 hB7=>Qo<|Qv (j:=0) (u:=sS k) hB7 Z Z oe rfl λg4 g5 hB712=>Qb ?_;have ka:sW h4 g4:=hr.O g5 hb7;have hB712':QL ↑g4 b7 3 [sS k]:=hB712;refine QQ<|Qw ol ol<|Qa<|Qa<|Qx<|(QcI (gi.I ka) ((gi.ts.each t gh).I ka) oa).S ?_;rintro r13 hG ⟨ge,v9,my,rfl,kb,mz⟩;refine Qa<|QU Z Z<|QU Z Z<|x Qd<|Qb ?_;have hK:=ka.D ge;have m0:=gi.I hK;rw[hY]at hy hh;refine Zh (t.2.take q.c.co.length) λtc gk=>?_;refine Zh (t.2.drop q.c.co.length) λtr m1=>?_;rw[gk]at kb hy hh;rw[m1]at mz hy;have htcl2:tc.length=q.c.co.length:=by rw[<-gk,LG];omega
 have m2:∀x∈tc,0<=x/\x<4096:=λx hx=>(hJ.bd (m:=4096) (λa ha=>(hB a ha).st1)) x (Ma (by rw[gk];exact hx));have hVc:Vt (xo q.c.V.co) tc:=by
  have h1:=hJ.take;rw[show(xo q.c.V.co).length=q.c.co.length by unfold xo;rw[Lo];exact hY,gk]at h1;exact h1
 have hVr:Vt (xo q.c.V.rq) tr:=by
  have h1:=hJ.drop;rw[show(xo q.c.V.co).length=q.c.co.length by unfold xo;rw[Lo];exact hY,m1]at h1;exact h1
 have gl:JQ [] b ↑hG q:=m0.up oe;have hvo:=zh gl.k1 gl.k2 gl.k3 (kb.up (L':=[]) oe) (by rw[U.ex,U.cs];exact hok.cd) hVc.tpOk;rw[U.ex,U.cs]at hvo;refine Zh (Us q.c.V.ex q.c.V.cs tc) λV hV=>?_;rw[hV]at hvo hh;have kc:=O.I hK;have hz13:=hK.size;have m3:=hB712'.I ge;refine Qho (α:=O8) [(3,3),(11,14),(71,86)] (λz=>[(3,z)]) (λz h7 W=>h7=ds/\xh (ob vb) hG W/\Qh 3 ↑I W z g9/\∀x∈ob z,x∈ob vb\/↑hG<=x) ol ?_ ?_
 ·refine QQ<|Qw ol ol<|Qa<|Z7 Z<|Q9 Z<|x (ZV (us:=[q.vs,q.vx,q.vk]) gl.B Z Z Z)<|Qa<|Qx<|hvo.S ?_;rintro r14 hg ⟨Y,rfl⟩;refine Qa<|QU Z Z<|QU Z Z<|QU Z Z<|QU Z Z<|x Qd<|x Qd<|x Qd<|Qb<|QQ<|Qw ol ol<|Qa<|xe ?_;have m4:=Qm kc.b Y;refine KW Z (λke=>?_) (λke=>?_)
  ·rw[O0 ke]at hh;refine Qw ol ol<|Qa<|ZC (m3.I Y) Z Z<|Qo<|Q5 [[sS k]] λb85 y1 hn hb85 hB85=>?_;have zy1:=hn.size;have hz14:=Y.size;refine Qo<|Q2 (m:=1) (news:=[sS k]) (L:=[]) (Qm m4 hn) Z Z Z (hB85.at oe) oo oa oa λz y2 gm hL kf=>Qb<|⟨z,⟨rfl,La⟩,rfl,(Y.D hn).any.Q hL,by rw[hh];exact Qh.snoc gm,λx hx=>(kf x hx).imp id (λh=>oa)⟩
  rw[OZ (by rw[ke];decide),LK]at hh;refine Yb ?_;exact⟨vb,Lb,Z,Y.any,by rw[hh];exact m4,λx hx=>.inl hx⟩
 rintro gj g h7 hg ⟨rfl,Y,hbO,hbn⟩;have hI14:=kc.addB hA Y hbO hbn;have hz14:=Y.size;have kg:∀x∈ob vb,x∈G::av:=λx hx=>Lj _ (by rw[<-g8];exact Lk.2 (.inl hx));have m5:∀x∈G::ob ve,x∈G::av:=λx hx=>by
  rcases Ll.1 hx with rfl|hx
  ·exact Lh
  exact Lj _ (by rw[<-g8];exact Lk.2 (.inr hx))
 have kh:=m0.st (Y.S kg);have hI9a:=kb.st (Y.S kg);have m6:=mz.st (Y.S kg);have hH:xh [G] I hg:=(hC.D hK.any).Z Y (λx hx=>.inr (hE x hx).1);have hs014:sW w hg:=(hz.D hP).O hH oa;have hn7b:b7∉ob vb:=λJ=>oq (hE b7 J).2
 have gb:b6∉[G]:=om
 have hw:KX ↑I ↑h4 h7 hg:=(mf.I hK).J Y (Go.Lg.Q3 kc.b);refine QQ<|Un (sW hg) [oB 0,oB 1,oB 2,oB 3,oB 4,oC 5,oB 6,oB 7] mixed ol ol od (xh.Y _ _) ?_;refine p Qy<|p (YR Z)<|p (QH Z)<|pq (λ_ hc=>Qj (kh.B.I hc) Z Z)<|p Qy<|pk<|xg<|(Qca (hI9a.I (xh.Y _ _)) ((kq.I hs014).I (xh.Y _ _)) m2 oa).S ?_;rintro r15 w15 ⟨rfl,hs15⟩;have ki:=(xh.Y [] hg).D hs15;refine⟨ki,?_⟩;have m7:(match xt q.mm (K5 tc) with|some u=>u|none=>sS 0)=sS (plx (q.qs.map (·.2)) tc):=by
  rw[U.m tc htcl2 (λx hx=>(m2 x hx).1)];unfold plx;by_cases J:tc∈q.qs.map (·.2)
  ·rw[O0 J,O0 J]
  rw[OZ J,OZ J]
 have hM:=Qc1 U.ok U.p;have m8:=QjK hM.2.2.1 tc;refine Zh (plx (q.qs.map (·.2)) tc) λpi hpi=>?_;rw[hpi]at m7 hy m8;rw[<-hM.2.1]at m8;have hckp:cks q.p.a pi=0:=by
  unfold cks;rw[OZ (by rw[(ZA q.p.a).2 hM.1];decide),OZ oa]
 refine pq (λ_ hc=>(Jw (k:=K5 tc) (kh.m.I hc) Z Z).D (O1 (λv=>Result.ok (Next.value v) _) m7))<|p ZK<|pe ?_;refine QQ<|Qw ol ol<|Qa<|Qa<|Qa<|Qx<|(q6 (b:=b) (st:=pi) (vr:=my) m6.cells).S ?_;rintro r16 h8 ⟨hs16,c1,c2,c3,rfl,hc1,kw,hc3,hR1,hR2,hR3⟩;refine xe ?_;have hu:=ki.D hs16;have hz1415:=ki.size;have hz16:=hu.size;have kj:=hI14.I hu;have hD16:=hw.I hu;have hB716:=(m3.J Y hn7b).I hu;have hB616:=(hR.J hH gb).I hu;have hs516:xh [G] I h8:=hH.D hu.any;refine Zh (wrf q.c.V.rq tr (enb q.p.a pi)) λfl kk=>?_;rw[kk]at hy;have kn:∀x∈G::ob ve,x<hg.heap.size:=λx hx=>by
  rcases Ll.1 hx with rfl|hx
  ·omega
  have:=(hv x hx).2;omega
 have hSt16:JQ (G::ob ve) b ↑h8 q:=(kh.I hu).up (λx hx=>.inl (m5 x hx));have hIr16:Qu (G::ob ve) ↑h8 my tr:=(m6.I hu).up (λx hx=>.inl (m5 x hx));have hEv:∀p∈fl,0<=p.1/\p.1<32:=λp hp=>by
  rw[<-kk]at hp;have g1:=(zD.1 hp).1;unfold enb at g1;obtain⟨e,he,g2⟩:=Lu.1 g1;have g3:=hM.1.al _ (hM.1.ed e (Zx he).1).2.2.1;rw[g2]at g3;exact g3
 have hn7L:b7∉G::ob ve:=λJ=>by
  rcases Ll.1 J with g1|g1
  ·omega
  have:=(hv b7 g1).2;omega
 have hn6L:b6∉G::ob ve:=λJ=>by
  rcases Ll.1 J with g1|g1
  ·omega
  have:=(hv b6 g1).1;omega
 have gy:G∉ob ve:=QJ O.e hA;have hb016:I.heap.size<=h8.heap.size:=oa
 have hel2:es.length+1<=1099511627776:=oa
 have hkb2:(0:Int)<=(k:Int)/\(k:Int)<1099511627776:=oa
 refine ZL<|Qed (α:={ x:Int×Int // x∈fl }) (G::ob ve) oa (capt:=[sP c1,sP c2,sP c3]) Z (encs:=λx=>[sS x.1.1,sS x.1.2]) oh (λ_=>Z)
  (Uz hR1 hR2 hR3 (λJ=>oq (kn _ J)) (λJ=>oq (kn _ J)) (λx hx=>oq (kn _ hx)) hSt16 hIr16 (λx hx=>hok.rq x.it (LL hx)) hVr hckp Z kk)
  (λpre W=>∃hs hj,xh (G::ob ve) h8 W/\CmI G ↑I W xa (q.s.a.st+1) xm gj hs g9 hj/\(pre=[]->hs=ve/\hj=es)/\hj.length<=es.length+pre.length)
  (λpre=>Ye.ex λhs=>Ye.ex λhj=>(Ye.J (Lr _)).and (CmI.stb.and ((Ye.pure _).and (Ye.pure _))))
  (λ_ _ _=>False) (λ_ _=>Ye.pure _)
  ⟨ve,es,xh.C _ _,kj,λ_=>⟨Z,Z⟩,Lr _⟩
  (λf x f' W=>f'=upd (upd (upd f 98 (sS x.1.1)) 99 (sS x.1.2)) 16 (sS x.1.1)) (λx f'=>Ye.pure _) ?_ ?_ ?_ ?_
 ·rintro l pre ⟨⟨e,i⟩,he⟩ W hW;refine Qw ol ol<|Qb<|⟨Z,X6.refl _ _ _,Lg.JR.refl _ _,hW,Z⟩
 ·rintro l pre ⟨⟨e,i⟩,he⟩ f' W ⟨hs,hj,hf,ho,m9,hlen⟩ rfl hN;have pc:pre=[]:=Lt (Nat.lt_one_iff.1 (LX hN hy));rw[((m9 pc).1),((m9 pc).2)]at ho;have pd:=hf.size;have hee:=hEv _ he;refine ZL<|Qw ol ol<|Qs Z ho.B Z Z<|ZC (hB716.J hf hn7L) Z Z<|Qa<|ZC (hB616.J hf hn6L) Z Z<|x (QC ⟨Z,Z,Z,La⟩)<|Qo<|Q5 [Qp ((k:Int),e,q.s.a.st)] λb106 y1 hn hb106 hB106=>?_;have zy1:=hn.size;refine Qo<|Q2 (m:=1) (news:=Qp ((k:Int),e,q.s.a.st)) (L:=[]) (Qm ho.e hn) Z Z Z (hB106.at oe) (by simp[Qp,Value.oneCell']) hel2 oa λu y2 gm hL kf=>?_;refine Q9 Z<|Qo<|Qv (u:=u) ((ho.B.I hn).J hL gy) Z Z oe (QA gm) λy3 pf hB3=>xe ?_;have ko:xh (G::ob ve) W y3:=(hn.any.Q (hL.S λx hx=>Lj _ hx)).Q (pf.S oe);have hnw:∀x∈ob u,x∈ob ve\/↑W<=x:=λx hx=>(kf x hx).imp id (λh=>oa);refine⟨X6.J ko pd (λx hx=>⟨.inl hx,?_⟩),Lg.JR.J ko,u,es++[((k:Int),e,q.s.a.st)],hf.Q ko,ho.addE hA (hn.any.Q hL) gm hnw pf hB3 ⟨hkb2,og⟩,λh=>O2 h oe,by simp only[oO,oL];omega⟩;rcases Ll.1 hx with rfl|hx
  ·exact ho.B.cells
  exact Go.Lg.Q3 ho.e x hx
 ·rintro D xs W hD hxs ⟨hs,hj,hf,ho,_,hlen⟩ hdD;have hxl:xs.length=fl.length:=by have g1:=O1 oY hxs;rw[Lo]at g1;exact g1
  have pd:=hf.size;refine⟨(gj,hs,hj),oy,hs516.Z hf (λx hx=>?_),((hD16.J hf (λx hx=>?_)).up oa).cons oa (show ↑h8<=D from hD) hdD,ho,og⟩
  ·rcases Ll.1 hx with rfl|hx
   ·exact .inl Lh
   exact .inr (hv x hx).1
  rcases Ll.1 hx with rfl|hx
  ·exact kj.B.cells
  exact Go.Lg.Q3 kj.e x hx
 rintro D e pre W hD hSp hF;exact hF.elim
instance ayZi1:Ay sV 29 3 28 27:=⟨od,od⟩
theorem Qgk (p:Int×Int):∀u∈Zf p,u.oneCell'=true:=by
 intro y G;simp only[Zf,oN,oJ,or_false]at G;rcases G with rfl|rfl <;> rfl
instance ayAv1:Ay sV 23 5 5 1:=⟨underlying23,od⟩
def nm1 (c k:Nat):ByteArray:=⟨#[UInt8.ofNat (c+k)]⟩
def KR (k n:Nat):VP:=if 48<=n/\n<52 then⟨nm1 97 k,false,false,false,(n:Int) - 47⟩else
 ⟨nm1 97 k,decide (((n &&& 1:Nat):Int)=1),decide (((n &&& 2:Nat):Int)=2),decide (((n &&& 4:Nat):Int)=4),0⟩
def JJ (ns:LN)(i:Nat):List VP:=(oM i).map λk=>KR k (ns.getD k 0)
theorem Qfd (ns:LN)(i:Nat):JJ ns (i+1)=JJ ns i++[KR i (ns.getD i 0)]:=by
 unfold JJ;rw[Nl,Lv];rfl
theorem VL (ns:LN)(i:Nat):(JJ ns i).length=i:=by unfold JJ;simp
theorem Qee (hn:ns.length=5)(hb:∀n∈ns,n<256):
  QT sV 82 [sT (bys ns)] w λr w'=>sW w w'/\w'.ownsRow ↑w 94 5 r (JJ ns 5).length ((JJ ns 5).flatMap Zy):=by
 refine Zo func82 ?_;refine Qc<|Zd (bys ns) λb1 w1 hp hO hq=>Qb<|Qc<|Qb<|Qe<|Qc<|Qb<|QZ (α:=Nat×O8) [(3,53)] (λz=>[(3,z.2),(4,sS z.1)]) (λz w'=>z.1<=5/\sW w1 w'/\w'.ownsRow ↑w1 94 5 z.2 (JJ ns z.1).length ((JJ ns z.1).flatMap Zy)) (λz=>5 - z.1) (0,Zq) oy
  ⟨Lp _,xh.C _ _,QM _ _ _ _⟩ ?_
 rintro⟨k,v⟩ g w2 ⟨hk,Y,O⟩;simp only[]at hk O;refine Qe<|Ql<|ZY Z Z<|xe<|Zp rfl (λh7=>?_) (λh7=>?_)
 ·refine Qt ?_;have hw:k=5:=by have h8:¬(k:Int)<5:=h7;omega
  rw[hw]at O;refine Ql<|Qb<|Qk ⟨[v],Lb,hp.D Y,Za O hp.size⟩
 have G:k<5:=by have h8:(k:Int)<5:=h7;omega
 have q:=qS (ns:=ns) (j:=0+k*1) oa;have ql:=Jr hb (0+k*1);have hy:ns.getD (0+k*1) 0=ns.getD k 0:=by rw[show 0+k*1=k by omega]
 rw[hy]at q ql;have hr:=Qfd ns k;have hP:=VL ns k;refine Zh (ns.getD k 0) λn h0=>?_;rw[h0]at q ql hr;have h3:=hq.I Y;refine Qf<|Qe<|Qn<|Ql<|x (Yh (k':=.u8) Z ⟨oa,oa⟩)<|QB Z Z<|Qo<|Q5 [[.int .u8 ((97:Int)+(k:Int))]] λh4 w3 hf hQ h5=>?_;have h6:((97:Int)+(k:Int))=((97+k:Nat):Int):=oa
 have h9:QL ↑w3 h4 5 [.int .u8 ((97+k:Nat):Int)]:=by rw[<-h6];exact h5
 refine x (QpS (n:=97+k) h9 oa Z)<|x (QC ⟨Z,La⟩)<|Qo<|Y0 (us:=[.string ⟨#[]⟩,.bool false,.bool false,.bool false,sS 0]) Z λI w4 hA hR hB=>Q6 (Zy ⟨nm1 97 k,false,false,false,0⟩) hB ⟨Z,Z,Z,Z,Z,La⟩ λw5 hC hs =>
  xe ?_
 have hg:sW w2 w5:=(hf.D hA).O hC (oq hf.size);have J:=h3.I hg;have hS:=hg.size;have hT:=hf.size;have hU:=hq.lt;have hV:=Y.size;have hh:b1∉[I]:=om
 refine QY (α:=Unit) [(16,49)] (λ_=>[]) (λ_ w'=>xh [I] w5 w'/\QL ↑w' I 94 (Zy (KR k n))) ol ?_ ?_
 ·refine QY (α:=Bool) [(16,25)] (λz=>[(25,.bool z)]) (λz w'=>w'=w5/\(z=true↔48<=n/\n<52)) ol ?_ ?_
  ·refine Qr<|Qa<|x (ZW (i:=k) Z Z G)<|ZC J Z q<|xb (Yl Z Z) (λhj=>?_) (λhj=>?_)
   ·have hu:(48:Int)<=(n:Int):=hj;refine Qa<|Qa<|x (ZW (i:=k) Z Z G)<|ZC J Z q<|ZY Z Z<|QE Z<|xe<|⟨decide ((n:Int)<52),Lb,Z,?_⟩;rw[decide_eq_true_eq];omega
   have hu:¬(48:Int)<=(n:Int):=hj;refine Qa<|Zz<|Kg<|QE Z<|xe ?_;exact⟨false,Lb,Z,⟨λh=>(by cases h),λh=>O2 oa hu⟩⟩
  rintro z g6 U ⟨rfl,hz⟩;refine Q8 Z (λha=>?_) (λha=>?_)
  ·have hc:=hz.1 ha;refine Qr<|Qa<|x (ZW (i:=k) Z Z G)<|ZC J Z q<|x (Yh (k':=.i64) Z ⟨oa,oa⟩)<|x (JE Z Z ⟨oa,oa⟩)<|Q9 Z<|Qo<|Qv hs Z Z oe rfl λw7 V hm =>
    xe ?_
   refine⟨(),La,V,?_⟩;unfold KR;rw[O0 hc];exact hm
  have hc:¬(48<=n/\n<52):=λh=>by have:=hz.2 h;rw[this]at ha;cases ha
  have he:sW U { U with drawn:=U.drawn+1 }:=xh.Y _ _
  refine ZJ [I] (Xk 0 21 [16,18,20])<|p Qy<|p (λ_=>ZW (i:=k) Z Z G)<|pq (λ_ hc=>Qj (J.J hc hh) Z q)<|p (λ_=>qy (a:=n) (b:=1) Z Z ql oh)<|p (λ_=>Zc Z Z) <|
   p Qy<|p (λ_=>ZW (i:=k) Z Z G)<|pq (λ_ hc=>Qj (J.J hc hh) Z q)<|p (λ_=>qy (a:=n) (b:=2) Z Z ql oh)<|p (λ_=>Zc Z Z) <|
   p Qy<|p (λ_=>ZW (i:=k) Z Z G)<|pq (λ_ hc=>Qj (J.J hc hh) Z q)<|p (λ_=>qy (a:=n) (b:=4) Z Z ql oh)<|p (λ_=>Zc Z Z)<|?_
  refine p (QH Z)<|pk<|Qv (hs.I he) Z Z oe rfl λw7 V hm=>⟨(he.any (L:=[I])).Q V,?_⟩;refine p (QH Z)<|pk<|Qv hm Z Z oe rfl λw8 hv hD=>⟨((he.any (L:=[I])).Q V).Q hv,?_⟩;refine p (QH Z)<|pkk<|Qv hD Z Z oe rfl λw9 hE hF=>pe ?_;refine⟨(),La,(((he.any (L:=[I])).Q V).Q hv).Q hE,?_⟩;unfold KR;rw[OZ hc];exact hF
 rintro _ g6 U ⟨hG,hH⟩;have hI:sW w2 U:=hg.O hG oa;refine Qr<|Qa<|Q7 hH Z Z<|Qo<|Q5 [Zy (KR k n)] λhW hX hJ hY hK=>?_;have ho:=hI.D hJ;have hZ:=ho.size;refine Qo<|Q2 (news:=Zy (KR k n)) (L:=[]) (Qm O ho) Z Z Z (hK.at oe) (Qdv _) oa oa λhL ga hM hN gb =>
  Qb<|Qr<|Qa<|QB Z Z<|Qb<|⟨(k+1,hL),og,oy,G,(Y.D ho).Z hN (λc hc=>.inr (Qi O c hc).1),?_⟩
 simp only[];rw[hr,Le,LJ];simpa using hM
def X8 (n m:Nat):LI:=(oM n).map λk:Nat=>if k<m then(k:Int) else -1
theorem QaF {k:Nat}(h:k<m):ZZ (Yu m) (k:Int)=k:=by
 unfold ZZ Yu;simp[oQ,h]
theorem Qsf {fd R:LI}{t:Int}(I:fd=out++R)(G:t∈out):zt fd t=(out.idxOf t:Nat):=by
 subst I;unfold zt;rw[O0 (LH _ G),Me,O0 G]
theorem Qqw {fd R:LI}{t:Int}(G:fd=out++[t]++R)(I:t∉out):zt fd t=(out.length:Nat):=by
 subst G;unfold zt;rw[O0 oe,LB,Me,OZ I];simp
theorem QaE {k:Nat}(h:k<n):ZZ (X8 n m) (k:Int)=if k<m then(k:Int) else -1:=by
 unfold ZZ X8;simp[oQ,h]
theorem Qkd :(X8 n m).set m (m:Int)=X8 n (m+1):=by
 apply L5
 ·simp[X8]
 intro k h1 h2;have I:k<n:=by simpa[X8]using h2
 rw[M9];by_cases e:m=k
 ·subst e;simp[X8]
 rw[OZ e];simp only[X8,List.getElem_map,List.getElem_range];by_cases G:k<m
 ·rw[O0 G,O0 oa]
 rw[OZ G,OZ oa]
theorem Qan {R:Nat->List Ed}(hR:∀i,∀e∈R i,e.1=(i:Int))(j:Nat):∀n,QK ((oP 0 n).flatMap R) j=if j<n then R j else[]
 | 0=>by simp[QK]
 | n+1=>by
  have G:QK (R n) j=if n=j then R n else[]:=by
   unfold QK;by_cases e:n=j
   ·rw[O0 e];exact NK.2 λx hx=>O3 (by rw[hR n x hx,e])
   rw[OZ e];exact MS.2 λx hx=>by rw[decide_eq_true_eq,hR n x hx];omega
  rw[Ms,LJ,LY];unfold QK at G ⊢;rw[LW];have ih:=Qan hR j n;unfold QK at ih;rw[ih];simp only[oV,OP,Oq];rw[G];by_cases h1:j<n
  ·rw[O0 h1,OZ oa,O0 oa,LK]
  rw[OZ h1];by_cases h2:n=j
  ·subst h2;rw[O0 rfl,O0 oa,MC]
  rw[OZ h2,OZ oa];rfl
theorem zU {s:Int}:∀(vs:LI) (out:LI),∃r,vs.foldl (VR a s) out=out++r
 | [],out=>⟨[],oe⟩
 | v::vs,out=>by
  rw[LP];obtain⟨r,G⟩:=zU vs (VR a s out v);rw[G];unfold VR;split
  ·exact⟨[nxt a.ed s v]++r,by rw[LB]⟩
  exact⟨r,Z⟩
theorem zS:∀(f i:Nat) (out:LI),∃r,zT a f i out=out++r
 | 0,i,out=>⟨[],by simp[zT]⟩
 | f+1,i,out=>by
  rw[zT];split
  ·obtain⟨r,G⟩:=zS f (i+1) (fdR a out (xj out i));obtain⟨r',I⟩:=zU (a:=a) (s:=xj out i) a.al out;refine⟨r'++r,?_⟩;rw[G];unfold fdR;rw[I,LB]
  exact⟨[],oe⟩
theorem zH {fd:LI}{i:Nat}:∀(vs out:LI) (c:Cs),(∃r,fd=vs.foldl (VR a (xj fd i)) out++r)->c.ord=Yu out.length->c.num=X8 fd.length out.length ->
  (vs.filterMap (KC a fd i)).foldl (Zs i) c=⟨Yu (vs.foldl (VR a (xj fd i)) out).length,X8 fd.length (vs.foldl (VR a (xj fd i)) out).length,c.mk',c.ed++vs.filterMap (KC a fd i)⟩
 | [],out,c,_,h1,h2=>by
  obtain⟨o,n,m,e⟩:=c;subst h1 h2;simp
 | v::vs,out,c,G,h1,h2=>by
  rw[LP]at G ⊢;obtain⟨r,G⟩:=G;obtain⟨r2,he⟩:=zU (a:=a) (s:=xj fd i) vs (VR a (xj fd i) out v);have I:fd=VR a (xj fd i) out v++(r2++r):=by rw[<-LB,<-he];exact G
  by_cases U:0<=nxt a.ed (xj fd i) v
  ·have V:KC a fd i v=some ((i:Int),v,zt fd (nxt a.ed (xj fd i) v)):=by unfold KC;rw[O0 U]
   rw[My,V];simp only[];rw[LP];by_cases J:nxt a.ed (xj fd i) v∈out
   ·have O:VR a (xj fd i) out v=out:=by unfold VR;rw[OZ (λh=>h.2 J)]
    rw[O]at G I ⊢;have hix:zt fd (nxt a.ed (xj fd i) v)=(out.idxOf (nxt a.ed (xj fd i) v):Nat):=Qsf I J;have hf:=Md J;have ha:out.length<=fd.length:=by rw[I];simp
    have Y:Zs i c ((i:Int),v,zt fd (nxt a.ed (xj fd i) v))=⟨c.ord,c.num,c.mk',c.ed++[((i:Int),v,zt fd (nxt a.ed (xj fd i) v))]⟩:=by
     unfold Zs;simp only[];rw[h2,hix,QaE oa,O0 hf,OZ oa]
    rw[Y,zH vs out ⟨c.ord,c.num,c.mk',c.ed++[((i:Int),v,zt fd (nxt a.ed (xj fd i) v))]⟩ ⟨r,G⟩ h1 h2];simp only[Om,OA]
   have O:VR a (xj fd i) out v=out++[nxt a.ed (xj fd i) v]:=by unfold VR;rw[O0 ⟨U,J⟩]
   rw[O]at G I ⊢;have hix:zt fd (nxt a.ed (xj fd i) v)=(out.length:Nat):=Qqw I J;have ha:out.length<fd.length:=by rw[I];simp
   have Y:Zs i c ((i:Int),v,zt fd (nxt a.ed (xj fd i) v))=⟨Yu (out.length+1),X8 fd.length (out.length+1),c.mk',c.ed++[((i:Int),v,zt fd (nxt a.ed (xj fd i) v))]⟩:=by
    unfold Zs;simp only[];rw[h1,h2,hix,QaE ha,OZ (Nat.lt_irrefl _),O0 oa,JI,qF];simp only[OE];rw[Qkd]
   rw[Y,zH vs (out++[nxt a.ed (xj fd i) v]) _ ⟨r,G⟩ oe oe];simp only[Om,OA]
  have V:KC a fd i v=none:=by unfold KC;rw[OZ U]
  have O:VR a (xj fd i) out v=out:=by unfold VR;rw[OZ (λh=>U h.1)]
  rw[O]at G ⊢;rw[My,V];exact zH vs out c ⟨r,G⟩ h1 h2
theorem QlZ (fd:LI)(i:Nat):Y2 a fd (i+1)=Y2 a fd i++(if xj fd i∈a.mr then[(i:Int)]else[]):=by
 unfold Y2;rw[Ms,LW,Lv,LY];by_cases h:xj fd i∈a.mr <;> simp[h]
theorem Ql1 (fd:LI)(i:Nat):Xh a fd (i+1)=Xh a fd i++a.al.filterMap (KC a fd i):=by
 unfold Xh;rw[Ms,LJ,LY];simp
theorem QdV {fd:LI}(h:i<n):(i:Int)∈Y2 a fd n↔xj fd i∈a.mr:=by
 unfold Y2;simp only[Oj,Of,Od,decide_eq_true_eq];constructor
 ·rintro⟨k,⟨_,h2⟩,G⟩;have:k=i:=oa
  subst this;exact h2
 intro h2;exact⟨i,⟨oa,h2⟩,Z⟩
theorem Ql0 {fd:LI}(U:fd=xz a)(ho:fd.length<=a.st.toNat):∀(f g i:Nat) (out:LI),i<=out.length->zT a g i out=fd->i+g=a.st.toNat->fd.length<=i+f ->
  Xg (Xc a) f i ⟨Yu out.length,X8 fd.length out.length,Y2 a fd i,Xh a fd i⟩=⟨Yu fd.length,X8 fd.length fd.length,Y2 a fd fd.length,Xh a fd fd.length⟩:=by
 have ha:(Xc a).ed=Xh a fd fd.length:=by rw[U];rfl
 have hf:(Xc a).mr=Y2 a fd fd.length:=by rw[U];rfl
 have done:∀(i:Nat) (out:LI),i<=out.length->out=fd->¬i<out.length->(⟨Yu out.length,X8 fd.length out.length,Y2 a fd i,Xh a fd i⟩:Cs)=⟨Yu fd.length,X8 fd.length fd.length,Y2 a fd fd.length,Xh a fd fd.length⟩:=by
  intro i out h1 h2 V;have:i=fd.length:=by rw[<-h2];omega
  rw[this,h2]
 intro f;induction f with
 | zero =>
  intro g i out h1 h2 V h4;obtain⟨r,G⟩:=zS (a:=a) g i out;rw[h2]at G;have hl:fd.length=out.length+r.length:=by rw[G,Le]
  have hg:r=[]:=Lt oa;rw[Xg];exact done i out h1 (by rw[G,hg,LK]) oa
 | succ f ih =>
  intro g i out h1 h2 V h4;obtain⟨r,G⟩:=zS (a:=a) g i out;rw[h2]at G;have hl:fd.length=out.length+r.length:=by rw[G,Le]
  rw[Xg];simp only[JI];by_cases hi:i<out.length
  ·rw[O0 hi];obtain⟨I,rfl⟩:∃I,g=I+1:=⟨g - 1,oa⟩;rw[zT,O0 hi]at h2;have hh:xj out i=xj fd i:=by
    rw[G];unfold xj;simp[oQ,Oa hi]
   rw[hh]at h2;have O:i<fd.length:=oa
   have hj:QK (Xc a).ed (i:Int)=a.al.filterMap (KC a fd i):=by
    rw[ha];unfold Xh;rw[Qan (λj e he=>by
     obtain⟨v,_,J⟩:=MI.1 he;unfold KC at J;split at J
     ·cases J;rfl
     cases J),O0 O]
   have hk:Ym (Xc a) i ⟨Yu out.length,X8 fd.length out.length,Y2 a fd i,Xh a fd i⟩=⟨Yu out.length,X8 fd.length out.length,Y2 a fd (i+1),Xh a fd i⟩:=by
    unfold Ym;simp only[];rw[QaF hi,hf,QlZ];by_cases hc:xj fd i∈a.mr
    ·rw[O0 ((QdV O).2 hc),O0 hc]
    rw[OZ (λh=>hc ((QdV O).1 h)),OZ hc];simp
   have hm:zp (Xc a) i ⟨Yu out.length,X8 fd.length out.length,Y2 a fd i,Xh a fd i⟩=⟨Yu (fdR a out (xj fd i)).length,X8 fd.length (fdR a out (xj fd i)).length,Y2 a fd (i+1),Xh a fd (i+1)⟩:=by
    unfold zp;rw[hk];simp only[];rw[QaF hi,hj];obtain⟨r3,Y⟩:=zS (a:=a) I (i+1) (fdR a out (xj fd i));rw[h2]at Y;rw[zH a.al out ⟨Yu out.length,X8 fd.length out.length,Y2 a fd (i+1),Xh a fd i⟩ ⟨r3,Y⟩ rfl rfl,Ql1];rfl
   rw[hm];obtain⟨r4,hn⟩:=zU (a:=a) (s:=xj fd i) a.al out;exact ih I (i+1) _ (by unfold fdR;rw[hn,Le];omega) h2 oa oa
  rw[OZ hi];have h5:zT a g i out=out:=by
   cases g with
   | zero=>rfl
   | succ g=>rw[zT,OZ hi]
  exact done i out h1 (h5.symm.D h2) hi
theorem QlY (G:QO a)(I:0<a.st):Yz (Xc a)=Xc a:=by
 have Y:=QdU G I;have ha:(Xc a).st=((xz a).length:Int):=rfl;have J:(Xc a).st.toNat=(xz a).length:=oa
 have h:=Ql0 (a:=a) Z ((yU G).1.len G.st0) (xz a).length a.st.toNat 0 (fd0 a) (Lp _) Z oa oa;have O:fd0 a=[0]:=by unfold fd0;rw[O0 I]
 rw[O]at h;have U:Z3 (Xc a)=⟨Yu 1,X8 (xz a).length 1,Y2 a (xz a) 0,Xh a (xz a) 0⟩:=by
  unfold Z3;rw[J];have e:(oI (xz a).length (-1:Int)).set 0 0=X8 (xz a).length 1:=by
   apply L5
   ·simp[X8]
   intro k h1 h2;rw[M9];simp only[X8,List.getElem_map,List.getElem_range,Oy];by_cases e:k=0
   ·subst e;simp
   rw[OZ oa,OZ oa]
  rw[e];simp[Yu,Y2,Xh]
 unfold Yz;rw[OZ oa];simp only[];rw[U,J];have V:Xg (Xc a) (xz a).length 0 ⟨Yu 1,X8 (xz a).length 1,Y2 a (xz a) 0,Xh a (xz a) 0⟩=⟨Yu (xz a).length,X8 (xz a).length (xz a).length,Y2 a (xz a) (xz a).length,Xh a (xz a) (xz a).length⟩:=h;rw[V];simp only[JI];rfl
theorem yN (G:QO a)(I:0<a.st):Kv (Xc a)=true:=by
 unfold Kv;rw[QlY G I];simp[(ZA _).2 (Qb9 G).1]
theorem GdA.can (h:GdA a):Kv a=true:=by
 obtain⟨G,h1,h2,rfl⟩:=h.c;exact yN h1 h2
end Go.Lg
